/- Part 5 of a proof: plain facts and walks of functions, merged by a program. Conditions: each lemma names its own. -/
import Derived.Test.YtaajaakbcelmfaaGreatDoorCs4
namespace Go.Rl
open Go.RowKit Go.Proofs
theorem ES:ay Tryz.prog 76:=⟨_,Tryz.func76,by kernel_rfl,rfl⟩
theorem JH:(Tryz.prog.info? 203).map (·.zero)=some (some (.agg (List.replicate 8 (U8 0)).toArray)):=by kernel_rfl
theorem Af {g k:Nat} {v:Value} (h:v.ownBlock=some k) (hne:k≠g):BP g v:=by
 rintro a n c rfl
 intro he
 have:some a.block=some k:=h
 exact hne (by rw[←Option.some.inj this];exact he)
theorem Ii (n:UInt64) {i:Nat} (hi:i<8):(zo n).getD i 0=(n>>>UInt64.ofNat (56-8*i)).toUInt8:=by
 simp[zo,hi]
section
variable {w:World} {g o:Nat} {T:TypeId}
theorem JI (i:Nat) (hi:i<8):(Instr.indexAt 203 (.pointer (some ⟨g,0,none⟩)) (I (i:Int))).run Tryz.prog w=.ok (.pointer (some ⟨g,i,none⟩)) w:=by
 have:=yI (P:=Tryz.prog) (w:=w) (g:=g) (o:=0) Tryz.underlying203 fO hi .i64
 rwa [Nat.zero_add] at this
theorem JJ:(Instr.sliceAt 203 (.pointer (some ⟨g,0,none⟩)) none none none).run Tryz.prog w=.ok (.slice (some ⟨g,0,none⟩) 8 8) w:=by
 simp[Instr.sliceAt,run_underlying Tryz.underlying203,Instr.sureAddr,Instr.sliceBounds,dJ fO,Addr.add_mid]
theorem cd.bts {m:List UInt8} (h:cd g T (m.map U8) w) (hm:m.length≤64):cm m (.slice (some ⟨g,0,none⟩) m.length m.length) w:=
 ⟨_,_,_,rfl,Nat.le_refl _,by unfold maxLen;omega,by simp,fun _=>⟨_,rfl,fun j v hj=>by rw[Addr.add_mid,Nat.zero_add];exact h.cell hj⟩,fun h=>by cases h⟩
end
theorem ET {w:World} {g:Nat} {m:List UInt8} (hh:HA g m (UInt64.ofNat m.length) w):
 Calls Tryz.prog 76 #[.pointer (some ⟨g,0,none⟩)] w (bE fun r w'=>aI w w'∧r=.agg ((je m).map U8).toArray):=by
 obtain⟨blk,hc,ht⟩:=hh
 refine enter (vs:=[.pointer (some ⟨g,0,none⟩)]) Tryz.func76 Ll Ll Ll ?_
 obtain⟨g2,w1,hr,n2,x1,b2⟩:=be (P:=Tryz.prog) (w:=w) (l:=(List.replicate 32 0).map U8) m0 rfl
 refine af (aa (bf Ll hr (ag (ab (af (af (aa (ae Ll Ll ?_))))))))
 refine ai Ll Ll Ll (mA Tryz.underlying129) ?_
 refine ag (ab ?_)
 refine cp Ll ?_
 refine ar (ab (af (aa (ae Ll Ll ?_))))
 refine aH Ll Ll ?_
 refine am Ll Ll (hc.ext x1).ldH ?_
 obtain⟨g3,w2,hr,n3,x2,b3⟩:=be (P:=Tryz.prog) (w:=w1) (l:=da (List.replicate 8 0) (List.replicate 64 0) 0 0) EM rfl
 refine bf Ll hr ?_
 have hl:=gG (u:=((m.length%64:Nat):Int)) (tot:=UInt64.ofNat m.length) hc.ls hc.lb
 refine aq Ll Ll (it b3 (by rw[hl];rfl) (by rw[hl];exact wr) Ky) ?_
 have hA:HA g3 m (UInt64.ofNat m.length) (w2.setRow g3 (da (sh m) blk ((m.length%64:Nat):Int) (UInt64.ofNat m.length)).toArray):=⟨blk,⟨b3.row _,hc.ls,hc.lb⟩,ht⟩
 have q3:=bp w2 g3 (da (sh m) blk ((m.length%64:Nat):Int) (UInt64.ofNat m.length)).toArray
 have l23:g2<g3:=Nat.lt_of_lt_of_le b2.lt n3
 have ne23:some g2≠some g3:=fun h=>by cases h;omega
 have hw3:w.heap.size≤g3:=by omega
 have B2:=(b2.ext x2).other q3 ne23
 have E3:=(x1.trans x2).of_new q3 hw3
 revert hA B2 E3
 generalize w2.setRow g3 (da (sh m) blk ((m.length%64:Nat):Int) (UInt64.ofNat m.length)).toArray=w3
 intro hA B2 E3
 refine ag (ab (af (aa ?_)))
 refine ah Ll Ll JG ?_
 obtain⟨blk',hcA,htA⟩:=id hA
 refine am Ll Ll (aj KN Ll hcA.cellT) ?_
 refine ai (v:=bj 8) Ll Ll Ll (fZ) ?_
 refine ac Ll Ll (ag (ab (af (aa ?_))))
 obtain⟨r4,w4,hr,x4,o4,ob4⟩:=fE (w:=w3) w3.heap.size [128] (by simp) (Nat.le_refl _)
 refine aO (vs:=[(0,U8 128)]) Ll Ll hr ?_
 refine an lQ Ll Ll (lR (hA.ext x4) o4.bts (fun _=>Af ob4 (by have:=hA.lt;omega))) ?_
 rintro _ w5 ⟨q5,h5⟩
 have B5:=(B2.ext x4).other q5 ne23
 have E5:=(E3.trans x4).of_new q5 hw3
 refine ag (ab ?_)
 have hp:gz m.length<64:=by unfold gz;omega
 refine af (fj (fun _:Unit=>[(2,.pointer (some ⟨g2,0,none⟩)),(3,.pointer (some ⟨g3,0,none⟩)),(4,bj (UInt64.ofNat m.length*8))]) (fun _ w'=>aI w w'∧cd g2 22 ((List.replicate 32 0).map U8) w'∧∃tot,HA g3 (m++[128]++List.replicate (gz m.length) 0) tot w') ?_ ?_)
 ·refine ax ?_
  refine bZ (α:=Nat) (fun _=>[(2,.pointer (some ⟨g2,0,none⟩)),(3,.pointer (some ⟨g3,0,none⟩)),(4,bj (UInt64.ofNat m.length*8))])
   (fun k w'=>aI w w'∧cd g2 22 ((List.replicate 32 0).map U8) w'∧(∃tot,HA g3 (m++[128]++List.replicate k 0) tot w')∧k≤gz m.length) (fun k=>gz m.length-k) 0 ⟨rfl,rfl,rfl,trivial⟩
   ⟨E5,B5,⟨_,by simpa using h5⟩,by omega⟩ ?_
  rintro k w6 ⟨E6,B6,⟨tot,h6⟩,hk⟩
  obtain⟨blk6,hc6,ht6⟩:=id h6
  have hm:(m++[128]++List.replicate k 0).length=m.length+1+k:=by simp;omega
  refine af (af (aa ?_))
  refine ah Ll Ll EN ?_
  refine am Ll Ll (aj KO Ll hc6.cellU) ?_
  refine ai Ll Ll Ll (bL) ?_
  refine ag (ab ?_)
  rw[hm]
  refine bi Ll (fun h=>?_) (fun h=>?_)
  ·have hlt:k<gz m.length:=by
    rcases Nat.lt_or_ge k (gz m.length) with h1|h1
    ·exact h1
    ·have:k=gz m.length:=by omega
     subst this
     exfalso
     unfold gz at h
     omega
   refine ar (ab (ax (aa ?_)))
   obtain⟨r7,w7,hr,x7,o7,ob7⟩:=fE (w:=w6) w6.heap.size [0] (by simp) (Nat.le_refl _)
   refine aO (vs:=[(0,U8 0)]) Ll Ll hr ?_
   refine an lQ Ll Ll (lR (h6.ext x7) o7.bts (fun _=>Af ob7 (by have:=h6.lt;omega))) ?_
   rintro _ w8 ⟨q8,h8⟩
   refine ag (aJ ?_)
   rw[List.append_assoc _ (List.replicate k 0) [0],←List.replicate_succ'] at h8
   exact bQ (k+1) ⟨rfl,rfl,rfl,trivial⟩ ⟨(E6.trans x7).of_new q8 hw3,(B6.ext x7).other q8 ne23,⟨_,h8⟩,hlt⟩ (by omega)
  ·have hk':k=gz m.length:=by
    unfold gz at hk hp⊢
    omega
   subst hk'
   exact aY (aB (aB (aX (cz () ⟨rfl,rfl,rfl,trivial⟩ ⟨E6,B6,tot,h6⟩))))
 rintro _ w6 ⟨E6,B6,tot6,h6⟩
 refine ab (af (aa ?_))
 obtain⟨bits,hbits⟩:∃b,b=UInt64.ofNat m.length*8:=⟨_,rfl⟩
 rw[←hbits]
 have hb8:=ym bits
 obtain⟨g5,w7,hr,n5,x7,b7⟩:=be (P:=Tryz.prog) (w:=w6) (l:=(fx (zo bits) 8 0).map U8) JH rfl
 refine bf Ll hr (ag (ab ?_))
 have l35:g3<g5:=Nat.lt_of_lt_of_le h6.lt n5
 have ne25:some g2≠some g5:=fun h=>by cases h;omega
 have ne35:some g3≠some g5:=fun h=>by cases h;omega
 refine af (fj (fun _:Unit=>[(2,.pointer (some ⟨g2,0,none⟩)),(3,.pointer (some ⟨g3,0,none⟩)),(5,.pointer (some ⟨g5,0,none⟩))]) (fun _ w'=>w7.grownBy w' (some g5)∧cd g5 203 ((zo bits).map U8) w') ?_ ?_)
 ·refine af (aa (ae Ll Ll (ag (ab (ax ?_)))))
  refine bZ (α:=Nat) (fun i=>[(2,.pointer (some ⟨g2,0,none⟩)),(3,.pointer (some ⟨g3,0,none⟩)),(4,bj bits),(5,.pointer (some ⟨g5,0,none⟩)),(27,I (i:Int))])
   (fun i w'=>w7.grownBy w' (some g5)∧cd g5 203 ((fx (zo bits) 8 i).map U8) w'∧i≤8) (fun i=>8-i) 0 ⟨rfl,rfl,rfl,rfl,rfl,trivial⟩
   ⟨dq (aI.refl _),b7,by omega⟩ ?_
  rintro i w8 ⟨q8,b8,hi⟩
  refine af (aa ?_)
  refine ai Ll Ll Ll (aW) ?_
  refine ag (ab (af ?_))
  refine bi Ll (fun h=>?_) (fun h=>?_)
  ·have hi8:i<8:=by omega
   have hfl:=jw (j:=i) hb8 (by omega)
   have e6:(56:Int)-8*(i:Int)=((56-8*i:Nat):Int):=by omega
   refine ar (ab (af (ax (af (aa (ae Ll Ll (ac Ll Ll (ag (ab (aa (ae Ll Ll (ae Ll Ll (ae Ll Ll ?_)))))))))))))
   refine ai Ll Ll Ll (fh (by omega) (by omega)) ?_
   refine ai (r:=I ((56-8*i:Nat):Int)) Ll Ll Ll (by rw[←e6];exact bg (by omega) (by omega)) ?_
   refine ai Ll Ll Ll (dz (56-8*i) (by omega)) ?_
   refine aR Ll Ll (ko KN KS) ?_
   refine aA Ll Ll Ll (JI i hi8) ?_
   refine aq Ll Ll (wm b8 i (by omega)) ?_
   have b9:=b8.setB i (bits>>>UInt64.ofNat (56-8*i)).toUInt8
   have hset:(fx (zo bits) 8 i).set i (bits>>>UInt64.ofNat (56-8*i)).toUInt8=fx (zo bits) 8 (i+1):=by
    rw[←Ii bits hi8]
    exact jx hb8 hi8
   rw[hset] at b9
   refine ag (aJ (ab (aa ?_)))
   refine ai Ll Ll Ll (aK (by omega) (by omega)) ?_
   refine ae Ll Ll (ag ?_)
   exact bQ (i+1) ⟨rfl,rfl,rfl,rfl,rfl,trivial⟩ ⟨q8.trans (ba w8 g5 i _),b9,by omega⟩ (by omega)
  ·have hi':i=8:=by omega
   subst hi'
   rw[qW hb8] at b8
   exact aY (aB (aB (aX (cz () ⟨rfl,rfl,rfl,trivial⟩ ⟨q8,b8⟩))))
 rintro _ w8 ⟨q8,b8⟩
 have E8:aI w w8:=(E6.trans x7).of_new q8 (by omega)
 have B8:=(B6.ext x7).other q8 ne25
 have h8:=(h6.ext x7).other q8 ne35
 refine ab (af (aa ?_))
 refine cw (a:=none) (b:=none) Ll Ll Ll Ll Ll JJ ?_
 have bt8:=b8.bts (by omega)
 rw[hb8] at bt8
 refine an lQ rfl rfl (lR h8 bt8 (by rintro _ a n c he;cases he;show g5≠g3;omega)) ?_
 rintro _ w9 ⟨q9,h9⟩
 have hpad:m++[128]++List.replicate (gz m.length) 0++zo bits=eu m:=by rw[hbits];rfl
 rw[hpad] at h9
 have E9:=E8.of_new q9 hw3
 have B9:=B8.other q9 ne23
 refine ag (ab (af (aa ?_)))
 obtain⟨g7,w10,hr,n7,x10,b10⟩:=be (P:=Tryz.prog) (w:=w9) (l:=(fx (je m) 32 0).map U8) m0 rfl
 refine bf Ll hr (ag (ab ?_))
 obtain⟨blk9,hc9,_⟩:=h9.ext x10
 have l37:g3<g7:=Nat.lt_of_lt_of_le h9.lt n7
 have ne27:some g2≠some g7:=fun h=>by cases h;omega
 have hs8:=Gg (eu m)
 have hdl:=dF m
 refine af (fj (fun _:Unit=>[(2,.pointer (some ⟨g2,0,none⟩)),(7,.pointer (some ⟨g7,0,none⟩))]) (fun _ w'=>w10.grownBy w' (some g7)∧cd g7 22 ((je m).map U8) w') ?_ ?_)
 ·refine af (aa ?_)
  refine ah Ll Ll Ie ?_
  refine am Ll Ll hc9.ldS ?_
  refine ae Ll Ll (ag (ab (ax ?_)))
  refine bZ (α:=Nat) (fun i=>[(2,.pointer (some ⟨g2,0,none⟩)),(7,.pointer (some ⟨g7,0,none⟩)),(42,.agg ((sh (eu m)).map bA).toArray),(43,I (i:Int))])
   (fun i w'=>w10.grownBy w' (some g7)∧cd g7 22 ((fx (je m) 32 (4*i)).map U8) w'∧i≤8) (fun i=>8-i) 0 ⟨rfl,rfl,rfl,rfl,trivial⟩
   ⟨dq (aI.refl _),b10,by omega⟩ ?_
  rintro i w11 ⟨q11,b11,hi⟩
  refine af (aa ?_)
  refine ai Ll Ll Ll (aW) ?_
  refine ag (ab (af ?_))
  refine bi Ll (fun h=>?_) (fun h=>?_)
  ·have hi8:i<8:=by omega
   have e0:(4:Int)*(i:Int)=((4*i:Nat):Int):=by omega
   have e1:((4*i:Nat):Int)+1=((4*i+1:Nat):Int):=by omega
   have e2:((4*i:Nat):Int)+2=((4*i+2:Nat):Int):=by omega
   have e3:((4*i:Nat):Int)+3=((4*i+3:Nat):Int):=by omega
   have s0:=jw (j:=4*i) hdl (by omega)
   have s1:=jw (j:=4*i+1) hdl (by omega)
   have s2:=jw (j:=4*i+2) hdl (by omega)
   have s3:=jw (j:=4*i+3) hdl (by omega)
   refine ar (ab (af (ax (af (aa (ae Ll Ll ?_))))))
   refine kV Ll Ll Ll (FA (l:=(sh (eu m)).map bA) Lc d6 KL hi8 .i64 (uw (by omega))) ?_
   refine ac Ll Ll (ac Ll Ll (ag (ab (aa (ae Ll Ll ?_)))))
   refine ai (r:=I ((4*i:Nat):Int)) Ll Ll Ll (by rw[←e0];exact fh (by omega) (by omega)) ?_
   refine ae Ll Ll ?_
   refine ai (r:=I ((4*i:Nat):Int)) Ll Ll Ll (by rw[←e0];exact fh (by omega) (by omega)) ?_
   refine ai (r:=I ((4*i+1:Nat):Int)) Ll Ll Ll (by rw[←e1];exact aK (by omega) (by omega)) ?_
   refine ae Ll Ll ?_
   refine ai (r:=I ((4*i:Nat):Int)) Ll Ll Ll (by rw[←e0];exact fh (by omega) (by omega)) ?_
   refine ai (r:=I ((4*i+2:Nat):Int)) Ll Ll Ll (by rw[←e2];exact aK (by omega) (by omega)) ?_
   refine ae Ll Ll ?_
   refine ai (r:=I ((4*i:Nat):Int)) Ll Ll Ll (by rw[←e0];exact fh (by omega) (by omega)) ?_
   refine ai (r:=I ((4*i+3:Nat):Int)) Ll Ll Ll (by rw[←e3];exact aK (by omega) (by omega)) ?_
   refine ae Ll Ll ?_
   refine ai Ll Ll Ll (dh 24 (by omega)) ?_
   refine aR Ll Ll (fo KL KS) ?_
   refine ae Ll Ll ?_
   refine ai Ll Ll Ll (dh 16 (by omega)) ?_
   refine aR Ll Ll (fo KL KS) ?_
   refine ae Ll Ll ?_
   refine ai Ll Ll Ll (dh 8 (by omega)) ?_
   refine aR Ll Ll (fo KL KS) ?_
   refine ae Ll Ll ?_
   refine aR Ll Ll (fo KL KS) ?_
   have d0:(je m).getD (4*i) 0=((sh (eu m)).getD i 0>>>UInt32.ofNat 24).toUInt8:=kP (sh (eu m)) i 0 (by omega) (by omega)
   have d1:(je m).getD (4*i+1) 0=((sh (eu m)).getD i 0>>>UInt32.ofNat 16).toUInt8:=kP (sh (eu m)) i 1 (by omega) (by omega)
   have d2:(je m).getD (4*i+2) 0=((sh (eu m)).getD i 0>>>UInt32.ofNat 8).toUInt8:=kP (sh (eu m)) i 2 (by omega) (by omega)
   have d3:(je m).getD (4*i+3) 0=((sh (eu m)).getD i 0).toUInt8:=by
    have:=kP (sh (eu m)) i 3 (by omega) (by omega)
    rw[show UInt32.ofNat (24-8*3)=0 from rfl,UInt32.shiftRight_zero] at this
    exact this
   have f0:(fx (je m) 32 (4*i)).set (4*i) ((je m).getD (4*i) 0)=fx (je m) 32 (4*i+1):=jx hdl (by omega)
   have f1:(fx (je m) 32 (4*i+1)).set (4*i+1) ((je m).getD (4*i+1) 0)=fx (je m) 32 (4*i+2):=jx hdl (by omega)
   have f2:(fx (je m) 32 (4*i+2)).set (4*i+2) ((je m).getD (4*i+2) 0)=fx (je m) 32 (4*i+3):=jx hdl (by omega)
   have f3:(fx (je m) 32 (4*i+3)).set (4*i+3) ((je m).getD (4*i+3) 0)=fx (je m) 32 (4*(i+1)):=jx hdl (by omega)
   rw[d0] at f0
   rw[d1] at f1
   rw[d2] at f2
   rw[d3] at f3
   refine aA Ll Ll Ll (qV (4*i) (by omega)) ?_
   refine aq Ll Ll (wm b11 (4*i) (by omega)) ?_
   have b12:=b11.setB (4*i) ((sh (eu m)).getD i 0>>>UInt32.ofNat 24).toUInt8
   rw[f0] at b12
   refine aA Ll Ll Ll (qV (4*i+1) (by omega)) ?_
   refine aq Ll Ll (wm b12 (4*i+1) (by omega)) ?_
   have b13:=b12.setB (4*i+1) ((sh (eu m)).getD i 0>>>UInt32.ofNat 16).toUInt8
   rw[f1] at b13
   refine aA Ll Ll Ll (qV (4*i+2) (by omega)) ?_
   refine aq Ll Ll (wm b13 (4*i+2) (by omega)) ?_
   have b14:=b13.setB (4*i+2) ((sh (eu m)).getD i 0>>>UInt32.ofNat 8).toUInt8
   rw[f2] at b14
   refine aA Ll Ll Ll (qV (4*i+3) (by omega)) ?_
   refine aq Ll Ll (wm b14 (4*i+3) (by omega)) ?_
   have b15:=b14.setB (4*i+3) ((sh (eu m)).getD i 0).toUInt8
   rw[f3] at b15
   refine ag (aJ (ab (aa ?_)))
   refine ai Ll Ll Ll (aK (by omega) (by omega)) ?_
   refine ae Ll Ll (ag ?_)
   exact bQ (i+1) ⟨rfl,rfl,rfl,rfl,trivial⟩ ⟨(((q11.trans (ba _ g7 (4*i) _)).trans (ba _ g7 (4*i+1) _)).trans (ba _ g7 (4*i+2) _)).trans (ba _ g7 (4*i+3) _),b15,by omega⟩ (by omega)
  ·have hi':i=8:=by omega
   subst hi'
   rw[show 4*8=32 from rfl,qW hdl] at b11
   exact aY (aB (aB (aX (cz () ⟨rfl,rfl,trivial⟩ ⟨q11,b11⟩))))
 rintro _ w11 ⟨q11,b11⟩
 have hsz:(Tryz.prog.info? 22).map (·.size)=some ((je m).map U8).length:=by rw[List.length_map,dF];exact j5
 have F2:=(B9.ext x10).other q11 ne27
 have E11:aI w w11:=(E9.trans x10).of_new q11 (by omega)
 refine ab (af (aa ?_))
 refine am Ll Ll (mi (m:=(je m).map U8) b11 (fun j v h=>by rwa [Nat.zero_add]) La Ll hsz) ?_
 refine aq Ll Ll (it F2 (by simp[dF]) hsz (pV _)) ?_
 refine ag (ab (av ?_))
 refine dR Ll Ll (F2.row _) La Ll hsz ?_
 exact⟨_,rfl,E11.of_new (bp _ _ _) n2,rfl⟩
end Go.Rl
namespace Go.Rl
open Go.RowKit Go.Proofs
theorem ux {P:Program} {w:World} {e:TypeId} (he:P.underlying e=some (.int .u8)) (d:Nat) (l m:List UInt8):∀(is:List Nat),(∀i∈is,i<l.length∧i<m.length)→
 (Op.eqItems (d+1) e 1 (l.map U8).toArray (m.map U8).toArray is).run P w=.ok (is.all fun i=>decide (l.getD i 0=m.getD i 0)) w
 |[],_=>rfl
 |i::is,h=>by
  obtain⟨hi,hj⟩:=h i (by simp)
  have hagg:(isAgg e).run P w=.ok false w:=by simp[isAgg,run_underlying he]
  have hpart:(part e (l.map U8).toArray (i*1)).run P w=.ok (U8 l[i]) w:=by simp[part,hagg,hi]
  have hpart':(part e (m.map U8).toArray (i*1)).run P w=.ok (U8 m[i]) w:=by simp[part,hagg,hj]
  have heq:(Op.equalIn (d+1) e (U8 l[i]) (U8 m[i])).run P w=.ok (decide (l[i]=m[i])) w:=by
   have:(decide ((l[i].toNat:Int)=(m[i].toNat:Int)))=decide (l[i]=m[i]):=by
    rw[decide_eq_decide]
    constructor
    ·intro h;exact UInt8.toNat_inj.1 (by omega)
    ·intro h;rw[h]
   rw[←this]
   simp[Op.equalIn,run_underlying he,U8]
   rfl
  have ih:=ux (w:=w) he d l m is fun j hj=>h j (by simp[hj])
  unfold Op.eqItems
  simp only[Sem.run_bind,hpart,hpart',Result.andThen_ok,heq]
  have e1:l.getD i 0=l[i]:=by simp[List.getD,hi]
  have e2:m.getD i 0=m[i]:=by simp[List.getD,hj]
  by_cases hq:l[i]=m[i]
  ·simp only[List.all_cons,e1,e2,hq,decide_true,Bool.true_and]
   simpa using ih
  ·simp only[List.all_cons,e1,e2,hq,decide_false,Bool.false_and]
   rfl
theorem EU {l m:List UInt8} {n:Nat} (hl:l.length=n) (hm:m.length=n):((List.range n).all fun i=>decide (l.getD i 0=m.getD i 0))=decide (l=m):=by
 rw[Bool.eq_iff_iff]
 simp only[List.all_eq_true,List.mem_range,decide_eq_true_eq]
 constructor
 ·intro h
  refine List.ext_getElem (by omega) fun i h1 h2=>?_
  have:=h i (by omega)
  simpa [List.getD,h1,h2] using this
 ·rintro rfl i _;rfl
theorem Ag {P:Program} {w:World} {t:TypeId} {x y:Operand} {a b:Array Value} (hg:P.eqGuardType P.depth t=false):(bin .eql t x y (.agg a) (.agg b)).run P w=(do pure (Value.bool (←Op.equal t (.agg a) (.agg b))):Sem Value).run P w:=by
 show(do eqGuard .eql t x y (.agg a) (.agg b);binOp .eql t (.agg a) (.agg b):Sem Value).run P w=_
 rw[Sem.run_bind,run_eqGuard_agg (hm:=hg)]
 rfl
theorem rN {P:Program} {w:World} {t:TypeId} {x y:Operand} {a b:Array Value} (hg:P.eqGuardType P.depth t=false):(bin .neq t x y (.agg a) (.agg b)).run P w=(do pure (Value.bool (!(←Op.equal t (.agg a) (.agg b)))):Sem Value).run P w:=by
 show(do eqGuard .neq t x y (.agg a) (.agg b);binOp .neq t (.agg a) (.agg b):Sem Value).run P w=_
 rw[Sem.run_bind,run_eqGuard_agg (hm:=hg)]
 rfl
theorem Db:Tryz.prog.eqGuardType Tryz.prog.depth 22=false:=by kernel_rfl
theorem Dc {w:World} {l m:List UInt8} (hl:l.length=32) (hm:m.length=32):(Op.equal 22 (.agg (l.map U8).toArray) (.agg (m.map U8).toArray)).run Tryz.prog w=.ok (decide (l=m)) w:=by
 show(Op.equalIn (9998+1+1) 22 _ _).run Tryz.prog w=_
 obtain⟨i,hi,_⟩:=info_parts pn
 rw[run_equalIn_array _ _ _ _ La hi]
 have hc:Tryz.prog.cellsOf 5=1:=by kernel_rfl
 rw[hc,ux Tryz.underlying5 9998 l m _ fun i hi=>by rw[hl,hm];simpa using hi]
 rw[EU hl hm]
theorem Kz {w:World} {x y:Operand} {l m:List UInt8} (hl:l.length=32) (hm:m.length=32):(bin .eql 22 x y (.agg (l.map U8).toArray) (.agg (m.map U8).toArray)).run Tryz.prog w=.ok (B (decide (l=m))) w:=by
 rw[Ag Db,Sem.run_bind,Dc hl hm];rfl
theorem IZ {w:World} {x y:Operand} {l m:List UInt8} (hl:l.length=32) (hm:m.length=32):(bin .neq 22 x y (.agg (l.map U8).toArray) (.agg (m.map U8).toArray)).run Tryz.prog w=.ok (B (decide (l≠m))) w:=by
 rw[rN Db,Sem.run_bind,Dc hl hm]
 show Result.ok (B (!decide (l=m))) w=_
 rw[decide_not]
theorem JK {w:World} {x y:Operand} {l:List UInt8} (hl:l.length=32):(bin .neq 22 x y (.agg (l.map U8).toArray) (.agg (l.map U8).toArray)).run Tryz.prog w=.ok (B false) w:=by
 rw[IZ hl hl,decide_eq_false (fun h=>h rfl)]
theorem wt:ay Tryz.prog 49:=⟨_,Tryz.func49,by kernel_rfl,rfl⟩
theorem cm.old {l:List UInt8} {v:Value} {w:World} (h:cm l v w) {g:Nat} (hg:w.heap.size≤g):0<l.length→BP g v:=fun h0 a n c he=>by
 obtain⟨A,n',c',rfl,h1,h2,h3,h4,h5⟩:=h
 have hn:l.length=n':=by simpa using h3
 obtain⟨ad,rfl,hc⟩:=h4 (by omega)
 simp only[Value.slice.injEq,Option.some.injEq] at he
 obtain⟨rfl,_,_⟩:=he
 have h6:=hc 0 (U8 l[0]) (by simp[h0])
 rw[jy] at h6
 have:ad.block<w.heap.size:=by
  rcases Nat.lt_or_ge ad.block w.heap.size with h7|h7
  ·exact h7
  ·simp[World.cell?,Array.getElem?_eq_none h7] at h6
 omega
end Go.Rl
namespace Go.Rl
open Go.RowKit Go.Proofs
theorem wu {w:World} {l:List UInt8} {v:Value} (hv:cm l v w):
 Calls Tryz.prog 49 #[v] w (bE fun r w'=>aI w w'∧r=.agg ((je l).map U8).toArray):=by
 refine enter (vs:=[v]) Tryz.func49 Ll Ll Ll ?_
 obtain⟨g2,w1,hr,n2,x1,b2⟩:=be (P:=Tryz.prog) (w:=w) (l:=(List.replicate 32 0).map U8) m0 rfl
 refine af (aa (bf Ll hr (ag (ab (af (aa ?_))))))
 refine an (vs:=[]) EQ Ll Ll (ER w1) ?_
 rintro _ w2 ⟨x2,g,hg,rfl,hA⟩
 refine ac Ll Ll (ag (ab (af (aa (ae Ll Ll (ae Ll Ll ?_))))))
 have e2:=x1.trans x2
 refine an lQ Ll Ll (lR hA (hv.ext e2) (hv.old (Nat.le_trans x1.size hg))) ?_
 rintro _ w3 ⟨q3,h3⟩
 rw[List.nil_append,UInt64.zero_add] at h3
 have l2:g2<g:=Nat.lt_of_lt_of_le b2.lt hg
 have hwg:w.heap.size≤g:=by omega
 have e3:=e2.of_new q3 hwg
 have B3:=(b2.ext x2).other q3 (fun h=>by cases h;omega)
 refine ag (ab (af (aa (ae Ll Ll ?_))))
 refine an ES Ll Ll (ET h3) ?_
 rintro _ w4 ⟨x4,rfl⟩
 have hsz:(Tryz.prog.info? 22).map (·.size)=some ((je l).map U8).length:=by rw[List.length_map,dF];exact j5
 have B4:=B3.ext x4
 refine aq Ll Ll (it B4 (by simp[dF]) hsz (pV _)) ?_
 refine ag (ab (av ?_))
 refine dR Ll Ll (B4.row _) La Ll hsz ?_
 exact⟨_,rfl,(e3.trans x4).of_new (bp _ _ _) n2,rfl⟩
end Go.Rl
namespace Go.Rl
open Go.RowKit
def gb:List UInt8:=[82,76,85,67]
abbrev wv:=List UInt8×List aP
def im:List UInt8:=List.replicate 32 0
def ww:wv:=(im,[])
def pW (l:List UInt8):List UInt8×Int:=jd ((l.take (l.length-32)).drop 36) 4194304 (vr ((l.take (l.length-32)).drop 36))
def uy (b:List UInt8):Option (List aP):=match mr b with
 |some (ts,[])=>some ts
 |_=>none
def jM (l:List UInt8):wv×Int:=
 if 1048576<l.length then(ww,8) else if l.length<68∨l.take 4≠gb then(ww,5) else if je (l.take (l.length-32))≠l.drop (l.length-32) then(ww,6) else
  if (pW l).2≠0 then(ww,(pW l).2) else match uy (pW l).1 with
  |some ts=>if ts.all fv=true then(((l.take 36).drop 4,ts),0) else(ww,1)
  |none=>(ww,5)
section
variable {l:List UInt8}
theorem wx (h:1048576<l.length):jM l=(ww,8):=by unfold jM;rw[if_pos h]
theorem nL (h:¬1048576<l.length) (h2:l.length<68∨l.take 4≠gb):jM l=(ww,5):=by unfold jM;rw[if_neg h,if_pos h2]
theorem Ah (h:¬1048576<l.length) (h2:¬(l.length<68∨l.take 4≠gb)) (h3:je (l.take (l.length-32))≠l.drop (l.length-32)):jM l=(ww,6):=by unfold jM;rw[if_neg h,if_neg h2,if_pos h3]
theorem nN (h:¬1048576<l.length) (h2:¬(l.length<68∨l.take 4≠gb)) (h3:¬je (l.take (l.length-32))≠l.drop (l.length-32)):jM l=if (pW l).2≠0 then(ww,(pW l).2) else match uy (pW l).1 with
 |some ts=>if ts.all fv=true then(((l.take 36).drop 4,ts),0) else(ww,1)
 |none=>(ww,5):=by unfold jM;rw[if_neg h,if_neg h2,if_neg h3]
theorem uA {b:List UInt8} {ts:List aP} (h:mr b=some (ts,[])):uy b=some ts:=by unfold uy;rw[h]
theorem Ai {b:List UInt8} (h:∀ts,mr b≠some (ts,[])):uy b=none:=by
 unfold uy
 split
 ·rename_i ts e;exact absurd e (h ts)
 ·rfl
theorem yp {b:List UInt8} {ts:List aP} (h:uy b=some ts):mr b=some (ts,[]):=by
 unfold uy at h
 split at h
 ·rename_i ts' e
  cases h
  exact e
 ·cases h
theorem Aj {n:Int} (h:¬1048576<l.length) (h2:¬(l.length<68∨l.take 4≠gb)) (h3:¬je (l.take (l.length-32))≠l.drop (l.length-32)) (h4:(pW l).2=n) (h5:n≠0):jM l=(ww,n):=by rw[nN h h2 h3,h4,if_pos h5]
theorem Dd (h:¬1048576<l.length) (h2:¬(l.length<68∨l.take 4≠gb)) (h3:¬je (l.take (l.length-32))≠l.drop (l.length-32)) (h4:(pW l).2=0) (h5:uy (pW l).1=none):jM l=(ww,5):=by rw[nN h h2 h3,if_neg (by omega),h5]
theorem De {ts:List aP} (h:¬1048576<l.length) (h2:¬(l.length<68∨l.take 4≠gb)) (h3:¬je (l.take (l.length-32))≠l.drop (l.length-32)) (h4:(pW l).2=0) (h5:uy (pW l).1=some ts):jM l=if ts.all fv=true then(((l.take 36).drop 4,ts),0) else(ww,1):=by rw[nN h h2 h3,if_neg (by omega),h5]
end
theorem Ak {α:Type} {p:α→Bool} {l:List α} {i:Nat} (hi:i<l.length):(l.drop i).all p=(p l[i]&&(l.drop (i+1)).all p):=by
 rw[List.drop_eq_getElem_cons hi];rfl
theorem BR {m:List UInt8} {k:Nat}:(jd m (k:Int) (vr m)).1.length≤k+m.length:=by
 unfold jd
 split
 ·simp
 ·cases hU:db m with
  |none=>simp
  |some p=>
   obtain⟨n,t⟩:=p
   simp only[]
   have ht:=jK hU
   split
   ·simp
   ·rename_i hn
    cases hf:vr m t n with
    |none=>simp
    |some out=>
     unfold vr at hf
     obtain⟨p,h1,h2⟩:=Option.bind_eq_some_iff.1 hf
     split at h2
     ·simp only[Option.some.injEq] at h2
      subst h2
      have:=yl (B:=t.length) _ _ _ p.1 p.2 (by simp) (Nat.le_refl _) h1
      show p.1.length≤_
      omega
     ·cases h2
theorem Df {l:List UInt8}:(pW l).1.length≤4194304+l.length:=by
 have h:=BR (m:=(l.take (l.length-32)).drop 36) (k:=4194304)
 have h2:((l.take (l.length-32)).drop 36).length≤l.length:=by rw[List.length_drop,List.length_take];omega
 exact Nat.le_trans h (by omega)
theorem Ha {l:List UInt8} (hl:l.length≤1048576):jd ((l.take (l.length-32)).drop 36) 4194304 (vp ((l.take (l.length-32)).drop 36))=pW l:=(G5 (by rw[List.length_drop,List.length_take];omega) (by omega)).symm
end Go.Rl
namespace Go.Rl
open Go.RowKit
def eS (d p:List UInt8):List UInt8:=gb++d++p++je (gb++d++p)
section
variable {d p body:List UInt8}
theorem kQ (hd:d.length=32):(eS d p).length=68+p.length:=by
 unfold eS
 simp only[List.length_append,dF,hd,show gb.length=4 from rfl]
 omega
theorem uB:(eS d p).take 4=gb:=by
 unfold eS
 rw[List.append_assoc,List.append_assoc]
 exact List.take_left' (l₁:=gb) rfl
theorem Al (hd:d.length=32):(eS d p).take ((eS d p).length-32)=gb++d++p:=by
 rw[kQ hd]
 unfold eS
 refine List.take_left' ?_
 simp only[List.length_append,hd,show gb.length=4 from rfl]
 omega
theorem EV (hd:d.length=32):(eS d p).drop ((eS d p).length-32)=je (gb++d++p):=by
 rw[kQ hd]
 unfold eS
 refine List.drop_left' ?_
 simp only[List.length_append,hd,show gb.length=4 from rfl]
 omega
theorem Hb (hd:d.length=32):((eS d p).take ((eS d p).length-32)).drop 36=p:=by
 rw[Al hd]
 refine List.drop_left' ?_
 simp only[List.length_append,hd,show gb.length=4 from rfl]
theorem Ij (hd:d.length=32):((eS d p).take 36).drop 4=d:=by
 unfold eS
 rw[List.append_assoc,List.append_assoc,←List.append_assoc,List.take_left' (by simp only[List.length_append,hd,show gb.length=4 from rfl])]
 exact List.drop_left' (l₁:=gb) rfl
theorem uX (hb:body.length≤4194304):jd (bS body) 4194304 (vr (bS body))=(body,0):=by
 have hu:db (bS body)=some (body.length,pk body 0 0):=jD (by omega) _
 unfold jd
 rw[if_neg (by omega),hu]
 simp only[]
 rw[if_neg (by omega)]
 have:vr (bS body) (pk body 0 0) body.length=some body:=by
  unfold vr
  rw[ub (by omega)]
  exact if_pos ⟨rfl,rfl⟩
 rw[this]
theorem wy (hd:d.length=32) (hb:body.length≤4194304) (hf:(eS d (bS body)).length≤1048576):jM (eS d (bS body))=match uy body with
 |some ts=>if ts.all fv=true then((d,ts),0) else(ww,1)
 |none=>(ww,5):=by
 have hl:=kQ (d:=d) (p:=bS body) hd
 have hu:pW (eS d (bS body))=(body,0):=by unfold pW;rw[Hb hd];exact uX hb
 rw[nN (by omega) (fun h=>h.elim (fun h=>by omega) fun h=>h uB) (by rw[Al hd,EV hd];exact fun h=>h rfl),hu,if_neg (by simp),Ij hd]
 all_goals rfl
end
def oT (c:wv):List UInt8×Int:=if (c.2.all fun n=>fv n&&i0 n)=true then(if 4194304<(eF c.2).length then([],8) else if 1048576<(eS c.1 (bS (eF c.2))).length then([],8) else(eS c.1 (bS (eF c.2)),0)) else([],1)
theorem Hc {d body:List UInt8} {ts:List aP} (hb:body.length≤4194304) (hf:(eS d (bS body)).length≤1048576) (h:uy body=some ts) (hv:ts.all fv=true):oT (d,ts)=(eS d (bS body),0):=by
 obtain⟨h1,_,h3⟩:=zQ (yp h)
 rw[List.append_nil] at h1
 have ha:(ts.all fun n=>fv n&&i0 n)=true:=List.all_eq_true.2 fun n hn=>by
  rw[List.all_eq_true.1 hv n hn,(h3 n hn).1];rfl
 unfold oT
 simp only[]
 rw[if_pos ha,←h1,if_neg (by omega),if_neg (by omega)]
theorem Ik (l:List UInt8):(jM l).1.1.length=32:=by
 unfold jM
 split
 ·rfl
 ·split
  ·rfl
  ·rename_i h
   split
   ·rfl
   ·split
    ·rfl
    ·split
     ·split
      ·show((l.take 36).drop 4).length=32
       rw[List.length_drop,List.length_take]
       have:¬l.length<68:=fun hh=>h (.inl hh)
       omega
      ·rfl
     ·rfl
end Go.Rl
namespace Go.Rl
open Go.RowKit Go.Proofs
section
variable {P:Program} {ops:Array Oper} {Env:World→Prop} {Rl:World→World→Prop} {mo:Bool} {Pn:List PanicEntry→World→Prop} {Z:iN} {N:Nat} {F:cn} {K:cn→iN→Prop} {rest:List Oper} {d:Nat} {ty:TypeId} {pos:String} {aft:Array Edge}
theorem EW {t:TypeId} {x:Operand} {u r:Value} (hx:eG F x=Is u) (hd:Nat.blt d N=true) (hrun:∀w,Env w→(Instr.arrayAt t u).run P w=.ok r w)
 (k:fg P ops Env Rl mo Pn N rest (iU F (some d) (Is r)) Z K):fg P ops Env Rl mo Pn N (⟨some d,.sliceToArrayPointer t x,ty,pos,aft,none⟩::rest) F Z K:=
 jX (xs:=[x]) (vs:=[u]) (f:=fun|[a]=>Instr.arrayAt t a|_=>stuck "") (fun _=>rfl) (by simp[Op.operands]) (by simp[hx]) hd hrun k
end
theorem I0 {w:World} {l:List UInt8} {v:Value} (h:cm l v w) (hl:l.length=32):∃ad,(∀w':World,(Instr.arrayAt 22 v).run Tryz.prog w'=.ok (.pointer (some ad)) w')∧dG w ad (l.map U8):=by
 obtain⟨A,n,c,rfl,h1,h2,h3,h4,h5⟩:=h
 have hn:n=32:=by simp at h3;omega
 subst hn
 obtain⟨ad,rfl,hc⟩:=h4 (by omega)
 exact⟨ad,fun w'=>by simp[Instr.arrayAt,run_underlying Tryz.underlying22],hc⟩
theorem Dg {w:World} {l:List UInt8} {ad:Addr} (h:dG w ad (l.map U8)) (hl:l.length=32):(Instr.loadAt 22 (.pointer (some ad))).run Tryz.prog w=.ok (.agg (l.map U8).toArray) w:=
 h.ld La rfl (by rw[List.length_map,hl];exact j5)
end Go.Rl
namespace Go.Rl
open Go.RowKit Go.Proofs
theorem rO:ay Tryz.prog 119:=⟨_,Tryz.func119,by kernel_rfl,rfl⟩
theorem BS:ay Tryz.prog 118:=⟨_,Tryz.func118,by kernel_rfl,rfl⟩
theorem Am:ay Tryz.prog 58:=⟨_,Tryz.func58,by kernel_rfl,rfl⟩
theorem BT:ay Tryz.prog 21:=⟨_,Tryz.func21,by kernel_rfl,rfl⟩
section
variable {w:World}
theorem dG.ldO {P:Program} {t:TypeId} {d:TypeDesc} {ad:Addr} {cs ms:List Value} {o:Nat} (h:dG w ad cs) (hm:∀j v,ms[j]? =some v→cs[o+j]? =some v) (ht:P.underlying t=some d) (hd:d.isRow=true) (hz:(P.info? t).map (·.size)=some ms.length):(Instr.loadAt t (.pointer (some (ad.add o)))).run P w=.ok (.agg ms.toArray) w:=
 dG.ld (ad:=ad.add o) (fun j u hu=>by rw[wU];exact h (o+j) u (hm j u hu)) ht hd hz
end
theorem Dh {P:Program} {w:World} {x y:Operand} {t:TypeId} (ht:P.underlying t=some .bool) {a b:Bool}:(bin .neq t x y (B a) (B b)).run P w=.ok (B (decide (a≠b))) w:=by
 have h:(Op.equal t (B a) (B b)).run P w=.ok (decide (a=b)) w:=by
  show(Op.equalIn (9999+1) t (.bool a) (.bool b)).run P w=_
  unfold Op.equalIn
  cases a<;>cases b<;>simp[run_underlying ht]
 show(do pure (Value.bool (!(←Op.equal t (B a) (B b)))):Sem Value).run P w=_
 rw[Sem.run_bind,h]
 show Result.ok (Value.bool (!decide (a=b))) w=_
 rw[←decide_not];rfl
theorem Hd:Tryz.prog.eqGuardType Tryz.prog.depth 214=false:=by kernel_rfl
theorem Il {w:World} {x y:Operand} {a b c d:Int}:(bin .neq 214 x y (.agg #[I a,I b,I c,I d]) (.agg #[I a,I b,I c,I d])).run Tryz.prog w=.ok (B false) w:=by
 have h:(Op.equal 214 (.agg #[I a,I b,I c,I d]) (.agg #[I a,I b,I c,I d])).run Tryz.prog w=.ok true w:=by
  show(Op.equalIn (9999+1) 214 _ _).run Tryz.prog w=_
  rw[run_equalIn_struct w 9999 214 _ _ (by kernel_rfl) (by kernel_rfl)]
  simp only[Program.fieldsOf,Tryz.underlying214]
  simp[Op.eqFields,part,I,Tryz.underlying3,run_equalIn_int _ 9998 3 .i64 .i64]
 rw[rN Hd,Sem.run_bind,h];rfl
theorem rP {w:World} {l:List dl} {v u:Value} (hv:df dk l v w) (hu:df dk l u w):
 Calls Tryz.prog 119 #[v,u] w (bE fun r w'=>aI w w'∧r=B true):=by
 refine enter (vs:=[v,u]) Tryz.func119 Ll Ll Ll ?_
 have hll:=hv.len
 refine af (aa (ac Ll Ll (ag (ab (af (af (aa (ae Ll Ll (aQ Ll Ll (bR KW hv) (ae Ll Ll (aQ Ll Ll (bR KW hu) ?_)))))))))))
 refine ai Ll Ll Ll (cf (fun h=>h Ll) bL) (ag (ab (cp Ll (ar (ab (af (af (aa (ac Ll Ll (ag (ab (ax ?_))))))))))))
 refine bZ (α:=Nat) (fun x=>[(0,v),(1,u),(5,I (x:Int))]) (fun x w'=>aI w w'∧x≤l.length) (fun x=>l.length-x) (0) ⟨rfl,rfl,rfl,trivial⟩ ⟨aI.refl _,by omega⟩ ?_
 rintro i w4 ⟨e4,hi⟩
 refine af (af (aa (ae Ll Ll (ae Ll Ll (aQ Ll Ll (bR KW (hv.ext e4)) (ai Ll Ll Ll (aW) (ag (ab ?_))))))))
 refine bi Ll (fun h14=>?_) (fun h14=>?_)
 ·refine ar (ab (af (ax (af (bz 24 [0,1,5,28,40] (by kernel_rfl) (by kernel_rfl) ?_)))))
  refine ap Ll Ll (ap Ll Ll ?_)
  obtain⟨a19,c19,p19,q19,h19⟩:=dN (P:=Tryz.prog) (sz:=7) KW (by kernel_rfl) ey (by omega) (hv.ext e4) (i:=i) (by omega) .i64
  obtain⟨e19,he19⟩:∃e,e=l[i]'(by omega):=⟨_,rfl⟩
  rw[←he19] at h19
  obtain⟨x19_0,x19_1,rfl,f19_0,f19_1⟩:=ju h19
  refine az rfl rfl rfl (fun w _=>p19 w) (aN rfl rfl (fun w hw=>rT (o:=0) Tryz.underlying216 rfl (by kernel_rfl) rfl) (aE rfl rfl (fun w hw=>(q19.ext hw).ldO (ms:=[I e19.kd,I e19.ix,I e19.lo,I e19.hi]) (o:=0) (fun j v hj=>by rcases j with _|_|_|_|_|_|_|_|_|j<;>simp_all) Tryz.underlying214 rfl (by kernel_rfl)) ?_))
  refine ap Ll Ll (ap Ll Ll ?_)
  obtain⟨a24,c24,p24,q24,h24⟩:=dN (P:=Tryz.prog) (sz:=7) KW (by kernel_rfl) ey (by omega) (hu.ext e4) (i:=i) (by omega) .i64
  rw[←he19] at h24
  obtain⟨x24_0,x24_1,rfl,f24_0,f24_1⟩:=ju h24
  refine az rfl rfl rfl (fun w _=>p24 w) (aN rfl rfl (fun w hw=>rT (o:=0) Tryz.underlying216 rfl (by kernel_rfl) rfl) (aE rfl rfl (fun w hw=>(q24.ext hw).ldO (ms:=[I e19.kd,I e19.ix,I e19.lo,I e19.hi]) (o:=0) (fun j v hj=>by rcases j with _|_|_|_|_|_|_|_|_|j<;>simp_all) Tryz.underlying214 rfl (by kernel_rfl)) ?_))
  refine aS Ll Ll Ll (fun w _=>Il) (ap Ll Ll (bh Ll Ll (ap Ll Ll (bh Ll Ll (ap Ll Ll (bh Ll Ll ?_))))))
  obtain⟨a31,c31,p31,q31,h31⟩:=dN (P:=Tryz.prog) (sz:=7) KW (by kernel_rfl) ey (by omega) (hv.ext e4) (i:=i) (by omega) .i64
  rw[←he19] at h31
  obtain⟨x31_0,x31_1,rfl,f31_0,f31_1⟩:=ju h31
  refine az Ll Ll Ll (fun w _=>p31 w) (bh Ll Ll (aN Ll Ll (fun w hw=>rT (o:=4) K3 Ll (by kernel_rfl) Ll) ?_))
  refine bh rfl rfl (aE rfl rfl (fun w hw=>(q31.ext hw).ldO (ms:=[B e19.co.1,x31_0,x31_1]) (o:=4) (fun j v hj=>by rcases j with _|_|_|_|_|_|_|_|_|j<;>simp_all) Tryz.underlying55 rfl (by kernel_rfl)) ?_)
  refine bh Ll Ll (ap Ll Ll (bh Ll Ll (ap Ll Ll (bh Ll Ll ?_))))
  obtain⟨a36,c36,p36,q36,h36⟩:=dN (P:=Tryz.prog) (sz:=7) KW (by kernel_rfl) ey (by omega) (hu.ext e4) (i:=i) (by omega) .i64
  rw[←he19] at h36
  obtain⟨x36_0,x36_1,rfl,f36_0,f36_1⟩:=ju h36
  refine az Ll Ll Ll (fun w _=>p36 w) (bh Ll Ll (aN Ll Ll (fun w hw=>rT (o:=4) K3 Ll (by kernel_rfl) Ll) ?_))
  refine bh rfl rfl (aE rfl rfl (fun w hw=>(q36.ext hw).ldO (ms:=[B e19.co.1,x36_0,x36_1]) (o:=4) (fun j v hj=>by rcases j with _|_|_|_|_|_|_|_|_|j<;>simp_all) Tryz.underlying55 rfl (by kernel_rfl)) ?_)
  refine bh rfl rfl (ce (S:=Is (B true)) ly (bt.is _) rfl (fun w hw=>by rintro _ rfl _ rfl;exact bE.mono (BB (a:=e19.co) (b:=e19.co) (f31_0.ext hw) (f31_1.ext hw) (f36_0.ext hw) (f36_1.ext hw)) fun v w' h=>⟨h.1,by rw[h.2,decide_eq_true rfl];rfl⟩) ?_)
  refine bh Ll Ll (yE Ll Ll (fun w _=>bK) (bF ?_))
  intro wg6 xg6
  rintro _ hq0
  obtain rfl:=Eq.symm hq0
  rintro _ hq1
  obtain rfl:=Eq.symm hq1
  rintro _ rfl
  rintro _ rfl
  rintro _ rfl
  refine aC Ll Ll Ll (ag (ab (cp Ll (ar (aJ (ab (aa (ae Ll Ll (ai (r:=I ((i+1:Nat):Int)) Ll Ll Ll (by have e:((i+1:Nat):Int)=(i:Int)+1:=(by omega);rw[e];exact aK (by omega) (by omega)) ?_)))))))))
  refine ac Ll Ll (ag ?_)
  refine bQ (i+1) ⟨rfl,rfl,rfl,trivial⟩ ⟨(e4.trans xg6),by omega⟩ (by omega)
 ·refine aY (aB (aB (aX (ab (af (aa (ac Ll Ll (ag (ab (av (aG Ll Ll ?_)))))))))))
  exact⟨_,rfl,e4,rfl⟩
theorem An {w:World} {a:fQ} {x y p q:Value} (ha:bo a.2.1 x w) (ha':bo a.2.2 y w) (hb:bo a.2.1 p w) (hb':bo a.2.2 q w):
 Calls Tryz.prog 134 #[.agg #[B a.1,x,y],.agg #[B a.1,p,q]] w (bE fun r w'=>aI w w'∧r=B true):=
 bE.mono (BB (a:=a) (b:=a) ha ha' hb hb') fun v w' h=>⟨h.1,by rw[h.2,decide_eq_true rfl]⟩
theorem EX {w:World} {a:ew} {x y p q:Value} (ha:bo a.at_.2.1 x w) (ha':bo a.at_.2.2 y w) (hb:bo a.at_.2.1 p w) (hb':bo a.at_.2.2 q w):
 Calls Tryz.prog 117 #[.agg #[I a.kd,I a.ix,B a.at_.1,x,y],.agg #[I a.kd,I a.ix,B a.at_.1,p,q]] w (bE fun r w'=>aI w w'∧r=B true):=
 bE.mono (vR (a:=a) (b:=a) ha ha' hb hb') fun v w' h=>⟨h.1,by rw[h.2,decide_eq_true rfl]⟩
set_option maxHeartbeats 2000000 in
theorem BU {w:World} {l:List fB} {v u:Value} (hv:df eI l v w) (hu:df eI l u w):
 Calls Tryz.prog 118 #[v,u] w (bE fun r w'=>aI w w'∧r=B true):=by
 refine enter (vs:=[v,u]) Tryz.func118 Ll Ll Ll ?_
 have hll:=hv.len
 refine af (aa (ac Ll Ll (ag (ab (af (af (aa (ae Ll Ll (aQ Ll Ll (bR KZ hv) (ae Ll Ll (aQ Ll Ll (bR KZ hu) ?_)))))))))))
 refine ai Ll Ll Ll (cf (fun h=>h Ll) bL) (ag (ab (cp Ll (ar (ab (af (af (aa (ac Ll Ll (ag (ab (ax ?_))))))))))))
 refine bZ (α:=Nat) (fun x=>[(0,v),(1,u),(5,I (x:Int))]) (fun x w'=>aI w w'∧x≤l.length) (fun x=>l.length-x) (0) ⟨rfl,rfl,rfl,trivial⟩ ⟨aI.refl _,by omega⟩ ?_
 rintro i w4 ⟨e4,hi⟩
 refine af (af (aa (ae Ll Ll (ae Ll Ll (aQ Ll Ll (bR KZ (hv.ext e4)) (ai Ll Ll Ll (aW) (ag (ab ?_))))))))
 refine bi Ll (fun h14=>?_) (fun h14=>?_)
 ·refine ar (ab (af (ax (af (bz 51 [0,1,5,55,67] (by kernel_rfl) (by kernel_rfl) ?_)))))
  refine ap (S:=Is (v)) Ll Ll (ap (S:=Is (I (i:Int))) Ll Ll ?_)
  obtain⟨a19,c19,p19,q19,h19⟩:=dN (P:=Tryz.prog) (sz:=6) KZ (by kernel_rfl) dX (by omega) (hv.ext e4) (i:=i) (by omega) .i64
  obtain⟨e19,he19⟩:∃e,e=l[i]'(by omega):=⟨_,rfl⟩
  rw[←he19] at h19
  obtain⟨x19_0,x19_1,x19_2,rfl,f19_0,f19_1,f19_2⟩:=kJ h19
  refine az Ll Ll Ll (fun w _=>p19 w) (aN Ll Ll (fun w hw=>rT (o:=0) KX Ll (by kernel_rfl) Ll) ?_)
  refine aE Ll Ll (fun w hw=>aj KO Ll (hw.cell_some (q19.at (j:=0) Ll))) (ap (S:=Is (u)) Ll Ll (ap (S:=Is (I (i:Int))) Ll Ll ?_))
  obtain⟨a24,c24,p24,q24,h24⟩:=dN (P:=Tryz.prog) (sz:=6) KZ (by kernel_rfl) dX (by omega) (hu.ext e4) (i:=i) (by omega) .i64
  rw[←he19] at h24
  obtain⟨x24_0,x24_1,x24_2,rfl,f24_0,f24_1,f24_2⟩:=kJ h24
  refine az Ll Ll Ll (fun w _=>p24 w) (aN Ll Ll (fun w hw=>rT (o:=0) KX Ll (by kernel_rfl) Ll) ?_)
  refine aE Ll Ll (fun w hw=>aj KO Ll (hw.cell_some (q24.at (j:=0) Ll))) (aS Ll Ll Ll (fun w _=>cf (fun h=>h Ll) bL) ?_)
  refine ap (S:=Is (B false)) Ll Ll (bh Ll Ll (ap (S:=Is (v)) Ll Ll (bh Ll Ll (ap (S:=Is (I (i:Int))) Ll Ll (bh Ll Ll (az Ll Ll Ll (fun w _=>p19 w) ?_))))))
  refine bh Ll Ll (aN Ll Ll (fun w hw=>rT (o:=1) KX Ll (by kernel_rfl) Ll) (bh Ll Ll (aE Ll Ll (fun w hw=>aj KU Ll (hw.cell_some (q19.at (j:=1) Ll))) ?_)))
  refine bh Ll Ll (ap (S:=Is (u)) Ll Ll (bh Ll Ll (ap (S:=Is (I (i:Int))) Ll Ll (bh Ll Ll (az Ll Ll Ll (fun w _=>p24 w) (bh Ll Ll ?_))))))
  refine aN Ll Ll (fun w hw=>rT (o:=1) KX Ll (by kernel_rfl) Ll) (bh Ll Ll (aE Ll Ll (fun w hw=>aj KU Ll (hw.cell_some (q24.at (j:=1) Ll))) ?_))
  refine bh Ll Ll (aS Ll Ll Ll (fun w _=>cf (fun h=>h Ll) (Dh KU)) (my (S:=Is (B false)) Ll Ll Ll (ap (S:=Is (B false)) Ll Ll ?_)))
  refine bh Ll Ll (ap (S:=Is (v)) Ll Ll (bh Ll Ll (ap (S:=Is (I (i:Int))) Ll Ll (bh Ll Ll (az Ll Ll Ll (fun w _=>p19 w) (bh Ll Ll ?_))))))
  refine aN rfl rfl (fun w hw=>rT (o:=2) Tryz.underlying147 rfl (by kernel_rfl) rfl) (bh rfl rfl (aE rfl rfl (fun w hw=>(q19.ext hw).ldO (ms:=[B e19.va.1,x19_0,x19_1]) (o:=2) (fun j v hj=>by rcases j with _|_|_|_|_|_|_|_|_|j<;>simp_all) Tryz.underlying55 rfl (by kernel_rfl)) ?_))
  refine bh Ll Ll (ap (S:=Is (u)) Ll Ll (bh Ll Ll (ap (S:=Is (I (i:Int))) Ll Ll (bh Ll Ll (az Ll Ll Ll (fun w _=>p24 w) (bh Ll Ll ?_))))))
  refine aN rfl rfl (fun w hw=>rT (o:=2) Tryz.underlying147 rfl (by kernel_rfl) rfl) (bh rfl rfl (aE rfl rfl (fun w hw=>(q24.ext hw).ldO (ms:=[B e19.va.1,x24_0,x24_1]) (o:=2) (fun j v hj=>by rcases j with _|_|_|_|_|_|_|_|_|j<;>simp_all) Tryz.underlying55 rfl (by kernel_rfl)) ?_))
  refine bh rfl rfl (ce (S:=Is (B true)) ly (bt.is _) rfl (fun w hw=>by rintro _ rfl _ rfl;exact An (a:=e19.va) (f19_0.ext hw) (f19_1.ext hw) (f24_0.ext hw) (f24_1.ext hw)) ?_)
  refine bh Ll Ll (yE Ll Ll (fun w _=>bK) (my (S:=Is (B false)) Ll Ll Ll (ap (S:=Is (B false)) Ll Ll (bh Ll Ll (ap (S:=Is (v)) Ll Ll ?_)))))
  refine bh Ll Ll (ap (S:=Is (I (i:Int))) Ll Ll (bh Ll Ll (az Ll Ll Ll (fun w _=>p19 w) (bh Ll Ll (aN Ll Ll (fun w hw=>rT (o:=5) KX Ll (by kernel_rfl) Ll) ?_)))))
  refine bh Ll Ll (aE Ll Ll (fun w hw=>aj KW Ll (hw.cell_some (q19.at (j:=5) Ll))) (bh Ll Ll (ap (S:=Is (u)) Ll Ll ?_)))
  refine bh Ll Ll (ap (S:=Is (I (i:Int))) Ll Ll (bh Ll Ll (az Ll Ll Ll (fun w _=>p24 w) (bh Ll Ll (aN Ll Ll (fun w hw=>rT (o:=5) KX Ll (by kernel_rfl) Ll) ?_)))))
  refine bh rfl rfl (aE rfl rfl (fun w hw=>aj KW rfl (hw.cell_some (q24.at (j:=5) rfl))) (bh rfl rfl (ce (S:=Is (B true)) rO (bt.is _) rfl (fun w hw=>by rintro _ rfl _ rfl;exact rP (l:=e19.pf) (f19_2.ext hw) (f24_2.ext hw)) ?_)))
  refine bh Ll Ll (yE Ll Ll (fun w _=>bK) (bF ?_))
  intro wg6 xg6
  rintro _ hq0
  obtain rfl:=Eq.symm hq0
  rintro _ hq1
  obtain rfl:=Eq.symm hq1
  rintro _ rfl
  rintro _ rfl
  rintro _ rfl
  refine aC Ll Ll Ll (ag (ab (cp Ll (ar (aJ (ab (aa (ae Ll Ll (ai (r:=I ((i+1:Nat):Int)) Ll Ll Ll (by have e:((i+1:Nat):Int)=(i:Int)+1:=(by omega);rw[e];exact aK (by omega) (by omega)) ?_)))))))))
  refine ac Ll Ll (ag ?_)
  refine bQ (i+1) ⟨rfl,rfl,rfl,trivial⟩ ⟨(e4.trans xg6),by omega⟩ (by omega)
 ·refine aY (aB (aB (aX (ab (af (aa (ac Ll Ll (ag (ab (av (aG Ll Ll ?_)))))))))))
  exact⟨_,rfl,e4,rfl⟩
theorem aP.lt_of_mem {n k:aP} (h:k∈n.kids):SizeOf.sizeOf k<SizeOf.sizeOf n:=by
 cases n with
 |mk l s ks e p=>
  have h:k∈ks:=h
  have:=List.sizeOf_lt_of_mem h
  simp only[aP.mk.sizeOf_spec]
  omega
theorem He {w:World} {n:aP} {vl x y vk vp ul p q uk up:Value} (ih:∀k∈n.kids,∀{w:World} {vl x y vk vp ul p q uk up:Value},df eI k.lems vl w→bo k.split.at_.2.1 x w→bo k.split.at_.2.2 y w→df bM k.kids vk w→df dk k.pf vp w→df eI k.lems ul w→bo k.split.at_.2.1 p w→bo k.split.at_.2.2 q w→df bM k.kids uk w→df dk k.pf up w→
 Calls Tryz.prog 58 #[.agg #[vl,I k.split.kd,I k.split.ix,B k.split.at_.1,x,y,vk,B k.empty,vp],.agg #[ul,I k.split.kd,I k.split.ix,B k.split.at_.1,p,q,uk,B k.empty,up]] w (bE fun r w'=>aI w w'∧r=B true))
 (hl:df eI n.lems vl w) (hx:bo n.split.at_.2.1 x w) (hy:bo n.split.at_.2.2 y w) (hk:df bM n.kids vk w) (hp:df dk n.pf vp w) (hl':df eI n.lems ul w) (hx':bo n.split.at_.2.1 p w) (hy':bo n.split.at_.2.2 q w) (hk':df bM n.kids uk w) (hp':df dk n.pf up w):
 Calls Tryz.prog 58 #[.agg #[vl,I n.split.kd,I n.split.ix,B n.split.at_.1,x,y,vk,B n.empty,vp],.agg #[ul,I n.split.kd,I n.split.ix,B n.split.at_.1,p,q,uk,B n.empty,up]] w (bE fun r w'=>aI w w'∧r=B true):=by
 refine enter (vs:=[.agg #[vl,I n.split.kd,I n.split.ix,B n.split.at_.1,x,y,vk,B n.empty,vp],.agg #[ul,I n.split.kd,I n.split.ix,B n.split.at_.1,p,q,uk,B n.empty,up]]) Tryz.func58 Ll Ll Ll ?_
 have hll:=hk.len
 refine af (aa ?_)
 obtain⟨g2,w2,hr2,l2,x2,k2⟩:=dc (P:=Tryz.prog) (w:=w) (T:=83) (cs:=[vl,I n.split.kd,I n.split.ix,B n.split.at_.1,x,y,vk,B n.empty,vp])
 refine cL Ll Ll hr2 ?_
 obtain⟨g3,w3,hr3,l3,x3,k3⟩:=dc (P:=Tryz.prog) (w:=w2) (T:=83) (cs:=[ul,I n.split.kd,I n.split.ix,B n.split.at_.1,p,q,uk,B n.empty,up])
 refine cL Ll Ll hr3 (ac Ll Ll (ag (ab (af (af (aa (ah Ll Ll (aF (o:=7) KM Ll (by kernel_rfl) Ll) ?_)))))))
 refine am Ll Ll (aj KU Ll (x3.cell_some (k2.cell (i:=7) Ll))) (ah Ll Ll (aF (o:=7) KM Ll (by kernel_rfl) Ll) ?_)
 refine am Ll Ll (aj KU Ll (k3.cell (i:=7) Ll)) (ai Ll Ll Ll (cf (fun h=>h Ll) (Dh KU)) ?_)
 refine ae rfl rfl (al rfl (ah rfl rfl (aF (o:=1) Tryz.underlying83 rfl (by kernel_rfl) rfl) (al rfl (am rfl rfl ((k2.ext x3).ldO (ms:=[I n.split.kd,I n.split.ix,B n.split.at_.1,x,y]) (o:=1) (fun j v hj=>by rcases j with _|_|_|_|_|_|_|_|_|j<;>simp_all) Tryz.underlying80 rfl (by kernel_rfl)) ?_))))
 refine al rfl (ah rfl rfl (aF (o:=1) Tryz.underlying83 rfl (by kernel_rfl) rfl) (al rfl (am rfl rfl (k3.ldO (ms:=[I n.split.kd,I n.split.ix,B n.split.at_.1,p,q]) (o:=1) (fun j v hj=>by rcases j with _|_|_|_|_|_|_|_|_|j<;>simp_all) Tryz.underlying80 rfl (by kernel_rfl)) ?_)))
 refine al Ll (an vQ Ll Ll ((EX (a:=n.split) (hx.ext (x2.trans x3)) (hy.ext (x2.trans x3)) (hx'.ext (x2.trans x3)) (hy'.ext (x2.trans x3)))) ?_)
 rintro v16 w16 ⟨x16,rfl⟩
 refine al Ll (bI Ll Ll bK (aC Ll Ll Ll (ae Ll Ll (al Ll (ah Ll Ll (aF (o:=0) KM Ll (by kernel_rfl) Ll) ?_)))))
 refine al Ll (am Ll Ll (aj KZ Ll ((x3.trans x16).cell_some (k2.cell (i:=0) Ll))) (al Ll (ah Ll Ll (aF (o:=0) KM Ll (by kernel_rfl) Ll) ?_)))
 refine al Ll (am Ll Ll (aj KZ Ll (x16.cell_some (k3.cell (i:=0) Ll))) (al Ll (an BS Ll Ll ((BU (hl.ext ((x2.trans x3).trans x16)) (hl'.ext ((x2.trans x3).trans x16)))) ?_)))
 rintro v24 w24 ⟨x24,rfl⟩
 refine al Ll (bI Ll Ll bK (aC Ll Ll Ll (ae Ll Ll (al Ll (ah Ll Ll (aF (o:=8) KM Ll (by kernel_rfl) Ll) ?_)))))
 refine al Ll (am Ll Ll (aj KW Ll (((x3.trans x16).trans x24).cell_some (k2.cell (i:=8) Ll))) (al Ll (ah Ll Ll (aF (o:=8) KM Ll (by kernel_rfl) Ll) ?_)))
 refine al Ll (am Ll Ll (aj KW Ll ((x16.trans x24).cell_some (k3.cell (i:=8) Ll))) (al Ll (an rO Ll Ll ((rP (hp.ext (((x2.trans x3).trans x16).trans x24)) (hp'.ext (((x2.trans x3).trans x16).trans x24)))) ?_)))
 rintro v32 w32 ⟨x32,rfl⟩
 refine al Ll (bI Ll Ll bK (aC Ll Ll Ll (ae Ll Ll (al Ll (ah Ll Ll (aF (o:=6) KM Ll (by kernel_rfl) Ll) ?_)))))
 refine al Ll (am Ll Ll (aj KR Ll ((((x3.trans x16).trans x24).trans x32).cell_some (k2.cell (i:=6) Ll))) (al Ll (aQ Ll Ll (bR KR (hk.ext ((((x2.trans x3).trans x16).trans x24).trans x32))) ?_)))
 refine al Ll (ah Ll Ll (aF (o:=6) KM Ll (by kernel_rfl) Ll) (al Ll (am Ll Ll (aj KR Ll (((x16.trans x24).trans x32).cell_some (k3.cell (i:=6) Ll))) ?_)))
 refine al Ll (aQ Ll Ll (bR KR (hk'.ext ((((x2.trans x3).trans x16).trans x24).trans x32))) (al Ll (ai Ll Ll Ll (cf (fun h=>h Ll) bL) ?_)))
 refine aC Ll Ll Ll (ag (ab (cp Ll (ar (ab (af (af (aa (ac Ll Ll (ag (ab (ax ?_))))))))))))
 refine bZ (α:=Nat) (fun x=>[(2,.pointer (some ⟨g2,0,none⟩)),(3,.pointer (some ⟨g3,0,none⟩)),(5,I (x:Int))]) (fun x w'=>aI w w'∧aI w32 w'∧x≤n.kids.length) (fun x=>n.kids.length-x) (0) ⟨rfl,rfl,rfl,trivial⟩ ⟨((((x2.trans x3).trans x16).trans x24).trans x32),aI.refl _,by omega⟩ ?_
 rintro i w4 ⟨e4,e10,hi⟩
 refine af (af (aa (ae Ll Ll (ah Ll Ll (aF (o:=6) KM Ll (by kernel_rfl) Ll) (am Ll Ll (aj KR Ll (((((x3.trans x16).trans x24).trans x32).trans e10).cell_some (k2.cell (i:=6) Ll))) ?_)))))
 refine aQ Ll Ll (bR KR (hk.ext e4)) (ai Ll Ll Ll (aW) (ag (ab ?_)))
 refine bi Ll (fun h48=>?_) (fun h48=>?_)
 ·refine ar (ab (af (ax (af (bz 11 [2,3,5,61] (by kernel_rfl) (by kernel_rfl) ?_)))))
  refine aN Ll Ll (fun w hw=>aF (o:=6) KM Ll (by kernel_rfl) Ll) (aE Ll Ll (fun w hw=>aj KR Ll (hw.cell_some (((((x3.trans x16).trans x24).trans x32).trans e10).cell_some (k2.cell (i:=6) Ll)))) ?_)
  refine ap Ll Ll ?_
  obtain⟨a54,c54,p54,q54,h54⟩:=dN (P:=Tryz.prog) (sz:=9) KR (by kernel_rfl) bD (by omega) (hk.ext e4) (i:=i) (by omega) .i64
  obtain⟨e54,he54⟩:∃e,e=n.kids[i]'(by omega):=⟨_,rfl⟩
  rw[←he54] at h54
  obtain⟨x54_0,x54_1,x54_2,x54_3,x54_4,rfl,f54_0,f54_1,f54_2,f54_3,f54_4⟩:=dY h54
  refine az Ll Ll Ll (fun w _=>p54 w) (aE Ll Ll (fun w hw=>(q54.ext hw).ld KM Ll (by kernel_rfl)) (aN Ll Ll (fun w hw=>aF (o:=6) KM Ll (by kernel_rfl) Ll) ?_))
  refine aE Ll Ll (fun w hw=>aj KR Ll (hw.cell_some ((((x16.trans x24).trans x32).trans e10).cell_some (k3.cell (i:=6) Ll)))) ?_
  refine ap Ll Ll ?_
  obtain⟨a59,c59,p59,q59,h59⟩:=dN (P:=Tryz.prog) (sz:=9) KR (by kernel_rfl) bD (by omega) (hk'.ext e4) (i:=i) (by omega) .i64
  rw[←he54] at h59
  obtain⟨x59_0,x59_1,x59_2,x59_3,x59_4,rfl,f59_0,f59_1,f59_2,f59_3,f59_4⟩:=dY h59
  refine az rfl rfl rfl (fun w _=>p59 w) (aE rfl rfl (fun w hw=>(q59.ext hw).ld KM rfl (by kernel_rfl)) (ce (S:=Is (B true)) Am (bt.is _) rfl (fun w hw=>by rintro _ rfl _ rfl;exact ih e54 (by rw[he54];exact List.getElem_mem _) (f54_0.ext hw) (f54_1.ext hw) (f54_2.ext hw) (f54_3.ext hw) (f54_4.ext hw) (f59_0.ext hw) (f59_1.ext hw) (f59_2.ext hw) (f59_3.ext hw) (f59_4.ext hw)) ?_))
  refine bF ?_
  intro wg6 xg6
  rintro _ rfl
  rintro _ rfl
  rintro _ rfl
  rintro _ rfl
  refine bI Ll Ll bK (ag (ab (cp Ll (ar (aJ (ab (aa (ae Ll Ll (ai (r:=I ((i+1:Nat):Int)) Ll Ll Ll (by have e:((i+1:Nat):Int)=(i:Int)+1:=(by omega);rw[e];exact aK (by omega) (by omega)) ?_)))))))))
  refine ac Ll Ll (ag ?_)
  refine bQ (i+1) ⟨rfl,rfl,rfl,trivial⟩ ⟨(e4.trans xg6),(e10.trans xg6),by omega⟩ (by omega)
 ·refine aY (aB (aB (aX (ab (af (aa (ac Ll Ll (ag (ab (av (aG Ll Ll ?_)))))))))))
  exact⟨_,rfl,e4,rfl⟩
theorem Ao:∀(m:Nat) {n:aP},SizeOf.sizeOf n≤m→∀{w:World} {vl x y vk vp ul p q uk up:Value},df eI n.lems vl w→bo n.split.at_.2.1 x w→bo n.split.at_.2.2 y w→df bM n.kids vk w→df dk n.pf vp w→df eI n.lems ul w→bo n.split.at_.2.1 p w→bo n.split.at_.2.2 q w→df bM n.kids uk w→df dk n.pf up w→
 Calls Tryz.prog 58 #[.agg #[vl,I n.split.kd,I n.split.ix,B n.split.at_.1,x,y,vk,B n.empty,vp],.agg #[ul,I n.split.kd,I n.split.ix,B n.split.at_.1,p,q,uk,B n.empty,up]] w (bE fun r w'=>aI w w'∧r=B true)
 |0,n,hm=>by cases n;simp at hm
 |m+1,n,hm=>fun h1 h2 h3 h4 h5 h6 h7 h8 h9 h10=>He (fun k hk _ _ _ _ _ _ _ _ _ _ _=>Ao m (by have:=aP.lt_of_mem hk;omega)) h1 h2 h3 h4 h5 h6 h7 h8 h9 h10
end Go.Rl
namespace Go.Rl
open Go.RowKit Go.Proofs
def I1 (n d:Int):Bool:=decide (0<n∧n≤16384∧n%d=0)
def small (l:List fQ):Prop:=∀q∈l,q.2.1.length≤1073741824∧q.2.2.length≤1073741824
def I2 (l:qI):Bool:=decide ((1≤l.kh∧l.kh≤64)∧(1≤l.kw∧l.kw≤64)∧(1≤l.sr∧l.sr≤64))
def Hf (l:qI):Bool:=decide ((l.ws.length:Int)=0∧(l.bs.length:Int)=0)
def Hg (l:qI):Bool:=decide (l.kh=0∧l.kw=0∧l.sr=0∧l.pd=0)
def KA (l:qI) (i:Int):Prop:=
 if l.kd=1 then Hg l=true∧l.fr=0∧(1≤l.ou∧l.ou≤16384)∧(l.bs.length:Int)=l.ou∧I1 l.ws.length l.ou=true
 else if l.kd=2 then I2 l=true∧l.fr=0∧l.pd≥0∧l.pd<l.kh∧l.pd<l.kw∧(1≤l.ou∧l.ou≤16384)∧(l.bs.length:Int)=l.ou∧I1 l.ws.length (l.ou*l.kh*l.kw)=true
 else if l.kd=3∨l.kd=4 then I2 l=true∧l.fr=0∧l.pd=0∧l.ou=0∧Hf l=true
 else if l.kd=5∨l.kd=6 then Hg l=true∧l.fr=0∧l.ou=0∧Hf l=true
 else if l.kd=7 then Hg l=true∧(-1≤l.fr∧l.fr≤i-1)∧l.ou=0∧Hf l=true
 else False
instance (l:qI) (i:Int):Decidable (KA l i):=by unfold KA;infer_instance
section
variable {l:qI} {i:Int}
end
end Go.Rl
namespace Go.Rl
open Go.RowKit Go.Proofs
end Go.Rl
namespace Go.Rl
open Go.RowKit Go.Proofs
section
variable {a:qI} {i:Int}
end
end Go.Rl
namespace Go.Rl
open Go.RowKit
section
variable {P:Program} {ops:Array Oper} {Env:World→Prop} {Rl:World→World→Prop} {mo:Bool} {Pn:List PanicEntry→World→Prop} {N:Nat}
def Di (ops:Array Oper) (n:Nat):Bool:=
 (List.range n).all fun i=>decide (i=0)||(List.range (n+1)).any fun j=>decide (i<j)&&Region.waitsFor .any ops j i
theorem Ap {n:Nat} {listed:Array Bool} (hs:Di ops n=true) (hc:j1 ops n=true) (inv:HeadInv .any ops n listed):
 ∀(d i:Nat),n-i=d→0<i→i<n→listed.getD i true=false→∀t,n≤t→t∉Region.ready .any ops listed:=by
 intro d
 induction d using Nat.strongRecOn with
 |_ d ih=>
  intro i hd h0 hi hun t ht hr
  obtain⟨_,ot,hot,hall⟩:=mem_ready.1 hr
  have htlt:t<ops.size:=(Array.getElem?_eq_some_iff.1 hot).1
  by_cases htn:t=n
  ·subst htn
   have h1:=List.all_eq_true.1 hs i (List.mem_range.2 hi)
   simp only[Bool.or_eq_true,decide_eq_true_eq] at h1
   obtain⟨j,hj,hj2⟩:=List.any_eq_true.1 (h1.resolve_left (by omega))
   simp only[Bool.and_eq_true,decide_eq_true_eq] at hj2
   obtain⟨oj,hoj,e,he,hb,hon⟩:=Region.waitsFor_spec hj2.2
   have hjle:j≤t:=by have:=List.mem_range.1 hj;omega
   by_cases hjt:j=t
   ·subst hjt
    have:oj=ot:=Option.some.inj (hoj.symm.trans hot)
    subst this
    have h2:=hall e he hb
    rw[hon,getD_both hun] at h2
    cases h2
   ·cases hl:listed.getD j false with
    |true=>
     have h2:=inv.closed j oj hoj hl e he hb
     rw[hon,getD_both hun] at h2
     cases h2
    |false=>
     have hjs:j<listed.size:=by rw[inv.size];omega
     exact ih (t-j) (by omega) j rfl (by omega) (by omega) (getD_in hjs hl) t (Nat.le_refl _) hr
  ·have h1:=List.all_eq_true.1 hc t (List.mem_range.2 htlt)
   simp only[Bool.or_eq_true,decide_eq_true_eq] at h1
   rcases h1 with h1|h1
   ·omega
   ·obtain⟨j,hj,hj2⟩:=List.any_eq_true.1 h1
    simp only[Bool.and_eq_true,decide_eq_true_eq] at hj2
    have hjt:=List.mem_range.1 hj
    obtain⟨o',ho',e,he,hb,hon⟩:=Region.waitsFor_spec hj2.2
    have:o'=ot:=Option.some.inj (ho'.symm.trans hot)
    subst this
    have h2:=hall e he hb
    rw[hon,getD_both (inv.tail j hj2.1 (by omega))] at h2
    cases h2
theorem uY {n i:Nat} {oi:Oper} {S:dC} {L:Array Bool→cn→iN→Prop} (hi:ops[i]? =some oi) (hcalls:mo=true→gh .any ops=true)
 (hs:Di ops n=true) (hc:j1 ops n=true) (hi0:0<i) (hin:i<n)
 (hdone:∀listed F Z,L listed F Z→∀j∈Region.ready .any ops listed,n≤j):
 ∀(f:Nat) (listed:Array Bool) (F:cn) (Z Z':iN),HeadInv .any ops n listed→
  (∀j oj,ops[j]? =some oj→j≠i→listed.getD j true=false→(∀e∈oj.after,Region.binds .any e=true→e.on≠i)→oi.apart ops oj=true)→
  i∈Region.ready .any ops listed→fD P ops Env Rl mo Pn N F Z oi S Z'→
  gu P .any ops Env Rl mo Pn N n L f (listed.setIfInBounds i true) (iU F oi.dst S) Z'→gu P .any ops Env Rl mo Pn N n L (f+1) listed F Z:=
 jW hi hcalls hin (fun _ inv hun t ht=>Ap hs hc inv _ i rfl hi0 hin hun t ht) hdone
theorem rQ {n:Nat} {perm:List Nat} {Lq:cn→iN→Prop} (hcalls:mo=true→gh .any ops=true) (hs:Di ops n=true) (hc:j1 ops n=true):
 ∀(l:List Oper) (k:Nat) (listed:Array Bool) (F:cn) (Z:iN),0<k→(∀j,j<l.length→l[j]? =ops[k+j]?)→k+l.length=n→HeadInv .any ops n listed→
 ik ops n perm l.length k listed=true→(∀t,bT Rl (F t))→cE Z→fg P ops Env Rl mo Pn N l F Z Lq→
 gu P .any ops Env Rl mo Pn N n (fun listed' F' Z'=>(oD ops perm listed'=true∧(Region.ready .any ops listed').all (fun j=>decide (n≤j))=true)∧Lq F' Z') l.length listed F Z
 |[],k,listed,F,Z,_,_,hk,_,hB,_,_,h=>by
  simp only[List.length_nil,ik,Bool.and_eq_true] at hB
  exact⟨hB,h⟩
 |o::l,k,listed,F,Z,hk0,hl,hk,inv,hB,hF,hZ,h=>by
  have h0:ops[k]? =some o:=by simpa using(hl 0 (by simp)).symm
  simp only[List.length_cons,ik,Bool.and_eq_true] at hB
  obtain⟨⟨hr,hf⟩,hB'⟩:=hB
  have hkn:k<n:=by simp only[List.length_cons] at hk;omega
  have hr':k∈Region.ready .any ops listed:=by simpa using hr
  obtain⟨S,Z',hspec,hrest⟩:=h hF hZ
  exact uY h0 hcalls hs hc hk0 hkn (fun listed' F' Z' hL j hj=>by simpa using List.all_eq_true.1 hL.1.2 j hj) l.length listed F Z Z' inv (Region.free_spec h0 hf) hr' hspec
   (rQ hcalls hs hc l (k+1) _ _ _ (by omega) (fun j hj=>by have:=hl (j+1) (by simp;omega);simpa [Nat.add_assoc,Nat.add_comm 1 j] using this) (by simp only[List.length_cons] at hk;omega) (inv.set hr' hkn) hB' (iy hF hspec.stable) (hspec.zst hZ) hrest)
def I3 (ops:Array Oper) (n:Nat) (perm:List Nat):Bool:=
 Region.noSelect ops&&decide (0<n)&&decide (n<ops.size)&&Di ops n&&j1 ops n&&decide (n+perm.length=ops.size)&&Region.free .any ops (Array.replicate ops.size false) 0&&(Region.ready .any ops (Array.replicate ops.size false)).contains 0&&ik ops n perm (n-1) 1 ((Array.replicate ops.size false).setIfInBounds 0 true)
theorem yq {Q:fe} {D:List Deferred} {l:Fr} {w:World} {id d:Nat} {x:Operand} {v:Value} {ty:TypeId} {pos:String} {aft:Array Edge} {os:List Oper} (n:Nat) (perm:List Nat) (ts:List Nat) (hm:P.follows .mixedOrders=true)
 (hB:I3 ((⟨some d,.move x,ty,pos,aft,none⟩:Oper)::os).toArray n perm=true) (hp:(perm.all fun i=>decide (i<os.length+1))=true) (hx:ev l x=some v) (hd:Nat.blt d N=true)
 (h:fg P ((⟨some d,.move x,ty,pos,aft,none⟩:Oper)::os).toArray (aI w) aI false HB N (os.take (n-1)) (pi ((d,v)::l)) (fun _=>True) (fun F _=>∀w',aI w w'→gK F w' ts (fun l'=>bW P ((⟨some d,.move x,ty,pos,aft,none⟩:Oper)::os).toArray (ip Q) N D l' w' (qL ((⟨some d,.move x,ty,pos,aft,none⟩:Oper)::os) perm)))):cM P Q N D l w (.region id ((⟨some d,.move x,ty,pos,aft,none⟩:Oper)::os).toArray true):=fun a ha=>by
 obtain⟨o,ho⟩:∃o:Oper,o=⟨some d,.move x,ty,pos,aft,none⟩:=⟨_,rfl⟩
 rw[←ho] at hB h⊢
 have ha':=ha.put hd v
 have hsat:uR N D (pi ((d,v)::l)) (a.put (some d) v) {w with drawn:=w.drawn+1}:=⟨ha'.size,ha'.defers,fun t=>by
  show pi ((d,v)::l) t ((a.put (some d) v).tmps.getD t undef) _
  unfold pi
  cases hv:lk ((d,v)::l) t with
  |some v=>exact ha'.at_ t v hv
  |none=>trivial⟩
 simp only[I3,Bool.and_eq_true,decide_eq_true_eq] at hB
 obtain⟨⟨⟨⟨⟨⟨⟨⟨hsel,hn0⟩,hn⟩,hs⟩,hc⟩,hlen⟩,hf⟩,hr⟩,hlex⟩:=hB
 have hn':n<os.length+1:=by simpa using hn
 have htl:(os.take (n-1)).length=n-1:=by simp;omega
 have h00:(o::os).toArray[0]? =some o:=by simp
 have inv0:HeadInv .any (o::os).toArray n (Array.replicate (o::os).toArray.size false):=
  ⟨by simp,fun j oj _ hl=>(by rw[getD_replicate_false] at hl;cases hl),fun t _ ht=>getD_in (by simpa using ht) (getD_replicate_false _ _)⟩
 have hr':0∈Region.ready .any (o::os).toArray (Array.replicate (o::os).toArray.size false):=by simpa using hr
 have H:=rQ (perm:=perm) (fun h=>by cases h) hs hc (os.take (n-1)) 1 _ _ _ (by omega) (fun j hj=>by
  have hj':j<n-1:=by rw[htl] at hj;exact hj
  simp[hj',Nat.add_comm 1 j]) (by rw[htl];omega) (inv0.set hr' (by omega)) (by rw[htl];exact hlex) (eV _) cE.triv (gZ _ _ _ (fun F Z hK a' w' he hs=>by
   obtain⟨l',hl',hk⟩:=gK.use hs (hK w' he)
   exact hk a' hl':∀F (Z:iN),_→(∀a' w',aI w w'→uR N D F a' w'→wpList P (o::os).toArray (ip Q) (qL (o::os) perm) a' w')) h)
 have hpick:∀(perm:List Nat),(perm.all fun i=>decide (i<(o::os).length))=true→(perm.map fun i=>(o::os).toArray[i]?)=(qL (o::os) perm).map some:=by
  intro perm
  induction perm with
  |nil=>intro _;rfl
  |cons i is ih=>
   intro hp
   simp only[List.all_cons,Bool.and_eq_true,decide_eq_true_eq] at hp
   have e:(o::os)[i]? =some (o::os)[i]:=List.getElem?_eq_getElem hp.1
   simp only[List.map_cons,qL,e,List.getElem?_toArray]
   rw[←ih hp.2]
   simp
 have rest:=fi (D:=D) (Q':=ip Q) (l0:=[]) (g:=perm.length) (fC.plain w) (fun _ _ _ _ _ _ h=>h.elim) (fun _ _ _ _ _ _ _ hp=>by cases hp) (fun listed F Z hL hF hZ a' w' he hsat hz=>iS hsel perm (qL (o::os) perm) listed a' w' (hpick perm (by simpa using hp)) hL.1.1 (hL.2 a' w' he hsat)) _ _ _ _ H (eV _) cE.triv (a.put (some d) v) {w with drawn:=w.drawn+1} ⟨rfl,rfl,rfl,Nat.le_refl _,fun _ _=>rfl⟩ hsat (fun _ hp=>by cases hp) trivial
 rw[htl] at rest
 refine wp_mono (wp_region_any (Q:=ip Q) hm ?_) fun e a w he=>by obtain⟨rfl,h⟩:=he;exact h
 have hsz:(o::os).toArray.size=(n-1+perm.length)+1:=by rw[←hlen];omega
 rw[show wpAny P .any (o::os).toArray (ip Q) (o::os).toArray.size=wpAny P .any (o::os).toArray (ip Q) ((n-1+perm.length)+1) by rw[hsz]]
 have hval:(∀w':World,(execOp a.eval o).run P w'=.ok (.value v) w'):=fun w'=>by
  rw[ho]
  have hv:a.eval x=v:=ha.ev hx
  simp[execOp,hv]
 have hdst:o.dst=some d:=by rw[ho]
 exact wpAny_take h00 hsel hf hr (fun c a w hp=>by obtain⟨hp,_⟩:=hp;cases hp) (.inl ⟨by rw[ho];rfl,hval⟩) (by rw[hdst];exact rest)
end
end Go.Rl
namespace Go.Rl
open Go.RowKit Go.Proofs
theorem Hh {n:Int} (h:nE n):1≤(gA n).length∧(gA n).length≤10:=⟨xq _,ft (Jh h.1 h.2)⟩
theorem eg {α β:Type} {f:α→List β} {l:List α} {i:Nat} (hi:i<l.length):(l.take (i+1)).flatMap f=(l.take i).flatMap f++f l[i]:=by
 rw[List.take_succ_eq_append_getElem hi,List.flatMap_append,List.flatMap_singleton]
end Go.Rl
namespace Go.Rl
open Go.RowKit Go.Proofs
theorem uC {w:World} {g:Nat}:(Instr.sliceAt 22 (.pointer (some ⟨g,0,none⟩)) none none none).run Tryz.prog w=.ok (.slice (some ⟨g,0,none⟩) 32 32) w:=by
 simp[Instr.sliceAt,run_underlying Tryz.underlying22,Instr.sureAddr,Instr.sliceBounds,dJ fO,Addr.add_mid]
theorem Aq {X:Nat→Prop} {w:World}:∀(l:List Int),aL X w (l.map sq) (l.map I)
 |[]=>aL.nil
 |n::l=>aL.cons (a:=[I n]) (by simp only[sq,cK,I]) (Aq l)
theorem ff.rpx {X:Nat→Prop} {w:World} {base:Nat} {l:List Int} {v:Value} (h:ff base l v w) (hX:∀k,v.ownBlock=some k→¬X k):cK X w (IR l) [v]:=by
 obtain⟨n,h⟩:=h
 exact cK.ofOwn h (Aq l) (by simp[zp]) (by omega) hX
end Go.Rl
namespace Go.Rl
open Go.RowKit Go.Proofs
section
variable {w:World} {g:Nat} {T:TypeId} {d:List UInt8} {v:Value}
def gk (d:List UInt8) (v:Value):List Value:=d.map U8++[v]
abbrev en:Value:=.slice none 0 0
theorem yr (hd:d.length=32):(gk d v).length=33:=by simp[gk,hd]
theorem yt:im.length=32:=rfl
theorem JL:(Tryz.prog.info? 25).map (·.size)=some 33:=by kernel_rfl
theorem qX:(Tryz.prog.info? 25).map (·.zero)=some (some (.agg (gk im en).toArray)):=by kernel_rfl
theorem eB (hd:d.length=32):(Tryz.prog.info? 25).map (·.size)=some (gk d v).length:=by rw[yr hd];exact JL
theorem Hi (hv:v.oneCell'=true):aD (gk d v):=fun u hu=>by
 rcases List.mem_append.1 hu with h|h
 ·exact kY d u h
 ·obtain rfl:=List.mem_singleton.1 h;exact hv
theorem uD:(Instr.fieldAt 25 (.pointer (some ⟨g,0,none⟩)) 0).run Tryz.prog w=.ok (.pointer (some ⟨g,0,none⟩)) w:=aF (o:=0) K2 rfl (by kernel_rfl) rfl
theorem lS:(Instr.fieldAt 25 (.pointer (some ⟨g,0,none⟩)) 1).run Tryz.prog w=.ok (.pointer (some ⟨g,32,none⟩)) w:=aF (o:=32) K2 rfl (by kernel_rfl) rfl
theorem BV (k:cd g T (gk d v) w) (hd:d.length=32):(Instr.loadAt 22 (.pointer (some ⟨g,0,none⟩))).run Tryz.prog w=.ok (.agg (d.map U8).toArray) w:=
 k.ldO (ms:=d.map U8) (o:=0) (fun j u hj=>by
  rw[Nat.zero_add,gk,List.getElem?_append_left (by have:=(List.getElem?_eq_some_iff.1 hj).1;simpa using this)]
  exact hj) La rfl (by rw[List.length_map,hd];exact j5)
theorem uE (k:cd g T (gk d v) w) (hd:d.length=32):w.cell? ⟨g,32,none⟩=some v:=
 k.cell (i:=32) (by rw[gk,List.getElem?_append_right (by simp[hd])];simp[hd])
theorem yu (k:cd g T (gk d v) w) (hd:d.length=32):(Instr.loadAt 25 (.pointer (some ⟨g,0,none⟩))).run Tryz.prog w=.ok (.agg (gk d v).toArray) w:=
 k.ld K2 rfl (eB hd)
theorem JM {l:List UInt8} (h:l.length=32):∃a0 a1 a2 a3 a4 a5 a6 a7 a8 a9 b0 b1 b2 b3 b4 b5 b6 b7 b8 b9 c0 c1 c2 c3 c4 c5 c6 c7 c8 c9 d0 d1,l=[a0,a1,a2,a3,a4,a5,a6,a7,a8,a9,b0,b1,b2,b3,b4,b5,b6,b7,b8,b9,c0,c1,c2,c3,c4,c5,c6,c7,c8,c9,d0,d1]:=by
 match l,h with
 |[a0,a1,a2,a3,a4,a5,a6,a7,a8,a9,b0,b1,b2,b3,b4,b5,b6,b7,b8,b9,c0,c1,c2,c3,c4,c5,c6,c7,c8,c9,d0,d1],_=>exact⟨a0,a1,a2,a3,a4,a5,a6,a7,a8,a9,b0,b1,b2,b3,b4,b5,b6,b7,b8,b9,c0,c1,c2,c3,c4,c5,c6,c7,c8,c9,d0,d1,rfl⟩
theorem EY (hd:d.length=32) (hv:∃A n c,v=.slice A n c):(Instr.build 25 #[(0,.agg (d.map U8).toArray),(1,v)]).run Tryz.prog w=.ok (.agg (gk d v).toArray) w:=by
 obtain⟨a0,a1,a2,a3,a4,a5,a6,a7,a8,a9,b0,b1,b2,b3,b4,b5,b6,b7,b8,b9,c0,c1,c2,c3,c4,c5,c6,c7,c8,c9,d0,d1,rfl⟩:=JM hd
 obtain⟨A,n,c,rfl⟩:=hv
 exact run_build _ _ _ _ (by kernel_rfl)
theorem BW (hv:∃A n c,v=.slice A n c):(Instr.build 25 #[(1,v)]).run Tryz.prog w=.ok (.agg (gk im v).toArray) w:=by
 obtain⟨A,n,c,rfl⟩:=hv
 exact run_build _ _ _ _ (by kernel_rfl)
theorem du:(Instr.build 25 #[]).run Tryz.prog w=.ok (.agg (gk im en).toArray) w:=run_build _ _ _ _ (by kernel_rfl)
theorem fw {l:List Value} (k:cd g T l w) (hl:l.length=33) (hd:d.length=32) (hv:v.oneCell'=true):∃w',(Instr.storeAt 25 (.pointer (some ⟨g,0,none⟩)) (.agg (gk d v).toArray)).run Tryz.prog w=.ok () w'∧w.grownBy w' (some g)∧cd g T (gk d v) w':=
 k.stS (m:=gk d v) (by rw[hl,yr hd]) (eB hd) (Hi hv)
theorem Im (k:cd g T (gk d v) w) (hd:d.length=32) {i:Nat} (hi:i<32) {b:UInt8}:∃w',(Instr.storeAt 5 (.pointer (some ⟨g,i,none⟩)) (U8 b)).run Tryz.prog w=.ok () w'∧w.grownBy w' (some g)∧cd g T (gk (d.set i b) v) w':=by
 obtain⟨w',h1,h2,h3⟩:=k.stC (P:=Tryz.prog) (t:=5) (i:=i) (v:=U8 b) fO rfl (by rw[yr hd];omega)
 refine⟨w',h1,h2,?_⟩
 have e:(gk d v).set i (U8 b)=gk (d.set i b) v:=by
  unfold gk
  rw[List.set_append_left _ _ (by simpa [hd] using hi),List.map_set]
 rw[e] at h3
 exact h3
end
def gd (base:Nat) (l:List UInt8) (r:Value) (w:World):Prop:=∃v,r=.tuple #[.agg (gk (jM l).1.1 v).toArray,I (jM l).2]∧cK (fun k=>k<base) w (.sl ((jM l).1.2.map bM)) [v]
theorem gd.err {base:Nat} {l:List UInt8} {w:World} {n:Int} (h:jM l=(ww,n)):gd base l (.tuple #[.agg (gk im en).toArray,I n]) w:=⟨_,by rw[h];rfl,by rw[h];exact cK.nilSl⟩
theorem gd.ok {base:Nat} {l dg:List UInt8} {ts:List aP} {w:World} {v:Value} (h:jM l=((dg,ts),0)) (hv:cK (fun k=>k<base) w (.sl (ts.map bM)) [v]):gd base l (.tuple #[.agg (gk dg v).toArray,I 0]) w:=⟨v,by rw[h],by rw[h];exact hv⟩
theorem EZ {w:World} {l:List UInt8} {v:Value} (hl:l.length≤1048576) (hv:cm ((l.take (l.length-32)).drop 36) v w):
 Calls Tryz.prog 53 #[v,I 4194304] w (bE fun r w'=>aI w w'∧∃u,r=.tuple #[u,I (pW l).2]∧cm (pW l).1 u w'):=
 bE.mono (EK hv (by rw[List.length_drop,List.length_take];omega) (by omega) (by omega) (fun n t _ h=>by omega)) fun r w' h=>⟨h.1,by have:=z9 h.2;rwa [Ha hl] at this⟩
theorem E0 {w:World} {l:List UInt8} {v:Value} (hl:l.length≤1048576) (hv:cm ((l.take (l.length-32)).drop 36) v w):
 Calls Tryz.prog 56 #[v,I 4194304] w (bE fun r w'=>aI w w'∧∃u,r=.tuple #[u,I (pW l).2]∧cm (pW l).1 u w'):=
 bE.mono (ED hv (by rw[List.length_drop,List.length_take];omega) (by omega) (by omega)) fun r w' h=>⟨h.1,z9 h.2⟩
theorem Hj {w:World} {b:List UInt8} {v:Value} (hv:cm b v w) (hl:b.length≤549755813888):
 Calls Tryz.prog 54 #[v] w (bE fun r w'=>aI w w'∧∃(vt:Value) (e:Int),r=.tuple #[vt,I e]∧vt.oneCell'=true∧((e=0∧∃ts:List aP,uy b=some ts∧cK (fun k=>k<w.heap.size) w' (.sl (ts.map bM)) [vt])∨(e=5∧uy b=none))):=
 bE.mono (zI hv hl) fun r w' ⟨h1,vt,h2,h3⟩=>⟨h1,vt,by
  rcases h3 with⟨h3,ts,h4,h5⟩|⟨h3,h4⟩
  ·exact⟨0,h3,h2,.inl ⟨rfl,ts,uA h4,h5⟩⟩
  ·exact⟨5,h3,h2,.inr ⟨rfl,Ai h4⟩⟩⟩
theorem Hk {w:World} {b:List UInt8} {v:Value} (hv:cm b v w) (hl:b.length≤549755813888):
 Calls Tryz.prog 57 #[v] w (bE fun r w'=>aI w w'∧∃(vt:Value) (ok:Bool),r=.tuple #[vt,B ok]∧vt.oneCell'=true∧((ok=true∧∃ts:List aP,uy b=some ts∧cK (fun k=>k<w.heap.size) w' (.sl (ts.map bM)) [vt])∨(ok=false∧uy b=none))):=
 bE.mono (zC hv hl) fun r w' ⟨h1,ts,vt,ok,h2,h3,h4,h5,h6⟩=>⟨h1,vt,ok,h2,h4,by
  cases ok with
  |true=>exact .inl ⟨rfl,ts,uA (h5 rfl),h3⟩
  |false=>exact .inr ⟨rfl,Ai (h6 rfl)⟩⟩
theorem uF {α:Type} {p:α→Bool} {l:List α} {i:Nat} (hi:i<l.length) (h:l.all p=(l.drop i).all p) (h1:p l[i]=true):l.all p=(l.drop (i+1)).all p:=by rw[h,Ak hi,h1,Bool.true_and]
theorem qY {α:Type} {p:α→Bool} {l:List α} {i:Nat} (hi:i<l.length) (h:l.all p=(l.drop i).all p) (h1:p l[i]=false):l.all p=false:=by rw[h,Ak hi,h1,Bool.false_and]
theorem pY {α:Type} {p:α→Bool} {l:List α} {i:Nat} (hi:l.length≤i) (h:l.all p=(l.drop i).all p):l.all p=true:=by rw[h,List.drop_eq_nil_of_le hi];rfl
end Go.Rl
namespace Go.Rl
open Go.RowKit Go.Proofs
theorem pZ:ay Tryz.prog 19:=⟨_,Tryz.func19,by kernel_rfl,rfl⟩
theorem BX {w:World} {d:List UInt8} {ts:List aP} {x y:Value} (hd:d.length=32) (hx:df bM ts x w) (hy:df bM ts y w):
 Calls Tryz.prog 21 #[.agg (gk d x).toArray,.agg (gk d y).toArray] w (bE fun r w'=>aI w w'∧r=B true):=by
 refine enter (vs:=[.agg (gk d x).toArray,.agg (gk d y).toArray]) Tryz.func21 Ll Ll Ll ?_
 have hll:=hx.len
 refine af (aa ?_)
 obtain⟨g2,w2,hr2,l2,x2,k2⟩:=dc (P:=Tryz.prog) (w:=w) (T:=25) (cs:=gk d x)
 refine cL Ll Ll hr2 ?_
 obtain⟨g3,w3,hr3,l3,x3,k3⟩:=dc (P:=Tryz.prog) (w:=w2) (T:=25) (cs:=gk d y)
 refine cL Ll Ll hr3 ?_
 have kx:=k2.ext x3
 have hx2:=hx.ext (x2.trans x3)
 have hy2:=hy.ext (x2.trans x3)
 have cx:=uE kx hd
 have cy:=uE k3 hd
 refine ac Ll Ll (ag (ab (af (af (aa ?_)))))
 refine ah Ll Ll uD ?_
 refine am Ll Ll (BV kx hd) ?_
 refine ah Ll Ll uD ?_
 refine am Ll Ll (BV k3 hd) ?_
 refine ai (r:=B false) Ll Ll Ll (JK hd) ?_
 refine ae Ll Ll (al Ll ?_)
 refine ah Ll Ll lS ?_
 refine al Ll (am Ll Ll (aj KR Ll cx) (al Ll (aQ Ll Ll (bR KR hx2) (al Ll ?_))))
 refine ah Ll Ll lS ?_
 refine al Ll (am Ll Ll (aj KR Ll cy) (al Ll (aQ Ll Ll (bR KR hy2) (al Ll (ai Ll Ll Ll (cf (fun h=>h Ll) bL) ?_)))))
 refine aC Ll Ll Ll (ag (ab (cp Ll (ar (ab (af (af (aa (ac Ll Ll (ag (ab (ax ?_))))))))))))
 refine bZ (α:=Nat) (fun i=>[(2,.pointer (some ⟨g2,0,none⟩)),(3,.pointer (some ⟨g3,0,none⟩)),(5,I (i:Int))]) (fun i w'=>aI w w'∧aI w3 w'∧i≤ts.length) (fun i=>ts.length-i) (0) ⟨rfl,rfl,rfl,trivial⟩ ⟨(x2.trans x3),aI.refl _,by omega⟩ ?_
 rintro i w4 ⟨e4,e3,hi⟩
 refine af (af ?_)
 have hx4:=hx2.ext e3
 have hy4:=hy2.ext e3
 have cx4:=e3.cell_some cx
 have cy4:=e3.cell_some cy
 refine aa (ae Ll Ll ?_)
 refine ah Ll Ll lS ?_
 refine am Ll Ll (aj KR Ll cx4) (aQ Ll Ll (bR KR hx4) (ai Ll Ll Ll (aW) (ag ?_)))
 refine ab ?_
 refine bi Ll (fun h24=>?_) (fun h24=>?_)
 ·refine ar (ab (af (ax (af (bz 11 [2,3,5,37] (by kernel_rfl) (by kernel_rfl) ?_)))))
  refine aN Ll Ll (fun w hw=>lS) ?_
  refine aE Ll Ll (fun w hw=>aj KR Ll (hw.cell_some cx4)) (ap Ll Ll ?_)
  obtain⟨a30,c30,p30,q30,h30⟩:=dN (P:=Tryz.prog) (sz:=9) KR (by kernel_rfl) bD (by omega) hx4 (i:=i) (by omega) .i64
  obtain⟨e30,he30⟩:∃e,e=ts[i]'(by omega):=⟨_,rfl⟩
  rw[←he30] at h30
  obtain⟨x30_0,x30_1,x30_2,x30_3,x30_4,rfl,f30_0,f30_1,f30_2,f30_3,f30_4⟩:=dY h30
  refine az Ll Ll Ll (fun w _=>p30 w) (aE Ll Ll (fun w hw=>(q30.ext hw).ld KM Ll (by kernel_rfl)) ?_)
  refine aN Ll Ll (fun w hw=>lS) ?_
  refine aE Ll Ll (fun w hw=>aj KR Ll (hw.cell_some cy4)) (ap Ll Ll ?_)
  obtain⟨a35,c35,p35,q35,h35⟩:=dN (P:=Tryz.prog) (sz:=9) KR (by kernel_rfl) bD (by omega) hy4 (i:=i) (by omega) .i64
  rw[←he30] at h35
  obtain⟨x35_0,x35_1,x35_2,x35_3,x35_4,rfl,f35_0,f35_1,f35_2,f35_3,f35_4⟩:=dY h35
  refine az rfl rfl rfl (fun w _=>p35 w) (aE rfl rfl (fun w hw=>(q35.ext hw).ld KM rfl (by kernel_rfl)) (ce (S:=Is (B true)) Am (bt.is _) rfl (fun w hw=>by rintro _ rfl _ rfl;exact Ao _ (Nat.le_refl _) (f30_0.ext hw) (f30_1.ext hw) (f30_2.ext hw) (f30_3.ext hw) (f30_4.ext hw) (f35_0.ext hw) (f35_1.ext hw) (f35_2.ext hw) (f35_3.ext hw) (f35_4.ext hw)) ?_))
  refine bF ?_
  intro wg6 xg6
  rintro _ rfl
  rintro _ rfl
  rintro _ rfl
  rintro _ rfl
  refine bI Ll Ll bK (ag (ab (cp Ll (ar (aJ (ab (aa (ae Ll Ll (ai (r:=I ((i+1:Nat):Int)) Ll Ll Ll (by have e:((i+1:Nat):Int)=(i:Int)+1:=(by omega);rw[e];exact aK (by omega) (by omega)) ?_)))))))))
  refine ac Ll Ll (ag ?_)
  refine bQ (i+1) ⟨rfl,rfl,rfl,trivial⟩ ⟨(e4.trans xg6),(e3.trans xg6),by omega⟩ (by omega)
 ·refine aY (aB (aB (aX (ab (af (aa (ac Ll Ll (ag (ab (av (aG Ll Ll ?_)))))))))))
  exact⟨_,rfl,e4,rfl⟩
theorem p6 {w:World} {l:List UInt8} {v:Value} (hv:cm l v w):
 Calls Tryz.prog 19 #[v] w (bE fun r w'=>aI w w'∧gd w.heap.size l r w'):=by
 refine enter (vs:=[v]) Tryz.func19 Ll Ll Ll ?_
 have hll:=hv.len
 refine af (aa ?_)
 obtain⟨g2,w2,hr2,l2,x2,k2⟩:=be (P:=Tryz.prog) (w:=w) (t:=25) (z:=.agg (gk im en).toArray) (l:=gk im en) qX rfl
 refine bf Ll hr2 ?_
 refine ac Ll Ll (ag (ab (af (af (aa (ae Ll Ll (aQ Ll Ll (bC (hv.ext x2)) (ai Ll Ll Ll (ck) (ag (ab ?_))))))))))
 refine bi Ll (fun h13=>?_) (fun h13=>?_)
 ·have h1:1048576<l.length:=by omega
  refine af (aa ?_)
  refine bm (vs:=[]) (r:=.agg (gk im en).toArray) Ll Ll du ?_
  obtain⟨w2_1,s2_1,q2_1,k2_1⟩:=fw (d:=im) (v:=en) (k2.ext (aI.refl _)) rfl rfl rfl
  refine aq Ll Ll s2_1 ?_
  have x2_1:=aI.of_new (x2) q2_1 l2
  refine ac Ll Ll (ag (ab (av (au ?_))))
  refine bJ Ll Ll Ll k2_1 K2 Ll (eB Ll) ?_
  exact⟨_,rfl,x2_1,gd.err (wx h1)⟩
 ·have h1:¬1048576<l.length:=by omega
  refine ar (ab (af (af ?_)))
  rcases Nat.lt_or_ge l.length 68 with h68|h68
  ·refine aa (ae Ll Ll (aQ Ll Ll (bC (hv.ext x2)) (ai Ll Ll Ll (cg (by omega) aW) (ae Ll Ll (ao Ll Ll Ll (ao Ll Ll Ll (ao Ll Ll Ll ?_)))))))
   refine ao Ll Ll Ll (aw Ll Ll Ll (ag (ab (bB Ll (af (aa ?_))))))
   refine bm (vs:=[]) (r:=.agg (gk im en).toArray) Ll Ll du ?_
   obtain⟨w4_1,s4_1,q4_1,k4_1⟩:=fw (d:=im) (v:=en) (k2.ext (aI.refl _)) rfl rfl rfl
   refine aq Ll Ll s4_1 ?_
   have x4_1:=aI.of_new (x2) q4_1 l2
   refine ac Ll Ll (ag (ab (av (au ?_))))
   refine bJ Ll Ll Ll k4_1 K2 Ll (eB Ll) ?_
   exact⟨_,rfl,x4_1,gd.err (nL h1 (by first|exact .inl h68|exact .inr h2))⟩
  ·refine aa (ae Ll Ll (aQ Ll Ll (bC (hv.ext x2)) (ai Ll Ll Ll (cf (by omega) aW) (ae Ll Ll (al Ll (ae Ll Ll (al Ll ?_)))))))
   obtain⟨v20,p20,b20⟩:=ie (hv.ext x2) (hi:=4) (by omega) .i64
   refine cw Ll Ll Ll Ll Ll (p20 _) (al Ll (aR Ll Ll (nT b20) (al Ll (ai (v:=S [82,76,85,67]) Ll Ll Ll (sg) (aC Ll Ll Ll ?_)))))
   refine ag (ab ?_)
   refine bi Ll (fun h23=>?_) (fun h23=>?_)
   ·have h2:l.take 4≠gb:=h23
    refine af (aa ?_)
    refine bm (vs:=[]) (r:=.agg (gk im en).toArray) Ll Ll du ?_
    obtain⟨w4_1,s4_1,q4_1,k4_1⟩:=fw (d:=im) (v:=en) (k2.ext (aI.refl _)) rfl rfl rfl
    refine aq Ll Ll s4_1 ?_
    have x4_1:=aI.of_new (x2) q4_1 l2
    refine ac Ll Ll (ag (ab (av (au ?_))))
    refine bJ Ll Ll Ll k4_1 K2 Ll (eB Ll) ?_
    exact⟨_,rfl,x4_1,gd.err (nL h1 (by first|exact .inl h68|exact .inr h2))⟩
   ·have h2:¬(l.length<68∨l.take 4≠gb):=fun hh=>hh.elim (fun hh=>by omega) h23
    refine ar (ab (af (aa (ae Ll Ll (aQ Ll Ll (bC (hv.ext x2)) (ai (r:=I ((l.length-32:Nat):Int)) Ll Ll Ll (by have e:((l.length-32:Nat):Int)=(l.length:Int)-32:=(by omega);rw[e];exact bg (by omega) (by omega)) ?_))))))
    refine ac Ll Ll (ac Ll Ll (ag (ab (af (af (bz 9 [0,2,4,5,31,36] (by kernel_rfl) (by kernel_rfl) ?_))))))
    have hvg:=hv.ext x2
    obtain⟨v30,p30,b30⟩:=ie hvg (hi:=l.length-32) (by omega) .i64
    obtain⟨v34,p34,b34⟩:=fp hvg (lo:=l.length-32) (by omega) .i64
    have l34:(l.drop (l.length-32)).length=32:=by rw[List.length_drop];omega
    obtain⟨ad,p35,c35⟩:=I0 b34 l34
    refine ap rfl rfl (ap rfl rfl (ia (a:=none) (b:=some (I ((l.length-32:Nat):Int))) rfl rfl rfl rfl (fun w _=>p30 w) (ce (S:=Is (.agg ((je (l.take (l.length-32))).map U8).toArray)) wt (bt.is _) rfl (fun w hw=>by rintro _ rfl;exact(wu (b30.ext hw))) ?_)))
    refine ap Ll Ll (ap Ll Ll (ia (a:=some (I ((l.length-32:Nat):Int))) (b:=none) Ll Ll Ll Ll (fun w _=>p34 w) (EW Ll Ll (fun w _=>p35 w) ?_)))
    refine aE Ll Ll (fun w hw=>Dg (c35.ext hw) l34) (bF ?_)
    intro wg6 xg6
    rintro _ hq0
    obtain rfl:=Eq.symm hq0
    rintro _ rfl
    rintro _ rfl
    rintro _ rfl
    rintro _ rfl
    rintro _ rfl
    refine ai Ll Ll Ll ((by exact IZ (dF _) l34)) (ag (ab ?_))
    refine bi Ll (fun h37=>?_) (fun h37=>?_)
    ·have h3:je (l.take (l.length-32))≠l.drop (l.length-32):=h37
     refine af (aa ?_)
     refine bm (vs:=[]) (r:=.agg (gk im en).toArray) Ll Ll du ?_
     obtain⟨w7_1,s7_1,q7_1,k7_1⟩:=fw (d:=im) (v:=en) (k2.ext (xg6)) rfl rfl rfl
     refine aq Ll Ll s7_1 ?_
     have x7_1:=aI.of_new ((x2.trans xg6)) q7_1 l2
     refine ac Ll Ll (ag (ab (av (au ?_))))
     refine bJ Ll Ll Ll k7_1 K2 Ll (eB Ll) ?_
     exact⟨_,rfl,x7_1,gd.err (Ah h1 h2 h3)⟩
    ·have h3:¬je (l.take (l.length-32))≠l.drop (l.length-32):=h37
     refine ar (ab (af (aa (ae Ll Ll (ae Ll Ll (ae Ll Ll ?_))))))
     obtain⟨v43,p43,b43⟩:=ri (hv.ext (x2.trans xg6)) (lo:=36) (hi:=l.length-32) (by omega) (by omega) .i64 .i64
     refine cw Ll Ll Ll Ll Ll (p43 _) (an EH Ll Ll ((EZ (by omega) b43)) ?_)
     rintro v44 w44 ⟨x44,vu,rfl,bU⟩
     refine ae Ll Ll (ak Ll Ll (aT) (ak Ll Ll (aU) (ac Ll Ll (ac Ll Ll (ag (ab (af (af (aa (ae Ll Ll (ai Ll Ll Ll (bL) ?_)))))))))))
     refine ag (ab ?_)
     refine bi Ll (fun h48=>?_) (fun h48=>?_)
     ·have h4:(pW l).2≠0:=h48
      refine af (aa ?_)
      refine bm (vs:=[]) (r:=.agg (gk im en).toArray) Ll Ll du ?_
      refine ae Ll Ll ?_
      obtain⟨w10_2,s10_2,q10_2,k10_2⟩:=fw (d:=im) (v:=en) (k2.ext ((xg6.trans x44))) rfl rfl rfl
      refine aq Ll Ll s10_2 ?_
      have x10_2:=aI.of_new (((x2.trans xg6).trans x44)) q10_2 l2
      refine ac Ll Ll (ag (ab (av (au ?_))))
      refine bJ Ll Ll Ll k10_2 K2 Ll (eB Ll) ?_
      exact⟨_,rfl,x10_2,gd.err (Aj h1 h2 h3 rfl h4)⟩
     ·have h4:(pW l).2=0:=Classical.byContradiction h48
      have hul:=Df (l:=l)
      have e2u:=(xg6.trans x44)
      refine ar (ab (af (aa (ae Ll Ll (an zH Ll Ll ((Hj (b:=(pW l).1) bU (by omega))) ?_)))))
      rintro v53 w53 ⟨x53,vt,e5,rfl,h1v,hT⟩
      refine ae Ll Ll (ak Ll Ll (aT) (ak Ll Ll (aU) (ac Ll Ll (ac Ll Ll (ag (ab (af (af (aa (ae Ll Ll (ai Ll Ll Ll (bL) ?_)))))))))))
      refine ag (ab ?_)
      refine bi Ll (fun h57=>?_) (fun h57=>?_)
      ·have he5:e5=5∧uy (pW l).1=none:=hT.resolve_left (fun h=>h57 h.1)
       refine af (aa ?_)
       refine bm (vs:=[]) (r:=.agg (gk im en).toArray) Ll Ll du ?_
       refine ae Ll Ll ?_
       obtain⟨w13_2,s13_2,q13_2,k13_2⟩:=fw (d:=im) (v:=en) (k2.ext (((xg6.trans x44).trans x53))) rfl rfl rfl
       refine aq Ll Ll s13_2 ?_
       have x13_2:=aI.of_new ((((x2.trans xg6).trans x44).trans x53)) q13_2 l2
       refine ac Ll Ll (ag (ab (av (au ?_))))
       refine bJ Ll Ll Ll k13_2 K2 Ll (eB Ll) ?_
       exact⟨_,rfl,x13_2,gd.err (by rw[he5.1];exact Dd h1 h2 h3 h4 he5.2)⟩
      ·have he5:e5=0:=Classical.byContradiction h57
       obtain⟨ts,hts0,rts⟩:∃ts:List aP,uy (pW l).1=some ts∧cK (fun k=>k<w44.heap.size) w53 (.sl (ts.map bM)) [vt]:=hT.elim (fun h=>h.2) (fun h=>by have:=h.1;omega)
       have hD:=De h1 h2 h3 h4 hts0
       have hts:df bM ts vt w53:=rts.rp
       have htl:=hts.len
       have e53:=(((x2.trans xg6).trans x44).trans x53)
       have e253:=((xg6.trans x44).trans x53)
       refine ar (ab (af (af (aa (ae Ll Ll (aQ Ll Ll (bR KR hts) (ae Ll Ll (ag (ab (ax ?_))))))))))
       refine bZ (α:=Nat) (fun i=>[(0,v),(2,.pointer (some ⟨g2,0,none⟩)),(4,I 36),(8,vt),(60,vt),(61,I (ts.length:Int)),(62,I (i:Int))]) (fun i w'=>aI w w'∧aI w53 w'∧i≤ts.length∧ts.all fv=(ts.drop i).all fv) (fun i=>ts.length-i) (0) ⟨rfl,rfl,rfl,rfl,rfl,rfl,rfl,trivial⟩ ⟨(((x2.trans xg6).trans x44).trans x53),aI.refl _,by omega,rfl⟩ ?_
       rintro i wL ⟨eL,e5L,hi,hall⟩
       refine af (aa (ai Ll Ll Ll (aW) (ag (ab (af ?_)))))
       refine bi Ll (fun h63=>?_) (fun h63=>?_)
       ·refine ar (ab (af (ax (af (aa ?_)))))
        obtain⟨a64,c64,p64,q64,h64⟩:=dN (P:=Tryz.prog) (sz:=9) KR (by kernel_rfl) bD (by omega) (hts.ext e5L) (i:=i) (by omega) .i64
        obtain⟨e64,he64⟩:∃e,e=ts[i]'(by omega):=⟨_,rfl⟩
        rw[←he64] at h64
        obtain⟨x64_0,x64_1,x64_2,x64_3,x64_4,rfl,f64_0,f64_1,f64_2,f64_3,f64_4⟩:=dY h64
        refine aA Ll Ll Ll (p64 _) (am Ll Ll (q64.ld KM Ll (by kernel_rfl)) ?_)
        obtain⟨g10,w10,hr10,l10,x10,k10⟩:=be (P:=Tryz.prog) (w:=wL) (t:=83) (z:=.agg #[.slice none 0 0,I 0,I 0,B false,.slice none 0 0,.slice none 0 0,.slice none 0 0,B false,.slice none 0 0]) (l:=[.slice none 0 0,I 0,I 0,B false,.slice none 0 0,.slice none 0 0,.slice none 0 0,B false,.slice none 0 0]) (by kernel_rfl) rfl
        refine bf Ll hr10 ?_
        obtain⟨w16_3,s16_3,q16_3,k16_3⟩:=k10.stS (P:=Tryz.prog) (t:=83) (m:=[x64_0,I e64.split.kd,I e64.split.ix,B e64.split.at_.1,x64_1,x64_2,x64_3,B e64.empty,x64_4]) rfl (by kernel_rfl) (aD.cons f64_0.one (aD.cons rfl (aD.cons rfl (aD.cons rfl (aD.cons f64_1.one (aD.cons f64_2.one (aD.cons f64_3.one (aD.cons rfl (aD.cons f64_4.one aD.nil)))))))))
        refine aq Ll Ll s16_3 ?_
        have x16_3:=aI.of_new (x10) q16_3 l10
        refine ag (ab (af (aa (am Ll Ll (k16_3.ld KM Ll (by kernel_rfl)) (an jH Ll Ll ((qR (n:=e64) (f64_0.ext x16_3) (f64_1.ext x16_3) (f64_2.ext x16_3) (f64_3.ext x16_3) (f64_4.ext x16_3))) ?_)))))
        rintro v67 w67 ⟨x67,rfl⟩
        refine bI Ll Ll bK (ag (ab ?_))
        refine fS Ll (fun h68=>?_) (fun h68=>?_)
        ·have hno:fv (ts[i]'(by omega))=false:=by rw[←he64];simpa using h68
         refine af (aa ?_)
         refine bm (vs:=[]) (r:=.agg (gk im en).toArray) Ll Ll du ?_
         obtain⟨w18_1,s18_1,q18_1,k18_1⟩:=fw (d:=im) (v:=en) ((k2.ext e253).ext (((e5L.trans x16_3).trans x67))) rfl rfl rfl
         refine aq Ll Ll s18_1 ?_
         have x18_1:=aI.of_new (((eL.trans x16_3).trans x67)) q18_1 l2
         refine ac Ll Ll (ag (ab (av (aV (au (au (aV (au ?_))))))))
         refine bJ Ll Ll Ll k18_1 K2 Ll (eB Ll) ?_
         exact⟨_,rfl,x18_1,gd.err (by rw[hD,if_neg (by rw[qY (by omega) hall hno];simp)])⟩
        ·have hyes:fv (ts[i]'(by omega))=true:=by rw[←he64];simpa using h68
         refine ar (aJ (ab (aa (ai (r:=I ((i+1:Nat):Int)) Ll Ll Ll (by have e:((i+1:Nat):Int)=(i:Int)+1:=(by omega);rw[e];exact aK (by omega) (by omega)) ?_))))
         refine ae Ll Ll (ag ?_)
         refine bQ (i+1) ⟨rfl,rfl,rfl,rfl,rfl,rfl,rfl,trivial⟩ ⟨((eL.trans x16_3).trans x67),((e5L.trans x16_3).trans x67),by omega,uF (by omega) hall hyes⟩ (by omega)
       ·refine aY (aB (aB (aX (ab (af ?_)))))
        have hav:=pY (by omega) hall
        obtain⟨v73,p73,b73⟩:=ri (hv.ext eL) (lo:=4) (hi:=36) (by omega) (by omega) .i64 .i64
        have l73:((l.take 36).drop 4).length=32:=by rw[List.length_drop,List.length_take];omega
        obtain⟨ad4,p74,c74⟩:=I0 b73 l73
        have hts2:=hts.ext e5L
        obtain⟨At,nt,ct,evt⟩:=hts2.isS
        refine aa (ae Ll Ll (ae Ll Ll (cw Ll Ll Ll Ll Ll (p73 _) (uZ Ll Ll (p74 _) (am Ll Ll (Dg c74 l73) (ae Ll Ll ?_))))))
        refine bm (vs:=[(0,.agg (((l.take 36).drop 4).map U8).toArray),(1,vt)]) (r:=.agg (gk ((l.take 36).drop 4) vt).toArray) Ll Ll (EY l73 ⟨At,nt,ct,evt⟩) ?_
        obtain⟨w20_7,s20_7,q20_7,k20_7⟩:=fw (d:=(l.take 36).drop 4) (v:=vt) ((k2.ext e253).ext (e5L)) rfl l73 hts2.one
        refine aq Ll Ll s20_7 ?_
        have x20_7:=aI.of_new (eL) q20_7 l2
        have m20:Mv (fun k=>k=g2) wL w20_7:=Mv.of_grown q20_7 fun k hk _=>(Option.some.inj hk).symm
        have r20:=rts.ext (e5L)
        refine ac Ll Ll (ag (ab (av ?_)))
        refine bJ Ll Ll Ll k20_7 K2 Ll (eB l73) ?_
        exact⟨_,rfl,x20_7,gd.ok (by rw[hD,if_pos hav]) (r20.mv (m20.weak (fun k hk hlt=>by have:k=g2:=hk;have:=k2.lt;have:=e2u.size;show k<w44.heap.size;omega)) fun k hk=>.inl (Nat.lt_of_lt_of_le hk (by have:=x2.size;have:=e2u.size;omega)))⟩
end Go.Rl
namespace Go.Rl
open Go.RowKit Go.Proofs
theorem yv:ay Tryz.prog 20:=⟨_,Tryz.func20,by kernel_rfl,rfl⟩
theorem Hl {a z:List UInt8} {j:Nat} (h:a.length=32) (hz:z.length=32) (hj:j<32) {b:UInt8} (hb:b=a[j]'(by omega)):(a.take j++z.drop j).set j b=a.take (j+1)++z.drop (j+1):=by
 have e:(a.take j).length=j:=by rw[List.length_take];omega
 rw[List.take_succ_eq_append_getElem (by omega),List.append_assoc,List.set_append_right _ _ (by omega),e,Nat.sub_self,List.drop_eq_getElem_cons (i:=j) (l:=z) (by omega),List.set_cons_zero,hb]
 rfl
theorem In {a z:List UInt8} {j:Nat} (h:a.length=32) (hz:z.length=32) (hj:j≤32):(a.take j++z.drop j).length=32:=by
 rw[List.length_append,List.length_take,List.length_drop];omega
theorem yw {w:World} {l:List UInt8} {v:Value} (hv:cm l v w):
 Calls Tryz.prog 20 #[v] w (bE fun r w'=>aI w w'∧gd w.heap.size l r w'):=by
 refine enter (vs:=[v]) Tryz.func20 Ll Ll Ll ?_
 have hll:=hv.len
 refine af (aa ?_)
 obtain⟨g2,w2,hr2,l2,x2,k2⟩:=be (P:=Tryz.prog) (w:=w) (t:=25) (z:=.agg (gk im en).toArray) (l:=gk im en) qX rfl
 refine bf Ll hr2 ?_
 refine ac Ll Ll (ag (ab (af (af (aa (ae Ll Ll (aQ Ll Ll (bC (hv.ext x2)) (ai Ll Ll Ll (ck) (ag (ab ?_))))))))))
 refine bi Ll (fun h15=>?_) (fun h15=>?_)
 ·have h1:1048576<l.length:=by omega
  refine af (aa ?_)
  refine bm (vs:=[]) (r:=.agg (gk im en).toArray) Ll Ll du ?_
  obtain⟨w2_1,s2_1,q2_1,k2_1⟩:=fw (d:=im) (v:=en) (k2.ext (aI.refl _)) rfl rfl rfl
  refine aq Ll Ll s2_1 ?_
  have x2_1:=aI.of_new (x2) q2_1 l2
  refine ac Ll Ll (ag (ab (av (au ?_))))
  refine bJ Ll Ll Ll k2_1 K2 Ll (eB Ll) ?_
  exact⟨_,rfl,x2_1,gd.err (wx h1)⟩
 ·have h1:¬1048576<l.length:=by omega
  refine ar (ab (af (af ?_)))
  rcases Nat.lt_or_ge l.length 68 with h68|h68
  ·refine aa (ae Ll Ll (aQ Ll Ll (bC (hv.ext x2)) (ai Ll Ll Ll (cg (by omega) aW) (ae Ll Ll (ao Ll Ll Ll (ao Ll Ll Ll (ao Ll Ll Ll ?_)))))))
   refine ao Ll Ll Ll (aw Ll Ll Ll (ag (ab (bB Ll (af (aa ?_))))))
   refine bm (vs:=[]) (r:=.agg (gk im en).toArray) Ll Ll du ?_
   obtain⟨w4_1,s4_1,q4_1,k4_1⟩:=fw (d:=im) (v:=en) (k2.ext (aI.refl _)) rfl rfl rfl
   refine aq Ll Ll s4_1 ?_
   have x4_1:=aI.of_new (x2) q4_1 l2
   refine ac Ll Ll (ag (ab (av (au ?_))))
   refine bJ Ll Ll Ll k4_1 K2 Ll (eB Ll) ?_
   exact⟨_,rfl,x4_1,gd.err (nL h1 (by first|exact .inl h68|exact .inr h2))⟩
  ·refine aa (ae Ll Ll (aQ Ll Ll (bC (hv.ext x2)) (ai Ll Ll Ll (cf (by omega) aW) (ae Ll Ll (al Ll (ae Ll Ll (al Ll ?_)))))))
   obtain⟨v22,p22,b22⟩:=ie (hv.ext x2) (hi:=4) (by omega) .i64
   refine cw Ll Ll Ll Ll Ll (p22 _) (al Ll (aR Ll Ll (nT b22) (al Ll (ai (v:=S [82,76,85,67]) Ll Ll Ll (sg) (aC Ll Ll Ll ?_)))))
   refine ag (ab ?_)
   refine bi Ll (fun h25=>?_) (fun h25=>?_)
   ·have h2:l.take 4≠gb:=h25
    refine af (aa ?_)
    refine bm (vs:=[]) (r:=.agg (gk im en).toArray) Ll Ll du ?_
    obtain⟨w4_1,s4_1,q4_1,k4_1⟩:=fw (d:=im) (v:=en) (k2.ext (aI.refl _)) rfl rfl rfl
    refine aq Ll Ll s4_1 ?_
    have x4_1:=aI.of_new (x2) q4_1 l2
    refine ac Ll Ll (ag (ab (av (au ?_))))
    refine bJ Ll Ll Ll k4_1 K2 Ll (eB Ll) ?_
    exact⟨_,rfl,x4_1,gd.err (nL h1 (by first|exact .inl h68|exact .inr h2))⟩
   ·have h2:¬(l.length<68∨l.take 4≠gb):=fun hh=>hh.elim (fun hh=>by omega) h25
    refine ar (ab (af (aa (ae Ll Ll (aQ Ll Ll (bC (hv.ext x2)) (ai (r:=I ((l.length-32:Nat):Int)) Ll Ll Ll (by have e:((l.length-32:Nat):Int)=(l.length:Int)-32:=(by omega);rw[e];exact bg (by omega) (by omega)) ?_))))))
    refine ac Ll Ll (ag (ab (af (aa (ae Ll Ll (ae Ll Ll ?_))))))
    obtain⟨v32,p32,b32⟩:=ie (hv.ext x2) (hi:=l.length-32) (by omega) .i64
    refine cw Ll Ll Ll Ll Ll (p32 _) (an wo Ll Ll ((wq b32 (by rw[List.length_take];omega))) ?_)
    rintro v33 w33 ⟨x33,rfl⟩
    obtain⟨g5,w5,hr5,l5,x5,k5⟩:=be (P:=Tryz.prog) (w:=w33) (t:=22) (l:=(List.replicate 32 0).map U8) m0 rfl
    refine bf Ll hr5 ?_
    obtain⟨w6,s6,q6,k6⟩:=k5.stS (P:=Tryz.prog) (t:=22) (m:=(je (l.take (l.length-32))).map U8) (by simp[dF]) (by rw[List.length_map,dF];exact j5) (kY _)
    refine aq Ll Ll s6 ?_
    have x6:=x5.of_new q6 l5
    have bs:cm (je (l.take (l.length-32))) (.slice (some ⟨g5,0,none⟩) 32 32) w6:=by
     have:=k6.bts (by rw[dF];omega)
     rwa [dF] at this
    refine ag (ab (af (af (bz 6 [0,2,4,35,39] (by kernel_rfl) (by kernel_rfl) ?_))))
    obtain⟨v38,p38,b38⟩:=fp (hv.ext ((x2.trans x33).trans x6)) (lo:=l.length-32) (by omega) .i64
    refine ia (a:=none) (b:=none) Ll Ll Ll Ll (fun w _=>uC) ?_
    refine dm Ll Ll (fun w hw=>nT (bs.ext hw)) (ap Ll Ll (ap Ll Ll ?_))
    refine ia (a:=some (I ((l.length-32:Nat):Int))) (b:=none) Ll Ll Ll Ll (fun w _=>p38 w) ?_
    refine dm Ll Ll (fun w hw=>nT (b38.ext hw)) (bF ?_)
    intro wg7 xg7
    rintro _ hq0
    obtain rfl:=Eq.symm hq0
    rintro _ rfl
    rintro _ rfl
    rintro _ rfl
    rintro _ rfl
    refine ai Ll Ll Ll (sg) (ag (ab ?_))
    refine bi Ll (fun h40=>?_) (fun h40=>?_)
    ·have h3:je (l.take (l.length-32))≠l.drop (l.length-32):=h40
     refine af (aa ?_)
     refine bm (vs:=[]) (r:=.agg (gk im en).toArray) Ll Ll du ?_
     obtain⟨w8_1,s8_1,q8_1,k8_1⟩:=fw (d:=im) (v:=en) (k2.ext (((x33.trans x6).trans xg7))) rfl rfl rfl
     refine aq Ll Ll s8_1 ?_
     have x8_1:=aI.of_new ((((x2.trans x33).trans x6).trans xg7)) q8_1 l2
     refine ac Ll Ll (ag (ab (av (au ?_))))
     refine bJ Ll Ll Ll k8_1 K2 Ll (eB Ll) ?_
     exact⟨_,rfl,x8_1,gd.err (Ah h1 h2 h3)⟩
    ·have h3:¬je (l.take (l.length-32))≠l.drop (l.length-32):=h40
     refine ar (ab (af (aa (ae Ll Ll (ae Ll Ll ?_)))))
     obtain⟨v45,p45,b45⟩:=ri (hv.ext (((x2.trans x33).trans x6).trans xg7)) (lo:=36) (hi:=l.length-32) (by omega) (by omega) .i64 .i64
     refine cw Ll Ll Ll Ll Ll (p45 _) (an EC Ll Ll ((E0 (by omega) b45)) ?_)
     rintro v46 w46 ⟨x46,vu,rfl,bU⟩
     refine ae Ll Ll (ak Ll Ll (aT) (ak Ll Ll (aU) (ac Ll Ll (ac Ll Ll (ag (ab (af (af (aa (ae Ll Ll (ai Ll Ll Ll (bL) ?_)))))))))))
     refine ag (ab ?_)
     refine bi Ll (fun h50=>?_) (fun h50=>?_)
     ·have h4:(pW l).2≠0:=h50
      refine af (aa ?_)
      refine bm (vs:=[]) (r:=.agg (gk im en).toArray) Ll Ll du ?_
      refine ae Ll Ll ?_
      obtain⟨w11_2,s11_2,q11_2,k11_2⟩:=fw (d:=im) (v:=en) (k2.ext ((((x33.trans x6).trans xg7).trans x46))) rfl rfl rfl
      refine aq Ll Ll s11_2 ?_
      have x11_2:=aI.of_new (((((x2.trans x33).trans x6).trans xg7).trans x46)) q11_2 l2
      refine ac Ll Ll (ag (ab (av (au ?_))))
      refine bJ Ll Ll Ll k11_2 K2 Ll (eB Ll) ?_
      exact⟨_,rfl,x11_2,gd.err (Aj h1 h2 h3 rfl h4)⟩
     ·have h4:(pW l).2=0:=Classical.byContradiction h50
      have hul:=Df (l:=l)
      have e2u:=(((x33.trans x6).trans xg7).trans x46)
      refine ar (ab (af (aa (ae Ll Ll (an zz Ll Ll ((Hk (b:=(pW l).1) bU (by omega))) ?_)))))
      rintro v55 w55 ⟨x55,vt,ok5,rfl,h1v,hT⟩
      refine ae Ll Ll (ak Ll Ll (aT) (ak Ll Ll (aU) (ac Ll Ll (ac Ll Ll (ag (ab (af (af (aa (ae Ll Ll (bI Ll Ll bK ?_)))))))))))
      refine ag (ab ?_)
      refine fS Ll (fun h59=>?_) (fun h59=>?_)
      ·have he5:ok5=false∧uy (pW l).1=none:=hT.resolve_left (fun h=>by rw[h.1] at h59;cases h59)
       refine af (aa ?_)
       refine bm (vs:=[]) (r:=.agg (gk im en).toArray) Ll Ll du ?_
       obtain⟨w14_1,s14_1,q14_1,k14_1⟩:=fw (d:=im) (v:=en) (k2.ext (((((x33.trans x6).trans xg7).trans x46).trans x55))) rfl rfl rfl
       refine aq Ll Ll s14_1 ?_
       have x14_1:=aI.of_new ((((((x2.trans x33).trans x6).trans xg7).trans x46).trans x55)) q14_1 l2
       refine ac Ll Ll (ag (ab (av (au ?_))))
       refine bJ Ll Ll Ll k14_1 K2 Ll (eB Ll) ?_
       exact⟨_,rfl,x14_1,gd.err (Dd h1 h2 h3 h4 he5.2)⟩
      ·have he5:ok5=true:=by simpa using h59
       obtain⟨ts,hts0,rts⟩:∃ts:List aP,uy (pW l).1=some ts∧cK (fun k=>k<w46.heap.size) w55 (.sl (ts.map bM)) [vt]:=hT.elim (fun h=>h.2) (fun h=>by have:=h.1;rw[he5] at this;cases this)
       have hD:=De h1 h2 h3 h4 hts0
       have hts:df bM ts vt w55:=rts.rp
       have htl:=hts.len
       have e55:=(((((x2.trans x33).trans x6).trans xg7).trans x46).trans x55)
       have e255:=((((x33.trans x6).trans xg7).trans x46).trans x55)
       refine ar (ab (af (af (aa (ac Ll Ll (ag (ab (ax ?_))))))))
       refine bZ (α:=Nat) (fun i=>[(0,v),(2,.pointer (some ⟨g2,0,none⟩)),(4,I ((l.length-32:Nat):Int)),(8,vt),(10,I (i:Int))]) (fun i w'=>aI w w'∧aI w55 w'∧i≤ts.length∧ts.all fv=(ts.drop i).all fv) (fun i=>ts.length-i) (0) ⟨rfl,rfl,rfl,rfl,rfl,trivial⟩ ⟨(((((x2.trans x33).trans x6).trans xg7).trans x46).trans x55),aI.refl _,by omega,rfl⟩ ?_
       rintro i wL ⟨eL,e5L,hi,hall⟩
       refine af (af (aa (ae Ll Ll (ae Ll Ll (aQ Ll Ll (bR KR (hts.ext e5L)) (ai Ll Ll Ll (aW) (ag (ab ?_))))))))
       refine bi Ll (fun h64=>?_) (fun h64=>?_)
       ·refine ar (ab (af (ax (af (aa (ae Ll Ll (ae Ll Ll ?_)))))))
        obtain⟨a69,c69,p69,q69,h69⟩:=dN (P:=Tryz.prog) (sz:=9) KR (by kernel_rfl) bD (by omega) (hts.ext e5L) (i:=i) (by omega) .i64
        obtain⟨e69,he69⟩:∃e,e=ts[i]'(by omega):=⟨_,rfl⟩
        rw[←he69] at h69
        obtain⟨x69_0,x69_1,x69_2,x69_3,x69_4,rfl,f69_0,f69_1,f69_2,f69_3,f69_4⟩:=dY h69
        refine aA Ll Ll Ll (p69 _) (am Ll Ll (q69.ld KM Ll (by kernel_rfl)) (an zM Ll Ll ((zN (n:=e69) f69_0 f69_1 f69_2 f69_3 f69_4)) ?_))
        rintro v71 w71 ⟨x71,rfl⟩
        refine bI Ll Ll bK (ag (ab ?_))
        refine fS Ll (fun h72=>?_) (fun h72=>?_)
        ·have hno:fv (ts[i]'(by omega))=false:=by rw[←he69];simpa using h72
         refine af (aa ?_)
         refine bm (vs:=[]) (r:=.agg (gk im en).toArray) Ll Ll du ?_
         obtain⟨w19_1,s19_1,q19_1,k19_1⟩:=fw (d:=im) (v:=en) ((k2.ext e255).ext ((e5L.trans x71))) rfl rfl rfl
         refine aq Ll Ll s19_1 ?_
         have x19_1:=aI.of_new ((eL.trans x71)) q19_1 l2
         refine ac Ll Ll (ag (ab (av (aV (au (au (aV (au ?_))))))))
         refine bJ Ll Ll Ll k19_1 K2 Ll (eB Ll) ?_
         exact⟨_,rfl,x19_1,gd.err (by rw[hD,if_neg (by rw[qY (by omega) hall hno];simp)])⟩
        ·have hyes:fv (ts[i]'(by omega))=true:=by rw[←he69];simpa using h72
         refine ar (aJ (ab (aa (ae Ll Ll (ai (r:=I ((i+1:Nat):Int)) Ll Ll Ll (by have e:((i+1:Nat):Int)=(i:Int)+1:=(by omega);rw[e];exact aK (by omega) (by omega)) ?_)))))
         refine ac Ll Ll (ag ?_)
         refine bQ (i+1) ⟨rfl,rfl,rfl,rfl,rfl,trivial⟩ ⟨(eL.trans x71),(e5L.trans x71),by omega,uF (by omega) hall hyes⟩ (by omega)
       ·refine aY (aB (aB (aX (ab (af ?_)))))
        have hav:=pY (by omega) hall
        have l73:((l.take 36).drop 4).length=32:=by rw[List.length_drop,List.length_take];omega
        have hts2:=hts.ext e5L
        obtain⟨At,nt,ct,evt⟩:=hts2.isS
        have k2L:=(k2.ext e255).ext e5L
        refine aa (ae Ll Ll ?_)
        refine bm (vs:=[(1,vt)]) (r:=.agg (gk im vt).toArray) Ll Ll (BW ⟨At,nt,ct,evt⟩) ?_
        obtain⟨g11,w11,hr11,l11,x11,k11⟩:=be (P:=Tryz.prog) (w:=wL) (t:=25) (z:=.agg (gk im en).toArray) (l:=gk im en) qX rfl
        refine bf Ll hr11 ?_
        obtain⟨wA,sA,qA,kA⟩:=fw (d:=im) (v:=vt) k11 rfl rfl hts2.one
        refine aq Ll Ll sA ?_
        have xA:=aI.of_new x11 qA l11
        have eA:=eL.trans xA
        have e2A:=e5L.trans xA
        have sL:=eL.size
        have g2lt:=k2L.lt
        refine ag (ab (af (af (aa (ac Ll Ll (ag (ab (ax ?_))))))))
        refine bZ (α:=Nat) (fun j=>[(0,v),(2,.pointer (some ⟨g2,0,none⟩)),(11,.pointer (some ⟨g11,0,none⟩)),(12,I (j:Int))]) (fun j w'=>Mv (fun k=>k=g11) wA w'∧cd g11 25 (gk (((l.take 36).drop 4).take j++im.drop j) vt) w'∧j≤32) (fun j=>32-j) (0) ⟨rfl,rfl,rfl,rfl,trivial⟩ ⟨Mv.refl _ _,kA,by omega⟩ ?_
        rintro j wM ⟨mM,kM,hj⟩
        refine af (af (aa (ae Ll Ll (ai Ll Ll Ll (aW) (ag (ab ?_))))))
        refine bi Ll (fun h77=>?_) (fun h77=>?_)
        ·have eM:aI w wM:=Mv.ext_from mM eA fun k hk=>by have:k=g11:=hk;omega
         refine ar (ab (af (ax (aa (ae Ll Ll (ae Ll Ll (ae Ll Ll (ai (r:=I ((4+j:Nat):Int)) Ll Ll Ll (by have e:((4+j:Nat):Int)=4+(j:Int):=(by omega);rw[e];exact aK (by omega) (by omega)) ?_))))))))
         obtain⟨a84,p84,q84⟩:=eD (hv.ext eM) (i:=4+j) (by omega) .i64
         refine aA Ll Ll Ll (p84 _) (am Ll Ll (aj KS Ll q84) ?_)
         refine ah Ll Ll uD ?_
         refine aA Ll Ll Ll (qV j (by omega)) ?_
         obtain⟨wN,sN,qN,kN⟩:=Im kM (In l73 yt (by omega)) (i:=j) (by omega) (b:=l[4+j]'(by omega))
         refine aq Ll Ll sN ?_
         have mN:=mM.trans (Mv.of_grown qN fun k hk _=>(Option.some.inj hk).symm) fun _ hk _=>hk
         rw[Hl l73 yt (by omega) (by simp[List.getElem_drop,List.getElem_take])] at kN
         refine ag (aJ (ab (aa (ae Ll Ll (ai (r:=I ((j+1:Nat):Int)) Ll Ll Ll (by have e:((j+1:Nat):Int)=(j:Int)+1:=(by omega);rw[e];exact aK (by omega) (by omega)) ?_)))))
         refine ac Ll Ll (ag ?_)
         refine bQ (j+1) ⟨rfl,rfl,rfl,rfl,trivial⟩ ⟨mN,kN,by omega⟩ (by omega)
        ·refine aY (aB (aB (aX (ab (af ?_)))))
         have hj32:j=32:=by omega
         subst hj32
         have e32:((l.take 36).drop 4).take 32++im.drop 32=(l.take 36).drop 4:=by rw[List.take_of_length_le (Nat.le_of_eq l73),show im.drop 32=[] from rfl,List.append_nil]
         rw[e32] at kM
         have eM:aI w wM:=Mv.ext_from mM eA fun k hk=>by have:k=g11:=hk;omega
         have k2M:=mM.blk (k2L.ext xA) (fun h=>by have:g2=g11:=h;omega)
         refine aa ?_
         refine am Ll Ll (yu kM l73) ?_
         obtain⟨wF,sF,qF,kF⟩:=fw (d:=(l.take 36).drop 4) (v:=vt) k2M rfl l73 hts2.one
         refine aq Ll Ll sF ?_
         have xF:=aI.of_new eM qF l2
         have rL:=rts.ext e5L
         have mF:Mv (fun k=>k=g11∨k=g2) wA wF:=(mM.weak fun k hk _=>.inl hk).trans (Mv.of_grown qF fun k hk _=>.inr (Option.some.inj hk).symm) fun _ hk _=>hk
         have mG:Mv (fun k=>k=g2) wL wF:=(Mv.of_ext xA).trans mF fun k hk hlt=>by
          rcases hk with rfl|rfl
          ·exact absurd hlt (by omega)
          ·rfl
         refine ac Ll Ll (ag (ab (av ?_)))
         refine bJ Ll Ll Ll kF K2 Ll (eB l73) ?_
         exact⟨_,rfl,xF,gd.ok (by rw[hD,if_pos hav]) (rL.mv (mG.weak (fun k hk hlt=>by have:k=g2:=hk;have:=k2.lt;have:=e2u.size;show k<w46.heap.size;omega)) fun k hk=>.inl (Nat.lt_of_lt_of_le hk (by have:=x2.size;have:=e2u.size;omega)))⟩
end Go.Rl
namespace Go.Rl
open Go.RowKit Go.Proofs
theorem lT:ay Tryz.prog 46:=⟨_,Tryz.func46,by kernel_rfl,rfl⟩
theorem m4:ay Tryz.prog 67:=⟨_,Tryz.func67,by kernel_rfl,rfl⟩
theorem lU:ay Tryz.prog 70:=⟨_,Tryz.func70,by kernel_rfl,rfl⟩
theorem BY:ay Tryz.prog 101:=⟨_,Tryz.func101,by kernel_rfl,rfl⟩
theorem jm:ay Tryz.prog 100:=⟨_,Tryz.func100,by kernel_rfl,rfl⟩
theorem nf:ay Tryz.prog 99:=⟨_,Tryz.func99,by kernel_rfl,rfl⟩
theorem nh:ay Tryz.prog 47:=⟨_,Tryz.func47,by kernel_rfl,rfl⟩
theorem BZ:ay Tryz.prog 43:=⟨_,Tryz.func43,by kernel_rfl,rfl⟩
theorem i8:(Tryz.prog.info? 28).map (·.size)=some 1:=by kernel_rfl
theorem il {w:World} {g:Nat}:(Instr.fieldAt 95 (.pointer (some ⟨g,0,none⟩)) 0).run Tryz.prog w=.ok (.pointer (some ⟨g,0,none⟩)) w:=aF (o:=0) Tryz.underlying95 rfl (by kernel_rfl) rfl
def Ip (T:TypeId) (base g:Nat) (l:List UInt8) (v:Value) (w:World) (w':World):Prop:=∃v',fH T base g l v' w'∧cY g v w v' w'
theorem KB {a:Int} (ha:nE a):∀n∈[a],nE n:=fun n hn=>by
 simp only[List.mem_cons,List.not_mem_nil,or_false] at hn
 subst hn;exact ha
theorem KC {a b:Int} (ha:nE a) (hb:nE b):∀n∈[a,b],nE n:=fun n hn=>by
 simp only[List.mem_cons,List.not_mem_nil,or_false] at hn
 rcases hn with rfl|rfl<;>assumption
theorem KD {a b c d:Int} (ha:nE a) (hb:nE b) (hc:nE c) (hd:nE d):∀n∈[a,b,c,d],nE n:=fun n hn=>by
 simp only[List.mem_cons,List.not_mem_nil,or_false] at hn
 rcases hn with rfl|rfl|rfl|rfl<;>assumption
theorem uG {α:Type} {f:α→List UInt8} (l:List α) (k:Nat):((l.take k).flatMap f).length≤(l.flatMap f).length:=by
 have h:(l.flatMap f)=(l.take k).flatMap f++(l.drop k).flatMap f:=by rw[←List.flatMap_append,List.take_append_drop]
 rw[h,List.length_append]
 omega
theorem jV {α:Type} {f:α→List UInt8} {l:List α} {i:Nat} (hi:i<l.length):((l.take i).flatMap f).length+(f l[i]).length≤(l.flatMap f).length:=by
 have h:=uG (f:=f) l (i+1)
 rw[eg hi,List.length_append] at h
 exact h
theorem lV {T:TypeId} {w:World} {b g:Nat} {l:List UInt8} {n:Nat} {v:Value} (hW:fH T b g l v w) (h0:b≤w.heap.size) (hl:l.length≤35184372088832) (hn:n≤9223372036854775807):
 Calls Tryz.prog 46 #[.pointer (some ⟨g,0,none⟩),I (n:Int)] w (bE fun _ w'=>Ip T b g (l++uv n) v w w'):=by
 refine enter (vs:=[.pointer (some ⟨g,0,none⟩),I (n:Int)]) Tryz.func46 Ll Ll Ll ?_
 have kg:=hW.blk
 have hun:(UInt64.ofNat n).toNat=n:=by rw[UInt64.toNat_ofNat'];omega
 refine yq 8 [8,9,10,11] [4,8,11] (by kernel_rfl) (by kernel_rfl) Ll Ll Ll ?_
 refine ap Ll Ll (cc Ll Ll ?_)
 refine aN Ll Ll (fun w _=>il) ?_
 refine aE Ll Ll (fun w hw=>aj KQ Ll (hw.cell_some kg.k0)) (ap Ll Ll (dm Ll Ll (fun w hw=>cN KO KN) ?_))
 refine ce (S:=cm (uv n)) ja (cm.stable _) rfl (fun w hw=>by rintro _ rfl _ rfl;exact bE.mono (jb (n:=UInt64.ofNat n) (cm.nil _) (by simp)) fun v w' h=>⟨h.1,by have:=h.2.bts;rwa [hun,List.nil_append] at this⟩) ?_
 refine bF ?_
 intro wg0 xg0
 rintro _ rfl
 rintro _ hq8
 obtain rfl:=Eq.symm hq8
 intro vg11 b11
 have hun2:=xq n
 have hun3:=ft (n:=n) (by omega)
 obtain⟨v12,wa,wb,hr12,hs12,hW',st12⟩:=fH.put (t:=28) (t2:=28) (ty:=28) KQ i8 KQ (hW.ext xg0) (Nat.le_trans h0 xg0.size) b11 (by omega) (by omega)
 refine bc Ll Ll hr12 ?_
 refine aH Ll Ll ?_
 refine ah Ll Ll il ?_
 refine aq Ll Ll (hs12) (ag (xJ (gq Ll ?_)))
 exact⟨_,rfl,v12,hW',(cY.of_ext xg0).trans st12⟩
theorem ni {T:TypeId} {w:World} {b g:Nat} {l:List UInt8} {ns:List Int} {nv v:Value} (hW:fH T b g l v w) (h0:b≤w.heap.size) (hv:cK (WrX g v) w (IR ns) [nv]) (hi64:∀n∈ns,nE n) (hl:l.length+10*ns.length≤35184372088832):
 Calls Tryz.prog 67 #[.pointer (some ⟨g,0,none⟩),nv] w (bE fun _ w'=>Ip T b g (l++ns.flatMap gA) v w w'):=by
 refine enter (vs:=[.pointer (some ⟨g,0,none⟩),nv]) Tryz.func67 Ll Ll Ll ?_
 have hd:df sq ns nv w:=hv.rp
 have hll:=hd.len
 refine af (aa (ae Ll Ll (aQ Ll Ll (bR Ld hd) (ae Ll Ll (ag (ab (ax ?_)))))))
 refine f4 (fun(i:Nat) (u:Value)=>[(0,.pointer (some ⟨g,0,none⟩)),(6,nv),(7,I (ns.length:Int)),(8,I (i:Int))]) (fun(i:Nat) (u:Value) w'=>fH T b g (l++(ns.take i).flatMap gA) u w'∧cY g v w u w'∧i≤ns.length∧((ns.take i).flatMap gA).length≤10*i) (fun(i:Nat) (u:Value)=>ns.length-i) (0) (v) ⟨rfl,rfl,rfl,rfl,trivial⟩ ⟨by simpa using hW,cY.refl,by omega,by simp⟩ ?_
 rintro i u wL ⟨hW1,st1,hi,hle⟩
 refine af (aa (ai Ll Ll Ll (aW) (ag (ab (af ?_)))))
 refine bi Ll (fun h9=>?_) (fun h9=>?_)
 ·have hd1:df sq ns nv wL:=(hv.step st1).rp
  refine ar (ab (af (ax (af (aa ?_)))))
  obtain⟨a10,c10,p10,q10,h10⟩:=dN (P:=Tryz.prog) (sz:=1) Ld (by kernel_rfl) zp (by omega) hd1 (i:=i) (by omega) .i64
  obtain⟨e10,he10⟩:∃e,e=ns[i]'(by omega):=⟨_,rfl⟩
  rw[←he10] at h10
  obtain rfl:=HZ h10
  refine aA Ll Ll Ll (p10 _) ?_
  have hn:=hi64 e10 (by rw[he10];exact List.getElem_mem _)
  have hen:=Hh hn
  refine am Ll Ll (aj KO Ll q10.cell0) (ac Ll Ll (ag (ab ?_)))
  have kg:=hW1.blk
  refine yq 7 [7,8,9,10] [0,6,7,8,12,16,18] (by kernel_rfl) (by kernel_rfl) Ll Ll Ll ?_
  refine ap Ll Ll (cc Ll Ll ?_)
  refine aN Ll Ll (fun w _=>il) ?_
  refine aE rfl rfl (fun w hw=>aj Tryz.underlying28 rfl (hw.cell_some kg.k0)) (ap rfl rfl (ce (S:=cm (gA e10)) tq (cm.stable _) rfl (fun w hw=>by rintro _ rfl _ rfl;exact bE.mono (tt (n:=e10) (cm.nil _) (by simp) hn.1 hn.2) fun v w' h=>⟨h.1,by have:=h.2.bts;rwa [List.nil_append] at this⟩) ?_))
  refine bF ?_
  intro wg3 xg3
  rintro _ rfl
  rintro _ hq6
  obtain rfl:=Eq.symm hq6
  rintro _ rfl
  rintro _ rfl
  rintro _ rfl
  rintro _ hq16
  obtain rfl:=Eq.symm hq16
  intro vg18 b18
  obtain⟨v19,wa,wb,hr19,hs19,hW2,st19⟩:=fH.put (t:=28) (t2:=28) (ty:=28) Tryz.underlying28 i8 Tryz.underlying28 (hW1.ext xg3) (Nat.le_trans h0 (Nat.le_trans st1.mv.size xg3.size)) b18 (by omega) (by simp only[List.length_append];omega)
  refine bc Ll Ll hr19 ?_
  refine aH Ll Ll ?_
  refine ah Ll Ll il ?_
  refine aq Ll Ll (hs19) (ag (xJ (aJ (ab (aa (ai (r:=I ((i+1:Nat):Int)) Ll Ll Ll (by have e:((i+1:Nat):Int)=(i:Int)+1:=(by omega);rw[e];exact aK (by omega) (by omega)) ?_))))))
  refine ae Ll Ll (ag ?_)
  refine d9 (i+1) (v19) ⟨rfl,rfl,rfl,rfl,trivial⟩ ⟨by rw[eg (by omega),←he10,←List.append_assoc];exact hW2,(st1.trans (cY.of_ext xg3)).trans st19,by omega,by rw[eg (by omega),←he10,List.length_append];omega⟩ (by omega)
 ·refine aY (aB (aB (aX (gq Ll ?_))))
  exact⟨_,rfl,u,by rw[List.take_of_length_le (by omega)] at hW1;exact hW1,st1⟩
theorem lW {T:TypeId} {wz w:World} {g:Nat} {l:List UInt8} {q:fQ} {x y v:Value} (ez:aI wz w) (hW:fH T wz.heap.size g l v w) (hx:bo q.2.1 x wz) (hy:bo q.2.2 y wz) (hl:l.length+(mR q).length≤4398046511104):
 Calls Tryz.prog 70 #[.pointer (some ⟨g,0,none⟩),.agg #[B q.1,x,y]] w (bE fun _ w'=>Ip T wz.heap.size g (l++mR q) v w w'):=by
 refine enter (vs:=[.pointer (some ⟨g,0,none⟩),.agg #[B q.1,x,y]]) Tryz.func70 Ll Ll Ll ?_
 have hqa:=zR q
 have hq1:1≤(mR q).length:=by simp only[mR,tz,List.length_append,List.length_cons,List.length_nil];omega
 refine af (aa ?_)
 obtain⟨g3,w3,hr3,l3,x3,k3⟩:=dc (P:=Tryz.prog) (w:=w) (T:=55) (cs:=[B q.1,x,y])
 refine cL Ll Ll hr3 (ag (ab ?_))
 have hW3:=hW.ext x3
 have kg:=hW3.blk
 refine yq 7 [7,8,9,10] [4,8,10] (by kernel_rfl) (by kernel_rfl) Ll Ll Ll ?_
 refine ap Ll Ll (cc Ll Ll ?_)
 refine aN Ll Ll (fun w _=>il) ?_
 refine aE Ll Ll (fun w hw=>aj KQ Ll (hw.cell_some kg.k0)) (aE Ll Ll (fun w hw=>(k3.ext hw).ld KP Ll (by kernel_rfl)) ?_)
 refine ce (S:=cm (mR q)) tx (cm.stable _) rfl (fun w hw=>by rintro _ rfl _ rfl;exact bE.mono (tA (cm.nil _) (di.mk ((hx.ext (ez.trans x3)).ext hw) ((hy.ext (ez.trans x3)).ext hw)) (by simp only[List.length_nil];omega)) fun v w' h=>⟨h.1,by have:=h.2.bts;rwa [List.nil_append] at this⟩) ?_
 refine bF ?_
 intro wg1 xg1
 rintro _ rfl
 rintro _ hq8
 obtain rfl:=Eq.symm hq8
 intro vg10 b10
 obtain⟨v11,wa,wb,hr11,hs11,hW2,st11⟩:=fH.put (t:=28) (t2:=28) (ty:=28) KQ i8 KQ (hW3.ext xg1) (((ez.trans x3).trans xg1)).size b10 (by omega) (by omega)
 refine bc Ll Ll hr11 ?_
 refine aH Ll Ll ?_
 refine ah Ll Ll il ?_
 refine aq Ll Ll (hs11) (ag (xJ (gq Ll ?_)))
 exact⟨_,rfl,v11,hW2,(cY.of_ext (x3.trans xg1)).trans st11⟩
theorem B0 {T:TypeId} {wz w:World} {g:Nat} {l:List UInt8} {d:ew} {x y v:Value} (ez:aI wz w) (hW:fH T wz.heap.size g l v w) (hx:bo d.at_.2.1 x wz) (hy:bo d.at_.2.2 y wz) (hw:wD d) (hl:l.length+(tJ d).length≤4398046511104):
 Calls Tryz.prog 101 #[.pointer (some ⟨g,0,none⟩),.agg #[I d.kd,I d.ix,B d.at_.1,x,y]] w (bE fun _ w'=>Ip T wz.heap.size g (l++tJ d) v w w'):=by
 refine enter (vs:=[.pointer (some ⟨g,0,none⟩),.agg #[I d.kd,I d.ix,B d.at_.1,x,y]]) Tryz.func101 Ll Ll Ll ?_
 have hdl:(tJ d).length=(gA d.kd).length+(gA d.ix).length+(mR d.at_).length:=by simp only[tJ,List.length_append]
 refine af (aa ?_)
 obtain⟨g3,w3,hr3,l3,x3,k3⟩:=dc (P:=Tryz.prog) (w:=w) (T:=80) (cs:=[I d.kd,I d.ix,B d.at_.1,x,y])
 refine cL Ll Ll hr3 (ag (ab (af (aa (ae Ll Ll (ah Ll Ll (aF (o:=0) KT Ll (by kernel_rfl) Ll) ?_))))))
 refine am Ll Ll (aj KO Ll (k3.cell (i:=0) Ll)) (ah Ll Ll (aF (o:=1) KT Ll (by kernel_rfl) Ll) ?_)
 refine am Ll Ll (aj KO Ll (k3.cell (i:=1) Ll)) ?_
 obtain⟨v9,w9,hr9,x9,o9,ob9⟩:=Ct (w:=w3) (w3).heap.size [d.kd,d.ix] (by simp) (Nat.le_refl _)
 refine aO (vs:=[(0,I d.kd),(1,I d.ix)]) Ll Ll hr9 ?_
 have hW3:=hW.ext x3
 have hW9:=hW3.ext x9
 refine an m4 Ll Ll ((ni (ns:=[d.kd,d.ix]) hW9 (((ez.trans x3).trans x9)).size (o9.rpx (fun k hk=>hW3.off_new (o9.lt k hk).1)) (KC hw.1 hw.2) (by simp only[List.length_cons,List.length_nil];omega))) ?_
 rintro v10 w10 ⟨v10,hW10,st10⟩
 have x10:=st10.ext (((ez.trans x3).trans x9)) hW9.ge hW9.new
 have k3a:=st10.mv.blk (k3.ext x9) (hW.off_new l3)
 refine ag (ab (aa (ae rfl rfl (ah rfl rfl (aF (o:=2) Tryz.underlying80 rfl (by kernel_rfl) rfl) (am rfl rfl (k3a.ldO (ms:=[B d.at_.1,x,y]) (o:=2) (fun j v hj=>by rcases j with _|_|_|_|_|_|_|_|_|j<;>simp_all) Tryz.underlying55 rfl (by kernel_rfl)) ?_)))))
 refine an lU Ll Ll ((lW (q:=d.at_) (x10) hW10 hx hy (by simp only[List.length_append,List.flatMap_cons,List.flatMap_nil,List.append_nil];omega))) ?_
 rintro v14 w14 ⟨v14,hW14,st14⟩
 have x14:=st14.ext (x10) hW10.ge hW10.new
 refine ag (gq Ll ?_)
 exact⟨_,rfl,v14,by simpa only[tJ,List.flatMap_cons,List.flatMap_nil,List.append_nil,List.append_assoc] using hW14,((cY.of_ext (x3.trans x9)).trans st10).trans st14⟩
theorem jn {T:TypeId} {wz w:World} {g:Nat} {l:List UInt8} {ps:List dl} {pv v:Value} (ez:aI wz w) (hW:fH T wz.heap.size g l v w) (hd:df dk ps pv wz) (hw:wP ps) (hl:l.length+(tK ps).length≤4398046511104):
 Calls Tryz.prog 100 #[.pointer (some ⟨g,0,none⟩),pv] w (bE fun _ w'=>Ip T wz.heap.size g (l++tK ps) v w w'):=by
 refine enter (vs:=[.pointer (some ⟨g,0,none⟩),pv]) Tryz.func100 Ll Ll Ll ?_
 have hll:=hd.len
 have hpl:(tK ps).length=(uv ps.length).length+(ps.flatMap rB).length:=by simp only[tK,List.length_append]
 refine af (aa (ae Ll Ll (ae Ll Ll (aQ Ll Ll (bR KW (hd.ext ez)) (an lT Ll Ll ((lV hW ez.size (by omega) (by omega))) ?_)))))
 rintro v9 w9 ⟨v9,hW9,st9⟩
 have x9:=st9.ext ez hW.ge hW.new
 refine ag (ab (af (aa (ae Ll Ll (aQ Ll Ll (bR KW (hd.ext x9)) (ae Ll Ll (ag (ab (ax ?_)))))))))
 refine f4 (fun(i:Nat) (u:Value)=>[(0,.pointer (some ⟨g,0,none⟩)),(10,pv),(11,I (ps.length:Int)),(12,I (i:Int))]) (fun(i:Nat) (u:Value) w'=>fH T wz.heap.size g (l++uv ps.length++(ps.take i).flatMap rB) u w'∧cY g v w u w'∧aI wz w'∧i≤ps.length) (fun(i:Nat) (u:Value)=>ps.length-i) (0) (v9) ⟨rfl,rfl,rfl,rfl,trivial⟩ ⟨by simpa using hW9,st9,x9,by omega⟩ ?_
 rintro i u wL ⟨hW1,st1,eL,hi⟩
 refine af (aa (ai Ll Ll Ll (aW) (ag (ab (af ?_)))))
 refine bi Ll (fun h13=>?_) (fun h13=>?_)
 ·refine ar (ab (af (ax (af (aa ?_)))))
  obtain⟨a14,c14,p14,q14,h14⟩:=dN (P:=Tryz.prog) (sz:=7) KW (by kernel_rfl) ey (by omega) hd (i:=i) (by omega) .i64
  obtain⟨e14,he14⟩:∃e,e=ps[i]'(by omega):=⟨_,rfl⟩
  rw[←he14] at h14
  obtain⟨x14_0,x14_1,rfl,f14_0,f14_1⟩:=ju h14
  refine aA Ll Ll Ll (p14 _) ?_
  have hm:=hw e14 (by rw[he14];exact List.getElem_mem _)
  have hfl:=jV (f:=rB) (l:=ps) (i:=i) (by omega)
  rw[←he14] at hfl
  have hml:(rB e14).length=(gA e14.kd).length+(gA e14.ix).length+(gA e14.lo).length+(gA e14.hi).length+(mR e14.co).length:=by simp only[rB,List.length_append]
  refine am Ll Ll ((q14.ext eL).ld K3 Ll (by kernel_rfl)) ?_
  obtain⟨g5,w5,hr5,l5,x5,k5⟩:=be (P:=Tryz.prog) (w:=wL) (t:=216) (z:=.agg #[I 0,I 0,I 0,I 0,B false,.slice none 0 0,.slice none 0 0]) (l:=[I 0,I 0,I 0,I 0,B false,.slice none 0 0,.slice none 0 0]) (by kernel_rfl) rfl
  refine bf Ll hr5 ?_
  obtain⟨w3_3,s3_3,q3_3,k3_3⟩:=k5.stS (P:=Tryz.prog) (t:=216) (m:=[I e14.kd,I e14.ix,I e14.lo,I e14.hi,B e14.co.1,x14_0,x14_1]) rfl (by kernel_rfl) (aD.cons rfl (aD.cons rfl (aD.cons rfl (aD.cons rfl (aD.cons rfl (aD.cons f14_0.one (aD.cons f14_1.one aD.nil)))))))
  refine aq Ll Ll s3_3 ?_
  have x3_3:=aI.of_new (x5) q3_3 l5
  refine ag (ab (af (aa (ae Ll Ll (ah Ll Ll (aF (o:=0) K3 Ll (by kernel_rfl) Ll) (ah Ll Ll (aF (o:=0) Lb Ll (by kernel_rfl) Ll) ?_))))))
  refine am Ll Ll (aj KO Ll (k3_3.cell (i:=0) Ll)) (ah Ll Ll (aF (o:=0) K3 Ll (by kernel_rfl) Ll) ?_)
  refine ah Ll Ll (aF (o:=1) Lb Ll (by kernel_rfl) Ll) (am Ll Ll (aj KO Ll (k3_3.cell (i:=1) Ll)) ?_)
  refine ah Ll Ll (aF (o:=0) K3 Ll (by kernel_rfl) Ll) (ah Ll Ll (aF (o:=2) Lb Ll (by kernel_rfl) Ll) ?_)
  refine am Ll Ll (aj KO Ll (k3_3.cell (i:=2) Ll)) (ah Ll Ll (aF (o:=0) K3 Ll (by kernel_rfl) Ll) ?_)
  refine ah Ll Ll (aF (o:=3) Lb Ll (by kernel_rfl) Ll) (am Ll Ll (aj KO Ll (k3_3.cell (i:=3) Ll)) ?_)
  obtain⟨v29,w29,hr29,x29,o29,ob29⟩:=Ct (w:=w3_3) (w3_3).heap.size [e14.kd,e14.ix,e14.lo,e14.hi] (by simp) (Nat.le_refl _)
  refine aO (vs:=[(0,I e14.kd),(1,I e14.ix),(2,I e14.lo),(3,I e14.hi)]) Ll Ll hr29 ?_
  have hWb:=hW1.ext x3_3
  have hWc:=hWb.ext x29
  refine an m4 Ll Ll ((ni (ns:=[e14.kd,e14.ix,e14.lo,e14.hi]) hWc (((eL.trans x3_3).trans x29)).size (o29.rpx (fun k hk=>hWb.off_new (o29.lt k hk).1)) (KD hm.1 hm.2.1 hm.2.2.1 hm.2.2.2) (by simp only[List.length_append,List.length_cons,List.length_nil];omega))) ?_
  rintro v30 w30 ⟨v30,hW30,st30⟩
  have x30:=st30.ext (((eL.trans x3_3).trans x29)) hWc.ge hWc.new
  have k5a:=st30.mv.blk (k3_3.ext x29) (hW1.off_new l5)
  refine ag (ab (aa (ae rfl rfl (ah rfl rfl (aF (o:=4) Tryz.underlying216 rfl (by kernel_rfl) rfl) (am rfl rfl (k5a.ldO (ms:=[B e14.co.1,x14_0,x14_1]) (o:=4) (fun j v hj=>by rcases j with _|_|_|_|_|_|_|_|_|j<;>simp_all) Tryz.underlying55 rfl (by kernel_rfl)) ?_)))))
  refine an lU Ll Ll ((lW (q:=e14.co) (x30) hW30 f14_0 f14_1 (by simp only[List.length_append,List.flatMap_cons,List.flatMap_nil,List.append_nil];omega))) ?_
  rintro v34 w34 ⟨v34,hW34,st34⟩
  have x34:=st34.ext (x30) hW30.ge hW30.new
  refine ag (aJ (ab (aa (ai (r:=I ((i+1:Nat):Int)) Ll Ll Ll (by have e:((i+1:Nat):Int)=(i:Int)+1:=(by omega);rw[e];exact aK (by omega) (by omega)) ?_))))
  refine ae Ll Ll (ag ?_)
  refine d9 (i+1) (v34) ⟨rfl,rfl,rfl,rfl,trivial⟩ ⟨by
   rw[eg (by omega),←he14]
   simpa only[rB,List.flatMap_cons,List.flatMap_nil,List.append_nil,List.append_assoc] using hW34,((st1.trans (cY.of_ext (x3_3.trans x29))).trans st30).trans st34,x34,by omega⟩ (by omega)
 ·refine aY (aB (aB (aX (gq Ll ?_))))
  exact⟨_,rfl,u,by rw[List.take_of_length_le (by omega),List.append_assoc] at hW1;exact hW1,st1⟩
end Go.Rl
namespace Go.Rl
open Go.RowKit Go.Proofs
theorem Dj (b:Bool):(Gj b).length=1:=by cases b<;>rfl
theorem nj {T:TypeId} {wz w:World} {g:Nat} {l:List UInt8} {ls:List fB} {lv v:Value} (ez:aI wz w) (hW:fH T wz.heap.size g l v w) (hd:df eI ls lv wz) (hw:∀m∈ls,Kn m) (hl:l.length+(iK ls).length≤4398046511104):
 Calls Tryz.prog 99 #[.pointer (some ⟨g,0,none⟩),lv] w (bE fun _ w'=>Ip T wz.heap.size g (l++iK ls) v w w'):=by
 refine enter (vs:=[.pointer (some ⟨g,0,none⟩),lv]) Tryz.func99 Ll Ll Ll ?_
 have hll:=hd.len
 have hpl:(iK ls).length=(uv ls.length).length+(ls.flatMap mV).length:=by simp only[iK,List.length_append]
 refine af (aa (ae Ll Ll (ae Ll Ll (aQ Ll Ll (bR KZ (hd.ext ez)) (an lT Ll Ll ((lV hW ez.size (by omega) (by omega))) ?_)))))
 rintro v10 w10 ⟨v10,hW10,st10⟩
 have x10:=st10.ext ez hW.ge hW.new
 refine ag (ab (af (aa (ae Ll Ll (aQ Ll Ll (bR KZ (hd.ext x10)) (ae Ll Ll (ag (ab (ax ?_)))))))))
 refine f4 (fun(i:Nat) (u:Value)=>[(0,.pointer (some ⟨g,0,none⟩)),(11,lv),(12,I (ls.length:Int)),(13,I (i:Int))]) (fun(i:Nat) (u:Value) w'=>fH T wz.heap.size g (l++uv ls.length++(ls.take i).flatMap mV) u w'∧cY g v w u w'∧aI wz w'∧i≤ls.length) (fun(i:Nat) (u:Value)=>ls.length-i) (0) (v10) ⟨rfl,rfl,rfl,rfl,trivial⟩ ⟨by simpa using hW10,st10,x10,by omega⟩ ?_
 rintro i u wL ⟨hW1,st1,eL,hi⟩
 refine af (aa (ai Ll Ll Ll (aW) (ag (ab (af ?_)))))
 refine bi Ll (fun h14=>?_) (fun h14=>?_)
 ·refine ar (ab (af (ax (af (aa ?_)))))
  obtain⟨a15,c15,p15,q15,h15⟩:=dN (P:=Tryz.prog) (sz:=6) KZ (by kernel_rfl) dX (by omega) hd (i:=i) (by omega) .i64
  obtain⟨e15,he15⟩:∃e,e=ls[i]'(by omega):=⟨_,rfl⟩
  rw[←he15] at h15
  obtain⟨x15_0,x15_1,x15_2,rfl,f15_0,f15_1,f15_2⟩:=kJ h15
  refine aA Ll Ll Ll (p15 _) ?_
  have hm:=hw e15 (by rw[he15];exact List.getElem_mem _)
  have hfl:=jV (f:=mV) (l:=ls) (i:=i) (by omega)
  rw[←he15] at hfl
  have hbl:=Dj e15.up
  have hml:(mV e15).length=(gA e15.un).length+(Gj e15.up).length+(mR e15.va).length+(tK e15.pf).length:=by simp only[mV,List.length_append]
  obtain⟨pre,hpre⟩:∃pre,pre=l++uv ls.length++(ls.take i).flatMap mV:=⟨_,rfl⟩
  have hprl:pre.length=l.length+(uv ls.length).length+((ls.take i).flatMap mV).length:=by rw[hpre];simp only[List.length_append]
  rw[←hpre] at hW1
  refine am Ll Ll ((q15.ext eL).ld KX Ll (by kernel_rfl)) ?_
  obtain⟨g5,w5,hr5,l5,x5,k5⟩:=be (P:=Tryz.prog) (w:=wL) (t:=147) (z:=.agg #[I 0,B false,B false,.slice none 0 0,.slice none 0 0,.slice none 0 0]) (l:=[I 0,B false,B false,.slice none 0 0,.slice none 0 0,.slice none 0 0]) (by kernel_rfl) rfl
  refine bf Ll hr5 ?_
  obtain⟨w3_3,s3_3,q3_3,k3_3⟩:=k5.stS (P:=Tryz.prog) (t:=147) (m:=[I e15.un,B e15.up,B e15.va.1,x15_0,x15_1,x15_2]) rfl (by kernel_rfl) (aD.cons rfl (aD.cons rfl (aD.cons rfl (aD.cons f15_0.one (aD.cons f15_1.one (aD.cons f15_2.one aD.nil))))))
  refine aq Ll Ll s3_3 ?_
  have x3_3:=aI.of_new (x5) q3_3 l5
  refine ag (ab (af (aa (ae Ll Ll (ah Ll Ll (aF (o:=0) KX Ll (by kernel_rfl) Ll) (am Ll Ll (aj KO Ll (k3_3.cell (i:=0) Ll)) ?_))))))
  obtain⟨v20,w20,hr20,x20,o20,ob20⟩:=Ct (w:=w3_3) (w3_3).heap.size [e15.un] (by simp) (Nat.le_refl _)
  refine aO (vs:=[(0,I e15.un)]) Ll Ll hr20 ?_
  have hWb:=hW1.ext x3_3
  have hWc:=hWb.ext x20
  refine an m4 Ll Ll ((ni (ns:=[e15.un]) hWc (((eL.trans x3_3).trans x20)).size (o20.rpx (fun k hk=>hWb.off_new (o20.lt k hk).1)) (KB hm.1) (by simp only[List.length_cons,List.length_nil];omega))) ?_
  rintro v21 w21 ⟨v21,hW21,st21⟩
  have x21:=st21.ext (((eL.trans x3_3).trans x20)) hWc.ge hWc.new
  have n5:=hW1.off_new l5
  have k5a:=st21.mv.blk (k3_3.ext x20) n5
  have n5a:=st21.off n5 (k3_3.ext x20).lt
  have kg:=hW21.blk
  have hc1:[e15.un].flatMap gA=gA e15.un:=by simp only[List.flatMap_cons,List.flatMap_nil,List.append_nil]
  rw[hc1] at hW21
  refine ag (ab (af (aa (ac Ll Ll (ag (ab (af (af (aa (ah Ll Ll (aF (o:=1) KX Ll (by kernel_rfl) Ll) ?_))))))))))
  refine am Ll Ll (aj KU Ll (k5a.cell (i:=1) Ll)) (ag (ab ?_))
  refine fS Ll (fun h23=>?_) (fun h23=>?_)
  ·have hbit:Gj e15.up=[1]:=by rw[h23];rfl
   refine aa (ac Ll Ll (ag (ab (af (aa (ae Ll Ll (ae Ll Ll (aH Ll Ll ?_))))))))
   refine ah Ll Ll il ?_
   refine am Ll Ll (aj KQ Ll kg.k0) (ae Ll Ll ?_)
   obtain⟨v30,w30,hr30,x30,o30,ob30⟩:=fE (w:=w21) w21.heap.size [1] (by simp) (Nat.le_refl _)
   refine aO (vs:=[(0,U8 1)]) Ll Ll hr30 ?_
   obtain⟨v31,wa31,wb31,hr31,hs31,hW31,st31⟩:=fH.put (t:=28) (t2:=28) (ty:=28) Tryz.underlying28 i8 Tryz.underlying28 (hW21.ext x30) ((x21.trans x30)).size o30.bts (by simp) (by simp only[List.length_append,List.length_cons,List.length_nil];omega)
   refine bc Ll Ll hr31 ?_
   refine aH Ll Ll ?_
   refine ah Ll Ll il ?_
   refine aq Ll Ll hs31 ?_
   have x31:=st31.ext ((x21.trans x30)) (hW21.ext x30).ge (hW21.ext x30).new
   have k5b:=st31.mv.blk (k5a.ext x30) n5a
   have n5b:=st31.off n5a (k5a.ext x30).lt
   rw[←hbit] at hW31
   refine ag (ab (af (aa (ae rfl rfl (ah rfl rfl (aF (o:=2) Tryz.underlying147 rfl (by kernel_rfl) rfl) (am rfl rfl (k5b.ldO (ms:=[B e15.va.1,x15_0,x15_1]) (o:=2) (fun j v hj=>by rcases j with _|_|_|_|_|_|_|_|_|j<;>simp_all) Tryz.underlying55 rfl (by kernel_rfl)) ?_))))))
   refine an lU Ll Ll ((lW (q:=e15.va) (x31) hW31 f15_0 f15_1 (by simp only[List.length_append];omega))) ?_
   rintro v37 w37 ⟨v37,hW37,st37⟩
   have x37:=st37.ext (x31) hW31.ge hW31.new
   have k5c:=st37.mv.blk k5b n5b
   refine ag (ab (aa (ae Ll Ll (ah Ll Ll (aF (o:=5) KX Ll (by kernel_rfl) Ll) (am Ll Ll (aj KW Ll (k5c.cell (i:=5) Ll)) ?_)))))
   refine an jm Ll Ll ((jn (ps:=e15.pf) (x37) hW37 f15_2 hm.2 (by simp only[List.length_append];omega))) ?_
   rintro v41 w41 ⟨v41,hW41,st41⟩
   have x41:=st41.ext (x37) hW37.ge hW37.new
   refine ag (aJ (ab (aa (ai (r:=I ((i+1:Nat):Int)) Ll Ll Ll (by have e:((i+1:Nat):Int)=(i:Int)+1:=(by omega);rw[e];exact aK (by omega) (by omega)) ?_))))
   refine ae Ll Ll (ag ?_)
   refine d9 (i+1) (v41) ⟨rfl,rfl,rfl,rfl,trivial⟩ ⟨by
    rw[eg (by omega),←he15,←List.append_assoc,←hpre]
    simpa only[mV,List.append_assoc] using hW41,((((st1.trans (cY.of_ext (x3_3.trans x20))).trans st21).trans ((cY.of_ext x30).trans st31)).trans st37).trans st41,x41,by omega⟩ (by omega)
  ·have hbit:Gj e15.up=[0]:=by rw[h23];rfl
   refine ar (ab (af (aa (ae Ll Ll (ae Ll Ll (aH Ll Ll ?_))))))
   refine ah Ll Ll il ?_
   refine am Ll Ll (aj KQ Ll kg.k0) (ae Ll Ll ?_)
   obtain⟨v30,w30,hr30,x30,o30,ob30⟩:=fE (w:=w21) w21.heap.size [0] (by simp) (Nat.le_refl _)
   refine aO (vs:=[(0,U8 0)]) Ll Ll hr30 ?_
   obtain⟨v31,wa31,wb31,hr31,hs31,hW31,st31⟩:=fH.put (t:=28) (t2:=28) (ty:=28) Tryz.underlying28 i8 Tryz.underlying28 (hW21.ext x30) ((x21.trans x30)).size o30.bts (by simp) (by simp only[List.length_append,List.length_cons,List.length_nil];omega)
   refine bc Ll Ll hr31 ?_
   refine aH Ll Ll ?_
   refine ah Ll Ll il ?_
   refine aq Ll Ll hs31 ?_
   have x31:=st31.ext ((x21.trans x30)) (hW21.ext x30).ge (hW21.ext x30).new
   have k5b:=st31.mv.blk (k5a.ext x30) n5a
   have n5b:=st31.off n5a (k5a.ext x30).lt
   rw[←hbit] at hW31
   refine ag (ab (af (aa (ae rfl rfl (ah rfl rfl (aF (o:=2) Tryz.underlying147 rfl (by kernel_rfl) rfl) (am rfl rfl (k5b.ldO (ms:=[B e15.va.1,x15_0,x15_1]) (o:=2) (fun j v hj=>by rcases j with _|_|_|_|_|_|_|_|_|j<;>simp_all) Tryz.underlying55 rfl (by kernel_rfl)) ?_))))))
   refine an lU Ll Ll ((lW (q:=e15.va) (x31) hW31 f15_0 f15_1 (by simp only[List.length_append];omega))) ?_
   rintro v37 w37 ⟨v37,hW37,st37⟩
   have x37:=st37.ext (x31) hW31.ge hW31.new
   have k5c:=st37.mv.blk k5b n5b
   refine ag (ab (aa (ae Ll Ll (ah Ll Ll (aF (o:=5) KX Ll (by kernel_rfl) Ll) (am Ll Ll (aj KW Ll (k5c.cell (i:=5) Ll)) ?_)))))
   refine an jm Ll Ll ((jn (ps:=e15.pf) (x37) hW37 f15_2 hm.2 (by simp only[List.length_append];omega))) ?_
   rintro v41 w41 ⟨v41,hW41,st41⟩
   have x41:=st41.ext (x37) hW37.ge hW37.new
   refine ag (aJ (ab (aa (ai (r:=I ((i+1:Nat):Int)) Ll Ll Ll (by have e:((i+1:Nat):Int)=(i:Int)+1:=(by omega);rw[e];exact aK (by omega) (by omega)) ?_))))
   refine ae Ll Ll (ag ?_)
   refine d9 (i+1) (v41) ⟨rfl,rfl,rfl,rfl,trivial⟩ ⟨by
    rw[eg (by omega),←he15,←List.append_assoc,←hpre]
    simpa only[mV,List.append_assoc] using hW41,((((st1.trans (cY.of_ext (x3_3.trans x20))).trans st21).trans ((cY.of_ext x30).trans st31)).trans st37).trans st41,x41,by omega⟩ (by omega)
 ·refine aY (aB (aB (aX (gq Ll ?_))))
  exact⟨_,rfl,u,by rw[List.take_of_length_le (by omega),List.append_assoc] at hW1;exact hW1,st1⟩
theorem Ar {T:TypeId} {wz w:World} {g:Nat} {l:List UInt8} {n:aP} {vl x y vk vp v:Value}
 (ih:∀k∈n.kids,∀{w:World} {l:List UInt8} {vl x y vk vp v:Value},aI wz w→fH T wz.heap.size g l v w→df eI k.lems vl wz→bo k.split.at_.2.1 x wz→bo k.split.at_.2.2 y wz→df bM k.kids vk wz→df dk k.pf vp wz→wN k→l.length+(dO k).length≤4398046511104→
   Calls Tryz.prog 47 #[.pointer (some ⟨g,0,none⟩),.agg #[vl,I k.split.kd,I k.split.ix,B k.split.at_.1,x,y,vk,B k.empty,vp]] w (bE fun _ w'=>Ip T wz.heap.size g (l++dO k) v w w'))
 (ez:aI wz w) (hW:fH T wz.heap.size g l v w) (hl:df eI n.lems vl wz) (hx:bo n.split.at_.2.1 x wz) (hy:bo n.split.at_.2.2 y wz) (hk:df bM n.kids vk wz) (hp:df dk n.pf vp wz) (hw:wN n) (hb:l.length+(dO n).length≤4398046511104):
 Calls Tryz.prog 47 #[.pointer (some ⟨g,0,none⟩),.agg #[vl,I n.split.kd,I n.split.ix,B n.split.at_.1,x,y,vk,B n.empty,vp]] w (bE fun _ w'=>Ip T wz.heap.size g (l++dO n) v w w'):=by
 refine enter (vs:=[.pointer (some ⟨g,0,none⟩),.agg #[vl,I n.split.kd,I n.split.ix,B n.split.at_.1,x,y,vk,B n.empty,vp]]) Tryz.func47 Ll Ll Ll ?_
 have hll:=hk.len
 obtain⟨wl,wd,wp,wk⟩:=(Jv n).1 hw
 have hen:=GH n
 refine af (aa ?_)
 obtain⟨g3,w3,hr3,l3,x3,k3⟩:=dc (P:=Tryz.prog) (w:=w) (T:=83) (cs:=[vl,I n.split.kd,I n.split.ix,B n.split.at_.1,x,y,vk,B n.empty,vp])
 refine cL Ll Ll hr3 (ag (ab (af (aa (ac Ll Ll (ag (ab (af (ax (af (aa (ah Ll Ll (aF (o:=6) KM Ll (by kernel_rfl) Ll) ?_))))))))))))
 refine am Ll Ll (aj KR Ll (k3.cell (i:=6) Ll)) (aQ Ll Ll (bR KR (hk.ext (ez.trans x3))) ?_)
 refine ai Ll Ll Ll (ck) (ac Ll Ll (ag (ab ?_)))
 refine bi Ll (fun h7=>?_) (fun h7=>?_)
 ·have h0:¬n.kids.length=0:=by omega
  rw[if_neg h0] at hen
  have hel:(dO n).length=1+(iK n.lems).length+(tJ n.split).length+(n.kids.flatMap dO).length:=by rw[hen];simp only[List.length_append,List.length_cons,List.length_nil]
  refine aa (ac Ll Ll (ag (aJ (ab (af ?_)))))
  have hW3:=hW.ext x3
  have kg:=hW3.blk
  have n3:=hW.off_new l3
  refine aa (ae Ll Ll (ae Ll Ll (aH Ll Ll ?_)))
  refine ah Ll Ll il ?_
  refine am Ll Ll (aj KQ Ll kg.k0) (ae Ll Ll ?_)
  obtain⟨v21,w21,hr21,x21,o21,ob21⟩:=fE (w:=w3) w3.heap.size [2] (by simp) (Nat.le_refl _)
  refine aO (vs:=[(0,U8 2)]) Ll Ll hr21 ?_
  obtain⟨v22,wa22,wb22,hr22,hs22,hW22,st22⟩:=fH.put (t:=28) (t2:=28) (ty:=28) Tryz.underlying28 i8 Tryz.underlying28 (hW3.ext x21) (((ez.trans x3).trans x21)).size o21.bts (by simp) (by simp only[List.length_cons,List.length_nil];omega)
  refine bc Ll Ll hr22 ?_
  refine aH Ll Ll ?_
  refine ah Ll Ll il ?_
  refine aq Ll Ll hs22 ?_
  have x22:=st22.ext (((ez.trans x3).trans x21)) (hW3.ext x21).ge (hW3.ext x21).new
  have k3a:=st22.mv.blk (k3.ext x21) n3
  have n3a:=st22.off n3 (k3.ext x21).lt
  refine ag (ab (af (aa (ae Ll Ll (ah Ll Ll (aF (o:=0) KM Ll (by kernel_rfl) Ll) (am Ll Ll (aj KZ Ll (k3a.cell (i:=0) Ll)) ?_))))))
  refine an nf Ll Ll ((nj (ls:=n.lems) (x22) hW22 hl wl (by simp only[List.length_append,List.length_cons,List.length_nil];omega))) ?_
  rintro v28 w28 ⟨v28,hW28,st28⟩
  have x28:=st28.ext (x22) hW22.ge hW22.new
  have k3b:=st28.mv.blk k3a n3a
  have n3b:=st28.off n3a k3a.lt
  refine ag (ab (af (af (aa (ae Ll Ll ?_)))))
  refine ai (u:=U8 2) (v:=U8 2) (r:=B false) Ll Ll Ll (cf (show ¬(2:UInt8)<2 by decide) ki) ?_
  refine ag (ab (cp Ll (ar (ab (af (aa (ae Ll Ll (ah Ll Ll (aF (o:=1) KM Ll (by kernel_rfl) Ll) ?_))))))))
  refine am rfl rfl (k3b.ldO (ms:=[I n.split.kd,I n.split.ix,B n.split.at_.1,x,y]) (o:=1) (fun j v hj=>by rcases j with _|_|_|_|_|_|_|_|_|j<;>simp_all) Tryz.underlying80 rfl (by kernel_rfl)) ?_
  refine an BY Ll Ll ((B0 (d:=n.split) (x28) hW28 hx hy wd (by simp only[List.length_append,List.length_cons,List.length_nil];omega))) ?_
  rintro v38 w38 ⟨v38,hW38,st38⟩
  have x38:=st38.ext (x28) hW28.ge hW28.new
  have k3c:=st38.mv.blk k3b n3b
  obtain⟨pre,hpre⟩:∃pre,pre=l++[2]++iK n.lems++tJ n.split:=⟨_,rfl⟩
  have hprl:pre.length=l.length+1+(iK n.lems).length+(tJ n.split).length:=by rw[hpre];simp only[List.length_append,List.length_cons,List.length_nil]
  rw[←hpre] at hW38
  refine ag (ab (af (aa (ah Ll Ll (aF (o:=6) KM Ll (by kernel_rfl) Ll) (am Ll Ll (aj KR Ll (k3c.cell (i:=6) Ll)) ?_)))))
  refine aQ Ll Ll (bR (f:=bM) KR (hk.ext (x38))) ?_
  refine ae Ll Ll (ag (ab (ax ?_)))
  refine f4 (fun(i:Nat) (u:Value)=>[(0,.pointer (some ⟨g,0,none⟩)),(40,vk),(41,I (n.kids.length:Int)),(42,I (i:Int))]) (fun(i:Nat) (u:Value) w'=>fH T wz.heap.size g (pre++(n.kids.take i).flatMap dO) u w'∧cY g v w u w'∧aI wz w'∧i≤n.kids.length) (fun(i:Nat) (u:Value)=>n.kids.length-i) (0) (v38) ⟨rfl,rfl,rfl,rfl,trivial⟩ ⟨by simpa using hW38,(((cY.of_ext (x3.trans x21)).trans st22).trans st28).trans st38,x38,by omega⟩ ?_
  rintro i u wL ⟨hW1,st1,eL,hi⟩
  refine af (aa (ai Ll Ll Ll (aW) (ag (ab (af ?_)))))
  refine bi Ll (fun h43=>?_) (fun h43=>?_)
  ·refine ar (ab (af (ax (af (aa ?_)))))
   obtain⟨a44,c44,p44,q44,h44⟩:=dN (P:=Tryz.prog) (sz:=9) KR (by kernel_rfl) bD (by omega) hk (i:=i) (by omega) .i64
   obtain⟨e44,he44⟩:∃e,e=n.kids[i]'(by omega):=⟨_,rfl⟩
   rw[←he44] at h44
   obtain⟨x44_0,x44_1,x44_2,x44_3,x44_4,rfl,f44_0,f44_1,f44_2,f44_3,f44_4⟩:=dY h44
   refine aA Ll Ll Ll (p44 _) ?_
   have hfl:=jV (f:=dO) (l:=n.kids) (i:=i) (by omega)
   rw[←he44] at hfl
   have hmem:e44∈n.kids:=by rw[he44];exact List.getElem_mem _
   refine am Ll Ll ((q44.ext eL).ld KM Ll (by kernel_rfl)) ?_
   obtain⟨g6,w6,hr6,l6,x6,k6⟩:=be (P:=Tryz.prog) (w:=wL) (t:=83) (z:=.agg #[.slice none 0 0,I 0,I 0,B false,.slice none 0 0,.slice none 0 0,.slice none 0 0,B false,.slice none 0 0]) (l:=[.slice none 0 0,I 0,I 0,B false,.slice none 0 0,.slice none 0 0,.slice none 0 0,B false,.slice none 0 0]) (by kernel_rfl) rfl
   refine bf Ll hr6 ?_
   obtain⟨w13_3,s13_3,q13_3,k13_3⟩:=k6.stS (P:=Tryz.prog) (t:=83) (m:=[x44_0,I e44.split.kd,I e44.split.ix,B e44.split.at_.1,x44_1,x44_2,x44_3,B e44.empty,x44_4]) rfl (by kernel_rfl) (aD.cons f44_0.one (aD.cons rfl (aD.cons rfl (aD.cons rfl (aD.cons f44_1.one (aD.cons f44_2.one (aD.cons f44_3.one (aD.cons rfl (aD.cons f44_4.one aD.nil)))))))))
   refine aq Ll Ll s13_3 ?_
   have x13_3:=aI.of_new (x6) q13_3 l6
   refine ag (ab (aa (ae Ll Ll (am Ll Ll (k13_3.ld Tryz.underlying83 Ll (by kernel_rfl)) (an nh Ll Ll ((ih e44 hmem ((eL.trans x13_3)) (hW1.ext x13_3) f44_0 f44_1 f44_2 f44_3 f44_4 (wk e44 hmem) (by simp only[List.length_append];omega))) ?_)))))
   rintro v48 w48 ⟨v48,hW48,st48⟩
   have x48:=st48.ext ((eL.trans x13_3)) hW1.ge hW1.new
   refine ag (aJ (ab (aa (ai (r:=I ((i+1:Nat):Int)) Ll Ll Ll (by have e:((i+1:Nat):Int)=(i:Int)+1:=(by omega);rw[e];exact aK (by omega) (by omega)) ?_))))
   refine ae Ll Ll (ag ?_)
   refine d9 (i+1) (v48) ⟨rfl,rfl,rfl,rfl,trivial⟩ ⟨by rw[eg (by omega),←he44,←List.append_assoc];exact hW48,(st1.trans (cY.of_ext x13_3)).trans st48,x48,by omega⟩ (by omega)
  ·refine aY (aB (aB (aX (gq Ll ?_))))
   exact⟨_,rfl,u,by rw[List.take_of_length_le (by omega),hpre] at hW1;rw[hen];simpa only[List.append_assoc] using hW1,st1⟩
 ·have h0:n.kids.length=0:=by omega
  rw[if_pos h0] at hen
  have hel:(dO n).length=1+(iK n.lems).length+(tK n.pf).length:=by rw[hen];simp only[List.length_append,Dj]
  refine af (aa (ah Ll Ll (aF (o:=7) KM Ll (by kernel_rfl) Ll) (am Ll Ll (aj KU Ll (k3.cell (i:=7) Ll)) ?_)))
  refine ac Ll Ll (ag (ab ?_))
  refine fS Ll (fun h12=>?_) (fun h12=>?_)
  ·have hbit:Gj n.empty=[1]:=by rw[h12];rfl
   refine aa (ac Ll Ll (ag (aJ (ab (af ?_)))))
   have hW3:=hW.ext x3
   have kg:=hW3.blk
   have n3:=hW.off_new l3
   refine aa (ae Ll Ll (ae Ll Ll (aH Ll Ll ?_)))
   refine ah Ll Ll il ?_
   refine am Ll Ll (aj KQ Ll kg.k0) (ae Ll Ll ?_)
   obtain⟨v21,w21,hr21,x21,o21,ob21⟩:=fE (w:=w3) w3.heap.size [1] (by simp) (Nat.le_refl _)
   refine aO (vs:=[(0,U8 1)]) Ll Ll hr21 ?_
   obtain⟨v22,wa22,wb22,hr22,hs22,hW22,st22⟩:=fH.put (t:=28) (t2:=28) (ty:=28) Tryz.underlying28 i8 Tryz.underlying28 (hW3.ext x21) (((ez.trans x3).trans x21)).size o21.bts (by simp) (by simp only[List.length_cons,List.length_nil];omega)
   refine bc Ll Ll hr22 ?_
   refine aH Ll Ll ?_
   refine ah Ll Ll il ?_
   refine aq Ll Ll hs22 ?_
   have x22:=st22.ext (((ez.trans x3).trans x21)) (hW3.ext x21).ge (hW3.ext x21).new
   have k3a:=st22.mv.blk (k3.ext x21) n3
   have n3a:=st22.off n3 (k3.ext x21).lt
   refine ag (ab (af (aa (ae Ll Ll (ah Ll Ll (aF (o:=0) KM Ll (by kernel_rfl) Ll) (am Ll Ll (aj KZ Ll (k3a.cell (i:=0) Ll)) ?_))))))
   refine an nf Ll Ll ((nj (ls:=n.lems) (x22) hW22 hl wl (by simp only[List.length_append,List.length_cons,List.length_nil];omega))) ?_
   rintro v28 w28 ⟨v28,hW28,st28⟩
   have x28:=st28.ext (x22) hW22.ge hW22.new
   have k3b:=st28.mv.blk k3a n3a
   have n3b:=st28.off n3a k3a.lt
   refine ag (ab (af (af (aa (ae Ll Ll ?_)))))
   refine ai (u:=U8 1) (v:=U8 2) (r:=B true) Ll Ll Ll (cg (show(1:UInt8)<2 by decide) ki) ?_
   refine ag (ab (bB Ll (af (aa (ae Ll Ll (ah Ll Ll (aF (o:=8) KM Ll (by kernel_rfl) Ll) (am Ll Ll (aj KW Ll (k3b.cell (i:=8) Ll)) ?_)))))))
   refine an jm Ll Ll ((jn (ps:=n.pf) (x28) hW28 hp wp (by simp only[List.length_append,List.length_cons,List.length_nil];omega))) ?_
   rintro v34 w34 ⟨v34,hW34,st34⟩
   have x34:=st34.ext (x28) hW28.ge hW28.new
   refine ag (ab (av (au (wQ Ll ?_))))
   exact⟨_,rfl,v34,by rw[hen,hbit];simpa only[List.append_assoc] using hW34,(((cY.of_ext (x3.trans x21)).trans st22).trans st28).trans st34⟩
  ·have hbit:Gj n.empty=[0]:=by rw[h12];rfl
   refine ar (aJ (ab (af ?_)))
   have hW3:=hW.ext x3
   have kg:=hW3.blk
   have n3:=hW.off_new l3
   refine aa (ae Ll Ll (ae Ll Ll (aH Ll Ll ?_)))
   refine ah Ll Ll il ?_
   refine am Ll Ll (aj KQ Ll kg.k0) (ae Ll Ll ?_)
   obtain⟨v21,w21,hr21,x21,o21,ob21⟩:=fE (w:=w3) w3.heap.size [0] (by simp) (Nat.le_refl _)
   refine aO (vs:=[(0,U8 0)]) Ll Ll hr21 ?_
   obtain⟨v22,wa22,wb22,hr22,hs22,hW22,st22⟩:=fH.put (t:=28) (t2:=28) (ty:=28) Tryz.underlying28 i8 Tryz.underlying28 (hW3.ext x21) (((ez.trans x3).trans x21)).size o21.bts (by simp) (by simp only[List.length_cons,List.length_nil];omega)
   refine bc Ll Ll hr22 ?_
   refine aH Ll Ll ?_
   refine ah Ll Ll il ?_
   refine aq Ll Ll hs22 ?_
   have x22:=st22.ext (((ez.trans x3).trans x21)) (hW3.ext x21).ge (hW3.ext x21).new
   have k3a:=st22.mv.blk (k3.ext x21) n3
   have n3a:=st22.off n3 (k3.ext x21).lt
   refine ag (ab (af (aa (ae Ll Ll (ah Ll Ll (aF (o:=0) KM Ll (by kernel_rfl) Ll) (am Ll Ll (aj KZ Ll (k3a.cell (i:=0) Ll)) ?_))))))
   refine an nf Ll Ll ((nj (ls:=n.lems) (x22) hW22 hl wl (by simp only[List.length_append,List.length_cons,List.length_nil];omega))) ?_
   rintro v28 w28 ⟨v28,hW28,st28⟩
   have x28:=st28.ext (x22) hW22.ge hW22.new
   have k3b:=st28.mv.blk k3a n3a
   have n3b:=st28.off n3a k3a.lt
   refine ag (ab (af (af (aa (ae Ll Ll ?_)))))
   refine ai (u:=U8 0) (v:=U8 2) (r:=B true) Ll Ll Ll (cg (show(0:UInt8)<2 by decide) ki) ?_
   refine ag (ab (bB Ll (af (aa (ae Ll Ll (ah Ll Ll (aF (o:=8) KM Ll (by kernel_rfl) Ll) (am Ll Ll (aj KW Ll (k3b.cell (i:=8) Ll)) ?_)))))))
   refine an jm Ll Ll ((jn (ps:=n.pf) (x28) hW28 hp wp (by simp only[List.length_append,List.length_cons,List.length_nil];omega))) ?_
   rintro v34 w34 ⟨v34,hW34,st34⟩
   have x34:=st34.ext (x28) hW28.ge hW28.new
   refine ag (ab (av (au (wQ Ll ?_))))
   exact⟨_,rfl,v34,by rw[hen,hbit];simpa only[List.append_assoc] using hW34,(((cY.of_ext (x3.trans x21)).trans st22).trans st28).trans st34⟩
theorem nk {T:TypeId} {wz:World} {g:Nat}:∀(m:Nat) {n:aP},SizeOf.sizeOf n≤m→∀{w:World} {l:List UInt8} {vl x y vk vp v:Value},aI wz w→fH T wz.heap.size g l v w→df eI n.lems vl wz→bo n.split.at_.2.1 x wz→bo n.split.at_.2.2 y wz→df bM n.kids vk wz→df dk n.pf vp wz→wN n→l.length+(dO n).length≤4398046511104→
 Calls Tryz.prog 47 #[.pointer (some ⟨g,0,none⟩),.agg #[vl,I n.split.kd,I n.split.ix,B n.split.at_.1,x,y,vk,B n.empty,vp]] w (bE fun _ w'=>Ip T wz.heap.size g (l++dO n) v w w')
 |0,n,hm=>by cases n;simp at hm
 |m+1,n,hm=>fun h1 h2 h3 h4 h5 h6 h7 h8 h9=>Ar (fun k hk _ _ _ _ _ _ _ _=>nk m (by have:=aP.lt_of_mem hk;omega)) h1 h2 h3 h4 h5 h6 h7 h8 h9
theorem fH.mk1 {T:TypeId} {w0 w w':World} {g:Nat} {l:List UInt8} {v:Value} (e:aI w0 w) (ho:cG w0.heap.size l v w) (x:aI w w') (hg:w.heap.size≤g) (k:cd g T [v] w'):fH T w0.heap.size g l v w':=
 ⟨Nat.le_trans e.size hg,k,.inl (ho.ext x),ho.ge,fun h=>by have:=ho.lt g h;omega,fun n hn=>Nat.lt_of_lt_of_le (ho.lt n hn) x.size⟩
theorem B1 {w:World} {b:List UInt8} {bv:Value} {n:aP} {vl x y vk vp:Value} (hbv:cm b bv w) (hl:df eI n.lems vl w) (hx:bo n.split.at_.2.1 x w) (hy:bo n.split.at_.2.2 y w) (hk:df bM n.kids vk w) (hp:df dk n.pf vp w) (hw:wN n) (hb:b.length+(dO n).length≤4398046511104):
 Calls Tryz.prog 43 #[bv,.agg #[vl,I n.split.kd,I n.split.ix,B n.split.at_.1,x,y,vk,B n.empty,vp]] w (bE fun r w'=>aI w w'∧cm (b++dO n) r w'):=by
 refine enter (vs:=[bv,.agg #[vl,I n.split.kd,I n.split.ix,B n.split.at_.1,x,y,vk,B n.empty,vp]]) Tryz.func43 Ll Ll Ll ?_
 refine af (aa ?_)
 obtain⟨g3,w3,hr3,l3,x3,k3⟩:=dc (P:=Tryz.prog) (w:=w) (T:=83) (cs:=[vl,I n.split.kd,I n.split.ix,B n.split.at_.1,x,y,vk,B n.empty,vp])
 refine cL Ll Ll hr3 (ac Ll Ll (ag (ab (af (aa ?_)))))
 obtain⟨v6,w6,hr6,x6,o6,ob6⟩:=fE (w:=w3) w3.heap.size [] (by simp) (Nat.le_refl _)
 refine aO (vs:=[]) Ll Ll hr6 (ae Ll Ll ?_)
 obtain⟨v8,w8,hr8,o8,g8⟩:=dn (ty:=28) o6 (hbv.ext (x3.trans x6)) (by simp;omega) (x6).size
 have x8:=aI.of_grew (x6) g8 o6.ge
 refine bc Ll Ll hr8 ?_
 have o8w:cG w.heap.size b v8 w8:=by have:=o8;rw[List.nil_append] at this;exact this.low x3.size
 obtain⟨A8,n8,c8,e8,_⟩:=o8w.bts
 refine bm (vs:=[(0,v8)]) (r:=.agg #[v8]) Ll Ll (by rw[e8];exact run_build _ _ _ _ (by kernel_rfl)) ?_
 obtain⟨g10,w10,hr10,l10,x10,k10⟩:=dc (P:=Tryz.prog) (w:=w8) (T:=95) (cs:=[v8])
 refine cL Ll Ll hr10 ?_
 have hW10:fH 95 w.heap.size g10 b v8 w10:=fH.mk1 ((x3.trans x8)) o8w x10 l10 k10
 refine ac Ll Ll (ag (ab (af (aa (ae Ll Ll (am Ll Ll ((k3.ext (x8.trans x10)).ld KM Ll (by kernel_rfl)) ?_))))))
 refine an nh Ll Ll ((nk _ (Nat.le_refl _) (((x3.trans x8).trans x10)) hW10 hl hx hy hk hp hw hb)) ?_
 rintro v13 w13 ⟨v13,hW13,st13⟩
 have x13:=st13.ext (((x3.trans x8).trans x10)) hW10.ge hW10.new
 refine ag (ab (af ?_))
 have kg:=hW13.blk
 refine aa (ae Ll Ll (aH Ll Ll ?_))
 refine ah Ll Ll il ?_
 refine am Ll Ll (aj KQ Ll kg.k0) (ac Ll Ll (ag (ab (av (aG Ll Ll ?_)))))
 exact⟨_,rfl,x13,hW13.row.bts⟩
end Go.Rl
namespace Go.Rl
open Go.RowKit Go.Proofs
theorem B7:ay Tryz.prog 45:=⟨_,Tryz.func45,by kernel_rfl,rfl⟩
theorem p7:ay Tryz.prog 17:=⟨_,Tryz.func17,by kernel_rfl,rfl⟩
theorem Dk {w:World} {g:Nat} {T:TypeId} {d:List UInt8} {v:Value} (k:cd g T (gk d v) w) (hd:d.length=32):cm d (.slice (some ⟨g,0,none⟩) 32 32) w:=
 ⟨_,32,32,rfl,Nat.le_refl _,by unfold maxLen;omega,by simp[hd],fun _=>⟨_,rfl,fun j u hu=>by
  rw[Addr.add_mid,Nat.zero_add]
  have hj:=(List.getElem?_eq_some_iff.1 hu).1
  exact k.cell (by rw[gk,List.getElem?_append_left hj];exact hu)⟩,fun h=>by cases h⟩
def JN (w0:World) (n:aP):Prop:=∀{w:World} {vl x y vk vp:Value},aI w0 w→df eI n.lems vl w→bo n.split.at_.2.1 x w→bo n.split.at_.2.2 y w→df bM n.kids vk w→df dk n.pf vp w→
 Calls Tryz.prog 45 #[.agg #[vl,I n.split.kd,I n.split.ix,B n.split.at_.1,x,y,vk,B n.empty,vp]] w (bE fun r w'=>aI w w'∧r=B (fv n&&i0 n))
def qg (base:Nat) (c:wv) (r:Value) (w:World):Prop:=∃v,r=.tuple #[v,I (oT c).2]∧cG base (oT c).1 v w
theorem qg.err {base:Nat} {c:wv} {w:World} {n:Int} (h:oT c=([],n)):qg base c (.tuple #[.slice none 0 0,I n]) w:=⟨_,by rw[h],by rw[h];exact cG.nil _ _⟩
theorem qg.ok {base:Nat} {c:wv} {w:World} {l:List UInt8} {v:Value} (h:oT c=(l,0)) (o:cG base l v w):qg base c (.tuple #[v,I 0]) w:=⟨v,by rw[h],by rw[h];exact o⟩
theorem Iq {d:List UInt8} {ts:List aP} (h:(ts.all fun n=>fv n&&i0 n)=false):oT (d,ts)=([],1):=by unfold oT;rw[h];rfl
theorem E1 {d:List UInt8} {ts:List aP} (h:(ts.all fun n=>fv n&&i0 n)=true) (h2:4194304<(eF ts).length):oT (d,ts)=([],8):=by unfold oT;rw[if_pos h,if_pos h2]
theorem Hm {d:List UInt8} {ts:List aP} (h:(ts.all fun n=>fv n&&i0 n)=true) (h2:¬4194304<(eF ts).length) (h3:1048576<(eS d (bS (eF ts))).length):oT (d,ts)=([],8):=by unfold oT;rw[if_pos h,if_neg h2,if_pos h3]
theorem Dl {d:List UInt8} {ts:List aP} (h:(ts.all fun n=>fv n&&i0 n)=true) (h2:¬4194304<(eF ts).length) (h3:¬1048576<(eS d (bS (eF ts))).length):oT (d,ts)=(eS d (bS (eF ts)),0):=by unfold oT;rw[if_pos h,if_neg h2,if_neg h3]
theorem qh {w:World} {d:List UInt8} {ts:List aP} {tv:Value} (hd:d.length=32) (ht:df bM ts tv w) (hperm:∀n∈ts,JN w n) (hw:∀n∈ts,wN n) (hb:(eF ts).length≤1099511627776):
 Calls Tryz.prog 17 #[.agg (gk d tv).toArray] w (bE fun r w'=>aI w w'∧qg w.heap.size (d,ts) r w'):=by
 refine enter (vs:=[.agg (gk d tv).toArray]) Tryz.func17 Ll Ll Ll ?_
 have hll:=ht.len
 have hpl:(eF ts).length=(uv ts.length).length+(ts.flatMap dO).length:=by simp only[eF,List.length_append]
 refine af (aa ?_)
 obtain⟨g1,w1,hr1,l1,x1,k1⟩:=dc (P:=Tryz.prog) (w:=w) (T:=25) (cs:=gk d tv)
 refine cL Ll Ll hr1 ?_
 have c1:=uE k1 hd
 refine ac Ll Ll (ac Ll Ll (ag (ab (af (af (aa ?_))))))
 refine ah Ll Ll lS ?_
 refine am Ll Ll (aj KR Ll c1) (aQ Ll Ll (bR KR (ht.ext x1)) (ae Ll Ll (ag (ab ?_))))
 refine ax ?_
 refine bZ (α:=Nat) (fun i=>[(1,.pointer (some ⟨g1,0,none⟩)),(12,tv),(13,I (ts.length:Int)),(14,I (i:Int))]) (fun i w'=>aI w w'∧aI w1 w'∧i≤ts.length∧(ts.all fun n=>fv n&&i0 n)=((ts.drop i).all fun n=>fv n&&i0 n)) (fun i=>ts.length-i) (0) ⟨rfl,rfl,rfl,rfl,trivial⟩ ⟨x1,aI.refl _,by omega,rfl⟩ ?_
 rintro i wL ⟨eL,e1L,hi,hall⟩
 refine af (aa (ai Ll Ll Ll (aW) (ag (ab (af ?_)))))
 refine bi Ll (fun h15=>?_) (fun h15=>?_)
 ·refine ar (ab (af (ax (af (aa ?_)))))
  obtain⟨a16,c16,p16,q16,h16⟩:=dN (P:=Tryz.prog) (sz:=9) KR (by kernel_rfl) bD (by omega) ht (i:=i) (by omega) .i64
  obtain⟨e16,he16⟩:∃e,e=ts[i]'(by omega):=⟨_,rfl⟩
  rw[←he16] at h16
  obtain⟨x16_0,x16_1,x16_2,x16_3,x16_4,rfl,f16_0,f16_1,f16_2,f16_3,f16_4⟩:=dY h16
  refine aA Ll Ll Ll (p16 _) ?_
  have hmem:e16∈ts:=by rw[he16];exact List.getElem_mem _
  refine am Ll Ll ((q16.ext eL).ld KM Ll (by kernel_rfl)) ?_
  obtain⟨g5,w5,hr5,l5,x5,k5⟩:=be (P:=Tryz.prog) (w:=wL) (t:=83) (z:=.agg #[.slice none 0 0,I 0,I 0,B false,.slice none 0 0,.slice none 0 0,.slice none 0 0,B false,.slice none 0 0]) (l:=[.slice none 0 0,I 0,I 0,B false,.slice none 0 0,.slice none 0 0,.slice none 0 0,B false,.slice none 0 0]) (by kernel_rfl) rfl
  refine bf Ll hr5 ?_
  obtain⟨w3_3,s3_3,q3_3,k3_3⟩:=k5.stS (P:=Tryz.prog) (t:=83) (m:=[x16_0,I e16.split.kd,I e16.split.ix,B e16.split.at_.1,x16_1,x16_2,x16_3,B e16.empty,x16_4]) rfl (by kernel_rfl) (aD.cons f16_0.one (aD.cons rfl (aD.cons rfl (aD.cons rfl (aD.cons f16_1.one (aD.cons f16_2.one (aD.cons f16_3.one (aD.cons rfl (aD.cons f16_4.one aD.nil)))))))))
  refine aq Ll Ll s3_3 ?_
  have x3_3:=aI.of_new (x5) q3_3 l5
  refine ag (ab (af (aa (am Ll Ll (k3_3.ld KM Ll (by kernel_rfl)) (an B7 Ll Ll ((hperm e16 hmem ((eL.trans x3_3)) (f16_0.ext (eL.trans x3_3)) (f16_1.ext (eL.trans x3_3)) (f16_2.ext (eL.trans x3_3)) (f16_3.ext (eL.trans x3_3)) (f16_4.ext (eL.trans x3_3)))) ?_)))))
  rintro v19 w19 ⟨x19,rfl⟩
  refine bI Ll Ll bK (ag (ab ?_))
  refine fS Ll (fun h20=>?_) (fun h20=>?_)
  ·have hno:(fv (ts[i]'(by omega))&&i0 (ts[i]'(by omega)))=false:=by rw[←he16];rw[Bool.not_eq_true'] at h20;exact h20
   refine af (aa (ac Ll Ll (ac Ll Ll (ag (ab (av (aV (au (au (aV (au (aM Ll Ll Ll ?_))))))))))))
   exact⟨_,rfl,((eL.trans x3_3).trans x19),qg.err (Iq (qY (p:=fun n=>fv n&&i0 n) (by omega) hall hno))⟩
  ·have hyes:(fv (ts[i]'(by omega))&&i0 (ts[i]'(by omega)))=true:=by rw[←he16];rw[Bool.not_eq_false'] at h20;exact h20
   refine ar (aJ (ab (aa (ai (r:=I ((i+1:Nat):Int)) Ll Ll Ll (by have e:((i+1:Nat):Int)=(i:Int)+1:=(by omega);rw[e];exact aK (by omega) (by omega)) ?_))))
   refine ae Ll Ll (ag ?_)
   refine bQ (i+1) ⟨rfl,rfl,rfl,rfl,trivial⟩ ⟨((eL.trans x3_3).trans x19),((e1L.trans x3_3).trans x19),by omega,uF (p:=fun n=>fv n&&i0 n) (by omega) hall hyes⟩ (by omega)
 ·refine aY (aB (aB (aX (ab (af ?_)))))
  have hav:=pY (p:=fun n=>fv n&&i0 n) (by omega) hall
  have c1L:=e1L.cell_some c1
  have htL:=ht.ext eL
  refine aa ?_
  refine bm (vs:=[]) (r:=.agg #[en]) Ll Ll (run_build _ _ _ _ (by kernel_rfl)) ?_
  obtain⟨g6,w6,hr6,l6,x6,k6⟩:=dc (P:=Tryz.prog) (w:=wL) (T:=95) (cs:=[en])
  refine cL Ll Ll hr6 ?_
  have hW6:fH 95 w.heap.size g6 [] en w6:=fH.mk1 eL (cG.nil _ _) x6 l6 k6
  have c16:=x6.cell_some c1L
  refine ac Ll Ll (ag (ab (af (aa (ae Ll Ll ?_)))))
  refine ah Ll Ll lS ?_
  refine am Ll Ll (aj KR Ll c16) ?_
  refine aQ Ll Ll (bR (f:=bM) KR (ht.ext ((eL.trans x6)))) ?_
  refine an lT Ll Ll ((lV hW6 ((eL.trans x6)).size (by simp) (by omega))) ?_
  rintro v28 w28 ⟨v28,hW28,st28⟩
  have x28:=st28.ext ((eL.trans x6)) hW6.ge hW6.new
  have n16:¬(g1=g6∨en.ownBlock=some g1):=by
   rintro(h|h)
   ·have:=k1.lt;have:=e1L.size;omega
   ·cases h
  have k16:=(k1.ext e1L).ext x6
  have k128:=st28.mv.blk k16 n16
  have n128:=st28.off n16 k16.lt
  have c128:=uE k128 hd
  rw[List.nil_append] at hW28
  refine ag (ab (af (af (aa ?_))))
  refine ah Ll Ll lS ?_
  refine am Ll Ll (aj KR Ll c128) ?_
  refine aQ Ll Ll (bR (f:=bM) KR (ht.ext (x28))) ?_
  refine ae Ll Ll (ag (ab (ax ?_)))
  refine f4 (fun(i:Nat) (u:Value)=>[(1,.pointer (some ⟨g1,0,none⟩)),(6,.pointer (some ⟨g6,0,none⟩)),(30,tv),(31,I (ts.length:Int)),(32,I (i:Int))]) (fun(i:Nat) (u:Value) w'=>fH 95 w.heap.size g6 (uv ts.length++(ts.take i).flatMap dO) u w'∧aI w w'∧cd g1 25 (gk d tv) w'∧¬(g1=g6∨u.ownBlock=some g1)∧i≤ts.length∧(i=0∨(uv ts.length++(ts.take i).flatMap dO).length≤4194304)) (fun(i:Nat) (u:Value)=>ts.length-i) (0) (v28) ⟨rfl,rfl,rfl,rfl,rfl,trivial⟩ ⟨by simpa using hW28,x28,k128,n128,by omega,.inl rfl⟩ ?_
  rintro i u wM ⟨hW1,eM,kM,nM,hi2,hlim⟩
  refine af (aa (ai Ll Ll Ll (aW) (ag (ab (af ?_)))))
  refine bi Ll (fun h33=>?_) (fun h33=>?_)
  ·refine ar (ab (af (ax (af (aa ?_)))))
   obtain⟨a34,c34,p34,q34,h34⟩:=dN (P:=Tryz.prog) (sz:=9) KR (by kernel_rfl) bD (by omega) ht (i:=i) (by omega) .i64
   obtain⟨e34,he34⟩:∃e,e=ts[i]'(by omega):=⟨_,rfl⟩
   rw[←he34] at h34
   obtain⟨x34_0,x34_1,x34_2,x34_3,x34_4,rfl,f34_0,f34_1,f34_2,f34_3,f34_4⟩:=dY h34
   refine aA Ll Ll Ll (p34 _) ?_
   have hfl:=jV (f:=dO) (l:=ts) (i:=i) (by omega)
   rw[←he34] at hfl
   have hmem:e34∈ts:=by rw[he34];exact List.getElem_mem _
   refine am Ll Ll ((q34.ext eM).ld KM Ll (by kernel_rfl)) ?_
   obtain⟨g8,w8,hr8,l8,x8,k8⟩:=be (P:=Tryz.prog) (w:=wM) (t:=83) (z:=.agg #[.slice none 0 0,I 0,I 0,B false,.slice none 0 0,.slice none 0 0,.slice none 0 0,B false,.slice none 0 0]) (l:=[.slice none 0 0,I 0,I 0,B false,.slice none 0 0,.slice none 0 0,.slice none 0 0,B false,.slice none 0 0]) (by kernel_rfl) rfl
   refine bf Ll hr8 ?_
   obtain⟨w11_3,s11_3,q11_3,k11_3⟩:=k8.stS (P:=Tryz.prog) (t:=83) (m:=[x34_0,I e34.split.kd,I e34.split.ix,B e34.split.at_.1,x34_1,x34_2,x34_3,B e34.empty,x34_4]) rfl (by kernel_rfl) (aD.cons f34_0.one (aD.cons rfl (aD.cons rfl (aD.cons rfl (aD.cons f34_1.one (aD.cons f34_2.one (aD.cons f34_3.one (aD.cons rfl (aD.cons f34_4.one aD.nil)))))))))
   refine aq Ll Ll s11_3 ?_
   have x11_3:=aI.of_new (x8) q11_3 l8
   refine ag (ab (af (aa (ae Ll Ll (am Ll Ll (k11_3.ld Tryz.underlying83 Ll (by kernel_rfl)) (an nh Ll Ll ((nk _ (Nat.le_refl _) ((eM.trans x11_3)) (hW1.ext x11_3) f34_0 f34_1 f34_2 f34_3 f34_4 (hw e34 hmem) (by simp only[List.length_append];omega))) ?_))))))
   rintro v38 w38 ⟨v38,hW38,st38⟩
   have x38:=st38.ext ((eM.trans x11_3)) hW1.ge hW1.new
   have kM2:=st38.mv.blk (kM.ext x11_3) nM
   have nM2:=st38.off nM (kM.ext x11_3).lt
   have kg:=hW38.blk
   have hlen:(uv ts.length++(ts.take (i+1)).flatMap dO).length=(uv ts.length++(ts.take i).flatMap dO++dO e34).length:=by rw[eg (by omega),←he34,←List.append_assoc]
   have hle:(uv ts.length++(ts.take (i+1)).flatMap dO).length≤(eF ts).length:=by
    have:=uG (f:=dO) ts (i+1)
    rw[hpl,List.length_append];omega
   have b38:cm (uv ts.length++(ts.take i).flatMap dO++dO e34) v38 w38:=hW38.row.bts
   refine ag (ab (af (aa (ae Ll Ll (aH Ll Ll ?_)))))
   refine ah Ll Ll il ?_
   refine am Ll Ll (aj KQ Ll kg.k0) ?_
   refine aQ Ll Ll (bC b38) ?_
   refine ai Ll Ll Ll (ck) (ag (ab ?_))
   refine bi Ll (fun h44=>?_) (fun h44=>?_)
   ·refine af (aa (ac Ll Ll (ac Ll Ll (ag (ab (av (aV (au (au (aV (au (aM Ll Ll Ll ?_))))))))))))
    exact⟨_,rfl,x38,qg.err (E1 hav (by omega))⟩
   ·refine ar (aJ (ab (aa (ai (r:=I ((i+1:Nat):Int)) Ll Ll Ll (by have e:((i+1:Nat):Int)=(i:Int)+1:=(by omega);rw[e];exact aK (by omega) (by omega)) ?_))))
    refine ae Ll Ll (ag ?_)
    refine d9 (i+1) (v38) ⟨rfl,rfl,rfl,rfl,rfl,trivial⟩ ⟨by rw[eg (by omega),←he34,←List.append_assoc];exact hW38,x38,kM2,nM2,by omega,.inr (by omega)⟩ (by omega)
  ·refine aY (aB (aB (aX (ab (af ?_)))))
   rw[List.take_of_length_le (by omega)] at hW1 hlim
   have hbod:(eF ts).length≤4194304:=by
    rcases hlim with h|h
    ·have:ts=[]:=List.eq_nil_of_length_eq_zero (by omega)
     subst this
     decide
    ·exact h
   have hW1:fH 95 w.heap.size g6 (eF ts) u wM:=hW1
   obtain⟨v46,w46a,w46,hr46,hc46,x46,b46,ad,hv46,had,hlt⟩:=Gp (w:=wM) (t:=28) Tryz.underlying28 [82,76,85,67] (by simp) (by simp)
   refine aa ?_
   refine aO (vs:=[(0,U8 82),(1,U8 76),(2,U8 85),(3,U8 67)]) Ll Ll hr46 ?_
   refine aR Ll Ll hc46 ?_
   have e46:=eM.trans x46
   have k46:=kM.ext x46
   have row46:IS w.heap.size [82,76,85,67] v46 w46:=.inr ⟨b46,ad,hv46⟩
   obtain⟨v50,w50,hr50,o50,x50⟩:=xH (ty:=28) e46 row46 (Dk k46 hd) (by omega) (by simp[hd])
   have i50:aI w46 w50:=by
    obtain⟨_,w5,hr5,_,x5⟩:=xH (ty:=28) (aI.refl w46) (.inr ⟨b46,ad,hv46⟩) (Dk k46 hd) (by omega) (by simp[hd])
    have:=hr5.symm.trans hr50
    simp only[Result.ok.injEq] at this
    rw[←this.2];exact x5
   refine ah Ll Ll uD ?_
   refine cw Ll Ll Ll Ll Ll uC ?_
   refine bc Ll Ll hr50 ?_
   have hW50:=hW1.ext (x46.trans i50)
   have kg:=hW50.blk
   have b50:=hW50.row.bts
   refine ac Ll Ll (ag (ab (af (aa (ae Ll Ll (ae Ll Ll (aH Ll Ll ?_)))))))
   refine ah Ll Ll il ?_
   refine am Ll Ll (aj KQ Ll kg.k0) (an uj Ll Ll ((um b50 (by omega))) ?_)
   rintro v56 w56 ⟨x56,b56⟩
   have hpk:=lM (d:=eF ts) (by omega)
   have hpp:1≤(bS (eF ts)).length:=by unfold bS;rw[List.length_append];have:=xq (eF ts).length;omega
   obtain⟨v57,w57,hr57,o57,g57⟩:=dn (ty:=28) (o50.ext x56) b56 (by simp only[List.length_append,List.length_cons,List.length_nil];omega) (((e46.trans i50).trans x56)).size
   have x57:=aI.of_grew (((e46.trans i50).trans x56)) g57 (o50.ext x56).ge
   refine bc Ll Ll hr57 ?_
   have b57:cm (gb++d++bS (eF ts)) v57 w57:=o57.bts
   refine ac Ll Ll (ag (ab (af (aa (ae Ll Ll (an wt Ll Ll ((wu b57)) ?_))))))
   rintro v59 w59 ⟨x59,rfl⟩
   obtain⟨g10,w10,hr10,l10,x10,k10⟩:=be (P:=Tryz.prog) (w:=w59) (t:=22) (l:=(List.replicate 32 0).map U8) m0 rfl
   refine bf Ll hr10 ?_
   obtain⟨w11,s11,q11,k11⟩:=k10.stS (P:=Tryz.prog) (t:=22) (m:=(je (gb++d++bS (eF ts))).map U8) (by simp[dF]) (by rw[List.length_map,dF];exact j5) (kY _)
   refine aq Ll Ll s11 ?_
   have x11:=x10.of_new q11 l10
   have b32:cm (je (gb++d++bS (eF ts))) (.slice (some ⟨g10,0,none⟩) 32 32) w11:=by
    have:=k11.bts (by rw[dF];omega)
    rwa [dF] at this
   refine ag (ab (af (af (aa (ae Ll Ll (cw Ll Ll Ll Ll Ll (uC) ?_))))))
   have o57':cG w.heap.size (gb++d++bS (eF ts)) v57 w11:=o57.ext ((x59.trans x11))
   have hsl:=kQ (d:=d) (p:=bS (eF ts)) hd
   obtain⟨v62,w62,hr62,o62,g62⟩:=dn (ty:=28) o57' b32 (by simp only[List.length_append,hd,dF,show gb.length=4 from rfl];omega) (((x57.trans x59).trans x11)).size
   have x62:=aI.of_grew (((x57.trans x59).trans x11)) g62 o57'.ge
   refine bc Ll Ll hr62 ?_
   have o62:cG w.heap.size (eS d (bS (eF ts))) v62 w62:=o62
   have b62:=o62.bts
   refine ac Ll Ll (ag (ab (af (aa (ae Ll Ll ?_)))))
   refine aQ Ll Ll (bC b62) ?_
   refine ai Ll Ll Ll (ck) (ag (ab ?_))
   refine bi Ll (fun h65=>?_) (fun h65=>?_)
   ·refine af (aa (ac Ll Ll (ac Ll Ll (ag (ab (av (au (aM Ll Ll Ll ?_))))))))
    exact⟨_,rfl,x62,qg.err (Hm hav (by omega) (by omega))⟩
   ·refine ar (ab (af (aa (ae Ll Ll (ac Ll Ll (ac Ll Ll (ag (ab (av (aM Ll Ll Ll ?_))))))))))
    exact⟨_,rfl,x62,qg.ok (Dl hav (by omega) (by omega)) o62⟩
end Go.Rl
namespace Go.Rl
open Go.RowKit Go.Proofs
theorem qi:ay Tryz.prog 15:=⟨_,Tryz.func15,by kernel_rfl,rfl⟩
theorem Ca:ay Tryz.prog 22:=⟨_,Tryz.func22,by kernel_rfl,rfl⟩
def rR:List UInt8:=eS im (bS (eF []))
theorem pk0:pk [0] 0 0=[1,0]:=by
 rw[qS (by decide) (by rfl),j4 (by decide)]
 rfl
theorem Ir:bS (eF [])=[1,1,0]:=by
 show uv 1++pk [0] 0 0=_
 rw[pk0];rfl
theorem nO:rR.length=71:=by unfold rR;rw[kQ rfl,Ir];rfl
theorem Cb:rR.take 4=[82,76,85,67]:=uB
theorem KE:oT (im,[])=(rR,0):=Dl rfl (by decide) (by show ¬1048576<rR.length;rw[nO];omega)
theorem KF:jM rR=((im,[]),0):=by
 have h:=wy (d:=im) (body:=eF []) rfl (by decide) (by show rR.length≤1048576;rw[nO];omega)
 have ht:uy (eF [])=some []:=uA (by rfl)
 rw[ht] at h
 exact h
def Dm:aP:=.mk [] uN [] true []
theorem wB:dO Dm=[1,0,0]:=by rfl
theorem It:wN Dm:=by
 simp only[Dm,wN,IT,and_true]
 exact⟨fun _ h=>(by simp at h),⟨by show nE 0;unfold nE;omega,by show nE 0;unfold nE;omega⟩,fun _ h=>by simp at h⟩
theorem qj {w:World}:Calls Tryz.prog 15 #[] w (bE fun r w'=>aI w w'∧r=B true):=by
 refine enter (vs:=[]) Tryz.func15 Ll Ll Ll ?_
 refine af (aa (ac Ll Ll (ag (ab (af (aa ?_))))))
 refine bm (vs:=[]) (r:=.agg (gk im en).toArray) Ll Ll du ?_
 refine an p7 Ll Ll ((qh (d:=im) (ts:=[]) Ll (df.nil _ _) (fun _ h=>by simp at h) (fun _ h=>by simp at h) (by decide))) ?_
 rintro v7 w7 ⟨x7,v8,rfl,o8⟩
 rw[KE] at o8
 rw[KE]
 have b8:cm rR v8 w7:=o8.bts
 refine ae Ll Ll (ak Ll Ll (aT) (ak Ll Ll (aU) (ac Ll Ll (ac Ll Ll (ag (ab (af (aa (ae Ll Ll (an pZ Ll Ll ((p6 b8)) ?_))))))))))
 rintro v12 w12 ⟨x12,v13,rfl,r13⟩
 rw[KF] at r13
 rw[KF]
 have h13:df bM [] v13 w12:=r13.rp
 refine ae Ll Ll (ak Ll Ll (aT) (ak Ll Ll (aU) ?_))
 obtain⟨g3,w3,hr3,l3,x3,k3⟩:=be (P:=Tryz.prog) (w:=w12) (t:=25) (z:=.agg (gk im en).toArray) (l:=gk im en) qX rfl
 refine bf Ll hr3 ?_
 obtain⟨w4,s4,q4,k4⟩:=fw (d:=im) (v:=v13) k3 rfl rfl h13.one
 refine aq Ll Ll s4 ?_
 have x4:=aI.of_new x3 q4 l3
 refine ac Ll Ll (ag (ab (af (aa (bm (vs:=[(3,B true)]) (r:=.agg #[.slice none 0 0,I 0,I 0,B false,.slice none 0 0,.slice none 0 0,.slice none 0 0,B true,.slice none 0 0]) Ll Ll (by exact run_build _ _ _ _ (by kernel_rfl)) ?_)))))
 refine an BZ Ll Ll ((B1 (n:=Dm) (b:=[]) (cm.nil _) (df.nil _ _) (Sl.nil _ _) (Sl.nil _ _) (df.nil _ _) (df.nil _ _) It (by rw[wB];decide))) ?_
 rintro v16 w16 ⟨x16,b16⟩
 rw[wB,List.nil_append] at b16
 refine aR (r:=S [1,0,0]) Ll Ll (nT b16) ?_
 refine ai (v:=S [1,0,0]) Ll Ll Ll (cg Ll xd) (ae Ll Ll (al Ll (ae Ll Ll (al Ll (ai Ll Ll Ll (cg Ll aZ) (aw Ll Ll Ll ?_))))))
 refine ae Ll Ll (al Ll (ae Ll Ll (al Ll (aQ (r:=I 71) Ll Ll ((by have h:=bC (ty:=3) (b8.ext ((x12.trans x4).trans x16));rw[nO] at h;exact h)) ?_))))
 refine al Ll (ai Ll Ll Ll (cg Ll aZ) (aw Ll Ll Ll (ae Ll Ll (al Ll (ae Ll Ll (al Ll ?_))))))
 obtain⟨v30,p30,b30⟩:=ie (b8.ext ((x12.trans x4).trans x16)) (hi:=4) (by rw[nO];omega) .i64
 refine cw Ll Ll Ll Ll Ll (p30 _) ?_
 rw[Cb] at b30
 refine al Ll ?_
 refine aR (r:=S [82,76,85,67]) Ll Ll (nT b30) ?_
 refine al Ll (ai (v:=S [82,76,85,67]) Ll Ll Ll (cg Ll xd) (aw Ll Ll Ll (ae Ll Ll (al Ll (ae Ll Ll (al Ll (ai Ll Ll Ll (cg Ll aZ) ?_)))))))
 refine aw Ll Ll Ll ?_
 have c4:=uE (k4.ext x16) yt
 have h4:=h13.ext (x4.trans x16)
 refine ae Ll Ll (al Ll ?_)
 refine ah Ll Ll lS ?_
 refine al Ll (am Ll Ll (aj KR Ll c4) (al Ll ?_))
 refine aQ (r:=I 0) Ll Ll (bR (f:=bM) (l:=[]) KR h4) ?_
 refine al Ll (ai Ll Ll Ll (cg Ll aZ) (aw Ll Ll Ll (ac Ll Ll (ag (ab (av (aG Ll Ll ?_)))))))
 exact⟨_,rfl,(((x7.trans x12).trans x4).trans x16),rfl⟩
theorem Cc {w:World} {d p:List UInt8} {pv:Value} (hd:d.length=32) (hp:cm p pv w) (hl:p.length≤1099511627776-100):
 Calls Tryz.prog 22 #[.agg (d.map U8).toArray,pv] w (bE fun r w'=>aI w w'∧cG w.heap.size (eS d p) r w'):=by
 refine enter (vs:=[.agg (d.map U8).toArray,pv]) Tryz.func22 Ll Ll Ll ?_
 refine af (aa ?_)
 obtain⟨g2,w2,hr2,l2,x2,k2⟩:=dc (P:=Tryz.prog) (w:=w) (T:=22) (cs:=d.map U8)
 refine cL Ll Ll hr2 ?_
 refine ac Ll Ll (ag (ab (af (aa ?_))))
 obtain⟨v7,w7a,w7,hr7,hc7,x7,b7,ad,hv7,had,hlt⟩:=Gp (w:=w2) (t:=28) Tryz.underlying28 [82,76,85,67] (by simp) (by simp)
 refine aO (vs:=[(0,U8 82),(1,U8 76),(2,U8 85),(3,U8 67)]) Ll Ll hr7 ?_
 refine aR Ll Ll hc7 ?_
 have e7:=x2.trans x7
 have bd:cm d (.slice (some ⟨g2,0,none⟩) 32 32) w7:=by
  have:=(k2.ext x7).bts (by rw[hd];omega)
  rwa [hd] at this
 obtain⟨v10,w10,hr10,o10,x10⟩:=xH (ty:=28) e7 (.inr ⟨b7,ad,hv7⟩) bd (by omega) (by simp[hd])
 have hp10:=hp.ext x10
 refine cw Ll Ll Ll Ll Ll (uC) ?_
 refine bc Ll Ll hr10 ?_
 refine ae Ll Ll ?_
 obtain⟨v12,w12,hr12,o12,g12⟩:=dn (ty:=28) o10 hp10 (by simp only[List.length_append,List.length_cons,List.length_nil];omega) (x10).size
 have x12:=aI.of_grew (x10) g12 o10.ge
 refine bc Ll Ll hr12 ?_
 have b12:cm (gb++d++p) v12 w12:=o12.bts
 have hl12:(gb++d++p).length=36+p.length:=by simp only[List.length_append,hd,show gb.length=4 from rfl]
 refine ac Ll Ll (ag (ab (af (aa (ae Ll Ll (an wo Ll Ll ((wq b12 (by omega))) ?_))))))
 rintro v14 w14 ⟨x14,rfl⟩
 obtain⟨g6,w6,hr6,l6,x6,k6⟩:=be (P:=Tryz.prog) (w:=w14) (t:=22) (l:=(List.replicate 32 0).map U8) m0 rfl
 refine bf Ll hr6 ?_
 obtain⟨w11,s11,q11,k11⟩:=k6.stS (P:=Tryz.prog) (t:=22) (m:=(je (gb++d++p)).map U8) (by simp[dF]) (by rw[List.length_map,dF];exact j5) (kY _)
 refine aq Ll Ll s11 ?_
 have x11:=x6.of_new q11 l6
 have b32:cm (je (gb++d++p)) (.slice (some ⟨g6,0,none⟩) 32 32) w11:=by
  have:=k11.bts (by rw[dF];omega)
  rwa [dF] at this
 refine ag (ab (af (aa (ae Ll Ll (cw Ll Ll Ll Ll Ll (uC) ?_)))))
 have o12':cG w.heap.size (gb++d++p) v12 w11:=o12.ext ((x14.trans x11))
 obtain⟨v17,w17,hr17,o17,g17⟩:=dn (ty:=28) o12' b32 (by rw[hl12,dF];omega) (((x12.trans x14).trans x11)).size
 have x17:=aI.of_grew (((x12.trans x14).trans x11)) g17 o12'.ge
 refine bc Ll Ll hr17 ?_
 refine ac Ll Ll (ag (ab (av (aG Ll Ll ?_))))
 exact⟨_,rfl,x17,o17⟩
end Go.Rl
namespace Go.Rl
open Go.RowKit Go.Proofs
def sQ (q:fQ):Prop:=q.2.1.length≤1073741824∧q.2.2.length≤1073741824
def sP (l:List dl):Prop:=∀m∈l,sQ m.co
def sL (m:fB):Prop:=sQ m.va∧sP m.pf
mutual
def sN:aP→Prop
 |.mk lems sp kids _ pf=>(∀m∈lems,sL m)∧sQ sp.at_∧sP pf∧KG kids
def KG:List aP→Prop
 |[]=>True
 |n::l=>sN n∧KG l
end
theorem Dn:∀l:List aP,KG l↔∀n∈l,sN n
 |[]=>by simp[KG]
 |n::l=>by simp only[KG,Dn l,List.mem_cons,forall_eq_or_imp]
theorem yx (n:aP):sN n↔(∀m∈n.lems,sL m)∧sQ n.split.at_∧sP n.pf∧∀k∈n.kids,sN k:=by
 cases n with
 |mk l s k e p=>simp only[sN,Dn];rfl
end Go.Rl
namespace Go.Rl
open Go.RowKit Go.Proofs
end Go.Rl
namespace Go.Rl
open Go.RowKit Go.Proofs
end Go.Rl
namespace Go.Rl
open Go.RowKit Go.Proofs
def mQ (m:dl):Nat:=1+m.co.2.1.length+m.co.2.2.length
def mP (l:List dl):Nat:=(l.map mQ).sum
def mL (m:fB):Nat:=m.va.2.1.length+m.va.2.2.length+mP m.pf
end Go.Rl
namespace Go.Rl
open Go.RowKit Go.Proofs
end Go.Rl
namespace Go.Rl
open Go.ChangeShapes Go.WideShapes Go.ChangeAt Go.RowKit Go.Proofs
theorem Hn {W:World}:∀(l:List UInt8) {cs:List Value},bw W (l.map dU8) cs→cs=l.map U8
 |[],cs,h=>by simpa only[List.map_nil,bw] using h
 |a::l,cs,h=>by
  simp only[List.map_cons,bw,dU8,Rp] at h
  obtain⟨c1,c2,rfl,rfl,h2⟩:=h
  rw[Hn l h2]
  rfl
section
variable {H:Type} {enc:TypeId×Value→H} {W:World} {base:Nat} {spare:Nat→Bool} {held:Bool} {r:Reach} {b0:Nat} {v:Value} {d:DataW H} {ps:List MemPlace}
set_option maxRecDepth 100000 in
theorem KH (ho:Value.okWide Tryz.prog W r b0 22 v) (h:DataW.Trod enc Tryz.prog W base spare held 22 v d ps):∃l:List UInt8,v=.agg (l.map U8).toArray∧l.length=32:=by
 have ho':∃cs,v=.agg cs:=by
  simp only[Value.okWide,Tryz.underlying22] at ho
  obtain⟨cs,h1,_⟩:=ho
  exact⟨cs,h1⟩
 obtain⟨cs,rfl⟩:=ho'
 obtain⟨h1,h2⟩:=Jb (ts:=[22,5]) (by kernel_rfl) (by kernel_rfl) h
 obtain⟨l,hd,hl⟩:=h2.inv_arr (f:=dU8) La fun _ hx=>hx.inv_u8 KS
 rw[hd] at h1
 simp only[Rp] at h1
 have:=Hn l h1
 refine⟨l,?_,hl⟩
 show Value.agg cs=_
 have h3:cs.toList=l.map U8:=this
 rw[←h3]
end
end Go.Rl
namespace Go.Rl
open Go.RowKit
section
variable {α β:Type} {f:List UInt8→Option (α×List UInt8)} {g:α→List UInt8→Option (β×List UInt8)} {st s1 s2:Option (List UInt8)} {ok ok1 ok2:Bool} {a:α} {b:β}
end
end Go.Rl
namespace Go.Rl
open Go.RowKit Go.Proofs
section
variable {B:Nat}
end
end Go.Rl
namespace Go.Rl
open Go.RowKit Go.Proofs
theorem aD.append {a b:List Value} (h:aD a) (k:aD b):aD (a++b):=fun v hv=>(List.mem_append.1 hv).elim (h v) (k v)
mutual
theorem Iu {w:World}:∀{d:Dt} {cs:List Value},Rp w d cs→aD cs
 |.int k n,cs,h=>by simp only[Rp] at h;subst h;exact aD.cons rfl aD.nil
 |.bool b,cs,h=>by simp only[Rp] at h;subst h;exact aD.cons rfl aD.nil
 |.str l,cs,h=>by simp only[Rp] at h;subst h;exact aD.cons rfl aD.nil
 |.sl l,cs,h=>by
  simp only[Rp] at h
  obtain⟨A,n,c,rfl,_⟩:=h
  exact aD.cons rfl aD.nil
 |.st l,cs,h=>by simp only[Rp] at h;exact oW h
theorem oW {w:World}:∀{l:List Dt} {cs:List Value},bw w l cs→aD cs
 |[],cs,h=>by simp only[bw] at h;subst h;exact aD.nil
 |d::l,cs,h=>by
  simp only[bw] at h
  obtain⟨c1,c2,rfl,h1,h2⟩:=h
  exact(Iu h1).append (oW h2)
end
section
variable {α:Type} {f:α→Dt} {l m:List α} {v x:Value} {w w0 w':World} {e t ty:TypeId} {sz base:Nat}
def gp (e:TypeId) (sz base:Nat) (f:α→Dt) (l:List α) (v:Value) (w:World):Prop:=∃n xs,w.ownsRow base e sz v n xs∧aL (fun k=>v.ownBlock=some k) w (l.map f) xs
theorem gp.nil (w:World):gp e sz base f ([]:List α) (.slice none 0 0) w:=⟨0,[],World.ownsRow_nil _ _ _ _,aL.nil⟩
theorem gp.lt (h:gp e sz base f l v w):∀k,v.ownBlock=some k→base≤k∧k<w.heap.size:=fun k hk=>by
 obtain⟨n,xs,h,_⟩:=h
 exact World.ownsRow.lt h k hk
theorem gp.ds (h:gp e sz base f l v w) (hs:∀a,(f a).size=sz) (h0:0<sz):df f l v w:=by
 obtain⟨n,xs,h1,h2⟩:=h
 exact Rp.ofSl (Sl.of_own h1) h2.rp (by simp[hs]) h0
theorem gp.ext (h:gp e sz base f l v w) (hx:aI w w'):gp e sz base f l v w':=by
 obtain⟨n,xs,h1,h2⟩:=h
 exact⟨n,xs,iV h1 hx,h2.ext hx⟩
theorem gp.stable:bt (gp e sz base f l):=fun _ _ _ h hx=>h.ext hx
theorem gp.app {P:Program} {z:Value} {bytes:Nat} (ht:P.underlying t=some (.slice e)) (hi:(P.info? e).map (fun i=>(i.zero,i.size,i.bytes))=some (some z,sz,bytes)) (hzs:z.cells.size=sz) (hsz:0<sz) (hb0:0<bytes)
 (h:gp e sz base f l v w) {cs:List Value} (hx:Sl sz cs x w) (h1:aD cs) (ha:aL (fun k=>v.ownBlock=some k) w (m.map f) cs) (hs:∀a,(f a).size=sz) (hb:(l.length+m.length)*bytes≤140737488355328) (hbase:base≤w.heap.size):
 ∃r w1,(Builtin.append_ #[t,t] ty #[v,x]).run P w=.ok r w1∧gp e sz base f (l++m) r w1∧gw w w1 v r:=by
 obtain⟨n,xs,h2,h3⟩:=h
 have hxl:xs.length=l.length*sz:=by rw[h3.len,cJ (sz:=sz) (by simp[hs]),List.length_map]
 have hcl:cs.length=m.length*sz:=by rw[ha.len,cJ (sz:=sz) (by simp[hs]),List.length_map]
 obtain⟨r,w1,n',h4,h5,h6⟩:=mz (P:=P) (ty:=ty) ht hi hzs hsz h2 hx h1 (by
  rw[hxl,hcl,←Nat.add_mul,Nat.mul_right_comm]
  exact Nat.mul_le_mul_right _ hb) hb0 hbase
 refine⟨r,w1,h4,⟨n',_,h5,?_⟩,h6⟩
 have hm:Mv (fun k=>v.ownBlock=some k) w w1:=Mv.of_grown h6.grown fun k hk _=>hk
 have hY:∀k,r.ownBlock=some k→v.ownBlock=some k∨w.heap.size≤k:=fun k hk=>by
  rcases h6.own with h7|h7
  ·rw[h7] at hk;exact .inl hk
  ·exact .inr (h7 k hk)
 rw[List.map_append]
 exact aL.append (aL.mv hm hY h3) (aL.mv hm hY ha)
theorem gp.appDs {P:Program} {z:Value} {bytes:Nat} (ht:P.underlying t=some (.slice e)) (hi:(P.info? e).map (fun i=>(i.zero,i.size,i.bytes))=some (some z,sz,bytes)) (hzs:z.cells.size=sz) (hsz:0<sz) (hb0:0<bytes)
 (h:gp e sz base f l v w) (hx:df f m x w0) (e0:aI w0 w) (hb:w0.heap.size≤base) (hs:∀a,(f a).size=sz) (hbb:(l.length+m.length)*bytes≤140737488355328) (hbase:base≤w.heap.size):
 ∃r w1,(Builtin.append_ #[t,t] ty #[v,x]).run P w=.ok r w1∧gp e sz base f (l++m) r w1∧gw w w1 v r:=by
 obtain⟨cs,h1,h2⟩:=Rp.toSl (sz:=sz) hx (by simp[hs])
 have hlt:=h.lt
 exact h.app ht hi hzs hsz hb0 (h1.ext e0) (oW h2) ((h2.x.ext e0).weak fun k hk=>.inl (by have:=(hlt k hk).1;omega)) hs hbb hbase
theorem KI {P:Program} {z:Value} (ht:P.underlying t=some (.slice e)) (hi:(P.info? e).map (fun i=>(i.zero,i.size))=some (some z,sz)):
 ∃r w1,(Instr.buildSlice t 0 #[]).run P w=.ok r w1∧aI w w1∧gp e sz w.heap.size f ([]:List α) r w1∧r.ownBlock=some w.heap.size:=by
 obtain⟨i,hi',h2⟩:=Option.map_eq_some_iff.1 hi
 simp only[Prod.mk.injEq] at h2
 obtain⟨hz0,hs⟩:=h2
 have hinfo:(typeInfo e).run P w=.ok i w:=by simp[typeInfo,hi']
 have hsz:(sizeOf e).run P w=.ok sz w:=by simp[sizeOf,hinfo,hs]
 refine⟨.slice (some ⟨w.heap.size,0,none⟩) 0 0,w.alloc (.cells #[] e),?_,aI.new w _,⟨0,[],⟨by simp,.inr ⟨_,0,#[],rfl,Nat.le_refl _,heap_alloc_new _ _,Nat.le_refl _,Nat.zero_le _,by simp,by simp⟩⟩,aL.nil⟩,rfl⟩
 have hle:¬(0*sz>2^24):=by omega
 simp only[Instr.buildSlice,Sem.run_bind,run_underlying ht,Result.andThen_ok,hsz,if_neg hle]
 rw[if_pos (by simp)]
 have hr:Array.map (fun _:Nat=>(default:Value)) (Array.range 0)= #[]:=Array.eq_empty_of_size_eq_zero (by simp)
 simp[Instr.fill,newRow,hr]
end
end Go.Rl
namespace Go.Proofs.YtaajaakbcelmfaaGreatDoor
open Go Go.RowKit Go.Rl
theorem E2:Tryz.prog.globalNamed "relucert/phase.opposites" =some 0:=by kernel_rfl
theorem Ho:(Tryz.prog.globals[0]?).map (·.type)=some 260:=by kernel_rfl
theorem Hp:Tryz.prog.cellsOf 260=5:=by kernel_rfl
theorem Hq:Tryz.prog.cellsOf 3=1:=by kernel_rfl
noncomputable def JU (os:Os):World:=
 {World.holding Tryz.prog os ⟨#[],#[],[]⟩ with heap:=(World.holding Tryz.prog os ⟨#[],#[],[]⟩).heap.modify 0 fun
  |.cells _ t frozen=>.cells #[.int .i64 0,.int .i64 2,.int .i64 1,.int .i64 4,.int .i64 3] t frozen
  |o=>o}
end Go.Proofs.YtaajaakbcelmfaaGreatDoor
namespace Go.Rl
open Go.RowKit Go.Proofs Go.Proofs.YtaajaakbcelmfaaGreatDoor
def AD (w:World):Prop:=dG w ⟨0,0,none⟩ [I 0,I 2,I 1,I 4,I 3]
theorem AD.ext {w w':World} (h:AD w) (hx:aI w w'):AD w':=fun j u hu=>hx.cell_some (h j u hu)
theorem AD.of_laid {W:World} (h:laidMetH Tryz.prog [("relucert/phase.opposites",Rows.laid_relucert_phase_opposites)] W):AD W:=fun j u hu=>by
 have hT:Lib.TabIs Tryz.prog W "relucert/phase.opposites" .i64 [0,2,1,4,3]:=Lib.tabIs_of_head (rest:=[]) E2 Ho Tryz.underlying260 KO Hq Hp h
 rw[Addr.add_mid,Nat.zero_add]
 rcases j with _|_|_|_|_|j
 ·simp only[List.getElem?_cons_zero,Option.some.injEq] at hu;subst hu;exact hT.cell E2 0 (by decide)
 ·simp only[List.getElem?_cons_succ,List.getElem?_cons_zero,Option.some.injEq] at hu;subst hu;exact hT.cell E2 1 (by decide)
 ·simp only[List.getElem?_cons_succ,List.getElem?_cons_zero,Option.some.injEq] at hu;subst hu;exact hT.cell E2 2 (by decide)
 ·simp only[List.getElem?_cons_succ,List.getElem?_cons_zero,Option.some.injEq] at hu;subst hu;exact hT.cell E2 3 (by decide)
 ·simp only[List.getElem?_cons_succ,List.getElem?_cons_zero,Option.some.injEq] at hu;subst hu;exact hT.cell E2 4 (by decide)
 ·simp at hu
end Go.Rl
namespace Go.Rl
open Go.RowKit Go.Proofs Go.Proofs.YtaajaakbcelmfaaGreatDoor
theorem E4:ay Tryz.prog 158:=⟨_,Tryz.func158,by kernel_rfl,rfl⟩
theorem nl:ay Tryz.prog 157:=⟨_,Tryz.func157,by kernel_rfl,rfl⟩
theorem Fa:ay Tryz.prog 170:=⟨_,Tryz.func170,by kernel_rfl,rfl⟩
def Fb (k:Int):Int:=if k=1 then 2 else if k=2 then 1 else if k=3 then 4 else if k=4 then 3 else k
def oY (d:ew):ew:=⟨Fb d.kd,d.ix,d.at_⟩
theorem Hr {k:Int} (h:¬(k>0∧k<5)):Fb k=k:=by
 unfold Fb
 repeat rw[if_neg (by omega)]
theorem Hs {w:World} (h:AD w) {k:Int} (h1:k>0) (h2:k<5):∃j:Nat,k=(j:Int)∧j<5∧w.cell? ⟨0,0+j,none⟩=some (I (Fb k)):=by
 have hc:∀(j:Nat) (u:Value),[I 0,I 2,I 1,I 4,I 3][j]? =some u→w.cell? ⟨0,0+j,none⟩=some u:=fun j u hu=>by
  have:=h j u hu
  rwa [Addr.add_mid] at this
 obtain⟨j,rfl⟩:∃j:Nat,k=(j:Int):=⟨k.toNat,by omega⟩
 refine⟨j,rfl,by omega,?_⟩
 have:j=1∨j=2∨j=3∨j=4:=by omega
 rcases this with rfl|rfl|rfl|rfl
 ·exact hc 1 _ rfl
 ·exact hc 2 _ rfl
 ·exact hc 3 _ rfl
 ·exact hc 4 _ rfl
theorem As:(Tryz.prog.info? 80).map (fun i=>(i.zero,i.size,i.bytes))=some (some (.agg #[I 0,I 0,B false,.slice none 0 0,.slice none 0 0]),5,72):=by kernel_rfl
theorem wC:(Tryz.prog.info? 80).map (fun i=>(i.zero,i.size))=some (some (.agg #[I 0,I 0,B false,.slice none 0 0,.slice none 0 0]),5):=by kernel_rfl
theorem Au {d:ew} (h:¬(d.kd>0∧d.kd<5)):oY d=d:=by
 unfold oY
 rw[Hr h]
theorem Fc {w:World} {d:ew} {x y:Value} (ho:AD w) (hx:bo d.at_.2.1 x w) (hy:bo d.at_.2.2 y w):
 Calls Tryz.prog 158 #[.agg #[I d.kd,I d.ix,B d.at_.1,x,y]] w (bE fun r w'=>aI w w'∧r=.agg #[I (oY d).kd,I (oY d).ix,B (oY d).at_.1,x,y]):=by
 refine enter (vs:=[.agg #[I d.kd,I d.ix,B d.at_.1,x,y]]) Tryz.func158 Ll Ll Ll ?_
 refine af (aa ?_)
 obtain⟨g1,w1,hr1,l1,x1,k1⟩:=dc (P:=Tryz.prog) (w:=w) (T:=80) (cs:=[I d.kd,I d.ix,B d.at_.1,x,y])
 refine cL Ll Ll hr1 ?_
 obtain⟨g2,w2,hr2,l2,x2,k2⟩:=be (P:=Tryz.prog) (w:=w1) (t:=80) (z:=.agg #[I 0,I 0,B false,.slice none 0 0,.slice none 0 0]) (l:=[I 0,I 0,B false,.slice none 0 0,.slice none 0 0]) (by kernel_rfl) rfl
 refine bf Ll hr2 (ag (ab (af (af (aa (ah Ll Ll (aF (o:=0) KT Ll (by kernel_rfl) Ll) (am Ll Ll (aj KO Ll (x2.cell_some (k1.cell (i:=0) Ll))) ?_)))))))
 refine ai Ll Ll Ll (ck) (ae Ll Ll ?_)
 refine cO (fun h6=>?_) (fun h6=>?_)
 ·refine al Ll (ah Ll Ll (aF (o:=0) KT Ll (by kernel_rfl) Ll) (al Ll (am Ll Ll (aj KO Ll (x2.cell_some (k1.cell (i:=0) Ll))) ?_)))
  refine al Ll (ai Ll Ll Ll (aW) (aw Ll Ll Ll (ag (ab ?_))))
  refine bi Ll (fun h10=>?_) (fun h10=>?_)
  ·have h10:d.kd<5:=h10
   obtain⟨j,hj,hj5,cj⟩:=Hs (ho.ext (x1.trans x2)) h6 h10
   refine aa (ah Ll Ll (aF (o:=0) KT Ll (by kernel_rfl) Ll) (am Ll Ll (aj KO Ll (x2.cell_some (k1.cell (i:=0) Ll))) ?_))
   refine aA (v:=.int .i64 (j:Int)) Ll (by rw[hj];rfl) Ll (yI Tryz.underlying260 (by kernel_rfl) hj5 .i64) ?_
   refine am Ll Ll (aj KO Ll cj) (ah Ll Ll (aF (o:=0) KT Ll (by kernel_rfl) Ll) ?_)
   obtain⟨w2_5,s2_5,q2_5,k2_5⟩:=(k1.ext x2).stC (P:=Tryz.prog) (t:=3) (i:=0) (v:=I (Fb d.kd)) (by kernel_rfl) rfl (by simp)
   refine aq Ll Ll s2_5 ?_
   have x2_5:=aI.of_new ((x1.trans x2)) q2_5 l1
   have k25:=k2.other q2_5 (fun e=>by have:=Option.some.inj e;have:=k1.lt;omega)
   refine ag (ab (af (aa (am Ll Ll (k2_5.ld KT Ll (by kernel_rfl)) ?_))))
   obtain⟨w3_1,s3_1,q3_1,k3_1⟩:=k25.stS (P:=Tryz.prog) (t:=80) (m:=[I (Fb d.kd),I d.ix,B d.at_.1,x,y]) rfl (by kernel_rfl) (aD.cons rfl (aD.cons rfl (aD.cons rfl (aD.cons hx.one (aD.cons hy.one aD.nil)))))
   refine aq Ll Ll s3_1 ?_
   have x3_1:=aI.of_new x2_5 q3_1 (Nat.le_trans x1.size l2)
   refine ag (ab (av ?_))
   refine dR Ll Ll k3_1 KT Ll (by kernel_rfl) ?_
   exact⟨_,rfl,x3_1,rfl⟩
  ·have h10:¬d.kd<5:=h10
   refine ar (ab (af (aa (am Ll Ll ((k1.ext x2).ld KT Ll (by kernel_rfl)) ?_))))
   obtain⟨w3_1,s3_1,q3_1,k3_1⟩:=k2.stS (P:=Tryz.prog) (t:=80) (m:=[I d.kd,I d.ix,B d.at_.1,x,y]) rfl (by kernel_rfl) (aD.cons rfl (aD.cons rfl (aD.cons rfl (aD.cons hx.one (aD.cons hy.one aD.nil)))))
   refine aq Ll Ll s3_1 ?_
   have x3_1:=aI.of_new (x2) q3_1 l2
   refine ag (ab (av ?_))
   refine dR Ll Ll k3_1 KT Ll (by kernel_rfl) ?_
   exact⟨_,rfl,(x1.trans x3_1),by rw[Au (by first|exact fun h=>h6 h.1|exact fun h=>h10 h.2)]⟩
 ·refine ao Ll Ll Ll (ao Ll Ll Ll (ao Ll Ll Ll (aC Ll Ll Ll (ag (ab (cp Ll (ar (ab (af (aa (am Ll Ll ((k1.ext x2).ld KT Ll (by kernel_rfl)) ?_)))))))))))
  obtain⟨w3_1,s3_1,q3_1,k3_1⟩:=k2.stS (P:=Tryz.prog) (t:=80) (m:=[I d.kd,I d.ix,B d.at_.1,x,y]) rfl (by kernel_rfl) (aD.cons rfl (aD.cons rfl (aD.cons rfl (aD.cons hx.one (aD.cons hy.one aD.nil)))))
  refine aq Ll Ll s3_1 ?_
  have x3_1:=aI.of_new (x2) q3_1 l2
  refine ag (ab (av ?_))
  refine dR Ll Ll k3_1 KT Ll (by kernel_rfl) ?_
  exact⟨_,rfl,(x1.trans x3_1),by rw[Au (by first|exact fun h=>h6 h.1|exact fun h=>h10 h.2)]⟩
theorem nP (d:ew):(gD d).size=5:=rfl
theorem nn {w:World} {l:List ew} {v:Value} (hv:df gD l v w) (hl:l.length≤1099511627776):
 Calls Tryz.prog 157 #[v] w (bE fun r w'=>aI w w'∧gp 80 5 w.heap.size gD l r w'):=by
 obtain⟨A,n,c,rfl⟩:=hv.isS
 refine enter (vs:=[.slice A n c]) Tryz.func157 Ll Ll Ll ?_
 refine af (aa (ac Ll Ll (ag (ab (af (af (aa (ae Ll Ll (ai Ll Ll Ll (xe Li) (ag (ab ?_)))))))))))
 refine fS Ll (fun h4=>?_) (fun h4=>?_)
 ·refine af (aa (ac Ll Ll (ag (ab (av (au (aG Ll Ll ?_)))))))
  have hA:A=none:=by simpa using h4
  have hnil:l=[]:=by
   have h:=hv
   simp only[df,Rp,List.cons.injEq,Value.slice.injEq,and_true] at h
   obtain⟨_,n',c',⟨rfl,rfl,rfl⟩,h1,h2,_,h3,_⟩:=h
   have:=h3 hA
   exact List.eq_nil_of_length_eq_zero (by rw[List.length_map] at h1;omega)
  subst hnil
  exact⟨_,rfl,aI.refl _,gp.nil _⟩
 ·refine ar (ab (af (aa ?_)))
  obtain⟨v5,w5,hr5,x5,o5,ob5⟩:=KI (P:=Tryz.prog) (w:=w) (f:=gD) Li wC
  obtain⟨v7,w7,hr7,o7,g7⟩:=o5.appDs (P:=Tryz.prog) (t:=77) (ty:=77) Tryz.underlying77 As rfl (by omega) (by omega) hv x5 (Nat.le_refl _) nP (by simp;omega) x5.size
  have x7:=aI.of_grew x5 g7 (fun k hk=>(o5.lt k hk).1)
  refine aO (vs:=[]) Ll Ll hr5 ?_
  refine ae Ll Ll ?_
  refine bc Ll Ll hr7 ?_
  refine ac Ll Ll (ag (ab (av (aG Ll Ll ?_))))
  exact⟨_,rfl,x7,by simpa using o7⟩
theorem gp.low {e:TypeId} {sz base b2:Nat} {l:List ew} {v:Value} {w:World} (h:gp e sz base gD l v w) (hb:b2≤base):gp e sz b2 gD l v w:=by
 obtain⟨n,xs,h1,h2⟩:=h
 exact⟨n,xs,ib h1 fun k hk=>Nat.le_trans hb (World.ownsRow.lt h1 k hk).1,h2⟩
theorem JO {w:World} {d:ew} {x y:Value} (hx:bo d.at_.2.1 x w) (hy:bo d.at_.2.2 y w):Rp w (gD d) [I d.kd,I d.ix,B d.at_.1,x,y]:=by
 simp only[gD,sq,Rp]
 have h3:Rp w (gi d.at_) [B d.at_.1,x,y]:=by
  simp only[gi,Rp]
  exact bw.cons (a:=[B d.at_.1]) (by simp only[Rp,B]) (bw.cons (a:=[x]) (Rp.words.2 hx) (bw.cons (b:=[]) (Rp.words.2 hy) bw.nil))
 exact bw.cons (a:=[I d.kd]) (by simp only[Rp,I]) (bw.cons (a:=[I d.ix]) (by simp only[Rp,I]) (by simpa using bw.cons h3 bw.nil))
def Ht (n:aP) (i:Int):ew:=if i=1 then oY n.split else n.split
theorem Do {w:World} {d:ew} {x y:Value}:∃r w',(Instr.buildSlice 77 1 (dT 0 [Value.agg #[I d.kd,I d.ix,B d.at_.1,x,y]]).toArray).run Tryz.prog w=.ok r w'∧aI w w'∧Sl 5 [I d.kd,I d.ix,B d.at_.1,x,y] r w':=by
 obtain⟨r,w',a,b,c,_⟩:=CN (P:=Tryz.prog) (w:=w) Tryz.underlying77 wC rfl (by omega) [[I d.kd,I d.ix,B d.at_.1,x,y]] (by simp) (by simp) (by simp)
 exact⟨r,w',a,b,c⟩
theorem gp.snoc {w0 w:World} {l:List ew} {v u x y:Value} {d:ew} (h:gp 80 5 w0.heap.size gD l v w) (e:aI w0 w) (hx:bo d.at_.2.1 x w0) (hy:bo d.at_.2.2 y w0) (hu:Sl 5 [I d.kd,I d.ix,B d.at_.1,x,y] u w) (hl:l.length≤1099511627776):
 ∃r w1,(Builtin.append_ #[77,77] 77 #[v,u]).run Tryz.prog w=.ok r w1∧df gD (l++[d]) r w1∧aI w0 w1∧gp 80 5 w0.heap.size gD (l++[d]) r w1:=by
 have hlt:=h.lt
 obtain⟨r,w1,h1,h2,h3⟩:=h.app (P:=Tryz.prog) (t:=77) (ty:=77) (m:=[d]) Li As rfl (by omega) (by omega) hu (aD.cons rfl (aD.cons rfl (aD.cons rfl (aD.cons hx.one (aD.cons hy.one aD.nil))))) (by
  have:=(((JO hx hy).x.ext e).weak (Y:=fun k=>v.ownBlock=some k) fun k hk=>.inl (hlt k hk).1)
  simpa using aL.cons this aL.nil) nP (by simp;omega) e.size
 exact⟨r,w1,h1,h2.ds nP (by omega),aI.of_grew e h3 (fun k hk=>(hlt k hk).1),h2⟩
theorem Fd {w:World} {n:aP} {path:List ew} {i:Int} {pv vl x y vk vp:Value} (ho:AD w) (hpa:df gD path pv w) (hpl:path.length≤1099511627776) (_hl:df eI n.lems vl w) (hx:bo n.split.at_.2.1 x w) (hy:bo n.split.at_.2.2 y w) (_hk:df bM n.kids vk w) (_hp:df dk n.pf vp w):
 Calls Tryz.prog 170 #[pv,.agg #[vl,I n.split.kd,I n.split.ix,B n.split.at_.1,x,y,vk,B n.empty,vp],I i] w (bE fun r w'=>aI w w'∧df gD (path++[Ht n i]) r w'):=by
 refine enter (vs:=[pv,.agg #[vl,I n.split.kd,I n.split.ix,B n.split.at_.1,x,y,vk,B n.empty,vp],I i]) Tryz.func170 Ll Ll Ll ?_
 refine af (aa ?_)
 obtain⟨g4,w4,hr4,l4,x4,k4⟩:=dc (P:=Tryz.prog) (w:=w) (T:=83) (cs:=[vl,I n.split.kd,I n.split.ix,B n.split.at_.1,x,y,vk,B n.empty,vp])
 refine cL Ll Ll hr4 (ac Ll Ll (ag (ab (af (aa (ah Ll Ll (aF (o:=1) KM Ll (by kernel_rfl) Ll) ?_))))))
 refine am rfl rfl (k4.ldO (ms:=[I n.split.kd,I n.split.ix,B n.split.at_.1,x,y]) (o:=1) (fun j v hj=>by rcases j with _|_|_|_|_|_|_|_|_|j<;>simp_all) Tryz.underlying80 rfl (by kernel_rfl)) ?_
 obtain⟨g7,w7,hr7,l7,x7,k7⟩:=be (P:=Tryz.prog) (w:=w4) (t:=80) (z:=.agg #[I 0,I 0,B false,.slice none 0 0,.slice none 0 0]) (l:=[I 0,I 0,B false,.slice none 0 0,.slice none 0 0]) (by kernel_rfl) rfl
 refine bf Ll hr7 ?_
 obtain⟨w1_3,s1_3,q1_3,k1_3⟩:=k7.stS (P:=Tryz.prog) (t:=80) (m:=[I n.split.kd,I n.split.ix,B n.split.at_.1,x,y]) rfl (by kernel_rfl) (aD.cons rfl (aD.cons rfl (aD.cons rfl (aD.cons hx.one (aD.cons hy.one aD.nil)))))
 refine aq Ll Ll s1_3 ?_
 have x1_3:=aI.of_new (x7) q1_3 l7
 refine ag (ab (af (af (aa (ae Ll Ll (ai Ll Ll Ll (aZ) (ag (ab ?_))))))))
 refine bi Ll (fun h11=>?_) (fun h11=>?_)
 ·refine aa (am Ll Ll (k1_3.ld KT Ll (by kernel_rfl)) (an E4 Ll Ll ((Fc (ho.ext ((x4.trans x1_3))) (hx.ext (x4.trans x1_3)) (hy.ext (x4.trans x1_3)))) ?_))
  rintro v13 w13 ⟨x13,rfl⟩
  obtain⟨w3_2,s3_2,q3_2,k3_2⟩:=(k1_3.ext x13).stS (P:=Tryz.prog) (t:=80) (m:=[I (oY n.split).kd,I (oY n.split).ix,B (oY n.split).at_.1,x,y]) rfl (by kernel_rfl) (aD.cons rfl (aD.cons rfl (aD.cons rfl (aD.cons hx.one (aD.cons hy.one aD.nil)))))
  refine aq Ll Ll s3_2 ?_
  have x3_2:=aI.of_new ((x1_3.trans x13)) q3_2 l7
  refine ag (ab (af (bz 4 [15,17] (by kernel_rfl) (by kernel_rfl) ?_)))
  refine ap rfl rfl (ce (S:=gp 80 5 w.heap.size gD path) nl (gp.stable) rfl (fun w hw=>by rintro _ rfl;exact bE.mono (nn ((hpa.ext ((x4.trans x3_2))).ext hw) hpl) fun v w' h=>⟨h.1,h.2.low (Nat.le_trans ((x4.trans x3_2)).size hw.size)⟩) ?_)
  refine aE rfl rfl (fun w hw=>(k3_2.ext hw).ld KT rfl (by kernel_rfl)) (eO (S:=Sl 5 [I (oY n.split).kd,I (oY n.split).ix,B (oY n.split).at_.1,x,y]) (Sl.stable _ _) rfl (fun w' hw=>by rintro _ rfl;exact Do (d:=oY n.split)) ?_)
  refine bF ?_
  intro wg4 xg4
  intro vg15 b15
  intro vg17 b17
  obtain⟨v18,w18,hr18,d18,e18,_⟩:=gp.snoc (d:=oY n.split) b15 (((x4.trans x3_2).trans xg4)) hx hy b17 hpl
  refine bc Ll Ll hr18 ?_
  refine ac Ll Ll (ag (ab (av (aG Ll Ll ?_))))
  exact⟨_,rfl,e18,by rw[show Ht n i=oY n.split from if_pos h11];exact d18⟩
 ·refine ar (ab (af (bz 4 [15,17] (by kernel_rfl) (by kernel_rfl) ?_)))
  refine ap rfl rfl (ce (S:=gp 80 5 w.heap.size gD path) nl (gp.stable) rfl (fun w hw=>by rintro _ rfl;exact bE.mono (nn ((hpa.ext ((x4.trans x1_3))).ext hw) hpl) fun v w' h=>⟨h.1,h.2.low (Nat.le_trans ((x4.trans x1_3)).size hw.size)⟩) ?_)
  refine aE rfl rfl (fun w hw=>(k1_3.ext hw).ld KT rfl (by kernel_rfl)) (eO (S:=Sl 5 [I n.split.kd,I n.split.ix,B n.split.at_.1,x,y]) (Sl.stable _ _) rfl (fun w' hw=>by rintro _ rfl;exact Do (d:=n.split)) ?_)
  refine bF ?_
  intro wg4 xg4
  intro vg15 b15
  intro vg17 b17
  obtain⟨v18,w18,hr18,d18,e18,_⟩:=gp.snoc (d:=n.split) b15 (((x4.trans x1_3).trans xg4)) hx hy b17 hpl
  refine bc Ll Ll hr18 ?_
  refine ac Ll Ll (ag (ab (av (aG Ll Ll ?_))))
  exact⟨_,rfl,e18,by rw[show Ht n i=n.split from if_neg h11];exact d18⟩
end Go.Rl
namespace Go.Rl
open Go.RowKit
section
variable {P:Program} {ops:Array Oper} {md:Region.Mode} {Env:World→Prop} {Rl:World→World→Prop} {mo:Bool} {Pn:List PanicEntry→World→Prop} {N:Nat}
theorem Fe {Q:fe} {i:Nat} {a:Act} {w:World} {K K':Act→World→Prop} (hQ:¬LetsOut Q) (hk:∀a w,K a w→K' a w) (h:wpOp P ops Q i K a w):wpOpIn Fence.wide 0 P ops Q i K' a w:=by
 unfold wpOp at h
 unfold wpOpIn
 cases ho:ops[i]? with
 |none=>
  simp only[ho] at h⊢
  exact hk _ _ h
 |some o=>
  simp only[ho] at h⊢
  split
  ·rename_i hw
   rw[if_pos hw] at h
   exact qq (rd:=none) (n:=0) (.inl rfl) hk (h.resolve_right fun h=>hQ h.2)
  ·rename_i hw
   rw[if_neg hw] at h
   exact⟨fun _ _=>trivial,hk _ _ h⟩
theorem np {Q':fe}:∀(l:List Oper) (k:Nat) (listed:Array Bool) (a:Act) (w:World),(∀j,l[j]? =ops[k+j]?)→
 Region.seqB md ops l.length k listed=true→wpListIn Fence.wide 0 P ops Q' l a w→wpAnyIn Fence.wide 0 P md ops Q' l.length listed a w
 |[],k,listed,a,w,_,hB,h=>⟨by simpa [Region.seqB] using hB,h⟩
 |o::l,k,listed,a,w,hl,hB,h=>by
  have h0:ops[k]? =some o:=by simpa using(hl 0).symm
  simp only[List.length_cons,Region.seqB,Bool.and_eq_true,decide_eq_true_eq] at hB
  refine⟨fun h1=>(by rw[hB.1] at h1;cases h1),fun i hi=>?_⟩
  rw[hB.1] at hi
  have hik:i=k:=by simpa using hi
  subst hik
  have hw:wpOpIn Fence.wide 0 P ops Q' i (wpListIn Fence.wide 0 P ops Q' l) a w:=by unfold wpOpIn;simp only[h0];exact h
  exact wpOpIn_mono (fun a' w' h'=>np l (i+1) _ a' w' (fun j=>by have:=hl (j+1);simpa [Nat.add_assoc,Nat.add_comm 1 j] using this) hB.2 h') hw
theorem kR {l0:List (Nat×Value)} {D:List Deferred} {n g:Nat} {L:Array Bool→cn→iN→Prop} {Q':fe} (hQ:¬LetsOut Q') (hE:fC Env Rl) (hP:∀c a w,a.tmps.size=N→a.defers=D→g0 l0 a→Pn c w→Q' (.panic c) a w)
 (hd0:∀i o,i<n→ops[i]? =some o→∀d,o.dst=some d→∀p∈l0,p.1≠d)
 (hL:∀listed F Z,L listed F Z→(∀t,bT Rl (F t))→cE Z→∀a w,Env w→uR N D F a w→Z w→wpAnyIn Fence.wide 0 P md ops Q' g listed a w):
 ∀(f:Nat) (listed:Array Bool) (F:cn) (Z:iN),gu P md ops Env Rl mo Pn N n L f listed F Z→(∀t,bT Rl (F t))→cE Z→∀a w,Env w→uR N D F a w→g0 l0 a→Z w→wpAnyIn Fence.wide 0 P md ops Q' (f+g) listed a w
 |0,listed,F,Z,h,hF,hZ,a,w,he,hs,_,hz=>by rw[Nat.zero_add];exact hL _ _ _ h hF hZ a w he hs hz
 |f+1,listed,F,Z,h,hF,hZ,a,w,he,hs,hk,hz=>by
  rw[show f+1+g=(f+g)+1 by omega]
  refine⟨fun h0=>absurd h0 h.1,fun i hi=>?_⟩
  obtain⟨hin,o,S,Z',ho,hspec,hrest⟩:=h.2 i hi
  refine Fe hQ (fun _ _ h=>h) (pg hE hP ho hspec hF hZ he hs hk (hd0 i o hin ho) hz (fun a' w' he' hs' hk' hz'=>?_))
  exact kR hQ hE hP hd0 hL f _ _ _ hrest (iy hF hspec.stable) (hspec.zst hZ) a' w' he' hs' hk' hz'
end
section
variable {P:Program} {ops:Array Oper} {Q:fe} {N:Nat} {D:List Deferred} {l:Fr} {w:World}
theorem Iv {id:Nat} {os:List Oper} (n:Nat) (ts:List Nat) (hm:P.follows .mixedOrders=true) (hB:Region.lexTailB .any os.toArray n=true)
 (h:fg P os.toArray (aI w) aI false HB N (os.take n) (pi l) (fun _=>True) (fun F _=>∀w',aI w w'→gK F w' ts (fun l'=>AL P os.toArray Q N D l' w' (os.drop n))))
 (hQ:¬LetsOut Q:=by repeat with_reducible first|exact jq|exact iD|exact gN|apply fU|apply gM):cM P Q N D l w (.region id os.toArray true):=fun a ha=>by
 refine wpIn_wide.1 (wpIn_region_any (n:=0) hm ?_)
 have hdr:aI w {w with drawn:=w.drawn+1}:=⟨rfl,rfl,rfl,Nat.le_refl _,fun _ _=>rfl⟩
 simp only[Region.lexTailB,Bool.and_eq_true,decide_eq_true_eq] at hB
 obtain⟨⟨⟨⟨_,hn⟩,hs⟩,hc⟩,hlex⟩:=hB
 have hn':n<os.length:=by simpa using hn
 have htl:(os.take n).length=n:=by simp;omega
 have hdl:(os.drop n).length=os.toArray.size-n:=by simp
 have inv0:HeadInv .any os.toArray n (Array.replicate os.toArray.size false):=
  ⟨by simp,fun j oj _ hl=>(by rw[getD_replicate_false] at hl;cases hl),fun t _ ht=>getD_in (by simpa using ht) (getD_replicate_false _ _)⟩
 have h2:fg P os.toArray (aI w) aI false HB N (os.take n) (pi l) (fun _=>True) (fun F Z=>∀a' w',aI w w'→uR N D F a' w'→Z w'→wpListIn Fence.wide 0 P os.toArray Q (os.drop n) a' w'):=gZ _ _ _ (fun F Z hK a' w' he hs _=>by
  obtain⟨l',hl',hk⟩:=gK.use hs (hK w' he)
  exact hk a' hl') h
 have hZ:cE (fun _=>True):=fun _ _ _ _=>trivial
 have H:=kS (md:=.any) (g:=os.toArray.size-n) (fun h=>by cases h) hs hc hn (os.take n) 0 _ _ _ (fun j hj=>by
  have hj':j<n:=by rw[htl] at hj;exact hj
  simp[hj']) (by simpa using htl) inv0 (by rw[htl];exact hlex) (eV l) hZ h2
 have hsat:uR N D (pi l) a {w with drawn:=w.drawn+1}:=⟨ha.size,ha.defers,fun t=>by
  show pi l t (a.tmps.getD t undef) _
  unfold pi
  cases hv:lk l t with
  |some v=>exact ha.at_ t v hv
  |none=>trivial⟩
 have:=kR (D:=D) (Q':=Q) (l0:=[]) (g:=os.toArray.size-n) hQ (fC.plain w) (fun _ _ _ _ _ _ hp=>hp.elim) (fun _ _ _ _ _ _ _ hp=>by cases hp) (fun listed F Z hL hF hZ a' w' he hsat hz=>by
  have:=np (md:=.any) (Q':=Q) (os.drop n) n listed a' w' (fun j=>by simp[List.getElem?_drop]) (by rw[hdl];exact hL.1) (hL.2 a' w' he hsat hz)
  rwa [hdl] at this) _ _ _ _ H (eV l) hZ a {w with drawn:=w.drawn+1} hdr hsat (fun _ hp=>by cases hp) trivial
 rw[htl,show n+(os.toArray.size-n)=os.toArray.size by omega] at this
 exact this
end
end Go.Rl
namespace Go.Rl
open Go.RowKit
mutual
def eJ:aP→List aP
 |.mk l s ks e p=>.mk l s ks e p::wE ks
def wE:List aP→List aP
 |[]=>[]
 |n::l=>eJ n++wE l
end
theorem uH:∀l:List aP,wE l=l.flatMap eJ
 |[]=>rfl
 |n::l=>by simp only[wE,List.flatMap_cons,uH l]
theorem yy (n:aP):eJ n=n::n.kids.flatMap eJ:=by
 cases n with
 |mk l s k e p=>simp only[eJ,uH];rfl
def Hu (n:aP):Bool:=lJ n.split.at_&&ya n.pf&&n.lems.all oQ
mutual
theorem uI:∀n:aP,i0 n=(eJ n).all Hu
 |.mk l s ks e p=>by
  simp only[i0,eJ,List.all_cons,←wG ks]
  show _=((lJ s.at_&&ya p&&l.all oQ)&&pL ks)
  cases ya p<;>cases lJ s.at_<;>simp
theorem wG:∀l:List aP,pL l=(wE l).all Hu
 |[]=>rfl
 |n::l=>by simp only[pL,wE,List.all_append,uI n,wG l]
end
end Go.Rl
namespace Go.Rl
open Go.RowKit Go.Proofs
def eU (w w':World):Prop:=∀a v,w.cell? a=some v→w'.cell? a=some v
theorem eU.cells {w w':World} (h:eU w w') {ad:Addr} {xs:List Value} (hc:dG w ad xs):dG w' ad xs:=fun j u hu=>h _ _ (hc j u hu)
mutual
theorem eU.rp {w w':World} (h:eU w w'):∀{d:Dt} {cs:List Value},Rp w d cs→Rp w' d cs
 |.int k n,cs,hr=>by simpa only[Rp] using hr
 |.bool b,cs,hr=>by simpa only[Rp] using hr
 |.str l,cs,hr=>by simpa only[Rp] using hr
 |.sl l,cs,hr=>by
  simp only[Rp] at hr⊢
  obtain⟨A,n,c,h1,h2,h3,h4,h5,h6⟩:=hr
  refine⟨A,n,c,h1,h2,h3,h4,h5,fun hn=>?_⟩
  obtain⟨ad,xs,h7,h8,h9⟩:=h6 hn
  exact⟨ad,xs,h7,h.cells h8,eU.rpAll h h9⟩
 |.st l,cs,hr=>by simp only[Rp] at hr⊢;exact eU.rpAll h hr
theorem eU.rpAll {w w':World} (h:eU w w'):∀{l:List Dt} {cs:List Value},bw w l cs→bw w' l cs
 |[],cs,hr=>by simpa only[bw] using hr
 |d::l,cs,hr=>by
  simp only[bw] at hr⊢
  obtain⟨c1,c2,h0,h1,h2⟩:=hr
  exact⟨c1,c2,h0,eU.rp h h1,eU.rpAll h h2⟩
end
structure Kc (b:Nat) (w w':World):Prop where
 os:w'.os=w.os
 tape:w'.tape=w.tape
 output:w'.output=w.output
 size:w.heap.size≤w'.heap.size
 low:∀k,k<b→w'.heap[k]? =w.heap[k]?
 cel:∀(k:Nat) (o:Obj),w.heap[k]? =some o→o.isCells=true→w'.heap[k]? =some o
section
variable {b:Nat} {w w0 w1 w2:World}
theorem Kc.refl (b:Nat) (w:World):Kc b w w:=⟨rfl,rfl,rfl,Nat.le_refl _,fun _ _=>rfl,fun _ _ h _=>h⟩
theorem Kc.trans (h:Kc b w w1) (k:Kc b w1 w2):Kc b w w2:=⟨k.os.trans h.os,k.tape.trans h.tape,k.output.trans h.output,Nat.le_trans h.size k.size,fun n hn=>(k.low n hn).trans (h.low n hn),fun n o hn ho=>k.cel n o (h.cel n o hn ho) ho⟩
theorem Kc.of_ext (h:aI w w1) (hb:b≤w.heap.size):Kc b w w1:=⟨h.os,h.tape,h.output,h.size,fun _ hn=>h.heap (Nat.lt_of_lt_of_le hn hb),fun _ _ hn _=>h.heap_some hn⟩
theorem Kc.cells (h:Kc b w w1):eU w w1:=fun a v hv=>by
 unfold World.cell? at hv⊢
 cases ho:w.heap[a.block]? with
 |none=>rw[ho] at hv;cases hv
 |some o=>
  rw[ho] at hv
  cases o with
  |cells c t f=>rw[h.cel _ _ ho rfl];exact hv
  |_=>cases hv
theorem Kc.blk {g:Nat} {T:TypeId} {l:List Value} (h:Kc b w w1) (k:cd g T l w):cd g T l w1:=h.cel _ _ k rfl
theorem Kc.ext (h:Kc w0.heap.size w w1) (e:aI w0 w):aI w0 w1:=⟨h.os.trans e.os,h.tape.trans e.tape,h.output.trans e.output,Nat.le_trans e.size h.size,fun n hn=>(h.low n hn).trans (e.heap hn)⟩
theorem Kc.put {l:Nat} {o o':Obj} (hb:b≤l) (hl:w.heap[l]? =some o) (ho:o.isCells=false):Kc b w (w.putObj l o'):=by
 have g:=grownBy_putObj' w l o'
 refine⟨g.os,g.tape,g.output,g.size,fun k hk=>World.putObj_heap_other (by omega),fun k o2 hk ho2=>?_⟩
 have:k≠l:=by
  rintro rfl
  rw[hl] at hk
  cases hk
  rw[ho] at ho2
  cases ho2
 rw[World.putObj_heap_other this]
 exact hk
theorem Kc.own {row:Option Nat} (hg:w.grownBy w1 row) (hr:∀r,row=some r→b≤r∧∃o:Obj,w.heap[r]? =some o∧o.isCells=false) (hb:b≤w.heap.size):Kc b w w1:=by
 refine⟨hg.os,hg.tape,hg.output,hg.size,fun k hk=>hg.block k (by omega) fun e=>by have:=(hr k e.symm).1;omega,fun k o hk ho=>?_⟩
 refine(hg.block k (Array.getElem?_eq_some_iff.1 hk).1 fun e=>?_).trans hk
 obtain⟨_,o2,h2,h3⟩:=hr k e.symm
 rw[hk] at h2
 cases h2
 rw[ho] at h3
 cases h3
theorem aI.grownNone (h:aI w w1):w.grownBy w1 none:=⟨h.os,h.tape,h.output,h.size,fun _ hk _=>h.heap hk⟩
theorem AD.le (h:AD w) (c:eU w w1):AD w1:=c.cells h
theorem bo.le {l:List UInt32} {v:Value} (h:bo l v w) (c:eU w w1):bo l v w1:=Rp.words.1 (c.rp (Rp.words.2 h))
theorem df.le {α:Type} {f:α→Dt} {l:List α} {v:Value} (h:df f l v w) (c:eU w w1):df f l v w1:=c.rp h
end
structure pb (w:World) where
 n:aP
 pv:Value
 vl:Value
 x:Value
 y:Value
 vk:Value
 vp:Value
 hl:df eI n.lems vl w
 hx:bo n.split.at_.2.1 x w
 hy:bo n.split.at_.2.2 y w
 hk:df bM n.kids vk w
 hp:df dk n.pf vp w
 hs:sN n
def pb.enc {w:World} (v:pb w):List Value:=[v.pv,.agg #[v.vl,I v.n.split.kd,I v.n.split.ix,B v.n.split.at_.1,v.x,v.y,v.vk,B v.n.empty,v.vp]]
section
variable {P:Program} {fn:Func} {R:Ending→World→Prop} {N:Nat} {l:Fr} {w:World} {p:Tmp} {t T:TypeId} {d:TypeDesc} {g D0:Nat} {v:Value}
theorem oa {tmps:Array Value} {a:Addr} (h:fn.results= #[.cell p t]) (hp:tmps.getD p undef=.pointer (some a)) (l1:(loadVar t a).run P w=.ok v w):(results fn tmps).run P w=.ok v w:=by
 simp only[results,h]
 simp only[Array.getD_eq_getD_getElem?] at hp
 simp[hp,l1,asAddr]
theorem Hv (hr:fn.results= #[.cell p t]) (hv:lk l p=some (.pointer (some ⟨g,0,none⟩))) (hb:cd g T [v] w) (ht:P.underlying t=some d) (hd:(match d with|.struct _|.array _ _=>true|_=>false)=false) (h:R (.returned v) w):fR (bodyPostM Fence.wide 0 P fn R) N [] l w .ret:=fun a ha=>by
 show LeavesInM Fence.wide 0 P fn a.tmps R a.defers .returning w
 rw[ha.defers]
 exact⟨v,oa hr (ha.at_ p _ hv) (pJ ht hd hb.k0),h⟩
theorem Av (hr:fn.results= #[.cell p t]) (hv:lk l p=some (.pointer (some ⟨g,0,none⟩))) (hb:cd g T [v] w) (ht:P.underlying t=some d) (hd:(match d with|.struct _|.array _ _=>true|_=>false)=false) (hD:w.heap[D0]? =some (.deferred (some []))) (h:∀w',w.grownBy w' (some D0)→R (.returned v) w'):fR (bodyPostM Fence.wide 0 P fn R) N [⟨.collected D0,#[]⟩] l w .ret:=fun a ha=>by
 have hne:g≠D0:=by
  rintro rfl
  have hb':w.heap[g]? =some (.cells [v].toArray T (0,0)):=hb
  rw[hb'] at hD
  cases hD
 have hgr:=grownBy_putObj' w D0 (.deferred none)
 have hb2:=hb.other hgr (fun e=>hne (Option.some.inj e))
 show LeavesInM Fence.wide 0 P fn a.tmps R a.defers .returning w
 rw[ha.defers]
 exact⟨by simp,.inl ⟨D0,_,rfl,run_takeDeferred hD,v,oa hr (ha.at_ p _ hv) (pJ ht hd hb2.k0),h _ hgr⟩⟩
end
end Go.Rl
namespace Go.Rl
open Go.RowKit Go.Proofs Go.Proofs.YtaajaakbcelmfaaGreatDoor
theorem uJ:ay Tryz.prog 138:=⟨_,Tryz.func138,by kernel_rfl,rfl⟩
theorem Aw:ay Tryz.prog 95:=⟨_,Tryz.func95,by kernel_rfl,rfl⟩
theorem Ax:ay Tryz.prog 137:=⟨_,Tryz.func137,by kernel_rfl,rfl⟩
theorem JP {l:List aP} {i:Nat} (hi:i<l.length):((l.take i).flatMap eJ).length+(eJ l[i]).length≤(l.flatMap eJ).length:=by
 have h:l.flatMap eJ=(l.take i).flatMap eJ++(eJ l[i]++(l.drop (i+1)).flatMap eJ):=by
  rw[←List.flatMap_cons,←List.drop_eq_getElem_cons hi,←List.flatMap_append,List.take_append_drop]
 rw[h]
 simp only[List.length_append]
 omega
theorem JQ {d:Nat} {n k:aP} (h:yC d n=true) (hk:k∈n.kids):∃d',d=d'+1∧yC d' k=true:=by
 unfold yC at h
 split at h
 ·rename_i e
  rw[e] at hk
  cases hk
 ·rename_i a b e
  rw[e] at hk
  simp only[Bool.and_eq_true] at h
  cases d with
  |zero=>exact absurd h.2 (by simp)
  |succ d=>
   have h2:=h.2
   simp only[Bool.and_eq_true] at h2
   simp only[List.mem_cons,List.not_mem_nil,or_false] at hk
   rcases hk with rfl|rfl
   ·exact⟨d,rfl,h2.1⟩
   ·exact⟨d,rfl,h2.2⟩
 ·cases h
theorem wH {l:List aP} {i:Nat} (hi:i<l.length):(l.take (i+1)).flatMap eJ=(l.take i).flatMap eJ++eJ l[i]:=by
 rw[List.take_succ_eq_append_getElem hi,List.flatMap_append]
 simp
theorem Hw (l:List aP) (i:Nat):(l.take i).flatMap eJ<+:l.flatMap eJ:=⟨(l.drop i).flatMap eJ,by rw[←List.flatMap_append,List.take_append_drop]⟩
section
variable (w0:World) (lp M:Nat) (J Jx:List (pb w0)→World→Prop)
def KJ (pre:List (pb w0)) (n:aP) (w:World) (r:Value) (w':World):Prop:=
 (r=B true∧Kc w0.heap.size w w'∧∃vs:List (pb w0),vs.map (·.n)=eJ n∧J (pre++vs) w')∨(r=B false∧∃vs:List (pb w0),vs.map (·.n)<+:eJ n∧Jx (pre++vs) w')
def Cd (d:Nat) (n:aP):Prop:=∀(w:World) (pre:List (pb w0)) (path:List ew) (pv vl x y vk vp:Value),eU w0 w→w0.heap.size≤w.heap.size→AD w→df gD path pv w→path.length+d≤1000000→
 df eI n.lems vl w0→bo n.split.at_.2.1 x w0→bo n.split.at_.2.2 y w0→df bM n.kids vk w0→df dk n.pf vp w0→sN n→J pre w→pre.length+(eJ n).length≤M→
 Calls Tryz.prog 138 #[pv,.agg #[vl,I n.split.kd,I n.split.ix,B n.split.at_.1,x,y,vk,B n.empty,vp],.func (.yield lp) #[] #[]] w (bE (KJ w0 J Jx pre n w))
end
theorem Hx {l:List aP} {i:Nat} (hi:i<l.length) {q:List aP} (hq:q<+:eJ l[i]):(l.take i).flatMap eJ++q<+:l.flatMap eJ:=by
 obtain⟨s,hs⟩:=hq
 have h:=Hw l (i+1)
 rw[wH hi,←hs,←List.append_assoc] at h
 exact(List.prefix_append _ s).trans h
theorem Ay {n:aP} {l:List aP} (h:l<+:n.kids.flatMap eJ):n::l<+:eJ n:=by
 rw[yy]
 obtain⟨s,hs⟩:=h
 exact⟨s,by rw[List.cons_append,hs]⟩
theorem uK {w0:World} {lp M:Nat} {J Jx:List (pb w0)→World→Prop} (hJ:∀s W W',J s W→aI W W'→J s W')
 (hY:∀(pre:List (pb w0)) (x:pb w0) (W:World),J pre W→pre.length<M→YieldAt Fence.wide 0 Tryz.prog lp x.enc.toArray W fun e W'=>(e=.returned (.bool true)∧J (pre++[x]) W'∧Kc w0.heap.size W W')∨(e=.returned (.bool false)∧Jx (pre++[x]) W'))
 {d:Nat} {n:aP} (hok:yC d n=true) (ih:∀d',d=d'+1→∀k,yC d' k=true→Cd w0 lp M J Jx d' k):Cd w0 lp M J Jx d n:=by
 intro w pre path pv vl x y vk vp hE hS ho hpa hpl hl hx hy hk hp hsn hJ0 hM
 refine enter (vs:=[pv,.agg #[vl,I n.split.kd,I n.split.ix,B n.split.at_.1,x,y,vk,B n.empty,vp],.func (.yield lp) #[] #[]]) Tryz.func138 Ll Ll Ll ?_
 have hkn:=hk.len
 have hlen:(eJ n).length=1+(n.kids.flatMap eJ).length:=by rw[yy,List.length_cons];omega
 refine af (aa ?_)
 obtain⟨g4,w4,hr4,l4,x4,k4⟩:=dc (P:=Tryz.prog) (w:=w) (T:=83) (cs:=[vl,I n.split.kd,I n.split.ix,B n.split.at_.1,x,y,vk,B n.empty,vp])
 refine cL Ll Ll hr4 (ac Ll Ll (ag (ab (af (af ?_)))))
 refine Iv 4 [0,2,4,9,11,12] (by kernel_rfl) (by kernel_rfl) ?_
 refine ap Ll Ll (ap Ll Ll ?_)
 refine ce (S:=df gD path) nl (df.stable _ _) rfl (fun w' hw=>by rintro _ rfl;exact bE.mono (nn ((hpa.ext x4).ext hw) (by omega)) fun v w' h=>⟨h.1,h.2.ds nP (by omega)⟩) ?_
 refine aE Ll Ll (fun w hw=>(k4.ext hw).ld KM Ll (by kernel_rfl)) (bF ?_)
 intro wg1 xg1
 rintro _ hq0
 obtain rfl:=Eq.symm hq0
 rintro _ rfl
 rintro _ rfl
 rintro _ rfl
 intro vg11 b11
 rintro _ rfl
 have hx1:=hY pre ⟨n,vg11,vl,x,y,vk,vp,hl,hx,hy,hk,hp,hsn⟩ wg1 (hJ _ _ _ hJ0 (x4.trans xg1)) (by omega)
 refine Cs Ll Ll Ll hx1 ?_
 rintro e w3 (⟨rfl,hJ3,hK3⟩|⟨rfl,hJx3⟩)
 rotate_left
 ·refine⟨_,rfl,xh (bI Ll Ll bK (ag (ab (bB Ll (af (aa (ac Ll Ll (ag (ab (av (au (aG Ll Ll ?_))))))))))))⟩
  exact⟨_,rfl,.inr ⟨rfl,[⟨n,vg11,vl,x,y,vk,vp,hl,hx,hy,hk,hp,hsn⟩],show[n]<+:eJ n from Ay List.nil_prefix,hJx3⟩⟩
 refine⟨_,rfl,xh (bI Ll Ll bK (ag ?_))⟩
 have hK0:Kc w0.heap.size w w3:=(Kc.of_ext (x4.trans xg1) hS).trans hK3
 have hE3:eU w0 w3:=fun a v hv=>hK0.cells a v (hE a v hv)
 have k43:=hK3.blk (k4.ext xg1)
 have hpa3:=hpa.le hK0.cells
 have ho3:=ho.le hK0.cells
 have hk3:=hk.le hE3
 refine ab (cp Ll (ar (ab (af (af (aa (ah Ll Ll (aF (o:=6) KM Ll (by kernel_rfl) Ll) (am Ll Ll (aj KR Ll (k43.cell (i:=6) Ll)) ?_))))))))
 refine aQ Ll Ll (bR (f:=bM) KR hk3) ?_
 refine ae Ll Ll (ag (ab (ax ?_)))
 refine f4 (fun(i:Nat) (vs:List (pb w0))=>[(0,pv),(2,.func (.yield lp) #[] #[]),(4,.pointer (some ⟨g4,0,none⟩)),(16,vk),(17,I (n.kids.length:Int)),(18,I (i:Int))]) (fun(i:Nat) (vs:List (pb w0)) w'=>i≤n.kids.length∧vs.map (·.n)=n::(n.kids.take i).flatMap eJ∧J (pre++vs) w'∧Kc w0.heap.size w3 w') (fun(i:Nat) (vs:List (pb w0))=>n.kids.length-i) (0) ([⟨n,vg11,vl,x,y,vk,vp,hl,hx,hy,hk,hp,hsn⟩]) ⟨rfl,rfl,rfl,rfl,rfl,rfl,trivial⟩ ⟨by omega,rfl,hJ3,Kc.refl _ _⟩ ?_
 rintro i vs wL ⟨hi,hvs,hJL,hKL⟩
 refine af (aa (ai Ll Ll Ll (aW) (ag (ab (af ?_)))))
 refine bi Ll (fun h19=>?_) (fun h19=>?_)
 ·have hKw:=hK0.trans hKL
  have hkL:df bM n.kids vk wL:=hk3.le hKL.cells
  have k4L:=hKL.blk k43
  refine ar (ab (af (ax (af (aa (ae Ll Ll ?_))))))
  have hEL:eU w0 wL:=fun a v hv=>hKw.cells a v (hE a v hv)
  obtain⟨a21,c21,p21,q21,h21⟩:=dN (P:=Tryz.prog) (sz:=9) KR (by kernel_rfl) bD (by omega) hk (i:=i) (by omega) .i64
  obtain⟨e21,he21⟩:∃e,e=n.kids[i]'(by omega):=⟨_,rfl⟩
  rw[←he21] at h21
  obtain⟨x21_0,x21_1,x21_2,x21_3,x21_4,rfl,f21_0,f21_1,f21_2,f21_3,f21_4⟩:=dY h21
  refine aA Ll Ll Ll (p21 _) ?_
  have hmem:e21∈n.kids:=by rw[he21];exact List.getElem_mem _
  obtain⟨d',hd',hokk⟩:=JQ hok hmem
  have hfl:=JP (l:=n.kids) (i:=i) (by omega)
  rw[←he21] at hfl
  have hvl:vs.length=1+((n.kids.take i).flatMap eJ).length:=by have:=congrArg List.length hvs;rw[List.length_map,List.length_cons] at this;omega
  refine am Ll Ll ((hEL.cells q21).ld KM Ll (by kernel_rfl)) ?_
  obtain⟨g8,w8,hr8,l8,x8,k8⟩:=be (P:=Tryz.prog) (w:=wL) (t:=83) (z:=.agg #[.slice none 0 0,I 0,I 0,B false,.slice none 0 0,.slice none 0 0,.slice none 0 0,B false,.slice none 0 0]) (l:=[.slice none 0 0,I 0,I 0,B false,.slice none 0 0,.slice none 0 0,.slice none 0 0,B false,.slice none 0 0]) (by kernel_rfl) rfl
  refine bf Ll hr8 (ac Ll Ll ?_)
  obtain⟨w5_5,s5_5,q5_5,k5_5⟩:=k8.stS (P:=Tryz.prog) (t:=83) (m:=[x21_0,I e21.split.kd,I e21.split.ix,B e21.split.at_.1,x21_1,x21_2,x21_3,B e21.empty,x21_4]) rfl (by kernel_rfl) (aD.cons f21_0.one (aD.cons rfl (aD.cons rfl (aD.cons rfl (aD.cons f21_1.one (aD.cons f21_2.one (aD.cons f21_3.one (aD.cons rfl (aD.cons f21_4.one aD.nil)))))))))
  refine aq Ll Ll s5_5 ?_
  have x5_5:=aI.of_new (x8) q5_5 l8
  refine ag (ab (af (bz 6 [0,2,4,16,17,18,26,27,28] (by kernel_rfl) (by kernel_rfl) ?_)))
  refine ap rfl rfl (aE rfl rfl (fun w hw=>((k4L.ext x5_5).ext hw).ld KM rfl (by kernel_rfl)) (ap rfl rfl (ce (S:=df gD (path++[Ht n (i:Int)])) Fa (df.stable _ _) rfl (fun w hw=>by rintro _ rfl _ rfl _ rfl;exact Fd ((ho3.le hKL.cells).ext (aI.trans (x5_5) hw)) ((hpa3.le hKL.cells).ext (aI.trans (x5_5) hw)) (by omega) ((hl.le hEL).ext (aI.trans (x5_5) hw)) ((hx.le hEL).ext (aI.trans (x5_5) hw)) ((hy.le hEL).ext (aI.trans (x5_5) hw)) ((hk.le hEL).ext (aI.trans (x5_5) hw)) ((hp.le hEL).ext (aI.trans (x5_5) hw))) ?_)))
  refine aE Ll Ll (fun w hw=>(k5_5.ext hw).ld KM Ll (by kernel_rfl)) (ap Ll Ll (bF ?_))
  intro wg6 xg6
  rintro _ hq0
  obtain rfl:=Eq.symm hq0
  rintro _ rfl
  rintro _ rfl
  rintro _ hq16
  obtain rfl:=Eq.symm hq16
  rintro _ rfl
  rintro _ rfl
  intro vg26 b26
  rintro _ rfl
  rintro _ rfl
  have xL6:=(x5_5.trans xg6)
  have hK6:=hKw.trans (Kc.of_ext xL6 (Nat.le_trans hS hKw.size))
  refine an uJ Ll Ll (ih d' hd' e21 hokk _ (pre++vs) (path++[Ht n (i:Int)]) _ _ _ _ _ _ (fun a v hv=>hK6.cells a v (hE a v hv)) (Nat.le_trans hS hK6.size) (ho.le hK6.cells) b26 (by simp;omega) f21_0 f21_1 f21_2 f21_3 f21_4 (((yx n).1 hsn).2.2.2 e21 hmem) (hJ _ _ _ hJL xL6) (by simp only[List.length_append];omega)) ?_
  rintro v29 w29 (⟨rfl,hK29,vs2,hv2,hJ2⟩|⟨rfl,vs2,hv2,hJ2⟩)
  rotate_left
  ·refine bI Ll Ll bK (ag (ab (bB Ll (af (aa (ac Ll Ll (ag (ab (av (aV (au (au (aV (au (aG Ll Ll ?_)))))))))))))))
   exact⟨_,rfl,.inr ⟨rfl,vs++vs2,by rw[List.map_append,hvs,List.cons_append];exact Ay (Hx (by omega) (by rw[←he21];exact hv2)),by rw[←List.append_assoc];exact hJ2⟩⟩
  refine bI Ll Ll bK (ag (ab (cp Ll (ar (aJ (ab (aa (ai (r:=I ((i+1:Nat):Int)) Ll Ll Ll (by have e:((i+1:Nat):Int)=(i:Int)+1:=(by omega);rw[e];exact aK (by omega) (by omega)) ?_))))))))
  refine ae Ll Ll (ag ?_)
  refine d9 (i+1) (vs++vs2) ⟨rfl,rfl,rfl,rfl,rfl,rfl,trivial⟩ ⟨by omega,by rw[List.map_append,hvs,hv2,List.cons_append,wH (by omega),he21],by rw[←List.append_assoc];exact hJ2,(hKL.trans (Kc.of_ext xL6 (Nat.le_trans hS hKw.size))).trans hK29⟩ (by omega)
 ·refine aY (aB (aB (aX (ab (af (aa (ac Ll Ll (ag (ab (av (aG Ll Ll ?_)))))))))))
  exact⟨_,rfl,.inl ⟨rfl,hK0.trans hKL,vs,by rw[hvs,yy,List.take_of_length_le (by omega)],hJL⟩⟩
theorem uL {w0:World} {lp M:Nat} {J Jx:List (pb w0)→World→Prop} (hJ:∀s W W',J s W→aI W W'→J s W')
 (hY:∀(pre:List (pb w0)) (x:pb w0) (W:World),J pre W→pre.length<M→YieldAt Fence.wide 0 Tryz.prog lp x.enc.toArray W fun e W'=>(e=.returned (.bool true)∧J (pre++[x]) W'∧Kc w0.heap.size W W')∨(e=.returned (.bool false)∧Jx (pre++[x]) W')):∀(d:Nat) (n:aP),yC d n=true→Cd w0 lp M J Jx d n
 |0,_,hok=>uK hJ hY hok fun _ e=>by cases e
 |d+1,_,hok=>uK hJ hY hok fun d' e k hk=>by
   cases e
   exact uL hJ hY d k hk
end Go.Rl
namespace Go.Rl
open Go.RowKit
section
variable {P:Program} {Q:fe} {N:Nat} {D:List Deferred}
theorem Ff {w:World} {α:Type} {Kp:World→World→Prop} {I:List α→World→Prop} {Ix:Code→List α→World→Prop} (hKt:∀{A B C:World},Kp A B→Kp B C→Kp A C)
 (hKb:∀(W:World) (l:Nat) (o o':Obj),w.heap.size≤l→W.heap[l]? =some o→o.isCells=false→o.isWalk=false→Kp W (W.putObj l o')) (hI:OwnFrom w.heap.size I) (hIx:∀c,OwnFrom w.heap.size (Ix c))
 {rec:LoopState→Option Code→Loop} (hset:∀s c s' c',{rec s c with state:=s',pending:=c'}=rec s' c') {L D0:Nat} (hL:w.heap.size≤L) (hD0:w.heap.size≤D0) (hne:L≠D0)
 {xs:List α} {W0 W2 W3:World} (hK0:Kp W0 W2) (hl2:W2.heap[L]? =some (.loop (rec .busy none))) (hk2:W2.heap[D0]? =some (.deferred (some []))) {e:Exit} {a3:Act} (hp:ownPostG w.heap.size Kp I Ix xs W2 e a3 W3):
 ∃jump r W4,(match e with|.normal=>jump=none|.ret=>jump=some .ret|.exit id=>jump=some (.exit id)|.goto t=>jump=some (.goto t)|_=>False)∧(Instr.endRound L jump).run P W3=.ok r W4∧
  ((r=.bool true∧(I xs W4∧W4.heap[L]? =some (.loop (rec .ready none))∧W4.heap[D0]? =some (.deferred (some [])))∧Kp W0 W4)∨
   (r=.bool false∧∃c,Ix c xs W4∧W4.heap[L]? =some (.loop (rec .done (some c)))∧W4.heap[D0]? =some (.deferred (some [])))):=by
 have fin:∀(jump:Option Code),KeepsFrom w.heap.size W2 W3→
  (Instr.endRound L jump).run P W3=.ok (.bool jump.isNone) (W3.putObj L (.loop (rec (if jump.isNone then .ready else .done) jump)))∧W3.heap[L]? =some (.loop (rec .busy none))∧
  (W3.putObj L (.loop (rec (if jump.isNone then .ready else .done) jump))).heap[L]? =some (.loop (rec (if jump.isNone then .ready else .done) jump))∧
  (W3.putObj L (.loop (rec (if jump.isNone then .ready else .done) jump))).heap[D0]? =some (.deferred (some [])):=fun jump hk3=>by
  have hl3:=hk3.same _ _ hL hl2 rfl
  have h:=run_endRound (P:=P) jump (by rw[hl3,←hset .busy none .busy none])
  rw[hset] at h
  exact⟨h,hl3,World.putObj_heap_same (Array.getElem?_eq_some_iff.1 hl3).1,(World.putObj_heap_other (Ne.symm hne)).trans (hk3.same _ _ hD0 hk2 rfl)⟩
 cases e with
 |normal=>
  obtain⟨hk3,hkp3,hi3⟩:=hp
  obtain⟨hr,hl3,hl4,hk4⟩:=fin none hk3
  exact⟨none,_,_,rfl,hr,.inl ⟨rfl,⟨hI.putObj _ hi3 hL hl3 rfl,hl4,hk4⟩,hKt (hKt hK0 hkp3) (hKb _ _ _ _ hL hl3 rfl rfl)⟩⟩
 |ret=>
  obtain⟨hk3,hi3⟩:=hp
  obtain⟨hr,hl3,hl4,hk4⟩:=fin (some .ret) hk3
  exact⟨some .ret,_,_,rfl,hr,.inr ⟨rfl,.ret,(hIx _).putObj _ hi3 hL hl3 rfl,hl4,hk4⟩⟩
 |exit id=>
  obtain⟨hk3,hi3⟩:=hp
  obtain⟨hr,hl3,hl4,hk4⟩:=fin (some (.exit id)) hk3
  exact⟨some (.exit id),_,_,rfl,hr,.inr ⟨rfl,.exit id,(hIx _).putObj _ hi3 hL hl3 rfl,hl4,hk4⟩⟩
 |goto t=>
  obtain⟨hk3,hi3⟩:=hp
  obtain⟨hr,hl3,hl4,hk4⟩:=fin (some (.goto t)) hk3
  exact⟨some (.goto t),_,_,rfl,hr,.inr ⟨rfl,.goto t,(hIx _).putObj _ hi3 hL hl3 rfl,hl4,hk4⟩⟩
 |panic ch=>exact hp.elim
 |outgrown=>exact hp.elim
theorem yz {α:Type} {g:Operand} {ps:List Tmp} {assign body:Code} {l:Fr} {w:World} {gf:Nat} {lb:Array Value} (hg:ev l g=some (.func (.func gf) #[] lb)) (hc:ay P gf)
 {encs:α→List Value} {Kp:World→World→Prop} {S Sp:List α→Prop} {M:Nat} {w0:World} (hseq:SeqStopsK Fence.wide 1 P gf lb (fun x=>(encs x).toArray) Kp S Sp M w0)
 (hKt:∀{A B C:World},Kp A B→Kp B C→Kp A C) (hKe:∀{A B:World},w.heap.size≤A.heap.size→aI A B→Kp A B) (hKb:∀(W:World) (l:Nat) (o o':Obj),w.heap.size≤l→W.heap[l]? =some o→o.isCells=false→o.isWalk=false→Kp W (W.putObj l o')) (hb0:Below w0.heap.size w0 w) (hps:∀x,(encs x).length=ps.length)
 (I:List α→World→Prop) (Ix:Code→List α→World→Prop) (hI:OwnFrom w.heap.size I) (hIx:∀c,OwnFrom w.heap.size (Ix c)) (h0:I [] w)
 (A:α→Fr→World→Prop) (hA:∀x fr (W:World) (l:Nat) (o o':Obj),A x fr W→W.heap[l]? =some o→o.isCells=false→A x fr (W.putObj l o')) (hpN:(ps.all fun p=>Nat.blt p N)=true)
 (hassign:∀(lp:Nat) (x:α) (W:World) (K:Act→World→Prop),(∀fr W',aI W W'→A x fr W'→fN (Exit.then K fun _ _ _=>False) N [] fr W')→eP (some lp) P (Exit.then K fun _ _ _=>False) N [] (J3 (ps.zip (encs x)) l) W assign)
 (hbody:∀(lp:Nat) (pre:List α) (x:α) (fr:Fr) (W:World),I pre W→A x fr W→pre.length<M→eP (some lp) P (ownPostG w.heap.size Kp I Ix (pre++[x]) W) N [] fr W body)
 (hdone:∀(D0:Nat) (xs:List α) (W:World),w.heap.size≤D0→S xs→I xs W→W.heap[D0]? =some (.deferred (some []))→fN Q N (⟨.collected D0,#[]⟩::D) l W)
 (hstop:∀(D0:Nat) (c:Code) (pre:List α) (W:World),w.heap.size≤D0→Sp pre→Ix c pre W→W.heap[D0]? =some (.deferred (some []))→cM P Q N (⟨.collected D0,#[]⟩::D) l W c):
 cM P Q N D l w (.rangeFunc g ps.toArray assign body):=fun a ha=>by
 refine(wpIn_wide (n:=2)).1 (wpIn_rangeFunc ?_)
 intro fn hfn
 obtain⟨rec,hrec⟩:∃rec:LoopState→Option Code→Loop,rec=fun st pe=>{state:=st,pending:=pe,fn,tmps:=a.tmps,params:=ps.toArray,assign,body,defers:=w.heap.size}:=⟨_,rfl⟩
 obtain⟨W1,hW1⟩:∃W1,(w.alloc (.deferred (some []))).alloc (.loop (rec .ready none))=W1:=⟨_,rfl⟩
 have hL1:W1.heap[w.heap.size+1]? =some (.loop (rec .ready none)):=by
  rw[←hW1];have:=World.alloc_heap_new (w.alloc (.deferred (some []))) (.loop (rec .ready none));rwa [World.size_alloc] at this
 have hK1:W1.heap[w.heap.size]? =some (.deferred (some [])):=by
  rw[←hW1];exact(Below.heap_alloc _ _ _ (by simp)).trans (World.alloc_heap_new w _)
 have hI1:I [] W1:=by rw[←hW1];exact hI.alloc _ (hI.alloc _ h0)
 have hb1:Below w0.heap.size w0 W1:=by
  rw[←hW1];exact hb0.trans ((((Below.refl _ w).alloc (Nat.le_refl _) _).alloc (by simp) _).mono hb0.size)
 have hset:∀s c s' c',{rec s c with state:=s',pending:=c'}=rec s' c':=fun s c s' c'=>by rw[hrec]
 refine⟨w.heap.size+1,[{target:=.collected w.heap.size,args:=#[]}],W1,{target:=.fn (.func gf) lb,args:=#[.func (.yield (w.heap.size+1)) #[] #[]]},W1,gf,
  #[.func (.yield (w.heap.size+1)) #[] #[]]++lb,W1,?_,?_,fun _ _=>trivial,?_,fun h=>absurd h (by simp[Fence.wide]),?_⟩
 ·rw[←hW1,hrec];exact run_enterLoop_outer _ _ _ _ _
 ·simp only[resolve,ha.ev hg]
  simp[Deferred.ofValue,Act.eval]
 ·simp only[invoke,eN hc]
 ·have hnw:∀{A B:World} {row:Option Nat},(∀r,row=some r→W1.heap.size≤r∧∃o:Obj,A.heap[r]? =some o∧o.isWalk=true)→(∀r,row=some r→w.heap.size≤r∧∃o:Obj,A.heap[r]? =some o∧o.isCells=false):=
   fun hr r e=>by obtain⟨hB,o,ho,hw⟩:=hr r e;exact⟨by rw[←hW1] at hB;simp at hB;omega,o,ho,Obj.not_cells_of_walk hw⟩
  refine(hseq (w.heap.size+1)
   (fun pre W=>I pre W∧W.heap[w.heap.size+1]? =some (.loop (rec .ready none))∧W.heap[w.heap.size]? =some (.deferred (some [])))
   (fun pre W=>∃c,Ix c pre W∧W.heap[w.heap.size+1]? =some (.loop (rec .done (some c)))∧W.heap[w.heap.size]? =some (.deferred (some [])))
   W1 hb1
   (fun s A B row hs hg' hr=>⟨hI s A B row hs.1 hg' (hnw (B:=B) hr),(grownBy_keeps hg' (fun r e=>(hr r e).2) hs.2.1 rfl).trans hs.2.1,(grownBy_keeps hg' (fun r e=>(hr r e).2) hs.2.2 rfl).trans hs.2.2⟩)
   (fun s A B row hs hg' hr=>by
     obtain⟨c,hc,hl,hk⟩:=hs
     exact⟨c,hIx c s A B row hc hg' (hnw (B:=B) hr),(grownBy_keeps hg' (fun r e=>(hr r e).2) hl rfl).trans hl,(grownBy_keeps hg' (fun r e=>(hr r e).2) hk rfl).trans hk⟩)
   ?_ ⟨hI1,hL1,hK1⟩).mono ?_
  ·rintro pre x W ⟨hi,hl,hk⟩ hlen
   have hy:=run_yield (P:=P) (args:=(encs x).toArray) hl (by rw[hrec];simp[hps x])
   rw[hrec] at hy
   refine⟨fn,_,assign,body,hy,roundIn_of_wpIn hfn ?_⟩
   have e:(ps.toArray.zip (encs x).toArray).foldl (fun t (p,v)=>t.setIfInBounds p v) a.tmps=(ps.zip (encs x)).foldl (fun t (p,v)=>t.setIfInBounds p v) a.tmps:=by simp
   have hat:At N [] (J3 (ps.zip (encs x)) l) ⟨(ps.zip (encs x)).foldl (fun t (p,v)=>t.setIfInBounds p v) a.tmps,[]⟩:=by
    refine AK (N:=N) ?_ ⟨ha.size,rfl,ha.at_⟩
    simp only[List.all_eq_true] at hpN⊢
    rintro⟨p,v⟩ hp
    exact hpN p (List.of_mem_zip hp).1
   refine hassign (w.heap.size+1) x W _ (fun fr W' hx hAx a' ha'=>?_) _ (by rw[←e] at hat;exact hat)
   have hl':=hx.heap_some hl
   have hlt:w.heap.size+1<W'.heap.size:=(Array.getElem?_eq_some_iff.1 hl').1
   have hiW:I pre W':=hI pre W W' none hi ⟨hx.os,hx.tape,hx.output,hx.size,fun _ h _=>hx.heap h⟩ fun r e=>by cases e
   refine⟨_,run_beginRound hl' (by rw[hrec]),?_⟩
   have hb:({rec .ready none with state:=.busy}:Loop)=rec .busy none:=by rw[hrec]
   rw[hb]
   have hl2:(W'.putObj (w.heap.size+1) (.loop (rec .busy none))).heap[w.heap.size+1]? =some (.loop (rec .busy none)):=World.putObj_heap_same hlt
   have hk2:(W'.putObj (w.heap.size+1) (.loop (rec .busy none))).heap[w.heap.size]? =some (.deferred (some [])):=(World.putObj_heap_other (by omega)).trans (hx.heap_some hk)
   have hw2:Kp W (W'.putObj (w.heap.size+1) (.loop (rec .busy none))):=hKt (hKe (by have:=(Array.getElem?_eq_some_iff.1 hl).1;omega) hx) (hKb _ _ _ _ (by omega) hl' rfl rfl)
   refine wpIn_mono (hbody _ pre x fr _ (hI.putObj _ hiW (by omega) hl' Ll) (hA x fr _ _ _ _ hAx hl' Ll) hlen a' ha') ?_
   rintro e a3 W3 hp
   obtain⟨jump,r,W4,hj,hr,hcase⟩:=Ff (P:=P) (Kp:=Kp) (fun h k=>hKt h k) hKb hI hIx hset (L:=w.heap.size+1) (D0:=w.heap.size) (by omega) (Nat.le_refl _) (by omega) hw2 hl2 hk2 hp
   cases e with
   |normal=>
    subst hj
    refine⟨_,_,hr,?_⟩
    rcases hcase with⟨rfl,h1,h2⟩|⟨rfl,h1⟩
    ·exact .inl ⟨rfl,h1,h2⟩
    ·exact .inr ⟨rfl,h1⟩
   |ret=>
    subst hj
    refine⟨_,_,hr,?_⟩
    rcases hcase with⟨rfl,h1,h2⟩|⟨rfl,h1⟩
    ·exact .inl ⟨rfl,h1,h2⟩
    ·exact .inr ⟨rfl,h1⟩
   |exit id=>
    subst hj
    refine⟨_,_,hr,?_⟩
    rcases hcase with⟨rfl,h1,h2⟩|⟨rfl,h1⟩
    ·exact .inl ⟨rfl,h1,h2⟩
    ·exact .inr ⟨rfl,h1⟩
   |goto t=>
    subst hj
    refine⟨_,_,hr,?_⟩
    rcases hcase with⟨rfl,h1,h2⟩|⟨rfl,h1⟩
    ·exact .inl ⟨rfl,h1,h2⟩
    ·exact .inr ⟨rfl,h1⟩
   |panic ch=>exact hp.elim
   |outgrown=>exact hp.elim
  ·rintro e W2 ⟨⟨v,rfl⟩,(⟨xs,hS,hi,hl,hk⟩|⟨pre,hSp,c,hi,hl,hk⟩)⟩
   ·exact⟨none,_,by have:=run_endLoop (P:=P) hl (by rw[hrec];simp);rw[hrec] at this;exact this,hdone _ xs _ (Nat.le_refl _) hS (hI.putObj _ hi (by omega) hl rfl) ((World.putObj_heap_other (by omega)).trans hk) _ ⟨ha.size,by simp[ha.defers],ha.at_⟩⟩
   ·exact⟨some c,_,by have:=run_endLoop (P:=P) hl (by rw[hrec];simp);rw[hrec] at this;exact this,wpIn_wide.2 (hstop _ c pre _ (Nat.le_refl _) hSp ((hIx c).putObj _ hi (by omega) hl rfl) ((World.putObj_heap_other (by omega)).trans hk) _ ⟨ha.size,by simp[ha.defers],ha.at_⟩)⟩
end
end Go.Rl
namespace Go.Rl
open Go.RowKit Go.Proofs Go.Proofs.YtaajaakbcelmfaaGreatDoor
theorem lX:ay Tryz.prog 97:=⟨_,Tryz.func97,by kernel_rfl,rfl⟩
theorem Az {w:World} {cs:List Value}:
 Calls Tryz.prog 95 #[.agg cs.toArray] w (bE fun r w'=>aI w w'∧r=.func (.func 137) #[] #[.pointer (some ⟨w.heap.size,0,none⟩)]∧w'=w.alloc (.cells cs.toArray 83)):=by
 refine enter (vs:=[.agg cs.toArray]) Tryz.func95 Ll Ll Ll ?_
 refine af (aa (cL Ll Ll (nU) (ac Ll Ll (ag (ab (af (aa ?_)))))))
 refine la (us:=[]) (vs:=[.pointer (some ⟨w.heap.size,0,none⟩)]) Ll Ll Ll ?_
 refine ac Ll Ll (ag (ab (av (aG Ll Ll ?_))))
 exact⟨_,rfl,aI.new _ _,rfl,rfl⟩
theorem Ce {w0 w:World} {lp:Nat} {J Jx:List (pb w0)→World→Prop} {n:aP} {vl x y vk vp:Value} {Bs:Nat} (hJ:∀s W W',J s W→aI W W'→J s W')
 (hY:∀(pre:List (pb w0)) (x:pb w0) (W:World),J pre W→pre.length<(eJ n).length→YieldAt Fence.wide 0 Tryz.prog lp x.enc.toArray W fun e W'=>(e=.returned (.bool true)∧J (pre++[x]) W'∧Kc w0.heap.size W W')∨(e=.returned (.bool false)∧Jx (pre++[x]) W'))
 (hv:fv n=true) (k:cd Bs 83 [vl,I n.split.kd,I n.split.ix,B n.split.at_.1,x,y,vk,B n.empty,vp] w) (hE:aI w0 w) (ho:AD w) (hl:df eI n.lems vl w0) (hx:bo n.split.at_.2.1 x w0) (hy:bo n.split.at_.2.2 y w0) (hk:df bM n.kids vk w0) (hp:df dk n.pf vp w0) (hs:sN n) (h0:J [] w):
 Calls Tryz.prog 137 #[.func (.yield lp) #[] #[],.pointer (some ⟨Bs,0,none⟩)] w (bE fun _ w'=>(∃xs:List (pb w0),xs.map (·.n)=eJ n∧J xs w')∨∃xs:List (pb w0),xs.map (·.n)<+:eJ n∧Jx xs w'):=by
 refine enter (vs:=[.func (.yield lp) #[] #[],.pointer (some ⟨Bs,0,none⟩)]) Tryz.func137 Ll Ll Ll ?_
 have hlw:=hl.ext hE
 have hxw:=hx.ext hE
 have hyw:=hy.ext hE
 have hkw:=hk.ext hE
 have hpw:=hp.ext hE
 refine af (aa (am Ll Ll (k.ld KM Ll (by kernel_rfl)) (an jH Ll Ll ((qR hlw hxw hyw hkw hpw)) ?_)))
 rintro v4 w4 ⟨x4,rfl⟩
 refine ag (ab ?_)
 refine fS Ll (fun h4=>?_) (fun h4=>?_)
 ·refine aa (am Ll Ll ((k.ext x4).ld KM Ll (by kernel_rfl)) (ae Ll Ll ?_))
  have hok:yC 2048 n=true:=by
   have h:=hv
   unfold fv at h
   exact(Bool.and_eq_true _ _▸h).1
  refine an uJ Ll Ll (uL (M:=(eJ n).length) hJ hY 2048 n hok _ [] [] _ _ _ _ _ _ (fun a v hv=>(hE.trans x4).cell_some hv) (hE.trans x4).size (ho.ext x4) (df.nil _ _) (by simp) hl hx hy hk hp hs (hJ _ _ _ h0 x4) (by simp)) ?_
  rintro v7 w7 hR
  refine ag (gq Ll ?_)
  exact⟨_,rfl,by
   rcases hR with⟨_,_,vs,h1,h2⟩|⟨_,vs,h1,h2⟩
   ·exact .inl ⟨vs,h1,by simpa using h2⟩
   ·exact .inr ⟨vs,h1,by simpa using h2⟩⟩
 ·rw[hv] at h4
  cases h4
theorem AA {w0 w:World} {n:aP} {vl x y vk vp:Value} {Bs:Nat} (hv:fv n=true) (k:cd Bs 83 [vl,I n.split.kd,I n.split.ix,B n.split.at_.1,x,y,vk,B n.empty,vp] w) (hE:aI w0 w) (ho:AD w) (hl:df eI n.lems vl w0) (hx:bo n.split.at_.2.1 x w0) (hy:bo n.split.at_.2.2 y w0) (hk:df bM n.kids vk w0) (hp:df dk n.pf vp w0) (hs:sN n):
 SeqStopsK Fence.wide 1 Tryz.prog 137 #[.pointer (some ⟨Bs,0,none⟩)] (fun x:pb w0=>x.enc.toArray) (Kc w0.heap.size) (fun xs=>xs.map (·.n)=eJ n) (fun pre=>pre.map (·.n)<+:eJ n) (eJ n).length w:=by
 intro lp J Jx W hW hJ _ hY h0
 have hW:aI w W:=hW
 refine callsIn_wide.2 ?_
 have ea:(#[.func (.yield lp) #[] #[]]:Array Value)++ #[.pointer (some ⟨Bs,0,none⟩)]= #[.func (.yield lp) #[] #[],.pointer (some ⟨Bs,0,none⟩)]:=by simp
 rw[ea]
 exact Calls.mono (Ce (fun s A B hs hx=>hJ s A B none hs hx.grownNone fun r e=>by cases e) hY hv (k.ext hW) (hE.trans hW) (ho.ext hW) hl hx hy hk hp hs h0) fun e W' h=>by obtain⟨r,rfl,h⟩:=h;exact⟨⟨r,rfl⟩,h⟩
theorem gH {w:World} {q:fQ} {x y:Value} (hx:bo q.2.1 x w) (hy:bo q.2.2 y w) (hs:sQ q):
 Calls Tryz.prog 96 #[.agg #[B q.1,x,y]] w (bE fun r w'=>aI w w'∧r=B (lJ q)):=
 mJ (b:=q.1) ⟨x,y,rfl,hx,hy⟩ (by have:=hs.1;omega) (by have:=hs.2;omega)
theorem lY {w:World} {l:List dl} {v:Value} (hv:df dk l v w) (hs:sP l):
 Calls Tryz.prog 97 #[v] w (bE fun r w'=>aI w w'∧r=B (ya l)):=by
 refine enter (vs:=[v]) Tryz.func97 Ll Ll Ll ?_
 have hll:=hv.len
 refine af (aa (ac Ll Ll (ag (ab (af (af (aa (ae Ll Ll (aQ Ll Ll (bR KW hv) (ae Ll Ll (ag (ab ?_))))))))))))
 refine ax ?_
 refine bZ (α:=Nat) (fun i=>[(5,v),(6,I (l.length:Int)),(7,I (i:Int))]) (fun i w'=>aI w w'∧i≤l.length∧(l.all fun m:dl=>lJ m.co)=((l.drop i).all fun m:dl=>lJ m.co)) (fun i=>l.length-i) (0) ⟨rfl,rfl,rfl,trivial⟩ ⟨aI.refl _,by omega,rfl⟩ ?_
 rintro i wL ⟨eL,hi,hall⟩
 refine af (aa (ai Ll Ll Ll (aW) (ag (ab (af ?_)))))
 refine bi Ll (fun h8=>?_) (fun h8=>?_)
 ·refine ar (ab (af (ax (af (aa ?_)))))
  obtain⟨a9,c9,p9,q9,h9⟩:=dN (P:=Tryz.prog) (sz:=7) KW (by kernel_rfl) ey (by omega) (hv.ext eL) (i:=i) (by omega) .i64
  obtain⟨e9,he9⟩:∃e,e=l[i]'(by omega):=⟨_,rfl⟩
  rw[←he9] at h9
  obtain⟨x9_0,x9_1,rfl,f9_0,f9_1⟩:=ju h9
  refine aA Ll Ll Ll (p9 _) (am Ll Ll (q9.ld K3 Ll (by kernel_rfl)) ?_)
  obtain⟨g4,w4,hr4,l4,x4,k4⟩:=be (P:=Tryz.prog) (w:=wL) (t:=216) (z:=.agg #[I 0,I 0,I 0,I 0,B false,.slice none 0 0,.slice none 0 0]) (l:=[I 0,I 0,I 0,I 0,B false,.slice none 0 0,.slice none 0 0]) (by kernel_rfl) rfl
  refine bf Ll hr4 ?_
  obtain⟨w3_3,s3_3,q3_3,k3_3⟩:=k4.stS (P:=Tryz.prog) (t:=216) (m:=[I e9.kd,I e9.ix,I e9.lo,I e9.hi,B e9.co.1,x9_0,x9_1]) rfl (by kernel_rfl) (aD.cons rfl (aD.cons rfl (aD.cons rfl (aD.cons rfl (aD.cons rfl (aD.cons f9_0.one (aD.cons f9_1.one aD.nil)))))))
  refine aq Ll Ll s3_3 ?_
  have x3_3:=aI.of_new (x4) q3_3 l4
  refine ag (ab (af (aa (ah rfl rfl (aF (o:=4) Tryz.underlying216 rfl (by kernel_rfl) rfl) (am rfl rfl (k3_3.ldO (ms:=[B e9.co.1,x9_0,x9_1]) (o:=4) (fun j v hj=>by rcases j with _|_|_|_|_|_|_|_|_|j<;>simp_all) Tryz.underlying55 rfl (by kernel_rfl)) ?_)))))
  refine an eR Ll Ll ((gH (q:=e9.co) (f9_0.ext x3_3) (f9_1.ext x3_3) (hs e9 (by rw[he9];exact List.getElem_mem _)))) ?_
  rintro v13 w13 ⟨x13,rfl⟩
  refine bI Ll Ll bK (ag (ab ?_))
  refine fS Ll (fun h14=>?_) (fun h14=>?_)
  ·have hno:lJ (l[i]'(by omega)).co=false:=by rw[←he9];rw[Bool.not_eq_true'] at h14;exact h14
   refine af (aa (ac Ll Ll (ag (ab (av (aV (au (au (aV (au (aG Ll Ll ?_)))))))))))
   exact⟨_,rfl,((eL.trans x3_3).trans x13),congrArg B (qY (p:=fun m:dl=>lJ m.co) (by omega) hall hno).symm⟩
  ·have hyes:lJ (l[i]'(by omega)).co=true:=by rw[←he9];rw[Bool.not_eq_false'] at h14;exact h14
   refine ar (aJ (ab (aa (ai (r:=I ((i+1:Nat):Int)) Ll Ll Ll (by have e:((i+1:Nat):Int)=(i:Int)+1:=(by omega);rw[e];exact aK (by omega) (by omega)) ?_))))
   refine ae Ll Ll (ag ?_)
   refine bQ (i+1) ⟨rfl,rfl,rfl,trivial⟩ ⟨((eL.trans x3_3).trans x13),by omega,uF (p:=fun m:dl=>lJ m.co) (by omega) hall hyes⟩ (by omega)
 ·refine aY (aB (aB (aX (ab (af (aa (ac Ll Ll (ag (ab (av (aG Ll Ll ?_)))))))))))
  exact⟨_,rfl,eL,congrArg B (pY (p:=fun m:dl=>lJ m.co) (by omega) hall).symm⟩
end Go.Rl
namespace Go.Rl
open Go.RowKit Go.Proofs Go.Proofs.YtaajaakbcelmfaaGreatDoor
theorem Fg:(Tryz.prog.info? 4).map (·.zero)=some (some (B false)):=by kernel_rfl
theorem iM:(Tryz.prog.info? 4).map (·.size)=some 1:=by kernel_rfl
theorem Fh {Bn:Nat} {w w1:World} (h:aI w w1):KeepsFrom Bn w w1:=⟨h.size,fun _ _ _ hk _=>h.heap_some hk⟩
theorem lZ {Bn g:Nat} {w w1 w2:World} {T:TypeId} {l:List Value} (h:aI w w1) (k:cd g T l w1) (hg:w1.grownBy w2 (some g)):KeepsFrom Bn w w2:=⟨Nat.le_trans h.size hg.size,fun n o _ hn ho=>by
 have h1:=h.heap_some hn
 have hne:some n≠some g:=fun e=>by
  have e':n=g:=Option.some.inj e
  rw[e',show w1.heap[g]? =some (.cells l.toArray T (0,0)) from k] at h1
  cases h1
  cases ho
 exact(hg.block n (Array.getElem?_eq_some_iff.1 h1).1 hne).trans h1⟩
def Iw {w:World} (g2:Nat) (x:pb w) (fr:Fr) (W:World):Prop:=∃g4,fr=[(4,.pointer (some ⟨g4,0,none⟩)),(2,.pointer (some ⟨g2,0,none⟩))]∧cd g4 83 [x.vl,I x.n.split.kd,I x.n.split.ix,B x.n.split.at_.1,x.x,x.y,x.vk,B x.n.empty,x.vp] W
theorem Iw.put {w:World} {g2:Nat} {x:pb w} {fr:Fr} {W:World} {k:Nat} {o o':Obj} (h:Iw g2 x fr W) (hk:W.heap[k]? =some o) (ho:o.isCells=false):Iw g2 x fr (W.putObj k o'):=by
 obtain⟨g4,h1,h2⟩:=h
 refine⟨g4,h1,?_⟩
 have:g4≠k:=by
  rintro rfl
  have h2':W.heap[g4]? =some (.cells _ _ (0,0)):=h2
  rw[h2'] at hk
  cases hk
  cases ho
 exact(World.putObj_heap_other this).trans h2
theorem Iy {w:World} {n:aP} {xs:List (pb w)} (h:xs.map (·.n)=eJ n) (hok:∀v∈xs,Hu v.n=true):i0 n=true:=by
 rw[uI,←h,List.all_map]
 exact List.all_eq_true.2 fun v hv=>hok v hv
theorem Iz {w:World} {n:aP} {xs:List (pb w)} (h:xs.map (·.n)<+:eJ n) {v:pb w} (hv:v∈xs) (hno:Hu v.n=false):i0 n=false:=by
 rw[uI]
 refine Bool.eq_false_iff.2 fun hall=>?_
 have:=List.all_eq_true.1 hall v.n (h.subset (List.mem_map_of_mem (f:=fun x:pb w=>x.n) hv))
 rw[hno] at this
 cases this
theorem Fi {w:World} {n:aP} {vl x y vk vp:Value} (ho:AD w) (hs:sN n) (hl:df eI n.lems vl w) (hx:bo n.split.at_.2.1 x w) (hy:bo n.split.at_.2.2 y w) (hk:df bM n.kids vk w) (hp:df dk n.pf vp w):
 Calls Tryz.prog 45 #[.agg #[vl,I n.split.kd,I n.split.ix,B n.split.at_.1,x,y,vk,B n.empty,vp]] w (bE fun r w'=>aI w w'∧r=B (fv n&&i0 n)):=by
 refine Fy (vs:=[.agg #[vl,I n.split.kd,I n.split.ix,B n.split.at_.1,x,y,vk,B n.empty,vp]]) Tryz.func45 Ll Ll Ll ?_
 refine af (aa ?_)
 obtain⟨g1,w1,hr1,l1,x1,k1⟩:=dc (P:=Tryz.prog) (w:=w) (T:=83) (cs:=[vl,I n.split.kd,I n.split.ix,B n.split.at_.1,x,y,vk,B n.empty,vp])
 refine cL Ll Ll hr1 ?_
 obtain⟨g2,w2,hr2,l2,x2,k2⟩:=be (P:=Tryz.prog) (w:=w1) (l:=[B false]) Fg rfl
 refine bf Ll hr2 (ag (ab (af (af (aa (am Ll Ll ((k1.ext x2).ld KM Ll (by kernel_rfl)) (an jH Ll Ll ((qR (hl.ext (x1.trans x2)) (hx.ext (x1.trans x2)) (hy.ext (x1.trans x2)) (hk.ext (x1.trans x2)) (hp.ext (x1.trans x2)))) ?_)))))))
 rintro v8 w8 ⟨x8,rfl⟩
 refine bI Ll Ll bK (ag (ab ?_))
 refine fS Ll (fun h9=>?_) (fun h9=>?_)
 ·have hval:fv n=false:=by simpa using h9
  refine af (aa ?_)
  obtain⟨ws,rs,grs,ks⟩:=gj (P:=Tryz.prog) (t:=4) (v:=B false) iM rfl (k2.ext x8)
  refine aq Ll Ll rs ?_
  have xs:=aI.of_new (((x1.trans x2).trans x8)) grs (Nat.le_trans x1.size l2)
  refine ag (ab (av (au ?_)))
  refine Hv Ll Ll ks KU Ll ?_
  exact⟨_,rfl,xs,by rw[hval];rfl⟩
 ·have hval:fv n=true:=by simpa using h9
  refine ar (ab (af (af (aa (am Ll Ll ((k1.ext (x2.trans x8)).ld KM Ll (by kernel_rfl)) (an Aw Ll Ll ((Az (cs:=[vl,I n.split.kd,I n.split.ix,B n.split.at_.1,x,y,vk,B n.empty,vp]))) ?_))))))
  rintro v11 w11 ⟨x11,rfl,hw11⟩
  refine ag (ab (ax ?_))
  have bs:cd w8.heap.size 83 [vl,I n.split.kd,I n.split.ix,B n.split.at_.1,x,y,vk,B n.empty,vp] w11:=by rw[hw11];exact heap_alloc_new _ _
  have e11:aI w w11:=(((x1.trans x2).trans x8).trans x11)
  have k211:cd g2 4 [B false] w11:=k2.ext (x8.trans x11)
  refine yz (α:=pb w) (encs:=pb.enc) (Kp:=Kc w.heap.size) (S:=fun xs=>xs.map (·.n)=eJ n) (Sp:=fun pre=>pre.map (·.n)<+:eJ n) (M:=(eJ n).length) (w0:=w11) Ll Ax (AA hval bs e11 (ho.ext e11) hl hx hy hk hp hs) (fun h k=>h.trans k) (fun h x=>Kc.of_ext x (Nat.le_trans e11.size h)) (fun W l o o' hl' ho1 hc _=>Kc.put (Nat.le_trans e11.size hl') ho1 hc) (Below.refl _ _) (fun _=>rfl) (fun pre W=>Kc w.heap.size w11 W∧∀v∈pre,Hu v.n=true) (fun c pre W=>c=.ret∧aI w W∧cd g2 4 [B false] W∧∃v∈pre,Hu v.n=false) (fun s W W' row hs hg hr=>⟨hs.1.trans (Kc.own hg (fun r e=>⟨Nat.le_trans e11.size (hr r e).1,(hr r e).2⟩) (Nat.le_trans e11.size hs.1.size)),hs.2⟩) (fun c s W W' row hs hg hr=>⟨hs.1,hs.2.1.of_grown hg (fun r e=>Nat.le_trans e11.size (hr r e).1),hs.2.2.1.other hg (fun e=>by have:=(hr g2 e.symm).1;have:=k211.lt;omega),hs.2.2.2⟩) ⟨Kc.refl _ _,by simp⟩ (Iw g2) (fun x fr W k o o' h hk ho=>h.put hk ho) Ll ?_ ?_ ?_ ?_
  ·intro lp x W K hK
   refine I.aa Ll ?_ (hQ:=fU fun⟨_,_,h⟩=>h)
   obtain⟨g4,w4,hr4,l4,x4,k4⟩:=be (P:=Tryz.prog) (w:=W) (t:=83) (z:=.agg #[.slice none 0 0,I 0,I 0,B false,.slice none 0 0,.slice none 0 0,.slice none 0 0,B false,.slice none 0 0]) (l:=[.slice none 0 0,I 0,I 0,B false,.slice none 0 0,.slice none 0 0,.slice none 0 0,B false,.slice none 0 0]) (by kernel_rfl) rfl
   obtain⟨w5,s5,q5,k5⟩:=k4.stS (P:=Tryz.prog) (t:=83) (m:=[x.vl,I x.n.split.kd,I x.n.split.ix,B x.n.split.at_.1,x.x,x.y,x.vk,B x.n.empty,x.vp]) rfl (by kernel_rfl) (aD.cons x.hl.one (aD.cons rfl (aD.cons rfl (aD.cons rfl (aD.cons x.hx.one (aD.cons x.hy.one (aD.cons x.hk.one (aD.cons rfl (aD.cons x.hp.one aD.nil)))))))))
   exact bf rfl hr4 (aq rfl rfl s5 (ag fun a ha=>hK _ _ (aI.of_new x4 q5 l4) ⟨g4,rfl,k5⟩ a (ha.weak ⟨rfl,rfl,trivial⟩)))
  ·rintro lp pre v _ W ⟨hI,hpre⟩ ⟨g4,rfl,k4⟩ hlen
   have eW:aI w W:=hI.ext e11
   have k2W:=hI.blk k211
   have hlW:=v.hl.ext eW
   have hxW:=v.hx.ext eW
   have hyW:=v.hy.ext eW
   have hkW:=v.hk.ext eW
   have hpW:=v.hp.ext eW
   obtain⟨sl,ss,sp,_⟩:=(yx v.n).1 v.hs
   have hll:=hlW.len
   refine I.ax (I.af (I.af ?_))
   rcases hc1:lJ v.n.split.at_
   rotate_left
   rcases hc2:ya v.n.pf
   ·refine I.aa Ll (ah Ll Ll (aF (o:=1) KM Ll (by kernel_rfl) Ll) (ah Ll Ll (jI (b:=1) (o:=2) KT Ll (by kernel_rfl) Ll) ?_))
    refine am rfl rfl (k4.ldO (ms:=[B v.n.split.at_.1,v.x,v.y]) (o:=3) (fun j v hj=>by rcases j with _|_|_|_|_|_|_|_|_|j<;>simp_all) Tryz.underlying55 rfl (by kernel_rfl)) ?_
    refine an eR Ll Ll ((by have h:=gH (q:=v.n.split.at_) (hxW.ext (aI.refl _)) (hyW.ext (aI.refl _)) ss;rw[hc1] at h;exact h)) ?_
    rintro v17 w17 ⟨x17,rfl⟩
    refine bI Ll Ll bK (ae Ll Ll (al Ll (ah Ll Ll (aF (o:=8) KM Ll (by kernel_rfl) Ll) (al Ll (am Ll Ll (aj KW Ll (x17.cell_some (k4.cell (i:=8) Ll))) ?_)))))
    refine al Ll (an lX Ll Ll ((by have h:=lY (l:=v.n.pf) (hpW.ext (x17)) sp;rw[hc2] at h;exact h)) ?_)
    rintro v22 w22 ⟨x22,rfl⟩
    refine al Ll (bI Ll Ll bK (aC Ll Ll Ll (ag (I.ab (I.bB Ll (I.af (I.aa Ll ?_)))))))
    have xW:=(x17.trans x22)
    obtain⟨ws,rs,grs,ks⟩:=gj (P:=Tryz.prog) (t:=4) (v:=B false) iM rfl (k2W.ext xW)
    refine aq Ll Ll rs ?_
    refine ag (I.ab (I.av (au (aV ?_))))
    exact fun _ _=>⟨lZ xW (k2W.ext xW) grs,rfl,(eW.trans xW).of_new grs (Nat.le_trans x1.size l2),ks,v,by simp,by unfold Hu;rw[hc1,hc2];rfl⟩
   ·refine I.aa Ll (ah Ll Ll (aF (o:=1) KM Ll (by kernel_rfl) Ll) (ah Ll Ll (jI (b:=1) (o:=2) KT Ll (by kernel_rfl) Ll) ?_))
    refine am rfl rfl (k4.ldO (ms:=[B v.n.split.at_.1,v.x,v.y]) (o:=3) (fun j v hj=>by rcases j with _|_|_|_|_|_|_|_|_|j<;>simp_all) Tryz.underlying55 rfl (by kernel_rfl)) ?_
    refine an eR Ll Ll ((by have h:=gH (q:=v.n.split.at_) (hxW.ext (aI.refl _)) (hyW.ext (aI.refl _)) ss;rw[hc1] at h;exact h)) ?_
    rintro v17 w17 ⟨x17,rfl⟩
    refine bI Ll Ll bK (ae Ll Ll (al Ll (ah Ll Ll (aF (o:=8) KM Ll (by kernel_rfl) Ll) (al Ll (am Ll Ll (aj KW Ll (x17.cell_some (k4.cell (i:=8) Ll))) ?_)))))
    refine al Ll (an lX Ll Ll ((by have h:=lY (l:=v.n.pf) (hpW.ext (x17)) sp;rw[hc2] at h;exact h)) ?_)
    rintro v22 w22 ⟨x22,rfl⟩
    refine al Ll (bI Ll Ll bK (aC Ll Ll Ll (ag (I.ab (I.cp Ll (I.ar (I.ab (I.af (I.aa Ll (ah Ll Ll (aF (o:=0) KM Ll (by kernel_rfl) Ll) ?_))))))))))
    refine am Ll Ll (aj KZ Ll ((x17.trans x22).cell_some (k4.cell (i:=0) Ll))) (aQ Ll Ll (bR KZ (hlW.ext (x17.trans x22))) ?_)
    refine ae Ll Ll (ag (I.ab (I.ax ?_)))
    refine I.bZ (α:=Nat) (fun i=>[(2,.pointer (some ⟨g2,0,none⟩)),(26,v.vl),(27,I (v.n.lems.length:Int)),(28,I (i:Int))]) (fun i w'=>aI W w'∧i≤v.n.lems.length∧v.n.lems.all oQ=(v.n.lems.drop i).all oQ) (fun i=>v.n.lems.length-i) (0) ⟨rfl,rfl,rfl,rfl,trivial⟩ ⟨(x17.trans x22),by omega,rfl⟩ ?_
    rintro i wL ⟨eL,hi,hall⟩
    refine I.af (I.aa Ll (ai Ll Ll Ll (aW) (ag (I.ab (I.af ?_)))))
    refine I.bi Ll (fun h29=>?_) (fun h29=>?_)
    ·refine I.ar (I.ab (I.af (I.ax (I.af ?_))))
     obtain⟨em,hem⟩:∃em,em=v.n.lems[i]'(by omega):=⟨_,rfl⟩
     have hsm:=sl em (by rw[hem];exact List.getElem_mem _)
     rcases hc3:lJ em.va
     rotate_left
     rcases hc4:ya em.pf
     ·refine I.aa Ll ?_
      obtain⟨a30,c30,p30,q30,h30⟩:=dN (P:=Tryz.prog) (sz:=6) KZ (by kernel_rfl) dX (by omega) (hlW.ext eL) (i:=i) (by omega) .i64
      rw[←hem] at h30
      obtain⟨x30_0,x30_1,x30_2,rfl,f30_0,f30_1,f30_2⟩:=kJ h30
      refine aA Ll Ll Ll (p30 _) (am Ll Ll (q30.ld KX Ll (by kernel_rfl)) ?_)
      obtain⟨g6,w6,hr6,l6,x6,k6⟩:=be (P:=Tryz.prog) (w:=wL) (t:=147) (z:=.agg #[I 0,B false,B false,.slice none 0 0,.slice none 0 0,.slice none 0 0]) (l:=[I 0,B false,B false,.slice none 0 0,.slice none 0 0,.slice none 0 0]) (by kernel_rfl) rfl
      refine bf Ll hr6 ?_
      obtain⟨w9_3,s9_3,q9_3,k9_3⟩:=k6.stS (P:=Tryz.prog) (t:=147) (m:=[I em.un,B em.up,B em.va.1,x30_0,x30_1,x30_2]) rfl (by kernel_rfl) (aD.cons rfl (aD.cons rfl (aD.cons rfl (aD.cons f30_0.one (aD.cons f30_1.one (aD.cons f30_2.one aD.nil))))))
      refine aq Ll Ll s9_3 ?_
      have x9_3:=aI.of_new (x6) q9_3 l6
      refine ag (I.ab (I.af (I.aa rfl (ah rfl rfl (aF (o:=2) Tryz.underlying147 rfl (by kernel_rfl) rfl) (am rfl rfl (k9_3.ldO (ms:=[B em.va.1,x30_0,x30_1]) (o:=2) (fun j v hj=>by rcases j with _|_|_|_|_|_|_|_|_|j<;>simp_all) Tryz.underlying55 rfl (by kernel_rfl)) ?_)))))
      refine an eR Ll Ll ((by have h:=gH (q:=em.va) (f30_0.ext x9_3) (f30_1.ext x9_3) hsm.1;rw[hc3] at h;exact h)) ?_
      rintro v34 w34 ⟨x34,rfl⟩
      refine bI Ll Ll bK (ae Ll Ll (al Ll (ah Ll Ll (aF (o:=5) KX Ll (by kernel_rfl) Ll) (al Ll (am Ll Ll (aj KW Ll (x34.cell_some (k9_3.cell (i:=5) Ll))) ?_)))))
      refine al Ll (an lX Ll Ll ((by have h:=lY (l:=em.pf) (f30_2.ext (x9_3.trans x34)) hsm.2;rw[hc4] at h;exact h)) ?_)
      rintro v39 w39 ⟨x39,rfl⟩
      refine al Ll (bI Ll Ll bK (aC Ll Ll Ll (ag (I.ab (I.bB Ll (I.af (I.aa Ll ?_)))))))
      have xW:=(((eL.trans x9_3).trans x34).trans x39)
      obtain⟨ws,rs,grs,ks⟩:=gj (P:=Tryz.prog) (t:=4) (v:=B false) iM rfl (k2W.ext xW)
      refine aq Ll Ll rs ?_
      refine ag (I.ab (I.av (aV (au (au (aV (aV ?_)))))))
      exact fun _ _=>⟨lZ xW (k2W.ext xW) grs,rfl,(eW.trans xW).of_new grs (Nat.le_trans x1.size l2),ks,v,by simp,by unfold Hu;rw[qY (p:=oQ) (i:=i) (by omega) hall (by rw[←hem];unfold oQ;rw[hc3,hc4];rfl),Bool.and_false]⟩
     ·refine I.aa Ll ?_
      obtain⟨a30,c30,p30,q30,h30⟩:=dN (P:=Tryz.prog) (sz:=6) KZ (by kernel_rfl) dX (by omega) (hlW.ext eL) (i:=i) (by omega) .i64
      rw[←hem] at h30
      obtain⟨x30_0,x30_1,x30_2,rfl,f30_0,f30_1,f30_2⟩:=kJ h30
      refine aA Ll Ll Ll (p30 _) (am Ll Ll (q30.ld KX Ll (by kernel_rfl)) ?_)
      obtain⟨g6,w6,hr6,l6,x6,k6⟩:=be (P:=Tryz.prog) (w:=wL) (t:=147) (z:=.agg #[I 0,B false,B false,.slice none 0 0,.slice none 0 0,.slice none 0 0]) (l:=[I 0,B false,B false,.slice none 0 0,.slice none 0 0,.slice none 0 0]) (by kernel_rfl) rfl
      refine bf Ll hr6 ?_
      obtain⟨w9_3,s9_3,q9_3,k9_3⟩:=k6.stS (P:=Tryz.prog) (t:=147) (m:=[I em.un,B em.up,B em.va.1,x30_0,x30_1,x30_2]) rfl (by kernel_rfl) (aD.cons rfl (aD.cons rfl (aD.cons rfl (aD.cons f30_0.one (aD.cons f30_1.one (aD.cons f30_2.one aD.nil))))))
      refine aq Ll Ll s9_3 ?_
      have x9_3:=aI.of_new (x6) q9_3 l6
      refine ag (I.ab (I.af (I.aa rfl (ah rfl rfl (aF (o:=2) Tryz.underlying147 rfl (by kernel_rfl) rfl) (am rfl rfl (k9_3.ldO (ms:=[B em.va.1,x30_0,x30_1]) (o:=2) (fun j v hj=>by rcases j with _|_|_|_|_|_|_|_|_|j<;>simp_all) Tryz.underlying55 rfl (by kernel_rfl)) ?_)))))
      refine an eR Ll Ll ((by have h:=gH (q:=em.va) (f30_0.ext x9_3) (f30_1.ext x9_3) hsm.1;rw[hc3] at h;exact h)) ?_
      rintro v34 w34 ⟨x34,rfl⟩
      refine bI Ll Ll bK (ae Ll Ll (al Ll (ah Ll Ll (aF (o:=5) KX Ll (by kernel_rfl) Ll) (al Ll (am Ll Ll (aj KW Ll (x34.cell_some (k9_3.cell (i:=5) Ll))) ?_)))))
      refine al Ll (an lX Ll Ll ((by have h:=lY (l:=em.pf) (f30_2.ext (x9_3.trans x34)) hsm.2;rw[hc4] at h;exact h)) ?_)
      rintro v39 w39 ⟨x39,rfl⟩
      refine al Ll (bI Ll Ll bK (aC Ll Ll Ll (ag (I.ab (I.cp Ll (I.ar (aJ (I.ab (I.aa Ll (ai (r:=I ((i+1:Nat):Int)) Ll Ll Ll (by have e:((i+1:Nat):Int)=(i:Int)+1:=(by omega);rw[e];exact aK (by omega) (by omega)) ?_))))))))))
      refine ae Ll Ll (ag ?_)
      refine bQ (i+1) ⟨rfl,rfl,rfl,rfl,trivial⟩ ⟨(((eL.trans x9_3).trans x34).trans x39),by omega,uF (p:=oQ) (by omega) hall (by rw[←hem];unfold oQ;rw[hc3,hc4];rfl)⟩ (by omega)
     ·refine I.aa Ll ?_
      obtain⟨a30,c30,p30,q30,h30⟩:=dN (P:=Tryz.prog) (sz:=6) KZ (by kernel_rfl) dX (by omega) (hlW.ext eL) (i:=i) (by omega) .i64
      rw[←hem] at h30
      obtain⟨x30_0,x30_1,x30_2,rfl,f30_0,f30_1,f30_2⟩:=kJ h30
      refine aA Ll Ll Ll (p30 _) (am Ll Ll (q30.ld KX Ll (by kernel_rfl)) ?_)
      obtain⟨g6,w6,hr6,l6,x6,k6⟩:=be (P:=Tryz.prog) (w:=wL) (t:=147) (z:=.agg #[I 0,B false,B false,.slice none 0 0,.slice none 0 0,.slice none 0 0]) (l:=[I 0,B false,B false,.slice none 0 0,.slice none 0 0,.slice none 0 0]) (by kernel_rfl) rfl
      refine bf Ll hr6 ?_
      obtain⟨w9_3,s9_3,q9_3,k9_3⟩:=k6.stS (P:=Tryz.prog) (t:=147) (m:=[I em.un,B em.up,B em.va.1,x30_0,x30_1,x30_2]) rfl (by kernel_rfl) (aD.cons rfl (aD.cons rfl (aD.cons rfl (aD.cons f30_0.one (aD.cons f30_1.one (aD.cons f30_2.one aD.nil))))))
      refine aq Ll Ll s9_3 ?_
      have x9_3:=aI.of_new (x6) q9_3 l6
      refine ag (I.ab (I.af (I.aa rfl (ah rfl rfl (aF (o:=2) Tryz.underlying147 rfl (by kernel_rfl) rfl) (am rfl rfl (k9_3.ldO (ms:=[B em.va.1,x30_0,x30_1]) (o:=2) (fun j v hj=>by rcases j with _|_|_|_|_|_|_|_|_|j<;>simp_all) Tryz.underlying55 rfl (by kernel_rfl)) ?_)))))
      refine an eR Ll Ll ((by have h:=gH (q:=em.va) (f30_0.ext x9_3) (f30_1.ext x9_3) hsm.1;rw[hc3] at h;exact h)) ?_
      rintro v34 w34 ⟨x34,rfl⟩
      refine bI Ll Ll bK (ae Ll Ll (ao Ll Ll Ll (ao Ll Ll Ll (ao Ll Ll Ll (ao Ll Ll Ll (aw Ll Ll Ll (ag (I.ab (I.bB Ll (I.af (I.aa Ll ?_)))))))))))
      have xW:=((eL.trans x9_3).trans x34)
      obtain⟨ws,rs,grs,ks⟩:=gj (P:=Tryz.prog) (t:=4) (v:=B false) iM rfl (k2W.ext xW)
      refine aq Ll Ll rs ?_
      refine ag (I.ab (I.av (aV (au (au (aV (aV ?_)))))))
      exact fun _ _=>⟨lZ xW (k2W.ext xW) grs,rfl,(eW.trans xW).of_new grs (Nat.le_trans x1.size l2),ks,v,by simp,by unfold Hu;rw[qY (p:=oQ) (i:=i) (by omega) hall (by rw[←hem];unfold oQ;rw[hc3];rfl),Bool.and_false]⟩
    ·refine I.aY (aB (aB (aX (aJ ?_))))
     exact fun _ _=>⟨Fh eL,Kc.of_ext eL eW.size,hI.trans (Kc.of_ext eL eW.size),fun u hu=>by
      rcases List.mem_append.1 hu with hu|hu
      ·exact hpre u hu
      ·obtain rfl:=List.mem_singleton.1 hu
       unfold Hu
       rw[hc1,hc2,pY (p:=oQ) (by omega) hall];rfl⟩
   ·refine I.aa Ll (ah Ll Ll (aF (o:=1) KM Ll (by kernel_rfl) Ll) (ah Ll Ll (jI (b:=1) (o:=2) KT Ll (by kernel_rfl) Ll) ?_))
    refine am rfl rfl (k4.ldO (ms:=[B v.n.split.at_.1,v.x,v.y]) (o:=3) (fun j v hj=>by rcases j with _|_|_|_|_|_|_|_|_|j<;>simp_all) Tryz.underlying55 rfl (by kernel_rfl)) ?_
    refine an eR Ll Ll ((by have h:=gH (q:=v.n.split.at_) (hxW.ext (aI.refl _)) (hyW.ext (aI.refl _)) ss;rw[hc1] at h;exact h)) ?_
    rintro v17 w17 ⟨x17,rfl⟩
    refine bI Ll Ll bK (ae Ll Ll (ao Ll Ll Ll (ao Ll Ll Ll (ao Ll Ll Ll (ao Ll Ll Ll (aw Ll Ll Ll (ag (I.ab (I.bB Ll (I.af (I.aa Ll ?_)))))))))))
    have xW:=x17
    obtain⟨ws,rs,grs,ks⟩:=gj (P:=Tryz.prog) (t:=4) (v:=B false) iM rfl (k2W.ext xW)
    refine aq Ll Ll rs ?_
    refine ag (I.ab (I.av (au (aV ?_))))
    exact fun _ _=>⟨lZ xW (k2W.ext xW) grs,rfl,(eW.trans xW).of_new grs (Nat.le_trans x1.size l2),ks,v,by simp,by unfold Hu;rw[hc1];rfl⟩
  ·rintro D0 xs W hD hxs ⟨hI,hok⟩ hDe
   have eW:aI w W:=hI.ext e11
   have k2W:=hI.blk k211
   refine aJ (ab (af (aa ?_)))
   obtain⟨ws,rs,grs,ks⟩:=gj (P:=Tryz.prog) (t:=4) (v:=B true) iM rfl k2W
   refine aq Ll Ll rs ?_
   have hDs:ws.heap[D0]? =some (.deferred (some [])):=(grs.block D0 (Array.getElem?_eq_some_iff.1 hDe).1 (fun e=>by have:=Option.some.inj e;have:=k211.lt;omega)).trans hDe
   have xs':=eW.of_new grs (Nat.le_trans x1.size l2)
   refine ag (ab (av ?_))
   refine Av Ll Ll ks KU Ll hDs ?_
   exact fun w' hg=>⟨_,rfl,xs'.of_grown hg (fun r e=>by cases e;exact Nat.le_trans e11.size hD),by rw[hval,Iy hxs hok];rfl⟩
  ·rintro D0 _ pre W hD hSp ⟨rfl,eW,k2W,v,hv,hno⟩ hDe
   refine av (aV (au ?_))
   refine Av Ll Ll k2W KU Ll hDe ?_
   exact fun w' hg=>⟨_,rfl,eW.of_grown hg (fun r e=>by cases e;exact Nat.le_trans e11.size hD),by rw[hval,Iz hSp hv hno];rfl⟩
end Go.Rl
namespace Go.Rl
open Go.RowKit Go.Proofs
end Go.Rl
namespace Go.Rl
open Go.RowKit Go.Proofs Go.Proofs.YtaajaakbcelmfaaGreatDoor
theorem wI {α:Type} {f:List UInt8→Option (α×List UInt8)} {P:α→Prop} {K:Nat} (hf:Le f) (h:∀l a t,f l=some (a,t)→l.length≤K→P a):∀(n:Nat) (l:List UInt8) (xs:List α) (t:List UInt8),cr f n l=some (xs,t)→l.length≤K→∀x∈xs,P x
 |0,l,xs,t,e,_=>by
  simp only[cr,Option.some.injEq,Prod.mk.injEq] at e
  rw[←e.1]
  exact fun _ h=>by simp at h
 |n+1,l,xs,t,e,hl=>by
  simp only[cr] at e
  obtain⟨p,h1,h2⟩:=Option.bind_eq_some_iff.1 e
  obtain⟨q,h3,h4⟩:=Option.map_eq_some_iff.1 h2
  simp only[Prod.mk.injEq] at h4
  have h5:=hf l p.1 p.2 h1
  have ih:=wI hf h n p.2 q.1 q.2 h3 (by omega)
  rw[←h4.1]
  intro x hx
  rcases List.mem_cons.1 hx with rfl|hx
  ·exact h l _ p.2 h1 hl
  ·exact ih x hx
theorem oZ {α:Type} {f:List UInt8→Option (α×List UInt8)} {P:α→Prop} {K:Nat} (hf:Le f) (h:∀l a t,f l=some (a,t)→l.length≤K→P a) {l t:List UInt8} {xs:List α} (e:gC f l=some (xs,t)) (hl:l.length≤K):∀x∈xs,P x:=by
 unfold gC at e
 obtain⟨p,h1,h2⟩:=Option.bind_eq_some_iff.1 e
 have:=jc l p.1 p.2 h1
 exact wI hf h _ _ _ _ h2 (by omega)
theorem qZ {l t:List UInt8} {q:fQ} (h:j6 l=some (q,t)) (hl:l.length≤4294967296):sQ q:=by
 have h1:=(sy h).1
 have h2:=zR q
 have h3:=congrArg List.length h1
 rw[List.length_append] at h3
 exact⟨by omega,by omega⟩
theorem Cf {l t:List UInt8} {m:dl} (h:qK l=some (m,t)) (hl:l.length≤4294967296):sQ m.co:=by
 unfold qK at h
 obtain⟨p1,h1,h⟩:=Option.bind_eq_some_iff.1 h
 obtain⟨p2,h2,h⟩:=Option.bind_eq_some_iff.1 h
 obtain⟨p3,h3,h⟩:=Option.bind_eq_some_iff.1 h
 obtain⟨p4,h4,h⟩:=Option.bind_eq_some_iff.1 h
 obtain⟨p5,h5,h⟩:=Option.bind_eq_some_iff.1 h
 simp only[Option.some.injEq,Prod.mk.injEq] at h
 obtain⟨rfl,rfl⟩:=h
 have a1:=dI _ _ _ h1;have a2:=dI _ _ _ h2;have a3:=dI _ _ _ h3;have a4:=dI _ _ _ h4
 exact qZ (q:=p5.1) (t:=p5.2) h5 (by omega)
theorem wJ {l t:List UInt8} {xs:List dl} (h:uO l=some (xs,t)) (hl:l.length≤4294967296):sP xs:=oZ su.le (fun _ _ _ h hl=>Cf h hl) h hl
theorem Cg {l t:List UInt8} {m:fB} (h:mq l=some (m,t)) (hl:l.length≤4294967296):sL m:=by
 unfold mq at h
 obtain⟨p1,h1,h⟩:=Option.bind_eq_some_iff.1 h
 obtain⟨p2,h2,h⟩:=Option.bind_eq_some_iff.1 h
 obtain⟨p3,h3,h⟩:=Option.bind_eq_some_iff.1 h
 obtain⟨p4,h4,h⟩:=Option.bind_eq_some_iff.1 h
 simp only[Option.some.injEq,Prod.mk.injEq] at h
 obtain⟨rfl,rfl⟩:=h
 have a1:=dI _ _ _ h1;have a2:=j0 1 _ _ _ h2;have a3:=qJ _ _ _ h3
 exact⟨qZ (q:=p3.1) (t:=p3.2) h3 (by omega),wJ (xs:=p4.1) (t:=p4.2) h4 (by omega)⟩
theorem o0:∀(k:Nat) (l t:List UInt8) (n:aP),nR k l=some (n,t)→l.length≤4294967296→sN n
 |0,_,_,_,h,_=>by cases h
 |k+1,l,t,n,h,hl=>by
  simp only[nR] at h
  obtain⟨p1,h1,h⟩:=Option.bind_eq_some_iff.1 h
  obtain⟨p2,h2,h⟩:=Option.bind_eq_some_iff.1 h
  have a1:=j0 2 _ _ _ h1;have a2:=kB _ _ _ h2
  have s2:=oZ sv.le (fun _ _ _ h hl=>Cg h hl) (xs:=p2.1) (t:=p2.2) h2 (by omega)
  split at h
  ·obtain⟨p3,h3,h⟩:=Option.bind_eq_some_iff.1 h
   simp only[Option.some.injEq,Prod.mk.injEq] at h
   obtain⟨rfl,rfl⟩:=h
   refine(yx _).2 ⟨s2,⟨?_,?_⟩,wJ (xs:=p3.1) (t:=p3.2) h3 (by omega),fun _ h=>?_⟩
   ·show([]:List UInt32).length≤_;simp
   ·show([]:List UInt32).length≤_;simp
   ·simp[aP.kids] at h
  ·obtain⟨p3,h3,h⟩:=Option.bind_eq_some_iff.1 h
   obtain⟨p4,h4,h⟩:=Option.bind_eq_some_iff.1 h
   obtain⟨p5,h5,h⟩:=Option.bind_eq_some_iff.1 h
   simp only[Option.some.injEq,Prod.mk.injEq] at h
   obtain⟨rfl,rfl⟩:=h
   have a3:=mX _ _ _ h3;have a4:=nG _ _ _ _ h4
   have s4:=o0 k _ p4.2 p4.1 h4 (by omega)
   have s5:=o0 k _ p5.2 p5.1 h5 (by omega)
   have sd:sQ p3.1.at_:=by
    unfold xG at h3
    obtain⟨q1,i1,h3⟩:=Option.bind_eq_some_iff.1 h3
    obtain⟨q2,i2,h3⟩:=Option.bind_eq_some_iff.1 h3
    obtain⟨q3,i3,h3⟩:=Option.bind_eq_some_iff.1 h3
    have b1:=dI _ _ _ i1;have b2:=dI _ _ _ i2
    simp only[Option.some.injEq] at h3
    rw[←h3]
    exact qZ (q:=q3.1) (t:=q3.2) i3 (by omega)
   refine(yx _).2 ⟨s2,sd,fun _ h=>by simp[aP.pf] at h,fun c hc=>?_⟩
   simp only[aP.kids,List.mem_cons,List.not_mem_nil,or_false] at hc
   rcases hc with rfl|rfl
   ·exact s4
   ·exact s5
theorem Ch {l t:List UInt8} {ts:List aP} (h:mr l=some (ts,t)) (hl:l.length≤4294967296):∀n∈ts,sN n:=oZ lz.le (fun l _ _ h hl=>o0 l.length l _ _ h hl) h hl
theorem AE {w:World} {d b:List UInt8} {v:Value} (hd:d.length=32) (hv:cm b v w) (ho:AD w):
 Calls Tryz.prog 5 #[.agg (d.map U8).toArray,v] w (bE fun r w'=>r=B true∧aI w w'):=by
 refine enter (vs:=[.agg (d.map U8).toArray,v]) Tryz.func5 Ll Ll Ll ?_
 refine af (aa ?_)
 obtain⟨g2,w2,hr2,l2,x2,k2⟩:=dc (P:=Tryz.prog) (w:=w) (T:=22) (cs:=d.map U8)
 refine cL Ll Ll hr2 ?_
 refine ac Ll Ll (ag (ab (af (af (aa (an qi Ll Ll (qj) ?_))))))
 rintro v12 w12 ⟨x12,rfl⟩
 refine bI Ll Ll bK (ae Ll Ll (al Ll (ae Ll Ll (al Ll (aQ Ll Ll (bC (hv.ext (x2.trans x12))) (al Ll (ai Ll Ll Ll (ck) (aC Ll Ll Ll ?_))))))))
 refine ag (ab ?_)
 refine bi Ll (fun h18=>?_) (fun h18=>?_)
 ·refine af (aa (an qi Ll Ll (qj) ?_))
  rintro v19 w19 ⟨x19,rfl⟩
  refine ac Ll Ll (ag (ab (av (au (aG Ll Ll ?_)))))
  exact⟨_,rfl,rfl,((x2.trans x12).trans x19)⟩
 ·refine ar (ab (af ?_))
  have hlb:b.length≤400:=by omega
  have hpk:=lM (d:=b) (by omega)
  refine bz 4 [2,23] (by kernel_rfl) (by kernel_rfl) ?_
  refine aE rfl rfl (fun w hw=>((k2.ext (x12)).ext hw).ld La rfl (by rw[List.length_map,hd];exact j5)) (ap rfl rfl (ce (S:=cm (bS b)) ue (cm.stable _) rfl (fun w hw=>by rintro _ rfl;exact bE.mono (ug ((hv.ext ((x2.trans x12))).ext hw) (by omega)) fun v w' h=>h) ?_))
  refine ce (S:=cm (eS d (bS b))) Ca (cm.stable _) rfl (fun w hw=>by rintro _ rfl _ h22;exact bE.mono (Cc hd h22 (by omega)) fun v w' h=>⟨h.1,h.2.bts⟩) ?_
  refine bF ?_
  intro wg3 xg3
  rintro _ rfl
  intro vg23 b23
  refine ac Ll Ll (ag (ab (af ?_)))
  obtain⟨fl,hfl⟩:∃fl,fl=eS d (bS b):=⟨_,rfl⟩
  have hln:fl.length≤1048576:=by rw[hfl,kQ hd];omega
  have hds:jM fl=match uy b with
   |some ts=>if ts.all fv=true then((d,ts),0) else(ww,1)
   |none=>(ww,5):=by rw[hfl];exact wy hd (by omega) (by rw[←hfl];exact hln)
  have b23:cm fl vg23 wg3:=by rw[hfl];exact b23
  refine aa (ae Ll Ll (an pZ Ll Ll ((p6 b23)) ?_))
  rintro v26 w26 ⟨x26,v27,rfl,r27⟩
  obtain⟨c,hc⟩:∃c,c=jM fl:=⟨_,rfl⟩
  rw[←hc] at r27
  have hcd:=Ik fl
  rw[←hc] at hcd
  have t27:df bM c.1.2 v27 w26:=r27.rp
  rw[←hc]
  refine ae Ll Ll (ak Ll Ll (aT) (ak Ll Ll (aU) ?_))
  obtain⟨g6,w6,hr6,l6,x6,k6⟩:=be (P:=Tryz.prog) (w:=w26) (t:=25) (z:=.agg (gk im en).toArray) (l:=gk im en) qX rfl
  refine bf Ll hr6 ?_
  obtain⟨w7,s7,q7,k7⟩:=fw (d:=c.1.1) (v:=v27) k6 rfl hcd t27.one
  refine aq Ll Ll s7 ?_
  have x7:=aI.of_new x6 q7 l6
  refine ac Ll Ll (ag (ab (af (aa (ae Ll Ll (an yv Ll Ll ((yw (b23.ext (x26.trans x7)))) ?_))))))
  rintro v31 w31 ⟨x31,v32,rfl,r32⟩
  rw[←hc] at r32
  have t32:df bM c.1.2 v32 w31:=r32.rp
  rw[←hc]
  refine ae Ll Ll (ak Ll Ll (aT) (ak Ll Ll (aU) ?_))
  obtain⟨g8,w8,hr8,l8,x8,k8⟩:=be (P:=Tryz.prog) (w:=w31) (t:=25) (z:=.agg (gk im en).toArray) (l:=gk im en) qX rfl
  refine bf Ll hr8 ?_
  obtain⟨w9,s9,q9,k9⟩:=fw (d:=c.1.1) (v:=v32) k8 rfl hcd t32.one
  refine aq Ll Ll s9 ?_
  have x9:=aI.of_new x8 q9 l8
  have k79:=(k7.ext x31).ext x9
  refine ac Ll Ll (ag (ab (af (af (aa (ae Ll Ll (ae Ll Ll (ai Ll Ll Ll (cf (fun h=>h Ll) bL) (ae Ll Ll (al Ll ?_))))))))))
  refine am Ll Ll (yu k79 hcd) ?_
  refine al Ll ?_
  refine am Ll Ll (yu k9 hcd) ?_
  refine al Ll (an BT Ll Ll ((BX hcd (t27.ext (((x7.trans x31).trans x9))) (t32.ext (x9)))) ?_)
  rintro v40 w40 ⟨x40,rfl⟩
  refine al Ll (bI Ll Ll bK (aC Ll Ll Ll (ag (ab (cp Ll (ar (ab (af (af ?_)))))))))
  rcases htr:uy b with _|ts
  rotate_left
  rcases hva:ts.all fv
  ·have h2:c.2=1:=by rw[hc,hds,htr];simp[hva]
   refine aa (ae Ll Ll (ai Ll Ll Ll (cg (by rw[h2];decide) bL) (ag (ab (bB Ll (af (aa (ae Ll Ll (ai Ll Ll Ll (cf (by rw[h2];decide) aZ) ?_)))))))))
   refine ae Ll Ll (al Ll (ae Ll Ll (al Ll (ai Ll Ll Ll (cg h2 aZ) (aC Ll Ll Ll (ac Ll Ll (ag (ab (av (au (aG Ll Ll ?_)))))))))))
   exact⟨_,rfl,rfl,(((((((x2.trans x12).trans xg3).trans x26).trans x7).trans x31).trans x9).trans x40)⟩
  ·have hcc:c=((d,ts),0):=by rw[hc,hds,htr];simp[hva]
   have h2:c.2=0:=by rw[hcc]
   have hts:c.1.2=ts:=by rw[hcc]
   have hdd:c.1.1=d:=by rw[hcc]
   obtain⟨i1,_,i3⟩:=zQ (yp htr)
   have hw:∀n∈ts,wN n:=fun n hn=>(i3 n hn).2
   have hs:=Ch (yp htr) (by omega)
   have hen:eF ts=b:=by rw[List.append_nil] at i1;exact i1.symm
   have hec:=Hc (d:=d) (by omega) (by rw[←hfl];exact hln) htr hva
   rw[←hfl] at hec
   rw[hts] at t27
   rw[hdd] at k79 k7
   refine aa (ae Ll Ll (ai Ll Ll Ll (cf (fun h=>h h2) bL) (ag (ab (cp Ll (ar (ab (af (aa ?_)))))))))
   refine am Ll Ll (yu (k79.ext (x40)) hd) ?_
   refine an p7 Ll Ll ((qh (ts:=ts) hd (t27.ext ((((x7.trans x31).trans x9).trans x40))) (fun n hn=>fun {_ _ _ _ _ _} e h1 h2 h3 h4 h5=>Fi ((ho.ext ((((((((x2.trans x12).trans xg3).trans x26).trans x7).trans x31).trans x9).trans x40))).ext e) (hs n hn) h1 h2 h3 h4 h5) hw (by rw[hen];omega))) ?_
   rintro v53 w53 ⟨x53,v54,rfl,o54⟩
   rw[hec] at o54
   have b54:cm fl v54 w53:=o54.bts
   rw[hec]
   refine ae Ll Ll (ak Ll Ll (aT) (ak Ll Ll (aU) (ac Ll Ll (ac Ll Ll (ag (ab (af (aa (ae Ll Ll (ai Ll Ll Ll (cg Ll aZ) ?_))))))))))
   refine ae Ll Ll (al Ll (ae Ll Ll (al Ll (aR Ll Ll (nT b54) (al Ll (ae Ll Ll (al Ll (aR Ll Ll (nT (b23.ext (((((x26.trans x7).trans x31).trans x9).trans x40).trans x53))) ?_))))))))
   refine al Ll (ai Ll Ll Ll (cg Ll xd) (aw Ll Ll Ll (ae Ll Ll (al Ll ?_))))
   refine ah Ll Ll uD ?_
   refine al Ll ?_
   refine am Ll Ll (BV (k79.ext ((x40.trans x53))) hd) ?_
   refine al Ll ?_
   refine am Ll Ll ((k2.ext ((((((((x12.trans xg3).trans x26).trans x7).trans x31).trans x9).trans x40).trans x53))).ld La Ll (by rw[List.length_map,hd];exact j5)) ?_
   refine al Ll ?_
   refine ai (r:=B true) Ll Ll Ll (by rw[Kz hd hd];simp) ?_
   refine aw Ll Ll Ll (ac Ll Ll (ag (ab (av (aG Ll Ll ?_)))))
   exact⟨_,rfl,rfl,((((((((x2.trans x12).trans xg3).trans x26).trans x7).trans x31).trans x9).trans x40).trans x53)⟩
  ·have h2:c.2=5:=by rw[hc,hds,htr]
   refine aa (ae Ll Ll (ai Ll Ll Ll (cg (by rw[h2];decide) bL) (ag (ab (bB Ll (af (aa (ae Ll Ll (ai Ll Ll Ll (cg h2 aZ) ?_)))))))))
   refine ae Ll Ll (ao Ll Ll Ll (ao Ll Ll Ll (aw Ll Ll Ll (ac Ll Ll (ag (ab (av (au (aG Ll Ll ?_)))))))))
   exact⟨_,rfl,rfl,(((((((x2.trans x12).trans xg3).trans x26).trans x7).trans x31).trans x9).trans x40)⟩
end Go.Rl

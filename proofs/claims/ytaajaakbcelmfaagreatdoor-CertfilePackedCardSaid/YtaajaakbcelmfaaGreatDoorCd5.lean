/- Part 5 of a proof: plain facts and walks of functions, merged by a program. Conditions: each lemma names its own. -/
import Derived.Test.YtaajaakbcelmfaaGreatDoorCd4
namespace Go.Rl
open Go.RowKit Go.Proofs
theorem Dj:az Tryz.prog 76:=⟨_,Tryz.func76,by kernel_rfl,rfl⟩
theorem HM:(Tryz.prog.info? 203).map (·.zero)=some (some (.agg (List.replicate 8 (U8 0)).toArray)):=by kernel_rfl
theorem yU {g k:Nat} {v:Value} (h:v.ownBlock=some k) (hne:k≠g):Ap g v:=by
 rintro a n c rfl
 intro he
 have:some a.block=some k:=h
 exact hne (by rw[←Option.some.inj this];exact he)
theorem Gt (n:UInt64) {i:Nat} (hi:i<8):(xZ n).getD i 0=(n>>>UInt64.ofNat (56-8*i)).toUInt8:=by
 simp[xZ,hi]
section
variable {w:World} {g o:Nat} {T:TypeId}
theorem HN (i:Nat) (hi:i<8):(Instr.indexAt 203 (.pointer (some ⟨g,0,none⟩)) (I (i:Int))).run Tryz.prog w=.ok (.pointer (some ⟨g,i,none⟩)) w:=by
 have:=AT (P:=Tryz.prog) (w:=w) (g:=g) (o:=0) Tryz.underlying203 fC hi .i64
 rwa [Nat.zero_add] at this
theorem HO:(Instr.sliceAt 203 (.pointer (some ⟨g,0,none⟩)) none none none).run Tryz.prog w=.ok (.slice (some ⟨g,0,none⟩) 8 8) w:=by
 simp[Instr.sliceAt,run_underlying Tryz.underlying203,Instr.sureAddr,Instr.sliceBounds,dE fC,Addr.add_mid]
theorem cd.bts {m:List UInt8} (h:cd g T (m.map U8) w) (hm:m.length≤64):cm m (.slice (some ⟨g,0,none⟩) m.length m.length) w:=
 ⟨_,_,_,rfl,Nat.le_refl _,by unfold maxLen;omega,by simp,fun _=>⟨_,rfl,fun j v hj=>by rw[Addr.add_mid,Nat.zero_add];exact h.cell hj⟩,fun h=>by cases h⟩
end
theorem Dk {w:World} {g:Nat} {m:List UInt8} (hh:HA g m (UInt64.ofNat m.length) w):
 Calls Tryz.prog 76 #[.pointer (some ⟨g,0,none⟩)] w (bF fun r w'=>aM w w'∧r=.agg ((iV m).map U8).toArray):=by
 obtain⟨blk,hc,ht⟩:=hh
 refine enter (vs:=[.pointer (some ⟨g,0,none⟩)]) Tryz.func76 Jg Jg Jg ?_
 obtain⟨g2,w1,hr,n2,x1,b2⟩:=bf (P:=Tryz.prog) (w:=w) (l:=(List.replicate 32 0).map U8) mh rfl
 refine af (aa (bh Jg hr (ag (ac (af (af (aa (ae Jg Jg ?_))))))))
 refine ai Jg Jg Jg (lP Tryz.underlying129) ?_
 refine ag (ac ?_)
 refine cq Jg ?_
 refine aq (ac (af (aa (ae Jg Jg ?_))))
 refine aG Jg Jg ?_
 refine am Jg Jg (hc.ext x1).ldH ?_
 obtain⟨g3,w2,hr,n3,x2,b3⟩:=bf (P:=Tryz.prog) (w:=w1) (l:=cX (List.replicate 8 0) (List.replicate 64 0) 0 0) Dd rfl
 refine bh Jg hr ?_
 have hl:=gn (u:=((m.length%64:Nat):Int)) (tot:=UInt64.ofNat m.length) hc.ls hc.lb
 refine ar Jg Jg (gW b3 (by rw[hl];rfl) (by rw[hl];exact uT) IB) ?_
 have hA:HA g3 m (UInt64.ofNat m.length) (w2.setRow g3 (cX (sh m) blk ((m.length%64:Nat):Int) (UInt64.ofNat m.length)).toArray):=⟨blk,⟨b3.row _,hc.ls,hc.lb⟩,ht⟩
 have q3:=bo w2 g3 (cX (sh m) blk ((m.length%64:Nat):Int) (UInt64.ofNat m.length)).toArray
 have l23:g2<g3:=Nat.lt_of_lt_of_le b2.lt n3
 have ne23:some g2≠some g3:=fun h=>by cases h;omega
 have hw3:w.heap.size≤g3:=by omega
 have B2:=(b2.ext x2).other q3 ne23
 have E3:=(x1.trans x2).of_new q3 hw3
 revert hA B2 E3
 generalize w2.setRow g3 (cX (sh m) blk ((m.length%64:Nat):Int) (UInt64.ofNat m.length)).toArray=w3
 intro hA B2 E3
 refine ag (ac (af (aa ?_)))
 refine ah Jg Jg HL ?_
 obtain⟨blk',hcA,htA⟩:=id hA
 refine am Jg Jg (ak IL Jg hcA.cellT) ?_
 refine ai (v:=bj 8) Jg Jg Jg (fM) ?_
 refine ab Jg Jg (ag (ac (af (aa ?_))))
 obtain⟨r4,w4,hr,x4,o4,ob4⟩:=fq (w:=w3) w3.heap.size [128] (by simp) (Nat.le_refl _)
 refine aN (vs:=[(0,U8 128)]) Jg Jg hr ?_
 refine an ly Jg Jg (lz (hA.ext x4) o4.bts (fun _=>yU ob4 (by have:=hA.lt;omega))) ?_
 rintro _ w5 ⟨q5,h5⟩
 have B5:=(B2.ext x4).other q5 ne23
 have E5:=(E3.trans x4).of_new q5 hw3
 refine ag (ac ?_)
 have hp:gh m.length<64:=by unfold gh;omega
 refine af (eV (fun _:Unit=>[(2,.pointer (some ⟨g2,0,none⟩)),(3,.pointer (some ⟨g3,0,none⟩)),(4,bj (UInt64.ofNat m.length*8))]) (fun _ w'=>aM w w'∧cd g2 22 ((List.replicate 32 0).map U8) w'∧∃tot,HA g3 (m++[128]++List.replicate (gh m.length) 0) tot w') ?_ ?_)
 ·refine ax ?_
  refine bV (α:=Nat) (fun _=>[(2,.pointer (some ⟨g2,0,none⟩)),(3,.pointer (some ⟨g3,0,none⟩)),(4,bj (UInt64.ofNat m.length*8))])
   (fun k w'=>aM w w'∧cd g2 22 ((List.replicate 32 0).map U8) w'∧(∃tot,HA g3 (m++[128]++List.replicate k 0) tot w')∧k≤gh m.length) (fun k=>gh m.length-k) 0 ⟨rfl,rfl,rfl,trivial⟩
   ⟨E5,B5,⟨_,by simpa using h5⟩,by omega⟩ ?_
  rintro k w6 ⟨E6,B6,⟨tot,h6⟩,hk⟩
  obtain⟨blk6,hc6,ht6⟩:=id h6
  have hm:(m++[128]++List.replicate k 0).length=m.length+1+k:=by simp;omega
  refine af (af (aa ?_))
  refine ah Jg Jg De ?_
  refine am Jg Jg (ak IM Jg hc6.cellU) ?_
  refine ai Jg Jg Jg (bS) ?_
  refine ag (ac ?_)
  rw[hm]
  refine bi Jg (fun h=>?_) (fun h=>?_)
  ·have hlt:k<gh m.length:=by
    rcases Nat.lt_or_ge k (gh m.length) with h1|h1
    ·exact h1
    ·have:k=gh m.length:=by omega
     subst this
     exfalso
     unfold gh at h
     omega
   refine aq (ac (ax (aa ?_)))
   obtain⟨r7,w7,hr,x7,o7,ob7⟩:=fq (w:=w6) w6.heap.size [0] (by simp) (Nat.le_refl _)
   refine aN (vs:=[(0,U8 0)]) Jg Jg hr ?_
   refine an ly Jg Jg (lz (h6.ext x7) o7.bts (fun _=>yU ob7 (by have:=h6.lt;omega))) ?_
   rintro _ w8 ⟨q8,h8⟩
   refine ag (aJ ?_)
   rw[List.append_assoc _ (List.replicate k 0) [0],←List.replicate_succ'] at h8
   exact bM (k+1) ⟨rfl,rfl,rfl,trivial⟩ ⟨(E6.trans x7).of_new q8 hw3,(B6.ext x7).other q8 ne23,⟨_,h8⟩,hlt⟩ (by omega)
  ·have hk':k=gh m.length:=by
    unfold gh at hk hp⊢
    omega
   subst hk'
   exact aW (aA (aA (aU (cv () ⟨rfl,rfl,rfl,trivial⟩ ⟨E6,B6,tot,h6⟩))))
 rintro _ w6 ⟨E6,B6,tot6,h6⟩
 refine ac (af (aa ?_))
 obtain⟨bits,hbits⟩:∃b,b=UInt64.ofNat m.length*8:=⟨_,rfl⟩
 rw[←hbits]
 have hb8:=wK bits
 obtain⟨g5,w7,hr,n5,x7,b7⟩:=bf (P:=Tryz.prog) (w:=w6) (l:=(fh (xZ bits) 8 0).map U8) HM rfl
 refine bh Jg hr (ag (ac ?_))
 have l35:g3<g5:=Nat.lt_of_lt_of_le h6.lt n5
 have ne25:some g2≠some g5:=fun h=>by cases h;omega
 have ne35:some g3≠some g5:=fun h=>by cases h;omega
 refine af (eV (fun _:Unit=>[(2,.pointer (some ⟨g2,0,none⟩)),(3,.pointer (some ⟨g3,0,none⟩)),(5,.pointer (some ⟨g5,0,none⟩))]) (fun _ w'=>w7.grownBy w' (some g5)∧cd g5 203 ((xZ bits).map U8) w') ?_ ?_)
 ·refine af (aa (ae Jg Jg (ag (ac (ax ?_)))))
  refine bV (α:=Nat) (fun i=>[(2,.pointer (some ⟨g2,0,none⟩)),(3,.pointer (some ⟨g3,0,none⟩)),(4,bj bits),(5,.pointer (some ⟨g5,0,none⟩)),(27,I (i:Int))])
   (fun i w'=>w7.grownBy w' (some g5)∧cd g5 203 ((fh (xZ bits) 8 i).map U8) w'∧i≤8) (fun i=>8-i) 0 ⟨rfl,rfl,rfl,rfl,rfl,trivial⟩
   ⟨dj (aM.refl _),b7,by omega⟩ ?_
  rintro i w8 ⟨q8,b8,hi⟩
  refine af (aa ?_)
  refine ai Jg Jg Jg (aX) ?_
  refine ag (ac (af ?_))
  refine bi Jg (fun h=>?_) (fun h=>?_)
  ·have hi8:i<8:=by omega
   have hfl:=jk (j:=i) hb8 (by omega)
   have e6:(56:Int)-8*(i:Int)=((56-8*i:Nat):Int):=by omega
   refine aq (ac (af (ax (af (aa (ae Jg Jg (ab Jg Jg (ag (ac (aa (ae Jg Jg (ae Jg Jg (ae Jg Jg ?_)))))))))))))
   refine ai Jg Jg Jg (eR (by omega) (by omega)) ?_
   refine ai (r:=I ((56-8*i:Nat):Int)) Jg Jg Jg (by rw[←e6];exact bb (by omega) (by omega)) ?_
   refine ai Jg Jg Jg (du (56-8*i) (by omega)) ?_
   refine aQ Jg Jg (j4 IL IR) ?_
   refine aB Jg Jg Jg (HN i hi8) ?_
   refine ar Jg Jg (uQ b8 i (by omega)) ?_
   have b9:=b8.setB i (bits>>>UInt64.ofNat (56-8*i)).toUInt8
   have hset:(fh (xZ bits) 8 i).set i (bits>>>UInt64.ofNat (56-8*i)).toUInt8=fh (xZ bits) 8 (i+1):=by
    rw[←Gt bits hi8]
    exact jl hb8 hi8
   rw[hset] at b9
   refine ag (aJ (ac (aa ?_)))
   refine ai Jg Jg Jg (aK (by omega) (by omega)) ?_
   refine ae Jg Jg (ag ?_)
   exact bM (i+1) ⟨rfl,rfl,rfl,rfl,rfl,trivial⟩ ⟨q8.trans (aY w8 g5 i _),b9,by omega⟩ (by omega)
  ·have hi':i=8:=by omega
   subst hi'
   rw[pW hb8] at b8
   exact aW (aA (aA (aU (cv () ⟨rfl,rfl,rfl,trivial⟩ ⟨q8,b8⟩))))
 rintro _ w8 ⟨q8,b8⟩
 have E8:aM w w8:=(E6.trans x7).of_new q8 (by omega)
 have B8:=(B6.ext x7).other q8 ne25
 have h8:=(h6.ext x7).other q8 ne35
 refine ac (af (aa ?_))
 refine cu (a:=none) (b:=none) Jg Jg Jg Jg Jg HO ?_
 have bt8:=b8.bts (by omega)
 rw[hb8] at bt8
 refine an ly rfl rfl (lz h8 bt8 (by rintro _ a n c he;cases he;show g5≠g3;omega)) ?_
 rintro _ w9 ⟨q9,h9⟩
 have hpad:m++[128]++List.replicate (gh m.length) 0++xZ bits=eo m:=by rw[hbits];rfl
 rw[hpad] at h9
 have E9:=E8.of_new q9 hw3
 have B9:=B8.other q9 ne23
 refine ag (ac (af (aa ?_)))
 obtain⟨g7,w10,hr,n7,x10,b10⟩:=bf (P:=Tryz.prog) (w:=w9) (l:=(fh (iV m) 32 0).map U8) mh rfl
 refine bh Jg hr (ag (ac ?_))
 obtain⟨blk9,hc9,_⟩:=h9.ext x10
 have l37:g3<g7:=Nat.lt_of_lt_of_le h9.lt n7
 have ne27:some g2≠some g7:=fun h=>by cases h;omega
 have hs8:=Eu (eo m)
 have hdl:=dC m
 refine af (eV (fun _:Unit=>[(2,.pointer (some ⟨g2,0,none⟩)),(7,.pointer (some ⟨g7,0,none⟩))]) (fun _ w'=>w10.grownBy w' (some g7)∧cd g7 22 ((iV m).map U8) w') ?_ ?_)
 ·refine af (aa ?_)
  refine ah Jg Jg Gp ?_
  refine am Jg Jg hc9.ldS ?_
  refine ae Jg Jg (ag (ac (ax ?_)))
  refine bV (α:=Nat) (fun i=>[(2,.pointer (some ⟨g2,0,none⟩)),(7,.pointer (some ⟨g7,0,none⟩)),(42,.agg ((sh (eo m)).map bw).toArray),(43,I (i:Int))])
   (fun i w'=>w10.grownBy w' (some g7)∧cd g7 22 ((fh (iV m) 32 (4*i)).map U8) w'∧i≤8) (fun i=>8-i) 0 ⟨rfl,rfl,rfl,rfl,trivial⟩
   ⟨dj (aM.refl _),b10,by omega⟩ ?_
  rintro i w11 ⟨q11,b11,hi⟩
  refine af (aa ?_)
  refine ai Jg Jg Jg (aX) ?_
  refine ag (ac (af ?_))
  refine bi Jg (fun h=>?_) (fun h=>?_)
  ·have hi8:i<8:=by omega
   have e0:(4:Int)*(i:Int)=((4*i:Nat):Int):=by omega
   have e1:((4*i:Nat):Int)+1=((4*i+1:Nat):Int):=by omega
   have e2:((4*i:Nat):Int)+2=((4*i+2:Nat):Int):=by omega
   have e3:((4*i:Nat):Int)+3=((4*i+3:Nat):Int):=by omega
   have s0:=jk (j:=4*i) hdl (by omega)
   have s1:=jk (j:=4*i+1) hdl (by omega)
   have s2:=jk (j:=4*i+2) hdl (by omega)
   have s3:=jk (j:=4*i+3) hdl (by omega)
   refine aq (ac (af (ax (af (aa (ae Jg Jg ?_))))))
   refine kH Jg Jg Jg (DL (l:=(sh (eo m)).map bw) I9 dU IK hi8 .i64 (tu (by omega))) ?_
   refine ab Jg Jg (ab Jg Jg (ag (ac (aa (ae Jg Jg ?_)))))
   refine ai (r:=I ((4*i:Nat):Int)) Jg Jg Jg (by rw[←e0];exact eR (by omega) (by omega)) ?_
   refine ae Jg Jg ?_
   refine ai (r:=I ((4*i:Nat):Int)) Jg Jg Jg (by rw[←e0];exact eR (by omega) (by omega)) ?_
   refine ai (r:=I ((4*i+1:Nat):Int)) Jg Jg Jg (by rw[←e1];exact aK (by omega) (by omega)) ?_
   refine ae Jg Jg ?_
   refine ai (r:=I ((4*i:Nat):Int)) Jg Jg Jg (by rw[←e0];exact eR (by omega) (by omega)) ?_
   refine ai (r:=I ((4*i+2:Nat):Int)) Jg Jg Jg (by rw[←e2];exact aK (by omega) (by omega)) ?_
   refine ae Jg Jg ?_
   refine ai (r:=I ((4*i:Nat):Int)) Jg Jg Jg (by rw[←e0];exact eR (by omega) (by omega)) ?_
   refine ai (r:=I ((4*i+3:Nat):Int)) Jg Jg Jg (by rw[←e3];exact aK (by omega) (by omega)) ?_
   refine ae Jg Jg ?_
   refine ai Jg Jg Jg (db 24 (by omega)) ?_
   refine aQ Jg Jg (eY IK IR) ?_
   refine ae Jg Jg ?_
   refine ai Jg Jg Jg (db 16 (by omega)) ?_
   refine aQ Jg Jg (eY IK IR) ?_
   refine ae Jg Jg ?_
   refine ai Jg Jg Jg (db 8 (by omega)) ?_
   refine aQ Jg Jg (eY IK IR) ?_
   refine ae Jg Jg ?_
   refine aQ Jg Jg (eY IK IR) ?_
   have d0:(iV m).getD (4*i) 0=((sh (eo m)).getD i 0>>>UInt32.ofNat 24).toUInt8:=kz (sh (eo m)) i 0 (by omega) (by omega)
   have d1:(iV m).getD (4*i+1) 0=((sh (eo m)).getD i 0>>>UInt32.ofNat 16).toUInt8:=kz (sh (eo m)) i 1 (by omega) (by omega)
   have d2:(iV m).getD (4*i+2) 0=((sh (eo m)).getD i 0>>>UInt32.ofNat 8).toUInt8:=kz (sh (eo m)) i 2 (by omega) (by omega)
   have d3:(iV m).getD (4*i+3) 0=((sh (eo m)).getD i 0).toUInt8:=by
    have:=kz (sh (eo m)) i 3 (by omega) (by omega)
    rw[show UInt32.ofNat (24-8*3)=0 from rfl,UInt32.shiftRight_zero] at this
    exact this
   have f0:(fh (iV m) 32 (4*i)).set (4*i) ((iV m).getD (4*i) 0)=fh (iV m) 32 (4*i+1):=jl hdl (by omega)
   have f1:(fh (iV m) 32 (4*i+1)).set (4*i+1) ((iV m).getD (4*i+1) 0)=fh (iV m) 32 (4*i+2):=jl hdl (by omega)
   have f2:(fh (iV m) 32 (4*i+2)).set (4*i+2) ((iV m).getD (4*i+2) 0)=fh (iV m) 32 (4*i+3):=jl hdl (by omega)
   have f3:(fh (iV m) 32 (4*i+3)).set (4*i+3) ((iV m).getD (4*i+3) 0)=fh (iV m) 32 (4*(i+1)):=jl hdl (by omega)
   rw[d0] at f0
   rw[d1] at f1
   rw[d2] at f2
   rw[d3] at f3
   refine aB Jg Jg Jg (pV (4*i) (by omega)) ?_
   refine ar Jg Jg (uQ b11 (4*i) (by omega)) ?_
   have b12:=b11.setB (4*i) ((sh (eo m)).getD i 0>>>UInt32.ofNat 24).toUInt8
   rw[f0] at b12
   refine aB Jg Jg Jg (pV (4*i+1) (by omega)) ?_
   refine ar Jg Jg (uQ b12 (4*i+1) (by omega)) ?_
   have b13:=b12.setB (4*i+1) ((sh (eo m)).getD i 0>>>UInt32.ofNat 16).toUInt8
   rw[f1] at b13
   refine aB Jg Jg Jg (pV (4*i+2) (by omega)) ?_
   refine ar Jg Jg (uQ b13 (4*i+2) (by omega)) ?_
   have b14:=b13.setB (4*i+2) ((sh (eo m)).getD i 0>>>UInt32.ofNat 8).toUInt8
   rw[f2] at b14
   refine aB Jg Jg Jg (pV (4*i+3) (by omega)) ?_
   refine ar Jg Jg (uQ b14 (4*i+3) (by omega)) ?_
   have b15:=b14.setB (4*i+3) ((sh (eo m)).getD i 0).toUInt8
   rw[f3] at b15
   refine ag (aJ (ac (aa ?_)))
   refine ai Jg Jg Jg (aK (by omega) (by omega)) ?_
   refine ae Jg Jg (ag ?_)
   exact bM (i+1) ⟨rfl,rfl,rfl,rfl,trivial⟩ ⟨(((q11.trans (aY _ g7 (4*i) _)).trans (aY _ g7 (4*i+1) _)).trans (aY _ g7 (4*i+2) _)).trans (aY _ g7 (4*i+3) _),b15,by omega⟩ (by omega)
  ·have hi':i=8:=by omega
   subst hi'
   rw[show 4*8=32 from rfl,pW hdl] at b11
   exact aW (aA (aA (aU (cv () ⟨rfl,rfl,trivial⟩ ⟨q11,b11⟩))))
 rintro _ w11 ⟨q11,b11⟩
 have hsz:(Tryz.prog.info? 22).map (·.size)=some ((iV m).map U8).length:=by rw[List.length_map,dC];exact jC
 have F2:=(B9.ext x10).other q11 ne27
 have E11:aM w w11:=(E9.trans x10).of_new q11 (by omega)
 refine ac (af (aa ?_))
 refine am Jg Jg (lJ (m:=(iV m).map U8) b11 (fun j v h=>by rwa [Nat.zero_add]) I6 Jg hsz) ?_
 refine ar Jg Jg (gW F2 (by simp[dC]) hsz (pb _)) ?_
 refine ag (ac (au ?_))
 refine ep Jg Jg (F2.row _) I6 Jg hsz ?_
 exact⟨_,rfl,E11.of_new (bo _ _ _) n2,rfl⟩
end Go.Rl
namespace Go.Rl
open Go.RowKit Go.Proofs
theorem tw {P:Program} {w:World} {e:TypeId} (he:P.underlying e=some (.int .u8)) (d:Nat) (l m:List UInt8):∀(is:List Nat),(∀i∈is,i<l.length∧i<m.length)→
 (Op.eqItems (d+1) e 1 (l.map U8).toArray (m.map U8).toArray is).run P w=.ok (is.all fun i=>decide (l.getD i 0=m.getD i 0)) w
 |[],_=>rfl
 |i::is,h=>by
  obtain⟨hi,hj⟩:=h i (by simp)
  have hagg:(isAgg e).run P w=.ok false w:=by simp[isAgg,run_underlying he]
  have hpart:(part e (l.map U8).toArray (i*1)).run P w=.ok (U8 l[i]) w:=by simp[part,hagg,hi]
  have hpart':(part e (m.map U8).toArray (i*1)).run P w=.ok (U8 m[i]) w:=by simp[part,hagg,hj]
  have heq:(Op.equalIn (d+1) e (U8 l[i]) (U8 m[i])).run P w=.ok (decide (l[i]=m[i])) w:=by
   have:(decide ((l[i].toNat:Int)=(m[i].toNat:Int)))=decide (l[i]=m[i]):=by
    rw[decide_eq_decide]
    constructor
    ·intro h;exact UInt8.toNat_inj.1 (by omega)
    ·intro h;rw[h]
   rw[←this]
   simp[Op.equalIn,run_underlying he,U8]
   rfl
  have ih:=tw (w:=w) he d l m is fun j hj=>h j (by simp[hj])
  unfold Op.eqItems
  simp only[Sem.run_bind,hpart,hpart',Result.andThen_ok,heq]
  have e1:l.getD i 0=l[i]:=by simp[List.getD,hi]
  have e2:m.getD i 0=m[i]:=by simp[List.getD,hj]
  by_cases hq:l[i]=m[i]
  ·simp only[List.all_cons,e1,e2,hq,decide_true,Bool.true_and]
   simpa using ih
  ·simp only[List.all_cons,e1,e2,hq,decide_false,Bool.false_and]
   rfl
theorem Dl {l m:List UInt8} {n:Nat} (hl:l.length=n) (hm:m.length=n):((List.range n).all fun i=>decide (l.getD i 0=m.getD i 0))=decide (l=m):=by
 rw[Bool.eq_iff_iff]
 simp only[List.all_eq_true,List.mem_range,decide_eq_true_eq]
 constructor
 ·intro h
  refine List.ext_getElem (by omega) fun i h1 h2=>?_
  have:=h i (by omega)
  simpa [List.getD,h1,h2] using this
 ·rintro rfl i _;rfl
theorem qC {P:Program} {w:World} {t:TypeId} {x y:Operand} {a b:Array Value} (hg:P.eqGuardType P.depth t=false):(bin .neq t x y (.agg a) (.agg b)).run P w=(do pure (Value.bool (!(←Op.equal t (.agg a) (.agg b)))):Sem Value).run P w:=by
 show(do eqGuard .neq t x y (.agg a) (.agg b);binOp .neq t (.agg a) (.agg b):Sem Value).run P w=_
 rw[Sem.run_bind,run_eqGuard_agg (hm:=hg)]
 rfl
theorem Gu:Tryz.prog.eqGuardType Tryz.prog.depth 22=false:=by kernel_rfl
theorem Gv {w:World} {l m:List UInt8} (hl:l.length=32) (hm:m.length=32):(Op.equal 22 (.agg (l.map U8).toArray) (.agg (m.map U8).toArray)).run Tryz.prog w=.ok (decide (l=m)) w:=by
 show(Op.equalIn (9998+1+1) 22 _ _).run Tryz.prog w=_
 obtain⟨i,hi,_⟩:=info_parts oo
 rw[run_equalIn_array _ _ _ _ I6 hi]
 have hc:Tryz.prog.cellsOf 5=1:=by kernel_rfl
 rw[hc,tw Tryz.underlying5 9998 l m _ fun i hi=>by rw[hl,hm];simpa using hi]
 rw[Dl hl hm]
theorem G0 {w:World} {x y:Operand} {l m:List UInt8} (hl:l.length=32) (hm:m.length=32):(bin .neq 22 x y (.agg (l.map U8).toArray) (.agg (m.map U8).toArray)).run Tryz.prog w=.ok (B (decide (l≠m))) w:=by
 rw[qC Gu,Sem.run_bind,Gv hl hm]
 show Result.ok (B (!decide (l=m))) w=_
 rw[decide_not]
theorem HP {w:World} {x y:Operand} {l:List UInt8} (hl:l.length=32):(bin .neq 22 x y (.agg (l.map U8).toArray) (.agg (l.map U8).toArray)).run Tryz.prog w=.ok (B false) w:=by
 rw[G0 hl hl,decide_eq_false (fun h=>h rfl)]
theorem uU:az Tryz.prog 49:=⟨_,Tryz.func49,by kernel_rfl,rfl⟩
theorem cm.old {l:List UInt8} {v:Value} {w:World} (h:cm l v w) {g:Nat} (hg:w.heap.size≤g):0<l.length→Ap g v:=fun h0 a n c he=>by
 obtain⟨A,n',c',rfl,h1,h2,h3,h4,h5⟩:=h
 have hn:l.length=n':=by simpa using h3
 obtain⟨ad,rfl,hc⟩:=h4 (by omega)
 simp only[Value.slice.injEq,Option.some.injEq] at he
 obtain⟨rfl,_,_⟩:=he
 have h6:=hc 0 (U8 l[0]) (by simp[h0])
 rw[jn] at h6
 have:ad.block<w.heap.size:=by
  rcases Nat.lt_or_ge ad.block w.heap.size with h7|h7
  ·exact h7
  ·simp[World.cell?,Array.getElem?_eq_none h7] at h6
 omega
end Go.Rl
namespace Go.Rl
open Go.RowKit Go.Proofs
theorem uV {w:World} {l:List UInt8} {v:Value} (hv:cm l v w):
 Calls Tryz.prog 49 #[v] w (bF fun r w'=>aM w w'∧r=.agg ((iV l).map U8).toArray):=by
 refine enter (vs:=[v]) Tryz.func49 Jg Jg Jg ?_
 obtain⟨g2,w1,hr,n2,x1,b2⟩:=bf (P:=Tryz.prog) (w:=w) (l:=(List.replicate 32 0).map U8) mh rfl
 refine af (aa (bh Jg hr (ag (ac (af (aa ?_))))))
 refine an (vs:=[]) Dh Jg Jg (Di w1) ?_
 rintro _ w2 ⟨x2,g,hg,rfl,hA⟩
 refine ab Jg Jg (ag (ac (af (aa (ae Jg Jg (ae Jg Jg ?_))))))
 have e2:=x1.trans x2
 refine an ly Jg Jg (lz hA (hv.ext e2) (hv.old (Nat.le_trans x1.size hg))) ?_
 rintro _ w3 ⟨q3,h3⟩
 rw[List.nil_append,UInt64.zero_add] at h3
 have l2:g2<g:=Nat.lt_of_lt_of_le b2.lt hg
 have hwg:w.heap.size≤g:=by omega
 have e3:=e2.of_new q3 hwg
 have B3:=(b2.ext x2).other q3 (fun h=>by cases h;omega)
 refine ag (ac (af (aa (ae Jg Jg ?_))))
 refine an Dj Jg Jg (Dk h3) ?_
 rintro _ w4 ⟨x4,rfl⟩
 have hsz:(Tryz.prog.info? 22).map (·.size)=some ((iV l).map U8).length:=by rw[List.length_map,dC];exact jC
 have B4:=B3.ext x4
 refine ar Jg Jg (gW B4 (by simp[dC]) hsz (pb _)) ?_
 refine ag (ac (au ?_))
 refine ep Jg Jg (B4.row _) I6 Jg hsz ?_
 exact⟨_,rfl,(e3.trans x4).of_new (bo _ _ _) n2,rfl⟩
end Go.Rl
namespace Go.Rl
open Go.RowKit
def fR:List UInt8:=[82,76,85,67]
abbrev uW:=List UInt8×List ba
def fK:List UInt8:=List.replicate 32 0
def xb:uW:=(fK,[])
def pc (l:List UInt8):List UInt8×Int:=iT ((l.take (l.length-32)).drop 36) 4194304 (vr ((l.take (l.length-32)).drop 36))
def xc (b:List UInt8):Option (List ba):=match nN b with
 |some (ts,[])=>some ts
 |_=>none
def iq (l:List UInt8):uW×Int:=
 if 1048576<l.length then(xb,8) else if l.length<68∨l.take 4≠fR then(xb,5) else if iV (l.take (l.length-32))≠l.drop (l.length-32) then(xb,6) else
  if (pc l).2≠0 then(xb,(pc l).2) else match xc (pc l).1 with
  |some ts=>if ts.all gk=true then(((l.take 36).drop 4,ts),0) else(xb,1)
  |none=>(xb,5)
section
variable {l:List UInt8}
theorem uX (h:1048576<l.length):iq l=(xb,8):=by unfold iq;rw[if_pos h]
theorem mY (h:¬1048576<l.length) (h2:l.length<68∨l.take 4≠fR):iq l=(xb,5):=by unfold iq;rw[if_neg h,if_pos h2]
theorem yV (h:¬1048576<l.length) (h2:¬(l.length<68∨l.take 4≠fR)) (h3:iV (l.take (l.length-32))≠l.drop (l.length-32)):iq l=(xb,6):=by unfold iq;rw[if_neg h,if_neg h2,if_pos h3]
theorem mZ (h:¬1048576<l.length) (h2:¬(l.length<68∨l.take 4≠fR)) (h3:¬iV (l.take (l.length-32))≠l.drop (l.length-32)):iq l=if (pc l).2≠0 then(xb,(pc l).2) else match xc (pc l).1 with
 |some ts=>if ts.all gk=true then(((l.take 36).drop 4,ts),0) else(xb,1)
 |none=>(xb,5):=by unfold iq;rw[if_neg h,if_neg h2,if_neg h3]
theorem tx {b:List UInt8} {ts:List ba} (h:nN b=some (ts,[])):xc b=some ts:=by unfold xc;rw[h]
theorem yW {b:List UInt8} (h:∀ts,nN b≠some (ts,[])):xc b=none:=by
 unfold xc
 split
 ·rename_i ts e;exact absurd e (h ts)
 ·rfl
theorem yX {n:Int} (h:¬1048576<l.length) (h2:¬(l.length<68∨l.take 4≠fR)) (h3:¬iV (l.take (l.length-32))≠l.drop (l.length-32)) (h4:(pc l).2=n) (h5:n≠0):iq l=(xb,n):=by rw[mZ h h2 h3,h4,if_pos h5]
theorem BB (h:¬1048576<l.length) (h2:¬(l.length<68∨l.take 4≠fR)) (h3:¬iV (l.take (l.length-32))≠l.drop (l.length-32)) (h4:(pc l).2=0) (h5:xc (pc l).1=none):iq l=(xb,5):=by rw[mZ h h2 h3,if_neg (by omega),h5]
theorem BC {ts:List ba} (h:¬1048576<l.length) (h2:¬(l.length<68∨l.take 4≠fR)) (h3:¬iV (l.take (l.length-32))≠l.drop (l.length-32)) (h4:(pc l).2=0) (h5:xc (pc l).1=some ts):iq l=if ts.all gk=true then(((l.take 36).drop 4,ts),0) else(xb,1):=by rw[mZ h h2 h3,if_neg (by omega),h5]
end
theorem yY {α:Type} {p:α→Bool} {l:List α} {i:Nat} (hi:i<l.length):(l.drop i).all p=(p l[i]&&(l.drop (i+1)).all p):=by
 rw[List.drop_eq_getElem_cons hi];rfl
theorem Ar {m:List UInt8} {k:Nat}:(iT m (k:Int) (vr m)).1.length≤k+m.length:=by
 unfold iT
 split
 ·simp
 ·cases hU:cZ m with
  |none=>simp
  |some p=>
   obtain⟨n,t⟩:=p
   simp only[]
   have ht:=jB hU
   split
   ·simp
   ·rename_i hn
    cases hf:vr m t n with
    |none=>simp
    |some out=>
     unfold vr at hf
     obtain⟨p,h1,h2⟩:=Option.bind_eq_some_iff.1 hf
     split at h2
     ·simp only[Option.some.injEq] at h2
      subst h2
      have:=wJ (B:=t.length) _ _ _ p.1 p.2 (by simp) (Nat.le_refl _) h1
      show p.1.length≤_
      omega
     ·cases h2
theorem BD {l:List UInt8}:(pc l).1.length≤4194304+l.length:=by
 have h:=Ar (m:=(l.take (l.length-32)).drop 36) (k:=4194304)
 have h2:((l.take (l.length-32)).drop 36).length≤l.length:=by rw[List.length_drop,List.length_take];omega
 exact Nat.le_trans h (by omega)
theorem Ft {l:List UInt8} (hl:l.length≤1048576):iT ((l.take (l.length-32)).drop 36) 4194304 (vp ((l.take (l.length-32)).drop 36))=pc l:=(Fm (by rw[List.length_drop,List.length_take];omega) (by omega)).symm
end Go.Rl
namespace Go.Rl
open Go.RowKit
def dR (d p:List UInt8):List UInt8:=fR++d++p++iV (fR++d++p)
section
variable {d p body:List UInt8}
theorem mi (hd:d.length=32):(dR d p).length=68+p.length:=by
 unfold dR
 simp only[List.length_append,dC,hd,show fR.length=4 from rfl]
 omega
theorem tz:(dR d p).take 4=fR:=by
 unfold dR
 rw[List.append_assoc,List.append_assoc]
 exact List.take_left' (l₁:=fR) rfl
theorem yZ (hd:d.length=32):(dR d p).take ((dR d p).length-32)=fR++d++p:=by
 rw[mi hd]
 unfold dR
 refine List.take_left' ?_
 simp only[List.length_append,hd,show fR.length=4 from rfl]
 omega
theorem Dm (hd:d.length=32):(dR d p).drop ((dR d p).length-32)=iV (fR++d++p):=by
 rw[mi hd]
 unfold dR
 refine List.drop_left' ?_
 simp only[List.length_append,hd,show fR.length=4 from rfl]
 omega
theorem Fu (hd:d.length=32):((dR d p).take ((dR d p).length-32)).drop 36=p:=by
 rw[yZ hd]
 refine List.drop_left' ?_
 simp only[List.length_append,hd,show fR.length=4 from rfl]
theorem Gw (hd:d.length=32):((dR d p).take 36).drop 4=d:=by
 unfold dR
 rw[List.append_assoc,List.append_assoc,←List.append_assoc,List.take_left' (by simp only[List.length_append,hd,show fR.length=4 from rfl])]
 exact List.drop_left' (l₁:=fR) rfl
theorem tN (hb:body.length≤4194304):iT (bW body) 4194304 (vr (bW body))=(body,0):=by
 have hu:cZ (bW body)=some (body.length,pk body 0 0):=ju (by omega) _
 unfold iT
 rw[if_neg (by omega),hu]
 simp only[]
 rw[if_neg (by omega)]
 have:vr (bW body) (pk body 0 0) body.length=some body:=by
  unfold vr
  rw[td (by omega)]
  exact if_pos ⟨rfl,rfl⟩
 rw[this]
theorem Dn (hd:d.length=32) (hb:body.length≤4194304) (hf:(dR d (bW body)).length≤1048576):iq (dR d (bW body))=match xc body with
 |some ts=>if ts.all gk=true then((d,ts),0) else(xb,1)
 |none=>(xb,5):=by
 have hl:=mi (d:=d) (p:=bW body) hd
 have hu:pc (dR d (bW body))=(body,0):=by unfold pc;rw[Fu hd];exact tN hb
 rw[mZ (by omega) (fun h=>h.elim (fun h=>by omega) fun h=>h tz) (by rw[yZ hd,Dm hd];exact fun h=>h rfl),hu,if_neg (by simp),Gw hd]
 all_goals rfl
end
def pY (c:uW):List UInt8×Int:=if (c.2.all fun n=>gk n&&nY n)=true then(if 4194304<(eP c.2).length then([],8) else if 1048576<(dR c.1 (bW (eP c.2))).length then([],8) else(dR c.1 (bW (eP c.2)),0)) else([],1)
theorem rk (l:List UInt8):(iq l).1.1.length=32:=by
 unfold iq
 split
 ·rfl
 ·split
  ·rfl
  ·rename_i h
   split
   ·rfl
   ·split
    ·rfl
    ·split
     ·split
      ·show((l.take 36).drop 4).length=32
       rw[List.length_drop,List.length_take]
       have:¬l.length<68:=fun hh=>h (.inl hh)
       omega
      ·rfl
     ·rfl
end Go.Rl
namespace Go.Rl
open Go.RowKit Go.Proofs
section
variable {P:Program} {ops:Array Oper} {Env:World→Prop} {Rl:World→World→Prop} {mo:Bool} {Pn:List PanicEntry→World→Prop} {Z:iN} {N:Nat} {F:cp} {K:cp→iN→Prop} {rest:List Oper} {d:Nat} {ty:TypeId} {pos:String} {aft:Array Edge}
theorem Do {t:TypeId} {x:Operand} {u r:Value} (hx:eu F x=Is u) (hd:Nat.blt d N=true) (hrun:∀w,Env w→(Instr.arrayAt t u).run P w=.ok r w)
 (k:fg P ops Env Rl mo Pn N rest (iz F (some d) (Is r)) Z K):fg P ops Env Rl mo Pn N (⟨some d,.sliceToArrayPointer t x,ty,pos,aft,none⟩::rest) F Z K:=
 jQ (xs:=[x]) (vs:=[u]) (f:=fun|[a]=>Instr.arrayAt t a|_=>stuck "") (fun _=>rfl) (by simp[Op.operands]) (by simp[hx]) hd hrun k
end
theorem G1 {w:World} {l:List UInt8} {v:Value} (h:cm l v w) (hl:l.length=32):∃ad,(∀w':World,(Instr.arrayAt 22 v).run Tryz.prog w'=.ok (.pointer (some ad)) w')∧dM w ad (l.map U8):=by
 obtain⟨A,n,c,rfl,h1,h2,h3,h4,h5⟩:=h
 have hn:n=32:=by simp at h3;omega
 subst hn
 obtain⟨ad,rfl,hc⟩:=h4 (by omega)
 exact⟨ad,fun w'=>by simp[Instr.arrayAt,run_underlying Tryz.underlying22],hc⟩
theorem BE {w:World} {l:List UInt8} {ad:Addr} (h:dM w ad (l.map U8)) (hl:l.length=32):(Instr.loadAt 22 (.pointer (some ad))).run Tryz.prog w=.ok (.agg (l.map U8).toArray) w:=
 h.ld I6 rfl (by rw[List.length_map,hl];exact jC)
end Go.Rl
namespace Go.Rl
open Go.RowKit Go.Proofs
theorem qE:az Tryz.prog 119:=⟨_,Tryz.func119,by kernel_rfl,rfl⟩
theorem As:az Tryz.prog 118:=⟨_,Tryz.func118,by kernel_rfl,rfl⟩
theorem y4:az Tryz.prog 58:=⟨_,Tryz.func58,by kernel_rfl,rfl⟩
theorem Au:az Tryz.prog 21:=⟨_,Tryz.func21,by kernel_rfl,rfl⟩
section
variable {w:World}
theorem dM.ldO {P:Program} {t:TypeId} {d:TypeDesc} {ad:Addr} {cs ms:List Value} {o:Nat} (h:dM w ad cs) (hm:∀j v,ms[j]? =some v→cs[o+j]? =some v) (ht:P.underlying t=some d) (hd:d.isRow=true) (hz:(P.info? t).map (·.size)=some ms.length):(Instr.loadAt t (.pointer (some (ad.add o)))).run P w=.ok (.agg ms.toArray) w:=
 dM.ld (ad:=ad.add o) (fun j u hu=>by rw[vc];exact h (o+j) u (hm j u hu)) ht hd hz
end
theorem BF {P:Program} {w:World} {x y:Operand} {t:TypeId} (ht:P.underlying t=some .bool) {a b:Bool}:(bin .neq t x y (B a) (B b)).run P w=.ok (B (decide (a≠b))) w:=by
 have h:(Op.equal t (B a) (B b)).run P w=.ok (decide (a=b)) w:=by
  show(Op.equalIn (9999+1) t (.bool a) (.bool b)).run P w=_
  unfold Op.equalIn
  cases a<;>cases b<;>simp[run_underlying ht]
 show(do pure (Value.bool (!(←Op.equal t (B a) (B b)))):Sem Value).run P w=_
 rw[Sem.run_bind,h]
 show Result.ok (Value.bool (!decide (a=b))) w=_
 rw[←decide_not];rfl
theorem Fv:Tryz.prog.eqGuardType Tryz.prog.depth 214=false:=by kernel_rfl
theorem Gx {w:World} {x y:Operand} {a b c d:Int}:(bin .neq 214 x y (.agg #[I a,I b,I c,I d]) (.agg #[I a,I b,I c,I d])).run Tryz.prog w=.ok (B false) w:=by
 have h:(Op.equal 214 (.agg #[I a,I b,I c,I d]) (.agg #[I a,I b,I c,I d])).run Tryz.prog w=.ok true w:=by
  show(Op.equalIn (9999+1) 214 _ _).run Tryz.prog w=_
  rw[run_equalIn_struct w 9999 214 _ _ (by kernel_rfl) (by kernel_rfl)]
  simp only[Program.fieldsOf,Tryz.underlying214]
  simp[Op.eqFields,part,I,Tryz.underlying3,run_equalIn_int _ 9998 3 .i64 .i64]
 rw[qC Fv,Sem.run_bind,h];rfl
theorem qG {w:World} {l:List eE} {v u:Value} (hv:dV dI l v w) (hu:dV dI l u w):
 Calls Tryz.prog 119 #[v,u] w (bF fun r w'=>aM w w'∧r=B true):=by
 refine enter (vs:=[v,u]) Tryz.func119 Jg Jg Jg ?_
 have hll:=hv.len
 refine af (aa (ab Jg Jg (ag (ac (af (af (aa (ae Jg Jg (aP Jg Jg (bT IW hv) (ae Jg Jg (aP Jg Jg (bT IW hu) ?_)))))))))))
 refine ai Jg Jg Jg (bZ (fun h=>h Jg) bS) (ag (ac (cq Jg (aq (ac (af (af (aa (ab Jg Jg (ag (ac (ax ?_))))))))))))
 refine bV (α:=Nat) (fun x=>[(0,v),(1,u),(5,I (x:Int))]) (fun x w'=>aM w w'∧x≤l.length) (fun x=>l.length-x) (0) ⟨rfl,rfl,rfl,trivial⟩ ⟨aM.refl _,by omega⟩ ?_
 rintro i w4 ⟨e4,hi⟩
 refine af (af (aa (ae Jg Jg (ae Jg Jg (aP Jg Jg (bT IW (hv.ext e4)) (ai Jg Jg Jg (aX) (ag (ac ?_))))))))
 refine bi Jg (fun h14=>?_) (fun h14=>?_)
 ·refine aq (ac (af (ax (af (bA 24 [0,1,5,28,40] (by kernel_rfl) (by kernel_rfl) ?_)))))
  refine ap Jg Jg (ap Jg Jg ?_)
  obtain⟨a19,c19,p19,q19,h19⟩:=ey (P:=Tryz.prog) (sz:=7) IW (by kernel_rfl) eK (by omega) (hv.ext e4) (i:=i) (by omega) .i64
  obtain⟨e19,he19⟩:∃e,e=l[i]'(by omega):=⟨_,rfl⟩
  rw[←he19] at h19
  obtain⟨x19_0,x19_1,rfl,f19_0,f19_1⟩:=ku h19
  refine ay rfl rfl rfl (fun w _=>p19 w) (aL rfl rfl (fun w hw=>qK (o:=0) Tryz.underlying216 rfl (by kernel_rfl) rfl) (aD rfl rfl (fun w hw=>(q19.ext hw).ldO (ms:=[I e19.kd,I e19.ix,I e19.lo,I e19.hi]) (o:=0) (fun j v hj=>by rcases j with _|_|_|_|_|_|_|_|_|j<;>simp_all) Tryz.underlying214 rfl (by kernel_rfl)) ?_))
  refine ap Jg Jg (ap Jg Jg ?_)
  obtain⟨a24,c24,p24,q24,h24⟩:=ey (P:=Tryz.prog) (sz:=7) IW (by kernel_rfl) eK (by omega) (hu.ext e4) (i:=i) (by omega) .i64
  rw[←he19] at h24
  obtain⟨x24_0,x24_1,rfl,f24_0,f24_1⟩:=ku h24
  refine ay rfl rfl rfl (fun w _=>p24 w) (aL rfl rfl (fun w hw=>qK (o:=0) Tryz.underlying216 rfl (by kernel_rfl) rfl) (aD rfl rfl (fun w hw=>(q24.ext hw).ldO (ms:=[I e19.kd,I e19.ix,I e19.lo,I e19.hi]) (o:=0) (fun j v hj=>by rcases j with _|_|_|_|_|_|_|_|_|j<;>simp_all) Tryz.underlying214 rfl (by kernel_rfl)) ?_))
  refine aR Jg Jg Jg (fun w _=>Gx) (ap Jg Jg (bg Jg Jg (ap Jg Jg (bg Jg Jg (ap Jg Jg (bg Jg Jg ?_))))))
  obtain⟨a31,c31,p31,q31,h31⟩:=ey (P:=Tryz.prog) (sz:=7) IW (by kernel_rfl) eK (by omega) (hv.ext e4) (i:=i) (by omega) .i64
  rw[←he19] at h31
  obtain⟨x31_0,x31_1,rfl,f31_0,f31_1⟩:=ku h31
  refine ay Jg Jg Jg (fun w _=>p31 w) (bg Jg Jg (aL Jg Jg (fun w hw=>qK (o:=4) I5 Jg (by kernel_rfl) Jg) ?_))
  refine bg rfl rfl (aD rfl rfl (fun w hw=>(q31.ext hw).ldO (ms:=[B e19.co.1,x31_0,x31_1]) (o:=4) (fun j v hj=>by rcases j with _|_|_|_|_|_|_|_|_|j<;>simp_all) Tryz.underlying55 rfl (by kernel_rfl)) ?_)
  refine bg Jg Jg (ap Jg Jg (bg Jg Jg (ap Jg Jg (bg Jg Jg ?_))))
  obtain⟨a36,c36,p36,q36,h36⟩:=ey (P:=Tryz.prog) (sz:=7) IW (by kernel_rfl) eK (by omega) (hu.ext e4) (i:=i) (by omega) .i64
  rw[←he19] at h36
  obtain⟨x36_0,x36_1,rfl,f36_0,f36_1⟩:=ku h36
  refine ay Jg Jg Jg (fun w _=>p36 w) (bg Jg Jg (aL Jg Jg (fun w hw=>qK (o:=4) I5 Jg (by kernel_rfl) Jg) ?_))
  refine bg rfl rfl (aD rfl rfl (fun w hw=>(q36.ext hw).ldO (ms:=[B e19.co.1,x36_0,x36_1]) (o:=4) (fun j v hj=>by rcases j with _|_|_|_|_|_|_|_|_|j<;>simp_all) Tryz.underlying55 rfl (by kernel_rfl)) ?_)
  refine bg rfl rfl (cl (S:=Is (B true)) la (bu.is _) rfl (fun w hw=>by rintro _ rfl _ rfl;exact bF.mono (z9 (a:=e19.co) (b:=e19.co) (f31_0.ext hw) (f31_1.ext hw) (f36_0.ext hw) (f36_1.ext hw)) fun v w' h=>⟨h.1,by rw[h.2,decide_eq_true rfl];rfl⟩) ?_)
  refine bg Jg Jg (xf Jg Jg (fun w _=>cj) (bG ?_))
  intro wg6 xg6
  rintro _ hq0
  obtain rfl:=Eq.symm hq0
  rintro _ hq1
  obtain rfl:=Eq.symm hq1
  rintro _ rfl
  rintro _ rfl
  rintro _ rfl
  refine aC Jg Jg Jg (ag (ac (cq Jg (aq (aJ (ac (aa (ae Jg Jg (ai (r:=I ((i+1:Nat):Int)) Jg Jg Jg (by have e:((i+1:Nat):Int)=(i:Int)+1:=(by omega);rw[e];exact aK (by omega) (by omega)) ?_)))))))))
  refine ab Jg Jg (ag ?_)
  refine bM (i+1) ⟨rfl,rfl,rfl,trivial⟩ ⟨(e4.trans xg6),by omega⟩ (by omega)
 ·refine aW (aA (aA (aU (ac (af (aa (ab Jg Jg (ag (ac (au (aF Jg Jg ?_)))))))))))
  exact⟨_,rfl,e4,rfl⟩
theorem y5 {w:World} {a:f5} {x y p q:Value} (ha:bt a.2.1 x w) (ha':bt a.2.2 y w) (hb:bt a.2.1 p w) (hb':bt a.2.2 q w):
 Calls Tryz.prog 134 #[.agg #[B a.1,x,y],.agg #[B a.1,p,q]] w (bF fun r w'=>aM w w'∧r=B true):=
 bF.mono (z9 (a:=a) (b:=a) ha ha' hb hb') fun v w' h=>⟨h.1,by rw[h.2,decide_eq_true rfl]⟩
theorem Dp {w:World} {a:f9} {x y p q:Value} (ha:bt a.at_.2.1 x w) (ha':bt a.at_.2.2 y w) (hb:bt a.at_.2.1 p w) (hb':bt a.at_.2.2 q w):
 Calls Tryz.prog 117 #[.agg #[I a.kd,I a.ix,B a.at_.1,x,y],.agg #[I a.kd,I a.ix,B a.at_.1,p,q]] w (bF fun r w'=>aM w w'∧r=B true):=
 bF.mono (uE (a:=a) (b:=a) ha ha' hb hb') fun v w' h=>⟨h.1,by rw[h.2,decide_eq_true rfl]⟩
set_option maxHeartbeats 2000000 in
theorem Av {w:World} {l:List fQ} {v u:Value} (hv:dV fm l v w) (hu:dV fm l u w):
 Calls Tryz.prog 118 #[v,u] w (bF fun r w'=>aM w w'∧r=B true):=by
 refine enter (vs:=[v,u]) Tryz.func118 Jg Jg Jg ?_
 have hll:=hv.len
 refine af (aa (ab Jg Jg (ag (ac (af (af (aa (ae Jg Jg (aP Jg Jg (bT I0 hv) (ae Jg Jg (aP Jg Jg (bT I0 hu) ?_)))))))))))
 refine ai Jg Jg Jg (bZ (fun h=>h Jg) bS) (ag (ac (cq Jg (aq (ac (af (af (aa (ab Jg Jg (ag (ac (ax ?_))))))))))))
 refine bV (α:=Nat) (fun x=>[(0,v),(1,u),(5,I (x:Int))]) (fun x w'=>aM w w'∧x≤l.length) (fun x=>l.length-x) (0) ⟨rfl,rfl,rfl,trivial⟩ ⟨aM.refl _,by omega⟩ ?_
 rintro i w4 ⟨e4,hi⟩
 refine af (af (aa (ae Jg Jg (ae Jg Jg (aP Jg Jg (bT I0 (hv.ext e4)) (ai Jg Jg Jg (aX) (ag (ac ?_))))))))
 refine bi Jg (fun h14=>?_) (fun h14=>?_)
 ·refine aq (ac (af (ax (af (bA 51 [0,1,5,55,67] (by kernel_rfl) (by kernel_rfl) ?_)))))
  refine ap (S:=Is (v)) Jg Jg (ap (S:=Is (I (i:Int))) Jg Jg ?_)
  obtain⟨a19,c19,p19,q19,h19⟩:=ey (P:=Tryz.prog) (sz:=6) I0 (by kernel_rfl) ff (by omega) (hv.ext e4) (i:=i) (by omega) .i64
  obtain⟨e19,he19⟩:∃e,e=l[i]'(by omega):=⟨_,rfl⟩
  rw[←he19] at h19
  obtain⟨x19_0,x19_1,x19_2,rfl,f19_0,f19_1,f19_2⟩:=sY h19
  refine ay Jg Jg Jg (fun w _=>p19 w) (aL Jg Jg (fun w hw=>qK (o:=0) IZ Jg (by kernel_rfl) Jg) ?_)
  refine aD Jg Jg (fun w hw=>ak IM Jg (hw.cell_some (q19.at (j:=0) Jg))) (ap (S:=Is (u)) Jg Jg (ap (S:=Is (I (i:Int))) Jg Jg ?_))
  obtain⟨a24,c24,p24,q24,h24⟩:=ey (P:=Tryz.prog) (sz:=6) I0 (by kernel_rfl) ff (by omega) (hu.ext e4) (i:=i) (by omega) .i64
  rw[←he19] at h24
  obtain⟨x24_0,x24_1,x24_2,rfl,f24_0,f24_1,f24_2⟩:=sY h24
  refine ay Jg Jg Jg (fun w _=>p24 w) (aL Jg Jg (fun w hw=>qK (o:=0) IZ Jg (by kernel_rfl) Jg) ?_)
  refine aD Jg Jg (fun w hw=>ak IM Jg (hw.cell_some (q24.at (j:=0) Jg))) (aR Jg Jg Jg (fun w _=>bZ (fun h=>h Jg) bS) ?_)
  refine ap (S:=Is (B false)) Jg Jg (bg Jg Jg (ap (S:=Is (v)) Jg Jg (bg Jg Jg (ap (S:=Is (I (i:Int))) Jg Jg (bg Jg Jg (ay Jg Jg Jg (fun w _=>p19 w) ?_))))))
  refine bg Jg Jg (aL Jg Jg (fun w hw=>qK (o:=1) IZ Jg (by kernel_rfl) Jg) (bg Jg Jg (aD Jg Jg (fun w hw=>ak IU Jg (hw.cell_some (q19.at (j:=1) Jg))) ?_)))
  refine bg Jg Jg (ap (S:=Is (u)) Jg Jg (bg Jg Jg (ap (S:=Is (I (i:Int))) Jg Jg (bg Jg Jg (ay Jg Jg Jg (fun w _=>p24 w) (bg Jg Jg ?_))))))
  refine aL Jg Jg (fun w hw=>qK (o:=1) IZ Jg (by kernel_rfl) Jg) (bg Jg Jg (aD Jg Jg (fun w hw=>ak IU Jg (hw.cell_some (q24.at (j:=1) Jg))) ?_))
  refine bg Jg Jg (aR Jg Jg Jg (fun w _=>bZ (fun h=>h Jg) (BF IU)) (lO (S:=Is (B false)) Jg Jg Jg (ap (S:=Is (B false)) Jg Jg ?_)))
  refine bg Jg Jg (ap (S:=Is (v)) Jg Jg (bg Jg Jg (ap (S:=Is (I (i:Int))) Jg Jg (bg Jg Jg (ay Jg Jg Jg (fun w _=>p19 w) (bg Jg Jg ?_))))))
  refine aL rfl rfl (fun w hw=>qK (o:=2) Tryz.underlying147 rfl (by kernel_rfl) rfl) (bg rfl rfl (aD rfl rfl (fun w hw=>(q19.ext hw).ldO (ms:=[B e19.va.1,x19_0,x19_1]) (o:=2) (fun j v hj=>by rcases j with _|_|_|_|_|_|_|_|_|j<;>simp_all) Tryz.underlying55 rfl (by kernel_rfl)) ?_))
  refine bg Jg Jg (ap (S:=Is (u)) Jg Jg (bg Jg Jg (ap (S:=Is (I (i:Int))) Jg Jg (bg Jg Jg (ay Jg Jg Jg (fun w _=>p24 w) (bg Jg Jg ?_))))))
  refine aL rfl rfl (fun w hw=>qK (o:=2) Tryz.underlying147 rfl (by kernel_rfl) rfl) (bg rfl rfl (aD rfl rfl (fun w hw=>(q24.ext hw).ldO (ms:=[B e19.va.1,x24_0,x24_1]) (o:=2) (fun j v hj=>by rcases j with _|_|_|_|_|_|_|_|_|j<;>simp_all) Tryz.underlying55 rfl (by kernel_rfl)) ?_))
  refine bg rfl rfl (cl (S:=Is (B true)) la (bu.is _) rfl (fun w hw=>by rintro _ rfl _ rfl;exact y5 (a:=e19.va) (f19_0.ext hw) (f19_1.ext hw) (f24_0.ext hw) (f24_1.ext hw)) ?_)
  refine bg Jg Jg (xf Jg Jg (fun w _=>cj) (lO (S:=Is (B false)) Jg Jg Jg (ap (S:=Is (B false)) Jg Jg (bg Jg Jg (ap (S:=Is (v)) Jg Jg ?_)))))
  refine bg Jg Jg (ap (S:=Is (I (i:Int))) Jg Jg (bg Jg Jg (ay Jg Jg Jg (fun w _=>p19 w) (bg Jg Jg (aL Jg Jg (fun w hw=>qK (o:=5) IZ Jg (by kernel_rfl) Jg) ?_)))))
  refine bg Jg Jg (aD Jg Jg (fun w hw=>ak IW Jg (hw.cell_some (q19.at (j:=5) Jg))) (bg Jg Jg (ap (S:=Is (u)) Jg Jg ?_)))
  refine bg Jg Jg (ap (S:=Is (I (i:Int))) Jg Jg (bg Jg Jg (ay Jg Jg Jg (fun w _=>p24 w) (bg Jg Jg (aL Jg Jg (fun w hw=>qK (o:=5) IZ Jg (by kernel_rfl) Jg) ?_)))))
  refine bg rfl rfl (aD rfl rfl (fun w hw=>ak IW rfl (hw.cell_some (q24.at (j:=5) rfl))) (bg rfl rfl (cl (S:=Is (B true)) qE (bu.is _) rfl (fun w hw=>by rintro _ rfl _ rfl;exact qG (l:=e19.pf) (f19_2.ext hw) (f24_2.ext hw)) ?_)))
  refine bg Jg Jg (xf Jg Jg (fun w _=>cj) (bG ?_))
  intro wg6 xg6
  rintro _ hq0
  obtain rfl:=Eq.symm hq0
  rintro _ hq1
  obtain rfl:=Eq.symm hq1
  rintro _ rfl
  rintro _ rfl
  rintro _ rfl
  refine aC Jg Jg Jg (ag (ac (cq Jg (aq (aJ (ac (aa (ae Jg Jg (ai (r:=I ((i+1:Nat):Int)) Jg Jg Jg (by have e:((i+1:Nat):Int)=(i:Int)+1:=(by omega);rw[e];exact aK (by omega) (by omega)) ?_)))))))))
  refine ab Jg Jg (ag ?_)
  refine bM (i+1) ⟨rfl,rfl,rfl,trivial⟩ ⟨(e4.trans xg6),by omega⟩ (by omega)
 ·refine aW (aA (aA (aU (ac (af (aa (ab Jg Jg (ag (ac (au (aF Jg Jg ?_)))))))))))
  exact⟨_,rfl,e4,rfl⟩
theorem ba.lt_of_mem {n k:ba} (h:k∈n.kids):SizeOf.sizeOf k<SizeOf.sizeOf n:=by
 cases n with
 |mk l s ks e p=>
  have h:k∈ks:=h
  have:=List.sizeOf_lt_of_mem h
  simp only[ba.mk.sizeOf_spec]
  omega
theorem Fw {w:World} {n:ba} {vl x y vk vp ul p q uk up:Value} (ih:∀k∈n.kids,∀{w:World} {vl x y vk vp ul p q uk up:Value},dV fm k.lems vl w→bt k.split.at_.2.1 x w→bt k.split.at_.2.2 y w→dV bK k.kids vk w→dV dI k.pf vp w→dV fm k.lems ul w→bt k.split.at_.2.1 p w→bt k.split.at_.2.2 q w→dV bK k.kids uk w→dV dI k.pf up w→
 Calls Tryz.prog 58 #[.agg #[vl,I k.split.kd,I k.split.ix,B k.split.at_.1,x,y,vk,B k.empty,vp],.agg #[ul,I k.split.kd,I k.split.ix,B k.split.at_.1,p,q,uk,B k.empty,up]] w (bF fun r w'=>aM w w'∧r=B true))
 (hl:dV fm n.lems vl w) (hx:bt n.split.at_.2.1 x w) (hy:bt n.split.at_.2.2 y w) (hk:dV bK n.kids vk w) (hp:dV dI n.pf vp w) (hl':dV fm n.lems ul w) (hx':bt n.split.at_.2.1 p w) (hy':bt n.split.at_.2.2 q w) (hk':dV bK n.kids uk w) (hp':dV dI n.pf up w):
 Calls Tryz.prog 58 #[.agg #[vl,I n.split.kd,I n.split.ix,B n.split.at_.1,x,y,vk,B n.empty,vp],.agg #[ul,I n.split.kd,I n.split.ix,B n.split.at_.1,p,q,uk,B n.empty,up]] w (bF fun r w'=>aM w w'∧r=B true):=by
 refine enter (vs:=[.agg #[vl,I n.split.kd,I n.split.ix,B n.split.at_.1,x,y,vk,B n.empty,vp],.agg #[ul,I n.split.kd,I n.split.ix,B n.split.at_.1,p,q,uk,B n.empty,up]]) Tryz.func58 Jg Jg Jg ?_
 have hll:=hk.len
 refine af (aa ?_)
 obtain⟨g2,w2,hr2,l2,x2,k2⟩:=dB (P:=Tryz.prog) (w:=w) (T:=83) (cs:=[vl,I n.split.kd,I n.split.ix,B n.split.at_.1,x,y,vk,B n.empty,vp])
 refine cY Jg Jg hr2 ?_
 obtain⟨g3,w3,hr3,l3,x3,k3⟩:=dB (P:=Tryz.prog) (w:=w2) (T:=83) (cs:=[ul,I n.split.kd,I n.split.ix,B n.split.at_.1,p,q,uk,B n.empty,up])
 refine cY Jg Jg hr3 (ab Jg Jg (ag (ac (af (af (aa (ah Jg Jg (aE (o:=7) IN Jg (by kernel_rfl) Jg) ?_)))))))
 refine am Jg Jg (ak IU Jg (x3.cell_some (k2.cell (i:=7) Jg))) (ah Jg Jg (aE (o:=7) IN Jg (by kernel_rfl) Jg) ?_)
 refine am Jg Jg (ak IU Jg (k3.cell (i:=7) Jg)) (ai Jg Jg Jg (bZ (fun h=>h Jg) (BF IU)) ?_)
 refine ae rfl rfl (al rfl (ah rfl rfl (aE (o:=1) Tryz.underlying83 rfl (by kernel_rfl) rfl) (al rfl (am rfl rfl ((k2.ext x3).ldO (ms:=[I n.split.kd,I n.split.ix,B n.split.at_.1,x,y]) (o:=1) (fun j v hj=>by rcases j with _|_|_|_|_|_|_|_|_|j<;>simp_all) Tryz.underlying80 rfl (by kernel_rfl)) ?_))))
 refine al rfl (ah rfl rfl (aE (o:=1) Tryz.underlying83 rfl (by kernel_rfl) rfl) (al rfl (am rfl rfl (k3.ldO (ms:=[I n.split.kd,I n.split.ix,B n.split.at_.1,p,q]) (o:=1) (fun j v hj=>by rcases j with _|_|_|_|_|_|_|_|_|j<;>simp_all) Tryz.underlying80 rfl (by kernel_rfl)) ?_)))
 refine al Jg (an uD Jg Jg ((Dp (a:=n.split) (hx.ext (x2.trans x3)) (hy.ext (x2.trans x3)) (hx'.ext (x2.trans x3)) (hy'.ext (x2.trans x3)))) ?_)
 rintro v16 w16 ⟨x16,rfl⟩
 refine al Jg (ci Jg Jg cj (aC Jg Jg Jg (ae Jg Jg (al Jg (ah Jg Jg (aE (o:=0) IN Jg (by kernel_rfl) Jg) ?_)))))
 refine al Jg (am Jg Jg (ak I0 Jg ((x3.trans x16).cell_some (k2.cell (i:=0) Jg))) (al Jg (ah Jg Jg (aE (o:=0) IN Jg (by kernel_rfl) Jg) ?_)))
 refine al Jg (am Jg Jg (ak I0 Jg (x16.cell_some (k3.cell (i:=0) Jg))) (al Jg (an As Jg Jg ((Av (hl.ext ((x2.trans x3).trans x16)) (hl'.ext ((x2.trans x3).trans x16)))) ?_)))
 rintro v24 w24 ⟨x24,rfl⟩
 refine al Jg (ci Jg Jg cj (aC Jg Jg Jg (ae Jg Jg (al Jg (ah Jg Jg (aE (o:=8) IN Jg (by kernel_rfl) Jg) ?_)))))
 refine al Jg (am Jg Jg (ak IW Jg (((x3.trans x16).trans x24).cell_some (k2.cell (i:=8) Jg))) (al Jg (ah Jg Jg (aE (o:=8) IN Jg (by kernel_rfl) Jg) ?_)))
 refine al Jg (am Jg Jg (ak IW Jg ((x16.trans x24).cell_some (k3.cell (i:=8) Jg))) (al Jg (an qE Jg Jg ((qG (hp.ext (((x2.trans x3).trans x16).trans x24)) (hp'.ext (((x2.trans x3).trans x16).trans x24)))) ?_)))
 rintro v32 w32 ⟨x32,rfl⟩
 refine al Jg (ci Jg Jg cj (aC Jg Jg Jg (ae Jg Jg (al Jg (ah Jg Jg (aE (o:=6) IN Jg (by kernel_rfl) Jg) ?_)))))
 refine al Jg (am Jg Jg (ak IS Jg ((((x3.trans x16).trans x24).trans x32).cell_some (k2.cell (i:=6) Jg))) (al Jg (aP Jg Jg (bT IS (hk.ext ((((x2.trans x3).trans x16).trans x24).trans x32))) ?_)))
 refine al Jg (ah Jg Jg (aE (o:=6) IN Jg (by kernel_rfl) Jg) (al Jg (am Jg Jg (ak IS Jg (((x16.trans x24).trans x32).cell_some (k3.cell (i:=6) Jg))) ?_)))
 refine al Jg (aP Jg Jg (bT IS (hk'.ext ((((x2.trans x3).trans x16).trans x24).trans x32))) (al Jg (ai Jg Jg Jg (bZ (fun h=>h Jg) bS) ?_)))
 refine aC Jg Jg Jg (ag (ac (cq Jg (aq (ac (af (af (aa (ab Jg Jg (ag (ac (ax ?_))))))))))))
 refine bV (α:=Nat) (fun x=>[(2,.pointer (some ⟨g2,0,none⟩)),(3,.pointer (some ⟨g3,0,none⟩)),(5,I (x:Int))]) (fun x w'=>aM w w'∧aM w32 w'∧x≤n.kids.length) (fun x=>n.kids.length-x) (0) ⟨rfl,rfl,rfl,trivial⟩ ⟨((((x2.trans x3).trans x16).trans x24).trans x32),aM.refl _,by omega⟩ ?_
 rintro i w4 ⟨e4,e10,hi⟩
 refine af (af (aa (ae Jg Jg (ah Jg Jg (aE (o:=6) IN Jg (by kernel_rfl) Jg) (am Jg Jg (ak IS Jg (((((x3.trans x16).trans x24).trans x32).trans e10).cell_some (k2.cell (i:=6) Jg))) ?_)))))
 refine aP Jg Jg (bT IS (hk.ext e4)) (ai Jg Jg Jg (aX) (ag (ac ?_)))
 refine bi Jg (fun h48=>?_) (fun h48=>?_)
 ·refine aq (ac (af (ax (af (bA 11 [2,3,5,61] (by kernel_rfl) (by kernel_rfl) ?_)))))
  refine aL Jg Jg (fun w hw=>aE (o:=6) IN Jg (by kernel_rfl) Jg) (aD Jg Jg (fun w hw=>ak IS Jg (hw.cell_some (((((x3.trans x16).trans x24).trans x32).trans e10).cell_some (k2.cell (i:=6) Jg)))) ?_)
  refine ap Jg Jg ?_
  obtain⟨a54,c54,p54,q54,h54⟩:=ey (P:=Tryz.prog) (sz:=9) IS (by kernel_rfl) bD (by omega) (hk.ext e4) (i:=i) (by omega) .i64
  obtain⟨e54,he54⟩:∃e,e=n.kids[i]'(by omega):=⟨_,rfl⟩
  rw[←he54] at h54
  obtain⟨x54_0,x54_1,x54_2,x54_3,x54_4,rfl,f54_0,f54_1,f54_2,f54_3,f54_4⟩:=ee h54
  refine ay Jg Jg Jg (fun w _=>p54 w) (aD Jg Jg (fun w hw=>(q54.ext hw).ld IN Jg (by kernel_rfl)) (aL Jg Jg (fun w hw=>aE (o:=6) IN Jg (by kernel_rfl) Jg) ?_))
  refine aD Jg Jg (fun w hw=>ak IS Jg (hw.cell_some ((((x16.trans x24).trans x32).trans e10).cell_some (k3.cell (i:=6) Jg)))) ?_
  refine ap Jg Jg ?_
  obtain⟨a59,c59,p59,q59,h59⟩:=ey (P:=Tryz.prog) (sz:=9) IS (by kernel_rfl) bD (by omega) (hk'.ext e4) (i:=i) (by omega) .i64
  rw[←he54] at h59
  obtain⟨x59_0,x59_1,x59_2,x59_3,x59_4,rfl,f59_0,f59_1,f59_2,f59_3,f59_4⟩:=ee h59
  refine ay rfl rfl rfl (fun w _=>p59 w) (aD rfl rfl (fun w hw=>(q59.ext hw).ld IN rfl (by kernel_rfl)) (cl (S:=Is (B true)) y4 (bu.is _) rfl (fun w hw=>by rintro _ rfl _ rfl;exact ih e54 (by rw[he54];exact List.getElem_mem _) (f54_0.ext hw) (f54_1.ext hw) (f54_2.ext hw) (f54_3.ext hw) (f54_4.ext hw) (f59_0.ext hw) (f59_1.ext hw) (f59_2.ext hw) (f59_3.ext hw) (f59_4.ext hw)) ?_))
  refine bG ?_
  intro wg6 xg6
  rintro _ rfl
  rintro _ rfl
  rintro _ rfl
  rintro _ rfl
  refine ci Jg Jg cj (ag (ac (cq Jg (aq (aJ (ac (aa (ae Jg Jg (ai (r:=I ((i+1:Nat):Int)) Jg Jg Jg (by have e:((i+1:Nat):Int)=(i:Int)+1:=(by omega);rw[e];exact aK (by omega) (by omega)) ?_)))))))))
  refine ab Jg Jg (ag ?_)
  refine bM (i+1) ⟨rfl,rfl,rfl,trivial⟩ ⟨(e4.trans xg6),(e10.trans xg6),by omega⟩ (by omega)
 ·refine aW (aA (aA (aU (ac (af (aa (ab Jg Jg (ag (ac (au (aF Jg Jg ?_)))))))))))
  exact⟨_,rfl,e4,rfl⟩
theorem y6:∀(m:Nat) {n:ba},SizeOf.sizeOf n≤m→∀{w:World} {vl x y vk vp ul p q uk up:Value},dV fm n.lems vl w→bt n.split.at_.2.1 x w→bt n.split.at_.2.2 y w→dV bK n.kids vk w→dV dI n.pf vp w→dV fm n.lems ul w→bt n.split.at_.2.1 p w→bt n.split.at_.2.2 q w→dV bK n.kids uk w→dV dI n.pf up w→
 Calls Tryz.prog 58 #[.agg #[vl,I n.split.kd,I n.split.ix,B n.split.at_.1,x,y,vk,B n.empty,vp],.agg #[ul,I n.split.kd,I n.split.ix,B n.split.at_.1,p,q,uk,B n.empty,up]] w (bF fun r w'=>aM w w'∧r=B true)
 |0,n,hm=>by cases n;simp at hm
 |m+1,n,hm=>fun h1 h2 h3 h4 h5 h6 h7 h8 h9 h10=>Fw (fun k hk _ _ _ _ _ _ _ _ _ _ _=>y6 m (by have:=ba.lt_of_mem hk;omega)) h1 h2 h3 h4 h5 h6 h7 h8 h9 h10
end Go.Rl
namespace Go.Rl
open Go.RowKit Go.Proofs
def G2 (n d:Int):Bool:=decide (0<n∧n≤16384∧n%d=0)
def small (l:List f5):Prop:=∀q∈l,q.2.1.length≤1073741824∧q.2.2.length≤1073741824
def G3 (l:pH):Bool:=decide ((1≤l.kh∧l.kh≤64)∧(1≤l.kw∧l.kw≤64)∧(1≤l.sr∧l.sr≤64))
def Fx (l:pH):Bool:=decide ((l.ws.length:Int)=0∧(l.bs.length:Int)=0)
def Fy (l:pH):Bool:=decide (l.kh=0∧l.kw=0∧l.sr=0∧l.pd=0)
def IC (l:pH) (i:Int):Prop:=
 if l.kd=1 then Fy l=true∧l.fr=0∧(1≤l.ou∧l.ou≤16384)∧(l.bs.length:Int)=l.ou∧G2 l.ws.length l.ou=true
 else if l.kd=2 then G3 l=true∧l.fr=0∧l.pd≥0∧l.pd<l.kh∧l.pd<l.kw∧(1≤l.ou∧l.ou≤16384)∧(l.bs.length:Int)=l.ou∧G2 l.ws.length (l.ou*l.kh*l.kw)=true
 else if l.kd=3∨l.kd=4 then G3 l=true∧l.fr=0∧l.pd=0∧l.ou=0∧Fx l=true
 else if l.kd=5∨l.kd=6 then Fy l=true∧l.fr=0∧l.ou=0∧Fx l=true
 else if l.kd=7 then Fy l=true∧(-1≤l.fr∧l.fr≤i-1)∧l.ou=0∧Fx l=true
 else False
instance (l:pH) (i:Int):Decidable (IC l i):=by unfold IC;infer_instance
section
variable {l:pH} {i:Int}
end
end Go.Rl
namespace Go.Rl
open Go.RowKit Go.Proofs
end Go.Rl
namespace Go.Rl
open Go.RowKit Go.Proofs
section
variable {a:pH} {i:Int}
end
end Go.Rl
namespace Go.Rl
open Go.RowKit
section
variable {P:Program} {ops:Array Oper} {Env:World→Prop} {Rl:World→World→Prop} {mo:Bool} {Pn:List PanicEntry→World→Prop} {N:Nat}
def BG (ops:Array Oper) (n:Nat):Bool:=
 (List.range n).all fun i=>decide (i=0)||(List.range (n+1)).any fun j=>decide (i<j)&&Region.waitsFor .any ops j i
theorem y7 {n:Nat} {listed:Array Bool} (hs:BG ops n=true) (hc:jT ops n=true) (inv:HeadInv .any ops n listed):
 ∀(d i:Nat),n-i=d→0<i→i<n→listed.getD i true=false→∀t,n≤t→t∉Region.ready .any ops listed:=by
 intro d
 induction d using Nat.strongRecOn with
 |_ d ih=>
  intro i hd h0 hi hun t ht hr
  obtain⟨_,ot,hot,hall⟩:=mem_ready.1 hr
  have htlt:t<ops.size:=(Array.getElem?_eq_some_iff.1 hot).1
  by_cases htn:t=n
  ·subst htn
   have h1:=List.all_eq_true.1 hs i (List.mem_range.2 hi)
   simp only[Bool.or_eq_true,decide_eq_true_eq] at h1
   obtain⟨j,hj,hj2⟩:=List.any_eq_true.1 (h1.resolve_left (by omega))
   simp only[Bool.and_eq_true,decide_eq_true_eq] at hj2
   obtain⟨oj,hoj,e,he,hb,hon⟩:=Region.waitsFor_spec hj2.2
   have hjle:j≤t:=by have:=List.mem_range.1 hj;omega
   by_cases hjt:j=t
   ·subst hjt
    have:oj=ot:=Option.some.inj (hoj.symm.trans hot)
    subst this
    have h2:=hall e he hb
    rw[hon,getD_both hun] at h2
    cases h2
   ·cases hl:listed.getD j false with
    |true=>
     have h2:=inv.closed j oj hoj hl e he hb
     rw[hon,getD_both hun] at h2
     cases h2
    |false=>
     have hjs:j<listed.size:=by rw[inv.size];omega
     exact ih (t-j) (by omega) j rfl (by omega) (by omega) (getD_in hjs hl) t (Nat.le_refl _) hr
  ·have h1:=List.all_eq_true.1 hc t (List.mem_range.2 htlt)
   simp only[Bool.or_eq_true,decide_eq_true_eq] at h1
   rcases h1 with h1|h1
   ·omega
   ·obtain⟨j,hj,hj2⟩:=List.any_eq_true.1 h1
    simp only[Bool.and_eq_true,decide_eq_true_eq] at hj2
    have hjt:=List.mem_range.1 hj
    obtain⟨o',ho',e,he,hb,hon⟩:=Region.waitsFor_spec hj2.2
    have:o'=ot:=Option.some.inj (ho'.symm.trans hot)
    subst this
    have h2:=hall e he hb
    rw[hon,getD_both (inv.tail j hj2.1 (by omega))] at h2
    cases h2
theorem tO {n i:Nat} {oi:Oper} {S:dx} {L:Array Bool→cp→iN→Prop} (hi:ops[i]? =some oi) (hcalls:mo=true→fW .any ops=true)
 (hs:BG ops n=true) (hc:jT ops n=true) (hi0:0<i) (hin:i<n)
 (hdone:∀listed F Z,L listed F Z→∀j∈Region.ready .any ops listed,n≤j):
 ∀(f:Nat) (listed:Array Bool) (F:cp) (Z Z':iN),HeadInv .any ops n listed→
  (∀j oj,ops[j]? =some oj→j≠i→listed.getD j true=false→(∀e∈oj.after,Region.binds .any e=true→e.on≠i)→oi.apart ops oj=true)→
  i∈Region.ready .any ops listed→fp P ops Env Rl mo Pn N F Z oi S Z'→
  gG P .any ops Env Rl mo Pn N n L f (listed.setIfInBounds i true) (iz F oi.dst S) Z'→gG P .any ops Env Rl mo Pn N n L (f+1) listed F Z:=
 jP hi hcalls hin (fun _ inv hun t ht=>y7 hs hc inv _ i rfl hi0 hin hun t ht) hdone
theorem qH {n:Nat} {perm:List Nat} {Lq:cp→iN→Prop} (hcalls:mo=true→fW .any ops=true) (hs:BG ops n=true) (hc:jT ops n=true):
 ∀(l:List Oper) (k:Nat) (listed:Array Bool) (F:cp) (Z:iN),0<k→(∀j,j<l.length→l[j]? =ops[k+j]?)→k+l.length=n→HeadInv .any ops n listed→
 gO ops n perm l.length k listed=true→(∀t,bR Rl (F t))→cH Z→fg P ops Env Rl mo Pn N l F Z Lq→
 gG P .any ops Env Rl mo Pn N n (fun listed' F' Z'=>(nQ ops perm listed'=true∧(Region.ready .any ops listed').all (fun j=>decide (n≤j))=true)∧Lq F' Z') l.length listed F Z
 |[],k,listed,F,Z,_,_,hk,_,hB,_,_,h=>by
  simp only[List.length_nil,gO,Bool.and_eq_true] at hB
  exact⟨hB,h⟩
 |o::l,k,listed,F,Z,hk0,hl,hk,inv,hB,hF,hZ,h=>by
  have h0:ops[k]? =some o:=by simpa using(hl 0 (by simp)).symm
  simp only[List.length_cons,gO,Bool.and_eq_true] at hB
  obtain⟨⟨hr,hf⟩,hB'⟩:=hB
  have hkn:k<n:=by simp only[List.length_cons] at hk;omega
  have hr':k∈Region.ready .any ops listed:=by simpa using hr
  obtain⟨S,Z',hspec,hrest⟩:=h hF hZ
  exact tO h0 hcalls hs hc hk0 hkn (fun listed' F' Z' hL j hj=>by simpa using List.all_eq_true.1 hL.1.2 j hj) l.length listed F Z Z' inv (Region.free_spec h0 hf) hr' hspec
   (qH hcalls hs hc l (k+1) _ _ _ (by omega) (fun j hj=>by have:=hl (j+1) (by simp;omega);simpa [Nat.add_assoc,Nat.add_comm 1 j] using this) (by simp only[List.length_cons] at hk;omega) (inv.set hr' hkn) hB' (jm hF hspec.stable) (hspec.zst hZ) hrest)
def G5 (ops:Array Oper) (n:Nat) (perm:List Nat):Bool:=
 Region.noSelect ops&&decide (0<n)&&decide (n<ops.size)&&BG ops n&&jT ops n&&decide (n+perm.length=ops.size)&&Region.free .any ops (Array.replicate ops.size false) 0&&(Region.ready .any ops (Array.replicate ops.size false)).contains 0&&gO ops n perm (n-1) 1 ((Array.replicate ops.size false).setIfInBounds 0 true)
theorem wR {Q:fB} {D:List Deferred} {l:Fr} {w:World} {id d:Nat} {x:Operand} {v:Value} {ty:TypeId} {pos:String} {aft:Array Edge} {os:List Oper} (n:Nat) (perm:List Nat) (ts:List Nat) (hm:P.follows .mixedOrders=true)
 (hB:G5 ((⟨some d,.move x,ty,pos,aft,none⟩:Oper)::os).toArray n perm=true) (hp:(perm.all fun i=>decide (i<os.length+1))=true) (hx:ev l x=some v) (hd:Nat.blt d N=true)
 (h:fg P ((⟨some d,.move x,ty,pos,aft,none⟩:Oper)::os).toArray (aM w) aM false G7 N (os.take (n-1)) (qT ((d,v)::l)) (fun _=>True) (fun F _=>∀w',aM w w'→gU F w' ts (fun l'=>bP P ((⟨some d,.move x,ty,pos,aft,none⟩:Oper)::os).toArray (gS Q) N D l' w' (pO ((⟨some d,.move x,ty,pos,aft,none⟩:Oper)::os) perm)))):cW P Q N D l w (.region id ((⟨some d,.move x,ty,pos,aft,none⟩:Oper)::os).toArray true):=fun a ha=>by
 obtain⟨o,ho⟩:∃o:Oper,o=⟨some d,.move x,ty,pos,aft,none⟩:=⟨_,rfl⟩
 rw[←ho] at hB h⊢
 have ha':=ha.put hd v
 have hsat:xd N D (qT ((d,v)::l)) (a.put (some d) v) {w with drawn:=w.drawn+1}:=⟨ha'.size,ha'.defers,fun t=>by
  show qT ((d,v)::l) t ((a.put (some d) v).tmps.getD t undef) _
  unfold qT
  cases hv:lk ((d,v)::l) t with
  |some v=>exact ha'.at_ t v hv
  |none=>trivial⟩
 simp only[G5,Bool.and_eq_true,decide_eq_true_eq] at hB
 obtain⟨⟨⟨⟨⟨⟨⟨⟨hsel,hn0⟩,hn⟩,hs⟩,hc⟩,hlen⟩,hf⟩,hr⟩,hlex⟩:=hB
 have hn':n<os.length+1:=by simpa using hn
 have htl:(os.take (n-1)).length=n-1:=by simp;omega
 have h00:(o::os).toArray[0]? =some o:=by simp
 have inv0:HeadInv .any (o::os).toArray n (Array.replicate (o::os).toArray.size false):=
  ⟨by simp,fun j oj _ hl=>(by rw[getD_replicate_false] at hl;cases hl),fun t _ ht=>getD_in (by simpa using ht) (getD_replicate_false _ _)⟩
 have hr':0∈Region.ready .any (o::os).toArray (Array.replicate (o::os).toArray.size false):=by simpa using hr
 have H:=qH (perm:=perm) (fun h=>by cases h) hs hc (os.take (n-1)) 1 _ _ _ (by omega) (fun j hj=>by
  have hj':j<n-1:=by rw[htl] at hj;exact hj
  simp[hj',Nat.add_comm 1 j]) (by rw[htl];omega) (inv0.set hr' (by omega)) (by rw[htl];exact hlex) (fF _) cH.triv (iA _ _ _ (fun F Z hK a' w' he hs=>by
   obtain⟨l',hl',hk⟩:=gU.use hs (hK w' he)
   exact hk a' hl':∀F (Z:iN),_→(∀a' w',aM w w'→xd N D F a' w'→wpList P (o::os).toArray (gS Q) (pO (o::os) perm) a' w')) h)
 have hpick:∀(perm:List Nat),(perm.all fun i=>decide (i<(o::os).length))=true→(perm.map fun i=>(o::os).toArray[i]?)=(pO (o::os) perm).map some:=by
  intro perm
  induction perm with
  |nil=>intro _;rfl
  |cons i is ih=>
   intro hp
   simp only[List.all_cons,Bool.and_eq_true,decide_eq_true_eq] at hp
   have e:(o::os)[i]? =some (o::os)[i]:=List.getElem?_eq_getElem hp.1
   simp only[List.map_cons,pO,e,List.getElem?_toArray]
   rw[←ih hp.2]
   simp
 have rest:=eU (D:=D) (Q':=gS Q) (l0:=[]) (g:=perm.length) (fE.plain w) (fun _ _ _ _ _ _ h=>h.elim) (fun _ _ _ _ _ _ _ hp=>by cases hp) (fun listed F Z hL hF hZ a' w' he hsat hz=>iw hsel perm (pO (o::os) perm) listed a' w' (hpick perm (by simpa using hp)) hL.1.1 (hL.2 a' w' he hsat)) _ _ _ _ H (fF _) cH.triv (a.put (some d) v) {w with drawn:=w.drawn+1} ⟨rfl,rfl,rfl,Nat.le_refl _,fun _ _=>rfl⟩ hsat (fun _ hp=>by cases hp) trivial
 rw[htl] at rest
 refine wp_mono (wp_region_any (Q:=gS Q) hm ?_) fun e a w he=>by obtain⟨rfl,h⟩:=he;exact h
 have hsz:(o::os).toArray.size=(n-1+perm.length)+1:=by rw[←hlen];omega
 rw[show wpAny P .any (o::os).toArray (gS Q) (o::os).toArray.size=wpAny P .any (o::os).toArray (gS Q) ((n-1+perm.length)+1) by rw[hsz]]
 have hval:(∀w':World,(execOp a.eval o).run P w'=.ok (.value v) w'):=fun w'=>by
  rw[ho]
  have hv:a.eval x=v:=ha.ev hx
  simp[execOp,hv]
 have hdst:o.dst=some d:=by rw[ho]
 exact wpAny_take h00 hsel hf hr (fun c a w hp=>by obtain⟨hp,_⟩:=hp;cases hp) (.inl ⟨by rw[ho];rfl,hval⟩) (by rw[hdst];exact rest)
end
end Go.Rl
namespace Go.Rl
open Go.RowKit Go.Proofs
theorem Fz {n:Int} (h:oJ n):1≤(jE n).length∧(jE n).length≤10:=⟨vC _,fc (Hl h.1 h.2)⟩
theorem dW {α β:Type} {f:α→List β} {l:List α} {i:Nat} (hi:i<l.length):(l.take (i+1)).flatMap f=(l.take i).flatMap f++f l[i]:=by
 rw[List.take_succ_eq_append_getElem hi,List.flatMap_append,List.flatMap_singleton]
end Go.Rl
namespace Go.Rl
open Go.RowKit Go.Proofs
theorem tA {w:World} {g:Nat}:(Instr.sliceAt 22 (.pointer (some ⟨g,0,none⟩)) none none none).run Tryz.prog w=.ok (.slice (some ⟨g,0,none⟩) 32 32) w:=by
 simp[Instr.sliceAt,run_underlying Tryz.underlying22,Instr.sureAddr,Instr.sliceBounds,dE fC,Addr.add_mid]
theorem y8 {X:Nat→Prop} {w:World}:∀(l:List Int),aO X w (l.map sy) (l.map I)
 |[]=>aO.nil
 |n::l=>aO.cons (a:=[I n]) (by simp only[sy,cK,I]) (y8 l)
theorem eQ.rpx {X:Nat→Prop} {w:World} {base:Nat} {l:List Int} {v:Value} (h:eQ base l v w) (hX:∀k,v.ownBlock=some k→¬X k):cK X w (GT l) [v]:=by
 obtain⟨n,h⟩:=h
 exact cK.ofOwn h (y8 l) (by simp[ya]) (by omega) hX
end Go.Rl
namespace Go.Rl
open Go.RowKit Go.Proofs
section
variable {w:World} {g:Nat} {T:TypeId} {d:List UInt8} {v:Value}
def fo (d:List UInt8) (v:Value):List Value:=d.map U8++[v]
abbrev dy:Value:=.slice none 0 0
theorem wT (hd:d.length=32):(fo d v).length=33:=by simp[fo,hd]
theorem wU:fK.length=32:=rfl
theorem HQ:(Tryz.prog.info? 25).map (·.size)=some 33:=by kernel_rfl
theorem iU:(Tryz.prog.info? 25).map (·.zero)=some (some (.agg (fo fK dy).toArray)):=by kernel_rfl
theorem eq (hd:d.length=32):(Tryz.prog.info? 25).map (·.size)=some (fo d v).length:=by rw[wT hd];exact HQ
theorem FA (hv:v.oneCell'=true):aI (fo d v):=fun u hu=>by
 rcases List.mem_append.1 hu with h|h
 ·exact kK d u h
 ·obtain rfl:=List.mem_singleton.1 h;exact hv
theorem wV:(Instr.fieldAt 25 (.pointer (some ⟨g,0,none⟩)) 0).run Tryz.prog w=.ok (.pointer (some ⟨g,0,none⟩)) w:=aE (o:=0) I2 rfl (by kernel_rfl) rfl
theorem lA:(Instr.fieldAt 25 (.pointer (some ⟨g,0,none⟩)) 1).run Tryz.prog w=.ok (.pointer (some ⟨g,32,none⟩)) w:=aE (o:=32) I2 rfl (by kernel_rfl) rfl
theorem FB (k:cd g T (fo d v) w) (hd:d.length=32):(Instr.loadAt 22 (.pointer (some ⟨g,0,none⟩))).run Tryz.prog w=.ok (.agg (d.map U8).toArray) w:=
 k.ldO (ms:=d.map U8) (o:=0) (fun j u hj=>by
  rw[Nat.zero_add,fo,List.getElem?_append_left (by have:=(List.getElem?_eq_some_iff.1 hj).1;simpa using this)]
  exact hj) I6 rfl (by rw[List.length_map,hd];exact jC)
theorem tB (k:cd g T (fo d v) w) (hd:d.length=32):w.cell? ⟨g,32,none⟩=some v:=
 k.cell (i:=32) (by rw[fo,List.getElem?_append_right (by simp[hd])];simp[hd])
theorem Aw (k:cd g T (fo d v) w) (hd:d.length=32):(Instr.loadAt 25 (.pointer (some ⟨g,0,none⟩))).run Tryz.prog w=.ok (.agg (fo d v).toArray) w:=
 k.ld I2 rfl (eq hd)
theorem HR {l:List UInt8} (h:l.length=32):∃a0 a1 a2 a3 a4 a5 a6 a7 a8 a9 b0 b1 b2 b3 b4 b5 b6 b7 b8 b9 c0 c1 c2 c3 c4 c5 c6 c7 c8 c9 d0 d1,l=[a0,a1,a2,a3,a4,a5,a6,a7,a8,a9,b0,b1,b2,b3,b4,b5,b6,b7,b8,b9,c0,c1,c2,c3,c4,c5,c6,c7,c8,c9,d0,d1]:=by
 match l,h with
 |[a0,a1,a2,a3,a4,a5,a6,a7,a8,a9,b0,b1,b2,b3,b4,b5,b6,b7,b8,b9,c0,c1,c2,c3,c4,c5,c6,c7,c8,c9,d0,d1],_=>exact⟨a0,a1,a2,a3,a4,a5,a6,a7,a8,a9,b0,b1,b2,b3,b4,b5,b6,b7,b8,b9,c0,c1,c2,c3,c4,c5,c6,c7,c8,c9,d0,d1,rfl⟩
theorem Dq (hd:d.length=32) (hv:∃A n c,v=.slice A n c):(Instr.build 25 #[(0,.agg (d.map U8).toArray),(1,v)]).run Tryz.prog w=.ok (.agg (fo d v).toArray) w:=by
 obtain⟨a0,a1,a2,a3,a4,a5,a6,a7,a8,a9,b0,b1,b2,b3,b4,b5,b6,b7,b8,b9,c0,c1,c2,c3,c4,c5,c6,c7,c8,c9,d0,d1,rfl⟩:=HR hd
 obtain⟨A,n,c,rfl⟩:=hv
 exact run_build _ _ _ _ (by kernel_rfl)
theorem Ax (hv:∃A n c,v=.slice A n c):(Instr.build 25 #[(1,v)]).run Tryz.prog w=.ok (.agg (fo fK v).toArray) w:=by
 obtain⟨A,n,c,rfl⟩:=hv
 exact run_build _ _ _ _ (by kernel_rfl)
theorem dl:(Instr.build 25 #[]).run Tryz.prog w=.ok (.agg (fo fK dy).toArray) w:=run_build _ _ _ _ (by kernel_rfl)
theorem dO {l:List Value} (k:cd g T l w) (hl:l.length=33) (hd:d.length=32) (hv:v.oneCell'=true):∃w',(Instr.storeAt 25 (.pointer (some ⟨g,0,none⟩)) (.agg (fo d v).toArray)).run Tryz.prog w=.ok () w'∧w.grownBy w' (some g)∧cd g T (fo d v) w':=
 k.stS (m:=fo d v) (by rw[hl,wT hd]) (eq hd) (FA hv)
theorem Gy (k:cd g T (fo d v) w) (hd:d.length=32) {i:Nat} (hi:i<32) {b:UInt8}:∃w',(Instr.storeAt 5 (.pointer (some ⟨g,i,none⟩)) (U8 b)).run Tryz.prog w=.ok () w'∧w.grownBy w' (some g)∧cd g T (fo (d.set i b) v) w':=by
 obtain⟨w',h1,h2,h3⟩:=k.stC (P:=Tryz.prog) (t:=5) (i:=i) (v:=U8 b) fC rfl (by rw[wT hd];omega)
 refine⟨w',h1,h2,?_⟩
 have e:(fo d v).set i (U8 b)=fo (d.set i b) v:=by
  unfold fo
  rw[List.set_append_left _ _ (by simpa [hd] using hi),List.map_set]
 rw[e] at h3
 exact h3
end
def fV (base:Nat) (l:List UInt8) (r:Value) (w:World):Prop:=∃v,r=.tuple #[.agg (fo (iq l).1.1 v).toArray,I (iq l).2]∧cK (fun k=>k<base) w (.sl ((iq l).1.2.map bK)) [v]
theorem fV.err {base:Nat} {l:List UInt8} {w:World} {n:Int} (h:iq l=(xb,n)):fV base l (.tuple #[.agg (fo fK dy).toArray,I n]) w:=⟨_,by rw[h];rfl,by rw[h];exact cK.nilSl⟩
theorem fV.ok {base:Nat} {l dg:List UInt8} {ts:List ba} {w:World} {v:Value} (h:iq l=((dg,ts),0)) (hv:cK (fun k=>k<base) w (.sl (ts.map bK)) [v]):fV base l (.tuple #[.agg (fo dg v).toArray,I 0]) w:=⟨v,by rw[h],by rw[h];exact hv⟩
theorem Dr {w:World} {l:List UInt8} {v:Value} (hl:l.length≤1048576) (hv:cm ((l.take (l.length-32)).drop 36) v w):
 Calls Tryz.prog 53 #[v,I 4194304] w (bF fun r w'=>aM w w'∧∃u,r=.tuple #[u,I (pc l).2]∧cm (pc l).1 u w'):=
 bF.mono (Db hv (by rw[List.length_drop,List.length_take];omega) (by omega) (by omega) (fun n t _ h=>by omega)) fun r w' h=>⟨h.1,by have:=yO h.2;rwa [Ft hl] at this⟩
theorem Ds {w:World} {l:List UInt8} {v:Value} (hl:l.length≤1048576) (hv:cm ((l.take (l.length-32)).drop 36) v w):
 Calls Tryz.prog 56 #[v,I 4194304] w (bF fun r w'=>aM w w'∧∃u,r=.tuple #[u,I (pc l).2]∧cm (pc l).1 u w'):=
 bF.mono (C0 hv (by rw[List.length_drop,List.length_take];omega) (by omega) (by omega)) fun r w' h=>⟨h.1,yO h.2⟩
theorem FC {w:World} {b:List UInt8} {v:Value} (hv:cm b v w) (hl:b.length≤549755813888):
 Calls Tryz.prog 54 #[v] w (bF fun r w'=>aM w w'∧∃(vt:Value) (e:Int),r=.tuple #[vt,I e]∧vt.oneCell'=true∧((e=0∧∃ts:List ba,xc b=some ts∧cK (fun k=>k<w.heap.size) w' (.sl (ts.map bK)) [vt])∨(e=5∧xc b=none))):=
 bF.mono (yu hv hl) fun r w' ⟨h1,vt,h2,h3⟩=>⟨h1,vt,by
  rcases h3 with⟨h3,ts,h4,h5⟩|⟨h3,h4⟩
  ·exact⟨0,h3,h2,.inl ⟨rfl,ts,tx h4,h5⟩⟩
  ·exact⟨5,h3,h2,.inr ⟨rfl,yW h4⟩⟩⟩
theorem FD {w:World} {b:List UInt8} {v:Value} (hv:cm b v w) (hl:b.length≤549755813888):
 Calls Tryz.prog 57 #[v] w (bF fun r w'=>aM w w'∧∃(vt:Value) (ok:Bool),r=.tuple #[vt,B ok]∧vt.oneCell'=true∧((ok=true∧∃ts:List ba,xc b=some ts∧cK (fun k=>k<w.heap.size) w' (.sl (ts.map bK)) [vt])∨(ok=false∧xc b=none))):=
 bF.mono (ym hv hl) fun r w' ⟨h1,ts,vt,ok,h2,h3,h4,h5,h6⟩=>⟨h1,vt,ok,h2,h4,by
  cases ok with
  |true=>exact .inl ⟨rfl,ts,tx (h5 rfl),h3⟩
  |false=>exact .inr ⟨rfl,yW (h6 rfl)⟩⟩
theorem Ay {α:Type} {p:α→Bool} {l:List α} {i:Nat} (hi:i<l.length) (h:l.all p=(l.drop i).all p) (h1:p l[i]=true):l.all p=(l.drop (i+1)).all p:=by rw[h,yY hi,h1,Bool.true_and]
theorem Az {α:Type} {p:α→Bool} {l:List α} {i:Nat} (hi:i<l.length) (h:l.all p=(l.drop i).all p) (h1:p l[i]=false):l.all p=false:=by rw[h,yY hi,h1,Bool.false_and]
theorem wW {α:Type} {p:α→Bool} {l:List α} {i:Nat} (hi:l.length≤i) (h:l.all p=(l.drop i).all p):l.all p=true:=by rw[h,List.drop_eq_nil_of_le hi];rfl
end Go.Rl
namespace Go.Rl
open Go.RowKit Go.Proofs
theorem gP:az Tryz.prog 19:=⟨_,Tryz.func19,by kernel_rfl,rfl⟩
theorem AA {w:World} {d:List UInt8} {ts:List ba} {x y:Value} (hd:d.length=32) (hx:dV bK ts x w) (hy:dV bK ts y w):
 Calls Tryz.prog 21 #[.agg (fo d x).toArray,.agg (fo d y).toArray] w (bF fun r w'=>aM w w'∧r=B true):=by
 refine enter (vs:=[.agg (fo d x).toArray,.agg (fo d y).toArray]) Tryz.func21 Jg Jg Jg ?_
 have hll:=hx.len
 refine af (aa ?_)
 obtain⟨g2,w2,hr2,l2,x2,k2⟩:=dB (P:=Tryz.prog) (w:=w) (T:=25) (cs:=fo d x)
 refine cY Jg Jg hr2 ?_
 obtain⟨g3,w3,hr3,l3,x3,k3⟩:=dB (P:=Tryz.prog) (w:=w2) (T:=25) (cs:=fo d y)
 refine cY Jg Jg hr3 ?_
 have kx:=k2.ext x3
 have hx2:=hx.ext (x2.trans x3)
 have hy2:=hy.ext (x2.trans x3)
 have cx:=tB kx hd
 have cy:=tB k3 hd
 refine ab Jg Jg (ag (ac (af (af (aa ?_)))))
 refine ah Jg Jg wV ?_
 refine am Jg Jg (FB kx hd) ?_
 refine ah Jg Jg wV ?_
 refine am Jg Jg (FB k3 hd) ?_
 refine ai (r:=B false) Jg Jg Jg (HP hd) ?_
 refine ae Jg Jg (al Jg ?_)
 refine ah Jg Jg lA ?_
 refine al Jg (am Jg Jg (ak IS Jg cx) (al Jg (aP Jg Jg (bT IS hx2) (al Jg ?_))))
 refine ah Jg Jg lA ?_
 refine al Jg (am Jg Jg (ak IS Jg cy) (al Jg (aP Jg Jg (bT IS hy2) (al Jg (ai Jg Jg Jg (bZ (fun h=>h Jg) bS) ?_)))))
 refine aC Jg Jg Jg (ag (ac (cq Jg (aq (ac (af (af (aa (ab Jg Jg (ag (ac (ax ?_))))))))))))
 refine bV (α:=Nat) (fun i=>[(2,.pointer (some ⟨g2,0,none⟩)),(3,.pointer (some ⟨g3,0,none⟩)),(5,I (i:Int))]) (fun i w'=>aM w w'∧aM w3 w'∧i≤ts.length) (fun i=>ts.length-i) (0) ⟨rfl,rfl,rfl,trivial⟩ ⟨(x2.trans x3),aM.refl _,by omega⟩ ?_
 rintro i w4 ⟨e4,e3,hi⟩
 refine af (af ?_)
 have hx4:=hx2.ext e3
 have hy4:=hy2.ext e3
 have cx4:=e3.cell_some cx
 have cy4:=e3.cell_some cy
 refine aa (ae Jg Jg ?_)
 refine ah Jg Jg lA ?_
 refine am Jg Jg (ak IS Jg cx4) (aP Jg Jg (bT IS hx4) (ai Jg Jg Jg (aX) (ag ?_)))
 refine ac ?_
 refine bi Jg (fun h24=>?_) (fun h24=>?_)
 ·refine aq (ac (af (ax (af (bA 11 [2,3,5,37] (by kernel_rfl) (by kernel_rfl) ?_)))))
  refine aL Jg Jg (fun w hw=>lA) ?_
  refine aD Jg Jg (fun w hw=>ak IS Jg (hw.cell_some cx4)) (ap Jg Jg ?_)
  obtain⟨a30,c30,p30,q30,h30⟩:=ey (P:=Tryz.prog) (sz:=9) IS (by kernel_rfl) bD (by omega) hx4 (i:=i) (by omega) .i64
  obtain⟨e30,he30⟩:∃e,e=ts[i]'(by omega):=⟨_,rfl⟩
  rw[←he30] at h30
  obtain⟨x30_0,x30_1,x30_2,x30_3,x30_4,rfl,f30_0,f30_1,f30_2,f30_3,f30_4⟩:=ee h30
  refine ay Jg Jg Jg (fun w _=>p30 w) (aD Jg Jg (fun w hw=>(q30.ext hw).ld IN Jg (by kernel_rfl)) ?_)
  refine aL Jg Jg (fun w hw=>lA) ?_
  refine aD Jg Jg (fun w hw=>ak IS Jg (hw.cell_some cy4)) (ap Jg Jg ?_)
  obtain⟨a35,c35,p35,q35,h35⟩:=ey (P:=Tryz.prog) (sz:=9) IS (by kernel_rfl) bD (by omega) hy4 (i:=i) (by omega) .i64
  rw[←he30] at h35
  obtain⟨x35_0,x35_1,x35_2,x35_3,x35_4,rfl,f35_0,f35_1,f35_2,f35_3,f35_4⟩:=ee h35
  refine ay rfl rfl rfl (fun w _=>p35 w) (aD rfl rfl (fun w hw=>(q35.ext hw).ld IN rfl (by kernel_rfl)) (cl (S:=Is (B true)) y4 (bu.is _) rfl (fun w hw=>by rintro _ rfl _ rfl;exact y6 _ (Nat.le_refl _) (f30_0.ext hw) (f30_1.ext hw) (f30_2.ext hw) (f30_3.ext hw) (f30_4.ext hw) (f35_0.ext hw) (f35_1.ext hw) (f35_2.ext hw) (f35_3.ext hw) (f35_4.ext hw)) ?_))
  refine bG ?_
  intro wg6 xg6
  rintro _ rfl
  rintro _ rfl
  rintro _ rfl
  rintro _ rfl
  refine ci Jg Jg cj (ag (ac (cq Jg (aq (aJ (ac (aa (ae Jg Jg (ai (r:=I ((i+1:Nat):Int)) Jg Jg Jg (by have e:((i+1:Nat):Int)=(i:Int)+1:=(by omega);rw[e];exact aK (by omega) (by omega)) ?_)))))))))
  refine ab Jg Jg (ag ?_)
  refine bM (i+1) ⟨rfl,rfl,rfl,trivial⟩ ⟨(e4.trans xg6),(e3.trans xg6),by omega⟩ (by omega)
 ·refine aW (aA (aA (aU (ac (af (aa (ab Jg Jg (ag (ac (au (aF Jg Jg ?_)))))))))))
  exact⟨_,rfl,e4,rfl⟩
theorem gQ {w:World} {l:List UInt8} {v:Value} (hv:cm l v w):
 Calls Tryz.prog 19 #[v] w (bF fun r w'=>aM w w'∧fV w.heap.size l r w'):=by
 refine enter (vs:=[v]) Tryz.func19 Jg Jg Jg ?_
 have hll:=hv.len
 refine af (aa ?_)
 obtain⟨g2,w2,hr2,l2,x2,k2⟩:=bf (P:=Tryz.prog) (w:=w) (t:=25) (z:=.agg (fo fK dy).toArray) (l:=fo fK dy) iU rfl
 refine bh Jg hr2 ?_
 refine ab Jg Jg (ag (ac (af (af (aa (ae Jg Jg (aP Jg Jg (bz (hv.ext x2)) (ai Jg Jg Jg (ce) (ag (ac ?_))))))))))
 refine bi Jg (fun h13=>?_) (fun h13=>?_)
 ·have h1:1048576<l.length:=by omega
  refine af (aa ?_)
  refine bm (vs:=[]) (r:=.agg (fo fK dy).toArray) Jg Jg dl ?_
  obtain⟨w2_1,s2_1,q2_1,k2_1⟩:=dO (d:=fK) (v:=dy) (k2.ext (aM.refl _)) rfl rfl rfl
  refine ar Jg Jg s2_1 ?_
  have x2_1:=aM.of_new (x2) q2_1 l2
  refine ab Jg Jg (ag (ac (au (av ?_))))
  refine bH Jg Jg Jg k2_1 I2 Jg (eq Jg) ?_
  exact⟨_,rfl,x2_1,fV.err (uX h1)⟩
 ·have h1:¬1048576<l.length:=by omega
  refine aq (ac (af (af ?_)))
  rcases Nat.lt_or_ge l.length 68 with h68|h68
  ·refine aa (ae Jg Jg (aP Jg Jg (bz (hv.ext x2)) (ai Jg Jg Jg (cf (by omega) aX) (ae Jg Jg (ao Jg Jg Jg (ao Jg Jg Jg (ao Jg Jg Jg ?_)))))))
   refine ao Jg Jg Jg (aw Jg Jg Jg (ag (ac (bB Jg (af (aa ?_))))))
   refine bm (vs:=[]) (r:=.agg (fo fK dy).toArray) Jg Jg dl ?_
   obtain⟨w4_1,s4_1,q4_1,k4_1⟩:=dO (d:=fK) (v:=dy) (k2.ext (aM.refl _)) rfl rfl rfl
   refine ar Jg Jg s4_1 ?_
   have x4_1:=aM.of_new (x2) q4_1 l2
   refine ab Jg Jg (ag (ac (au (av ?_))))
   refine bH Jg Jg Jg k4_1 I2 Jg (eq Jg) ?_
   exact⟨_,rfl,x4_1,fV.err (mY h1 (by first|exact .inl h68|exact .inr h2))⟩
  ·refine aa (ae Jg Jg (aP Jg Jg (bz (hv.ext x2)) (ai Jg Jg Jg (bZ (by omega) aX) (ae Jg Jg (al Jg (ae Jg Jg (al Jg ?_)))))))
   obtain⟨v20,p20,b20⟩:=gL (hv.ext x2) (hi:=4) (by omega) .i64
   refine cu Jg Jg Jg Jg Jg (p20 _) (al Jg (aQ Jg Jg (p5 b20) (al Jg (ai (v:=S [82,76,85,67]) Jg Jg Jg (qX) (aC Jg Jg Jg ?_)))))
   refine ag (ac ?_)
   refine bi Jg (fun h23=>?_) (fun h23=>?_)
   ·have h2:l.take 4≠fR:=h23
    refine af (aa ?_)
    refine bm (vs:=[]) (r:=.agg (fo fK dy).toArray) Jg Jg dl ?_
    obtain⟨w4_1,s4_1,q4_1,k4_1⟩:=dO (d:=fK) (v:=dy) (k2.ext (aM.refl _)) rfl rfl rfl
    refine ar Jg Jg s4_1 ?_
    have x4_1:=aM.of_new (x2) q4_1 l2
    refine ab Jg Jg (ag (ac (au (av ?_))))
    refine bH Jg Jg Jg k4_1 I2 Jg (eq Jg) ?_
    exact⟨_,rfl,x4_1,fV.err (mY h1 (by first|exact .inl h68|exact .inr h2))⟩
   ·have h2:¬(l.length<68∨l.take 4≠fR):=fun hh=>hh.elim (fun hh=>by omega) h23
    refine aq (ac (af (aa (ae Jg Jg (aP Jg Jg (bz (hv.ext x2)) (ai (r:=I ((l.length-32:Nat):Int)) Jg Jg Jg (by have e:((l.length-32:Nat):Int)=(l.length:Int)-32:=(by omega);rw[e];exact bb (by omega) (by omega)) ?_))))))
    refine ab Jg Jg (ab Jg Jg (ag (ac (af (af (bA 9 [0,2,4,5,31,36] (by kernel_rfl) (by kernel_rfl) ?_))))))
    have hvg:=hv.ext x2
    obtain⟨v30,p30,b30⟩:=gL hvg (hi:=l.length-32) (by omega) .i64
    obtain⟨v34,p34,b34⟩:=eZ hvg (lo:=l.length-32) (by omega) .i64
    have l34:(l.drop (l.length-32)).length=32:=by rw[List.length_drop];omega
    obtain⟨ad,p35,c35⟩:=G1 b34 l34
    refine ap rfl rfl (ap rfl rfl (gI (a:=none) (b:=some (I ((l.length-32:Nat):Int))) rfl rfl rfl rfl (fun w _=>p30 w) (cl (S:=Is (.agg ((iV (l.take (l.length-32))).map U8).toArray)) uU (bu.is _) rfl (fun w hw=>by rintro _ rfl;exact(uV (b30.ext hw))) ?_)))
    refine ap Jg Jg (ap Jg Jg (gI (a:=some (I ((l.length-32:Nat):Int))) (b:=none) Jg Jg Jg Jg (fun w _=>p34 w) (Do Jg Jg (fun w _=>p35 w) ?_)))
    refine aD Jg Jg (fun w hw=>BE (c35.ext hw) l34) (bG ?_)
    intro wg6 xg6
    rintro _ hq0
    obtain rfl:=Eq.symm hq0
    rintro _ rfl
    rintro _ rfl
    rintro _ rfl
    rintro _ rfl
    rintro _ rfl
    refine ai Jg Jg Jg ((by exact G0 (dC _) l34)) (ag (ac ?_))
    refine bi Jg (fun h37=>?_) (fun h37=>?_)
    ·have h3:iV (l.take (l.length-32))≠l.drop (l.length-32):=h37
     refine af (aa ?_)
     refine bm (vs:=[]) (r:=.agg (fo fK dy).toArray) Jg Jg dl ?_
     obtain⟨w7_1,s7_1,q7_1,k7_1⟩:=dO (d:=fK) (v:=dy) (k2.ext (xg6)) rfl rfl rfl
     refine ar Jg Jg s7_1 ?_
     have x7_1:=aM.of_new ((x2.trans xg6)) q7_1 l2
     refine ab Jg Jg (ag (ac (au (av ?_))))
     refine bH Jg Jg Jg k7_1 I2 Jg (eq Jg) ?_
     exact⟨_,rfl,x7_1,fV.err (yV h1 h2 h3)⟩
    ·have h3:¬iV (l.take (l.length-32))≠l.drop (l.length-32):=h37
     refine aq (ac (af (aa (ae Jg Jg (ae Jg Jg (ae Jg Jg ?_))))))
     obtain⟨v43,p43,b43⟩:=p6 (hv.ext (x2.trans xg6)) (lo:=36) (hi:=l.length-32) (by omega) (by omega) .i64 .i64
     refine cu Jg Jg Jg Jg Jg (p43 _) (an C7 Jg Jg ((Dr (by omega) b43)) ?_)
     rintro v44 w44 ⟨x44,vu,rfl,bU⟩
     refine ae Jg Jg (aj Jg Jg (aS) (aj Jg Jg (aT) (ab Jg Jg (ab Jg Jg (ag (ac (af (af (aa (ae Jg Jg (ai Jg Jg Jg (bS) ?_)))))))))))
     refine ag (ac ?_)
     refine bi Jg (fun h48=>?_) (fun h48=>?_)
     ·have h4:(pc l).2≠0:=h48
      refine af (aa ?_)
      refine bm (vs:=[]) (r:=.agg (fo fK dy).toArray) Jg Jg dl ?_
      refine ae Jg Jg ?_
      obtain⟨w10_2,s10_2,q10_2,k10_2⟩:=dO (d:=fK) (v:=dy) (k2.ext ((xg6.trans x44))) rfl rfl rfl
      refine ar Jg Jg s10_2 ?_
      have x10_2:=aM.of_new (((x2.trans xg6).trans x44)) q10_2 l2
      refine ab Jg Jg (ag (ac (au (av ?_))))
      refine bH Jg Jg Jg k10_2 I2 Jg (eq Jg) ?_
      exact⟨_,rfl,x10_2,fV.err (yX h1 h2 h3 rfl h4)⟩
     ·have h4:(pc l).2=0:=Classical.byContradiction h48
      have hul:=BD (l:=l)
      have e2u:=(xg6.trans x44)
      refine aq (ac (af (aa (ae Jg Jg (an yt Jg Jg ((FC (b:=(pc l).1) bU (by omega))) ?_)))))
      rintro v53 w53 ⟨x53,vt,e5,rfl,h1v,hT⟩
      refine ae Jg Jg (aj Jg Jg (aS) (aj Jg Jg (aT) (ab Jg Jg (ab Jg Jg (ag (ac (af (af (aa (ae Jg Jg (ai Jg Jg Jg (bS) ?_)))))))))))
      refine ag (ac ?_)
      refine bi Jg (fun h57=>?_) (fun h57=>?_)
      ·have he5:e5=5∧xc (pc l).1=none:=hT.resolve_left (fun h=>h57 h.1)
       refine af (aa ?_)
       refine bm (vs:=[]) (r:=.agg (fo fK dy).toArray) Jg Jg dl ?_
       refine ae Jg Jg ?_
       obtain⟨w13_2,s13_2,q13_2,k13_2⟩:=dO (d:=fK) (v:=dy) (k2.ext (((xg6.trans x44).trans x53))) rfl rfl rfl
       refine ar Jg Jg s13_2 ?_
       have x13_2:=aM.of_new ((((x2.trans xg6).trans x44).trans x53)) q13_2 l2
       refine ab Jg Jg (ag (ac (au (av ?_))))
       refine bH Jg Jg Jg k13_2 I2 Jg (eq Jg) ?_
       exact⟨_,rfl,x13_2,fV.err (by rw[he5.1];exact BB h1 h2 h3 h4 he5.2)⟩
      ·have he5:e5=0:=Classical.byContradiction h57
       obtain⟨ts,hts0,rts⟩:∃ts:List ba,xc (pc l).1=some ts∧cK (fun k=>k<w44.heap.size) w53 (.sl (ts.map bK)) [vt]:=hT.elim (fun h=>h.2) (fun h=>by have:=h.1;omega)
       have hD:=BC h1 h2 h3 h4 hts0
       have hts:dV bK ts vt w53:=rts.rp
       have htl:=hts.len
       have e53:=(((x2.trans xg6).trans x44).trans x53)
       have e253:=((xg6.trans x44).trans x53)
       refine aq (ac (af (af (aa (ae Jg Jg (aP Jg Jg (bT IS hts) (ae Jg Jg (ag (ac (ax ?_))))))))))
       refine bV (α:=Nat) (fun i=>[(0,v),(2,.pointer (some ⟨g2,0,none⟩)),(4,I 36),(8,vt),(60,vt),(61,I (ts.length:Int)),(62,I (i:Int))]) (fun i w'=>aM w w'∧aM w53 w'∧i≤ts.length∧ts.all gk=(ts.drop i).all gk) (fun i=>ts.length-i) (0) ⟨rfl,rfl,rfl,rfl,rfl,rfl,rfl,trivial⟩ ⟨(((x2.trans xg6).trans x44).trans x53),aM.refl _,by omega,rfl⟩ ?_
       rintro i wL ⟨eL,e5L,hi,hall⟩
       refine af (aa (ai Jg Jg Jg (aX) (ag (ac (af ?_)))))
       refine bi Jg (fun h63=>?_) (fun h63=>?_)
       ·refine aq (ac (af (ax (af (aa ?_)))))
        obtain⟨a64,c64,p64,q64,h64⟩:=ey (P:=Tryz.prog) (sz:=9) IS (by kernel_rfl) bD (by omega) (hts.ext e5L) (i:=i) (by omega) .i64
        obtain⟨e64,he64⟩:∃e,e=ts[i]'(by omega):=⟨_,rfl⟩
        rw[←he64] at h64
        obtain⟨x64_0,x64_1,x64_2,x64_3,x64_4,rfl,f64_0,f64_1,f64_2,f64_3,f64_4⟩:=ee h64
        refine aB Jg Jg Jg (p64 _) (am Jg Jg (q64.ld IN Jg (by kernel_rfl)) ?_)
        obtain⟨g10,w10,hr10,l10,x10,k10⟩:=bf (P:=Tryz.prog) (w:=wL) (t:=83) (z:=.agg #[.slice none 0 0,I 0,I 0,B false,.slice none 0 0,.slice none 0 0,.slice none 0 0,B false,.slice none 0 0]) (l:=[.slice none 0 0,I 0,I 0,B false,.slice none 0 0,.slice none 0 0,.slice none 0 0,B false,.slice none 0 0]) (by kernel_rfl) rfl
        refine bh Jg hr10 ?_
        obtain⟨w16_3,s16_3,q16_3,k16_3⟩:=k10.stS (P:=Tryz.prog) (t:=83) (m:=[x64_0,I e64.split.kd,I e64.split.ix,B e64.split.at_.1,x64_1,x64_2,x64_3,B e64.empty,x64_4]) rfl (by kernel_rfl) (aI.cons f64_0.one (aI.cons rfl (aI.cons rfl (aI.cons rfl (aI.cons f64_1.one (aI.cons f64_2.one (aI.cons f64_3.one (aI.cons rfl (aI.cons f64_4.one aI.nil)))))))))
        refine ar Jg Jg s16_3 ?_
        have x16_3:=aM.of_new (x10) q16_3 l10
        refine ag (ac (af (aa (am Jg Jg (k16_3.ld IN Jg (by kernel_rfl)) (an sX Jg Jg ((CT (n:=e64) (f64_0.ext x16_3) (f64_1.ext x16_3) (f64_2.ext x16_3) (f64_3.ext x16_3) (f64_4.ext x16_3))) ?_)))))
        rintro v67 w67 ⟨x67,rfl⟩
        refine ci Jg Jg cj (ag (ac ?_))
        refine gZ Jg (fun h68=>?_) (fun h68=>?_)
        ·have hno:gk (ts[i]'(by omega))=false:=by rw[←he64];simpa using h68
         refine af (aa ?_)
         refine bm (vs:=[]) (r:=.agg (fo fK dy).toArray) Jg Jg dl ?_
         obtain⟨w18_1,s18_1,q18_1,k18_1⟩:=dO (d:=fK) (v:=dy) ((k2.ext e253).ext (((e5L.trans x16_3).trans x67))) rfl rfl rfl
         refine ar Jg Jg s18_1 ?_
         have x18_1:=aM.of_new (((eL.trans x16_3).trans x67)) q18_1 l2
         refine ab Jg Jg (ag (ac (au (bc (av (av (bc (av ?_))))))))
         refine bH Jg Jg Jg k18_1 I2 Jg (eq Jg) ?_
         exact⟨_,rfl,x18_1,fV.err (by rw[hD,if_neg (by rw[Az (by omega) hall hno];simp)])⟩
        ·have hyes:gk (ts[i]'(by omega))=true:=by rw[←he64];simpa using h68
         refine aq (aJ (ac (aa (ai (r:=I ((i+1:Nat):Int)) Jg Jg Jg (by have e:((i+1:Nat):Int)=(i:Int)+1:=(by omega);rw[e];exact aK (by omega) (by omega)) ?_))))
         refine ae Jg Jg (ag ?_)
         refine bM (i+1) ⟨rfl,rfl,rfl,rfl,rfl,rfl,rfl,trivial⟩ ⟨((eL.trans x16_3).trans x67),((e5L.trans x16_3).trans x67),by omega,Ay (by omega) hall hyes⟩ (by omega)
       ·refine aW (aA (aA (aU (ac (af ?_)))))
        have hav:=wW (by omega) hall
        obtain⟨v73,p73,b73⟩:=p6 (hv.ext eL) (lo:=4) (hi:=36) (by omega) (by omega) .i64 .i64
        have l73:((l.take 36).drop 4).length=32:=by rw[List.length_drop,List.length_take];omega
        obtain⟨ad4,p74,c74⟩:=G1 b73 l73
        have hts2:=hts.ext e5L
        obtain⟨At,nt,ct,evt⟩:=hts2.isS
        refine aa (ae Jg Jg (ae Jg Jg (cu Jg Jg Jg Jg Jg (p73 _) (tP Jg Jg (p74 _) (am Jg Jg (BE c74 l73) (ae Jg Jg ?_))))))
        refine bm (vs:=[(0,.agg (((l.take 36).drop 4).map U8).toArray),(1,vt)]) (r:=.agg (fo ((l.take 36).drop 4) vt).toArray) Jg Jg (Dq l73 ⟨At,nt,ct,evt⟩) ?_
        obtain⟨w20_7,s20_7,q20_7,k20_7⟩:=dO (d:=(l.take 36).drop 4) (v:=vt) ((k2.ext e253).ext (e5L)) rfl l73 hts2.one
        refine ar Jg Jg s20_7 ?_
        have x20_7:=aM.of_new (eL) q20_7 l2
        have m20:Mv (fun k=>k=g2) wL w20_7:=Mv.of_grown q20_7 fun k hk _=>(Option.some.inj hk).symm
        have r20:=rts.ext (e5L)
        refine ab Jg Jg (ag (ac (au ?_)))
        refine bH Jg Jg Jg k20_7 I2 Jg (eq l73) ?_
        exact⟨_,rfl,x20_7,fV.ok (by rw[hD,if_pos hav]) (r20.mv (m20.weak (fun k hk hlt=>by have:k=g2:=hk;have:=k2.lt;have:=e2u.size;show k<w44.heap.size;omega)) fun k hk=>.inl (Nat.lt_of_lt_of_le hk (by have:=x2.size;have:=e2u.size;omega)))⟩
end Go.Rl
namespace Go.Rl
open Go.RowKit Go.Proofs
theorem i8:az Tryz.prog 20:=⟨_,Tryz.func20,by kernel_rfl,rfl⟩
theorem FE {a z:List UInt8} {j:Nat} (h:a.length=32) (hz:z.length=32) (hj:j<32) {b:UInt8} (hb:b=a[j]'(by omega)):(a.take j++z.drop j).set j b=a.take (j+1)++z.drop (j+1):=by
 have e:(a.take j).length=j:=by rw[List.length_take];omega
 rw[List.take_succ_eq_append_getElem (by omega),List.append_assoc,List.set_append_right _ _ (by omega),e,Nat.sub_self,List.drop_eq_getElem_cons (i:=j) (l:=z) (by omega),List.set_cons_zero,hb]
 rfl
theorem Gz {a z:List UInt8} {j:Nat} (h:a.length=32) (hz:z.length=32) (hj:j≤32):(a.take j++z.drop j).length=32:=by
 rw[List.length_append,List.length_take,List.length_drop];omega
theorem i9 {w:World} {l:List UInt8} {v:Value} (hv:cm l v w):
 Calls Tryz.prog 20 #[v] w (bF fun r w'=>aM w w'∧fV w.heap.size l r w'):=by
 refine enter (vs:=[v]) Tryz.func20 Jg Jg Jg ?_
 have hll:=hv.len
 refine af (aa ?_)
 obtain⟨g2,w2,hr2,l2,x2,k2⟩:=bf (P:=Tryz.prog) (w:=w) (t:=25) (z:=.agg (fo fK dy).toArray) (l:=fo fK dy) iU rfl
 refine bh Jg hr2 ?_
 refine ab Jg Jg (ag (ac (af (af (aa (ae Jg Jg (aP Jg Jg (bz (hv.ext x2)) (ai Jg Jg Jg (ce) (ag (ac ?_))))))))))
 refine bi Jg (fun h15=>?_) (fun h15=>?_)
 ·have h1:1048576<l.length:=by omega
  refine af (aa ?_)
  refine bm (vs:=[]) (r:=.agg (fo fK dy).toArray) Jg Jg dl ?_
  obtain⟨w2_1,s2_1,q2_1,k2_1⟩:=dO (d:=fK) (v:=dy) (k2.ext (aM.refl _)) rfl rfl rfl
  refine ar Jg Jg s2_1 ?_
  have x2_1:=aM.of_new (x2) q2_1 l2
  refine ab Jg Jg (ag (ac (au (av ?_))))
  refine bH Jg Jg Jg k2_1 I2 Jg (eq Jg) ?_
  exact⟨_,rfl,x2_1,fV.err (uX h1)⟩
 ·have h1:¬1048576<l.length:=by omega
  refine aq (ac (af (af ?_)))
  rcases Nat.lt_or_ge l.length 68 with h68|h68
  ·refine aa (ae Jg Jg (aP Jg Jg (bz (hv.ext x2)) (ai Jg Jg Jg (cf (by omega) aX) (ae Jg Jg (ao Jg Jg Jg (ao Jg Jg Jg (ao Jg Jg Jg ?_)))))))
   refine ao Jg Jg Jg (aw Jg Jg Jg (ag (ac (bB Jg (af (aa ?_))))))
   refine bm (vs:=[]) (r:=.agg (fo fK dy).toArray) Jg Jg dl ?_
   obtain⟨w4_1,s4_1,q4_1,k4_1⟩:=dO (d:=fK) (v:=dy) (k2.ext (aM.refl _)) rfl rfl rfl
   refine ar Jg Jg s4_1 ?_
   have x4_1:=aM.of_new (x2) q4_1 l2
   refine ab Jg Jg (ag (ac (au (av ?_))))
   refine bH Jg Jg Jg k4_1 I2 Jg (eq Jg) ?_
   exact⟨_,rfl,x4_1,fV.err (mY h1 (by first|exact .inl h68|exact .inr h2))⟩
  ·refine aa (ae Jg Jg (aP Jg Jg (bz (hv.ext x2)) (ai Jg Jg Jg (bZ (by omega) aX) (ae Jg Jg (al Jg (ae Jg Jg (al Jg ?_)))))))
   obtain⟨v22,p22,b22⟩:=gL (hv.ext x2) (hi:=4) (by omega) .i64
   refine cu Jg Jg Jg Jg Jg (p22 _) (al Jg (aQ Jg Jg (p5 b22) (al Jg (ai (v:=S [82,76,85,67]) Jg Jg Jg (qX) (aC Jg Jg Jg ?_)))))
   refine ag (ac ?_)
   refine bi Jg (fun h25=>?_) (fun h25=>?_)
   ·have h2:l.take 4≠fR:=h25
    refine af (aa ?_)
    refine bm (vs:=[]) (r:=.agg (fo fK dy).toArray) Jg Jg dl ?_
    obtain⟨w4_1,s4_1,q4_1,k4_1⟩:=dO (d:=fK) (v:=dy) (k2.ext (aM.refl _)) rfl rfl rfl
    refine ar Jg Jg s4_1 ?_
    have x4_1:=aM.of_new (x2) q4_1 l2
    refine ab Jg Jg (ag (ac (au (av ?_))))
    refine bH Jg Jg Jg k4_1 I2 Jg (eq Jg) ?_
    exact⟨_,rfl,x4_1,fV.err (mY h1 (by first|exact .inl h68|exact .inr h2))⟩
   ·have h2:¬(l.length<68∨l.take 4≠fR):=fun hh=>hh.elim (fun hh=>by omega) h25
    refine aq (ac (af (aa (ae Jg Jg (aP Jg Jg (bz (hv.ext x2)) (ai (r:=I ((l.length-32:Nat):Int)) Jg Jg Jg (by have e:((l.length-32:Nat):Int)=(l.length:Int)-32:=(by omega);rw[e];exact bb (by omega) (by omega)) ?_))))))
    refine ab Jg Jg (ag (ac (af (aa (ae Jg Jg (ae Jg Jg ?_))))))
    obtain⟨v32,p32,b32⟩:=gL (hv.ext x2) (hi:=l.length-32) (by omega) .i64
    refine cu Jg Jg Jg Jg Jg (p32 _) (an uR Jg Jg ((uS b32 (by rw[List.length_take];omega))) ?_)
    rintro v33 w33 ⟨x33,rfl⟩
    obtain⟨g5,w5,hr5,l5,x5,k5⟩:=bf (P:=Tryz.prog) (w:=w33) (t:=22) (l:=(List.replicate 32 0).map U8) mh rfl
    refine bh Jg hr5 ?_
    obtain⟨w6,s6,q6,k6⟩:=k5.stS (P:=Tryz.prog) (t:=22) (m:=(iV (l.take (l.length-32))).map U8) (by simp[dC]) (by rw[List.length_map,dC];exact jC) (kK _)
    refine ar Jg Jg s6 ?_
    have x6:=x5.of_new q6 l5
    have bs:cm (iV (l.take (l.length-32))) (.slice (some ⟨g5,0,none⟩) 32 32) w6:=by
     have:=k6.bts (by rw[dC];omega)
     rwa [dC] at this
    refine ag (ac (af (af (bA 6 [0,2,4,35,39] (by kernel_rfl) (by kernel_rfl) ?_))))
    obtain⟨v38,p38,b38⟩:=eZ (hv.ext ((x2.trans x33).trans x6)) (lo:=l.length-32) (by omega) .i64
    refine gI (a:=none) (b:=none) Jg Jg Jg Jg (fun w _=>tA) ?_
    refine dh Jg Jg (fun w hw=>p5 (bs.ext hw)) (ap Jg Jg (ap Jg Jg ?_))
    refine gI (a:=some (I ((l.length-32:Nat):Int))) (b:=none) Jg Jg Jg Jg (fun w _=>p38 w) ?_
    refine dh Jg Jg (fun w hw=>p5 (b38.ext hw)) (bG ?_)
    intro wg7 xg7
    rintro _ hq0
    obtain rfl:=Eq.symm hq0
    rintro _ rfl
    rintro _ rfl
    rintro _ rfl
    rintro _ rfl
    refine ai Jg Jg Jg (qX) (ag (ac ?_))
    refine bi Jg (fun h40=>?_) (fun h40=>?_)
    ·have h3:iV (l.take (l.length-32))≠l.drop (l.length-32):=h40
     refine af (aa ?_)
     refine bm (vs:=[]) (r:=.agg (fo fK dy).toArray) Jg Jg dl ?_
     obtain⟨w8_1,s8_1,q8_1,k8_1⟩:=dO (d:=fK) (v:=dy) (k2.ext (((x33.trans x6).trans xg7))) rfl rfl rfl
     refine ar Jg Jg s8_1 ?_
     have x8_1:=aM.of_new ((((x2.trans x33).trans x6).trans xg7)) q8_1 l2
     refine ab Jg Jg (ag (ac (au (av ?_))))
     refine bH Jg Jg Jg k8_1 I2 Jg (eq Jg) ?_
     exact⟨_,rfl,x8_1,fV.err (yV h1 h2 h3)⟩
    ·have h3:¬iV (l.take (l.length-32))≠l.drop (l.length-32):=h40
     refine aq (ac (af (aa (ae Jg Jg (ae Jg Jg ?_)))))
     obtain⟨v45,p45,b45⟩:=p6 (hv.ext (((x2.trans x33).trans x6).trans xg7)) (lo:=36) (hi:=l.length-32) (by omega) (by omega) .i64 .i64
     refine cu Jg Jg Jg Jg Jg (p45 _) (an CZ Jg Jg ((Ds (by omega) b45)) ?_)
     rintro v46 w46 ⟨x46,vu,rfl,bU⟩
     refine ae Jg Jg (aj Jg Jg (aS) (aj Jg Jg (aT) (ab Jg Jg (ab Jg Jg (ag (ac (af (af (aa (ae Jg Jg (ai Jg Jg Jg (bS) ?_)))))))))))
     refine ag (ac ?_)
     refine bi Jg (fun h50=>?_) (fun h50=>?_)
     ·have h4:(pc l).2≠0:=h50
      refine af (aa ?_)
      refine bm (vs:=[]) (r:=.agg (fo fK dy).toArray) Jg Jg dl ?_
      refine ae Jg Jg ?_
      obtain⟨w11_2,s11_2,q11_2,k11_2⟩:=dO (d:=fK) (v:=dy) (k2.ext ((((x33.trans x6).trans xg7).trans x46))) rfl rfl rfl
      refine ar Jg Jg s11_2 ?_
      have x11_2:=aM.of_new (((((x2.trans x33).trans x6).trans xg7).trans x46)) q11_2 l2
      refine ab Jg Jg (ag (ac (au (av ?_))))
      refine bH Jg Jg Jg k11_2 I2 Jg (eq Jg) ?_
      exact⟨_,rfl,x11_2,fV.err (yX h1 h2 h3 rfl h4)⟩
     ·have h4:(pc l).2=0:=Classical.byContradiction h50
      have hul:=BD (l:=l)
      have e2u:=(((x33.trans x6).trans xg7).trans x46)
      refine aq (ac (af (aa (ae Jg Jg (an yj Jg Jg ((FD (b:=(pc l).1) bU (by omega))) ?_)))))
      rintro v55 w55 ⟨x55,vt,ok5,rfl,h1v,hT⟩
      refine ae Jg Jg (aj Jg Jg (aS) (aj Jg Jg (aT) (ab Jg Jg (ab Jg Jg (ag (ac (af (af (aa (ae Jg Jg (ci Jg Jg cj ?_)))))))))))
      refine ag (ac ?_)
      refine gZ Jg (fun h59=>?_) (fun h59=>?_)
      ·have he5:ok5=false∧xc (pc l).1=none:=hT.resolve_left (fun h=>by rw[h.1] at h59;cases h59)
       refine af (aa ?_)
       refine bm (vs:=[]) (r:=.agg (fo fK dy).toArray) Jg Jg dl ?_
       obtain⟨w14_1,s14_1,q14_1,k14_1⟩:=dO (d:=fK) (v:=dy) (k2.ext (((((x33.trans x6).trans xg7).trans x46).trans x55))) rfl rfl rfl
       refine ar Jg Jg s14_1 ?_
       have x14_1:=aM.of_new ((((((x2.trans x33).trans x6).trans xg7).trans x46).trans x55)) q14_1 l2
       refine ab Jg Jg (ag (ac (au (av ?_))))
       refine bH Jg Jg Jg k14_1 I2 Jg (eq Jg) ?_
       exact⟨_,rfl,x14_1,fV.err (BB h1 h2 h3 h4 he5.2)⟩
      ·have he5:ok5=true:=by simpa using h59
       obtain⟨ts,hts0,rts⟩:∃ts:List ba,xc (pc l).1=some ts∧cK (fun k=>k<w46.heap.size) w55 (.sl (ts.map bK)) [vt]:=hT.elim (fun h=>h.2) (fun h=>by have:=h.1;rw[he5] at this;cases this)
       have hD:=BC h1 h2 h3 h4 hts0
       have hts:dV bK ts vt w55:=rts.rp
       have htl:=hts.len
       have e55:=(((((x2.trans x33).trans x6).trans xg7).trans x46).trans x55)
       have e255:=((((x33.trans x6).trans xg7).trans x46).trans x55)
       refine aq (ac (af (af (aa (ab Jg Jg (ag (ac (ax ?_))))))))
       refine bV (α:=Nat) (fun i=>[(0,v),(2,.pointer (some ⟨g2,0,none⟩)),(4,I ((l.length-32:Nat):Int)),(8,vt),(10,I (i:Int))]) (fun i w'=>aM w w'∧aM w55 w'∧i≤ts.length∧ts.all gk=(ts.drop i).all gk) (fun i=>ts.length-i) (0) ⟨rfl,rfl,rfl,rfl,rfl,trivial⟩ ⟨(((((x2.trans x33).trans x6).trans xg7).trans x46).trans x55),aM.refl _,by omega,rfl⟩ ?_
       rintro i wL ⟨eL,e5L,hi,hall⟩
       refine af (af (aa (ae Jg Jg (ae Jg Jg (aP Jg Jg (bT IS (hts.ext e5L)) (ai Jg Jg Jg (aX) (ag (ac ?_))))))))
       refine bi Jg (fun h64=>?_) (fun h64=>?_)
       ·refine aq (ac (af (ax (af (aa (ae Jg Jg (ae Jg Jg ?_)))))))
        obtain⟨a69,c69,p69,q69,h69⟩:=ey (P:=Tryz.prog) (sz:=9) IS (by kernel_rfl) bD (by omega) (hts.ext e5L) (i:=i) (by omega) .i64
        obtain⟨e69,he69⟩:∃e,e=ts[i]'(by omega):=⟨_,rfl⟩
        rw[←he69] at h69
        obtain⟨x69_0,x69_1,x69_2,x69_3,x69_4,rfl,f69_0,f69_1,f69_2,f69_3,f69_4⟩:=ee h69
        refine aB Jg Jg Jg (p69 _) (am Jg Jg (q69.ld IN Jg (by kernel_rfl)) (an yy Jg Jg ((yz (n:=e69) f69_0 f69_1 f69_2 f69_3 f69_4)) ?_))
        rintro v71 w71 ⟨x71,rfl⟩
        refine ci Jg Jg cj (ag (ac ?_))
        refine gZ Jg (fun h72=>?_) (fun h72=>?_)
        ·have hno:gk (ts[i]'(by omega))=false:=by rw[←he69];simpa using h72
         refine af (aa ?_)
         refine bm (vs:=[]) (r:=.agg (fo fK dy).toArray) Jg Jg dl ?_
         obtain⟨w19_1,s19_1,q19_1,k19_1⟩:=dO (d:=fK) (v:=dy) ((k2.ext e255).ext ((e5L.trans x71))) rfl rfl rfl
         refine ar Jg Jg s19_1 ?_
         have x19_1:=aM.of_new ((eL.trans x71)) q19_1 l2
         refine ab Jg Jg (ag (ac (au (bc (av (av (bc (av ?_))))))))
         refine bH Jg Jg Jg k19_1 I2 Jg (eq Jg) ?_
         exact⟨_,rfl,x19_1,fV.err (by rw[hD,if_neg (by rw[Az (by omega) hall hno];simp)])⟩
        ·have hyes:gk (ts[i]'(by omega))=true:=by rw[←he69];simpa using h72
         refine aq (aJ (ac (aa (ae Jg Jg (ai (r:=I ((i+1:Nat):Int)) Jg Jg Jg (by have e:((i+1:Nat):Int)=(i:Int)+1:=(by omega);rw[e];exact aK (by omega) (by omega)) ?_)))))
         refine ab Jg Jg (ag ?_)
         refine bM (i+1) ⟨rfl,rfl,rfl,rfl,rfl,trivial⟩ ⟨(eL.trans x71),(e5L.trans x71),by omega,Ay (by omega) hall hyes⟩ (by omega)
       ·refine aW (aA (aA (aU (ac (af ?_)))))
        have hav:=wW (by omega) hall
        have l73:((l.take 36).drop 4).length=32:=by rw[List.length_drop,List.length_take];omega
        have hts2:=hts.ext e5L
        obtain⟨At,nt,ct,evt⟩:=hts2.isS
        have k2L:=(k2.ext e255).ext e5L
        refine aa (ae Jg Jg ?_)
        refine bm (vs:=[(1,vt)]) (r:=.agg (fo fK vt).toArray) Jg Jg (Ax ⟨At,nt,ct,evt⟩) ?_
        obtain⟨g11,w11,hr11,l11,x11,k11⟩:=bf (P:=Tryz.prog) (w:=wL) (t:=25) (z:=.agg (fo fK dy).toArray) (l:=fo fK dy) iU rfl
        refine bh Jg hr11 ?_
        obtain⟨wA,sA,qA,kA⟩:=dO (d:=fK) (v:=vt) k11 rfl rfl hts2.one
        refine ar Jg Jg sA ?_
        have xA:=aM.of_new x11 qA l11
        have eA:=eL.trans xA
        have e2A:=e5L.trans xA
        have sL:=eL.size
        have g2lt:=k2L.lt
        refine ag (ac (af (af (aa (ab Jg Jg (ag (ac (ax ?_))))))))
        refine bV (α:=Nat) (fun j=>[(0,v),(2,.pointer (some ⟨g2,0,none⟩)),(11,.pointer (some ⟨g11,0,none⟩)),(12,I (j:Int))]) (fun j w'=>Mv (fun k=>k=g11) wA w'∧cd g11 25 (fo (((l.take 36).drop 4).take j++fK.drop j) vt) w'∧j≤32) (fun j=>32-j) (0) ⟨rfl,rfl,rfl,rfl,trivial⟩ ⟨Mv.refl _ _,kA,by omega⟩ ?_
        rintro j wM ⟨mM,kM,hj⟩
        refine af (af (aa (ae Jg Jg (ai Jg Jg Jg (aX) (ag (ac ?_))))))
        refine bi Jg (fun h77=>?_) (fun h77=>?_)
        ·have eM:aM w wM:=Mv.ext_from mM eA fun k hk=>by have:k=g11:=hk;omega
         refine aq (ac (af (ax (aa (ae Jg Jg (ae Jg Jg (ae Jg Jg (ai (r:=I ((4+j:Nat):Int)) Jg Jg Jg (by have e:((4+j:Nat):Int)=4+(j:Int):=(by omega);rw[e];exact aK (by omega) (by omega)) ?_))))))))
         obtain⟨a84,p84,q84⟩:=er (hv.ext eM) (i:=4+j) (by omega) .i64
         refine aB Jg Jg Jg (p84 _) (am Jg Jg (ak IR Jg q84) ?_)
         refine ah Jg Jg wV ?_
         refine aB Jg Jg Jg (pV j (by omega)) ?_
         obtain⟨wN,sN,qN,kN⟩:=Gy kM (Gz l73 wU (by omega)) (i:=j) (by omega) (b:=l[4+j]'(by omega))
         refine ar Jg Jg sN ?_
         have mN:=mM.trans (Mv.of_grown qN fun k hk _=>(Option.some.inj hk).symm) fun _ hk _=>hk
         rw[FE l73 wU (by omega) (by simp[List.getElem_drop,List.getElem_take])] at kN
         refine ag (aJ (ac (aa (ae Jg Jg (ai (r:=I ((j+1:Nat):Int)) Jg Jg Jg (by have e:((j+1:Nat):Int)=(j:Int)+1:=(by omega);rw[e];exact aK (by omega) (by omega)) ?_)))))
         refine ab Jg Jg (ag ?_)
         refine bM (j+1) ⟨rfl,rfl,rfl,rfl,trivial⟩ ⟨mN,kN,by omega⟩ (by omega)
        ·refine aW (aA (aA (aU (ac (af ?_)))))
         have hj32:j=32:=by omega
         subst hj32
         have e32:((l.take 36).drop 4).take 32++fK.drop 32=(l.take 36).drop 4:=by rw[List.take_of_length_le (Nat.le_of_eq l73),show fK.drop 32=[] from rfl,List.append_nil]
         rw[e32] at kM
         have eM:aM w wM:=Mv.ext_from mM eA fun k hk=>by have:k=g11:=hk;omega
         have k2M:=mM.blk (k2L.ext xA) (fun h=>by have:g2=g11:=h;omega)
         refine aa ?_
         refine am Jg Jg (Aw kM l73) ?_
         obtain⟨wF,sF,qF,kF⟩:=dO (d:=(l.take 36).drop 4) (v:=vt) k2M rfl l73 hts2.one
         refine ar Jg Jg sF ?_
         have xF:=aM.of_new eM qF l2
         have rL:=rts.ext e5L
         have mF:Mv (fun k=>k=g11∨k=g2) wA wF:=(mM.weak fun k hk _=>.inl hk).trans (Mv.of_grown qF fun k hk _=>.inr (Option.some.inj hk).symm) fun _ hk _=>hk
         have mG:Mv (fun k=>k=g2) wL wF:=(Mv.of_ext xA).trans mF fun k hk hlt=>by
          rcases hk with rfl|rfl
          ·exact absurd hlt (by omega)
          ·rfl
         refine ab Jg Jg (ag (ac (au ?_)))
         refine bH Jg Jg Jg kF I2 Jg (eq l73) ?_
         exact⟨_,rfl,xF,fV.ok (by rw[hD,if_pos hav]) (rL.mv (mG.weak (fun k hk hlt=>by have:k=g2:=hk;have:=k2.lt;have:=e2u.size;show k<w46.heap.size;omega)) fun k hk=>.inl (Nat.lt_of_lt_of_le hk (by have:=x2.size;have:=e2u.size;omega)))⟩
end Go.Rl
namespace Go.Rl
open Go.RowKit Go.Proofs
theorem lB:az Tryz.prog 46:=⟨_,Tryz.func46,by kernel_rfl,rfl⟩
theorem mj:az Tryz.prog 67:=⟨_,Tryz.func67,by kernel_rfl,rfl⟩
theorem lC:az Tryz.prog 70:=⟨_,Tryz.func70,by kernel_rfl,rfl⟩
theorem AB:az Tryz.prog 101:=⟨_,Tryz.func101,by kernel_rfl,rfl⟩
theorem ja:az Tryz.prog 100:=⟨_,Tryz.func100,by kernel_rfl,rfl⟩
theorem mm:az Tryz.prog 99:=⟨_,Tryz.func99,by kernel_rfl,rfl⟩
theorem mp:az Tryz.prog 47:=⟨_,Tryz.func47,by kernel_rfl,rfl⟩
theorem AC:az Tryz.prog 43:=⟨_,Tryz.func43,by kernel_rfl,rfl⟩
theorem iM:(Tryz.prog.info? 28).map (·.size)=some 1:=by kernel_rfl
theorem gR {w:World} {g:Nat}:(Instr.fieldAt 95 (.pointer (some ⟨g,0,none⟩)) 0).run Tryz.prog w=.ok (.pointer (some ⟨g,0,none⟩)) w:=aE (o:=0) Tryz.underlying95 rfl (by kernel_rfl) rfl
def GA (T:TypeId) (base g:Nat) (l:List UInt8) (v:Value) (w:World) (w':World):Prop:=∃v',fv T base g l v' w'∧cT g v w v' w'
theorem ID {a:Int} (ha:oJ a):∀n∈[a],oJ n:=fun n hn=>by
 simp only[List.mem_cons,List.not_mem_nil,or_false] at hn
 subst hn;exact ha
theorem IE {a b:Int} (ha:oJ a) (hb:oJ b):∀n∈[a,b],oJ n:=fun n hn=>by
 simp only[List.mem_cons,List.not_mem_nil,or_false] at hn
 rcases hn with rfl|rfl<;>assumption
theorem IF {a b c d:Int} (ha:oJ a) (hb:oJ b) (hc:oJ c) (hd:oJ d):∀n∈[a,b,c,d],oJ n:=fun n hn=>by
 simp only[List.mem_cons,List.not_mem_nil,or_false] at hn
 rcases hn with rfl|rfl|rfl|rfl<;>assumption
theorem tC {α:Type} {f:α→List UInt8} (l:List α) (k:Nat):((l.take k).flatMap f).length≤(l.flatMap f).length:=by
 have h:(l.flatMap f)=(l.take k).flatMap f++(l.drop k).flatMap f:=by rw[←List.flatMap_append,List.take_append_drop]
 rw[h,List.length_append]
 omega
theorem jO {α:Type} {f:α→List UInt8} {l:List α} {i:Nat} (hi:i<l.length):((l.take i).flatMap f).length+(f l[i]).length≤(l.flatMap f).length:=by
 have h:=tC (f:=f) l (i+1)
 rw[dW hi,List.length_append] at h
 exact h
theorem lF {T:TypeId} {w:World} {b g:Nat} {l:List UInt8} {n:Nat} {v:Value} (hW:fv T b g l v w) (h0:b≤w.heap.size) (hl:l.length≤35184372088832) (hn:n≤9223372036854775807):
 Calls Tryz.prog 46 #[.pointer (some ⟨g,0,none⟩),I (n:Int)] w (bF fun _ w'=>GA T b g (l++uv n) v w w'):=by
 refine enter (vs:=[.pointer (some ⟨g,0,none⟩),I (n:Int)]) Tryz.func46 Jg Jg Jg ?_
 have kg:=hW.blk
 have hun:(UInt64.ofNat n).toNat=n:=by rw[UInt64.toNat_ofNat'];omega
 refine wR 8 [8,9,10,11] [4,8,11] (by kernel_rfl) (by kernel_rfl) Jg Jg Jg ?_
 refine ap Jg Jg (bQ Jg Jg ?_)
 refine aL Jg Jg (fun w _=>gR) ?_
 refine aD Jg Jg (fun w hw=>ak IP Jg (hw.cell_some kg.k0)) (ap Jg Jg (dh Jg Jg (fun w hw=>cI IM IL) ?_))
 refine cl (S:=cm (uv n)) iQ (cm.stable _) rfl (fun w hw=>by rintro _ rfl _ rfl;exact bF.mono (iR (n:=UInt64.ofNat n) (cm.nil _) (by simp)) fun v w' h=>⟨h.1,by have:=h.2.bts;rwa [hun,List.nil_append] at this⟩) ?_
 refine bG ?_
 intro wg0 xg0
 rintro _ rfl
 rintro _ hq8
 obtain rfl:=Eq.symm hq8
 intro vg11 b11
 have hun2:=vC n
 have hun3:=fc (n:=n) (by omega)
 obtain⟨v12,wa,wb,hr12,hs12,hW',st12⟩:=fv.put (t:=28) (t2:=28) (ty:=28) IP iM IP (hW.ext xg0) (Nat.le_trans h0 xg0.size) b11 (by omega) (by omega)
 refine be Jg Jg hr12 ?_
 refine aG Jg Jg ?_
 refine ah Jg Jg gR ?_
 refine ar Jg Jg (hs12) (ag (vU (gH Jg ?_)))
 exact⟨_,rfl,v12,hW',(cT.of_ext xg0).trans st12⟩
theorem mq {T:TypeId} {w:World} {b g:Nat} {l:List UInt8} {ns:List Int} {nv v:Value} (hW:fv T b g l v w) (h0:b≤w.heap.size) (hv:cK (WrX g v) w (GT ns) [nv]) (hi64:∀n∈ns,oJ n) (hl:l.length+10*ns.length≤35184372088832):
 Calls Tryz.prog 67 #[.pointer (some ⟨g,0,none⟩),nv] w (bF fun _ w'=>GA T b g (l++ns.flatMap jE) v w w'):=by
 refine enter (vs:=[.pointer (some ⟨g,0,none⟩),nv]) Tryz.func67 Jg Jg Jg ?_
 have hd:dV sy ns nv w:=hv.rp
 have hll:=hd.len
 refine af (aa (ae Jg Jg (aP Jg Jg (bT Ja hd) (ae Jg Jg (ag (ac (ax ?_)))))))
 refine ga (fun(i:Nat) (u:Value)=>[(0,.pointer (some ⟨g,0,none⟩)),(6,nv),(7,I (ns.length:Int)),(8,I (i:Int))]) (fun(i:Nat) (u:Value) w'=>fv T b g (l++(ns.take i).flatMap jE) u w'∧cT g v w u w'∧i≤ns.length∧((ns.take i).flatMap jE).length≤10*i) (fun(i:Nat) (u:Value)=>ns.length-i) (0) (v) ⟨rfl,rfl,rfl,rfl,trivial⟩ ⟨by simpa using hW,cT.refl,by omega,by simp⟩ ?_
 rintro i u wL ⟨hW1,st1,hi,hle⟩
 refine af (aa (ai Jg Jg Jg (aX) (ag (ac (af ?_)))))
 refine bi Jg (fun h9=>?_) (fun h9=>?_)
 ·have hd1:dV sy ns nv wL:=(hv.step st1).rp
  refine aq (ac (af (ax (af (aa ?_)))))
  obtain⟨a10,c10,p10,q10,h10⟩:=ey (P:=Tryz.prog) (sz:=1) Ja (by kernel_rfl) ya (by omega) hd1 (i:=i) (by omega) .i64
  obtain⟨e10,he10⟩:∃e,e=ns[i]'(by omega):=⟨_,rfl⟩
  rw[←he10] at h10
  obtain rfl:=Ga h10
  refine aB Jg Jg Jg (p10 _) ?_
  have hn:=hi64 e10 (by rw[he10];exact List.getElem_mem _)
  have hen:=Fz hn
  refine am Jg Jg (ak IM Jg q10.cell0) (ab Jg Jg (ag (ac ?_)))
  have kg:=hW1.blk
  refine wR 7 [7,8,9,10] [0,6,7,8,12,16,18] (by kernel_rfl) (by kernel_rfl) Jg Jg Jg ?_
  refine ap Jg Jg (bQ Jg Jg ?_)
  refine aL Jg Jg (fun w _=>gR) ?_
  refine aD rfl rfl (fun w hw=>ak Tryz.underlying28 rfl (hw.cell_some kg.k0)) (ap rfl rfl (cl (S:=cm (jE e10)) rW (cm.stable _) rfl (fun w hw=>by rintro _ rfl _ rfl;exact bF.mono (rX (n:=e10) (cm.nil _) (by simp) hn.1 hn.2) fun v w' h=>⟨h.1,by have:=h.2.bts;rwa [List.nil_append] at this⟩) ?_))
  refine bG ?_
  intro wg3 xg3
  rintro _ rfl
  rintro _ hq6
  obtain rfl:=Eq.symm hq6
  rintro _ rfl
  rintro _ rfl
  rintro _ rfl
  rintro _ hq16
  obtain rfl:=Eq.symm hq16
  intro vg18 b18
  obtain⟨v19,wa,wb,hr19,hs19,hW2,st19⟩:=fv.put (t:=28) (t2:=28) (ty:=28) Tryz.underlying28 iM Tryz.underlying28 (hW1.ext xg3) (Nat.le_trans h0 (Nat.le_trans st1.mv.size xg3.size)) b18 (by omega) (by simp only[List.length_append];omega)
  refine be Jg Jg hr19 ?_
  refine aG Jg Jg ?_
  refine ah Jg Jg gR ?_
  refine ar Jg Jg (hs19) (ag (vU (aJ (ac (aa (ai (r:=I ((i+1:Nat):Int)) Jg Jg Jg (by have e:((i+1:Nat):Int)=(i:Int)+1:=(by omega);rw[e];exact aK (by omega) (by omega)) ?_))))))
  refine ae Jg Jg (ag ?_)
  refine el (i+1) (v19) ⟨rfl,rfl,rfl,rfl,trivial⟩ ⟨by rw[dW (by omega),←he10,←List.append_assoc];exact hW2,(st1.trans (cT.of_ext xg3)).trans st19,by omega,by rw[dW (by omega),←he10,List.length_append];omega⟩ (by omega)
 ·refine aW (aA (aA (aU (gH Jg ?_))))
  exact⟨_,rfl,u,by rw[List.take_of_length_le (by omega)] at hW1;exact hW1,st1⟩
theorem lG {T:TypeId} {wz w:World} {g:Nat} {l:List UInt8} {q:f5} {x y v:Value} (ez:aM wz w) (hW:fv T wz.heap.size g l v w) (hx:bt q.2.1 x wz) (hy:bt q.2.2 y wz) (hl:l.length+(pI q).length≤4398046511104):
 Calls Tryz.prog 70 #[.pointer (some ⟨g,0,none⟩),.agg #[B q.1,x,y]] w (bF fun _ w'=>GA T wz.heap.size g (l++pI q) v w w'):=by
 refine enter (vs:=[.pointer (some ⟨g,0,none⟩),.agg #[B q.1,x,y]]) Tryz.func70 Jg Jg Jg ?_
 have hqa:=EW q
 have hq1:1≤(pI q).length:=by simp only[pI,si,List.length_append,List.length_cons,List.length_nil];omega
 refine af (aa ?_)
 obtain⟨g3,w3,hr3,l3,x3,k3⟩:=dB (P:=Tryz.prog) (w:=w) (T:=55) (cs:=[B q.1,x,y])
 refine cY Jg Jg hr3 (ag (ac ?_))
 have hW3:=hW.ext x3
 have kg:=hW3.blk
 refine wR 7 [7,8,9,10] [4,8,10] (by kernel_rfl) (by kernel_rfl) Jg Jg Jg ?_
 refine ap Jg Jg (bQ Jg Jg ?_)
 refine aL Jg Jg (fun w _=>gR) ?_
 refine aD Jg Jg (fun w hw=>ak IP Jg (hw.cell_some kg.k0)) (aD Jg Jg (fun w hw=>(k3.ext hw).ld IQ Jg (by kernel_rfl)) ?_)
 refine cl (S:=cm (pI q)) sg (cm.stable _) rfl (fun w hw=>by rintro _ rfl _ rfl;exact bF.mono (sj (cm.nil _) (dc.mk ((hx.ext (ez.trans x3)).ext hw) ((hy.ext (ez.trans x3)).ext hw)) (by simp only[List.length_nil];omega)) fun v w' h=>⟨h.1,by have:=h.2.bts;rwa [List.nil_append] at this⟩) ?_
 refine bG ?_
 intro wg1 xg1
 rintro _ rfl
 rintro _ hq8
 obtain rfl:=Eq.symm hq8
 intro vg10 b10
 obtain⟨v11,wa,wb,hr11,hs11,hW2,st11⟩:=fv.put (t:=28) (t2:=28) (ty:=28) IP iM IP (hW3.ext xg1) (((ez.trans x3).trans xg1)).size b10 (by omega) (by omega)
 refine be Jg Jg hr11 ?_
 refine aG Jg Jg ?_
 refine ah Jg Jg gR ?_
 refine ar Jg Jg (hs11) (ag (vU (gH Jg ?_)))
 exact⟨_,rfl,v11,hW2,(cT.of_ext (x3.trans xg1)).trans st11⟩
theorem AD {T:TypeId} {wz w:World} {g:Nat} {l:List UInt8} {d:f9} {x y v:Value} (ez:aM wz w) (hW:fv T wz.heap.size g l v w) (hx:bt d.at_.2.1 x wz) (hy:bt d.at_.2.2 y wz) (hw:wD d) (hl:l.length+(tK d).length≤4398046511104):
 Calls Tryz.prog 101 #[.pointer (some ⟨g,0,none⟩),.agg #[I d.kd,I d.ix,B d.at_.1,x,y]] w (bF fun _ w'=>GA T wz.heap.size g (l++tK d) v w w'):=by
 refine enter (vs:=[.pointer (some ⟨g,0,none⟩),.agg #[I d.kd,I d.ix,B d.at_.1,x,y]]) Tryz.func101 Jg Jg Jg ?_
 have hdl:(tK d).length=(jE d.kd).length+(jE d.ix).length+(pI d.at_).length:=by simp only[tK,List.length_append]
 refine af (aa ?_)
 obtain⟨g3,w3,hr3,l3,x3,k3⟩:=dB (P:=Tryz.prog) (w:=w) (T:=80) (cs:=[I d.kd,I d.ix,B d.at_.1,x,y])
 refine cY Jg Jg hr3 (ag (ac (af (aa (ae Jg Jg (ah Jg Jg (aE (o:=0) IV Jg (by kernel_rfl) Jg) ?_))))))
 refine am Jg Jg (ak IM Jg (k3.cell (i:=0) Jg)) (ah Jg Jg (aE (o:=1) IV Jg (by kernel_rfl) Jg) ?_)
 refine am Jg Jg (ak IM Jg (k3.cell (i:=1) Jg)) ?_
 obtain⟨v9,w9,hr9,x9,o9,ob9⟩:=AU (w:=w3) (w3).heap.size [d.kd,d.ix] (by simp) (Nat.le_refl _)
 refine aN (vs:=[(0,I d.kd),(1,I d.ix)]) Jg Jg hr9 ?_
 have hW3:=hW.ext x3
 have hW9:=hW3.ext x9
 refine an mj Jg Jg ((mq (ns:=[d.kd,d.ix]) hW9 (((ez.trans x3).trans x9)).size (o9.rpx (fun k hk=>hW3.off_new (o9.lt k hk).1)) (IE hw.1 hw.2) (by simp only[List.length_cons,List.length_nil];omega))) ?_
 rintro v10 w10 ⟨v10,hW10,st10⟩
 have x10:=st10.ext (((ez.trans x3).trans x9)) hW9.ge hW9.new
 have k3a:=st10.mv.blk (k3.ext x9) (hW.off_new l3)
 refine ag (ac (aa (ae rfl rfl (ah rfl rfl (aE (o:=2) Tryz.underlying80 rfl (by kernel_rfl) rfl) (am rfl rfl (k3a.ldO (ms:=[B d.at_.1,x,y]) (o:=2) (fun j v hj=>by rcases j with _|_|_|_|_|_|_|_|_|j<;>simp_all) Tryz.underlying55 rfl (by kernel_rfl)) ?_)))))
 refine an lC Jg Jg ((lG (q:=d.at_) (x10) hW10 hx hy (by simp only[List.length_append,List.flatMap_cons,List.flatMap_nil,List.append_nil];omega))) ?_
 rintro v14 w14 ⟨v14,hW14,st14⟩
 have x14:=st14.ext (x10) hW10.ge hW10.new
 refine ag (gH Jg ?_)
 exact⟨_,rfl,v14,by simpa only[tK,List.flatMap_cons,List.flatMap_nil,List.append_nil,List.append_assoc] using hW14,((cT.of_ext (x3.trans x9)).trans st10).trans st14⟩
theorem jb {T:TypeId} {wz w:World} {g:Nat} {l:List UInt8} {ps:List eE} {pv v:Value} (ez:aM wz w) (hW:fv T wz.heap.size g l v w) (hd:dV dI ps pv wz) (hw:wP ps) (hl:l.length+(vN ps).length≤4398046511104):
 Calls Tryz.prog 100 #[.pointer (some ⟨g,0,none⟩),pv] w (bF fun _ w'=>GA T wz.heap.size g (l++vN ps) v w w'):=by
 refine enter (vs:=[.pointer (some ⟨g,0,none⟩),pv]) Tryz.func100 Jg Jg Jg ?_
 have hll:=hd.len
 have hpl:(vN ps).length=(uv ps.length).length+(ps.flatMap sH).length:=by simp only[vN,List.length_append]
 refine af (aa (ae Jg Jg (ae Jg Jg (aP Jg Jg (bT IW (hd.ext ez)) (an lB Jg Jg ((lF hW ez.size (by omega) (by omega))) ?_)))))
 rintro v9 w9 ⟨v9,hW9,st9⟩
 have x9:=st9.ext ez hW.ge hW.new
 refine ag (ac (af (aa (ae Jg Jg (aP Jg Jg (bT IW (hd.ext x9)) (ae Jg Jg (ag (ac (ax ?_)))))))))
 refine ga (fun(i:Nat) (u:Value)=>[(0,.pointer (some ⟨g,0,none⟩)),(10,pv),(11,I (ps.length:Int)),(12,I (i:Int))]) (fun(i:Nat) (u:Value) w'=>fv T wz.heap.size g (l++uv ps.length++(ps.take i).flatMap sH) u w'∧cT g v w u w'∧aM wz w'∧i≤ps.length) (fun(i:Nat) (u:Value)=>ps.length-i) (0) (v9) ⟨rfl,rfl,rfl,rfl,trivial⟩ ⟨by simpa using hW9,st9,x9,by omega⟩ ?_
 rintro i u wL ⟨hW1,st1,eL,hi⟩
 refine af (aa (ai Jg Jg Jg (aX) (ag (ac (af ?_)))))
 refine bi Jg (fun h13=>?_) (fun h13=>?_)
 ·refine aq (ac (af (ax (af (aa ?_)))))
  obtain⟨a14,c14,p14,q14,h14⟩:=ey (P:=Tryz.prog) (sz:=7) IW (by kernel_rfl) eK (by omega) hd (i:=i) (by omega) .i64
  obtain⟨e14,he14⟩:∃e,e=ps[i]'(by omega):=⟨_,rfl⟩
  rw[←he14] at h14
  obtain⟨x14_0,x14_1,rfl,f14_0,f14_1⟩:=ku h14
  refine aB Jg Jg Jg (p14 _) ?_
  have hm:=hw e14 (by rw[he14];exact List.getElem_mem _)
  have hfl:=jO (f:=sH) (l:=ps) (i:=i) (by omega)
  rw[←he14] at hfl
  have hml:(sH e14).length=(jE e14.kd).length+(jE e14.ix).length+(jE e14.lo).length+(jE e14.hi).length+(pI e14.co).length:=by simp only[sH,List.length_append]
  refine am Jg Jg ((q14.ext eL).ld I5 Jg (by kernel_rfl)) ?_
  obtain⟨g5,w5,hr5,l5,x5,k5⟩:=bf (P:=Tryz.prog) (w:=wL) (t:=216) (z:=.agg #[I 0,I 0,I 0,I 0,B false,.slice none 0 0,.slice none 0 0]) (l:=[I 0,I 0,I 0,I 0,B false,.slice none 0 0,.slice none 0 0]) (by kernel_rfl) rfl
  refine bh Jg hr5 ?_
  obtain⟨w3_3,s3_3,q3_3,k3_3⟩:=k5.stS (P:=Tryz.prog) (t:=216) (m:=[I e14.kd,I e14.ix,I e14.lo,I e14.hi,B e14.co.1,x14_0,x14_1]) rfl (by kernel_rfl) (aI.cons rfl (aI.cons rfl (aI.cons rfl (aI.cons rfl (aI.cons rfl (aI.cons f14_0.one (aI.cons f14_1.one aI.nil)))))))
  refine ar Jg Jg s3_3 ?_
  have x3_3:=aM.of_new (x5) q3_3 l5
  refine ag (ac (af (aa (ae Jg Jg (ah Jg Jg (aE (o:=0) I5 Jg (by kernel_rfl) Jg) (ah Jg Jg (aE (o:=0) I8 Jg (by kernel_rfl) Jg) ?_))))))
  refine am Jg Jg (ak IM Jg (k3_3.cell (i:=0) Jg)) (ah Jg Jg (aE (o:=0) I5 Jg (by kernel_rfl) Jg) ?_)
  refine ah Jg Jg (aE (o:=1) I8 Jg (by kernel_rfl) Jg) (am Jg Jg (ak IM Jg (k3_3.cell (i:=1) Jg)) ?_)
  refine ah Jg Jg (aE (o:=0) I5 Jg (by kernel_rfl) Jg) (ah Jg Jg (aE (o:=2) I8 Jg (by kernel_rfl) Jg) ?_)
  refine am Jg Jg (ak IM Jg (k3_3.cell (i:=2) Jg)) (ah Jg Jg (aE (o:=0) I5 Jg (by kernel_rfl) Jg) ?_)
  refine ah Jg Jg (aE (o:=3) I8 Jg (by kernel_rfl) Jg) (am Jg Jg (ak IM Jg (k3_3.cell (i:=3) Jg)) ?_)
  obtain⟨v29,w29,hr29,x29,o29,ob29⟩:=AU (w:=w3_3) (w3_3).heap.size [e14.kd,e14.ix,e14.lo,e14.hi] (by simp) (Nat.le_refl _)
  refine aN (vs:=[(0,I e14.kd),(1,I e14.ix),(2,I e14.lo),(3,I e14.hi)]) Jg Jg hr29 ?_
  have hWb:=hW1.ext x3_3
  have hWc:=hWb.ext x29
  refine an mj Jg Jg ((mq (ns:=[e14.kd,e14.ix,e14.lo,e14.hi]) hWc (((eL.trans x3_3).trans x29)).size (o29.rpx (fun k hk=>hWb.off_new (o29.lt k hk).1)) (IF hm.1 hm.2.1 hm.2.2.1 hm.2.2.2) (by simp only[List.length_append,List.length_cons,List.length_nil];omega))) ?_
  rintro v30 w30 ⟨v30,hW30,st30⟩
  have x30:=st30.ext (((eL.trans x3_3).trans x29)) hWc.ge hWc.new
  have k5a:=st30.mv.blk (k3_3.ext x29) (hW1.off_new l5)
  refine ag (ac (aa (ae rfl rfl (ah rfl rfl (aE (o:=4) Tryz.underlying216 rfl (by kernel_rfl) rfl) (am rfl rfl (k5a.ldO (ms:=[B e14.co.1,x14_0,x14_1]) (o:=4) (fun j v hj=>by rcases j with _|_|_|_|_|_|_|_|_|j<;>simp_all) Tryz.underlying55 rfl (by kernel_rfl)) ?_)))))
  refine an lC Jg Jg ((lG (q:=e14.co) (x30) hW30 f14_0 f14_1 (by simp only[List.length_append,List.flatMap_cons,List.flatMap_nil,List.append_nil];omega))) ?_
  rintro v34 w34 ⟨v34,hW34,st34⟩
  have x34:=st34.ext (x30) hW30.ge hW30.new
  refine ag (aJ (ac (aa (ai (r:=I ((i+1:Nat):Int)) Jg Jg Jg (by have e:((i+1:Nat):Int)=(i:Int)+1:=(by omega);rw[e];exact aK (by omega) (by omega)) ?_))))
  refine ae Jg Jg (ag ?_)
  refine el (i+1) (v34) ⟨rfl,rfl,rfl,rfl,trivial⟩ ⟨by
   rw[dW (by omega),←he14]
   simpa only[sH,List.flatMap_cons,List.flatMap_nil,List.append_nil,List.append_assoc] using hW34,((st1.trans (cT.of_ext (x3_3.trans x29))).trans st30).trans st34,x34,by omega⟩ (by omega)
 ·refine aW (aA (aA (aU (gH Jg ?_))))
  exact⟨_,rfl,u,by rw[List.take_of_length_le (by omega),List.append_assoc] at hW1;exact hW1,st1⟩
end Go.Rl
namespace Go.Rl
open Go.RowKit Go.Proofs
theorem BH (b:Bool):(Gb b).length=1:=by cases b<;>rfl
theorem mr {T:TypeId} {wz w:World} {g:Nat} {l:List UInt8} {ls:List fQ} {lv v:Value} (ez:aM wz w) (hW:fv T wz.heap.size g l v w) (hd:dV fm ls lv wz) (hw:∀m∈ls,wLm m) (hl:l.length+(iS ls).length≤4398046511104):
 Calls Tryz.prog 99 #[.pointer (some ⟨g,0,none⟩),lv] w (bF fun _ w'=>GA T wz.heap.size g (l++iS ls) v w w'):=by
 refine enter (vs:=[.pointer (some ⟨g,0,none⟩),lv]) Tryz.func99 Jg Jg Jg ?_
 have hll:=hd.len
 have hpl:(iS ls).length=(uv ls.length).length+(ls.flatMap nj).length:=by simp only[iS,List.length_append]
 refine af (aa (ae Jg Jg (ae Jg Jg (aP Jg Jg (bT I0 (hd.ext ez)) (an lB Jg Jg ((lF hW ez.size (by omega) (by omega))) ?_)))))
 rintro v10 w10 ⟨v10,hW10,st10⟩
 have x10:=st10.ext ez hW.ge hW.new
 refine ag (ac (af (aa (ae Jg Jg (aP Jg Jg (bT I0 (hd.ext x10)) (ae Jg Jg (ag (ac (ax ?_)))))))))
 refine ga (fun(i:Nat) (u:Value)=>[(0,.pointer (some ⟨g,0,none⟩)),(11,lv),(12,I (ls.length:Int)),(13,I (i:Int))]) (fun(i:Nat) (u:Value) w'=>fv T wz.heap.size g (l++uv ls.length++(ls.take i).flatMap nj) u w'∧cT g v w u w'∧aM wz w'∧i≤ls.length) (fun(i:Nat) (u:Value)=>ls.length-i) (0) (v10) ⟨rfl,rfl,rfl,rfl,trivial⟩ ⟨by simpa using hW10,st10,x10,by omega⟩ ?_
 rintro i u wL ⟨hW1,st1,eL,hi⟩
 refine af (aa (ai Jg Jg Jg (aX) (ag (ac (af ?_)))))
 refine bi Jg (fun h14=>?_) (fun h14=>?_)
 ·refine aq (ac (af (ax (af (aa ?_)))))
  obtain⟨a15,c15,p15,q15,h15⟩:=ey (P:=Tryz.prog) (sz:=6) I0 (by kernel_rfl) ff (by omega) hd (i:=i) (by omega) .i64
  obtain⟨e15,he15⟩:∃e,e=ls[i]'(by omega):=⟨_,rfl⟩
  rw[←he15] at h15
  obtain⟨x15_0,x15_1,x15_2,rfl,f15_0,f15_1,f15_2⟩:=sY h15
  refine aB Jg Jg Jg (p15 _) ?_
  have hm:=hw e15 (by rw[he15];exact List.getElem_mem _)
  have hfl:=jO (f:=nj) (l:=ls) (i:=i) (by omega)
  rw[←he15] at hfl
  have hbl:=BH e15.up
  have hml:(nj e15).length=(jE e15.un).length+(Gb e15.up).length+(pI e15.va).length+(vN e15.pf).length:=by simp only[nj,List.length_append]
  obtain⟨pre,hpre⟩:∃pre,pre=l++uv ls.length++(ls.take i).flatMap nj:=⟨_,rfl⟩
  have hprl:pre.length=l.length+(uv ls.length).length+((ls.take i).flatMap nj).length:=by rw[hpre];simp only[List.length_append]
  rw[←hpre] at hW1
  refine am Jg Jg ((q15.ext eL).ld IZ Jg (by kernel_rfl)) ?_
  obtain⟨g5,w5,hr5,l5,x5,k5⟩:=bf (P:=Tryz.prog) (w:=wL) (t:=147) (z:=.agg #[I 0,B false,B false,.slice none 0 0,.slice none 0 0,.slice none 0 0]) (l:=[I 0,B false,B false,.slice none 0 0,.slice none 0 0,.slice none 0 0]) (by kernel_rfl) rfl
  refine bh Jg hr5 ?_
  obtain⟨w3_3,s3_3,q3_3,k3_3⟩:=k5.stS (P:=Tryz.prog) (t:=147) (m:=[I e15.un,B e15.up,B e15.va.1,x15_0,x15_1,x15_2]) rfl (by kernel_rfl) (aI.cons rfl (aI.cons rfl (aI.cons rfl (aI.cons f15_0.one (aI.cons f15_1.one (aI.cons f15_2.one aI.nil))))))
  refine ar Jg Jg s3_3 ?_
  have x3_3:=aM.of_new (x5) q3_3 l5
  refine ag (ac (af (aa (ae Jg Jg (ah Jg Jg (aE (o:=0) IZ Jg (by kernel_rfl) Jg) (am Jg Jg (ak IM Jg (k3_3.cell (i:=0) Jg)) ?_))))))
  obtain⟨v20,w20,hr20,x20,o20,ob20⟩:=AU (w:=w3_3) (w3_3).heap.size [e15.un] (by simp) (Nat.le_refl _)
  refine aN (vs:=[(0,I e15.un)]) Jg Jg hr20 ?_
  have hWb:=hW1.ext x3_3
  have hWc:=hWb.ext x20
  refine an mj Jg Jg ((mq (ns:=[e15.un]) hWc (((eL.trans x3_3).trans x20)).size (o20.rpx (fun k hk=>hWb.off_new (o20.lt k hk).1)) (ID hm.1) (by simp only[List.length_cons,List.length_nil];omega))) ?_
  rintro v21 w21 ⟨v21,hW21,st21⟩
  have x21:=st21.ext (((eL.trans x3_3).trans x20)) hWc.ge hWc.new
  have n5:=hW1.off_new l5
  have k5a:=st21.mv.blk (k3_3.ext x20) n5
  have n5a:=st21.off n5 (k3_3.ext x20).lt
  have kg:=hW21.blk
  have hc1:[e15.un].flatMap jE=jE e15.un:=by simp only[List.flatMap_cons,List.flatMap_nil,List.append_nil]
  rw[hc1] at hW21
  refine ag (ac (af (aa (ab Jg Jg (ag (ac (af (af (aa (ah Jg Jg (aE (o:=1) IZ Jg (by kernel_rfl) Jg) ?_))))))))))
  refine am Jg Jg (ak IU Jg (k5a.cell (i:=1) Jg)) (ag (ac ?_))
  refine gZ Jg (fun h23=>?_) (fun h23=>?_)
  ·have hbit:Gb e15.up=[1]:=by rw[h23];rfl
   refine aa (ab Jg Jg (ag (ac (af (aa (ae Jg Jg (ae Jg Jg (aG Jg Jg ?_))))))))
   refine ah Jg Jg gR ?_
   refine am Jg Jg (ak IP Jg kg.k0) (ae Jg Jg ?_)
   obtain⟨v30,w30,hr30,x30,o30,ob30⟩:=fq (w:=w21) w21.heap.size [1] (by simp) (Nat.le_refl _)
   refine aN (vs:=[(0,U8 1)]) Jg Jg hr30 ?_
   obtain⟨v31,wa31,wb31,hr31,hs31,hW31,st31⟩:=fv.put (t:=28) (t2:=28) (ty:=28) Tryz.underlying28 iM Tryz.underlying28 (hW21.ext x30) ((x21.trans x30)).size o30.bts (by simp) (by simp only[List.length_append,List.length_cons,List.length_nil];omega)
   refine be Jg Jg hr31 ?_
   refine aG Jg Jg ?_
   refine ah Jg Jg gR ?_
   refine ar Jg Jg hs31 ?_
   have x31:=st31.ext ((x21.trans x30)) (hW21.ext x30).ge (hW21.ext x30).new
   have k5b:=st31.mv.blk (k5a.ext x30) n5a
   have n5b:=st31.off n5a (k5a.ext x30).lt
   rw[←hbit] at hW31
   refine ag (ac (af (aa (ae rfl rfl (ah rfl rfl (aE (o:=2) Tryz.underlying147 rfl (by kernel_rfl) rfl) (am rfl rfl (k5b.ldO (ms:=[B e15.va.1,x15_0,x15_1]) (o:=2) (fun j v hj=>by rcases j with _|_|_|_|_|_|_|_|_|j<;>simp_all) Tryz.underlying55 rfl (by kernel_rfl)) ?_))))))
   refine an lC Jg Jg ((lG (q:=e15.va) (x31) hW31 f15_0 f15_1 (by simp only[List.length_append];omega))) ?_
   rintro v37 w37 ⟨v37,hW37,st37⟩
   have x37:=st37.ext (x31) hW31.ge hW31.new
   have k5c:=st37.mv.blk k5b n5b
   refine ag (ac (aa (ae Jg Jg (ah Jg Jg (aE (o:=5) IZ Jg (by kernel_rfl) Jg) (am Jg Jg (ak IW Jg (k5c.cell (i:=5) Jg)) ?_)))))
   refine an ja Jg Jg ((jb (ps:=e15.pf) (x37) hW37 f15_2 hm.2 (by simp only[List.length_append];omega))) ?_
   rintro v41 w41 ⟨v41,hW41,st41⟩
   have x41:=st41.ext (x37) hW37.ge hW37.new
   refine ag (aJ (ac (aa (ai (r:=I ((i+1:Nat):Int)) Jg Jg Jg (by have e:((i+1:Nat):Int)=(i:Int)+1:=(by omega);rw[e];exact aK (by omega) (by omega)) ?_))))
   refine ae Jg Jg (ag ?_)
   refine el (i+1) (v41) ⟨rfl,rfl,rfl,rfl,trivial⟩ ⟨by
    rw[dW (by omega),←he15,←List.append_assoc,←hpre]
    simpa only[nj,List.append_assoc] using hW41,((((st1.trans (cT.of_ext (x3_3.trans x20))).trans st21).trans ((cT.of_ext x30).trans st31)).trans st37).trans st41,x41,by omega⟩ (by omega)
  ·have hbit:Gb e15.up=[0]:=by rw[h23];rfl
   refine aq (ac (af (aa (ae Jg Jg (ae Jg Jg (aG Jg Jg ?_))))))
   refine ah Jg Jg gR ?_
   refine am Jg Jg (ak IP Jg kg.k0) (ae Jg Jg ?_)
   obtain⟨v30,w30,hr30,x30,o30,ob30⟩:=fq (w:=w21) w21.heap.size [0] (by simp) (Nat.le_refl _)
   refine aN (vs:=[(0,U8 0)]) Jg Jg hr30 ?_
   obtain⟨v31,wa31,wb31,hr31,hs31,hW31,st31⟩:=fv.put (t:=28) (t2:=28) (ty:=28) Tryz.underlying28 iM Tryz.underlying28 (hW21.ext x30) ((x21.trans x30)).size o30.bts (by simp) (by simp only[List.length_append,List.length_cons,List.length_nil];omega)
   refine be Jg Jg hr31 ?_
   refine aG Jg Jg ?_
   refine ah Jg Jg gR ?_
   refine ar Jg Jg hs31 ?_
   have x31:=st31.ext ((x21.trans x30)) (hW21.ext x30).ge (hW21.ext x30).new
   have k5b:=st31.mv.blk (k5a.ext x30) n5a
   have n5b:=st31.off n5a (k5a.ext x30).lt
   rw[←hbit] at hW31
   refine ag (ac (af (aa (ae rfl rfl (ah rfl rfl (aE (o:=2) Tryz.underlying147 rfl (by kernel_rfl) rfl) (am rfl rfl (k5b.ldO (ms:=[B e15.va.1,x15_0,x15_1]) (o:=2) (fun j v hj=>by rcases j with _|_|_|_|_|_|_|_|_|j<;>simp_all) Tryz.underlying55 rfl (by kernel_rfl)) ?_))))))
   refine an lC Jg Jg ((lG (q:=e15.va) (x31) hW31 f15_0 f15_1 (by simp only[List.length_append];omega))) ?_
   rintro v37 w37 ⟨v37,hW37,st37⟩
   have x37:=st37.ext (x31) hW31.ge hW31.new
   have k5c:=st37.mv.blk k5b n5b
   refine ag (ac (aa (ae Jg Jg (ah Jg Jg (aE (o:=5) IZ Jg (by kernel_rfl) Jg) (am Jg Jg (ak IW Jg (k5c.cell (i:=5) Jg)) ?_)))))
   refine an ja Jg Jg ((jb (ps:=e15.pf) (x37) hW37 f15_2 hm.2 (by simp only[List.length_append];omega))) ?_
   rintro v41 w41 ⟨v41,hW41,st41⟩
   have x41:=st41.ext (x37) hW37.ge hW37.new
   refine ag (aJ (ac (aa (ai (r:=I ((i+1:Nat):Int)) Jg Jg Jg (by have e:((i+1:Nat):Int)=(i:Int)+1:=(by omega);rw[e];exact aK (by omega) (by omega)) ?_))))
   refine ae Jg Jg (ag ?_)
   refine el (i+1) (v41) ⟨rfl,rfl,rfl,rfl,trivial⟩ ⟨by
    rw[dW (by omega),←he15,←List.append_assoc,←hpre]
    simpa only[nj,List.append_assoc] using hW41,((((st1.trans (cT.of_ext (x3_3.trans x20))).trans st21).trans ((cT.of_ext x30).trans st31)).trans st37).trans st41,x41,by omega⟩ (by omega)
 ·refine aW (aA (aA (aU (gH Jg ?_))))
  exact⟨_,rfl,u,by rw[List.take_of_length_le (by omega),List.append_assoc] at hW1;exact hW1,st1⟩
theorem y9 {T:TypeId} {wz w:World} {g:Nat} {l:List UInt8} {n:ba} {vl x y vk vp v:Value}
 (ih:∀k∈n.kids,∀{w:World} {l:List UInt8} {vl x y vk vp v:Value},aM wz w→fv T wz.heap.size g l v w→dV fm k.lems vl wz→bt k.split.at_.2.1 x wz→bt k.split.at_.2.2 y wz→dV bK k.kids vk wz→dV dI k.pf vp wz→wN k→l.length+(dX k).length≤4398046511104→
   Calls Tryz.prog 47 #[.pointer (some ⟨g,0,none⟩),.agg #[vl,I k.split.kd,I k.split.ix,B k.split.at_.1,x,y,vk,B k.empty,vp]] w (bF fun _ w'=>GA T wz.heap.size g (l++dX k) v w w'))
 (ez:aM wz w) (hW:fv T wz.heap.size g l v w) (hl:dV fm n.lems vl wz) (hx:bt n.split.at_.2.1 x wz) (hy:bt n.split.at_.2.2 y wz) (hk:dV bK n.kids vk wz) (hp:dV dI n.pf vp wz) (hw:wN n) (hb:l.length+(dX n).length≤4398046511104):
 Calls Tryz.prog 47 #[.pointer (some ⟨g,0,none⟩),.agg #[vl,I n.split.kd,I n.split.ix,B n.split.at_.1,x,y,vk,B n.empty,vp]] w (bF fun _ w'=>GA T wz.heap.size g (l++dX n) v w w'):=by
 refine enter (vs:=[.pointer (some ⟨g,0,none⟩),.agg #[vl,I n.split.kd,I n.split.ix,B n.split.at_.1,x,y,vk,B n.empty,vp]]) Tryz.func47 Jg Jg Jg ?_
 have hll:=hk.len
 obtain⟨wl,wd,wp,wk⟩:=(Hz n).1 hw
 have hen:=EV n
 refine af (aa ?_)
 obtain⟨g3,w3,hr3,l3,x3,k3⟩:=dB (P:=Tryz.prog) (w:=w) (T:=83) (cs:=[vl,I n.split.kd,I n.split.ix,B n.split.at_.1,x,y,vk,B n.empty,vp])
 refine cY Jg Jg hr3 (ag (ac (af (aa (ab Jg Jg (ag (ac (af (ax (af (aa (ah Jg Jg (aE (o:=6) IN Jg (by kernel_rfl) Jg) ?_))))))))))))
 refine am Jg Jg (ak IS Jg (k3.cell (i:=6) Jg)) (aP Jg Jg (bT IS (hk.ext (ez.trans x3))) ?_)
 refine ai Jg Jg Jg (ce) (ab Jg Jg (ag (ac ?_)))
 refine bi Jg (fun h7=>?_) (fun h7=>?_)
 ·have h0:¬n.kids.length=0:=by omega
  rw[if_neg h0] at hen
  have hel:(dX n).length=1+(iS n.lems).length+(tK n.split).length+(n.kids.flatMap dX).length:=by rw[hen];simp only[List.length_append,List.length_cons,List.length_nil]
  refine aa (ab Jg Jg (ag (aJ (ac (af ?_)))))
  have hW3:=hW.ext x3
  have kg:=hW3.blk
  have n3:=hW.off_new l3
  refine aa (ae Jg Jg (ae Jg Jg (aG Jg Jg ?_)))
  refine ah Jg Jg gR ?_
  refine am Jg Jg (ak IP Jg kg.k0) (ae Jg Jg ?_)
  obtain⟨v21,w21,hr21,x21,o21,ob21⟩:=fq (w:=w3) w3.heap.size [2] (by simp) (Nat.le_refl _)
  refine aN (vs:=[(0,U8 2)]) Jg Jg hr21 ?_
  obtain⟨v22,wa22,wb22,hr22,hs22,hW22,st22⟩:=fv.put (t:=28) (t2:=28) (ty:=28) Tryz.underlying28 iM Tryz.underlying28 (hW3.ext x21) (((ez.trans x3).trans x21)).size o21.bts (by simp) (by simp only[List.length_cons,List.length_nil];omega)
  refine be Jg Jg hr22 ?_
  refine aG Jg Jg ?_
  refine ah Jg Jg gR ?_
  refine ar Jg Jg hs22 ?_
  have x22:=st22.ext (((ez.trans x3).trans x21)) (hW3.ext x21).ge (hW3.ext x21).new
  have k3a:=st22.mv.blk (k3.ext x21) n3
  have n3a:=st22.off n3 (k3.ext x21).lt
  refine ag (ac (af (aa (ae Jg Jg (ah Jg Jg (aE (o:=0) IN Jg (by kernel_rfl) Jg) (am Jg Jg (ak I0 Jg (k3a.cell (i:=0) Jg)) ?_))))))
  refine an mm Jg Jg ((mr (ls:=n.lems) (x22) hW22 hl wl (by simp only[List.length_append,List.length_cons,List.length_nil];omega))) ?_
  rintro v28 w28 ⟨v28,hW28,st28⟩
  have x28:=st28.ext (x22) hW22.ge hW22.new
  have k3b:=st28.mv.blk k3a n3a
  have n3b:=st28.off n3a k3a.lt
  refine ag (ac (af (af (aa (ae Jg Jg ?_)))))
  refine ai (u:=U8 2) (v:=U8 2) (r:=B false) Jg Jg Jg (bZ (show ¬(2:UInt8)<2 by decide) j1) ?_
  refine ag (ac (cq Jg (aq (ac (af (aa (ae Jg Jg (ah Jg Jg (aE (o:=1) IN Jg (by kernel_rfl) Jg) ?_))))))))
  refine am rfl rfl (k3b.ldO (ms:=[I n.split.kd,I n.split.ix,B n.split.at_.1,x,y]) (o:=1) (fun j v hj=>by rcases j with _|_|_|_|_|_|_|_|_|j<;>simp_all) Tryz.underlying80 rfl (by kernel_rfl)) ?_
  refine an AB Jg Jg ((AD (d:=n.split) (x28) hW28 hx hy wd (by simp only[List.length_append,List.length_cons,List.length_nil];omega))) ?_
  rintro v38 w38 ⟨v38,hW38,st38⟩
  have x38:=st38.ext (x28) hW28.ge hW28.new
  have k3c:=st38.mv.blk k3b n3b
  obtain⟨pre,hpre⟩:∃pre,pre=l++[2]++iS n.lems++tK n.split:=⟨_,rfl⟩
  have hprl:pre.length=l.length+1+(iS n.lems).length+(tK n.split).length:=by rw[hpre];simp only[List.length_append,List.length_cons,List.length_nil]
  rw[←hpre] at hW38
  refine ag (ac (af (aa (ah Jg Jg (aE (o:=6) IN Jg (by kernel_rfl) Jg) (am Jg Jg (ak IS Jg (k3c.cell (i:=6) Jg)) ?_)))))
  refine aP Jg Jg (bT (f:=bK) IS (hk.ext (x38))) ?_
  refine ae Jg Jg (ag (ac (ax ?_)))
  refine ga (fun(i:Nat) (u:Value)=>[(0,.pointer (some ⟨g,0,none⟩)),(40,vk),(41,I (n.kids.length:Int)),(42,I (i:Int))]) (fun(i:Nat) (u:Value) w'=>fv T wz.heap.size g (pre++(n.kids.take i).flatMap dX) u w'∧cT g v w u w'∧aM wz w'∧i≤n.kids.length) (fun(i:Nat) (u:Value)=>n.kids.length-i) (0) (v38) ⟨rfl,rfl,rfl,rfl,trivial⟩ ⟨by simpa using hW38,(((cT.of_ext (x3.trans x21)).trans st22).trans st28).trans st38,x38,by omega⟩ ?_
  rintro i u wL ⟨hW1,st1,eL,hi⟩
  refine af (aa (ai Jg Jg Jg (aX) (ag (ac (af ?_)))))
  refine bi Jg (fun h43=>?_) (fun h43=>?_)
  ·refine aq (ac (af (ax (af (aa ?_)))))
   obtain⟨a44,c44,p44,q44,h44⟩:=ey (P:=Tryz.prog) (sz:=9) IS (by kernel_rfl) bD (by omega) hk (i:=i) (by omega) .i64
   obtain⟨e44,he44⟩:∃e,e=n.kids[i]'(by omega):=⟨_,rfl⟩
   rw[←he44] at h44
   obtain⟨x44_0,x44_1,x44_2,x44_3,x44_4,rfl,f44_0,f44_1,f44_2,f44_3,f44_4⟩:=ee h44
   refine aB Jg Jg Jg (p44 _) ?_
   have hfl:=jO (f:=dX) (l:=n.kids) (i:=i) (by omega)
   rw[←he44] at hfl
   have hmem:e44∈n.kids:=by rw[he44];exact List.getElem_mem _
   refine am Jg Jg ((q44.ext eL).ld IN Jg (by kernel_rfl)) ?_
   obtain⟨g6,w6,hr6,l6,x6,k6⟩:=bf (P:=Tryz.prog) (w:=wL) (t:=83) (z:=.agg #[.slice none 0 0,I 0,I 0,B false,.slice none 0 0,.slice none 0 0,.slice none 0 0,B false,.slice none 0 0]) (l:=[.slice none 0 0,I 0,I 0,B false,.slice none 0 0,.slice none 0 0,.slice none 0 0,B false,.slice none 0 0]) (by kernel_rfl) rfl
   refine bh Jg hr6 ?_
   obtain⟨w13_3,s13_3,q13_3,k13_3⟩:=k6.stS (P:=Tryz.prog) (t:=83) (m:=[x44_0,I e44.split.kd,I e44.split.ix,B e44.split.at_.1,x44_1,x44_2,x44_3,B e44.empty,x44_4]) rfl (by kernel_rfl) (aI.cons f44_0.one (aI.cons rfl (aI.cons rfl (aI.cons rfl (aI.cons f44_1.one (aI.cons f44_2.one (aI.cons f44_3.one (aI.cons rfl (aI.cons f44_4.one aI.nil)))))))))
   refine ar Jg Jg s13_3 ?_
   have x13_3:=aM.of_new (x6) q13_3 l6
   refine ag (ac (aa (ae Jg Jg (am Jg Jg (k13_3.ld Tryz.underlying83 Jg (by kernel_rfl)) (an mp Jg Jg ((ih e44 hmem ((eL.trans x13_3)) (hW1.ext x13_3) f44_0 f44_1 f44_2 f44_3 f44_4 (wk e44 hmem) (by simp only[List.length_append];omega))) ?_)))))
   rintro v48 w48 ⟨v48,hW48,st48⟩
   have x48:=st48.ext ((eL.trans x13_3)) hW1.ge hW1.new
   refine ag (aJ (ac (aa (ai (r:=I ((i+1:Nat):Int)) Jg Jg Jg (by have e:((i+1:Nat):Int)=(i:Int)+1:=(by omega);rw[e];exact aK (by omega) (by omega)) ?_))))
   refine ae Jg Jg (ag ?_)
   refine el (i+1) (v48) ⟨rfl,rfl,rfl,rfl,trivial⟩ ⟨by rw[dW (by omega),←he44,←List.append_assoc];exact hW48,(st1.trans (cT.of_ext x13_3)).trans st48,x48,by omega⟩ (by omega)
  ·refine aW (aA (aA (aU (gH Jg ?_))))
   exact⟨_,rfl,u,by rw[List.take_of_length_le (by omega),hpre] at hW1;rw[hen];simpa only[List.append_assoc] using hW1,st1⟩
 ·have h0:n.kids.length=0:=by omega
  rw[if_pos h0] at hen
  have hel:(dX n).length=1+(iS n.lems).length+(vN n.pf).length:=by rw[hen];simp only[List.length_append,BH]
  refine af (aa (ah Jg Jg (aE (o:=7) IN Jg (by kernel_rfl) Jg) (am Jg Jg (ak IU Jg (k3.cell (i:=7) Jg)) ?_)))
  refine ab Jg Jg (ag (ac ?_))
  refine gZ Jg (fun h12=>?_) (fun h12=>?_)
  ·have hbit:Gb n.empty=[1]:=by rw[h12];rfl
   refine aa (ab Jg Jg (ag (aJ (ac (af ?_)))))
   have hW3:=hW.ext x3
   have kg:=hW3.blk
   have n3:=hW.off_new l3
   refine aa (ae Jg Jg (ae Jg Jg (aG Jg Jg ?_)))
   refine ah Jg Jg gR ?_
   refine am Jg Jg (ak IP Jg kg.k0) (ae Jg Jg ?_)
   obtain⟨v21,w21,hr21,x21,o21,ob21⟩:=fq (w:=w3) w3.heap.size [1] (by simp) (Nat.le_refl _)
   refine aN (vs:=[(0,U8 1)]) Jg Jg hr21 ?_
   obtain⟨v22,wa22,wb22,hr22,hs22,hW22,st22⟩:=fv.put (t:=28) (t2:=28) (ty:=28) Tryz.underlying28 iM Tryz.underlying28 (hW3.ext x21) (((ez.trans x3).trans x21)).size o21.bts (by simp) (by simp only[List.length_cons,List.length_nil];omega)
   refine be Jg Jg hr22 ?_
   refine aG Jg Jg ?_
   refine ah Jg Jg gR ?_
   refine ar Jg Jg hs22 ?_
   have x22:=st22.ext (((ez.trans x3).trans x21)) (hW3.ext x21).ge (hW3.ext x21).new
   have k3a:=st22.mv.blk (k3.ext x21) n3
   have n3a:=st22.off n3 (k3.ext x21).lt
   refine ag (ac (af (aa (ae Jg Jg (ah Jg Jg (aE (o:=0) IN Jg (by kernel_rfl) Jg) (am Jg Jg (ak I0 Jg (k3a.cell (i:=0) Jg)) ?_))))))
   refine an mm Jg Jg ((mr (ls:=n.lems) (x22) hW22 hl wl (by simp only[List.length_append,List.length_cons,List.length_nil];omega))) ?_
   rintro v28 w28 ⟨v28,hW28,st28⟩
   have x28:=st28.ext (x22) hW22.ge hW22.new
   have k3b:=st28.mv.blk k3a n3a
   have n3b:=st28.off n3a k3a.lt
   refine ag (ac (af (af (aa (ae Jg Jg ?_)))))
   refine ai (u:=U8 1) (v:=U8 2) (r:=B true) Jg Jg Jg (cf (show(1:UInt8)<2 by decide) j1) ?_
   refine ag (ac (bB Jg (af (aa (ae Jg Jg (ah Jg Jg (aE (o:=8) IN Jg (by kernel_rfl) Jg) (am Jg Jg (ak IW Jg (k3b.cell (i:=8) Jg)) ?_)))))))
   refine an ja Jg Jg ((jb (ps:=n.pf) (x28) hW28 hp wp (by simp only[List.length_append,List.length_cons,List.length_nil];omega))) ?_
   rintro v34 w34 ⟨v34,hW34,st34⟩
   have x34:=st34.ext (x28) hW28.ge hW28.new
   refine ag (ac (au (av (u6 Jg ?_))))
   exact⟨_,rfl,v34,by rw[hen,hbit];simpa only[List.append_assoc] using hW34,(((cT.of_ext (x3.trans x21)).trans st22).trans st28).trans st34⟩
  ·have hbit:Gb n.empty=[0]:=by rw[h12];rfl
   refine aq (aJ (ac (af ?_)))
   have hW3:=hW.ext x3
   have kg:=hW3.blk
   have n3:=hW.off_new l3
   refine aa (ae Jg Jg (ae Jg Jg (aG Jg Jg ?_)))
   refine ah Jg Jg gR ?_
   refine am Jg Jg (ak IP Jg kg.k0) (ae Jg Jg ?_)
   obtain⟨v21,w21,hr21,x21,o21,ob21⟩:=fq (w:=w3) w3.heap.size [0] (by simp) (Nat.le_refl _)
   refine aN (vs:=[(0,U8 0)]) Jg Jg hr21 ?_
   obtain⟨v22,wa22,wb22,hr22,hs22,hW22,st22⟩:=fv.put (t:=28) (t2:=28) (ty:=28) Tryz.underlying28 iM Tryz.underlying28 (hW3.ext x21) (((ez.trans x3).trans x21)).size o21.bts (by simp) (by simp only[List.length_cons,List.length_nil];omega)
   refine be Jg Jg hr22 ?_
   refine aG Jg Jg ?_
   refine ah Jg Jg gR ?_
   refine ar Jg Jg hs22 ?_
   have x22:=st22.ext (((ez.trans x3).trans x21)) (hW3.ext x21).ge (hW3.ext x21).new
   have k3a:=st22.mv.blk (k3.ext x21) n3
   have n3a:=st22.off n3 (k3.ext x21).lt
   refine ag (ac (af (aa (ae Jg Jg (ah Jg Jg (aE (o:=0) IN Jg (by kernel_rfl) Jg) (am Jg Jg (ak I0 Jg (k3a.cell (i:=0) Jg)) ?_))))))
   refine an mm Jg Jg ((mr (ls:=n.lems) (x22) hW22 hl wl (by simp only[List.length_append,List.length_cons,List.length_nil];omega))) ?_
   rintro v28 w28 ⟨v28,hW28,st28⟩
   have x28:=st28.ext (x22) hW22.ge hW22.new
   have k3b:=st28.mv.blk k3a n3a
   have n3b:=st28.off n3a k3a.lt
   refine ag (ac (af (af (aa (ae Jg Jg ?_)))))
   refine ai (u:=U8 0) (v:=U8 2) (r:=B true) Jg Jg Jg (cf (show(0:UInt8)<2 by decide) j1) ?_
   refine ag (ac (bB Jg (af (aa (ae Jg Jg (ah Jg Jg (aE (o:=8) IN Jg (by kernel_rfl) Jg) (am Jg Jg (ak IW Jg (k3b.cell (i:=8) Jg)) ?_)))))))
   refine an ja Jg Jg ((jb (ps:=n.pf) (x28) hW28 hp wp (by simp only[List.length_append,List.length_cons,List.length_nil];omega))) ?_
   rintro v34 w34 ⟨v34,hW34,st34⟩
   have x34:=st34.ext (x28) hW28.ge hW28.new
   refine ag (ac (au (av (u6 Jg ?_))))
   exact⟨_,rfl,v34,by rw[hen,hbit];simpa only[List.append_assoc] using hW34,(((cT.of_ext (x3.trans x21)).trans st22).trans st28).trans st34⟩
theorem mw {T:TypeId} {wz:World} {g:Nat}:∀(m:Nat) {n:ba},SizeOf.sizeOf n≤m→∀{w:World} {l:List UInt8} {vl x y vk vp v:Value},aM wz w→fv T wz.heap.size g l v w→dV fm n.lems vl wz→bt n.split.at_.2.1 x wz→bt n.split.at_.2.2 y wz→dV bK n.kids vk wz→dV dI n.pf vp wz→wN n→l.length+(dX n).length≤4398046511104→
 Calls Tryz.prog 47 #[.pointer (some ⟨g,0,none⟩),.agg #[vl,I n.split.kd,I n.split.ix,B n.split.at_.1,x,y,vk,B n.empty,vp]] w (bF fun _ w'=>GA T wz.heap.size g (l++dX n) v w w')
 |0,n,hm=>by cases n;simp at hm
 |m+1,n,hm=>fun h1 h2 h3 h4 h5 h6 h7 h8 h9=>y9 (fun k hk _ _ _ _ _ _ _ _=>mw m (by have:=ba.lt_of_mem hk;omega)) h1 h2 h3 h4 h5 h6 h7 h8 h9
theorem fv.mk1 {T:TypeId} {w0 w w':World} {g:Nat} {l:List UInt8} {v:Value} (e:aM w0 w) (ho:cD w0.heap.size l v w) (x:aM w w') (hg:w.heap.size≤g) (k:cd g T [v] w'):fv T w0.heap.size g l v w':=
 ⟨Nat.le_trans e.size hg,k,.inl (ho.ext x),ho.ge,fun h=>by have:=ho.lt g h;omega,fun n hn=>Nat.lt_of_lt_of_le (ho.lt n hn) x.size⟩
theorem AE {w:World} {b:List UInt8} {bv:Value} {n:ba} {vl x y vk vp:Value} (hbv:cm b bv w) (hl:dV fm n.lems vl w) (hx:bt n.split.at_.2.1 x w) (hy:bt n.split.at_.2.2 y w) (hk:dV bK n.kids vk w) (hp:dV dI n.pf vp w) (hw:wN n) (hb:b.length+(dX n).length≤4398046511104):
 Calls Tryz.prog 43 #[bv,.agg #[vl,I n.split.kd,I n.split.ix,B n.split.at_.1,x,y,vk,B n.empty,vp]] w (bF fun r w'=>aM w w'∧cm (b++dX n) r w'):=by
 refine enter (vs:=[bv,.agg #[vl,I n.split.kd,I n.split.ix,B n.split.at_.1,x,y,vk,B n.empty,vp]]) Tryz.func43 Jg Jg Jg ?_
 refine af (aa ?_)
 obtain⟨g3,w3,hr3,l3,x3,k3⟩:=dB (P:=Tryz.prog) (w:=w) (T:=83) (cs:=[vl,I n.split.kd,I n.split.ix,B n.split.at_.1,x,y,vk,B n.empty,vp])
 refine cY Jg Jg hr3 (ab Jg Jg (ag (ac (af (aa ?_)))))
 obtain⟨v6,w6,hr6,x6,o6,ob6⟩:=fq (w:=w3) w3.heap.size [] (by simp) (Nat.le_refl _)
 refine aN (vs:=[]) Jg Jg hr6 (ae Jg Jg ?_)
 obtain⟨v8,w8,hr8,o8,g8⟩:=di (ty:=28) o6 (hbv.ext (x3.trans x6)) (by simp;omega) (x6).size
 have x8:=aM.of_grew (x6) g8 o6.ge
 refine be Jg Jg hr8 ?_
 have o8w:cD w.heap.size b v8 w8:=by have:=o8;rw[List.nil_append] at this;exact this.low x3.size
 obtain⟨A8,n8,c8,e8,_⟩:=o8w.bts
 refine bm (vs:=[(0,v8)]) (r:=.agg #[v8]) Jg Jg (by rw[e8];exact run_build _ _ _ _ (by kernel_rfl)) ?_
 obtain⟨g10,w10,hr10,l10,x10,k10⟩:=dB (P:=Tryz.prog) (w:=w8) (T:=95) (cs:=[v8])
 refine cY Jg Jg hr10 ?_
 have hW10:fv 95 w.heap.size g10 b v8 w10:=fv.mk1 ((x3.trans x8)) o8w x10 l10 k10
 refine ab Jg Jg (ag (ac (af (aa (ae Jg Jg (am Jg Jg ((k3.ext (x8.trans x10)).ld IN Jg (by kernel_rfl)) ?_))))))
 refine an mp Jg Jg ((mw _ (Nat.le_refl _) (((x3.trans x8).trans x10)) hW10 hl hx hy hk hp hw hb)) ?_
 rintro v13 w13 ⟨v13,hW13,st13⟩
 have x13:=st13.ext (((x3.trans x8).trans x10)) hW10.ge hW10.new
 refine ag (ac (af ?_))
 have kg:=hW13.blk
 refine aa (ae Jg Jg (aG Jg Jg ?_))
 refine ah Jg Jg gR ?_
 refine am Jg Jg (ak IP Jg kg.k0) (ab Jg Jg (ag (ac (au (aF Jg Jg ?_)))))
 exact⟨_,rfl,x13,hW13.row.bts⟩
end Go.Rl
namespace Go.Rl
open Go.RowKit Go.Proofs
theorem AF:az Tryz.prog 45:=⟨_,Tryz.func45,by kernel_rfl,rfl⟩
theorem wX:az Tryz.prog 17:=⟨_,Tryz.func17,by kernel_rfl,rfl⟩
theorem BI {w:World} {g:Nat} {T:TypeId} {d:List UInt8} {v:Value} (k:cd g T (fo d v) w) (hd:d.length=32):cm d (.slice (some ⟨g,0,none⟩) 32 32) w:=
 ⟨_,32,32,rfl,Nat.le_refl _,by unfold maxLen;omega,by simp[hd],fun _=>⟨_,rfl,fun j u hu=>by
  rw[Addr.add_mid,Nat.zero_add]
  have hj:=(List.getElem?_eq_some_iff.1 hu).1
  exact k.cell (by rw[fo,List.getElem?_append_left hj];exact hu)⟩,fun h=>by cases h⟩
def HS (w0:World) (n:ba):Prop:=∀{w:World} {vl x y vk vp:Value},aM w0 w→dV fm n.lems vl w→bt n.split.at_.2.1 x w→bt n.split.at_.2.2 y w→dV bK n.kids vk w→dV dI n.pf vp w→
 Calls Tryz.prog 45 #[.agg #[vl,I n.split.kd,I n.split.ix,B n.split.at_.1,x,y,vk,B n.empty,vp]] w (bF fun r w'=>aM w w'∧r=B (gk n&&nY n))
def pe (base:Nat) (c:uW) (r:Value) (w:World):Prop:=∃v,r=.tuple #[v,I (pY c).2]∧cD base (pY c).1 v w
theorem pe.err {base:Nat} {c:uW} {w:World} {n:Int} (h:pY c=([],n)):pe base c (.tuple #[.slice none 0 0,I n]) w:=⟨_,by rw[h],by rw[h];exact cD.nil _ _⟩
theorem pe.ok {base:Nat} {c:uW} {w:World} {l:List UInt8} {v:Value} (h:pY c=(l,0)) (o:cD base l v w):pe base c (.tuple #[v,I 0]) w:=⟨v,by rw[h],by rw[h];exact o⟩
theorem GB {d:List UInt8} {ts:List ba} (h:(ts.all fun n=>gk n&&nY n)=false):pY (d,ts)=([],1):=by unfold pY;rw[h];rfl
theorem Du {d:List UInt8} {ts:List ba} (h:(ts.all fun n=>gk n&&nY n)=true) (h2:4194304<(eP ts).length):pY (d,ts)=([],8):=by unfold pY;rw[if_pos h,if_pos h2]
theorem FF {d:List UInt8} {ts:List ba} (h:(ts.all fun n=>gk n&&nY n)=true) (h2:¬4194304<(eP ts).length) (h3:1048576<(dR d (bW (eP ts))).length):pY (d,ts)=([],8):=by unfold pY;rw[if_pos h,if_neg h2,if_pos h3]
theorem BJ {d:List UInt8} {ts:List ba} (h:(ts.all fun n=>gk n&&nY n)=true) (h2:¬4194304<(eP ts).length) (h3:¬1048576<(dR d (bW (eP ts))).length):pY (d,ts)=(dR d (bW (eP ts)),0):=by unfold pY;rw[if_pos h,if_neg h2,if_neg h3]
theorem wY {w:World} {d:List UInt8} {ts:List ba} {tv:Value} (hd:d.length=32) (ht:dV bK ts tv w) (hperm:∀n∈ts,HS w n) (hw:∀n∈ts,wN n) (hb:(eP ts).length≤1099511627776):
 Calls Tryz.prog 17 #[.agg (fo d tv).toArray] w (bF fun r w'=>aM w w'∧pe w.heap.size (d,ts) r w'):=by
 refine enter (vs:=[.agg (fo d tv).toArray]) Tryz.func17 Jg Jg Jg ?_
 have hll:=ht.len
 have hpl:(eP ts).length=(uv ts.length).length+(ts.flatMap dX).length:=by simp only[eP,List.length_append]
 refine af (aa ?_)
 obtain⟨g1,w1,hr1,l1,x1,k1⟩:=dB (P:=Tryz.prog) (w:=w) (T:=25) (cs:=fo d tv)
 refine cY Jg Jg hr1 ?_
 have c1:=tB k1 hd
 refine ab Jg Jg (ab Jg Jg (ag (ac (af (af (aa ?_))))))
 refine ah Jg Jg lA ?_
 refine am Jg Jg (ak IS Jg c1) (aP Jg Jg (bT IS (ht.ext x1)) (ae Jg Jg (ag (ac ?_))))
 refine ax ?_
 refine bV (α:=Nat) (fun i=>[(1,.pointer (some ⟨g1,0,none⟩)),(12,tv),(13,I (ts.length:Int)),(14,I (i:Int))]) (fun i w'=>aM w w'∧aM w1 w'∧i≤ts.length∧(ts.all fun n=>gk n&&nY n)=((ts.drop i).all fun n=>gk n&&nY n)) (fun i=>ts.length-i) (0) ⟨rfl,rfl,rfl,rfl,trivial⟩ ⟨x1,aM.refl _,by omega,rfl⟩ ?_
 rintro i wL ⟨eL,e1L,hi,hall⟩
 refine af (aa (ai Jg Jg Jg (aX) (ag (ac (af ?_)))))
 refine bi Jg (fun h15=>?_) (fun h15=>?_)
 ·refine aq (ac (af (ax (af (aa ?_)))))
  obtain⟨a16,c16,p16,q16,h16⟩:=ey (P:=Tryz.prog) (sz:=9) IS (by kernel_rfl) bD (by omega) ht (i:=i) (by omega) .i64
  obtain⟨e16,he16⟩:∃e,e=ts[i]'(by omega):=⟨_,rfl⟩
  rw[←he16] at h16
  obtain⟨x16_0,x16_1,x16_2,x16_3,x16_4,rfl,f16_0,f16_1,f16_2,f16_3,f16_4⟩:=ee h16
  refine aB Jg Jg Jg (p16 _) ?_
  have hmem:e16∈ts:=by rw[he16];exact List.getElem_mem _
  refine am Jg Jg ((q16.ext eL).ld IN Jg (by kernel_rfl)) ?_
  obtain⟨g5,w5,hr5,l5,x5,k5⟩:=bf (P:=Tryz.prog) (w:=wL) (t:=83) (z:=.agg #[.slice none 0 0,I 0,I 0,B false,.slice none 0 0,.slice none 0 0,.slice none 0 0,B false,.slice none 0 0]) (l:=[.slice none 0 0,I 0,I 0,B false,.slice none 0 0,.slice none 0 0,.slice none 0 0,B false,.slice none 0 0]) (by kernel_rfl) rfl
  refine bh Jg hr5 ?_
  obtain⟨w3_3,s3_3,q3_3,k3_3⟩:=k5.stS (P:=Tryz.prog) (t:=83) (m:=[x16_0,I e16.split.kd,I e16.split.ix,B e16.split.at_.1,x16_1,x16_2,x16_3,B e16.empty,x16_4]) rfl (by kernel_rfl) (aI.cons f16_0.one (aI.cons rfl (aI.cons rfl (aI.cons rfl (aI.cons f16_1.one (aI.cons f16_2.one (aI.cons f16_3.one (aI.cons rfl (aI.cons f16_4.one aI.nil)))))))))
  refine ar Jg Jg s3_3 ?_
  have x3_3:=aM.of_new (x5) q3_3 l5
  refine ag (ac (af (aa (am Jg Jg (k3_3.ld IN Jg (by kernel_rfl)) (an AF Jg Jg ((hperm e16 hmem ((eL.trans x3_3)) (f16_0.ext (eL.trans x3_3)) (f16_1.ext (eL.trans x3_3)) (f16_2.ext (eL.trans x3_3)) (f16_3.ext (eL.trans x3_3)) (f16_4.ext (eL.trans x3_3)))) ?_)))))
  rintro v19 w19 ⟨x19,rfl⟩
  refine ci Jg Jg cj (ag (ac ?_))
  refine gZ Jg (fun h20=>?_) (fun h20=>?_)
  ·have hno:(gk (ts[i]'(by omega))&&nY (ts[i]'(by omega)))=false:=by rw[←he16];rw[Bool.not_eq_true'] at h20;exact h20
   refine af (aa (ab Jg Jg (ab Jg Jg (ag (ac (au (bc (av (av (bc (av (aH Jg Jg Jg ?_))))))))))))
   exact⟨_,rfl,((eL.trans x3_3).trans x19),pe.err (GB (Az (p:=fun n=>gk n&&nY n) (by omega) hall hno))⟩
  ·have hyes:(gk (ts[i]'(by omega))&&nY (ts[i]'(by omega)))=true:=by rw[←he16];rw[Bool.not_eq_false'] at h20;exact h20
   refine aq (aJ (ac (aa (ai (r:=I ((i+1:Nat):Int)) Jg Jg Jg (by have e:((i+1:Nat):Int)=(i:Int)+1:=(by omega);rw[e];exact aK (by omega) (by omega)) ?_))))
   refine ae Jg Jg (ag ?_)
   refine bM (i+1) ⟨rfl,rfl,rfl,rfl,trivial⟩ ⟨((eL.trans x3_3).trans x19),((e1L.trans x3_3).trans x19),by omega,Ay (p:=fun n=>gk n&&nY n) (by omega) hall hyes⟩ (by omega)
 ·refine aW (aA (aA (aU (ac (af ?_)))))
  have hav:=wW (p:=fun n=>gk n&&nY n) (by omega) hall
  have c1L:=e1L.cell_some c1
  have htL:=ht.ext eL
  refine aa ?_
  refine bm (vs:=[]) (r:=.agg #[dy]) Jg Jg (run_build _ _ _ _ (by kernel_rfl)) ?_
  obtain⟨g6,w6,hr6,l6,x6,k6⟩:=dB (P:=Tryz.prog) (w:=wL) (T:=95) (cs:=[dy])
  refine cY Jg Jg hr6 ?_
  have hW6:fv 95 w.heap.size g6 [] dy w6:=fv.mk1 eL (cD.nil _ _) x6 l6 k6
  have c16:=x6.cell_some c1L
  refine ab Jg Jg (ag (ac (af (aa (ae Jg Jg ?_)))))
  refine ah Jg Jg lA ?_
  refine am Jg Jg (ak IS Jg c16) ?_
  refine aP Jg Jg (bT (f:=bK) IS (ht.ext ((eL.trans x6)))) ?_
  refine an lB Jg Jg ((lF hW6 ((eL.trans x6)).size (by simp) (by omega))) ?_
  rintro v28 w28 ⟨v28,hW28,st28⟩
  have x28:=st28.ext ((eL.trans x6)) hW6.ge hW6.new
  have n16:¬(g1=g6∨dy.ownBlock=some g1):=by
   rintro(h|h)
   ·have:=k1.lt;have:=e1L.size;omega
   ·cases h
  have k16:=(k1.ext e1L).ext x6
  have k128:=st28.mv.blk k16 n16
  have n128:=st28.off n16 k16.lt
  have c128:=tB k128 hd
  rw[List.nil_append] at hW28
  refine ag (ac (af (af (aa ?_))))
  refine ah Jg Jg lA ?_
  refine am Jg Jg (ak IS Jg c128) ?_
  refine aP Jg Jg (bT (f:=bK) IS (ht.ext (x28))) ?_
  refine ae Jg Jg (ag (ac (ax ?_)))
  refine ga (fun(i:Nat) (u:Value)=>[(1,.pointer (some ⟨g1,0,none⟩)),(6,.pointer (some ⟨g6,0,none⟩)),(30,tv),(31,I (ts.length:Int)),(32,I (i:Int))]) (fun(i:Nat) (u:Value) w'=>fv 95 w.heap.size g6 (uv ts.length++(ts.take i).flatMap dX) u w'∧aM w w'∧cd g1 25 (fo d tv) w'∧¬(g1=g6∨u.ownBlock=some g1)∧i≤ts.length∧(i=0∨(uv ts.length++(ts.take i).flatMap dX).length≤4194304)) (fun(i:Nat) (u:Value)=>ts.length-i) (0) (v28) ⟨rfl,rfl,rfl,rfl,rfl,trivial⟩ ⟨by simpa using hW28,x28,k128,n128,by omega,.inl rfl⟩ ?_
  rintro i u wM ⟨hW1,eM,kM,nM,hi2,hlim⟩
  refine af (aa (ai Jg Jg Jg (aX) (ag (ac (af ?_)))))
  refine bi Jg (fun h33=>?_) (fun h33=>?_)
  ·refine aq (ac (af (ax (af (aa ?_)))))
   obtain⟨a34,c34,p34,q34,h34⟩:=ey (P:=Tryz.prog) (sz:=9) IS (by kernel_rfl) bD (by omega) ht (i:=i) (by omega) .i64
   obtain⟨e34,he34⟩:∃e,e=ts[i]'(by omega):=⟨_,rfl⟩
   rw[←he34] at h34
   obtain⟨x34_0,x34_1,x34_2,x34_3,x34_4,rfl,f34_0,f34_1,f34_2,f34_3,f34_4⟩:=ee h34
   refine aB Jg Jg Jg (p34 _) ?_
   have hfl:=jO (f:=dX) (l:=ts) (i:=i) (by omega)
   rw[←he34] at hfl
   have hmem:e34∈ts:=by rw[he34];exact List.getElem_mem _
   refine am Jg Jg ((q34.ext eM).ld IN Jg (by kernel_rfl)) ?_
   obtain⟨g8,w8,hr8,l8,x8,k8⟩:=bf (P:=Tryz.prog) (w:=wM) (t:=83) (z:=.agg #[.slice none 0 0,I 0,I 0,B false,.slice none 0 0,.slice none 0 0,.slice none 0 0,B false,.slice none 0 0]) (l:=[.slice none 0 0,I 0,I 0,B false,.slice none 0 0,.slice none 0 0,.slice none 0 0,B false,.slice none 0 0]) (by kernel_rfl) rfl
   refine bh Jg hr8 ?_
   obtain⟨w11_3,s11_3,q11_3,k11_3⟩:=k8.stS (P:=Tryz.prog) (t:=83) (m:=[x34_0,I e34.split.kd,I e34.split.ix,B e34.split.at_.1,x34_1,x34_2,x34_3,B e34.empty,x34_4]) rfl (by kernel_rfl) (aI.cons f34_0.one (aI.cons rfl (aI.cons rfl (aI.cons rfl (aI.cons f34_1.one (aI.cons f34_2.one (aI.cons f34_3.one (aI.cons rfl (aI.cons f34_4.one aI.nil)))))))))
   refine ar Jg Jg s11_3 ?_
   have x11_3:=aM.of_new (x8) q11_3 l8
   refine ag (ac (af (aa (ae Jg Jg (am Jg Jg (k11_3.ld Tryz.underlying83 Jg (by kernel_rfl)) (an mp Jg Jg ((mw _ (Nat.le_refl _) ((eM.trans x11_3)) (hW1.ext x11_3) f34_0 f34_1 f34_2 f34_3 f34_4 (hw e34 hmem) (by simp only[List.length_append];omega))) ?_))))))
   rintro v38 w38 ⟨v38,hW38,st38⟩
   have x38:=st38.ext ((eM.trans x11_3)) hW1.ge hW1.new
   have kM2:=st38.mv.blk (kM.ext x11_3) nM
   have nM2:=st38.off nM (kM.ext x11_3).lt
   have kg:=hW38.blk
   have hlen:(uv ts.length++(ts.take (i+1)).flatMap dX).length=(uv ts.length++(ts.take i).flatMap dX++dX e34).length:=by rw[dW (by omega),←he34,←List.append_assoc]
   have hle:(uv ts.length++(ts.take (i+1)).flatMap dX).length≤(eP ts).length:=by
    have:=tC (f:=dX) ts (i+1)
    rw[hpl,List.length_append];omega
   have b38:cm (uv ts.length++(ts.take i).flatMap dX++dX e34) v38 w38:=hW38.row.bts
   refine ag (ac (af (aa (ae Jg Jg (aG Jg Jg ?_)))))
   refine ah Jg Jg gR ?_
   refine am Jg Jg (ak IP Jg kg.k0) ?_
   refine aP Jg Jg (bz b38) ?_
   refine ai Jg Jg Jg (ce) (ag (ac ?_))
   refine bi Jg (fun h44=>?_) (fun h44=>?_)
   ·refine af (aa (ab Jg Jg (ab Jg Jg (ag (ac (au (bc (av (av (bc (av (aH Jg Jg Jg ?_))))))))))))
    exact⟨_,rfl,x38,pe.err (Du hav (by omega))⟩
   ·refine aq (aJ (ac (aa (ai (r:=I ((i+1:Nat):Int)) Jg Jg Jg (by have e:((i+1:Nat):Int)=(i:Int)+1:=(by omega);rw[e];exact aK (by omega) (by omega)) ?_))))
    refine ae Jg Jg (ag ?_)
    refine el (i+1) (v38) ⟨rfl,rfl,rfl,rfl,rfl,trivial⟩ ⟨by rw[dW (by omega),←he34,←List.append_assoc];exact hW38,x38,kM2,nM2,by omega,.inr (by omega)⟩ (by omega)
  ·refine aW (aA (aA (aU (ac (af ?_)))))
   rw[List.take_of_length_le (by omega)] at hW1 hlim
   have hbod:(eP ts).length≤4194304:=by
    rcases hlim with h|h
    ·have:ts=[]:=List.eq_nil_of_length_eq_zero (by omega)
     subst this
     decide
    ·exact h
   have hW1:fv 95 w.heap.size g6 (eP ts) u wM:=hW1
   obtain⟨v46,w46a,w46,hr46,hc46,x46,b46,ad,hv46,had,hlt⟩:=EB (w:=wM) (t:=28) Tryz.underlying28 [82,76,85,67] (by simp) (by simp)
   refine aa ?_
   refine aN (vs:=[(0,U8 82),(1,U8 76),(2,U8 85),(3,U8 67)]) Jg Jg hr46 ?_
   refine aQ Jg Jg hc46 ?_
   have e46:=eM.trans x46
   have k46:=kM.ext x46
   have row46:GU w.heap.size [82,76,85,67] v46 w46:=.inr ⟨b46,ad,hv46⟩
   obtain⟨v50,w50,hr50,o50,x50⟩:=vS (ty:=28) e46 row46 (BI k46 hd) (by omega) (by simp[hd])
   have i50:aM w46 w50:=by
    obtain⟨_,w5,hr5,_,x5⟩:=vS (ty:=28) (aM.refl w46) (.inr ⟨b46,ad,hv46⟩) (BI k46 hd) (by omega) (by simp[hd])
    have:=hr5.symm.trans hr50
    simp only[Result.ok.injEq] at this
    rw[←this.2];exact x5
   refine ah Jg Jg wV ?_
   refine cu Jg Jg Jg Jg Jg tA ?_
   refine be Jg Jg hr50 ?_
   have hW50:=hW1.ext (x46.trans i50)
   have kg:=hW50.blk
   have b50:=hW50.row.bts
   refine ab Jg Jg (ag (ac (af (aa (ae Jg Jg (ae Jg Jg (aG Jg Jg ?_)))))))
   refine ah Jg Jg gR ?_
   refine am Jg Jg (ak IP Jg kg.k0) (an tj Jg Jg ((tk b50 (by omega))) ?_)
   rintro v56 w56 ⟨x56,b56⟩
   have hpk:=nZ (d:=eP ts) (by omega)
   have hpp:1≤(bW (eP ts)).length:=by unfold bW;rw[List.length_append];have:=vC (eP ts).length;omega
   obtain⟨v57,w57,hr57,o57,g57⟩:=di (ty:=28) (o50.ext x56) b56 (by simp only[List.length_append,List.length_cons,List.length_nil];omega) (((e46.trans i50).trans x56)).size
   have x57:=aM.of_grew (((e46.trans i50).trans x56)) g57 (o50.ext x56).ge
   refine be Jg Jg hr57 ?_
   have b57:cm (fR++d++bW (eP ts)) v57 w57:=o57.bts
   refine ab Jg Jg (ag (ac (af (aa (ae Jg Jg (an uU Jg Jg ((uV b57)) ?_))))))
   rintro v59 w59 ⟨x59,rfl⟩
   obtain⟨g10,w10,hr10,l10,x10,k10⟩:=bf (P:=Tryz.prog) (w:=w59) (t:=22) (l:=(List.replicate 32 0).map U8) mh rfl
   refine bh Jg hr10 ?_
   obtain⟨w11,s11,q11,k11⟩:=k10.stS (P:=Tryz.prog) (t:=22) (m:=(iV (fR++d++bW (eP ts))).map U8) (by simp[dC]) (by rw[List.length_map,dC];exact jC) (kK _)
   refine ar Jg Jg s11 ?_
   have x11:=x10.of_new q11 l10
   have b32:cm (iV (fR++d++bW (eP ts))) (.slice (some ⟨g10,0,none⟩) 32 32) w11:=by
    have:=k11.bts (by rw[dC];omega)
    rwa [dC] at this
   refine ag (ac (af (af (aa (ae Jg Jg (cu Jg Jg Jg Jg Jg (tA) ?_))))))
   have o57':cD w.heap.size (fR++d++bW (eP ts)) v57 w11:=o57.ext ((x59.trans x11))
   have hsl:=mi (d:=d) (p:=bW (eP ts)) hd
   obtain⟨v62,w62,hr62,o62,g62⟩:=di (ty:=28) o57' b32 (by simp only[List.length_append,hd,dC,show fR.length=4 from rfl];omega) (((x57.trans x59).trans x11)).size
   have x62:=aM.of_grew (((x57.trans x59).trans x11)) g62 o57'.ge
   refine be Jg Jg hr62 ?_
   have o62:cD w.heap.size (dR d (bW (eP ts))) v62 w62:=o62
   have b62:=o62.bts
   refine ab Jg Jg (ag (ac (af (aa (ae Jg Jg ?_)))))
   refine aP Jg Jg (bz b62) ?_
   refine ai Jg Jg Jg (ce) (ag (ac ?_))
   refine bi Jg (fun h65=>?_) (fun h65=>?_)
   ·refine af (aa (ab Jg Jg (ab Jg Jg (ag (ac (au (av (aH Jg Jg Jg ?_))))))))
    exact⟨_,rfl,x62,pe.err (FF hav (by omega) (by omega))⟩
   ·refine aq (ac (af (aa (ae Jg Jg (ab Jg Jg (ab Jg Jg (ag (ac (au (aH Jg Jg Jg ?_))))))))))
    exact⟨_,rfl,x62,pe.ok (BJ hav (by omega) (by omega)) o62⟩
end Go.Rl
namespace Go.Rl
open Go.RowKit Go.Proofs
theorem jc:az Tryz.prog 15:=⟨_,Tryz.func15,by kernel_rfl,rfl⟩
theorem oa:az Tryz.prog 22:=⟨_,Tryz.func22,by kernel_rfl,rfl⟩
def qI:List UInt8:=dR fK (bW (eP []))
theorem pk0:pk [0] 0 0=[1,0]:=by
 rw[pS (by decide) (by rfl),jW (by decide)]
 rfl
theorem GC:bW (eP [])=[1,1,0]:=by
 show uv 1++pk [0] 0 0=_
 rw[pk0];rfl
theorem m0:qI.length=71:=by unfold qI;rw[mi rfl,GC];rfl
theorem AG:qI.take 4=[82,76,85,67]:=tz
theorem IG:pY (fK,[])=(qI,0):=BJ rfl (by decide) (by show ¬1048576<qI.length;rw[m0];omega)
theorem IH:iq qI=((fK,[]),0):=by
 have h:=Dn (d:=fK) (body:=eP []) rfl (by decide) (by show qI.length≤1048576;rw[m0];omega)
 have ht:xc (eP [])=some []:=tx (by rfl)
 rw[ht] at h
 exact h
def BK:ba:=.mk [] tJ [] true []
theorem uY:dX BK=[1,0,0]:=by rfl
theorem GD:wN BK:=by
 simp only[BK,wN,HX,and_true]
 exact⟨fun _ h=>(by simp at h),⟨by show oJ 0;unfold oJ;omega,by show oJ 0;unfold oJ;omega⟩,fun _ h=>by simp at h⟩
theorem jd {w:World}:Calls Tryz.prog 15 #[] w (bF fun r w'=>aM w w'∧r=B true):=by
 refine enter (vs:=[]) Tryz.func15 Jg Jg Jg ?_
 refine af (aa (ab Jg Jg (ag (ac (af (aa ?_))))))
 refine bm (vs:=[]) (r:=.agg (fo fK dy).toArray) Jg Jg dl ?_
 refine an wX Jg Jg ((wY (d:=fK) (ts:=[]) Jg (dV.nil _ _) (fun _ h=>by simp at h) (fun _ h=>by simp at h) (by decide))) ?_
 rintro v7 w7 ⟨x7,v8,rfl,o8⟩
 rw[IG] at o8
 rw[IG]
 have b8:cm qI v8 w7:=o8.bts
 refine ae Jg Jg (aj Jg Jg (aS) (aj Jg Jg (aT) (ab Jg Jg (ab Jg Jg (ag (ac (af (aa (ae Jg Jg (an gP Jg Jg ((gQ b8)) ?_))))))))))
 rintro v12 w12 ⟨x12,v13,rfl,r13⟩
 rw[IH] at r13
 rw[IH]
 have h13:dV bK [] v13 w12:=r13.rp
 refine ae Jg Jg (aj Jg Jg (aS) (aj Jg Jg (aT) ?_))
 obtain⟨g3,w3,hr3,l3,x3,k3⟩:=bf (P:=Tryz.prog) (w:=w12) (t:=25) (z:=.agg (fo fK dy).toArray) (l:=fo fK dy) iU rfl
 refine bh Jg hr3 ?_
 obtain⟨w4,s4,q4,k4⟩:=dO (d:=fK) (v:=v13) k3 rfl rfl h13.one
 refine ar Jg Jg s4 ?_
 have x4:=aM.of_new x3 q4 l3
 refine ab Jg Jg (ag (ac (af (aa (bm (vs:=[(3,B true)]) (r:=.agg #[.slice none 0 0,I 0,I 0,B false,.slice none 0 0,.slice none 0 0,.slice none 0 0,B true,.slice none 0 0]) Jg Jg (by exact run_build _ _ _ _ (by kernel_rfl)) ?_)))))
 refine an AC Jg Jg ((AE (n:=BK) (b:=[]) (cm.nil _) (dV.nil _ _) (Sl.nil _ _) (Sl.nil _ _) (dV.nil _ _) (dV.nil _ _) GD (by rw[uY];decide))) ?_
 rintro v16 w16 ⟨x16,b16⟩
 rw[uY,List.nil_append] at b16
 refine aQ (r:=S [1,0,0]) Jg Jg (p5 b16) ?_
 refine ai (v:=S [1,0,0]) Jg Jg Jg (cf Jg AN) (ae Jg Jg (al Jg (ae Jg Jg (al Jg (ai Jg Jg Jg (cf Jg aV) (aw Jg Jg Jg ?_))))))
 refine ae Jg Jg (al Jg (ae Jg Jg (al Jg (aP (r:=I 71) Jg Jg ((by have h:=bz (ty:=3) (b8.ext ((x12.trans x4).trans x16));rw[m0] at h;exact h)) ?_))))
 refine al Jg (ai Jg Jg Jg (cf Jg aV) (aw Jg Jg Jg (ae Jg Jg (al Jg (ae Jg Jg (al Jg ?_))))))
 obtain⟨v30,p30,b30⟩:=gL (b8.ext ((x12.trans x4).trans x16)) (hi:=4) (by rw[m0];omega) .i64
 refine cu Jg Jg Jg Jg Jg (p30 _) ?_
 rw[AG] at b30
 refine al Jg ?_
 refine aQ (r:=S [82,76,85,67]) Jg Jg (p5 b30) ?_
 refine al Jg (ai (v:=S [82,76,85,67]) Jg Jg Jg (cf Jg AN) (aw Jg Jg Jg (ae Jg Jg (al Jg (ae Jg Jg (al Jg (ai Jg Jg Jg (cf Jg aV) ?_)))))))
 refine aw Jg Jg Jg ?_
 have c4:=tB (k4.ext x16) wU
 have h4:=h13.ext (x4.trans x16)
 refine ae Jg Jg (al Jg ?_)
 refine ah Jg Jg lA ?_
 refine al Jg (am Jg Jg (ak IS Jg c4) (al Jg ?_))
 refine aP (r:=I 0) Jg Jg (bT (f:=bK) (l:=[]) IS h4) ?_
 refine al Jg (ai Jg Jg Jg (cf Jg aV) (aw Jg Jg Jg (ab Jg Jg (ag (ac (au (aF Jg Jg ?_)))))))
 exact⟨_,rfl,(((x7.trans x12).trans x4).trans x16),rfl⟩
theorem ob {w:World} {d p:List UInt8} {pv:Value} (hd:d.length=32) (hp:cm p pv w) (hl:p.length≤1099511627776-100):
 Calls Tryz.prog 22 #[.agg (d.map U8).toArray,pv] w (bF fun r w'=>aM w w'∧cD w.heap.size (dR d p) r w'):=by
 refine enter (vs:=[.agg (d.map U8).toArray,pv]) Tryz.func22 Jg Jg Jg ?_
 refine af (aa ?_)
 obtain⟨g2,w2,hr2,l2,x2,k2⟩:=dB (P:=Tryz.prog) (w:=w) (T:=22) (cs:=d.map U8)
 refine cY Jg Jg hr2 ?_
 refine ab Jg Jg (ag (ac (af (aa ?_))))
 obtain⟨v7,w7a,w7,hr7,hc7,x7,b7,ad,hv7,had,hlt⟩:=EB (w:=w2) (t:=28) Tryz.underlying28 [82,76,85,67] (by simp) (by simp)
 refine aN (vs:=[(0,U8 82),(1,U8 76),(2,U8 85),(3,U8 67)]) Jg Jg hr7 ?_
 refine aQ Jg Jg hc7 ?_
 have e7:=x2.trans x7
 have bd:cm d (.slice (some ⟨g2,0,none⟩) 32 32) w7:=by
  have:=(k2.ext x7).bts (by rw[hd];omega)
  rwa [hd] at this
 obtain⟨v10,w10,hr10,o10,x10⟩:=vS (ty:=28) e7 (.inr ⟨b7,ad,hv7⟩) bd (by omega) (by simp[hd])
 have hp10:=hp.ext x10
 refine cu Jg Jg Jg Jg Jg (tA) ?_
 refine be Jg Jg hr10 ?_
 refine ae Jg Jg ?_
 obtain⟨v12,w12,hr12,o12,g12⟩:=di (ty:=28) o10 hp10 (by simp only[List.length_append,List.length_cons,List.length_nil];omega) (x10).size
 have x12:=aM.of_grew (x10) g12 o10.ge
 refine be Jg Jg hr12 ?_
 have b12:cm (fR++d++p) v12 w12:=o12.bts
 have hl12:(fR++d++p).length=36+p.length:=by simp only[List.length_append,hd,show fR.length=4 from rfl]
 refine ab Jg Jg (ag (ac (af (aa (ae Jg Jg (an uR Jg Jg ((uS b12 (by omega))) ?_))))))
 rintro v14 w14 ⟨x14,rfl⟩
 obtain⟨g6,w6,hr6,l6,x6,k6⟩:=bf (P:=Tryz.prog) (w:=w14) (t:=22) (l:=(List.replicate 32 0).map U8) mh rfl
 refine bh Jg hr6 ?_
 obtain⟨w11,s11,q11,k11⟩:=k6.stS (P:=Tryz.prog) (t:=22) (m:=(iV (fR++d++p)).map U8) (by simp[dC]) (by rw[List.length_map,dC];exact jC) (kK _)
 refine ar Jg Jg s11 ?_
 have x11:=x6.of_new q11 l6
 have b32:cm (iV (fR++d++p)) (.slice (some ⟨g6,0,none⟩) 32 32) w11:=by
  have:=k11.bts (by rw[dC];omega)
  rwa [dC] at this
 refine ag (ac (af (aa (ae Jg Jg (cu Jg Jg Jg Jg Jg (tA) ?_)))))
 have o12':cD w.heap.size (fR++d++p) v12 w11:=o12.ext ((x14.trans x11))
 obtain⟨v17,w17,hr17,o17,g17⟩:=di (ty:=28) o12' b32 (by rw[hl12,dC];omega) (((x12.trans x14).trans x11)).size
 have x17:=aM.of_grew (((x12.trans x14).trans x11)) g17 o12'.ge
 refine be Jg Jg hr17 ?_
 refine ab Jg Jg (ag (ac (au (aF Jg Jg ?_))))
 exact⟨_,rfl,x17,o17⟩
theorem zd {w:World} {b:List UInt8} {v:Value} (hv:cm b v w):
 Calls Tryz.prog 4 #[v] w (bF fun r w'=>r=B true∧aM w w'):=by
 refine enter (vs:=[v]) Tryz.func4 Jg Jg Jg ?_
 refine af (aa (ab Jg Jg (ag (ac (af (af (aa (an jc Jg Jg (jd) ?_))))))))
 rintro v7 w7 ⟨x7,rfl⟩
 refine ci Jg Jg cj (ae Jg Jg (al Jg (ae Jg Jg (al Jg (aP Jg Jg (bz (hv.ext x7)) (al Jg (ai Jg Jg Jg (ce) (aC Jg Jg Jg ?_))))))))
 refine ag (ac ?_)
 refine bi Jg (fun h13=>?_) (fun h13=>?_)
 ·refine af (aa (an jc Jg Jg (jd) ?_))
  rintro v14 w14 ⟨x14,rfl⟩
  refine ab Jg Jg (ag (ac (au (av (aF Jg Jg ?_)))))
  exact⟨_,rfl,rfl,(x7.trans x14)⟩
 ·refine aq (ac (af (aa (ae Jg Jg (an gP Jg Jg ((gQ (hv.ext x7))) ?_)))))
  rintro v17 w17 ⟨x17,v17,rfl,r17⟩
  refine ae Jg Jg (aj Jg Jg (aS) (aj Jg Jg (aT) ?_))
  obtain⟨c,hc⟩:∃c,c=iq b:=⟨_,rfl⟩
  rw[←hc] at r17
  have hcd:=rk b
  rw[←hc] at hcd
  have t17:dV bK c.1.2 v17 w17:=r17.rp
  obtain⟨g3,w3,hr3,l3,x3,k3⟩:=bf (P:=Tryz.prog) (w:=w17) (t:=25) (z:=.agg (fo fK dy).toArray) (l:=fo fK dy) iU rfl
  refine bh Jg hr3 ?_
  rw[←hc]
  obtain⟨w4,s4,q4,k4⟩:=dO (d:=c.1.1) (v:=v17) k3 rfl hcd t17.one
  refine ar Jg Jg s4 ?_
  have x4:=aM.of_new x3 q4 l3
  refine ab Jg Jg (ag (ac (af (aa (ae Jg Jg (an i8 Jg Jg ((i9 (hv.ext (((x7.trans x17).trans x4))))) ?_))))))
  rintro v22 w22 ⟨x22,v22,rfl,r22⟩
  rw[←hc] at r22
  have t22:dV bK c.1.2 v22 w22:=r22.rp
  refine ae Jg Jg (aj Jg Jg (aS) (aj Jg Jg (aT) ?_))
  obtain⟨g5,w5,hr5,l5,x5,k5⟩:=bf (P:=Tryz.prog) (w:=w22) (t:=25) (z:=.agg (fo fK dy).toArray) (l:=fo fK dy) iU rfl
  refine bh Jg hr5 ?_
  rw[←hc]
  obtain⟨w6,s6,q6,k6⟩:=dO (d:=c.1.1) (v:=v22) k5 rfl hcd t22.one
  refine ar Jg Jg s6 ?_
  have x6:=aM.of_new x5 q6 l5
  have k46:=k4.ext (x22.trans x6)
  refine ab Jg Jg (ag (ac (af (aa (ae Jg Jg (ae Jg Jg (ai Jg Jg Jg (cf Jg aV) (ae Jg Jg (al Jg ?_)))))))))
  refine am Jg Jg (Aw k46 hcd) ?_
  refine al Jg ?_
  refine am Jg Jg (Aw k6 hcd) ?_
  refine al Jg (an Au Jg Jg ((AA hcd (t17.ext (((x4.trans x22).trans x6))) (t22.ext (x6)))) ?_)
  rintro v31 w31 ⟨x31,rfl⟩
  refine aw Jg Jg Jg (ab Jg Jg (ag (ac (au (aF Jg Jg ?_)))))
  exact⟨_,rfl,rfl,(((((x7.trans x17).trans x4).trans x22).trans x6).trans x31)⟩
end Go.Rl
namespace Go.Proofs.YtaajaakbcelmfaaGreatDoor
open Go Go.RowKit Go.Rl
noncomputable def HY (os:Os):World:=
 {World.holding Tryz.prog os ⟨#[],#[],[]⟩ with heap:=(World.holding Tryz.prog os ⟨#[],#[],[]⟩).heap.modify 0 fun
  |.cells _ t frozen=>.cells #[.int .i64 0,.int .i64 2,.int .i64 1,.int .i64 4,.int .i64 3] t frozen
  |o=>o}
end Go.Proofs.YtaajaakbcelmfaaGreatDoor
namespace Go.Rl
open Go.RowKit Go.Proofs Go.Proofs.YtaajaakbcelmfaaGreatDoor
end Go.Rl
namespace Go.Rl
open Go.RowKit Go.Proofs
theorem ze {w:World} {d b:List UInt8} {v:Value} (hd:d.length=32) (hv:cm b v w):
 Calls Tryz.prog 6 #[.agg (d.map U8).toArray,v] w (bF fun r w'=>r=B true∧aM w w'):=by
 refine enter (vs:=[.agg (d.map U8).toArray,v]) Tryz.func6 Jg Jg Jg ?_
 obtain⟨N,s1,qU,hN,cU⟩:=sT (some b)
 refine af (aa ?_)
 obtain⟨g2,w2,hr2,l2,x2,k2⟩:=dB (P:=Tryz.prog) (w:=w) (T:=22) (cs:=d.map U8)
 refine cY Jg Jg hr2 ?_
 refine ab Jg Jg (ag (ac (af (af (aa (an jc Jg Jg (jd) ?_))))))
 rintro v13 w13 ⟨x13,rfl⟩
 refine ci Jg Jg cj (ae Jg Jg (al Jg (ae Jg Jg (al Jg (aP Jg Jg (bz (hv.ext (x2.trans x13))) (al Jg (ai Jg Jg Jg (ce) (aC Jg Jg Jg ?_))))))))
 refine ag (ac ?_)
 refine bi Jg (fun h19=>?_) (fun h19=>?_)
 ·refine af (aa (an jc Jg Jg (jd) ?_))
  rintro v20 w20 ⟨x20,rfl⟩
  refine ab Jg Jg (ag (ac (au (av (aF Jg Jg ?_)))))
  exact⟨_,rfl,rfl,((x2.trans x13).trans x20)⟩
 ·refine aq (ac (af (aa (ae Jg Jg (an pB Jg Jg ((pD (hv.ext (x2.trans x13)) (by omega))) ?_)))))
  rintro v22 w22 ⟨x22,g,lg,rfl,hr22⟩
  have e22:=((x2.trans x13).trans x22)
  refine ab Jg Jg (ag (ac (af (aa (ae Jg Jg (an cA Jg Jg ((cU hr22)) ?_))))))
  rintro v25 w25 ⟨g25,rfl,hr25⟩
  have x25:=Mv.ext_from (Mv.of_grown g25 fun k hk _=>(Option.some.inj hk).symm:Mv (RX g) w22 w25) e22 (fun k hk=>by have:k=g:=hk;have:=x13.size;have:=x2.size;omega)
  have m25:Mv (RX g) w22 w25:=Mv.of_grown g25 fun k hk _=>(Option.some.inj hk).symm
  have k2b:=m25.blk (k2.ext (x13.trans x22)) (fun h=>by have:g2=g:=h;have:=k2.lt;have:=x13.size;omega)
  refine ae Jg Jg (aj Jg Jg (aS) (aj Jg Jg (aT) (ab Jg Jg (ab Jg Jg (ag (ac (af (af ?_))))))))
  rcases hs:s1 with _|l1
  ·refine aa (ae Jg Jg (ai Jg Jg Jg (bZ (by simp) aV) (ae Jg Jg (ao Jg Jg Jg (ao Jg Jg Jg (aC Jg Jg Jg (ae Jg Jg (ao Jg Jg Jg ?_))))))))
   refine ao Jg Jg Jg (aC Jg Jg Jg (ag (ac (cq Jg (aq (ac (af (aa ?_))))))))
   refine am Jg Jg (k2b.ld I6 Jg (by rw[List.length_map,hd];exact jC)) ?_
   refine ae Jg Jg (an oa Jg Jg ((ob hd (hv.ext x25) (by omega))) ?_)
   rintro v40 w40 ⟨x40,o40⟩
   have b40:=o40.bts
   refine ab Jg Jg (ag (ac (af (aa (ae Jg Jg (an gP Jg Jg ((gQ b40)) ?_))))))
   rintro v43 w43 ⟨x43,v43,rfl,r43⟩
   have n43:v43.oneCell'=true:=dV.one (f:=bK) r43.rp
   have hcd:=rk (dR d b)
   refine ae Jg Jg (aj Jg Jg (aS) (aj Jg Jg (aT) ?_))
   obtain⟨g9,w9,hr9,l9,x9,k9⟩:=bf (P:=Tryz.prog) (w:=w43) (t:=25) (z:=.agg (fo fK dy).toArray) (l:=fo fK dy) iU rfl
   refine bh Jg hr9 ?_
   obtain⟨w10,s10,q10,k10⟩:=dO (d:=(iq (dR d b)).1.1) (v:=v43) k9 rfl hcd n43
   refine ar Jg Jg s10 ?_
   have x10:=aM.of_new x9 q10 l9
   refine ab Jg Jg (ag (ac (af (aa (ae Jg Jg (an i8 Jg Jg ((i9 (b40.ext (x43.trans x10)))) ?_))))))
   rintro v48 w48 ⟨x48,v48,rfl,r48⟩
   have n48:v48.oneCell'=true:=dV.one (f:=bK) r48.rp
   refine ae Jg Jg (aj Jg Jg (aS) (aj Jg Jg (aT) ?_))
   obtain⟨g11,w11,hr11,l11,x11,k11⟩:=bf (P:=Tryz.prog) (w:=w48) (t:=25) (z:=.agg (fo fK dy).toArray) (l:=fo fK dy) iU rfl
   refine bh Jg hr11 ?_
   obtain⟨w12,s12,q12,k12⟩:=dO (d:=(iq (dR d b)).1.1) (v:=v48) k11 rfl hcd n48
   refine ar Jg Jg s12 ?_
   have x12:=aM.of_new x11 q12 l11
   refine ab Jg Jg (ag (ac (af (aa (ae Jg Jg (ae Jg Jg (ai Jg Jg Jg (cf Jg aV) (ab Jg Jg (ag (ac (au (aF Jg Jg ?_))))))))))))
   exact⟨_,rfl,rfl,(((((x25.trans x40).trans x43).trans x10).trans x48).trans x12)⟩
  ·refine aa (ae Jg Jg (ai Jg Jg Jg (cf (by simp) aV) (ae Jg Jg (al Jg (ae Jg Jg (al Jg (ai (v:=bj 2000) Jg Jg Jg (ck) ?_)))))))
   refine aw Jg Jg Jg (ae Jg Jg ?_)
   refine cJ (fun h34=>?_) (fun h34=>?_)
   ·refine al Jg (ae Jg Jg (al Jg (ai (v:=bj 4194304) Jg Jg Jg (pl) (aw Jg Jg Jg (ag (ac ?_))))))
    refine bi Jg (fun h37=>?_) (fun h37=>?_)
    ·refine af (aa (ab Jg Jg (ag (ac (au (av (aF Jg Jg ?_)))))))
     exact⟨_,rfl,rfl,x25⟩
    ·refine aq (ac (af (aa ?_)))
     refine am Jg Jg (k2b.ld I6 Jg (by rw[List.length_map,hd];exact jC)) ?_
     refine ae Jg Jg (an oa Jg Jg ((ob hd (hv.ext x25) (by omega))) ?_)
     rintro v40 w40 ⟨x40,o40⟩
     have b40:=o40.bts
     refine ab Jg Jg (ag (ac (af (aa (ae Jg Jg (an gP Jg Jg ((gQ b40)) ?_))))))
     rintro v43 w43 ⟨x43,v43,rfl,r43⟩
     have n43:v43.oneCell'=true:=dV.one (f:=bK) r43.rp
     have hcd:=rk (dR d b)
     refine ae Jg Jg (aj Jg Jg (aS) (aj Jg Jg (aT) ?_))
     obtain⟨g9,w9,hr9,l9,x9,k9⟩:=bf (P:=Tryz.prog) (w:=w43) (t:=25) (z:=.agg (fo fK dy).toArray) (l:=fo fK dy) iU rfl
     refine bh Jg hr9 ?_
     obtain⟨w10,s10,q10,k10⟩:=dO (d:=(iq (dR d b)).1.1) (v:=v43) k9 rfl hcd n43
     refine ar Jg Jg s10 ?_
     have x10:=aM.of_new x9 q10 l9
     refine ab Jg Jg (ag (ac (af (aa (ae Jg Jg (an i8 Jg Jg ((i9 (b40.ext (x43.trans x10)))) ?_))))))
     rintro v48 w48 ⟨x48,v48,rfl,r48⟩
     have n48:v48.oneCell'=true:=dV.one (f:=bK) r48.rp
     refine ae Jg Jg (aj Jg Jg (aS) (aj Jg Jg (aT) ?_))
     obtain⟨g11,w11,hr11,l11,x11,k11⟩:=bf (P:=Tryz.prog) (w:=w48) (t:=25) (z:=.agg (fo fK dy).toArray) (l:=fo fK dy) iU rfl
     refine bh Jg hr11 ?_
     obtain⟨w12,s12,q12,k12⟩:=dO (d:=(iq (dR d b)).1.1) (v:=v48) k11 rfl hcd n48
     refine ar Jg Jg s12 ?_
     have x12:=aM.of_new x11 q12 l11
     refine ab Jg Jg (ag (ac (af (aa (ae Jg Jg (ae Jg Jg (ai Jg Jg Jg (cf Jg aV) (ab Jg Jg (ag (ac (au (aF Jg Jg ?_))))))))))))
     exact⟨_,rfl,rfl,(((((x25.trans x40).trans x43).trans x10).trans x48).trans x12)⟩
   ·refine ao Jg Jg Jg (ao Jg Jg Jg (aC Jg Jg Jg (ag (ac (cq Jg (aq (ac (af (aa ?_)))))))))
    refine am Jg Jg (k2b.ld I6 Jg (by rw[List.length_map,hd];exact jC)) ?_
    refine ae Jg Jg (an oa Jg Jg ((ob hd (hv.ext x25) (by omega))) ?_)
    rintro v40 w40 ⟨x40,o40⟩
    have b40:=o40.bts
    refine ab Jg Jg (ag (ac (af (aa (ae Jg Jg (an gP Jg Jg ((gQ b40)) ?_))))))
    rintro v43 w43 ⟨x43,v43,rfl,r43⟩
    have n43:v43.oneCell'=true:=dV.one (f:=bK) r43.rp
    have hcd:=rk (dR d b)
    refine ae Jg Jg (aj Jg Jg (aS) (aj Jg Jg (aT) ?_))
    obtain⟨g9,w9,hr9,l9,x9,k9⟩:=bf (P:=Tryz.prog) (w:=w43) (t:=25) (z:=.agg (fo fK dy).toArray) (l:=fo fK dy) iU rfl
    refine bh Jg hr9 ?_
    obtain⟨w10,s10,q10,k10⟩:=dO (d:=(iq (dR d b)).1.1) (v:=v43) k9 rfl hcd n43
    refine ar Jg Jg s10 ?_
    have x10:=aM.of_new x9 q10 l9
    refine ab Jg Jg (ag (ac (af (aa (ae Jg Jg (an i8 Jg Jg ((i9 (b40.ext (x43.trans x10)))) ?_))))))
    rintro v48 w48 ⟨x48,v48,rfl,r48⟩
    have n48:v48.oneCell'=true:=dV.one (f:=bK) r48.rp
    refine ae Jg Jg (aj Jg Jg (aS) (aj Jg Jg (aT) ?_))
    obtain⟨g11,w11,hr11,l11,x11,k11⟩:=bf (P:=Tryz.prog) (w:=w48) (t:=25) (z:=.agg (fo fK dy).toArray) (l:=fo fK dy) iU rfl
    refine bh Jg hr11 ?_
    obtain⟨w12,s12,q12,k12⟩:=dO (d:=(iq (dR d b)).1.1) (v:=v48) k11 rfl hcd n48
    refine ar Jg Jg s12 ?_
    have x12:=aM.of_new x11 q12 l11
    refine ab Jg Jg (ag (ac (af (aa (ae Jg Jg (ae Jg Jg (ai Jg Jg Jg (cf Jg aV) (ab Jg Jg (ag (ac (au (aF Jg Jg ?_))))))))))))
    exact⟨_,rfl,rfl,(((((x25.trans x40).trans x43).trans x10).trans x48).trans x12)⟩
end Go.Rl
namespace Go.Rl
open Go.RowKit Go.Proofs
end Go.Rl
namespace Go.Rl
open Go.ChangeShapes Go.WideShapes Go.ChangeAt Go.RowKit Go.Proofs
theorem FG {W:World}:∀(l:List UInt8) {cs:List Value},bL W (l.map dU8) cs→cs=l.map U8
 |[],cs,h=>by simpa only[List.map_nil,bL] using h
 |a::l,cs,h=>by
  simp only[List.map_cons,bL,dU8,Rp] at h
  obtain⟨c1,c2,rfl,rfl,h2⟩:=h
  rw[FG l h2]
  rfl
section
variable {H:Type} {enc:TypeId×Value→H} {W:World} {base:Nat} {spare:Nat→Bool} {held:Bool} {r:Reach} {b0:Nat} {v:Value} {d:DataW H} {ps:List MemPlace}
set_option maxRecDepth 100000 in
theorem II (ho:Value.okWide Tryz.prog W r b0 22 v) (h:DataW.Trod enc Tryz.prog W base spare held 22 v d ps):∃l:List UInt8,v=.agg (l.map U8).toArray∧l.length=32:=by
 have ho':∃cs,v=.agg cs:=by
  simp only[Value.okWide,Tryz.underlying22] at ho
  obtain⟨cs,h1,_⟩:=ho
  exact⟨cs,h1⟩
 obtain⟨cs,rfl⟩:=ho'
 obtain⟨h1,h2⟩:=Hf (ts:=[22,5]) (by kernel_rfl) (by kernel_rfl) h
 obtain⟨l,hd,hl⟩:=h2.inv_arr (f:=dU8) I6 fun _ hx=>hx.inv_u8 IR
 rw[hd] at h1
 simp only[Rp] at h1
 have:=FG l h1
 refine⟨l,?_,hl⟩
 show Value.agg cs=_
 have h3:cs.toList=l.map U8:=this
 rw[←h3]
end
end Go.Rl

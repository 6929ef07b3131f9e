/- Part 4 of a proof: plain facts and walks of functions, merged by a program. Conditions: each lemma names its own. -/
import Derived.Test.YtpeidnhjcompmaaGreatDoorJa3
namespace Go.Rl
open Go.RowKit Go.Proofs
theorem gz:aG Tryz.prog 40:=⟨_,Tryz.func40,by kernel_rfl,rfl⟩
theorem yF:aG Tryz.prog 39:=⟨_,Tryz.func39,by kernel_rfl,rfl⟩
theorem gA {w:World} {g:Nat} {m x:List UInt8} {tot:UInt64} {v:Value} (hh:HA g m tot w) (hx:cz x v w) (ha:0<x.length→Ac g v):
 Calls Tryz.prog 40 #[.pointer (some ⟨g,0,none⟩),v] w (bE fun _ w'=>w.grownBy w' (some g)∧HA g (m++x) (tot+UInt64.ofNat x.length) w'):=by
 refine enter (vs:=[.pointer (some ⟨g,0,none⟩),v]) Tryz.func40 MI MI MI ?_
 refine af (af (aa (ae MI MI ?_)))
 refine al MI MI MI (gp MD) ?_
 refine ag (ab ?_)
 refine cq MI ?_
 refine aA (ab (af (aa (ae MI MI ?_))))
 obtain⟨blk0,hc0,ht0⟩:=hh
 refine ax MI MI ?_
 refine ah MI MI KV ?_
 refine ak MI MI (ai Mf MI hc0.cellT) ?_
 refine ae MI MI ?_
 refine aP MI MI (cN hx) ?_
 refine aZ MI MI (fk Me Mf) ?_
 refine al MI MI MI (dO) ?_
 refine ax MI MI ?_
 refine ah MI MI KV ?_
 have hcl0:=it (u:=((m.length%64:Nat):Int)) (tot:=tot) hc0.ls hc0.lb
 refine ar MI MI (ei (i:=73) BD MI hc0.hb (by rw[List.size_toArray,hcl0];omega)) ?_
 have hc1:=hc0.setT (tot+UInt64.ofNat x.length)
 have q1:=bi w g 73 (bF (tot+UInt64.ofNat x.length))
 have hx1:=hx.away ha q1
 revert hc1 q1 hx1
 generalize w.setCell ⟨g,73,none⟩ (bF (tot+UInt64.ofNat x.length))=w1
 intro hc1 q1 hx1
 refine ag (ab (aF ?_))
 refine cg (α:=Nat×Value) (fun p=>[(0,.pointer (some ⟨g,0,none⟩)),(1,p.2)])
  (fun p w'=>HA g (m++x.take p.1) (tot+UInt64.ofNat x.length) w'∧cz (x.drop p.1) p.2 w'∧(0<(x.drop p.1).length→Ac g p.2)∧w.grownBy w' (some g)∧p.1≤x.length) (fun p=>x.length-p.1) (0,v) ⟨rfl,rfl,trivial⟩
  ⟨by simpa using⟨blk0,hc1,ht0⟩,by simpa using hx1,by simpa using ha,q1,by simp⟩ ?_
 rintro⟨k,b⟩ w2 ⟨⟨blk,hc2,ht2⟩,hb2,ha2,q2,hk⟩
 dsimp only at hc2 ht2 hb2 ha2 q2 hk
 have hm':∃m',m'=m++x.take k:=⟨_,rfl⟩
 obtain⟨m',hm'⟩:=hm'
 rw[←hm'] at hc2 ht2
 refine af (af (aa (ae MI MI ?_)))
 refine aP MI MI (cN hb2) ?_
 refine al MI MI MI (bV) ?_
 refine ag (ab ?_)
 refine bw MI (fun h=>?_) (fun h=>?_)
 ·have hlt:0<(x.drop k).length:=by omega
  have hu:m'.length%64<64:=Nat.mod_lt _ (by omega)
  refine aA (ab (aF (af ?_)))
  refine bP 9 [0,1,27,28] (by kernel_rfl) (by kernel_rfl) ?_
  refine aC MI MI ?_
  refine dc MI MI ?_
  refine aT MI MI (fun w _=>LR) ?_
  refine aC MI MI ?_
  refine dc MI MI ?_
  refine aT MI MI (fun w _=>FT) ?_
  refine aO MI MI (fun w' hw=>ai Me MI (hc2.ext hw).cellU) ?_
  refine jo (a:=some (I ((m'.length%64:Nat):Int))) (b:=none) MI MI MI MI (fun w _=>Kd hu) ?_
  refine aC MI MI (cp ?_)
  intro w3 hx3
  rintro _ rfl _ rfl _ rfl _ rfl
  have hc3:=hc2.ext hx3
  obtain⟨w4,hr,q4,hc4⟩:=Ji (ty:=3) hc3 hu (hb2.ext hx3) hlt
  obtain⟨n,hn⟩:∃n,n=min (x.drop k).length (64-m'.length%64):=⟨_,rfl⟩
  rw[←hn] at hr hc4
  have hxk:(x.drop k).length=x.length-k:=List.length_drop
  have hn1:n≤x.length-k:=by omega
  have hn2:m'.length%64+n≤64:=by omega
  have hn0:0<n:=by omega
  refine Km MI MI hr ?_
  refine ac MI MI (ag (ab (af (aa (ae MI MI ?_)))))
  refine ax MI MI ?_
  refine ah MI MI FT ?_
  refine ak MI MI (ai Me MI hc4.cellU) ?_
  refine ae MI MI ?_
  have e1:((m'.length%64:Nat):Int)+(n:Int)=((m'.length%64+n:Nat):Int):=by omega
  refine al (r:=I ((m'.length%64+n:Nat):Int)) MI MI MI (by rw[←e1];exact aN (by omega) (by omega)) ?_
  refine ax MI MI ?_
  refine ah MI MI FT ?_
  have hcl4:=it (u:=((m'.length%64:Nat):Int)) (tot:=tot+UInt64.ofNat x.length) hc4.ls hc4.lb
  refine ar MI MI (ei (i:=72) gr MI hc4.hb (by rw[List.size_toArray,hcl4];omega)) ?_
  have hc5:=hc4.setU ((m'.length%64+n:Nat):Int)
  have q5:=q4.trans (bi w4 g 72 (I ((m'.length%64+n:Nat):Int)))
  revert hc5 q5
  generalize w4.setCell ⟨g,72,none⟩ (I ((m'.length%64+n:Nat):Int))=w5
  intro hc5 q5
  have hb5:=(hb2.ext hx3).away ha2 q5
  have q25:=(q2.trans (dH hx3)).trans q5
  refine ag (ab (af (aa (ae MI MI (ae MI MI ?_)))))
  obtain⟨b6,hr6,hb6,ha6⟩:=C3 hb5 (lo:=n) (by omega) (ha2 hlt)
  rw[List.drop_drop] at hb6
  refine cE (a:=some (I (n:Int))) (b:=none) MI MI MI MI MI (hr6 _) ?_
  refine ac MI MI (ag (ab (af (aa (ae MI MI ?_)))))
  refine ax MI MI ?_
  refine ah MI MI FT ?_
  refine ak MI MI (ai Me MI hc5.cellU) ?_
  refine al MI MI MI (bo) ?_
  refine ag (ab ?_)
  have hyl:((x.drop k).take (64-m'.length%64)).length=n:=by rw[List.length_take,hn,Nat.min_comm]
  have hyn:(x.drop k).take (64-m'.length%64)=(x.drop k).take n:=by
   rw[hn]
   rcases Nat.le_total (x.drop k).length (64-m'.length%64) with h1|h1
   ·rw[Nat.min_eq_left h1,List.take_of_length_le h1,List.take_length]
   ·rw[Nat.min_eq_right h1]
  have hmy:m++x.take (k+n)=m'++(x.drop k).take (64-m'.length%64):=by
   rw[hyn,hm',List.append_assoc,←List.take_add]
  obtain⟨y,hy⟩:∃y,y=(x.drop k).take (64-m'.length%64):=⟨_,rfl⟩
  rw[←hy] at hc5 hyl hmy
  have hmd:(m'.drop (64*(m'.length/64))).length=m'.length%64:=by rw[List.length_drop];omega
  have hml:(m'++y).length=m'.length+n:=by rw[List.length_append,hyl]
  refine bw MI (fun h=>?_) (fun h=>?_)
  ·have hfull:m'.length%64+n=64:=by omega
   refine aa (ae MI MI ?_)
   refine am Aa MI MI (Ab hc5) ?_
   rintro _ w6 ⟨q6,hc6⟩
   refine ag (aS ?_)
   refine bR (k+n,b6) ⟨rfl,rfl,trivial⟩ ⟨?_,hb6.away (fun _=>ha6) q6,fun _=>ha6,q25.trans q6,by show k+n≤x.length;omega⟩ (by show x.length-(k+n)<x.length-k;omega)
   show HA g (m++x.take (k+n)) _ w6
   rw[hmy]
   have e0:(m'++y).length%64=0:=by rw[hml];omega
   have hd0:blk.drop (m'.length%64+n)=[]:=List.drop_eq_nil_of_le (by rw[hc2.lb];omega)
   rw[hd0,List.append_nil] at hc6
   have hdd:(m'++y).drop (64*((m'++y).length/64))=[]:=List.drop_eq_nil_of_le (by omega)
   refine⟨blk.take (m'.length%64)++y,?_,by rw[e0,hdd,List.take_zero]⟩
   rw[e0,Jh m' y (by omega),←ht2]
   exact hc6
  ·have hpart:m'.length%64+n<64:=by omega
   refine aA (aS ?_)
   refine bR (k+n,b6) ⟨rfl,rfl,trivial⟩ ⟨?_,hb6,fun _=>ha6,q25,by show k+n≤x.length;omega⟩ (by show x.length-(k+n)<x.length-k;omega)
   show HA g (m++x.take (k+n)) _ w5
   rw[hmy]
   have e0:(m'++y).length%64=m'.length%64+n:=by rw[hml];omega
   have e2:(m'++y).length/64=m'.length/64:=by rw[hml];omega
   refine⟨_,by rw[e0,Jg m' y (by omega)];exact hc5,?_⟩
   rw[e0,e2,List.drop_append_of_le_length (by omega),←ht2]
   rw[List.take_append_of_le_length (by rw[List.length_append,List.length_take,hc2.lb,hyl];omega)]
   exact List.take_of_length_le (by rw[List.length_append,List.length_take,hc2.lb,hyl];omega)
 ·have hk':k=x.length:=by
   have:(x.drop k).length=x.length-k:=List.length_drop
   omega
  refine bc (aJ (aJ (bf ?_)))
  refine jS MI ?_
  refine⟨_,rfl,q2,?_⟩
  rw[hk',List.take_length] at hm'
  rw[hm'] at hc2 ht2
  exact⟨blk,hc2,ht2⟩
theorem yG (w:World):Calls Tryz.prog 39 #[] w (bE fun r w'=>aK w w'∧∃g,w.heap.size≤g∧r=.pointer (some ⟨g,0,none⟩)∧HA g [] 0 w'):=by
 refine enter (vs:=[]) Tryz.func39 MI MI MI ?_
 refine af (aa (ac MI MI (ag (ab (af (aa ?_))))))
 refine bz MI MI (run_build _ _ _ (iv.map bH).toArray (by kernel_rfl)) ?_
 refine bz MI MI (run_build _ _ _ (dl iv (List.replicate 64 0) 0 0).toArray (by kernel_rfl)) ?_
 obtain⟨g,w1,hr,n1,x1,b1⟩:=C1 (P:=Tryz.prog) (w:=w) (t:=154) (v:=.agg (dl iv (List.replicate 64 0) 0 0).toArray) (l:=dl iv (List.replicate 64 0) 0 0) rfl
 refine cG MI MI hr ?_
 refine ac MI MI (ag (ab (aw ?_)))
 refine az MI MI ?_
 exact⟨_,rfl,x1,g,n1,rfl,List.replicate 64 0,⟨b1,rfl,by simp⟩,rfl⟩
theorem HC.ldH {g:Nat} {st:List UInt32} {blk:List UInt8} {u:Int} {tot:UInt64} {w:World} (h:HC g st blk u tot w):(Instr.loadAt 154 (.pointer (some ⟨g,0,none⟩))).run Tryz.prog w=.ok (.agg (dl st blk u tot).toArray) w:=
 oh (m:=dl st blk u tot) h.hb (fun j v hj=>by rwa [Nat.zero_add]) MF rfl (by rw[it h.ls h.lb];exact yE)
theorem LS {st:List UInt32} {blk:List UInt8} {u:Int} {tot:UInt64}:∀v∈dl st blk u tot,v.oneCell'=true:=by
 intro v hv
 unfold dl at hv
 rcases List.mem_append.1 hv with h|h
 ·exact kP _ v h
 ·rcases List.mem_append.1 h with h|h
  ·exact su _ v h
  ·simp only[List.mem_cons,List.not_mem_nil,or_false] at h
   rcases h with rfl|rfl<;>rfl
end Go.Rl
namespace Go.Rl
open Go.RowKit Go.Proofs
theorem yH:aG Tryz.prog 42:=⟨_,Tryz.func42,by kernel_rfl,rfl⟩
theorem KW:(Tryz.prog.info? 155).map (·.zero)=some (some (.agg (List.replicate 8 (U8 0)).toArray)):=by kernel_rfl
theorem BE {g k:Nat} {v:Value} (h:v.ownBlock=some k) (hne:k≠g):Ac g v:=by
 rintro a n c rfl
 intro he
 have:some a.block=some k:=h
 exact hne (by rw[←Option.some.inj this];exact he)
theorem Jj (n:UInt64) {i:Nat} (hi:i<8):(Br n).getD i 0=(n>>>UInt64.ofNat (56-8*i)).toUInt8:=by
 simp[Br,hi]
section
variable {w:World} {g o:Nat} {T:TypeId}
theorem KX (i:Nat) (hi:i<8):(Instr.indexAt 155 (.pointer (some ⟨g,0,none⟩)) (I (i:Int))).run Tryz.prog w=.ok (.pointer (some ⟨g,i,none⟩)) w:=by
 have:=iF (P:=Tryz.prog) (w:=w) (g:=g) (o:=0) Tryz.underlying155 fC hi .i64
 rwa [Nat.zero_add] at this
theorem KY:(Instr.sliceAt 155 (.pointer (some ⟨g,0,none⟩)) none none none).run Tryz.prog w=.ok (.slice (some ⟨g,0,none⟩) 8 8) w:=by
 simp[Instr.sliceAt,run_underlying Tryz.underlying155,Instr.sureAddr,Instr.sliceBounds,eZ fC,Addr.add_mid]
theorem ci.bts {m:List UInt8} (h:ci g T (m.map U8) w) (hm:m.length≤64):cz m (.slice (some ⟨g,0,none⟩) m.length m.length) w:=
 ⟨_,_,_,rfl,Nat.le_refl _,by unfold maxLen;omega,by simp,fun _=>⟨_,rfl,fun j v hj=>by rw[Addr.add_mid,Nat.zero_add];exact h.cell hj⟩,fun h=>by cases h⟩
end
theorem yI {w:World} {g:Nat} {m:List UInt8} (hh:HA g m (UInt64.ofNat m.length) w):
 Calls Tryz.prog 42 #[.pointer (some ⟨g,0,none⟩)] w (bE fun r w'=>aK w w'∧r=.agg ((kT m).map U8).toArray):=by
 obtain⟨blk,hc,ht⟩:=hh
 refine enter (vs:=[.pointer (some ⟨g,0,none⟩)]) Tryz.func42 MI MI MI ?_
 obtain⟨g2,w1,hr,n2,x1,b2⟩:=aY (P:=Tryz.prog) (w:=w) (l:=(List.replicate 32 0).map U8) iq rfl
 refine af (aa (aV MI hr (ag (ab (af (af (aa (ae MI MI ?_))))))))
 refine al MI MI MI (gp MD) ?_
 refine ag (ab ?_)
 refine cq MI ?_
 refine aA (ab (af (aa (ae MI MI ?_))))
 refine ax MI MI ?_
 refine ak MI MI (hc.ext x1).ldH ?_
 obtain⟨g3,w2,hr,n3,x2,b3⟩:=aY (P:=Tryz.prog) (w:=w1) (l:=dl (List.replicate 8 0) (List.replicate 64 0) 0 0) Fsz rfl
 refine aV MI hr ?_
 have hl:=it (u:=((m.length%64:Nat):Int)) (tot:=UInt64.ofNat m.length) hc.ls hc.lb
 refine ar MI MI (jO b3 (by rw[hl];rfl) (by rw[hl];exact yE) LS) ?_
 have hA:HA g3 m (UInt64.ofNat m.length) (w2.setRow g3 (dl (sh m) blk ((m.length%64:Nat):Int) (UInt64.ofNat m.length)).toArray):=⟨blk,⟨b3.row _,hc.ls,hc.lb⟩,ht⟩
 have q3:=bK w2 g3 (dl (sh m) blk ((m.length%64:Nat):Int) (UInt64.ofNat m.length)).toArray
 have l23:g2<g3:=Nat.lt_of_lt_of_le b2.lt n3
 have ne23:some g2≠some g3:=fun h=>by cases h;omega
 have hw3:w.heap.size≤g3:=by omega
 have B2:=(b2.ext x2).other q3 ne23
 have E3:=(x1.trans x2).of_new q3 hw3
 revert hA B2 E3
 generalize w2.setRow g3 (dl (sh m) blk ((m.length%64:Nat):Int) (UInt64.ofNat m.length)).toArray=w3
 intro hA B2 E3
 refine ag (ab (af (aa ?_)))
 refine ah MI MI KV ?_
 obtain⟨blk',hcA,htA⟩:=id hA
 refine ak MI MI (ai Mf MI hcA.cellT) ?_
 refine al (v:=bF 8) MI MI MI (gE) ?_
 refine ac MI MI (ag (ab (af (aa ?_))))
 obtain⟨r4,w4,hr,x4,o4,ob4⟩:=dX (w:=w3) w3.heap.size [128] (by simp) (Nat.le_refl _)
 refine aI (vs:=[(0,U8 128)]) MI MI hr ?_
 refine am gz MI MI (gA (hA.ext x4) o4.bts (fun _=>BE ob4 (by have:=hA.lt;omega))) ?_
 rintro _ w5 ⟨q5,h5⟩
 have B5:=(B2.ext x4).other q5 ne23
 have E5:=(E3.trans x4).of_new q5 hw3
 refine ag (ab ?_)
 have hp:im m.length<64:=by unfold im;omega
 refine af (eW (fun _:Unit=>[(2,.pointer (some ⟨g2,0,none⟩)),(3,.pointer (some ⟨g3,0,none⟩)),(4,bF (UInt64.ofNat m.length*8))]) (fun _ w'=>aK w w'∧ci g2 24 ((List.replicate 32 0).map U8) w'∧∃tot,HA g3 (m++[128]++List.replicate (im m.length) 0) tot w') ?_ ?_)
 ·refine aF ?_
  refine cg (α:=Nat) (fun _=>[(2,.pointer (some ⟨g2,0,none⟩)),(3,.pointer (some ⟨g3,0,none⟩)),(4,bF (UInt64.ofNat m.length*8))])
   (fun k w'=>aK w w'∧ci g2 24 ((List.replicate 32 0).map U8) w'∧(∃tot,HA g3 (m++[128]++List.replicate k 0) tot w')∧k≤im m.length) (fun k=>im m.length-k) 0 ⟨rfl,rfl,rfl,trivial⟩
   ⟨E5,B5,⟨_,by simpa using h5⟩,by omega⟩ ?_
  rintro k w6 ⟨E6,B6,⟨tot,h6⟩,hk⟩
  obtain⟨blk6,hc6,ht6⟩:=id h6
  have hm:(m++[128]++List.replicate k 0).length=m.length+1+k:=by simp;omega
  refine af (af (aa ?_))
  refine ah MI MI FT ?_
  refine ak MI MI (ai Me MI hc6.cellU) ?_
  refine al MI MI MI (cT) ?_
  refine ag (ab ?_)
  rw[hm]
  refine bw MI (fun h=>?_) (fun h=>?_)
  ·have hlt:k<im m.length:=by
    rcases Nat.lt_or_ge k (im m.length) with h1|h1
    ·exact h1
    ·have:k=im m.length:=by omega
     subst this
     exfalso
     unfold im at h
     omega
   refine aA (ab (aF (aa ?_)))
   obtain⟨r7,w7,hr,x7,o7,ob7⟩:=dX (w:=w6) w6.heap.size [0] (by simp) (Nat.le_refl _)
   refine aI (vs:=[(0,U8 0)]) MI MI hr ?_
   refine am gz MI MI (gA (h6.ext x7) o7.bts (fun _=>BE ob7 (by have:=h6.lt;omega))) ?_
   rintro _ w8 ⟨q8,h8⟩
   refine ag (aS ?_)
   rw[List.append_assoc _ (List.replicate k 0) [0],←List.replicate_succ'] at h8
   exact bR (k+1) ⟨rfl,rfl,rfl,trivial⟩ ⟨(E6.trans x7).of_new q8 hw3,(B6.ext x7).other q8 ne23,⟨_,h8⟩,hlt⟩ (by omega)
  ·have hk':k=im m.length:=by
    unfold im at hk hp⊢
    omega
   subst hk'
   exact bc (aJ (aJ (bf (ck () ⟨rfl,rfl,rfl,trivial⟩ ⟨E6,B6,tot,h6⟩))))
 rintro _ w6 ⟨E6,B6,tot6,h6⟩
 refine ab (af (aa ?_))
 obtain⟨bits,hbits⟩:∃b,b=UInt64.ofNat m.length*8:=⟨_,rfl⟩
 rw[←hbits]
 have hb8:=z9 bits
 obtain⟨g5,w7,hr,n5,x7,b7⟩:=aY (P:=Tryz.prog) (w:=w6) (l:=(fK (Br bits) 8 0).map U8) KW rfl
 refine aV MI hr (ag (ab ?_))
 have l35:g3<g5:=Nat.lt_of_lt_of_le h6.lt n5
 have ne25:some g2≠some g5:=fun h=>by cases h;omega
 have ne35:some g3≠some g5:=fun h=>by cases h;omega
 refine af (eW (fun _:Unit=>[(2,.pointer (some ⟨g2,0,none⟩)),(3,.pointer (some ⟨g3,0,none⟩)),(5,.pointer (some ⟨g5,0,none⟩))]) (fun _ w'=>w7.grownBy w' (some g5)∧ci g5 155 ((Br bits).map U8) w') ?_ ?_)
 ·refine af (aa (ae MI MI (ag (ab (aF ?_)))))
  refine cg (α:=Nat) (fun i=>[(2,.pointer (some ⟨g2,0,none⟩)),(3,.pointer (some ⟨g3,0,none⟩)),(4,bF bits),(5,.pointer (some ⟨g5,0,none⟩)),(27,I (i:Int))])
   (fun i w'=>w7.grownBy w' (some g5)∧ci g5 155 ((fK (Br bits) 8 i).map U8) w'∧i≤8) (fun i=>8-i) 0 ⟨rfl,rfl,rfl,rfl,rfl,trivial⟩
   ⟨dH (aK.refl _),b7,by omega⟩ ?_
  rintro i w8 ⟨q8,b8,hi⟩
  refine af (aa ?_)
  refine al MI MI MI (a9) ?_
  refine ag (ab (af ?_))
  refine bw MI (fun h=>?_) (fun h=>?_)
  ·have hi8:i<8:=by omega
   have hfl:=kt (j:=i) hb8 (by omega)
   have e6:(56:Int)-8*(i:Int)=((56-8*i:Nat):Int):=by omega
   refine aA (ab (af (aF (af (aa (ae MI MI (ac MI MI (ag (ab (aa (ae MI MI (ae MI MI (ae MI MI ?_)))))))))))))
   refine al MI MI MI (fB (by omega) (by omega)) ?_
   refine al (r:=I ((56-8*i:Nat):Int)) MI MI MI (by rw[←e6];exact bC (by omega) (by omega)) ?_
   refine al MI MI MI (dC (56-8*i) (by omega)) ?_
   refine aZ MI MI (lU Mf Mh) ?_
   refine av MI MI MI (KX i hi8) ?_
   refine ar MI MI (yD b8 i (by omega)) ?_
   have b9:=b8.setB i (bits>>>UInt64.ofNat (56-8*i)).toUInt8
   have hset:(fK (Br bits) 8 i).set i (bits>>>UInt64.ofNat (56-8*i)).toUInt8=fK (Br bits) 8 (i+1):=by
    rw[←Jj bits hi8]
    exact ku hb8 hi8
   rw[hset] at b9
   refine ag (aS (ab (aa ?_)))
   refine al MI MI MI (aN (by omega) (by omega)) ?_
   refine ae MI MI (ag ?_)
   exact bR (i+1) ⟨rfl,rfl,rfl,rfl,rfl,trivial⟩ ⟨q8.trans (bi w8 g5 i _),b9,by omega⟩ (by omega)
  ·have hi':i=8:=by omega
   subst hi'
   rw[tO hb8] at b8
   exact bc (aJ (aJ (bf (ck () ⟨rfl,rfl,rfl,trivial⟩ ⟨q8,b8⟩))))
 rintro _ w8 ⟨q8,b8⟩
 have E8:aK w w8:=(E6.trans x7).of_new q8 (by omega)
 have B8:=(B6.ext x7).other q8 ne25
 have h8:=(h6.ext x7).other q8 ne35
 refine ab (af (aa ?_))
 refine cE (a:=none) (b:=none) MI MI MI MI MI KY ?_
 have bt8:=b8.bts (by omega)
 rw[hb8] at bt8
 refine am gz rfl rfl (gA h8 bt8 (by rintro _ a n c he;cases he;show g5≠g3;omega)) ?_
 rintro _ w9 ⟨q9,h9⟩
 have hpad:m++[128]++List.replicate (im m.length) 0++Br bits=fe m:=by rw[hbits];rfl
 rw[hpad] at h9
 have E9:=E8.of_new q9 hw3
 have B9:=B8.other q9 ne23
 refine ag (ab (af (aa ?_)))
 obtain⟨g7,w10,hr,n7,x10,b10⟩:=aY (P:=Tryz.prog) (w:=w9) (l:=(fK (kT m) 32 0).map U8) iq rfl
 refine aV MI hr (ag (ab ?_))
 obtain⟨blk9,hc9,_⟩:=h9.ext x10
 have l37:g3<g7:=Nat.lt_of_lt_of_le h9.lt n7
 have ne27:some g2≠some g7:=fun h=>by cases h;omega
 have hs8:=Hs (fe m)
 have hdl:=dK m
 refine af (eW (fun _:Unit=>[(2,.pointer (some ⟨g2,0,none⟩)),(7,.pointer (some ⟨g7,0,none⟩))]) (fun _ w'=>w10.grownBy w' (some g7)∧ci g7 24 ((kT m).map U8) w') ?_ ?_)
 ·refine af (aa ?_)
  refine ah MI MI Jf ?_
  refine ak MI MI hc9.ldS ?_
  refine ae MI MI (ag (ab (aF ?_)))
  refine cg (α:=Nat) (fun i=>[(2,.pointer (some ⟨g2,0,none⟩)),(7,.pointer (some ⟨g7,0,none⟩)),(42,.agg ((sh (fe m)).map bH).toArray),(43,I (i:Int))])
   (fun i w'=>w10.grownBy w' (some g7)∧ci g7 24 ((fK (kT m) 32 (4*i)).map U8) w'∧i≤8) (fun i=>8-i) 0 ⟨rfl,rfl,rfl,rfl,trivial⟩
   ⟨dH (aK.refl _),b10,by omega⟩ ?_
  rintro i w11 ⟨q11,b11,hi⟩
  refine af (aa ?_)
  refine al MI MI MI (a9) ?_
  refine ag (ab (af ?_))
  refine bw MI (fun h=>?_) (fun h=>?_)
  ·have hi8:i<8:=by omega
   have e0:(4:Int)*(i:Int)=((4*i:Nat):Int):=by omega
   have e1:((4*i:Nat):Int)+1=((4*i+1:Nat):Int):=by omega
   have e2:((4*i:Nat):Int)+2=((4*i+2:Nat):Int):=by omega
   have e3:((4*i:Nat):Int)+3=((4*i+3:Nat):Int):=by omega
   have s0:=kt (j:=4*i) hdl (by omega)
   have s1:=kt (j:=4*i+1) hdl (by omega)
   have s2:=kt (j:=4*i+2) hdl (by omega)
   have s3:=kt (j:=4*i+3) hdl (by omega)
   refine aA (ab (af (aF (af (aa (ae MI MI ?_))))))
   refine mW MI MI MI (GI (l:=(sh (fe m)).map bH) MC eI Ma hi8 .i64 (wU (by omega))) ?_
   refine ac MI MI (ac MI MI (ag (ab (aa (ae MI MI ?_)))))
   refine al (r:=I ((4*i:Nat):Int)) MI MI MI (by rw[←e0];exact fB (by omega) (by omega)) ?_
   refine ae MI MI ?_
   refine al (r:=I ((4*i:Nat):Int)) MI MI MI (by rw[←e0];exact fB (by omega) (by omega)) ?_
   refine al (r:=I ((4*i+1:Nat):Int)) MI MI MI (by rw[←e1];exact aN (by omega) (by omega)) ?_
   refine ae MI MI ?_
   refine al (r:=I ((4*i:Nat):Int)) MI MI MI (by rw[←e0];exact fB (by omega) (by omega)) ?_
   refine al (r:=I ((4*i+2:Nat):Int)) MI MI MI (by rw[←e2];exact aN (by omega) (by omega)) ?_
   refine ae MI MI ?_
   refine al (r:=I ((4*i:Nat):Int)) MI MI MI (by rw[←e0];exact fB (by omega) (by omega)) ?_
   refine al (r:=I ((4*i+3:Nat):Int)) MI MI MI (by rw[←e3];exact aN (by omega) (by omega)) ?_
   refine ae MI MI ?_
   refine al MI MI MI (cV 24 (by omega)) ?_
   refine aZ MI MI (ej Ma Mh) ?_
   refine ae MI MI ?_
   refine al MI MI MI (cV 16 (by omega)) ?_
   refine aZ MI MI (ej Ma Mh) ?_
   refine ae MI MI ?_
   refine al MI MI MI (cV 8 (by omega)) ?_
   refine aZ MI MI (ej Ma Mh) ?_
   refine ae MI MI ?_
   refine aZ MI MI (ej Ma Mh) ?_
   have d0:(kT m).getD (4*i) 0=((sh (fe m)).getD i 0>>>UInt32.ofNat 24).toUInt8:=mD (sh (fe m)) i 0 (by omega) (by omega)
   have d1:(kT m).getD (4*i+1) 0=((sh (fe m)).getD i 0>>>UInt32.ofNat 16).toUInt8:=mD (sh (fe m)) i 1 (by omega) (by omega)
   have d2:(kT m).getD (4*i+2) 0=((sh (fe m)).getD i 0>>>UInt32.ofNat 8).toUInt8:=mD (sh (fe m)) i 2 (by omega) (by omega)
   have d3:(kT m).getD (4*i+3) 0=((sh (fe m)).getD i 0).toUInt8:=by
    have:=mD (sh (fe m)) i 3 (by omega) (by omega)
    rw[show UInt32.ofNat (24-8*3)=0 from rfl,UInt32.shiftRight_zero] at this
    exact this
   have f0:(fK (kT m) 32 (4*i)).set (4*i) ((kT m).getD (4*i) 0)=fK (kT m) 32 (4*i+1):=ku hdl (by omega)
   have f1:(fK (kT m) 32 (4*i+1)).set (4*i+1) ((kT m).getD (4*i+1) 0)=fK (kT m) 32 (4*i+2):=ku hdl (by omega)
   have f2:(fK (kT m) 32 (4*i+2)).set (4*i+2) ((kT m).getD (4*i+2) 0)=fK (kT m) 32 (4*i+3):=ku hdl (by omega)
   have f3:(fK (kT m) 32 (4*i+3)).set (4*i+3) ((kT m).getD (4*i+3) 0)=fK (kT m) 32 (4*(i+1)):=ku hdl (by omega)
   rw[d0] at f0
   rw[d1] at f1
   rw[d2] at f2
   rw[d3] at f3
   refine av MI MI MI (wT (4*i) (by omega)) ?_
   refine ar MI MI (yD b11 (4*i) (by omega)) ?_
   have b12:=b11.setB (4*i) ((sh (fe m)).getD i 0>>>UInt32.ofNat 24).toUInt8
   rw[f0] at b12
   refine av MI MI MI (wT (4*i+1) (by omega)) ?_
   refine ar MI MI (yD b12 (4*i+1) (by omega)) ?_
   have b13:=b12.setB (4*i+1) ((sh (fe m)).getD i 0>>>UInt32.ofNat 16).toUInt8
   rw[f1] at b13
   refine av MI MI MI (wT (4*i+2) (by omega)) ?_
   refine ar MI MI (yD b13 (4*i+2) (by omega)) ?_
   have b14:=b13.setB (4*i+2) ((sh (fe m)).getD i 0>>>UInt32.ofNat 8).toUInt8
   rw[f2] at b14
   refine av MI MI MI (wT (4*i+3) (by omega)) ?_
   refine ar MI MI (yD b14 (4*i+3) (by omega)) ?_
   have b15:=b14.setB (4*i+3) ((sh (fe m)).getD i 0).toUInt8
   rw[f3] at b15
   refine ag (aS (ab (aa ?_)))
   refine al MI MI MI (aN (by omega) (by omega)) ?_
   refine ae MI MI (ag ?_)
   exact bR (i+1) ⟨rfl,rfl,rfl,rfl,trivial⟩ ⟨(((q11.trans (bi _ g7 (4*i) _)).trans (bi _ g7 (4*i+1) _)).trans (bi _ g7 (4*i+2) _)).trans (bi _ g7 (4*i+3) _),b15,by omega⟩ (by omega)
  ·have hi':i=8:=by omega
   subst hi'
   rw[show 4*8=32 from rfl,tO hdl] at b11
   exact bc (aJ (aJ (bf (ck () ⟨rfl,rfl,trivial⟩ ⟨q11,b11⟩))))
 rintro _ w11 ⟨q11,b11⟩
 have hsz:(Tryz.prog.info? 24).map (·.size)=some ((kT m).map U8).length:=by rw[List.length_map,dK];exact ir
 have F2:=(B9.ext x10).other q11 ne27
 have E11:aK w w11:=(E9.trans x10).of_new q11 (by omega)
 refine ab (af (aa ?_))
 refine ak MI MI (oh (m:=(kT m).map U8) b11 (fun j v h=>by rwa [Nat.zero_add]) Mo MI hsz) ?_
 refine ar MI MI (jO F2 (by simp[dK]) hsz (su _)) ?_
 refine ag (ab (aw ?_))
 refine dt MI MI (F2.row _) Mo MI hsz ?_
 exact⟨_,rfl,E11.of_new (bK _ _ _) n2,rfl⟩
end Go.Rl
namespace Go.Rl
open Go.RowKit Go.Proofs
theorem wV {P:Program} {w:World} {e:TypeId} (he:P.underlying e=some (.int .u8)) (d:Nat) (l m:List UInt8):∀(is:List Nat),(∀i∈is,i<l.length∧i<m.length)→
 (Op.eqItems (d+1) e 1 (l.map U8).toArray (m.map U8).toArray is).run P w=.ok (is.all fun i=>decide (l.getD i 0=m.getD i 0)) w
 |[],_=>rfl
 |i::is,h=>by
  obtain⟨hi,hj⟩:=h i (by simp)
  have hagg:(isAgg e).run P w=.ok false w:=by simp[isAgg,run_underlying he]
  have hpart:(part e (l.map U8).toArray (i*1)).run P w=.ok (U8 l[i]) w:=by simp[part,hagg,hi]
  have hpart':(part e (m.map U8).toArray (i*1)).run P w=.ok (U8 m[i]) w:=by simp[part,hagg,hj]
  have heq:(Op.equalIn (d+1) e (U8 l[i]) (U8 m[i])).run P w=.ok (decide (l[i]=m[i])) w:=by
   have:(decide ((l[i].toNat:Int)=(m[i].toNat:Int)))=decide (l[i]=m[i]):=by
    rw[decide_eq_decide]
    constructor
    ·intro h;exact UInt8.toNat_inj.1 (by omega)
    ·intro h;rw[h]
   rw[←this]
   simp[Op.equalIn,run_underlying he,U8]
   rfl
  have ih:=wV (w:=w) he d l m is fun j hj=>h j (by simp[hj])
  unfold Op.eqItems
  simp only[Sem.run_bind,hpart,hpart',Result.andThen_ok,heq]
  have e1:l.getD i 0=l[i]:=by simp[List.getD,hi]
  have e2:m.getD i 0=m[i]:=by simp[List.getD,hj]
  by_cases hq:l[i]=m[i]
  ·simp only[List.all_cons,e1,e2,hq,decide_true,Bool.true_and]
   simpa using ih
  ·simp only[List.all_cons,e1,e2,hq,decide_false,Bool.false_and]
   rfl
theorem FW {l m:List UInt8} {n:Nat} (hl:l.length=n) (hm:m.length=n):((List.range n).all fun i=>decide (l.getD i 0=m.getD i 0))=decide (l=m):=by
 rw[Bool.eq_iff_iff]
 simp only[List.all_eq_true,List.mem_range,decide_eq_true_eq]
 constructor
 ·intro h
  refine List.ext_getElem (by omega) fun i h1 h2=>?_
  have:=h i (by omega)
  simpa [List.getD,h1,h2] using this
 ·rintro rfl i _;rfl
theorem BF {P:Program} {w:World} {t:TypeId} {x y:Operand} {a b:Array Value} (hg:P.eqGuardType P.depth t=false):(bin .eql t x y (.agg a) (.agg b)).run P w=(do pure (Value.bool (←Op.equal t (.agg a) (.agg b))):Sem Value).run P w:=by
 show(do eqGuard .eql t x y (.agg a) (.agg b);binOp .eql t (.agg a) (.agg b):Sem Value).run P w=_
 rw[Sem.run_bind,run_eqGuard_agg (hm:=hg)]
 rfl
theorem BG {P:Program} {w:World} {t:TypeId} {x y:Operand} {a b:Array Value} (hg:P.eqGuardType P.depth t=false):(bin .neq t x y (.agg a) (.agg b)).run P w=(do pure (Value.bool (!(←Op.equal t (.agg a) (.agg b)))):Sem Value).run P w:=by
 show(do eqGuard .neq t x y (.agg a) (.agg b);binOp .neq t (.agg a) (.agg b):Sem Value).run P w=_
 rw[Sem.run_bind,run_eqGuard_agg (hm:=hg)]
 rfl
theorem Jk:Tryz.prog.eqGuardType Tryz.prog.depth 24=false:=by kernel_rfl
theorem Jl {w:World} {l m:List UInt8} (hl:l.length=32) (hm:m.length=32):(Op.equal 24 (.agg (l.map U8).toArray) (.agg (m.map U8).toArray)).run Tryz.prog w=.ok (decide (l=m)) w:=by
 show(Op.equalIn (9998+1+1) 24 _ _).run Tryz.prog w=_
 obtain⟨i,hi,_⟩:=info_parts rO
 rw[run_equalIn_array _ _ _ _ Mo hi]
 have hc:Tryz.prog.cellsOf 5=1:=by kernel_rfl
 rw[hc,wV Tryz.underlying5 9998 l m _ fun i hi=>by rw[hl,hm];simpa using hi]
 rw[FW hl hm]
theorem LT {w:World} {x y:Operand} {l m:List UInt8} (hl:l.length=32) (hm:m.length=32):(bin .eql 24 x y (.agg (l.map U8).toArray) (.agg (m.map U8).toArray)).run Tryz.prog w=.ok (B (decide (l=m))) w:=by
 rw[BF Jk,Sem.run_bind,Jl hl hm];rfl
theorem HY {w:World} {x y:Operand} {l:List UInt8} (hl:l.length=32):(bin .eql 24 x y (.agg (l.map U8).toArray) (.agg (l.map U8).toArray)).run Tryz.prog w=.ok (B true) w:=by
 rw[LT hl hl];simp
theorem FX:aG Tryz.prog 52:=⟨_,Tryz.func52,by kernel_rfl,rfl⟩
theorem cz.old {l:List UInt8} {v:Value} {w:World} (h:cz l v w) {g:Nat} (hg:w.heap.size≤g):0<l.length→Ac g v:=fun h0 a n c he=>by
 obtain⟨A,n',c',rfl,h1,h2,h3,h4,h5⟩:=h
 have hn:l.length=n':=by simpa using h3
 obtain⟨ad,rfl,hc⟩:=h4 (by omega)
 simp only[Value.slice.injEq,Option.some.injEq] at he
 obtain⟨rfl,_,_⟩:=he
 have h6:=hc 0 (U8 l[0]) (by simp[h0])
 rw[jw] at h6
 have:ad.block<w.heap.size:=by
  rcases Nat.lt_or_ge ad.block w.heap.size with h7|h7
  ·exact h7
  ·simp[World.cell?,Array.getElem?_eq_none h7] at h6
 omega
end Go.Rl
namespace Go.Rl
open Go.RowKit Go.Proofs
theorem FY {w:World} {l:List UInt8} {v:Value} (hv:cz l v w):
 Calls Tryz.prog 52 #[v] w (bE fun r w'=>aK w w'∧r=.agg ((kT l).map U8).toArray):=by
 refine enter (vs:=[v]) Tryz.func52 MI MI MI ?_
 obtain⟨g2,w1,hr,n2,x1,b2⟩:=aY (P:=Tryz.prog) (w:=w) (l:=(List.replicate 32 0).map U8) iq rfl
 refine af (aa (aV MI hr (ag (ab (af (aa ?_))))))
 refine am (vs:=[]) yF MI MI (yG w1) ?_
 rintro _ w2 ⟨x2,g,hg,rfl,hA⟩
 refine ac MI MI (ag (ab (af (aa (ae MI MI (ae MI MI ?_))))))
 have e2:=x1.trans x2
 refine am gz MI MI (gA hA (hv.ext e2) (hv.old (Nat.le_trans x1.size hg))) ?_
 rintro _ w3 ⟨q3,h3⟩
 rw[List.nil_append,UInt64.zero_add] at h3
 have l2:g2<g:=Nat.lt_of_lt_of_le b2.lt hg
 have hwg:w.heap.size≤g:=by omega
 have e3:=e2.of_new q3 hwg
 have B3:=(b2.ext x2).other q3 (fun h=>by cases h;omega)
 refine ag (ab (af (aa (ae MI MI ?_))))
 refine am yH MI MI (yI h3) ?_
 rintro _ w4 ⟨x4,rfl⟩
 have hsz:(Tryz.prog.info? 24).map (·.size)=some ((kT l).map U8).length:=by rw[List.length_map,dK];exact ir
 have B4:=B3.ext x4
 refine ar MI MI (jO B4 (by simp[dK]) hsz (su _)) ?_
 refine ag (ab (aw ?_))
 refine dt MI MI (B4.row _) Mo MI hsz ?_
 exact⟨_,rfl,(e3.trans x4).of_new (bK _ _ _) n2,rfl⟩
end Go.Rl
namespace Go.Rl
open Go.RowKit
def pJ:List UInt8:=List.replicate 32 0
theorem BH {α:Type} {p:α→Bool} {l:List α} {i:Nat} (hi:i<l.length):(l.drop i).all p=(p l[i]&&(l.drop (i+1)).all p):=by
 rw[List.drop_eq_getElem_cons hi];rfl
end Go.Rl
namespace Go.Rl
open Go.RowKit
end Go.Rl
namespace Go.Rl
open Go.RowKit Go.Proofs
theorem Et {w:World} {l:List UInt8} {v:Value} (h:cz l v w) (hl:l.length=32):∃ad,(∀w':World,(Instr.arrayAt 24 v).run Tryz.prog w'=.ok (.pointer (some ad)) w')∧eE w ad (l.map U8):=by
 obtain⟨A,n,c,rfl,h1,h2,h3,h4,h5⟩:=h
 have hn:n=32:=by simp at h3;omega
 subst hn
 obtain⟨ad,rfl,hc⟩:=h4 (by omega)
 exact⟨ad,fun w'=>by simp[Instr.arrayAt,run_underlying Tryz.underlying24],hc⟩
theorem uP {w:World} {l:List UInt8} {ad:Addr} (h:eE w ad (l.map U8)) (hl:l.length=32):(Instr.loadAt 24 (.pointer (some ad))).run Tryz.prog w=.ok (.agg (l.map U8).toArray) w:=
 h.ld Mo rfl (by rw[List.length_map,hl];exact ir)
end Go.Rl
namespace Go.Rl
open Go.RowKit Go.Proofs
theorem ur:aG Tryz.prog 71:=⟨_,Tryz.func71,by kernel_rfl,rfl⟩
theorem C6:aG Tryz.prog 70:=⟨_,Tryz.func70,by kernel_rfl,rfl⟩
theorem BI:aG Tryz.prog 27:=⟨_,Tryz.func27,by kernel_rfl,rfl⟩
section
variable {w:World}
theorem eE.ldO {P:Program} {t:TypeId} {d:TypeDesc} {ad:Addr} {cs ms:List Value} {o:Nat} (h:eE w ad cs) (hm:∀j v,ms[j]? =some v→cs[o+j]? =some v) (ht:P.underlying t=some d) (hd:d.isRow=true) (hz:(P.info? t).map (·.size)=some ms.length):(Instr.loadAt t (.pointer (some (ad.add o)))).run P w=.ok (.agg ms.toArray) w:=
 eE.ld (ad:=ad.add o) (fun j u hu=>by rw[zi];exact h (o+j) u (hm j u hu)) ht hd hz
end
theorem Eu {P:Program} {w:World} {x y:Operand} {t:TypeId} (ht:P.underlying t=some .bool) {a b:Bool}:(bin .neq t x y (B a) (B b)).run P w=.ok (B (decide (a≠b))) w:=by
 have h:(Op.equal t (B a) (B b)).run P w=.ok (decide (a=b)) w:=by
  show(Op.equalIn (9999+1) t (.bool a) (.bool b)).run P w=_
  unfold Op.equalIn
  cases a<;>cases b<;>simp[run_underlying ht]
 show(do pure (Value.bool (!(←Op.equal t (B a) (B b)))):Sem Value).run P w=_
 rw[Sem.run_bind,h]
 show Result.ok (Value.bool (!decide (a=b))) w=_
 rw[←decide_not];rfl
theorem HZ:Tryz.prog.eqGuardType Tryz.prog.depth 185=false:=by kernel_rfl
theorem Jm {w:World} {x y:Operand} {a b c d:Int}:(bin .neq 185 x y (.agg #[I a,I b,I c,I d]) (.agg #[I a,I b,I c,I d])).run Tryz.prog w=.ok (B false) w:=by
 have h:(Op.equal 185 (.agg #[I a,I b,I c,I d]) (.agg #[I a,I b,I c,I d])).run Tryz.prog w=.ok true w:=by
  show(Op.equalIn (9999+1) 185 _ _).run Tryz.prog w=_
  rw[run_equalIn_struct w 9999 185 _ _ (by kernel_rfl) (by kernel_rfl)]
  simp only[Program.fieldsOf,Tryz.underlying185]
  simp[Op.eqFields,part,I,Tryz.underlying3,run_equalIn_int _ 9998 3 .i64 .i64]
 rw[BG HZ,Sem.run_bind,h];rfl
theorem ut {w:World} {l:List cb} {v u:Value} (hv:cA bN l v w) (hu:cA bN l u w):
 Calls Tryz.prog 71 #[v,u] w (bE fun r w'=>aK w w'∧r=B true):=by
 refine enter (vs:=[v,u]) Tryz.func71 MI MI MI ?_
 have hll:=hv.len
 refine af (aa (ac MI MI (ag (ab (af (af (aa (ae MI MI (aP MI MI (bg Mm hv) (ae MI MI (aP MI MI (bg Mm hu) ?_)))))))))))
 refine al MI MI MI (dm (fun h=>h MI) cT) (ag (ab (cq MI (aA (ab (af (af (aa (ac MI MI (ag (ab (aF ?_))))))))))))
 refine cg (α:=Nat) (fun x=>[(0,v),(1,u),(5,I (x:Int))]) (fun x w'=>aK w w'∧x≤l.length) (fun x=>l.length-x) (0) ⟨rfl,rfl,rfl,trivial⟩ ⟨aK.refl _,by omega⟩ ?_
 rintro i w4 ⟨e4,hi⟩
 refine af (af (aa (ae MI MI (ae MI MI (aP MI MI (bg Mm (hv.ext e4)) (al MI MI MI (a9) (ag (ab ?_))))))))
 refine bw MI (fun h14=>?_) (fun h14=>?_)
 ·refine aA (ab (af (aF (af (bP 24 [0,1,5,28,40] (by kernel_rfl) (by kernel_rfl) ?_)))))
  refine aC MI MI (aC MI MI ?_)
  obtain⟨a19,c19,p19,q19,h19⟩:=bZ (P:=Tryz.prog) (sz:=7) Mm (by kernel_rfl) dA (by omega) (hv.ext e4) (i:=i) (by omega) .i64
  obtain⟨e19,he19⟩:∃e,e=l[i]'(by omega):=⟨_,rfl⟩
  rw[←he19] at h19
  obtain⟨x19_0,x19_1,rfl,f19_0,f19_1⟩:=gM h19
  refine aE rfl rfl rfl (fun w _=>p19 w) (aT rfl rfl (fun w hw=>gR (o:=0) Tryz.underlying187 rfl (by kernel_rfl) rfl) (aO rfl rfl (fun w hw=>(q19.ext hw).ldO (ms:=[I e19.kd,I e19.ix,I e19.lo,I e19.hi]) (o:=0) (fun j v hj=>by rcases j with _|_|_|_|_|_|_|_|_|j<;>simp_all) Tryz.underlying185 rfl (by kernel_rfl)) ?_))
  refine aC MI MI (aC MI MI ?_)
  obtain⟨a24,c24,p24,q24,h24⟩:=bZ (P:=Tryz.prog) (sz:=7) Mm (by kernel_rfl) dA (by omega) (hu.ext e4) (i:=i) (by omega) .i64
  rw[←he19] at h24
  obtain⟨x24_0,x24_1,rfl,f24_0,f24_1⟩:=gM h24
  refine aE rfl rfl rfl (fun w _=>p24 w) (aT rfl rfl (fun w hw=>gR (o:=0) Tryz.underlying187 rfl (by kernel_rfl) rfl) (aO rfl rfl (fun w hw=>(q24.ext hw).ldO (ms:=[I e19.kd,I e19.ix,I e19.lo,I e19.hi]) (o:=0) (fun j v hj=>by rcases j with _|_|_|_|_|_|_|_|_|j<;>simp_all) Tryz.underlying185 rfl (by kernel_rfl)) ?_))
  refine ba MI MI MI (fun w _=>Jm) (aC MI MI (bJ MI MI (aC MI MI (bJ MI MI (aC MI MI (bJ MI MI ?_))))))
  obtain⟨a31,c31,p31,q31,h31⟩:=bZ (P:=Tryz.prog) (sz:=7) Mm (by kernel_rfl) dA (by omega) (hv.ext e4) (i:=i) (by omega) .i64
  rw[←he19] at h31
  obtain⟨x31_0,x31_1,rfl,f31_0,f31_1⟩:=gM h31
  refine aE MI MI MI (fun w _=>p31 w) (bJ MI MI (aT MI MI (fun w hw=>gR (o:=4) Mt MI (by kernel_rfl) MI) ?_))
  refine bJ rfl rfl (aO rfl rfl (fun w hw=>(q31.ext hw).ldO (ms:=[B e19.co.1,x31_0,x31_1]) (o:=4) (fun j v hj=>by rcases j with _|_|_|_|_|_|_|_|_|j<;>simp_all) Tryz.underlying46 rfl (by kernel_rfl)) ?_)
  refine bJ MI MI (aC MI MI (bJ MI MI (aC MI MI (bJ MI MI ?_))))
  obtain⟨a36,c36,p36,q36,h36⟩:=bZ (P:=Tryz.prog) (sz:=7) Mm (by kernel_rfl) dA (by omega) (hu.ext e4) (i:=i) (by omega) .i64
  rw[←he19] at h36
  obtain⟨x36_0,x36_1,rfl,f36_0,f36_1⟩:=gM h36
  refine aE MI MI MI (fun w _=>p36 w) (bJ MI MI (aT MI MI (fun w hw=>gR (o:=4) Mt MI (by kernel_rfl) MI) ?_))
  refine bJ rfl rfl (aO rfl rfl (fun w hw=>(q36.ext hw).ldO (ms:=[B e19.co.1,x36_0,x36_1]) (o:=4) (fun j v hj=>by rcases j with _|_|_|_|_|_|_|_|_|j<;>simp_all) Tryz.underlying46 rfl (by kernel_rfl)) ?_)
  refine bJ rfl rfl (cm (S:=Is (B true)) nq (ca.is _) rfl (fun w hw=>by rintro _ rfl _ rfl;exact bE.mono (CZ (a:=e19.co) (b:=e19.co) (f31_0.ext hw) (f31_1.ext hw) (f36_0.ext hw) (f36_1.ext hw)) fun v w' h=>⟨h.1,by rw[h.2,decide_eq_true rfl];rfl⟩) ?_)
  refine bJ MI MI (u5 MI MI (fun w _=>bu) (cp ?_))
  intro wg6 xg6
  rintro _ hq0
  obtain rfl:=Eq.symm hq0
  rintro _ hq1
  obtain rfl:=Eq.symm hq1
  rintro _ rfl
  rintro _ rfl
  rintro _ rfl
  refine aD MI MI MI (ag (ab (cq MI (aA (aS (ab (aa (ae MI MI (al (r:=I ((i+1:Nat):Int)) MI MI MI (by have e:((i+1:Nat):Int)=(i:Int)+1:=(by omega);rw[e];exact aN (by omega) (by omega)) ?_)))))))))
  refine ac MI MI (ag ?_)
  refine bR (i+1) ⟨rfl,rfl,rfl,trivial⟩ ⟨(e4.trans xg6),by omega⟩ (by omega)
 ·refine bc (aJ (aJ (bf (ab (af (aa (ac MI MI (ag (ab (aw (az MI MI ?_)))))))))))
  exact⟨_,rfl,e4,rfl⟩
theorem BJ {w:World} {a:fi} {x y p q:Value} (ha:bm a.2.1 x w) (ha':bm a.2.2 y w) (hb:bm a.2.1 p w) (hb':bm a.2.2 q w):
 Calls Tryz.prog 105 #[.agg #[B a.1,x,y],.agg #[B a.1,p,q]] w (bE fun r w'=>aK w w'∧r=B true):=
 bE.mono (CZ (a:=a) (b:=a) ha ha' hb hb') fun v w' h=>⟨h.1,by rw[h.2,decide_eq_true rfl]⟩
theorem FZ {w:World} {a:bS} {x y p q:Value} (ha:bm a.at_.2.1 x w) (ha':bm a.at_.2.2 y w) (hb:bm a.at_.2.1 p w) (hb':bm a.at_.2.2 q w):
 Calls Tryz.prog 69 #[.agg #[I a.kd,I a.ix,B a.at_.1,x,y],.agg #[I a.kd,I a.ix,B a.at_.1,p,q]] w (bE fun r w'=>aK w w'∧r=B true):=
 bE.mono (tM (a:=a) (b:=a) ha ha' hb hb') fun v w' h=>⟨h.1,by rw[h.2,decide_eq_true rfl]⟩
set_option maxHeartbeats 2000000 in
theorem C7 {w:World} {l:List dI} {v u:Value} (hv:cA cY l v w) (hu:cA cY l u w):
 Calls Tryz.prog 70 #[v,u] w (bE fun r w'=>aK w w'∧r=B true):=by
 refine enter (vs:=[v,u]) Tryz.func70 MI MI MI ?_
 have hll:=hv.len
 refine af (aa (ac MI MI (ag (ab (af (af (aa (ae MI MI (aP MI MI (bg Ml hv) (ae MI MI (aP MI MI (bg Ml hu) ?_)))))))))))
 refine al MI MI MI (dm (fun h=>h MI) cT) (ag (ab (cq MI (aA (ab (af (af (aa (ac MI MI (ag (ab (aF ?_))))))))))))
 refine cg (α:=Nat) (fun x=>[(0,v),(1,u),(5,I (x:Int))]) (fun x w'=>aK w w'∧x≤l.length) (fun x=>l.length-x) (0) ⟨rfl,rfl,rfl,trivial⟩ ⟨aK.refl _,by omega⟩ ?_
 rintro i w4 ⟨e4,hi⟩
 refine af (af (aa (ae MI MI (ae MI MI (aP MI MI (bg Ml (hv.ext e4)) (al MI MI MI (a9) (ag (ab ?_))))))))
 refine bw MI (fun h14=>?_) (fun h14=>?_)
 ·refine aA (ab (af (aF (af (bP 51 [0,1,5,55,67] (by kernel_rfl) (by kernel_rfl) ?_)))))
  refine aC (S:=Is (v)) MI MI (aC (S:=Is (I (i:Int))) MI MI ?_)
  obtain⟨a19,c19,p19,q19,h19⟩:=bZ (P:=Tryz.prog) (sz:=6) Ml (by kernel_rfl) cx (by omega) (hv.ext e4) (i:=i) (by omega) .i64
  obtain⟨e19,he19⟩:∃e,e=l[i]'(by omega):=⟨_,rfl⟩
  rw[←he19] at h19
  obtain⟨x19_0,x19_1,x19_2,rfl,f19_0,f19_1,f19_2⟩:=fF h19
  refine aE MI MI MI (fun w _=>p19 w) (aT MI MI (fun w hw=>gR (o:=0) Mn MI (by kernel_rfl) MI) ?_)
  refine aO MI MI (fun w hw=>ai Me MI (hw.cell_some (q19.at (j:=0) MI))) (aC (S:=Is (u)) MI MI (aC (S:=Is (I (i:Int))) MI MI ?_))
  obtain⟨a24,c24,p24,q24,h24⟩:=bZ (P:=Tryz.prog) (sz:=6) Ml (by kernel_rfl) cx (by omega) (hu.ext e4) (i:=i) (by omega) .i64
  rw[←he19] at h24
  obtain⟨x24_0,x24_1,x24_2,rfl,f24_0,f24_1,f24_2⟩:=fF h24
  refine aE MI MI MI (fun w _=>p24 w) (aT MI MI (fun w hw=>gR (o:=0) Mn MI (by kernel_rfl) MI) ?_)
  refine aO MI MI (fun w hw=>ai Me MI (hw.cell_some (q24.at (j:=0) MI))) (ba MI MI MI (fun w _=>dm (fun h=>h MI) cT) ?_)
  refine aC (S:=Is (B false)) MI MI (bJ MI MI (aC (S:=Is (v)) MI MI (bJ MI MI (aC (S:=Is (I (i:Int))) MI MI (bJ MI MI (aE MI MI MI (fun w _=>p19 w) ?_))))))
  refine bJ MI MI (aT MI MI (fun w hw=>gR (o:=1) Mn MI (by kernel_rfl) MI) (bJ MI MI (aO MI MI (fun w hw=>ai Mi MI (hw.cell_some (q19.at (j:=1) MI))) ?_)))
  refine bJ MI MI (aC (S:=Is (u)) MI MI (bJ MI MI (aC (S:=Is (I (i:Int))) MI MI (bJ MI MI (aE MI MI MI (fun w _=>p24 w) (bJ MI MI ?_))))))
  refine aT MI MI (fun w hw=>gR (o:=1) Mn MI (by kernel_rfl) MI) (bJ MI MI (aO MI MI (fun w hw=>ai Mi MI (hw.cell_some (q24.at (j:=1) MI))) ?_))
  refine bJ MI MI (ba MI MI MI (fun w _=>dm (fun h=>h MI) (Eu Mi)) (u4 (S:=Is (B false)) MI MI MI (aC (S:=Is (B false)) MI MI ?_)))
  refine bJ MI MI (aC (S:=Is (v)) MI MI (bJ MI MI (aC (S:=Is (I (i:Int))) MI MI (bJ MI MI (aE MI MI MI (fun w _=>p19 w) (bJ MI MI ?_))))))
  refine aT rfl rfl (fun w hw=>gR (o:=2) Tryz.underlying173 rfl (by kernel_rfl) rfl) (bJ rfl rfl (aO rfl rfl (fun w hw=>(q19.ext hw).ldO (ms:=[B e19.va.1,x19_0,x19_1]) (o:=2) (fun j v hj=>by rcases j with _|_|_|_|_|_|_|_|_|j<;>simp_all) Tryz.underlying46 rfl (by kernel_rfl)) ?_))
  refine bJ MI MI (aC (S:=Is (u)) MI MI (bJ MI MI (aC (S:=Is (I (i:Int))) MI MI (bJ MI MI (aE MI MI MI (fun w _=>p24 w) (bJ MI MI ?_))))))
  refine aT rfl rfl (fun w hw=>gR (o:=2) Tryz.underlying173 rfl (by kernel_rfl) rfl) (bJ rfl rfl (aO rfl rfl (fun w hw=>(q24.ext hw).ldO (ms:=[B e19.va.1,x24_0,x24_1]) (o:=2) (fun j v hj=>by rcases j with _|_|_|_|_|_|_|_|_|j<;>simp_all) Tryz.underlying46 rfl (by kernel_rfl)) ?_))
  refine bJ rfl rfl (cm (S:=Is (B true)) nq (ca.is _) rfl (fun w hw=>by rintro _ rfl _ rfl;exact BJ (a:=e19.va) (f19_0.ext hw) (f19_1.ext hw) (f24_0.ext hw) (f24_1.ext hw)) ?_)
  refine bJ MI MI (u5 MI MI (fun w _=>bu) (u4 (S:=Is (B false)) MI MI MI (aC (S:=Is (B false)) MI MI (bJ MI MI (aC (S:=Is (v)) MI MI ?_)))))
  refine bJ MI MI (aC (S:=Is (I (i:Int))) MI MI (bJ MI MI (aE MI MI MI (fun w _=>p19 w) (bJ MI MI (aT MI MI (fun w hw=>gR (o:=5) Mn MI (by kernel_rfl) MI) ?_)))))
  refine bJ MI MI (aO MI MI (fun w hw=>ai Mm MI (hw.cell_some (q19.at (j:=5) MI))) (bJ MI MI (aC (S:=Is (u)) MI MI ?_)))
  refine bJ MI MI (aC (S:=Is (I (i:Int))) MI MI (bJ MI MI (aE MI MI MI (fun w _=>p24 w) (bJ MI MI (aT MI MI (fun w hw=>gR (o:=5) Mn MI (by kernel_rfl) MI) ?_)))))
  refine bJ rfl rfl (aO rfl rfl (fun w hw=>ai Mm rfl (hw.cell_some (q24.at (j:=5) rfl))) (bJ rfl rfl (cm (S:=Is (B true)) ur (ca.is _) rfl (fun w hw=>by rintro _ rfl _ rfl;exact ut (l:=e19.pf) (f19_2.ext hw) (f24_2.ext hw)) ?_)))
  refine bJ MI MI (u5 MI MI (fun w _=>bu) (cp ?_))
  intro wg6 xg6
  rintro _ hq0
  obtain rfl:=Eq.symm hq0
  rintro _ hq1
  obtain rfl:=Eq.symm hq1
  rintro _ rfl
  rintro _ rfl
  rintro _ rfl
  refine aD MI MI MI (ag (ab (cq MI (aA (aS (ab (aa (ae MI MI (al (r:=I ((i+1:Nat):Int)) MI MI MI (by have e:((i+1:Nat):Int)=(i:Int)+1:=(by omega);rw[e];exact aN (by omega) (by omega)) ?_)))))))))
  refine ac MI MI (ag ?_)
  refine bR (i+1) ⟨rfl,rfl,rfl,trivial⟩ ⟨(e4.trans xg6),by omega⟩ (by omega)
 ·refine bc (aJ (aJ (bf (ab (af (aa (ac MI MI (ag (ab (aw (az MI MI ?_)))))))))))
  exact⟨_,rfl,e4,rfl⟩
theorem aW.lt_of_mem {n k:aW} (h:k∈n.kids):SizeOf.sizeOf k<SizeOf.sizeOf n:=by
 cases n with
 |mk l s ks e p=>
  have h:k∈ks:=h
  have:=List.sizeOf_lt_of_mem h
  simp only[aW.mk.sizeOf_spec]
  omega
theorem H0 {w:World} {n:aW} {vl x y vk vp ul p q uk up:Value} (ih:∀k∈n.kids,∀{w:World} {vl x y vk vp ul p q uk up:Value},cA cY k.lems vl w→bm k.split.at_.2.1 x w→bm k.split.at_.2.2 y w→cA bG k.kids vk w→cA bN k.pf vp w→cA cY k.lems ul w→bm k.split.at_.2.1 p w→bm k.split.at_.2.2 q w→cA bG k.kids uk w→cA bN k.pf up w→
 Calls Tryz.prog 27 #[.agg #[vl,I k.split.kd,I k.split.ix,B k.split.at_.1,x,y,vk,B k.empty,vp],.agg #[ul,I k.split.kd,I k.split.ix,B k.split.at_.1,p,q,uk,B k.empty,up]] w (bE fun r w'=>aK w w'∧r=B true))
 (hl:cA cY n.lems vl w) (hx:bm n.split.at_.2.1 x w) (hy:bm n.split.at_.2.2 y w) (hk:cA bG n.kids vk w) (hp:cA bN n.pf vp w) (hl':cA cY n.lems ul w) (hx':bm n.split.at_.2.1 p w) (hy':bm n.split.at_.2.2 q w) (hk':cA bG n.kids uk w) (hp':cA bN n.pf up w):
 Calls Tryz.prog 27 #[.agg #[vl,I n.split.kd,I n.split.ix,B n.split.at_.1,x,y,vk,B n.empty,vp],.agg #[ul,I n.split.kd,I n.split.ix,B n.split.at_.1,p,q,uk,B n.empty,up]] w (bE fun r w'=>aK w w'∧r=B true):=by
 refine enter (vs:=[.agg #[vl,I n.split.kd,I n.split.ix,B n.split.at_.1,x,y,vk,B n.empty,vp],.agg #[ul,I n.split.kd,I n.split.ix,B n.split.at_.1,p,q,uk,B n.empty,up]]) Tryz.func27 MI MI MI ?_
 have hll:=hk.len
 refine af (aa ?_)
 obtain⟨g2,w2,hr2,l2,x2,k2⟩:=cC (P:=Tryz.prog) (w:=w) (T:=52) (cs:=[vl,I n.split.kd,I n.split.ix,B n.split.at_.1,x,y,vk,B n.empty,vp])
 refine cG MI MI hr2 ?_
 obtain⟨g3,w3,hr3,l3,x3,k3⟩:=cC (P:=Tryz.prog) (w:=w2) (T:=52) (cs:=[ul,I n.split.kd,I n.split.ix,B n.split.at_.1,p,q,uk,B n.empty,up])
 refine cG MI MI hr3 (ac MI MI (ag (ab (af (af (aa (ah MI MI (aq (o:=7) L9 MI (by kernel_rfl) MI) ?_)))))))
 refine ak MI MI (ai Mi MI (x3.cell_some (k2.cell (i:=7) MI))) (ah MI MI (aq (o:=7) L9 MI (by kernel_rfl) MI) ?_)
 refine ak MI MI (ai Mi MI (k3.cell (i:=7) MI)) (al MI MI MI (dm (fun h=>h MI) (Eu Mi)) ?_)
 refine ae rfl rfl (aj rfl (ah rfl rfl (aq (o:=1) Tryz.underlying52 rfl (by kernel_rfl) rfl) (aj rfl (ak rfl rfl ((k2.ext x3).ldO (ms:=[I n.split.kd,I n.split.ix,B n.split.at_.1,x,y]) (o:=1) (fun j v hj=>by rcases j with _|_|_|_|_|_|_|_|_|j<;>simp_all) Tryz.underlying48 rfl (by kernel_rfl)) ?_))))
 refine aj rfl (ah rfl rfl (aq (o:=1) Tryz.underlying52 rfl (by kernel_rfl) rfl) (aj rfl (ak rfl rfl (k3.ldO (ms:=[I n.split.kd,I n.split.ix,B n.split.at_.1,p,q]) (o:=1) (fun j v hj=>by rcases j with _|_|_|_|_|_|_|_|_|j<;>simp_all) Tryz.underlying48 rfl (by kernel_rfl)) ?_)))
 refine aj MI (am tL MI MI ((FZ (a:=n.split) (hx.ext (x2.trans x3)) (hy.ext (x2.trans x3)) (hx'.ext (x2.trans x3)) (hy'.ext (x2.trans x3)))) ?_)
 rintro v16 w16 ⟨x16,rfl⟩
 refine aj MI (bt MI MI bu (aD MI MI MI (ae MI MI (aj MI (ah MI MI (aq (o:=0) L9 MI (by kernel_rfl) MI) ?_)))))
 refine aj MI (ak MI MI (ai Ml MI ((x3.trans x16).cell_some (k2.cell (i:=0) MI))) (aj MI (ah MI MI (aq (o:=0) L9 MI (by kernel_rfl) MI) ?_)))
 refine aj MI (ak MI MI (ai Ml MI (x16.cell_some (k3.cell (i:=0) MI))) (aj MI (am C6 MI MI ((C7 (hl.ext ((x2.trans x3).trans x16)) (hl'.ext ((x2.trans x3).trans x16)))) ?_)))
 rintro v24 w24 ⟨x24,rfl⟩
 refine aj MI (bt MI MI bu (aD MI MI MI (ae MI MI (aj MI (ah MI MI (aq (o:=8) L9 MI (by kernel_rfl) MI) ?_)))))
 refine aj MI (ak MI MI (ai Mm MI (((x3.trans x16).trans x24).cell_some (k2.cell (i:=8) MI))) (aj MI (ah MI MI (aq (o:=8) L9 MI (by kernel_rfl) MI) ?_)))
 refine aj MI (ak MI MI (ai Mm MI ((x16.trans x24).cell_some (k3.cell (i:=8) MI))) (aj MI (am ur MI MI ((ut (hp.ext (((x2.trans x3).trans x16).trans x24)) (hp'.ext (((x2.trans x3).trans x16).trans x24)))) ?_)))
 rintro v32 w32 ⟨x32,rfl⟩
 refine aj MI (bt MI MI bu (aD MI MI MI (ae MI MI (aj MI (ah MI MI (aq (o:=6) L9 MI (by kernel_rfl) MI) ?_)))))
 refine aj MI (ak MI MI (ai Mk MI ((((x3.trans x16).trans x24).trans x32).cell_some (k2.cell (i:=6) MI))) (aj MI (aP MI MI (bg Mk (hk.ext ((((x2.trans x3).trans x16).trans x24).trans x32))) ?_)))
 refine aj MI (ah MI MI (aq (o:=6) L9 MI (by kernel_rfl) MI) (aj MI (ak MI MI (ai Mk MI (((x16.trans x24).trans x32).cell_some (k3.cell (i:=6) MI))) ?_)))
 refine aj MI (aP MI MI (bg Mk (hk'.ext ((((x2.trans x3).trans x16).trans x24).trans x32))) (aj MI (al MI MI MI (dm (fun h=>h MI) cT) ?_)))
 refine aD MI MI MI (ag (ab (cq MI (aA (ab (af (af (aa (ac MI MI (ag (ab (aF ?_))))))))))))
 refine cg (α:=Nat) (fun x=>[(2,.pointer (some ⟨g2,0,none⟩)),(3,.pointer (some ⟨g3,0,none⟩)),(5,I (x:Int))]) (fun x w'=>aK w w'∧aK w32 w'∧x≤n.kids.length) (fun x=>n.kids.length-x) (0) ⟨rfl,rfl,rfl,trivial⟩ ⟨((((x2.trans x3).trans x16).trans x24).trans x32),aK.refl _,by omega⟩ ?_
 rintro i w4 ⟨e4,e10,hi⟩
 refine af (af (aa (ae MI MI (ah MI MI (aq (o:=6) L9 MI (by kernel_rfl) MI) (ak MI MI (ai Mk MI (((((x3.trans x16).trans x24).trans x32).trans e10).cell_some (k2.cell (i:=6) MI))) ?_)))))
 refine aP MI MI (bg Mk (hk.ext e4)) (al MI MI MI (a9) (ag (ab ?_)))
 refine bw MI (fun h48=>?_) (fun h48=>?_)
 ·refine aA (ab (af (aF (af (bP 11 [2,3,5,61] (by kernel_rfl) (by kernel_rfl) ?_)))))
  refine aT MI MI (fun w hw=>aq (o:=6) L9 MI (by kernel_rfl) MI) (aO MI MI (fun w hw=>ai Mk MI (hw.cell_some (((((x3.trans x16).trans x24).trans x32).trans e10).cell_some (k2.cell (i:=6) MI)))) ?_)
  refine aC MI MI ?_
  obtain⟨a54,c54,p54,q54,h54⟩:=bZ (P:=Tryz.prog) (sz:=9) Mk (by kernel_rfl) cw (by omega) (hk.ext e4) (i:=i) (by omega) .i64
  obtain⟨e54,he54⟩:∃e,e=n.kids[i]'(by omega):=⟨_,rfl⟩
  rw[←he54] at h54
  obtain⟨x54_0,x54_1,x54_2,x54_3,x54_4,rfl,f54_0,f54_1,f54_2,f54_3,f54_4⟩:=dW h54
  refine aE MI MI MI (fun w _=>p54 w) (aO MI MI (fun w hw=>(q54.ext hw).ld L9 MI (by kernel_rfl)) (aT MI MI (fun w hw=>aq (o:=6) L9 MI (by kernel_rfl) MI) ?_))
  refine aO MI MI (fun w hw=>ai Mk MI (hw.cell_some ((((x16.trans x24).trans x32).trans e10).cell_some (k3.cell (i:=6) MI)))) ?_
  refine aC MI MI ?_
  obtain⟨a59,c59,p59,q59,h59⟩:=bZ (P:=Tryz.prog) (sz:=9) Mk (by kernel_rfl) cw (by omega) (hk'.ext e4) (i:=i) (by omega) .i64
  rw[←he54] at h59
  obtain⟨x59_0,x59_1,x59_2,x59_3,x59_4,rfl,f59_0,f59_1,f59_2,f59_3,f59_4⟩:=dW h59
  refine aE rfl rfl rfl (fun w _=>p59 w) (aO rfl rfl (fun w hw=>(q59.ext hw).ld L9 rfl (by kernel_rfl)) (cm (S:=Is (B true)) BI (ca.is _) rfl (fun w hw=>by rintro _ rfl _ rfl;exact ih e54 (by rw[he54];exact List.getElem_mem _) (f54_0.ext hw) (f54_1.ext hw) (f54_2.ext hw) (f54_3.ext hw) (f54_4.ext hw) (f59_0.ext hw) (f59_1.ext hw) (f59_2.ext hw) (f59_3.ext hw) (f59_4.ext hw)) ?_))
  refine cp ?_
  intro wg6 xg6
  rintro _ rfl
  rintro _ rfl
  rintro _ rfl
  rintro _ rfl
  refine bt MI MI bu (ag (ab (cq MI (aA (aS (ab (aa (ae MI MI (al (r:=I ((i+1:Nat):Int)) MI MI MI (by have e:((i+1:Nat):Int)=(i:Int)+1:=(by omega);rw[e];exact aN (by omega) (by omega)) ?_)))))))))
  refine ac MI MI (ag ?_)
  refine bR (i+1) ⟨rfl,rfl,rfl,trivial⟩ ⟨(e4.trans xg6),(e10.trans xg6),by omega⟩ (by omega)
 ·refine bc (aJ (aJ (bf (ab (af (aa (ac MI MI (ag (ab (aw (az MI MI ?_)))))))))))
  exact⟨_,rfl,e4,rfl⟩
theorem BK:∀(m:Nat) {n:aW},SizeOf.sizeOf n≤m→∀{w:World} {vl x y vk vp ul p q uk up:Value},cA cY n.lems vl w→bm n.split.at_.2.1 x w→bm n.split.at_.2.2 y w→cA bG n.kids vk w→cA bN n.pf vp w→cA cY n.lems ul w→bm n.split.at_.2.1 p w→bm n.split.at_.2.2 q w→cA bG n.kids uk w→cA bN n.pf up w→
 Calls Tryz.prog 27 #[.agg #[vl,I n.split.kd,I n.split.ix,B n.split.at_.1,x,y,vk,B n.empty,vp],.agg #[ul,I n.split.kd,I n.split.ix,B n.split.at_.1,p,q,uk,B n.empty,up]] w (bE fun r w'=>aK w w'∧r=B true)
 |0,n,hm=>by cases n;simp at hm
 |m+1,n,hm=>fun h1 h2 h3 h4 h5 h6 h7 h8 h9 h10=>H0 (fun k hk _ _ _ _ _ _ _ _ _ _ _=>BK m (by have:=aW.lt_of_mem hk;omega)) h1 h2 h3 h4 h5 h6 h7 h8 h9 h10
end Go.Rl
namespace Go.Rl
open Go.RowKit Go.Proofs
def Ke (n d:Int):Bool:=decide (0<n∧n≤16384∧n%d=0)
def small (l:List fi):Prop:=∀q∈l,q.2.1.length≤1073741824∧q.2.2.length≤1073741824
def Kf (l:vS):Bool:=decide ((1≤l.kh∧l.kh≤64)∧(1≤l.kw∧l.kw≤64)∧(1≤l.sr∧l.sr≤64))
def H1 (l:vS):Bool:=decide ((l.ws.length:Int)=0∧(l.bs.length:Int)=0)
def H2 (l:vS):Bool:=decide (l.kh=0∧l.kw=0∧l.sr=0∧l.pd=0)
def LU (l:vS) (i:Int):Prop:=
 if l.kd=1 then H2 l=true∧l.fr=0∧(1≤l.ou∧l.ou≤16384)∧(l.bs.length:Int)=l.ou∧Ke l.ws.length l.ou=true
 else if l.kd=2 then Kf l=true∧l.fr=0∧l.pd≥0∧l.pd<l.kh∧l.pd<l.kw∧(1≤l.ou∧l.ou≤16384)∧(l.bs.length:Int)=l.ou∧Ke l.ws.length (l.ou*l.kh*l.kw)=true
 else if l.kd=3∨l.kd=4 then Kf l=true∧l.fr=0∧l.pd=0∧l.ou=0∧H1 l=true
 else if l.kd=5∨l.kd=6 then H2 l=true∧l.fr=0∧l.ou=0∧H1 l=true
 else if l.kd=7 then H2 l=true∧(-1≤l.fr∧l.fr≤i-1)∧l.ou=0∧H1 l=true
 else False
instance (l:vS) (i:Int):Decidable (LU l i):=by unfold LU;infer_instance
end Go.Rl
namespace Go.Rl
open Go.RowKit Go.Proofs
end Go.Rl
namespace Go.Rl
open Go.RowKit Go.Proofs
end Go.Rl
namespace Go.Rl
open Go.RowKit
section
variable {P:Program} {ops:Array Oper} {Env:World→Prop} {Rl:World→World→Prop} {mo:Bool} {Pn:List PanicEntry→World→Prop} {N:Nat}
def Ev (ops:Array Oper) (n:Nat):Bool:=
 (List.range n).all fun i=>decide (i=0)||(List.range (n+1)).any fun j=>decide (i<j)&&Region.waitsFor .any ops j i
theorem BL {n:Nat} {listed:Array Bool} (hs:Ev ops n=true) (hc:zO ops n=true) (inv:HeadInv .any ops n listed):
 ∀(d i:Nat),n-i=d→0<i→i<n→listed.getD i true=false→∀t,n≤t→t∉Region.ready .any ops listed:=by
 intro d
 induction d using Nat.strongRecOn with
 |_ d ih=>
  intro i hd h0 hi hun t ht hr
  obtain⟨_,ot,hot,hall⟩:=mem_ready.1 hr
  have htlt:t<ops.size:=(Array.getElem?_eq_some_iff.1 hot).1
  by_cases htn:t=n
  ·subst htn
   have h1:=List.all_eq_true.1 hs i (List.mem_range.2 hi)
   simp only[Bool.or_eq_true,decide_eq_true_eq] at h1
   obtain⟨j,hj,hj2⟩:=List.any_eq_true.1 (h1.resolve_left (by omega))
   simp only[Bool.and_eq_true,decide_eq_true_eq] at hj2
   obtain⟨oj,hoj,e,he,hb,hon⟩:=Region.waitsFor_spec hj2.2
   have hjle:j≤t:=by have:=List.mem_range.1 hj;omega
   by_cases hjt:j=t
   ·subst hjt
    have:oj=ot:=Option.some.inj (hoj.symm.trans hot)
    subst this
    have h2:=hall e he hb
    rw[hon,getD_both hun] at h2
    cases h2
   ·cases hl:listed.getD j false with
    |true=>
     have h2:=inv.closed j oj hoj hl e he hb
     rw[hon,getD_both hun] at h2
     cases h2
    |false=>
     have hjs:j<listed.size:=by rw[inv.size];omega
     exact ih (t-j) (by omega) j rfl (by omega) (by omega) (getD_in hjs hl) t (Nat.le_refl _) hr
  ·have h1:=List.all_eq_true.1 hc t (List.mem_range.2 htlt)
   simp only[Bool.or_eq_true,decide_eq_true_eq] at h1
   rcases h1 with h1|h1
   ·omega
   ·obtain⟨j,hj,hj2⟩:=List.any_eq_true.1 h1
    simp only[Bool.and_eq_true,decide_eq_true_eq] at hj2
    have hjt:=List.mem_range.1 hj
    obtain⟨o',ho',e,he,hb,hon⟩:=Region.waitsFor_spec hj2.2
    have:o'=ot:=Option.some.inj (ho'.symm.trans hot)
    subst this
    have h2:=hall e he hb
    rw[hon,getD_both (inv.tail j hj2.1 (by omega))] at h2
    cases h2
theorem xC {n i:Nat} {oi:Oper} {S:dM} {L:Array Bool→c6→mS→Prop} (hi:ops[i]? =some oi) (hcalls:mo=true→ly .any ops=true)
 (hs:Ev ops n=true) (hc:zO ops n=true) (hi0:0<i) (hin:i<n)
 (hdone:∀listed F Z,L listed F Z→∀j∈Region.ready .any ops listed,n≤j):
 ∀(f:Nat) (listed:Array Bool) (F:c6) (Z Z':mS),HeadInv .any ops n listed→
  (∀j oj,ops[j]? =some oj→j≠i→listed.getD j true=false→(∀e∈oj.after,Region.binds .any e=true→e.on≠i)→oi.apart ops oj=true)→
  i∈Region.ready .any ops listed→gb P ops Env Rl mo Pn N F Z oi S Z'→
  lx P .any ops Env Rl mo Pn N n L f (listed.setIfInBounds i true) (la F oi.dst S) Z'→lx P .any ops Env Rl mo Pn N n L (f+1) listed F Z:=
 qh hi hcalls hin (fun _ inv hun t ht=>BL hs hc inv _ i rfl hi0 hin hun t ht) hdone
theorem uu {n:Nat} {perm:List Nat} {Lq:c6→mS→Prop} (hcalls:mo=true→ly .any ops=true) (hs:Ev ops n=true) (hc:zO ops n=true):
 ∀(l:List Oper) (k:Nat) (listed:Array Bool) (F:c6) (Z:mS),0<k→(∀j,j<l.length→l[j]? =ops[k+j]?)→k+l.length=n→HeadInv .any ops n listed→
 oJ ops n perm l.length k listed=true→(∀t,cP Rl (F t))→d6 Z→ia P ops Env Rl mo Pn N l F Z Lq→
 lx P .any ops Env Rl mo Pn N n (fun listed' F' Z'=>(tG ops perm listed'=true∧(Region.ready .any ops listed').all (fun j=>decide (n≤j))=true)∧Lq F' Z') l.length listed F Z
 |[],k,listed,F,Z,_,_,hk,_,hB,_,_,h=>by
  simp only[List.length_nil,oJ,Bool.and_eq_true] at hB
  exact⟨hB,h⟩
 |o::l,k,listed,F,Z,hk0,hl,hk,inv,hB,hF,hZ,h=>by
  have h0:ops[k]? =some o:=by simpa using(hl 0 (by simp)).symm
  simp only[List.length_cons,oJ,Bool.and_eq_true] at hB
  obtain⟨⟨hr,hf⟩,hB'⟩:=hB
  have hkn:k<n:=by simp only[List.length_cons] at hk;omega
  have hr':k∈Region.ready .any ops listed:=by simpa using hr
  obtain⟨S,Z',hspec,hrest⟩:=h hF hZ
  exact xC h0 hcalls hs hc hk0 hkn (fun listed' F' Z' hL j hj=>by simpa using List.all_eq_true.1 hL.1.2 j hj) l.length listed F Z Z' inv (Region.free_spec h0 hf) hr' hspec
   (uu hcalls hs hc l (k+1) _ _ _ (by omega) (fun j hj=>by have:=hl (j+1) (by simp;omega);simpa [Nat.add_assoc,Nat.add_comm 1 j] using this) (by simp only[List.length_cons] at hk;omega) (inv.set hr' hkn) hB' (qm hF hspec.stable) (hspec.zst hZ) hrest)
def Kg (ops:Array Oper) (n:Nat) (perm:List Nat):Bool:=
 Region.noSelect ops&&decide (0<n)&&decide (n<ops.size)&&Ev ops n&&zO ops n&&decide (n+perm.length=ops.size)&&Region.free .any ops (Array.replicate ops.size false) 0&&(Region.ready .any ops (Array.replicate ops.size false)).contains 0&&oJ ops n perm (n-1) 1 ((Array.replicate ops.size false).setIfInBounds 0 true)
theorem uQ {Q:iQ} {D:List Deferred} {l:Fr} {w:World} {id d:Nat} {x:Operand} {v:Value} {ty:TypeId} {pos:String} {aft:Array Edge} {os:List Oper} (n:Nat) (perm:List Nat) (ts:List Nat) (hm:P.follows .mixedOrders=true)
 (hB:Kg ((⟨some d,.move x,ty,pos,aft,none⟩:Oper)::os).toArray n perm=true) (hp:(perm.all fun i=>decide (i<os.length+1))=true) (hx:ev l x=some v) (hd:Nat.blt d N=true)
 (h:ia P ((⟨some d,.move x,ty,pos,aft,none⟩:Oper)::os).toArray (aK w) aK false Kl N (os.take (n-1)) (AD ((d,v)::l)) (fun _=>True) (fun F _=>∀w',aK w w'→lN F w' ts (fun l'=>cy P ((⟨some d,.move x,ty,pos,aft,none⟩:Oper)::os).toArray (ox Q) N D l' w' (CT ((⟨some d,.move x,ty,pos,aft,none⟩:Oper)::os) perm)))):dN P Q N D l w (.region id ((⟨some d,.move x,ty,pos,aft,none⟩:Oper)::os).toArray true):=fun a ha=>by
 obtain⟨o,ho⟩:∃o:Oper,o=⟨some d,.move x,ty,pos,aft,none⟩:=⟨_,rfl⟩
 rw[←ho] at hB h⊢
 have ha':=ha.put hd v
 have hsat:DJ N D (AD ((d,v)::l)) (a.put (some d) v) {w with drawn:=w.drawn+1}:=⟨ha'.size,ha'.defers,fun t=>by
  show AD ((d,v)::l) t ((a.put (some d) v).tmps.getD t undef) _
  unfold AD
  cases hv:lk ((d,v)::l) t with
  |some v=>exact ha'.at_ t v hv
  |none=>trivial⟩
 simp only[Kg,Bool.and_eq_true,decide_eq_true_eq] at hB
 obtain⟨⟨⟨⟨⟨⟨⟨⟨hsel,hn0⟩,hn⟩,hs⟩,hc⟩,hlen⟩,hf⟩,hr⟩,hlex⟩:=hB
 have hn':n<os.length+1:=by simpa using hn
 have htl:(os.take (n-1)).length=n-1:=by simp;omega
 have h00:(o::os).toArray[0]? =some o:=by simp
 have inv0:HeadInv .any (o::os).toArray n (Array.replicate (o::os).toArray.size false):=
  ⟨by simp,fun j oj _ hl=>(by rw[getD_replicate_false] at hl;cases hl),fun t _ ht=>getD_in (by simpa using ht) (getD_replicate_false _ _)⟩
 have hr':0∈Region.ready .any (o::os).toArray (Array.replicate (o::os).toArray.size false):=by simpa using hr
 have H:=uu (perm:=perm) (fun h=>by cases h) hs hc (os.take (n-1)) 1 _ _ _ (by omega) (fun j hj=>by
  have hj':j<n-1:=by rw[htl] at hj;exact hj
  simp[hj',Nat.add_comm 1 j]) (by rw[htl];omega) (inv0.set hr' (by omega)) (by rw[htl];exact hlex) (kF _) d6.triv (lL _ _ _ (fun F Z hK a' w' he hs=>by
   obtain⟨l',hl',hk⟩:=lN.use hs (hK w' he)
   exact hk a' hl':∀F (Z:mS),_→(∀a' w',aK w w'→DJ N D F a' w'→wpList P (o::os).toArray (ox Q) (CT (o::os) perm) a' w')) h)
 have hpick:∀(perm:List Nat),(perm.all fun i=>decide (i<(o::os).length))=true→(perm.map fun i=>(o::os).toArray[i]?)=(CT (o::os) perm).map some:=by
  intro perm
  induction perm with
  |nil=>intro _;rfl
  |cons i is ih=>
   intro hp
   simp only[List.all_cons,Bool.and_eq_true,decide_eq_true_eq] at hp
   have e:(o::os)[i]? =some (o::os)[i]:=List.getElem?_eq_getElem hp.1
   simp only[List.map_cons,CT,e,List.getElem?_toArray]
   rw[←ih hp.2]
   simp
 have rest:=iP (D:=D) (Q':=ox Q) (l0:=[]) (g:=perm.length) (kA.plain w) (fun _ _ _ _ _ _ h=>h.elim) (fun _ _ _ _ _ _ _ hp=>by cases hp) (fun listed F Z hL hF hZ a' w' he hsat hz=>lE hsel perm (CT (o::os) perm) listed a' w' (hpick perm (by simpa using hp)) hL.1.1 (hL.2 a' w' he hsat)) _ _ _ _ H (kF _) d6.triv (a.put (some d) v) {w with drawn:=w.drawn+1} ⟨rfl,rfl,rfl,Nat.le_refl _,fun _ _=>rfl⟩ hsat (fun _ hp=>by cases hp) trivial
 rw[htl] at rest
 refine wp_mono (wp_region_any (Q:=ox Q) hm ?_) fun e a w he=>by obtain⟨rfl,h⟩:=he;exact h
 have hsz:(o::os).toArray.size=(n-1+perm.length)+1:=by rw[←hlen];omega
 rw[show wpAny P .any (o::os).toArray (ox Q) (o::os).toArray.size=wpAny P .any (o::os).toArray (ox Q) ((n-1+perm.length)+1) by rw[hsz]]
 have hval:(∀w':World,(execOp a.eval o).run P w'=.ok (.value v) w'):=fun w'=>by
  rw[ho]
  have hv:a.eval x=v:=ha.ev hx
  simp[execOp,hv]
 have hdst:o.dst=some d:=by rw[ho]
 exact wpAny_take h00 hsel hf hr (fun c a w hp=>by obtain⟨hp,_⟩:=hp;cases hp) (.inl ⟨by rw[ho];rfl,hval⟩) (by rw[hdst];exact rest)
end
end Go.Rl
namespace Go.Rl
open Go.RowKit Go.Proofs
theorem H3 {n:Int} (h:lB n):1≤(dn n).length∧(dn n).length≤10:=⟨qq _,fR (Cq h.1 h.2)⟩
theorem du {α β:Type} {f:α→List β} {l:List α} {i:Nat} (hi:i<l.length):(l.take (i+1)).flatMap f=(l.take i).flatMap f++f l[i]:=by
 rw[List.take_succ_eq_append_getElem hi,List.flatMap_append,List.flatMap_singleton]
end Go.Rl
namespace Go.Rl
open Go.RowKit Go.Proofs
theorem H4 {w:World} {g:Nat}:(Instr.sliceAt 24 (.pointer (some ⟨g,0,none⟩)) none none none).run Tryz.prog w=.ok (.slice (some ⟨g,0,none⟩) 32 32) w:=by
 simp[Instr.sliceAt,run_underlying Tryz.underlying24,Instr.sureAddr,Instr.sliceBounds,eZ fC,Addr.add_mid]
theorem BM {X:Nat→Prop} {w:World}:∀(l:List Int),aR X w (l.map qk) (l.map I)
 |[]=>aR.nil
 |n::l=>aR.cons (a:=[I n]) (by simp only[qk,cH,I]) (BM l)
theorem na.rpx {X:Nat→Prop} {w:World} {base:Nat} {l:List Int} {v:Value} (h:na base l v w) (hX:∀k,v.ownBlock=some k→¬X k):cH X w (Kb l) [v]:=by
 obtain⟨n,h⟩:=h
 exact cH.ofOwn h (BM l) (by simp[Bs]) (by omega) hX
end Go.Rl
namespace Go.Rl
open Go.RowKit Go.Proofs
section
variable {w:World} {g:Nat} {T:TypeId} {d:List UInt8} {v:Value}
theorem uR:pJ.length=32:=rfl
end
theorem rf {α:Type} {p:α→Bool} {l:List α} {i:Nat} (hi:i<l.length) (h:l.all p=(l.drop i).all p) (h1:p l[i]=true):l.all p=(l.drop (i+1)).all p:=by rw[h,BH hi,h1,Bool.true_and]
theorem gC {α:Type} {p:α→Bool} {l:List α} {i:Nat} (hi:i<l.length) (h:l.all p=(l.drop i).all p) (h1:p l[i]=false):l.all p=false:=by rw[h,BH hi,h1,Bool.false_and]
theorem nE {α:Type} {p:α→Bool} {l:List α} {i:Nat} (hi:l.length≤i) (h:l.all p=(l.drop i).all p):l.all p=true:=by rw[h,List.drop_eq_nil_of_le hi];rfl
end Go.Rl
namespace Go.Rl
open Go.RowKit Go.Proofs
end Go.Rl
namespace Go.Rl
open Go.RowKit Go.Proofs
theorem H5 {a z:List UInt8} {j:Nat} (h:a.length=32) (hz:z.length=32) (hj:j<32) {b:UInt8} (hb:b=a[j]'(by omega)):(a.take j++z.drop j).set j b=a.take (j+1)++z.drop (j+1):=by
 have e:(a.take j).length=j:=by rw[List.length_take];omega
 rw[List.take_succ_eq_append_getElem (by omega),List.append_assoc,List.set_append_right _ _ (by omega),e,Nat.sub_self,List.drop_eq_getElem_cons (i:=j) (l:=z) (by omega),List.set_cons_zero,hb]
 rfl
theorem Jn {a z:List UInt8} {j:Nat} (h:a.length=32) (hz:z.length=32) (hj:j≤32):(a.take j++z.drop j).length=32:=by
 rw[List.length_append,List.length_take,List.length_drop];omega
end Go.Rl
namespace Go.Rl
open Go.RowKit Go.Proofs
theorem sv:aG Tryz.prog 114:=⟨_,Tryz.func114,by kernel_rfl,rfl⟩
theorem oW:aG Tryz.prog 82:=⟨_,Tryz.func82,by kernel_rfl,rfl⟩
theorem nG:aG Tryz.prog 85:=⟨_,Tryz.func85,by kernel_rfl,rfl⟩
theorem C8:aG Tryz.prog 149:=⟨_,Tryz.func149,by kernel_rfl,rfl⟩
theorem j6:aG Tryz.prog 148:=⟨_,Tryz.func148,by kernel_rfl,rfl⟩
theorem oX:aG Tryz.prog 147:=⟨_,Tryz.func147,by kernel_rfl,rfl⟩
theorem uw:aG Tryz.prog 115:=⟨_,Tryz.func115,by kernel_rfl,rfl⟩
theorem Da:aG Tryz.prog 77:=⟨_,Tryz.func77,by kernel_rfl,rfl⟩
theorem jC:(Tryz.prog.info? 22).map (·.size)=some 1:=by kernel_rfl
theorem jD {w:World} {g:Nat}:(Instr.fieldAt 142 (.pointer (some ⟨g,0,none⟩)) 0).run Tryz.prog w=.ok (.pointer (some ⟨g,0,none⟩)) w:=aq (o:=0) Tryz.underlying142 rfl (by kernel_rfl) rfl
def Jo (T:TypeId) (base g:Nat) (l:List UInt8) (v:Value) (w:World) (w':World):Prop:=∃v',gL T base g l v' w'∧dg g v w v' w'
theorem LV {a:Int} (ha:lB a):∀n∈[a],lB n:=fun n hn=>by
 simp only[List.mem_cons,List.not_mem_nil,or_false] at hn
 subst hn;exact ha
theorem LW {a b:Int} (ha:lB a) (hb:lB b):∀n∈[a,b],lB n:=fun n hn=>by
 simp only[List.mem_cons,List.not_mem_nil,or_false] at hn
 rcases hn with rfl|rfl<;>assumption
theorem Kh {a b c d:Int} (ha:lB a) (hb:lB b) (hc:lB c) (hd:lB d):∀n∈[a,b,c,d],lB n:=fun n hn=>by
 simp only[List.mem_cons,List.not_mem_nil,or_false] at hn
 rcases hn with rfl|rfl|rfl|rfl<;>assumption
theorem rg {α:Type} {f:α→List UInt8} (l:List α) (k:Nat):((l.take k).flatMap f).length≤(l.flatMap f).length:=by
 have h:(l.flatMap f)=(l.take k).flatMap f++(l.drop k).flatMap f:=by rw[←List.flatMap_append,List.take_append_drop]
 rw[h,List.length_append]
 omega
theorem fL {α:Type} {f:α→List UInt8} {l:List α} {i:Nat} (hi:i<l.length):((l.take i).flatMap f).length+(f l[i]).length≤(l.flatMap f).length:=by
 have h:=rg (f:=f) l (i+1)
 rw[du hi,List.length_append] at h
 exact h
theorem sw {T:TypeId} {w:World} {b g:Nat} {l:List UInt8} {n:Nat} {v:Value} (hW:gL T b g l v w) (h0:b≤w.heap.size) (hl:l.length≤35184372088832) (hn:n≤9223372036854775807):
 Calls Tryz.prog 114 #[.pointer (some ⟨g,0,none⟩),I (n:Int)] w (bE fun _ w'=>Jo T b g (l++uv n) v w w'):=by
 refine enter (vs:=[.pointer (some ⟨g,0,none⟩),I (n:Int)]) Tryz.func114 MI MI MI ?_
 have kg:=hW.blk
 have hun:(UInt64.ofNat n).toNat=n:=by rw[UInt64.toNat_ofNat'];omega
 refine uQ 8 [8,9,10,11] [4,8,11] (by kernel_rfl) (by kernel_rfl) MI MI MI ?_
 refine aC MI MI (dc MI MI ?_)
 refine aT MI MI (fun w _=>jD) ?_
 refine aO MI MI (fun w hw=>ai Mg MI (hw.cell_some kg.k0)) (aC MI MI (dG MI MI (fun w hw=>fk Me Mf) ?_))
 refine cm (S:=cz (uv n)) nU (cz.stable _) rfl (fun w hw=>by rintro _ rfl _ rfl;exact bE.mono (nV (n:=UInt64.ofNat n) (cz.nil _) (by simp)) fun v w' h=>⟨h.1,by have:=h.2.bts;rwa [hun,List.nil_append] at this⟩) ?_
 refine cp ?_
 intro wg0 xg0
 rintro _ rfl
 rintro _ hq8
 obtain rfl:=Eq.symm hq8
 intro vg11 b11
 have hun2:=qq n
 have hun3:=fR (n:=n) (by omega)
 obtain⟨v12,wa,wb,hr12,hs12,hW',st12⟩:=gL.put (t:=22) (t2:=22) (ty:=22) Mg jC Mg (hW.ext xg0) (Nat.le_trans h0 xg0.size) b11 (by omega) (by omega)
 refine a6 MI MI hr12 ?_
 refine ax MI MI ?_
 refine ah MI MI jD ?_
 refine ar MI MI (hs12) (ag (zP (jS MI ?_)))
 exact⟨_,rfl,v12,hW',(dg.of_ext xg0).trans st12⟩
theorem oY {T:TypeId} {w:World} {b g:Nat} {l:List UInt8} {ns:List Int} {nv v:Value} (hW:gL T b g l v w) (h0:b≤w.heap.size) (hv:cH (WrX g v) w (Kb ns) [nv]) (hi64:∀n∈ns,lB n) (hl:l.length+10*ns.length≤35184372088832):
 Calls Tryz.prog 82 #[.pointer (some ⟨g,0,none⟩),nv] w (bE fun _ w'=>Jo T b g (l++ns.flatMap dn) v w w'):=by
 refine enter (vs:=[.pointer (some ⟨g,0,none⟩),nv]) Tryz.func82 MI MI MI ?_
 have hd:cA qk ns nv w:=hv.rp
 have hll:=hd.len
 refine af (aa (ae MI MI (aP MI MI (bg MG hd) (ae MI MI (ag (ab (aF ?_)))))))
 refine fl (fun(i:Nat) (u:Value)=>[(0,.pointer (some ⟨g,0,none⟩)),(6,nv),(7,I (ns.length:Int)),(8,I (i:Int))]) (fun(i:Nat) (u:Value) w'=>gL T b g (l++(ns.take i).flatMap dn) u w'∧dg g v w u w'∧i≤ns.length∧((ns.take i).flatMap dn).length≤10*i) (fun(i:Nat) (u:Value)=>ns.length-i) (0) (v) ⟨rfl,rfl,rfl,rfl,trivial⟩ ⟨by simpa using hW,dg.refl,by omega,by simp⟩ ?_
 rintro i u wL ⟨hW1,st1,hi,hle⟩
 refine af (aa (al MI MI MI (a9) (ag (ab (af ?_)))))
 refine bw MI (fun h9=>?_) (fun h9=>?_)
 ·have hd1:cA qk ns nv wL:=(hv.step st1).rp
  refine aA (ab (af (aF (af (aa ?_)))))
  obtain⟨a10,c10,p10,q10,h10⟩:=bZ (P:=Tryz.prog) (sz:=1) MG (by kernel_rfl) Bs (by omega) hd1 (i:=i) (by omega) .i64
  obtain⟨e10,he10⟩:∃e,e=ns[i]'(by omega):=⟨_,rfl⟩
  rw[←he10] at h10
  obtain rfl:=Jc h10
  refine av MI MI MI (p10 _) ?_
  have hn:=hi64 e10 (by rw[he10];exact List.getElem_mem _)
  have hen:=H3 hn
  refine ak MI MI (ai Me MI q10.cell0) (ac MI MI (ag (ab ?_)))
  have kg:=hW1.blk
  refine uQ 7 [7,8,9,10] [0,6,7,8,12,16,18] (by kernel_rfl) (by kernel_rfl) MI MI MI ?_
  refine aC MI MI (dc MI MI ?_)
  refine aT MI MI (fun w _=>jD) ?_
  refine aO rfl rfl (fun w hw=>ai Tryz.underlying22 rfl (hw.cell_some kg.k0)) (aC rfl rfl (cm (S:=cz (dn e10)) kJ (cz.stable _) rfl (fun w hw=>by rintro _ rfl _ rfl;exact bE.mono (kO (n:=e10) (cz.nil _) (by simp) hn.1 hn.2) fun v w' h=>⟨h.1,by have:=h.2.bts;rwa [List.nil_append] at this⟩) ?_))
  refine cp ?_
  intro wg3 xg3
  rintro _ rfl
  rintro _ hq6
  obtain rfl:=Eq.symm hq6
  rintro _ rfl
  rintro _ rfl
  rintro _ rfl
  rintro _ hq16
  obtain rfl:=Eq.symm hq16
  intro vg18 b18
  obtain⟨v19,wa,wb,hr19,hs19,hW2,st19⟩:=gL.put (t:=22) (t2:=22) (ty:=22) Tryz.underlying22 jC Tryz.underlying22 (hW1.ext xg3) (Nat.le_trans h0 (Nat.le_trans st1.mv.size xg3.size)) b18 (by omega) (by simp only[List.length_append];omega)
  refine a6 MI MI hr19 ?_
  refine ax MI MI ?_
  refine ah MI MI jD ?_
  refine ar MI MI (hs19) (ag (zP (aS (ab (aa (al (r:=I ((i+1:Nat):Int)) MI MI MI (by have e:((i+1:Nat):Int)=(i:Int)+1:=(by omega);rw[e];exact aN (by omega) (by omega)) ?_))))))
  refine ae MI MI (ag ?_)
  refine dD (i+1) (v19) ⟨rfl,rfl,rfl,rfl,trivial⟩ ⟨by rw[du (by omega),←he10,←List.append_assoc];exact hW2,(st1.trans (dg.of_ext xg3)).trans st19,by omega,by rw[du (by omega),←he10,List.length_append];omega⟩ (by omega)
 ·refine bc (aJ (aJ (bf (jS MI ?_))))
  exact⟨_,rfl,u,by rw[List.take_of_length_le (by omega)] at hW1;exact hW1,st1⟩
theorem nH {T:TypeId} {wz w:World} {g:Nat} {l:List UInt8} {q:fi} {x y v:Value} (ez:aK wz w) (hW:gL T wz.heap.size g l v w) (hx:bm q.2.1 x wz) (hy:bm q.2.2 y wz) (hl:l.length+(gj q).length≤4398046511104):
 Calls Tryz.prog 85 #[.pointer (some ⟨g,0,none⟩),.agg #[B q.1,x,y]] w (bE fun _ w'=>Jo T wz.heap.size g (l++gj q) v w w'):=by
 refine enter (vs:=[.pointer (some ⟨g,0,none⟩),.agg #[B q.1,x,y]]) Tryz.func85 MI MI MI ?_
 have hqa:=jA q
 have hq1:1≤(gj q).length:=by simp only[gj,oc,List.length_append,List.length_cons,List.length_nil];omega
 refine af (aa ?_)
 obtain⟨g3,w3,hr3,l3,x3,k3⟩:=cC (P:=Tryz.prog) (w:=w) (T:=46) (cs:=[B q.1,x,y])
 refine cG MI MI hr3 (ag (ab ?_))
 have hW3:=hW.ext x3
 have kg:=hW3.blk
 refine uQ 7 [7,8,9,10] [4,8,10] (by kernel_rfl) (by kernel_rfl) MI MI MI ?_
 refine aC MI MI (dc MI MI ?_)
 refine aT MI MI (fun w _=>jD) ?_
 refine aO MI MI (fun w hw=>ai Mg MI (hw.cell_some kg.k0)) (aO MI MI (fun w hw=>(k3.ext hw).ld Mb MI (by kernel_rfl)) ?_)
 refine cm (S:=cz (gj q)) oz (cz.stable _) rfl (fun w hw=>by rintro _ rfl _ rfl;exact bE.mono (oA (cz.nil _) (di.mk ((hx.ext (ez.trans x3)).ext hw) ((hy.ext (ez.trans x3)).ext hw)) (by simp only[List.length_nil];omega)) fun v w' h=>⟨h.1,by have:=h.2.bts;rwa [List.nil_append] at this⟩) ?_
 refine cp ?_
 intro wg1 xg1
 rintro _ rfl
 rintro _ hq8
 obtain rfl:=Eq.symm hq8
 intro vg10 b10
 obtain⟨v11,wa,wb,hr11,hs11,hW2,st11⟩:=gL.put (t:=22) (t2:=22) (ty:=22) Mg jC Mg (hW3.ext xg1) (((ez.trans x3).trans xg1)).size b10 (by omega) (by omega)
 refine a6 MI MI hr11 ?_
 refine ax MI MI ?_
 refine ah MI MI jD ?_
 refine ar MI MI (hs11) (ag (zP (jS MI ?_)))
 exact⟨_,rfl,v11,hW2,(dg.of_ext (x3.trans xg1)).trans st11⟩
theorem Db {T:TypeId} {wz w:World} {g:Nat} {l:List UInt8} {d:bS} {x y v:Value} (ez:aK wz w) (hW:gL T wz.heap.size g l v w) (hx:bm d.at_.2.1 x wz) (hy:bm d.at_.2.2 y wz) (hw:wD d) (hl:l.length+(fJ d).length≤4398046511104):
 Calls Tryz.prog 149 #[.pointer (some ⟨g,0,none⟩),.agg #[I d.kd,I d.ix,B d.at_.1,x,y]] w (bE fun _ w'=>Jo T wz.heap.size g (l++fJ d) v w w'):=by
 refine enter (vs:=[.pointer (some ⟨g,0,none⟩),.agg #[I d.kd,I d.ix,B d.at_.1,x,y]]) Tryz.func149 MI MI MI ?_
 have hdl:(fJ d).length=(dn d.kd).length+(dn d.ix).length+(gj d.at_).length:=by simp only[fJ,List.length_append]
 refine af (aa ?_)
 obtain⟨g3,w3,hr3,l3,x3,k3⟩:=cC (P:=Tryz.prog) (w:=w) (T:=48) (cs:=[I d.kd,I d.ix,B d.at_.1,x,y])
 refine cG MI MI hr3 (ag (ab (af (aa (ae MI MI (ah MI MI (aq (o:=0) Mc MI (by kernel_rfl) MI) ?_))))))
 refine ak MI MI (ai Me MI (k3.cell (i:=0) MI)) (ah MI MI (aq (o:=1) Mc MI (by kernel_rfl) MI) ?_)
 refine ak MI MI (ai Me MI (k3.cell (i:=1) MI)) ?_
 obtain⟨v9,w9,hr9,x9,o9,ob9⟩:=AU (w:=w3) (w3).heap.size [d.kd,d.ix] (by simp) (Nat.le_refl _)
 refine aI (vs:=[(0,I d.kd),(1,I d.ix)]) MI MI hr9 ?_
 have hW3:=hW.ext x3
 have hW9:=hW3.ext x9
 refine am oW MI MI ((oY (ns:=[d.kd,d.ix]) hW9 (((ez.trans x3).trans x9)).size (o9.rpx (fun k hk=>hW3.off_new (o9.lt k hk).1)) (LW hw.1 hw.2) (by simp only[List.length_cons,List.length_nil];omega))) ?_
 rintro v10 w10 ⟨v10,hW10,st10⟩
 have x10:=st10.ext (((ez.trans x3).trans x9)) hW9.ge hW9.new
 have k3a:=st10.mv.blk (k3.ext x9) (hW.off_new l3)
 refine ag (ab (aa (ae rfl rfl (ah rfl rfl (aq (o:=2) Tryz.underlying48 rfl (by kernel_rfl) rfl) (ak rfl rfl (k3a.ldO (ms:=[B d.at_.1,x,y]) (o:=2) (fun j v hj=>by rcases j with _|_|_|_|_|_|_|_|_|j<;>simp_all) Tryz.underlying46 rfl (by kernel_rfl)) ?_)))))
 refine am nG MI MI ((nH (q:=d.at_) (x10) hW10 hx hy (by simp only[List.length_append,List.flatMap_cons,List.flatMap_nil,List.append_nil];omega))) ?_
 rintro v14 w14 ⟨v14,hW14,st14⟩
 have x14:=st14.ext (x10) hW10.ge hW10.new
 refine ag (jS MI ?_)
 exact⟨_,rfl,v14,by simpa only[fJ,List.flatMap_cons,List.flatMap_nil,List.append_nil,List.append_assoc] using hW14,((dg.of_ext (x3.trans x9)).trans st10).trans st14⟩
theorem j7 {T:TypeId} {wz w:World} {g:Nat} {l:List UInt8} {ps:List cb} {pv v:Value} (ez:aK wz w) (hW:gL T wz.heap.size g l v w) (hd:cA bN ps pv wz) (hw:wP ps) (hl:l.length+(iZ ps).length≤4398046511104):
 Calls Tryz.prog 148 #[.pointer (some ⟨g,0,none⟩),pv] w (bE fun _ w'=>Jo T wz.heap.size g (l++iZ ps) v w w'):=by
 refine enter (vs:=[.pointer (some ⟨g,0,none⟩),pv]) Tryz.func148 MI MI MI ?_
 have hll:=hd.len
 have hpl:(iZ ps).length=(uv ps.length).length+(ps.flatMap fg).length:=by simp only[iZ,List.length_append]
 refine af (aa (ae MI MI (ae MI MI (aP MI MI (bg Mm (hd.ext ez)) (am sv MI MI ((sw hW ez.size (by omega) (by omega))) ?_)))))
 rintro v9 w9 ⟨v9,hW9,st9⟩
 have x9:=st9.ext ez hW.ge hW.new
 refine ag (ab (af (aa (ae MI MI (aP MI MI (bg Mm (hd.ext x9)) (ae MI MI (ag (ab (aF ?_)))))))))
 refine fl (fun(i:Nat) (u:Value)=>[(0,.pointer (some ⟨g,0,none⟩)),(10,pv),(11,I (ps.length:Int)),(12,I (i:Int))]) (fun(i:Nat) (u:Value) w'=>gL T wz.heap.size g (l++uv ps.length++(ps.take i).flatMap fg) u w'∧dg g v w u w'∧aK wz w'∧i≤ps.length) (fun(i:Nat) (u:Value)=>ps.length-i) (0) (v9) ⟨rfl,rfl,rfl,rfl,trivial⟩ ⟨by simpa using hW9,st9,x9,by omega⟩ ?_
 rintro i u wL ⟨hW1,st1,eL,hi⟩
 refine af (aa (al MI MI MI (a9) (ag (ab (af ?_)))))
 refine bw MI (fun h13=>?_) (fun h13=>?_)
 ·refine aA (ab (af (aF (af (aa ?_)))))
  obtain⟨a14,c14,p14,q14,h14⟩:=bZ (P:=Tryz.prog) (sz:=7) Mm (by kernel_rfl) dA (by omega) hd (i:=i) (by omega) .i64
  obtain⟨e14,he14⟩:∃e,e=ps[i]'(by omega):=⟨_,rfl⟩
  rw[←he14] at h14
  obtain⟨x14_0,x14_1,rfl,f14_0,f14_1⟩:=gM h14
  refine av MI MI MI (p14 _) ?_
  have hm:=hw e14 (by rw[he14];exact List.getElem_mem _)
  have hfl:=fL (f:=fg) (l:=ps) (i:=i) (by omega)
  rw[←he14] at hfl
  have hml:(fg e14).length=(dn e14.kd).length+(dn e14.ix).length+(dn e14.lo).length+(dn e14.hi).length+(gj e14.co).length:=by simp only[fg,List.length_append]
  refine ak MI MI ((q14.ext eL).ld Mt MI (by kernel_rfl)) ?_
  obtain⟨g5,w5,hr5,l5,x5,k5⟩:=aY (P:=Tryz.prog) (w:=wL) (t:=187) (z:=.agg #[I 0,I 0,I 0,I 0,B false,.slice none 0 0,.slice none 0 0]) (l:=[I 0,I 0,I 0,I 0,B false,.slice none 0 0,.slice none 0 0]) (by kernel_rfl) rfl
  refine aV MI hr5 ?_
  obtain⟨w3_3,s3_3,q3_3,k3_3⟩:=k5.stS (P:=Tryz.prog) (t:=187) (m:=[I e14.kd,I e14.ix,I e14.lo,I e14.hi,B e14.co.1,x14_0,x14_1]) rfl (by kernel_rfl) (au.cons rfl (au.cons rfl (au.cons rfl (au.cons rfl (au.cons rfl (au.cons f14_0.one (au.cons f14_1.one au.nil)))))))
  refine ar MI MI s3_3 ?_
  have x3_3:=aK.of_new (x5) q3_3 l5
  refine ag (ab (af (aa (ae MI MI (ah MI MI (aq (o:=0) Mt MI (by kernel_rfl) MI) (ah MI MI (aq (o:=0) Mx MI (by kernel_rfl) MI) ?_))))))
  refine ak MI MI (ai Me MI (k3_3.cell (i:=0) MI)) (ah MI MI (aq (o:=0) Mt MI (by kernel_rfl) MI) ?_)
  refine ah MI MI (aq (o:=1) Mx MI (by kernel_rfl) MI) (ak MI MI (ai Me MI (k3_3.cell (i:=1) MI)) ?_)
  refine ah MI MI (aq (o:=0) Mt MI (by kernel_rfl) MI) (ah MI MI (aq (o:=2) Mx MI (by kernel_rfl) MI) ?_)
  refine ak MI MI (ai Me MI (k3_3.cell (i:=2) MI)) (ah MI MI (aq (o:=0) Mt MI (by kernel_rfl) MI) ?_)
  refine ah MI MI (aq (o:=3) Mx MI (by kernel_rfl) MI) (ak MI MI (ai Me MI (k3_3.cell (i:=3) MI)) ?_)
  obtain⟨v29,w29,hr29,x29,o29,ob29⟩:=AU (w:=w3_3) (w3_3).heap.size [e14.kd,e14.ix,e14.lo,e14.hi] (by simp) (Nat.le_refl _)
  refine aI (vs:=[(0,I e14.kd),(1,I e14.ix),(2,I e14.lo),(3,I e14.hi)]) MI MI hr29 ?_
  have hWb:=hW1.ext x3_3
  have hWc:=hWb.ext x29
  refine am oW MI MI ((oY (ns:=[e14.kd,e14.ix,e14.lo,e14.hi]) hWc (((eL.trans x3_3).trans x29)).size (o29.rpx (fun k hk=>hWb.off_new (o29.lt k hk).1)) (Kh hm.1 hm.2.1 hm.2.2.1 hm.2.2.2) (by simp only[List.length_append,List.length_cons,List.length_nil];omega))) ?_
  rintro v30 w30 ⟨v30,hW30,st30⟩
  have x30:=st30.ext (((eL.trans x3_3).trans x29)) hWc.ge hWc.new
  have k5a:=st30.mv.blk (k3_3.ext x29) (hW1.off_new l5)
  refine ag (ab (aa (ae rfl rfl (ah rfl rfl (aq (o:=4) Tryz.underlying187 rfl (by kernel_rfl) rfl) (ak rfl rfl (k5a.ldO (ms:=[B e14.co.1,x14_0,x14_1]) (o:=4) (fun j v hj=>by rcases j with _|_|_|_|_|_|_|_|_|j<;>simp_all) Tryz.underlying46 rfl (by kernel_rfl)) ?_)))))
  refine am nG MI MI ((nH (q:=e14.co) (x30) hW30 f14_0 f14_1 (by simp only[List.length_append,List.flatMap_cons,List.flatMap_nil,List.append_nil];omega))) ?_
  rintro v34 w34 ⟨v34,hW34,st34⟩
  have x34:=st34.ext (x30) hW30.ge hW30.new
  refine ag (aS (ab (aa (al (r:=I ((i+1:Nat):Int)) MI MI MI (by have e:((i+1:Nat):Int)=(i:Int)+1:=(by omega);rw[e];exact aN (by omega) (by omega)) ?_))))
  refine ae MI MI (ag ?_)
  refine dD (i+1) (v34) ⟨rfl,rfl,rfl,rfl,trivial⟩ ⟨by
   rw[du (by omega),←he14]
   simpa only[fg,List.flatMap_cons,List.flatMap_nil,List.append_nil,List.append_assoc] using hW34,((st1.trans (dg.of_ext (x3_3.trans x29))).trans st30).trans st34,x34,by omega⟩ (by omega)
 ·refine bc (aJ (aJ (bf (jS MI ?_))))
  exact⟨_,rfl,u,by rw[List.take_of_length_le (by omega),List.append_assoc] at hW1;exact hW1,st1⟩
end Go.Rl
namespace Go.Rl
open Go.RowKit Go.Proofs
theorem uS (b:Bool):(vU b).length=1:=by cases b<;>rfl
theorem oZ {T:TypeId} {wz w:World} {g:Nat} {l:List UInt8} {ls:List dI} {lv v:Value} (ez:aK wz w) (hW:gL T wz.heap.size g l v w) (hd:cA cY ls lv wz) (hw:∀m∈ls,HN m) (hl:l.length+(ey ls).length≤4398046511104):
 Calls Tryz.prog 147 #[.pointer (some ⟨g,0,none⟩),lv] w (bE fun _ w'=>Jo T wz.heap.size g (l++ey ls) v w w'):=by
 refine enter (vs:=[.pointer (some ⟨g,0,none⟩),lv]) Tryz.func147 MI MI MI ?_
 have hll:=hd.len
 have hpl:(ey ls).length=(uv ls.length).length+(ls.flatMap dY).length:=by simp only[ey,List.length_append]
 refine af (aa (ae MI MI (ae MI MI (aP MI MI (bg Ml (hd.ext ez)) (am sv MI MI ((sw hW ez.size (by omega) (by omega))) ?_)))))
 rintro v10 w10 ⟨v10,hW10,st10⟩
 have x10:=st10.ext ez hW.ge hW.new
 refine ag (ab (af (aa (ae MI MI (aP MI MI (bg Ml (hd.ext x10)) (ae MI MI (ag (ab (aF ?_)))))))))
 refine fl (fun(i:Nat) (u:Value)=>[(0,.pointer (some ⟨g,0,none⟩)),(11,lv),(12,I (ls.length:Int)),(13,I (i:Int))]) (fun(i:Nat) (u:Value) w'=>gL T wz.heap.size g (l++uv ls.length++(ls.take i).flatMap dY) u w'∧dg g v w u w'∧aK wz w'∧i≤ls.length) (fun(i:Nat) (u:Value)=>ls.length-i) (0) (v10) ⟨rfl,rfl,rfl,rfl,trivial⟩ ⟨by simpa using hW10,st10,x10,by omega⟩ ?_
 rintro i u wL ⟨hW1,st1,eL,hi⟩
 refine af (aa (al MI MI MI (a9) (ag (ab (af ?_)))))
 refine bw MI (fun h14=>?_) (fun h14=>?_)
 ·refine aA (ab (af (aF (af (aa ?_)))))
  obtain⟨a15,c15,p15,q15,h15⟩:=bZ (P:=Tryz.prog) (sz:=6) Ml (by kernel_rfl) cx (by omega) hd (i:=i) (by omega) .i64
  obtain⟨e15,he15⟩:∃e,e=ls[i]'(by omega):=⟨_,rfl⟩
  rw[←he15] at h15
  obtain⟨x15_0,x15_1,x15_2,rfl,f15_0,f15_1,f15_2⟩:=fF h15
  refine av MI MI MI (p15 _) ?_
  have hm:=hw e15 (by rw[he15];exact List.getElem_mem _)
  have hfl:=fL (f:=dY) (l:=ls) (i:=i) (by omega)
  rw[←he15] at hfl
  have hbl:=uS e15.up
  have hml:(dY e15).length=(dn e15.un).length+(vU e15.up).length+(gj e15.va).length+(iZ e15.pf).length:=by simp only[dY,List.length_append]
  obtain⟨pre,hpre⟩:∃pre,pre=l++uv ls.length++(ls.take i).flatMap dY:=⟨_,rfl⟩
  have hprl:pre.length=l.length+(uv ls.length).length+((ls.take i).flatMap dY).length:=by rw[hpre];simp only[List.length_append]
  rw[←hpre] at hW1
  refine ak MI MI ((q15.ext eL).ld Mn MI (by kernel_rfl)) ?_
  obtain⟨g5,w5,hr5,l5,x5,k5⟩:=aY (P:=Tryz.prog) (w:=wL) (t:=173) (z:=.agg #[I 0,B false,B false,.slice none 0 0,.slice none 0 0,.slice none 0 0]) (l:=[I 0,B false,B false,.slice none 0 0,.slice none 0 0,.slice none 0 0]) (by kernel_rfl) rfl
  refine aV MI hr5 ?_
  obtain⟨w3_3,s3_3,q3_3,k3_3⟩:=k5.stS (P:=Tryz.prog) (t:=173) (m:=[I e15.un,B e15.up,B e15.va.1,x15_0,x15_1,x15_2]) rfl (by kernel_rfl) (au.cons rfl (au.cons rfl (au.cons rfl (au.cons f15_0.one (au.cons f15_1.one (au.cons f15_2.one au.nil))))))
  refine ar MI MI s3_3 ?_
  have x3_3:=aK.of_new (x5) q3_3 l5
  refine ag (ab (af (aa (ae MI MI (ah MI MI (aq (o:=0) Mn MI (by kernel_rfl) MI) (ak MI MI (ai Me MI (k3_3.cell (i:=0) MI)) ?_))))))
  obtain⟨v20,w20,hr20,x20,o20,ob20⟩:=AU (w:=w3_3) (w3_3).heap.size [e15.un] (by simp) (Nat.le_refl _)
  refine aI (vs:=[(0,I e15.un)]) MI MI hr20 ?_
  have hWb:=hW1.ext x3_3
  have hWc:=hWb.ext x20
  refine am oW MI MI ((oY (ns:=[e15.un]) hWc (((eL.trans x3_3).trans x20)).size (o20.rpx (fun k hk=>hWb.off_new (o20.lt k hk).1)) (LV hm.1) (by simp only[List.length_cons,List.length_nil];omega))) ?_
  rintro v21 w21 ⟨v21,hW21,st21⟩
  have x21:=st21.ext (((eL.trans x3_3).trans x20)) hWc.ge hWc.new
  have n5:=hW1.off_new l5
  have k5a:=st21.mv.blk (k3_3.ext x20) n5
  have n5a:=st21.off n5 (k3_3.ext x20).lt
  have kg:=hW21.blk
  have hc1:[e15.un].flatMap dn=dn e15.un:=by simp only[List.flatMap_cons,List.flatMap_nil,List.append_nil]
  rw[hc1] at hW21
  refine ag (ab (af (aa (ac MI MI (ag (ab (af (af (aa (ah MI MI (aq (o:=1) Mn MI (by kernel_rfl) MI) ?_))))))))))
  refine ak MI MI (ai Mi MI (k5a.cell (i:=1) MI)) (ag (ab ?_))
  refine fP MI (fun h23=>?_) (fun h23=>?_)
  ·have hbit:vU e15.up=[1]:=by rw[h23];rfl
   refine aa (ac MI MI (ag (ab (af (aa (ae MI MI (ae MI MI (ax MI MI ?_))))))))
   refine ah MI MI jD ?_
   refine ak MI MI (ai Mg MI kg.k0) (ae MI MI ?_)
   obtain⟨v30,w30,hr30,x30,o30,ob30⟩:=dX (w:=w21) w21.heap.size [1] (by simp) (Nat.le_refl _)
   refine aI (vs:=[(0,U8 1)]) MI MI hr30 ?_
   obtain⟨v31,wa31,wb31,hr31,hs31,hW31,st31⟩:=gL.put (t:=22) (t2:=22) (ty:=22) Tryz.underlying22 jC Tryz.underlying22 (hW21.ext x30) ((x21.trans x30)).size o30.bts (by simp) (by simp only[List.length_append,List.length_cons,List.length_nil];omega)
   refine a6 MI MI hr31 ?_
   refine ax MI MI ?_
   refine ah MI MI jD ?_
   refine ar MI MI hs31 ?_
   have x31:=st31.ext ((x21.trans x30)) (hW21.ext x30).ge (hW21.ext x30).new
   have k5b:=st31.mv.blk (k5a.ext x30) n5a
   have n5b:=st31.off n5a (k5a.ext x30).lt
   rw[←hbit] at hW31
   refine ag (ab (af (aa (ae rfl rfl (ah rfl rfl (aq (o:=2) Tryz.underlying173 rfl (by kernel_rfl) rfl) (ak rfl rfl (k5b.ldO (ms:=[B e15.va.1,x15_0,x15_1]) (o:=2) (fun j v hj=>by rcases j with _|_|_|_|_|_|_|_|_|j<;>simp_all) Tryz.underlying46 rfl (by kernel_rfl)) ?_))))))
   refine am nG MI MI ((nH (q:=e15.va) (x31) hW31 f15_0 f15_1 (by simp only[List.length_append];omega))) ?_
   rintro v37 w37 ⟨v37,hW37,st37⟩
   have x37:=st37.ext (x31) hW31.ge hW31.new
   have k5c:=st37.mv.blk k5b n5b
   refine ag (ab (aa (ae MI MI (ah MI MI (aq (o:=5) Mn MI (by kernel_rfl) MI) (ak MI MI (ai Mm MI (k5c.cell (i:=5) MI)) ?_)))))
   refine am j6 MI MI ((j7 (ps:=e15.pf) (x37) hW37 f15_2 hm.2 (by simp only[List.length_append];omega))) ?_
   rintro v41 w41 ⟨v41,hW41,st41⟩
   have x41:=st41.ext (x37) hW37.ge hW37.new
   refine ag (aS (ab (aa (al (r:=I ((i+1:Nat):Int)) MI MI MI (by have e:((i+1:Nat):Int)=(i:Int)+1:=(by omega);rw[e];exact aN (by omega) (by omega)) ?_))))
   refine ae MI MI (ag ?_)
   refine dD (i+1) (v41) ⟨rfl,rfl,rfl,rfl,trivial⟩ ⟨by
    rw[du (by omega),←he15,←List.append_assoc,←hpre]
    simpa only[dY,List.append_assoc] using hW41,((((st1.trans (dg.of_ext (x3_3.trans x20))).trans st21).trans ((dg.of_ext x30).trans st31)).trans st37).trans st41,x41,by omega⟩ (by omega)
  ·have hbit:vU e15.up=[0]:=by rw[h23];rfl
   refine aA (ab (af (aa (ae MI MI (ae MI MI (ax MI MI ?_))))))
   refine ah MI MI jD ?_
   refine ak MI MI (ai Mg MI kg.k0) (ae MI MI ?_)
   obtain⟨v30,w30,hr30,x30,o30,ob30⟩:=dX (w:=w21) w21.heap.size [0] (by simp) (Nat.le_refl _)
   refine aI (vs:=[(0,U8 0)]) MI MI hr30 ?_
   obtain⟨v31,wa31,wb31,hr31,hs31,hW31,st31⟩:=gL.put (t:=22) (t2:=22) (ty:=22) Tryz.underlying22 jC Tryz.underlying22 (hW21.ext x30) ((x21.trans x30)).size o30.bts (by simp) (by simp only[List.length_append,List.length_cons,List.length_nil];omega)
   refine a6 MI MI hr31 ?_
   refine ax MI MI ?_
   refine ah MI MI jD ?_
   refine ar MI MI hs31 ?_
   have x31:=st31.ext ((x21.trans x30)) (hW21.ext x30).ge (hW21.ext x30).new
   have k5b:=st31.mv.blk (k5a.ext x30) n5a
   have n5b:=st31.off n5a (k5a.ext x30).lt
   rw[←hbit] at hW31
   refine ag (ab (af (aa (ae rfl rfl (ah rfl rfl (aq (o:=2) Tryz.underlying173 rfl (by kernel_rfl) rfl) (ak rfl rfl (k5b.ldO (ms:=[B e15.va.1,x15_0,x15_1]) (o:=2) (fun j v hj=>by rcases j with _|_|_|_|_|_|_|_|_|j<;>simp_all) Tryz.underlying46 rfl (by kernel_rfl)) ?_))))))
   refine am nG MI MI ((nH (q:=e15.va) (x31) hW31 f15_0 f15_1 (by simp only[List.length_append];omega))) ?_
   rintro v37 w37 ⟨v37,hW37,st37⟩
   have x37:=st37.ext (x31) hW31.ge hW31.new
   have k5c:=st37.mv.blk k5b n5b
   refine ag (ab (aa (ae MI MI (ah MI MI (aq (o:=5) Mn MI (by kernel_rfl) MI) (ak MI MI (ai Mm MI (k5c.cell (i:=5) MI)) ?_)))))
   refine am j6 MI MI ((j7 (ps:=e15.pf) (x37) hW37 f15_2 hm.2 (by simp only[List.length_append];omega))) ?_
   rintro v41 w41 ⟨v41,hW41,st41⟩
   have x41:=st41.ext (x37) hW37.ge hW37.new
   refine ag (aS (ab (aa (al (r:=I ((i+1:Nat):Int)) MI MI MI (by have e:((i+1:Nat):Int)=(i:Int)+1:=(by omega);rw[e];exact aN (by omega) (by omega)) ?_))))
   refine ae MI MI (ag ?_)
   refine dD (i+1) (v41) ⟨rfl,rfl,rfl,rfl,trivial⟩ ⟨by
    rw[du (by omega),←he15,←List.append_assoc,←hpre]
    simpa only[dY,List.append_assoc] using hW41,((((st1.trans (dg.of_ext (x3_3.trans x20))).trans st21).trans ((dg.of_ext x30).trans st31)).trans st37).trans st41,x41,by omega⟩ (by omega)
 ·refine bc (aJ (aJ (bf (jS MI ?_))))
  exact⟨_,rfl,u,by rw[List.take_of_length_le (by omega),List.append_assoc] at hW1;exact hW1,st1⟩
theorem BN {T:TypeId} {wz w:World} {g:Nat} {l:List UInt8} {n:aW} {vl x y vk vp v:Value}
 (ih:∀k∈n.kids,∀{w:World} {l:List UInt8} {vl x y vk vp v:Value},aK wz w→gL T wz.heap.size g l v w→cA cY k.lems vl wz→bm k.split.at_.2.1 x wz→bm k.split.at_.2.2 y wz→cA bG k.kids vk wz→cA bN k.pf vp wz→wN k→l.length+(dE k).length≤4398046511104→
   Calls Tryz.prog 115 #[.pointer (some ⟨g,0,none⟩),.agg #[vl,I k.split.kd,I k.split.ix,B k.split.at_.1,x,y,vk,B k.empty,vp]] w (bE fun _ w'=>Jo T wz.heap.size g (l++dE k) v w w'))
 (ez:aK wz w) (hW:gL T wz.heap.size g l v w) (hl:cA cY n.lems vl wz) (hx:bm n.split.at_.2.1 x wz) (hy:bm n.split.at_.2.2 y wz) (hk:cA bG n.kids vk wz) (hp:cA bN n.pf vp wz) (hw:wN n) (hb:l.length+(dE n).length≤4398046511104):
 Calls Tryz.prog 115 #[.pointer (some ⟨g,0,none⟩),.agg #[vl,I n.split.kd,I n.split.ix,B n.split.at_.1,x,y,vk,B n.empty,vp]] w (bE fun _ w'=>Jo T wz.heap.size g (l++dE n) v w w'):=by
 refine enter (vs:=[.pointer (some ⟨g,0,none⟩),.agg #[vl,I n.split.kd,I n.split.ix,B n.split.at_.1,x,y,vk,B n.empty,vp]]) Tryz.func115 MI MI MI ?_
 have hll:=hk.len
 obtain⟨wl,wd,wp,wk⟩:=(tN n).1 hw
 have hen:=mC n
 refine af (aa ?_)
 obtain⟨g3,w3,hr3,l3,x3,k3⟩:=cC (P:=Tryz.prog) (w:=w) (T:=52) (cs:=[vl,I n.split.kd,I n.split.ix,B n.split.at_.1,x,y,vk,B n.empty,vp])
 refine cG MI MI hr3 (ag (ab (af (aa (ac MI MI (ag (ab (af (aF (af (aa (ah MI MI (aq (o:=6) L9 MI (by kernel_rfl) MI) ?_))))))))))))
 refine ak MI MI (ai Mk MI (k3.cell (i:=6) MI)) (aP MI MI (bg Mk (hk.ext (ez.trans x3))) ?_)
 refine al MI MI MI (bV) (ac MI MI (ag (ab ?_)))
 refine bw MI (fun h7=>?_) (fun h7=>?_)
 ·have h0:¬n.kids.length=0:=by omega
  rw[if_neg h0] at hen
  have hel:(dE n).length=1+(ey n.lems).length+(fJ n.split).length+(n.kids.flatMap dE).length:=by rw[hen];simp only[List.length_append,List.length_cons,List.length_nil]
  refine aa (ac MI MI (ag (aS (ab (af ?_)))))
  have hW3:=hW.ext x3
  have kg:=hW3.blk
  have n3:=hW.off_new l3
  refine aa (ae MI MI (ae MI MI (ax MI MI ?_)))
  refine ah MI MI jD ?_
  refine ak MI MI (ai Mg MI kg.k0) (ae MI MI ?_)
  obtain⟨v21,w21,hr21,x21,o21,ob21⟩:=dX (w:=w3) w3.heap.size [2] (by simp) (Nat.le_refl _)
  refine aI (vs:=[(0,U8 2)]) MI MI hr21 ?_
  obtain⟨v22,wa22,wb22,hr22,hs22,hW22,st22⟩:=gL.put (t:=22) (t2:=22) (ty:=22) Tryz.underlying22 jC Tryz.underlying22 (hW3.ext x21) (((ez.trans x3).trans x21)).size o21.bts (by simp) (by simp only[List.length_cons,List.length_nil];omega)
  refine a6 MI MI hr22 ?_
  refine ax MI MI ?_
  refine ah MI MI jD ?_
  refine ar MI MI hs22 ?_
  have x22:=st22.ext (((ez.trans x3).trans x21)) (hW3.ext x21).ge (hW3.ext x21).new
  have k3a:=st22.mv.blk (k3.ext x21) n3
  have n3a:=st22.off n3 (k3.ext x21).lt
  refine ag (ab (af (aa (ae MI MI (ah MI MI (aq (o:=0) L9 MI (by kernel_rfl) MI) (ak MI MI (ai Ml MI (k3a.cell (i:=0) MI)) ?_))))))
  refine am oX MI MI ((oZ (ls:=n.lems) (x22) hW22 hl wl (by simp only[List.length_append,List.length_cons,List.length_nil];omega))) ?_
  rintro v28 w28 ⟨v28,hW28,st28⟩
  have x28:=st28.ext (x22) hW22.ge hW22.new
  have k3b:=st28.mv.blk k3a n3a
  have n3b:=st28.off n3a k3a.lt
  refine ag (ab (af (af (aa (ae MI MI ?_)))))
  refine al (u:=U8 2) (v:=U8 2) (r:=B false) MI MI MI (dm (show ¬(2:UInt8)<2 by decide) kG) ?_
  refine ag (ab (cq MI (aA (ab (af (aa (ae MI MI (ah MI MI (aq (o:=1) L9 MI (by kernel_rfl) MI) ?_))))))))
  refine ak rfl rfl (k3b.ldO (ms:=[I n.split.kd,I n.split.ix,B n.split.at_.1,x,y]) (o:=1) (fun j v hj=>by rcases j with _|_|_|_|_|_|_|_|_|j<;>simp_all) Tryz.underlying48 rfl (by kernel_rfl)) ?_
  refine am C8 MI MI ((Db (d:=n.split) (x28) hW28 hx hy wd (by simp only[List.length_append,List.length_cons,List.length_nil];omega))) ?_
  rintro v38 w38 ⟨v38,hW38,st38⟩
  have x38:=st38.ext (x28) hW28.ge hW28.new
  have k3c:=st38.mv.blk k3b n3b
  obtain⟨pre,hpre⟩:∃pre,pre=l++[2]++ey n.lems++fJ n.split:=⟨_,rfl⟩
  have hprl:pre.length=l.length+1+(ey n.lems).length+(fJ n.split).length:=by rw[hpre];simp only[List.length_append,List.length_cons,List.length_nil]
  rw[←hpre] at hW38
  refine ag (ab (af (aa (ah MI MI (aq (o:=6) L9 MI (by kernel_rfl) MI) (ak MI MI (ai Mk MI (k3c.cell (i:=6) MI)) ?_)))))
  refine aP MI MI (bg (f:=bG) Mk (hk.ext (x38))) ?_
  refine ae MI MI (ag (ab (aF ?_)))
  refine fl (fun(i:Nat) (u:Value)=>[(0,.pointer (some ⟨g,0,none⟩)),(40,vk),(41,I (n.kids.length:Int)),(42,I (i:Int))]) (fun(i:Nat) (u:Value) w'=>gL T wz.heap.size g (pre++(n.kids.take i).flatMap dE) u w'∧dg g v w u w'∧aK wz w'∧i≤n.kids.length) (fun(i:Nat) (u:Value)=>n.kids.length-i) (0) (v38) ⟨rfl,rfl,rfl,rfl,trivial⟩ ⟨by simpa using hW38,(((dg.of_ext (x3.trans x21)).trans st22).trans st28).trans st38,x38,by omega⟩ ?_
  rintro i u wL ⟨hW1,st1,eL,hi⟩
  refine af (aa (al MI MI MI (a9) (ag (ab (af ?_)))))
  refine bw MI (fun h43=>?_) (fun h43=>?_)
  ·refine aA (ab (af (aF (af (aa ?_)))))
   obtain⟨a44,c44,p44,q44,h44⟩:=bZ (P:=Tryz.prog) (sz:=9) Mk (by kernel_rfl) cw (by omega) hk (i:=i) (by omega) .i64
   obtain⟨e44,he44⟩:∃e,e=n.kids[i]'(by omega):=⟨_,rfl⟩
   rw[←he44] at h44
   obtain⟨x44_0,x44_1,x44_2,x44_3,x44_4,rfl,f44_0,f44_1,f44_2,f44_3,f44_4⟩:=dW h44
   refine av MI MI MI (p44 _) ?_
   have hfl:=fL (f:=dE) (l:=n.kids) (i:=i) (by omega)
   rw[←he44] at hfl
   have hmem:e44∈n.kids:=by rw[he44];exact List.getElem_mem _
   refine ak MI MI ((q44.ext eL).ld L9 MI (by kernel_rfl)) ?_
   obtain⟨g6,w6,hr6,l6,x6,k6⟩:=aY (P:=Tryz.prog) (w:=wL) (t:=52) (z:=.agg #[.slice none 0 0,I 0,I 0,B false,.slice none 0 0,.slice none 0 0,.slice none 0 0,B false,.slice none 0 0]) (l:=[.slice none 0 0,I 0,I 0,B false,.slice none 0 0,.slice none 0 0,.slice none 0 0,B false,.slice none 0 0]) (by kernel_rfl) rfl
   refine aV MI hr6 ?_
   obtain⟨w13_3,s13_3,q13_3,k13_3⟩:=k6.stS (P:=Tryz.prog) (t:=52) (m:=[x44_0,I e44.split.kd,I e44.split.ix,B e44.split.at_.1,x44_1,x44_2,x44_3,B e44.empty,x44_4]) rfl (by kernel_rfl) (au.cons f44_0.one (au.cons rfl (au.cons rfl (au.cons rfl (au.cons f44_1.one (au.cons f44_2.one (au.cons f44_3.one (au.cons rfl (au.cons f44_4.one au.nil)))))))))
   refine ar MI MI s13_3 ?_
   have x13_3:=aK.of_new (x6) q13_3 l6
   refine ag (ab (aa (ae MI MI (ak MI MI (k13_3.ld Tryz.underlying52 MI (by kernel_rfl)) (am uw MI MI ((ih e44 hmem ((eL.trans x13_3)) (hW1.ext x13_3) f44_0 f44_1 f44_2 f44_3 f44_4 (wk e44 hmem) (by simp only[List.length_append];omega))) ?_)))))
   rintro v48 w48 ⟨v48,hW48,st48⟩
   have x48:=st48.ext ((eL.trans x13_3)) hW1.ge hW1.new
   refine ag (aS (ab (aa (al (r:=I ((i+1:Nat):Int)) MI MI MI (by have e:((i+1:Nat):Int)=(i:Int)+1:=(by omega);rw[e];exact aN (by omega) (by omega)) ?_))))
   refine ae MI MI (ag ?_)
   refine dD (i+1) (v48) ⟨rfl,rfl,rfl,rfl,trivial⟩ ⟨by rw[du (by omega),←he44,←List.append_assoc];exact hW48,(st1.trans (dg.of_ext x13_3)).trans st48,x48,by omega⟩ (by omega)
  ·refine bc (aJ (aJ (bf (jS MI ?_))))
   exact⟨_,rfl,u,by rw[List.take_of_length_le (by omega),hpre] at hW1;rw[hen];simpa only[List.append_assoc] using hW1,st1⟩
 ·have h0:n.kids.length=0:=by omega
  rw[if_pos h0] at hen
  have hel:(dE n).length=1+(ey n.lems).length+(iZ n.pf).length:=by rw[hen];simp only[List.length_append,uS]
  refine af (aa (ah MI MI (aq (o:=7) L9 MI (by kernel_rfl) MI) (ak MI MI (ai Mi MI (k3.cell (i:=7) MI)) ?_)))
  refine ac MI MI (ag (ab ?_))
  refine fP MI (fun h12=>?_) (fun h12=>?_)
  ·have hbit:vU n.empty=[1]:=by rw[h12];rfl
   refine aa (ac MI MI (ag (aS (ab (af ?_)))))
   have hW3:=hW.ext x3
   have kg:=hW3.blk
   have n3:=hW.off_new l3
   refine aa (ae MI MI (ae MI MI (ax MI MI ?_)))
   refine ah MI MI jD ?_
   refine ak MI MI (ai Mg MI kg.k0) (ae MI MI ?_)
   obtain⟨v21,w21,hr21,x21,o21,ob21⟩:=dX (w:=w3) w3.heap.size [1] (by simp) (Nat.le_refl _)
   refine aI (vs:=[(0,U8 1)]) MI MI hr21 ?_
   obtain⟨v22,wa22,wb22,hr22,hs22,hW22,st22⟩:=gL.put (t:=22) (t2:=22) (ty:=22) Tryz.underlying22 jC Tryz.underlying22 (hW3.ext x21) (((ez.trans x3).trans x21)).size o21.bts (by simp) (by simp only[List.length_cons,List.length_nil];omega)
   refine a6 MI MI hr22 ?_
   refine ax MI MI ?_
   refine ah MI MI jD ?_
   refine ar MI MI hs22 ?_
   have x22:=st22.ext (((ez.trans x3).trans x21)) (hW3.ext x21).ge (hW3.ext x21).new
   have k3a:=st22.mv.blk (k3.ext x21) n3
   have n3a:=st22.off n3 (k3.ext x21).lt
   refine ag (ab (af (aa (ae MI MI (ah MI MI (aq (o:=0) L9 MI (by kernel_rfl) MI) (ak MI MI (ai Ml MI (k3a.cell (i:=0) MI)) ?_))))))
   refine am oX MI MI ((oZ (ls:=n.lems) (x22) hW22 hl wl (by simp only[List.length_append,List.length_cons,List.length_nil];omega))) ?_
   rintro v28 w28 ⟨v28,hW28,st28⟩
   have x28:=st28.ext (x22) hW22.ge hW22.new
   have k3b:=st28.mv.blk k3a n3a
   have n3b:=st28.off n3a k3a.lt
   refine ag (ab (af (af (aa (ae MI MI ?_)))))
   refine al (u:=U8 1) (v:=U8 2) (r:=B true) MI MI MI (cJ (show(1:UInt8)<2 by decide) kG) ?_
   refine ag (ab (bh MI (af (aa (ae MI MI (ah MI MI (aq (o:=8) L9 MI (by kernel_rfl) MI) (ak MI MI (ai Mm MI (k3b.cell (i:=8) MI)) ?_)))))))
   refine am j6 MI MI ((j7 (ps:=n.pf) (x28) hW28 hp wp (by simp only[List.length_append,List.length_cons,List.length_nil];omega))) ?_
   rintro v34 w34 ⟨v34,hW34,st34⟩
   have x34:=st34.ext (x28) hW28.ge hW28.new
   refine ag (ab (aw (ay (DK MI ?_))))
   exact⟨_,rfl,v34,by rw[hen,hbit];simpa only[List.append_assoc] using hW34,(((dg.of_ext (x3.trans x21)).trans st22).trans st28).trans st34⟩
  ·have hbit:vU n.empty=[0]:=by rw[h12];rfl
   refine aA (aS (ab (af ?_)))
   have hW3:=hW.ext x3
   have kg:=hW3.blk
   have n3:=hW.off_new l3
   refine aa (ae MI MI (ae MI MI (ax MI MI ?_)))
   refine ah MI MI jD ?_
   refine ak MI MI (ai Mg MI kg.k0) (ae MI MI ?_)
   obtain⟨v21,w21,hr21,x21,o21,ob21⟩:=dX (w:=w3) w3.heap.size [0] (by simp) (Nat.le_refl _)
   refine aI (vs:=[(0,U8 0)]) MI MI hr21 ?_
   obtain⟨v22,wa22,wb22,hr22,hs22,hW22,st22⟩:=gL.put (t:=22) (t2:=22) (ty:=22) Tryz.underlying22 jC Tryz.underlying22 (hW3.ext x21) (((ez.trans x3).trans x21)).size o21.bts (by simp) (by simp only[List.length_cons,List.length_nil];omega)
   refine a6 MI MI hr22 ?_
   refine ax MI MI ?_
   refine ah MI MI jD ?_
   refine ar MI MI hs22 ?_
   have x22:=st22.ext (((ez.trans x3).trans x21)) (hW3.ext x21).ge (hW3.ext x21).new
   have k3a:=st22.mv.blk (k3.ext x21) n3
   have n3a:=st22.off n3 (k3.ext x21).lt
   refine ag (ab (af (aa (ae MI MI (ah MI MI (aq (o:=0) L9 MI (by kernel_rfl) MI) (ak MI MI (ai Ml MI (k3a.cell (i:=0) MI)) ?_))))))
   refine am oX MI MI ((oZ (ls:=n.lems) (x22) hW22 hl wl (by simp only[List.length_append,List.length_cons,List.length_nil];omega))) ?_
   rintro v28 w28 ⟨v28,hW28,st28⟩
   have x28:=st28.ext (x22) hW22.ge hW22.new
   have k3b:=st28.mv.blk k3a n3a
   have n3b:=st28.off n3a k3a.lt
   refine ag (ab (af (af (aa (ae MI MI ?_)))))
   refine al (u:=U8 0) (v:=U8 2) (r:=B true) MI MI MI (cJ (show(0:UInt8)<2 by decide) kG) ?_
   refine ag (ab (bh MI (af (aa (ae MI MI (ah MI MI (aq (o:=8) L9 MI (by kernel_rfl) MI) (ak MI MI (ai Mm MI (k3b.cell (i:=8) MI)) ?_)))))))
   refine am j6 MI MI ((j7 (ps:=n.pf) (x28) hW28 hp wp (by simp only[List.length_append,List.length_cons,List.length_nil];omega))) ?_
   rintro v34 w34 ⟨v34,hW34,st34⟩
   have x34:=st34.ext (x28) hW28.ge hW28.new
   refine ag (ab (aw (ay (DK MI ?_))))
   exact⟨_,rfl,v34,by rw[hen,hbit];simpa only[List.append_assoc] using hW34,(((dg.of_ext (x3.trans x21)).trans st22).trans st28).trans st34⟩
theorem ux {T:TypeId} {wz:World} {g:Nat}:∀(m:Nat) {n:aW},SizeOf.sizeOf n≤m→∀{w:World} {l:List UInt8} {vl x y vk vp v:Value},aK wz w→gL T wz.heap.size g l v w→cA cY n.lems vl wz→bm n.split.at_.2.1 x wz→bm n.split.at_.2.2 y wz→cA bG n.kids vk wz→cA bN n.pf vp wz→wN n→l.length+(dE n).length≤4398046511104→
 Calls Tryz.prog 115 #[.pointer (some ⟨g,0,none⟩),.agg #[vl,I n.split.kd,I n.split.ix,B n.split.at_.1,x,y,vk,B n.empty,vp]] w (bE fun _ w'=>Jo T wz.heap.size g (l++dE n) v w w')
 |0,n,hm=>by cases n;simp at hm
 |m+1,n,hm=>fun h1 h2 h3 h4 h5 h6 h7 h8 h9=>BN (fun k hk _ _ _ _ _ _ _ _=>ux m (by have:=aW.lt_of_mem hk;omega)) h1 h2 h3 h4 h5 h6 h7 h8 h9
theorem gL.mk1 {T:TypeId} {w0 w w':World} {g:Nat} {l:List UInt8} {v:Value} (e:aK w0 w) (ho:cW w0.heap.size l v w) (x:aK w w') (hg:w.heap.size≤g) (k:ci g T [v] w'):gL T w0.heap.size g l v w':=
 ⟨Nat.le_trans e.size hg,k,.inl (ho.ext x),ho.ge,fun h=>by have:=ho.lt g h;omega,fun n hn=>Nat.lt_of_lt_of_le (ho.lt n hn) x.size⟩
theorem Dc {w:World} {b:List UInt8} {bv:Value} {n:aW} {vl x y vk vp:Value} (hbv:cz b bv w) (hl:cA cY n.lems vl w) (hx:bm n.split.at_.2.1 x w) (hy:bm n.split.at_.2.2 y w) (hk:cA bG n.kids vk w) (hp:cA bN n.pf vp w) (hw:wN n) (hb:b.length+(dE n).length≤4398046511104):
 Calls Tryz.prog 77 #[bv,.agg #[vl,I n.split.kd,I n.split.ix,B n.split.at_.1,x,y,vk,B n.empty,vp]] w (bE fun r w'=>aK w w'∧cz (b++dE n) r w'):=by
 refine enter (vs:=[bv,.agg #[vl,I n.split.kd,I n.split.ix,B n.split.at_.1,x,y,vk,B n.empty,vp]]) Tryz.func77 MI MI MI ?_
 refine af (aa ?_)
 obtain⟨g3,w3,hr3,l3,x3,k3⟩:=cC (P:=Tryz.prog) (w:=w) (T:=52) (cs:=[vl,I n.split.kd,I n.split.ix,B n.split.at_.1,x,y,vk,B n.empty,vp])
 refine cG MI MI hr3 (ac MI MI (ag (ab (af (aa ?_)))))
 obtain⟨v6,w6,hr6,x6,o6,ob6⟩:=dX (w:=w3) w3.heap.size [] (by simp) (Nat.le_refl _)
 refine aI (vs:=[]) MI MI hr6 (ae MI MI ?_)
 obtain⟨v8,w8,hr8,o8,g8⟩:=dj (ty:=22) o6 (hbv.ext (x3.trans x6)) (by simp;omega) (x6).size
 have x8:=aK.of_grew (x6) g8 o6.ge
 refine a6 MI MI hr8 ?_
 have o8w:cW w.heap.size b v8 w8:=by have:=o8;rw[List.nil_append] at this;exact this.low x3.size
 obtain⟨A8,n8,c8,e8,_⟩:=o8w.bts
 refine bz (vs:=[(0,v8)]) (r:=.agg #[v8]) MI MI (by rw[e8];exact run_build _ _ _ _ (by kernel_rfl)) ?_
 obtain⟨g10,w10,hr10,l10,x10,k10⟩:=cC (P:=Tryz.prog) (w:=w8) (T:=142) (cs:=[v8])
 refine cG MI MI hr10 ?_
 have hW10:gL 142 w.heap.size g10 b v8 w10:=gL.mk1 ((x3.trans x8)) o8w x10 l10 k10
 refine ac MI MI (ag (ab (af (aa (ae MI MI (ak MI MI ((k3.ext (x8.trans x10)).ld L9 MI (by kernel_rfl)) ?_))))))
 refine am uw MI MI ((ux _ (Nat.le_refl _) (((x3.trans x8).trans x10)) hW10 hl hx hy hk hp hw hb)) ?_
 rintro v13 w13 ⟨v13,hW13,st13⟩
 have x13:=st13.ext (((x3.trans x8).trans x10)) hW10.ge hW10.new
 refine ag (ab (af ?_))
 have kg:=hW13.blk
 refine aa (ae MI MI (ax MI MI ?_))
 refine ah MI MI jD ?_
 refine ak MI MI (ai Mg MI kg.k0) (ac MI MI (ag (ab (aw (az MI MI ?_)))))
 exact⟨_,rfl,x13,hW13.row.bts⟩
end Go.Rl
namespace Go.Rl
open Go.RowKit Go.Proofs
end Go.Rl
namespace Go.Rl
open Go.RowKit Go.Proofs Go.Proofs.YtpeidnhjcompmaaGreatDoor
theorem jh:aG Tryz.prog 110:=⟨_,Tryz.func110,by kernel_rfl,rfl⟩
theorem fM:aG Tryz.prog 109:=⟨_,Tryz.func109,by kernel_rfl,rfl⟩
def F0 (k:Int):Int:=if k=1 then 2 else if k=2 then 1 else if k=3 then 4 else if k=4 then 3 else k
def dF (d:bS):bS:=⟨F0 d.kd,d.ix,d.at_⟩
theorem H6 {k:Int} (h:¬(k>0∧k<5)):F0 k=k:=by
 unfold F0
 repeat rw[if_neg (by omega)]
theorem H7 {w:World} (h:zH w) {k:Int} (h1:k>0) (h2:k<5):∃j:Nat,k=(j:Int)∧j<5∧w.cell? ⟨0,0+j,none⟩=some (I (F0 k)):=by
 have hc:∀(j:Nat) (u:Value),[I 0,I 2,I 1,I 4,I 3][j]? =some u→w.cell? ⟨0,0+j,none⟩=some u:=fun j u hu=>by
  have:=h j u hu
  rwa [Addr.add_mid] at this
 obtain⟨j,rfl⟩:∃j:Nat,k=(j:Int):=⟨k.toNat,by omega⟩
 refine⟨j,rfl,by omega,?_⟩
 have:j=1∨j=2∨j=3∨j=4:=by omega
 rcases this with rfl|rfl|rfl|rfl
 ·exact hc 1 _ rfl
 ·exact hc 2 _ rfl
 ·exact hc 3 _ rfl
 ·exact hc 4 _ rfl
theorem o0:(Tryz.prog.info? 48).map (fun i=>(i.zero,i.size,i.bytes))=some (some (.agg #[I 0,I 0,B false,.slice none 0 0,.slice none 0 0]),5,72):=by kernel_rfl
theorem yJ:(Tryz.prog.info? 48).map (fun i=>(i.zero,i.size))=some (some (.agg #[I 0,I 0,B false,.slice none 0 0,.slice none 0 0]),5):=by kernel_rfl
theorem BO {d:bS} (h:¬(d.kd>0∧d.kd<5)):dF d=d:=by
 unfold dF
 rw[H6 h]
theorem ji {w:World} {d:bS} {x y:Value} (ho:zH w) (hx:bm d.at_.2.1 x w) (hy:bm d.at_.2.2 y w):
 Calls Tryz.prog 110 #[.agg #[I d.kd,I d.ix,B d.at_.1,x,y]] w (bE fun r w'=>aK w w'∧r=.agg #[I (dF d).kd,I (dF d).ix,B (dF d).at_.1,x,y]):=by
 refine enter (vs:=[.agg #[I d.kd,I d.ix,B d.at_.1,x,y]]) Tryz.func110 MI MI MI ?_
 refine af (aa ?_)
 obtain⟨g1,w1,hr1,l1,x1,k1⟩:=cC (P:=Tryz.prog) (w:=w) (T:=48) (cs:=[I d.kd,I d.ix,B d.at_.1,x,y])
 refine cG MI MI hr1 ?_
 obtain⟨g2,w2,hr2,l2,x2,k2⟩:=aY (P:=Tryz.prog) (w:=w1) (t:=48) (z:=.agg #[I 0,I 0,B false,.slice none 0 0,.slice none 0 0]) (l:=[I 0,I 0,B false,.slice none 0 0,.slice none 0 0]) (by kernel_rfl) rfl
 refine aV MI hr2 (ag (ab (af (af (aa (ah MI MI (aq (o:=0) Mc MI (by kernel_rfl) MI) (ak MI MI (ai Me MI (x2.cell_some (k1.cell (i:=0) MI))) ?_)))))))
 refine al MI MI MI (bV) (ae MI MI ?_)
 refine cd (fun h6=>?_) (fun h6=>?_)
 ·refine aj MI (ah MI MI (aq (o:=0) Mc MI (by kernel_rfl) MI) (aj MI (ak MI MI (ai Me MI (x2.cell_some (k1.cell (i:=0) MI))) ?_)))
  refine aj MI (al MI MI MI (a9) (ap MI MI MI (ag (ab ?_))))
  refine bw MI (fun h10=>?_) (fun h10=>?_)
  ·have h10:d.kd<5:=h10
   obtain⟨j,hj,hj5,cj⟩:=H7 (ho.ext (x1.trans x2)) h6 h10
   refine aa (ah MI MI (aq (o:=0) Mc MI (by kernel_rfl) MI) (ak MI MI (ai Me MI (x2.cell_some (k1.cell (i:=0) MI))) ?_))
   refine av (v:=.int .i64 (j:Int)) MI (by rw[hj];rfl) MI (iF Tryz.underlying225 (by kernel_rfl) hj5 .i64) ?_
   refine ak MI MI (ai Me MI cj) (ah MI MI (aq (o:=0) Mc MI (by kernel_rfl) MI) ?_)
   obtain⟨w2_5,s2_5,q2_5,k2_5⟩:=(k1.ext x2).stC (P:=Tryz.prog) (t:=3) (i:=0) (v:=I (F0 d.kd)) (by kernel_rfl) rfl (by simp)
   refine ar MI MI s2_5 ?_
   have x2_5:=aK.of_new ((x1.trans x2)) q2_5 l1
   have k25:=k2.other q2_5 (fun e=>by have:=Option.some.inj e;have:=k1.lt;omega)
   refine ag (ab (af (aa (ak MI MI (k2_5.ld Mc MI (by kernel_rfl)) ?_))))
   obtain⟨w3_1,s3_1,q3_1,k3_1⟩:=k25.stS (P:=Tryz.prog) (t:=48) (m:=[I (F0 d.kd),I d.ix,B d.at_.1,x,y]) rfl (by kernel_rfl) (au.cons rfl (au.cons rfl (au.cons rfl (au.cons hx.one (au.cons hy.one au.nil)))))
   refine ar MI MI s3_1 ?_
   have x3_1:=aK.of_new x2_5 q3_1 (Nat.le_trans x1.size l2)
   refine ag (ab (aw ?_))
   refine dt MI MI k3_1 Mc MI (by kernel_rfl) ?_
   exact⟨_,rfl,x3_1,rfl⟩
  ·have h10:¬d.kd<5:=h10
   refine aA (ab (af (aa (ak MI MI ((k1.ext x2).ld Mc MI (by kernel_rfl)) ?_))))
   obtain⟨w3_1,s3_1,q3_1,k3_1⟩:=k2.stS (P:=Tryz.prog) (t:=48) (m:=[I d.kd,I d.ix,B d.at_.1,x,y]) rfl (by kernel_rfl) (au.cons rfl (au.cons rfl (au.cons rfl (au.cons hx.one (au.cons hy.one au.nil)))))
   refine ar MI MI s3_1 ?_
   have x3_1:=aK.of_new (x2) q3_1 l2
   refine ag (ab (aw ?_))
   refine dt MI MI k3_1 Mc MI (by kernel_rfl) ?_
   exact⟨_,rfl,(x1.trans x3_1),by rw[BO (by first|exact fun h=>h6 h.1|exact fun h=>h10 h.2)]⟩
 ·refine an MI MI MI (an MI MI MI (an MI MI MI (aD MI MI MI (ag (ab (cq MI (aA (ab (af (aa (ak MI MI ((k1.ext x2).ld Mc MI (by kernel_rfl)) ?_)))))))))))
  obtain⟨w3_1,s3_1,q3_1,k3_1⟩:=k2.stS (P:=Tryz.prog) (t:=48) (m:=[I d.kd,I d.ix,B d.at_.1,x,y]) rfl (by kernel_rfl) (au.cons rfl (au.cons rfl (au.cons rfl (au.cons hx.one (au.cons hy.one au.nil)))))
  refine ar MI MI s3_1 ?_
  have x3_1:=aK.of_new (x2) q3_1 l2
  refine ag (ab (aw ?_))
  refine dt MI MI k3_1 Mc MI (by kernel_rfl) ?_
  exact⟨_,rfl,(x1.trans x3_1),by rw[BO (by first|exact fun h=>h6 h.1|exact fun h=>h10 h.2)]⟩
theorem ce (d:bS):(dy d).size=5:=rfl
theorem Ad {w:World} {d:bS} {x y:Value} (hx:bm d.at_.2.1 x w) (hy:bm d.at_.2.2 y w):Rp w (dy d) [I d.kd,I d.ix,B d.at_.1,x,y]:=by
 simp only[dy,qk,Rp]
 have h3:Rp w (iY d.at_) [B d.at_.1,x,y]:=by
  simp only[iY,Rp]
  exact bD.cons (a:=[B d.at_.1]) (by simp only[Rp,B]) (bD.cons (a:=[x]) (Rp.words.2 hx) (bD.cons (b:=[]) (Rp.words.2 hy) bD.nil))
 exact bD.cons (a:=[I d.kd]) (by simp only[Rp,I]) (bD.cons (a:=[I d.ix]) (by simp only[Rp,I]) (by simpa using bD.cons h3 bD.nil))
theorem ju {w:World} {d:bS} {x y:Value}:∃r w',(Instr.buildSlice 41 1 (eu 0 [Value.agg #[I d.kd,I d.ix,B d.at_.1,x,y]]).toArray).run Tryz.prog w=.ok r w'∧aK w w'∧Sl 5 [I d.kd,I d.ix,B d.at_.1,x,y] r w':=by
 obtain⟨r,w',a,b,c,_⟩:=ym (P:=Tryz.prog) (w:=w) Tryz.underlying41 yJ rfl (by omega) [[I d.kd,I d.ix,B d.at_.1,x,y]] (by simp) (by simp) (by simp)
 exact⟨r,w',a,b,c⟩
end Go.Rl
namespace Go.Rl
open Go.RowKit Go.Proofs
end Go.Rl
namespace Go.Rl
open Go.RowKit Go.Proofs
theorem kV:aG Tryz.prog 104:=⟨_,Tryz.func104,by kernel_rfl,rfl⟩
theorem tP:aG Tryz.prog 58:=⟨_,Tryz.func58,by kernel_rfl,rfl⟩
theorem wW:aG Tryz.prog 62:=⟨_,Tryz.func62,by kernel_rfl,rfl⟩
theorem wX:aG Tryz.prog 107:=⟨_,Tryz.func107,by kernel_rfl,rfl⟩
theorem wY:aG Tryz.prog 63:=⟨_,Tryz.func63,by kernel_rfl,rfl⟩
theorem gD:aG Tryz.prog 59:=⟨_,Tryz.func59,by kernel_rfl,rfl⟩
def sQ (q:fi):Prop:=q.2.1.length≤1073741824∧q.2.2.length≤1073741824
def sP (l:List cb):Prop:=∀m∈l,sQ m.co
def sL (m:dI):Prop:=sQ m.va∧sP m.pf
mutual
def sN:aW→Prop
 |.mk lems sp kids _ pf=>(∀m∈lems,sL m)∧sQ sp.at_∧sP pf∧LX kids
def LX:List aW→Prop
 |[]=>True
 |n::l=>sN n∧LX l
end
theorem Ew:∀l:List aW,LX l↔∀n∈l,sN n
 |[]=>by simp[LX]
 |n::l=>by simp only[LX,Ew l,List.mem_cons,forall_eq_or_imp]
theorem wZ (n:aW):sN n↔(∀m∈n.lems,sL m)∧sQ n.split.at_∧sP n.pf∧∀k∈n.kids,sN k:=by
 cases n with
 |mk l s k e p=>simp only[sN,Ew];rfl
theorem nI {w:World} {q:fi} {x y:Value} (hx:bm q.2.1 x w) (hy:bm q.2.2 y w) (hs:sQ q):
 Calls Tryz.prog 59 #[.agg #[B q.1,x,y]] w (bE fun r w'=>aK w w'∧r=B (fG q)):=
 oC (b:=q.1) ⟨x,y,rfl,hx,hy⟩ (by have:=hs.1;omega) (by have:=hs.2;omega)
theorem o2 {w:World} {q:fi} {x y:Value} {b:Bool} (hx:bm q.2.1 x w) (hy:bm q.2.2 y w) (hs:sQ q) (hb:fG q=b):
 Calls Tryz.prog 59 #[.agg #[B q.1,x,y]] w (bE fun r w'=>aK w w'∧r=B b):=hb▸nI hx hy hs
theorem Dd {w:World} {l:List cb} {v:Value} (hv:cA bN l v w) (hs:sP l):
 Calls Tryz.prog 104 #[v] w (bE fun r w'=>aK w w'∧r=B (mw l)):=by
 refine enter (vs:=[v]) Tryz.func104 MI MI MI ?_
 have hll:=hv.len
 refine af (aa (ac MI MI (ag (ab (af (af (aa (ac MI MI (ag (ab (aF ?_)))))))))))
 refine cg (α:=Nat) (fun i=>[(0,v),(3,I (i:Int))]) (fun i w'=>aK w w'∧i≤l.length∧(l.all fun m:cb=>fG m.co)=((l.drop i).all fun m:cb=>fG m.co)) (fun i=>l.length-i) (0) ⟨rfl,rfl,trivial⟩ ⟨aK.refl _,by omega,rfl⟩ ?_
 rintro i wL ⟨eL,hi,hall⟩
 refine af (af (aa (ae MI MI (ae MI MI (aP MI MI (bg Mm (hv.ext eL)) (al MI MI MI (a9) (ag (ab ?_))))))))
 refine bw MI (fun h7=>?_) (fun h7=>?_)
 ·refine aA (ab (af (aF (af (aa (ae MI MI (ae MI MI ?_)))))))
  obtain⟨a12,c12,p12,q12,h12⟩:=bZ (P:=Tryz.prog) (sz:=7) Mm (by kernel_rfl) dA (by omega) (hv.ext eL) (i:=i) (by omega) .i64
  obtain⟨e12,he12⟩:∃e,e=l[i]'(by omega):=⟨_,rfl⟩
  rw[←he12] at h12
  obtain⟨x12_0,x12_1,rfl,f12_0,f12_1⟩:=gM h12
  refine av rfl rfl rfl (p12 _) (ah rfl rfl (gR (o:=4) Tryz.underlying187 rfl (by kernel_rfl) rfl) (ak rfl rfl (q12.ldO (ms:=[B e12.co.1,x12_0,x12_1]) (o:=4) (fun j v hj=>by rcases j with _|_|_|_|_|_|_|_|_|j<;>simp_all) Tryz.underlying46 rfl (by kernel_rfl)) ?_))
  refine am gD MI MI ((nI (q:=e12.co) f12_0 f12_1 (hs e12 (by rw[he12];exact List.getElem_mem _)))) ?_
  rintro v15 w15 ⟨x15,rfl⟩
  refine bt MI MI bu (ag (ab ?_))
  refine fP MI (fun h16=>?_) (fun h16=>?_)
  ·have hno:fG (l[i]'(by omega)).co=false:=by rw[←he12];rw[Bool.not_eq_true'] at h16;exact h16
   refine af (aa (ac MI MI (ag (ab (aw (aX (ay (ay (aX (ay (az MI MI ?_)))))))))))
   exact⟨_,rfl,(eL.trans x15),congrArg B (gC (p:=fun m:cb=>fG m.co) (by omega) hall hno).symm⟩
  ·have hyes:fG (l[i]'(by omega)).co=true:=by rw[←he12];rw[Bool.not_eq_false'] at h16;exact h16
   refine aA (aS (ab (aa (ae MI MI (al (r:=I ((i+1:Nat):Int)) MI MI MI (by have e:((i+1:Nat):Int)=(i:Int)+1:=(by omega);rw[e];exact aN (by omega) (by omega)) ?_)))))
   refine ac MI MI (ag ?_)
   refine bR (i+1) ⟨rfl,rfl,trivial⟩ ⟨(eL.trans x15),by omega,rf (p:=fun m:cb=>fG m.co) (by omega) hall hyes⟩ (by omega)
 ·refine bc (aJ (aJ (bf (ab (af (aa (ac MI MI (ag (ab (aw (az MI MI ?_)))))))))))
  exact⟨_,rfl,eL,congrArg B (nE (p:=fun m:cb=>fG m.co) (by omega) hall).symm⟩
theorem pa {w:World} {l:List cb} {v:Value} {b:Bool} (hv:cA bN l v w) (hs:sP l) (hb:mw l=b):
 Calls Tryz.prog 104 #[v] w (bE fun r w'=>aK w w'∧r=B b):=hb▸Dd hv hs
theorem F1 {w:World} {n:aW} {vl x y vk vp:Value} (ih:∀k∈n.kids,∀{w:World} {vl x y vk vp:Value},cA cY k.lems vl w→bm k.split.at_.2.1 x w→bm k.split.at_.2.2 y w→cA bG k.kids vk w→cA bN k.pf vp w→sN k→
 Calls Tryz.prog 58 #[.agg #[vl,I k.split.kd,I k.split.ix,B k.split.at_.1,x,y,vk,B k.empty,vp]] w (bE fun r w'=>aK w w'∧r=B (i5 k)))
 (hl:cA cY n.lems vl w) (hx:bm n.split.at_.2.1 x w) (hy:bm n.split.at_.2.2 y w) (hk:cA bG n.kids vk w) (hp:cA bN n.pf vp w) (hs:sN n):
 Calls Tryz.prog 58 #[.agg #[vl,I n.split.kd,I n.split.ix,B n.split.at_.1,x,y,vk,B n.empty,vp]] w (bE fun r w'=>aK w w'∧r=B (i5 n)):=by
 refine enter (vs:=[.agg #[vl,I n.split.kd,I n.split.ix,B n.split.at_.1,x,y,vk,B n.empty,vp]]) Tryz.func58 MI MI MI ?_
 obtain⟨sl,ss,sp,sk⟩:=(wZ n).1 hs
 have hcn:=En n
 have hll:=hl.len
 have hkl:=hk.len
 refine af (aa ?_)
 obtain⟨g1,w1,hr1,l1,x1,k1⟩:=cC (P:=Tryz.prog) (w:=w) (T:=52) (cs:=[vl,I n.split.kd,I n.split.ix,B n.split.at_.1,x,y,vk,B n.empty,vp])
 refine cG MI MI hr1 (ac MI MI (ag (ab (af (af ?_)))))
 rcases hc1:mw n.pf
 rotate_left
 rcases hc2:fG n.split.at_
 ·refine aa (ah MI MI (aq (o:=8) L9 MI (by kernel_rfl) MI) (ak MI MI (ai Mm MI (k1.cell (i:=8) MI)) ?_))
  refine am kV MI MI ((pa (hp.ext x1) sp hc1)) ?_
  rintro v7 w7 ⟨x7,rfl⟩
  refine bt MI MI bu (ae MI MI (aj MI (ah MI MI (aq (o:=1) L9 MI (by kernel_rfl) MI) (aj MI (ah MI MI (cD (b:=1) (o:=2) Mc MI (by kernel_rfl) MI) ?_)))))
  refine aj rfl (ak rfl rfl ((k1.ext x7).ldO (ms:=[B n.split.at_.1,x,y]) (o:=3) (fun j v hj=>by rcases j with _|_|_|_|_|_|_|_|_|j<;>simp_all) Tryz.underlying46 rfl (by kernel_rfl)) ?_)
  refine aj MI (am gD MI MI ((o2 (q:=n.split.at_) (hx.ext (x1.trans x7)) (hy.ext (x1.trans x7)) ss hc2)) ?_)
  rintro v13 w13 ⟨x13,rfl⟩
  refine aj MI (bt MI MI bu (aD MI MI MI (ag (ab (bh MI (af (aa (ac MI MI (ag (ab (aw (ay (az MI MI ?_)))))))))))))
  exact⟨_,rfl,((x1.trans x7).trans x13),by rw[hcn,hc1,hc2];rfl⟩
 ·refine aa (ah MI MI (aq (o:=8) L9 MI (by kernel_rfl) MI) (ak MI MI (ai Mm MI (k1.cell (i:=8) MI)) ?_))
  refine am kV MI MI ((pa (hp.ext x1) sp hc1)) ?_
  rintro v7 w7 ⟨x7,rfl⟩
  refine bt MI MI bu (ae MI MI (aj MI (ah MI MI (aq (o:=1) L9 MI (by kernel_rfl) MI) (aj MI (ah MI MI (cD (b:=1) (o:=2) Mc MI (by kernel_rfl) MI) ?_)))))
  refine aj rfl (ak rfl rfl ((k1.ext x7).ldO (ms:=[B n.split.at_.1,x,y]) (o:=3) (fun j v hj=>by rcases j with _|_|_|_|_|_|_|_|_|j<;>simp_all) Tryz.underlying46 rfl (by kernel_rfl)) ?_)
  refine aj MI (am gD MI MI ((o2 (q:=n.split.at_) (hx.ext (x1.trans x7)) (hy.ext (x1.trans x7)) ss hc2)) ?_)
  rintro v13 w13 ⟨x13,rfl⟩
  refine aj MI (bt MI MI bu (aD MI MI MI (ag (ab (cq MI (aA (ab (af (af (aa (ac MI MI (ag (ab (aF ?_))))))))))))))
  refine cg (α:=Nat) (fun i=>[(1,.pointer (some ⟨g1,0,none⟩)),(3,I (i:Int))]) (fun i w'=>aK w w'∧aK w1 w'∧i≤n.lems.length∧n.lems.all iL=(n.lems.drop i).all iL) (fun i=>n.lems.length-i) (0) ⟨rfl,rfl,trivial⟩ ⟨((x1.trans x7).trans x13),(x7.trans x13),by omega,rfl⟩ ?_
  rintro i wL ⟨eL,e1L,hi,hall⟩
  refine af (af (aa (ae MI MI (ah MI MI (aq (o:=0) L9 MI (by kernel_rfl) MI) (ak MI MI (ai Ml MI (e1L.cell_some (k1.cell (i:=0) MI))) ?_)))))
  refine aP MI MI (bg Ml (hl.ext eL)) (al MI MI MI (a9) (ag (ab ?_)))
  refine bw MI (fun h20=>?_) (fun h20=>?_)
  ·refine aA (ab (af (aF (af ?_))))
   obtain⟨em,hem⟩:∃em,em=n.lems[i]'(by have:=hl.len;omega):=⟨_,rfl⟩
   have hsm:=sl em (by rw[hem];exact List.getElem_mem _)
   rcases hc3:fG em.va
   rotate_left
   rcases hc4:mw em.pf
   ·refine aa (ah MI MI (aq (o:=0) L9 MI (by kernel_rfl) MI) (ak MI MI (ai Ml MI (e1L.cell_some (k1.cell (i:=0) MI))) ?_))
    refine ae MI MI ?_
    obtain⟨a26,c26,p26,q26,h26⟩:=bZ (P:=Tryz.prog) (sz:=6) Ml (by kernel_rfl) cx (by omega) (hl.ext eL) (i:=i) (by omega) .i64
    rw[←hem] at h26
    obtain⟨x26_0,x26_1,x26_2,rfl,f26_0,f26_1,f26_2⟩:=fF h26
    refine av rfl rfl rfl (p26 _) (ah rfl rfl (gR (o:=2) Tryz.underlying173 rfl (by kernel_rfl) rfl) (ak rfl rfl (q26.ldO (ms:=[B em.va.1,x26_0,x26_1]) (o:=2) (fun j v hj=>by rcases j with _|_|_|_|_|_|_|_|_|j<;>simp_all) Tryz.underlying46 rfl (by kernel_rfl)) ?_))
    refine am gD MI MI ((o2 (q:=em.va) f26_0 f26_1 hsm.1 hc3)) ?_
    rintro v29 w29 ⟨x29,rfl⟩
    refine bt MI MI bu (ae MI MI (aj MI (ah MI MI (aq (o:=0) L9 MI (by kernel_rfl) MI) (aj MI (ak MI MI (ai Ml MI ((e1L.trans x29).cell_some (k1.cell (i:=0) MI))) ?_)))))
    refine aj MI (ae MI MI (aj MI ?_))
    obtain⟨a35,c35,p35,q35,h35⟩:=bZ (P:=Tryz.prog) (sz:=6) Ml (by kernel_rfl) cx (by omega) (hl.ext (eL.trans x29)) (i:=i) (by omega) .i64
    rw[←hem] at h35
    obtain⟨x35_0,x35_1,x35_2,rfl,f35_0,f35_1,f35_2⟩:=fF h35
    refine av MI MI MI (p35 _) (aj MI (ah MI MI (gR (o:=5) Mn MI (by kernel_rfl) MI) (aj MI (ak MI MI (ai Mm MI (q35.at (j:=5) MI)) ?_))))
    refine aj MI (am kV MI MI ((pa f35_2 hsm.2 hc4)) ?_)
    rintro v38 w38 ⟨x38,rfl⟩
    refine aj MI (bt MI MI bu (aD MI MI MI (ag (ab (bh MI (af (aa (ac MI MI (ag (ab (aw (aX (ay (ay (aX (ay (az MI MI ?_)))))))))))))))))
    exact⟨_,rfl,((eL.trans x29).trans x38),by rw[hcn,gC (p:=iL) (i:=i) (by omega) hall (by rw[←hem];unfold iL;rw[hc3,hc4];rfl),Bool.and_false,Bool.false_and];rfl⟩
   ·refine aa (ah MI MI (aq (o:=0) L9 MI (by kernel_rfl) MI) (ak MI MI (ai Ml MI (e1L.cell_some (k1.cell (i:=0) MI))) ?_))
    refine ae MI MI ?_
    obtain⟨a26,c26,p26,q26,h26⟩:=bZ (P:=Tryz.prog) (sz:=6) Ml (by kernel_rfl) cx (by omega) (hl.ext eL) (i:=i) (by omega) .i64
    rw[←hem] at h26
    obtain⟨x26_0,x26_1,x26_2,rfl,f26_0,f26_1,f26_2⟩:=fF h26
    refine av rfl rfl rfl (p26 _) (ah rfl rfl (gR (o:=2) Tryz.underlying173 rfl (by kernel_rfl) rfl) (ak rfl rfl (q26.ldO (ms:=[B em.va.1,x26_0,x26_1]) (o:=2) (fun j v hj=>by rcases j with _|_|_|_|_|_|_|_|_|j<;>simp_all) Tryz.underlying46 rfl (by kernel_rfl)) ?_))
    refine am gD MI MI ((o2 (q:=em.va) f26_0 f26_1 hsm.1 hc3)) ?_
    rintro v29 w29 ⟨x29,rfl⟩
    refine bt MI MI bu (ae MI MI (aj MI (ah MI MI (aq (o:=0) L9 MI (by kernel_rfl) MI) (aj MI (ak MI MI (ai Ml MI ((e1L.trans x29).cell_some (k1.cell (i:=0) MI))) ?_)))))
    refine aj MI (ae MI MI (aj MI ?_))
    obtain⟨a35,c35,p35,q35,h35⟩:=bZ (P:=Tryz.prog) (sz:=6) Ml (by kernel_rfl) cx (by omega) (hl.ext (eL.trans x29)) (i:=i) (by omega) .i64
    rw[←hem] at h35
    obtain⟨x35_0,x35_1,x35_2,rfl,f35_0,f35_1,f35_2⟩:=fF h35
    refine av MI MI MI (p35 _) (aj MI (ah MI MI (gR (o:=5) Mn MI (by kernel_rfl) MI) (aj MI (ak MI MI (ai Mm MI (q35.at (j:=5) MI)) ?_))))
    refine aj MI (am kV MI MI ((pa f35_2 hsm.2 hc4)) ?_)
    rintro v38 w38 ⟨x38,rfl⟩
    refine aj MI (bt MI MI bu (aD MI MI MI (ag (ab (cq MI (aA (aS (ab (aa (ae MI MI (al (r:=I ((i+1:Nat):Int)) MI MI MI (by have e:((i+1:Nat):Int)=(i:Int)+1:=(by omega);rw[e];exact aN (by omega) (by omega)) ?_)))))))))))
    refine ac MI MI (ag ?_)
    refine bR (i+1) ⟨rfl,rfl,trivial⟩ ⟨((eL.trans x29).trans x38),((e1L.trans x29).trans x38),by omega,rf (p:=iL) (by omega) hall (by rw[←hem];unfold iL;rw[hc3,hc4];rfl)⟩ (by omega)
   ·refine aa (ah MI MI (aq (o:=0) L9 MI (by kernel_rfl) MI) (ak MI MI (ai Ml MI (e1L.cell_some (k1.cell (i:=0) MI))) ?_))
    refine ae MI MI ?_
    obtain⟨a26,c26,p26,q26,h26⟩:=bZ (P:=Tryz.prog) (sz:=6) Ml (by kernel_rfl) cx (by omega) (hl.ext eL) (i:=i) (by omega) .i64
    rw[←hem] at h26
    obtain⟨x26_0,x26_1,x26_2,rfl,f26_0,f26_1,f26_2⟩:=fF h26
    refine av rfl rfl rfl (p26 _) (ah rfl rfl (gR (o:=2) Tryz.underlying173 rfl (by kernel_rfl) rfl) (ak rfl rfl (q26.ldO (ms:=[B em.va.1,x26_0,x26_1]) (o:=2) (fun j v hj=>by rcases j with _|_|_|_|_|_|_|_|_|j<;>simp_all) Tryz.underlying46 rfl (by kernel_rfl)) ?_))
    refine am gD MI MI ((o2 (q:=em.va) f26_0 f26_1 hsm.1 hc3)) ?_
    rintro v29 w29 ⟨x29,rfl⟩
    refine bt MI MI bu (ae MI MI (an MI MI MI (an MI MI MI (an MI MI MI (an MI MI MI (an MI MI MI (an MI MI MI (an MI MI MI (an MI MI MI ?_)))))))))
    refine ap MI MI MI (ag (ab (bh MI (af (aa (ac MI MI (ag (ab (aw (aX (ay (ay (aX (ay (az MI MI ?_)))))))))))))))
    exact⟨_,rfl,(eL.trans x29),by rw[hcn,gC (p:=iL) (i:=i) (by omega) hall (by rw[←hem];unfold iL;rw[hc3];rfl),Bool.and_false,Bool.false_and];rfl⟩
  ·refine bc (aJ (aJ (bf (ab (af (af ?_))))))
   have hla:=nE (p:=iL) (by omega) hall
   refine aa (ac MI MI (ag (ab (aF ?_))))
   refine cg (α:=Nat) (fun i=>[(1,.pointer (some ⟨g1,0,none⟩)),(4,I (i:Int))]) (fun i w'=>aK w w'∧aK w1 w'∧i≤n.kids.length∧n.kids.all i5=(n.kids.drop i).all i5) (fun i=>n.kids.length-i) (0) ⟨rfl,rfl,trivial⟩ ⟨eL,e1L,by omega,rfl⟩ ?_
   rintro i wM ⟨eM,e1M,hi2,hall2⟩
   refine af (af (aa (ae MI MI (ah MI MI (aq (o:=6) L9 MI (by kernel_rfl) MI) (ak MI MI (ai Mk MI (e1M.cell_some (k1.cell (i:=6) MI))) ?_)))))
   refine aP MI MI (bg Mk (hk.ext eM)) (al MI MI MI (a9) (ag (ab ?_)))
   refine bw MI (fun h45=>?_) (fun h45=>?_)
   ·refine aA (ab (af (aF (af (aa (ah MI MI (aq (o:=6) L9 MI (by kernel_rfl) MI) (ak MI MI (ai Mk MI (e1M.cell_some (k1.cell (i:=6) MI))) ?_)))))))
    refine ae MI MI ?_
    obtain⟨a51,c51,p51,q51,h51⟩:=bZ (P:=Tryz.prog) (sz:=9) Mk (by kernel_rfl) cw (by omega) (hk.ext eM) (i:=i) (by omega) .i64
    obtain⟨e51,he51⟩:∃e,e=n.kids[i]'(by omega):=⟨_,rfl⟩
    rw[←he51] at h51
    obtain⟨x51_0,x51_1,x51_2,x51_3,x51_4,rfl,f51_0,f51_1,f51_2,f51_3,f51_4⟩:=dW h51
    refine av MI MI MI (p51 _) ?_
    have hmem:e51∈n.kids:=by rw[he51];exact List.getElem_mem _
    refine ak MI MI (q51.ld L9 MI (by kernel_rfl)) (am tP MI MI ((ih e51 hmem f51_0 f51_1 f51_2 f51_3 f51_4 (sk e51 hmem))) ?_)
    rintro v53 w53 ⟨x53,rfl⟩
    refine bt MI MI bu (ag (ab ?_))
    refine fP MI (fun h54=>?_) (fun h54=>?_)
    ·have hno:i5 (n.kids[i]'(by have:=hk.len;omega))=false:=by rw[←he51];rw[Bool.not_eq_true'] at h54;exact h54
     refine af (aa (ac MI MI (ag (ab (aw (aX (ay (ay (aX (ay (az MI MI ?_)))))))))))
     exact⟨_,rfl,(eM.trans x53),by rw[hcn,gC (p:=i5) (by omega) hall2 hno,Bool.and_false];rfl⟩
    ·have hyes:i5 (n.kids[i]'(by have:=hk.len;omega))=true:=by rw[←he51];rw[Bool.not_eq_false'] at h54;exact h54
     refine aA (aS (ab (aa (ae MI MI (al (r:=I ((i+1:Nat):Int)) MI MI MI (by have e:((i+1:Nat):Int)=(i:Int)+1:=(by omega);rw[e];exact aN (by omega) (by omega)) ?_)))))
     refine ac MI MI (ag ?_)
     refine bR (i+1) ⟨rfl,rfl,trivial⟩ ⟨(eM.trans x53),(e1M.trans x53),by omega,rf (p:=i5) (by omega) hall2 hyes⟩ (by omega)
   ·refine bc (aJ (aJ (bf (ab (af (aa (ac MI MI (ag (ab (aw (az MI MI ?_)))))))))))
    exact⟨_,rfl,eM,by rw[hcn,hc1,hc2,hla,nE (p:=i5) (by omega) hall2];rfl⟩
 ·refine aa (ah MI MI (aq (o:=8) L9 MI (by kernel_rfl) MI) (ak MI MI (ai Mm MI (k1.cell (i:=8) MI)) ?_))
  refine am kV MI MI ((pa (hp.ext x1) sp hc1)) ?_
  rintro v7 w7 ⟨x7,rfl⟩
  refine bt MI MI bu (ae MI MI (an MI MI MI (an MI MI MI (an MI MI MI (an MI MI MI (an MI MI MI (ap MI MI MI (ag (ab (bh MI ?_))))))))))
  refine af (aa (ac MI MI (ag (ab (aw (ay (az MI MI ?_)))))))
  exact⟨_,rfl,(x1.trans x7),by rw[hcn,hc1];rfl⟩
theorem tQ:∀(m:Nat) {n:aW},SizeOf.sizeOf n≤m→∀{w:World} {vl x y vk vp:Value},cA cY n.lems vl w→bm n.split.at_.2.1 x w→bm n.split.at_.2.2 y w→cA bG n.kids vk w→cA bN n.pf vp w→sN n→
 Calls Tryz.prog 58 #[.agg #[vl,I n.split.kd,I n.split.ix,B n.split.at_.1,x,y,vk,B n.empty,vp]] w (bE fun r w'=>aK w w'∧r=B (i5 n))
 |0,n,hm=>by cases n;simp at hm
 |m+1,n,hm=>fun h1 h2 h3 h4 h5 h6=>F1 (fun k hk _ _ _ _ _ _=>tQ m (by have:=aW.lt_of_mem hk;omega)) h1 h2 h3 h4 h5 h6
theorem xa {w:World} {b:List UInt8} {bv:Value} {d:bS} {x y:Value} (hb:cz b bv w) (hx:bm d.at_.2.1 x w) (hy:bm d.at_.2.2 y w) (hw:wD d) (hl:b.length+(fJ d).length≤4398046511104):
 Calls Tryz.prog 62 #[bv,.agg #[I d.kd,I d.ix,B d.at_.1,x,y]] w (bE fun r w'=>aK w w'∧cz (b++fJ d) r w'):=by
 refine enter (vs:=[bv,.agg #[I d.kd,I d.ix,B d.at_.1,x,y]]) Tryz.func62 MI MI MI ?_
 have hdl:(fJ d).length=(dn d.kd).length+(dn d.ix).length+(gj d.at_).length:=by simp only[fJ,List.length_append]
 have hqa:=jA d.at_
 refine af (aa ?_)
 obtain⟨g3,w3,hr3,l3,x3,k3⟩:=cC (P:=Tryz.prog) (w:=w) (T:=48) (cs:=[I d.kd,I d.ix,B d.at_.1,x,y])
 refine cG MI MI hr3 (ac MI MI (ag (ab (af (bP 10 [14] (by kernel_rfl) (by kernel_rfl) ?_)))))
 refine aC MI MI (aT MI MI (fun w hw=>aq (o:=0) Mc MI (by kernel_rfl) MI) (aO MI MI (fun w hw=>ai Me MI (hw.cell_some (k3.cell (i:=0) MI))) ?_))
 have hw0:=hw
 refine cm (S:=cz (b++dn d.kd)) ib (cz.stable _) rfl (fun w hw=>by rintro _ rfl _ rfl;exact bE.mono (ie (n:=d.kd) ((hb.ext x3).ext hw) (by omega) hw0.1.1 hw0.1.2) fun v w' h=>⟨h.1,h.2.bts⟩) ?_
 refine aT MI MI (fun w hw=>aq (o:=1) Mc MI (by kernel_rfl) MI) (aO MI MI (fun w hw=>ai Me MI (hw.cell_some (k3.cell (i:=1) MI))) ?_)
 refine cm (S:=cz (b++dn d.kd++dn d.ix)) ib (cz.stable _) rfl (fun w hw=>by rintro _ h8 _ rfl;exact bE.mono (ie (n:=d.ix) h8 (by simp only[List.length_append];omega) hw0.2.1 hw0.2.2) fun v w' h=>⟨h.1,h.2.bts⟩) ?_
 refine aT rfl rfl (fun w hw=>aq (o:=2) Tryz.underlying48 rfl (by kernel_rfl) rfl) (aO rfl rfl (fun w hw=>(k3.ext hw).ldO (ms:=[B d.at_.1,x,y]) (o:=2) (fun j v hj=>by rcases j with _|_|_|_|_|_|_|_|_|j<;>simp_all) Tryz.underlying46 rfl (by kernel_rfl)) ?_)
 refine cm (S:=cz (b++dn d.kd++dn d.ix++gj d.at_)) jI (cz.stable _) rfl (fun w hw=>by rintro _ h11 _ rfl;exact bE.mono (jJ h11 (di.mk ((hx.ext x3).ext hw) ((hy.ext x3).ext hw)) (by simp only[List.length_append];omega)) fun v w' h=>⟨h.1,h.2.bts⟩) ?_
 refine cp ?_
 intro wg1 xg1
 intro vg14 b14
 refine ac MI MI (ag (ab (aw (az MI MI ?_))))
 exact⟨_,rfl,(x3.trans xg1),by have h:cz (b++dn d.kd++dn d.ix++gj d.at_) _ _:=b14;simpa only[fJ,List.append_assoc] using h⟩
end Go.Rl
namespace Go.Rl
open Go.RowKit Go.Proofs
theorem KZ:(Tryz.prog.info? 224).map (·.size)=some 4:=by kernel_rfl
theorem K0:(Tryz.prog.info? 3).map (·.size)=some 1:=by kernel_rfl
theorem HI.sE {b:Nat} {T:TypeId} {l:List Value}:ca (HI b T l):=fun _ _ _ ⟨g5,h1,h2,h3⟩ hm=>⟨g5,h1,h2,h3.ext hm⟩
def kW (m:cb):List Int:=[m.kd,m.ix,m.lo,m.hi]
theorem tR (m:cb):fg m=(kW m).flatMap dn++gj m.co:=by simp[fg,kW,List.append_assoc]
theorem H8 {l:List Int} {k:Nat} (hk:k<l.length):(l.take (k+1)).flatMap dn=(l.take k).flatMap dn++dn l[k]:=by
 rw[List.take_succ_eq_append_getElem hk,List.flatMap_append]
 simp
theorem F3 {l:List Int} {k:Nat} (hk:k<l.length):(l.map I)[k]? =some (I l[k]):=by simp[hk]
theorem xb {w:World} {b:List UInt8} {bv v:Value} {l:List cb} (hb:cz b bv w) (hd:cA bN l v w) (hw:wP l) (hl:b.length+(iZ l).length≤4398046511104):
 Calls Tryz.prog 107 #[bv,v] w (bE fun r w'=>aK w w'∧cz (b++iZ l) r w'):=by
 refine enter (vs:=[bv,v]) Tryz.func107 MI MI MI ?_
 have hll:=hd.len
 have hpl:(iZ l).length=(uv l.length).length+(l.flatMap fg).length:=by simp only[iZ,List.length_append]
 have hun:(UInt64.ofNat l.length).toNat=l.length:=by rw[UInt64.toNat_ofNat'];omega
 refine af (aa (ac MI MI (ag (ab (af (aa (ae MI MI (ae MI MI (aP MI MI (bg Mm hd) (aZ MI MI (fk Me Mf) ?_))))))))))
 refine am dQ MI MI ((dR (n:=UInt64.ofNat l.length) hb (by omega))) ?_
 rintro v12 w12 ⟨x12,o12⟩
 rw[hun] at o12
 have b12:=o12.bts
 refine ac MI MI (ag (ab (af (af (aa (ac MI MI (ag (ab (aF ?_)))))))))
 refine fl (fun(i:Nat) (u:Value)=>[(0,u),(1,v),(5,I (i:Int))]) (fun(i:Nat) (u:Value) w'=>aK w w'∧i≤l.length∧cz (b++uv l.length++(l.take i).flatMap fg) u w') (fun(i:Nat) (u:Value)=>l.length-i) (0) (v12) ⟨rfl,rfl,rfl,trivial⟩ ⟨x12,by omega,by simpa using b12⟩ ?_
 rintro i u wL ⟨eL,hi,bL⟩
 refine af (af (aa (ae MI MI (ae MI MI (aP MI MI (bg Mm (hd.ext eL)) (al MI MI MI (a9) (ag (ab ?_))))))))
 refine bw MI (fun h16=>?_) (fun h16=>?_)
 ·refine aA (ab (af (aF (af ?_))))
  obtain⟨pre,hpre⟩:∃pre,pre=b++uv l.length++(l.take i).flatMap fg:=⟨_,rfl⟩
  have hprl:pre.length=b.length+(uv l.length).length+((l.take i).flatMap fg).length:=by rw[hpre];simp only[List.length_append]
  rw[←hpre] at bL
  refine bP 26 [0,1,5,6,43] (by kernel_rfl) (by kernel_rfl) ?_
  refine aC (S:=Is (v)) MI MI (aC (S:=Is (I (i:Int))) MI MI ?_)
  obtain⟨a21,c21,p21,q21,h21⟩:=bZ (P:=Tryz.prog) (sz:=7) Mm (by kernel_rfl) dA (by omega) (hd.ext eL) (i:=i) (by omega) .i64
  obtain⟨e21,he21⟩:∃e,e=l[i]'(by omega):=⟨_,rfl⟩
  rw[←he21] at h21
  obtain⟨x21_0,x21_1,rfl,f21_0,f21_1⟩:=gM h21
  refine aE MI MI MI (fun w _=>p21 w) ?_
  have hm:=hw e21 (by rw[he21];exact List.getElem_mem _)
  have hfl:=fL (f:=fg) (l:=l) (i:=i) (by omega)
  rw[←he21] at hfl
  have hml:(fg e21).length=(dn e21.kd).length+(dn e21.ix).length+(dn e21.lo).length+(dn e21.hi).length+(gj e21.co).length:=by simp only[fg,List.length_append]
  refine aT MI MI (fun w hw=>gR (o:=0) Mt MI (by kernel_rfl) MI) (aT MI MI (fun w hw=>gR (o:=0) Mx MI (by kernel_rfl) MI) ?_)
  refine aO MI MI (fun w hw=>ai Me MI (hw.cell_some (q21.at (j:=0) MI))) (aC (S:=Is (v)) MI MI (aC (S:=Is (I (i:Int))) MI MI ?_))
  refine aE MI MI MI (fun w _=>p21 w) (aT MI MI (fun w hw=>gR (o:=0) Mt MI (by kernel_rfl) MI) (aT MI MI (fun w hw=>gR (o:=1) Mx MI (by kernel_rfl) MI) ?_))
  refine aO MI MI (fun w hw=>ai Me MI (hw.cell_some (q21.at (j:=1) MI))) (aC (S:=Is (v)) MI MI (aC (S:=Is (I (i:Int))) MI MI ?_))
  refine aE MI MI MI (fun w _=>p21 w) (aT MI MI (fun w hw=>gR (o:=0) Mt MI (by kernel_rfl) MI) (aT MI MI (fun w hw=>gR (o:=2) Mx MI (by kernel_rfl) MI) ?_))
  refine aO MI MI (fun w hw=>ai Me MI (hw.cell_some (q21.at (j:=2) MI))) (aC (S:=Is (v)) MI MI (aC (S:=Is (I (i:Int))) MI MI ?_))
  refine aE MI MI MI (fun w _=>p21 w) (aT MI MI (fun w hw=>gR (o:=0) Mt MI (by kernel_rfl) MI) (aT MI MI (fun w hw=>gR (o:=3) Mx MI (by kernel_rfl) MI) ?_))
  refine aO rfl rfl (fun w hw=>ai Me rfl (hw.cell_some (q21.at (j:=3) rfl))) (uI (S:=Is (.agg #[I e21.kd,I e21.ix,I e21.lo,I e21.hi])) (ca.is _) rfl (fun w' hw=>by rintro _ rfl _ rfl _ rfl _ rfl;exact⟨_,w',run_build _ _ _ _ (by kernel_rfl),aK.refl _,rfl⟩) ?_)
  refine IT (S:=HI wL.heap.size 224 [I 0,I 0,I 0,I 0]) HI.sE MI (fun w' hw=>KS (z:=.agg #[I 0,I 0,I 0,I 0]) (by kernel_rfl) MI hw.size) ?_
  refine cp ?_
  intro wg5 xg5
  rintro _ hq0
  obtain rfl:=Eq.symm hq0
  rintro _ hq1
  obtain rfl:=Eq.symm hq1
  rintro _ rfl
  intro vg6 b6
  rintro _ rfl
  obtain⟨g6,rfl,hg6,k6⟩:=b6
  obtain⟨wd,sd,qd,kd0⟩:=k6.stS (P:=Tryz.prog) (t:=224) (m:=[I e21.kd,I e21.ix,I e21.lo,I e21.hi]) rfl KZ (au.cons rfl (au.cons rfl (au.cons rfl (au.cons rfl au.nil))))
  have kd:ci g6 224 ((kW e21).map I) wd:=kd0
  refine ar MI MI sd ?_
  have xd:=aK.of_new xg5 qd hg6
  have bd:=bL.ext xd
  refine ag (ab (af (af (aa (ac MI MI (ag (ab (aF ?_))))))))
  refine fl (fun(k:Nat) (u2:Value)=>[(0,u2),(1,v),(5,I (i:Int)),(6,.pointer (some ⟨g6,0,none⟩)),(7,I (k:Int))]) (fun(k:Nat) (u2:Value) w'=>aK wd w'∧k≤4∧cz (pre++((kW e21).take k).flatMap dn) u2 w') (fun(k:Nat) (u2:Value)=>4-k) (0) (u) ⟨rfl,rfl,rfl,rfl,rfl,trivial⟩ ⟨aK.refl _,by omega,by simpa using bd⟩ ?_
  rintro k u2 wM ⟨eM,hk4,bM⟩
  refine af (af (aa (ae MI MI (al MI MI MI (a9) (ag (ab ?_))))))
  refine bw MI (fun h45=>?_) (fun h45=>?_)
  ·have hk4':k<4:=by omega
   have hlen4:(kW e21).length=4:=rfl
   have hi64:lB (kW e21)[k]:=by
    have h4:=Kh hm.1 hm.2.1 hm.2.2.1 hm.2.2.2
    exact h4 _ (List.getElem_mem (l:=kW e21) (by omega))
   have hfl2:=rg (f:=dn) (kW e21) k
   have hme:=congrArg List.length (tR e21)
   rw[List.length_append] at hme
   refine aA (ab (af (aF (aa (ae MI MI (ae MI MI ?_))))))
   refine av MI MI MI (iF Tryz.underlying224 K0 (i:=k) hk4' .i64) ?_
   have c50:(wM).cell? ⟨g6,0+k,none⟩=some (I (kW e21)[k]):=by rw[Nat.zero_add];exact(kd.ext eM).cell (F3 (by omega))
   refine ak MI MI (ai Tryz.underlying3 MI c50) (am ib MI MI ((ie (n:=(kW e21)[k]) bM (by simp only[List.length_append];omega) hi64.1 hi64.2)) ?_)
   rintro v52 w52 ⟨x52,o52⟩
   have b52:=o52.bts
   refine ac MI MI (ag (aS (ab (aa (ae MI MI (al (r:=I ((k+1:Nat):Int)) MI MI MI (by have e:((k+1:Nat):Int)=(k:Int)+1:=(by omega);rw[e];exact aN (by omega) (by omega)) ?_))))))
   refine ac MI MI (ag ?_)
   refine dD (k+1) (v52) ⟨rfl,rfl,rfl,rfl,rfl,trivial⟩ ⟨(eM.trans x52),by omega,by rw[H8 (by omega),←List.append_assoc];exact b52⟩ (by omega)
  ·refine bc (aJ (aJ (bf (ab (aa (ae MI MI (ae MI MI (ae MI MI ?_))))))))
   have hk:k=4:=by omega
   subst hk
   have hqa:=jA e21.co
   refine av rfl rfl rfl (p21 _) (ah rfl rfl (gR (o:=4) Tryz.underlying187 rfl (by kernel_rfl) rfl) (ak rfl rfl ((q21.ext (xd.trans eM)).ldO (ms:=[B e21.co.1,x21_0,x21_1]) (o:=4) (fun j v hj=>by rcases j with _|_|_|_|_|_|_|_|_|j<;>simp_all) Tryz.underlying46 rfl (by kernel_rfl)) ?_))
   refine am jI MI MI ((jJ bM (di.mk (f21_0.ext (xd.trans eM)) (f21_1.ext (xd.trans eM))) (by
 have hme:=congrArg List.length (tR e21)
 rw[List.length_append] at hme
 have h4:(kW e21).take 4=kW e21:=rfl
 simp only[h4,List.length_append];omega))) ?_
   rintro v59 w59 ⟨x59,o59⟩
   have b59:=o59.bts
   refine ac MI MI (ag (aS (ab (aa (ae MI MI (al (r:=I ((i+1:Nat):Int)) MI MI MI (by have e:((i+1:Nat):Int)=(i:Int)+1:=(by omega);rw[e];exact aN (by omega) (by omega)) ?_))))))
   refine ac MI MI (ag ?_)
   refine dD (i+1) (v59) ⟨rfl,rfl,rfl,trivial⟩ ⟨(((eL.trans xd).trans eM).trans x59),by omega,by
    have h:cz (pre++((kW e21).take 4).flatMap dn++gj e21.co) v59 w59:=b59
    have h4:(kW e21).take 4=kW e21:=rfl
    rw[du (by omega),←he21,tR,←List.append_assoc,←List.append_assoc,←hpre,←h4]
    exact h⟩ (by omega)
 ·refine bc (aJ (aJ (bf (ab (af (aa (ae MI MI (ac MI MI (ag (ab (aw (az MI MI ?_))))))))))))
  exact⟨_,rfl,eL,by
   rw[List.take_of_length_le (by omega),List.append_assoc] at bL
   exact bL⟩
theorem pb (b:Bool):(vU b).length=1:=by cases b<;>rfl
theorem De {w:World} {b:List UInt8} {bv:Value} {n:aW} {vl x y vk vp:Value}
 (ih:∀k∈n.kids,∀{w:World} {b:List UInt8} {bv vl x y vk vp:Value},cz b bv w→cA cY k.lems vl w→bm k.split.at_.2.1 x w→bm k.split.at_.2.2 y w→cA bG k.kids vk w→cA bN k.pf vp w→wN k→b.length+(dE k).length≤4398046511104→
   Calls Tryz.prog 63 #[bv,.agg #[vl,I k.split.kd,I k.split.ix,B k.split.at_.1,x,y,vk,B k.empty,vp]] w (bE fun r w'=>aK w w'∧cz (b++dE k) r w'))
 (hb:cz b bv w) (hl:cA cY n.lems vl w) (hx:bm n.split.at_.2.1 x w) (hy:bm n.split.at_.2.2 y w) (hk:cA bG n.kids vk w) (hp:cA bN n.pf vp w) (hw:wN n) (hlen:b.length+(dE n).length≤4398046511104):
 Calls Tryz.prog 63 #[bv,.agg #[vl,I n.split.kd,I n.split.ix,B n.split.at_.1,x,y,vk,B n.empty,vp]] w (bE fun r w'=>aK w w'∧cz (b++dE n) r w'):=by
 refine enter (vs:=[bv,.agg #[vl,I n.split.kd,I n.split.ix,B n.split.at_.1,x,y,vk,B n.empty,vp]]) Tryz.func63 MI MI MI ?_
 have hll:=hl.len
 have hkl:=hk.len
 obtain⟨wl,wd,wp,wk⟩:=(tN n).1 hw
 have hen:=mC n
 have hpl:(ey n.lems).length=(uv n.lems.length).length+(n.lems.flatMap dY).length:=by simp only[ey,List.length_append]
 have hun:(UInt64.ofNat n.lems.length).toNat=n.lems.length:=by rw[UInt64.toNat_ofNat'];omega
 obtain⟨tag,htag⟩:∃tag:UInt8,tag=(if n.kids.length=0 then(if n.empty=true then 1 else 0) else 2):=⟨_,rfl⟩
 have htl:b.length+1+(ey n.lems).length+(if n.kids.length=0 then(iZ n.pf).length else(fJ n.split).length+(n.kids.flatMap dE).length)≤4398046511104:=by
  rw[hen] at hlen
  by_cases h0:n.kids.length=0
  ·rw[if_pos h0] at hlen⊢;simp only[List.length_append,pb] at hlen;omega
  ·rw[if_neg h0] at hlen⊢;simp only[List.length_append,List.length_cons,List.length_nil] at hlen;omega
 refine af (aa ?_)
 obtain⟨g3,w3,hr3,l3,x3,k3⟩:=cC (P:=Tryz.prog) (w:=w) (T:=52) (cs:=[vl,I n.split.kd,I n.split.ix,B n.split.at_.1,x,y,vk,B n.empty,vp])
 refine cG MI MI hr3 (ac MI MI (ag (ab (af (aa (ac MI MI (ag (ab (af ?_)))))))))
 refine eW (fun t:UInt8=>[(0,bv),(3,.pointer (some ⟨g3,0,none⟩)),(5,U8 t)]) (fun t w'=>w3=w'∧t=(if n.empty=true then 1 else 0)) ?_ ?_
 ·refine af (aa (ah MI MI (aq (o:=7) L9 MI (by kernel_rfl) MI) (ak MI MI (ai Mi MI (k3.cell (i:=7) MI)) ?_)))
  refine ag (ab ?_)
  refine fP MI (fun h11=>?_) (fun h11=>?_)
  ·refine aa (ac MI MI (ag ?_))
   exact ck (1) ⟨rfl,rfl,rfl,trivial⟩ ⟨rfl,by simp[h11]⟩
  ·refine aA ?_
   exact ck (0) ⟨rfl,rfl,rfl,trivial⟩ ⟨rfl,by simp[h11]⟩
 rintro t5 _ ⟨rfl,ht5⟩
 refine ab (af ?_)
 refine eW (fun t:UInt8=>[(0,bv),(3,.pointer (some ⟨g3,0,none⟩)),(5,U8 t)]) (fun t w'=>w3=w'∧tag=t) ?_ ?_
 ·refine af (aa (ah MI MI (aq (o:=6) L9 MI (by kernel_rfl) MI) (ak MI MI (ai Mk MI (k3.cell (i:=6) MI)) ?_)))
  refine aP MI MI (bg Mk (hk.ext x3)) (al MI MI MI (bV) (ag (ab ?_)))
  refine bw MI (fun h15=>?_) (fun h15=>?_)
  ·refine aa (ac MI MI (ag ?_))
   exact ck (2) ⟨rfl,rfl,rfl,trivial⟩ ⟨rfl,by
    have h15:=h15
    first
    |(have h0:¬n.kids.length=0:=by omega
      rw[htag,if_neg h0])
    |(have h0:n.kids.length=0:=by omega
      rw[ht5,htag,if_pos h0])⟩
  ·refine aA ?_
   exact ck (t5) ⟨rfl,rfl,rfl,trivial⟩ ⟨rfl,by
    have h15:=h15
    first
    |(have h0:¬n.kids.length=0:=by omega
      rw[htag,if_neg h0])
    |(have h0:n.kids.length=0:=by omega
      rw[ht5,htag,if_pos h0])⟩
 rintro _ _ ⟨rfl,rfl⟩
 refine ab (af ?_)
 have hd:aK w3 w3.drew:=(aK.refl w3).drew
 refine gO (aK w3) 12 MI (by kernel_rfl) ?_
 refine fv 1 MI MI (by kernel_rfl) MI hd ?_
 refine fv 3 MI MI (by kernel_rfl) MI hd ?_
 refine fo 6 MI MI (by kernel_rfl) MI hd (fun w' _=>aq (o:=0) L9 MI (by kernel_rfl) MI) ?_
 refine fU 7 MI MI (by kernel_rfl) MI hd (fun w' hw'=>ai Ml MI (hw'.cell_some (k3.cell (i:=0) MI))) ?_
 refine J8 8 (r:=I (n.lems.length:Int)) MI MI (by kernel_rfl) MI hd (fun w' hw'=>bg (f:=cY) Ml (hl.ext (x3.trans hw'))) ?_
 refine KA 9 MI MI (by kernel_rfl) MI hd (fun w' _=>fk Me Mf) ?_
 refine np (fun p:Value×Value=>[(3,.pointer (some ⟨g3,0,none⟩)),(5,U8 tag),(18,p.1),(20,p.2),(25,bF (UInt64.ofNat n.lems.length))]) (fun p w'=>aK w3 w'∧cW w3.heap.size b p.1 w'∧cz [tag] p.2 w') #[true,true,true,true,true,false,true,true,true,true,false,false] 3 ?_ (fun join=>?_)
 rotate_left
 ·refine kQ 0 4 (by kernel_rfl) MI MI ?_ ?_
  ·obtain⟨v16,w16,hr16,x16,o16,ob16⟩:=dX (w:=w3.drew) w3.heap.size [] (by simp) hd.size
   have e16:=hd.trans x16
   refine aI (vs:=[]) MI MI hr16 (aH e16 (kQ 2 4 (by kernel_rfl) MI MI ?_ ?_))
   ·obtain⟨v18,w18,hr18,o18,g18⟩:=dj (ty:=22) o16 (hb.ext (x3.trans e16)) (by simp;omega) e16.size
    have e18:=aK.of_grew e16 g18 o16.ge
    obtain⟨v20,w20,hr20,x20,o20,_⟩:=dX (w:=w18) w3.heap.size [tag] (by simp) e18.size
    refine a6 MI MI hr18 (aH e18 (aQ 4 (by kernel_rfl) MI ?_))
    exact aI (vs:=[(0,U8 tag)]) rfl rfl hr20 (aH (e18.trans x20) (Be (by kernel_rfl) (join _ _ ⟨(v18,v20),⟨rfl,rfl,rfl,rfl,rfl,trivial⟩,e18.trans x20,by simpa using o18.ext x20,o20.bts⟩)))
   ·obtain⟨v20,w20,hr20,x20,o20,ob20⟩:=dX (w:=w16) w3.heap.size [tag] (by simp) e16.size
    have e20:=e16.trans x20
    obtain⟨v18,w18,hr18,o18,g18⟩:=dj (ty:=22) (o16.ext x20) (hb.ext (x3.trans e20)) (by simp;omega) e20.size
    have e18:=aK.of_grew e20 g18 (o16.ext x20).ge
    refine aI (vs:=[(0,U8 tag)]) MI MI hr20 (aH e20 (aQ 2 (by kernel_rfl) MI ?_))
    exact a6 rfl rfl hr18 (aH e18 (Be (by kernel_rfl) (join _ _ ⟨(v18,v20),⟨rfl,rfl,rfl,rfl,rfl,trivial⟩,e18,by simpa using o18,(o20.grown g18 (.inr fun e=>by rw[ob20] at e;have:=o16.lt _ e.symm;omega)).bts⟩)))
  ·obtain⟨v20,w20,hr20,x20,o20,ob20⟩:=dX (w:=w3.drew) w3.heap.size [tag] (by simp) hd.size
   have e20:=hd.trans x20
   obtain⟨v16,w16,hr16,x16,o16,ob16⟩:=dX (w:=w20) w3.heap.size [] (by simp) e20.size
   have e16:=e20.trans x16
   obtain⟨v18,w18,hr18,o18,g18⟩:=dj (ty:=22) o16 (hb.ext (x3.trans e16)) (by simp;omega) e16.size
   have e18:=aK.of_grew e16 g18 o16.ge
   refine aI (vs:=[(0,U8 tag)]) MI MI hr20 (aH e20 (aQ 0 (by kernel_rfl) MI ?_))
   refine aI (vs:=[]) MI MI hr16 (aH e16 (aQ 2 (by kernel_rfl) MI ?_))
   exact a6 rfl rfl hr18 (aH e18 (Be (by kernel_rfl) (join _ _ ⟨(v18,v20),⟨rfl,rfl,rfl,rfl,rfl,trivial⟩,e18,by simpa using o18,((o20.ext x16).grown g18 (.inr fun e=>by rw[ob16] at e;have:=o20.lt _ e;omega)).bts⟩)))
 rintro⟨v18,v20⟩ w20 ⟨e20,o18,b20⟩
 dsimp only at o18 b20
 obtain⟨v21,w21,hr21,o21,g21⟩:=dj (ty:=22) o18 b20 (by simp;omega) e20.size
 have x21:=aK.of_grew e20 g21 o18.ge
 refine aQ 5 (by kernel_rfl) MI ?_
 refine a6 MI MI hr21 (aH x21 (aQ 10 (by kernel_rfl) MI ?_))
 refine am dQ MI MI (dR (n:=UInt64.ofNat n.lems.length) o21.bts (by simp;omega)) ?_
 rintro v26 w26 ⟨x26,o26⟩
 rw[hun] at o26
 have b26:=o26.bts
 have e26:=x21.trans x26
 refine aH e26 (aQ 11 (by kernel_rfl) MI ?_)
 refine ac MI MI (aH e26 (gQ (by kernel_rfl) ?_))
 refine ab (af (af (aa (ac MI MI (ag (ab (aF ?_)))))))
 refine fl (fun(i:Nat) (u:Value)=>[(0,u),(3,.pointer (some ⟨g3,0,none⟩)),(5,U8 tag),(6,I (i:Int))]) (fun(i:Nat) (u:Value) w'=>aK w3 w'∧i≤n.lems.length∧cz (b++[tag]++uv n.lems.length++(n.lems.take i).flatMap dY) u w') (fun(i:Nat) (u:Value)=>n.lems.length-i) (0) (v26) ⟨rfl,rfl,rfl,rfl,trivial⟩ ⟨e26,by omega,by simpa using b26⟩ ?_
 rintro i u wL ⟨eL,hi,bL⟩
 refine af (af ?_)
 obtain⟨pre,hpre⟩:∃pre,pre=b++[tag]++uv n.lems.length++(n.lems.take i).flatMap dY:=⟨_,rfl⟩
 have hprl:pre.length=b.length+1+(uv n.lems.length).length+((n.lems.take i).flatMap dY).length:=by rw[hpre];simp only[List.length_append,List.length_cons,List.length_nil]
 have hfi:=rg (f:=dY) n.lems i
 rw[←hpre] at bL
 refine aa (ae MI MI (ah MI MI (aq (o:=0) L9 MI (by kernel_rfl) MI) (ak MI MI (ai Ml MI (eL.cell_some (k3.cell (i:=0) MI))) ?_)))
 refine aP MI MI (bg Ml (hl.ext (x3.trans eL))) (al MI MI MI (a9) (ag (ab ?_)))
 refine bw MI (fun h31=>?_) (fun h31=>?_)
 ·refine aA (ab (af (aF (af (aa (ah MI MI (aq (o:=0) L9 MI (by kernel_rfl) MI) (ak MI MI (ai Ml MI (eL.cell_some (k3.cell (i:=0) MI))) ?_)))))))
  refine ae MI MI ?_
  obtain⟨a37,c37,p37,q37,h37⟩:=bZ (P:=Tryz.prog) (sz:=6) Ml (by kernel_rfl) cx (by omega) (hl.ext (x3.trans eL)) (i:=i) (by omega) .i64
  obtain⟨e37,he37⟩:∃e,e=n.lems[i]'(by omega):=⟨_,rfl⟩
  rw[←he37] at h37
  obtain⟨x37_0,x37_1,x37_2,rfl,f37_0,f37_1,f37_2⟩:=fF h37
  refine av MI MI MI (p37 _) ?_
  have hm:=wl e37 (by rw[he37];exact List.getElem_mem _)
  have hfl:=fL (f:=dY) (l:=n.lems) (i:=i) (by omega)
  rw[←he37] at hfl
  have hml:(dY e37).length=(dn e37.un).length+1+(gj e37.va).length+(iZ e37.pf).length:=by simp only[dY,List.length_append,pb]
  refine ak MI MI (q37.ld Mn MI (by kernel_rfl)) ?_
  obtain⟨g7,w7,hr7,l7,x7,k7⟩:=aY (P:=Tryz.prog) (w:=wL) (t:=173) (z:=.agg #[I 0,B false,B false,.slice none 0 0,.slice none 0 0,.slice none 0 0]) (l:=[I 0,B false,B false,.slice none 0 0,.slice none 0 0,.slice none 0 0]) (by kernel_rfl) rfl
  refine aV MI hr7 ?_
  obtain⟨w10_6,s10_6,q10_6,k10_6⟩:=k7.stS (P:=Tryz.prog) (t:=173) (m:=[I e37.un,B e37.up,B e37.va.1,x37_0,x37_1,x37_2]) rfl (by kernel_rfl) (au.cons rfl (au.cons rfl (au.cons rfl (au.cons f37_0.one (au.cons f37_1.one (au.cons f37_2.one au.nil))))))
  refine ar MI MI s10_6 ?_
  have x10_6:=aK.of_new (x7) q10_6 l7
  refine ag (ab (af (aa (ac MI MI (ag (ab (af ?_)))))))
  refine eW (fun t:UInt8=>[(0,u),(3,.pointer (some ⟨g3,0,none⟩)),(5,U8 tag),(6,I (i:Int)),(7,.pointer (some ⟨g7,0,none⟩)),(8,U8 t)]) (fun t w'=>w10_6=w'∧[t]=vU e37.up) ?_ ?_
  ·refine af (aa (ah MI MI (aq (o:=1) Mn MI (by kernel_rfl) MI) (ak MI MI (ai Mi MI (k10_6.cell (i:=1) MI)) ?_)))
   refine ag (ab ?_)
   refine fP MI (fun h40=>?_) (fun h40=>?_)
   ·refine aa (ac MI MI (ag ?_))
    exact ck (1) ⟨rfl,rfl,rfl,rfl,rfl,rfl,trivial⟩ ⟨rfl,by rw[h40];rfl⟩
   ·refine aA ?_
    exact ck (0) ⟨rfl,rfl,rfl,rfl,rfl,rfl,trivial⟩ ⟨rfl,by rw[h40];rfl⟩
  rintro up _ ⟨rfl,hup⟩
  refine ab (af (aa (ae MI MI (ah MI MI (aq (o:=0) Mn MI (by kernel_rfl) MI) (ak MI MI (ai Me MI (k10_6.cell (i:=0) MI)) ?_)))))
  refine am ib MI MI ((ie (n:=e37.un) (bL.ext x10_6) (by omega) hm.1.1 hm.1.2)) ?_
  rintro v44 w44 ⟨x44,o44⟩
  have o44:cW _ (pre++dn e37.un) _ _:=o44
  refine ae MI MI ?_
  obtain⟨v46,w46,hr46,x46,o46,ob46⟩:=dX (w:=w44) w44.heap.size [up] (by simp) (Nat.le_refl _)
  refine aI (vs:=[(0,U8 up)]) MI MI hr46 ?_
  obtain⟨v47,w47,hr47,o47,g47⟩:=dj (ty:=22) (o44.ext x46) o46.bts (by simp only[List.length_append,List.length_cons,List.length_nil];omega) ((x44.trans x46)).size
  have x47:=aK.of_grew ((x44.trans x46)) g47 (o44.ext x46).ge
  refine a6 MI MI hr47 ?_
  have b47:cz (pre++dn e37.un++vU e37.up) v47 w47:=by rw[←hup];exact o47.bts
  have hqa:=jA e37.va
  refine ac MI MI (ag (ab (bP 7 [3,5,6,54] (by kernel_rfl) (by kernel_rfl) ?_)))
  refine aC rfl rfl (aT rfl rfl (fun w hw=>aq (o:=2) Tryz.underlying173 rfl (by kernel_rfl) rfl) (aO rfl rfl (fun w hw=>((k10_6.ext x47).ext hw).ldO (ms:=[B e37.va.1,x37_0,x37_1]) (o:=2) (fun j v hj=>by rcases j with _|_|_|_|_|_|_|_|_|j<;>simp_all) Tryz.underlying46 rfl (by kernel_rfl)) ?_))
  refine cm (S:=cz (pre++dn e37.un++vU e37.up++gj e37.va)) jI (cz.stable _) rfl (fun w hw=>by rintro _ rfl _ rfl;exact bE.mono (jJ (b47.ext hw) (di.mk ((f37_0.ext (x10_6.trans x47)).ext hw) ((f37_1.ext (x10_6.trans x47)).ext hw)) (by simp only[List.length_append,pb];omega)) fun v w' h=>⟨h.1,h.2.bts⟩) ?_
  refine aT MI MI (fun w hw=>aq (o:=5) Mn MI (by kernel_rfl) MI) (aO MI MI (fun w hw=>ai Mm MI (hw.cell_some (x47.cell_some (k10_6.cell (i:=5) MI)))) ?_)
  refine cm (S:=cz (pre++dn e37.un++vU e37.up++gj e37.va++iZ e37.pf)) wX (cz.stable _) rfl (fun w hw=>by rintro _ h51 _ rfl;exact xb h51 ((f37_2.ext (x10_6.trans x47)).ext hw) hm.2 (by simp only[List.length_append,pb];omega)) ?_
  refine cp ?_
  intro wg15 xg15
  rintro _ rfl
  rintro _ rfl
  rintro _ rfl
  intro vg54 b54
  refine ac MI MI (ag (aS (ab (aa (ae MI MI (al (r:=I ((i+1:Nat):Int)) MI MI MI (by have e:((i+1:Nat):Int)=(i:Int)+1:=(by omega);rw[e];exact aN (by omega) (by omega)) ?_))))))
  refine ac MI MI (ag ?_)
  refine dD (i+1) (vg54) ⟨rfl,rfl,rfl,rfl,trivial⟩ ⟨(((eL.trans x10_6).trans x47).trans xg15),by omega,by
   have h:cz (pre++dn e37.un++vU e37.up++gj e37.va++iZ e37.pf) vg54 wg15:=b54
   rw[du (by omega),←he37,←List.append_assoc,←hpre]
   simpa only[dY,List.append_assoc] using h⟩ (by omega)
 ·refine bc (aJ (aJ (bf (ab (af (af ?_))))))
  rw[List.take_of_length_le (by omega)] at hpre
  by_cases hk0:n.kids.length=0
  ·refine aa (ae MI MI (al (v:=U8 2) MI MI MI (cJ (by rw[htag,if_pos hk0];split<;>decide) kG) (ag (ab (bh MI (af (aa (ae MI MI ?_))))))))
   refine ah MI MI (aq (o:=8) L9 MI (by kernel_rfl) MI) (ak MI MI (ai Mm MI (eL.cell_some (k3.cell (i:=8) MI))) ?_)
   refine am wX MI MI ((xb bL (hp.ext ((x3.trans eL))) wp (by rw[if_pos hk0] at htl;omega))) ?_
   rintro v60 w60 ⟨x60,b60⟩
   refine ac MI MI (ag (ab (aw (ay (az MI MI ?_)))))
   exact⟨_,rfl,((x3.trans eL).trans x60),by
    have ht:[tag]=vU n.empty:=by rw[htag,if_pos hk0];cases n.empty<;>rfl
    rw[hpre,ht] at b60
    rw[hen,if_pos hk0]
    simpa only[ey,List.append_assoc] using b60⟩
  ·refine aa (ae MI MI (al (v:=U8 2) MI MI MI (dm (by rw[htag,if_neg hk0];decide) kG) (ag (ab (cq MI (aA (ab (af (aa (ae MI MI ?_))))))))))
   refine ah rfl rfl (aq (o:=1) Tryz.underlying52 rfl (by kernel_rfl) rfl) (ak rfl rfl ((k3.ext eL).ldO (ms:=[I n.split.kd,I n.split.ix,B n.split.at_.1,x,y]) (o:=1) (fun j v hj=>by rcases j with _|_|_|_|_|_|_|_|_|j<;>simp_all) Tryz.underlying48 rfl (by kernel_rfl)) ?_)
   refine am wW MI MI ((xa (d:=n.split) bL (hx.ext ((x3.trans eL))) (hy.ext ((x3.trans eL))) wd (by rw[if_neg hk0] at htl;omega))) ?_
   rintro v64 w64 ⟨x64,b64⟩
   refine ac MI MI (ag (ab (af (af (aa (ac MI MI (ag (ab (aF ?_)))))))))
   refine fl (fun(j:Nat) (u2:Value)=>[(0,u2),(3,.pointer (some ⟨g3,0,none⟩)),(9,I (j:Int))]) (fun(j:Nat) (u2:Value) w'=>aK w3 w'∧j≤n.kids.length∧cz (pre++fJ n.split++(n.kids.take j).flatMap dE) u2 w') (fun(j:Nat) (u2:Value)=>n.kids.length-j) (0) (v64) ⟨rfl,rfl,rfl,trivial⟩ ⟨(eL.trans x64),by omega,by simpa using b64⟩ ?_
   rintro j u2 wM ⟨eM,hj,bM⟩
   refine af (af (aa (ae MI MI (ah MI MI (aq (o:=6) L9 MI (by kernel_rfl) MI) (ak MI MI (ai Mk MI (eM.cell_some (k3.cell (i:=6) MI))) ?_)))))
   refine aP MI MI (bg Mk (hk.ext (x3.trans eM))) (al MI MI MI (a9) (ag (ab ?_)))
   refine bw MI (fun h69=>?_) (fun h69=>?_)
   ·refine aA (ab (af (aF (aa (ae MI MI (ah MI MI (aq (o:=6) L9 MI (by kernel_rfl) MI) (ak MI MI (ai Mk MI (eM.cell_some (k3.cell (i:=6) MI))) ?_)))))))
    refine ae MI MI ?_
    obtain⟨a76,c76,p76,q76,h76⟩:=bZ (P:=Tryz.prog) (sz:=9) Mk (by kernel_rfl) cw (by omega) (hk.ext (x3.trans eM)) (i:=j) (by omega) .i64
    obtain⟨e76,he76⟩:∃e,e=n.kids[j]'(by omega):=⟨_,rfl⟩
    rw[←he76] at h76
    obtain⟨x76_0,x76_1,x76_2,x76_3,x76_4,rfl,f76_0,f76_1,f76_2,f76_3,f76_4⟩:=dW h76
    refine av MI MI MI (p76 _) ?_
    have hmem:e76∈n.kids:=by rw[he76];exact List.getElem_mem _
    have hfk:=fL (f:=dE) (l:=n.kids) (i:=j) (by omega)
    rw[←he76] at hfk
    refine ak MI MI (q76.ld Tryz.underlying52 MI (by kernel_rfl)) (am wY MI MI ((ih e76 hmem bM f76_0 f76_1 f76_2 f76_3 f76_4 (wk e76 hmem) (by rw[if_neg hk0] at htl;simp only[List.length_append];omega))) ?_)
    rintro v78 w78 ⟨x78,b78⟩
    refine ac MI MI (ag (aS (ab (aa (ae MI MI (al (r:=I ((j+1:Nat):Int)) MI MI MI (by have e:((j+1:Nat):Int)=(j:Int)+1:=(by omega);rw[e];exact aN (by omega) (by omega)) ?_))))))
    refine ac MI MI (ag ?_)
    refine dD (j+1) (v78) ⟨rfl,rfl,rfl,trivial⟩ ⟨(eM.trans x78),by omega,by rw[du (by omega),←he76,←List.append_assoc];exact b78⟩ (by omega)
   ·refine bc (aJ (aJ (bf (ab (af (aa (ae MI MI (ac MI MI (ag (ab (aw (az MI MI ?_))))))))))))
    exact⟨_,rfl,(x3.trans eM),by
     have ht:tag=2:=by rw[htag,if_neg hk0]
     rw[List.take_of_length_le (by omega),hpre,ht] at bM
     rw[hen,if_neg hk0]
     simpa only[ey,List.append_assoc] using bM⟩
theorem xc:∀(m:Nat) {n:aW},SizeOf.sizeOf n≤m→∀{w:World} {b:List UInt8} {bv vl x y vk vp:Value},cz b bv w→cA cY n.lems vl w→bm n.split.at_.2.1 x w→bm n.split.at_.2.2 y w→cA bG n.kids vk w→cA bN n.pf vp w→wN n→b.length+(dE n).length≤4398046511104→
 Calls Tryz.prog 63 #[bv,.agg #[vl,I n.split.kd,I n.split.ix,B n.split.at_.1,x,y,vk,B n.empty,vp]] w (bE fun r w'=>aK w w'∧cz (b++dE n) r w')
 |0,n,hm=>by cases n;simp at hm
 |m+1,n,hm=>fun h1 h2 h3 h4 h5 h6 h7 h8=>De (fun k hk _ _ _ _ _ _ _ _=>xc m (by have:=aW.lt_of_mem hk;omega)) h1 h2 h3 h4 h5 h6 h7 h8
end Go.Rl
namespace Go.Rl
open Go.RowKit Go.Proofs
end Go.Rl
namespace Go.Rl
open Go.RowKit Go.Proofs
def mQ (m:cb):Nat:=1+m.co.2.1.length+m.co.2.2.length
def mP (l:List cb):Nat:=(l.map mQ).sum
def mL (m:dI):Nat:=m.va.2.1.length+m.va.2.2.length+mP m.pf
mutual
def uy:aW→Nat
 |.mk l _ ks _ p=>1+l.length+mP p+(l.map mL).sum+Ae ks
def Ae:List aW→Nat
 |[]=>0
 |n::l=>uy n+Ae l
end
theorem xe:∀l:List aW,Ae l=(l.map uy).sum
 |[]=>rfl
 |n::l=>by simp only[Ae,List.map_cons,List.sum_cons,xe l]
theorem H9 (n:aW):uy n=1+n.lems.length+mP n.pf+(n.lems.map mL).sum+(n.kids.map uy).sum:=by
 cases n with
 |mk l s k e p=>simp only[uy,xe];rfl
end Go.Rl
namespace Go.Rl
open Go.RowKit Go.Proofs
mutual
def Dt.bulk:Dt→Nat
 |.int _ _=>1
 |.bool _=>1
 |.str l=>l.length+1
 |.sl l=>Dt.bulkAll l+1
 |.st l=>Dt.bulkAll l+1
def Dt.bulkAll:List Dt→Nat
 |[]=>0
 |d::l=>Dt.bulk d+Dt.bulkAll l
end
mutual
theorem yK {H:Type}:∀d:DataW H,(fa d).bulk≤YtpeidnhjcompmaaGreatDoor.Rows.uptoBulk d
 |.lit (.string b)=>by simp[fa,Dt.bulk,YtpeidnhjcompmaaGreatDoor.Rows.uptoBulk]
 |.lit (.int k n)=>by simp[fa,Dt.bulk,YtpeidnhjcompmaaGreatDoor.Rows.uptoBulk]
 |.lit (.bool b)=>by simp[fa,Dt.bulk,YtpeidnhjcompmaaGreatDoor.Rows.uptoBulk]
 |.lit (.float ..)=>by simp[fa,Dt.bulk,Dt.bulkAll,YtpeidnhjcompmaaGreatDoor.Rows.uptoBulk]
 |.lit .nil=>by simp[fa,Dt.bulk,Dt.bulkAll,YtpeidnhjcompmaaGreatDoor.Rows.uptoBulk]
 |.nil=>by simp[fa,Dt.bulk,Dt.bulkAll,YtpeidnhjcompmaaGreatDoor.Rows.uptoBulk]
 |.ptr d=>by simp[fa,Dt.bulk,Dt.bulkAll,YtpeidnhjcompmaaGreatDoor.Rows.uptoBulk]
 |.slice elems spare=>by
  have:=lH elems
  simp only[fa,Dt.bulk,YtpeidnhjcompmaaGreatDoor.Rows.uptoBulk]
  omega
 |.agg parts=>by
  have:=lH parts
  simp only[fa,Dt.bulk,YtpeidnhjcompmaaGreatDoor.Rows.uptoBulk]
  omega
 |.iface t d=>by simp[fa,Dt.bulk,Dt.bulkAll,YtpeidnhjcompmaaGreatDoor.Rows.uptoBulk]
 |.map entries=>by simp[fa,Dt.bulk,Dt.bulkAll,YtpeidnhjcompmaaGreatDoor.Rows.uptoBulk]
 |.held h=>by simp[fa,Dt.bulk,Dt.bulkAll,YtpeidnhjcompmaaGreatDoor.Rows.uptoBulk]
theorem lH {H:Type}:∀l:List (DataW H),Dt.bulkAll (nY l)≤YtpeidnhjcompmaaGreatDoor.Rows.uptoBulkAll l
 |[]=>by simp[nY,Dt.bulkAll,YtpeidnhjcompmaaGreatDoor.Rows.uptoBulkAll]
 |d::l=>by
  have:=yK d
  have:=lH l
  simp only[nY,Dt.bulkAll,YtpeidnhjcompmaaGreatDoor.Rows.uptoBulkAll]
  omega
end
theorem yL {H:Type} {d:DataW H}:∀{l:List (DataW H)},d∈l→YtpeidnhjcompmaaGreatDoor.Rows.uptoBulk d≤YtpeidnhjcompmaaGreatDoor.Rows.uptoBulkAll l
 |[],h=>by simp at h
 |x::l,h=>by
  simp only[YtpeidnhjcompmaaGreatDoor.Rows.uptoBulkAll]
  rcases List.mem_cons.1 h with rfl|h
  ·omega
  ·have:=yL h;omega
theorem Lr {H:Type} {d:DataW H} {l:List (DataW H)} (hk:YtpeidnhjcompmaaGreatDoor.Rows.uptoSmall H l=true) (h:d∈l):(fa d).bulk≤1048576:=by
 have h1:YtpeidnhjcompmaaGreatDoor.Rows.uptoBulkAll l≤1048576:=of_decide_eq_true hk
 have:=yK d
 have:=yL h
 omega
theorem xf {α:Type} {f:α→Dt} {p:α→Prop}:∀(l:List Dt),(∀d∈l,∃x,d=f x∧p x)→∃m:List α,l=m.map f∧∀x∈m,p x
 |[],_=>⟨[],rfl,by simp⟩
 |d::l,h=>by
  obtain⟨x,rfl,hx⟩:=h d (by simp)
  obtain⟨m,rfl,hm⟩:=xf l fun e he=>h e (by simp[he])
  exact⟨x::m,rfl,by simpa using⟨hx,hm⟩⟩
theorem Ty.inv_slP {P:Program} {t e:TypeId} {d:Dt} {α:Type} {f:α→Dt} {p:α→Prop} (hu:P.underlying t=some (.slice e)) (he:∀x,Ty P e x→∃y,x=f y∧p y) (h:Ty P t d):∃l:List α,d=.sl (l.map f)∧∀x∈l,p x:=by
 obtain⟨l,rfl,ha⟩:=h.inv_slD hu
 obtain⟨m,rfl,hm⟩:=xf l fun x hx=>he x (ha x hx)
 exact⟨m,rfl,hm⟩
theorem el {l:List Dt}:∀{d:Dt},d∈l→d.bulk≤Dt.bulkAll l:=by
 induction l with
 |nil=>intro d h;simp at h
 |cons x l ih=>
  intro d h
  simp only[Dt.bulkAll]
  rcases List.mem_cons.1 h with rfl|h
  ·omega
  ·have:=ih h;omega
theorem Ia (d:Dt):1≤d.bulk:=by cases d<;>simp[Dt.bulk]
theorem en (l:List Dt):l.length≤Dt.bulkAll l:=by
 induction l with
 |nil=>simp
 |cons d l ih=>have:=Ia d;simp only[List.length_cons,Dt.bulkAll];omega
end Go.Rl
namespace Go.Rl
open Go.ChangeShapes Go.WideShapes Go.ChangeAt Go.RowKit Go.Proofs
theorem LY {α:Type} {l:List α} (h:l.length=2):∃a b,l=[a,b]:=by
 match l,h with
 |[a,b],_=>exact⟨a,b,rfl⟩
theorem LZ {α:Type} {l:List α} (h:l.length=3):∃a b c,l=[a,b,c]:=by
 match l,h with
 |[a,b,c],_=>exact⟨a,b,c,rfl⟩
theorem L0 {α:Type} {l:List α} (h:l.length=4):∃a b c d,l=[a,b,c,d]:=by
 match l,h with
 |[a,b,c,d],_=>exact⟨a,b,c,d,rfl⟩
theorem cel5 {α:Type} {l:List α} (h:l.length=5):∃a b c d e,l=[a,b,c,d,e]:=by
 match l,h with
 |[a,b,c,d,e],_=>exact⟨a,b,c,d,e,rfl⟩
theorem Df {d:Dt} (ht:Ty Tryz.prog 46 d):∃q:fi,d=iY q:=by
 obtain⟨l,rfl,hl,hf⟩:=ht.inv_st Mb
 obtain⟨a,b,c,rfl⟩:=LZ (show l.length=3 from hl)
 obtain⟨s,rfl⟩:=(hf 0 _ a rfl rfl).inv_bool Mi
 obtain⟨n,rfl⟩:=(hf 1 _ b rfl rfl).inv_nat L8 Ma
 obtain⟨m,rfl⟩:=(hf 2 _ c rfl rfl).inv_nat L8 Ma
 exact⟨(s,n,m),rfl⟩
theorem rh {d:Dt} (ht:Ty Tryz.prog 3 d):∃n:Int,d=qk n∧lB n:=by
 obtain⟨n,rfl,hw⟩:=ht.inv_int Me
 exact⟨n,rfl,wf_I hw⟩
theorem K3 {d:Dt} (ht:Ty Tryz.prog 185 d):∃a b c e:Int,d=.st [qk a,qk b,qk c,qk e]∧lB a∧lB b∧lB c∧lB e:=by
 obtain⟨l,rfl,hl,hf⟩:=ht.inv_st Mx
 obtain⟨d0,d1,d2,d3,rfl⟩:=L0 (show l.length=4 from hl)
 obtain⟨n0,rfl,w0⟩:=rh (hf 0 _ d0 rfl rfl)
 obtain⟨n1,rfl,w1⟩:=rh (hf 1 _ d1 rfl rfl)
 obtain⟨n2,rfl,w2⟩:=rh (hf 2 _ d2 rfl rfl)
 obtain⟨n3,rfl,w3⟩:=rh (hf 3 _ d3 rfl rfl)
 exact⟨n0,n1,n2,n3,rfl,w0,w1,w2,w3⟩
theorem Jp {d:Dt} (ht:Ty Tryz.prog 187 d):∃m:cb,d=bN m∧Lp m:=by
 obtain⟨l,rfl,hl,hf⟩:=ht.inv_st Mt
 obtain⟨d0,d1,rfl⟩:=LY (show l.length=2 from hl)
 obtain⟨a,b,c,e,rfl,w⟩:=K3 (hf 0 _ d0 rfl rfl)
 obtain⟨q,rfl⟩:=Df (hf 1 _ d1 rfl rfl)
 exact⟨⟨a,b,c,e,q⟩,rfl,w⟩
theorem BP {d:Dt} (ht:Ty Tryz.prog 50 d):∃l:List cb,d=gS l∧wP l:=ht.inv_slP Mm fun _ hx=>Jp hx
theorem Ib {d:Dt} (ht:Ty Tryz.prog 48 d):∃m:bS,d=dy m∧wD m:=by
 obtain⟨l,rfl,hl,hf⟩:=ht.inv_st Mc
 obtain⟨d0,d1,d2,rfl⟩:=LZ (show l.length=3 from hl)
 obtain⟨n0,rfl,w0⟩:=rh (hf 0 _ d0 rfl rfl)
 obtain⟨n1,rfl,w1⟩:=rh (hf 1 _ d1 rfl rfl)
 obtain⟨q,rfl⟩:=Df (hf 2 _ d2 rfl rfl)
 exact⟨⟨n0,n1,q⟩,rfl,w0,w1⟩
theorem K4 {d:Dt} (ht:Ty Tryz.prog 173 d):∃m:dI,d=cY m∧HN m:=by
 obtain⟨l,rfl,hl,hf⟩:=ht.inv_st Mn
 obtain⟨d0,d1,d2,d3,rfl⟩:=L0 (show l.length=4 from hl)
 obtain⟨n0,rfl,w0⟩:=rh (hf 0 _ d0 rfl rfl)
 obtain⟨b,rfl⟩:=(hf 1 _ d1 rfl rfl).inv_bool Mi
 obtain⟨q,rfl⟩:=Df (hf 2 _ d2 rfl rfl)
 obtain⟨p,rfl,wp⟩:=BP (hf 3 _ d3 rfl rfl)
 exact⟨⟨n0,b,q,p⟩,rfl,w0,wp⟩
theorem Dg {l:List Dt} {d:Dt} (h:d∈l):SizeOf.sizeOf d<SizeOf.sizeOf l:=List.sizeOf_lt_of_mem h
theorem Ex:∀(k:Nat) {d:Dt},SizeOf.sizeOf d≤k→Ty Tryz.prog 52 d→∃n:aW,d=bG n∧wN n
 |0,d,hk,_=>by cases d<;>simp at hk
 |k+1,d,hk,ht=>by
  obtain⟨l,rfl,hl,hf⟩:=ht.inv_st L9
  obtain⟨d0,d1,d2,d3,d4,rfl⟩:=cel5 (show l.length=5 from hl)
  obtain⟨ls,rfl,wl⟩:=(hf 0 _ d0 rfl rfl).inv_slP Ml fun _ hx=>K4 hx
  obtain⟨sp,rfl,ws⟩:=Ib (hf 1 _ d1 rfl rfl)
  obtain⟨ks,rfl,hks⟩:=(hf 2 _ d2 rfl rfl).inv_slD Mk
  obtain⟨em,rfl⟩:=(hf 3 _ d3 rfl rfl).inv_bool Mi
  obtain⟨pf,rfl,wp⟩:=BP (hf 4 _ d4 rfl rfl)
  obtain⟨ns,rfl,wn⟩:=xf (f:=bG) (p:=wN) ks fun x hx=>Ex k (by
   have:=Dg hx
   simp only[Dt.st.sizeOf_spec,List.cons.sizeOf_spec,Dt.sl.sizeOf_spec] at hk
   omega) (hks x hx)
  refine⟨.mk ls sp ns em pf,?_,?_⟩
  ·simp only[bG,kU]
  ·simp only[wN,z6]
   exact⟨wl,ws,wp,wn⟩
theorem Ic {W:World}:∀(l:List UInt8) {cs:List Value},bD W (l.map dU8) cs→cs=l.map U8
 |[],cs,h=>by simpa only[List.map_nil,bD] using h
 |a::l,cs,h=>by
  simp only[List.map_cons,bD,dU8,Rp] at h
  obtain⟨c1,c2,rfl,rfl,h2⟩:=h
  rw[Ic l h2]
  rfl
section
variable {H:Type} {enc:TypeId×Value→H} {W:World} {base:Nat} {spare:Nat→Bool} {held:Bool} {r:Reach} {b0:Nat} {v:Value} {d:DataW H} {ps:List MemPlace}
set_option maxRecDepth 100000 in
theorem L1 (ho:Value.okWide Tryz.prog W r b0 24 v) (h:DataW.Trod enc Tryz.prog W base spare held 24 v d ps):∃l:List UInt8,v=.agg (l.map U8).toArray∧l.length=32:=by
 have ho':∃cs,v=.agg cs:=by
  simp only[Value.okWide,Tryz.underlying24] at ho
  obtain⟨cs,h1,_⟩:=ho
  exact⟨cs,h1⟩
 obtain⟨cs,rfl⟩:=ho'
 obtain⟨h1,h2⟩:=GM (ts:=[24,5]) (by kernel_rfl) (by kernel_rfl) h
 obtain⟨l,hd,hl⟩:=h2.inv_arr (f:=dU8) Mo fun _ hx=>hx.inv_u8 Mh
 rw[hd] at h1
 simp only[Rp] at h1
 have:=Ic l h1
 refine⟨l,?_,hl⟩
 show Value.agg cs=_
 have h3:cs.toList=l.map U8:=this
 rw[←h3]
end
end Go.Rl
namespace Go.Rl
open Go.RowKit
structure cc where
 path:List bS
 leaf:aW
def dh (e:cc):List UInt8:=uv e.path.length++e.path.flatMap fJ++dE e.leaf
def fN (d:bS):Bool:=decide (1≤d.kd)&&decide (d.kd≤4)&&fG d.at_
def cK (e:cc):Bool:=decide (e.path.length≤2048)&&decide (e.leaf.kids.length=0)&&qg e.leaf&&i5 e.leaf&&e.path.all fN
def lj (l:List UInt8):Option (cc×List UInt8):=(dk oa l).bind fun a=>(gT a.2).bind fun b=>some (⟨a.1,b.1⟩,b.2)
def jj (b:List UInt8):Option cc:=match lj b with
 |some (e,[])=>if cK e=true then some e else none
 |_=>none
def BQ (e:cc):Prop:=(∀d∈e.path,wD d)∧wN e.leaf
theorem xh {l t:List UInt8} {e:cc} (h:lj l=some (e,t)):l=dh e++t∧BQ e∧e.path.length<18446744073709551616:=by
 unfold lj at h
 obtain⟨p1,h1,h⟩:=Option.bind_eq_some_iff.1 h
 obtain⟨p2,h2,h⟩:=Option.bind_eq_some_iff.1 h
 simp only[Option.some.injEq,Prod.mk.injEq] at h
 obtain⟨rfl,rfl⟩:=h
 obtain⟨a1,a2,a3⟩:=qZ (fun l a t h=>Ep h) (xs:=p1.1) (t:=p1.2) h1
 have b:=HQ (n:=p2.1) (t:=p2.2) h2
 refine⟨?_,⟨fun d hd=>(a3 d hd).2,b.2.2.1⟩,a2⟩
 show l=uv p1.1.length++p1.1.flatMap fJ++dE p2.1++p2.2
 rw[List.append_assoc,←b.1,←a1]
theorem Ie {b:List UInt8} {e:cc} (h:jj b=some e):dh e=b∧cK e=true∧BQ e∧lj b=some (e,[]):=by
 unfold jj at h
 split at h
 ·rename_i e' he
  split at h
  ·cases h
   have:=xh he
   rw[List.append_nil] at this
   exact⟨this.1.symm,by assumption,this.2.1,he⟩
  ·cases h
 ·cases h
theorem Af {b:List UInt8} {e:cc} (h:lj b=some (e,[])) (hv:cK e=true):jj b=some e:=by
 unfold jj
 rw[h]
 exact if_pos hv
theorem xi {q:fi} (hc:fG q=true) (hl:(gj q).length<18446744073709551616):LO q:=⟨hc,by have:=jA q;omega,by have:=jA q;omega⟩
theorem sF {α:Type} {f:α→List UInt8} {l:List α} {a:α} (h:a∈l):(f a).length≤(l.flatMap f).length:=by
 induction l with
 |nil=>cases h
 |cons b l ih=>
  rw[List.flatMap_cons,List.length_append]
  rcases List.mem_cons.1 h with rfl|h
  ·omega
  ·have:=ih h;omega
theorem kX {α:Type} {f:α→List UInt8} {k:Nat} (l:List α) (h:∀a∈l,k≤(f a).length):k*l.length≤(l.flatMap f).length:=by
 induction l with
 |nil=>simp
 |cons b l ih=>
  rw[List.flatMap_cons,List.length_append,List.length_cons]
  have:=ih fun a ha=>h a (by simp[ha])
  have:=h b (by simp)
  rw[Nat.mul_succ];omega
theorem BR (q:fi):3≤(gj q).length:=by
 have h:∀n:List UInt32,1≤(jf n).length:=fun n=>by
  have:=qq n.length
  simp only[jf,List.length_append];omega
 have h1:=h q.2.1
 have h2:=h q.2.2
 simp only[gj,oc,List.length_append,List.length_cons,List.length_nil]
 omega
theorem pc (n:Int):1≤(dn n).length:=qq _
theorem tS (m:cb):7≤(fg m).length:=by
 have:=pc m.kd;have:=pc m.ix;have:=pc m.lo;have:=pc m.hi;have:=BR m.co
 simp only[fg,List.length_append];omega
theorem yM (m:dI):6≤(dY m).length:=by
 have:=pc m.un;have:=BR m.va;have:=qq m.pf.length
 have:(vU m.up).length=1:=by cases m.up<;>rfl
 simp only[dY,iZ,List.length_append];omega
theorem Jq {d:bS} (hc:fG d.at_=true) (hw:wD d) (hl:(fJ d).length<18446744073709551616) (t:List UInt8):oa (fJ d++t)=some (d,t):=by
 have hq:LO d.at_:=xi hc (by simp only[fJ,List.length_append] at hl;omega)
 unfold oa fJ
 rw[List.append_assoc,List.append_assoc,nu hw.1];simp only[Option.bind_some]
 rw[nu hw.2];simp only[Option.bind_some]
 rw[zJ hq];rfl
theorem If {m:cb} (hc:fG m.co=true) (hw:Lp m) (hl:(fg m).length<18446744073709551616) (t:List UInt8):qV (fg m++t)=some (m,t):=by
 have hq:LO m.co:=xi hc (by simp only[fg,List.length_append] at hl;omega)
 unfold qV fg
 simp only[List.append_assoc]
 rw[nu hw.1];simp only[Option.bind_some]
 rw[nu hw.2.1];simp only[Option.bind_some]
 rw[nu hw.2.2.1];simp only[Option.bind_some]
 rw[nu hw.2.2.2];simp only[Option.bind_some]
 rw[zJ hq];rfl
theorem Ey {l:List cb} (hc:mw l=true) (hw:wP l) (hl:(iZ l).length<18446744073709551616) (t:List UInt8):Bt (iZ l++t)=some (l,t):=by
 simp only[iZ,List.length_append] at hl
 have hn:=kX l fun m _=>tS m
 exact qS (by omega) (fun m hm t=>If (List.all_eq_true.1 hc m hm) (hw m hm) (by have:=sF (f:=fg) hm;omega) t) t
theorem Jr {k n:Nat} (h:n≤k) (hk:k<18446744073709551616) (t:List UInt8):jP k (uv n++t)=some (n,t):=by
 unfold jP
 rw[qr (by omega)]
 exact if_pos h
theorem K7 (b:Bool):vU b=uv (if b=true then 1 else 0):=by cases b<;>rfl
theorem yN {k:Nat} (hk:1≤k) (hk2:k<18446744073709551616) (b:Bool) (t:List UInt8):jP k (vU b++t)=some (if b=true then 1 else 0,t):=by
 rw[K7]
 exact Jr (by split<;>omega) hk2 t
theorem Ig (b:Bool):bT (if b=true then 1 else 0)=b:=by cases b<;>rfl
theorem Ih {m:dI} (hc:iL m=true) (hw:HN m) (hl:(dY m).length<18446744073709551616) (t:List UInt8):nw (dY m++t)=some (m,t):=by
 simp only[iL,Bool.and_eq_true] at hc
 have hq:LO m.va:=xi hc.1 (by simp only[dY,List.length_append] at hl;omega)
 have hp:=Ey hc.2 hw.2 (by simp only[dY,List.length_append] at hl;omega)
 unfold nw dY
 simp only[List.append_assoc]
 rw[nu hw.1];simp only[Option.bind_some]
 rw[yN (by omega) (by omega)];simp only[Option.bind_some]
 rw[zJ hq];simp only[Option.bind_some]
 rw[hp];simp only[Option.bind_some,Ig]
theorem F5 {l:List dI} (hc:l.all iL=true) (hw:∀m∈l,HN m) (hl:(ey l).length<18446744073709551616) (t:List UInt8):i8 (ey l++t)=some (l,t):=by
 simp only[ey,List.length_append] at hl
 have hn:=kX l fun m _=>yM m
 exact qS (by omega) (fun m hm t=>Ih (List.all_eq_true.1 hc m hm) (hw m hm) (by have:=sF (f:=dY) hm;omega) t) t
theorem Js {n:aW} (hk:n.kids.length=0) (hv:qg n=true):n=.mk n.lems li [] n.empty n.pf:=by
 cases n with
 |mk l s k e p=>
  have hk':k=[]:=List.eq_nil_of_length_eq_zero hk
  subst hk'
  have hz:xB s=true:=by
   unfold qg at hv
   simp only[Bool.and_eq_true] at hv
   have:=hv.1
   unfold Gq at this
   exact this
  rw[zY] at hz
  have:=of_decide_eq_true hz
  subst this
  rfl
theorem Ii {n:aW} (hk:n.kids.length=0) (hv:qg n=true) (hc:i5 n=true) (hw:wN n) (hl:(dE n).length<18446744073709551616) (t:List UInt8):gT (dE n++t)=some (n,t):=by
 have e:=Js hk hv
 rw[En] at hc
 simp only[Bool.and_eq_true] at hc
 obtain⟨⟨⟨c1,_⟩,c2⟩,_⟩:=hc
 obtain⟨w1,_,w2,_⟩:=(tN n).1 hw
 have he:=mC n
 rw[if_pos hk] at he
 rw[he] at hl⊢
 simp only[List.length_append] at hl
 rw[pI]
 simp only[List.append_assoc]
 rw[yN (by omega) (by omega)];simp only[Option.bind_some]
 rw[F5 c2 w1 (by omega)];simp only[Option.bind_some]
 rw[if_pos (by split<;>omega),Ey c1 w2 (by omega)]
 simp only[Option.bind_some]
 rw[show decide ((if n.empty=true then 1 else 0)=1)=n.empty by cases n.empty<;>rfl,←e]
theorem Ij {e:cc} (hv:cK e=true) (hw:BQ e) (hl:(dh e).length<18446744073709551616) (t:List UInt8):lj (dh e++t)=some (e,t):=by
 simp only[cK,Bool.and_eq_true,decide_eq_true_eq] at hv
 obtain⟨⟨⟨⟨v1,v2⟩,v3⟩,v4⟩,v5⟩:=hv
 simp only[dh,List.length_append] at hl
 unfold lj dh
 rw[List.append_assoc,qS (by omega) fun d hd t=>Jq (by
  have:=List.all_eq_true.1 v5 d hd
  simp only[fN,Bool.and_eq_true] at this
  exact this.2) (hw.1 d hd) (by have:=sF (f:=fJ) hd;omega) t]
 simp only[Option.bind_some]
 rw[Ii v2 v3 v4 hw.2 (by omega)]
 rfl
theorem Ik {e:cc} (hv:cK e=true) (hw:BQ e) (hl:(dh e).length<18446744073709551616):jj (dh e)=some e:=by
 refine Af ?_ hv
 have:=Ij hv hw hl []
 rwa [List.append_nil] at this
def od {α:Type} (most:Nat) (f:List UInt8→Option (α×List UInt8)) (l:List UInt8):Option (List α×List UInt8):=(jP most l).bind fun p=>bQ f p.1 p.2
def gP:List UInt8→Option (List cb×List UInt8):=od 1048576 qV
def Ez (l:List UInt8):Option (dI×List UInt8):=(jq l).bind fun a=>(jP 1 a.2).bind fun b=>(i7 b.2).bind fun c=>(gP c.2).bind fun d=>some (⟨a.1,bT b.1,c.1,d.1⟩,d.2)
def Gr (l:List UInt8):Option (cc×List UInt8):=(od 2048 oa l).bind fun a=>(jP 1 a.2).bind fun b=>(od 1073741824 Ez b.2).bind fun c=>(gP c.2).bind fun d=>some (⟨a.1,.mk c.1 li [] (bT b.1) d.1⟩,d.2)
theorem Il {k n:Nat} {l t:List UInt8} (h:jP k l=some (n,t)):eK l=some (n,t)∧n≤k:=by
 unfold jP at h
 obtain⟨p,h1,h2⟩:=Option.bind_eq_some_iff.1 h
 split at h2
 ·cases h2;exact⟨h1,by assumption⟩
 ·cases h2
theorem Im {k m n:Nat} {l t:List UInt8} (h:jP k l=some (n,t)) (hm:n≤m):jP m l=some (n,t):=by
 unfold jP
 rw[(Il h).1]
 exact if_pos hm
theorem pL {α:Type} {most:Nat} {f:List UInt8→Option (α×List UInt8)} {l t:List UInt8} {xs:List α} (h:od most f l=some (xs,t)):dk f l=some (xs,t):=by
 unfold od at h
 obtain⟨p,h1,h2⟩:=Option.bind_eq_some_iff.1 h
 unfold dk
 rw[(Il (n:=p.1) (t:=p.2) h1).1]
 exact h2
theorem xj {α:Type} {f:List UInt8→Option (α×List UInt8)}:∀(n:Nat) (l:List UInt8) (xs:List α) (t:List UInt8),bQ f n l=some (xs,t)→xs.length=n
 |0,l,xs,t,h=>by
  simp only[bQ,Option.some.injEq,Prod.mk.injEq] at h
  rw[←h.1];rfl
 |n+1,l,xs,t,h=>by
  simp only[bQ] at h
  obtain⟨p,h1,h2⟩:=Option.bind_eq_some_iff.1 h
  obtain⟨q,h3,h4⟩:=Option.map_eq_some_iff.1 h2
  simp only[Prod.mk.injEq] at h4
  rw[←h4.1,List.length_cons,xj n _ _ _ (show bQ f n p.2=some (q.1,q.2) from h3)]
theorem Ag {α:Type} {most:Nat} {f:List UInt8→Option (α×List UInt8)} {l t:List UInt8} {xs:List α} (h:dk f l=some (xs,t)) (hn:xs.length≤most):od most f l=some (xs,t):=by
 unfold dk at h
 obtain⟨p,h1,h2⟩:=Option.bind_eq_some_iff.1 h
 unfold od jP
 rw[h1]
 simp only[Option.bind_some]
 rw[if_pos (by rw[←xj _ _ _ _ h2];exact hn)]
 exact h2
theorem uA {α:Type} {f g:List UInt8→Option (α×List UInt8)} (h:∀l a t,f l=some (a,t)→g l=some (a,t)):∀(n:Nat) (l:List UInt8) (xs:List α) (t:List UInt8),bQ f n l=some (xs,t)→bQ g n l=some (xs,t)
 |0,l,xs,t,e=>e
 |n+1,l,xs,t,e=>by
  simp only[bQ] at e⊢
  obtain⟨p,h1,h2⟩:=Option.bind_eq_some_iff.1 e
  obtain⟨q,h3,h4⟩:=Option.map_eq_some_iff.1 h2
  rw[h l p.1 p.2 h1]
  simp only[Option.bind_some]
  rw[uA h n p.2 q.1 q.2 h3]
  exact congrArg some h4
theorem BS {α:Type} {f g:List UInt8→Option (α×List UInt8)} (h:∀l a t,f l=some (a,t)→g l=some (a,t)) {l t:List UInt8} {xs:List α} (e:dk f l=some (xs,t)):dk g l=some (xs,t):=by
 unfold dk at e⊢
 obtain⟨p,h1,h2⟩:=Option.bind_eq_some_iff.1 e
 rw[h1]
 exact uA h _ _ _ _ h2
theorem K8 {l t:List UInt8} {m:dI} (h:Ez l=some (m,t)):nw l=some (m,t):=by
 unfold Ez at h
 unfold nw
 obtain⟨p1,h1,h⟩:=Option.bind_eq_some_iff.1 h
 obtain⟨p2,h2,h⟩:=Option.bind_eq_some_iff.1 h
 obtain⟨p3,h3,h⟩:=Option.bind_eq_some_iff.1 h
 obtain⟨p4,h4,h⟩:=Option.bind_eq_some_iff.1 h
 rw[h1];simp only[Option.bind_some]
 rw[h2];simp only[Option.bind_some]
 rw[h3];simp only[Option.bind_some]
 rw[show Bt p3.2=some p4 from pL (t:=p4.2) h4]
 exact h
theorem K9 {l t:List UInt8} {e:cc} (h:Gr l=some (e,t)):lj l=some (e,t):=by
 unfold Gr at h
 unfold lj
 obtain⟨p1,h1,h⟩:=Option.bind_eq_some_iff.1 h
 obtain⟨p2,h2,h⟩:=Option.bind_eq_some_iff.1 h
 obtain⟨p3,h3,h⟩:=Option.bind_eq_some_iff.1 h
 obtain⟨p4,h4,h⟩:=Option.bind_eq_some_iff.1 h
 simp only[Option.some.injEq,Prod.mk.injEq] at h
 obtain⟨rfl,rfl⟩:=h
 have hk:p2.1≤1:=(Il (n:=p2.1) (t:=p2.2) h2).2
 rw[show dk oa l=some p1 from pL (t:=p1.2) h1]
 simp only[Option.bind_some]
 rw[pI,show jP 2 p1.2=some p2 from Im (n:=p2.1) (t:=p2.2) h2 (by omega)]
 simp only[Option.bind_some]
 rw[show i8 p2.2=some p3 from BS (fun _ _ _ h=>K8 h) (pL (xs:=p3.1) (t:=p3.2) h3)]
 simp only[Option.bind_some]
 rw[if_pos (by omega),show Bt p3.2=some p4 from pL (t:=p4.2) h4]
 rfl
theorem Ki {l t:List UInt8} {ps:List cb} (h:Bt l=some (ps,t)) (hn:ps.length≤1048576):gP l=some (ps,t):=Ag h hn
theorem La {l t:List UInt8} {m:dI} (h:nw l=some (m,t)) (hn:m.pf.length≤1048576):Ez l=some (m,t):=by
 unfold nw at h
 unfold Ez
 obtain⟨p1,h1,h⟩:=Option.bind_eq_some_iff.1 h
 obtain⟨p2,h2,h⟩:=Option.bind_eq_some_iff.1 h
 obtain⟨p3,h3,h⟩:=Option.bind_eq_some_iff.1 h
 obtain⟨p4,h4,h⟩:=Option.bind_eq_some_iff.1 h
 simp only[Option.some.injEq,Prod.mk.injEq] at h
 obtain⟨rfl,rfl⟩:=h
 rw[h1];simp only[Option.bind_some]
 rw[h2];simp only[Option.bind_some]
 rw[h3];simp only[Option.bind_some]
 rw[show gP p3.2=some p4 from Ki (t:=p4.2) h4 hn]
 rfl
theorem yO {α:Type} {f g:List UInt8→Option (α×List UInt8)}:∀(n:Nat) (l:List UInt8) (xs:List α) (t:List UInt8),bQ f n l=some (xs,t)→(∀x∈xs,∀l t,f l=some (x,t)→g l=some (x,t))→bQ g n l=some (xs,t)
 |0,l,xs,t,e,_=>e
 |n+1,l,xs,t,e,h=>by
  simp only[bQ] at e⊢
  obtain⟨p,h1,h2⟩:=Option.bind_eq_some_iff.1 e
  obtain⟨q,h3,h4⟩:=Option.map_eq_some_iff.1 h2
  simp only[Prod.mk.injEq] at h4
  obtain⟨rfl,rfl⟩:=h4
  rw[h p.1 (by simp) l p.2 h1]
  simp only[Option.bind_some]
  rw[yO n p.2 q.1 q.2 h3 fun x hx=>h x (by simp[hx])]
  rfl
theorem Lb {l t:List UInt8} {e:cc} (h:lj l=some (e,t)) (hk:e.leaf.kids.length=0) (h1:e.path.length≤2048) (h2:e.leaf.lems.length≤1073741824) (h3:e.leaf.pf.length≤1048576) (h4:∀m∈e.leaf.lems,m.pf.length≤1048576):Gr l=some (e,t):=by
 unfold lj at h
 obtain⟨a,ha,h⟩:=Option.bind_eq_some_iff.1 h
 obtain⟨n,hn,h⟩:=Option.bind_eq_some_iff.1 h
 simp only[Option.some.injEq,Prod.mk.injEq] at h
 obtain⟨rfl,rfl⟩:=h
 rw[pI] at hn
 obtain⟨p2,hp2,hn⟩:=Option.bind_eq_some_iff.1 hn
 obtain⟨p3,hp3,hn⟩:=Option.bind_eq_some_iff.1 hn
 split at hn
 ·rename_i hlt
  obtain⟨p4,hp4,hn⟩:=Option.bind_eq_some_iff.1 hn
  simp only[Option.some.injEq] at hn
  subst hn
  unfold Gr
  rw[show od 2048 oa l=some a from Ag (xs:=a.1) (t:=a.2) ha h1]
  simp only[Option.bind_some]
  rw[show jP 1 a.2=some p2 from Im (n:=p2.1) (t:=p2.2) hp2 (by omega)]
  simp only[Option.bind_some]
  have hL:od 1073741824 Ez p2.2=some p3:=by
   refine Ag (xs:=p3.1) (t:=p3.2) ?_ h2
   have hp3':dk nw p2.2=some p3:=hp3
   unfold dk at hp3'⊢
   obtain⟨q,hq,hq2⟩:=Option.bind_eq_some_iff.1 hp3'
   rw[hq]
   exact yO _ _ _ _ hq2 fun x hx l t hh=>La hh (h4 x hx)
  rw[hL]
  simp only[Option.bind_some]
  rw[show gP p3.2=some p4 from Ki (ps:=p4.1) (t:=p4.2) hp4 h3]
  rfl
 ·obtain⟨p4,hp4,hn⟩:=Option.bind_eq_some_iff.1 hn
  obtain⟨p5,hp5,hn⟩:=Option.bind_eq_some_iff.1 hn
  obtain⟨p6,hp6,hn⟩:=Option.bind_eq_some_iff.1 hn
  simp only[Option.some.injEq] at hn
  subst hn
  simp[aW.kids] at hk
theorem F6 {e:cc} (hk:e.leaf.kids.length=0) (hl:(dh e).length≤7340032):e.leaf.lems.length≤1073741824∧e.leaf.pf.length≤1048576∧∀m∈e.leaf.lems,m.pf.length≤1048576:=by
 have he:=mC e.leaf
 rw[if_pos hk] at he
 simp only[dh,he,List.length_append,ey,iZ] at hl
 have h1:=kX e.leaf.pf fun m _=>tS m
 have h2:=kX e.leaf.lems fun m _=>yM m
 refine⟨by omega,by omega,fun m hm=>?_⟩
 have h3:=sF (f:=dY) hm
 have h4:=kX m.pf fun m _=>tS m
 simp only[dY,iZ,List.length_append] at h3
 omega
theorem EA {b:List UInt8} {e:cc} (h:jj b=some e) (hl:b.length≤7340032):Gr b=some (e,[]):=by
 obtain⟨h1,h2,_,h4⟩:=Ie h
 simp only[cK,Bool.and_eq_true,decide_eq_true_eq] at h2
 obtain⟨a,b',c⟩:=F6 h2.1.1.1.2 (by rw[h1];exact hl)
 exact Lb h4 h2.1.1.1.2 h2.1.1.1.1 a b' c
structure JR {α:Type} (f:List UInt8→Option (α×List UInt8)) (st:Option (List UInt8)) (ok:Bool) (a:α) (s1:Option (List UInt8)) (ok1:Bool):Prop where
 iff:ok1=(ok&&(st.bind f).isSome)
 val:ok1=true→st.bind f=s1.map fun t=>(a,t)
section
variable {α β:Type} {f:List UInt8→Option (α×List UInt8)} {g:α→List UInt8→Option (β×List UInt8)} {st s1 s2:Option (List UInt8)} {ok ok1 ok2:Bool} {a:α} {b:β}
theorem JR.of_rdE (h:fI f st a s1):JR f st ok a s1 (ok&&s1.isSome):=by
 have h:st.bind f=s1.map fun t=>(a,t):=h
 refine⟨by rw[h];cases s1<;>rfl,fun _=>h⟩
theorem JR.bind (h1:JR f st ok a s1 ok1) (h2:JR (g a) s1 ok1 b s2 ok2):JR (fun l=>(f l).bind fun p=>g p.1 p.2) st ok b s2 ok2:=by
 have e:st.bind (fun l=>(f l).bind fun p=>g p.1 p.2)=(st.bind f).bind fun p=>g p.1 p.2:=by cases st<;>rfl
 refine⟨?_,fun h=>?_⟩
 ·rw[h2.iff,e]
  cases hk:ok1 with
  |true=>
   have hv:=h1.val hk
   have hi:=h1.iff
   rw[hk] at hi
   simp only[Bool.true_eq,Bool.and_eq_true] at hi
   rw[hi.1,hv]
   cases s1<;>rfl
  |false=>
   have hi:=h1.iff
   rw[hk] at hi
   cases ok with
   |false=>rfl
   |true=>
    simp only[Bool.true_and] at hi
    have:st.bind f=none:=Option.isNone_iff_eq_none.1 (by rw[Option.isNone_iff_eq_none];exact Option.not_isSome_iff_eq_none.1 (by rw[←hi];simp))
    rw[this];rfl
 ·have hi2:=h2.iff
  rw[h] at hi2
  simp only[Bool.true_eq,Bool.and_eq_true] at hi2
  rw[e,h1.val hi2.1]
  have:=h2.val h
  cases s1 with
  |none=>exact this
  |some t=>exact this
theorem JR.ok_le (h:JR f st ok a s1 ok1):ok1=true→ok=true∧s1.isSome=true:=fun e=>by
 have h1:=h.iff
 rw[e] at h1
 simp only[Bool.true_eq,Bool.and_eq_true] at h1
 refine⟨h1.1,?_⟩
 have:=h.val e
 rw[this] at h1
 cases s1 with
 |none=>exact absurd h1.2 (by simp)
 |some t=>rfl
theorem JR.map (h:JR f st ok a s1 ok1) (k:α→β):JR (fun l=>(f l).bind fun p=>some (k p.1,p.2)) st ok (k a) s1 ok1:=by
 have e:st.bind (fun l=>(f l).bind fun p=>some (k p.1,p.2))=(st.bind f).map fun p=>(k p.1,p.2):=by
  cases st with
  |none=>rfl
  |some l=>show(f l).bind _=(f l).map _;cases f l<;>rfl
 refine⟨?_,fun hk=>?_⟩
 ·rw[h.iff,e];cases st.bind f<;>rfl
 ·rw[e,h.val hk];cases s1<;>rfl
end
end Go.Rl
namespace Go.Rl
open Go.RowKit Go.Proofs
theorem Jt (l:List UInt32):(nf l).bulk=l.length+1:=by
 have:∀l:List UInt32,Dt.bulkAll (l.map zt)=l.length:=by
  intro l
  induction l with
  |nil=>rfl
  |cons a l ih=>simp only[List.map_cons,Dt.bulkAll,ih,zt,Dt.bulk,List.length_cons];omega
 simp only[nf,Dt.bulk,this]
theorem Ah (q:fi):(iY q).bulk=q.2.1.length+q.2.2.length+4:=by
 simp only[iY,Dt.bulk,Dt.bulkAll,Jt];omega
theorem mH {α:Type} {f:α→Dt} {m:α→Nat} {c:Nat} (l:List α) (h:∀a∈l,m a≤c*(f a).bulk):(l.map m).sum≤c*Dt.bulkAll (l.map f):=by
 induction l with
 |nil=>simp
 |cons a l ih=>
  simp only[List.map_cons,List.sum_cons,Dt.bulkAll,Nat.mul_add]
  have:=h a (by simp)
  have:=ih fun b hb=>h b (by simp[hb])
  omega
theorem tT {α:Type} {f:α→Dt} {e:α→List UInt8} {c:Nat} (l:List α) (h:∀a∈l,(e a).length≤c*(f a).bulk):(l.flatMap e).length≤c*Dt.bulkAll (l.map f):=by
 have:∀l:List α,(l.flatMap e).length=(l.map fun a=>(e a).length).sum:=by
  intro l
  induction l with
  |nil=>rfl
  |cons a l ih=>simp only[List.flatMap_cons,List.length_append,List.map_cons,List.sum_cons,ih]
 rw[this]
 exact mH l h
theorem iK (m:cb):(bN m).bulk=m.co.2.1.length+m.co.2.2.length+10:=by
 simp only[bN,qk,Dt.bulk,Dt.bulkAll,Ah];omega
theorem sG (d:bS):(dy d).bulk=d.at_.2.1.length+d.at_.2.2.length+7:=by
 simp only[dy,qk,Dt.bulk,Dt.bulkAll,Ah];omega
theorem xk (l:List cb):(gS l).bulk=Dt.bulkAll (l.map bN)+1:=rfl
theorem jE (m:dI):(cY m).bulk=m.va.2.1.length+m.va.2.2.length+Dt.bulkAll (m.pf.map bN)+8:=by
 simp only[cY,qk,Dt.bulk,Dt.bulkAll,Ah,xk];omega
theorem tW (n:aW):(bG n).bulk=Dt.bulkAll (n.lems.map cY)+(dy n.split).bulk+Dt.bulkAll (n.kids.map bG)+Dt.bulkAll (n.pf.map bN)+5:=by
 cases n with
 |mk l s k e p=>
  simp only[bG,kU,Dt.bulk,Dt.bulkAll,xk,aW.lems,aW.split,aW.kids,aW.pf]
  omega
theorem pO {q:fi} (h:q.2.1.length≤1073741824) (h2:q.2.2.length≤1073741824):(gj q).length≤4*(q.2.1.length+q.2.2.length)+21:=by
 have a1:=fR (n:=q.2.1.length) (by omega)
 have a2:=fR (n:=q.2.2.length) (by omega)
 simp only[gj,oc,jf,List.length_append,List.length_cons,List.length_nil,eJ]
 omega
theorem gi {n:Int} (h:lB n):(dn n).length≤10:=fR (Cq h.1 h.2)
section
variable {B:Nat}
theorem In {m:cb} (hb:(bN m).bulk≤1048576) (hw:Lp m):(fg m).length≤10*(bN m).bulk:=by
 rw[iK] at hb⊢
 have:=gi hw.1;have:=gi hw.2.1;have:=gi hw.2.2.1;have:=gi hw.2.2.2
 have:=pO (q:=m.co) (by omega) (by omega)
 simp only[fg,List.length_append];omega
theorem EB {l:List cb} (hb:Dt.bulkAll (l.map bN)≤1048576) (hw:wP l):(iZ l).length≤10*Dt.bulkAll (l.map bN)+10:=by
 have h1:=en (l.map bN)
 rw[List.length_map] at h1
 have:=fR (n:=l.length) (by omega)
 have:=tT (f:=bN) (e:=fg) (c:=10) l fun m hm=>In (Nat.le_trans (el (List.mem_map_of_mem (f:=bN) hm)) hb) (hw m hm)
 simp only[iZ,List.length_append];omega
theorem Ip {m:dI} (hb:(cY m).bulk≤1048576) (hw:HN m):(dY m).length≤10*(cY m).bulk:=by
 rw[jE] at hb⊢
 have:=gi hw.1
 have:=pO (q:=m.va) (by omega) (by omega)
 have:=EB (l:=m.pf) (by omega) hw.2
 have:(vU m.up).length=1:=uS m.up
 simp only[dY,List.length_append];omega
theorem F7 {l:List dI} (hb:Dt.bulkAll (l.map cY)≤1048576) (hw:∀m∈l,HN m):(ey l).length≤10*Dt.bulkAll (l.map cY)+10:=by
 have h1:=en (l.map cY)
 rw[List.length_map] at h1
 have:=fR (n:=l.length) (by omega)
 have:=tT (f:=cY) (e:=dY) (c:=10) l fun m hm=>Ip (Nat.le_trans (el (List.mem_map_of_mem (f:=cY) hm)) hb) (hw m hm)
 simp only[ey,List.length_append];omega
theorem Ju {d:bS} (hb:(dy d).bulk≤1048576) (hw:wD d):(fJ d).length≤10*(dy d).bulk:=by
 rw[sG] at hb⊢
 have:=gi hw.1;have:=gi hw.2
 have:=pO (q:=d.at_) (by omega) (by omega)
 simp only[fJ,List.length_append];omega
theorem EC:∀(k:Nat) {n:aW},SizeOf.sizeOf n≤k→(bG n).bulk≤1048576→wN n→(dE n).length≤10*(bG n).bulk∧uy n≤2*(bG n).bulk∧sN n
 |0,n,hk,_,_=>by cases n;simp at hk
 |k+1,n,hk,hb,hw=>by
  obtain⟨wl,wd,wp,wk⟩:=(tN n).1 hw
  rw[tW] at hb⊢
  have ih:∀c∈n.kids,(dE c).length≤10*(bG c).bulk∧uy c≤2*(bG c).bulk∧sN c:=fun c hc=>by
   have h1:=el (List.mem_map_of_mem (f:=bG) hc)
   exact EC k (by have:=aW.lt_of_mem hc;omega) (by omega) (wk c hc)
  have e1:=F7 (l:=n.lems) (by omega) wl
  have e2:=Ju (d:=n.split) (by omega) wd
  have e3:=EB (l:=n.pf) (by omega) wp
  have e4:=tT (f:=bG) (e:=dE) (c:=10) n.kids fun c hc=>(ih c hc).1
  have s1:=mH (f:=bN) (m:=mQ) (c:=1) n.pf fun m _=>by rw[iK];unfold mQ;omega
  have s2:=mH (f:=cY) (m:=mL) (c:=1) n.lems fun m _=>by
   have:=mH (f:=bN) (m:=mQ) (c:=1) m.pf fun m _=>by rw[iK];unfold mQ;omega
   rw[jE];unfold mL mP;omega
  have s3:=mH (f:=bG) (m:=uy) (c:=2) n.kids fun c hc=>(ih c hc).2.1
  have s4:=en (n.lems.map cY)
  rw[List.length_map] at s4
  have hd:=sG n.split
  refine⟨?_,?_,?_⟩
  ·rw[mC]
   split
   ·simp only[List.length_append,uS];omega
   ·simp only[List.length_append,List.length_cons,List.length_nil];omega
  ·rw[H9];unfold mP;omega
  ·refine(wZ n).2 ⟨fun m hm=>⟨⟨?_,?_⟩,fun p hp=>⟨?_,?_⟩⟩,⟨by omega,by omega⟩,fun p hp=>⟨?_,?_⟩,fun c hc=>(ih c hc).2.2⟩
   ·have:=el (List.mem_map_of_mem (f:=cY) hm);rw[jE] at this;omega
   ·have:=el (List.mem_map_of_mem (f:=cY) hm);rw[jE] at this;omega
   ·have h1:=el (List.mem_map_of_mem (f:=cY) hm);rw[jE] at h1
    have h2:=el (List.mem_map_of_mem (f:=bN) hp);rw[iK] at h2;omega
   ·have h1:=el (List.mem_map_of_mem (f:=cY) hm);rw[jE] at h1
    have h2:=el (List.mem_map_of_mem (f:=bN) hp);rw[iK] at h2;omega
   ·have h2:=el (List.mem_map_of_mem (f:=bN) hp);rw[iK] at h2;omega
   ·have h2:=el (List.mem_map_of_mem (f:=bN) hp);rw[iK] at h2;omega
end
end Go.Rl
namespace Go.Rl
open Go.RowKit
end Go.Rl
namespace Go.Rl
open Go.RowKit
end Go.Rl
namespace Go.Rl
open Go.RowKit Go.Proofs
end Go.Rl
namespace Go.Rl
open Go.RowKit Go.Proofs Go.Proofs.YtpeidnhjcompmaaGreatDoor
end Go.Rl
namespace Go.Rl
open Go.RowKit
end Go.Rl
namespace Go.Rl
open Go.RowKit Go.Proofs Go.Proofs.YtpeidnhjcompmaaGreatDoor
theorem iu {w:World} {q:fi} {x y:Value} (hx:bm q.2.1 x w) (hy:bm q.2.2 y w) (hs:sQ q):
 Calls Tryz.prog 99 #[.agg #[B q.1,x,y]] w (bE fun r w'=>aK w w'∧r=B (fG q)):=
 oB (b:=q.1) ⟨x,y,rfl,hx,hy⟩ (by have:=hs.1;omega) (by have:=hs.2;omega)
end Go.Rl
namespace Go.Rl
open Go.RowKit Go.Proofs Go.Proofs.YtpeidnhjcompmaaGreatDoor
end Go.Rl
namespace Go.Rl
open Go.RowKit Go.Proofs
end Go.Rl
namespace Go.Rl
open Go.RowKit Go.Proofs Go.Proofs.YtpeidnhjcompmaaGreatDoor
theorem yP {α:Type} {f:List UInt8→Option (α×List UInt8)} {P:α→Prop} {K:Nat} (hf:Le f) (h:∀l a t,f l=some (a,t)→l.length≤K→P a):∀(n:Nat) (l:List UInt8) (xs:List α) (t:List UInt8),bQ f n l=some (xs,t)→l.length≤K→∀x∈xs,P x
 |0,l,xs,t,e,_=>by
  simp only[bQ,Option.some.injEq,Prod.mk.injEq] at e
  rw[←e.1]
  exact fun _ h=>by simp at h
 |n+1,l,xs,t,e,hl=>by
  simp only[bQ] at e
  obtain⟨p,h1,h2⟩:=Option.bind_eq_some_iff.1 e
  obtain⟨q,h3,h4⟩:=Option.map_eq_some_iff.1 h2
  simp only[Prod.mk.injEq] at h4
  have h5:=hf l p.1 p.2 h1
  have ih:=yP hf h n p.2 q.1 q.2 h3 (by omega)
  rw[←h4.1]
  intro x hx
  rcases List.mem_cons.1 hx with rfl|hx
  ·exact h l _ p.2 h1 hl
  ·exact ih x hx
theorem ri {α:Type} {f:List UInt8→Option (α×List UInt8)} {P:α→Prop} {K:Nat} (hf:Le f) (h:∀l a t,f l=some (a,t)→l.length≤K→P a) {l t:List UInt8} {xs:List α} (e:dk f l=some (xs,t)) (hl:l.length≤K):∀x∈xs,P x:=by
 unfold dk at e
 obtain⟨p,h1,h2⟩:=Option.bind_eq_some_iff.1 e
 have:=lC l p.1 p.2 h1
 exact yP hf h _ _ _ _ h2 (by omega)
theorem pQ {l t:List UInt8} {q:fi} (h:i7 l=some (q,t)) (hl:l.length≤4294967296):sQ q:=by
 have h1:=(uO h).1
 have h2:=jA q
 have h3:=congrArg List.length h1
 rw[List.length_append] at h3
 exact⟨by omega,by omega⟩
theorem Dh {l t:List UInt8} {m:cb} (h:qV l=some (m,t)) (hl:l.length≤4294967296):sQ m.co:=by
 unfold qV at h
 obtain⟨p1,h1,h⟩:=Option.bind_eq_some_iff.1 h
 obtain⟨p2,h2,h⟩:=Option.bind_eq_some_iff.1 h
 obtain⟨p3,h3,h⟩:=Option.bind_eq_some_iff.1 h
 obtain⟨p4,h4,h⟩:=Option.bind_eq_some_iff.1 h
 obtain⟨p5,h5,h⟩:=Option.bind_eq_some_iff.1 h
 simp only[Option.some.injEq,Prod.mk.injEq] at h
 obtain⟨rfl,rfl⟩:=h
 have a1:=eO _ _ _ h1;have a2:=eO _ _ _ h2;have a3:=eO _ _ _ h3;have a4:=eO _ _ _ h4
 exact pQ (q:=p5.1) (t:=p5.2) h5 (by omega)
theorem yQ {l t:List UInt8} {xs:List cb} (h:Bt l=some (xs,t)) (hl:l.length≤4294967296):sP xs:=ri zM.le (fun _ _ _ h hl=>Dh h hl) h hl
theorem Di {l t:List UInt8} {m:dI} (h:nw l=some (m,t)) (hl:l.length≤4294967296):sL m:=by
 unfold nw at h
 obtain⟨p1,h1,h⟩:=Option.bind_eq_some_iff.1 h
 obtain⟨p2,h2,h⟩:=Option.bind_eq_some_iff.1 h
 obtain⟨p3,h3,h⟩:=Option.bind_eq_some_iff.1 h
 obtain⟨p4,h4,h⟩:=Option.bind_eq_some_iff.1 h
 simp only[Option.some.injEq,Prod.mk.injEq] at h
 obtain⟨rfl,rfl⟩:=h
 have a1:=eO _ _ _ h1;have a2:=qW 1 _ _ _ h2;have a3:=tE _ _ _ h3
 exact⟨pQ (q:=p3.1) (t:=p3.2) h3 (by omega),yQ (xs:=p4.1) (t:=p4.2) h4 (by omega)⟩
theorem rj:∀(k:Nat) (l t:List UInt8) (n:aW),qa k l=some (n,t)→l.length≤4294967296→sN n
 |0,_,_,_,h,_=>by cases h
 |k+1,l,t,n,h,hl=>by
  simp only[qa] at h
  obtain⟨p1,h1,h⟩:=Option.bind_eq_some_iff.1 h
  obtain⟨p2,h2,h⟩:=Option.bind_eq_some_iff.1 h
  have a1:=qW 2 _ _ _ h1;have a2:=sj _ _ _ h2
  have s2:=ri zN.le (fun _ _ _ h hl=>Di h hl) (xs:=p2.1) (t:=p2.2) h2 (by omega)
  split at h
  ·obtain⟨p3,h3,h⟩:=Option.bind_eq_some_iff.1 h
   simp only[Option.some.injEq,Prod.mk.injEq] at h
   obtain⟨rfl,rfl⟩:=h
   refine(wZ _).2 ⟨s2,⟨?_,?_⟩,yQ (xs:=p3.1) (t:=p3.2) h3 (by omega),fun _ h=>?_⟩
   ·show([]:List UInt32).length≤_;simp
   ·show([]:List UInt32).length≤_;simp
   ·simp[aW.kids] at h
  ·obtain⟨p3,h3,h⟩:=Option.bind_eq_some_iff.1 h
   obtain⟨p4,h4,h⟩:=Option.bind_eq_some_iff.1 h
   obtain⟨p5,h5,h⟩:=Option.bind_eq_some_iff.1 h
   simp only[Option.some.injEq,Prod.mk.injEq] at h
   obtain⟨rfl,rfl⟩:=h
   have a3:=nx _ _ _ h3;have a4:=pG _ _ _ _ h4
   have s4:=rj k _ p4.2 p4.1 h4 (by omega)
   have s5:=rj k _ p5.2 p5.1 h5 (by omega)
   have sd:sQ p3.1.at_:=by
    unfold oa at h3
    obtain⟨q1,i1,h3⟩:=Option.bind_eq_some_iff.1 h3
    obtain⟨q2,i2,h3⟩:=Option.bind_eq_some_iff.1 h3
    obtain⟨q3,i3,h3⟩:=Option.bind_eq_some_iff.1 h3
    have b1:=eO _ _ _ i1;have b2:=eO _ _ _ i2
    simp only[Option.some.injEq] at h3
    rw[←h3]
    exact pQ (q:=q3.1) (t:=q3.2) i3 (by omega)
   refine(wZ _).2 ⟨s2,sd,fun _ h=>by simp[aW.pf] at h,fun c hc=>?_⟩
   simp only[aW.kids,List.mem_cons,List.not_mem_nil,or_false] at hc
   rcases hc with rfl|rfl
   ·exact s4
   ·exact s5
end Go.Rl
namespace Go.Rl
open Go.RowKit
def kY:List UInt8:=[82,76,85,74]
def BT (b:List UInt8):List UInt8:=b++(kT b).take 8
def eS (b:List UInt8) (k:Nat):Bool:=decide (k+8≤b.length)&&decide (BT (b.take k)=b.take (k+8))
def fA (d:List UInt8):List UInt8:=BT (kY++d)
def j8 (b p:List UInt8):List UInt8:=BT (b++jY p)
def gZ (b:List UInt8) (k:Nat):Option (cc×Nat):=(p9 (b.drop k)).bind fun p=>if eS b (b.length-p.2.length)=true then(jj p.1).map fun x=>(x,b.length-p.2.length+8) else none
def ql (b:List UInt8):Nat→Nat→List cc×Nat
 |0,k=>([],k)
 |f+1,k=>match gZ b k with
  |some (x,k')=>(x::(ql b f k').1,(ql b f k').2)
  |none=>([],k)
def fH (b:List UInt8) (k:Nat):List cc×Nat:=ql b (b.length-k) k
def ll (b:List UInt8):(List UInt8×List cc×Nat)×Int:=if b.length<44∨b.take 4≠kY∨eS b 36=false then((pJ,[],0),5) else(((b.take 36).drop 4,fH b 44),0)
section
variable {b:List UInt8} {k k' f:Nat} {x:cc}
theorem Jv {l a t:List UInt8} (h:p9 l=some (a,t)):t.length+1≤l.length:=by
 have:=Jb h
 have h2:=qq a.length
 rw[this]
 unfold jY
 simp only[List.length_append]
 omega
theorem pR (h:gZ b k=some (x,k')):∃p t,p9 (b.drop k)=some (p,t)∧eS b (b.length-t.length)=true∧jj p=some x∧k'=b.length-t.length+8∧k+9≤k'∧k'≤b.length:=by
 unfold gZ at h
 obtain⟨p,h1,h2⟩:=Option.bind_eq_some_iff.1 h
 split at h2
 ·rename_i hc
  obtain⟨y,h3,h4⟩:=Option.map_eq_some_iff.1 h2
  simp only[Prod.mk.injEq] at h4
  obtain⟨rfl,rfl⟩:=h4
  have h5:=Jv (a:=p.1) (t:=p.2) h1
  rw[List.length_drop] at h5
  have hc':=hc
  simp only[eS,Bool.and_eq_true,decide_eq_true_eq] at hc'
  exact⟨p.1,p.2,h1,hc,h3,rfl,by omega,by omega⟩
 ·cases h2
theorem yR (h:b.length≤k):gZ b k=none:=by
 unfold gZ
 rw[List.drop_eq_nil_of_le h]
 rfl
theorem kZ:∀(f k:Nat),b.length-k≤f→ql b f k=fH b k
 |0,k,h=>by
  unfold fH
  rw[show b.length-k=0 by omega]
 |f+1,k,h=>by
  unfold fH
  rcases Nat.lt_or_ge k b.length with hk|hk
  ·obtain⟨m,hm⟩:∃m,b.length-k=m+1:=⟨b.length-k-1,by omega⟩
   rw[hm]
   simp only[ql]
   cases hs:gZ b k with
   |none=>rfl
   |some p=>
    obtain⟨x,k'⟩:=p
    obtain⟨_,_,_,_,_,_,h9,_⟩:=pR hs
    simp only[]
    rw[kZ f k' (by omega),kZ m k' (by omega)]
  ·rw[show b.length-k=0 by omega]
   simp only[ql,yR hk]
theorem rk (h:gZ b k=some (x,k')):fH b k=(x::(fH b k').1,(fH b k').2):=by
 obtain⟨_,_,_,_,_,_,h9,h10⟩:=pR h
 have:fH b k=ql b (b.length-k-1+1) k:=(kZ _ _ (by omega)).symm
 rw[this]
 simp only[ql,h]
 rw[kZ _ _ (by omega)]
theorem xl (h:gZ b k=none):fH b k=([],k):=by
 have:fH b k=ql b (b.length-k+1) k:=(kZ _ _ (by omega)).symm
 rw[this]
 simp only[ql,h]
end
theorem Ai (b:List UInt8):(BT b).length=b.length+8:=by
 unfold BT
 rw[List.length_append,List.length_take,dK]
 omega
theorem yS (a s:List UInt8):eS (BT a++s) a.length=true:=by
 have h:=Ai a
 unfold eS
 rw[Bool.and_eq_true]
 refine⟨decide_eq_true (by rw[List.length_append];omega),decide_eq_true ?_⟩
 have e1:(BT a++s).take a.length=a:=by
  unfold BT
  rw[List.append_assoc]
  exact List.take_left' rfl
 have e2:(BT a++s).take (a.length+8)=BT a:=List.take_left' h
 rw[e1,e2]
theorem xm (b p:List UInt8):(j8 b p).length=b.length+(jY p).length+8:=by unfold j8;rw[Ai,List.length_append]
theorem BU (b p:List UInt8):j8 b p=b++(jY p++(kT (b++jY p)).take 8):=by
 unfold j8 BT
 rw[List.append_assoc]
theorem Dj {b p:List UInt8} (rest:List UInt8) (hp:p.length<18446744073709551616):gZ (j8 b p++rest) b.length=(jj p).map fun x=>(x,(j8 b p).length):=by
 have hc:((kT (b++jY p)).take 8).length=8:=by rw[List.length_take,dK];rfl
 have hd:(j8 b p++rest).drop b.length=jY p++((kT (b++jY p)).take 8++rest):=by
  rw[BU,List.append_assoc,List.append_assoc]
  exact List.drop_left' rfl
 have hl:=xm b p
 unfold gZ
 rw[hd,He hp]
 simp only[Option.bind_some]
 have e:(j8 b p++rest).length-((kT (b++jY p)).take 8++rest).length=(b++jY p).length:=by
  rw[List.length_append,List.length_append,List.length_append,hl,hc];omega
 rw[e,if_pos (show eS (j8 b p++rest) (b++jY p).length=true from yS _ _)]
 congr 1
 funext x
 rw[hl,List.length_append]
def ED (b:List UInt8) (ps:List (List UInt8)):List UInt8:=ps.foldl j8 b
theorem uT:∀(ps:List (List UInt8)) (b:List UInt8),∃s,ED b ps=b++s
 |[],b=>⟨[],by simp[ED]⟩
 |p::ps,b=>by
  obtain⟨s,h⟩:=uT ps (j8 b p)
  exact⟨jY p++(kT (b++jY p)).take 8++s,by
   show ED (j8 b p) ps=_
   rw[h,BU]
   simp only[List.append_assoc]⟩
theorem Iq (b:List UInt8) (ps:List (List UInt8)) (p:List UInt8):ED b (ps++[p])=j8 (ED b ps) p:=by unfold ED;rw[List.foldl_append];rfl
theorem Dk (b:List UInt8) (ps qs:List (List UInt8)):ED b (ps++qs)=ED (ED b ps) qs:=by unfold ED;rw[List.foldl_append]
def nJ (b:List UInt8) (es:List cc):List UInt8:=ED b (es.map dh)
def BV (es:List cc):Prop:=∀e∈es,jj (dh e)=some e∧(dh e).length<18446744073709551616
theorem xn:∀(es:List cc) (b rest:List UInt8),BV es→fH (nJ b es++rest) b.length=(es++(fH (nJ b es++rest) (nJ b es).length).1,(fH (nJ b es++rest) (nJ b es).length).2)
 |[],b,rest,_=>rfl
 |e::es,b,rest,h=>by
  obtain⟨h1,h2⟩:=h e (by simp)
  have e0:nJ b (e::es)=nJ (j8 b (dh e)) es:=rfl
  obtain⟨s,hs⟩:=uT (es.map dh) (j8 b (dh e))
  have e1:nJ (j8 b (dh e)) es++rest=j8 b (dh e)++(s++rest):=by
   show ED _ _++rest=_
   rw[hs,List.append_assoc]
  have hst:gZ (nJ (j8 b (dh e)) es++rest) b.length=some (e,(j8 b (dh e)).length):=by
   rw[e1,Dj _ h2,h1];rfl
  rw[e0,rk hst,xn es (j8 b (dh e)) rest fun x hx=>h x (by simp[hx])]
  rfl
theorem mJ {d:List UInt8} (hd:d.length=32):(fA d).length=44:=by unfold fA;rw[Ai,List.length_append,hd];rfl
theorem F8 {d:List UInt8} (s:List UInt8) (hd:d.length=32):ll (fA d++s)=((d,fH (fA d++s) 44),0):=by
 have h:=mJ hd
 have hl:(kY++d).length=36:=by rw[List.length_append,hd];rfl
 have h4:(fA d++s).take 4=kY:=by
  unfold fA BT
  rw[List.append_assoc,List.append_assoc]
  exact List.take_left' (l₁:=kY) rfl
 have h36:(fA d++s).take 36=kY++d:=by
  unfold fA BT
  rw[List.append_assoc]
  exact List.take_left' hl
 unfold ll
 rw[if_neg,h36,show(kY++d).drop 4=d from List.drop_left' (l₁:=kY) rfl]
 rintro(h1|h1|h1)
 ·rw[List.length_append] at h1;omega
 ·exact h1 h4
 ·have:=yS (kY++d) s
  rw[hl] at this
  rw[show fA d=BT (kY++d) from rfl,this] at h1
  cases h1
theorem Jw {d:List UInt8} (es:List cc) (rest:List UInt8):∃s,nJ (fA d) es++rest=fA d++s:=by
 obtain⟨s,hs⟩:=uT (es.map dh) (fA d)
 exact⟨s++rest,by show ED _ _++rest=_;rw[hs,List.append_assoc]⟩
theorem F9 {d:List UInt8} {es:List cc} (rest:List UInt8) (hd:d.length=32) (hb:BV es):ll (nJ (fA d) es++rest)=((d,es++(fH (nJ (fA d) es++rest) (nJ (fA d) es).length).1,(fH (nJ (fA d) es++rest) (nJ (fA d) es).length).2),0):=by
 obtain⟨s,hs⟩:=Jw (d:=d) es rest
 have h:=F8 (d:=d) s hd
 rw[←hs] at h
 have h2:=xn es (fA d) rest hb
 rw[mJ hd] at h2
 rw[h,h2]
theorem xo {d:List UInt8} {es:List cc} (hd:d.length=32) (hb:BV es):ll (nJ (fA d) es)=((d,es,(nJ (fA d) es).length),0):=by
 have h:=F9 [] hd hb
 rw[List.append_nil] at h
 rw[h,xl (yR (Nat.le_refl _)),List.append_nil]
end Go.Rl
namespace Go.Rl
open Go.RowKit Go.Proofs
def jv (e:cc):Dt:=.st [.sl (e.path.map dy),bG e.leaf]
section
variable {w:World} {cs:List Value}
theorem ii {e:cc} (h:Rp w (jv e) cs):∃vd vl x y vk vp,cs=[vd,vl,I e.leaf.split.kd,I e.leaf.split.ix,B e.leaf.split.at_.1,x,y,vk,B e.leaf.empty,vp]∧cA dy e.path vd w∧cA cY e.leaf.lems vl w∧bm e.leaf.split.at_.2.1 x w∧bm e.leaf.split.at_.2.2 y w∧cA bG e.leaf.kids vk w∧cA bN e.leaf.pf vp w:=by
 simp only[jv,bD,Rp.eq_5] at h
 obtain⟨_,_,rfl,h1,_,_,rfl,h2,rfl⟩:=h
 obtain⟨vd,rfl,hd,_⟩:=Rp.isSlice h1
 obtain⟨vl,x,y,vk,vp,rfl,a1,a2,a3,a4,a5⟩:=dW h2
 exact⟨vd,vl,x,y,vk,vp,rfl,hd,a1,a2,a3,a4,a5⟩
theorem cQ (e:cc):(jv e).size=10:=by simp[jv,Dt.size,Dt.sizeAll,cw]
theorem Aj {g:Nat}:(Instr.sliceAt 24 (.pointer (some ⟨g,0,none⟩)) none (some (I 8)) none).run Tryz.prog w=.ok (.slice (some ⟨g,0,none⟩) 8 32) w:=by
 have a1:=run_sliceBound (P:=Tryz.prog) (w:=w) .i64 (8:Int) 32 .sliceAlen (by omega) (by omega)
 have h8:(8:Int).toNat=8:=rfl
 rw[h8] at a1
 simp[Instr.sliceAt,run_underlying Tryz.underlying24,Instr.sureAddr,Instr.sliceBounds,eZ fC,Addr.add_mid,I,a1]
theorem cz.front {l:List UInt8} {g n c k:Nat} (h:cz l (.slice (some ⟨g,0,none⟩) n c) w) (hk:k≤n) (h0:0<k):cz (l.take k) (.slice (some ⟨g,0,none⟩) k c) w:=by
 obtain⟨A,n',c',he,h1,h2,h3,h4,h5⟩:=h
 cases he
 refine⟨_,_,_,rfl,Nat.le_trans hk h1,h2,by simp only[List.length_map,List.length_take] at h3⊢;omega,fun _=>?_,fun h=>by cases h⟩
 obtain⟨ad,e,hc⟩:=h4 (by omega)
 cases e
 exact⟨_,rfl,by rw[List.map_take];exact hc.take k⟩
end
section
variable {P:Program} {ops:Array Oper} {Q:iQ} {N:Nat} {D:List Deferred} {S:World→Prop} {fuel:Nat} {listed:Array Bool} {l:Fr} {w:World} {d:Nat} {ty:TypeId} {pos:String} {aft:Array Edge}
theorem EE (i:Nat) {t:TypeId} {x:Operand} {lo hi mx:Option Operand} {u r:Value} {a b c:Option Value} (hi':ops[i]? =some ⟨some d,.slice t x lo hi mx,ty,pos,aft,none⟩) (hx:ev l x=some u) (hlo:IN l lo=some a) (hhi:IN l hi=some b) (hmx:IN l mx=some c)
 (hB:nn ops listed i=true) (hd:Nat.blt d N=true) (hS:S w) (hrun:∀w',S w'→(Instr.sliceAt t u a b c).run P w'=.ok r w')
 (k:dw P ops Q N D S fuel (listed.setIfInBounds i true) ((d,r)::l) w):dw P ops Q N D S (fuel+1) listed l w:=
 ye i hi' hB hd hS (fun ρ w' hρ hw'=>by
  have:execOp ρ ⟨some d,.slice t x lo hi mx,ty,pos,aft,none⟩=(do pure (Next.value (←Instr.sliceAt t (ρ x) (lo.map ρ) (hi.map ρ) (mx.map ρ))):Sem Next):=rfl
  rw[this,hρ x _ hx,tb hρ hlo,tb hρ hhi,tb hρ hmx,Sem.run_bind,hrun w' hw'];rfl) k
end
end Go.Rl
namespace Go.Rl
open Go.RowKit Go.Proofs
theorem sH:aG Tryz.prog 60:=⟨_,Tryz.func60,by kernel_rfl,rfl⟩
theorem pe:aG Tryz.prog 53:=⟨_,Tryz.func53,by kernel_rfl,rfl⟩
theorem Dl:aG Tryz.prog 19:=⟨_,Tryz.func19,by kernel_rfl,rfl⟩
theorem Ak:aG Tryz.prog 23:=⟨_,Tryz.func23,by kernel_rfl,rfl⟩
theorem Dm:aG Tryz.prog 18:=⟨_,Tryz.func18,by kernel_rfl,rfl⟩
theorem sI {w:World} {l m:List UInt8} {v x:Value} (hv:cz l v w) (hx:cz m x w) (hl:l.length+m.length≤35184372088832):
 Calls Tryz.prog 60 #[v,x] w (bE fun r w'=>aK w w'∧cW w.heap.size (l++jY m) r w'):=by
 refine enter (vs:=[v,x]) Tryz.func60 MI MI MI ?_
 have hun:(UInt64.ofNat m.length).toNat=m.length:=by rw[UInt64.toNat_ofNat'];omega
 have huv:=fR (n:=m.length) (by omega)
 refine af (aa (ac MI MI (ag (ab (af (aa (ae MI MI (ae MI MI (aP MI MI (cN hx) (aZ MI MI (fk Me Mf) ?_))))))))))
 refine am dQ MI MI ((dR (n:=UInt64.ofNat m.length) hv (by omega))) ?_
 rintro v9 w9 ⟨x9,o9⟩
 refine ae MI MI ?_
 rw[hun] at o9
 obtain⟨v11,w11,hr11,o11,g11⟩:=dj (ty:=22) o9 (hx.ext x9) (by simp only[List.length_append];omega) (x9).size
 have x11:=aK.of_grew (x9) g11 o9.ge
 refine a6 MI MI hr11 ?_
 refine ac MI MI (ag (ab (aw (az MI MI ?_))))
 exact⟨_,rfl,x11,by have h:cW w.heap.size (l++uv m.length++m) v11 w11:=o11;simpa only[jY,List.append_assoc] using h⟩
theorem pg {w:World} {b:List UInt8} {v:Value} (hb:cz b v w) (hl:b.length≤1099511627776):
 Calls Tryz.prog 53 #[v] w (bE fun r w'=>aK w w'∧cW w.heap.size (BT b) r w'):=by
 refine enter (vs:=[v]) Tryz.func53 MI MI MI ?_
 refine af (aa (ac MI MI (ag (ab (af (aa (ae MI MI (am FP MI MI ((FQ hb (by omega))) ?_))))))))
 rintro v5 w5 ⟨x5,rfl⟩
 obtain⟨g3,w3,hr3,l3,x3,k3⟩:=aY (P:=Tryz.prog) (w:=w5) (t:=24) (l:=(List.replicate 32 0).map U8) iq rfl
 refine aV MI hr3 ?_
 obtain⟨w6,s6,q6,k6⟩:=k3.stS (P:=Tryz.prog) (t:=24) (m:=(kT b).map U8) (by simp[dK]) (by rw[List.length_map,dK];exact ir) (ew _)
 refine ar MI MI s6 ?_
 have x6:=x3.of_new q6 l3
 have b32:cz (kT b) (.slice (some ⟨g3,0,none⟩) 32 32) w6:=by
  have:=k6.bts (by rw[dK];omega)
  rwa [dK] at this
 refine ag (ab (af ?_))
 have hd:aK w6 w6.drew:=(aK.refl w6).drew
 have b8:=b32.front (k:=8) (by omega) (by omega)
 have d8:((kT b).take 8).length=8:=by rw[List.length_take,dK];omega
 refine gO (aK w6) 6 MI (by kernel_rfl) ?_
 refine fv 1 MI MI (by kernel_rfl) MI hd ?_
 refine EE 3 MI MI MI MI MI (by kernel_rfl) MI hd (fun w' _=>Aj) ?_
 refine aQ 0 (by kernel_rfl) MI ?_
 obtain⟨v7,w7,hr7,x7,o7,_⟩:=dX (w:=w6.drew) w6.heap.size [] (by simp) hd.size
 have e7:=hd.trans x7
 refine aI (vs:=[]) MI MI hr7 (aH e7 (aQ 2 (by kernel_rfl) MI ?_))
 obtain⟨v8,w8,hr8,o8,g8⟩:=dj (ty:=22) o7 (hb.ext ((x5.trans x6).trans e7)) (by simp;omega) e7.size
 have x8:=aK.of_grew e7 g8 o7.ge
 refine a6 MI MI hr8 (aH x8 (aQ 4 (by kernel_rfl) MI ?_))
 obtain⟨v10,w10,hr10,o10,g10⟩:=dj (ty:=22) o8 (b8.ext x8) (by simp[d8];omega) x8.size
 have x10:=aK.of_grew x8 g10 o8.ge
 refine a6 MI MI hr10 (aH x10 (aQ 5 (by kernel_rfl) MI ?_))
 refine ac MI MI (aH x10 (gQ (by kernel_rfl) ?_))
 refine ab (aw (az MI MI ?_))
 exact⟨_,rfl,((x5.trans x6).trans x10),by have h:cW w6.heap.size ([]++b++(kT b).take 8) v10 w10:=o10;exact h.low (x5.trans x6).size⟩
theorem Al {w:World} {b p:List UInt8} {v x:Value} (hb:cz b v w) (hp:cz p x w) (hl:b.length+p.length≤549755813888):
 Calls Tryz.prog 23 #[v,x] w (bE fun r w'=>aK w w'∧cW w.heap.size (j8 b p) r w'):=by
 refine enter (vs:=[v,x]) Tryz.func23 MI MI MI ?_
 refine af (aa (ac MI MI (ag (ab (af (aa (ae MI MI (ae MI MI (am sH MI MI ((sI hb hp (by omega))) ?_)))))))))
 rintro v7 w7 ⟨x7,o7⟩
 have huv:=fR (n:=p.length) (by omega)
 refine am pe MI MI ((pg o7.bts (by simp only[jY,List.length_append];omega))) ?_
 rintro v8 w8 ⟨x8,o8⟩
 refine ac MI MI (ag (ab (aw (az MI MI ?_))))
 exact⟨_,rfl,(x7.trans x8),o8.low x7.size⟩
theorem Dn {w:World} {d:List UInt8} (hd:d.length=32):
 Calls Tryz.prog 19 #[.agg (d.map U8).toArray] w (bE fun r w'=>aK w w'∧cW w.heap.size (fA d) r w'):=by
 refine enter (vs:=[.agg (d.map U8).toArray]) Tryz.func19 MI MI MI ?_
 refine af (aa ?_)
 obtain⟨g2,w2,hr2,l2,x2,k2⟩:=cC (P:=Tryz.prog) (w:=w) (T:=24) (cs:=d.map U8)
 refine cG MI MI hr2 ?_
 refine ac MI MI (ag (ab (af (aa ?_))))
 obtain⟨v7,w7a,w7,hr7,hc7,x7,b7,ad,hv7,had,hlt⟩:=Hc (w:=w2) (t:=22) Tryz.underlying22 [82,76,85,74] (by simp) (by simp)
 refine aI (vs:=[(0,U8 82),(1,U8 76),(2,U8 85),(3,U8 74)]) MI MI hr7 ?_
 refine aZ MI MI hc7 ?_
 have e7:=x2.trans x7
 have bd:cz d (.slice (some ⟨g2,0,none⟩) 32 32) w7:=by
  have:=(k2.ext x7).bts (by rw[hd];omega)
  rwa [hd] at this
 obtain⟨v10,w10,hr10,o10,x10⟩:=Cr (ty:=22) e7 (.inr ⟨b7,ad,hv7⟩) bd (by omega) (by simp[hd])
 refine cE MI MI MI MI MI (H4) ?_
 refine a6 MI MI hr10 ?_
 have b10:cz (kY++d) v10 w10:=o10.bts
 refine am pe MI MI ((pg b10 (by simp only[List.length_append,hd,kY,List.length_cons,List.length_nil];omega))) ?_
 rintro v7 w7' ⟨x7',o11⟩
 refine ac MI MI (ag (ab (aw (az MI MI ?_))))
 exact⟨_,rfl,(x10.trans x7'),o11.low x10.size⟩
theorem Do {w:World} {d:List UInt8} (hd:d.length=32):
 Calls Tryz.prog 18 #[.agg (d.map U8).toArray] w (bE fun r w'=>aK w w'∧cW w.heap.size (fA d) r w'):=by
 refine enter (vs:=[.agg (d.map U8).toArray]) Tryz.func18 MI MI MI ?_
 refine af (aa ?_)
 obtain⟨g2,w2,hr2,l2,x2,k2⟩:=cC (P:=Tryz.prog) (w:=w) (T:=24) (cs:=d.map U8)
 refine cG MI MI hr2 ?_
 refine ac MI MI (ag (ab (af (aa ?_))))
 obtain⟨v7,w7a,w7,hr7,hc7,x7,b7,ad,hv7,had,hlt⟩:=Hc (w:=w2) (t:=22) Tryz.underlying22 [82,76,85,74] (by simp) (by simp)
 refine aI (vs:=[(0,U8 82),(1,U8 76),(2,U8 85),(3,U8 74)]) MI MI hr7 ?_
 refine aZ MI MI hc7 ?_
 have e7:=x2.trans x7
 have bd:cz d (.slice (some ⟨g2,0,none⟩) 32 32) w7:=by
  have:=(k2.ext x7).bts (by rw[hd];omega)
  rwa [hd] at this
 obtain⟨v8,w8,hr8,o8,x8⟩:=Cr (ty:=22) e7 (.inr ⟨b7,ad,hv7⟩) bd (by omega) (by simp[hd])
 refine cE MI MI MI MI MI (H4) ?_
 refine a6 MI MI hr8 ?_
 refine ac MI MI (ag (ab (af (aa (ae MI MI ?_)))))
 have b8:cz (kY++d) v8 w8:=o8.bts
 have hl8:(kY++d).length=36:=by simp only[List.length_append,hd,show kY.length=4 from rfl]
 refine am FX MI MI ((FY b8)) ?_
 rintro v10 w10 ⟨x10,rfl⟩
 obtain⟨g6,w6,hr6,l6,x6,k6⟩:=aY (P:=Tryz.prog) (w:=w10) (t:=24) (l:=(List.replicate 32 0).map U8) iq rfl
 refine aV MI hr6 ?_
 obtain⟨w11,s11,q11,k11⟩:=k6.stS (P:=Tryz.prog) (t:=24) (m:=(kT (kY++d)).map U8) (by simp[dK]) (by rw[List.length_map,dK];exact ir) (ew _)
 refine ar MI MI s11 ?_
 have x11:=x6.of_new q11 l6
 have b32:cz (kT (kY++d)) (.slice (some ⟨g6,0,none⟩) 32 32) w11:=by
  have:=k11.bts (by rw[dK];omega)
  rwa [dK] at this
 have b12:=b32.front (k:=8) (by omega) (by omega)
 have d8:((kT (kY++d)).take 8).length=8:=by rw[List.length_take,dK];omega
 refine ag (ab (af (aa (ae MI MI (cE MI MI MI MI MI (Aj) ?_)))))
 have o8':cW w.heap.size (kY++d) v8 w11:=o8.ext ((x10.trans x11))
 obtain⟨v13,w13,hr13,o13,g13⟩:=dj (ty:=22) o8' b12 (by rw[hl8,d8];omega) (((x8.trans x10).trans x11)).size
 have x13:=aK.of_grew (((x8.trans x10).trans x11)) g13 o8'.ge
 refine a6 MI MI hr13 ?_
 refine ac MI MI (ag (ab (aw (az MI MI ?_))))
 exact⟨_,rfl,x13,o13⟩
end Go.Rl
namespace Go.Rl
open Go.RowKit Go.Proofs
theorem Ga:aG Tryz.prog 24:=⟨_,Tryz.func24,by kernel_rfl,rfl⟩
theorem Gb:aG Tryz.prog 57:=⟨_,Tryz.func57,by kernel_rfl,rfl⟩
theorem iR.off {w w':World} {v r:Value} {g:Nat} (h:iR w w' v r) (hn:some g≠v.ownBlock) (hg:g<w.heap.size):some g≠r.ownBlock:=fun e=>by
 rcases h.own with h1|h1
 ·exact hn (e.trans h1)
 ·have:=h1 _ e.symm;omega
theorem Gc {w:World} {u:cc} {vd vl x y vk vp:Value} (hd:cA dy u.path vd w) (hl:cA cY u.leaf.lems vl w) (hx:bm u.leaf.split.at_.2.1 x w) (hy:bm u.leaf.split.at_.2.2 y w) (hk:cA bG u.leaf.kids vk w) (hp:cA bN u.leaf.pf vp w)
 (hw:BQ u) (hlen:(dh u).length≤4398046511104):
 Calls Tryz.prog 24 #[.agg #[vd,vl,I u.leaf.split.kd,I u.leaf.split.ix,B u.leaf.split.at_.1,x,y,vk,B u.leaf.empty,vp]] w (bE fun r w'=>aK w w'∧cz (dh u) r w'):=by
 refine enter (vs:=[.agg #[vd,vl,I u.leaf.split.kd,I u.leaf.split.ix,B u.leaf.split.at_.1,x,y,vk,B u.leaf.empty,vp]]) Tryz.func24 MI MI MI ?_
 have hpl:=hd.len
 have hun:(UInt64.ofNat u.path.length).toNat=u.path.length:=by rw[UInt64.toNat_ofNat'];omega
 have hen:(dh u).length=(uv u.path.length).length+(u.path.flatMap fJ).length+(dE u.leaf).length:=by simp only[dh,List.length_append]
 refine af (aa ?_)
 obtain⟨g1,w1,hr1,l1,x1,k1⟩:=cC (P:=Tryz.prog) (w:=w) (T:=54) (cs:=[vd,vl,I u.leaf.split.kd,I u.leaf.split.ix,B u.leaf.split.at_.1,x,y,vk,B u.leaf.empty,vp])
 refine cG MI MI hr1 (ac MI MI (ag (ab (af (aa (ah MI MI (aq (o:=0) Md MI (by kernel_rfl) MI) ?_))))))
 refine ak MI MI (ai Mj MI (k1.cell (i:=0) MI)) (aP MI MI (bg Mj (hd.ext x1)) ?_)
 refine aZ MI MI (fk Tryz.underlying3 Tryz.underlying107) (am dQ MI MI ((dR (l:=[]) (n:=UInt64.ofNat u.path.length) (cz.nil _) (by simp))) ?_)
 rintro v9 w9 ⟨x9,o9⟩
 rw[hun,List.nil_append] at o9
 have b9:=o9.bts
 refine ac MI MI (ag (ab (af (af (aa (ac MI MI (ag (ab (aF ?_)))))))))
 refine fl (fun(i:Nat) (v3:Value)=>[(1,.pointer (some ⟨g1,0,none⟩)),(3,v3),(4,I (i:Int))]) (fun(i:Nat) (v3:Value) w'=>aK w w'∧aK w1 w'∧i≤u.path.length∧cz (uv u.path.length++(u.path.take i).flatMap fJ) v3 w') (fun(i:Nat) (v3:Value)=>u.path.length-i) (0) (v9) ⟨rfl,rfl,rfl,trivial⟩ ⟨(x1.trans x9),x9,by omega,by simpa using b9⟩ ?_
 rintro i v3 wL ⟨eL,e1L,hi,bL⟩
 refine af (af (aa (ae MI MI (ah MI MI (aq (o:=0) Md MI (by kernel_rfl) MI) (ak MI MI (ai Mj MI (e1L.cell_some (k1.cell (i:=0) MI))) ?_)))))
 refine aP MI MI (bg Mj (hd.ext eL)) (al MI MI MI (a9) (ag (ab ?_)))
 refine bw MI (fun h14=>?_) (fun h14=>?_)
 ·refine aA (ab (af (aF (aa (ae MI MI (ah MI MI (aq (o:=0) Md MI (by kernel_rfl) MI) (ak MI MI (ai Mj MI (e1L.cell_some (k1.cell (i:=0) MI))) ?_)))))))
  refine ae MI MI ?_
  obtain⟨a21,c21,p21,q21,h21⟩:=bZ (P:=Tryz.prog) (sz:=5) Mj (by kernel_rfl) ce (by omega) (hd.ext eL) (i:=i) (by omega) .i64
  obtain⟨e21,he21⟩:∃e,e=u.path[i]'(by omega):=⟨_,rfl⟩
  rw[←he21] at h21
  obtain⟨x21_0,x21_1,rfl,f21_0,f21_1⟩:=gw h21
  refine av MI MI MI (p21 _) (ak MI MI (q21.ld Mc MI (by kernel_rfl)) (am wW MI MI ((xa bL f21_0 f21_1 (hw.1 e21 (by rw[he21];exact List.getElem_mem _)) (by
 have h:=fL (f:=fJ) (l:=u.path) (i:=i) (by omega)
 rw[←he21] at h
 simp only[List.length_append] at h⊢;omega))) ?_))
  rintro v23 w23 ⟨x23,b23⟩
  refine ac MI MI (ag (aS (ab (aa (ae MI MI (al (r:=I ((i+1:Nat):Int)) MI MI MI (by have e:((i+1:Nat):Int)=(i:Int)+1:=(by omega);rw[e];exact aN (by omega) (by omega)) ?_))))))
  refine ac MI MI (ag ?_)
  refine dD (i+1) (v23) ⟨rfl,rfl,rfl,trivial⟩ ⟨(eL.trans x23),(e1L.trans x23),by omega,by
   rw[du (by omega),←he21,←List.append_assoc]
   exact b23⟩ (by omega)
 ·refine bc (aJ (aJ (bf (ab (af (aa (ae MI MI (ah MI MI (aq (o:=1) Md MI (by kernel_rfl) MI) ?_))))))))
  refine ak rfl rfl ((k1.ext e1L).ldO (ms:=[vl,I u.leaf.split.kd,I u.leaf.split.ix,B u.leaf.split.at_.1,x,y,vk,B u.leaf.empty,vp]) (o:=1) (fun j v hj=>by rcases j with _|_|_|_|_|_|_|_|_|j<;>simp_all) Tryz.underlying52 rfl (by kernel_rfl)) ?_
  refine am wY MI MI ((xc _ (Nat.le_refl _) bL (hl.ext eL) (hx.ext eL) (hy.ext eL) (hk.ext eL) (hp.ext eL) hw.2 (by rw[List.take_of_length_le (by omega)];simp only[List.length_append];omega))) ?_
  rintro v27 w27 ⟨x27,b27⟩
  refine ac MI MI (ag (ab (aw (az MI MI ?_))))
  exact⟨_,rfl,(eL.trans x27),by
   rw[List.take_of_length_le (by omega)] at b27
   exact b27⟩
theorem Gd {w:World} {u:cc} {vd vl x y vk vp:Value} (hd:cA dy u.path vd w) (hl:cA cY u.leaf.lems vl w) (hx:bm u.leaf.split.at_.2.1 x w) (hy:bm u.leaf.split.at_.2.2 y w) (hk:cA bG u.leaf.kids vk w) (hp:cA bN u.leaf.pf vp w)
 (hw:BQ u) (hlen:(dh u).length≤4398046511104):
 Calls Tryz.prog 57 #[.agg #[vd,vl,I u.leaf.split.kd,I u.leaf.split.ix,B u.leaf.split.at_.1,x,y,vk,B u.leaf.empty,vp]] w (bE fun r w'=>aK w w'∧cz (dh u) r w'):=by
 refine enter (vs:=[.agg #[vd,vl,I u.leaf.split.kd,I u.leaf.split.ix,B u.leaf.split.at_.1,x,y,vk,B u.leaf.empty,vp]]) Tryz.func57 MI MI MI ?_
 have hpl:=hd.len
 have hun:(UInt64.ofNat u.path.length).toNat=u.path.length:=by rw[UInt64.toNat_ofNat'];omega
 have hen:(dh u).length=(uv u.path.length).length+(u.path.flatMap fJ).length+(dE u.leaf).length:=by simp only[dh,List.length_append]
 refine af (aa ?_)
 obtain⟨g1,w1,hr1,l1,x1,k1⟩:=cC (P:=Tryz.prog) (w:=w) (T:=54) (cs:=[vd,vl,I u.leaf.split.kd,I u.leaf.split.ix,B u.leaf.split.at_.1,x,y,vk,B u.leaf.empty,vp])
 refine cG MI MI hr1 (ac MI MI (ag (ab (af (aa (ah MI MI (aq (o:=0) Md MI (by kernel_rfl) MI) ?_))))))
 refine ak MI MI (ai Mj MI (k1.cell (i:=0) MI)) (aP MI MI (bg Mj (hd.ext x1)) ?_)
 refine aZ MI MI (fk Tryz.underlying3 Tryz.underlying107) (am nU MI MI ((nV (l:=[]) (n:=UInt64.ofNat u.path.length) (cz.nil _) (by simp))) ?_)
 rintro v10 w10 ⟨x10,o10⟩
 rw[hun,List.nil_append] at o10
 refine ac MI MI (ag (ab (af (af (aa (ah MI MI (aq (o:=0) Md MI (by kernel_rfl) MI) (ak MI MI (ai Mj MI (x10.cell_some (k1.cell (i:=0) MI))) ?_)))))))
 refine aP MI MI (bg Mj (hd.ext (x1.trans x10))) (ae MI MI (ag (ab (aF ?_))))
 refine fl (fun(i:Nat) (v3:Value)=>[(1,.pointer (some ⟨g1,0,none⟩)),(3,v3),(12,vd),(13,I (u.path.length:Int)),(14,I (i:Int))]) (fun(i:Nat) (v3:Value) w'=>aK w w'∧aK w1 w'∧i≤u.path.length∧cW w1.heap.size (uv u.path.length++(u.path.take i).flatMap fJ) v3 w') (fun(i:Nat) (v3:Value)=>u.path.length-i) (0) (v10) ⟨rfl,rfl,rfl,rfl,rfl,trivial⟩ ⟨(x1.trans x10),x10,by omega,by simpa using o10⟩ ?_
 rintro i v3 wL ⟨eL,e1L,hi,oL⟩
 refine af (aa (al MI MI MI (a9) (ag (ab (af ?_)))))
 refine bw MI (fun h15=>?_) (fun h15=>?_)
 ·refine aA (ab (af (aF (af (aa ?_)))))
  obtain⟨a16,c16,p16,q16,h16⟩:=bZ (P:=Tryz.prog) (sz:=5) Mj (by kernel_rfl) ce (by omega) hd (i:=i) (by omega) .i64
  obtain⟨e16,he16⟩:∃e,e=u.path[i]'(by omega):=⟨_,rfl⟩
  rw[←he16] at h16
  obtain⟨x16_0,x16_1,rfl,f16_0,f16_1⟩:=gw h16
  refine av MI MI MI (p16 _) ?_
  have hm:=hw.1 e16 (by rw[he16];exact List.getElem_mem _)
  have hfl:=fL (f:=fJ) (l:=u.path) (i:=i) (by omega)
  rw[←he16] at hfl
  have hml:(fJ e16).length=(dn e16.kd).length+(dn e16.ix).length+(gj e16.at_).length:=by simp only[fJ,List.length_append]
  have hqa:=jA e16.at_
  refine ak MI MI ((q16.ext eL).ld Mc MI (by kernel_rfl)) ?_
  obtain⟨g5,w5,hr5,l5,x5,k5⟩:=aY (P:=Tryz.prog) (w:=wL) (t:=48) (z:=.agg #[I 0,I 0,B false,.slice none 0 0,.slice none 0 0]) (l:=[I 0,I 0,B false,.slice none 0 0,.slice none 0 0]) (by kernel_rfl) rfl
  refine aV MI hr5 ?_
  obtain⟨w4_3,s4_3,q4_3,k4_3⟩:=k5.stS (P:=Tryz.prog) (t:=48) (m:=[I e16.kd,I e16.ix,B e16.at_.1,x16_0,x16_1]) rfl (by kernel_rfl) (au.cons rfl (au.cons rfl (au.cons rfl (au.cons f16_0.one (au.cons f16_1.one au.nil)))))
  refine ar MI MI s4_3 ?_
  have x4_3:=aK.of_new (x5) q4_3 l5
  refine ag (ab (af (aa (ae MI MI (ah MI MI (aq (o:=0) Mc MI (by kernel_rfl) MI) (ak MI MI (ai Me MI (k4_3.cell (i:=0) MI)) ?_))))))
  refine am kJ MI MI ((kO (l:=[]) (n:=e16.kd) (cz.nil _) (by simp) hm.1.1 hm.1.2)) ?_
  rintro v21 w21 ⟨x21,o21⟩
  have b21:cz (dn e16.kd) v21 w21:=o21.bts
  have oL1:=oL.ext ((x4_3.trans x21))
  obtain⟨v22,w22,hr22,o22,g22⟩:=dj (ty:=22) oL1 b21 (by simp only[List.length_append];omega) (((e1L.trans x4_3).trans x21)).size
  have x22:=aK.of_grew (((e1L.trans x4_3).trans x21)) g22 oL1.ge
  have n5:some g5≠v3.ownBlock:=fun h=>by have:=oL.lt _ h.symm;omega
  have k5a:=(k4_3.ext x21).other g22.grown n5
  have n5a:=g22.off n5 (k4_3.ext x21).lt
  refine a6 MI MI hr22 ?_
  refine ac MI MI (ag (ab (af (aa (ae MI MI (ah MI MI (aq (o:=1) Mc MI (by kernel_rfl) MI) ?_))))))
  refine ak MI MI (ai Tryz.underlying3 MI (k5a.cell (i:=1) MI)) (am kJ MI MI ((kO (l:=[]) (n:=e16.ix) (cz.nil _) (by simp) hm.2.1 hm.2.2)) ?_)
  rintro v26 w26 ⟨x26,o26⟩
  have b26:cz (dn e16.ix) v26 w26:=o26.bts
  have o22a:=o22.ext x26
  obtain⟨v27,w27,hr27,o27,g27⟩:=dj (ty:=22) o22a b26 (by simp only[List.length_append];omega) ((x22.trans x26)).size
  have x27:=aK.of_grew ((x22.trans x26)) g27 o22a.ge
  have k5b:=(k5a.ext x26).other g27.grown n5a
  have n5b:=g27.off n5a (k5a.ext x26).lt
  refine a6 MI MI hr27 ?_
  refine ac rfl rfl (ag (ab (aa (ae rfl rfl (ah rfl rfl (aq (o:=2) Tryz.underlying48 rfl (by kernel_rfl) rfl) (ak rfl rfl (k5b.ldO (ms:=[B e16.at_.1,x16_0,x16_1]) (o:=2) (fun j v hj=>by rcases j with _|_|_|_|_|_|_|_|_|j<;>simp_all) Tryz.underlying46 rfl (by kernel_rfl)) ?_))))))
  refine am oz MI MI ((oA (l:=[]) (cz.nil _) (di.mk (f16_0.ext (x1.trans x27)) (f16_1.ext (x1.trans x27))) (by simp only[List.length_nil];omega))) ?_
  rintro v31 w31 ⟨x31,o31⟩
  have b31:cz (gj e16.at_) v31 w31:=o31.bts
  have o27a:=o27.ext x31
  obtain⟨v32,w32,hr32,o32,g32⟩:=dj (ty:=22) o27a b31 (by simp only[List.length_append];omega) ((x27.trans x31)).size
  have x32:=aK.of_grew ((x27.trans x31)) g32 o27a.ge
  refine a6 MI MI hr32 ?_
  refine ac MI MI (ag (aS (ab (aa (al (r:=I ((i+1:Nat):Int)) MI MI MI (by have e:((i+1:Nat):Int)=(i:Int)+1:=(by omega);rw[e];exact aN (by omega) (by omega)) ?_)))))
  refine ae MI MI (ag ?_)
  refine dD (i+1) (v32) ⟨rfl,rfl,rfl,rfl,rfl,trivial⟩ ⟨(x1.trans x32),x32,by omega,by
   have h:cW w1.heap.size (uv u.path.length++(u.path.take i).flatMap fJ++dn e16.kd++dn e16.ix++gj e16.at_) v32 w32:=o32
   rw[du (by omega),←he16]
   simpa only[fJ,List.append_assoc] using h⟩ (by omega)
 ·refine bc (aJ (aJ (bf (ab (af (aa (ae MI MI (ah MI MI (aq (o:=1) Md MI (by kernel_rfl) MI) ?_))))))))
  refine ak rfl rfl ((k1.ext e1L).ldO (ms:=[vl,I u.leaf.split.kd,I u.leaf.split.ix,B u.leaf.split.at_.1,x,y,vk,B u.leaf.empty,vp]) (o:=1) (fun j v hj=>by rcases j with _|_|_|_|_|_|_|_|_|j<;>simp_all) Tryz.underlying52 rfl (by kernel_rfl)) ?_
  refine am Da MI MI ((Dc oL.bts (hl.ext eL) (hx.ext eL) (hy.ext eL) (hk.ext eL) (hp.ext eL) hw.2 (by rw[List.take_of_length_le (by omega)];simp only[List.length_append];omega))) ?_
  rintro v37 w37 ⟨x37,b37⟩
  refine ac MI MI (ag (ab (aw (az MI MI ?_))))
  exact⟨_,rfl,(eL.trans x37),by
   rw[List.take_of_length_le (by omega)] at b37
   exact b37⟩
end Go.Rl
namespace Go.Rl
open Go.RowKit Go.Proofs
theorem yT:aG Tryz.prog 135:=⟨_,Tryz.func135,by kernel_rfl,rfl⟩
theorem Dp:aG Tryz.prog 161:=⟨_,Tryz.func161,by kernel_rfl,rfl⟩
theorem Dq:aG Tryz.prog 134:=⟨_,Tryz.func134,by kernel_rfl,rfl⟩
theorem sJ:aG Tryz.prog 98:=⟨_,Tryz.func98,by kernel_rfl,rfl⟩
theorem rl:aG Tryz.prog 22:=⟨_,Tryz.func22,by kernel_rfl,rfl⟩
theorem nK:aG Tryz.prog 54:=⟨_,Tryz.func54,by kernel_rfl,rfl⟩
theorem yU {w:World} {m:cb} {x y:Value} (hx:bm m.co.2.1 x w) (hy:bm m.co.2.2 y w) (hs:sQ m.co):
 Calls Tryz.prog 135 #[.agg #[I m.kd,I m.ix,I m.lo,I m.hi,B m.co.1,x,y]] w (bE fun r w'=>aK w w'∧r=B (!fG m.co)):=by
 refine enter (vs:=[.agg #[I m.kd,I m.ix,I m.lo,I m.hi,B m.co.1,x,y]]) Tryz.func135 MI MI MI ?_
 refine af (aa ?_)
 obtain⟨g1,w1,hr1,l1,x1,k1⟩:=cC (P:=Tryz.prog) (w:=w) (T:=187) (cs:=[I m.kd,I m.ix,I m.lo,I m.hi,B m.co.1,x,y])
 refine cG MI MI hr1 (ac MI MI (ag (ab (af (aa (ah MI MI (aq (o:=4) Mt MI (by kernel_rfl) MI) ?_))))))
 refine ak rfl rfl (k1.ldO (ms:=[B m.co.1,x,y]) (o:=4) (fun j v hj=>by rcases j with _|_|_|_|_|_|_|_|_|j<;>simp_all) Tryz.underlying46 rfl (by kernel_rfl)) ?_
 refine am fp MI MI ((iu (q:=m.co) (hx.ext x1) (hy.ext x1) hs)) ?_
 rintro v5 w5 ⟨x5,rfl⟩
 refine bt MI MI bu (ac MI MI (ag (ab (aw (az MI MI ?_)))))
 exact⟨_,rfl,(x1.trans x5),rfl⟩
theorem Dr {w:World} {l:List cb} {v:Value} (hv:cA bN l v w) (hs:sP l):
 Calls Tryz.prog 161 #[v,.func (.func 135) #[] #[]] w (bE fun r w'=>aK w w'∧∃k:Int,r=I k∧ -1≤k∧k≤9223372036854775807∧(0≤k↔mw l=false)):=by
 refine enter (vs:=[v,.func (.func 135) #[] #[]]) Tryz.func161 MI MI MI ?_
 have hll:=hv.len
 refine af (aa (ac MI MI (ag (ab (af (af (aa (ae MI MI (aP MI MI (bg Mm hv) (ae MI MI (ag (ab ?_))))))))))))
 refine aF ?_
 refine cg (α:=Nat) (fun i=>[(0,v),(1,.func (.func 135) #[] #[]),(7,I (l.length:Int)),(8,I (i:Int))]) (fun i w'=>aK w w'∧i≤l.length∧(l.all fun m=>fG m.co)=((l.drop i).all fun m=>fG m.co)) (fun i=>l.length-i) (0) ⟨rfl,rfl,rfl,rfl,trivial⟩ ⟨aK.refl _,by omega,rfl⟩ ?_
 rintro i wL ⟨eL,hi,hall⟩
 refine af (aa (al MI MI MI (a9) (ag (ab (af ?_)))))
 refine bw MI (fun h9=>?_) (fun h9=>?_)
 ·refine aA (ab (af (aF (af (aa (ae MI MI (ac MI MI (ag (ab (af ?_))))))))))
  obtain⟨em,hem⟩:∃em,em=l[i]'(by omega):=⟨_,rfl⟩
  have hmem:em∈l:=by rw[hem];exact List.getElem_mem _
  rcases hc:fG em.co
  ·refine aa (ae MI MI (ae MI MI (ae MI MI ?_)))
   obtain⟨a14,c14,p14,q14,h14⟩:=bZ (P:=Tryz.prog) (sz:=7) Mm (by kernel_rfl) dA (by omega) (hv.ext eL) (i:=i) (by omega) .i64
   rw[←hem] at h14
   obtain⟨x14_0,x14_1,rfl,f14_0,f14_1⟩:=gM h14
   refine av MI MI MI (p14 _) (ak MI MI (q14.ld Mt MI (by kernel_rfl)) (lV MI yT MI MI ((by have h:=yU (m:=em) f14_0 f14_1 (hs em hmem);rw[hc] at h;exact h)) ?_))
   rintro v16 w16 ⟨x16,rfl⟩
   refine ag (ab (bh MI (af (aa (ae MI MI (ac MI MI (ag (ab (aw (aX (ay (ay (aX (ay (az MI MI ?_)))))))))))))))
   exact⟨_,rfl,(eL.trans x16),i,rfl,by omega,by omega,⟨fun _=>show(l.all fun m=>fG m.co)=false from gC (p:=fun m:cb=>fG m.co) (l:=l) (i:=i) (by omega) hall (by rw[←hem];exact hc),fun _=>by omega⟩⟩
  ·refine aa (ae MI MI (ae MI MI (ae MI MI ?_)))
   obtain⟨a14,c14,p14,q14,h14⟩:=bZ (P:=Tryz.prog) (sz:=7) Mm (by kernel_rfl) dA (by omega) (hv.ext eL) (i:=i) (by omega) .i64
   rw[←hem] at h14
   obtain⟨x14_0,x14_1,rfl,f14_0,f14_1⟩:=gM h14
   refine av MI MI MI (p14 _) (ak MI MI (q14.ld Mt MI (by kernel_rfl)) (lV MI yT MI MI ((by have h:=yU (m:=em) f14_0 f14_1 (hs em hmem);rw[hc] at h;exact h)) ?_))
   rintro v16 w16 ⟨x16,rfl⟩
   refine ag (ab (cq MI (aA (aS (ab (aa (al (r:=I ((i+1:Nat):Int)) MI MI MI (by have e:((i+1:Nat):Int)=(i:Int)+1:=(by omega);rw[e];exact aN (by omega) (by omega)) ?_)))))))
   refine ae MI MI (ag ?_)
   refine bR (i+1) ⟨rfl,rfl,rfl,rfl,trivial⟩ ⟨(eL.trans x16),by omega,rf (p:=fun m:cb=>fG m.co) (l:=l) (by omega) hall (by rw[←hem];exact hc)⟩ (by omega)
 ·refine bc (aJ (aJ (bf (ab (af (aa (ac MI MI (ag (ab (aw (az MI MI ?_)))))))))))
  exact⟨_,rfl,eL,-1,rfl,by omega,by omega,⟨fun h=>absurd h (by omega),fun h=>by rw[show mw l=true from nE (p:=fun m:cb=>fG m.co) (l:=l) (by omega) hall] at h;cases h⟩⟩
theorem Ds {w:World} {l:List cb} {v:Value} (hv:cA bN l v w) (hs:sP l):
 Calls Tryz.prog 134 #[v,.func (.func 135) #[] #[]] w (bE fun r w'=>aK w w'∧r=B (!mw l)):=by
 refine enter (vs:=[v,.func (.func 135) #[] #[]]) Tryz.func134 MI MI MI ?_
 refine af (aa (ac MI MI (ag (ab (af (aa (ae MI MI (ae MI MI (am Dp MI MI ((Dr hv hs)) ?_)))))))))
 rintro v7 w7 ⟨x7,k,rfl,k1,k2,kc⟩
 refine al MI MI MI (iS) (ac MI MI (ag (ab (aw (az MI MI ?_)))))
 exact⟨_,rfl,x7,by
  congr 1
  cases hc:mw l with
  |true=>exact decide_eq_false fun h=>by have:=kc.1 h;rw[hc] at this;cases this
  |false=>exact decide_eq_true (kc.2 hc)⟩
theorem sK {w:World} {l:List cb} {v:Value} (hv:cA bN l v w) (hs:sP l):
 Calls Tryz.prog 98 #[v] w (bE fun r w'=>aK w w'∧r=B (mw l)):=by
 refine enter (vs:=[v]) Tryz.func98 MI MI MI ?_
 refine af (aa (ac MI MI (ag (ab (af (aa (ae MI MI (am Dq MI MI ((Ds hv hs)) ?_))))))))
 rintro v4 w4 ⟨x4,rfl⟩
 refine bt MI MI bu (ac MI MI (ag (ab (aw (az MI MI ?_)))))
 exact⟨_,rfl,x4,by simp⟩
theorem g0 {d:bS} (h:d.kd<1∨4<d.kd∨fG d.at_=false):fN d=false:=by
 unfold fN
 rcases h with h|h|h
 ·rw[decide_eq_false (by omega:¬1≤d.kd)];rfl
 ·rw[decide_eq_false (by omega:¬d.kd≤4),Bool.and_false];rfl
 ·rw[h,Bool.and_false]
theorem yV {d:bS} (h1:1≤d.kd) (h2:d.kd≤4) (h3:fG d.at_=true):fN d=true:=by
 unfold fN
 rw[decide_eq_true h1,decide_eq_true h2,h3];rfl
theorem cv {u:cc} (h:2048<u.path.length∨0<u.leaf.kids.length∨qg u.leaf=false∨i5 u.leaf=false∨u.path.all fN=false):cK u=false:=by
 unfold cK
 rcases h with h|h|h|h|h
 ·rw[decide_eq_false (by omega:¬u.path.length≤2048)];rfl
 ·rw[decide_eq_false (by omega:¬u.leaf.kids.length=0),Bool.and_false];rfl
 ·rw[h,Bool.and_false];rfl
 ·rw[h,Bool.and_false];rfl
 ·rw[h,Bool.and_false]
theorem yW {u:cc} (h1:u.path.length≤2048) (h2:u.leaf.kids.length=0) (h3:qg u.leaf=true) (h4:i5 u.leaf=true) (h5:u.path.all fN=true):cK u=true:=by
 unfold cK
 rw[decide_eq_true h1,decide_eq_true h2,h3,h4,h5];rfl
def Kj (u:cc):Prop:=(∀d∈u.path,sQ d.at_)∧sN u.leaf
theorem ro {w:World} {u:cc} {vd vl x y vk vp:Value} (hd:cA dy u.path vd w) (hl:cA cY u.leaf.lems vl w) (hx:bm u.leaf.split.at_.2.1 x w) (hy:bm u.leaf.split.at_.2.2 y w) (hk:cA bG u.leaf.kids vk w) (hp:cA bN u.leaf.pf vp w) (hs:Kj u):
 Calls Tryz.prog 22 #[.agg #[vd,vl,I u.leaf.split.kd,I u.leaf.split.ix,B u.leaf.split.at_.1,x,y,vk,B u.leaf.empty,vp]] w (bE fun r w'=>aK w w'∧r=B (cK u)):=by
 refine enter (vs:=[.agg #[vd,vl,I u.leaf.split.kd,I u.leaf.split.ix,B u.leaf.split.at_.1,x,y,vk,B u.leaf.empty,vp]]) Tryz.func22 MI MI MI ?_
 have hpl:=hd.len
 have hkl:=hk.len
 refine af (aa ?_)
 obtain⟨g1,w1,hr1,l1,x1,k1⟩:=cC (P:=Tryz.prog) (w:=w) (T:=54) (cs:=[vd,vl,I u.leaf.split.kd,I u.leaf.split.ix,B u.leaf.split.at_.1,x,y,vk,B u.leaf.empty,vp])
 refine cG MI MI hr1 (ac MI MI (ag (ab (af (af ?_)))))
 rcases hv1:qg u.leaf
 rotate_left
 rcases hv2:i5 u.leaf
 ·refine aa (ah MI MI (aq (o:=0) Md MI (by kernel_rfl) MI) (ak MI MI (ai Mj MI (k1.cell (i:=0) MI)) ?_))
  refine aP MI MI (bg Mj (hd.ext x1)) (al MI MI MI (bV) (ae MI MI ?_))
  refine cd (fun h9=>?_) (fun h9=>?_)
  ·refine an MI MI MI (an MI MI MI (an MI MI MI (an MI MI MI (an MI MI MI (ap MI MI MI (ae MI MI (an MI MI MI (an MI MI MI (an MI MI MI ?_)))))))))
   refine an MI MI MI (ap MI MI MI (ae MI MI (an MI MI MI (an MI MI MI (an MI MI MI (an MI MI MI (ap MI MI MI (ag (ab (bh MI ?_))))))))))
   refine af (aa (ac MI MI (ag (ab (aw (ay (az MI MI ?_)))))))
   exact⟨_,rfl,x1,by
    rw[cv (by
     first
     |exact .inl (by omega)
     |exact .inr (.inl (by omega))
     |exact .inr (.inr (.inl hv1))
     |exact .inr (.inr (.inr (.inl hv2))))]
    rfl⟩
  ·refine aj MI (ah MI MI (aq (o:=1) Md MI (by kernel_rfl) MI) (aj MI (ah MI MI (cD (b:=1) (o:=6) L9 MI (by kernel_rfl) MI) ?_)))
   refine aj MI (ak MI MI (ai Mk MI (k1.cell (i:=7) MI)) (aj MI (aP MI MI (bg Mk (hk.ext x1)) ?_)))
   refine aj MI (al MI MI MI (bV) (aD MI MI MI (ae MI MI ?_)))
   refine cd (fun h16=>?_) (fun h16=>?_)
   ·refine an MI MI MI (an MI MI MI (an MI MI MI (an MI MI MI (ap MI MI MI (ae MI MI (an MI MI MI (an MI MI MI (an MI MI MI (an MI MI MI ?_)))))))))
    refine ap MI MI MI (ag (ab (bh MI (af (aa (ac MI MI (ag (ab (aw (ay (az MI MI ?_)))))))))))
    exact⟨_,rfl,x1,by
     rw[cv (by
      first
      |exact .inl (by omega)
      |exact .inr (.inl (by omega))
      |exact .inr (.inr (.inl hv1))
      |exact .inr (.inr (.inr (.inl hv2))))]
     rfl⟩
   ·refine aj rfl (ah rfl rfl (aq (o:=1) Tryz.underlying54 rfl (by kernel_rfl) rfl) (aj rfl (ak rfl rfl (k1.ldO (ms:=[vl,I u.leaf.split.kd,I u.leaf.split.ix,B u.leaf.split.at_.1,x,y,vk,B u.leaf.empty,vp]) (o:=1) (fun j v hj=>by rcases j with _|_|_|_|_|_|_|_|_|j<;>simp_all) Tryz.underlying52 rfl (by kernel_rfl)) ?_)))
    refine aj MI (am oP MI MI ((by have h:=oS (n:=u.leaf) (hl.ext x1) (hx.ext x1) (hy.ext x1) (hk.ext x1) (hp.ext x1);rw[hv1] at h;exact h)) ?_)
    rintro v19 w19 ⟨x19,rfl⟩
    refine aj MI (bt MI MI bu (aD MI MI MI (ae MI MI (aj MI (ah MI MI (aq (o:=1) Md MI (by kernel_rfl) MI) ?_)))))
    refine aj rfl (ak rfl rfl ((k1.ext x19).ldO (ms:=[vl,I u.leaf.split.kd,I u.leaf.split.ix,B u.leaf.split.at_.1,x,y,vk,B u.leaf.empty,vp]) (o:=1) (fun j v hj=>by rcases j with _|_|_|_|_|_|_|_|_|j<;>simp_all) Tryz.underlying52 rfl (by kernel_rfl)) ?_)
    refine aj MI (am tP MI MI ((by have h:=tQ _ (Nat.le_refl _) (n:=u.leaf) (hl.ext (x1.trans x19)) (hx.ext (x1.trans x19)) (hy.ext (x1.trans x19)) (hk.ext (x1.trans x19)) (hp.ext (x1.trans x19)) hs.2;rw[hv2] at h;exact h)) ?_)
    rintro v25 w25 ⟨x25,rfl⟩
    refine aj MI (bt MI MI bu (aD MI MI MI (ag (ab (bh MI (af (aa (ac MI MI (ag (ab (aw (ay (az MI MI ?_)))))))))))))
    exact⟨_,rfl,((x1.trans x19).trans x25),by
     rw[cv (by
      first
      |exact .inl (by omega)
      |exact .inr (.inl (by omega))
      |exact .inr (.inr (.inl hv1))
      |exact .inr (.inr (.inr (.inl hv2))))]
     rfl⟩
 ·refine aa (ah MI MI (aq (o:=0) Md MI (by kernel_rfl) MI) (ak MI MI (ai Mj MI (k1.cell (i:=0) MI)) ?_))
  refine aP MI MI (bg Mj (hd.ext x1)) (al MI MI MI (bV) (ae MI MI ?_))
  refine cd (fun h9=>?_) (fun h9=>?_)
  ·refine an MI MI MI (an MI MI MI (an MI MI MI (an MI MI MI (an MI MI MI (ap MI MI MI (ae MI MI (an MI MI MI (an MI MI MI (an MI MI MI ?_)))))))))
   refine an MI MI MI (ap MI MI MI (ae MI MI (an MI MI MI (an MI MI MI (an MI MI MI (an MI MI MI (ap MI MI MI (ag (ab (bh MI ?_))))))))))
   refine af (aa (ac MI MI (ag (ab (aw (ay (az MI MI ?_)))))))
   exact⟨_,rfl,x1,by
    rw[cv (by
     first
     |exact .inl (by omega)
     |exact .inr (.inl (by omega))
     |exact .inr (.inr (.inl hv1))
     |exact .inr (.inr (.inr (.inl hv2))))]
    rfl⟩
  ·refine aj MI (ah MI MI (aq (o:=1) Md MI (by kernel_rfl) MI) (aj MI (ah MI MI (cD (b:=1) (o:=6) L9 MI (by kernel_rfl) MI) ?_)))
   refine aj MI (ak MI MI (ai Mk MI (k1.cell (i:=7) MI)) (aj MI (aP MI MI (bg Mk (hk.ext x1)) ?_)))
   refine aj MI (al MI MI MI (bV) (aD MI MI MI (ae MI MI ?_)))
   refine cd (fun h16=>?_) (fun h16=>?_)
   ·refine an MI MI MI (an MI MI MI (an MI MI MI (an MI MI MI (ap MI MI MI (ae MI MI (an MI MI MI (an MI MI MI (an MI MI MI (an MI MI MI ?_)))))))))
    refine ap MI MI MI (ag (ab (bh MI (af (aa (ac MI MI (ag (ab (aw (ay (az MI MI ?_)))))))))))
    exact⟨_,rfl,x1,by
     rw[cv (by
      first
      |exact .inl (by omega)
      |exact .inr (.inl (by omega))
      |exact .inr (.inr (.inl hv1))
      |exact .inr (.inr (.inr (.inl hv2))))]
     rfl⟩
   ·refine aj rfl (ah rfl rfl (aq (o:=1) Tryz.underlying54 rfl (by kernel_rfl) rfl) (aj rfl (ak rfl rfl (k1.ldO (ms:=[vl,I u.leaf.split.kd,I u.leaf.split.ix,B u.leaf.split.at_.1,x,y,vk,B u.leaf.empty,vp]) (o:=1) (fun j v hj=>by rcases j with _|_|_|_|_|_|_|_|_|j<;>simp_all) Tryz.underlying52 rfl (by kernel_rfl)) ?_)))
    refine aj MI (am oP MI MI ((by have h:=oS (n:=u.leaf) (hl.ext x1) (hx.ext x1) (hy.ext x1) (hk.ext x1) (hp.ext x1);rw[hv1] at h;exact h)) ?_)
    rintro v19 w19 ⟨x19,rfl⟩
    refine aj MI (bt MI MI bu (aD MI MI MI (ae MI MI (aj MI (ah MI MI (aq (o:=1) Md MI (by kernel_rfl) MI) ?_)))))
    refine aj rfl (ak rfl rfl ((k1.ext x19).ldO (ms:=[vl,I u.leaf.split.kd,I u.leaf.split.ix,B u.leaf.split.at_.1,x,y,vk,B u.leaf.empty,vp]) (o:=1) (fun j v hj=>by rcases j with _|_|_|_|_|_|_|_|_|j<;>simp_all) Tryz.underlying52 rfl (by kernel_rfl)) ?_)
    refine aj MI (am tP MI MI ((by have h:=tQ _ (Nat.le_refl _) (n:=u.leaf) (hl.ext (x1.trans x19)) (hx.ext (x1.trans x19)) (hy.ext (x1.trans x19)) (hk.ext (x1.trans x19)) (hp.ext (x1.trans x19)) hs.2;rw[hv2] at h;exact h)) ?_)
    rintro v25 w25 ⟨x25,rfl⟩
    refine aj MI (bt MI MI bu (aD MI MI MI (ag (ab (cq MI (aA (ab (af (af (aa (ac MI MI (ag (ab (aF ?_))))))))))))))
    refine cg (α:=Nat) (fun i=>[(1,.pointer (some ⟨g1,0,none⟩)),(3,I (i:Int))]) (fun i w'=>aK w w'∧aK w1 w'∧i≤u.path.length∧u.path.all fN=(u.path.drop i).all fN) (fun i=>u.path.length-i) (0) ⟨rfl,rfl,trivial⟩ ⟨((x1.trans x19).trans x25),(x19.trans x25),by omega,rfl⟩ ?_
    rintro i wL ⟨eL,e1L,hi,hall⟩
    refine af (af (aa (ae MI MI (ah MI MI (aq (o:=0) Md MI (by kernel_rfl) MI) (ak MI MI (ai Mj MI (e1L.cell_some (k1.cell (i:=0) MI))) ?_)))))
    refine aP MI MI (bg Mj (hd.ext eL)) (al MI MI MI (a9) (ag (ab ?_)))
    refine bw MI (fun h32=>?_) (fun h32=>?_)
    ·refine aA (ab (af (aF (af ?_))))
     obtain⟨em,hem⟩:∃em,em=u.path[i]'(by omega):=⟨_,rfl⟩
     have hmem:em∈u.path:=by rw[hem];exact List.getElem_mem _
     rcases hq:fG em.at_
     ·refine aa (ah MI MI (aq (o:=0) Md MI (by kernel_rfl) MI) (ak MI MI (ai Mj MI (e1L.cell_some (k1.cell (i:=0) MI))) ?_))
      refine ae MI MI ?_
      obtain⟨a38,c38,p38,q38,h38⟩:=bZ (P:=Tryz.prog) (sz:=5) Mj (by kernel_rfl) ce (by omega) (hd.ext eL) (i:=i) (by omega) .i64
      rw[←hem] at h38
      obtain⟨x38_0,x38_1,rfl,f38_0,f38_1⟩:=gw h38
      refine av MI MI MI (p38 _) (ak MI MI (q38.ld Mc MI (by kernel_rfl)) ?_)
      obtain⟨g4,w4,hr4,l4,x4,k4⟩:=aY (P:=Tryz.prog) (w:=wL) (t:=48) (z:=.agg #[I 0,I 0,B false,.slice none 0 0,.slice none 0 0]) (l:=[I 0,I 0,B false,.slice none 0 0,.slice none 0 0]) (by kernel_rfl) rfl
      refine aV MI hr4 ?_
      obtain⟨w6_6,s6_6,q6_6,k6_6⟩:=k4.stS (P:=Tryz.prog) (t:=48) (m:=[I em.kd,I em.ix,B em.at_.1,x38_0,x38_1]) rfl (by kernel_rfl) (au.cons rfl (au.cons rfl (au.cons rfl (au.cons f38_0.one (au.cons f38_1.one au.nil)))))
      refine ar MI MI s6_6 ?_
      have x6_6:=aK.of_new (x4) q6_6 l4
      refine ag (ab (af (aa (ah MI MI (aq (o:=0) Mc MI (by kernel_rfl) MI) (ak MI MI (ai Me MI (k6_6.cell (i:=0) MI)) ?_)))))
      refine al MI MI MI (a9) (ae MI MI ?_)
      refine cd (fun h43=>?_) (fun h43=>?_)
      ·refine an MI MI MI (an MI MI MI (an MI MI MI (ap MI MI MI (ae MI MI (an MI MI MI (an MI MI MI (an MI MI MI (an MI MI MI (ap MI MI MI ?_)))))))))
       refine ag (ab (bh MI (af (aa (ac MI MI (ag (ab (aw (aX (ay (ay (aX (ay (az MI MI ?_))))))))))))))
       exact⟨_,rfl,(eL.trans x6_6),by
        rw[cv (.inr (.inr (.inr (.inr (gC (p:=fN) (i:=i) (by omega) hall (by
         rw[←hem]
         refine g0 ?_
         first
         |exact .inl (by omega)
         |exact .inr (.inl (by omega))
         |exact .inr (.inr hq)))))))]
        rfl⟩
      ·refine aj MI (ah MI MI (aq (o:=0) Mc MI (by kernel_rfl) MI) (aj MI (ak MI MI (ai Me MI (k6_6.cell (i:=0) MI)) ?_)))
       refine aj MI (al MI MI MI (bV) (aD MI MI MI (ae MI MI ?_)))
       refine cd (fun h48=>?_) (fun h48=>?_)
       ·refine an MI MI MI (an MI MI MI (an MI MI MI (an MI MI MI (ap MI MI MI (ag (ab (bh MI (af (aa (ac MI MI (ag (ab (aw (aX ?_))))))))))))))
        refine ay (ay (aX (ay (az MI MI ?_))))
        exact⟨_,rfl,(eL.trans x6_6),by
         rw[cv (.inr (.inr (.inr (.inr (gC (p:=fN) (i:=i) (by omega) hall (by
          rw[←hem]
          refine g0 ?_
          first
          |exact .inl (by omega)
          |exact .inr (.inl (by omega))
          |exact .inr (.inr hq)))))))]
         rfl⟩
       ·refine aj rfl (ah rfl rfl (aq (o:=2) Tryz.underlying48 rfl (by kernel_rfl) rfl) (aj rfl (ak rfl rfl (k6_6.ldO (ms:=[B em.at_.1,x38_0,x38_1]) (o:=2) (fun j v hj=>by rcases j with _|_|_|_|_|_|_|_|_|j<;>simp_all) Tryz.underlying46 rfl (by kernel_rfl)) ?_)))
        refine aj MI (am gD MI MI ((by have h:=nI (q:=em.at_) (f38_0.ext x6_6) (f38_1.ext x6_6) (hs.1 em hmem);rw[hq] at h;exact h)) ?_)
        rintro v51 w51 ⟨x51,rfl⟩
        refine aj MI (bt MI MI bu (aD MI MI MI (ag (ab (bh MI (af (aa (ac MI MI (ag (ab (aw (aX (ay (ay (aX (ay (az MI MI ?_)))))))))))))))))
        exact⟨_,rfl,((eL.trans x6_6).trans x51),by
         rw[cv (.inr (.inr (.inr (.inr (gC (p:=fN) (i:=i) (by omega) hall (by
          rw[←hem]
          refine g0 ?_
          first
          |exact .inl (by omega)
          |exact .inr (.inl (by omega))
          |exact .inr (.inr hq)))))))]
         rfl⟩
     ·refine aa (ah MI MI (aq (o:=0) Md MI (by kernel_rfl) MI) (ak MI MI (ai Mj MI (e1L.cell_some (k1.cell (i:=0) MI))) ?_))
      refine ae MI MI ?_
      obtain⟨a38,c38,p38,q38,h38⟩:=bZ (P:=Tryz.prog) (sz:=5) Mj (by kernel_rfl) ce (by omega) (hd.ext eL) (i:=i) (by omega) .i64
      rw[←hem] at h38
      obtain⟨x38_0,x38_1,rfl,f38_0,f38_1⟩:=gw h38
      refine av MI MI MI (p38 _) (ak MI MI (q38.ld Mc MI (by kernel_rfl)) ?_)
      obtain⟨g4,w4,hr4,l4,x4,k4⟩:=aY (P:=Tryz.prog) (w:=wL) (t:=48) (z:=.agg #[I 0,I 0,B false,.slice none 0 0,.slice none 0 0]) (l:=[I 0,I 0,B false,.slice none 0 0,.slice none 0 0]) (by kernel_rfl) rfl
      refine aV MI hr4 ?_
      obtain⟨w6_6,s6_6,q6_6,k6_6⟩:=k4.stS (P:=Tryz.prog) (t:=48) (m:=[I em.kd,I em.ix,B em.at_.1,x38_0,x38_1]) rfl (by kernel_rfl) (au.cons rfl (au.cons rfl (au.cons rfl (au.cons f38_0.one (au.cons f38_1.one au.nil)))))
      refine ar MI MI s6_6 ?_
      have x6_6:=aK.of_new (x4) q6_6 l4
      refine ag (ab (af (aa (ah MI MI (aq (o:=0) Mc MI (by kernel_rfl) MI) (ak MI MI (ai Me MI (k6_6.cell (i:=0) MI)) ?_)))))
      refine al MI MI MI (a9) (ae MI MI ?_)
      refine cd (fun h43=>?_) (fun h43=>?_)
      ·refine an MI MI MI (an MI MI MI (an MI MI MI (ap MI MI MI (ae MI MI (an MI MI MI (an MI MI MI (an MI MI MI (an MI MI MI (ap MI MI MI ?_)))))))))
       refine ag (ab (bh MI (af (aa (ac MI MI (ag (ab (aw (aX (ay (ay (aX (ay (az MI MI ?_))))))))))))))
       exact⟨_,rfl,(eL.trans x6_6),by
        rw[cv (.inr (.inr (.inr (.inr (gC (p:=fN) (i:=i) (by omega) hall (by
         rw[←hem]
         refine g0 ?_
         first
         |exact .inl (by omega)
         |exact .inr (.inl (by omega))
         |exact .inr (.inr hq)))))))]
        rfl⟩
      ·refine aj MI (ah MI MI (aq (o:=0) Mc MI (by kernel_rfl) MI) (aj MI (ak MI MI (ai Me MI (k6_6.cell (i:=0) MI)) ?_)))
       refine aj MI (al MI MI MI (bV) (aD MI MI MI (ae MI MI ?_)))
       refine cd (fun h48=>?_) (fun h48=>?_)
       ·refine an MI MI MI (an MI MI MI (an MI MI MI (an MI MI MI (ap MI MI MI (ag (ab (bh MI (af (aa (ac MI MI (ag (ab (aw (aX ?_))))))))))))))
        refine ay (ay (aX (ay (az MI MI ?_))))
        exact⟨_,rfl,(eL.trans x6_6),by
         rw[cv (.inr (.inr (.inr (.inr (gC (p:=fN) (i:=i) (by omega) hall (by
          rw[←hem]
          refine g0 ?_
          first
          |exact .inl (by omega)
          |exact .inr (.inl (by omega))
          |exact .inr (.inr hq)))))))]
         rfl⟩
       ·refine aj rfl (ah rfl rfl (aq (o:=2) Tryz.underlying48 rfl (by kernel_rfl) rfl) (aj rfl (ak rfl rfl (k6_6.ldO (ms:=[B em.at_.1,x38_0,x38_1]) (o:=2) (fun j v hj=>by rcases j with _|_|_|_|_|_|_|_|_|j<;>simp_all) Tryz.underlying46 rfl (by kernel_rfl)) ?_)))
        refine aj MI (am gD MI MI ((by have h:=nI (q:=em.at_) (f38_0.ext x6_6) (f38_1.ext x6_6) (hs.1 em hmem);rw[hq] at h;exact h)) ?_)
        rintro v51 w51 ⟨x51,rfl⟩
        refine aj MI (bt MI MI bu (aD MI MI MI (ag (ab (cq MI (aA (aS (ab (aa (ae MI MI (al (r:=I ((i+1:Nat):Int)) MI MI MI (by have e:((i+1:Nat):Int)=(i:Int)+1:=(by omega);rw[e];exact aN (by omega) (by omega)) ?_)))))))))))
        refine ac MI MI (ag ?_)
        refine bR (i+1) ⟨rfl,rfl,trivial⟩ ⟨((eL.trans x6_6).trans x51),((e1L.trans x6_6).trans x51),by omega,rf (p:=fN) (by omega) hall (by rw[←hem];exact yV (by omega) (by omega) hq)⟩ (by omega)
    ·refine bc (aJ (aJ (bf (ab (af (aa (ac MI MI (ag (ab (aw (az MI MI ?_)))))))))))
     exact⟨_,rfl,eL,by rw[yW (by omega) (by omega) hv1 hv2 (nE (p:=fN) (l:=u.path) (i:=i) (by omega) hall)];rfl⟩
 ·refine aa (ah MI MI (aq (o:=0) Md MI (by kernel_rfl) MI) (ak MI MI (ai Mj MI (k1.cell (i:=0) MI)) ?_))
  refine aP MI MI (bg Mj (hd.ext x1)) (al MI MI MI (bV) (ae MI MI ?_))
  refine cd (fun h9=>?_) (fun h9=>?_)
  ·refine an MI MI MI (an MI MI MI (an MI MI MI (an MI MI MI (an MI MI MI (ap MI MI MI (ae MI MI (an MI MI MI (an MI MI MI (an MI MI MI ?_)))))))))
   refine an MI MI MI (ap MI MI MI (ae MI MI (an MI MI MI (an MI MI MI (an MI MI MI (an MI MI MI (ap MI MI MI (ag (ab (bh MI ?_))))))))))
   refine af (aa (ac MI MI (ag (ab (aw (ay (az MI MI ?_)))))))
   exact⟨_,rfl,x1,by
    rw[cv (by
     first
     |exact .inl (by omega)
     |exact .inr (.inl (by omega))
     |exact .inr (.inr (.inl hv1))
     |exact .inr (.inr (.inr (.inl hv2))))]
    rfl⟩
  ·refine aj MI (ah MI MI (aq (o:=1) Md MI (by kernel_rfl) MI) (aj MI (ah MI MI (cD (b:=1) (o:=6) L9 MI (by kernel_rfl) MI) ?_)))
   refine aj MI (ak MI MI (ai Mk MI (k1.cell (i:=7) MI)) (aj MI (aP MI MI (bg Mk (hk.ext x1)) ?_)))
   refine aj MI (al MI MI MI (bV) (aD MI MI MI (ae MI MI ?_)))
   refine cd (fun h16=>?_) (fun h16=>?_)
   ·refine an MI MI MI (an MI MI MI (an MI MI MI (an MI MI MI (ap MI MI MI (ae MI MI (an MI MI MI (an MI MI MI (an MI MI MI (an MI MI MI ?_)))))))))
    refine ap MI MI MI (ag (ab (bh MI (af (aa (ac MI MI (ag (ab (aw (ay (az MI MI ?_)))))))))))
    exact⟨_,rfl,x1,by
     rw[cv (by
      first
      |exact .inl (by omega)
      |exact .inr (.inl (by omega))
      |exact .inr (.inr (.inl hv1))
      |exact .inr (.inr (.inr (.inl hv2))))]
     rfl⟩
   ·refine aj rfl (ah rfl rfl (aq (o:=1) Tryz.underlying54 rfl (by kernel_rfl) rfl) (aj rfl (ak rfl rfl (k1.ldO (ms:=[vl,I u.leaf.split.kd,I u.leaf.split.ix,B u.leaf.split.at_.1,x,y,vk,B u.leaf.empty,vp]) (o:=1) (fun j v hj=>by rcases j with _|_|_|_|_|_|_|_|_|j<;>simp_all) Tryz.underlying52 rfl (by kernel_rfl)) ?_)))
    refine aj MI (am oP MI MI ((by have h:=oS (n:=u.leaf) (hl.ext x1) (hx.ext x1) (hy.ext x1) (hk.ext x1) (hp.ext x1);rw[hv1] at h;exact h)) ?_)
    rintro v19 w19 ⟨x19,rfl⟩
    refine aj MI (bt MI MI bu (aD MI MI MI (ae MI MI (an MI MI MI (an MI MI MI (an MI MI MI (an MI MI MI (ap MI MI MI (ag ?_)))))))))
    refine ab (bh MI (af (aa (ac MI MI (ag (ab (aw (ay (az MI MI ?_)))))))))
    exact⟨_,rfl,(x1.trans x19),by
     rw[cv (by
      first
      |exact .inl (by omega)
      |exact .inr (.inl (by omega))
      |exact .inr (.inr (.inl hv1))
      |exact .inr (.inr (.inr (.inl hv2))))]
     rfl⟩
theorem yX {n:aW} (h:n.kids.length=0):i5 n=(fG n.split.at_&&mw n.pf&&n.lems.all iL):=by
 cases n with
 |mk l s k e p=>
  obtain rfl:k=[]:=List.eq_nil_of_length_eq_zero h
  simp only[i5,wG,aW.split,aW.pf,aW.lems]
  cases fG s.at_<;>cases mw p<;>cases l.all iL<;>rfl
theorem eo {n:aW} (h:n.kids.length=0) (h1:fG n.split.at_=false∨mw n.pf=false∨n.lems.all iL=false):i5 n=false:=by
 rw[yX h]
 rcases h1 with h|h|h<;>rw[h]
 ·rfl
 ·rw[Bool.and_false];rfl
 ·rw[Bool.and_false]
theorem Am {n:aW} (h:n.kids.length=0) (h1:fG n.split.at_=true) (h2:mw n.pf=true) (h3:n.lems.all iL=true):i5 n=true:=by
 rw[yX h,h1,h2,h3];rfl
theorem nN {w:World} {u:cc} {vd vl x y vk vp:Value} (hd:cA dy u.path vd w) (hl:cA cY u.leaf.lems vl w) (hx:bm u.leaf.split.at_.2.1 x w) (hy:bm u.leaf.split.at_.2.2 y w) (hk:cA bG u.leaf.kids vk w) (hp:cA bN u.leaf.pf vp w) (hs:Kj u):
 Calls Tryz.prog 54 #[.agg #[vd,vl,I u.leaf.split.kd,I u.leaf.split.ix,B u.leaf.split.at_.1,x,y,vk,B u.leaf.empty,vp]] w (bE fun r w'=>aK w w'∧r=B (cK u)):=by
 refine enter (vs:=[.agg #[vd,vl,I u.leaf.split.kd,I u.leaf.split.ix,B u.leaf.split.at_.1,x,y,vk,B u.leaf.empty,vp]]) Tryz.func54 MI MI MI ?_
 have hpl:=hd.len
 have hkl:=hk.len
 have hll:=hl.len
 obtain⟨sl,sd,sp,_⟩:=(wZ u.leaf).1 hs.2
 refine af (aa ?_)
 obtain⟨g1,w1,hr1,l1,x1,k1⟩:=cC (P:=Tryz.prog) (w:=w) (T:=54) (cs:=[vd,vl,I u.leaf.split.kd,I u.leaf.split.ix,B u.leaf.split.at_.1,x,y,vk,B u.leaf.empty,vp])
 refine cG MI MI hr1 (ac MI MI (ag (ab (af (af ?_)))))
 rcases hv1:qg u.leaf
 rotate_left
 rcases hv2:mw u.leaf.pf
 ·refine aa (ah MI MI (aq (o:=0) Md MI (by kernel_rfl) MI) (ak MI MI (ai Mj MI (k1.cell (i:=0) MI)) ?_))
  refine aP MI MI (bg Mj (hd.ext x1)) (al MI MI MI (bV) (ae MI MI ?_))
  refine cd (fun h11=>?_) (fun h11=>?_)
  ·refine an MI MI MI (an MI MI MI (an MI MI MI (an MI MI MI (an MI MI MI (ap MI MI MI (ae MI MI (an MI MI MI (an MI MI MI (an MI MI MI ?_)))))))))
   refine an MI MI MI (ap MI MI MI (ae MI MI (an MI MI MI (an MI MI MI (an MI MI MI (an MI MI MI (an MI MI MI (ap MI MI MI (ag ?_)))))))))
   refine ab (bh MI (af (aa (ac MI MI (ag (ab (aw (ay (az MI MI ?_)))))))))
   exact⟨_,rfl,x1,by
    rw[cv (by
     first
     |exact .inl (by omega)
     |exact .inr (.inl (by omega))
     |exact .inr (.inr (.inl hv1))
     |exact .inr (.inr (.inr (.inl (eo (by omega) (.inr (.inl hv2)))))))]
    rfl⟩
  ·refine aj MI (ah MI MI (aq (o:=1) Md MI (by kernel_rfl) MI) (aj MI (ah MI MI (cD (b:=1) (o:=6) L9 MI (by kernel_rfl) MI) ?_)))
   refine aj MI (ak MI MI (ai Mk MI (k1.cell (i:=7) MI)) (aj MI (aP MI MI (bg Mk (hk.ext x1)) ?_)))
   refine aj MI (al MI MI MI (bV) (aD MI MI MI (ae MI MI ?_)))
   refine cd (fun h18=>?_) (fun h18=>?_)
   ·refine an MI MI MI (an MI MI MI (an MI MI MI (an MI MI MI (ap MI MI MI (ae MI MI (an MI MI MI (an MI MI MI (an MI MI MI (an MI MI MI ?_)))))))))
    refine an MI MI MI (ap MI MI MI (ag (ab (bh MI (af (aa (ac MI MI (ag (ab (aw (ay (az MI MI ?_))))))))))))
    exact⟨_,rfl,x1,by
     rw[cv (by
      first
      |exact .inl (by omega)
      |exact .inr (.inl (by omega))
      |exact .inr (.inr (.inl hv1))
      |exact .inr (.inr (.inr (.inl (eo (by omega) (.inr (.inl hv2)))))))]
     rfl⟩
   ·refine aj rfl (ah rfl rfl (aq (o:=1) Tryz.underlying54 rfl (by kernel_rfl) rfl) (aj rfl (ak rfl rfl (k1.ldO (ms:=[vl,I u.leaf.split.kd,I u.leaf.split.ix,B u.leaf.split.at_.1,x,y,vk,B u.leaf.empty,vp]) (o:=1) (fun j v hj=>by rcases j with _|_|_|_|_|_|_|_|_|j<;>simp_all) Tryz.underlying52 rfl (by kernel_rfl)) ?_)))
    refine aj MI (am gu MI MI ((by have h:=mr (n:=u.leaf) (hl.ext x1) (hx.ext x1) (hy.ext x1) (hk.ext x1) (hp.ext x1);rw[hv1] at h;exact h)) ?_)
    rintro v21 w21 ⟨x21,rfl⟩
    refine aj MI (bt MI MI bu (aD MI MI MI (ae MI MI (aj MI (ah MI MI (aq (o:=1) Md MI (by kernel_rfl) MI) ?_)))))
    refine aj MI (ah MI MI (cD (b:=1) (o:=8) L9 MI (by kernel_rfl) MI) (aj MI (ak MI MI (ai Mm MI (x21.cell_some (k1.cell (i:=9) MI))) ?_)))
    refine aj MI (am sJ MI MI ((by have h:=sK (hp.ext (x1.trans x21)) sp;rw[hv2] at h;exact h)) ?_)
    rintro v28 w28 ⟨x28,rfl⟩
    refine aj MI (bt MI MI bu (aD MI MI MI (ag (ab (bh MI (af (aa (ac MI MI (ag (ab (aw (ay (az MI MI ?_)))))))))))))
    exact⟨_,rfl,((x1.trans x21).trans x28),by
     rw[cv (by
      first
      |exact .inl (by omega)
      |exact .inr (.inl (by omega))
      |exact .inr (.inr (.inl hv1))
      |exact .inr (.inr (.inr (.inl (eo (by omega) (.inr (.inl hv2)))))))]
     rfl⟩
 ·refine aa (ah MI MI (aq (o:=0) Md MI (by kernel_rfl) MI) (ak MI MI (ai Mj MI (k1.cell (i:=0) MI)) ?_))
  refine aP MI MI (bg Mj (hd.ext x1)) (al MI MI MI (bV) (ae MI MI ?_))
  refine cd (fun h11=>?_) (fun h11=>?_)
  ·refine an MI MI MI (an MI MI MI (an MI MI MI (an MI MI MI (an MI MI MI (ap MI MI MI (ae MI MI (an MI MI MI (an MI MI MI (an MI MI MI ?_)))))))))
   refine an MI MI MI (ap MI MI MI (ae MI MI (an MI MI MI (an MI MI MI (an MI MI MI (an MI MI MI (an MI MI MI (ap MI MI MI (ag ?_)))))))))
   refine ab (bh MI (af (aa (ac MI MI (ag (ab (aw (ay (az MI MI ?_)))))))))
   exact⟨_,rfl,x1,by
    rw[cv (by
     first
     |exact .inl (by omega)
     |exact .inr (.inl (by omega))
     |exact .inr (.inr (.inl hv1))
     |exact .inr (.inr (.inr (.inl (eo (by omega) (.inr (.inl hv2)))))))]
    rfl⟩
  ·refine aj MI (ah MI MI (aq (o:=1) Md MI (by kernel_rfl) MI) (aj MI (ah MI MI (cD (b:=1) (o:=6) L9 MI (by kernel_rfl) MI) ?_)))
   refine aj MI (ak MI MI (ai Mk MI (k1.cell (i:=7) MI)) (aj MI (aP MI MI (bg Mk (hk.ext x1)) ?_)))
   refine aj MI (al MI MI MI (bV) (aD MI MI MI (ae MI MI ?_)))
   refine cd (fun h18=>?_) (fun h18=>?_)
   ·refine an MI MI MI (an MI MI MI (an MI MI MI (an MI MI MI (ap MI MI MI (ae MI MI (an MI MI MI (an MI MI MI (an MI MI MI (an MI MI MI ?_)))))))))
    refine an MI MI MI (ap MI MI MI (ag (ab (bh MI (af (aa (ac MI MI (ag (ab (aw (ay (az MI MI ?_))))))))))))
    exact⟨_,rfl,x1,by
     rw[cv (by
      first
      |exact .inl (by omega)
      |exact .inr (.inl (by omega))
      |exact .inr (.inr (.inl hv1))
      |exact .inr (.inr (.inr (.inl (eo (by omega) (.inr (.inl hv2)))))))]
     rfl⟩
   ·refine aj rfl (ah rfl rfl (aq (o:=1) Tryz.underlying54 rfl (by kernel_rfl) rfl) (aj rfl (ak rfl rfl (k1.ldO (ms:=[vl,I u.leaf.split.kd,I u.leaf.split.ix,B u.leaf.split.at_.1,x,y,vk,B u.leaf.empty,vp]) (o:=1) (fun j v hj=>by rcases j with _|_|_|_|_|_|_|_|_|j<;>simp_all) Tryz.underlying52 rfl (by kernel_rfl)) ?_)))
    refine aj MI (am gu MI MI ((by have h:=mr (n:=u.leaf) (hl.ext x1) (hx.ext x1) (hy.ext x1) (hk.ext x1) (hp.ext x1);rw[hv1] at h;exact h)) ?_)
    rintro v21 w21 ⟨x21,rfl⟩
    refine aj MI (bt MI MI bu (aD MI MI MI (ae MI MI (aj MI (ah MI MI (aq (o:=1) Md MI (by kernel_rfl) MI) ?_)))))
    refine aj MI (ah MI MI (cD (b:=1) (o:=8) L9 MI (by kernel_rfl) MI) (aj MI (ak MI MI (ai Mm MI (x21.cell_some (k1.cell (i:=9) MI))) ?_)))
    refine aj MI (am sJ MI MI ((by have h:=sK (hp.ext (x1.trans x21)) sp;rw[hv2] at h;exact h)) ?_)
    rintro v28 w28 ⟨x28,rfl⟩
    refine aj MI (bt MI MI bu (aD MI MI MI (ag (ab (cq MI (aA (ab (af (af (aa (ah MI MI (aq (o:=0) Md MI (by kernel_rfl) MI) ?_)))))))))))
    refine ak MI MI (ai Mj MI ((x21.trans x28).cell_some (k1.cell (i:=0) MI))) (aP MI MI (bg Mj (hd.ext ((x1.trans x21).trans x28))) ?_)
    refine ae MI MI (ag (ab (aF ?_)))
    refine cg (α:=Nat) (fun i=>[(1,.pointer (some ⟨g1,0,none⟩)),(32,vd),(33,I (u.path.length:Int)),(34,I (i:Int))]) (fun i w'=>aK w w'∧aK w1 w'∧i≤u.path.length∧u.path.all fN=(u.path.drop i).all fN) (fun i=>u.path.length-i) (0) ⟨rfl,rfl,rfl,rfl,trivial⟩ ⟨((x1.trans x21).trans x28),(x21.trans x28),by omega,rfl⟩ ?_
    rintro i wL ⟨eL,e1L,hi,hall⟩
    refine af (aa (al MI MI MI (a9) (ag (ab (af ?_)))))
    refine bw MI (fun h35=>?_) (fun h35=>?_)
    ·refine aA (ab (af (aF (af ?_))))
     obtain⟨em,hem⟩:∃em,em=u.path[i]'(by omega):=⟨_,rfl⟩
     have hmem:em∈u.path:=by rw[hem];exact List.getElem_mem _
     rcases hq:fG em.at_
     ·refine aa ?_
      obtain⟨a36,c36,p36,q36,h36⟩:=bZ (P:=Tryz.prog) (sz:=5) Mj (by kernel_rfl) ce (by omega) (hd.ext eL) (i:=i) (by omega) .i64
      rw[←hem] at h36
      obtain⟨x36_0,x36_1,rfl,f36_0,f36_1⟩:=gw h36
      refine av MI MI MI (p36 _) (ak MI MI (q36.ld Mc MI (by kernel_rfl)) ?_)
      obtain⟨g4,w4,hr4,l4,x4,k4⟩:=aY (P:=Tryz.prog) (w:=wL) (t:=48) (z:=.agg #[I 0,I 0,B false,.slice none 0 0,.slice none 0 0]) (l:=[I 0,I 0,B false,.slice none 0 0,.slice none 0 0]) (by kernel_rfl) rfl
      refine aV MI hr4 ?_
      obtain⟨w5_3,s5_3,q5_3,k5_3⟩:=k4.stS (P:=Tryz.prog) (t:=48) (m:=[I em.kd,I em.ix,B em.at_.1,x36_0,x36_1]) rfl (by kernel_rfl) (au.cons rfl (au.cons rfl (au.cons rfl (au.cons f36_0.one (au.cons f36_1.one au.nil)))))
      refine ar MI MI s5_3 ?_
      have x5_3:=aK.of_new (x4) q5_3 l4
      refine ag (ab (af (aa (ah MI MI (aq (o:=0) Mc MI (by kernel_rfl) MI) (ak MI MI (ai Me MI (k5_3.cell (i:=0) MI)) ?_)))))
      refine al MI MI MI (a9) (ae MI MI ?_)
      refine cd (fun h41=>?_) (fun h41=>?_)
      ·refine an MI MI MI (an MI MI MI (an MI MI MI (ap MI MI MI (ae MI MI (an MI MI MI (an MI MI MI (an MI MI MI (an MI MI MI (ap MI MI MI ?_)))))))))
       refine ag (ab (bh MI (af (aa (ac MI MI (ag (ab (aw (aX (ay (ay (aX (ay (az MI MI ?_))))))))))))))
       exact⟨_,rfl,(eL.trans x5_3),by
        rw[cv (.inr (.inr (.inr (.inr (gC (p:=fN) (i:=i) (by omega) hall (by
         rw[←hem]
         refine g0 ?_
         first
         |exact .inl (by omega)
         |exact .inr (.inl (by omega))
         |exact .inr (.inr hq)))))))]
        rfl⟩
      ·refine aj MI (ah MI MI (aq (o:=0) Mc MI (by kernel_rfl) MI) (aj MI (ak MI MI (ai Me MI (k5_3.cell (i:=0) MI)) ?_)))
       refine aj MI (al MI MI MI (bV) (aD MI MI MI (ae MI MI ?_)))
       refine cd (fun h46=>?_) (fun h46=>?_)
       ·refine an MI MI MI (an MI MI MI (an MI MI MI (an MI MI MI (ap MI MI MI (ag (ab (bh MI (af (aa (ac MI MI (ag (ab (aw (aX ?_))))))))))))))
        refine ay (ay (aX (ay (az MI MI ?_))))
        exact⟨_,rfl,(eL.trans x5_3),by
         rw[cv (.inr (.inr (.inr (.inr (gC (p:=fN) (i:=i) (by omega) hall (by
          rw[←hem]
          refine g0 ?_
          first
          |exact .inl (by omega)
          |exact .inr (.inl (by omega))
          |exact .inr (.inr hq)))))))]
         rfl⟩
       ·refine aj rfl (ah rfl rfl (aq (o:=2) Tryz.underlying48 rfl (by kernel_rfl) rfl) (aj rfl (ak rfl rfl (k5_3.ldO (ms:=[B em.at_.1,x36_0,x36_1]) (o:=2) (fun j v hj=>by rcases j with _|_|_|_|_|_|_|_|_|j<;>simp_all) Tryz.underlying46 rfl (by kernel_rfl)) ?_)))
        refine aj MI (am fp MI MI ((by have h:=iu (q:=em.at_) (f36_0.ext x5_3) (f36_1.ext x5_3) (hs.1 em hmem);rw[hq] at h;exact h)) ?_)
        rintro v49 w49 ⟨x49,rfl⟩
        refine aj MI (bt MI MI bu (aD MI MI MI (ag (ab (bh MI (af (aa (ac MI MI (ag (ab (aw (aX (ay (ay (aX (ay (az MI MI ?_)))))))))))))))))
        exact⟨_,rfl,((eL.trans x5_3).trans x49),by
         rw[cv (.inr (.inr (.inr (.inr (gC (p:=fN) (i:=i) (by omega) hall (by
          rw[←hem]
          refine g0 ?_
          first
          |exact .inl (by omega)
          |exact .inr (.inl (by omega))
          |exact .inr (.inr hq)))))))]
         rfl⟩
     ·refine aa ?_
      obtain⟨a36,c36,p36,q36,h36⟩:=bZ (P:=Tryz.prog) (sz:=5) Mj (by kernel_rfl) ce (by omega) (hd.ext eL) (i:=i) (by omega) .i64
      rw[←hem] at h36
      obtain⟨x36_0,x36_1,rfl,f36_0,f36_1⟩:=gw h36
      refine av MI MI MI (p36 _) (ak MI MI (q36.ld Mc MI (by kernel_rfl)) ?_)
      obtain⟨g4,w4,hr4,l4,x4,k4⟩:=aY (P:=Tryz.prog) (w:=wL) (t:=48) (z:=.agg #[I 0,I 0,B false,.slice none 0 0,.slice none 0 0]) (l:=[I 0,I 0,B false,.slice none 0 0,.slice none 0 0]) (by kernel_rfl) rfl
      refine aV MI hr4 ?_
      obtain⟨w5_3,s5_3,q5_3,k5_3⟩:=k4.stS (P:=Tryz.prog) (t:=48) (m:=[I em.kd,I em.ix,B em.at_.1,x36_0,x36_1]) rfl (by kernel_rfl) (au.cons rfl (au.cons rfl (au.cons rfl (au.cons f36_0.one (au.cons f36_1.one au.nil)))))
      refine ar MI MI s5_3 ?_
      have x5_3:=aK.of_new (x4) q5_3 l4
      refine ag (ab (af (aa (ah MI MI (aq (o:=0) Mc MI (by kernel_rfl) MI) (ak MI MI (ai Me MI (k5_3.cell (i:=0) MI)) ?_)))))
      refine al MI MI MI (a9) (ae MI MI ?_)
      refine cd (fun h41=>?_) (fun h41=>?_)
      ·refine an MI MI MI (an MI MI MI (an MI MI MI (ap MI MI MI (ae MI MI (an MI MI MI (an MI MI MI (an MI MI MI (an MI MI MI (ap MI MI MI ?_)))))))))
       refine ag (ab (bh MI (af (aa (ac MI MI (ag (ab (aw (aX (ay (ay (aX (ay (az MI MI ?_))))))))))))))
       exact⟨_,rfl,(eL.trans x5_3),by
        rw[cv (.inr (.inr (.inr (.inr (gC (p:=fN) (i:=i) (by omega) hall (by
         rw[←hem]
         refine g0 ?_
         first
         |exact .inl (by omega)
         |exact .inr (.inl (by omega))
         |exact .inr (.inr hq)))))))]
        rfl⟩
      ·refine aj MI (ah MI MI (aq (o:=0) Mc MI (by kernel_rfl) MI) (aj MI (ak MI MI (ai Me MI (k5_3.cell (i:=0) MI)) ?_)))
       refine aj MI (al MI MI MI (bV) (aD MI MI MI (ae MI MI ?_)))
       refine cd (fun h46=>?_) (fun h46=>?_)
       ·refine an MI MI MI (an MI MI MI (an MI MI MI (an MI MI MI (ap MI MI MI (ag (ab (bh MI (af (aa (ac MI MI (ag (ab (aw (aX ?_))))))))))))))
        refine ay (ay (aX (ay (az MI MI ?_))))
        exact⟨_,rfl,(eL.trans x5_3),by
         rw[cv (.inr (.inr (.inr (.inr (gC (p:=fN) (i:=i) (by omega) hall (by
          rw[←hem]
          refine g0 ?_
          first
          |exact .inl (by omega)
          |exact .inr (.inl (by omega))
          |exact .inr (.inr hq)))))))]
         rfl⟩
       ·refine aj rfl (ah rfl rfl (aq (o:=2) Tryz.underlying48 rfl (by kernel_rfl) rfl) (aj rfl (ak rfl rfl (k5_3.ldO (ms:=[B em.at_.1,x36_0,x36_1]) (o:=2) (fun j v hj=>by rcases j with _|_|_|_|_|_|_|_|_|j<;>simp_all) Tryz.underlying46 rfl (by kernel_rfl)) ?_)))
        refine aj MI (am fp MI MI ((by have h:=iu (q:=em.at_) (f36_0.ext x5_3) (f36_1.ext x5_3) (hs.1 em hmem);rw[hq] at h;exact h)) ?_)
        rintro v49 w49 ⟨x49,rfl⟩
        refine aj MI (bt MI MI bu (aD MI MI MI (ag (ab (cq MI (aA (aS (ab (aa (al (r:=I ((i+1:Nat):Int)) MI MI MI (by have e:((i+1:Nat):Int)=(i:Int)+1:=(by omega);rw[e];exact aN (by omega) (by omega)) ?_))))))))))
        refine ae MI MI (ag ?_)
        refine bR (i+1) ⟨rfl,rfl,rfl,rfl,trivial⟩ ⟨((eL.trans x5_3).trans x49),((e1L.trans x5_3).trans x49),by omega,rf (p:=fN) (by omega) hall (by rw[←hem];exact yV (by omega) (by omega) hq)⟩ (by omega)
    ·refine bc (aJ (aJ (bf (ab (af (af ?_))))))
     have hpa:=nE (p:=fN) (l:=u.path) (i:=i) (by omega) hall
     refine aa (ah MI MI (aq (o:=1) Md MI (by kernel_rfl) MI) (ah MI MI (cD (b:=1) (o:=0) L9 MI (by kernel_rfl) MI) ?_))
     refine ak MI MI (ai Ml MI (e1L.cell_some (k1.cell (i:=1) MI))) (aP MI MI (bg Ml (hl.ext eL)) ?_)
     refine ae MI MI (ag (ab (aF ?_)))
     refine cg (α:=Nat) (fun j=>[(1,.pointer (some ⟨g1,0,none⟩)),(55,vl),(56,I (u.leaf.lems.length:Int)),(57,I (j:Int))]) (fun j w'=>aK w w'∧aK w1 w'∧j≤u.leaf.lems.length∧u.leaf.lems.all iL=(u.leaf.lems.drop j).all iL) (fun j=>u.leaf.lems.length-j) (0) ⟨rfl,rfl,rfl,rfl,trivial⟩ ⟨eL,e1L,by omega,rfl⟩ ?_
     rintro j wM ⟨eM,e1M,hj,hlm⟩
     refine af (aa (al MI MI MI (a9) (ag (ab (af ?_)))))
     refine bw MI (fun h58=>?_) (fun h58=>?_)
     ·refine aA (ab (af (aF (af ?_))))
      obtain⟨eq,heq⟩:∃eq,eq=u.leaf.lems[j]'(by omega):=⟨_,rfl⟩
      have hmm:eq∈u.leaf.lems:=by rw[heq];exact List.getElem_mem _
      rcases hq1:fG eq.va
      rotate_left
      rcases hq2:mw eq.pf
      ·refine aa ?_
       obtain⟨a59,c59,p59,q59,h59⟩:=bZ (P:=Tryz.prog) (sz:=6) Ml (by kernel_rfl) cx (by omega) (hl.ext eM) (i:=j) (by omega) .i64
       rw[←heq] at h59
       obtain⟨x59_0,x59_1,x59_2,rfl,f59_0,f59_1,f59_2⟩:=fF h59
       refine av MI MI MI (p59 _) (ak MI MI (q59.ld Mn MI (by kernel_rfl)) ?_)
       obtain⟨g6,w6,hr6,l6,x6,k6⟩:=aY (P:=Tryz.prog) (w:=wM) (t:=173) (z:=.agg #[I 0,B false,B false,.slice none 0 0,.slice none 0 0,.slice none 0 0]) (l:=[I 0,B false,B false,.slice none 0 0,.slice none 0 0,.slice none 0 0]) (by kernel_rfl) rfl
       refine aV MI hr6 ?_
       obtain⟨w11_3,s11_3,q11_3,k11_3⟩:=k6.stS (P:=Tryz.prog) (t:=173) (m:=[I eq.un,B eq.up,B eq.va.1,x59_0,x59_1,x59_2]) rfl (by kernel_rfl) (au.cons rfl (au.cons rfl (au.cons rfl (au.cons f59_0.one (au.cons f59_1.one (au.cons f59_2.one au.nil))))))
       refine ar MI MI s11_3 ?_
       have x11_3:=aK.of_new (x6) q11_3 l6
       refine ag (ab (af (aa (ah rfl rfl (aq (o:=2) Tryz.underlying173 rfl (by kernel_rfl) rfl) (ak rfl rfl (k11_3.ldO (ms:=[B eq.va.1,x59_0,x59_1]) (o:=2) (fun j v hj=>by rcases j with _|_|_|_|_|_|_|_|_|j<;>simp_all) Tryz.underlying46 rfl (by kernel_rfl)) ?_)))))
       refine am fp MI MI ((by have h:=iu (q:=eq.va) (f59_0.ext x11_3) (f59_1.ext x11_3) (sl eq hmm).1;rw[hq1] at h;exact h)) ?_
       rintro v63 w63 ⟨x63,rfl⟩
       refine bt MI MI bu (ae MI MI (aj MI (ah MI MI (aq (o:=5) Mn MI (by kernel_rfl) MI) (aj MI (ak MI MI (ai Mm MI (x63.cell_some (k11_3.cell (i:=5) MI))) ?_)))))
       refine aj MI (am sJ MI MI ((by have h:=sK (f59_2.ext (x11_3.trans x63)) (sl eq hmm).2;rw[hq2] at h;exact h)) ?_)
       rintro v68 w68 ⟨x68,rfl⟩
       refine aj MI (bt MI MI bu (aD MI MI MI (ag (ab (bh MI (af (aa (ac MI MI (ag (ab (aw (aX (ay (ay (aX (ay (az MI MI ?_)))))))))))))))))
       exact⟨_,rfl,(((eM.trans x11_3).trans x63).trans x68),by
        rw[cv (.inr (.inr (.inr (.inl (eo (by omega) (.inr (.inr (gC (p:=iL) (i:=j) (by omega) hlm (by
         rw[←heq]
         unfold iL
         first
         |(rw[hq1];rfl)
         |(rw[hq2,Bool.and_false]))))))))))]
        rfl⟩
      ·refine aa ?_
       obtain⟨a59,c59,p59,q59,h59⟩:=bZ (P:=Tryz.prog) (sz:=6) Ml (by kernel_rfl) cx (by omega) (hl.ext eM) (i:=j) (by omega) .i64
       rw[←heq] at h59
       obtain⟨x59_0,x59_1,x59_2,rfl,f59_0,f59_1,f59_2⟩:=fF h59
       refine av MI MI MI (p59 _) (ak MI MI (q59.ld Mn MI (by kernel_rfl)) ?_)
       obtain⟨g6,w6,hr6,l6,x6,k6⟩:=aY (P:=Tryz.prog) (w:=wM) (t:=173) (z:=.agg #[I 0,B false,B false,.slice none 0 0,.slice none 0 0,.slice none 0 0]) (l:=[I 0,B false,B false,.slice none 0 0,.slice none 0 0,.slice none 0 0]) (by kernel_rfl) rfl
       refine aV MI hr6 ?_
       obtain⟨w11_3,s11_3,q11_3,k11_3⟩:=k6.stS (P:=Tryz.prog) (t:=173) (m:=[I eq.un,B eq.up,B eq.va.1,x59_0,x59_1,x59_2]) rfl (by kernel_rfl) (au.cons rfl (au.cons rfl (au.cons rfl (au.cons f59_0.one (au.cons f59_1.one (au.cons f59_2.one au.nil))))))
       refine ar MI MI s11_3 ?_
       have x11_3:=aK.of_new (x6) q11_3 l6
       refine ag (ab (af (aa (ah rfl rfl (aq (o:=2) Tryz.underlying173 rfl (by kernel_rfl) rfl) (ak rfl rfl (k11_3.ldO (ms:=[B eq.va.1,x59_0,x59_1]) (o:=2) (fun j v hj=>by rcases j with _|_|_|_|_|_|_|_|_|j<;>simp_all) Tryz.underlying46 rfl (by kernel_rfl)) ?_)))))
       refine am fp MI MI ((by have h:=iu (q:=eq.va) (f59_0.ext x11_3) (f59_1.ext x11_3) (sl eq hmm).1;rw[hq1] at h;exact h)) ?_
       rintro v63 w63 ⟨x63,rfl⟩
       refine bt MI MI bu (ae MI MI (aj MI (ah MI MI (aq (o:=5) Mn MI (by kernel_rfl) MI) (aj MI (ak MI MI (ai Mm MI (x63.cell_some (k11_3.cell (i:=5) MI))) ?_)))))
       refine aj MI (am sJ MI MI ((by have h:=sK (f59_2.ext (x11_3.trans x63)) (sl eq hmm).2;rw[hq2] at h;exact h)) ?_)
       rintro v68 w68 ⟨x68,rfl⟩
       refine aj MI (bt MI MI bu (aD MI MI MI (ag (ab (cq MI (aA (aS (ab (aa (al (r:=I ((j+1:Nat):Int)) MI MI MI (by have e:((j+1:Nat):Int)=(j:Int)+1:=(by omega);rw[e];exact aN (by omega) (by omega)) ?_))))))))))
       refine ae MI MI (ag ?_)
       refine bR (j+1) ⟨rfl,rfl,rfl,rfl,trivial⟩ ⟨(((eM.trans x11_3).trans x63).trans x68),(((e1M.trans x11_3).trans x63).trans x68),by omega,rf (p:=iL) (by omega) hlm (by rw[←heq];unfold iL;rw[hq1,hq2];rfl)⟩ (by omega)
      ·refine aa ?_
       obtain⟨a59,c59,p59,q59,h59⟩:=bZ (P:=Tryz.prog) (sz:=6) Ml (by kernel_rfl) cx (by omega) (hl.ext eM) (i:=j) (by omega) .i64
       rw[←heq] at h59
       obtain⟨x59_0,x59_1,x59_2,rfl,f59_0,f59_1,f59_2⟩:=fF h59
       refine av MI MI MI (p59 _) (ak MI MI (q59.ld Mn MI (by kernel_rfl)) ?_)
       obtain⟨g6,w6,hr6,l6,x6,k6⟩:=aY (P:=Tryz.prog) (w:=wM) (t:=173) (z:=.agg #[I 0,B false,B false,.slice none 0 0,.slice none 0 0,.slice none 0 0]) (l:=[I 0,B false,B false,.slice none 0 0,.slice none 0 0,.slice none 0 0]) (by kernel_rfl) rfl
       refine aV MI hr6 ?_
       obtain⟨w11_3,s11_3,q11_3,k11_3⟩:=k6.stS (P:=Tryz.prog) (t:=173) (m:=[I eq.un,B eq.up,B eq.va.1,x59_0,x59_1,x59_2]) rfl (by kernel_rfl) (au.cons rfl (au.cons rfl (au.cons rfl (au.cons f59_0.one (au.cons f59_1.one (au.cons f59_2.one au.nil))))))
       refine ar MI MI s11_3 ?_
       have x11_3:=aK.of_new (x6) q11_3 l6
       refine ag (ab (af (aa (ah rfl rfl (aq (o:=2) Tryz.underlying173 rfl (by kernel_rfl) rfl) (ak rfl rfl (k11_3.ldO (ms:=[B eq.va.1,x59_0,x59_1]) (o:=2) (fun j v hj=>by rcases j with _|_|_|_|_|_|_|_|_|j<;>simp_all) Tryz.underlying46 rfl (by kernel_rfl)) ?_)))))
       refine am fp MI MI ((by have h:=iu (q:=eq.va) (f59_0.ext x11_3) (f59_1.ext x11_3) (sl eq hmm).1;rw[hq1] at h;exact h)) ?_
       rintro v63 w63 ⟨x63,rfl⟩
       refine bt MI MI bu (ae MI MI (an MI MI MI (an MI MI MI (an MI MI MI (an MI MI MI (ap MI MI MI (ag (ab (bh MI (af (aa (ac MI MI ?_))))))))))))
       refine ag (ab (aw (aX (ay (ay (aX (ay (az MI MI ?_))))))))
       exact⟨_,rfl,((eM.trans x11_3).trans x63),by
        rw[cv (.inr (.inr (.inr (.inl (eo (by omega) (.inr (.inr (gC (p:=iL) (i:=j) (by omega) hlm (by
         rw[←heq]
         unfold iL
         first
         |(rw[hq1];rfl)
         |(rw[hq2,Bool.and_false]))))))))))]
        rfl⟩
     ·refine bc (aJ (aJ (bf (ab (af ?_)))))
      have hla:=nE (p:=iL) (l:=u.leaf.lems) (i:=j) (by omega) hlm
      refine aa (ah MI MI (aq (o:=1) Md MI (by kernel_rfl) MI) (ah MI MI (cD (b:=1) (o:=1) L9 MI (by kernel_rfl) MI) ?_))
      refine ah rfl rfl (cD (b:=2) (o:=2) Tryz.underlying48 rfl (by kernel_rfl) rfl) (ak rfl rfl ((k1.ext e1M).ldO (ms:=[B u.leaf.split.at_.1,x,y]) (o:=4) (fun j v hj=>by rcases j with _|_|_|_|_|_|_|_|_|j<;>simp_all) Tryz.underlying46 rfl (by kernel_rfl)) ?_)
      refine am fp MI MI ((iu (q:=u.leaf.split.at_) (hx.ext eM) (hy.ext eM) sd)) ?_
      rintro v76 w76 ⟨x76,rfl⟩
      refine ac MI MI (ag (ab (aw (az MI MI ?_))))
      exact⟨_,rfl,(eM.trans x76),by
       congr 1
       cases hc:fG u.leaf.split.at_ with
       |false=>exact(cv (.inr (.inr (.inr (.inl (eo (by omega) (.inl hc))))))).symm
       |true=>exact(yW (by omega) (by omega) hv1 (Am (by omega) hc hv2 hla) hpa).symm⟩
 ·refine aa (ah MI MI (aq (o:=0) Md MI (by kernel_rfl) MI) (ak MI MI (ai Mj MI (k1.cell (i:=0) MI)) ?_))
  refine aP MI MI (bg Mj (hd.ext x1)) (al MI MI MI (bV) (ae MI MI ?_))
  refine cd (fun h11=>?_) (fun h11=>?_)
  ·refine an MI MI MI (an MI MI MI (an MI MI MI (an MI MI MI (an MI MI MI (ap MI MI MI (ae MI MI (an MI MI MI (an MI MI MI (an MI MI MI ?_)))))))))
   refine an MI MI MI (ap MI MI MI (ae MI MI (an MI MI MI (an MI MI MI (an MI MI MI (an MI MI MI (an MI MI MI (ap MI MI MI (ag ?_)))))))))
   refine ab (bh MI (af (aa (ac MI MI (ag (ab (aw (ay (az MI MI ?_)))))))))
   exact⟨_,rfl,x1,by
    rw[cv (by
     first
     |exact .inl (by omega)
     |exact .inr (.inl (by omega))
     |exact .inr (.inr (.inl hv1))
     |exact .inr (.inr (.inr (.inl (eo (by omega) (.inr (.inl hv2)))))))]
    rfl⟩
  ·refine aj MI (ah MI MI (aq (o:=1) Md MI (by kernel_rfl) MI) (aj MI (ah MI MI (cD (b:=1) (o:=6) L9 MI (by kernel_rfl) MI) ?_)))
   refine aj MI (ak MI MI (ai Mk MI (k1.cell (i:=7) MI)) (aj MI (aP MI MI (bg Mk (hk.ext x1)) ?_)))
   refine aj MI (al MI MI MI (bV) (aD MI MI MI (ae MI MI ?_)))
   refine cd (fun h18=>?_) (fun h18=>?_)
   ·refine an MI MI MI (an MI MI MI (an MI MI MI (an MI MI MI (ap MI MI MI (ae MI MI (an MI MI MI (an MI MI MI (an MI MI MI (an MI MI MI ?_)))))))))
    refine an MI MI MI (ap MI MI MI (ag (ab (bh MI (af (aa (ac MI MI (ag (ab (aw (ay (az MI MI ?_))))))))))))
    exact⟨_,rfl,x1,by
     rw[cv (by
      first
      |exact .inl (by omega)
      |exact .inr (.inl (by omega))
      |exact .inr (.inr (.inl hv1))
      |exact .inr (.inr (.inr (.inl (eo (by omega) (.inr (.inl hv2)))))))]
     rfl⟩
   ·refine aj rfl (ah rfl rfl (aq (o:=1) Tryz.underlying54 rfl (by kernel_rfl) rfl) (aj rfl (ak rfl rfl (k1.ldO (ms:=[vl,I u.leaf.split.kd,I u.leaf.split.ix,B u.leaf.split.at_.1,x,y,vk,B u.leaf.empty,vp]) (o:=1) (fun j v hj=>by rcases j with _|_|_|_|_|_|_|_|_|j<;>simp_all) Tryz.underlying52 rfl (by kernel_rfl)) ?_)))
    refine aj MI (am gu MI MI ((by have h:=mr (n:=u.leaf) (hl.ext x1) (hx.ext x1) (hy.ext x1) (hk.ext x1) (hp.ext x1);rw[hv1] at h;exact h)) ?_)
    rintro v21 w21 ⟨x21,rfl⟩
    refine aj MI (bt MI MI bu (aD MI MI MI (ae MI MI (an MI MI MI (an MI MI MI (an MI MI MI (an MI MI MI (an MI MI MI (ap MI MI MI ?_)))))))))
    refine ag (ab (bh MI (af (aa (ac MI MI (ag (ab (aw (ay (az MI MI ?_))))))))))
    exact⟨_,rfl,(x1.trans x21),by
     rw[cv (by
      first
      |exact .inl (by omega)
      |exact .inr (.inl (by omega))
      |exact .inr (.inr (.inl hv1))
      |exact .inr (.inr (.inr (.inl (eo (by omega) (.inr (.inl hv2)))))))]
     rfl⟩
end Go.Rl
namespace Go.Rl
open Go.RowKit Go.Proofs
theorem pS:aG Tryz.prog 46:=⟨_,Tryz.func46,by kernel_rfl,rfl⟩
theorem Du:aG Tryz.prog 33:=⟨_,Tryz.func33,by kernel_rfl,rfl⟩
theorem uB:aG Tryz.prog 15:=⟨_,Tryz.func15,by kernel_rfl,rfl⟩
theorem pT {w:World} {b:List UInt8} {v:Value} {k:Nat} (hb:cz b v w) (hk:k≤1099511627776):
 Calls Tryz.prog 46 #[v,I (k:Int)] w (bE fun r w'=>aK w w'∧r=B (eS b k)):=by
 refine enter (vs:=[v,I (k:Int)]) Tryz.func46 MI MI MI ?_
 refine af (aa (ac MI MI (ag (ab (af (af (aa (ae MI MI (al MI MI MI (a9) (ae MI MI ?_))))))))))
 refine cd (fun h7=>?_) (fun h7=>?_)
 ·refine an MI MI MI (an MI MI MI (an MI MI MI (an MI MI MI (an MI MI MI (ap MI MI MI (ag (ab (bh MI (af (aa (ac MI MI (ag ?_))))))))))))
  refine ab (aw (ay (az MI MI ?_)))
  exact⟨_,rfl,aK.refl _,by
   unfold eS
   rw[decide_eq_false (by omega:¬k+8≤b.length)];rfl⟩
 ·refine aj MI (ae MI MI (aj MI (al (r:=I ((k+8:Nat):Int)) MI MI MI (by have e:((k+8:Nat):Int)=(k:Int)+8:=(by omega);rw[e];exact aN (by omega) (by omega)) ?_)))
  refine aj MI (ae MI MI (aj MI (aP MI MI (cN hb) (aj MI (al MI MI MI (bV) (aD MI MI MI (ag (ab ?_))))))))
  refine bw MI (fun h13=>?_) (fun h13=>?_)
  ·refine af (aa (ac MI MI (ag (ab (aw (ay (az MI MI ?_)))))))
   exact⟨_,rfl,aK.refl _,by
    unfold eS
    rw[decide_eq_false (by omega:¬k+8≤b.length)];rfl⟩
  ·refine aA (ab (af (bP 11 [24] (by kernel_rfl) (by kernel_rfl) ?_)))
   refine aC MI MI (aC MI MI ?_)
   obtain⟨v16,p16,b16⟩:=iU hb (hi:=k) (by omega) .i64
   refine jo rfl rfl rfl rfl (fun w _=>p16 w) (cm (S:=cz (BT (b.take k))) pe (cz.stable _) rfl (fun w hw=>by rintro _ rfl;exact bE.mono (pg (b16.ext hw) (by simp;omega)) fun v w' h=>⟨h.1,h.2.bts⟩) ?_)
   refine IS MI (ca.is _) MI (fun w v hw hv=>⟨_,w,AF hv,aK.refl _,rfl⟩) (aC MI MI (aC MI MI (ba (r:=I ((k+8:Nat):Int)) MI MI MI (fun w _=>by have e:((k+8:Nat):Int)=(k:Int)+8:=(by omega);rw[e];exact aN (by omega) (by omega)) ?_)))
   obtain⟨v22,p22,b22⟩:=iU hb (hi:=k+8) (by omega) .i64
   refine jo MI MI MI MI (fun w _=>p22 w) (dG MI MI (fun w hw=>AF (b22.ext hw)) (ba MI MI MI (fun w _=>IX) (cp ?_)))
   intro wg3 xg3
   rintro _ rfl
   refine ac MI MI (ag (ab (aw (az MI MI ?_))))
   exact⟨_,rfl,xg3,by
    unfold eS
    rw[decide_eq_true (by omega:k+8≤b.length)]
    simp⟩
theorem Dv {w:World} {l m:List bS} {v u:Value} (hv:cA dy l v w) (hu:cA dy m u w):
 Calls Tryz.prog 33 #[v,u] w (bE fun r w'=>aK w w'∧r=B (decide (l=m))):=by
 refine enter (vs:=[v,u]) Tryz.func33 MI MI MI ?_
 have hll:=hv.len
 have hml:=hu.len
 refine af (aa (ac MI MI (ag (ab (af (af (aa (ae MI MI (aP MI MI (bg Mj hv) (ae MI MI (aP MI MI (bg Mj hu) ?_)))))))))))
 refine al MI MI MI (cT) (ag (ab ?_))
 refine bw MI (fun h10=>?_) (fun h10=>?_)
 ·refine af (aa (ac MI MI (ag (ab (aw (ay (az MI MI ?_)))))))
  exact⟨_,rfl,aK.refl _,by rw[decide_eq_false (fun h=>by rw[h] at h10;exact h10 rfl)];rfl⟩
 ·refine aA (ab (af (af (aa (ac MI MI (ag (ab (aF ?_))))))))
  refine cg (α:=Nat) (fun i=>[(0,v),(1,u),(5,I (i:Int))]) (fun i w'=>aK w w'∧i≤l.length∧l.take i=m.take i) (fun i=>l.length-i) (0) ⟨rfl,rfl,rfl,trivial⟩ ⟨aK.refl _,by omega,rfl⟩ ?_
  rintro i wL ⟨eL,hi,hall⟩
  refine af (af (aa (ae MI MI (ae MI MI (aP MI MI (bg Mj (hv.ext eL)) (al MI MI MI (a9) (ag (ab ?_))))))))
  refine bw MI (fun h14=>?_) (fun h14=>?_)
  ·refine aA (ab (af (aF (af (bP 9 [0,1,5,25] (by kernel_rfl) (by kernel_rfl) ?_)))))
   refine aC MI MI (aC MI MI ?_)
   obtain⟨a19,c19,p19,q19,h19⟩:=bZ (P:=Tryz.prog) (sz:=5) Mj (by kernel_rfl) ce (by omega) (hv.ext eL) (i:=i) (by omega) .i64
   obtain⟨e19,he19⟩:∃e,e=l[i]'(by omega):=⟨_,rfl⟩
   rw[←he19] at h19
   obtain⟨x19_0,x19_1,rfl,f19_0,f19_1⟩:=gw h19
   refine aE MI MI MI (fun w _=>p19 w) (aO MI MI (fun w hw=>(q19.ext hw).ld Mc MI (by kernel_rfl)) (aC MI MI ?_))
   refine aC MI MI ?_
   obtain⟨a23,c23,p23,q23,h23⟩:=bZ (P:=Tryz.prog) (sz:=5) Mj (by kernel_rfl) ce (by omega) (hu.ext eL) (i:=i) (by omega) .i64
   obtain⟨e23,he23⟩:∃e,e=m[i]'(by omega):=⟨_,rfl⟩
   rw[←he23] at h23
   obtain⟨x23_0,x23_1,rfl,f23_0,f23_1⟩:=gw h23
   refine aE rfl rfl rfl (fun w _=>p23 w) (aO rfl rfl (fun w hw=>(q23.ext hw).ld Mc rfl (by kernel_rfl)) (cm (S:=Is (B (decide (e19=e23)))) tL (ca.is _) rfl (fun w hw=>by rintro _ rfl _ rfl;exact tM (a:=e19) (b:=e23) (f19_0.ext hw) (f19_1.ext hw) (f23_0.ext hw) (f23_1.ext hw)) ?_))
   refine cp ?_
   intro wg6 xg6
   rintro _ hq0
   obtain rfl:=Eq.symm hq0
   rintro _ hq1
   obtain rfl:=Eq.symm hq1
   rintro _ rfl
   rintro _ rfl
   refine bt MI MI bu (ag (ab ?_))
   refine fP MI (fun h26=>?_) (fun h26=>?_)
   ·refine af (aa (ac MI MI (ag (ab (aw (aX (ay (ay (aX (ay (az MI MI ?_)))))))))))
    exact⟨_,rfl,(eL.trans xg6),by
     rw[decide_eq_false (fun h=>by
      subst h
      have e:=he19.trans he23.symm
      rw[e] at h26
      simp at h26)]
     rfl⟩
   ·refine aA (aS (ab (aa (ae MI MI (al (r:=I ((i+1:Nat):Int)) MI MI MI (by have e:((i+1:Nat):Int)=(i:Int)+1:=(by omega);rw[e];exact aN (by omega) (by omega)) ?_)))))
    refine ac MI MI (ag ?_)
    refine bR (i+1) ⟨rfl,rfl,rfl,trivial⟩ ⟨(eL.trans xg6),by omega,by
     have h:e19=e23:=by simpa using h26
     rw[List.take_add_one,List.take_add_one,hall,List.getElem?_eq_getElem (by omega),List.getElem?_eq_getElem (by omega),←he19,←he23,h]⟩ (by omega)
  ·refine bc (aJ (aJ (bf (ab (af (aa (ac MI MI (ag (ab (aw (az MI MI ?_)))))))))))
   exact⟨_,rfl,eL,by
    rw[List.take_of_length_le (by omega),List.take_of_length_le (by omega)] at hall
    rw[decide_eq_true hall];rfl⟩
theorem uC {w:World} {l:List cc} {v u:Value} (hv:cA jv l v w) (hu:cA jv l u w):
 Calls Tryz.prog 15 #[v,u] w (bE fun r w'=>aK w w'∧r=B true):=by
 refine enter (vs:=[v,u]) Tryz.func15 MI MI MI ?_
 have hll:=hv.len
 refine af (aa (ac MI MI (ag (ab (af (af (aa (ae MI MI (aP MI MI (bg Mu hv) (ae MI MI (aP MI MI (bg Mu hu) ?_)))))))))))
 refine al MI MI MI (cT) (ag (ab ?_))
 refine bw MI (fun h10=>?_) (fun h10=>?_)
 ·refine af (aa (ac MI MI (ag (ab (aw (ay (az MI MI ?_)))))))
  exact absurd rfl h10
 ·refine aA (ab (af (af (aa (ac MI MI (ag (ab (aF ?_))))))))
  refine cg (α:=Nat) (fun i=>[(0,v),(1,u),(5,I (i:Int))]) (fun i w'=>aK w w'∧i≤l.length) (fun i=>l.length-i) (0) ⟨rfl,rfl,rfl,trivial⟩ ⟨aK.refl _,by omega⟩ ?_
  rintro i wL ⟨eL,hi⟩
  refine af (af (aa (ae MI MI (ae MI MI (aP MI MI (bg Mu (hv.ext eL)) (al MI MI MI (a9) (ag (ab ?_))))))))
  refine bw MI (fun h14=>?_) (fun h14=>?_)
  ·refine aA (ab (af (aF (af (bP 25 [0,1,5,29,41] (by kernel_rfl) (by kernel_rfl) ?_)))))
   refine aC (S:=Is (v)) MI MI (aC (S:=Is (I (i:Int))) MI MI ?_)
   obtain⟨a19,c19,p19,q19,h19⟩:=bZ (P:=Tryz.prog) (sz:=10) Mu (by kernel_rfl) cQ (by omega) (hv.ext eL) (i:=i) (by omega) .i64
   obtain⟨e19,he19⟩:∃e,e=l[i]'(by omega):=⟨_,rfl⟩
   rw[←he19] at h19
   obtain⟨x19_0,x19_1,x19_2,x19_3,x19_4,x19_5,rfl,f19_0,f19_1,f19_2,f19_3,f19_4,f19_5⟩:=ii h19
   refine aE MI MI MI (fun w _=>p19 w) (aT MI MI (fun w hw=>gR (o:=0) Md MI (by kernel_rfl) MI) ?_)
   refine aO MI MI (fun w hw=>ai Mj MI (hw.cell_some (q19.at (j:=0) MI))) (aC (S:=Is (u)) MI MI (aC (S:=Is (I (i:Int))) MI MI ?_))
   obtain⟨a24,c24,p24,q24,h24⟩:=bZ (P:=Tryz.prog) (sz:=10) Mu (by kernel_rfl) cQ (by omega) (hu.ext eL) (i:=i) (by omega) .i64
   obtain⟨e24,he24⟩:∃e,e=l[i]'(by omega):=⟨_,rfl⟩
   rw[←he24] at h24
   obtain⟨x24_0,x24_1,x24_2,x24_3,x24_4,x24_5,rfl,f24_0,f24_1,f24_2,f24_3,f24_4,f24_5⟩:=ii h24
   refine aE MI MI MI (fun w _=>p24 w) (aT MI MI (fun w hw=>gR (o:=0) Md MI (by kernel_rfl) MI) ?_)
   refine aO rfl rfl (fun w hw=>ai Mj rfl (hw.cell_some (q24.at (j:=0) rfl))) (cm (S:=Is (B true)) Du (ca.is _) rfl (fun w hw=>by rintro _ rfl _ rfl;exact bE.mono (Dv (l:=l[i].path) (m:=l[i].path) (he19▸f19_0.ext hw) (he24▸f24_0.ext hw)) fun v w' h=>⟨h.1,by rw[h.2,decide_eq_true rfl];rfl⟩) ?_)
   refine u5 MI MI (fun w _=>bu) (aC (S:=Is (B false)) MI MI (bJ MI MI (aC (S:=Is (v)) MI MI (bJ MI MI (aC (S:=Is (I (i:Int))) MI MI ?_)))))
   refine bJ MI MI ?_
   obtain⟨a32,c32,p32,q32,h32⟩:=bZ (P:=Tryz.prog) (sz:=10) Mu (by kernel_rfl) cQ (by omega) (hv.ext eL) (i:=i) (by omega) .i64
   obtain⟨e32,he32⟩:∃e,e=l[i]'(by omega):=⟨_,rfl⟩
   rw[←he32] at h32
   obtain⟨x32_0,x32_1,x32_2,x32_3,x32_4,x32_5,rfl,f32_0,f32_1,f32_2,f32_3,f32_4,f32_5⟩:=ii h32
   refine aE MI MI MI (fun w _=>p32 w) (bJ MI MI (aT MI MI (fun w hw=>gR (o:=1) Md MI (by kernel_rfl) MI) ?_))
   refine bJ rfl rfl (aO rfl rfl (fun w hw=>(q32.ext hw).ldO (ms:=[x32_1,I e32.leaf.split.kd,I e32.leaf.split.ix,B e32.leaf.split.at_.1,x32_2,x32_3,x32_4,B e32.leaf.empty,x32_5]) (o:=1) (fun j v hj=>by rcases j with _|_|_|_|_|_|_|_|_|j<;>simp_all) Tryz.underlying52 rfl (by kernel_rfl)) ?_)
   refine bJ MI MI (aC (S:=Is (u)) MI MI (bJ MI MI (aC (S:=Is (I (i:Int))) MI MI (bJ MI MI ?_))))
   obtain⟨a37,c37,p37,q37,h37⟩:=bZ (P:=Tryz.prog) (sz:=10) Mu (by kernel_rfl) cQ (by omega) (hu.ext eL) (i:=i) (by omega) .i64
   obtain⟨e37,he37⟩:∃e,e=l[i]'(by omega):=⟨_,rfl⟩
   rw[←he37] at h37
   obtain⟨x37_0,x37_1,x37_2,x37_3,x37_4,x37_5,rfl,f37_0,f37_1,f37_2,f37_3,f37_4,f37_5⟩:=ii h37
   refine aE MI MI MI (fun w _=>p37 w) (bJ MI MI (aT MI MI (fun w hw=>gR (o:=1) Md MI (by kernel_rfl) MI) ?_))
   refine bJ rfl rfl (aO rfl rfl (fun w hw=>(q37.ext hw).ldO (ms:=[x37_1,I e37.leaf.split.kd,I e37.leaf.split.ix,B e37.leaf.split.at_.1,x37_2,x37_3,x37_4,B e37.leaf.empty,x37_5]) (o:=1) (fun j v hj=>by rcases j with _|_|_|_|_|_|_|_|_|j<;>simp_all) Tryz.underlying52 rfl (by kernel_rfl)) ?_)
   refine bJ rfl rfl (cm (S:=Is (B true)) BI (ca.is _) rfl (fun w hw=>by rintro _ rfl _ rfl;obtain rfl:e37=e32:=he37.trans he32.symm;exact BK _ (Nat.le_refl _) (f32_1.ext hw) (f32_2.ext hw) (f32_3.ext hw) (f32_4.ext hw) (f32_5.ext hw) (f37_1.ext hw) (f37_2.ext hw) (f37_3.ext hw) (f37_4.ext hw) (f37_5.ext hw)) ?_)
   refine bJ MI MI (u5 MI MI (fun w _=>bu) (cp ?_))
   intro wg6 xg6
   rintro _ hq0
   obtain rfl:=Eq.symm hq0
   rintro _ hq1
   obtain rfl:=Eq.symm hq1
   rintro _ rfl
   rintro _ rfl
   rintro _ rfl
   refine aD MI MI MI (ag (ab (cq MI (aA (aS (ab (aa (ae MI MI (al (r:=I ((i+1:Nat):Int)) MI MI MI (by have e:((i+1:Nat):Int)=(i:Int)+1:=(by omega);rw[e];exact aN (by omega) (by omega)) ?_)))))))))
   refine ac MI MI (ag ?_)
   refine bR (i+1) ⟨rfl,rfl,rfl,trivial⟩ ⟨(eL.trans xg6),by omega⟩ (by omega)
  ·refine bc (aJ (aJ (bf (ab (af (aa (ac MI MI (ag (ab (aw (az MI MI ?_)))))))))))
   exact⟨_,rfl,eL,rfl⟩

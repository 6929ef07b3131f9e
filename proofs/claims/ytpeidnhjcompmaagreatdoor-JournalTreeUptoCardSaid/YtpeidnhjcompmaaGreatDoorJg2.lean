/- Part 2 of a proof: plain facts and walks of functions, merged by a program. Conditions: each lemma names its own. -/
import Derived.Test.YtpeidnhjcompmaaGreatDoorJg1
namespace Go.Rl
open Go.RowKit Go.Proofs
def uw:List UInt8:=(List.range 256).map fun n=>UInt8.ofNat (bl n)
theorem bl8 (y:UInt8):(UInt8.ofNat (bl y.toNat)).toNat=bl y.toNat∧bl y.toNat≤8:=by
 have:=wY (n:=y.toNat) (k:=8) y.toNat_lt
 exact⟨by rw[UInt8.toNat_ofNat'];omega,this⟩
theorem C0 {w:World} (y:UInt8):(Instr.index 9 (S uw) (U8 y)).run Tryz.prog w=.ok (U8 (UInt8.ofNat (bl y.toNat))) w:=by
 have hy:=y.toNat_lt
 have hs:(⟨uw.toArray⟩:ByteArray).size=256:=by simp[ByteArray.size,uw]
 rw[S,U8,run_index_string _ _ _ _ _ Tryz.underlying9,dif_pos (by rw[hs];omega)]
 have e:(⟨uw.toArray⟩:ByteArray)[((y.toNat:Int)).toNat]'(by rw[hs];omega)=UInt8.ofNat (bl y.toNat):=by
  show uw.toArray[((y.toNat:Int)).toNat]'(by simp[uw];omega)=_
  simp[uw]
 rw[e];rfl
theorem C1 (x:UInt32) (h:x.toNat<256):bl x.toUInt8.toNat=bl x.toNat:=by
 have:x.toUInt8.toNat=x.toNat%256:=UInt32.toNat_toUInt8 x
 rw[this,Nat.mod_eq_of_lt h]
theorem DR {a b:UInt32}:a≥b↔b.toNat≤a.toNat:=UInt32.le_iff_toNat_le
theorem uA {w:World} {x:UInt32}:
 Calls Tryz.prog 205 #[bE x] w (bN fun r w'=>w=w'∧r=I ((bl x.toNat:Nat):Int)):=by
 refine enter (vs:=[bE x]) Tryz.func205 E E E ?_
 have hx:=cV x
 refine af (aa (ac E E (ag (ab (af (af (aa (ae E E (al (v:=bE 65536) E E E (rP) (ag (ab ?_)))))))))))
 refine bu E (fun h4=>?_) (fun h4=>?_)
 ·have h4':65536≤x.toNat:=DR.1 h4
  have hb1:=nY (n:=x.toNat) (s:=16) (by omega)
  have hz:=qY x (s:=16) (by omega)
  refine af (aa (ae E E (al E E E (cO 16 (by omega)) (ac E E (ag (ab (aa (ac E E (ag (ab (af (af (aa (ae E E ?_))))))))))))))
  refine al (v:=bE 256) E E E (rP) (ag (ab ?_))
  refine bu E (fun h8=>?_) (fun h8=>?_)
  ·have h8':256≤((((x)>>>UInt32.ofNat 16))).toNat:=DR.1 h8
   have hb2:=nY (n:=((((x)>>>UInt32.ofNat 16))).toNat) (s:=8) (by omega)
   have hz2:=qY (((x)>>>UInt32.ofNat 16)) (s:=8) (by omega)
   refine af (aa (ae E E (al E E E (cO 8 (by omega)) (ac E E (ag (ab (aa (ae E E (al E E E (aR (by omega) (by omega)) ?_)))))))))
   refine ac E E (ag (ab (af (aa (ae E E ?_)))))
   have hu:=C1 (((((x)>>>UInt32.ofNat 16))>>>UInt32.ofNat 8)) (by first|omega|(rw[hz2];omega))
   refine ae E E (bb E E (dG Ll Lx) ?_)
   have hy:=bl8 ((((((x)>>>UInt32.ofNat 16))>>>UInt32.ofNat 8))).toUInt8
   refine lZ (u:=S uw) (v:=U8 ((((((x)>>>UInt32.ofNat 16))>>>UInt32.ofNat 8))).toUInt8) (by kernel_rfl) E E (C0 _) ?_
   refine bb E E (yt Lx Lo) (al E E E (aR (by omega) (by omega)) (ac E E (ag (ab (aw ?_)))))
   refine au E E ?_
   exact⟨_,rfl,rfl,congrArg I (by
    try simp only[Nat.reducePow] at*
    first
    |(rw[hz2] at hu;rw[hz] at hb2 hu;rw[hb1,hb2];omega)
    |(rw[hz2] at hu;rw[hb2];omega)
    |(rw[hz] at hu;rw[hb1];omega)
    |omega)⟩
  ·have h8':((((x)>>>UInt32.ofNat 16))).toNat<256:=Nat.lt_of_not_le fun h=>h8 (DR.2 h)
   refine aC (ab (af (aa (ae E E ?_))))
   have hu:=C1 (((x)>>>UInt32.ofNat 16)) (by first|omega|(rw[hz2];omega))
   refine ae E E (bb E E (dG Ll Lx) ?_)
   have hy:=bl8 ((((x)>>>UInt32.ofNat 16))).toUInt8
   refine lZ (u:=S uw) (v:=U8 ((((x)>>>UInt32.ofNat 16))).toUInt8) (by kernel_rfl) E E (C0 _) ?_
   refine bb E E (yt Lx Lo) (al E E E (aR (by omega) (by omega)) (ac E E (ag (ab (aw ?_)))))
   refine au E E ?_
   exact⟨_,rfl,rfl,congrArg I (by
    try simp only[Nat.reducePow] at*
    first
    |(rw[hz2] at hu;rw[hz] at hb2 hu;rw[hb1,hb2];omega)
    |(rw[hz2] at hu;rw[hb2];omega)
    |(rw[hz] at hu;rw[hb1];omega)
    |omega)⟩
 ·have h4':x.toNat<65536:=Nat.lt_of_not_le fun h=>h4 (DR.2 h)
  refine aC (ab (af (af (aa (ae E E (al (v:=bE 256) E E E (rP) (ag (ab ?_))))))))
  refine bu E (fun h8=>?_) (fun h8=>?_)
  ·have h8':256≤((x)).toNat:=DR.1 h8
   have hb2:=nY (n:=((x)).toNat) (s:=8) (by omega)
   have hz2:=qY (x) (s:=8) (by omega)
   refine af (aa (ae E E (al E E E (cO 8 (by omega)) (ac E E (ag (ab (aa (ae E E (al E E E (aR (by omega) (by omega)) ?_)))))))))
   refine ac E E (ag (ab (af (aa (ae E E ?_)))))
   have hu:=C1 (((x)>>>UInt32.ofNat 8)) (by first|omega|(rw[hz2];omega))
   refine ae E E (bb E E (dG Ll Lx) ?_)
   have hy:=bl8 ((((x)>>>UInt32.ofNat 8))).toUInt8
   refine lZ (u:=S uw) (v:=U8 ((((x)>>>UInt32.ofNat 8))).toUInt8) (by kernel_rfl) E E (C0 _) ?_
   refine bb E E (yt Lx Lo) (al E E E (aR (by omega) (by omega)) (ac E E (ag (ab (aw ?_)))))
   refine au E E ?_
   exact⟨_,rfl,rfl,congrArg I (by
    try simp only[Nat.reducePow] at*
    first
    |(rw[hz2] at hu;rw[hz] at hb2 hu;rw[hb1,hb2];omega)
    |(rw[hz2] at hu;rw[hb2];omega)
    |(rw[hz] at hu;rw[hb1];omega)
    |omega)⟩
  ·have h8':((x)).toNat<256:=Nat.lt_of_not_le fun h=>h8 (DR.2 h)
   refine aC (ab (af (aa (ae E E ?_))))
   have hu:=C1 (x) (by first|omega|(rw[hz2];omega))
   refine ae E E (bb E E (dG Ll Lx) ?_)
   have hy:=bl8 ((x)).toUInt8
   refine lZ (u:=S uw) (v:=U8 ((x)).toUInt8) (by kernel_rfl) E E (C0 _) ?_
   refine bb E E (yt Lx Lo) (al E E E (aR (by omega) (by omega)) (ac E E (ag (ab (aw ?_)))))
   refine au E E ?_
   exact⟨_,rfl,rfl,congrArg I (by
    try simp only[Nat.reducePow] at*
    first
    |(rw[hz2] at hu;rw[hz] at hb2 hu;rw[hb1,hb2];omega)
    |(rw[hz2] at hu;rw[hb2];omega)
    |(rw[hz] at hu;rw[hb1];omega)
    |omega)⟩
theorem DS {w:World} {x:UInt32}:
 Calls Tryz.prog 200 #[bE x] w (bN fun r w'=>w=w'∧r=I ((32-bl x.toNat:Nat):Int)):=by
 refine enter (vs:=[bE x]) Tryz.func200 E E E ?_
 have hx:=wY (n:=x.toNat) (k:=32) x.toNat_lt
 refine af (aa (ac E E (ag (ab (af (aa (ae E E (an ur E E (uA) ?_))))))))
 rintro v4 _ ⟨rfl,rfl⟩
 refine al (r:=I ((32-bl x.toNat:Nat):Int)) E E E (by have e:((32-bl x.toNat:Nat):Int)=32-((bl x.toNat:Nat):Int):=(by omega);rw[e];exact bD (by omega) (by omega)) ?_
 refine ac E E (ag (ab (aw (au E E ?_))))
 exact⟨_,rfl,rfl,rfl⟩
theorem By {w:World} {l:List UInt32} {v:Value} (hv:bk l v w) (hl:l.length≤1099511627776):
 Calls Tryz.prog 183 #[v] w (bN fun r w'=>w=w'∧r=I ((bl (val l):Nat):Int)):=by
 refine enter (vs:=[v]) Tryz.func183 E E E ?_
 have hll:=ig (cE l)
 refine af (aa (ac E E (ag (ab (af (aa (ae E E (an dB E E (dT hv) ?_))))))))
 rintro v4 _ ⟨rfl,b4⟩
 refine ac E E (ag (ab (af (af (aa (ae E E (aV (r:=I ((lb (val l)).length:Int)) E E (bz Lj b4) ?_)))))))
 refine al E E E (bo) (ag (ab ?_))
 refine bu E (fun h7=>?_) (fun h7=>?_)
 ·refine af (aa (ac E E (ag (ab (aw (az (au E E ?_)))))))
  exact⟨_,rfl,rfl,by
   have:val l=0:=gO.1 (by omega)
   rw[this];rfl⟩
 ·refine aC (ab (af (aa (ae E E (aV (r:=I ((lb (val l)).length:Int)) E E (bz Lj b4) (al (r:=I (((lb (val l)).length-1:Nat):Int)) E E E (by have e:(((lb (val l)).length-1:Nat):Int)=((lb (val l)).length:Int)-1:=(by omega);rw[e];exact bD (by omega) (by omega)) ?_))))))
  refine al (r:=I ((32*((lb (val l)).length-1:Nat):Nat):Int)) E E E (by have e:((32*((lb (val l)).length-1:Nat):Nat):Int)=32*(((lb (val l)).length-1:Nat):Int):=(by omega);rw[e];exact fc (by omega) (by omega)) ?_
  refine ae E E (ae E E (aV (r:=I ((lb (val l)).length:Int)) E E (bz Lj b4) (al (r:=I (((lb (val l)).length-1:Nat):Int)) E E E (by have e:(((lb (val l)).length-1:Nat):Int)=((lb (val l)).length:Int)-1:=(by omega);rw[e];exact bD (by omega) (by omega)) ?_)))
  obtain⟨a16,p16,q16⟩:=cQ Lj b4 (i:=((lb (val l)).length-1:Nat)) (by omega) .i64
  refine ar E E E (p16 _) (aj E E (ai Ll E q16) (an ur E E (uA) ?_))
  rintro v18 _ ⟨rfl,rfl⟩
  have hb:=I4 (n:=val l) (i:=(lb (val l)).length-1) (by omega)
  have hb32:=wY (n:=((lb (val l))[(lb (val l)).length-1]'(by omega)).toNat) (k:=32) (cV _)
  refine al (r:=I ((((32*((lb (val l)).length-1:Nat):Nat))+(bl ((lb (val l))[(lb (val l)).length-1]'(by omega)).toNat:Nat):Nat):Int)) E E E (by have e:((((32*((lb (val l)).length-1:Nat):Nat))+(bl ((lb (val l))[(lb (val l)).length-1]'(by omega)).toNat:Nat):Nat):Int)=((32*((lb (val l)).length-1:Nat):Nat):Int)+((bl ((lb (val l))[(lb (val l)).length-1]'(by omega)).toNat:Nat):Int):=(by omega);rw[e];exact aR (by omega) (by omega)) ?_
  refine ac E E (ag (ab (aw (au E E ?_))))
  exact⟨_,rfl,rfl,by rw[hb]⟩
theorem C3 {a L:List UInt32} {i s V:Nat} {o:UInt32} (hi:i<a.length) (hL:L.length=a.length) (hv:val (L.take i)+4294967296^i*(val (a.drop i)/2^s)=V)
 (st:o.toNat+4294967296*(val (a.drop (i+1))/2^s)=(a[i].toNat+4294967296*val (a.drop (i+1)))/2^s):val ((L.set i o).take (i+1))+4294967296^(i+1)*(val (a.drop (i+1))/2^s)=V:=by
 rw[fu (by omega),Nat.add_assoc,Nat.pow_succ,Nat.mul_assoc,←Nat.mul_add,st,←eI hi,hv]
theorem Am {a:List UInt32} {i:Nat} {x:UInt64} (hi:i<a.length) (hx:(∃h:i+1<a.length,x=a[i].toUInt64|||a[i+1].toUInt64<<<UInt64.ofNat 32)∨(a.length≤i+1∧x=a[i].toUInt64)) {s:Nat} (hs:s<32):
 ((x>>>UInt64.ofNat s).toUInt32).toNat+4294967296*(val (a.drop (i+1))/2^s)=(a[i].toNat+4294967296*val (a.drop (i+1)))/2^s:=by
 refine(FO hs ?_).resolve_right (by have:=cV a[i];omega)
 rcases hx with⟨h,rfl⟩|⟨h,rfl⟩
 ·rw[I3 (fB _) (cV _),eI h]
  have:=cV a[i+1]
  rw[Nat.add_mul_mod_self_left,Nat.mod_eq_of_lt this]
 ·rw[fB,List.drop_of_length_le h];simp[val]
theorem DT {w:World} {l:List UInt32} {v:Value} {k:Nat} (hv:bk l v w) (hl:l.length≤1099511627776) (hk:k≤1048576):
 Calls Tryz.prog 204 #[v,I (k:Int)] w (bN fun r w'=>aH w w'∧∃q,r=.tuple #[q,I 0]∧bk (lb (val l/2^k)) q w'):=by
 refine enter (vs:=[v,I (k:Int)]) Tryz.func204 E E E ?_
 have hll:=ig (cE l)
 refine af (aa (ac E E (ac E E (ag (ab (af (af (aa (ae E E (al E E E (d7 (by omega) a6) (ae E E (ak E ?_))))))))))))
 refine ae E E (ak E (al E E E (d7 (by omega) bT) (aI E E E (ag (ab (cN E (aC (ab (af (aa (ae E E (an dB E E (dT hv) ?_))))))))))))
 rintro v17 _ ⟨rfl,b17⟩
 refine ac E E (ag (ab (af (af (aa (ae E E (al (r:=I ((k/32:Nat):Int)) E E E (by have e:((k/32:Nat):Int)=(k:Int)/32:=(by omega);rw[e];exact qL (by omega) (by omega) (by omega)) ?_)))))))
 refine ae E E (aV E E (bz Lj b17) (al E E E (gL) (ag (ab ?_))))
 refine bu E (fun h22=>?_) (fun h22=>?_)
 ·refine af (aa (ac E E (ac E E (ag (ab (aw (az (bt E E E ?_))))))))
  exact⟨_,rfl,aH.refl _,_,rfl,by
   have h1:=cE (lb (val l))
   rw[bV] at h1
   have h2:(4294967296:Nat)^(lb (val l)).length=2^(32*(lb (val l)).length):=by rw[Nat.pow_mul]
   have h3:2^(32*(lb (val l)).length)≤2^k:=Nat.pow_le_pow_right (by omega) (by omega)
   rw[Nat.div_eq_of_lt (by omega)]
   exact bk.nil _⟩
 ·refine aC (ab (af (aa (ae E E (ae E E (al (r:=I ((k/32:Nat):Int)) E E E (by have e:((k/32:Nat):Int)=(k:Int)/32:=(by omega);rw[e];exact qL (by omega) (by omega) (by omega)) ?_))))))
  obtain⟨v26,p26,b26⟩:=FM Lj b17 (lo:=k/32) (by omega) .i64
  refine dm E E E E E (p26 _) (ac E E (ag (ab (af ?_))))
  obtain⟨a,ha⟩:∃a,a=(lb (val l)).drop (k/32):=⟨_,rfl⟩
  have hva:val a=val l/2^(32*(k/32)):=by
   have h1:=ek (lb (val l)) (k/32) (by omega)
   have h2:=cE ((lb (val l)).take (k/32))
   rw[List.length_take,Nat.min_eq_left (by omega)] at h2
   rw[bV] at h1
   have h3:(4294967296:Nat)^(k/32)=2^(32*(k/32)):=by rw[Nat.pow_mul]
   rw[h3] at h1 h2
   rw[ha]
   conv=>rhs;rw[h1]
   rw[Nat.add_mul_div_left _ _ (Nat.pow_pos (by omega)),Nat.div_eq_of_lt h2,Nat.zero_add]
  have hal:a.length≤1099511627776:=by rw[ha,List.length_drop];omega
  rw[←ha] at b26
  refine aa (ae E E (aV (r:=I (a.length:Int)) E E (bz Lj b26) ?_))
  obtain⟨v29,w29,hr29,x29,o29,ob29⟩:=wU Lj (w:=w) w.heap.size (n:=a.length) (by omega) (Nat.le_refl _)
  refine ie E E E hr29 (ac E E (ag (ab (af (af (aa (ae E E (aV (r:=I (a.length:Int)) E E (bz Lj (b26.ext x29)) ?_))))))))
  refine ae E E (ag (ab (aG ?_)))
  refine eu (fun(i:Nat) (L:List UInt32)=>[(0,v26),(1,I (k:Int)),(6,v29),(30,v26),(31,I (a.length:Int)),(32,I (i:Int))]) (fun(i:Nat) (L:List UInt32) w'=>dV w.heap.size L v29 w'∧aH w w'∧i≤a.length∧L.length=a.length∧val (L.take i)+4294967296^i*(val (a.drop i)/2^(k%32))=val a/2^(k%32)) (fun(i:Nat) (L:List UInt32)=>a.length-i) (0) (List.replicate a.length 0) ⟨rfl,rfl,rfl,rfl,rfl,rfl,trivial⟩ ⟨o29,x29,by simp,by simp,by simp[val]⟩ ?_
  rintro i L w9 ⟨oL,e9,hi,hL,hval⟩
  refine af (aa (al E E E (a6) (ag (ab (af ?_)))))
  refine bu E (fun h33=>?_) (fun h33=>?_)
  ·have hia:i<a.length:=by omega
   refine aC (ab (af (aG (af (aa (ae E E ?_))))))
   obtain⟨a35,p35,q35⟩:=cQ Lj (b26.ext e9) (i:=i) (by omega) .i64
   refine ar E E E (p35 _) (aj E E (ai Ll E q35) (ac E E (ac E E (ag (ab (af (aa (ae E E ?_))))))))
   refine bb E E (bU Ll Lp) (ac E E (ag (ab (af (af (aa (ae E E (al (r:=I ((i+1:Nat):Int)) E E E (by have e:((i+1:Nat):Int)=(i:Int)+1:=(by omega);rw[e];exact aR (by omega) (by omega)) ?_))))))))
   refine ae E E (aV (r:=I (a.length:Int)) E E (bz Lj (b26.ext e9)) (al E E E (a6) (ag (ab ?_))))
   refine bu E (fun h43=>?_) (fun h43=>?_)
   ·refine aa (ae E E (ae E E (ae E E (al (r:=I ((i+1:Nat):Int)) E E E (by have e:((i+1:Nat):Int)=(i:Int)+1:=(by omega);rw[e];exact aR (by omega) (by omega)) ?_))))
    obtain⟨a48,p48,q48⟩:=cQ Lj (b26.ext e9) (i:=(i+1:Nat)) (by omega) .i64
    refine ar E E E (p48 _) (aj E E (ai Ll E q48) (bb E E (bU Ll Lp) ?_))
    refine al E E E (fG 32 (by omega)) (al E E E (jc) (ac E E (ag (ab (aa (ae E E (ae E E (ae E E (ae E E ?_)))))))))
    refine al (r:=I ((k%32:Nat):Int)) E E E (by have e:((k%32:Nat):Int)=(k:Int)%32:=(by omega);rw[e];exact oY (by omega) (by omega)) ?_
    refine al E E E (dk ((k%32:Nat)) (by omega)) (bb E E (cH Lp Ll) ?_)
    have st:=Am (x:=(((((a[i])).toUInt64)|||(((((a[(i+1:Nat)])).toUInt64)<<<UInt64.ofNat 32))))) hia (by first|exact .inl ⟨by omega,rfl⟩|exact .inr ⟨by omega,rfl⟩) (Nat.mod_lt k (show 0<32 by omega))
    obtain⟨g60,w60,p60,s60,o60,q60,hb60,c60,ob60⟩:=(oL).setW Lj (i:=i) (by omega) (((((((a[i])).toUInt64)|||(((((a[(i+1:Nat)])).toUInt64)<<<UInt64.ofNat 32))))>>>UInt64.ofNat (k%32)).toUInt32)
    refine ar E E E (p60 _) (ay E E s60 ?_)
    have x60:=aH.of_new (e9) q60 hb60
    refine ag (aW (ab (aa (al (r:=I ((i+1:Nat):Int)) E E E (by have e:((i+1:Nat):Int)=(i:Int)+1:=(by omega);rw[e];exact aR (by omega) (by omega)) ?_))))
    refine ae E E (ag ?_)
    refine c6 (i+1) (_) ⟨rfl,rfl,rfl,rfl,rfl,rfl,trivial⟩ ⟨o60,x60,hia,by simpa using hL,C3 hia hL hval st⟩ (by show a.length-(i+1)<a.length-i;omega)
   ·refine aC (ab (aa (ae E E (ae E E (ae E E (ae E E (al (r:=I ((k%32:Nat):Int)) E E E (by have e:((k%32:Nat):Int)=(k:Int)%32:=(by omega);rw[e];exact oY (by omega) (by omega)) ?_)))))))
    refine al E E E (dk ((k%32:Nat)) (by omega)) (bb E E (cH Lp Ll) ?_)
    have st:=Am (x:=(((a[i])).toUInt64)) hia (by first|exact .inl ⟨by omega,rfl⟩|exact .inr ⟨by omega,rfl⟩) (Nat.mod_lt k (show 0<32 by omega))
    obtain⟨g60,w60,p60,s60,o60,q60,hb60,c60,ob60⟩:=(oL).setW Lj (i:=i) (by omega) (((((a[i])).toUInt64)>>>UInt64.ofNat (k%32)).toUInt32)
    refine ar E E E (p60 _) (ay E E s60 ?_)
    have x60:=aH.of_new (e9) q60 hb60
    refine ag (aW (ab (aa (al (r:=I ((i+1:Nat):Int)) E E E (by have e:((i+1:Nat):Int)=(i:Int)+1:=(by omega);rw[e];exact aR (by omega) (by omega)) ?_))))
    refine ae E E (ag ?_)
    refine c6 (i+1) (_) ⟨rfl,rfl,rfl,rfl,rfl,rfl,trivial⟩ ⟨o60,x60,hia,by simpa using hL,C3 hia hL hval st⟩ (by show a.length-(i+1)<a.length-i;omega)
  ·refine bc (aK (aK (bf (ab (af (aa ?_))))))
   have hla:val L=val l/2^k:=by
    rw[List.take_of_length_le (by omega),List.drop_of_length_le (by omega)] at hval
    simp only[val,Nat.zero_div,Nat.mul_zero,Nat.add_zero] at hval
    rw[hval,hva,Nat.div_div_eq_div_mul,←Nat.pow_add,Nat.div_add_mod]
   refine ae E E (an dB E E (dT oL.wds) ?_)
   rintro v63 _ ⟨rfl,b63⟩
   refine ac E E (ac E E (ag (ab (aw (bt E E E ?_)))))
   exact⟨_,rfl,e9,_,rfl,by rw[←hla];exact b63⟩
end Go.Rl
namespace Go.Rl
theorem An {V U v1 v2 u01 u2 P Vl Ul q r:Nat} (hV:V=(v1*4294967296+v2)*P+Vl) (hU:U=(u01*4294967296+u2)*P+Ul) (hUl:Ul<P) (hqr:q*v1+r=u01)
 (h:r*4294967296+u2<q*v2):U<q*V:=by
 have h1:u01*4294967296+u2+1≤q*(v1*4294967296+v2):=by
  rw[←hqr,Nat.mul_add,←Nat.mul_assoc,Nat.add_mul];omega
 have h2:(u01*4294967296+u2+1)*P≤q*(v1*4294967296+v2)*P:=Nat.mul_le_mul_right _ h1
 have h3:q*(v1*4294967296+v2)*P≤q*V:=by
  rw[hV,Nat.mul_assoc];exact Nat.mul_le_mul_left _ (Nat.le_add_right _ _)
 rw[Nat.add_mul _ 1] at h2
 omega
theorem FP {V U v1 v2 u01 u2 P Vl Ul q:Nat} (hV:V=(v1*4294967296+v2)*P+Vl) (hU:U=(u01*4294967296+u2)*P+Ul) (hVl:Vl<P) (h1:0<v1) (hq:0<q) (hqB:q≤4294967296)
 (h:q*(v1*4294967296+v2)≤u01*4294967296+u2):(q-1)*V≤U:=by
 obtain⟨m,rfl⟩:∃m,q=m+1:=⟨q-1,by omega⟩
 rw[Nat.add_sub_cancel]
 have h2:(m+1)*(v1*4294967296+v2)*P≤(u01*4294967296+u2)*P:=Nat.mul_le_mul_right _ h
 have h3:m*Vl≤(v1*4294967296+v2)*P:=by
  have a:m*Vl≤4294967296*P:=Nat.mul_le_mul (by omega) (by omega)
  have b:4294967296*P≤(v1*4294967296+v2)*P:=Nat.mul_le_mul_right _ (by omega)
  omega
 rw[hV,Nat.mul_add,←Nat.mul_assoc]
 rw[Nat.add_mul m 1,Nat.one_mul,Nat.add_mul] at h2
 omega
theorem pb {V U v1 v2 u01 u2 P Vl Ul q r:Nat} (hV:V=(v1*4294967296+v2)*P+Vl) (hU:U=(u01*4294967296+u2)*P+Ul) (hVl:Vl<P) (h1:0<v1) (hv2:v2<4294967296) (hqB:q<4294967296) (hqr:q*v1+r=u01)
 (h:4294967296≤r∨q*v2≤r*4294967296+u2):(q-1)*V≤U:=by
 rcases Nat.eq_zero_or_pos q with rfl|hq
 ·simp
 ·refine FP hV hU hVl h1 hq (by omega) ?_
  rw[Nat.mul_add,←Nat.mul_assoc]
  have hp:q*v2≤4294967295*4294967295:=Nat.mul_le_mul (by omega) (by omega)
  omega
theorem FQ {v1 u0 u1 q r:Nat} (hu0:u0≤v1) (hu1:u1<4294967296) (hqr:q*v1+r=u0*4294967296+u1) (hr:4294967296≤r):q<4294967296:=by
 rcases Nat.lt_or_ge q 4294967296 with h|h
 ·exact h
 ·have:=Nat.mul_le_mul_right v1 h
  omega
theorem Jv {V U v1 u01 P Q:Nat} (hV:v1*P≤V) (hU:U<(u01+1)*P) (h1:0<v1) (h:Q*V≤U):Q≤u01/v1:=by
 rw[Nat.le_div_iff_mul_le h1]
 have h2:Q*v1*P≤Q*V:=by rw[Nat.mul_assoc];exact Nat.mul_le_mul_left _ hV
 have h3:Q*v1*P<(u01+1)*P:=by omega
 have:=Nat.lt_of_mul_lt_mul_right h3
 omega
theorem KN {u lo b:Nat} (hu:u<4294967296) (hlo:lo<4294967296) (hb:b≤1) {x:UInt64} (hx:x.toNat=(18446744073709551616-b+(18446744073709551616-lo+u)%18446744073709551616)%18446744073709551616):
 x.toNat%4294967296+lo+b=u+4294967296*(x.toNat/9223372036854775808)∧x.toNat/9223372036854775808≤1:=by
 omega
theorem Fsz {L v:List UInt32} {M:List UInt32} {i:Nat} {q c b x:UInt64} (hi:i<v.length) (hL:v.length<L.length) (hM:M.length=L.length) (hq:q.toNat<4294967296) (hc:c.toNat<4294967296) (hb:b.toNat≤1)
 (hMi:M.drop i=L.drop i) (hinv:val (L.take i)+4294967296^i*(c.toNat+b.toNat)=val (M.take i)+q.toNat*val (v.take i))
 (hx:x=(M[i]'(by omega)).toUInt64-((c+q*v[i].toUInt64).toUInt32).toUInt64-b):
 (M.set i x.toUInt32).drop (i+1)=L.drop (i+1)∧((c+q*v[i].toUInt64)>>>UInt64.ofNat 32).toNat<4294967296∧(x>>>UInt64.ofNat 63).toNat≤1∧
   val (L.take (i+1))+4294967296^(i+1)*(((c+q*v[i].toUInt64)>>>UInt64.ofNat 32).toNat+(x>>>UInt64.ofNat 63).toNat)=val ((M.set i x.toUInt32).take (i+1))+q.toNat*val (v.take (i+1)):=by
 have hd:=cV v[i]
 have hMl:M[i]'(by omega)=L[i]'(by omega):=by
  have h1:=List.getElem?_drop (xs:=M) (i:=i) (j:=0)
  have h2:=List.getElem?_drop (xs:=L) (i:=i) (j:=0)
  rw[hMi] at h1
  rw[h1,Nat.add_zero,List.getElem?_eq_getElem (by omega),List.getElem?_eq_getElem (by omega)] at h2
  exact Option.some.inj h2
 have hu:=cV (M[i]'(by omega))
 have hprod:q.toNat*v[i].toNat≤4294967295*4294967295:=Nat.mul_le_mul (by omega) (by omega)
 have hC:(c+q*v[i].toUInt64).toNat=c.toNat+q.toNat*v[i].toNat:=by
  rw[pC,wX,fB];omega
 have hhi:((c+q*v[i].toUInt64)>>>UInt64.ofNat 32).toNat=(c.toNat+q.toNat*v[i].toNat)/4294967296:=by rw[tm _ (by omega),hC]
 have hb1:(x>>>UInt64.ofNat 63).toNat=x.toNat/9223372036854775808:=by rw[tm _ (by omega)]
 have hxn:x.toNat=(18446744073709551616-b.toNat+(18446744073709551616-(c.toNat+q.toNat*v[i].toNat)%4294967296+(M[i]'(by omega)).toNat)%18446744073709551616)%18446744073709551616:=by
  rw[hx,qZ,qZ,fB,fB,lF,hC]
 obtain⟨hs1,hs2⟩:=KN hu (Nat.mod_lt _ (by omega)) hb hxn
 refine⟨?_,by rw[hhi];omega,by rw[hb1];exact hs2,?_⟩
 ·rw[List.drop_set_of_lt (by omega)]
  have:=congrArg (List.drop 1) hMi
  rwa [List.drop_drop,List.drop_drop] at this
 ·rw[fu (by omega),cc (by omega),cc hi,hhi,hb1,lF,←hMl,Nat.pow_succ,Nat.mul_add q.toNat,Nat.mul_left_comm q.toNat]
  have hdm:=Nat.div_add_mod (c.toNat+q.toNat*v[i].toNat) 4294967296
  have key:(M[i]'(by omega)).toNat+4294967296*((c.toNat+q.toNat*v[i].toNat)/4294967296+x.toNat/9223372036854775808)=x.toNat%4294967296+q.toNat*v[i].toNat+(c.toNat+b.toNat):=by omega
  have k2:=congrArg (4294967296^i* ·) key
  simp only[Nat.mul_add] at k2 hinv⊢
  simp only[Nat.mul_assoc] at k2⊢
  omega
theorem FT {M v L:List UInt32} {i:Nat} {c:UInt64} (hi:i<v.length) (hL:v.length<L.length) (hM:M.length=L.length) (hc:c.toNat≤1)
 (hMi:M.drop i=L.drop i) (hinv:val (M.take i)+4294967296^i*c.toNat=val (L.take i)+val (v.take i)):
 (M.set i (c+((M[i]'(by omega)).toUInt64+v[i].toUInt64)).toUInt32).drop (i+1)=L.drop (i+1)∧((c+((M[i]'(by omega)).toUInt64+v[i].toUInt64))>>>UInt64.ofNat 32).toNat≤1∧
   val ((M.set i (c+((M[i]'(by omega)).toUInt64+v[i].toUInt64)).toUInt32).take (i+1))+4294967296^(i+1)*((c+((M[i]'(by omega)).toUInt64+v[i].toUInt64))>>>UInt64.ofNat 32).toNat=val (L.take (i+1))+val (v.take (i+1)):=by
 have hd:=cV v[i]
 have hMl:M[i]'(by omega)=L[i]'(by omega):=by
  have h1:=List.getElem?_drop (xs:=M) (i:=i) (j:=0)
  have h2:=List.getElem?_drop (xs:=L) (i:=i) (j:=0)
  rw[hMi] at h1
  rw[h1,Nat.add_zero,List.getElem?_eq_getElem (by omega),List.getElem?_eq_getElem (by omega)] at h2
  exact Option.some.inj h2
 have hu:=cV (M[i]'(by omega))
 have hC:(c+((M[i]'(by omega)).toUInt64+v[i].toUInt64)).toNat=c.toNat+((M[i]'(by omega)).toNat+v[i].toNat):=by
  rw[pC,pC,fB,fB];omega
 have hhi:((c+((M[i]'(by omega)).toUInt64+v[i].toUInt64))>>>UInt64.ofNat 32).toNat=(c.toNat+((M[i]'(by omega)).toNat+v[i].toNat))/4294967296:=by rw[tm _ (by omega),hC]
 refine⟨?_,by rw[hhi];omega,?_⟩
 ·rw[List.drop_set_of_lt (by omega)]
  have:=congrArg (List.drop 1) hMi
  rwa [List.drop_drop,List.drop_drop] at this
 ·rw[fu (by omega),cc (by omega),cc hi,hhi,lF,hC,←hMl,Nat.pow_succ]
  have key:(c.toNat+((M[i]'(by omega)).toNat+v[i].toNat))%4294967296+4294967296*((c.toNat+((M[i]'(by omega)).toNat+v[i].toNat))/4294967296)=(M[i]'(by omega)).toNat+v[i].toNat+c.toNat:=by omega
  have k2:=congrArg (4294967296^i* ·) key
  simp only[Nat.mul_add] at k2 hinv⊢
  simp only[Nat.mul_assoc] at k2⊢
  omega
theorem DU {n j:Nat} (h1:4294967296^j≤n) (h2:n<4294967296^(j+1)):(lb n).length=j+1:=by
 have a:=ig h2
 have b:=cE (lb n)
 rw[bV] at b
 have c:=(Nat.pow_lt_pow_iff_right (a:=4294967296) (by omega)).1 (Nat.lt_of_le_of_lt h1 b)
 omega
theorem nZ {x y:Nat}:rV x y<0↔x<y:=by
 unfold rV
 split
 ·simp;assumption
 ·split
  ·simp;omega
  ·simp;omega
theorem FU {n k:Nat} (h:(lb n).length=k+2):
 32-bl ((lb n)[k+1]'(by omega)).toNat<32∧(lb (n*2^(32-bl ((lb n)[k+1]'(by omega)).toNat))).length=k+2:=by
 have hn:0<n:=by
  rcases Nat.eq_zero_or_pos n with h0|h0
  ·subst h0;simp[gq] at h
  ·exact h0
 have ht:=yy (n:=n) (i:=k+1) (by omega)
 have h1:=CV hn
 rw[h] at h1
 have hb:=(rc ht).2
 have hp:=uo ht
 have h32:=wY (n:=((lb n)[k+1]'(by omega)).toNat) (k:=32) (cV _)
 have hv:n<(((lb n)[k+1]'(by omega)).toNat+1)*4294967296^(k+1):=by
  have e:=cc (l:=lb n) (i:=k+1) (by omega)
  rw[List.take_of_length_le (by omega),bV] at e
  have:=cE ((lb n).take (k+1))
  rw[List.length_take,Nat.min_eq_left (by omega)] at this
  rw[Nat.mul_comm,Nat.mul_add]
  omega
 generalize ((lb n)[k+1]'(by omega)).toNat=t at*
 refine⟨by omega,DU (j:=k+1) ?_ ?_⟩
 ·exact Nat.le_trans h1 (Nat.le_mul_of_pos_right _ (Nat.pow_pos (by omega)))
 ·have hs:0<2^(32-bl t):=Nat.pow_pos (by omega)
  have a:n*2^(32-bl t)<(t+1)*4294967296^(k+1)*2^(32-bl t):=Nat.mul_lt_mul_of_pos_right hv hs
  have b:(t+1)*4294967296^(k+1)*2^(32-bl t)≤2^bl t*4294967296^(k+1)*2^(32-bl t):=Nat.mul_le_mul_right _ (Nat.mul_le_mul_right _ hb)
  have c:2^bl t*4294967296^(k+1)*2^(32-bl t)=4294967296^(k+1+1):=by
   rw[Nat.mul_right_comm,←Nat.pow_add,show bl t+(32-bl t)=32 by omega,Nat.pow_succ 4294967296 (k+1),Nat.mul_comm]
  omega
theorem FV {x:UInt64} (h:x.toNat=0):x=0:=UInt64.toNat_inj.1 h
theorem Ao {M:List UInt32} {n:Nat} (h:M.length=n+1) (x:UInt32):val (M.set n x)=val (M.take n)+4294967296^n*x.toNat:=by
 have:=fu (l:=M) (i:=n) (by omega) x
 rwa [List.take_of_length_le (by simp;omega)] at this
theorem Ap {M:List UInt32} {n:Nat} (h:M.length=n+1):val M=val (M.take n)+4294967296^n*(M[n]'(by omega)).toNat:=by
 rw[←cc (by omega),List.take_of_length_le (by omega)]
theorem Aq {M L:List UInt32} {i:Nat} (h:M.drop i=L.drop i) (h1:i<M.length) (h2:i<L.length):M[i]=L[i]:=by
 have e1:=List.getElem?_drop (xs:=M) (i:=i) (j:=0)
 have e2:=List.getElem?_drop (xs:=L) (i:=i) (j:=0)
 rw[h] at e1
 rw[e1,Nat.add_zero,List.getElem?_eq_getElem h1,List.getElem?_eq_getElem h2] at e2
 exact Option.some.inj e2
theorem HQ {L v M:List UInt32} {q c b x:UInt64} (hL:L.length=v.length+1) (hM:M.length=L.length) (hc:c.toNat<4294967296) (hb:b.toNat≤1)
 (hMi:M.drop v.length=L.drop v.length) (hinv:val (L.take v.length)+4294967296^v.length*(c.toNat+b.toNat)=val (M.take v.length)+q.toNat*val (v.take v.length))
 (hx:x=(M[v.length]'(by omega)).toUInt64-c-b):
 val L+4294967296^(v.length+1)*(x.toNat/9223372036854775808)=val (M.set v.length x.toUInt32)+q.toNat*val v∧x.toNat/9223372036854775808≤1:=by
 have hu:=cV (M[v.length]'(by omega))
 have hxn:x.toNat=(18446744073709551616-b.toNat+(18446744073709551616-c.toNat+(M[v.length]'(by omega)).toNat)%18446744073709551616)%18446744073709551616:=by
  rw[hx,qZ,qZ,fB]
 obtain⟨hs1,hs2⟩:=KN hu hc hb hxn
 refine⟨?_,hs2⟩
 rw[Ao (by omega),lF,Ap hL,←Aq hMi (by omega) (by omega),Nat.pow_succ]
 rw[List.take_length (l:=v)] at hinv
 have k2:=congrArg (4294967296^v.length* ·) hs1
 simp only[Nat.mul_add] at k2 hinv⊢
 simp only[Nat.mul_assoc] at k2⊢
 omega
theorem FW {L v N M:List UInt32} {q:Nat} {c:UInt64} (hL:L.length=v.length+1) (hN:N.length=L.length) (hM:M.length=L.length) (hc:c.toNat≤1) (hMi:M.drop v.length=N.drop v.length)
 (hinv:val (M.take v.length)+4294967296^v.length*c.toNat=val (N.take v.length)+val (v.take v.length)) (ht:val L+4294967296^(v.length+1)=val N+q*val v) (h1:(q-1)*val v≤val L):
 0<q∧val L=(q-1)*val v+val (M.set v.length ((M[v.length]'(by omega))+c.toUInt32))∧val (M.set v.length ((M[v.length]'(by omega))+c.toUInt32))<val v:=by
 have hu:=cV (M[v.length]'(by omega))
 have hNl:=cE N
 rw[hN,hL] at hNl
 have hq:0<q:=by
  rcases Nat.eq_zero_or_pos q with h|h
  ·subst h;omega
  ·exact h
 obtain⟨p,rfl⟩:∃p,q=p+1:=⟨q-1,by omega⟩
 rw[Nat.add_sub_cancel] at h1⊢
 rw[Nat.add_mul,Nat.one_mul] at ht
 have hlast:((M[v.length]'(by omega))+c.toUInt32).toNat=((M[v.length]'(by omega)).toNat+c.toNat)%4294967296:=by
  rw[UInt32.toNat_add,lF];omega
 have hF:=Ao (show M.length=v.length+1 by omega) ((M[v.length]'(by omega))+c.toUInt32)
 have hFl:=cE (M.set v.length ((M[v.length]'(by omega))+c.toUInt32))
 have hFe:(M.set v.length ((M[v.length]'(by omega))+c.toUInt32)).length=v.length+1:=by simp;omega
 rw[hFe] at hFl
 have hNe:=Ap (show N.length=v.length+1 by omega)
 rw[←Aq hMi (by omega) (by omega)] at hNe
 rw[List.take_length (l:=v)] at hinv
 have hdm:=Nat.div_add_mod ((M[v.length]'(by omega)).toNat+c.toNat) 4294967296
 have hs:((M[v.length]'(by omega)).toNat+c.toNat)/4294967296≤1:=by omega
 have key:val (M.set v.length ((M[v.length]'(by omega))+c.toUInt32))+4294967296^(v.length+1)*(((M[v.length]'(by omega)).toNat+c.toNat)/4294967296)=val N+val v:=by
  rw[hF,hlast,hNe,Nat.pow_succ]
  have k2:=congrArg (4294967296^v.length* ·) hdm
  simp only[Nat.mul_add] at k2⊢
  simp only[Nat.mul_assoc] at k2⊢
  omega
 generalize val (M.set v.length ((M[v.length]'(by omega))+c.toUInt32))=F at*
 generalize ((M[v.length]'(by omega)).toNat+c.toNat)/4294967296=s at*
 rcases(show s=0∨s=1 by omega) with rfl|rfl
 ·omega
 ·refine⟨by omega,by omega,by omega⟩
theorem DV {A Q V X lo part q part' P:Nat} (hX:X=lo+P*part) (hlo:lo<P) (hA:A=Q*(P*4294967296)*V+X) (hp:part=q*V+part') (hr:part'<V):
 A=(q+4294967296*Q)*P*V+(lo+P*part')∧lo+P*part'<P*V:=by
 constructor
 ·rw[hA,hX,hp,Nat.mul_add P,Nat.add_mul q,Nat.add_mul]
  have e1:4294967296*Q*P*V=Q*(P*4294967296)*V:=by
   rw[Nat.mul_comm 4294967296 Q,Nat.mul_assoc Q,Nat.mul_comm 4294967296 P]
  have e2:q*P*V=P*(q*V):=by rw[Nat.mul_comm q P,Nat.mul_assoc]
  rw[e1,e2];omega
 ·have:P*(part'+1)≤P*V:=Nat.mul_le_mul_left _ hr
  rw[Nat.mul_add] at this
  omega
end Go.Rl
namespace Go.Rl
theorem i6 (l:List UInt32) (i:Nat):val (l.take (i+1))=val (l.take i)+4294967296^i*(l.getD i 0).toNat:=by
 rcases Nat.lt_or_ge i l.length with h|h
 ·rw[cc h];simp[List.getD,List.getElem?_eq_getElem h]
 ·rw[List.take_of_length_le h,List.take_of_length_le (by omega)];simp[List.getD,List.getElem?_eq_none h]
theorem mD (l:List UInt32) {i:Nat} (h:l.length≤i):val (l.take i)=val l:=by rw[List.take_of_length_le h]
def yB (l:List UInt32) (n:Nat):List UInt32:=l++List.replicate (n-l.length) 0
theorem pc {l:List UInt32} {n:Nat} (h:l.length≤n):(yB l n).length=n:=by simp[yB];omega
theorem tM (l:List UInt32) (n:Nat):val (yB l n)=val l:=by simp[yB,eo,rU]
theorem tN {l:List UInt32} {n i:Nat} (h:i<(yB l n).length):(yB l n)[i]=l.getD i 0:=by
 unfold yB at h⊢
 rcases Nat.lt_or_ge i l.length with h1|h1
 ·rw[List.getElem_append_left h1];simp[List.getD,List.getElem?_eq_getElem h1]
 ·rw[List.getElem_append_right h1];simp[List.getD,List.getElem?_eq_none h1]
theorem FX {l m:List UInt32} {n j:Nat} (hl:l.length≤n) (hm:m.length≤n) (hj:j<n) (hd:(yB l n).drop (j+1)=(yB m n).drop (j+1)) (h:(l.getD j 0).toNat<(m.getD j 0).toNat):val l<val m:=by
 rw[←tM l n,←tM m n]
 exact CW (by rw[pc hl];exact hj) (by rw[pc hm];exact hj) hd (by rw[tN,tN];exact h)
theorem FY {l m:List UInt32} {n j:Nat} (hl:l.length≤n) (hm:m.length≤n) (hj:j<n) (hd:(yB l n).drop (j+1)=(yB m n).drop (j+1)) (h:(l.getD j 0).toNat=(m.getD j 0).toNat):(yB l n).drop j=(yB m n).drop j:=by
 have h1:=List.drop_eq_getElem_cons (l:=yB l n) (i:=j) (by rw[pc hl];exact hj)
 have h2:=List.drop_eq_getElem_cons (l:=yB m n) (i:=j) (by rw[pc hm];exact hj)
 rw[h1,h2,hd,tN,tN,mn h]
theorem HR {l m:List UInt32} {n:Nat} (h:yB l n=yB m n):val l=val m:=by rw[←tM l n,←tM m n,h]
theorem xa {a b O:List UInt32} {i:Nat} {c:UInt64} (hO:O.length=i) (hc:c.toNat≤1) (hinv:val O+4294967296^i*c.toNat=val (a.take i)+val (b.take i)):
 val (O++[(c+((a.getD i 0).toUInt64+(b.getD i 0).toUInt64)).toUInt32])+4294967296^(i+1)*((c+((a.getD i 0).toUInt64+(b.getD i 0).toUInt64))>>>UInt64.ofNat 32).toNat=val (a.take (i+1))+val (b.take (i+1))∧
  ((c+((a.getD i 0).toUInt64+(b.getD i 0).toUInt64))>>>UInt64.ofNat 32).toNat≤1:=by
 have ha:=cV (a.getD i 0)
 have hb:=cV (b.getD i 0)
 have hC:(c+((a.getD i 0).toUInt64+(b.getD i 0).toUInt64)).toNat=c.toNat+((a.getD i 0).toNat+(b.getD i 0).toNat):=by rw[pC,pC,fB,fB];omega
 have hhi:((c+((a.getD i 0).toUInt64+(b.getD i 0).toUInt64))>>>UInt64.ofNat 32).toNat=(c.toNat+((a.getD i 0).toNat+(b.getD i 0).toNat))/4294967296:=by rw[tm _ (by omega),hC]
 refine⟨?_,by rw[hhi];omega⟩
 rw[eo,mp,hO,lF,hhi,hC,i6,i6,Nat.pow_succ]
 have key:=Nat.div_add_mod (c.toNat+((a.getD i 0).toNat+(b.getD i 0).toNat)) 4294967296
 have k2:=congrArg (4294967296^i* ·) key
 simp only[Nat.mul_add] at k2 hinv⊢
 simp only[Nat.mul_assoc] at k2⊢
 omega
theorem FZ {O:List UInt32} {i:Nat} {c:UInt64} (hO:O.length=i) (hc:c.toNat≤1):val (O++[c.toUInt32])=val O+4294967296^i*c.toNat:=by
 rw[eo,mp,hO,lF,Nat.mod_eq_of_lt (by omega)]
theorem xb {a b O:List UInt32} {i:Nat} {d:UInt64} (hO:O.length=i) (hd:d.toNat≤1) (hinv:val (a.take i)+4294967296^i*d.toNat=val O+val (b.take i)) {x y:UInt64}
 (h:(x=(a.getD i 0).toUInt64+4294967296∧(a.getD i 0).toNat<(b.getD i 0).toNat+d.toNat∧y=1)∨(x=(a.getD i 0).toUInt64∧(b.getD i 0).toNat+d.toNat≤(a.getD i 0).toNat∧y=0)):
 val (a.take (i+1))+4294967296^(i+1)*y.toNat=val (O++[(x-((b.getD i 0).toUInt64+d)).toUInt32])+val (b.take (i+1))∧y.toNat≤1:=by
 have ha:=cV (a.getD i 0)
 have hb:=cV (b.getD i 0)
 have hy:((b.getD i 0).toUInt64+d).toNat=(b.getD i 0).toNat+d.toNat:=by rw[pC,fB];omega
 have e1:(1:UInt64).toNat=1:=rfl
 have e0:(0:UInt64).toNat=0:=rfl
 have key:(a.getD i 0).toNat+4294967296*y.toNat=(x-((b.getD i 0).toUInt64+d)).toUInt32.toNat+((b.getD i 0).toNat+d.toNat)∧y.toNat≤1:=by
  rcases h with⟨rfl,h,rfl⟩|⟨rfl,h,rfl⟩
  ·have hx:((a.getD i 0).toUInt64+4294967296).toNat=(a.getD i 0).toNat+4294967296:=by
    rw[pC,fB]
    show((a.getD i 0).toNat+4294967296)%18446744073709551616=_
    omega
   rw[lF,qZ,hy,hx,e1]
   omega
  ·rw[lF,qZ,hy,fB,e0]
   omega
 refine⟨?_,key.2⟩
 rw[eo,mp,hO,i6,i6,Nat.pow_succ]
 have k2:=congrArg (4294967296^i* ·) key.1
 simp only[Nat.mul_add] at k2 hinv⊢
 simp only[Nat.mul_assoc] at k2⊢
 omega
theorem DW {a O:List UInt32} {i q s:Nat} {c:UInt64} (hs:s<32) (hi:i<a.length) (hO:O.length=q+i) (hc:c.toNat<2^s) (hinv:val O+4294967296^(q+i)*c.toNat=val (a.take i)*(4294967296^q*2^s)):
 val (O++[(c|||a[i].toUInt64<<<UInt64.ofNat s).toUInt32])+4294967296^(q+(i+1))*((c|||a[i].toUInt64<<<UInt64.ofNat s)>>>UInt64.ofNat 32).toNat=val (a.take (i+1))*(4294967296^q*2^s)∧
  ((c|||a[i].toUInt64<<<UInt64.ofNat s)>>>UInt64.ofNat 32).toNat<2^s:=by
 have ha:=cV a[i]
 have hps:2^s≤2^31:=Nat.pow_le_pow_right (by omega) (by omega)
 have hsh:(a[i].toUInt64<<<UInt64.ofNat s).toNat=2^s*a[i].toNat:=by
  rw[Ai _ (by omega),fB,Nat.mod_eq_of_lt,Nat.mul_comm]
  have:a[i].toNat*2^s≤4294967295*2^31:=Nat.mul_le_mul (by omega) hps
  omega
 have hC:(c|||a[i].toUInt64<<<UInt64.ofNat s).toNat=c.toNat+2^s*a[i].toNat:=by rw[HP,hsh,Kr _ _ _ hc]
 have hhi:((c|||a[i].toUInt64<<<UInt64.ofNat s)>>>UInt64.ofNat 32).toNat=(c.toNat+2^s*a[i].toNat)/4294967296:=by rw[tm _ (by omega),hC]
 refine⟨?_,?_⟩
 ·rw[eo,mp,hO,lF,hhi,hC,cc hi,Nat.add_mul,←hinv,←Nat.add_assoc q i 1,Nat.pow_succ,Nat.pow_add]
  have key:=Nat.div_add_mod (c.toNat+2^s*a[i].toNat) 4294967296
  have k2:=congrArg (4294967296^q*4294967296^i* ·) key
  have e:4294967296^i*a[i].toNat*(4294967296^q*2^s)=4294967296^q*4294967296^i*(2^s*a[i].toNat):=by
   simp only[Nat.mul_comm,Nat.mul_left_comm,Nat.mul_assoc]
  rw[e]
  simp only[Nat.mul_add] at k2⊢
  simp only[Nat.mul_assoc] at k2⊢
  omega
 ·rw[hhi,Nat.div_lt_iff_lt_mul (by omega)]
  have h1:2^s*(a[i].toNat+1)≤2^s*4294967296:=Nat.mul_le_mul_left _ ha
  rw[Nat.mul_add] at h1
  omega
theorem Jw {a:List UInt32} {i:Nat} (hi:i/32<a.length):((a[i/32]>>>UInt32.ofNat (i%32))&&&1).toNat=val a/2^i%2:=by
 have hs:i%32<32:=Nat.mod_lt _ (by omega)
 have e1:((a[i/32]>>>UInt32.ofNat (i%32))&&&1).toNat=a[i/32].toNat/2^(i%32)%2:=by
  rw[UInt32.toNat_and,qY _ hs]
  show _&&&1=_
  rw[Nat.and_one_is_mod]
 have h1:=ek a (i/32) (by omega)
 have h2:=cE (a.take (i/32))
 rw[List.length_take,Nat.min_eq_left (by omega)] at h2
 have h3:(4294967296:Nat)^(i/32)=2^(32*(i/32)):=by rw[Nat.pow_mul]
 rw[h3] at h1 h2
 have h4:val a/2^(32*(i/32))=val (a.drop (i/32)):=by
  rw[h1,Nat.add_mul_div_left _ _ (Nat.pow_pos (by omega)),Nat.div_eq_of_lt h2,Nat.zero_add]
 have h5:val a/2^i=val (a.drop (i/32))/2^(i%32):=by
  rw[←h4,Nat.div_div_eq_div_mul,←Nat.pow_add,Nat.div_add_mod]
 rw[e1,h5,eI hi]
 have hp:2^(i%32)*2^(32-i%32)=4294967296:=by rw[←Nat.pow_add,show i%32+(32-i%32)=32 by omega]
 obtain⟨k,hk⟩:∃k,32-i%32=k+1:=⟨31-i%32,by omega⟩
 rw[←hp,Nat.mul_assoc,Nat.add_mul_div_left _ _ (Nat.pow_pos (by omega)),hk,Nat.pow_succ,Nat.mul_comm (2^k) 2,Nat.mul_assoc,Nat.add_mul_mod_self_left]
theorem Jx {a:List UInt32} {i t:Nat} (hi:i/32<a.length) (hv:val a=2^(i+1)*t):val (a.set (i/32) (a[i/32]|||(1:UInt32)<<<UInt32.ofNat (i%32)))=val a+2^i:=by
 have hs:i%32<32:=Nat.mod_lt _ (by omega)
 have h1:=ek a (i/32) (by omega)
 have h2:=cE (a.take (i/32))
 rw[List.length_take,Nat.min_eq_left (by omega)] at h2
 have h3:(4294967296:Nat)^(i/32)=2^(32*(i/32)):=by rw[Nat.pow_mul]
 have h4:val (a.drop (i/32))=2^(i%32+1)*t:=by
  have e:val a/2^(32*(i/32))=val (a.drop (i/32)):=by
   rw[h3] at h1 h2
   rw[h1,Nat.add_mul_div_left _ _ (Nat.pow_pos (by omega)),Nat.div_eq_of_lt h2,Nat.zero_add]
  rw[←e,hv,show i+1=32*(i/32)+(i%32+1) by omega,Nat.pow_add,Nat.mul_assoc,Nat.mul_div_cancel_left _ (Nat.pow_pos (by omega))]
 have h5:a[i/32].toNat=2^(i%32+1)*(t%2^(31-i%32)):=by
  have e:=eI hi
  rw[h4] at e
  have e2:a[i/32].toNat=2^(i%32+1)*t%4294967296:=by
   rw[e,Nat.add_mul_mod_self_left,Nat.mod_eq_of_lt (cV _)]
  have hp:2^(i%32+1)*2^(31-i%32)=4294967296:=by rw[←Nat.pow_add,show i%32+1+(31-i%32)=32 by omega]
  rw[e2,←hp,Nat.mul_mod_mul_left]
 have h6:((1:UInt32)<<<UInt32.ofNat (i%32)).toNat=2^(i%32):=by
  rw[HO _ hs]
  show 1*2^(i%32)%4294967296=_
  have:2^(i%32)≤2^31:=Nat.pow_le_pow_right (by omega) (by omega)
  rw[Nat.one_mul,Nat.mod_eq_of_lt (by omega)]
 have h7:(a[i/32]|||(1:UInt32)<<<UInt32.ofNat (i%32)).toNat=a[i/32].toNat+2^(i%32):=by
  rw[FN,h6,h5,Nat.or_comm,Kr _ _ _ (Nat.pow_lt_pow_right (by omega) (by omega)),Nat.add_comm]
 have h8:=fu hi (a[i/32]|||(1:UInt32)<<<UInt32.ofNat (i%32))
 have h9:=ek (a.set (i/32) (a[i/32]|||(1:UInt32)<<<UInt32.ofNat (i%32))) (i/32+1) (by simp;omega)
 rw[h8,List.drop_set_of_lt (by omega),h7] at h9
 have h10:=ek a (i/32+1) (by omega)
 rw[cc hi] at h10
 rw[h9,h10,Nat.mul_add]
 have e:4294967296^(i/32)*2^(i%32)=2^i:=by rw[h3,←Nat.pow_add,Nat.div_add_mod]
 rw[e];omega
theorem Bz {N V i:Nat} (hV:0<V):
 N/2^i=2*(N/2^(i+1))+N/2^i%2∧(V≤2*(N/2^(i+1)%V)+N/2^i%2→N/2^i%V=2*(N/2^(i+1)%V)+N/2^i%2-V∧N/2^i/V=2*(N/2^(i+1)/V)+1)∧
  (2*(N/2^(i+1)%V)+N/2^i%2<V→N/2^i%V=2*(N/2^(i+1)%V)+N/2^i%2∧N/2^i/V=2*(N/2^(i+1)/V)):=by
 have e:N/2^(i+1)=N/2^i/2:=by rw[Nat.pow_succ,Nat.div_div_eq_div_mul]
 rw[e]
 generalize N/2^i=M
 have h1:M=2*(M/2)+M%2:=by omega
 have h2:=Nat.div_add_mod (M/2) V
 have h3:=Nat.mod_lt (M/2) hV
 refine⟨h1,fun h=>?_,fun h=>?_⟩
 ·have key:M=V*(2*(M/2/V)+1)+(2*(M/2%V)+M%2-V):=by
   rw[Nat.mul_add,Nat.mul_left_comm];omega
  have hlt:2*(M/2%V)+M%2-V<V:=by omega
  constructor
  ·conv=>lhs;rw[key]
   rw[Nat.mul_add_mod,Nat.mod_eq_of_lt hlt]
  ·conv=>lhs;rw[key]
   rw[Nat.mul_add_div hV,Nat.div_eq_of_lt hlt,Nat.add_zero]
 ·have key:M=V*(2*(M/2/V))+(2*(M/2%V)+M%2):=by
   rw[Nat.mul_left_comm];omega
  constructor
  ·conv=>lhs;rw[key]
   rw[Nat.mul_add_mod,Nat.mod_eq_of_lt h]
  ·conv=>lhs;rw[key]
   rw[Nat.mul_add_div hV,Nat.div_eq_of_lt h,Nat.add_zero]
theorem HS {n:Nat} (h:0<n):bl n=bl (n/2)+1:=by
 rcases(show n=1∨2≤n by omega) with rfl|h1
 ·rfl
 ·have:=nY (n:=n) (s:=1) (by omega)
  rw[Nat.pow_one] at this
  omega
end Go.Rl
namespace Go.Rl
open Go.RowKit Go.Proofs
theorem eO:aJ Tryz.prog 167:=⟨_,Tryz.func167,by kernel_rfl,rfl⟩
theorem Ar:aJ Tryz.prog 186:=⟨_,Tryz.func186,by kernel_rfl,rfl⟩
theorem uB:aJ Tryz.prog 185:=⟨_,Tryz.func185,by kernel_rfl,rfl⟩
theorem eP:aJ Tryz.prog 206:=⟨_,Tryz.func206,by kernel_rfl,rfl⟩
theorem xc:aJ Tryz.prog 190:=⟨_,Tryz.func190,by kernel_rfl,rfl⟩
theorem uC:aJ Tryz.prog 140:=⟨_,Tryz.func140,by kernel_rfl,rfl⟩
theorem DX:aJ Tryz.prog 189:=⟨_,Tryz.func189,by kernel_rfl,rfl⟩
theorem DY:aJ Tryz.prog 191:=⟨_,Tryz.func191,by kernel_rfl,rfl⟩
theorem DZ:aJ Tryz.prog 188:=⟨_,Tryz.func188,by kernel_rfl,rfl⟩
theorem BA:aJ Tryz.prog 187:=⟨_,Tryz.func187,by kernel_rfl,rfl⟩
theorem xe {w:World} {l:List UInt32} {v:Value} (hv:bk l v w) (hl:l.length≤8796093022208):
 Calls Tryz.prog 167 #[v] w (bN fun r w'=>aH w w'∧dV w.heap.size (lb (val l)) r w'):=by
 refine enter (vs:=[v]) Tryz.func167 E E E ?_
 refine af (aa (ac E E (ag (ab (af (aa (ae E E (aV E E (bz LE hv) (ac E E (ag (ab (af ?_))))))))))))
 refine aG ?_
 refine ck (α:=Nat) (fun n=>[(0,v),(3,I (n:Int))]) (fun n w'=>w=w'∧n≤l.length∧val (l.take n)=val l) (fun n=>n) (l.length) ⟨rfl,rfl,trivial⟩ ⟨rfl,Nat.le_refl _,by rw[List.take_length]⟩ ?_
 rintro n _ ⟨rfl,hn,hval⟩
 refine af (af (aa (ae E E (al E E E (bT) (ae E E ?_)))))
 refine ci (fun h8=>?_) (fun h8=>?_)
 ·refine ak E (ae E E (ak E (ae E E (ak E (al (r:=I ((n-1:Nat):Int)) E E E (by have e:((n-1:Nat):Int)=(n:Int)-1:=(by omega);rw[e];exact bD (by omega) (by omega)) ?_)))))
  refine ak E ?_
  obtain⟨a12,p12,q12⟩:=cQ LE hv (i:=(n-1:Nat)) (by omega) .i64
  refine ar E E E (p12 _) (ak E (aj E E (ai Ll E q12) (ak E (al (v:=bE 0) E E E (oZ) (aq E E E ?_)))))
  refine ag (ab ?_)
  refine bu E (fun h15=>?_) (fun h15=>?_)
  ·refine aC (ab (aG (aa (ae E E (al (r:=I ((n-1:Nat):Int)) E E E (by have e:((n-1:Nat):Int)=(n:Int)-1:=(by omega);rw[e];exact bD (by omega) (by omega)) ?_)))))
   refine ac E E (ag (aW ?_))
   refine bS (n-1) ⟨rfl,rfl,trivial⟩ ⟨rfl,by omega,by rw[rX (by omega) hn h15];exact hval⟩ (by omega)
  ·refine bc (aK (aK (bf (ab (af (aa ?_))))))
   obtain⟨v18,w18,hr18,x18,o18,ob18⟩:=jd Tryz.underlying44 (w:=w) w.heap.size [] (by simp) (Nat.le_refl _)
   refine aF (vs:=[]) E E hr18 (ae E E (ae E E ?_))
   obtain⟨v21,p21,b21⟩:=uh LE (hv.ext x18) (hi:=n) hn .i64
   refine dm E E E E E (p21 _) ?_
   obtain⟨v22,w22,hr22,o22,g22⟩:=CX Tryz.underlying44 Tryz.underlying43 (ty:=44) o18 b21 (by simp;omega) (x18).size
   have x22:=aH.of_grew (x18) g22 o18.ge
   refine aT E E hr22 (ac E E (ag (ab (aw (au E E ?_)))))
   exact⟨_,rfl,x22,by
    have e:lb (val l)=l.take n:=by
     first
     |rw[←hval,lE (by omega) hn h15]
     |(have h0:n=0:=by omega
       subst h0
       rw[←hval];rfl)
    rw[e];simpa using o22⟩
 ·refine am E E E (am E E E (am E E E (am E E E (am E E E (am E E E (aI E E E (ag (ab (cN E (bc (aK (aK ?_))))))))))))
  refine bf (ab (af (aa ?_)))
  obtain⟨v18,w18,hr18,x18,o18,ob18⟩:=jd Tryz.underlying44 (w:=w) w.heap.size [] (by simp) (Nat.le_refl _)
  refine aF (vs:=[]) E E hr18 (ae E E (ae E E ?_))
  obtain⟨v21,p21,b21⟩:=uh LE (hv.ext x18) (hi:=n) hn .i64
  refine dm E E E E E (p21 _) ?_
  obtain⟨v22,w22,hr22,o22,g22⟩:=CX Tryz.underlying44 Tryz.underlying43 (ty:=44) o18 b21 (by simp;omega) (x18).size
  have x22:=aH.of_grew (x18) g22 o18.ge
  refine aT E E hr22 (ac E E (ag (ab (aw (au E E ?_)))))
  exact⟨_,rfl,x22,by
   have e:lb (val l)=l.take n:=by
    first
    |rw[←hval,lE (by omega) hn h15]
    |(have h0:n=0:=by omega
      subst h0
      rw[←hval];rfl)
   rw[e];simpa using o22⟩
theorem fv {w:World} {l:List UInt32} {v:Value} (hv:bk l v w) (hl:l.length≤8796093022208):
 Calls Tryz.prog 167 #[v] w (bN fun r w'=>aH w w'∧bk (lb (val l)) r w'):=
 (xe hv hl).mono fun _ _ ⟨r,he,h1,h2⟩=>⟨r,he,h1,h2.wds⟩
theorem As {w:World} {x:UInt64}:
 Calls Tryz.prog 186 #[bW x] w (bN fun r w'=>aH w w'∧bk (lb x.toNat) r w'):=by
 refine enter (vs:=[bW x]) Tryz.func186 E E E ?_
 refine af (aa (ac E E (ag (ab (af (aa (ae E E (bb E E (cH Lp Ll) (ae E E ?_)))))))))
 refine al E E E (dk 32 (by omega)) (bb E E (cH Lp Ll) ?_)
 obtain⟨v8,w8,hr8,x8,o8,ob8⟩:=jd Tryz.underlying43 (w:=w) w.heap.size [x.toUInt32,(x>>>UInt64.ofNat 32).toUInt32] (by simp) (Nat.le_refl _)
 refine aF (vs:=[(0,bE (x.toUInt32)),(1,bE ((x>>>UInt64.ofNat 32).toUInt32))]) E E hr8 (an eO E E (fv o8.wds (by simp)) ?_)
 rintro v9 w9 ⟨x9,b9⟩
 refine ac E E (ag (ab (aw (au E E ?_))))
 exact⟨_,rfl,(x8.trans x9),by
  have e:val [x.toUInt32,(x>>>UInt64.ofNat 32).toUInt32]=x.toNat:=by
   have h1:=lF x
   have h2:((x>>>UInt64.ofNat 32).toUInt32).toNat=x.toNat/4294967296:=by
    have:=Bv x
    rw[lF,wW]
    omega
   simp only[val,h1,h2];omega
  rw[e] at b9;exact b9⟩
theorem eQ {w:World} {l:List UInt32} {v:Value} {i:Nat} (hv:bk l v w):
 Calls Tryz.prog 206 #[v,I (i:Int)] w (bN fun r w'=>w=w'∧r=bE (l.getD i 0)):=by
 refine enter (vs:=[v,I (i:Int)]) Tryz.func206 E E E ?_
 refine af (aa (ac E E (ag (ab (af (af (aa (ae E E (ae E E (aV E E (bz Lj hv) (al E E E (a6) ?_)))))))))))
 refine ag (ab ?_)
 refine bu E (fun h8=>?_) (fun h8=>?_)
 ·refine af (aa (ae E E (ae E E ?_)))
  obtain⟨a11,p11,q11⟩:=cQ Lj hv (i:=i) (by omega) .i64
  refine ar E E E (p11 _) (aj E E (ai Ll E q11) (ac E E (ag (ab (aw (az (au E E ?_)))))))
  exact⟨_,rfl,rfl,by simp[List.getD,List.getElem?_eq_getElem (show i<l.length by omega)]⟩
 ·refine aC (ab (af (aa (ac E E (ag (ab (aw (au E E ?_))))))))
  exact⟨_,rfl,rfl,by simp[List.getD,List.getElem?_eq_none (show l.length≤i by omega)];rfl⟩
theorem xf {w:World} {l m:List UInt32} {v u:Value} (hv:bk l v w) (hu:bk m u w):
 Calls Tryz.prog 190 #[v,u] w (bN fun r w'=>w=w'∧r=I (rV (val l) (val m))):=by
 refine enter (vs:=[v,u]) Tryz.func190 E E E ?_
 have hll:=hv.len
 have hml:=hu.len
 obtain⟨n,hn⟩:∃n,n=max l.length m.length:=⟨_,rfl⟩
 have hln:l.length≤n:=by omega
 have hmn:m.length≤n:=by omega
 refine af (aa (ac E E (ag (ab (af (af (aa (ae E E (aV E E (bz Lj hv) (ae E E (aV E E (bz Lj hu) ?_)))))))))))
 refine KB (r:=I ((n:Nat):Int)) (vs:=[I (l.length:Int),I (m.length:Int)]) E E (by rw[hn];exact HN) ?_
 refine al E E E (bD (by omega) (by omega)) (ac E E (ag (ab (aG ?_))))
 refine ck (α:=Nat) (fun k=>[(0,v),(1,u),(5,I ((k:Int)-1))]) (fun k w'=>w=w'∧k≤n∧(yB l n).drop k=(yB m n).drop k) (fun k=>k) (n) ⟨rfl,rfl,rfl,trivial⟩ ⟨rfl,Nat.le_refl _,by rw[List.drop_of_length_le (by rw[pc hln];exact Nat.le_refl _),List.drop_of_length_le (by rw[pc hmn];exact Nat.le_refl _)]⟩ ?_
 rintro k _ ⟨rfl,hk,hd⟩
 refine af (af (aa (ae E E (al E E E (gL) (ag (ab ?_))))))
 refine bu E (fun h13=>?_) (fun h13=>?_)
 ·obtain⟨j,rfl⟩:∃j,k=j+1:=⟨k-1,by omega⟩
  have e:((j+1:Nat):Int)-1=(j:Int):=by omega
  rw[e]
  refine aC (ab (af (aG (af (af (aa (ae E E (ae E E (an eP E E (eQ hv) ?_)))))))))
  rintro v18 _ ⟨rfl,rfl⟩
  refine ae E E (ae E E (an eP E E (eQ hu) ?_))
  rintro v21 _ ⟨rfl,rfl⟩
  refine al E E E (wu) (ag (ab ?_))
  refine bu E (fun h22=>?_) (fun h22=>?_)
  ·refine af (aa (ac E E (ag (ab (aw (az (ba (az (az (ba (az (au E E ?_))))))))))))
   exact⟨_,rfl,rfl,congrArg I (yz (FX hln hmn (by omega) hd (Ak.1 h22))).symm⟩
  ·refine aC (ab (af (aa (ae E E (ae E E (an eP E E (eQ hv) ?_))))))
   rintro v25 _ ⟨rfl,rfl⟩
   refine ae E E (ae E E (an eP E E (eQ hu) ?_))
   rintro v28 _ ⟨rfl,rfl⟩
   refine al E E E (wv) (ag (ab ?_))
   refine bu E (fun h29=>?_) (fun h29=>?_)
   ·refine af (aa (ac E E (ag (ab (aw (ba (az (az (ba (az (au E E ?_)))))))))))
    exact⟨_,rfl,rfl,congrArg I (yA (FX hmn hln (by omega) hd.symm (Ak.1 h29))).symm⟩
   ·refine aC (aW (ab (aa (ae E E (al E E E (bD (by omega) (by omega)) (ac E E (ag ?_)))))))
    refine bS j ⟨rfl,rfl,rfl,trivial⟩ ⟨rfl,by omega,FY hln hmn (by omega) hd (by
     have a:=mt Ak.2 h22
     have b:=mt (Ak (a:=m.getD j 0) (b:=l.getD j 0)).2 h29
     omega)⟩ (by omega)
 ·refine bc (aK (aK (bf (ab (af (aa (ac E E (ag (ab (aw (au E E ?_)))))))))))
  exact⟨_,rfl,rfl,by
   obtain rfl:k=0:=by omega
   rw[List.drop_zero,List.drop_zero] at hd
   rw[HR hd,CZ];rfl⟩
theorem uD {w:World} {l m:List UInt32} {v u:Value} (hv:bk l v w) (hu:bk m u w):
 Calls Tryz.prog 140 #[v,u] w (bN fun r w'=>aH w w'∧r=B (decide (l=m))):=by
 refine enter (vs:=[v,u]) Tryz.func140 E E E ?_
 have hll:=hv.len
 refine af (aa (ac E E (ag (ab (af (af (aa (ae E E (aV E E (bz Lj hv) (ae E E (aV E E (bz Lj hu) ?_)))))))))))
 refine al E E E (dn) (ag (ab ?_))
 refine bu E (fun h10=>?_) (fun h10=>?_)
 ·refine af (aa (ac E E (ag (ab (aw (az (au E E ?_)))))))
  exact⟨_,rfl,aH.refl _,congrArg B (decide_eq_false fun h=>by subst h;exact h10 rfl).symm⟩
 ·have hlen:l.length=m.length:=by omega
  refine aC (ab (af (af (aa (ac E E (ag (ab (aG ?_))))))))
  refine ck (α:=Nat) (fun i=>[(0,v),(1,u),(5,I (i:Int))]) (fun i w'=>aH w w'∧i≤l.length∧l.take i=m.take i) (fun i=>l.length-i) (0) ⟨rfl,rfl,rfl,trivial⟩ ⟨aH.refl _,by omega,rfl⟩ ?_
  rintro i w4 ⟨e4,hi,ht⟩
  refine af (af (aa (ae E E (ae E E (aV E E (bz Lj (hv.ext e4)) (al E E E (a6) (ag (ab ?_))))))))
  refine bu E (fun h14=>?_) (fun h14=>?_)
  ·refine aC (ab (af (aG (af (bP 8 [0,1,5,20,24] (by kernel_rfl) (by kernel_rfl) ?_)))))
   refine ax E E (ax E E ?_)
   obtain⟨a19,p19,q19⟩:=cQ Lj (hv.ext e4) (i:=i) (by omega) .i64
   refine aD E E E (fun w _=>p19 w) (aQ E E (fun w hw=>ai Ll E (hw.cell_some q19)) (ax E E (ax E E ?_)))
   obtain⟨a23,p23,q23⟩:=cQ Lj (hu.ext e4) (i:=i) (by omega) .i64
   refine aD E E E (fun w _=>p23 w) (aQ E E (fun w hw=>ai Ll E (hw.cell_some q23)) (cn ?_))
   intro wg6 xg6
   rintro _ hq0
   obtain rfl:=Eq.symm hq0
   rintro _ hq1
   obtain rfl:=Eq.symm hq1
   rintro _ rfl
   rintro _ rfl
   rintro _ rfl
   refine al E E E (lw) (ag (ab ?_))
   refine bu E (fun h25=>?_) (fun h25=>?_)
   ·have hne:l≠m:=fun h=>by subst h;exact h25 rfl
    refine af (aa (ac E E (ag (ab (aw (ba (az (az (ba (az (au E E ?_)))))))))))
    exact⟨_,rfl,(e4.trans xg6),congrArg B (decide_eq_false hne).symm⟩
   ·refine aC (aW (ab (aa (ae E E (al (r:=I ((i+1:Nat):Int)) E E E (by have e:((i+1:Nat):Int)=(i:Int)+1:=(by omega);rw[e];exact aR (by omega) (by omega)) ?_)))))
    refine ac E E (ag ?_)
    refine bS (i+1) ⟨rfl,rfl,rfl,trivial⟩ ⟨(e4.trans xg6),by omega,by rw[List.take_succ_eq_append_getElem (show i<l.length by omega),List.take_succ_eq_append_getElem (show i<m.length by omega),ht,show l[i]=m[i] from Classical.byContradiction fun h=>h25 h]⟩ (by omega)
  ·refine bc (aK (aK (bf (ab (af (aa (ac E E (ag (ab (aw (au E E ?_)))))))))))
   exact⟨_,rfl,e4,congrArg B (decide_eq_true (by
    rw[List.take_of_length_le (by omega),List.take_of_length_le (by omega)] at ht
    exact ht)).symm⟩
theorem uE {w:World} {l:List UInt32} {v:Value} (hv:bk l v w) (hl:l.length≤8796093022208):
 Calls Tryz.prog 185 #[v] w (bN fun r w'=>aH w w'∧((18446744073709551616≤val l∧r=.tuple #[bW 0,B false])∨∃x:UInt64,x.toNat=val l∧r=.tuple #[bW x,B true])):=by
 refine enter (vs:=[v]) Tryz.func185 E E E ?_
 refine af (aa (ac E E (ac E E (ag (ab (af (aa (ae E E (an eO E E (fv hv hl) ?_)))))))))
 rintro v5 w5 ⟨x5,b5⟩
 refine ac E E (ag (ab (af (af ?_))))
 obtain⟨t,ht⟩:∃t,t=lb (val l):=⟨_,rfl⟩
 have hval:val t=val l:=by rw[ht,bV]
 have h64:t.length≤2∨18446744073709551616≤val l:=by
  rcases Nat.lt_or_ge (val l) 18446744073709551616 with h|h
  ·exact .inl (by rw[ht];exact ig (n:=val l) (k:=2) h)
  ·exact .inr h
 rw[←ht] at b5
 refine aa (ae E E (aV E E (bz Lj b5) (ag (ab (aG (af (aa (al E E E (bo) (ac E E ?_)))))))))
 refine ag (ab ?_)
 refine bu E (fun h8=>?_) (fun h8=>?_)
 ·refine af (aa (ac E E (ac E E (ag (ab (aw (ba (az (bt E E E ?_)))))))))
  exact⟨_,rfl,x5,.inr ⟨0,by
   have:t=[]:=List.eq_nil_of_length_eq_zero (by omega)
   rw[←hval,this];rfl,rfl⟩⟩
 ·refine af (aa (al E E E (bo) (ac E E (ag (ab ?_)))))
  refine bu E (fun h10=>?_) (fun h10=>?_)
  ·refine af (aa (ae E E ?_))
   obtain⟨a13,p13,q13⟩:=cQ Lj b5 (i:=0) (by omega) .i64
   refine ar E E E (p13 _) (aj E E (ai Ll E q13) (bb E E (bU Ll Lp) ?_))
   refine ac E E (ac E E (ag (ab (aw (ba (az (bt E E E ?_)))))))
   exact⟨_,rfl,x5,.inr ⟨_,by
    obtain⟨x,rfl⟩:=List.length_eq_one_iff.1 (show t.length=1 by omega)
    rw[fB,←hval];simp[val],rfl⟩⟩
  ·refine af (aa (al E E E (bo) (ac E E (ag (ab ?_)))))
   refine bu E (fun h16=>?_) (fun h16=>?_)
   ·refine af (bP 11 [2] (by kernel_rfl) (by kernel_rfl) ?_)
    refine ax E E ?_
    obtain⟨a19,p19,q19⟩:=cQ Lj b5 (i:=0) (by omega) .i64
    refine aD E E E (fun w _=>p19 w) (aQ E E (fun w hw=>ai Ll E (hw.cell_some q19)) (dU E E (fun w _=>bU Ll Lp) ?_))
    refine ax E E ?_
    obtain⟨a23,p23,q23⟩:=cQ Lj b5 (i:=1) (by omega) .i64
    refine aD E E E (fun w _=>p23 w) (aQ E E (fun w hw=>ai Ll E (hw.cell_some q23)) (dU E E (fun w _=>bU Ll Lp) ?_))
    refine aZ (v:=bW 32) E E E (fun w _=>fG 32 (by omega)) (aZ E E E (fun w _=>jc) (fS E E (cn ?_)))
    intro wg8 xg8
    rintro _ rfl
    refine ac E E (ag (ab (aw (ba (az (bt E E E ?_))))))
    exact⟨_,rfl,(x5.trans xg8),.inr ⟨_,by
     have e1:=eI (l:=t) (i:=0) (by omega)
     have e2:=eI (l:=t) (i:=1) (by omega)
     simp only[Nat.zero_add,Nat.reduceAdd,List.drop_zero] at e1 e2
     rw[List.drop_of_length_le (show t.length≤2 by omega)] at e2
     rw[I3 (fB _) (cV _),←hval,e1,e2]
     simp[val],rfl⟩⟩
   ·refine aC (aW (ab (af (aa (ac E E (ac E E (ag (ab (aw (bt E E E ?_))))))))))
    exact⟨_,rfl,x5,.inl ⟨by omega,rfl⟩⟩
theorem D0 {w:World} {l m:List UInt32} {v u:Value} (hv:bk l v w) (hu:bk m u w) (hl:l.length≤1099511627776) (hm:m.length≤1099511627776):
 Calls Tryz.prog 189 #[v,u] w (bN fun r w'=>aH w w'∧bk (lb (val l+val m)) r w'):=by
 refine enter (vs:=[v,u]) Tryz.func189 E E E ?_
 refine af (aa (ac E E (ag (ab (af (aa (ac E E (ag (ab (af (aa (ac E E (ag (ab (af (af (aa (ac E E ?_))))))))))))))))))
 refine ag (ab (aG ?_))
 refine mj (fun(i:Nat) (vo:Value) (O:List UInt32) (c:UInt64)=>[(0,v),(1,u),(5,vo),(6,bW c),(7,I (i:Int))]) (fun(i:Nat) (vo:Value) (O:List UInt32) (c:UInt64) w'=>aH w w'∧dV w.heap.size O vo w'∧O.length=i∧i≤max l.length m.length∧c.toNat≤1∧val O+4294967296^i*c.toNat=val (l.take i)+val (m.take i)) (fun(i:Nat) (vo:Value) (O:List UInt32) (c:UInt64)=>max l.length m.length-i) (0) (.slice none 0 0) ([]) (0) ⟨rfl,rfl,rfl,rfl,rfl,trivial⟩ ⟨aH.refl _,dV.nil _ _,rfl,by simp,by simp,by simp[val]⟩ ?_
 rintro i vo O c w4 ⟨e4,oO,hO,hi,hc,hinv⟩
 refine af (af (aa (ae E E (ae E E (aV E E (bz Lj (hv.ext e4)) (al E E E (a6) (ae E E ?_)))))))
 refine ci (fun h12=>?_) (fun h12=>?_)
 ·refine am E E E (am E E E (am E E E (am E E E (aq E E E (ag (ab (bm E (aC (ab (af (aG (af ?_))))))))))))
  have hlt:i<max l.length m.length:=by
   first
   |(have:=h12;omega)
   |(have:=h17;omega)
  have st:=xa (a:=l) (b:=m) hO hc hinv
  refine aa (ae E E (ae E E (ae E E (an eP E E (eQ (hv.ext e4)) ?_))))
  rintro v23 _ ⟨rfl,rfl⟩
  refine bb E E (bU Ll Lp) (ae E E (ae E E (an eP E E (eQ (hu.ext e4)) ?_)))
  rintro v27 _ ⟨rfl,rfl⟩
  refine bb E E (bU Ll Lp) (al E E E (dQ) (al E E E (dQ) (ac E E ?_)))
  refine ag (ab (af (aa (ae E E (ae E E (bb E E (cH Lp Ll) ?_))))))
  obtain⟨v34,w34,hr34,x34,o34,ob34⟩:=jd Tryz.underlying43 (w:=w4) w4.heap.size [((((c)+(((((l.getD i 0)).toUInt64)+(((m.getD i 0)).toUInt64))))).toUInt32)] (by simp) (Nat.le_refl _)
  refine aF (vs:=[(0,bE (((((c)+(((((l.getD i 0)).toUInt64)+(((m.getD i 0)).toUInt64))))).toUInt32)))]) E E hr34 ?_
  obtain⟨v35,w35,hr35,o35,g35⟩:=kV Tryz.underlying43 (ty:=43) (oO.ext x34) o34.wds (by simp;omega) ((e4.trans x34)).size
  have x35:=aH.of_grew ((e4.trans x34)) g35 (oO.ext x34).ge
  refine aT E E hr35 (ac E E (ag (ab (aa (ae E E (al E E E (dk 32 (by omega)) (ac E E (ag (aW (ab (aa ?_)))))))))))
  refine ae E E (al (r:=I ((i+1:Nat):Int)) E E E (by have e:((i+1:Nat):Int)=(i:Int)+1:=(by omega);rw[e];exact aR (by omega) (by omega)) ?_)
  refine ac E E (ag ?_)
  refine gF (i+1) (_) (_) (_) ⟨rfl,rfl,rfl,rfl,rfl,trivial⟩ ⟨x35,o35,by simp[hO],by omega,st.2,st.1⟩ (by omega)
 ·refine ak E (ae E E (ak E (ae E E (ak E (aV E E (bz Lj (hu.ext e4)) (ak E (al E E E (a6) ?_)))))))
  refine aI E E E (ag (ab ?_))
  refine bu E (fun h17=>?_) (fun h17=>?_)
  ·refine aC (ab (af (aG (af ?_))))
   have hlt:i<max l.length m.length:=by
    first
    |(have:=h12;omega)
    |(have:=h17;omega)
   have st:=xa (a:=l) (b:=m) hO hc hinv
   refine aa (ae E E (ae E E (ae E E (an eP E E (eQ (hv.ext e4)) ?_))))
   rintro v23 _ ⟨rfl,rfl⟩
   refine bb E E (bU Ll Lp) (ae E E (ae E E (an eP E E (eQ (hu.ext e4)) ?_)))
   rintro v27 _ ⟨rfl,rfl⟩
   refine bb E E (bU Ll Lp) (al E E E (dQ) (al E E E (dQ) (ac E E ?_)))
   refine ag (ab (af (aa (ae E E (ae E E (bb E E (cH Lp Ll) ?_))))))
   obtain⟨v34,w34,hr34,x34,o34,ob34⟩:=jd Tryz.underlying43 (w:=w4) w4.heap.size [((((c)+(((((l.getD i 0)).toUInt64)+(((m.getD i 0)).toUInt64))))).toUInt32)] (by simp) (Nat.le_refl _)
   refine aF (vs:=[(0,bE (((((c)+(((((l.getD i 0)).toUInt64)+(((m.getD i 0)).toUInt64))))).toUInt32)))]) E E hr34 ?_
   obtain⟨v35,w35,hr35,o35,g35⟩:=kV Tryz.underlying43 (ty:=43) (oO.ext x34) o34.wds (by simp;omega) ((e4.trans x34)).size
   have x35:=aH.of_grew ((e4.trans x34)) g35 (oO.ext x34).ge
   refine aT E E hr35 (ac E E (ag (ab (aa (ae E E (al E E E (dk 32 (by omega)) (ac E E (ag (aW (ab (aa ?_)))))))))))
   refine ae E E (al (r:=I ((i+1:Nat):Int)) E E E (by have e:((i+1:Nat):Int)=(i:Int)+1:=(by omega);rw[e];exact aR (by omega) (by omega)) ?_)
   refine ac E E (ag ?_)
   refine gF (i+1) (_) (_) (_) ⟨rfl,rfl,rfl,rfl,rfl,trivial⟩ ⟨x35,o35,by simp[hO],by omega,st.2,st.1⟩ (by omega)
  ·refine bc (aK (aK (bf (ab (af ?_)))))
   have hge:max l.length m.length≤i:=by
    first
    |(have:=h17;omega)
   rw[mD _ (by omega),mD _ (by omega)] at hinv
   refine aa (ae E E (ae E E (bb E E (cH Lp Ll) ?_)))
   obtain⟨v41,w41,hr41,x41,o41,ob41⟩:=jd Tryz.underlying43 (w:=w4) w4.heap.size [((c).toUInt32)] (by simp) (Nat.le_refl _)
   refine aF (vs:=[(0,bE (((c).toUInt32)))]) E E hr41 ?_
   obtain⟨v42,w42,hr42,o42,g42⟩:=kV Tryz.underlying43 (ty:=43) (oO.ext x41) o41.wds (by simp;omega) ((e4.trans x41)).size
   have x42:=aH.of_grew ((e4.trans x41)) g42 (oO.ext x41).ge
   refine aT E E hr42 (an eO E E (fv o42.wds (by simp;omega)) ?_)
   rintro v43 w43 ⟨x43,b43⟩
   refine ac E E (ag (ab (aw (au E E ?_))))
   exact⟨_,rfl,(x42.trans x43),by rw[←hinv,←FZ hO hc];exact b43⟩
theorem D1 {w:World} {l m:List UInt32} {v u:Value} (hv:bk l v w) (hu:bk m u w) (hl:l.length≤1099511627776) (hle:val m≤val l):
 Calls Tryz.prog 191 #[v,u] w (bN fun r w'=>aH w w'∧∃d,r=.tuple #[d,I 0]∧dV w.heap.size (lb (val l-val m)) d w'):=by
 refine enter (vs:=[v,u]) Tryz.func191 E E E ?_
 refine af (aa (ac E E (ac E E (ag (ab (af (af (aa (ae E E (ae E E (an xc E E (xf hv hu) ?_)))))))))))
 rintro v13 _ ⟨rfl,rfl⟩
 refine al E E E (d7 (fun h=>by have:=nZ.1 h;omega) a6) (ag (ab (cN E (aC (ab (af (aa (ac E E (ag (ab (af ?_)))))))))))
 refine aa (ac E E (ag (ab (af (af (aa (ac E E (ag (ab (aG ?_))))))))))
 refine mj (fun(i:Nat) (vo:Value) (O:List UInt32) (d:UInt64)=>[(0,v),(1,u),(6,vo),(7,bW d),(8,I (i:Int))]) (fun(i:Nat) (vo:Value) (O:List UInt32) (d:UInt64) w'=>aH w w'∧dV w.heap.size O vo w'∧O.length=i∧i≤l.length∧d.toNat≤1∧val (l.take i)+4294967296^i*d.toNat=val O+val (m.take i)) (fun(i:Nat) (vo:Value) (O:List UInt32) (d:UInt64)=>l.length-i) (0) (.slice none 0 0) ([]) (0) ⟨rfl,rfl,rfl,rfl,rfl,trivial⟩ ⟨aH.refl _,dV.nil _ _,rfl,by simp,by simp,by simp[val]⟩ ?_
 rintro i vo O d w6 ⟨e6,oO,hO,hi,hd,hinv⟩
 refine af (af (aa (ae E E (ae E E (aV E E (bz Lj (hv.ext e6)) (al E E E (a6) (ag (ab ?_))))))))
 refine bu E (fun h18=>?_) (fun h18=>?_)
 ·refine aC (ab (af (aG (af ?_))))
  have hlt:i<l.length:=by omega
  have hxa:=fB (l.getD i 0)
  have hyb:((m.getD i 0).toUInt64+d).toNat=(m.getD i 0).toNat+d.toNat:=by
   have:=cV (m.getD i 0)
   rw[pC,fB];omega
  refine aa (ae E E (ae E E (an eP E E (eQ (hv.ext e6)) ?_)))
  rintro v23 _ ⟨rfl,rfl⟩
  refine bb E E (bU Ll Lp) (ae E E (ae E E (an eP E E (eQ (hu.ext e6)) ?_)))
  rintro v27 _ ⟨rfl,rfl⟩
  refine bb E E (bU Ll Lp) (ae E E (al E E E (dQ) (ac E E (ac E E ?_))))
  refine ag (ab (af (aa (ac E E (ag (ab (af (af (aa (ae E E (ae E E (al E E E (DE) (ag (ab ?_))))))))))))))
  refine bu E (fun h33=>?_) (fun h33=>?_)
  ·have hlt2:(l.getD i 0).toNat<(m.getD i 0).toNat+d.toNat:=by
    have:=UInt64.lt_iff_toNat_lt.1 h33
    rwa [hxa,hyb] at this
   have st:=xb (a:=l) (b:=m) hO hd hinv (.inl ⟨rfl,hlt2,rfl⟩)
   refine af (aa (ae E E (al (v:=bW 4294967296) E E E (dQ) (ac E E (ag (ab (aa (ac E E (ag (ab (aa (ae E E ?_))))))))))))
   refine ae E E (ae E E (al E E E (dR) (bb E E (cH Lp Ll) ?_)))
   obtain⟨v41,w41,hr41,x41,o41,ob41⟩:=jd Tryz.underlying43 (w:=w6) w6.heap.size [((((((((l.getD i 0)).toUInt64)+(4294967296)))-(((((m.getD i 0)).toUInt64)+(d))))).toUInt32)] (by simp) (Nat.le_refl _)
   refine aF (vs:=[(0,bE (((((((((l.getD i 0)).toUInt64)+(4294967296)))-(((((m.getD i 0)).toUInt64)+(d))))).toUInt32)))]) E E hr41 ?_
   obtain⟨v42,w42,hr42,o42,g42⟩:=kV Tryz.underlying43 (ty:=43) (oO.ext x41) o41.wds (by simp;omega) ((e6.trans x41)).size
   have x42:=aH.of_grew ((e6.trans x41)) g42 (oO.ext x41).ge
   refine aT E E hr42 (ac E E (ag (aW (ab (aa (ae E E (al (r:=I ((i+1:Nat):Int)) E E E (by have e:((i+1:Nat):Int)=(i:Int)+1:=(by omega);rw[e];exact aR (by omega) (by omega)) ?_)))))))
   refine ac E E (ag ?_)
   refine gF (i+1) (_) (_) (_) ⟨rfl,rfl,rfl,rfl,rfl,trivial⟩ ⟨x42,o42,by simp[hO],by omega,st.2,st.1⟩ (by omega)
  ·have hge2:(m.getD i 0).toNat+d.toNat≤(l.getD i 0).toNat:=by
    have:=mt UInt64.lt_iff_toNat_lt.2 h33
    rw[hxa,hyb] at this
    omega
   have st:=xb (a:=l) (b:=m) hO hd hinv (.inr ⟨rfl,hge2,rfl⟩)
   refine aC (ab (aa (ae E E (ae E E (ae E E (al E E E (dR) (bb E E (cH Lp Ll) ?_)))))))
   obtain⟨v41,w41,hr41,x41,o41,ob41⟩:=jd Tryz.underlying43 (w:=w6) w6.heap.size [((((((l.getD i 0)).toUInt64)-(((((m.getD i 0)).toUInt64)+(d))))).toUInt32)] (by simp) (Nat.le_refl _)
   refine aF (vs:=[(0,bE (((((((l.getD i 0)).toUInt64)-(((((m.getD i 0)).toUInt64)+(d))))).toUInt32)))]) E E hr41 ?_
   obtain⟨v42,w42,hr42,o42,g42⟩:=kV Tryz.underlying43 (ty:=43) (oO.ext x41) o41.wds (by simp;omega) ((e6.trans x41)).size
   have x42:=aH.of_grew ((e6.trans x41)) g42 (oO.ext x41).ge
   refine aT E E hr42 (ac E E (ag (aW (ab (aa (ae E E (al (r:=I ((i+1:Nat):Int)) E E E (by have e:((i+1:Nat):Int)=(i:Int)+1:=(by omega);rw[e];exact aR (by omega) (by omega)) ?_)))))))
   refine ac E E (ag ?_)
   refine gF (i+1) (_) (_) (_) ⟨rfl,rfl,rfl,rfl,rfl,trivial⟩ ⟨x42,o42,by simp[hO],by omega,st.2,st.1⟩ (by omega)
 ·refine bc (aK (aK (bf (ab (af ?_)))))
  have hil:i=l.length:=by omega
  have hOl:=cE O
  rw[hO,hil] at hOl
  have hml:val (m.take i)=val m∧d.toNat=0:=by
   have h1:=ek m (min i m.length) (by omega)
   have h2:m.take (min i m.length)=m.take i:=by
    rcases Nat.le_total i m.length with h|h
    ·rw[Nat.min_eq_left h]
    ·rw[Nat.min_eq_right h,List.take_of_length_le (Nat.le_refl _),List.take_of_length_le h]
   rw[h2] at h1
   have hll:=cE l
   rw[hil,List.take_length] at hinv
   have hz:val (m.drop (min i m.length))=0:=by
    rcases Nat.le_total i m.length with h|h
    ·rw[Nat.min_eq_left h] at h1⊢
     rcases Nat.eq_zero_or_pos (val (m.drop i)) with h0|h0
     ·exact h0
     ·have:4294967296^i*1≤4294967296^i*val (m.drop i):=Nat.mul_le_mul_left _ h0
      rw[hil] at this h1
      omega
    ·rw[Nat.min_eq_right h,List.drop_of_length_le (Nat.le_refl _)];rfl
   rw[hz,Nat.mul_zero,Nat.add_zero] at h1
   refine⟨h1.symm,?_⟩
   rcases(show d.toNat=0∨d.toNat=1 by omega) with h|h
   ·exact h
   ·rw[hil] at h1
    rw[h,Nat.mul_one,←h1] at hinv
    omega
  have hres:val l-val m=val O:=by
   rw[hml.1,hml.2,hil,List.take_length] at hinv
   omega
  refine aa (ae E E (an eO E E (xe oO.wds (by omega)) ?_))
  rintro v44 w44 ⟨x44,b44⟩
  refine ac E E (ac E E (ag (ab (aw (bt E E E ?_)))))
  exact⟨_,rfl,(e6.trans x44),_,rfl,by rw[hres];exact b44.low e6.size⟩
theorem D3 {w:World} {l:List UInt32} {v:Value} {k:Nat} (hv:bk l v w) (hl:l.length≤1099511627776) (hk:k≤1099511627776):
 Calls Tryz.prog 188 #[v,I (k:Int)] w (bN fun r w'=>aH w w'∧bk (lb (val l*2^k)) r w'):=by
 refine enter (vs:=[v,I (k:Int)]) Tryz.func188 E E E ?_
 refine af (aa (ac E E (ag (ab (af (aa (ae E E (al (r:=I ((k/32:Nat):Int)) E E E (by have e:((k/32:Nat):Int)=(k:Int)/32:=(by omega);rw[e];exact qL (by omega) (by omega) (by omega)) ?_))))))))
 obtain⟨v10,w10,hr10,x10,o10,ob10⟩:=wU LE (w:=w) w.heap.size (n:=k/32) (by omega) (Nat.le_refl _)
 refine ie E E E hr10 (ac E E (ag (ab (af (aa (ac E E (ag (ab (af (af (aa (ac E E (ag (ab (aG ?_)))))))))))))))
 refine mj (fun(i:Nat) (vo:Value) (O:List UInt32) (c:UInt64)=>[(0,v),(1,I (k:Int)),(5,vo),(6,bW c),(7,I (i:Int))]) (fun(i:Nat) (vo:Value) (O:List UInt32) (c:UInt64) w'=>aH w w'∧dV w.heap.size O vo w'∧O.length=k/32+i∧i≤l.length∧c.toNat<2^(k%32)∧val O+4294967296^(k/32+i)*c.toNat=val (l.take i)*(4294967296^(k/32)*2^(k%32))) (fun(i:Nat) (vo:Value) (O:List UInt32) (c:UInt64)=>l.length-i) (0) (v10) (List.replicate (k/32) 0) (0) ⟨rfl,rfl,rfl,rfl,rfl,trivial⟩ ⟨x10,o10,by simp,by simp,by simp;exact Nat.pow_pos (by omega),by simp[val,rU]⟩ ?_
 rintro i vo O c w4 ⟨e4,oO,hO,hi,hc,hinv⟩
 refine af (af (aa (ae E E (ae E E (aV E E (bz Lj (hv.ext e4)) (al E E E (a6) (ag (ab ?_))))))))
 refine bu E (fun h14=>?_) (fun h14=>?_)
 ·refine aC (ab (af (aG (af ?_))))
  have hlt:i<l.length:=by omega
  have st:=DW (Nat.mod_lt k (show 0<32 by omega)) hlt hO hc hinv
  refine aa (ae E E (ae E E (ae E E ?_)))
  obtain⟨a20,p20,q20⟩:=cQ Lj (hv.ext e4) (i:=i) (by omega) .i64
  refine ar E E E (p20 _) (aj E E (ai Ll E q20) (bb E E (bU Ll Lp) ?_))
  refine ae E E (al (r:=I ((k%32:Nat):Int)) E E E (by have e:((k%32:Nat):Int)=(k:Int)%32:=(by omega);rw[e];exact oY (by omega) (by omega)) ?_)
  refine al E E E (fG ((k%32:Nat)) (by omega)) (al E E E (jc) (ac E E (ag (ab (af (aa (ae E E (ae E E ?_))))))))
  refine bb E E (cH Lp Ll) ?_
  obtain⟨v30,w30,hr30,x30,o30,ob30⟩:=jd Tryz.underlying43 (w:=w4) w4.heap.size [((((c)|||(((((l[i])).toUInt64)<<<UInt64.ofNat ((k%32:Nat)))))).toUInt32)] (by simp) (Nat.le_refl _)
  refine aF (vs:=[(0,bE (((((c)|||(((((l[i])).toUInt64)<<<UInt64.ofNat ((k%32:Nat)))))).toUInt32)))]) E E hr30 ?_
  obtain⟨v31,w31,hr31,o31,g31⟩:=kV Tryz.underlying43 (ty:=43) (oO.ext x30) o30.wds (by simp;omega) ((e4.trans x30)).size
  have x31:=aH.of_grew ((e4.trans x30)) g31 (oO.ext x30).ge
  refine aT E E hr31 (ac E E (ag (ab (aa (ae E E (al E E E (dk 32 (by omega)) (ac E E (ag (aW (ab (aa ?_)))))))))))
  refine ae E E (al (r:=I ((i+1:Nat):Int)) E E E (by have e:((i+1:Nat):Int)=(i:Int)+1:=(by omega);rw[e];exact aR (by omega) (by omega)) ?_)
  refine ac E E (ag ?_)
  refine gF (i+1) (_) (_) (_) ⟨rfl,rfl,rfl,rfl,rfl,trivial⟩ ⟨x31,o31,by simp[hO];omega,by omega,st.2,st.1⟩ (by omega)
 ·refine bc (aK (aK (bf (ab (af ?_)))))
  rw[mD _ (by omega)] at hinv
  have e32:4294967296^(k/32)*2^(k%32)=2^k:=by
   have h3:(4294967296:Nat)^(k/32)=2^(32*(k/32)):=by rw[Nat.pow_mul]
   rw[h3,←Nat.pow_add,Nat.div_add_mod]
  have hc1:c.toNat<4294967296:=Nat.lt_of_lt_of_le hc (Nat.pow_le_pow_right (show 0<2 by omega) (show k%32≤32 by omega))
  have hend:val (O++[c.toUInt32])=val l*2^k:=by
   rw[eo,mp,hO,lF,Nat.mod_eq_of_lt hc1,hinv,e32]
  refine aa (ae E E (ae E E (bb E E (cH Lp Ll) ?_)))
  obtain⟨v37,w37,hr37,x37,o37,ob37⟩:=jd Tryz.underlying43 (w:=w4) w4.heap.size [((c).toUInt32)] (by simp) (Nat.le_refl _)
  refine aF (vs:=[(0,bE (((c).toUInt32)))]) E E hr37 ?_
  obtain⟨v38,w38,hr38,o38,g38⟩:=kV Tryz.underlying43 (ty:=43) (oO.ext x37) o37.wds (by simp;omega) ((e4.trans x37)).size
  have x38:=aH.of_grew ((e4.trans x37)) g38 (oO.ext x37).ge
  refine aT E E hr38 (an eO E E (fv o38.wds (by simp;omega)) ?_)
  rintro v39 w39 ⟨x39,b39⟩
  refine ac E E (ag (ab (aw (au E E ?_))))
  exact⟨_,rfl,(x38.trans x39),by rw[←hend];exact b39⟩
theorem BB {w:World} {l:List UInt32} {v:Value} (hv:bk l v w) (hl:l.length≤1099511627776):
 Calls Tryz.prog 187 #[v] w (bN fun r w'=>aH w w'∧r=I ((bl (val l):Nat):Int)):=by
 refine enter (vs:=[v]) Tryz.func187 E E E ?_
 have hll:=ig (cE l)
 refine af (aa (ac E E (ag (ab (af (aa (ae E E (an eO E E (fv hv (by omega)) ?_))))))))
 rintro v6 w6 ⟨x6,b6⟩
 refine ac E E (ag (ab (af (af (aa (ae E E (aV (r:=I ((lb (val l)).length:Int)) E E (bz Lj b6) ?_)))))))
 refine al E E E (bo) (ag (ab ?_))
 refine bu E (fun h9=>?_) (fun h9=>?_)
 ·refine af (aa (ac E E (ag (ab (aw (az (au E E ?_)))))))
  exact⟨_,rfl,x6,by
   have:val l=0:=gO.1 (by omega)
   rw[this];rfl⟩
 ·refine aC (ab (af (aa (ae E E (aV (r:=I ((lb (val l)).length:Int)) E E (bz Lj b6) (al (r:=I (((lb (val l)).length-1:Nat):Int)) E E E (by have e:(((lb (val l)).length-1:Nat):Int)=((lb (val l)).length:Int)-1:=(by omega);rw[e];exact bD (by omega) (by omega)) ?_))))))
  refine al (r:=I ((32*((lb (val l)).length-1:Nat):Nat):Int)) E E E (by have e:((32*((lb (val l)).length-1:Nat):Nat):Int)=32*(((lb (val l)).length-1:Nat):Int):=(by omega);rw[e];exact fc (by omega) (by omega)) ?_
  refine ac E E (ag (ab (af (af (aa (ae E E (ae E E (aV (r:=I ((lb (val l)).length:Int)) E E (bz Lj b6) ?_))))))))
  refine al (r:=I (((lb (val l)).length-1:Nat):Int)) E E E (by have e:(((lb (val l)).length-1:Nat):Int)=((lb (val l)).length:Int)-1:=(by omega);rw[e];exact bD (by omega) (by omega)) ?_
  obtain⟨a18,p18,q18⟩:=cQ Lj b6 (i:=((lb (val l)).length-1:Nat)) (by omega) .i64
  refine ar E E E (p18 _) (aj E E (ai Ll E q18) (ac E E (ag (ab (aG ?_)))))
  refine eu (fun(k:Nat) (x:UInt32)=>[(3,I (k:Int)),(4,bE x)]) (fun(k:Nat) (x:UInt32) w'=>w6=w'∧k+bl x.toNat=bl (val l)) (fun(k:Nat) (x:UInt32)=>x.toNat) (32*((lb (val l)).length-1)) ((lb (val l))[(lb (val l)).length-1]'(by omega)) ⟨rfl,rfl,trivial⟩ ⟨rfl,(I4 (by omega)).symm⟩ ?_
  rintro k x _ ⟨rfl,hinv⟩
  refine af (af (aa (ae E E (al (v:=bE 0) E E E (wv) (ag (ab ?_))))))
  refine bu E (fun h21=>?_) (fun h21=>?_)
  ·have hx:0<x.toNat:=Ak.1 h21
   have hb:=HS hx
   have hs:(x>>>UInt32.ofNat 1).toNat=x.toNat/2:=qY x (s:=1) (by omega)
   have hbl:=wY (n:=val l) (k:=32*l.length) (by have:=cE l;rwa [show(4294967296:Nat)^l.length=2^(32*l.length) by rw[Nat.pow_mul]] at this)
   refine aC (ab (af (aG (aa (ae E E (al (r:=I ((k+1:Nat):Int)) E E E (by have e:((k+1:Nat):Int)=(k:Int)+1:=(by omega);rw[e];exact aR (by omega) (by omega)) ?_))))))
   refine ac E E (ag (aW (ab (aa (ae E E (al E E E (cO 1 (by omega)) (ac E E (ag ?_))))))))
   refine c6 (k+1) (_) ⟨rfl,rfl,trivial⟩ ⟨rfl,by rw[hs];omega⟩ (by omega)
  ·refine bc (aK (aK (bf (ab (af (aa (ae E E (ac E E (ag (ab (aw (au E E ?_))))))))))))
   exact⟨_,rfl,x6,by
    have hx:x.toNat=0:=by
     have:=mt (Ak (a:=0) (b:=x)).2 h21
     have e:(0:UInt32).toNat=0:=rfl
     omega
    rw[hx,CY,Nat.add_zero] at hinv
    rw[hinv]⟩
end Go.Rl
namespace Go.Rl
open Go.RowKit Go.Proofs
theorem D7:aJ Tryz.prog 203:=⟨_,Tryz.func203,by kernel_rfl,rfl⟩
theorem D8:aJ Tryz.prog 202:=⟨_,Tryz.func202,by kernel_rfl,rfl⟩
theorem top2 {m:List UInt32} {k:Nat} (h:m.length=k+2):val m=((m[k+1]'(by omega)).toNat*4294967296+(m[k]'(by omega)).toNat)*4294967296^k+val (m.take k):=by
 rw[ek m k (by omega),eI (show k<m.length by omega),eI (show k+1<m.length by omega),List.drop_of_length_le (show m.length≤k+1+1 by omega),Nat.mul_comm (4294967296^k),Nat.add_comm]
 congr 2
 simp only[val]
 omega
theorem top3 {m:List UInt32} {k:Nat} (h:m.length=k+3):val m=(((m[k+2]'(by omega)).toNat*4294967296+(m[k+1]'(by omega)).toNat)*4294967296+(m[k]'(by omega)).toNat)*4294967296^k+val (m.take k):=by
 rw[ek m k (by omega),eI (show k<m.length by omega),eI (show k+1<m.length by omega),eI (show k+1+1<m.length by omega),List.drop_of_length_le (show m.length≤k+1+1+1 by omega),Nat.mul_comm (4294967296^k),Nat.add_comm]
 congr 2
 simp only[val,Nat.add_assoc,Nat.reduceAdd]
 omega
theorem uF {a b:UInt64}:a≥b↔b.toNat≤a.toNat:=UInt64.le_iff_toNat_le
theorem BC {a b:UInt64}:a>b↔b.toNat<a.toNat:=UInt64.lt_iff_toNat_lt
theorem D9 {w:World} {L m:List UInt32} {u v:Value} {k:Nat} (hu:bk L u w) (hv:bk m v w) (hm:m.length=k+2) (hL:L.length=k+3) (hk:k≤1099511627776) (h1:0<(m[k+1]'(by omega)).toNat) (hUV:val L<4294967296*val m):
 Calls Tryz.prog 203 #[u,v] w (bN fun r w'=>aH w w'∧∃q:UInt64,r=bW q∧q.toNat<4294967296∧(q.toNat-1)*val m≤val L∧val L<(q.toNat+1)*val m):=by
 refine enter (vs:=[u,v]) Tryz.func203 E E E ?_
 have tV:=top2 hm
 have tU:=top3 hL
 have hPk:=KM k
 have hVl:=cE (m.take k)
 have hUl:=cE (L.take k)
 rw[List.length_take,Nat.min_eq_left (by omega)] at hVl hUl
 have b0:=cV (L[k]'(by omega))
 have b1:=cV (L[k+1]'(by omega))
 have b2:=cV (L[k+2]'(by omega))
 have c1:=cV (m[k+1]'(by omega))
 have c0:=cV (m[k]'(by omega))
 have hV0:0<val m:=by
  rw[tV]
  have:=Nat.mul_le_mul_right (4294967296^k) (show 1≤(m[k+1]'(by omega)).toNat*4294967296+(m[k]'(by omega)).toNat by omega)
  omega
 have hu0:(L[k+2]'(by omega)).toNat≤(m[k+1]'(by omega)).toNat:=by
  rcases Nat.lt_or_ge (m[k+1]'(by omega)).toNat (L[k+2]'(by omega)).toNat with h|h
  ·have e1:((m[k+1]'(by omega)).toNat*4294967296+(m[k]'(by omega)).toNat+1)*4294967296^k*4294967296≤(((L[k+2]'(by omega)).toNat*4294967296+(L[k+1]'(by omega)).toNat)*4294967296+(L[k]'(by omega)).toNat)*4294967296^k:=by
    rw[Nat.mul_assoc,Nat.mul_comm (4294967296^k),←Nat.mul_assoc]
    exact Nat.mul_le_mul_right _ (by omega)
   rw[Nat.add_mul _ 1] at e1
   omega
  ·exact h
 have hd0:(m[k+1]'(by omega)).toUInt64≠0:=fun h=>by
  have:=congrArg UInt64.toNat h
  rw[fB] at this
  simp at this
  omega
 have n01:=um (L[k+2]'(by omega)).toUInt64 (L[k+1]'(by omega)) (by rw[fB];exact b2)
 rw[fB] at n01
 refine af (aa (ac E E (ag (ab (af (aa (ae E E (aV (r:=I ((k+2:Nat):Int)) E E ((by rw[←hm];exact bz Lj hv)) ?_))))))))
 refine ac E E (ag (ab (af (bP 13 [0,1,5,23] (by kernel_rfl) (by kernel_rfl) ?_))))
 refine ax E E (ax E E ?_)
 obtain⟨a13,p13,q13⟩:=cQ Lj hu (i:=(k+2:Nat)) (by omega) .i64
 refine aD E E E (fun w _=>p13 w) (aQ E E (fun w hw=>ai Ll E (hw.cell_some q13)) (dU E E (fun w _=>bU Ll Lp) ?_))
 refine aZ (v:=bW 32) E E E (fun w _=>fG 32 (by omega)) (ax E E (ax E E (aZ (r:=I ((k+1:Nat):Int)) E E E (fun w _=>by have e:((k+1:Nat):Int)=((k+2:Nat):Int)-1:=(by omega);rw[e];exact bD (by omega) (by omega)) ?_)))
 obtain⟨a20,p20,q20⟩:=cQ Lj hu (i:=(k+1:Nat)) (by omega) .i64
 refine aD E E E (fun w _=>p20 w) (aQ E E (fun w hw=>ai Ll E (hw.cell_some q20)) (dU E E (fun w _=>bU Ll Lp) ?_))
 refine aZ E E E (fun w _=>jc) (cn ?_)
 intro wg2 xg2
 rintro _ hq0
 obtain rfl:=Eq.symm hq0
 rintro _ hq1
 obtain rfl:=Eq.symm hq1
 rintro _ rfl
 rintro _ rfl
 refine ac E E (ag (ab (af (bP 17 [0,1,5,7,39] (by kernel_rfl) (by kernel_rfl) ?_))))
 refine ax E E (ax E E (ax E E (aZ (r:=I ((k+1:Nat):Int)) E E E (fun w _=>by have e:((k+1:Nat):Int)=((k+2:Nat):Int)-1:=(by omega);rw[e];exact bD (by omega) (by omega)) ?_)))
 obtain⟨a28,p28,q28⟩:=cQ Lj (hv.ext xg2) (i:=(k+1:Nat)) (by omega) .i64
 refine aD E E E (fun w _=>p28 w) (aQ E E (fun w hw=>ai Ll E (hw.cell_some q28)) (dU E E (fun w _=>bU Ll Lp) ?_))
 refine aZ E E E (fun w _=>lx hd0) (ax E E (ax E E (ax E E (aZ (r:=I ((k+1:Nat):Int)) E E E (fun w _=>by have e:((k+1:Nat):Int)=((k+2:Nat):Int)-1:=(by omega);rw[e];exact bD (by omega) (by omega)) ?_))))
 obtain⟨a36,p36,q36⟩:=cQ Lj (hv.ext xg2) (i:=(k+1:Nat)) (by omega) .i64
 refine aD E E E (fun w _=>p36 w) (aQ E E (fun w hw=>ai Ll E (hw.cell_some q36)) (dU E E (fun w _=>bU Ll Lp) ?_))
 refine aZ E E E (fun w _=>ly hd0) (fS E E (cn ?_))
 intro wg3 xg3
 rintro _ hq0
 obtain rfl:=Eq.symm hq0
 rintro _ hq1
 obtain rfl:=Eq.symm hq1
 rintro _ rfl
 rintro _ rfl
 rintro _ rfl
 refine ac E E (ag (ab (af (aG ?_))))
 refine eu (fun(q:UInt64) (r:UInt64)=>[(0,u),(1,v),(5,I ((k+2:Nat):Int)),(7,bW q),(8,bW r)]) (fun(q:UInt64) (r:UInt64) w'=>aH w w'∧q.toNat*(m[k+1]'(by omega)).toNat+r.toNat=(L[k+2]'(by omega)).toNat*4294967296+(L[k+1]'(by omega)).toNat∧r.toNat<4294967296∧∀Q,Q*val m≤val L→Q≤q.toNat) (fun(q:UInt64) (r:UInt64)=>q.toNat) (_) (_) ⟨rfl,rfl,rfl,rfl,rfl,trivial⟩ ⟨(xg2.trans xg3),by rw[UInt64.toNat_div,UInt64.toNat_mod,n01,fB,Nat.mul_comm];exact Nat.div_add_mod _ _,by rw[UInt64.toNat_mod,n01,fB];have:=Nat.mod_lt ((L[k+2]'(by omega)).toNat*4294967296+(L[k+1]'(by omega)).toNat) h1;omega,fun Q hQ=>by
  rw[UInt64.toNat_div,n01,fB]
  refine Jv (V:=val m) (U:=val L) (P:=4294967296^k*4294967296) ?_ ?_ h1 hQ
  ·rw[tV,Nat.mul_comm (4294967296^k),←Nat.mul_assoc]
   have:=Nat.mul_le_mul_right (4294967296^k) (Nat.le_add_right ((m[k+1]'(by omega)).toNat*4294967296) (m[k]'(by omega)).toNat)
   omega
  ·rw[tU,Nat.mul_comm (4294967296^k),←Nat.mul_assoc]
   have:=Nat.mul_le_mul_right (4294967296^k) (show((L[k+2]'(by omega)).toNat*4294967296+(L[k+1]'(by omega)).toNat)*4294967296+(L[k]'(by omega)).toNat+1≤((L[k+2]'(by omega)).toNat*4294967296+(L[k+1]'(by omega)).toNat+1)*4294967296 by omega)
   rw[Nat.add_mul _ 1] at this
   omega⟩ ?_
 rintro q r w4 ⟨e4,hqr,hr,hup⟩
 refine af (af ?_)
 by_cases h41:q≥4294967296
 ·refine bP 21 [0,1,5,7,8,42,60] (by kernel_rfl) (by kernel_rfl) ?_
  refine ax E E (aZ (v:=bW 4294967296) E E E (fun w _=>dD h41 jJ) (ax E E (jy E E E (jy E E E (jy E E E (jy E E E ?_))))))
  refine jy E E E (jy E E E (jy E E E (jy E E E (jy E E E (jy E E E (jy E E E (jy E E E (jy E E E (jy E E E ?_)))))))))
  refine jy E E E (jy E E E (jy E E E (jy E E E (cn ?_))))
  intro wg4 xg4
  rintro _ hq0
  obtain rfl:=Eq.symm hq0
  rintro _ hq1
  obtain rfl:=Eq.symm hq1
  rintro _ rfl
  rintro _ rfl
  rintro _ rfl
  rintro _ rfl
  rintro _ rfl
  refine aq E E E (ag (ab (bm E (aC (ab (aG (af (aa ?_))))))))
  have hlo:∀Q,Q*val m≤val L→Q+1≤q.toNat:=by
   intro Q hQ
   first
   |(have h41':4294967296≤q.toNat:=uF.1 h41
     have h2:Q*val m<4294967296*val m:=by omega
     have:=Nat.lt_of_mul_lt_mul_right h2
     omega)
   |(have h41':q.toNat<4294967296:=Nat.lt_of_not_le fun h=>h41 (uF.2 h)
     have h61':=BC.1 h61
     have hp:q.toNat*(m[k]'(by omega)).toNat≤4294967295*4294967295:=Nat.mul_le_mul (by omega) (by omega)
     rw[um r _ hr,wX,fB,Nat.mod_eq_of_lt (by omega)] at h61'
     have h2:=An tV tU hUl hqr h61'
     have h3:Q*val m<q.toNat*val m:=by omega
     exact Nat.lt_of_mul_lt_mul_right h3)
  have hq0:=hlo 0 (by simp)
  have hq1:(q-1).toNat=q.toNat-1:=by
   have:=Bv q
   rw[qZ]
   show(18446744073709551616-1+q.toNat)%18446744073709551616=_
   omega
  have hr1:(r+(m[k+1]'(by omega)).toUInt64).toNat=r.toNat+(m[k+1]'(by omega)).toNat:=by rw[pC,fB];omega
  have hqr1:(q-1).toNat*(m[k+1]'(by omega)).toNat+(r+(m[k+1]'(by omega)).toUInt64).toNat=(L[k+2]'(by omega)).toNat*4294967296+(L[k+1]'(by omega)).toNat:=by
   rw[hq1,hr1,←hqr]
   obtain⟨p,hp⟩:∃p,q.toNat=p+1:=⟨q.toNat-1,by omega⟩
   rw[hp,Nat.add_sub_cancel,Nat.add_mul];omega
  have hup1:∀Q,Q*val m≤val L→Q≤(q-1).toNat:=fun Q hQ=>by
   have:=hlo Q hQ
   omega
  refine ae E E (al (v:=bW 1) E E E (dR) (ac E E (ag (ab (af (aa (ae E E (ae E E (ae E E (al (r:=I ((k+1:Nat):Int)) E E E (by have e:((k+1:Nat):Int)=((k+2:Nat):Int)-1:=(by omega);rw[e];exact bD (by omega) (by omega)) ?_))))))))))
  obtain⟨a68,p68,q68⟩:=cQ Lj (hv.ext (e4.trans xg4)) (i:=(k+1:Nat)) (by omega) .i64
  refine ar E E E (p68 _) (aj E E (ai Ll E q68) (bb E E (bU Ll Lp) ?_))
  refine al E E E (dQ) (ac E E (ag (ab (af (aa (ae E E (al (v:=bW 4294967296) E E E (jJ) (ag (ab ?_)))))))))
  refine bu E (fun h73=>?_) (fun h73=>?_)
  ·have h73':4294967296≤(r+(m[k+1]'(by omega)).toUInt64).toNat:=uF.1 h73
   have hB:=FQ hu0 b1 hqr1 h73'
   refine bc (wr E (aK (bf (ab (af (aa (ae E E (ac E E (ag (ab (aw (au E E ?_))))))))))))
   first
   |exact⟨_,rfl,(e4.trans xg4),_,rfl,hB,pb tV tU hVl h1 c0 hB hqr1 (.inl h73'),Nat.lt_of_not_le fun h=>absurd (hup1 _ h) (by omega)⟩
   |(have h41':q.toNat<4294967296:=Nat.lt_of_not_le fun h=>h41 (uF.2 h)
     have h61':(q*(m[k]'(by omega)).toUInt64).toNat≤(r<<<UInt64.ofNat 32|||(L[k]'(by omega)).toUInt64).toNat:=Nat.le_of_not_lt fun h=>h61 (BC.2 h)
     have hp:q.toNat*(m[k]'(by omega)).toNat≤4294967295*4294967295:=Nat.mul_le_mul (by omega) (by omega)
     rw[um r _ hr,wX,fB,Nat.mod_eq_of_lt (by omega)] at h61'
     exact⟨_,rfl,(e4.trans xg4),_,rfl,h41',pb tV tU hVl h1 c0 h41' hqr (.inr h61'),Nat.lt_of_not_le fun h=>absurd (hup _ h) (by omega)⟩)
  ·have h73':(r+(m[k+1]'(by omega)).toUInt64).toNat<4294967296:=Nat.lt_of_not_le fun h=>h73 (uF.2 h)
   refine aC (aW ?_)
   refine c6 (q-1) (r+(m[k+1]'(by omega)).toUInt64) ⟨rfl,rfl,rfl,rfl,rfl,trivial⟩ ⟨(e4.trans xg4),hqr1,h73',hup1⟩ (by show(q-1).toNat<q.toNat;omega)
 ·refine bP 21 [0,1,5,7,8,42,60] (by kernel_rfl) (by kernel_rfl) ?_
  refine ax E E (aZ (v:=bW 4294967296) E E E (fun w _=>d7 h41 jJ) (ax E E (bI E E (ax E E (bI E E (ax E E ?_))))))
  refine bI E E (ax E E (bI E E (aZ (r:=I ((k:Nat):Int)) E E E (fun w _=>by have e:((k:Nat):Int)=((k+2:Nat):Int)-2:=(by omega);rw[e];exact bD (by omega) (by omega)) ?_)))
  refine bI E E ?_
  obtain⟨a47,p47,q47⟩:=cQ Lj (hv.ext e4) (i:=(k:Nat)) (by omega) .i64
  refine aD E E E (fun w _=>p47 w) (bI E E (aQ E E (fun w hw=>ai Ll E (hw.cell_some q47)) (bI E E ?_)))
  refine dU E E (fun w _=>bU Ll Lp) (bI E E (aZ E E E (fun w _=>iJ) (bI E E ?_)))
  refine ax E E (bI E E (aZ (v:=bW 32) E E E (fun w _=>fG 32 (by omega)) (bI E E (ax E E (bI E E (ax E E (bI E E ?_)))))))
  refine aZ (r:=I ((k:Nat):Int)) E E E (fun w _=>by have e:((k:Nat):Int)=((k+2:Nat):Int)-2:=(by omega);rw[e];exact bD (by omega) (by omega)) ?_
  refine bI E E ?_
  obtain⟨a56,p56,q56⟩:=cQ Lj (hu.ext e4) (i:=(k:Nat)) (by omega) .i64
  refine aD E E E (fun w _=>p56 w) (bI E E (aQ E E (fun w hw=>ai Ll E (hw.cell_some q56)) (bI E E ?_)))
  refine dU E E (fun w _=>bU Ll Lp) (bI E E (aZ E E E (fun w _=>jc) (bI E E ?_)))
  refine aZ E E E (fun w _=>cX) (cn ?_)
  intro wg4 xg4
  rintro _ hq0
  obtain rfl:=Eq.symm hq0
  rintro _ hq1
  obtain rfl:=Eq.symm hq1
  rintro _ rfl
  rintro _ rfl
  rintro _ rfl
  rintro _ rfl
  rintro _ rfl
  refine aI E E E (ag (ab ?_))
  refine bu E (fun h61=>?_) (fun h61=>?_)
  ·refine aC (ab (aG (af (aa ?_))))
   have hlo:∀Q,Q*val m≤val L→Q+1≤q.toNat:=by
    intro Q hQ
    first
    |(have h41':4294967296≤q.toNat:=uF.1 h41
      have h2:Q*val m<4294967296*val m:=by omega
      have:=Nat.lt_of_mul_lt_mul_right h2
      omega)
    |(have h41':q.toNat<4294967296:=Nat.lt_of_not_le fun h=>h41 (uF.2 h)
      have h61':=BC.1 h61
      have hp:q.toNat*(m[k]'(by omega)).toNat≤4294967295*4294967295:=Nat.mul_le_mul (by omega) (by omega)
      rw[um r _ hr,wX,fB,Nat.mod_eq_of_lt (by omega)] at h61'
      have h2:=An tV tU hUl hqr h61'
      have h3:Q*val m<q.toNat*val m:=by omega
      exact Nat.lt_of_mul_lt_mul_right h3)
   have hq0:=hlo 0 (by simp)
   have hq1:(q-1).toNat=q.toNat-1:=by
    have:=Bv q
    rw[qZ]
    show(18446744073709551616-1+q.toNat)%18446744073709551616=_
    omega
   have hr1:(r+(m[k+1]'(by omega)).toUInt64).toNat=r.toNat+(m[k+1]'(by omega)).toNat:=by rw[pC,fB];omega
   have hqr1:(q-1).toNat*(m[k+1]'(by omega)).toNat+(r+(m[k+1]'(by omega)).toUInt64).toNat=(L[k+2]'(by omega)).toNat*4294967296+(L[k+1]'(by omega)).toNat:=by
    rw[hq1,hr1,←hqr]
    obtain⟨p,hp⟩:∃p,q.toNat=p+1:=⟨q.toNat-1,by omega⟩
    rw[hp,Nat.add_sub_cancel,Nat.add_mul];omega
   have hup1:∀Q,Q*val m≤val L→Q≤(q-1).toNat:=fun Q hQ=>by
    have:=hlo Q hQ
    omega
   refine ae E E (al (v:=bW 1) E E E (dR) (ac E E (ag (ab (af (aa (ae E E (ae E E (ae E E (al (r:=I ((k+1:Nat):Int)) E E E (by have e:((k+1:Nat):Int)=((k+2:Nat):Int)-1:=(by omega);rw[e];exact bD (by omega) (by omega)) ?_))))))))))
   obtain⟨a68,p68,q68⟩:=cQ Lj (hv.ext (e4.trans xg4)) (i:=(k+1:Nat)) (by omega) .i64
   refine ar E E E (p68 _) (aj E E (ai Ll E q68) (bb E E (bU Ll Lp) ?_))
   refine al E E E (dQ) (ac E E (ag (ab (af (aa (ae E E (al (v:=bW 4294967296) E E E (jJ) (ag (ab ?_)))))))))
   refine bu E (fun h73=>?_) (fun h73=>?_)
   ·have h73':4294967296≤(r+(m[k+1]'(by omega)).toUInt64).toNat:=uF.1 h73
    have hB:=FQ hu0 b1 hqr1 h73'
    refine bc (wr E (aK (bf (ab (af (aa (ae E E (ac E E (ag (ab (aw (au E E ?_))))))))))))
    first
    |exact⟨_,rfl,(e4.trans xg4),_,rfl,hB,pb tV tU hVl h1 c0 hB hqr1 (.inl h73'),Nat.lt_of_not_le fun h=>absurd (hup1 _ h) (by omega)⟩
    |(have h41':q.toNat<4294967296:=Nat.lt_of_not_le fun h=>h41 (uF.2 h)
      have h61':(q*(m[k]'(by omega)).toUInt64).toNat≤(r<<<UInt64.ofNat 32|||(L[k]'(by omega)).toUInt64).toNat:=Nat.le_of_not_lt fun h=>h61 (BC.2 h)
      have hp:q.toNat*(m[k]'(by omega)).toNat≤4294967295*4294967295:=Nat.mul_le_mul (by omega) (by omega)
      rw[um r _ hr,wX,fB,Nat.mod_eq_of_lt (by omega)] at h61'
      exact⟨_,rfl,(e4.trans xg4),_,rfl,h41',pb tV tU hVl h1 c0 h41' hqr (.inr h61'),Nat.lt_of_not_le fun h=>absurd (hup _ h) (by omega)⟩)
   ·have h73':(r+(m[k+1]'(by omega)).toUInt64).toNat<4294967296:=Nat.lt_of_not_le fun h=>h73 (uF.2 h)
    refine aC (aW ?_)
    refine c6 (q-1) (r+(m[k+1]'(by omega)).toUInt64) ⟨rfl,rfl,rfl,rfl,rfl,trivial⟩ ⟨(e4.trans xg4),hqr1,h73',hup1⟩ (by show(q-1).toNat<q.toNat;omega)
  ·refine bc (aK (aK (bf (ab (af (aa (ae E E (ac E E (ag (ab (aw (au E E ?_))))))))))))
   first
   |exact⟨_,rfl,(e4.trans xg4),_,rfl,hB,pb tV tU hVl h1 c0 hB hqr1 (.inl h73'),Nat.lt_of_not_le fun h=>absurd (hup1 _ h) (by omega)⟩
   |(have h41':q.toNat<4294967296:=Nat.lt_of_not_le fun h=>h41 (uF.2 h)
     have h61':(q*(m[k]'(by omega)).toUInt64).toNat≤(r<<<UInt64.ofNat 32|||(L[k]'(by omega)).toUInt64).toNat:=Nat.le_of_not_lt fun h=>h61 (BC.2 h)
     have hp:q.toNat*(m[k]'(by omega)).toNat≤4294967295*4294967295:=Nat.mul_le_mul (by omega) (by omega)
     rw[um r _ hr,wX,fB,Nat.mod_eq_of_lt (by omega)] at h61'
     exact⟨_,rfl,(e4.trans xg4),_,rfl,h41',pb tV tU hVl h1 c0 h41' hqr (.inr h61'),Nat.lt_of_not_le fun h=>absurd (hup _ h) (by omega)⟩)
end Go.Rl
namespace Go.Rl
open Go.RowKit Go.Proofs
theorem Ea {w:World} {g:Nat} {pre post:List Value} {L m:List UInt32} {u v:Value} {q:UInt64} (hu:PW g pre L post u w) (hv:bk m v w) (ha:v.ownBlock=none∨v.ownBlock≠some g) (hL:L.length=m.length+1) (hm:m.length≤1099511627776)
 (hq:q.toNat<4294967296) (h1:(q.toNat-1)*val m≤val L) (h2:val L<(q.toNat+1)*val m):
 Calls Tryz.prog 202 #[u,v,bW q] w (bN fun r w'=>∃x F,r=bE x∧w.grownBy w' (some g)∧PW g pre F post u w'∧F.length=L.length∧val L=x.toNat*val m+val F∧val F<val m):=by
 refine enter (vs:=[u,v,bW q]) Tryz.func202 E E E ?_
 refine af (aa (ac E E (ag (ab (af (aa (ac E E (ac E E (ag (ab (af (af (aa (ae E E (aV E E (bz Lj hv) ?_)))))))))))))))
 refine ae E E (ag (ab (aG ?_)))
 refine mj (fun(i:Nat) (M:List UInt32) (c:UInt64) (b:UInt64)=>[(0,u),(1,v),(2,bW q),(7,bW c),(8,bW b),(15,v),(16,I (m.length:Int)),(17,I (i:Int))]) (fun(i:Nat) (M:List UInt32) (c:UInt64) (b:UInt64) w'=>w.grownBy w' (some g)∧PW g pre M post u w'∧M.length=L.length∧i≤m.length∧M.drop i=L.drop i∧c.toNat<4294967296∧b.toNat≤1∧val (L.take i)+4294967296^i*(c.toNat+b.toNat)=val (M.take i)+q.toNat*val (m.take i)) (fun(i:Nat) (M:List UInt32) (c:UInt64) (b:UInt64)=>m.length-i) (0) (L) (0) (0) ⟨rfl,rfl,rfl,rfl,rfl,rfl,rfl,rfl,trivial⟩ ⟨dZ (aH.refl _),hu,rfl,by simp,rfl,by simp,by simp,by simp[val]⟩ ?_
 rintro i M c b w3 ⟨q3,pM,hM,hi,hMi,hc,hb,hinv⟩
 refine af ?_
 have v3:=hv.away ha q3
 refine aa (al E E E (a6) (ag (ab (af ?_))))
 refine bu E (fun h18=>?_) (fun h18=>?_)
 ·refine aC (ab (af (aG (af (aa (ae E E ?_))))))
  obtain⟨a20,p20,q20⟩:=cQ Lj v3 (i:=i) (by omega) .i64
  refine ar E E E (p20 _) (aj E E (ai Ll E q20) (ac E E (ac E E (ag (ab (af (aa (ae E E ?_))))))))
  refine ae E E (ae E E (bb E E (bU Ll Lp) (al E E E (iJ) (al E E E (dQ) ?_))))
  refine ac E E (ag (ab (af (aa (ae E E (ae E E ?_))))))
  obtain⟨a30,p30,q30⟩:=cQ Lj pM.wds (i:=i) (by omega) .i64
  refine ar E E E (p30 _) (aj E E (ai Ll E q30) (bb E E (bU Ll Lp) ?_))
  refine ae E E (bb E E (cH Lp Ll) (bb E E (bU Ll Lp) ?_))
  refine al E E E (dR) (ae E E (al E E E (dR) (ac E E (ag (ab (af (aa (ae E E (ae E E (ae E E ?_))))))))))
  refine bb E E (cH Lp Ll) ?_
  obtain⟨w43,p43,s43,pN,q43,c43⟩:=pM.setP Lj (i:=i) (by omega) ((((((((M[i])).toUInt64)-(((((c)+(((q)*(((m[i])).toUInt64))))).toUInt32).toUInt64)))-(b)))).toUInt32
  refine ar E E E (p43 _) (ay E E (s43) (ag (ab (af (aa (ae E E (al E E E (dk 63 (by omega)) (ac E E (ag ?_)))))))))
  refine ab (aa (ae E E (al E E E (dk 32 (by omega)) (ac E E (ag (aW (ab (aa (al (r:=I ((i+1:Nat):Int)) E E E (by have e:((i+1:Nat):Int)=(i:Int)+1:=(by omega);rw[e];exact aR (by omega) (by omega)) ?_)))))))))
  refine ae E E (ag ?_)
  have st:=Fsz (L:=L) (v:=m) (M:=M) (i:=i) (q:=q) (c:=c) (b:=b) (by omega) (by omega) hM hq hc hb hMi hinv rfl
  refine gF (i+1) (_) (_) (_) ⟨rfl,rfl,rfl,rfl,rfl,rfl,rfl,rfl,trivial⟩ ⟨q3.trans q43,pN,by simpa using hM,by omega,st.1,st.2.1,st.2.2.1,st.2.2.2⟩ (by omega)
 ·refine bc (aK (aK (bf (ab (af ?_)))))
  obtain rfl:i=m.length:=by omega
  refine aa (ae E E (ae E E (aV E E (bz Lj v3) ?_)))
  obtain⟨a52,p52,q52⟩:=cQ Lj pM.wds (i:=m.length) (by omega) .i64
  refine ar E E E (p52 _) (aj E E (ai Ll E q52) (bb E E (bU Ll Lp) ?_))
  refine ae E E (al E E E (dR) (ae E E (al E E E (dR) (ac E E (ag (ab (af (aa (ae E E (ae E E ?_))))))))))
  refine aV E E (bz Lj v3) (ae E E (bb E E (cH Lp Ll) ?_))
  obtain⟨w64,p64,s64,pN,q64,c64⟩:=pM.setP Lj (i:=m.length) (by omega) ((((((((M[m.length])).toUInt64)-(c)))-(b)))).toUInt32
  refine ar E E E (p64 _) (ay E E (s64) ?_)
  have v64:=v3.away ha q64
  have tp:=HQ (q:=q) hL hM hc hb hMi hinv rfl
  have h63:=tm ((((((((M[m.length])).toUInt64)-(c)))-(b)))) (s:=63) (by omega)
  simp only[Nat.reducePow] at h63
  have hNl:(M.set m.length ((((((((M[m.length])).toUInt64)-(c)))-(b)))).toUInt32).length=L.length:=by simpa using hM
  have hFl:=cE (M.set m.length ((((((((M[m.length])).toUInt64)-(c)))-(b)))).toUInt32)
  generalize M.set m.length ((((((((M[m.length])).toUInt64)-(c)))-(b)))).toUInt32=N at pN tp hNl hFl
  generalize hX:(((((((M[m.length])).toUInt64)-(c)))-(b)))=X at tp h63
  refine ag (ab (af (af (aa (ae E E (al E E E (dk 63 (by omega)) (al (v:=bW 0) E E E (lz) (ag (ab ?_)))))))))
  refine bu E (fun h67=>?_) (fun h67=>?_)
  ·rw[h67] at h63
   rw[←h63] at tp
   refine af (aa (ae E E (bb E E (cH Lp Ll) (ac E E (ag (ab (aw (az (au E E ?_)))))))))
   exact⟨_,rfl,q.toUInt32,N,rfl,q3.trans q64,pN,hNl,by
    have e:q.toUInt32.toNat=q.toNat:=by rw[lF];omega
    have:=tp.1
    rw[e]
    simp at this
    omega,by
    have:=tp.1
    rw[Nat.add_mul,Nat.one_mul] at h2
    simp at this
    omega⟩
  ·have hs:X.toNat/9223372036854775808=1:=by
    rcases Nat.eq_zero_or_pos (X.toNat/9223372036854775808) with h|h
    ·exact absurd (FV (h63.trans h)) h67
    ·have:=tp.2
     omega
   rw[hs,Nat.mul_one] at tp
   refine aC (ab (af (aa (ac E E (ag (ab (af (af (aa (ae E E (aV E E (bz Lj v64) (ae E E ?_))))))))))))
   refine ag (ab (aG ?_))
   refine mi (fun(i:Nat) (K:List UInt32) (d:UInt64)=>[(0,u),(1,v),(2,bW q),(7,bW d),(70,v),(71,I (m.length:Int)),(72,I (i:Int))]) (fun(i:Nat) (K:List UInt32) (d:UInt64) w'=>w.grownBy w' (some g)∧PW g pre K post u w'∧K.length=L.length∧i≤m.length∧K.drop i=N.drop i∧d.toNat≤1∧val (K.take i)+4294967296^i*d.toNat=val (N.take i)+val (m.take i)) (fun(i:Nat) (K:List UInt32) (d:UInt64)=>m.length-i) (0) (N) (0) ⟨rfl,rfl,rfl,rfl,rfl,rfl,rfl,trivial⟩ ⟨q3.trans q64,pN,hNl,by simp,rfl,by simp,by simp[val]⟩ ?_
   rintro i K d w17 ⟨q17,pK,hK,hi,hKi,hd,hinv2⟩
   refine af ?_
   have v17:=hv.away ha q17
   refine aa (al E E E (a6) (ag (ab (af ?_))))
   refine bu E (fun h73=>?_) (fun h73=>?_)
   ·refine aC (ab (af (aG (af (aa (ae E E ?_))))))
    obtain⟨a75,p75,q75⟩:=cQ Lj v17 (i:=i) (by omega) .i64
    refine ar E E E (p75 _) (aj E E (ai Ll E q75) (ac E E (ac E E (ag (ab (af (aa (ae E E ?_))))))))
    refine ae E E (ae E E ?_)
    obtain⟨a80,p80,q80⟩:=cQ Lj pK.wds (i:=i) (by omega) .i64
    refine ar E E E (p80 _) (aj E E (ai Ll E q80) (bb E E (bU Ll Lp) ?_))
    refine ae E E (bb E E (bU Ll Lp) (al E E E (dQ) (al E E E (dQ) (ac E E ?_))))
    refine ag (ab (af (aa (ae E E (ae E E (ae E E (bb E E (cH Lp Ll) ?_)))))))
    obtain⟨w91,p91,s91,pK',q91,c91⟩:=pK.setP Lj (i:=i) (by omega) ((((d)+(((((K[i])).toUInt64)+(((m[i])).toUInt64)))))).toUInt32
    refine ar E E E (p91 _) (ay E E (s91) (ag (ab (aa (ae E E (al E E E (dk 32 (by omega)) (ac E E (ag (aW ?_)))))))))
    refine ab (aa (al (r:=I ((i+1:Nat):Int)) E E E (by have e:((i+1:Nat):Int)=(i:Int)+1:=(by omega);rw[e];exact aR (by omega) (by omega)) ?_))
    refine ae E E (ag ?_)
    have st:=FT (L:=N) (v:=m) (M:=K) (i:=i) (c:=d) (by omega) (by omega) (by omega) hd hKi hinv2
    refine je (i+1) (_) (_) ⟨rfl,rfl,rfl,rfl,rfl,rfl,rfl,trivial⟩ ⟨q17.trans q91,pK',by simpa using hK,by omega,st.1,st.2.1,st.2.2⟩ (by omega)
   ·refine bc (aK (aK (bf (ab (af ?_)))))
    obtain rfl:i=m.length:=by omega
    refine aa (ae E E (ae E E (aV E E (bz Lj v17) ?_)))
    obtain⟨a98,p98,q98⟩:=cQ Lj pK.wds (i:=m.length) (by omega) .i64
    refine ar E E E (p98 _) (aj E E (ai Ll E q98) (ae E E (bb E E (cH Lp Ll) ?_)))
    refine al E E E (cG) ?_
    obtain⟨w103,p103,s103,pK',q103,c103⟩:=pK.setP Lj (i:=m.length) (by omega) (K[m.length]'(by omega)+d.toUInt32)
    refine ar E E E (p103 _) (ay E E (s103) (ag (ab (af (aa (ae E E (al (v:=bW 1) E E E (dR) (bb E E (cH Lp Ll) ?_))))))))
    refine ac E E (ag (ab (aw (au E E ?_))))
    have rb:=FW (q:=q.toNat) hL hNl hK hd hKi hinv2 tp.1 h1
    exact⟨_,rfl,(q-1).toUInt32,_,rfl,q17.trans q103,pK',by simpa using hK,by
     have e:(q-1).toUInt32.toNat=q.toNat-1:=by
      have h0:=rb.1
      rw[lF,qZ]
      show(18446744073709551616-1+q.toNat)%18446744073709551616%_=_
      omega
     rw[e];exact rb.2.1,rb.2.2⟩
end Go.Rl
namespace Go.Rl
open Go.RowKit Go.Proofs
theorem jB:aJ Tryz.prog 182:=⟨_,Tryz.func182,by kernel_rfl,rfl⟩
theorem Eb {U:List UInt32} {i j V:Nat} (h:val U<4294967296^(i+1)*V) (hV:V<4294967296^j) (hi:i+j+1≤U.length):val (U.drop (i+j+1))=0:=by
 rw[ek U (i+j+1) hi] at h
 rcases Nat.eq_zero_or_pos (val (U.drop (i+j+1))) with h0|h0
 ·exact h0
 ·have a:4294967296^(i+1)*V≤4294967296^(i+1)*4294967296^j:=Nat.mul_le_mul_left _ (Nat.le_of_lt hV)
  rw[←Nat.pow_add,show i+1+j=i+j+1 by omega] at a
  have b:4294967296^(i+j+1)*1≤4294967296^(i+j+1)*val (U.drop (i+j+1)):=Nat.mul_le_mul_left _ h0
  omega
theorem F0 {U:List UInt32} {i n:Nat} (h:i+n≤U.length) (h0:val (U.drop (i+n))=0):val U=val (U.take i)+4294967296^i*val ((U.take (i+n)).drop i):=by
 have h1:=ek U (i+n) h
 rw[h0,Nat.mul_zero,Nat.add_zero] at h1
 have h2:=ek (U.take (i+n)) i (by simp;omega)
 rw[List.take_take,Nat.min_eq_left (by omega)] at h2
 rw[h1,h2]
theorem BD {U F:List UInt32} {i n:Nat} (h:i+n≤U.length) (h0:val (U.drop (i+n))=0):val (U.take i++F++U.drop (i+n))=val (U.take i)+4294967296^i*val F:=by
 rw[eo,eo,h0,List.length_take,Nat.min_eq_left (by omega)];simp
theorem jC {w:World} {l m:List UInt32} {v u:Value} (hv:bk l v w) (hu:bk m u w) (hl:l.length≤549755813888) (hml:m.length≤549755813888) (hm:0<val m):
 Calls Tryz.prog 182 #[v,u] w (bN fun r w'=>aH w w'∧∃q s,r=.tuple #[q,s,I 0]∧bk (lb (val l/val m)) q w'∧bk (lb (val l%val m)) s w'):=by
 refine enter (vs:=[v,u]) Tryz.func182 E E E ?_
 have hll:=ig (cE l)
 have hmm:=ig (cE m)
 have hM0:0<(lb (val m)).length:=by
  rcases Nat.eq_zero_or_pos (lb (val m)).length with h|h
  ·have:=gO.1 h
   omega
  ·exact h
 refine af (aa (ac E E (ac E E (ac E E (ag (ab (af (aa (ae E E (an dB E E (dT hv) ?_))))))))))
 rintro v18 _ ⟨rfl,b18⟩
 refine ae E E (an dB E E (dT hu) ?_)
 rintro v20 _ ⟨rfl,b20⟩
 refine ac E E (ac E E (ag (ab (af (aG (af (aa (ae E E (aV (r:=I ((lb (val m)).length:Int)) E E (bz Lj b20) ?_)))))))))
 refine al E E E (d7 (by omega) bo) (ac E E (ag (ab (cN E (af (aa (ae E E (ae E E (an rW E E ((by have:=rY b18 b20;rw[bV,bV] at this;exact this)) ?_)))))))))
 rintro v28 w28 ⟨x28,rfl⟩
 refine al E E E (a6) (ac E E (ag (ab ?_)))
 refine bu E (fun h25=>?_) (fun h25=>?_)
 ·have hlt:=nZ.1 h25
  refine af (aa (ae E E (an mr E E ((by have:=mw (b18.ext x28) (by omega);rw[bV] at this;exact this)) ?_)))
  rintro v31 w31 ⟨x31,b31⟩
  refine ac E E (ac E E (ac E E (ag (ab (aw (ba (az (ku E E E E ?_))))))))
  exact⟨_,rfl,(x28.trans x31),_,_,rfl,by rw[Nat.div_eq_of_lt hlt];exact bk.nil _,by rw[Nat.mod_eq_of_lt hlt];exact b31⟩
 ·have hge:val m≤val l:=Nat.le_of_not_lt fun h=>h25 (nZ.2 h)
  have hlen:(lb (val m)).length≤(lb (val l)).length:=Nat.le_of_not_lt fun h=>by have:=yx h;omega
  refine af (aa (ae E E (aV (r:=I ((lb (val m)).length:Int)) E E (bz Lj (b20.ext x28)) (al E E E (bo) ?_))))
  refine ac E E (ag (ab ?_))
  refine bu E (fun h32=>?_) (fun h32=>?_)
  ·refine af (aa (ae E E (ae E E ?_)))
   have hM1:val m=((lb (val m))[0]'(by omega)).toNat:=by
    have e:=eI (l:=lb (val m)) (i:=0) (by omega)
    rw[List.drop_zero,bV,List.drop_of_length_le (by omega)] at e
    simpa [val] using e
   obtain⟨a39,p39,q39⟩:=cQ Lj (b20.ext x28) (i:=0) (by omega) .i64
   refine ar E E E (p39 _) (aj E E (ai Ll E q39) (an Aj E E ((Al (b18.ext x28) (by omega) (by rw[←hM1];exact hm))) ?_))
   rintro v41 w41 ⟨x41,q,s,rfl,bq,bs⟩
   refine ae E E (aA E E cu (aA E E cv (ac E E (ac E E (ag (ab (af (aa (ae E E (ae E E (ac E E ?_)))))))))))
   refine ac E E (ac E E (ag (ab (aw (ba (az (ku E E E E ?_)))))))
   rw[bV,←hM1] at bq bs
   exact⟨_,rfl,(x28.trans x41),_,_,rfl,bq,bs⟩
  ·refine aC (aW (ab (af ?_)))
   obtain⟨k,hk⟩:∃k,(lb (val m)).length=k+2:=⟨(lb (val m)).length-2,by omega⟩
   obtain⟨hs32,hVlen⟩:=FU hk
   have htop:(lb (val m))[(lb (val m)).length-1]'(by omega)=(lb (val m))[k+1]'(by omega):=by congr 1;omega
   refine aa (ae E E (ae E E (aV (r:=I ((lb (val m)).length:Int)) E E (bz Lj (b20.ext x28)) (al (r:=I (((lb (val m)).length-1:Nat):Int)) E E E (by have e:(((lb (val m)).length-1:Nat):Int)=((lb (val m)).length:Int)-1:=(by omega);rw[e];exact bD (by omega) (by omega)) ?_))))
   obtain⟨a50,p50,q50⟩:=cQ Lj (b20.ext x28) (i:=((lb (val m)).length-1:Nat)) (by omega) .i64
   refine ar E E E (p50 _) (aj E E (ai Ll E q50) (an DP E E (DS) ?_))
   rintro v52 _ ⟨rfl,rfl⟩
   rw[htop]
   obtain⟨s,hs⟩:∃s,s=32-bl ((lb (val m))[k+1]'(by omega)).toNat:=⟨_,rfl⟩
   rw[←hs] at hs32 hVlen⊢
   refine ac E E (ag (ab (af (aa (ae E E (ae E E (an uq E E (uu (b18.ext x28) (by omega) hs32) ?_)))))))
   rintro v55 w55 ⟨x55,U,oU,hUl,hUv⟩
   refine ae E E (ae E E (an uq E E (uu (b20.ext (x28.trans x55)) (by omega) hs32) ?_))
   rintro v58 w58 ⟨x58,V,oV,hVl,hVv⟩
   refine an dB E E (uj oV.wds) ?_
   rintro v59 _ ⟨rfl,b59,ob59⟩
   rw[bV] at hUv hVv
   rw[hVv] at b59
   obtain⟨g,sp,hgb,hgo,pU⟩:=oU.pw (by omega)
   have hV0:0<val m*2^s:=Nat.mul_pos hm (Nat.pow_pos (by omega))
   have hgV:g<w55.heap.size:=pU.lt
   have off1:v59.ownBlock=none∨v59.ownBlock≠some g:=by
    rcases ob59 with h|h
    ·exact .inl h
    ·exact .inr (by rw[h];exact oV.off hgV)
   refine ac E E (ac E E (ag (ab (af (aa (ae E E (aV (r:=I ((lb (val l)).length:Int)) E E (bz Lj (b18.ext ((x28.trans x55).trans x58))) ?_)))))))
   refine ae E E (aV (r:=I ((lb (val m)).length:Int)) E E (bz Lj (b20.ext ((x28.trans x55).trans x58))) (al (r:=I (((lb (val l)).length-(lb (val m)).length:Nat):Int)) E E E (by have e:(((lb (val l)).length-(lb (val m)).length:Nat):Int)=((lb (val l)).length:Int)-((lb (val m)).length:Int):=(by omega);rw[e];exact bD (by omega) (by omega)) ?_))
   refine al (r:=I (((((lb (val l)).length-(lb (val m)).length:Nat))+1:Nat):Int)) E E E (by have e:(((((lb (val l)).length-(lb (val m)).length:Nat))+1:Nat):Int)=(((lb (val l)).length-(lb (val m)).length:Nat):Int)+1:=(by omega);rw[e];exact aR (by omega) (by omega)) ?_
   obtain⟨v66,w66,hr66,x66,o66,ob66⟩:=wU Lj (w:=w58) w58.heap.size (n:=(lb (val l)).length-(lb (val m)).length+1) (by omega) (Nat.le_refl _)
   refine ie E E E hr66 (ac E E (ag (ab (af (af (aa (ae E E (aV (r:=I (((lb (val l)).length-(lb (val m)).length+1:Nat):Int)) E E ((by simpa using bz Tryz.underlying44 o66.wds)) ?_))))))))
   refine al E E E (bD (by omega) (by omega)) (ac E E (ag (ab (aG ?_))))
   refine mi (fun(j:Nat) (X:List UInt32) (O:List UInt32)=>[(9,I (s:Int)),(10,v55),(11,v59),(12,v66),(13,I ((j:Int)-1))]) (fun(j:Nat) (X:List UInt32) (O:List UInt32) w'=>aH w w'∧PW g [] X sp v55 w'∧dV w58.heap.size O v66 w'∧bk (lb (val m*2^s)) v59 w'∧X.length=(lb (val l)).length+1∧O.length=(lb (val l)).length-(lb (val m)).length+1∧j≤O.length∧val l*2^s=val (O.drop j)*4294967296^j*(val m*2^s)+val X∧val X<4294967296^j*(val m*2^s)) (fun(j:Nat) (X:List UInt32) (O:List UInt32)=>j) ((lb (val l)).length-(lb (val m)).length+1) (U) (List.replicate ((lb (val l)).length-(lb (val m)).length+1) 0) ⟨rfl,rfl,rfl,rfl,rfl,trivial⟩ ⟨(((x28.trans x55).trans x58).trans x66),(pU.ext x58).ext x66,o66,b59.ext x66,hUl,by simp,by simp,by rw[List.drop_of_length_le (by simp)];simp[val,hUv],by
    have h1:=cE (lb (val l))
    have h2:=CV hm
    rw[bV] at h1
    rw[hUv,←Nat.mul_assoc]
    refine Nat.mul_lt_mul_of_pos_right ?_ (Nat.pow_pos (by omega))
    have h3:4294967296^(lb (val l)).length=4294967296^((lb (val l)).length-(lb (val m)).length+1)*4294967296^((lb (val m)).length-1):=by
     rw[←Nat.pow_add,show(lb (val l)).length-(lb (val m)).length+1+((lb (val m)).length-1)=(lb (val l)).length by omega]
    rw[h3] at h1
    exact Nat.lt_of_lt_of_le h1 (Nat.mul_le_mul_left _ h2)⟩ ?_
   rintro j X O w13 ⟨e13,pX,oO,f13,hXl,hOl,hj,hA,hX⟩
   refine af (af (aa (ae E E (al E E E (gL) (ag (ab ?_))))))
   refine bu E (fun h71=>?_) (fun h71=>?_)
   ·obtain⟨i,rfl⟩:∃i,j=i+1:=⟨j-1,by omega⟩
    have e:((i+1:Nat):Int)-1=(i:Int):=by omega
    rw[e]
    have hz:=Eb hX (by have:=cE (lb (val m*2^s));rwa [bV,hVlen] at this) (j:=k+2) (by omega)
    have hXp:=F0 (U:=X) (i:=i) (n:=k+3) (by omega) hz
    refine aC (ab (af (aG (af (aa (ae E E (ae E E (ae E E (ae E E (aV (r:=I ((k+2:Nat):Int)) E E ((by rw[←hVlen];exact bz Lj f13)) ?_))))))))))
    refine al (r:=I ((i+(k+2:Nat):Nat):Int)) E E E (by have e:((i+(k+2:Nat):Nat):Int)=(i:Int)+((k+2:Nat):Int):=(by omega);rw[e];exact aR (by omega) (by omega)) ?_
    refine al (r:=I ((((i+(k+2:Nat):Nat))+1:Nat):Int)) E E E (by have e:((((i+(k+2:Nat):Nat))+1:Nat):Int)=((i+(k+2:Nat):Nat):Int)+1:=(by omega);rw[e];exact aR (by omega) (by omega)) ?_
    obtain⟨v81,p81,pP⟩:=Ju Lj pX (lo:=i) (hi:=i+(k+2)+1) (by omega) (by omega) .i64 .i64
    refine dm E E E E E (p81 _) ?_
    have hPl:((X.take (i+(k+2)+1)).drop i).length=k+3:=by simp;omega
    refine ac E E (ag (ab (aa (ae E E (ae E E (ae E E (ae E E (ae E E (ae E E (an D7 E E (D9 pP.wds f13 hVlen hPl (by omega) (yy (by omega)) (by
 rw[bV]
 have h1:4294967296^i*val ((X.take (i+(k+3))).drop i)≤val X:=by rw[hXp];omega
 rw[Nat.pow_succ,Nat.mul_assoc] at hX
 exact Nat.lt_of_mul_lt_mul_left (Nat.lt_of_le_of_lt h1 hX))) ?_))))))))))
    rintro v88 w88 ⟨x88,q,rfl,hqB,hq1,hq2⟩
    refine an D8 E E (Ea (pP.ext x88) (f13.ext x88) off1 (by rw[hPl,hVlen]) (by omega) hqB hq1 hq2) ?_
    rintro v89 w89 ⟨x,F,rfl,q89,pF,hFl,hFv,hFr⟩
    have x89:=(e13.trans x88).of_new q89 (by have:=x28.size;omega)
    have o89:=(oO.ext x88).kept q89 (.inr (oO.off (by have:=x58.size;omega)))
    have p89:=pX.join (by omega) (by omega) (by rw[hFl,hPl];omega) pF
    have f89:=(f13.ext x88).away off1 q89
    obtain⟨g90,w90,p90,s90,o90,q90,hb90,c90,ob90⟩:=o89.setW Lj (i:=i) (by omega) x
    refine ar E E E (p90 _) (ay E E (s90) ?_)
    have x90:=x89.of_new q90 (by have:=x28.size;have:=x55.size;have:=x58.size;omega)
    have p90':=p89.kept q90 (fun h=>by have:=Option.some.inj h;have:=x58.size;omega)
    have f90:=f89.away (by
     rcases ob59 with h|h
     ·exact .inl h
     ·refine .inr fun he=>?_
      rw[h] at he
      have:=oV.lt g90 he
      omega) q90
    have hj':=BD (U:=X) (F:=F) (i:=i) (n:=k+3) (by omega) hz
    rw[bV] at hFv hFr
    have dr:=DV (A:=val l*2^s) (P:=4294967296^i) (Q:=val (O.drop (i+1))) (V:=val m*2^s) hXp (by have:=cE (X.take i);rwa [List.length_take,Nat.min_eq_left (by omega)] at this) (by rw[←Nat.pow_succ];exact hA) hFv hFr
    rw[←hj',←ra (by omega)] at dr
    refine ag (aW (ab (aa (ae E E (al E E E (bD (by omega) (by omega)) (ac E E (ag ?_)))))))
    refine je (i) (_) (_) ⟨rfl,rfl,rfl,rfl,rfl,trivial⟩ ⟨x90,p90',o90,f90,by simp[hFl,hPl,hXl];omega,by simpa using hOl,by simp;omega,dr.1,dr.2⟩ (by omega)
   ·refine bc (aK (aK (bf (ab (af ?_)))))
    obtain rfl:j=0:=by omega
    rw[Nat.pow_zero,Nat.mul_one,List.drop_zero] at hA
    rw[Nat.pow_zero,Nat.one_mul] at hX
    have hs0:0<2^s:=Nat.pow_pos (by omega)
    have hQ:val l/val m=val O:=by
     rw[←Nat.mul_div_mul_right _ _ hs0,hA,Nat.mul_comm (val O),Nat.mul_add_div hV0,Nat.div_eq_of_lt hX,Nat.add_zero]
    have hR:val X/2^s=val l%val m:=by
     have e1:val X=val l*2^s%(val m*2^s):=by rw[hA,Nat.mul_comm (val O),Nat.mul_add_mod,Nat.mod_eq_of_lt hX]
     rw[e1,Nat.mul_mod_mul_right,Nat.mul_div_cancel _ hs0]
    refine aa (ae E E (ae E E (an DO E E (DT pX.wds (by omega) (by omega)) ?_)))
    rintro v94 w94 ⟨x94,r94,rfl,b94⟩
    refine ae E E (aA E E cu (aA E E cv (ac E E (ac E E (ag (ab (af (aa (ae E E (an dB E E (dT ((oO.ext x94).wds)) ?_))))))))))
    rintro v98 _ ⟨rfl,b98⟩
    refine ae E E (ac E E (ac E E (ac E E (ag (ab (aw (ku E E E E ?_)))))))
    exact⟨_,rfl,(e13.trans x94),_,_,rfl,by rw[hQ];exact b98,by rw[←hR];exact b94⟩
end Go.Rl
namespace Go.Rl
open Go.RowKit Go.Proofs
theorem mE:aJ Tryz.prog 166:=⟨_,Tryz.func166,by kernel_rfl,rfl⟩
theorem Ec:aJ Tryz.prog 165:=⟨_,Tryz.func165,by kernel_rfl,rfl⟩
theorem Ed:aJ Tryz.prog 181:=⟨_,Tryz.func181,by kernel_rfl,rfl⟩
theorem lG {n m:Nat} (h:n≤m):(lb n).length≤(lb m).length:=by
 rcases Nat.lt_or_ge (lb m).length (lb n).length with h1|h1
 ·have:=yx h1;omega
 ·exact h1
theorem mG {w:World} {l m:List UInt32} {v u:Value} (hv:bk l v w) (hu:bk m u w) (hl:l.length≤274877906944) (hml:m.length≤274877906944) (hm:0<val m):
 Calls Tryz.prog 166 #[v,u] w (bN fun r w'=>aH w w'∧∃q s,r=.tuple #[q,s,I 0]∧bk (lb (val l/val m)) q w'∧bk (lb (val l%val m)) s w'):=by
 refine enter (vs:=[v,u]) Tryz.func166 E E E ?_
 refine af (aa (ac E E (ac E E (ac E E (ag (ab (af (aa (ae E E (an uB E E (uE hv (by omega)) ?_))))))))))
 rintro v16 w16 ⟨x16,hcx⟩
 obtain⟨x,bx,rfl,hbx⟩:∃(x:UInt64) (bx:Bool),v16=.tuple #[bW x,B bx]∧(bx=true→x.toNat=val l):=by
  rcases hcx with⟨_,rfl⟩|⟨x,hx,rfl⟩
  ·exact⟨0,false,rfl,fun h=>by cases h⟩
  ·exact⟨x,true,rfl,fun _=>hx⟩
 refine ae E E (aA E E cu (aA E E (cv) (ac E E (ac E E (ag (ab (af (aa (ae E E (an uB E E (uE (hu.ext x16) (by omega)) ?_))))))))))
 rintro v21 w21 ⟨x21,hcy⟩
 obtain⟨y,bY,rfl,hby⟩:∃(y:UInt64) (bY:Bool),v21=.tuple #[bW y,B bY]∧(bY=true→y.toNat=val m):=by
  rcases hcy with⟨_,rfl⟩|⟨y,hy,rfl⟩
  ·exact⟨0,false,rfl,fun h=>by cases h⟩
  ·exact⟨y,true,rfl,fun _=>hy⟩
 refine ae E E (aA E E cu (aA E E (cv) ?_))
 have hy0:bY=true→¬y=0:=fun h h0=>by
  have:=hby h
  rw[h0] at this
  have e:(0:UInt64).toNat=0:=rfl
  omega
 refine ac E E (ac E E (ag (ab (af ?_))))
 refine ew (fun _:Unit=>[(0,v),(1,u),(7,bW x),(8,B bx),(9,bW y),(10,B bY)]) (fun _ w'=>w21=w') ?_ ?_
 ·refine af ?_
  cases bY
  ·refine aa (ae E E (ae E E (am E E E (am E E E (aI E E E (ag (ab (cN E (aC ?_)))))))))
   exact cf () ⟨rfl,rfl,rfl,rfl,rfl,rfl,trivial⟩ rfl
  ·refine aa (ae E E (ae E E (ak E (ae E E (ak E (al (v:=bW 0) E E E (d7 (hy0 E) lz) (aq E E E (ag ?_))))))))
   refine ab (cN E (aC ?_))
   exact cf () ⟨rfl,rfl,rfl,rfl,rfl,rfl,trivial⟩ rfl
 rintro⟨⟩ _ rfl
 refine ab (af ?_)
 refine ew (fun _:Unit=>[(0,v),(1,u)]) (fun _ w'=>w21=w') ?_ ?_
 ·refine af ?_
  rcases bx with _|_<;>rcases bY with _|_
  ·refine aa (ae E E (ae E E (am E E E (aI E E E (ag (ab (cN E (aC ?_))))))))
   exact cf () ⟨rfl,rfl,trivial⟩ rfl
  ·refine aa (ae E E (ae E E (am E E E (aI E E E (ag (ab (cN E (aC ?_))))))))
   exact cf () ⟨rfl,rfl,trivial⟩ rfl
  ·refine aa (ae E E (ae E E (ak E (ae E E (aq E E E (ag (ab (cN E (aC ?_)))))))))
   exact cf () ⟨rfl,rfl,trivial⟩ rfl
  ·have hx:=hbx rfl
   have hy:=hby rfl
   have hyn:=hy0 rfl
   refine aa (ae E E (ae E E (ak E (ae E E (aq E E E (ag (ab (bm E (af (bP 10 [4,5] (by kernel_rfl) (by kernel_rfl) ?_))))))))))
   refine ax rfl rfl (ax rfl rfl (aZ rfl rfl rfl (fun w _=>lx hyn) (ce (S:=bk (lb (val l/val m))) Ar (bk.stable _) rfl (fun w hw=>by rintro _ rfl;exact bN.mono As fun v w' h=>⟨h.1,by have:=h.2;rwa [UInt64.toNat_div,hx,hy] at this⟩) ?_)))
   refine ax rfl rfl (ax rfl rfl (aZ rfl rfl rfl (fun w _=>ly hyn) (ce (S:=bk (lb (val l%val m))) Ar (bk.stable _) rfl (fun w hw=>by rintro _ rfl;exact bN.mono As fun v w' h=>⟨h.1,by have:=h.2;rwa [UInt64.toNat_mod,hx,hy] at this⟩) ?_)))
   refine fS E E (fS E E (cn ?_))
   intro wg6 xg6
   intro vg4 b4
   intro vg5 b5
   refine ac E E (ag (ab (aw (az (ku E E E E ?_)))))
   exact⟨_,rfl,((x16.trans x21).trans xg6),_,_,rfl,b4,b5⟩
 rintro⟨⟩ _ rfl
 refine ab (af (aa (ae E E (aV E E (bz Lj (hv.ext (x16.trans x21))) ?_))))
 obtain⟨v43,w43,hr43,x43,o43,ob43⟩:=wU LE (w:=w21) w21.heap.size (n:=l.length) (by omega) (Nat.le_refl _)
 refine ie E E E hr43 ?_
 obtain⟨v44,w44,hr44,x44,o44,ob44⟩:=jd Tryz.underlying44 (w:=w43) w43.heap.size [] (by simp) (Nat.le_refl _)
 refine aF (vs:=[]) E E hr44 (ac E E (ac E E (ag (ab (af (af (aa (ae E E (an BA E E (BB (hv.ext (((x16.trans x21).trans x43).trans x44)) (by omega)) ?_)))))))))
 rintro v46 w46 ⟨x46,rfl⟩
 have hbl:bl (val l)≤32*l.length:=wY (by have:=cE l;rwa [show(4294967296:Nat)^l.length=2^(32*l.length) by rw[Nat.pow_mul]] at this)
 have hb0:val l/2^bl (val l)=0:=by
  rcases Nat.eq_zero_or_pos (val l) with h|h
  ·rw[h];simp
  ·exact Nat.div_eq_of_lt (rc h).2
 refine al E E E (bD (by omega) (by omega)) (ac E E (ag (ab (aG ?_))))
 refine mi (fun(j:Nat) (O:List UInt32) (vr:Value)=>[(0,v),(1,u),(11,v43),(12,vr),(13,I ((j:Int)-1))]) (fun(j:Nat) (O:List UInt32) (vr:Value) w'=>aH w w'∧dV w21.heap.size O v43 w'∧O.length=l.length∧bk (lb (val l/2^j%val m)) vr w'∧j≤bl (val l)∧val O=2^j*(val l/2^j/val m)) (fun(j:Nat) (O:List UInt32) (vr:Value)=>j) (bl (val l)) (List.replicate l.length 0) (v44) ⟨rfl,rfl,rfl,rfl,rfl,trivial⟩ ⟨((((x16.trans x21).trans x43).trans x44).trans x46),(o43.ext x44).ext x46,by simp,by rw[hb0,Nat.zero_mod];exact(o44.ext x46).wds,Nat.le_refl _,by rw[hb0];simp[rU]⟩ ?_
 rintro j O vr w9 ⟨e9,oq,hO,br,hj,hq⟩
 refine af (af (aa (ae E E (al E E E (gL) (ag (ab ?_))))))
 refine bu E (fun h49=>?_) (fun h49=>?_)
 ·obtain⟨i,rfl⟩:∃i,j=i+1:=⟨j-1,by omega⟩
  have e:((i+1:Nat):Int)-1=(i:Int):=by omega
  rw[e]
  have hib:i/32<l.length:=by omega
  have hrl:(lb (val l/2^(i+1)%val m)).length≤m.length:=Nat.le_trans (lG (Nat.le_of_lt (Nat.mod_lt _ hm))) (ig (cE m))
  obtain⟨rd1,rd2,rd3⟩:=Bz (N:=val l) (i:=i) hm
  refine aC (ab (af (aG (af (aa (ae E E ?_))))))
  have hVl:=cE m
  have hxl:=Nat.mod_lt (val l/2^(i+1)) hm
  have h2l:∀b,b≤1→(lb (2*(val l/2^(i+1)%val m)+b)).length≤m.length+1:=fun b hb=>ig (by have e:(4294967296:Nat)^(m.length+1)=4294967296^m.length*4294967296:=Nat.pow_succ ..;rw[e];have:=KM m.length;omega)
  refine an DZ E E (D3 (k:=1) br (by omega) (by omega)) ?_
  rintro v53 w53 ⟨x53,b53⟩
  refine ac E E (ag (ab (af (aa (ae E E (ae E E (ae E E (al (r:=I ((i/32:Nat):Int)) E E E (by have e:((i/32:Nat):Int)=(i:Int)/32:=(by omega);rw[e];exact qL (by omega) (by omega) (by omega)) ?_))))))))
  obtain⟨a58,p58,q58⟩:=cQ Lj (hv.ext (e9.trans x53)) (i:=(i/32:Nat)) (by omega) .i64
  refine ar E E E (p58 _) (aj E E (ai Ll E q58) (ae E E (al (r:=I ((i%32:Nat):Int)) E E E (by have e:((i%32:Nat):Int)=(i:Int)%32:=(by omega);rw[e];exact oY (by omega) (by omega)) ?_)))
  refine al E E E (cO ((i%32:Nat)) (by omega)) (al (v:=bE 1) E E E (ff) ?_)
  obtain⟨v64,w64,hr64,x64,o64,ob64⟩:=jd Tryz.underlying44 (w:=w53) w53.heap.size [((((((l[(i/32:Nat)]))>>>UInt32.ofNat ((i%32:Nat))))&&&(1)))] (by simp) (Nat.le_refl _)
  refine aF (vs:=[(0,bE (((((((l[(i/32:Nat)]))>>>UInt32.ofNat ((i%32:Nat))))&&&(1)))))]) E E hr64 (an DX E E (D0 (b53.ext x64) o64.wds (by rw[bV,Nat.pow_one,Nat.mul_comm];have:=h2l 0 (by omega);rw[Nat.add_zero] at this;omega) (by simp)) ?_)
  rintro v65 w65 ⟨x65,b65⟩
  rw[bV,bV,mp,Jw hib,Nat.pow_one,Nat.mul_comm] at b65
  have x6:=(x53.trans x64).trans x65
  refine ac E E (ag (ab (af (aa (ae E E (ae E E (an xc E E (xf b65 (hu.ext (((e9.trans x53).trans x64).trans x65))) ?_)))))))
  rintro v68 _ ⟨rfl,rfl⟩
  refine al E E E (gL) (ag (ab ?_))
  refine bu E (fun h69=>?_) (fun h69=>?_)
  ·have hle:val m≤val (lb (2*(val l/2^(i+1)%val m)+val l/2^i%2)):=Nat.le_of_not_lt fun h=>by have:=nZ.2 h;omega
   refine af (aa (ae E E (ae E E (an DY E E (D1 b65 (hu.ext (((e9.trans x53).trans x64).trans x65)) (by have:=h2l (val l/2^i%2) (by omega);omega) hle) ?_))))
   rintro v73 w73 ⟨x73,d73,rfl,b73⟩
   rw[bV] at b73 hle
   obtain⟨rm,rq⟩:=rd2 hle
   rw[←rm] at b73
   have oq73:=(oq.ext x6).ext x73
   obtain⟨g85,_,p85,_,_,_,_,_,ob85⟩:=oq73.setW LE (i:=i/32) (by omega) (O[i/32]'(by omega)|||(1:UInt32)<<<UInt32.ofNat (i%32))
   refine ae E E (aA E E (cu) (aA E E cv (ac E E (ag (ab (bP 10 [0,1,11,12,13,84,85] (by kernel_rfl) (by kernel_rfl) ?_))))))
   refine ax E E (ax E E (aZ (r:=I ((i/32:Nat):Int)) E E E (fun w _=>by have e:((i/32:Nat):Int)=(i:Int)/32:=(by omega);rw[e];exact qL (by omega) (by omega) (by omega)) ?_))
   obtain⟨a79,p79,q79⟩:=cQ LE oq73.wds (i:=(i/32:Nat)) (by omega) .i64
   refine aD E E E (fun w _=>p79 w) (aQ E E (fun w hw=>ai Ll E (hw.cell_some q79)) (ax E E (aZ (r:=I ((i%32:Nat):Int)) E E E (fun w _=>by have e:((i%32:Nat):Int)=(i:Int)%32:=(by omega);rw[e];exact oY (by omega) (by omega)) ?_)))
   refine aZ (u:=bE 1) E E E (fun w _=>eE ((i%32:Nat)) (by omega)) (aZ E E E (fun w _=>fg) (aD E E E (fun w hw=>p85 w) ?_))
   refine cn ?_
   intro wg15 xg15
   rintro _ hq0
   obtain rfl:=Eq.symm hq0
   rintro _ hq1
   obtain rfl:=Eq.symm hq1
   rintro _ hq11
   obtain rfl:=Eq.symm hq11
   rintro _ hq12
   obtain rfl:=Eq.symm hq12
   rintro _ rfl
   rintro _ rfl
   rintro _ rfl
   obtain⟨g',w',p',s',o',q',hb',c',ob'⟩:=(oq73.ext xg15).setW LE (i:=i/32) (by omega) (O[i/32]'(by omega)|||(1:UInt32)<<<UInt32.ofNat (i%32))
   obtain rfl:g85=g':=Option.some.inj (ob85.symm.trans ob')
   refine ay E E (s') ?_
   have x15:=(((e9.trans x6).trans x73).trans xg15).of_new q' (by have:=x16.size;have:=x21.size;omega)
   have sb:=Jx (a:=O) (i:=i) (by omega) hq
   have br':=((b73.ext xg15).kept q' (.inr (b73.off (by have:=oq.lt _ ob85;have:=x6.size;omega)))).wds
   refine ag (aW (ab (aa (ae E E (al E E E (bD (by omega) (by omega)) (ac E E (ag ?_)))))))
   refine je (i) (_) (d73) ⟨rfl,rfl,rfl,rfl,rfl,trivial⟩ ⟨x15,o',by simpa using hO,br',by omega,by rw[sb,hq,rq,Nat.pow_succ,Nat.mul_assoc,Nat.mul_add,Nat.mul_one]⟩ (by omega)
  ·have hlt:2*(val l/2^(i+1)%val m)+val l/2^i%2<val m:=by
    rcases Nat.lt_or_ge (2*(val l/2^(i+1)%val m)+val l/2^i%2) (val m) with h|h
    ·exact h
    ·refine absurd ?_ h69
     rw[bV]
     have:¬rV (2*(val l/2^(i+1)%val m)+val l/2^i%2) (val m)<0:=fun h'=>by have:=nZ.1 h';omega
     omega
   obtain⟨rm,rq⟩:=rd3 hlt
   rw[←rm] at b65
   refine aC (aW (ab (aa (ae E E (al E E E (bD (by omega) (by omega)) (ac E E (ag ?_)))))))
   refine je (i) (O) (v65) ⟨rfl,rfl,rfl,rfl,rfl,trivial⟩ ⟨(((e9.trans x53).trans x64).trans x65),oq.ext x6,hO,b65,by omega,by rw[hq,rq,Nat.pow_succ,Nat.mul_assoc]⟩ (by omega)
 ·refine bc (aK (aK (bf (ab (af ?_)))))
  obtain rfl:j=0:=by omega
  rw[Nat.pow_zero,Nat.div_one,Nat.one_mul] at hq
  rw[Nat.pow_zero,Nat.div_one] at br
  refine aa (ae E E (an eO E E (fv oq.wds (by omega)) ?_))
  rintro v87 w87 ⟨x87,b87⟩
  refine ae E E (ac E E (ac E E (ac E E (ag (ab (aw (ku E E E E ?_)))))))
  exact⟨_,rfl,(e9.trans x87),_,_,rfl,by rw[←hq];exact b87,br.ext x87⟩
theorem Ee {w:World} {l m:List UInt32} {v u:Value} (hv:bk l v w) (hu:bk m u w) (hl:l.length≤274877906944) (hml:m.length≤274877906944):
 Calls Tryz.prog 165 #[v,u] w (bN fun r w'=>aH w w'∧bk (lb (Nat.gcd (val l) (val m))) r w'):=by
 refine enter (vs:=[v,u]) Tryz.func165 E E E ?_
 have hll:=ig (cE l)
 have hmm:=ig (cE m)
 refine af (aa (ac E E (ag (ab (af (aa (ae E E (an eO E E (fv hv (by omega)) ?_))))))))
 rintro v9 w9 ⟨x9,b9⟩
 refine ae E E (an eO E E (fv (hu.ext x9) (by omega)) ?_)
 rintro v11 w11 ⟨x11,b11⟩
 refine ac E E (ac E E (ag (ab (af (aG ?_)))))
 refine mj (fun(a:Nat) (b:Nat) (va:Value) (vb:Value)=>[(0,va),(1,vb)]) (fun(a:Nat) (b:Nat) (va:Value) (vb:Value) w'=>aH w w'∧bk (lb a) va w'∧bk (lb b) vb w'∧Nat.gcd a b=Nat.gcd (val l) (val m)∧(lb a).length≤274877906944∧(lb b).length≤274877906944) (fun(a:Nat) (b:Nat) (va:Value) (vb:Value)=>b) (val l) (val m) (v9) (v11) ⟨rfl,rfl,trivial⟩ ⟨(x9.trans x11),b9.ext x11,b11,rfl,by omega,by omega⟩ ?_
 rintro a b va vb w2 ⟨e2,ha,hb,hg,hla,hlb⟩
 refine af (af (aa (ae E E (aV (r:=I ((lb b).length:Int)) E E (bz Lj hb) (al E E E (bT) ?_)))))
 refine ag (ab ?_)
 refine bu E (fun h14=>?_) (fun h14=>?_)
 ·have hb0:0<b:=by
   rcases Nat.eq_zero_or_pos b with h|h
   ·subst h;simp[gq] at h14
   ·exact h
  refine aC (ab (aG (af (aa (ae E E (ae E E (an mE E E (mG ha hb (by omega) (by omega) (by rw[bV];exact hb0)) ?_)))))))
  rintro v18 w18 ⟨x18,q,r,rfl,bq,br⟩
  rw[bV,bV] at br
  refine ae E E (aA E E dH (aA E E (dJ) (aA E E dK (ac E E (ac E E (ac E E (ag (ab ?_))))))))
  refine aa (ae E E (ae E E (ac E E (ac E E (ag (aW ?_))))))
  refine gF (b) (a%b) (vb) (r) ⟨rfl,rfl,trivial⟩ ⟨(e2.trans x18),hb.ext x18,br,by rw[←hg,Nat.gcd_comm b,←Nat.gcd_rec,Nat.gcd_comm],hlb,Nat.le_trans (lG (Nat.le_of_lt (Nat.mod_lt a hb0))) hlb⟩ (Nat.mod_lt a hb0)
 ·refine bc (aK (aK (bf (ab (af (aa (ae E E (ac E E (ag (ab (aw (au E E ?_))))))))))))
  exact⟨_,rfl,e2,by
   have hb0:b=0:=by
    refine gO.1 ?_
    omega
   rw[←hg,hb0,Nat.gcd_zero_right];exact ha⟩
theorem Ef {w:World} {l m:List UInt32} {v u:Value} (hv:bk l v w) (hu:bk m u w) (hl:l.length≤274877906944) (hml:m.length≤274877906944):
 Calls Tryz.prog 181 #[v,u] w (bN fun r w'=>aH w w'∧bk (lb (Nat.gcd (val l) (val m))) r w'):=by
 refine enter (vs:=[v,u]) Tryz.func181 E E E ?_
 have hll:=ig (cE l)
 have hmm:=ig (cE m)
 refine af (aa (ac E E (ag (ab (af (aa (ae E E (an dB E E (dT hv) ?_))))))))
 rintro v16 _ ⟨rfl,b16⟩
 refine ae E E (an dB E E (dT hu) ?_)
 rintro v18 _ ⟨rfl,b18⟩
 refine ac E E (ac E E (ag (ab (af (aG ?_)))))
 refine mj (fun(a:Nat) (b:Nat) (va:Value) (vb:Value)=>[(0,va),(1,vb)]) (fun(a:Nat) (b:Nat) (va:Value) (vb:Value) w'=>aH w w'∧bk (lb a) va w'∧bk (lb b) vb w'∧Nat.gcd a b=Nat.gcd (val l) (val m)∧(lb a).length≤274877906944∧(lb b).length≤274877906944) (fun(a:Nat) (b:Nat) (va:Value) (vb:Value)=>b) (val l) (val m) (v16) (v18) ⟨rfl,rfl,trivial⟩ ⟨aH.refl _,b16,b18,rfl,by omega,by omega⟩ ?_
 rintro a b va vb w2 ⟨e2,ha,hb,hg,hla,hlb⟩
 refine af (af (aa (ae E E (aV (r:=I ((lb b).length:Int)) E E (bz Lj hb) (al E E E (bT) ?_)))))
 refine ag (ab ?_)
 refine bu E (fun h21=>?_) (fun h21=>?_)
 ·have hb0:0<b:=by
   rcases Nat.eq_zero_or_pos b with h|h
   ·subst h;simp[gq] at h21
   ·exact h
  refine aC (ab (aG (af (aa (ae E E (ae E E (an jB E E (jC ha hb (by omega) (by omega) (by rw[bV];exact hb0)) ?_)))))))
  rintro v25 w25 ⟨x25,q,r,rfl,bq,br⟩
  rw[bV,bV] at br
  refine ae E E (aA E E dH (aA E E (dJ) (aA E E dK (ac E E (ac E E (ac E E (ag (ab ?_))))))))
  refine aa (ae E E (ae E E (ac E E (ac E E (ag (aW ?_))))))
  refine gF (b) (a%b) (vb) (r) ⟨rfl,rfl,trivial⟩ ⟨(e2.trans x25),hb.ext x25,br,by rw[←hg,Nat.gcd_comm b,←Nat.gcd_rec,Nat.gcd_comm],hlb,Nat.le_trans (lG (Nat.le_of_lt (Nat.mod_lt a hb0))) hlb⟩ (Nat.mod_lt a hb0)
 ·refine bc (aK (aK (bf (ab (af (af (aa (ae E E (aV (r:=I ((lb b).length:Int)) E E (bz Lj hb) ?_)))))))))
  refine al E E E (bo) (ag (ab ?_))
  refine bu E (fun h33=>?_) (fun h33=>?_)
  ·have hb0:b=0:=by
    refine gO.1 ?_
    omega
   refine af (aa (ae E E (an mr E E (mw ha (by omega)) ?_)))
   rintro v35 w35 ⟨x35,b35⟩
   refine ac E E (ag (ab (aw (az (au E E ?_)))))
   exact⟨_,rfl,(e2.trans x35),by
    rw[bV] at b35
    rw[←hg,hb0,Nat.gcd_zero_right];exact b35⟩
  ·have hb0:0<b:=by
    rcases Nat.eq_zero_or_pos b with h|h
    ·subst h;simp[gq] at h33
    ·exact h
   have hb64:b<18446744073709551616:=by
    have:=cE (lb b)
    rw[bV] at this
    have h2:(4294967296:Nat)^(lb b).length≤4294967296^2:=Nat.pow_le_pow_right (by omega) (by omega)
    omega
   refine aC (ab (af (aa (ae E E (ae E E (an jB E E (jC ha hb (by omega) (by omega) (by rw[bV];exact hb0)) ?_))))))
   rintro v39 w39 ⟨x39,q,r,rfl,bq,br⟩
   rw[bV,bV] at br
   refine ae E E (aA E E dH (aA E E (dJ) (aA E E dK (ac E E (ac E E (ac E E (ag (ab ?_))))))))
   refine af (aa (ae E E (an ui E E (ut (hb.ext x39)) ?_)))
   rintro v45 _ ⟨rfl,hcx⟩
   obtain⟨x,hx,rfl⟩:∃x:UInt64,x.toNat=b∧v45=.tuple #[bW x,B true]:=by
    rw[bV] at hcx
    rcases hcx with⟨h,_⟩|h
    ·omega
    ·exact h
   refine ae E E (aA E E cu (aA E E cv (ac E E (ac E E (ag (ab (af (aa (ae E E (an ui E E (ut br) ?_))))))))))
   rintro v50 _ ⟨rfl,hcy⟩
   obtain⟨y,hy,rfl⟩:∃y:UInt64,y.toNat=a%b∧v50=.tuple #[bW y,B true]:=by
    have:=Nat.mod_lt a hb0
    rw[bV] at hcy
    rcases hcy with⟨h,_⟩|h
    ·omega
    ·exact h
   refine ae E E (aA E E cu (aA E E cv (ac E E (ac E E (ag (ab (af (aG ?_))))))))
   refine eu (fun(x':UInt64) (y':UInt64)=>[(11,bW x'),(13,bW y')]) (fun(x':UInt64) (y':UInt64) w'=>aH w w'∧Nat.gcd x'.toNat y'.toNat=Nat.gcd (val l) (val m)) (fun(x':UInt64) (y':UInt64)=>y'.toNat) (x) (y) ⟨rfl,rfl,trivial⟩ ⟨(e2.trans x39),by rw[hx,hy,←hg,Nat.gcd_comm b,←Nat.gcd_rec,Nat.gcd_comm]⟩ ?_
   rintro x' y' w10 ⟨e10,hxy⟩
   refine af (af (aa (ae E E (al (v:=bW 0) E E E (cX) (ag (ab ?_))))))
   refine bu E (fun h54=>?_) (fun h54=>?_)
   ·have hy0:0<y'.toNat:=BC.1 h54
    have hyn:y'≠0:=fun h=>by
     rw[h] at hy0
     exact absurd hy0 (by decide)
    refine aC (ab (aG (bP 5 [11,58] (by kernel_rfl) (by kernel_rfl) ?_)))
    refine ax E E (ax E E (ax E E (aZ E E E (fun w _=>ly hyn) (fS E E (cn ?_)))))
    intro wg11 xg11
    rintro _ rfl
    rintro _ rfl
    refine ac E E (ag (aW ?_))
    refine c6 (y') (x'%y') ⟨rfl,rfl,trivial⟩ ⟨(e10.trans xg11),by rw[UInt64.toNat_mod,←hxy,Nat.gcd_comm y'.toNat,←Nat.gcd_rec,Nat.gcd_comm]⟩ (by rw[UInt64.toNat_mod];exact Nat.mod_lt _ hy0)
   ·have hy0:y'.toNat=0:=by
     have:=mt BC.2 h54
     have e:(0:UInt64).toNat=0:=rfl
     omega
    refine bc (aK (aK (bf (ab (af (aa (ae E E (an Af E E (Ah) ?_))))))))
    rintro v60 w60 ⟨x60,b60⟩
    refine ac E E (ag (ab (aw (au E E ?_))))
    exact⟨_,rfl,(e10.trans x60),by rw[←hxy,hy0,Nat.gcd_zero_right];exact b60⟩
end Go.Rl
namespace Go.Rl
open Go.RowKit
section
variable {P:Program} {ops:Array Oper} {Q:iq} {N:Nat} {D:List Deferred} {S:World→Prop} {fuel:Nat} {listed:Array Bool} {l:Fr} {w:World} {d:Nat} {op:Op} {ty:TypeId} {pos:String} {aft:Array Edge}
def oa (Q:iq):iq:=fun e a w=>e=.normal∧Q .normal a w
def dh (P:Program) (ops:Array Oper) (Q:iq) (N:Nat) (D:List Deferred) (S:World→Prop) (fuel:Nat) (listed:Array Bool) (l:Fr) (w:World):Prop:=∀a,At N D l a→wpAnyH P .any ops (oa Q) S fuel listed a w
def tn (P:Program) (ops:Array Oper) (Q:iq) (S:World→Prop) (fuel:Nat) (listed:Array Bool):iq:=fun e a w=>e=.normal∧S w∧wpAnyH P .any ops (oa Q) S fuel listed a w
theorem fw {id:Nat} {os:List Oper} (S:World→Prop) (n:Nat) (hn:os.toArray.size=n) (hm:P.follows .mixedOrders=true)
 (h:dh P os.toArray Q N D S n (Array.replicate n false) l w.drew):dq P Q N D l w (.region id os.toArray true):=fun a ha=>by
 subst hn
 exact wp_mono (wp_region_held (Q:=oa Q) (S:=S) hm (h a ha)) fun e a w he=>by obtain⟨rfl,h⟩:=he;exact h
def mH (ops:Array Oper) (listed:Array Bool) (i:Nat):Bool:=Region.noSelect ops&&Region.free .any ops listed i&&(Region.ready .any ops listed).contains i
theorem xh (i:Nat) {v:Value} (hi:ops[i]? =some ⟨some d,op,ty,pos,aft,none⟩) (hB:mH ops listed i=true) (hd:Nat.blt d N=true) (hS:S w)
 (hrun:∀ρ w',tb l ρ→S w'→(execOp ρ ⟨some d,op,ty,pos,aft,none⟩).run P w'=.ok (.value v) w')
 (k:dh P ops Q N D S fuel (listed.setIfInBounds i true) ((d,v)::l) w):dh P ops Q N D S (fuel+1) listed l w:=fun a ha=>by
 simp only[mH,Bool.and_eq_true] at hB
 exact wpAnyH_take hi hB.1.1 hB.1.2 hB.2 (fun c a w h=>by obtain⟨h,_⟩:=h;cases h) (.inl ⟨rfl,fun w' hw'=>hrun a.eval w' (fun x v hx=>ha.ev hx) hw'⟩) hS (k _ (ha.put hd v))
theorem d5 (i:Nat) {xs:List Operand} {vs:List Value} {r:Value} {f:List Value→Sem Value} (hi:ops[i]? =some ⟨some d,op,ty,pos,aft,none⟩) (he:∀ρ,execOp ρ ⟨some d,op,ty,pos,aft,none⟩=(do pure (Next.value (←f (xs.map ρ))):Sem Next))
 (hp:vV l xs=some vs) (hB:mH ops listed i=true) (hd:Nat.blt d N=true) (hS:S w) (hrun:∀w',S w'→(f vs).run P w'=.ok r w')
 (k:dh P ops Q N D S fuel (listed.setIfInBounds i true) ((d,r)::l) w):dh P ops Q N D S (fuel+1) listed l w:=
 xh i hi hB hd hS (fun ρ w' hρ hw'=>by rw[he,jT hρ hp,Sem.run_bind,hrun w' hw'];rfl) k
theorem kX {x:Operand} {v:Value} (h:ev l x=some v):vV l [x]=some [v]:=by simp[vV,h]
theorem KO {x y:Operand} {u v:Value} (h:ev l x=some u) (h':ev l y=some v):vV l [x,y]=some [u,v]:=by simp[vV,h,h']
theorem cF (i:Nat) {x:Operand} {v:Value} (hi:ops[i]? =some ⟨some d,.move x,ty,pos,aft,none⟩) (hx:ev l x=some v) (hB:mH ops listed i=true) (hd:Nat.blt d N=true) (hS:S w)
 (k:dh P ops Q N D S fuel (listed.setIfInBounds i true) ((d,v)::l) w):dh P ops Q N D S (fuel+1) listed l w:=
 xh i hi hB hd hS (fun ρ w' hρ _=>by simp[execOp,hρ x _ hx]) k
theorem d6 (i:Nat) {t:TypeId} {x:Operand} {u r:Value} (hi:ops[i]? =some ⟨some d,.load t x,ty,pos,aft,none⟩) (hx:ev l x=some u) (hB:mH ops listed i=true) (hd:Nat.blt d N=true) (hS:S w) (hrun:∀w',S w'→(Instr.loadAt t u).run P w'=.ok r w')
 (k:dh P ops Q N D S fuel (listed.setIfInBounds i true) ((d,r)::l) w):dh P ops Q N D S (fuel+1) listed l w:=
 d5 i (xs:=[x]) (f:=fun|[a]=>Instr.loadAt t a|_=>stuck "") hi (fun _=>rfl) (kX hx) hB hd hS hrun k
theorem dl (i:Nat) {s:TypeId} {n:Nat} {x:Operand} {u r:Value} (hi:ops[i]? =some ⟨some d,.fieldAddr s x n,ty,pos,aft,none⟩) (hx:ev l x=some u) (hB:mH ops listed i=true) (hd:Nat.blt d N=true) (hS:S w) (hrun:∀w',S w'→(Instr.fieldAt s u n).run P w'=.ok r w')
 (k:dh P ops Q N D S fuel (listed.setIfInBounds i true) ((d,r)::l) w):dh P ops Q N D S (fuel+1) listed l w:=
 d5 i (xs:=[x]) (f:=fun|[a]=>Instr.fieldAt s a n|_=>stuck "") hi (fun _=>rfl) (kX hx) hB hd hS hrun k
theorem Jy (i:Nat) {s t:TypeId} {x:Operand} {u r:Value} (hi:ops[i]? =some ⟨some d,.convert s t x,ty,pos,aft,none⟩) (hx:ev l x=some u) (hB:mH ops listed i=true) (hd:Nat.blt d N=true) (hS:S w) (hrun:∀w',S w'→(convert s t u).run P w'=.ok r w')
 (k:dh P ops Q N D S fuel (listed.setIfInBounds i true) ((d,r)::l) w):dh P ops Q N D S (fuel+1) listed l w:=
 d5 i (xs:=[x]) (f:=fun|[a]=>convert s t a|_=>stuck "") hi (fun _=>rfl) (kX hx) hB hd hS hrun k
theorem F1 (i:Nat) {b:BinOp} {t t2:TypeId} {x y:Operand} {u v r:Value} (hi:ops[i]? =some ⟨some d,.binOp b t x y t2,ty,pos,aft,none⟩) (hx:ev l x=some u) (hy:ev l y=some v) (hB:mH ops listed i=true) (hd:Nat.blt d N=true) (hS:S w) (hrun:∀w',S w'→(bin b t x y u v).run P w'=.ok r w')
 (k:dh P ops Q N D S fuel (listed.setIfInBounds i true) ((d,r)::l) w):dh P ops Q N D S (fuel+1) listed l w:=
 d5 i (xs:=[x,y]) (f:=fun|[a,c]=>bin b t x y a c|_=>stuck "") hi (fun _=>rfl) (KO hx hy) hB hd hS hrun k
theorem ii (i:Nat) {t:TypeId} {x y:Operand} {u v r:Value} (hi:ops[i]? =some ⟨some d,.indexAddr t x y,ty,pos,aft,none⟩) (hx:ev l x=some u) (hy:ev l y=some v) (hB:mH ops listed i=true) (hd:Nat.blt d N=true) (hS:S w) (hrun:∀w',S w'→(Instr.indexAt t u v).run P w'=.ok r w')
 (k:dh P ops Q N D S fuel (listed.setIfInBounds i true) ((d,r)::l) w):dh P ops Q N D S (fuel+1) listed l w:=
 d5 i (xs:=[x,y]) (f:=fun|[a,c]=>Instr.indexAt t a c|_=>stuck "") hi (fun _=>rfl) (KO hx hy) hB hd hS hrun k
theorem I5 (i:Nat) {xs:List Operand} {ts:Array TypeId} {vs:List Value} {r:Value} (hi:ops[i]? =some ⟨some d,.call {callee:=.builtin .len,args:=xs.toArray,argTypes:=ts},ty,pos,aft,none⟩) (hp:vV l xs=some vs) (hB:mH ops listed i=true) (hd:Nat.blt d N=true) (hS:S w) (hrun:∀w',S w'→(Builtin.len_ ts ty vs.toArray).run P w'=.ok r w')
 (k:dh P ops Q N D S fuel (listed.setIfInBounds i true) ((d,r)::l) w):dh P ops Q N D S (fuel+1) listed l w:=
 d5 i (xs:=xs) (f:=fun vs=>Builtin.len_ ts ty vs.toArray) hi (fun ρ=>by simp only[execOp,resolve,invoke,builtin,pure_bind,List.map_toArray]) hp hB hd hS hrun k
theorem gr {o:Oper} {i:Nat} {listed':Array Bool} {a:Act} (hi:ops[i]? =some o) (h:wpList P ops (tn P ops Q S fuel listed') [o] a w):
 wpOp P ops (oa Q) i (fun a' w'=>S w'∧wpAnyH P .any ops (oa Q) S fuel listed' a' w') a w:=by
 unfold wpOp
 simp only[hi]
 unfold wpList at h
 split
 ·rename_i hw
  rw[if_pos hw] at h
  rcases h with h|⟨_,_,_,h,_⟩
  ·refine .inl ?_
   unfold Oper.wp at*
   generalize (execOp a.eval o).run P w=r at*
   cases r with
   |ok n w'=>
    cases n<;>simp only[Oper.upon] at h⊢
    case value u=>exact h.2
    case skip=>exact h.2
    case defer dd=>exact h.2
    case enter f args=>
     refine Calls.mono h fun e w'' he=>?_
     cases e with
     |returned u=>exact he.2
     |panicked c=>obtain⟨he,_⟩:=he;cases he
     |outgrown=>obtain⟨_,_,he,_⟩:=he;cases he
    case row row args=>exact Rows.mono h fun u w'' he=>he.2
   |halt x w'=>
    cases x<;>simp only[Oper.upon] at h⊢
    case panic u=>obtain⟨he,_⟩:=h;cases he
  ·cases h
 ·rename_i hw
  rw[if_neg hw] at h
  exact h.2
theorem aO (i:Nat) {o:Oper} (hr:Region.ready .any ops listed=[i]) (hi:ops[i]? =some o) (h:cz P ops (tn P ops Q S fuel (listed.setIfInBounds i true)) N D l w [o]):dh P ops Q N D S (fuel+1) listed l w:=fun a ha=>
 wpAnyH_all hr (by simp) fun j hj=>by
  obtain rfl:j=i:=by simpa using hj
  exact gr hi (h a ha)
theorem ep (i j:Nat) {o u:Oper} (hr:Region.ready .any ops listed=[i,j]) (hi:ops[i]? =some o) (hj:ops[j]? =some u) (h:cz P ops (tn P ops Q S fuel (listed.setIfInBounds i true)) N D l w [o])
 (h':cz P ops (tn P ops Q S fuel (listed.setIfInBounds j true)) N D l w [u]):dh P ops Q N D S (fuel+1) listed l w:=fun a ha=>
 wpAnyH_all hr (by simp) fun k hk=>by
  rcases(by simpa using hk:k=i∨k=j) with rfl|rfl
  ·exact gr hi (h a ha)
  ·exact gr hj (h' a ha)
theorem ao (hS:S w) (k:dh P ops Q N D S fuel listed l w):cz P ops (tn P ops Q S fuel listed) N D l w []:=fun a ha=>⟨rfl,hS,k a ha⟩
theorem iA {α:Type} (fr:α→Fr) (H:α→World→Prop) (listed':Array Bool) (fuel':Nat) (k:∀x w',H x w'→dh P ops Q N D S fuel' listed' (fr x) w')
 (h:(∀l' w',(∃x,zU (fr x) l'∧H x w')→dh P ops Q N D S fuel' listed' l' w')→dh P ops Q N D S fuel listed l w):dh P ops Q N D S fuel listed l w:=
 h fun _ w' ⟨x,hs,hH⟩ a ha=>k x w' hH a (ha.weak hs)
theorem Au {listed':Array Bool} (he:listed=listed') (h:dh P ops Q N D S fuel listed' l w):dh P ops Q N D S fuel listed l w:=he▸h
theorem fx (hr:Region.ready .any ops listed=[]) (h:ia Q N D l w):dh P ops Q N D S fuel listed l w:=fun a ha=>wpAnyH_done hr ⟨rfl,h a ha⟩ _
end
end Go.Rl
namespace Go.Rl
open Go.RowKit Go.Proofs
theorem ob:aJ Tryz.prog 103:=⟨_,Tryz.func103,by kernel_rfl,rfl⟩
theorem jo:aJ Tryz.prog 81:=⟨_,Tryz.func81,by kernel_rfl,rfl⟩
theorem aH.at {w w':World} (hx:aH w w') {g:Nat} {o:Obj} (h:w.heap[g]? =some o):w'.heap[g]? =some o:=by
 rw[hx.block g (by obtain⟨h,_⟩:=Array.getElem?_eq_some_iff.1 h;exact h)]
 exact h
theorem cL.low {base base':Nat} {l:List UInt8} {v:Value} {w:World} (h:cL base l v w) (hb:base'≤base):cL base' l v w:=by
 have hge:=h.ge
 obtain⟨n,h⟩:=h
 exact⟨n,ir h fun k hk=>Nat.le_trans hb (hge k hk)⟩
theorem cL.grown {base:Nat} {l:List UInt8} {u v r:Value} {w w':World} (h:cL base l u w) (hg:gR w w' v r) (hne:u.ownBlock=none∨u.ownBlock≠v.ownBlock):cL base l u w':=by
 obtain⟨n,h⟩:=h
 exact⟨n,World.ownsRow.kept h hg.grown hne⟩
theorem cL.lt {base:Nat} {l:List UInt8} {v:Value} {w:World} (h:cL base l v w):∀k,v.ownBlock=some k→k<w.heap.size:=by
 obtain⟨n,h⟩:=h
 exact fun k hk=>(World.ownsRow.lt h k hk).2
def du (b:Bool) (n m:List UInt32):dv:=fun v w=>∃x y,v=.agg #[B b,x,y]∧bk n x w∧bk m y w
theorem du.ext {b:Bool} {n m:List UInt32} {v:Value} {w w':World} (h:du b n m v w) (hx:aH w w'):du b n m v w':=by
 obtain⟨x,y,rfl,h1,h2⟩:=h
 exact⟨x,y,rfl,h1.ext hx,h2.ext hx⟩
def Bk (b:Bool):UInt8:=if b then 1 else 0
def pY (b:Bool) (n m:List UInt32):List UInt8:=[Bk b]++mh n++mh m
theorem uG:(Tryz.prog.info? 4).map (·.size)=some 1:=by kernel_rfl
theorem re:(Tryz.prog.info? 44).map (·.size)=some 1:=by kernel_rfl
theorem dX:(Tryz.prog.info? 46).map (·.size)=some 3:=by kernel_rfl
section
variable {w:World} {l:List UInt8} {ns:List UInt32} {v nv:Value}
theorem nJ (hv:cK l v w) (hn:bk ns nv w) (hl:l.length+4*ns.length≤35184372088832):
 Calls Tryz.prog 119 #[v,nv] w (bN fun r w'=>aH w w'∧cL w.heap.size (l++mh ns) r w'):=by
 refine enter (vs:=[v,nv]) Tryz.func119 E E E ?_
 refine af (aa (ac E E (ag (ab (af (aa (ae E E (ae E E ?_))))))))
 refine aV E E (bz Lj hn) ?_
 refine bb E E (fO Lo Lp) ?_
 refine an ei E E (ej hv (by omega)) ?_
 rintro b1 w1 ⟨hx1,hb1⟩
 have hns:=hn.len
 have hlen:(UInt64.ofNat ns.length).toNat=ns.length:=by rw[UInt64.toNat_ofNat'];omega
 rw[hlen] at hb1
 have huv:=iL (n:=ns.length) (by omega)
 refine ac E E (ag (ab (af (af (aa (ac E E (ag (ab (aG ?_)))))))))
 refine ck (α:=Nat×Value) (fun x=>[(1,nv),(5,x.2),(6,I (x.1:Int))])
  (fun x w'=>cL w.heap.size (l++uv ns.length++lC (ns.take x.1)) x.2 w'∧aH w w'∧x.1≤ns.length) (fun x=>ns.length-x.1) (0,b1) ⟨rfl,rfl,rfl,trivial⟩
  ⟨by simpa [lC] using hb1,hx1,by simp⟩ ?_
 rintro⟨k,b⟩ w2 ⟨hb,hx2,hk⟩
 dsimp only at hb hx2 hk
 have hdl:(l++uv ns.length++lC (ns.take k)).length≤35184372088832+10:=by
  simp only[List.length_append,fU,List.length_take];omega
 refine af (af (aa (ae E E (ae E E ?_))))
 refine aV E E (bz Lj (hn.ext hx2)) ?_
 refine al E E E (a6) ?_
 refine ag (ab ?_)
 refine bu E (fun h=>?_) (fun h=>?_)
 ·have hlt:k<ns.length:=by omega
  refine aC (ab (af (aG ?_)))
  obtain⟨ad,had,hcell⟩:=cQ Lj (hn.ext hx2) hlt .i64
  have hld:∀w',aH w2 w'→(Instr.loadAt 149 (.pointer (some ad))).run Tryz.prog w'=.ok (bE ns[k]) w':=fun w' hw'=>by
   obtain⟨ad',had',hcell'⟩:=cQ Lj (hn.ext (hx2.trans hw')) hlt .i64
   have:=(had w').symm.trans (had' w')
   simp only[Result.ok.injEq,Value.pointer.injEq,Option.some.injEq,and_true] at this
   subst this
   exact IZ hcell'
  refine bP 25 [1,6,18,42] (by kernel_rfl) (by kernel_rfl) ?_
  refine ax E E (ax E E (ax E E ?_))
  refine aD E E E (fun w _=>had w) ?_
  refine aQ E E hld ?_
  refine dU E E (fun w _=>dG Ll Lx) ?_
  refine ax E E (ax E E ?_)
  refine aD E E E (fun w _=>had w) ?_
  refine aQ E E hld ?_
  refine aZ E E E (fun w _=>cO 8 (by omega)) ?_
  refine dU E E (fun w _=>dG Ll Lx) ?_
  refine ax E E (ax E E ?_)
  refine aD E E E (fun w _=>had w) ?_
  refine aQ E E hld ?_
  refine aZ E E E (fun w _=>cO 16 (by omega)) ?_
  refine dU E E (fun w _=>dG Ll Lx) ?_
  refine ax E E (ax E E ?_)
  refine aD E E E (fun w _=>had w) ?_
  refine aQ E E hld ?_
  refine aZ E E E (fun w _=>cO 24 (by omega)) ?_
  refine dU E E (fun w _=>dG Ll Lx) ?_
  refine eG (S:=cK (CR ns[k])) (cK.stable _) E (fun w' _=>by
   rintro _ rfl _ rfl _ rfl _ rfl
   obtain⟨r3,w3,hr3,hx3,ho3,_⟩:=dS (w:=w') w'.heap.size (CR ns[k]) (by simp[CR]) (Nat.le_refl _)
   exact⟨r3,w3,hr3,hx3,ho3.bts⟩) ?_
  refine cn ?_
  intro w3 hx3
  rintro _ rfl _ rfl _ rfl r3 hr3
  obtain⟨r4,w4,hr4,ho4,hg4⟩:=di (ty:=22) (hb.ext hx3) hr3 (by simp only[CR,List.length_cons,List.length_nil];omega) (Nat.le_trans hx2.size hx3.size)
  refine aT E E hr4 ?_
  refine ac E E (ag (aW (ab (aa (ae E E ?_)))))
  refine al E E E (aR (by omega) (by omega)) ?_
  refine ac E E (ag ?_)
  refine bS (k+1,r4) ⟨rfl,rfl,rfl,trivial⟩ ⟨?_,(hx2.trans hx3).of_grew hg4 hb.ge,hlt⟩ (by show ns.length-(k+1)<ns.length-k;omega)
  show cL _ (l++uv ns.length++lC (ns.take (k+1))) r4 w4
  rw[wK ns k hlt,←List.append_assoc]
  exact ho4
 ·have hk':k=ns.length:=by omega
  refine bc (aK (aK (bf (ab (af (aa (ae E E (ac E E (ag (ab (aw ?_)))))))))))
  refine au E E ?_
  rw[hk',List.take_length,List.append_assoc] at hb
  exact⟨_,rfl,hx2,hb⟩
theorem oc {b:Bool} {n m:List UInt32} {rv:Value} (hv:cK l v w) (hr:du b n m rv w) (hl:l.length+4*n.length+4*m.length≤8796093022208):
 Calls Tryz.prog 103 #[v,rv] w (bN fun r w'=>aH w w'∧cL w.heap.size (l++pY b n m) r w'):=by
 obtain⟨x,y,rfl,hx,hy⟩:=hr
 have hn:=z8 n (by have:=hx.len;omega)
 refine enter (vs:=[v,.agg #[B b,x,y]]) Tryz.func103 E E E ?_
 refine af (aa (cw E E wI ?_))
 have e1:aH w (w.alloc (.cells (Value.agg #[B b,x,y]).cells 46)):=aH.new w _
 have hbx:=heap_alloc_new w (.cells (Value.agg #[B b,x,y]).cells 46)
 revert e1 hbx
 generalize w.alloc (.cells (Value.agg #[B b,x,y]).cells 46)=w1
 intro e1 hbx
 have cell:∀(i:Nat) (u:Value),(#[B b,x,y]:Array Value)[i]? =some u→∀w',aH w1 w'→w'.cell? ⟨w.heap.size,i,none⟩=some u:=fun i u hu w' hw'=>iK (hw'.at hbx) hu
 refine ac E E (ag (ab (af (aa (ac E E (ag (ab ?_)))))))
 refine af (ew (fun _:Unit=>[(0,v),(3,.pointer (some ⟨w.heap.size,0,none⟩)),(5,U8 (Bk b))]) (fun _ w'=>w'=w1) ?_ ?_)
 ·refine af (aa ?_)
  refine ah E E (ct Ln E uG (by omega)) ?_
  refine aj E E (ai Lw E (cell 0 _ E _ (aH.refl _))) ?_
  refine ag (ab ?_)
  cases b with
  |true=>exact bm rfl (aa (ac rfl rfl (ag (cf () ⟨rfl,rfl,rfl,trivial⟩ rfl))))
  |false=>exact cN rfl (aC (cf () ⟨rfl,rfl,rfl,trivial⟩ rfl))
 rintro _ w2 rfl
 refine ab (af ?_)
 refine fw (aH w2) 12 E (by kernel_rfl) ?_
 have hd:aH w2 w2.drew:=(aH.refl w2).drew
 refine cF 0 E E (by kernel_rfl) E hd ?_
 refine cF 2 E E (by kernel_rfl) E hd ?_
 refine dl 5 E E (by kernel_rfl) E hd (fun w' _=>ct Ln E re (by omega)) ?_
 refine d6 6 E E (by kernel_rfl) E hd (fun w' hw'=>ai Lj E (cell 1 _ E _ hw')) ?_
 refine dl 8 E E (by kernel_rfl) E hd (fun w' _=>ct Ln E re (by omega)) ?_
 refine d6 9 E E (by kernel_rfl) E hd (fun w' hw'=>ai Lj E (cell 2 _ E _ hw')) ?_
 refine iA (fun p:Value×Value=>[(9,p.1),(11,p.2),(14,x),(17,y)]) (fun p w'=>aH w2 w'∧cL w2.heap.size l p.1 w'∧cK [Bk b] p.2 w') #[true,true,true,true,false,true,true,false,true,true,false,false] 4 ?_ (fun join=>ep 1 3 (by kernel_rfl) E E ?_ ?_)
 ·rintro⟨r9,r11⟩ w3 ⟨hx3,ho9,ho11⟩
  dsimp only at ho9 ho11
  refine aO 4 (by kernel_rfl) E ?_
  obtain⟨r4,w4,hr4,ho4,hg4⟩:=di (ty:=22) ho9 ho11 (by simp only[List.length_cons,List.length_nil];omega) hx3.size
  have hx4:=hx3.of_grew hg4 ho9.ge
  refine aT E E hr4 (ao hx4 ?_)
  refine aO 7 (by kernel_rfl) E ?_
  refine an z7 E E (Aa hx4 ho4 (hx.ext e1) (by simp only[List.length_append,List.length_cons,List.length_nil];omega)) ?_
  rintro r5 w5 ⟨ho5,hx5,_⟩
  refine ao hx5 (aO 10 (by kernel_rfl) E ?_)
  refine an z7 E E (Aa hx5 ho5 (hy.ext e1) (by simp only[List.length_append,List.length_cons,List.length_nil];omega)) ?_
  rintro r6 w6 ⟨ho6,hx6,_⟩
  refine ao hx6 (aO 11 (by kernel_rfl) E ?_)
  refine ac E E (ao hx6 (fx (by kernel_rfl) (ab (aw ?_))))
  refine au E E ?_
  refine⟨_,rfl,e1.trans hx6,?_⟩
  have:=ho6.low e1.size
  simpa only[pY,List.append_assoc] using this
 ·refine an jV E E (jX ((hv.ext e1).ext hd) (by omega)) ?_
  rintro r9 w3 ⟨hx3,ho9⟩
  obtain⟨r11,w4,hr11,hx4,ho11,_⟩:=dS (w:=w3) w3.heap.size [Bk b] (by simp) (Nat.le_refl _)
  refine ao (hd.trans hx3) (aO 3 (by kernel_rfl) E ?_)
  refine aF (vs:=[(0,U8 (Bk b))]) E E hr11 (ao ((hd.trans hx3).trans hx4) (Au (by kernel_rfl) (join _ _ ⟨(r9,r11),⟨rfl,rfl,rfl,rfl,trivial⟩,(hd.trans hx3).trans hx4,?_,ho11.bts⟩)))
  exact(ho9.ext hx4).low hd.size
 ·obtain⟨r11,w3,hr11,hx3,ho11,_⟩:=dS (w:=w2.drew) w2.heap.size [Bk b] (by simp) hd.size
  refine aF (vs:=[(0,U8 (Bk b))]) E E hr11 (ao (hd.trans hx3) (aO 1 (by kernel_rfl) E ?_))
  refine an jV E E (jX (((hv.ext e1).ext hd).ext hx3) (by omega)) ?_
  rintro r9 w4 ⟨hx4,ho9⟩
  refine ao ((hd.trans hx3).trans hx4) (Au (by kernel_rfl) (join _ _ ⟨(r9,r11),⟨rfl,rfl,rfl,rfl,trivial⟩,(hd.trans hx3).trans hx4,?_,ho11.bts.ext hx4⟩))
  exact ho9.low (hd.trans hx3).size
theorem jp {b:Bool} {n m:List UInt32} {rv:Value} (hv:cK l v w) (hr:du b n m rv w) (hl:l.length+4*n.length+4*m.length≤8796093022208):
 Calls Tryz.prog 81 #[v,rv] w (bN fun r w'=>aH w w'∧cL w.heap.size (l++pY b n m) r w'):=by
 obtain⟨x,y,rfl,hx,hy⟩:=hr
 have hn:=z8 n (by have:=hx.len;omega)
 refine enter (vs:=[v,.agg #[B b,x,y]]) Tryz.func81 E E E ?_
 refine af (aa (cw E E wI ?_))
 have e1:aH w (w.alloc (.cells (Value.agg #[B b,x,y]).cells 46)):=aH.new w _
 have hbx:=heap_alloc_new w (.cells (Value.agg #[B b,x,y]).cells 46)
 revert e1 hbx
 generalize w.alloc (.cells (Value.agg #[B b,x,y]).cells 46)=w1
 intro e1 hbx
 have cell:∀(i:Nat) (u:Value),(#[B b,x,y]:Array Value)[i]? =some u→∀w',aH w1 w'→w'.cell? ⟨w.heap.size,i,none⟩=some u:=fun i u hu w' hw'=>iK (hw'.at hbx) hu
 refine ac E E (ag (ab (af (aa (ac E E (ag (ab ?_)))))))
 refine af (ew (fun _:Unit=>[(0,v),(3,.pointer (some ⟨w.heap.size,0,none⟩)),(5,U8 (Bk b))]) (fun _ w'=>w'=w1) ?_ ?_)
 ·refine af (aa ?_)
  refine ah E E (ct Ln E uG (by omega)) ?_
  refine aj E E (ai Lw E (cell 0 _ E _ (aH.refl _))) ?_
  refine ag (ab ?_)
  cases b with
  |true=>exact bm rfl (aa (ac rfl rfl (ag (cf () ⟨rfl,rfl,rfl,trivial⟩ rfl))))
  |false=>exact cN rfl (aC (cf () ⟨rfl,rfl,rfl,trivial⟩ rfl))
 rintro _ w2 rfl
 refine ab (af ?_)
 refine fw (aH w2) 13 E (by kernel_rfl) ?_
 have hd:aH w2 w2.drew:=(aH.refl w2).drew
 refine cF 1 E E (by kernel_rfl) E hd ?_
 refine cF 3 E E (by kernel_rfl) E hd ?_
 refine dl 6 E E (by kernel_rfl) E hd (fun w' _=>ct Ln E re (by omega)) ?_
 refine d6 7 E E (by kernel_rfl) E hd (fun w' hw'=>ai Lj E (cell 1 _ E _ hw')) ?_
 refine dl 9 E E (by kernel_rfl) E hd (fun w' _=>ct Ln E re (by omega)) ?_
 refine d6 10 E E (by kernel_rfl) E hd (fun w' hw'=>ai Lj E (cell 2 _ E _ hw')) ?_
 have hv2:cK l v w2:=hv.ext e1
 refine iA (fun p:Value×Value=>[(10,p.1),(12,p.2),(15,x),(18,y)]) (fun p w'=>aH w2 w'∧cL w2.heap.size l p.1 w'∧cK [Bk b] p.2 w') #[true,true,true,true,true,false,true,true,false,true,true,false,false] 4 ?_ (fun join=>ep 0 4 (by kernel_rfl) E E ?_ ?_)
 ·rintro⟨r9,r11⟩ w3 ⟨hx3,ho9,ho11⟩
  dsimp only at ho9 ho11
  refine aO 5 (by kernel_rfl) E ?_
  obtain⟨r4,w4,hr4,ho4,hg4⟩:=di (ty:=22) ho9 ho11 (by simp only[List.length_cons,List.length_nil];omega) hx3.size
  have hx4:=hx3.of_grew hg4 ho9.ge
  refine aT E E hr4 (ao hx4 ?_)
  refine aO 8 (by kernel_rfl) E ?_
  refine an nH E E (nJ ho4.bts ((hx.ext e1).ext hx4) (by simp only[List.length_append,List.length_cons,List.length_nil];omega)) ?_
  rintro r5 w5 ⟨hx5,ho5⟩
  refine ao (hx4.trans hx5) (aO 11 (by kernel_rfl) E ?_)
  refine an nH E E (nJ ho5.bts ((hy.ext e1).ext (hx4.trans hx5)) (by simp only[List.length_append,List.length_cons,List.length_nil];omega)) ?_
  rintro r6 w6 ⟨hx6,ho6⟩
  have q6:=(hx4.trans hx5).trans hx6
  refine ao q6 (aO 12 (by kernel_rfl) E ?_)
  refine ac E E (ao q6 (fx (by kernel_rfl) (ab (aw ?_))))
  refine au E E ?_
  refine⟨_,rfl,e1.trans q6,?_⟩
  have:=ho6.low (e1.trans (hx4.trans hx5)).size
  simpa only[pY,List.append_assoc] using this
 ·obtain⟨r8,w3,hr8,hx3,ho8,_⟩:=dS (w:=w2.drew) w2.heap.size [] (by simp) hd.size
  refine aF (vs:=[]) E E hr8 (ao (hd.trans hx3) (ep 2 4 (by kernel_rfl) E E ?_ ?_))
  ·obtain⟨r4,w4,hr4,ho4,hg4⟩:=di (ty:=22) ho8 ((hv2.ext hd).ext hx3) (by simp only[List.length_nil];omega) (hd.trans hx3).size
   have hx4:=(hd.trans hx3).of_grew hg4 ho8.ge
   refine aT E E hr4 (ao hx4 (aO 4 (by kernel_rfl) E ?_))
   obtain⟨r11,w5,hr11,hx5,ho11,_⟩:=dS (w:=w4) w4.heap.size [Bk b] (by simp) (Nat.le_refl _)
   refine aF (vs:=[(0,U8 (Bk b))]) E E hr11 (ao (hx4.trans hx5) (Au (by kernel_rfl) (join _ _ ⟨(r4,r11),⟨rfl,rfl,rfl,rfl,trivial⟩,hx4.trans hx5,?_,ho11.bts⟩)))
   exact ho4.ext hx5
  ·obtain⟨r11,w4,hr11,hx4,ho11,hb11⟩:=dS (w:=w3) w3.heap.size [Bk b] (by simp) (Nat.le_refl _)
   have hx04:=(hd.trans hx3).trans hx4
   refine aF (vs:=[(0,U8 (Bk b))]) E E hr11 (ao hx04 (aO 2 (by kernel_rfl) E ?_))
   obtain⟨r4,w5,hr4,ho4,hg4⟩:=di (ty:=22) (ho8.ext hx4) (hv2.ext hx04) (by simp only[List.length_nil];omega) hx04.size
   have hx5:=hx04.of_grew hg4 ho8.ge
   have hb5:=ho11.grown hg4 (.inr (by rw[hb11];intro he;have:=ho8.lt _ he.symm;omega))
   exact aT rfl rfl hr4 (ao hx5 (Au (by kernel_rfl) (join _ _ ⟨(r4,r11),⟨rfl,rfl,rfl,rfl,trivial⟩,hx5,ho4,hb5.bts⟩)))
 ·obtain⟨r11,w3,hr11,hx3,ho11,hb11⟩:=dS (w:=w2.drew) w2.drew.heap.size [Bk b] (by simp) (Nat.le_refl _)
  have hx03:=hd.trans hx3
  refine aF (vs:=[(0,U8 (Bk b))]) E E hr11 (ao hx03 (aO 0 (by kernel_rfl) E ?_))
  obtain⟨r8,w4,hr8,hx4,ho8,hb8⟩:=dS (w:=w3) w2.heap.size [] (by simp) hx03.size
  have hx04:=hx03.trans hx4
  refine aF (vs:=[]) E E hr8 (ao hx04 (aO 2 (by kernel_rfl) E ?_))
  obtain⟨r4,w5,hr4,ho4,hg4⟩:=di (ty:=22) ho8 (hv2.ext hx04) (by simp only[List.length_nil];omega) hx04.size
  have hx5:=hx04.of_grew hg4 ho8.ge
  have hb5:=(ho11.ext hx4).grown hg4 (.inr (by rw[hb8];intro he;have:=ho11.lt _ he;omega))
  exact aT rfl rfl hr4 (ao hx5 (Au (by kernel_rfl) (join _ _ ⟨(r4,r11),⟨rfl,rfl,rfl,rfl,trivial⟩,hx5,ho4,hb5.bts⟩)))
end
end Go.Rl
namespace Go.Rl
open Go.RowKit Go.Proofs
section
variable {P:Program} {w w':World}
theorem av {s:TypeId} {fs:Array Field} {f:Field} {n g o:Nat} (hs:P.underlying s=some (.struct fs)) (hf:fs[n]? =some f) (hk:(P.cellsOf f.type==0)=false) (ho:f.offset=o):
 (Instr.fieldAt s (.pointer (some ⟨g,0,none⟩)) n).run P w=.ok (.pointer (some ⟨g,o,none⟩)) w:=by
 have hk':P.cellsOf f.type≠0:=by simpa using hk
 obtain⟨k,hk1⟩:∃k,(P.info? f.type).map (·.size)=some k:=by
  cases hi:(P.info? f.type).map (·.size) with
  |none=>exact absurd (by simp[Program.cellsOf,hi]) hk'
  |some k=>exact⟨k,rfl⟩
 have hk0:k≠0:=by
  intro h
  apply hk'
  simp[Program.cellsOf,hk1,h]
 rw[ct hs hf hk1 hk0,ho,pJ,Nat.zero_add]
end
section
variable {w w':World}
theorem du.stable (b:Bool) (n m:List UInt32):bO (du b n m):=fun _ _ _ h hx=>h.ext hx
theorem du.mk {b:Bool} {n m:List UInt32} {x y:Value} (hx:bk n x w) (hy:bk m y w):du b n m (.agg #[B b,x,y]) w:=⟨x,y,rfl,hx,hy⟩
theorem bQ.ldR {g:Nat} {T:TypeId} {a b c:Value} (h:bQ g T [a,b,c] w):(Instr.loadAt 46 (.pointer (some ⟨g,0,none⟩))).run Tryz.prog w=.ok (.agg #[a,b,c]) w:=
 nV h (fun j v hj=>by simpa using hj) Tryz.underlying46 rfl dX
theorem pZ {b:Bool} {n m:List UInt32} {v:Value} (h:du b n m v w):
 ∃g x y w',(Instr.box 46 v).run Tryz.prog w=.ok (.pointer (some ⟨g,0,none⟩)) w'∧aH w w'∧bQ g 46 [B b,x,y] w'∧bk n x w'∧bk m y w':=by
 obtain⟨x,y,rfl,hx,hy⟩:=h
 exact⟨_,x,y,_,wI,aH.new w _,bQ.new (T:=46) (.agg #[B b,x,y]) rfl,hx.ext (aH.new w _),hy.ext (aH.new w _)⟩
theorem F3:(Tryz.prog.info? 46).map (·.zero)=some (some (.agg #[B false,.slice none 0 0,.slice none 0 0])):=by kernel_rfl
theorem iB:∃g w',(Instr.alloc 46 true (.tuple #[])).run Tryz.prog w=.ok (.pointer (some ⟨g,0,none⟩)) w'∧w.heap.size≤g∧aH w w'∧bQ g 46 [B false,.slice none 0 0,.slice none 0 0] w':=
 a9 F3 rfl
theorem uH (b:Bool) (A C:Option Addr) (n c m d:Nat) (l:List UInt32):∀(j:Nat) (u:Value),u∈l.map bE→(#[.bool b,.slice A n c,.slice C m d]:Array Value)[j]? ≠some u:=by
 intro j u hu
 obtain⟨x,_,rfl⟩:=List.mem_map.1 hu
 match j with
 |0=>simp[bE]
 |1=>simp[bE]
 |2=>simp[bE]
 |j+3=>simp
theorem bk.byR {l:List UInt32} {v:Value} {g:Nat} {T:TypeId} {b:Bool} {x y:Value} (h:bk l v w) (hb:bQ g T [B b,x,y] w) (hx:∃A n c,x=.slice A n c) (hy:∃A n c,y=.slice A n c) (hw:w.grownBy w' (some g)):bk l v w':=by
 obtain⟨A,n,c,rfl⟩:=hx
 obtain⟨C,m,d,rfl⟩:=hy
 exact Sl.keep h hb (uH b A C n c m d l) hw
theorem bk.isS {l:List UInt32} {v:Value} (h:bk l v w):∃A n c,v=.slice A n c:=by
 obtain⟨A,n,c,rfl,_⟩:=h
 exact⟨A,n,c,rfl⟩
theorem bQ.stR {g:Nat} {b c:Bool} {x y v:Value} {n m:List UInt32} (h:bQ g 46 [B b,x,y] w) (hx:∃A n c,x=.slice A n c) (hy:∃A n c,y=.slice A n c) (hv:du c n m v w):
 ∃p q w',v=.agg #[B c,p,q]∧(Instr.storeAt 46 (.pointer (some ⟨g,0,none⟩)) v).run Tryz.prog w=.ok () w'∧w.grownBy w' (some g)∧bQ g 46 [B c,p,q] w'∧bk n p w'∧bk m q w':=by
 obtain⟨p,q,rfl,hp,hq⟩:=hv
 obtain⟨A,n1,c1,rfl⟩:=hp.isS
 obtain⟨C,n2,c2,rfl⟩:=hq.isS
 refine⟨_,_,_,rfl,ju (m:=[B c,.slice A n1 c1,.slice C n2 c2]) h E dX ?_,bJ w g _,h.row _,hp.byR h hx hy (bJ w g _),hq.byR h hx hy (bJ w g _)⟩
 intro u hu
 simp only[List.mem_cons,List.not_mem_nil,or_false] at hu
 rcases hu with rfl|rfl|rfl<;>rfl
theorem tO {P:Program} {x y:Operand} {t:TypeId} (ht:P.underlying t=some .bool) {a b:Bool}:(bin .eql t x y (B a) (B b)).run P w=.ok (B (decide (a=b))) w:=by
 have h:(Op.equal t (B a) (B b)).run P w=.ok (decide (a=b)) w:=by
  show(Op.equalIn (9999+1) t (.bool a) (.bool b)).run P w=_
  unfold Op.equalIn
  cases a<;>cases b<;>simp[run_underlying ht]
 show(do pure (Value.bool (←Op.equal t (B a) (B b))):Sem Value).run P w=_
 rw[Sem.run_bind,h];rfl
theorem lH {c:Bool} {p q:Value} (hp:∃A n c,p=.slice A n c) (hq:∃A n c,q=.slice A n c):(Instr.build 46 #[(0,B c),(1,p),(2,q)]).run Tryz.prog w=.ok (.agg #[B c,p,q]) w:=by
 obtain⟨A,n,d,rfl⟩:=hp
 obtain⟨C,m,e,rfl⟩:=hq
 exact run_build _ _ _ #[B c,.slice A n d,.slice C m e] (by kernel_rfl)
theorem Eg {c:Bool} {p:Value} (hp:∃A n c,p=.slice A n c):(Instr.build 46 #[(0,B c),(1,p)]).run Tryz.prog w=.ok (.agg #[B c,p,.slice none 0 0]) w:=by
 obtain⟨A,n,d,rfl⟩:=hp
 exact run_build _ _ _ #[B c,.slice A n d,.slice none 0 0] (by kernel_rfl)
theorem iS:(Instr.build 46 #[]).run Tryz.prog w=.ok (.agg #[B false,.slice none 0 0,.slice none 0 0]) w:=
 run_build _ _ _ #[B false,.slice none 0 0,.slice none 0 0] (by kernel_rfl)
end
theorem iC:∀{l m:List UInt32},l.length=m.length→val l=val m→l=m
 |[],[],_,_=>rfl
 |[],_::_,h,_=>by simp at h
 |_::_,[],h,_=>by simp at h
 |x::l,y::m,h,hv=>by
  have hx:=cV x
  have hy:=cV y
  rw[val,val] at hv
  have h1:x.toNat=y.toNat:=by omega
  have h2:val l=val m:=by omega
  rw[mn h1,iC (by simpa using h) h2]
def ud (m:List UInt32):List UInt32:=if val m=0 then[1] else m
theorem F5:val [1]=1:=rfl
theorem yC:lb 1=[1]:=rfl
theorem BE (m:List UInt32):val (ud m)=if val m=0 then 1 else val m:=by unfold ud;split<;>simp_all [F5]
theorem F6 (m:List UInt32):0<val (ud m):=by rw[BE];split<;>omega
def Av (s:Bool) (n:Nat):Bool:=s&&decide (0<n)
def yD (n d:Nat):List UInt32:=if d/Nat.gcd n d=1 then[] else lb (d/Nat.gcd n d)
def rv (s:Bool) (n m:List UInt32):Bool:=decide (s=Av s (val n)∧n=lb (val n/Nat.gcd (val n) (val (ud m)))∧m=yD (val n) (val (ud m)))
theorem C6 {n d:Nat} (h:0<d):0<Nat.gcd n d:=Nat.gcd_pos_of_pos_right n h
theorem F7 {x:Nat}:lb x=[1]↔x=1:=⟨fun h=>FK (h.trans yC.symm),fun h=>by rw[h,yC]⟩
theorem HT {d:Nat} (h:0<d):yD 0 d=[]:=by unfold yD;rw[Nat.gcd_zero_left,Nat.div_self h,if_pos rfl]
theorem F8 {n:Nat}:yD n 1=[]:=by unfold yD;rw[Nat.gcd_one_right];rfl
end Go.Rl
namespace Go.Rl
open Go.RowKit Go.Proofs
section
variable {α:Type} {f:α→Dt} {l:List α} {v:Value} {w w':World}
def cd (f:α→Dt) (l:List α) (v:Value) (w:World):Prop:=Rp w (.sl (l.map f)) [v]
theorem cd.ext (h:cd f l v w) (hx:aH w w'):cd f l v w':=Rp.ext hx h
theorem cd.stable (f:α→Dt) (l:List α):bO (cd f l):=fun _ _ _ h hx=>h.ext hx
theorem cd.isS (h:cd f l v w):∃A n c,v=.slice A n c:=by
 unfold cd at h
 simp only[Rp] at h
 obtain⟨A,n,c,hv,_⟩:=h
 exact⟨A,n,c,by simpa using hv⟩
theorem cd.one (h:cd f l v w):v.oneCell'=true:=by obtain⟨A,n,c,rfl⟩:=h.isS;rfl
theorem bk.one {l:List UInt32} (h:bk l v w):v.oneCell'=true:=by obtain⟨A,n,c,rfl⟩:=h.isS;rfl
theorem cd.nil (f:α→Dt) (w:World):cd f [] (.slice none 0 0) w:=Rp.nilSl
theorem cd.len (h:cd f l v w):l.length≤9223372036854775807:=by
 have:=Rp.slLen h
 simpa using this
theorem aY {P:Program} {t e:TypeId} {ty:TypeId} (ht:P.underlying t=some (.slice e)) (h:cd f l v w):(Builtin.len_ #[t] ty #[v]).run P w=.ok (I l.length) w:=by
 have:=Jq (ty:=ty) ht h
 simpa using this
theorem cb {P:Program} {t e:TypeId} {sz:Nat} (ht:P.underlying t=some (.slice e)) (hz:(P.info? e).map (·.size)=some sz) (hs:∀x,(f x).size=sz) (h0:0<sz) (h:cd f l v w) {i:Nat} (hi:i<l.length) (k:IntKind):
 ∃ad cs,(∀w':World,(Instr.indexAt t v (.int k i)).run P w'=.ok (.pointer (some ad)) w')∧dw w ad cs∧Rp w (f l[i]) cs:=by
 obtain⟨ad,cs,h1,h2,h3⟩:=KG ht hz h (by simp[hs]) h0 (i:=i) (by simpa using hi) k
 exact⟨ad,cs,h1,h2,by simpa using h3⟩
theorem dw.at {ad:Addr} {xs:List Value} (h:dw w ad xs) {j:Nat} {u:Value} (hj:xs[j]? =some u):w.cell? (ad.add j)=some u:=h j u hj
theorem gt {P:Program} {s:TypeId} {fs:Array Field} {fd:Field} {n o:Nat} {a:Addr} (hs:P.underlying s=some (.struct fs)) (hf:fs[n]? =some fd) (hk:(P.cellsOf fd.type==0)=false) (ho:fd.offset=o):
 (Instr.fieldAt s (.pointer (some a)) n).run P w=.ok (.pointer (some (a.add o))) w:=by
 have hk':P.cellsOf fd.type≠0:=by simpa using hk
 obtain⟨k,hk1⟩:∃k,(P.info? fd.type).map (·.size)=some k:=by
  cases hi:(P.info? fd.type).map (·.size) with
  |none=>exact absurd (by simp[Program.cellsOf,hi]) hk'
  |some k=>exact⟨k,rfl⟩
 have hk0:k≠0:=by
  intro h
  apply hk'
  simp[Program.cellsOf,hk1,h]
 rw[ct hs hf hk1 hk0,ho]
theorem KP {P:Program} {s:TypeId} {fs:Array Field} {fd:Field} {n o b:Nat} {a:Addr} (hs:P.underlying s=some (.struct fs)) (hf:fs[n]? =some fd) (hk:(P.cellsOf fd.type==0)=false) (ho:fd.offset=o):
 (Instr.fieldAt s (.pointer (some (a.add b))) n).run P w=.ok (.pointer (some (a.add (b+o)))) w:=by
 rw[gt hs hf hk ho,qJ]
theorem dw.ld {P:Program} {t:TypeId} {d:TypeDesc} {ad:Addr} {cs:List Value} (h:dw w ad cs) (ht:P.underlying t=some d) (hd:d.isRow=true) (hz:(P.info? t).map (·.size)=some cs.length):(Instr.loadAt t (.pointer (some ad))).run P w=.ok (.agg cs.toArray) w:=KH h ht hd hz
theorem bQ.ld {P:Program} {t T:TypeId} {d:TypeDesc} {g:Nat} {cs:List Value} (h:bQ g T cs w) (ht:P.underlying t=some d) (hd:d.isRow=true) (hz:(P.info? t).map (·.size)=some cs.length):(Instr.loadAt t (.pointer (some ⟨g,0,none⟩))).run P w=.ok (.agg cs.toArray) w:=
 nV h (fun j v hj=>by simpa using hj) ht hd hz
theorem bQ.ldO {P:Program} {t T:TypeId} {d:TypeDesc} {g o:Nat} {cs ms:List Value} (h:bQ g T cs w) (hm:∀j v,ms[j]? =some v→cs[o+j]? =some v) (ht:P.underlying t=some d) (hd:d.isRow=true) (hz:(P.info? t).map (·.size)=some ms.length):(Instr.loadAt t (.pointer (some ⟨g,o,none⟩))).run P w=.ok (.agg ms.toArray) w:=
 nV h hm ht hd hz
theorem cq {P:Program} {T:TypeId} {cs:List Value}:∃g w',(Instr.box T (.agg cs.toArray)).run P w=.ok (.pointer (some ⟨g,0,none⟩)) w'∧w.heap.size≤g∧aH w w'∧bQ g T cs w':=
 ⟨_,_,wI,Nat.le_refl _,aH.new w _,bQ.new (T:=T) (.agg cs.toArray) rfl⟩
def ap (l:List Value):Prop:=∀v∈l,v.oneCell'=true
theorem ap.nil:ap []:=fun _ h=>by simp at h
theorem ap.cons {v:Value} {l:List Value} (h:v.oneCell'=true) (h':ap l):ap (v::l):=fun u hu=>by
 rcases List.mem_cons.1 hu with rfl|hu
 ·exact h
 ·exact h' u hu
theorem bQ.stS {P:Program} {t T:TypeId} {g:Nat} {l m:List Value} (h:bQ g T l w) (hl:l.length=m.length) (hi:(P.info? t).map (·.size)=some m.length) (h1:ap m):
 ∃w',(Instr.storeAt t (.pointer (some ⟨g,0,none⟩)) (.agg m.toArray)).run P w=.ok () w'∧w.grownBy w' (some g)∧bQ g T m w':=
 ⟨_,ju h hl hi h1,bJ w g _,h.row m⟩
theorem bQ.stC {P:Program} {t T:TypeId} {g i:Nat} {l:List Value} {v:Value} (h:bQ g T l w) (hs:(P.info? t).map (·.size)=some 1) (hv:v.oneCell'=true) (hi:i<l.length):
 ∃w',(Instr.storeAt t (.pointer (some ⟨g,i,none⟩)) v).run P w=.ok () w'∧w.grownBy w' (some g)∧bQ g T (l.set i v) w':=by
 have h':=h
 unfold bQ at h'
 obtain h2:=el (P:=P) (t:=t) (v:=v) hs hv h' (by simpa using hi)
 exact⟨_,h2,bi w g i v,h.set i v⟩
end
end Go.Rl
namespace Go.Rl
open Go.RowKit Go.Proofs
open Go.Maps (Keyed)
section ops
variable {P:Program} {ops:Array Oper} {Q:iq} {N:Nat} {D:List Deferred} {l:Fr} {w w':World} {rest:List Oper} {d:Nat} {ty:TypeId} {pos:String} {aft:Array Edge}
end ops
theorem bQ.k0 {w:World} {g:Nat} {T:TypeId} {v:Value} {l:List Value} (h:bQ g T (v::l) w):w.cell? ⟨g,0,none⟩=some v:=h.cell (i:=0) rfl
end Go.Rl
namespace Go.Rl
open Go.RowKit Go.Proofs
section
variable {w0 w w':World} {l m:List UInt8} {v x:Value} {ty t t2 T:TypeId} {g base:Nat}
theorem BF (ht:Tryz.prog.underlying t=some (.slice 5)) (ht2:Tryz.prog.underlying t2=some (.slice 5)) (a b:Value):(Builtin.append_ #[t,t2] ty #[a,b]).run Tryz.prog w=(Builtin.append_ #[22,22] ty #[a,b]).run Tryz.prog w:=by
 unfold Builtin.append_
 cases a<;>simp[Sem.run_bind,run_underlying ht,run_underlying ht2,run_underlying Tryz.underlying22]
structure gu (T:TypeId) (base g:Nat) (l:List UInt8) (v:Value) (w:World):Prop where
 ge:base≤g
 blk:bQ g T [v] w
 row:Jp base l v w
 new:∀k,v.ownBlock=some k→base≤k
 off:v.ownBlock≠some g
 lt:∀k,v.ownBlock=some k→k<w.heap.size
theorem Jp.bts (h:Jp base l v w):cK l v w:=h.elim (·.bts) (·.1)
theorem gu.ext (h:gu T base g l v w) (hx:aH w w'):gu T base g l v w':=⟨h.ge,h.blk.ext hx,h.row.ext hx,h.new,h.off,fun k hk=>Nat.lt_of_lt_of_le (h.lt k hk) hx.size⟩
theorem gu.off_new {k:Nat} (h:gu T base g l v w) (hk:w.heap.size≤k):¬(k=g∨v.ownBlock=some k):=by
 rintro(rfl|h1)
 ·have:=h.blk.lt;omega
 ·have:=h.lt k h1;omega
structure cW (g:Nat) (v:Value) (w:World) (v':Value) (w':World):Prop where
 mv:Mv (fun k=>k=g∨v.ownBlock=some k) w w'
 own:∀k,v'.ownBlock=some k→v.ownBlock=some k∨w.heap.size≤k
theorem cW.of_ext (h:aH w w'):cW g v w v w':=⟨Mv.of_ext h,fun _ h=>.inl h⟩
theorem cW.refl:cW g v w v w:=cW.of_ext (aH.refl w)
theorem cW.trans {v1 v2:Value} {w1 w2:World} (h:cW g v w v1 w1) (k:cW g v1 w1 v2 w2):cW g v w v2 w2:=by
 refine⟨h.mv.trans k.mv fun n hn hlt=>?_,fun n hn=>?_⟩
 ·rcases hn with hn|hn
  ·exact .inl hn
  ·rcases h.own n hn with h1|h1
   ·exact .inr h1
   ·omega
 ·rcases k.own n hn with h1|h1
  ·exact h.own n h1
  ·exact .inr (Nat.le_trans h.mv.size h1)
theorem cW.off {k:Nat} {v1:Value} {w1:World} (h:cW g v w v1 w1) (hn:¬(k=g∨v.ownBlock=some k)) (hk:k<w.heap.size):¬(k=g∨v1.ownBlock=some k):=by
 rintro(h1|h1)
 ·exact hn (.inl h1)
 ·rcases h.own k h1 with h2|h2
  ·exact hn (.inr h2)
  ·omega
theorem cW.ext {v1:Value} {w1:World} (h:cW g v w v1 w1) (h0:aH w0 w) (hg:w0.heap.size≤g) (hv:∀k,v.ownBlock=some k→w0.heap.size≤k):aH w0 w1:=
 h.mv.ext_from h0 fun k hk=>by
  rcases hk with rfl|hk
  ·exact hg
  ·exact hv k hk
def WrX (g:Nat) (v:Value):Nat→Prop:=fun k=>k=g∨v.ownBlock=some k
theorem bZ.step {v1:Value} {w1:World} {d:Dt} {cs:List Value} (h:bZ (WrX g v) w d cs) (k:cW g v w v1 w1):bZ (WrX g v1) w1 d cs:=h.mv k.mv fun n hn=>by
 rcases hn with hn|hn
 ·exact .inl (.inl hn)
 ·rcases k.own n hn with h1|h1
  ·exact .inl (.inr h1)
  ·exact .inr h1
theorem gu.put (ht:Tryz.prog.underlying t=some (.slice 5)) (hs:(Tryz.prog.info? t).map (·.size)=some 1) (ht2:Tryz.prog.underlying t2=some (.slice 5)) (h:gu T base g l v w) (h0:base≤w.heap.size) (hx:cK m x w) (hm:0<m.length) (hb:l.length+m.length≤140737488355328):
 ∃r w1 w2,(Builtin.append_ #[t,t2] ty #[v,x]).run Tryz.prog w=.ok r w1∧(Instr.storeAt t (.pointer (some ⟨g,0,none⟩)) r).run Tryz.prog w1=.ok () w2∧gu T base g (l++m) r w2∧cW g v w r w2:=by
 have key:∃r w1,(Builtin.append_ #[22,22] ty #[v,x]).run Tryz.prog w=.ok r w1∧cL base (l++m) r w1∧cW g v w r w1∧bQ g T [v] w1∧r.ownBlock≠some g:=by
  rcases h.row with hv|⟨hv,hfull⟩
  ·obtain⟨r,w1,h1,h2,h3⟩:=di (ty:=ty) hv hx hb h0
   refine⟨r,w1,h1,h2,⟨Mv.of_grown h3.grown fun k hk _=>.inr hk,fun k hk=>?_⟩,h.blk.other h3.grown (Ne.symm h.off),?_⟩
   ·rcases h3.own with h4|h4
    ·rw[h4] at hk;exact .inl hk
    ·exact .inr (h4 k hk)
   ·rcases h3.own with h4|h4
    ·rw[h4];exact h.off
    ·intro h5
     have:=h4 g h5
     have:=h.blk.lt
     omega
  ·obtain⟨r,w1,h1,h2,h3⟩:=Br (ty:=ty) (w0:=w) (aH.refl w) (.inr ⟨hv,hfull⟩) hx hm hb
   refine⟨r,w1,h1,h2.low h0,⟨Mv.of_ext h3,fun k hk=>.inr (h2.ge k hk)⟩,h.blk.ext h3,fun h5=>?_⟩
   have:=h2.ge g h5
   have:=h.blk.lt
   omega
 obtain⟨r,w1,h1,h2,h3,h4,h5⟩:=key
 have hr1:r.oneCell'=true:=by
  obtain⟨A,n,c,rfl,_⟩:=h2.bts
  rfl
 obtain⟨w2,h6,h7,h8⟩:=h4.stC (P:=Tryz.prog) (t:=t) (i:=0) (v:=r) hs hr1 (by simp)
 refine⟨r,w1,w2,(BF ht ht2 v x).trans h1,h6,⟨h.ge,h8,.inl ?_,h2.ge,h5,fun k hk=>Nat.lt_of_lt_of_le (h2.lt k hk) h7.size⟩,h3.trans ⟨Mv.of_grown h7 fun k hk _=>.inl (Option.some.inj hk).symm,fun k hk=>.inl hk⟩⟩
 obtain⟨n,h9⟩:=h2
 exact⟨n,World.ownsRow.kept h9 h7 (.inr h5)⟩
theorem F9 (ht:Tryz.prog.underlying t=some (.slice 5)) (l:List UInt8) (hl:l.length≤16777216) (h0:0<l.length):∃v w1 w2,(Instr.buildSlice t l.length (dy 0 (l.map U8)).toArray).run Tryz.prog w=.ok v w1∧(convert t t v).run Tryz.prog w1=.ok v w2∧aH w w2∧cK l v w2∧∃ad,v=.slice (some ad) l.length l.length∧w.heap.size≤ad.block∧ad.block<w2.heap.size:=by
 obtain⟨i,hi,hz0,hs,_⟩:=info_parts tJ
 have hf:∀Z:Array Value,Z.size=(l.map U8).length→Instr.fill (fun i=>some (i*1,1)) Z (dy 0 (l.map U8))=some (l.map U8).toArray:=fun Z hZ=>by
  have:=te (l.map U8) [] Z.toList (fun v hv=>wH (iu l v hv)) (by simpa using hZ)
  simpa using this
 have hle:¬(l.length*1>2^24):=by omega
 have hinfo:(typeInfo 5).run Tryz.prog w=.ok i w:=by simp[typeInfo,hi]
 have hsz:(sizeOf 5).run Tryz.prog w=.ok 1 w:=by simp[sizeOf,hinfo,hs]
 have hzv:(zeroValue 5).run Tryz.prog w=.ok (.int .u8 0) w:=by simp[zeroValue,hinfo,hz0]
 have hrun:(Instr.buildSlice t l.length (dy 0 (l.map U8)).toArray).run Tryz.prog w=.ok (.slice (some ⟨w.heap.size,0,none⟩) l.length l.length) (w.alloc (.cells (l.map U8).toArray 5)):=by
  simp only[Instr.buildSlice,Sem.run_bind,run_underlying ht,Result.andThen_ok,hsz,if_neg hle]
  rw[if_neg (by omega)]
  simp only[Sem.run_bind,Sem.run_pure,Result.andThen_ok,hzv]
  rw[hf _ (by simp[Value.cells])]
  simp[newRow]
 refine⟨_,_,_,hrun,Go.Lib.run_convert_bytes_const w t 5 _ _ _ ht Tryz.underlying5,aH.new w _,?_,⟨_,rfl,Nat.le_refl _,by simp⟩⟩
 have hg:=heap_alloc_new w (.cells (l.map U8).toArray 5 ((l.map U8).toArray.size,(l.map U8).toArray.size+1))
 refine⟨_,_,_,rfl,Nat.le_refl _,by unfold maxLen;omega,by simp,fun _=>⟨_,rfl,fun j u hu=>?_⟩,fun h=>by cases h⟩
 rw[Addr.add_mid,Nat.zero_add,cell_of_row _ _ j _ _ _ hg]
 simpa using hu
end
end Go.Rl
namespace Go.Rl
open Go.RowKit Go.Proofs
theorem Eh:aJ Tryz.prog 184:=⟨_,Tryz.func184,by kernel_rfl,rfl⟩
theorem p7:aJ Tryz.prog 180:=⟨_,Tryz.func180,by kernel_rfl,rfl⟩
theorem Aw:aJ Tryz.prog 163:=⟨_,Tryz.func163,by kernel_rfl,rfl⟩
theorem BG:aJ Tryz.prog 162:=⟨_,Tryz.func162,by kernel_rfl,rfl⟩
theorem Ax:aJ Tryz.prog 137:=⟨_,Tryz.func137,by kernel_rfl,rfl⟩
theorem eJ:aJ Tryz.prog 99:=⟨_,Tryz.func99,by kernel_rfl,rfl⟩
theorem Ei {w:World}:
 Calls Tryz.prog 184 #[] w (bN fun r w'=>aH w w'∧bk [1] r w'):=by
 refine enter (vs:=[]) Tryz.func184 E E E ?_
 refine af (aa (ac E E (ag (ab (af (aa ?_))))))
 obtain⟨v1,w1,hr1,x1,o1,ob1⟩:=jd Tryz.underlying44 (w:=w) w.heap.size [1] (by simp) (Nat.le_refl _)
 refine aF (vs:=[(0,bE (1))]) E E hr1 (ac E E (ag (ab (aw (au E E ?_)))))
 exact⟨_,rfl,x1,o1.wds⟩
theorem p9 {w:World} {x:Nat} {v:Value} (hv:bk (lb x) v w):
 Calls Tryz.prog 180 #[v] w (bN fun r w'=>w=w'∧r=B (decide (x=1))):=by
 refine enter (vs:=[v]) Tryz.func180 E E E ?_
 obtain⟨t,ht⟩:∃t,t=lb x:=⟨_,rfl⟩
 rw[←ht] at hv
 have h1:x=1↔t=[1]:=by rw[ht];exact F7.symm
 refine af (aa (ac E E (ag (ab (af (aa (ae E E (aV E E (bz Lj hv) (al E E E (bo) ?_)))))))))
 refine ae E E ?_
 refine ci (fun h6=>?_) (fun h6=>?_)
 ·refine ak E (ae E E (ak E ?_))
  obtain⟨a8,p8,q8⟩:=cQ Lj hv (i:=0) (by omega) .i64
  refine ar E E E (p8 _) (ak E (aj E E (ai Ll E q8) (ak E (al (v:=bE 1) E E E (oZ) (aq E E E ?_)))))
  refine ac E E (ag (ab (aw (au E E ?_))))
  exact⟨_,rfl,rfl,by
   first
   |exact congrArg B (decide_eq_false fun h=>h6 (by rw[h1.1 h];rfl)).symm
   |exact congrArg B (decide_eq_decide.2 (by
     rw[h1]
     obtain⟨y,rfl⟩:=List.length_eq_one_iff.1 (show t.length=1 by omega)
     simp))⟩
 ·refine am E E E (am E E E (am E E E (am E E E (aI E E E (ac E E (ag (ab (aw (au E E ?_)))))))))
  exact⟨_,rfl,rfl,by
   first
   |exact congrArg B (decide_eq_false fun h=>h6 (by rw[h1.1 h];rfl)).symm
   |exact congrArg B (decide_eq_decide.2 (by
     rw[h1]
     obtain⟨y,rfl⟩:=List.length_eq_one_iff.1 (show t.length=1 by omega)
     simp))⟩
theorem Ay {w:World} {b:Bool} {n m:List UInt32} {v:Value} (hv:du b n m v w) (hl:m.length≤1099511627776):
 Calls Tryz.prog 163 #[v] w (bN fun r w'=>aH w w'∧bk (ud m) r w'):=by
 refine enter (vs:=[v]) Tryz.func163 E E E ?_
 refine af (aa ?_)
 obtain⟨g1,y1,z1,w1,hr1,x1,k1,n1,d1⟩:=pZ hv
 refine cw E E hr1 (ac E E (ag (ab (af (af (aa (ah E E (av (o:=2) Ln E (by kernel_rfl) E) ?_)))))))
 refine aj E E (ai Lj E (k1.cell (i:=2) E)) (an Bx E E (By d1 hl) ?_)
 rintro v5 _ ⟨rfl,rfl⟩
 refine al E E E (bo) (ag (ab ?_))
 refine bu E (fun h6=>?_) (fun h6=>?_)
 ·have h0:val m=0:=by
   rcases Nat.eq_zero_or_pos (val m) with h|h
   ·exact h
   ·have:=uo h
    omega
  refine af (aa (an (vs:=[]) Eh E E (Ei) ?_))
  rintro v7 w7 ⟨x7,b7⟩
  refine ac E E (ag (ab (aw (az (au E E ?_)))))
  exact⟨_,rfl,(x1.trans x7),by unfold ud;rw[if_pos h0];exact b7⟩
 ·have h0:val m≠0:=fun h=>h6 (by rw[h];rfl)
  refine aC (ab (af (aa (ah E E (av (o:=2) Ln E (by kernel_rfl) E) (aj E E (ai Lj E (k1.cell (i:=2) E)) ?_)))))
  refine ac E E (ag (ab (aw (au E E ?_))))
  exact⟨_,rfl,x1,by unfold ud;rw[if_neg h0];exact d1⟩
theorem BH {w:World} {s:Bool} {n d:List UInt32} {x y:Value} (hn:bk n x w) (hd:bk d y w) (hnl:n.length≤274877906944) (hdl:d.length≤274877906944) (hd0:0<val d):
 Calls Tryz.prog 162 #[B s,x,y] w (bN fun r w'=>aH w w'∧du (Av s (val n)) (lb (val n/Nat.gcd (val n) (val d))) (yD (val n) (val d)) r w'):=by
 refine enter (vs:=[B s,x,y]) Tryz.func162 E E E ?_
 have hnn:=ig (cE n)
 have hdd:=ig (cE d)
 have hg0:=C6 (n:=val n) hd0
 refine af (aa ?_)
 obtain⟨g6,w6,hr6,l6,x6,k6⟩:=iB (w:=w)
 refine aS E hr6 (ag (ab (af (aa (ae E E (an mr E E (mw (hn.ext x6) (by omega)) ?_))))))
 rintro v9 w9 ⟨x9,b9⟩
 refine ac E E (ag (ab (af (af (aa (ae E E (aV (r:=I ((lb (val n)).length:Int)) E E (bz Lj b9) ?_)))))))
 refine al E E E (bo) (ag (ab ?_))
 refine bu E (fun h12=>?_) (fun h12=>?_)
 ·have hn0:val n=0:=gO.1 (by omega)
  refine af (aa ?_)
  refine bC (vs:=[]) E E iS ?_
  obtain⟨p,q,w3,hp,hs,q3,k3,n3,d3⟩:=(k6.ext (x9)).stR ⟨_,_,_,rfl⟩ ⟨_,_,_,rfl⟩ (du.mk (b:=false) (bk.nil _) (bk.nil _))
  refine ay E E (hs) (ag (ab (aw (az ?_))))
  refine cM E E k3 Ln E dX ?_
  exact⟨_,rfl,((x6.trans x9)).of_new q3 l6,p,q,by rw[hn0];unfold Av;simp,by rw[hn0,Nat.zero_div];exact n3,by rw[hn0,HT hd0];exact d3⟩
 ·have hn0:0<val n:=by
   rcases Nat.eq_zero_or_pos (val n) with h|h
   ·rw[h] at h12;simp[gq] at h12
   ·exact h
  have hcN:Av s (val n)=s:=by unfold Av;rw[decide_eq_true hn0,Bool.and_true]
  rw[hcN]
  refine aC (ab (af (aa (ae E E (an mr E E (mw (hd.ext (x6.trans x9)) (by omega)) ?_)))))
  rintro v15 w15 ⟨x15,b15⟩
  refine ac E E (ag (ab (af (af (aa (ae E E (an p7 E E (p9 b15) ?_)))))))
  rintro v17 _ ⟨rfl,rfl⟩
  refine ag (ab ?_)
  refine bu E (fun h17=>?_) (fun h17=>?_)
  ·refine af (aa (ae E E (ae E E ?_)))
   refine bC (vs:=[(0,B s),(1,v9)]) E E (Eg b9.isS) ?_
   obtain⟨p,q,w3,hp,hs,q3,k3,n3,d3⟩:=(k6.ext ((x9.trans x15))).stR ⟨_,_,_,rfl⟩ ⟨_,_,_,rfl⟩ (du.mk (b:=s) (b9.ext (x15)) (bk.nil _))
   refine ay E E (hs) (ag (ab (aw (az ?_))))
   refine cM E E k3 Ln E dX ?_
   exact⟨_,rfl,(((x6.trans x9).trans x15)).of_new q3 l6,p,q,rfl,by rw[h17,Nat.gcd_one_right,Nat.div_one];exact n3,by rw[h17,F8];exact d3⟩
  ·obtain⟨g,hg⟩:∃g,g=Nat.gcd (val n) (val d):=⟨_,rfl⟩
   rw[←hg] at hg0⊢
   have hgl:(lb g).length≤d.length:=Nat.le_trans (lG (by rw[hg];exact Nat.gcd_le_right _ hd0)) hdd
   refine aC (ab (af ?_))
   refine ew (fun p:Value×Value=>[(0,B s),(1,p.1),(2,p.2),(6,.pointer (some ⟨g6,0,none⟩))]) (fun p w'=>aH w15 w'∧bk (lb (val n/g)) p.1 w'∧bk (lb (val d/g)) p.2 w') ?_ ?_
   ·refine af (aa (ae E E (ae E E (an Ed E E ((by have:=Ef (b9.ext x15) b15 (by omega) (by omega);rw[bV,bV] at this;exact this)) ?_))))
    rintro v23 w23 ⟨x23,b23⟩
    rw[←hg] at b23
    refine ac E E (ag (ab (af (aa (ae E E (an p7 E E (p9 b23) ?_))))))
    rintro v25 _ ⟨rfl,rfl⟩
    refine bw E E yq (ag (ab ?_))
    refine bu E (fun h26=>?_) (fun h26=>?_)
    ·refine af (aa (ae E E (ae E E (an jB E E ((by have:=jC (b9.ext (x15.trans x23)) b23 (by omega) (by omega) (by rw[bV];exact hg0);rw[bV,bV] at this;exact this)) ?_))))
     rintro v30 w30 ⟨x30,q1,s1,rfl,c1,e1⟩
     refine ae E E (aA E E (dH) (aA E E dJ (aA E E dK (ac E E (ag (ab (aa (ae E E (ae E E ?_)))))))))
     refine an jB E E ((by have:=jC (b15.ext (x23.trans x30)) (b23.ext x30) (by omega) (by omega) (by rw[bV];exact hg0);rw[bV,bV] at this;exact this)) ?_
     rintro v37 w37 ⟨x37,q2,s2,rfl,c2,e2⟩
     refine ae E E (aA E E (dH) (aA E E dJ (aA E E dK (ac E E (ag ?_)))))
     exact cf (q1,q2) ⟨rfl,rfl,rfl,rfl,trivial⟩ ⟨((x23.trans x30).trans x37),by first|exact(c1.ext x37)|(rw[show g=1 from Classical.byContradiction fun h=>h26 h,Nat.div_one];exact(c1.ext x37)),by first|exact c2|(rw[show g=1 from Classical.byContradiction fun h=>h26 h,Nat.div_one];exact c2)⟩
    ·refine aC ?_
     exact cf (v9,v15) ⟨rfl,rfl,rfl,rfl,trivial⟩ ⟨x23,by first|exact(b9.ext (x15.trans x23))|(rw[show g=1 from Classical.byContradiction fun h=>h26 h,Nat.div_one];exact(b9.ext (x15.trans x23))),by first|exact(b15.ext x23)|(rw[show g=1 from Classical.byContradiction fun h=>h26 h,Nat.div_one];exact(b15.ext x23))⟩
   rintro⟨v1,v2⟩ w8 ⟨x8,b1,b2⟩
   refine ab (af ?_)
   refine ew (fun p:Value=>[(0,B s),(1,v1),(2,p),(6,.pointer (some ⟨g6,0,none⟩))]) (fun p w'=>w8=w'∧bk (yD (val n) (val d)) p w') ?_ ?_
   ·refine af (aa (ae E E (an p7 E E (p9 b2) ?_)))
    rintro v42 _ ⟨rfl,rfl⟩
    refine ag (ab ?_)
    refine bu E (fun h42=>?_) (fun h42=>?_)
    ·refine aa (ac E E (ag ?_))
     exact cf (.slice none 0 0) ⟨rfl,rfl,rfl,rfl,trivial⟩ ⟨rfl,by unfold yD;rw[←hg];first|(rw[if_pos h42];exact bk.nil _)|(rw[if_neg h42];exact b2)⟩
    ·refine aC ?_
     exact cf (v2) ⟨rfl,rfl,rfl,rfl,trivial⟩ ⟨rfl,by unfold yD;rw[←hg];first|(rw[if_pos h42];exact bk.nil _)|(rw[if_neg h42];exact b2)⟩
   rintro v2' _ ⟨rfl,b2'⟩
   refine ab (af (aa (ae E E (ae E E (ae E E ?_)))))
   refine bC (vs:=[(0,B s),(1,v1),(2,v2')]) E E (lH b1.isS b2'.isS) ?_
   obtain⟨p,q,w3,hp,hs,q3,k3,n3,d3⟩:=(k6.ext (((x9.trans x15).trans x8))).stR ⟨_,_,_,rfl⟩ ⟨_,_,_,rfl⟩ (du.mk (b:=s) b1 b2')
   refine ay E E (hs) (ag (ab (aw ?_)))
   refine cM E E k3 Ln E dX ?_
   exact⟨_,rfl,((((x6.trans x9).trans x15).trans x8)).of_new q3 l6,p,q,rfl,n3,d3⟩
theorem Ga {m:List UInt32} (h:m.length≤137438953472):(ud m).length≤137438953472:=by
 unfold ud
 split
 ·simp
 ·exact h
theorem Az {w:World} {b:Bool} {n m:List UInt32} {v:Value} (hv:du b n m v w) (hnl:n.length≤137438953472) (hml:m.length≤137438953472):
 Calls Tryz.prog 137 #[v] w (bN fun r w'=>aH w w'∧du (Av b (val n)) (lb (val n/Nat.gcd (val n) (val (ud m)))) (yD (val n) (val (ud m))) r w'):=by
 refine enter (vs:=[v]) Tryz.func137 E E E ?_
 refine af (aa ?_)
 obtain⟨g1,y1,z1,w1,hr1,x1,k1,n1,d1⟩:=pZ hv
 refine cw E E hr1 ?_
 obtain⟨g2,w2,hr2,l2,x2,k2⟩:=iB (w:=w1)
 refine aS E hr2 (ag (ab (af (bP 7 [2,9] (by kernel_rfl) (by kernel_rfl) ?_))))
 refine aX E E (fun w hw=>av (o:=0) Ln E (by kernel_rfl) E) (aQ E E (fun w hw=>ai Lw E (hw.cell_some (x2.cell_some (k1.cell (i:=0) E)))) ?_)
 refine aX E E (fun w hw=>av (o:=1) Ln E (by kernel_rfl) E) (aQ E E (fun w hw=>ai Lj E (hw.cell_some (x2.cell_some (k1.cell (i:=1) E)))) ?_)
 refine aQ rfl rfl (fun w hw=>((k1.ext x2).ext hw).ldR) (ce (S:=bk (ud m)) Aw (bk.stable _) rfl (fun w hw=>by rintro _ rfl;exact Ay (((du.mk n1 d1).ext x2).ext hw) (by omega)) ?_)
 refine ce (S:=du (Av b (val n)) (lb (val n/Nat.gcd (val n) (val (ud m)))) (yD (val n) (val (ud m)))) BG (du.stable _ _ _) rfl (fun w hw=>by rintro _ rfl _ rfl z hz;exact BH ((n1.ext x2).ext hw) hz (by omega) (by have:=Ga hml;omega) (F6 m)) ?_
 refine cn ?_
 intro wg1 xg1
 rintro _ rfl
 intro vg9 b9
 obtain⟨p,q,w3,hp,hs,q3,k3,n3,d3⟩:=(k2.ext xg1).stR ⟨_,_,_,rfl⟩ ⟨_,_,_,rfl⟩ b9
 refine ay E E (hs) (ag (ab (aw ?_)))
 refine cM E E k3 Ln E dX ?_
 exact⟨_,rfl,(((x1.trans x2).trans xg1)).of_new q3 (Nat.le_trans x1.size l2),p,q,rfl,n3,d3⟩
theorem cT {x y:Nat}:rV x y=0↔x=y:=by
 unfold rV
 split
 ·omega
 ·split<;>omega
theorem yE {b:Bool} {n:List UInt32}:rv b n []=decide (b=Av b (val n)∧n=lb (val n)):=by
 unfold rv
 rw[show val (ud [])=1 from rfl,Nat.gcd_one_right,Nat.div_one,F8]
 simp
theorem od {w:World} {b:Bool} {n m:List UInt32} {v:Value} (hv:du b n m v w) (hnl:n.length≤137438953472) (hml:m.length≤137438953472):
 Calls Tryz.prog 99 #[v] w (bN fun r w'=>aH w w'∧r=B (rv b n m)):=by
 refine enter (vs:=[v]) Tryz.func99 E E E ?_
 obtain⟨b',hb'⟩:∃b',b'=Av b (val n):=⟨_,rfl⟩
 obtain⟨n',hn'⟩:∃n',n'=lb (val n/Nat.gcd (val n) (val (ud m))):=⟨_,rfl⟩
 obtain⟨m',hm'⟩:∃m',m'=yD (val n) (val (ud m)):=⟨_,rfl⟩
 have hrv:rv b n m=decide (b=b'∧n=n'∧m=m'):=by rw[hb',hn',hm'];rfl
 refine af (aa ?_)
 obtain⟨g1,y1,z1,w1,hr1,x1,k1,n1,d1⟩:=pZ hv
 refine cw E E hr1 (ac E E (ag (ab (af (af (aa (ah E E (av (o:=2) Ln E (by kernel_rfl) E) ?_)))))))
 refine aj E E (ai Lj E (k1.cell (i:=2) E)) (aV E E (bz Lj d1) (al E E E (bo) ?_))
 refine ag (ab ?_)
 refine bu E (fun h7=>?_) (fun h7=>?_)
 ·have hm0:m=[]:=List.eq_nil_of_length_eq_zero (by omega)
  subst hm0
  refine af ?_
  cases b
  ·refine aa (ah E E (av (o:=1) Ln E (by kernel_rfl) E) (aj E E (ai Lj E (k1.cell (i:=1) E)) ?_))
   refine an tk E E (tl n1) ?_
   rintro v10 _ ⟨rfl,rfl⟩
   refine ae E E ?_
   refine ci (fun h11=>?_) (fun h11=>?_)
   ·refine ak E (ah E E (av (o:=0) Ln E (by kernel_rfl) E) (ak E (aj E E (ai Lw E (k1.cell (i:=0) E)) ?_)))
    refine ak E (bw E E bB (ak E (ae E E (am E E E (am E E E (am E E E (am E E E (ak E (aq E E E (aq E E E ?_))))))))))
    refine ac E E (ag (ab (aw (az (au E E ?_)))))
    exact⟨_,rfl,x1,by
     rw[yE]
     first
     |exact congrArg B (decide_eq_true ⟨rfl,h11.symm⟩).symm
     |exact congrArg B (decide_eq_false fun h=>h11 h.2.symm).symm
     |(have e:=@gO (val n)
       rw[h11] at e
       refine congrArg B (decide_eq_decide.2 ⟨fun h=>⟨(decide_eq_true (show 0<val n by omega)).symm,h11.symm⟩,fun h=>?_⟩)
       have:0<val n:=of_decide_eq_true h.1.symm
       omega)⟩
   ·refine am E E E (am E E E (am E E E (am E E E (i5 E E E (i5 E E E (i5 E E E (i5 E E E (am E E E ?_))))))))
    refine aI E E E (ac E E (ag (ab (aw (az (au E E ?_))))))
    exact⟨_,rfl,x1,by
     rw[yE]
     first
     |exact congrArg B (decide_eq_true ⟨rfl,h11.symm⟩).symm
     |exact congrArg B (decide_eq_false fun h=>h11 h.2.symm).symm
     |(have e:=@gO (val n)
       rw[h11] at e
       refine congrArg B (decide_eq_decide.2 ⟨fun h=>⟨(decide_eq_true (show 0<val n by omega)).symm,h11.symm⟩,fun h=>?_⟩)
       have:0<val n:=of_decide_eq_true h.1.symm
       omega)⟩
  ·refine aa (ah E E (av (o:=1) Ln E (by kernel_rfl) E) (aj E E (ai Lj E (k1.cell (i:=1) E)) ?_))
   refine an tk E E (tl n1) ?_
   rintro v10 _ ⟨rfl,rfl⟩
   refine ae E E ?_
   refine ci (fun h11=>?_) (fun h11=>?_)
   ·refine ak E (ah E E (av (o:=0) Ln E (by kernel_rfl) E) (ak E (aj E E (ai Lw E (k1.cell (i:=0) E)) ?_)))
    refine ak E (bw E E bB (ak E (ae E E (ak E (ah E E (av (o:=1) Ln E (by kernel_rfl) E) ?_)))))
    refine ak E (aj E E (ai Lj E (k1.cell (i:=1) E)) (ak E (aV E E (bz Lj n1) ?_)))
    refine ak E (al E E E (bT) (ak E (aI E E E (aq E E E (ac E E (ag (ab (aw (az (au E E ?_))))))))))
    exact⟨_,rfl,x1,by
     rw[yE]
     first
     |exact congrArg B (decide_eq_true ⟨rfl,h11.symm⟩).symm
     |exact congrArg B (decide_eq_false fun h=>h11 h.2.symm).symm
     |(have e:=@gO (val n)
       rw[h11] at e
       refine congrArg B (decide_eq_decide.2 ⟨fun h=>⟨(decide_eq_true (show 0<val n by omega)).symm,h11.symm⟩,fun h=>?_⟩)
       have:0<val n:=of_decide_eq_true h.1.symm
       omega)⟩
   ·refine am E E E (am E E E (am E E E (am E E E (i5 E E E (i5 E E E (i5 E E E (i5 E E E (am E E E ?_))))))))
    refine aI E E E (ac E E (ag (ab (aw (az (au E E ?_))))))
    exact⟨_,rfl,x1,by
     rw[yE]
     first
     |exact congrArg B (decide_eq_true ⟨rfl,h11.symm⟩).symm
     |exact congrArg B (decide_eq_false fun h=>h11 h.2.symm).symm
     |(have e:=@gO (val n)
       rw[h11] at e
       refine congrArg B (decide_eq_decide.2 ⟨fun h=>⟨(decide_eq_true (show 0<val n by omega)).symm,h11.symm⟩,fun h=>?_⟩)
       have:0<val n:=of_decide_eq_true h.1.symm
       omega)⟩
 ·refine aC (ab (af (aa (aj E E (k1.ldR) (an Ax E E (Az (du.mk n1 d1) hnl hml) ?_)))))
  rintro v23 w23 ⟨x23,b23⟩
  rw[←hb',←hn',←hm'] at b23
  obtain⟨g3,w3,hr3,l3,x3,k3⟩:=iB (w:=w23)
  refine aS E hr3 ?_
  obtain⟨p,q,w4,hp,hs,q4,k4,n3,d3⟩:=k3.stR ⟨_,_,_,rfl⟩ ⟨_,_,_,rfl⟩ (b23.ext x3)
  refine ay E E (hs) ?_
  have x4:=(x23.trans x3).of_new q4 (Nat.le_trans x23.size l3)
  refine ag (ab (af (aa (ah E E (av (o:=0) Ln E (by kernel_rfl) E) (aj E E (ai Lw E (x4.cell_some (k1.cell (i:=0) E))) ?_)))))
  refine ah E E (av (o:=0) Ln E (by kernel_rfl) E) (aj E E (ai Lw E (k4.cell (i:=0) E)) ?_)
  refine al E E E (tO Lw) (ae E E ?_)
  refine ci (fun h29=>?_) (fun h29=>?_)
  ·refine ak E (ah E E (av (o:=1) Ln E (by kernel_rfl) E) (ak E (aj E E (ai Lj E (x4.cell_some (k1.cell (i:=1) E))) ?_)))
   refine ak E (aV E E (bz Lj (n1.ext x4)) (ak E (ah E E (av (o:=1) Ln E (by kernel_rfl) E) ?_)))
   refine ak E (aj E E (ai Lj E (k4.cell (i:=1) E)) (ak E (aV E E (bz Lj n3) ?_)))
   refine ak E (al E E E (bo) (aq E E E (ae E E ?_)))
   refine ci (fun h38=>?_) (fun h38=>?_)
   ·refine ak E (ah E E (av (o:=2) Ln E (by kernel_rfl) E) (ak E (aj E E (ai Lj E (x4.cell_some (k1.cell (i:=2) E))) ?_)))
    refine ak E (aV E E (bz Lj (d1.ext x4)) (ak E (ah E E (av (o:=2) Ln E (by kernel_rfl) E) ?_)))
    refine ak E (aj E E (ai Lj E (k4.cell (i:=2) E)) (ak E (aV E E (bz Lj d3) ?_)))
    refine ak E (al E E E (bo) (aq E E E (ae E E ?_)))
    refine ci (fun h47=>?_) (fun h47=>?_)
    ·refine ak E (ah E E (av (o:=1) Ln E (by kernel_rfl) E) (ak E (aj E E (ai Lj E (x4.cell_some (k1.cell (i:=1) E))) ?_)))
     refine ak E (ah E E (av (o:=1) Ln E (by kernel_rfl) E) (ak E (aj E E (ai Lj E (k4.cell (i:=1) E)) ?_)))
     refine ak E (an rW E E (rY (n1.ext x4) n3) ?_)
     rintro v52 w52 ⟨x52,rfl⟩
     refine ak E (al E E E (bo) (aq E E E (ae E E ?_)))
     refine ci (fun h55=>?_) (fun h55=>?_)
     ·refine ak E (ah E E (av (o:=2) Ln E (by kernel_rfl) E) (ak E (aj E E (ai Lj E ((x4.trans x52).cell_some (k1.cell (i:=2) E))) ?_)))
      refine ak E (ah E E (av (o:=2) Ln E (by kernel_rfl) E) (ak E (aj E E (ai Lj E (x52.cell_some (k4.cell (i:=2) E))) ?_)))
      refine ak E (an rW E E (rY (d1.ext (x4.trans x52)) (d3.ext x52)) ?_)
      rintro v60 w60 ⟨x60,rfl⟩
      refine ak E (al E E E (bo) (aq E E E (ac E E (ag (ab (aw (au E E ?_)))))))
      exact⟨_,rfl,(((x1.trans x4).trans x52).trans x60),by
       rw[hrv]
       first
       |exact congrArg B (decide_eq_decide.2 ⟨fun h=>⟨h29,iC (by omega) (cT.1 h55),iC (by omega) (cT.1 h)⟩,fun h=>cT.2 (by rw[h.2.2])⟩)
       |exact congrArg B (decide_eq_false fun h=>h55 (cT.2 (by rw[h.2.1]))).symm
       |exact congrArg B (decide_eq_false fun h=>h47 (by rw[h.2.2])).symm
       |exact congrArg B (decide_eq_false fun h=>h38 (by rw[h.2.1])).symm
       |exact congrArg B (decide_eq_false fun h=>h29 h.1).symm⟩
     ·refine am E E E (am E E E (am E E E (am E E E (am E E E (am E E E (aI E E E (ac E E (ag (ab (aw (au E E ?_)))))))))))
      exact⟨_,rfl,((x1.trans x4).trans x52),by
       rw[hrv]
       first
       |exact congrArg B (decide_eq_decide.2 ⟨fun h=>⟨h29,iC (by omega) (cT.1 h55),iC (by omega) (cT.1 h)⟩,fun h=>cT.2 (by rw[h.2.2])⟩)
       |exact congrArg B (decide_eq_false fun h=>h55 (cT.2 (by rw[h.2.1]))).symm
       |exact congrArg B (decide_eq_false fun h=>h47 (by rw[h.2.2])).symm
       |exact congrArg B (decide_eq_false fun h=>h38 (by rw[h.2.1])).symm
       |exact congrArg B (decide_eq_false fun h=>h29 h.1).symm⟩
    ·refine am E E E (am E E E (am E E E (am E E E (am E E E (am E E E (aI E E E (ae E E (am E E E (am E E E ?_)))))))))
     refine am E E E (am E E E (am E E E (am E E E (aI E E E (ac E E (ag (ab (aw (au E E ?_)))))))))
     exact⟨_,rfl,(x1.trans x4),by
      rw[hrv]
      first
      |exact congrArg B (decide_eq_decide.2 ⟨fun h=>⟨h29,iC (by omega) (cT.1 h55),iC (by omega) (cT.1 h)⟩,fun h=>cT.2 (by rw[h.2.2])⟩)
      |exact congrArg B (decide_eq_false fun h=>h55 (cT.2 (by rw[h.2.1]))).symm
      |exact congrArg B (decide_eq_false fun h=>h47 (by rw[h.2.2])).symm
      |exact congrArg B (decide_eq_false fun h=>h38 (by rw[h.2.1])).symm
      |exact congrArg B (decide_eq_false fun h=>h29 h.1).symm⟩
   ·refine am E E E (am E E E (am E E E (am E E E (am E E E (am E E E (am E E E (aI E E E (ae E E (am E E E ?_)))))))))
    refine am E E E (am E E E (am E E E (am E E E (am E E E (aI E E E (ae E E (am E E E (am E E E (am E E E ?_)))))))))
    refine am E E E (am E E E (am E E E (aI E E E (ac E E (ag (ab (aw (au E E ?_))))))))
    exact⟨_,rfl,(x1.trans x4),by
     rw[hrv]
     first
     |exact congrArg B (decide_eq_decide.2 ⟨fun h=>⟨h29,iC (by omega) (cT.1 h55),iC (by omega) (cT.1 h)⟩,fun h=>cT.2 (by rw[h.2.2])⟩)
     |exact congrArg B (decide_eq_false fun h=>h55 (cT.2 (by rw[h.2.1]))).symm
     |exact congrArg B (decide_eq_false fun h=>h47 (by rw[h.2.2])).symm
     |exact congrArg B (decide_eq_false fun h=>h38 (by rw[h.2.1])).symm
     |exact congrArg B (decide_eq_false fun h=>h29 h.1).symm⟩
  ·refine am E E E (am E E E (am E E E (am E E E (am E E E (am E E E (am E E E (aI E E E (ae E E (am E E E ?_)))))))))
   refine am E E E (am E E E (am E E E (am E E E (am E E E (am E E E (aI E E E (ae E E (am E E E (am E E E ?_)))))))))
   refine am E E E (am E E E (am E E E (am E E E (aI E E E (ae E E (am E E E (am E E E (am E E E (am E E E ?_)))))))))
   refine am E E E (am E E E (aI E E E (ac E E (ag (ab (aw (au E E ?_)))))))
   exact⟨_,rfl,(x1.trans x4),by
    rw[hrv]
    first
    |exact congrArg B (decide_eq_decide.2 ⟨fun h=>⟨h29,iC (by omega) (cT.1 h55),iC (by omega) (cT.1 h)⟩,fun h=>cT.2 (by rw[h.2.2])⟩)
    |exact congrArg B (decide_eq_false fun h=>h55 (cT.2 (by rw[h.2.1]))).symm
    |exact congrArg B (decide_eq_false fun h=>h47 (by rw[h.2.2])).symm
    |exact congrArg B (decide_eq_false fun h=>h38 (by rw[h.2.1])).symm
    |exact congrArg B (decide_eq_false fun h=>h29 h.1).symm⟩
end Go.Rl
namespace Go.Rl
open Go.RowKit Go.Proofs
theorem Ej:aJ Tryz.prog 142:=⟨_,Tryz.func142,by kernel_rfl,rfl⟩
theorem BI:aJ Tryz.prog 141:=⟨_,Tryz.func141,by kernel_rfl,rfl⟩
theorem AA:aJ Tryz.prog 106:=⟨_,Tryz.func106,by kernel_rfl,rfl⟩
theorem mI:aJ Tryz.prog 105:=⟨_,Tryz.func105,by kernel_rfl,rfl⟩
theorem Ek {w:World} {m:List UInt32} {v:Value} (hv:bk m v w) (hl:m.length≤137438953472):
 Calls Tryz.prog 142 #[v] w (bN fun r w'=>aH w w'∧bk (lb (val (ud m))) r w'):=by
 refine enter (vs:=[v]) Tryz.func142 E E E ?_
 obtain⟨t,ht⟩:∃t,t=lb (val m):=⟨_,rfl⟩
 refine af (aa (ac E E (ag (ab (af (aa (ae E E (an eO E E (fv hv (by omega)) ?_))))))))
 rintro v5 w5 ⟨x5,b5⟩
 rw[←ht] at b5
 refine ac E E (ag (ab (af (af (aa (ae E E (aV E E (bz Lj b5) (al E E E (bo) (ag ?_)))))))))
 refine ab ?_
 refine bu E (fun h8=>?_) (fun h8=>?_)
 ·have h0:val m=0:=gO.1 (by rw[←ht];omega)
  refine af (aa ?_)
  obtain⟨v9,w9,hr9,x9,o9,ob9⟩:=jd Tryz.underlying44 (w:=w5) w5.heap.size [1] (by simp) (Nat.le_refl _)
  refine aF (vs:=[(0,bE (1))]) E E hr9 (ac E E (ag (ab (aw (az (au E E ?_))))))
  exact⟨_,rfl,(x5.trans x9),by rw[BE,if_pos h0,yC];exact o9.wds⟩
 ·have h0:val m≠0:=fun h=>h8 (by rw[ht,h];rfl)
  refine aC (ab (af (aa (ae E E (ac E E (ag (ab (aw (au E E ?_)))))))))
  exact⟨_,rfl,x5,by rw[BE,if_neg h0,←ht];exact b5⟩
theorem BJ {w:World} {s:Bool} {n d:List UInt32} {x y:Value} (hn:bk n x w) (hd:bk d y w) (hnl:n.length≤274877906944) (hdl:d.length≤274877906944) (hd0:0<val d):
 Calls Tryz.prog 141 #[B s,x,y] w (bN fun r w'=>aH w w'∧du (Av s (val n)) (lb (val n/Nat.gcd (val n) (val d))) (yD (val n) (val d)) r w'):=by
 refine enter (vs:=[B s,x,y]) Tryz.func141 E E E ?_
 have hg0:=C6 (n:=val n) hd0
 obtain⟨g,hg⟩:∃g,g=Nat.gcd (val n) (val d):=⟨_,rfl⟩
 have hgl:(lb g).length≤d.length:=Nat.le_trans (lG (by rw[hg];exact Nat.gcd_le_right _ hd0)) (ig (cE d))
 obtain⟨e,he⟩:∃e,e=lb (val d/g):=⟨_,rfl⟩
 obtain⟨a,ha⟩:∃a,a=lb (val n/g):=⟨_,rfl⟩
 have hc:decide ((a.length:Int)>0)=decide (0<val n):=by
  have e0:=@gO (val n/g)
  have e1:val n/g=0↔val n=0:=by
   rw[hg]
   constructor
   ·intro h
    have:=Nat.div_mul_cancel (Nat.gcd_dvd_left (val n) (val d))
    rw[h] at this;omega
   ·intro h
    rw[h,Nat.zero_div]
  rw[←ha] at e0
  exact decide_eq_decide.2 (by omega)
 have hq:yD (val n) (val d)=if e=[1] then[] else e:=by
  unfold yD
  rw[←hg]
  by_cases h1:val d/g=1
  ·rw[if_pos h1,if_pos (by rw[he,h1,yC])]
  ·rw[if_neg h1,if_neg (fun h=>h1 (F7.1 (he▸h))),he]
 rw[←hg] at hg0⊢
 rw[←ha]
 refine af (aa ?_)
 obtain⟨g6,w6,hr6,l6,x6,k6⟩:=iB (w:=w)
 refine aS E hr6 (ag (ab (af (aa (ae E E (ae E E (an Ec E E (Ee (hn.ext x6) (hd.ext x6) hnl hdl) ?_)))))))
 rintro v16 w16 ⟨x16,b16⟩
 rw[←hg] at b16
 refine ac E E (ag (ab (af (aa (ae E E (ae E E (an mE E E ((by have:=mG (hn.ext (x6.trans x16)) b16 hnl (by omega) (by rw[bV];exact hg0);rw[bV,←ha] at this;exact this)) ?_)))))))
 rintro v20 w20 ⟨x20,q1,r1,rfl,s1,u1⟩
 refine ae E E (aA E E (dH) (aA E E dJ (aA E E dK (ac E E (ac E E (ac E E (ag (ab ?_))))))))
 refine af (aa (ae E E (ae E E (an mE E E ((by have:=mG (hd.ext ((x6.trans x16).trans x20)) (b16.ext x20) hdl (by omega) (by rw[bV];exact hg0);rw[bV,←he] at this;exact this)) ?_))))
 rintro v27 w27 ⟨x27,q2,r2,rfl,s2,u2⟩
 refine ae E E (aA E E (dH) (aA E E dJ (aA E E dK (ac E E (ac E E (ac E E (ag (ab ?_))))))))
 refine af ?_
 refine ew (fun p:Value=>[(0,B s),(8,q1),(11,p),(6,.pointer (some ⟨g6,0,none⟩))]) (fun p w'=>w27=w'∧bk (yD (val n) (val d)) p w') ?_ ?_
 ·refine af (aa (ae E E (aV E E (bz Lj s2) (al E E E (bo) (ae E E ?_)))))
  refine ci (fun h34=>?_) (fun h34=>?_)
  ·refine ak E (ae E E (ak E ?_))
   obtain⟨a36,p36,q36⟩:=cQ Lj s2 (i:=0) (by omega) .i64
   refine ar E E E (p36 _) (ak E (aj E E (ai Ll E q36) (ak E (al (v:=bE 1) E E E (oZ) (aq E E E ?_)))))
   refine ag (ab ?_)
   refine bu E (fun h39=>?_) (fun h39=>?_)
   ·refine aa (ac E E (ag ?_))
    exact cf (.slice none 0 0) ⟨rfl,rfl,rfl,rfl,trivial⟩ ⟨rfl,by
     rw[hq]
     first
     |(rw[if_pos (by
        obtain⟨y,rfl⟩:=List.length_eq_one_iff.1 (show e.length=1 by omega)
        simpa using h39)];exact bk.nil _)
     |(rw[if_neg (fun h=>by subst h;exact h39 rfl)];exact s2)
     |(rw[if_neg (fun h=>by subst h;exact h34 rfl)];exact s2)⟩
   ·refine aC ?_
    exact cf (q2) ⟨rfl,rfl,rfl,rfl,trivial⟩ ⟨rfl,by
     rw[hq]
     first
     |(rw[if_pos (by
        obtain⟨y,rfl⟩:=List.length_eq_one_iff.1 (show e.length=1 by omega)
        simpa using h39)];exact bk.nil _)
     |(rw[if_neg (fun h=>by subst h;exact h39 rfl)];exact s2)
     |(rw[if_neg (fun h=>by subst h;exact h34 rfl)];exact s2)⟩
  ·refine am E E E (am E E E (am E E E (am E E E (aI E E E (ag (ab (cN E (aC ?_))))))))
   exact cf (q2) ⟨rfl,rfl,rfl,rfl,trivial⟩ ⟨rfl,by
    rw[hq]
    first
    |(rw[if_pos (by
       obtain⟨y,rfl⟩:=List.length_eq_one_iff.1 (show e.length=1 by omega)
       simpa using h39)];exact bk.nil _)
    |(rw[if_neg (fun h=>by subst h;exact h39 rfl)];exact s2)
    |(rw[if_neg (fun h=>by subst h;exact h34 rfl)];exact s2)⟩
 rintro v11 _ ⟨rfl,b11⟩
 refine ab (af ?_)
 cases s
 ·refine aa (ae E E (ae E E (am E E E (am E E E (am E E E (aI E E E (ae E E (ae E E ?_))))))))
  refine bC (vs:=[(0,B (Av false (val n))),(1,q1),(2,v11)]) E E (lH s1.isS b11.isS) ?_
  obtain⟨p,q,w3,hp,hs,q3,k3,n3,d3⟩:=(k6.ext (((x16.trans x20).trans x27))).stR ⟨_,_,_,rfl⟩ ⟨_,_,_,rfl⟩ (du.mk (b:=Av false (val n)) (s1.ext x27) b11)
  refine ay E E (hs) (ag (ab (aw ?_)))
  refine cM E E k3 Ln E dX ?_
  exact⟨_,rfl,((((x6.trans x16).trans x20).trans x27)).of_new q3 l6,p,q,rfl,n3,d3⟩
 ·refine aa (ae E E (ae E E (ak E (ae E E (ak E (aV E E (bz Lj (s1.ext x27)) (ak E (al E E E (bT) ?_))))))))
  rw[hc]
  refine aq E E E (ae E E (ae E E ?_))
  refine bC (vs:=[(0,B (Av true (val n))),(1,q1),(2,v11)]) E E (lH s1.isS b11.isS) ?_
  obtain⟨p,q,w3,hp,hs,q3,k3,n3,d3⟩:=(k6.ext (((x16.trans x20).trans x27))).stR ⟨_,_,_,rfl⟩ ⟨_,_,_,rfl⟩ (du.mk (b:=Av true (val n)) (s1.ext x27) b11)
  refine ay E E (hs) (ag (ab (aw ?_)))
  refine cM E E k3 Ln E dX ?_
  exact⟨_,rfl,((((x6.trans x16).trans x20).trans x27)).of_new q3 l6,p,q,rfl,n3,d3⟩
theorem AB {w:World} {b:Bool} {n m:List UInt32} {v:Value} (hv:du b n m v w) (hnl:n.length≤137438953472) (hml:m.length≤137438953472):
 Calls Tryz.prog 106 #[v] w (bN fun r w'=>aH w w'∧du (Av b (val n)) (lb (val n/Nat.gcd (val n) (val (ud m)))) (yD (val n) (val (ud m))) r w'):=by
 refine enter (vs:=[v]) Tryz.func106 E E E ?_
 have hu:(lb (val (ud m))).length≤137438953472:=Nat.le_trans (ig (cE _)) (Ga hml)
 refine af (aa ?_)
 obtain⟨g1,y1,z1,w1,hr1,x1,k1,n1,d1⟩:=pZ hv
 refine cw E E hr1 ?_
 obtain⟨g2,w2,hr2,l2,x2,k2⟩:=iB (w:=w1)
 refine aS E hr2 (ag (ab (af (bP 8 [2,10] (by kernel_rfl) (by kernel_rfl) ?_))))
 refine aX E E (fun w hw=>av (o:=0) Ln E (by kernel_rfl) E) (aQ E E (fun w hw=>ai Lw E (hw.cell_some (x2.cell_some (k1.cell (i:=0) E)))) ?_)
 refine aX E E (fun w hw=>av (o:=1) Ln E (by kernel_rfl) E) (aQ E E (fun w hw=>ai Lj E (hw.cell_some (x2.cell_some (k1.cell (i:=1) E)))) ?_)
 refine aX E E (fun w hw=>av (o:=2) Ln E (by kernel_rfl) E) (aQ E E (fun w hw=>ai Lj E (hw.cell_some (x2.cell_some (k1.cell (i:=2) E)))) ?_)
 refine ce (S:=bk (lb (val (ud m)))) Ej (bk.stable _) rfl (fun w hw=>by rintro _ rfl;exact Ek ((d1.ext x2).ext hw) hml) (ce (S:=du (Av b (val n)) (lb (val n/Nat.gcd (val n) (val (ud m)))) (yD (val n) (val (ud m)))) BI (du.stable _ _ _) rfl (fun w hw=>by rintro _ rfl _ rfl z hz;have:=BJ (s:=b) ((n1.ext x2).ext hw) hz (by omega) (by omega) (by rw[bV];exact F6 m);rw[bV] at this;exact this) ?_)
 refine cn ?_
 intro wg1 xg1
 rintro _ rfl
 intro vg10 b9
 obtain⟨p,q,w3,hp,hs,q3,k3,n3,d3⟩:=(k2.ext xg1).stR ⟨_,_,_,rfl⟩ ⟨_,_,_,rfl⟩ b9
 refine ay E E (hs) (ag (ab (aw ?_)))
 refine cM E E k3 Ln E dX ?_
 exact⟨_,rfl,(((x1.trans x2).trans xg1)).of_new q3 (Nat.le_trans x1.size l2),p,q,rfl,n3,d3⟩
theorem uI {w:World} {a b:Bool} {n m p q:List UInt32} {v u:Value} (hv:du a n m v w) (hu:du b p q u w):
 Calls Tryz.prog 105 #[v,u] w (bN fun r w'=>aH w w'∧r=B (decide (a=b∧n=p∧m=q))):=by
 refine enter (vs:=[v,u]) Tryz.func105 E E E ?_
 refine af (aa ?_)
 obtain⟨g2,y2,z2,w2,hr2,x2,k2,n2,d2⟩:=pZ hv
 refine cw E E hr2 ?_
 obtain⟨g3,y3,z3,w3,hr3,x3,k3,n3,d3⟩:=pZ (hu.ext x2)
 refine cw E E hr3 (ac E E (ag (ab (af (aa (ah E E (av (o:=0) Ln E (by kernel_rfl) E) ?_))))))
 refine aj E E (ai Lw E (x3.cell_some (k2.cell (i:=0) E))) (ah E E (av (o:=0) Ln E (by kernel_rfl) E) ?_)
 refine aj E E (ai Lw E (k3.cell (i:=0) E)) (al E E E (tO Lw) (ae E E ?_))
 refine ci (fun h10=>?_) (fun h10=>?_)
 ·refine ak E (ah E E (av (o:=1) Ln E (by kernel_rfl) E) (ak E (aj E E (ai Lj E (x3.cell_some (k2.cell (i:=1) E))) ?_)))
  refine ak E (ah E E (av (o:=1) Ln E (by kernel_rfl) E) (ak E (aj E E (ai Lj E (k3.cell (i:=1) E)) ?_)))
  refine ak E (an uC E E (uD (n2.ext x3) n3) ?_)
  rintro v15 w15 ⟨x15,rfl⟩
  refine aq E E E (ae E E ?_)
  refine ci (fun h17=>?_) (fun h17=>?_)
  ·refine ak E (ah E E (av (o:=2) Ln E (by kernel_rfl) E) (ak E (aj E E (ai Lj E ((x3.trans x15).cell_some (k2.cell (i:=2) E))) ?_)))
   refine ak E (ah E E (av (o:=2) Ln E (by kernel_rfl) E) (ak E (aj E E (ai Lj E (x15.cell_some (k3.cell (i:=2) E))) ?_)))
   refine ak E (an uC E E (uD (d2.ext (x3.trans x15)) (d3.ext x15)) ?_)
   rintro v22 w22 ⟨x22,rfl⟩
   refine aq E E E (ac E E (ag (ab (aw (au E E ?_)))))
   exact⟨_,rfl,(((x2.trans x3).trans x15).trans x22),by
    first
    |exact congrArg B (decide_eq_decide.2 ⟨fun h=>⟨h10,h17,h⟩,fun h=>h.2.2⟩)
    |exact congrArg B (decide_eq_false fun h=>h17 h.2.1).symm
    |exact congrArg B (decide_eq_false fun h=>h10 h.1).symm⟩
  ·refine am E E E (am E E E (am E E E (am E E E (am E E E (aI E E E (ac E E (ag (ab (aw (au E E ?_))))))))))
   exact⟨_,rfl,((x2.trans x3).trans x15),by
    first
    |exact congrArg B (decide_eq_decide.2 ⟨fun h=>⟨h10,h17,h⟩,fun h=>h.2.2⟩)
    |exact congrArg B (decide_eq_false fun h=>h17 h.2.1).symm
    |exact congrArg B (decide_eq_false fun h=>h10 h.1).symm⟩
 ·refine am E E E (am E E E (am E E E (am E E E (am E E E (aI E E E (ae E E (am E E E (am E E E (am E E E ?_)))))))))
  refine am E E E (am E E E (aI E E E (ac E E (ag (ab (aw (au E E ?_)))))))
  exact⟨_,rfl,(x2.trans x3),by
   first
   |exact congrArg B (decide_eq_decide.2 ⟨fun h=>⟨h10,h17,h⟩,fun h=>h.2.2⟩)
   |exact congrArg B (decide_eq_false fun h=>h17 h.2.1).symm
   |exact congrArg B (decide_eq_false fun h=>h10 h.1).symm⟩
theorem AC {w:World} {b:Bool} {n m:List UInt32} {v:Value} (hv:du b n m v w) (hnl:n.length≤137438953472) (hml:m.length≤137438953472):
 Calls Tryz.prog 59 #[v] w (bN fun r w'=>aH w w'∧r=B (rv b n m)):=by
 refine enter (vs:=[v]) Tryz.func59 E E E ?_
 refine af (aa ?_)
 obtain⟨g1,y1,z1,w1,hr1,x1,k1,n1,d1⟩:=pZ hv
 refine cw E E hr1 (ac E E (ag (ab (af (bP 4 [6] (by kernel_rfl) (by kernel_rfl) ?_)))))
 refine aQ rfl rfl (fun w hw=>(k1.ext hw).ldR) (aQ rfl rfl (fun w hw=>(k1.ext hw).ldR) (ce (S:=du (Av b (val n)) (lb (val n/Nat.gcd (val n) (val (ud m)))) (yD (val n) (val (ud m)))) AA (du.stable _ _ _) rfl (fun w hw=>by rintro _ rfl;exact AB ((du.mk n1 d1).ext hw) hnl hml) ?_))
 refine ce (S:=Is (B (rv b n m))) mI (bO.is _) rfl (fun w hw=>by rintro _ rfl z hz;exact uI ((du.mk n1 d1).ext hw) hz) (cn ?_)
 intro wg1 xg1
 rintro _ rfl
 refine ac E E (ag (ab (aw (au E E ?_))))
 exact⟨_,rfl,(x1.trans xg1),rfl⟩
end Go.Rl
namespace Go.Rl
open Go.RowKit Go.Proofs
theorem rZ:aJ Tryz.prog 92:=⟨_,Tryz.func92,by kernel_rfl,rfl⟩
theorem xi:aJ Tryz.prog 90:=⟨_,Tryz.func90,by kernel_rfl,rfl⟩
def uJ (l:List UInt8):Option (List UInt8×List UInt8):=(gx l).bind fun p=>if p.1≤p.2.length then some (p.2.take p.1,p.2.drop p.1) else none
theorem Gb {m:List UInt8} (h:m.length<18446744073709551616) (t:List UInt8):uJ (nU m++t)=some (m,t):=by
 unfold uJ nU
 rw[List.append_assoc,Bq h]
 simp
section
variable {w:World} {g:Nat}
theorem AD {st:Option (List UInt8)} (hr:cD g st w):Calls Tryz.prog 124 #[.pointer (some ⟨g,0,none⟩)] w (bN fun r w'=>w.grownBy w' (some g)∧match st.bind gx with
 |some (n,t)=>r=.tuple #[bW (UInt64.ofNat n),B true]∧cD g (some t) w'
 |none=>r=.tuple #[bW 0,B false]∧∃l',cD g l' w'):=by
 cases st with
 |none=>exact(nG hr).mono fun e w' ⟨v,he,hv,hw⟩=>⟨v,he,by subst hw;exact⟨mg _ _,hv,none,hr⟩⟩
 |some l=>
  refine(pB hr).mono fun e w' ⟨v,he,hg,hv⟩=>⟨v,he,hg,?_⟩
  show match gx l with|some (n,t)=>_|none=>_
  cases hrd:gx l with
  |none=>rw[hrd] at hv;exact⟨hv.1,hv.2.imp' some fun _ h=>h⟩
  |some p=>rw[hrd] at hv;exact hv
theorem El {st:Option (List UInt8)} (hr:cD g st w):
 Calls Tryz.prog 90 #[.pointer (some ⟨g,0,none⟩)] w (bN fun r w'=>r=I ((st.getD []).length:Nat)∧w'=w):=by
 obtain⟨A,n,c,h1,h2,_⟩:=hr
 refine enter (vs:=[.pointer (some ⟨g,0,none⟩)]) Tryz.func90 E E E ?_
 refine af (aa (ac E E (ag (ab (af (af (aa (ae E E ?_))))))))
 refine al E E E (fT LK) ?_
 refine ag (ab ?_)
 refine cN E ?_
 refine aC (ab (af (aa (ae E E ?_))))
 refine aE E E ?_
 refine ah E E (ct LJ E dA (by omega)) ?_
 refine aj E E (ai Lv E (iK (i:=0) h1 E)) ?_
 refine aV E E (ey h2) ?_
 refine ac E E (ag (ab (aw ?_)))
 refine au E E ?_
 exact⟨_,rfl,rfl,rfl⟩
theorem Em {st:Option (List UInt8)} (hr:cD g st w):
 Calls Tryz.prog 92 #[.pointer (some ⟨g,0,none⟩)] w (bN fun r w'=>r=I (if st=some [] then 0 else 5)∧w'=w):=by
 obtain⟨A,n,c,h1,h2,_⟩:=hr
 refine enter (vs:=[.pointer (some ⟨g,0,none⟩)]) Tryz.func92 E E E ?_
 refine af (aa (ac E E (ag (ab (af (af (aa (ae E E ?_))))))))
 refine al E E E (gE LK) ?_
 refine ae E E (ak E (ae E E (ak E ?_)))
 refine aE E E ?_
 refine ak E (ah E E (ct LJ E iQ (by omega)) ?_)
 refine ak E (aj E E (ai Lw E (iK (i:=1) h1 E)) ?_)
 cases st with
 |none=>
  refine ak E (ae E E ?_)
  iterate 6 refine am rfl rfl rfl ?_
  refine ak E (aq E E E (aq E E E (ag (ab ?_))))
  refine bm E ?_
  refine af (aa (ac E E (ag (ab (aw (az ?_))))))
  refine au E E ?_
  exact⟨_,rfl,rfl,rfl⟩
 |some l=>
  have h2':cK l (.slice A n c) w:=h2
  refine ak E (ae E E (ak E (ae E E (ak E ?_))))
  refine aE E E ?_
  refine ak E (ah E E (ct LJ E dA (by omega)) ?_)
  refine ak E (aj E E (ai Lv E (iK (i:=0) h1 E)) ?_)
  refine ak E (aV E E (ey h2') ?_)
  refine ak E (al E E E bT ?_)
  refine ak E (aI E E E (aq E E E (ag (ab ?_))))
  refine bu E (fun h=>?_) (fun h=>?_)
  ·refine af (aa (ac E E (ag (ab (aw (az ?_))))))
   refine au E E ?_
   have:some l≠some []:=by rintro⟨⟩;simp at h
   rw[if_neg this]
   exact⟨_,rfl,rfl,rfl⟩
  ·refine aC (ab (af (aa (ac E E (ag (ab (aw ?_)))))))
   refine au E E ?_
   have:l=[]:=List.eq_nil_of_length_eq_zero (by omega)
   subst this
   exact⟨_,rfl,rfl,rfl⟩
end
end Go.Rl
namespace Go.Rl
open Go.RowKit Go.Proofs
structure Kp (w w':World):Prop where
 size:w.heap.size≤w'.heap.size
 bts:∀{l:List UInt8} {v:Value},cK l v w→cK l v w'
 wds:∀{l:List UInt32} {v:Value},bk l v w→bk l v w'
theorem Kp.of_ext {w w':World} (h:aH w w'):Kp w w':=⟨h.size,fun b=>b.ext h,fun b=>b.ext h⟩
theorem Kp.refl (w:World):Kp w w:=.of_ext (aH.refl w)
theorem Kp.trans {a b c:World} (h:Kp a b) (k:Kp b c):Kp a c:=⟨Nat.le_trans h.size k.size,fun x=>k.bts (h.bts x),fun x=>k.wds (h.wds x)⟩
theorem cK.kp {w w':World} {l:List UInt8} {v:Value} (h:cK l v w) (k:Kp w w'):cK l v w':=k.bts h
theorem bk.kp {w w':World} {l:List UInt32} {v:Value} (h:bk l v w) (k:Kp w w'):bk l v w':=k.wds h
theorem du.kp {w w':World} {b:Bool} {n m:List UInt32} {v:Value} (h:du b n m v w) (k:Kp w w'):du b n m v w':=by
 obtain⟨x,y,rfl,h1,h2⟩:=h
 exact⟨x,y,rfl,h1.kp k,h2.kp k⟩
def qa (T:TypeId) (g:Nat) (st:Option (List UInt8)) (w:World):Prop:=∃A n c,bQ g T [.slice A n c,B st.isNone] w∧cK (st.getD []) (.slice A n c) w∧pS A g
theorem cD.rdT {g:Nat} {st:Option (List UInt8)} {w:World} (h:cD g st w):qa 204 g st w:=h
theorem qa.rdAt {g:Nat} {st:Option (List UInt8)} {w:World} (h:qa 204 g st w):cD g st w:=h
section
variable {T:TypeId} {g:Nat} {st:Option (List UInt8)} {w w':World}
theorem qa.ext (h:qa T g st w) (hx:aH w w'):qa T g st w':=by
 obtain⟨A,n,c,h1,h2,h3⟩:=h
 exact⟨A,n,c,h1.ext hx,h2.ext hx,h3⟩
theorem En (A:Option Addr) (n c:Nat) (b:Bool) (l:List UInt32):∀(j:Nat) (u:Value),u∈l.map bE→(#[.slice A n c,.bool b]:Array Value)[j]? ≠some u:=by
 intro j u hu
 obtain⟨x,_,rfl⟩:=List.mem_map.1 hu
 match j with
 |0=>simp[bE]
 |1=>simp[bE]
 |j+2=>simp
theorem qa.kp (hr:qa T g st w) (hw:w.grownBy w' (some g)):Kp w w':=by
 obtain⟨A,n,c,h1,_⟩:=hr
 exact⟨hw.size,fun h=>Sl.keep h h1 (wJ A n c _ _) hw,fun h=>Sl.keep h h1 (En A n c _ _) hw⟩
theorem qa.other {T':TypeId} {g':Nat} {s:Option (List UInt8)} (h:qa T' g' s w) (hr:qa T g st w) (hw:w.grownBy w' (some g)) (hne:g'≠g):qa T' g' s w':=by
 obtain⟨A,n,c,h1,h2,h3⟩:=h
 exact⟨A,n,c,h1.other hw (fun e=>hne (Option.some.inj e)),h2.kp (hr.kp hw),h3⟩
theorem qa.set {l l':List UInt8} {v:Value} (h:qa T g (some l) w) (hv:cK l' v w) (hloc:∀A n c,v=.slice A n c→pS A g):
 ∃w',(Instr.storeAt 22 (.pointer (some ⟨g,0,none⟩)) v).run Tryz.prog w=.ok () w'∧w.grownBy w' (some g)∧qa T g (some l') w':=by
 obtain⟨A,n,c,h1,h2,h4⟩:=h
 obtain⟨A',n',c',rfl,h3⟩:=id hv
 have hg:=bi w g 0 (.slice A' n' c')
 have hk:=qa.kp (T:=T) (st:=some l) ⟨A,n,c,h1,h2,h4⟩ hg
 refine⟨_,el (i:=0) dA E h1 (by simp),hg,A',n',c',h1.set 0 _,hk.bts hv,hloc _ _ _ rfl⟩
end
theorem BK (b:Bool) (A C:Option Addr) (n c m d:Nat) (l:List UInt8):∀(j:Nat) (u:Value),u∈l.map U8→(#[.bool b,.slice A n c,.slice C m d]:Array Value)[j]? ≠some u:=by
 intro j u hu
 obtain⟨x,_,rfl⟩:=List.mem_map.1 hu
 match j with
 |0=>simp[U8]
 |1=>simp[U8]
 |2=>simp[U8]
 |j+3=>simp
theorem bQ.kpR {g:Nat} {T:TypeId} {b:Bool} {x y:Value} {w w':World} (h:bQ g T [B b,x,y] w) (hx:∃A n c,x=.slice A n c) (hy:∃A n c,y=.slice A n c) (hw:w.grownBy w' (some g)):Kp w w':=by
 obtain⟨A,n,c,rfl⟩:=hx
 obtain⟨C,m,d,rfl⟩:=hy
 exact⟨hw.size,fun k=>Sl.keep k h (BK b A C n c m d _) hw,fun k=>Sl.keep k h (uH b A C n c m d _) hw⟩
theorem qa.off {T:TypeId} {g g':Nat} {st:Option (List UInt8)} {w w':World} (h:qa T g st w) (k:Kp w w') (hw:w.grownBy w' (some g')) (hne:g≠g'):qa T g st w':=by
 obtain⟨A,n,c,h1,h2,h3⟩:=h
 exact⟨A,n,c,h1.other hw (fun e=>hne (Option.some.inj e)),h2.kp k,h3⟩
theorem qc {w w1 w2:World} {row:Option Nat} {g:Nat} (h:w.grownBy w1 row) (q:w1.grownBy w2 (some g)) (hg:w.heap.size≤g):w.grownBy w2 row:=
 ⟨q.os.trans h.os,q.tape.trans h.tape,q.output.trans h.output,Nat.le_trans h.size q.size,fun i hi hne=>(q.block i (Nat.lt_of_lt_of_le hi h.size) (fun e=>by have:=Option.some.inj e;omega)).trans (h.block i hi hne)⟩
theorem fV {P:Program} {fn:Func} {R:Ending→World→Prop} {N:Nat} {fr:Fr} {p s:Tmp} {t T:TypeId} {u:Value} {l:List Value} {w:World} {g:Nat} {d:TypeDesc} (hr:fn.results= #[.cell p t,.tmp s]) (hv:lk fr p=some (.pointer (some ⟨g,0,none⟩))) (hs:lk fr s=some u) (hb:bQ g T l w) (hu:P.underlying t=some d) (hd:d.isRow=true) (hi:(P.info? t).map (·.size)=some l.length)
 (h:R (.returned (.tuple #[.agg l.toArray,u])) w):gC (bodyPost P fn R) N [] fr w .ret:=fun a ha=>by
 refine⟨ha.defers,.tuple #[.agg l.toArray,u],?_,h⟩
 have hp:=ha.at_ p _ hv
 have hp':a.tmps[p]?.getD undef=.pointer (some ⟨g,0,none⟩):=by simpa using hp
 have hq:=ha.at_ s _ hs
 have hl:=run_loadVar_row w g T t l.toArray (0,0) d hb hu (by cases d<;>first|rfl|exact hd) (by simpa using hi)
 simp[results,hr,hp',asAddr,hl,←hq]
def uz (n:Nat):Int:=if n%2=0 then((n/2:Nat):Int) else-((n/2:Nat):Int)-1
theorem Jz (n:Nat):DH (uz n)=n:=by
 unfold uz DH
 split<;>split<;>omega
theorem HU {P:Program} {w:World} {t:TypeId} {x y:Operand} {q:Nat} (hq:q<9223372036854775808):(bin .xor t x y (I (q:Int)) (I 0)).run P w=.ok (I (q:Int)) w:=by
 have h:=CL (P:=P) (w:=w) (t:=t) (x:=x) (y:=y) (a:=Int64.ofInt q) (b:=Int64.ofInt 0)
 rw[Int64.toInt_ofInt_of_le (by simp) (by simp;omega)] at h
 have e:(Int64.ofInt q^^^Int64.ofInt 0).toInt=q:=by
  rw[show Int64.ofInt 0=0 from rfl,Int64.xor_zero,Int64.toInt_ofInt_of_le (by simp) (by simp;omega)]
 rw[e] at h
 exact h
theorem HV {P:Program} {w:World} {t:TypeId} {x y:Operand} {q:Nat} (hq:q<9223372036854775808):(bin .xor t x y (I (q:Int)) (I (-1))).run P w=.ok (I (-(q:Int)-1)) w:=by
 have h:=CL (P:=P) (w:=w) (t:=t) (x:=x) (y:=y) (a:=Int64.ofInt q) (b:=Int64.ofInt (-1))
 rw[Int64.toInt_ofInt_of_le (by simp) (by simp;omega)] at h
 have e:(Int64.ofInt q^^^Int64.ofInt (-1)).toInt= -(q:Int)-1:=by
  have:Int64.ofInt q^^^Int64.ofInt (-1)= ~~~(Int64.ofInt q):=by
   apply Int64.toBitVec_inj.1
   rw[Int64.toBitVec_xor,Int64.toBitVec_not]
   have:(Int64.ofInt (-1)).toBitVec=BitVec.allOnes 64:=by decide
   rw[this,BitVec.xor_allOnes]
  rw[this,Int64.toInt_not,Int64.toInt_ofInt_of_le (by simp) (by simp;omega)]
  exact Int.bmod_eq_of_le (by simp;omega) (by simp;omega)
 rw[e] at h
 exact h
def w4 (a b c d:UInt8):UInt32:=UInt32.ofNat (a.toNat+256*b.toNat+65536*c.toNat+16777216*d.toNat)
theorem Gc (a b c d:UInt8):(w4 a b c d).toNat=a.toNat+256*b.toNat+65536*c.toNat+16777216*d.toNat:=by
 have:=a.toNat_lt;have:=b.toNat_lt;have:=c.toNat_lt;have:=d.toNat_lt
 unfold w4
 rw[UInt32.toNat_ofNat']
 omega
theorem JA (a b c d:UInt8):CR (w4 a b c d)=[a,b,c,d]:=by
 have ha:=a.toNat_lt;have hb:=b.toNat_lt;have hc:=c.toNat_lt;have hd:=d.toNat_lt
 have e:∀x y:UInt8,x.toNat=y.toNat→x=y:=fun x y h=>UInt8.toNat_inj.1 h
 have h:=Gc a b c d
 unfold CR
 congr 1
 ·refine e _ _ ?_
  rw[UInt32.toNat_toUInt8,h];omega
 congr 1
 ·refine e _ _ ?_
  rw[UInt32.toNat_toUInt8,UInt32.toNat_shiftRight,h,show(UInt32.ofNat 8).toNat%32=8 from rfl,Nat.shiftRight_eq_div_pow];omega
 congr 1
 ·refine e _ _ ?_
  rw[UInt32.toNat_toUInt8,UInt32.toNat_shiftRight,h,show(UInt32.ofNat 16).toNat%32=16 from rfl,Nat.shiftRight_eq_div_pow];omega
 congr 1
 ·refine e _ _ ?_
  rw[UInt32.toNat_toUInt8,UInt32.toNat_shiftRight,h,show(UInt32.ofNat 24).toNat%32=24 from rfl,Nat.shiftRight_eq_div_pow];omega
theorem Gd (a:UInt8):a.toUInt32.toNat=a.toNat:=by simp
theorem KQ (a b c d:UInt8):((a.toUInt32|||(b.toUInt32<<<UInt32.ofNat 8))|||(c.toUInt32<<<UInt32.ofNat 16))|||(d.toUInt32<<<UInt32.ofNat 24)=w4 a b c d:=by
 have ha:=a.toNat_lt;have hb:=b.toNat_lt;have hc:=c.toNat_lt;have hd:=d.toNat_lt
 have sh:∀(x:UInt8) (k:Nat),k≤24→(x.toUInt32<<<UInt32.ofNat k).toNat=x.toNat<<<k:=fun x k hk=>by
  have hx:=x.toNat_lt
  rw[UInt32.toNat_shiftLeft,Gd]
  have:(UInt32.ofNat k).toNat%32=k:=by rw[UInt32.toNat_ofNat'];omega
  rw[this,Nat.shiftLeft_eq]
  have:2^k≤2^24:=Nat.pow_le_pow_right (by omega) hk
  have:x.toNat*2^k≤255*2^24:=Nat.mul_le_mul (by omega) this
  omega
 refine mn ?_
 rw[Gc]
 simp only[UInt32.toNat_or,sh _ 8 (by omega),sh _ 16 (by omega),sh _ 24 (by omega),Gd]
 rw[Nat.or_comm a.toNat,←Nat.shiftLeft_add_eq_or_of_lt (by omega),Nat.or_comm _ (c.toNat<<<16),←Nat.shiftLeft_add_eq_or_of_lt (by rw[Nat.shiftLeft_eq];omega),Nat.or_comm _ (d.toNat<<<24),←Nat.shiftLeft_add_eq_or_of_lt (by simp only[Nat.shiftLeft_eq];omega)]
 simp only[Nat.shiftLeft_eq]
 omega
def dM:List UInt8→List UInt32
 |a::b::c::d::l=>w4 a b c d::dM l
 |_=>[]
theorem jK:∀(n:Nat) (l:List UInt8),l.length=4*n→(dM l).length=n
 |0,[],_=>rfl
 |n+1,a::b::c::d::l,h=>by
  have:=jK n l (by simp at h;omega)
  simp[dM,this]
 |n+1,[],h=>by simp at h
 |n+1,[_],h=>by simp at h;omega
 |n+1,[_,_],h=>by simp at h;omega
 |n+1,[_,_,_],h=>by simp at h;omega
theorem uK:∀(n:Nat) (l:List UInt8),l.length=4*n→lC (dM l)=l
 |0,[],_=>rfl
 |n+1,a::b::c::d::l,h=>by
  have:=uK n l (by simp at h;omega)
  have e:∀x (l:List UInt32),lC (x::l)=CR x++lC l:=fun x l=>by simp[lC]
  rw[dM,e,this,JA];rfl
 |n+1,[],h=>by simp at h
 |n+1,[_],h=>by simp at h;omega
 |n+1,[_,_],h=>by simp at h;omega
 |n+1,[_,_,_],h=>by simp at h;omega
theorem uL:∀(i:Nat) (l:List UInt8) (h:4*(i+1)≤l.length),dM (l.take (4*(i+1)))=dM (l.take (4*i))++[w4 (l[4*i]) (l[4*i+1]) (l[4*i+2]) (l[4*i+3])]
 |0,a::b::c::d::l,_=>by simp[dM]
 |i+1,a::b::c::d::l,h=>by
  have:=uL i l (by simp at h;omega)
  have e1:4*(i+1+1)=4*(i+1)+4:=by omega
  have e2:4*(i+1)=4*i+4:=by omega
  simp only[e1,List.take_succ_cons,dM,this]
  simp only[e2,List.take_succ_cons,dM,List.cons_append]
  rfl
 |i,[],h=>by simp at h
 |i,[_],h=>by simp at h;omega
 |i,[_,_],h=>by simp at h;omega
 |i,[_,_,_],h=>by simp at h;omega
def vZ (l:List UInt8):Option (List UInt32×List UInt8):=(gx l).bind fun p=>
 if p.1≤p.2.length/4∧lb (val (dM (p.2.take (4*p.1))))=dM (p.2.take (4*p.1)) then some (dM (p.2.take (4*p.1)),p.2.drop (4*p.1)) else none
theorem kG {l t:List UInt8} {m:List UInt32} (h:vZ l=some (m,t)):l=mh m++t∧lb (val m)=m∧m.length<18446744073709551616:=by
 unfold vZ at h
 cases hu:gx l with
 |none=>rw[hu] at h;cases h
 |some p=>
  obtain⟨n,u⟩:=p
  rw[hu] at h
  have h:(if n≤u.length/4∧lb (val (dM (u.take (4*n))))=dM (u.take (4*n)) then some (dM (u.take (4*n)),u.drop (4*n)) else none)=some (m,t):=h
  split at h
  ·rename_i hc
   simp only[Option.some.injEq,Prod.mk.injEq] at h
   have hl:(u.take (4*n)).length=4*n:=by rw[List.length_take];omega
   have hn:=jK n _ hl
   obtain⟨h1,h2⟩:=gn hu
   rw[←h.1,←h.2]
   refine⟨?_,hc.2,by omega⟩
   unfold mh
   rw[hn,uK n _ hl,List.append_assoc,List.take_append_drop]
   exact h1
  ·cases h
def nQ:List UInt8→Option ((Bool×List UInt32×List UInt32)×List UInt8)
 |[]=>none
 |c::l=>if 1<c.toNat then none else(vZ l).bind fun p=>(vZ p.2).bind fun q=>if rv (decide (c.toNat=1)) p.1 q.1=true then some ((decide (c.toNat=1),p.1,q.1),q.2) else none
end Go.Rl
namespace Go.Rl
open Go.RowKit Go.Proofs
theorem lI:aJ Tryz.prog 178:=⟨_,Tryz.func178,by kernel_rfl,rfl⟩
theorem xj:aJ Tryz.prog 159:=⟨_,Tryz.func159,by kernel_rfl,rfl⟩
theorem xk:aJ Tryz.prog 158:=⟨_,Tryz.func158,by kernel_rfl,rfl⟩
section
variable {w:World} {g:Nat}
theorem Ge {st:Option (List UInt8)} (hr:cD g st w) (h:st.bind gx=none):Calls Tryz.prog 124 #[.pointer (some ⟨g,0,none⟩)] w (bN fun r w'=>w.grownBy w' (some g)∧r=.tuple #[bW 0,B false]∧∃l',cD g l' w'):=by
 have:=AD hr
 rw[h] at this
 exact this
theorem Gf {st:Option (List UInt8)} {n:Nat} {t:List UInt8} (hr:cD g st w) (h:st.bind gx=some (n,t)):Calls Tryz.prog 124 #[.pointer (some ⟨g,0,none⟩)] w (bN fun r w'=>w.grownBy w' (some g)∧r=.tuple #[bW (UInt64.ofNat n),B true]∧cD g (some t) w'):=by
 have:=AD hr
 rw[h] at this
 exact this
end
theorem JB {st:Option (List UInt8)} (h:st.bind gx=none):st.bind vZ=none:=by
 cases st with
 |none=>rfl
 |some l=>
  have h:gx l=none:=h
  show vZ l=none
  unfold vZ
  rw[h];rfl
theorem BL {st:Option (List UInt8)} {n:Nat} {t:List UInt8} (h:st.bind gx=some (n,t)):st.bind vZ=if n≤t.length/4∧lb (val (dM (t.take (4*n))))=dM (t.take (4*n)) then some (dM (t.take (4*n)),t.drop (4*n)) else none:=by
 cases st with
 |none=>cases h
 |some l=>
  have h:gx l=some (n,t):=h
  show vZ l=_
  unfold vZ
  rw[h];rfl
theorem C7 {st:Option (List UInt8)} {n:Nat} {t:List UInt8} {k:Nat} (h:st.bind gx=some (n,t)) (hl:∀l,st=some l→l.length≤k):t.length≤k∧n<18446744073709551616:=by
 cases st with
 |none=>cases h
 |some l=>
  obtain⟨h1,h2⟩:=gn (show gx l=some (n,t) from h)
  have:=hl l rfl
  rw[h1,List.length_append] at this
  exact⟨by omega,h2⟩
def yF (b:Nat) (v:Value):Prop:=∀k,v.ownBlock=some k→b≤k
theorem AE {s t:Bool} {a b c d:Value} (h:(Value.agg #[B s,a,b])=.agg #[B t,c,d]):a=c∧b=d:=by
 injection h with h
 have:=congrArg Array.toList h
 simp only[List.cons.injEq] at this
 exact⟨this.2.1,this.2.2.1⟩
def NatR (g:Nat) (w:World) (o:Option (List UInt32×List UInt8)) (r:Value) (w':World):Prop:=
 w.grownBy w' (some g)∧match o with
  |some (m,t)=>∃v,r=.tuple #[v,B true]∧bk m v w'∧cD g (some t) w'∧yF w.heap.size v
  |none=>∃v,r=.tuple #[v,B false]∧(∃m,bk m v w')∧∃l',cD g l' w'
theorem xl {w:World} {g:Nat} {st:Option (List UInt8)} (hr:cD g st w) (hl:∀l,st=some l→l.length≤549755813888):
 Calls Tryz.prog 178 #[.pointer (some ⟨g,0,none⟩)] w (bN (NatR g w (st.bind vZ))):=by
 refine enter (vs:=[.pointer (some ⟨g,0,none⟩)]) Tryz.func178 E E E ?_
 refine af (aa (ac E E (ac E E (ag (ab (af ?_))))))
 rcases hU:st.bind gx with _|⟨n,t⟩
 ·refine aa (ae E E (an kW E E (Ge hr hU) ?_))
  rintro v11 w11 ⟨x11,rfl,l',hr1⟩
  have m11:=(hr.rdT).kp x11
  refine ae E E (aA E E (cu) (aA E E (cv) (ac E E (ac E E (ag (ab (af (af (aa (ae E E (bw E E bB ?_)))))))))))
  refine ae E E (am E E E (am E E E (am E E E (am E E E (am E E E (am E E E (am E E E (am E E E (am E E E ?_)))))))))
  refine aq E E E (ag (ab (bm E (af (aa (ac E E (ac E E (ag (ab (aw (az (bt E E E ?_))))))))))))
  exact⟨_,rfl,x11,by rw[JB hU];exact⟨_,rfl,⟨_,bk.nil _⟩,l',hr1⟩⟩
 ·obtain⟨ht,hn⟩:=C7 hU hl
  have hnn:(UInt64.ofNat n).toNat=n:=by rw[UInt64.toNat_ofNat'];omega
  refine aa (ae E E (an kW E E (Gf hr hU) ?_))
  rintro v11 w11 ⟨x11,rfl,hr1⟩
  have m11:=(hr.rdT).kp x11
  refine ae E E (aA E E (cu) (aA E E (cv) ?_))
  obtain⟨A,n',c,k,b,_⟩:=hr1.rdT
  have b:cK t (.slice A n' c) w11:=b
  refine ac E E (ac E E (ag (ab (af (af (aa (ae E E (bw E E bB (ae E E (ak E (ae E E (ak E (ae E E ?_)))))))))))))
  refine ak E (aE E E (ak E (ah E E (av (o:=0) LJ E (by kernel_rfl) E) (ak E (aj E E (ai Lv E (k.cell (i:=0) E)) ?_)))))
  refine ak E (aV E E (ey b) (ak E (bb E E (fO Lo Lp) (ak E (al (v:=bW 4) E E E (lx (by decide)) ?_)))))
  refine ak E (al E E E (cX) (aI E E E (ag (ab ?_))))
  refine bu E (fun h26=>?_) (fun h26=>?_)
  ·have hlong:t.length/4<n:=by
    have h26:=UInt64.lt_iff_toNat_lt.1 h26
    rw[UInt64.toNat_div,hnn,UInt64.toNat_ofNat',show(4:UInt64).toNat=4 from rfl] at h26
    omega
   refine af (aa (ac E E (ac E E (ag (ab (aw (az (bt E E E ?_))))))))
   exact⟨_,rfl,x11,by rw[BL hU,if_neg (by omega)];exact⟨_,rfl,⟨_,bk.nil _⟩,_,hr1⟩⟩
  ·have hle:n≤t.length/4:=by
    refine Nat.le_of_not_lt fun hh=>h26 (UInt64.lt_iff_toNat_lt.2 ?_)
    rw[UInt64.toNat_div,hnn,UInt64.toNat_ofNat',show(4:UInt64).toNat=4 from rfl]
    omega
   have h4n:(4*UInt64.ofNat n).toNat=4*n:=by
    rw[UInt64.toNat_mul,hnn,show(4:UInt64).toNat=4 from rfl]
    omega
   obtain⟨bs,hbs⟩:∃bs,bs=t.take (4*n):=⟨_,rfl⟩
   have hbl:bs.length=4*n:=by rw[hbs,List.length_take];omega
   refine aC (ab (af (aa (ae E E (ae E E (al (u:=bW 4) E E E (iJ) (an iM E E ((by have:=ug (n:=4*UInt64.ofNat n) hr1 (by rw[h4n];omega);rw[h4n,←hbs] at this;exact this)) ?_)))))))
   rintro v31 w31 ⟨b31,rfl,hb31,hr2,g31⟩
   have m31:=(hr1.rdT).kp g31
   refine ae E E (aA E E (cu) (aA E E (cv) (ac E E (ac E E (ag (ab (af (aa (ac E E (ag (ab (af ?_))))))))))))
   refine aG ?_
   refine mi (fun(i:Nat) (v:Value) (u:Value)=>[(4,bW (UInt64.ofNat n)),(6,v),(8,u)]) (fun(i:Nat) (v:Value) (u:Value) w'=>aH w31 w'∧cK (bs.drop (4*i)) v w31∧dV w31.heap.size (dM (bs.take (4*i))) u w'∧i≤n) (fun(i:Nat) (v:Value) (u:Value)=>n-i) (0) (b31) (.slice none 0 0) ⟨rfl,rfl,rfl,trivial⟩ ⟨aH.refl _,by simpa using hb31,by simpa [dM] using dV.nil _ _,by omega⟩ ?_
   rintro i v u w6 ⟨e6,h6,o6,hi⟩
   refine af (af ?_)
   have hdl:(bs.drop (4*i)).length=4*n-4*i:=by rw[List.length_drop,hbl]
   refine aa (ae E E (aV E E (ey (h6.ext e6)) (al E E E (bT) (ag (ab ?_)))))
   refine bu E (fun h36=>?_) (fun h36=>?_)
   ·refine aC (ab (af (aG ?_)))
    have hdl:(bs.drop (4*i)).length=4*n-4*i:=by rw[List.length_drop,hbl]
    refine bP 24 [4,6,39,62] (by kernel_rfl) (by kernel_rfl) ?_
    refine ax E E (ax E E ?_)
    obtain⟨a41,p41,q41⟩:=kB (h6.ext e6) (i:=0) (by omega) .i64
    refine aD E E E (fun w _=>p41 w) (aQ E E (fun w hw=>ai Lx E (hw.cell_some q41)) (dU E E (fun w _=>fz Lx Ll) ?_))
    refine ax E E ?_
    obtain⟨a45,p45,q45⟩:=kB (h6.ext e6) (i:=1) (by omega) .i64
    refine aD E E E (fun w _=>p45 w) (aQ E E (fun w hw=>ai Lx E (hw.cell_some q45)) (dU E E (fun w _=>fz Lx Ll) ?_))
    refine aZ (v:=bW 8) E E E (fun w _=>eE 8 (by omega)) (aZ E E E (fun w _=>fg) (ax E E ?_))
    obtain⟨a51,p51,q51⟩:=kB (h6.ext e6) (i:=2) (by omega) .i64
    refine aD E E E (fun w _=>p51 w) (aQ E E (fun w hw=>ai Lx E (hw.cell_some q51)) (dU E E (fun w _=>fz Lx Ll) ?_))
    refine aZ (v:=bW 16) E E E (fun w _=>eE 16 (by omega)) (aZ E E E (fun w _=>fg) (ax E E ?_))
    obtain⟨a57,p57,q57⟩:=kB (h6.ext e6) (i:=3) (by omega) .i64
    refine aD E E E (fun w _=>p57 w) (aQ E E (fun w hw=>ai Lx E (hw.cell_some q57)) (dU E E (fun w _=>fz Lx Ll) ?_))
    refine aZ (v:=bW 24) rfl rfl rfl (fun w _=>eE 24 (by omega)) (aZ rfl rfl rfl (fun w _=>fg) (eG (S:=bk [((((((((((bs.drop (4*i))[0])).toUInt32)|||((((((bs.drop (4*i))[1])).toUInt32)<<<UInt32.ofNat 8))))|||((((((bs.drop (4*i))[2])).toUInt32)<<<UInt32.ofNat 16))))|||((((((bs.drop (4*i))[3])).toUInt32)<<<UInt32.ofNat 24))))]) (bk.stable _) rfl (fun w' _=>by rintro _ rfl;obtain⟨r,w2,h1,h2,h3,_⟩:=jd Tryz.underlying44 (w:=w') w'.heap.size [((((((((((bs.drop (4*i))[0])).toUInt32)|||((((((bs.drop (4*i))[1])).toUInt32)<<<UInt32.ofNat 8))))|||((((((bs.drop (4*i))[2])).toUInt32)<<<UInt32.ofNat 16))))|||((((((bs.drop (4*i))[3])).toUInt32)<<<UInt32.ofNat 24))))] (by simp) (Nat.le_refl _);exact⟨r,w2,h1,h2,h3.wds⟩) ?_))
    refine cn ?_
    intro wg8 xg8
    rintro _ rfl
    rintro _ hq6
    obtain rfl:=Eq.symm hq6
    rintro _ hq39
    obtain rfl:=Eq.symm hq39
    intro vg62 b62
    obtain⟨v63,w63,hr63,o63,g63⟩:=kV Tryz.underlying44 (ty:=44) (o6.ext xg8) b62 (by have:=jK i (bs.take (4*i)) (by rw[List.length_take];omega);simp;omega) ((e6.trans xg8)).size
    have x63:=aH.of_grew ((e6.trans xg8)) g63 (o6.ext xg8).ge
    refine aT E E hr63 (ac E E (ag (aW (ab (aa (ae E E ?_))))))
    obtain⟨v38,p38,b38⟩:=qP h6 (lo:=4) (by omega) .i64
    refine dm E E E E E (p38 _) ?_
    refine ac E E (ag ?_)
    refine je (i+1) (v38) (v63) ⟨rfl,rfl,rfl,trivial⟩ ⟨x63,by rw[List.drop_drop] at b38;exact b38,by
     rw[uL i bs (by omega)]
     have e:=KQ ((bs.drop (4*i))[0]) ((bs.drop (4*i))[1]) ((bs.drop (4*i))[2]) ((bs.drop (4*i))[3])
     simp only[List.getElem_drop,Nat.add_zero] at e
     simp only[List.getElem_drop,Nat.add_zero,e] at o63
     exact o63,by omega⟩ (by omega)
   ·refine bc (aK (aK (bf (ab (af ?_)))))
    by_cases h66:UInt64.ofNat n=0
    ·refine bP 12 [2,74] (by kernel_rfl) (by kernel_rfl) ?_
     refine ax E E (ax E E (aZ (v:=bW 0) E E E (fun w _=>dD h66 lz) (ax E E (jy E E E (jy E E E (jy E E E ?_))))))
     refine jy E E E (jy E E E (jy E E E (t9 E E E (fS E E (cn ?_)))))
     intro wg9 xg9
     rintro _ hq2
     obtain rfl:=Eq.symm hq2
     rintro _ rfl
     refine ac E E (ag (ab (aw (bt E E E ?_))))
     exact⟨_,rfl,(x11.trans g31).trans (dL (e6.trans xg9)),by
      rw[BL hU,←hbs]
      first
      |(have hx:(dM bs)[(UInt64.ofNat n-1).toNat]≠0↔lb (val (dM bs))=dM bs:=by
         have e:(UInt64.ofNat n-1).toNat=(dM bs).length-1:=by omega
         simp only[e]
         exact tL (by omega)
        by_cases hc:lb (val (dM bs))=dM bs
        ·rw[if_pos ⟨hle,hc⟩,decide_eq_true (hx.2 hc)]
         exact⟨u,rfl,o6.wds.ext xg9,hr2.ext (e6.trans xg9),fun k hk=>Nat.le_trans (x11.trans g31).size (o6.ge k hk)⟩
        ·rw[if_neg fun h=>hc h.2,decide_eq_false fun h=>hc (hx.1 h)]
         exact⟨u,rfl,⟨_,o6.wds.ext xg9⟩,_,hr2.ext (e6.trans xg9)⟩)
      |(have h0:n=0:=by
         have:=congrArg UInt64.toNat h66
         rw[hnn] at this
         exact this
        have hb0:dM bs=[]:=List.eq_nil_of_length_eq_zero (by rw[jK n bs hbl];exact h0)
        have hb1:bs.take (4*i)=bs:=List.take_of_length_le (by omega)
        rw[hb1,hb0] at o6
        rw[hb0,if_pos ⟨hle,rfl⟩]
        exact⟨u,rfl,o6.wds.ext xg9,hr2.ext (e6.trans xg9),fun k hk=>Nat.le_trans (x11.trans g31).size (o6.ge k hk)⟩)⟩
    ·refine bP 12 [2,74] (by kernel_rfl) (by kernel_rfl) ?_
     refine ax E E (ax E E (aZ (v:=bW 0) E E E (fun w _=>d7 h66 lz) (ax E E (bI E E (ax E E (bI E E (ax E E ?_)))))))
     refine bI E E (aZ (v:=bW 1) E E E (fun w _=>dR) (bI E E ?_))
     have hn0:0<n:=by
      rcases Nat.eq_zero_or_pos n with h|h
      ·exact absurd (by rw[h];rfl) h66
      ·exact h
     have hns:=jK n bs hbl
     have hin:i=n:=by omega
     have hbi:bs.take (4*i)=bs:=List.take_of_length_le (by omega)
     rw[hbi] at o6
     have hm1:(UInt64.ofNat n-1).toNat=n-1:=by
      rw[UInt64.toNat_sub_of_le _ _ (UInt64.le_iff_toNat_le.2 (by rw[hnn];exact hn0)),hnn];rfl
     obtain⟨a71,p71,q71⟩:=cQ Lj o6.wds (i:=(UInt64.ofNat n-1).toNat) (by omega) .u64
     refine aD E E E (fun w hw=>p71 _) (bI E E (aQ E E (fun w hw=>ai Ll E (hw.cell_some q71)) (bI E E ?_)))
     refine aZ (v:=bE 0) E E E (fun w _=>lw) (ua E E E (fS E E (cn ?_)))
     intro wg9 xg9
     rintro _ hq2
     obtain rfl:=Eq.symm hq2
     rintro _ rfl
     refine ac E E (ag (ab (aw (bt E E E ?_))))
     exact⟨_,rfl,(x11.trans g31).trans (dL (e6.trans xg9)),by
      rw[BL hU,←hbs]
      first
      |(have hx:(dM bs)[(UInt64.ofNat n-1).toNat]≠0↔lb (val (dM bs))=dM bs:=by
         have e:(UInt64.ofNat n-1).toNat=(dM bs).length-1:=by omega
         simp only[e]
         exact tL (by omega)
        by_cases hc:lb (val (dM bs))=dM bs
        ·rw[if_pos ⟨hle,hc⟩,decide_eq_true (hx.2 hc)]
         exact⟨u,rfl,o6.wds.ext xg9,hr2.ext (e6.trans xg9),fun k hk=>Nat.le_trans (x11.trans g31).size (o6.ge k hk)⟩
        ·rw[if_neg fun h=>hc h.2,decide_eq_false fun h=>hc (hx.1 h)]
         exact⟨u,rfl,⟨_,o6.wds.ext xg9⟩,_,hr2.ext (e6.trans xg9)⟩)
      |(have h0:n=0:=by
         have:=congrArg UInt64.toNat h66
         rw[hnn] at this
         exact this
        have hb0:dM bs=[]:=List.eq_nil_of_length_eq_zero (by rw[jK n bs hbl];exact h0)
        have hb1:bs.take (4*i)=bs:=List.take_of_length_le (by omega)
        rw[hb1,hb0] at o6
        rw[hb0,if_pos ⟨hle,rfl⟩]
        exact⟨u,rfl,o6.wds.ext xg9,hr2.ext (e6.trans xg9),fun k hk=>Nat.le_trans (x11.trans g31).size (o6.ge k hk)⟩)⟩
section
variable {w:World} {g:Nat}
theorem xm {st:Option (List UInt8)} (hr:cD g st w) (hl:∀l,st=some l→l.length≤549755813888) (h:st.bind vZ=none):Calls Tryz.prog 178 #[.pointer (some ⟨g,0,none⟩)] w (bN fun r w'=>w.grownBy w' (some g)∧∃v,r=.tuple #[v,B false]∧(∃m,bk m v w')∧∃l',cD g l' w'):=by
 have:=xl hr hl
 rw[h] at this
 exact this
theorem qf {st:Option (List UInt8)} {m:List UInt32} {t:List UInt8} (hr:cD g st w) (hl:∀l,st=some l→l.length≤549755813888) (h:st.bind vZ=some (m,t)):Calls Tryz.prog 178 #[.pointer (some ⟨g,0,none⟩)] w (bN fun r w'=>w.grownBy w' (some g)∧∃v,r=.tuple #[v,B true]∧bk m v w'∧cD g (some t) w'∧yF w.heap.size v):=by
 have:=xl hr hl
 rw[h] at this
 exact this
theorem Eo {st:Option (List UInt8)} {m:List UInt32} {t:List UInt8} (hr:cD g st w) (hl:∀l,st=some l→l.length≤549755813888) (h:st.bind vZ=some (m,t)):Calls Tryz.prog 178 #[.pointer (some ⟨g,0,none⟩)] w (bN fun r w'=>w.grownBy w' (some g)∧∃v,r=.tuple #[v,B true]∧bk m v w'∧cD g (some t) w'):=by
 exact(qf hr hl h).mono fun _ _ ⟨r,h0,h1,v,h2,h3,h4,_⟩=>⟨r,h0,h1,v,h2,h3,h4⟩
theorem Ep {st:Option (List UInt8)} (hr:cD g st w) (h:st.bind gx=none):Calls Tryz.prog 89 #[.pointer (some ⟨g,0,none⟩)] w (bN fun r w'=>w.grownBy w' (some g)∧r=.tuple #[bW 0,I 5]∧cD g none w'):=by
 have:=o0 hr
 rw[h] at this
 exact this
theorem Er {st:Option (List UInt8)} {n:Nat} {t:List UInt8} (hr:cD g st w) (h:st.bind gx=some (n,t)):Calls Tryz.prog 89 #[.pointer (some ⟨g,0,none⟩)] w (bN fun r w'=>w.grownBy w' (some g)∧r=.tuple #[bW (UInt64.ofNat n),I 0]∧cD g (some t) w'):=by
 have:=o0 hr
 rw[h] at this
 exact this
end
def IntR (g:Nat) (w:World) (o:Option (Nat×List UInt8)) (r:Value) (w':World):Prop:=
 w.grownBy w' (some g)∧match o with
  |some (n,t)=>r=.tuple #[I (uz n),I 0]∧cD g (some t) w'
  |none=>r=.tuple #[I 0,I 5]∧cD g none w'
theorem Gg {P:Program} {w:World} {s d:TypeId} {n:Nat} (hs:P.underlying s=some (.int .u64)) (hd:P.underlying d=some (.int .i64)) (hn:n<18446744073709551616):(convert s d (bW (UInt64.ofNat n>>>UInt64.ofNat 1))).run P w=.ok (I ((n/2:Nat):Int)) w:=by
 have e:(UInt64.ofNat n>>>UInt64.ofNat 1).toNat=n/2:=by
  rw[UInt64.toNat_shiftRight,UInt64.toNat_ofNat',show(UInt64.ofNat 1).toNat%64=1 from rfl,Nat.shiftRight_eq_div_pow];omega
 have:=tI (P:=P) (w:=w) hs hd (a:=UInt64.ofNat n>>>UInt64.ofNat 1) (by omega)
 rwa [e] at this
theorem C8 {n:Nat}:(UInt64.ofNat n&&&1).toNat=n%2:=by
 rw[UInt64.toNat_and,UInt64.toNat_ofNat',show(1:UInt64).toNat=1 from rfl,Nat.and_one_is_mod];omega
theorem JC {P:Program} {w:World} {s d:TypeId} {n:Nat} (hs:P.underlying s=some (.int .u64)) (hd:P.underlying d=some (.int .i64)) (h:n%2=0):(convert s d (bW (UInt64.ofNat n&&&1))).run P w=.ok (I 0) w:=by
 have:=tI (P:=P) (w:=w) hs hd (a:=UInt64.ofNat n&&&1) (by rw[C8];omega)
 rw[C8,h] at this
 exact this
theorem JD {P:Program} {w:World} {s d:TypeId} {n:Nat} (hs:P.underlying s=some (.int .u64)) (hd:P.underlying d=some (.int .i64)) (h:n%2=1):(convert s d (bW (UInt64.ofNat n&&&1))).run P w=.ok (I 1) w:=by
 have:=tI (P:=P) (w:=w) hs hd (a:=UInt64.ofNat n&&&1) (by rw[C8];omega)
 rw[C8,h] at this
 exact this
theorem xn {w:World} {g:Nat} {st:Option (List UInt8)} (hr:cD g st w):
 Calls Tryz.prog 158 #[.pointer (some ⟨g,0,none⟩)] w (bN (IntR g w (st.bind gx))):=by
 refine enter (vs:=[.pointer (some ⟨g,0,none⟩)]) Tryz.func158 E E E ?_
 refine af (aa (ac E E (ac E E (ag (ab (af ?_))))))
 rcases hN:st.bind gx with _|⟨n,t⟩
 ·refine aa (ae E E (an gp E E (Ep hr hN) ?_))
  rintro v8 w8 ⟨x8,rfl,hr1⟩
  have m8:=(hr.rdT).kp x8
  refine ae E E (aA E E (cu) (aA E E (cv) (ac E E (ac E E (ag (ab (af (af (aa (ae E E (al E E E (dD (by decide) dn) ?_)))))))))))
  refine ag (ab (bm E (af (aa (ae E E (ac E E (ac E E (ag (ab (aw (az (bt E E E ?_))))))))))))
  exact⟨_,rfl,x8,rfl,hr1⟩
 ·refine aa (ae E E (an gp E E (Er hr hN) ?_))
  rintro v8 w8 ⟨x8,rfl,hr1⟩
  have m8:=(hr.rdT).kp x8
  refine ae E E (aA E E (cu) (aA E E (cv) (ac E E (ac E E (ag (ab (af (af (aa (ae E E (al E E E (d7 (by decide) dn) ?_)))))))))))
  have hnn:=(C7 (k:=(st.getD []).length) hN (by rintro l rfl;exact Nat.le_refl _)).2
  refine ag (ab (cN E (aC (ab (af ?_)))))
  rcases Nat.mod_two_eq_zero_or_one n with hm|hm
  ·refine aa (ae E E (al E E E (dk 1 (by omega)) (bb E E (Gg Lp Lo hnn) (ae E E ?_))))
   refine al (v:=bW 1) E E E (wG) (bb E E (JC Lp Lo hm) (bw E E (yp (by omega) (by omega)) ?_))
   refine al E E E (HU (by omega)) (ac E E (ac E E (ag (ab (aw (bt E E E ?_))))))
   exact⟨_,rfl,x8,congrArg (fun z=>Value.tuple #[I z,I 0]) (show _=uz n by unfold uz;rw[if_pos hm]),hr1⟩
  ·refine aa (ae E E (al E E E (dk 1 (by omega)) (bb E E (Gg Lp Lo hnn) (ae E E ?_))))
   refine al (v:=bW 1) E E E (wG) (bb E E (JD Lp Lo hm) (bw E E (yp (by omega) (by omega)) ?_))
   refine al E E E (HV (by omega)) (ac E E (ac E E (ag (ab (aw (bt E E E ?_))))))
   exact⟨_,rfl,x8,congrArg (fun z=>Value.tuple #[I z,I 0]) (show _=uz n by unfold uz;rw[if_neg (by omega)]),hr1⟩
theorem Da {c:UInt8} {l:List UInt8} (h:1<c.toNat):nQ (c::l)=none:=if_pos h
theorem Gh {c:UInt8} {l:List UInt8} (h:vZ l=none):nQ (c::l)=none:=by
 show(if 1<c.toNat then none else _)=none
 split
 ·rfl
 ·rw[h];rfl
theorem Gi {c:UInt8} {l t:List UInt8} {m:List UInt32} (h1:¬1<c.toNat) (h:vZ l=some (m,t)):nQ (c::l)=(vZ t).bind fun q=>if rv (decide (c.toNat=1)) m q.1=true then some ((decide (c.toNat=1),m,q.1),q.2) else none:=by
 show(if 1<c.toNat then none else _)=_
 rw[if_neg h1,h];rfl
def RatE (g:Nat) (w:World) (o:Option ((Bool×List UInt32×List UInt32)×List UInt8)) (r:Value) (w':World):Prop:=
 w.grownBy w' (some g)∧match o with
  |some (q,t)=>∃v,r=.tuple #[v,I 0]∧du q.1 q.2.1 q.2.2 v w'∧cD g (some t) w'
  |none=>∃v,r=.tuple #[v,I 5]∧du false [] [] v w'∧cD g none w'
def KR (g:Nat) (w:World) (o:Option ((Bool×List UInt32×List UInt32)×List UInt8)) (r:Value) (w':World):Prop:=
 w.grownBy w' (some g)∧match o with
  |some (q,t)=>∃x y,r=.tuple #[.agg #[B q.1,x,y],I 0]∧bk q.2.1 x w'∧bk q.2.2 y w'∧cD g (some t) w'∧yF w.heap.size x∧yF w.heap.size y
  |none=>∃v,r=.tuple #[v,I 5]∧du false [] [] v w'∧cD g none w'
theorem cD.lt {w:World} {g:Nat} {st:Option (List UInt8)} (h:cD g st w):g<w.heap.size:=by
 obtain⟨A,n,c,h1,_⟩:=h
 exact bQ.lt h1
theorem BM {c:UInt8}:c.toNat=1↔c=1:=by
 rw[←UInt8.toNat_inj,show(1:UInt8).toNat=1 from rfl]
theorem uM {w:World} {g:Nat} {st:Option (List UInt8)} (hr:cD g st w) (hl:∀l,st=some l→l.length≤549755813888):
 Calls Tryz.prog 159 #[.pointer (some ⟨g,0,none⟩)] w (bN (KR g w (st.bind nQ))):=by
 refine enter (vs:=[.pointer (some ⟨g,0,none⟩)]) Tryz.func159 E E E ?_
 have hglt:=hr.lt
 refine af (aa ?_)
 obtain⟨g2,w2,hr2,l2,x2,k2⟩:=iB (w:=w)
 refine aS E hr2 (ac E E (ag (ab (af (af (aa (ae E E (al E E E (fT LK) (ag (ab (cN E ?_)))))))))))
 refine aC (ab (af ?_))
 have rr:=hr.ext x2
 have kk:=k2
 have gg:w.grownBy w2 (some g):=dL x2
 have hne:some g2≠some g:=fun h=>by have:=Option.some.inj h;omega
 have hne':g≠g2:=by omega
 rcases st with _|(_|⟨c,l⟩)
 ·have hR:(none:Option (List UInt8)).bind nQ=none:=rfl
  refine aa (ae E E (an iM E E ((tj (n:=1) rr)) ?_))
  rintro v14 _ ⟨rfl,rfl⟩
  refine ae E E (aA E E (cu) (aA E E (cv) (ac E E (ac E E (ag (ab (af (af (aa (ae E E (bw E E bB ?_)))))))))))
  refine ae E E (am E E E (am E E E (am E E E (am E E E (aq E E E (ag (ab (bm E (af (aa ?_))))))))))
  refine bC (vs:=[]) E E iS ?_
  refine ae E E (an iP E E (iR rr) ?_)
  rintro v27 w27 ⟨rfl,rs,g27⟩
  have m27:=(rr.rdT).kp g27
  have gg:=gg.trans g27
  have kk:=kk.other g27 hne
  have rr:=rs
  obtain⟨p,q,w3,hp,hs3,q3,k3,n3,d3⟩:=kk.stR ⟨_,_,_,rfl⟩ ⟨_,_,_,rfl⟩ (du.mk (b:=false) (bk.nil _) (bk.nil _))
  refine ay E E (hs3) (ac E E (ag (ab (aw (az ?_)))))
  refine fV E E E k3 Ln E dX ?_
  exact⟨_,rfl,qc gg q3 l2,by rw[hR];exact⟨_,rfl,⟨p,q,rfl,n3,d3⟩,(rr.rdT.off (kk.kpR ⟨_,_,_,rfl⟩ ⟨_,_,_,rfl⟩ q3) q3 hne').rdAt⟩⟩
 ·have hR:(some []).bind nQ=none:=rfl
  refine aa (ae E E (an iM E E ((CQ (n:=1) rr (by decide))) ?_))
  rintro v14 _ ⟨rfl,rfl⟩
  refine ae E E (aA E E (cu) (aA E E (cv) (ac E E (ac E E (ag (ab (af (af (aa (ae E E (bw E E bB ?_)))))))))))
  refine ae E E (am E E E (am E E E (am E E E (am E E E (aq E E E (ag (ab (bm E (af (aa ?_))))))))))
  refine bC (vs:=[]) E E iS ?_
  refine ae E E (an iP E E (iR rr) ?_)
  rintro v27 w27 ⟨rfl,rs,g27⟩
  have m27:=(rr.rdT).kp g27
  have gg:=gg.trans g27
  have kk:=kk.other g27 hne
  have rr:=rs
  obtain⟨p,q,w3,hp,hs3,q3,k3,n3,d3⟩:=kk.stR ⟨_,_,_,rfl⟩ ⟨_,_,_,rfl⟩ (du.mk (b:=false) (bk.nil _) (bk.nil _))
  refine ay E E (hs3) (ac E E (ag (ab (aw (az ?_)))))
  refine fV E E E k3 Ln E dX ?_
  exact⟨_,rfl,qc gg q3 l2,by rw[hR];exact⟨_,rfl,⟨p,q,rfl,n3,d3⟩,(rr.rdT.off (kk.kpR ⟨_,_,_,rfl⟩ ⟨_,_,_,rfl⟩ q3) q3 hne').rdAt⟩⟩
 ·refine aa (ae E E (an iM E E ((ug (n:=1) rr (by simp))) ?_))
  rintro v14 w14 ⟨b14,rfl,hb,rs,g14⟩
  have m14:=(rr.rdT).kp g14
  have gg:=gg.trans g14
  have hs14:=gg.size
  have kk:=kk.other g14 hne
  have rr:cD g (some l) w14:=rs
  have hb:cK [c] b14 w14:=hb
  refine ae E E (aA E E (cu) (aA E E (cv) (ac E E (ac E E (ag (ab (af (af (aa (ae E E (bw E E bB ?_)))))))))))
  refine ae E E (ak E (ae E E (ak E ?_)))
  obtain⟨a21,p21,q21⟩:=kB hb (i:=0) (by simp) .i64
  refine ar E E E (p21 _) (ak E (aj E E (ai Lx E q21) (ak E (al (v:=U8 1) E E E (ub) (aI E E E ?_)))))
  refine ag (ab ?_)
  refine bu E (fun h24=>?_) (fun h24=>?_)
  ·have hc:1<c.toNat:=by have:=UInt8.lt_iff_toNat_lt.1 h24;simpa using this
   have hR:(some (c::l)).bind nQ=none:=Da hc
   refine af (aa ?_)
   refine bC (vs:=[]) E E iS ?_
   refine ae E E (an iP E E (iR rr) ?_)
   rintro v27 w27 ⟨rfl,rs,g27⟩
   have m27:=(rr.rdT).kp g27
   have gg:=gg.trans g27
   have kk:=kk.other g27 hne
   have rr:=rs
   obtain⟨p,q,w3,hp,hs3,q3,k3,n3,d3⟩:=kk.stR ⟨_,_,_,rfl⟩ ⟨_,_,_,rfl⟩ (du.mk (b:=false) (bk.nil _) (bk.nil _))
   refine ay E E (hs3) (ac E E (ag (ab (aw (az ?_)))))
   refine fV E E E k3 Ln E dX ?_
   exact⟨_,rfl,qc gg q3 l2,by rw[hR];exact⟨_,rfl,⟨p,q,rfl,n3,d3⟩,(rr.rdT.off (kk.kpR ⟨_,_,_,rfl⟩ ⟨_,_,_,rfl⟩ q3) q3 hne').rdAt⟩⟩
  ·have hc:¬1<c.toNat:=fun hh=>h24 (UInt8.lt_iff_toNat_lt.2 (by simpa using hh))
   have hl1:∀l',some l=some l'→l'.length≤549755813888:=fun l' e=>by
    have:=hl _ rfl
    cases e
    simp at this;omega
   refine aC (ab (af ?_))
   rcases hN:vZ l with _|⟨m,t⟩
   ·have hR:(some (c::l)).bind nQ=none:=Gh hN
    refine aa (ae E E (an lI E E ((xm (st:=some l) rr hl1 hN)) ?_))
    rintro v30 w30 ⟨g30,v0,rfl,_,_,rs⟩
    have m30:=(rr.rdT).kp g30
    have gg:=gg.trans g30
    have hs30:=gg.size
    have kk:=kk.other g30 hne
    have rr:=rs
    refine ae E E (aA E E (cu) (aA E E (cv) (ac E E (ac E E (ag (ab (af (af (aa (ae E E (bw E E bB ?_)))))))))))
    refine ag (ab (bm E (af (aa ?_))))
    refine bC (vs:=[]) E E iS ?_
    refine ae E E (an iP E E (iR rr) ?_)
    rintro v37 w37 ⟨rfl,rs,g37⟩
    have m37:=(rr.rdT).kp g37
    have gg:=gg.trans g37
    have kk:=kk.other g37 hne
    have rr:=rs
    obtain⟨p,q,w3,hp,hs3,q3,k3,n3,d3⟩:=kk.stR ⟨_,_,_,rfl⟩ ⟨_,_,_,rfl⟩ (du.mk (b:=false) (bk.nil _) (bk.nil _))
    refine ay E E (hs3) (ac E E (ag (ab (aw (az ?_)))))
    refine fV E E E k3 Ln E dX ?_
    exact⟨_,rfl,qc gg q3 l2,by rw[hR];exact⟨_,rfl,⟨p,q,rfl,n3,d3⟩,(rr.rdT.off (kk.kpR ⟨_,_,_,rfl⟩ ⟨_,_,_,rfl⟩ q3) q3 hne').rdAt⟩⟩
   ·refine aa (ae E E (an lI E E ((qf (st:=some l) rr hl1 hN)) ?_))
    rintro v30 w30 ⟨g30,v0,rfl,h0,rs,f0⟩
    have m30:=(rr.rdT).kp g30
    have gg:=gg.trans g30
    have hs30:=gg.size
    have kk:=kk.other g30 hne
    have rr:=rs
    refine ae E E (aA E E (cu) (aA E E (cv) (ac E E (ac E E (ag (ab (af (af (aa (ae E E (bw E E bB ?_)))))))))))
    refine ag (ab (cN E (aC (ab (af ?_)))))
    have hl2:∀l',some t=some l'→l'.length≤549755813888:=fun l' e=>by
     cases e
     have h1:=(kG hN).1
     have:=hl1 _ rfl
     rw[h1,List.length_append] at this
     omega
    obtain⟨s,hs⟩:∃s,s=decide (c.toNat=1):=⟨_,rfl⟩
    have hcs:s=decide (([c]:List UInt8)[0]'(Nat.zero_lt_one)=(1:UInt8)):=by
     rw[hs]
     exact decide_eq_decide.2 ⟨fun h=>BM.1 h,fun h=>BM.2 h⟩
    have hR1:=Gi hc hN
    rw[←hs] at hR1
    rcases hM:vZ t with _|⟨m',t'⟩
    rotate_left
    rcases hV:rv s m m'
    ·have hR:(some (c::l)).bind nQ=none:=by
      show nQ (c::l)=none
      rw[hR1,hM]
      exact if_neg (by rw[hV];simp)
     refine aa (ae E E (an lI E E ((Eo (st:=some t) rr hl2 hM)) ?_))
     rintro v40 w40 ⟨g40,v1,rfl,h1,rs⟩
     have m40:=(rr.rdT).kp g40
     have gg:=gg.trans g40
     have kk:=kk.other g40 hne
     have rr:=rs
     refine ae E E (aA E E (cu) (aA E E (cv) (ac E E (ac E E (ag (ab (af (aa (ae E E ?_)))))))))
     obtain⟨a44,p44,q44⟩:=kB (hb.kp (m30.trans m40)) (i:=0) (by simp) .i64
     refine ar E E E (p44 _) (aj E E (ai Lx E q44) (al (v:=U8 1) (r:=B s) E E E ((by rw[hcs];exact nS)) ?_))
     refine ae E E (ae E E ?_)
     refine bC (vs:=[(0,B s),(1,v0),(2,v1)]) E E (lH h0.isS h1.isS) ?_
     obtain⟨g8,w8,hr8,l8,x8,k8⟩:=iB (w:=w40)
     refine aS E hr8 ?_
     obtain⟨p,q,w4,hp,hs4,q4,k4,n4,d4⟩:=k8.stR ⟨_,_,_,rfl⟩ ⟨_,_,_,rfl⟩ (du.mk (b:=s) ((h0.kp m40).ext x8) (h1.ext x8))
     refine ay E E (hs4) ?_
     have x4:=x8.of_new q4 l8
     have rr:=rr.ext x4
     have kk:=kk.ext x4
     have gg:=gg.trans (dL x4)
     have hml:m.length≤137438953472:=by
      have:=hl1 _ rfl
      rw[(kG hN).1,List.length_append,mh,List.length_append,fU] at this
      omega
     refine ag (ab (af (af (aa (ae E E (bw E E bB (ae E E (ak E (aj E E (k4.ldR) (ak E ?_))))))))))
     have hml':m'.length≤137438953472:=by
      have:=hl2 _ rfl
      rw[(kG hM).1,List.length_append,mh,List.length_append,fU] at this
      omega
     refine an eJ E E ((by have:=od (b:=s) (du.mk n4 d4) hml hml';rw[hV] at this;exact this)) ?_
     rintro v54 w54 ⟨x54,rfl⟩
     have rr:=rr.ext x54
     have kk:=kk.ext x54
     have gg:=gg.trans (dL x54)
     refine ak E (bw E E bB (aI E E E (ag (ab (bm E (af (aa ?_)))))))
     refine bC (vs:=[]) E E iS ?_
     refine ae E E (an iP E E (iR rr) ?_)
     rintro v59 w59 ⟨rfl,rs,g59⟩
     have m59:=(rr.rdT).kp g59
     have gg:=gg.trans g59
     have kk:=kk.other g59 hne
     have rr:=rs
     obtain⟨p,q,w3,hp,hs3,q3,k3,n3,d3⟩:=kk.stR ⟨_,_,_,rfl⟩ ⟨_,_,_,rfl⟩ (du.mk (b:=false) (bk.nil _) (bk.nil _))
     refine ay E E (hs3) (ac E E (ag (ab (aw (az ?_)))))
     refine fV E E E k3 Ln E dX ?_
     exact⟨_,rfl,qc gg q3 l2,by rw[hR];exact⟨_,rfl,⟨p,q,rfl,n3,d3⟩,(rr.rdT.off (kk.kpR ⟨_,_,_,rfl⟩ ⟨_,_,_,rfl⟩ q3) q3 hne').rdAt⟩⟩
    ·have hR:(some (c::l)).bind nQ=some ((s,m,m'),t'):=by
      show nQ (c::l)=_
      rw[hR1,hM]
      exact if_pos hV
     refine aa (ae E E (an lI E E ((qf (st:=some t) rr hl2 hM)) ?_))
     rintro v40 w40 ⟨g40,v1,rfl,h1,rs,f1⟩
     have m40:=(rr.rdT).kp g40
     have gg:=gg.trans g40
     have kk:=kk.other g40 hne
     have rr:=rs
     refine ae E E (aA E E (cu) (aA E E (cv) (ac E E (ac E E (ag (ab (af (aa (ae E E ?_)))))))))
     obtain⟨a44,p44,q44⟩:=kB (hb.kp (m30.trans m40)) (i:=0) (by simp) .i64
     refine ar E E E (p44 _) (aj E E (ai Lx E q44) (al (v:=U8 1) (r:=B s) E E E ((by rw[hcs];exact nS)) ?_))
     refine ae E E (ae E E ?_)
     refine bC (vs:=[(0,B s),(1,v0),(2,v1)]) E E (lH h0.isS h1.isS) ?_
     obtain⟨g8,w8,hr8,l8,x8,k8⟩:=iB (w:=w40)
     refine aS E hr8 ?_
     obtain⟨p,q,w4,hp,hs4,q4,k4,n4,d4⟩:=k8.stR ⟨_,_,_,rfl⟩ ⟨_,_,_,rfl⟩ (du.mk (b:=s) ((h0.kp m40).ext x8) (h1.ext x8))
     refine ay E E (hs4) ?_
     have x4:=x8.of_new q4 l8
     have rr:=rr.ext x4
     have kk:=kk.ext x4
     have gg:=gg.trans (dL x4)
     have hml:m.length≤137438953472:=by
      have:=hl1 _ rfl
      rw[(kG hN).1,List.length_append,mh,List.length_append,fU] at this
      omega
     refine ag (ab (af (af (aa (ae E E (bw E E bB (ae E E (ak E (aj E E (k4.ldR) (ak E ?_))))))))))
     have hml':m'.length≤137438953472:=by
      have:=hl2 _ rfl
      rw[(kG hM).1,List.length_append,mh,List.length_append,fU] at this
      omega
     refine an eJ E E ((by have:=od (b:=s) (du.mk n4 d4) hml hml';rw[hV] at this;exact this)) ?_
     rintro v54 w54 ⟨x54,rfl⟩
     have rr:=rr.ext x54
     have kk:=kk.ext x54
     have gg:=gg.trans (dL x54)
     refine ak E (bw E E bB (aI E E E (ag (ab (cN E (aC (ab (af (aa (aj E E ((k4.ext x54).ldR) ?_))))))))))
     obtain⟨ea,eb⟩:=AE hp
     obtain⟨p,q,w3,hp,hs3,q3,k3,n3,d3⟩:=kk.stR ⟨_,_,_,rfl⟩ ⟨_,_,_,rfl⟩ ((du.mk n4 d4).ext x54)
     refine ay E E (hs3) (ac E E (ag (ab (aw ?_))))
     refine fV E E E k3 Ln E dX ?_
     exact⟨_,rfl,qc gg q3 l2,by
      rw[hR]
      obtain⟨ec,ed⟩:=AE hp
      exact⟨p,q,rfl,n3,d3,(rr.rdT.off (kk.kpR ⟨_,_,_,rfl⟩ ⟨_,_,_,rfl⟩ q3) q3 hne').rdAt,ec▸ea▸(fun k hk=>Nat.le_trans hs14 (f0 k hk)),ed▸eb▸(fun k hk=>Nat.le_trans hs30 (f1 k hk))⟩⟩
    ·have hR:(some (c::l)).bind nQ=none:=by
      show nQ (c::l)=none
      rw[hR1,hM];rfl
     refine aa (ae E E (an lI E E ((xm (st:=some t) rr hl2 hM)) ?_))
     rintro v40 w40 ⟨g40,v1,rfl,⟨m',h1⟩,_,rs⟩
     have m40:=(rr.rdT).kp g40
     have gg:=gg.trans g40
     have kk:=kk.other g40 hne
     have rr:=rs
     refine ae E E (aA E E (cu) (aA E E (cv) (ac E E (ac E E (ag (ab (af (aa (ae E E ?_)))))))))
     obtain⟨a44,p44,q44⟩:=kB (hb.kp (m30.trans m40)) (i:=0) (by simp) .i64
     refine ar E E E (p44 _) (aj E E (ai Lx E q44) (al (v:=U8 1) (r:=B s) E E E ((by rw[hcs];exact nS)) ?_))
     refine ae E E (ae E E ?_)
     refine bC (vs:=[(0,B s),(1,v0),(2,v1)]) E E (lH h0.isS h1.isS) ?_
     obtain⟨g8,w8,hr8,l8,x8,k8⟩:=iB (w:=w40)
     refine aS E hr8 ?_
     obtain⟨p,q,w4,hp,hs4,q4,k4,n4,d4⟩:=k8.stR ⟨_,_,_,rfl⟩ ⟨_,_,_,rfl⟩ (du.mk (b:=s) ((h0.kp m40).ext x8) (h1.ext x8))
     refine ay E E (hs4) ?_
     have x4:=x8.of_new q4 l8
     have rr:=rr.ext x4
     have kk:=kk.ext x4
     have gg:=gg.trans (dL x4)
     have hml:m.length≤137438953472:=by
      have:=hl1 _ rfl
      rw[(kG hN).1,List.length_append,mh,List.length_append,fU] at this
      omega
     refine ag (ab (af (af (aa (ae E E (bw E E bB (ae E E (am E E E (am E E E (am E E E (aq E E E (ag (ab ?_)))))))))))))
     refine bm E (af (aa ?_))
     refine bC (vs:=[]) E E iS ?_
     refine ae E E (an iP E E (iR rr) ?_)
     rintro v59 w59 ⟨rfl,rs,g59⟩
     have m59:=(rr.rdT).kp g59
     have gg:=gg.trans g59
     have kk:=kk.other g59 hne
     have rr:=rs
     obtain⟨p,q,w3,hp,hs3,q3,k3,n3,d3⟩:=kk.stR ⟨_,_,_,rfl⟩ ⟨_,_,_,rfl⟩ (du.mk (b:=false) (bk.nil _) (bk.nil _))
     refine ay E E (hs3) (ac E E (ag (ab (aw (az ?_)))))
     refine fV E E E k3 Ln E dX ?_
     exact⟨_,rfl,qc gg q3 l2,by rw[hR];exact⟨_,rfl,⟨p,q,rfl,n3,d3⟩,(rr.rdT.off (kk.kpR ⟨_,_,_,rfl⟩ ⟨_,_,_,rfl⟩ q3) q3 hne').rdAt⟩⟩
end Go.Rl
namespace Go.Rl
open Go.RowKit Go.Proofs
section
variable {w w':World} {g h:Nat} {T:TypeId} {st:Option (List UInt8)} {p:Option Addr} {b:Bool}
structure Es (T:TypeId) (h g:Nat) (st:Option (List UInt8)) (w:World):Prop where
 blk:bQ h T [.pointer (some ⟨g,0,none⟩),B st.isSome] w
 rd:cD g st w
 ne:h≠g
theorem qa.mv {X:Nat→Prop} (h:qa T g st w) (hm:Mv X w w') (hX:∀k,X k→g<k):qa T g st w':=by
 obtain⟨A,n,c,h1,h2,h3⟩:=h
 refine⟨A,n,c,hm.blk h1 fun hx=>Nat.lt_irrefl _ (hX g hx),?_,h3⟩
 obtain⟨A',n',c',he,h4,h5,h6,h7,h8⟩:=h2
 cases he
 refine⟨_,_,_,rfl,h4,h5,h6,fun hn=>?_,h8⟩
 obtain⟨ad,rfl,hc⟩:=h7 hn
 refine⟨ad,rfl,hm.cells hc fun _ hx=>?_⟩
 have:=hX _ hx
 have:=h3 ad rfl
 omega
theorem Es.mv {X:Nat→Prop} (hm:Es T h g st w) (hv:Mv X w w') (hX:∀k,X k→g<k∧h<k):Es T h g st w':=
 ⟨hv.blk hm.blk fun hx=>Nat.lt_irrefl _ (hX h hx).2,(hm.rd.rdT.mv hv fun k hk=>(hX k hk).1).rdAt,hm.ne⟩
def ln (h g:Nat):Nat→Prop:=fun k=>k=h∨k=g
theorem Es.ext (hm:Es T h g st w) (hx:aH w w'):Es T h g st w':=⟨hm.blk.ext hx,hm.rd.ext hx,hm.ne⟩
end
end Go.Rl
namespace Go.Rl
open Go.RowKit Go.Proofs
theorem uN (off:Nat):∀(cs:List Value) (k:Nat) (p q r:List Value),p.length=off+k→q.length=cs.length→
 (cs.zipIdx k).foldl (fun(a:Array Value) (x:Value×Nat)=>a.setIfInBounds (off+x.2) x.1) (p++q++r).toArray=(p++cs++r).toArray
 |[],k,p,q,r,_,hq=>by
  have:q=[]:=List.eq_nil_of_length_eq_zero (by simpa using hq)
  subst this
  rfl
 |c::cs,k,p,q,r,hp,hq=>by
  cases q with
  |nil=>simp at hq
  |cons q0 q=>
   simp only[List.zipIdx_cons,List.foldl_cons]
   have e:((p++q0::q++r).toArray).setIfInBounds (off+k) c=((p++[c])++q++r).toArray:=by
    simp[←hp]
   rw[e,uN off cs (k+1) (p++[c]) q r (by simp;omega) (by simpa using hq)]
   simp
theorem mJ {sz:Nat}:∀(vs:List (List Value)) (k:Nat) (a b:List Value),(∀v∈vs,v.length=sz)→a.length=k*sz→b.length=vs.length*sz→
 Instr.fill (fun i=>some (i*sz,sz)) (a++b).toArray (dy k (vs.map fun v=>Value.agg v.toArray))=some (a++vs.flatten).toArray
 |[],k,a,b,_,_,hb=>by
  have:b=[]:=List.eq_nil_of_length_eq_zero (by simpa using hb)
  subst this
  rfl
 |v::vs,k,a,b,hv,ha,hb=>by
  have hvl:=hv v (by simp)
  have hbl:b.length=sz+vs.length*sz:=by rw[hb,List.length_cons,Nat.add_mul];omega
  have hc:((Value.agg v.toArray).cells.size≠sz||decide (k*sz+(Value.agg v.toArray).cells.size>(a++b).toArray.size))=false:=by
   simp[Value.cells,hvl,ha,hbl]
  have hz:(Value.agg v.toArray).cells.zipIdx.foldl (fun(cs:Array Value) (x:Value×Nat)=>cs.setIfInBounds (k*sz+x.2) x.1) (a++b).toArray=((a++v)++b.drop sz).toArray:=by
   have h:=uN (k*sz) v 0 a (b.take sz) (b.drop sz) (by omega) (by rw[List.length_take];omega)
   rw[List.append_assoc,List.take_append_drop] at h
   rw[←h]
   simp[Value.cells]
  simp only[List.map_cons,dy,Instr.fill]
  rw[hc]
  have ih:=mJ vs (k+1) (a++v) (b.drop sz) (fun u hu=>hv u (by simp[hu])) (by rw[List.length_append,ha,hvl,Nat.add_mul];omega) (by rw[List.length_drop,hbl];omega)
  simp only[Bool.false_eq_true,if_false]
  rw[hz,ih]
  simp
theorem uO {P:Program} {w:World} {t e:TypeId} {z:Value} {sz:Nat} (ht:P.underlying t=some (.slice e)) (hi:(P.info? e).map (fun i=>(i.zero,i.size))=some (some z,sz)) (hz:z.cells.size=sz) (h0:0<sz)
 (vs:List (List Value)) (hv:∀v∈vs,v.length=sz) (hn:0<vs.length) (hl:vs.length*sz≤16777216):
 ∃r w',(Instr.buildSlice t vs.length (dy 0 (vs.map fun v=>Value.agg v.toArray)).toArray).run P w=.ok r w'∧aH w w'∧Sl sz vs.flatten r w'∧r.ownBlock=some w.heap.size:=by
 obtain⟨i,hi',h2⟩:=Option.map_eq_some_iff.1 hi
 simp only[Prod.mk.injEq] at h2
 obtain⟨hz0,hs⟩:=h2
 have hfl:vs.flatten.length=vs.length*sz:=by
  rw[List.length_flatten]
  have:∀l:List (List Value),(∀v∈l,v.length=sz)→(l.map List.length).sum=l.length*sz:=by
   intro l
   induction l with
   |nil=>intro _;simp
   |cons a l ih=>intro h;simp only[List.map_cons,List.sum_cons,List.length_cons,h a (by simp),ih fun v hv=>h v (by simp[hv]),Nat.add_mul];omega
  exact this vs hv
 have hf:∀Z:Array Value,Z.size=vs.length*sz→Instr.fill (fun i=>some (i*sz,sz)) Z (dy 0 (vs.map fun v=>Value.agg v.toArray))=some vs.flatten.toArray:=fun Z hZ=>by
  have:=mJ vs 0 [] Z.toList hv (by simp) (by simpa using hZ)
  simpa using this
 have hle:¬(vs.length*sz>2^24):=by omega
 have hinfo:(typeInfo e).run P w=.ok i w:=by simp[typeInfo,hi']
 have hsz:(sizeOf e).run P w=.ok sz w:=by simp[sizeOf,hinfo,hs]
 have hzv:(zeroValue e).run P w=.ok z w:=by simp[zeroValue,hinfo,hz0]
 have hpos:0<vs.length*sz:=Nat.mul_pos hn h0
 refine⟨.slice (some ⟨w.heap.size,0,none⟩) vs.length vs.length,w.alloc (.cells vs.flatten.toArray e),?_,aH.new w _,?_,rfl⟩
 ·simp only[Instr.buildSlice,Sem.run_bind,run_underlying ht,Result.andThen_ok,hsz,if_neg hle]
  rw[if_neg (by omega)]
  simp only[Sem.run_bind,Sem.run_pure,Result.andThen_ok,hzv]
  rw[hf _ (by simp[hz,Nat.mul_comm])]
  simp[newRow]
 ·have hg:=heap_alloc_new w (.cells vs.flatten.toArray e)
  refine⟨_,_,_,rfl,Nat.le_refl _,by unfold maxLen;have:vs.length≤vs.length*sz:=Nat.le_mul_of_pos_right _ h0;omega,hfl,fun _=>⟨_,rfl,fun j u hu=>?_⟩,fun h=>by cases h⟩
  rw[Addr.add_mid,Nat.zero_add,cell_of_row _ _ j _ _ _ hg]
  simpa using hu
end Go.Rl
namespace Go.Rl
open Go.RowKit Go.Proofs
section
variable {α:Type} {f:α→Dt} {l:List α} {v x:Value} {w w':World} {e t ty:TypeId} {sz base:Nat}
def iD (e:TypeId) (sz base:Nat) (f:α→Dt) (l:List α) (v:Value) (w:World):Prop:=∃n xs,w.ownsRow base e sz v n xs∧aN (fun k=>k<base∨v.ownBlock=some k) w (l.map f) xs
theorem iD.nil (w:World):iD e sz base f ([]:List α) (.slice none 0 0) w:=⟨0,[],World.ownsRow_nil _ _ _ _,aN.nil⟩
theorem iD.lt (h:iD e sz base f l v w):∀k,v.ownBlock=some k→base≤k∧k<w.heap.size:=fun k hk=>by
 obtain⟨n,xs,h,_⟩:=h
 exact World.ownsRow.lt h k hk
theorem iD.isS (h:iD e sz base f l v w):∃A n c,v=.slice A n c:=by
 obtain⟨n,xs,⟨_,h|⟨g,cap,cur,rfl,_⟩⟩,_⟩:=h
 ·exact⟨_,_,_,h.1⟩
 ·exact⟨_,_,_,rfl⟩
theorem iD.rpx (h:iD e sz base f l v w) (hs:∀a,(f a).size=sz) (h0:0<sz):bZ (fun k=>k<base) w (.sl (l.map f)) [v]:=by
 obtain⟨n,xs,h1,h2⟩:=h
 exact bZ.ofOwn h1 (h2.weak fun k hk=>.inl (.inl hk)) (by simp[hs]) h0 fun k hk=>Nat.not_lt.2 (World.ownsRow.lt h1 k hk).1
theorem iD.mv {X:Nat→Prop} (h:iD e sz base f l v w) (hm:Mv X w w') (hX:∀k,X k→k<base):iD e sz base f l v w':=by
 obtain⟨n,xs,h1,h2⟩:=h
 refine⟨n,xs,⟨h1.1,?_⟩,aN.mv (hm.weak fun k hk _=>.inl (hX k hk)) (fun k hk=>.inl hk) h2⟩
 rcases h1.2 with h3|⟨g,cap,cur,rfl,h3,h4,h5⟩
 ·exact .inl h3
 ·refine .inr ⟨g,cap,cur,rfl,h3,?_,h5⟩
  rw[hm.keep g (Array.getElem?_eq_some_iff.1 h4).1 fun hx=>by have:=hX g hx;omega]
  exact h4
theorem iD.app {P:Program} {z:Value} {bytes:Nat} (ht:P.underlying t=some (.slice e)) (hi:(P.info? e).map (fun i=>(i.zero,i.size,i.bytes))=some (some z,sz,bytes)) (hzs:z.cells.size=sz) (hsz:0<sz) (hb0:0<bytes)
 (h:iD e sz base f l v w) {a:α} {cs:List Value} (hx:Sl sz cs x w) (h1:ap cs) (ha:bZ (fun k=>k<base∨v.ownBlock=some k) w (f a) cs) (hs:∀a,(f a).size=sz) (hb:(l.length+1)*bytes≤140737488355328) (hbase:base≤w.heap.size):
 ∃r w1,(Builtin.append_ #[t,t] ty #[v,x]).run P w=.ok r w1∧iD e sz base f (l++[a]) r w1∧gR w w1 v r:=by
 obtain⟨n,xs,h2,h3⟩:=h
 have hxl:xs.length=l.length*sz:=by rw[h3.len,cy (sz:=sz) (by simp[hs]),List.length_map]
 have hcl:cs.length=sz:=by rw[ha.len,hs]
 obtain⟨r,w1,n',h4,h5,h6⟩:=qK (P:=P) (ty:=ty) ht hi hzs hsz h2 hx h1 (by
  rw[hxl,hcl,show l.length*sz+sz=(l.length+1)*sz by rw[Nat.add_mul,Nat.one_mul],Nat.mul_right_comm]
  exact Nat.mul_le_mul_right _ hb) hb0 hbase
 refine⟨r,w1,h4,⟨n',_,h5,?_⟩,h6⟩
 have hm:Mv (fun k=>k<base∨v.ownBlock=some k) w w1:=Mv.of_grown h6.grown fun k hk _=>.inr hk
 have hY:∀k,(k<base∨r.ownBlock=some k)→(k<base∨v.ownBlock=some k)∨w.heap.size≤k:=fun k hk=>by
  rcases hk with hk|hk
  ·exact .inl (.inl hk)
  ·rcases h6.own with h7|h7
   ·rw[h7] at hk;exact .inl (.inr hk)
   ·exact .inr (h7 k hk)
 rw[List.map_append]
 exact aN.append (aN.mv hm hY h3) (by simpa using aN.cons (bZ.mv hm hY ha) aN.nil)
theorem iD.push {P:Program} {z:Value} {bytes:Nat} (ht:P.underlying t=some (.slice e)) (hi:(P.info? e).map (fun i=>(i.zero,i.size,i.bytes))=some (some z,sz,bytes)) (hzs:z.cells.size=sz) (hsz:0<sz) (hsb:sz≤16777216) (hb0:0<bytes)
 (h:iD e sz base f l v w) {a:α} {cs:List Value} (h1:ap cs) (ha:bZ (fun k=>k<base∨v.ownBlock=some k) w (f a) cs) (hs:∀a,(f a).size=sz) (hb:(l.length+1)*bytes≤140737488355328) (hbase:base≤w.heap.size):
 ∃x w0 r w1,(Instr.buildSlice t 1 (dy 0 [Value.agg cs.toArray]).toArray).run P w=.ok x w0∧(Builtin.append_ #[t,t] ty #[v,x]).run P w0=.ok r w1∧iD e sz base f (l++[a]) r w1∧Mv (fun k=>v.ownBlock=some k) w w1∧∀k,r.ownBlock=some k→v.ownBlock=some k∨w.heap.size≤k:=by
 have hcl:cs.length=sz:=by rw[ha.len,hs]
 have hi2:(P.info? e).map (fun i=>(i.zero,i.size))=some (some z,sz):=by
  obtain⟨i,hi',h2⟩:=Option.map_eq_some_iff.1 hi
  simp only[Prod.mk.injEq] at h2
  rw[hi']
  simp[h2.1,h2.2.1]
 obtain⟨x,w0,h3,h4,h5,_⟩:=uO (w:=w) ht hi2 hzs hsz [cs] (by simp[hcl]) (by simp) (by simpa using hsb)
 have h':iD e sz base f l v w0:=by
  obtain⟨n,xs,h6,h7⟩:=h
  exact⟨n,xs,fl h6 h4,h7.ext h4⟩
 obtain⟨r,w1,h6,h7,h8⟩:=h'.app (ty:=ty) ht hi hzs hsz hb0 (by simpa using h5) h1 (ha.ext h4) hs hb (Nat.le_trans hbase h4.size)
 refine⟨x,w0,r,w1,by simpa using h3,h6,h7,(Mv.of_ext h4).trans (Mv.of_grown h8.grown fun k hk _=>hk) fun _ hn _=>hn,fun k hk=>?_⟩
 rcases h8.own with h9|h9
 ·rw[h9] at hk;exact .inl hk
 ·exact .inr (Nat.le_trans h4.size (h9 k hk))
end
end Go.Rl
namespace Go.Rl
open Go.RowKit Go.Proofs
theorem ap.append {a b:List Value} (h:ap a) (k:ap b):ap (a++b):=fun v hv=>(List.mem_append.1 hv).elim (h v) (k v)
mutual
theorem yG {w:World}:∀{d:Dt} {cs:List Value},Rp w d cs→ap cs
 |.int k n,cs,h=>by simp only[Rp] at h;subst h;exact ap.cons rfl ap.nil
 |.bool b,cs,h=>by simp only[Rp] at h;subst h;exact ap.cons rfl ap.nil
 |.str l,cs,h=>by simp only[Rp] at h;subst h;exact ap.cons rfl ap.nil
 |.sl l,cs,h=>by
  simp only[Rp] at h
  obtain⟨A,n,c,rfl,_⟩:=h
  exact ap.cons rfl ap.nil
 |.st l,cs,h=>by simp only[Rp] at h;exact cI h
theorem cI {w:World}:∀{l:List Dt} {cs:List Value},bn w l cs→ap cs
 |[],cs,h=>by simp only[bn] at h;subst h;exact ap.nil
 |d::l,cs,h=>by
  simp only[bn] at h
  obtain⟨c1,c2,rfl,h1,h2⟩:=h
  exact(yG h1).append (cI h2)
end
section
variable {α:Type} {f:α→Dt} {l m:List α} {v x:Value} {w w0 w':World} {e t ty:TypeId} {sz base:Nat}
def sa (e:TypeId) (sz base:Nat) (f:α→Dt) (l:List α) (v:Value) (w:World):Prop:=∃n xs,w.ownsRow base e sz v n xs∧aN (fun k=>v.ownBlock=some k) w (l.map f) xs
theorem sa.nil (w:World):sa e sz base f ([]:List α) (.slice none 0 0) w:=⟨0,[],World.ownsRow_nil _ _ _ _,aN.nil⟩
theorem sa.lt (h:sa e sz base f l v w):∀k,v.ownBlock=some k→base≤k∧k<w.heap.size:=fun k hk=>by
 obtain⟨n,xs,h,_⟩:=h
 exact World.ownsRow.lt h k hk
theorem sa.ext (h:sa e sz base f l v w) (hx:aH w w'):sa e sz base f l v w':=by
 obtain⟨n,xs,h1,h2⟩:=h
 exact⟨n,xs,fl h1 hx,h2.ext hx⟩
theorem sa.stable:bO (sa e sz base f l):=fun _ _ _ h hx=>h.ext hx
theorem KS {P:Program} {z:Value} (ht:P.underlying t=some (.slice e)) (hi:(P.info? e).map (fun i=>(i.zero,i.size))=some (some z,sz)):
 ∃r w1,(Instr.buildSlice t 0 #[]).run P w=.ok r w1∧aH w w1∧sa e sz w.heap.size f ([]:List α) r w1∧r.ownBlock=some w.heap.size:=by
 obtain⟨i,hi',h2⟩:=Option.map_eq_some_iff.1 hi
 simp only[Prod.mk.injEq] at h2
 obtain⟨hz0,hs⟩:=h2
 have hinfo:(typeInfo e).run P w=.ok i w:=by simp[typeInfo,hi']
 have hsz:(sizeOf e).run P w=.ok sz w:=by simp[sizeOf,hinfo,hs]
 refine⟨.slice (some ⟨w.heap.size,0,none⟩) 0 0,w.alloc (.cells #[] e),?_,aH.new w _,⟨0,[],⟨by simp,.inr ⟨_,0,#[],rfl,Nat.le_refl _,heap_alloc_new _ _,Nat.le_refl _,Nat.zero_le _,by simp,by simp⟩⟩,aN.nil⟩,rfl⟩
 have hle:¬(0*sz>2^24):=by omega
 simp only[Instr.buildSlice,Sem.run_bind,run_underlying ht,Result.andThen_ok,hsz,if_neg hle]
 rw[if_pos (by simp)]
 have hr:Array.map (fun _:Nat=>(default:Value)) (Array.range 0)= #[]:=Array.eq_empty_of_size_eq_zero (by simp)
 simp[Instr.fill,newRow,hr]
end
end Go.Rl
namespace Go.Proofs.YtpeidnhjcompmaaGreatDoor
open Go Go.RowKit Go.Rl
theorem Et:Tryz.prog.globalNamed "relucert/phase.opposites" =some 0:=by kernel_rfl
theorem Gj:(Tryz.prog.globals[0]?).map (·.type)=some 225:=by kernel_rfl
theorem Gk:Tryz.prog.cellsOf 225=5:=by kernel_rfl
theorem Gl:Tryz.prog.cellsOf 3=1:=by kernel_rfl
noncomputable def Ks (os:Os):World:=
 {World.holding Tryz.prog os ⟨#[],#[],[]⟩ with heap:=(World.holding Tryz.prog os ⟨#[],#[],[]⟩).heap.modify 0 fun
  |.cells _ t frozen=>.cells #[.int .i64 0,.int .i64 2,.int .i64 1,.int .i64 4,.int .i64 3] t frozen
  |o=>o}
end Go.Proofs.YtpeidnhjcompmaaGreatDoor
namespace Go.Rl
open Go.RowKit Go.Proofs Go.Proofs.YtpeidnhjcompmaaGreatDoor
def zQ (w:World):Prop:=dw w ⟨0,0,none⟩ [I 0,I 2,I 1,I 4,I 3]
theorem zQ.ext {w w':World} (h:zQ w) (hx:aH w w'):zQ w':=fun j u hu=>hx.cell_some (h j u hu)
theorem zQ.of_laid {W:World} (h:laidMetH Tryz.prog [("relucert/phase.opposites",Rows.laid_relucert_phase_opposites)] W):zQ W:=fun j u hu=>by
 have hT:Lib.TabIs Tryz.prog W "relucert/phase.opposites" .i64 [0,2,1,4,3]:=Lib.tabIs_of_head (rest:=[]) Et Gj Tryz.underlying225 Lo Gl Gk h
 rw[Addr.add_mid,Nat.zero_add]
 rcases j with _|_|_|_|_|j
 ·simp only[List.getElem?_cons_zero,Option.some.injEq] at hu;subst hu;exact hT.cell Et 0 (by decide)
 ·simp only[List.getElem?_cons_succ,List.getElem?_cons_zero,Option.some.injEq] at hu;subst hu;exact hT.cell Et 1 (by decide)
 ·simp only[List.getElem?_cons_succ,List.getElem?_cons_zero,Option.some.injEq] at hu;subst hu;exact hT.cell Et 2 (by decide)
 ·simp only[List.getElem?_cons_succ,List.getElem?_cons_zero,Option.some.injEq] at hu;subst hu;exact hT.cell Et 3 (by decide)
 ·simp only[List.getElem?_cons_succ,List.getElem?_cons_zero,Option.some.injEq] at hu;subst hu;exact hT.cell Et 4 (by decide)
 ·simp at hu
end Go.Rl
namespace Go.Rl
open Go.RowKit Go.Proofs
def Eu (g:Nat) (st:Option (List UInt8)) (w:World):Prop:=qa 167 g st w
theorem Eu.ext {g:Nat} {st:Option (List UInt8)} {w w':World} (h:Eu g st w) (hx:aH w w'):Eu g st w':=qa.ext h hx
theorem Eu.lt {w:World} {g:Nat} {st:Option (List UInt8)} (h:Eu g st w):g<w.heap.size:=by
 obtain⟨A,n,c,h1,_⟩:=h
 exact bQ.lt h1
end Go.Rl
namespace Go.Rl
open Go.RowKit Go.Proofs
theorem HW {P:Program} {w:World} {s d:TypeId} {n:Nat} (hs:P.underlying s=some (.int .u64)) (hd:P.underlying d=some (.int .i64)) (hn:n<9223372036854775808):(convert s d (bW (UInt64.ofNat n))).run P w=.ok (I (n:Int)) w:=by
 have e:(UInt64.ofNat n).toNat=n:=by rw[UInt64.toNat_ofNat'];omega
 have:=tI (P:=P) (w:=w) hs hd (a:=UInt64.ofNat n) (by omega)
 rwa [e] at this
end Go.Rl
namespace Go.Rl
open Go.RowKit Go.Proofs
end Go.Rl
namespace Go.Rl
open Go.RowKit Go.Proofs
end Go.Rl
namespace Go.Rl
open Go.RowKit Go.Proofs
theorem HX {l a t:List UInt8} (h:uJ l=some (a,t)):l=nU a++t:=by
 unfold uJ at h
 cases hu:gx l with
 |none=>rw[hu] at h;cases h
 |some p=>
  obtain⟨n,u⟩:=p
  rw[hu] at h
  have h:(if n≤u.length then some (u.take n,u.drop n) else none)=some (a,t):=h
  split at h
  ·simp only[Option.some.injEq,Prod.mk.injEq] at h
   have e:=(gn hu).1
   have hl:(u.take n).length=n:=by rw[List.length_take];omega
   rw[e,←h.1,←h.2,nU,hl,List.append_assoc,List.take_append_drop]
  ·cases h
theorem Db {l t:List UInt8} {b:Bool} {n m:List UInt32} (h:nQ l=some ((b,n,m),t)):l=pY b n m++t∧rv b n m=true∧4*(n.length+m.length)≤l.length:=by
 cases l with
 |nil=>cases h
 |cons c l=>
  by_cases hc:1<c.toNat
  ·rw[Da hc] at h;cases h
  ·cases hN:vZ l with
   |none=>rw[Gh hN] at h;cases h
   |some p=>
    obtain⟨n',u⟩:=p
    rw[Gi hc hN] at h
    cases hM:vZ u with
    |none=>rw[hM] at h;cases h
    |some q=>
     obtain⟨m',u'⟩:=q
     rw[hM] at h
     have h:(if rv (decide (c.toNat=1)) n' m'=true then some ((decide (c.toNat=1),n',m'),u') else none)=some ((b,n,m),t):=h
     split at h
     ·rename_i hv
      simp only[Option.some.injEq,Prod.mk.injEq] at h
      obtain⟨⟨rfl,rfl,rfl⟩,rfl⟩:=h
      have hcs:c=Bk (decide (c.toNat=1)):=by
       by_cases h1:c.toNat=1
       ·rw[decide_eq_true h1,BM.1 h1];rfl
       ·rw[decide_eq_false h1]
        exact UInt8.toNat_inj.1 (show c.toNat=(0:UInt8).toNat by rw[show(0:UInt8).toNat=0 from rfl];omega)
      have e:c::l=pY (decide (c.toNat=1)) n' m'++u':=by
       rw[pY,←hcs,(kG hN).1,(kG hM).1]
       simp
      refine⟨e,hv,?_⟩
      rw[e]
      simp only[pY,mh,List.length_append,fU]
      omega
     ·cases h
def Few (st:Option (List UInt8)):Prop:=∀l,st=some l→l.length≤549755813888
section
variable {w:World} {g:Nat} {st:Option (List UInt8)}
theorem I6 (hr:cD g st w) (h:st.bind gx=none):Calls Tryz.prog 89 #[.pointer (some ⟨g,0,none⟩)] w (bN fun r w'=>w.grownBy w' (some g)∧r=.tuple #[bW 0,I 5]∧cD g none w'):=by
 have:=o0 hr
 rw[h] at this
 exact this
theorem Gm {n:Nat} {t:List UInt8} (hr:cD g st w) (h:st.bind gx=some (n,t)):Calls Tryz.prog 89 #[.pointer (some ⟨g,0,none⟩)] w (bN fun r w'=>w.grownBy w' (some g)∧r=.tuple #[bW (UInt64.ofNat n),I 0]∧cD g (some t) w'):=by
 have:=o0 hr
 rw[h] at this
 exact this
theorem KT (hr:cD g st w) (h:st.bind gx=none):Calls Tryz.prog 158 #[.pointer (some ⟨g,0,none⟩)] w (bN fun r w'=>w.grownBy w' (some g)∧r=.tuple #[I 0,I 5]∧cD g none w'):=by
 have:=xn hr
 rw[h] at this
 exact this
theorem KU {n:Nat} {t:List UInt8} (hr:cD g st w) (h:st.bind gx=some (n,t)):Calls Tryz.prog 158 #[.pointer (some ⟨g,0,none⟩)] w (bN fun r w'=>w.grownBy w' (some g)∧r=.tuple #[I (uz n),I 0]∧cD g (some t) w'):=by
 have:=xn hr
 rw[h] at this
 exact this
end
end Go.Rl
namespace Go.Rl
def iE (x:UInt32) (n:Nat):UInt32:=(x>>>UInt32.ofNat n)|||(x<<<UInt32.ofNat (32-n))
def kc:List UInt32:=[0x428a2f98,0x71374491,0xb5c0fbcf,0xe9b5dba5,0x3956c25b,0x59f111f1,0x923f82a4,0xab1c5ed5,0xd807aa98,0x12835b01,0x243185be,0x550c7dc3,0x72be5d74,0x80deb1fe,0x9bdc06a7,0xc19bf174,0xe49b69c1,0xefbe4786,0x0fc19dc6,0x240ca1cc,0x2de92c6f,0x4a7484aa,0x5cb0a9dc,0x76f988da,0x983e5152,0xa831c66d,0xb00327c8,0xbf597fc7,0xc6e00bf3,0xd5a79147,0x06ca6351,0x14292967,0x27b70a85,0x2e1b2138,0x4d2c6dfc,0x53380d13,0x650a7354,0x766a0abb,0x81c2c92e,0x92722c85,0xa2bfe8a1,0xa81a664b,0xc24b8b70,0xc76c51a3,0xd192e819,0xd6990624,0xf40e3585,0x106aa070,0x19a4c116,0x1e376c08,0x2748774c,0x34b0bcb5,0x391c0cb3,0x4ed8aa4a,0x5b9cca4f,0x682e6ff3,0x748f82ee,0x78a5636f,0x84c87814,0x8cc70208,0x90befffa,0xa4506ceb,0xbef9a3f7,0xc67178f2]
def iv:List UInt32:=[0x6a09e667,0xbb67ae85,0x3c6ef372,0xa54ff53a,0x510e527f,0x9b05688c,0x1f83d9ab,0x5be0cd19]
def rf (b:List UInt8) (t:Nat):UInt32:=((((b.getD (4*t) 0).toUInt32<<<UInt32.ofNat 24)|||((b.getD (4*t+1) 0).toUInt32<<<UInt32.ofNat 16))|||((b.getD (4*t+2) 0).toUInt32<<<UInt32.ofNat 8))|||(b.getD (4*t+3) 0).toUInt32
def oe (l:List UInt32):UInt32:=
 let t:=l.length
 let x:=l.getD (t-15) 0
 let y:=l.getD (t-2) 0
 l.getD (t-16) 0+(iE x 7^^^iE x 18^^^x>>>UInt32.ofNat 3)+l.getD (t-7) 0+(iE y 17^^^iE y 19^^^y>>>UInt32.ofNat 10)
def jf (b:List UInt8) (k:Nat):List UInt32:=(List.range k).map (rf b)
def bH (b:List UInt8):Nat→List UInt32
 |0=>jf b 16
 |k+1=>bH b k++[oe (bH b k)]
theorem lJ (b:List UInt8):∀k,(bH b k).length=16+k
 |0=>by simp[bH,jf]
 |k+1=>by simp[bH,lJ b k];omega
def t1 (s:List UInt32) (k w:UInt32):UInt32:=
 let e:=s.getD 4 0
 s.getD 7 0+(iE e 6^^^iE e 11^^^iE e 25)+(e&&&s.getD 5 0^^^ ~~~e&&&s.getD 6 0)+k+w
def t2 (s:List UInt32):UInt32:=
 let a:=s.getD 0 0
 (iE a 2^^^iE a 13^^^iE a 22)+(a&&&s.getD 1 0^^^a&&&s.getD 2 0^^^s.getD 1 0&&&s.getD 2 0)
def rnd (s:List UInt32) (k w:UInt32):List UInt32:=[t1 s k w+t2 s,s.getD 0 0,s.getD 1 0,s.getD 2 0,s.getD 3 0+t1 s k w,s.getD 4 0,s.getD 5 0,s.getD 6 0]
def dN (b:List UInt8) (s:List UInt32):Nat→List UInt32
 |0=>s
 |i+1=>rnd (dN b s i) (kc.getD i 0) ((bH b 48).getD i 0)
theorem gT (b:List UInt8) (s:List UInt32) (hs:s.length=8):∀i,(dN b s i).length=8
 |0=>hs
 |_+1=>rfl
def wh (s:List UInt32) (b:List UInt8):List UInt32:=List.zipWith (· + ·) s (dN b s 64)
theorem AF (s:List UInt32) (b:List UInt8) (hs:s.length=8):(wh s b).length=8:=by
 simp[wh,hs,gT b s hs]
def xo (m:List UInt8):Nat→List UInt32
 |0=>iv
 |k+1=>wh (xo m k) ((m.drop (64*k)).take 64)
theorem pe (m:List UInt8):∀k,(xo m k).length=8
 |0=>rfl
 |k+1=>AF _ _ (pe m k)
theorem qg (m x:List UInt8):∀k,64*k≤m.length→xo (m++x) k=xo m k
 |0,_=>rfl
 |k+1,h=>by
  have h0:64*k≤m.length:=by omega
  have h1:64≤(m.drop (64*k)).length:=by simp;omega
  rw[xo,xo,qg m x k h0,List.drop_append_of_le_length h0,List.take_append_of_le_length h1]
def sh (m:List UInt8):List UInt32:=xo m (m.length/64)
theorem Gn (m:List UInt8):(sh m).length=8:=pe m _
theorem yH (p t:List UInt8) (hp:p.length%64=0) (ht:t.length<64):sh (p++t)=sh p:=by
 have:(p++t).length/64=p.length/64:=by simp only[List.length_append];omega
 unfold sh
 rw[this,qg p t _ (by omega)]
theorem Gp (p b:List UInt8) (hp:p.length%64=0) (hb:b.length=64):sh (p++b)=wh (sh p) b:=by
 have h1:(p++b).length/64=p.length/64+1:=by simp only[List.length_append];omega
 unfold sh
 rw[h1,xo,qg p b _ (by omega)]
 have h2:64*(p.length/64)=p.length:=by omega
 rw[h2,List.drop_left,←hb,List.take_length]
def vW (x:UInt32):List UInt8:=[(x>>>UInt32.ofNat 24).toUInt8,(x>>>UInt32.ofNat 16).toUInt8,(x>>>UInt32.ofNat 8).toUInt8,x.toUInt8]
def AG (n:UInt64):List UInt8:=(List.range 8).map fun i=>(n>>>UInt64.ofNat (56-8*i)).toUInt8
def gU (n:Nat):Nat:=(119-n%64)%64
def er (m:List UInt8):List UInt8:=m++[128]++List.replicate (gU m.length) 0++AG (UInt64.ofNat m.length*8)
theorem BN (m:List UInt8):(er m).length%64=0:=by
 simp only[er,gU,AG,List.length_append,List.length_cons,List.length_nil,List.length_replicate,List.length_map,List.length_range];omega
def jD (m:List UInt8):List UInt8:=(sh (er m)).flatMap vW
end Go.Rl
namespace Go.Rl
open Go.RowKit
abbrev eW:=Bool×List UInt32×List UInt32
def kH (n:Int):Dt:=.int .i64 n
def fK (q:eW):Dt:=.st [.bool q.1,jA q.2.1,jA q.2.2]
structure mK where
 kd:Int
 fr:Int
 ou:Int
 kh:Int
 kw:Int
 sr:Int
 pd:Int
 ws:List eW
 bs:List eW
structure wi where
 inp:List Int
 lays:List mK
theorem mK.eq_iff {a b:mK}:a=b↔a.kd=b.kd∧a.fr=b.fr∧a.ou=b.ou∧a.kh=b.kh∧a.kw=b.kw∧a.sr=b.sr∧a.pd=b.pd∧a.ws=b.ws∧a.bs=b.bs:=by
 constructor
 ·rintro rfl;exact⟨rfl,rfl,rfl,rfl,rfl,rfl,rfl,rfl,rfl⟩
 ·rintro⟨h1,h2,h3,h4,h5,h6,h7,h8,h9⟩
  cases a;cases b;simp_all
theorem wi.eq_iff {a b:wi}:a=b↔a.inp=b.inp∧a.lays=b.lays:=by
 constructor
 ·rintro rfl;exact⟨rfl,rfl⟩
 ·rintro⟨h1,h2⟩
  cases a;cases b;simp_all
instance:DecidableEq mK:=fun _ _=>decidable_of_iff _ mK.eq_iff.symm
instance:DecidableEq wi:=fun _ _=>decidable_of_iff _ wi.eq_iff.symm
def I7 (l:List eW):Dt:=.sl (l.map fK)
def dLay (l:mK):Dt:=.st [kH l.kd,kH l.fr,kH l.ou,kH l.kh,kH l.kw,kH l.sr,kH l.pd,I7 l.ws,I7 l.bs]
def I8 (l:List Int):Dt:=.sl (l.map kH)
def kY (n:Int):Prop:= -9223372036854775808≤n∧n≤9223372036854775807
def mK.ints (l:mK):List Int:=[l.kd,l.fr,l.ou,l.kh,l.kw,l.sr,l.pd]
def mK.wf (l:mK):Prop:=∀n∈l.ints,kY n
def wi.wf (m:wi):Prop:=(∀n∈m.inp,kY n)∧∀l∈m.lays,l.wf
def de (n:Int):List UInt8:=uv (DH n)
def gw (q:eW):List UInt8:=pY q.1 q.2.1 q.2.2
def qh (l:List UInt8):Option (Int×List UInt8):=(gx l).map fun p=>(uz p.1,p.2)
def cR {α:Type} (f:List UInt8→Option (α×List UInt8)):Nat→List UInt8→Option (List α×List UInt8)
 |0,l=>some ([],l)
 |n+1,l=>(f l).bind fun p=>(cR f n p.2).map fun q=>(p.1::q.1,q.2)
def fi {α:Type} (f:List UInt8→Option (α×List UInt8)) (l:List UInt8):Option (List α×List UInt8):=(gx l).bind fun p=>cR f p.1 p.2
def okQ (q:eW):Prop:=rv q.1 q.2.1 q.2.2=true∧q.2.1.length<18446744073709551616∧q.2.2.length<18446744073709551616
structure mK.ok (l:mK):Prop where
 wf:l.wf
 wl:l.ws.length<18446744073709551616
 bl:l.bs.length<18446744073709551616
 wq:∀q∈l.ws,okQ q
 bq:∀q∈l.bs,okQ q
structure wi.ok (m:wi):Prop where
 il:m.inp.length<18446744073709551616
 ll:m.lays.length<18446744073709551616
 iw:∀n∈m.inp,kY n
 lo:∀l∈m.lays,l.ok
end Go.Rl
namespace Go.Rl
open Go.RowKit
section
variable {w:World} {cs:List Value}
theorem AH (n:Int):(kH n).size=1:=rfl
theorem HY {n:Int} (h:Rp w (kH n) cs):cs=[I n]:=by simp only[kH,Rp] at h;exact h
theorem lK {q:eW} (h:Rp w (fK q) cs):∃x y,cs=[B q.1,x,y]∧bk q.2.1 x w∧bk q.2.2 y w:=by
 simp only[fK,Rp,bn] at h
 obtain⟨_,_,rfl,rfl,_,_,rfl,h1,_,_,rfl,h2,rfl⟩:=h
 obtain⟨x,rfl,hx,_⟩:=Rp.isSlice h1
 obtain⟨y,rfl,hy,_⟩:=Rp.isSlice h2
 exact⟨x,y,rfl,Rp.wds.1 hx,Rp.wds.1 hy⟩
def JE (l:mK) (v:Value) (w:World):Prop:=∃x y,v=.agg #[I l.kd,I l.fr,I l.ou,I l.kh,I l.kw,I l.sr,I l.pd,x,y]∧cd fK l.ws x w∧cd fK l.bs y w
def JF (m:wi) (v:Value) (w:World):Prop:=∃x y,v=.agg #[x,y]∧cd kH m.inp x w∧cd dLay m.lays y w
theorem JE.ext {l:mK} {v:Value} {w w':World} (h:JE l v w) (hx:aH w w'):JE l v w':=by
 obtain⟨x,y,h0,h1,h2⟩:=h
 exact⟨x,y,h0,h1.ext hx,h2.ext hx⟩
theorem JF.ext {m:wi} {v:Value} {w w':World} (h:JF m v w) (hx:aH w w'):JF m v w':=by
 obtain⟨x,y,h0,h1,h2⟩:=h
 exact⟨x,y,h0,h1.ext hx,h2.ext hx⟩
end
end Go.Rl
namespace Go.Rl
open Go.RowKit
section
variable {α β:Type} {f:List UInt8→Option (α×List UInt8)} {st s1 s2 so:Option (List UInt8)} {a:α}
def Gq (f:List UInt8→Option (α×List UInt8)) (st:Option (List UInt8)) (a:α) (s1:Option (List UInt8)):Prop:=st.bind f=s1.map fun t=>(a,t)
theorem Gq.some {t:List UInt8} (h:Gq f st a (some t)):∃l,st=.some l∧f l=.some (a,t):=by
 cases st with
 |none=>cases h
 |some l=>exact⟨l,rfl,h⟩
def Le (f:List UInt8→Option (α×List UInt8)):Prop:=∀l a t,f l=some (a,t)→t.length≤l.length
def Lt (f:List UInt8→Option (α×List UInt8)):Prop:=∀l a t,f l=some (a,t)→t.length+1≤l.length
theorem Lt.le (h:Lt f):Le f:=fun l a t e=>by have:=h l a t e;omega
def vX (n:Nat) (st:Option (List UInt8)):Prop:=∀l,st=some l→l.length≤n
theorem vX.mono {n m:Nat} (h:vX n st) (hm:n≤m):vX m st:=fun l e=>Nat.le_trans (h l e) hm
theorem Gq.atM {n:Nat} (h:Gq f st a s1) (hf:Le f) (hn:vX n st):vX n s1:=fun t e=>by
 subst e
 obtain⟨l,h1,h2⟩:=h.some
 exact Nat.le_trans (hf l a t h2) (hn l h1)
theorem Ev {X:Option (List α×List UInt8)} {k:Nat} {done:List α} (hR:X=so.bind (fun l=>(cR f (k+1) l).map fun p=>(done++p.1,p.2))) (hq:Gq f so a s2):
 X=s2.bind (fun l=>(cR f k l).map fun p=>((done++[a])++p.1,p.2)):=by
 rw[hR]
 cases so with
 |none=>
  cases s2 with
  |none=>rfl
  |some t=>cases hq
 |some l=>
  have hq:f l=s2.map fun t=>(a,t):=hq
  show(cR f (k+1) l).map _=_
  simp only[cR]
  rw[hq]
  cases s2 with
  |none=>rfl
  |some t=>
   simp only[Option.map_some,Option.bind_some,Option.map_map]
   cases cR f k t<;>simp
theorem xp (hf:Le f):∀(n:Nat) (l:List UInt8) (a:List α) (t:List UInt8),cR f n l=some (a,t)→t.length≤l.length
 |0,l,a,t,h=>by simp only[cR,Option.some.injEq,Prod.mk.injEq] at h;rw[←h.2];exact Nat.le_refl _
 |n+1,l,a,t,h=>by
  simp only[cR] at h
  obtain⟨p,h1,h2⟩:=Option.bind_eq_some_iff.1 h
  obtain⟨q,h3,h4⟩:=Option.map_eq_some_iff.1 h2
  simp only[Prod.mk.injEq] at h4
  have:=xp hf n p.2 q.1 q.2 h3
  have:=hf l p.1 p.2 h1
  rw[←h4.2]
  omega
theorem uP:Lt gx:=fun l a t h=>by
 have h1:=(gn h).1
 have h2:=pR a
 rw[h1,List.length_append]
 omega
theorem fW:Lt qh:=fun l a t h=>by
 unfold qh at h
 obtain⟨p,h1,h2⟩:=Option.map_eq_some_iff.1 h
 have:=uP l p.1 p.2 h1
 simp only[Prod.mk.injEq] at h2
 rw[←h2.2]
 exact this
theorem uQ:Lt nQ:=fun l q t h=>by
 obtain⟨b,n,m⟩:=q
 have:=(Db h).1
 rw[this,List.length_append]
 have h1:1≤(pY b n m).length:=by simp only[pY,List.length_append,List.length_cons,List.length_nil];omega
 omega
theorem Dc {st:Option (List UInt8)} {n:Int} {t:List UInt8} (h:Gq qh st n (some t)):kY n:=by
 obtain⟨l,_,h⟩:=h.some
 unfold qh at h
 obtain⟨p,h1,h2⟩:=Option.map_eq_some_iff.1 h
 have:=(gn h1).2
 simp only[Prod.mk.injEq] at h2
 rw[←h2.1]
 unfold uz kY
 split<;>omega
end
end Go.Rl
namespace Go.Rl
open Go.RowKit
structure cp where
 kd:Int
 ix:Int
 lo:Int
 hi:Int
 co:eW
structure eB where
 un:Int
 up:Bool
 va:eW
 pf:List cp
structure bj where
 kd:Int
 ix:Int
 at_:eW
inductive aP where
 |mk (lems:List eB) (split:bj) (kids:List aP) (empty:Bool) (pf:List cp)
def JG:eW:=(false,[],[])
def lL:bj:=⟨0,0,JG⟩
def aP.lems:aP→List eB|.mk l _ _ _ _=>l
def aP.split:aP→bj|.mk _ s _ _ _=>s
def aP.kids:aP→List aP|.mk _ _ k _ _=>k
def aP.empty:aP→Bool|.mk _ _ _ e _=>e
def aP.pf:aP→List cp|.mk _ _ _ _ p=>p
def bK (m:cp):Dt:=.st [.st [kH m.kd,kH m.ix,kH m.lo,kH m.hi],fK m.co]
def fL (l:List cp):Dt:=.sl (l.map bK)
def cP (l:eB):Dt:=.st [kH l.un,.bool l.up,fK l.va,fL l.pf]
def c9 (d:bj):Dt:=.st [kH d.kd,kH d.ix,fK d.at_]
mutual
def bh:aP→Dt
 |.mk lems sp kids em pf=>.st [.sl (lems.map cP),c9 sp,.sl (uR kids),.bool em,fL pf]
def uR:List aP→List Dt
 |[]=>[]
 |n::l=>bh n::uR l
end
theorem iT:∀l:List aP,uR l=l.map bh
 |[]=>rfl
 |n::l=>by simp only[uR,List.map_cons,iT l]
def gG (d:bj):List UInt8:=de d.kd++de d.ix++gw d.at_
def gy (m:cp):List UInt8:=de m.kd++de m.ix++de m.lo++de m.hi++gw m.co
def jE (l:List cp):List UInt8:=uv l.length++l.flatMap gy
def xq (b:Bool):List UInt8:=if b=true then[1] else[0]
def fj (l:eB):List UInt8:=de l.un++xq l.up++gw l.va++jE l.pf
def eS (l:List eB):List UInt8:=uv l.length++l.flatMap fj
mutual
def dt:aP→List UInt8
 |.mk lems _ [] em pf=>xq em++eS lems++jE pf
 |.mk lems sp (k::ks) _ _=>[2]++eS lems++gG sp++uS (k::ks)
def uS:List aP→List UInt8
 |[]=>[]
 |n::l=>dt n++uS l
end
theorem uT:∀l:List aP,uS l=l.flatMap dt
 |[]=>rfl
 |n::l=>by simp only[uS,List.flatMap_cons,uT l]
def Gr (l:List aP):List UInt8:=uv l.length++l.flatMap dt
def qD (most:Nat) (l:List UInt8):Option (Nat×List UInt8):=(gx l).bind fun p=>if p.1≤most then some p else none
def zR (l:List UInt8):Option (bj×List UInt8):=(qh l).bind fun a=>(qh a.2).bind fun b=>(nQ b.2).bind fun c=>some (⟨a.1,b.1,c.1⟩,c.2)
def yI (l:List UInt8):Option (cp×List UInt8):=(qh l).bind fun a=>(qh a.2).bind fun b=>(qh b.2).bind fun c=>(qh c.2).bind fun d=>(nQ d.2).bind fun e=>some (⟨a.1,b.1,c.1,d.1,e.1⟩,e.2)
def HZ:List UInt8→Option (List cp×List UInt8):=fi yI
def cg (n:Nat):Bool:=decide (n=1)
def uU (l:List UInt8):Option (eB×List UInt8):=(qh l).bind fun a=>(qD 1 a.2).bind fun b=>(nQ b.2).bind fun c=>(HZ c.2).bind fun d=>some (⟨a.1,cg b.1,c.1,d.1⟩,d.2)
def uV:List UInt8→Option (List eB×List UInt8):=fi uU
def pz:Nat→List UInt8→Option (aP×List UInt8)
 |0,_=>none
 |n+1,l=>(qD 2 l).bind fun a=>(uV a.2).bind fun b=>
   if a.1<2 then(HZ b.2).bind fun c=>some (.mk b.1 lL [] (decide (a.1=1)) c.1,c.2)
   else(zR b.2).bind fun c=>(pz n c.2).bind fun d=>(pz n d.2).bind fun e=>some (.mk b.1 c.1 [d.1,e.1] false [],e.2)
def BO (l:List UInt8):Option (aP×List UInt8):=pz l.length l
def rdTs:List UInt8→Option (List aP×List UInt8):=fi BO
section
variable {α β:Type}
theorem Le.bind {f:List UInt8→Option (α×List UInt8)} {g:α×List UInt8→Option (β×List UInt8)} (hf:Le f) (hg:∀p b t,g p=some (b,t)→t.length≤p.2.length):Le (fun l=>(f l).bind g):=fun l b t h=>by
 obtain⟨p,h1,h2⟩:=Option.bind_eq_some_iff.1 h
 exact Nat.le_trans (hg p b t h2) (hf l p.1 p.2 h1)
theorem Lt.bind {f:List UInt8→Option (α×List UInt8)} {g:α×List UInt8→Option (β×List UInt8)} (hf:Lt f) (hg:∀p b t,g p=some (b,t)→t.length≤p.2.length):Lt (fun l=>(f l).bind g):=fun l b t h=>by
 obtain⟨p,h1,h2⟩:=Option.bind_eq_some_iff.1 h
 have:=hg p b t h2
 have:=hf l p.1 p.2 h1
 omega
end
theorem fP {α β:Type} {f:List UInt8→Option (α×List UInt8)} (hf:Le f) {l:List UInt8} {g:α×List UInt8→Option (β×List UInt8)} {b:β} {t:List UInt8} (h:(f l).bind g=some (b,t)) (hg:∀p b t,g p=some (b,t)→t.length≤p.2.length):t.length≤l.length:=Le.bind hf hg l b t h
theorem rg {β:Type} {b b':β} {t t':List UInt8} (h:some (b',t')=some (b,t)):t.length≤t'.length:=by
 simp only[Option.some.injEq,Prod.mk.injEq] at h
 rw[h.2]
 exact Nat.le_refl _
theorem sc (k:Nat):Lt (qD k):=fun l a t h=>by
 unfold qD at h
 obtain⟨p,h1,h2⟩:=Option.bind_eq_some_iff.1 h
 split at h2
 ·simp only[Option.some.injEq] at h2
  subst h2
  exact uP l _ _ h1
 ·cases h2
theorem sf:Lt zR:=Lt.bind fW fun _ _ _ h=>fP fW.le h fun _ _ _ h=>fP uQ.le h fun _ _ _ h=>rg h
theorem Dd:Lt yI:=Lt.bind fW fun _ _ _ h=>fP fW.le h fun _ _ _ h=>fP fW.le h fun _ _ _ h=>fP fW.le h fun _ _ _ h=>fP uQ.le h fun _ _ _ h=>rg h
theorem si {α:Type} {f:List UInt8→Option (α×List UInt8)} (hf:Le f):Lt (fi f):=fun l a t h=>by
 unfold fi at h
 obtain⟨p,h1,h2⟩:=Option.bind_eq_some_iff.1 h
 have:=xp hf p.1 p.2 a t h2
 have:=uP l p.1 p.2 h1
 omega
theorem Gs:Lt HZ:=si Dd.le
theorem De:Lt uU:=Lt.bind fW fun _ _ _ h=>fP (sc 1).le h fun _ _ _ h=>fP uQ.le h fun _ _ _ h=>fP Gs.le h fun _ _ _ h=>rg h
theorem rh:Lt uV:=si De.le
theorem ri:∀n,Lt (pz n)
 |0=>fun l a t h=>by simp[pz] at h
 |n+1=>fun l a t h=>by
  refine(Lt.bind (sc 2) fun p b t h=>?_) l a t (show((qD 2 l).bind _)=_ from h)
  refine fP rh.le h fun q b t h=>?_
  split at h
  ·exact fP Gs.le h fun _ _ _ h=>rg h
  ·exact fP sf.le h fun _ _ _ h=>fP (ri n).le h fun _ _ _ h=>fP (ri n).le h fun _ _ _ h=>rg h
theorem pg:∀(n m:Nat) (l:List UInt8),l.length≤n→n≤m→pz m l=pz n l
 |0,0,_,_,_=>rfl
 |0,m+1,l,hl,_=>by
  have:l=[]:=List.eq_nil_of_length_eq_zero (by omega)
  subst this
  rfl
 |n+1,0,_,_,h=>by omega
 |n+1,m+1,l,hl,hm=>by
  simp only[pz]
  cases h1:qD 2 l with
  |none=>rfl
  |some a=>
   simp only[Option.bind_some]
   cases h2:uV a.2 with
   |none=>rfl
   |some b=>
    simp only[Option.bind_some]
    split
    ·rfl
    ·cases h3:zR b.2 with
     |none=>rfl
     |some c=>
      simp only[Option.bind_some]
      have a1:=sc 2 l _ _ h1
      have a2:=rh _ _ _ h2
      have a3:=sf _ _ _ h3
      rw[pg n m c.2 (by omega) (by omega)]
      cases h4:pz n c.2 with
      |none=>rfl
      |some d=>
       simp only[Option.bind_some]
       have a4:=ri n _ _ _ h4
       rw[pg n m d.2 (by omega) (by omega)]
theorem xr (l:List UInt8):BO l=(qD 2 l).bind fun a=>(uV a.2).bind fun b=>
 if a.1<2 then(HZ b.2).bind fun c=>some (.mk b.1 lL [] (decide (a.1=1)) c.1,c.2)
 else(zR b.2).bind fun c=>(BO c.2).bind fun d=>(BO d.2).bind fun e=>some (.mk b.1 c.1 [d.1,e.1] false [],e.2):=by
 unfold BO
 cases l with
 |nil=>rfl
 |cons x l=>
  show pz (l.length+1) (x::l)=_
  simp only[pz]
  cases h1:qD 2 (x::l) with
  |none=>rfl
  |some a=>
   simp only[Option.bind_some]
   cases h2:uV a.2 with
   |none=>rfl
   |some b=>
    simp only[Option.bind_some]
    split
    ·rfl
    ·cases h3:zR b.2 with
     |none=>rfl
     |some c=>
      simp only[Option.bind_some]
      have a1:=sc 2 _ _ _ h1
      have a2:=rh _ _ _ h2
      have a3:=sf _ _ _ h3
      simp only[List.length_cons] at a1
      rw[pg c.2.length l.length c.2 (Nat.le_refl _) (by omega)]
      cases h4:pz c.2.length c.2 with
      |none=>rfl
      |some d=>
       simp only[Option.bind_some]
       have a4:=ri _ _ _ _ h4
       rw[pg d.2.length l.length d.2 (Nat.le_refl _) (by omega)]
end Go.Rl
namespace Go.Rl
open Go.RowKit
section
variable {st s1 s2 s3 s4 s5:Option (List UInt8)}
variable {α:Type} {f:List UInt8→Option (α×List UInt8)} {a:α}
end
end Go.Rl
namespace Go.Rl
open Go.RowKit
section
variable {P:Program} {ops:Array Oper} {Env:World→Prop} {Rl:World→World→Prop} {mo:Bool} {Pn:List PanicEntry→World→Prop} {N:Nat}
def yJ (ops:Array Oper) (n:Nat):Bool:=
 (List.range ops.size).all fun t=>decide (t≤n)||(List.range t).any fun j=>decide (n≤j)&&Region.waitsFor .any ops t j
def uW (o:Oper):Bool:=o.guard.isNone&&o.dst.isSome&&match o.op with|.extract .. |.move _|.assign _=>true|_=>false
theorem Ew {o:Oper} (h:uW o=true) (ρ:Operand→Value):(∃v,∀w,(execOp ρ o).run P w=.ok (.value v) w)∨∃x,(∀v,x≠.panic v)∧∀w,(execOp ρ o).run P w=.halt x w:=by
 obtain⟨dst,op,ty,pos,aft,g⟩:=o
 unfold uW at h
 simp only[Bool.and_eq_true] at h
 have h2:=h.2
 cases op<;>simp only[] at h2
 case move x=>exact .inl ⟨ρ x,fun w=>by simp[execOp]⟩
 case assign x=>exact .inl ⟨ρ x,fun w=>by simp[execOp]⟩
 case extract x n=>
  have e:execOp ρ ⟨dst,.extract x n,ty,pos,aft,g⟩=(do pure (Next.value (←Instr.extract (ρ x) n)):Sem Next):=rfl
  rw[e]
  cases hx:ρ x with
  |tuple vs=>
   cases hv:vs[n]? with
   |some v=>exact .inl ⟨v,fun w=>by simp[Instr.extract,hv]⟩
   |none=>exact .inr ⟨.stuck "Extract: no such component",fun v=>by simp,fun w=>by simp[Instr.extract,hv,stuck,Sem.run]⟩
  |_=>exact .inr ⟨.stuck "Extract: tuple expected",fun v=>by simp,fun w=>by simp[Instr.extract,stuck,Sem.run]⟩
 all_goals cases h2
def sj (ops:Array Oper):List Nat→Array Bool→Bool
 |[],listed=>(Region.ready .any ops listed).isEmpty
 |i::rest,listed=>(decide (Region.ready .any ops listed=[i])||((match ops[i]? with|some o=>uW o|none=>false)&&Region.free .any ops listed i&&(Region.ready .any ops listed).contains i))&&sj ops rest (listed.setIfInBounds i true)
theorem la {Q:iq} (hsel:Region.noSelect ops=true):∀(perm:List Nat) (os:List Oper) (listed:Array Bool) (a:Act) (w:World),(perm.map fun i=>ops[i]?)=os.map some→sj ops perm listed=true→wpList P ops (oa Q) os a w→wpAny P .any ops (oa Q) perm.length listed a w
 |[],os,listed,a,w,ho,hB,h=>by
  have:os=[]:=by cases os with|nil=>rfl|cons o os=>simp at ho
  subst this
  exact⟨by simpa [sj] using hB,h⟩
 |i::perm,os,listed,a,w,ho,hB,h=>by
  cases os with
  |nil=>simp at ho
  |cons o os=>
   simp only[List.map_cons,List.cons.injEq] at ho
   obtain⟨h0,ho⟩:=ho
   simp only[sj,Bool.and_eq_true,Bool.or_eq_true,decide_eq_true_eq] at hB
   obtain⟨hB1,hB2⟩:=hB
   have nolet:¬LetsOut (oa Q):=fun⟨_,_,hq⟩=>by obtain⟨hq,_⟩:=hq;cases hq
   rcases hB1 with hr|⟨⟨hq,hf⟩,hr⟩
   ·refine⟨fun h1=>(by rw[hr] at h1;cases h1),fun k hk=>?_⟩
    rw[hr] at hk
    have hik:k=i:=by simpa using hk
    subst hik
    have hw:wpOp P ops (oa Q) k (wpList P ops (oa Q) os) a w:=by unfold wpOp;simp only[h0];exact h
    exact wpOp_mono (fun a' w' h'=>la hsel perm os _ a' w' ho hB2 h') hw
   ·rw[h0] at hq
    have hq:uW o=true:=hq
    have hwant:Region.wanted o (yielded ops a.tmps)=true:=by
     unfold uW at hq
     simp only[Bool.and_eq_true,Option.isNone_iff_eq_none] at hq
     unfold Region.wanted
     rw[hq.1.1]
    unfold wpList at h
    rw[if_pos hwant] at h
    have h:=h.resolve_right fun h=>nolet h.2
    unfold Oper.wp at h
    rcases Ew (P:=P) hq a.eval with⟨v,hv⟩|⟨x,hx,hv⟩
    ·rw[hv w] at h
     exact wpAny_take h0 hsel hf hr (fun c a w hp=>by obtain⟨hp,_⟩:=hp;cases hp) (.inl ⟨hwant,hv⟩) (la hsel perm os _ _ w ho hB2 h)
    ·rw[hv w] at h
     cases x<;>first|exact absurd rfl (hx _)|exact h.elim
def og (ops:Array Oper) (n:Nat) (perm:List Nat):Nat→Nat→Array Bool→Bool
 |0,_,listed=>sj ops perm listed&&(Region.ready .any ops listed).all fun j=>decide (n≤j)
 |f+1,k,listed=>(Region.ready .any ops listed).contains k&&Region.free .any ops listed k&&og ops n perm f (k+1) (listed.setIfInBounds k true)
def BP (os:List Oper):List Nat→List Oper
 |[]=>[]
 |i::is=>match os[i]? with|some o=>o::BP os is|none=>BP os is
theorem yK {Q:iq} {D:List Deferred} {l:Fr} {w:World} (h:ia Q N D l w):ia (oa Q) N D l w:=fun a ha=>⟨rfl,h a ha⟩
end
end Go.Rl
namespace Go.Rl
open Go.RowKit
def JH (T:Value→World→Prop) (Pn:List PanicEntry→World→Prop):Ending→World→Prop:=fun e w'=>(∃v,e=.returned v∧T v w')∨∃c,e=.panicked c∧Pn c w'
theorem JH.mono {P:Program} {f:FuncId} {args:Array Value} {w:World} {T T':Value→World→Prop} {Pn Pn':List PanicEntry→World→Prop} (h:Calls P f args w (JH T Pn)) (hT:∀v w',T v w'→T' v w') (hP:∀c w',Pn c w'→Pn' c w'):Calls P f args w (JH T' Pn'):=
 Calls.mono h fun _ _ he=>he.imp (fun⟨v,h,hv⟩=>⟨v,h,hT _ _ hv⟩) fun⟨c,h,hc⟩=>⟨c,h,hP _ _ hc⟩
end Go.Rl
namespace Go.Rl
open Go.RowKit Go.Proofs
def Gt (l:List Value) (o:Nat) (m:List Value):List Value:=l.take o++m++l.drop (o+m.length)
section
variable {P:Program} {w w1 w':World} {T TB t:TypeId} {g gB i o:Nat} {l m cs:List Value} {v:Value} {st s1:Option (List UInt8)}
theorem bQ.stO (h:bQ g T l w) (o:Nat) (hl:o+m.length≤l.length) (hi:(P.info? t).map (·.size)=some m.length) (h1:ap m):
 ∃w',(Instr.storeAt t (.pointer (some ⟨g,o,none⟩)) (.agg m.toArray)).run P w=.ok () w'∧w.grownBy w' (some g)∧bQ g T (Gt l o m) w':=by
 have h':w.heap[g]? =some (.cells l.toArray T (0,0)):=h
 have hr:=run_storeCells_at (P:=P) g o T m 0 l.toArray w h' (by simpa using hl) h1
 refine⟨_,?_,bJ w g _,h.row (Gt l o m)⟩
 simp only[Instr.storeAt,Instr.sureAddr,storeVar,Sem.run_bind,Sem.run_pure,Result.andThen_ok,fh hi]
 rw[if_neg (by simp[Value.cells])]
 simpa [Gt,Value.cells] using hr
theorem qa.put (hB:bQ gB TB cs w) (hg:w.grownBy w1 (some g)) (hr:qa T g s1 w1) (hne:g<gB) {i:Nat} (hs:(P.info? t).map (·.size)=some 1) (hv:v.oneCell'=true) (hi:i<cs.length):
 ∃w2,(Instr.storeAt t (.pointer (some ⟨gB,i,none⟩)) v).run P w1=.ok () w2∧Mv (fun k=>k=g∨k=gB) w w2∧bQ gB TB (cs.set i v) w2∧qa T g s1 w2∧w1.grownBy w2 (some gB):=by
 have h1:=hB.other hg (fun e=>by have:=Option.some.inj e;omega)
 obtain⟨w2,h2,h3,h4⟩:=h1.stC (P:=P) (t:=t) (i:=i) (v:=v) hs hv hi
 have m2:Mv (fun k=>k=gB) w1 w2:=Mv.of_grown h3 fun k hk _=>(Option.some.inj hk).symm
 exact⟨w2,h2,(Mv.of_grown hg fun k hk _=>.inl (Option.some.inj hk).symm).trans m2 fun _ hn _=>.inr hn,h4,hr.mv m2 fun k hk=>by omega,h3⟩
end
end Go.Rl
namespace Go.Rl
open Go.RowKit Go.Proofs
theorem yF.rpx {w:World} {b:Nat} {l:List UInt32} {v:Value} (h:bk l v w) (hn:yF b v):bZ (fun k=>k<b) w (jA l) [v]:=by
 have h':Rp w (jA l) [v]:=Rp.wds.2 h
 unfold jA at h'⊢
 simp only[Rp] at h'
 obtain⟨A,n,c,hv,h2,h3,h4,h5,h6⟩:=h'
 obtain rfl:v=.slice A n c:=by simpa using hv
 simp only[bZ]
 refine⟨A,n,c,rfl,h2,h3,h4,h5,fun hp=>?_⟩
 obtain⟨ad,xs,rfl,h8,h9⟩:=h6 hp
 refine⟨ad,xs,rfl,fun _ hb=>?_,h8,?_⟩
 ·have:=hn ad.block rfl
  omega
 ·have:∀(l:List UInt32) (ys:List Value),bn w (l.map rR) ys→aN (fun k=>k<b) w (l.map rR) ys:=by
   intro l
   induction l with
   |nil=>intro ys h;simpa only[List.map_nil,bn,aN] using h
   |cons a l ih=>
    intro ys h
    simp only[List.map_cons,bn,aN] at h⊢
    obtain⟨c1,c2,h1,h2,h3⟩:=h
    exact⟨c1,c2,h1,by simpa only[rR,Rp,bZ] using h2,ih _ h3⟩
  exact this l xs h9
theorem yF.rpx' {w:World} {b:Nat} {l:List UInt32} {v:Value} (hn:yF b v) (h:bk l v w):bZ (fun k=>k<b) w (jA l) [v]:=yF.rpx h hn
theorem jt.mv (X:Nat→Prop) (w:World):jt (Mv X w) (Mv X):=⟨fun _ _ h=>Mv.of_ext h,fun _ _ h k=>h.trans k fun _ hn _=>hn⟩
theorem bZ.isS {X:Nat→Prop} {w:World} {l:List Dt} {v:Value} (h:bZ X w (.sl l) [v]):∃A n c,v=.slice A n c:=by
 simp only[bZ] at h
 obtain⟨A,n,c,hv,_⟩:=h
 exact⟨A,n,c,by simpa using hv⟩
theorem bZ.one {X:Nat→Prop} {w:World} {l:List Dt} {v:Value} (h:bZ X w (.sl l) [v]):v.oneCell'=true:=by obtain⟨A,n,c,rfl⟩:=h.isS;rfl
theorem mO {X:Nat→Prop} {w:World} (n:Int):bZ X w (kH n) [I n]:=by simp only[kH,bZ,I]
end Go.Rl
namespace Go.Rl
open Go.RowKit Go.Proofs
def RX (g:Nat):Nat→Prop:=fun k=>k=g
abbrev Df (st:Option (List UInt8)):Prop:=vX 549755813888 st
theorem AI {X:Nat→Prop} {w:World} {d:bj} {x y:Value} (h:bZ X w (fK d.at_) [B d.at_.1,x,y]):bZ X w (c9 d) [I d.kd,I d.ix,B d.at_.1,x,y]:=by
 unfold c9
 simp only[bZ.eq_5]
 exact aN.cons (a:=[I d.kd]) (mO _) (aN.cons (a:=[I d.ix]) (mO _) (aN.cons (b:=[]) h aN.nil))
theorem Gu {P:Program} {w:World} {t:TypeId} {x y:Operand} {s:Option (List UInt8)}:(bin .eql t x y (I (if s.isSome=true then 0 else 5)) (I 0)).run P w=.ok (B s.isSome) w:=by
 cases s<;>exact bo
theorem ltN {n m:Nat} (hn:n<18446744073709551616) (hm:m<18446744073709551616):UInt64.ofNat n<UInt64.ofNat m↔n<m:=by
 rw[UInt64.lt_iff_toNat_lt,UInt64.toNat_ofNat',UInt64.toNat_ofNat']
 omega
theorem xt:(Tryz.prog.info? 187).map (fun i=>(i.zero,i.size,i.bytes))=some (some (.agg #[I 0,I 0,I 0,I 0,B false,.slice none 0 0,.slice none 0 0]),7,88):=by kernel_rfl
theorem dC (m:cp):(bK m).size=7:=by simp[bK,kH,fK,jA,Dt.size,Dt.sizeAll]
theorem Ex {X:Nat→Prop} {w:World} {m:cp} {x y:Value} (h:bZ X w (fK m.co) [B m.co.1,x,y]):bZ X w (bK m) [I m.kd,I m.ix,I m.lo,I m.hi,B m.co.1,x,y]:=by
 unfold bK
 simp only[bZ.eq_5]
 exact aN.cons (a:=[I m.kd,I m.ix,I m.lo,I m.hi]) (by
  simp only[bZ.eq_5]
  exact aN.cons (a:=[I m.kd]) (mO _) (aN.cons (a:=[I m.ix]) (mO _) (aN.cons (a:=[I m.lo]) (mO _) (aN.cons (a:=[I m.hi]) (b:=[]) (mO _) aN.nil)))) (aN.cons (b:=[]) h aN.nil)
end Go.Rl

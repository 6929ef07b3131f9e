/- Part 2 of a proof: plain facts and walks of functions, merged by a program. Conditions: each lemma names its own. -/
import Derived.Test.YtpeidnhjcompmaaGreatDoorJf1
namespace Go.Rl
open Go.RowKit Go.Proofs
def t4:List UInt8:=(List.range 256).map fun n=>UInt8.ofNat (bl n)
theorem bl8 (y:UInt8):(UInt8.ofNat (bl y.toNat)).toNat=bl y.toNat∧bl y.toNat≤8:=by
 have:=wj (n:=y.toNat) (k:=8) y.toNat_lt
 exact⟨by rw[UInt8.toNat_ofNat'];omega,this⟩
theorem Cx {w:World} (y:UInt8):(Instr.index 9 (S t4) (U8 y)).run Tryz.prog w=.ok (U8 (UInt8.ofNat (bl y.toNat))) w:=by
 have hy:=y.toNat_lt
 have hs:(⟨t4.toArray⟩:ByteArray).size=256:=by simp[ByteArray.size,t4]
 rw[S,U8,run_index_string _ _ _ _ _ Tryz.underlying9,dif_pos (by rw[hs];omega)]
 have e:(⟨t4.toArray⟩:ByteArray)[((y.toNat:Int)).toNat]'(by rw[hs];omega)=UInt8.ofNat (bl y.toNat):=by
  show t4.toArray[((y.toNat:Int)).toNat]'(by simp[t4];omega)=_
  simp[t4]
 rw[e];rfl
theorem Cy (x:UInt32) (h:x.toNat<256):bl x.toUInt8.toNat=bl x.toNat:=by
 have:x.toUInt8.toNat=x.toNat%256:=UInt32.toNat_toUInt8 x
 rw[this,Nat.mod_eq_of_lt h]
theorem Dq {a b:UInt32}:a≥b↔b.toNat≤a.toNat:=UInt32.le_iff_toNat_le
theorem t6 {w:World} {x:UInt32}:
 Calls Tryz.prog 205 #[bC x] w (bH fun r w'=>w=w'∧r=I ((bl x.toNat:Nat):Int)):=by
 refine enter (vs:=[bC x]) Tryz.func205 E E E ?_
 have hx:=cK x
 refine af (aa (ac E E (ag (ab (af (af (aa (ae E E (ak (v:=bC 65536) E E E (rl) (ag (ab ?_)))))))))))
 refine bt E (fun h4=>?_) (fun h4=>?_)
 ·have h4':65536≤x.toNat:=Dq.1 h4
  have hb1:=nI (n:=x.toNat) (s:=16) (by omega)
  have hz:=qw x (s:=16) (by omega)
  refine af (aa (ae E E (ak E E E (cI 16 (by omega)) (ac E E (ag (ab (aa (ac E E (ag (ab (af (af (aa (ae E E ?_))))))))))))))
  refine ak (v:=bC 256) E E E (rl) (ag (ab ?_))
  refine bt E (fun h8=>?_) (fun h8=>?_)
  ·have h8':256≤((((x)>>>UInt32.ofNat 16))).toNat:=Dq.1 h8
   have hb2:=nI (n:=((((x)>>>UInt32.ofNat 16))).toNat) (s:=8) (by omega)
   have hz2:=qw (((x)>>>UInt32.ofNat 16)) (s:=8) (by omega)
   refine af (aa (ae E E (ak E E E (cI 8 (by omega)) (ac E E (ag (ab (aa (ae E E (ak E E E (aP (by omega) (by omega)) ?_)))))))))
   refine ac E E (ag (ab (af (aa (ae E E ?_)))))
   have hu:=Cy (((((x)>>>UInt32.ofNat 16))>>>UInt32.ofNat 8)) (by first|omega|(rw[hz2];omega))
   refine ae E E (bc E E (dH KG KR) ?_)
   have hy:=bl8 ((((((x)>>>UInt32.ofNat 16))>>>UInt32.ofNat 8))).toUInt8
   refine lW (u:=S t4) (v:=U8 ((((((x)>>>UInt32.ofNat 16))>>>UInt32.ofNat 8))).toUInt8) (by kernel_rfl) E E (Cx _) ?_
   refine bc E E (ya KR KI) (ak E E E (aP (by omega) (by omega)) (ac E E (ag (ab (aw ?_)))))
   refine av E E ?_
   exact⟨_,rfl,rfl,congrArg I (by
    try simp only[Nat.reducePow] at*
    first
    |(rw[hz2] at hu;rw[hz] at hb2 hu;rw[hb1,hb2];omega)
    |(rw[hz2] at hu;rw[hb2];omega)
    |(rw[hz] at hu;rw[hb1];omega)
    |omega)⟩
  ·have h8':((((x)>>>UInt32.ofNat 16))).toNat<256:=Nat.lt_of_not_le fun h=>h8 (Dq.2 h)
   refine aC (ab (af (aa (ae E E ?_))))
   have hu:=Cy (((x)>>>UInt32.ofNat 16)) (by first|omega|(rw[hz2];omega))
   refine ae E E (bc E E (dH KG KR) ?_)
   have hy:=bl8 ((((x)>>>UInt32.ofNat 16))).toUInt8
   refine lW (u:=S t4) (v:=U8 ((((x)>>>UInt32.ofNat 16))).toUInt8) (by kernel_rfl) E E (Cx _) ?_
   refine bc E E (ya KR KI) (ak E E E (aP (by omega) (by omega)) (ac E E (ag (ab (aw ?_)))))
   refine av E E ?_
   exact⟨_,rfl,rfl,congrArg I (by
    try simp only[Nat.reducePow] at*
    first
    |(rw[hz2] at hu;rw[hz] at hb2 hu;rw[hb1,hb2];omega)
    |(rw[hz2] at hu;rw[hb2];omega)
    |(rw[hz] at hu;rw[hb1];omega)
    |omega)⟩
 ·have h4':x.toNat<65536:=Nat.lt_of_not_le fun h=>h4 (Dq.2 h)
  refine aC (ab (af (af (aa (ae E E (ak (v:=bC 256) E E E (rl) (ag (ab ?_))))))))
  refine bt E (fun h8=>?_) (fun h8=>?_)
  ·have h8':256≤((x)).toNat:=Dq.1 h8
   have hb2:=nI (n:=((x)).toNat) (s:=8) (by omega)
   have hz2:=qw (x) (s:=8) (by omega)
   refine af (aa (ae E E (ak E E E (cI 8 (by omega)) (ac E E (ag (ab (aa (ae E E (ak E E E (aP (by omega) (by omega)) ?_)))))))))
   refine ac E E (ag (ab (af (aa (ae E E ?_)))))
   have hu:=Cy (((x)>>>UInt32.ofNat 8)) (by first|omega|(rw[hz2];omega))
   refine ae E E (bc E E (dH KG KR) ?_)
   have hy:=bl8 ((((x)>>>UInt32.ofNat 8))).toUInt8
   refine lW (u:=S t4) (v:=U8 ((((x)>>>UInt32.ofNat 8))).toUInt8) (by kernel_rfl) E E (Cx _) ?_
   refine bc E E (ya KR KI) (ak E E E (aP (by omega) (by omega)) (ac E E (ag (ab (aw ?_)))))
   refine av E E ?_
   exact⟨_,rfl,rfl,congrArg I (by
    try simp only[Nat.reducePow] at*
    first
    |(rw[hz2] at hu;rw[hz] at hb2 hu;rw[hb1,hb2];omega)
    |(rw[hz2] at hu;rw[hb2];omega)
    |(rw[hz] at hu;rw[hb1];omega)
    |omega)⟩
  ·have h8':((x)).toNat<256:=Nat.lt_of_not_le fun h=>h8 (Dq.2 h)
   refine aC (ab (af (aa (ae E E ?_))))
   have hu:=Cy (x) (by first|omega|(rw[hz2];omega))
   refine ae E E (bc E E (dH KG KR) ?_)
   have hy:=bl8 ((x)).toUInt8
   refine lW (u:=S t4) (v:=U8 ((x)).toUInt8) (by kernel_rfl) E E (Cx _) ?_
   refine bc E E (ya KR KI) (ak E E E (aP (by omega) (by omega)) (ac E E (ag (ab (aw ?_)))))
   refine av E E ?_
   exact⟨_,rfl,rfl,congrArg I (by
    try simp only[Nat.reducePow] at*
    first
    |(rw[hz2] at hu;rw[hz] at hb2 hu;rw[hb1,hb2];omega)
    |(rw[hz2] at hu;rw[hb2];omega)
    |(rw[hz] at hu;rw[hb1];omega)
    |omega)⟩
theorem Dr {w:World} {x:UInt32}:
 Calls Tryz.prog 200 #[bC x] w (bH fun r w'=>w=w'∧r=I ((32-bl x.toNat:Nat):Int)):=by
 refine enter (vs:=[bC x]) Tryz.func200 E E E ?_
 have hx:=wj (n:=x.toNat) (k:=32) x.toNat_lt
 refine af (aa (ac E E (ag (ab (af (aa (ae E E (an tZ E E (t6) ?_))))))))
 rintro v4 _ ⟨rfl,rfl⟩
 refine ak (r:=I ((32-bl x.toNat:Nat):Int)) E E E (by have e:((32-bl x.toNat:Nat):Int)=32-((bl x.toNat:Nat):Int):=(by omega);rw[e];exact bB (by omega) (by omega)) ?_
 refine ac E E (ag (ab (aw (av E E ?_))))
 exact⟨_,rfl,rfl,rfl⟩
theorem Bb {w:World} {l:List UInt32} {v:Value} (hv:bi l v w) (hl:l.length≤1099511627776):
 Calls Tryz.prog 183 #[v] w (bH fun r w'=>w=w'∧r=I ((bl (val l):Nat):Int)):=by
 refine enter (vs:=[v]) Tryz.func183 E E E ?_
 have hll:=gZ (cz l)
 refine af (aa (ac E E (ag (ab (af (aa (ae E E (an dA E E (dS hv) ?_))))))))
 rintro v4 _ ⟨rfl,b4⟩
 refine ac E E (ag (ab (af (af (aa (ae E E (aS (r:=I ((lb (val l)).length:Int)) E E (bw KE b4) ?_)))))))
 refine ak E E E (a6) (ag (ab ?_))
 refine bt E (fun h7=>?_) (fun h7=>?_)
 ·refine af (aa (ac E E (ag (ab (aw (aD (av E E ?_)))))))
  exact⟨_,rfl,rfl,by
   have:val l=0:=gH.1 (by omega)
   rw[this];rfl⟩
 ·refine aC (ab (af (aa (ae E E (aS (r:=I ((lb (val l)).length:Int)) E E (bw KE b4) (ak (r:=I (((lb (val l)).length-1:Nat):Int)) E E E (by have e:(((lb (val l)).length-1:Nat):Int)=((lb (val l)).length:Int)-1:=(by omega);rw[e];exact bB (by omega) (by omega)) ?_))))))
  refine ak (r:=I ((32*((lb (val l)).length-1:Nat):Nat):Int)) E E E (by have e:((32*((lb (val l)).length-1:Nat):Nat):Int)=32*(((lb (val l)).length-1:Nat):Int):=(by omega);rw[e];exact eZ (by omega) (by omega)) ?_
  refine ae E E (ae E E (aS (r:=I ((lb (val l)).length:Int)) E E (bw KE b4) (ak (r:=I (((lb (val l)).length-1:Nat):Int)) E E E (by have e:(((lb (val l)).length-1:Nat):Int)=((lb (val l)).length:Int)-1:=(by omega);rw[e];exact bB (by omega) (by omega)) ?_)))
  obtain⟨a16,p16,q16⟩:=cJ KE b4 (i:=((lb (val l)).length-1:Nat)) (by omega) .i64
  refine au E E E (p16 _) (aj E E (ai KG E q16) (an tZ E E (t6) ?_))
  rintro v18 _ ⟨rfl,rfl⟩
  have hb:=Iv (n:=val l) (i:=(lb (val l)).length-1) (by omega)
  have hb32:=wj (n:=((lb (val l))[(lb (val l)).length-1]'(by omega)).toNat) (k:=32) (cK _)
  refine ak (r:=I ((((32*((lb (val l)).length-1:Nat):Nat))+(bl ((lb (val l))[(lb (val l)).length-1]'(by omega)).toNat:Nat):Nat):Int)) E E E (by have e:((((32*((lb (val l)).length-1:Nat):Nat))+(bl ((lb (val l))[(lb (val l)).length-1]'(by omega)).toNat:Nat):Nat):Int)=((32*((lb (val l)).length-1:Nat):Nat):Int)+((bl ((lb (val l))[(lb (val l)).length-1]'(by omega)).toNat:Nat):Int):=(by omega);rw[e];exact aP (by omega) (by omega)) ?_
  refine ac E E (ag (ab (aw (av E E ?_))))
  exact⟨_,rfl,rfl,by rw[hb]⟩
theorem Cz {a L:List UInt32} {i s V:Nat} {o:UInt32} (hi:i<a.length) (hL:L.length=a.length) (hv:val (L.take i)+4294967296^i*(val (a.drop i)/2^s)=V)
 (st:o.toNat+4294967296*(val (a.drop (i+1))/2^s)=(a[i].toNat+4294967296*val (a.drop (i+1)))/2^s):val ((L.set i o).take (i+1))+4294967296^(i+1)*(val (a.drop (i+1))/2^s)=V:=by
 rw[fw (by omega),Nat.add_assoc,Nat.pow_succ,Nat.mul_assoc,←Nat.mul_add,st,←eG hi,hv]
theorem zO {a:List UInt32} {i:Nat} {x:UInt64} (hi:i<a.length) (hx:(∃h:i+1<a.length,x=a[i].toUInt64|||a[i+1].toUInt64<<<UInt64.ofNat 32)∨(a.length≤i+1∧x=a[i].toUInt64)) {s:Nat} (hs:s<32):
 ((x>>>UInt64.ofNat s).toUInt32).toNat+4294967296*(val (a.drop (i+1))/2^s)=(a[i].toNat+4294967296*val (a.drop (i+1)))/2^s:=by
 refine(Fj hs ?_).resolve_right (by have:=cK a[i];omega)
 rcases hx with⟨h,rfl⟩|⟨h,rfl⟩
 ·rw[Iu (fD _) (cK _),eG h]
  have:=cK a[i+1]
  rw[Nat.add_mul_mod_self_left,Nat.mod_eq_of_lt this]
 ·rw[fD,List.drop_of_length_le h];simp[val]
theorem Ds {w:World} {l:List UInt32} {v:Value} {k:Nat} (hv:bi l v w) (hl:l.length≤1099511627776) (hk:k≤1048576):
 Calls Tryz.prog 204 #[v,I (k:Int)] w (bH fun r w'=>aJ w w'∧∃q,r=.tuple #[q,I 0]∧bi (lb (val l/2^k)) q w'):=by
 refine enter (vs:=[v,I (k:Int)]) Tryz.func204 E E E ?_
 have hll:=gZ (cz l)
 refine af (aa (ac E E (ac E E (ag (ab (af (af (aa (ae E E (ak E E E (dn (by omega) bb) (ae E E (al E ?_))))))))))))
 refine ae E E (al E (ak E E E (dn (by omega) bV) (aI E E E (ag (ab (cy E (aC (ab (af (aa (ae E E (an dA E E (dS hv) ?_))))))))))))
 rintro v17 _ ⟨rfl,b17⟩
 refine ac E E (ag (ab (af (af (aa (ae E E (ak (r:=I ((k/32:Nat):Int)) E E E (by have e:((k/32:Nat):Int)=(k:Int)/32:=(by omega);rw[e];exact qo (by omega) (by omega) (by omega)) ?_)))))))
 refine ae E E (aS E E (bw KE b17) (ak E E E (iq) (ag (ab ?_))))
 refine bt E (fun h22=>?_) (fun h22=>?_)
 ·refine af (aa (ac E E (ac E E (ag (ab (aw (aD (bn E E E ?_))))))))
  exact⟨_,rfl,aJ.refl _,_,rfl,by
   have h1:=cz (lb (val l))
   rw[bK] at h1
   have h2:(4294967296:Nat)^(lb (val l)).length=2^(32*(lb (val l)).length):=by rw[Nat.pow_mul]
   have h3:2^(32*(lb (val l)).length)≤2^k:=Nat.pow_le_pow_right (by omega) (by omega)
   rw[Nat.div_eq_of_lt (by omega)]
   exact bi.nil _⟩
 ·refine aC (ab (af (aa (ae E E (ae E E (ak (r:=I ((k/32:Nat):Int)) E E E (by have e:((k/32:Nat):Int)=(k:Int)/32:=(by omega);rw[e];exact qo (by omega) (by omega) (by omega)) ?_))))))
  obtain⟨v26,p26,b26⟩:=Fh KE b17 (lo:=k/32) (by omega) .i64
  refine dl E E E E E (p26 _) (ac E E (ag (ab (af ?_))))
  obtain⟨a,ha⟩:∃a,a=(lb (val l)).drop (k/32):=⟨_,rfl⟩
  have hva:val a=val l/2^(32*(k/32)):=by
   have h1:=eh (lb (val l)) (k/32) (by omega)
   have h2:=cz ((lb (val l)).take (k/32))
   rw[List.length_take,Nat.min_eq_left (by omega)] at h2
   rw[bK] at h1
   have h3:(4294967296:Nat)^(k/32)=2^(32*(k/32)):=by rw[Nat.pow_mul]
   rw[h3] at h1 h2
   rw[ha]
   conv=>rhs;rw[h1]
   rw[Nat.add_mul_div_left _ _ (Nat.pow_pos (by omega)),Nat.div_eq_of_lt h2,Nat.zero_add]
  have hal:a.length≤1099511627776:=by rw[ha,List.length_drop];omega
  rw[←ha] at b26
  refine aa (ae E E (aS (r:=I (a.length:Int)) E E (bw KE b26) ?_))
  obtain⟨v29,w29,hr29,x29,o29,ob29⟩:=vY KE (w:=w) w.heap.size (n:=a.length) (by omega) (Nat.le_refl _)
  refine gY E E E hr29 (ac E E (ag (ab (af (af (aa (ae E E (aS (r:=I (a.length:Int)) E E (bw KE (b26.ext x29)) ?_))))))))
  refine ae E E (ag (ab (aE ?_)))
  refine fb (fun(i:Nat) (L:List UInt32)=>[(0,v26),(1,I (k:Int)),(6,v29),(30,v26),(31,I (a.length:Int)),(32,I (i:Int))]) (fun(i:Nat) (L:List UInt32) w'=>dV w.heap.size L v29 w'∧aJ w w'∧i≤a.length∧L.length=a.length∧val (L.take i)+4294967296^i*(val (a.drop i)/2^(k%32))=val a/2^(k%32)) (fun(i:Nat) (L:List UInt32)=>a.length-i) (0) (List.replicate a.length 0) ⟨rfl,rfl,rfl,rfl,rfl,rfl,trivial⟩ ⟨o29,x29,by simp,by simp,by simp[val]⟩ ?_
  rintro i L w9 ⟨oL,e9,hi,hL,hval⟩
  refine af (aa (ak E E E (bb) (ag (ab (af ?_)))))
  refine bt E (fun h33=>?_) (fun h33=>?_)
  ·have hia:i<a.length:=by omega
   refine aC (ab (af (aE (af (aa (ae E E ?_))))))
   obtain⟨a35,p35,q35⟩:=cJ KE (b26.ext e9) (i:=i) (by omega) .i64
   refine au E E E (p35 _) (aj E E (ai KG E q35) (ac E E (ac E E (ag (ab (af (aa (ae E E ?_))))))))
   refine bc E E (bQ KG KM) (ac E E (ag (ab (af (af (aa (ae E E (ak (r:=I ((i+1:Nat):Int)) E E E (by have e:((i+1:Nat):Int)=(i:Int)+1:=(by omega);rw[e];exact aP (by omega) (by omega)) ?_))))))))
   refine ae E E (aS (r:=I (a.length:Int)) E E (bw KE (b26.ext e9)) (ak E E E (bb) (ag (ab ?_))))
   refine bt E (fun h43=>?_) (fun h43=>?_)
   ·refine aa (ae E E (ae E E (ae E E (ak (r:=I ((i+1:Nat):Int)) E E E (by have e:((i+1:Nat):Int)=(i:Int)+1:=(by omega);rw[e];exact aP (by omega) (by omega)) ?_))))
    obtain⟨a48,p48,q48⟩:=cJ KE (b26.ext e9) (i:=(i+1:Nat)) (by omega) .i64
    refine au E E E (p48 _) (aj E E (ai KG E q48) (bc E E (bQ KG KM) ?_))
    refine ak E E E (fG 32 (by omega)) (ak E E E (i7) (ac E E (ag (ab (aa (ae E E (ae E E (ae E E (ae E E ?_)))))))))
    refine ak (r:=I ((k%32:Nat):Int)) E E E (by have e:((k%32:Nat):Int)=(k:Int)%32:=(by omega);rw[e];exact ox (by omega) (by omega)) ?_
    refine ak E E E (dj ((k%32:Nat)) (by omega)) (bc E E (cC KM KG) ?_)
    have st:=zO (x:=(((((a[i])).toUInt64)|||(((((a[(i+1:Nat)])).toUInt64)<<<UInt64.ofNat 32))))) hia (by first|exact .inl ⟨by omega,rfl⟩|exact .inr ⟨by omega,rfl⟩) (Nat.mod_lt k (show 0<32 by omega))
    obtain⟨g60,w60,p60,s60,o60,q60,hb60,c60,ob60⟩:=(oL).setW KE (i:=i) (by omega) (((((((a[i])).toUInt64)|||(((((a[(i+1:Nat)])).toUInt64)<<<UInt64.ofNat 32))))>>>UInt64.ofNat (k%32)).toUInt32)
    refine au E E E (p60 _) (ax E E s60 ?_)
    have x60:=aJ.of_new (e9) q60 hb60
    refine ag (aR (ab (aa (ak (r:=I ((i+1:Nat):Int)) E E E (by have e:((i+1:Nat):Int)=(i:Int)+1:=(by omega);rw[e];exact aP (by omega) (by omega)) ?_))))
    refine ae E E (ag ?_)
    refine dv (i+1) (_) ⟨rfl,rfl,rfl,rfl,rfl,rfl,trivial⟩ ⟨o60,x60,hia,by simpa using hL,Cz hia hL hval st⟩ (by show a.length-(i+1)<a.length-i;omega)
   ·refine aC (ab (aa (ae E E (ae E E (ae E E (ae E E (ak (r:=I ((k%32:Nat):Int)) E E E (by have e:((k%32:Nat):Int)=(k:Int)%32:=(by omega);rw[e];exact ox (by omega) (by omega)) ?_)))))))
    refine ak E E E (dj ((k%32:Nat)) (by omega)) (bc E E (cC KM KG) ?_)
    have st:=zO (x:=(((a[i])).toUInt64)) hia (by first|exact .inl ⟨by omega,rfl⟩|exact .inr ⟨by omega,rfl⟩) (Nat.mod_lt k (show 0<32 by omega))
    obtain⟨g60,w60,p60,s60,o60,q60,hb60,c60,ob60⟩:=(oL).setW KE (i:=i) (by omega) (((((a[i])).toUInt64)>>>UInt64.ofNat (k%32)).toUInt32)
    refine au E E E (p60 _) (ax E E s60 ?_)
    have x60:=aJ.of_new (e9) q60 hb60
    refine ag (aR (ab (aa (ak (r:=I ((i+1:Nat):Int)) E E E (by have e:((i+1:Nat):Int)=(i:Int)+1:=(by omega);rw[e];exact aP (by omega) (by omega)) ?_))))
    refine ae E E (ag ?_)
    refine dv (i+1) (_) ⟨rfl,rfl,rfl,rfl,rfl,rfl,trivial⟩ ⟨o60,x60,hia,by simpa using hL,Cz hia hL hval st⟩ (by show a.length-(i+1)<a.length-i;omega)
  ·refine be (aK (aK (bf (ab (af (aa ?_))))))
   have hla:val L=val l/2^k:=by
    rw[List.take_of_length_le (by omega),List.drop_of_length_le (by omega)] at hval
    simp only[val,Nat.zero_div,Nat.mul_zero,Nat.add_zero] at hval
    rw[hval,hva,Nat.div_div_eq_div_mul,←Nat.pow_add,Nat.div_add_mod]
   refine ae E E (an dA E E (dS oL.wds) ?_)
   rintro v63 _ ⟨rfl,b63⟩
   refine ac E E (ac E E (ag (ab (aw (bn E E E ?_)))))
   exact⟨_,rfl,e9,_,rfl,by rw[←hla];exact b63⟩
end Go.Rl
namespace Go.Rl
theorem zP {V U v1 v2 u01 u2 P Vl Ul q r:Nat} (hV:V=(v1*4294967296+v2)*P+Vl) (hU:U=(u01*4294967296+u2)*P+Ul) (hUl:Ul<P) (hqr:q*v1+r=u01)
 (h:r*4294967296+u2<q*v2):U<q*V:=by
 have h1:u01*4294967296+u2+1≤q*(v1*4294967296+v2):=by
  rw[←hqr,Nat.mul_add,←Nat.mul_assoc,Nat.add_mul];omega
 have h2:(u01*4294967296+u2+1)*P≤q*(v1*4294967296+v2)*P:=Nat.mul_le_mul_right _ h1
 have h3:q*(v1*4294967296+v2)*P≤q*V:=by
  rw[hV,Nat.mul_assoc];exact Nat.mul_le_mul_left _ (Nat.le_add_right _ _)
 rw[Nat.add_mul _ 1] at h2
 omega
theorem Fk {V U v1 v2 u01 u2 P Vl Ul q:Nat} (hV:V=(v1*4294967296+v2)*P+Vl) (hU:U=(u01*4294967296+u2)*P+Ul) (hVl:Vl<P) (h1:0<v1) (hq:0<q) (hqB:q≤4294967296)
 (h:q*(v1*4294967296+v2)≤u01*4294967296+u2):(q-1)*V≤U:=by
 obtain⟨m,rfl⟩:∃m,q=m+1:=⟨q-1,by omega⟩
 rw[Nat.add_sub_cancel]
 have h2:(m+1)*(v1*4294967296+v2)*P≤(u01*4294967296+u2)*P:=Nat.mul_le_mul_right _ h
 have h3:m*Vl≤(v1*4294967296+v2)*P:=by
  have a:m*Vl≤4294967296*P:=Nat.mul_le_mul (by omega) (by omega)
  have b:4294967296*P≤(v1*4294967296+v2)*P:=Nat.mul_le_mul_right _ (by omega)
  omega
 rw[hV,Nat.mul_add,←Nat.mul_assoc]
 rw[Nat.add_mul m 1,Nat.one_mul,Nat.add_mul] at h2
 omega
theorem oB {V U v1 v2 u01 u2 P Vl Ul q r:Nat} (hV:V=(v1*4294967296+v2)*P+Vl) (hU:U=(u01*4294967296+u2)*P+Ul) (hVl:Vl<P) (h1:0<v1) (hv2:v2<4294967296) (hqB:q<4294967296) (hqr:q*v1+r=u01)
 (h:4294967296≤r∨q*v2≤r*4294967296+u2):(q-1)*V≤U:=by
 rcases Nat.eq_zero_or_pos q with rfl|hq
 ·simp
 ·refine Fk hV hU hVl h1 hq (by omega) ?_
  rw[Nat.mul_add,←Nat.mul_assoc]
  have hp:q*v2≤4294967295*4294967295:=Nat.mul_le_mul (by omega) (by omega)
  omega
theorem Fl {v1 u0 u1 q r:Nat} (hu0:u0≤v1) (hu1:u1<4294967296) (hqr:q*v1+r=u0*4294967296+u1) (hr:4294967296≤r):q<4294967296:=by
 rcases Nat.lt_or_ge q 4294967296 with h|h
 ·exact h
 ·have:=Nat.mul_le_mul_right v1 h
  omega
theorem IX {V U v1 u01 P Q:Nat} (hV:v1*P≤V) (hU:U<(u01+1)*P) (h1:0<v1) (h:Q*V≤U):Q≤u01/v1:=by
 rw[Nat.le_div_iff_mul_le h1]
 have h2:Q*v1*P≤Q*V:=by rw[Nat.mul_assoc];exact Nat.mul_le_mul_left _ hV
 have h3:Q*v1*P<(u01+1)*P:=by omega
 have:=Nat.lt_of_mul_lt_mul_right h3
 omega
theorem Ka {u lo b:Nat} (hu:u<4294967296) (hlo:lo<4294967296) (hb:b≤1) {x:UInt64} (hx:x.toNat=(18446744073709551616-b+(18446744073709551616-lo+u)%18446744073709551616)%18446744073709551616):
 x.toNat%4294967296+lo+b=u+4294967296*(x.toNat/9223372036854775808)∧x.toNat/9223372036854775808≤1:=by
 omega
theorem Fm {L v:List UInt32} {M:List UInt32} {i:Nat} {q c b x:UInt64} (hi:i<v.length) (hL:v.length<L.length) (hM:M.length=L.length) (hq:q.toNat<4294967296) (hc:c.toNat<4294967296) (hb:b.toNat≤1)
 (hMi:M.drop i=L.drop i) (hinv:val (L.take i)+4294967296^i*(c.toNat+b.toNat)=val (M.take i)+q.toNat*val (v.take i))
 (hx:x=(M[i]'(by omega)).toUInt64-((c+q*v[i].toUInt64).toUInt32).toUInt64-b):
 (M.set i x.toUInt32).drop (i+1)=L.drop (i+1)∧((c+q*v[i].toUInt64)>>>UInt64.ofNat 32).toNat<4294967296∧(x>>>UInt64.ofNat 63).toNat≤1∧
   val (L.take (i+1))+4294967296^(i+1)*(((c+q*v[i].toUInt64)>>>UInt64.ofNat 32).toNat+(x>>>UInt64.ofNat 63).toNat)=val ((M.set i x.toUInt32).take (i+1))+q.toNat*val (v.take (i+1)):=by
 have hd:=cK v[i]
 have hMl:M[i]'(by omega)=L[i]'(by omega):=by
  have h1:=List.getElem?_drop (xs:=M) (i:=i) (j:=0)
  have h2:=List.getElem?_drop (xs:=L) (i:=i) (j:=0)
  rw[hMi] at h1
  rw[h1,Nat.add_zero,List.getElem?_eq_getElem (by omega),List.getElem?_eq_getElem (by omega)] at h2
  exact Option.some.inj h2
 have hu:=cK (M[i]'(by omega))
 have hprod:q.toNat*v[i].toNat≤4294967295*4294967295:=Nat.mul_le_mul (by omega) (by omega)
 have hC:(c+q*v[i].toUInt64).toNat=c.toNat+q.toNat*v[i].toNat:=by
  rw[ph,wi,fD];omega
 have hhi:((c+q*v[i].toUInt64)>>>UInt64.ofNat 32).toNat=(c.toNat+q.toNat*v[i].toNat)/4294967296:=by rw[sG _ (by omega),hC]
 have hb1:(x>>>UInt64.ofNat 63).toNat=x.toNat/9223372036854775808:=by rw[sG _ (by omega)]
 have hxn:x.toNat=(18446744073709551616-b.toNat+(18446744073709551616-(c.toNat+q.toNat*v[i].toNat)%4294967296+(M[i]'(by omega)).toNat)%18446744073709551616)%18446744073709551616:=by
  rw[hx,qx,qx,fD,fD,lA,hC]
 obtain⟨hs1,hs2⟩:=Ka hu (Nat.mod_lt _ (by omega)) hb hxn
 refine⟨?_,by rw[hhi];omega,by rw[hb1];exact hs2,?_⟩
 ·rw[List.drop_set_of_lt (by omega)]
  have:=congrArg (List.drop 1) hMi
  rwa [List.drop_drop,List.drop_drop] at this
 ·rw[fw (by omega),bW (by omega),bW hi,hhi,hb1,lA,←hMl,Nat.pow_succ,Nat.mul_add q.toNat,Nat.mul_left_comm q.toNat]
  have hdm:=Nat.div_add_mod (c.toNat+q.toNat*v[i].toNat) 4294967296
  have key:(M[i]'(by omega)).toNat+4294967296*((c.toNat+q.toNat*v[i].toNat)/4294967296+x.toNat/9223372036854775808)=x.toNat%4294967296+q.toNat*v[i].toNat+(c.toNat+b.toNat):=by omega
  have k2:=congrArg (4294967296^i* ·) key
  simp only[Nat.mul_add] at k2 hinv⊢
  simp only[Nat.mul_assoc] at k2⊢
  omega
theorem Fo {M v L:List UInt32} {i:Nat} {c:UInt64} (hi:i<v.length) (hL:v.length<L.length) (hM:M.length=L.length) (hc:c.toNat≤1)
 (hMi:M.drop i=L.drop i) (hinv:val (M.take i)+4294967296^i*c.toNat=val (L.take i)+val (v.take i)):
 (M.set i (c+((M[i]'(by omega)).toUInt64+v[i].toUInt64)).toUInt32).drop (i+1)=L.drop (i+1)∧((c+((M[i]'(by omega)).toUInt64+v[i].toUInt64))>>>UInt64.ofNat 32).toNat≤1∧
   val ((M.set i (c+((M[i]'(by omega)).toUInt64+v[i].toUInt64)).toUInt32).take (i+1))+4294967296^(i+1)*((c+((M[i]'(by omega)).toUInt64+v[i].toUInt64))>>>UInt64.ofNat 32).toNat=val (L.take (i+1))+val (v.take (i+1)):=by
 have hd:=cK v[i]
 have hMl:M[i]'(by omega)=L[i]'(by omega):=by
  have h1:=List.getElem?_drop (xs:=M) (i:=i) (j:=0)
  have h2:=List.getElem?_drop (xs:=L) (i:=i) (j:=0)
  rw[hMi] at h1
  rw[h1,Nat.add_zero,List.getElem?_eq_getElem (by omega),List.getElem?_eq_getElem (by omega)] at h2
  exact Option.some.inj h2
 have hu:=cK (M[i]'(by omega))
 have hC:(c+((M[i]'(by omega)).toUInt64+v[i].toUInt64)).toNat=c.toNat+((M[i]'(by omega)).toNat+v[i].toNat):=by
  rw[ph,ph,fD,fD];omega
 have hhi:((c+((M[i]'(by omega)).toUInt64+v[i].toUInt64))>>>UInt64.ofNat 32).toNat=(c.toNat+((M[i]'(by omega)).toNat+v[i].toNat))/4294967296:=by rw[sG _ (by omega),hC]
 refine⟨?_,by rw[hhi];omega,?_⟩
 ·rw[List.drop_set_of_lt (by omega)]
  have:=congrArg (List.drop 1) hMi
  rwa [List.drop_drop,List.drop_drop] at this
 ·rw[fw (by omega),bW (by omega),bW hi,hhi,lA,hC,←hMl,Nat.pow_succ]
  have key:(c.toNat+((M[i]'(by omega)).toNat+v[i].toNat))%4294967296+4294967296*((c.toNat+((M[i]'(by omega)).toNat+v[i].toNat))/4294967296)=(M[i]'(by omega)).toNat+v[i].toNat+c.toNat:=by omega
  have k2:=congrArg (4294967296^i* ·) key
  simp only[Nat.mul_add] at k2 hinv⊢
  simp only[Nat.mul_assoc] at k2⊢
  omega
theorem Du {n j:Nat} (h1:4294967296^j≤n) (h2:n<4294967296^(j+1)):(lb n).length=j+1:=by
 have a:=gZ h2
 have b:=cz (lb n)
 rw[bK] at b
 have c:=(Nat.pow_lt_pow_iff_right (a:=4294967296) (by omega)).1 (Nat.lt_of_le_of_lt h1 b)
 omega
theorem nJ {x y:Nat}:rx x y<0↔x<y:=by
 unfold rx
 split
 ·simp;assumption
 ·split
  ·simp;omega
  ·simp;omega
theorem Fp {n k:Nat} (h:(lb n).length=k+2):
 32-bl ((lb n)[k+1]'(by omega)).toNat<32∧(lb (n*2^(32-bl ((lb n)[k+1]'(by omega)).toNat))).length=k+2:=by
 have hn:0<n:=by
  rcases Nat.eq_zero_or_pos n with h0|h0
  ·subst h0;simp[gd] at h
  ·exact h0
 have ht:=yg (n:=n) (i:=k+1) (by omega)
 have h1:=Cs hn
 rw[h] at h1
 have hb:=(qD ht).2
 have hp:=tX ht
 have h32:=wj (n:=((lb n)[k+1]'(by omega)).toNat) (k:=32) (cK _)
 have hv:n<(((lb n)[k+1]'(by omega)).toNat+1)*4294967296^(k+1):=by
  have e:=bW (l:=lb n) (i:=k+1) (by omega)
  rw[List.take_of_length_le (by omega),bK] at e
  have:=cz ((lb n).take (k+1))
  rw[List.length_take,Nat.min_eq_left (by omega)] at this
  rw[Nat.mul_comm,Nat.mul_add]
  omega
 generalize ((lb n)[k+1]'(by omega)).toNat=t at*
 refine⟨by omega,Du (j:=k+1) ?_ ?_⟩
 ·exact Nat.le_trans h1 (Nat.le_mul_of_pos_right _ (Nat.pow_pos (by omega)))
 ·have hs:0<2^(32-bl t):=Nat.pow_pos (by omega)
  have a:n*2^(32-bl t)<(t+1)*4294967296^(k+1)*2^(32-bl t):=Nat.mul_lt_mul_of_pos_right hv hs
  have b:(t+1)*4294967296^(k+1)*2^(32-bl t)≤2^bl t*4294967296^(k+1)*2^(32-bl t):=Nat.mul_le_mul_right _ (Nat.mul_le_mul_right _ hb)
  have c:2^bl t*4294967296^(k+1)*2^(32-bl t)=4294967296^(k+1+1):=by
   rw[Nat.mul_right_comm,←Nat.pow_add,show bl t+(32-bl t)=32 by omega,Nat.pow_succ 4294967296 (k+1),Nat.mul_comm]
  omega
theorem Fq {x:UInt64} (h:x.toNat=0):x=0:=UInt64.toNat_inj.1 h
theorem zQ {M:List UInt32} {n:Nat} (h:M.length=n+1) (x:UInt32):val (M.set n x)=val (M.take n)+4294967296^n*x.toNat:=by
 have:=fw (l:=M) (i:=n) (by omega) x
 rwa [List.take_of_length_le (by simp;omega)] at this
theorem zR {M:List UInt32} {n:Nat} (h:M.length=n+1):val M=val (M.take n)+4294967296^n*(M[n]'(by omega)).toNat:=by
 rw[←bW (by omega),List.take_of_length_le (by omega)]
theorem zS {M L:List UInt32} {i:Nat} (h:M.drop i=L.drop i) (h1:i<M.length) (h2:i<L.length):M[i]=L[i]:=by
 have e1:=List.getElem?_drop (xs:=M) (i:=i) (j:=0)
 have e2:=List.getElem?_drop (xs:=L) (i:=i) (j:=0)
 rw[h] at e1
 rw[e1,Nat.add_zero,List.getElem?_eq_getElem h1,List.getElem?_eq_getElem h2] at e2
 exact Option.some.inj e2
theorem Hl {L v M:List UInt32} {q c b x:UInt64} (hL:L.length=v.length+1) (hM:M.length=L.length) (hc:c.toNat<4294967296) (hb:b.toNat≤1)
 (hMi:M.drop v.length=L.drop v.length) (hinv:val (L.take v.length)+4294967296^v.length*(c.toNat+b.toNat)=val (M.take v.length)+q.toNat*val (v.take v.length))
 (hx:x=(M[v.length]'(by omega)).toUInt64-c-b):
 val L+4294967296^(v.length+1)*(x.toNat/9223372036854775808)=val (M.set v.length x.toUInt32)+q.toNat*val v∧x.toNat/9223372036854775808≤1:=by
 have hu:=cK (M[v.length]'(by omega))
 have hxn:x.toNat=(18446744073709551616-b.toNat+(18446744073709551616-c.toNat+(M[v.length]'(by omega)).toNat)%18446744073709551616)%18446744073709551616:=by
  rw[hx,qx,qx,fD]
 obtain⟨hs1,hs2⟩:=Ka hu hc hb hxn
 refine⟨?_,hs2⟩
 rw[zQ (by omega),lA,zR hL,←zS hMi (by omega) (by omega),Nat.pow_succ]
 rw[List.take_length (l:=v)] at hinv
 have k2:=congrArg (4294967296^v.length* ·) hs1
 simp only[Nat.mul_add] at k2 hinv⊢
 simp only[Nat.mul_assoc] at k2⊢
 omega
theorem Fs {L v N M:List UInt32} {q:Nat} {c:UInt64} (hL:L.length=v.length+1) (hN:N.length=L.length) (hM:M.length=L.length) (hc:c.toNat≤1) (hMi:M.drop v.length=N.drop v.length)
 (hinv:val (M.take v.length)+4294967296^v.length*c.toNat=val (N.take v.length)+val (v.take v.length)) (ht:val L+4294967296^(v.length+1)=val N+q*val v) (h1:(q-1)*val v≤val L):
 0<q∧val L=(q-1)*val v+val (M.set v.length ((M[v.length]'(by omega))+c.toUInt32))∧val (M.set v.length ((M[v.length]'(by omega))+c.toUInt32))<val v:=by
 have hu:=cK (M[v.length]'(by omega))
 have hNl:=cz N
 rw[hN,hL] at hNl
 have hq:0<q:=by
  rcases Nat.eq_zero_or_pos q with h|h
  ·subst h;omega
  ·exact h
 obtain⟨p,rfl⟩:∃p,q=p+1:=⟨q-1,by omega⟩
 rw[Nat.add_sub_cancel] at h1⊢
 rw[Nat.add_mul,Nat.one_mul] at ht
 have hlast:((M[v.length]'(by omega))+c.toUInt32).toNat=((M[v.length]'(by omega)).toNat+c.toNat)%4294967296:=by
  rw[UInt32.toNat_add,lA];omega
 have hF:=zQ (show M.length=v.length+1 by omega) ((M[v.length]'(by omega))+c.toUInt32)
 have hFl:=cz (M.set v.length ((M[v.length]'(by omega))+c.toUInt32))
 have hFe:(M.set v.length ((M[v.length]'(by omega))+c.toUInt32)).length=v.length+1:=by simp;omega
 rw[hFe] at hFl
 have hNe:=zR (show N.length=v.length+1 by omega)
 rw[←zS hMi (by omega) (by omega)] at hNe
 rw[List.take_length (l:=v)] at hinv
 have hdm:=Nat.div_add_mod ((M[v.length]'(by omega)).toNat+c.toNat) 4294967296
 have hs:((M[v.length]'(by omega)).toNat+c.toNat)/4294967296≤1:=by omega
 have key:val (M.set v.length ((M[v.length]'(by omega))+c.toUInt32))+4294967296^(v.length+1)*(((M[v.length]'(by omega)).toNat+c.toNat)/4294967296)=val N+val v:=by
  rw[hF,hlast,hNe,Nat.pow_succ]
  have k2:=congrArg (4294967296^v.length* ·) hdm
  simp only[Nat.mul_add] at k2⊢
  simp only[Nat.mul_assoc] at k2⊢
  omega
 generalize val (M.set v.length ((M[v.length]'(by omega))+c.toUInt32))=F at*
 generalize ((M[v.length]'(by omega)).toNat+c.toNat)/4294967296=s at*
 rcases(show s=0∨s=1 by omega) with rfl|rfl
 ·omega
 ·refine⟨by omega,by omega,by omega⟩
theorem Dv {A Q V X lo part q part' P:Nat} (hX:X=lo+P*part) (hlo:lo<P) (hA:A=Q*(P*4294967296)*V+X) (hp:part=q*V+part') (hr:part'<V):
 A=(q+4294967296*Q)*P*V+(lo+P*part')∧lo+P*part'<P*V:=by
 constructor
 ·rw[hA,hX,hp,Nat.mul_add P,Nat.add_mul q,Nat.add_mul]
  have e1:4294967296*Q*P*V=Q*(P*4294967296)*V:=by
   rw[Nat.mul_comm 4294967296 Q,Nat.mul_assoc Q,Nat.mul_comm 4294967296 P]
  have e2:q*P*V=P*(q*V):=by rw[Nat.mul_comm q P,Nat.mul_assoc]
  rw[e1,e2];omega
 ·have:P*(part'+1)≤P*V:=Nat.mul_le_mul_left _ hr
  rw[Nat.mul_add] at this
  omega
end Go.Rl
namespace Go.Rl
theorem iW (l:List UInt32) (i:Nat):val (l.take (i+1))=val (l.take i)+4294967296^i*(l.getD i 0).toNat:=by
 rcases Nat.lt_or_ge i l.length with h|h
 ·rw[bW h];simp[List.getD,List.getElem?_eq_getElem h]
 ·rw[List.take_of_length_le h,List.take_of_length_le (by omega)];simp[List.getD,List.getElem?_eq_none h]
theorem mj (l:List UInt32) {i:Nat} (h:l.length≤i):val (l.take i)=val l:=by rw[List.take_of_length_le h]
def yj (l:List UInt32) (n:Nat):List UInt32:=l++List.replicate (n-l.length) 0
theorem oC {l:List UInt32} {n:Nat} (h:l.length≤n):(yj l n).length=n:=by simp[yj];omega
theorem tv (l:List UInt32) (n:Nat):val (yj l n)=val l:=by simp[yj,en,ru]
theorem tw {l:List UInt32} {n i:Nat} (h:i<(yj l n).length):(yj l n)[i]=l.getD i 0:=by
 unfold yj at h⊢
 rcases Nat.lt_or_ge i l.length with h1|h1
 ·rw[List.getElem_append_left h1];simp[List.getD,List.getElem?_eq_getElem h1]
 ·rw[List.getElem_append_right h1];simp[List.getD,List.getElem?_eq_none h1]
theorem Ft {l m:List UInt32} {n j:Nat} (hl:l.length≤n) (hm:m.length≤n) (hj:j<n) (hd:(yj l n).drop (j+1)=(yj m n).drop (j+1)) (h:(l.getD j 0).toNat<(m.getD j 0).toNat):val l<val m:=by
 rw[←tv l n,←tv m n]
 exact Ct (by rw[oC hl];exact hj) (by rw[oC hm];exact hj) hd (by rw[tw,tw];exact h)
theorem Fu {l m:List UInt32} {n j:Nat} (hl:l.length≤n) (hm:m.length≤n) (hj:j<n) (hd:(yj l n).drop (j+1)=(yj m n).drop (j+1)) (h:(l.getD j 0).toNat=(m.getD j 0).toNat):(yj l n).drop j=(yj m n).drop j:=by
 have h1:=List.drop_eq_getElem_cons (l:=yj l n) (i:=j) (by rw[oC hl];exact hj)
 have h2:=List.drop_eq_getElem_cons (l:=yj m n) (i:=j) (by rw[oC hm];exact hj)
 rw[h1,h2,hd,tw,tw,kj h]
theorem Hm {l m:List UInt32} {n:Nat} (h:yj l n=yj m n):val l=val m:=by rw[←tv l n,←tv m n,h]
theorem wo {a b O:List UInt32} {i:Nat} {c:UInt64} (hO:O.length=i) (hc:c.toNat≤1) (hinv:val O+4294967296^i*c.toNat=val (a.take i)+val (b.take i)):
 val (O++[(c+((a.getD i 0).toUInt64+(b.getD i 0).toUInt64)).toUInt32])+4294967296^(i+1)*((c+((a.getD i 0).toUInt64+(b.getD i 0).toUInt64))>>>UInt64.ofNat 32).toNat=val (a.take (i+1))+val (b.take (i+1))∧
  ((c+((a.getD i 0).toUInt64+(b.getD i 0).toUInt64))>>>UInt64.ofNat 32).toNat≤1:=by
 have ha:=cK (a.getD i 0)
 have hb:=cK (b.getD i 0)
 have hC:(c+((a.getD i 0).toUInt64+(b.getD i 0).toUInt64)).toNat=c.toNat+((a.getD i 0).toNat+(b.getD i 0).toNat):=by rw[ph,ph,fD,fD];omega
 have hhi:((c+((a.getD i 0).toUInt64+(b.getD i 0).toUInt64))>>>UInt64.ofNat 32).toNat=(c.toNat+((a.getD i 0).toNat+(b.getD i 0).toNat))/4294967296:=by rw[sG _ (by omega),hC]
 refine⟨?_,by rw[hhi];omega⟩
 rw[en,mg,hO,lA,hhi,hC,iW,iW,Nat.pow_succ]
 have key:=Nat.div_add_mod (c.toNat+((a.getD i 0).toNat+(b.getD i 0).toNat)) 4294967296
 have k2:=congrArg (4294967296^i* ·) key
 simp only[Nat.mul_add] at k2 hinv⊢
 simp only[Nat.mul_assoc] at k2⊢
 omega
theorem Fv {O:List UInt32} {i:Nat} {c:UInt64} (hO:O.length=i) (hc:c.toNat≤1):val (O++[c.toUInt32])=val O+4294967296^i*c.toNat:=by
 rw[en,mg,hO,lA,Nat.mod_eq_of_lt (by omega)]
theorem wr {a b O:List UInt32} {i:Nat} {d:UInt64} (hO:O.length=i) (hd:d.toNat≤1) (hinv:val (a.take i)+4294967296^i*d.toNat=val O+val (b.take i)) {x y:UInt64}
 (h:(x=(a.getD i 0).toUInt64+4294967296∧(a.getD i 0).toNat<(b.getD i 0).toNat+d.toNat∧y=1)∨(x=(a.getD i 0).toUInt64∧(b.getD i 0).toNat+d.toNat≤(a.getD i 0).toNat∧y=0)):
 val (a.take (i+1))+4294967296^(i+1)*y.toNat=val (O++[(x-((b.getD i 0).toUInt64+d)).toUInt32])+val (b.take (i+1))∧y.toNat≤1:=by
 have ha:=cK (a.getD i 0)
 have hb:=cK (b.getD i 0)
 have hy:((b.getD i 0).toUInt64+d).toNat=(b.getD i 0).toNat+d.toNat:=by rw[ph,fD];omega
 have e1:(1:UInt64).toNat=1:=rfl
 have e0:(0:UInt64).toNat=0:=rfl
 have key:(a.getD i 0).toNat+4294967296*y.toNat=(x-((b.getD i 0).toUInt64+d)).toUInt32.toNat+((b.getD i 0).toNat+d.toNat)∧y.toNat≤1:=by
  rcases h with⟨rfl,h,rfl⟩|⟨rfl,h,rfl⟩
  ·have hx:((a.getD i 0).toUInt64+4294967296).toNat=(a.getD i 0).toNat+4294967296:=by
    rw[ph,fD]
    show((a.getD i 0).toNat+4294967296)%18446744073709551616=_
    omega
   rw[lA,qx,hy,hx,e1]
   omega
  ·rw[lA,qx,hy,fD,e0]
   omega
 refine⟨?_,key.2⟩
 rw[en,mg,hO,iW,iW,Nat.pow_succ]
 have k2:=congrArg (4294967296^i* ·) key.1
 simp only[Nat.mul_add] at k2 hinv⊢
 simp only[Nat.mul_assoc] at k2⊢
 omega
theorem Dw {a O:List UInt32} {i q s:Nat} {c:UInt64} (hs:s<32) (hi:i<a.length) (hO:O.length=q+i) (hc:c.toNat<2^s) (hinv:val O+4294967296^(q+i)*c.toNat=val (a.take i)*(4294967296^q*2^s)):
 val (O++[(c|||a[i].toUInt64<<<UInt64.ofNat s).toUInt32])+4294967296^(q+(i+1))*((c|||a[i].toUInt64<<<UInt64.ofNat s)>>>UInt64.ofNat 32).toNat=val (a.take (i+1))*(4294967296^q*2^s)∧
  ((c|||a[i].toUInt64<<<UInt64.ofNat s)>>>UInt64.ofNat 32).toNat<2^s:=by
 have ha:=cK a[i]
 have hps:2^s≤2^31:=Nat.pow_le_pow_right (by omega) (by omega)
 have hsh:(a[i].toUInt64<<<UInt64.ofNat s).toNat=2^s*a[i].toNat:=by
  rw[zK _ (by omega),fD,Nat.mod_eq_of_lt,Nat.mul_comm]
  have:a[i].toNat*2^s≤4294967295*2^31:=Nat.mul_le_mul (by omega) hps
  omega
 have hC:(c|||a[i].toUInt64<<<UInt64.ofNat s).toNat=c.toNat+2^s*a[i].toNat:=by rw[Hk,hsh,JN _ _ _ hc]
 have hhi:((c|||a[i].toUInt64<<<UInt64.ofNat s)>>>UInt64.ofNat 32).toNat=(c.toNat+2^s*a[i].toNat)/4294967296:=by rw[sG _ (by omega),hC]
 refine⟨?_,?_⟩
 ·rw[en,mg,hO,lA,hhi,hC,bW hi,Nat.add_mul,←hinv,←Nat.add_assoc q i 1,Nat.pow_succ,Nat.pow_add]
  have key:=Nat.div_add_mod (c.toNat+2^s*a[i].toNat) 4294967296
  have k2:=congrArg (4294967296^q*4294967296^i* ·) key
  have e:4294967296^i*a[i].toNat*(4294967296^q*2^s)=4294967296^q*4294967296^i*(2^s*a[i].toNat):=by
   simp only[Nat.mul_comm,Nat.mul_left_comm,Nat.mul_assoc]
  rw[e]
  simp only[Nat.mul_add] at k2⊢
  simp only[Nat.mul_assoc] at k2⊢
  omega
 ·rw[hhi,Nat.div_lt_iff_lt_mul (by omega)]
  have h1:2^s*(a[i].toNat+1)≤2^s*4294967296:=Nat.mul_le_mul_left _ ha
  rw[Nat.mul_add] at h1
  omega
theorem IY {a:List UInt32} {i:Nat} (hi:i/32<a.length):((a[i/32]>>>UInt32.ofNat (i%32))&&&1).toNat=val a/2^i%2:=by
 have hs:i%32<32:=Nat.mod_lt _ (by omega)
 have e1:((a[i/32]>>>UInt32.ofNat (i%32))&&&1).toNat=a[i/32].toNat/2^(i%32)%2:=by
  rw[UInt32.toNat_and,qw _ hs]
  show _&&&1=_
  rw[Nat.and_one_is_mod]
 have h1:=eh a (i/32) (by omega)
 have h2:=cz (a.take (i/32))
 rw[List.length_take,Nat.min_eq_left (by omega)] at h2
 have h3:(4294967296:Nat)^(i/32)=2^(32*(i/32)):=by rw[Nat.pow_mul]
 rw[h3] at h1 h2
 have h4:val a/2^(32*(i/32))=val (a.drop (i/32)):=by
  rw[h1,Nat.add_mul_div_left _ _ (Nat.pow_pos (by omega)),Nat.div_eq_of_lt h2,Nat.zero_add]
 have h5:val a/2^i=val (a.drop (i/32))/2^(i%32):=by
  rw[←h4,Nat.div_div_eq_div_mul,←Nat.pow_add,Nat.div_add_mod]
 rw[e1,h5,eG hi]
 have hp:2^(i%32)*2^(32-i%32)=4294967296:=by rw[←Nat.pow_add,show i%32+(32-i%32)=32 by omega]
 obtain⟨k,hk⟩:∃k,32-i%32=k+1:=⟨31-i%32,by omega⟩
 rw[←hp,Nat.mul_assoc,Nat.add_mul_div_left _ _ (Nat.pow_pos (by omega)),hk,Nat.pow_succ,Nat.mul_comm (2^k) 2,Nat.mul_assoc,Nat.add_mul_mod_self_left]
theorem IZ {a:List UInt32} {i t:Nat} (hi:i/32<a.length) (hv:val a=2^(i+1)*t):val (a.set (i/32) (a[i/32]|||(1:UInt32)<<<UInt32.ofNat (i%32)))=val a+2^i:=by
 have hs:i%32<32:=Nat.mod_lt _ (by omega)
 have h1:=eh a (i/32) (by omega)
 have h2:=cz (a.take (i/32))
 rw[List.length_take,Nat.min_eq_left (by omega)] at h2
 have h3:(4294967296:Nat)^(i/32)=2^(32*(i/32)):=by rw[Nat.pow_mul]
 have h4:val (a.drop (i/32))=2^(i%32+1)*t:=by
  have e:val a/2^(32*(i/32))=val (a.drop (i/32)):=by
   rw[h3] at h1 h2
   rw[h1,Nat.add_mul_div_left _ _ (Nat.pow_pos (by omega)),Nat.div_eq_of_lt h2,Nat.zero_add]
  rw[←e,hv,show i+1=32*(i/32)+(i%32+1) by omega,Nat.pow_add,Nat.mul_assoc,Nat.mul_div_cancel_left _ (Nat.pow_pos (by omega))]
 have h5:a[i/32].toNat=2^(i%32+1)*(t%2^(31-i%32)):=by
  have e:=eG hi
  rw[h4] at e
  have e2:a[i/32].toNat=2^(i%32+1)*t%4294967296:=by
   rw[e,Nat.add_mul_mod_self_left,Nat.mod_eq_of_lt (cK _)]
  have hp:2^(i%32+1)*2^(31-i%32)=4294967296:=by rw[←Nat.pow_add,show i%32+1+(31-i%32)=32 by omega]
  rw[e2,←hp,Nat.mul_mod_mul_left]
 have h6:((1:UInt32)<<<UInt32.ofNat (i%32)).toNat=2^(i%32):=by
  rw[Hj _ hs]
  show 1*2^(i%32)%4294967296=_
  have:2^(i%32)≤2^31:=Nat.pow_le_pow_right (by omega) (by omega)
  rw[Nat.one_mul,Nat.mod_eq_of_lt (by omega)]
 have h7:(a[i/32]|||(1:UInt32)<<<UInt32.ofNat (i%32)).toNat=a[i/32].toNat+2^(i%32):=by
  rw[Fi,h6,h5,Nat.or_comm,JN _ _ _ (Nat.pow_lt_pow_right (by omega) (by omega)),Nat.add_comm]
 have h8:=fw hi (a[i/32]|||(1:UInt32)<<<UInt32.ofNat (i%32))
 have h9:=eh (a.set (i/32) (a[i/32]|||(1:UInt32)<<<UInt32.ofNat (i%32))) (i/32+1) (by simp;omega)
 rw[h8,List.drop_set_of_lt (by omega),h7] at h9
 have h10:=eh a (i/32+1) (by omega)
 rw[bW hi] at h10
 rw[h9,h10,Nat.mul_add]
 have e:4294967296^(i/32)*2^(i%32)=2^i:=by rw[h3,←Nat.pow_add,Nat.div_add_mod]
 rw[e];omega
theorem Bc {N V i:Nat} (hV:0<V):
 N/2^i=2*(N/2^(i+1))+N/2^i%2∧(V≤2*(N/2^(i+1)%V)+N/2^i%2→N/2^i%V=2*(N/2^(i+1)%V)+N/2^i%2-V∧N/2^i/V=2*(N/2^(i+1)/V)+1)∧
  (2*(N/2^(i+1)%V)+N/2^i%2<V→N/2^i%V=2*(N/2^(i+1)%V)+N/2^i%2∧N/2^i/V=2*(N/2^(i+1)/V)):=by
 have e:N/2^(i+1)=N/2^i/2:=by rw[Nat.pow_succ,Nat.div_div_eq_div_mul]
 rw[e]
 generalize N/2^i=M
 have h1:M=2*(M/2)+M%2:=by omega
 have h2:=Nat.div_add_mod (M/2) V
 have h3:=Nat.mod_lt (M/2) hV
 refine⟨h1,fun h=>?_,fun h=>?_⟩
 ·have key:M=V*(2*(M/2/V)+1)+(2*(M/2%V)+M%2-V):=by
   rw[Nat.mul_add,Nat.mul_left_comm];omega
  have hlt:2*(M/2%V)+M%2-V<V:=by omega
  constructor
  ·conv=>lhs;rw[key]
   rw[Nat.mul_add_mod,Nat.mod_eq_of_lt hlt]
  ·conv=>lhs;rw[key]
   rw[Nat.mul_add_div hV,Nat.div_eq_of_lt hlt,Nat.add_zero]
 ·have key:M=V*(2*(M/2/V))+(2*(M/2%V)+M%2):=by
   rw[Nat.mul_left_comm];omega
  constructor
  ·conv=>lhs;rw[key]
   rw[Nat.mul_add_mod,Nat.mod_eq_of_lt h]
  ·conv=>lhs;rw[key]
   rw[Nat.mul_add_div hV,Nat.div_eq_of_lt h,Nat.add_zero]
theorem Hn {n:Nat} (h:0<n):bl n=bl (n/2)+1:=by
 rcases(show n=1∨2≤n by omega) with rfl|h1
 ·rfl
 ·have:=nI (n:=n) (s:=1) (by omega)
  rw[Nat.pow_one] at this
  omega
end Go.Rl
namespace Go.Rl
open Go.RowKit Go.Proofs
theorem eK:aH Tryz.prog 167:=⟨_,Tryz.func167,by kernel_rfl,rfl⟩
theorem zT:aH Tryz.prog 186:=⟨_,Tryz.func186,by kernel_rfl,rfl⟩
theorem t7:aH Tryz.prog 185:=⟨_,Tryz.func185,by kernel_rfl,rfl⟩
theorem eO:aH Tryz.prog 206:=⟨_,Tryz.func206,by kernel_rfl,rfl⟩
theorem wt:aH Tryz.prog 190:=⟨_,Tryz.func190,by kernel_rfl,rfl⟩
theorem t8:aH Tryz.prog 140:=⟨_,Tryz.func140,by kernel_rfl,rfl⟩
theorem Dx:aH Tryz.prog 189:=⟨_,Tryz.func189,by kernel_rfl,rfl⟩
theorem Dy:aH Tryz.prog 191:=⟨_,Tryz.func191,by kernel_rfl,rfl⟩
theorem Dz:aH Tryz.prog 188:=⟨_,Tryz.func188,by kernel_rfl,rfl⟩
theorem Bd:aH Tryz.prog 187:=⟨_,Tryz.func187,by kernel_rfl,rfl⟩
theorem wu {w:World} {l:List UInt32} {v:Value} (hv:bi l v w) (hl:l.length≤8796093022208):
 Calls Tryz.prog 167 #[v] w (bH fun r w'=>aJ w w'∧dV w.heap.size (lb (val l)) r w'):=by
 refine enter (vs:=[v]) Tryz.func167 E E E ?_
 refine af (aa (ac E E (ag (ab (af (aa (ae E E (aS E E (bw KY hv) (ac E E (ag (ab (af ?_))))))))))))
 refine aE ?_
 refine bZ (α:=Nat) (fun n=>[(0,v),(3,I (n:Int))]) (fun n w'=>w=w'∧n≤l.length∧val (l.take n)=val l) (fun n=>n) (l.length) ⟨rfl,rfl,trivial⟩ ⟨rfl,Nat.le_refl _,by rw[List.take_length]⟩ ?_
 rintro n _ ⟨rfl,hn,hval⟩
 refine af (af (aa (ae E E (ak E E E (bV) (ae E E ?_)))))
 refine cq (fun h8=>?_) (fun h8=>?_)
 ·refine al E (ae E E (al E (ae E E (al E (ak (r:=I ((n-1:Nat):Int)) E E E (by have e:((n-1:Nat):Int)=(n:Int)-1:=(by omega);rw[e];exact bB (by omega) (by omega)) ?_)))))
  refine al E ?_
  obtain⟨a12,p12,q12⟩:=cJ KY hv (i:=(n-1:Nat)) (by omega) .i64
  refine au E E E (p12 _) (al E (aj E E (ai KG E q12) (al E (ak (v:=bC 0) E E E (oy) (ar E E E ?_)))))
  refine ag (ab ?_)
  refine bt E (fun h15=>?_) (fun h15=>?_)
  ·refine aC (ab (aE (aa (ae E E (ak (r:=I ((n-1:Nat):Int)) E E E (by have e:((n-1:Nat):Int)=(n:Int)-1:=(by omega);rw[e];exact bB (by omega) (by omega)) ?_)))))
   refine ac E E (ag (aR ?_))
   refine bJ (n-1) ⟨rfl,rfl,trivial⟩ ⟨rfl,by omega,by rw[rz (by omega) hn h15];exact hval⟩ (by omega)
  ·refine be (aK (aK (bf (ab (af (aa ?_))))))
   obtain⟨v18,w18,hr18,x18,o18,ob18⟩:=i8 Tryz.underlying44 (w:=w) w.heap.size [] (by simp) (Nat.le_refl _)
   refine aG (vs:=[]) E E hr18 (ae E E (ae E E ?_))
   obtain⟨v21,p21,b21⟩:=tR KY (hv.ext x18) (hi:=n) hn .i64
   refine dl E E E E E (p21 _) ?_
   obtain⟨v22,w22,hr22,o22,g22⟩:=Cu Tryz.underlying44 Tryz.underlying43 (ty:=44) o18 b21 (by simp;omega) (x18).size
   have x22:=aJ.of_grew (x18) g22 o18.ge
   refine aW E E hr22 (ac E E (ag (ab (aw (av E E ?_)))))
   exact⟨_,rfl,x22,by
    have e:lb (val l)=l.take n:=by
     first
     |rw[←hval,lz (by omega) hn h15]
     |(have h0:n=0:=by omega
       subst h0
       rw[←hval];rfl)
    rw[e];simpa using o22⟩
 ·refine am E E E (am E E E (am E E E (am E E E (am E E E (am E E E (aI E E E (ag (ab (cy E (be (aK (aK ?_))))))))))))
  refine bf (ab (af (aa ?_)))
  obtain⟨v18,w18,hr18,x18,o18,ob18⟩:=i8 Tryz.underlying44 (w:=w) w.heap.size [] (by simp) (Nat.le_refl _)
  refine aG (vs:=[]) E E hr18 (ae E E (ae E E ?_))
  obtain⟨v21,p21,b21⟩:=tR KY (hv.ext x18) (hi:=n) hn .i64
  refine dl E E E E E (p21 _) ?_
  obtain⟨v22,w22,hr22,o22,g22⟩:=Cu Tryz.underlying44 Tryz.underlying43 (ty:=44) o18 b21 (by simp;omega) (x18).size
  have x22:=aJ.of_grew (x18) g22 o18.ge
  refine aW E E hr22 (ac E E (ag (ab (aw (av E E ?_)))))
  exact⟨_,rfl,x22,by
   have e:lb (val l)=l.take n:=by
    first
    |rw[←hval,lz (by omega) hn h15]
    |(have h0:n=0:=by omega
      subst h0
      rw[←hval];rfl)
   rw[e];simpa using o22⟩
theorem fx {w:World} {l:List UInt32} {v:Value} (hv:bi l v w) (hl:l.length≤8796093022208):
 Calls Tryz.prog 167 #[v] w (bH fun r w'=>aJ w w'∧bi (lb (val l)) r w'):=
 (wu hv hl).mono fun _ _ ⟨r,he,h1,h2⟩=>⟨r,he,h1,h2.wds⟩
theorem zU {w:World} {x:UInt64}:
 Calls Tryz.prog 186 #[bS x] w (bH fun r w'=>aJ w w'∧bi (lb x.toNat) r w'):=by
 refine enter (vs:=[bS x]) Tryz.func186 E E E ?_
 refine af (aa (ac E E (ag (ab (af (aa (ae E E (bc E E (cC KM KG) (ae E E ?_)))))))))
 refine ak E E E (dj 32 (by omega)) (bc E E (cC KM KG) ?_)
 obtain⟨v8,w8,hr8,x8,o8,ob8⟩:=i8 Tryz.underlying43 (w:=w) w.heap.size [x.toUInt32,(x>>>UInt64.ofNat 32).toUInt32] (by simp) (Nat.le_refl _)
 refine aG (vs:=[(0,bC (x.toUInt32)),(1,bC ((x>>>UInt64.ofNat 32).toUInt32))]) E E hr8 (an eK E E (fx o8.wds (by simp)) ?_)
 rintro v9 w9 ⟨x9,b9⟩
 refine ac E E (ag (ab (aw (av E E ?_))))
 exact⟨_,rfl,(x8.trans x9),by
  have e:val [x.toUInt32,(x>>>UInt64.ofNat 32).toUInt32]=x.toNat:=by
   have h1:=lA x
   have h2:((x>>>UInt64.ofNat 32).toUInt32).toNat=x.toNat/4294967296:=by
    have:=A7 x
    rw[lA,wh]
    omega
   simp only[val,h1,h2];omega
  rw[e] at b9;exact b9⟩
theorem eP {w:World} {l:List UInt32} {v:Value} {i:Nat} (hv:bi l v w):
 Calls Tryz.prog 206 #[v,I (i:Int)] w (bH fun r w'=>w=w'∧r=bC (l.getD i 0)):=by
 refine enter (vs:=[v,I (i:Int)]) Tryz.func206 E E E ?_
 refine af (aa (ac E E (ag (ab (af (af (aa (ae E E (ae E E (aS E E (bw KE hv) (ak E E E (bb) ?_)))))))))))
 refine ag (ab ?_)
 refine bt E (fun h8=>?_) (fun h8=>?_)
 ·refine af (aa (ae E E (ae E E ?_)))
  obtain⟨a11,p11,q11⟩:=cJ KE hv (i:=i) (by omega) .i64
  refine au E E E (p11 _) (aj E E (ai KG E q11) (ac E E (ag (ab (aw (aD (av E E ?_)))))))
  exact⟨_,rfl,rfl,by simp[List.getD,List.getElem?_eq_getElem (show i<l.length by omega)]⟩
 ·refine aC (ab (af (aa (ac E E (ag (ab (aw (av E E ?_))))))))
  exact⟨_,rfl,rfl,by simp[List.getD,List.getElem?_eq_none (show l.length≤i by omega)];rfl⟩
theorem wv {w:World} {l m:List UInt32} {v u:Value} (hv:bi l v w) (hu:bi m u w):
 Calls Tryz.prog 190 #[v,u] w (bH fun r w'=>w=w'∧r=I (rx (val l) (val m))):=by
 refine enter (vs:=[v,u]) Tryz.func190 E E E ?_
 have hll:=hv.len
 have hml:=hu.len
 obtain⟨n,hn⟩:∃n,n=max l.length m.length:=⟨_,rfl⟩
 have hln:l.length≤n:=by omega
 have hmn:m.length≤n:=by omega
 refine af (aa (ac E E (ag (ab (af (af (aa (ae E E (aS E E (bw KE hv) (ae E E (aS E E (bw KE hu) ?_)))))))))))
 refine J1 (r:=I ((n:Nat):Int)) (vs:=[I (l.length:Int),I (m.length:Int)]) E E (by rw[hn];exact Hi) ?_
 refine ak E E E (bB (by omega) (by omega)) (ac E E (ag (ab (aE ?_))))
 refine bZ (α:=Nat) (fun k=>[(0,v),(1,u),(5,I ((k:Int)-1))]) (fun k w'=>w=w'∧k≤n∧(yj l n).drop k=(yj m n).drop k) (fun k=>k) (n) ⟨rfl,rfl,rfl,trivial⟩ ⟨rfl,Nat.le_refl _,by rw[List.drop_of_length_le (by rw[oC hln];exact Nat.le_refl _),List.drop_of_length_le (by rw[oC hmn];exact Nat.le_refl _)]⟩ ?_
 rintro k _ ⟨rfl,hk,hd⟩
 refine af (af (aa (ae E E (ak E E E (iq) (ag (ab ?_))))))
 refine bt E (fun h13=>?_) (fun h13=>?_)
 ·obtain⟨j,rfl⟩:∃j,k=j+1:=⟨k-1,by omega⟩
  have e:((j+1:Nat):Int)-1=(j:Int):=by omega
  rw[e]
  refine aC (ab (af (aE (af (af (aa (ae E E (ae E E (an eO E E (eP hv) ?_)))))))))
  rintro v18 _ ⟨rfl,rfl⟩
  refine ae E E (ae E E (an eO E E (eP hu) ?_))
  rintro v21 _ ⟨rfl,rfl⟩
  refine ak E E E (vO) (ag (ab ?_))
  refine bt E (fun h22=>?_) (fun h22=>?_)
  ·refine af (aa (ac E E (ag (ab (aw (aD (aY (aD (aD (aY (aD (av E E ?_))))))))))))
   exact⟨_,rfl,rfl,congrArg I (yh (Ft hln hmn (by omega) hd (zM.1 h22))).symm⟩
  ·refine aC (ab (af (aa (ae E E (ae E E (an eO E E (eP hv) ?_))))))
   rintro v25 _ ⟨rfl,rfl⟩
   refine ae E E (ae E E (an eO E E (eP hu) ?_))
   rintro v28 _ ⟨rfl,rfl⟩
   refine ak E E E (vP) (ag (ab ?_))
   refine bt E (fun h29=>?_) (fun h29=>?_)
   ·refine af (aa (ac E E (ag (ab (aw (aY (aD (aD (aY (aD (av E E ?_)))))))))))
    exact⟨_,rfl,rfl,congrArg I (yi (Ft hmn hln (by omega) hd.symm (zM.1 h29))).symm⟩
   ·refine aC (aR (ab (aa (ae E E (ak E E E (bB (by omega) (by omega)) (ac E E (ag ?_)))))))
    refine bJ j ⟨rfl,rfl,rfl,trivial⟩ ⟨rfl,by omega,Fu hln hmn (by omega) hd (by
     have a:=mt zM.2 h22
     have b:=mt (zM (a:=m.getD j 0) (b:=l.getD j 0)).2 h29
     omega)⟩ (by omega)
 ·refine be (aK (aK (bf (ab (af (aa (ac E E (ag (ab (aw (av E E ?_)))))))))))
  exact⟨_,rfl,rfl,by
   obtain rfl:k=0:=by omega
   rw[List.drop_zero,List.drop_zero] at hd
   rw[Hm hd,Cw];rfl⟩
theorem t9 {w:World} {l m:List UInt32} {v u:Value} (hv:bi l v w) (hu:bi m u w):
 Calls Tryz.prog 140 #[v,u] w (bH fun r w'=>aJ w w'∧r=B (decide (l=m))):=by
 refine enter (vs:=[v,u]) Tryz.func140 E E E ?_
 have hll:=hv.len
 refine af (aa (ac E E (ag (ab (af (af (aa (ae E E (aS E E (bw KE hv) (ae E E (aS E E (bw KE hu) ?_)))))))))))
 refine ak E E E (dF) (ag (ab ?_))
 refine bt E (fun h10=>?_) (fun h10=>?_)
 ·refine af (aa (ac E E (ag (ab (aw (aD (av E E ?_)))))))
  exact⟨_,rfl,aJ.refl _,congrArg B (decide_eq_false fun h=>by subst h;exact h10 rfl).symm⟩
 ·have hlen:l.length=m.length:=by omega
  refine aC (ab (af (af (aa (ac E E (ag (ab (aE ?_))))))))
  refine bZ (α:=Nat) (fun i=>[(0,v),(1,u),(5,I (i:Int))]) (fun i w'=>aJ w w'∧i≤l.length∧l.take i=m.take i) (fun i=>l.length-i) (0) ⟨rfl,rfl,rfl,trivial⟩ ⟨aJ.refl _,by omega,rfl⟩ ?_
  rintro i w4 ⟨e4,hi,ht⟩
  refine af (af (aa (ae E E (ae E E (aS E E (bw KE (hv.ext e4)) (ak E E E (bb) (ag (ab ?_))))))))
  refine bt E (fun h14=>?_) (fun h14=>?_)
  ·refine aC (ab (af (aE (af (bD 8 [0,1,5,20,24] (by kernel_rfl) (by kernel_rfl) ?_)))))
   refine ay E E (ay E E ?_)
   obtain⟨a19,p19,q19⟩:=cJ KE (hv.ext e4) (i:=i) (by omega) .i64
   refine aA E E E (fun w _=>p19 w) (aN E E (fun w hw=>ai KG E (hw.cell_some q19)) (ay E E (ay E E ?_)))
   obtain⟨a23,p23,q23⟩:=cJ KE (hu.ext e4) (i:=i) (by omega) .i64
   refine aA E E E (fun w _=>p23 w) (aN E E (fun w hw=>ai KG E (hw.cell_some q23)) (cb ?_))
   intro wg6 xg6
   rintro _ hq0
   obtain rfl:=Eq.symm hq0
   rintro _ hq1
   obtain rfl:=Eq.symm hq1
   rintro _ rfl
   rintro _ rfl
   rintro _ rfl
   refine ak E E E (lq) (ag (ab ?_))
   refine bt E (fun h25=>?_) (fun h25=>?_)
   ·have hne:l≠m:=fun h=>by subst h;exact h25 rfl
    refine af (aa (ac E E (ag (ab (aw (aY (aD (aD (aY (aD (av E E ?_)))))))))))
    exact⟨_,rfl,(e4.trans xg6),congrArg B (decide_eq_false hne).symm⟩
   ·refine aC (aR (ab (aa (ae E E (ak (r:=I ((i+1:Nat):Int)) E E E (by have e:((i+1:Nat):Int)=(i:Int)+1:=(by omega);rw[e];exact aP (by omega) (by omega)) ?_)))))
    refine ac E E (ag ?_)
    refine bJ (i+1) ⟨rfl,rfl,rfl,trivial⟩ ⟨(e4.trans xg6),by omega,by rw[List.take_succ_eq_append_getElem (show i<l.length by omega),List.take_succ_eq_append_getElem (show i<m.length by omega),ht,show l[i]=m[i] from Classical.byContradiction fun h=>h25 h]⟩ (by omega)
  ·refine be (aK (aK (bf (ab (af (aa (ac E E (ag (ab (aw (av E E ?_)))))))))))
   exact⟨_,rfl,e4,congrArg B (decide_eq_true (by
    rw[List.take_of_length_le (by omega),List.take_of_length_le (by omega)] at ht
    exact ht)).symm⟩
theorem ua {w:World} {l:List UInt32} {v:Value} (hv:bi l v w) (hl:l.length≤8796093022208):
 Calls Tryz.prog 185 #[v] w (bH fun r w'=>aJ w w'∧((18446744073709551616≤val l∧r=.tuple #[bS 0,B false])∨∃x:UInt64,x.toNat=val l∧r=.tuple #[bS x,B true])):=by
 refine enter (vs:=[v]) Tryz.func185 E E E ?_
 refine af (aa (ac E E (ac E E (ag (ab (af (aa (ae E E (an eK E E (fx hv hl) ?_)))))))))
 rintro v5 w5 ⟨x5,b5⟩
 refine ac E E (ag (ab (af (af ?_))))
 obtain⟨t,ht⟩:∃t,t=lb (val l):=⟨_,rfl⟩
 have hval:val t=val l:=by rw[ht,bK]
 have h64:t.length≤2∨18446744073709551616≤val l:=by
  rcases Nat.lt_or_ge (val l) 18446744073709551616 with h|h
  ·exact .inl (by rw[ht];exact gZ (n:=val l) (k:=2) h)
  ·exact .inr h
 rw[←ht] at b5
 refine aa (ae E E (aS E E (bw KE b5) (ag (ab (aE (af (aa (ak E E E (a6) (ac E E ?_)))))))))
 refine ag (ab ?_)
 refine bt E (fun h8=>?_) (fun h8=>?_)
 ·refine af (aa (ac E E (ac E E (ag (ab (aw (aY (aD (bn E E E ?_)))))))))
  exact⟨_,rfl,x5,.inr ⟨0,by
   have:t=[]:=List.eq_nil_of_length_eq_zero (by omega)
   rw[←hval,this];rfl,rfl⟩⟩
 ·refine af (aa (ak E E E (a6) (ac E E (ag (ab ?_)))))
  refine bt E (fun h10=>?_) (fun h10=>?_)
  ·refine af (aa (ae E E ?_))
   obtain⟨a13,p13,q13⟩:=cJ KE b5 (i:=0) (by omega) .i64
   refine au E E E (p13 _) (aj E E (ai KG E q13) (bc E E (bQ KG KM) ?_))
   refine ac E E (ac E E (ag (ab (aw (aY (aD (bn E E E ?_)))))))
   exact⟨_,rfl,x5,.inr ⟨_,by
    obtain⟨x,rfl⟩:=List.length_eq_one_iff.1 (show t.length=1 by omega)
    rw[fD,←hval];simp[val],rfl⟩⟩
  ·refine af (aa (ak E E E (a6) (ac E E (ag (ab ?_)))))
   refine bt E (fun h16=>?_) (fun h16=>?_)
   ·refine af (bD 11 [2] (by kernel_rfl) (by kernel_rfl) ?_)
    refine ay E E ?_
    obtain⟨a19,p19,q19⟩:=cJ KE b5 (i:=0) (by omega) .i64
    refine aA E E E (fun w _=>p19 w) (aN E E (fun w hw=>ai KG E (hw.cell_some q19)) (dT E E (fun w _=>bQ KG KM) ?_))
    refine ay E E ?_
    obtain⟨a23,p23,q23⟩:=cJ KE b5 (i:=1) (by omega) .i64
    refine aA E E E (fun w _=>p23 w) (aN E E (fun w hw=>ai KG E (hw.cell_some q23)) (dT E E (fun w _=>bQ KG KM) ?_))
    refine ba (v:=bS 32) E E E (fun w _=>fG 32 (by omega)) (ba E E E (fun w _=>i7) (fO E E (cb ?_)))
    intro wg8 xg8
    rintro _ rfl
    refine ac E E (ag (ab (aw (aY (aD (bn E E E ?_))))))
    exact⟨_,rfl,(x5.trans xg8),.inr ⟨_,by
     have e1:=eG (l:=t) (i:=0) (by omega)
     have e2:=eG (l:=t) (i:=1) (by omega)
     simp only[Nat.zero_add,Nat.reduceAdd,List.drop_zero] at e1 e2
     rw[List.drop_of_length_le (show t.length≤2 by omega)] at e2
     rw[Iu (fD _) (cK _),←hval,e1,e2]
     simp[val],rfl⟩⟩
   ·refine aC (aR (ab (af (aa (ac E E (ac E E (ag (ab (aw (bn E E E ?_))))))))))
    exact⟨_,rfl,x5,.inl ⟨by omega,rfl⟩⟩
theorem DA {w:World} {l m:List UInt32} {v u:Value} (hv:bi l v w) (hu:bi m u w) (hl:l.length≤1099511627776) (hm:m.length≤1099511627776):
 Calls Tryz.prog 189 #[v,u] w (bH fun r w'=>aJ w w'∧bi (lb (val l+val m)) r w'):=by
 refine enter (vs:=[v,u]) Tryz.func189 E E E ?_
 refine af (aa (ac E E (ag (ab (af (aa (ac E E (ag (ab (af (aa (ac E E (ag (ab (af (af (aa (ac E E ?_))))))))))))))))))
 refine ag (ab (aE ?_))
 refine mf (fun(i:Nat) (vo:Value) (O:List UInt32) (c:UInt64)=>[(0,v),(1,u),(5,vo),(6,bS c),(7,I (i:Int))]) (fun(i:Nat) (vo:Value) (O:List UInt32) (c:UInt64) w'=>aJ w w'∧dV w.heap.size O vo w'∧O.length=i∧i≤max l.length m.length∧c.toNat≤1∧val O+4294967296^i*c.toNat=val (l.take i)+val (m.take i)) (fun(i:Nat) (vo:Value) (O:List UInt32) (c:UInt64)=>max l.length m.length-i) (0) (.slice none 0 0) ([]) (0) ⟨rfl,rfl,rfl,rfl,rfl,trivial⟩ ⟨aJ.refl _,dV.nil _ _,rfl,by simp,by simp,by simp[val]⟩ ?_
 rintro i vo O c w4 ⟨e4,oO,hO,hi,hc,hinv⟩
 refine af (af (aa (ae E E (ae E E (aS E E (bw KE (hv.ext e4)) (ak E E E (bb) (ae E E ?_)))))))
 refine cq (fun h12=>?_) (fun h12=>?_)
 ·refine am E E E (am E E E (am E E E (am E E E (ar E E E (ag (ab (bg E (aC (ab (af (aE (af ?_))))))))))))
  have hlt:i<max l.length m.length:=by
   first
   |(have:=h12;omega)
   |(have:=h17;omega)
  have st:=wo (a:=l) (b:=m) hO hc hinv
  refine aa (ae E E (ae E E (ae E E (an eO E E (eP (hv.ext e4)) ?_))))
  rintro v23 _ ⟨rfl,rfl⟩
  refine bc E E (bQ KG KM) (ae E E (ae E E (an eO E E (eP (hu.ext e4)) ?_)))
  rintro v27 _ ⟨rfl,rfl⟩
  refine bc E E (bQ KG KM) (ak E E E (dP) (ak E E E (dP) (ac E E ?_)))
  refine ag (ab (af (aa (ae E E (ae E E (bc E E (cC KM KG) ?_))))))
  obtain⟨v34,w34,hr34,x34,o34,ob34⟩:=i8 Tryz.underlying43 (w:=w4) w4.heap.size [((((c)+(((((l.getD i 0)).toUInt64)+(((m.getD i 0)).toUInt64))))).toUInt32)] (by simp) (Nat.le_refl _)
  refine aG (vs:=[(0,bC (((((c)+(((((l.getD i 0)).toUInt64)+(((m.getD i 0)).toUInt64))))).toUInt32)))]) E E hr34 ?_
  obtain⟨v35,w35,hr35,o35,g35⟩:=kG Tryz.underlying43 (ty:=43) (oO.ext x34) o34.wds (by simp;omega) ((e4.trans x34)).size
  have x35:=aJ.of_grew ((e4.trans x34)) g35 (oO.ext x34).ge
  refine aW E E hr35 (ac E E (ag (ab (aa (ae E E (ak E E E (dj 32 (by omega)) (ac E E (ag (aR (ab (aa ?_)))))))))))
  refine ae E E (ak (r:=I ((i+1:Nat):Int)) E E E (by have e:((i+1:Nat):Int)=(i:Int)+1:=(by omega);rw[e];exact aP (by omega) (by omega)) ?_)
  refine ac E E (ag ?_)
  refine gA (i+1) (_) (_) (_) ⟨rfl,rfl,rfl,rfl,rfl,trivial⟩ ⟨x35,o35,by simp[hO],by omega,st.2,st.1⟩ (by omega)
 ·refine al E (ae E E (al E (ae E E (al E (aS E E (bw KE (hu.ext e4)) (al E (ak E E E (bb) ?_)))))))
  refine aI E E E (ag (ab ?_))
  refine bt E (fun h17=>?_) (fun h17=>?_)
  ·refine aC (ab (af (aE (af ?_))))
   have hlt:i<max l.length m.length:=by
    first
    |(have:=h12;omega)
    |(have:=h17;omega)
   have st:=wo (a:=l) (b:=m) hO hc hinv
   refine aa (ae E E (ae E E (ae E E (an eO E E (eP (hv.ext e4)) ?_))))
   rintro v23 _ ⟨rfl,rfl⟩
   refine bc E E (bQ KG KM) (ae E E (ae E E (an eO E E (eP (hu.ext e4)) ?_)))
   rintro v27 _ ⟨rfl,rfl⟩
   refine bc E E (bQ KG KM) (ak E E E (dP) (ak E E E (dP) (ac E E ?_)))
   refine ag (ab (af (aa (ae E E (ae E E (bc E E (cC KM KG) ?_))))))
   obtain⟨v34,w34,hr34,x34,o34,ob34⟩:=i8 Tryz.underlying43 (w:=w4) w4.heap.size [((((c)+(((((l.getD i 0)).toUInt64)+(((m.getD i 0)).toUInt64))))).toUInt32)] (by simp) (Nat.le_refl _)
   refine aG (vs:=[(0,bC (((((c)+(((((l.getD i 0)).toUInt64)+(((m.getD i 0)).toUInt64))))).toUInt32)))]) E E hr34 ?_
   obtain⟨v35,w35,hr35,o35,g35⟩:=kG Tryz.underlying43 (ty:=43) (oO.ext x34) o34.wds (by simp;omega) ((e4.trans x34)).size
   have x35:=aJ.of_grew ((e4.trans x34)) g35 (oO.ext x34).ge
   refine aW E E hr35 (ac E E (ag (ab (aa (ae E E (ak E E E (dj 32 (by omega)) (ac E E (ag (aR (ab (aa ?_)))))))))))
   refine ae E E (ak (r:=I ((i+1:Nat):Int)) E E E (by have e:((i+1:Nat):Int)=(i:Int)+1:=(by omega);rw[e];exact aP (by omega) (by omega)) ?_)
   refine ac E E (ag ?_)
   refine gA (i+1) (_) (_) (_) ⟨rfl,rfl,rfl,rfl,rfl,trivial⟩ ⟨x35,o35,by simp[hO],by omega,st.2,st.1⟩ (by omega)
  ·refine be (aK (aK (bf (ab (af ?_)))))
   have hge:max l.length m.length≤i:=by
    first
    |(have:=h17;omega)
   rw[mj _ (by omega),mj _ (by omega)] at hinv
   refine aa (ae E E (ae E E (bc E E (cC KM KG) ?_)))
   obtain⟨v41,w41,hr41,x41,o41,ob41⟩:=i8 Tryz.underlying43 (w:=w4) w4.heap.size [((c).toUInt32)] (by simp) (Nat.le_refl _)
   refine aG (vs:=[(0,bC (((c).toUInt32)))]) E E hr41 ?_
   obtain⟨v42,w42,hr42,o42,g42⟩:=kG Tryz.underlying43 (ty:=43) (oO.ext x41) o41.wds (by simp;omega) ((e4.trans x41)).size
   have x42:=aJ.of_grew ((e4.trans x41)) g42 (oO.ext x41).ge
   refine aW E E hr42 (an eK E E (fx o42.wds (by simp;omega)) ?_)
   rintro v43 w43 ⟨x43,b43⟩
   refine ac E E (ag (ab (aw (av E E ?_))))
   exact⟨_,rfl,(x42.trans x43),by rw[←hinv,←Fv hO hc];exact b43⟩
theorem DB {w:World} {l m:List UInt32} {v u:Value} (hv:bi l v w) (hu:bi m u w) (hl:l.length≤1099511627776) (hle:val m≤val l):
 Calls Tryz.prog 191 #[v,u] w (bH fun r w'=>aJ w w'∧∃d,r=.tuple #[d,I 0]∧dV w.heap.size (lb (val l-val m)) d w'):=by
 refine enter (vs:=[v,u]) Tryz.func191 E E E ?_
 refine af (aa (ac E E (ac E E (ag (ab (af (af (aa (ae E E (ae E E (an wt E E (wv hv hu) ?_)))))))))))
 rintro v13 _ ⟨rfl,rfl⟩
 refine ak E E E (dn (fun h=>by have:=nJ.1 h;omega) bb) (ag (ab (cy E (aC (ab (af (aa (ac E E (ag (ab (af ?_)))))))))))
 refine aa (ac E E (ag (ab (af (af (aa (ac E E (ag (ab (aE ?_))))))))))
 refine mf (fun(i:Nat) (vo:Value) (O:List UInt32) (d:UInt64)=>[(0,v),(1,u),(6,vo),(7,bS d),(8,I (i:Int))]) (fun(i:Nat) (vo:Value) (O:List UInt32) (d:UInt64) w'=>aJ w w'∧dV w.heap.size O vo w'∧O.length=i∧i≤l.length∧d.toNat≤1∧val (l.take i)+4294967296^i*d.toNat=val O+val (m.take i)) (fun(i:Nat) (vo:Value) (O:List UInt32) (d:UInt64)=>l.length-i) (0) (.slice none 0 0) ([]) (0) ⟨rfl,rfl,rfl,rfl,rfl,trivial⟩ ⟨aJ.refl _,dV.nil _ _,rfl,by simp,by simp,by simp[val]⟩ ?_
 rintro i vo O d w6 ⟨e6,oO,hO,hi,hd,hinv⟩
 refine af (af (aa (ae E E (ae E E (aS E E (bw KE (hv.ext e6)) (ak E E E (bb) (ag (ab ?_))))))))
 refine bt E (fun h18=>?_) (fun h18=>?_)
 ·refine aC (ab (af (aE (af ?_))))
  have hlt:i<l.length:=by omega
  have hxa:=fD (l.getD i 0)
  have hyb:((m.getD i 0).toUInt64+d).toNat=(m.getD i 0).toNat+d.toNat:=by
   have:=cK (m.getD i 0)
   rw[ph,fD];omega
  refine aa (ae E E (ae E E (an eO E E (eP (hv.ext e6)) ?_)))
  rintro v23 _ ⟨rfl,rfl⟩
  refine bc E E (bQ KG KM) (ae E E (ae E E (an eO E E (eP (hu.ext e6)) ?_)))
  rintro v27 _ ⟨rfl,rfl⟩
  refine bc E E (bQ KG KM) (ae E E (ak E E E (dP) (ac E E (ac E E ?_))))
  refine ag (ab (af (aa (ac E E (ag (ab (af (af (aa (ae E E (ae E E (ak E E E (De) (ag (ab ?_))))))))))))))
  refine bt E (fun h33=>?_) (fun h33=>?_)
  ·have hlt2:(l.getD i 0).toNat<(m.getD i 0).toNat+d.toNat:=by
    have:=UInt64.lt_iff_toNat_lt.1 h33
    rwa [hxa,hyb] at this
   have st:=wr (a:=l) (b:=m) hO hd hinv (.inl ⟨rfl,hlt2,rfl⟩)
   refine af (aa (ae E E (ak (v:=bS 4294967296) E E E (dP) (ac E E (ag (ab (aa (ac E E (ag (ab (aa (ae E E ?_))))))))))))
   refine ae E E (ae E E (ak E E E (dQ) (bc E E (cC KM KG) ?_)))
   obtain⟨v41,w41,hr41,x41,o41,ob41⟩:=i8 Tryz.underlying43 (w:=w6) w6.heap.size [((((((((l.getD i 0)).toUInt64)+(4294967296)))-(((((m.getD i 0)).toUInt64)+(d))))).toUInt32)] (by simp) (Nat.le_refl _)
   refine aG (vs:=[(0,bC (((((((((l.getD i 0)).toUInt64)+(4294967296)))-(((((m.getD i 0)).toUInt64)+(d))))).toUInt32)))]) E E hr41 ?_
   obtain⟨v42,w42,hr42,o42,g42⟩:=kG Tryz.underlying43 (ty:=43) (oO.ext x41) o41.wds (by simp;omega) ((e6.trans x41)).size
   have x42:=aJ.of_grew ((e6.trans x41)) g42 (oO.ext x41).ge
   refine aW E E hr42 (ac E E (ag (aR (ab (aa (ae E E (ak (r:=I ((i+1:Nat):Int)) E E E (by have e:((i+1:Nat):Int)=(i:Int)+1:=(by omega);rw[e];exact aP (by omega) (by omega)) ?_)))))))
   refine ac E E (ag ?_)
   refine gA (i+1) (_) (_) (_) ⟨rfl,rfl,rfl,rfl,rfl,trivial⟩ ⟨x42,o42,by simp[hO],by omega,st.2,st.1⟩ (by omega)
  ·have hge2:(m.getD i 0).toNat+d.toNat≤(l.getD i 0).toNat:=by
    have:=mt UInt64.lt_iff_toNat_lt.2 h33
    rw[hxa,hyb] at this
    omega
   have st:=wr (a:=l) (b:=m) hO hd hinv (.inr ⟨rfl,hge2,rfl⟩)
   refine aC (ab (aa (ae E E (ae E E (ae E E (ak E E E (dQ) (bc E E (cC KM KG) ?_)))))))
   obtain⟨v41,w41,hr41,x41,o41,ob41⟩:=i8 Tryz.underlying43 (w:=w6) w6.heap.size [((((((l.getD i 0)).toUInt64)-(((((m.getD i 0)).toUInt64)+(d))))).toUInt32)] (by simp) (Nat.le_refl _)
   refine aG (vs:=[(0,bC (((((((l.getD i 0)).toUInt64)-(((((m.getD i 0)).toUInt64)+(d))))).toUInt32)))]) E E hr41 ?_
   obtain⟨v42,w42,hr42,o42,g42⟩:=kG Tryz.underlying43 (ty:=43) (oO.ext x41) o41.wds (by simp;omega) ((e6.trans x41)).size
   have x42:=aJ.of_grew ((e6.trans x41)) g42 (oO.ext x41).ge
   refine aW E E hr42 (ac E E (ag (aR (ab (aa (ae E E (ak (r:=I ((i+1:Nat):Int)) E E E (by have e:((i+1:Nat):Int)=(i:Int)+1:=(by omega);rw[e];exact aP (by omega) (by omega)) ?_)))))))
   refine ac E E (ag ?_)
   refine gA (i+1) (_) (_) (_) ⟨rfl,rfl,rfl,rfl,rfl,trivial⟩ ⟨x42,o42,by simp[hO],by omega,st.2,st.1⟩ (by omega)
 ·refine be (aK (aK (bf (ab (af ?_)))))
  have hil:i=l.length:=by omega
  have hOl:=cz O
  rw[hO,hil] at hOl
  have hml:val (m.take i)=val m∧d.toNat=0:=by
   have h1:=eh m (min i m.length) (by omega)
   have h2:m.take (min i m.length)=m.take i:=by
    rcases Nat.le_total i m.length with h|h
    ·rw[Nat.min_eq_left h]
    ·rw[Nat.min_eq_right h,List.take_of_length_le (Nat.le_refl _),List.take_of_length_le h]
   rw[h2] at h1
   have hll:=cz l
   rw[hil,List.take_length] at hinv
   have hz:val (m.drop (min i m.length))=0:=by
    rcases Nat.le_total i m.length with h|h
    ·rw[Nat.min_eq_left h] at h1⊢
     rcases Nat.eq_zero_or_pos (val (m.drop i)) with h0|h0
     ·exact h0
     ·have:4294967296^i*1≤4294967296^i*val (m.drop i):=Nat.mul_le_mul_left _ h0
      rw[hil] at this h1
      omega
    ·rw[Nat.min_eq_right h,List.drop_of_length_le (Nat.le_refl _)];rfl
   rw[hz,Nat.mul_zero,Nat.add_zero] at h1
   refine⟨h1.symm,?_⟩
   rcases(show d.toNat=0∨d.toNat=1 by omega) with h|h
   ·exact h
   ·rw[hil] at h1
    rw[h,Nat.mul_one,←h1] at hinv
    omega
  have hres:val l-val m=val O:=by
   rw[hml.1,hml.2,hil,List.take_length] at hinv
   omega
  refine aa (ae E E (an eK E E (wu oO.wds (by omega)) ?_))
  rintro v44 w44 ⟨x44,b44⟩
  refine ac E E (ac E E (ag (ab (aw (bn E E E ?_)))))
  exact⟨_,rfl,(e6.trans x44),_,rfl,by rw[hres];exact b44.low e6.size⟩
theorem DC {w:World} {l:List UInt32} {v:Value} {k:Nat} (hv:bi l v w) (hl:l.length≤1099511627776) (hk:k≤1099511627776):
 Calls Tryz.prog 188 #[v,I (k:Int)] w (bH fun r w'=>aJ w w'∧bi (lb (val l*2^k)) r w'):=by
 refine enter (vs:=[v,I (k:Int)]) Tryz.func188 E E E ?_
 refine af (aa (ac E E (ag (ab (af (aa (ae E E (ak (r:=I ((k/32:Nat):Int)) E E E (by have e:((k/32:Nat):Int)=(k:Int)/32:=(by omega);rw[e];exact qo (by omega) (by omega) (by omega)) ?_))))))))
 obtain⟨v10,w10,hr10,x10,o10,ob10⟩:=vY KY (w:=w) w.heap.size (n:=k/32) (by omega) (Nat.le_refl _)
 refine gY E E E hr10 (ac E E (ag (ab (af (aa (ac E E (ag (ab (af (af (aa (ac E E (ag (ab (aE ?_)))))))))))))))
 refine mf (fun(i:Nat) (vo:Value) (O:List UInt32) (c:UInt64)=>[(0,v),(1,I (k:Int)),(5,vo),(6,bS c),(7,I (i:Int))]) (fun(i:Nat) (vo:Value) (O:List UInt32) (c:UInt64) w'=>aJ w w'∧dV w.heap.size O vo w'∧O.length=k/32+i∧i≤l.length∧c.toNat<2^(k%32)∧val O+4294967296^(k/32+i)*c.toNat=val (l.take i)*(4294967296^(k/32)*2^(k%32))) (fun(i:Nat) (vo:Value) (O:List UInt32) (c:UInt64)=>l.length-i) (0) (v10) (List.replicate (k/32) 0) (0) ⟨rfl,rfl,rfl,rfl,rfl,trivial⟩ ⟨x10,o10,by simp,by simp,by simp;exact Nat.pow_pos (by omega),by simp[val,ru]⟩ ?_
 rintro i vo O c w4 ⟨e4,oO,hO,hi,hc,hinv⟩
 refine af (af (aa (ae E E (ae E E (aS E E (bw KE (hv.ext e4)) (ak E E E (bb) (ag (ab ?_))))))))
 refine bt E (fun h14=>?_) (fun h14=>?_)
 ·refine aC (ab (af (aE (af ?_))))
  have hlt:i<l.length:=by omega
  have st:=Dw (Nat.mod_lt k (show 0<32 by omega)) hlt hO hc hinv
  refine aa (ae E E (ae E E (ae E E ?_)))
  obtain⟨a20,p20,q20⟩:=cJ KE (hv.ext e4) (i:=i) (by omega) .i64
  refine au E E E (p20 _) (aj E E (ai KG E q20) (bc E E (bQ KG KM) ?_))
  refine ae E E (ak (r:=I ((k%32:Nat):Int)) E E E (by have e:((k%32:Nat):Int)=(k:Int)%32:=(by omega);rw[e];exact ox (by omega) (by omega)) ?_)
  refine ak E E E (fG ((k%32:Nat)) (by omega)) (ak E E E (i7) (ac E E (ag (ab (af (aa (ae E E (ae E E ?_))))))))
  refine bc E E (cC KM KG) ?_
  obtain⟨v30,w30,hr30,x30,o30,ob30⟩:=i8 Tryz.underlying43 (w:=w4) w4.heap.size [((((c)|||(((((l[i])).toUInt64)<<<UInt64.ofNat ((k%32:Nat)))))).toUInt32)] (by simp) (Nat.le_refl _)
  refine aG (vs:=[(0,bC (((((c)|||(((((l[i])).toUInt64)<<<UInt64.ofNat ((k%32:Nat)))))).toUInt32)))]) E E hr30 ?_
  obtain⟨v31,w31,hr31,o31,g31⟩:=kG Tryz.underlying43 (ty:=43) (oO.ext x30) o30.wds (by simp;omega) ((e4.trans x30)).size
  have x31:=aJ.of_grew ((e4.trans x30)) g31 (oO.ext x30).ge
  refine aW E E hr31 (ac E E (ag (ab (aa (ae E E (ak E E E (dj 32 (by omega)) (ac E E (ag (aR (ab (aa ?_)))))))))))
  refine ae E E (ak (r:=I ((i+1:Nat):Int)) E E E (by have e:((i+1:Nat):Int)=(i:Int)+1:=(by omega);rw[e];exact aP (by omega) (by omega)) ?_)
  refine ac E E (ag ?_)
  refine gA (i+1) (_) (_) (_) ⟨rfl,rfl,rfl,rfl,rfl,trivial⟩ ⟨x31,o31,by simp[hO];omega,by omega,st.2,st.1⟩ (by omega)
 ·refine be (aK (aK (bf (ab (af ?_)))))
  rw[mj _ (by omega)] at hinv
  have e32:4294967296^(k/32)*2^(k%32)=2^k:=by
   have h3:(4294967296:Nat)^(k/32)=2^(32*(k/32)):=by rw[Nat.pow_mul]
   rw[h3,←Nat.pow_add,Nat.div_add_mod]
  have hc1:c.toNat<4294967296:=Nat.lt_of_lt_of_le hc (Nat.pow_le_pow_right (show 0<2 by omega) (show k%32≤32 by omega))
  have hend:val (O++[c.toUInt32])=val l*2^k:=by
   rw[en,mg,hO,lA,Nat.mod_eq_of_lt hc1,hinv,e32]
  refine aa (ae E E (ae E E (bc E E (cC KM KG) ?_)))
  obtain⟨v37,w37,hr37,x37,o37,ob37⟩:=i8 Tryz.underlying43 (w:=w4) w4.heap.size [((c).toUInt32)] (by simp) (Nat.le_refl _)
  refine aG (vs:=[(0,bC (((c).toUInt32)))]) E E hr37 ?_
  obtain⟨v38,w38,hr38,o38,g38⟩:=kG Tryz.underlying43 (ty:=43) (oO.ext x37) o37.wds (by simp;omega) ((e4.trans x37)).size
  have x38:=aJ.of_grew ((e4.trans x37)) g38 (oO.ext x37).ge
  refine aW E E hr38 (an eK E E (fx o38.wds (by simp;omega)) ?_)
  rintro v39 w39 ⟨x39,b39⟩
  refine ac E E (ag (ab (aw (av E E ?_))))
  exact⟨_,rfl,(x38.trans x39),by rw[←hend];exact b39⟩
theorem Be {w:World} {l:List UInt32} {v:Value} (hv:bi l v w) (hl:l.length≤1099511627776):
 Calls Tryz.prog 187 #[v] w (bH fun r w'=>aJ w w'∧r=I ((bl (val l):Nat):Int)):=by
 refine enter (vs:=[v]) Tryz.func187 E E E ?_
 have hll:=gZ (cz l)
 refine af (aa (ac E E (ag (ab (af (aa (ae E E (an eK E E (fx hv (by omega)) ?_))))))))
 rintro v6 w6 ⟨x6,b6⟩
 refine ac E E (ag (ab (af (af (aa (ae E E (aS (r:=I ((lb (val l)).length:Int)) E E (bw KE b6) ?_)))))))
 refine ak E E E (a6) (ag (ab ?_))
 refine bt E (fun h9=>?_) (fun h9=>?_)
 ·refine af (aa (ac E E (ag (ab (aw (aD (av E E ?_)))))))
  exact⟨_,rfl,x6,by
   have:val l=0:=gH.1 (by omega)
   rw[this];rfl⟩
 ·refine aC (ab (af (aa (ae E E (aS (r:=I ((lb (val l)).length:Int)) E E (bw KE b6) (ak (r:=I (((lb (val l)).length-1:Nat):Int)) E E E (by have e:(((lb (val l)).length-1:Nat):Int)=((lb (val l)).length:Int)-1:=(by omega);rw[e];exact bB (by omega) (by omega)) ?_))))))
  refine ak (r:=I ((32*((lb (val l)).length-1:Nat):Nat):Int)) E E E (by have e:((32*((lb (val l)).length-1:Nat):Nat):Int)=32*(((lb (val l)).length-1:Nat):Int):=(by omega);rw[e];exact eZ (by omega) (by omega)) ?_
  refine ac E E (ag (ab (af (af (aa (ae E E (ae E E (aS (r:=I ((lb (val l)).length:Int)) E E (bw KE b6) ?_))))))))
  refine ak (r:=I (((lb (val l)).length-1:Nat):Int)) E E E (by have e:(((lb (val l)).length-1:Nat):Int)=((lb (val l)).length:Int)-1:=(by omega);rw[e];exact bB (by omega) (by omega)) ?_
  obtain⟨a18,p18,q18⟩:=cJ KE b6 (i:=((lb (val l)).length-1:Nat)) (by omega) .i64
  refine au E E E (p18 _) (aj E E (ai KG E q18) (ac E E (ag (ab (aE ?_)))))
  refine fb (fun(k:Nat) (x:UInt32)=>[(3,I (k:Int)),(4,bC x)]) (fun(k:Nat) (x:UInt32) w'=>w6=w'∧k+bl x.toNat=bl (val l)) (fun(k:Nat) (x:UInt32)=>x.toNat) (32*((lb (val l)).length-1)) ((lb (val l))[(lb (val l)).length-1]'(by omega)) ⟨rfl,rfl,trivial⟩ ⟨rfl,(Iv (by omega)).symm⟩ ?_
  rintro k x _ ⟨rfl,hinv⟩
  refine af (af (aa (ae E E (ak (v:=bC 0) E E E (vP) (ag (ab ?_))))))
  refine bt E (fun h21=>?_) (fun h21=>?_)
  ·have hx:0<x.toNat:=zM.1 h21
   have hb:=Hn hx
   have hs:(x>>>UInt32.ofNat 1).toNat=x.toNat/2:=qw x (s:=1) (by omega)
   have hbl:=wj (n:=val l) (k:=32*l.length) (by have:=cz l;rwa [show(4294967296:Nat)^l.length=2^(32*l.length) by rw[Nat.pow_mul]] at this)
   refine aC (ab (af (aE (aa (ae E E (ak (r:=I ((k+1:Nat):Int)) E E E (by have e:((k+1:Nat):Int)=(k:Int)+1:=(by omega);rw[e];exact aP (by omega) (by omega)) ?_))))))
   refine ac E E (ag (aR (ab (aa (ae E E (ak E E E (cI 1 (by omega)) (ac E E (ag ?_))))))))
   refine dv (k+1) (_) ⟨rfl,rfl,trivial⟩ ⟨rfl,by rw[hs];omega⟩ (by omega)
  ·refine be (aK (aK (bf (ab (af (aa (ae E E (ac E E (ag (ab (aw (av E E ?_))))))))))))
   exact⟨_,rfl,x6,by
    have hx:x.toNat=0:=by
     have:=mt (zM (a:=0) (b:=x)).2 h21
     have e:(0:UInt32).toNat=0:=rfl
     omega
    rw[hx,Cv,Nat.add_zero] at hinv
    rw[hinv]⟩
end Go.Rl
namespace Go.Rl
open Go.RowKit Go.Proofs
theorem DD:aH Tryz.prog 203:=⟨_,Tryz.func203,by kernel_rfl,rfl⟩
theorem DE:aH Tryz.prog 202:=⟨_,Tryz.func202,by kernel_rfl,rfl⟩
theorem top2 {m:List UInt32} {k:Nat} (h:m.length=k+2):val m=((m[k+1]'(by omega)).toNat*4294967296+(m[k]'(by omega)).toNat)*4294967296^k+val (m.take k):=by
 rw[eh m k (by omega),eG (show k<m.length by omega),eG (show k+1<m.length by omega),List.drop_of_length_le (show m.length≤k+1+1 by omega),Nat.mul_comm (4294967296^k),Nat.add_comm]
 congr 2
 simp only[val]
 omega
theorem top3 {m:List UInt32} {k:Nat} (h:m.length=k+3):val m=(((m[k+2]'(by omega)).toNat*4294967296+(m[k+1]'(by omega)).toNat)*4294967296+(m[k]'(by omega)).toNat)*4294967296^k+val (m.take k):=by
 rw[eh m k (by omega),eG (show k<m.length by omega),eG (show k+1<m.length by omega),eG (show k+1+1<m.length by omega),List.drop_of_length_le (show m.length≤k+1+1+1 by omega),Nat.mul_comm (4294967296^k),Nat.add_comm]
 congr 2
 simp only[val,Nat.add_assoc,Nat.reduceAdd]
 omega
theorem ub {a b:UInt64}:a≥b↔b.toNat≤a.toNat:=UInt64.le_iff_toNat_le
theorem Bf {a b:UInt64}:a>b↔b.toNat<a.toNat:=UInt64.lt_iff_toNat_lt
theorem DF {w:World} {L m:List UInt32} {u v:Value} {k:Nat} (hu:bi L u w) (hv:bi m v w) (hm:m.length=k+2) (hL:L.length=k+3) (hk:k≤1099511627776) (h1:0<(m[k+1]'(by omega)).toNat) (hUV:val L<4294967296*val m):
 Calls Tryz.prog 203 #[u,v] w (bH fun r w'=>aJ w w'∧∃q:UInt64,r=bS q∧q.toNat<4294967296∧(q.toNat-1)*val m≤val L∧val L<(q.toNat+1)*val m):=by
 refine enter (vs:=[u,v]) Tryz.func203 E E E ?_
 have tV:=top2 hm
 have tU:=top3 hL
 have hPk:=J9 k
 have hVl:=cz (m.take k)
 have hUl:=cz (L.take k)
 rw[List.length_take,Nat.min_eq_left (by omega)] at hVl hUl
 have b0:=cK (L[k]'(by omega))
 have b1:=cK (L[k+1]'(by omega))
 have b2:=cK (L[k+2]'(by omega))
 have c1:=cK (m[k+1]'(by omega))
 have c0:=cK (m[k]'(by omega))
 have hV0:0<val m:=by
  rw[tV]
  have:=Nat.mul_le_mul_right (4294967296^k) (show 1≤(m[k+1]'(by omega)).toNat*4294967296+(m[k]'(by omega)).toNat by omega)
  omega
 have hu0:(L[k+2]'(by omega)).toNat≤(m[k+1]'(by omega)).toNat:=by
  rcases Nat.lt_or_ge (m[k+1]'(by omega)).toNat (L[k+2]'(by omega)).toNat with h|h
  ·have e1:((m[k+1]'(by omega)).toNat*4294967296+(m[k]'(by omega)).toNat+1)*4294967296^k*4294967296≤(((L[k+2]'(by omega)).toNat*4294967296+(L[k+1]'(by omega)).toNat)*4294967296+(L[k]'(by omega)).toNat)*4294967296^k:=by
    rw[Nat.mul_assoc,Nat.mul_comm (4294967296^k),←Nat.mul_assoc]
    exact Nat.mul_le_mul_right _ (by omega)
   rw[Nat.add_mul _ 1] at e1
   omega
  ·exact h
 have hd0:(m[k+1]'(by omega)).toUInt64≠0:=fun h=>by
  have:=congrArg UInt64.toNat h
  rw[fD] at this
  simp at this
  omega
 have n01:=tW (L[k+2]'(by omega)).toUInt64 (L[k+1]'(by omega)) (by rw[fD];exact b2)
 rw[fD] at n01
 refine af (aa (ac E E (ag (ab (af (aa (ae E E (aS (r:=I ((k+2:Nat):Int)) E E ((by rw[←hm];exact bw KE hv)) ?_))))))))
 refine ac E E (ag (ab (af (bD 13 [0,1,5,23] (by kernel_rfl) (by kernel_rfl) ?_))))
 refine ay E E (ay E E ?_)
 obtain⟨a13,p13,q13⟩:=cJ KE hu (i:=(k+2:Nat)) (by omega) .i64
 refine aA E E E (fun w _=>p13 w) (aN E E (fun w hw=>ai KG E (hw.cell_some q13)) (dT E E (fun w _=>bQ KG KM) ?_))
 refine ba (v:=bS 32) E E E (fun w _=>fG 32 (by omega)) (ay E E (ay E E (ba (r:=I ((k+1:Nat):Int)) E E E (fun w _=>by have e:((k+1:Nat):Int)=((k+2:Nat):Int)-1:=(by omega);rw[e];exact bB (by omega) (by omega)) ?_)))
 obtain⟨a20,p20,q20⟩:=cJ KE hu (i:=(k+1:Nat)) (by omega) .i64
 refine aA E E E (fun w _=>p20 w) (aN E E (fun w hw=>ai KG E (hw.cell_some q20)) (dT E E (fun w _=>bQ KG KM) ?_))
 refine ba E E E (fun w _=>i7) (cb ?_)
 intro wg2 xg2
 rintro _ hq0
 obtain rfl:=Eq.symm hq0
 rintro _ hq1
 obtain rfl:=Eq.symm hq1
 rintro _ rfl
 rintro _ rfl
 refine ac E E (ag (ab (af (bD 17 [0,1,5,7,39] (by kernel_rfl) (by kernel_rfl) ?_))))
 refine ay E E (ay E E (ay E E (ba (r:=I ((k+1:Nat):Int)) E E E (fun w _=>by have e:((k+1:Nat):Int)=((k+2:Nat):Int)-1:=(by omega);rw[e];exact bB (by omega) (by omega)) ?_)))
 obtain⟨a28,p28,q28⟩:=cJ KE (hv.ext xg2) (i:=(k+1:Nat)) (by omega) .i64
 refine aA E E E (fun w _=>p28 w) (aN E E (fun w hw=>ai KG E (hw.cell_some q28)) (dT E E (fun w _=>bQ KG KM) ?_))
 refine ba E E E (fun w _=>lr hd0) (ay E E (ay E E (ay E E (ba (r:=I ((k+1:Nat):Int)) E E E (fun w _=>by have e:((k+1:Nat):Int)=((k+2:Nat):Int)-1:=(by omega);rw[e];exact bB (by omega) (by omega)) ?_))))
 obtain⟨a36,p36,q36⟩:=cJ KE (hv.ext xg2) (i:=(k+1:Nat)) (by omega) .i64
 refine aA E E E (fun w _=>p36 w) (aN E E (fun w hw=>ai KG E (hw.cell_some q36)) (dT E E (fun w _=>bQ KG KM) ?_))
 refine ba E E E (fun w _=>lu hd0) (fO E E (cb ?_))
 intro wg3 xg3
 rintro _ hq0
 obtain rfl:=Eq.symm hq0
 rintro _ hq1
 obtain rfl:=Eq.symm hq1
 rintro _ rfl
 rintro _ rfl
 rintro _ rfl
 refine ac E E (ag (ab (af (aE ?_))))
 refine fb (fun(q:UInt64) (r:UInt64)=>[(0,u),(1,v),(5,I ((k+2:Nat):Int)),(7,bS q),(8,bS r)]) (fun(q:UInt64) (r:UInt64) w'=>aJ w w'∧q.toNat*(m[k+1]'(by omega)).toNat+r.toNat=(L[k+2]'(by omega)).toNat*4294967296+(L[k+1]'(by omega)).toNat∧r.toNat<4294967296∧∀Q,Q*val m≤val L→Q≤q.toNat) (fun(q:UInt64) (r:UInt64)=>q.toNat) (_) (_) ⟨rfl,rfl,rfl,rfl,rfl,trivial⟩ ⟨(xg2.trans xg3),by rw[UInt64.toNat_div,UInt64.toNat_mod,n01,fD,Nat.mul_comm];exact Nat.div_add_mod _ _,by rw[UInt64.toNat_mod,n01,fD];have:=Nat.mod_lt ((L[k+2]'(by omega)).toNat*4294967296+(L[k+1]'(by omega)).toNat) h1;omega,fun Q hQ=>by
  rw[UInt64.toNat_div,n01,fD]
  refine IX (V:=val m) (U:=val L) (P:=4294967296^k*4294967296) ?_ ?_ h1 hQ
  ·rw[tV,Nat.mul_comm (4294967296^k),←Nat.mul_assoc]
   have:=Nat.mul_le_mul_right (4294967296^k) (Nat.le_add_right ((m[k+1]'(by omega)).toNat*4294967296) (m[k]'(by omega)).toNat)
   omega
  ·rw[tU,Nat.mul_comm (4294967296^k),←Nat.mul_assoc]
   have:=Nat.mul_le_mul_right (4294967296^k) (show((L[k+2]'(by omega)).toNat*4294967296+(L[k+1]'(by omega)).toNat)*4294967296+(L[k]'(by omega)).toNat+1≤((L[k+2]'(by omega)).toNat*4294967296+(L[k+1]'(by omega)).toNat+1)*4294967296 by omega)
   rw[Nat.add_mul _ 1] at this
   omega⟩ ?_
 rintro q r w4 ⟨e4,hqr,hr,hup⟩
 refine af (af ?_)
 by_cases h41:q≥4294967296
 ·refine bD 21 [0,1,5,7,8,42,60] (by kernel_rfl) (by kernel_rfl) ?_
  refine ay E E (ba (v:=bS 4294967296) E E E (fun w _=>cR h41 jE) (ay E E (jw E E E (jw E E E (jw E E E (jw E E E ?_))))))
  refine jw E E E (jw E E E (jw E E E (jw E E E (jw E E E (jw E E E (jw E E E (jw E E E (jw E E E (jw E E E ?_)))))))))
  refine jw E E E (jw E E E (jw E E E (jw E E E (cb ?_))))
  intro wg4 xg4
  rintro _ hq0
  obtain rfl:=Eq.symm hq0
  rintro _ hq1
  obtain rfl:=Eq.symm hq1
  rintro _ rfl
  rintro _ rfl
  rintro _ rfl
  rintro _ rfl
  rintro _ rfl
  refine ar E E E (ag (ab (bg E (aC (ab (aE (af (aa ?_))))))))
  have hlo:∀Q,Q*val m≤val L→Q+1≤q.toNat:=by
   intro Q hQ
   first
   |(have h41':4294967296≤q.toNat:=ub.1 h41
     have h2:Q*val m<4294967296*val m:=by omega
     have:=Nat.lt_of_mul_lt_mul_right h2
     omega)
   |(have h41':q.toNat<4294967296:=Nat.lt_of_not_le fun h=>h41 (ub.2 h)
     have h61':=Bf.1 h61
     have hp:q.toNat*(m[k]'(by omega)).toNat≤4294967295*4294967295:=Nat.mul_le_mul (by omega) (by omega)
     rw[tW r _ hr,wi,fD,Nat.mod_eq_of_lt (by omega)] at h61'
     have h2:=zP tV tU hUl hqr h61'
     have h3:Q*val m<q.toNat*val m:=by omega
     exact Nat.lt_of_mul_lt_mul_right h3)
  have hq0:=hlo 0 (by simp)
  have hq1:(q-1).toNat=q.toNat-1:=by
   have:=A7 q
   rw[qx]
   show(18446744073709551616-1+q.toNat)%18446744073709551616=_
   omega
  have hr1:(r+(m[k+1]'(by omega)).toUInt64).toNat=r.toNat+(m[k+1]'(by omega)).toNat:=by rw[ph,fD];omega
  have hqr1:(q-1).toNat*(m[k+1]'(by omega)).toNat+(r+(m[k+1]'(by omega)).toUInt64).toNat=(L[k+2]'(by omega)).toNat*4294967296+(L[k+1]'(by omega)).toNat:=by
   rw[hq1,hr1,←hqr]
   obtain⟨p,hp⟩:∃p,q.toNat=p+1:=⟨q.toNat-1,by omega⟩
   rw[hp,Nat.add_sub_cancel,Nat.add_mul];omega
  have hup1:∀Q,Q*val m≤val L→Q≤(q-1).toNat:=fun Q hQ=>by
   have:=hlo Q hQ
   omega
  refine ae E E (ak (v:=bS 1) E E E (dQ) (ac E E (ag (ab (af (aa (ae E E (ae E E (ae E E (ak (r:=I ((k+1:Nat):Int)) E E E (by have e:((k+1:Nat):Int)=((k+2:Nat):Int)-1:=(by omega);rw[e];exact bB (by omega) (by omega)) ?_))))))))))
  obtain⟨a68,p68,q68⟩:=cJ KE (hv.ext (e4.trans xg4)) (i:=(k+1:Nat)) (by omega) .i64
  refine au E E E (p68 _) (aj E E (ai KG E q68) (bc E E (bQ KG KM) ?_))
  refine ak E E E (dP) (ac E E (ag (ab (af (aa (ae E E (ak (v:=bS 4294967296) E E E (jE) (ag (ab ?_)))))))))
  refine bt E (fun h73=>?_) (fun h73=>?_)
  ·have h73':4294967296≤(r+(m[k+1]'(by omega)).toUInt64).toNat:=ub.1 h73
   have hB:=Fl hu0 b1 hqr1 h73'
   refine be (vM E (aK (bf (ab (af (aa (ae E E (ac E E (ag (ab (aw (av E E ?_))))))))))))
   first
   |exact⟨_,rfl,(e4.trans xg4),_,rfl,hB,oB tV tU hVl h1 c0 hB hqr1 (.inl h73'),Nat.lt_of_not_le fun h=>absurd (hup1 _ h) (by omega)⟩
   |(have h41':q.toNat<4294967296:=Nat.lt_of_not_le fun h=>h41 (ub.2 h)
     have h61':(q*(m[k]'(by omega)).toUInt64).toNat≤(r<<<UInt64.ofNat 32|||(L[k]'(by omega)).toUInt64).toNat:=Nat.le_of_not_lt fun h=>h61 (Bf.2 h)
     have hp:q.toNat*(m[k]'(by omega)).toNat≤4294967295*4294967295:=Nat.mul_le_mul (by omega) (by omega)
     rw[tW r _ hr,wi,fD,Nat.mod_eq_of_lt (by omega)] at h61'
     exact⟨_,rfl,(e4.trans xg4),_,rfl,h41',oB tV tU hVl h1 c0 h41' hqr (.inr h61'),Nat.lt_of_not_le fun h=>absurd (hup _ h) (by omega)⟩)
  ·have h73':(r+(m[k+1]'(by omega)).toUInt64).toNat<4294967296:=Nat.lt_of_not_le fun h=>h73 (ub.2 h)
   refine aC (aR ?_)
   refine dv (q-1) (r+(m[k+1]'(by omega)).toUInt64) ⟨rfl,rfl,rfl,rfl,rfl,trivial⟩ ⟨(e4.trans xg4),hqr1,h73',hup1⟩ (by show(q-1).toNat<q.toNat;omega)
 ·refine bD 21 [0,1,5,7,8,42,60] (by kernel_rfl) (by kernel_rfl) ?_
  refine ay E E (ba (v:=bS 4294967296) E E E (fun w _=>dn h41 jE) (ay E E (bU E E (ay E E (bU E E (ay E E ?_))))))
  refine bU E E (ay E E (bU E E (ba (r:=I ((k:Nat):Int)) E E E (fun w _=>by have e:((k:Nat):Int)=((k+2:Nat):Int)-2:=(by omega);rw[e];exact bB (by omega) (by omega)) ?_)))
  refine bU E E ?_
  obtain⟨a47,p47,q47⟩:=cJ KE (hv.ext e4) (i:=(k:Nat)) (by omega) .i64
  refine aA E E E (fun w _=>p47 w) (bU E E (aN E E (fun w hw=>ai KG E (hw.cell_some q47)) (bU E E ?_)))
  refine dT E E (fun w _=>bQ KG KM) (bU E E (ba E E E (fun w _=>iI) (bU E E ?_)))
  refine ay E E (bU E E (ba (v:=bS 32) E E E (fun w _=>fG 32 (by omega)) (bU E E (ay E E (bU E E (ay E E (bU E E ?_)))))))
  refine ba (r:=I ((k:Nat):Int)) E E E (fun w _=>by have e:((k:Nat):Int)=((k+2:Nat):Int)-2:=(by omega);rw[e];exact bB (by omega) (by omega)) ?_
  refine bU E E ?_
  obtain⟨a56,p56,q56⟩:=cJ KE (hu.ext e4) (i:=(k:Nat)) (by omega) .i64
  refine aA E E E (fun w _=>p56 w) (bU E E (aN E E (fun w hw=>ai KG E (hw.cell_some q56)) (bU E E ?_)))
  refine dT E E (fun w _=>bQ KG KM) (bU E E (ba E E E (fun w _=>i7) (bU E E ?_)))
  refine ba E E E (fun w _=>cS) (cb ?_)
  intro wg4 xg4
  rintro _ hq0
  obtain rfl:=Eq.symm hq0
  rintro _ hq1
  obtain rfl:=Eq.symm hq1
  rintro _ rfl
  rintro _ rfl
  rintro _ rfl
  rintro _ rfl
  rintro _ rfl
  refine aI E E E (ag (ab ?_))
  refine bt E (fun h61=>?_) (fun h61=>?_)
  ·refine aC (ab (aE (af (aa ?_))))
   have hlo:∀Q,Q*val m≤val L→Q+1≤q.toNat:=by
    intro Q hQ
    first
    |(have h41':4294967296≤q.toNat:=ub.1 h41
      have h2:Q*val m<4294967296*val m:=by omega
      have:=Nat.lt_of_mul_lt_mul_right h2
      omega)
    |(have h41':q.toNat<4294967296:=Nat.lt_of_not_le fun h=>h41 (ub.2 h)
      have h61':=Bf.1 h61
      have hp:q.toNat*(m[k]'(by omega)).toNat≤4294967295*4294967295:=Nat.mul_le_mul (by omega) (by omega)
      rw[tW r _ hr,wi,fD,Nat.mod_eq_of_lt (by omega)] at h61'
      have h2:=zP tV tU hUl hqr h61'
      have h3:Q*val m<q.toNat*val m:=by omega
      exact Nat.lt_of_mul_lt_mul_right h3)
   have hq0:=hlo 0 (by simp)
   have hq1:(q-1).toNat=q.toNat-1:=by
    have:=A7 q
    rw[qx]
    show(18446744073709551616-1+q.toNat)%18446744073709551616=_
    omega
   have hr1:(r+(m[k+1]'(by omega)).toUInt64).toNat=r.toNat+(m[k+1]'(by omega)).toNat:=by rw[ph,fD];omega
   have hqr1:(q-1).toNat*(m[k+1]'(by omega)).toNat+(r+(m[k+1]'(by omega)).toUInt64).toNat=(L[k+2]'(by omega)).toNat*4294967296+(L[k+1]'(by omega)).toNat:=by
    rw[hq1,hr1,←hqr]
    obtain⟨p,hp⟩:∃p,q.toNat=p+1:=⟨q.toNat-1,by omega⟩
    rw[hp,Nat.add_sub_cancel,Nat.add_mul];omega
   have hup1:∀Q,Q*val m≤val L→Q≤(q-1).toNat:=fun Q hQ=>by
    have:=hlo Q hQ
    omega
   refine ae E E (ak (v:=bS 1) E E E (dQ) (ac E E (ag (ab (af (aa (ae E E (ae E E (ae E E (ak (r:=I ((k+1:Nat):Int)) E E E (by have e:((k+1:Nat):Int)=((k+2:Nat):Int)-1:=(by omega);rw[e];exact bB (by omega) (by omega)) ?_))))))))))
   obtain⟨a68,p68,q68⟩:=cJ KE (hv.ext (e4.trans xg4)) (i:=(k+1:Nat)) (by omega) .i64
   refine au E E E (p68 _) (aj E E (ai KG E q68) (bc E E (bQ KG KM) ?_))
   refine ak E E E (dP) (ac E E (ag (ab (af (aa (ae E E (ak (v:=bS 4294967296) E E E (jE) (ag (ab ?_)))))))))
   refine bt E (fun h73=>?_) (fun h73=>?_)
   ·have h73':4294967296≤(r+(m[k+1]'(by omega)).toUInt64).toNat:=ub.1 h73
    have hB:=Fl hu0 b1 hqr1 h73'
    refine be (vM E (aK (bf (ab (af (aa (ae E E (ac E E (ag (ab (aw (av E E ?_))))))))))))
    first
    |exact⟨_,rfl,(e4.trans xg4),_,rfl,hB,oB tV tU hVl h1 c0 hB hqr1 (.inl h73'),Nat.lt_of_not_le fun h=>absurd (hup1 _ h) (by omega)⟩
    |(have h41':q.toNat<4294967296:=Nat.lt_of_not_le fun h=>h41 (ub.2 h)
      have h61':(q*(m[k]'(by omega)).toUInt64).toNat≤(r<<<UInt64.ofNat 32|||(L[k]'(by omega)).toUInt64).toNat:=Nat.le_of_not_lt fun h=>h61 (Bf.2 h)
      have hp:q.toNat*(m[k]'(by omega)).toNat≤4294967295*4294967295:=Nat.mul_le_mul (by omega) (by omega)
      rw[tW r _ hr,wi,fD,Nat.mod_eq_of_lt (by omega)] at h61'
      exact⟨_,rfl,(e4.trans xg4),_,rfl,h41',oB tV tU hVl h1 c0 h41' hqr (.inr h61'),Nat.lt_of_not_le fun h=>absurd (hup _ h) (by omega)⟩)
   ·have h73':(r+(m[k+1]'(by omega)).toUInt64).toNat<4294967296:=Nat.lt_of_not_le fun h=>h73 (ub.2 h)
    refine aC (aR ?_)
    refine dv (q-1) (r+(m[k+1]'(by omega)).toUInt64) ⟨rfl,rfl,rfl,rfl,rfl,trivial⟩ ⟨(e4.trans xg4),hqr1,h73',hup1⟩ (by show(q-1).toNat<q.toNat;omega)
  ·refine be (aK (aK (bf (ab (af (aa (ae E E (ac E E (ag (ab (aw (av E E ?_))))))))))))
   first
   |exact⟨_,rfl,(e4.trans xg4),_,rfl,hB,oB tV tU hVl h1 c0 hB hqr1 (.inl h73'),Nat.lt_of_not_le fun h=>absurd (hup1 _ h) (by omega)⟩
   |(have h41':q.toNat<4294967296:=Nat.lt_of_not_le fun h=>h41 (ub.2 h)
     have h61':(q*(m[k]'(by omega)).toUInt64).toNat≤(r<<<UInt64.ofNat 32|||(L[k]'(by omega)).toUInt64).toNat:=Nat.le_of_not_lt fun h=>h61 (Bf.2 h)
     have hp:q.toNat*(m[k]'(by omega)).toNat≤4294967295*4294967295:=Nat.mul_le_mul (by omega) (by omega)
     rw[tW r _ hr,wi,fD,Nat.mod_eq_of_lt (by omega)] at h61'
     exact⟨_,rfl,(e4.trans xg4),_,rfl,h41',oB tV tU hVl h1 c0 h41' hqr (.inr h61'),Nat.lt_of_not_le fun h=>absurd (hup _ h) (by omega)⟩)
end Go.Rl
namespace Go.Rl
open Go.RowKit Go.Proofs
theorem DG {w:World} {g:Nat} {pre post:List Value} {L m:List UInt32} {u v:Value} {q:UInt64} (hu:PW g pre L post u w) (hv:bi m v w) (ha:v.ownBlock=none∨v.ownBlock≠some g) (hL:L.length=m.length+1) (hm:m.length≤1099511627776)
 (hq:q.toNat<4294967296) (h1:(q.toNat-1)*val m≤val L) (h2:val L<(q.toNat+1)*val m):
 Calls Tryz.prog 202 #[u,v,bS q] w (bH fun r w'=>∃x F,r=bC x∧w.grownBy w' (some g)∧PW g pre F post u w'∧F.length=L.length∧val L=x.toNat*val m+val F∧val F<val m):=by
 refine enter (vs:=[u,v,bS q]) Tryz.func202 E E E ?_
 refine af (aa (ac E E (ag (ab (af (aa (ac E E (ac E E (ag (ab (af (af (aa (ae E E (aS E E (bw KE hv) ?_)))))))))))))))
 refine ae E E (ag (ab (aE ?_)))
 refine mf (fun(i:Nat) (M:List UInt32) (c:UInt64) (b:UInt64)=>[(0,u),(1,v),(2,bS q),(7,bS c),(8,bS b),(15,v),(16,I (m.length:Int)),(17,I (i:Int))]) (fun(i:Nat) (M:List UInt32) (c:UInt64) (b:UInt64) w'=>w.grownBy w' (some g)∧PW g pre M post u w'∧M.length=L.length∧i≤m.length∧M.drop i=L.drop i∧c.toNat<4294967296∧b.toNat≤1∧val (L.take i)+4294967296^i*(c.toNat+b.toNat)=val (M.take i)+q.toNat*val (m.take i)) (fun(i:Nat) (M:List UInt32) (c:UInt64) (b:UInt64)=>m.length-i) (0) (L) (0) (0) ⟨rfl,rfl,rfl,rfl,rfl,rfl,rfl,rfl,trivial⟩ ⟨dZ (aJ.refl _),hu,rfl,by simp,rfl,by simp,by simp,by simp[val]⟩ ?_
 rintro i M c b w3 ⟨q3,pM,hM,hi,hMi,hc,hb,hinv⟩
 refine af ?_
 have v3:=hv.away ha q3
 refine aa (ak E E E (bb) (ag (ab (af ?_))))
 refine bt E (fun h18=>?_) (fun h18=>?_)
 ·refine aC (ab (af (aE (af (aa (ae E E ?_))))))
  obtain⟨a20,p20,q20⟩:=cJ KE v3 (i:=i) (by omega) .i64
  refine au E E E (p20 _) (aj E E (ai KG E q20) (ac E E (ac E E (ag (ab (af (aa (ae E E ?_))))))))
  refine ae E E (ae E E (bc E E (bQ KG KM) (ak E E E (iI) (ak E E E (dP) ?_))))
  refine ac E E (ag (ab (af (aa (ae E E (ae E E ?_))))))
  obtain⟨a30,p30,q30⟩:=cJ KE pM.wds (i:=i) (by omega) .i64
  refine au E E E (p30 _) (aj E E (ai KG E q30) (bc E E (bQ KG KM) ?_))
  refine ae E E (bc E E (cC KM KG) (bc E E (bQ KG KM) ?_))
  refine ak E E E (dQ) (ae E E (ak E E E (dQ) (ac E E (ag (ab (af (aa (ae E E (ae E E (ae E E ?_))))))))))
  refine bc E E (cC KM KG) ?_
  obtain⟨w43,p43,s43,pN,q43,c43⟩:=pM.setP KE (i:=i) (by omega) ((((((((M[i])).toUInt64)-(((((c)+(((q)*(((m[i])).toUInt64))))).toUInt32).toUInt64)))-(b)))).toUInt32
  refine au E E E (p43 _) (ax E E (s43) (ag (ab (af (aa (ae E E (ak E E E (dj 63 (by omega)) (ac E E (ag ?_)))))))))
  refine ab (aa (ae E E (ak E E E (dj 32 (by omega)) (ac E E (ag (aR (ab (aa (ak (r:=I ((i+1:Nat):Int)) E E E (by have e:((i+1:Nat):Int)=(i:Int)+1:=(by omega);rw[e];exact aP (by omega) (by omega)) ?_)))))))))
  refine ae E E (ag ?_)
  have st:=Fm (L:=L) (v:=m) (M:=M) (i:=i) (q:=q) (c:=c) (b:=b) (by omega) (by omega) hM hq hc hb hMi hinv rfl
  refine gA (i+1) (_) (_) (_) ⟨rfl,rfl,rfl,rfl,rfl,rfl,rfl,rfl,trivial⟩ ⟨q3.trans q43,pN,by simpa using hM,by omega,st.1,st.2.1,st.2.2.1,st.2.2.2⟩ (by omega)
 ·refine be (aK (aK (bf (ab (af ?_)))))
  obtain rfl:i=m.length:=by omega
  refine aa (ae E E (ae E E (aS E E (bw KE v3) ?_)))
  obtain⟨a52,p52,q52⟩:=cJ KE pM.wds (i:=m.length) (by omega) .i64
  refine au E E E (p52 _) (aj E E (ai KG E q52) (bc E E (bQ KG KM) ?_))
  refine ae E E (ak E E E (dQ) (ae E E (ak E E E (dQ) (ac E E (ag (ab (af (aa (ae E E (ae E E ?_))))))))))
  refine aS E E (bw KE v3) (ae E E (bc E E (cC KM KG) ?_))
  obtain⟨w64,p64,s64,pN,q64,c64⟩:=pM.setP KE (i:=m.length) (by omega) ((((((((M[m.length])).toUInt64)-(c)))-(b)))).toUInt32
  refine au E E E (p64 _) (ax E E (s64) ?_)
  have v64:=v3.away ha q64
  have tp:=Hl (q:=q) hL hM hc hb hMi hinv rfl
  have h63:=sG ((((((((M[m.length])).toUInt64)-(c)))-(b)))) (s:=63) (by omega)
  simp only[Nat.reducePow] at h63
  have hNl:(M.set m.length ((((((((M[m.length])).toUInt64)-(c)))-(b)))).toUInt32).length=L.length:=by simpa using hM
  have hFl:=cz (M.set m.length ((((((((M[m.length])).toUInt64)-(c)))-(b)))).toUInt32)
  generalize M.set m.length ((((((((M[m.length])).toUInt64)-(c)))-(b)))).toUInt32=N at pN tp hNl hFl
  generalize hX:(((((((M[m.length])).toUInt64)-(c)))-(b)))=X at tp h63
  refine ag (ab (af (af (aa (ae E E (ak E E E (dj 63 (by omega)) (ak (v:=bS 0) E E E (lw) (ag (ab ?_)))))))))
  refine bt E (fun h67=>?_) (fun h67=>?_)
  ·rw[h67] at h63
   rw[←h63] at tp
   refine af (aa (ae E E (bc E E (cC KM KG) (ac E E (ag (ab (aw (aD (av E E ?_)))))))))
   exact⟨_,rfl,q.toUInt32,N,rfl,q3.trans q64,pN,hNl,by
    have e:q.toUInt32.toNat=q.toNat:=by rw[lA];omega
    have:=tp.1
    rw[e]
    simp at this
    omega,by
    have:=tp.1
    rw[Nat.add_mul,Nat.one_mul] at h2
    simp at this
    omega⟩
  ·have hs:X.toNat/9223372036854775808=1:=by
    rcases Nat.eq_zero_or_pos (X.toNat/9223372036854775808) with h|h
    ·exact absurd (Fq (h63.trans h)) h67
    ·have:=tp.2
     omega
   rw[hs,Nat.mul_one] at tp
   refine aC (ab (af (aa (ac E E (ag (ab (af (af (aa (ae E E (aS E E (bw KE v64) (ae E E ?_))))))))))))
   refine ag (ab (aE ?_))
   refine jx (fun(i:Nat) (K:List UInt32) (d:UInt64)=>[(0,u),(1,v),(2,bS q),(7,bS d),(70,v),(71,I (m.length:Int)),(72,I (i:Int))]) (fun(i:Nat) (K:List UInt32) (d:UInt64) w'=>w.grownBy w' (some g)∧PW g pre K post u w'∧K.length=L.length∧i≤m.length∧K.drop i=N.drop i∧d.toNat≤1∧val (K.take i)+4294967296^i*d.toNat=val (N.take i)+val (m.take i)) (fun(i:Nat) (K:List UInt32) (d:UInt64)=>m.length-i) (0) (N) (0) ⟨rfl,rfl,rfl,rfl,rfl,rfl,rfl,trivial⟩ ⟨q3.trans q64,pN,hNl,by simp,rfl,by simp,by simp[val]⟩ ?_
   rintro i K d w17 ⟨q17,pK,hK,hi,hKi,hd,hinv2⟩
   refine af ?_
   have v17:=hv.away ha q17
   refine aa (ak E E E (bb) (ag (ab (af ?_))))
   refine bt E (fun h73=>?_) (fun h73=>?_)
   ·refine aC (ab (af (aE (af (aa (ae E E ?_))))))
    obtain⟨a75,p75,q75⟩:=cJ KE v17 (i:=i) (by omega) .i64
    refine au E E E (p75 _) (aj E E (ai KG E q75) (ac E E (ac E E (ag (ab (af (aa (ae E E ?_))))))))
    refine ae E E (ae E E ?_)
    obtain⟨a80,p80,q80⟩:=cJ KE pK.wds (i:=i) (by omega) .i64
    refine au E E E (p80 _) (aj E E (ai KG E q80) (bc E E (bQ KG KM) ?_))
    refine ae E E (bc E E (bQ KG KM) (ak E E E (dP) (ak E E E (dP) (ac E E ?_))))
    refine ag (ab (af (aa (ae E E (ae E E (ae E E (bc E E (cC KM KG) ?_)))))))
    obtain⟨w91,p91,s91,pK',q91,c91⟩:=pK.setP KE (i:=i) (by omega) ((((d)+(((((K[i])).toUInt64)+(((m[i])).toUInt64)))))).toUInt32
    refine au E E E (p91 _) (ax E E (s91) (ag (ab (aa (ae E E (ak E E E (dj 32 (by omega)) (ac E E (ag (aR ?_)))))))))
    refine ab (aa (ak (r:=I ((i+1:Nat):Int)) E E E (by have e:((i+1:Nat):Int)=(i:Int)+1:=(by omega);rw[e];exact aP (by omega) (by omega)) ?_))
    refine ae E E (ag ?_)
    have st:=Fo (L:=N) (v:=m) (M:=K) (i:=i) (c:=d) (by omega) (by omega) (by omega) hd hKi hinv2
    refine gz (i+1) (_) (_) ⟨rfl,rfl,rfl,rfl,rfl,rfl,rfl,trivial⟩ ⟨q17.trans q91,pK',by simpa using hK,by omega,st.1,st.2.1,st.2.2⟩ (by omega)
   ·refine be (aK (aK (bf (ab (af ?_)))))
    obtain rfl:i=m.length:=by omega
    refine aa (ae E E (ae E E (aS E E (bw KE v17) ?_)))
    obtain⟨a98,p98,q98⟩:=cJ KE pK.wds (i:=m.length) (by omega) .i64
    refine au E E E (p98 _) (aj E E (ai KG E q98) (ae E E (bc E E (cC KM KG) ?_)))
    refine ak E E E (cA) ?_
    obtain⟨w103,p103,s103,pK',q103,c103⟩:=pK.setP KE (i:=m.length) (by omega) (K[m.length]'(by omega)+d.toUInt32)
    refine au E E E (p103 _) (ax E E (s103) (ag (ab (af (aa (ae E E (ak (v:=bS 1) E E E (dQ) (bc E E (cC KM KG) ?_))))))))
    refine ac E E (ag (ab (aw (av E E ?_))))
    have rb:=Fs (q:=q.toNat) hL hNl hK hd hKi hinv2 tp.1 h1
    exact⟨_,rfl,(q-1).toUInt32,_,rfl,q17.trans q103,pK',by simpa using hK,by
     have e:(q-1).toUInt32.toNat=q.toNat-1:=by
      have h0:=rb.1
      rw[lA,qx]
      show(18446744073709551616-1+q.toNat)%18446744073709551616%_=_
      omega
     rw[e];exact rb.2.1,rb.2.2⟩
end Go.Rl
namespace Go.Rl
open Go.RowKit Go.Proofs
theorem jy:aH Tryz.prog 182:=⟨_,Tryz.func182,by kernel_rfl,rfl⟩
theorem DH {U:List UInt32} {i j V:Nat} (h:val U<4294967296^(i+1)*V) (hV:V<4294967296^j) (hi:i+j+1≤U.length):val (U.drop (i+j+1))=0:=by
 rw[eh U (i+j+1) hi] at h
 rcases Nat.eq_zero_or_pos (val (U.drop (i+j+1))) with h0|h0
 ·exact h0
 ·have a:4294967296^(i+1)*V≤4294967296^(i+1)*4294967296^j:=Nat.mul_le_mul_left _ (Nat.le_of_lt hV)
  rw[←Nat.pow_add,show i+1+j=i+j+1 by omega] at a
  have b:4294967296^(i+j+1)*1≤4294967296^(i+j+1)*val (U.drop (i+j+1)):=Nat.mul_le_mul_left _ h0
  omega
theorem Fw {U:List UInt32} {i n:Nat} (h:i+n≤U.length) (h0:val (U.drop (i+n))=0):val U=val (U.take i)+4294967296^i*val ((U.take (i+n)).drop i):=by
 have h1:=eh U (i+n) h
 rw[h0,Nat.mul_zero,Nat.add_zero] at h1
 have h2:=eh (U.take (i+n)) i (by simp;omega)
 rw[List.take_take,Nat.min_eq_left (by omega)] at h2
 rw[h1,h2]
theorem Bg {U F:List UInt32} {i n:Nat} (h:i+n≤U.length) (h0:val (U.drop (i+n))=0):val (U.take i++F++U.drop (i+n))=val (U.take i)+4294967296^i*val F:=by
 rw[en,en,h0,List.length_take,Nat.min_eq_left (by omega)];simp
theorem jz {w:World} {l m:List UInt32} {v u:Value} (hv:bi l v w) (hu:bi m u w) (hl:l.length≤549755813888) (hml:m.length≤549755813888) (hm:0<val m):
 Calls Tryz.prog 182 #[v,u] w (bH fun r w'=>aJ w w'∧∃q s,r=.tuple #[q,s,I 0]∧bi (lb (val l/val m)) q w'∧bi (lb (val l%val m)) s w'):=by
 refine enter (vs:=[v,u]) Tryz.func182 E E E ?_
 have hll:=gZ (cz l)
 have hmm:=gZ (cz m)
 have hM0:0<(lb (val m)).length:=by
  rcases Nat.eq_zero_or_pos (lb (val m)).length with h|h
  ·have:=gH.1 h
   omega
  ·exact h
 refine af (aa (ac E E (ac E E (ac E E (ag (ab (af (aa (ae E E (an dA E E (dS hv) ?_))))))))))
 rintro v18 _ ⟨rfl,b18⟩
 refine ae E E (an dA E E (dS hu) ?_)
 rintro v20 _ ⟨rfl,b20⟩
 refine ac E E (ac E E (ag (ab (af (aE (af (aa (ae E E (aS (r:=I ((lb (val m)).length:Int)) E E (bw KE b20) ?_)))))))))
 refine ak E E E (dn (by omega) a6) (ac E E (ag (ab (cy E (af (aa (ae E E (ae E E (an ry E E ((by have:=rC b18 b20;rw[bK,bK] at this;exact this)) ?_)))))))))
 rintro v28 w28 ⟨x28,rfl⟩
 refine ak E E E (bb) (ac E E (ag (ab ?_)))
 refine bt E (fun h25=>?_) (fun h25=>?_)
 ·have hlt:=nJ.1 h25
  refine af (aa (ae E E (an mh E E ((by have:=mi (b18.ext x28) (by omega);rw[bK] at this;exact this)) ?_)))
  rintro v31 w31 ⟨x31,b31⟩
  refine ac E E (ac E E (ac E E (ag (ab (aw (aY (aD (j9 E E E E ?_))))))))
  exact⟨_,rfl,(x28.trans x31),_,_,rfl,by rw[Nat.div_eq_of_lt hlt];exact bi.nil _,by rw[Nat.mod_eq_of_lt hlt];exact b31⟩
 ·have hge:val m≤val l:=Nat.le_of_not_lt fun h=>h25 (nJ.2 h)
  have hlen:(lb (val m)).length≤(lb (val l)).length:=Nat.le_of_not_lt fun h=>by have:=yf h;omega
  refine af (aa (ae E E (aS (r:=I ((lb (val m)).length:Int)) E E (bw KE (b20.ext x28)) (ak E E E (a6) ?_))))
  refine ac E E (ag (ab ?_))
  refine bt E (fun h32=>?_) (fun h32=>?_)
  ·refine af (aa (ae E E (ae E E ?_)))
   have hM1:val m=((lb (val m))[0]'(by omega)).toNat:=by
    have e:=eG (l:=lb (val m)) (i:=0) (by omega)
    rw[List.drop_zero,bK,List.drop_of_length_le (by omega)] at e
    simpa [val] using e
   obtain⟨a39,p39,q39⟩:=cJ KE (b20.ext x28) (i:=0) (by omega) .i64
   refine au E E E (p39 _) (aj E E (ai KG E q39) (an zL E E ((zN (b18.ext x28) (by omega) (by rw[←hM1];exact hm))) ?_))
   rintro v41 w41 ⟨x41,q,s,rfl,bq,bs⟩
   refine ae E E (az E E ce (az E E cf (ac E E (ac E E (ag (ab (af (aa (ae E E (ae E E (ac E E ?_)))))))))))
   refine ac E E (ac E E (ag (ab (aw (aY (aD (j9 E E E E ?_)))))))
   rw[bK,←hM1] at bq bs
   exact⟨_,rfl,(x28.trans x41),_,_,rfl,bq,bs⟩
  ·refine aC (aR (ab (af ?_)))
   obtain⟨k,hk⟩:∃k,(lb (val m)).length=k+2:=⟨(lb (val m)).length-2,by omega⟩
   obtain⟨hs32,hVlen⟩:=Fp hk
   have htop:(lb (val m))[(lb (val m)).length-1]'(by omega)=(lb (val m))[k+1]'(by omega):=by congr 1;omega
   refine aa (ae E E (ae E E (aS (r:=I ((lb (val m)).length:Int)) E E (bw KE (b20.ext x28)) (ak (r:=I (((lb (val m)).length-1:Nat):Int)) E E E (by have e:(((lb (val m)).length-1:Nat):Int)=((lb (val m)).length:Int)-1:=(by omega);rw[e];exact bB (by omega) (by omega)) ?_))))
   obtain⟨a50,p50,q50⟩:=cJ KE (b20.ext x28) (i:=((lb (val m)).length-1:Nat)) (by omega) .i64
   refine au E E E (p50 _) (aj E E (ai KG E q50) (an Do E E (Dr) ?_))
   rintro v52 _ ⟨rfl,rfl⟩
   rw[htop]
   obtain⟨s,hs⟩:∃s,s=32-bl ((lb (val m))[k+1]'(by omega)).toNat:=⟨_,rfl⟩
   rw[←hs] at hs32 hVlen⊢
   refine ac E E (ag (ab (af (aa (ae E E (ae E E (an tY E E (t3 (b18.ext x28) (by omega) hs32) ?_)))))))
   rintro v55 w55 ⟨x55,U,oU,hUl,hUv⟩
   refine ae E E (ae E E (an tY E E (t3 (b20.ext (x28.trans x55)) (by omega) hs32) ?_))
   rintro v58 w58 ⟨x58,V,oV,hVl,hVv⟩
   refine an dA E E (tT oV.wds) ?_
   rintro v59 _ ⟨rfl,b59,ob59⟩
   rw[bK] at hUv hVv
   rw[hVv] at b59
   obtain⟨g,sp,hgb,hgo,pU⟩:=oU.pw (by omega)
   have hV0:0<val m*2^s:=Nat.mul_pos hm (Nat.pow_pos (by omega))
   have hgV:g<w55.heap.size:=pU.lt
   have off1:v59.ownBlock=none∨v59.ownBlock≠some g:=by
    rcases ob59 with h|h
    ·exact .inl h
    ·exact .inr (by rw[h];exact oV.off hgV)
   refine ac E E (ac E E (ag (ab (af (aa (ae E E (aS (r:=I ((lb (val l)).length:Int)) E E (bw KE (b18.ext ((x28.trans x55).trans x58))) ?_)))))))
   refine ae E E (aS (r:=I ((lb (val m)).length:Int)) E E (bw KE (b20.ext ((x28.trans x55).trans x58))) (ak (r:=I (((lb (val l)).length-(lb (val m)).length:Nat):Int)) E E E (by have e:(((lb (val l)).length-(lb (val m)).length:Nat):Int)=((lb (val l)).length:Int)-((lb (val m)).length:Int):=(by omega);rw[e];exact bB (by omega) (by omega)) ?_))
   refine ak (r:=I (((((lb (val l)).length-(lb (val m)).length:Nat))+1:Nat):Int)) E E E (by have e:(((((lb (val l)).length-(lb (val m)).length:Nat))+1:Nat):Int)=(((lb (val l)).length-(lb (val m)).length:Nat):Int)+1:=(by omega);rw[e];exact aP (by omega) (by omega)) ?_
   obtain⟨v66,w66,hr66,x66,o66,ob66⟩:=vY KE (w:=w58) w58.heap.size (n:=(lb (val l)).length-(lb (val m)).length+1) (by omega) (Nat.le_refl _)
   refine gY E E E hr66 (ac E E (ag (ab (af (af (aa (ae E E (aS (r:=I (((lb (val l)).length-(lb (val m)).length+1:Nat):Int)) E E ((by simpa using bw Tryz.underlying44 o66.wds)) ?_))))))))
   refine ak E E E (bB (by omega) (by omega)) (ac E E (ag (ab (aE ?_))))
   refine jx (fun(j:Nat) (X:List UInt32) (O:List UInt32)=>[(9,I (s:Int)),(10,v55),(11,v59),(12,v66),(13,I ((j:Int)-1))]) (fun(j:Nat) (X:List UInt32) (O:List UInt32) w'=>aJ w w'∧PW g [] X sp v55 w'∧dV w58.heap.size O v66 w'∧bi (lb (val m*2^s)) v59 w'∧X.length=(lb (val l)).length+1∧O.length=(lb (val l)).length-(lb (val m)).length+1∧j≤O.length∧val l*2^s=val (O.drop j)*4294967296^j*(val m*2^s)+val X∧val X<4294967296^j*(val m*2^s)) (fun(j:Nat) (X:List UInt32) (O:List UInt32)=>j) ((lb (val l)).length-(lb (val m)).length+1) (U) (List.replicate ((lb (val l)).length-(lb (val m)).length+1) 0) ⟨rfl,rfl,rfl,rfl,rfl,trivial⟩ ⟨(((x28.trans x55).trans x58).trans x66),(pU.ext x58).ext x66,o66,b59.ext x66,hUl,by simp,by simp,by rw[List.drop_of_length_le (by simp)];simp[val,hUv],by
    have h1:=cz (lb (val l))
    have h2:=Cs hm
    rw[bK] at h1
    rw[hUv,←Nat.mul_assoc]
    refine Nat.mul_lt_mul_of_pos_right ?_ (Nat.pow_pos (by omega))
    have h3:4294967296^(lb (val l)).length=4294967296^((lb (val l)).length-(lb (val m)).length+1)*4294967296^((lb (val m)).length-1):=by
     rw[←Nat.pow_add,show(lb (val l)).length-(lb (val m)).length+1+((lb (val m)).length-1)=(lb (val l)).length by omega]
    rw[h3] at h1
    exact Nat.lt_of_lt_of_le h1 (Nat.mul_le_mul_left _ h2)⟩ ?_
   rintro j X O w13 ⟨e13,pX,oO,f13,hXl,hOl,hj,hA,hX⟩
   refine af (af (aa (ae E E (ak E E E (iq) (ag (ab ?_))))))
   refine bt E (fun h71=>?_) (fun h71=>?_)
   ·obtain⟨i,rfl⟩:∃i,j=i+1:=⟨j-1,by omega⟩
    have e:((i+1:Nat):Int)-1=(i:Int):=by omega
    rw[e]
    have hz:=DH hX (by have:=cz (lb (val m*2^s));rwa [bK,hVlen] at this) (j:=k+2) (by omega)
    have hXp:=Fw (U:=X) (i:=i) (n:=k+3) (by omega) hz
    refine aC (ab (af (aE (af (aa (ae E E (ae E E (ae E E (ae E E (aS (r:=I ((k+2:Nat):Int)) E E ((by rw[←hVlen];exact bw KE f13)) ?_))))))))))
    refine ak (r:=I ((i+(k+2:Nat):Nat):Int)) E E E (by have e:((i+(k+2:Nat):Nat):Int)=(i:Int)+((k+2:Nat):Int):=(by omega);rw[e];exact aP (by omega) (by omega)) ?_
    refine ak (r:=I ((((i+(k+2:Nat):Nat))+1:Nat):Int)) E E E (by have e:((((i+(k+2:Nat):Nat))+1:Nat):Int)=((i+(k+2:Nat):Nat):Int)+1:=(by omega);rw[e];exact aP (by omega) (by omega)) ?_
    obtain⟨v81,p81,pP⟩:=IW KE pX (lo:=i) (hi:=i+(k+2)+1) (by omega) (by omega) .i64 .i64
    refine dl E E E E E (p81 _) ?_
    have hPl:((X.take (i+(k+2)+1)).drop i).length=k+3:=by simp;omega
    refine ac E E (ag (ab (aa (ae E E (ae E E (ae E E (ae E E (ae E E (ae E E (an DD E E (DF pP.wds f13 hVlen hPl (by omega) (yg (by omega)) (by
 rw[bK]
 have h1:4294967296^i*val ((X.take (i+(k+3))).drop i)≤val X:=by rw[hXp];omega
 rw[Nat.pow_succ,Nat.mul_assoc] at hX
 exact Nat.lt_of_mul_lt_mul_left (Nat.lt_of_le_of_lt h1 hX))) ?_))))))))))
    rintro v88 w88 ⟨x88,q,rfl,hqB,hq1,hq2⟩
    refine an DE E E (DG (pP.ext x88) (f13.ext x88) off1 (by rw[hPl,hVlen]) (by omega) hqB hq1 hq2) ?_
    rintro v89 w89 ⟨x,F,rfl,q89,pF,hFl,hFv,hFr⟩
    have x89:=(e13.trans x88).of_new q89 (by have:=x28.size;omega)
    have o89:=(oO.ext x88).kept q89 (.inr (oO.off (by have:=x58.size;omega)))
    have p89:=pX.join (by omega) (by omega) (by rw[hFl,hPl];omega) pF
    have f89:=(f13.ext x88).away off1 q89
    obtain⟨g90,w90,p90,s90,o90,q90,hb90,c90,ob90⟩:=o89.setW KE (i:=i) (by omega) x
    refine au E E E (p90 _) (ax E E (s90) ?_)
    have x90:=x89.of_new q90 (by have:=x28.size;have:=x55.size;have:=x58.size;omega)
    have p90':=p89.kept q90 (fun h=>by have:=Option.some.inj h;have:=x58.size;omega)
    have f90:=f89.away (by
     rcases ob59 with h|h
     ·exact .inl h
     ·refine .inr fun he=>?_
      rw[h] at he
      have:=oV.lt g90 he
      omega) q90
    have hj':=Bg (U:=X) (F:=F) (i:=i) (n:=k+3) (by omega) hz
    rw[bK] at hFv hFr
    have dr:=Dv (A:=val l*2^s) (P:=4294967296^i) (Q:=val (O.drop (i+1))) (V:=val m*2^s) hXp (by have:=cz (X.take i);rwa [List.length_take,Nat.min_eq_left (by omega)] at this) (by rw[←Nat.pow_succ];exact hA) hFv hFr
    rw[←hj',←qC (by omega)] at dr
    refine ag (aR (ab (aa (ae E E (ak E E E (bB (by omega) (by omega)) (ac E E (ag ?_)))))))
    refine gz (i) (_) (_) ⟨rfl,rfl,rfl,rfl,rfl,trivial⟩ ⟨x90,p90',o90,f90,by simp[hFl,hPl,hXl];omega,by simpa using hOl,by simp;omega,dr.1,dr.2⟩ (by omega)
   ·refine be (aK (aK (bf (ab (af ?_)))))
    obtain rfl:j=0:=by omega
    rw[Nat.pow_zero,Nat.mul_one,List.drop_zero] at hA
    rw[Nat.pow_zero,Nat.one_mul] at hX
    have hs0:0<2^s:=Nat.pow_pos (by omega)
    have hQ:val l/val m=val O:=by
     rw[←Nat.mul_div_mul_right _ _ hs0,hA,Nat.mul_comm (val O),Nat.mul_add_div hV0,Nat.div_eq_of_lt hX,Nat.add_zero]
    have hR:val X/2^s=val l%val m:=by
     have e1:val X=val l*2^s%(val m*2^s):=by rw[hA,Nat.mul_comm (val O),Nat.mul_add_mod,Nat.mod_eq_of_lt hX]
     rw[e1,Nat.mul_mod_mul_right,Nat.mul_div_cancel _ hs0]
    refine aa (ae E E (ae E E (an Dn E E (Ds pX.wds (by omega) (by omega)) ?_)))
    rintro v94 w94 ⟨x94,r94,rfl,b94⟩
    refine ae E E (az E E ce (az E E cf (ac E E (ac E E (ag (ab (af (aa (ae E E (an dA E E (dS ((oO.ext x94).wds)) ?_))))))))))
    rintro v98 _ ⟨rfl,b98⟩
    refine ae E E (ac E E (ac E E (ac E E (ag (ab (aw (j9 E E E E ?_)))))))
    exact⟨_,rfl,(e13.trans x94),_,_,rfl,by rw[hQ];exact b98,by rw[←hR];exact b94⟩
end Go.Rl
namespace Go.Rl
open Go.RowKit Go.Proofs
theorem mn:aH Tryz.prog 166:=⟨_,Tryz.func166,by kernel_rfl,rfl⟩
theorem DI:aH Tryz.prog 165:=⟨_,Tryz.func165,by kernel_rfl,rfl⟩
theorem DJ:aH Tryz.prog 181:=⟨_,Tryz.func181,by kernel_rfl,rfl⟩
theorem lB {n m:Nat} (h:n≤m):(lb n).length≤(lb m).length:=by
 rcases Nat.lt_or_ge (lb m).length (lb n).length with h1|h1
 ·have:=yf h1;omega
 ·exact h1
theorem mp {w:World} {l m:List UInt32} {v u:Value} (hv:bi l v w) (hu:bi m u w) (hl:l.length≤274877906944) (hml:m.length≤274877906944) (hm:0<val m):
 Calls Tryz.prog 166 #[v,u] w (bH fun r w'=>aJ w w'∧∃q s,r=.tuple #[q,s,I 0]∧bi (lb (val l/val m)) q w'∧bi (lb (val l%val m)) s w'):=by
 refine enter (vs:=[v,u]) Tryz.func166 E E E ?_
 refine af (aa (ac E E (ac E E (ac E E (ag (ab (af (aa (ae E E (an t7 E E (ua hv (by omega)) ?_))))))))))
 rintro v16 w16 ⟨x16,hcx⟩
 obtain⟨x,bx,rfl,hbx⟩:∃(x:UInt64) (bx:Bool),v16=.tuple #[bS x,B bx]∧(bx=true→x.toNat=val l):=by
  rcases hcx with⟨_,rfl⟩|⟨x,hx,rfl⟩
  ·exact⟨0,false,rfl,fun h=>by cases h⟩
  ·exact⟨x,true,rfl,fun _=>hx⟩
 refine ae E E (az E E ce (az E E (cf) (ac E E (ac E E (ag (ab (af (aa (ae E E (an t7 E E (ua (hu.ext x16) (by omega)) ?_))))))))))
 rintro v21 w21 ⟨x21,hcy⟩
 obtain⟨y,bY,rfl,hby⟩:∃(y:UInt64) (bY:Bool),v21=.tuple #[bS y,B bY]∧(bY=true→y.toNat=val m):=by
  rcases hcy with⟨_,rfl⟩|⟨y,hy,rfl⟩
  ·exact⟨0,false,rfl,fun h=>by cases h⟩
  ·exact⟨y,true,rfl,fun _=>hy⟩
 refine ae E E (az E E ce (az E E (cf) ?_))
 have hy0:bY=true→¬y=0:=fun h h0=>by
  have:=hby h
  rw[h0] at this
  have e:(0:UInt64).toNat=0:=rfl
  omega
 refine ac E E (ac E E (ag (ab (af ?_))))
 refine ei (fun _:Unit=>[(0,v),(1,u),(7,bS x),(8,B bx),(9,bS y),(10,B bY)]) (fun _ w'=>w21=w') ?_ ?_
 ·refine af ?_
  cases bY
  ·refine aa (ae E E (ae E E (am E E E (am E E E (aI E E E (ag (ab (cy E (aC ?_)))))))))
   exact bP () ⟨rfl,rfl,rfl,rfl,rfl,rfl,trivial⟩ rfl
  ·refine aa (ae E E (ae E E (al E (ae E E (al E (ak (v:=bS 0) E E E (dn (hy0 E) lw) (ar E E E (ag ?_))))))))
   refine ab (cy E (aC ?_))
   exact bP () ⟨rfl,rfl,rfl,rfl,rfl,rfl,trivial⟩ rfl
 rintro⟨⟩ _ rfl
 refine ab (af ?_)
 refine ei (fun _:Unit=>[(0,v),(1,u)]) (fun _ w'=>w21=w') ?_ ?_
 ·refine af ?_
  rcases bx with _|_<;>rcases bY with _|_
  ·refine aa (ae E E (ae E E (am E E E (aI E E E (ag (ab (cy E (aC ?_))))))))
   exact bP () ⟨rfl,rfl,trivial⟩ rfl
  ·refine aa (ae E E (ae E E (am E E E (aI E E E (ag (ab (cy E (aC ?_))))))))
   exact bP () ⟨rfl,rfl,trivial⟩ rfl
  ·refine aa (ae E E (ae E E (al E (ae E E (ar E E E (ag (ab (cy E (aC ?_)))))))))
   exact bP () ⟨rfl,rfl,trivial⟩ rfl
  ·have hx:=hbx rfl
   have hy:=hby rfl
   have hyn:=hy0 rfl
   refine aa (ae E E (ae E E (al E (ae E E (ar E E E (ag (ab (bg E (af (bD 10 [4,5] (by kernel_rfl) (by kernel_rfl) ?_))))))))))
   refine ay rfl rfl (ay rfl rfl (ba rfl rfl rfl (fun w _=>lr hyn) (cd (S:=bi (lb (val l/val m))) zT (bi.stable _) rfl (fun w hw=>by rintro _ rfl;exact bH.mono zU fun v w' h=>⟨h.1,by have:=h.2;rwa [UInt64.toNat_div,hx,hy] at this⟩) ?_)))
   refine ay rfl rfl (ay rfl rfl (ba rfl rfl rfl (fun w _=>lu hyn) (cd (S:=bi (lb (val l%val m))) zT (bi.stable _) rfl (fun w hw=>by rintro _ rfl;exact bH.mono zU fun v w' h=>⟨h.1,by have:=h.2;rwa [UInt64.toNat_mod,hx,hy] at this⟩) ?_)))
   refine fO E E (fO E E (cb ?_))
   intro wg6 xg6
   intro vg4 b4
   intro vg5 b5
   refine ac E E (ag (ab (aw (aD (j9 E E E E ?_)))))
   exact⟨_,rfl,((x16.trans x21).trans xg6),_,_,rfl,b4,b5⟩
 rintro⟨⟩ _ rfl
 refine ab (af (aa (ae E E (aS E E (bw KE (hv.ext (x16.trans x21))) ?_))))
 obtain⟨v43,w43,hr43,x43,o43,ob43⟩:=vY KY (w:=w21) w21.heap.size (n:=l.length) (by omega) (Nat.le_refl _)
 refine gY E E E hr43 ?_
 obtain⟨v44,w44,hr44,x44,o44,ob44⟩:=i8 Tryz.underlying44 (w:=w43) w43.heap.size [] (by simp) (Nat.le_refl _)
 refine aG (vs:=[]) E E hr44 (ac E E (ac E E (ag (ab (af (af (aa (ae E E (an Bd E E (Be (hv.ext (((x16.trans x21).trans x43).trans x44)) (by omega)) ?_)))))))))
 rintro v46 w46 ⟨x46,rfl⟩
 have hbl:bl (val l)≤32*l.length:=wj (by have:=cz l;rwa [show(4294967296:Nat)^l.length=2^(32*l.length) by rw[Nat.pow_mul]] at this)
 have hb0:val l/2^bl (val l)=0:=by
  rcases Nat.eq_zero_or_pos (val l) with h|h
  ·rw[h];simp
  ·exact Nat.div_eq_of_lt (qD h).2
 refine ak E E E (bB (by omega) (by omega)) (ac E E (ag (ab (aE ?_))))
 refine jx (fun(j:Nat) (O:List UInt32) (vr:Value)=>[(0,v),(1,u),(11,v43),(12,vr),(13,I ((j:Int)-1))]) (fun(j:Nat) (O:List UInt32) (vr:Value) w'=>aJ w w'∧dV w21.heap.size O v43 w'∧O.length=l.length∧bi (lb (val l/2^j%val m)) vr w'∧j≤bl (val l)∧val O=2^j*(val l/2^j/val m)) (fun(j:Nat) (O:List UInt32) (vr:Value)=>j) (bl (val l)) (List.replicate l.length 0) (v44) ⟨rfl,rfl,rfl,rfl,rfl,trivial⟩ ⟨((((x16.trans x21).trans x43).trans x44).trans x46),(o43.ext x44).ext x46,by simp,by rw[hb0,Nat.zero_mod];exact(o44.ext x46).wds,Nat.le_refl _,by rw[hb0];simp[ru]⟩ ?_
 rintro j O vr w9 ⟨e9,oq,hO,br,hj,hq⟩
 refine af (af (aa (ae E E (ak E E E (iq) (ag (ab ?_))))))
 refine bt E (fun h49=>?_) (fun h49=>?_)
 ·obtain⟨i,rfl⟩:∃i,j=i+1:=⟨j-1,by omega⟩
  have e:((i+1:Nat):Int)-1=(i:Int):=by omega
  rw[e]
  have hib:i/32<l.length:=by omega
  have hrl:(lb (val l/2^(i+1)%val m)).length≤m.length:=Nat.le_trans (lB (Nat.le_of_lt (Nat.mod_lt _ hm))) (gZ (cz m))
  obtain⟨rd1,rd2,rd3⟩:=Bc (N:=val l) (i:=i) hm
  refine aC (ab (af (aE (af (aa (ae E E ?_))))))
  have hVl:=cz m
  have hxl:=Nat.mod_lt (val l/2^(i+1)) hm
  have h2l:∀b,b≤1→(lb (2*(val l/2^(i+1)%val m)+b)).length≤m.length+1:=fun b hb=>gZ (by have e:(4294967296:Nat)^(m.length+1)=4294967296^m.length*4294967296:=Nat.pow_succ ..;rw[e];have:=J9 m.length;omega)
  refine an Dz E E (DC (k:=1) br (by omega) (by omega)) ?_
  rintro v53 w53 ⟨x53,b53⟩
  refine ac E E (ag (ab (af (aa (ae E E (ae E E (ae E E (ak (r:=I ((i/32:Nat):Int)) E E E (by have e:((i/32:Nat):Int)=(i:Int)/32:=(by omega);rw[e];exact qo (by omega) (by omega) (by omega)) ?_))))))))
  obtain⟨a58,p58,q58⟩:=cJ KE (hv.ext (e9.trans x53)) (i:=(i/32:Nat)) (by omega) .i64
  refine au E E E (p58 _) (aj E E (ai KG E q58) (ae E E (ak (r:=I ((i%32:Nat):Int)) E E E (by have e:((i%32:Nat):Int)=(i:Int)%32:=(by omega);rw[e];exact ox (by omega) (by omega)) ?_)))
  refine ak E E E (cI ((i%32:Nat)) (by omega)) (ak (v:=bC 1) E E E (fe) ?_)
  obtain⟨v64,w64,hr64,x64,o64,ob64⟩:=i8 Tryz.underlying44 (w:=w53) w53.heap.size [((((((l[(i/32:Nat)]))>>>UInt32.ofNat ((i%32:Nat))))&&&(1)))] (by simp) (Nat.le_refl _)
  refine aG (vs:=[(0,bC (((((((l[(i/32:Nat)]))>>>UInt32.ofNat ((i%32:Nat))))&&&(1)))))]) E E hr64 (an Dx E E (DA (b53.ext x64) o64.wds (by rw[bK,Nat.pow_one,Nat.mul_comm];have:=h2l 0 (by omega);rw[Nat.add_zero] at this;omega) (by simp)) ?_)
  rintro v65 w65 ⟨x65,b65⟩
  rw[bK,bK,mg,IY hib,Nat.pow_one,Nat.mul_comm] at b65
  have x6:=(x53.trans x64).trans x65
  refine ac E E (ag (ab (af (aa (ae E E (ae E E (an wt E E (wv b65 (hu.ext (((e9.trans x53).trans x64).trans x65))) ?_)))))))
  rintro v68 _ ⟨rfl,rfl⟩
  refine ak E E E (iq) (ag (ab ?_))
  refine bt E (fun h69=>?_) (fun h69=>?_)
  ·have hle:val m≤val (lb (2*(val l/2^(i+1)%val m)+val l/2^i%2)):=Nat.le_of_not_lt fun h=>by have:=nJ.2 h;omega
   refine af (aa (ae E E (ae E E (an Dy E E (DB b65 (hu.ext (((e9.trans x53).trans x64).trans x65)) (by have:=h2l (val l/2^i%2) (by omega);omega) hle) ?_))))
   rintro v73 w73 ⟨x73,d73,rfl,b73⟩
   rw[bK] at b73 hle
   obtain⟨rm,rq⟩:=rd2 hle
   rw[←rm] at b73
   have oq73:=(oq.ext x6).ext x73
   obtain⟨g85,_,p85,_,_,_,_,_,ob85⟩:=oq73.setW KY (i:=i/32) (by omega) (O[i/32]'(by omega)|||(1:UInt32)<<<UInt32.ofNat (i%32))
   refine ae E E (az E E (ce) (az E E cf (ac E E (ag (ab (bD 10 [0,1,11,12,13,84,85] (by kernel_rfl) (by kernel_rfl) ?_))))))
   refine ay E E (ay E E (ba (r:=I ((i/32:Nat):Int)) E E E (fun w _=>by have e:((i/32:Nat):Int)=(i:Int)/32:=(by omega);rw[e];exact qo (by omega) (by omega) (by omega)) ?_))
   obtain⟨a79,p79,q79⟩:=cJ KY oq73.wds (i:=(i/32:Nat)) (by omega) .i64
   refine aA E E E (fun w _=>p79 w) (aN E E (fun w hw=>ai KG E (hw.cell_some q79)) (ay E E (ba (r:=I ((i%32:Nat):Int)) E E E (fun w _=>by have e:((i%32:Nat):Int)=(i:Int)%32:=(by omega);rw[e];exact ox (by omega) (by omega)) ?_)))
   refine ba (u:=bC 1) E E E (fun w _=>eE ((i%32:Nat)) (by omega)) (ba E E E (fun w _=>ff) (aA E E E (fun w hw=>p85 w) ?_))
   refine cb ?_
   intro wg15 xg15
   rintro _ hq0
   obtain rfl:=Eq.symm hq0
   rintro _ hq1
   obtain rfl:=Eq.symm hq1
   rintro _ hq11
   obtain rfl:=Eq.symm hq11
   rintro _ hq12
   obtain rfl:=Eq.symm hq12
   rintro _ rfl
   rintro _ rfl
   rintro _ rfl
   obtain⟨g',w',p',s',o',q',hb',c',ob'⟩:=(oq73.ext xg15).setW KY (i:=i/32) (by omega) (O[i/32]'(by omega)|||(1:UInt32)<<<UInt32.ofNat (i%32))
   obtain rfl:g85=g':=Option.some.inj (ob85.symm.trans ob')
   refine ax E E (s') ?_
   have x15:=(((e9.trans x6).trans x73).trans xg15).of_new q' (by have:=x16.size;have:=x21.size;omega)
   have sb:=IZ (a:=O) (i:=i) (by omega) hq
   have br':=((b73.ext xg15).kept q' (.inr (b73.off (by have:=oq.lt _ ob85;have:=x6.size;omega)))).wds
   refine ag (aR (ab (aa (ae E E (ak E E E (bB (by omega) (by omega)) (ac E E (ag ?_)))))))
   refine gz (i) (_) (d73) ⟨rfl,rfl,rfl,rfl,rfl,trivial⟩ ⟨x15,o',by simpa using hO,br',by omega,by rw[sb,hq,rq,Nat.pow_succ,Nat.mul_assoc,Nat.mul_add,Nat.mul_one]⟩ (by omega)
  ·have hlt:2*(val l/2^(i+1)%val m)+val l/2^i%2<val m:=by
    rcases Nat.lt_or_ge (2*(val l/2^(i+1)%val m)+val l/2^i%2) (val m) with h|h
    ·exact h
    ·refine absurd ?_ h69
     rw[bK]
     have:¬rx (2*(val l/2^(i+1)%val m)+val l/2^i%2) (val m)<0:=fun h'=>by have:=nJ.1 h';omega
     omega
   obtain⟨rm,rq⟩:=rd3 hlt
   rw[←rm] at b65
   refine aC (aR (ab (aa (ae E E (ak E E E (bB (by omega) (by omega)) (ac E E (ag ?_)))))))
   refine gz (i) (O) (v65) ⟨rfl,rfl,rfl,rfl,rfl,trivial⟩ ⟨(((e9.trans x53).trans x64).trans x65),oq.ext x6,hO,b65,by omega,by rw[hq,rq,Nat.pow_succ,Nat.mul_assoc]⟩ (by omega)
 ·refine be (aK (aK (bf (ab (af ?_)))))
  obtain rfl:j=0:=by omega
  rw[Nat.pow_zero,Nat.div_one,Nat.one_mul] at hq
  rw[Nat.pow_zero,Nat.div_one] at br
  refine aa (ae E E (an eK E E (fx oq.wds (by omega)) ?_))
  rintro v87 w87 ⟨x87,b87⟩
  refine ae E E (ac E E (ac E E (ac E E (ag (ab (aw (j9 E E E E ?_)))))))
  exact⟨_,rfl,(e9.trans x87),_,_,rfl,by rw[←hq];exact b87,br.ext x87⟩
theorem DK {w:World} {l m:List UInt32} {v u:Value} (hv:bi l v w) (hu:bi m u w) (hl:l.length≤274877906944) (hml:m.length≤274877906944):
 Calls Tryz.prog 165 #[v,u] w (bH fun r w'=>aJ w w'∧bi (lb (Nat.gcd (val l) (val m))) r w'):=by
 refine enter (vs:=[v,u]) Tryz.func165 E E E ?_
 have hll:=gZ (cz l)
 have hmm:=gZ (cz m)
 refine af (aa (ac E E (ag (ab (af (aa (ae E E (an eK E E (fx hv (by omega)) ?_))))))))
 rintro v9 w9 ⟨x9,b9⟩
 refine ae E E (an eK E E (fx (hu.ext x9) (by omega)) ?_)
 rintro v11 w11 ⟨x11,b11⟩
 refine ac E E (ac E E (ag (ab (af (aE ?_)))))
 refine mf (fun(a:Nat) (b:Nat) (va:Value) (vb:Value)=>[(0,va),(1,vb)]) (fun(a:Nat) (b:Nat) (va:Value) (vb:Value) w'=>aJ w w'∧bi (lb a) va w'∧bi (lb b) vb w'∧Nat.gcd a b=Nat.gcd (val l) (val m)∧(lb a).length≤274877906944∧(lb b).length≤274877906944) (fun(a:Nat) (b:Nat) (va:Value) (vb:Value)=>b) (val l) (val m) (v9) (v11) ⟨rfl,rfl,trivial⟩ ⟨(x9.trans x11),b9.ext x11,b11,rfl,by omega,by omega⟩ ?_
 rintro a b va vb w2 ⟨e2,ha,hb,hg,hla,hlb⟩
 refine af (af (aa (ae E E (aS (r:=I ((lb b).length:Int)) E E (bw KE hb) (ak E E E (bV) ?_)))))
 refine ag (ab ?_)
 refine bt E (fun h14=>?_) (fun h14=>?_)
 ·have hb0:0<b:=by
   rcases Nat.eq_zero_or_pos b with h|h
   ·subst h;simp[gd] at h14
   ·exact h
  refine aC (ab (aE (af (aa (ae E E (ae E E (an mn E E (mp ha hb (by omega) (by omega) (by rw[bK];exact hb0)) ?_)))))))
  rintro v18 w18 ⟨x18,q,r,rfl,bq,br⟩
  rw[bK,bK] at br
  refine ae E E (az E E fg (az E E (fh) (az E E fi (ac E E (ac E E (ac E E (ag (ab ?_))))))))
  refine aa (ae E E (ae E E (ac E E (ac E E (ag (aR ?_))))))
  refine gA (b) (a%b) (vb) (r) ⟨rfl,rfl,trivial⟩ ⟨(e2.trans x18),hb.ext x18,br,by rw[←hg,Nat.gcd_comm b,←Nat.gcd_rec,Nat.gcd_comm],hlb,Nat.le_trans (lB (Nat.le_of_lt (Nat.mod_lt a hb0))) hlb⟩ (Nat.mod_lt a hb0)
 ·refine be (aK (aK (bf (ab (af (aa (ae E E (ac E E (ag (ab (aw (av E E ?_))))))))))))
  exact⟨_,rfl,e2,by
   have hb0:b=0:=by
    refine gH.1 ?_
    omega
   rw[←hg,hb0,Nat.gcd_zero_right];exact ha⟩
theorem DL {w:World} {l m:List UInt32} {v u:Value} (hv:bi l v w) (hu:bi m u w) (hl:l.length≤274877906944) (hml:m.length≤274877906944):
 Calls Tryz.prog 181 #[v,u] w (bH fun r w'=>aJ w w'∧bi (lb (Nat.gcd (val l) (val m))) r w'):=by
 refine enter (vs:=[v,u]) Tryz.func181 E E E ?_
 have hll:=gZ (cz l)
 have hmm:=gZ (cz m)
 refine af (aa (ac E E (ag (ab (af (aa (ae E E (an dA E E (dS hv) ?_))))))))
 rintro v16 _ ⟨rfl,b16⟩
 refine ae E E (an dA E E (dS hu) ?_)
 rintro v18 _ ⟨rfl,b18⟩
 refine ac E E (ac E E (ag (ab (af (aE ?_)))))
 refine mf (fun(a:Nat) (b:Nat) (va:Value) (vb:Value)=>[(0,va),(1,vb)]) (fun(a:Nat) (b:Nat) (va:Value) (vb:Value) w'=>aJ w w'∧bi (lb a) va w'∧bi (lb b) vb w'∧Nat.gcd a b=Nat.gcd (val l) (val m)∧(lb a).length≤274877906944∧(lb b).length≤274877906944) (fun(a:Nat) (b:Nat) (va:Value) (vb:Value)=>b) (val l) (val m) (v16) (v18) ⟨rfl,rfl,trivial⟩ ⟨aJ.refl _,b16,b18,rfl,by omega,by omega⟩ ?_
 rintro a b va vb w2 ⟨e2,ha,hb,hg,hla,hlb⟩
 refine af (af (aa (ae E E (aS (r:=I ((lb b).length:Int)) E E (bw KE hb) (ak E E E (bV) ?_)))))
 refine ag (ab ?_)
 refine bt E (fun h21=>?_) (fun h21=>?_)
 ·have hb0:0<b:=by
   rcases Nat.eq_zero_or_pos b with h|h
   ·subst h;simp[gd] at h21
   ·exact h
  refine aC (ab (aE (af (aa (ae E E (ae E E (an jy E E (jz ha hb (by omega) (by omega) (by rw[bK];exact hb0)) ?_)))))))
  rintro v25 w25 ⟨x25,q,r,rfl,bq,br⟩
  rw[bK,bK] at br
  refine ae E E (az E E fg (az E E (fh) (az E E fi (ac E E (ac E E (ac E E (ag (ab ?_))))))))
  refine aa (ae E E (ae E E (ac E E (ac E E (ag (aR ?_))))))
  refine gA (b) (a%b) (vb) (r) ⟨rfl,rfl,trivial⟩ ⟨(e2.trans x25),hb.ext x25,br,by rw[←hg,Nat.gcd_comm b,←Nat.gcd_rec,Nat.gcd_comm],hlb,Nat.le_trans (lB (Nat.le_of_lt (Nat.mod_lt a hb0))) hlb⟩ (Nat.mod_lt a hb0)
 ·refine be (aK (aK (bf (ab (af (af (aa (ae E E (aS (r:=I ((lb b).length:Int)) E E (bw KE hb) ?_)))))))))
  refine ak E E E (a6) (ag (ab ?_))
  refine bt E (fun h33=>?_) (fun h33=>?_)
  ·have hb0:b=0:=by
    refine gH.1 ?_
    omega
   refine af (aa (ae E E (an mh E E (mi ha (by omega)) ?_)))
   rintro v35 w35 ⟨x35,b35⟩
   refine ac E E (ag (ab (aw (aD (av E E ?_)))))
   exact⟨_,rfl,(e2.trans x35),by
    rw[bK] at b35
    rw[←hg,hb0,Nat.gcd_zero_right];exact b35⟩
  ·have hb0:0<b:=by
    rcases Nat.eq_zero_or_pos b with h|h
    ·subst h;simp[gd] at h33
    ·exact h
   have hb64:b<18446744073709551616:=by
    have:=cz (lb b)
    rw[bK] at this
    have h2:(4294967296:Nat)^(lb b).length≤4294967296^2:=Nat.pow_le_pow_right (by omega) (by omega)
    omega
   refine aC (ab (af (aa (ae E E (ae E E (an jy E E (jz ha hb (by omega) (by omega) (by rw[bK];exact hb0)) ?_))))))
   rintro v39 w39 ⟨x39,q,r,rfl,bq,br⟩
   rw[bK,bK] at br
   refine ae E E (az E E fg (az E E (fh) (az E E fi (ac E E (ac E E (ac E E (ag (ab ?_))))))))
   refine af (aa (ae E E (an tS E E (t0 (hb.ext x39)) ?_)))
   rintro v45 _ ⟨rfl,hcx⟩
   obtain⟨x,hx,rfl⟩:∃x:UInt64,x.toNat=b∧v45=.tuple #[bS x,B true]:=by
    rw[bK] at hcx
    rcases hcx with⟨h,_⟩|h
    ·omega
    ·exact h
   refine ae E E (az E E ce (az E E cf (ac E E (ac E E (ag (ab (af (aa (ae E E (an tS E E (t0 br) ?_))))))))))
   rintro v50 _ ⟨rfl,hcy⟩
   obtain⟨y,hy,rfl⟩:∃y:UInt64,y.toNat=a%b∧v50=.tuple #[bS y,B true]:=by
    have:=Nat.mod_lt a hb0
    rw[bK] at hcy
    rcases hcy with⟨h,_⟩|h
    ·omega
    ·exact h
   refine ae E E (az E E ce (az E E cf (ac E E (ac E E (ag (ab (af (aE ?_))))))))
   refine fb (fun(x':UInt64) (y':UInt64)=>[(11,bS x'),(13,bS y')]) (fun(x':UInt64) (y':UInt64) w'=>aJ w w'∧Nat.gcd x'.toNat y'.toNat=Nat.gcd (val l) (val m)) (fun(x':UInt64) (y':UInt64)=>y'.toNat) (x) (y) ⟨rfl,rfl,trivial⟩ ⟨(e2.trans x39),by rw[hx,hy,←hg,Nat.gcd_comm b,←Nat.gcd_rec,Nat.gcd_comm]⟩ ?_
   rintro x' y' w10 ⟨e10,hxy⟩
   refine af (af (aa (ae E E (ak (v:=bS 0) E E E (cS) (ag (ab ?_))))))
   refine bt E (fun h54=>?_) (fun h54=>?_)
   ·have hy0:0<y'.toNat:=Bf.1 h54
    have hyn:y'≠0:=fun h=>by
     rw[h] at hy0
     exact absurd hy0 (by decide)
    refine aC (ab (aE (bD 5 [11,58] (by kernel_rfl) (by kernel_rfl) ?_)))
    refine ay E E (ay E E (ay E E (ba E E E (fun w _=>lu hyn) (fO E E (cb ?_)))))
    intro wg11 xg11
    rintro _ rfl
    rintro _ rfl
    refine ac E E (ag (aR ?_))
    refine dv (y') (x'%y') ⟨rfl,rfl,trivial⟩ ⟨(e10.trans xg11),by rw[UInt64.toNat_mod,←hxy,Nat.gcd_comm y'.toNat,←Nat.gcd_rec,Nat.gcd_comm]⟩ (by rw[UInt64.toNat_mod];exact Nat.mod_lt _ hy0)
   ·have hy0:y'.toNat=0:=by
     have:=mt Bf.2 h54
     have e:(0:UInt64).toNat=0:=rfl
     omega
    refine be (aK (aK (bf (ab (af (aa (ae E E (an zH E E (zJ) ?_))))))))
    rintro v60 w60 ⟨x60,b60⟩
    refine ac E E (ag (ab (aw (av E E ?_))))
    exact⟨_,rfl,(e10.trans x60),by rw[←hxy,hy0,Nat.gcd_zero_right];exact b60⟩
end Go.Rl
namespace Go.Rl
open Go.RowKit
section
variable {P:Program} {ops:Array Oper} {Q:im} {N:Nat} {D:List Deferred} {S:World→Prop} {fuel:Nat} {listed:Array Bool} {l:Fr} {w:World} {d:Nat} {op:Op} {ty:TypeId} {pos:String} {aft:Array Edge}
def nK (Q:im):im:=fun e a w=>e=.normal∧Q .normal a w
def db (P:Program) (ops:Array Oper) (Q:im) (N:Nat) (D:List Deferred) (S:World→Prop) (fuel:Nat) (listed:Array Bool) (l:Fr) (w:World):Prop:=∀a,At N D l a→wpAnyH P .any ops (nK Q) S fuel listed a w
def sH (P:Program) (ops:Array Oper) (Q:im) (S:World→Prop) (fuel:Nat) (listed:Array Bool):im:=fun e a w=>e=.normal∧S w∧wpAnyH P .any ops (nK Q) S fuel listed a w
theorem fR {id:Nat} {os:List Oper} (S:World→Prop) (n:Nat) (hn:os.toArray.size=n) (hm:P.follows .mixedOrders=true)
 (h:db P os.toArray Q N D S n (Array.replicate n false) l w.drew):dm P Q N D l w (.region id os.toArray true):=fun a ha=>by
 subst hn
 exact wp_mono (wp_region_held (Q:=nK Q) (S:=S) hm (h a ha)) fun e a w he=>by obtain⟨rfl,h⟩:=he;exact h
def mr (ops:Array Oper) (listed:Array Bool) (i:Nat):Bool:=Region.noSelect ops&&Region.free .any ops listed i&&(Region.ready .any ops listed).contains i
theorem ww (i:Nat) {v:Value} (hi:ops[i]? =some ⟨some d,op,ty,pos,aft,none⟩) (hB:mr ops listed i=true) (hd:Nat.blt d N=true) (hS:S w)
 (hrun:∀ρ w',sj l ρ→S w'→(execOp ρ ⟨some d,op,ty,pos,aft,none⟩).run P w'=.ok (.value v) w')
 (k:db P ops Q N D S fuel (listed.setIfInBounds i true) ((d,v)::l) w):db P ops Q N D S (fuel+1) listed l w:=fun a ha=>by
 simp only[mr,Bool.and_eq_true] at hB
 exact wpAnyH_take hi hB.1.1 hB.1.2 hB.2 (fun c a w h=>by obtain⟨h,_⟩:=h;cases h) (.inl ⟨rfl,fun w' hw'=>hrun a.eval w' (fun x v hx=>ha.ev hx) hw'⟩) hS (k _ (ha.put hd v))
theorem jl (i:Nat) {xs:List Operand} {vs:List Value} {r:Value} {f:List Value→Sem Value} (hi:ops[i]? =some ⟨some d,op,ty,pos,aft,none⟩) (he:∀ρ,execOp ρ ⟨some d,op,ty,pos,aft,none⟩=(do pure (Next.value (←f (xs.map ρ))):Sem Next))
 (hp:vC l xs=some vs) (hB:mr ops listed i=true) (hd:Nat.blt d N=true) (hS:S w) (hrun:∀w',S w'→(f vs).run P w'=.ok r w')
 (k:db P ops Q N D S fuel (listed.setIfInBounds i true) ((d,r)::l) w):db P ops Q N D S (fuel+1) listed l w:=
 ww i hi hB hd hS (fun ρ w' hρ hw'=>by rw[he,jL hρ hp,Sem.run_bind,hrun w' hw'];rfl) k
theorem yk {x:Operand} {v:Value} (h:ev l x=some v):vC l [x]=some [v]:=by simp[vC,h]
theorem Kd {x y:Operand} {u v:Value} (h:ev l x=some u) (h':ev l y=some v):vC l [x,y]=some [u,v]:=by simp[vC,h,h']
theorem cT (i:Nat) {x:Operand} {v:Value} (hi:ops[i]? =some ⟨some d,.move x,ty,pos,aft,none⟩) (hx:ev l x=some v) (hB:mr ops listed i=true) (hd:Nat.blt d N=true) (hS:S w)
 (k:db P ops Q N D S fuel (listed.setIfInBounds i true) ((d,v)::l) w):db P ops Q N D S (fuel+1) listed l w:=
 ww i hi hB hd hS (fun ρ w' hρ _=>by simp[execOp,hρ x _ hx]) k
theorem eQ (i:Nat) {t:TypeId} {x:Operand} {u r:Value} (hi:ops[i]? =some ⟨some d,.load t x,ty,pos,aft,none⟩) (hx:ev l x=some u) (hB:mr ops listed i=true) (hd:Nat.blt d N=true) (hS:S w) (hrun:∀w',S w'→(Instr.loadAt t u).run P w'=.ok r w')
 (k:db P ops Q N D S fuel (listed.setIfInBounds i true) ((d,r)::l) w):db P ops Q N D S (fuel+1) listed l w:=
 jl i (xs:=[x]) (f:=fun|[a]=>Instr.loadAt t a|_=>stuck "") hi (fun _=>rfl) (yk hx) hB hd hS hrun k
theorem c6 (i:Nat) {s:TypeId} {n:Nat} {x:Operand} {u r:Value} (hi:ops[i]? =some ⟨some d,.fieldAddr s x n,ty,pos,aft,none⟩) (hx:ev l x=some u) (hB:mr ops listed i=true) (hd:Nat.blt d N=true) (hS:S w) (hrun:∀w',S w'→(Instr.fieldAt s u n).run P w'=.ok r w')
 (k:db P ops Q N D S fuel (listed.setIfInBounds i true) ((d,r)::l) w):db P ops Q N D S (fuel+1) listed l w:=
 jl i (xs:=[x]) (f:=fun|[a]=>Instr.fieldAt s a n|_=>stuck "") hi (fun _=>rfl) (yk hx) hB hd hS hrun k
theorem I0 (i:Nat) {s t:TypeId} {x:Operand} {u r:Value} (hi:ops[i]? =some ⟨some d,.convert s t x,ty,pos,aft,none⟩) (hx:ev l x=some u) (hB:mr ops listed i=true) (hd:Nat.blt d N=true) (hS:S w) (hrun:∀w',S w'→(convert s t u).run P w'=.ok r w')
 (k:db P ops Q N D S fuel (listed.setIfInBounds i true) ((d,r)::l) w):db P ops Q N D S (fuel+1) listed l w:=
 jl i (xs:=[x]) (f:=fun|[a]=>convert s t a|_=>stuck "") hi (fun _=>rfl) (yk hx) hB hd hS hrun k
theorem Iw (i:Nat) {b:BinOp} {t t2:TypeId} {x y:Operand} {u v r:Value} (hi:ops[i]? =some ⟨some d,.binOp b t x y t2,ty,pos,aft,none⟩) (hx:ev l x=some u) (hy:ev l y=some v) (hB:mr ops listed i=true) (hd:Nat.blt d N=true) (hS:S w) (hrun:∀w',S w'→(bin b t x y u v).run P w'=.ok r w')
 (k:db P ops Q N D S fuel (listed.setIfInBounds i true) ((d,r)::l) w):db P ops Q N D S (fuel+1) listed l w:=
 jl i (xs:=[x,y]) (f:=fun|[a,c]=>bin b t x y a c|_=>stuck "") hi (fun _=>rfl) (Kd hx hy) hB hd hS hrun k
theorem nN (i:Nat) {t:TypeId} {x y:Operand} {u v r:Value} (hi:ops[i]? =some ⟨some d,.indexAddr t x y,ty,pos,aft,none⟩) (hx:ev l x=some u) (hy:ev l y=some v) (hB:mr ops listed i=true) (hd:Nat.blt d N=true) (hS:S w) (hrun:∀w',S w'→(Instr.indexAt t u v).run P w'=.ok r w')
 (k:db P ops Q N D S fuel (listed.setIfInBounds i true) ((d,r)::l) w):db P ops Q N D S (fuel+1) listed l w:=
 jl i (xs:=[x,y]) (f:=fun|[a,c]=>Instr.indexAt t a c|_=>stuck "") hi (fun _=>rfl) (Kd hx hy) hB hd hS hrun k
theorem Iy (i:Nat) {xs:List Operand} {ts:Array TypeId} {vs:List Value} {r:Value} (hi:ops[i]? =some ⟨some d,.call {callee:=.builtin .len,args:=xs.toArray,argTypes:=ts},ty,pos,aft,none⟩) (hp:vC l xs=some vs) (hB:mr ops listed i=true) (hd:Nat.blt d N=true) (hS:S w) (hrun:∀w',S w'→(Builtin.len_ ts ty vs.toArray).run P w'=.ok r w')
 (k:db P ops Q N D S fuel (listed.setIfInBounds i true) ((d,r)::l) w):db P ops Q N D S (fuel+1) listed l w:=
 jl i (xs:=xs) (f:=fun vs=>Builtin.len_ ts ty vs.toArray) hi (fun ρ=>by simp only[execOp,resolve,invoke,builtin,pure_bind,List.map_toArray]) hp hB hd hS hrun k
theorem gf {o:Oper} {i:Nat} {listed':Array Bool} {a:Act} (hi:ops[i]? =some o) (h:wpList P ops (sH P ops Q S fuel listed') [o] a w):
 wpOp P ops (nK Q) i (fun a' w'=>S w'∧wpAnyH P .any ops (nK Q) S fuel listed' a' w') a w:=by
 unfold wpOp
 simp only[hi]
 unfold wpList at h
 split
 ·rename_i hw
  rw[if_pos hw] at h
  rcases h with h|⟨_,_,_,h,_⟩
  ·refine .inl ?_
   unfold Oper.wp at*
   generalize (execOp a.eval o).run P w=r at*
   cases r with
   |ok n w'=>
    cases n<;>simp only[Oper.upon] at h⊢
    case value u=>exact h.2
    case skip=>exact h.2
    case defer dd=>exact h.2
    case enter f args=>
     refine Calls.mono h fun e w'' he=>?_
     cases e with
     |returned u=>exact he.2
     |panicked c=>obtain⟨he,_⟩:=he;cases he
     |outgrown=>obtain⟨_,_,he,_⟩:=he;cases he
    case row row args=>exact Rows.mono h fun u w'' he=>he.2
   |halt x w'=>
    cases x<;>simp only[Oper.upon] at h⊢
    case panic u=>obtain⟨he,_⟩:=h;cases he
  ·cases h
 ·rename_i hw
  rw[if_neg hw] at h
  exact h.2
theorem aQ (i:Nat) {o:Oper} (hr:Region.ready .any ops listed=[i]) (hi:ops[i]? =some o) (h:cu P ops (sH P ops Q S fuel (listed.setIfInBounds i true)) N D l w [o]):db P ops Q N D S (fuel+1) listed l w:=fun a ha=>
 wpAnyH_all hr (by simp) fun j hj=>by
  obtain rfl:j=i:=by simpa using hj
  exact gf hi (h a ha)
theorem gC (i j:Nat) {o u:Oper} (hr:Region.ready .any ops listed=[i,j]) (hi:ops[i]? =some o) (hj:ops[j]? =some u) (h:cu P ops (sH P ops Q S fuel (listed.setIfInBounds i true)) N D l w [o])
 (h':cu P ops (sH P ops Q S fuel (listed.setIfInBounds j true)) N D l w [u]):db P ops Q N D S (fuel+1) listed l w:=fun a ha=>
 wpAnyH_all hr (by simp) fun k hk=>by
  rcases(by simpa using hk:k=i∨k=j) with rfl|rfl
  ·exact gf hi (h a ha)
  ·exact gf hj (h' a ha)
theorem aF (hS:S w) (k:db P ops Q N D S fuel listed l w):cu P ops (sH P ops Q S fuel listed) N D l w []:=fun a ha=>⟨rfl,hS,k a ha⟩
theorem jm {α:Type} (fr:α→Fr) (H:α→World→Prop) (listed':Array Bool) (fuel':Nat) (k:∀x w',H x w'→db P ops Q N D S fuel' listed' (fr x) w')
 (h:(∀l' w',(∃x,zq (fr x) l'∧H x w')→db P ops Q N D S fuel' listed' l' w')→db P ops Q N D S fuel listed l w):db P ops Q N D S fuel listed l w:=
 h fun _ w' ⟨x,hs,hH⟩ a ha=>k x w' hH a (ha.weak hs)
theorem zV {listed':Array Bool} (he:listed=listed') (h:db P ops Q N D S fuel listed' l w):db P ops Q N D S fuel listed l w:=he▸h
theorem fS (hr:Region.ready .any ops listed=[]) (h:gW Q N D l w):db P ops Q N D S fuel listed l w:=fun a ha=>wpAnyH_done hr ⟨rfl,h a ha⟩ _
end
end Go.Rl
namespace Go.Rl
open Go.RowKit Go.Proofs
theorem nO:aH Tryz.prog 103:=⟨_,Tryz.func103,by kernel_rfl,rfl⟩
theorem jn:aH Tryz.prog 81:=⟨_,Tryz.func81,by kernel_rfl,rfl⟩
theorem aJ.at {w w':World} (hx:aJ w w') {g:Nat} {o:Obj} (h:w.heap[g]? =some o):w'.heap[g]? =some o:=by
 rw[hx.block g (by obtain⟨h,_⟩:=Array.getElem?_eq_some_iff.1 h;exact h)]
 exact h
theorem cF.low {base base':Nat} {l:List UInt8} {v:Value} {w:World} (h:cF base l v w) (hb:base'≤base):cF base' l v w:=by
 have hge:=h.ge
 obtain⟨n,h⟩:=h
 exact⟨n,ip h fun k hk=>Nat.le_trans hb (hge k hk)⟩
theorem cF.grown {base:Nat} {l:List UInt8} {u v r:Value} {w w':World} (h:cF base l u w) (hg:gJ w w' v r) (hne:u.ownBlock=none∨u.ownBlock≠v.ownBlock):cF base l u w':=by
 obtain⟨n,h⟩:=h
 exact⟨n,World.ownsRow.kept h hg.grown hne⟩
theorem cF.lt {base:Nat} {l:List UInt8} {v:Value} {w:World} (h:cF base l v w):∀k,v.ownBlock=some k→k<w.heap.size:=by
 obtain⟨n,h⟩:=h
 exact fun k hk=>(World.ownsRow.lt h k hk).2
def dt (b:Bool) (n m:List UInt32):du:=fun v w=>∃x y,v=.agg #[B b,x,y]∧bi n x w∧bi m y w
theorem dt.ext {b:Bool} {n m:List UInt32} {v:Value} {w w':World} (h:dt b n m v w) (hx:aJ w w'):dt b n m v w':=by
 obtain⟨x,y,rfl,h1,h2⟩:=h
 exact⟨x,y,rfl,h1.ext hx,h2.ext hx⟩
def yl (b:Bool):UInt8:=if b then 1 else 0
def nA (b:Bool) (n m:List UInt32):List UInt8:=[yl b]++jT n++jT m
theorem uc:(Tryz.prog.info? 4).map (·.size)=some 1:=by kernel_rfl
theorem qF:(Tryz.prog.info? 44).map (·.size)=some 1:=by kernel_rfl
theorem dX:(Tryz.prog.info? 46).map (·.size)=some 3:=by kernel_rfl
section
variable {w:World} {l:List UInt8} {ns:List UInt32} {v nv:Value}
theorem nw (hv:cE l v w) (hn:bi ns nv w) (hl:l.length+4*ns.length≤35184372088832):
 Calls Tryz.prog 119 #[v,nv] w (bH fun r w'=>aJ w w'∧cF w.heap.size (l++jT ns) r w'):=by
 refine enter (vs:=[v,nv]) Tryz.func119 E E E ?_
 refine af (aa (ac E E (ag (ab (af (aa (ae E E (ae E E ?_))))))))
 refine aS E E (bw KE hn) ?_
 refine bc E E (fJ KI KM) ?_
 refine an d7 E E (d9 hv (by omega)) ?_
 rintro b1 w1 ⟨hx1,hb1⟩
 have hns:=hn.len
 have hlen:(UInt64.ofNat ns.length).toNat=ns.length:=by rw[UInt64.toNat_ofNat'];omega
 rw[hlen] at hb1
 have huv:=fQ (n:=ns.length) (by omega)
 refine ac E E (ag (ab (af (af (aa (ac E E (ag (ab (aE ?_)))))))))
 refine bZ (α:=Nat×Value) (fun x=>[(1,nv),(5,x.2),(6,I (x.1:Int))])
  (fun x w'=>cF w.heap.size (l++uv ns.length++gy (ns.take x.1)) x.2 w'∧aJ w w'∧x.1≤ns.length) (fun x=>ns.length-x.1) (0,b1) ⟨rfl,rfl,rfl,trivial⟩
  ⟨by simpa [gy] using hb1,hx1,by simp⟩ ?_
 rintro⟨k,b⟩ w2 ⟨hb,hx2,hk⟩
 dsimp only at hb hx2 hk
 have hdl:(l++uv ns.length++gy (ns.take k)).length≤35184372088832+10:=by
  simp only[List.length_append,fB,List.length_take];omega
 refine af (af (aa (ae E E (ae E E ?_))))
 refine aS E E (bw KE (hn.ext hx2)) ?_
 refine ak E E E (bb) ?_
 refine ag (ab ?_)
 refine bt E (fun h=>?_) (fun h=>?_)
 ·have hlt:k<ns.length:=by omega
  refine aC (ab (af (aE ?_)))
  obtain⟨ad,had,hcell⟩:=cJ KE (hn.ext hx2) hlt .i64
  have hld:∀w',aJ w2 w'→(Instr.loadAt 149 (.pointer (some ad))).run Tryz.prog w'=.ok (bC ns[k]) w':=fun w' hw'=>by
   obtain⟨ad',had',hcell'⟩:=cJ KE (hn.ext (hx2.trans hw')) hlt .i64
   have:=(had w').symm.trans (had' w')
   simp only[Result.ok.injEq,Value.pointer.injEq,Option.some.injEq,and_true] at this
   subst this
   exact Ip hcell'
  refine bD 25 [1,6,18,42] (by kernel_rfl) (by kernel_rfl) ?_
  refine ay E E (ay E E (ay E E ?_))
  refine aA E E E (fun w _=>had w) ?_
  refine aN E E hld ?_
  refine dT E E (fun w _=>dH KG KR) ?_
  refine ay E E (ay E E ?_)
  refine aA E E E (fun w _=>had w) ?_
  refine aN E E hld ?_
  refine ba E E E (fun w _=>cI 8 (by omega)) ?_
  refine dT E E (fun w _=>dH KG KR) ?_
  refine ay E E (ay E E ?_)
  refine aA E E E (fun w _=>had w) ?_
  refine aN E E hld ?_
  refine ba E E E (fun w _=>cI 16 (by omega)) ?_
  refine dT E E (fun w _=>dH KG KR) ?_
  refine ay E E (ay E E ?_)
  refine aA E E E (fun w _=>had w) ?_
  refine aN E E hld ?_
  refine ba E E E (fun w _=>cI 24 (by omega)) ?_
  refine dT E E (fun w _=>dH KG KR) ?_
  refine f8 (S:=cE (AU ns[k])) (cE.stable _) E (fun w' _=>by
   rintro _ rfl _ rfl _ rfl _ rfl
   obtain⟨r3,w3,hr3,hx3,ho3,_⟩:=dR (w:=w') w'.heap.size (AU ns[k]) (by simp[AU]) (Nat.le_refl _)
   exact⟨r3,w3,hr3,hx3,ho3.bts⟩) ?_
  refine cb ?_
  intro w3 hx3
  rintro _ rfl _ rfl _ rfl r3 hr3
  obtain⟨r4,w4,hr4,ho4,hg4⟩:=df (ty:=22) (hb.ext hx3) hr3 (by simp only[AU,List.length_cons,List.length_nil];omega) (Nat.le_trans hx2.size hx3.size)
  refine aW E E hr4 ?_
  refine ac E E (ag (aR (ab (aa (ae E E ?_)))))
  refine ak E E E (aP (by omega) (by omega)) ?_
  refine ac E E (ag ?_)
  refine bJ (k+1,r4) ⟨rfl,rfl,rfl,trivial⟩ ⟨?_,(hx2.trans hx3).of_grew hg4 hb.ge,hlt⟩ (by show ns.length-(k+1)<ns.length-k;omega)
  show cF _ (l++uv ns.length++gy (ns.take (k+1))) r4 w4
  rw[vV ns k hlt,←List.append_assoc]
  exact ho4
 ·have hk':k=ns.length:=by omega
  refine be (aK (aK (bf (ab (af (aa (ae E E (ac E E (ag (ab (aw ?_)))))))))))
  refine av E E ?_
  rw[hk',List.take_length,List.append_assoc] at hb
  exact⟨_,rfl,hx2,hb⟩
theorem nP {b:Bool} {n m:List UInt32} {rv:Value} (hv:cE l v w) (hr:dt b n m rv w) (hl:l.length+4*n.length+4*m.length≤8796093022208):
 Calls Tryz.prog 103 #[v,rv] w (bH fun r w'=>aJ w w'∧cF w.heap.size (l++nA b n m) r w'):=by
 obtain⟨x,y,rfl,hx,hy⟩:=hr
 have hn:=zB n (by have:=hx.len;omega)
 refine enter (vs:=[v,.agg #[B b,x,y]]) Tryz.func103 E E E ?_
 refine af (aa (cm E E vT ?_))
 have e1:aJ w (w.alloc (.cells (Value.agg #[B b,x,y]).cells 46)):=aJ.new w _
 have hbx:=heap_alloc_new w (.cells (Value.agg #[B b,x,y]).cells 46)
 revert e1 hbx
 generalize w.alloc (.cells (Value.agg #[B b,x,y]).cells 46)=w1
 intro e1 hbx
 have cell:∀(i:Nat) (u:Value),(#[B b,x,y]:Array Value)[i]? =some u→∀w',aJ w1 w'→w'.cell? ⟨w.heap.size,i,none⟩=some u:=fun i u hu w' hw'=>iJ (hw'.at hbx) hu
 refine ac E E (ag (ab (af (aa (ac E E (ag (ab ?_)))))))
 refine af (ei (fun _:Unit=>[(0,v),(3,.pointer (some ⟨w.heap.size,0,none⟩)),(5,U8 (yl b))]) (fun _ w'=>w'=w1) ?_ ?_)
 ·refine af (aa ?_)
  refine ah E E (cp KJ E uc (by omega)) ?_
  refine aj E E (ai KQ E (cell 0 _ E _ (aJ.refl _))) ?_
  refine ag (ab ?_)
  cases b with
  |true=>exact bg rfl (aa (ac rfl rfl (ag (bP () ⟨rfl,rfl,rfl,trivial⟩ rfl))))
  |false=>exact cy rfl (aC (bP () ⟨rfl,rfl,rfl,trivial⟩ rfl))
 rintro _ w2 rfl
 refine ab (af ?_)
 refine fR (aJ w2) 12 E (by kernel_rfl) ?_
 have hd:aJ w2 w2.drew:=(aJ.refl w2).drew
 refine cT 0 E E (by kernel_rfl) E hd ?_
 refine cT 2 E E (by kernel_rfl) E hd ?_
 refine c6 5 E E (by kernel_rfl) E hd (fun w' _=>cp KJ E qF (by omega)) ?_
 refine eQ 6 E E (by kernel_rfl) E hd (fun w' hw'=>ai KE E (cell 1 _ E _ hw')) ?_
 refine c6 8 E E (by kernel_rfl) E hd (fun w' _=>cp KJ E qF (by omega)) ?_
 refine eQ 9 E E (by kernel_rfl) E hd (fun w' hw'=>ai KE E (cell 2 _ E _ hw')) ?_
 refine jm (fun p:Value×Value=>[(9,p.1),(11,p.2),(14,x),(17,y)]) (fun p w'=>aJ w2 w'∧cF w2.heap.size l p.1 w'∧cE [yl b] p.2 w') #[true,true,true,true,false,true,true,false,true,true,false,false] 4 ?_ (fun join=>gC 1 3 (by kernel_rfl) E E ?_ ?_)
 ·rintro⟨r9,r11⟩ w3 ⟨hx3,ho9,ho11⟩
  dsimp only at ho9 ho11
  refine aQ 4 (by kernel_rfl) E ?_
  obtain⟨r4,w4,hr4,ho4,hg4⟩:=df (ty:=22) ho9 ho11 (by simp only[List.length_cons,List.length_nil];omega) hx3.size
  have hx4:=hx3.of_grew hg4 ho9.ge
  refine aW E E hr4 (aF hx4 ?_)
  refine aQ 7 (by kernel_rfl) E ?_
  refine an zA E E (zC hx4 ho4 (hx.ext e1) (by simp only[List.length_append,List.length_cons,List.length_nil];omega)) ?_
  rintro r5 w5 ⟨ho5,hx5,_⟩
  refine aF hx5 (aQ 10 (by kernel_rfl) E ?_)
  refine an zA E E (zC hx5 ho5 (hy.ext e1) (by simp only[List.length_append,List.length_cons,List.length_nil];omega)) ?_
  rintro r6 w6 ⟨ho6,hx6,_⟩
  refine aF hx6 (aQ 11 (by kernel_rfl) E ?_)
  refine ac E E (aF hx6 (fS (by kernel_rfl) (ab (aw ?_))))
  refine av E E ?_
  refine⟨_,rfl,e1.trans hx6,?_⟩
  have:=ho6.low e1.size
  simpa only[nA,List.append_assoc] using this
 ·refine an jP E E (jR ((hv.ext e1).ext hd) (by omega)) ?_
  rintro r9 w3 ⟨hx3,ho9⟩
  obtain⟨r11,w4,hr11,hx4,ho11,_⟩:=dR (w:=w3) w3.heap.size [yl b] (by simp) (Nat.le_refl _)
  refine aF (hd.trans hx3) (aQ 3 (by kernel_rfl) E ?_)
  refine aG (vs:=[(0,U8 (yl b))]) E E hr11 (aF ((hd.trans hx3).trans hx4) (zV (by kernel_rfl) (join _ _ ⟨(r9,r11),⟨rfl,rfl,rfl,rfl,trivial⟩,(hd.trans hx3).trans hx4,?_,ho11.bts⟩)))
  exact(ho9.ext hx4).low hd.size
 ·obtain⟨r11,w3,hr11,hx3,ho11,_⟩:=dR (w:=w2.drew) w2.heap.size [yl b] (by simp) hd.size
  refine aG (vs:=[(0,U8 (yl b))]) E E hr11 (aF (hd.trans hx3) (aQ 1 (by kernel_rfl) E ?_))
  refine an jP E E (jR (((hv.ext e1).ext hd).ext hx3) (by omega)) ?_
  rintro r9 w4 ⟨hx4,ho9⟩
  refine aF ((hd.trans hx3).trans hx4) (zV (by kernel_rfl) (join _ _ ⟨(r9,r11),⟨rfl,rfl,rfl,rfl,trivial⟩,(hd.trans hx3).trans hx4,?_,ho11.bts.ext hx4⟩))
  exact ho9.low (hd.trans hx3).size
theorem jo {b:Bool} {n m:List UInt32} {rv:Value} (hv:cE l v w) (hr:dt b n m rv w) (hl:l.length+4*n.length+4*m.length≤8796093022208):
 Calls Tryz.prog 81 #[v,rv] w (bH fun r w'=>aJ w w'∧cF w.heap.size (l++nA b n m) r w'):=by
 obtain⟨x,y,rfl,hx,hy⟩:=hr
 have hn:=zB n (by have:=hx.len;omega)
 refine enter (vs:=[v,.agg #[B b,x,y]]) Tryz.func81 E E E ?_
 refine af (aa (cm E E vT ?_))
 have e1:aJ w (w.alloc (.cells (Value.agg #[B b,x,y]).cells 46)):=aJ.new w _
 have hbx:=heap_alloc_new w (.cells (Value.agg #[B b,x,y]).cells 46)
 revert e1 hbx
 generalize w.alloc (.cells (Value.agg #[B b,x,y]).cells 46)=w1
 intro e1 hbx
 have cell:∀(i:Nat) (u:Value),(#[B b,x,y]:Array Value)[i]? =some u→∀w',aJ w1 w'→w'.cell? ⟨w.heap.size,i,none⟩=some u:=fun i u hu w' hw'=>iJ (hw'.at hbx) hu
 refine ac E E (ag (ab (af (aa (ac E E (ag (ab ?_)))))))
 refine af (ei (fun _:Unit=>[(0,v),(3,.pointer (some ⟨w.heap.size,0,none⟩)),(5,U8 (yl b))]) (fun _ w'=>w'=w1) ?_ ?_)
 ·refine af (aa ?_)
  refine ah E E (cp KJ E uc (by omega)) ?_
  refine aj E E (ai KQ E (cell 0 _ E _ (aJ.refl _))) ?_
  refine ag (ab ?_)
  cases b with
  |true=>exact bg rfl (aa (ac rfl rfl (ag (bP () ⟨rfl,rfl,rfl,trivial⟩ rfl))))
  |false=>exact cy rfl (aC (bP () ⟨rfl,rfl,rfl,trivial⟩ rfl))
 rintro _ w2 rfl
 refine ab (af ?_)
 refine fR (aJ w2) 13 E (by kernel_rfl) ?_
 have hd:aJ w2 w2.drew:=(aJ.refl w2).drew
 refine cT 1 E E (by kernel_rfl) E hd ?_
 refine cT 3 E E (by kernel_rfl) E hd ?_
 refine c6 6 E E (by kernel_rfl) E hd (fun w' _=>cp KJ E qF (by omega)) ?_
 refine eQ 7 E E (by kernel_rfl) E hd (fun w' hw'=>ai KE E (cell 1 _ E _ hw')) ?_
 refine c6 9 E E (by kernel_rfl) E hd (fun w' _=>cp KJ E qF (by omega)) ?_
 refine eQ 10 E E (by kernel_rfl) E hd (fun w' hw'=>ai KE E (cell 2 _ E _ hw')) ?_
 have hv2:cE l v w2:=hv.ext e1
 refine jm (fun p:Value×Value=>[(10,p.1),(12,p.2),(15,x),(18,y)]) (fun p w'=>aJ w2 w'∧cF w2.heap.size l p.1 w'∧cE [yl b] p.2 w') #[true,true,true,true,true,false,true,true,false,true,true,false,false] 4 ?_ (fun join=>gC 0 4 (by kernel_rfl) E E ?_ ?_)
 ·rintro⟨r9,r11⟩ w3 ⟨hx3,ho9,ho11⟩
  dsimp only at ho9 ho11
  refine aQ 5 (by kernel_rfl) E ?_
  obtain⟨r4,w4,hr4,ho4,hg4⟩:=df (ty:=22) ho9 ho11 (by simp only[List.length_cons,List.length_nil];omega) hx3.size
  have hx4:=hx3.of_grew hg4 ho9.ge
  refine aW E E hr4 (aF hx4 ?_)
  refine aQ 8 (by kernel_rfl) E ?_
  refine an nt E E (nw ho4.bts ((hx.ext e1).ext hx4) (by simp only[List.length_append,List.length_cons,List.length_nil];omega)) ?_
  rintro r5 w5 ⟨hx5,ho5⟩
  refine aF (hx4.trans hx5) (aQ 11 (by kernel_rfl) E ?_)
  refine an nt E E (nw ho5.bts ((hy.ext e1).ext (hx4.trans hx5)) (by simp only[List.length_append,List.length_cons,List.length_nil];omega)) ?_
  rintro r6 w6 ⟨hx6,ho6⟩
  have q6:=(hx4.trans hx5).trans hx6
  refine aF q6 (aQ 12 (by kernel_rfl) E ?_)
  refine ac E E (aF q6 (fS (by kernel_rfl) (ab (aw ?_))))
  refine av E E ?_
  refine⟨_,rfl,e1.trans q6,?_⟩
  have:=ho6.low (e1.trans (hx4.trans hx5)).size
  simpa only[nA,List.append_assoc] using this
 ·obtain⟨r8,w3,hr8,hx3,ho8,_⟩:=dR (w:=w2.drew) w2.heap.size [] (by simp) hd.size
  refine aG (vs:=[]) E E hr8 (aF (hd.trans hx3) (gC 2 4 (by kernel_rfl) E E ?_ ?_))
  ·obtain⟨r4,w4,hr4,ho4,hg4⟩:=df (ty:=22) ho8 ((hv2.ext hd).ext hx3) (by simp only[List.length_nil];omega) (hd.trans hx3).size
   have hx4:=(hd.trans hx3).of_grew hg4 ho8.ge
   refine aW E E hr4 (aF hx4 (aQ 4 (by kernel_rfl) E ?_))
   obtain⟨r11,w5,hr11,hx5,ho11,_⟩:=dR (w:=w4) w4.heap.size [yl b] (by simp) (Nat.le_refl _)
   refine aG (vs:=[(0,U8 (yl b))]) E E hr11 (aF (hx4.trans hx5) (zV (by kernel_rfl) (join _ _ ⟨(r4,r11),⟨rfl,rfl,rfl,rfl,trivial⟩,hx4.trans hx5,?_,ho11.bts⟩)))
   exact ho4.ext hx5
  ·obtain⟨r11,w4,hr11,hx4,ho11,hb11⟩:=dR (w:=w3) w3.heap.size [yl b] (by simp) (Nat.le_refl _)
   have hx04:=(hd.trans hx3).trans hx4
   refine aG (vs:=[(0,U8 (yl b))]) E E hr11 (aF hx04 (aQ 2 (by kernel_rfl) E ?_))
   obtain⟨r4,w5,hr4,ho4,hg4⟩:=df (ty:=22) (ho8.ext hx4) (hv2.ext hx04) (by simp only[List.length_nil];omega) hx04.size
   have hx5:=hx04.of_grew hg4 ho8.ge
   have hb5:=ho11.grown hg4 (.inr (by rw[hb11];intro he;have:=ho8.lt _ he.symm;omega))
   exact aW rfl rfl hr4 (aF hx5 (zV (by kernel_rfl) (join _ _ ⟨(r4,r11),⟨rfl,rfl,rfl,rfl,trivial⟩,hx5,ho4,hb5.bts⟩)))
 ·obtain⟨r11,w3,hr11,hx3,ho11,hb11⟩:=dR (w:=w2.drew) w2.drew.heap.size [yl b] (by simp) (Nat.le_refl _)
  have hx03:=hd.trans hx3
  refine aG (vs:=[(0,U8 (yl b))]) E E hr11 (aF hx03 (aQ 0 (by kernel_rfl) E ?_))
  obtain⟨r8,w4,hr8,hx4,ho8,hb8⟩:=dR (w:=w3) w2.heap.size [] (by simp) hx03.size
  have hx04:=hx03.trans hx4
  refine aG (vs:=[]) E E hr8 (aF hx04 (aQ 2 (by kernel_rfl) E ?_))
  obtain⟨r4,w5,hr4,ho4,hg4⟩:=df (ty:=22) ho8 (hv2.ext hx04) (by simp only[List.length_nil];omega) hx04.size
  have hx5:=hx04.of_grew hg4 ho8.ge
  have hb5:=(ho11.ext hx4).grown hg4 (.inr (by rw[hb8];intro he;have:=ho11.lt _ he;omega))
  exact aW rfl rfl hr4 (aF hx5 (zV (by kernel_rfl) (join _ _ ⟨(r4,r11),⟨rfl,rfl,rfl,rfl,trivial⟩,hx5,ho4,hb5.bts⟩)))
end
end Go.Rl
namespace Go.Rl
open Go.RowKit Go.Proofs
section
variable {P:Program} {w w':World}
theorem ap {s:TypeId} {fs:Array Field} {f:Field} {n g o:Nat} (hs:P.underlying s=some (.struct fs)) (hf:fs[n]? =some f) (hk:(P.cellsOf f.type==0)=false) (ho:f.offset=o):
 (Instr.fieldAt s (.pointer (some ⟨g,0,none⟩)) n).run P w=.ok (.pointer (some ⟨g,o,none⟩)) w:=by
 have hk':P.cellsOf f.type≠0:=by simpa using hk
 obtain⟨k,hk1⟩:∃k,(P.info? f.type).map (·.size)=some k:=by
  cases hi:(P.info? f.type).map (·.size) with
  |none=>exact absurd (by simp[Program.cellsOf,hi]) hk'
  |some k=>exact⟨k,rfl⟩
 have hk0:k≠0:=by
  intro h
  apply hk'
  simp[Program.cellsOf,hk1,h]
 rw[cp hs hf hk1 hk0,ho,pp,Nat.zero_add]
end
section
variable {w w':World}
theorem dt.stable (b:Bool) (n m:List UInt32):bG (dt b n m):=fun _ _ _ h hx=>h.ext hx
theorem dt.mk {b:Bool} {n m:List UInt32} {x y:Value} (hx:bi n x w) (hy:bi m y w):dt b n m (.agg #[B b,x,y]) w:=⟨x,y,rfl,hx,hy⟩
theorem bA.ldR {g:Nat} {T:TypeId} {a b c:Value} (h:bA g T [a,b,c] w):(Instr.loadAt 46 (.pointer (some ⟨g,0,none⟩))).run Tryz.prog w=.ok (.agg #[a,b,c]) w:=
 nF h (fun j v hj=>by simpa using hj) Tryz.underlying46 rfl dX
theorem pD {b:Bool} {n m:List UInt32} {v:Value} (h:dt b n m v w):
 ∃g x y w',(Instr.box 46 v).run Tryz.prog w=.ok (.pointer (some ⟨g,0,none⟩)) w'∧aJ w w'∧bA g 46 [B b,x,y] w'∧bi n x w'∧bi m y w':=by
 obtain⟨x,y,rfl,hx,hy⟩:=h
 exact⟨_,x,y,_,vT,aJ.new w _,bA.new (T:=46) (.agg #[B b,x,y]) rfl,hx.ext (aJ.new w _),hy.ext (aJ.new w _)⟩
theorem Fx:(Tryz.prog.info? 46).map (·.zero)=some (some (.agg #[B false,.slice none 0 0,.slice none 0 0])):=by kernel_rfl
theorem iz:∃g w',(Instr.alloc 46 true (.tuple #[])).run Tryz.prog w=.ok (.pointer (some ⟨g,0,none⟩)) w'∧w.heap.size≤g∧aJ w w'∧bA g 46 [B false,.slice none 0 0,.slice none 0 0] w':=
 aZ Fx rfl
theorem ue (b:Bool) (A C:Option Addr) (n c m d:Nat) (l:List UInt32):∀(j:Nat) (u:Value),u∈l.map bC→(#[.bool b,.slice A n c,.slice C m d]:Array Value)[j]? ≠some u:=by
 intro j u hu
 obtain⟨x,_,rfl⟩:=List.mem_map.1 hu
 match j with
 |0=>simp[bC]
 |1=>simp[bC]
 |2=>simp[bC]
 |j+3=>simp
theorem bi.byR {l:List UInt32} {v:Value} {g:Nat} {T:TypeId} {b:Bool} {x y:Value} (h:bi l v w) (hb:bA g T [B b,x,y] w) (hx:∃A n c,x=.slice A n c) (hy:∃A n c,y=.slice A n c) (hw:w.grownBy w' (some g)):bi l v w':=by
 obtain⟨A,n,c,rfl⟩:=hx
 obtain⟨C,m,d,rfl⟩:=hy
 exact Sl.keep h hb (ue b A C n c m d l) hw
theorem bi.isS {l:List UInt32} {v:Value} (h:bi l v w):∃A n c,v=.slice A n c:=by
 obtain⟨A,n,c,rfl,_⟩:=h
 exact⟨A,n,c,rfl⟩
theorem bA.stR {g:Nat} {b c:Bool} {x y v:Value} {n m:List UInt32} (h:bA g 46 [B b,x,y] w) (hx:∃A n c,x=.slice A n c) (hy:∃A n c,y=.slice A n c) (hv:dt c n m v w):
 ∃p q w',v=.agg #[B c,p,q]∧(Instr.storeAt 46 (.pointer (some ⟨g,0,none⟩)) v).run Tryz.prog w=.ok () w'∧w.grownBy w' (some g)∧bA g 46 [B c,p,q] w'∧bi n p w'∧bi m q w':=by
 obtain⟨p,q,rfl,hp,hq⟩:=hv
 obtain⟨A,n1,c1,rfl⟩:=hp.isS
 obtain⟨C,n2,c2,rfl⟩:=hq.isS
 refine⟨_,_,_,rfl,js (m:=[B c,.slice A n1 c1,.slice C n2 c2]) h E dX ?_,bF w g _,h.row _,hp.byR h hx hy (bF w g _),hq.byR h hx hy (bF w g _)⟩
 intro u hu
 simp only[List.mem_cons,List.not_mem_nil,or_false] at hu
 rcases hu with rfl|rfl|rfl<;>rfl
theorem tx {P:Program} {x y:Operand} {t:TypeId} (ht:P.underlying t=some .bool) {a b:Bool}:(bin .eql t x y (B a) (B b)).run P w=.ok (B (decide (a=b))) w:=by
 have h:(Op.equal t (B a) (B b)).run P w=.ok (decide (a=b)) w:=by
  show(Op.equalIn (9999+1) t (.bool a) (.bool b)).run P w=_
  unfold Op.equalIn
  cases a<;>cases b<;>simp[run_underlying ht]
 show(do pure (Value.bool (←Op.equal t (B a) (B b))):Sem Value).run P w=_
 rw[Sem.run_bind,h];rfl
theorem lC {c:Bool} {p q:Value} (hp:∃A n c,p=.slice A n c) (hq:∃A n c,q=.slice A n c):(Instr.build 46 #[(0,B c),(1,p),(2,q)]).run Tryz.prog w=.ok (.agg #[B c,p,q]) w:=by
 obtain⟨A,n,d,rfl⟩:=hp
 obtain⟨C,m,e,rfl⟩:=hq
 exact run_build _ _ _ #[B c,.slice A n d,.slice C m e] (by kernel_rfl)
theorem DM {c:Bool} {p:Value} (hp:∃A n c,p=.slice A n c):(Instr.build 46 #[(0,B c),(1,p)]).run Tryz.prog w=.ok (.agg #[B c,p,.slice none 0 0]) w:=by
 obtain⟨A,n,d,rfl⟩:=hp
 exact run_build _ _ _ #[B c,.slice A n d,.slice none 0 0] (by kernel_rfl)
theorem iP:(Instr.build 46 #[]).run Tryz.prog w=.ok (.agg #[B false,.slice none 0 0,.slice none 0 0]) w:=
 run_build _ _ _ #[B false,.slice none 0 0,.slice none 0 0] (by kernel_rfl)
end
theorem iA:∀{l m:List UInt32},l.length=m.length→val l=val m→l=m
 |[],[],_,_=>rfl
 |[],_::_,h,_=>by simp at h
 |_::_,[],h,_=>by simp at h
 |x::l,y::m,h,hv=>by
  have hx:=cK x
  have hy:=cK y
  rw[val,val] at hv
  have h1:x.toNat=y.toNat:=by omega
  have h2:val l=val m:=by omega
  rw[kj h1,iA (by simpa using h) h2]
def ud (m:List UInt32):List UInt32:=if val m=0 then[1] else m
theorem Fy:val [1]=1:=rfl
theorem yn:lb 1=[1]:=rfl
theorem Bh (m:List UInt32):val (ud m)=if val m=0 then 1 else val m:=by unfold ud;split<;>simp_all [Fy]
theorem Fz (m:List UInt32):0<val (ud m):=by rw[Bh];split<;>omega
def zW (s:Bool) (n:Nat):Bool:=s&&decide (0<n)
def wF (n d:Nat):List UInt32:=if d/Nat.gcd n d=1 then[] else lb (d/Nat.gcd n d)
def rv (s:Bool) (n m:List UInt32):Bool:=decide (s=zW s (val n)∧n=lb (val n/Nat.gcd (val n) (val (ud m)))∧m=wF (val n) (val (ud m)))
theorem CA {n d:Nat} (h:0<d):0<Nat.gcd n d:=Nat.gcd_pos_of_pos_right n h
theorem FA {x:Nat}:lb x=[1]↔x=1:=⟨fun h=>Fg (h.trans yn.symm),fun h=>by rw[h,yn]⟩
theorem Ho {d:Nat} (h:0<d):wF 0 d=[]:=by unfold wF;rw[Nat.gcd_zero_left,Nat.div_self h,if_pos rfl]
theorem FB {n:Nat}:wF n 1=[]:=by unfold wF;rw[Nat.gcd_one_right];rfl
end Go.Rl
namespace Go.Rl
open Go.RowKit Go.Proofs
section
variable {α:Type} {f:α→Dt} {l:List α} {v:Value} {w w':World}
def ct (f:α→Dt) (l:List α) (v:Value) (w:World):Prop:=Rp w (.sl (l.map f)) [v]
theorem ct.ext (h:ct f l v w) (hx:aJ w w'):ct f l v w':=Rp.ext hx h
theorem ct.stable (f:α→Dt) (l:List α):bG (ct f l):=fun _ _ _ h hx=>h.ext hx
theorem ct.isS (h:ct f l v w):∃A n c,v=.slice A n c:=by
 unfold ct at h
 simp only[Rp] at h
 obtain⟨A,n,c,hv,_⟩:=h
 exact⟨A,n,c,by simpa using hv⟩
theorem ct.one (h:ct f l v w):v.oneCell'=true:=by obtain⟨A,n,c,rfl⟩:=h.isS;rfl
theorem bi.one {l:List UInt32} (h:bi l v w):v.oneCell'=true:=by obtain⟨A,n,c,rfl⟩:=h.isS;rfl
theorem ct.nil (f:α→Dt) (w:World):ct f [] (.slice none 0 0) w:=Rp.nilSl
theorem ct.len (h:ct f l v w):l.length≤9223372036854775807:=by
 have:=Rp.slLen h
 simpa using this
theorem a9 {P:Program} {t e:TypeId} {ty:TypeId} (ht:P.underlying t=some (.slice e)) (h:ct f l v w):(Builtin.len_ #[t] ty #[v]).run P w=.ok (I l.length) w:=by
 have:=IS (ty:=ty) ht h
 simpa using this
theorem bR {P:Program} {t e:TypeId} {sz:Nat} (ht:P.underlying t=some (.slice e)) (hz:(P.info? e).map (·.size)=some sz) (hs:∀x,(f x).size=sz) (h0:0<sz) (h:ct f l v w) {i:Nat} (hi:i<l.length) (k:IntKind):
 ∃ad cs,(∀w':World,(Instr.indexAt t v (.int k i)).run P w'=.ok (.pointer (some ad)) w')∧dx w ad cs∧Rp w (f l[i]) cs:=by
 obtain⟨ad,cs,h1,h2,h3⟩:=J5 ht hz h (by simp[hs]) h0 (i:=i) (by simpa using hi) k
 exact⟨ad,cs,h1,h2,by simpa using h3⟩
theorem dx.at {ad:Addr} {xs:List Value} (h:dx w ad xs) {j:Nat} {u:Value} (hj:xs[j]? =some u):w.cell? (ad.add j)=some u:=h j u hj
theorem gr {P:Program} {s:TypeId} {fs:Array Field} {fd:Field} {n o:Nat} {a:Addr} (hs:P.underlying s=some (.struct fs)) (hf:fs[n]? =some fd) (hk:(P.cellsOf fd.type==0)=false) (ho:fd.offset=o):
 (Instr.fieldAt s (.pointer (some a)) n).run P w=.ok (.pointer (some (a.add o))) w:=by
 have hk':P.cellsOf fd.type≠0:=by simpa using hk
 obtain⟨k,hk1⟩:∃k,(P.info? fd.type).map (·.size)=some k:=by
  cases hi:(P.info? fd.type).map (·.size) with
  |none=>exact absurd (by simp[Program.cellsOf,hi]) hk'
  |some k=>exact⟨k,rfl⟩
 have hk0:k≠0:=by
  intro h
  apply hk'
  simp[Program.cellsOf,hk1,h]
 rw[cp hs hf hk1 hk0,ho]
theorem dx.ld {P:Program} {t:TypeId} {d:TypeDesc} {ad:Addr} {cs:List Value} (h:dx w ad cs) (ht:P.underlying t=some d) (hd:d.isRow=true) (hz:(P.info? t).map (·.size)=some cs.length):(Instr.loadAt t (.pointer (some ad))).run P w=.ok (.agg cs.toArray) w:=J6 h ht hd hz
theorem bA.ld {P:Program} {t T:TypeId} {d:TypeDesc} {g:Nat} {cs:List Value} (h:bA g T cs w) (ht:P.underlying t=some d) (hd:d.isRow=true) (hz:(P.info? t).map (·.size)=some cs.length):(Instr.loadAt t (.pointer (some ⟨g,0,none⟩))).run P w=.ok (.agg cs.toArray) w:=
 nF h (fun j v hj=>by simpa using hj) ht hd hz
theorem bA.ldO {P:Program} {t T:TypeId} {d:TypeDesc} {g o:Nat} {cs ms:List Value} (h:bA g T cs w) (hm:∀j v,ms[j]? =some v→cs[o+j]? =some v) (ht:P.underlying t=some d) (hd:d.isRow=true) (hz:(P.info? t).map (·.size)=some ms.length):(Instr.loadAt t (.pointer (some ⟨g,o,none⟩))).run P w=.ok (.agg ms.toArray) w:=
 nF h hm ht hd hz
theorem ca {P:Program} {T:TypeId} {cs:List Value}:∃g w',(Instr.box T (.agg cs.toArray)).run P w=.ok (.pointer (some ⟨g,0,none⟩)) w'∧w.heap.size≤g∧aJ w w'∧bA g T cs w':=
 ⟨_,_,vT,Nat.le_refl _,aJ.new w _,bA.new (T:=T) (.agg cs.toArray) rfl⟩
def ao (l:List Value):Prop:=∀v∈l,v.oneCell'=true
theorem ao.nil:ao []:=fun _ h=>by simp at h
theorem ao.cons {v:Value} {l:List Value} (h:v.oneCell'=true) (h':ao l):ao (v::l):=fun u hu=>by
 rcases List.mem_cons.1 hu with rfl|hu
 ·exact h
 ·exact h' u hu
theorem bA.stS {P:Program} {t T:TypeId} {g:Nat} {l m:List Value} (h:bA g T l w) (hl:l.length=m.length) (hi:(P.info? t).map (·.size)=some m.length) (h1:ao m):
 ∃w',(Instr.storeAt t (.pointer (some ⟨g,0,none⟩)) (.agg m.toArray)).run P w=.ok () w'∧w.grownBy w' (some g)∧bA g T m w':=
 ⟨_,js h hl hi h1,bF w g _,h.row m⟩
theorem bA.stC {P:Program} {t T:TypeId} {g i:Nat} {l:List Value} {v:Value} (h:bA g T l w) (hs:(P.info? t).map (·.size)=some 1) (hv:v.oneCell'=true) (hi:i<l.length):
 ∃w',(Instr.storeAt t (.pointer (some ⟨g,i,none⟩)) v).run P w=.ok () w'∧w.grownBy w' (some g)∧bA g T (l.set i v) w':=by
 have h':=h
 unfold bA at h'
 obtain h2:=ej (P:=P) (t:=t) (v:=v) hs hv h' (by simpa using hi)
 exact⟨_,h2,bh w g i v,h.set i v⟩
end
end Go.Rl
namespace Go.Rl
open Go.RowKit Go.Proofs
open Go.Maps (Keyed)
section ops
variable {P:Program} {ops:Array Oper} {Q:im} {N:Nat} {D:List Deferred} {l:Fr} {w w':World} {rest:List Oper} {d:Nat} {ty:TypeId} {pos:String} {aft:Array Edge}
end ops
theorem bA.k0 {w:World} {g:Nat} {T:TypeId} {v:Value} {l:List Value} (h:bA g T (v::l) w):w.cell? ⟨g,0,none⟩=some v:=h.cell (i:=0) rfl
end Go.Rl
namespace Go.Rl
open Go.RowKit Go.Proofs
section
variable {w0 w w':World} {l m:List UInt8} {v x:Value} {ty t t2 T:TypeId} {g base:Nat}
theorem Bi (ht:Tryz.prog.underlying t=some (.slice 5)) (ht2:Tryz.prog.underlying t2=some (.slice 5)) (a b:Value):(Builtin.append_ #[t,t2] ty #[a,b]).run Tryz.prog w=(Builtin.append_ #[22,22] ty #[a,b]).run Tryz.prog w:=by
 unfold Builtin.append_
 cases a<;>simp[Sem.run_bind,run_underlying ht,run_underlying ht2,run_underlying Tryz.underlying22]
structure gi (T:TypeId) (base g:Nat) (l:List UInt8) (v:Value) (w:World):Prop where
 ge:base≤g
 blk:bA g T [v] w
 row:IR base l v w
 new:∀k,v.ownBlock=some k→base≤k
 off:v.ownBlock≠some g
 lt:∀k,v.ownBlock=some k→k<w.heap.size
theorem IR.bts (h:IR base l v w):cE l v w:=h.elim (·.bts) (·.1)
theorem gi.ext (h:gi T base g l v w) (hx:aJ w w'):gi T base g l v w':=⟨h.ge,h.blk.ext hx,h.row.ext hx,h.new,h.off,fun k hk=>Nat.lt_of_lt_of_le (h.lt k hk) hx.size⟩
theorem gi.off_new {k:Nat} (h:gi T base g l v w) (hk:w.heap.size≤k):¬(k=g∨v.ownBlock=some k):=by
 rintro(rfl|h1)
 ·have:=h.blk.lt;omega
 ·have:=h.lt k h1;omega
structure cO (g:Nat) (v:Value) (w:World) (v':Value) (w':World):Prop where
 mv:Mv (fun k=>k=g∨v.ownBlock=some k) w w'
 own:∀k,v'.ownBlock=some k→v.ownBlock=some k∨w.heap.size≤k
theorem cO.of_ext (h:aJ w w'):cO g v w v w':=⟨Mv.of_ext h,fun _ h=>.inl h⟩
theorem cO.refl:cO g v w v w:=cO.of_ext (aJ.refl w)
theorem cO.trans {v1 v2:Value} {w1 w2:World} (h:cO g v w v1 w1) (k:cO g v1 w1 v2 w2):cO g v w v2 w2:=by
 refine⟨h.mv.trans k.mv fun n hn hlt=>?_,fun n hn=>?_⟩
 ·rcases hn with hn|hn
  ·exact .inl hn
  ·rcases h.own n hn with h1|h1
   ·exact .inr h1
   ·omega
 ·rcases k.own n hn with h1|h1
  ·exact h.own n h1
  ·exact .inr (Nat.le_trans h.mv.size h1)
theorem cO.off {k:Nat} {v1:Value} {w1:World} (h:cO g v w v1 w1) (hn:¬(k=g∨v.ownBlock=some k)) (hk:k<w.heap.size):¬(k=g∨v1.ownBlock=some k):=by
 rintro(h1|h1)
 ·exact hn (.inl h1)
 ·rcases h.own k h1 with h2|h2
  ·exact hn (.inr h2)
  ·omega
theorem cO.ext {v1:Value} {w1:World} (h:cO g v w v1 w1) (h0:aJ w0 w) (hg:w0.heap.size≤g) (hv:∀k,v.ownBlock=some k→w0.heap.size≤k):aJ w0 w1:=
 h.mv.ext_from h0 fun k hk=>by
  rcases hk with rfl|hk
  ·exact hg
  ·exact hv k hk
def WrX (g:Nat) (v:Value):Nat→Prop:=fun k=>k=g∨v.ownBlock=some k
theorem cv.step {v1:Value} {w1:World} {d:Dt} {cs:List Value} (h:cv (WrX g v) w d cs) (k:cO g v w v1 w1):cv (WrX g v1) w1 d cs:=h.mv k.mv fun n hn=>by
 rcases hn with hn|hn
 ·exact .inl (.inl hn)
 ·rcases k.own n hn with h1|h1
  ·exact .inl (.inr h1)
  ·exact .inr h1
theorem gi.put (ht:Tryz.prog.underlying t=some (.slice 5)) (hs:(Tryz.prog.info? t).map (·.size)=some 1) (ht2:Tryz.prog.underlying t2=some (.slice 5)) (h:gi T base g l v w) (h0:base≤w.heap.size) (hx:cE m x w) (hm:0<m.length) (hb:l.length+m.length≤140737488355328):
 ∃r w1 w2,(Builtin.append_ #[t,t2] ty #[v,x]).run Tryz.prog w=.ok r w1∧(Instr.storeAt t (.pointer (some ⟨g,0,none⟩)) r).run Tryz.prog w1=.ok () w2∧gi T base g (l++m) r w2∧cO g v w r w2:=by
 have key:∃r w1,(Builtin.append_ #[22,22] ty #[v,x]).run Tryz.prog w=.ok r w1∧cF base (l++m) r w1∧cO g v w r w1∧bA g T [v] w1∧r.ownBlock≠some g:=by
  rcases h.row with hv|⟨hv,hfull⟩
  ·obtain⟨r,w1,h1,h2,h3⟩:=df (ty:=ty) hv hx hb h0
   refine⟨r,w1,h1,h2,⟨Mv.of_grown h3.grown fun k hk _=>.inr hk,fun k hk=>?_⟩,h.blk.other h3.grown (Ne.symm h.off),?_⟩
   ·rcases h3.own with h4|h4
    ·rw[h4] at hk;exact .inl hk
    ·exact .inr (h4 k hk)
   ·rcases h3.own with h4|h4
    ·rw[h4];exact h.off
    ·intro h5
     have:=h4 g h5
     have:=h.blk.lt
     omega
  ·obtain⟨r,w1,h1,h2,h3⟩:=A3 (ty:=ty) (w0:=w) (aJ.refl w) (.inr ⟨hv,hfull⟩) hx hm hb
   refine⟨r,w1,h1,h2.low h0,⟨Mv.of_ext h3,fun k hk=>.inr (h2.ge k hk)⟩,h.blk.ext h3,fun h5=>?_⟩
   have:=h2.ge g h5
   have:=h.blk.lt
   omega
 obtain⟨r,w1,h1,h2,h3,h4,h5⟩:=key
 have hr1:r.oneCell'=true:=by
  obtain⟨A,n,c,rfl,_⟩:=h2.bts
  rfl
 obtain⟨w2,h6,h7,h8⟩:=h4.stC (P:=Tryz.prog) (t:=t) (i:=0) (v:=r) hs hr1 (by simp)
 refine⟨r,w1,w2,(Bi ht ht2 v x).trans h1,h6,⟨h.ge,h8,.inl ?_,h2.ge,h5,fun k hk=>Nat.lt_of_lt_of_le (h2.lt k hk) h7.size⟩,h3.trans ⟨Mv.of_grown h7 fun k hk _=>.inl (Option.some.inj hk).symm,fun k hk=>.inl hk⟩⟩
 obtain⟨n,h9⟩:=h2
 exact⟨n,World.ownsRow.kept h9 h7 (.inr h5)⟩
theorem FC (ht:Tryz.prog.underlying t=some (.slice 5)) (l:List UInt8) (hl:l.length≤16777216) (h0:0<l.length):∃v w1 w2,(Instr.buildSlice t l.length (dG 0 (l.map U8)).toArray).run Tryz.prog w=.ok v w1∧(convert t t v).run Tryz.prog w1=.ok v w2∧aJ w w2∧cE l v w2∧∃ad,v=.slice (some ad) l.length l.length∧w.heap.size≤ad.block∧ad.block<w2.heap.size:=by
 obtain⟨i,hi,hz0,hs,_⟩:=info_parts tq
 have hf:∀Z:Array Value,Z.size=(l.map U8).length→Instr.fill (fun i=>some (i*1,1)) Z (dG 0 (l.map U8))=some (l.map U8).toArray:=fun Z hZ=>by
  have:=sn (l.map U8) [] Z.toList (fun v hv=>vS (iu l v hv)) (by simpa using hZ)
  simpa using this
 have hle:¬(l.length*1>2^24):=by omega
 have hinfo:(typeInfo 5).run Tryz.prog w=.ok i w:=by simp[typeInfo,hi]
 have hsz:(sizeOf 5).run Tryz.prog w=.ok 1 w:=by simp[sizeOf,hinfo,hs]
 have hzv:(zeroValue 5).run Tryz.prog w=.ok (.int .u8 0) w:=by simp[zeroValue,hinfo,hz0]
 have hrun:(Instr.buildSlice t l.length (dG 0 (l.map U8)).toArray).run Tryz.prog w=.ok (.slice (some ⟨w.heap.size,0,none⟩) l.length l.length) (w.alloc (.cells (l.map U8).toArray 5)):=by
  simp only[Instr.buildSlice,Sem.run_bind,run_underlying ht,Result.andThen_ok,hsz,if_neg hle]
  rw[if_neg (by omega)]
  simp only[Sem.run_bind,Sem.run_pure,Result.andThen_ok,hzv]
  rw[hf _ (by simp[Value.cells])]
  simp[newRow]
 refine⟨_,_,_,hrun,Go.Lib.run_convert_bytes_const w t 5 _ _ _ ht Tryz.underlying5,aJ.new w _,?_,⟨_,rfl,Nat.le_refl _,by simp⟩⟩
 have hg:=heap_alloc_new w (.cells (l.map U8).toArray 5 ((l.map U8).toArray.size,(l.map U8).toArray.size+1))
 refine⟨_,_,_,rfl,Nat.le_refl _,by unfold maxLen;omega,by simp,fun _=>⟨_,rfl,fun j u hu=>?_⟩,fun h=>by cases h⟩
 rw[Addr.add_mid,Nat.zero_add,cell_of_row _ _ j _ _ _ hg]
 simpa using hu
end
end Go.Rl
namespace Go.Rl
open Go.RowKit Go.Proofs
theorem DN:aH Tryz.prog 184:=⟨_,Tryz.func184,by kernel_rfl,rfl⟩
theorem pE:aH Tryz.prog 180:=⟨_,Tryz.func180,by kernel_rfl,rfl⟩
theorem zX:aH Tryz.prog 163:=⟨_,Tryz.func163,by kernel_rfl,rfl⟩
theorem Bj:aH Tryz.prog 162:=⟨_,Tryz.func162,by kernel_rfl,rfl⟩
theorem zY:aH Tryz.prog 137:=⟨_,Tryz.func137,by kernel_rfl,rfl⟩
theorem eI:aH Tryz.prog 99:=⟨_,Tryz.func99,by kernel_rfl,rfl⟩
theorem DO {w:World}:
 Calls Tryz.prog 184 #[] w (bH fun r w'=>aJ w w'∧bi [1] r w'):=by
 refine enter (vs:=[]) Tryz.func184 E E E ?_
 refine af (aa (ac E E (ag (ab (af (aa ?_))))))
 obtain⟨v1,w1,hr1,x1,o1,ob1⟩:=i8 Tryz.underlying44 (w:=w) w.heap.size [1] (by simp) (Nat.le_refl _)
 refine aG (vs:=[(0,bC (1))]) E E hr1 (ac E E (ag (ab (aw (av E E ?_)))))
 exact⟨_,rfl,x1,o1.wds⟩
theorem pG {w:World} {x:Nat} {v:Value} (hv:bi (lb x) v w):
 Calls Tryz.prog 180 #[v] w (bH fun r w'=>w=w'∧r=B (decide (x=1))):=by
 refine enter (vs:=[v]) Tryz.func180 E E E ?_
 obtain⟨t,ht⟩:∃t,t=lb x:=⟨_,rfl⟩
 rw[←ht] at hv
 have h1:x=1↔t=[1]:=by rw[ht];exact FA.symm
 refine af (aa (ac E E (ag (ab (af (aa (ae E E (aS E E (bw KE hv) (ak E E E (a6) ?_)))))))))
 refine ae E E ?_
 refine cq (fun h6=>?_) (fun h6=>?_)
 ·refine al E (ae E E (al E ?_))
  obtain⟨a8,p8,q8⟩:=cJ KE hv (i:=0) (by omega) .i64
  refine au E E E (p8 _) (al E (aj E E (ai KG E q8) (al E (ak (v:=bC 1) E E E (oy) (ar E E E ?_)))))
  refine ac E E (ag (ab (aw (av E E ?_))))
  exact⟨_,rfl,rfl,by
   first
   |exact congrArg B (decide_eq_false fun h=>h6 (by rw[h1.1 h];rfl)).symm
   |exact congrArg B (decide_eq_decide.2 (by
     rw[h1]
     obtain⟨y,rfl⟩:=List.length_eq_one_iff.1 (show t.length=1 by omega)
     simp))⟩
 ·refine am E E E (am E E E (am E E E (am E E E (aI E E E (ac E E (ag (ab (aw (av E E ?_)))))))))
  exact⟨_,rfl,rfl,by
   first
   |exact congrArg B (decide_eq_false fun h=>h6 (by rw[h1.1 h];rfl)).symm
   |exact congrArg B (decide_eq_decide.2 (by
     rw[h1]
     obtain⟨y,rfl⟩:=List.length_eq_one_iff.1 (show t.length=1 by omega)
     simp))⟩
theorem zZ {w:World} {b:Bool} {n m:List UInt32} {v:Value} (hv:dt b n m v w) (hl:m.length≤1099511627776):
 Calls Tryz.prog 163 #[v] w (bH fun r w'=>aJ w w'∧bi (ud m) r w'):=by
 refine enter (vs:=[v]) Tryz.func163 E E E ?_
 refine af (aa ?_)
 obtain⟨g1,y1,z1,w1,hr1,x1,k1,n1,d1⟩:=pD hv
 refine cm E E hr1 (ac E E (ag (ab (af (af (aa (ah E E (ap (o:=2) KJ E (by kernel_rfl) E) ?_)))))))
 refine aj E E (ai KE E (k1.cell (i:=2) E)) (an Ba E E (Bb d1 hl) ?_)
 rintro v5 _ ⟨rfl,rfl⟩
 refine ak E E E (a6) (ag (ab ?_))
 refine bt E (fun h6=>?_) (fun h6=>?_)
 ·have h0:val m=0:=by
   rcases Nat.eq_zero_or_pos (val m) with h|h
   ·exact h
   ·have:=tX h
    omega
  refine af (aa (an (vs:=[]) DN E E (DO) ?_))
  rintro v7 w7 ⟨x7,b7⟩
  refine ac E E (ag (ab (aw (aD (av E E ?_)))))
  exact⟨_,rfl,(x1.trans x7),by unfold ud;rw[if_pos h0];exact b7⟩
 ·have h0:val m≠0:=fun h=>h6 (by rw[h];rfl)
  refine aC (ab (af (aa (ah E E (ap (o:=2) KJ E (by kernel_rfl) E) (aj E E (ai KE E (k1.cell (i:=2) E)) ?_)))))
  refine ac E E (ag (ab (aw (av E E ?_))))
  exact⟨_,rfl,x1,by unfold ud;rw[if_neg h0];exact d1⟩
theorem Bk {w:World} {s:Bool} {n d:List UInt32} {x y:Value} (hn:bi n x w) (hd:bi d y w) (hnl:n.length≤274877906944) (hdl:d.length≤274877906944) (hd0:0<val d):
 Calls Tryz.prog 162 #[B s,x,y] w (bH fun r w'=>aJ w w'∧dt (zW s (val n)) (lb (val n/Nat.gcd (val n) (val d))) (wF (val n) (val d)) r w'):=by
 refine enter (vs:=[B s,x,y]) Tryz.func162 E E E ?_
 have hnn:=gZ (cz n)
 have hdd:=gZ (cz d)
 have hg0:=CA (n:=val n) hd0
 refine af (aa ?_)
 obtain⟨g6,w6,hr6,l6,x6,k6⟩:=iz (w:=w)
 refine aX E hr6 (ag (ab (af (aa (ae E E (an mh E E (mi (hn.ext x6) (by omega)) ?_))))))
 rintro v9 w9 ⟨x9,b9⟩
 refine ac E E (ag (ab (af (af (aa (ae E E (aS (r:=I ((lb (val n)).length:Int)) E E (bw KE b9) ?_)))))))
 refine ak E E E (a6) (ag (ab ?_))
 refine bt E (fun h12=>?_) (fun h12=>?_)
 ·have hn0:val n=0:=gH.1 (by omega)
  refine af (aa ?_)
  refine bj (vs:=[]) E E iP ?_
  obtain⟨p,q,w3,hp,hs,q3,k3,n3,d3⟩:=(k6.ext (x9)).stR ⟨_,_,_,rfl⟩ ⟨_,_,_,rfl⟩ (dt.mk (b:=false) (bi.nil _) (bi.nil _))
  refine ax E E (hs) (ag (ab (aw (aD ?_))))
  refine cZ E E k3 KJ E dX ?_
  exact⟨_,rfl,((x6.trans x9)).of_new q3 l6,p,q,by rw[hn0];unfold zW;simp,by rw[hn0,Nat.zero_div];exact n3,by rw[hn0,Ho hd0];exact d3⟩
 ·have hn0:0<val n:=by
   rcases Nat.eq_zero_or_pos (val n) with h|h
   ·rw[h] at h12;simp[gd] at h12
   ·exact h
  have hcN:zW s (val n)=s:=by unfold zW;rw[decide_eq_true hn0,Bool.and_true]
  rw[hcN]
  refine aC (ab (af (aa (ae E E (an mh E E (mi (hd.ext (x6.trans x9)) (by omega)) ?_)))))
  rintro v15 w15 ⟨x15,b15⟩
  refine ac E E (ag (ab (af (af (aa (ae E E (an pE E E (pG b15) ?_)))))))
  rintro v17 _ ⟨rfl,rfl⟩
  refine ag (ab ?_)
  refine bt E (fun h17=>?_) (fun h17=>?_)
  ·refine af (aa (ae E E (ae E E ?_)))
   refine bj (vs:=[(0,B s),(1,v9)]) E E (DM b9.isS) ?_
   obtain⟨p,q,w3,hp,hs,q3,k3,n3,d3⟩:=(k6.ext ((x9.trans x15))).stR ⟨_,_,_,rfl⟩ ⟨_,_,_,rfl⟩ (dt.mk (b:=s) (b9.ext (x15)) (bi.nil _))
   refine ax E E (hs) (ag (ab (aw (aD ?_))))
   refine cZ E E k3 KJ E dX ?_
   exact⟨_,rfl,(((x6.trans x9).trans x15)).of_new q3 l6,p,q,rfl,by rw[h17,Nat.gcd_one_right,Nat.div_one];exact n3,by rw[h17,FB];exact d3⟩
  ·obtain⟨g,hg⟩:∃g,g=Nat.gcd (val n) (val d):=⟨_,rfl⟩
   rw[←hg] at hg0⊢
   have hgl:(lb g).length≤d.length:=Nat.le_trans (lB (by rw[hg];exact Nat.gcd_le_right _ hd0)) hdd
   refine aC (ab (af ?_))
   refine ei (fun p:Value×Value=>[(0,B s),(1,p.1),(2,p.2),(6,.pointer (some ⟨g6,0,none⟩))]) (fun p w'=>aJ w15 w'∧bi (lb (val n/g)) p.1 w'∧bi (lb (val d/g)) p.2 w') ?_ ?_
   ·refine af (aa (ae E E (ae E E (an DJ E E ((by have:=DL (b9.ext x15) b15 (by omega) (by omega);rw[bK,bK] at this;exact this)) ?_))))
    rintro v23 w23 ⟨x23,b23⟩
    rw[←hg] at b23
    refine ac E E (ag (ab (af (aa (ae E E (an pE E E (pG b23) ?_))))))
    rintro v25 _ ⟨rfl,rfl⟩
    refine bo E E Cj (ag (ab ?_))
    refine bt E (fun h26=>?_) (fun h26=>?_)
    ·refine af (aa (ae E E (ae E E (an jy E E ((by have:=jz (b9.ext (x15.trans x23)) b23 (by omega) (by omega) (by rw[bK];exact hg0);rw[bK,bK] at this;exact this)) ?_))))
     rintro v30 w30 ⟨x30,q1,s1,rfl,c1,e1⟩
     refine ae E E (az E E (fg) (az E E fh (az E E fi (ac E E (ag (ab (aa (ae E E (ae E E ?_)))))))))
     refine an jy E E ((by have:=jz (b15.ext (x23.trans x30)) (b23.ext x30) (by omega) (by omega) (by rw[bK];exact hg0);rw[bK,bK] at this;exact this)) ?_
     rintro v37 w37 ⟨x37,q2,s2,rfl,c2,e2⟩
     refine ae E E (az E E (fg) (az E E fh (az E E fi (ac E E (ag ?_)))))
     exact bP (q1,q2) ⟨rfl,rfl,rfl,rfl,trivial⟩ ⟨((x23.trans x30).trans x37),by first|exact(c1.ext x37)|(rw[show g=1 from Classical.byContradiction fun h=>h26 h,Nat.div_one];exact(c1.ext x37)),by first|exact c2|(rw[show g=1 from Classical.byContradiction fun h=>h26 h,Nat.div_one];exact c2)⟩
    ·refine aC ?_
     exact bP (v9,v15) ⟨rfl,rfl,rfl,rfl,trivial⟩ ⟨x23,by first|exact(b9.ext (x15.trans x23))|(rw[show g=1 from Classical.byContradiction fun h=>h26 h,Nat.div_one];exact(b9.ext (x15.trans x23))),by first|exact(b15.ext x23)|(rw[show g=1 from Classical.byContradiction fun h=>h26 h,Nat.div_one];exact(b15.ext x23))⟩
   rintro⟨v1,v2⟩ w8 ⟨x8,b1,b2⟩
   refine ab (af ?_)
   refine ei (fun p:Value=>[(0,B s),(1,v1),(2,p),(6,.pointer (some ⟨g6,0,none⟩))]) (fun p w'=>w8=w'∧bi (wF (val n) (val d)) p w') ?_ ?_
   ·refine af (aa (ae E E (an pE E E (pG b2) ?_)))
    rintro v42 _ ⟨rfl,rfl⟩
    refine ag (ab ?_)
    refine bt E (fun h42=>?_) (fun h42=>?_)
    ·refine aa (ac E E (ag ?_))
     exact bP (.slice none 0 0) ⟨rfl,rfl,rfl,rfl,trivial⟩ ⟨rfl,by unfold wF;rw[←hg];first|(rw[if_pos h42];exact bi.nil _)|(rw[if_neg h42];exact b2)⟩
    ·refine aC ?_
     exact bP (v2) ⟨rfl,rfl,rfl,rfl,trivial⟩ ⟨rfl,by unfold wF;rw[←hg];first|(rw[if_pos h42];exact bi.nil _)|(rw[if_neg h42];exact b2)⟩
   rintro v2' _ ⟨rfl,b2'⟩
   refine ab (af (aa (ae E E (ae E E (ae E E ?_)))))
   refine bj (vs:=[(0,B s),(1,v1),(2,v2')]) E E (lC b1.isS b2'.isS) ?_
   obtain⟨p,q,w3,hp,hs,q3,k3,n3,d3⟩:=(k6.ext (((x9.trans x15).trans x8))).stR ⟨_,_,_,rfl⟩ ⟨_,_,_,rfl⟩ (dt.mk (b:=s) b1 b2')
   refine ax E E (hs) (ag (ab (aw ?_)))
   refine cZ E E k3 KJ E dX ?_
   exact⟨_,rfl,((((x6.trans x9).trans x15).trans x8)).of_new q3 l6,p,q,rfl,n3,d3⟩
theorem FD {m:List UInt32} (h:m.length≤137438953472):(ud m).length≤137438953472:=by
 unfold ud
 split
 ·simp
 ·exact h
theorem z5 {w:World} {b:Bool} {n m:List UInt32} {v:Value} (hv:dt b n m v w) (hnl:n.length≤137438953472) (hml:m.length≤137438953472):
 Calls Tryz.prog 137 #[v] w (bH fun r w'=>aJ w w'∧dt (zW b (val n)) (lb (val n/Nat.gcd (val n) (val (ud m)))) (wF (val n) (val (ud m))) r w'):=by
 refine enter (vs:=[v]) Tryz.func137 E E E ?_
 refine af (aa ?_)
 obtain⟨g1,y1,z1,w1,hr1,x1,k1,n1,d1⟩:=pD hv
 refine cm E E hr1 ?_
 obtain⟨g2,w2,hr2,l2,x2,k2⟩:=iz (w:=w1)
 refine aX E hr2 (ag (ab (af (bD 7 [2,9] (by kernel_rfl) (by kernel_rfl) ?_))))
 refine aT E E (fun w hw=>ap (o:=0) KJ E (by kernel_rfl) E) (aN E E (fun w hw=>ai KQ E (hw.cell_some (x2.cell_some (k1.cell (i:=0) E)))) ?_)
 refine aT E E (fun w hw=>ap (o:=1) KJ E (by kernel_rfl) E) (aN E E (fun w hw=>ai KE E (hw.cell_some (x2.cell_some (k1.cell (i:=1) E)))) ?_)
 refine aN rfl rfl (fun w hw=>((k1.ext x2).ext hw).ldR) (cd (S:=bi (ud m)) zX (bi.stable _) rfl (fun w hw=>by rintro _ rfl;exact zZ (((dt.mk n1 d1).ext x2).ext hw) (by omega)) ?_)
 refine cd (S:=dt (zW b (val n)) (lb (val n/Nat.gcd (val n) (val (ud m)))) (wF (val n) (val (ud m)))) Bj (dt.stable _ _ _) rfl (fun w hw=>by rintro _ rfl _ rfl z hz;exact Bk ((n1.ext x2).ext hw) hz (by omega) (by have:=FD hml;omega) (Fz m)) ?_
 refine cb ?_
 intro wg1 xg1
 rintro _ rfl
 intro vg9 b9
 obtain⟨p,q,w3,hp,hs,q3,k3,n3,d3⟩:=(k2.ext xg1).stR ⟨_,_,_,rfl⟩ ⟨_,_,_,rfl⟩ b9
 refine ax E E (hs) (ag (ab (aw ?_)))
 refine cZ E E k3 KJ E dX ?_
 exact⟨_,rfl,(((x1.trans x2).trans xg1)).of_new q3 (Nat.le_trans x1.size l2),p,q,rfl,n3,d3⟩
theorem cM {x y:Nat}:rx x y=0↔x=y:=by
 unfold rx
 split
 ·omega
 ·split<;>omega
theorem yo {b:Bool} {n:List UInt32}:rv b n []=decide (b=zW b (val n)∧n=lb (val n)):=by
 unfold rv
 rw[show val (ud [])=1 from rfl,Nat.gcd_one_right,Nat.div_one,FB]
 simp
theorem nQ {w:World} {b:Bool} {n m:List UInt32} {v:Value} (hv:dt b n m v w) (hnl:n.length≤137438953472) (hml:m.length≤137438953472):
 Calls Tryz.prog 99 #[v] w (bH fun r w'=>aJ w w'∧r=B (rv b n m)):=by
 refine enter (vs:=[v]) Tryz.func99 E E E ?_
 obtain⟨b',hb'⟩:∃b',b'=zW b (val n):=⟨_,rfl⟩
 obtain⟨n',hn'⟩:∃n',n'=lb (val n/Nat.gcd (val n) (val (ud m))):=⟨_,rfl⟩
 obtain⟨m',hm'⟩:∃m',m'=wF (val n) (val (ud m)):=⟨_,rfl⟩
 have hrv:rv b n m=decide (b=b'∧n=n'∧m=m'):=by rw[hb',hn',hm'];rfl
 refine af (aa ?_)
 obtain⟨g1,y1,z1,w1,hr1,x1,k1,n1,d1⟩:=pD hv
 refine cm E E hr1 (ac E E (ag (ab (af (af (aa (ah E E (ap (o:=2) KJ E (by kernel_rfl) E) ?_)))))))
 refine aj E E (ai KE E (k1.cell (i:=2) E)) (aS E E (bw KE d1) (ak E E E (a6) ?_))
 refine ag (ab ?_)
 refine bt E (fun h7=>?_) (fun h7=>?_)
 ·have hm0:m=[]:=List.eq_nil_of_length_eq_zero (by omega)
  subst hm0
  refine af ?_
  cases b
  ·refine aa (ah E E (ap (o:=1) KJ E (by kernel_rfl) E) (aj E E (ai KE E (k1.cell (i:=1) E)) ?_))
   refine an sw E E (sF n1) ?_
   rintro v10 _ ⟨rfl,rfl⟩
   refine ae E E ?_
   refine cq (fun h11=>?_) (fun h11=>?_)
   ·refine al E (ah E E (ap (o:=0) KJ E (by kernel_rfl) E) (al E (aj E E (ai KQ E (k1.cell (i:=0) E)) ?_)))
    refine al E (bo E E bu (al E (ae E E (am E E E (am E E E (am E E E (am E E E (al E (ar E E E (ar E E E ?_))))))))))
    refine ac E E (ag (ab (aw (aD (av E E ?_)))))
    exact⟨_,rfl,x1,by
     rw[yo]
     first
     |exact congrArg B (decide_eq_true ⟨rfl,h11.symm⟩).symm
     |exact congrArg B (decide_eq_false fun h=>h11 h.2.symm).symm
     |(have e:=@gH (val n)
       rw[h11] at e
       refine congrArg B (decide_eq_decide.2 ⟨fun h=>⟨(decide_eq_true (show 0<val n by omega)).symm,h11.symm⟩,fun h=>?_⟩)
       have:0<val n:=of_decide_eq_true h.1.symm
       omega)⟩
   ·refine am E E E (am E E E (am E E E (am E E E (iU E E E (iU E E E (iU E E E (iU E E E (am E E E ?_))))))))
    refine aI E E E (ac E E (ag (ab (aw (aD (av E E ?_))))))
    exact⟨_,rfl,x1,by
     rw[yo]
     first
     |exact congrArg B (decide_eq_true ⟨rfl,h11.symm⟩).symm
     |exact congrArg B (decide_eq_false fun h=>h11 h.2.symm).symm
     |(have e:=@gH (val n)
       rw[h11] at e
       refine congrArg B (decide_eq_decide.2 ⟨fun h=>⟨(decide_eq_true (show 0<val n by omega)).symm,h11.symm⟩,fun h=>?_⟩)
       have:0<val n:=of_decide_eq_true h.1.symm
       omega)⟩
  ·refine aa (ah E E (ap (o:=1) KJ E (by kernel_rfl) E) (aj E E (ai KE E (k1.cell (i:=1) E)) ?_))
   refine an sw E E (sF n1) ?_
   rintro v10 _ ⟨rfl,rfl⟩
   refine ae E E ?_
   refine cq (fun h11=>?_) (fun h11=>?_)
   ·refine al E (ah E E (ap (o:=0) KJ E (by kernel_rfl) E) (al E (aj E E (ai KQ E (k1.cell (i:=0) E)) ?_)))
    refine al E (bo E E bu (al E (ae E E (al E (ah E E (ap (o:=1) KJ E (by kernel_rfl) E) ?_)))))
    refine al E (aj E E (ai KE E (k1.cell (i:=1) E)) (al E (aS E E (bw KE n1) ?_)))
    refine al E (ak E E E (bV) (al E (aI E E E (ar E E E (ac E E (ag (ab (aw (aD (av E E ?_))))))))))
    exact⟨_,rfl,x1,by
     rw[yo]
     first
     |exact congrArg B (decide_eq_true ⟨rfl,h11.symm⟩).symm
     |exact congrArg B (decide_eq_false fun h=>h11 h.2.symm).symm
     |(have e:=@gH (val n)
       rw[h11] at e
       refine congrArg B (decide_eq_decide.2 ⟨fun h=>⟨(decide_eq_true (show 0<val n by omega)).symm,h11.symm⟩,fun h=>?_⟩)
       have:0<val n:=of_decide_eq_true h.1.symm
       omega)⟩
   ·refine am E E E (am E E E (am E E E (am E E E (iU E E E (iU E E E (iU E E E (iU E E E (am E E E ?_))))))))
    refine aI E E E (ac E E (ag (ab (aw (aD (av E E ?_))))))
    exact⟨_,rfl,x1,by
     rw[yo]
     first
     |exact congrArg B (decide_eq_true ⟨rfl,h11.symm⟩).symm
     |exact congrArg B (decide_eq_false fun h=>h11 h.2.symm).symm
     |(have e:=@gH (val n)
       rw[h11] at e
       refine congrArg B (decide_eq_decide.2 ⟨fun h=>⟨(decide_eq_true (show 0<val n by omega)).symm,h11.symm⟩,fun h=>?_⟩)
       have:0<val n:=of_decide_eq_true h.1.symm
       omega)⟩
 ·refine aC (ab (af (aa (aj E E (k1.ldR) (an zY E E (z5 (dt.mk n1 d1) hnl hml) ?_)))))
  rintro v23 w23 ⟨x23,b23⟩
  rw[←hb',←hn',←hm'] at b23
  obtain⟨g3,w3,hr3,l3,x3,k3⟩:=iz (w:=w23)
  refine aX E hr3 ?_
  obtain⟨p,q,w4,hp,hs,q4,k4,n3,d3⟩:=k3.stR ⟨_,_,_,rfl⟩ ⟨_,_,_,rfl⟩ (b23.ext x3)
  refine ax E E (hs) ?_
  have x4:=(x23.trans x3).of_new q4 (Nat.le_trans x23.size l3)
  refine ag (ab (af (aa (ah E E (ap (o:=0) KJ E (by kernel_rfl) E) (aj E E (ai KQ E (x4.cell_some (k1.cell (i:=0) E))) ?_)))))
  refine ah E E (ap (o:=0) KJ E (by kernel_rfl) E) (aj E E (ai KQ E (k4.cell (i:=0) E)) ?_)
  refine ak E E E (tx KQ) (ae E E ?_)
  refine cq (fun h29=>?_) (fun h29=>?_)
  ·refine al E (ah E E (ap (o:=1) KJ E (by kernel_rfl) E) (al E (aj E E (ai KE E (x4.cell_some (k1.cell (i:=1) E))) ?_)))
   refine al E (aS E E (bw KE (n1.ext x4)) (al E (ah E E (ap (o:=1) KJ E (by kernel_rfl) E) ?_)))
   refine al E (aj E E (ai KE E (k4.cell (i:=1) E)) (al E (aS E E (bw KE n3) ?_)))
   refine al E (ak E E E (a6) (ar E E E (ae E E ?_)))
   refine cq (fun h38=>?_) (fun h38=>?_)
   ·refine al E (ah E E (ap (o:=2) KJ E (by kernel_rfl) E) (al E (aj E E (ai KE E (x4.cell_some (k1.cell (i:=2) E))) ?_)))
    refine al E (aS E E (bw KE (d1.ext x4)) (al E (ah E E (ap (o:=2) KJ E (by kernel_rfl) E) ?_)))
    refine al E (aj E E (ai KE E (k4.cell (i:=2) E)) (al E (aS E E (bw KE d3) ?_)))
    refine al E (ak E E E (a6) (ar E E E (ae E E ?_)))
    refine cq (fun h47=>?_) (fun h47=>?_)
    ·refine al E (ah E E (ap (o:=1) KJ E (by kernel_rfl) E) (al E (aj E E (ai KE E (x4.cell_some (k1.cell (i:=1) E))) ?_)))
     refine al E (ah E E (ap (o:=1) KJ E (by kernel_rfl) E) (al E (aj E E (ai KE E (k4.cell (i:=1) E)) ?_)))
     refine al E (an ry E E (rC (n1.ext x4) n3) ?_)
     rintro v52 w52 ⟨x52,rfl⟩
     refine al E (ak E E E (a6) (ar E E E (ae E E ?_)))
     refine cq (fun h55=>?_) (fun h55=>?_)
     ·refine al E (ah E E (ap (o:=2) KJ E (by kernel_rfl) E) (al E (aj E E (ai KE E ((x4.trans x52).cell_some (k1.cell (i:=2) E))) ?_)))
      refine al E (ah E E (ap (o:=2) KJ E (by kernel_rfl) E) (al E (aj E E (ai KE E (x52.cell_some (k4.cell (i:=2) E))) ?_)))
      refine al E (an ry E E (rC (d1.ext (x4.trans x52)) (d3.ext x52)) ?_)
      rintro v60 w60 ⟨x60,rfl⟩
      refine al E (ak E E E (a6) (ar E E E (ac E E (ag (ab (aw (av E E ?_)))))))
      exact⟨_,rfl,(((x1.trans x4).trans x52).trans x60),by
       rw[hrv]
       first
       |exact congrArg B (decide_eq_decide.2 ⟨fun h=>⟨h29,iA (by omega) (cM.1 h55),iA (by omega) (cM.1 h)⟩,fun h=>cM.2 (by rw[h.2.2])⟩)
       |exact congrArg B (decide_eq_false fun h=>h55 (cM.2 (by rw[h.2.1]))).symm
       |exact congrArg B (decide_eq_false fun h=>h47 (by rw[h.2.2])).symm
       |exact congrArg B (decide_eq_false fun h=>h38 (by rw[h.2.1])).symm
       |exact congrArg B (decide_eq_false fun h=>h29 h.1).symm⟩
     ·refine am E E E (am E E E (am E E E (am E E E (am E E E (am E E E (aI E E E (ac E E (ag (ab (aw (av E E ?_)))))))))))
      exact⟨_,rfl,((x1.trans x4).trans x52),by
       rw[hrv]
       first
       |exact congrArg B (decide_eq_decide.2 ⟨fun h=>⟨h29,iA (by omega) (cM.1 h55),iA (by omega) (cM.1 h)⟩,fun h=>cM.2 (by rw[h.2.2])⟩)
       |exact congrArg B (decide_eq_false fun h=>h55 (cM.2 (by rw[h.2.1]))).symm
       |exact congrArg B (decide_eq_false fun h=>h47 (by rw[h.2.2])).symm
       |exact congrArg B (decide_eq_false fun h=>h38 (by rw[h.2.1])).symm
       |exact congrArg B (decide_eq_false fun h=>h29 h.1).symm⟩
    ·refine am E E E (am E E E (am E E E (am E E E (am E E E (am E E E (aI E E E (ae E E (am E E E (am E E E ?_)))))))))
     refine am E E E (am E E E (am E E E (am E E E (aI E E E (ac E E (ag (ab (aw (av E E ?_)))))))))
     exact⟨_,rfl,(x1.trans x4),by
      rw[hrv]
      first
      |exact congrArg B (decide_eq_decide.2 ⟨fun h=>⟨h29,iA (by omega) (cM.1 h55),iA (by omega) (cM.1 h)⟩,fun h=>cM.2 (by rw[h.2.2])⟩)
      |exact congrArg B (decide_eq_false fun h=>h55 (cM.2 (by rw[h.2.1]))).symm
      |exact congrArg B (decide_eq_false fun h=>h47 (by rw[h.2.2])).symm
      |exact congrArg B (decide_eq_false fun h=>h38 (by rw[h.2.1])).symm
      |exact congrArg B (decide_eq_false fun h=>h29 h.1).symm⟩
   ·refine am E E E (am E E E (am E E E (am E E E (am E E E (am E E E (am E E E (aI E E E (ae E E (am E E E ?_)))))))))
    refine am E E E (am E E E (am E E E (am E E E (am E E E (aI E E E (ae E E (am E E E (am E E E (am E E E ?_)))))))))
    refine am E E E (am E E E (am E E E (aI E E E (ac E E (ag (ab (aw (av E E ?_))))))))
    exact⟨_,rfl,(x1.trans x4),by
     rw[hrv]
     first
     |exact congrArg B (decide_eq_decide.2 ⟨fun h=>⟨h29,iA (by omega) (cM.1 h55),iA (by omega) (cM.1 h)⟩,fun h=>cM.2 (by rw[h.2.2])⟩)
     |exact congrArg B (decide_eq_false fun h=>h55 (cM.2 (by rw[h.2.1]))).symm
     |exact congrArg B (decide_eq_false fun h=>h47 (by rw[h.2.2])).symm
     |exact congrArg B (decide_eq_false fun h=>h38 (by rw[h.2.1])).symm
     |exact congrArg B (decide_eq_false fun h=>h29 h.1).symm⟩
  ·refine am E E E (am E E E (am E E E (am E E E (am E E E (am E E E (am E E E (aI E E E (ae E E (am E E E ?_)))))))))
   refine am E E E (am E E E (am E E E (am E E E (am E E E (am E E E (aI E E E (ae E E (am E E E (am E E E ?_)))))))))
   refine am E E E (am E E E (am E E E (am E E E (aI E E E (ae E E (am E E E (am E E E (am E E E (am E E E ?_)))))))))
   refine am E E E (am E E E (aI E E E (ac E E (ag (ab (aw (av E E ?_)))))))
   exact⟨_,rfl,(x1.trans x4),by
    rw[hrv]
    first
    |exact congrArg B (decide_eq_decide.2 ⟨fun h=>⟨h29,iA (by omega) (cM.1 h55),iA (by omega) (cM.1 h)⟩,fun h=>cM.2 (by rw[h.2.2])⟩)
    |exact congrArg B (decide_eq_false fun h=>h55 (cM.2 (by rw[h.2.1]))).symm
    |exact congrArg B (decide_eq_false fun h=>h47 (by rw[h.2.2])).symm
    |exact congrArg B (decide_eq_false fun h=>h38 (by rw[h.2.1])).symm
    |exact congrArg B (decide_eq_false fun h=>h29 h.1).symm⟩
end Go.Rl
namespace Go.Rl
open Go.RowKit Go.Proofs
theorem DP:aH Tryz.prog 142:=⟨_,Tryz.func142,by kernel_rfl,rfl⟩
theorem Bl:aH Tryz.prog 141:=⟨_,Tryz.func141,by kernel_rfl,rfl⟩
theorem z6:aH Tryz.prog 106:=⟨_,Tryz.func106,by kernel_rfl,rfl⟩
theorem mw:aH Tryz.prog 105:=⟨_,Tryz.func105,by kernel_rfl,rfl⟩
theorem DQ {w:World} {m:List UInt32} {v:Value} (hv:bi m v w) (hl:m.length≤137438953472):
 Calls Tryz.prog 142 #[v] w (bH fun r w'=>aJ w w'∧bi (lb (val (ud m))) r w'):=by
 refine enter (vs:=[v]) Tryz.func142 E E E ?_
 obtain⟨t,ht⟩:∃t,t=lb (val m):=⟨_,rfl⟩
 refine af (aa (ac E E (ag (ab (af (aa (ae E E (an eK E E (fx hv (by omega)) ?_))))))))
 rintro v5 w5 ⟨x5,b5⟩
 rw[←ht] at b5
 refine ac E E (ag (ab (af (af (aa (ae E E (aS E E (bw KE b5) (ak E E E (a6) (ag ?_)))))))))
 refine ab ?_
 refine bt E (fun h8=>?_) (fun h8=>?_)
 ·have h0:val m=0:=gH.1 (by rw[←ht];omega)
  refine af (aa ?_)
  obtain⟨v9,w9,hr9,x9,o9,ob9⟩:=i8 Tryz.underlying44 (w:=w5) w5.heap.size [1] (by simp) (Nat.le_refl _)
  refine aG (vs:=[(0,bC (1))]) E E hr9 (ac E E (ag (ab (aw (aD (av E E ?_))))))
  exact⟨_,rfl,(x5.trans x9),by rw[Bh,if_pos h0,yn];exact o9.wds⟩
 ·have h0:val m≠0:=fun h=>h8 (by rw[ht,h];rfl)
  refine aC (ab (af (aa (ae E E (ac E E (ag (ab (aw (av E E ?_)))))))))
  exact⟨_,rfl,x5,by rw[Bh,if_neg h0,←ht];exact b5⟩
theorem Bm {w:World} {s:Bool} {n d:List UInt32} {x y:Value} (hn:bi n x w) (hd:bi d y w) (hnl:n.length≤274877906944) (hdl:d.length≤274877906944) (hd0:0<val d):
 Calls Tryz.prog 141 #[B s,x,y] w (bH fun r w'=>aJ w w'∧dt (zW s (val n)) (lb (val n/Nat.gcd (val n) (val d))) (wF (val n) (val d)) r w'):=by
 refine enter (vs:=[B s,x,y]) Tryz.func141 E E E ?_
 have hg0:=CA (n:=val n) hd0
 obtain⟨g,hg⟩:∃g,g=Nat.gcd (val n) (val d):=⟨_,rfl⟩
 have hgl:(lb g).length≤d.length:=Nat.le_trans (lB (by rw[hg];exact Nat.gcd_le_right _ hd0)) (gZ (cz d))
 obtain⟨e,he⟩:∃e,e=lb (val d/g):=⟨_,rfl⟩
 obtain⟨a,ha⟩:∃a,a=lb (val n/g):=⟨_,rfl⟩
 have hc:decide ((a.length:Int)>0)=decide (0<val n):=by
  have e0:=@gH (val n/g)
  have e1:val n/g=0↔val n=0:=by
   rw[hg]
   constructor
   ·intro h
    have:=Nat.div_mul_cancel (Nat.gcd_dvd_left (val n) (val d))
    rw[h] at this;omega
   ·intro h
    rw[h,Nat.zero_div]
  rw[←ha] at e0
  exact decide_eq_decide.2 (by omega)
 have hq:wF (val n) (val d)=if e=[1] then[] else e:=by
  unfold wF
  rw[←hg]
  by_cases h1:val d/g=1
  ·rw[if_pos h1,if_pos (by rw[he,h1,yn])]
  ·rw[if_neg h1,if_neg (fun h=>h1 (FA.1 (he▸h))),he]
 rw[←hg] at hg0⊢
 rw[←ha]
 refine af (aa ?_)
 obtain⟨g6,w6,hr6,l6,x6,k6⟩:=iz (w:=w)
 refine aX E hr6 (ag (ab (af (aa (ae E E (ae E E (an DI E E (DK (hn.ext x6) (hd.ext x6) hnl hdl) ?_)))))))
 rintro v16 w16 ⟨x16,b16⟩
 rw[←hg] at b16
 refine ac E E (ag (ab (af (aa (ae E E (ae E E (an mn E E ((by have:=mp (hn.ext (x6.trans x16)) b16 hnl (by omega) (by rw[bK];exact hg0);rw[bK,←ha] at this;exact this)) ?_)))))))
 rintro v20 w20 ⟨x20,q1,r1,rfl,s1,u1⟩
 refine ae E E (az E E (fg) (az E E fh (az E E fi (ac E E (ac E E (ac E E (ag (ab ?_))))))))
 refine af (aa (ae E E (ae E E (an mn E E ((by have:=mp (hd.ext ((x6.trans x16).trans x20)) (b16.ext x20) hdl (by omega) (by rw[bK];exact hg0);rw[bK,←he] at this;exact this)) ?_))))
 rintro v27 w27 ⟨x27,q2,r2,rfl,s2,u2⟩
 refine ae E E (az E E (fg) (az E E fh (az E E fi (ac E E (ac E E (ac E E (ag (ab ?_))))))))
 refine af ?_
 refine ei (fun p:Value=>[(0,B s),(8,q1),(11,p),(6,.pointer (some ⟨g6,0,none⟩))]) (fun p w'=>w27=w'∧bi (wF (val n) (val d)) p w') ?_ ?_
 ·refine af (aa (ae E E (aS E E (bw KE s2) (ak E E E (a6) (ae E E ?_)))))
  refine cq (fun h34=>?_) (fun h34=>?_)
  ·refine al E (ae E E (al E ?_))
   obtain⟨a36,p36,q36⟩:=cJ KE s2 (i:=0) (by omega) .i64
   refine au E E E (p36 _) (al E (aj E E (ai KG E q36) (al E (ak (v:=bC 1) E E E (oy) (ar E E E ?_)))))
   refine ag (ab ?_)
   refine bt E (fun h39=>?_) (fun h39=>?_)
   ·refine aa (ac E E (ag ?_))
    exact bP (.slice none 0 0) ⟨rfl,rfl,rfl,rfl,trivial⟩ ⟨rfl,by
     rw[hq]
     first
     |(rw[if_pos (by
        obtain⟨y,rfl⟩:=List.length_eq_one_iff.1 (show e.length=1 by omega)
        simpa using h39)];exact bi.nil _)
     |(rw[if_neg (fun h=>by subst h;exact h39 rfl)];exact s2)
     |(rw[if_neg (fun h=>by subst h;exact h34 rfl)];exact s2)⟩
   ·refine aC ?_
    exact bP (q2) ⟨rfl,rfl,rfl,rfl,trivial⟩ ⟨rfl,by
     rw[hq]
     first
     |(rw[if_pos (by
        obtain⟨y,rfl⟩:=List.length_eq_one_iff.1 (show e.length=1 by omega)
        simpa using h39)];exact bi.nil _)
     |(rw[if_neg (fun h=>by subst h;exact h39 rfl)];exact s2)
     |(rw[if_neg (fun h=>by subst h;exact h34 rfl)];exact s2)⟩
  ·refine am E E E (am E E E (am E E E (am E E E (aI E E E (ag (ab (cy E (aC ?_))))))))
   exact bP (q2) ⟨rfl,rfl,rfl,rfl,trivial⟩ ⟨rfl,by
    rw[hq]
    first
    |(rw[if_pos (by
       obtain⟨y,rfl⟩:=List.length_eq_one_iff.1 (show e.length=1 by omega)
       simpa using h39)];exact bi.nil _)
    |(rw[if_neg (fun h=>by subst h;exact h39 rfl)];exact s2)
    |(rw[if_neg (fun h=>by subst h;exact h34 rfl)];exact s2)⟩
 rintro v11 _ ⟨rfl,b11⟩
 refine ab (af ?_)
 cases s
 ·refine aa (ae E E (ae E E (am E E E (am E E E (am E E E (aI E E E (ae E E (ae E E ?_))))))))
  refine bj (vs:=[(0,B (zW false (val n))),(1,q1),(2,v11)]) E E (lC s1.isS b11.isS) ?_
  obtain⟨p,q,w3,hp,hs,q3,k3,n3,d3⟩:=(k6.ext (((x16.trans x20).trans x27))).stR ⟨_,_,_,rfl⟩ ⟨_,_,_,rfl⟩ (dt.mk (b:=zW false (val n)) (s1.ext x27) b11)
  refine ax E E (hs) (ag (ab (aw ?_)))
  refine cZ E E k3 KJ E dX ?_
  exact⟨_,rfl,((((x6.trans x16).trans x20).trans x27)).of_new q3 l6,p,q,rfl,n3,d3⟩
 ·refine aa (ae E E (ae E E (al E (ae E E (al E (aS E E (bw KE (s1.ext x27)) (al E (ak E E E (bV) ?_))))))))
  rw[hc]
  refine ar E E E (ae E E (ae E E ?_))
  refine bj (vs:=[(0,B (zW true (val n))),(1,q1),(2,v11)]) E E (lC s1.isS b11.isS) ?_
  obtain⟨p,q,w3,hp,hs,q3,k3,n3,d3⟩:=(k6.ext (((x16.trans x20).trans x27))).stR ⟨_,_,_,rfl⟩ ⟨_,_,_,rfl⟩ (dt.mk (b:=zW true (val n)) (s1.ext x27) b11)
  refine ax E E (hs) (ag (ab (aw ?_)))
  refine cZ E E k3 KJ E dX ?_
  exact⟨_,rfl,((((x6.trans x16).trans x20).trans x27)).of_new q3 l6,p,q,rfl,n3,d3⟩
theorem z7 {w:World} {b:Bool} {n m:List UInt32} {v:Value} (hv:dt b n m v w) (hnl:n.length≤137438953472) (hml:m.length≤137438953472):
 Calls Tryz.prog 106 #[v] w (bH fun r w'=>aJ w w'∧dt (zW b (val n)) (lb (val n/Nat.gcd (val n) (val (ud m)))) (wF (val n) (val (ud m))) r w'):=by
 refine enter (vs:=[v]) Tryz.func106 E E E ?_
 have hu:(lb (val (ud m))).length≤137438953472:=Nat.le_trans (gZ (cz _)) (FD hml)
 refine af (aa ?_)
 obtain⟨g1,y1,z1,w1,hr1,x1,k1,n1,d1⟩:=pD hv
 refine cm E E hr1 ?_
 obtain⟨g2,w2,hr2,l2,x2,k2⟩:=iz (w:=w1)
 refine aX E hr2 (ag (ab (af (bD 8 [2,10] (by kernel_rfl) (by kernel_rfl) ?_))))
 refine aT E E (fun w hw=>ap (o:=0) KJ E (by kernel_rfl) E) (aN E E (fun w hw=>ai KQ E (hw.cell_some (x2.cell_some (k1.cell (i:=0) E)))) ?_)
 refine aT E E (fun w hw=>ap (o:=1) KJ E (by kernel_rfl) E) (aN E E (fun w hw=>ai KE E (hw.cell_some (x2.cell_some (k1.cell (i:=1) E)))) ?_)
 refine aT E E (fun w hw=>ap (o:=2) KJ E (by kernel_rfl) E) (aN E E (fun w hw=>ai KE E (hw.cell_some (x2.cell_some (k1.cell (i:=2) E)))) ?_)
 refine cd (S:=bi (lb (val (ud m)))) DP (bi.stable _) rfl (fun w hw=>by rintro _ rfl;exact DQ ((d1.ext x2).ext hw) hml) (cd (S:=dt (zW b (val n)) (lb (val n/Nat.gcd (val n) (val (ud m)))) (wF (val n) (val (ud m)))) Bl (dt.stable _ _ _) rfl (fun w hw=>by rintro _ rfl _ rfl z hz;have:=Bm (s:=b) ((n1.ext x2).ext hw) hz (by omega) (by omega) (by rw[bK];exact Fz m);rw[bK] at this;exact this) ?_)
 refine cb ?_
 intro wg1 xg1
 rintro _ rfl
 intro vg10 b9
 obtain⟨p,q,w3,hp,hs,q3,k3,n3,d3⟩:=(k2.ext xg1).stR ⟨_,_,_,rfl⟩ ⟨_,_,_,rfl⟩ b9
 refine ax E E (hs) (ag (ab (aw ?_)))
 refine cZ E E k3 KJ E dX ?_
 exact⟨_,rfl,(((x1.trans x2).trans xg1)).of_new q3 (Nat.le_trans x1.size l2),p,q,rfl,n3,d3⟩
theorem uf {w:World} {a b:Bool} {n m p q:List UInt32} {v u:Value} (hv:dt a n m v w) (hu:dt b p q u w):
 Calls Tryz.prog 105 #[v,u] w (bH fun r w'=>aJ w w'∧r=B (decide (a=b∧n=p∧m=q))):=by
 refine enter (vs:=[v,u]) Tryz.func105 E E E ?_
 refine af (aa ?_)
 obtain⟨g2,y2,z2,w2,hr2,x2,k2,n2,d2⟩:=pD hv
 refine cm E E hr2 ?_
 obtain⟨g3,y3,z3,w3,hr3,x3,k3,n3,d3⟩:=pD (hu.ext x2)
 refine cm E E hr3 (ac E E (ag (ab (af (aa (ah E E (ap (o:=0) KJ E (by kernel_rfl) E) ?_))))))
 refine aj E E (ai KQ E (x3.cell_some (k2.cell (i:=0) E))) (ah E E (ap (o:=0) KJ E (by kernel_rfl) E) ?_)
 refine aj E E (ai KQ E (k3.cell (i:=0) E)) (ak E E E (tx KQ) (ae E E ?_))
 refine cq (fun h10=>?_) (fun h10=>?_)
 ·refine al E (ah E E (ap (o:=1) KJ E (by kernel_rfl) E) (al E (aj E E (ai KE E (x3.cell_some (k2.cell (i:=1) E))) ?_)))
  refine al E (ah E E (ap (o:=1) KJ E (by kernel_rfl) E) (al E (aj E E (ai KE E (k3.cell (i:=1) E)) ?_)))
  refine al E (an t8 E E (t9 (n2.ext x3) n3) ?_)
  rintro v15 w15 ⟨x15,rfl⟩
  refine ar E E E (ae E E ?_)
  refine cq (fun h17=>?_) (fun h17=>?_)
  ·refine al E (ah E E (ap (o:=2) KJ E (by kernel_rfl) E) (al E (aj E E (ai KE E ((x3.trans x15).cell_some (k2.cell (i:=2) E))) ?_)))
   refine al E (ah E E (ap (o:=2) KJ E (by kernel_rfl) E) (al E (aj E E (ai KE E (x15.cell_some (k3.cell (i:=2) E))) ?_)))
   refine al E (an t8 E E (t9 (d2.ext (x3.trans x15)) (d3.ext x15)) ?_)
   rintro v22 w22 ⟨x22,rfl⟩
   refine ar E E E (ac E E (ag (ab (aw (av E E ?_)))))
   exact⟨_,rfl,(((x2.trans x3).trans x15).trans x22),by
    first
    |exact congrArg B (decide_eq_decide.2 ⟨fun h=>⟨h10,h17,h⟩,fun h=>h.2.2⟩)
    |exact congrArg B (decide_eq_false fun h=>h17 h.2.1).symm
    |exact congrArg B (decide_eq_false fun h=>h10 h.1).symm⟩
  ·refine am E E E (am E E E (am E E E (am E E E (am E E E (aI E E E (ac E E (ag (ab (aw (av E E ?_))))))))))
   exact⟨_,rfl,((x2.trans x3).trans x15),by
    first
    |exact congrArg B (decide_eq_decide.2 ⟨fun h=>⟨h10,h17,h⟩,fun h=>h.2.2⟩)
    |exact congrArg B (decide_eq_false fun h=>h17 h.2.1).symm
    |exact congrArg B (decide_eq_false fun h=>h10 h.1).symm⟩
 ·refine am E E E (am E E E (am E E E (am E E E (am E E E (aI E E E (ae E E (am E E E (am E E E (am E E E ?_)))))))))
  refine am E E E (am E E E (aI E E E (ac E E (ag (ab (aw (av E E ?_)))))))
  exact⟨_,rfl,(x2.trans x3),by
   first
   |exact congrArg B (decide_eq_decide.2 ⟨fun h=>⟨h10,h17,h⟩,fun h=>h.2.2⟩)
   |exact congrArg B (decide_eq_false fun h=>h17 h.2.1).symm
   |exact congrArg B (decide_eq_false fun h=>h10 h.1).symm⟩
theorem z8 {w:World} {b:Bool} {n m:List UInt32} {v:Value} (hv:dt b n m v w) (hnl:n.length≤137438953472) (hml:m.length≤137438953472):
 Calls Tryz.prog 59 #[v] w (bH fun r w'=>aJ w w'∧r=B (rv b n m)):=by
 refine enter (vs:=[v]) Tryz.func59 E E E ?_
 refine af (aa ?_)
 obtain⟨g1,y1,z1,w1,hr1,x1,k1,n1,d1⟩:=pD hv
 refine cm E E hr1 (ac E E (ag (ab (af (bD 4 [6] (by kernel_rfl) (by kernel_rfl) ?_)))))
 refine aN rfl rfl (fun w hw=>(k1.ext hw).ldR) (aN rfl rfl (fun w hw=>(k1.ext hw).ldR) (cd (S:=dt (zW b (val n)) (lb (val n/Nat.gcd (val n) (val (ud m)))) (wF (val n) (val (ud m)))) z6 (dt.stable _ _ _) rfl (fun w hw=>by rintro _ rfl;exact z7 ((dt.mk n1 d1).ext hw) hnl hml) ?_))
 refine cd (S:=Is (B (rv b n m))) mw (bG.is _) rfl (fun w hw=>by rintro _ rfl z hz;exact uf ((dt.mk n1 d1).ext hw) hz) (cb ?_)
 intro wg1 xg1
 rintro _ rfl
 refine ac E E (ag (ab (aw (av E E ?_))))
 exact⟨_,rfl,(x1.trans xg1),rfl⟩
end Go.Rl
namespace Go.Rl
open Go.RowKit Go.Proofs
theorem rD:aH Tryz.prog 92:=⟨_,Tryz.func92,by kernel_rfl,rfl⟩
theorem wG:aH Tryz.prog 90:=⟨_,Tryz.func90,by kernel_rfl,rfl⟩
def ug (l:List UInt8):Option (List UInt8×List UInt8):=(gp l).bind fun p=>if p.1≤p.2.length then some (p.2.take p.1,p.2.drop p.1) else none
theorem FE {m:List UInt8} (h:m.length<18446744073709551616) (t:List UInt8):ug (mc m++t)=some (m,t):=by
 unfold ug mc
 rw[List.append_assoc,px h]
 simp
section
variable {w:World} {g:Nat}
theorem Aa {st:Option (List UInt8)} (hr:cw g st w):Calls Tryz.prog 124 #[.pointer (some ⟨g,0,none⟩)] w (bH fun r w'=>w.grownBy w' (some g)∧match st.bind gp with
 |some (n,t)=>r=.tuple #[bS (UInt64.ofNat n),B true]∧cw g (some t) w'
 |none=>r=.tuple #[bS 0,B false]∧∃l',cw g l' w'):=by
 cases st with
 |none=>exact(nr hr).mono fun e w' ⟨v,he,hv,hw⟩=>⟨v,he,by subst hw;exact⟨ma _ _,hv,none,hr⟩⟩
 |some l=>
  refine(pg hr).mono fun e w' ⟨v,he,hg,hv⟩=>⟨v,he,hg,?_⟩
  show match gp l with|some (n,t)=>_|none=>_
  cases hrd:gp l with
  |none=>rw[hrd] at hv;exact⟨hv.1,hv.2.imp' some fun _ h=>h⟩
  |some p=>rw[hrd] at hv;exact hv
theorem DR {st:Option (List UInt8)} (hr:cw g st w):
 Calls Tryz.prog 90 #[.pointer (some ⟨g,0,none⟩)] w (bH fun r w'=>r=I ((st.getD []).length:Nat)∧w'=w):=by
 obtain⟨A,n,c,h1,h2,_⟩:=hr
 refine enter (vs:=[.pointer (some ⟨g,0,none⟩)]) Tryz.func90 E E E ?_
 refine af (aa (ac E E (ag (ab (af (af (aa (ae E E ?_))))))))
 refine ak E E E (fP La) ?_
 refine ag (ab ?_)
 refine cy E ?_
 refine aC (ab (af (aa (ae E E ?_))))
 refine aq E E ?_
 refine ah E E (cp K9 E dz (by omega)) ?_
 refine aj E E (ai KP E (iJ (i:=0) h1 E)) ?_
 refine aS E E (ey h2) ?_
 refine ac E E (ag (ab (aw ?_)))
 refine av E E ?_
 exact⟨_,rfl,rfl,rfl⟩
theorem DS {st:Option (List UInt8)} (hr:cw g st w):
 Calls Tryz.prog 92 #[.pointer (some ⟨g,0,none⟩)] w (bH fun r w'=>r=I (if st=some [] then 0 else 5)∧w'=w):=by
 obtain⟨A,n,c,h1,h2,_⟩:=hr
 refine enter (vs:=[.pointer (some ⟨g,0,none⟩)]) Tryz.func92 E E E ?_
 refine af (aa (ac E E (ag (ab (af (af (aa (ae E E ?_))))))))
 refine ak E E E (gx La) ?_
 refine ae E E (al E (ae E E (al E ?_)))
 refine aq E E ?_
 refine al E (ah E E (cp K9 E iM (by omega)) ?_)
 refine al E (aj E E (ai KQ E (iJ (i:=1) h1 E)) ?_)
 cases st with
 |none=>
  refine al E (ae E E ?_)
  iterate 6 refine am rfl rfl rfl ?_
  refine al E (ar E E E (ar E E E (ag (ab ?_))))
  refine bg E ?_
  refine af (aa (ac E E (ag (ab (aw (aD ?_))))))
  refine av E E ?_
  exact⟨_,rfl,rfl,rfl⟩
 |some l=>
  have h2':cE l (.slice A n c) w:=h2
  refine al E (ae E E (al E (ae E E (al E ?_))))
  refine aq E E ?_
  refine al E (ah E E (cp K9 E dz (by omega)) ?_)
  refine al E (aj E E (ai KP E (iJ (i:=0) h1 E)) ?_)
  refine al E (aS E E (ey h2') ?_)
  refine al E (ak E E E bV ?_)
  refine al E (aI E E E (ar E E E (ag (ab ?_))))
  refine bt E (fun h=>?_) (fun h=>?_)
  ·refine af (aa (ac E E (ag (ab (aw (aD ?_))))))
   refine av E E ?_
   have:some l≠some []:=by rintro⟨⟩;simp at h
   rw[if_neg this]
   exact⟨_,rfl,rfl,rfl⟩
  ·refine aC (ab (af (aa (ac E E (ag (ab (aw ?_)))))))
   refine av E E ?_
   have:l=[]:=List.eq_nil_of_length_eq_zero (by omega)
   subst this
   exact⟨_,rfl,rfl,rfl⟩
end
end Go.Rl
namespace Go.Rl
open Go.RowKit Go.Proofs
structure Kp (w w':World):Prop where
 size:w.heap.size≤w'.heap.size
 bts:∀{l:List UInt8} {v:Value},cE l v w→cE l v w'
 wds:∀{l:List UInt32} {v:Value},bi l v w→bi l v w'
theorem Kp.of_ext {w w':World} (h:aJ w w'):Kp w w':=⟨h.size,fun b=>b.ext h,fun b=>b.ext h⟩
theorem Kp.refl (w:World):Kp w w:=.of_ext (aJ.refl w)
theorem Kp.trans {a b c:World} (h:Kp a b) (k:Kp b c):Kp a c:=⟨Nat.le_trans h.size k.size,fun x=>k.bts (h.bts x),fun x=>k.wds (h.wds x)⟩
theorem cE.kp {w w':World} {l:List UInt8} {v:Value} (h:cE l v w) (k:Kp w w'):cE l v w':=k.bts h
theorem bi.kp {w w':World} {l:List UInt32} {v:Value} (h:bi l v w) (k:Kp w w'):bi l v w':=k.wds h
theorem dt.kp {w w':World} {b:Bool} {n m:List UInt32} {v:Value} (h:dt b n m v w) (k:Kp w w'):dt b n m v w':=by
 obtain⟨x,y,rfl,h1,h2⟩:=h
 exact⟨x,y,rfl,h1.kp k,h2.kp k⟩
def pH (T:TypeId) (g:Nat) (st:Option (List UInt8)) (w:World):Prop:=∃A n c,bA g T [.slice A n c,B st.isNone] w∧cE (st.getD []) (.slice A n c) w∧py A g
theorem cw.rdT {g:Nat} {st:Option (List UInt8)} {w:World} (h:cw g st w):pH 204 g st w:=h
theorem pH.rdAt {g:Nat} {st:Option (List UInt8)} {w:World} (h:pH 204 g st w):cw g st w:=h
section
variable {T:TypeId} {g:Nat} {st:Option (List UInt8)} {w w':World}
theorem pH.ext (h:pH T g st w) (hx:aJ w w'):pH T g st w':=by
 obtain⟨A,n,c,h1,h2,h3⟩:=h
 exact⟨A,n,c,h1.ext hx,h2.ext hx,h3⟩
theorem DT (A:Option Addr) (n c:Nat) (b:Bool) (l:List UInt32):∀(j:Nat) (u:Value),u∈l.map bC→(#[.slice A n c,.bool b]:Array Value)[j]? ≠some u:=by
 intro j u hu
 obtain⟨x,_,rfl⟩:=List.mem_map.1 hu
 match j with
 |0=>simp[bC]
 |1=>simp[bC]
 |j+2=>simp
theorem pH.kp (hr:pH T g st w) (hw:w.grownBy w' (some g)):Kp w w':=by
 obtain⟨A,n,c,h1,_⟩:=hr
 exact⟨hw.size,fun h=>Sl.keep h h1 (vU A n c _ _) hw,fun h=>Sl.keep h h1 (DT A n c _ _) hw⟩
theorem pH.other {T':TypeId} {g':Nat} {s:Option (List UInt8)} (h:pH T' g' s w) (hr:pH T g st w) (hw:w.grownBy w' (some g)) (hne:g'≠g):pH T' g' s w':=by
 obtain⟨A,n,c,h1,h2,h3⟩:=h
 exact⟨A,n,c,h1.other hw (fun e=>hne (Option.some.inj e)),h2.kp (hr.kp hw),h3⟩
theorem pH.set {l l':List UInt8} {v:Value} (h:pH T g (some l) w) (hv:cE l' v w) (hloc:∀A n c,v=.slice A n c→py A g):
 ∃w',(Instr.storeAt 22 (.pointer (some ⟨g,0,none⟩)) v).run Tryz.prog w=.ok () w'∧w.grownBy w' (some g)∧pH T g (some l') w':=by
 obtain⟨A,n,c,h1,h2,h4⟩:=h
 obtain⟨A',n',c',rfl,h3⟩:=id hv
 have hg:=bh w g 0 (.slice A' n' c')
 have hk:=pH.kp (T:=T) (st:=some l) ⟨A,n,c,h1,h2,h4⟩ hg
 refine⟨_,ej (i:=0) dz E h1 (by simp),hg,A',n',c',h1.set 0 _,hk.bts hv,hloc _ _ _ rfl⟩
end
theorem Bn (b:Bool) (A C:Option Addr) (n c m d:Nat) (l:List UInt8):∀(j:Nat) (u:Value),u∈l.map U8→(#[.bool b,.slice A n c,.slice C m d]:Array Value)[j]? ≠some u:=by
 intro j u hu
 obtain⟨x,_,rfl⟩:=List.mem_map.1 hu
 match j with
 |0=>simp[U8]
 |1=>simp[U8]
 |2=>simp[U8]
 |j+3=>simp
theorem bA.kpR {g:Nat} {T:TypeId} {b:Bool} {x y:Value} {w w':World} (h:bA g T [B b,x,y] w) (hx:∃A n c,x=.slice A n c) (hy:∃A n c,y=.slice A n c) (hw:w.grownBy w' (some g)):Kp w w':=by
 obtain⟨A,n,c,rfl⟩:=hx
 obtain⟨C,m,d,rfl⟩:=hy
 exact⟨hw.size,fun k=>Sl.keep k h (Bn b A C n c m d _) hw,fun k=>Sl.keep k h (ue b A C n c m d _) hw⟩
theorem pH.off {T:TypeId} {g g':Nat} {st:Option (List UInt8)} {w w':World} (h:pH T g st w) (k:Kp w w') (hw:w.grownBy w' (some g')) (hne:g≠g'):pH T g st w':=by
 obtain⟨A,n,c,h1,h2,h3⟩:=h
 exact⟨A,n,c,h1.other hw (fun e=>hne (Option.some.inj e)),h2.kp k,h3⟩
theorem pI {w w1 w2:World} {row:Option Nat} {g:Nat} (h:w.grownBy w1 row) (q:w1.grownBy w2 (some g)) (hg:w.heap.size≤g):w.grownBy w2 row:=
 ⟨q.os.trans h.os,q.tape.trans h.tape,q.output.trans h.output,Nat.le_trans h.size q.size,fun i hi hne=>(q.block i (Nat.lt_of_lt_of_le hi h.size) (fun e=>by have:=Option.some.inj e;omega)).trans (h.block i hi hne)⟩
theorem eJ {P:Program} {fn:Func} {R:Ending→World→Prop} {N:Nat} {fr:Fr} {p s:Tmp} {t T:TypeId} {u:Value} {l:List Value} {w:World} {g:Nat} {d:TypeDesc} (hr:fn.results= #[.cell p t,.tmp s]) (hv:lk fr p=some (.pointer (some ⟨g,0,none⟩))) (hs:lk fr s=some u) (hb:bA g T l w) (hu:P.underlying t=some d) (hd:d.isRow=true) (hi:(P.info? t).map (·.size)=some l.length)
 (h:R (.returned (.tuple #[.agg l.toArray,u])) w):gu (bodyPost P fn R) N [] fr w .ret:=fun a ha=>by
 refine⟨ha.defers,.tuple #[.agg l.toArray,u],?_,h⟩
 have hp:=ha.at_ p _ hv
 have hp':a.tmps[p]?.getD undef=.pointer (some ⟨g,0,none⟩):=by simpa using hp
 have hq:=ha.at_ s _ hs
 have hl:=run_loadVar_row w g T t l.toArray (0,0) d hb hu (by cases d<;>first|rfl|exact hd) (by simpa using hi)
 simp[results,hr,hp',asAddr,hl,←hq]
def uz (n:Nat):Int:=if n%2=0 then((n/2:Nat):Int) else-((n/2:Nat):Int)-1
theorem I1 (n:Int):uz (A1 n)=n:=by
 unfold uz A1
 split<;>split<;>omega
theorem I2 (n:Nat):A1 (uz n)=n:=by
 unfold uz A1
 split<;>split<;>omega
theorem Hq {P:Program} {w:World} {t:TypeId} {x y:Operand} {q:Nat} (hq:q<9223372036854775808):(bin .xor t x y (I (q:Int)) (I 0)).run P w=.ok (I (q:Int)) w:=by
 have h:=Ci (P:=P) (w:=w) (t:=t) (x:=x) (y:=y) (a:=Int64.ofInt q) (b:=Int64.ofInt 0)
 rw[Int64.toInt_ofInt_of_le (by simp) (by simp;omega)] at h
 have e:(Int64.ofInt q^^^Int64.ofInt 0).toInt=q:=by
  rw[show Int64.ofInt 0=0 from rfl,Int64.xor_zero,Int64.toInt_ofInt_of_le (by simp) (by simp;omega)]
 rw[e] at h
 exact h
theorem Hr {P:Program} {w:World} {t:TypeId} {x y:Operand} {q:Nat} (hq:q<9223372036854775808):(bin .xor t x y (I (q:Int)) (I (-1))).run P w=.ok (I (-(q:Int)-1)) w:=by
 have h:=Ci (P:=P) (w:=w) (t:=t) (x:=x) (y:=y) (a:=Int64.ofInt q) (b:=Int64.ofInt (-1))
 rw[Int64.toInt_ofInt_of_le (by simp) (by simp;omega)] at h
 have e:(Int64.ofInt q^^^Int64.ofInt (-1)).toInt= -(q:Int)-1:=by
  have:Int64.ofInt q^^^Int64.ofInt (-1)= ~~~(Int64.ofInt q):=by
   apply Int64.toBitVec_inj.1
   rw[Int64.toBitVec_xor,Int64.toBitVec_not]
   have:(Int64.ofInt (-1)).toBitVec=BitVec.allOnes 64:=by decide
   rw[this,BitVec.xor_allOnes]
  rw[this,Int64.toInt_not,Int64.toInt_ofInt_of_le (by simp) (by simp;omega)]
  exact Int.bmod_eq_of_le (by simp;omega) (by simp;omega)
 rw[e] at h
 exact h
def w4 (a b c d:UInt8):UInt32:=UInt32.ofNat (a.toNat+256*b.toNat+65536*c.toNat+16777216*d.toNat)
theorem Bo (a b c d:UInt8):(w4 a b c d).toNat=a.toNat+256*b.toNat+65536*c.toNat+16777216*d.toNat:=by
 have:=a.toNat_lt;have:=b.toNat_lt;have:=c.toNat_lt;have:=d.toNat_lt
 unfold w4
 rw[UInt32.toNat_ofNat']
 omega
theorem I3 (x:UInt32):w4 x.toUInt8 (x>>>UInt32.ofNat 8).toUInt8 (x>>>UInt32.ofNat 16).toUInt8 (x>>>UInt32.ofNat 24).toUInt8=x:=by
 have:=cK x
 refine kj ?_
 rw[Bo]
 simp only[UInt32.toNat_toUInt8,UInt32.toNat_shiftRight,show(UInt32.ofNat 8).toNat=8 from rfl,show(UInt32.ofNat 16).toNat=16 from rfl,show(UInt32.ofNat 24).toNat=24 from rfl,Nat.shiftRight_eq_div_pow,Nat.reduceMod,Nat.reducePow]
 omega
theorem I4 (a b c d:UInt8):AU (w4 a b c d)=[a,b,c,d]:=by
 have ha:=a.toNat_lt;have hb:=b.toNat_lt;have hc:=c.toNat_lt;have hd:=d.toNat_lt
 have e:∀x y:UInt8,x.toNat=y.toNat→x=y:=fun x y h=>UInt8.toNat_inj.1 h
 have h:=Bo a b c d
 unfold AU
 congr 1
 ·refine e _ _ ?_
  rw[UInt32.toNat_toUInt8,h];omega
 congr 1
 ·refine e _ _ ?_
  rw[UInt32.toNat_toUInt8,UInt32.toNat_shiftRight,h,show(UInt32.ofNat 8).toNat%32=8 from rfl,Nat.shiftRight_eq_div_pow];omega
 congr 1
 ·refine e _ _ ?_
  rw[UInt32.toNat_toUInt8,UInt32.toNat_shiftRight,h,show(UInt32.ofNat 16).toNat%32=16 from rfl,Nat.shiftRight_eq_div_pow];omega
 congr 1
 ·refine e _ _ ?_
  rw[UInt32.toNat_toUInt8,UInt32.toNat_shiftRight,h,show(UInt32.ofNat 24).toNat%32=24 from rfl,Nat.shiftRight_eq_div_pow];omega
theorem FF (a:UInt8):a.toUInt32.toNat=a.toNat:=by simp
theorem Ke (a b c d:UInt8):((a.toUInt32|||(b.toUInt32<<<UInt32.ofNat 8))|||(c.toUInt32<<<UInt32.ofNat 16))|||(d.toUInt32<<<UInt32.ofNat 24)=w4 a b c d:=by
 have ha:=a.toNat_lt;have hb:=b.toNat_lt;have hc:=c.toNat_lt;have hd:=d.toNat_lt
 have sh:∀(x:UInt8) (k:Nat),k≤24→(x.toUInt32<<<UInt32.ofNat k).toNat=x.toNat<<<k:=fun x k hk=>by
  have hx:=x.toNat_lt
  rw[UInt32.toNat_shiftLeft,FF]
  have:(UInt32.ofNat k).toNat%32=k:=by rw[UInt32.toNat_ofNat'];omega
  rw[this,Nat.shiftLeft_eq]
  have:2^k≤2^24:=Nat.pow_le_pow_right (by omega) hk
  have:x.toNat*2^k≤255*2^24:=Nat.mul_le_mul (by omega) this
  omega
 refine kj ?_
 rw[Bo]
 simp only[UInt32.toNat_or,sh _ 8 (by omega),sh _ 16 (by omega),sh _ 24 (by omega),FF]
 rw[Nat.or_comm a.toNat,←Nat.shiftLeft_add_eq_or_of_lt (by omega),Nat.or_comm _ (c.toNat<<<16),←Nat.shiftLeft_add_eq_or_of_lt (by rw[Nat.shiftLeft_eq];omega),Nat.or_comm _ (d.toNat<<<24),←Nat.shiftLeft_add_eq_or_of_lt (by simp only[Nat.shiftLeft_eq];omega)]
 simp only[Nat.shiftLeft_eq]
 omega
def dq:List UInt8→List UInt32
 |a::b::c::d::l=>w4 a b c d::dq l
 |_=>[]
theorem jF:∀(n:Nat) (l:List UInt8),l.length=4*n→(dq l).length=n
 |0,[],_=>rfl
 |n+1,a::b::c::d::l,h=>by
  have:=jF n l (by simp at h;omega)
  simp[dq,this]
 |n+1,[],h=>by simp at h
 |n+1,[_],h=>by simp at h;omega
 |n+1,[_,_],h=>by simp at h;omega
 |n+1,[_,_,_],h=>by simp at h;omega
theorem uh:∀(l:List UInt32),dq (gy l)=l
 |[]=>rfl
 |x::l=>by
  have e:gy (x::l)=AU x++gy l:=by simp[gy]
  rw[e,AU,List.cons_append,List.cons_append,List.cons_append,List.cons_append,List.nil_append,dq,I3,uh l]
theorem ui:∀(n:Nat) (l:List UInt8),l.length=4*n→gy (dq l)=l
 |0,[],_=>rfl
 |n+1,a::b::c::d::l,h=>by
  have:=ui n l (by simp at h;omega)
  have e:∀x (l:List UInt32),gy (x::l)=AU x++gy l:=fun x l=>by simp[gy]
  rw[dq,e,this,I4];rfl
 |n+1,[],h=>by simp at h
 |n+1,[_],h=>by simp at h;omega
 |n+1,[_,_],h=>by simp at h;omega
 |n+1,[_,_,_],h=>by simp at h;omega
theorem uj:∀(i:Nat) (l:List UInt8) (h:4*(i+1)≤l.length),dq (l.take (4*(i+1)))=dq (l.take (4*i))++[w4 (l[4*i]) (l[4*i+1]) (l[4*i+2]) (l[4*i+3])]
 |0,a::b::c::d::l,_=>by simp[dq]
 |i+1,a::b::c::d::l,h=>by
  have:=uj i l (by simp at h;omega)
  have e1:4*(i+1+1)=4*(i+1)+4:=by omega
  have e2:4*(i+1)=4*i+4:=by omega
  simp only[e1,List.take_succ_cons,dq,this]
  simp only[e2,List.take_succ_cons,dq,List.cons_append]
  rfl
 |i,[],h=>by simp at h
 |i,[_],h=>by simp at h;omega
 |i,[_,_],h=>by simp at h;omega
 |i,[_,_,_],h=>by simp at h;omega
def um (l:List UInt8):Option (List UInt32×List UInt8):=(gp l).bind fun p=>
 if p.1≤p.2.length/4∧lb (val (dq (p.2.take (4*p.1))))=dq (p.2.take (4*p.1)) then some (dq (p.2.take (4*p.1)),p.2.drop (4*p.1)) else none
theorem Ab {m:List UInt32} (h:m.length<18446744073709551616) (hm:lb (val m)=m) (t:List UInt8):um (jT m++t)=some (m,t):=by
 have hl:=fB m
 have e1:(gy m++t).take (4*m.length)=gy m:=by rw[←hl,List.take_left'];rfl
 have e2:(gy m++t).drop (4*m.length)=t:=by rw[←hl,List.drop_left'];rfl
 unfold um jT
 rw[List.append_assoc,px h]
 show(if m.length≤(gy m++t).length/4∧lb (val (dq ((gy m++t).take (4*m.length))))=dq ((gy m++t).take (4*m.length)) then some (dq ((gy m++t).take (4*m.length)),(gy m++t).drop (4*m.length)) else none)=_
 rw[e1,e2,uh,if_pos ⟨by simp only[List.length_append,hl];omega,hm⟩]
theorem kn {l t:List UInt8} {m:List UInt32} (h:um l=some (m,t)):l=jT m++t∧lb (val m)=m∧m.length<18446744073709551616:=by
 unfold um at h
 cases hu:gp l with
 |none=>rw[hu] at h;cases h
 |some p=>
  obtain⟨n,u⟩:=p
  rw[hu] at h
  have h:(if n≤u.length/4∧lb (val (dq (u.take (4*n))))=dq (u.take (4*n)) then some (dq (u.take (4*n)),u.drop (4*n)) else none)=some (m,t):=h
  split at h
  ·rename_i hc
   simp only[Option.some.injEq,Prod.mk.injEq] at h
   have hl:(u.take (4*n)).length=4*n:=by rw[List.length_take];omega
   have hn:=jF n _ hl
   obtain⟨h1,h2⟩:=ga hu
   rw[←h.1,←h.2]
   refine⟨?_,hc.2,by omega⟩
   unfold jT
   rw[hn,ui n _ hl,List.append_assoc,List.take_append_drop]
   exact h1
  ·cases h
def ny:List UInt8→Option ((Bool×List UInt32×List UInt32)×List UInt8)
 |[]=>none
 |c::l=>if 1<c.toNat then none else(um l).bind fun p=>(um p.2).bind fun q=>if rv (decide (c.toNat=1)) p.1 q.1=true then some ((decide (c.toNat=1),p.1,q.1),q.2) else none
end Go.Rl
namespace Go.Rl
open Go.RowKit Go.Proofs
theorem lD:aH Tryz.prog 178:=⟨_,Tryz.func178,by kernel_rfl,rfl⟩
theorem wH:aH Tryz.prog 159:=⟨_,Tryz.func159,by kernel_rfl,rfl⟩
theorem wI:aH Tryz.prog 158:=⟨_,Tryz.func158,by kernel_rfl,rfl⟩
section
variable {w:World} {g:Nat}
theorem FG {st:Option (List UInt8)} (hr:cw g st w) (h:st.bind gp=none):Calls Tryz.prog 124 #[.pointer (some ⟨g,0,none⟩)] w (bH fun r w'=>w.grownBy w' (some g)∧r=.tuple #[bS 0,B false]∧∃l',cw g l' w'):=by
 have:=Aa hr
 rw[h] at this
 exact this
theorem FH {st:Option (List UInt8)} {n:Nat} {t:List UInt8} (hr:cw g st w) (h:st.bind gp=some (n,t)):Calls Tryz.prog 124 #[.pointer (some ⟨g,0,none⟩)] w (bH fun r w'=>w.grownBy w' (some g)∧r=.tuple #[bS (UInt64.ofNat n),B true]∧cw g (some t) w'):=by
 have:=Aa hr
 rw[h] at this
 exact this
end
theorem I5 {st:Option (List UInt8)} (h:st.bind gp=none):st.bind um=none:=by
 cases st with
 |none=>rfl
 |some l=>
  have h:gp l=none:=h
  show um l=none
  unfold um
  rw[h];rfl
theorem Bp {st:Option (List UInt8)} {n:Nat} {t:List UInt8} (h:st.bind gp=some (n,t)):st.bind um=if n≤t.length/4∧lb (val (dq (t.take (4*n))))=dq (t.take (4*n)) then some (dq (t.take (4*n)),t.drop (4*n)) else none:=by
 cases st with
 |none=>cases h
 |some l=>
  have h:gp l=some (n,t):=h
  show um l=_
  unfold um
  rw[h];rfl
theorem CB {st:Option (List UInt8)} {n:Nat} {t:List UInt8} {k:Nat} (h:st.bind gp=some (n,t)) (hl:∀l,st=some l→l.length≤k):t.length≤k∧n<18446744073709551616:=by
 cases st with
 |none=>cases h
 |some l=>
  obtain⟨h1,h2⟩:=ga (show gp l=some (n,t) from h)
  have:=hl l rfl
  rw[h1,List.length_append] at this
  exact⟨by omega,h2⟩
def yp (b:Nat) (v:Value):Prop:=∀k,v.ownBlock=some k→b≤k
theorem Ac {s t:Bool} {a b c d:Value} (h:(Value.agg #[B s,a,b])=.agg #[B t,c,d]):a=c∧b=d:=by
 injection h with h
 have:=congrArg Array.toList h
 simp only[List.cons.injEq] at this
 exact⟨this.2.1,this.2.2.1⟩
def NatR (g:Nat) (w:World) (o:Option (List UInt32×List UInt8)) (r:Value) (w':World):Prop:=
 w.grownBy w' (some g)∧match o with
  |some (m,t)=>∃v,r=.tuple #[v,B true]∧bi m v w'∧cw g (some t) w'∧yp w.heap.size v
  |none=>∃v,r=.tuple #[v,B false]∧(∃m,bi m v w')∧∃l',cw g l' w'
theorem wJ {w:World} {g:Nat} {st:Option (List UInt8)} (hr:cw g st w) (hl:∀l,st=some l→l.length≤549755813888):
 Calls Tryz.prog 178 #[.pointer (some ⟨g,0,none⟩)] w (bH (NatR g w (st.bind um))):=by
 refine enter (vs:=[.pointer (some ⟨g,0,none⟩)]) Tryz.func178 E E E ?_
 refine af (aa (ac E E (ac E E (ag (ab (af ?_))))))
 rcases hU:st.bind gp with _|⟨n,t⟩
 ·refine aa (ae E E (an kH E E (FG hr hU) ?_))
  rintro v11 w11 ⟨x11,rfl,l',hr1⟩
  have m11:=(hr.rdT).kp x11
  refine ae E E (az E E (ce) (az E E (cf) (ac E E (ac E E (ag (ab (af (af (aa (ae E E (bo E E bu ?_)))))))))))
  refine ae E E (am E E E (am E E E (am E E E (am E E E (am E E E (am E E E (am E E E (am E E E (am E E E ?_)))))))))
  refine ar E E E (ag (ab (bg E (af (aa (ac E E (ac E E (ag (ab (aw (aD (bn E E E ?_))))))))))))
  exact⟨_,rfl,x11,by rw[I5 hU];exact⟨_,rfl,⟨_,bi.nil _⟩,l',hr1⟩⟩
 ·obtain⟨ht,hn⟩:=CB hU hl
  have hnn:(UInt64.ofNat n).toNat=n:=by rw[UInt64.toNat_ofNat'];omega
  refine aa (ae E E (an kH E E (FH hr hU) ?_))
  rintro v11 w11 ⟨x11,rfl,hr1⟩
  have m11:=(hr.rdT).kp x11
  refine ae E E (az E E (ce) (az E E (cf) ?_))
  obtain⟨A,n',c,k,b,_⟩:=hr1.rdT
  have b:cE t (.slice A n' c) w11:=b
  refine ac E E (ac E E (ag (ab (af (af (aa (ae E E (bo E E bu (ae E E (al E (ae E E (al E (ae E E ?_)))))))))))))
  refine al E (aq E E (al E (ah E E (ap (o:=0) K9 E (by kernel_rfl) E) (al E (aj E E (ai KP E (k.cell (i:=0) E)) ?_)))))
  refine al E (aS E E (ey b) (al E (bc E E (fJ KI KM) (al E (ak (v:=bS 4) E E E (lr (by decide)) ?_)))))
  refine al E (ak E E E (cS) (aI E E E (ag (ab ?_))))
  refine bt E (fun h26=>?_) (fun h26=>?_)
  ·have hlong:t.length/4<n:=by
    have h26:=UInt64.lt_iff_toNat_lt.1 h26
    rw[UInt64.toNat_div,hnn,UInt64.toNat_ofNat',show(4:UInt64).toNat=4 from rfl] at h26
    omega
   refine af (aa (ac E E (ac E E (ag (ab (aw (aD (bn E E E ?_))))))))
   exact⟨_,rfl,x11,by rw[Bp hU,if_neg (by omega)];exact⟨_,rfl,⟨_,bi.nil _⟩,_,hr1⟩⟩
  ·have hle:n≤t.length/4:=by
    refine Nat.le_of_not_lt fun hh=>h26 (UInt64.lt_iff_toNat_lt.2 ?_)
    rw[UInt64.toNat_div,hnn,UInt64.toNat_ofNat',show(4:UInt64).toNat=4 from rfl]
    omega
   have h4n:(4*UInt64.ofNat n).toNat=4*n:=by
    rw[UInt64.toNat_mul,hnn,show(4:UInt64).toNat=4 from rfl]
    omega
   obtain⟨bs,hbs⟩:∃bs,bs=t.take (4*n):=⟨_,rfl⟩
   have hbl:bs.length=4*n:=by rw[hbs,List.length_take];omega
   refine aC (ab (af (aa (ae E E (ae E E (ak (u:=bS 4) E E E (iI) (an iK E E ((by have:=tQ (n:=4*UInt64.ofNat n) hr1 (by rw[h4n];omega);rw[h4n,←hbs] at this;exact this)) ?_)))))))
   rintro v31 w31 ⟨b31,rfl,hb31,hr2,g31⟩
   have m31:=(hr1.rdT).kp g31
   refine ae E E (az E E (ce) (az E E (cf) (ac E E (ac E E (ag (ab (af (aa (ac E E (ag (ab (af ?_))))))))))))
   refine aE ?_
   refine jx (fun(i:Nat) (v:Value) (u:Value)=>[(4,bS (UInt64.ofNat n)),(6,v),(8,u)]) (fun(i:Nat) (v:Value) (u:Value) w'=>aJ w31 w'∧cE (bs.drop (4*i)) v w31∧dV w31.heap.size (dq (bs.take (4*i))) u w'∧i≤n) (fun(i:Nat) (v:Value) (u:Value)=>n-i) (0) (b31) (.slice none 0 0) ⟨rfl,rfl,rfl,trivial⟩ ⟨aJ.refl _,by simpa using hb31,by simpa [dq] using dV.nil _ _,by omega⟩ ?_
   rintro i v u w6 ⟨e6,h6,o6,hi⟩
   refine af (af ?_)
   have hdl:(bs.drop (4*i)).length=4*n-4*i:=by rw[List.length_drop,hbl]
   refine aa (ae E E (aS E E (ey (h6.ext e6)) (ak E E E (bV) (ag (ab ?_)))))
   refine bt E (fun h36=>?_) (fun h36=>?_)
   ·refine aC (ab (af (aE ?_)))
    have hdl:(bs.drop (4*i)).length=4*n-4*i:=by rw[List.length_drop,hbl]
    refine bD 24 [4,6,39,62] (by kernel_rfl) (by kernel_rfl) ?_
    refine ay E E (ay E E ?_)
    obtain⟨a41,p41,q41⟩:=ki (h6.ext e6) (i:=0) (by omega) .i64
    refine aA E E E (fun w _=>p41 w) (aN E E (fun w hw=>ai KR E (hw.cell_some q41)) (dT E E (fun w _=>fA KR KG) ?_))
    refine ay E E ?_
    obtain⟨a45,p45,q45⟩:=ki (h6.ext e6) (i:=1) (by omega) .i64
    refine aA E E E (fun w _=>p45 w) (aN E E (fun w hw=>ai KR E (hw.cell_some q45)) (dT E E (fun w _=>fA KR KG) ?_))
    refine ba (v:=bS 8) E E E (fun w _=>eE 8 (by omega)) (ba E E E (fun w _=>ff) (ay E E ?_))
    obtain⟨a51,p51,q51⟩:=ki (h6.ext e6) (i:=2) (by omega) .i64
    refine aA E E E (fun w _=>p51 w) (aN E E (fun w hw=>ai KR E (hw.cell_some q51)) (dT E E (fun w _=>fA KR KG) ?_))
    refine ba (v:=bS 16) E E E (fun w _=>eE 16 (by omega)) (ba E E E (fun w _=>ff) (ay E E ?_))
    obtain⟨a57,p57,q57⟩:=ki (h6.ext e6) (i:=3) (by omega) .i64
    refine aA E E E (fun w _=>p57 w) (aN E E (fun w hw=>ai KR E (hw.cell_some q57)) (dT E E (fun w _=>fA KR KG) ?_))
    refine ba (v:=bS 24) rfl rfl rfl (fun w _=>eE 24 (by omega)) (ba rfl rfl rfl (fun w _=>ff) (f8 (S:=bi [((((((((((bs.drop (4*i))[0])).toUInt32)|||((((((bs.drop (4*i))[1])).toUInt32)<<<UInt32.ofNat 8))))|||((((((bs.drop (4*i))[2])).toUInt32)<<<UInt32.ofNat 16))))|||((((((bs.drop (4*i))[3])).toUInt32)<<<UInt32.ofNat 24))))]) (bi.stable _) rfl (fun w' _=>by rintro _ rfl;obtain⟨r,w2,h1,h2,h3,_⟩:=i8 Tryz.underlying44 (w:=w') w'.heap.size [((((((((((bs.drop (4*i))[0])).toUInt32)|||((((((bs.drop (4*i))[1])).toUInt32)<<<UInt32.ofNat 8))))|||((((((bs.drop (4*i))[2])).toUInt32)<<<UInt32.ofNat 16))))|||((((((bs.drop (4*i))[3])).toUInt32)<<<UInt32.ofNat 24))))] (by simp) (Nat.le_refl _);exact⟨r,w2,h1,h2,h3.wds⟩) ?_))
    refine cb ?_
    intro wg8 xg8
    rintro _ rfl
    rintro _ hq6
    obtain rfl:=Eq.symm hq6
    rintro _ hq39
    obtain rfl:=Eq.symm hq39
    intro vg62 b62
    obtain⟨v63,w63,hr63,o63,g63⟩:=kG Tryz.underlying44 (ty:=44) (o6.ext xg8) b62 (by have:=jF i (bs.take (4*i)) (by rw[List.length_take];omega);simp;omega) ((e6.trans xg8)).size
    have x63:=aJ.of_grew ((e6.trans xg8)) g63 (o6.ext xg8).ge
    refine aW E E hr63 (ac E E (ag (aR (ab (aa (ae E E ?_))))))
    obtain⟨v38,p38,b38⟩:=qq h6 (lo:=4) (by omega) .i64
    refine dl E E E E E (p38 _) ?_
    refine ac E E (ag ?_)
    refine gz (i+1) (v38) (v63) ⟨rfl,rfl,rfl,trivial⟩ ⟨x63,by rw[List.drop_drop] at b38;exact b38,by
     rw[uj i bs (by omega)]
     have e:=Ke ((bs.drop (4*i))[0]) ((bs.drop (4*i))[1]) ((bs.drop (4*i))[2]) ((bs.drop (4*i))[3])
     simp only[List.getElem_drop,Nat.add_zero] at e
     simp only[List.getElem_drop,Nat.add_zero,e] at o63
     exact o63,by omega⟩ (by omega)
   ·refine be (aK (aK (bf (ab (af ?_)))))
    by_cases h66:UInt64.ofNat n=0
    ·refine bD 12 [2,74] (by kernel_rfl) (by kernel_rfl) ?_
     refine ay E E (ay E E (ba (v:=bS 0) E E E (fun w _=>cR h66 lw) (ay E E (jw E E E (jw E E E (jw E E E ?_))))))
     refine jw E E E (jw E E E (jw E E E (EO E E E (fO E E (cb ?_)))))
     intro wg9 xg9
     rintro _ hq2
     obtain rfl:=Eq.symm hq2
     rintro _ rfl
     refine ac E E (ag (ab (aw (bn E E E ?_))))
     exact⟨_,rfl,(x11.trans g31).trans (dJ (e6.trans xg9)),by
      rw[Bp hU,←hbs]
      first
      |(have hx:(dq bs)[(UInt64.ofNat n-1).toNat]≠0↔lb (val (dq bs))=dq bs:=by
         have e:(UInt64.ofNat n-1).toNat=(dq bs).length-1:=by omega
         simp only[e]
         exact tu (by omega)
        by_cases hc:lb (val (dq bs))=dq bs
        ·rw[if_pos ⟨hle,hc⟩,decide_eq_true (hx.2 hc)]
         exact⟨u,rfl,o6.wds.ext xg9,hr2.ext (e6.trans xg9),fun k hk=>Nat.le_trans (x11.trans g31).size (o6.ge k hk)⟩
        ·rw[if_neg fun h=>hc h.2,decide_eq_false fun h=>hc (hx.1 h)]
         exact⟨u,rfl,⟨_,o6.wds.ext xg9⟩,_,hr2.ext (e6.trans xg9)⟩)
      |(have h0:n=0:=by
         have:=congrArg UInt64.toNat h66
         rw[hnn] at this
         exact this
        have hb0:dq bs=[]:=List.eq_nil_of_length_eq_zero (by rw[jF n bs hbl];exact h0)
        have hb1:bs.take (4*i)=bs:=List.take_of_length_le (by omega)
        rw[hb1,hb0] at o6
        rw[hb0,if_pos ⟨hle,rfl⟩]
        exact⟨u,rfl,o6.wds.ext xg9,hr2.ext (e6.trans xg9),fun k hk=>Nat.le_trans (x11.trans g31).size (o6.ge k hk)⟩)⟩
    ·refine bD 12 [2,74] (by kernel_rfl) (by kernel_rfl) ?_
     refine ay E E (ay E E (ba (v:=bS 0) E E E (fun w _=>dn h66 lw) (ay E E (bU E E (ay E E (bU E E (ay E E ?_)))))))
     refine bU E E (ba (v:=bS 1) E E E (fun w _=>dQ) (bU E E ?_))
     have hn0:0<n:=by
      rcases Nat.eq_zero_or_pos n with h|h
      ·exact absurd (by rw[h];rfl) h66
      ·exact h
     have hns:=jF n bs hbl
     have hin:i=n:=by omega
     have hbi:bs.take (4*i)=bs:=List.take_of_length_le (by omega)
     rw[hbi] at o6
     have hm1:(UInt64.ofNat n-1).toNat=n-1:=by
      rw[UInt64.toNat_sub_of_le _ _ (UInt64.le_iff_toNat_le.2 (by rw[hnn];exact hn0)),hnn];rfl
     obtain⟨a71,p71,q71⟩:=cJ KE o6.wds (i:=(UInt64.ofNat n-1).toNat) (by omega) .u64
     refine aA E E E (fun w hw=>p71 _) (bU E E (aN E E (fun w hw=>ai KG E (hw.cell_some q71)) (bU E E ?_)))
     refine ba (v:=bC 0) E E E (fun w _=>lq) (tK E E E (fO E E (cb ?_)))
     intro wg9 xg9
     rintro _ hq2
     obtain rfl:=Eq.symm hq2
     rintro _ rfl
     refine ac E E (ag (ab (aw (bn E E E ?_))))
     exact⟨_,rfl,(x11.trans g31).trans (dJ (e6.trans xg9)),by
      rw[Bp hU,←hbs]
      first
      |(have hx:(dq bs)[(UInt64.ofNat n-1).toNat]≠0↔lb (val (dq bs))=dq bs:=by
         have e:(UInt64.ofNat n-1).toNat=(dq bs).length-1:=by omega
         simp only[e]
         exact tu (by omega)
        by_cases hc:lb (val (dq bs))=dq bs
        ·rw[if_pos ⟨hle,hc⟩,decide_eq_true (hx.2 hc)]
         exact⟨u,rfl,o6.wds.ext xg9,hr2.ext (e6.trans xg9),fun k hk=>Nat.le_trans (x11.trans g31).size (o6.ge k hk)⟩
        ·rw[if_neg fun h=>hc h.2,decide_eq_false fun h=>hc (hx.1 h)]
         exact⟨u,rfl,⟨_,o6.wds.ext xg9⟩,_,hr2.ext (e6.trans xg9)⟩)
      |(have h0:n=0:=by
         have:=congrArg UInt64.toNat h66
         rw[hnn] at this
         exact this
        have hb0:dq bs=[]:=List.eq_nil_of_length_eq_zero (by rw[jF n bs hbl];exact h0)
        have hb1:bs.take (4*i)=bs:=List.take_of_length_le (by omega)
        rw[hb1,hb0] at o6
        rw[hb0,if_pos ⟨hle,rfl⟩]
        exact⟨u,rfl,o6.wds.ext xg9,hr2.ext (e6.trans xg9),fun k hk=>Nat.le_trans (x11.trans g31).size (o6.ge k hk)⟩)⟩
section
variable {w:World} {g:Nat}
theorem wO {st:Option (List UInt8)} (hr:cw g st w) (hl:∀l,st=some l→l.length≤549755813888) (h:st.bind um=none):Calls Tryz.prog 178 #[.pointer (some ⟨g,0,none⟩)] w (bH fun r w'=>w.grownBy w' (some g)∧∃v,r=.tuple #[v,B false]∧(∃m,bi m v w')∧∃l',cw g l' w'):=by
 have:=wJ hr hl
 rw[h] at this
 exact this
theorem pJ {st:Option (List UInt8)} {m:List UInt32} {t:List UInt8} (hr:cw g st w) (hl:∀l,st=some l→l.length≤549755813888) (h:st.bind um=some (m,t)):Calls Tryz.prog 178 #[.pointer (some ⟨g,0,none⟩)] w (bH fun r w'=>w.grownBy w' (some g)∧∃v,r=.tuple #[v,B true]∧bi m v w'∧cw g (some t) w'∧yp w.heap.size v):=by
 have:=wJ hr hl
 rw[h] at this
 exact this
theorem DU {st:Option (List UInt8)} {m:List UInt32} {t:List UInt8} (hr:cw g st w) (hl:∀l,st=some l→l.length≤549755813888) (h:st.bind um=some (m,t)):Calls Tryz.prog 178 #[.pointer (some ⟨g,0,none⟩)] w (bH fun r w'=>w.grownBy w' (some g)∧∃v,r=.tuple #[v,B true]∧bi m v w'∧cw g (some t) w'):=by
 exact(pJ hr hl h).mono fun _ _ ⟨r,h0,h1,v,h2,h3,h4,_⟩=>⟨r,h0,h1,v,h2,h3,h4⟩
theorem DV {st:Option (List UInt8)} (hr:cw g st w) (h:st.bind gp=none):Calls Tryz.prog 89 #[.pointer (some ⟨g,0,none⟩)] w (bH fun r w'=>w.grownBy w' (some g)∧r=.tuple #[bS 0,I 5]∧cw g none w'):=by
 have:=oz hr
 rw[h] at this
 exact this
theorem DW {st:Option (List UInt8)} {n:Nat} {t:List UInt8} (hr:cw g st w) (h:st.bind gp=some (n,t)):Calls Tryz.prog 89 #[.pointer (some ⟨g,0,none⟩)] w (bH fun r w'=>w.grownBy w' (some g)∧r=.tuple #[bS (UInt64.ofNat n),I 0]∧cw g (some t) w'):=by
 have:=oz hr
 rw[h] at this
 exact this
end
def IntR (g:Nat) (w:World) (o:Option (Nat×List UInt8)) (r:Value) (w':World):Prop:=
 w.grownBy w' (some g)∧match o with
  |some (n,t)=>r=.tuple #[I (uz n),I 0]∧cw g (some t) w'
  |none=>r=.tuple #[I 0,I 5]∧cw g none w'
theorem FI {P:Program} {w:World} {s d:TypeId} {n:Nat} (hs:P.underlying s=some (.int .u64)) (hd:P.underlying d=some (.int .i64)) (hn:n<18446744073709551616):(convert s d (bS (UInt64.ofNat n>>>UInt64.ofNat 1))).run P w=.ok (I ((n/2:Nat):Int)) w:=by
 have e:(UInt64.ofNat n>>>UInt64.ofNat 1).toNat=n/2:=by
  rw[UInt64.toNat_shiftRight,UInt64.toNat_ofNat',show(UInt64.ofNat 1).toNat%64=1 from rfl,Nat.shiftRight_eq_div_pow];omega
 have:=tn (P:=P) (w:=w) hs hd (a:=UInt64.ofNat n>>>UInt64.ofNat 1) (by omega)
 rwa [e] at this
theorem CC {n:Nat}:(UInt64.ofNat n&&&1).toNat=n%2:=by
 rw[UInt64.toNat_and,UInt64.toNat_ofNat',show(1:UInt64).toNat=1 from rfl,Nat.and_one_is_mod];omega
theorem I6 {P:Program} {w:World} {s d:TypeId} {n:Nat} (hs:P.underlying s=some (.int .u64)) (hd:P.underlying d=some (.int .i64)) (h:n%2=0):(convert s d (bS (UInt64.ofNat n&&&1))).run P w=.ok (I 0) w:=by
 have:=tn (P:=P) (w:=w) hs hd (a:=UInt64.ofNat n&&&1) (by rw[CC];omega)
 rw[CC,h] at this
 exact this
theorem I7 {P:Program} {w:World} {s d:TypeId} {n:Nat} (hs:P.underlying s=some (.int .u64)) (hd:P.underlying d=some (.int .i64)) (h:n%2=1):(convert s d (bS (UInt64.ofNat n&&&1))).run P w=.ok (I 1) w:=by
 have:=tn (P:=P) (w:=w) hs hd (a:=UInt64.ofNat n&&&1) (by rw[CC];omega)
 rw[CC,h] at this
 exact this
theorem wQ {w:World} {g:Nat} {st:Option (List UInt8)} (hr:cw g st w):
 Calls Tryz.prog 158 #[.pointer (some ⟨g,0,none⟩)] w (bH (IntR g w (st.bind gp))):=by
 refine enter (vs:=[.pointer (some ⟨g,0,none⟩)]) Tryz.func158 E E E ?_
 refine af (aa (ac E E (ac E E (ag (ab (af ?_))))))
 rcases hN:st.bind gp with _|⟨n,t⟩
 ·refine aa (ae E E (an gb E E (DV hr hN) ?_))
  rintro v8 w8 ⟨x8,rfl,hr1⟩
  have m8:=(hr.rdT).kp x8
  refine ae E E (az E E (ce) (az E E (cf) (ac E E (ac E E (ag (ab (af (af (aa (ae E E (ak E E E (cR (by decide) dF) ?_)))))))))))
  refine ag (ab (bg E (af (aa (ae E E (ac E E (ac E E (ag (ab (aw (aD (bn E E E ?_))))))))))))
  exact⟨_,rfl,x8,rfl,hr1⟩
 ·refine aa (ae E E (an gb E E (DW hr hN) ?_))
  rintro v8 w8 ⟨x8,rfl,hr1⟩
  have m8:=(hr.rdT).kp x8
  refine ae E E (az E E (ce) (az E E (cf) (ac E E (ac E E (ag (ab (af (af (aa (ae E E (ak E E E (dn (by decide) dF) ?_)))))))))))
  have hnn:=(CB (k:=(st.getD []).length) hN (by rintro l rfl;exact Nat.le_refl _)).2
  refine ag (ab (cy E (aC (ab (af ?_)))))
  rcases Nat.mod_two_eq_zero_or_one n with hm|hm
  ·refine aa (ae E E (ak E E E (dj 1 (by omega)) (bc E E (FI KM KI hnn) (ae E E ?_))))
   refine ak (v:=bS 1) E E E (vR) (bc E E (I6 KM KI hm) (bo E E (xY (by omega) (by omega)) ?_))
   refine ak E E E (Hq (by omega)) (ac E E (ac E E (ag (ab (aw (bn E E E ?_))))))
   exact⟨_,rfl,x8,congrArg (fun z=>Value.tuple #[I z,I 0]) (show _=uz n by unfold uz;rw[if_pos hm]),hr1⟩
  ·refine aa (ae E E (ak E E E (dj 1 (by omega)) (bc E E (FI KM KI hnn) (ae E E ?_))))
   refine ak (v:=bS 1) E E E (vR) (bc E E (I7 KM KI hm) (bo E E (xY (by omega) (by omega)) ?_))
   refine ak E E E (Hr (by omega)) (ac E E (ac E E (ag (ab (aw (bn E E E ?_))))))
   exact⟨_,rfl,x8,congrArg (fun z=>Value.tuple #[I z,I 0]) (show _=uz n by unfold uz;rw[if_neg (by omega)]),hr1⟩
theorem CD {c:UInt8} {l:List UInt8} (h:1<c.toNat):ny (c::l)=none:=if_pos h
theorem FJ {c:UInt8} {l:List UInt8} (h:um l=none):ny (c::l)=none:=by
 show(if 1<c.toNat then none else _)=none
 split
 ·rfl
 ·rw[h];rfl
theorem Bq {c:UInt8} {l t:List UInt8} {m:List UInt32} (h1:¬1<c.toNat) (h:um l=some (m,t)):ny (c::l)=(um t).bind fun q=>if rv (decide (c.toNat=1)) m q.1=true then some ((decide (c.toNat=1),m,q.1),q.2) else none:=by
 show(if 1<c.toNat then none else _)=_
 rw[if_neg h1,h];rfl
def RatE (g:Nat) (w:World) (o:Option ((Bool×List UInt32×List UInt32)×List UInt8)) (r:Value) (w':World):Prop:=
 w.grownBy w' (some g)∧match o with
  |some (q,t)=>∃v,r=.tuple #[v,I 0]∧dt q.1 q.2.1 q.2.2 v w'∧cw g (some t) w'
  |none=>∃v,r=.tuple #[v,I 5]∧dt false [] [] v w'∧cw g none w'
def Kf (g:Nat) (w:World) (o:Option ((Bool×List UInt32×List UInt32)×List UInt8)) (r:Value) (w':World):Prop:=
 w.grownBy w' (some g)∧match o with
  |some (q,t)=>∃x y,r=.tuple #[.agg #[B q.1,x,y],I 0]∧bi q.2.1 x w'∧bi q.2.2 y w'∧cw g (some t) w'∧yp w.heap.size x∧yp w.heap.size y
  |none=>∃v,r=.tuple #[v,I 5]∧dt false [] [] v w'∧cw g none w'
theorem cw.lt {w:World} {g:Nat} {st:Option (List UInt8)} (h:cw g st w):g<w.heap.size:=by
 obtain⟨A,n,c,h1,_⟩:=h
 exact bA.lt h1
theorem Br {c:UInt8}:c.toNat=1↔c=1:=by
 rw[←UInt8.toNat_inj,show(1:UInt8).toNat=1 from rfl]
theorem uo {w:World} {g:Nat} {st:Option (List UInt8)} (hr:cw g st w) (hl:∀l,st=some l→l.length≤549755813888):
 Calls Tryz.prog 159 #[.pointer (some ⟨g,0,none⟩)] w (bH (Kf g w (st.bind ny))):=by
 refine enter (vs:=[.pointer (some ⟨g,0,none⟩)]) Tryz.func159 E E E ?_
 have hglt:=hr.lt
 refine af (aa ?_)
 obtain⟨g2,w2,hr2,l2,x2,k2⟩:=iz (w:=w)
 refine aX E hr2 (ac E E (ag (ab (af (af (aa (ae E E (ak E E E (fP La) (ag (ab (cy E ?_)))))))))))
 refine aC (ab (af ?_))
 have rr:=hr.ext x2
 have kk:=k2
 have gg:w.grownBy w2 (some g):=dJ x2
 have hne:some g2≠some g:=fun h=>by have:=Option.some.inj h;omega
 have hne':g≠g2:=by omega
 rcases st with _|(_|⟨c,l⟩)
 ·have hR:(none:Option (List UInt8)).bind ny=none:=rfl
  refine aa (ae E E (an iK E E ((sv (n:=1) rr)) ?_))
  rintro v14 _ ⟨rfl,rfl⟩
  refine ae E E (az E E (ce) (az E E (cf) (ac E E (ac E E (ag (ab (af (af (aa (ae E E (bo E E bu ?_)))))))))))
  refine ae E E (am E E E (am E E E (am E E E (am E E E (ar E E E (ag (ab (bg E (af (aa ?_))))))))))
  refine bj (vs:=[]) E E iP ?_
  refine ae E E (an iL E E (iN rr) ?_)
  rintro v27 w27 ⟨rfl,rs,g27⟩
  have m27:=(rr.rdT).kp g27
  have gg:=gg.trans g27
  have kk:=kk.other g27 hne
  have rr:=rs
  obtain⟨p,q,w3,hp,hs3,q3,k3,n3,d3⟩:=kk.stR ⟨_,_,_,rfl⟩ ⟨_,_,_,rfl⟩ (dt.mk (b:=false) (bi.nil _) (bi.nil _))
  refine ax E E (hs3) (ac E E (ag (ab (aw (aD ?_)))))
  refine eJ E E E k3 KJ E dX ?_
  exact⟨_,rfl,pI gg q3 l2,by rw[hR];exact⟨_,rfl,⟨p,q,rfl,n3,d3⟩,(rr.rdT.off (kk.kpR ⟨_,_,_,rfl⟩ ⟨_,_,_,rfl⟩ q3) q3 hne').rdAt⟩⟩
 ·have hR:(some []).bind ny=none:=rfl
  refine aa (ae E E (an iK E E ((Co (n:=1) rr (by decide))) ?_))
  rintro v14 _ ⟨rfl,rfl⟩
  refine ae E E (az E E (ce) (az E E (cf) (ac E E (ac E E (ag (ab (af (af (aa (ae E E (bo E E bu ?_)))))))))))
  refine ae E E (am E E E (am E E E (am E E E (am E E E (ar E E E (ag (ab (bg E (af (aa ?_))))))))))
  refine bj (vs:=[]) E E iP ?_
  refine ae E E (an iL E E (iN rr) ?_)
  rintro v27 w27 ⟨rfl,rs,g27⟩
  have m27:=(rr.rdT).kp g27
  have gg:=gg.trans g27
  have kk:=kk.other g27 hne
  have rr:=rs
  obtain⟨p,q,w3,hp,hs3,q3,k3,n3,d3⟩:=kk.stR ⟨_,_,_,rfl⟩ ⟨_,_,_,rfl⟩ (dt.mk (b:=false) (bi.nil _) (bi.nil _))
  refine ax E E (hs3) (ac E E (ag (ab (aw (aD ?_)))))
  refine eJ E E E k3 KJ E dX ?_
  exact⟨_,rfl,pI gg q3 l2,by rw[hR];exact⟨_,rfl,⟨p,q,rfl,n3,d3⟩,(rr.rdT.off (kk.kpR ⟨_,_,_,rfl⟩ ⟨_,_,_,rfl⟩ q3) q3 hne').rdAt⟩⟩
 ·refine aa (ae E E (an iK E E ((tQ (n:=1) rr (by simp))) ?_))
  rintro v14 w14 ⟨b14,rfl,hb,rs,g14⟩
  have m14:=(rr.rdT).kp g14
  have gg:=gg.trans g14
  have hs14:=gg.size
  have kk:=kk.other g14 hne
  have rr:cw g (some l) w14:=rs
  have hb:cE [c] b14 w14:=hb
  refine ae E E (az E E (ce) (az E E (cf) (ac E E (ac E E (ag (ab (af (af (aa (ae E E (bo E E bu ?_)))))))))))
  refine ae E E (al E (ae E E (al E ?_)))
  obtain⟨a21,p21,q21⟩:=ki hb (i:=0) (by simp) .i64
  refine au E E E (p21 _) (al E (aj E E (ai KR E q21) (al E (ak (v:=U8 1) E E E (tM) (aI E E E ?_)))))
  refine ag (ab ?_)
  refine bt E (fun h24=>?_) (fun h24=>?_)
  ·have hc:1<c.toNat:=by have:=UInt8.lt_iff_toNat_lt.1 h24;simpa using this
   have hR:(some (c::l)).bind ny=none:=CD hc
   refine af (aa ?_)
   refine bj (vs:=[]) E E iP ?_
   refine ae E E (an iL E E (iN rr) ?_)
   rintro v27 w27 ⟨rfl,rs,g27⟩
   have m27:=(rr.rdT).kp g27
   have gg:=gg.trans g27
   have kk:=kk.other g27 hne
   have rr:=rs
   obtain⟨p,q,w3,hp,hs3,q3,k3,n3,d3⟩:=kk.stR ⟨_,_,_,rfl⟩ ⟨_,_,_,rfl⟩ (dt.mk (b:=false) (bi.nil _) (bi.nil _))
   refine ax E E (hs3) (ac E E (ag (ab (aw (aD ?_)))))
   refine eJ E E E k3 KJ E dX ?_
   exact⟨_,rfl,pI gg q3 l2,by rw[hR];exact⟨_,rfl,⟨p,q,rfl,n3,d3⟩,(rr.rdT.off (kk.kpR ⟨_,_,_,rfl⟩ ⟨_,_,_,rfl⟩ q3) q3 hne').rdAt⟩⟩
  ·have hc:¬1<c.toNat:=fun hh=>h24 (UInt8.lt_iff_toNat_lt.2 (by simpa using hh))
   have hl1:∀l',some l=some l'→l'.length≤549755813888:=fun l' e=>by
    have:=hl _ rfl
    cases e
    simp at this;omega
   refine aC (ab (af ?_))
   rcases hN:um l with _|⟨m,t⟩
   ·have hR:(some (c::l)).bind ny=none:=FJ hN
    refine aa (ae E E (an lD E E ((wO (st:=some l) rr hl1 hN)) ?_))
    rintro v30 w30 ⟨g30,v0,rfl,_,_,rs⟩
    have m30:=(rr.rdT).kp g30
    have gg:=gg.trans g30
    have hs30:=gg.size
    have kk:=kk.other g30 hne
    have rr:=rs
    refine ae E E (az E E (ce) (az E E (cf) (ac E E (ac E E (ag (ab (af (af (aa (ae E E (bo E E bu ?_)))))))))))
    refine ag (ab (bg E (af (aa ?_))))
    refine bj (vs:=[]) E E iP ?_
    refine ae E E (an iL E E (iN rr) ?_)
    rintro v37 w37 ⟨rfl,rs,g37⟩
    have m37:=(rr.rdT).kp g37
    have gg:=gg.trans g37
    have kk:=kk.other g37 hne
    have rr:=rs
    obtain⟨p,q,w3,hp,hs3,q3,k3,n3,d3⟩:=kk.stR ⟨_,_,_,rfl⟩ ⟨_,_,_,rfl⟩ (dt.mk (b:=false) (bi.nil _) (bi.nil _))
    refine ax E E (hs3) (ac E E (ag (ab (aw (aD ?_)))))
    refine eJ E E E k3 KJ E dX ?_
    exact⟨_,rfl,pI gg q3 l2,by rw[hR];exact⟨_,rfl,⟨p,q,rfl,n3,d3⟩,(rr.rdT.off (kk.kpR ⟨_,_,_,rfl⟩ ⟨_,_,_,rfl⟩ q3) q3 hne').rdAt⟩⟩
   ·refine aa (ae E E (an lD E E ((pJ (st:=some l) rr hl1 hN)) ?_))
    rintro v30 w30 ⟨g30,v0,rfl,h0,rs,f0⟩
    have m30:=(rr.rdT).kp g30
    have gg:=gg.trans g30
    have hs30:=gg.size
    have kk:=kk.other g30 hne
    have rr:=rs
    refine ae E E (az E E (ce) (az E E (cf) (ac E E (ac E E (ag (ab (af (af (aa (ae E E (bo E E bu ?_)))))))))))
    refine ag (ab (cy E (aC (ab (af ?_)))))
    have hl2:∀l',some t=some l'→l'.length≤549755813888:=fun l' e=>by
     cases e
     have h1:=(kn hN).1
     have:=hl1 _ rfl
     rw[h1,List.length_append] at this
     omega
    obtain⟨s,hs⟩:∃s,s=decide (c.toNat=1):=⟨_,rfl⟩
    have hcs:s=decide (([c]:List UInt8)[0]'(Nat.zero_lt_one)=(1:UInt8)):=by
     rw[hs]
     exact decide_eq_decide.2 ⟨fun h=>Br.1 h,fun h=>Br.2 h⟩
    have hR1:=Bq hc hN
    rw[←hs] at hR1
    rcases hM:um t with _|⟨m',t'⟩
    rotate_left
    rcases hV:rv s m m'
    ·have hR:(some (c::l)).bind ny=none:=by
      show ny (c::l)=none
      rw[hR1,hM]
      exact if_neg (by rw[hV];simp)
     refine aa (ae E E (an lD E E ((DU (st:=some t) rr hl2 hM)) ?_))
     rintro v40 w40 ⟨g40,v1,rfl,h1,rs⟩
     have m40:=(rr.rdT).kp g40
     have gg:=gg.trans g40
     have kk:=kk.other g40 hne
     have rr:=rs
     refine ae E E (az E E (ce) (az E E (cf) (ac E E (ac E E (ag (ab (af (aa (ae E E ?_)))))))))
     obtain⟨a44,p44,q44⟩:=ki (hb.kp (m30.trans m40)) (i:=0) (by simp) .i64
     refine au E E E (p44 _) (aj E E (ai KR E q44) (ak (v:=U8 1) (r:=B s) E E E ((by rw[hcs];exact nD)) ?_))
     refine ae E E (ae E E ?_)
     refine bj (vs:=[(0,B s),(1,v0),(2,v1)]) E E (lC h0.isS h1.isS) ?_
     obtain⟨g8,w8,hr8,l8,x8,k8⟩:=iz (w:=w40)
     refine aX E hr8 ?_
     obtain⟨p,q,w4,hp,hs4,q4,k4,n4,d4⟩:=k8.stR ⟨_,_,_,rfl⟩ ⟨_,_,_,rfl⟩ (dt.mk (b:=s) ((h0.kp m40).ext x8) (h1.ext x8))
     refine ax E E (hs4) ?_
     have x4:=x8.of_new q4 l8
     have rr:=rr.ext x4
     have kk:=kk.ext x4
     have gg:=gg.trans (dJ x4)
     have hml:m.length≤137438953472:=by
      have:=hl1 _ rfl
      rw[(kn hN).1,List.length_append,jT,List.length_append,fB] at this
      omega
     refine ag (ab (af (af (aa (ae E E (bo E E bu (ae E E (al E (aj E E (k4.ldR) (al E ?_))))))))))
     have hml':m'.length≤137438953472:=by
      have:=hl2 _ rfl
      rw[(kn hM).1,List.length_append,jT,List.length_append,fB] at this
      omega
     refine an eI E E ((by have:=nQ (b:=s) (dt.mk n4 d4) hml hml';rw[hV] at this;exact this)) ?_
     rintro v54 w54 ⟨x54,rfl⟩
     have rr:=rr.ext x54
     have kk:=kk.ext x54
     have gg:=gg.trans (dJ x54)
     refine al E (bo E E bu (aI E E E (ag (ab (bg E (af (aa ?_)))))))
     refine bj (vs:=[]) E E iP ?_
     refine ae E E (an iL E E (iN rr) ?_)
     rintro v59 w59 ⟨rfl,rs,g59⟩
     have m59:=(rr.rdT).kp g59
     have gg:=gg.trans g59
     have kk:=kk.other g59 hne
     have rr:=rs
     obtain⟨p,q,w3,hp,hs3,q3,k3,n3,d3⟩:=kk.stR ⟨_,_,_,rfl⟩ ⟨_,_,_,rfl⟩ (dt.mk (b:=false) (bi.nil _) (bi.nil _))
     refine ax E E (hs3) (ac E E (ag (ab (aw (aD ?_)))))
     refine eJ E E E k3 KJ E dX ?_
     exact⟨_,rfl,pI gg q3 l2,by rw[hR];exact⟨_,rfl,⟨p,q,rfl,n3,d3⟩,(rr.rdT.off (kk.kpR ⟨_,_,_,rfl⟩ ⟨_,_,_,rfl⟩ q3) q3 hne').rdAt⟩⟩
    ·have hR:(some (c::l)).bind ny=some ((s,m,m'),t'):=by
      show ny (c::l)=_
      rw[hR1,hM]
      exact if_pos hV
     refine aa (ae E E (an lD E E ((pJ (st:=some t) rr hl2 hM)) ?_))
     rintro v40 w40 ⟨g40,v1,rfl,h1,rs,f1⟩
     have m40:=(rr.rdT).kp g40
     have gg:=gg.trans g40
     have kk:=kk.other g40 hne
     have rr:=rs
     refine ae E E (az E E (ce) (az E E (cf) (ac E E (ac E E (ag (ab (af (aa (ae E E ?_)))))))))
     obtain⟨a44,p44,q44⟩:=ki (hb.kp (m30.trans m40)) (i:=0) (by simp) .i64
     refine au E E E (p44 _) (aj E E (ai KR E q44) (ak (v:=U8 1) (r:=B s) E E E ((by rw[hcs];exact nD)) ?_))
     refine ae E E (ae E E ?_)
     refine bj (vs:=[(0,B s),(1,v0),(2,v1)]) E E (lC h0.isS h1.isS) ?_
     obtain⟨g8,w8,hr8,l8,x8,k8⟩:=iz (w:=w40)
     refine aX E hr8 ?_
     obtain⟨p,q,w4,hp,hs4,q4,k4,n4,d4⟩:=k8.stR ⟨_,_,_,rfl⟩ ⟨_,_,_,rfl⟩ (dt.mk (b:=s) ((h0.kp m40).ext x8) (h1.ext x8))
     refine ax E E (hs4) ?_
     have x4:=x8.of_new q4 l8
     have rr:=rr.ext x4
     have kk:=kk.ext x4
     have gg:=gg.trans (dJ x4)
     have hml:m.length≤137438953472:=by
      have:=hl1 _ rfl
      rw[(kn hN).1,List.length_append,jT,List.length_append,fB] at this
      omega
     refine ag (ab (af (af (aa (ae E E (bo E E bu (ae E E (al E (aj E E (k4.ldR) (al E ?_))))))))))
     have hml':m'.length≤137438953472:=by
      have:=hl2 _ rfl
      rw[(kn hM).1,List.length_append,jT,List.length_append,fB] at this
      omega
     refine an eI E E ((by have:=nQ (b:=s) (dt.mk n4 d4) hml hml';rw[hV] at this;exact this)) ?_
     rintro v54 w54 ⟨x54,rfl⟩
     have rr:=rr.ext x54
     have kk:=kk.ext x54
     have gg:=gg.trans (dJ x54)
     refine al E (bo E E bu (aI E E E (ag (ab (cy E (aC (ab (af (aa (aj E E ((k4.ext x54).ldR) ?_))))))))))
     obtain⟨ea,eb⟩:=Ac hp
     obtain⟨p,q,w3,hp,hs3,q3,k3,n3,d3⟩:=kk.stR ⟨_,_,_,rfl⟩ ⟨_,_,_,rfl⟩ ((dt.mk n4 d4).ext x54)
     refine ax E E (hs3) (ac E E (ag (ab (aw ?_))))
     refine eJ E E E k3 KJ E dX ?_
     exact⟨_,rfl,pI gg q3 l2,by
      rw[hR]
      obtain⟨ec,ed⟩:=Ac hp
      exact⟨p,q,rfl,n3,d3,(rr.rdT.off (kk.kpR ⟨_,_,_,rfl⟩ ⟨_,_,_,rfl⟩ q3) q3 hne').rdAt,ec▸ea▸(fun k hk=>Nat.le_trans hs14 (f0 k hk)),ed▸eb▸(fun k hk=>Nat.le_trans hs30 (f1 k hk))⟩⟩
    ·have hR:(some (c::l)).bind ny=none:=by
      show ny (c::l)=none
      rw[hR1,hM];rfl
     refine aa (ae E E (an lD E E ((wO (st:=some t) rr hl2 hM)) ?_))
     rintro v40 w40 ⟨g40,v1,rfl,⟨m',h1⟩,_,rs⟩
     have m40:=(rr.rdT).kp g40
     have gg:=gg.trans g40
     have kk:=kk.other g40 hne
     have rr:=rs
     refine ae E E (az E E (ce) (az E E (cf) (ac E E (ac E E (ag (ab (af (aa (ae E E ?_)))))))))
     obtain⟨a44,p44,q44⟩:=ki (hb.kp (m30.trans m40)) (i:=0) (by simp) .i64
     refine au E E E (p44 _) (aj E E (ai KR E q44) (ak (v:=U8 1) (r:=B s) E E E ((by rw[hcs];exact nD)) ?_))
     refine ae E E (ae E E ?_)
     refine bj (vs:=[(0,B s),(1,v0),(2,v1)]) E E (lC h0.isS h1.isS) ?_
     obtain⟨g8,w8,hr8,l8,x8,k8⟩:=iz (w:=w40)
     refine aX E hr8 ?_
     obtain⟨p,q,w4,hp,hs4,q4,k4,n4,d4⟩:=k8.stR ⟨_,_,_,rfl⟩ ⟨_,_,_,rfl⟩ (dt.mk (b:=s) ((h0.kp m40).ext x8) (h1.ext x8))
     refine ax E E (hs4) ?_
     have x4:=x8.of_new q4 l8
     have rr:=rr.ext x4
     have kk:=kk.ext x4
     have gg:=gg.trans (dJ x4)
     have hml:m.length≤137438953472:=by
      have:=hl1 _ rfl
      rw[(kn hN).1,List.length_append,jT,List.length_append,fB] at this
      omega
     refine ag (ab (af (af (aa (ae E E (bo E E bu (ae E E (am E E E (am E E E (am E E E (ar E E E (ag (ab ?_)))))))))))))
     refine bg E (af (aa ?_))
     refine bj (vs:=[]) E E iP ?_
     refine ae E E (an iL E E (iN rr) ?_)
     rintro v59 w59 ⟨rfl,rs,g59⟩
     have m59:=(rr.rdT).kp g59
     have gg:=gg.trans g59
     have kk:=kk.other g59 hne
     have rr:=rs
     obtain⟨p,q,w3,hp,hs3,q3,k3,n3,d3⟩:=kk.stR ⟨_,_,_,rfl⟩ ⟨_,_,_,rfl⟩ (dt.mk (b:=false) (bi.nil _) (bi.nil _))
     refine ax E E (hs3) (ac E E (ag (ab (aw (aD ?_)))))
     refine eJ E E E k3 KJ E dX ?_
     exact⟨_,rfl,pI gg q3 l2,by rw[hR];exact⟨_,rfl,⟨p,q,rfl,n3,d3⟩,(rr.rdT.off (kk.kpR ⟨_,_,_,rfl⟩ ⟨_,_,_,rfl⟩ q3) q3 hne').rdAt⟩⟩
end Go.Rl
namespace Go.Rl
open Go.RowKit Go.Proofs
section
variable {w w':World} {g h:Nat} {T:TypeId} {st:Option (List UInt8)} {p:Option Addr} {b:Bool}
structure DX (T:TypeId) (h g:Nat) (st:Option (List UInt8)) (w:World):Prop where
 blk:bA h T [.pointer (some ⟨g,0,none⟩),B st.isSome] w
 rd:cw g st w
 ne:h≠g
theorem pH.mv {X:Nat→Prop} (h:pH T g st w) (hm:Mv X w w') (hX:∀k,X k→g<k):pH T g st w':=by
 obtain⟨A,n,c,h1,h2,h3⟩:=h
 refine⟨A,n,c,hm.blk h1 fun hx=>Nat.lt_irrefl _ (hX g hx),?_,h3⟩
 obtain⟨A',n',c',he,h4,h5,h6,h7,h8⟩:=h2
 cases he
 refine⟨_,_,_,rfl,h4,h5,h6,fun hn=>?_,h8⟩
 obtain⟨ad,rfl,hc⟩:=h7 hn
 refine⟨ad,rfl,hm.cells hc fun _ hx=>?_⟩
 have:=hX _ hx
 have:=h3 ad rfl
 omega
theorem DX.mv {X:Nat→Prop} (hm:DX T h g st w) (hv:Mv X w w') (hX:∀k,X k→g<k∧h<k):DX T h g st w':=
 ⟨hv.blk hm.blk fun hx=>Nat.lt_irrefl _ (hX h hx).2,(hm.rd.rdT.mv hv fun k hk=>(hX k hk).1).rdAt,hm.ne⟩
def lh (h g:Nat):Nat→Prop:=fun k=>k=h∨k=g
theorem DX.ext (hm:DX T h g st w) (hx:aJ w w'):DX T h g st w':=⟨hm.blk.ext hx,hm.rd.ext hx,hm.ne⟩
end
end Go.Rl
namespace Go.Rl
open Go.RowKit Go.Proofs
theorem uq (off:Nat):∀(cs:List Value) (k:Nat) (p q r:List Value),p.length=off+k→q.length=cs.length→
 (cs.zipIdx k).foldl (fun(a:Array Value) (x:Value×Nat)=>a.setIfInBounds (off+x.2) x.1) (p++q++r).toArray=(p++cs++r).toArray
 |[],k,p,q,r,_,hq=>by
  have:q=[]:=List.eq_nil_of_length_eq_zero (by simpa using hq)
  subst this
  rfl
 |c::cs,k,p,q,r,hp,hq=>by
  cases q with
  |nil=>simp at hq
  |cons q0 q=>
   simp only[List.zipIdx_cons,List.foldl_cons]
   have e:((p++q0::q++r).toArray).setIfInBounds (off+k) c=((p++[c])++q++r).toArray:=by
    simp[←hp]
   rw[e,uq off cs (k+1) (p++[c]) q r (by simp;omega) (by simpa using hq)]
   simp
theorem qG {sz:Nat}:∀(vs:List (List Value)) (k:Nat) (a b:List Value),(∀v∈vs,v.length=sz)→a.length=k*sz→b.length=vs.length*sz→
 Instr.fill (fun i=>some (i*sz,sz)) (a++b).toArray (dG k (vs.map fun v=>Value.agg v.toArray))=some (a++vs.flatten).toArray
 |[],k,a,b,_,_,hb=>by
  have:b=[]:=List.eq_nil_of_length_eq_zero (by simpa using hb)
  subst this
  rfl
 |v::vs,k,a,b,hv,ha,hb=>by
  have hvl:=hv v (by simp)
  have hbl:b.length=sz+vs.length*sz:=by rw[hb,List.length_cons,Nat.add_mul];omega
  have hc:((Value.agg v.toArray).cells.size≠sz||decide (k*sz+(Value.agg v.toArray).cells.size>(a++b).toArray.size))=false:=by
   simp[Value.cells,hvl,ha,hbl]
  have hz:(Value.agg v.toArray).cells.zipIdx.foldl (fun(cs:Array Value) (x:Value×Nat)=>cs.setIfInBounds (k*sz+x.2) x.1) (a++b).toArray=((a++v)++b.drop sz).toArray:=by
   have h:=uq (k*sz) v 0 a (b.take sz) (b.drop sz) (by omega) (by rw[List.length_take];omega)
   rw[List.append_assoc,List.take_append_drop] at h
   rw[←h]
   simp[Value.cells]
  simp only[List.map_cons,dG,Instr.fill]
  rw[hc]
  have ih:=qG vs (k+1) (a++v) (b.drop sz) (fun u hu=>hv u (by simp[hu])) (by rw[List.length_append,ha,hvl,Nat.add_mul];omega) (by rw[List.length_drop,hbl];omega)
  simp only[Bool.false_eq_true,if_false]
  rw[hz,ih]
  simp
theorem ur {P:Program} {w:World} {t e:TypeId} {z:Value} {sz:Nat} (ht:P.underlying t=some (.slice e)) (hi:(P.info? e).map (fun i=>(i.zero,i.size))=some (some z,sz)) (hz:z.cells.size=sz) (h0:0<sz)
 (vs:List (List Value)) (hv:∀v∈vs,v.length=sz) (hn:0<vs.length) (hl:vs.length*sz≤16777216):
 ∃r w',(Instr.buildSlice t vs.length (dG 0 (vs.map fun v=>Value.agg v.toArray)).toArray).run P w=.ok r w'∧aJ w w'∧Sl sz vs.flatten r w'∧r.ownBlock=some w.heap.size:=by
 obtain⟨i,hi',h2⟩:=Option.map_eq_some_iff.1 hi
 simp only[Prod.mk.injEq] at h2
 obtain⟨hz0,hs⟩:=h2
 have hfl:vs.flatten.length=vs.length*sz:=by
  rw[List.length_flatten]
  have:∀l:List (List Value),(∀v∈l,v.length=sz)→(l.map List.length).sum=l.length*sz:=by
   intro l
   induction l with
   |nil=>intro _;simp
   |cons a l ih=>intro h;simp only[List.map_cons,List.sum_cons,List.length_cons,h a (by simp),ih fun v hv=>h v (by simp[hv]),Nat.add_mul];omega
  exact this vs hv
 have hf:∀Z:Array Value,Z.size=vs.length*sz→Instr.fill (fun i=>some (i*sz,sz)) Z (dG 0 (vs.map fun v=>Value.agg v.toArray))=some vs.flatten.toArray:=fun Z hZ=>by
  have:=qG vs 0 [] Z.toList hv (by simp) (by simpa using hZ)
  simpa using this
 have hle:¬(vs.length*sz>2^24):=by omega
 have hinfo:(typeInfo e).run P w=.ok i w:=by simp[typeInfo,hi']
 have hsz:(sizeOf e).run P w=.ok sz w:=by simp[sizeOf,hinfo,hs]
 have hzv:(zeroValue e).run P w=.ok z w:=by simp[zeroValue,hinfo,hz0]
 have hpos:0<vs.length*sz:=Nat.mul_pos hn h0
 refine⟨.slice (some ⟨w.heap.size,0,none⟩) vs.length vs.length,w.alloc (.cells vs.flatten.toArray e),?_,aJ.new w _,?_,rfl⟩
 ·simp only[Instr.buildSlice,Sem.run_bind,run_underlying ht,Result.andThen_ok,hsz,if_neg hle]
  rw[if_neg (by omega)]
  simp only[Sem.run_bind,Sem.run_pure,Result.andThen_ok,hzv]
  rw[hf _ (by simp[hz,Nat.mul_comm])]
  simp[newRow]
 ·have hg:=heap_alloc_new w (.cells vs.flatten.toArray e)
  refine⟨_,_,_,rfl,Nat.le_refl _,by unfold maxLen;have:vs.length≤vs.length*sz:=Nat.le_mul_of_pos_right _ h0;omega,hfl,fun _=>⟨_,rfl,fun j u hu=>?_⟩,fun h=>by cases h⟩
  rw[Addr.add_mid,Nat.zero_add,cell_of_row _ _ j _ _ _ hg]
  simpa using hu
end Go.Rl
namespace Go.Rl
open Go.RowKit Go.Proofs
section
variable {α:Type} {f:α→Dt} {l:List α} {v x:Value} {w w':World} {e t ty:TypeId} {sz base:Nat}
def iF (e:TypeId) (sz base:Nat) (f:α→Dt) (l:List α) (v:Value) (w:World):Prop:=∃n xs,w.ownsRow base e sz v n xs∧aO (fun k=>k<base∨v.ownBlock=some k) w (l.map f) xs
theorem iF.nil (w:World):iF e sz base f ([]:List α) (.slice none 0 0) w:=⟨0,[],World.ownsRow_nil _ _ _ _,aO.nil⟩
theorem iF.lt (h:iF e sz base f l v w):∀k,v.ownBlock=some k→base≤k∧k<w.heap.size:=fun k hk=>by
 obtain⟨n,xs,h,_⟩:=h
 exact World.ownsRow.lt h k hk
theorem iF.isS (h:iF e sz base f l v w):∃A n c,v=.slice A n c:=by
 obtain⟨n,xs,⟨_,h|⟨g,cap,cur,rfl,_⟩⟩,_⟩:=h
 ·exact⟨_,_,_,h.1⟩
 ·exact⟨_,_,_,rfl⟩
theorem iF.rpx (h:iF e sz base f l v w) (hs:∀a,(f a).size=sz) (h0:0<sz):cv (fun k=>k<base) w (.sl (l.map f)) [v]:=by
 obtain⟨n,xs,h1,h2⟩:=h
 exact cv.ofOwn h1 (h2.weak fun k hk=>.inl (.inl hk)) (by simp[hs]) h0 fun k hk=>Nat.not_lt.2 (World.ownsRow.lt h1 k hk).1
theorem iF.mv {X:Nat→Prop} (h:iF e sz base f l v w) (hm:Mv X w w') (hX:∀k,X k→k<base):iF e sz base f l v w':=by
 obtain⟨n,xs,h1,h2⟩:=h
 refine⟨n,xs,⟨h1.1,?_⟩,aO.mv (hm.weak fun k hk _=>.inl (hX k hk)) (fun k hk=>.inl hk) h2⟩
 rcases h1.2 with h3|⟨g,cap,cur,rfl,h3,h4,h5⟩
 ·exact .inl h3
 ·refine .inr ⟨g,cap,cur,rfl,h3,?_,h5⟩
  rw[hm.keep g (Array.getElem?_eq_some_iff.1 h4).1 fun hx=>by have:=hX g hx;omega]
  exact h4
theorem iF.app {P:Program} {z:Value} {bytes:Nat} (ht:P.underlying t=some (.slice e)) (hi:(P.info? e).map (fun i=>(i.zero,i.size,i.bytes))=some (some z,sz,bytes)) (hzs:z.cells.size=sz) (hsz:0<sz) (hb0:0<bytes)
 (h:iF e sz base f l v w) {a:α} {cs:List Value} (hx:Sl sz cs x w) (h1:ao cs) (ha:cv (fun k=>k<base∨v.ownBlock=some k) w (f a) cs) (hs:∀a,(f a).size=sz) (hb:(l.length+1)*bytes≤140737488355328) (hbase:base≤w.heap.size):
 ∃r w1,(Builtin.append_ #[t,t] ty #[v,x]).run P w=.ok r w1∧iF e sz base f (l++[a]) r w1∧gJ w w1 v r:=by
 obtain⟨n,xs,h2,h3⟩:=h
 have hxl:xs.length=l.length*sz:=by rw[h3.len,cG (sz:=sz) (by simp[hs]),List.length_map]
 have hcl:cs.length=sz:=by rw[ha.len,hs]
 obtain⟨r,w1,n',h4,h5,h6⟩:=qn (P:=P) (ty:=ty) ht hi hzs hsz h2 hx h1 (by
  rw[hxl,hcl,show l.length*sz+sz=(l.length+1)*sz by rw[Nat.add_mul,Nat.one_mul],Nat.mul_right_comm]
  exact Nat.mul_le_mul_right _ hb) hb0 hbase
 refine⟨r,w1,h4,⟨n',_,h5,?_⟩,h6⟩
 have hm:Mv (fun k=>k<base∨v.ownBlock=some k) w w1:=Mv.of_grown h6.grown fun k hk _=>.inr hk
 have hY:∀k,(k<base∨r.ownBlock=some k)→(k<base∨v.ownBlock=some k)∨w.heap.size≤k:=fun k hk=>by
  rcases hk with hk|hk
  ·exact .inl (.inl hk)
  ·rcases h6.own with h7|h7
   ·rw[h7] at hk;exact .inl (.inr hk)
   ·exact .inr (h7 k hk)
 rw[List.map_append]
 exact aO.append (aO.mv hm hY h3) (by simpa using aO.cons (cv.mv hm hY ha) aO.nil)
theorem iF.push {P:Program} {z:Value} {bytes:Nat} (ht:P.underlying t=some (.slice e)) (hi:(P.info? e).map (fun i=>(i.zero,i.size,i.bytes))=some (some z,sz,bytes)) (hzs:z.cells.size=sz) (hsz:0<sz) (hsb:sz≤16777216) (hb0:0<bytes)
 (h:iF e sz base f l v w) {a:α} {cs:List Value} (h1:ao cs) (ha:cv (fun k=>k<base∨v.ownBlock=some k) w (f a) cs) (hs:∀a,(f a).size=sz) (hb:(l.length+1)*bytes≤140737488355328) (hbase:base≤w.heap.size):
 ∃x w0 r w1,(Instr.buildSlice t 1 (dG 0 [Value.agg cs.toArray]).toArray).run P w=.ok x w0∧(Builtin.append_ #[t,t] ty #[v,x]).run P w0=.ok r w1∧iF e sz base f (l++[a]) r w1∧Mv (fun k=>v.ownBlock=some k) w w1∧∀k,r.ownBlock=some k→v.ownBlock=some k∨w.heap.size≤k:=by
 have hcl:cs.length=sz:=by rw[ha.len,hs]
 have hi2:(P.info? e).map (fun i=>(i.zero,i.size))=some (some z,sz):=by
  obtain⟨i,hi',h2⟩:=Option.map_eq_some_iff.1 hi
  simp only[Prod.mk.injEq] at h2
  rw[hi']
  simp[h2.1,h2.2.1]
 obtain⟨x,w0,h3,h4,h5,_⟩:=ur (w:=w) ht hi2 hzs hsz [cs] (by simp[hcl]) (by simp) (by simpa using hsb)
 have h':iF e sz base f l v w0:=by
  obtain⟨n,xs,h6,h7⟩:=h
  exact⟨n,xs,fo h6 h4,h7.ext h4⟩
 obtain⟨r,w1,h6,h7,h8⟩:=h'.app (ty:=ty) ht hi hzs hsz hb0 (by simpa using h5) h1 (ha.ext h4) hs hb (Nat.le_trans hbase h4.size)
 refine⟨x,w0,r,w1,by simpa using h3,h6,h7,(Mv.of_ext h4).trans (Mv.of_grown h8.grown fun k hk _=>hk) fun _ hn _=>hn,fun k hk=>?_⟩
 rcases h8.own with h9|h9
 ·rw[h9] at hk;exact .inl hk
 ·exact .inr (Nat.le_trans h4.size (h9 k hk))
end
end Go.Rl
namespace Go.Rl
open Go.RowKit Go.Proofs
theorem ao.append {a b:List Value} (h:ao a) (k:ao b):ao (a++b):=fun v hv=>(List.mem_append.1 hv).elim (h v) (k v)
mutual
theorem yq {w:World}:∀{d:Dt} {cs:List Value},Rp w d cs→ao cs
 |.int k n,cs,h=>by simp only[Rp] at h;subst h;exact ao.cons rfl ao.nil
 |.bool b,cs,h=>by simp only[Rp] at h;subst h;exact ao.cons rfl ao.nil
 |.str l,cs,h=>by simp only[Rp] at h;subst h;exact ao.cons rfl ao.nil
 |.sl l,cs,h=>by
  simp only[Rp] at h
  obtain⟨A,n,c,rfl,_⟩:=h
  exact ao.cons rfl ao.nil
 |.st l,cs,h=>by simp only[Rp] at h;exact eo h
theorem eo {w:World}:∀{l:List Dt} {cs:List Value},bk w l cs→ao cs
 |[],cs,h=>by simp only[bk] at h;subst h;exact ao.nil
 |d::l,cs,h=>by
  simp only[bk] at h
  obtain⟨c1,c2,rfl,h1,h2⟩:=h
  exact(yq h1).append (eo h2)
end
section
variable {α:Type} {f:α→Dt} {l m:List α} {v x:Value} {w w0 w':World} {e t ty:TypeId} {sz base:Nat}
def rE (e:TypeId) (sz base:Nat) (f:α→Dt) (l:List α) (v:Value) (w:World):Prop:=∃n xs,w.ownsRow base e sz v n xs∧aO (fun k=>v.ownBlock=some k) w (l.map f) xs
theorem rE.nil (w:World):rE e sz base f ([]:List α) (.slice none 0 0) w:=⟨0,[],World.ownsRow_nil _ _ _ _,aO.nil⟩
theorem rE.lt (h:rE e sz base f l v w):∀k,v.ownBlock=some k→base≤k∧k<w.heap.size:=fun k hk=>by
 obtain⟨n,xs,h,_⟩:=h
 exact World.ownsRow.lt h k hk
theorem rE.ext (h:rE e sz base f l v w) (hx:aJ w w'):rE e sz base f l v w':=by
 obtain⟨n,xs,h1,h2⟩:=h
 exact⟨n,xs,fo h1 hx,h2.ext hx⟩
theorem rE.stable:bG (rE e sz base f l):=fun _ _ _ h hx=>h.ext hx
theorem Kg {P:Program} {z:Value} (ht:P.underlying t=some (.slice e)) (hi:(P.info? e).map (fun i=>(i.zero,i.size))=some (some z,sz)):
 ∃r w1,(Instr.buildSlice t 0 #[]).run P w=.ok r w1∧aJ w w1∧rE e sz w.heap.size f ([]:List α) r w1∧r.ownBlock=some w.heap.size:=by
 obtain⟨i,hi',h2⟩:=Option.map_eq_some_iff.1 hi
 simp only[Prod.mk.injEq] at h2
 obtain⟨hz0,hs⟩:=h2
 have hinfo:(typeInfo e).run P w=.ok i w:=by simp[typeInfo,hi']
 have hsz:(sizeOf e).run P w=.ok sz w:=by simp[sizeOf,hinfo,hs]
 refine⟨.slice (some ⟨w.heap.size,0,none⟩) 0 0,w.alloc (.cells #[] e),?_,aJ.new w _,⟨0,[],⟨by simp,.inr ⟨_,0,#[],rfl,Nat.le_refl _,heap_alloc_new _ _,Nat.le_refl _,Nat.zero_le _,by simp,by simp⟩⟩,aO.nil⟩,rfl⟩
 have hle:¬(0*sz>2^24):=by omega
 simp only[Instr.buildSlice,Sem.run_bind,run_underlying ht,Result.andThen_ok,hsz,if_neg hle]
 rw[if_pos (by simp)]
 have hr:Array.map (fun _:Nat=>(default:Value)) (Array.range 0)= #[]:=Array.eq_empty_of_size_eq_zero (by simp)
 simp[Instr.fill,newRow,hr]
end
end Go.Rl
namespace Go.Rl
open Go.RowKit Go.Proofs
section
variable {α:Type} {f:α→Dt} {l m:List α} {v x:Value} {w w0 w':World} {e t ty:TypeId} {sz base:Nat} {X Y Z:Nat→Prop}
theorem cv.toSl {sz:Nat} {l:List Dt} {v:Value} (h:cv X w (.sl l) [v]) (hs:∀d∈l,d.size=sz):∃xs,Sl sz xs v w∧aO X w l xs:=by
 simp only[cv] at h
 obtain⟨A,n,c,hv,h2,h3,h4,h5,h6⟩:=h
 obtain rfl:v=.slice A n c:=by simpa using hv
 rcases Nat.eq_zero_or_pos n with h0|h0
 ·have:l=[]:=List.eq_nil_of_length_eq_zero (by omega)
  subst this
  exact⟨[],⟨A,n,c,rfl,h3,h4,by subst h0;simp,fun h=>by omega,h5⟩,aO.nil⟩
 ·obtain⟨ad,xs,rfl,_,h8,h9⟩:=h6 h0
  exact⟨xs,⟨_,n,c,rfl,h3,h4,by rw[h9.len,cG hs,h2],fun _=>⟨ad,rfl,h8⟩,h5⟩,h9⟩
theorem cv.isSl {l:List Dt} {v:Value} (h:cv X w (.sl l) [v]):∃A n c,v=.slice A n c:=by
 simp only[cv] at h
 obtain⟨A,n,c,hv,_⟩:=h
 exact⟨A,n,c,by simpa using hv⟩
theorem cv.ofSl {sz:Nat} {l:List Dt} {v:Value} {xs:List Value} (h:Sl sz xs v w) (ha:aO X w l xs) (hs:∀d∈l,d.size=sz) (h0:0<sz) (hX:∀k,v.ownBlock=some k→¬X k):cv X w (.sl l) [v]:=by
 obtain⟨A,n,c,rfl,h3,h4,h5,h6,h7⟩:=h
 simp only[cv]
 refine⟨A,n,c,rfl,?_,h3,h4,h7,fun hn=>?_⟩
 ·have:=ha.len
  rw[cG hs,h5] at this
  exact(Nat.eq_of_mul_eq_mul_right h0 this).symm
 ·obtain⟨ad,rfl,hc⟩:=h6 hn
  exact⟨ad,xs,rfl,fun _=>hX _ rfl,hc,ha⟩
def eu (e:TypeId) (sz base:Nat) (X:Nat→Prop) (f:α→Dt) (l:List α) (v:Value) (w:World):Prop:=∃n xs,w.ownsRow base e sz v n xs∧aO (fun k=>X k∨v.ownBlock=some k) w (l.map f) xs
theorem eu.nil (w:World):eu e sz base X f ([]:List α) (.slice none 0 0) w:=⟨0,[],World.ownsRow_nil _ _ _ _,aO.nil⟩
theorem eu.lt (h:eu e sz base X f l v w):∀k,v.ownBlock=some k→base≤k∧k<w.heap.size:=fun k hk=>by
 obtain⟨n,xs,h,_⟩:=h
 exact World.ownsRow.lt h k hk
theorem eu.isS (h:eu e sz base X f l v w):∃A n c,v=.slice A n c:=by
 obtain⟨n,xs,⟨_,h|⟨g,cap,cur,rfl,_⟩⟩,_⟩:=h
 ·exact⟨_,_,_,h.1⟩
 ·exact⟨_,_,_,rfl⟩
theorem eu.one (h:eu e sz base X f l v w):v.oneCell'=true:=by obtain⟨_,_,_,rfl⟩:=h.isS;rfl
theorem eu.rpx (h:eu e sz base X f l v w) (hs:∀a,(f a).size=sz) (h0:0<sz) (hY:∀k,Y k→X k) (hne:∀k,v.ownBlock=some k→¬Y k):cv Y w (.sl (l.map f)) [v]:=by
 obtain⟨n,xs,h1,h2⟩:=h
 exact cv.ofOwn h1 (h2.weak fun k hk=>.inl (.inl (hY k hk))) (by simp[hs]) h0 hne
theorem eu.ext (h:eu e sz base X f l v w) (hx:aJ w w'):eu e sz base X f l v w':=by
 obtain⟨n,xs,h1,h2⟩:=h
 exact⟨n,xs,fo h1 hx,h2.ext hx⟩
theorem eu.stable:bG (eu e sz base X f l):=fun _ _ _ h hx=>h.ext hx
theorem eu.mv (h:eu e sz base X f l v w) (hm:Mv Z w w') (hZ:∀k,Z k→X k) (hne:∀k,v.ownBlock=some k→¬Z k):eu e sz base X f l v w':=by
 obtain⟨n,xs,h1,h2⟩:=h
 refine⟨n,xs,⟨h1.1,?_⟩,aO.mv (hm.weak fun k hk _=>.inl (hZ k hk)) (fun k hk=>.inl hk) h2⟩
 rcases h1.2 with h3|⟨g,cap,cur,rfl,h3,h4,h5⟩
 ·exact .inl h3
 ·refine .inr ⟨g,cap,cur,rfl,h3,?_,h5⟩
  rw[hm.keep g (Array.getElem?_eq_some_iff.1 h4).1 (hne g rfl)]
  exact h4
theorem eu.weak (h:eu e sz base X f l v w) (hY:∀k,Y k→X k∨w.heap.size≤k):eu e sz base Y f l v w:=by
 obtain⟨n,xs,h1,h2⟩:=h
 exact⟨n,xs,h1,h2.weak fun k hk=>hk.elim (fun h=>(hY k h).imp .inl id) fun h=>.inl (.inr h)⟩
theorem eu.app {P:Program} {z:Value} {bytes:Nat} (ht:P.underlying t=some (.slice e)) (hi:(P.info? e).map (fun i=>(i.zero,i.size,i.bytes))=some (some z,sz,bytes)) (hzs:z.cells.size=sz) (hsz:0<sz) (hb0:0<bytes)
 (h:eu e sz base X f l v w) {cs:List Value} (hx:Sl sz cs x w) (h1:ao cs) (ha:aO (fun k=>X k∨v.ownBlock=some k) w (m.map f) cs) (hs:∀a,(f a).size=sz) (hb:(l.length+m.length)*bytes≤140737488355328) (hbase:base≤w.heap.size):
 ∃r w1,(Builtin.append_ #[t,t] ty #[v,x]).run P w=.ok r w1∧eu e sz base X f (l++m) r w1∧gJ w w1 v r:=by
 obtain⟨n,xs,h2,h3⟩:=h
 have hxl:xs.length=l.length*sz:=by rw[h3.len,cG (sz:=sz) (by simp[hs]),List.length_map]
 have hcl:cs.length=m.length*sz:=by rw[ha.len,cG (sz:=sz) (by simp[hs]),List.length_map]
 obtain⟨r,w1,n',h4,h5,h6⟩:=qn (P:=P) (ty:=ty) ht hi hzs hsz h2 hx h1 (by
  rw[hxl,hcl,←Nat.add_mul,Nat.mul_right_comm]
  exact Nat.mul_le_mul_right _ hb) hb0 hbase
 refine⟨r,w1,h4,⟨n',_,h5,?_⟩,h6⟩
 have hm:Mv (fun k=>X k∨v.ownBlock=some k) w w1:=Mv.of_grown h6.grown fun k hk _=>.inr hk
 have hY:∀k,(X k∨r.ownBlock=some k)→(X k∨v.ownBlock=some k)∨w.heap.size≤k:=fun k hk=>by
  rcases hk with hk|hk
  ·exact .inl (.inl hk)
  ·rcases h6.own with h7|h7
   ·rw[h7] at hk;exact .inl (.inr hk)
   ·exact .inr (h7 k hk)
 rw[List.map_append]
 exact aO.append (aO.mv hm hY h3) (aO.mv hm hY ha)
theorem rG {P:Program} {z:Value} (ht:P.underlying t=some (.slice e)) (hi:(P.info? e).map (fun i=>(i.zero,i.size))=some (some z,sz)):
 ∃r w1,(Instr.buildSlice t 0 #[]).run P w=.ok r w1∧aJ w w1∧eu e sz w.heap.size X f ([]:List α) r w1∧r.ownBlock=some w.heap.size:=by
 obtain⟨r,w1,a,b,⟨n,xs,h1,h2⟩,d⟩:=Kg (w:=w) (f:=f) ht hi
 refine⟨r,w1,a,b,⟨n,xs,h1,?_⟩,d⟩
 simp only[List.map_nil,aO] at h2⊢
 exact h2
end
end Go.Rl
namespace Go.Proofs.YtpeidnhjcompmaaGreatDoor
open Go Go.RowKit Go.Rl
theorem DY:Tryz.prog.globalNamed "relucert/phase.opposites" =some 0:=by kernel_rfl
theorem FK:(Tryz.prog.globals[0]?).map (·.type)=some 225:=by kernel_rfl
theorem FM:Tryz.prog.cellsOf 225=5:=by kernel_rfl
theorem FN:Tryz.prog.cellsOf 3=1:=by kernel_rfl
noncomputable def JO (os:Os):World:=
 {World.holding Tryz.prog os ⟨#[],#[],[]⟩ with heap:=(World.holding Tryz.prog os ⟨#[],#[],[]⟩).heap.modify 0 fun
  |.cells _ t frozen=>.cells #[.int .i64 0,.int .i64 2,.int .i64 1,.int .i64 4,.int .i64 3] t frozen
  |o=>o}
end Go.Proofs.YtpeidnhjcompmaaGreatDoor
namespace Go.Rl
open Go.RowKit Go.Proofs Go.Proofs.YtpeidnhjcompmaaGreatDoor
def zp (w:World):Prop:=dx w ⟨0,0,none⟩ [I 0,I 2,I 1,I 4,I 3]
theorem zp.ext {w w':World} (h:zp w) (hx:aJ w w'):zp w':=fun j u hu=>hx.cell_some (h j u hu)
theorem zp.of_laid {W:World} (h:laidMetH Tryz.prog [("relucert/phase.opposites",Rows.laid_relucert_phase_opposites)] W):zp W:=fun j u hu=>by
 have hT:Lib.TabIs Tryz.prog W "relucert/phase.opposites" .i64 [0,2,1,4,3]:=Lib.tabIs_of_head (rest:=[]) DY FK Tryz.underlying225 KI FN FM h
 rw[Addr.add_mid,Nat.zero_add]
 rcases j with _|_|_|_|_|j
 ·simp only[List.getElem?_cons_zero,Option.some.injEq] at hu;subst hu;exact hT.cell DY 0 (by decide)
 ·simp only[List.getElem?_cons_succ,List.getElem?_cons_zero,Option.some.injEq] at hu;subst hu;exact hT.cell DY 1 (by decide)
 ·simp only[List.getElem?_cons_succ,List.getElem?_cons_zero,Option.some.injEq] at hu;subst hu;exact hT.cell DY 2 (by decide)
 ·simp only[List.getElem?_cons_succ,List.getElem?_cons_zero,Option.some.injEq] at hu;subst hu;exact hT.cell DY 3 (by decide)
 ·simp only[List.getElem?_cons_succ,List.getElem?_cons_zero,Option.some.injEq] at hu;subst hu;exact hT.cell DY 4 (by decide)
 ·simp at hu
end Go.Rl
namespace Go.Rl
open Go.RowKit Go.Proofs
def DZ (g:Nat) (st:Option (List UInt8)) (w:World):Prop:=pH 167 g st w
theorem DZ.ext {g:Nat} {st:Option (List UInt8)} {w w':World} (h:DZ g st w) (hx:aJ w w'):DZ g st w':=pH.ext h hx
theorem DZ.lt {w:World} {g:Nat} {st:Option (List UInt8)} (h:DZ g st w):g<w.heap.size:=by
 obtain⟨A,n,c,h1,_⟩:=h
 exact bA.lt h1
end Go.Rl
namespace Go.Rl
open Go.RowKit Go.Proofs
theorem Hs {P:Program} {w:World} {s d:TypeId} {n:Nat} (hs:P.underlying s=some (.int .u64)) (hd:P.underlying d=some (.int .i64)) (hn:n<9223372036854775808):(convert s d (bS (UInt64.ofNat n))).run P w=.ok (I (n:Int)) w:=by
 have e:(UInt64.ofNat n).toNat=n:=by rw[UInt64.toNat_ofNat'];omega
 have:=tn (P:=P) (w:=w) hs hd (a:=UInt64.ofNat n) (by omega)
 rwa [e] at this
end Go.Rl
namespace Go.Rl
open Go.RowKit Go.Proofs
end Go.Rl
namespace Go.Rl
open Go.RowKit Go.Proofs
end Go.Rl
namespace Go.Rl
open Go.RowKit Go.Proofs
theorem Ht {l a t:List UInt8} (h:ug l=some (a,t)):l=mc a++t:=by
 unfold ug at h
 cases hu:gp l with
 |none=>rw[hu] at h;cases h
 |some p=>
  obtain⟨n,u⟩:=p
  rw[hu] at h
  have h:(if n≤u.length then some (u.take n,u.drop n) else none)=some (a,t):=h
  split at h
  ·simp only[Option.some.injEq,Prod.mk.injEq] at h
   have e:=(ga hu).1
   have hl:(u.take n).length=n:=by rw[List.length_take];omega
   rw[e,←h.1,←h.2,mc,hl,List.append_assoc,List.take_append_drop]
  ·cases h
theorem CE {l t:List UInt8} {b:Bool} {n m:List UInt32} (h:ny l=some ((b,n,m),t)):l=nA b n m++t∧rv b n m=true∧4*(n.length+m.length)≤l.length:=by
 cases l with
 |nil=>cases h
 |cons c l=>
  by_cases hc:1<c.toNat
  ·rw[CD hc] at h;cases h
  ·cases hN:um l with
   |none=>rw[FJ hN] at h;cases h
   |some p=>
    obtain⟨n',u⟩:=p
    rw[Bq hc hN] at h
    cases hM:um u with
    |none=>rw[hM] at h;cases h
    |some q=>
     obtain⟨m',u'⟩:=q
     rw[hM] at h
     have h:(if rv (decide (c.toNat=1)) n' m'=true then some ((decide (c.toNat=1),n',m'),u') else none)=some ((b,n,m),t):=h
     split at h
     ·rename_i hv
      simp only[Option.some.injEq,Prod.mk.injEq] at h
      obtain⟨⟨rfl,rfl,rfl⟩,rfl⟩:=h
      have hcs:c=yl (decide (c.toNat=1)):=by
       by_cases h1:c.toNat=1
       ·rw[decide_eq_true h1,Br.1 h1];rfl
       ·rw[decide_eq_false h1]
        exact UInt8.toNat_inj.1 (show c.toNat=(0:UInt8).toNat by rw[show(0:UInt8).toNat=0 from rfl];omega)
      have e:c::l=nA (decide (c.toNat=1)) n' m'++u':=by
       rw[nA,←hcs,(kn hN).1,(kn hM).1]
       simp
      refine⟨e,hv,?_⟩
      rw[e]
      simp only[nA,jT,List.length_append,fB]
      omega
     ·cases h
theorem FO {b:Bool} {n m:List UInt32} (h:rv b n m=true):lb (val n)=n∧lb (val m)=m:=by
 obtain⟨_,h2,h3⟩:=of_decide_eq_true h
 constructor
 ·obtain⟨x,hx⟩:∃x,x=val n/Nat.gcd (val n) (val (ud m)):=⟨_,rfl⟩
  rw[←hx] at h2
  rw[h2,bK]
 ·unfold wF at h3
  split at h3
  ·rw[h3];rfl
  ·obtain⟨x,hx⟩:∃x,x=val (ud m)/Nat.gcd (val n) (val (ud m)):=⟨_,rfl⟩
   rw[←hx] at h3
   rw[h3,bK]
theorem FP {b:Bool} {n m:List UInt32} (h:rv b n m=true) (hn:n.length<18446744073709551616) (hm:m.length<18446744073709551616) (t:List UInt8):ny (nA b n m++t)=some ((b,n,m),t):=by
 have hs:¬1<(yl b).toNat:=by cases b<;>decide
 have hd:decide ((yl b).toNat=1)=b:=by cases b<;>decide
 have e:nA b n m++t=yl b::(jT n++(jT m++t)):=by simp[nA]
 rw[e,Bq hs (Ab hn (FO h).1 _),hd,Ab hm (FO h).2]
 exact if_pos h
def Few (st:Option (List UInt8)):Prop:=∀l,st=some l→l.length≤549755813888
section
variable {w:World} {g:Nat} {st:Option (List UInt8)}
theorem Iz (hr:cw g st w) (h:st.bind gp=none):Calls Tryz.prog 89 #[.pointer (some ⟨g,0,none⟩)] w (bH fun r w'=>w.grownBy w' (some g)∧r=.tuple #[bS 0,I 5]∧cw g none w'):=by
 have:=oz hr
 rw[h] at this
 exact this
theorem FQ {n:Nat} {t:List UInt8} (hr:cw g st w) (h:st.bind gp=some (n,t)):Calls Tryz.prog 89 #[.pointer (some ⟨g,0,none⟩)] w (bH fun r w'=>w.grownBy w' (some g)∧r=.tuple #[bS (UInt64.ofNat n),I 0]∧cw g (some t) w'):=by
 have:=oz hr
 rw[h] at this
 exact this
theorem Kh (hr:cw g st w) (h:st.bind gp=none):Calls Tryz.prog 158 #[.pointer (some ⟨g,0,none⟩)] w (bH fun r w'=>w.grownBy w' (some g)∧r=.tuple #[I 0,I 5]∧cw g none w'):=by
 have:=wQ hr
 rw[h] at this
 exact this
theorem Ki {n:Nat} {t:List UInt8} (hr:cw g st w) (h:st.bind gp=some (n,t)):Calls Tryz.prog 158 #[.pointer (some ⟨g,0,none⟩)] w (bH fun r w'=>w.grownBy w' (some g)∧r=.tuple #[I (uz n),I 0]∧cw g (some t) w'):=by
 have:=wQ hr
 rw[h] at this
 exact this
end
end Go.Rl
namespace Go.Rl
def iG (x:UInt32) (n:Nat):UInt32:=(x>>>UInt32.ofNat n)|||(x<<<UInt32.ofNat (32-n))
def kc:List UInt32:=[0x428a2f98,0x71374491,0xb5c0fbcf,0xe9b5dba5,0x3956c25b,0x59f111f1,0x923f82a4,0xab1c5ed5,0xd807aa98,0x12835b01,0x243185be,0x550c7dc3,0x72be5d74,0x80deb1fe,0x9bdc06a7,0xc19bf174,0xe49b69c1,0xefbe4786,0x0fc19dc6,0x240ca1cc,0x2de92c6f,0x4a7484aa,0x5cb0a9dc,0x76f988da,0x983e5152,0xa831c66d,0xb00327c8,0xbf597fc7,0xc6e00bf3,0xd5a79147,0x06ca6351,0x14292967,0x27b70a85,0x2e1b2138,0x4d2c6dfc,0x53380d13,0x650a7354,0x766a0abb,0x81c2c92e,0x92722c85,0xa2bfe8a1,0xa81a664b,0xc24b8b70,0xc76c51a3,0xd192e819,0xd6990624,0xf40e3585,0x106aa070,0x19a4c116,0x1e376c08,0x2748774c,0x34b0bcb5,0x391c0cb3,0x4ed8aa4a,0x5b9cca4f,0x682e6ff3,0x748f82ee,0x78a5636f,0x84c87814,0x8cc70208,0x90befffa,0xa4506ceb,0xbef9a3f7,0xc67178f2]
def iv:List UInt32:=[0x6a09e667,0xbb67ae85,0x3c6ef372,0xa54ff53a,0x510e527f,0x9b05688c,0x1f83d9ab,0x5be0cd19]
def qH (b:List UInt8) (t:Nat):UInt32:=((((b.getD (4*t) 0).toUInt32<<<UInt32.ofNat 24)|||((b.getD (4*t+1) 0).toUInt32<<<UInt32.ofNat 16))|||((b.getD (4*t+2) 0).toUInt32<<<UInt32.ofNat 8))|||(b.getD (4*t+3) 0).toUInt32
def nR (l:List UInt32):UInt32:=
 let t:=l.length
 let x:=l.getD (t-15) 0
 let y:=l.getD (t-2) 0
 l.getD (t-16) 0+(iG x 7^^^iG x 18^^^x>>>UInt32.ofNat 3)+l.getD (t-7) 0+(iG y 17^^^iG y 19^^^y>>>UInt32.ofNat 10)
def i9 (b:List UInt8) (k:Nat):List UInt32:=(List.range k).map (qH b)
def bE (b:List UInt8):Nat→List UInt32
 |0=>i9 b 16
 |k+1=>bE b k++[nR (bE b k)]
theorem lE (b:List UInt8):∀k,(bE b k).length=16+k
 |0=>by simp[bE,i9]
 |k+1=>by simp[bE,lE b k];omega
def t1 (s:List UInt32) (k w:UInt32):UInt32:=
 let e:=s.getD 4 0
 s.getD 7 0+(iG e 6^^^iG e 11^^^iG e 25)+(e&&&s.getD 5 0^^^ ~~~e&&&s.getD 6 0)+k+w
def t2 (s:List UInt32):UInt32:=
 let a:=s.getD 0 0
 (iG a 2^^^iG a 13^^^iG a 22)+(a&&&s.getD 1 0^^^a&&&s.getD 2 0^^^s.getD 1 0&&&s.getD 2 0)
def rnd (s:List UInt32) (k w:UInt32):List UInt32:=[t1 s k w+t2 s,s.getD 0 0,s.getD 1 0,s.getD 2 0,s.getD 3 0+t1 s k w,s.getD 4 0,s.getD 5 0,s.getD 6 0]
def dK (b:List UInt8) (s:List UInt32):Nat→List UInt32
 |0=>s
 |i+1=>rnd (dK b s i) (kc.getD i 0) ((bE b 48).getD i 0)
theorem gL (b:List UInt8) (s:List UInt32) (hs:s.length=8):∀i,(dK b s i).length=8
 |0=>hs
 |_+1=>rfl
def vG (s:List UInt32) (b:List UInt8):List UInt32:=List.zipWith (· + ·) s (dK b s 64)
theorem Ad (s:List UInt32) (b:List UInt8) (hs:s.length=8):(vG s b).length=8:=by
 simp[vG,hs,gL b s hs]
def wU (m:List UInt8):Nat→List UInt32
 |0=>iv
 |k+1=>vG (wU m k) ((m.drop (64*k)).take 64)
theorem oD (m:List UInt8):∀k,(wU m k).length=8
 |0=>rfl
 |k+1=>Ad _ _ (oD m k)
theorem pL (m x:List UInt8):∀k,64*k≤m.length→wU (m++x) k=wU m k
 |0,_=>rfl
 |k+1,h=>by
  have h0:64*k≤m.length:=by omega
  have h1:64≤(m.drop (64*k)).length:=by simp;omega
  rw[wU,wU,pL m x k h0,List.drop_append_of_le_length h0,List.take_append_of_le_length h1]
def sh (m:List UInt8):List UInt32:=wU m (m.length/64)
theorem Fsz (m:List UInt8):(sh m).length=8:=oD m _
theorem yr (p t:List UInt8) (hp:p.length%64=0) (ht:t.length<64):sh (p++t)=sh p:=by
 have:(p++t).length/64=p.length/64:=by simp only[List.length_append];omega
 unfold sh
 rw[this,pL p t _ (by omega)]
theorem FT (p b:List UInt8) (hp:p.length%64=0) (hb:b.length=64):sh (p++b)=vG (sh p) b:=by
 have h1:(p++b).length/64=p.length/64+1:=by simp only[List.length_append];omega
 unfold sh
 rw[h1,wU,pL p b _ (by omega)]
 have h2:64*(p.length/64)=p.length:=by omega
 rw[h2,List.drop_left,←hb,List.take_length]
def vD (x:UInt32):List UInt8:=[(x>>>UInt32.ofNat 24).toUInt8,(x>>>UInt32.ofNat 16).toUInt8,(x>>>UInt32.ofNat 8).toUInt8,x.toUInt8]
def Ae (n:UInt64):List UInt8:=(List.range 8).map fun i=>(n>>>UInt64.ofNat (56-8*i)).toUInt8
def gM (n:Nat):Nat:=(119-n%64)%64
def ep (m:List UInt8):List UInt8:=m++[128]++List.replicate (gM m.length) 0++Ae (UInt64.ofNat m.length*8)
theorem Bs (m:List UInt8):(ep m).length%64=0:=by
 simp only[ep,gM,Ae,List.length_append,List.length_cons,List.length_nil,List.length_replicate,List.length_map,List.length_range];omega
def jA (m:List UInt8):List UInt8:=(sh (ep m)).flatMap vD
end Go.Rl
namespace Go.Rl
open Go.RowKit
abbrev eW:=Bool×List UInt32×List UInt32
def lT (n:Int):Dt:=.int .i64 n
def iB (q:eW):Dt:=.st [.bool q.1,pB q.2.1,pB q.2.2]
structure mC where
 kd:Int
 fr:Int
 ou:Int
 kh:Int
 kw:Int
 sr:Int
 pd:Int
 ws:List eW
 bs:List eW
structure vH where
 inp:List Int
 lays:List mC
theorem mC.eq_iff {a b:mC}:a=b↔a.kd=b.kd∧a.fr=b.fr∧a.ou=b.ou∧a.kh=b.kh∧a.kw=b.kw∧a.sr=b.sr∧a.pd=b.pd∧a.ws=b.ws∧a.bs=b.bs:=by
 constructor
 ·rintro rfl;exact⟨rfl,rfl,rfl,rfl,rfl,rfl,rfl,rfl,rfl⟩
 ·rintro⟨h1,h2,h3,h4,h5,h6,h7,h8,h9⟩
  cases a;cases b;simp_all
theorem vH.eq_iff {a b:vH}:a=b↔a.inp=b.inp∧a.lays=b.lays:=by
 constructor
 ·rintro rfl;exact⟨rfl,rfl⟩
 ·rintro⟨h1,h2⟩
  cases a;cases b;simp_all
instance:DecidableEq mC:=fun _ _=>decidable_of_iff _ mC.eq_iff.symm
instance:DecidableEq vH:=fun _ _=>decidable_of_iff _ vH.eq_iff.symm
def IA (l:List eW):Dt:=.sl (l.map iB)
def dLay (l:mC):Dt:=.st [lT l.kd,lT l.fr,lT l.ou,lT l.kh,lT l.kw,lT l.sr,lT l.pd,IA l.ws,IA l.bs]
def IB (l:List Int):Dt:=.sl (l.map lT)
def ko (n:Int):Prop:= -9223372036854775808≤n∧n≤9223372036854775807
def mC.ints (l:mC):List Int:=[l.kd,l.fr,l.ou,l.kh,l.kw,l.sr,l.pd]
def mC.wf (l:mC):Prop:=∀n∈l.ints,ko n
def vH.wf (m:vH):Prop:=(∀n∈m.inp,ko n)∧∀l∈m.lays,l.wf
def cY (n:Int):List UInt8:=uv (A1 n)
def fN (q:eW):List UInt8:=nA q.1 q.2.1 q.2.2
def o0 (l:List UInt8):Option (Int×List UInt8):=(gp l).map fun p=>(uz p.1,p.2)
def cH {α:Type} (f:List UInt8→Option (α×List UInt8)):Nat→List UInt8→Option (List α×List UInt8)
 |0,l=>some ([],l)
 |n+1,l=>(f l).bind fun p=>(cH f n p.2).map fun q=>(p.1::q.1,q.2)
def eA {α:Type} (f:List UInt8→Option (α×List UInt8)) (l:List UInt8):Option (List α×List UInt8):=(gp l).bind fun p=>cH f p.1 p.2
theorem mD {n:Int} (h:ko n) (t:List UInt8):o0 (cY n++t)=some (n,t):=by
 unfold o0 cY
 rw[px (A2 h.1 h.2)]
 simp[I1]
theorem ut {α:Type} {f:List UInt8→Option (α×List UInt8)} {e:α→List UInt8}:∀(l:List α) (t:List UInt8),(∀x∈l,∀t,f (e x++t)=some (x,t))→cH f l.length (l.flatMap e++t)=some (l,t)
 |[],t,_=>rfl
 |x::l,t,h=>by
  simp only[List.flatMap_cons,List.append_assoc,List.length_cons,cH]
  rw[h x (by simp)]
  simp only[Option.bind_some]
  rw[ut l t fun y hy=>h y (by simp[hy])]
  rfl
theorem pO {α:Type} {f:List UInt8→Option (α×List UInt8)} {e:α→List UInt8} {l:List α} (hl:l.length<18446744073709551616) (h:∀x∈l,∀t,f (e x++t)=some (x,t)) (t:List UInt8):eA f (uv l.length++l.flatMap e++t)=some (l,t):=by
 unfold eA
 rw[List.append_assoc,px hl]
 exact ut l t h
def I8 (q:eW):Prop:=rv q.1 q.2.1 q.2.2=true∧q.2.1.length<18446744073709551616∧q.2.2.length<18446744073709551616
theorem yt {q:eW} (h:I8 q) (t:List UInt8):ny (fN q++t)=some (q,t):=FP h.1 h.2.1 h.2.2 t
structure mC.ok (l:mC):Prop where
 wf:l.wf
 wl:l.ws.length<18446744073709551616
 bl:l.bs.length<18446744073709551616
 wq:∀q∈l.ws,I8 q
 bq:∀q∈l.bs,I8 q
structure vH.ok (m:vH):Prop where
 il:m.inp.length<18446744073709551616
 ll:m.lays.length<18446744073709551616
 iw:∀n∈m.inp,ko n
 lo:∀l∈m.lays,l.ok
end Go.Rl
namespace Go.Rl
open Go.RowKit
section
variable {w:World} {cs:List Value}
theorem Af (n:Int):(lT n).size=1:=rfl
theorem Hu {n:Int} (h:Rp w (lT n) cs):cs=[I n]:=by simp only[lT,Rp] at h;exact h
theorem lF {q:eW} (h:Rp w (iB q) cs):∃x y,cs=[B q.1,x,y]∧bi q.2.1 x w∧bi q.2.2 y w:=by
 simp only[iB,Rp,bk] at h
 obtain⟨_,_,rfl,rfl,_,_,rfl,h1,_,_,rfl,h2,rfl⟩:=h
 obtain⟨x,rfl,hx,_⟩:=Rp.isSlice h1
 obtain⟨y,rfl,hy,_⟩:=Rp.isSlice h2
 exact⟨x,y,rfl,Rp.wds.1 hx,Rp.wds.1 hy⟩
def I9 (l:mC) (v:Value) (w:World):Prop:=∃x y,v=.agg #[I l.kd,I l.fr,I l.ou,I l.kh,I l.kw,I l.sr,I l.pd,x,y]∧ct iB l.ws x w∧ct iB l.bs y w
def Ja (m:vH) (v:Value) (w:World):Prop:=∃x y,v=.agg #[x,y]∧ct lT m.inp x w∧ct dLay m.lays y w
theorem I9.ext {l:mC} {v:Value} {w w':World} (h:I9 l v w) (hx:aJ w w'):I9 l v w':=by
 obtain⟨x,y,h0,h1,h2⟩:=h
 exact⟨x,y,h0,h1.ext hx,h2.ext hx⟩
theorem Ja.ext {m:vH} {v:Value} {w w':World} (h:Ja m v w) (hx:aJ w w'):Ja m v w':=by
 obtain⟨x,y,h0,h1,h2⟩:=h
 exact⟨x,y,h0,h1.ext hx,h2.ext hx⟩
end
end Go.Rl
namespace Go.Rl
open Go.RowKit
section
variable {α β:Type} {f:List UInt8→Option (α×List UInt8)} {st s1 s2 so:Option (List UInt8)} {a:α}
def FU (f:List UInt8→Option (α×List UInt8)) (st:Option (List UInt8)) (a:α) (s1:Option (List UInt8)):Prop:=st.bind f=s1.map fun t=>(a,t)
theorem FU.some {t:List UInt8} (h:FU f st a (some t)):∃l,st=.some l∧f l=.some (a,t):=by
 cases st with
 |none=>cases h
 |some l=>exact⟨l,rfl,h⟩
def Le (f:List UInt8→Option (α×List UInt8)):Prop:=∀l a t,f l=some (a,t)→t.length≤l.length
def Lt (f:List UInt8→Option (α×List UInt8)):Prop:=∀l a t,f l=some (a,t)→t.length+1≤l.length
theorem Lt.le (h:Lt f):Le f:=fun l a t e=>by have:=h l a t e;omega
def vE (n:Nat) (st:Option (List UInt8)):Prop:=∀l,st=some l→l.length≤n
theorem vE.mono {n m:Nat} (h:vE n st) (hm:n≤m):vE m st:=fun l e=>Nat.le_trans (h l e) hm
theorem FU.atM {n:Nat} (h:FU f st a s1) (hf:Le f) (hn:vE n st):vE n s1:=fun t e=>by
 subst e
 obtain⟨l,h1,h2⟩:=h.some
 exact Nat.le_trans (hf l a t h2) (hn l h1)
theorem D0 {X:Option (List α×List UInt8)} {k:Nat} {done:List α} (hR:X=so.bind (fun l=>(cH f (k+1) l).map fun p=>(done++p.1,p.2))) (hq:FU f so a s2):
 X=s2.bind (fun l=>(cH f k l).map fun p=>((done++[a])++p.1,p.2)):=by
 rw[hR]
 cases so with
 |none=>
  cases s2 with
  |none=>rfl
  |some t=>cases hq
 |some l=>
  have hq:f l=s2.map fun t=>(a,t):=hq
  show(cH f (k+1) l).map _=_
  simp only[cH]
  rw[hq]
  cases s2 with
  |none=>rfl
  |some t=>
   simp only[Option.map_some,Option.bind_some,Option.map_map]
   cases cH f k t<;>simp
theorem wV (hf:Le f):∀(n:Nat) (l:List UInt8) (a:List α) (t:List UInt8),cH f n l=some (a,t)→t.length≤l.length
 |0,l,a,t,h=>by simp only[cH,Option.some.injEq,Prod.mk.injEq] at h;rw[←h.2];exact Nat.le_refl _
 |n+1,l,a,t,h=>by
  simp only[cH] at h
  obtain⟨p,h1,h2⟩:=Option.bind_eq_some_iff.1 h
  obtain⟨q,h3,h4⟩:=Option.map_eq_some_iff.1 h2
  simp only[Prod.mk.injEq] at h4
  have:=wV hf n p.2 q.1 q.2 h3
  have:=hf l p.1 p.2 h1
  rw[←h4.2]
  omega
theorem uu:Lt gp:=fun l a t h=>by
 have h1:=(ga h).1
 have h2:=pu a
 rw[h1,List.length_append]
 omega
theorem fT:Lt o0:=fun l a t h=>by
 unfold o0 at h
 obtain⟨p,h1,h2⟩:=Option.map_eq_some_iff.1 h
 have:=uu l p.1 p.2 h1
 simp only[Prod.mk.injEq] at h2
 rw[←h2.2]
 exact this
theorem uw:Lt ny:=fun l q t h=>by
 obtain⟨b,n,m⟩:=q
 have:=(CE h).1
 rw[this,List.length_append]
 have h1:1≤(nA b n m).length:=by simp only[nA,List.length_append,List.length_cons,List.length_nil];omega
 omega
theorem CF {st:Option (List UInt8)} {n:Int} {t:List UInt8} (h:FU o0 st n (some t)):ko n:=by
 obtain⟨l,_,h⟩:=h.some
 unfold o0 at h
 obtain⟨p,h1,h2⟩:=Option.map_eq_some_iff.1 h
 have:=(ga h1).2
 simp only[Prod.mk.injEq] at h2
 rw[←h2.1]
 unfold uz ko
 split<;>omega
end
end Go.Rl
namespace Go.Rl
open Go.RowKit
structure ci where
 kd:Int
 ix:Int
 lo:Int
 hi:Int
 co:eW
structure er where
 un:Int
 up:Bool
 va:eW
 pf:List ci
structure bz where
 kd:Int
 ix:Int
 at_:eW
inductive aV where
 |mk (lems:List er) (split:bz) (kids:List aV) (empty:Bool) (pf:List ci)
def Jb:eW:=(false,[],[])
def kI:bz:=⟨0,0,Jb⟩
def aV.lems:aV→List er|.mk l _ _ _ _=>l
def aV.split:aV→bz|.mk _ s _ _ _=>s
def aV.kids:aV→List aV|.mk _ _ k _ _=>k
def aV.empty:aV→Bool|.mk _ _ _ e _=>e
def aV.pf:aV→List ci|.mk _ _ _ _ p=>p
def bI (m:ci):Dt:=.st [.st [lT m.kd,lT m.ix,lT m.lo,lT m.hi],iB m.co]
def gN (l:List ci):Dt:=.sl (l.map bI)
def cP (l:er):Dt:=.st [lT l.un,.bool l.up,iB l.va,gN l.pf]
def cQ (d:bz):Dt:=.st [lT d.kd,lT d.ix,iB d.at_]
mutual
def bm:aV→Dt
 |.mk lems sp kids em pf=>.st [.sl (lems.map cP),cQ sp,.sl (yu kids),.bool em,gN pf]
def yu:List aV→List Dt
 |[]=>[]
 |n::l=>bm n::yu l
end
theorem jV:∀l:List aV,yu l=l.map bm
 |[]=>rfl
 |n::l=>by simp only[yu,List.map_cons,jV l]
def fm (d:bz):List UInt8:=cY d.kd++cY d.ix++fN d.at_
def ew (m:ci):List UInt8:=cY m.kd++cY m.ix++cY m.lo++cY m.hi++fN m.co
def iC (l:List ci):List UInt8:=uv l.length++l.flatMap ew
def ux (b:Bool):List UInt8:=if b=true then[1] else[0]
def dC (l:er):List UInt8:=cY l.un++ux l.up++fN l.va++iC l.pf
def dU (l:List er):List UInt8:=uv l.length++l.flatMap dC
mutual
def dc:aV→List UInt8
 |.mk lems _ [] em pf=>ux em++dU lems++iC pf
 |.mk lems sp (k::ks) _ _=>[2]++dU lems++fm sp++uy (k::ks)
def uy:List aV→List UInt8
 |[]=>[]
 |n::l=>dc n++uy l
end
theorem uA:∀l:List aV,uy l=l.flatMap dc
 |[]=>rfl
 |n::l=>by simp only[uy,List.flatMap_cons,uA l]
def FV (l:List aV):List UInt8:=uv l.length++l.flatMap dc
def pa (most:Nat) (l:List UInt8):Option (Nat×List UInt8):=(gp l).bind fun p=>if p.1≤most then some p else none
def wW (l:List UInt8):Option (bz×List UInt8):=(o0 l).bind fun a=>(o0 a.2).bind fun b=>(ny b.2).bind fun c=>some (⟨a.1,b.1,c.1⟩,c.2)
def uB (l:List UInt8):Option (ci×List UInt8):=(o0 l).bind fun a=>(o0 a.2).bind fun b=>(o0 b.2).bind fun c=>(o0 c.2).bind fun d=>(ny d.2).bind fun e=>some (⟨a.1,b.1,c.1,d.1,e.1⟩,e.2)
def G7:List UInt8→Option (List ci×List UInt8):=eA uB
def cc (n:Nat):Bool:=decide (n=1)
def rH (l:List UInt8):Option (er×List UInt8):=(o0 l).bind fun a=>(pa 1 a.2).bind fun b=>(ny b.2).bind fun c=>(G7 c.2).bind fun d=>some (⟨a.1,cc b.1,c.1,d.1⟩,d.2)
def sI:List UInt8→Option (List er×List UInt8):=eA rH
def pb:Nat→List UInt8→Option (aV×List UInt8)
 |0,_=>none
 |n+1,l=>(pa 2 l).bind fun a=>(sI a.2).bind fun b=>
   if a.1<2 then(G7 b.2).bind fun c=>some (.mk b.1 kI [] (decide (a.1=1)) c.1,c.2)
   else(wW b.2).bind fun c=>(pb n c.2).bind fun d=>(pb n d.2).bind fun e=>some (.mk b.1 c.1 [d.1,e.1] false [],e.2)
def Ag (l:List UInt8):Option (aV×List UInt8):=pb l.length l
def rdTs:List UInt8→Option (List aV×List UInt8):=eA Ag
section
variable {α β:Type}
theorem Le.bind {f:List UInt8→Option (α×List UInt8)} {g:α×List UInt8→Option (β×List UInt8)} (hf:Le f) (hg:∀p b t,g p=some (b,t)→t.length≤p.2.length):Le (fun l=>(f l).bind g):=fun l b t h=>by
 obtain⟨p,h1,h2⟩:=Option.bind_eq_some_iff.1 h
 exact Nat.le_trans (hg p b t h2) (hf l p.1 p.2 h1)
theorem Lt.bind {f:List UInt8→Option (α×List UInt8)} {g:α×List UInt8→Option (β×List UInt8)} (hf:Lt f) (hg:∀p b t,g p=some (b,t)→t.length≤p.2.length):Lt (fun l=>(f l).bind g):=fun l b t h=>by
 obtain⟨p,h1,h2⟩:=Option.bind_eq_some_iff.1 h
 have:=hg p b t h2
 have:=hf l p.1 p.2 h1
 omega
end
theorem fK {α β:Type} {f:List UInt8→Option (α×List UInt8)} (hf:Le f) {l:List UInt8} {g:α×List UInt8→Option (β×List UInt8)} {b:β} {t:List UInt8} (h:(f l).bind g=some (b,t)) (hg:∀p b t,g p=some (b,t)→t.length≤p.2.length):t.length≤l.length:=Le.bind hf hg l b t h
theorem qI {β:Type} {b b':β} {t t':List UInt8} (h:some (b',t')=some (b,t)):t.length≤t'.length:=by
 simp only[Option.some.injEq,Prod.mk.injEq] at h
 rw[h.2]
 exact Nat.le_refl _
theorem rI (k:Nat):Lt (pa k):=fun l a t h=>by
 unfold pa at h
 obtain⟨p,h1,h2⟩:=Option.bind_eq_some_iff.1 h
 split at h2
 ·simp only[Option.some.injEq] at h2
  subst h2
  exact uu l _ _ h1
 ·cases h2
theorem rJ:Lt wW:=Lt.bind fT fun _ _ _ h=>fK fT.le h fun _ _ _ h=>fK uw.le h fun _ _ _ h=>qI h
theorem CG:Lt uB:=Lt.bind fT fun _ _ _ h=>fK fT.le h fun _ _ _ h=>fK fT.le h fun _ _ _ h=>fK fT.le h fun _ _ _ h=>fK uw.le h fun _ _ _ h=>qI h
theorem rK {α:Type} {f:List UInt8→Option (α×List UInt8)} (hf:Le f):Lt (eA f):=fun l a t h=>by
 unfold eA at h
 obtain⟨p,h1,h2⟩:=Option.bind_eq_some_iff.1 h
 have:=wV hf p.1 p.2 a t h2
 have:=uu l p.1 p.2 h1
 omega
theorem FW:Lt G7:=rK CG.le
theorem CH:Lt rH:=Lt.bind fT fun _ _ _ h=>fK (rI 1).le h fun _ _ _ h=>fK uw.le h fun _ _ _ h=>fK FW.le h fun _ _ _ h=>qI h
theorem qJ:Lt sI:=rK CH.le
theorem qL:∀n,Lt (pb n)
 |0=>fun l a t h=>by simp[pb] at h
 |n+1=>fun l a t h=>by
  refine(Lt.bind (rI 2) fun p b t h=>?_) l a t (show((pa 2 l).bind _)=_ from h)
  refine fK qJ.le h fun q b t h=>?_
  split at h
  ·exact fK FW.le h fun _ _ _ h=>qI h
  ·exact fK rJ.le h fun _ _ _ h=>fK (qL n).le h fun _ _ _ h=>fK (qL n).le h fun _ _ _ h=>qI h
theorem oF:∀(n m:Nat) (l:List UInt8),l.length≤n→n≤m→pb m l=pb n l
 |0,0,_,_,_=>rfl
 |0,m+1,l,hl,_=>by
  have:l=[]:=List.eq_nil_of_length_eq_zero (by omega)
  subst this
  rfl
 |n+1,0,_,_,h=>by omega
 |n+1,m+1,l,hl,hm=>by
  simp only[pb]
  cases h1:pa 2 l with
  |none=>rfl
  |some a=>
   simp only[Option.bind_some]
   cases h2:sI a.2 with
   |none=>rfl
   |some b=>
    simp only[Option.bind_some]
    split
    ·rfl
    ·cases h3:wW b.2 with
     |none=>rfl
     |some c=>
      simp only[Option.bind_some]
      have a1:=rI 2 l _ _ h1
      have a2:=qJ _ _ _ h2
      have a3:=rJ _ _ _ h3
      rw[oF n m c.2 (by omega) (by omega)]
      cases h4:pb n c.2 with
      |none=>rfl
      |some d=>
       simp only[Option.bind_some]
       have a4:=qL n _ _ _ h4
       rw[oF n m d.2 (by omega) (by omega)]
theorem rL (l:List UInt8):Ag l=(pa 2 l).bind fun a=>(sI a.2).bind fun b=>
 if a.1<2 then(G7 b.2).bind fun c=>some (.mk b.1 kI [] (decide (a.1=1)) c.1,c.2)
 else(wW b.2).bind fun c=>(Ag c.2).bind fun d=>(Ag d.2).bind fun e=>some (.mk b.1 c.1 [d.1,e.1] false [],e.2):=by
 unfold Ag
 cases l with
 |nil=>rfl
 |cons x l=>
  show pb (l.length+1) (x::l)=_
  simp only[pb]
  cases h1:pa 2 (x::l) with
  |none=>rfl
  |some a=>
   simp only[Option.bind_some]
   cases h2:sI a.2 with
   |none=>rfl
   |some b=>
    simp only[Option.bind_some]
    split
    ·rfl
    ·cases h3:wW b.2 with
     |none=>rfl
     |some c=>
      simp only[Option.bind_some]
      have a1:=rI 2 _ _ _ h1
      have a2:=qJ _ _ _ h2
      have a3:=rJ _ _ _ h3
      simp only[List.length_cons] at a1
      rw[oF c.2.length l.length c.2 (Nat.le_refl _) (by omega)]
      cases h4:pb c.2.length c.2 with
      |none=>rfl
      |some d=>
       simp only[Option.bind_some]
       have a4:=qL _ _ _ _ h4
       rw[oF d.2.length l.length d.2 (Nat.le_refl _) (by omega)]
end Go.Rl
namespace Go.Rl
open Go.RowKit
section
variable {st s1 s2 s3 s4 s5:Option (List UInt8)}
variable {α:Type} {f:List UInt8→Option (α×List UInt8)} {a:α}
end
end Go.Rl

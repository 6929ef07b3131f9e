/- Part 2 of a proof: plain facts and walks of functions, merged by a program. Conditions: each lemma names its own. -/
import Derived.Test.YtpeidnhjcompmaaGreatDoorJc1
namespace Go.Rl
open Go.RowKit Go.Proofs
def wq:List UInt8:=(List.range 256).map fun n=>UInt8.ofNat (bl n)
theorem bl8 (y:UInt8):(UInt8.ofNat (bl y.toNat)).toNat=bl y.toNat∧bl y.toNat≤8:=by
 have:=yC (n:=y.toNat) (k:=8) y.toNat_lt
 exact⟨by rw[UInt8.toNat_ofNat'];omega,this⟩
theorem Ez {w:World} (y:UInt8):(Instr.index 9 (S wq) (U8 y)).run Tryz.prog w=.ok (U8 (UInt8.ofNat (bl y.toNat))) w:=by
 have hy:=y.toNat_lt
 have hs:(⟨wq.toArray⟩:ByteArray).size=256:=by simp[ByteArray.size,wq]
 rw[S,U8,run_index_string _ _ _ _ _ Tryz.underlying9,dif_pos (by rw[hs];omega)]
 have e:(⟨wq.toArray⟩:ByteArray)[((y.toNat:Int)).toNat]'(by rw[hs];omega)=UInt8.ofNat (bl y.toNat):=by
  show wq.toArray[((y.toNat:Int)).toNat]'(by simp[wq];omega)=_
  simp[wq]
 rw[e];rfl
theorem EA (x:UInt32) (h:x.toNat<256):bl x.toUInt8.toNat=bl x.toNat:=by
 have:x.toUInt8.toNat=x.toNat%256:=UInt32.toNat_toUInt8 x
 rw[this,Nat.mod_eq_of_lt h]
theorem Fy {a b:UInt32}:a≥b↔b.toNat≤a.toNat:=UInt32.le_iff_toNat_le
theorem wr {w:World} {x:UInt32}:
 Calls Tryz.prog 205 #[bH x] w (bE fun r w'=>w=w'∧r=I ((bl x.toNat:Nat):Int)):=by
 refine enter (vs:=[bH x]) Tryz.func205 E E E ?_
 have hx:=de x
 refine af (aa (ae E E (ag (ab (af (af (aa (ac E E (al (v:=bH 65536) E E E (tR) (ag (ab ?_)))))))))))
 refine bz E (fun h4=>?_) (fun h4=>?_)
 ·have h4':65536≤x.toNat:=Fy.1 h4
  have hb1:=o2 (n:=x.toNat) (s:=16) (by omega)
  have hz:=te x (s:=16) (by omega)
  refine af (aa (ac E E (al E E E (da 16 (by omega)) (ae E E (ag (ab (aa (ae E E (ag (ab (af (af (aa (ac E E ?_))))))))))))))
  refine al (v:=bH 256) E E E (tR) (ag (ab ?_))
  refine bz E (fun h8=>?_) (fun h8=>?_)
  ·have h8':256≤((((x)>>>UInt32.ofNat 16))).toNat:=Fy.1 h8
   have hb2:=o2 (n:=((((x)>>>UInt32.ofNat 16))).toNat) (s:=8) (by omega)
   have hz2:=te (((x)>>>UInt32.ofNat 16)) (s:=8) (by omega)
   refine af (aa (ac E E (al E E E (da 8 (by omega)) (ae E E (ag (ab (aa (ac E E (al E E E (aN (by omega) (by omega)) ?_)))))))))
   refine ae E E (ag (ab (af (aa (ac E E ?_)))))
   have hu:=EA (((((x)>>>UInt32.ofNat 16))>>>UInt32.ofNat 8)) (by first|omega|(rw[hz2];omega))
   refine ac E E (a9 E E (eo Mu MC) ?_)
   have hy:=bl8 ((((((x)>>>UInt32.ofNat 16))>>>UInt32.ofNat 8))).toUInt8
   refine nq (u:=S wq) (v:=U8 ((((((x)>>>UInt32.ofNat 16))>>>UInt32.ofNat 8))).toUInt8) (by kernel_rfl) E E (Ez _) ?_
   refine a9 E E (zT MC Mx) (al E E E (aN (by omega) (by omega)) (ae E E (ag (ab (aw ?_)))))
   refine az E E ?_
   exact⟨_,rfl,rfl,congrArg I (by
    try simp only[Nat.reducePow] at*
    first
    |(rw[hz2] at hu;rw[hz] at hb2 hu;rw[hb1,hb2];omega)
    |(rw[hz2] at hu;rw[hb2];omega)
    |(rw[hz] at hu;rw[hb1];omega)
    |omega)⟩
  ·have h8':((((x)>>>UInt32.ofNat 16))).toNat<256:=Nat.lt_of_not_le fun h=>h8 (Fy.2 h)
   refine aC (ab (af (aa (ac E E ?_))))
   have hu:=EA (((x)>>>UInt32.ofNat 16)) (by first|omega|(rw[hz2];omega))
   refine ac E E (a9 E E (eo Mu MC) ?_)
   have hy:=bl8 ((((x)>>>UInt32.ofNat 16))).toUInt8
   refine nq (u:=S wq) (v:=U8 ((((x)>>>UInt32.ofNat 16))).toUInt8) (by kernel_rfl) E E (Ez _) ?_
   refine a9 E E (zT MC Mx) (al E E E (aN (by omega) (by omega)) (ae E E (ag (ab (aw ?_)))))
   refine az E E ?_
   exact⟨_,rfl,rfl,congrArg I (by
    try simp only[Nat.reducePow] at*
    first
    |(rw[hz2] at hu;rw[hz] at hb2 hu;rw[hb1,hb2];omega)
    |(rw[hz2] at hu;rw[hb2];omega)
    |(rw[hz] at hu;rw[hb1];omega)
    |omega)⟩
 ·have h4':x.toNat<65536:=Nat.lt_of_not_le fun h=>h4 (Fy.2 h)
  refine aC (ab (af (af (aa (ac E E (al (v:=bH 256) E E E (tR) (ag (ab ?_))))))))
  refine bz E (fun h8=>?_) (fun h8=>?_)
  ·have h8':256≤((x)).toNat:=Fy.1 h8
   have hb2:=o2 (n:=((x)).toNat) (s:=8) (by omega)
   have hz2:=te (x) (s:=8) (by omega)
   refine af (aa (ac E E (al E E E (da 8 (by omega)) (ae E E (ag (ab (aa (ac E E (al E E E (aN (by omega) (by omega)) ?_)))))))))
   refine ae E E (ag (ab (af (aa (ac E E ?_)))))
   have hu:=EA (((x)>>>UInt32.ofNat 8)) (by first|omega|(rw[hz2];omega))
   refine ac E E (a9 E E (eo Mu MC) ?_)
   have hy:=bl8 ((((x)>>>UInt32.ofNat 8))).toUInt8
   refine nq (u:=S wq) (v:=U8 ((((x)>>>UInt32.ofNat 8))).toUInt8) (by kernel_rfl) E E (Ez _) ?_
   refine a9 E E (zT MC Mx) (al E E E (aN (by omega) (by omega)) (ae E E (ag (ab (aw ?_)))))
   refine az E E ?_
   exact⟨_,rfl,rfl,congrArg I (by
    try simp only[Nat.reducePow] at*
    first
    |(rw[hz2] at hu;rw[hz] at hb2 hu;rw[hb1,hb2];omega)
    |(rw[hz2] at hu;rw[hb2];omega)
    |(rw[hz] at hu;rw[hb1];omega)
    |omega)⟩
  ·have h8':((x)).toNat<256:=Nat.lt_of_not_le fun h=>h8 (Fy.2 h)
   refine aC (ab (af (aa (ac E E ?_))))
   have hu:=EA (x) (by first|omega|(rw[hz2];omega))
   refine ac E E (a9 E E (eo Mu MC) ?_)
   have hy:=bl8 ((x)).toUInt8
   refine nq (u:=S wq) (v:=U8 ((x)).toUInt8) (by kernel_rfl) E E (Ez _) ?_
   refine a9 E E (zT MC Mx) (al E E E (aN (by omega) (by omega)) (ae E E (ag (ab (aw ?_)))))
   refine az E E ?_
   exact⟨_,rfl,rfl,congrArg I (by
    try simp only[Nat.reducePow] at*
    first
    |(rw[hz2] at hu;rw[hz] at hb2 hu;rw[hb1,hb2];omega)
    |(rw[hz2] at hu;rw[hb2];omega)
    |(rw[hz] at hu;rw[hb1];omega)
    |omega)⟩
theorem Fz {w:World} {x:UInt32}:
 Calls Tryz.prog 200 #[bH x] w (bE fun r w'=>w=w'∧r=I ((32-bl x.toNat:Nat):Int)):=by
 refine enter (vs:=[bH x]) Tryz.func200 E E E ?_
 have hx:=yC (n:=x.toNat) (k:=32) x.toNat_lt
 refine af (aa (ae E E (ag (ab (af (aa (ac E E (am wj E E (wr) ?_))))))))
 rintro v4 _ ⟨rfl,rfl⟩
 refine al (r:=I ((32-bl x.toNat:Nat):Int)) E E E (by have e:((32-bl x.toNat:Nat):Int)=32-((bl x.toNat:Nat):Int):=(by omega);rw[e];exact bD (by omega) (by omega)) ?_
 refine ae E E (ag (ab (aw (az E E ?_))))
 exact⟨_,rfl,rfl,rfl⟩
theorem CX {w:World} {l:List UInt32} {v:Value} (hv:bm l v w) (hl:l.length≤1099511627776):
 Calls Tryz.prog 183 #[v] w (bE fun r w'=>w=w'∧r=I ((bl (val l):Nat):Int)):=by
 refine enter (vs:=[v]) Tryz.func183 E E E ?_
 have hll:=iX (cO l)
 refine af (aa (ae E E (ag (ab (af (aa (ac E E (am dY E E (eE hv) ?_))))))))
 rintro v4 _ ⟨rfl,b4⟩
 refine ae E E (ag (ab (af (af (aa (ac E E (aO (r:=I ((lb (val l)).length:Int)) E E (bC Ms b4) ?_)))))))
 refine al E E E (bi) (ag (ab ?_))
 refine bz E (fun h7=>?_) (fun h7=>?_)
 ·refine af (aa (ae E E (ag (ab (aw (ay (az E E ?_)))))))
  exact⟨_,rfl,rfl,by
   have:val l=0:=iD.1 (by omega)
   rw[this];rfl⟩
 ·refine aC (ab (af (aa (ac E E (aO (r:=I ((lb (val l)).length:Int)) E E (bC Ms b4) (al (r:=I (((lb (val l)).length-1:Nat):Int)) E E E (by have e:(((lb (val l)).length-1:Nat):Int)=((lb (val l)).length:Int)-1:=(by omega);rw[e];exact bD (by omega) (by omega)) ?_))))))
  refine al (r:=I ((32*((lb (val l)).length-1:Nat):Nat):Int)) E E E (by have e:((32*((lb (val l)).length-1:Nat):Nat):Int)=32*(((lb (val l)).length-1:Nat):Int):=(by omega);rw[e];exact fI (by omega) (by omega)) ?_
  refine ac E E (ac E E (aO (r:=I ((lb (val l)).length:Int)) E E (bC Ms b4) (al (r:=I (((lb (val l)).length-1:Nat):Int)) E E E (by have e:(((lb (val l)).length-1:Nat):Int)=((lb (val l)).length:Int)-1:=(by omega);rw[e];exact bD (by omega) (by omega)) ?_)))
  obtain⟨a16,p16,q16⟩:=db Ms b4 (i:=((lb (val l)).length-1:Nat)) (by omega) .i64
  refine aq E E E (p16 _) (ak E E (aj Mu E q16) (am wj E E (wr) ?_))
  rintro v18 _ ⟨rfl,rfl⟩
  have hb:=Kt (n:=val l) (i:=(lb (val l)).length-1) (by omega)
  have hb32:=yC (n:=((lb (val l))[(lb (val l)).length-1]'(by omega)).toNat) (k:=32) (de _)
  refine al (r:=I ((((32*((lb (val l)).length-1:Nat):Nat))+(bl ((lb (val l))[(lb (val l)).length-1]'(by omega)).toNat:Nat):Nat):Int)) E E E (by have e:((((32*((lb (val l)).length-1:Nat):Nat))+(bl ((lb (val l))[(lb (val l)).length-1]'(by omega)).toNat:Nat):Nat):Int)=((32*((lb (val l)).length-1:Nat):Nat):Int)+((bl ((lb (val l))[(lb (val l)).length-1]'(by omega)).toNat:Nat):Int):=(by omega);rw[e];exact aN (by omega) (by omega)) ?_
  refine ae E E (ag (ab (aw (az E E ?_))))
  exact⟨_,rfl,rfl,by rw[hb]⟩
theorem EB {a L:List UInt32} {i s V:Nat} {o:UInt32} (hi:i<a.length) (hL:L.length=a.length) (hv:val (L.take i)+4294967296^i*(val (a.drop i)/2^s)=V)
 (st:o.toNat+4294967296*(val (a.drop (i+1))/2^s)=(a[i].toNat+4294967296*val (a.drop (i+1)))/2^s):val ((L.set i o).take (i+1))+4294967296^(i+1)*(val (a.drop (i+1))/2^s)=V:=by
 rw[ga (by omega),Nat.add_assoc,Nat.pow_succ,Nat.mul_assoc,←Nat.mul_add,st,←fx hi,hv]
theorem Bz {a:List UInt32} {i:Nat} {x:UInt64} (hi:i<a.length) (hx:(∃h:i+1<a.length,x=a[i].toUInt64|||a[i+1].toUInt64<<<UInt64.ofNat 32)∨(a.length≤i+1∧x=a[i].toUInt64)) {s:Nat} (hs:s<32):
 ((x>>>UInt64.ofNat s).toUInt32).toNat+4294967296*(val (a.drop (i+1))/2^s)=(a[i].toNat+4294967296*val (a.drop (i+1)))/2^s:=by
 refine(Hm hs ?_).resolve_right (by have:=de a[i];omega)
 rcases hx with⟨h,rfl⟩|⟨h,rfl⟩
 ·rw[Ks (gn _) (de _),fx h]
  have:=de a[i+1]
  rw[Nat.add_mul_mod_self_left,Nat.mod_eq_of_lt this]
 ·rw[gn,List.drop_of_length_le h];simp[val]
theorem FA {w:World} {l:List UInt32} {v:Value} {k:Nat} (hv:bm l v w) (hl:l.length≤1099511627776) (hk:k≤1048576):
 Calls Tryz.prog 204 #[v,I (k:Int)] w (bE fun r w'=>aK w w'∧∃q,r=.tuple #[q,I 0]∧bm (lb (val l/2^k)) q w'):=by
 refine enter (vs:=[v,I (k:Int)]) Tryz.func204 E E E ?_
 have hll:=iX (cO l)
 refine af (aa (ae E E (ae E E (ag (ab (af (af (aa (ac E E (al E E E (cY (by omega) aV) (ac E E (ai E ?_))))))))))))
 refine ac E E (ai E (al E E E (cY (by omega) ca) (aD E E E (ag (ab (cr E (aC (ab (af (aa (ac E E (am dY E E (eE hv) ?_))))))))))))
 rintro v17 _ ⟨rfl,b17⟩
 refine ae E E (ag (ab (af (af (aa (ac E E (al (r:=I ((k/32:Nat):Int)) E E E (by have e:((k/32:Nat):Int)=(k:Int)/32:=(by omega);rw[e];exact pW (by omega) (by omega) (by omega)) ?_)))))))
 refine ac E E (aO E E (bC Ms b17) (al E E E (gx) (ag (ab ?_))))
 refine bz E (fun h22=>?_) (fun h22=>?_)
 ·refine af (aa (ae E E (ae E E (ag (ab (aw (ay (bf E E E ?_))))))))
  exact⟨_,rfl,aK.refl _,_,rfl,by
   have h1:=cO (lb (val l))
   rw[bW] at h1
   have h2:(4294967296:Nat)^(lb (val l)).length=2^(32*(lb (val l)).length):=by rw[Nat.pow_mul]
   have h3:2^(32*(lb (val l)).length)≤2^k:=Nat.pow_le_pow_right (by omega) (by omega)
   rw[Nat.div_eq_of_lt (by omega)]
   exact bm.nil _⟩
 ·refine aC (ab (af (aa (ac E E (ac E E (al (r:=I ((k/32:Nat):Int)) E E E (by have e:((k/32:Nat):Int)=(k:Int)/32:=(by omega);rw[e];exact pW (by omega) (by omega) (by omega)) ?_))))))
  obtain⟨v26,p26,b26⟩:=Hk Ms b17 (lo:=k/32) (by omega) .i64
  refine cx E E E E E (p26 _) (ae E E (ag (ab (af ?_))))
  obtain⟨a,ha⟩:∃a,a=(lb (val l)).drop (k/32):=⟨_,rfl⟩
  have hva:val a=val l/2^(32*(k/32)):=by
   have h1:=fe (lb (val l)) (k/32) (by omega)
   have h2:=cO ((lb (val l)).take (k/32))
   rw[List.length_take,Nat.min_eq_left (by omega)] at h2
   rw[bW] at h1
   have h3:(4294967296:Nat)^(k/32)=2^(32*(k/32)):=by rw[Nat.pow_mul]
   rw[h3] at h1 h2
   rw[ha]
   conv=>rhs;rw[h1]
   rw[Nat.add_mul_div_left _ _ (Nat.pow_pos (by omega)),Nat.div_eq_of_lt h2,Nat.zero_add]
  have hal:a.length≤1099511627776:=by rw[ha,List.length_drop];omega
  rw[←ha] at b26
  refine aa (ac E E (aO (r:=I (a.length:Int)) E E (bC Ms b26) ?_))
  obtain⟨v29,w29,hr29,x29,o29,ob29⟩:=yy Ms (w:=w) w.heap.size (n:=a.length) (by omega) (Nat.le_refl _)
  refine iT E E E hr29 (ae E E (ag (ab (af (af (aa (ac E E (aO (r:=I (a.length:Int)) E E (bC Ms (b26.ext x29)) ?_))))))))
  refine ac E E (ag (ab (aE ?_)))
  refine fw (fun(i:Nat) (L:List UInt32)=>[(0,v26),(1,I (k:Int)),(6,v29),(30,v26),(31,I (a.length:Int)),(32,I (i:Int))]) (fun(i:Nat) (L:List UInt32) w'=>el w.heap.size L v29 w'∧aK w w'∧i≤a.length∧L.length=a.length∧val (L.take i)+4294967296^i*(val (a.drop i)/2^(k%32))=val a/2^(k%32)) (fun(i:Nat) (L:List UInt32)=>a.length-i) (0) (List.replicate a.length 0) ⟨rfl,rfl,rfl,rfl,rfl,rfl,trivial⟩ ⟨o29,x29,by simp,by simp,by simp[val]⟩ ?_
  rintro i L w9 ⟨oL,e9,hi,hL,hval⟩
  refine af (aa (al E E E (aV) (ag (ab (af ?_)))))
  refine bz E (fun h33=>?_) (fun h33=>?_)
  ·have hia:i<a.length:=by omega
   refine aC (ab (af (aE (af (aa (ac E E ?_))))))
   obtain⟨a35,p35,q35⟩:=db Ms (b26.ext e9) (i:=i) (by omega) .i64
   refine aq E E E (p35 _) (ak E E (aj Mu E q35) (ae E E (ae E E (ag (ab (af (aa (ac E E ?_))))))))
   refine a9 E E (cc Mu MA) (ae E E (ag (ab (af (af (aa (ac E E (al (r:=I ((i+1:Nat):Int)) E E E (by have e:((i+1:Nat):Int)=(i:Int)+1:=(by omega);rw[e];exact aN (by omega) (by omega)) ?_))))))))
   refine ac E E (aO (r:=I (a.length:Int)) E E (bC Ms (b26.ext e9)) (al E E E (aV) (ag (ab ?_))))
   refine bz E (fun h43=>?_) (fun h43=>?_)
   ·refine aa (ac E E (ac E E (ac E E (al (r:=I ((i+1:Nat):Int)) E E E (by have e:((i+1:Nat):Int)=(i:Int)+1:=(by omega);rw[e];exact aN (by omega) (by omega)) ?_))))
    obtain⟨a48,p48,q48⟩:=db Ms (b26.ext e9) (i:=(i+1:Nat)) (by omega) .i64
    refine aq E E E (p48 _) (ak E E (aj Mu E q48) (a9 E E (cc Mu MA) ?_))
    refine al E E E (gr 32 (by omega)) (al E E E (jQ) (ae E E (ag (ab (aa (ac E E (ac E E (ac E E (ac E E ?_)))))))))
    refine al (r:=I ((k%32:Nat):Int)) E E E (by have e:((k%32:Nat):Int)=(k:Int)%32:=(by omega);rw[e];exact pY (by omega) (by omega)) ?_
    refine al E E E (dF ((k%32:Nat)) (by omega)) (a9 E E (cR MA Mu) ?_)
    have st:=Bz (x:=(((((a[i])).toUInt64)|||(((((a[(i+1:Nat)])).toUInt64)<<<UInt64.ofNat 32))))) hia (by first|exact .inl ⟨by omega,rfl⟩|exact .inr ⟨by omega,rfl⟩) (Nat.mod_lt k (show 0<32 by omega))
    obtain⟨g60,w60,p60,s60,o60,q60,hb60,c60,ob60⟩:=(oL).setW Ms (i:=i) (by omega) (((((((a[i])).toUInt64)|||(((((a[(i+1:Nat)])).toUInt64)<<<UInt64.ofNat 32))))>>>UInt64.ofNat (k%32)).toUInt32)
    refine aq E E E (p60 _) (au E E s60 ?_)
    have x60:=aK.of_new (e9) q60 hb60
    refine ag (aS (ab (aa (al (r:=I ((i+1:Nat):Int)) E E E (by have e:((i+1:Nat):Int)=(i:Int)+1:=(by omega);rw[e];exact aN (by omega) (by omega)) ?_))))
    refine ac E E (ag ?_)
    refine dG (i+1) (_) ⟨rfl,rfl,rfl,rfl,rfl,rfl,trivial⟩ ⟨o60,x60,hia,by simpa using hL,EB hia hL hval st⟩ (by show a.length-(i+1)<a.length-i;omega)
   ·refine aC (ab (aa (ac E E (ac E E (ac E E (ac E E (al (r:=I ((k%32:Nat):Int)) E E E (by have e:((k%32:Nat):Int)=(k:Int)%32:=(by omega);rw[e];exact pY (by omega) (by omega)) ?_)))))))
    refine al E E E (dF ((k%32:Nat)) (by omega)) (a9 E E (cR MA Mu) ?_)
    have st:=Bz (x:=(((a[i])).toUInt64)) hia (by first|exact .inl ⟨by omega,rfl⟩|exact .inr ⟨by omega,rfl⟩) (Nat.mod_lt k (show 0<32 by omega))
    obtain⟨g60,w60,p60,s60,o60,q60,hb60,c60,ob60⟩:=(oL).setW Ms (i:=i) (by omega) (((((a[i])).toUInt64)>>>UInt64.ofNat (k%32)).toUInt32)
    refine aq E E E (p60 _) (au E E s60 ?_)
    have x60:=aK.of_new (e9) q60 hb60
    refine ag (aS (ab (aa (al (r:=I ((i+1:Nat):Int)) E E E (by have e:((i+1:Nat):Int)=(i:Int)+1:=(by omega);rw[e];exact aN (by omega) (by omega)) ?_))))
    refine ac E E (ag ?_)
    refine dG (i+1) (_) ⟨rfl,rfl,rfl,rfl,rfl,rfl,trivial⟩ ⟨o60,x60,hia,by simpa using hL,EB hia hL hval st⟩ (by show a.length-(i+1)<a.length-i;omega)
  ·refine bc (aI (aI (be (ab (af (aa ?_))))))
   have hla:val L=val l/2^k:=by
    rw[List.take_of_length_le (by omega),List.drop_of_length_le (by omega)] at hval
    simp only[val,Nat.zero_div,Nat.mul_zero,Nat.add_zero] at hval
    rw[hval,hva,Nat.div_div_eq_div_mul,←Nat.pow_add,Nat.div_add_mod]
   refine ac E E (am dY E E (eE oL.wds) ?_)
   rintro v63 _ ⟨rfl,b63⟩
   refine ae E E (ae E E (ag (ab (aw (bf E E E ?_)))))
   exact⟨_,rfl,e9,_,rfl,by rw[←hla];exact b63⟩
end Go.Rl
namespace Go.Rl
theorem BA {V U v1 v2 u01 u2 P Vl Ul q r:Nat} (hV:V=(v1*4294967296+v2)*P+Vl) (hU:U=(u01*4294967296+u2)*P+Ul) (hUl:Ul<P) (hqr:q*v1+r=u01)
 (h:r*4294967296+u2<q*v2):U<q*V:=by
 have h1:u01*4294967296+u2+1≤q*(v1*4294967296+v2):=by
  rw[←hqr,Nat.mul_add,←Nat.mul_assoc,Nat.add_mul];omega
 have h2:(u01*4294967296+u2+1)*P≤q*(v1*4294967296+v2)*P:=Nat.mul_le_mul_right _ h1
 have h3:q*(v1*4294967296+v2)*P≤q*V:=by
  rw[hV,Nat.mul_assoc];exact Nat.mul_le_mul_left _ (Nat.le_add_right _ _)
 rw[Nat.add_mul _ 1] at h2
 omega
theorem Hn {V U v1 v2 u01 u2 P Vl Ul q:Nat} (hV:V=(v1*4294967296+v2)*P+Vl) (hU:U=(u01*4294967296+u2)*P+Ul) (hVl:Vl<P) (h1:0<v1) (hq:0<q) (hqB:q≤4294967296)
 (h:q*(v1*4294967296+v2)≤u01*4294967296+u2):(q-1)*V≤U:=by
 obtain⟨m,rfl⟩:∃m,q=m+1:=⟨q-1,by omega⟩
 rw[Nat.add_sub_cancel]
 have h2:(m+1)*(v1*4294967296+v2)*P≤(u01*4294967296+u2)*P:=Nat.mul_le_mul_right _ h
 have h3:m*Vl≤(v1*4294967296+v2)*P:=by
  have a:m*Vl≤4294967296*P:=Nat.mul_le_mul (by omega) (by omega)
  have b:4294967296*P≤(v1*4294967296+v2)*P:=Nat.mul_le_mul_right _ (by omega)
  omega
 rw[hV,Nat.mul_add,←Nat.mul_assoc]
 rw[Nat.add_mul m 1,Nat.one_mul,Nat.add_mul] at h2
 omega
theorem qi {V U v1 v2 u01 u2 P Vl Ul q r:Nat} (hV:V=(v1*4294967296+v2)*P+Vl) (hU:U=(u01*4294967296+u2)*P+Ul) (hVl:Vl<P) (h1:0<v1) (hv2:v2<4294967296) (hqB:q<4294967296) (hqr:q*v1+r=u01)
 (h:4294967296≤r∨q*v2≤r*4294967296+u2):(q-1)*V≤U:=by
 rcases Nat.eq_zero_or_pos q with rfl|hq
 ·simp
 ·refine Hn hV hU hVl h1 hq (by omega) ?_
  rw[Nat.mul_add,←Nat.mul_assoc]
  have hp:q*v2≤4294967295*4294967295:=Nat.mul_le_mul (by omega) (by omega)
  omega
theorem Ho {v1 u0 u1 q r:Nat} (hu0:u0≤v1) (hu1:u1<4294967296) (hqr:q*v1+r=u0*4294967296+u1) (hr:4294967296≤r):q<4294967296:=by
 rcases Nat.lt_or_ge q 4294967296 with h|h
 ·exact h
 ·have:=Nat.mul_le_mul_right v1 h
  omega
theorem KS {V U v1 u01 P Q:Nat} (hV:v1*P≤V) (hU:U<(u01+1)*P) (h1:0<v1) (h:Q*V≤U):Q≤u01/v1:=by
 rw[Nat.le_div_iff_mul_le h1]
 have h2:Q*v1*P≤Q*V:=by rw[Nat.mul_assoc];exact Nat.mul_le_mul_left _ hV
 have h3:Q*v1*P<(u01+1)*P:=by omega
 have:=Nat.lt_of_mul_lt_mul_right h3
 omega
theorem LZ {u lo b:Nat} (hu:u<4294967296) (hlo:lo<4294967296) (hb:b≤1) {x:UInt64} (hx:x.toNat=(18446744073709551616-b+(18446744073709551616-lo+u)%18446744073709551616)%18446744073709551616):
 x.toNat%4294967296+lo+b=u+4294967296*(x.toNat/9223372036854775808)∧x.toNat/9223372036854775808≤1:=by
 omega
theorem Hp {L v:List UInt32} {M:List UInt32} {i:Nat} {q c b x:UInt64} (hi:i<v.length) (hL:v.length<L.length) (hM:M.length=L.length) (hq:q.toNat<4294967296) (hc:c.toNat<4294967296) (hb:b.toNat≤1)
 (hMi:M.drop i=L.drop i) (hinv:val (L.take i)+4294967296^i*(c.toNat+b.toNat)=val (M.take i)+q.toNat*val (v.take i))
 (hx:x=(M[i]'(by omega)).toUInt64-((c+q*v[i].toUInt64).toUInt32).toUInt64-b):
 (M.set i x.toUInt32).drop (i+1)=L.drop (i+1)∧((c+q*v[i].toUInt64)>>>UInt64.ofNat 32).toNat<4294967296∧(x>>>UInt64.ofNat 63).toNat≤1∧
   val (L.take (i+1))+4294967296^(i+1)*(((c+q*v[i].toUInt64)>>>UInt64.ofNat 32).toNat+(x>>>UInt64.ofNat 63).toNat)=val ((M.set i x.toUInt32).take (i+1))+q.toNat*val (v.take (i+1)):=by
 have hd:=de v[i]
 have hMl:M[i]'(by omega)=L[i]'(by omega):=by
  have h1:=List.getElem?_drop (xs:=M) (i:=i) (j:=0)
  have h2:=List.getElem?_drop (xs:=L) (i:=i) (j:=0)
  rw[hMi] at h1
  rw[h1,Nat.add_zero,List.getElem?_eq_getElem (by omega),List.getElem?_eq_getElem (by omega)] at h2
  exact Option.some.inj h2
 have hu:=de (M[i]'(by omega))
 have hprod:q.toNat*v[i].toNat≤4294967295*4294967295:=Nat.mul_le_mul (by omega) (by omega)
 have hC:(c+q*v[i].toUInt64).toNat=c.toNat+q.toNat*v[i].toNat:=by
  rw[qX,yB,gn];omega
 have hhi:((c+q*v[i].toUInt64)>>>UInt64.ofNat 32).toNat=(c.toNat+q.toNat*v[i].toNat)/4294967296:=by rw[uR _ (by omega),hC]
 have hb1:(x>>>UInt64.ofNat 63).toNat=x.toNat/9223372036854775808:=by rw[uR _ (by omega)]
 have hxn:x.toNat=(18446744073709551616-b.toNat+(18446744073709551616-(c.toNat+q.toNat*v[i].toNat)%4294967296+(M[i]'(by omega)).toNat)%18446744073709551616)%18446744073709551616:=by
  rw[hx,tf,tf,gn,gn,mH,hC]
 obtain⟨hs1,hs2⟩:=LZ hu (Nat.mod_lt _ (by omega)) hb hxn
 refine⟨?_,by rw[hhi];omega,by rw[hb1];exact hs2,?_⟩
 ·rw[List.drop_set_of_lt (by omega)]
  have:=congrArg (List.drop 1) hMi
  rwa [List.drop_drop,List.drop_drop] at this
 ·rw[ga (by omega),cm (by omega),cm hi,hhi,hb1,mH,←hMl,Nat.pow_succ,Nat.mul_add q.toNat,Nat.mul_left_comm q.toNat]
  have hdm:=Nat.div_add_mod (c.toNat+q.toNat*v[i].toNat) 4294967296
  have key:(M[i]'(by omega)).toNat+4294967296*((c.toNat+q.toNat*v[i].toNat)/4294967296+x.toNat/9223372036854775808)=x.toNat%4294967296+q.toNat*v[i].toNat+(c.toNat+b.toNat):=by omega
  have k2:=congrArg (4294967296^i* ·) key
  simp only[Nat.mul_add] at k2 hinv⊢
  simp only[Nat.mul_assoc] at k2⊢
  omega
theorem Hq {M v L:List UInt32} {i:Nat} {c:UInt64} (hi:i<v.length) (hL:v.length<L.length) (hM:M.length=L.length) (hc:c.toNat≤1)
 (hMi:M.drop i=L.drop i) (hinv:val (M.take i)+4294967296^i*c.toNat=val (L.take i)+val (v.take i)):
 (M.set i (c+((M[i]'(by omega)).toUInt64+v[i].toUInt64)).toUInt32).drop (i+1)=L.drop (i+1)∧((c+((M[i]'(by omega)).toUInt64+v[i].toUInt64))>>>UInt64.ofNat 32).toNat≤1∧
   val ((M.set i (c+((M[i]'(by omega)).toUInt64+v[i].toUInt64)).toUInt32).take (i+1))+4294967296^(i+1)*((c+((M[i]'(by omega)).toUInt64+v[i].toUInt64))>>>UInt64.ofNat 32).toNat=val (L.take (i+1))+val (v.take (i+1)):=by
 have hd:=de v[i]
 have hMl:M[i]'(by omega)=L[i]'(by omega):=by
  have h1:=List.getElem?_drop (xs:=M) (i:=i) (j:=0)
  have h2:=List.getElem?_drop (xs:=L) (i:=i) (j:=0)
  rw[hMi] at h1
  rw[h1,Nat.add_zero,List.getElem?_eq_getElem (by omega),List.getElem?_eq_getElem (by omega)] at h2
  exact Option.some.inj h2
 have hu:=de (M[i]'(by omega))
 have hC:(c+((M[i]'(by omega)).toUInt64+v[i].toUInt64)).toNat=c.toNat+((M[i]'(by omega)).toNat+v[i].toNat):=by
  rw[qX,qX,gn,gn];omega
 have hhi:((c+((M[i]'(by omega)).toUInt64+v[i].toUInt64))>>>UInt64.ofNat 32).toNat=(c.toNat+((M[i]'(by omega)).toNat+v[i].toNat))/4294967296:=by rw[uR _ (by omega),hC]
 refine⟨?_,by rw[hhi];omega,?_⟩
 ·rw[List.drop_set_of_lt (by omega)]
  have:=congrArg (List.drop 1) hMi
  rwa [List.drop_drop,List.drop_drop] at this
 ·rw[ga (by omega),cm (by omega),cm hi,hhi,mH,hC,←hMl,Nat.pow_succ]
  have key:(c.toNat+((M[i]'(by omega)).toNat+v[i].toNat))%4294967296+4294967296*((c.toNat+((M[i]'(by omega)).toNat+v[i].toNat))/4294967296)=(M[i]'(by omega)).toNat+v[i].toNat+c.toNat:=by omega
  have k2:=congrArg (4294967296^i* ·) key
  simp only[Nat.mul_add] at k2 hinv⊢
  simp only[Nat.mul_assoc] at k2⊢
  omega
theorem FB {n j:Nat} (h1:4294967296^j≤n) (h2:n<4294967296^(j+1)):(lb n).length=j+1:=by
 have a:=iX h2
 have b:=cO (lb n)
 rw[bW] at b
 have c:=(Nat.pow_lt_pow_iff_right (a:=4294967296) (by omega)).1 (Nat.lt_of_le_of_lt h1 b)
 omega
theorem pa {x y:Nat}:tZ x y<0↔x<y:=by
 unfold tZ
 split
 ·simp;assumption
 ·split
  ·simp;omega
  ·simp;omega
theorem Hr {n k:Nat} (h:(lb n).length=k+2):
 32-bl ((lb n)[k+1]'(by omega)).toNat<32∧(lb (n*2^(32-bl ((lb n)[k+1]'(by omega)).toNat))).length=k+2:=by
 have hn:0<n:=by
  rcases Nat.eq_zero_or_pos n with h0|h0
  ·subst h0;simp[gZ] at h
  ·exact h0
 have ht:=z5 (n:=n) (i:=k+1) (by omega)
 have h1:=Eu hn
 rw[h] at h1
 have hb:=(th ht).2
 have hp:=wh ht
 have h32:=yC (n:=((lb n)[k+1]'(by omega)).toNat) (k:=32) (de _)
 have hv:n<(((lb n)[k+1]'(by omega)).toNat+1)*4294967296^(k+1):=by
  have e:=cm (l:=lb n) (i:=k+1) (by omega)
  rw[List.take_of_length_le (by omega),bW] at e
  have:=cO ((lb n).take (k+1))
  rw[List.length_take,Nat.min_eq_left (by omega)] at this
  rw[Nat.mul_comm,Nat.mul_add]
  omega
 generalize ((lb n)[k+1]'(by omega)).toNat=t at*
 refine⟨by omega,FB (j:=k+1) ?_ ?_⟩
 ·exact Nat.le_trans h1 (Nat.le_mul_of_pos_right _ (Nat.pow_pos (by omega)))
 ·have hs:0<2^(32-bl t):=Nat.pow_pos (by omega)
  have a:n*2^(32-bl t)<(t+1)*4294967296^(k+1)*2^(32-bl t):=Nat.mul_lt_mul_of_pos_right hv hs
  have b:(t+1)*4294967296^(k+1)*2^(32-bl t)≤2^bl t*4294967296^(k+1)*2^(32-bl t):=Nat.mul_le_mul_right _ (Nat.mul_le_mul_right _ hb)
  have c:2^bl t*4294967296^(k+1)*2^(32-bl t)=4294967296^(k+1+1):=by
   rw[Nat.mul_right_comm,←Nat.pow_add,show bl t+(32-bl t)=32 by omega,Nat.pow_succ 4294967296 (k+1),Nat.mul_comm]
  omega
theorem Hs {x:UInt64} (h:x.toNat=0):x=0:=UInt64.toNat_inj.1 h
theorem BB {M:List UInt32} {n:Nat} (h:M.length=n+1) (x:UInt32):val (M.set n x)=val (M.take n)+4294967296^n*x.toNat:=by
 have:=ga (l:=M) (i:=n) (by omega) x
 rwa [List.take_of_length_le (by simp;omega)] at this
theorem BC {M:List UInt32} {n:Nat} (h:M.length=n+1):val M=val (M.take n)+4294967296^n*(M[n]'(by omega)).toNat:=by
 rw[←cm (by omega),List.take_of_length_le (by omega)]
theorem BD {M L:List UInt32} {i:Nat} (h:M.drop i=L.drop i) (h1:i<M.length) (h2:i<L.length):M[i]=L[i]:=by
 have e1:=List.getElem?_drop (xs:=M) (i:=i) (j:=0)
 have e2:=List.getElem?_drop (xs:=L) (i:=i) (j:=0)
 rw[h] at e1
 rw[e1,Nat.add_zero,List.getElem?_eq_getElem h1,List.getElem?_eq_getElem h2] at e2
 exact Option.some.inj e2
theorem Js {L v M:List UInt32} {q c b x:UInt64} (hL:L.length=v.length+1) (hM:M.length=L.length) (hc:c.toNat<4294967296) (hb:b.toNat≤1)
 (hMi:M.drop v.length=L.drop v.length) (hinv:val (L.take v.length)+4294967296^v.length*(c.toNat+b.toNat)=val (M.take v.length)+q.toNat*val (v.take v.length))
 (hx:x=(M[v.length]'(by omega)).toUInt64-c-b):
 val L+4294967296^(v.length+1)*(x.toNat/9223372036854775808)=val (M.set v.length x.toUInt32)+q.toNat*val v∧x.toNat/9223372036854775808≤1:=by
 have hu:=de (M[v.length]'(by omega))
 have hxn:x.toNat=(18446744073709551616-b.toNat+(18446744073709551616-c.toNat+(M[v.length]'(by omega)).toNat)%18446744073709551616)%18446744073709551616:=by
  rw[hx,tf,tf,gn]
 obtain⟨hs1,hs2⟩:=LZ hu hc hb hxn
 refine⟨?_,hs2⟩
 rw[BB (by omega),mH,BC hL,←BD hMi (by omega) (by omega),Nat.pow_succ]
 rw[List.take_length (l:=v)] at hinv
 have k2:=congrArg (4294967296^v.length* ·) hs1
 simp only[Nat.mul_add] at k2 hinv⊢
 simp only[Nat.mul_assoc] at k2⊢
 omega
theorem Ht {L v N M:List UInt32} {q:Nat} {c:UInt64} (hL:L.length=v.length+1) (hN:N.length=L.length) (hM:M.length=L.length) (hc:c.toNat≤1) (hMi:M.drop v.length=N.drop v.length)
 (hinv:val (M.take v.length)+4294967296^v.length*c.toNat=val (N.take v.length)+val (v.take v.length)) (ht:val L+4294967296^(v.length+1)=val N+q*val v) (h1:(q-1)*val v≤val L):
 0<q∧val L=(q-1)*val v+val (M.set v.length ((M[v.length]'(by omega))+c.toUInt32))∧val (M.set v.length ((M[v.length]'(by omega))+c.toUInt32))<val v:=by
 have hu:=de (M[v.length]'(by omega))
 have hNl:=cO N
 rw[hN,hL] at hNl
 have hq:0<q:=by
  rcases Nat.eq_zero_or_pos q with h|h
  ·subst h;omega
  ·exact h
 obtain⟨p,rfl⟩:∃p,q=p+1:=⟨q-1,by omega⟩
 rw[Nat.add_sub_cancel] at h1⊢
 rw[Nat.add_mul,Nat.one_mul] at ht
 have hlast:((M[v.length]'(by omega))+c.toUInt32).toNat=((M[v.length]'(by omega)).toNat+c.toNat)%4294967296:=by
  rw[UInt32.toNat_add,mH];omega
 have hF:=BB (show M.length=v.length+1 by omega) ((M[v.length]'(by omega))+c.toUInt32)
 have hFl:=cO (M.set v.length ((M[v.length]'(by omega))+c.toUInt32))
 have hFe:(M.set v.length ((M[v.length]'(by omega))+c.toUInt32)).length=v.length+1:=by simp;omega
 rw[hFe] at hFl
 have hNe:=BC (show N.length=v.length+1 by omega)
 rw[←BD hMi (by omega) (by omega)] at hNe
 rw[List.take_length (l:=v)] at hinv
 have hdm:=Nat.div_add_mod ((M[v.length]'(by omega)).toNat+c.toNat) 4294967296
 have hs:((M[v.length]'(by omega)).toNat+c.toNat)/4294967296≤1:=by omega
 have key:val (M.set v.length ((M[v.length]'(by omega))+c.toUInt32))+4294967296^(v.length+1)*(((M[v.length]'(by omega)).toNat+c.toNat)/4294967296)=val N+val v:=by
  rw[hF,hlast,hNe,Nat.pow_succ]
  have k2:=congrArg (4294967296^v.length* ·) hdm
  simp only[Nat.mul_add] at k2⊢
  simp only[Nat.mul_assoc] at k2⊢
  omega
 generalize val (M.set v.length ((M[v.length]'(by omega))+c.toUInt32))=F at*
 generalize ((M[v.length]'(by omega)).toNat+c.toNat)/4294967296=s at*
 rcases(show s=0∨s=1 by omega) with rfl|rfl
 ·omega
 ·refine⟨by omega,by omega,by omega⟩
theorem FC {A Q V X lo part q part' P:Nat} (hX:X=lo+P*part) (hlo:lo<P) (hA:A=Q*(P*4294967296)*V+X) (hp:part=q*V+part') (hr:part'<V):
 A=(q+4294967296*Q)*P*V+(lo+P*part')∧lo+P*part'<P*V:=by
 constructor
 ·rw[hA,hX,hp,Nat.mul_add P,Nat.add_mul q,Nat.add_mul]
  have e1:4294967296*Q*P*V=Q*(P*4294967296)*V:=by
   rw[Nat.mul_comm 4294967296 Q,Nat.mul_assoc Q,Nat.mul_comm 4294967296 P]
  have e2:q*P*V=P*(q*V):=by rw[Nat.mul_comm q P,Nat.mul_assoc]
  rw[e1,e2];omega
 ·have:P*(part'+1)≤P*V:=Nat.mul_le_mul_left _ hr
  rw[Nat.mul_add] at this
  omega
end Go.Rl
namespace Go.Rl
theorem jJ (l:List UInt32) (i:Nat):val (l.take (i+1))=val (l.take i)+4294967296^i*(l.getD i 0).toNat:=by
 rcases Nat.lt_or_ge i l.length with h|h
 ·rw[cm h];simp[List.getD,List.getElem?_eq_getElem h]
 ·rw[List.take_of_length_le h,List.take_of_length_le (by omega)];simp[List.getD,List.getElem?_eq_none h]
theorem nB (l:List UInt32) {i:Nat} (h:l.length≤i):val (l.take i)=val l:=by rw[List.take_of_length_le h]
def z8 (l:List UInt32) (n:Nat):List UInt32:=l++List.replicate (n-l.length) 0
theorem qj {l:List UInt32} {n:Nat} (h:l.length≤n):(z8 l n).length=n:=by simp[z8];omega
theorem vA (l:List UInt32) (n:Nat):val (z8 l n)=val l:=by simp[z8,fk,tY]
theorem vB {l:List UInt32} {n i:Nat} (h:i<(z8 l n).length):(z8 l n)[i]=l.getD i 0:=by
 unfold z8 at h⊢
 rcases Nat.lt_or_ge i l.length with h1|h1
 ·rw[List.getElem_append_left h1];simp[List.getD,List.getElem?_eq_getElem h1]
 ·rw[List.getElem_append_right h1];simp[List.getD,List.getElem?_eq_none h1]
theorem Hu {l m:List UInt32} {n j:Nat} (hl:l.length≤n) (hm:m.length≤n) (hj:j<n) (hd:(z8 l n).drop (j+1)=(z8 m n).drop (j+1)) (h:(l.getD j 0).toNat<(m.getD j 0).toNat):val l<val m:=by
 rw[←vA l n,←vA m n]
 exact Ev (by rw[qj hl];exact hj) (by rw[qj hm];exact hj) hd (by rw[vB,vB];exact h)
theorem Hv {l m:List UInt32} {n j:Nat} (hl:l.length≤n) (hm:m.length≤n) (hj:j<n) (hd:(z8 l n).drop (j+1)=(z8 m n).drop (j+1)) (h:(l.getD j 0).toNat=(m.getD j 0).toNat):(z8 l n).drop j=(z8 m n).drop j:=by
 have h1:=List.drop_eq_getElem_cons (l:=z8 l n) (i:=j) (by rw[qj hl];exact hj)
 have h2:=List.drop_eq_getElem_cons (l:=z8 m n) (i:=j) (by rw[qj hm];exact hj)
 rw[h1,h2,hd,vB,vB,kB h]
theorem Jt {l m:List UInt32} {n:Nat} (h:z8 l n=z8 m n):val l=val m:=by rw[←vA l n,←vA m n,h]
theorem yE {a b O:List UInt32} {i:Nat} {c:UInt64} (hO:O.length=i) (hc:c.toNat≤1) (hinv:val O+4294967296^i*c.toNat=val (a.take i)+val (b.take i)):
 val (O++[(c+((a.getD i 0).toUInt64+(b.getD i 0).toUInt64)).toUInt32])+4294967296^(i+1)*((c+((a.getD i 0).toUInt64+(b.getD i 0).toUInt64))>>>UInt64.ofNat 32).toNat=val (a.take (i+1))+val (b.take (i+1))∧
  ((c+((a.getD i 0).toUInt64+(b.getD i 0).toUInt64))>>>UInt64.ofNat 32).toNat≤1:=by
 have ha:=de (a.getD i 0)
 have hb:=de (b.getD i 0)
 have hC:(c+((a.getD i 0).toUInt64+(b.getD i 0).toUInt64)).toNat=c.toNat+((a.getD i 0).toNat+(b.getD i 0).toNat):=by rw[qX,qX,gn,gn];omega
 have hhi:((c+((a.getD i 0).toUInt64+(b.getD i 0).toUInt64))>>>UInt64.ofNat 32).toNat=(c.toNat+((a.getD i 0).toNat+(b.getD i 0).toNat))/4294967296:=by rw[uR _ (by omega),hC]
 refine⟨?_,by rw[hhi];omega⟩
 rw[fk,ny,hO,mH,hhi,hC,jJ,jJ,Nat.pow_succ]
 have key:=Nat.div_add_mod (c.toNat+((a.getD i 0).toNat+(b.getD i 0).toNat)) 4294967296
 have k2:=congrArg (4294967296^i* ·) key
 simp only[Nat.mul_add] at k2 hinv⊢
 simp only[Nat.mul_assoc] at k2⊢
 omega
theorem Hw {O:List UInt32} {i:Nat} {c:UInt64} (hO:O.length=i) (hc:c.toNat≤1):val (O++[c.toUInt32])=val O+4294967296^i*c.toNat:=by
 rw[fk,ny,hO,mH,Nat.mod_eq_of_lt (by omega)]
theorem yF {a b O:List UInt32} {i:Nat} {d:UInt64} (hO:O.length=i) (hd:d.toNat≤1) (hinv:val (a.take i)+4294967296^i*d.toNat=val O+val (b.take i)) {x y:UInt64}
 (h:(x=(a.getD i 0).toUInt64+4294967296∧(a.getD i 0).toNat<(b.getD i 0).toNat+d.toNat∧y=1)∨(x=(a.getD i 0).toUInt64∧(b.getD i 0).toNat+d.toNat≤(a.getD i 0).toNat∧y=0)):
 val (a.take (i+1))+4294967296^(i+1)*y.toNat=val (O++[(x-((b.getD i 0).toUInt64+d)).toUInt32])+val (b.take (i+1))∧y.toNat≤1:=by
 have ha:=de (a.getD i 0)
 have hb:=de (b.getD i 0)
 have hy:((b.getD i 0).toUInt64+d).toNat=(b.getD i 0).toNat+d.toNat:=by rw[qX,gn];omega
 have e1:(1:UInt64).toNat=1:=rfl
 have e0:(0:UInt64).toNat=0:=rfl
 have key:(a.getD i 0).toNat+4294967296*y.toNat=(x-((b.getD i 0).toUInt64+d)).toUInt32.toNat+((b.getD i 0).toNat+d.toNat)∧y.toNat≤1:=by
  rcases h with⟨rfl,h,rfl⟩|⟨rfl,h,rfl⟩
  ·have hx:((a.getD i 0).toUInt64+4294967296).toNat=(a.getD i 0).toNat+4294967296:=by
    rw[qX,gn]
    show((a.getD i 0).toNat+4294967296)%18446744073709551616=_
    omega
   rw[mH,tf,hy,hx,e1]
   omega
  ·rw[mH,tf,hy,gn,e0]
   omega
 refine⟨?_,key.2⟩
 rw[fk,ny,hO,jJ,jJ,Nat.pow_succ]
 have k2:=congrArg (4294967296^i* ·) key.1
 simp only[Nat.mul_add] at k2 hinv⊢
 simp only[Nat.mul_assoc] at k2⊢
 omega
theorem FD {a O:List UInt32} {i q s:Nat} {c:UInt64} (hs:s<32) (hi:i<a.length) (hO:O.length=q+i) (hc:c.toNat<2^s) (hinv:val O+4294967296^(q+i)*c.toNat=val (a.take i)*(4294967296^q*2^s)):
 val (O++[(c|||a[i].toUInt64<<<UInt64.ofNat s).toUInt32])+4294967296^(q+(i+1))*((c|||a[i].toUInt64<<<UInt64.ofNat s)>>>UInt64.ofNat 32).toNat=val (a.take (i+1))*(4294967296^q*2^s)∧
  ((c|||a[i].toUInt64<<<UInt64.ofNat s)>>>UInt64.ofNat 32).toNat<2^s:=by
 have ha:=de a[i]
 have hps:2^s≤2^31:=Nat.pow_le_pow_right (by omega) (by omega)
 have hsh:(a[i].toUInt64<<<UInt64.ofNat s).toNat=2^s*a[i].toNat:=by
  rw[Bv _ (by omega),gn,Nat.mod_eq_of_lt,Nat.mul_comm]
  have:a[i].toNat*2^s≤4294967295*2^31:=Nat.mul_le_mul (by omega) hps
  omega
 have hC:(c|||a[i].toUInt64<<<UInt64.ofNat s).toNat=c.toNat+2^s*a[i].toNat:=by rw[Jr,hsh,LJ _ _ _ hc]
 have hhi:((c|||a[i].toUInt64<<<UInt64.ofNat s)>>>UInt64.ofNat 32).toNat=(c.toNat+2^s*a[i].toNat)/4294967296:=by rw[uR _ (by omega),hC]
 refine⟨?_,?_⟩
 ·rw[fk,ny,hO,mH,hhi,hC,cm hi,Nat.add_mul,←hinv,←Nat.add_assoc q i 1,Nat.pow_succ,Nat.pow_add]
  have key:=Nat.div_add_mod (c.toNat+2^s*a[i].toNat) 4294967296
  have k2:=congrArg (4294967296^q*4294967296^i* ·) key
  have e:4294967296^i*a[i].toNat*(4294967296^q*2^s)=4294967296^q*4294967296^i*(2^s*a[i].toNat):=by
   simp only[Nat.mul_comm,Nat.mul_left_comm,Nat.mul_assoc]
  rw[e]
  simp only[Nat.mul_add] at k2⊢
  simp only[Nat.mul_assoc] at k2⊢
  omega
 ·rw[hhi,Nat.div_lt_iff_lt_mul (by omega)]
  have h1:2^s*(a[i].toNat+1)≤2^s*4294967296:=Nat.mul_le_mul_left _ ha
  rw[Nat.mul_add] at h1
  omega
theorem KT {a:List UInt32} {i:Nat} (hi:i/32<a.length):((a[i/32]>>>UInt32.ofNat (i%32))&&&1).toNat=val a/2^i%2:=by
 have hs:i%32<32:=Nat.mod_lt _ (by omega)
 have e1:((a[i/32]>>>UInt32.ofNat (i%32))&&&1).toNat=a[i/32].toNat/2^(i%32)%2:=by
  rw[UInt32.toNat_and,te _ hs]
  show _&&&1=_
  rw[Nat.and_one_is_mod]
 have h1:=fe a (i/32) (by omega)
 have h2:=cO (a.take (i/32))
 rw[List.length_take,Nat.min_eq_left (by omega)] at h2
 have h3:(4294967296:Nat)^(i/32)=2^(32*(i/32)):=by rw[Nat.pow_mul]
 rw[h3] at h1 h2
 have h4:val a/2^(32*(i/32))=val (a.drop (i/32)):=by
  rw[h1,Nat.add_mul_div_left _ _ (Nat.pow_pos (by omega)),Nat.div_eq_of_lt h2,Nat.zero_add]
 have h5:val a/2^i=val (a.drop (i/32))/2^(i%32):=by
  rw[←h4,Nat.div_div_eq_div_mul,←Nat.pow_add,Nat.div_add_mod]
 rw[e1,h5,fx hi]
 have hp:2^(i%32)*2^(32-i%32)=4294967296:=by rw[←Nat.pow_add,show i%32+(32-i%32)=32 by omega]
 obtain⟨k,hk⟩:∃k,32-i%32=k+1:=⟨31-i%32,by omega⟩
 rw[←hp,Nat.mul_assoc,Nat.add_mul_div_left _ _ (Nat.pow_pos (by omega)),hk,Nat.pow_succ,Nat.mul_comm (2^k) 2,Nat.mul_assoc,Nat.add_mul_mod_self_left]
theorem KU {a:List UInt32} {i t:Nat} (hi:i/32<a.length) (hv:val a=2^(i+1)*t):val (a.set (i/32) (a[i/32]|||(1:UInt32)<<<UInt32.ofNat (i%32)))=val a+2^i:=by
 have hs:i%32<32:=Nat.mod_lt _ (by omega)
 have h1:=fe a (i/32) (by omega)
 have h2:=cO (a.take (i/32))
 rw[List.length_take,Nat.min_eq_left (by omega)] at h2
 have h3:(4294967296:Nat)^(i/32)=2^(32*(i/32)):=by rw[Nat.pow_mul]
 have h4:val (a.drop (i/32))=2^(i%32+1)*t:=by
  have e:val a/2^(32*(i/32))=val (a.drop (i/32)):=by
   rw[h3] at h1 h2
   rw[h1,Nat.add_mul_div_left _ _ (Nat.pow_pos (by omega)),Nat.div_eq_of_lt h2,Nat.zero_add]
  rw[←e,hv,show i+1=32*(i/32)+(i%32+1) by omega,Nat.pow_add,Nat.mul_assoc,Nat.mul_div_cancel_left _ (Nat.pow_pos (by omega))]
 have h5:a[i/32].toNat=2^(i%32+1)*(t%2^(31-i%32)):=by
  have e:=fx hi
  rw[h4] at e
  have e2:a[i/32].toNat=2^(i%32+1)*t%4294967296:=by
   rw[e,Nat.add_mul_mod_self_left,Nat.mod_eq_of_lt (de _)]
  have hp:2^(i%32+1)*2^(31-i%32)=4294967296:=by rw[←Nat.pow_add,show i%32+1+(31-i%32)=32 by omega]
  rw[e2,←hp,Nat.mul_mod_mul_left]
 have h6:((1:UInt32)<<<UInt32.ofNat (i%32)).toNat=2^(i%32):=by
  rw[Jq _ hs]
  show 1*2^(i%32)%4294967296=_
  have:2^(i%32)≤2^31:=Nat.pow_le_pow_right (by omega) (by omega)
  rw[Nat.one_mul,Nat.mod_eq_of_lt (by omega)]
 have h7:(a[i/32]|||(1:UInt32)<<<UInt32.ofNat (i%32)).toNat=a[i/32].toNat+2^(i%32):=by
  rw[Hl,h6,h5,Nat.or_comm,LJ _ _ _ (Nat.pow_lt_pow_right (by omega) (by omega)),Nat.add_comm]
 have h8:=ga hi (a[i/32]|||(1:UInt32)<<<UInt32.ofNat (i%32))
 have h9:=fe (a.set (i/32) (a[i/32]|||(1:UInt32)<<<UInt32.ofNat (i%32))) (i/32+1) (by simp;omega)
 rw[h8,List.drop_set_of_lt (by omega),h7] at h9
 have h10:=fe a (i/32+1) (by omega)
 rw[cm hi] at h10
 rw[h9,h10,Nat.mul_add]
 have e:4294967296^(i/32)*2^(i%32)=2^i:=by rw[h3,←Nat.pow_add,Nat.div_add_mod]
 rw[e];omega
theorem CY {N V i:Nat} (hV:0<V):
 N/2^i=2*(N/2^(i+1))+N/2^i%2∧(V≤2*(N/2^(i+1)%V)+N/2^i%2→N/2^i%V=2*(N/2^(i+1)%V)+N/2^i%2-V∧N/2^i/V=2*(N/2^(i+1)/V)+1)∧
  (2*(N/2^(i+1)%V)+N/2^i%2<V→N/2^i%V=2*(N/2^(i+1)%V)+N/2^i%2∧N/2^i/V=2*(N/2^(i+1)/V)):=by
 have e:N/2^(i+1)=N/2^i/2:=by rw[Nat.pow_succ,Nat.div_div_eq_div_mul]
 rw[e]
 generalize N/2^i=M
 have h1:M=2*(M/2)+M%2:=by omega
 have h2:=Nat.div_add_mod (M/2) V
 have h3:=Nat.mod_lt (M/2) hV
 refine⟨h1,fun h=>?_,fun h=>?_⟩
 ·have key:M=V*(2*(M/2/V)+1)+(2*(M/2%V)+M%2-V):=by
   rw[Nat.mul_add,Nat.mul_left_comm];omega
  have hlt:2*(M/2%V)+M%2-V<V:=by omega
  constructor
  ·conv=>lhs;rw[key]
   rw[Nat.mul_add_mod,Nat.mod_eq_of_lt hlt]
  ·conv=>lhs;rw[key]
   rw[Nat.mul_add_div hV,Nat.div_eq_of_lt hlt,Nat.add_zero]
 ·have key:M=V*(2*(M/2/V))+(2*(M/2%V)+M%2):=by
   rw[Nat.mul_left_comm];omega
  constructor
  ·conv=>lhs;rw[key]
   rw[Nat.mul_add_mod,Nat.mod_eq_of_lt h]
  ·conv=>lhs;rw[key]
   rw[Nat.mul_add_div hV,Nat.div_eq_of_lt h,Nat.add_zero]
theorem Ju {n:Nat} (h:0<n):bl n=bl (n/2)+1:=by
 rcases(show n=1∨2≤n by omega) with rfl|h1
 ·rfl
 ·have:=o2 (n:=n) (s:=1) (by omega)
  rw[Nat.pow_one] at this
  omega
end Go.Rl
namespace Go.Rl
open Go.RowKit Go.Proofs
theorem fA:aG Tryz.prog 167:=⟨_,Tryz.func167,by kernel_rfl,rfl⟩
theorem BE:aG Tryz.prog 186:=⟨_,Tryz.func186,by kernel_rfl,rfl⟩
theorem wt:aG Tryz.prog 185:=⟨_,Tryz.func185,by kernel_rfl,rfl⟩
theorem fB:aG Tryz.prog 206:=⟨_,Tryz.func206,by kernel_rfl,rfl⟩
theorem yG:aG Tryz.prog 190:=⟨_,Tryz.func190,by kernel_rfl,rfl⟩
theorem wu:aG Tryz.prog 140:=⟨_,Tryz.func140,by kernel_rfl,rfl⟩
theorem FE:aG Tryz.prog 189:=⟨_,Tryz.func189,by kernel_rfl,rfl⟩
theorem FF:aG Tryz.prog 191:=⟨_,Tryz.func191,by kernel_rfl,rfl⟩
theorem FG:aG Tryz.prog 188:=⟨_,Tryz.func188,by kernel_rfl,rfl⟩
theorem CZ:aG Tryz.prog 187:=⟨_,Tryz.func187,by kernel_rfl,rfl⟩
theorem yH {w:World} {l:List UInt32} {v:Value} (hv:bm l v w) (hl:l.length≤8796093022208):
 Calls Tryz.prog 167 #[v] w (bE fun r w'=>aK w w'∧el w.heap.size (lb (val l)) r w'):=by
 refine enter (vs:=[v]) Tryz.func167 E E E ?_
 refine af (aa (ae E E (ag (ab (af (aa (ac E E (aO E E (bC MO hv) (ae E E (ag (ab (af ?_))))))))))))
 refine aE ?_
 refine cf (α:=Nat) (fun n=>[(0,v),(3,I (n:Int))]) (fun n w'=>w=w'∧n≤l.length∧val (l.take n)=val l) (fun n=>n) (l.length) ⟨rfl,rfl,trivial⟩ ⟨rfl,Nat.le_refl _,by rw[List.take_length]⟩ ?_
 rintro n _ ⟨rfl,hn,hval⟩
 refine af (af (aa (ac E E (al E E E (ca) (ac E E ?_)))))
 refine ce (fun h8=>?_) (fun h8=>?_)
 ·refine ai E (ac E E (ai E (ac E E (ai E (al (r:=I ((n-1:Nat):Int)) E E E (by have e:((n-1:Nat):Int)=(n:Int)-1:=(by omega);rw[e];exact bD (by omega) (by omega)) ?_)))))
  refine ai E ?_
  obtain⟨a12,p12,q12⟩:=db MO hv (i:=(n-1:Nat)) (by omega) .i64
  refine aq E E E (p12 _) (ai E (ak E E (aj Mu E q12) (ai E (al (v:=bH 0) E E E (mp) (ap E E E ?_)))))
  refine ag (ab ?_)
  refine bz E (fun h15=>?_) (fun h15=>?_)
  ·refine aC (ab (aE (aa (ac E E (al (r:=I ((n-1:Nat):Int)) E E E (by have e:((n-1:Nat):Int)=(n:Int)-1:=(by omega);rw[e];exact bD (by omega) (by omega)) ?_)))))
   refine ae E E (ag (aS ?_))
   refine bR (n-1) ⟨rfl,rfl,trivial⟩ ⟨rfl,by omega,by rw[t3 (by omega) hn h15];exact hval⟩ (by omega)
  ·refine bc (aI (aI (be (ab (af (aa ?_))))))
   obtain⟨v18,w18,hr18,x18,o18,ob18⟩:=jo Tryz.underlying44 (w:=w) w.heap.size [] (by simp) (Nat.le_refl _)
   refine aJ (vs:=[]) E E hr18 (ac E E (ac E E ?_))
   obtain⟨v21,p21,b21⟩:=vW MO (hv.ext x18) (hi:=n) hn .i64
   refine cx E E E E E (p21 _) ?_
   obtain⟨v22,w22,hr22,o22,g22⟩:=Ew Tryz.underlying44 Tryz.underlying43 (ty:=44) o18 b21 (by simp;omega) (x18).size
   have x22:=aK.of_grew (x18) g22 o18.ge
   refine ba E E hr22 (ae E E (ag (ab (aw (az E E ?_)))))
   exact⟨_,rfl,x22,by
    have e:lb (val l)=l.take n:=by
     first
     |rw[←hval,mD (by omega) hn h15]
     |(have h0:n=0:=by omega
       subst h0
       rw[←hval];rfl)
    rw[e];simpa using o22⟩
 ·refine an E E E (an E E E (an E E E (an E E E (an E E E (an E E E (aD E E E (ag (ab (cr E (bc (aI (aI ?_))))))))))))
  refine be (ab (af (aa ?_)))
  obtain⟨v18,w18,hr18,x18,o18,ob18⟩:=jo Tryz.underlying44 (w:=w) w.heap.size [] (by simp) (Nat.le_refl _)
  refine aJ (vs:=[]) E E hr18 (ac E E (ac E E ?_))
  obtain⟨v21,p21,b21⟩:=vW MO (hv.ext x18) (hi:=n) hn .i64
  refine cx E E E E E (p21 _) ?_
  obtain⟨v22,w22,hr22,o22,g22⟩:=Ew Tryz.underlying44 Tryz.underlying43 (ty:=44) o18 b21 (by simp;omega) (x18).size
  have x22:=aK.of_grew (x18) g22 o18.ge
  refine ba E E hr22 (ae E E (ag (ab (aw (az E E ?_)))))
  exact⟨_,rfl,x22,by
   have e:lb (val l)=l.take n:=by
    first
    |rw[←hval,mD (by omega) hn h15]
    |(have h0:n=0:=by omega
      subst h0
      rw[←hval];rfl)
   rw[e];simpa using o22⟩
theorem gb {w:World} {l:List UInt32} {v:Value} (hv:bm l v w) (hl:l.length≤8796093022208):
 Calls Tryz.prog 167 #[v] w (bE fun r w'=>aK w w'∧bm (lb (val l)) r w'):=
 (yH hv hl).mono fun _ _ ⟨r,he,h1,h2⟩=>⟨r,he,h1,h2.wds⟩
theorem BF {w:World} {x:UInt64}:
 Calls Tryz.prog 186 #[bF x] w (bE fun r w'=>aK w w'∧bm (lb x.toNat) r w'):=by
 refine enter (vs:=[bF x]) Tryz.func186 E E E ?_
 refine af (aa (ae E E (ag (ab (af (aa (ac E E (a9 E E (cR MA Mu) (ac E E ?_)))))))))
 refine al E E E (dF 32 (by omega)) (a9 E E (cR MA Mu) ?_)
 obtain⟨v8,w8,hr8,x8,o8,ob8⟩:=jo Tryz.underlying43 (w:=w) w.heap.size [x.toUInt32,(x>>>UInt64.ofNat 32).toUInt32] (by simp) (Nat.le_refl _)
 refine aJ (vs:=[(0,bH (x.toUInt32)),(1,bH ((x>>>UInt64.ofNat 32).toUInt32))]) E E hr8 (am fA E E (gb o8.wds (by simp)) ?_)
 rintro v9 w9 ⟨x9,b9⟩
 refine ae E E (ag (ab (aw (az E E ?_))))
 exact⟨_,rfl,(x8.trans x9),by
  have e:val [x.toUInt32,(x>>>UInt64.ofNat 32).toUInt32]=x.toNat:=by
   have h1:=mH x
   have h2:((x>>>UInt64.ofNat 32).toUInt32).toNat=x.toNat/4294967296:=by
    have:=CU x
    rw[mH,yA]
    omega
   simp only[val,h1,h2];omega
  rw[e] at b9;exact b9⟩
theorem fC {w:World} {l:List UInt32} {v:Value} {i:Nat} (hv:bm l v w):
 Calls Tryz.prog 206 #[v,I (i:Int)] w (bE fun r w'=>w=w'∧r=bH (l.getD i 0)):=by
 refine enter (vs:=[v,I (i:Int)]) Tryz.func206 E E E ?_
 refine af (aa (ae E E (ag (ab (af (af (aa (ac E E (ac E E (aO E E (bC Ms hv) (al E E E (aV) ?_)))))))))))
 refine ag (ab ?_)
 refine bz E (fun h8=>?_) (fun h8=>?_)
 ·refine af (aa (ac E E (ac E E ?_)))
  obtain⟨a11,p11,q11⟩:=db Ms hv (i:=i) (by omega) .i64
  refine aq E E E (p11 _) (ak E E (aj Mu E q11) (ae E E (ag (ab (aw (ay (az E E ?_)))))))
  exact⟨_,rfl,rfl,by simp[List.getD,List.getElem?_eq_getElem (show i<l.length by omega)]⟩
 ·refine aC (ab (af (aa (ae E E (ag (ab (aw (az E E ?_))))))))
  exact⟨_,rfl,rfl,by simp[List.getD,List.getElem?_eq_none (show l.length≤i by omega)];rfl⟩
theorem yI {w:World} {l m:List UInt32} {v u:Value} (hv:bm l v w) (hu:bm m u w):
 Calls Tryz.prog 190 #[v,u] w (bE fun r w'=>w=w'∧r=I (tZ (val l) (val m))):=by
 refine enter (vs:=[v,u]) Tryz.func190 E E E ?_
 have hll:=hv.len
 have hml:=hu.len
 obtain⟨n,hn⟩:∃n,n=max l.length m.length:=⟨_,rfl⟩
 have hln:l.length≤n:=by omega
 have hmn:m.length≤n:=by omega
 refine af (aa (ae E E (ag (ab (af (af (aa (ac E E (aO E E (bC Ms hv) (ac E E (aO E E (bC Ms hu) ?_)))))))))))
 refine LR (r:=I ((n:Nat):Int)) (vs:=[I (l.length:Int),I (m.length:Int)]) E E (by rw[hn];exact Jp) ?_
 refine al E E E (bD (by omega) (by omega)) (ae E E (ag (ab (aE ?_))))
 refine cf (α:=Nat) (fun k=>[(0,v),(1,u),(5,I ((k:Int)-1))]) (fun k w'=>w=w'∧k≤n∧(z8 l n).drop k=(z8 m n).drop k) (fun k=>k) (n) ⟨rfl,rfl,rfl,trivial⟩ ⟨rfl,Nat.le_refl _,by rw[List.drop_of_length_le (by rw[qj hln];exact Nat.le_refl _),List.drop_of_length_le (by rw[qj hmn];exact Nat.le_refl _)]⟩ ?_
 rintro k _ ⟨rfl,hk,hd⟩
 refine af (af (aa (ac E E (al E E E (gx) (ag (ab ?_))))))
 refine bz E (fun h13=>?_) (fun h13=>?_)
 ·obtain⟨j,rfl⟩:∃j,k=j+1:=⟨k-1,by omega⟩
  have e:((j+1:Nat):Int)-1=(j:Int):=by omega
  rw[e]
  refine aC (ab (af (aE (af (af (aa (ac E E (ac E E (am fB E E (fC hv) ?_)))))))))
  rintro v18 _ ⟨rfl,rfl⟩
  refine ac E E (ac E E (am fB E E (fC hu) ?_))
  rintro v21 _ ⟨rfl,rfl⟩
  refine al E E E (yp) (ag (ab ?_))
  refine bz E (fun h22=>?_) (fun h22=>?_)
  ·refine af (aa (ae E E (ag (ab (aw (ay (aZ (ay (ay (aZ (ay (az E E ?_))))))))))))
   exact⟨_,rfl,rfl,congrArg I (z6 (Hu hln hmn (by omega) hd (Bx.1 h22))).symm⟩
  ·refine aC (ab (af (aa (ac E E (ac E E (am fB E E (fC hv) ?_))))))
   rintro v25 _ ⟨rfl,rfl⟩
   refine ac E E (ac E E (am fB E E (fC hu) ?_))
   rintro v28 _ ⟨rfl,rfl⟩
   refine al E E E (yq) (ag (ab ?_))
   refine bz E (fun h29=>?_) (fun h29=>?_)
   ·refine af (aa (ae E E (ag (ab (aw (aZ (ay (ay (aZ (ay (az E E ?_)))))))))))
    exact⟨_,rfl,rfl,congrArg I (z7 (Hu hmn hln (by omega) hd.symm (Bx.1 h29))).symm⟩
   ·refine aC (aS (ab (aa (ac E E (al E E E (bD (by omega) (by omega)) (ae E E (ag ?_)))))))
    refine bR j ⟨rfl,rfl,rfl,trivial⟩ ⟨rfl,by omega,Hv hln hmn (by omega) hd (by
     have a:=mt Bx.2 h22
     have b:=mt (Bx (a:=m.getD j 0) (b:=l.getD j 0)).2 h29
     omega)⟩ (by omega)
 ·refine bc (aI (aI (be (ab (af (aa (ae E E (ag (ab (aw (az E E ?_)))))))))))
  exact⟨_,rfl,rfl,by
   obtain rfl:k=0:=by omega
   rw[List.drop_zero,List.drop_zero] at hd
   rw[Jt hd,Ey];rfl⟩
theorem wv {w:World} {l m:List UInt32} {v u:Value} (hv:bm l v w) (hu:bm m u w):
 Calls Tryz.prog 140 #[v,u] w (bE fun r w'=>aK w w'∧r=B (decide (l=m))):=by
 refine enter (vs:=[v,u]) Tryz.func140 E E E ?_
 have hll:=hv.len
 refine af (aa (ae E E (ag (ab (af (af (aa (ac E E (aO E E (bC Ms hv) (ac E E (aO E E (bC Ms hu) ?_)))))))))))
 refine al E E E (cX) (ag (ab ?_))
 refine bz E (fun h10=>?_) (fun h10=>?_)
 ·refine af (aa (ae E E (ag (ab (aw (ay (az E E ?_)))))))
  exact⟨_,rfl,aK.refl _,congrArg B (decide_eq_false fun h=>by subst h;exact h10 rfl).symm⟩
 ·have hlen:l.length=m.length:=by omega
  refine aC (ab (af (af (aa (ae E E (ag (ab (aE ?_))))))))
  refine cf (α:=Nat) (fun i=>[(0,v),(1,u),(5,I (i:Int))]) (fun i w'=>aK w w'∧i≤l.length∧l.take i=m.take i) (fun i=>l.length-i) (0) ⟨rfl,rfl,rfl,trivial⟩ ⟨aK.refl _,by omega,rfl⟩ ?_
  rintro i w4 ⟨e4,hi,ht⟩
  refine af (af (aa (ac E E (ac E E (aO E E (bC Ms (hv.ext e4)) (al E E E (aV) (ag (ab ?_))))))))
  refine bz E (fun h14=>?_) (fun h14=>?_)
  ·refine aC (ab (af (aE (af (bI 8 [0,1,5,20,24] (by kernel_rfl) (by kernel_rfl) ?_)))))
   refine aA E E (aA E E ?_)
   obtain⟨a19,p19,q19⟩:=db Ms (hv.ext e4) (i:=i) (by omega) .i64
   refine aF E E E (fun w _=>p19 w) (aP E E (fun w hw=>aj Mu E (hw.cell_some q19)) (aA E E (aA E E ?_)))
   obtain⟨a23,p23,q23⟩:=db Ms (hu.ext e4) (i:=i) (by omega) .i64
   refine aF E E E (fun w _=>p23 w) (aP E E (fun w hw=>aj Mu E (hw.cell_some q23)) (cq ?_))
   intro wg6 xg6
   rintro _ hq0
   obtain rfl:=Eq.symm hq0
   rintro _ hq1
   obtain rfl:=Eq.symm hq1
   rintro _ rfl
   rintro _ rfl
   rintro _ rfl
   refine al E E E (mr) (ag (ab ?_))
   refine bz E (fun h25=>?_) (fun h25=>?_)
   ·have hne:l≠m:=fun h=>by subst h;exact h25 rfl
    refine af (aa (ae E E (ag (ab (aw (aZ (ay (ay (aZ (ay (az E E ?_)))))))))))
    exact⟨_,rfl,(e4.trans xg6),congrArg B (decide_eq_false hne).symm⟩
   ·refine aC (aS (ab (aa (ac E E (al (r:=I ((i+1:Nat):Int)) E E E (by have e:((i+1:Nat):Int)=(i:Int)+1:=(by omega);rw[e];exact aN (by omega) (by omega)) ?_)))))
    refine ae E E (ag ?_)
    refine bR (i+1) ⟨rfl,rfl,rfl,trivial⟩ ⟨(e4.trans xg6),by omega,by rw[List.take_succ_eq_append_getElem (show i<l.length by omega),List.take_succ_eq_append_getElem (show i<m.length by omega),ht,show l[i]=m[i] from Classical.byContradiction fun h=>h25 h]⟩ (by omega)
  ·refine bc (aI (aI (be (ab (af (aa (ae E E (ag (ab (aw (az E E ?_)))))))))))
   exact⟨_,rfl,e4,congrArg B (decide_eq_true (by
    rw[List.take_of_length_le (by omega),List.take_of_length_le (by omega)] at ht
    exact ht)).symm⟩
theorem ww {w:World} {l:List UInt32} {v:Value} (hv:bm l v w) (hl:l.length≤8796093022208):
 Calls Tryz.prog 185 #[v] w (bE fun r w'=>aK w w'∧((18446744073709551616≤val l∧r=.tuple #[bF 0,B false])∨∃x:UInt64,x.toNat=val l∧r=.tuple #[bF x,B true])):=by
 refine enter (vs:=[v]) Tryz.func185 E E E ?_
 refine af (aa (ae E E (ae E E (ag (ab (af (aa (ac E E (am fA E E (gb hv hl) ?_)))))))))
 rintro v5 w5 ⟨x5,b5⟩
 refine ae E E (ag (ab (af (af ?_))))
 obtain⟨t,ht⟩:∃t,t=lb (val l):=⟨_,rfl⟩
 have hval:val t=val l:=by rw[ht,bW]
 have h64:t.length≤2∨18446744073709551616≤val l:=by
  rcases Nat.lt_or_ge (val l) 18446744073709551616 with h|h
  ·exact .inl (by rw[ht];exact iX (n:=val l) (k:=2) h)
  ·exact .inr h
 rw[←ht] at b5
 refine aa (ac E E (aO E E (bC Ms b5) (ag (ab (aE (af (aa (al E E E (bi) (ae E E ?_)))))))))
 refine ag (ab ?_)
 refine bz E (fun h8=>?_) (fun h8=>?_)
 ·refine af (aa (ae E E (ae E E (ag (ab (aw (aZ (ay (bf E E E ?_)))))))))
  exact⟨_,rfl,x5,.inr ⟨0,by
   have:t=[]:=List.eq_nil_of_length_eq_zero (by omega)
   rw[←hval,this];rfl,rfl⟩⟩
 ·refine af (aa (al E E E (bi) (ae E E (ag (ab ?_)))))
  refine bz E (fun h10=>?_) (fun h10=>?_)
  ·refine af (aa (ac E E ?_))
   obtain⟨a13,p13,q13⟩:=db Ms b5 (i:=0) (by omega) .i64
   refine aq E E E (p13 _) (ak E E (aj Mu E q13) (a9 E E (cc Mu MA) ?_))
   refine ae E E (ae E E (ag (ab (aw (aZ (ay (bf E E E ?_)))))))
   exact⟨_,rfl,x5,.inr ⟨_,by
    obtain⟨x,rfl⟩:=List.length_eq_one_iff.1 (show t.length=1 by omega)
    rw[gn,←hval];simp[val],rfl⟩⟩
  ·refine af (aa (al E E E (bi) (ae E E (ag (ab ?_)))))
   refine bz E (fun h16=>?_) (fun h16=>?_)
   ·refine af (bI 11 [2] (by kernel_rfl) (by kernel_rfl) ?_)
    refine aA E E ?_
    obtain⟨a19,p19,q19⟩:=db Ms b5 (i:=0) (by omega) .i64
    refine aF E E E (fun w _=>p19 w) (aP E E (fun w hw=>aj Mu E (hw.cell_some q19)) (dK E E (fun w _=>cc Mu MA) ?_))
    refine aA E E ?_
    obtain⟨a23,p23,q23⟩:=db Ms b5 (i:=1) (by omega) .i64
    refine aF E E E (fun w _=>p23 w) (aP E E (fun w hw=>aj Mu E (hw.cell_some q23)) (dK E E (fun w _=>cc Mu MA) ?_))
    refine bb (v:=bF 32) E E E (fun w _=>gr 32 (by omega)) (bb E E E (fun w _=>jQ) (gE E E (cq ?_)))
    intro wg8 xg8
    rintro _ rfl
    refine ae E E (ag (ab (aw (aZ (ay (bf E E E ?_))))))
    exact⟨_,rfl,(x5.trans xg8),.inr ⟨_,by
     have e1:=fx (l:=t) (i:=0) (by omega)
     have e2:=fx (l:=t) (i:=1) (by omega)
     simp only[Nat.zero_add,Nat.reduceAdd,List.drop_zero] at e1 e2
     rw[List.drop_of_length_le (show t.length≤2 by omega)] at e2
     rw[Ks (gn _) (de _),←hval,e1,e2]
     simp[val],rfl⟩⟩
   ·refine aC (aS (ab (af (aa (ae E E (ae E E (ag (ab (aw (bf E E E ?_))))))))))
    exact⟨_,rfl,x5,.inl ⟨by omega,rfl⟩⟩
theorem FH {w:World} {l m:List UInt32} {v u:Value} (hv:bm l v w) (hu:bm m u w) (hl:l.length≤1099511627776) (hm:m.length≤1099511627776):
 Calls Tryz.prog 189 #[v,u] w (bE fun r w'=>aK w w'∧bm (lb (val l+val m)) r w'):=by
 refine enter (vs:=[v,u]) Tryz.func189 E E E ?_
 refine af (aa (ae E E (ag (ab (af (aa (ae E E (ag (ab (af (aa (ae E E (ag (ab (af (af (aa (ae E E ?_))))))))))))))))))
 refine ag (ab (aE ?_))
 refine jf (fun(i:Nat) (vo:Value) (O:List UInt32) (c:UInt64)=>[(0,v),(1,u),(5,vo),(6,bF c),(7,I (i:Int))]) (fun(i:Nat) (vo:Value) (O:List UInt32) (c:UInt64) w'=>aK w w'∧el w.heap.size O vo w'∧O.length=i∧i≤max l.length m.length∧c.toNat≤1∧val O+4294967296^i*c.toNat=val (l.take i)+val (m.take i)) (fun(i:Nat) (vo:Value) (O:List UInt32) (c:UInt64)=>max l.length m.length-i) (0) (.slice none 0 0) ([]) (0) ⟨rfl,rfl,rfl,rfl,rfl,trivial⟩ ⟨aK.refl _,el.nil _ _,rfl,by simp,by simp,by simp[val]⟩ ?_
 rintro i vo O c w4 ⟨e4,oO,hO,hi,hc,hinv⟩
 refine af (af (aa (ac E E (ac E E (aO E E (bC Ms (hv.ext e4)) (al E E E (aV) (ac E E ?_)))))))
 refine ce (fun h12=>?_) (fun h12=>?_)
 ·refine an E E E (an E E E (an E E E (an E E E (ap E E E (ag (ab (bg E (aC (ab (af (aE (af ?_))))))))))))
  have hlt:i<max l.length m.length:=by
   first
   |(have:=h12;omega)
   |(have:=h17;omega)
  have st:=yE (a:=l) (b:=m) hO hc hinv
  refine aa (ac E E (ac E E (ac E E (am fB E E (fC (hv.ext e4)) ?_))))
  rintro v23 _ ⟨rfl,rfl⟩
  refine a9 E E (cc Mu MA) (ac E E (ac E E (am fB E E (fC (hu.ext e4)) ?_)))
  rintro v27 _ ⟨rfl,rfl⟩
  refine a9 E E (cc Mu MA) (al E E E (dT) (al E E E (dT) (ae E E ?_)))
  refine ag (ab (af (aa (ac E E (ac E E (a9 E E (cR MA Mu) ?_))))))
  obtain⟨v34,w34,hr34,x34,o34,ob34⟩:=jo Tryz.underlying43 (w:=w4) w4.heap.size [((((c)+(((((l.getD i 0)).toUInt64)+(((m.getD i 0)).toUInt64))))).toUInt32)] (by simp) (Nat.le_refl _)
  refine aJ (vs:=[(0,bH (((((c)+(((((l.getD i 0)).toUInt64)+(((m.getD i 0)).toUInt64))))).toUInt32)))]) E E hr34 ?_
  obtain⟨v35,w35,hr35,o35,g35⟩:=lj Tryz.underlying43 (ty:=43) (oO.ext x34) o34.wds (by simp;omega) ((e4.trans x34)).size
  have x35:=aK.of_grew ((e4.trans x34)) g35 (oO.ext x34).ge
  refine ba E E hr35 (ae E E (ag (ab (aa (ac E E (al E E E (dF 32 (by omega)) (ae E E (ag (aS (ab (aa ?_)))))))))))
  refine ac E E (al (r:=I ((i+1:Nat):Int)) E E E (by have e:((i+1:Nat):Int)=(i:Int)+1:=(by omega);rw[e];exact aN (by omega) (by omega)) ?_)
  refine ae E E (ag ?_)
  refine fj (i+1) (_) (_) (_) ⟨rfl,rfl,rfl,rfl,rfl,trivial⟩ ⟨x35,o35,by simp[hO],by omega,st.2,st.1⟩ (by omega)
 ·refine ai E (ac E E (ai E (ac E E (ai E (aO E E (bC Ms (hu.ext e4)) (ai E (al E E E (aV) ?_)))))))
  refine aD E E E (ag (ab ?_))
  refine bz E (fun h17=>?_) (fun h17=>?_)
  ·refine aC (ab (af (aE (af ?_))))
   have hlt:i<max l.length m.length:=by
    first
    |(have:=h12;omega)
    |(have:=h17;omega)
   have st:=yE (a:=l) (b:=m) hO hc hinv
   refine aa (ac E E (ac E E (ac E E (am fB E E (fC (hv.ext e4)) ?_))))
   rintro v23 _ ⟨rfl,rfl⟩
   refine a9 E E (cc Mu MA) (ac E E (ac E E (am fB E E (fC (hu.ext e4)) ?_)))
   rintro v27 _ ⟨rfl,rfl⟩
   refine a9 E E (cc Mu MA) (al E E E (dT) (al E E E (dT) (ae E E ?_)))
   refine ag (ab (af (aa (ac E E (ac E E (a9 E E (cR MA Mu) ?_))))))
   obtain⟨v34,w34,hr34,x34,o34,ob34⟩:=jo Tryz.underlying43 (w:=w4) w4.heap.size [((((c)+(((((l.getD i 0)).toUInt64)+(((m.getD i 0)).toUInt64))))).toUInt32)] (by simp) (Nat.le_refl _)
   refine aJ (vs:=[(0,bH (((((c)+(((((l.getD i 0)).toUInt64)+(((m.getD i 0)).toUInt64))))).toUInt32)))]) E E hr34 ?_
   obtain⟨v35,w35,hr35,o35,g35⟩:=lj Tryz.underlying43 (ty:=43) (oO.ext x34) o34.wds (by simp;omega) ((e4.trans x34)).size
   have x35:=aK.of_grew ((e4.trans x34)) g35 (oO.ext x34).ge
   refine ba E E hr35 (ae E E (ag (ab (aa (ac E E (al E E E (dF 32 (by omega)) (ae E E (ag (aS (ab (aa ?_)))))))))))
   refine ac E E (al (r:=I ((i+1:Nat):Int)) E E E (by have e:((i+1:Nat):Int)=(i:Int)+1:=(by omega);rw[e];exact aN (by omega) (by omega)) ?_)
   refine ae E E (ag ?_)
   refine fj (i+1) (_) (_) (_) ⟨rfl,rfl,rfl,rfl,rfl,trivial⟩ ⟨x35,o35,by simp[hO],by omega,st.2,st.1⟩ (by omega)
  ·refine bc (aI (aI (be (ab (af ?_)))))
   have hge:max l.length m.length≤i:=by
    first
    |(have:=h17;omega)
   rw[nB _ (by omega),nB _ (by omega)] at hinv
   refine aa (ac E E (ac E E (a9 E E (cR MA Mu) ?_)))
   obtain⟨v41,w41,hr41,x41,o41,ob41⟩:=jo Tryz.underlying43 (w:=w4) w4.heap.size [((c).toUInt32)] (by simp) (Nat.le_refl _)
   refine aJ (vs:=[(0,bH (((c).toUInt32)))]) E E hr41 ?_
   obtain⟨v42,w42,hr42,o42,g42⟩:=lj Tryz.underlying43 (ty:=43) (oO.ext x41) o41.wds (by simp;omega) ((e4.trans x41)).size
   have x42:=aK.of_grew ((e4.trans x41)) g42 (oO.ext x41).ge
   refine ba E E hr42 (am fA E E (gb o42.wds (by simp;omega)) ?_)
   rintro v43 w43 ⟨x43,b43⟩
   refine ae E E (ag (ab (aw (az E E ?_))))
   exact⟨_,rfl,(x42.trans x43),by rw[←hinv,←Hw hO hc];exact b43⟩
theorem FI {w:World} {l m:List UInt32} {v u:Value} (hv:bm l v w) (hu:bm m u w) (hl:l.length≤1099511627776) (hle:val m≤val l):
 Calls Tryz.prog 191 #[v,u] w (bE fun r w'=>aK w w'∧∃d,r=.tuple #[d,I 0]∧el w.heap.size (lb (val l-val m)) d w'):=by
 refine enter (vs:=[v,u]) Tryz.func191 E E E ?_
 refine af (aa (ae E E (ae E E (ag (ab (af (af (aa (ac E E (ac E E (am yG E E (yI hv hu) ?_)))))))))))
 rintro v13 _ ⟨rfl,rfl⟩
 refine al E E E (cY (fun h=>by have:=pa.1 h;omega) aV) (ag (ab (cr E (aC (ab (af (aa (ae E E (ag (ab (af ?_)))))))))))
 refine aa (ae E E (ag (ab (af (af (aa (ae E E (ag (ab (aE ?_))))))))))
 refine jf (fun(i:Nat) (vo:Value) (O:List UInt32) (d:UInt64)=>[(0,v),(1,u),(6,vo),(7,bF d),(8,I (i:Int))]) (fun(i:Nat) (vo:Value) (O:List UInt32) (d:UInt64) w'=>aK w w'∧el w.heap.size O vo w'∧O.length=i∧i≤l.length∧d.toNat≤1∧val (l.take i)+4294967296^i*d.toNat=val O+val (m.take i)) (fun(i:Nat) (vo:Value) (O:List UInt32) (d:UInt64)=>l.length-i) (0) (.slice none 0 0) ([]) (0) ⟨rfl,rfl,rfl,rfl,rfl,trivial⟩ ⟨aK.refl _,el.nil _ _,rfl,by simp,by simp,by simp[val]⟩ ?_
 rintro i vo O d w6 ⟨e6,oO,hO,hi,hd,hinv⟩
 refine af (af (aa (ac E E (ac E E (aO E E (bC Ms (hv.ext e6)) (al E E E (aV) (ag (ab ?_))))))))
 refine bz E (fun h18=>?_) (fun h18=>?_)
 ·refine aC (ab (af (aE (af ?_))))
  have hlt:i<l.length:=by omega
  have hxa:=gn (l.getD i 0)
  have hyb:((m.getD i 0).toUInt64+d).toNat=(m.getD i 0).toNat+d.toNat:=by
   have:=de (m.getD i 0)
   rw[qX,gn];omega
  refine aa (ac E E (ac E E (am fB E E (fC (hv.ext e6)) ?_)))
  rintro v23 _ ⟨rfl,rfl⟩
  refine a9 E E (cc Mu MA) (ac E E (ac E E (am fB E E (fC (hu.ext e6)) ?_)))
  rintro v27 _ ⟨rfl,rfl⟩
  refine a9 E E (cc Mu MA) (ac E E (al E E E (dT) (ae E E (ae E E ?_))))
  refine ag (ab (af (aa (ae E E (ag (ab (af (af (aa (ac E E (ac E E (al E E E (gU) (ag (ab ?_))))))))))))))
  refine bz E (fun h33=>?_) (fun h33=>?_)
  ·have hlt2:(l.getD i 0).toNat<(m.getD i 0).toNat+d.toNat:=by
    have:=UInt64.lt_iff_toNat_lt.1 h33
    rwa [hxa,hyb] at this
   have st:=yF (a:=l) (b:=m) hO hd hinv (.inl ⟨rfl,hlt2,rfl⟩)
   refine af (aa (ac E E (al (v:=bF 4294967296) E E E (dT) (ae E E (ag (ab (aa (ae E E (ag (ab (aa (ac E E ?_))))))))))))
   refine ac E E (ac E E (al E E E (dU) (a9 E E (cR MA Mu) ?_)))
   obtain⟨v41,w41,hr41,x41,o41,ob41⟩:=jo Tryz.underlying43 (w:=w6) w6.heap.size [((((((((l.getD i 0)).toUInt64)+(4294967296)))-(((((m.getD i 0)).toUInt64)+(d))))).toUInt32)] (by simp) (Nat.le_refl _)
   refine aJ (vs:=[(0,bH (((((((((l.getD i 0)).toUInt64)+(4294967296)))-(((((m.getD i 0)).toUInt64)+(d))))).toUInt32)))]) E E hr41 ?_
   obtain⟨v42,w42,hr42,o42,g42⟩:=lj Tryz.underlying43 (ty:=43) (oO.ext x41) o41.wds (by simp;omega) ((e6.trans x41)).size
   have x42:=aK.of_grew ((e6.trans x41)) g42 (oO.ext x41).ge
   refine ba E E hr42 (ae E E (ag (aS (ab (aa (ac E E (al (r:=I ((i+1:Nat):Int)) E E E (by have e:((i+1:Nat):Int)=(i:Int)+1:=(by omega);rw[e];exact aN (by omega) (by omega)) ?_)))))))
   refine ae E E (ag ?_)
   refine fj (i+1) (_) (_) (_) ⟨rfl,rfl,rfl,rfl,rfl,trivial⟩ ⟨x42,o42,by simp[hO],by omega,st.2,st.1⟩ (by omega)
  ·have hge2:(m.getD i 0).toNat+d.toNat≤(l.getD i 0).toNat:=by
    have:=mt UInt64.lt_iff_toNat_lt.2 h33
    rw[hxa,hyb] at this
    omega
   have st:=yF (a:=l) (b:=m) hO hd hinv (.inr ⟨rfl,hge2,rfl⟩)
   refine aC (ab (aa (ac E E (ac E E (ac E E (al E E E (dU) (a9 E E (cR MA Mu) ?_)))))))
   obtain⟨v41,w41,hr41,x41,o41,ob41⟩:=jo Tryz.underlying43 (w:=w6) w6.heap.size [((((((l.getD i 0)).toUInt64)-(((((m.getD i 0)).toUInt64)+(d))))).toUInt32)] (by simp) (Nat.le_refl _)
   refine aJ (vs:=[(0,bH (((((((l.getD i 0)).toUInt64)-(((((m.getD i 0)).toUInt64)+(d))))).toUInt32)))]) E E hr41 ?_
   obtain⟨v42,w42,hr42,o42,g42⟩:=lj Tryz.underlying43 (ty:=43) (oO.ext x41) o41.wds (by simp;omega) ((e6.trans x41)).size
   have x42:=aK.of_grew ((e6.trans x41)) g42 (oO.ext x41).ge
   refine ba E E hr42 (ae E E (ag (aS (ab (aa (ac E E (al (r:=I ((i+1:Nat):Int)) E E E (by have e:((i+1:Nat):Int)=(i:Int)+1:=(by omega);rw[e];exact aN (by omega) (by omega)) ?_)))))))
   refine ae E E (ag ?_)
   refine fj (i+1) (_) (_) (_) ⟨rfl,rfl,rfl,rfl,rfl,trivial⟩ ⟨x42,o42,by simp[hO],by omega,st.2,st.1⟩ (by omega)
 ·refine bc (aI (aI (be (ab (af ?_)))))
  have hil:i=l.length:=by omega
  have hOl:=cO O
  rw[hO,hil] at hOl
  have hml:val (m.take i)=val m∧d.toNat=0:=by
   have h1:=fe m (min i m.length) (by omega)
   have h2:m.take (min i m.length)=m.take i:=by
    rcases Nat.le_total i m.length with h|h
    ·rw[Nat.min_eq_left h]
    ·rw[Nat.min_eq_right h,List.take_of_length_le (Nat.le_refl _),List.take_of_length_le h]
   rw[h2] at h1
   have hll:=cO l
   rw[hil,List.take_length] at hinv
   have hz:val (m.drop (min i m.length))=0:=by
    rcases Nat.le_total i m.length with h|h
    ·rw[Nat.min_eq_left h] at h1⊢
     rcases Nat.eq_zero_or_pos (val (m.drop i)) with h0|h0
     ·exact h0
     ·have:4294967296^i*1≤4294967296^i*val (m.drop i):=Nat.mul_le_mul_left _ h0
      rw[hil] at this h1
      omega
    ·rw[Nat.min_eq_right h,List.drop_of_length_le (Nat.le_refl _)];rfl
   rw[hz,Nat.mul_zero,Nat.add_zero] at h1
   refine⟨h1.symm,?_⟩
   rcases(show d.toNat=0∨d.toNat=1 by omega) with h|h
   ·exact h
   ·rw[hil] at h1
    rw[h,Nat.mul_one,←h1] at hinv
    omega
  have hres:val l-val m=val O:=by
   rw[hml.1,hml.2,hil,List.take_length] at hinv
   omega
  refine aa (ac E E (am fA E E (yH oO.wds (by omega)) ?_))
  rintro v44 w44 ⟨x44,b44⟩
  refine ae E E (ae E E (ag (ab (aw (bf E E E ?_)))))
  exact⟨_,rfl,(e6.trans x44),_,rfl,by rw[hres];exact b44.low e6.size⟩
theorem FJ {w:World} {l:List UInt32} {v:Value} {k:Nat} (hv:bm l v w) (hl:l.length≤1099511627776) (hk:k≤1099511627776):
 Calls Tryz.prog 188 #[v,I (k:Int)] w (bE fun r w'=>aK w w'∧bm (lb (val l*2^k)) r w'):=by
 refine enter (vs:=[v,I (k:Int)]) Tryz.func188 E E E ?_
 refine af (aa (ae E E (ag (ab (af (aa (ac E E (al (r:=I ((k/32:Nat):Int)) E E E (by have e:((k/32:Nat):Int)=(k:Int)/32:=(by omega);rw[e];exact pW (by omega) (by omega) (by omega)) ?_))))))))
 obtain⟨v10,w10,hr10,x10,o10,ob10⟩:=yy MO (w:=w) w.heap.size (n:=k/32) (by omega) (Nat.le_refl _)
 refine iT E E E hr10 (ae E E (ag (ab (af (aa (ae E E (ag (ab (af (af (aa (ae E E (ag (ab (aE ?_)))))))))))))))
 refine jf (fun(i:Nat) (vo:Value) (O:List UInt32) (c:UInt64)=>[(0,v),(1,I (k:Int)),(5,vo),(6,bF c),(7,I (i:Int))]) (fun(i:Nat) (vo:Value) (O:List UInt32) (c:UInt64) w'=>aK w w'∧el w.heap.size O vo w'∧O.length=k/32+i∧i≤l.length∧c.toNat<2^(k%32)∧val O+4294967296^(k/32+i)*c.toNat=val (l.take i)*(4294967296^(k/32)*2^(k%32))) (fun(i:Nat) (vo:Value) (O:List UInt32) (c:UInt64)=>l.length-i) (0) (v10) (List.replicate (k/32) 0) (0) ⟨rfl,rfl,rfl,rfl,rfl,trivial⟩ ⟨x10,o10,by simp,by simp,by simp;exact Nat.pow_pos (by omega),by simp[val,tY]⟩ ?_
 rintro i vo O c w4 ⟨e4,oO,hO,hi,hc,hinv⟩
 refine af (af (aa (ac E E (ac E E (aO E E (bC Ms (hv.ext e4)) (al E E E (aV) (ag (ab ?_))))))))
 refine bz E (fun h14=>?_) (fun h14=>?_)
 ·refine aC (ab (af (aE (af ?_))))
  have hlt:i<l.length:=by omega
  have st:=FD (Nat.mod_lt k (show 0<32 by omega)) hlt hO hc hinv
  refine aa (ac E E (ac E E (ac E E ?_)))
  obtain⟨a20,p20,q20⟩:=db Ms (hv.ext e4) (i:=i) (by omega) .i64
  refine aq E E E (p20 _) (ak E E (aj Mu E q20) (a9 E E (cc Mu MA) ?_))
  refine ac E E (al (r:=I ((k%32:Nat):Int)) E E E (by have e:((k%32:Nat):Int)=(k:Int)%32:=(by omega);rw[e];exact pY (by omega) (by omega)) ?_)
  refine al E E E (gr ((k%32:Nat)) (by omega)) (al E E E (jQ) (ae E E (ag (ab (af (aa (ac E E (ac E E ?_))))))))
  refine a9 E E (cR MA Mu) ?_
  obtain⟨v30,w30,hr30,x30,o30,ob30⟩:=jo Tryz.underlying43 (w:=w4) w4.heap.size [((((c)|||(((((l[i])).toUInt64)<<<UInt64.ofNat ((k%32:Nat)))))).toUInt32)] (by simp) (Nat.le_refl _)
  refine aJ (vs:=[(0,bH (((((c)|||(((((l[i])).toUInt64)<<<UInt64.ofNat ((k%32:Nat)))))).toUInt32)))]) E E hr30 ?_
  obtain⟨v31,w31,hr31,o31,g31⟩:=lj Tryz.underlying43 (ty:=43) (oO.ext x30) o30.wds (by simp;omega) ((e4.trans x30)).size
  have x31:=aK.of_grew ((e4.trans x30)) g31 (oO.ext x30).ge
  refine ba E E hr31 (ae E E (ag (ab (aa (ac E E (al E E E (dF 32 (by omega)) (ae E E (ag (aS (ab (aa ?_)))))))))))
  refine ac E E (al (r:=I ((i+1:Nat):Int)) E E E (by have e:((i+1:Nat):Int)=(i:Int)+1:=(by omega);rw[e];exact aN (by omega) (by omega)) ?_)
  refine ae E E (ag ?_)
  refine fj (i+1) (_) (_) (_) ⟨rfl,rfl,rfl,rfl,rfl,trivial⟩ ⟨x31,o31,by simp[hO];omega,by omega,st.2,st.1⟩ (by omega)
 ·refine bc (aI (aI (be (ab (af ?_)))))
  rw[nB _ (by omega)] at hinv
  have e32:4294967296^(k/32)*2^(k%32)=2^k:=by
   have h3:(4294967296:Nat)^(k/32)=2^(32*(k/32)):=by rw[Nat.pow_mul]
   rw[h3,←Nat.pow_add,Nat.div_add_mod]
  have hc1:c.toNat<4294967296:=Nat.lt_of_lt_of_le hc (Nat.pow_le_pow_right (show 0<2 by omega) (show k%32≤32 by omega))
  have hend:val (O++[c.toUInt32])=val l*2^k:=by
   rw[fk,ny,hO,mH,Nat.mod_eq_of_lt hc1,hinv,e32]
  refine aa (ac E E (ac E E (a9 E E (cR MA Mu) ?_)))
  obtain⟨v37,w37,hr37,x37,o37,ob37⟩:=jo Tryz.underlying43 (w:=w4) w4.heap.size [((c).toUInt32)] (by simp) (Nat.le_refl _)
  refine aJ (vs:=[(0,bH (((c).toUInt32)))]) E E hr37 ?_
  obtain⟨v38,w38,hr38,o38,g38⟩:=lj Tryz.underlying43 (ty:=43) (oO.ext x37) o37.wds (by simp;omega) ((e4.trans x37)).size
  have x38:=aK.of_grew ((e4.trans x37)) g38 (oO.ext x37).ge
  refine ba E E hr38 (am fA E E (gb o38.wds (by simp;omega)) ?_)
  rintro v39 w39 ⟨x39,b39⟩
  refine ae E E (ag (ab (aw (az E E ?_))))
  exact⟨_,rfl,(x38.trans x39),by rw[←hend];exact b39⟩
theorem C0 {w:World} {l:List UInt32} {v:Value} (hv:bm l v w) (hl:l.length≤1099511627776):
 Calls Tryz.prog 187 #[v] w (bE fun r w'=>aK w w'∧r=I ((bl (val l):Nat):Int)):=by
 refine enter (vs:=[v]) Tryz.func187 E E E ?_
 have hll:=iX (cO l)
 refine af (aa (ae E E (ag (ab (af (aa (ac E E (am fA E E (gb hv (by omega)) ?_))))))))
 rintro v6 w6 ⟨x6,b6⟩
 refine ae E E (ag (ab (af (af (aa (ac E E (aO (r:=I ((lb (val l)).length:Int)) E E (bC Ms b6) ?_)))))))
 refine al E E E (bi) (ag (ab ?_))
 refine bz E (fun h9=>?_) (fun h9=>?_)
 ·refine af (aa (ae E E (ag (ab (aw (ay (az E E ?_)))))))
  exact⟨_,rfl,x6,by
   have:val l=0:=iD.1 (by omega)
   rw[this];rfl⟩
 ·refine aC (ab (af (aa (ac E E (aO (r:=I ((lb (val l)).length:Int)) E E (bC Ms b6) (al (r:=I (((lb (val l)).length-1:Nat):Int)) E E E (by have e:(((lb (val l)).length-1:Nat):Int)=((lb (val l)).length:Int)-1:=(by omega);rw[e];exact bD (by omega) (by omega)) ?_))))))
  refine al (r:=I ((32*((lb (val l)).length-1:Nat):Nat):Int)) E E E (by have e:((32*((lb (val l)).length-1:Nat):Nat):Int)=32*(((lb (val l)).length-1:Nat):Int):=(by omega);rw[e];exact fI (by omega) (by omega)) ?_
  refine ae E E (ag (ab (af (af (aa (ac E E (ac E E (aO (r:=I ((lb (val l)).length:Int)) E E (bC Ms b6) ?_))))))))
  refine al (r:=I (((lb (val l)).length-1:Nat):Int)) E E E (by have e:(((lb (val l)).length-1:Nat):Int)=((lb (val l)).length:Int)-1:=(by omega);rw[e];exact bD (by omega) (by omega)) ?_
  obtain⟨a18,p18,q18⟩:=db Ms b6 (i:=((lb (val l)).length-1:Nat)) (by omega) .i64
  refine aq E E E (p18 _) (ak E E (aj Mu E q18) (ae E E (ag (ab (aE ?_)))))
  refine fw (fun(k:Nat) (x:UInt32)=>[(3,I (k:Int)),(4,bH x)]) (fun(k:Nat) (x:UInt32) w'=>w6=w'∧k+bl x.toNat=bl (val l)) (fun(k:Nat) (x:UInt32)=>x.toNat) (32*((lb (val l)).length-1)) ((lb (val l))[(lb (val l)).length-1]'(by omega)) ⟨rfl,rfl,trivial⟩ ⟨rfl,(Kt (by omega)).symm⟩ ?_
  rintro k x _ ⟨rfl,hinv⟩
  refine af (af (aa (ac E E (al (v:=bH 0) E E E (yq) (ag (ab ?_))))))
  refine bz E (fun h21=>?_) (fun h21=>?_)
  ·have hx:0<x.toNat:=Bx.1 h21
   have hb:=Ju hx
   have hs:(x>>>UInt32.ofNat 1).toNat=x.toNat/2:=te x (s:=1) (by omega)
   have hbl:=yC (n:=val l) (k:=32*l.length) (by have:=cO l;rwa [show(4294967296:Nat)^l.length=2^(32*l.length) by rw[Nat.pow_mul]] at this)
   refine aC (ab (af (aE (aa (ac E E (al (r:=I ((k+1:Nat):Int)) E E E (by have e:((k+1:Nat):Int)=(k:Int)+1:=(by omega);rw[e];exact aN (by omega) (by omega)) ?_))))))
   refine ae E E (ag (aS (ab (aa (ac E E (al E E E (da 1 (by omega)) (ae E E (ag ?_))))))))
   refine dG (k+1) (_) ⟨rfl,rfl,trivial⟩ ⟨rfl,by rw[hs];omega⟩ (by omega)
  ·refine bc (aI (aI (be (ab (af (aa (ac E E (ae E E (ag (ab (aw (az E E ?_))))))))))))
   exact⟨_,rfl,x6,by
    have hx:x.toNat=0:=by
     have:=mt (Bx (a:=0) (b:=x)).2 h21
     have e:(0:UInt32).toNat=0:=rfl
     omega
    rw[hx,Ex,Nat.add_zero] at hinv
    rw[hinv]⟩
end Go.Rl
namespace Go.Rl
open Go.RowKit Go.Proofs
theorem FK:aG Tryz.prog 203:=⟨_,Tryz.func203,by kernel_rfl,rfl⟩
theorem FM:aG Tryz.prog 202:=⟨_,Tryz.func202,by kernel_rfl,rfl⟩
theorem top2 {m:List UInt32} {k:Nat} (h:m.length=k+2):val m=((m[k+1]'(by omega)).toNat*4294967296+(m[k]'(by omega)).toNat)*4294967296^k+val (m.take k):=by
 rw[fe m k (by omega),fx (show k<m.length by omega),fx (show k+1<m.length by omega),List.drop_of_length_le (show m.length≤k+1+1 by omega),Nat.mul_comm (4294967296^k),Nat.add_comm]
 congr 2
 simp only[val]
 omega
theorem top3 {m:List UInt32} {k:Nat} (h:m.length=k+3):val m=(((m[k+2]'(by omega)).toNat*4294967296+(m[k+1]'(by omega)).toNat)*4294967296+(m[k]'(by omega)).toNat)*4294967296^k+val (m.take k):=by
 rw[fe m k (by omega),fx (show k<m.length by omega),fx (show k+1<m.length by omega),fx (show k+1+1<m.length by omega),List.drop_of_length_le (show m.length≤k+1+1+1 by omega),Nat.mul_comm (4294967296^k),Nat.add_comm]
 congr 2
 simp only[val,Nat.add_assoc,Nat.reduceAdd]
 omega
theorem wB {a b:UInt64}:a≥b↔b.toNat≤a.toNat:=UInt64.le_iff_toNat_le
theorem C1 {a b:UInt64}:a>b↔b.toNat<a.toNat:=UInt64.lt_iff_toNat_lt
theorem FN {w:World} {L m:List UInt32} {u v:Value} {k:Nat} (hu:bm L u w) (hv:bm m v w) (hm:m.length=k+2) (hL:L.length=k+3) (hk:k≤1099511627776) (h1:0<(m[k+1]'(by omega)).toNat) (hUV:val L<4294967296*val m):
 Calls Tryz.prog 203 #[u,v] w (bE fun r w'=>aK w w'∧∃q:UInt64,r=bF q∧q.toNat<4294967296∧(q.toNat-1)*val m≤val L∧val L<(q.toNat+1)*val m):=by
 refine enter (vs:=[u,v]) Tryz.func203 E E E ?_
 have tV:=top2 hm
 have tU:=top3 hL
 have hPk:=LY k
 have hVl:=cO (m.take k)
 have hUl:=cO (L.take k)
 rw[List.length_take,Nat.min_eq_left (by omega)] at hVl hUl
 have b0:=de (L[k]'(by omega))
 have b1:=de (L[k+1]'(by omega))
 have b2:=de (L[k+2]'(by omega))
 have c1:=de (m[k+1]'(by omega))
 have c0:=de (m[k]'(by omega))
 have hV0:0<val m:=by
  rw[tV]
  have:=Nat.mul_le_mul_right (4294967296^k) (show 1≤(m[k+1]'(by omega)).toNat*4294967296+(m[k]'(by omega)).toNat by omega)
  omega
 have hu0:(L[k+2]'(by omega)).toNat≤(m[k+1]'(by omega)).toNat:=by
  rcases Nat.lt_or_ge (m[k+1]'(by omega)).toNat (L[k+2]'(by omega)).toNat with h|h
  ·have e1:((m[k+1]'(by omega)).toNat*4294967296+(m[k]'(by omega)).toNat+1)*4294967296^k*4294967296≤(((L[k+2]'(by omega)).toNat*4294967296+(L[k+1]'(by omega)).toNat)*4294967296+(L[k]'(by omega)).toNat)*4294967296^k:=by
    rw[Nat.mul_assoc,Nat.mul_comm (4294967296^k),←Nat.mul_assoc]
    exact Nat.mul_le_mul_right _ (by omega)
   rw[Nat.add_mul _ 1] at e1
   omega
  ·exact h
 have hd0:(m[k+1]'(by omega)).toUInt64≠0:=fun h=>by
  have:=congrArg UInt64.toNat h
  rw[gn] at this
  simp at this
  omega
 have n01:=vZ (L[k+2]'(by omega)).toUInt64 (L[k+1]'(by omega)) (by rw[gn];exact b2)
 rw[gn] at n01
 refine af (aa (ae E E (ag (ab (af (aa (ac E E (aO (r:=I ((k+2:Nat):Int)) E E ((by rw[←hm];exact bC Ms hv)) ?_))))))))
 refine ae E E (ag (ab (af (bI 13 [0,1,5,23] (by kernel_rfl) (by kernel_rfl) ?_))))
 refine aA E E (aA E E ?_)
 obtain⟨a13,p13,q13⟩:=db Ms hu (i:=(k+2:Nat)) (by omega) .i64
 refine aF E E E (fun w _=>p13 w) (aP E E (fun w hw=>aj Mu E (hw.cell_some q13)) (dK E E (fun w _=>cc Mu MA) ?_))
 refine bb (v:=bF 32) E E E (fun w _=>gr 32 (by omega)) (aA E E (aA E E (bb (r:=I ((k+1:Nat):Int)) E E E (fun w _=>by have e:((k+1:Nat):Int)=((k+2:Nat):Int)-1:=(by omega);rw[e];exact bD (by omega) (by omega)) ?_)))
 obtain⟨a20,p20,q20⟩:=db Ms hu (i:=(k+1:Nat)) (by omega) .i64
 refine aF E E E (fun w _=>p20 w) (aP E E (fun w hw=>aj Mu E (hw.cell_some q20)) (dK E E (fun w _=>cc Mu MA) ?_))
 refine bb E E E (fun w _=>jQ) (cq ?_)
 intro wg2 xg2
 rintro _ hq0
 obtain rfl:=Eq.symm hq0
 rintro _ hq1
 obtain rfl:=Eq.symm hq1
 rintro _ rfl
 rintro _ rfl
 refine ae E E (ag (ab (af (bI 17 [0,1,5,7,39] (by kernel_rfl) (by kernel_rfl) ?_))))
 refine aA E E (aA E E (aA E E (bb (r:=I ((k+1:Nat):Int)) E E E (fun w _=>by have e:((k+1:Nat):Int)=((k+2:Nat):Int)-1:=(by omega);rw[e];exact bD (by omega) (by omega)) ?_)))
 obtain⟨a28,p28,q28⟩:=db Ms (hv.ext xg2) (i:=(k+1:Nat)) (by omega) .i64
 refine aF E E E (fun w _=>p28 w) (aP E E (fun w hw=>aj Mu E (hw.cell_some q28)) (dK E E (fun w _=>cc Mu MA) ?_))
 refine bb E E E (fun w _=>iV hd0) (aA E E (aA E E (aA E E (bb (r:=I ((k+1:Nat):Int)) E E E (fun w _=>by have e:((k+1:Nat):Int)=((k+2:Nat):Int)-1:=(by omega);rw[e];exact bD (by omega) (by omega)) ?_))))
 obtain⟨a36,p36,q36⟩:=db Ms (hv.ext xg2) (i:=(k+1:Nat)) (by omega) .i64
 refine aF E E E (fun w _=>p36 w) (aP E E (fun w hw=>aj Mu E (hw.cell_some q36)) (dK E E (fun w _=>cc Mu MA) ?_))
 refine bb E E E (fun w _=>jt hd0) (gE E E (cq ?_))
 intro wg3 xg3
 rintro _ hq0
 obtain rfl:=Eq.symm hq0
 rintro _ hq1
 obtain rfl:=Eq.symm hq1
 rintro _ rfl
 rintro _ rfl
 rintro _ rfl
 refine ae E E (ag (ab (af (aE ?_))))
 refine fw (fun(q:UInt64) (r:UInt64)=>[(0,u),(1,v),(5,I ((k+2:Nat):Int)),(7,bF q),(8,bF r)]) (fun(q:UInt64) (r:UInt64) w'=>aK w w'∧q.toNat*(m[k+1]'(by omega)).toNat+r.toNat=(L[k+2]'(by omega)).toNat*4294967296+(L[k+1]'(by omega)).toNat∧r.toNat<4294967296∧∀Q,Q*val m≤val L→Q≤q.toNat) (fun(q:UInt64) (r:UInt64)=>q.toNat) (_) (_) ⟨rfl,rfl,rfl,rfl,rfl,trivial⟩ ⟨(xg2.trans xg3),by rw[UInt64.toNat_div,UInt64.toNat_mod,n01,gn,Nat.mul_comm];exact Nat.div_add_mod _ _,by rw[UInt64.toNat_mod,n01,gn];have:=Nat.mod_lt ((L[k+2]'(by omega)).toNat*4294967296+(L[k+1]'(by omega)).toNat) h1;omega,fun Q hQ=>by
  rw[UInt64.toNat_div,n01,gn]
  refine KS (V:=val m) (U:=val L) (P:=4294967296^k*4294967296) ?_ ?_ h1 hQ
  ·rw[tV,Nat.mul_comm (4294967296^k),←Nat.mul_assoc]
   have:=Nat.mul_le_mul_right (4294967296^k) (Nat.le_add_right ((m[k+1]'(by omega)).toNat*4294967296) (m[k]'(by omega)).toNat)
   omega
  ·rw[tU,Nat.mul_comm (4294967296^k),←Nat.mul_assoc]
   have:=Nat.mul_le_mul_right (4294967296^k) (show((L[k+2]'(by omega)).toNat*4294967296+(L[k+1]'(by omega)).toNat)*4294967296+(L[k]'(by omega)).toNat+1≤((L[k+2]'(by omega)).toNat*4294967296+(L[k+1]'(by omega)).toNat+1)*4294967296 by omega)
   rw[Nat.add_mul _ 1] at this
   omega⟩ ?_
 rintro q r w4 ⟨e4,hqr,hr,hup⟩
 refine af (af ?_)
 by_cases h41:q≥4294967296
 ·refine bI 21 [0,1,5,7,8,42,60] (by kernel_rfl) (by kernel_rfl) ?_
  refine aA E E (bb (v:=bF 4294967296) E E E (fun w _=>ci h41 kP) (aA E E (gC E E E (gC E E E (gC E E E (gC E E E ?_))))))
  refine gC E E E (gC E E E (gC E E E (gC E E E (gC E E E (gC E E E (gC E E E (gC E E E (gC E E E (gC E E E ?_)))))))))
  refine gC E E E (gC E E E (gC E E E (gC E E E (cq ?_))))
  intro wg4 xg4
  rintro _ hq0
  obtain rfl:=Eq.symm hq0
  rintro _ hq1
  obtain rfl:=Eq.symm hq1
  rintro _ rfl
  rintro _ rfl
  rintro _ rfl
  rintro _ rfl
  rintro _ rfl
  refine ap E E E (ag (ab (bg E (aC (ab (aE (af (aa ?_))))))))
  have hlo:∀Q,Q*val m≤val L→Q+1≤q.toNat:=by
   intro Q hQ
   first
   |(have h41':4294967296≤q.toNat:=wB.1 h41
     have h2:Q*val m<4294967296*val m:=by omega
     have:=Nat.lt_of_mul_lt_mul_right h2
     omega)
   |(have h41':q.toNat<4294967296:=Nat.lt_of_not_le fun h=>h41 (wB.2 h)
     have h61':=C1.1 h61
     have hp:q.toNat*(m[k]'(by omega)).toNat≤4294967295*4294967295:=Nat.mul_le_mul (by omega) (by omega)
     rw[vZ r _ hr,yB,gn,Nat.mod_eq_of_lt (by omega)] at h61'
     have h2:=BA tV tU hUl hqr h61'
     have h3:Q*val m<q.toNat*val m:=by omega
     exact Nat.lt_of_mul_lt_mul_right h3)
  have hq0:=hlo 0 (by simp)
  have hq1:(q-1).toNat=q.toNat-1:=by
   have:=CU q
   rw[tf]
   show(18446744073709551616-1+q.toNat)%18446744073709551616=_
   omega
  have hr1:(r+(m[k+1]'(by omega)).toUInt64).toNat=r.toNat+(m[k+1]'(by omega)).toNat:=by rw[qX,gn];omega
  have hqr1:(q-1).toNat*(m[k+1]'(by omega)).toNat+(r+(m[k+1]'(by omega)).toUInt64).toNat=(L[k+2]'(by omega)).toNat*4294967296+(L[k+1]'(by omega)).toNat:=by
   rw[hq1,hr1,←hqr]
   obtain⟨p,hp⟩:∃p,q.toNat=p+1:=⟨q.toNat-1,by omega⟩
   rw[hp,Nat.add_sub_cancel,Nat.add_mul];omega
  have hup1:∀Q,Q*val m≤val L→Q≤(q-1).toNat:=fun Q hQ=>by
   have:=hlo Q hQ
   omega
  refine ac E E (al (v:=bF 1) E E E (dU) (ae E E (ag (ab (af (aa (ac E E (ac E E (ac E E (al (r:=I ((k+1:Nat):Int)) E E E (by have e:((k+1:Nat):Int)=((k+2:Nat):Int)-1:=(by omega);rw[e];exact bD (by omega) (by omega)) ?_))))))))))
  obtain⟨a68,p68,q68⟩:=db Ms (hv.ext (e4.trans xg4)) (i:=(k+1:Nat)) (by omega) .i64
  refine aq E E E (p68 _) (ak E E (aj Mu E q68) (a9 E E (cc Mu MA) ?_))
  refine al E E E (dT) (ae E E (ag (ab (af (aa (ac E E (al (v:=bF 4294967296) E E E (kP) (ag (ab ?_)))))))))
  refine bz E (fun h73=>?_) (fun h73=>?_)
  ·have h73':4294967296≤(r+(m[k+1]'(by omega)).toUInt64).toNat:=wB.1 h73
   have hB:=Ho hu0 b1 hqr1 h73'
   refine bc (yn E (aI (be (ab (af (aa (ac E E (ae E E (ag (ab (aw (az E E ?_))))))))))))
   first
   |exact⟨_,rfl,(e4.trans xg4),_,rfl,hB,qi tV tU hVl h1 c0 hB hqr1 (.inl h73'),Nat.lt_of_not_le fun h=>absurd (hup1 _ h) (by omega)⟩
   |(have h41':q.toNat<4294967296:=Nat.lt_of_not_le fun h=>h41 (wB.2 h)
     have h61':(q*(m[k]'(by omega)).toUInt64).toNat≤(r<<<UInt64.ofNat 32|||(L[k]'(by omega)).toUInt64).toNat:=Nat.le_of_not_lt fun h=>h61 (C1.2 h)
     have hp:q.toNat*(m[k]'(by omega)).toNat≤4294967295*4294967295:=Nat.mul_le_mul (by omega) (by omega)
     rw[vZ r _ hr,yB,gn,Nat.mod_eq_of_lt (by omega)] at h61'
     exact⟨_,rfl,(e4.trans xg4),_,rfl,h41',qi tV tU hVl h1 c0 h41' hqr (.inr h61'),Nat.lt_of_not_le fun h=>absurd (hup _ h) (by omega)⟩)
  ·have h73':(r+(m[k+1]'(by omega)).toUInt64).toNat<4294967296:=Nat.lt_of_not_le fun h=>h73 (wB.2 h)
   refine aC (aS ?_)
   refine dG (q-1) (r+(m[k+1]'(by omega)).toUInt64) ⟨rfl,rfl,rfl,rfl,rfl,trivial⟩ ⟨(e4.trans xg4),hqr1,h73',hup1⟩ (by show(q-1).toNat<q.toNat;omega)
 ·refine bI 21 [0,1,5,7,8,42,60] (by kernel_rfl) (by kernel_rfl) ?_
  refine aA E E (bb (v:=bF 4294967296) E E E (fun w _=>cY h41 kP) (aA E E (bo E E (aA E E (bo E E (aA E E ?_))))))
  refine bo E E (aA E E (bo E E (bb (r:=I ((k:Nat):Int)) E E E (fun w _=>by have e:((k:Nat):Int)=((k+2:Nat):Int)-2:=(by omega);rw[e];exact bD (by omega) (by omega)) ?_)))
  refine bo E E ?_
  obtain⟨a47,p47,q47⟩:=db Ms (hv.ext e4) (i:=(k:Nat)) (by omega) .i64
  refine aF E E E (fun w _=>p47 w) (bo E E (aP E E (fun w hw=>aj Mu E (hw.cell_some q47)) (bo E E ?_)))
  refine dK E E (fun w _=>cc Mu MA) (bo E E (bb E E E (fun w _=>gT) (bo E E ?_)))
  refine aA E E (bo E E (bb (v:=bF 32) E E E (fun w _=>gr 32 (by omega)) (bo E E (aA E E (bo E E (aA E E (bo E E ?_)))))))
  refine bb (r:=I ((k:Nat):Int)) E E E (fun w _=>by have e:((k:Nat):Int)=((k+2:Nat):Int)-2:=(by omega);rw[e];exact bD (by omega) (by omega)) ?_
  refine bo E E ?_
  obtain⟨a56,p56,q56⟩:=db Ms (hu.ext e4) (i:=(k:Nat)) (by omega) .i64
  refine aF E E E (fun w _=>p56 w) (bo E E (aP E E (fun w hw=>aj Mu E (hw.cell_some q56)) (bo E E ?_)))
  refine dK E E (fun w _=>cc Mu MA) (bo E E (bb E E E (fun w _=>jQ) (bo E E ?_)))
  refine bb E E E (fun w _=>cQ) (cq ?_)
  intro wg4 xg4
  rintro _ hq0
  obtain rfl:=Eq.symm hq0
  rintro _ hq1
  obtain rfl:=Eq.symm hq1
  rintro _ rfl
  rintro _ rfl
  rintro _ rfl
  rintro _ rfl
  rintro _ rfl
  refine aD E E E (ag (ab ?_))
  refine bz E (fun h61=>?_) (fun h61=>?_)
  ·refine aC (ab (aE (af (aa ?_))))
   have hlo:∀Q,Q*val m≤val L→Q+1≤q.toNat:=by
    intro Q hQ
    first
    |(have h41':4294967296≤q.toNat:=wB.1 h41
      have h2:Q*val m<4294967296*val m:=by omega
      have:=Nat.lt_of_mul_lt_mul_right h2
      omega)
    |(have h41':q.toNat<4294967296:=Nat.lt_of_not_le fun h=>h41 (wB.2 h)
      have h61':=C1.1 h61
      have hp:q.toNat*(m[k]'(by omega)).toNat≤4294967295*4294967295:=Nat.mul_le_mul (by omega) (by omega)
      rw[vZ r _ hr,yB,gn,Nat.mod_eq_of_lt (by omega)] at h61'
      have h2:=BA tV tU hUl hqr h61'
      have h3:Q*val m<q.toNat*val m:=by omega
      exact Nat.lt_of_mul_lt_mul_right h3)
   have hq0:=hlo 0 (by simp)
   have hq1:(q-1).toNat=q.toNat-1:=by
    have:=CU q
    rw[tf]
    show(18446744073709551616-1+q.toNat)%18446744073709551616=_
    omega
   have hr1:(r+(m[k+1]'(by omega)).toUInt64).toNat=r.toNat+(m[k+1]'(by omega)).toNat:=by rw[qX,gn];omega
   have hqr1:(q-1).toNat*(m[k+1]'(by omega)).toNat+(r+(m[k+1]'(by omega)).toUInt64).toNat=(L[k+2]'(by omega)).toNat*4294967296+(L[k+1]'(by omega)).toNat:=by
    rw[hq1,hr1,←hqr]
    obtain⟨p,hp⟩:∃p,q.toNat=p+1:=⟨q.toNat-1,by omega⟩
    rw[hp,Nat.add_sub_cancel,Nat.add_mul];omega
   have hup1:∀Q,Q*val m≤val L→Q≤(q-1).toNat:=fun Q hQ=>by
    have:=hlo Q hQ
    omega
   refine ac E E (al (v:=bF 1) E E E (dU) (ae E E (ag (ab (af (aa (ac E E (ac E E (ac E E (al (r:=I ((k+1:Nat):Int)) E E E (by have e:((k+1:Nat):Int)=((k+2:Nat):Int)-1:=(by omega);rw[e];exact bD (by omega) (by omega)) ?_))))))))))
   obtain⟨a68,p68,q68⟩:=db Ms (hv.ext (e4.trans xg4)) (i:=(k+1:Nat)) (by omega) .i64
   refine aq E E E (p68 _) (ak E E (aj Mu E q68) (a9 E E (cc Mu MA) ?_))
   refine al E E E (dT) (ae E E (ag (ab (af (aa (ac E E (al (v:=bF 4294967296) E E E (kP) (ag (ab ?_)))))))))
   refine bz E (fun h73=>?_) (fun h73=>?_)
   ·have h73':4294967296≤(r+(m[k+1]'(by omega)).toUInt64).toNat:=wB.1 h73
    have hB:=Ho hu0 b1 hqr1 h73'
    refine bc (yn E (aI (be (ab (af (aa (ac E E (ae E E (ag (ab (aw (az E E ?_))))))))))))
    first
    |exact⟨_,rfl,(e4.trans xg4),_,rfl,hB,qi tV tU hVl h1 c0 hB hqr1 (.inl h73'),Nat.lt_of_not_le fun h=>absurd (hup1 _ h) (by omega)⟩
    |(have h41':q.toNat<4294967296:=Nat.lt_of_not_le fun h=>h41 (wB.2 h)
      have h61':(q*(m[k]'(by omega)).toUInt64).toNat≤(r<<<UInt64.ofNat 32|||(L[k]'(by omega)).toUInt64).toNat:=Nat.le_of_not_lt fun h=>h61 (C1.2 h)
      have hp:q.toNat*(m[k]'(by omega)).toNat≤4294967295*4294967295:=Nat.mul_le_mul (by omega) (by omega)
      rw[vZ r _ hr,yB,gn,Nat.mod_eq_of_lt (by omega)] at h61'
      exact⟨_,rfl,(e4.trans xg4),_,rfl,h41',qi tV tU hVl h1 c0 h41' hqr (.inr h61'),Nat.lt_of_not_le fun h=>absurd (hup _ h) (by omega)⟩)
   ·have h73':(r+(m[k+1]'(by omega)).toUInt64).toNat<4294967296:=Nat.lt_of_not_le fun h=>h73 (wB.2 h)
    refine aC (aS ?_)
    refine dG (q-1) (r+(m[k+1]'(by omega)).toUInt64) ⟨rfl,rfl,rfl,rfl,rfl,trivial⟩ ⟨(e4.trans xg4),hqr1,h73',hup1⟩ (by show(q-1).toNat<q.toNat;omega)
  ·refine bc (aI (aI (be (ab (af (aa (ac E E (ae E E (ag (ab (aw (az E E ?_))))))))))))
   first
   |exact⟨_,rfl,(e4.trans xg4),_,rfl,hB,qi tV tU hVl h1 c0 hB hqr1 (.inl h73'),Nat.lt_of_not_le fun h=>absurd (hup1 _ h) (by omega)⟩
   |(have h41':q.toNat<4294967296:=Nat.lt_of_not_le fun h=>h41 (wB.2 h)
     have h61':(q*(m[k]'(by omega)).toUInt64).toNat≤(r<<<UInt64.ofNat 32|||(L[k]'(by omega)).toUInt64).toNat:=Nat.le_of_not_lt fun h=>h61 (C1.2 h)
     have hp:q.toNat*(m[k]'(by omega)).toNat≤4294967295*4294967295:=Nat.mul_le_mul (by omega) (by omega)
     rw[vZ r _ hr,yB,gn,Nat.mod_eq_of_lt (by omega)] at h61'
     exact⟨_,rfl,(e4.trans xg4),_,rfl,h41',qi tV tU hVl h1 c0 h41' hqr (.inr h61'),Nat.lt_of_not_le fun h=>absurd (hup _ h) (by omega)⟩)
end Go.Rl
namespace Go.Rl
open Go.RowKit Go.Proofs
theorem FO {w:World} {g:Nat} {pre post:List Value} {L m:List UInt32} {u v:Value} {q:UInt64} (hu:PW g pre L post u w) (hv:bm m v w) (ha:v.ownBlock=none∨v.ownBlock≠some g) (hL:L.length=m.length+1) (hm:m.length≤1099511627776)
 (hq:q.toNat<4294967296) (h1:(q.toNat-1)*val m≤val L) (h2:val L<(q.toNat+1)*val m):
 Calls Tryz.prog 202 #[u,v,bF q] w (bE fun r w'=>∃x F,r=bH x∧w.grownBy w' (some g)∧PW g pre F post u w'∧F.length=L.length∧val L=x.toNat*val m+val F∧val F<val m):=by
 refine enter (vs:=[u,v,bF q]) Tryz.func202 E E E ?_
 refine af (aa (ae E E (ag (ab (af (aa (ae E E (ae E E (ag (ab (af (af (aa (ac E E (aO E E (bC Ms hv) ?_)))))))))))))))
 refine ac E E (ag (ab (aE ?_)))
 refine jf (fun(i:Nat) (M:List UInt32) (c:UInt64) (b:UInt64)=>[(0,u),(1,v),(2,bF q),(7,bF c),(8,bF b),(15,v),(16,I (m.length:Int)),(17,I (i:Int))]) (fun(i:Nat) (M:List UInt32) (c:UInt64) (b:UInt64) w'=>w.grownBy w' (some g)∧PW g pre M post u w'∧M.length=L.length∧i≤m.length∧M.drop i=L.drop i∧c.toNat<4294967296∧b.toNat≤1∧val (L.take i)+4294967296^i*(c.toNat+b.toNat)=val (M.take i)+q.toNat*val (m.take i)) (fun(i:Nat) (M:List UInt32) (c:UInt64) (b:UInt64)=>m.length-i) (0) (L) (0) (0) ⟨rfl,rfl,rfl,rfl,rfl,rfl,rfl,rfl,trivial⟩ ⟨dM (aK.refl _),hu,rfl,by simp,rfl,by simp,by simp,by simp[val]⟩ ?_
 rintro i M c b w3 ⟨q3,pM,hM,hi,hMi,hc,hb,hinv⟩
 refine af ?_
 have v3:=hv.away ha q3
 refine aa (al E E E (aV) (ag (ab (af ?_))))
 refine bz E (fun h18=>?_) (fun h18=>?_)
 ·refine aC (ab (af (aE (af (aa (ac E E ?_))))))
  obtain⟨a20,p20,q20⟩:=db Ms v3 (i:=i) (by omega) .i64
  refine aq E E E (p20 _) (ak E E (aj Mu E q20) (ae E E (ae E E (ag (ab (af (aa (ac E E ?_))))))))
  refine ac E E (ac E E (a9 E E (cc Mu MA) (al E E E (gT) (al E E E (dT) ?_))))
  refine ae E E (ag (ab (af (aa (ac E E (ac E E ?_))))))
  obtain⟨a30,p30,q30⟩:=db Ms pM.wds (i:=i) (by omega) .i64
  refine aq E E E (p30 _) (ak E E (aj Mu E q30) (a9 E E (cc Mu MA) ?_))
  refine ac E E (a9 E E (cR MA Mu) (a9 E E (cc Mu MA) ?_))
  refine al E E E (dU) (ac E E (al E E E (dU) (ae E E (ag (ab (af (aa (ac E E (ac E E (ac E E ?_))))))))))
  refine a9 E E (cR MA Mu) ?_
  obtain⟨w43,p43,s43,pN,q43,c43⟩:=pM.setP Ms (i:=i) (by omega) ((((((((M[i])).toUInt64)-(((((c)+(((q)*(((m[i])).toUInt64))))).toUInt32).toUInt64)))-(b)))).toUInt32
  refine aq E E E (p43 _) (au E E (s43) (ag (ab (af (aa (ac E E (al E E E (dF 63 (by omega)) (ae E E (ag ?_)))))))))
  refine ab (aa (ac E E (al E E E (dF 32 (by omega)) (ae E E (ag (aS (ab (aa (al (r:=I ((i+1:Nat):Int)) E E E (by have e:((i+1:Nat):Int)=(i:Int)+1:=(by omega);rw[e];exact aN (by omega) (by omega)) ?_)))))))))
  refine ac E E (ag ?_)
  have st:=Hp (L:=L) (v:=m) (M:=M) (i:=i) (q:=q) (c:=c) (b:=b) (by omega) (by omega) hM hq hc hb hMi hinv rfl
  refine fj (i+1) (_) (_) (_) ⟨rfl,rfl,rfl,rfl,rfl,rfl,rfl,rfl,trivial⟩ ⟨q3.trans q43,pN,by simpa using hM,by omega,st.1,st.2.1,st.2.2.1,st.2.2.2⟩ (by omega)
 ·refine bc (aI (aI (be (ab (af ?_)))))
  obtain rfl:i=m.length:=by omega
  refine aa (ac E E (ac E E (aO E E (bC Ms v3) ?_)))
  obtain⟨a52,p52,q52⟩:=db Ms pM.wds (i:=m.length) (by omega) .i64
  refine aq E E E (p52 _) (ak E E (aj Mu E q52) (a9 E E (cc Mu MA) ?_))
  refine ac E E (al E E E (dU) (ac E E (al E E E (dU) (ae E E (ag (ab (af (aa (ac E E (ac E E ?_))))))))))
  refine aO E E (bC Ms v3) (ac E E (a9 E E (cR MA Mu) ?_))
  obtain⟨w64,p64,s64,pN,q64,c64⟩:=pM.setP Ms (i:=m.length) (by omega) ((((((((M[m.length])).toUInt64)-(c)))-(b)))).toUInt32
  refine aq E E E (p64 _) (au E E (s64) ?_)
  have v64:=v3.away ha q64
  have tp:=Js (q:=q) hL hM hc hb hMi hinv rfl
  have h63:=uR ((((((((M[m.length])).toUInt64)-(c)))-(b)))) (s:=63) (by omega)
  simp only[Nat.reducePow] at h63
  have hNl:(M.set m.length ((((((((M[m.length])).toUInt64)-(c)))-(b)))).toUInt32).length=L.length:=by simpa using hM
  have hFl:=cO (M.set m.length ((((((((M[m.length])).toUInt64)-(c)))-(b)))).toUInt32)
  generalize M.set m.length ((((((((M[m.length])).toUInt64)-(c)))-(b)))).toUInt32=N at pN tp hNl hFl
  generalize hX:(((((((M[m.length])).toUInt64)-(c)))-(b)))=X at tp h63
  refine ag (ab (af (af (aa (ac E E (al E E E (dF 63 (by omega)) (al (v:=bF 0) E E E (gV) (ag (ab ?_)))))))))
  refine bz E (fun h67=>?_) (fun h67=>?_)
  ·rw[h67] at h63
   rw[←h63] at tp
   refine af (aa (ac E E (a9 E E (cR MA Mu) (ae E E (ag (ab (aw (ay (az E E ?_)))))))))
   exact⟨_,rfl,q.toUInt32,N,rfl,q3.trans q64,pN,hNl,by
    have e:q.toUInt32.toNat=q.toNat:=by rw[mH];omega
    have:=tp.1
    rw[e]
    simp at this
    omega,by
    have:=tp.1
    rw[Nat.add_mul,Nat.one_mul] at h2
    simp at this
    omega⟩
  ·have hs:X.toNat/9223372036854775808=1:=by
    rcases Nat.eq_zero_or_pos (X.toNat/9223372036854775808) with h|h
    ·exact absurd (Hs (h63.trans h)) h67
    ·have:=tp.2
     omega
   rw[hs,Nat.mul_one] at tp
   refine aC (ab (af (aa (ae E E (ag (ab (af (af (aa (ac E E (aO E E (bC Ms v64) (ac E E ?_))))))))))))
   refine ag (ab (aE ?_))
   refine kA (fun(i:Nat) (K:List UInt32) (d:UInt64)=>[(0,u),(1,v),(2,bF q),(7,bF d),(70,v),(71,I (m.length:Int)),(72,I (i:Int))]) (fun(i:Nat) (K:List UInt32) (d:UInt64) w'=>w.grownBy w' (some g)∧PW g pre K post u w'∧K.length=L.length∧i≤m.length∧K.drop i=N.drop i∧d.toNat≤1∧val (K.take i)+4294967296^i*d.toNat=val (N.take i)+val (m.take i)) (fun(i:Nat) (K:List UInt32) (d:UInt64)=>m.length-i) (0) (N) (0) ⟨rfl,rfl,rfl,rfl,rfl,rfl,rfl,trivial⟩ ⟨q3.trans q64,pN,hNl,by simp,rfl,by simp,by simp[val]⟩ ?_
   rintro i K d w17 ⟨q17,pK,hK,hi,hKi,hd,hinv2⟩
   refine af ?_
   have v17:=hv.away ha q17
   refine aa (al E E E (aV) (ag (ab (af ?_))))
   refine bz E (fun h73=>?_) (fun h73=>?_)
   ·refine aC (ab (af (aE (af (aa (ac E E ?_))))))
    obtain⟨a75,p75,q75⟩:=db Ms v17 (i:=i) (by omega) .i64
    refine aq E E E (p75 _) (ak E E (aj Mu E q75) (ae E E (ae E E (ag (ab (af (aa (ac E E ?_))))))))
    refine ac E E (ac E E ?_)
    obtain⟨a80,p80,q80⟩:=db Ms pK.wds (i:=i) (by omega) .i64
    refine aq E E E (p80 _) (ak E E (aj Mu E q80) (a9 E E (cc Mu MA) ?_))
    refine ac E E (a9 E E (cc Mu MA) (al E E E (dT) (al E E E (dT) (ae E E ?_))))
    refine ag (ab (af (aa (ac E E (ac E E (ac E E (a9 E E (cR MA Mu) ?_)))))))
    obtain⟨w91,p91,s91,pK',q91,c91⟩:=pK.setP Ms (i:=i) (by omega) ((((d)+(((((K[i])).toUInt64)+(((m[i])).toUInt64)))))).toUInt32
    refine aq E E E (p91 _) (au E E (s91) (ag (ab (aa (ac E E (al E E E (dF 32 (by omega)) (ae E E (ag (aS ?_)))))))))
    refine ab (aa (al (r:=I ((i+1:Nat):Int)) E E E (by have e:((i+1:Nat):Int)=(i:Int)+1:=(by omega);rw[e];exact aN (by omega) (by omega)) ?_))
    refine ac E E (ag ?_)
    have st:=Hq (L:=N) (v:=m) (M:=K) (i:=i) (c:=d) (by omega) (by omega) (by omega) hd hKi hinv2
    refine iz (i+1) (_) (_) ⟨rfl,rfl,rfl,rfl,rfl,rfl,rfl,trivial⟩ ⟨q17.trans q91,pK',by simpa using hK,by omega,st.1,st.2.1,st.2.2⟩ (by omega)
   ·refine bc (aI (aI (be (ab (af ?_)))))
    obtain rfl:i=m.length:=by omega
    refine aa (ac E E (ac E E (aO E E (bC Ms v17) ?_)))
    obtain⟨a98,p98,q98⟩:=db Ms pK.wds (i:=m.length) (by omega) .i64
    refine aq E E E (p98 _) (ak E E (aj Mu E q98) (ac E E (a9 E E (cR MA Mu) ?_)))
    refine al E E E (cz) ?_
    obtain⟨w103,p103,s103,pK',q103,c103⟩:=pK.setP Ms (i:=m.length) (by omega) (K[m.length]'(by omega)+d.toUInt32)
    refine aq E E E (p103 _) (au E E (s103) (ag (ab (af (aa (ac E E (al (v:=bF 1) E E E (dU) (a9 E E (cR MA Mu) ?_))))))))
    refine ae E E (ag (ab (aw (az E E ?_))))
    have rb:=Ht (q:=q.toNat) hL hNl hK hd hKi hinv2 tp.1 h1
    exact⟨_,rfl,(q-1).toUInt32,_,rfl,q17.trans q103,pK',by simpa using hK,by
     have e:(q-1).toUInt32.toNat=q.toNat-1:=by
      have h0:=rb.1
      rw[mH,tf]
      show(18446744073709551616-1+q.toNat)%18446744073709551616%_=_
      omega
     rw[e];exact rb.2.1,rb.2.2⟩
end Go.Rl
namespace Go.Rl
open Go.RowKit Go.Proofs
theorem kD:aG Tryz.prog 182:=⟨_,Tryz.func182,by kernel_rfl,rfl⟩
theorem FP {U:List UInt32} {i j V:Nat} (h:val U<4294967296^(i+1)*V) (hV:V<4294967296^j) (hi:i+j+1≤U.length):val (U.drop (i+j+1))=0:=by
 rw[fe U (i+j+1) hi] at h
 rcases Nat.eq_zero_or_pos (val (U.drop (i+j+1))) with h0|h0
 ·exact h0
 ·have a:4294967296^(i+1)*V≤4294967296^(i+1)*4294967296^j:=Nat.mul_le_mul_left _ (Nat.le_of_lt hV)
  rw[←Nat.pow_add,show i+1+j=i+j+1 by omega] at a
  have b:4294967296^(i+j+1)*1≤4294967296^(i+j+1)*val (U.drop (i+j+1)):=Nat.mul_le_mul_left _ h0
  omega
theorem Hx {U:List UInt32} {i n:Nat} (h:i+n≤U.length) (h0:val (U.drop (i+n))=0):val U=val (U.take i)+4294967296^i*val ((U.take (i+n)).drop i):=by
 have h1:=fe U (i+n) h
 rw[h0,Nat.mul_zero,Nat.add_zero] at h1
 have h2:=fe (U.take (i+n)) i (by simp;omega)
 rw[List.take_take,Nat.min_eq_left (by omega)] at h2
 rw[h1,h2]
theorem C3 {U F:List UInt32} {i n:Nat} (h:i+n≤U.length) (h0:val (U.drop (i+n))=0):val (U.take i++F++U.drop (i+n))=val (U.take i)+4294967296^i*val F:=by
 rw[fk,fk,h0,List.length_take,Nat.min_eq_left (by omega)];simp
theorem kF {w:World} {l m:List UInt32} {v u:Value} (hv:bm l v w) (hu:bm m u w) (hl:l.length≤549755813888) (hml:m.length≤549755813888) (hm:0<val m):
 Calls Tryz.prog 182 #[v,u] w (bE fun r w'=>aK w w'∧∃q s,r=.tuple #[q,s,I 0]∧bm (lb (val l/val m)) q w'∧bm (lb (val l%val m)) s w'):=by
 refine enter (vs:=[v,u]) Tryz.func182 E E E ?_
 have hll:=iX (cO l)
 have hmm:=iX (cO m)
 have hM0:0<(lb (val m)).length:=by
  rcases Nat.eq_zero_or_pos (lb (val m)).length with h|h
  ·have:=iD.1 h
   omega
  ·exact h
 refine af (aa (ae E E (ae E E (ae E E (ag (ab (af (aa (ac E E (am dY E E (eE hv) ?_))))))))))
 rintro v18 _ ⟨rfl,b18⟩
 refine ac E E (am dY E E (eE hu) ?_)
 rintro v20 _ ⟨rfl,b20⟩
 refine ae E E (ae E E (ag (ab (af (aE (af (aa (ac E E (aO (r:=I ((lb (val m)).length:Int)) E E (bC Ms b20) ?_)))))))))
 refine al E E E (cY (by omega) bi) (ae E E (ag (ab (cr E (af (aa (ac E E (ac E E (am t0 E E ((by have:=t4 b18 b20;rw[bW,bW] at this;exact this)) ?_)))))))))
 rintro v28 w28 ⟨x28,rfl⟩
 refine al E E E (aV) (ae E E (ag (ab ?_)))
 refine bz E (fun h25=>?_) (fun h25=>?_)
 ·have hlt:=pa.1 h25
  refine af (aa (ac E E (am nz E E ((by have:=nA (b18.ext x28) (by omega);rw[bW] at this;exact this)) ?_)))
  rintro v31 w31 ⟨x31,b31⟩
  refine ae E E (ae E E (ae E E (ag (ab (aw (aZ (ay (km E E E E ?_))))))))
  exact⟨_,rfl,(x28.trans x31),_,_,rfl,by rw[Nat.div_eq_of_lt hlt];exact bm.nil _,by rw[Nat.mod_eq_of_lt hlt];exact b31⟩
 ·have hge:val m≤val l:=Nat.le_of_not_lt fun h=>h25 (pa.2 h)
  have hlen:(lb (val m)).length≤(lb (val l)).length:=Nat.le_of_not_lt fun h=>by have:=z4 h;omega
  refine af (aa (ac E E (aO (r:=I ((lb (val m)).length:Int)) E E (bC Ms (b20.ext x28)) (al E E E (bi) ?_))))
  refine ae E E (ag (ab ?_))
  refine bz E (fun h32=>?_) (fun h32=>?_)
  ·refine af (aa (ac E E (ac E E ?_)))
   have hM1:val m=((lb (val m))[0]'(by omega)).toNat:=by
    have e:=fx (l:=lb (val m)) (i:=0) (by omega)
    rw[List.drop_zero,bW,List.drop_of_length_le (by omega)] at e
    simpa [val] using e
   obtain⟨a39,p39,q39⟩:=db Ms (b20.ext x28) (i:=0) (by omega) .i64
   refine aq E E E (p39 _) (ak E E (aj Mu E q39) (am Bw E E ((By (b18.ext x28) (by omega) (by rw[←hM1];exact hm))) ?_))
   rintro v41 w41 ⟨x41,q,s,rfl,bq,bs⟩
   refine ac E E (ao E E bj (ao E E bk (ae E E (ae E E (ag (ab (af (aa (ac E E (ac E E (ae E E ?_)))))))))))
   refine ae E E (ae E E (ag (ab (aw (aZ (ay (km E E E E ?_)))))))
   rw[bW,←hM1] at bq bs
   exact⟨_,rfl,(x28.trans x41),_,_,rfl,bq,bs⟩
  ·refine aC (aS (ab (af ?_)))
   obtain⟨k,hk⟩:∃k,(lb (val m)).length=k+2:=⟨(lb (val m)).length-2,by omega⟩
   obtain⟨hs32,hVlen⟩:=Hr hk
   have htop:(lb (val m))[(lb (val m)).length-1]'(by omega)=(lb (val m))[k+1]'(by omega):=by congr 1;omega
   refine aa (ac E E (ac E E (aO (r:=I ((lb (val m)).length:Int)) E E (bC Ms (b20.ext x28)) (al (r:=I (((lb (val m)).length-1:Nat):Int)) E E E (by have e:(((lb (val m)).length-1:Nat):Int)=((lb (val m)).length:Int)-1:=(by omega);rw[e];exact bD (by omega) (by omega)) ?_))))
   obtain⟨a50,p50,q50⟩:=db Ms (b20.ext x28) (i:=((lb (val m)).length-1:Nat)) (by omega) .i64
   refine aq E E E (p50 _) (ak E E (aj Mu E q50) (am Fw E E (Fz) ?_))
   rintro v52 _ ⟨rfl,rfl⟩
   rw[htop]
   obtain⟨s,hs⟩:∃s,s=32-bl ((lb (val m))[k+1]'(by omega)).toNat:=⟨_,rfl⟩
   rw[←hs] at hs32 hVlen⊢
   refine ae E E (ag (ab (af (aa (ac E E (ac E E (am wi E E (wo (b18.ext x28) (by omega) hs32) ?_)))))))
   rintro v55 w55 ⟨x55,U,oU,hUl,hUv⟩
   refine ac E E (ac E E (am wi E E (wo (b20.ext (x28.trans x55)) (by omega) hs32) ?_))
   rintro v58 w58 ⟨x58,V,oV,hVl,hVv⟩
   refine am dY E E (vY oV.wds) ?_
   rintro v59 _ ⟨rfl,b59,ob59⟩
   rw[bW] at hUv hVv
   rw[hVv] at b59
   obtain⟨g,sp,hgb,hgo,pU⟩:=oU.pw (by omega)
   have hV0:0<val m*2^s:=Nat.mul_pos hm (Nat.pow_pos (by omega))
   have hgV:g<w55.heap.size:=pU.lt
   have off1:v59.ownBlock=none∨v59.ownBlock≠some g:=by
    rcases ob59 with h|h
    ·exact .inl h
    ·exact .inr (by rw[h];exact oV.off hgV)
   refine ae E E (ae E E (ag (ab (af (aa (ac E E (aO (r:=I ((lb (val l)).length:Int)) E E (bC Ms (b18.ext ((x28.trans x55).trans x58))) ?_)))))))
   refine ac E E (aO (r:=I ((lb (val m)).length:Int)) E E (bC Ms (b20.ext ((x28.trans x55).trans x58))) (al (r:=I (((lb (val l)).length-(lb (val m)).length:Nat):Int)) E E E (by have e:(((lb (val l)).length-(lb (val m)).length:Nat):Int)=((lb (val l)).length:Int)-((lb (val m)).length:Int):=(by omega);rw[e];exact bD (by omega) (by omega)) ?_))
   refine al (r:=I (((((lb (val l)).length-(lb (val m)).length:Nat))+1:Nat):Int)) E E E (by have e:(((((lb (val l)).length-(lb (val m)).length:Nat))+1:Nat):Int)=(((lb (val l)).length-(lb (val m)).length:Nat):Int)+1:=(by omega);rw[e];exact aN (by omega) (by omega)) ?_
   obtain⟨v66,w66,hr66,x66,o66,ob66⟩:=yy Ms (w:=w58) w58.heap.size (n:=(lb (val l)).length-(lb (val m)).length+1) (by omega) (Nat.le_refl _)
   refine iT E E E hr66 (ae E E (ag (ab (af (af (aa (ac E E (aO (r:=I (((lb (val l)).length-(lb (val m)).length+1:Nat):Int)) E E ((by simpa using bC Tryz.underlying44 o66.wds)) ?_))))))))
   refine al E E E (bD (by omega) (by omega)) (ae E E (ag (ab (aE ?_))))
   refine kA (fun(j:Nat) (X:List UInt32) (O:List UInt32)=>[(9,I (s:Int)),(10,v55),(11,v59),(12,v66),(13,I ((j:Int)-1))]) (fun(j:Nat) (X:List UInt32) (O:List UInt32) w'=>aK w w'∧PW g [] X sp v55 w'∧el w58.heap.size O v66 w'∧bm (lb (val m*2^s)) v59 w'∧X.length=(lb (val l)).length+1∧O.length=(lb (val l)).length-(lb (val m)).length+1∧j≤O.length∧val l*2^s=val (O.drop j)*4294967296^j*(val m*2^s)+val X∧val X<4294967296^j*(val m*2^s)) (fun(j:Nat) (X:List UInt32) (O:List UInt32)=>j) ((lb (val l)).length-(lb (val m)).length+1) (U) (List.replicate ((lb (val l)).length-(lb (val m)).length+1) 0) ⟨rfl,rfl,rfl,rfl,rfl,trivial⟩ ⟨(((x28.trans x55).trans x58).trans x66),(pU.ext x58).ext x66,o66,b59.ext x66,hUl,by simp,by simp,by rw[List.drop_of_length_le (by simp)];simp[val,hUv],by
    have h1:=cO (lb (val l))
    have h2:=Eu hm
    rw[bW] at h1
    rw[hUv,←Nat.mul_assoc]
    refine Nat.mul_lt_mul_of_pos_right ?_ (Nat.pow_pos (by omega))
    have h3:4294967296^(lb (val l)).length=4294967296^((lb (val l)).length-(lb (val m)).length+1)*4294967296^((lb (val m)).length-1):=by
     rw[←Nat.pow_add,show(lb (val l)).length-(lb (val m)).length+1+((lb (val m)).length-1)=(lb (val l)).length by omega]
    rw[h3] at h1
    exact Nat.lt_of_lt_of_le h1 (Nat.mul_le_mul_left _ h2)⟩ ?_
   rintro j X O w13 ⟨e13,pX,oO,f13,hXl,hOl,hj,hA,hX⟩
   refine af (af (aa (ac E E (al E E E (gx) (ag (ab ?_))))))
   refine bz E (fun h71=>?_) (fun h71=>?_)
   ·obtain⟨i,rfl⟩:∃i,j=i+1:=⟨j-1,by omega⟩
    have e:((i+1:Nat):Int)-1=(i:Int):=by omega
    rw[e]
    have hz:=FP hX (by have:=cO (lb (val m*2^s));rwa [bW,hVlen] at this) (j:=k+2) (by omega)
    have hXp:=Hx (U:=X) (i:=i) (n:=k+3) (by omega) hz
    refine aC (ab (af (aE (af (aa (ac E E (ac E E (ac E E (ac E E (aO (r:=I ((k+2:Nat):Int)) E E ((by rw[←hVlen];exact bC Ms f13)) ?_))))))))))
    refine al (r:=I ((i+(k+2:Nat):Nat):Int)) E E E (by have e:((i+(k+2:Nat):Nat):Int)=(i:Int)+((k+2:Nat):Int):=(by omega);rw[e];exact aN (by omega) (by omega)) ?_
    refine al (r:=I ((((i+(k+2:Nat):Nat))+1:Nat):Int)) E E E (by have e:((((i+(k+2:Nat):Nat))+1:Nat):Int)=((i+(k+2:Nat):Nat):Int)+1:=(by omega);rw[e];exact aN (by omega) (by omega)) ?_
    obtain⟨v81,p81,pP⟩:=KR Ms pX (lo:=i) (hi:=i+(k+2)+1) (by omega) (by omega) .i64 .i64
    refine cx E E E E E (p81 _) ?_
    have hPl:((X.take (i+(k+2)+1)).drop i).length=k+3:=by simp;omega
    refine ae E E (ag (ab (aa (ac E E (ac E E (ac E E (ac E E (ac E E (ac E E (am FK E E (FN pP.wds f13 hVlen hPl (by omega) (z5 (by omega)) (by
 rw[bW]
 have h1:4294967296^i*val ((X.take (i+(k+3))).drop i)≤val X:=by rw[hXp];omega
 rw[Nat.pow_succ,Nat.mul_assoc] at hX
 exact Nat.lt_of_mul_lt_mul_left (Nat.lt_of_le_of_lt h1 hX))) ?_))))))))))
    rintro v88 w88 ⟨x88,q,rfl,hqB,hq1,hq2⟩
    refine am FM E E (FO (pP.ext x88) (f13.ext x88) off1 (by rw[hPl,hVlen]) (by omega) hqB hq1 hq2) ?_
    rintro v89 w89 ⟨x,F,rfl,q89,pF,hFl,hFv,hFr⟩
    have x89:=(e13.trans x88).of_new q89 (by have:=x28.size;omega)
    have o89:=(oO.ext x88).kept q89 (.inr (oO.off (by have:=x58.size;omega)))
    have p89:=pX.join (by omega) (by omega) (by rw[hFl,hPl];omega) pF
    have f89:=(f13.ext x88).away off1 q89
    obtain⟨g90,w90,p90,s90,o90,q90,hb90,c90,ob90⟩:=o89.setW Ms (i:=i) (by omega) x
    refine aq E E E (p90 _) (au E E (s90) ?_)
    have x90:=x89.of_new q90 (by have:=x28.size;have:=x55.size;have:=x58.size;omega)
    have p90':=p89.kept q90 (fun h=>by have:=Option.some.inj h;have:=x58.size;omega)
    have f90:=f89.away (by
     rcases ob59 with h|h
     ·exact .inl h
     ·refine .inr fun he=>?_
      rw[h] at he
      have:=oV.lt g90 he
      omega) q90
    have hj':=C3 (U:=X) (F:=F) (i:=i) (n:=k+3) (by omega) hz
    rw[bW] at hFv hFr
    have dr:=FC (A:=val l*2^s) (P:=4294967296^i) (Q:=val (O.drop (i+1))) (V:=val m*2^s) hXp (by have:=cO (X.take i);rwa [List.length_take,Nat.min_eq_left (by omega)] at this) (by rw[←Nat.pow_succ];exact hA) hFv hFr
    rw[←hj',←tg (by omega)] at dr
    refine ag (aS (ab (aa (ac E E (al E E E (bD (by omega) (by omega)) (ae E E (ag ?_)))))))
    refine iz (i) (_) (_) ⟨rfl,rfl,rfl,rfl,rfl,trivial⟩ ⟨x90,p90',o90,f90,by simp[hFl,hPl,hXl];omega,by simpa using hOl,by simp;omega,dr.1,dr.2⟩ (by omega)
   ·refine bc (aI (aI (be (ab (af ?_)))))
    obtain rfl:j=0:=by omega
    rw[Nat.pow_zero,Nat.mul_one,List.drop_zero] at hA
    rw[Nat.pow_zero,Nat.one_mul] at hX
    have hs0:0<2^s:=Nat.pow_pos (by omega)
    have hQ:val l/val m=val O:=by
     rw[←Nat.mul_div_mul_right _ _ hs0,hA,Nat.mul_comm (val O),Nat.mul_add_div hV0,Nat.div_eq_of_lt hX,Nat.add_zero]
    have hR:val X/2^s=val l%val m:=by
     have e1:val X=val l*2^s%(val m*2^s):=by rw[hA,Nat.mul_comm (val O),Nat.mul_add_mod,Nat.mod_eq_of_lt hX]
     rw[e1,Nat.mul_mod_mul_right,Nat.mul_div_cancel _ hs0]
    refine aa (ac E E (ac E E (am Fv E E (FA pX.wds (by omega) (by omega)) ?_)))
    rintro v94 w94 ⟨x94,r94,rfl,b94⟩
    refine ac E E (ao E E bj (ao E E bk (ae E E (ae E E (ag (ab (af (aa (ac E E (am dY E E (eE ((oO.ext x94).wds)) ?_))))))))))
    rintro v98 _ ⟨rfl,b98⟩
    refine ac E E (ae E E (ae E E (ae E E (ag (ab (aw (km E E E E ?_)))))))
    exact⟨_,rfl,(e13.trans x94),_,_,rfl,by rw[hQ];exact b98,by rw[←hR];exact b94⟩
end Go.Rl
namespace Go.Rl
open Go.RowKit Go.Proofs
theorem nC:aG Tryz.prog 166:=⟨_,Tryz.func166,by kernel_rfl,rfl⟩
theorem FQ:aG Tryz.prog 165:=⟨_,Tryz.func165,by kernel_rfl,rfl⟩
theorem Fsz:aG Tryz.prog 181:=⟨_,Tryz.func181,by kernel_rfl,rfl⟩
theorem mJ {n m:Nat} (h:n≤m):(lb n).length≤(lb m).length:=by
 rcases Nat.lt_or_ge (lb m).length (lb n).length with h1|h1
 ·have:=z4 h1;omega
 ·exact h1
theorem nD {w:World} {l m:List UInt32} {v u:Value} (hv:bm l v w) (hu:bm m u w) (hl:l.length≤274877906944) (hml:m.length≤274877906944) (hm:0<val m):
 Calls Tryz.prog 166 #[v,u] w (bE fun r w'=>aK w w'∧∃q s,r=.tuple #[q,s,I 0]∧bm (lb (val l/val m)) q w'∧bm (lb (val l%val m)) s w'):=by
 refine enter (vs:=[v,u]) Tryz.func166 E E E ?_
 refine af (aa (ae E E (ae E E (ae E E (ag (ab (af (aa (ac E E (am wt E E (ww hv (by omega)) ?_))))))))))
 rintro v16 w16 ⟨x16,hcx⟩
 obtain⟨x,bx,rfl,hbx⟩:∃(x:UInt64) (bx:Bool),v16=.tuple #[bF x,B bx]∧(bx=true→x.toNat=val l):=by
  rcases hcx with⟨_,rfl⟩|⟨x,hx,rfl⟩
  ·exact⟨0,false,rfl,fun h=>by cases h⟩
  ·exact⟨x,true,rfl,fun _=>hx⟩
 refine ac E E (ao E E bj (ao E E (bk) (ae E E (ae E E (ag (ab (af (aa (ac E E (am wt E E (ww (hu.ext x16) (by omega)) ?_))))))))))
 rintro v21 w21 ⟨x21,hcy⟩
 obtain⟨y,bY,rfl,hby⟩:∃(y:UInt64) (bY:Bool),v21=.tuple #[bF y,B bY]∧(bY=true→y.toNat=val m):=by
  rcases hcy with⟨_,rfl⟩|⟨y,hy,rfl⟩
  ·exact⟨0,false,rfl,fun h=>by cases h⟩
  ·exact⟨y,true,rfl,fun _=>hy⟩
 refine ac E E (ao E E bj (ao E E (bk) ?_))
 have hy0:bY=true→¬y=0:=fun h h0=>by
  have:=hby h
  rw[h0] at this
  have e:(0:UInt64).toNat=0:=rfl
  omega
 refine ae E E (ae E E (ag (ab (af ?_))))
 refine fg (fun _:Unit=>[(0,v),(1,u),(7,bF x),(8,B bx),(9,bF y),(10,B bY)]) (fun _ w'=>w21=w') ?_ ?_
 ·refine af ?_
  cases bY
  ·refine aa (ac E E (ac E E (an E E E (an E E E (aD E E E (ag (ab (cr E (aC ?_)))))))))
   exact cu () ⟨rfl,rfl,rfl,rfl,rfl,rfl,trivial⟩ rfl
  ·refine aa (ac E E (ac E E (ai E (ac E E (ai E (al (v:=bF 0) E E E (cY (hy0 E) gV) (ap E E E (ag ?_))))))))
   refine ab (cr E (aC ?_))
   exact cu () ⟨rfl,rfl,rfl,rfl,rfl,rfl,trivial⟩ rfl
 rintro⟨⟩ _ rfl
 refine ab (af ?_)
 refine fg (fun _:Unit=>[(0,v),(1,u)]) (fun _ w'=>w21=w') ?_ ?_
 ·refine af ?_
  rcases bx with _|_<;>rcases bY with _|_
  ·refine aa (ac E E (ac E E (an E E E (aD E E E (ag (ab (cr E (aC ?_))))))))
   exact cu () ⟨rfl,rfl,trivial⟩ rfl
  ·refine aa (ac E E (ac E E (an E E E (aD E E E (ag (ab (cr E (aC ?_))))))))
   exact cu () ⟨rfl,rfl,trivial⟩ rfl
  ·refine aa (ac E E (ac E E (ai E (ac E E (ap E E E (ag (ab (cr E (aC ?_)))))))))
   exact cu () ⟨rfl,rfl,trivial⟩ rfl
  ·have hx:=hbx rfl
   have hy:=hby rfl
   have hyn:=hy0 rfl
   refine aa (ac E E (ac E E (ai E (ac E E (ap E E E (ag (ab (bg E (af (bI 10 [4,5] (by kernel_rfl) (by kernel_rfl) ?_))))))))))
   refine aA rfl rfl (aA rfl rfl (bb rfl rfl rfl (fun w _=>iV hyn) (cn (S:=bm (lb (val l/val m))) BE (bm.stable _) rfl (fun w hw=>by rintro _ rfl;exact bE.mono BF fun v w' h=>⟨h.1,by have:=h.2;rwa [UInt64.toNat_div,hx,hy] at this⟩) ?_)))
   refine aA rfl rfl (aA rfl rfl (bb rfl rfl rfl (fun w _=>jt hyn) (cn (S:=bm (lb (val l%val m))) BE (bm.stable _) rfl (fun w hw=>by rintro _ rfl;exact bE.mono BF fun v w' h=>⟨h.1,by have:=h.2;rwa [UInt64.toNat_mod,hx,hy] at this⟩) ?_)))
   refine gE E E (gE E E (cq ?_))
   intro wg6 xg6
   intro vg4 b4
   intro vg5 b5
   refine ae E E (ag (ab (aw (ay (km E E E E ?_)))))
   exact⟨_,rfl,((x16.trans x21).trans xg6),_,_,rfl,b4,b5⟩
 rintro⟨⟩ _ rfl
 refine ab (af (aa (ac E E (aO E E (bC Ms (hv.ext (x16.trans x21))) ?_))))
 obtain⟨v43,w43,hr43,x43,o43,ob43⟩:=yy MO (w:=w21) w21.heap.size (n:=l.length) (by omega) (Nat.le_refl _)
 refine iT E E E hr43 ?_
 obtain⟨v44,w44,hr44,x44,o44,ob44⟩:=jo Tryz.underlying44 (w:=w43) w43.heap.size [] (by simp) (Nat.le_refl _)
 refine aJ (vs:=[]) E E hr44 (ae E E (ae E E (ag (ab (af (af (aa (ac E E (am CZ E E (C0 (hv.ext (((x16.trans x21).trans x43).trans x44)) (by omega)) ?_)))))))))
 rintro v46 w46 ⟨x46,rfl⟩
 have hbl:bl (val l)≤32*l.length:=yC (by have:=cO l;rwa [show(4294967296:Nat)^l.length=2^(32*l.length) by rw[Nat.pow_mul]] at this)
 have hb0:val l/2^bl (val l)=0:=by
  rcases Nat.eq_zero_or_pos (val l) with h|h
  ·rw[h];simp
  ·exact Nat.div_eq_of_lt (th h).2
 refine al E E E (bD (by omega) (by omega)) (ae E E (ag (ab (aE ?_))))
 refine kA (fun(j:Nat) (O:List UInt32) (vr:Value)=>[(0,v),(1,u),(11,v43),(12,vr),(13,I ((j:Int)-1))]) (fun(j:Nat) (O:List UInt32) (vr:Value) w'=>aK w w'∧el w21.heap.size O v43 w'∧O.length=l.length∧bm (lb (val l/2^j%val m)) vr w'∧j≤bl (val l)∧val O=2^j*(val l/2^j/val m)) (fun(j:Nat) (O:List UInt32) (vr:Value)=>j) (bl (val l)) (List.replicate l.length 0) (v44) ⟨rfl,rfl,rfl,rfl,rfl,trivial⟩ ⟨((((x16.trans x21).trans x43).trans x44).trans x46),(o43.ext x44).ext x46,by simp,by rw[hb0,Nat.zero_mod];exact(o44.ext x46).wds,Nat.le_refl _,by rw[hb0];simp[tY]⟩ ?_
 rintro j O vr w9 ⟨e9,oq,hO,br,hj,hq⟩
 refine af (af (aa (ac E E (al E E E (gx) (ag (ab ?_))))))
 refine bz E (fun h49=>?_) (fun h49=>?_)
 ·obtain⟨i,rfl⟩:∃i,j=i+1:=⟨j-1,by omega⟩
  have e:((i+1:Nat):Int)-1=(i:Int):=by omega
  rw[e]
  have hib:i/32<l.length:=by omega
  have hrl:(lb (val l/2^(i+1)%val m)).length≤m.length:=Nat.le_trans (mJ (Nat.le_of_lt (Nat.mod_lt _ hm))) (iX (cO m))
  obtain⟨rd1,rd2,rd3⟩:=CY (N:=val l) (i:=i) hm
  refine aC (ab (af (aE (af (aa (ac E E ?_))))))
  have hVl:=cO m
  have hxl:=Nat.mod_lt (val l/2^(i+1)) hm
  have h2l:∀b,b≤1→(lb (2*(val l/2^(i+1)%val m)+b)).length≤m.length+1:=fun b hb=>iX (by have e:(4294967296:Nat)^(m.length+1)=4294967296^m.length*4294967296:=Nat.pow_succ ..;rw[e];have:=LY m.length;omega)
  refine am FG E E (FJ (k:=1) br (by omega) (by omega)) ?_
  rintro v53 w53 ⟨x53,b53⟩
  refine ae E E (ag (ab (af (aa (ac E E (ac E E (ac E E (al (r:=I ((i/32:Nat):Int)) E E E (by have e:((i/32:Nat):Int)=(i:Int)/32:=(by omega);rw[e];exact pW (by omega) (by omega) (by omega)) ?_))))))))
  obtain⟨a58,p58,q58⟩:=db Ms (hv.ext (e9.trans x53)) (i:=(i/32:Nat)) (by omega) .i64
  refine aq E E E (p58 _) (ak E E (aj Mu E q58) (ac E E (al (r:=I ((i%32:Nat):Int)) E E E (by have e:((i%32:Nat):Int)=(i:Int)%32:=(by omega);rw[e];exact pY (by omega) (by omega)) ?_)))
  refine al E E E (da ((i%32:Nat)) (by omega)) (al (v:=bH 1) E E E (fJ) ?_)
  obtain⟨v64,w64,hr64,x64,o64,ob64⟩:=jo Tryz.underlying44 (w:=w53) w53.heap.size [((((((l[(i/32:Nat)]))>>>UInt32.ofNat ((i%32:Nat))))&&&(1)))] (by simp) (Nat.le_refl _)
  refine aJ (vs:=[(0,bH (((((((l[(i/32:Nat)]))>>>UInt32.ofNat ((i%32:Nat))))&&&(1)))))]) E E hr64 (am FE E E (FH (b53.ext x64) o64.wds (by rw[bW,Nat.pow_one,Nat.mul_comm];have:=h2l 0 (by omega);rw[Nat.add_zero] at this;omega) (by simp)) ?_)
  rintro v65 w65 ⟨x65,b65⟩
  rw[bW,bW,ny,KT hib,Nat.pow_one,Nat.mul_comm] at b65
  have x6:=(x53.trans x64).trans x65
  refine ae E E (ag (ab (af (aa (ac E E (ac E E (am yG E E (yI b65 (hu.ext (((e9.trans x53).trans x64).trans x65))) ?_)))))))
  rintro v68 _ ⟨rfl,rfl⟩
  refine al E E E (gx) (ag (ab ?_))
  refine bz E (fun h69=>?_) (fun h69=>?_)
  ·have hle:val m≤val (lb (2*(val l/2^(i+1)%val m)+val l/2^i%2)):=Nat.le_of_not_lt fun h=>by have:=pa.2 h;omega
   refine af (aa (ac E E (ac E E (am FF E E (FI b65 (hu.ext (((e9.trans x53).trans x64).trans x65)) (by have:=h2l (val l/2^i%2) (by omega);omega) hle) ?_))))
   rintro v73 w73 ⟨x73,d73,rfl,b73⟩
   rw[bW] at b73 hle
   obtain⟨rm,rq⟩:=rd2 hle
   rw[←rm] at b73
   have oq73:=(oq.ext x6).ext x73
   obtain⟨g85,_,p85,_,_,_,_,_,ob85⟩:=oq73.setW MO (i:=i/32) (by omega) (O[i/32]'(by omega)|||(1:UInt32)<<<UInt32.ofNat (i%32))
   refine ac E E (ao E E (bj) (ao E E bk (ae E E (ag (ab (bI 10 [0,1,11,12,13,84,85] (by kernel_rfl) (by kernel_rfl) ?_))))))
   refine aA E E (aA E E (bb (r:=I ((i/32:Nat):Int)) E E E (fun w _=>by have e:((i/32:Nat):Int)=(i:Int)/32:=(by omega);rw[e];exact pW (by omega) (by omega) (by omega)) ?_))
   obtain⟨a79,p79,q79⟩:=db MO oq73.wds (i:=(i/32:Nat)) (by omega) .i64
   refine aF E E E (fun w _=>p79 w) (aP E E (fun w hw=>aj Mu E (hw.cell_some q79)) (aA E E (bb (r:=I ((i%32:Nat):Int)) E E E (fun w _=>by have e:((i%32:Nat):Int)=(i:Int)%32:=(by omega);rw[e];exact pY (by omega) (by omega)) ?_)))
   refine bb (u:=bH 1) E E E (fun w _=>fu ((i%32:Nat)) (by omega)) (bb E E E (fun w _=>fK) (aF E E E (fun w hw=>p85 w) ?_))
   refine cq ?_
   intro wg15 xg15
   rintro _ hq0
   obtain rfl:=Eq.symm hq0
   rintro _ hq1
   obtain rfl:=Eq.symm hq1
   rintro _ hq11
   obtain rfl:=Eq.symm hq11
   rintro _ hq12
   obtain rfl:=Eq.symm hq12
   rintro _ rfl
   rintro _ rfl
   rintro _ rfl
   obtain⟨g',w',p',s',o',q',hb',c',ob'⟩:=(oq73.ext xg15).setW MO (i:=i/32) (by omega) (O[i/32]'(by omega)|||(1:UInt32)<<<UInt32.ofNat (i%32))
   obtain rfl:g85=g':=Option.some.inj (ob85.symm.trans ob')
   refine au E E (s') ?_
   have x15:=(((e9.trans x6).trans x73).trans xg15).of_new q' (by have:=x16.size;have:=x21.size;omega)
   have sb:=KU (a:=O) (i:=i) (by omega) hq
   have br':=((b73.ext xg15).kept q' (.inr (b73.off (by have:=oq.lt _ ob85;have:=x6.size;omega)))).wds
   refine ag (aS (ab (aa (ac E E (al E E E (bD (by omega) (by omega)) (ae E E (ag ?_)))))))
   refine iz (i) (_) (d73) ⟨rfl,rfl,rfl,rfl,rfl,trivial⟩ ⟨x15,o',by simpa using hO,br',by omega,by rw[sb,hq,rq,Nat.pow_succ,Nat.mul_assoc,Nat.mul_add,Nat.mul_one]⟩ (by omega)
  ·have hlt:2*(val l/2^(i+1)%val m)+val l/2^i%2<val m:=by
    rcases Nat.lt_or_ge (2*(val l/2^(i+1)%val m)+val l/2^i%2) (val m) with h|h
    ·exact h
    ·refine absurd ?_ h69
     rw[bW]
     have:¬tZ (2*(val l/2^(i+1)%val m)+val l/2^i%2) (val m)<0:=fun h'=>by have:=pa.1 h';omega
     omega
   obtain⟨rm,rq⟩:=rd3 hlt
   rw[←rm] at b65
   refine aC (aS (ab (aa (ac E E (al E E E (bD (by omega) (by omega)) (ae E E (ag ?_)))))))
   refine iz (i) (O) (v65) ⟨rfl,rfl,rfl,rfl,rfl,trivial⟩ ⟨(((e9.trans x53).trans x64).trans x65),oq.ext x6,hO,b65,by omega,by rw[hq,rq,Nat.pow_succ,Nat.mul_assoc]⟩ (by omega)
 ·refine bc (aI (aI (be (ab (af ?_)))))
  obtain rfl:j=0:=by omega
  rw[Nat.pow_zero,Nat.div_one,Nat.one_mul] at hq
  rw[Nat.pow_zero,Nat.div_one] at br
  refine aa (ac E E (am fA E E (gb oq.wds (by omega)) ?_))
  rintro v87 w87 ⟨x87,b87⟩
  refine ac E E (ae E E (ae E E (ae E E (ag (ab (aw (km E E E E ?_)))))))
  exact⟨_,rfl,(e9.trans x87),_,_,rfl,by rw[←hq];exact b87,br.ext x87⟩
theorem FT {w:World} {l m:List UInt32} {v u:Value} (hv:bm l v w) (hu:bm m u w) (hl:l.length≤274877906944) (hml:m.length≤274877906944):
 Calls Tryz.prog 165 #[v,u] w (bE fun r w'=>aK w w'∧bm (lb (Nat.gcd (val l) (val m))) r w'):=by
 refine enter (vs:=[v,u]) Tryz.func165 E E E ?_
 have hll:=iX (cO l)
 have hmm:=iX (cO m)
 refine af (aa (ae E E (ag (ab (af (aa (ac E E (am fA E E (gb hv (by omega)) ?_))))))))
 rintro v9 w9 ⟨x9,b9⟩
 refine ac E E (am fA E E (gb (hu.ext x9) (by omega)) ?_)
 rintro v11 w11 ⟨x11,b11⟩
 refine ae E E (ae E E (ag (ab (af (aE ?_)))))
 refine jf (fun(a:Nat) (b:Nat) (va:Value) (vb:Value)=>[(0,va),(1,vb)]) (fun(a:Nat) (b:Nat) (va:Value) (vb:Value) w'=>aK w w'∧bm (lb a) va w'∧bm (lb b) vb w'∧Nat.gcd a b=Nat.gcd (val l) (val m)∧(lb a).length≤274877906944∧(lb b).length≤274877906944) (fun(a:Nat) (b:Nat) (va:Value) (vb:Value)=>b) (val l) (val m) (v9) (v11) ⟨rfl,rfl,trivial⟩ ⟨(x9.trans x11),b9.ext x11,b11,rfl,by omega,by omega⟩ ?_
 rintro a b va vb w2 ⟨e2,ha,hb,hg,hla,hlb⟩
 refine af (af (aa (ac E E (aO (r:=I ((lb b).length:Int)) E E (bC Ms hb) (al E E E (ca) ?_)))))
 refine ag (ab ?_)
 refine bz E (fun h14=>?_) (fun h14=>?_)
 ·have hb0:0<b:=by
   rcases Nat.eq_zero_or_pos b with h|h
   ·subst h;simp[gZ] at h14
   ·exact h
  refine aC (ab (aE (af (aa (ac E E (ac E E (am nC E E (nD ha hb (by omega) (by omega) (by rw[bW];exact hb0)) ?_)))))))
  rintro v18 w18 ⟨x18,q,r,rfl,bq,br⟩
  rw[bW,bW] at br
  refine ac E E (ao E E fL (ao E E (fM) (ao E E fN (ae E E (ae E E (ae E E (ag (ab ?_))))))))
  refine aa (ac E E (ac E E (ae E E (ae E E (ag (aS ?_))))))
  refine fj (b) (a%b) (vb) (r) ⟨rfl,rfl,trivial⟩ ⟨(e2.trans x18),hb.ext x18,br,by rw[←hg,Nat.gcd_comm b,←Nat.gcd_rec,Nat.gcd_comm],hlb,Nat.le_trans (mJ (Nat.le_of_lt (Nat.mod_lt a hb0))) hlb⟩ (Nat.mod_lt a hb0)
 ·refine bc (aI (aI (be (ab (af (aa (ac E E (ae E E (ag (ab (aw (az E E ?_))))))))))))
  exact⟨_,rfl,e2,by
   have hb0:b=0:=by
    refine iD.1 ?_
    omega
   rw[←hg,hb0,Nat.gcd_zero_right];exact ha⟩
theorem FU {w:World} {l m:List UInt32} {v u:Value} (hv:bm l v w) (hu:bm m u w) (hl:l.length≤274877906944) (hml:m.length≤274877906944):
 Calls Tryz.prog 181 #[v,u] w (bE fun r w'=>aK w w'∧bm (lb (Nat.gcd (val l) (val m))) r w'):=by
 refine enter (vs:=[v,u]) Tryz.func181 E E E ?_
 have hll:=iX (cO l)
 have hmm:=iX (cO m)
 refine af (aa (ae E E (ag (ab (af (aa (ac E E (am dY E E (eE hv) ?_))))))))
 rintro v16 _ ⟨rfl,b16⟩
 refine ac E E (am dY E E (eE hu) ?_)
 rintro v18 _ ⟨rfl,b18⟩
 refine ae E E (ae E E (ag (ab (af (aE ?_)))))
 refine jf (fun(a:Nat) (b:Nat) (va:Value) (vb:Value)=>[(0,va),(1,vb)]) (fun(a:Nat) (b:Nat) (va:Value) (vb:Value) w'=>aK w w'∧bm (lb a) va w'∧bm (lb b) vb w'∧Nat.gcd a b=Nat.gcd (val l) (val m)∧(lb a).length≤274877906944∧(lb b).length≤274877906944) (fun(a:Nat) (b:Nat) (va:Value) (vb:Value)=>b) (val l) (val m) (v16) (v18) ⟨rfl,rfl,trivial⟩ ⟨aK.refl _,b16,b18,rfl,by omega,by omega⟩ ?_
 rintro a b va vb w2 ⟨e2,ha,hb,hg,hla,hlb⟩
 refine af (af (aa (ac E E (aO (r:=I ((lb b).length:Int)) E E (bC Ms hb) (al E E E (ca) ?_)))))
 refine ag (ab ?_)
 refine bz E (fun h21=>?_) (fun h21=>?_)
 ·have hb0:0<b:=by
   rcases Nat.eq_zero_or_pos b with h|h
   ·subst h;simp[gZ] at h21
   ·exact h
  refine aC (ab (aE (af (aa (ac E E (ac E E (am kD E E (kF ha hb (by omega) (by omega) (by rw[bW];exact hb0)) ?_)))))))
  rintro v25 w25 ⟨x25,q,r,rfl,bq,br⟩
  rw[bW,bW] at br
  refine ac E E (ao E E fL (ao E E (fM) (ao E E fN (ae E E (ae E E (ae E E (ag (ab ?_))))))))
  refine aa (ac E E (ac E E (ae E E (ae E E (ag (aS ?_))))))
  refine fj (b) (a%b) (vb) (r) ⟨rfl,rfl,trivial⟩ ⟨(e2.trans x25),hb.ext x25,br,by rw[←hg,Nat.gcd_comm b,←Nat.gcd_rec,Nat.gcd_comm],hlb,Nat.le_trans (mJ (Nat.le_of_lt (Nat.mod_lt a hb0))) hlb⟩ (Nat.mod_lt a hb0)
 ·refine bc (aI (aI (be (ab (af (af (aa (ac E E (aO (r:=I ((lb b).length:Int)) E E (bC Ms hb) ?_)))))))))
  refine al E E E (bi) (ag (ab ?_))
  refine bz E (fun h33=>?_) (fun h33=>?_)
  ·have hb0:b=0:=by
    refine iD.1 ?_
    omega
   refine af (aa (ac E E (am nz E E (nA ha (by omega)) ?_)))
   rintro v35 w35 ⟨x35,b35⟩
   refine ae E E (ag (ab (aw (ay (az E E ?_)))))
   exact⟨_,rfl,(e2.trans x35),by
    rw[bW] at b35
    rw[←hg,hb0,Nat.gcd_zero_right];exact b35⟩
  ·have hb0:0<b:=by
    rcases Nat.eq_zero_or_pos b with h|h
    ·subst h;simp[gZ] at h33
    ·exact h
   have hb64:b<18446744073709551616:=by
    have:=cO (lb b)
    rw[bW] at this
    have h2:(4294967296:Nat)^(lb b).length≤4294967296^2:=Nat.pow_le_pow_right (by omega) (by omega)
    omega
   refine aC (ab (af (aa (ac E E (ac E E (am kD E E (kF ha hb (by omega) (by omega) (by rw[bW];exact hb0)) ?_))))))
   rintro v39 w39 ⟨x39,q,r,rfl,bq,br⟩
   rw[bW,bW] at br
   refine ac E E (ao E E fL (ao E E (fM) (ao E E fN (ae E E (ae E E (ae E E (ag (ab ?_))))))))
   refine af (aa (ac E E (am vX E E (wm (hb.ext x39)) ?_)))
   rintro v45 _ ⟨rfl,hcx⟩
   obtain⟨x,hx,rfl⟩:∃x:UInt64,x.toNat=b∧v45=.tuple #[bF x,B true]:=by
    rw[bW] at hcx
    rcases hcx with⟨h,_⟩|h
    ·omega
    ·exact h
   refine ac E E (ao E E bj (ao E E bk (ae E E (ae E E (ag (ab (af (aa (ac E E (am vX E E (wm br) ?_))))))))))
   rintro v50 _ ⟨rfl,hcy⟩
   obtain⟨y,hy,rfl⟩:∃y:UInt64,y.toNat=a%b∧v50=.tuple #[bF y,B true]:=by
    have:=Nat.mod_lt a hb0
    rw[bW] at hcy
    rcases hcy with⟨h,_⟩|h
    ·omega
    ·exact h
   refine ac E E (ao E E bj (ao E E bk (ae E E (ae E E (ag (ab (af (aE ?_))))))))
   refine fw (fun(x':UInt64) (y':UInt64)=>[(11,bF x'),(13,bF y')]) (fun(x':UInt64) (y':UInt64) w'=>aK w w'∧Nat.gcd x'.toNat y'.toNat=Nat.gcd (val l) (val m)) (fun(x':UInt64) (y':UInt64)=>y'.toNat) (x) (y) ⟨rfl,rfl,trivial⟩ ⟨(e2.trans x39),by rw[hx,hy,←hg,Nat.gcd_comm b,←Nat.gcd_rec,Nat.gcd_comm]⟩ ?_
   rintro x' y' w10 ⟨e10,hxy⟩
   refine af (af (aa (ac E E (al (v:=bF 0) E E E (cQ) (ag (ab ?_))))))
   refine bz E (fun h54=>?_) (fun h54=>?_)
   ·have hy0:0<y'.toNat:=C1.1 h54
    have hyn:y'≠0:=fun h=>by
     rw[h] at hy0
     exact absurd hy0 (by decide)
    refine aC (ab (aE (bI 5 [11,58] (by kernel_rfl) (by kernel_rfl) ?_)))
    refine aA E E (aA E E (aA E E (bb E E E (fun w _=>jt hyn) (gE E E (cq ?_)))))
    intro wg11 xg11
    rintro _ rfl
    rintro _ rfl
    refine ae E E (ag (aS ?_))
    refine dG (y') (x'%y') ⟨rfl,rfl,trivial⟩ ⟨(e10.trans xg11),by rw[UInt64.toNat_mod,←hxy,Nat.gcd_comm y'.toNat,←Nat.gcd_rec,Nat.gcd_comm]⟩ (by rw[UInt64.toNat_mod];exact Nat.mod_lt _ hy0)
   ·have hy0:y'.toNat=0:=by
     have:=mt C1.2 h54
     have e:(0:UInt64).toNat=0:=rfl
     omega
    refine bc (aI (aI (be (ab (af (aa (ac E E (am Bs E E (Bu) ?_))))))))
    rintro v60 w60 ⟨x60,b60⟩
    refine ae E E (ag (ab (aw (az E E ?_))))
    exact⟨_,rfl,(e10.trans x60),by rw[←hxy,hy0,Nat.gcd_zero_right];exact b60⟩
end Go.Rl
namespace Go.Rl
open Go.RowKit
section
variable {P:Program} {ops:Array Oper} {Q:ja} {N:Nat} {D:List Deferred} {S:World→Prop} {fuel:Nat} {listed:Array Bool} {l:Fr} {w:World} {d:Nat} {op:Op} {ty:TypeId} {pos:String} {aft:Array Edge}
def pb (Q:ja):ja:=fun e a w=>e=.normal∧Q .normal a w
def dA (P:Program) (ops:Array Oper) (Q:ja) (N:Nat) (D:List Deferred) (S:World→Prop) (fuel:Nat) (listed:Array Bool) (l:Fr) (w:World):Prop:=∀a,At N D l a→wpAnyH P .any ops (pb Q) S fuel listed a w
def uS (P:Program) (ops:Array Oper) (Q:ja) (S:World→Prop) (fuel:Nat) (listed:Array Bool):ja:=fun e a w=>e=.normal∧S w∧wpAnyH P .any ops (pb Q) S fuel listed a w
theorem ig {id:Nat} {os:List Oper} (S:World→Prop) (n:Nat) (hn:os.toArray.size=n) (hm:P.follows .mixedOrders=true)
 (h:dA P os.toArray Q N D S n (Array.replicate n false) l w.drew):dQ P Q N D l w (.region id os.toArray true):=fun a ha=>by
 subst hn
 exact wp_mono (wp_region_held (Q:=pb Q) (S:=S) hm (h a ha)) fun e a w he=>by obtain⟨rfl,h⟩:=he;exact h
def nE (ops:Array Oper) (listed:Array Bool) (i:Nat):Bool:=Region.noSelect ops&&Region.free .any ops listed i&&(Region.ready .any ops listed).contains i
theorem yJ (i:Nat) {v:Value} (hi:ops[i]? =some ⟨some d,op,ty,pos,aft,none⟩) (hB:nE ops listed i=true) (hd:Nat.blt d N=true) (hS:S w)
 (hrun:∀ρ w',uJ l ρ→S w'→(execOp ρ ⟨some d,op,ty,pos,aft,none⟩).run P w'=.ok (.value v) w')
 (k:dA P ops Q N D S fuel (listed.setIfInBounds i true) ((d,v)::l) w):dA P ops Q N D S (fuel+1) listed l w:=fun a ha=>by
 simp only[nE,Bool.and_eq_true] at hB
 exact wpAnyH_take hi hB.1.1 hB.1.2 hB.2 (fun c a w h=>by obtain⟨h,_⟩:=h;cases h) (.inl ⟨rfl,fun w' hw'=>hrun a.eval w' (fun x v hx=>ha.ev hx) hw'⟩) hS (k _ (ha.put hd v))
theorem t6 (i:Nat) {xs:List Operand} {vs:List Value} {r:Value} {f:List Value→Sem Value} (hi:ops[i]? =some ⟨some d,op,ty,pos,aft,none⟩) (he:∀ρ,execOp ρ ⟨some d,op,ty,pos,aft,none⟩=(do pure (Next.value (←f (xs.map ρ))):Sem Next))
 (hp:ye l xs=some vs) (hB:nE ops listed i=true) (hd:Nat.blt d N=true) (hS:S w) (hrun:∀w',S w'→(f vs).run P w'=.ok r w')
 (k:dA P ops Q N D S fuel (listed.setIfInBounds i true) ((d,r)::l) w):dA P ops Q N D S (fuel+1) listed l w:=
 yJ i hi hB hd hS (fun ρ w' hρ hw'=>by rw[he,kY hρ hp,Sem.run_bind,hrun w' hw'];rfl) k
theorem KV {x:Operand} {v:Value} (h:ev l x=some v):ye l [x]=some [v]:=by simp[ye,h]
theorem L0 {x y:Operand} {u v:Value} (h:ev l x=some u) (h':ev l y=some v):ye l [x,y]=some [u,v]:=by simp[ye,h,h']
theorem fD (i:Nat) {x:Operand} {v:Value} (hi:ops[i]? =some ⟨some d,.move x,ty,pos,aft,none⟩) (hx:ev l x=some v) (hB:nE ops listed i=true) (hd:Nat.blt d N=true) (hS:S w)
 (k:dA P ops Q N D S fuel (listed.setIfInBounds i true) ((d,v)::l) w):dA P ops Q N D S (fuel+1) listed l w:=
 yJ i hi hB hd hS (fun ρ w' hρ _=>by simp[execOp,hρ x _ hx]) k
theorem gd (i:Nat) {t:TypeId} {x:Operand} {u r:Value} (hi:ops[i]? =some ⟨some d,.load t x,ty,pos,aft,none⟩) (hx:ev l x=some u) (hB:nE ops listed i=true) (hd:Nat.blt d N=true) (hS:S w) (hrun:∀w',S w'→(Instr.loadAt t u).run P w'=.ok r w')
 (k:dA P ops Q N D S fuel (listed.setIfInBounds i true) ((d,r)::l) w):dA P ops Q N D S (fuel+1) listed l w:=
 t6 i (xs:=[x]) (f:=fun|[a]=>Instr.loadAt t a|_=>stuck "") hi (fun _=>rfl) (KV hx) hB hd hS hrun k
theorem fy (i:Nat) {s:TypeId} {n:Nat} {x:Operand} {u r:Value} (hi:ops[i]? =some ⟨some d,.fieldAddr s x n,ty,pos,aft,none⟩) (hx:ev l x=some u) (hB:nE ops listed i=true) (hd:Nat.blt d N=true) (hS:S w) (hrun:∀w',S w'→(Instr.fieldAt s u n).run P w'=.ok r w')
 (k:dA P ops Q N D S fuel (listed.setIfInBounds i true) ((d,r)::l) w):dA P ops Q N D S (fuel+1) listed l w:=
 t6 i (xs:=[x]) (f:=fun|[a]=>Instr.fieldAt s a n|_=>stuck "") hi (fun _=>rfl) (KV hx) hB hd hS hrun k
theorem KW (i:Nat) {s t:TypeId} {x:Operand} {u r:Value} (hi:ops[i]? =some ⟨some d,.convert s t x,ty,pos,aft,none⟩) (hx:ev l x=some u) (hB:nE ops listed i=true) (hd:Nat.blt d N=true) (hS:S w) (hrun:∀w',S w'→(convert s t u).run P w'=.ok r w')
 (k:dA P ops Q N D S fuel (listed.setIfInBounds i true) ((d,r)::l) w):dA P ops Q N D S (fuel+1) listed l w:=
 t6 i (xs:=[x]) (f:=fun|[a]=>convert s t a|_=>stuck "") hi (fun _=>rfl) (KV hx) hB hd hS hrun k
theorem Ku (i:Nat) {b:BinOp} {t t2:TypeId} {x y:Operand} {u v r:Value} (hi:ops[i]? =some ⟨some d,.binOp b t x y t2,ty,pos,aft,none⟩) (hx:ev l x=some u) (hy:ev l y=some v) (hB:nE ops listed i=true) (hd:Nat.blt d N=true) (hS:S w) (hrun:∀w',S w'→(bin b t x y u v).run P w'=.ok r w')
 (k:dA P ops Q N D S fuel (listed.setIfInBounds i true) ((d,r)::l) w):dA P ops Q N D S (fuel+1) listed l w:=
 t6 i (xs:=[x,y]) (f:=fun|[a,c]=>bin b t x y a c|_=>stuck "") hi (fun _=>rfl) (L0 hx hy) hB hd hS hrun k
theorem uT (i:Nat) {t:TypeId} {x y:Operand} {u v r:Value} (hi:ops[i]? =some ⟨some d,.indexAddr t x y,ty,pos,aft,none⟩) (hx:ev l x=some u) (hy:ev l y=some v) (hB:nE ops listed i=true) (hd:Nat.blt d N=true) (hS:S w) (hrun:∀w',S w'→(Instr.indexAt t u v).run P w'=.ok r w')
 (k:dA P ops Q N D S fuel (listed.setIfInBounds i true) ((d,r)::l) w):dA P ops Q N D S (fuel+1) listed l w:=
 t6 i (xs:=[x,y]) (f:=fun|[a,c]=>Instr.indexAt t a c|_=>stuck "") hi (fun _=>rfl) (L0 hx hy) hB hd hS hrun k
theorem Kv (i:Nat) {xs:List Operand} {ts:Array TypeId} {vs:List Value} {r:Value} (hi:ops[i]? =some ⟨some d,.call {callee:=.builtin .len,args:=xs.toArray,argTypes:=ts},ty,pos,aft,none⟩) (hp:ye l xs=some vs) (hB:nE ops listed i=true) (hd:Nat.blt d N=true) (hS:S w) (hrun:∀w',S w'→(Builtin.len_ ts ty vs.toArray).run P w'=.ok r w')
 (k:dA P ops Q N D S fuel (listed.setIfInBounds i true) ((d,r)::l) w):dA P ops Q N D S (fuel+1) listed l w:=
 t6 i (xs:=xs) (f:=fun vs=>Builtin.len_ ts ty vs.toArray) hi (fun ρ=>by simp only[execOp,resolve,invoke,builtin,pure_bind,List.map_toArray]) hp hB hd hS hrun k
theorem g0 {o:Oper} {i:Nat} {listed':Array Bool} {a:Act} (hi:ops[i]? =some o) (h:wpList P ops (uS P ops Q S fuel listed') [o] a w):
 wpOp P ops (pb Q) i (fun a' w'=>S w'∧wpAnyH P .any ops (pb Q) S fuel listed' a' w') a w:=by
 unfold wpOp
 simp only[hi]
 unfold wpList at h
 split
 ·rename_i hw
  rw[if_pos hw] at h
  rcases h with h|⟨_,_,_,h,_⟩
  ·refine .inl ?_
   unfold Oper.wp at*
   generalize (execOp a.eval o).run P w=r at*
   cases r with
   |ok n w'=>
    cases n<;>simp only[Oper.upon] at h⊢
    case value u=>exact h.2
    case skip=>exact h.2
    case defer dd=>exact h.2
    case enter f args=>
     refine Calls.mono h fun e w'' he=>?_
     cases e with
     |returned u=>exact he.2
     |panicked c=>obtain⟨he,_⟩:=he;cases he
     |outgrown=>obtain⟨_,_,he,_⟩:=he;cases he
    case row row args=>exact Rows.mono h fun u w'' he=>he.2
   |halt x w'=>
    cases x<;>simp only[Oper.upon] at h⊢
    case panic u=>obtain⟨he,_⟩:=h;cases he
  ·cases h
 ·rename_i hw
  rw[if_neg hw] at h
  exact h.2
theorem aQ (i:Nat) {o:Oper} (hr:Region.ready .any ops listed=[i]) (hi:ops[i]? =some o) (h:cI P ops (uS P ops Q S fuel (listed.setIfInBounds i true)) N D l w [o]):dA P ops Q N D S (fuel+1) listed l w:=fun a ha=>
 wpAnyH_all hr (by simp) fun j hj=>by
  obtain rfl:j=i:=by simpa using hj
  exact g0 hi (h a ha)
theorem lr (i j:Nat) {o u:Oper} (hr:Region.ready .any ops listed=[i,j]) (hi:ops[i]? =some o) (hj:ops[j]? =some u) (h:cI P ops (uS P ops Q S fuel (listed.setIfInBounds i true)) N D l w [o])
 (h':cI P ops (uS P ops Q S fuel (listed.setIfInBounds j true)) N D l w [u]):dA P ops Q N D S (fuel+1) listed l w:=fun a ha=>
 wpAnyH_all hr (by simp) fun k hk=>by
  rcases(by simpa using hk:k=i∨k=j) with rfl|rfl
  ·exact g0 hi (h a ha)
  ·exact g0 hj (h' a ha)
theorem aH (hS:S w) (k:dA P ops Q N D S fuel listed l w):cI P ops (uS P ops Q S fuel listed) N D l w []:=fun a ha=>⟨rfl,hS,k a ha⟩
theorem nG {α:Type} (fr:α→Fr) (H:α→World→Prop) (listed':Array Bool) (fuel':Nat) (k:∀x w',H x w'→dA P ops Q N D S fuel' listed' (fr x) w')
 (h:(∀l' w',(∃x,CH (fr x) l'∧H x w')→dA P ops Q N D S fuel' listed' l' w')→dA P ops Q N D S fuel listed l w):dA P ops Q N D S fuel listed l w:=
 h fun _ w' ⟨x,hs,hH⟩ a ha=>k x w' hH a (ha.weak hs)
theorem BG {listed':Array Bool} (he:listed=listed') (h:dA P ops Q N D S fuel listed' l w):dA P ops Q N D S fuel listed l w:=he▸h
theorem ii (hr:Region.ready .any ops listed=[]) (h:iR Q N D l w):dA P ops Q N D S fuel listed l w:=fun a ha=>wpAnyH_done hr ⟨rfl,h a ha⟩ _
end
end Go.Rl
namespace Go.Rl
open Go.RowKit Go.Proofs
theorem pc:aG Tryz.prog 103:=⟨_,Tryz.func103,by kernel_rfl,rfl⟩
theorem j5:aG Tryz.prog 81:=⟨_,Tryz.func81,by kernel_rfl,rfl⟩
theorem aK.at {w w':World} (hx:aK w w') {g:Nat} {o:Obj} (h:w.heap[g]? =some o):w'.heap[g]? =some o:=by
 rw[hx.block g (by obtain⟨h,_⟩:=Array.getElem?_eq_some_iff.1 h;exact h)]
 exact h
theorem c6.low {base base':Nat} {l:List UInt8} {v:Value} {w:World} (h:c6 base l v w) (hb:base'≤base):c6 base' l v w:=by
 have hge:=h.ge
 obtain⟨n,h⟩:=h
 exact⟨n,kt h fun k hk=>Nat.le_trans hb (hge k hk)⟩
theorem c6.grown {base:Nat} {l:List UInt8} {u v r:Value} {w w':World} (h:c6 base l u w) (hg:jc w w' v r) (hne:u.ownBlock=none∨u.ownBlock≠v.ownBlock):c6 base l u w':=by
 obtain⟨n,h⟩:=h
 exact⟨n,World.ownsRow.kept h hg.grown hne⟩
theorem c6.lt {base:Nat} {l:List UInt8} {v:Value} {w:World} (h:c6 base l v w):∀k,v.ownBlock=some k→k<w.heap.size:=by
 obtain⟨n,h⟩:=h
 exact fun k hk=>(World.ownsRow.lt h k hk).2
def dm (b:Bool) (n m:List UInt32):dP:=fun v w=>∃x y,v=.agg #[B b,x,y]∧bm n x w∧bm m y w
theorem dm.ext {b:Bool} {n m:List UInt32} {v:Value} {w w':World} (h:dm b n m v w) (hx:aK w w'):dm b n m v w':=by
 obtain⟨x,y,rfl,h1,h2⟩:=h
 exact⟨x,y,rfl,h1.ext hx,h2.ext hx⟩
def z9 (b:Bool):UInt8:=if b then 1 else 0
def oH (b:Bool) (n m:List UInt32):List UInt8:=[z9 b]++jy n++jy m
theorem wF:(Tryz.prog.info? 4).map (·.size)=some 1:=by kernel_rfl
theorem gp:(Tryz.prog.info? 44).map (·.size)=some 1:=by kernel_rfl
theorem dk:(Tryz.prog.info? 46).map (·.size)=some 3:=by kernel_rfl
section
variable {w:World} {l:List UInt8} {ns:List UInt32} {v nv:Value}
theorem oz (hv:cJ l v w) (hn:bm ns nv w) (hl:l.length+4*ns.length≤35184372088832):
 Calls Tryz.prog 119 #[v,nv] w (bE fun r w'=>aK w w'∧c6 w.heap.size (l++jy ns) r w'):=by
 refine enter (vs:=[v,nv]) Tryz.func119 E E E ?_
 refine af (aa (ae E E (ag (ab (af (aa (ac E E (ac E E ?_))))))))
 refine aO E E (bC Ms hn) ?_
 refine a9 E E (fv Mx MA) ?_
 refine am dW E E (dX hv (by omega)) ?_
 rintro b1 w1 ⟨hx1,hb1⟩
 have hns:=hn.len
 have hlen:(UInt64.ofNat ns.length).toNat=ns.length:=by rw[UInt64.toNat_ofNat'];omega
 rw[hlen] at hb1
 have huv:=f8 (n:=ns.length) (by omega)
 refine ae E E (ag (ab (af (af (aa (ae E E (ag (ab (aE ?_)))))))))
 refine cf (α:=Nat×Value) (fun x=>[(1,nv),(5,x.2),(6,I (x.1:Int))])
  (fun x w'=>c6 w.heap.size (l++uv ns.length++iy (ns.take x.1)) x.2 w'∧aK w w'∧x.1≤ns.length) (fun x=>ns.length-x.1) (0,b1) ⟨rfl,rfl,rfl,trivial⟩
  ⟨by simpa [iy] using hb1,hx1,by simp⟩ ?_
 rintro⟨k,b⟩ w2 ⟨hb,hx2,hk⟩
 dsimp only at hb hx2 hk
 have hdl:(l++uv ns.length++iy (ns.take k)).length≤35184372088832+10:=by
  simp only[List.length_append,eU,List.length_take];omega
 refine af (af (aa (ac E E (ac E E ?_))))
 refine aO E E (bC Ms (hn.ext hx2)) ?_
 refine al E E E (aV) ?_
 refine ag (ab ?_)
 refine bz E (fun h=>?_) (fun h=>?_)
 ·have hlt:k<ns.length:=by omega
  refine aC (ab (af (aE ?_)))
  obtain⟨ad,had,hcell⟩:=db Ms (hn.ext hx2) hlt .i64
  have hld:∀w',aK w2 w'→(Instr.loadAt 149 (.pointer (some ad))).run Tryz.prog w'=.ok (bH ns[k]) w':=fun w' hw'=>by
   obtain⟨ad',had',hcell'⟩:=db Ms (hn.ext (hx2.trans hw')) hlt .i64
   have:=(had w').symm.trans (had' w')
   simp only[Result.ok.injEq,Value.pointer.injEq,Option.some.injEq,and_true] at this
   subst this
   exact Kl hcell'
  refine bI 25 [1,6,18,42] (by kernel_rfl) (by kernel_rfl) ?_
  refine aA E E (aA E E (aA E E ?_))
  refine aF E E E (fun w _=>had w) ?_
  refine aP E E hld ?_
  refine dK E E (fun w _=>eo Mu MC) ?_
  refine aA E E (aA E E ?_)
  refine aF E E E (fun w _=>had w) ?_
  refine aP E E hld ?_
  refine bb E E E (fun w _=>da 8 (by omega)) ?_
  refine dK E E (fun w _=>eo Mu MC) ?_
  refine aA E E (aA E E ?_)
  refine aF E E E (fun w _=>had w) ?_
  refine aP E E hld ?_
  refine bb E E E (fun w _=>da 16 (by omega)) ?_
  refine dK E E (fun w _=>eo Mu MC) ?_
  refine aA E E (aA E E ?_)
  refine aF E E E (fun w _=>had w) ?_
  refine aP E E hld ?_
  refine bb E E E (fun w _=>da 24 (by omega)) ?_
  refine dK E E (fun w _=>eo Mu MC) ?_
  refine f4 (S:=cJ (CI ns[k])) (cJ.stable _) E (fun w' _=>by
   rintro _ rfl _ rfl _ rfl _ rfl
   obtain⟨r3,w3,hr3,hx3,ho3,_⟩:=eh (w:=w') w'.heap.size (CI ns[k]) (by simp[CI]) (Nat.le_refl _)
   exact⟨r3,w3,hr3,hx3,ho3.bts⟩) ?_
  refine cq ?_
  intro w3 hx3
  rintro _ rfl _ rfl _ rfl r3 hr3
  obtain⟨r4,w4,hr4,ho4,hg4⟩:=dn (ty:=22) (hb.ext hx3) hr3 (by simp only[CI,List.length_cons,List.length_nil];omega) (Nat.le_trans hx2.size hx3.size)
  refine ba E E hr4 ?_
  refine ae E E (ag (aS (ab (aa (ac E E ?_)))))
  refine al E E E (aN (by omega) (by omega)) ?_
  refine ae E E (ag ?_)
  refine bR (k+1,r4) ⟨rfl,rfl,rfl,trivial⟩ ⟨?_,(hx2.trans hx3).of_grew hg4 hb.ge,hlt⟩ (by show ns.length-(k+1)<ns.length-k;omega)
  show c6 _ (l++uv ns.length++iy (ns.take (k+1))) r4 w4
  rw[yv ns k hlt,←List.append_assoc]
  exact ho4
 ·have hk':k=ns.length:=by omega
  refine bc (aI (aI (be (ab (af (aa (ac E E (ae E E (ag (ab (aw ?_)))))))))))
  refine az E E ?_
  rw[hk',List.take_length,List.append_assoc] at hb
  exact⟨_,rfl,hx2,hb⟩
theorem pe {b:Bool} {n m:List UInt32} {rv:Value} (hv:cJ l v w) (hr:dm b n m rv w) (hl:l.length+4*n.length+4*m.length≤8796093022208):
 Calls Tryz.prog 103 #[v,rv] w (bE fun r w'=>aK w w'∧c6 w.heap.size (l++oH b n m) r w'):=by
 obtain⟨x,y,rfl,hx,hy⟩:=hr
 have hn:=Bj n (by have:=hx.len;omega)
 refine enter (vs:=[v,.agg #[B b,x,y]]) Tryz.func103 E E E ?_
 refine af (aa (cM E E vS ?_))
 have e1:aK w (w.alloc (.cells (Value.agg #[B b,x,y]).cells 46)):=aK.new w _
 have hbx:=heap_alloc_new w (.cells (Value.agg #[B b,x,y]).cells 46)
 revert e1 hbx
 generalize w.alloc (.cells (Value.agg #[B b,x,y]).cells 46)=w1
 intro e1 hbx
 have cell:∀(i:Nat) (u:Value),(#[B b,x,y]:Array Value)[i]? =some u→∀w',aK w1 w'→w'.cell? ⟨w.heap.size,i,none⟩=some u:=fun i u hu w' hw'=>ju (hw'.at hbx) hu
 refine ae E E (ag (ab (af (aa (ae E E (ag (ab ?_)))))))
 refine af (fg (fun _:Unit=>[(0,v),(3,.pointer (some ⟨w.heap.size,0,none⟩)),(5,U8 (z9 b))]) (fun _ w'=>w'=w1) ?_ ?_)
 ·refine af (aa ?_)
  refine ah E E (cA Mw E wF (by omega)) ?_
  refine ak E E (aj MD E (cell 0 _ E _ (aK.refl _))) ?_
  refine ag (ab ?_)
  cases b with
  |true=>exact bg rfl (aa (ae rfl rfl (ag (cu () ⟨rfl,rfl,rfl,trivial⟩ rfl))))
  |false=>exact cr rfl (aC (cu () ⟨rfl,rfl,rfl,trivial⟩ rfl))
 rintro _ w2 rfl
 refine ab (af ?_)
 refine ig (aK w2) 12 E (by kernel_rfl) ?_
 have hd:aK w2 w2.drew:=(aK.refl w2).drew
 refine fD 0 E E (by kernel_rfl) E hd ?_
 refine fD 2 E E (by kernel_rfl) E hd ?_
 refine fy 5 E E (by kernel_rfl) E hd (fun w' _=>cA Mw E gp (by omega)) ?_
 refine gd 6 E E (by kernel_rfl) E hd (fun w' hw'=>aj Ms E (cell 1 _ E _ hw')) ?_
 refine fy 8 E E (by kernel_rfl) E hd (fun w' _=>cA Mw E gp (by omega)) ?_
 refine gd 9 E E (by kernel_rfl) E hd (fun w' hw'=>aj Ms E (cell 2 _ E _ hw')) ?_
 refine nG (fun p:Value×Value=>[(9,p.1),(11,p.2),(14,x),(17,y)]) (fun p w'=>aK w2 w'∧c6 w2.heap.size l p.1 w'∧cJ [z9 b] p.2 w') #[true,true,true,true,false,true,true,false,true,true,false,false] 4 ?_ (fun join=>lr 1 3 (by kernel_rfl) E E ?_ ?_)
 ·rintro⟨r9,r11⟩ w3 ⟨hx3,ho9,ho11⟩
  dsimp only at ho9 ho11
  refine aQ 4 (by kernel_rfl) E ?_
  obtain⟨r4,w4,hr4,ho4,hg4⟩:=dn (ty:=22) ho9 ho11 (by simp only[List.length_cons,List.length_nil];omega) hx3.size
  have hx4:=hx3.of_grew hg4 ho9.ge
  refine ba E E hr4 (aH hx4 ?_)
  refine aQ 7 (by kernel_rfl) E ?_
  refine am Bi E E (Bk hx4 ho4 (hx.ext e1) (by simp only[List.length_append,List.length_cons,List.length_nil];omega)) ?_
  rintro r5 w5 ⟨ho5,hx5,_⟩
  refine aH hx5 (aQ 10 (by kernel_rfl) E ?_)
  refine am Bi E E (Bk hx5 ho5 (hy.ext e1) (by simp only[List.length_append,List.length_cons,List.length_nil];omega)) ?_
  rintro r6 w6 ⟨ho6,hx6,_⟩
  refine aH hx6 (aQ 11 (by kernel_rfl) E ?_)
  refine ae E E (aH hx6 (ii (by kernel_rfl) (ab (aw ?_))))
  refine az E E ?_
  refine⟨_,rfl,e1.trans hx6,?_⟩
  have:=ho6.low e1.size
  simpa only[oH,List.append_assoc] using this
 ·refine am ll E E (ln ((hv.ext e1).ext hd) (by omega)) ?_
  rintro r9 w3 ⟨hx3,ho9⟩
  obtain⟨r11,w4,hr11,hx4,ho11,_⟩:=eh (w:=w3) w3.heap.size [z9 b] (by simp) (Nat.le_refl _)
  refine aH (hd.trans hx3) (aQ 3 (by kernel_rfl) E ?_)
  refine aJ (vs:=[(0,U8 (z9 b))]) E E hr11 (aH ((hd.trans hx3).trans hx4) (BG (by kernel_rfl) (join _ _ ⟨(r9,r11),⟨rfl,rfl,rfl,rfl,trivial⟩,(hd.trans hx3).trans hx4,?_,ho11.bts⟩)))
  exact(ho9.ext hx4).low hd.size
 ·obtain⟨r11,w3,hr11,hx3,ho11,_⟩:=eh (w:=w2.drew) w2.heap.size [z9 b] (by simp) hd.size
  refine aJ (vs:=[(0,U8 (z9 b))]) E E hr11 (aH (hd.trans hx3) (aQ 1 (by kernel_rfl) E ?_))
  refine am ll E E (ln (((hv.ext e1).ext hd).ext hx3) (by omega)) ?_
  rintro r9 w4 ⟨hx4,ho9⟩
  refine aH ((hd.trans hx3).trans hx4) (BG (by kernel_rfl) (join _ _ ⟨(r9,r11),⟨rfl,rfl,rfl,rfl,trivial⟩,(hd.trans hx3).trans hx4,?_,ho11.bts.ext hx4⟩))
  exact ho9.low (hd.trans hx3).size
theorem j6 {b:Bool} {n m:List UInt32} {rv:Value} (hv:cJ l v w) (hr:dm b n m rv w) (hl:l.length+4*n.length+4*m.length≤8796093022208):
 Calls Tryz.prog 81 #[v,rv] w (bE fun r w'=>aK w w'∧c6 w.heap.size (l++oH b n m) r w'):=by
 obtain⟨x,y,rfl,hx,hy⟩:=hr
 have hn:=Bj n (by have:=hx.len;omega)
 refine enter (vs:=[v,.agg #[B b,x,y]]) Tryz.func81 E E E ?_
 refine af (aa (cM E E vS ?_))
 have e1:aK w (w.alloc (.cells (Value.agg #[B b,x,y]).cells 46)):=aK.new w _
 have hbx:=heap_alloc_new w (.cells (Value.agg #[B b,x,y]).cells 46)
 revert e1 hbx
 generalize w.alloc (.cells (Value.agg #[B b,x,y]).cells 46)=w1
 intro e1 hbx
 have cell:∀(i:Nat) (u:Value),(#[B b,x,y]:Array Value)[i]? =some u→∀w',aK w1 w'→w'.cell? ⟨w.heap.size,i,none⟩=some u:=fun i u hu w' hw'=>ju (hw'.at hbx) hu
 refine ae E E (ag (ab (af (aa (ae E E (ag (ab ?_)))))))
 refine af (fg (fun _:Unit=>[(0,v),(3,.pointer (some ⟨w.heap.size,0,none⟩)),(5,U8 (z9 b))]) (fun _ w'=>w'=w1) ?_ ?_)
 ·refine af (aa ?_)
  refine ah E E (cA Mw E wF (by omega)) ?_
  refine ak E E (aj MD E (cell 0 _ E _ (aK.refl _))) ?_
  refine ag (ab ?_)
  cases b with
  |true=>exact bg rfl (aa (ae rfl rfl (ag (cu () ⟨rfl,rfl,rfl,trivial⟩ rfl))))
  |false=>exact cr rfl (aC (cu () ⟨rfl,rfl,rfl,trivial⟩ rfl))
 rintro _ w2 rfl
 refine ab (af ?_)
 refine ig (aK w2) 13 E (by kernel_rfl) ?_
 have hd:aK w2 w2.drew:=(aK.refl w2).drew
 refine fD 1 E E (by kernel_rfl) E hd ?_
 refine fD 3 E E (by kernel_rfl) E hd ?_
 refine fy 6 E E (by kernel_rfl) E hd (fun w' _=>cA Mw E gp (by omega)) ?_
 refine gd 7 E E (by kernel_rfl) E hd (fun w' hw'=>aj Ms E (cell 1 _ E _ hw')) ?_
 refine fy 9 E E (by kernel_rfl) E hd (fun w' _=>cA Mw E gp (by omega)) ?_
 refine gd 10 E E (by kernel_rfl) E hd (fun w' hw'=>aj Ms E (cell 2 _ E _ hw')) ?_
 have hv2:cJ l v w2:=hv.ext e1
 refine nG (fun p:Value×Value=>[(10,p.1),(12,p.2),(15,x),(18,y)]) (fun p w'=>aK w2 w'∧c6 w2.heap.size l p.1 w'∧cJ [z9 b] p.2 w') #[true,true,true,true,true,false,true,true,false,true,true,false,false] 4 ?_ (fun join=>lr 0 4 (by kernel_rfl) E E ?_ ?_)
 ·rintro⟨r9,r11⟩ w3 ⟨hx3,ho9,ho11⟩
  dsimp only at ho9 ho11
  refine aQ 5 (by kernel_rfl) E ?_
  obtain⟨r4,w4,hr4,ho4,hg4⟩:=dn (ty:=22) ho9 ho11 (by simp only[List.length_cons,List.length_nil];omega) hx3.size
  have hx4:=hx3.of_grew hg4 ho9.ge
  refine ba E E hr4 (aH hx4 ?_)
  refine aQ 8 (by kernel_rfl) E ?_
  refine am ow E E (oz ho4.bts ((hx.ext e1).ext hx4) (by simp only[List.length_append,List.length_cons,List.length_nil];omega)) ?_
  rintro r5 w5 ⟨hx5,ho5⟩
  refine aH (hx4.trans hx5) (aQ 11 (by kernel_rfl) E ?_)
  refine am ow E E (oz ho5.bts ((hy.ext e1).ext (hx4.trans hx5)) (by simp only[List.length_append,List.length_cons,List.length_nil];omega)) ?_
  rintro r6 w6 ⟨hx6,ho6⟩
  have q6:=(hx4.trans hx5).trans hx6
  refine aH q6 (aQ 12 (by kernel_rfl) E ?_)
  refine ae E E (aH q6 (ii (by kernel_rfl) (ab (aw ?_))))
  refine az E E ?_
  refine⟨_,rfl,e1.trans q6,?_⟩
  have:=ho6.low (e1.trans (hx4.trans hx5)).size
  simpa only[oH,List.append_assoc] using this
 ·obtain⟨r8,w3,hr8,hx3,ho8,_⟩:=eh (w:=w2.drew) w2.heap.size [] (by simp) hd.size
  refine aJ (vs:=[]) E E hr8 (aH (hd.trans hx3) (lr 2 4 (by kernel_rfl) E E ?_ ?_))
  ·obtain⟨r4,w4,hr4,ho4,hg4⟩:=dn (ty:=22) ho8 ((hv2.ext hd).ext hx3) (by simp only[List.length_nil];omega) (hd.trans hx3).size
   have hx4:=(hd.trans hx3).of_grew hg4 ho8.ge
   refine ba E E hr4 (aH hx4 (aQ 4 (by kernel_rfl) E ?_))
   obtain⟨r11,w5,hr11,hx5,ho11,_⟩:=eh (w:=w4) w4.heap.size [z9 b] (by simp) (Nat.le_refl _)
   refine aJ (vs:=[(0,U8 (z9 b))]) E E hr11 (aH (hx4.trans hx5) (BG (by kernel_rfl) (join _ _ ⟨(r4,r11),⟨rfl,rfl,rfl,rfl,trivial⟩,hx4.trans hx5,?_,ho11.bts⟩)))
   exact ho4.ext hx5
  ·obtain⟨r11,w4,hr11,hx4,ho11,hb11⟩:=eh (w:=w3) w3.heap.size [z9 b] (by simp) (Nat.le_refl _)
   have hx04:=(hd.trans hx3).trans hx4
   refine aJ (vs:=[(0,U8 (z9 b))]) E E hr11 (aH hx04 (aQ 2 (by kernel_rfl) E ?_))
   obtain⟨r4,w5,hr4,ho4,hg4⟩:=dn (ty:=22) (ho8.ext hx4) (hv2.ext hx04) (by simp only[List.length_nil];omega) hx04.size
   have hx5:=hx04.of_grew hg4 ho8.ge
   have hb5:=ho11.grown hg4 (.inr (by rw[hb11];intro he;have:=ho8.lt _ he.symm;omega))
   exact ba rfl rfl hr4 (aH hx5 (BG (by kernel_rfl) (join _ _ ⟨(r4,r11),⟨rfl,rfl,rfl,rfl,trivial⟩,hx5,ho4,hb5.bts⟩)))
 ·obtain⟨r11,w3,hr11,hx3,ho11,hb11⟩:=eh (w:=w2.drew) w2.drew.heap.size [z9 b] (by simp) (Nat.le_refl _)
  have hx03:=hd.trans hx3
  refine aJ (vs:=[(0,U8 (z9 b))]) E E hr11 (aH hx03 (aQ 0 (by kernel_rfl) E ?_))
  obtain⟨r8,w4,hr8,hx4,ho8,hb8⟩:=eh (w:=w3) w2.heap.size [] (by simp) hx03.size
  have hx04:=hx03.trans hx4
  refine aJ (vs:=[]) E E hr8 (aH hx04 (aQ 2 (by kernel_rfl) E ?_))
  obtain⟨r4,w5,hr4,ho4,hg4⟩:=dn (ty:=22) ho8 (hv2.ext hx04) (by simp only[List.length_nil];omega) hx04.size
  have hx5:=hx04.of_grew hg4 ho8.ge
  have hb5:=(ho11.ext hx4).grown hg4 (.inr (by rw[hb8];intro he;have:=ho11.lt _ he;omega))
  exact ba rfl rfl hr4 (aH hx5 (BG (by kernel_rfl) (join _ _ ⟨(r4,r11),⟨rfl,rfl,rfl,rfl,trivial⟩,hx5,ho4,hb5.bts⟩)))
end
end Go.Rl
namespace Go.Rl
open Go.RowKit Go.Proofs
section
variable {P:Program} {w w':World}
theorem ar {s:TypeId} {fs:Array Field} {f:Field} {n g o:Nat} (hs:P.underlying s=some (.struct fs)) (hf:fs[n]? =some f) (hk:(P.cellsOf f.type==0)=false) (ho:f.offset=o):
 (Instr.fieldAt s (.pointer (some ⟨g,0,none⟩)) n).run P w=.ok (.pointer (some ⟨g,o,none⟩)) w:=by
 have hk':P.cellsOf f.type≠0:=by simpa using hk
 obtain⟨k,hk1⟩:∃k,(P.info? f.type).map (·.size)=some k:=by
  cases hi:(P.info? f.type).map (·.size) with
  |none=>exact absurd (by simp[Program.cellsOf,hi]) hk'
  |some k=>exact⟨k,rfl⟩
 have hk0:k≠0:=by
  intro h
  apply hk'
  simp[Program.cellsOf,hk1,h]
 rw[cA hs hf hk1 hk0,ho,rj,Nat.zero_add]
end
section
variable {w w':World}
theorem dm.stable (b:Bool) (n m:List UInt32):cb (dm b n m):=fun _ _ _ h hx=>h.ext hx
theorem dm.mk {b:Bool} {n m:List UInt32} {x y:Value} (hx:bm n x w) (hy:bm m y w):dm b n m (.agg #[B b,x,y]) w:=⟨x,y,rfl,hx,hy⟩
theorem ct.ldR {g:Nat} {T:TypeId} {a b c:Value} (h:ct g T [a,b,c] w):(Instr.loadAt 46 (.pointer (some ⟨g,0,none⟩))).run Tryz.prog w=.ok (.agg #[a,b,c]) w:=
 oX h (fun j v hj=>by simpa using hj) Tryz.underlying46 rfl dk
theorem rC {b:Bool} {n m:List UInt32} {v:Value} (h:dm b n m v w):
 ∃g x y w',(Instr.box 46 v).run Tryz.prog w=.ok (.pointer (some ⟨g,0,none⟩)) w'∧aK w w'∧ct g 46 [B b,x,y] w'∧bm n x w'∧bm m y w':=by
 obtain⟨x,y,rfl,hx,hy⟩:=h
 exact⟨_,x,y,_,vS,aK.new w _,ct.new (T:=46) (.agg #[B b,x,y]) rfl,hx.ext (aK.new w _),hy.ext (aK.new w _)⟩
theorem Hy:(Tryz.prog.info? 46).map (·.zero)=some (some (.agg #[B false,.slice none 0 0,.slice none 0 0])):=by kernel_rfl
theorem gI:∃g w',(Instr.alloc 46 true (.tuple #[])).run Tryz.prog w=.ok (.pointer (some ⟨g,0,none⟩)) w'∧w.heap.size≤g∧aK w w'∧ct g 46 [B false,.slice none 0 0,.slice none 0 0] w':=
 aX Hy rfl
theorem wG (b:Bool) (A C:Option Addr) (n c m d:Nat) (l:List UInt32):∀(j:Nat) (u:Value),u∈l.map bH→(#[.bool b,.slice A n c,.slice C m d]:Array Value)[j]? ≠some u:=by
 intro j u hu
 obtain⟨x,_,rfl⟩:=List.mem_map.1 hu
 match j with
 |0=>simp[bH]
 |1=>simp[bH]
 |2=>simp[bH]
 |j+3=>simp
theorem bm.byR {l:List UInt32} {v:Value} {g:Nat} {T:TypeId} {b:Bool} {x y:Value} (h:bm l v w) (hb:ct g T [B b,x,y] w) (hx:∃A n c,x=.slice A n c) (hy:∃A n c,y=.slice A n c) (hw:w.grownBy w' (some g)):bm l v w':=by
 obtain⟨A,n,c,rfl⟩:=hx
 obtain⟨C,m,d,rfl⟩:=hy
 exact Sl.keep h hb (wG b A C n c m d l) hw
theorem bm.isS {l:List UInt32} {v:Value} (h:bm l v w):∃A n c,v=.slice A n c:=by
 obtain⟨A,n,c,rfl,_⟩:=h
 exact⟨A,n,c,rfl⟩
theorem ct.stR {g:Nat} {b c:Bool} {x y v:Value} {n m:List UInt32} (h:ct g 46 [B b,x,y] w) (hx:∃A n c,x=.slice A n c) (hy:∃A n c,y=.slice A n c) (hv:dm c n m v w):
 ∃p q w',v=.agg #[B c,p,q]∧(Instr.storeAt 46 (.pointer (some ⟨g,0,none⟩)) v).run Tryz.prog w=.ok () w'∧w.grownBy w' (some g)∧ct g 46 [B c,p,q] w'∧bm n p w'∧bm m q w':=by
 obtain⟨p,q,rfl,hp,hq⟩:=hv
 obtain⟨A,n1,c1,rfl⟩:=hp.isS
 obtain⟨C,n2,c2,rfl⟩:=hq.isS
 refine⟨_,_,_,rfl,j9 (m:=[B c,.slice A n1 c1,.slice C n2 c2]) h E dk ?_,bK w g _,h.row _,hp.byR h hx hy (bK w g _),hq.byR h hx hy (bK w g _)⟩
 intro u hu
 simp only[List.mem_cons,List.not_mem_nil,or_false] at hu
 rcases hu with rfl|rfl|rfl<;>rfl
theorem vC {P:Program} {x y:Operand} {t:TypeId} (ht:P.underlying t=some .bool) {a b:Bool}:(bin .eql t x y (B a) (B b)).run P w=.ok (B (decide (a=b))) w:=by
 have h:(Op.equal t (B a) (B b)).run P w=.ok (decide (a=b)) w:=by
  show(Op.equalIn (9999+1) t (.bool a) (.bool b)).run P w=_
  unfold Op.equalIn
  cases a<;>cases b<;>simp[run_underlying ht]
 show(do pure (Value.bool (←Op.equal t (B a) (B b))):Sem Value).run P w=_
 rw[Sem.run_bind,h];rfl
theorem mK {c:Bool} {p q:Value} (hp:∃A n c,p=.slice A n c) (hq:∃A n c,q=.slice A n c):(Instr.build 46 #[(0,B c),(1,p),(2,q)]).run Tryz.prog w=.ok (.agg #[B c,p,q]) w:=by
 obtain⟨A,n,d,rfl⟩:=hp
 obtain⟨C,m,e,rfl⟩:=hq
 exact run_build _ _ _ #[B c,.slice A n d,.slice C m e] (by kernel_rfl)
theorem FV {c:Bool} {p:Value} (hp:∃A n c,p=.slice A n c):(Instr.build 46 #[(0,B c),(1,p)]).run Tryz.prog w=.ok (.agg #[B c,p,.slice none 0 0]) w:=by
 obtain⟨A,n,d,rfl⟩:=hp
 exact run_build _ _ _ #[B c,.slice A n d,.slice none 0 0] (by kernel_rfl)
theorem ff:(Instr.build 46 #[]).run Tryz.prog w=.ok (.agg #[B false,.slice none 0 0,.slice none 0 0]) w:=
 run_build _ _ _ #[B false,.slice none 0 0,.slice none 0 0] (by kernel_rfl)
end
theorem jg:∀{l m:List UInt32},l.length=m.length→val l=val m→l=m
 |[],[],_,_=>rfl
 |[],_::_,h,_=>by simp at h
 |_::_,[],h,_=>by simp at h
 |x::l,y::m,h,hv=>by
  have hx:=de x
  have hy:=de y
  rw[val,val] at hv
  have h1:x.toNat=y.toNat:=by omega
  have h2:val l=val m:=by omega
  rw[kB h1,jg (by simpa using h) h2]
def ud (m:List UInt32):List UInt32:=if val m=0 then[1] else m
theorem Hz:val [1]=1:=rfl
theorem Aa:lb 1=[1]:=rfl
theorem C6 (m:List UInt32):val (ud m)=if val m=0 then 1 else val m:=by unfold ud;split<;>simp_all [Hz]
theorem HB (m:List UInt32):0<val (ud m):=by rw[C6];split<;>omega
def BH (s:Bool) (n:Nat):Bool:=s&&decide (0<n)
def yK (n d:Nat):List UInt32:=if d/Nat.gcd n d=1 then[] else lb (d/Nat.gcd n d)
def rv (s:Bool) (n m:List UInt32):Bool:=decide (s=BH s (val n)∧n=lb (val n/Nat.gcd (val n) (val (ud m)))∧m=yK (val n) (val (ud m)))
theorem EC {n d:Nat} (h:0<d):0<Nat.gcd n d:=Nat.gcd_pos_of_pos_right n h
theorem HD {x:Nat}:lb x=[1]↔x=1:=⟨fun h=>Hj (h.trans Aa.symm),fun h=>by rw[h,Aa]⟩
theorem Jv {d:Nat} (h:0<d):yK 0 d=[]:=by unfold yK;rw[Nat.gcd_zero_left,Nat.div_self h,if_pos rfl]
theorem HE {n:Nat}:yK n 1=[]:=by unfold yK;rw[Nat.gcd_one_right];rfl
end Go.Rl
namespace Go.Rl
open Go.RowKit Go.Proofs
section
variable {α:Type} {f:α→Dt} {l:List α} {v:Value} {w w':World}
def cC (f:α→Dt) (l:List α) (v:Value) (w:World):Prop:=Rp w (.sl (l.map f)) [v]
theorem cC.ext (h:cC f l v w) (hx:aK w w'):cC f l v w':=Rp.ext hx h
theorem cC.isS (h:cC f l v w):∃A n c,v=.slice A n c:=by
 unfold cC at h
 simp only[Rp] at h
 obtain⟨A,n,c,hv,_⟩:=h
 exact⟨A,n,c,by simpa using hv⟩
theorem cC.one (h:cC f l v w):v.oneCell'=true:=by obtain⟨A,n,c,rfl⟩:=h.isS;rfl
theorem bm.one {l:List UInt32} (h:bm l v w):v.oneCell'=true:=by obtain⟨A,n,c,rfl⟩:=h.isS;rfl
theorem cC.nil (f:α→Dt) (w:World):cC f [] (.slice none 0 0) w:=Rp.nilSl
theorem cC.len (h:cC f l v w):l.length≤9223372036854775807:=by
 have:=Rp.slLen h
 simpa using this
theorem a6 {P:Program} {t e:TypeId} {ty:TypeId} (ht:P.underlying t=some (.slice e)) (h:cC f l v w):(Builtin.len_ #[t] ty #[v]).run P w=.ok (I l.length) w:=by
 have:=KM (ty:=ty) ht h
 simpa using this
theorem cd {P:Program} {t e:TypeId} {sz:Nat} (ht:P.underlying t=some (.slice e)) (hz:(P.info? e).map (·.size)=some sz) (hs:∀x,(f x).size=sz) (h0:0<sz) (h:cC f l v w) {i:Nat} (hi:i<l.length) (k:IntKind):
 ∃ad cs,(∀w':World,(Instr.indexAt t v (.int k i)).run P w'=.ok (.pointer (some ad)) w')∧eO w ad cs∧Rp w (f l[i]) cs:=by
 obtain⟨ad,cs,h1,h2,h3⟩:=LU ht hz h (by simp[hs]) h0 (i:=i) (by simpa using hi) k
 exact⟨ad,cs,h1,h2,by simpa using h3⟩
theorem eO.at {ad:Addr} {xs:List Value} (h:eO w ad xs) {j:Nat} {u:Value} (hj:xs[j]? =some u):w.cell? (ad.add j)=some u:=h j u hj
theorem ij {P:Program} {s:TypeId} {fs:Array Field} {fd:Field} {n o:Nat} {a:Addr} (hs:P.underlying s=some (.struct fs)) (hf:fs[n]? =some fd) (hk:(P.cellsOf fd.type==0)=false) (ho:fd.offset=o):
 (Instr.fieldAt s (.pointer (some a)) n).run P w=.ok (.pointer (some (a.add o))) w:=by
 have hk':P.cellsOf fd.type≠0:=by simpa using hk
 obtain⟨k,hk1⟩:∃k,(P.info? fd.type).map (·.size)=some k:=by
  cases hi:(P.info? fd.type).map (·.size) with
  |none=>exact absurd (by simp[Program.cellsOf,hi]) hk'
  |some k=>exact⟨k,rfl⟩
 have hk0:k≠0:=by
  intro h
  apply hk'
  simp[Program.cellsOf,hk1,h]
 rw[cA hs hf hk1 hk0,ho]
theorem eO.ld {P:Program} {t:TypeId} {d:TypeDesc} {ad:Addr} {cs:List Value} (h:eO w ad cs) (ht:P.underlying t=some d) (hd:d.isRow=true) (hz:(P.info? t).map (·.size)=some cs.length):(Instr.loadAt t (.pointer (some ad))).run P w=.ok (.agg cs.toArray) w:=LV h ht hd hz
theorem ct.ld {P:Program} {t T:TypeId} {d:TypeDesc} {g:Nat} {cs:List Value} (h:ct g T cs w) (ht:P.underlying t=some d) (hd:d.isRow=true) (hz:(P.info? t).map (·.size)=some cs.length):(Instr.loadAt t (.pointer (some ⟨g,0,none⟩))).run P w=.ok (.agg cs.toArray) w:=
 oX h (fun j v hj=>by simpa using hj) ht hd hz
theorem ct.ldO {P:Program} {t T:TypeId} {d:TypeDesc} {g o:Nat} {cs ms:List Value} (h:ct g T cs w) (hm:∀j v,ms[j]? =some v→cs[o+j]? =some v) (ht:P.underlying t=some d) (hd:d.isRow=true) (hz:(P.info? t).map (·.size)=some ms.length):(Instr.loadAt t (.pointer (some ⟨g,o,none⟩))).run P w=.ok (.agg ms.toArray) w:=
 oX h hm ht hd hz
theorem cK {P:Program} {T:TypeId} {cs:List Value}:∃g w',(Instr.box T (.agg cs.toArray)).run P w=.ok (.pointer (some ⟨g,0,none⟩)) w'∧w.heap.size≤g∧aK w w'∧ct g T cs w':=
 ⟨_,_,vS,Nat.le_refl _,aK.new w _,ct.new (T:=T) (.agg cs.toArray) rfl⟩
def av (l:List Value):Prop:=∀v∈l,v.oneCell'=true
theorem av.nil:av []:=fun _ h=>by simp at h
theorem av.cons {v:Value} {l:List Value} (h:v.oneCell'=true) (h':av l):av (v::l):=fun u hu=>by
 rcases List.mem_cons.1 hu with rfl|hu
 ·exact h
 ·exact h' u hu
theorem ct.stS {P:Program} {t T:TypeId} {g:Nat} {l m:List Value} (h:ct g T l w) (hl:l.length=m.length) (hi:(P.info? t).map (·.size)=some m.length) (h1:av m):
 ∃w',(Instr.storeAt t (.pointer (some ⟨g,0,none⟩)) (.agg m.toArray)).run P w=.ok () w'∧w.grownBy w' (some g)∧ct g T m w':=
 ⟨_,j9 h hl hi h1,bK w g _,h.row m⟩
theorem ct.stC {P:Program} {t T:TypeId} {g i:Nat} {l:List Value} {v:Value} (h:ct g T l w) (hs:(P.info? t).map (·.size)=some 1) (hv:v.oneCell'=true) (hi:i<l.length):
 ∃w',(Instr.storeAt t (.pointer (some ⟨g,i,none⟩)) v).run P w=.ok () w'∧w.grownBy w' (some g)∧ct g T (l.set i v) w':=by
 have h':=h
 unfold ct at h'
 obtain h2:=dR (P:=P) (t:=t) (v:=v) hs hv h' (by simpa using hi)
 exact⟨_,h2,bh w g i v,h.set i v⟩
end
end Go.Rl
namespace Go.Rl
open Go.RowKit Go.Proofs
open Go.Maps (Keyed)
section ops
variable {P:Program} {ops:Array Oper} {Q:ja} {N:Nat} {D:List Deferred} {l:Fr} {w w':World} {rest:List Oper} {d:Nat} {ty:TypeId} {pos:String} {aft:Array Edge}
end ops
theorem ct.k0 {w:World} {g:Nat} {T:TypeId} {v:Value} {l:List Value} (h:ct g T (v::l) w):w.cell? ⟨g,0,none⟩=some v:=h.cell (i:=0) rfl
end Go.Rl
namespace Go.Rl
open Go.RowKit Go.Proofs
section
variable {w0 w w':World} {l m:List UInt8} {v x:Value} {ty t t2 T:TypeId} {g base:Nat}
theorem C7 (ht:Tryz.prog.underlying t=some (.slice 5)) (ht2:Tryz.prog.underlying t2=some (.slice 5)) (a b:Value):(Builtin.append_ #[t,t2] ty #[a,b]).run Tryz.prog w=(Builtin.append_ #[22,22] ty #[a,b]).run Tryz.prog w:=by
 unfold Builtin.append_
 cases a<;>simp[Sem.run_bind,run_underlying ht,run_underlying ht2,run_underlying Tryz.underlying22]
structure ia (T:TypeId) (base g:Nat) (l:List UInt8) (v:Value) (w:World):Prop where
 ge:base≤g
 blk:ct g T [v] w
 row:KL base l v w
 new:∀k,v.ownBlock=some k→base≤k
 off:v.ownBlock≠some g
 lt:∀k,v.ownBlock=some k→k<w.heap.size
theorem KL.bts (h:KL base l v w):cJ l v w:=h.elim (·.bts) (·.1)
theorem ia.ext (h:ia T base g l v w) (hx:aK w w'):ia T base g l v w':=⟨h.ge,h.blk.ext hx,h.row.ext hx,h.new,h.off,fun k hk=>Nat.lt_of_lt_of_le (h.lt k hk) hx.size⟩
theorem ia.off_new {k:Nat} (h:ia T base g l v w) (hk:w.heap.size≤k):¬(k=g∨v.ownBlock=some k):=by
 rintro(rfl|h1)
 ·have:=h.blk.lt;omega
 ·have:=h.lt k h1;omega
structure dl (g:Nat) (v:Value) (w:World) (v':Value) (w':World):Prop where
 mv:Mv (fun k=>k=g∨v.ownBlock=some k) w w'
 own:∀k,v'.ownBlock=some k→v.ownBlock=some k∨w.heap.size≤k
theorem dl.of_ext (h:aK w w'):dl g v w v w':=⟨Mv.of_ext h,fun _ h=>.inl h⟩
theorem dl.refl:dl g v w v w:=dl.of_ext (aK.refl w)
theorem dl.trans {v1 v2:Value} {w1 w2:World} (h:dl g v w v1 w1) (k:dl g v1 w1 v2 w2):dl g v w v2 w2:=by
 refine⟨h.mv.trans k.mv fun n hn hlt=>?_,fun n hn=>?_⟩
 ·rcases hn with hn|hn
  ·exact .inl hn
  ·rcases h.own n hn with h1|h1
   ·exact .inr h1
   ·omega
 ·rcases k.own n hn with h1|h1
  ·exact h.own n h1
  ·exact .inr (Nat.le_trans h.mv.size h1)
theorem dl.off {k:Nat} {v1:Value} {w1:World} (h:dl g v w v1 w1) (hn:¬(k=g∨v.ownBlock=some k)) (hk:k<w.heap.size):¬(k=g∨v1.ownBlock=some k):=by
 rintro(h1|h1)
 ·exact hn (.inl h1)
 ·rcases h.own k h1 with h2|h2
  ·exact hn (.inr h2)
  ·omega
theorem dl.ext {v1:Value} {w1:World} (h:dl g v w v1 w1) (h0:aK w0 w) (hg:w0.heap.size≤g) (hv:∀k,v.ownBlock=some k→w0.heap.size≤k):aK w0 w1:=
 h.mv.ext_from h0 fun k hk=>by
  rcases hk with rfl|hk
  ·exact hg
  ·exact hv k hk
def WrX (g:Nat) (v:Value):Nat→Prop:=fun k=>k=g∨v.ownBlock=some k
theorem cN.step {v1:Value} {w1:World} {d:Dt} {cs:List Value} (h:cN (WrX g v) w d cs) (k:dl g v w v1 w1):cN (WrX g v1) w1 d cs:=h.mv k.mv fun n hn=>by
 rcases hn with hn|hn
 ·exact .inl (.inl hn)
 ·rcases k.own n hn with h1|h1
  ·exact .inl (.inr h1)
  ·exact .inr h1
theorem ia.put (ht:Tryz.prog.underlying t=some (.slice 5)) (hs:(Tryz.prog.info? t).map (·.size)=some 1) (ht2:Tryz.prog.underlying t2=some (.slice 5)) (h:ia T base g l v w) (h0:base≤w.heap.size) (hx:cJ m x w) (hm:0<m.length) (hb:l.length+m.length≤140737488355328):
 ∃r w1 w2,(Builtin.append_ #[t,t2] ty #[v,x]).run Tryz.prog w=.ok r w1∧(Instr.storeAt t (.pointer (some ⟨g,0,none⟩)) r).run Tryz.prog w1=.ok () w2∧ia T base g (l++m) r w2∧dl g v w r w2:=by
 have key:∃r w1,(Builtin.append_ #[22,22] ty #[v,x]).run Tryz.prog w=.ok r w1∧c6 base (l++m) r w1∧dl g v w r w1∧ct g T [v] w1∧r.ownBlock≠some g:=by
  rcases h.row with hv|⟨hv,hfull⟩
  ·obtain⟨r,w1,h1,h2,h3⟩:=dn (ty:=ty) hv hx hb h0
   refine⟨r,w1,h1,h2,⟨Mv.of_grown h3.grown fun k hk _=>.inr hk,fun k hk=>?_⟩,h.blk.other h3.grown (Ne.symm h.off),?_⟩
   ·rcases h3.own with h4|h4
    ·rw[h4] at hk;exact .inl hk
    ·exact .inr (h4 k hk)
   ·rcases h3.own with h4|h4
    ·rw[h4];exact h.off
    ·intro h5
     have:=h4 g h5
     have:=h.blk.lt
     omega
  ·obtain⟨r,w1,h1,h2,h3⟩:=CQ (ty:=ty) (w0:=w) (aK.refl w) (.inr ⟨hv,hfull⟩) hx hm hb
   refine⟨r,w1,h1,h2.low h0,⟨Mv.of_ext h3,fun k hk=>.inr (h2.ge k hk)⟩,h.blk.ext h3,fun h5=>?_⟩
   have:=h2.ge g h5
   have:=h.blk.lt
   omega
 obtain⟨r,w1,h1,h2,h3,h4,h5⟩:=key
 have hr1:r.oneCell'=true:=by
  obtain⟨A,n,c,rfl,_⟩:=h2.bts
  rfl
 obtain⟨w2,h6,h7,h8⟩:=h4.stC (P:=Tryz.prog) (t:=t) (i:=0) (v:=r) hs hr1 (by simp)
 refine⟨r,w1,w2,(C7 ht ht2 v x).trans h1,h6,⟨h.ge,h8,.inl ?_,h2.ge,h5,fun k hk=>Nat.lt_of_lt_of_le (h2.lt k hk) h7.size⟩,h3.trans ⟨Mv.of_grown h7 fun k hk _=>.inl (Option.some.inj hk).symm,fun k hk=>.inl hk⟩⟩
 obtain⟨n,h9⟩:=h2
 exact⟨n,World.ownsRow.kept h9 h7 (.inr h5)⟩
theorem HF (ht:Tryz.prog.underlying t=some (.slice 5)) (l:List UInt8) (hl:l.length≤16777216) (h0:0<l.length):∃v w1 w2,(Instr.buildSlice t l.length (eI 0 (l.map U8)).toArray).run Tryz.prog w=.ok v w1∧(convert t t v).run Tryz.prog w1=.ok v w2∧aK w w2∧cJ l v w2∧∃ad,v=.slice (some ad) l.length l.length∧w.heap.size≤ad.block∧ad.block<w2.heap.size:=by
 obtain⟨i,hi,hz0,hs,_⟩:=info_parts vz
 have hf:∀Z:Array Value,Z.size=(l.map U8).length→Instr.fill (fun i=>some (i*1,1)) Z (eI 0 (l.map U8))=some (l.map U8).toArray:=fun Z hZ=>by
  have:=uL (l.map U8) [] Z.toList (fun v hv=>yt (ep l v hv)) (by simpa using hZ)
  simpa using this
 have hle:¬(l.length*1>2^24):=by omega
 have hinfo:(typeInfo 5).run Tryz.prog w=.ok i w:=by simp[typeInfo,hi]
 have hsz:(sizeOf 5).run Tryz.prog w=.ok 1 w:=by simp[sizeOf,hinfo,hs]
 have hzv:(zeroValue 5).run Tryz.prog w=.ok (.int .u8 0) w:=by simp[zeroValue,hinfo,hz0]
 have hrun:(Instr.buildSlice t l.length (eI 0 (l.map U8)).toArray).run Tryz.prog w=.ok (.slice (some ⟨w.heap.size,0,none⟩) l.length l.length) (w.alloc (.cells (l.map U8).toArray 5)):=by
  simp only[Instr.buildSlice,Sem.run_bind,run_underlying ht,Result.andThen_ok,hsz,if_neg hle]
  rw[if_neg (by omega)]
  simp only[Sem.run_bind,Sem.run_pure,Result.andThen_ok,hzv]
  rw[hf _ (by simp[Value.cells])]
  simp[newRow]
 refine⟨_,_,_,hrun,Go.Lib.run_convert_bytes_const w t 5 _ _ _ ht Tryz.underlying5,aK.new w _,?_,⟨_,rfl,Nat.le_refl _,by simp⟩⟩
 have hg:=heap_alloc_new w (.cells (l.map U8).toArray 5 ((l.map U8).toArray.size,(l.map U8).toArray.size+1))
 refine⟨_,_,_,rfl,Nat.le_refl _,by unfold maxLen;omega,by simp,fun _=>⟨_,rfl,fun j u hu=>?_⟩,fun h=>by cases h⟩
 rw[Addr.add_mid,Nat.zero_add,cell_of_row _ _ j _ _ _ hg]
 simpa using hu
end
end Go.Rl
namespace Go.Rl
open Go.RowKit Go.Proofs
theorem FW:aG Tryz.prog 184:=⟨_,Tryz.func184,by kernel_rfl,rfl⟩
theorem rD:aG Tryz.prog 180:=⟨_,Tryz.func180,by kernel_rfl,rfl⟩
theorem BI:aG Tryz.prog 163:=⟨_,Tryz.func163,by kernel_rfl,rfl⟩
theorem C8:aG Tryz.prog 162:=⟨_,Tryz.func162,by kernel_rfl,rfl⟩
theorem BJ:aG Tryz.prog 137:=⟨_,Tryz.func137,by kernel_rfl,rfl⟩
theorem fz:aG Tryz.prog 99:=⟨_,Tryz.func99,by kernel_rfl,rfl⟩
theorem FX {w:World}:
 Calls Tryz.prog 184 #[] w (bE fun r w'=>aK w w'∧bm [1] r w'):=by
 refine enter (vs:=[]) Tryz.func184 E E E ?_
 refine af (aa (ae E E (ag (ab (af (aa ?_))))))
 obtain⟨v1,w1,hr1,x1,o1,ob1⟩:=jo Tryz.underlying44 (w:=w) w.heap.size [1] (by simp) (Nat.le_refl _)
 refine aJ (vs:=[(0,bH (1))]) E E hr1 (ae E E (ag (ab (aw (az E E ?_)))))
 exact⟨_,rfl,x1,o1.wds⟩
theorem rE {w:World} {x:Nat} {v:Value} (hv:bm (lb x) v w):
 Calls Tryz.prog 180 #[v] w (bE fun r w'=>w=w'∧r=B (decide (x=1))):=by
 refine enter (vs:=[v]) Tryz.func180 E E E ?_
 obtain⟨t,ht⟩:∃t,t=lb x:=⟨_,rfl⟩
 rw[←ht] at hv
 have h1:x=1↔t=[1]:=by rw[ht];exact HD.symm
 refine af (aa (ae E E (ag (ab (af (aa (ac E E (aO E E (bC Ms hv) (al E E E (bi) ?_)))))))))
 refine ac E E ?_
 refine ce (fun h6=>?_) (fun h6=>?_)
 ·refine ai E (ac E E (ai E ?_))
  obtain⟨a8,p8,q8⟩:=db Ms hv (i:=0) (by omega) .i64
  refine aq E E E (p8 _) (ai E (ak E E (aj Mu E q8) (ai E (al (v:=bH 1) E E E (mp) (ap E E E ?_)))))
  refine ae E E (ag (ab (aw (az E E ?_))))
  exact⟨_,rfl,rfl,by
   first
   |exact congrArg B (decide_eq_false fun h=>h6 (by rw[h1.1 h];rfl)).symm
   |exact congrArg B (decide_eq_decide.2 (by
     rw[h1]
     obtain⟨y,rfl⟩:=List.length_eq_one_iff.1 (show t.length=1 by omega)
     simp))⟩
 ·refine an E E E (an E E E (an E E E (an E E E (aD E E E (ae E E (ag (ab (aw (az E E ?_)))))))))
  exact⟨_,rfl,rfl,by
   first
   |exact congrArg B (decide_eq_false fun h=>h6 (by rw[h1.1 h];rfl)).symm
   |exact congrArg B (decide_eq_decide.2 (by
     rw[h1]
     obtain⟨y,rfl⟩:=List.length_eq_one_iff.1 (show t.length=1 by omega)
     simp))⟩
theorem BK {w:World} {b:Bool} {n m:List UInt32} {v:Value} (hv:dm b n m v w) (hl:m.length≤1099511627776):
 Calls Tryz.prog 163 #[v] w (bE fun r w'=>aK w w'∧bm (ud m) r w'):=by
 refine enter (vs:=[v]) Tryz.func163 E E E ?_
 refine af (aa ?_)
 obtain⟨g1,y1,z1,w1,hr1,x1,k1,n1,d1⟩:=rC hv
 refine cM E E hr1 (ae E E (ag (ab (af (af (aa (ah E E (ar (o:=2) Mw E (by kernel_rfl) E) ?_)))))))
 refine ak E E (aj Ms E (k1.cell (i:=2) E)) (am CW E E (CX d1 hl) ?_)
 rintro v5 _ ⟨rfl,rfl⟩
 refine al E E E (bi) (ag (ab ?_))
 refine bz E (fun h6=>?_) (fun h6=>?_)
 ·have h0:val m=0:=by
   rcases Nat.eq_zero_or_pos (val m) with h|h
   ·exact h
   ·have:=wh h
    omega
  refine af (aa (am (vs:=[]) FW E E (FX) ?_))
  rintro v7 w7 ⟨x7,b7⟩
  refine ae E E (ag (ab (aw (ay (az E E ?_)))))
  exact⟨_,rfl,(x1.trans x7),by unfold ud;rw[if_pos h0];exact b7⟩
 ·have h0:val m≠0:=fun h=>h6 (by rw[h];rfl)
  refine aC (ab (af (aa (ah E E (ar (o:=2) Mw E (by kernel_rfl) E) (ak E E (aj Ms E (k1.cell (i:=2) E)) ?_)))))
  refine ae E E (ag (ab (aw (az E E ?_))))
  exact⟨_,rfl,x1,by unfold ud;rw[if_neg h0];exact d1⟩
theorem Da {w:World} {s:Bool} {n d:List UInt32} {x y:Value} (hn:bm n x w) (hd:bm d y w) (hnl:n.length≤274877906944) (hdl:d.length≤274877906944) (hd0:0<val d):
 Calls Tryz.prog 162 #[B s,x,y] w (bE fun r w'=>aK w w'∧dm (BH s (val n)) (lb (val n/Nat.gcd (val n) (val d))) (yK (val n) (val d)) r w'):=by
 refine enter (vs:=[B s,x,y]) Tryz.func162 E E E ?_
 have hnn:=iX (cO n)
 have hdd:=iX (cO d)
 have hg0:=EC (n:=val n) hd0
 refine af (aa ?_)
 obtain⟨g6,w6,hr6,l6,x6,k6⟩:=gI (w:=w)
 refine aT E hr6 (ag (ab (af (aa (ac E E (am nz E E (nA (hn.ext x6) (by omega)) ?_))))))
 rintro v9 w9 ⟨x9,b9⟩
 refine ae E E (ag (ab (af (af (aa (ac E E (aO (r:=I ((lb (val n)).length:Int)) E E (bC Ms b9) ?_)))))))
 refine al E E E (bi) (ag (ab ?_))
 refine bz E (fun h12=>?_) (fun h12=>?_)
 ·have hn0:val n=0:=iD.1 (by omega)
  refine af (aa ?_)
  refine bA (vs:=[]) E E ff ?_
  obtain⟨p,q,w3,hp,hs,q3,k3,n3,d3⟩:=(k6.ext (x9)).stR ⟨_,_,_,rfl⟩ ⟨_,_,_,rfl⟩ (dm.mk (b:=false) (bm.nil _) (bm.nil _))
  refine au E E (hs) (ag (ab (aw (ay ?_))))
  refine dx E E k3 Mw E dk ?_
  exact⟨_,rfl,((x6.trans x9)).of_new q3 l6,p,q,by rw[hn0];unfold BH;simp,by rw[hn0,Nat.zero_div];exact n3,by rw[hn0,Jv hd0];exact d3⟩
 ·have hn0:0<val n:=by
   rcases Nat.eq_zero_or_pos (val n) with h|h
   ·rw[h] at h12;simp[gZ] at h12
   ·exact h
  have hcN:BH s (val n)=s:=by unfold BH;rw[decide_eq_true hn0,Bool.and_true]
  rw[hcN]
  refine aC (ab (af (aa (ac E E (am nz E E (nA (hd.ext (x6.trans x9)) (by omega)) ?_)))))
  rintro v15 w15 ⟨x15,b15⟩
  refine ae E E (ag (ab (af (af (aa (ac E E (am rD E E (rE b15) ?_)))))))
  rintro v17 _ ⟨rfl,rfl⟩
  refine ag (ab ?_)
  refine bz E (fun h17=>?_) (fun h17=>?_)
  ·refine af (aa (ac E E (ac E E ?_)))
   refine bA (vs:=[(0,B s),(1,v9)]) E E (FV b9.isS) ?_
   obtain⟨p,q,w3,hp,hs,q3,k3,n3,d3⟩:=(k6.ext ((x9.trans x15))).stR ⟨_,_,_,rfl⟩ ⟨_,_,_,rfl⟩ (dm.mk (b:=s) (b9.ext (x15)) (bm.nil _))
   refine au E E (hs) (ag (ab (aw (ay ?_))))
   refine dx E E k3 Mw E dk ?_
   exact⟨_,rfl,(((x6.trans x9).trans x15)).of_new q3 l6,p,q,rfl,by rw[h17,Nat.gcd_one_right,Nat.div_one];exact n3,by rw[h17,HE];exact d3⟩
  ·obtain⟨g,hg⟩:∃g,g=Nat.gcd (val n) (val d):=⟨_,rfl⟩
   rw[←hg] at hg0⊢
   have hgl:(lb g).length≤d.length:=Nat.le_trans (mJ (by rw[hg];exact Nat.gcd_le_right _ hd0)) hdd
   refine aC (ab (af ?_))
   refine fg (fun p:Value×Value=>[(0,B s),(1,p.1),(2,p.2),(6,.pointer (some ⟨g6,0,none⟩))]) (fun p w'=>aK w15 w'∧bm (lb (val n/g)) p.1 w'∧bm (lb (val d/g)) p.2 w') ?_ ?_
   ·refine af (aa (ac E E (ac E E (am Fsz E E ((by have:=FU (b9.ext x15) b15 (by omega) (by omega);rw[bW,bW] at this;exact this)) ?_))))
    rintro v23 w23 ⟨x23,b23⟩
    rw[←hg] at b23
    refine ae E E (ag (ab (af (aa (ac E E (am rD E E (rE b23) ?_))))))
    rintro v25 _ ⟨rfl,rfl⟩
    refine bt E E zQ (ag (ab ?_))
    refine bz E (fun h26=>?_) (fun h26=>?_)
    ·refine af (aa (ac E E (ac E E (am kD E E ((by have:=kF (b9.ext (x15.trans x23)) b23 (by omega) (by omega) (by rw[bW];exact hg0);rw[bW,bW] at this;exact this)) ?_))))
     rintro v30 w30 ⟨x30,q1,s1,rfl,c1,e1⟩
     refine ac E E (ao E E (fL) (ao E E fM (ao E E fN (ae E E (ag (ab (aa (ac E E (ac E E ?_)))))))))
     refine am kD E E ((by have:=kF (b15.ext (x23.trans x30)) (b23.ext x30) (by omega) (by omega) (by rw[bW];exact hg0);rw[bW,bW] at this;exact this)) ?_
     rintro v37 w37 ⟨x37,q2,s2,rfl,c2,e2⟩
     refine ac E E (ao E E (fL) (ao E E fM (ao E E fN (ae E E (ag ?_)))))
     exact cu (q1,q2) ⟨rfl,rfl,rfl,rfl,trivial⟩ ⟨((x23.trans x30).trans x37),by first|exact(c1.ext x37)|(rw[show g=1 from Classical.byContradiction fun h=>h26 h,Nat.div_one];exact(c1.ext x37)),by first|exact c2|(rw[show g=1 from Classical.byContradiction fun h=>h26 h,Nat.div_one];exact c2)⟩
    ·refine aC ?_
     exact cu (v9,v15) ⟨rfl,rfl,rfl,rfl,trivial⟩ ⟨x23,by first|exact(b9.ext (x15.trans x23))|(rw[show g=1 from Classical.byContradiction fun h=>h26 h,Nat.div_one];exact(b9.ext (x15.trans x23))),by first|exact(b15.ext x23)|(rw[show g=1 from Classical.byContradiction fun h=>h26 h,Nat.div_one];exact(b15.ext x23))⟩
   rintro⟨v1,v2⟩ w8 ⟨x8,b1,b2⟩
   refine ab (af ?_)
   refine fg (fun p:Value=>[(0,B s),(1,v1),(2,p),(6,.pointer (some ⟨g6,0,none⟩))]) (fun p w'=>w8=w'∧bm (yK (val n) (val d)) p w') ?_ ?_
   ·refine af (aa (ac E E (am rD E E (rE b2) ?_)))
    rintro v42 _ ⟨rfl,rfl⟩
    refine ag (ab ?_)
    refine bz E (fun h42=>?_) (fun h42=>?_)
    ·refine aa (ae E E (ag ?_))
     exact cu (.slice none 0 0) ⟨rfl,rfl,rfl,rfl,trivial⟩ ⟨rfl,by unfold yK;rw[←hg];first|(rw[if_pos h42];exact bm.nil _)|(rw[if_neg h42];exact b2)⟩
    ·refine aC ?_
     exact cu (v2) ⟨rfl,rfl,rfl,rfl,trivial⟩ ⟨rfl,by unfold yK;rw[←hg];first|(rw[if_pos h42];exact bm.nil _)|(rw[if_neg h42];exact b2)⟩
   rintro v2' _ ⟨rfl,b2'⟩
   refine ab (af (aa (ac E E (ac E E (ac E E ?_)))))
   refine bA (vs:=[(0,B s),(1,v1),(2,v2')]) E E (mK b1.isS b2'.isS) ?_
   obtain⟨p,q,w3,hp,hs,q3,k3,n3,d3⟩:=(k6.ext (((x9.trans x15).trans x8))).stR ⟨_,_,_,rfl⟩ ⟨_,_,_,rfl⟩ (dm.mk (b:=s) b1 b2')
   refine au E E (hs) (ag (ab (aw ?_)))
   refine dx E E k3 Mw E dk ?_
   exact⟨_,rfl,((((x6.trans x9).trans x15).trans x8)).of_new q3 l6,p,q,rfl,n3,d3⟩
theorem HG {m:List UInt32} (h:m.length≤137438953472):(ud m).length≤137438953472:=by
 unfold ud
 split
 ·simp
 ·exact h
theorem BL {w:World} {b:Bool} {n m:List UInt32} {v:Value} (hv:dm b n m v w) (hnl:n.length≤137438953472) (hml:m.length≤137438953472):
 Calls Tryz.prog 137 #[v] w (bE fun r w'=>aK w w'∧dm (BH b (val n)) (lb (val n/Nat.gcd (val n) (val (ud m)))) (yK (val n) (val (ud m))) r w'):=by
 refine enter (vs:=[v]) Tryz.func137 E E E ?_
 refine af (aa ?_)
 obtain⟨g1,y1,z1,w1,hr1,x1,k1,n1,d1⟩:=rC hv
 refine cM E E hr1 ?_
 obtain⟨g2,w2,hr2,l2,x2,k2⟩:=gI (w:=w1)
 refine aT E hr2 (ag (ab (af (bI 7 [2,9] (by kernel_rfl) (by kernel_rfl) ?_))))
 refine aW E E (fun w hw=>ar (o:=0) Mw E (by kernel_rfl) E) (aP E E (fun w hw=>aj MD E (hw.cell_some (x2.cell_some (k1.cell (i:=0) E)))) ?_)
 refine aW E E (fun w hw=>ar (o:=1) Mw E (by kernel_rfl) E) (aP E E (fun w hw=>aj Ms E (hw.cell_some (x2.cell_some (k1.cell (i:=1) E)))) ?_)
 refine aP rfl rfl (fun w hw=>((k1.ext x2).ext hw).ldR) (cn (S:=bm (ud m)) BI (bm.stable _) rfl (fun w hw=>by rintro _ rfl;exact BK (((dm.mk n1 d1).ext x2).ext hw) (by omega)) ?_)
 refine cn (S:=dm (BH b (val n)) (lb (val n/Nat.gcd (val n) (val (ud m)))) (yK (val n) (val (ud m)))) C8 (dm.stable _ _ _) rfl (fun w hw=>by rintro _ rfl _ rfl z hz;exact Da ((n1.ext x2).ext hw) hz (by omega) (by have:=HG hml;omega) (HB m)) ?_
 refine cq ?_
 intro wg1 xg1
 rintro _ rfl
 intro vg9 b9
 obtain⟨p,q,w3,hp,hs,q3,k3,n3,d3⟩:=(k2.ext xg1).stR ⟨_,_,_,rfl⟩ ⟨_,_,_,rfl⟩ b9
 refine au E E (hs) (ag (ab (aw ?_)))
 refine dx E E k3 Mw E dk ?_
 exact⟨_,rfl,(((x1.trans x2).trans xg1)).of_new q3 (Nat.le_trans x1.size l2),p,q,rfl,n3,d3⟩
theorem dh {x y:Nat}:tZ x y=0↔x=y:=by
 unfold tZ
 split
 ·omega
 ·split<;>omega
theorem Ab {b:Bool} {n:List UInt32}:rv b n []=decide (b=BH b (val n)∧n=lb (val n)):=by
 unfold rv
 rw[show val (ud [])=1 from rfl,Nat.gcd_one_right,Nat.div_one,HE]
 simp
theorem pg {w:World} {b:Bool} {n m:List UInt32} {v:Value} (hv:dm b n m v w) (hnl:n.length≤137438953472) (hml:m.length≤137438953472):
 Calls Tryz.prog 99 #[v] w (bE fun r w'=>aK w w'∧r=B (rv b n m)):=by
 refine enter (vs:=[v]) Tryz.func99 E E E ?_
 obtain⟨b',hb'⟩:∃b',b'=BH b (val n):=⟨_,rfl⟩
 obtain⟨n',hn'⟩:∃n',n'=lb (val n/Nat.gcd (val n) (val (ud m))):=⟨_,rfl⟩
 obtain⟨m',hm'⟩:∃m',m'=yK (val n) (val (ud m)):=⟨_,rfl⟩
 have hrv:rv b n m=decide (b=b'∧n=n'∧m=m'):=by rw[hb',hn',hm'];rfl
 refine af (aa ?_)
 obtain⟨g1,y1,z1,w1,hr1,x1,k1,n1,d1⟩:=rC hv
 refine cM E E hr1 (ae E E (ag (ab (af (af (aa (ah E E (ar (o:=2) Mw E (by kernel_rfl) E) ?_)))))))
 refine ak E E (aj Ms E (k1.cell (i:=2) E)) (aO E E (bC Ms d1) (al E E E (bi) ?_))
 refine ag (ab ?_)
 refine bz E (fun h7=>?_) (fun h7=>?_)
 ·have hm0:m=[]:=List.eq_nil_of_length_eq_zero (by omega)
  subst hm0
  refine af ?_
  cases b
  ·refine aa (ah E E (ar (o:=1) Mw E (by kernel_rfl) E) (ak E E (aj Ms E (k1.cell (i:=1) E)) ?_))
   refine am uP E E (uQ n1) ?_
   rintro v10 _ ⟨rfl,rfl⟩
   refine ac E E ?_
   refine ce (fun h11=>?_) (fun h11=>?_)
   ·refine ai E (ah E E (ar (o:=0) Mw E (by kernel_rfl) E) (ai E (ak E E (aj MD E (k1.cell (i:=0) E)) ?_)))
    refine ai E (bt E E bu (ai E (ac E E (an E E E (an E E E (an E E E (an E E E (ai E (ap E E E (ap E E E ?_))))))))))
    refine ae E E (ag (ab (aw (ay (az E E ?_)))))
    exact⟨_,rfl,x1,by
     rw[Ab]
     first
     |exact congrArg B (decide_eq_true ⟨rfl,h11.symm⟩).symm
     |exact congrArg B (decide_eq_false fun h=>h11 h.2.symm).symm
     |(have e:=@iD (val n)
       rw[h11] at e
       refine congrArg B (decide_eq_decide.2 ⟨fun h=>⟨(decide_eq_true (show 0<val n by omega)).symm,h11.symm⟩,fun h=>?_⟩)
       have:0<val n:=of_decide_eq_true h.1.symm
       omega)⟩
   ·refine an E E E (an E E E (an E E E (an E E E (jI E E E (jI E E E (jI E E E (jI E E E (an E E E ?_))))))))
    refine aD E E E (ae E E (ag (ab (aw (ay (az E E ?_))))))
    exact⟨_,rfl,x1,by
     rw[Ab]
     first
     |exact congrArg B (decide_eq_true ⟨rfl,h11.symm⟩).symm
     |exact congrArg B (decide_eq_false fun h=>h11 h.2.symm).symm
     |(have e:=@iD (val n)
       rw[h11] at e
       refine congrArg B (decide_eq_decide.2 ⟨fun h=>⟨(decide_eq_true (show 0<val n by omega)).symm,h11.symm⟩,fun h=>?_⟩)
       have:0<val n:=of_decide_eq_true h.1.symm
       omega)⟩
  ·refine aa (ah E E (ar (o:=1) Mw E (by kernel_rfl) E) (ak E E (aj Ms E (k1.cell (i:=1) E)) ?_))
   refine am uP E E (uQ n1) ?_
   rintro v10 _ ⟨rfl,rfl⟩
   refine ac E E ?_
   refine ce (fun h11=>?_) (fun h11=>?_)
   ·refine ai E (ah E E (ar (o:=0) Mw E (by kernel_rfl) E) (ai E (ak E E (aj MD E (k1.cell (i:=0) E)) ?_)))
    refine ai E (bt E E bu (ai E (ac E E (ai E (ah E E (ar (o:=1) Mw E (by kernel_rfl) E) ?_)))))
    refine ai E (ak E E (aj Ms E (k1.cell (i:=1) E)) (ai E (aO E E (bC Ms n1) ?_)))
    refine ai E (al E E E (ca) (ai E (aD E E E (ap E E E (ae E E (ag (ab (aw (ay (az E E ?_))))))))))
    exact⟨_,rfl,x1,by
     rw[Ab]
     first
     |exact congrArg B (decide_eq_true ⟨rfl,h11.symm⟩).symm
     |exact congrArg B (decide_eq_false fun h=>h11 h.2.symm).symm
     |(have e:=@iD (val n)
       rw[h11] at e
       refine congrArg B (decide_eq_decide.2 ⟨fun h=>⟨(decide_eq_true (show 0<val n by omega)).symm,h11.symm⟩,fun h=>?_⟩)
       have:0<val n:=of_decide_eq_true h.1.symm
       omega)⟩
   ·refine an E E E (an E E E (an E E E (an E E E (jI E E E (jI E E E (jI E E E (jI E E E (an E E E ?_))))))))
    refine aD E E E (ae E E (ag (ab (aw (ay (az E E ?_))))))
    exact⟨_,rfl,x1,by
     rw[Ab]
     first
     |exact congrArg B (decide_eq_true ⟨rfl,h11.symm⟩).symm
     |exact congrArg B (decide_eq_false fun h=>h11 h.2.symm).symm
     |(have e:=@iD (val n)
       rw[h11] at e
       refine congrArg B (decide_eq_decide.2 ⟨fun h=>⟨(decide_eq_true (show 0<val n by omega)).symm,h11.symm⟩,fun h=>?_⟩)
       have:0<val n:=of_decide_eq_true h.1.symm
       omega)⟩
 ·refine aC (ab (af (aa (ak E E (k1.ldR) (am BJ E E (BL (dm.mk n1 d1) hnl hml) ?_)))))
  rintro v23 w23 ⟨x23,b23⟩
  rw[←hb',←hn',←hm'] at b23
  obtain⟨g3,w3,hr3,l3,x3,k3⟩:=gI (w:=w23)
  refine aT E hr3 ?_
  obtain⟨p,q,w4,hp,hs,q4,k4,n3,d3⟩:=k3.stR ⟨_,_,_,rfl⟩ ⟨_,_,_,rfl⟩ (b23.ext x3)
  refine au E E (hs) ?_
  have x4:=(x23.trans x3).of_new q4 (Nat.le_trans x23.size l3)
  refine ag (ab (af (aa (ah E E (ar (o:=0) Mw E (by kernel_rfl) E) (ak E E (aj MD E (x4.cell_some (k1.cell (i:=0) E))) ?_)))))
  refine ah E E (ar (o:=0) Mw E (by kernel_rfl) E) (ak E E (aj MD E (k4.cell (i:=0) E)) ?_)
  refine al E E E (vC MD) (ac E E ?_)
  refine ce (fun h29=>?_) (fun h29=>?_)
  ·refine ai E (ah E E (ar (o:=1) Mw E (by kernel_rfl) E) (ai E (ak E E (aj Ms E (x4.cell_some (k1.cell (i:=1) E))) ?_)))
   refine ai E (aO E E (bC Ms (n1.ext x4)) (ai E (ah E E (ar (o:=1) Mw E (by kernel_rfl) E) ?_)))
   refine ai E (ak E E (aj Ms E (k4.cell (i:=1) E)) (ai E (aO E E (bC Ms n3) ?_)))
   refine ai E (al E E E (bi) (ap E E E (ac E E ?_)))
   refine ce (fun h38=>?_) (fun h38=>?_)
   ·refine ai E (ah E E (ar (o:=2) Mw E (by kernel_rfl) E) (ai E (ak E E (aj Ms E (x4.cell_some (k1.cell (i:=2) E))) ?_)))
    refine ai E (aO E E (bC Ms (d1.ext x4)) (ai E (ah E E (ar (o:=2) Mw E (by kernel_rfl) E) ?_)))
    refine ai E (ak E E (aj Ms E (k4.cell (i:=2) E)) (ai E (aO E E (bC Ms d3) ?_)))
    refine ai E (al E E E (bi) (ap E E E (ac E E ?_)))
    refine ce (fun h47=>?_) (fun h47=>?_)
    ·refine ai E (ah E E (ar (o:=1) Mw E (by kernel_rfl) E) (ai E (ak E E (aj Ms E (x4.cell_some (k1.cell (i:=1) E))) ?_)))
     refine ai E (ah E E (ar (o:=1) Mw E (by kernel_rfl) E) (ai E (ak E E (aj Ms E (k4.cell (i:=1) E)) ?_)))
     refine ai E (am t0 E E (t4 (n1.ext x4) n3) ?_)
     rintro v52 w52 ⟨x52,rfl⟩
     refine ai E (al E E E (bi) (ap E E E (ac E E ?_)))
     refine ce (fun h55=>?_) (fun h55=>?_)
     ·refine ai E (ah E E (ar (o:=2) Mw E (by kernel_rfl) E) (ai E (ak E E (aj Ms E ((x4.trans x52).cell_some (k1.cell (i:=2) E))) ?_)))
      refine ai E (ah E E (ar (o:=2) Mw E (by kernel_rfl) E) (ai E (ak E E (aj Ms E (x52.cell_some (k4.cell (i:=2) E))) ?_)))
      refine ai E (am t0 E E (t4 (d1.ext (x4.trans x52)) (d3.ext x52)) ?_)
      rintro v60 w60 ⟨x60,rfl⟩
      refine ai E (al E E E (bi) (ap E E E (ae E E (ag (ab (aw (az E E ?_)))))))
      exact⟨_,rfl,(((x1.trans x4).trans x52).trans x60),by
       rw[hrv]
       first
       |exact congrArg B (decide_eq_decide.2 ⟨fun h=>⟨h29,jg (by omega) (dh.1 h55),jg (by omega) (dh.1 h)⟩,fun h=>dh.2 (by rw[h.2.2])⟩)
       |exact congrArg B (decide_eq_false fun h=>h55 (dh.2 (by rw[h.2.1]))).symm
       |exact congrArg B (decide_eq_false fun h=>h47 (by rw[h.2.2])).symm
       |exact congrArg B (decide_eq_false fun h=>h38 (by rw[h.2.1])).symm
       |exact congrArg B (decide_eq_false fun h=>h29 h.1).symm⟩
     ·refine an E E E (an E E E (an E E E (an E E E (an E E E (an E E E (aD E E E (ae E E (ag (ab (aw (az E E ?_)))))))))))
      exact⟨_,rfl,((x1.trans x4).trans x52),by
       rw[hrv]
       first
       |exact congrArg B (decide_eq_decide.2 ⟨fun h=>⟨h29,jg (by omega) (dh.1 h55),jg (by omega) (dh.1 h)⟩,fun h=>dh.2 (by rw[h.2.2])⟩)
       |exact congrArg B (decide_eq_false fun h=>h55 (dh.2 (by rw[h.2.1]))).symm
       |exact congrArg B (decide_eq_false fun h=>h47 (by rw[h.2.2])).symm
       |exact congrArg B (decide_eq_false fun h=>h38 (by rw[h.2.1])).symm
       |exact congrArg B (decide_eq_false fun h=>h29 h.1).symm⟩
    ·refine an E E E (an E E E (an E E E (an E E E (an E E E (an E E E (aD E E E (ac E E (an E E E (an E E E ?_)))))))))
     refine an E E E (an E E E (an E E E (an E E E (aD E E E (ae E E (ag (ab (aw (az E E ?_)))))))))
     exact⟨_,rfl,(x1.trans x4),by
      rw[hrv]
      first
      |exact congrArg B (decide_eq_decide.2 ⟨fun h=>⟨h29,jg (by omega) (dh.1 h55),jg (by omega) (dh.1 h)⟩,fun h=>dh.2 (by rw[h.2.2])⟩)
      |exact congrArg B (decide_eq_false fun h=>h55 (dh.2 (by rw[h.2.1]))).symm
      |exact congrArg B (decide_eq_false fun h=>h47 (by rw[h.2.2])).symm
      |exact congrArg B (decide_eq_false fun h=>h38 (by rw[h.2.1])).symm
      |exact congrArg B (decide_eq_false fun h=>h29 h.1).symm⟩
   ·refine an E E E (an E E E (an E E E (an E E E (an E E E (an E E E (an E E E (aD E E E (ac E E (an E E E ?_)))))))))
    refine an E E E (an E E E (an E E E (an E E E (an E E E (aD E E E (ac E E (an E E E (an E E E (an E E E ?_)))))))))
    refine an E E E (an E E E (an E E E (aD E E E (ae E E (ag (ab (aw (az E E ?_))))))))
    exact⟨_,rfl,(x1.trans x4),by
     rw[hrv]
     first
     |exact congrArg B (decide_eq_decide.2 ⟨fun h=>⟨h29,jg (by omega) (dh.1 h55),jg (by omega) (dh.1 h)⟩,fun h=>dh.2 (by rw[h.2.2])⟩)
     |exact congrArg B (decide_eq_false fun h=>h55 (dh.2 (by rw[h.2.1]))).symm
     |exact congrArg B (decide_eq_false fun h=>h47 (by rw[h.2.2])).symm
     |exact congrArg B (decide_eq_false fun h=>h38 (by rw[h.2.1])).symm
     |exact congrArg B (decide_eq_false fun h=>h29 h.1).symm⟩
  ·refine an E E E (an E E E (an E E E (an E E E (an E E E (an E E E (an E E E (aD E E E (ac E E (an E E E ?_)))))))))
   refine an E E E (an E E E (an E E E (an E E E (an E E E (an E E E (aD E E E (ac E E (an E E E (an E E E ?_)))))))))
   refine an E E E (an E E E (an E E E (an E E E (aD E E E (ac E E (an E E E (an E E E (an E E E (an E E E ?_)))))))))
   refine an E E E (an E E E (aD E E E (ae E E (ag (ab (aw (az E E ?_)))))))
   exact⟨_,rfl,(x1.trans x4),by
    rw[hrv]
    first
    |exact congrArg B (decide_eq_decide.2 ⟨fun h=>⟨h29,jg (by omega) (dh.1 h55),jg (by omega) (dh.1 h)⟩,fun h=>dh.2 (by rw[h.2.2])⟩)
    |exact congrArg B (decide_eq_false fun h=>h55 (dh.2 (by rw[h.2.1]))).symm
    |exact congrArg B (decide_eq_false fun h=>h47 (by rw[h.2.2])).symm
    |exact congrArg B (decide_eq_false fun h=>h38 (by rw[h.2.1])).symm
    |exact congrArg B (decide_eq_false fun h=>h29 h.1).symm⟩
end Go.Rl
namespace Go.Rl
open Go.RowKit Go.Proofs
theorem FY:aG Tryz.prog 142:=⟨_,Tryz.func142,by kernel_rfl,rfl⟩
theorem Db:aG Tryz.prog 141:=⟨_,Tryz.func141,by kernel_rfl,rfl⟩
theorem BM:aG Tryz.prog 106:=⟨_,Tryz.func106,by kernel_rfl,rfl⟩
theorem nH:aG Tryz.prog 105:=⟨_,Tryz.func105,by kernel_rfl,rfl⟩
theorem uU:aG Tryz.prog 59:=⟨_,Tryz.func59,by kernel_rfl,rfl⟩
theorem FZ {w:World} {m:List UInt32} {v:Value} (hv:bm m v w) (hl:m.length≤137438953472):
 Calls Tryz.prog 142 #[v] w (bE fun r w'=>aK w w'∧bm (lb (val (ud m))) r w'):=by
 refine enter (vs:=[v]) Tryz.func142 E E E ?_
 obtain⟨t,ht⟩:∃t,t=lb (val m):=⟨_,rfl⟩
 refine af (aa (ae E E (ag (ab (af (aa (ac E E (am fA E E (gb hv (by omega)) ?_))))))))
 rintro v5 w5 ⟨x5,b5⟩
 rw[←ht] at b5
 refine ae E E (ag (ab (af (af (aa (ac E E (aO E E (bC Ms b5) (al E E E (bi) (ag ?_)))))))))
 refine ab ?_
 refine bz E (fun h8=>?_) (fun h8=>?_)
 ·have h0:val m=0:=iD.1 (by rw[←ht];omega)
  refine af (aa ?_)
  obtain⟨v9,w9,hr9,x9,o9,ob9⟩:=jo Tryz.underlying44 (w:=w5) w5.heap.size [1] (by simp) (Nat.le_refl _)
  refine aJ (vs:=[(0,bH (1))]) E E hr9 (ae E E (ag (ab (aw (ay (az E E ?_))))))
  exact⟨_,rfl,(x5.trans x9),by rw[C6,if_pos h0,Aa];exact o9.wds⟩
 ·have h0:val m≠0:=fun h=>h8 (by rw[ht,h];rfl)
  refine aC (ab (af (aa (ac E E (ae E E (ag (ab (aw (az E E ?_)))))))))
  exact⟨_,rfl,x5,by rw[C6,if_neg h0,←ht];exact b5⟩
theorem Dc {w:World} {s:Bool} {n d:List UInt32} {x y:Value} (hn:bm n x w) (hd:bm d y w) (hnl:n.length≤274877906944) (hdl:d.length≤274877906944) (hd0:0<val d):
 Calls Tryz.prog 141 #[B s,x,y] w (bE fun r w'=>aK w w'∧dm (BH s (val n)) (lb (val n/Nat.gcd (val n) (val d))) (yK (val n) (val d)) r w'):=by
 refine enter (vs:=[B s,x,y]) Tryz.func141 E E E ?_
 have hg0:=EC (n:=val n) hd0
 obtain⟨g,hg⟩:∃g,g=Nat.gcd (val n) (val d):=⟨_,rfl⟩
 have hgl:(lb g).length≤d.length:=Nat.le_trans (mJ (by rw[hg];exact Nat.gcd_le_right _ hd0)) (iX (cO d))
 obtain⟨e,he⟩:∃e,e=lb (val d/g):=⟨_,rfl⟩
 obtain⟨a,ha⟩:∃a,a=lb (val n/g):=⟨_,rfl⟩
 have hc:decide ((a.length:Int)>0)=decide (0<val n):=by
  have e0:=@iD (val n/g)
  have e1:val n/g=0↔val n=0:=by
   rw[hg]
   constructor
   ·intro h
    have:=Nat.div_mul_cancel (Nat.gcd_dvd_left (val n) (val d))
    rw[h] at this;omega
   ·intro h
    rw[h,Nat.zero_div]
  rw[←ha] at e0
  exact decide_eq_decide.2 (by omega)
 have hq:yK (val n) (val d)=if e=[1] then[] else e:=by
  unfold yK
  rw[←hg]
  by_cases h1:val d/g=1
  ·rw[if_pos h1,if_pos (by rw[he,h1,Aa])]
  ·rw[if_neg h1,if_neg (fun h=>h1 (HD.1 (he▸h))),he]
 rw[←hg] at hg0⊢
 rw[←ha]
 refine af (aa ?_)
 obtain⟨g6,w6,hr6,l6,x6,k6⟩:=gI (w:=w)
 refine aT E hr6 (ag (ab (af (aa (ac E E (ac E E (am FQ E E (FT (hn.ext x6) (hd.ext x6) hnl hdl) ?_)))))))
 rintro v16 w16 ⟨x16,b16⟩
 rw[←hg] at b16
 refine ae E E (ag (ab (af (aa (ac E E (ac E E (am nC E E ((by have:=nD (hn.ext (x6.trans x16)) b16 hnl (by omega) (by rw[bW];exact hg0);rw[bW,←ha] at this;exact this)) ?_)))))))
 rintro v20 w20 ⟨x20,q1,r1,rfl,s1,u1⟩
 refine ac E E (ao E E (fL) (ao E E fM (ao E E fN (ae E E (ae E E (ae E E (ag (ab ?_))))))))
 refine af (aa (ac E E (ac E E (am nC E E ((by have:=nD (hd.ext ((x6.trans x16).trans x20)) (b16.ext x20) hdl (by omega) (by rw[bW];exact hg0);rw[bW,←he] at this;exact this)) ?_))))
 rintro v27 w27 ⟨x27,q2,r2,rfl,s2,u2⟩
 refine ac E E (ao E E (fL) (ao E E fM (ao E E fN (ae E E (ae E E (ae E E (ag (ab ?_))))))))
 refine af ?_
 refine fg (fun p:Value=>[(0,B s),(8,q1),(11,p),(6,.pointer (some ⟨g6,0,none⟩))]) (fun p w'=>w27=w'∧bm (yK (val n) (val d)) p w') ?_ ?_
 ·refine af (aa (ac E E (aO E E (bC Ms s2) (al E E E (bi) (ac E E ?_)))))
  refine ce (fun h34=>?_) (fun h34=>?_)
  ·refine ai E (ac E E (ai E ?_))
   obtain⟨a36,p36,q36⟩:=db Ms s2 (i:=0) (by omega) .i64
   refine aq E E E (p36 _) (ai E (ak E E (aj Mu E q36) (ai E (al (v:=bH 1) E E E (mp) (ap E E E ?_)))))
   refine ag (ab ?_)
   refine bz E (fun h39=>?_) (fun h39=>?_)
   ·refine aa (ae E E (ag ?_))
    exact cu (.slice none 0 0) ⟨rfl,rfl,rfl,rfl,trivial⟩ ⟨rfl,by
     rw[hq]
     first
     |(rw[if_pos (by
        obtain⟨y,rfl⟩:=List.length_eq_one_iff.1 (show e.length=1 by omega)
        simpa using h39)];exact bm.nil _)
     |(rw[if_neg (fun h=>by subst h;exact h39 rfl)];exact s2)
     |(rw[if_neg (fun h=>by subst h;exact h34 rfl)];exact s2)⟩
   ·refine aC ?_
    exact cu (q2) ⟨rfl,rfl,rfl,rfl,trivial⟩ ⟨rfl,by
     rw[hq]
     first
     |(rw[if_pos (by
        obtain⟨y,rfl⟩:=List.length_eq_one_iff.1 (show e.length=1 by omega)
        simpa using h39)];exact bm.nil _)
     |(rw[if_neg (fun h=>by subst h;exact h39 rfl)];exact s2)
     |(rw[if_neg (fun h=>by subst h;exact h34 rfl)];exact s2)⟩
  ·refine an E E E (an E E E (an E E E (an E E E (aD E E E (ag (ab (cr E (aC ?_))))))))
   exact cu (q2) ⟨rfl,rfl,rfl,rfl,trivial⟩ ⟨rfl,by
    rw[hq]
    first
    |(rw[if_pos (by
       obtain⟨y,rfl⟩:=List.length_eq_one_iff.1 (show e.length=1 by omega)
       simpa using h39)];exact bm.nil _)
    |(rw[if_neg (fun h=>by subst h;exact h39 rfl)];exact s2)
    |(rw[if_neg (fun h=>by subst h;exact h34 rfl)];exact s2)⟩
 rintro v11 _ ⟨rfl,b11⟩
 refine ab (af ?_)
 cases s
 ·refine aa (ac E E (ac E E (an E E E (an E E E (an E E E (aD E E E (ac E E (ac E E ?_))))))))
  refine bA (vs:=[(0,B (BH false (val n))),(1,q1),(2,v11)]) E E (mK s1.isS b11.isS) ?_
  obtain⟨p,q,w3,hp,hs,q3,k3,n3,d3⟩:=(k6.ext (((x16.trans x20).trans x27))).stR ⟨_,_,_,rfl⟩ ⟨_,_,_,rfl⟩ (dm.mk (b:=BH false (val n)) (s1.ext x27) b11)
  refine au E E (hs) (ag (ab (aw ?_)))
  refine dx E E k3 Mw E dk ?_
  exact⟨_,rfl,((((x6.trans x16).trans x20).trans x27)).of_new q3 l6,p,q,rfl,n3,d3⟩
 ·refine aa (ac E E (ac E E (ai E (ac E E (ai E (aO E E (bC Ms (s1.ext x27)) (ai E (al E E E (ca) ?_))))))))
  rw[hc]
  refine ap E E E (ac E E (ac E E ?_))
  refine bA (vs:=[(0,B (BH true (val n))),(1,q1),(2,v11)]) E E (mK s1.isS b11.isS) ?_
  obtain⟨p,q,w3,hp,hs,q3,k3,n3,d3⟩:=(k6.ext (((x16.trans x20).trans x27))).stR ⟨_,_,_,rfl⟩ ⟨_,_,_,rfl⟩ (dm.mk (b:=BH true (val n)) (s1.ext x27) b11)
  refine au E E (hs) (ag (ab (aw ?_)))
  refine dx E E k3 Mw E dk ?_
  exact⟨_,rfl,((((x6.trans x16).trans x20).trans x27)).of_new q3 l6,p,q,rfl,n3,d3⟩
theorem BN {w:World} {b:Bool} {n m:List UInt32} {v:Value} (hv:dm b n m v w) (hnl:n.length≤137438953472) (hml:m.length≤137438953472):
 Calls Tryz.prog 106 #[v] w (bE fun r w'=>aK w w'∧dm (BH b (val n)) (lb (val n/Nat.gcd (val n) (val (ud m)))) (yK (val n) (val (ud m))) r w'):=by
 refine enter (vs:=[v]) Tryz.func106 E E E ?_
 have hu:(lb (val (ud m))).length≤137438953472:=Nat.le_trans (iX (cO _)) (HG hml)
 refine af (aa ?_)
 obtain⟨g1,y1,z1,w1,hr1,x1,k1,n1,d1⟩:=rC hv
 refine cM E E hr1 ?_
 obtain⟨g2,w2,hr2,l2,x2,k2⟩:=gI (w:=w1)
 refine aT E hr2 (ag (ab (af (bI 8 [2,10] (by kernel_rfl) (by kernel_rfl) ?_))))
 refine aW E E (fun w hw=>ar (o:=0) Mw E (by kernel_rfl) E) (aP E E (fun w hw=>aj MD E (hw.cell_some (x2.cell_some (k1.cell (i:=0) E)))) ?_)
 refine aW E E (fun w hw=>ar (o:=1) Mw E (by kernel_rfl) E) (aP E E (fun w hw=>aj Ms E (hw.cell_some (x2.cell_some (k1.cell (i:=1) E)))) ?_)
 refine aW E E (fun w hw=>ar (o:=2) Mw E (by kernel_rfl) E) (aP E E (fun w hw=>aj Ms E (hw.cell_some (x2.cell_some (k1.cell (i:=2) E)))) ?_)
 refine cn (S:=bm (lb (val (ud m)))) FY (bm.stable _) rfl (fun w hw=>by rintro _ rfl;exact FZ ((d1.ext x2).ext hw) hml) (cn (S:=dm (BH b (val n)) (lb (val n/Nat.gcd (val n) (val (ud m)))) (yK (val n) (val (ud m)))) Db (dm.stable _ _ _) rfl (fun w hw=>by rintro _ rfl _ rfl z hz;have:=Dc (s:=b) ((n1.ext x2).ext hw) hz (by omega) (by omega) (by rw[bW];exact HB m);rw[bW] at this;exact this) ?_)
 refine cq ?_
 intro wg1 xg1
 rintro _ rfl
 intro vg10 b9
 obtain⟨p,q,w3,hp,hs,q3,k3,n3,d3⟩:=(k2.ext xg1).stR ⟨_,_,_,rfl⟩ ⟨_,_,_,rfl⟩ b9
 refine au E E (hs) (ag (ab (aw ?_)))
 refine dx E E k3 Mw E dk ?_
 exact⟨_,rfl,(((x1.trans x2).trans xg1)).of_new q3 (Nat.le_trans x1.size l2),p,q,rfl,n3,d3⟩
theorem wH {w:World} {a b:Bool} {n m p q:List UInt32} {v u:Value} (hv:dm a n m v w) (hu:dm b p q u w):
 Calls Tryz.prog 105 #[v,u] w (bE fun r w'=>aK w w'∧r=B (decide (a=b∧n=p∧m=q))):=by
 refine enter (vs:=[v,u]) Tryz.func105 E E E ?_
 refine af (aa ?_)
 obtain⟨g2,y2,z2,w2,hr2,x2,k2,n2,d2⟩:=rC hv
 refine cM E E hr2 ?_
 obtain⟨g3,y3,z3,w3,hr3,x3,k3,n3,d3⟩:=rC (hu.ext x2)
 refine cM E E hr3 (ae E E (ag (ab (af (aa (ah E E (ar (o:=0) Mw E (by kernel_rfl) E) ?_))))))
 refine ak E E (aj MD E (x3.cell_some (k2.cell (i:=0) E))) (ah E E (ar (o:=0) Mw E (by kernel_rfl) E) ?_)
 refine ak E E (aj MD E (k3.cell (i:=0) E)) (al E E E (vC MD) (ac E E ?_))
 refine ce (fun h10=>?_) (fun h10=>?_)
 ·refine ai E (ah E E (ar (o:=1) Mw E (by kernel_rfl) E) (ai E (ak E E (aj Ms E (x3.cell_some (k2.cell (i:=1) E))) ?_)))
  refine ai E (ah E E (ar (o:=1) Mw E (by kernel_rfl) E) (ai E (ak E E (aj Ms E (k3.cell (i:=1) E)) ?_)))
  refine ai E (am wu E E (wv (n2.ext x3) n3) ?_)
  rintro v15 w15 ⟨x15,rfl⟩
  refine ap E E E (ac E E ?_)
  refine ce (fun h17=>?_) (fun h17=>?_)
  ·refine ai E (ah E E (ar (o:=2) Mw E (by kernel_rfl) E) (ai E (ak E E (aj Ms E ((x3.trans x15).cell_some (k2.cell (i:=2) E))) ?_)))
   refine ai E (ah E E (ar (o:=2) Mw E (by kernel_rfl) E) (ai E (ak E E (aj Ms E (x15.cell_some (k3.cell (i:=2) E))) ?_)))
   refine ai E (am wu E E (wv (d2.ext (x3.trans x15)) (d3.ext x15)) ?_)
   rintro v22 w22 ⟨x22,rfl⟩
   refine ap E E E (ae E E (ag (ab (aw (az E E ?_)))))
   exact⟨_,rfl,(((x2.trans x3).trans x15).trans x22),by
    first
    |exact congrArg B (decide_eq_decide.2 ⟨fun h=>⟨h10,h17,h⟩,fun h=>h.2.2⟩)
    |exact congrArg B (decide_eq_false fun h=>h17 h.2.1).symm
    |exact congrArg B (decide_eq_false fun h=>h10 h.1).symm⟩
  ·refine an E E E (an E E E (an E E E (an E E E (an E E E (aD E E E (ae E E (ag (ab (aw (az E E ?_))))))))))
   exact⟨_,rfl,((x2.trans x3).trans x15),by
    first
    |exact congrArg B (decide_eq_decide.2 ⟨fun h=>⟨h10,h17,h⟩,fun h=>h.2.2⟩)
    |exact congrArg B (decide_eq_false fun h=>h17 h.2.1).symm
    |exact congrArg B (decide_eq_false fun h=>h10 h.1).symm⟩
 ·refine an E E E (an E E E (an E E E (an E E E (an E E E (aD E E E (ac E E (an E E E (an E E E (an E E E ?_)))))))))
  refine an E E E (an E E E (aD E E E (ae E E (ag (ab (aw (az E E ?_)))))))
  exact⟨_,rfl,(x2.trans x3),by
   first
   |exact congrArg B (decide_eq_decide.2 ⟨fun h=>⟨h10,h17,h⟩,fun h=>h.2.2⟩)
   |exact congrArg B (decide_eq_false fun h=>h17 h.2.1).symm
   |exact congrArg B (decide_eq_false fun h=>h10 h.1).symm⟩
theorem ph {w:World} {b:Bool} {n m:List UInt32} {v:Value} (hv:dm b n m v w) (hnl:n.length≤137438953472) (hml:m.length≤137438953472):
 Calls Tryz.prog 59 #[v] w (bE fun r w'=>aK w w'∧r=B (rv b n m)):=by
 refine enter (vs:=[v]) Tryz.func59 E E E ?_
 refine af (aa ?_)
 obtain⟨g1,y1,z1,w1,hr1,x1,k1,n1,d1⟩:=rC hv
 refine cM E E hr1 (ae E E (ag (ab (af (bI 4 [6] (by kernel_rfl) (by kernel_rfl) ?_)))))
 refine aP rfl rfl (fun w hw=>(k1.ext hw).ldR) (aP rfl rfl (fun w hw=>(k1.ext hw).ldR) (cn (S:=dm (BH b (val n)) (lb (val n/Nat.gcd (val n) (val (ud m)))) (yK (val n) (val (ud m)))) BM (dm.stable _ _ _) rfl (fun w hw=>by rintro _ rfl;exact BN ((dm.mk n1 d1).ext hw) hnl hml) ?_))
 refine cn (S:=Is (B (rv b n m))) nH (cb.is _) rfl (fun w hw=>by rintro _ rfl z hz;exact wH ((dm.mk n1 d1).ext hw) hz) (cq ?_)
 intro wg1 xg1
 rintro _ rfl
 refine ae E E (ag (ab (aw (az E E ?_))))
 exact⟨_,rfl,(x1.trans xg1),rfl⟩
end Go.Rl
namespace Go.Rl
open Go.RowKit Go.Proofs
theorem t7:aG Tryz.prog 92:=⟨_,Tryz.func92,by kernel_rfl,rfl⟩
theorem yL:aG Tryz.prog 90:=⟨_,Tryz.func90,by kernel_rfl,rfl⟩
def oA (l:List UInt8):Option (List UInt8×List UInt8):=(eW l).bind fun p=>if p.1≤p.2.length then some (p.2.take p.1,p.2.drop p.1) else none
theorem wI {m:List UInt8} (h:m.length<18446744073709551616) (t:List UInt8):oA (gY m++t)=some (m,t):=by
 unfold oA gY
 rw[List.append_assoc,rt h]
 simp
section
variable {w:World} {g:Nat}
theorem BO {st:Option (List UInt8)} (hr:cV g st w):Calls Tryz.prog 124 #[.pointer (some ⟨g,0,none⟩)] w (bE fun r w'=>w.grownBy w' (some g)∧match st.bind eW with
 |some (n,t)=>r=.tuple #[bF (UInt64.ofNat n),B true]∧cV g (some t) w'
 |none=>r=.tuple #[bF 0,B false]∧∃l',cV g l' w'):=by
 cases st with
 |none=>exact(ov hr).mono fun e w' ⟨v,he,hv,hw⟩=>⟨v,he,by subst hw;exact⟨kx _ _,hv,none,hr⟩⟩
 |some l=>
  refine(qW hr).mono fun e w' ⟨v,he,hg,hv⟩=>⟨v,he,hg,?_⟩
  show match eW l with|some (n,t)=>_|none=>_
  cases hrd:eW l with
  |none=>rw[hrd] at hv;exact⟨hv.1,hv.2.imp' some fun _ h=>h⟩
  |some p=>rw[hrd] at hv;exact hv
theorem F0 {st:Option (List UInt8)} (hr:cV g st w):
 Calls Tryz.prog 90 #[.pointer (some ⟨g,0,none⟩)] w (bE fun r w'=>r=I ((st.getD []).length:Nat)∧w'=w):=by
 obtain⟨A,n,c,h1,h2,_⟩:=hr
 refine enter (vs:=[.pointer (some ⟨g,0,none⟩)]) Tryz.func90 E E E ?_
 refine af (aa (ae E E (ag (ab (af (af (aa (ac E E ?_))))))))
 refine al E E E (gF MU) ?_
 refine ag (ab ?_)
 refine cr E ?_
 refine aC (ab (af (aa (ac E E ?_))))
 refine ax E E ?_
 refine ah E E (cA MT E dB (by omega)) ?_
 refine ak E E (aj MB E (ju (i:=0) h1 E)) ?_
 refine aO E E (cT h2) ?_
 refine ae E E (ag (ab (aw ?_)))
 refine az E E ?_
 exact⟨_,rfl,rfl,rfl⟩
theorem F1 {st:Option (List UInt8)} (hr:cV g st w):
 Calls Tryz.prog 92 #[.pointer (some ⟨g,0,none⟩)] w (bE fun r w'=>r=I (if st=some [] then 0 else 5)∧w'=w):=by
 obtain⟨A,n,c,h1,h2,_⟩:=hr
 refine enter (vs:=[.pointer (some ⟨g,0,none⟩)]) Tryz.func92 E E E ?_
 refine af (aa (ae E E (ag (ab (af (af (aa (ac E E ?_))))))))
 refine al E E E (iu MU) ?_
 refine ac E E (ai E (ac E E (ai E ?_)))
 refine ax E E ?_
 refine ai E (ah E E (cA MT E gX (by omega)) ?_)
 refine ai E (ak E E (aj MD E (ju (i:=1) h1 E)) ?_)
 cases st with
 |none=>
  refine ai E (ac E E ?_)
  iterate 6 refine an rfl rfl rfl ?_
  refine ai E (ap E E E (ap E E E (ag (ab ?_))))
  refine bg E ?_
  refine af (aa (ae E E (ag (ab (aw (ay ?_))))))
  refine az E E ?_
  exact⟨_,rfl,rfl,rfl⟩
 |some l=>
  have h2':cJ l (.slice A n c) w:=h2
  refine ai E (ac E E (ai E (ac E E (ai E ?_))))
  refine ax E E ?_
  refine ai E (ah E E (cA MT E dB (by omega)) ?_)
  refine ai E (ak E E (aj MB E (ju (i:=0) h1 E)) ?_)
  refine ai E (aO E E (cT h2') ?_)
  refine ai E (al E E E ca ?_)
  refine ai E (aD E E E (ap E E E (ag (ab ?_))))
  refine bz E (fun h=>?_) (fun h=>?_)
  ·refine af (aa (ae E E (ag (ab (aw (ay ?_))))))
   refine az E E ?_
   have:some l≠some []:=by rintro⟨⟩;simp at h
   rw[if_neg this]
   exact⟨_,rfl,rfl,rfl⟩
  ·refine aC (ab (af (aa (ae E E (ag (ab (aw ?_)))))))
   refine az E E ?_
   have:l=[]:=List.eq_nil_of_length_eq_zero (by omega)
   subst this
   exact⟨_,rfl,rfl,rfl⟩
end
end Go.Rl
namespace Go.Rl
open Go.RowKit Go.Proofs
structure Kp (w w':World):Prop where
 size:w.heap.size≤w'.heap.size
 bts:∀{l:List UInt8} {v:Value},cJ l v w→cJ l v w'
 wds:∀{l:List UInt32} {v:Value},bm l v w→bm l v w'
theorem Kp.trans {a b c:World} (h:Kp a b) (k:Kp b c):Kp a c:=⟨Nat.le_trans h.size k.size,fun x=>k.bts (h.bts x),fun x=>k.wds (h.wds x)⟩
theorem cJ.kp {w w':World} {l:List UInt8} {v:Value} (h:cJ l v w) (k:Kp w w'):cJ l v w':=k.bts h
theorem bm.kp {w w':World} {l:List UInt32} {v:Value} (h:bm l v w) (k:Kp w w'):bm l v w':=k.wds h
def eA (T:TypeId) (g:Nat) (st:Option (List UInt8)) (w:World):Prop:=∃A n c,ct g T [.slice A n c,B st.isNone] w∧cJ (st.getD []) (.slice A n c) w∧ru A g
theorem cV.rdT {g:Nat} {st:Option (List UInt8)} {w:World} (h:cV g st w):eA 204 g st w:=h
theorem eA.rdAt {g:Nat} {st:Option (List UInt8)} {w:World} (h:eA 204 g st w):cV g st w:=h
section
variable {T:TypeId} {g:Nat} {st:Option (List UInt8)} {w w':World}
theorem eA.ext (h:eA T g st w) (hx:aK w w'):eA T g st w':=by
 obtain⟨A,n,c,h1,h2,h3⟩:=h
 exact⟨A,n,c,h1.ext hx,h2.ext hx,h3⟩
theorem F3 (A:Option Addr) (n c:Nat) (b:Bool) (l:List UInt32):∀(j:Nat) (u:Value),u∈l.map bH→(#[.slice A n c,.bool b]:Array Value)[j]? ≠some u:=by
 intro j u hu
 obtain⟨x,_,rfl⟩:=List.mem_map.1 hu
 match j with
 |0=>simp[bH]
 |1=>simp[bH]
 |j+2=>simp
theorem eA.kp (hr:eA T g st w) (hw:w.grownBy w' (some g)):Kp w w':=by
 obtain⟨A,n,c,h1,_⟩:=hr
 exact⟨hw.size,fun h=>Sl.keep h h1 (yu A n c _ _) hw,fun h=>Sl.keep h h1 (F3 A n c _ _) hw⟩
theorem eA.set {l l':List UInt8} {v:Value} (h:eA T g (some l) w) (hv:cJ l' v w) (hloc:∀A n c,v=.slice A n c→ru A g):
 ∃w',(Instr.storeAt 22 (.pointer (some ⟨g,0,none⟩)) v).run Tryz.prog w=.ok () w'∧w.grownBy w' (some g)∧eA T g (some l') w':=by
 obtain⟨A,n,c,h1,h2,h4⟩:=h
 obtain⟨A',n',c',rfl,h3⟩:=id hv
 have hg:=bh w g 0 (.slice A' n' c')
 have hk:=eA.kp (T:=T) (st:=some l) ⟨A,n,c,h1,h2,h4⟩ hg
 refine⟨_,dR (i:=0) dB E h1 (by simp),hg,A',n',c',h1.set 0 _,hk.bts hv,hloc _ _ _ rfl⟩
end
theorem Dd (b:Bool) (A C:Option Addr) (n c m d:Nat) (l:List UInt8):∀(j:Nat) (u:Value),u∈l.map U8→(#[.bool b,.slice A n c,.slice C m d]:Array Value)[j]? ≠some u:=by
 intro j u hu
 obtain⟨x,_,rfl⟩:=List.mem_map.1 hu
 match j with
 |0=>simp[U8]
 |1=>simp[U8]
 |2=>simp[U8]
 |j+3=>simp
theorem ct.kpR {g:Nat} {T:TypeId} {b:Bool} {x y:Value} {w w':World} (h:ct g T [B b,x,y] w) (hx:∃A n c,x=.slice A n c) (hy:∃A n c,y=.slice A n c) (hw:w.grownBy w' (some g)):Kp w w':=by
 obtain⟨A,n,c,rfl⟩:=hx
 obtain⟨C,m,d,rfl⟩:=hy
 exact⟨hw.size,fun k=>Sl.keep k h (Dd b A C n c m d _) hw,fun k=>Sl.keep k h (wG b A C n c m d _) hw⟩
theorem eA.off {T:TypeId} {g g':Nat} {st:Option (List UInt8)} {w w':World} (h:eA T g st w) (k:Kp w w') (hw:w.grownBy w' (some g')) (hne:g≠g'):eA T g st w':=by
 obtain⟨A,n,c,h1,h2,h3⟩:=h
 exact⟨A,n,c,h1.other hw (fun e=>hne (Option.some.inj e)),h2.kp k,h3⟩
theorem fq {w w1 w2:World} {row:Option Nat} {g:Nat} (h:w.grownBy w1 row) (q:w1.grownBy w2 (some g)) (hg:w.heap.size≤g):w.grownBy w2 row:=
 ⟨q.os.trans h.os,q.tape.trans h.tape,q.output.trans h.output,Nat.le_trans h.size q.size,fun i hi hne=>(q.block i (Nat.lt_of_lt_of_le hi h.size) (fun e=>by have:=Option.some.inj e;omega)).trans (h.block i hi hne)⟩
theorem cD {P:Program} {fn:Func} {R:Ending→World→Prop} {N:Nat} {fr:Fr} {p s:Tmp} {t T:TypeId} {u:Value} {l:List Value} {w:World} {g:Nat} {d:TypeDesc} (hr:fn.results= #[.cell p t,.tmp s]) (hv:lk fr p=some (.pointer (some ⟨g,0,none⟩))) (hs:lk fr s=some u) (hb:ct g T l w) (hu:P.underlying t=some d) (hd:d.isRow=true) (hi:(P.info? t).map (·.size)=some l.length)
 (h:R (.returned (.tuple #[.agg l.toArray,u])) w):ir (bodyPost P fn R) N [] fr w .ret:=fun a ha=>by
 refine⟨ha.defers,.tuple #[.agg l.toArray,u],?_,h⟩
 have hp:=ha.at_ p _ hv
 have hp':a.tmps[p]?.getD undef=.pointer (some ⟨g,0,none⟩):=by simpa using hp
 have hq:=ha.at_ s _ hs
 have hl:=run_loadVar_row w g T t l.toArray (0,0) d hb hu (by cases d<;>first|rfl|exact hd) (by simpa using hi)
 simp[results,hr,hp',asAddr,hl,←hq]
def uz (n:Nat):Int:=if n%2=0 then((n/2:Nat):Int) else-((n/2:Nat):Int)-1
theorem KX (n:Int):uz (CO n)=n:=by
 unfold uz CO
 split<;>split<;>omega
theorem KY (n:Nat):CO (uz n)=n:=by
 unfold uz CO
 split<;>split<;>omega
theorem Jw {P:Program} {w:World} {t:TypeId} {x y:Operand} {q:Nat} (hq:q<9223372036854775808):(bin .xor t x y (I (q:Int)) (I 0)).run P w=.ok (I (q:Int)) w:=by
 have h:=Ek (P:=P) (w:=w) (t:=t) (x:=x) (y:=y) (a:=Int64.ofInt q) (b:=Int64.ofInt 0)
 rw[Int64.toInt_ofInt_of_le (by simp) (by simp;omega)] at h
 have e:(Int64.ofInt q^^^Int64.ofInt 0).toInt=q:=by
  rw[show Int64.ofInt 0=0 from rfl,Int64.xor_zero,Int64.toInt_ofInt_of_le (by simp) (by simp;omega)]
 rw[e] at h
 exact h
theorem Jx {P:Program} {w:World} {t:TypeId} {x y:Operand} {q:Nat} (hq:q<9223372036854775808):(bin .xor t x y (I (q:Int)) (I (-1))).run P w=.ok (I (-(q:Int)-1)) w:=by
 have h:=Ek (P:=P) (w:=w) (t:=t) (x:=x) (y:=y) (a:=Int64.ofInt q) (b:=Int64.ofInt (-1))
 rw[Int64.toInt_ofInt_of_le (by simp) (by simp;omega)] at h
 have e:(Int64.ofInt q^^^Int64.ofInt (-1)).toInt= -(q:Int)-1:=by
  have:Int64.ofInt q^^^Int64.ofInt (-1)= ~~~(Int64.ofInt q):=by
   apply Int64.toBitVec_inj.1
   rw[Int64.toBitVec_xor,Int64.toBitVec_not]
   have:(Int64.ofInt (-1)).toBitVec=BitVec.allOnes 64:=by decide
   rw[this,BitVec.xor_allOnes]
  rw[this,Int64.toInt_not,Int64.toInt_ofInt_of_le (by simp) (by simp;omega)]
  exact Int.bmod_eq_of_le (by simp;omega) (by simp;omega)
 rw[e] at h
 exact h
def w4 (a b c d:UInt8):UInt32:=UInt32.ofNat (a.toNat+256*b.toNat+65536*c.toNat+16777216*d.toNat)
theorem Ac (a b c d:UInt8):(w4 a b c d).toNat=a.toNat+256*b.toNat+65536*c.toNat+16777216*d.toNat:=by
 have:=a.toNat_lt;have:=b.toNat_lt;have:=c.toNat_lt;have:=d.toNat_lt
 unfold w4
 rw[UInt32.toNat_ofNat']
 omega
theorem KZ (x:UInt32):w4 x.toUInt8 (x>>>UInt32.ofNat 8).toUInt8 (x>>>UInt32.ofNat 16).toUInt8 (x>>>UInt32.ofNat 24).toUInt8=x:=by
 have:=de x
 refine kB ?_
 rw[Ac]
 simp only[UInt32.toNat_toUInt8,UInt32.toNat_shiftRight,show(UInt32.ofNat 8).toNat=8 from rfl,show(UInt32.ofNat 16).toNat=16 from rfl,show(UInt32.ofNat 24).toNat=24 from rfl,Nat.shiftRight_eq_div_pow,Nat.reduceMod,Nat.reducePow]
 omega
theorem K0 (a b c d:UInt8):CI (w4 a b c d)=[a,b,c,d]:=by
 have ha:=a.toNat_lt;have hb:=b.toNat_lt;have hc:=c.toNat_lt;have hd:=d.toNat_lt
 have e:∀x y:UInt8,x.toNat=y.toNat→x=y:=fun x y h=>UInt8.toNat_inj.1 h
 have h:=Ac a b c d
 unfold CI
 congr 1
 ·refine e _ _ ?_
  rw[UInt32.toNat_toUInt8,h];omega
 congr 1
 ·refine e _ _ ?_
  rw[UInt32.toNat_toUInt8,UInt32.toNat_shiftRight,h,show(UInt32.ofNat 8).toNat%32=8 from rfl,Nat.shiftRight_eq_div_pow];omega
 congr 1
 ·refine e _ _ ?_
  rw[UInt32.toNat_toUInt8,UInt32.toNat_shiftRight,h,show(UInt32.ofNat 16).toNat%32=16 from rfl,Nat.shiftRight_eq_div_pow];omega
 congr 1
 ·refine e _ _ ?_
  rw[UInt32.toNat_toUInt8,UInt32.toNat_shiftRight,h,show(UInt32.ofNat 24).toNat%32=24 from rfl,Nat.shiftRight_eq_div_pow];omega
theorem De (a:UInt8):a.toUInt32.toNat=a.toNat:=by simp
theorem L1 (a b c d:UInt8):((a.toUInt32|||(b.toUInt32<<<UInt32.ofNat 8))|||(c.toUInt32<<<UInt32.ofNat 16))|||(d.toUInt32<<<UInt32.ofNat 24)=w4 a b c d:=by
 have ha:=a.toNat_lt;have hb:=b.toNat_lt;have hc:=c.toNat_lt;have hd:=d.toNat_lt
 have sh:∀(x:UInt8) (k:Nat),k≤24→(x.toUInt32<<<UInt32.ofNat k).toNat=x.toNat<<<k:=fun x k hk=>by
  have hx:=x.toNat_lt
  rw[UInt32.toNat_shiftLeft,De]
  have:(UInt32.ofNat k).toNat%32=k:=by rw[UInt32.toNat_ofNat'];omega
  rw[this,Nat.shiftLeft_eq]
  have:2^k≤2^24:=Nat.pow_le_pow_right (by omega) hk
  have:x.toNat*2^k≤255*2^24:=Nat.mul_le_mul (by omega) this
  omega
 refine kB ?_
 rw[Ac]
 simp only[UInt32.toNat_or,sh _ 8 (by omega),sh _ 16 (by omega),sh _ 24 (by omega),De]
 rw[Nat.or_comm a.toNat,←Nat.shiftLeft_add_eq_or_of_lt (by omega),Nat.or_comm _ (c.toNat<<<16),←Nat.shiftLeft_add_eq_or_of_lt (by rw[Nat.shiftLeft_eq];omega),Nat.or_comm _ (d.toNat<<<24),←Nat.shiftLeft_add_eq_or_of_lt (by simp only[Nat.shiftLeft_eq];omega)]
 simp only[Nat.shiftLeft_eq]
 omega
theorem K3 (a b c d:UInt8):((a.toUInt32+(b.toUInt32*256))+(c.toUInt32*65536))+(d.toUInt32*16777216)=w4 a b c d:=by
 have ha:=a.toNat_lt;have hb:=b.toNat_lt;have hc:=c.toNat_lt;have hd:=d.toNat_lt
 refine kB ?_
 rw[Ac]
 simp only[UInt32.toNat_add,UInt32.toNat_mul,De,show(256:UInt32).toNat=256 from rfl,show(65536:UInt32).toNat=65536 from rfl,show(16777216:UInt32).toNat=16777216 from rfl]
 omega
def di:List UInt8→List UInt32
 |a::b::c::d::l=>w4 a b c d::di l
 |_=>[]
theorem iY:∀(n:Nat) (l:List UInt8),l.length=4*n→(di l).length=n
 |0,[],_=>rfl
 |n+1,a::b::c::d::l,h=>by
  have:=iY n l (by simp at h;omega)
  simp[di,this]
 |n+1,[],h=>by simp at h
 |n+1,[_],h=>by simp at h;omega
 |n+1,[_,_],h=>by simp at h;omega
 |n+1,[_,_,_],h=>by simp at h;omega
theorem wJ:∀(l:List UInt32),di (iy l)=l
 |[]=>rfl
 |x::l=>by
  have e:iy (x::l)=CI x++iy l:=by simp[iy]
  rw[e,CI,List.cons_append,List.cons_append,List.cons_append,List.cons_append,List.nil_append,di,KZ,wJ l]
theorem wK:∀(n:Nat) (l:List UInt8),l.length=4*n→iy (di l)=l
 |0,[],_=>rfl
 |n+1,a::b::c::d::l,h=>by
  have:=wK n l (by simp at h;omega)
  have e:∀x (l:List UInt32),iy (x::l)=CI x++iy l:=fun x l=>by simp[iy]
  rw[di,e,this,K0];rfl
 |n+1,[],h=>by simp at h
 |n+1,[_],h=>by simp at h;omega
 |n+1,[_,_],h=>by simp at h;omega
 |n+1,[_,_,_],h=>by simp at h;omega
theorem rG:∀(i:Nat) (l:List UInt8) (h:4*(i+1)≤l.length),di (l.take (4*(i+1)))=di (l.take (4*i))++[w4 (l[4*i]) (l[4*i+1]) (l[4*i+2]) (l[4*i+3])]
 |0,a::b::c::d::l,_=>by simp[di]
 |i+1,a::b::c::d::l,h=>by
  have:=rG i l (by simp at h;omega)
  have e1:4*(i+1+1)=4*(i+1)+4:=by omega
  have e2:4*(i+1)=4*i+4:=by omega
  simp only[e1,List.take_succ_cons,di,this]
  simp only[e2,List.take_succ_cons,di,List.cons_append]
  rfl
 |i,[],h=>by simp at h
 |i,[_],h=>by simp at h;omega
 |i,[_,_],h=>by simp at h;omega
 |i,[_,_,_],h=>by simp at h;omega
def tj (l:List UInt8):Option (List UInt32×List UInt8):=(eW l).bind fun p=>
 if p.1≤p.2.length/4∧lb (val (di (p.2.take (4*p.1))))=di (p.2.take (4*p.1)) then some (di (p.2.take (4*p.1)),p.2.drop (4*p.1)) else none
theorem BP {m:List UInt32} (h:m.length<18446744073709551616) (hm:lb (val m)=m) (t:List UInt8):tj (jy m++t)=some (m,t):=by
 have hl:=eU m
 have e1:(iy m++t).take (4*m.length)=iy m:=by rw[←hl,List.take_left'];rfl
 have e2:(iy m++t).drop (4*m.length)=t:=by rw[←hl,List.drop_left'];rfl
 unfold tj jy
 rw[List.append_assoc,rt h]
 show(if m.length≤(iy m++t).length/4∧lb (val (di ((iy m++t).take (4*m.length))))=di ((iy m++t).take (4*m.length)) then some (di ((iy m++t).take (4*m.length)),(iy m++t).drop (4*m.length)) else none)=_
 rw[e1,e2,wJ,if_pos ⟨by simp only[List.length_append,hl];omega,hm⟩]
theorem gf {l t:List UInt8} {m:List UInt32} (h:tj l=some (m,t)):l=jy m++t∧lb (val m)=m∧m.length<18446744073709551616:=by
 unfold tj at h
 cases hu:eW l with
 |none=>rw[hu] at h;cases h
 |some p=>
  obtain⟨n,u⟩:=p
  rw[hu] at h
  have h:(if n≤u.length/4∧lb (val (di (u.take (4*n))))=di (u.take (4*n)) then some (di (u.take (4*n)),u.drop (4*n)) else none)=some (m,t):=h
  split at h
  ·rename_i hc
   simp only[Option.some.injEq,Prod.mk.injEq] at h
   have hl:(u.take (4*n)).length=4*n:=by rw[List.length_take];omega
   have hn:=iY n _ hl
   obtain⟨h1,h2⟩:=f9 hu
   rw[←h.1,←h.2]
   refine⟨?_,hc.2,by omega⟩
   unfold jy
   rw[hn,wK n _ hl,List.append_assoc,List.take_append_drop]
   exact h1
  ·cases h
def jp:List UInt8→Option ((Bool×List UInt32×List UInt32)×List UInt8)
 |[]=>none
 |c::l=>if 1<c.toNat then none else(tj l).bind fun p=>(tj p.2).bind fun q=>if rv (decide (c.toNat=1)) p.1 q.1=true then some ((decide (c.toNat=1),p.1,q.1),q.2) else none
end Go.Rl
namespace Go.Rl
open Go.RowKit Go.Proofs
theorem mO:aG Tryz.prog 178:=⟨_,Tryz.func178,by kernel_rfl,rfl⟩
theorem yM:aG Tryz.prog 159:=⟨_,Tryz.func159,by kernel_rfl,rfl⟩
theorem yN:aG Tryz.prog 158:=⟨_,Tryz.func158,by kernel_rfl,rfl⟩
section
variable {w:World} {g:Nat}
theorem HH {st:Option (List UInt8)} (hr:cV g st w) (h:st.bind eW=none):Calls Tryz.prog 124 #[.pointer (some ⟨g,0,none⟩)] w (bE fun r w'=>w.grownBy w' (some g)∧r=.tuple #[bF 0,B false]∧∃l',cV g l' w'):=by
 have:=BO hr
 rw[h] at this
 exact this
theorem HI {st:Option (List UInt8)} {n:Nat} {t:List UInt8} (hr:cV g st w) (h:st.bind eW=some (n,t)):Calls Tryz.prog 124 #[.pointer (some ⟨g,0,none⟩)] w (bE fun r w'=>w.grownBy w' (some g)∧r=.tuple #[bF (UInt64.ofNat n),B true]∧cV g (some t) w'):=by
 have:=BO hr
 rw[h] at this
 exact this
end
theorem HJ {st:Option (List UInt8)} (h:st.bind eW=none):st.bind tj=none:=by
 cases st with
 |none=>rfl
 |some l=>
  have h:eW l=none:=h
  show tj l=none
  unfold tj
  rw[h];rfl
theorem rH {st:Option (List UInt8)} {n:Nat} {t:List UInt8} (h:st.bind eW=some (n,t)):st.bind tj=if n≤t.length/4∧lb (val (di (t.take (4*n))))=di (t.take (4*n)) then some (di (t.take (4*n)),t.drop (4*n)) else none:=by
 cases st with
 |none=>cases h
 |some l=>
  have h:eW l=some (n,t):=h
  show tj l=_
  unfold tj
  rw[h];rfl
theorem tk {st:Option (List UInt8)} {n:Nat} {t:List UInt8} {k:Nat} (h:st.bind eW=some (n,t)) (hl:∀l,st=some l→l.length≤k):t.length≤k∧n<18446744073709551616:=by
 cases st with
 |none=>cases h
 |some l=>
  obtain⟨h1,h2⟩:=f9 (show eW l=some (n,t) from h)
  have:=hl l rfl
  rw[h1,List.length_append] at this
  exact⟨by omega,h2⟩
def rI (b:Nat) (v:Value):Prop:=∀k,v.ownBlock=some k→b≤k
theorem wO {s t:Bool} {a b c d:Value} (h:(Value.agg #[B s,a,b])=.agg #[B t,c,d]):a=c∧b=d:=by
 injection h with h
 have:=congrArg Array.toList h
 simp only[List.cons.injEq] at this
 exact⟨this.2.1,this.2.2.1⟩
def NatR (g:Nat) (w:World) (o:Option (List UInt32×List UInt8)) (r:Value) (w':World):Prop:=
 w.grownBy w' (some g)∧match o with
  |some (m,t)=>∃v,r=.tuple #[v,B true]∧bm m v w'∧cV g (some t) w'∧rI w.heap.size v
  |none=>∃v,r=.tuple #[v,B false]∧(∃m,bm m v w')∧∃l',cV g l' w'
theorem yO {w:World} {g:Nat} {st:Option (List UInt8)} (hr:cV g st w) (hl:∀l,st=some l→l.length≤549755813888):
 Calls Tryz.prog 178 #[.pointer (some ⟨g,0,none⟩)] w (bE (NatR g w (st.bind tj))):=by
 refine enter (vs:=[.pointer (some ⟨g,0,none⟩)]) Tryz.func178 E E E ?_
 refine af (aa (ae E E (ae E E (ag (ab (af ?_))))))
 rcases hU:st.bind eW with _|⟨n,t⟩
 ·refine aa (ac E E (am lQ E E (HH hr hU) ?_))
  rintro v11 w11 ⟨x11,rfl,l',hr1⟩
  have m11:=(hr.rdT).kp x11
  refine ac E E (ao E E (bj) (ao E E (bk) (ae E E (ae E E (ag (ab (af (af (aa (ac E E (bt E E bu ?_)))))))))))
  refine ac E E (an E E E (an E E E (an E E E (an E E E (an E E E (an E E E (an E E E (an E E E (an E E E ?_)))))))))
  refine ap E E E (ag (ab (bg E (af (aa (ae E E (ae E E (ag (ab (aw (ay (bf E E E ?_))))))))))))
  exact⟨_,rfl,x11,by rw[HJ hU];exact⟨_,rfl,⟨_,bm.nil _⟩,l',hr1⟩⟩
 ·obtain⟨ht,hn⟩:=tk hU hl
  have hnn:(UInt64.ofNat n).toNat=n:=by rw[UInt64.toNat_ofNat'];omega
  refine aa (ac E E (am lQ E E (HI hr hU) ?_))
  rintro v11 w11 ⟨x11,rfl,hr1⟩
  have m11:=(hr.rdT).kp x11
  refine ac E E (ao E E (bj) (ao E E (bk) ?_))
  obtain⟨A,n',c,k,b,_⟩:=hr1.rdT
  have b:cJ t (.slice A n' c) w11:=b
  refine ae E E (ae E E (ag (ab (af (af (aa (ac E E (bt E E bu (ac E E (ai E (ac E E (ai E (ac E E ?_)))))))))))))
  refine ai E (ax E E (ai E (ah E E (ar (o:=0) MT E (by kernel_rfl) E) (ai E (ak E E (aj MB E (k.cell (i:=0) E)) ?_)))))
  refine ai E (aO E E (cT b) (ai E (a9 E E (fv Mx MA) (ai E (al (v:=bF 4) E E E (iV (by decide)) ?_)))))
  refine ai E (al E E E (cQ) (aD E E E (ag (ab ?_))))
  refine bz E (fun h26=>?_) (fun h26=>?_)
  ·have hlong:t.length/4<n:=by
    have h26:=UInt64.lt_iff_toNat_lt.1 h26
    rw[UInt64.toNat_div,hnn,UInt64.toNat_ofNat',show(4:UInt64).toNat=4 from rfl] at h26
    omega
   refine af (aa (ae E E (ae E E (ag (ab (aw (ay (bf E E E ?_))))))))
   exact⟨_,rfl,x11,by rw[rH hU,if_neg (by omega)];exact⟨_,rfl,⟨_,bm.nil _⟩,_,hr1⟩⟩
  ·have hle:n≤t.length/4:=by
    refine Nat.le_of_not_lt fun hh=>h26 (UInt64.lt_iff_toNat_lt.2 ?_)
    rw[UInt64.toNat_div,hnn,UInt64.toNat_ofNat',show(4:UInt64).toNat=4 from rfl]
    omega
   have h4n:(4*UInt64.ofNat n).toNat=4*n:=by
    rw[UInt64.toNat_mul,hnn,show(4:UInt64).toNat=4 from rfl]
    omega
   obtain⟨bs,hbs⟩:∃bs,bs=t.take (4*n):=⟨_,rfl⟩
   have hbl:bs.length=4*n:=by rw[hbs,List.length_take];omega
   refine aC (ab (af (aa (ac E E (ac E E (al (u:=bF 4) E E E (gT) (am jv E E ((by have:=vV (n:=4*UInt64.ofNat n) hr1 (by rw[h4n];omega);rw[h4n,←hbs] at this;exact this)) ?_)))))))
   rintro v31 w31 ⟨b31,rfl,hb31,hr2,g31⟩
   have m31:=(hr1.rdT).kp g31
   refine ac E E (ao E E (bj) (ao E E (bk) (ae E E (ae E E (ag (ab (af (aa (ae E E (ag (ab (af ?_))))))))))))
   refine aE ?_
   refine kA (fun(i:Nat) (v:Value) (u:Value)=>[(4,bF (UInt64.ofNat n)),(6,v),(8,u)]) (fun(i:Nat) (v:Value) (u:Value) w'=>aK w31 w'∧cJ (bs.drop (4*i)) v w31∧el w31.heap.size (di (bs.take (4*i))) u w'∧i≤n) (fun(i:Nat) (v:Value) (u:Value)=>n-i) (0) (b31) (.slice none 0 0) ⟨rfl,rfl,rfl,trivial⟩ ⟨aK.refl _,by simpa using hb31,by simpa [di] using el.nil _ _,by omega⟩ ?_
   rintro i v u w6 ⟨e6,h6,o6,hi⟩
   refine af (af ?_)
   have hdl:(bs.drop (4*i)).length=4*n-4*i:=by rw[List.length_drop,hbl]
   refine aa (ac E E (aO E E (cT (h6.ext e6)) (al E E E (ca) (ag (ab ?_)))))
   refine bz E (fun h36=>?_) (fun h36=>?_)
   ·refine aC (ab (af (aE ?_)))
    have hdl:(bs.drop (4*i)).length=4*n-4*i:=by rw[List.length_drop,hbl]
    refine bI 24 [4,6,39,62] (by kernel_rfl) (by kernel_rfl) ?_
    refine aA E E (aA E E ?_)
    obtain⟨a41,p41,q41⟩:=gH (h6.ext e6) (i:=0) (by omega) .i64
    refine aF E E E (fun w _=>p41 w) (aP E E (fun w hw=>aj MC E (hw.cell_some q41)) (dK E E (fun w _=>eP MC Mu) ?_))
    refine aA E E ?_
    obtain⟨a45,p45,q45⟩:=gH (h6.ext e6) (i:=1) (by omega) .i64
    refine aF E E E (fun w _=>p45 w) (aP E E (fun w hw=>aj MC E (hw.cell_some q45)) (dK E E (fun w _=>eP MC Mu) ?_))
    refine bb (v:=bF 8) E E E (fun w _=>fu 8 (by omega)) (bb E E E (fun w _=>fK) (aA E E ?_))
    obtain⟨a51,p51,q51⟩:=gH (h6.ext e6) (i:=2) (by omega) .i64
    refine aF E E E (fun w _=>p51 w) (aP E E (fun w hw=>aj MC E (hw.cell_some q51)) (dK E E (fun w _=>eP MC Mu) ?_))
    refine bb (v:=bF 16) E E E (fun w _=>fu 16 (by omega)) (bb E E E (fun w _=>fK) (aA E E ?_))
    obtain⟨a57,p57,q57⟩:=gH (h6.ext e6) (i:=3) (by omega) .i64
    refine aF E E E (fun w _=>p57 w) (aP E E (fun w hw=>aj MC E (hw.cell_some q57)) (dK E E (fun w _=>eP MC Mu) ?_))
    refine bb (v:=bF 24) rfl rfl rfl (fun w _=>fu 24 (by omega)) (bb rfl rfl rfl (fun w _=>fK) (f4 (S:=bm [((((((((((bs.drop (4*i))[0])).toUInt32)|||((((((bs.drop (4*i))[1])).toUInt32)<<<UInt32.ofNat 8))))|||((((((bs.drop (4*i))[2])).toUInt32)<<<UInt32.ofNat 16))))|||((((((bs.drop (4*i))[3])).toUInt32)<<<UInt32.ofNat 24))))]) (bm.stable _) rfl (fun w' _=>by rintro _ rfl;obtain⟨r,w2,h1,h2,h3,_⟩:=jo Tryz.underlying44 (w:=w') w'.heap.size [((((((((((bs.drop (4*i))[0])).toUInt32)|||((((((bs.drop (4*i))[1])).toUInt32)<<<UInt32.ofNat 8))))|||((((((bs.drop (4*i))[2])).toUInt32)<<<UInt32.ofNat 16))))|||((((((bs.drop (4*i))[3])).toUInt32)<<<UInt32.ofNat 24))))] (by simp) (Nat.le_refl _);exact⟨r,w2,h1,h2,h3.wds⟩) ?_))
    refine cq ?_
    intro wg8 xg8
    rintro _ rfl
    rintro _ hq6
    obtain rfl:=Eq.symm hq6
    rintro _ hq39
    obtain rfl:=Eq.symm hq39
    intro vg62 b62
    obtain⟨v63,w63,hr63,o63,g63⟩:=lj Tryz.underlying44 (ty:=44) (o6.ext xg8) b62 (by have:=iY i (bs.take (4*i)) (by rw[List.length_take];omega);simp;omega) ((e6.trans xg8)).size
    have x63:=aK.of_grew ((e6.trans xg8)) g63 (o6.ext xg8).ge
    refine ba E E hr63 (ae E E (ag (aS (ab (aa (ac E E ?_))))))
    obtain⟨v38,p38,b38⟩:=gG h6 (lo:=4) (by omega) .i64
    refine cx E E E E E (p38 _) ?_
    refine ae E E (ag ?_)
    refine iz (i+1) (v38) (v63) ⟨rfl,rfl,rfl,trivial⟩ ⟨x63,by rw[List.drop_drop] at b38;exact b38,by
     rw[rG i bs (by omega)]
     have e:=L1 ((bs.drop (4*i))[0]) ((bs.drop (4*i))[1]) ((bs.drop (4*i))[2]) ((bs.drop (4*i))[3])
     simp only[List.getElem_drop,Nat.add_zero] at e
     simp only[List.getElem_drop,Nat.add_zero,e] at o63
     exact o63,by omega⟩ (by omega)
   ·refine bc (aI (aI (be (ab (af ?_)))))
    by_cases h66:UInt64.ofNat n=0
    ·refine bI 12 [2,74] (by kernel_rfl) (by kernel_rfl) ?_
     refine aA E E (aA E E (bb (v:=bF 0) E E E (fun w _=>ci h66 gV) (aA E E (gC E E E (gC E E E (gC E E E ?_))))))
     refine gC E E E (gC E E E (gC E E E (oT E E E (gE E E (cq ?_)))))
     intro wg9 xg9
     rintro _ hq2
     obtain rfl:=Eq.symm hq2
     rintro _ rfl
     refine ae E E (ag (ab (aw (bf E E E ?_))))
     exact⟨_,rfl,(x11.trans g31).trans (dO (e6.trans xg9)),by
      rw[rH hU,←hbs]
      first
      |(have hx:(di bs)[(UInt64.ofNat n-1).toNat]≠0↔lb (val (di bs))=di bs:=by
         have e:(UInt64.ofNat n-1).toNat=(di bs).length-1:=by omega
         simp only[e]
         exact td (by omega)
        by_cases hc:lb (val (di bs))=di bs
        ·rw[if_pos ⟨hle,hc⟩,decide_eq_true (hx.2 hc)]
         exact⟨u,rfl,o6.wds.ext xg9,hr2.ext (e6.trans xg9),fun k hk=>Nat.le_trans (x11.trans g31).size (o6.ge k hk)⟩
        ·rw[if_neg fun h=>hc h.2,decide_eq_false fun h=>hc (hx.1 h)]
         exact⟨u,rfl,⟨_,o6.wds.ext xg9⟩,_,hr2.ext (e6.trans xg9)⟩)
      |(have h0:n=0:=by
         have:=congrArg UInt64.toNat h66
         rw[hnn] at this
         exact this
        have hb0:di bs=[]:=List.eq_nil_of_length_eq_zero (by rw[iY n bs hbl];exact h0)
        have hb1:bs.take (4*i)=bs:=List.take_of_length_le (by omega)
        rw[hb1,hb0] at o6
        rw[hb0,if_pos ⟨hle,rfl⟩]
        exact⟨u,rfl,o6.wds.ext xg9,hr2.ext (e6.trans xg9),fun k hk=>Nat.le_trans (x11.trans g31).size (o6.ge k hk)⟩)⟩
    ·refine bI 12 [2,74] (by kernel_rfl) (by kernel_rfl) ?_
     refine aA E E (aA E E (bb (v:=bF 0) E E E (fun w _=>cY h66 gV) (aA E E (bo E E (aA E E (bo E E (aA E E ?_)))))))
     refine bo E E (bb (v:=bF 1) E E E (fun w _=>dU) (bo E E ?_))
     have hn0:0<n:=by
      rcases Nat.eq_zero_or_pos n with h|h
      ·exact absurd (by rw[h];rfl) h66
      ·exact h
     have hns:=iY n bs hbl
     have hin:i=n:=by omega
     have hbi:bs.take (4*i)=bs:=List.take_of_length_le (by omega)
     rw[hbi] at o6
     have hm1:(UInt64.ofNat n-1).toNat=n-1:=by
      rw[UInt64.toNat_sub_of_le _ _ (UInt64.le_iff_toNat_le.2 (by rw[hnn];exact hn0)),hnn];rfl
     obtain⟨a71,p71,q71⟩:=db Ms o6.wds (i:=(UInt64.ofNat n-1).toNat) (by omega) .u64
     refine aF E E E (fun w hw=>p71 _) (bo E E (aP E E (fun w hw=>aj Mu E (hw.cell_some q71)) (bo E E ?_)))
     refine bb (v:=bH 0) E E E (fun w _=>mr) (oW E E E (gE E E (cq ?_)))
     intro wg9 xg9
     rintro _ hq2
     obtain rfl:=Eq.symm hq2
     rintro _ rfl
     refine ae E E (ag (ab (aw (bf E E E ?_))))
     exact⟨_,rfl,(x11.trans g31).trans (dO (e6.trans xg9)),by
      rw[rH hU,←hbs]
      first
      |(have hx:(di bs)[(UInt64.ofNat n-1).toNat]≠0↔lb (val (di bs))=di bs:=by
         have e:(UInt64.ofNat n-1).toNat=(di bs).length-1:=by omega
         simp only[e]
         exact td (by omega)
        by_cases hc:lb (val (di bs))=di bs
        ·rw[if_pos ⟨hle,hc⟩,decide_eq_true (hx.2 hc)]
         exact⟨u,rfl,o6.wds.ext xg9,hr2.ext (e6.trans xg9),fun k hk=>Nat.le_trans (x11.trans g31).size (o6.ge k hk)⟩
        ·rw[if_neg fun h=>hc h.2,decide_eq_false fun h=>hc (hx.1 h)]
         exact⟨u,rfl,⟨_,o6.wds.ext xg9⟩,_,hr2.ext (e6.trans xg9)⟩)
      |(have h0:n=0:=by
         have:=congrArg UInt64.toNat h66
         rw[hnn] at this
         exact this
        have hb0:di bs=[]:=List.eq_nil_of_length_eq_zero (by rw[iY n bs hbl];exact h0)
        have hb1:bs.take (4*i)=bs:=List.take_of_length_le (by omega)
        rw[hb1,hb0] at o6
        rw[hb0,if_pos ⟨hle,rfl⟩]
        exact⟨u,rfl,o6.wds.ext xg9,hr2.ext (e6.trans xg9),fun k hk=>Nat.le_trans (x11.trans g31).size (o6.ge k hk)⟩)⟩
section
variable {w:World} {g:Nat}
theorem yP {st:Option (List UInt8)} (hr:cV g st w) (hl:∀l,st=some l→l.length≤549755813888) (h:st.bind tj=none):Calls Tryz.prog 178 #[.pointer (some ⟨g,0,none⟩)] w (bE fun r w'=>w.grownBy w' (some g)∧∃v,r=.tuple #[v,B false]∧(∃m,bm m v w')∧∃l',cV g l' w'):=by
 have:=yO hr hl
 rw[h] at this
 exact this
theorem rJ {st:Option (List UInt8)} {m:List UInt32} {t:List UInt8} (hr:cV g st w) (hl:∀l,st=some l→l.length≤549755813888) (h:st.bind tj=some (m,t)):Calls Tryz.prog 178 #[.pointer (some ⟨g,0,none⟩)] w (bE fun r w'=>w.grownBy w' (some g)∧∃v,r=.tuple #[v,B true]∧bm m v w'∧cV g (some t) w'∧rI w.heap.size v):=by
 have:=yO hr hl
 rw[h] at this
 exact this
theorem F5 {st:Option (List UInt8)} {m:List UInt32} {t:List UInt8} (hr:cV g st w) (hl:∀l,st=some l→l.length≤549755813888) (h:st.bind tj=some (m,t)):Calls Tryz.prog 178 #[.pointer (some ⟨g,0,none⟩)] w (bE fun r w'=>w.grownBy w' (some g)∧∃v,r=.tuple #[v,B true]∧bm m v w'∧cV g (some t) w'):=by
 exact(rJ hr hl h).mono fun _ _ ⟨r,h0,h1,v,h2,h3,h4,_⟩=>⟨r,h0,h1,v,h2,h3,h4⟩
theorem F6 {st:Option (List UInt8)} (hr:cV g st w) (h:st.bind eW=none):Calls Tryz.prog 89 #[.pointer (some ⟨g,0,none⟩)] w (bE fun r w'=>w.grownBy w' (some g)∧r=.tuple #[bF 0,I 5]∧cV g none w'):=by
 have:=qg hr
 rw[h] at this
 exact this
theorem F7 {st:Option (List UInt8)} {n:Nat} {t:List UInt8} (hr:cV g st w) (h:st.bind eW=some (n,t)):Calls Tryz.prog 89 #[.pointer (some ⟨g,0,none⟩)] w (bE fun r w'=>w.grownBy w' (some g)∧r=.tuple #[bF (UInt64.ofNat n),I 0]∧cV g (some t) w'):=by
 have:=qg hr
 rw[h] at this
 exact this
end
def IntR (g:Nat) (w:World) (o:Option (Nat×List UInt8)) (r:Value) (w':World):Prop:=
 w.grownBy w' (some g)∧match o with
  |some (n,t)=>r=.tuple #[I (uz n),I 0]∧cV g (some t) w'
  |none=>r=.tuple #[I 0,I 5]∧cV g none w'
theorem HK {P:Program} {w:World} {s d:TypeId} {n:Nat} (hs:P.underlying s=some (.int .u64)) (hd:P.underlying d=some (.int .i64)) (hn:n<18446744073709551616):(convert s d (bF (UInt64.ofNat n>>>UInt64.ofNat 1))).run P w=.ok (I ((n/2:Nat):Int)) w:=by
 have e:(UInt64.ofNat n>>>UInt64.ofNat 1).toNat=n/2:=by
  rw[UInt64.toNat_shiftRight,UInt64.toNat_ofNat',show(UInt64.ofNat 1).toNat%64=1 from rfl,Nat.shiftRight_eq_div_pow];omega
 have:=qa (P:=P) (w:=w) hs hd (a:=UInt64.ofNat n>>>UInt64.ofNat 1) (by omega)
 rwa [e] at this
theorem ED {n:Nat}:(UInt64.ofNat n&&&1).toNat=n%2:=by
 rw[UInt64.toNat_and,UInt64.toNat_ofNat',show(1:UInt64).toNat=1 from rfl,Nat.and_one_is_mod];omega
theorem K4 {P:Program} {w:World} {s d:TypeId} {n:Nat} (hs:P.underlying s=some (.int .u64)) (hd:P.underlying d=some (.int .i64)) (h:n%2=0):(convert s d (bF (UInt64.ofNat n&&&1))).run P w=.ok (I 0) w:=by
 have:=qa (P:=P) (w:=w) hs hd (a:=UInt64.ofNat n&&&1) (by rw[ED];omega)
 rw[ED,h] at this
 exact this
theorem K7 {P:Program} {w:World} {s d:TypeId} {n:Nat} (hs:P.underlying s=some (.int .u64)) (hd:P.underlying d=some (.int .i64)) (h:n%2=1):(convert s d (bF (UInt64.ofNat n&&&1))).run P w=.ok (I 1) w:=by
 have:=qa (P:=P) (w:=w) hs hd (a:=UInt64.ofNat n&&&1) (by rw[ED];omega)
 rw[ED,h] at this
 exact this
theorem yQ {w:World} {g:Nat} {st:Option (List UInt8)} (hr:cV g st w):
 Calls Tryz.prog 158 #[.pointer (some ⟨g,0,none⟩)] w (bE (IntR g w (st.bind eW))):=by
 refine enter (vs:=[.pointer (some ⟨g,0,none⟩)]) Tryz.func158 E E E ?_
 refine af (aa (ae E E (ae E E (ag (ab (af ?_))))))
 rcases hN:st.bind eW with _|⟨n,t⟩
 ·refine aa (ac E E (am gW E E (F6 hr hN) ?_))
  rintro v8 w8 ⟨x8,rfl,hr1⟩
  have m8:=(hr.rdT).kp x8
  refine ac E E (ao E E (bj) (ao E E (bk) (ae E E (ae E E (ag (ab (af (af (aa (ac E E (al E E E (ci (by decide) cX) ?_)))))))))))
  refine ag (ab (bg E (af (aa (ac E E (ae E E (ae E E (ag (ab (aw (ay (bf E E E ?_))))))))))))
  exact⟨_,rfl,x8,rfl,hr1⟩
 ·refine aa (ac E E (am gW E E (F7 hr hN) ?_))
  rintro v8 w8 ⟨x8,rfl,hr1⟩
  have m8:=(hr.rdT).kp x8
  refine ac E E (ao E E (bj) (ao E E (bk) (ae E E (ae E E (ag (ab (af (af (aa (ac E E (al E E E (cY (by decide) cX) ?_)))))))))))
  have hnn:=(tk (k:=(st.getD []).length) hN (by rintro l rfl;exact Nat.le_refl _)).2
  refine ag (ab (cr E (aC (ab (af ?_)))))
  rcases Nat.mod_two_eq_zero_or_one n with hm|hm
  ·refine aa (ac E E (al E E E (dF 1 (by omega)) (a9 E E (HK MA Mx hnn) (ac E E ?_))))
   refine al (v:=bF 1) E E E (yr) (a9 E E (K4 MA Mx hm) (bt E E (vy (by omega) (by omega)) ?_))
   refine al E E E (Jw (by omega)) (ae E E (ae E E (ag (ab (aw (bf E E E ?_))))))
   exact⟨_,rfl,x8,congrArg (fun z=>Value.tuple #[I z,I 0]) (show _=uz n by unfold uz;rw[if_pos hm]),hr1⟩
  ·refine aa (ac E E (al E E E (dF 1 (by omega)) (a9 E E (HK MA Mx hnn) (ac E E ?_))))
   refine al (v:=bF 1) E E E (yr) (a9 E E (K7 MA Mx hm) (bt E E (vy (by omega) (by omega)) ?_))
   refine al E E E (Jx (by omega)) (ae E E (ae E E (ag (ab (aw (bf E E E ?_))))))
   exact⟨_,rfl,x8,congrArg (fun z=>Value.tuple #[I z,I 0]) (show _=uz n by unfold uz;rw[if_neg (by omega)]),hr1⟩
theorem Ad {c:UInt8} {l:List UInt8} (h:1<c.toNat):jp (c::l)=none:=if_pos h
theorem Df {c:UInt8} {l:List UInt8} (h:tj l=none):jp (c::l)=none:=by
 show(if 1<c.toNat then none else _)=none
 split
 ·rfl
 ·rw[h];rfl
theorem t8 {c:UInt8} {l t:List UInt8} {m:List UInt32} (h1:¬1<c.toNat) (h:tj l=some (m,t)):jp (c::l)=(tj t).bind fun q=>if rv (decide (c.toNat=1)) m q.1=true then some ((decide (c.toNat=1),m,q.1),q.2) else none:=by
 show(if 1<c.toNat then none else _)=_
 rw[if_neg h1,h];rfl
def RatE (g:Nat) (w:World) (o:Option ((Bool×List UInt32×List UInt32)×List UInt8)) (r:Value) (w':World):Prop:=
 w.grownBy w' (some g)∧match o with
  |some (q,t)=>∃v,r=.tuple #[v,I 0]∧dm q.1 q.2.1 q.2.2 v w'∧cV g (some t) w'
  |none=>∃v,r=.tuple #[v,I 5]∧dm false [] [] v w'∧cV g none w'
def L2 (g:Nat) (w:World) (o:Option ((Bool×List UInt32×List UInt32)×List UInt8)) (r:Value) (w':World):Prop:=
 w.grownBy w' (some g)∧match o with
  |some (q,t)=>∃x y,r=.tuple #[.agg #[B q.1,x,y],I 0]∧bm q.2.1 x w'∧bm q.2.2 y w'∧cV g (some t) w'∧rI w.heap.size x∧rI w.heap.size y
  |none=>∃v,r=.tuple #[v,I 5]∧dm false [] [] v w'∧cV g none w'
theorem cV.lt {w:World} {g:Nat} {st:Option (List UInt8)} (h:cV g st w):g<w.heap.size:=by
 obtain⟨A,n,c,h1,_⟩:=h
 exact ct.lt h1
theorem wQ {c:UInt8}:c.toNat=1↔c=1:=by
 rw[←UInt8.toNat_inj,show(1:UInt8).toNat=1 from rfl]
theorem wT {w:World} {g:Nat} {st:Option (List UInt8)} (hr:cV g st w) (hl:∀l,st=some l→l.length≤549755813888):
 Calls Tryz.prog 159 #[.pointer (some ⟨g,0,none⟩)] w (bE (L2 g w (st.bind jp))):=by
 refine enter (vs:=[.pointer (some ⟨g,0,none⟩)]) Tryz.func159 E E E ?_
 have hglt:=hr.lt
 refine af (aa ?_)
 obtain⟨g2,w2,hr2,l2,x2,k2⟩:=gI (w:=w)
 refine aT E hr2 (ae E E (ag (ab (af (af (aa (ac E E (al E E E (gF MU) (ag (ab (cr E ?_)))))))))))
 refine aC (ab (af ?_))
 have rr:=hr.ext x2
 have kk:=k2
 have gg:w.grownBy w2 (some g):=dO x2
 have hne:some g2≠some g:=fun h=>by have:=Option.some.inj h;omega
 have hne':g≠g2:=by omega
 rcases st with _|(_|⟨c,l⟩)
 ·have hR:(none:Option (List UInt8)).bind jp=none:=rfl
  refine aa (ac E E (am jv E E ((uO (n:=1) rr)) ?_))
  rintro v14 _ ⟨rfl,rfl⟩
  refine ac E E (ao E E (bj) (ao E E (bk) (ae E E (ae E E (ag (ab (af (af (aa (ac E E (bt E E bu ?_)))))))))))
  refine ac E E (an E E E (an E E E (an E E E (an E E E (ap E E E (ag (ab (bg E (af (aa ?_))))))))))
  refine bA (vs:=[]) E E ff ?_
  refine ac E E (am jw E E (jx rr) ?_)
  rintro v27 w27 ⟨rfl,rs,g27⟩
  have m27:=(rr.rdT).kp g27
  have gg:=gg.trans g27
  have kk:=kk.other g27 hne
  have rr:=rs
  obtain⟨p,q,w3,hp,hs3,q3,k3,n3,d3⟩:=kk.stR ⟨_,_,_,rfl⟩ ⟨_,_,_,rfl⟩ (dm.mk (b:=false) (bm.nil _) (bm.nil _))
  refine au E E (hs3) (ae E E (ag (ab (aw (ay ?_)))))
  refine cD E E E k3 Mw E dk ?_
  exact⟨_,rfl,fq gg q3 l2,by rw[hR];exact⟨_,rfl,⟨p,q,rfl,n3,d3⟩,(rr.rdT.off (kk.kpR ⟨_,_,_,rfl⟩ ⟨_,_,_,rfl⟩ q3) q3 hne').rdAt⟩⟩
 ·have hR:(some []).bind jp=none:=rfl
  refine aa (ac E E (am jv E E ((Er (n:=1) rr (by decide))) ?_))
  rintro v14 _ ⟨rfl,rfl⟩
  refine ac E E (ao E E (bj) (ao E E (bk) (ae E E (ae E E (ag (ab (af (af (aa (ac E E (bt E E bu ?_)))))))))))
  refine ac E E (an E E E (an E E E (an E E E (an E E E (ap E E E (ag (ab (bg E (af (aa ?_))))))))))
  refine bA (vs:=[]) E E ff ?_
  refine ac E E (am jw E E (jx rr) ?_)
  rintro v27 w27 ⟨rfl,rs,g27⟩
  have m27:=(rr.rdT).kp g27
  have gg:=gg.trans g27
  have kk:=kk.other g27 hne
  have rr:=rs
  obtain⟨p,q,w3,hp,hs3,q3,k3,n3,d3⟩:=kk.stR ⟨_,_,_,rfl⟩ ⟨_,_,_,rfl⟩ (dm.mk (b:=false) (bm.nil _) (bm.nil _))
  refine au E E (hs3) (ae E E (ag (ab (aw (ay ?_)))))
  refine cD E E E k3 Mw E dk ?_
  exact⟨_,rfl,fq gg q3 l2,by rw[hR];exact⟨_,rfl,⟨p,q,rfl,n3,d3⟩,(rr.rdT.off (kk.kpR ⟨_,_,_,rfl⟩ ⟨_,_,_,rfl⟩ q3) q3 hne').rdAt⟩⟩
 ·refine aa (ac E E (am jv E E ((vV (n:=1) rr (by simp))) ?_))
  rintro v14 w14 ⟨b14,rfl,hb,rs,g14⟩
  have m14:=(rr.rdT).kp g14
  have gg:=gg.trans g14
  have hs14:=gg.size
  have kk:=kk.other g14 hne
  have rr:cV g (some l) w14:=rs
  have hb:cJ [c] b14 w14:=hb
  refine ac E E (ao E E (bj) (ao E E (bk) (ae E E (ae E E (ag (ab (af (af (aa (ac E E (bt E E bu ?_)))))))))))
  refine ac E E (ai E (ac E E (ai E ?_)))
  obtain⟨a21,p21,q21⟩:=gH hb (i:=0) (by simp) .i64
  refine aq E E E (p21 _) (ai E (ak E E (aj MC E q21) (ai E (al (v:=U8 1) E E E (sZ) (aD E E E ?_)))))
  refine ag (ab ?_)
  refine bz E (fun h24=>?_) (fun h24=>?_)
  ·have hc:1<c.toNat:=by have:=UInt8.lt_iff_toNat_lt.1 h24;simpa using this
   have hR:(some (c::l)).bind jp=none:=Ad hc
   refine af (aa ?_)
   refine bA (vs:=[]) E E ff ?_
   refine ac E E (am jw E E (jx rr) ?_)
   rintro v27 w27 ⟨rfl,rs,g27⟩
   have m27:=(rr.rdT).kp g27
   have gg:=gg.trans g27
   have kk:=kk.other g27 hne
   have rr:=rs
   obtain⟨p,q,w3,hp,hs3,q3,k3,n3,d3⟩:=kk.stR ⟨_,_,_,rfl⟩ ⟨_,_,_,rfl⟩ (dm.mk (b:=false) (bm.nil _) (bm.nil _))
   refine au E E (hs3) (ae E E (ag (ab (aw (ay ?_)))))
   refine cD E E E k3 Mw E dk ?_
   exact⟨_,rfl,fq gg q3 l2,by rw[hR];exact⟨_,rfl,⟨p,q,rfl,n3,d3⟩,(rr.rdT.off (kk.kpR ⟨_,_,_,rfl⟩ ⟨_,_,_,rfl⟩ q3) q3 hne').rdAt⟩⟩
  ·have hc:¬1<c.toNat:=fun hh=>h24 (UInt8.lt_iff_toNat_lt.2 (by simpa using hh))
   have hl1:∀l',some l=some l'→l'.length≤549755813888:=fun l' e=>by
    have:=hl _ rfl
    cases e
    simp at this;omega
   refine aC (ab (af ?_))
   rcases hN:tj l with _|⟨m,t⟩
   ·have hR:(some (c::l)).bind jp=none:=Df hN
    refine aa (ac E E (am mO E E ((yP (st:=some l) rr hl1 hN)) ?_))
    rintro v30 w30 ⟨g30,v0,rfl,_,_,rs⟩
    have m30:=(rr.rdT).kp g30
    have gg:=gg.trans g30
    have hs30:=gg.size
    have kk:=kk.other g30 hne
    have rr:=rs
    refine ac E E (ao E E (bj) (ao E E (bk) (ae E E (ae E E (ag (ab (af (af (aa (ac E E (bt E E bu ?_)))))))))))
    refine ag (ab (bg E (af (aa ?_))))
    refine bA (vs:=[]) E E ff ?_
    refine ac E E (am jw E E (jx rr) ?_)
    rintro v37 w37 ⟨rfl,rs,g37⟩
    have m37:=(rr.rdT).kp g37
    have gg:=gg.trans g37
    have kk:=kk.other g37 hne
    have rr:=rs
    obtain⟨p,q,w3,hp,hs3,q3,k3,n3,d3⟩:=kk.stR ⟨_,_,_,rfl⟩ ⟨_,_,_,rfl⟩ (dm.mk (b:=false) (bm.nil _) (bm.nil _))
    refine au E E (hs3) (ae E E (ag (ab (aw (ay ?_)))))
    refine cD E E E k3 Mw E dk ?_
    exact⟨_,rfl,fq gg q3 l2,by rw[hR];exact⟨_,rfl,⟨p,q,rfl,n3,d3⟩,(rr.rdT.off (kk.kpR ⟨_,_,_,rfl⟩ ⟨_,_,_,rfl⟩ q3) q3 hne').rdAt⟩⟩
   ·refine aa (ac E E (am mO E E ((rJ (st:=some l) rr hl1 hN)) ?_))
    rintro v30 w30 ⟨g30,v0,rfl,h0,rs,f0⟩
    have m30:=(rr.rdT).kp g30
    have gg:=gg.trans g30
    have hs30:=gg.size
    have kk:=kk.other g30 hne
    have rr:=rs
    refine ac E E (ao E E (bj) (ao E E (bk) (ae E E (ae E E (ag (ab (af (af (aa (ac E E (bt E E bu ?_)))))))))))
    refine ag (ab (cr E (aC (ab (af ?_)))))
    have hl2:∀l',some t=some l'→l'.length≤549755813888:=fun l' e=>by
     cases e
     have h1:=(gf hN).1
     have:=hl1 _ rfl
     rw[h1,List.length_append] at this
     omega
    obtain⟨s,hs⟩:∃s,s=decide (c.toNat=1):=⟨_,rfl⟩
    have hcs:s=decide (([c]:List UInt8)[0]'(Nat.zero_lt_one)=(1:UInt8)):=by
     rw[hs]
     exact decide_eq_decide.2 ⟨fun h=>wQ.1 h,fun h=>wQ.2 h⟩
    have hR1:=t8 hc hN
    rw[←hs] at hR1
    rcases hM:tj t with _|⟨m',t'⟩
    rotate_left
    rcases hV:rv s m m'
    ·have hR:(some (c::l)).bind jp=none:=by
      show jp (c::l)=none
      rw[hR1,hM]
      exact if_neg (by rw[hV];simp)
     refine aa (ac E E (am mO E E ((F5 (st:=some t) rr hl2 hM)) ?_))
     rintro v40 w40 ⟨g40,v1,rfl,h1,rs⟩
     have m40:=(rr.rdT).kp g40
     have gg:=gg.trans g40
     have kk:=kk.other g40 hne
     have rr:=rs
     refine ac E E (ao E E (bj) (ao E E (bk) (ae E E (ae E E (ag (ab (af (aa (ac E E ?_)))))))))
     obtain⟨a44,p44,q44⟩:=gH (hb.kp (m30.trans m40)) (i:=0) (by simp) .i64
     refine aq E E E (p44 _) (ak E E (aj MC E q44) (al (v:=U8 1) (r:=B s) E E E ((by rw[hcs];exact li)) ?_))
     refine ac E E (ac E E ?_)
     refine bA (vs:=[(0,B s),(1,v0),(2,v1)]) E E (mK h0.isS h1.isS) ?_
     obtain⟨g8,w8,hr8,l8,x8,k8⟩:=gI (w:=w40)
     refine aT E hr8 ?_
     obtain⟨p,q,w4,hp,hs4,q4,k4,n4,d4⟩:=k8.stR ⟨_,_,_,rfl⟩ ⟨_,_,_,rfl⟩ (dm.mk (b:=s) ((h0.kp m40).ext x8) (h1.ext x8))
     refine au E E (hs4) ?_
     have x4:=x8.of_new q4 l8
     have rr:=rr.ext x4
     have kk:=kk.ext x4
     have gg:=gg.trans (dO x4)
     have hml:m.length≤137438953472:=by
      have:=hl1 _ rfl
      rw[(gf hN).1,List.length_append,jy,List.length_append,eU] at this
      omega
     refine ag (ab (af (af (aa (ac E E (bt E E bu (ac E E (ai E (ak E E (k4.ldR) (ai E ?_))))))))))
     have hml':m'.length≤137438953472:=by
      have:=hl2 _ rfl
      rw[(gf hM).1,List.length_append,jy,List.length_append,eU] at this
      omega
     refine am fz E E ((by have:=pg (b:=s) (dm.mk n4 d4) hml hml';rw[hV] at this;exact this)) ?_
     rintro v54 w54 ⟨x54,rfl⟩
     have rr:=rr.ext x54
     have kk:=kk.ext x54
     have gg:=gg.trans (dO x54)
     refine ai E (bt E E bu (aD E E E (ag (ab (bg E (af (aa ?_)))))))
     refine bA (vs:=[]) E E ff ?_
     refine ac E E (am jw E E (jx rr) ?_)
     rintro v59 w59 ⟨rfl,rs,g59⟩
     have m59:=(rr.rdT).kp g59
     have gg:=gg.trans g59
     have kk:=kk.other g59 hne
     have rr:=rs
     obtain⟨p,q,w3,hp,hs3,q3,k3,n3,d3⟩:=kk.stR ⟨_,_,_,rfl⟩ ⟨_,_,_,rfl⟩ (dm.mk (b:=false) (bm.nil _) (bm.nil _))
     refine au E E (hs3) (ae E E (ag (ab (aw (ay ?_)))))
     refine cD E E E k3 Mw E dk ?_
     exact⟨_,rfl,fq gg q3 l2,by rw[hR];exact⟨_,rfl,⟨p,q,rfl,n3,d3⟩,(rr.rdT.off (kk.kpR ⟨_,_,_,rfl⟩ ⟨_,_,_,rfl⟩ q3) q3 hne').rdAt⟩⟩
    ·have hR:(some (c::l)).bind jp=some ((s,m,m'),t'):=by
      show jp (c::l)=_
      rw[hR1,hM]
      exact if_pos hV
     refine aa (ac E E (am mO E E ((rJ (st:=some t) rr hl2 hM)) ?_))
     rintro v40 w40 ⟨g40,v1,rfl,h1,rs,f1⟩
     have m40:=(rr.rdT).kp g40
     have gg:=gg.trans g40
     have kk:=kk.other g40 hne
     have rr:=rs
     refine ac E E (ao E E (bj) (ao E E (bk) (ae E E (ae E E (ag (ab (af (aa (ac E E ?_)))))))))
     obtain⟨a44,p44,q44⟩:=gH (hb.kp (m30.trans m40)) (i:=0) (by simp) .i64
     refine aq E E E (p44 _) (ak E E (aj MC E q44) (al (v:=U8 1) (r:=B s) E E E ((by rw[hcs];exact li)) ?_))
     refine ac E E (ac E E ?_)
     refine bA (vs:=[(0,B s),(1,v0),(2,v1)]) E E (mK h0.isS h1.isS) ?_
     obtain⟨g8,w8,hr8,l8,x8,k8⟩:=gI (w:=w40)
     refine aT E hr8 ?_
     obtain⟨p,q,w4,hp,hs4,q4,k4,n4,d4⟩:=k8.stR ⟨_,_,_,rfl⟩ ⟨_,_,_,rfl⟩ (dm.mk (b:=s) ((h0.kp m40).ext x8) (h1.ext x8))
     refine au E E (hs4) ?_
     have x4:=x8.of_new q4 l8
     have rr:=rr.ext x4
     have kk:=kk.ext x4
     have gg:=gg.trans (dO x4)
     have hml:m.length≤137438953472:=by
      have:=hl1 _ rfl
      rw[(gf hN).1,List.length_append,jy,List.length_append,eU] at this
      omega
     refine ag (ab (af (af (aa (ac E E (bt E E bu (ac E E (ai E (ak E E (k4.ldR) (ai E ?_))))))))))
     have hml':m'.length≤137438953472:=by
      have:=hl2 _ rfl
      rw[(gf hM).1,List.length_append,jy,List.length_append,eU] at this
      omega
     refine am fz E E ((by have:=pg (b:=s) (dm.mk n4 d4) hml hml';rw[hV] at this;exact this)) ?_
     rintro v54 w54 ⟨x54,rfl⟩
     have rr:=rr.ext x54
     have kk:=kk.ext x54
     have gg:=gg.trans (dO x54)
     refine ai E (bt E E bu (aD E E E (ag (ab (cr E (aC (ab (af (aa (ak E E ((k4.ext x54).ldR) ?_))))))))))
     obtain⟨ea,eb⟩:=wO hp
     obtain⟨p,q,w3,hp,hs3,q3,k3,n3,d3⟩:=kk.stR ⟨_,_,_,rfl⟩ ⟨_,_,_,rfl⟩ ((dm.mk n4 d4).ext x54)
     refine au E E (hs3) (ae E E (ag (ab (aw ?_))))
     refine cD E E E k3 Mw E dk ?_
     exact⟨_,rfl,fq gg q3 l2,by
      rw[hR]
      obtain⟨ec,ed⟩:=wO hp
      exact⟨p,q,rfl,n3,d3,(rr.rdT.off (kk.kpR ⟨_,_,_,rfl⟩ ⟨_,_,_,rfl⟩ q3) q3 hne').rdAt,ec▸ea▸(fun k hk=>Nat.le_trans hs14 (f0 k hk)),ed▸eb▸(fun k hk=>Nat.le_trans hs30 (f1 k hk))⟩⟩
    ·have hR:(some (c::l)).bind jp=none:=by
      show jp (c::l)=none
      rw[hR1,hM];rfl
     refine aa (ac E E (am mO E E ((yP (st:=some t) rr hl2 hM)) ?_))
     rintro v40 w40 ⟨g40,v1,rfl,⟨m',h1⟩,_,rs⟩
     have m40:=(rr.rdT).kp g40
     have gg:=gg.trans g40
     have kk:=kk.other g40 hne
     have rr:=rs
     refine ac E E (ao E E (bj) (ao E E (bk) (ae E E (ae E E (ag (ab (af (aa (ac E E ?_)))))))))
     obtain⟨a44,p44,q44⟩:=gH (hb.kp (m30.trans m40)) (i:=0) (by simp) .i64
     refine aq E E E (p44 _) (ak E E (aj MC E q44) (al (v:=U8 1) (r:=B s) E E E ((by rw[hcs];exact li)) ?_))
     refine ac E E (ac E E ?_)
     refine bA (vs:=[(0,B s),(1,v0),(2,v1)]) E E (mK h0.isS h1.isS) ?_
     obtain⟨g8,w8,hr8,l8,x8,k8⟩:=gI (w:=w40)
     refine aT E hr8 ?_
     obtain⟨p,q,w4,hp,hs4,q4,k4,n4,d4⟩:=k8.stR ⟨_,_,_,rfl⟩ ⟨_,_,_,rfl⟩ (dm.mk (b:=s) ((h0.kp m40).ext x8) (h1.ext x8))
     refine au E E (hs4) ?_
     have x4:=x8.of_new q4 l8
     have rr:=rr.ext x4
     have kk:=kk.ext x4
     have gg:=gg.trans (dO x4)
     have hml:m.length≤137438953472:=by
      have:=hl1 _ rfl
      rw[(gf hN).1,List.length_append,jy,List.length_append,eU] at this
      omega
     refine ag (ab (af (af (aa (ac E E (bt E E bu (ac E E (an E E E (an E E E (an E E E (ap E E E (ag (ab ?_)))))))))))))
     refine bg E (af (aa ?_))
     refine bA (vs:=[]) E E ff ?_
     refine ac E E (am jw E E (jx rr) ?_)
     rintro v59 w59 ⟨rfl,rs,g59⟩
     have m59:=(rr.rdT).kp g59
     have gg:=gg.trans g59
     have kk:=kk.other g59 hne
     have rr:=rs
     obtain⟨p,q,w3,hp,hs3,q3,k3,n3,d3⟩:=kk.stR ⟨_,_,_,rfl⟩ ⟨_,_,_,rfl⟩ (dm.mk (b:=false) (bm.nil _) (bm.nil _))
     refine au E E (hs3) (ae E E (ag (ab (aw (ay ?_)))))
     refine cD E E E k3 Mw E dk ?_
     exact⟨_,rfl,fq gg q3 l2,by rw[hR];exact⟨_,rfl,⟨p,q,rfl,n3,d3⟩,(rr.rdT.off (kk.kpR ⟨_,_,_,rfl⟩ ⟨_,_,_,rfl⟩ q3) q3 hne').rdAt⟩⟩
end Go.Rl
namespace Go.Rl
open Go.RowKit Go.Proofs
section
variable {w w':World} {g h:Nat} {T:TypeId} {st:Option (List UInt8)} {p:Option Addr} {b:Bool}
theorem eA.mv {X:Nat→Prop} (h:eA T g st w) (hm:Mv X w w') (hX:∀k,X k→g<k):eA T g st w':=by
 obtain⟨A,n,c,h1,h2,h3⟩:=h
 refine⟨A,n,c,hm.blk h1 fun hx=>Nat.lt_irrefl _ (hX g hx),?_,h3⟩
 obtain⟨A',n',c',he,h4,h5,h6,h7,h8⟩:=h2
 cases he
 refine⟨_,_,_,rfl,h4,h5,h6,fun hn=>?_,h8⟩
 obtain⟨ad,rfl,hc⟩:=h7 hn
 refine⟨ad,rfl,hm.cells hc fun _ hx=>?_⟩
 have:=hX _ hx
 have:=h3 ad rfl
 omega
def lY (h g:Nat):Nat→Prop:=fun k=>k=h∨k=g
end
end Go.Rl
namespace Go.Rl
open Go.RowKit Go.Proofs
theorem wU (off:Nat):∀(cs:List Value) (k:Nat) (p q r:List Value),p.length=off+k→q.length=cs.length→
 (cs.zipIdx k).foldl (fun(a:Array Value) (x:Value×Nat)=>a.setIfInBounds (off+x.2) x.1) (p++q++r).toArray=(p++cs++r).toArray
 |[],k,p,q,r,_,hq=>by
  have:q=[]:=List.eq_nil_of_length_eq_zero (by simpa using hq)
  subst this
  rfl
 |c::cs,k,p,q,r,hp,hq=>by
  cases q with
  |nil=>simp at hq
  |cons q0 q=>
   simp only[List.zipIdx_cons,List.foldl_cons]
   have e:((p++q0::q++r).toArray).setIfInBounds (off+k) c=((p++[c])++q++r).toArray:=by
    simp[←hp]
   rw[e,wU off cs (k+1) (p++[c]) q r (by simp;omega) (by simpa using hq)]
   simp
theorem tl {sz:Nat}:∀(vs:List (List Value)) (k:Nat) (a b:List Value),(∀v∈vs,v.length=sz)→a.length=k*sz→b.length=vs.length*sz→
 Instr.fill (fun i=>some (i*sz,sz)) (a++b).toArray (eI k (vs.map fun v=>Value.agg v.toArray))=some (a++vs.flatten).toArray
 |[],k,a,b,_,_,hb=>by
  have:b=[]:=List.eq_nil_of_length_eq_zero (by simpa using hb)
  subst this
  rfl
 |v::vs,k,a,b,hv,ha,hb=>by
  have hvl:=hv v (by simp)
  have hbl:b.length=sz+vs.length*sz:=by rw[hb,List.length_cons,Nat.add_mul];omega
  have hc:((Value.agg v.toArray).cells.size≠sz||decide (k*sz+(Value.agg v.toArray).cells.size>(a++b).toArray.size))=false:=by
   simp[Value.cells,hvl,ha,hbl]
  have hz:(Value.agg v.toArray).cells.zipIdx.foldl (fun(cs:Array Value) (x:Value×Nat)=>cs.setIfInBounds (k*sz+x.2) x.1) (a++b).toArray=((a++v)++b.drop sz).toArray:=by
   have h:=wU (k*sz) v 0 a (b.take sz) (b.drop sz) (by omega) (by rw[List.length_take];omega)
   rw[List.append_assoc,List.take_append_drop] at h
   rw[←h]
   simp[Value.cells]
  simp only[List.map_cons,eI,Instr.fill]
  rw[hc]
  have ih:=tl vs (k+1) (a++v) (b.drop sz) (fun u hu=>hv u (by simp[hu])) (by rw[List.length_append,ha,hvl,Nat.add_mul];omega) (by rw[List.length_drop,hbl];omega)
  simp only[Bool.false_eq_true,if_false]
  rw[hz,ih]
  simp
theorem yR {P:Program} {w:World} {t e:TypeId} {z:Value} {sz:Nat} (ht:P.underlying t=some (.slice e)) (hi:(P.info? e).map (fun i=>(i.zero,i.size))=some (some z,sz)) (hz:z.cells.size=sz) (h0:0<sz)
 (vs:List (List Value)) (hv:∀v∈vs,v.length=sz) (hn:0<vs.length) (hl:vs.length*sz≤16777216):
 ∃r w',(Instr.buildSlice t vs.length (eI 0 (vs.map fun v=>Value.agg v.toArray)).toArray).run P w=.ok r w'∧aK w w'∧Sl sz vs.flatten r w'∧r.ownBlock=some w.heap.size:=by
 obtain⟨i,hi',h2⟩:=Option.map_eq_some_iff.1 hi
 simp only[Prod.mk.injEq] at h2
 obtain⟨hz0,hs⟩:=h2
 have hfl:vs.flatten.length=vs.length*sz:=by
  rw[List.length_flatten]
  have:∀l:List (List Value),(∀v∈l,v.length=sz)→(l.map List.length).sum=l.length*sz:=by
   intro l
   induction l with
   |nil=>intro _;simp
   |cons a l ih=>intro h;simp only[List.map_cons,List.sum_cons,List.length_cons,h a (by simp),ih fun v hv=>h v (by simp[hv]),Nat.add_mul];omega
  exact this vs hv
 have hf:∀Z:Array Value,Z.size=vs.length*sz→Instr.fill (fun i=>some (i*sz,sz)) Z (eI 0 (vs.map fun v=>Value.agg v.toArray))=some vs.flatten.toArray:=fun Z hZ=>by
  have:=tl vs 0 [] Z.toList hv (by simp) (by simpa using hZ)
  simpa using this
 have hle:¬(vs.length*sz>2^24):=by omega
 have hinfo:(typeInfo e).run P w=.ok i w:=by simp[typeInfo,hi']
 have hsz:(sizeOf e).run P w=.ok sz w:=by simp[sizeOf,hinfo,hs]
 have hzv:(zeroValue e).run P w=.ok z w:=by simp[zeroValue,hinfo,hz0]
 have hpos:0<vs.length*sz:=Nat.mul_pos hn h0
 refine⟨.slice (some ⟨w.heap.size,0,none⟩) vs.length vs.length,w.alloc (.cells vs.flatten.toArray e),?_,aK.new w _,?_,rfl⟩
 ·simp only[Instr.buildSlice,Sem.run_bind,run_underlying ht,Result.andThen_ok,hsz,if_neg hle]
  rw[if_neg (by omega)]
  simp only[Sem.run_bind,Sem.run_pure,Result.andThen_ok,hzv]
  rw[hf _ (by simp[hz,Nat.mul_comm])]
  simp[newRow]
 ·have hg:=heap_alloc_new w (.cells vs.flatten.toArray e)
  refine⟨_,_,_,rfl,Nat.le_refl _,by unfold maxLen;have:vs.length≤vs.length*sz:=Nat.le_mul_of_pos_right _ h0;omega,hfl,fun _=>⟨_,rfl,fun j u hu=>?_⟩,fun h=>by cases h⟩
  rw[Addr.add_mid,Nat.zero_add,cell_of_row _ _ j _ _ _ hg]
  simpa using hu
end Go.Rl
namespace Go.Rl
open Go.RowKit Go.Proofs
section
variable {α:Type} {f:α→Dt} {l:List α} {v x:Value} {w w':World} {e t ty:TypeId} {sz base:Nat}
def gq (e:TypeId) (sz base:Nat) (f:α→Dt) (l:List α) (v:Value) (w:World):Prop:=∃n xs,w.ownsRow base e sz v n xs∧aR (fun k=>k<base∨v.ownBlock=some k) w (l.map f) xs
theorem gq.nil (w:World):gq e sz base f ([]:List α) (.slice none 0 0) w:=⟨0,[],World.ownsRow_nil _ _ _ _,aR.nil⟩
theorem gq.lt (h:gq e sz base f l v w):∀k,v.ownBlock=some k→base≤k∧k<w.heap.size:=fun k hk=>by
 obtain⟨n,xs,h,_⟩:=h
 exact World.ownsRow.lt h k hk
theorem gq.isS (h:gq e sz base f l v w):∃A n c,v=.slice A n c:=by
 obtain⟨n,xs,⟨_,h|⟨g,cap,cur,rfl,_⟩⟩,_⟩:=h
 ·exact⟨_,_,_,h.1⟩
 ·exact⟨_,_,_,rfl⟩
theorem gq.rpx (h:gq e sz base f l v w) (hs:∀a,(f a).size=sz) (h0:0<sz):cN (fun k=>k<base) w (.sl (l.map f)) [v]:=by
 obtain⟨n,xs,h1,h2⟩:=h
 exact cN.ofOwn h1 (h2.weak fun k hk=>.inl (.inl hk)) (by simp[hs]) h0 fun k hk=>Nat.not_lt.2 (World.ownsRow.lt h1 k hk).1
theorem gq.mv {X:Nat→Prop} (h:gq e sz base f l v w) (hm:Mv X w w') (hX:∀k,X k→k<base):gq e sz base f l v w':=by
 obtain⟨n,xs,h1,h2⟩:=h
 refine⟨n,xs,⟨h1.1,?_⟩,aR.mv (hm.weak fun k hk _=>.inl (hX k hk)) (fun k hk=>.inl hk) h2⟩
 rcases h1.2 with h3|⟨g,cap,cur,rfl,h3,h4,h5⟩
 ·exact .inl h3
 ·refine .inr ⟨g,cap,cur,rfl,h3,?_,h5⟩
  rw[hm.keep g (Array.getElem?_eq_some_iff.1 h4).1 fun hx=>by have:=hX g hx;omega]
  exact h4
theorem gq.app {P:Program} {z:Value} {bytes:Nat} (ht:P.underlying t=some (.slice e)) (hi:(P.info? e).map (fun i=>(i.zero,i.size,i.bytes))=some (some z,sz,bytes)) (hzs:z.cells.size=sz) (hsz:0<sz) (hb0:0<bytes)
 (h:gq e sz base f l v w) {a:α} {cs:List Value} (hx:Sl sz cs x w) (h1:av cs) (ha:cN (fun k=>k<base∨v.ownBlock=some k) w (f a) cs) (hs:∀a,(f a).size=sz) (hb:(l.length+1)*bytes≤140737488355328) (hbase:base≤w.heap.size):
 ∃r w1,(Builtin.append_ #[t,t] ty #[v,x]).run P w=.ok r w1∧gq e sz base f (l++[a]) r w1∧jc w w1 v r:=by
 obtain⟨n,xs,h2,h3⟩:=h
 have hxl:xs.length=l.length*sz:=by rw[h3.len,cP (sz:=sz) (by simp[hs]),List.length_map]
 have hcl:cs.length=sz:=by rw[ha.len,hs]
 obtain⟨r,w1,n',h4,h5,h6⟩:=mj (P:=P) (ty:=ty) ht hi hzs hsz h2 hx h1 (by
  rw[hxl,hcl,show l.length*sz+sz=(l.length+1)*sz by rw[Nat.add_mul,Nat.one_mul],Nat.mul_right_comm]
  exact Nat.mul_le_mul_right _ hb) hb0 hbase
 refine⟨r,w1,h4,⟨n',_,h5,?_⟩,h6⟩
 have hm:Mv (fun k=>k<base∨v.ownBlock=some k) w w1:=Mv.of_grown h6.grown fun k hk _=>.inr hk
 have hY:∀k,(k<base∨r.ownBlock=some k)→(k<base∨v.ownBlock=some k)∨w.heap.size≤k:=fun k hk=>by
  rcases hk with hk|hk
  ·exact .inl (.inl hk)
  ·rcases h6.own with h7|h7
   ·rw[h7] at hk;exact .inl (.inr hk)
   ·exact .inr (h7 k hk)
 rw[List.map_append]
 exact aR.append (aR.mv hm hY h3) (by simpa using aR.cons (cN.mv hm hY ha) aR.nil)
theorem gq.push {P:Program} {z:Value} {bytes:Nat} (ht:P.underlying t=some (.slice e)) (hi:(P.info? e).map (fun i=>(i.zero,i.size,i.bytes))=some (some z,sz,bytes)) (hzs:z.cells.size=sz) (hsz:0<sz) (hsb:sz≤16777216) (hb0:0<bytes)
 (h:gq e sz base f l v w) {a:α} {cs:List Value} (h1:av cs) (ha:cN (fun k=>k<base∨v.ownBlock=some k) w (f a) cs) (hs:∀a,(f a).size=sz) (hb:(l.length+1)*bytes≤140737488355328) (hbase:base≤w.heap.size):
 ∃x w0 r w1,(Instr.buildSlice t 1 (eI 0 [Value.agg cs.toArray]).toArray).run P w=.ok x w0∧(Builtin.append_ #[t,t] ty #[v,x]).run P w0=.ok r w1∧gq e sz base f (l++[a]) r w1∧Mv (fun k=>v.ownBlock=some k) w w1∧∀k,r.ownBlock=some k→v.ownBlock=some k∨w.heap.size≤k:=by
 have hcl:cs.length=sz:=by rw[ha.len,hs]
 have hi2:(P.info? e).map (fun i=>(i.zero,i.size))=some (some z,sz):=by
  obtain⟨i,hi',h2⟩:=Option.map_eq_some_iff.1 hi
  simp only[Prod.mk.injEq] at h2
  rw[hi']
  simp[h2.1,h2.2.1]
 obtain⟨x,w0,h3,h4,h5,_⟩:=yR (w:=w) ht hi2 hzs hsz [cs] (by simp[hcl]) (by simp) (by simpa using hsb)
 have h':gq e sz base f l v w0:=by
  obtain⟨n,xs,h6,h7⟩:=h
  exact⟨n,xs,iU h6 h4,h7.ext h4⟩
 obtain⟨r,w1,h6,h7,h8⟩:=h'.app (ty:=ty) ht hi hzs hsz hb0 (by simpa using h5) h1 (ha.ext h4) hs hb (Nat.le_trans hbase h4.size)
 refine⟨x,w0,r,w1,by simpa using h3,h6,h7,(Mv.of_ext h4).trans (Mv.of_grown h8.grown fun k hk _=>hk) fun _ hn _=>hn,fun k hk=>?_⟩
 rcases h8.own with h9|h9
 ·rw[h9] at hk;exact .inl hk
 ·exact .inr (Nat.le_trans h4.size (h9 k hk))
end
end Go.Rl
namespace Go.Rl
open Go.RowKit Go.Proofs
theorem av.append {a b:List Value} (h:av a) (k:av b):av (a++b):=fun v hv=>(List.mem_append.1 hv).elim (h v) (k v)
mutual
theorem EE {w:World}:∀{d:Dt} {cs:List Value},Rp w d cs→av cs
 |.int k n,cs,h=>by simp only[Rp] at h;subst h;exact av.cons rfl av.nil
 |.bool b,cs,h=>by simp only[Rp] at h;subst h;exact av.cons rfl av.nil
 |.str l,cs,h=>by simp only[Rp] at h;subst h;exact av.cons rfl av.nil
 |.sl l,cs,h=>by
  simp only[Rp] at h
  obtain⟨A,n,c,rfl,_⟩:=h
  exact av.cons rfl av.nil
 |.st l,cs,h=>by simp only[Rp] at h;exact rK h
theorem rK {w:World}:∀{l:List Dt} {cs:List Value},bw w l cs→av cs
 |[],cs,h=>by simp only[bw] at h;subst h;exact av.nil
 |d::l,cs,h=>by
  simp only[bw] at h
  obtain⟨c1,c2,rfl,h1,h2⟩:=h
  exact(EE h1).append (rK h2)
end
section
variable {α:Type} {f:α→Dt} {l m:List α} {v x:Value} {w w0 w':World} {e t ty:TypeId} {sz base:Nat}
def OwnR (e:TypeId) (sz base:Nat) (f:α→Dt) (l:List α) (v:Value) (w:World):Prop:=∃n xs,w.ownsRow base e sz v n xs∧aR (fun k=>v.ownBlock=some k) w (l.map f) xs
theorem L3 {P:Program} {z:Value} (ht:P.underlying t=some (.slice e)) (hi:(P.info? e).map (fun i=>(i.zero,i.size))=some (some z,sz)):
 ∃r w1,(Instr.buildSlice t 0 #[]).run P w=.ok r w1∧aK w w1∧OwnR e sz w.heap.size f ([]:List α) r w1∧r.ownBlock=some w.heap.size:=by
 obtain⟨i,hi',h2⟩:=Option.map_eq_some_iff.1 hi
 simp only[Prod.mk.injEq] at h2
 obtain⟨hz0,hs⟩:=h2
 have hinfo:(typeInfo e).run P w=.ok i w:=by simp[typeInfo,hi']
 have hsz:(sizeOf e).run P w=.ok sz w:=by simp[sizeOf,hinfo,hs]
 refine⟨.slice (some ⟨w.heap.size,0,none⟩) 0 0,w.alloc (.cells #[] e),?_,aK.new w _,⟨0,[],⟨by simp,.inr ⟨_,0,#[],rfl,Nat.le_refl _,heap_alloc_new _ _,Nat.le_refl _,Nat.zero_le _,by simp,by simp⟩⟩,aR.nil⟩,rfl⟩
 have hle:¬(0*sz>2^24):=by omega
 simp only[Instr.buildSlice,Sem.run_bind,run_underlying ht,Result.andThen_ok,hsz,if_neg hle]
 rw[if_pos (by simp)]
 have hr:Array.map (fun _:Nat=>(default:Value)) (Array.range 0)= #[]:=Array.eq_empty_of_size_eq_zero (by simp)
 simp[Instr.fill,newRow,hr]
end
end Go.Rl
namespace Go.Rl
open Go.RowKit Go.Proofs
section
variable {α:Type} {f:α→Dt} {l m:List α} {v x:Value} {w w0 w':World} {e t ty:TypeId} {sz base:Nat} {X Y Z:Nat→Prop}
theorem cN.toSl {sz:Nat} {l:List Dt} {v:Value} (h:cN X w (.sl l) [v]) (hs:∀d∈l,d.size=sz):∃xs,Sl sz xs v w∧aR X w l xs:=by
 simp only[cN] at h
 obtain⟨A,n,c,hv,h2,h3,h4,h5,h6⟩:=h
 obtain rfl:v=.slice A n c:=by simpa using hv
 rcases Nat.eq_zero_or_pos n with h0|h0
 ·have:l=[]:=List.eq_nil_of_length_eq_zero (by omega)
  subst this
  exact⟨[],⟨A,n,c,rfl,h3,h4,by subst h0;simp,fun h=>by omega,h5⟩,aR.nil⟩
 ·obtain⟨ad,xs,rfl,_,h8,h9⟩:=h6 h0
  exact⟨xs,⟨_,n,c,rfl,h3,h4,by rw[h9.len,cP hs,h2],fun _=>⟨ad,rfl,h8⟩,h5⟩,h9⟩
theorem cN.isSl {l:List Dt} {v:Value} (h:cN X w (.sl l) [v]):∃A n c,v=.slice A n c:=by
 simp only[cN] at h
 obtain⟨A,n,c,hv,_⟩:=h
 exact⟨A,n,c,by simpa using hv⟩
theorem cN.ofSl {sz:Nat} {l:List Dt} {v:Value} {xs:List Value} (h:Sl sz xs v w) (ha:aR X w l xs) (hs:∀d∈l,d.size=sz) (h0:0<sz) (hX:∀k,v.ownBlock=some k→¬X k):cN X w (.sl l) [v]:=by
 obtain⟨A,n,c,rfl,h3,h4,h5,h6,h7⟩:=h
 simp only[cN]
 refine⟨A,n,c,rfl,?_,h3,h4,h7,fun hn=>?_⟩
 ·have:=ha.len
  rw[cP hs,h5] at this
  exact(Nat.eq_of_mul_eq_mul_right h0 this).symm
 ·obtain⟨ad,rfl,hc⟩:=h6 hn
  exact⟨ad,xs,rfl,fun _=>hX _ rfl,hc,ha⟩
def fH (e:TypeId) (sz base:Nat) (X:Nat→Prop) (f:α→Dt) (l:List α) (v:Value) (w:World):Prop:=∃n xs,w.ownsRow base e sz v n xs∧aR (fun k=>X k∨v.ownBlock=some k) w (l.map f) xs
theorem fH.nil (w:World):fH e sz base X f ([]:List α) (.slice none 0 0) w:=⟨0,[],World.ownsRow_nil _ _ _ _,aR.nil⟩
theorem fH.lt (h:fH e sz base X f l v w):∀k,v.ownBlock=some k→base≤k∧k<w.heap.size:=fun k hk=>by
 obtain⟨n,xs,h,_⟩:=h
 exact World.ownsRow.lt h k hk
theorem fH.isS (h:fH e sz base X f l v w):∃A n c,v=.slice A n c:=by
 obtain⟨n,xs,⟨_,h|⟨g,cap,cur,rfl,_⟩⟩,_⟩:=h
 ·exact⟨_,_,_,h.1⟩
 ·exact⟨_,_,_,rfl⟩
theorem fH.one (h:fH e sz base X f l v w):v.oneCell'=true:=by obtain⟨_,_,_,rfl⟩:=h.isS;rfl
theorem fH.rpx (h:fH e sz base X f l v w) (hs:∀a,(f a).size=sz) (h0:0<sz) (hY:∀k,Y k→X k) (hne:∀k,v.ownBlock=some k→¬Y k):cN Y w (.sl (l.map f)) [v]:=by
 obtain⟨n,xs,h1,h2⟩:=h
 exact cN.ofOwn h1 (h2.weak fun k hk=>.inl (.inl (hY k hk))) (by simp[hs]) h0 hne
theorem fH.ext (h:fH e sz base X f l v w) (hx:aK w w'):fH e sz base X f l v w':=by
 obtain⟨n,xs,h1,h2⟩:=h
 exact⟨n,xs,iU h1 hx,h2.ext hx⟩
theorem fH.stable:cb (fH e sz base X f l):=fun _ _ _ h hx=>h.ext hx
theorem fH.mv (h:fH e sz base X f l v w) (hm:Mv Z w w') (hZ:∀k,Z k→X k) (hne:∀k,v.ownBlock=some k→¬Z k):fH e sz base X f l v w':=by
 obtain⟨n,xs,h1,h2⟩:=h
 refine⟨n,xs,⟨h1.1,?_⟩,aR.mv (hm.weak fun k hk _=>.inl (hZ k hk)) (fun k hk=>.inl hk) h2⟩
 rcases h1.2 with h3|⟨g,cap,cur,rfl,h3,h4,h5⟩
 ·exact .inl h3
 ·refine .inr ⟨g,cap,cur,rfl,h3,?_,h5⟩
  rw[hm.keep g (Array.getElem?_eq_some_iff.1 h4).1 (hne g rfl)]
  exact h4
theorem fH.weak (h:fH e sz base X f l v w) (hY:∀k,Y k→X k∨w.heap.size≤k):fH e sz base Y f l v w:=by
 obtain⟨n,xs,h1,h2⟩:=h
 exact⟨n,xs,h1,h2.weak fun k hk=>hk.elim (fun h=>(hY k h).imp .inl id) fun h=>.inl (.inr h)⟩
theorem fH.app {P:Program} {z:Value} {bytes:Nat} (ht:P.underlying t=some (.slice e)) (hi:(P.info? e).map (fun i=>(i.zero,i.size,i.bytes))=some (some z,sz,bytes)) (hzs:z.cells.size=sz) (hsz:0<sz) (hb0:0<bytes)
 (h:fH e sz base X f l v w) {cs:List Value} (hx:Sl sz cs x w) (h1:av cs) (ha:aR (fun k=>X k∨v.ownBlock=some k) w (m.map f) cs) (hs:∀a,(f a).size=sz) (hb:(l.length+m.length)*bytes≤140737488355328) (hbase:base≤w.heap.size):
 ∃r w1,(Builtin.append_ #[t,t] ty #[v,x]).run P w=.ok r w1∧fH e sz base X f (l++m) r w1∧jc w w1 v r:=by
 obtain⟨n,xs,h2,h3⟩:=h
 have hxl:xs.length=l.length*sz:=by rw[h3.len,cP (sz:=sz) (by simp[hs]),List.length_map]
 have hcl:cs.length=m.length*sz:=by rw[ha.len,cP (sz:=sz) (by simp[hs]),List.length_map]
 obtain⟨r,w1,n',h4,h5,h6⟩:=mj (P:=P) (ty:=ty) ht hi hzs hsz h2 hx h1 (by
  rw[hxl,hcl,←Nat.add_mul,Nat.mul_right_comm]
  exact Nat.mul_le_mul_right _ hb) hb0 hbase
 refine⟨r,w1,h4,⟨n',_,h5,?_⟩,h6⟩
 have hm:Mv (fun k=>X k∨v.ownBlock=some k) w w1:=Mv.of_grown h6.grown fun k hk _=>.inr hk
 have hY:∀k,(X k∨r.ownBlock=some k)→(X k∨v.ownBlock=some k)∨w.heap.size≤k:=fun k hk=>by
  rcases hk with hk|hk
  ·exact .inl (.inl hk)
  ·rcases h6.own with h7|h7
   ·rw[h7] at hk;exact .inl (.inr hk)
   ·exact .inr (h7 k hk)
 rw[List.map_append]
 exact aR.append (aR.mv hm hY h3) (aR.mv hm hY ha)
theorem K8 {P:Program} {z:Value} (ht:P.underlying t=some (.slice e)) (hi:(P.info? e).map (fun i=>(i.zero,i.size))=some (some z,sz)):
 ∃r w1,(Instr.buildSlice t 0 #[]).run P w=.ok r w1∧aK w w1∧fH e sz w.heap.size X f ([]:List α) r w1∧r.ownBlock=some w.heap.size:=by
 obtain⟨r,w1,a,b,⟨n,xs,h1,h2⟩,d⟩:=L3 (w:=w) (f:=f) ht hi
 refine⟨r,w1,a,b,⟨n,xs,h1,?_⟩,d⟩
 simp only[List.map_nil,aR] at h2⊢
 exact h2
end
end Go.Rl
namespace Go.Proofs.YtpeidnhjcompmaaGreatDoor
open Go Go.RowKit Go.Rl
theorem F8:Tryz.prog.globalNamed "relucert/phase.opposites" =some 0:=by kernel_rfl
theorem HL:(Tryz.prog.globals[0]?).map (·.type)=some 225:=by kernel_rfl
theorem HM:Tryz.prog.cellsOf 225=5:=by kernel_rfl
theorem HN:Tryz.prog.cellsOf 3=1:=by kernel_rfl
noncomputable def LK (os:Os):World:=
 {World.holding Tryz.prog os ⟨#[],#[],[]⟩ with heap:=(World.holding Tryz.prog os ⟨#[],#[],[]⟩).heap.modify 0 fun
  |.cells _ t frozen=>.cells #[.int .i64 0,.int .i64 2,.int .i64 1,.int .i64 4,.int .i64 3] t frozen
  |o=>o}
end Go.Proofs.YtpeidnhjcompmaaGreatDoor
namespace Go.Rl
open Go.RowKit Go.Proofs Go.Proofs.YtpeidnhjcompmaaGreatDoor
def Ae (w:World):Prop:=eO w ⟨0,0,none⟩ [I 0,I 2,I 1,I 4,I 3]
theorem Ae.ext {w w':World} (h:Ae w) (hx:aK w w'):Ae w':=fun j u hu=>hx.cell_some (h j u hu)
theorem Ae.of_laid {W:World} (h:laidMetH Tryz.prog [("relucert/phase.opposites",Rows.laid_relucert_phase_opposites)] W):Ae W:=fun j u hu=>by
 have hT:Lib.TabIs Tryz.prog W "relucert/phase.opposites" .i64 [0,2,1,4,3]:=Lib.tabIs_of_head (rest:=[]) F8 HL Tryz.underlying225 Mx HN HM h
 rw[Addr.add_mid,Nat.zero_add]
 rcases j with _|_|_|_|_|j
 ·simp only[List.getElem?_cons_zero,Option.some.injEq] at hu;subst hu;exact hT.cell F8 0 (by decide)
 ·simp only[List.getElem?_cons_succ,List.getElem?_cons_zero,Option.some.injEq] at hu;subst hu;exact hT.cell F8 1 (by decide)
 ·simp only[List.getElem?_cons_succ,List.getElem?_cons_zero,Option.some.injEq] at hu;subst hu;exact hT.cell F8 2 (by decide)
 ·simp only[List.getElem?_cons_succ,List.getElem?_cons_zero,Option.some.injEq] at hu;subst hu;exact hT.cell F8 3 (by decide)
 ·simp only[List.getElem?_cons_succ,List.getElem?_cons_zero,Option.some.injEq] at hu;subst hu;exact hT.cell F8 4 (by decide)
 ·simp at hu
end Go.Rl
namespace Go.Rl
open Go.RowKit Go.Proofs
theorem qk:aG Tryz.prog 47:=⟨_,Tryz.func47,by kernel_rfl,rfl⟩
theorem dZ:aG Tryz.prog 94:=⟨_,Tryz.func94,by kernel_rfl,rfl⟩
theorem fE:aG Tryz.prog 93:=⟨_,Tryz.func93,by kernel_rfl,rfl⟩
theorem jz:aG Tryz.prog 130:=⟨_,Tryz.func130,by kernel_rfl,rfl⟩
theorem iZ:aG Tryz.prog 160:=⟨_,Tryz.func160,by kernel_rfl,rfl⟩
theorem t9:aG Tryz.prog 131:=⟨_,Tryz.func131,by kernel_rfl,rfl⟩
theorem pi:aG Tryz.prog 48:=⟨_,Tryz.func48,by kernel_rfl,rfl⟩
theorem rM:aG Tryz.prog 49:=⟨_,Tryz.func49,by kernel_rfl,rfl⟩
theorem wV:aG Tryz.prog 97:=⟨_,Tryz.func97,by kernel_rfl,rfl⟩
theorem yg:(Tryz.prog.info? 167).map (·.zero)=some (some (.agg #[.slice none 0 0,.bool false])):=by kernel_rfl
def cv (g:Nat) (st:Option (List UInt8)) (w:World):Prop:=eA 167 g st w
theorem cv.ext {g:Nat} {st:Option (List UInt8)} {w w':World} (h:cv g st w) (hx:aK w w'):cv g st w':=eA.ext h hx
theorem cv.lt {w:World} {g:Nat} {st:Option (List UInt8)} (h:cv g st w):g<w.heap.size:=by
 obtain⟨A,n,c,h1,_⟩:=h
 exact ct.lt h1
theorem HO {st:Option (List UInt8)}:st.bind eW=eW (st.getD []):=by cases st<;>rfl
theorem HP {acc mult:UInt64} {c:UInt8} {k:Nat} (ha:acc.toNat<128^k) (hk:k≤9) (h9:k=9→c.toNat%128≤1) (hm:mult.toNat=128^k):
 (acc+(c%128).toUInt64*mult).toNat=acc.toNat+(c.toNat%128)*128^k:=by
 have e1:((c%128).toUInt64).toNat=c.toNat%128:=by rw[UInt8.toNat_toUInt64,UInt8.toNat_mod];rfl
 rw[UInt64.toNat_add,UInt64.toNat_mul,e1,hm]
 rcases Nat.lt_or_ge k 9 with h|h
 ·have h1:(c.toNat%128)*128^k≤127*128^8:=Nat.mul_le_mul (by omega) (Nat.pow_le_pow_right (by omega) (by omega))
  have h2:128^k≤128^8:=Nat.pow_le_pow_right (by omega) (by omega)
  have e:(128:Nat)^8=72057594037927936:=by decide
  rw[Nat.mod_eq_of_lt (by omega),Nat.mod_eq_of_lt (by omega)]
 ·have h':k=9:=by omega
  subst h'
  have:=h9 rfl
  have e:(128:Nat)^9=9223372036854775808:=by decide
  rw[e] at ha⊢
  rw[Nat.mod_eq_of_lt (by omega),Nat.mod_eq_of_lt (by omega)]
theorem ql {w:World} {l:List UInt8} {v:Value} (hv:cJ l v w) (hl:l.length≤140737488355328):
 Calls Tryz.prog 47 #[v] w (bE fun r w'=>aK w w'∧∃g,w.heap.size≤g∧r=.pointer (some ⟨g,0,none⟩)∧cv g (some l) w'):=by
 refine enter (vs:=[v]) Tryz.func47 E E E ?_
 refine af (aa (ae E E (ag (ab (af (aa ?_))))))
 obtain⟨v3,w3,hr3,x3,o3,ob3⟩:=eh (w:=w) w.heap.size [] (by simp) (Nat.le_refl _)
 refine aJ (vs:=[]) E E hr3 (ac E E ?_)
 obtain⟨v5,w5,hr5,o5,g5⟩:=dn (ty:=22) o3 (hv.ext x3) (by simpa using hl) (x3).size
 have x5:=aK.of_grew (x3) g5 o3.ge
 refine ba E E hr5 ?_
 obtain⟨A,n,c,rfl,_⟩:=id o5.bts
 refine bA (vs:=[(0,.slice A n c)]) E E (r:=.agg #[.slice A n c,.bool false]) (by simp[Instr.build,run_underlying Tryz.underlying167,CN yg,fh dB,fh gX,Instr.fill,Value.cells]) ?_
 refine cM E E (vS) (ae E E (ag (ab (aw (az E E ?_)))))
 exact⟨_,rfl,(x5).trans (aK.new _ _),_,(x5).size,rfl,A,n,c,heap_alloc_new _ _,o5.bts.ext (aK.new _ _),fun ad had=>o5.elim fun _ h=>(World.ownsRow.lt h ad.block (by rw[had];rfl)).2⟩
theorem d6 {w:World} {g:Nat} {st:Option (List UInt8)} (hr:cv g st w):
 Calls Tryz.prog 94 #[.pointer (some ⟨g,0,none⟩)] w (bE fun r w'=>r=I 5∧cv g none w'∧w.grownBy w' (some g)):=by
 refine enter (vs:=[.pointer (some ⟨g,0,none⟩)]) Tryz.func94 E E E ?_
 obtain⟨A,n,c,k0,b0,_⟩:=hr
 refine af (aa (ae E E (ag (ab (af (aa (ac E E (ac E E (ax E E (ah E E (ar (o:=0) MN E (by kernel_rfl) E) ?_))))))))))
 refine au E E (dR dB E k0 (by simp)) ?_
 have k1:=k0.set 0 (.slice none 0 0)
 refine ax E E (ah E E (ar (o:=1) Tryz.underlying167 E (by kernel_rfl) E) (au E E (dR (i:=1) gX E k1 (by simp)) ?_))
 refine ag (ab (af (aa (ae E E (ag (ab (aw (az E E ?_))))))))
 exact⟨_,rfl,rfl,⟨none,0,0,k1.set 1 (.bool true),cJ.nil _,ru.none g⟩,(bh w g 0 _).trans (bh _ g 1 _)⟩
theorem Dg {w:World} {g:Nat} {st:Option (List UInt8)} (hr:cv g st w):
 Calls Tryz.prog 49 #[.pointer (some ⟨g,0,none⟩)] w (bE fun r w'=>r=I ((st.getD []).length:Nat)∧w'=w):=by
 refine enter (vs:=[.pointer (some ⟨g,0,none⟩)]) Tryz.func49 E E E ?_
 obtain⟨A,n,c,k0,b0,_⟩:=hr
 refine af (aa (ae E E (ag (ab (af (aa (ac E E (ax E E (ah E E (ar (o:=0) MN E (by kernel_rfl) E) ?_)))))))))
 refine ak E E (aj MB E (k0.cell (i:=0) E)) (aO E E (cT b0) (ae E E (ag (ab (aw (az E E ?_))))))
 exact⟨_,rfl,rfl,rfl⟩
theorem Dh {w:World} {g:Nat} {st:Option (List UInt8)} (hr:cv g st w):
 Calls Tryz.prog 97 #[.pointer (some ⟨g,0,none⟩)] w (bE fun r w'=>r=I (if st=some [] then 0 else 5)∧w'=w):=by
 refine enter (vs:=[.pointer (some ⟨g,0,none⟩)]) Tryz.func97 E E E ?_
 obtain⟨A,n,c,k0,b0,_⟩:=hr
 refine af (aa (ae E E (ag (ab (af (af ?_))))))
 rcases st with _|l
 ·refine aa (ac E E (ax E E (ah E E (ar (o:=1) MN E (by kernel_rfl) E) (ak E E (aj MD E (k0.cell (i:=1) E)) ?_))))
  refine ac E E (an E E E (an E E E (an E E E (an E E E (an E E E (an E E E (ap E E E (ag (ab (bg E (af ?_)))))))))))
  refine aa (ae E E (ag (ab (aw (ay (az E E ?_))))))
  exact⟨_,rfl,rfl,rfl⟩
 ·have b0:cJ l (.slice A n c) w:=b0
  refine aa (ac E E (ax E E (ah E E (ar (o:=1) MN E (by kernel_rfl) E) (ak E E (aj MD E (k0.cell (i:=1) E)) ?_))))
  refine ac E E (ai E (ac E E (ai E (ax E E (ai E (ah E E (ar (o:=0) MN E (by kernel_rfl) E) ?_))))))
  refine ai E (ak E E (aj MB E (k0.cell (i:=0) E)) (ai E (aO E E (cT b0) (ai E (al E E E (ca) ?_)))))
  refine aD E E E (ag (ab ?_))
  refine bz E (fun h14=>?_) (fun h14=>?_)
  ·refine af (aa (ae E E (ag (ab (aw (ay (az E E ?_)))))))
   exact⟨_,rfl,by rw[if_neg (by rintro⟨⟩;simp at h14)];rfl,rfl⟩
  ·refine aC (ab (af (aa (ae E E (ag (ab (aw (az E E ?_))))))))
   exact⟨_,rfl,by
    have h0:l=[]:=List.eq_nil_of_length_eq_zero (by omega)
    rw[h0];rfl,rfl⟩
def K9 (g:Nat) (w:World) (o:Option (Nat×List UInt8)) (r:Value) (w':World):Prop:=
 w.grownBy w' (some g)∧match o with
  |some (n,t)=>r=.tuple #[bF (UInt64.ofNat n),I 0]∧cv g (some t) w'
  |none=>r=.tuple #[bF 0,I 5]∧cv g none w'
theorem F9 (k:Nat) (l:List UInt8):oD 0 k l=none:=rfl
theorem qm {k:Nat} {c:UInt8} {l:List UInt8} (hk:k≤9):oD (10-k) k (c::l)=if (k=9∧1<c.toNat)∨(0<k∧c.toNat=0) then none else if c.toNat<128 then some (c.toNat*128^k,l) else(oD (10-(k+1)) (k+1) l).map fun p=>(p.1+(c.toNat%128)*128^k,p.2):=by
 rw[show 10-k=(9-k)+1 by omega,show 10-(k+1)=9-k by omega];rfl
theorem wW {w:World} {g:Nat} {st:Option (List UInt8)} (hr:cv g st w):
 Calls Tryz.prog 93 #[.pointer (some ⟨g,0,none⟩)] w (bE (K9 g w (st.bind eW))):=by
 refine enter (vs:=[.pointer (some ⟨g,0,none⟩)]) Tryz.func93 E E E ?_
 obtain⟨A,n,c0,k0,b0,lc⟩:=id hr
 rw[HO]
 obtain⟨l,hl0⟩:∃l,l=st.getD []:=⟨_,rfl⟩
 rw[←hl0] at b0⊢
 refine af (aa (ae E E (ae E E (ag (ab (af (aa (ae E E (ae E E (ag (ab (af (af (aa (ae E E (ag ?_))))))))))))))))
 refine ab (aE ?_)
 refine kA (fun(i:Nat) (acc:UInt64) (mult:UInt64)=>[(0,.pointer (some ⟨g,0,none⟩)),(4,bF acc),(5,bF mult),(6,I (i:Int))]) (fun(i:Nat) (acc:UInt64) (mult:UInt64) w'=>w=w'∧i≤10∧i≤l.length∧(i≤9→mult.toNat=128^i)∧acc.toNat<128^i∧eW l=(oD (10-i) i (l.drop i)).map fun p=>(p.1+acc.toNat,p.2)) (fun(i:Nat) (acc:UInt64) (mult:UInt64)=>10-i) (0) (0) (1) ⟨rfl,rfl,rfl,rfl,trivial⟩ ⟨rfl,by omega,by omega,fun _=>rfl,by simp,by simp[eW]⟩ ?_
 rintro i acc mult _ ⟨rfl,hi,hil,hm,ha,hrd⟩
 refine af (af (aa (ac E E (ac E E (ax E E (ah E E (ar (o:=0) MN E (by kernel_rfl) E) ?_))))))
 refine ak E E (aj MB E (k0.cell (i:=0) E)) (aO E E (cT b0) (al E E E (aV) (ac E E ?_)))
 refine ce (fun h15=>?_) (fun h15=>?_)
 ·refine ai E (ac E E (ai E (al E E E (aV) (ap E E E (ag (ab ?_))))))
  refine bz E (fun h18=>?_) (fun h18=>?_)
  ·refine aC (ab (af (aE (af (aa (ac E E (ax E E (ah E E (ar (o:=0) MN E (by kernel_rfl) E) ?_))))))))
   refine ak E E (aj MB E (k0.cell (i:=0) E)) (ac E E ?_)
   obtain⟨a26,p26,q26⟩:=gH b0 (i:=i) (by omega) .i64
   refine aq E E E (p26 _) (ak E E (aj MC E q26) ?_)
   have hil':i<l.length:=by omega
   have hdr:=List.drop_eq_getElem_cons hil'
   have hd:((l[i]%128).toUInt64).toNat=l[i].toNat%128:=by rw[UInt8.toNat_toUInt64,UInt8.toNat_mod];rfl
   have hst:st=some l:=by
    cases st with
    |none=>rw[show l=[] from hl0] at hil';simp at hil'
    |some l'=>rw[show l=l' from hl0]
   refine al (v:=U8 128) E E E (G3 (by decide)) (a9 E E (A7 MC MA) (ae E E (ag ?_)))
   refine ab (af ?_)
   refine fg (fun _:Unit=>[(0,.pointer (some ⟨g,0,none⟩)),(4,bF acc),(5,bF mult),(6,I (i:Int)),(7,bF ((l[i]%128).toUInt64))]) (fun _ w'=>w=w'∧(i=9→l[i].toNat%128≤1)) ?_ ?_
   ·refine af (aa (ac E E (al E E E (bi) (ac E E ?_))))
    refine ce (fun h32=>?_) (fun h32=>?_)
    ·refine ai E (ac E E (ai E (al (v:=bF 1) E E E (cQ) (ap E E E (ag (ab ?_))))))
     refine bz E (fun h35=>?_) (fun h35=>?_)
     ·have hn:eW l=none:=by
       have h35:=UInt64.lt_iff_toNat_lt.1 h35
       rw[hd,show(1:UInt64).toNat=1 from rfl] at h35
       rw[hrd,hdr,qm (by omega),if_pos (Or.inl ⟨by omega,by omega⟩)];rfl
      refine af (aa (ac E E (am dZ E E (d6 hr) ?_)))
      rintro v37 w37 ⟨rfl,hr2,gg⟩
      have m37:=eA.kp hr gg
      refine ae E E (ae E E (ag (ab (aw (ay (ay (aZ (ay (ay (aZ (ay (bf E E E ?_))))))))))))
      exact⟨_,rfl,gg,by rw[hn];exact⟨rfl,hr2⟩⟩
     ·refine aC ?_
      exact cu () ⟨rfl,rfl,rfl,rfl,rfl,trivial⟩ ⟨rfl,fun h9=>by
       first
       |exact absurd h9 (by omega)
       |(refine Nat.le_of_not_lt fun hh=>h35 (UInt64.lt_iff_toNat_lt.2 ?_);rw[hd];exact hh)⟩
    ·refine an E E E (an E E E (aD E E E (ag (ab (cr E (aC ?_))))))
     exact cu () ⟨rfl,rfl,rfl,rfl,rfl,trivial⟩ ⟨rfl,fun h9=>by
      first
      |exact absurd h9 (by omega)
      |(refine Nat.le_of_not_lt fun hh=>h35 (UInt64.lt_iff_toNat_lt.2 ?_);rw[hd];exact hh)⟩
   rintro⟨⟩ _ ⟨rfl,h9⟩
   refine ab (af ?_)
   have hab:=HP (c:=l[i]) ha (by omega) h9 (hm (by omega))
   refine aa (ac E E (ac E E (ac E E (al E E E (gT) (al E E E (dT) (ae E E (ag (ab (af (aa (ac E E ?_)))))))))))
   refine al (v:=bF 128) E E E (gT) (ae E E (ag (ab (af (aa (ac E E (ax E E (ah E E (ar (o:=0) MN E (by kernel_rfl) E) ?_))))))))
   refine ak E E (aj MB E (k0.cell (i:=0) E)) (ac E E ?_)
   obtain⟨a50,p50,q50⟩:=gH b0 (i:=i) (by omega) .i64
   refine aq E E E (p50 _) (ak E E (aj MC E q50) (al (v:=U8 128) E E E (lh) (ag (ab ?_))))
   refine bz E (fun h52=>?_) (fun h52=>?_)
   ·have hc:l[i].toNat<128:=UInt8.lt_iff_toNat_lt.1 h52
    refine af ?_
    refine fg (fun _:Unit=>[(0,.pointer (some ⟨g,0,none⟩)),(4,bF (acc+(l[i]%128).toUInt64*mult)),(6,I (i:Int))]) (fun _ w'=>w=w'∧¬(0<i∧l[i].toNat=0)) ?_ ?_
    ·refine af (aa (ac E E (al E E E (ca) (ac E E ?_))))
     refine ce (fun h55=>?_) (fun h55=>?_)
     ·refine ai E (ac E E (ai E (al (v:=bF 0) E E E (gV) (ap E E E (ag (ab ?_))))))
      refine bz E (fun h58=>?_) (fun h58=>?_)
      ·have hn:eW l=none:=by
        have h58:=congrArg UInt64.toNat h58
        rw[hd,show(0:UInt64).toNat=0 from rfl] at h58
        rw[hrd,hdr,qm (by omega),if_pos (Or.inr ⟨by omega,by omega⟩)];rfl
       refine af (aa (ac E E (am dZ E E (d6 hr) ?_)))
       rintro v60 w60 ⟨rfl,hr2,gg⟩
       have m60:=eA.kp hr gg
       refine ae E E (ae E E (ag (ab (aw (ay (ay (aZ (ay (ay (aZ (ay (bf E E E ?_))))))))))))
       exact⟨_,rfl,gg,by rw[hn];exact⟨rfl,hr2⟩⟩
      ·refine aC ?_
       exact cu () ⟨rfl,rfl,rfl,trivial⟩ ⟨rfl,fun hh=>by
        first
        |omega
        |exact h58 (by rw[UInt8.toNat_inj.1 (show l[i].toNat=(0:UInt8).toNat from hh.2)];rfl)⟩
     ·refine an E E E (an E E E (aD E E E (ag (ab (cr E (aC ?_))))))
      exact cu () ⟨rfl,rfl,rfl,trivial⟩ ⟨rfl,fun hh=>by
       first
       |omega
       |exact h58 (by rw[UInt8.toNat_inj.1 (show l[i].toNat=(0:UInt8).toNat from hh.2)];rfl)⟩
    rintro⟨⟩ _ ⟨rfl,hz⟩
    refine ab (af (aa (ac E E (ac E E (ax E E (ah E E (ar (o:=0) MN E (by kernel_rfl) E) ?_))))))
    refine ak E E (aj MB E (k0.cell (i:=0) E)) (ac E E (al (r:=I ((i+1:Nat):Int)) E E E (by have e:((i+1:Nat):Int)=(i:Int)+1:=(by omega);rw[e];exact aN (by omega) (by omega)) ?_))
    obtain⟨v68,p68,b68⟩:=gG b0 (lo:=i+1) (by omega) .i64
    refine cx E E E E E (p68 _) (ax E E (ah E E (ar (o:=0) MN E (by kernel_rfl) E) ?_))
    obtain⟨w3,hs3,q3,r3⟩:=eA.set (by have:=hr;rw[hst] at this;exact this) b68 (tT (p68 w) lc)
    refine au E E (hs3) (ag (ab (af (aa (ac E E (ae E E (ae E E (ag (ab (aw (aZ (ay (ay (aZ (ay (bf E E E ?_))))))))))))))))
    exact⟨_,rfl,q3,by
     rw[hrd,hdr,qm (by omega),if_neg (fun hh=>hh.elim (fun h=>by have:=h9 h.1;omega) hz),if_pos hc]
     rw[Nat.mod_eq_of_lt hc] at hab
     exact⟨by rw[Nat.add_comm,←hab,UInt64.ofNat_toNat];rfl,r3⟩⟩
   ·have hc:¬l[i].toNat<128:=fun hh=>h52 (UInt8.lt_iff_toNat_lt.2 hh)
    refine aC (aS (ab (aa (ac E E (al (r:=I ((i+1:Nat):Int)) E E E (by have e:((i+1:Nat):Int)=(i:Int)+1:=(by omega);rw[e];exact aN (by omega) (by omega)) ?_)))))
    refine ae E E (ag ?_)
    refine iz (i+1) (acc+(l[i]%128).toUInt64*mult) (mult*128) ⟨rfl,rfl,rfl,rfl,trivial⟩ ⟨rfl,by omega,by omega,fun hi9=>by
     rw[UInt64.toNat_mul,hm (by omega),show(128:UInt64).toNat=128 from rfl,←Nat.pow_succ]
     exact Nat.mod_eq_of_lt (Nat.lt_of_le_of_lt (Nat.pow_le_pow_right (by omega) hi9) (by decide)),by
     rw[hab,Nat.pow_succ]
     have:(l[i].toNat%128)*128^i≤127*128^i:=Nat.mul_le_mul_right _ (by omega)
     omega,by
     rw[hrd,hdr,qm (by omega),hab]
     by_cases hi9:i=9
     ·subst hi9
      rw[if_pos (Or.inl ⟨rfl,by omega⟩),show 10-(9+1)=0 by omega,F9,Option.map_none,Option.map_none]
     ·rw[if_neg (fun hh=>by omega),if_neg hc,Option.map_map]
      congr 1
      funext p
      simp only[Function.comp,Prod.mk.injEq,and_true]
      omega⟩ (by omega)
  ·refine bc (aI (aI (be (ab (af (aa (ac E E (am dZ E E (d6 hr) ?_))))))))
   rintro v73 w73 ⟨rfl,hr2,gg⟩
   have m73:=eA.kp hr gg
   refine ae E E (ae E E (ag (ab (aw (bf E E E ?_)))))
   exact⟨_,rfl,gg,by
    have hn:eW l=none:=by
     rw[hrd]
     rcases Nat.lt_or_ge i 10 with h|h
     ·rw[List.drop_of_length_le (by omega),vT];rfl
     ·rw[show 10-i=0 by omega];rfl
    rw[hn];exact⟨rfl,hr2⟩⟩
 ·refine an E E E (an E E E (aD E E E (ag (ab (cr E (bc (aI (aI (be (ab (af (aa (ac E E (am dZ E E (d6 hr) ?_))))))))))))))
  rintro v73 w73 ⟨rfl,hr2,gg⟩
  have m73:=eA.kp hr gg
  refine ae E E (ae E E (ag (ab (aw (bf E E E ?_)))))
  exact⟨_,rfl,gg,by
   have hn:eW l=none:=by
    rw[hrd]
    rcases Nat.lt_or_ge i 10 with h|h
    ·rw[List.drop_of_length_le (by omega),vT];rfl
    ·rw[show 10-i=0 by omega];rfl
   rw[hn];exact⟨rfl,hr2⟩⟩
end Go.Rl

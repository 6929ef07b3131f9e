/- Part 2 of a proof: plain facts and walks of functions, merged by a program. Conditions: each lemma names its own. -/
import Derived.Test.YtaajaakbcelmfaaGreatDoorCd1
namespace Go.Rl
theorem it (l:List UInt32) (i:Nat):val (l.take (i+1))=val (l.take i)+4294967296^i*(l.getD i 0).toNat:=by
 rcases Nat.lt_or_ge i l.length with h|h
 ·rw[bN h];simp[List.getD,List.getElem?_eq_getElem h]
 ·rw[List.take_of_length_le h,List.take_of_length_le (by omega)];simp[List.getD,List.getElem?_eq_none h]
theorem kS (l:List UInt32) {i:Nat} (h:l.length≤i):val (l.take i)=val l:=by rw[List.take_of_length_le h]
def vB (l:List UInt32) (n:Nat):List UInt32:=l++List.replicate (n-l.length) 0
theorem mO {l:List UInt32} {n:Nat} (h:l.length≤n):(vB l n).length=n:=by simp[vB];omega
theorem qZ (l:List UInt32) (n:Nat):val (vB l n)=val l:=by simp[vB,en,pp]
theorem rf {l:List UInt32} {n i:Nat} (h:i<(vB l n).length):(vB l n)[i]=l.getD i 0:=by
 unfold vB at h⊢
 rcases Nat.lt_or_ge i l.length with h1|h1
 ·rw[List.getElem_append_left h1];simp[List.getD,List.getElem?_eq_getElem h1]
 ·rw[List.getElem_append_right h1];simp[List.getD,List.getElem?_eq_none h1]
theorem D7 {l m:List UInt32} {n j:Nat} (hl:l.length≤n) (hm:m.length≤n) (hj:j<n) (hd:(vB l n).drop (j+1)=(vB m n).drop (j+1)) (h:(l.getD j 0).toNat<(m.getD j 0).toNat):val l<val m:=by
 rw[←qZ l n,←qZ m n]
 exact AZ (by rw[mO hl];exact hj) (by rw[mO hm];exact hj) hd (by rw[rf,rf];exact h)
theorem D8 {l m:List UInt32} {n j:Nat} (hl:l.length≤n) (hm:m.length≤n) (hj:j<n) (hd:(vB l n).drop (j+1)=(vB m n).drop (j+1)) (h:(l.getD j 0).toNat=(m.getD j 0).toNat):(vB l n).drop j=(vB m n).drop j:=by
 have h1:=List.drop_eq_getElem_cons (l:=vB l n) (i:=j) (by rw[mO hl];exact hj)
 have h2:=List.drop_eq_getElem_cons (l:=vB m n) (i:=j) (by rw[mO hm];exact hj)
 rw[h1,h2,hd,rf,rf,jJ h]
theorem F1 {l m:List UInt32} {n:Nat} (h:vB l n=vB m n):val l=val m:=by rw[←qZ l n,←qZ m n,h]
theorem t9 {a b O:List UInt32} {i:Nat} {c:UInt64} (hO:O.length=i) (hc:c.toNat≤1) (hinv:val O+4294967296^i*c.toNat=val (a.take i)+val (b.take i)):
 val (O++[(c+((a.getD i 0).toUInt64+(b.getD i 0).toUInt64)).toUInt32])+4294967296^(i+1)*((c+((a.getD i 0).toUInt64+(b.getD i 0).toUInt64))>>>UInt64.ofNat 32).toNat=val (a.take (i+1))+val (b.take (i+1))∧
  ((c+((a.getD i 0).toUInt64+(b.getD i 0).toUInt64))>>>UInt64.ofNat 32).toNat≤1:=by
 have ha:=cO (a.getD i 0)
 have hb:=cO (b.getD i 0)
 have hC:(c+((a.getD i 0).toUInt64+(b.getD i 0).toUInt64)).toNat=c.toNat+((a.getD i 0).toNat+(b.getD i 0).toNat):=by rw[nh,nh,ft,ft];omega
 have hhi:((c+((a.getD i 0).toUInt64+(b.getD i 0).toUInt64))>>>UInt64.ofNat 32).toNat=(c.toNat+((a.getD i 0).toNat+(b.getD i 0).toNat))/4294967296:=by rw[qg _ (by omega),hC]
 refine⟨?_,by rw[hhi];omega⟩
 rw[en,kP,hO,j7,hhi,hC,it,it,Nat.pow_succ]
 have key:=Nat.div_add_mod (c.toNat+((a.getD i 0).toNat+(b.getD i 0).toNat)) 4294967296
 have k2:=congrArg (4294967296^i* ·) key
 simp only[Nat.mul_add] at k2 hinv⊢
 simp only[Nat.mul_assoc] at k2⊢
 omega
theorem D9 {O:List UInt32} {i:Nat} {c:UInt64} (hO:O.length=i) (hc:c.toNat≤1):val (O++[c.toUInt32])=val O+4294967296^i*c.toNat:=by
 rw[en,kP,hO,j7,Nat.mod_eq_of_lt (by omega)]
theorem ua {a b O:List UInt32} {i:Nat} {d:UInt64} (hO:O.length=i) (hd:d.toNat≤1) (hinv:val (a.take i)+4294967296^i*d.toNat=val O+val (b.take i)) {x y:UInt64}
 (h:(x=(a.getD i 0).toUInt64+4294967296∧(a.getD i 0).toNat<(b.getD i 0).toNat+d.toNat∧y=1)∨(x=(a.getD i 0).toUInt64∧(b.getD i 0).toNat+d.toNat≤(a.getD i 0).toNat∧y=0)):
 val (a.take (i+1))+4294967296^(i+1)*y.toNat=val (O++[(x-((b.getD i 0).toUInt64+d)).toUInt32])+val (b.take (i+1))∧y.toNat≤1:=by
 have ha:=cO (a.getD i 0)
 have hb:=cO (b.getD i 0)
 have hy:((b.getD i 0).toUInt64+d).toNat=(b.getD i 0).toNat+d.toNat:=by rw[nh,ft];omega
 have e1:(1:UInt64).toNat=1:=rfl
 have e0:(0:UInt64).toNat=0:=rfl
 have key:(a.getD i 0).toNat+4294967296*y.toNat=(x-((b.getD i 0).toUInt64+d)).toUInt32.toNat+((b.getD i 0).toNat+d.toNat)∧y.toNat≤1:=by
  rcases h with⟨rfl,h,rfl⟩|⟨rfl,h,rfl⟩
  ·have hx:((a.getD i 0).toUInt64+4294967296).toNat=(a.getD i 0).toNat+4294967296:=by
    rw[nh,ft]
    show((a.getD i 0).toNat+4294967296)%18446744073709551616=_
    omega
   rw[j7,oB,hy,hx,e1]
   omega
  ·rw[j7,oB,hy,ft,e0]
   omega
 refine⟨?_,key.2⟩
 rw[en,kP,hO,it,it,Nat.pow_succ]
 have k2:=congrArg (4294967296^i* ·) key.1
 simp only[Nat.mul_add] at k2 hinv⊢
 simp only[Nat.mul_assoc] at k2⊢
 omega
theorem Cb {a O:List UInt32} {i q s:Nat} {c:UInt64} (hs:s<32) (hi:i<a.length) (hO:O.length=q+i) (hc:c.toNat<2^s) (hinv:val O+4294967296^(q+i)*c.toNat=val (a.take i)*(4294967296^q*2^s)):
 val (O++[(c|||a[i].toUInt64<<<UInt64.ofNat s).toUInt32])+4294967296^(q+(i+1))*((c|||a[i].toUInt64<<<UInt64.ofNat s)>>>UInt64.ofNat 32).toNat=val (a.take (i+1))*(4294967296^q*2^s)∧
  ((c|||a[i].toUInt64<<<UInt64.ofNat s)>>>UInt64.ofNat 32).toNat<2^s:=by
 have ha:=cO a[i]
 have hps:2^s≤2^31:=Nat.pow_le_pow_right (by omega) (by omega)
 have hsh:(a[i].toUInt64<<<UInt64.ofNat s).toNat=2^s*a[i].toNat:=by
  rw[xq _ (by omega),ft,Nat.mod_eq_of_lt,Nat.mul_comm]
  have:a[i].toNat*2^s≤4294967295*2^31:=Nat.mul_le_mul (by omega) hps
  omega
 have hC:(c|||a[i].toUInt64<<<UInt64.ofNat s).toNat=c.toNat+2^s*a[i].toNat:=by rw[FZ,hsh,HT _ _ _ hc]
 have hhi:((c|||a[i].toUInt64<<<UInt64.ofNat s)>>>UInt64.ofNat 32).toNat=(c.toNat+2^s*a[i].toNat)/4294967296:=by rw[qg _ (by omega),hC]
 refine⟨?_,?_⟩
 ·rw[en,kP,hO,j7,hhi,hC,bN hi,Nat.add_mul,←hinv,←Nat.add_assoc q i 1,Nat.pow_succ,Nat.pow_add]
  have key:=Nat.div_add_mod (c.toNat+2^s*a[i].toNat) 4294967296
  have k2:=congrArg (4294967296^q*4294967296^i* ·) key
  have e:4294967296^i*a[i].toNat*(4294967296^q*2^s)=4294967296^q*4294967296^i*(2^s*a[i].toNat):=by
   simp only[Nat.mul_comm,Nat.mul_left_comm,Nat.mul_assoc]
  rw[e]
  simp only[Nat.mul_add] at k2⊢
  simp only[Nat.mul_assoc] at k2⊢
  omega
 ·rw[hhi,Nat.div_lt_iff_lt_mul (by omega)]
  have h1:2^s*(a[i].toNat+1)≤2^s*4294967296:=Nat.mul_le_mul_left _ ha
  rw[Nat.mul_add] at h1
  omega
theorem Hj {a:List UInt32} {i:Nat} (hi:i/32<a.length):((a[i/32]>>>UInt32.ofNat (i%32))&&&1).toNat=val a/2^i%2:=by
 have hs:i%32<32:=Nat.mod_lt _ (by omega)
 have e1:((a[i/32]>>>UInt32.ofNat (i%32))&&&1).toNat=a[i/32].toNat/2^(i%32)%2:=by
  rw[UInt32.toNat_and,oA _ hs]
  show _&&&1=_
  rw[Nat.and_one_is_mod]
 have h1:=d6 a (i/32) (by omega)
 have h2:=cr (a.take (i/32))
 rw[List.length_take,Nat.min_eq_left (by omega)] at h2
 have h3:(4294967296:Nat)^(i/32)=2^(32*(i/32)):=by rw[Nat.pow_mul]
 rw[h3] at h1 h2
 have h4:val a/2^(32*(i/32))=val (a.drop (i/32)):=by
  rw[h1,Nat.add_mul_div_left _ _ (Nat.pow_pos (by omega)),Nat.div_eq_of_lt h2,Nat.zero_add]
 have h5:val a/2^i=val (a.drop (i/32))/2^(i%32):=by
  rw[←h4,Nat.div_div_eq_div_mul,←Nat.pow_add,Nat.div_add_mod]
 rw[e1,h5,eD hi]
 have hp:2^(i%32)*2^(32-i%32)=4294967296:=by rw[←Nat.pow_add,show i%32+(32-i%32)=32 by omega]
 obtain⟨k,hk⟩:∃k,32-i%32=k+1:=⟨31-i%32,by omega⟩
 rw[←hp,Nat.mul_assoc,Nat.add_mul_div_left _ _ (Nat.pow_pos (by omega)),hk,Nat.pow_succ,Nat.mul_comm (2^k) 2,Nat.mul_assoc,Nat.add_mul_mod_self_left]
theorem Hk {a:List UInt32} {i t:Nat} (hi:i/32<a.length) (hv:val a=2^(i+1)*t):val (a.set (i/32) (a[i/32]|||(1:UInt32)<<<UInt32.ofNat (i%32)))=val a+2^i:=by
 have hs:i%32<32:=Nat.mod_lt _ (by omega)
 have h1:=d6 a (i/32) (by omega)
 have h2:=cr (a.take (i/32))
 rw[List.length_take,Nat.min_eq_left (by omega)] at h2
 have h3:(4294967296:Nat)^(i/32)=2^(32*(i/32)):=by rw[Nat.pow_mul]
 have h4:val (a.drop (i/32))=2^(i%32+1)*t:=by
  have e:val a/2^(32*(i/32))=val (a.drop (i/32)):=by
   rw[h3] at h1 h2
   rw[h1,Nat.add_mul_div_left _ _ (Nat.pow_pos (by omega)),Nat.div_eq_of_lt h2,Nat.zero_add]
  rw[←e,hv,show i+1=32*(i/32)+(i%32+1) by omega,Nat.pow_add,Nat.mul_assoc,Nat.mul_div_cancel_left _ (Nat.pow_pos (by omega))]
 have h5:a[i/32].toNat=2^(i%32+1)*(t%2^(31-i%32)):=by
  have e:=eD hi
  rw[h4] at e
  have e2:a[i/32].toNat=2^(i%32+1)*t%4294967296:=by
   rw[e,Nat.add_mul_mod_self_left,Nat.mod_eq_of_lt (cO _)]
  have hp:2^(i%32+1)*2^(31-i%32)=4294967296:=by rw[←Nat.pow_add,show i%32+1+(31-i%32)=32 by omega]
  rw[e2,←hp,Nat.mul_mod_mul_left]
 have h6:((1:UInt32)<<<UInt32.ofNat (i%32)).toNat=2^(i%32):=by
  rw[FY _ hs]
  show 1*2^(i%32)%4294967296=_
  have:2^(i%32)≤2^31:=Nat.pow_le_pow_right (by omega) (by omega)
  rw[Nat.one_mul,Nat.mod_eq_of_lt (by omega)]
 have h7:(a[i/32]|||(1:UInt32)<<<UInt32.ofNat (i%32)).toNat=a[i/32].toNat+2^(i%32):=by
  rw[DT,h6,h5,Nat.or_comm,HT _ _ _ (Nat.pow_lt_pow_right (by omega) (by omega)),Nat.add_comm]
 have h8:=fj hi (a[i/32]|||(1:UInt32)<<<UInt32.ofNat (i%32))
 have h9:=d6 (a.set (i/32) (a[i/32]|||(1:UInt32)<<<UInt32.ofNat (i%32))) (i/32+1) (by simp;omega)
 rw[h8,List.drop_set_of_lt (by omega),h7] at h9
 have h10:=d6 a (i/32+1) (by omega)
 rw[bN hi] at h10
 rw[h9,h10,Nat.mul_add]
 have e:4294967296^(i/32)*2^(i%32)=2^i:=by rw[h3,←Nat.pow_add,Nat.div_add_mod]
 rw[e];omega
theorem zt {N V i:Nat} (hV:0<V):
 N/2^i=2*(N/2^(i+1))+N/2^i%2∧(V≤2*(N/2^(i+1)%V)+N/2^i%2→N/2^i%V=2*(N/2^(i+1)%V)+N/2^i%2-V∧N/2^i/V=2*(N/2^(i+1)/V)+1)∧
  (2*(N/2^(i+1)%V)+N/2^i%2<V→N/2^i%V=2*(N/2^(i+1)%V)+N/2^i%2∧N/2^i/V=2*(N/2^(i+1)/V)):=by
 have e:N/2^(i+1)=N/2^i/2:=by rw[Nat.pow_succ,Nat.div_div_eq_div_mul]
 rw[e]
 generalize N/2^i=M
 have h1:M=2*(M/2)+M%2:=by omega
 have h2:=Nat.div_add_mod (M/2) V
 have h3:=Nat.mod_lt (M/2) hV
 refine⟨h1,fun h=>?_,fun h=>?_⟩
 ·have key:M=V*(2*(M/2/V)+1)+(2*(M/2%V)+M%2-V):=by
   rw[Nat.mul_add,Nat.mul_left_comm];omega
  have hlt:2*(M/2%V)+M%2-V<V:=by omega
  constructor
  ·conv=>lhs;rw[key]
   rw[Nat.mul_add_mod,Nat.mod_eq_of_lt hlt]
  ·conv=>lhs;rw[key]
   rw[Nat.mul_add_div hV,Nat.div_eq_of_lt hlt,Nat.add_zero]
 ·have key:M=V*(2*(M/2/V))+(2*(M/2%V)+M%2):=by
   rw[Nat.mul_left_comm];omega
  constructor
  ·conv=>lhs;rw[key]
   rw[Nat.mul_add_mod,Nat.mod_eq_of_lt h]
  ·conv=>lhs;rw[key]
   rw[Nat.mul_add_div hV,Nat.div_eq_of_lt h,Nat.add_zero]
theorem F3 {n:Nat} (h:0<n):bl n=bl (n/2)+1:=by
 rcases(show n=1∨2≤n by omega) with rfl|h1
 ·rfl
 ·have:=lQ (n:=n) (s:=1) (by omega)
  rw[Nat.pow_one] at this
  omega
end Go.Rl
namespace Go.Rl
open Go.RowKit Go.Proofs
theorem eF:az Tryz.prog 186:=⟨_,Tryz.func186,by kernel_rfl,rfl⟩
theorem xC:az Tryz.prog 196:=⟨_,Tryz.func196,by kernel_rfl,rfl⟩
theorem rQ:az Tryz.prog 195:=⟨_,Tryz.func195,by kernel_rfl,rfl⟩
theorem eG:az Tryz.prog 212:=⟨_,Tryz.func212,by kernel_rfl,rfl⟩
theorem ub:az Tryz.prog 200:=⟨_,Tryz.func200,by kernel_rfl,rfl⟩
theorem rR:az Tryz.prog 167:=⟨_,Tryz.func167,by kernel_rfl,rfl⟩
theorem Cc:az Tryz.prog 199:=⟨_,Tryz.func199,by kernel_rfl,rfl⟩
theorem Cd:az Tryz.prog 201:=⟨_,Tryz.func201,by kernel_rfl,rfl⟩
theorem Ce:az Tryz.prog 198:=⟨_,Tryz.func198,by kernel_rfl,rfl⟩
theorem zu:az Tryz.prog 197:=⟨_,Tryz.func197,by kernel_rfl,rfl⟩
theorem uc {w:World} {l:List UInt32} {v:Value} (hv:bt l v w) (hl:l.length≤8796093022208):
 Calls Tryz.prog 186 #[v] w (bF fun r w'=>aM w w'∧dK w.heap.size (lb (val l)) r w'):=by
 refine enter (vs:=[v]) Tryz.func186 Jg Jg Jg ?_
 refine af (aa (ab Jg Jg (ag (ac (af (aa (ae Jg Jg (aP Jg Jg (bp IX hv) (ab Jg Jg (ag (ac (af ?_))))))))))))
 refine ax ?_
 refine bV (α:=Nat) (fun n=>[(0,v),(3,I (n:Int))]) (fun n w'=>w=w'∧n≤l.length∧val (l.take n)=val l) (fun n=>n) (l.length) ⟨rfl,rfl,trivial⟩ ⟨rfl,Nat.le_refl _,by rw[List.take_length]⟩ ?_
 rintro n _ ⟨rfl,hn,hval⟩
 refine af (af (aa (ae Jg Jg (ai Jg Jg Jg (ce) (ae Jg Jg ?_)))))
 refine cJ (fun h8=>?_) (fun h8=>?_)
 ·refine al Jg (ae Jg Jg (al Jg (ae Jg Jg (al Jg (ai (r:=I ((n-1:Nat):Int)) Jg Jg Jg (by have e:((n-1:Nat):Int)=(n:Int)-1:=(by omega);rw[e];exact bb (by omega) (by omega)) ?_)))))
  refine al Jg ?_
  obtain⟨a12,p12,q12⟩:=cL IX hv (i:=(n-1:Nat)) (by omega) .i64
  refine aB Jg Jg Jg (p12 _) (al Jg (am Jg Jg (ak IK Jg q12) (al Jg (ai (v:=bw 0) Jg Jg Jg (j2) (aw Jg Jg Jg ?_)))))
  refine ag (ac ?_)
  refine bi Jg (fun h15=>?_) (fun h15=>?_)
  ·refine aq (ac (ax (aa (ae Jg Jg (ai (r:=I ((n-1:Nat):Int)) Jg Jg Jg (by have e:((n-1:Nat):Int)=(n:Int)-1:=(by omega);rw[e];exact bb (by omega) (by omega)) ?_)))))
   refine ab Jg Jg (ag (aJ ?_))
   refine bM (n-1) ⟨rfl,rfl,trivial⟩ ⟨rfl,by omega,by rw[pt (by omega) hn h15];exact hval⟩ (by omega)
  ·refine aW (aA (aA (aU (ac (af (aa ?_))))))
   obtain⟨v18,w18,hr18,x18,o18,ob18⟩:=gV Tryz.underlying53 (w:=w) w.heap.size [] (by simp) (Nat.le_refl _)
   refine aN (vs:=[]) Jg Jg hr18 (ae Jg Jg (ae Jg Jg ?_))
   obtain⟨v21,p21,b21⟩:=rE IX (hv.ext x18) (hi:=n) hn .i64
   refine cu Jg Jg Jg Jg Jg (p21 _) ?_
   obtain⟨v22,w22,hr22,o22,g22⟩:=A0 Tryz.underlying53 Tryz.underlying52 (ty:=53) o18 b21 (by simp;omega) (x18).size
   have x22:=aM.of_grew (x18) g22 o18.ge
   refine be Jg Jg hr22 (ab Jg Jg (ag (ac (au (aF Jg Jg ?_)))))
   exact⟨_,rfl,x22,by
    have e:lb (val l)=l.take n:=by
     first
     |rw[←hval,j6 (by omega) hn h15]
     |(have h0:n=0:=by omega
       subst h0
       rw[←hval];rfl)
    rw[e];simpa using o22⟩
 ·refine ao Jg Jg Jg (ao Jg Jg Jg (ao Jg Jg Jg (ao Jg Jg Jg (ao Jg Jg Jg (ao Jg Jg Jg (aC Jg Jg Jg (ag (ac (cq Jg (aW (aA (aA ?_))))))))))))
  refine aU (ac (af (aa ?_)))
  obtain⟨v18,w18,hr18,x18,o18,ob18⟩:=gV Tryz.underlying53 (w:=w) w.heap.size [] (by simp) (Nat.le_refl _)
  refine aN (vs:=[]) Jg Jg hr18 (ae Jg Jg (ae Jg Jg ?_))
  obtain⟨v21,p21,b21⟩:=rE IX (hv.ext x18) (hi:=n) hn .i64
  refine cu Jg Jg Jg Jg Jg (p21 _) ?_
  obtain⟨v22,w22,hr22,o22,g22⟩:=A0 Tryz.underlying53 Tryz.underlying52 (ty:=53) o18 b21 (by simp;omega) (x18).size
  have x22:=aM.of_grew (x18) g22 o18.ge
  refine be Jg Jg hr22 (ab Jg Jg (ag (ac (au (aF Jg Jg ?_)))))
  exact⟨_,rfl,x22,by
   have e:lb (val l)=l.take n:=by
    first
    |rw[←hval,j6 (by omega) hn h15]
    |(have h0:n=0:=by omega
      subst h0
      rw[←hval];rfl)
   rw[e];simpa using o22⟩
theorem fk {w:World} {l:List UInt32} {v:Value} (hv:bt l v w) (hl:l.length≤8796093022208):
 Calls Tryz.prog 186 #[v] w (bF fun r w'=>aM w w'∧bt (lb (val l)) r w'):=
 (uc hv hl).mono fun _ _ ⟨r,he,h1,h2⟩=>⟨r,he,h1,h2.wds⟩
theorem xD {w:World} {x:UInt64}:
 Calls Tryz.prog 196 #[bj x] w (bF fun r w'=>aM w w'∧bt (lb x.toNat) r w'):=by
 refine enter (vs:=[bj x]) Tryz.func196 Jg Jg Jg ?_
 refine af (aa (ab Jg Jg (ag (ac (af (aa (ae Jg Jg (aQ Jg Jg (cw IL IK) (ae Jg Jg ?_)))))))))
 refine ai Jg Jg Jg (du 32 (by omega)) (aQ Jg Jg (cw IL IK) ?_)
 obtain⟨v8,w8,hr8,x8,o8,ob8⟩:=gV Tryz.underlying52 (w:=w) w.heap.size [x.toUInt32,(x>>>UInt64.ofNat 32).toUInt32] (by simp) (Nat.le_refl _)
 refine aN (vs:=[(0,bw (x.toUInt32)),(1,bw ((x>>>UInt64.ofNat 32).toUInt32))]) Jg Jg hr8 (an eF Jg Jg (fk o8.wds (by simp)) ?_)
 rintro v9 w9 ⟨x9,b9⟩
 refine ab Jg Jg (ag (ac (au (aF Jg Jg ?_))))
 exact⟨_,rfl,(x8.trans x9),by
  have e:val [x.toUInt32,(x>>>UInt64.ofNat 32).toUInt32]=x.toNat:=by
   have h1:=j7 x
   have h2:((x>>>UInt64.ofNat 32).toUInt32).toNat=x.toNat/4294967296:=by
    have:=zo x
    rw[j7,t5]
    omega
   simp only[val,h1,h2];omega
  rw[e] at b9;exact b9⟩
theorem eH {w:World} {l:List UInt32} {v:Value} {i:Nat} (hv:bt l v w):
 Calls Tryz.prog 212 #[v,I (i:Int)] w (bF fun r w'=>w=w'∧r=bw (l.getD i 0)):=by
 refine enter (vs:=[v,I (i:Int)]) Tryz.func212 Jg Jg Jg ?_
 refine af (aa (ab Jg Jg (ag (ac (af (af (aa (ae Jg Jg (ae Jg Jg (aP Jg Jg (bp IJ hv) (ai Jg Jg Jg (aX) ?_)))))))))))
 refine ag (ac ?_)
 refine bi Jg (fun h8=>?_) (fun h8=>?_)
 ·refine af (aa (ae Jg Jg (ae Jg Jg ?_)))
  obtain⟨a11,p11,q11⟩:=cL IJ hv (i:=i) (by omega) .i64
  refine aB Jg Jg Jg (p11 _) (am Jg Jg (ak IK Jg q11) (ab Jg Jg (ag (ac (au (av (aF Jg Jg ?_)))))))
  exact⟨_,rfl,rfl,by simp[List.getD,List.getElem?_eq_getElem (show i<l.length by omega)]⟩
 ·refine aq (ac (af (aa (ab Jg Jg (ag (ac (au (aF Jg Jg ?_))))))))
  exact⟨_,rfl,rfl,by simp[List.getD,List.getElem?_eq_none (show l.length≤i by omega)];rfl⟩
theorem ue {w:World} {l m:List UInt32} {v u:Value} (hv:bt l v w) (hu:bt m u w):
 Calls Tryz.prog 200 #[v,u] w (bF fun r w'=>w=w'∧r=I (pq (val l) (val m))):=by
 refine enter (vs:=[v,u]) Tryz.func200 Jg Jg Jg ?_
 have hll:=hv.len
 have hml:=hu.len
 obtain⟨n,hn⟩:∃n,n=max l.length m.length:=⟨_,rfl⟩
 have hln:l.length≤n:=by omega
 have hmn:m.length≤n:=by omega
 refine af (aa (ab Jg Jg (ag (ac (af (af (aa (ae Jg Jg (aP Jg Jg (bp IJ hv) (ae Jg Jg (aP Jg Jg (bp IJ hu) ?_)))))))))))
 refine H1 (r:=I ((n:Nat):Int)) (vs:=[I (l.length:Int),I (m.length:Int)]) Jg Jg (by rw[hn];exact FX) ?_
 refine ai Jg Jg Jg (bb (by omega) (by omega)) (ab Jg Jg (ag (ac (ax ?_))))
 refine bV (α:=Nat) (fun k=>[(0,v),(1,u),(5,I ((k:Int)-1))]) (fun k w'=>w=w'∧k≤n∧(vB l n).drop k=(vB m n).drop k) (fun k=>k) (n) ⟨rfl,rfl,rfl,trivial⟩ ⟨rfl,Nat.le_refl _,by rw[List.drop_of_length_le (by rw[mO hln];exact Nat.le_refl _),List.drop_of_length_le (by rw[mO hmn];exact Nat.le_refl _)]⟩ ?_
 rintro k _ ⟨rfl,hk,hd⟩
 refine af (af (aa (ae Jg Jg (ai Jg Jg Jg (ir) (ag (ac ?_))))))
 refine bi Jg (fun h13=>?_) (fun h13=>?_)
 ·obtain⟨j,rfl⟩:∃j,k=j+1:=⟨k-1,by omega⟩
  have e:((j+1:Nat):Int)-1=(j:Int):=by omega
  rw[e]
  refine aq (ac (af (ax (af (af (aa (ae Jg Jg (ae Jg Jg (an eG Jg Jg (eH hv) ?_)))))))))
  rintro v18 _ ⟨rfl,rfl⟩
  refine ae Jg Jg (ae Jg Jg (an eG Jg Jg (eH hu) ?_))
  rintro v21 _ ⟨rfl,rfl⟩
  refine ai Jg Jg Jg (tQ) (ag (ac ?_))
  refine bi Jg (fun h22=>?_) (fun h22=>?_)
  ·refine af (aa (ab Jg Jg (ag (ac (au (av (bc (av (av (bc (av (aF Jg Jg ?_))))))))))))
   exact⟨_,rfl,rfl,congrArg I (vz (D7 hln hmn (by omega) hd (xu.1 h22))).symm⟩
  ·refine aq (ac (af (aa (ae Jg Jg (ae Jg Jg (an eG Jg Jg (eH hv) ?_))))))
   rintro v25 _ ⟨rfl,rfl⟩
   refine ae Jg Jg (ae Jg Jg (an eG Jg Jg (eH hu) ?_))
   rintro v28 _ ⟨rfl,rfl⟩
   refine ai Jg Jg Jg (tR) (ag (ac ?_))
   refine bi Jg (fun h29=>?_) (fun h29=>?_)
   ·refine af (aa (ab Jg Jg (ag (ac (au (bc (av (av (bc (av (aF Jg Jg ?_)))))))))))
    exact⟨_,rfl,rfl,congrArg I (vA (D7 hmn hln (by omega) hd.symm (xu.1 h29))).symm⟩
   ·refine aq (aJ (ac (aa (ae Jg Jg (ai Jg Jg Jg (bb (by omega) (by omega)) (ab Jg Jg (ag ?_)))))))
    refine bM j ⟨rfl,rfl,rfl,trivial⟩ ⟨rfl,by omega,D8 hln hmn (by omega) hd (by
     have a:=mt xu.2 h22
     have b:=mt (xu (a:=m.getD j 0) (b:=l.getD j 0)).2 h29
     omega)⟩ (by omega)
 ·refine aW (aA (aA (aU (ac (af (aa (ab Jg Jg (ag (ac (au (aF Jg Jg ?_)))))))))))
  exact⟨_,rfl,rfl,by
   obtain rfl:k=0:=by omega
   rw[List.drop_zero,List.drop_zero] at hd
   rw[F1 hd,A2];rfl⟩
theorem rS {w:World} {l m:List UInt32} {v u:Value} (hv:bt l v w) (hu:bt m u w):
 Calls Tryz.prog 167 #[v,u] w (bF fun r w'=>aM w w'∧r=B (decide (l=m))):=by
 refine enter (vs:=[v,u]) Tryz.func167 Jg Jg Jg ?_
 have hll:=hv.len
 refine af (aa (ab Jg Jg (ag (ac (af (af (aa (ae Jg Jg (aP Jg Jg (bp IJ hv) (ae Jg Jg (aP Jg Jg (bp IJ hu) ?_)))))))))))
 refine ai Jg Jg Jg (bS) (ag (ac ?_))
 refine bi Jg (fun h10=>?_) (fun h10=>?_)
 ·refine af (aa (ab Jg Jg (ag (ac (au (av (aF Jg Jg ?_)))))))
  exact⟨_,rfl,aM.refl _,congrArg B (decide_eq_false fun h=>by subst h;exact h10 rfl).symm⟩
 ·have hlen:l.length=m.length:=by omega
  refine aq (ac (af (af (aa (ab Jg Jg (ag (ac (ax ?_))))))))
  refine bV (α:=Nat) (fun i=>[(0,v),(1,u),(5,I (i:Int))]) (fun i w'=>aM w w'∧i≤l.length∧l.take i=m.take i) (fun i=>l.length-i) (0) ⟨rfl,rfl,rfl,trivial⟩ ⟨aM.refl _,by omega,rfl⟩ ?_
  rintro i w4 ⟨e4,hi,ht⟩
  refine af (af (aa (ae Jg Jg (ae Jg Jg (aP Jg Jg (bp IJ (hv.ext e4)) (ai Jg Jg Jg (aX) (ag (ac ?_))))))))
  refine bi Jg (fun h14=>?_) (fun h14=>?_)
  ·refine aq (ac (af (ax (af (bA 8 [0,1,5,20,24] (by kernel_rfl) (by kernel_rfl) ?_)))))
   refine ap Jg Jg (ap Jg Jg ?_)
   obtain⟨a19,p19,q19⟩:=cL IJ (hv.ext e4) (i:=i) (by omega) .i64
   refine ay Jg Jg Jg (fun w _=>p19 w) (aD Jg Jg (fun w hw=>ak IK Jg (hw.cell_some q19)) (ap Jg Jg (ap Jg Jg ?_)))
   obtain⟨a23,p23,q23⟩:=cL IJ (hu.ext e4) (i:=i) (by omega) .i64
   refine ay Jg Jg Jg (fun w _=>p23 w) (aD Jg Jg (fun w hw=>ak IK Jg (hw.cell_some q23)) (bG ?_))
   intro wg6 xg6
   rintro _ hq0
   obtain rfl:=Eq.symm hq0
   rintro _ hq1
   obtain rfl:=Eq.symm hq1
   rintro _ rfl
   rintro _ rfl
   rintro _ rfl
   refine ai Jg Jg Jg (j3) (ag (ac ?_))
   refine bi Jg (fun h25=>?_) (fun h25=>?_)
   ·have hne:l≠m:=fun h=>by subst h;exact h25 rfl
    refine af (aa (ab Jg Jg (ag (ac (au (bc (av (av (bc (av (aF Jg Jg ?_)))))))))))
    exact⟨_,rfl,(e4.trans xg6),congrArg B (decide_eq_false hne).symm⟩
   ·refine aq (aJ (ac (aa (ae Jg Jg (ai (r:=I ((i+1:Nat):Int)) Jg Jg Jg (by have e:((i+1:Nat):Int)=(i:Int)+1:=(by omega);rw[e];exact aK (by omega) (by omega)) ?_)))))
    refine ab Jg Jg (ag ?_)
    refine bM (i+1) ⟨rfl,rfl,rfl,trivial⟩ ⟨(e4.trans xg6),by omega,by rw[List.take_succ_eq_append_getElem (show i<l.length by omega),List.take_succ_eq_append_getElem (show i<m.length by omega),ht,show l[i]=m[i] from Classical.byContradiction fun h=>h25 h]⟩ (by omega)
  ·refine aW (aA (aA (aU (ac (af (aa (ab Jg Jg (ag (ac (au (aF Jg Jg ?_)))))))))))
   exact⟨_,rfl,e4,congrArg B (decide_eq_true (by
    rw[List.take_of_length_le (by omega),List.take_of_length_le (by omega)] at ht
    exact ht)).symm⟩
theorem rT {w:World} {l:List UInt32} {v:Value} (hv:bt l v w) (hl:l.length≤8796093022208):
 Calls Tryz.prog 195 #[v] w (bF fun r w'=>aM w w'∧((18446744073709551616≤val l∧r=.tuple #[bj 0,B false])∨∃x:UInt64,x.toNat=val l∧r=.tuple #[bj x,B true])):=by
 refine enter (vs:=[v]) Tryz.func195 Jg Jg Jg ?_
 refine af (aa (ab Jg Jg (ab Jg Jg (ag (ac (af (aa (ae Jg Jg (an eF Jg Jg (fk hv hl) ?_)))))))))
 rintro v5 w5 ⟨x5,b5⟩
 refine ab Jg Jg (ag (ac (af (af ?_))))
 obtain⟨t,ht⟩:∃t,t=lb (val l):=⟨_,rfl⟩
 have hval:val t=val l:=by rw[ht,bJ]
 have h64:t.length≤2∨18446744073709551616≤val l:=by
  rcases Nat.lt_or_ge (val l) 18446744073709551616 with h|h
  ·exact .inl (by rw[ht];exact gu (n:=val l) (k:=2) h)
  ·exact .inr h
 rw[←ht] at b5
 refine aa (ae Jg Jg (aP Jg Jg (bp IJ b5) (ag (ac (ax (af (aa (ai Jg Jg Jg (aV) (ab Jg Jg ?_)))))))))
 refine ag (ac ?_)
 refine bi Jg (fun h8=>?_) (fun h8=>?_)
 ·refine af (aa (ab Jg Jg (ab Jg Jg (ag (ac (au (bc (av (aH Jg Jg Jg ?_)))))))))
  exact⟨_,rfl,x5,.inr ⟨0,by
   have:t=[]:=List.eq_nil_of_length_eq_zero (by omega)
   rw[←hval,this];rfl,rfl⟩⟩
 ·refine af (aa (ai Jg Jg Jg (aV) (ab Jg Jg (ag (ac ?_)))))
  refine bi Jg (fun h10=>?_) (fun h10=>?_)
  ·refine af (aa (ae Jg Jg ?_))
   obtain⟨a13,p13,q13⟩:=cL IJ b5 (i:=0) (by omega) .i64
   refine aB Jg Jg Jg (p13 _) (am Jg Jg (ak IK Jg q13) (aQ Jg Jg (bI IK IL) ?_))
   refine ab Jg Jg (ab Jg Jg (ag (ac (au (bc (av (aH Jg Jg Jg ?_)))))))
   exact⟨_,rfl,x5,.inr ⟨_,by
    obtain⟨x,rfl⟩:=List.length_eq_one_iff.1 (show t.length=1 by omega)
    rw[ft,←hval];simp[val],rfl⟩⟩
  ·refine af (aa (ai Jg Jg Jg (aV) (ab Jg Jg (ag (ac ?_)))))
   refine bi Jg (fun h16=>?_) (fun h16=>?_)
   ·refine af (bA 11 [2] (by kernel_rfl) (by kernel_rfl) ?_)
    refine ap Jg Jg ?_
    obtain⟨a19,p19,q19⟩:=cL IJ b5 (i:=0) (by omega) .i64
    refine ay Jg Jg Jg (fun w _=>p19 w) (aD Jg Jg (fun w hw=>ak IK Jg (hw.cell_some q19)) (dh Jg Jg (fun w _=>bI IK IL) ?_))
    refine ap Jg Jg ?_
    obtain⟨a23,p23,q23⟩:=cL IJ b5 (i:=1) (by omega) .i64
    refine ay Jg Jg Jg (fun w _=>p23 w) (aD Jg Jg (fun w hw=>ak IK Jg (hw.cell_some q23)) (dh Jg Jg (fun w _=>bI IK IL) ?_))
    refine aR (v:=bj 32) Jg Jg Jg (fun w _=>fz 32 (by omega)) (aR Jg Jg Jg (fun w _=>iD) (eg Jg Jg (bG ?_)))
    intro wg8 xg8
    rintro _ rfl
    refine ab Jg Jg (ag (ac (au (bc (av (aH Jg Jg Jg ?_))))))
    exact⟨_,rfl,(x5.trans xg8),.inr ⟨_,by
     have e1:=eD (l:=t) (i:=0) (by omega)
     have e2:=eD (l:=t) (i:=1) (by omega)
     simp only[Nat.zero_add,Nat.reduceAdd,List.drop_zero] at e1 e2
     rw[List.drop_of_length_le (show t.length≤2 by omega)] at e2
     rw[GJ (ft _) (cO _),←hval,e1,e2]
     simp[val],rfl⟩⟩
   ·refine aq (aJ (ac (af (aa (ab Jg Jg (ab Jg Jg (ag (ac (au (aH Jg Jg Jg ?_))))))))))
    exact⟨_,rfl,x5,.inl ⟨by omega,rfl⟩⟩
theorem Cf {w:World} {l m:List UInt32} {v u:Value} (hv:bt l v w) (hu:bt m u w) (hl:l.length≤1099511627776) (hm:m.length≤1099511627776):
 Calls Tryz.prog 199 #[v,u] w (bF fun r w'=>aM w w'∧bt (lb (val l+val m)) r w'):=by
 refine enter (vs:=[v,u]) Tryz.func199 Jg Jg Jg ?_
 refine af (aa (ab Jg Jg (ag (ac (af (aa (ab Jg Jg (ag (ac (af (aa (ab Jg Jg (ag (ac (af (af (aa (ab Jg Jg ?_))))))))))))))))))
 refine ag (ac (ax ?_))
 refine gM (fun(i:Nat) (vo:Value) (O:List UInt32) (c:UInt64)=>[(0,v),(1,u),(5,vo),(6,bj c),(7,I (i:Int))]) (fun(i:Nat) (vo:Value) (O:List UInt32) (c:UInt64) w'=>aM w w'∧dK w.heap.size O vo w'∧O.length=i∧i≤max l.length m.length∧c.toNat≤1∧val O+4294967296^i*c.toNat=val (l.take i)+val (m.take i)) (fun(i:Nat) (vo:Value) (O:List UInt32) (c:UInt64)=>max l.length m.length-i) (0) (.slice none 0 0) ([]) (0) ⟨rfl,rfl,rfl,rfl,rfl,trivial⟩ ⟨aM.refl _,dK.nil _ _,rfl,by simp,by simp,by simp[val]⟩ ?_
 rintro i vo O c w4 ⟨e4,oO,hO,hi,hc,hinv⟩
 refine af (af (aa (ae Jg Jg (ae Jg Jg (aP Jg Jg (bp IJ (hv.ext e4)) (ai Jg Jg Jg (aX) (ae Jg Jg ?_)))))))
 refine cJ (fun h12=>?_) (fun h12=>?_)
 ·refine ao Jg Jg Jg (ao Jg Jg Jg (ao Jg Jg Jg (ao Jg Jg Jg (aw Jg Jg Jg (ag (ac (bB Jg (aq (ac (af (ax (af ?_))))))))))))
  have hlt:i<max l.length m.length:=by
   first
   |(have:=h12;omega)
   |(have:=h17;omega)
  have st:=t9 (a:=l) (b:=m) hO hc hinv
  refine aa (ae Jg Jg (ae Jg Jg (ae Jg Jg (an eG Jg Jg (eH (hv.ext e4)) ?_))))
  rintro v23 _ ⟨rfl,rfl⟩
  refine aQ Jg Jg (bI IK IL) (ae Jg Jg (ae Jg Jg (an eG Jg Jg (eH (hu.ext e4)) ?_)))
  rintro v27 _ ⟨rfl,rfl⟩
  refine aQ Jg Jg (bI IK IL) (ai Jg Jg Jg (dn) (ai Jg Jg Jg (dn) (ab Jg Jg ?_)))
  refine ag (ac (af (aa (ae Jg Jg (ae Jg Jg (aQ Jg Jg (cw IL IK) ?_))))))
  obtain⟨v34,w34,hr34,x34,o34,ob34⟩:=gV Tryz.underlying52 (w:=w4) w4.heap.size [((((c)+(((((l.getD i 0)).toUInt64)+(((m.getD i 0)).toUInt64))))).toUInt32)] (by simp) (Nat.le_refl _)
  refine aN (vs:=[(0,bw (((((c)+(((((l.getD i 0)).toUInt64)+(((m.getD i 0)).toUInt64))))).toUInt32)))]) Jg Jg hr34 ?_
  obtain⟨v35,w35,hr35,o35,g35⟩:=jo Tryz.underlying52 (ty:=52) (oO.ext x34) o34.wds (by simp;omega) ((e4.trans x34)).size
  have x35:=aM.of_grew ((e4.trans x34)) g35 (oO.ext x34).ge
  refine be Jg Jg hr35 (ab Jg Jg (ag (ac (aa (ae Jg Jg (ai Jg Jg Jg (du 32 (by omega)) (ab Jg Jg (ag (aJ (ac (aa ?_)))))))))))
  refine ae Jg Jg (ai (r:=I ((i+1:Nat):Int)) Jg Jg Jg (by have e:((i+1:Nat):Int)=(i:Int)+1:=(by omega);rw[e];exact aK (by omega) (by omega)) ?_)
  refine ab Jg Jg (ag ?_)
  refine fa (i+1) (_) (_) (_) ⟨rfl,rfl,rfl,rfl,rfl,trivial⟩ ⟨x35,o35,by simp[hO],by omega,st.2,st.1⟩ (by omega)
 ·refine al Jg (ae Jg Jg (al Jg (ae Jg Jg (al Jg (aP Jg Jg (bp IJ (hu.ext e4)) (al Jg (ai Jg Jg Jg (aX) ?_)))))))
  refine aC Jg Jg Jg (ag (ac ?_))
  refine bi Jg (fun h17=>?_) (fun h17=>?_)
  ·refine aq (ac (af (ax (af ?_))))
   have hlt:i<max l.length m.length:=by
    first
    |(have:=h12;omega)
    |(have:=h17;omega)
   have st:=t9 (a:=l) (b:=m) hO hc hinv
   refine aa (ae Jg Jg (ae Jg Jg (ae Jg Jg (an eG Jg Jg (eH (hv.ext e4)) ?_))))
   rintro v23 _ ⟨rfl,rfl⟩
   refine aQ Jg Jg (bI IK IL) (ae Jg Jg (ae Jg Jg (an eG Jg Jg (eH (hu.ext e4)) ?_)))
   rintro v27 _ ⟨rfl,rfl⟩
   refine aQ Jg Jg (bI IK IL) (ai Jg Jg Jg (dn) (ai Jg Jg Jg (dn) (ab Jg Jg ?_)))
   refine ag (ac (af (aa (ae Jg Jg (ae Jg Jg (aQ Jg Jg (cw IL IK) ?_))))))
   obtain⟨v34,w34,hr34,x34,o34,ob34⟩:=gV Tryz.underlying52 (w:=w4) w4.heap.size [((((c)+(((((l.getD i 0)).toUInt64)+(((m.getD i 0)).toUInt64))))).toUInt32)] (by simp) (Nat.le_refl _)
   refine aN (vs:=[(0,bw (((((c)+(((((l.getD i 0)).toUInt64)+(((m.getD i 0)).toUInt64))))).toUInt32)))]) Jg Jg hr34 ?_
   obtain⟨v35,w35,hr35,o35,g35⟩:=jo Tryz.underlying52 (ty:=52) (oO.ext x34) o34.wds (by simp;omega) ((e4.trans x34)).size
   have x35:=aM.of_grew ((e4.trans x34)) g35 (oO.ext x34).ge
   refine be Jg Jg hr35 (ab Jg Jg (ag (ac (aa (ae Jg Jg (ai Jg Jg Jg (du 32 (by omega)) (ab Jg Jg (ag (aJ (ac (aa ?_)))))))))))
   refine ae Jg Jg (ai (r:=I ((i+1:Nat):Int)) Jg Jg Jg (by have e:((i+1:Nat):Int)=(i:Int)+1:=(by omega);rw[e];exact aK (by omega) (by omega)) ?_)
   refine ab Jg Jg (ag ?_)
   refine fa (i+1) (_) (_) (_) ⟨rfl,rfl,rfl,rfl,rfl,trivial⟩ ⟨x35,o35,by simp[hO],by omega,st.2,st.1⟩ (by omega)
  ·refine aW (aA (aA (aU (ac (af ?_)))))
   have hge:max l.length m.length≤i:=by
    first
    |(have:=h17;omega)
   rw[kS _ (by omega),kS _ (by omega)] at hinv
   refine aa (ae Jg Jg (ae Jg Jg (aQ Jg Jg (cw IL IK) ?_)))
   obtain⟨v41,w41,hr41,x41,o41,ob41⟩:=gV Tryz.underlying52 (w:=w4) w4.heap.size [((c).toUInt32)] (by simp) (Nat.le_refl _)
   refine aN (vs:=[(0,bw (((c).toUInt32)))]) Jg Jg hr41 ?_
   obtain⟨v42,w42,hr42,o42,g42⟩:=jo Tryz.underlying52 (ty:=52) (oO.ext x41) o41.wds (by simp;omega) ((e4.trans x41)).size
   have x42:=aM.of_grew ((e4.trans x41)) g42 (oO.ext x41).ge
   refine be Jg Jg hr42 (an eF Jg Jg (fk o42.wds (by simp;omega)) ?_)
   rintro v43 w43 ⟨x43,b43⟩
   refine ab Jg Jg (ag (ac (au (aF Jg Jg ?_))))
   exact⟨_,rfl,(x42.trans x43),by rw[←hinv,←D9 hO hc];exact b43⟩
theorem Cg {w:World} {l m:List UInt32} {v u:Value} (hv:bt l v w) (hu:bt m u w) (hl:l.length≤1099511627776) (hle:val m≤val l):
 Calls Tryz.prog 201 #[v,u] w (bF fun r w'=>aM w w'∧∃d,r=.tuple #[d,I 0]∧dK w.heap.size (lb (val l-val m)) d w'):=by
 refine enter (vs:=[v,u]) Tryz.func201 Jg Jg Jg ?_
 refine af (aa (ab Jg Jg (ab Jg Jg (ag (ac (af (af (aa (ae Jg Jg (ae Jg Jg (an ub Jg Jg (ue hv hu) ?_)))))))))))
 rintro v13 _ ⟨rfl,rfl⟩
 refine ai Jg Jg Jg (bZ (fun h=>by have:=lR.1 h;omega) aX) (ag (ac (cq Jg (aq (ac (af (aa (ab Jg Jg (ag (ac (af ?_)))))))))))
 refine aa (ab Jg Jg (ag (ac (af (af (aa (ab Jg Jg (ag (ac (ax ?_))))))))))
 refine gM (fun(i:Nat) (vo:Value) (O:List UInt32) (d:UInt64)=>[(0,v),(1,u),(6,vo),(7,bj d),(8,I (i:Int))]) (fun(i:Nat) (vo:Value) (O:List UInt32) (d:UInt64) w'=>aM w w'∧dK w.heap.size O vo w'∧O.length=i∧i≤l.length∧d.toNat≤1∧val (l.take i)+4294967296^i*d.toNat=val O+val (m.take i)) (fun(i:Nat) (vo:Value) (O:List UInt32) (d:UInt64)=>l.length-i) (0) (.slice none 0 0) ([]) (0) ⟨rfl,rfl,rfl,rfl,rfl,trivial⟩ ⟨aM.refl _,dK.nil _ _,rfl,by simp,by simp,by simp[val]⟩ ?_
 rintro i vo O d w6 ⟨e6,oO,hO,hi,hd,hinv⟩
 refine af (af (aa (ae Jg Jg (ae Jg Jg (aP Jg Jg (bp IJ (hv.ext e6)) (ai Jg Jg Jg (aX) (ag (ac ?_))))))))
 refine bi Jg (fun h18=>?_) (fun h18=>?_)
 ·refine aq (ac (af (ax (af ?_))))
  have hlt:i<l.length:=by omega
  have hxa:=ft (l.getD i 0)
  have hyb:((m.getD i 0).toUInt64+d).toNat=(m.getD i 0).toNat+d.toNat:=by
   have:=cO (m.getD i 0)
   rw[nh,ft];omega
  refine aa (ae Jg Jg (ae Jg Jg (an eG Jg Jg (eH (hv.ext e6)) ?_)))
  rintro v23 _ ⟨rfl,rfl⟩
  refine aQ Jg Jg (bI IK IL) (ae Jg Jg (ae Jg Jg (an eG Jg Jg (eH (hu.ext e6)) ?_)))
  rintro v27 _ ⟨rfl,rfl⟩
  refine aQ Jg Jg (bI IK IL) (ae Jg Jg (ai Jg Jg Jg (dn) (ab Jg Jg (ab Jg Jg ?_))))
  refine ag (ac (af (aa (ab Jg Jg (ag (ac (af (af (aa (ae Jg Jg (ae Jg Jg (ai Jg Jg Jg (dt) (ag (ac ?_))))))))))))))
  refine bi Jg (fun h33=>?_) (fun h33=>?_)
  ·have hlt2:(l.getD i 0).toNat<(m.getD i 0).toNat+d.toNat:=by
    have:=UInt64.lt_iff_toNat_lt.1 h33
    rwa [hxa,hyb] at this
   have st:=ua (a:=l) (b:=m) hO hd hinv (.inl ⟨rfl,hlt2,rfl⟩)
   refine af (aa (ae Jg Jg (ai (v:=bj 4294967296) Jg Jg Jg (dn) (ab Jg Jg (ag (ac (aa (ab Jg Jg (ag (ac (aa (ae Jg Jg ?_))))))))))))
   refine ae Jg Jg (ae Jg Jg (ai Jg Jg Jg (dq) (aQ Jg Jg (cw IL IK) ?_)))
   obtain⟨v41,w41,hr41,x41,o41,ob41⟩:=gV Tryz.underlying52 (w:=w6) w6.heap.size [((((((((l.getD i 0)).toUInt64)+(4294967296)))-(((((m.getD i 0)).toUInt64)+(d))))).toUInt32)] (by simp) (Nat.le_refl _)
   refine aN (vs:=[(0,bw (((((((((l.getD i 0)).toUInt64)+(4294967296)))-(((((m.getD i 0)).toUInt64)+(d))))).toUInt32)))]) Jg Jg hr41 ?_
   obtain⟨v42,w42,hr42,o42,g42⟩:=jo Tryz.underlying52 (ty:=52) (oO.ext x41) o41.wds (by simp;omega) ((e6.trans x41)).size
   have x42:=aM.of_grew ((e6.trans x41)) g42 (oO.ext x41).ge
   refine be Jg Jg hr42 (ab Jg Jg (ag (aJ (ac (aa (ae Jg Jg (ai (r:=I ((i+1:Nat):Int)) Jg Jg Jg (by have e:((i+1:Nat):Int)=(i:Int)+1:=(by omega);rw[e];exact aK (by omega) (by omega)) ?_)))))))
   refine ab Jg Jg (ag ?_)
   refine fa (i+1) (_) (_) (_) ⟨rfl,rfl,rfl,rfl,rfl,trivial⟩ ⟨x42,o42,by simp[hO],by omega,st.2,st.1⟩ (by omega)
  ·have hge2:(m.getD i 0).toNat+d.toNat≤(l.getD i 0).toNat:=by
    have:=mt UInt64.lt_iff_toNat_lt.2 h33
    rw[hxa,hyb] at this
    omega
   have st:=ua (a:=l) (b:=m) hO hd hinv (.inr ⟨rfl,hge2,rfl⟩)
   refine aq (ac (aa (ae Jg Jg (ae Jg Jg (ae Jg Jg (ai Jg Jg Jg (dq) (aQ Jg Jg (cw IL IK) ?_)))))))
   obtain⟨v41,w41,hr41,x41,o41,ob41⟩:=gV Tryz.underlying52 (w:=w6) w6.heap.size [((((((l.getD i 0)).toUInt64)-(((((m.getD i 0)).toUInt64)+(d))))).toUInt32)] (by simp) (Nat.le_refl _)
   refine aN (vs:=[(0,bw (((((((l.getD i 0)).toUInt64)-(((((m.getD i 0)).toUInt64)+(d))))).toUInt32)))]) Jg Jg hr41 ?_
   obtain⟨v42,w42,hr42,o42,g42⟩:=jo Tryz.underlying52 (ty:=52) (oO.ext x41) o41.wds (by simp;omega) ((e6.trans x41)).size
   have x42:=aM.of_grew ((e6.trans x41)) g42 (oO.ext x41).ge
   refine be Jg Jg hr42 (ab Jg Jg (ag (aJ (ac (aa (ae Jg Jg (ai (r:=I ((i+1:Nat):Int)) Jg Jg Jg (by have e:((i+1:Nat):Int)=(i:Int)+1:=(by omega);rw[e];exact aK (by omega) (by omega)) ?_)))))))
   refine ab Jg Jg (ag ?_)
   refine fa (i+1) (_) (_) (_) ⟨rfl,rfl,rfl,rfl,rfl,trivial⟩ ⟨x42,o42,by simp[hO],by omega,st.2,st.1⟩ (by omega)
 ·refine aW (aA (aA (aU (ac (af ?_)))))
  have hil:i=l.length:=by omega
  have hOl:=cr O
  rw[hO,hil] at hOl
  have hml:val (m.take i)=val m∧d.toNat=0:=by
   have h1:=d6 m (min i m.length) (by omega)
   have h2:m.take (min i m.length)=m.take i:=by
    rcases Nat.le_total i m.length with h|h
    ·rw[Nat.min_eq_left h]
    ·rw[Nat.min_eq_right h,List.take_of_length_le (Nat.le_refl _),List.take_of_length_le h]
   rw[h2] at h1
   have hll:=cr l
   rw[hil,List.take_length] at hinv
   have hz:val (m.drop (min i m.length))=0:=by
    rcases Nat.le_total i m.length with h|h
    ·rw[Nat.min_eq_left h] at h1⊢
     rcases Nat.eq_zero_or_pos (val (m.drop i)) with h0|h0
     ·exact h0
     ·have:4294967296^i*1≤4294967296^i*val (m.drop i):=Nat.mul_le_mul_left _ h0
      rw[hil] at this h1
      omega
    ·rw[Nat.min_eq_right h,List.drop_of_length_le (Nat.le_refl _)];rfl
   rw[hz,Nat.mul_zero,Nat.add_zero] at h1
   refine⟨h1.symm,?_⟩
   rcases(show d.toNat=0∨d.toNat=1 by omega) with h|h
   ·exact h
   ·rw[hil] at h1
    rw[h,Nat.mul_one,←h1] at hinv
    omega
  have hres:val l-val m=val O:=by
   rw[hml.1,hml.2,hil,List.take_length] at hinv
   omega
  refine aa (ae Jg Jg (an eF Jg Jg (uc oO.wds (by omega)) ?_))
  rintro v44 w44 ⟨x44,b44⟩
  refine ab Jg Jg (ab Jg Jg (ag (ac (au (aH Jg Jg Jg ?_)))))
  exact⟨_,rfl,(e6.trans x44),_,rfl,by rw[hres];exact b44.low e6.size⟩
theorem Ch {w:World} {l:List UInt32} {v:Value} {k:Nat} (hv:bt l v w) (hl:l.length≤1099511627776) (hk:k≤1099511627776):
 Calls Tryz.prog 198 #[v,I (k:Int)] w (bF fun r w'=>aM w w'∧bt (lb (val l*2^k)) r w'):=by
 refine enter (vs:=[v,I (k:Int)]) Tryz.func198 Jg Jg Jg ?_
 refine af (aa (ab Jg Jg (ag (ac (af (aa (ae Jg Jg (ai (r:=I ((k/32:Nat):Int)) Jg Jg Jg (by have e:((k/32:Nat):Int)=(k:Int)/32:=(by omega);rw[e];exact mz (by omega) (by omega) (by omega)) ?_))))))))
 obtain⟨v10,w10,hr10,x10,o10,ob10⟩:=tZ IX (w:=w) w.heap.size (n:=k/32) (by omega) (Nat.le_refl _)
 refine gq Jg Jg Jg hr10 (ab Jg Jg (ag (ac (af (aa (ab Jg Jg (ag (ac (af (af (aa (ab Jg Jg (ag (ac (ax ?_)))))))))))))))
 refine gM (fun(i:Nat) (vo:Value) (O:List UInt32) (c:UInt64)=>[(0,v),(1,I (k:Int)),(5,vo),(6,bj c),(7,I (i:Int))]) (fun(i:Nat) (vo:Value) (O:List UInt32) (c:UInt64) w'=>aM w w'∧dK w.heap.size O vo w'∧O.length=k/32+i∧i≤l.length∧c.toNat<2^(k%32)∧val O+4294967296^(k/32+i)*c.toNat=val (l.take i)*(4294967296^(k/32)*2^(k%32))) (fun(i:Nat) (vo:Value) (O:List UInt32) (c:UInt64)=>l.length-i) (0) (v10) (List.replicate (k/32) 0) (0) ⟨rfl,rfl,rfl,rfl,rfl,trivial⟩ ⟨x10,o10,by simp,by simp,by simp;exact Nat.pow_pos (by omega),by simp[val,pp]⟩ ?_
 rintro i vo O c w4 ⟨e4,oO,hO,hi,hc,hinv⟩
 refine af (af (aa (ae Jg Jg (ae Jg Jg (aP Jg Jg (bp IJ (hv.ext e4)) (ai Jg Jg Jg (aX) (ag (ac ?_))))))))
 refine bi Jg (fun h14=>?_) (fun h14=>?_)
 ·refine aq (ac (af (ax (af ?_))))
  have hlt:i<l.length:=by omega
  have st:=Cb (Nat.mod_lt k (show 0<32 by omega)) hlt hO hc hinv
  refine aa (ae Jg Jg (ae Jg Jg (ae Jg Jg ?_)))
  obtain⟨a20,p20,q20⟩:=cL IJ (hv.ext e4) (i:=i) (by omega) .i64
  refine aB Jg Jg Jg (p20 _) (am Jg Jg (ak IK Jg q20) (aQ Jg Jg (bI IK IL) ?_))
  refine ae Jg Jg (ai (r:=I ((k%32:Nat):Int)) Jg Jg Jg (by have e:((k%32:Nat):Int)=(k:Int)%32:=(by omega);rw[e];exact mA (by omega) (by omega)) ?_)
  refine ai Jg Jg Jg (fz ((k%32:Nat)) (by omega)) (ai Jg Jg Jg (iD) (ab Jg Jg (ag (ac (af (aa (ae Jg Jg (ae Jg Jg ?_))))))))
  refine aQ Jg Jg (cw IL IK) ?_
  obtain⟨v30,w30,hr30,x30,o30,ob30⟩:=gV Tryz.underlying52 (w:=w4) w4.heap.size [((((c)|||(((((l[i])).toUInt64)<<<UInt64.ofNat ((k%32:Nat)))))).toUInt32)] (by simp) (Nat.le_refl _)
  refine aN (vs:=[(0,bw (((((c)|||(((((l[i])).toUInt64)<<<UInt64.ofNat ((k%32:Nat)))))).toUInt32)))]) Jg Jg hr30 ?_
  obtain⟨v31,w31,hr31,o31,g31⟩:=jo Tryz.underlying52 (ty:=52) (oO.ext x30) o30.wds (by simp;omega) ((e4.trans x30)).size
  have x31:=aM.of_grew ((e4.trans x30)) g31 (oO.ext x30).ge
  refine be Jg Jg hr31 (ab Jg Jg (ag (ac (aa (ae Jg Jg (ai Jg Jg Jg (du 32 (by omega)) (ab Jg Jg (ag (aJ (ac (aa ?_)))))))))))
  refine ae Jg Jg (ai (r:=I ((i+1:Nat):Int)) Jg Jg Jg (by have e:((i+1:Nat):Int)=(i:Int)+1:=(by omega);rw[e];exact aK (by omega) (by omega)) ?_)
  refine ab Jg Jg (ag ?_)
  refine fa (i+1) (_) (_) (_) ⟨rfl,rfl,rfl,rfl,rfl,trivial⟩ ⟨x31,o31,by simp[hO];omega,by omega,st.2,st.1⟩ (by omega)
 ·refine aW (aA (aA (aU (ac (af ?_)))))
  rw[kS _ (by omega)] at hinv
  have e32:4294967296^(k/32)*2^(k%32)=2^k:=by
   have h3:(4294967296:Nat)^(k/32)=2^(32*(k/32)):=by rw[Nat.pow_mul]
   rw[h3,←Nat.pow_add,Nat.div_add_mod]
  have hc1:c.toNat<4294967296:=Nat.lt_of_lt_of_le hc (Nat.pow_le_pow_right (show 0<2 by omega) (show k%32≤32 by omega))
  have hend:val (O++[c.toUInt32])=val l*2^k:=by
   rw[en,kP,hO,j7,Nat.mod_eq_of_lt hc1,hinv,e32]
  refine aa (ae Jg Jg (ae Jg Jg (aQ Jg Jg (cw IL IK) ?_)))
  obtain⟨v37,w37,hr37,x37,o37,ob37⟩:=gV Tryz.underlying52 (w:=w4) w4.heap.size [((c).toUInt32)] (by simp) (Nat.le_refl _)
  refine aN (vs:=[(0,bw (((c).toUInt32)))]) Jg Jg hr37 ?_
  obtain⟨v38,w38,hr38,o38,g38⟩:=jo Tryz.underlying52 (ty:=52) (oO.ext x37) o37.wds (by simp;omega) ((e4.trans x37)).size
  have x38:=aM.of_grew ((e4.trans x37)) g38 (oO.ext x37).ge
  refine be Jg Jg hr38 (an eF Jg Jg (fk o38.wds (by simp;omega)) ?_)
  rintro v39 w39 ⟨x39,b39⟩
  refine ab Jg Jg (ag (ac (au (aF Jg Jg ?_))))
  exact⟨_,rfl,(x38.trans x39),by rw[←hend];exact b39⟩
theorem zv {w:World} {l:List UInt32} {v:Value} (hv:bt l v w) (hl:l.length≤1099511627776):
 Calls Tryz.prog 197 #[v] w (bF fun r w'=>aM w w'∧r=I ((bl (val l):Nat):Int)):=by
 refine enter (vs:=[v]) Tryz.func197 Jg Jg Jg ?_
 have hll:=gu (cr l)
 refine af (aa (ab Jg Jg (ag (ac (af (aa (ae Jg Jg (an eF Jg Jg (fk hv (by omega)) ?_))))))))
 rintro v6 w6 ⟨x6,b6⟩
 refine ab Jg Jg (ag (ac (af (af (aa (ae Jg Jg (aP (r:=I ((lb (val l)).length:Int)) Jg Jg (bp IJ b6) ?_)))))))
 refine ai Jg Jg Jg (aV) (ag (ac ?_))
 refine bi Jg (fun h9=>?_) (fun h9=>?_)
 ·refine af (aa (ab Jg Jg (ag (ac (au (av (aF Jg Jg ?_)))))))
  exact⟨_,rfl,x6,by
   have:val l=0:=gb.1 (by omega)
   rw[this];rfl⟩
 ·refine aq (ac (af (aa (ae Jg Jg (aP (r:=I ((lb (val l)).length:Int)) Jg Jg (bp IJ b6) (ai (r:=I (((lb (val l)).length-1:Nat):Int)) Jg Jg Jg (by have e:(((lb (val l)).length-1:Nat):Int)=((lb (val l)).length:Int)-1:=(by omega);rw[e];exact bb (by omega) (by omega)) ?_))))))
  refine ai (r:=I ((32*((lb (val l)).length-1:Nat):Nat):Int)) Jg Jg Jg (by have e:((32*((lb (val l)).length-1:Nat):Nat):Int)=32*(((lb (val l)).length-1:Nat):Int):=(by omega);rw[e];exact eR (by omega) (by omega)) ?_
  refine ab Jg Jg (ag (ac (af (af (aa (ae Jg Jg (ae Jg Jg (aP (r:=I ((lb (val l)).length:Int)) Jg Jg (bp IJ b6) ?_))))))))
  refine ai (r:=I (((lb (val l)).length-1:Nat):Int)) Jg Jg Jg (by have e:(((lb (val l)).length-1:Nat):Int)=((lb (val l)).length:Int)-1:=(by omega);rw[e];exact bb (by omega) (by omega)) ?_
  obtain⟨a18,p18,q18⟩:=cL IJ b6 (i:=((lb (val l)).length-1:Nat)) (by omega) .i64
  refine aB Jg Jg Jg (p18 _) (am Jg Jg (ak IK Jg q18) (ab Jg Jg (ag (ac (ax ?_)))))
  refine ga (fun(k:Nat) (x:UInt32)=>[(3,I (k:Int)),(4,bw x)]) (fun(k:Nat) (x:UInt32) w'=>w6=w'∧k+bl x.toNat=bl (val l)) (fun(k:Nat) (x:UInt32)=>x.toNat) (32*((lb (val l)).length-1)) ((lb (val l))[(lb (val l)).length-1]'(by omega)) ⟨rfl,rfl,trivial⟩ ⟨rfl,(GK (by omega)).symm⟩ ?_
  rintro k x _ ⟨rfl,hinv⟩
  refine af (af (aa (ae Jg Jg (ai (v:=bw 0) Jg Jg Jg (tR) (ag (ac ?_))))))
  refine bi Jg (fun h21=>?_) (fun h21=>?_)
  ·have hx:0<x.toNat:=xu.1 h21
   have hb:=F3 hx
   have hs:(x>>>UInt32.ofNat 1).toNat=x.toNat/2:=oA x (s:=1) (by omega)
   have hbl:=t7 (n:=val l) (k:=32*l.length) (by have:=cr l;rwa [show(4294967296:Nat)^l.length=2^(32*l.length) by rw[Nat.pow_mul]] at this)
   refine aq (ac (af (ax (aa (ae Jg Jg (ai (r:=I ((k+1:Nat):Int)) Jg Jg Jg (by have e:((k+1:Nat):Int)=(k:Int)+1:=(by omega);rw[e];exact aK (by omega) (by omega)) ?_))))))
   refine ab Jg Jg (ag (aJ (ac (aa (ae Jg Jg (ai Jg Jg Jg (db 1 (by omega)) (ab Jg Jg (ag ?_))))))))
   refine el (k+1) (_) ⟨rfl,rfl,trivial⟩ ⟨rfl,by rw[hs];omega⟩ (by omega)
  ·refine aW (aA (aA (aU (ac (af (aa (ae Jg Jg (ab Jg Jg (ag (ac (au (aF Jg Jg ?_))))))))))))
   exact⟨_,rfl,x6,by
    have hx:x.toNat=0:=by
     have:=mt (xu (a:=0) (b:=x)).2 h21
     have e:(0:UInt32).toNat=0:=rfl
     omega
    rw[hx,A1,Nat.add_zero] at hinv
    rw[hinv]⟩
end Go.Rl
namespace Go.Rl
open Go.RowKit Go.Proofs
theorem Ci:az Tryz.prog 209:=⟨_,Tryz.func209,by kernel_rfl,rfl⟩
theorem Cj:az Tryz.prog 208:=⟨_,Tryz.func208,by kernel_rfl,rfl⟩
theorem top2 {m:List UInt32} {k:Nat} (h:m.length=k+2):val m=((m[k+1]'(by omega)).toNat*4294967296+(m[k]'(by omega)).toNat)*4294967296^k+val (m.take k):=by
 rw[d6 m k (by omega),eD (show k<m.length by omega),eD (show k+1<m.length by omega),List.drop_of_length_le (show m.length≤k+1+1 by omega),Nat.mul_comm (4294967296^k),Nat.add_comm]
 congr 2
 simp only[val]
 omega
theorem top3 {m:List UInt32} {k:Nat} (h:m.length=k+3):val m=(((m[k+2]'(by omega)).toNat*4294967296+(m[k+1]'(by omega)).toNat)*4294967296+(m[k]'(by omega)).toNat)*4294967296^k+val (m.take k):=by
 rw[d6 m k (by omega),eD (show k<m.length by omega),eD (show k+1<m.length by omega),eD (show k+1+1<m.length by omega),List.drop_of_length_le (show m.length≤k+1+1+1 by omega),Nat.mul_comm (4294967296^k),Nat.add_comm]
 congr 2
 simp only[val,Nat.add_assoc,Nat.reduceAdd]
 omega
theorem rU {a b:UInt64}:a≥b↔b.toNat≤a.toNat:=UInt64.le_iff_toNat_le
theorem zw {a b:UInt64}:a>b↔b.toNat<a.toNat:=UInt64.lt_iff_toNat_lt
theorem Ck {w:World} {L m:List UInt32} {u v:Value} {k:Nat} (hu:bt L u w) (hv:bt m v w) (hm:m.length=k+2) (hL:L.length=k+3) (hk:k≤1099511627776) (h1:0<(m[k+1]'(by omega)).toNat) (hUV:val L<4294967296*val m):
 Calls Tryz.prog 209 #[u,v] w (bF fun r w'=>aM w w'∧∃q:UInt64,r=bj q∧q.toNat<4294967296∧(q.toNat-1)*val m≤val L∧val L<(q.toNat+1)*val m):=by
 refine enter (vs:=[u,v]) Tryz.func209 Jg Jg Jg ?_
 have tV:=top2 hm
 have tU:=top3 hL
 have hPk:=H9 k
 have hVl:=cr (m.take k)
 have hUl:=cr (L.take k)
 rw[List.length_take,Nat.min_eq_left (by omega)] at hVl hUl
 have b0:=cO (L[k]'(by omega))
 have b1:=cO (L[k+1]'(by omega))
 have b2:=cO (L[k+2]'(by omega))
 have c1:=cO (m[k+1]'(by omega))
 have c0:=cO (m[k]'(by omega))
 have hV0:0<val m:=by
  rw[tV]
  have:=Nat.mul_le_mul_right (4294967296^k) (show 1≤(m[k+1]'(by omega)).toNat*4294967296+(m[k]'(by omega)).toNat by omega)
  omega
 have hu0:(L[k+2]'(by omega)).toNat≤(m[k+1]'(by omega)).toNat:=by
  rcases Nat.lt_or_ge (m[k+1]'(by omega)).toNat (L[k+2]'(by omega)).toNat with h|h
  ·have e1:((m[k+1]'(by omega)).toNat*4294967296+(m[k]'(by omega)).toNat+1)*4294967296^k*4294967296≤(((L[k+2]'(by omega)).toNat*4294967296+(L[k+1]'(by omega)).toNat)*4294967296+(L[k]'(by omega)).toNat)*4294967296^k:=by
    rw[Nat.mul_assoc,Nat.mul_comm (4294967296^k),←Nat.mul_assoc]
    exact Nat.mul_le_mul_right _ (by omega)
   rw[Nat.add_mul _ 1] at e1
   omega
  ·exact h
 have hd0:(m[k+1]'(by omega)).toUInt64≠0:=fun h=>by
  have:=congrArg UInt64.toNat h
  rw[ft] at this
  simp at this
  omega
 have n01:=rH (L[k+2]'(by omega)).toUInt64 (L[k+1]'(by omega)) (by rw[ft];exact b2)
 rw[ft] at n01
 refine af (aa (ab Jg Jg (ag (ac (af (aa (ae Jg Jg (aP (r:=I ((k+2:Nat):Int)) Jg Jg ((by rw[←hm];exact bp IJ hv)) ?_))))))))
 refine ab Jg Jg (ag (ac (af (bA 13 [0,1,5,23] (by kernel_rfl) (by kernel_rfl) ?_))))
 refine ap Jg Jg (ap Jg Jg ?_)
 obtain⟨a13,p13,q13⟩:=cL IJ hu (i:=(k+2:Nat)) (by omega) .i64
 refine ay Jg Jg Jg (fun w _=>p13 w) (aD Jg Jg (fun w hw=>ak IK Jg (hw.cell_some q13)) (dh Jg Jg (fun w _=>bI IK IL) ?_))
 refine aR (v:=bj 32) Jg Jg Jg (fun w _=>fz 32 (by omega)) (ap Jg Jg (ap Jg Jg (aR (r:=I ((k+1:Nat):Int)) Jg Jg Jg (fun w _=>by have e:((k+1:Nat):Int)=((k+2:Nat):Int)-1:=(by omega);rw[e];exact bb (by omega) (by omega)) ?_)))
 obtain⟨a20,p20,q20⟩:=cL IJ hu (i:=(k+1:Nat)) (by omega) .i64
 refine ay Jg Jg Jg (fun w _=>p20 w) (aD Jg Jg (fun w hw=>ak IK Jg (hw.cell_some q20)) (dh Jg Jg (fun w _=>bI IK IL) ?_))
 refine aR Jg Jg Jg (fun w _=>iD) (bG ?_)
 intro wg2 xg2
 rintro _ hq0
 obtain rfl:=Eq.symm hq0
 rintro _ hq1
 obtain rfl:=Eq.symm hq1
 rintro _ rfl
 rintro _ rfl
 refine ab Jg Jg (ag (ac (af (bA 17 [0,1,5,7,39] (by kernel_rfl) (by kernel_rfl) ?_))))
 refine ap Jg Jg (ap Jg Jg (ap Jg Jg (aR (r:=I ((k+1:Nat):Int)) Jg Jg Jg (fun w _=>by have e:((k+1:Nat):Int)=((k+2:Nat):Int)-1:=(by omega);rw[e];exact bb (by omega) (by omega)) ?_)))
 obtain⟨a28,p28,q28⟩:=cL IJ (hv.ext xg2) (i:=(k+1:Nat)) (by omega) .i64
 refine ay Jg Jg Jg (fun w _=>p28 w) (aD Jg Jg (fun w hw=>ak IK Jg (hw.cell_some q28)) (dh Jg Jg (fun w _=>bI IK IL) ?_))
 refine aR Jg Jg Jg (fun w _=>gt hd0) (ap Jg Jg (ap Jg Jg (ap Jg Jg (aR (r:=I ((k+1:Nat):Int)) Jg Jg Jg (fun w _=>by have e:((k+1:Nat):Int)=((k+2:Nat):Int)-1:=(by omega);rw[e];exact bb (by omega) (by omega)) ?_))))
 obtain⟨a36,p36,q36⟩:=cL IJ (hv.ext xg2) (i:=(k+1:Nat)) (by omega) .i64
 refine ay Jg Jg Jg (fun w _=>p36 w) (aD Jg Jg (fun w hw=>ak IK Jg (hw.cell_some q36)) (dh Jg Jg (fun w _=>bI IK IL) ?_))
 refine aR Jg Jg Jg (fun w _=>ic hd0) (eg Jg Jg (bG ?_))
 intro wg3 xg3
 rintro _ hq0
 obtain rfl:=Eq.symm hq0
 rintro _ hq1
 obtain rfl:=Eq.symm hq1
 rintro _ rfl
 rintro _ rfl
 rintro _ rfl
 refine ab Jg Jg (ag (ac (af (ax ?_))))
 refine ga (fun(q:UInt64) (r:UInt64)=>[(0,u),(1,v),(5,I ((k+2:Nat):Int)),(7,bj q),(8,bj r)]) (fun(q:UInt64) (r:UInt64) w'=>aM w w'∧q.toNat*(m[k+1]'(by omega)).toNat+r.toNat=(L[k+2]'(by omega)).toNat*4294967296+(L[k+1]'(by omega)).toNat∧r.toNat<4294967296∧∀Q,Q*val m≤val L→Q≤q.toNat) (fun(q:UInt64) (r:UInt64)=>q.toNat) (_) (_) ⟨rfl,rfl,rfl,rfl,rfl,trivial⟩ ⟨(xg2.trans xg3),by rw[UInt64.toNat_div,UInt64.toNat_mod,n01,ft,Nat.mul_comm];exact Nat.div_add_mod _ _,by rw[UInt64.toNat_mod,n01,ft];have:=Nat.mod_lt ((L[k+2]'(by omega)).toNat*4294967296+(L[k+1]'(by omega)).toNat) h1;omega,fun Q hQ=>by
  rw[UInt64.toNat_div,n01,ft]
  refine Hi (V:=val m) (U:=val L) (P:=4294967296^k*4294967296) ?_ ?_ h1 hQ
  ·rw[tV,Nat.mul_comm (4294967296^k),←Nat.mul_assoc]
   have:=Nat.mul_le_mul_right (4294967296^k) (Nat.le_add_right ((m[k+1]'(by omega)).toNat*4294967296) (m[k]'(by omega)).toNat)
   omega
  ·rw[tU,Nat.mul_comm (4294967296^k),←Nat.mul_assoc]
   have:=Nat.mul_le_mul_right (4294967296^k) (show((L[k+2]'(by omega)).toNat*4294967296+(L[k+1]'(by omega)).toNat)*4294967296+(L[k]'(by omega)).toNat+1≤((L[k+2]'(by omega)).toNat*4294967296+(L[k+1]'(by omega)).toNat+1)*4294967296 by omega)
   rw[Nat.add_mul _ 1] at this
   omega⟩ ?_
 rintro q r w4 ⟨e4,hqr,hr,hup⟩
 refine af (af ?_)
 by_cases h41:q≥4294967296
 ·refine bA 21 [0,1,5,7,8,42,60] (by kernel_rfl) (by kernel_rfl) ?_
  refine ap Jg Jg (aR (v:=bj 4294967296) Jg Jg Jg (fun w _=>cf h41 fx) (ap Jg Jg (cB Jg Jg Jg (cB Jg Jg Jg (cB Jg Jg Jg (cB Jg Jg Jg ?_))))))
  refine cB Jg Jg Jg (cB Jg Jg Jg (cB Jg Jg Jg (cB Jg Jg Jg (cB Jg Jg Jg (cB Jg Jg Jg (cB Jg Jg Jg (cB Jg Jg Jg (cB Jg Jg Jg (cB Jg Jg Jg ?_)))))))))
  refine cB Jg Jg Jg (cB Jg Jg Jg (cB Jg Jg Jg (cB Jg Jg Jg (bG ?_))))
  intro wg4 xg4
  rintro _ hq0
  obtain rfl:=Eq.symm hq0
  rintro _ hq1
  obtain rfl:=Eq.symm hq1
  rintro _ rfl
  rintro _ rfl
  rintro _ rfl
  rintro _ rfl
  rintro _ rfl
  refine aw Jg Jg Jg (ag (ac (bB Jg (aq (ac (ax (af (aa ?_))))))))
  have hlo:∀Q,Q*val m≤val L→Q+1≤q.toNat:=by
   intro Q hQ
   first
   |(have h41':4294967296≤q.toNat:=rU.1 h41
     have h2:Q*val m<4294967296*val m:=by omega
     have:=Nat.lt_of_mul_lt_mul_right h2
     omega)
   |(have h41':q.toNat<4294967296:=Nat.lt_of_not_le fun h=>h41 (rU.2 h)
     have h61':=zw.1 h61
     have hp:q.toNat*(m[k]'(by omega)).toNat≤4294967295*4294967295:=Nat.mul_le_mul (by omega) (by omega)
     rw[rH r _ hr,t6,ft,Nat.mod_eq_of_lt (by omega)] at h61'
     have h2:=xx tV tU hUl hqr h61'
     have h3:Q*val m<q.toNat*val m:=by omega
     exact Nat.lt_of_mul_lt_mul_right h3)
  have hq0:=hlo 0 (by simp)
  have hq1:(q-1).toNat=q.toNat-1:=by
   have:=zo q
   rw[oB]
   show(18446744073709551616-1+q.toNat)%18446744073709551616=_
   omega
  have hr1:(r+(m[k+1]'(by omega)).toUInt64).toNat=r.toNat+(m[k+1]'(by omega)).toNat:=by rw[nh,ft];omega
  have hqr1:(q-1).toNat*(m[k+1]'(by omega)).toNat+(r+(m[k+1]'(by omega)).toUInt64).toNat=(L[k+2]'(by omega)).toNat*4294967296+(L[k+1]'(by omega)).toNat:=by
   rw[hq1,hr1,←hqr]
   obtain⟨p,hp⟩:∃p,q.toNat=p+1:=⟨q.toNat-1,by omega⟩
   rw[hp,Nat.add_sub_cancel,Nat.add_mul];omega
  have hup1:∀Q,Q*val m≤val L→Q≤(q-1).toNat:=fun Q hQ=>by
   have:=hlo Q hQ
   omega
  refine ae Jg Jg (ai (v:=bj 1) Jg Jg Jg (dq) (ab Jg Jg (ag (ac (af (aa (ae Jg Jg (ae Jg Jg (ae Jg Jg (ai (r:=I ((k+1:Nat):Int)) Jg Jg Jg (by have e:((k+1:Nat):Int)=((k+2:Nat):Int)-1:=(by omega);rw[e];exact bb (by omega) (by omega)) ?_))))))))))
  obtain⟨a68,p68,q68⟩:=cL IJ (hv.ext (e4.trans xg4)) (i:=(k+1:Nat)) (by omega) .i64
  refine aB Jg Jg Jg (p68 _) (am Jg Jg (ak IK Jg q68) (aQ Jg Jg (bI IK IL) ?_))
  refine ai Jg Jg Jg (dn) (ab Jg Jg (ag (ac (af (aa (ae Jg Jg (ai (v:=bj 4294967296) Jg Jg Jg (fx) (ag (ac ?_)))))))))
  refine bi Jg (fun h73=>?_) (fun h73=>?_)
  ·have h73':4294967296≤(r+(m[k+1]'(by omega)).toUInt64).toNat:=rU.1 h73
   have hB:=DW hu0 b1 hqr1 h73'
   refine aW (pZ Jg (aA (aU (ac (af (aa (ae Jg Jg (ab Jg Jg (ag (ac (au (aF Jg Jg ?_))))))))))))
   first
   |exact⟨_,rfl,(e4.trans xg4),_,rfl,hB,mJ tV tU hVl h1 c0 hB hqr1 (.inl h73'),Nat.lt_of_not_le fun h=>absurd (hup1 _ h) (by omega)⟩
   |(have h41':q.toNat<4294967296:=Nat.lt_of_not_le fun h=>h41 (rU.2 h)
     have h61':(q*(m[k]'(by omega)).toUInt64).toNat≤(r<<<UInt64.ofNat 32|||(L[k]'(by omega)).toUInt64).toNat:=Nat.le_of_not_lt fun h=>h61 (zw.2 h)
     have hp:q.toNat*(m[k]'(by omega)).toNat≤4294967295*4294967295:=Nat.mul_le_mul (by omega) (by omega)
     rw[rH r _ hr,t6,ft,Nat.mod_eq_of_lt (by omega)] at h61'
     exact⟨_,rfl,(e4.trans xg4),_,rfl,h41',mJ tV tU hVl h1 c0 h41' hqr (.inr h61'),Nat.lt_of_not_le fun h=>absurd (hup _ h) (by omega)⟩)
  ·have h73':(r+(m[k+1]'(by omega)).toUInt64).toNat<4294967296:=Nat.lt_of_not_le fun h=>h73 (rU.2 h)
   refine aq (aJ ?_)
   refine el (q-1) (r+(m[k+1]'(by omega)).toUInt64) ⟨rfl,rfl,rfl,rfl,rfl,trivial⟩ ⟨(e4.trans xg4),hqr1,h73',hup1⟩ (by show(q-1).toNat<q.toNat;omega)
 ·refine bA 21 [0,1,5,7,8,42,60] (by kernel_rfl) (by kernel_rfl) ?_
  refine ap Jg Jg (aR (v:=bj 4294967296) Jg Jg Jg (fun w _=>bZ h41 fx) (ap Jg Jg (bg Jg Jg (ap Jg Jg (bg Jg Jg (ap Jg Jg ?_))))))
  refine bg Jg Jg (ap Jg Jg (bg Jg Jg (aR (r:=I ((k:Nat):Int)) Jg Jg Jg (fun w _=>by have e:((k:Nat):Int)=((k+2:Nat):Int)-2:=(by omega);rw[e];exact bb (by omega) (by omega)) ?_)))
  refine bg Jg Jg ?_
  obtain⟨a47,p47,q47⟩:=cL IJ (hv.ext e4) (i:=(k:Nat)) (by omega) .i64
  refine ay Jg Jg Jg (fun w _=>p47 w) (bg Jg Jg (aD Jg Jg (fun w hw=>ak IK Jg (hw.cell_some q47)) (bg Jg Jg ?_)))
  refine dh Jg Jg (fun w _=>bI IK IL) (bg Jg Jg (aR Jg Jg Jg (fun w _=>fM) (bg Jg Jg ?_)))
  refine ap Jg Jg (bg Jg Jg (aR (v:=bj 32) Jg Jg Jg (fun w _=>fz 32 (by omega)) (bg Jg Jg (ap Jg Jg (bg Jg Jg (ap Jg Jg (bg Jg Jg ?_)))))))
  refine aR (r:=I ((k:Nat):Int)) Jg Jg Jg (fun w _=>by have e:((k:Nat):Int)=((k+2:Nat):Int)-2:=(by omega);rw[e];exact bb (by omega) (by omega)) ?_
  refine bg Jg Jg ?_
  obtain⟨a56,p56,q56⟩:=cL IJ (hu.ext e4) (i:=(k:Nat)) (by omega) .i64
  refine ay Jg Jg Jg (fun w _=>p56 w) (bg Jg Jg (aD Jg Jg (fun w hw=>ak IK Jg (hw.cell_some q56)) (bg Jg Jg ?_)))
  refine dh Jg Jg (fun w _=>bI IK IL) (bg Jg Jg (aR Jg Jg Jg (fun w _=>iD) (bg Jg Jg ?_)))
  refine aR Jg Jg Jg (fun w _=>ck) (bG ?_)
  intro wg4 xg4
  rintro _ hq0
  obtain rfl:=Eq.symm hq0
  rintro _ hq1
  obtain rfl:=Eq.symm hq1
  rintro _ rfl
  rintro _ rfl
  rintro _ rfl
  rintro _ rfl
  rintro _ rfl
  refine aC Jg Jg Jg (ag (ac ?_))
  refine bi Jg (fun h61=>?_) (fun h61=>?_)
  ·refine aq (ac (ax (af (aa ?_))))
   have hlo:∀Q,Q*val m≤val L→Q+1≤q.toNat:=by
    intro Q hQ
    first
    |(have h41':4294967296≤q.toNat:=rU.1 h41
      have h2:Q*val m<4294967296*val m:=by omega
      have:=Nat.lt_of_mul_lt_mul_right h2
      omega)
    |(have h41':q.toNat<4294967296:=Nat.lt_of_not_le fun h=>h41 (rU.2 h)
      have h61':=zw.1 h61
      have hp:q.toNat*(m[k]'(by omega)).toNat≤4294967295*4294967295:=Nat.mul_le_mul (by omega) (by omega)
      rw[rH r _ hr,t6,ft,Nat.mod_eq_of_lt (by omega)] at h61'
      have h2:=xx tV tU hUl hqr h61'
      have h3:Q*val m<q.toNat*val m:=by omega
      exact Nat.lt_of_mul_lt_mul_right h3)
   have hq0:=hlo 0 (by simp)
   have hq1:(q-1).toNat=q.toNat-1:=by
    have:=zo q
    rw[oB]
    show(18446744073709551616-1+q.toNat)%18446744073709551616=_
    omega
   have hr1:(r+(m[k+1]'(by omega)).toUInt64).toNat=r.toNat+(m[k+1]'(by omega)).toNat:=by rw[nh,ft];omega
   have hqr1:(q-1).toNat*(m[k+1]'(by omega)).toNat+(r+(m[k+1]'(by omega)).toUInt64).toNat=(L[k+2]'(by omega)).toNat*4294967296+(L[k+1]'(by omega)).toNat:=by
    rw[hq1,hr1,←hqr]
    obtain⟨p,hp⟩:∃p,q.toNat=p+1:=⟨q.toNat-1,by omega⟩
    rw[hp,Nat.add_sub_cancel,Nat.add_mul];omega
   have hup1:∀Q,Q*val m≤val L→Q≤(q-1).toNat:=fun Q hQ=>by
    have:=hlo Q hQ
    omega
   refine ae Jg Jg (ai (v:=bj 1) Jg Jg Jg (dq) (ab Jg Jg (ag (ac (af (aa (ae Jg Jg (ae Jg Jg (ae Jg Jg (ai (r:=I ((k+1:Nat):Int)) Jg Jg Jg (by have e:((k+1:Nat):Int)=((k+2:Nat):Int)-1:=(by omega);rw[e];exact bb (by omega) (by omega)) ?_))))))))))
   obtain⟨a68,p68,q68⟩:=cL IJ (hv.ext (e4.trans xg4)) (i:=(k+1:Nat)) (by omega) .i64
   refine aB Jg Jg Jg (p68 _) (am Jg Jg (ak IK Jg q68) (aQ Jg Jg (bI IK IL) ?_))
   refine ai Jg Jg Jg (dn) (ab Jg Jg (ag (ac (af (aa (ae Jg Jg (ai (v:=bj 4294967296) Jg Jg Jg (fx) (ag (ac ?_)))))))))
   refine bi Jg (fun h73=>?_) (fun h73=>?_)
   ·have h73':4294967296≤(r+(m[k+1]'(by omega)).toUInt64).toNat:=rU.1 h73
    have hB:=DW hu0 b1 hqr1 h73'
    refine aW (pZ Jg (aA (aU (ac (af (aa (ae Jg Jg (ab Jg Jg (ag (ac (au (aF Jg Jg ?_))))))))))))
    first
    |exact⟨_,rfl,(e4.trans xg4),_,rfl,hB,mJ tV tU hVl h1 c0 hB hqr1 (.inl h73'),Nat.lt_of_not_le fun h=>absurd (hup1 _ h) (by omega)⟩
    |(have h41':q.toNat<4294967296:=Nat.lt_of_not_le fun h=>h41 (rU.2 h)
      have h61':(q*(m[k]'(by omega)).toUInt64).toNat≤(r<<<UInt64.ofNat 32|||(L[k]'(by omega)).toUInt64).toNat:=Nat.le_of_not_lt fun h=>h61 (zw.2 h)
      have hp:q.toNat*(m[k]'(by omega)).toNat≤4294967295*4294967295:=Nat.mul_le_mul (by omega) (by omega)
      rw[rH r _ hr,t6,ft,Nat.mod_eq_of_lt (by omega)] at h61'
      exact⟨_,rfl,(e4.trans xg4),_,rfl,h41',mJ tV tU hVl h1 c0 h41' hqr (.inr h61'),Nat.lt_of_not_le fun h=>absurd (hup _ h) (by omega)⟩)
   ·have h73':(r+(m[k+1]'(by omega)).toUInt64).toNat<4294967296:=Nat.lt_of_not_le fun h=>h73 (rU.2 h)
    refine aq (aJ ?_)
    refine el (q-1) (r+(m[k+1]'(by omega)).toUInt64) ⟨rfl,rfl,rfl,rfl,rfl,trivial⟩ ⟨(e4.trans xg4),hqr1,h73',hup1⟩ (by show(q-1).toNat<q.toNat;omega)
  ·refine aW (aA (aA (aU (ac (af (aa (ae Jg Jg (ab Jg Jg (ag (ac (au (aF Jg Jg ?_))))))))))))
   first
   |exact⟨_,rfl,(e4.trans xg4),_,rfl,hB,mJ tV tU hVl h1 c0 hB hqr1 (.inl h73'),Nat.lt_of_not_le fun h=>absurd (hup1 _ h) (by omega)⟩
   |(have h41':q.toNat<4294967296:=Nat.lt_of_not_le fun h=>h41 (rU.2 h)
     have h61':(q*(m[k]'(by omega)).toUInt64).toNat≤(r<<<UInt64.ofNat 32|||(L[k]'(by omega)).toUInt64).toNat:=Nat.le_of_not_lt fun h=>h61 (zw.2 h)
     have hp:q.toNat*(m[k]'(by omega)).toNat≤4294967295*4294967295:=Nat.mul_le_mul (by omega) (by omega)
     rw[rH r _ hr,t6,ft,Nat.mod_eq_of_lt (by omega)] at h61'
     exact⟨_,rfl,(e4.trans xg4),_,rfl,h41',mJ tV tU hVl h1 c0 h41' hqr (.inr h61'),Nat.lt_of_not_le fun h=>absurd (hup _ h) (by omega)⟩)
end Go.Rl
namespace Go.Rl
open Go.RowKit Go.Proofs
theorem Cl {w:World} {g:Nat} {pre post:List Value} {L m:List UInt32} {u v:Value} {q:UInt64} (hu:PW g pre L post u w) (hv:bt m v w) (ha:v.ownBlock=none∨v.ownBlock≠some g) (hL:L.length=m.length+1) (hm:m.length≤1099511627776)
 (hq:q.toNat<4294967296) (h1:(q.toNat-1)*val m≤val L) (h2:val L<(q.toNat+1)*val m):
 Calls Tryz.prog 208 #[u,v,bj q] w (bF fun r w'=>∃x F,r=bw x∧w.grownBy w' (some g)∧PW g pre F post u w'∧F.length=L.length∧val L=x.toNat*val m+val F∧val F<val m):=by
 refine enter (vs:=[u,v,bj q]) Tryz.func208 Jg Jg Jg ?_
 refine af (aa (ab Jg Jg (ag (ac (af (aa (ab Jg Jg (ab Jg Jg (ag (ac (af (af (aa (ae Jg Jg (aP Jg Jg (bp IJ hv) ?_)))))))))))))))
 refine ae Jg Jg (ag (ac (ax ?_)))
 refine gM (fun(i:Nat) (M:List UInt32) (c:UInt64) (b:UInt64)=>[(0,u),(1,v),(2,bj q),(7,bj c),(8,bj b),(15,v),(16,I (m.length:Int)),(17,I (i:Int))]) (fun(i:Nat) (M:List UInt32) (c:UInt64) (b:UInt64) w'=>w.grownBy w' (some g)∧PW g pre M post u w'∧M.length=L.length∧i≤m.length∧M.drop i=L.drop i∧c.toNat<4294967296∧b.toNat≤1∧val (L.take i)+4294967296^i*(c.toNat+b.toNat)=val (M.take i)+q.toNat*val (m.take i)) (fun(i:Nat) (M:List UInt32) (c:UInt64) (b:UInt64)=>m.length-i) (0) (L) (0) (0) ⟨rfl,rfl,rfl,rfl,rfl,rfl,rfl,rfl,trivial⟩ ⟨dj (aM.refl _),hu,rfl,by simp,rfl,by simp,by simp,by simp[val]⟩ ?_
 rintro i M c b w3 ⟨q3,pM,hM,hi,hMi,hc,hb,hinv⟩
 refine af ?_
 have v3:=hv.away ha q3
 refine aa (ai Jg Jg Jg (aX) (ag (ac (af ?_))))
 refine bi Jg (fun h18=>?_) (fun h18=>?_)
 ·refine aq (ac (af (ax (af (aa (ae Jg Jg ?_))))))
  obtain⟨a20,p20,q20⟩:=cL IJ v3 (i:=i) (by omega) .i64
  refine aB Jg Jg Jg (p20 _) (am Jg Jg (ak IK Jg q20) (ab Jg Jg (ab Jg Jg (ag (ac (af (aa (ae Jg Jg ?_))))))))
  refine ae Jg Jg (ae Jg Jg (aQ Jg Jg (bI IK IL) (ai Jg Jg Jg (fM) (ai Jg Jg Jg (dn) ?_))))
  refine ab Jg Jg (ag (ac (af (aa (ae Jg Jg (ae Jg Jg ?_))))))
  obtain⟨a30,p30,q30⟩:=cL IJ pM.wds (i:=i) (by omega) .i64
  refine aB Jg Jg Jg (p30 _) (am Jg Jg (ak IK Jg q30) (aQ Jg Jg (bI IK IL) ?_))
  refine ae Jg Jg (aQ Jg Jg (cw IL IK) (aQ Jg Jg (bI IK IL) ?_))
  refine ai Jg Jg Jg (dq) (ae Jg Jg (ai Jg Jg Jg (dq) (ab Jg Jg (ag (ac (af (aa (ae Jg Jg (ae Jg Jg (ae Jg Jg ?_))))))))))
  refine aQ Jg Jg (cw IL IK) ?_
  obtain⟨w43,p43,s43,pN,q43,c43⟩:=pM.setP IJ (i:=i) (by omega) ((((((((M[i])).toUInt64)-(((((c)+(((q)*(((m[i])).toUInt64))))).toUInt32).toUInt64)))-(b)))).toUInt32
  refine aB Jg Jg Jg (p43 _) (ar Jg Jg (s43) (ag (ac (af (aa (ae Jg Jg (ai Jg Jg Jg (du 63 (by omega)) (ab Jg Jg (ag ?_)))))))))
  refine ac (aa (ae Jg Jg (ai Jg Jg Jg (du 32 (by omega)) (ab Jg Jg (ag (aJ (ac (aa (ai (r:=I ((i+1:Nat):Int)) Jg Jg Jg (by have e:((i+1:Nat):Int)=(i:Int)+1:=(by omega);rw[e];exact aK (by omega) (by omega)) ?_)))))))))
  refine ae Jg Jg (ag ?_)
  have st:=DX (L:=L) (v:=m) (M:=M) (i:=i) (q:=q) (c:=c) (b:=b) (by omega) (by omega) hM hq hc hb hMi hinv rfl
  refine fa (i+1) (_) (_) (_) ⟨rfl,rfl,rfl,rfl,rfl,rfl,rfl,rfl,trivial⟩ ⟨q3.trans q43,pN,by simpa using hM,by omega,st.1,st.2.1,st.2.2.1,st.2.2.2⟩ (by omega)
 ·refine aW (aA (aA (aU (ac (af ?_)))))
  obtain rfl:i=m.length:=by omega
  refine aa (ae Jg Jg (ae Jg Jg (aP Jg Jg (bp IJ v3) ?_)))
  obtain⟨a52,p52,q52⟩:=cL IJ pM.wds (i:=m.length) (by omega) .i64
  refine aB Jg Jg Jg (p52 _) (am Jg Jg (ak IK Jg q52) (aQ Jg Jg (bI IK IL) ?_))
  refine ae Jg Jg (ai Jg Jg Jg (dq) (ae Jg Jg (ai Jg Jg Jg (dq) (ab Jg Jg (ag (ac (af (aa (ae Jg Jg (ae Jg Jg ?_))))))))))
  refine aP Jg Jg (bp IJ v3) (ae Jg Jg (aQ Jg Jg (cw IL IK) ?_))
  obtain⟨w64,p64,s64,pN,q64,c64⟩:=pM.setP IJ (i:=m.length) (by omega) ((((((((M[m.length])).toUInt64)-(c)))-(b)))).toUInt32
  refine aB Jg Jg Jg (p64 _) (ar Jg Jg (s64) ?_)
  have v64:=v3.away ha q64
  have tp:=F0 (q:=q) hL hM hc hb hMi hinv rfl
  have h63:=qg ((((((((M[m.length])).toUInt64)-(c)))-(b)))) (s:=63) (by omega)
  simp only[Nat.reducePow] at h63
  have hNl:(M.set m.length ((((((((M[m.length])).toUInt64)-(c)))-(b)))).toUInt32).length=L.length:=by simpa using hM
  have hFl:=cr (M.set m.length ((((((((M[m.length])).toUInt64)-(c)))-(b)))).toUInt32)
  generalize M.set m.length ((((((((M[m.length])).toUInt64)-(c)))-(b)))).toUInt32=N at pN tp hNl hFl
  generalize hX:(((((((M[m.length])).toUInt64)-(c)))-(b)))=X at tp h63
  refine ag (ac (af (af (aa (ae Jg Jg (ai Jg Jg Jg (du 63 (by omega)) (ai (v:=bj 0) Jg Jg Jg (fy) (ag (ac ?_)))))))))
  refine bi Jg (fun h67=>?_) (fun h67=>?_)
  ·rw[h67] at h63
   rw[←h63] at tp
   refine af (aa (ae Jg Jg (aQ Jg Jg (cw IL IK) (ab Jg Jg (ag (ac (au (av (aF Jg Jg ?_)))))))))
   exact⟨_,rfl,q.toUInt32,N,rfl,q3.trans q64,pN,hNl,by
    have e:q.toUInt32.toNat=q.toNat:=by rw[j7];omega
    have:=tp.1
    rw[e]
    simp at this
    omega,by
    have:=tp.1
    rw[Nat.add_mul,Nat.one_mul] at h2
    simp at this
    omega⟩
  ·have hs:X.toNat/9223372036854775808=1:=by
    rcases Nat.eq_zero_or_pos (X.toNat/9223372036854775808) with h|h
    ·exact absurd (D1 (h63.trans h)) h67
    ·have:=tp.2
     omega
   rw[hs,Nat.mul_one] at tp
   refine aq (ac (af (aa (ab Jg Jg (ag (ac (af (af (aa (ae Jg Jg (aP Jg Jg (bp IJ v64) (ae Jg Jg ?_))))))))))))
   refine ag (ac (ax ?_))
   refine fN (fun(i:Nat) (K:List UInt32) (d:UInt64)=>[(0,u),(1,v),(2,bj q),(7,bj d),(70,v),(71,I (m.length:Int)),(72,I (i:Int))]) (fun(i:Nat) (K:List UInt32) (d:UInt64) w'=>w.grownBy w' (some g)∧PW g pre K post u w'∧K.length=L.length∧i≤m.length∧K.drop i=N.drop i∧d.toNat≤1∧val (K.take i)+4294967296^i*d.toNat=val (N.take i)+val (m.take i)) (fun(i:Nat) (K:List UInt32) (d:UInt64)=>m.length-i) (0) (N) (0) ⟨rfl,rfl,rfl,rfl,rfl,rfl,rfl,trivial⟩ ⟨q3.trans q64,pN,hNl,by simp,rfl,by simp,by simp[val]⟩ ?_
   rintro i K d w17 ⟨q17,pK,hK,hi,hKi,hd,hinv2⟩
   refine af ?_
   have v17:=hv.away ha q17
   refine aa (ai Jg Jg Jg (aX) (ag (ac (af ?_))))
   refine bi Jg (fun h73=>?_) (fun h73=>?_)
   ·refine aq (ac (af (ax (af (aa (ae Jg Jg ?_))))))
    obtain⟨a75,p75,q75⟩:=cL IJ v17 (i:=i) (by omega) .i64
    refine aB Jg Jg Jg (p75 _) (am Jg Jg (ak IK Jg q75) (ab Jg Jg (ab Jg Jg (ag (ac (af (aa (ae Jg Jg ?_))))))))
    refine ae Jg Jg (ae Jg Jg ?_)
    obtain⟨a80,p80,q80⟩:=cL IJ pK.wds (i:=i) (by omega) .i64
    refine aB Jg Jg Jg (p80 _) (am Jg Jg (ak IK Jg q80) (aQ Jg Jg (bI IK IL) ?_))
    refine ae Jg Jg (aQ Jg Jg (bI IK IL) (ai Jg Jg Jg (dn) (ai Jg Jg Jg (dn) (ab Jg Jg ?_))))
    refine ag (ac (af (aa (ae Jg Jg (ae Jg Jg (ae Jg Jg (aQ Jg Jg (cw IL IK) ?_)))))))
    obtain⟨w91,p91,s91,pK',q91,c91⟩:=pK.setP IJ (i:=i) (by omega) ((((d)+(((((K[i])).toUInt64)+(((m[i])).toUInt64)))))).toUInt32
    refine aB Jg Jg Jg (p91 _) (ar Jg Jg (s91) (ag (ac (aa (ae Jg Jg (ai Jg Jg Jg (du 32 (by omega)) (ab Jg Jg (ag (aJ ?_)))))))))
    refine ac (aa (ai (r:=I ((i+1:Nat):Int)) Jg Jg Jg (by have e:((i+1:Nat):Int)=(i:Int)+1:=(by omega);rw[e];exact aK (by omega) (by omega)) ?_))
    refine ae Jg Jg (ag ?_)
    have st:=DY (L:=N) (v:=m) (M:=K) (i:=i) (c:=d) (by omega) (by omega) (by omega) hd hKi hinv2
    refine dv (i+1) (_) (_) ⟨rfl,rfl,rfl,rfl,rfl,rfl,rfl,trivial⟩ ⟨q17.trans q91,pK',by simpa using hK,by omega,st.1,st.2.1,st.2.2⟩ (by omega)
   ·refine aW (aA (aA (aU (ac (af ?_)))))
    obtain rfl:i=m.length:=by omega
    refine aa (ae Jg Jg (ae Jg Jg (aP Jg Jg (bp IJ v17) ?_)))
    obtain⟨a98,p98,q98⟩:=cL IJ pK.wds (i:=m.length) (by omega) .i64
    refine aB Jg Jg Jg (p98 _) (am Jg Jg (ak IK Jg q98) (ae Jg Jg (aQ Jg Jg (cw IL IK) ?_)))
    refine ai Jg Jg Jg (cg) ?_
    obtain⟨w103,p103,s103,pK',q103,c103⟩:=pK.setP IJ (i:=m.length) (by omega) (K[m.length]'(by omega)+d.toUInt32)
    refine aB Jg Jg Jg (p103 _) (ar Jg Jg (s103) (ag (ac (af (aa (ae Jg Jg (ai (v:=bj 1) Jg Jg Jg (dq) (aQ Jg Jg (cw IL IK) ?_))))))))
    refine ab Jg Jg (ag (ac (au (aF Jg Jg ?_))))
    have rb:=D3 (q:=q.toNat) hL hNl hK hd hKi hinv2 tp.1 h1
    exact⟨_,rfl,(q-1).toUInt32,_,rfl,q17.trans q103,pK',by simpa using hK,by
     have e:(q-1).toUInt32.toNat=q.toNat-1:=by
      have h0:=rb.1
      rw[j7,oB]
      show(18446744073709551616-1+q.toNat)%18446744073709551616%_=_
      omega
     rw[e];exact rb.2.1,rb.2.2⟩
end Go.Rl
namespace Go.Rl
open Go.RowKit Go.Proofs
theorem iY:az Tryz.prog 190:=⟨_,Tryz.func190,by kernel_rfl,rfl⟩
theorem Cm {U:List UInt32} {i j V:Nat} (h:val U<4294967296^(i+1)*V) (hV:V<4294967296^j) (hi:i+j+1≤U.length):val (U.drop (i+j+1))=0:=by
 rw[d6 U (i+j+1) hi] at h
 rcases Nat.eq_zero_or_pos (val (U.drop (i+j+1))) with h0|h0
 ·exact h0
 ·have a:4294967296^(i+1)*V≤4294967296^(i+1)*4294967296^j:=Nat.mul_le_mul_left _ (Nat.le_of_lt hV)
  rw[←Nat.pow_add,show i+1+j=i+j+1 by omega] at a
  have b:4294967296^(i+j+1)*1≤4294967296^(i+j+1)*val (U.drop (i+j+1)):=Nat.mul_le_mul_left _ h0
  omega
theorem Ea {U:List UInt32} {i n:Nat} (h:i+n≤U.length) (h0:val (U.drop (i+n))=0):val U=val (U.take i)+4294967296^i*val ((U.take (i+n)).drop i):=by
 have h1:=d6 U (i+n) h
 rw[h0,Nat.mul_zero,Nat.add_zero] at h1
 have h2:=d6 (U.take (i+n)) i (by simp;omega)
 rw[List.take_take,Nat.min_eq_left (by omega)] at h2
 rw[h1,h2]
theorem zx {U F:List UInt32} {i n:Nat} (h:i+n≤U.length) (h0:val (U.drop (i+n))=0):val (U.take i++F++U.drop (i+n))=val (U.take i)+4294967296^i*val F:=by
 rw[en,en,h0,List.length_take,Nat.min_eq_left (by omega)];simp
theorem iZ {w:World} {l m:List UInt32} {v u:Value} (hv:bt l v w) (hu:bt m u w) (hl:l.length≤549755813888) (hml:m.length≤549755813888) (hm:0<val m):
 Calls Tryz.prog 190 #[v,u] w (bF fun r w'=>aM w w'∧∃q s,r=.tuple #[q,s,I 0]∧bt (lb (val l/val m)) q w'∧bt (lb (val l%val m)) s w'):=by
 refine enter (vs:=[v,u]) Tryz.func190 Jg Jg Jg ?_
 have hll:=gu (cr l)
 have hmm:=gu (cr m)
 have hM0:0<(lb (val m)).length:=by
  rcases Nat.eq_zero_or_pos (lb (val m)).length with h|h
  ·have:=gb.1 h
   omega
  ·exact h
 refine af (aa (ab Jg Jg (ab Jg Jg (ab Jg Jg (ag (ac (af (aa (ae Jg Jg (an dF Jg Jg (dQ hv) ?_))))))))))
 rintro v18 _ ⟨rfl,b18⟩
 refine ae Jg Jg (an dF Jg Jg (dQ hu) ?_)
 rintro v20 _ ⟨rfl,b20⟩
 refine ab Jg Jg (ab Jg Jg (ag (ac (af (ax (af (aa (ae Jg Jg (aP (r:=I ((lb (val m)).length:Int)) Jg Jg (bp IJ b20) ?_)))))))))
 refine ai Jg Jg Jg (bZ (by omega) aV) (ab Jg Jg (ag (ac (cq Jg (af (aa (ae Jg Jg (ae Jg Jg (an pr Jg Jg ((by have:=pu b18 b20;rw[bJ,bJ] at this;exact this)) ?_)))))))))
 rintro v28 w28 ⟨x28,rfl⟩
 refine ai Jg Jg Jg (aX) (ab Jg Jg (ag (ac ?_)))
 refine bi Jg (fun h25=>?_) (fun h25=>?_)
 ·have hlt:=lR.1 h25
  refine af (aa (ae Jg Jg (an kQ Jg Jg ((by have:=kR (b18.ext x28) (by omega);rw[bJ] at this;exact this)) ?_)))
  rintro v31 w31 ⟨x31,b31⟩
  refine ab Jg Jg (ab Jg Jg (ab Jg Jg (ag (ac (au (bc (av (kD Jg Jg Jg Jg ?_))))))))
  exact⟨_,rfl,(x28.trans x31),_,_,rfl,by rw[Nat.div_eq_of_lt hlt];exact bt.nil _,by rw[Nat.mod_eq_of_lt hlt];exact b31⟩
 ·have hge:val m≤val l:=Nat.le_of_not_lt fun h=>h25 (lR.2 h)
  have hlen:(lb (val m)).length≤(lb (val l)).length:=Nat.le_of_not_lt fun h=>by have:=vw h;omega
  refine af (aa (ae Jg Jg (aP (r:=I ((lb (val m)).length:Int)) Jg Jg (bp IJ (b20.ext x28)) (ai Jg Jg Jg (aV) ?_))))
  refine ab Jg Jg (ag (ac ?_))
  refine bi Jg (fun h32=>?_) (fun h32=>?_)
  ·refine af (aa (ae Jg Jg (ae Jg Jg ?_)))
   have hM1:val m=((lb (val m))[0]'(by omega)).toNat:=by
    have e:=eD (l:=lb (val m)) (i:=0) (by omega)
    rw[List.drop_zero,bJ,List.drop_of_length_le (by omega)] at e
    simpa [val] using e
   obtain⟨a39,p39,q39⟩:=cL IJ (b20.ext x28) (i:=0) (by omega) .i64
   refine aB Jg Jg Jg (p39 _) (am Jg Jg (ak IK Jg q39) (an xr Jg Jg ((xv (b18.ext x28) (by omega) (by rw[←hM1];exact hm))) ?_))
   rintro v41 w41 ⟨x41,q,s,rfl,bq,bs⟩
   refine ae Jg Jg (aj Jg Jg aS (aj Jg Jg aT (ab Jg Jg (ab Jg Jg (ag (ac (af (aa (ae Jg Jg (ae Jg Jg (ab Jg Jg ?_)))))))))))
   refine ab Jg Jg (ab Jg Jg (ag (ac (au (bc (av (kD Jg Jg Jg Jg ?_)))))))
   rw[bJ,←hM1] at bq bs
   exact⟨_,rfl,(x28.trans x41),_,_,rfl,bq,bs⟩
  ·refine aq (aJ (ac (af ?_)))
   obtain⟨k,hk⟩:∃k,(lb (val m)).length=k+2:=⟨(lb (val m)).length-2,by omega⟩
   obtain⟨hs32,hVlen⟩:=DZ hk
   have htop:(lb (val m))[(lb (val m)).length-1]'(by omega)=(lb (val m))[k+1]'(by omega):=by congr 1;omega
   refine aa (ae Jg Jg (ae Jg Jg (aP (r:=I ((lb (val m)).length:Int)) Jg Jg (bp IJ (b20.ext x28)) (ai (r:=I (((lb (val m)).length-1:Nat):Int)) Jg Jg Jg (by have e:(((lb (val m)).length-1:Nat):Int)=((lb (val m)).length:Int)-1:=(by omega);rw[e];exact bb (by omega) (by omega)) ?_))))
   obtain⟨a50,p50,q50⟩:=cL IJ (b20.ext x28) (i:=((lb (val m)).length-1:Nat)) (by omega) .i64
   refine aB Jg Jg Jg (p50 _) (am Jg Jg (ak IK Jg q50) (an BX Jg Jg (B0) ?_))
   rintro v52 _ ⟨rfl,rfl⟩
   rw[htop]
   obtain⟨s,hs⟩:∃s,s=32-bl ((lb (val m))[k+1]'(by omega)).toNat:=⟨_,rfl⟩
   rw[←hs] at hs32 hVlen⊢
   refine ab Jg Jg (ag (ac (af (aa (ae Jg Jg (ae Jg Jg (an rJ Jg Jg (rN (b18.ext x28) (by omega) hs32) ?_)))))))
   rintro v55 w55 ⟨x55,U,oU,hUl,hUv⟩
   refine ae Jg Jg (ae Jg Jg (an rJ Jg Jg (rN (b20.ext (x28.trans x55)) (by omega) hs32) ?_))
   rintro v58 w58 ⟨x58,V,oV,hVl,hVv⟩
   refine an dF Jg Jg (rG oV.wds) ?_
   rintro v59 _ ⟨rfl,b59,ob59⟩
   rw[bJ] at hUv hVv
   rw[hVv] at b59
   obtain⟨g,sp,hgb,hgo,pU⟩:=oU.pw (by omega)
   have hV0:0<val m*2^s:=Nat.mul_pos hm (Nat.pow_pos (by omega))
   have hgV:g<w55.heap.size:=pU.lt
   have off1:v59.ownBlock=none∨v59.ownBlock≠some g:=by
    rcases ob59 with h|h
    ·exact .inl h
    ·exact .inr (by rw[h];exact oV.off hgV)
   refine ab Jg Jg (ab Jg Jg (ag (ac (af (aa (ae Jg Jg (aP (r:=I ((lb (val l)).length:Int)) Jg Jg (bp IJ (b18.ext ((x28.trans x55).trans x58))) ?_)))))))
   refine ae Jg Jg (aP (r:=I ((lb (val m)).length:Int)) Jg Jg (bp IJ (b20.ext ((x28.trans x55).trans x58))) (ai (r:=I (((lb (val l)).length-(lb (val m)).length:Nat):Int)) Jg Jg Jg (by have e:(((lb (val l)).length-(lb (val m)).length:Nat):Int)=((lb (val l)).length:Int)-((lb (val m)).length:Int):=(by omega);rw[e];exact bb (by omega) (by omega)) ?_))
   refine ai (r:=I (((((lb (val l)).length-(lb (val m)).length:Nat))+1:Nat):Int)) Jg Jg Jg (by have e:(((((lb (val l)).length-(lb (val m)).length:Nat))+1:Nat):Int)=(((lb (val l)).length-(lb (val m)).length:Nat):Int)+1:=(by omega);rw[e];exact aK (by omega) (by omega)) ?_
   obtain⟨v66,w66,hr66,x66,o66,ob66⟩:=tZ IJ (w:=w58) w58.heap.size (n:=(lb (val l)).length-(lb (val m)).length+1) (by omega) (Nat.le_refl _)
   refine gq Jg Jg Jg hr66 (ab Jg Jg (ag (ac (af (af (aa (ae Jg Jg (aP (r:=I (((lb (val l)).length-(lb (val m)).length+1:Nat):Int)) Jg Jg ((by simpa using bp Tryz.underlying53 o66.wds)) ?_))))))))
   refine ai Jg Jg Jg (bb (by omega) (by omega)) (ab Jg Jg (ag (ac (ax ?_))))
   refine fN (fun(j:Nat) (X:List UInt32) (O:List UInt32)=>[(9,I (s:Int)),(10,v55),(11,v59),(12,v66),(13,I ((j:Int)-1))]) (fun(j:Nat) (X:List UInt32) (O:List UInt32) w'=>aM w w'∧PW g [] X sp v55 w'∧dK w58.heap.size O v66 w'∧bt (lb (val m*2^s)) v59 w'∧X.length=(lb (val l)).length+1∧O.length=(lb (val l)).length-(lb (val m)).length+1∧j≤O.length∧val l*2^s=val (O.drop j)*4294967296^j*(val m*2^s)+val X∧val X<4294967296^j*(val m*2^s)) (fun(j:Nat) (X:List UInt32) (O:List UInt32)=>j) ((lb (val l)).length-(lb (val m)).length+1) (U) (List.replicate ((lb (val l)).length-(lb (val m)).length+1) 0) ⟨rfl,rfl,rfl,rfl,rfl,trivial⟩ ⟨(((x28.trans x55).trans x58).trans x66),(pU.ext x58).ext x66,o66,b59.ext x66,hUl,by simp,by simp,by rw[List.drop_of_length_le (by simp)];simp[val,hUv],by
    have h1:=cr (lb (val l))
    have h2:=AY hm
    rw[bJ] at h1
    rw[hUv,←Nat.mul_assoc]
    refine Nat.mul_lt_mul_of_pos_right ?_ (Nat.pow_pos (by omega))
    have h3:4294967296^(lb (val l)).length=4294967296^((lb (val l)).length-(lb (val m)).length+1)*4294967296^((lb (val m)).length-1):=by
     rw[←Nat.pow_add,show(lb (val l)).length-(lb (val m)).length+1+((lb (val m)).length-1)=(lb (val l)).length by omega]
    rw[h3] at h1
    exact Nat.lt_of_lt_of_le h1 (Nat.mul_le_mul_left _ h2)⟩ ?_
   rintro j X O w13 ⟨e13,pX,oO,f13,hXl,hOl,hj,hA,hX⟩
   refine af (af (aa (ae Jg Jg (ai Jg Jg Jg (ir) (ag (ac ?_))))))
   refine bi Jg (fun h71=>?_) (fun h71=>?_)
   ·obtain⟨i,rfl⟩:∃i,j=i+1:=⟨j-1,by omega⟩
    have e:((i+1:Nat):Int)-1=(i:Int):=by omega
    rw[e]
    have hz:=Cm hX (by have:=cr (lb (val m*2^s));rwa [bJ,hVlen] at this) (j:=k+2) (by omega)
    have hXp:=Ea (U:=X) (i:=i) (n:=k+3) (by omega) hz
    refine aq (ac (af (ax (af (aa (ae Jg Jg (ae Jg Jg (ae Jg Jg (ae Jg Jg (aP (r:=I ((k+2:Nat):Int)) Jg Jg ((by rw[←hVlen];exact bp IJ f13)) ?_))))))))))
    refine ai (r:=I ((i+(k+2:Nat):Nat):Int)) Jg Jg Jg (by have e:((i+(k+2:Nat):Nat):Int)=(i:Int)+((k+2:Nat):Int):=(by omega);rw[e];exact aK (by omega) (by omega)) ?_
    refine ai (r:=I ((((i+(k+2:Nat):Nat))+1:Nat):Int)) Jg Jg Jg (by have e:((((i+(k+2:Nat):Nat))+1:Nat):Int)=((i+(k+2:Nat):Nat):Int)+1:=(by omega);rw[e];exact aK (by omega) (by omega)) ?_
    obtain⟨v81,p81,pP⟩:=Hh IJ pX (lo:=i) (hi:=i+(k+2)+1) (by omega) (by omega) .i64 .i64
    refine cu Jg Jg Jg Jg Jg (p81 _) ?_
    have hPl:((X.take (i+(k+2)+1)).drop i).length=k+3:=by simp;omega
    refine ab Jg Jg (ag (ac (aa (ae Jg Jg (ae Jg Jg (ae Jg Jg (ae Jg Jg (ae Jg Jg (ae Jg Jg (an Ci Jg Jg (Ck pP.wds f13 hVlen hPl (by omega) (vy (by omega)) (by
 rw[bJ]
 have h1:4294967296^i*val ((X.take (i+(k+3))).drop i)≤val X:=by rw[hXp];omega
 rw[Nat.pow_succ,Nat.mul_assoc] at hX
 exact Nat.lt_of_mul_lt_mul_left (Nat.lt_of_le_of_lt h1 hX))) ?_))))))))))
    rintro v88 w88 ⟨x88,q,rfl,hqB,hq1,hq2⟩
    refine an Cj Jg Jg (Cl (pP.ext x88) (f13.ext x88) off1 (by rw[hPl,hVlen]) (by omega) hqB hq1 hq2) ?_
    rintro v89 w89 ⟨x,F,rfl,q89,pF,hFl,hFv,hFr⟩
    have x89:=(e13.trans x88).of_new q89 (by have:=x28.size;omega)
    have o89:=(oO.ext x88).kept q89 (.inr (oO.off (by have:=x58.size;omega)))
    have p89:=pX.join (by omega) (by omega) (by rw[hFl,hPl];omega) pF
    have f89:=(f13.ext x88).away off1 q89
    obtain⟨g90,w90,p90,s90,o90,q90,hb90,c90,ob90⟩:=o89.setW IJ (i:=i) (by omega) x
    refine aB Jg Jg Jg (p90 _) (ar Jg Jg (s90) ?_)
    have x90:=x89.of_new q90 (by have:=x28.size;have:=x55.size;have:=x58.size;omega)
    have p90':=p89.kept q90 (fun h=>by have:=Option.some.inj h;have:=x58.size;omega)
    have f90:=f89.away (by
     rcases ob59 with h|h
     ·exact .inl h
     ·refine .inr fun he=>?_
      rw[h] at he
      have:=oV.lt g90 he
      omega) q90
    have hj':=zx (U:=X) (F:=F) (i:=i) (n:=k+3) (by omega) hz
    rw[bJ] at hFv hFr
    have dr:=Ca (A:=val l*2^s) (P:=4294967296^i) (Q:=val (O.drop (i+1))) (V:=val m*2^s) hXp (by have:=cr (X.take i);rwa [List.length_take,Nat.min_eq_left (by omega)] at this) (by rw[←Nat.pow_succ];exact hA) hFv hFr
    rw[←hj',←oC (by omega)] at dr
    refine ag (aJ (ac (aa (ae Jg Jg (ai Jg Jg Jg (bb (by omega) (by omega)) (ab Jg Jg (ag ?_)))))))
    refine dv (i) (_) (_) ⟨rfl,rfl,rfl,rfl,rfl,trivial⟩ ⟨x90,p90',o90,f90,by simp[hFl,hPl,hXl];omega,by simpa using hOl,by simp;omega,dr.1,dr.2⟩ (by omega)
   ·refine aW (aA (aA (aU (ac (af ?_)))))
    obtain rfl:j=0:=by omega
    rw[Nat.pow_zero,Nat.mul_one,List.drop_zero] at hA
    rw[Nat.pow_zero,Nat.one_mul] at hX
    have hs0:0<2^s:=Nat.pow_pos (by omega)
    have hQ:val l/val m=val O:=by
     rw[←Nat.mul_div_mul_right _ _ hs0,hA,Nat.mul_comm (val O),Nat.mul_add_div hV0,Nat.div_eq_of_lt hX,Nat.add_zero]
    have hR:val X/2^s=val l%val m:=by
     have e1:val X=val l*2^s%(val m*2^s):=by rw[hA,Nat.mul_comm (val O),Nat.mul_add_mod,Nat.mod_eq_of_lt hX]
     rw[e1,Nat.mul_mod_mul_right,Nat.mul_div_cancel _ hs0]
    refine aa (ae Jg Jg (ae Jg Jg (an BW Jg Jg (B1 pX.wds (by omega) (by omega)) ?_)))
    rintro v94 w94 ⟨x94,r94,rfl,b94⟩
    refine ae Jg Jg (aj Jg Jg aS (aj Jg Jg aT (ab Jg Jg (ab Jg Jg (ag (ac (af (aa (ae Jg Jg (an dF Jg Jg (dQ ((oO.ext x94).wds)) ?_))))))))))
    rintro v98 _ ⟨rfl,b98⟩
    refine ae Jg Jg (ab Jg Jg (ab Jg Jg (ab Jg Jg (ag (ac (au (kD Jg Jg Jg Jg ?_)))))))
    exact⟨_,rfl,(e13.trans x94),_,_,rfl,by rw[hQ];exact b98,by rw[←hR];exact b94⟩
end Go.Rl
namespace Go.Rl
open Go.RowKit Go.Proofs
theorem kT:az Tryz.prog 185:=⟨_,Tryz.func185,by kernel_rfl,rfl⟩
theorem Cn:az Tryz.prog 184:=⟨_,Tryz.func184,by kernel_rfl,rfl⟩
theorem Co:az Tryz.prog 189:=⟨_,Tryz.func189,by kernel_rfl,rfl⟩
theorem j8 {n m:Nat} (h:n≤m):(lb n).length≤(lb m).length:=by
 rcases Nat.lt_or_ge (lb m).length (lb n).length with h1|h1
 ·have:=vw h1;omega
 ·exact h1
theorem kU {w:World} {l m:List UInt32} {v u:Value} (hv:bt l v w) (hu:bt m u w) (hl:l.length≤274877906944) (hml:m.length≤274877906944) (hm:0<val m):
 Calls Tryz.prog 185 #[v,u] w (bF fun r w'=>aM w w'∧∃q s,r=.tuple #[q,s,I 0]∧bt (lb (val l/val m)) q w'∧bt (lb (val l%val m)) s w'):=by
 refine enter (vs:=[v,u]) Tryz.func185 Jg Jg Jg ?_
 refine af (aa (ab Jg Jg (ab Jg Jg (ab Jg Jg (ag (ac (af (aa (ae Jg Jg (an rQ Jg Jg (rT hv (by omega)) ?_))))))))))
 rintro v16 w16 ⟨x16,hcx⟩
 obtain⟨x,bx,rfl,hbx⟩:∃(x:UInt64) (bx:Bool),v16=.tuple #[bj x,B bx]∧(bx=true→x.toNat=val l):=by
  rcases hcx with⟨_,rfl⟩|⟨x,hx,rfl⟩
  ·exact⟨0,false,rfl,fun h=>by cases h⟩
  ·exact⟨x,true,rfl,fun _=>hx⟩
 refine ae Jg Jg (aj Jg Jg aS (aj Jg Jg (aT) (ab Jg Jg (ab Jg Jg (ag (ac (af (aa (ae Jg Jg (an rQ Jg Jg (rT (hu.ext x16) (by omega)) ?_))))))))))
 rintro v21 w21 ⟨x21,hcy⟩
 obtain⟨y,bY,rfl,hby⟩:∃(y:UInt64) (bY:Bool),v21=.tuple #[bj y,B bY]∧(bY=true→y.toNat=val m):=by
  rcases hcy with⟨_,rfl⟩|⟨y,hy,rfl⟩
  ·exact⟨0,false,rfl,fun h=>by cases h⟩
  ·exact⟨y,true,rfl,fun _=>hy⟩
 refine ae Jg Jg (aj Jg Jg aS (aj Jg Jg (aT) ?_))
 have hy0:bY=true→¬y=0:=fun h h0=>by
  have:=hby h
  rw[h0] at this
  have e:(0:UInt64).toNat=0:=rfl
  omega
 refine ab Jg Jg (ab Jg Jg (ag (ac (af ?_))))
 refine eV (fun _:Unit=>[(0,v),(1,u),(7,bj x),(8,B bx),(9,bj y),(10,B bY)]) (fun _ w'=>w21=w') ?_ ?_
 ·refine af ?_
  cases bY
  ·refine aa (ae Jg Jg (ae Jg Jg (ao Jg Jg Jg (ao Jg Jg Jg (aC Jg Jg Jg (ag (ac (cq Jg (aq ?_)))))))))
   exact cv () ⟨rfl,rfl,rfl,rfl,rfl,rfl,trivial⟩ rfl
  ·refine aa (ae Jg Jg (ae Jg Jg (al Jg (ae Jg Jg (al Jg (ai (v:=bj 0) Jg Jg Jg (bZ (hy0 Jg) fy) (aw Jg Jg Jg (ag ?_))))))))
   refine ac (cq Jg (aq ?_))
   exact cv () ⟨rfl,rfl,rfl,rfl,rfl,rfl,trivial⟩ rfl
 rintro⟨⟩ _ rfl
 refine ac (af ?_)
 refine eV (fun _:Unit=>[(0,v),(1,u)]) (fun _ w'=>w21=w') ?_ ?_
 ·refine af ?_
  rcases bx with _|_<;>rcases bY with _|_
  ·refine aa (ae Jg Jg (ae Jg Jg (ao Jg Jg Jg (aC Jg Jg Jg (ag (ac (cq Jg (aq ?_))))))))
   exact cv () ⟨rfl,rfl,trivial⟩ rfl
  ·refine aa (ae Jg Jg (ae Jg Jg (ao Jg Jg Jg (aC Jg Jg Jg (ag (ac (cq Jg (aq ?_))))))))
   exact cv () ⟨rfl,rfl,trivial⟩ rfl
  ·refine aa (ae Jg Jg (ae Jg Jg (al Jg (ae Jg Jg (aw Jg Jg Jg (ag (ac (cq Jg (aq ?_)))))))))
   exact cv () ⟨rfl,rfl,trivial⟩ rfl
  ·have hx:=hbx rfl
   have hy:=hby rfl
   have hyn:=hy0 rfl
   refine aa (ae Jg Jg (ae Jg Jg (al Jg (ae Jg Jg (aw Jg Jg Jg (ag (ac (bB Jg (af (bA 10 [4,5] (by kernel_rfl) (by kernel_rfl) ?_))))))))))
   refine ap rfl rfl (ap rfl rfl (aR rfl rfl rfl (fun w _=>gt hyn) (cl (S:=bt (lb (val l/val m))) xC (bt.stable _) rfl (fun w hw=>by rintro _ rfl;exact bF.mono xD fun v w' h=>⟨h.1,by have:=h.2;rwa [UInt64.toNat_div,hx,hy] at this⟩) ?_)))
   refine ap rfl rfl (ap rfl rfl (aR rfl rfl rfl (fun w _=>ic hyn) (cl (S:=bt (lb (val l%val m))) xC (bt.stable _) rfl (fun w hw=>by rintro _ rfl;exact bF.mono xD fun v w' h=>⟨h.1,by have:=h.2;rwa [UInt64.toNat_mod,hx,hy] at this⟩) ?_)))
   refine eg Jg Jg (eg Jg Jg (bG ?_))
   intro wg6 xg6
   intro vg4 b4
   intro vg5 b5
   refine ab Jg Jg (ag (ac (au (av (kD Jg Jg Jg Jg ?_)))))
   exact⟨_,rfl,((x16.trans x21).trans xg6),_,_,rfl,b4,b5⟩
 rintro⟨⟩ _ rfl
 refine ac (af (aa (ae Jg Jg (aP Jg Jg (bp IJ (hv.ext (x16.trans x21))) ?_))))
 obtain⟨v43,w43,hr43,x43,o43,ob43⟩:=tZ IX (w:=w21) w21.heap.size (n:=l.length) (by omega) (Nat.le_refl _)
 refine gq Jg Jg Jg hr43 ?_
 obtain⟨v44,w44,hr44,x44,o44,ob44⟩:=gV Tryz.underlying53 (w:=w43) w43.heap.size [] (by simp) (Nat.le_refl _)
 refine aN (vs:=[]) Jg Jg hr44 (ab Jg Jg (ab Jg Jg (ag (ac (af (af (aa (ae Jg Jg (an zu Jg Jg (zv (hv.ext (((x16.trans x21).trans x43).trans x44)) (by omega)) ?_)))))))))
 rintro v46 w46 ⟨x46,rfl⟩
 have hbl:bl (val l)≤32*l.length:=t7 (by have:=cr l;rwa [show(4294967296:Nat)^l.length=2^(32*l.length) by rw[Nat.pow_mul]] at this)
 have hb0:val l/2^bl (val l)=0:=by
  rcases Nat.eq_zero_or_pos (val l) with h|h
  ·rw[h];simp
  ·exact Nat.div_eq_of_lt (oD h).2
 refine ai Jg Jg Jg (bb (by omega) (by omega)) (ab Jg Jg (ag (ac (ax ?_))))
 refine fN (fun(j:Nat) (O:List UInt32) (vr:Value)=>[(0,v),(1,u),(11,v43),(12,vr),(13,I ((j:Int)-1))]) (fun(j:Nat) (O:List UInt32) (vr:Value) w'=>aM w w'∧dK w21.heap.size O v43 w'∧O.length=l.length∧bt (lb (val l/2^j%val m)) vr w'∧j≤bl (val l)∧val O=2^j*(val l/2^j/val m)) (fun(j:Nat) (O:List UInt32) (vr:Value)=>j) (bl (val l)) (List.replicate l.length 0) (v44) ⟨rfl,rfl,rfl,rfl,rfl,trivial⟩ ⟨((((x16.trans x21).trans x43).trans x44).trans x46),(o43.ext x44).ext x46,by simp,by rw[hb0,Nat.zero_mod];exact(o44.ext x46).wds,Nat.le_refl _,by rw[hb0];simp[pp]⟩ ?_
 rintro j O vr w9 ⟨e9,oq,hO,br,hj,hq⟩
 refine af (af (aa (ae Jg Jg (ai Jg Jg Jg (ir) (ag (ac ?_))))))
 refine bi Jg (fun h49=>?_) (fun h49=>?_)
 ·obtain⟨i,rfl⟩:∃i,j=i+1:=⟨j-1,by omega⟩
  have e:((i+1:Nat):Int)-1=(i:Int):=by omega
  rw[e]
  have hib:i/32<l.length:=by omega
  have hrl:(lb (val l/2^(i+1)%val m)).length≤m.length:=Nat.le_trans (j8 (Nat.le_of_lt (Nat.mod_lt _ hm))) (gu (cr m))
  obtain⟨rd1,rd2,rd3⟩:=zt (N:=val l) (i:=i) hm
  refine aq (ac (af (ax (af (aa (ae Jg Jg ?_))))))
  have hVl:=cr m
  have hxl:=Nat.mod_lt (val l/2^(i+1)) hm
  have h2l:∀b,b≤1→(lb (2*(val l/2^(i+1)%val m)+b)).length≤m.length+1:=fun b hb=>gu (by have e:(4294967296:Nat)^(m.length+1)=4294967296^m.length*4294967296:=Nat.pow_succ ..;rw[e];have:=H9 m.length;omega)
  refine an Ce Jg Jg (Ch (k:=1) br (by omega) (by omega)) ?_
  rintro v53 w53 ⟨x53,b53⟩
  refine ab Jg Jg (ag (ac (af (aa (ae Jg Jg (ae Jg Jg (ae Jg Jg (ai (r:=I ((i/32:Nat):Int)) Jg Jg Jg (by have e:((i/32:Nat):Int)=(i:Int)/32:=(by omega);rw[e];exact mz (by omega) (by omega) (by omega)) ?_))))))))
  obtain⟨a58,p58,q58⟩:=cL IJ (hv.ext (e9.trans x53)) (i:=(i/32:Nat)) (by omega) .i64
  refine aB Jg Jg Jg (p58 _) (am Jg Jg (ak IK Jg q58) (ae Jg Jg (ai (r:=I ((i%32:Nat):Int)) Jg Jg Jg (by have e:((i%32:Nat):Int)=(i:Int)%32:=(by omega);rw[e];exact mA (by omega) (by omega)) ?_)))
  refine ai Jg Jg Jg (db ((i%32:Nat)) (by omega)) (ai (v:=bw 1) Jg Jg Jg (eW) ?_)
  obtain⟨v64,w64,hr64,x64,o64,ob64⟩:=gV Tryz.underlying53 (w:=w53) w53.heap.size [((((((l[(i/32:Nat)]))>>>UInt32.ofNat ((i%32:Nat))))&&&(1)))] (by simp) (Nat.le_refl _)
  refine aN (vs:=[(0,bw (((((((l[(i/32:Nat)]))>>>UInt32.ofNat ((i%32:Nat))))&&&(1)))))]) Jg Jg hr64 (an Cc Jg Jg (Cf (b53.ext x64) o64.wds (by rw[bJ,Nat.pow_one,Nat.mul_comm];have:=h2l 0 (by omega);rw[Nat.add_zero] at this;omega) (by simp)) ?_)
  rintro v65 w65 ⟨x65,b65⟩
  rw[bJ,bJ,kP,Hj hib,Nat.pow_one,Nat.mul_comm] at b65
  have x6:=(x53.trans x64).trans x65
  refine ab Jg Jg (ag (ac (af (aa (ae Jg Jg (ae Jg Jg (an ub Jg Jg (ue b65 (hu.ext (((e9.trans x53).trans x64).trans x65))) ?_)))))))
  rintro v68 _ ⟨rfl,rfl⟩
  refine ai Jg Jg Jg (ir) (ag (ac ?_))
  refine bi Jg (fun h69=>?_) (fun h69=>?_)
  ·have hle:val m≤val (lb (2*(val l/2^(i+1)%val m)+val l/2^i%2)):=Nat.le_of_not_lt fun h=>by have:=lR.2 h;omega
   refine af (aa (ae Jg Jg (ae Jg Jg (an Cd Jg Jg (Cg b65 (hu.ext (((e9.trans x53).trans x64).trans x65)) (by have:=h2l (val l/2^i%2) (by omega);omega) hle) ?_))))
   rintro v73 w73 ⟨x73,d73,rfl,b73⟩
   rw[bJ] at b73 hle
   obtain⟨rm,rq⟩:=rd2 hle
   rw[←rm] at b73
   have oq73:=(oq.ext x6).ext x73
   obtain⟨g85,_,p85,_,_,_,_,_,ob85⟩:=oq73.setW IX (i:=i/32) (by omega) (O[i/32]'(by omega)|||(1:UInt32)<<<UInt32.ofNat (i%32))
   refine ae Jg Jg (aj Jg Jg (aS) (aj Jg Jg aT (ab Jg Jg (ag (ac (bA 10 [0,1,11,12,13,84,85] (by kernel_rfl) (by kernel_rfl) ?_))))))
   refine ap Jg Jg (ap Jg Jg (aR (r:=I ((i/32:Nat):Int)) Jg Jg Jg (fun w _=>by have e:((i/32:Nat):Int)=(i:Int)/32:=(by omega);rw[e];exact mz (by omega) (by omega) (by omega)) ?_))
   obtain⟨a79,p79,q79⟩:=cL IX oq73.wds (i:=(i/32:Nat)) (by omega) .i64
   refine ay Jg Jg Jg (fun w _=>p79 w) (aD Jg Jg (fun w hw=>ak IK Jg (hw.cell_some q79)) (ap Jg Jg (aR (r:=I ((i%32:Nat):Int)) Jg Jg Jg (fun w _=>by have e:((i%32:Nat):Int)=(i:Int)%32:=(by omega);rw[e];exact mA (by omega) (by omega)) ?_)))
   refine aR (u:=bw 1) Jg Jg Jg (fun w _=>eC ((i%32:Nat)) (by omega)) (aR Jg Jg Jg (fun w _=>eX) (ay Jg Jg Jg (fun w hw=>p85 w) ?_))
   refine bG ?_
   intro wg15 xg15
   rintro _ hq0
   obtain rfl:=Eq.symm hq0
   rintro _ hq1
   obtain rfl:=Eq.symm hq1
   rintro _ hq11
   obtain rfl:=Eq.symm hq11
   rintro _ hq12
   obtain rfl:=Eq.symm hq12
   rintro _ rfl
   rintro _ rfl
   rintro _ rfl
   obtain⟨g',w',p',s',o',q',hb',c',ob'⟩:=(oq73.ext xg15).setW IX (i:=i/32) (by omega) (O[i/32]'(by omega)|||(1:UInt32)<<<UInt32.ofNat (i%32))
   obtain rfl:g85=g':=Option.some.inj (ob85.symm.trans ob')
   refine ar Jg Jg (s') ?_
   have x15:=(((e9.trans x6).trans x73).trans xg15).of_new q' (by have:=x16.size;have:=x21.size;omega)
   have sb:=Hk (a:=O) (i:=i) (by omega) hq
   have br':=((b73.ext xg15).kept q' (.inr (b73.off (by have:=oq.lt _ ob85;have:=x6.size;omega)))).wds
   refine ag (aJ (ac (aa (ae Jg Jg (ai Jg Jg Jg (bb (by omega) (by omega)) (ab Jg Jg (ag ?_)))))))
   refine dv (i) (_) (d73) ⟨rfl,rfl,rfl,rfl,rfl,trivial⟩ ⟨x15,o',by simpa using hO,br',by omega,by rw[sb,hq,rq,Nat.pow_succ,Nat.mul_assoc,Nat.mul_add,Nat.mul_one]⟩ (by omega)
  ·have hlt:2*(val l/2^(i+1)%val m)+val l/2^i%2<val m:=by
    rcases Nat.lt_or_ge (2*(val l/2^(i+1)%val m)+val l/2^i%2) (val m) with h|h
    ·exact h
    ·refine absurd ?_ h69
     rw[bJ]
     have:¬pq (2*(val l/2^(i+1)%val m)+val l/2^i%2) (val m)<0:=fun h'=>by have:=lR.1 h';omega
     omega
   obtain⟨rm,rq⟩:=rd3 hlt
   rw[←rm] at b65
   refine aq (aJ (ac (aa (ae Jg Jg (ai Jg Jg Jg (bb (by omega) (by omega)) (ab Jg Jg (ag ?_)))))))
   refine dv (i) (O) (v65) ⟨rfl,rfl,rfl,rfl,rfl,trivial⟩ ⟨(((e9.trans x53).trans x64).trans x65),oq.ext x6,hO,b65,by omega,by rw[hq,rq,Nat.pow_succ,Nat.mul_assoc]⟩ (by omega)
 ·refine aW (aA (aA (aU (ac (af ?_)))))
  obtain rfl:j=0:=by omega
  rw[Nat.pow_zero,Nat.div_one,Nat.one_mul] at hq
  rw[Nat.pow_zero,Nat.div_one] at br
  refine aa (ae Jg Jg (an eF Jg Jg (fk oq.wds (by omega)) ?_))
  rintro v87 w87 ⟨x87,b87⟩
  refine ae Jg Jg (ab Jg Jg (ab Jg Jg (ab Jg Jg (ag (ac (au (kD Jg Jg Jg Jg ?_)))))))
  exact⟨_,rfl,(e9.trans x87),_,_,rfl,by rw[←hq];exact b87,br.ext x87⟩
theorem Cp {w:World} {l m:List UInt32} {v u:Value} (hv:bt l v w) (hu:bt m u w) (hl:l.length≤274877906944) (hml:m.length≤274877906944):
 Calls Tryz.prog 184 #[v,u] w (bF fun r w'=>aM w w'∧bt (lb (Nat.gcd (val l) (val m))) r w'):=by
 refine enter (vs:=[v,u]) Tryz.func184 Jg Jg Jg ?_
 have hll:=gu (cr l)
 have hmm:=gu (cr m)
 refine af (aa (ab Jg Jg (ag (ac (af (aa (ae Jg Jg (an eF Jg Jg (fk hv (by omega)) ?_))))))))
 rintro v9 w9 ⟨x9,b9⟩
 refine ae Jg Jg (an eF Jg Jg (fk (hu.ext x9) (by omega)) ?_)
 rintro v11 w11 ⟨x11,b11⟩
 refine ab Jg Jg (ab Jg Jg (ag (ac (af (ax ?_)))))
 refine gM (fun(a:Nat) (b:Nat) (va:Value) (vb:Value)=>[(0,va),(1,vb)]) (fun(a:Nat) (b:Nat) (va:Value) (vb:Value) w'=>aM w w'∧bt (lb a) va w'∧bt (lb b) vb w'∧Nat.gcd a b=Nat.gcd (val l) (val m)∧(lb a).length≤274877906944∧(lb b).length≤274877906944) (fun(a:Nat) (b:Nat) (va:Value) (vb:Value)=>b) (val l) (val m) (v9) (v11) ⟨rfl,rfl,trivial⟩ ⟨(x9.trans x11),b9.ext x11,b11,rfl,by omega,by omega⟩ ?_
 rintro a b va vb w2 ⟨e2,ha,hb,hg,hla,hlb⟩
 refine af (af (aa (ae Jg Jg (aP (r:=I ((lb b).length:Int)) Jg Jg (bp IJ hb) (ai Jg Jg Jg (ce) ?_)))))
 refine ag (ac ?_)
 refine bi Jg (fun h14=>?_) (fun h14=>?_)
 ·have hb0:0<b:=by
   rcases Nat.eq_zero_or_pos b with h|h
   ·subst h;simp[fO] at h14
   ·exact h
  refine aq (ac (ax (af (aa (ae Jg Jg (ae Jg Jg (an kT Jg Jg (kU ha hb (by omega) (by omega) (by rw[bJ];exact hb0)) ?_)))))))
  rintro v18 w18 ⟨x18,q,r,rfl,bq,br⟩
  rw[bJ,bJ] at br
  refine ae Jg Jg (aj Jg Jg eh (aj Jg Jg (ei) (aj Jg Jg ej (ab Jg Jg (ab Jg Jg (ab Jg Jg (ag (ac ?_))))))))
  refine aa (ae Jg Jg (ae Jg Jg (ab Jg Jg (ab Jg Jg (ag (aJ ?_))))))
  refine fa (b) (a%b) (vb) (r) ⟨rfl,rfl,trivial⟩ ⟨(e2.trans x18),hb.ext x18,br,by rw[←hg,Nat.gcd_comm b,←Nat.gcd_rec,Nat.gcd_comm],hlb,Nat.le_trans (j8 (Nat.le_of_lt (Nat.mod_lt a hb0))) hlb⟩ (Nat.mod_lt a hb0)
 ·refine aW (aA (aA (aU (ac (af (aa (ae Jg Jg (ab Jg Jg (ag (ac (au (aF Jg Jg ?_))))))))))))
  exact⟨_,rfl,e2,by
   have hb0:b=0:=by
    refine gb.1 ?_
    omega
   rw[←hg,hb0,Nat.gcd_zero_right];exact ha⟩
theorem Cq {w:World} {l m:List UInt32} {v u:Value} (hv:bt l v w) (hu:bt m u w) (hl:l.length≤274877906944) (hml:m.length≤274877906944):
 Calls Tryz.prog 189 #[v,u] w (bF fun r w'=>aM w w'∧bt (lb (Nat.gcd (val l) (val m))) r w'):=by
 refine enter (vs:=[v,u]) Tryz.func189 Jg Jg Jg ?_
 have hll:=gu (cr l)
 have hmm:=gu (cr m)
 refine af (aa (ab Jg Jg (ag (ac (af (aa (ae Jg Jg (an dF Jg Jg (dQ hv) ?_))))))))
 rintro v16 _ ⟨rfl,b16⟩
 refine ae Jg Jg (an dF Jg Jg (dQ hu) ?_)
 rintro v18 _ ⟨rfl,b18⟩
 refine ab Jg Jg (ab Jg Jg (ag (ac (af (ax ?_)))))
 refine gM (fun(a:Nat) (b:Nat) (va:Value) (vb:Value)=>[(0,va),(1,vb)]) (fun(a:Nat) (b:Nat) (va:Value) (vb:Value) w'=>aM w w'∧bt (lb a) va w'∧bt (lb b) vb w'∧Nat.gcd a b=Nat.gcd (val l) (val m)∧(lb a).length≤274877906944∧(lb b).length≤274877906944) (fun(a:Nat) (b:Nat) (va:Value) (vb:Value)=>b) (val l) (val m) (v16) (v18) ⟨rfl,rfl,trivial⟩ ⟨aM.refl _,b16,b18,rfl,by omega,by omega⟩ ?_
 rintro a b va vb w2 ⟨e2,ha,hb,hg,hla,hlb⟩
 refine af (af (aa (ae Jg Jg (aP (r:=I ((lb b).length:Int)) Jg Jg (bp IJ hb) (ai Jg Jg Jg (ce) ?_)))))
 refine ag (ac ?_)
 refine bi Jg (fun h21=>?_) (fun h21=>?_)
 ·have hb0:0<b:=by
   rcases Nat.eq_zero_or_pos b with h|h
   ·subst h;simp[fO] at h21
   ·exact h
  refine aq (ac (ax (af (aa (ae Jg Jg (ae Jg Jg (an iY Jg Jg (iZ ha hb (by omega) (by omega) (by rw[bJ];exact hb0)) ?_)))))))
  rintro v25 w25 ⟨x25,q,r,rfl,bq,br⟩
  rw[bJ,bJ] at br
  refine ae Jg Jg (aj Jg Jg eh (aj Jg Jg (ei) (aj Jg Jg ej (ab Jg Jg (ab Jg Jg (ab Jg Jg (ag (ac ?_))))))))
  refine aa (ae Jg Jg (ae Jg Jg (ab Jg Jg (ab Jg Jg (ag (aJ ?_))))))
  refine fa (b) (a%b) (vb) (r) ⟨rfl,rfl,trivial⟩ ⟨(e2.trans x25),hb.ext x25,br,by rw[←hg,Nat.gcd_comm b,←Nat.gcd_rec,Nat.gcd_comm],hlb,Nat.le_trans (j8 (Nat.le_of_lt (Nat.mod_lt a hb0))) hlb⟩ (Nat.mod_lt a hb0)
 ·refine aW (aA (aA (aU (ac (af (af (aa (ae Jg Jg (aP (r:=I ((lb b).length:Int)) Jg Jg (bp IJ hb) ?_)))))))))
  refine ai Jg Jg Jg (aV) (ag (ac ?_))
  refine bi Jg (fun h33=>?_) (fun h33=>?_)
  ·have hb0:b=0:=by
    refine gb.1 ?_
    omega
   refine af (aa (ae Jg Jg (an kQ Jg Jg (kR ha (by omega)) ?_)))
   rintro v35 w35 ⟨x35,b35⟩
   refine ab Jg Jg (ag (ac (au (av (aF Jg Jg ?_)))))
   exact⟨_,rfl,(e2.trans x35),by
    rw[bJ] at b35
    rw[←hg,hb0,Nat.gcd_zero_right];exact b35⟩
  ·have hb0:0<b:=by
    rcases Nat.eq_zero_or_pos b with h|h
    ·subst h;simp[fO] at h33
    ·exact h
   have hb64:b<18446744073709551616:=by
    have:=cr (lb b)
    rw[bJ] at this
    have h2:(4294967296:Nat)^(lb b).length≤4294967296^2:=Nat.pow_le_pow_right (by omega) (by omega)
    omega
   refine aq (ac (af (aa (ae Jg Jg (ae Jg Jg (an iY Jg Jg (iZ ha hb (by omega) (by omega) (by rw[bJ];exact hb0)) ?_))))))
   rintro v39 w39 ⟨x39,q,r,rfl,bq,br⟩
   rw[bJ,bJ] at br
   refine ae Jg Jg (aj Jg Jg eh (aj Jg Jg (ei) (aj Jg Jg ej (ab Jg Jg (ab Jg Jg (ab Jg Jg (ag (ac ?_))))))))
   refine af (aa (ae Jg Jg (an rF Jg Jg (rM (hb.ext x39)) ?_)))
   rintro v45 _ ⟨rfl,hcx⟩
   obtain⟨x,hx,rfl⟩:∃x:UInt64,x.toNat=b∧v45=.tuple #[bj x,B true]:=by
    rw[bJ] at hcx
    rcases hcx with⟨h,_⟩|h
    ·omega
    ·exact h
   refine ae Jg Jg (aj Jg Jg aS (aj Jg Jg aT (ab Jg Jg (ab Jg Jg (ag (ac (af (aa (ae Jg Jg (an rF Jg Jg (rM br) ?_))))))))))
   rintro v50 _ ⟨rfl,hcy⟩
   obtain⟨y,hy,rfl⟩:∃y:UInt64,y.toNat=a%b∧v50=.tuple #[bj y,B true]:=by
    have:=Nat.mod_lt a hb0
    rw[bJ] at hcy
    rcases hcy with⟨h,_⟩|h
    ·omega
    ·exact h
   refine ae Jg Jg (aj Jg Jg aS (aj Jg Jg aT (ab Jg Jg (ab Jg Jg (ag (ac (af (ax ?_))))))))
   refine ga (fun(x':UInt64) (y':UInt64)=>[(11,bj x'),(13,bj y')]) (fun(x':UInt64) (y':UInt64) w'=>aM w w'∧Nat.gcd x'.toNat y'.toNat=Nat.gcd (val l) (val m)) (fun(x':UInt64) (y':UInt64)=>y'.toNat) (x) (y) ⟨rfl,rfl,trivial⟩ ⟨(e2.trans x39),by rw[hx,hy,←hg,Nat.gcd_comm b,←Nat.gcd_rec,Nat.gcd_comm]⟩ ?_
   rintro x' y' w10 ⟨e10,hxy⟩
   refine af (af (aa (ae Jg Jg (ai (v:=bj 0) Jg Jg Jg (ck) (ag (ac ?_))))))
   refine bi Jg (fun h54=>?_) (fun h54=>?_)
   ·have hy0:0<y'.toNat:=zw.1 h54
    have hyn:y'≠0:=fun h=>by
     rw[h] at hy0
     exact absurd hy0 (by decide)
    refine aq (ac (ax (bA 5 [11,58] (by kernel_rfl) (by kernel_rfl) ?_)))
    refine ap Jg Jg (ap Jg Jg (ap Jg Jg (aR Jg Jg Jg (fun w _=>ic hyn) (eg Jg Jg (bG ?_)))))
    intro wg11 xg11
    rintro _ rfl
    rintro _ rfl
    refine ab Jg Jg (ag (aJ ?_))
    refine el (y') (x'%y') ⟨rfl,rfl,trivial⟩ ⟨(e10.trans xg11),by rw[UInt64.toNat_mod,←hxy,Nat.gcd_comm y'.toNat,←Nat.gcd_rec,Nat.gcd_comm]⟩ (by rw[UInt64.toNat_mod];exact Nat.mod_lt _ hy0)
   ·have hy0:y'.toNat=0:=by
     have:=mt zw.2 h54
     have e:(0:UInt64).toNat=0:=rfl
     omega
    refine aW (aA (aA (aU (ac (af (aa (ae Jg Jg (an xn Jg Jg (xp) ?_))))))))
    rintro v60 w60 ⟨x60,b60⟩
    refine ab Jg Jg (ag (ac (au (aF Jg Jg ?_))))
    exact⟨_,rfl,(e10.trans x60),by rw[←hxy,hy0,Nat.gcd_zero_right];exact b60⟩
end Go.Rl
namespace Go.Rl
def Eb:Nat→Nat→List UInt8
 |0,n=>[UInt8.ofNat n]
 |f+1,n=>if 128≤n then UInt8.ofNat (n%128+128)::Eb f (n/128) else[UInt8.ofNat n]
def uv (n:Nat):List UInt8:=Eb n n
theorem Ec:∀(f g n:Nat),n≤f→n≤g→Eb f n=Eb g n
 |0,0,n,_,_=>rfl
 |0,g+1,n,h,_=>by
  obtain rfl:n=0:=by omega
  simp[Eb]
 |f+1,0,n,_,h=>by
  obtain rfl:n=0:=by omega
  simp[Eb]
 |f+1,g+1,n,hf,hg=>by
  simp only[Eb]
  by_cases h:128≤n
  ·rw[if_pos h,if_pos h,Ec f g (n/128) (by omega) (by omega)]
  ·rw[if_neg h,if_neg h]
theorem px {n:Nat} (h:128≤n):uv n=UInt8.ofNat (n%128+128)::uv (n/128):=by
 unfold uv
 cases n with
 |zero=>omega
 |succ m=>
  have e:Eb (m+1) (m+1)=if 128≤m+1 then UInt8.ofNat ((m+1)%128+128)::Eb m ((m+1)/128) else[UInt8.ofNat (m+1)]:=rfl
  rw[e,if_pos h,Ec m ((m+1)/128) ((m+1)/128) (by omega) (by omega)]
theorem jt {n:Nat} (h:n<128):uv n=[UInt8.ofNat n]:=by
 unfold uv
 cases n with
 |zero=>rfl
 |succ m=>
  have e:Eb (m+1) (m+1)=if 128≤m+1 then UInt8.ofNat ((m+1)%128+128)::Eb m ((m+1)/128) else[UInt8.ofNat (m+1)]:=rfl
  rw[e,if_neg (by omega)]
theorem GL:∀(k n:Nat),n<128^(k+1)→(uv n).length≤k+1
 |0,n,h=>by rw[jt (by simpa using h)];simp
 |k+1,n,h=>by
  by_cases h1:128≤n
  ·rw[px h1]
   have:=GL k (n/128) (by rw[Nat.div_lt_iff_lt_mul (by omega)];rw[Nat.pow_succ] at h;exact h)
   simp;omega
  ·rw[jt (by omega)];simp
theorem fc {n:Nat} (h:n<18446744073709551616):(uv n).length≤10:=GL 9 n (Nat.lt_of_lt_of_le h (by decide))
theorem vC (n:Nat):1≤(uv n).length:=by
 by_cases h:128≤n
 ·rw[px h];simp
 ·rw[jt (by omega)];simp
theorem Cr (n:UInt64):n.toUInt8|||128=UInt8.ofNat (n.toNat%128+128):=by
 apply UInt8.toNat_inj.1
 have h:∀a:Nat,a<256→a|||128=a%128+128:=by decide+kernel
 rw[UInt8.toNat_or,UInt8.toNat_ofNat',UInt64.toNat_toUInt8]
 have:=h (n.toNat%256) (by omega)
 show n.toNat%256|||128=_
 rw[this];omega
theorem xE (n:UInt64):n.toUInt8=UInt8.ofNat n.toNat:=by
 apply UInt8.toNat_inj.1
 rw[UInt8.toNat_ofNat',UInt64.toNat_toUInt8]
theorem Ed (m:UInt64):(m%128+128).toUInt8=UInt8.ofNat (m.toNat%128+128):=by
 apply UInt8.toNat_inj.1
 rw[UInt64.toNat_toUInt8,UInt8.toNat_ofNat',UInt64.toNat_add,UInt64.toNat_mod]
 have e1:(128:UInt64).toNat=128:=rfl
 rw[e1];omega
theorem Ib (n:UInt64):(n>>>UInt64.ofNat 7).toNat=n.toNat/128:=by
 rw[UInt64.toNat_shiftRight,Nat.shiftRight_eq_div_pow]
 rfl
end Go.Rl
namespace Go.Rl
def kV:Nat→Nat→List UInt8→Option (Nat×List UInt8)
 |0,_,_=>none
 |_+1,_,[]=>none
 |f+1,k,c::l=>
  if (k=9∧1<c.toNat)∨(0<k∧c.toNat=0) then none
  else if c.toNat<128 then some (c.toNat*128^k,l)
  else(kV f (k+1) l).map fun p=>(p.1+(c.toNat%128)*128^k,p.2)
def cZ (l:List UInt8):Option (Nat×List UInt8):=kV 10 0 l
theorem lS (f k:Nat):kV f k []=none:=by cases f<;>rfl
theorem rV (n:Nat) (h:n<256):(UInt8.ofNat n).toNat=n:=by rw[UInt8.toNat_ofNat'];omega
theorem Ba:∀(f k n:Nat) (t:List UInt8),f+k=10→n<128^f→(k≤9→n*128^k<18446744073709551616)→0<f→(0<k→0<n)→
 kV f k (uv n++t)=some (n*128^k,t)
 |0,_,_,_,_,_,_,h,_=>by omega
 |f+1,k,n,t,hfk,hn,h64,_,hk0=>by
  by_cases hb:128≤n
  ·rw[px hb,List.cons_append]
   have e1:(UInt8.ofNat (n%128+128)).toNat=n%128+128:=rV _ (by omega)
   have hk9:k≠9:=fun hk=>by
    subst hk
    have:f=0:=by omega
    subst this
    simp at hn
    omega
   have hf:0<f:=by omega
   simp only[kV,e1]
   rw[if_neg (by omega),if_neg (by omega)]
   have hlt:n/128<128^f:=by rw[Nat.div_lt_iff_lt_mul (by omega)];rw[Nat.pow_succ] at hn;exact hn
   have hp:128^(k+1)=128^k*128:=Nat.pow_succ ..
   have hm:n/128*128≤n:=Nat.div_mul_le_self n 128
   have hle:n/128*128^(k+1)≤n*128^k:=by
    rw[hp,Nat.mul_comm (128^k) 128,←Nat.mul_assoc]
    exact Nat.mul_le_mul_right _ hm
   rw[Ba f (k+1) (n/128) t (by omega) hlt (fun _=>Nat.lt_of_le_of_lt hle (h64 (by omega))) hf (fun _=>by omega)]
   simp only[Option.map_some,Option.some.injEq,Prod.mk.injEq,and_true]
   have e2:(n%128+128)%128=n%128:=by omega
   rw[e2,hp,Nat.mul_comm (128^k) 128,←Nat.mul_assoc,←Nat.add_mul]
   congr 1
   omega
  ·rw[jt (by omega),List.cons_append]
   have e1:(UInt8.ofNat n).toNat=n:=rV _ (by omega)
   simp only[kV,e1,List.nil_append]
   have hk9:¬(k=9∧1<n):=fun⟨hk,hn1⟩=>by
    subst hk
    have:=h64 (by omega)
    have e:(128:Nat)^9=9223372036854775808:=by decide
    rw[e] at this
    omega
   rw[if_neg (by intro h;rcases h with h|h;exact hk9 h;have:=hk0 h.1;omega),if_pos (by omega)]
theorem ju {n:Nat} (h:n<18446744073709551616) (t:List UInt8):cZ (uv n++t)=some (n,t):=by
 have:=Ba 10 0 n t rfl (Nat.lt_of_lt_of_le h (by decide)) (by simpa using h) (by omega) (by omega)
 simpa [cZ] using this
theorem xG:∀(f k:Nat) (l t:List UInt8) (m:Nat),f+k=10→kV f k l=some (m,t)→∃n,m=n*128^k∧l=uv n++t∧(0<k→0<n)∧n*128^k<18446744073709551616
 |0,_,_,_,_,_,h=>by cases h
 |f+1,k,[],_,_,_,h=>by cases h
 |f+1,k,c::l,t,m,hfk,h=>by
  simp only[kV] at h
  have hc:=c.toNat_lt
  split at h
  ·cases h
  ·rename_i hno
   split at h
   ·rename_i hlt
    simp only[Option.some.injEq,Prod.mk.injEq] at h
    refine⟨c.toNat,h.1.symm,?_,fun hk=>by omega,?_⟩
    ·rw[jt hlt,←h.2]
     simp
    ·have hk:k≤9:=by omega
     rcases Nat.lt_or_ge k 9 with h9|h9
     ·have:c.toNat*128^k≤127*128^8:=Nat.mul_le_mul (by omega) (Nat.pow_le_pow_right (by omega) (by omega))
      have e:127*128^8<18446744073709551616:=by decide
      omega
     ·have:k=9:=by omega
      subst this
      have e:(128:Nat)^9=9223372036854775808:=by decide
      rw[e];omega
   ·rename_i hge
    cases hr:kV f (k+1) l with
    |none=>rw[hr] at h;cases h
    |some p=>
     rw[hr] at h
     simp only[Option.map_some,Option.some.injEq,Prod.mk.injEq] at h
     obtain⟨n,h1,h2,h3,h4⟩:=xG f (k+1) l p.2 p.1 (by omega) (by rw[hr])
     have hn:0<n:=h3 (by omega)
     have hp:128^(k+1)=128*128^k:=by rw[Nat.pow_succ,Nat.mul_comm]
     have hdiv:(n*128+c.toNat%128)/128=n:=by omega
     have hmod:(n*128+c.toNat%128)%128+128=c.toNat:=by omega
     refine⟨n*128+c.toNat%128,?_,?_,fun _=>by omega,?_⟩
     ·rw[←h.1,h1,hp,Nat.add_mul,←Nat.mul_assoc]
     ·rw[px (by omega),hdiv,hmod,List.cons_append,←h.2,←h2]
      simp
     ·have hk:k+1≤9:=by
       rcases Nat.lt_or_ge f 1 with hf|hf
       ·have:f=0:=by omega
        subst this
        cases hr
       ·omega
      have hb:n*128^(k+1)=n*128*128^k:=by rw[hp,←Nat.mul_assoc]
      rw[hb] at h4
      have hdvd:18446744073709551616=128^k*(18446744073709551616/128^k):=by
       have:k=0∨k=1∨k=2∨k=3∨k=4∨k=5∨k=6∨k=7∨k=8:=by omega
       rcases this with rfl|rfl|rfl|rfl|rfl|rfl|rfl|rfl|rfl<;>decide
      have hq:18446744073709551616/128^k=128*(18446744073709551616/128^k/128):=by
       have:k=0∨k=1∨k=2∨k=3∨k=4∨k=5∨k=6∨k=7∨k=8:=by omega
       rcases this with rfl|rfl|rfl|rfl|rfl|rfl|rfl|rfl|rfl<;>decide
      have hpos:0<128^k:=Nat.pow_pos (by omega)
      rw[hdvd,Nat.mul_comm] at h4
      have h5:n*128<18446744073709551616/128^k:=Nat.lt_of_mul_lt_mul_left h4
      rw[hdvd,Nat.mul_comm]
      exact Nat.mul_lt_mul_of_pos_left (by omega) hpos
theorem eS {l t:List UInt8} {n:Nat} (h:cZ l=some (n,t)):l=uv n++t∧n<18446744073709551616:=by
 obtain⟨m,h1,h2,_,h4⟩:=xG 10 0 l t n rfl h
 simp at h1 h4
 subst h1
 exact⟨h2,h4⟩
theorem F5 {acc:UInt64} {c:UInt8} {k:Nat} (ha:acc.toNat<128^k) (hk:k≤9) (h9:k=9→c.toNat%128≤1):
 (acc|||((c&&&127).toUInt64<<<UInt64.ofNat (7*k))).toNat=acc.toNat+(c.toNat%128)*128^k:=by
 have hpow:2^(7*k)=128^k:=by rw[Nat.pow_mul]
 have e1:(c&&&127).toUInt64.toNat=c.toNat%128:=by
  rw[UInt8.toNat_toUInt64,UInt8.toNat_and]
  exact Nat.and_two_pow_sub_one_eq_mod c.toNat 7
 have hlt:(c.toNat%128)*128^k<18446744073709551616:=by
  rcases Nat.lt_or_ge k 9 with h|h
  ·have h1:(c.toNat%128)*128^k≤127*128^8:=Nat.mul_le_mul (by omega) (Nat.pow_le_pow_right (by omega) (by omega))
   have e:127*128^8<18446744073709551616:=by decide
   omega
  ·have h':k=9:=by omega
   subst h'
   have:=h9 rfl
   have e:(128:Nat)^9=9223372036854775808:=by decide
   rw[e];omega
 have e2:((c&&&127).toUInt64<<<UInt64.ofNat (7*k)).toNat=(c.toNat%128)<<<(7*k):=by
  rw[UInt64.toNat_shiftLeft,e1]
  have:(UInt64.ofNat (7*k)).toNat%64=7*k:=by rw[UInt64.toNat_ofNat'];omega
  rw[this,Nat.shiftLeft_eq,hpow]
  exact Nat.mod_eq_of_lt hlt
 rw[UInt64.toNat_or,e2,Nat.or_comm,←Nat.shiftLeft_add_eq_or_of_lt (by rw[hpow];exact ha),Nat.shiftLeft_eq,hpow]
 omega
end Go.Rl
namespace Go.Rl
def HU (n:Int):Nat:=if 0≤n then(2*n).toNat else(-2*n-1).toNat
theorem qh (n:Int):(UInt64.ofInt n).toNat=(n%18446744073709551616).toNat:=by
 have h2:(2:Int)^64=18446744073709551616:=by decide
 rw[UInt64.ofInt,h2,UInt64.toNat_ofNat'];omega
theorem Ee {n:Int} (h1: -9223372036854775808≤n) (h2:n≤9223372036854775807):
 ((UInt64.ofInt n<<<UInt64.ofNat 1)^^^UInt64.ofInt (n/2^63)).toNat=HU n:=by
 have e0:(2:Int)^63=9223372036854775808:=by decide
 have es:(UInt64.ofInt n<<<UInt64.ofNat 1).toNat=(UInt64.ofInt n).toNat*2%18446744073709551616:=by
  rw[UInt64.toNat_shiftLeft,Nat.shiftLeft_eq];rfl
 rw[qh] at es
 unfold HU
 by_cases hn:0≤n
 ·have hq:n/2^63=0:=by rw[e0];omega
  have hz:UInt64.ofInt (n/2^63)=0:=by rw[hq];rfl
  rw[hz,UInt64.xor_zero,es,if_pos hn];omega
 ·have hq:n/2^63= -1:=by rw[e0];omega
  have hz:UInt64.ofInt (n/2^63)= -1:=by rw[hq];rfl
  rw[hz,if_neg hn]
  have hx:∀a:UInt64,a^^^(-1)= ~~~a:=fun a=>by
   apply UInt64.toBitVec_inj.1
   rw[UInt64.toBitVec_xor,UInt64.toBitVec_not]
   have:(-1:UInt64).toBitVec=BitVec.allOnes 64:=by decide
   rw[this,BitVec.xor_allOnes]
  rw[hx,UInt64.toNat_not,es]
  have:UInt64.size=18446744073709551616:=rfl
  omega
theorem Hl {n:Int} (h1: -9223372036854775808≤n) (h2:n≤9223372036854775807):HU n<18446744073709551616:=by
 unfold HU;split<;>omega
end Go.Rl
namespace Go.Rl
open Go.RowKit Go.Proofs
theorem jv:az Tryz.prog 87:=⟨_,Tryz.func87,by kernel_rfl,rfl⟩
theorem kW:az Tryz.prog 133:=⟨_,Tryz.func133,by kernel_rfl,rfl⟩
theorem iQ:az Tryz.prog 98:=⟨_,Tryz.func98,by kernel_rfl,rfl⟩
theorem rW:az Tryz.prog 124:=⟨_,Tryz.func124,by kernel_rfl,rfl⟩
theorem dG:az Tryz.prog 59:=⟨_,Tryz.func59,by kernel_rfl,rfl⟩
theorem jw {w:World} {l:List UInt8} {v:Value} (hv:cm l v w) (hl:l.length≤140737488355328):
 Calls Tryz.prog 87 #[v] w (bF fun r w'=>aM w w'∧cD w.heap.size l r w'):=by
 obtain⟨A,n,c,rfl,hnc,hcm,hll,hc,hnone⟩:=id hv
 refine enter (vs:=[.slice A n c]) Tryz.func87 Jg Jg Jg ?_
 refine af (aa (ab Jg Jg (ag (ac (af (af (aa (ae Jg Jg ?_))))))))
 refine ai Jg Jg Jg (AO IP) ?_
 refine ag (ac ?_)
 refine gZ Jg (fun h=>?_) (fun h=>?_)
 ·refine af (aa (ab Jg Jg (ag (ac (au (av ?_))))))
  refine aF Jg Jg ?_
  have hA:A=none:=by simpa using h
  have:=hnone hA
  have hnil:l=[]:=List.eq_nil_of_length_eq_zero (by simp at hll;omega)
  subst hnil
  exact⟨_,rfl,aM.refl _,cD.nil _ _⟩
 ·refine aq (ac (af (aa ?_)))
  obtain⟨r5,w5,hr5,hx5,ho5,hb5⟩:=fq (w:=w) w.heap.size [] (by simp) (Nat.le_refl _)
  refine aN Jg Jg hr5 ?_
  refine ae Jg Jg ?_
  obtain⟨r7,w7,hr7,ho7,hg7⟩:=di (ty:=28) ho5 (hv.ext hx5) (by simpa using hl) hx5.size
  refine be Jg Jg hr7 ?_
  refine ab Jg Jg (ag (ac (au ?_)))
  refine aF Jg Jg ?_
  exact⟨_,rfl,hx5.of_grew hg7 ho5.ge,ho7⟩
theorem kX {w:World} {base:Nat} {l:List UInt8} {v:Value} {n:UInt64} (hv:cD base l v w) (hl:l.length≤70368744177664) (hbase:base≤w.heap.size):
 Calls Tryz.prog 133 #[v,bj n] w (bF fun r w'=>cD base (l++uv n.toNat) r w'∧gJ w w' v r):=by
 refine enter (vs:=[v,bj n]) Tryz.func133 Jg Jg Jg ?_
 refine af (aa (ab Jg Jg (ag (ac (af (ax ?_))))))
 refine bV (α:=Value×UInt64×List UInt8) (fun x=>[(0,x.1),(1,bj x.2.1)]) (fun x w'=>cD base x.2.2 x.1 w'∧gJ w w' v x.1∧x.2.2++uv x.2.1.toNat=l++uv n.toNat) (fun x=>x.2.1.toNat) (v,n,l) ⟨rfl,rfl,trivial⟩ ⟨hv,gJ.of_ext (aM.refl w) (.inl Jg),rfl⟩ ?_
 rintro⟨b,m,done⟩ w1 ⟨hb,hg,he⟩
 dsimp only at hb hg he
 have hdl:done.length≤l.length+10:=by
  have:=congrArg List.length he
  simp only[List.length_append] at this
  have:=fc (n:=n.toNat) n.toNat_lt
  omega
 have hb1:base≤w1.heap.size:=Nat.le_trans hbase hg.grown.size
 refine af (af (aa (ae Jg Jg ?_)))
 refine ai (v:=bj 128) Jg Jg Jg (fx) ?_
 refine ag (ac ?_)
 refine bi Jg (fun h=>?_) (fun h=>?_)
 ·have h':128≤m.toNat:=by simpa [UInt64.le_iff_toNat_le] using h
  refine aq (ac (af (ax (aa (ae Jg Jg (ae Jg Jg ?_))))))
  refine aQ Jg Jg (j4 IL IR) ?_
  refine ai (v:=U8 128) Jg Jg Jg (FQ) ?_
  obtain⟨r2,w2,hr2,hx2,ho2,_⟩:=fq (w:=w1) w1.heap.size [m.toUInt8|||128] (by simp) (Nat.le_refl _)
  refine aN Jg Jg hr2 ?_
  obtain⟨r3,w3,hr3,ho3,hg3⟩:=di (ty:=28) (hb.ext hx2) ho2.bts (by simp;omega) (Nat.le_trans hb1 hx2.size)
  refine be Jg Jg hr3 ?_
  refine ab Jg Jg (ag (aJ (ac (aa (ae Jg Jg ?_)))))
  refine ai Jg Jg Jg (du 7 (by omega)) ?_
  refine ab Jg Jg (ag ?_)
  refine bM (r3,m>>>UInt64.ofNat 7,done++[m.toUInt8|||128]) ⟨rfl,rfl,trivial⟩ ⟨ho3,hg.trans (gJ.before hx2 hg3),?_⟩ ?_
  ·show done++[m.toUInt8|||128]++uv (m>>>UInt64.ofNat 7).toNat=_
   rw[←he,px h',Cr,Ib];simp
  ·show(m>>>UInt64.ofNat 7).toNat<m.toNat
   rw[Ib];omega
 ·have h':m.toNat<128:=by
   have:¬(128≤m.toNat):=fun hh=>h (by show(128:UInt64)≤m;rw[UInt64.le_iff_toNat_le];exact hh)
   omega
  refine aW (aA (aA (aU (ac (af (aa (ae Jg Jg (ae Jg Jg ?_))))))))
  refine aQ Jg Jg (j4 IL IR) ?_
  obtain⟨r2,w2,hr2,hx2,ho2,_⟩:=fq (w:=w1) w1.heap.size [m.toUInt8] (by simp) (Nat.le_refl _)
  refine aN Jg Jg hr2 ?_
  obtain⟨r3,w3,hr3,ho3,hg3⟩:=di (ty:=28) (hb.ext hx2) ho2.bts (by simp;omega) (Nat.le_trans hb1 hx2.size)
  refine be Jg Jg hr3 ?_
  refine ab Jg Jg (ag (ac (au ?_)))
  refine aF Jg Jg ?_
  refine⟨_,rfl,?_,hg.trans (gJ.before hx2 hg3)⟩
  rw[←he,jt h',←xE]
  exact ho3
theorem iR {w:World} {l:List UInt8} {v:Value} {n:UInt64} (hv:cm l v w) (hl:l.length≤70368744177664):
 Calls Tryz.prog 98 #[v,bj n] w (bF fun r w'=>aM w w'∧cD w.heap.size (l++uv n.toNat) r w'):=by
 refine enter (vs:=[v,bj n]) Tryz.func98 Jg Jg Jg ?_
 refine af (aa (ab Jg Jg (ag (ac (af (aa (ae Jg Jg ?_)))))))
 refine an jv Jg Jg (jw hv (by omega)) ?_
 rintro r1 w1 ⟨hx1,ho1⟩
 refine ae Jg Jg ?_
 refine an kW Jg Jg (kX ho1 hl hx1.size) ?_
 rintro r2 w2 ⟨ho2,hg2⟩
 refine ab Jg Jg (ag (ac (au ?_)))
 refine aF Jg Jg ?_
 exact⟨_,rfl,hx1.of_grew hg2 ho1.ge,ho2⟩
theorem rX {w:World} {l:List UInt8} {v:Value} {n:Int} (hv:cm l v w) (hl:l.length≤70368744177664) (h1: -9223372036854775808≤n) (h2:n≤9223372036854775807):
 Calls Tryz.prog 124 #[v,I n] w (bF fun r w'=>aM w w'∧cD w.heap.size (l++uv (HU n)) r w'):=by
 refine enter (vs:=[v,I n]) Tryz.func124 Jg Jg Jg ?_
 refine af (aa (ab Jg Jg (ag (ac (af (aa (ae Jg Jg ?_)))))))
 refine an jv Jg Jg (jw hv (by omega)) ?_
 rintro r1 w1 ⟨hx1,ho1⟩
 refine ae Jg Jg ?_
 refine aQ Jg Jg (vm IM IL) ?_
 refine ai Jg Jg Jg (fz 1 (by omega)) ?_
 refine ae Jg Jg ?_
 refine ai Jg Jg Jg (FO 63 (by omega)) ?_
 refine aQ Jg Jg (vm IM IL) ?_
 refine ai Jg Jg Jg (BN) ?_
 refine an kW Jg Jg (kX ho1 hl hx1.size) ?_
 rintro r2 w2 ⟨ho2,hg2⟩
 refine ab Jg Jg (ag (ac (au ?_)))
 refine aF Jg Jg ?_
 rw[Ee h1 h2] at ho2
 exact⟨_,rfl,hx1.of_grew hg2 ho1.ge,ho2⟩
theorem dH {w:World} {l:List UInt8} {v:Value} {n:UInt64} (hv:cm l v w) (hl:l.length≤70368744177664):
 Calls Tryz.prog 59 #[v,bj n] w (bF fun r w'=>aM w w'∧cD w.heap.size (l++uv n.toNat) r w'):=by
 refine enter (vs:=[v,bj n]) Tryz.func59 Jg Jg Jg ?_
 refine af (aa (ab Jg Jg (ag (ac (af (aa ?_))))))
 obtain⟨r0,w0,hr0,hx0,ho0,_⟩:=fq (w:=w) w.heap.size [] (by simp) (Nat.le_refl _)
 refine aN Jg Jg hr0 ?_
 refine ae Jg Jg ?_
 obtain⟨r1,w1,hr1,ho1,hg1⟩:=di (ty:=28) ho0 (hv.ext hx0) (by simp;omega) hx0.size
 refine be Jg Jg hr1 ?_
 have hx1:aM w w1:=hx0.of_grew hg1 ho0.ge
 refine ab Jg Jg (ag (ac (af (ax ?_))))
 refine bV (α:=Value×UInt64×List UInt8) (fun x=>[(5,x.1),(1,bj x.2.1)]) (fun x w'=>cD w.heap.size x.2.2 x.1 w'∧aM w w'∧x.2.2++uv x.2.1.toNat=l++uv n.toNat) (fun x=>x.2.1.toNat) (r1,n,l) ⟨rfl,rfl,trivial⟩ ⟨ho1,hx1,rfl⟩ ?_
 rintro⟨b,m,done⟩ w2 ⟨hb,hx2,he⟩
 dsimp only at hb hx2 he
 have hdl:done.length≤l.length+10:=by
  have:=congrArg List.length he
  simp only[List.length_append] at this
  have:=fc (n:=n.toNat) n.toNat_lt
  omega
 refine af (af (aa (ae Jg Jg ?_)))
 refine ai (v:=bj 128) Jg Jg Jg (fx) ?_
 refine ag (ac ?_)
 refine bi Jg (fun h=>?_) (fun h=>?_)
 ·have h':128≤m.toNat:=by simpa [UInt64.le_iff_toNat_le] using h
  refine aq (ac (ax (af (aa (ae Jg Jg (ae Jg Jg ?_))))))
  refine ai (v:=bj 128) Jg Jg Jg (ic (by decide)) ?_
  refine ai (v:=bj 128) Jg Jg Jg (dn) ?_
  refine aQ Jg Jg (j4 IL IR) ?_
  obtain⟨r3,w3,hr3,hx3,ho3,_⟩:=fq (w:=w2) w2.heap.size [(m%128+128).toUInt8] (by simp) (Nat.le_refl _)
  refine aN Jg Jg hr3 ?_
  obtain⟨r4,w4,hr4,ho4,hg4⟩:=di (ty:=28) (hb.ext hx3) ho3.bts (by simp;omega) (Nat.le_trans hx2.size hx3.size)
  refine be Jg Jg hr4 ?_
  refine ab Jg Jg (ag (ac (aa (ae Jg Jg ?_))))
  refine ai (v:=bj 128) Jg Jg Jg (gt (by decide)) ?_
  refine ab Jg Jg (ag (aJ ?_))
  have hm:(m/128).toNat=m.toNat/128:=by rw[UInt64.toNat_div];rfl
  refine bM (r4,m/128,done++[(m%128+128).toUInt8]) ⟨rfl,rfl,trivial⟩ ⟨ho4,(hx2.trans hx3).of_grew hg4 hb.ge,?_⟩ ?_
  ·show done++[(m%128+128).toUInt8]++uv (m/128).toNat=_
   rw[←he,px h',hm,Ed];simp
  ·show(m/128).toNat<m.toNat
   rw[hm];omega
 ·have h':m.toNat<128:=by
   have:¬(128≤m.toNat):=fun hh=>h (by show(128:UInt64)≤m;rw[UInt64.le_iff_toNat_le];exact hh)
   omega
  refine aW (aA (aA (aU (ac (af (aa (ae Jg Jg (ae Jg Jg ?_))))))))
  refine aQ Jg Jg (j4 IL IR) ?_
  obtain⟨r3,w3,hr3,hx3,ho3,_⟩:=fq (w:=w2) w2.heap.size [m.toUInt8] (by simp) (Nat.le_refl _)
  refine aN Jg Jg hr3 ?_
  obtain⟨r4,w4,hr4,ho4,hg4⟩:=di (ty:=28) (hb.ext hx3) ho3.bts (by simp;omega) (Nat.le_trans hx2.size hx3.size)
  refine be Jg Jg hr4 ?_
  refine ab Jg Jg (ag (ac (au ?_)))
  refine aF Jg Jg ?_
  refine⟨_,rfl,(hx2.trans hx3).of_grew hg4 hb.ge,?_⟩
  rw[←he,jt h',←xE]
  exact ho4
end Go.Rl
namespace Go.Rl
open Go.RowKit Go.Proofs
theorem xH:az Tryz.prog 109:=⟨_,Tryz.func109,by kernel_rfl,rfl⟩
theorem ig:az Tryz.prog 175:=⟨_,Tryz.func175,by kernel_rfl,rfl⟩
theorem ii:az Tryz.prog 145:=⟨_,Tryz.func145,by kernel_rfl,rfl⟩
theorem jS:az Tryz.prog 144:=⟨_,Tryz.func144,by kernel_rfl,rfl⟩
theorem gw:az Tryz.prog 111:=⟨_,Tryz.func111,by kernel_rfl,rfl⟩
theorem xI:(Tryz.prog.info? 227).map (·.zero)=some (some (.agg #[.slice none 0 0,.bool false])):=by kernel_rfl
theorem cn:(Tryz.prog.info? 28).map (·.size)=some 1:=by kernel_rfl
theorem fP:(Tryz.prog.info? 4).map (·.size)=some 1:=by kernel_rfl
def oF (A:Option Addr) (g:Nat):Prop:=∀ad,A=some ad→ad.block<g
theorem oF.none (g:Nat):oF none g:=fun _ h=>by cases h
theorem qi {A:Option Addr} {n c:Nat} {lo hi mx:Option Value} {r:Value} {w w':World} (hrun:(Instr.sliceAt 28 (.slice A n c) lo hi mx).run Tryz.prog w=.ok r w'):∃A' n' c',r=.slice A' n' c'∧∀g,oF A g→oF A' g:=by
 simp only[Instr.sliceAt,Instr.slice,Sem.run_bind,run_underlying Tryz.underlying28,Result.andThen_ok] at hrun
 cases hb:(Instr.sliceBounds true n c lo hi mx).run Tryz.prog w with
 |halt x w1=>rw[hb] at hrun;simp[Result.andThen] at hrun
 |ok p w1=>
  obtain⟨l,h,m⟩:=p
  rw[hb] at hrun
  simp only[Result.andThen_ok,dE fC] at hrun
  simp at hrun
  obtain⟨rfl,rfl⟩:=hrun
  refine⟨_,_,_,rfl,fun g hg=>?_⟩
  split
  ·exact hg
  ·intro ad had
   cases A with
   |none=>cases had
   |some a0=>
    obtain rfl:=Option.some.inj had
    show(a0.add _).block<g
    rw[je]
    exact hg a0 rfl
theorem rY {A:Option Addr} {n c g:Nat} {lo hi mx:Option Value} {r:Value} {w w':World} (hrun:(Instr.sliceAt 28 (.slice A n c) lo hi mx).run Tryz.prog w=.ok r w') (h:oF A g):∀A n c,r=.slice A n c→oF A g:=fun _ _ _ e=>by
 obtain⟨A',n',c',h1,h2⟩:=qi hrun
 rw[h1] at e
 cases e
 exact h2 g h
def aZ (g:Nat) (st:Option (List UInt8)) (w:World):Prop:=
 ∃A n c,w.heap[g]? =some (.cells #[.slice A n c,.bool st.isNone] 227 (0,0))∧cm (st.getD []) (.slice A n c) w∧oF A g
theorem aZ.ext {g:Nat} {st:Option (List UInt8)} {w w':World} (h:aZ g st w) (hx:aM w w'):aZ g st w':=by
 obtain⟨A,n,c,h1,h2,h3⟩:=h
 exact⟨A,n,c,hx.heap_some h1,h2.ext hx,h3⟩
theorem uf (A:Option Addr) (n c:Nat) (b:Bool) (l:List UInt8):∀(j:Nat) (u:Value),u∈l.map U8→(#[.slice A n c,.bool b]:Array Value)[j]? ≠some u:=by
 intro j u hu
 obtain⟨x,_,rfl⟩:=List.mem_map.1 hu
 match j with
 |0=>simp[U8]
 |1=>simp[U8]
 |j+2=>simp
theorem cm.reader {l:List UInt8} {v:Value} {g:Nat} {st:Option (List UInt8)} {w w':World} (h:cm l v w) (hr:aZ g st w) (hw:w.grownBy w' (some g)):cm l v w':=by
 obtain⟨A,n,c,h1,_⟩:=hr
 exact Sl.keep h h1 (uf A n c _ l) hw
section
variable {w:World} {g:Nat} {l:List UInt8}
theorem dA {w':World} {row:Option Nat} (h:aM w w'):w.grownBy w' row:=⟨h.os,h.tape,h.output,h.size,fun _ hi _=>h.heap hi⟩
theorem i0 (w:World) (row:Option Nat):w.grownBy w row:=World.grownBy.refl w row
theorem xJ {v:Value} (hv:cm l v w) (hl:l.length≤140737488355328):
 Calls Tryz.prog 109 #[v] w (bF fun r w'=>aM w w'∧∃g,w.heap.size≤g∧r=.pointer (some ⟨g,0,none⟩)∧aZ g (some l) w'):=by
 refine enter (vs:=[v]) Tryz.func109 Jg Jg Jg ?_
 refine af (aa (ab Jg Jg (ag (ac (af (aa (ae Jg Jg ?_)))))))
 refine an jv Jg Jg (jw hv hl) ?_
 rintro r1 w1 ⟨hx1,ho1⟩
 obtain⟨A,n,c,rfl,_⟩:=id ho1.bts
 refine bm Jg Jg (r:=.agg #[.slice A n c,.bool false]) (by simp[Instr.build,run_underlying Tryz.underlying227,pm xI,dE cn,dE fP,Instr.fill,Value.cells]) ?_
 refine cY Jg Jg ov ?_
 refine ab Jg Jg (ag (ac (au ?_)))
 refine aF Jg Jg ?_
 exact⟨_,rfl,hx1.trans (aM.new _ _),w1.heap.size,hx1.size,rfl,A,n,c,heap_alloc_new _ _,ho1.bts.ext (aM.new _ _),fun ad had=>ho1.elim fun _ h=>(World.ownsRow.lt h ad.block (by rw[had];rfl)).2⟩
theorem ij {st:Option (List UInt8)} (hr:aZ g st w):
 Calls Tryz.prog 145 #[.pointer (some ⟨g,0,none⟩)] w (bF fun r w'=>r=I 5∧aZ g none w'∧w.grownBy w' (some g)):=by
 obtain⟨A,n,c,h1,_⟩:=hr
 refine enter (vs:=[.pointer (some ⟨g,0,none⟩)]) Tryz.func145 Jg Jg Jg ?_
 refine af (aa (ab Jg Jg (ag (ac (af (aa (ae Jg Jg (ae Jg Jg ?_))))))))
 refine aG Jg Jg ?_
 refine ah Jg Jg (cz I7 Jg cn (by omega)) ?_
 refine ar Jg Jg (dm cn Jg h1 (by simp)) ?_
 refine aG Jg Jg ?_
 refine ah Jg Jg (cz I7 Jg fP (by omega)) ?_
 have h2:=j0 h1 0 (.slice none 0 0)
 refine ar Jg Jg (dm (i:=1) fP Jg h2 (by simp)) ?_
 have h3:=j0 h2 1 (.bool true)
 refine ag (ac (af (aa (ab Jg Jg (ag (ac (au ?_)))))))
 refine aF Jg Jg ?_
 exact⟨_,rfl,rfl,⟨none,0,0,h3,cm.nil _,oF.none g⟩,(aY w g 0 _).trans (aY _ g 1 _)⟩
theorem qj {n:UInt64} (hr:aZ g none w):
 Calls Tryz.prog 175 #[.pointer (some ⟨g,0,none⟩),bj n] w (bF fun r w'=>r=.tuple #[.slice none 0 0,B false]∧w'=w):=by
 obtain⟨A,m,c,h1,_⟩:=hr
 refine enter (vs:=[.pointer (some ⟨g,0,none⟩),bj n]) Tryz.func175 Jg Jg Jg ?_
 refine af (aa (ab Jg Jg (ab Jg Jg (ag (ac (af (af (aa (ae Jg Jg ?_)))))))))
 refine aG Jg Jg ?_
 refine ah Jg Jg (cz I7 Jg fP (by omega)) ?_
 refine am Jg Jg (ak IU Jg (iP (i:=1) h1 Jg)) ?_
 refine ae Jg Jg ?_
 refine ao Jg Jg Jg ?_
 refine ao Jg Jg Jg ?_
 refine ao Jg Jg Jg ?_
 refine ao Jg Jg Jg ?_
 refine ao Jg Jg Jg ?_
 refine ao Jg Jg Jg ?_
 refine ao Jg Jg Jg ?_
 refine ao Jg Jg Jg ?_
 refine aw Jg Jg Jg ?_
 refine ag (ac ?_)
 refine bB Jg ?_
 refine af (aa (ab Jg Jg (ab Jg Jg (ag (ac (au (av ?_)))))))
 refine aH Jg Jg Jg ?_
 exact⟨_,rfl,rfl,rfl⟩
theorem Bb (h:l.length≤9223372036854775807):(UInt64.ofNat l.length).toNat=l.length:=by rw[UInt64.toNat_ofNat'];omega
theorem Bc {n:UInt64} (hr:aZ g (some l) w) (hn:l.length<n.toNat):
 Calls Tryz.prog 175 #[.pointer (some ⟨g,0,none⟩),bj n] w (bF fun r w'=>r=.tuple #[.slice none 0 0,B false]∧w'=w):=by
 obtain⟨A,m,c,h1,h2,_⟩:=hr
 have h2':cm l (.slice A m c) w:=h2
 refine enter (vs:=[.pointer (some ⟨g,0,none⟩),bj n]) Tryz.func175 Jg Jg Jg ?_
 refine af (aa (ab Jg Jg (ab Jg Jg (ag (ac (af (af (aa (ae Jg Jg ?_)))))))))
 refine aG Jg Jg ?_
 refine ah Jg Jg (cz I7 Jg fP (by omega)) ?_
 refine am Jg Jg (ak IU Jg (iP (i:=1) h1 Jg)) ?_
 refine ae Jg Jg ?_
 refine al Jg (ae Jg Jg (al Jg (ae Jg Jg ?_)))
 refine al Jg (aG Jg Jg ?_)
 refine al Jg (ah Jg Jg (cz I7 Jg cn (by omega)) ?_)
 refine al Jg (am Jg Jg (ak IP Jg (iP (i:=0) h1 Jg)) ?_)
 refine al Jg (aP Jg Jg (bz h2') ?_)
 refine al Jg (aQ Jg Jg (cI IM IL) ?_)
 refine al Jg (ai Jg Jg Jg (cf (by show _<n;rw[UInt64.lt_iff_toNat_lt,Bb h2'.len];exact hn) ck) ?_)
 refine aC Jg Jg Jg ?_
 refine ag (ac ?_)
 refine bB Jg ?_
 refine af (aa (ab Jg Jg (ab Jg Jg (ag (ac (au (av ?_)))))))
 refine aH Jg Jg Jg ?_
 exact⟨_,rfl,rfl,rfl⟩
theorem rZ {n:UInt64} (hr:aZ g (some l) w) (hn:n.toNat≤l.length):
 Calls Tryz.prog 175 #[.pointer (some ⟨g,0,none⟩),bj n] w
  (bF fun r w'=>∃b,r=.tuple #[b,B true]∧cm (l.take n.toNat) b w'∧aZ g (some (l.drop n.toNat)) w'∧w.grownBy w' (some g)):=by
 obtain⟨A,m,c,h1,h2,h4⟩:=hr
 have h2':cm l (.slice A m c) w:=h2
 refine enter (vs:=[.pointer (some ⟨g,0,none⟩),bj n]) Tryz.func175 Jg Jg Jg ?_
 refine af (aa (ab Jg Jg (ab Jg Jg (ag (ac (af (af (aa (ae Jg Jg ?_)))))))))
 refine aG Jg Jg ?_
 refine ah Jg Jg (cz I7 Jg fP (by omega)) ?_
 refine am Jg Jg (ak IU Jg (iP (i:=1) h1 Jg)) ?_
 refine ae Jg Jg ?_
 refine al Jg (ae Jg Jg (al Jg (ae Jg Jg ?_)))
 refine al Jg (aG Jg Jg ?_)
 refine al Jg (ah Jg Jg (cz I7 Jg cn (by omega)) ?_)
 refine al Jg (am Jg Jg (ak IP Jg (iP (i:=0) h1 Jg)) ?_)
 refine al Jg (aP Jg Jg (bz h2') ?_)
 refine al Jg (aQ Jg Jg (cI IM IL) ?_)
 refine al Jg (ai Jg Jg Jg (bZ (by show ¬_<n;rw[UInt64.lt_iff_toNat_lt,Bb h2'.len];omega) ck) ?_)
 refine aC Jg Jg Jg ?_
 refine ag (ac ?_)
 refine cq Jg ?_
 refine aq (ac (af (aa (ae Jg Jg ?_))))
 refine aG Jg Jg ?_
 refine ah Jg Jg (cz I7 Jg cn (by omega)) ?_
 refine am Jg Jg (ak IP Jg (iP (i:=0) h1 Jg)) ?_
 refine ae Jg Jg ?_
 obtain⟨b,hb,hb2⟩:=gL h2' hn .u64
 refine cu (b:=some (bj n)) Jg Jg Jg Jg Jg (hb _) ?_
 refine ab Jg Jg (ag (ac (af (aa (ae Jg Jg (ae Jg Jg ?_))))))
 refine aG Jg Jg ?_
 refine ah Jg Jg (cz I7 Jg cn (by omega)) ?_
 refine am Jg Jg (ak IP Jg (iP (i:=0) h1 Jg)) ?_
 refine ae Jg Jg ?_
 obtain⟨r,hr,hr2⟩:=eZ h2' hn .u64
 refine cu (a:=some (bj n)) Jg Jg Jg Jg Jg (hr _) ?_
 refine aG Jg Jg ?_
 refine ah Jg Jg (cz I7 Jg cn (by omega)) ?_
 obtain⟨A',m',c',rfl,h5⟩:=qi (hr w)
 refine ar Jg Jg (dm (i:=0) cn Jg h1 (by simp)) ?_
 have h3:=j0 h1 0 (.slice A' m' c')
 have hg:=aY w g 0 (.slice A' m' c')
 refine ag (ac (af (aa (ae Jg Jg (ab Jg Jg (ab Jg Jg (ag (ac (au ?_)))))))))
 refine aH Jg Jg Jg ?_
 have hrd:aZ g (some l) w:=⟨A,m,c,h1,h2,h4⟩
 exact⟨_,rfl,b,rfl,hb2.reader hrd hg,⟨A',m',c',h3,hr2.reader hrd hg,h5 g h4⟩,hg⟩
def UvR (g:Nat) (w:World) (o:Option (Nat×List UInt8)) (r:Value) (w':World):Prop:=
 w.grownBy w' (some g)∧match o with
  |some (n,t)=>r=.tuple #[bj (UInt64.ofNat n),B true]∧aZ g (some t) w'
  |none=>r=.tuple #[bj 0,B false]∧∃l',aZ g (some l') w'
theorem ni (hr:aZ g (some l) w):
 Calls Tryz.prog 144 #[.pointer (some ⟨g,0,none⟩)] w (bF (UvR g w (cZ l))):=by
 refine enter (vs:=[.pointer (some ⟨g,0,none⟩)]) Tryz.func144 Jg Jg Jg ?_
 refine af (aa (ab Jg Jg (ab Jg Jg (ag (ac (af (af (aa (ab Jg Jg (ag (ac (ax ?_))))))))))))
 refine bV (α:=Nat×List UInt8×UInt64) (fun x=>[(0,.pointer (some ⟨g,0,none⟩)),(4,I ((7*x.1:Nat):Int)),(2,bj x.2.2)])
  (fun x w'=>aZ g (some x.2.1) w'∧w.grownBy w' (some g)∧x.1≤9∧x.2.2.toNat<128^x.1∧cZ l=(kV (10-x.1) x.1 x.2.1).map fun p=>(p.1+x.2.2.toNat,p.2)) (fun x=>10-x.1)
  (0,l,0) ⟨rfl,rfl,rfl,trivial⟩ ⟨hr,i0 _ _,by simp,by simp,by simp[cZ]⟩ ?_
 rintro⟨k,rest,acc⟩ w1 ⟨hr1,hg1,hk,hacc,hrd⟩
 dsimp only at hr1 hg1 hk hacc hrd
 have hfuel:10-k=(9-k)+1:=by omega
 rw[hfuel] at hrd
 refine af (af (aa (ae Jg Jg ?_)))
 refine ai Jg Jg Jg (cf (by omega) aX) ?_
 refine ag (ac ?_)
 refine bB Jg ?_
 refine aq (ac (af (ax (af (aa (ae Jg Jg ?_))))))
 cases rest with
 |nil=>
  refine an (vs:=[_,bj 1]) ig Jg Jg (Bc hr1 (by decide)) ?_
  rintro r2 w2 ⟨rfl,rfl⟩
  refine ae Jg Jg ?_
  refine aj Jg Jg (aS) ?_
  refine aj Jg Jg (aT) ?_
  refine ab Jg Jg (ab Jg Jg (ag (ac (af (af (aa (ae Jg Jg ?_)))))))
  refine ci Jg Jg (cj) ?_
  refine ag (ac ?_)
  refine bB Jg ?_
  refine af (aa (ab Jg Jg (ab Jg Jg (ag (ac (au (av (bc (av (av (bc (av ?_))))))))))))
  refine aH Jg Jg Jg ?_
  refine⟨_,rfl,hg1,?_⟩
  rw[hrd,lS]
  exact⟨rfl,[],hr1⟩
 |cons c t=>
  refine an (vs:=[_,bj 1]) ig Jg Jg (rZ hr1 (by simp)) ?_
  rintro r2 w2 ⟨b,rfl,hb,hr2,hg2⟩
  have hb':cm [c] b w2:=hb
  have hr2':aZ g (some t) w2:=hr2
  have hg:=hg1.trans hg2
  refine ae Jg Jg ?_
  refine aj Jg Jg (aS) ?_
  refine aj Jg Jg (aT) ?_
  refine ab Jg Jg (ab Jg Jg (ag (ac (af (af (aa (ae Jg Jg ?_)))))))
  refine ci Jg Jg (cj) ?_
  refine ag (ac ?_)
  refine cq Jg ?_
  refine aq (ac (af (aa (ae Jg Jg ?_))))
  obtain⟨ad,had,hcell⟩:=er hb' (i:=0) (by simp) .i64
  refine aB Jg Jg Jg (had _) ?_
  refine am Jg Jg (GF hcell) ?_
  refine ab Jg Jg (ag (ac (af (af ?_))))
  refine eV (fun _:Unit=>[(0,.pointer (some ⟨g,0,none⟩)),(4,I ((7*k:Nat):Int)),(2,bj acc),(7,U8 c),(35,B (decide ((k=9∧1<c.toNat)∨(0<k∧c.toNat=0))))]) (fun _ w'=>w'=w2) ?_ ?_
  ·refine aa (ae Jg Jg ?_)
   have c1:c>1↔1<c.toNat:=by show 1<c↔_;rw[UInt8.lt_iff_toNat_lt];rfl
   have c0:c=0↔c.toNat=0:=by rw[←UInt8.toNat_inj];rfl
   by_cases h9:k=9
   ·refine ai Jg Jg Jg (cf (by omega) aV) ?_
    refine ae Jg Jg (al Jg (ae Jg Jg ?_))
    by_cases hc1:1<c.toNat
    ·refine al Jg (ai (v:=U8 1) Jg Jg Jg (cf (c1.2 hc1) om) ?_)
     refine aw Jg Jg Jg (ae Jg Jg ?_)
     refine ao Jg Jg Jg (ao Jg Jg Jg (ao Jg Jg Jg ?_))
     refine cN Jg Jg Jg (cN Jg Jg Jg (ao Jg Jg Jg ?_))
     refine aw Jg Jg Jg (ag ?_)
     exact cv () ⟨rfl,rfl,rfl,rfl,by rw[decide_eq_true (Or.inl ⟨h9,hc1⟩)];rfl,trivial⟩ rfl
    ·refine al Jg (ai (v:=U8 1) Jg Jg Jg (bZ (fun h=>hc1 (c1.1 h)) om) ?_)
     refine aw Jg Jg Jg (ae Jg Jg ?_)
     refine al Jg (ae Jg Jg (al Jg (ai Jg Jg Jg (cf (by omega) ce) ?_)))
     refine al Jg (ae Jg Jg (al Jg (ae Jg Jg ?_)))
     refine al Jg (ai (v:=U8 0) Jg Jg Jg iC ?_)
     refine al Jg (aw Jg Jg Jg ?_)
     refine aC Jg Jg Jg (ag ?_)
     refine cv () ⟨rfl,rfl,rfl,rfl,?_,trivial⟩ rfl
     show some (B (decide (c=0)))=_
     rw[decide_eq_decide.2 (show c=0↔((k=9∧1<c.toNat)∨(0<k∧c.toNat=0)) from by rw[c0];omega)]
   ·refine ai Jg Jg Jg (bZ (by omega) aV) ?_
    refine ae Jg Jg (ao Jg Jg Jg (ao Jg Jg Jg ?_))
    refine aC Jg Jg Jg (ae Jg Jg ?_)
    by_cases hk0:0<k
    ·refine al Jg (ae Jg Jg (al Jg (ai Jg Jg Jg (cf (by omega) ce) ?_)))
     refine al Jg (ae Jg Jg (al Jg (ae Jg Jg ?_)))
     refine al Jg (ai (v:=U8 0) Jg Jg Jg iC ?_)
     refine al Jg (aw Jg Jg Jg ?_)
     refine aC Jg Jg Jg (ag ?_)
     refine cv () ⟨rfl,rfl,rfl,rfl,?_,trivial⟩ rfl
     show some (B (decide (c=0)))=_
     rw[decide_eq_decide.2 (show c=0↔((k=9∧1<c.toNat)∨(0<k∧c.toNat=0)) from by rw[c0];omega)]
    ·refine al Jg (ae Jg Jg (al Jg (ai Jg Jg Jg (bZ (by omega) ce) ?_)))
     refine al Jg (ae Jg Jg (ao Jg Jg Jg (ao Jg Jg Jg ?_)))
     refine al Jg (aC Jg Jg Jg ?_)
     refine aC Jg Jg Jg (ag ?_)
     refine cv () ⟨rfl,rfl,rfl,rfl,?_,trivial⟩ rfl
     show some (B false)=_
     rw[decide_eq_false (by omega)]
  ·rintro _ w3 rfl
   refine ac (bi Jg (fun h=>?_) (fun h=>?_))
   ·refine af (aa (ab Jg Jg (ab Jg Jg (ag (ac (au (av (bc (av (av (bc (av ?_))))))))))))
    refine aH Jg Jg Jg ?_
    refine⟨_,rfl,hg,?_⟩
    rw[hrd]
    simp only[kV]
    rw[if_pos h]
    exact⟨rfl,t,hr2'⟩
   ·have hor:=F5 (acc:=acc) (c:=c) hacc hk (fun h9=>by
     have:¬1<c.toNat:=fun hc=>h (Or.inl ⟨h9,hc⟩)
     omega)
    refine aq (ac (af (aa (ae Jg Jg (ae Jg Jg ?_)))))
    refine ai (v:=U8 127) Jg Jg Jg (DB) ?_
    refine aQ Jg Jg (rB IR IL) ?_
    refine ae Jg Jg ?_
    refine ai Jg Jg Jg (fz (7*k) (by omega)) ?_
    refine ai Jg Jg Jg (iD) ?_
    refine ab Jg Jg (ag (ac (af (aa (ae Jg Jg ?_)))))
    refine ai (v:=U8 128) Jg Jg Jg (j1) ?_
    refine ag (ac ?_)
    refine bi Jg (fun h2=>?_) (fun h2=>?_)
    ·have h2':c.toNat<128:=by rw[UInt8.lt_iff_toNat_lt] at h2;exact h2
     refine af (aa (ae Jg Jg (ab Jg Jg (ab Jg Jg (ag (ac (au (bc (av (av (bc (av ?_))))))))))))
     refine aH Jg Jg Jg ?_
     refine⟨_,rfl,hg,?_⟩
     rw[hrd]
     simp only[kV]
     rw[if_neg h,if_pos h2']
     refine⟨?_,hr2'⟩
     rw[Nat.mod_eq_of_lt h2'] at hor
     have:UInt64.ofNat (c.toNat*128^k+acc.toNat)=acc|||((c&&&127).toUInt64<<<UInt64.ofNat (7*k)):=by
      rw[Nat.add_comm,←hor,UInt64.ofNat_toNat]
     rw[this];rfl
    ·have h2':¬c.toNat<128:=fun hc=>h2 (by rw[UInt8.lt_iff_toNat_lt];exact hc)
     have hk9:k≠9:=fun hk9=>h (Or.inl ⟨hk9,by omega⟩)
     refine aq (aJ (ac (aa (ae Jg Jg ?_))))
     refine ai Jg Jg Jg (aK (by omega) (by omega)) ?_
     refine ab Jg Jg (ag ?_)
     refine bM (k+1,t,acc|||((c&&&127).toUInt64<<<UInt64.ofNat (7*k))) ⟨rfl,?_,rfl,trivial⟩ ⟨hr2',hg,by show k+1≤9;omega,?_,?_⟩ (by show 10-(k+1)<10-k;omega)
     ·show some (I (((7*k:Nat):Int)+7))=some (I ((7*(k+1):Nat):Int))
      rw[show((7*k:Nat):Int)+7=((7*(k+1):Nat):Int) by omega]
     ·show(acc|||((c&&&127).toUInt64<<<UInt64.ofNat (7*k))).toNat<128^(k+1)
      rw[hor,Nat.pow_succ]
      have:(c.toNat%128)*128^k≤127*128^k:=Nat.mul_le_mul_right _ (by omega)
      omega
     ·show cZ l=(kV (10-(k+1)) (k+1) t).map fun p=>(p.1+(acc|||((c&&&127).toUInt64<<<UInt64.ofNat (7*k))).toNat,p.2)
      rw[hrd,hor]
      simp only[kV]
      rw[if_neg h,if_neg h2',Option.map_map]
      have:10-(k+1)=9-k:=by omega
      rw[this]
      have ef:((fun p:Nat×List UInt8=>(p.1+acc.toNat,p.2))∘fun p:Nat×List UInt8=>(p.1+c.toNat%128*128^k,p.2))=fun p=>(p.1+(acc.toNat+c.toNat%128*128^k),p.2):=by
       funext p
       simp only[Function.comp,Prod.mk.injEq,and_true]
       omega
      rw[ef]
theorem lK (hr:aZ g none w):
 Calls Tryz.prog 144 #[.pointer (some ⟨g,0,none⟩)] w (bF fun r w'=>r=.tuple #[bj 0,B false]∧w'=w):=by
 refine enter (vs:=[.pointer (some ⟨g,0,none⟩)]) Tryz.func144 Jg Jg Jg ?_
 refine af (aa (ab Jg Jg (ab Jg Jg (ag (ac (af (af (aa (ab Jg Jg (ag (ac (ax ?_))))))))))))
 refine bV (α:=Unit) (fun _=>[(0,.pointer (some ⟨g,0,none⟩)),(4,I 0),(2,bj 0)]) (fun _ w'=>w'=w) (fun _=>0) () ⟨rfl,rfl,rfl,trivial⟩ Jg ?_
 rintro _ w1 rfl
 refine af (af (aa (ae Jg Jg ?_)))
 refine ai Jg Jg Jg (cf (by omega) aX) ?_
 refine ag (ac ?_)
 refine bB Jg ?_
 refine aq (ac (af (ax (af (aa (ae Jg Jg ?_))))))
 refine an (vs:=[_,bj 1]) ig Jg Jg (qj hr) ?_
 rintro r2 w2 ⟨rfl,rfl⟩
 refine ae Jg Jg ?_
 refine aj Jg Jg (aS) ?_
 refine aj Jg Jg (aT) ?_
 refine ab Jg Jg (ab Jg Jg (ag (ac (af (af (aa (ae Jg Jg ?_)))))))
 refine ci Jg Jg (cj) ?_
 refine ag (ac ?_)
 refine bB Jg ?_
 refine af (aa (ab Jg Jg (ab Jg Jg (ag (ac (au (av (bc (av (av (bc (av ?_))))))))))))
 refine aH Jg Jg Jg ?_
 exact⟨_,rfl,rfl,rfl⟩
def GM (g:Nat) (w:World) (o:Option (Nat×List UInt8)) (r:Value) (w':World):Prop:=
 w.grownBy w' (some g)∧match o with
  |some (n,t)=>r=.tuple #[bj (UInt64.ofNat n),I 0]∧aZ g (some t) w'
  |none=>r=.tuple #[bj 0,I 5]∧aZ g none w'
theorem mP {st:Option (List UInt8)} (hr:aZ g st w):
 Calls Tryz.prog 111 #[.pointer (some ⟨g,0,none⟩)] w (bF (GM g w (st.bind cZ))):=by
 refine enter (vs:=[.pointer (some ⟨g,0,none⟩)]) Tryz.func111 Jg Jg Jg ?_
 refine af (aa (ab Jg Jg (ab Jg Jg (ag (ac (af (af (aa (ae Jg Jg ?_)))))))))
 refine ai Jg Jg Jg (lP I1) ?_
 refine ag (ac ?_)
 refine cq Jg ?_
 refine aq (ac (af (aa (ae Jg Jg ?_))))
 have hcase:Calls Tryz.prog 144 #[.pointer (some ⟨g,0,none⟩)] w (bF fun r w'=>w.grownBy w' (some g)∧match st.bind cZ with
  |some (n,t)=>r=.tuple #[bj (UInt64.ofNat n),B true]∧aZ g (some t) w'
  |none=>r=.tuple #[bj 0,B false]∧∃l',aZ g l' w'):=by
  cases st with
  |none=>exact(lK hr).mono fun e w' ⟨v,he,hv,hw⟩=>⟨v,he,by subst hw;exact⟨i0 _ _,hv,none,hr⟩⟩
  |some l=>
   refine(ni hr).mono fun e w' ⟨v,he,hg,hv⟩=>⟨v,he,hg,?_⟩
   show match cZ l with|some (n,t)=>_|none=>_
   cases hrd:cZ l with
   |none=>rw[hrd] at hv;exact⟨hv.1,hv.2.imp' some fun _ h=>h⟩
   |some p=>rw[hrd] at hv;exact hv
 refine an jS Jg Jg hcase ?_
 rintro r1 w1 ⟨hg1,h1⟩
 unfold GM
 cases hrd:st.bind cZ with
 |some p=>
  obtain⟨n,t⟩:=p
  rw[hrd] at h1
  obtain⟨rfl,hr1⟩:=h1
  refine ae Jg Jg ?_
  refine aj Jg Jg (aS) ?_
  refine aj Jg Jg (aT) ?_
  refine ab Jg Jg (ab Jg Jg (ag (ac (af (af (aa (ae Jg Jg ?_)))))))
  refine ci Jg Jg (cj) ?_
  refine ag (ac ?_)
  refine cq Jg ?_
  refine aq (ac (af (aa (ae Jg Jg (ab Jg Jg (ab Jg Jg (ag (ac (au ?_)))))))))
  refine aH Jg Jg Jg ?_
  exact⟨_,rfl,hg1,rfl,hr1⟩
 |none=>
  rw[hrd] at h1
  obtain⟨rfl,l',hr1⟩:=h1
  refine ae Jg Jg ?_
  refine aj Jg Jg (aS) ?_
  refine aj Jg Jg (aT) ?_
  refine ab Jg Jg (ab Jg Jg (ag (ac (af (af (aa (ae Jg Jg ?_)))))))
  refine ci Jg Jg (cj) ?_
  refine ag (ac ?_)
  refine bB Jg ?_
  refine af (aa (ae Jg Jg ?_))
  refine an ii Jg Jg (ij hr1) ?_
  rintro r2 w2 ⟨rfl,hr2,hg2⟩
  refine ab Jg Jg (ab Jg Jg (ag (ac (au (av ?_)))))
  refine aH Jg Jg Jg ?_
  exact⟨_,rfl,hg1.trans hg2,rfl,hr2⟩
end
end Go.Rl
namespace Go.Rl
open Go.RowKit Go.Proofs
theorem xK:az Tryz.prog 155:=⟨_,Tryz.func155,by kernel_rfl,rfl⟩
def FI (x:UInt32):List UInt8:=[x.toUInt8,(x>>>UInt32.ofNat 8).toUInt8,(x>>>UInt32.ofNat 16).toUInt8,(x>>>UInt32.ofNat 24).toUInt8]
def m4 (l:List UInt32):List UInt8:=l.flatMap FI
theorem Cs (l:List UInt32) (k:Nat) (h:k<l.length):m4 (l.take (k+1))=m4 (l.take k)++FI l[k]:=by
 unfold m4
 rw[List.take_succ_eq_append_getElem h,List.flatMap_append]
 simp
theorem fe (l:List UInt32):(m4 l).length=4*l.length:=by
 induction l with
 |nil=>rfl
 |cons x l ih=>
  have:m4 (x::l)=FI x++m4 l:=by simp[m4]
  rw[this,List.length_append,ih]
  simp[FI];omega
def kY (l:List UInt32):List UInt8:=uv l.length++m4 l
theorem Ef (l:List UInt32) (h:l.length<18446744073709551616):(kY l).length≤10+4*l.length:=by
 have:=fc h
 simp only[kY,List.length_append,fe];omega
section
variable {w0 w:World} {l:List UInt8} {ns:List UInt32} {v nv:Value}
theorem xL (hx:aM w0 w) (hv:cD w0.heap.size l v w) (hn:bt ns nv w0) (hl:l.length+4*ns.length≤35184372088832):
 Calls Tryz.prog 155 #[v,nv] w (bF fun r w'=>cD w0.heap.size (l++kY ns) r w'∧aM w0 w'∧gJ w w' v r):=by
 refine enter (vs:=[v,nv]) Tryz.func155 Jg Jg Jg ?_
 refine af (aa (ab Jg Jg (ag (ac (af (aa (ae Jg Jg (ae Jg Jg ?_))))))))
 refine aP Jg Jg (bp IJ (hn.ext hx)) ?_
 refine aQ Jg Jg (cI IM IL) ?_
 refine an kW Jg Jg (kX hv (by omega) hx.size) ?_
 rintro b1 w1 ⟨hb1,hg1⟩
 have hlen:(UInt64.ofNat ns.length).toNat=ns.length:=by rw[UInt64.toNat_ofNat'];have:=hn.len;omega
 rw[hlen] at hb1
 have hx1:aM w0 w1:=hx.of_grew hg1 hv.ge
 have huv:=fc (n:=ns.length) (by have:=hn.len;omega)
 refine ab Jg Jg (ag (ac (af (af (aa (ae Jg Jg ?_))))))
 refine aP Jg Jg (bp IJ (hn.ext hx1)) ?_
 refine ae Jg Jg (ag (ac (ax ?_)))
 refine bV (α:=Nat×Value) (fun x=>[(0,x.2),(12,nv),(13,I (ns.length:Int)),(14,I (x.1:Int))])
  (fun x w'=>cD w0.heap.size (l++uv ns.length++m4 (ns.take x.1)) x.2 w'∧aM w0 w'∧gJ w w' v x.2∧x.1≤ns.length) (fun x=>ns.length-x.1) (0,b1) ⟨rfl,rfl,rfl,rfl,trivial⟩
  ⟨by simpa [m4] using hb1,hx1,hg1,by simp⟩ ?_
 rintro⟨k,b⟩ w2 ⟨hb,hx2,hg2,hk⟩
 dsimp only at hb hx2 hg2 hk
 have hns:=hn.len
 have hdl:(l++uv ns.length++m4 (ns.take k)).length≤35184372088832+10:=by
  simp only[List.length_append,fe,List.length_take];omega
 refine af (aa ?_)
 refine ai Jg Jg Jg (aX) ?_
 refine ag (ac (af ?_))
 refine bi Jg (fun h=>?_) (fun h=>?_)
 ·have hlt:k<ns.length:=by omega
  refine aq (ac (af (ax (af (aa ?_)))))
  obtain⟨ad,had,hcell⟩:=cL IJ (hn.ext hx2) hlt .i64
  refine aB Jg Jg Jg (had _) ?_
  refine am Jg Jg (H4 hcell) ?_
  refine ab Jg Jg (ag (ac (aa (ae Jg Jg (ae Jg Jg ?_)))))
  refine aQ Jg Jg (eY IK IR) ?_
  refine ae Jg Jg ?_
  refine ai Jg Jg Jg (db 8 (by omega)) ?_
  refine aQ Jg Jg (eY IK IR) ?_
  refine ae Jg Jg ?_
  refine ai Jg Jg Jg (db 16 (by omega)) ?_
  refine aQ Jg Jg (eY IK IR) ?_
  refine ae Jg Jg ?_
  refine ai Jg Jg Jg (db 24 (by omega)) ?_
  refine aQ Jg Jg (eY IK IR) ?_
  obtain⟨r3,w3,hr3,hx3,ho3,_⟩:=fq (w:=w2) w2.heap.size (FI ns[k]) (by simp[FI]) (Nat.le_refl _)
  refine aN Jg Jg hr3 ?_
  obtain⟨r4,w4,hr4,ho4,hg4⟩:=di (ty:=28) (hb.ext hx3) ho3.bts (by simp only[FI,List.length_cons,List.length_nil];omega) (Nat.le_trans hx2.size hx3.size)
  refine be Jg Jg hr4 ?_
  refine ab Jg Jg (ag (aJ (ac (aa ?_))))
  refine ai Jg Jg Jg (aK (by omega) (by omega)) ?_
  refine ae Jg Jg (ag ?_)
  refine bM (k+1,r4) ⟨rfl,rfl,rfl,rfl,trivial⟩ ⟨?_,(hx2.trans hx3).of_grew hg4 hb.ge,hg2.trans (gJ.before hx3 hg4),hlt⟩ (by show ns.length-(k+1)<ns.length-k;omega)
  show cD _ (l++uv ns.length++m4 (ns.take (k+1))) r4 w4
  rw[Cs ns k hlt,←List.append_assoc]
  exact ho4
 ·have hk':k=ns.length:=by omega
  refine aW (aA (aA (aU (ac (af (aa (ae Jg Jg (ab Jg Jg (ag (ac (au ?_)))))))))))
  refine aF Jg Jg ?_
  refine⟨_,rfl,?_,hx2,hg2⟩
  rw[hk',List.take_length,List.append_assoc] at hb
  exact hb
end
end Go.Rl
namespace Go.Rl
open Go.RowKit
section
variable {P:Program} {ops:Array Oper} {Q:fB} {N:Nat} {D:List Deferred} {S:World→Prop} {fuel:Nat} {listed:Array Bool} {l:Fr} {w:World} {d:Nat} {op:Op} {ty:TypeId} {pos:String} {aft:Array Edge}
def gS (Q:fB):fB:=fun e a w=>e=.normal∧Q .normal a w
def fu (P:Program) (ops:Array Oper) (Q:fB) (N:Nat) (D:List Deferred) (S:World→Prop) (fuel:Nat) (listed:Array Bool) (l:Fr) (w:World):Prop:=∀a,At N D l a→wpAnyH P .any ops (gS Q) S fuel listed a w
def xM (P:Program) (ops:Array Oper) (Q:fB) (S:World→Prop) (fuel:Nat) (listed:Array Bool):fB:=fun e a w=>e=.normal∧S w∧wpAnyH P .any ops (gS Q) S fuel listed a w
theorem Hm {id:Nat} {os:List Oper} (S:World→Prop) (n:Nat) (hn:os.toArray.size=n) (hm:P.follows .mixedOrders=true)
 (h:fu P os.toArray Q N D S n (Array.replicate n false) l w.drew):cW P Q N D l w (.region id os.toArray true):=fun a ha=>by
 subst hn
 exact wp_mono (wp_region_held (Q:=gS Q) (S:=S) hm (h a ha)) fun e a w he=>by obtain⟨rfl,h⟩:=he;exact h
def Hn (ops:Array Oper) (listed:Array Bool) (i:Nat):Bool:=Region.noSelect ops&&Region.free .any ops listed i&&(Region.ready .any ops listed).contains i
theorem GN (i:Nat) {v:Value} (hi:ops[i]? =some ⟨some d,op,ty,pos,aft,none⟩) (hB:Hn ops listed i=true) (hd:Nat.blt d N=true) (hS:S w)
 (hrun:∀ρ w',nf l ρ→S w'→(execOp ρ ⟨some d,op,ty,pos,aft,none⟩).run P w'=.ok (.value v) w')
 (k:fu P ops Q N D S fuel (listed.setIfInBounds i true) ((d,v)::l) w):fu P ops Q N D S (fuel+1) listed l w:=fun a ha=>by
 simp only[Hn,Bool.and_eq_true] at hB
 exact wpAnyH_take hi hB.1.1 hB.1.2 hB.2 (fun c a w h=>by obtain⟨h,_⟩:=h;cases h) (.inl ⟨rfl,fun w' hw'=>hrun a.eval w' (fun x v hx=>ha.ev hx) hw'⟩) hS (k _ (ha.put hd v))
theorem zy (i:Nat) {xs:List Operand} {vs:List Value} {r:Value} {f:List Value→Sem Value} (hi:ops[i]? =some ⟨some d,op,ty,pos,aft,none⟩) (he:∀ρ,execOp ρ ⟨some d,op,ty,pos,aft,none⟩=(do pure (Next.value (←f (xs.map ρ))):Sem Next))
 (hp:rt l xs=some vs) (hB:Hn ops listed i=true) (hd:Nat.blt d N=true) (hS:S w) (hrun:∀w',S w'→(f vs).run P w'=.ok r w')
 (k:fu P ops Q N D S fuel (listed.setIfInBounds i true) ((d,r)::l) w):fu P ops Q N D S (fuel+1) listed l w:=
 GN i hi hB hd hS (fun ρ w' hρ hw'=>by rw[he,g0 hρ hp,Sem.run_bind,hrun w' hw'];rfl) k
theorem Ic {x:Operand} {v:Value} (h:ev l x=some v):rt l [x]=some [v]:=by simp[rt,h]
theorem evs2 {x y:Operand} {u v:Value} (h:ev l x=some u) (h':ev l y=some v):rt l [x,y]=some [u,v]:=by simp[rt,h,h']
theorem py (i:Nat) {x:Operand} {v:Value} (hi:ops[i]? =some ⟨some d,.move x,ty,pos,aft,none⟩) (hx:ev l x=some v) (hB:Hn ops listed i=true) (hd:Nat.blt d N=true) (hS:S w)
 (k:fu P ops Q N D S fuel (listed.setIfInBounds i true) ((d,v)::l) w):fu P ops Q N D S (fuel+1) listed l w:=
 GN i hi hB hd hS (fun ρ w' hρ _=>by simp[execOp,hρ x _ hx]) k
theorem vD (i:Nat) {t:TypeId} {x:Operand} {u r:Value} (hi:ops[i]? =some ⟨some d,.load t x,ty,pos,aft,none⟩) (hx:ev l x=some u) (hB:Hn ops listed i=true) (hd:Nat.blt d N=true) (hS:S w) (hrun:∀w',S w'→(Instr.loadAt t u).run P w'=.ok r w')
 (k:fu P ops Q N D S fuel (listed.setIfInBounds i true) ((d,r)::l) w):fu P ops Q N D S (fuel+1) listed l w:=
 zy i (xs:=[x]) (f:=fun|[a]=>Instr.loadAt t a|_=>stuck "") hi (fun _=>rfl) (Ic hx) hB hd hS hrun k
theorem qk (i:Nat) {s:TypeId} {n:Nat} {x:Operand} {u r:Value} (hi:ops[i]? =some ⟨some d,.fieldAddr s x n,ty,pos,aft,none⟩) (hx:ev l x=some u) (hB:Hn ops listed i=true) (hd:Nat.blt d N=true) (hS:S w) (hrun:∀w',S w'→(Instr.fieldAt s u n).run P w'=.ok r w')
 (k:fu P ops Q N D S fuel (listed.setIfInBounds i true) ((d,r)::l) w):fu P ops Q N D S (fuel+1) listed l w:=
 zy i (xs:=[x]) (f:=fun|[a]=>Instr.fieldAt s a n|_=>stuck "") hi (fun _=>rfl) (Ic hx) hB hd hS hrun k
theorem GO (i:Nat) {b:BinOp} {t t2:TypeId} {x y:Operand} {u v r:Value} (hi:ops[i]? =some ⟨some d,.binOp b t x y t2,ty,pos,aft,none⟩) (hx:ev l x=some u) (hy:ev l y=some v) (hB:Hn ops listed i=true) (hd:Nat.blt d N=true) (hS:S w) (hrun:∀w',S w'→(bin b t x y u v).run P w'=.ok r w')
 (k:fu P ops Q N D S fuel (listed.setIfInBounds i true) ((d,r)::l) w):fu P ops Q N D S (fuel+1) listed l w:=
 zy i (xs:=[x,y]) (f:=fun|[a,c]=>bin b t x y a c|_=>stuck "") hi (fun _=>rfl) (evs2 hx hy) hB hd hS hrun k
theorem kZ {o:Oper} {i:Nat} {listed':Array Bool} {a:Act} (hi:ops[i]? =some o) (h:wpList P ops (xM P ops Q S fuel listed') [o] a w):
 wpOp P ops (gS Q) i (fun a' w'=>S w'∧wpAnyH P .any ops (gS Q) S fuel listed' a' w') a w:=by
 unfold wpOp
 simp only[hi]
 unfold wpList at h
 split
 ·rename_i hw
  rw[if_pos hw] at h
  rcases h with h|⟨_,_,_,h,_⟩
  ·refine .inl ?_
   unfold Oper.wp at*
   generalize (execOp a.eval o).run P w=r at*
   cases r with
   |ok n w'=>
    cases n<;>simp only[Oper.upon] at h⊢
    case value u=>exact h.2
    case skip=>exact h.2
    case defer dd=>exact h.2
    case enter f args=>
     refine Calls.mono h fun e w'' he=>?_
     cases e with
     |returned u=>exact he.2
     |panicked c=>obtain⟨he,_⟩:=he;cases he
     |outgrown=>obtain⟨_,_,he,_⟩:=he;cases he
    case row row args=>exact Rows.mono h fun u w'' he=>he.2
   |halt x w'=>
    cases x<;>simp only[Oper.upon] at h⊢
    case panic u=>obtain⟨he,_⟩:=h;cases he
  ·cases h
 ·rename_i hw
  rw[if_neg hw] at h
  exact h.2
theorem jx (i:Nat) {o:Oper} (hr:Region.ready .any ops listed=[i]) (hi:ops[i]? =some o) (h:bP P ops (xM P ops Q S fuel (listed.setIfInBounds i true)) N D l w [o]):fu P ops Q N D S (fuel+1) listed l w:=fun a ha=>
 wpAnyH_all hr (by simp) fun j hj=>by
  obtain rfl:j=i:=by simpa using hj
  exact kZ hi (h a ha)
theorem Eg (i j:Nat) {o u:Oper} (hr:Region.ready .any ops listed=[i,j]) (hi:ops[i]? =some o) (hj:ops[j]? =some u) (h:bP P ops (xM P ops Q S fuel (listed.setIfInBounds i true)) N D l w [o])
 (h':bP P ops (xM P ops Q S fuel (listed.setIfInBounds j true)) N D l w [u]):fu P ops Q N D S (fuel+1) listed l w:=fun a ha=>
 wpAnyH_all hr (by simp) fun k hk=>by
  rcases(by simpa using hk:k=i∨k=j) with rfl|rfl
  ·exact kZ hi (h a ha)
  ·exact kZ hj (h' a ha)
theorem eI (hS:S w) (k:fu P ops Q N D S fuel listed l w):bP P ops (xM P ops Q S fuel listed) N D l w []:=fun a ha=>⟨rfl,hS,k a ha⟩
theorem Eh {α:Type} (fr:α→Fr) (H:α→World→Prop) (listed':Array Bool) (fuel':Nat) (k:∀x w',H x w'→fu P ops Q N D S fuel' listed' (fr x) w')
 (h:(∀l' w',(∃x,za (fr x) l'∧H x w')→fu P ops Q N D S fuel' listed' l' w')→fu P ops Q N D S fuel listed l w):fu P ops Q N D S fuel listed l w:=
 h fun _ w' ⟨x,hs,hH⟩ a ha=>k x w' hH a (ha.weak hs)
theorem Ie {listed':Array Bool} (he:listed=listed') (h:fu P ops Q N D S fuel listed' l w):fu P ops Q N D S fuel listed l w:=he▸h
theorem vE (hr:Region.ready .any ops listed=[]) (h:fS Q N D l w):fu P ops Q N D S fuel listed l w:=fun a ha=>wpAnyH_done hr ⟨rfl,h a ha⟩ _
end
end Go.Rl
namespace Go.Rl
open Go.RowKit Go.Proofs
theorem sg:az Tryz.prog 125:=⟨_,Tryz.func125,by kernel_rfl,rfl⟩
theorem aM.at {w w':World} (hx:aM w w') {g:Nat} {o:Obj} (h:w.heap[g]? =some o):w'.heap[g]? =some o:=by
 rw[hx.block g (by obtain⟨h,_⟩:=Array.getElem?_eq_some_iff.1 h;exact h)]
 exact h
theorem cD.low {base base':Nat} {l:List UInt8} {v:Value} {w:World} (h:cD base l v w) (hb:base'≤base):cD base' l v w:=by
 have hge:=h.ge
 obtain⟨n,h⟩:=h
 exact⟨n,iX h fun k hk=>Nat.le_trans hb (hge k hk)⟩
theorem cD.lt {base:Nat} {l:List UInt8} {v:Value} {w:World} (h:cD base l v w):∀k,v.ownBlock=some k→k<w.heap.size:=by
 obtain⟨n,h⟩:=h
 exact fun k hk=>(World.ownsRow.lt h k hk).2
def dc (b:Bool) (n m:List UInt32):dx:=fun v w=>∃x y,v=.agg #[B b,x,y]∧bt n x w∧bt m y w
theorem dc.ext {b:Bool} {n m:List UInt32} {v:Value} {w w':World} (h:dc b n m v w) (hx:aM w w'):dc b n m v w':=by
 obtain⟨x,y,rfl,h1,h2⟩:=h
 exact⟨x,y,rfl,h1.ext hx,h2.ext hx⟩
def GP (b:Bool):UInt8:=if b then 1 else 0
def si (b:Bool) (n m:List UInt32):List UInt8:=[GP b]++kY n++kY m
theorem zz:(Tryz.prog.info? 4).map (·.size)=some 1:=by kernel_rfl
theorem fZ:(Tryz.prog.info? 53).map (·.size)=some 1:=by kernel_rfl
theorem cP:(Tryz.prog.info? 55).map (·.size)=some 3:=by kernel_rfl
section
variable {w:World} {l:List UInt8} {ns:List UInt32} {v nv:Value}
theorem sj {b:Bool} {n m:List UInt32} {rv:Value} (hv:cm l v w) (hr:dc b n m rv w) (hl:l.length+4*n.length+4*m.length≤8796093022208):
 Calls Tryz.prog 125 #[v,rv] w (bF fun r w'=>aM w w'∧cD w.heap.size (l++si b n m) r w'):=by
 obtain⟨x,y,rfl,hx,hy⟩:=hr
 have hn:=Ef n (by have:=hx.len;omega)
 refine enter (vs:=[v,.agg #[B b,x,y]]) Tryz.func125 Jg Jg Jg ?_
 refine af (aa (cY Jg Jg ov ?_))
 have e1:aM w (w.alloc (.cells (Value.agg #[B b,x,y]).cells 55)):=aM.new w _
 have hbx:=heap_alloc_new w (.cells (Value.agg #[B b,x,y]).cells 55)
 revert e1 hbx
 generalize w.alloc (.cells (Value.agg #[B b,x,y]).cells 55)=w1
 intro e1 hbx
 have cell:∀(i:Nat) (u:Value),(#[B b,x,y]:Array Value)[i]? =some u→∀w',aM w1 w'→w'.cell? ⟨w.heap.size,i,none⟩=some u:=fun i u hu w' hw'=>iP (hw'.at hbx) hu
 refine ab Jg Jg (ag (ac (af (aa (ab Jg Jg (ag (ac ?_)))))))
 refine af (eV (fun _:Unit=>[(0,v),(3,.pointer (some ⟨w.heap.size,0,none⟩)),(5,U8 (GP b))]) (fun _ w'=>w'=w1) ?_ ?_)
 ·refine af (aa ?_)
  refine ah Jg Jg (cz IQ Jg zz (by omega)) ?_
  refine am Jg Jg (ak IU Jg (cell 0 _ Jg _ (aM.refl _))) ?_
  refine ag (ac ?_)
  cases b with
  |true=>exact bB rfl (aa (ab rfl rfl (ag (cv () ⟨rfl,rfl,rfl,trivial⟩ rfl))))
  |false=>exact cq rfl (aq (cv () ⟨rfl,rfl,rfl,trivial⟩ rfl))
 rintro _ w2 rfl
 refine ac (af ?_)
 refine Hm (aM w2) 12 Jg (by kernel_rfl) ?_
 have hd:aM w2 w2.drew:=(aM.refl w2).drew
 refine py 0 Jg Jg (by kernel_rfl) Jg hd ?_
 refine py 2 Jg Jg (by kernel_rfl) Jg hd ?_
 refine qk 5 Jg Jg (by kernel_rfl) Jg hd (fun w' _=>cz IQ Jg fZ (by omega)) ?_
 refine vD 6 Jg Jg (by kernel_rfl) Jg hd (fun w' hw'=>ak IJ Jg (cell 1 _ Jg _ hw')) ?_
 refine qk 8 Jg Jg (by kernel_rfl) Jg hd (fun w' _=>cz IQ Jg fZ (by omega)) ?_
 refine vD 9 Jg Jg (by kernel_rfl) Jg hd (fun w' hw'=>ak IJ Jg (cell 2 _ Jg _ hw')) ?_
 refine Eh (fun p:Value×Value=>[(9,p.1),(11,p.2),(14,x),(17,y)]) (fun p w'=>aM w2 w'∧cD w2.heap.size l p.1 w'∧cm [GP b] p.2 w') #[true,true,true,true,false,true,true,false,true,true,false,false] 4 ?_ (fun join=>Eg 1 3 (by kernel_rfl) Jg Jg ?_ ?_)
 ·rintro⟨r9,r11⟩ w3 ⟨hx3,ho9,ho11⟩
  dsimp only at ho9 ho11
  refine jx 4 (by kernel_rfl) Jg ?_
  obtain⟨r4,w4,hr4,ho4,hg4⟩:=di (ty:=28) ho9 ho11 (by simp only[List.length_cons,List.length_nil];omega) hx3.size
  have hx4:=hx3.of_grew hg4 ho9.ge
  refine be Jg Jg hr4 (eI hx4 ?_)
  refine jx 7 (by kernel_rfl) Jg ?_
  refine an xK Jg Jg (xL hx4 ho4 (hx.ext e1) (by simp only[List.length_append,List.length_cons,List.length_nil];omega)) ?_
  rintro r5 w5 ⟨ho5,hx5,_⟩
  refine eI hx5 (jx 10 (by kernel_rfl) Jg ?_)
  refine an xK Jg Jg (xL hx5 ho5 (hy.ext e1) (by simp only[List.length_append,List.length_cons,List.length_nil];omega)) ?_
  rintro r6 w6 ⟨ho6,hx6,_⟩
  refine eI hx6 (jx 11 (by kernel_rfl) Jg ?_)
  refine ab Jg Jg (eI hx6 (vE (by kernel_rfl) (ac (au ?_))))
  refine aF Jg Jg ?_
  refine⟨_,rfl,e1.trans hx6,?_⟩
  have:=ho6.low e1.size
  simpa only[si,List.append_assoc] using this
 ·refine an jv Jg Jg (jw ((hv.ext e1).ext hd) (by omega)) ?_
  rintro r9 w3 ⟨hx3,ho9⟩
  obtain⟨r11,w4,hr11,hx4,ho11,_⟩:=fq (w:=w3) w3.heap.size [GP b] (by simp) (Nat.le_refl _)
  refine eI (hd.trans hx3) (jx 3 (by kernel_rfl) Jg ?_)
  refine aN (vs:=[(0,U8 (GP b))]) Jg Jg hr11 (eI ((hd.trans hx3).trans hx4) (Ie (by kernel_rfl) (join _ _ ⟨(r9,r11),⟨rfl,rfl,rfl,rfl,trivial⟩,(hd.trans hx3).trans hx4,?_,ho11.bts⟩)))
  exact(ho9.ext hx4).low hd.size
 ·obtain⟨r11,w3,hr11,hx3,ho11,_⟩:=fq (w:=w2.drew) w2.heap.size [GP b] (by simp) hd.size
  refine aN (vs:=[(0,U8 (GP b))]) Jg Jg hr11 (eI (hd.trans hx3) (jx 1 (by kernel_rfl) Jg ?_))
  refine an jv Jg Jg (jw (((hv.ext e1).ext hd).ext hx3) (by omega)) ?_
  rintro r9 w4 ⟨hx4,ho9⟩
  refine eI ((hd.trans hx3).trans hx4) (Ie (by kernel_rfl) (join _ _ ⟨(r9,r11),⟨rfl,rfl,rfl,rfl,trivial⟩,(hd.trans hx3).trans hx4,?_,ho11.bts.ext hx4⟩))
  exact ho9.low (hd.trans hx3).size
end
end Go.Rl
namespace Go.Rl
open Go.RowKit Go.Proofs
section
variable {P:Program} {w w':World}
theorem aE {s:TypeId} {fs:Array Field} {f:Field} {n g o:Nat} (hs:P.underlying s=some (.struct fs)) (hf:fs[n]? =some f) (hk:(P.cellsOf f.type==0)=false) (ho:f.offset=o):
 (Instr.fieldAt s (.pointer (some ⟨g,0,none⟩)) n).run P w=.ok (.pointer (some ⟨g,o,none⟩)) w:=by
 have hk':P.cellsOf f.type≠0:=by simpa using hk
 obtain⟨k,hk1⟩:∃k,(P.info? f.type).map (·.size)=some k:=by
  cases hi:(P.info? f.type).map (·.size) with
  |none=>exact absurd (by simp[Program.cellsOf,hi]) hk'
  |some k=>exact⟨k,rfl⟩
 have hk0:k≠0:=by
  intro h
  apply hk'
  simp[Program.cellsOf,hk1,h]
 rw[cz hs hf hk1 hk0,ho,ph,Nat.zero_add]
end
section
variable {w w':World}
theorem dc.stable (b:Bool) (n m:List UInt32):bu (dc b n m):=fun _ _ _ h hx=>h.ext hx
theorem dc.mk {b:Bool} {n m:List UInt32} {x y:Value} (hx:bt n x w) (hy:bt m y w):dc b n m (.agg #[B b,x,y]) w:=⟨x,y,rfl,hx,hy⟩
theorem cd.ldR {g:Nat} {T:TypeId} {a b c:Value} (h:cd g T [a,b,c] w):(Instr.loadAt 55 (.pointer (some ⟨g,0,none⟩))).run Tryz.prog w=.ok (.agg #[a,b,c]) w:=
 lJ h (fun j v hj=>by simpa using hj) Tryz.underlying55 rfl cP
theorem nw {b:Bool} {n m:List UInt32} {v:Value} (h:dc b n m v w):
 ∃g x y w',(Instr.box 55 v).run Tryz.prog w=.ok (.pointer (some ⟨g,0,none⟩)) w'∧aM w w'∧cd g 55 [B b,x,y] w'∧bt n x w'∧bt m y w':=by
 obtain⟨x,y,rfl,hx,hy⟩:=h
 exact⟨_,x,y,_,ov,aM.new w _,cd.new (T:=55) (.agg #[B b,x,y]) rfl,hx.ext (aM.new w _),hy.ext (aM.new w _)⟩
theorem Ei:(Tryz.prog.info? 55).map (·.zero)=some (some (.agg #[B false,.slice none 0 0,.slice none 0 0])):=by kernel_rfl
theorem fH:∃g w',(Instr.alloc 55 true (.tuple #[])).run Tryz.prog w=.ok (.pointer (some ⟨g,0,none⟩)) w'∧w.heap.size≤g∧aM w w'∧cd g 55 [B false,.slice none 0 0,.slice none 0 0] w':=
 bf Ei rfl
theorem sk (b:Bool) (A C:Option Addr) (n c m d:Nat) (l:List UInt32):∀(j:Nat) (u:Value),u∈l.map bw→(#[.bool b,.slice A n c,.slice C m d]:Array Value)[j]? ≠some u:=by
 intro j u hu
 obtain⟨x,_,rfl⟩:=List.mem_map.1 hu
 match j with
 |0=>simp[bw]
 |1=>simp[bw]
 |2=>simp[bw]
 |j+3=>simp
theorem bt.byR {l:List UInt32} {v:Value} {g:Nat} {T:TypeId} {b:Bool} {x y:Value} (h:bt l v w) (hb:cd g T [B b,x,y] w) (hx:∃A n c,x=.slice A n c) (hy:∃A n c,y=.slice A n c) (hw:w.grownBy w' (some g)):bt l v w':=by
 obtain⟨A,n,c,rfl⟩:=hx
 obtain⟨C,m,d,rfl⟩:=hy
 exact Sl.keep h hb (sk b A C n c m d l) hw
theorem bt.isS {l:List UInt32} {v:Value} (h:bt l v w):∃A n c,v=.slice A n c:=by
 obtain⟨A,n,c,rfl,_⟩:=h
 exact⟨A,n,c,rfl⟩
theorem cd.stR {g:Nat} {b c:Bool} {x y v:Value} {n m:List UInt32} (h:cd g 55 [B b,x,y] w) (hx:∃A n c,x=.slice A n c) (hy:∃A n c,y=.slice A n c) (hv:dc c n m v w):
 ∃p q w',v=.agg #[B c,p,q]∧(Instr.storeAt 55 (.pointer (some ⟨g,0,none⟩)) v).run Tryz.prog w=.ok () w'∧w.grownBy w' (some g)∧cd g 55 [B c,p,q] w'∧bt n p w'∧bt m q w':=by
 obtain⟨p,q,rfl,hp,hq⟩:=hv
 obtain⟨A,n1,c1,rfl⟩:=hp.isS
 obtain⟨C,n2,c2,rfl⟩:=hq.isS
 refine⟨_,_,_,rfl,gW (m:=[B c,.slice A n1 c1,.slice C n2 c2]) h Jg cP ?_,bo w g _,h.row _,hp.byR h hx hy (bo w g _),hq.byR h hx hy (bo w g _)⟩
 intro u hu
 simp only[List.mem_cons,List.not_mem_nil,or_false] at hu
 rcases hu with rfl|rfl|rfl<;>rfl
theorem vF {P:Program} {x y:Operand} {t:TypeId} (ht:P.underlying t=some .bool) {a b:Bool}:(bin .eql t x y (B a) (B b)).run P w=.ok (B (decide (a=b))) w:=by
 have h:(Op.equal t (B a) (B b)).run P w=.ok (decide (a=b)) w:=by
  show(Op.equalIn (9999+1) t (.bool a) (.bool b)).run P w=_
  unfold Op.equalIn
  cases a<;>cases b<;>simp[run_underlying ht]
 show(do pure (Value.bool (←Op.equal t (B a) (B b))):Sem Value).run P w=_
 rw[Sem.run_bind,h];rfl
theorem j9 {c:Bool} {p q:Value} (hp:∃A n c,p=.slice A n c) (hq:∃A n c,q=.slice A n c):(Instr.build 55 #[(0,B c),(1,p),(2,q)]).run Tryz.prog w=.ok (.agg #[B c,p,q]) w:=by
 obtain⟨A,n,d,rfl⟩:=hp
 obtain⟨C,m,e,rfl⟩:=hq
 exact run_build _ _ _ #[B c,.slice A n d,.slice C m e] (by kernel_rfl)
theorem Ct {c:Bool} {p:Value} (hp:∃A n c,p=.slice A n c):(Instr.build 55 #[(0,B c),(1,p)]).run Tryz.prog w=.ok (.agg #[B c,p,.slice none 0 0]) w:=by
 obtain⟨A,n,d,rfl⟩:=hp
 exact run_build _ _ _ #[B c,.slice A n d,.slice none 0 0] (by kernel_rfl)
theorem d9:(Instr.build 55 #[]).run Tryz.prog w=.ok (.agg #[B false,.slice none 0 0,.slice none 0 0]) w:=
 run_build _ _ _ #[B false,.slice none 0 0,.slice none 0 0] (by kernel_rfl)
end
theorem gN:∀{l m:List UInt32},l.length=m.length→val l=val m→l=m
 |[],[],_,_=>rfl
 |[],_::_,h,_=>by simp at h
 |_::_,[],h,_=>by simp at h
 |x::l,y::m,h,hv=>by
  have hx:=cO x
  have hy:=cO y
  rw[val,val] at hv
  have h1:x.toNat=y.toNat:=by omega
  have h2:val l=val m:=by omega
  rw[jJ h1,gN (by simpa using h) h2]
def ud (m:List UInt32):List UInt32:=if val m=0 then[1] else m
theorem Ej:val [1]=1:=rfl
theorem vG:lb 1=[1]:=rfl
theorem zA (m:List UInt32):val (ud m)=if val m=0 then 1 else val m:=by unfold ud;split<;>simp_all [Ej]
theorem Ek (m:List UInt32):0<val (ud m):=by rw[zA];split<;>omega
def xN (s:Bool) (n:Nat):Bool:=s&&decide (0<n)
def vH (n d:Nat):List UInt32:=if d/Nat.gcd n d=1 then[] else lb (d/Nat.gcd n d)
def rv (s:Bool) (n m:List UInt32):Bool:=decide (s=xN s (val n)∧n=lb (val n/Nat.gcd (val n) (val (ud m)))∧m=vH (val n) (val (ud m)))
theorem Bd {n d:Nat} (h:0<d):0<Nat.gcd n d:=Nat.gcd_pos_of_pos_right n h
theorem El {x:Nat}:lb x=[1]↔x=1:=⟨fun h=>DR (h.trans vG.symm),fun h=>by rw[h,vG]⟩
theorem F6 {d:Nat} (h:0<d):vH 0 d=[]:=by unfold vH;rw[Nat.gcd_zero_left,Nat.div_self h,if_pos rfl]
theorem Em {n:Nat}:vH n 1=[]:=by unfold vH;rw[Nat.gcd_one_right];rfl
end Go.Rl
namespace Go.Rl
open Go.RowKit Go.Proofs
theorem Cu:az Tryz.prog 192:=⟨_,Tryz.func192,by kernel_rfl,rfl⟩
theorem ny:az Tryz.prog 188:=⟨_,Tryz.func188,by kernel_rfl,rfl⟩
theorem xO:az Tryz.prog 172:=⟨_,Tryz.func172,by kernel_rfl,rfl⟩
theorem zB:az Tryz.prog 171:=⟨_,Tryz.func171,by kernel_rfl,rfl⟩
theorem xP:az Tryz.prog 140:=⟨_,Tryz.func140,by kernel_rfl,rfl⟩
theorem ql:az Tryz.prog 96:=⟨_,Tryz.func96,by kernel_rfl,rfl⟩
theorem Cv {w:World}:
 Calls Tryz.prog 192 #[] w (bF fun r w'=>aM w w'∧bt [1] r w'):=by
 refine enter (vs:=[]) Tryz.func192 Jg Jg Jg ?_
 refine af (aa (ab Jg Jg (ag (ac (af (aa ?_))))))
 obtain⟨v1,w1,hr1,x1,o1,ob1⟩:=gV Tryz.underlying53 (w:=w) w.heap.size [1] (by simp) (Nat.le_refl _)
 refine aN (vs:=[(0,bw (1))]) Jg Jg hr1 (ab Jg Jg (ag (ac (au (aF Jg Jg ?_)))))
 exact⟨_,rfl,x1,o1.wds⟩
theorem nz {w:World} {x:Nat} {v:Value} (hv:bt (lb x) v w):
 Calls Tryz.prog 188 #[v] w (bF fun r w'=>w=w'∧r=B (decide (x=1))):=by
 refine enter (vs:=[v]) Tryz.func188 Jg Jg Jg ?_
 obtain⟨t,ht⟩:∃t,t=lb x:=⟨_,rfl⟩
 rw[←ht] at hv
 have h1:x=1↔t=[1]:=by rw[ht];exact El.symm
 refine af (aa (ab Jg Jg (ag (ac (af (aa (ae Jg Jg (aP Jg Jg (bp IJ hv) (ai Jg Jg Jg (aV) ?_)))))))))
 refine ae Jg Jg ?_
 refine cJ (fun h6=>?_) (fun h6=>?_)
 ·refine al Jg (ae Jg Jg (al Jg ?_))
  obtain⟨a8,p8,q8⟩:=cL IJ hv (i:=0) (by omega) .i64
  refine aB Jg Jg Jg (p8 _) (al Jg (am Jg Jg (ak IK Jg q8) (al Jg (ai (v:=bw 1) Jg Jg Jg (j2) (aw Jg Jg Jg ?_)))))
  refine ab Jg Jg (ag (ac (au (aF Jg Jg ?_))))
  exact⟨_,rfl,rfl,by
   first
   |exact congrArg B (decide_eq_false fun h=>h6 (by rw[h1.1 h];rfl)).symm
   |exact congrArg B (decide_eq_decide.2 (by
     rw[h1]
     obtain⟨y,rfl⟩:=List.length_eq_one_iff.1 (show t.length=1 by omega)
     simp))⟩
 ·refine ao Jg Jg Jg (ao Jg Jg Jg (ao Jg Jg Jg (ao Jg Jg Jg (aC Jg Jg Jg (ab Jg Jg (ag (ac (au (aF Jg Jg ?_)))))))))
  exact⟨_,rfl,rfl,by
   first
   |exact congrArg B (decide_eq_false fun h=>h6 (by rw[h1.1 h];rfl)).symm
   |exact congrArg B (decide_eq_decide.2 (by
     rw[h1]
     obtain⟨y,rfl⟩:=List.length_eq_one_iff.1 (show t.length=1 by omega)
     simp))⟩
theorem xQ {w:World} {b:Bool} {n m:List UInt32} {v:Value} (hv:dc b n m v w) (hl:m.length≤1099511627776):
 Calls Tryz.prog 172 #[v] w (bF fun r w'=>aM w w'∧bt (ud m) r w'):=by
 refine enter (vs:=[v]) Tryz.func172 Jg Jg Jg ?_
 refine af (aa ?_)
 obtain⟨g1,y1,z1,w1,hr1,x1,k1,n1,d1⟩:=nw hv
 refine cY Jg Jg hr1 (ab Jg Jg (ag (ac (af (af (aa (ah Jg Jg (aE (o:=2) IQ Jg (by kernel_rfl) Jg) ?_)))))))
 refine am Jg Jg (ak IJ Jg (k1.cell (i:=2) Jg)) (an zq Jg Jg (zr d1 hl) ?_)
 rintro v5 _ ⟨rfl,rfl⟩
 refine ai Jg Jg Jg (aV) (ag (ac ?_))
 refine bi Jg (fun h6=>?_) (fun h6=>?_)
 ·have h0:val m=0:=by
   rcases Nat.eq_zero_or_pos (val m) with h|h
   ·exact h
   ·have:=rI h
    omega
  refine af (aa (an (vs:=[]) Cu Jg Jg (Cv) ?_))
  rintro v7 w7 ⟨x7,b7⟩
  refine ab Jg Jg (ag (ac (au (av (aF Jg Jg ?_)))))
  exact⟨_,rfl,(x1.trans x7),by unfold ud;rw[if_pos h0];exact b7⟩
 ·have h0:val m≠0:=fun h=>h6 (by rw[h];rfl)
  refine aq (ac (af (aa (ah Jg Jg (aE (o:=2) IQ Jg (by kernel_rfl) Jg) (am Jg Jg (ak IJ Jg (k1.cell (i:=2) Jg)) ?_)))))
  refine ab Jg Jg (ag (ac (au (aF Jg Jg ?_))))
  exact⟨_,rfl,x1,by unfold ud;rw[if_neg h0];exact d1⟩
theorem zC {w:World} {s:Bool} {n d:List UInt32} {x y:Value} (hn:bt n x w) (hd:bt d y w) (hnl:n.length≤274877906944) (hdl:d.length≤274877906944) (hd0:0<val d):
 Calls Tryz.prog 171 #[B s,x,y] w (bF fun r w'=>aM w w'∧dc (xN s (val n)) (lb (val n/Nat.gcd (val n) (val d))) (vH (val n) (val d)) r w'):=by
 refine enter (vs:=[B s,x,y]) Tryz.func171 Jg Jg Jg ?_
 have hnn:=gu (cr n)
 have hdd:=gu (cr d)
 have hg0:=Bd (n:=val n) hd0
 refine af (aa ?_)
 obtain⟨g6,w6,hr6,l6,x6,k6⟩:=fH (w:=w)
 refine bh Jg hr6 (ag (ac (af (aa (ae Jg Jg (an kQ Jg Jg (kR (hn.ext x6) (by omega)) ?_))))))
 rintro v9 w9 ⟨x9,b9⟩
 refine ab Jg Jg (ag (ac (af (af (aa (ae Jg Jg (aP (r:=I ((lb (val n)).length:Int)) Jg Jg (bp IJ b9) ?_)))))))
 refine ai Jg Jg Jg (aV) (ag (ac ?_))
 refine bi Jg (fun h12=>?_) (fun h12=>?_)
 ·have hn0:val n=0:=gb.1 (by omega)
  refine af (aa ?_)
  refine bm (vs:=[]) Jg Jg d9 ?_
  obtain⟨p,q,w3,hp,hs,q3,k3,n3,d3⟩:=(k6.ext (x9)).stR ⟨_,_,_,rfl⟩ ⟨_,_,_,rfl⟩ (dc.mk (b:=false) (bt.nil _) (bt.nil _))
  refine ar Jg Jg (hs) (ag (ac (au (av ?_))))
  refine ep Jg Jg k3 IQ Jg cP ?_
  exact⟨_,rfl,((x6.trans x9)).of_new q3 l6,p,q,by rw[hn0];unfold xN;simp,by rw[hn0,Nat.zero_div];exact n3,by rw[hn0,F6 hd0];exact d3⟩
 ·have hn0:0<val n:=by
   rcases Nat.eq_zero_or_pos (val n) with h|h
   ·rw[h] at h12;simp[fO] at h12
   ·exact h
  have hcN:xN s (val n)=s:=by unfold xN;rw[decide_eq_true hn0,Bool.and_true]
  rw[hcN]
  refine aq (ac (af (aa (ae Jg Jg (an kQ Jg Jg (kR (hd.ext (x6.trans x9)) (by omega)) ?_)))))
  rintro v15 w15 ⟨x15,b15⟩
  refine ab Jg Jg (ag (ac (af (af (aa (ae Jg Jg (an ny Jg Jg (nz b15) ?_)))))))
  rintro v17 _ ⟨rfl,rfl⟩
  refine ag (ac ?_)
  refine bi Jg (fun h17=>?_) (fun h17=>?_)
  ·refine af (aa (ae Jg Jg (ae Jg Jg ?_)))
   refine bm (vs:=[(0,B s),(1,v9)]) Jg Jg (Ct b9.isS) ?_
   obtain⟨p,q,w3,hp,hs,q3,k3,n3,d3⟩:=(k6.ext ((x9.trans x15))).stR ⟨_,_,_,rfl⟩ ⟨_,_,_,rfl⟩ (dc.mk (b:=s) (b9.ext (x15)) (bt.nil _))
   refine ar Jg Jg (hs) (ag (ac (au (av ?_))))
   refine ep Jg Jg k3 IQ Jg cP ?_
   exact⟨_,rfl,(((x6.trans x9).trans x15)).of_new q3 l6,p,q,rfl,by rw[h17,Nat.gcd_one_right,Nat.div_one];exact n3,by rw[h17,Em];exact d3⟩
  ·obtain⟨g,hg⟩:∃g,g=Nat.gcd (val n) (val d):=⟨_,rfl⟩
   rw[←hg] at hg0⊢
   have hgl:(lb g).length≤d.length:=Nat.le_trans (j8 (by rw[hg];exact Nat.gcd_le_right _ hd0)) hdd
   refine aq (ac (af ?_))
   refine eV (fun p:Value×Value=>[(0,B s),(1,p.1),(2,p.2),(6,.pointer (some ⟨g6,0,none⟩))]) (fun p w'=>aM w15 w'∧bt (lb (val n/g)) p.1 w'∧bt (lb (val d/g)) p.2 w') ?_ ?_
   ·refine af (aa (ae Jg Jg (ae Jg Jg (an Co Jg Jg ((by have:=Cq (b9.ext x15) b15 (by omega) (by omega);rw[bJ,bJ] at this;exact this)) ?_))))
    rintro v23 w23 ⟨x23,b23⟩
    rw[←hg] at b23
    refine ab Jg Jg (ag (ac (af (aa (ae Jg Jg (an ny Jg Jg (nz b23) ?_))))))
    rintro v25 _ ⟨rfl,rfl⟩
    refine ci Jg Jg FP (ag (ac ?_))
    refine bi Jg (fun h26=>?_) (fun h26=>?_)
    ·refine af (aa (ae Jg Jg (ae Jg Jg (an iY Jg Jg ((by have:=iZ (b9.ext (x15.trans x23)) b23 (by omega) (by omega) (by rw[bJ];exact hg0);rw[bJ,bJ] at this;exact this)) ?_))))
     rintro v30 w30 ⟨x30,q1,s1,rfl,c1,e1⟩
     refine ae Jg Jg (aj Jg Jg (eh) (aj Jg Jg ei (aj Jg Jg ej (ab Jg Jg (ag (ac (aa (ae Jg Jg (ae Jg Jg ?_)))))))))
     refine an iY Jg Jg ((by have:=iZ (b15.ext (x23.trans x30)) (b23.ext x30) (by omega) (by omega) (by rw[bJ];exact hg0);rw[bJ,bJ] at this;exact this)) ?_
     rintro v37 w37 ⟨x37,q2,s2,rfl,c2,e2⟩
     refine ae Jg Jg (aj Jg Jg (eh) (aj Jg Jg ei (aj Jg Jg ej (ab Jg Jg (ag ?_)))))
     exact cv (q1,q2) ⟨rfl,rfl,rfl,rfl,trivial⟩ ⟨((x23.trans x30).trans x37),by first|exact(c1.ext x37)|(rw[show g=1 from Classical.byContradiction fun h=>h26 h,Nat.div_one];exact(c1.ext x37)),by first|exact c2|(rw[show g=1 from Classical.byContradiction fun h=>h26 h,Nat.div_one];exact c2)⟩
    ·refine aq ?_
     exact cv (v9,v15) ⟨rfl,rfl,rfl,rfl,trivial⟩ ⟨x23,by first|exact(b9.ext (x15.trans x23))|(rw[show g=1 from Classical.byContradiction fun h=>h26 h,Nat.div_one];exact(b9.ext (x15.trans x23))),by first|exact(b15.ext x23)|(rw[show g=1 from Classical.byContradiction fun h=>h26 h,Nat.div_one];exact(b15.ext x23))⟩
   rintro⟨v1,v2⟩ w8 ⟨x8,b1,b2⟩
   refine ac (af ?_)
   refine eV (fun p:Value=>[(0,B s),(1,v1),(2,p),(6,.pointer (some ⟨g6,0,none⟩))]) (fun p w'=>w8=w'∧bt (vH (val n) (val d)) p w') ?_ ?_
   ·refine af (aa (ae Jg Jg (an ny Jg Jg (nz b2) ?_)))
    rintro v42 _ ⟨rfl,rfl⟩
    refine ag (ac ?_)
    refine bi Jg (fun h42=>?_) (fun h42=>?_)
    ·refine aa (ab Jg Jg (ag ?_))
     exact cv (.slice none 0 0) ⟨rfl,rfl,rfl,rfl,trivial⟩ ⟨rfl,by unfold vH;rw[←hg];first|(rw[if_pos h42];exact bt.nil _)|(rw[if_neg h42];exact b2)⟩
    ·refine aq ?_
     exact cv (v2) ⟨rfl,rfl,rfl,rfl,trivial⟩ ⟨rfl,by unfold vH;rw[←hg];first|(rw[if_pos h42];exact bt.nil _)|(rw[if_neg h42];exact b2)⟩
   rintro v2' _ ⟨rfl,b2'⟩
   refine ac (af (aa (ae Jg Jg (ae Jg Jg (ae Jg Jg ?_)))))
   refine bm (vs:=[(0,B s),(1,v1),(2,v2')]) Jg Jg (j9 b1.isS b2'.isS) ?_
   obtain⟨p,q,w3,hp,hs,q3,k3,n3,d3⟩:=(k6.ext (((x9.trans x15).trans x8))).stR ⟨_,_,_,rfl⟩ ⟨_,_,_,rfl⟩ (dc.mk (b:=s) b1 b2')
   refine ar Jg Jg (hs) (ag (ac (au ?_)))
   refine ep Jg Jg k3 IQ Jg cP ?_
   exact⟨_,rfl,((((x6.trans x9).trans x15).trans x8)).of_new q3 l6,p,q,rfl,n3,d3⟩
theorem En {m:List UInt32} (h:m.length≤137438953472):(ud m).length≤137438953472:=by
 unfold ud
 split
 ·simp
 ·exact h
theorem xR {w:World} {b:Bool} {n m:List UInt32} {v:Value} (hv:dc b n m v w) (hnl:n.length≤137438953472) (hml:m.length≤137438953472):
 Calls Tryz.prog 140 #[v] w (bF fun r w'=>aM w w'∧dc (xN b (val n)) (lb (val n/Nat.gcd (val n) (val (ud m)))) (vH (val n) (val (ud m))) r w'):=by
 refine enter (vs:=[v]) Tryz.func140 Jg Jg Jg ?_
 refine af (aa ?_)
 obtain⟨g1,y1,z1,w1,hr1,x1,k1,n1,d1⟩:=nw hv
 refine cY Jg Jg hr1 ?_
 obtain⟨g2,w2,hr2,l2,x2,k2⟩:=fH (w:=w1)
 refine bh Jg hr2 (ag (ac (af (bA 7 [2,9] (by kernel_rfl) (by kernel_rfl) ?_))))
 refine aL Jg Jg (fun w hw=>aE (o:=0) IQ Jg (by kernel_rfl) Jg) (aD Jg Jg (fun w hw=>ak IU Jg (hw.cell_some (x2.cell_some (k1.cell (i:=0) Jg)))) ?_)
 refine aL Jg Jg (fun w hw=>aE (o:=1) IQ Jg (by kernel_rfl) Jg) (aD Jg Jg (fun w hw=>ak IJ Jg (hw.cell_some (x2.cell_some (k1.cell (i:=1) Jg)))) ?_)
 refine aD rfl rfl (fun w hw=>((k1.ext x2).ext hw).ldR) (cl (S:=bt (ud m)) xO (bt.stable _) rfl (fun w hw=>by rintro _ rfl;exact xQ (((dc.mk n1 d1).ext x2).ext hw) (by omega)) ?_)
 refine cl (S:=dc (xN b (val n)) (lb (val n/Nat.gcd (val n) (val (ud m)))) (vH (val n) (val (ud m)))) zB (dc.stable _ _ _) rfl (fun w hw=>by rintro _ rfl _ rfl z hz;exact zC ((n1.ext x2).ext hw) hz (by omega) (by have:=En hml;omega) (Ek m)) ?_
 refine bG ?_
 intro wg1 xg1
 rintro _ rfl
 intro vg9 b9
 obtain⟨p,q,w3,hp,hs,q3,k3,n3,d3⟩:=(k2.ext xg1).stR ⟨_,_,_,rfl⟩ ⟨_,_,_,rfl⟩ b9
 refine ar Jg Jg (hs) (ag (ac (au ?_)))
 refine ep Jg Jg k3 IQ Jg cP ?_
 exact⟨_,rfl,(((x1.trans x2).trans xg1)).of_new q3 (Nat.le_trans x1.size l2),p,q,rfl,n3,d3⟩
theorem cM {x y:Nat}:pq x y=0↔x=y:=by
 unfold pq
 split
 ·omega
 ·split<;>omega
theorem vI {b:Bool} {n:List UInt32}:rv b n []=decide (b=xN b (val n)∧n=lb (val n)):=by
 unfold rv
 rw[show val (ud [])=1 from rfl,Nat.gcd_one_right,Nat.div_one,Em]
 simp
theorem qm {w:World} {b:Bool} {n m:List UInt32} {v:Value} (hv:dc b n m v w) (hnl:n.length≤137438953472) (hml:m.length≤137438953472):
 Calls Tryz.prog 96 #[v] w (bF fun r w'=>aM w w'∧r=B (rv b n m)):=by
 refine enter (vs:=[v]) Tryz.func96 Jg Jg Jg ?_
 obtain⟨b',hb'⟩:∃b',b'=xN b (val n):=⟨_,rfl⟩
 obtain⟨n',hn'⟩:∃n',n'=lb (val n/Nat.gcd (val n) (val (ud m))):=⟨_,rfl⟩
 obtain⟨m',hm'⟩:∃m',m'=vH (val n) (val (ud m)):=⟨_,rfl⟩
 have hrv:rv b n m=decide (b=b'∧n=n'∧m=m'):=by rw[hb',hn',hm'];rfl
 refine af (aa ?_)
 obtain⟨g1,y1,z1,w1,hr1,x1,k1,n1,d1⟩:=nw hv
 refine cY Jg Jg hr1 (ab Jg Jg (ag (ac (af (af (aa (ah Jg Jg (aE (o:=2) IQ Jg (by kernel_rfl) Jg) ?_)))))))
 refine am Jg Jg (ak IJ Jg (k1.cell (i:=2) Jg)) (aP Jg Jg (bp IJ d1) (ai Jg Jg Jg (aV) ?_))
 refine ag (ac ?_)
 refine bi Jg (fun h7=>?_) (fun h7=>?_)
 ·have hm0:m=[]:=List.eq_nil_of_length_eq_zero (by omega)
  subst hm0
  refine af ?_
  cases b
  ·refine aa (ah Jg Jg (aE (o:=1) IQ Jg (by kernel_rfl) Jg) (am Jg Jg (ak IJ Jg (k1.cell (i:=1) Jg)) ?_))
   refine an p7 Jg Jg (p9 n1) ?_
   rintro v10 _ ⟨rfl,rfl⟩
   refine ae Jg Jg ?_
   refine cJ (fun h11=>?_) (fun h11=>?_)
   ·refine al Jg (ah Jg Jg (aE (o:=0) IQ Jg (by kernel_rfl) Jg) (al Jg (am Jg Jg (ak IU Jg (k1.cell (i:=0) Jg)) ?_)))
    refine al Jg (ci Jg Jg cj (al Jg (ae Jg Jg (ao Jg Jg Jg (ao Jg Jg Jg (ao Jg Jg Jg (ao Jg Jg Jg (al Jg (aw Jg Jg Jg (aw Jg Jg Jg ?_))))))))))
    refine ab Jg Jg (ag (ac (au (av (aF Jg Jg ?_)))))
    exact⟨_,rfl,x1,by
     rw[vI]
     first
     |exact congrArg B (decide_eq_true ⟨rfl,h11.symm⟩).symm
     |exact congrArg B (decide_eq_false fun h=>h11 h.2.symm).symm
     |(have e:=@gb (val n)
       rw[h11] at e
       refine congrArg B (decide_eq_decide.2 ⟨fun h=>⟨(decide_eq_true (show 0<val n by omega)).symm,h11.symm⟩,fun h=>?_⟩)
       have:0<val n:=of_decide_eq_true h.1.symm
       omega)⟩
   ·refine ao Jg Jg Jg (ao Jg Jg Jg (ao Jg Jg Jg (ao Jg Jg Jg (cN Jg Jg Jg (cN Jg Jg Jg (cN Jg Jg Jg (cN Jg Jg Jg (ao Jg Jg Jg ?_))))))))
    refine aC Jg Jg Jg (ab Jg Jg (ag (ac (au (av (aF Jg Jg ?_))))))
    exact⟨_,rfl,x1,by
     rw[vI]
     first
     |exact congrArg B (decide_eq_true ⟨rfl,h11.symm⟩).symm
     |exact congrArg B (decide_eq_false fun h=>h11 h.2.symm).symm
     |(have e:=@gb (val n)
       rw[h11] at e
       refine congrArg B (decide_eq_decide.2 ⟨fun h=>⟨(decide_eq_true (show 0<val n by omega)).symm,h11.symm⟩,fun h=>?_⟩)
       have:0<val n:=of_decide_eq_true h.1.symm
       omega)⟩
  ·refine aa (ah Jg Jg (aE (o:=1) IQ Jg (by kernel_rfl) Jg) (am Jg Jg (ak IJ Jg (k1.cell (i:=1) Jg)) ?_))
   refine an p7 Jg Jg (p9 n1) ?_
   rintro v10 _ ⟨rfl,rfl⟩
   refine ae Jg Jg ?_
   refine cJ (fun h11=>?_) (fun h11=>?_)
   ·refine al Jg (ah Jg Jg (aE (o:=0) IQ Jg (by kernel_rfl) Jg) (al Jg (am Jg Jg (ak IU Jg (k1.cell (i:=0) Jg)) ?_)))
    refine al Jg (ci Jg Jg cj (al Jg (ae Jg Jg (al Jg (ah Jg Jg (aE (o:=1) IQ Jg (by kernel_rfl) Jg) ?_)))))
    refine al Jg (am Jg Jg (ak IJ Jg (k1.cell (i:=1) Jg)) (al Jg (aP Jg Jg (bp IJ n1) ?_)))
    refine al Jg (ai Jg Jg Jg (ce) (al Jg (aC Jg Jg Jg (aw Jg Jg Jg (ab Jg Jg (ag (ac (au (av (aF Jg Jg ?_))))))))))
    exact⟨_,rfl,x1,by
     rw[vI]
     first
     |exact congrArg B (decide_eq_true ⟨rfl,h11.symm⟩).symm
     |exact congrArg B (decide_eq_false fun h=>h11 h.2.symm).symm
     |(have e:=@gb (val n)
       rw[h11] at e
       refine congrArg B (decide_eq_decide.2 ⟨fun h=>⟨(decide_eq_true (show 0<val n by omega)).symm,h11.symm⟩,fun h=>?_⟩)
       have:0<val n:=of_decide_eq_true h.1.symm
       omega)⟩
   ·refine ao Jg Jg Jg (ao Jg Jg Jg (ao Jg Jg Jg (ao Jg Jg Jg (cN Jg Jg Jg (cN Jg Jg Jg (cN Jg Jg Jg (cN Jg Jg Jg (ao Jg Jg Jg ?_))))))))
    refine aC Jg Jg Jg (ab Jg Jg (ag (ac (au (av (aF Jg Jg ?_))))))
    exact⟨_,rfl,x1,by
     rw[vI]
     first
     |exact congrArg B (decide_eq_true ⟨rfl,h11.symm⟩).symm
     |exact congrArg B (decide_eq_false fun h=>h11 h.2.symm).symm
     |(have e:=@gb (val n)
       rw[h11] at e
       refine congrArg B (decide_eq_decide.2 ⟨fun h=>⟨(decide_eq_true (show 0<val n by omega)).symm,h11.symm⟩,fun h=>?_⟩)
       have:0<val n:=of_decide_eq_true h.1.symm
       omega)⟩
 ·refine aq (ac (af (aa (am Jg Jg (k1.ldR) (an xP Jg Jg (xR (dc.mk n1 d1) hnl hml) ?_)))))
  rintro v23 w23 ⟨x23,b23⟩
  rw[←hb',←hn',←hm'] at b23
  obtain⟨g3,w3,hr3,l3,x3,k3⟩:=fH (w:=w23)
  refine bh Jg hr3 ?_
  obtain⟨p,q,w4,hp,hs,q4,k4,n3,d3⟩:=k3.stR ⟨_,_,_,rfl⟩ ⟨_,_,_,rfl⟩ (b23.ext x3)
  refine ar Jg Jg (hs) ?_
  have x4:=(x23.trans x3).of_new q4 (Nat.le_trans x23.size l3)
  refine ag (ac (af (aa (ah Jg Jg (aE (o:=0) IQ Jg (by kernel_rfl) Jg) (am Jg Jg (ak IU Jg (x4.cell_some (k1.cell (i:=0) Jg))) ?_)))))
  refine ah Jg Jg (aE (o:=0) IQ Jg (by kernel_rfl) Jg) (am Jg Jg (ak IU Jg (k4.cell (i:=0) Jg)) ?_)
  refine ai Jg Jg Jg (vF IU) (ae Jg Jg ?_)
  refine cJ (fun h29=>?_) (fun h29=>?_)
  ·refine al Jg (ah Jg Jg (aE (o:=1) IQ Jg (by kernel_rfl) Jg) (al Jg (am Jg Jg (ak IJ Jg (x4.cell_some (k1.cell (i:=1) Jg))) ?_)))
   refine al Jg (aP Jg Jg (bp IJ (n1.ext x4)) (al Jg (ah Jg Jg (aE (o:=1) IQ Jg (by kernel_rfl) Jg) ?_)))
   refine al Jg (am Jg Jg (ak IJ Jg (k4.cell (i:=1) Jg)) (al Jg (aP Jg Jg (bp IJ n3) ?_)))
   refine al Jg (ai Jg Jg Jg (aV) (aw Jg Jg Jg (ae Jg Jg ?_)))
   refine cJ (fun h38=>?_) (fun h38=>?_)
   ·refine al Jg (ah Jg Jg (aE (o:=2) IQ Jg (by kernel_rfl) Jg) (al Jg (am Jg Jg (ak IJ Jg (x4.cell_some (k1.cell (i:=2) Jg))) ?_)))
    refine al Jg (aP Jg Jg (bp IJ (d1.ext x4)) (al Jg (ah Jg Jg (aE (o:=2) IQ Jg (by kernel_rfl) Jg) ?_)))
    refine al Jg (am Jg Jg (ak IJ Jg (k4.cell (i:=2) Jg)) (al Jg (aP Jg Jg (bp IJ d3) ?_)))
    refine al Jg (ai Jg Jg Jg (aV) (aw Jg Jg Jg (ae Jg Jg ?_)))
    refine cJ (fun h47=>?_) (fun h47=>?_)
    ·refine al Jg (ah Jg Jg (aE (o:=1) IQ Jg (by kernel_rfl) Jg) (al Jg (am Jg Jg (ak IJ Jg (x4.cell_some (k1.cell (i:=1) Jg))) ?_)))
     refine al Jg (ah Jg Jg (aE (o:=1) IQ Jg (by kernel_rfl) Jg) (al Jg (am Jg Jg (ak IJ Jg (k4.cell (i:=1) Jg)) ?_)))
     refine al Jg (an pr Jg Jg (pu (n1.ext x4) n3) ?_)
     rintro v52 w52 ⟨x52,rfl⟩
     refine al Jg (ai Jg Jg Jg (aV) (aw Jg Jg Jg (ae Jg Jg ?_)))
     refine cJ (fun h55=>?_) (fun h55=>?_)
     ·refine al Jg (ah Jg Jg (aE (o:=2) IQ Jg (by kernel_rfl) Jg) (al Jg (am Jg Jg (ak IJ Jg ((x4.trans x52).cell_some (k1.cell (i:=2) Jg))) ?_)))
      refine al Jg (ah Jg Jg (aE (o:=2) IQ Jg (by kernel_rfl) Jg) (al Jg (am Jg Jg (ak IJ Jg (x52.cell_some (k4.cell (i:=2) Jg))) ?_)))
      refine al Jg (an pr Jg Jg (pu (d1.ext (x4.trans x52)) (d3.ext x52)) ?_)
      rintro v60 w60 ⟨x60,rfl⟩
      refine al Jg (ai Jg Jg Jg (aV) (aw Jg Jg Jg (ab Jg Jg (ag (ac (au (aF Jg Jg ?_)))))))
      exact⟨_,rfl,(((x1.trans x4).trans x52).trans x60),by
       rw[hrv]
       first
       |exact congrArg B (decide_eq_decide.2 ⟨fun h=>⟨h29,gN (by omega) (cM.1 h55),gN (by omega) (cM.1 h)⟩,fun h=>cM.2 (by rw[h.2.2])⟩)
       |exact congrArg B (decide_eq_false fun h=>h55 (cM.2 (by rw[h.2.1]))).symm
       |exact congrArg B (decide_eq_false fun h=>h47 (by rw[h.2.2])).symm
       |exact congrArg B (decide_eq_false fun h=>h38 (by rw[h.2.1])).symm
       |exact congrArg B (decide_eq_false fun h=>h29 h.1).symm⟩
     ·refine ao Jg Jg Jg (ao Jg Jg Jg (ao Jg Jg Jg (ao Jg Jg Jg (ao Jg Jg Jg (ao Jg Jg Jg (aC Jg Jg Jg (ab Jg Jg (ag (ac (au (aF Jg Jg ?_)))))))))))
      exact⟨_,rfl,((x1.trans x4).trans x52),by
       rw[hrv]
       first
       |exact congrArg B (decide_eq_decide.2 ⟨fun h=>⟨h29,gN (by omega) (cM.1 h55),gN (by omega) (cM.1 h)⟩,fun h=>cM.2 (by rw[h.2.2])⟩)
       |exact congrArg B (decide_eq_false fun h=>h55 (cM.2 (by rw[h.2.1]))).symm
       |exact congrArg B (decide_eq_false fun h=>h47 (by rw[h.2.2])).symm
       |exact congrArg B (decide_eq_false fun h=>h38 (by rw[h.2.1])).symm
       |exact congrArg B (decide_eq_false fun h=>h29 h.1).symm⟩
    ·refine ao Jg Jg Jg (ao Jg Jg Jg (ao Jg Jg Jg (ao Jg Jg Jg (ao Jg Jg Jg (ao Jg Jg Jg (aC Jg Jg Jg (ae Jg Jg (ao Jg Jg Jg (ao Jg Jg Jg ?_)))))))))
     refine ao Jg Jg Jg (ao Jg Jg Jg (ao Jg Jg Jg (ao Jg Jg Jg (aC Jg Jg Jg (ab Jg Jg (ag (ac (au (aF Jg Jg ?_)))))))))
     exact⟨_,rfl,(x1.trans x4),by
      rw[hrv]
      first
      |exact congrArg B (decide_eq_decide.2 ⟨fun h=>⟨h29,gN (by omega) (cM.1 h55),gN (by omega) (cM.1 h)⟩,fun h=>cM.2 (by rw[h.2.2])⟩)
      |exact congrArg B (decide_eq_false fun h=>h55 (cM.2 (by rw[h.2.1]))).symm
      |exact congrArg B (decide_eq_false fun h=>h47 (by rw[h.2.2])).symm
      |exact congrArg B (decide_eq_false fun h=>h38 (by rw[h.2.1])).symm
      |exact congrArg B (decide_eq_false fun h=>h29 h.1).symm⟩
   ·refine ao Jg Jg Jg (ao Jg Jg Jg (ao Jg Jg Jg (ao Jg Jg Jg (ao Jg Jg Jg (ao Jg Jg Jg (ao Jg Jg Jg (aC Jg Jg Jg (ae Jg Jg (ao Jg Jg Jg ?_)))))))))
    refine ao Jg Jg Jg (ao Jg Jg Jg (ao Jg Jg Jg (ao Jg Jg Jg (ao Jg Jg Jg (aC Jg Jg Jg (ae Jg Jg (ao Jg Jg Jg (ao Jg Jg Jg (ao Jg Jg Jg ?_)))))))))
    refine ao Jg Jg Jg (ao Jg Jg Jg (ao Jg Jg Jg (aC Jg Jg Jg (ab Jg Jg (ag (ac (au (aF Jg Jg ?_))))))))
    exact⟨_,rfl,(x1.trans x4),by
     rw[hrv]
     first
     |exact congrArg B (decide_eq_decide.2 ⟨fun h=>⟨h29,gN (by omega) (cM.1 h55),gN (by omega) (cM.1 h)⟩,fun h=>cM.2 (by rw[h.2.2])⟩)
     |exact congrArg B (decide_eq_false fun h=>h55 (cM.2 (by rw[h.2.1]))).symm
     |exact congrArg B (decide_eq_false fun h=>h47 (by rw[h.2.2])).symm
     |exact congrArg B (decide_eq_false fun h=>h38 (by rw[h.2.1])).symm
     |exact congrArg B (decide_eq_false fun h=>h29 h.1).symm⟩
  ·refine ao Jg Jg Jg (ao Jg Jg Jg (ao Jg Jg Jg (ao Jg Jg Jg (ao Jg Jg Jg (ao Jg Jg Jg (ao Jg Jg Jg (aC Jg Jg Jg (ae Jg Jg (ao Jg Jg Jg ?_)))))))))
   refine ao Jg Jg Jg (ao Jg Jg Jg (ao Jg Jg Jg (ao Jg Jg Jg (ao Jg Jg Jg (ao Jg Jg Jg (aC Jg Jg Jg (ae Jg Jg (ao Jg Jg Jg (ao Jg Jg Jg ?_)))))))))
   refine ao Jg Jg Jg (ao Jg Jg Jg (ao Jg Jg Jg (ao Jg Jg Jg (aC Jg Jg Jg (ae Jg Jg (ao Jg Jg Jg (ao Jg Jg Jg (ao Jg Jg Jg (ao Jg Jg Jg ?_)))))))))
   refine ao Jg Jg Jg (ao Jg Jg Jg (aC Jg Jg Jg (ab Jg Jg (ag (ac (au (aF Jg Jg ?_)))))))
   exact⟨_,rfl,(x1.trans x4),by
    rw[hrv]
    first
    |exact congrArg B (decide_eq_decide.2 ⟨fun h=>⟨h29,gN (by omega) (cM.1 h55),gN (by omega) (cM.1 h)⟩,fun h=>cM.2 (by rw[h.2.2])⟩)
    |exact congrArg B (decide_eq_false fun h=>h55 (cM.2 (by rw[h.2.1]))).symm
    |exact congrArg B (decide_eq_false fun h=>h47 (by rw[h.2.2])).symm
    |exact congrArg B (decide_eq_false fun h=>h38 (by rw[h.2.1])).symm
    |exact congrArg B (decide_eq_false fun h=>h29 h.1).symm⟩
end Go.Rl
namespace Go.Rl
open Go.RowKit Go.Proofs
theorem Cw:az Tryz.prog 169:=⟨_,Tryz.func169,by kernel_rfl,rfl⟩
theorem zD:az Tryz.prog 168:=⟨_,Tryz.func168,by kernel_rfl,rfl⟩
theorem xS:az Tryz.prog 135:=⟨_,Tryz.func135,by kernel_rfl,rfl⟩
theorem la:az Tryz.prog 134:=⟨_,Tryz.func134,by kernel_rfl,rfl⟩
theorem qo:az Tryz.prog 90:=⟨_,Tryz.func90,by kernel_rfl,rfl⟩
theorem Cx {w:World} {m:List UInt32} {v:Value} (hv:bt m v w) (hl:m.length≤137438953472):
 Calls Tryz.prog 169 #[v] w (bF fun r w'=>aM w w'∧bt (lb (val (ud m))) r w'):=by
 refine enter (vs:=[v]) Tryz.func169 Jg Jg Jg ?_
 obtain⟨t,ht⟩:∃t,t=lb (val m):=⟨_,rfl⟩
 refine af (aa (ab Jg Jg (ag (ac (af (aa (ae Jg Jg (an eF Jg Jg (fk hv (by omega)) ?_))))))))
 rintro v5 w5 ⟨x5,b5⟩
 rw[←ht] at b5
 refine ab Jg Jg (ag (ac (af (af (aa (ae Jg Jg (aP Jg Jg (bp IJ b5) (ai Jg Jg Jg (aV) (ag ?_)))))))))
 refine ac ?_
 refine bi Jg (fun h8=>?_) (fun h8=>?_)
 ·have h0:val m=0:=gb.1 (by rw[←ht];omega)
  refine af (aa ?_)
  obtain⟨v9,w9,hr9,x9,o9,ob9⟩:=gV Tryz.underlying53 (w:=w5) w5.heap.size [1] (by simp) (Nat.le_refl _)
  refine aN (vs:=[(0,bw (1))]) Jg Jg hr9 (ab Jg Jg (ag (ac (au (av (aF Jg Jg ?_))))))
  exact⟨_,rfl,(x5.trans x9),by rw[zA,if_pos h0,vG];exact o9.wds⟩
 ·have h0:val m≠0:=fun h=>h8 (by rw[ht,h];rfl)
  refine aq (ac (af (aa (ae Jg Jg (ab Jg Jg (ag (ac (au (aF Jg Jg ?_)))))))))
  exact⟨_,rfl,x5,by rw[zA,if_neg h0,←ht];exact b5⟩
theorem zE {w:World} {s:Bool} {n d:List UInt32} {x y:Value} (hn:bt n x w) (hd:bt d y w) (hnl:n.length≤274877906944) (hdl:d.length≤274877906944) (hd0:0<val d):
 Calls Tryz.prog 168 #[B s,x,y] w (bF fun r w'=>aM w w'∧dc (xN s (val n)) (lb (val n/Nat.gcd (val n) (val d))) (vH (val n) (val d)) r w'):=by
 refine enter (vs:=[B s,x,y]) Tryz.func168 Jg Jg Jg ?_
 have hg0:=Bd (n:=val n) hd0
 obtain⟨g,hg⟩:∃g,g=Nat.gcd (val n) (val d):=⟨_,rfl⟩
 have hgl:(lb g).length≤d.length:=Nat.le_trans (j8 (by rw[hg];exact Nat.gcd_le_right _ hd0)) (gu (cr d))
 obtain⟨e,he⟩:∃e,e=lb (val d/g):=⟨_,rfl⟩
 obtain⟨a,ha⟩:∃a,a=lb (val n/g):=⟨_,rfl⟩
 have hc:decide ((a.length:Int)>0)=decide (0<val n):=by
  have e0:=@gb (val n/g)
  have e1:val n/g=0↔val n=0:=by
   rw[hg]
   constructor
   ·intro h
    have:=Nat.div_mul_cancel (Nat.gcd_dvd_left (val n) (val d))
    rw[h] at this;omega
   ·intro h
    rw[h,Nat.zero_div]
  rw[←ha] at e0
  exact decide_eq_decide.2 (by omega)
 have hq:vH (val n) (val d)=if e=[1] then[] else e:=by
  unfold vH
  rw[←hg]
  by_cases h1:val d/g=1
  ·rw[if_pos h1,if_pos (by rw[he,h1,vG])]
  ·rw[if_neg h1,if_neg (fun h=>h1 (El.1 (he▸h))),he]
 rw[←hg] at hg0⊢
 rw[←ha]
 refine af (aa ?_)
 obtain⟨g6,w6,hr6,l6,x6,k6⟩:=fH (w:=w)
 refine bh Jg hr6 (ag (ac (af (aa (ae Jg Jg (ae Jg Jg (an Cn Jg Jg (Cp (hn.ext x6) (hd.ext x6) hnl hdl) ?_)))))))
 rintro v16 w16 ⟨x16,b16⟩
 rw[←hg] at b16
 refine ab Jg Jg (ag (ac (af (aa (ae Jg Jg (ae Jg Jg (an kT Jg Jg ((by have:=kU (hn.ext (x6.trans x16)) b16 hnl (by omega) (by rw[bJ];exact hg0);rw[bJ,←ha] at this;exact this)) ?_)))))))
 rintro v20 w20 ⟨x20,q1,r1,rfl,s1,u1⟩
 refine ae Jg Jg (aj Jg Jg (eh) (aj Jg Jg ei (aj Jg Jg ej (ab Jg Jg (ab Jg Jg (ab Jg Jg (ag (ac ?_))))))))
 refine af (aa (ae Jg Jg (ae Jg Jg (an kT Jg Jg ((by have:=kU (hd.ext ((x6.trans x16).trans x20)) (b16.ext x20) hdl (by omega) (by rw[bJ];exact hg0);rw[bJ,←he] at this;exact this)) ?_))))
 rintro v27 w27 ⟨x27,q2,r2,rfl,s2,u2⟩
 refine ae Jg Jg (aj Jg Jg (eh) (aj Jg Jg ei (aj Jg Jg ej (ab Jg Jg (ab Jg Jg (ab Jg Jg (ag (ac ?_))))))))
 refine af ?_
 refine eV (fun p:Value=>[(0,B s),(8,q1),(11,p),(6,.pointer (some ⟨g6,0,none⟩))]) (fun p w'=>w27=w'∧bt (vH (val n) (val d)) p w') ?_ ?_
 ·refine af (aa (ae Jg Jg (aP Jg Jg (bp IJ s2) (ai Jg Jg Jg (aV) (ae Jg Jg ?_)))))
  refine cJ (fun h34=>?_) (fun h34=>?_)
  ·refine al Jg (ae Jg Jg (al Jg ?_))
   obtain⟨a36,p36,q36⟩:=cL IJ s2 (i:=0) (by omega) .i64
   refine aB Jg Jg Jg (p36 _) (al Jg (am Jg Jg (ak IK Jg q36) (al Jg (ai (v:=bw 1) Jg Jg Jg (j2) (aw Jg Jg Jg ?_)))))
   refine ag (ac ?_)
   refine bi Jg (fun h39=>?_) (fun h39=>?_)
   ·refine aa (ab Jg Jg (ag ?_))
    exact cv (.slice none 0 0) ⟨rfl,rfl,rfl,rfl,trivial⟩ ⟨rfl,by
     rw[hq]
     first
     |(rw[if_pos (by
        obtain⟨y,rfl⟩:=List.length_eq_one_iff.1 (show e.length=1 by omega)
        simpa using h39)];exact bt.nil _)
     |(rw[if_neg (fun h=>by subst h;exact h39 rfl)];exact s2)
     |(rw[if_neg (fun h=>by subst h;exact h34 rfl)];exact s2)⟩
   ·refine aq ?_
    exact cv (q2) ⟨rfl,rfl,rfl,rfl,trivial⟩ ⟨rfl,by
     rw[hq]
     first
     |(rw[if_pos (by
        obtain⟨y,rfl⟩:=List.length_eq_one_iff.1 (show e.length=1 by omega)
        simpa using h39)];exact bt.nil _)
     |(rw[if_neg (fun h=>by subst h;exact h39 rfl)];exact s2)
     |(rw[if_neg (fun h=>by subst h;exact h34 rfl)];exact s2)⟩
  ·refine ao Jg Jg Jg (ao Jg Jg Jg (ao Jg Jg Jg (ao Jg Jg Jg (aC Jg Jg Jg (ag (ac (cq Jg (aq ?_))))))))
   exact cv (q2) ⟨rfl,rfl,rfl,rfl,trivial⟩ ⟨rfl,by
    rw[hq]
    first
    |(rw[if_pos (by
       obtain⟨y,rfl⟩:=List.length_eq_one_iff.1 (show e.length=1 by omega)
       simpa using h39)];exact bt.nil _)
    |(rw[if_neg (fun h=>by subst h;exact h39 rfl)];exact s2)
    |(rw[if_neg (fun h=>by subst h;exact h34 rfl)];exact s2)⟩
 rintro v11 _ ⟨rfl,b11⟩
 refine ac (af ?_)
 cases s
 ·refine aa (ae Jg Jg (ae Jg Jg (ao Jg Jg Jg (ao Jg Jg Jg (ao Jg Jg Jg (aC Jg Jg Jg (ae Jg Jg (ae Jg Jg ?_))))))))
  refine bm (vs:=[(0,B (xN false (val n))),(1,q1),(2,v11)]) Jg Jg (j9 s1.isS b11.isS) ?_
  obtain⟨p,q,w3,hp,hs,q3,k3,n3,d3⟩:=(k6.ext (((x16.trans x20).trans x27))).stR ⟨_,_,_,rfl⟩ ⟨_,_,_,rfl⟩ (dc.mk (b:=xN false (val n)) (s1.ext x27) b11)
  refine ar Jg Jg (hs) (ag (ac (au ?_)))
  refine ep Jg Jg k3 IQ Jg cP ?_
  exact⟨_,rfl,((((x6.trans x16).trans x20).trans x27)).of_new q3 l6,p,q,rfl,n3,d3⟩
 ·refine aa (ae Jg Jg (ae Jg Jg (al Jg (ae Jg Jg (al Jg (aP Jg Jg (bp IJ (s1.ext x27)) (al Jg (ai Jg Jg Jg (ce) ?_))))))))
  rw[hc]
  refine aw Jg Jg Jg (ae Jg Jg (ae Jg Jg ?_))
  refine bm (vs:=[(0,B (xN true (val n))),(1,q1),(2,v11)]) Jg Jg (j9 s1.isS b11.isS) ?_
  obtain⟨p,q,w3,hp,hs,q3,k3,n3,d3⟩:=(k6.ext (((x16.trans x20).trans x27))).stR ⟨_,_,_,rfl⟩ ⟨_,_,_,rfl⟩ (dc.mk (b:=xN true (val n)) (s1.ext x27) b11)
  refine ar Jg Jg (hs) (ag (ac (au ?_)))
  refine ep Jg Jg k3 IQ Jg cP ?_
  exact⟨_,rfl,((((x6.trans x16).trans x20).trans x27)).of_new q3 l6,p,q,rfl,n3,d3⟩
theorem xT {w:World} {b:Bool} {n m:List UInt32} {v:Value} (hv:dc b n m v w) (hnl:n.length≤137438953472) (hml:m.length≤137438953472):
 Calls Tryz.prog 135 #[v] w (bF fun r w'=>aM w w'∧dc (xN b (val n)) (lb (val n/Nat.gcd (val n) (val (ud m)))) (vH (val n) (val (ud m))) r w'):=by
 refine enter (vs:=[v]) Tryz.func135 Jg Jg Jg ?_
 have hu:(lb (val (ud m))).length≤137438953472:=Nat.le_trans (gu (cr _)) (En hml)
 refine af (aa ?_)
 obtain⟨g1,y1,z1,w1,hr1,x1,k1,n1,d1⟩:=nw hv
 refine cY Jg Jg hr1 ?_
 obtain⟨g2,w2,hr2,l2,x2,k2⟩:=fH (w:=w1)
 refine bh Jg hr2 (ag (ac (af (bA 8 [2,10] (by kernel_rfl) (by kernel_rfl) ?_))))
 refine aL Jg Jg (fun w hw=>aE (o:=0) IQ Jg (by kernel_rfl) Jg) (aD Jg Jg (fun w hw=>ak IU Jg (hw.cell_some (x2.cell_some (k1.cell (i:=0) Jg)))) ?_)
 refine aL Jg Jg (fun w hw=>aE (o:=1) IQ Jg (by kernel_rfl) Jg) (aD Jg Jg (fun w hw=>ak IJ Jg (hw.cell_some (x2.cell_some (k1.cell (i:=1) Jg)))) ?_)
 refine aL Jg Jg (fun w hw=>aE (o:=2) IQ Jg (by kernel_rfl) Jg) (aD Jg Jg (fun w hw=>ak IJ Jg (hw.cell_some (x2.cell_some (k1.cell (i:=2) Jg)))) ?_)
 refine cl (S:=bt (lb (val (ud m)))) Cw (bt.stable _) rfl (fun w hw=>by rintro _ rfl;exact Cx ((d1.ext x2).ext hw) hml) (cl (S:=dc (xN b (val n)) (lb (val n/Nat.gcd (val n) (val (ud m)))) (vH (val n) (val (ud m)))) zD (dc.stable _ _ _) rfl (fun w hw=>by rintro _ rfl _ rfl z hz;have:=zE (s:=b) ((n1.ext x2).ext hw) hz (by omega) (by omega) (by rw[bJ];exact Ek m);rw[bJ] at this;exact this) ?_)
 refine bG ?_
 intro wg1 xg1
 rintro _ rfl
 intro vg10 b9
 obtain⟨p,q,w3,hp,hs,q3,k3,n3,d3⟩:=(k2.ext xg1).stR ⟨_,_,_,rfl⟩ ⟨_,_,_,rfl⟩ b9
 refine ar Jg Jg (hs) (ag (ac (au ?_)))
 refine ep Jg Jg k3 IQ Jg cP ?_
 exact⟨_,rfl,(((x1.trans x2).trans xg1)).of_new q3 (Nat.le_trans x1.size l2),p,q,rfl,n3,d3⟩
theorem sm {w:World} {a b:Bool} {n m p q:List UInt32} {v u:Value} (hv:dc a n m v w) (hu:dc b p q u w):
 Calls Tryz.prog 134 #[v,u] w (bF fun r w'=>aM w w'∧r=B (decide (a=b∧n=p∧m=q))):=by
 refine enter (vs:=[v,u]) Tryz.func134 Jg Jg Jg ?_
 refine af (aa ?_)
 obtain⟨g2,y2,z2,w2,hr2,x2,k2,n2,d2⟩:=nw hv
 refine cY Jg Jg hr2 ?_
 obtain⟨g3,y3,z3,w3,hr3,x3,k3,n3,d3⟩:=nw (hu.ext x2)
 refine cY Jg Jg hr3 (ab Jg Jg (ag (ac (af (aa (ah Jg Jg (aE (o:=0) IQ Jg (by kernel_rfl) Jg) ?_))))))
 refine am Jg Jg (ak IU Jg (x3.cell_some (k2.cell (i:=0) Jg))) (ah Jg Jg (aE (o:=0) IQ Jg (by kernel_rfl) Jg) ?_)
 refine am Jg Jg (ak IU Jg (k3.cell (i:=0) Jg)) (ai Jg Jg Jg (vF IU) (ae Jg Jg ?_))
 refine cJ (fun h10=>?_) (fun h10=>?_)
 ·refine al Jg (ah Jg Jg (aE (o:=1) IQ Jg (by kernel_rfl) Jg) (al Jg (am Jg Jg (ak IJ Jg (x3.cell_some (k2.cell (i:=1) Jg))) ?_)))
  refine al Jg (ah Jg Jg (aE (o:=1) IQ Jg (by kernel_rfl) Jg) (al Jg (am Jg Jg (ak IJ Jg (k3.cell (i:=1) Jg)) ?_)))
  refine al Jg (an rR Jg Jg (rS (n2.ext x3) n3) ?_)
  rintro v15 w15 ⟨x15,rfl⟩
  refine aw Jg Jg Jg (ae Jg Jg ?_)
  refine cJ (fun h17=>?_) (fun h17=>?_)
  ·refine al Jg (ah Jg Jg (aE (o:=2) IQ Jg (by kernel_rfl) Jg) (al Jg (am Jg Jg (ak IJ Jg ((x3.trans x15).cell_some (k2.cell (i:=2) Jg))) ?_)))
   refine al Jg (ah Jg Jg (aE (o:=2) IQ Jg (by kernel_rfl) Jg) (al Jg (am Jg Jg (ak IJ Jg (x15.cell_some (k3.cell (i:=2) Jg))) ?_)))
   refine al Jg (an rR Jg Jg (rS (d2.ext (x3.trans x15)) (d3.ext x15)) ?_)
   rintro v22 w22 ⟨x22,rfl⟩
   refine aw Jg Jg Jg (ab Jg Jg (ag (ac (au (aF Jg Jg ?_)))))
   exact⟨_,rfl,(((x2.trans x3).trans x15).trans x22),by
    first
    |exact congrArg B (decide_eq_decide.2 ⟨fun h=>⟨h10,h17,h⟩,fun h=>h.2.2⟩)
    |exact congrArg B (decide_eq_false fun h=>h17 h.2.1).symm
    |exact congrArg B (decide_eq_false fun h=>h10 h.1).symm⟩
  ·refine ao Jg Jg Jg (ao Jg Jg Jg (ao Jg Jg Jg (ao Jg Jg Jg (ao Jg Jg Jg (aC Jg Jg Jg (ab Jg Jg (ag (ac (au (aF Jg Jg ?_))))))))))
   exact⟨_,rfl,((x2.trans x3).trans x15),by
    first
    |exact congrArg B (decide_eq_decide.2 ⟨fun h=>⟨h10,h17,h⟩,fun h=>h.2.2⟩)
    |exact congrArg B (decide_eq_false fun h=>h17 h.2.1).symm
    |exact congrArg B (decide_eq_false fun h=>h10 h.1).symm⟩
 ·refine ao Jg Jg Jg (ao Jg Jg Jg (ao Jg Jg Jg (ao Jg Jg Jg (ao Jg Jg Jg (aC Jg Jg Jg (ae Jg Jg (ao Jg Jg Jg (ao Jg Jg Jg (ao Jg Jg Jg ?_)))))))))
  refine ao Jg Jg Jg (ao Jg Jg Jg (aC Jg Jg Jg (ab Jg Jg (ag (ac (au (aF Jg Jg ?_)))))))
  exact⟨_,rfl,(x2.trans x3),by
   first
   |exact congrArg B (decide_eq_decide.2 ⟨fun h=>⟨h10,h17,h⟩,fun h=>h.2.2⟩)
   |exact congrArg B (decide_eq_false fun h=>h17 h.2.1).symm
   |exact congrArg B (decide_eq_false fun h=>h10 h.1).symm⟩
theorem qp {w:World} {b:Bool} {n m:List UInt32} {v:Value} (hv:dc b n m v w) (hnl:n.length≤137438953472) (hml:m.length≤137438953472):
 Calls Tryz.prog 90 #[v] w (bF fun r w'=>aM w w'∧r=B (rv b n m)):=by
 refine enter (vs:=[v]) Tryz.func90 Jg Jg Jg ?_
 refine af (aa ?_)
 obtain⟨g1,y1,z1,w1,hr1,x1,k1,n1,d1⟩:=nw hv
 refine cY Jg Jg hr1 (ab Jg Jg (ag (ac (af (bA 4 [6] (by kernel_rfl) (by kernel_rfl) ?_)))))
 refine aD rfl rfl (fun w hw=>(k1.ext hw).ldR) (aD rfl rfl (fun w hw=>(k1.ext hw).ldR) (cl (S:=dc (xN b (val n)) (lb (val n/Nat.gcd (val n) (val (ud m)))) (vH (val n) (val (ud m)))) xS (dc.stable _ _ _) rfl (fun w hw=>by rintro _ rfl;exact xT ((dc.mk n1 d1).ext hw) hnl hml) ?_))
 refine cl (S:=Is (B (rv b n m))) la (bu.is _) rfl (fun w hw=>by rintro _ rfl z hz;exact sm ((dc.mk n1 d1).ext hw) hz) (bG ?_)
 intro wg1 xg1
 rintro _ rfl
 refine ab Jg Jg (ag (ac (au (aF Jg Jg ?_))))
 exact⟨_,rfl,(x1.trans xg1),rfl⟩
end Go.Rl
namespace Go.Rl
open Go.RowKit Go.Proofs Go.Lib
section
variable {w w0:World} {l m:List UInt8} {v x:Value}
def Cy (m:List UInt8):List UInt8:=uv m.length++m
end
end Go.Rl
namespace Go.Rl
open Go.RowKit Go.Proofs
theorem Cz:az Tryz.prog 113:=⟨_,Tryz.func113,by kernel_rfl,rfl⟩
theorem CA:az Tryz.prog 129:=⟨_,Tryz.func129,by kernel_rfl,rfl⟩
def wZ (l:List UInt8):Option (List UInt8×List UInt8):=(cZ l).bind fun p=>if p.1≤p.2.length then some (p.2.take p.1,p.2.drop p.1) else none
theorem xU {m:List UInt8} (h:m.length<18446744073709551616) (t:List UInt8):wZ (Cy m++t)=some (m,t):=by
 unfold wZ Cy
 rw[List.append_assoc,ju h]
 simp
section
variable {w:World} {g:Nat}
theorem xV {st:Option (List UInt8)} (hr:aZ g st w):Calls Tryz.prog 144 #[.pointer (some ⟨g,0,none⟩)] w (bF fun r w'=>w.grownBy w' (some g)∧match st.bind cZ with
 |some (n,t)=>r=.tuple #[bj (UInt64.ofNat n),B true]∧aZ g (some t) w'
 |none=>r=.tuple #[bj 0,B false]∧∃l',aZ g l' w'):=by
 cases st with
 |none=>exact(lK hr).mono fun e w' ⟨v,he,hv,hw⟩=>⟨v,he,by subst hw;exact⟨i0 _ _,hv,none,hr⟩⟩
 |some l=>
  refine(ni hr).mono fun e w' ⟨v,he,hg,hv⟩=>⟨v,he,hg,?_⟩
  show match cZ l with|some (n,t)=>_|none=>_
  cases hrd:cZ l with
  |none=>rw[hrd] at hv;exact⟨hv.1,hv.2.imp' some fun _ h=>h⟩
  |some p=>rw[hrd] at hv;exact hv
theorem CB {st:Option (List UInt8)} (hr:aZ g st w):
 Calls Tryz.prog 129 #[.pointer (some ⟨g,0,none⟩)] w (bF fun r w'=>r=I ((st.getD []).length:Nat)∧w'=w):=by
 obtain⟨A,n,c,h1,h2,_⟩:=hr
 refine enter (vs:=[.pointer (some ⟨g,0,none⟩)]) Tryz.func129 Jg Jg Jg ?_
 refine af (aa (ab Jg Jg (ag (ac (af (af (aa (ae Jg Jg ?_))))))))
 refine ai Jg Jg Jg (lP I1) ?_
 refine ag (ac ?_)
 refine cq Jg ?_
 refine aq (ac (af (aa (ae Jg Jg ?_))))
 refine aG Jg Jg ?_
 refine ah Jg Jg (cz I7 Jg cn (by omega)) ?_
 refine am Jg Jg (ak IP Jg (iP (i:=0) h1 Jg)) ?_
 refine aP Jg Jg (bz h2) ?_
 refine ab Jg Jg (ag (ac (au ?_)))
 refine aF Jg Jg ?_
 exact⟨_,rfl,rfl,rfl⟩
theorem CC {st:Option (List UInt8)} (hr:aZ g st w):
 Calls Tryz.prog 113 #[.pointer (some ⟨g,0,none⟩)] w (bF fun r w'=>r=I (if st=some [] then 0 else 5)∧w'=w):=by
 obtain⟨A,n,c,h1,h2,_⟩:=hr
 refine enter (vs:=[.pointer (some ⟨g,0,none⟩)]) Tryz.func113 Jg Jg Jg ?_
 refine af (aa (ab Jg Jg (ag (ac (af (af (aa (ae Jg Jg ?_))))))))
 refine ai Jg Jg Jg (DD I1) ?_
 refine ae Jg Jg (al Jg (ae Jg Jg (al Jg ?_)))
 refine aG Jg Jg ?_
 refine al Jg (ah Jg Jg (cz I7 Jg fP (by omega)) ?_)
 refine al Jg (am Jg Jg (ak IU Jg (iP (i:=1) h1 Jg)) ?_)
 cases st with
 |none=>
  refine al Jg (ae Jg Jg ?_)
  iterate 6 refine ao rfl rfl rfl ?_
  refine al Jg (aw Jg Jg Jg (aw Jg Jg Jg (ag (ac ?_))))
  refine bB Jg ?_
  refine af (aa (ab Jg Jg (ag (ac (au (av ?_))))))
  refine aF Jg Jg ?_
  exact⟨_,rfl,rfl,rfl⟩
 |some l=>
  have h2':cm l (.slice A n c) w:=h2
  refine al Jg (ae Jg Jg (al Jg (ae Jg Jg (al Jg ?_))))
  refine aG Jg Jg ?_
  refine al Jg (ah Jg Jg (cz I7 Jg cn (by omega)) ?_)
  refine al Jg (am Jg Jg (ak IP Jg (iP (i:=0) h1 Jg)) ?_)
  refine al Jg (aP Jg Jg (bz h2') ?_)
  refine al Jg (ai Jg Jg Jg ce ?_)
  refine al Jg (aC Jg Jg Jg (aw Jg Jg Jg (ag (ac ?_))))
  refine bi Jg (fun h=>?_) (fun h=>?_)
  ·refine af (aa (ab Jg Jg (ag (ac (au (av ?_))))))
   refine aF Jg Jg ?_
   have:some l≠some []:=by rintro⟨⟩;simp at h
   rw[if_neg this]
   exact⟨_,rfl,rfl,rfl⟩
  ·refine aq (ac (af (aa (ab Jg Jg (ag (ac (au ?_)))))))
   refine aF Jg Jg ?_
   have:l=[]:=List.eq_nil_of_length_eq_zero (by omega)
   subst this
   exact⟨_,rfl,rfl,rfl⟩
end
end Go.Rl
namespace Go.Rl
open Go.RowKit Go.Proofs
structure Kp (w w':World):Prop where
 size:w.heap.size≤w'.heap.size
 bts:∀{l:List UInt8} {v:Value},cm l v w→cm l v w'
 wds:∀{l:List UInt32} {v:Value},bt l v w→bt l v w'
theorem Kp.of_ext {w w':World} (h:aM w w'):Kp w w':=⟨h.size,fun b=>b.ext h,fun b=>b.ext h⟩
theorem Kp.refl (w:World):Kp w w:=.of_ext (aM.refl w)
theorem Kp.trans {a b c:World} (h:Kp a b) (k:Kp b c):Kp a c:=⟨Nat.le_trans h.size k.size,fun x=>k.bts (h.bts x),fun x=>k.wds (h.wds x)⟩
theorem cm.kp {w w':World} {l:List UInt8} {v:Value} (h:cm l v w) (k:Kp w w'):cm l v w':=k.bts h
theorem bt.kp {w w':World} {l:List UInt32} {v:Value} (h:bt l v w) (k:Kp w w'):bt l v w':=k.wds h
def dL (T:TypeId) (g:Nat) (st:Option (List UInt8)) (w:World):Prop:=∃A n c,cd g T [.slice A n c,B st.isNone] w∧cm (st.getD []) (.slice A n c) w∧oF A g
theorem aZ.rdT {g:Nat} {st:Option (List UInt8)} {w:World} (h:aZ g st w):dL 227 g st w:=h
theorem dL.rdAt {g:Nat} {st:Option (List UInt8)} {w:World} (h:dL 227 g st w):aZ g st w:=h
section
variable {T:TypeId} {g:Nat} {st:Option (List UInt8)} {w w':World}
theorem dL.ext (h:dL T g st w) (hx:aM w w'):dL T g st w':=by
 obtain⟨A,n,c,h1,h2,h3⟩:=h
 exact⟨A,n,c,h1.ext hx,h2.ext hx,h3⟩
theorem CD (A:Option Addr) (n c:Nat) (b:Bool) (l:List UInt32):∀(j:Nat) (u:Value),u∈l.map bw→(#[.slice A n c,.bool b]:Array Value)[j]? ≠some u:=by
 intro j u hu
 obtain⟨x,_,rfl⟩:=List.mem_map.1 hu
 match j with
 |0=>simp[bw]
 |1=>simp[bw]
 |j+2=>simp
theorem dL.kp (hr:dL T g st w) (hw:w.grownBy w' (some g)):Kp w w':=by
 obtain⟨A,n,c,h1,_⟩:=hr
 exact⟨hw.size,fun h=>Sl.keep h h1 (uf A n c _ _) hw,fun h=>Sl.keep h h1 (CD A n c _ _) hw⟩
theorem dL.set {l l':List UInt8} {v:Value} (h:dL T g (some l) w) (hv:cm l' v w) (hloc:∀A n c,v=.slice A n c→oF A g):
 ∃w',(Instr.storeAt 28 (.pointer (some ⟨g,0,none⟩)) v).run Tryz.prog w=.ok () w'∧w.grownBy w' (some g)∧dL T g (some l') w':=by
 obtain⟨A,n,c,h1,h2,h4⟩:=h
 obtain⟨A',n',c',rfl,h3⟩:=id hv
 have hg:=aY w g 0 (.slice A' n' c')
 have hk:=dL.kp (T:=T) (st:=some l) ⟨A,n,c,h1,h2,h4⟩ hg
 refine⟨_,dm (i:=0) cn Jg h1 (by simp),hg,A',n',c',h1.set 0 _,hk.bts hv,hloc _ _ _ rfl⟩
end
theorem zF (b:Bool) (A C:Option Addr) (n c m d:Nat) (l:List UInt8):∀(j:Nat) (u:Value),u∈l.map U8→(#[.bool b,.slice A n c,.slice C m d]:Array Value)[j]? ≠some u:=by
 intro j u hu
 obtain⟨x,_,rfl⟩:=List.mem_map.1 hu
 match j with
 |0=>simp[U8]
 |1=>simp[U8]
 |2=>simp[U8]
 |j+3=>simp
theorem cd.kpR {g:Nat} {T:TypeId} {b:Bool} {x y:Value} {w w':World} (h:cd g T [B b,x,y] w) (hx:∃A n c,x=.slice A n c) (hy:∃A n c,y=.slice A n c) (hw:w.grownBy w' (some g)):Kp w w':=by
 obtain⟨A,n,c,rfl⟩:=hx
 obtain⟨C,m,d,rfl⟩:=hy
 exact⟨hw.size,fun k=>Sl.keep k h (zF b A C n c m d _) hw,fun k=>Sl.keep k h (sk b A C n c m d _) hw⟩
theorem dL.off {T:TypeId} {g g':Nat} {st:Option (List UInt8)} {w w':World} (h:dL T g st w) (k:Kp w w') (hw:w.grownBy w' (some g')) (hne:g≠g'):dL T g st w':=by
 obtain⟨A,n,c,h1,h2,h3⟩:=h
 exact⟨A,n,c,h1.other hw (fun e=>hne (Option.some.inj e)),h2.kp k,h3⟩
theorem ew {w w1 w2:World} {row:Option Nat} {g:Nat} (h:w.grownBy w1 row) (q:w1.grownBy w2 (some g)) (hg:w.heap.size≤g):w.grownBy w2 row:=
 ⟨q.os.trans h.os,q.tape.trans h.tape,q.output.trans h.output,Nat.le_trans h.size q.size,fun i hi hne=>(q.block i (Nat.lt_of_lt_of_le hi h.size) (fun e=>by have:=Option.some.inj e;omega)).trans (h.block i hi hne)⟩
theorem bH {P:Program} {fn:Func} {R:Ending→World→Prop} {N:Nat} {fr:Fr} {p s:Tmp} {t T:TypeId} {u:Value} {l:List Value} {w:World} {g:Nat} {d:TypeDesc} (hr:fn.results= #[.cell p t,.tmp s]) (hv:lk fr p=some (.pointer (some ⟨g,0,none⟩))) (hs:lk fr s=some u) (hb:cd g T l w) (hu:P.underlying t=some d) (hd:d.isRow=true) (hi:(P.info? t).map (·.size)=some l.length)
 (h:R (.returned (.tuple #[.agg l.toArray,u])) w):fX (bodyPost P fn R) N [] fr w .ret:=fun a ha=>by
 refine⟨ha.defers,.tuple #[.agg l.toArray,u],?_,h⟩
 have hp:=ha.at_ p _ hv
 have hp':a.tmps[p]?.getD undef=.pointer (some ⟨g,0,none⟩):=by simpa using hp
 have hq:=ha.at_ s _ hs
 have hl:=run_loadVar_row w g T t l.toArray (0,0) d hb hu (by cases d<;>first|rfl|exact hd) (by simpa using hi)
 simp[results,hr,hp',asAddr,hl,←hq]
def uz (n:Nat):Int:=if n%2=0 then((n/2:Nat):Int) else-((n/2:Nat):Int)-1
theorem F7 {P:Program} {w:World} {t:TypeId} {x y:Operand} {q:Nat} (hq:q<9223372036854775808):(bin .xor t x y (I (q:Int)) (I 0)).run P w=.ok (I (q:Int)) w:=by
 have h:=AK (P:=P) (w:=w) (t:=t) (x:=x) (y:=y) (a:=Int64.ofInt q) (b:=Int64.ofInt 0)
 rw[Int64.toInt_ofInt_of_le (by simp) (by simp;omega)] at h
 have e:(Int64.ofInt q^^^Int64.ofInt 0).toInt=q:=by
  rw[show Int64.ofInt 0=0 from rfl,Int64.xor_zero,Int64.toInt_ofInt_of_le (by simp) (by simp;omega)]
 rw[e] at h
 exact h
theorem F8 {P:Program} {w:World} {t:TypeId} {x y:Operand} {q:Nat} (hq:q<9223372036854775808):(bin .xor t x y (I (q:Int)) (I (-1))).run P w=.ok (I (-(q:Int)-1)) w:=by
 have h:=AK (P:=P) (w:=w) (t:=t) (x:=x) (y:=y) (a:=Int64.ofInt q) (b:=Int64.ofInt (-1))
 rw[Int64.toInt_ofInt_of_le (by simp) (by simp;omega)] at h
 have e:(Int64.ofInt q^^^Int64.ofInt (-1)).toInt= -(q:Int)-1:=by
  have:Int64.ofInt q^^^Int64.ofInt (-1)= ~~~(Int64.ofInt q):=by
   apply Int64.toBitVec_inj.1
   rw[Int64.toBitVec_xor,Int64.toBitVec_not]
   have:(Int64.ofInt (-1)).toBitVec=BitVec.allOnes 64:=by decide
   rw[this,BitVec.xor_allOnes]
  rw[this,Int64.toInt_not,Int64.toInt_ofInt_of_le (by simp) (by simp;omega)]
  exact Int.bmod_eq_of_le (by simp;omega) (by simp;omega)
 rw[e] at h
 exact h
def w4 (a b c d:UInt8):UInt32:=UInt32.ofNat (a.toNat+256*b.toNat+65536*c.toNat+16777216*d.toNat)
theorem zG (a b c d:UInt8):(w4 a b c d).toNat=a.toNat+256*b.toNat+65536*c.toNat+16777216*d.toNat:=by
 have:=a.toNat_lt;have:=b.toNat_lt;have:=c.toNat_lt;have:=d.toNat_lt
 unfold w4
 rw[UInt32.toNat_ofNat']
 omega
theorem Ho (a b c d:UInt8):FI (w4 a b c d)=[a,b,c,d]:=by
 have ha:=a.toNat_lt;have hb:=b.toNat_lt;have hc:=c.toNat_lt;have hd:=d.toNat_lt
 have e:∀x y:UInt8,x.toNat=y.toNat→x=y:=fun x y h=>UInt8.toNat_inj.1 h
 have h:=zG a b c d
 unfold FI
 congr 1
 ·refine e _ _ ?_
  rw[UInt32.toNat_toUInt8,h];omega
 congr 1
 ·refine e _ _ ?_
  rw[UInt32.toNat_toUInt8,UInt32.toNat_shiftRight,h,show(UInt32.ofNat 8).toNat%32=8 from rfl,Nat.shiftRight_eq_div_pow];omega
 congr 1
 ·refine e _ _ ?_
  rw[UInt32.toNat_toUInt8,UInt32.toNat_shiftRight,h,show(UInt32.ofNat 16).toNat%32=16 from rfl,Nat.shiftRight_eq_div_pow];omega
 congr 1
 ·refine e _ _ ?_
  rw[UInt32.toNat_toUInt8,UInt32.toNat_shiftRight,h,show(UInt32.ofNat 24).toNat%32=24 from rfl,Nat.shiftRight_eq_div_pow];omega
theorem zH (a:UInt8):a.toUInt32.toNat=a.toNat:=by simp
theorem If (a b c d:UInt8):((a.toUInt32|||(b.toUInt32<<<UInt32.ofNat 8))|||(c.toUInt32<<<UInt32.ofNat 16))|||(d.toUInt32<<<UInt32.ofNat 24)=w4 a b c d:=by
 have ha:=a.toNat_lt;have hb:=b.toNat_lt;have hc:=c.toNat_lt;have hd:=d.toNat_lt
 have sh:∀(x:UInt8) (k:Nat),k≤24→(x.toUInt32<<<UInt32.ofNat k).toNat=x.toNat<<<k:=fun x k hk=>by
  have hx:=x.toNat_lt
  rw[UInt32.toNat_shiftLeft,zH]
  have:(UInt32.ofNat k).toNat%32=k:=by rw[UInt32.toNat_ofNat'];omega
  rw[this,Nat.shiftLeft_eq]
  have:2^k≤2^24:=Nat.pow_le_pow_right (by omega) hk
  have:x.toNat*2^k≤255*2^24:=Nat.mul_le_mul (by omega) this
  omega
 refine jJ ?_
 rw[zG]
 simp only[UInt32.toNat_or,sh _ 8 (by omega),sh _ 16 (by omega),sh _ 24 (by omega),zH]
 rw[Nat.or_comm a.toNat,←Nat.shiftLeft_add_eq_or_of_lt (by omega),Nat.or_comm _ (c.toNat<<<16),←Nat.shiftLeft_add_eq_or_of_lt (by rw[Nat.shiftLeft_eq];omega),Nat.or_comm _ (d.toNat<<<24),←Nat.shiftLeft_add_eq_or_of_lt (by simp only[Nat.shiftLeft_eq];omega)]
 simp only[Nat.shiftLeft_eq]
 omega
theorem Hp (a b c d:UInt8):((a.toUInt32+(b.toUInt32*256))+(c.toUInt32*65536))+(d.toUInt32*16777216)=w4 a b c d:=by
 have ha:=a.toNat_lt;have hb:=b.toNat_lt;have hc:=c.toNat_lt;have hd:=d.toNat_lt
 refine jJ ?_
 rw[zG]
 simp only[UInt32.toNat_add,UInt32.toNat_mul,zH,show(256:UInt32).toNat=256 from rfl,show(65536:UInt32).toNat=65536 from rfl,show(16777216:UInt32).toNat=16777216 from rfl]
 omega
def de:List UInt8→List UInt32
 |a::b::c::d::l=>w4 a b c d::de l
 |_=>[]
theorem gx:∀(n:Nat) (l:List UInt8),l.length=4*n→(de l).length=n
 |0,[],_=>rfl
 |n+1,a::b::c::d::l,h=>by
  have:=gx n l (by simp at h;omega)
  simp[de,this]
 |n+1,[],h=>by simp at h
 |n+1,[_],h=>by simp at h;omega
 |n+1,[_,_],h=>by simp at h;omega
 |n+1,[_,_,_],h=>by simp at h;omega
theorem sq:∀(n:Nat) (l:List UInt8),l.length=4*n→m4 (de l)=l
 |0,[],_=>rfl
 |n+1,a::b::c::d::l,h=>by
  have:=sq n l (by simp at h;omega)
  have e:∀x (l:List UInt32),m4 (x::l)=FI x++m4 l:=fun x l=>by simp[m4]
  rw[de,e,this,Ho];rfl
 |n+1,[],h=>by simp at h
 |n+1,[_],h=>by simp at h;omega
 |n+1,[_,_],h=>by simp at h;omega
 |n+1,[_,_,_],h=>by simp at h;omega
theorem nA:∀(i:Nat) (l:List UInt8) (h:4*(i+1)≤l.length),de (l.take (4*(i+1)))=de (l.take (4*i))++[w4 (l[4*i]) (l[4*i+1]) (l[4*i+2]) (l[4*i+3])]
 |0,a::b::c::d::l,_=>by simp[de]
 |i+1,a::b::c::d::l,h=>by
  have:=nA i l (by simp at h;omega)
  have e1:4*(i+1+1)=4*(i+1)+4:=by omega
  have e2:4*(i+1)=4*i+4:=by omega
  simp only[e1,List.take_succ_cons,de,this]
  simp only[e2,List.take_succ_cons,de,List.cons_append]
  rfl
 |i,[],h=>by simp at h
 |i,[_],h=>by simp at h;omega
 |i,[_,_],h=>by simp at h;omega
 |i,[_,_,_],h=>by simp at h;omega
def pz (l:List UInt8):Option (List UInt32×List UInt8):=(cZ l).bind fun p=>
 if p.1≤p.2.length/4∧lb (val (de (p.2.take (4*p.1))))=de (p.2.take (4*p.1)) then some (de (p.2.take (4*p.1)),p.2.drop (4*p.1)) else none
theorem fl {l t:List UInt8} {m:List UInt32} (h:pz l=some (m,t)):l=kY m++t∧lb (val m)=m∧m.length<18446744073709551616:=by
 unfold pz at h
 cases hu:cZ l with
 |none=>rw[hu] at h;cases h
 |some p=>
  obtain⟨n,u⟩:=p
  rw[hu] at h
  have h:(if n≤u.length/4∧lb (val (de (u.take (4*n))))=de (u.take (4*n)) then some (de (u.take (4*n)),u.drop (4*n)) else none)=some (m,t):=h
  split at h
  ·rename_i hc
   simp only[Option.some.injEq,Prod.mk.injEq] at h
   have hl:(u.take (4*n)).length=4*n:=by rw[List.length_take];omega
   have hn:=gx n _ hl
   obtain⟨h1,h2⟩:=eS hu
   rw[←h.1,←h.2]
   refine⟨?_,hc.2,by omega⟩
   unfold kY
   rw[hn,sq n _ hl,List.append_assoc,List.take_append_drop]
   exact h1
  ·cases h
def kB:List UInt8→Option ((Bool×List UInt32×List UInt32)×List UInt8)
 |[]=>none
 |c::l=>if 1<c.toNat then none else(pz l).bind fun p=>(pz p.2).bind fun q=>if rv (decide (c.toNat=1)) p.1 q.1=true then some ((decide (c.toNat=1),p.1,q.1),q.2) else none
end Go.Rl
namespace Go.Rl
open Go.RowKit Go.Proofs
theorem ki:az Tryz.prog 193:=⟨_,Tryz.func193,by kernel_rfl,rfl⟩
theorem pA:az Tryz.prog 179:=⟨_,Tryz.func179,by kernel_rfl,rfl⟩
theorem ik:az Tryz.prog 177:=⟨_,Tryz.func177,by kernel_rfl,rfl⟩
section
variable {w:World} {g:Nat}
theorem Eo {st:Option (List UInt8)} (hr:aZ g st w) (h:st.bind cZ=none):Calls Tryz.prog 144 #[.pointer (some ⟨g,0,none⟩)] w (bF fun r w'=>w.grownBy w' (some g)∧r=.tuple #[bj 0,B false]∧∃l',aZ g l' w'):=by
 have:=xV hr
 rw[h] at this
 exact this
theorem Ep {st:Option (List UInt8)} {n:Nat} {t:List UInt8} (hr:aZ g st w) (h:st.bind cZ=some (n,t)):Calls Tryz.prog 144 #[.pointer (some ⟨g,0,none⟩)] w (bF fun r w'=>w.grownBy w' (some g)∧r=.tuple #[bj (UInt64.ofNat n),B true]∧aZ g (some t) w'):=by
 have:=xV hr
 rw[h] at this
 exact this
end
theorem Er {st:Option (List UInt8)} (h:st.bind cZ=none):st.bind pz=none:=by
 cases st with
 |none=>rfl
 |some l=>
  have h:cZ l=none:=h
  show pz l=none
  unfold pz
  rw[h];rfl
theorem nB {st:Option (List UInt8)} {n:Nat} {t:List UInt8} (h:st.bind cZ=some (n,t)):st.bind pz=if n≤t.length/4∧lb (val (de (t.take (4*n))))=de (t.take (4*n)) then some (de (t.take (4*n)),t.drop (4*n)) else none:=by
 cases st with
 |none=>cases h
 |some l=>
  have h:cZ l=some (n,t):=h
  show pz l=_
  unfold pz
  rw[h];rfl
theorem oH {st:Option (List UInt8)} {n:Nat} {t:List UInt8} {k:Nat} (h:st.bind cZ=some (n,t)) (hl:∀l,st=some l→l.length≤k):t.length≤k∧n<18446744073709551616:=by
 cases st with
 |none=>cases h
 |some l=>
  obtain⟨h1,h2⟩:=eS (show cZ l=some (n,t) from h)
  have:=hl l rfl
  rw[h1,List.length_append] at this
  exact⟨by omega,h2⟩
def nC (b:Nat) (v:Value):Prop:=∀k,v.ownBlock=some k→b≤k
theorem ss {s t:Bool} {a b c d:Value} (h:(Value.agg #[B s,a,b])=.agg #[B t,c,d]):a=c∧b=d:=by
 injection h with h
 have:=congrArg Array.toList h
 simp only[List.cons.injEq] at this
 exact⟨this.2.1,this.2.2.1⟩
def NatR (g:Nat) (w:World) (o:Option (List UInt32×List UInt8)) (r:Value) (w':World):Prop:=
 w.grownBy w' (some g)∧match o with
  |some (m,t)=>∃v,r=.tuple #[v,B true]∧bt m v w'∧aZ g (some t) w'∧nC w.heap.size v
  |none=>∃v,r=.tuple #[v,B false]∧(∃m,bt m v w')∧∃l',aZ g l' w'
theorem ug {w:World} {g:Nat} {st:Option (List UInt8)} (hr:aZ g st w) (hl:∀l,st=some l→l.length≤549755813888):
 Calls Tryz.prog 193 #[.pointer (some ⟨g,0,none⟩)] w (bF (NatR g w (st.bind pz))):=by
 refine enter (vs:=[.pointer (some ⟨g,0,none⟩)]) Tryz.func193 Jg Jg Jg ?_
 refine af (aa (ab Jg Jg (ab Jg Jg (ag (ac (af ?_))))))
 rcases hU:st.bind cZ with _|⟨n,t⟩
 ·refine aa (ae Jg Jg (an jS Jg Jg (Eo hr hU) ?_))
  rintro v11 w11 ⟨x11,rfl,l',hr1⟩
  have m11:=(hr.rdT).kp x11
  refine ae Jg Jg (aj Jg Jg (aS) (aj Jg Jg (aT) (ab Jg Jg (ab Jg Jg (ag (ac (af (af (aa (ae Jg Jg (ci Jg Jg cj ?_)))))))))))
  refine ae Jg Jg (ao Jg Jg Jg (ao Jg Jg Jg (ao Jg Jg Jg (ao Jg Jg Jg (ao Jg Jg Jg (ao Jg Jg Jg (ao Jg Jg Jg (ao Jg Jg Jg (ao Jg Jg Jg ?_)))))))))
  refine aw Jg Jg Jg (ag (ac (bB Jg (af (aa (ab Jg Jg (ab Jg Jg (ag (ac (au (av (aH Jg Jg Jg ?_))))))))))))
  exact⟨_,rfl,x11,by rw[Er hU];exact⟨_,rfl,⟨_,bt.nil _⟩,l',hr1⟩⟩
 ·obtain⟨ht,hn⟩:=oH hU hl
  have hnn:(UInt64.ofNat n).toNat=n:=by rw[UInt64.toNat_ofNat'];omega
  refine aa (ae Jg Jg (an jS Jg Jg (Ep hr hU) ?_))
  rintro v11 w11 ⟨x11,rfl,hr1⟩
  have m11:=(hr.rdT).kp x11
  refine ae Jg Jg (aj Jg Jg (aS) (aj Jg Jg (aT) ?_))
  obtain⟨A,n',c,k,b,_⟩:=hr1.rdT
  have b:cm t (.slice A n' c) w11:=b
  refine ab Jg Jg (ab Jg Jg (ag (ac (af (af (aa (ae Jg Jg (ci Jg Jg cj (ae Jg Jg (al Jg (ae Jg Jg (al Jg (ae Jg Jg ?_)))))))))))))
  refine al Jg (aG Jg Jg (al Jg (ah Jg Jg (aE (o:=0) I7 Jg (by kernel_rfl) Jg) (al Jg (am Jg Jg (ak IP Jg (k.cell (i:=0) Jg)) ?_)))))
  refine al Jg (aP Jg Jg (bz b) (al Jg (aQ Jg Jg (cI IM IL) (al Jg (ai (v:=bj 4) Jg Jg Jg (gt (by decide)) ?_)))))
  refine al Jg (ai Jg Jg Jg (ck) (aC Jg Jg Jg (ag (ac ?_))))
  refine bi Jg (fun h26=>?_) (fun h26=>?_)
  ·have hlong:t.length/4<n:=by
    have h26:=UInt64.lt_iff_toNat_lt.1 h26
    rw[UInt64.toNat_div,hnn,UInt64.toNat_ofNat',show(4:UInt64).toNat=4 from rfl] at h26
    omega
   refine af (aa (ab Jg Jg (ab Jg Jg (ag (ac (au (av (aH Jg Jg Jg ?_))))))))
   exact⟨_,rfl,x11,by rw[nB hU,if_neg (by omega)];exact⟨_,rfl,⟨_,bt.nil _⟩,_,hr1⟩⟩
  ·have hle:n≤t.length/4:=by
    refine Nat.le_of_not_lt fun hh=>h26 (UInt64.lt_iff_toNat_lt.2 ?_)
    rw[UInt64.toNat_div,hnn,UInt64.toNat_ofNat',show(4:UInt64).toNat=4 from rfl]
    omega
   have h4n:(4*UInt64.ofNat n).toNat=4*n:=by
    rw[UInt64.toNat_mul,hnn,show(4:UInt64).toNat=4 from rfl]
    omega
   obtain⟨bs,hbs⟩:∃bs,bs=t.take (4*n):=⟨_,rfl⟩
   have hbl:bs.length=4*n:=by rw[hbs,List.length_take];omega
   refine aq (ac (af (aa (ae Jg Jg (ae Jg Jg (ai (u:=bj 4) Jg Jg Jg (fM) (an ig Jg Jg ((by have:=rZ (n:=4*UInt64.ofNat n) hr1 (by rw[h4n];omega);rw[h4n,←hbs] at this;exact this)) ?_)))))))
   rintro v31 w31 ⟨b31,rfl,hb31,hr2,g31⟩
   have m31:=(hr1.rdT).kp g31
   refine ae Jg Jg (aj Jg Jg (aS) (aj Jg Jg (aT) (ab Jg Jg (ab Jg Jg (ag (ac (af (aa (ab Jg Jg (ag (ac (af ?_))))))))))))
   refine ax ?_
   refine fN (fun(i:Nat) (v:Value) (u:Value)=>[(4,bj (UInt64.ofNat n)),(6,v),(8,u)]) (fun(i:Nat) (v:Value) (u:Value) w'=>aM w31 w'∧cm (bs.drop (4*i)) v w31∧dK w31.heap.size (de (bs.take (4*i))) u w'∧i≤n) (fun(i:Nat) (v:Value) (u:Value)=>n-i) (0) (b31) (.slice none 0 0) ⟨rfl,rfl,rfl,trivial⟩ ⟨aM.refl _,by simpa using hb31,by simpa [de] using dK.nil _ _,by omega⟩ ?_
   rintro i v u w6 ⟨e6,h6,o6,hi⟩
   refine af (af ?_)
   have hdl:(bs.drop (4*i)).length=4*n-4*i:=by rw[List.length_drop,hbl]
   refine aa (ae Jg Jg (aP Jg Jg (bz (h6.ext e6)) (ai Jg Jg Jg (ce) (ag (ac ?_)))))
   refine bi Jg (fun h36=>?_) (fun h36=>?_)
   ·refine aq (ac (af (ax ?_)))
    have hdl:(bs.drop (4*i)).length=4*n-4*i:=by rw[List.length_drop,hbl]
    refine bA 24 [4,6,39,62] (by kernel_rfl) (by kernel_rfl) ?_
    refine ap Jg Jg (ap Jg Jg ?_)
    obtain⟨a41,p41,q41⟩:=er (h6.ext e6) (i:=0) (by omega) .i64
    refine ay Jg Jg Jg (fun w _=>p41 w) (aD Jg Jg (fun w hw=>ak IR Jg (hw.cell_some q41)) (dh Jg Jg (fun w _=>dT IR IK) ?_))
    refine ap Jg Jg ?_
    obtain⟨a45,p45,q45⟩:=er (h6.ext e6) (i:=1) (by omega) .i64
    refine ay Jg Jg Jg (fun w _=>p45 w) (aD Jg Jg (fun w hw=>ak IR Jg (hw.cell_some q45)) (dh Jg Jg (fun w _=>dT IR IK) ?_))
    refine aR (v:=bj 8) Jg Jg Jg (fun w _=>eC 8 (by omega)) (aR Jg Jg Jg (fun w _=>eX) (ap Jg Jg ?_))
    obtain⟨a51,p51,q51⟩:=er (h6.ext e6) (i:=2) (by omega) .i64
    refine ay Jg Jg Jg (fun w _=>p51 w) (aD Jg Jg (fun w hw=>ak IR Jg (hw.cell_some q51)) (dh Jg Jg (fun w _=>dT IR IK) ?_))
    refine aR (v:=bj 16) Jg Jg Jg (fun w _=>eC 16 (by omega)) (aR Jg Jg Jg (fun w _=>eX) (ap Jg Jg ?_))
    obtain⟨a57,p57,q57⟩:=er (h6.ext e6) (i:=3) (by omega) .i64
    refine ay Jg Jg Jg (fun w _=>p57 w) (aD Jg Jg (fun w hw=>ak IR Jg (hw.cell_some q57)) (dh Jg Jg (fun w _=>dT IR IK) ?_))
    refine aR (v:=bj 24) rfl rfl rfl (fun w _=>eC 24 (by omega)) (aR rfl rfl rfl (fun w _=>eX) (fL (S:=bt [((((((((((bs.drop (4*i))[0])).toUInt32)|||((((((bs.drop (4*i))[1])).toUInt32)<<<UInt32.ofNat 8))))|||((((((bs.drop (4*i))[2])).toUInt32)<<<UInt32.ofNat 16))))|||((((((bs.drop (4*i))[3])).toUInt32)<<<UInt32.ofNat 24))))]) (bt.stable _) rfl (fun w' _=>by rintro _ rfl;obtain⟨r,w2,h1,h2,h3,_⟩:=gV Tryz.underlying53 (w:=w') w'.heap.size [((((((((((bs.drop (4*i))[0])).toUInt32)|||((((((bs.drop (4*i))[1])).toUInt32)<<<UInt32.ofNat 8))))|||((((((bs.drop (4*i))[2])).toUInt32)<<<UInt32.ofNat 16))))|||((((((bs.drop (4*i))[3])).toUInt32)<<<UInt32.ofNat 24))))] (by simp) (Nat.le_refl _);exact⟨r,w2,h1,h2,h3.wds⟩) ?_))
    refine bG ?_
    intro wg8 xg8
    rintro _ rfl
    rintro _ hq6
    obtain rfl:=Eq.symm hq6
    rintro _ hq39
    obtain rfl:=Eq.symm hq39
    intro vg62 b62
    obtain⟨v63,w63,hr63,o63,g63⟩:=jo Tryz.underlying53 (ty:=53) (o6.ext xg8) b62 (by have:=gx i (bs.take (4*i)) (by rw[List.length_take];omega);simp;omega) ((e6.trans xg8)).size
    have x63:=aM.of_grew ((e6.trans xg8)) g63 (o6.ext xg8).ge
    refine be Jg Jg hr63 (ab Jg Jg (ag (aJ (ac (aa (ae Jg Jg ?_))))))
    obtain⟨v38,p38,b38⟩:=eZ h6 (lo:=4) (by omega) .i64
    refine cu Jg Jg Jg Jg Jg (p38 _) ?_
    refine ab Jg Jg (ag ?_)
    refine dv (i+1) (v38) (v63) ⟨rfl,rfl,rfl,trivial⟩ ⟨x63,by rw[List.drop_drop] at b38;exact b38,by
     rw[nA i bs (by omega)]
     have e:=If ((bs.drop (4*i))[0]) ((bs.drop (4*i))[1]) ((bs.drop (4*i))[2]) ((bs.drop (4*i))[3])
     simp only[List.getElem_drop,Nat.add_zero] at e
     simp only[List.getElem_drop,Nat.add_zero,e] at o63
     exact o63,by omega⟩ (by omega)
   ·refine aW (aA (aA (aU (ac (af ?_)))))
    by_cases h66:UInt64.ofNat n=0
    ·refine bA 12 [2,74] (by kernel_rfl) (by kernel_rfl) ?_
     refine ap Jg Jg (ap Jg Jg (aR (v:=bj 0) Jg Jg Jg (fun w _=>cf h66 fy) (ap Jg Jg (cB Jg Jg Jg (cB Jg Jg Jg (cB Jg Jg Jg ?_))))))
     refine cB Jg Jg Jg (cB Jg Jg Jg (cB Jg Jg Jg (rx Jg Jg Jg (eg Jg Jg (bG ?_)))))
     intro wg9 xg9
     rintro _ hq2
     obtain rfl:=Eq.symm hq2
     rintro _ rfl
     refine ab Jg Jg (ag (ac (au (aH Jg Jg Jg ?_))))
     exact⟨_,rfl,(x11.trans g31).trans (dA (e6.trans xg9)),by
      rw[nB hU,←hbs]
      first
      |(have hx:(de bs)[(UInt64.ofNat n-1).toNat]≠0↔lb (val (de bs))=de bs:=by
         have e:(UInt64.ofNat n-1).toNat=(de bs).length-1:=by omega
         simp only[e]
         exact oz (by omega)
        by_cases hc:lb (val (de bs))=de bs
        ·rw[if_pos ⟨hle,hc⟩,decide_eq_true (hx.2 hc)]
         exact⟨u,rfl,o6.wds.ext xg9,hr2.ext (e6.trans xg9),fun k hk=>Nat.le_trans (x11.trans g31).size (o6.ge k hk)⟩
        ·rw[if_neg fun h=>hc h.2,decide_eq_false fun h=>hc (hx.1 h)]
         exact⟨u,rfl,⟨_,o6.wds.ext xg9⟩,_,hr2.ext (e6.trans xg9)⟩)
      |(have h0:n=0:=by
         have:=congrArg UInt64.toNat h66
         rw[hnn] at this
         exact this
        have hb0:de bs=[]:=List.eq_nil_of_length_eq_zero (by rw[gx n bs hbl];exact h0)
        have hb1:bs.take (4*i)=bs:=List.take_of_length_le (by omega)
        rw[hb1,hb0] at o6
        rw[hb0,if_pos ⟨hle,rfl⟩]
        exact⟨u,rfl,o6.wds.ext xg9,hr2.ext (e6.trans xg9),fun k hk=>Nat.le_trans (x11.trans g31).size (o6.ge k hk)⟩)⟩
    ·refine bA 12 [2,74] (by kernel_rfl) (by kernel_rfl) ?_
     refine ap Jg Jg (ap Jg Jg (aR (v:=bj 0) Jg Jg Jg (fun w _=>bZ h66 fy) (ap Jg Jg (bg Jg Jg (ap Jg Jg (bg Jg Jg (ap Jg Jg ?_)))))))
     refine bg Jg Jg (aR (v:=bj 1) Jg Jg Jg (fun w _=>dq) (bg Jg Jg ?_))
     have hn0:0<n:=by
      rcases Nat.eq_zero_or_pos n with h|h
      ·exact absurd (by rw[h];rfl) h66
      ·exact h
     have hns:=gx n bs hbl
     have hin:i=n:=by omega
     have hbi:bs.take (4*i)=bs:=List.take_of_length_le (by omega)
     rw[hbi] at o6
     have hm1:(UInt64.ofNat n-1).toNat=n-1:=by
      rw[UInt64.toNat_sub_of_le _ _ (UInt64.le_iff_toNat_le.2 (by rw[hnn];exact hn0)),hnn];rfl
     obtain⟨a71,p71,q71⟩:=cL IJ o6.wds (i:=(UInt64.ofNat n-1).toNat) (by omega) .u64
     refine ay Jg Jg Jg (fun w hw=>p71 _) (bg Jg Jg (aD Jg Jg (fun w hw=>ak IK Jg (hw.cell_some q71)) (bg Jg Jg ?_)))
     refine aR (v:=bw 0) Jg Jg Jg (fun w _=>j3) (lO Jg Jg Jg (eg Jg Jg (bG ?_)))
     intro wg9 xg9
     rintro _ hq2
     obtain rfl:=Eq.symm hq2
     rintro _ rfl
     refine ab Jg Jg (ag (ac (au (aH Jg Jg Jg ?_))))
     exact⟨_,rfl,(x11.trans g31).trans (dA (e6.trans xg9)),by
      rw[nB hU,←hbs]
      first
      |(have hx:(de bs)[(UInt64.ofNat n-1).toNat]≠0↔lb (val (de bs))=de bs:=by
         have e:(UInt64.ofNat n-1).toNat=(de bs).length-1:=by omega
         simp only[e]
         exact oz (by omega)
        by_cases hc:lb (val (de bs))=de bs
        ·rw[if_pos ⟨hle,hc⟩,decide_eq_true (hx.2 hc)]
         exact⟨u,rfl,o6.wds.ext xg9,hr2.ext (e6.trans xg9),fun k hk=>Nat.le_trans (x11.trans g31).size (o6.ge k hk)⟩
        ·rw[if_neg fun h=>hc h.2,decide_eq_false fun h=>hc (hx.1 h)]
         exact⟨u,rfl,⟨_,o6.wds.ext xg9⟩,_,hr2.ext (e6.trans xg9)⟩)
      |(have h0:n=0:=by
         have:=congrArg UInt64.toNat h66
         rw[hnn] at this
         exact this
        have hb0:de bs=[]:=List.eq_nil_of_length_eq_zero (by rw[gx n bs hbl];exact h0)
        have hb1:bs.take (4*i)=bs:=List.take_of_length_le (by omega)
        rw[hb1,hb0] at o6
        rw[hb0,if_pos ⟨hle,rfl⟩]
        exact⟨u,rfl,o6.wds.ext xg9,hr2.ext (e6.trans xg9),fun k hk=>Nat.le_trans (x11.trans g31).size (o6.ge k hk)⟩)⟩
section
variable {w:World} {g:Nat}
theorem uh {st:Option (List UInt8)} (hr:aZ g st w) (hl:∀l,st=some l→l.length≤549755813888) (h:st.bind pz=none):Calls Tryz.prog 193 #[.pointer (some ⟨g,0,none⟩)] w (bF fun r w'=>w.grownBy w' (some g)∧∃v,r=.tuple #[v,B false]∧(∃m,bt m v w')∧∃l',aZ g l' w'):=by
 have:=ug hr hl
 rw[h] at this
 exact this
theorem nD {st:Option (List UInt8)} {m:List UInt32} {t:List UInt8} (hr:aZ g st w) (hl:∀l,st=some l→l.length≤549755813888) (h:st.bind pz=some (m,t)):Calls Tryz.prog 193 #[.pointer (some ⟨g,0,none⟩)] w (bF fun r w'=>w.grownBy w' (some g)∧∃v,r=.tuple #[v,B true]∧bt m v w'∧aZ g (some t) w'∧nC w.heap.size v):=by
 have:=ug hr hl
 rw[h] at this
 exact this
theorem CE {st:Option (List UInt8)} {m:List UInt32} {t:List UInt8} (hr:aZ g st w) (hl:∀l,st=some l→l.length≤549755813888) (h:st.bind pz=some (m,t)):Calls Tryz.prog 193 #[.pointer (some ⟨g,0,none⟩)] w (bF fun r w'=>w.grownBy w' (some g)∧∃v,r=.tuple #[v,B true]∧bt m v w'∧aZ g (some t) w'):=by
 exact(nD hr hl h).mono fun _ _ ⟨r,h0,h1,v,h2,h3,h4,_⟩=>⟨r,h0,h1,v,h2,h3,h4⟩
theorem CF {st:Option (List UInt8)} (hr:aZ g st w) (h:st.bind cZ=none):Calls Tryz.prog 111 #[.pointer (some ⟨g,0,none⟩)] w (bF fun r w'=>w.grownBy w' (some g)∧r=.tuple #[bj 0,I 5]∧aZ g none w'):=by
 have:=mP hr
 rw[h] at this
 exact this
theorem CG {st:Option (List UInt8)} {n:Nat} {t:List UInt8} (hr:aZ g st w) (h:st.bind cZ=some (n,t)):Calls Tryz.prog 111 #[.pointer (some ⟨g,0,none⟩)] w (bF fun r w'=>w.grownBy w' (some g)∧r=.tuple #[bj (UInt64.ofNat n),I 0]∧aZ g (some t) w'):=by
 have:=mP hr
 rw[h] at this
 exact this
end
def IntR (g:Nat) (w:World) (o:Option (Nat×List UInt8)) (r:Value) (w':World):Prop:=
 w.grownBy w' (some g)∧match o with
  |some (n,t)=>r=.tuple #[I (uz n),I 0]∧aZ g (some t) w'
  |none=>r=.tuple #[I 0,I 5]∧aZ g none w'
theorem Es {P:Program} {w:World} {s d:TypeId} {n:Nat} (hs:P.underlying s=some (.int .u64)) (hd:P.underlying d=some (.int .i64)) (hn:n<18446744073709551616):(convert s d (bj (UInt64.ofNat n>>>UInt64.ofNat 1))).run P w=.ok (I ((n/2:Nat):Int)) w:=by
 have e:(UInt64.ofNat n>>>UInt64.ofNat 1).toNat=n/2:=by
  rw[UInt64.toNat_shiftRight,UInt64.toNat_ofNat',show(UInt64.ofNat 1).toNat%64=1 from rfl,Nat.shiftRight_eq_div_pow];omega
 have:=mC (P:=P) (w:=w) hs hd (a:=UInt64.ofNat n>>>UInt64.ofNat 1) (by omega)
 rwa [e] at this
theorem Be {n:Nat}:(UInt64.ofNat n&&&1).toNat=n%2:=by
 rw[UInt64.toNat_and,UInt64.toNat_ofNat',show(1:UInt64).toNat=1 from rfl,Nat.and_one_is_mod];omega
theorem Hq {P:Program} {w:World} {s d:TypeId} {n:Nat} (hs:P.underlying s=some (.int .u64)) (hd:P.underlying d=some (.int .i64)) (h:n%2=0):(convert s d (bj (UInt64.ofNat n&&&1))).run P w=.ok (I 0) w:=by
 have:=mC (P:=P) (w:=w) hs hd (a:=UInt64.ofNat n&&&1) (by rw[Be];omega)
 rw[Be,h] at this
 exact this
theorem Hr {P:Program} {w:World} {s d:TypeId} {n:Nat} (hs:P.underlying s=some (.int .u64)) (hd:P.underlying d=some (.int .i64)) (h:n%2=1):(convert s d (bj (UInt64.ofNat n&&&1))).run P w=.ok (I 1) w:=by
 have:=mC (P:=P) (w:=w) hs hd (a:=UInt64.ofNat n&&&1) (by rw[Be];omega)
 rw[Be,h] at this
 exact this
theorem ui {w:World} {g:Nat} {st:Option (List UInt8)} (hr:aZ g st w):
 Calls Tryz.prog 177 #[.pointer (some ⟨g,0,none⟩)] w (bF (IntR g w (st.bind cZ))):=by
 refine enter (vs:=[.pointer (some ⟨g,0,none⟩)]) Tryz.func177 Jg Jg Jg ?_
 refine af (aa (ab Jg Jg (ab Jg Jg (ag (ac (af ?_))))))
 rcases hN:st.bind cZ with _|⟨n,t⟩
 ·refine aa (ae Jg Jg (an gw Jg Jg (CF hr hN) ?_))
  rintro v8 w8 ⟨x8,rfl,hr1⟩
  have m8:=(hr.rdT).kp x8
  refine ae Jg Jg (aj Jg Jg (aS) (aj Jg Jg (aT) (ab Jg Jg (ab Jg Jg (ag (ac (af (af (aa (ae Jg Jg (ai Jg Jg Jg (cf (by decide) bS) ?_)))))))))))
  refine ag (ac (bB Jg (af (aa (ae Jg Jg (ab Jg Jg (ab Jg Jg (ag (ac (au (av (aH Jg Jg Jg ?_))))))))))))
  exact⟨_,rfl,x8,rfl,hr1⟩
 ·refine aa (ae Jg Jg (an gw Jg Jg (CG hr hN) ?_))
  rintro v8 w8 ⟨x8,rfl,hr1⟩
  have m8:=(hr.rdT).kp x8
  refine ae Jg Jg (aj Jg Jg (aS) (aj Jg Jg (aT) (ab Jg Jg (ab Jg Jg (ag (ac (af (af (aa (ae Jg Jg (ai Jg Jg Jg (bZ (by decide) bS) ?_)))))))))))
  have hnn:=(oH (k:=(st.getD []).length) hN (by rintro l rfl;exact Nat.le_refl _)).2
  refine ag (ac (cq Jg (aq (ac (af ?_)))))
  rcases Nat.mod_two_eq_zero_or_one n with hm|hm
  ·refine aa (ae Jg Jg (ai Jg Jg Jg (du 1 (by omega)) (aQ Jg Jg (Es IL IM hnn) (ae Jg Jg ?_))))
   refine ai (v:=bj 1) Jg Jg Jg (tS) (aQ Jg Jg (Hq IL IM hm) (ci Jg Jg (vg (by omega) (by omega)) ?_))
   refine ai Jg Jg Jg (F7 (by omega)) (ab Jg Jg (ab Jg Jg (ag (ac (au (aH Jg Jg Jg ?_))))))
   exact⟨_,rfl,x8,congrArg (fun z=>Value.tuple #[I z,I 0]) (show _=uz n by unfold uz;rw[if_pos hm]),hr1⟩
  ·refine aa (ae Jg Jg (ai Jg Jg Jg (du 1 (by omega)) (aQ Jg Jg (Es IL IM hnn) (ae Jg Jg ?_))))
   refine ai (v:=bj 1) Jg Jg Jg (tS) (aQ Jg Jg (Hr IL IM hm) (ci Jg Jg (vg (by omega) (by omega)) ?_))
   refine ai Jg Jg Jg (F8 (by omega)) (ab Jg Jg (ab Jg Jg (ag (ac (au (aH Jg Jg Jg ?_))))))
   exact⟨_,rfl,x8,congrArg (fun z=>Value.tuple #[I z,I 0]) (show _=uz n by unfold uz;rw[if_neg (by omega)]),hr1⟩
theorem vJ {c:UInt8} {l:List UInt8} (h:1<c.toNat):kB (c::l)=none:=if_pos h
theorem zI {c:UInt8} {l:List UInt8} (h:pz l=none):kB (c::l)=none:=by
 show(if 1<c.toNat then none else _)=none
 split
 ·rfl
 ·rw[h];rfl
theorem su {c:UInt8} {l t:List UInt8} {m:List UInt32} (h1:¬1<c.toNat) (h:pz l=some (m,t)):kB (c::l)=(pz t).bind fun q=>if rv (decide (c.toNat=1)) m q.1=true then some ((decide (c.toNat=1),m,q.1),q.2) else none:=by
 show(if 1<c.toNat then none else _)=_
 rw[if_neg h1,h];rfl
def RatE (g:Nat) (w:World) (o:Option ((Bool×List UInt32×List UInt32)×List UInt8)) (r:Value) (w':World):Prop:=
 w.grownBy w' (some g)∧match o with
  |some (q,t)=>∃v,r=.tuple #[v,I 0]∧dc q.1 q.2.1 q.2.2 v w'∧aZ g (some t) w'
  |none=>∃v,r=.tuple #[v,I 5]∧dc false [] [] v w'∧aZ g none w'
def Ig (g:Nat) (w:World) (o:Option ((Bool×List UInt32×List UInt32)×List UInt8)) (r:Value) (w':World):Prop:=
 w.grownBy w' (some g)∧match o with
  |some (q,t)=>∃x y,r=.tuple #[.agg #[B q.1,x,y],I 0]∧bt q.2.1 x w'∧bt q.2.2 y w'∧aZ g (some t) w'∧nC w.heap.size x∧nC w.heap.size y
  |none=>∃v,r=.tuple #[v,I 5]∧dc false [] [] v w'∧aZ g none w'
theorem aZ.lt {w:World} {g:Nat} {st:Option (List UInt8)} (h:aZ g st w):g<w.heap.size:=by
 obtain⟨A,n,c,h1,_⟩:=h
 exact cd.lt h1
theorem sv {c:UInt8}:c.toNat=1↔c=1:=by
 rw[←UInt8.toNat_inj,show(1:UInt8).toNat=1 from rfl]
theorem sw {w:World} {g:Nat} {st:Option (List UInt8)} (hr:aZ g st w) (hl:∀l,st=some l→l.length≤549755813888):
 Calls Tryz.prog 179 #[.pointer (some ⟨g,0,none⟩)] w (bF (Ig g w (st.bind kB))):=by
 refine enter (vs:=[.pointer (some ⟨g,0,none⟩)]) Tryz.func179 Jg Jg Jg ?_
 have hglt:=hr.lt
 refine af (aa ?_)
 obtain⟨g2,w2,hr2,l2,x2,k2⟩:=fH (w:=w)
 refine bh Jg hr2 (ab Jg Jg (ag (ac (af (af (aa (ae Jg Jg (ai Jg Jg Jg (lP I1) (ag (ac (cq Jg ?_)))))))))))
 refine aq (ac (af ?_))
 have rr:=hr.ext x2
 have kk:=k2
 have gg:w.grownBy w2 (some g):=dA x2
 have hne:some g2≠some g:=fun h=>by have:=Option.some.inj h;omega
 have hne':g≠g2:=by omega
 rcases st with _|(_|⟨c,l⟩)
 ·have hR:(none:Option (List UInt8)).bind kB=none:=rfl
  refine aa (ae Jg Jg (an ig Jg Jg ((qj (n:=1) rr)) ?_))
  rintro v14 _ ⟨rfl,rfl⟩
  refine ae Jg Jg (aj Jg Jg (aS) (aj Jg Jg (aT) (ab Jg Jg (ab Jg Jg (ag (ac (af (af (aa (ae Jg Jg (ci Jg Jg cj ?_)))))))))))
  refine ae Jg Jg (ao Jg Jg Jg (ao Jg Jg Jg (ao Jg Jg Jg (ao Jg Jg Jg (aw Jg Jg Jg (ag (ac (bB Jg (af (aa ?_))))))))))
  refine bm (vs:=[]) Jg Jg d9 ?_
  refine ae Jg Jg (an ii Jg Jg (ij rr) ?_)
  rintro v27 w27 ⟨rfl,rs,g27⟩
  have m27:=(rr.rdT).kp g27
  have gg:=gg.trans g27
  have kk:=kk.other g27 hne
  have rr:=rs
  obtain⟨p,q,w3,hp,hs3,q3,k3,n3,d3⟩:=kk.stR ⟨_,_,_,rfl⟩ ⟨_,_,_,rfl⟩ (dc.mk (b:=false) (bt.nil _) (bt.nil _))
  refine ar Jg Jg (hs3) (ab Jg Jg (ag (ac (au (av ?_)))))
  refine bH Jg Jg Jg k3 IQ Jg cP ?_
  exact⟨_,rfl,ew gg q3 l2,by rw[hR];exact⟨_,rfl,⟨p,q,rfl,n3,d3⟩,(rr.rdT.off (kk.kpR ⟨_,_,_,rfl⟩ ⟨_,_,_,rfl⟩ q3) q3 hne').rdAt⟩⟩
 ·have hR:(some []).bind kB=none:=rfl
  refine aa (ae Jg Jg (an ig Jg Jg ((Bc (n:=1) rr (by decide))) ?_))
  rintro v14 _ ⟨rfl,rfl⟩
  refine ae Jg Jg (aj Jg Jg (aS) (aj Jg Jg (aT) (ab Jg Jg (ab Jg Jg (ag (ac (af (af (aa (ae Jg Jg (ci Jg Jg cj ?_)))))))))))
  refine ae Jg Jg (ao Jg Jg Jg (ao Jg Jg Jg (ao Jg Jg Jg (ao Jg Jg Jg (aw Jg Jg Jg (ag (ac (bB Jg (af (aa ?_))))))))))
  refine bm (vs:=[]) Jg Jg d9 ?_
  refine ae Jg Jg (an ii Jg Jg (ij rr) ?_)
  rintro v27 w27 ⟨rfl,rs,g27⟩
  have m27:=(rr.rdT).kp g27
  have gg:=gg.trans g27
  have kk:=kk.other g27 hne
  have rr:=rs
  obtain⟨p,q,w3,hp,hs3,q3,k3,n3,d3⟩:=kk.stR ⟨_,_,_,rfl⟩ ⟨_,_,_,rfl⟩ (dc.mk (b:=false) (bt.nil _) (bt.nil _))
  refine ar Jg Jg (hs3) (ab Jg Jg (ag (ac (au (av ?_)))))
  refine bH Jg Jg Jg k3 IQ Jg cP ?_
  exact⟨_,rfl,ew gg q3 l2,by rw[hR];exact⟨_,rfl,⟨p,q,rfl,n3,d3⟩,(rr.rdT.off (kk.kpR ⟨_,_,_,rfl⟩ ⟨_,_,_,rfl⟩ q3) q3 hne').rdAt⟩⟩
 ·refine aa (ae Jg Jg (an ig Jg Jg ((rZ (n:=1) rr (by simp))) ?_))
  rintro v14 w14 ⟨b14,rfl,hb,rs,g14⟩
  have m14:=(rr.rdT).kp g14
  have gg:=gg.trans g14
  have hs14:=gg.size
  have kk:=kk.other g14 hne
  have rr:aZ g (some l) w14:=rs
  have hb:cm [c] b14 w14:=hb
  refine ae Jg Jg (aj Jg Jg (aS) (aj Jg Jg (aT) (ab Jg Jg (ab Jg Jg (ag (ac (af (af (aa (ae Jg Jg (ci Jg Jg cj ?_)))))))))))
  refine ae Jg Jg (al Jg (ae Jg Jg (al Jg ?_)))
  obtain⟨a21,p21,q21⟩:=er hb (i:=0) (by simp) .i64
  refine aB Jg Jg Jg (p21 _) (al Jg (am Jg Jg (ak IR Jg q21) (al Jg (ai (v:=U8 1) Jg Jg Jg (om) (aC Jg Jg Jg ?_)))))
  refine ag (ac ?_)
  refine bi Jg (fun h24=>?_) (fun h24=>?_)
  ·have hc:1<c.toNat:=by have:=UInt8.lt_iff_toNat_lt.1 h24;simpa using this
   have hR:(some (c::l)).bind kB=none:=vJ hc
   refine af (aa ?_)
   refine bm (vs:=[]) Jg Jg d9 ?_
   refine ae Jg Jg (an ii Jg Jg (ij rr) ?_)
   rintro v27 w27 ⟨rfl,rs,g27⟩
   have m27:=(rr.rdT).kp g27
   have gg:=gg.trans g27
   have kk:=kk.other g27 hne
   have rr:=rs
   obtain⟨p,q,w3,hp,hs3,q3,k3,n3,d3⟩:=kk.stR ⟨_,_,_,rfl⟩ ⟨_,_,_,rfl⟩ (dc.mk (b:=false) (bt.nil _) (bt.nil _))
   refine ar Jg Jg (hs3) (ab Jg Jg (ag (ac (au (av ?_)))))
   refine bH Jg Jg Jg k3 IQ Jg cP ?_
   exact⟨_,rfl,ew gg q3 l2,by rw[hR];exact⟨_,rfl,⟨p,q,rfl,n3,d3⟩,(rr.rdT.off (kk.kpR ⟨_,_,_,rfl⟩ ⟨_,_,_,rfl⟩ q3) q3 hne').rdAt⟩⟩
  ·have hc:¬1<c.toNat:=fun hh=>h24 (UInt8.lt_iff_toNat_lt.2 (by simpa using hh))
   have hl1:∀l',some l=some l'→l'.length≤549755813888:=fun l' e=>by
    have:=hl _ rfl
    cases e
    simp at this;omega
   refine aq (ac (af ?_))
   rcases hN:pz l with _|⟨m,t⟩
   ·have hR:(some (c::l)).bind kB=none:=zI hN
    refine aa (ae Jg Jg (an ki Jg Jg ((uh (st:=some l) rr hl1 hN)) ?_))
    rintro v30 w30 ⟨g30,v0,rfl,_,_,rs⟩
    have m30:=(rr.rdT).kp g30
    have gg:=gg.trans g30
    have hs30:=gg.size
    have kk:=kk.other g30 hne
    have rr:=rs
    refine ae Jg Jg (aj Jg Jg (aS) (aj Jg Jg (aT) (ab Jg Jg (ab Jg Jg (ag (ac (af (af (aa (ae Jg Jg (ci Jg Jg cj ?_)))))))))))
    refine ag (ac (bB Jg (af (aa ?_))))
    refine bm (vs:=[]) Jg Jg d9 ?_
    refine ae Jg Jg (an ii Jg Jg (ij rr) ?_)
    rintro v37 w37 ⟨rfl,rs,g37⟩
    have m37:=(rr.rdT).kp g37
    have gg:=gg.trans g37
    have kk:=kk.other g37 hne
    have rr:=rs
    obtain⟨p,q,w3,hp,hs3,q3,k3,n3,d3⟩:=kk.stR ⟨_,_,_,rfl⟩ ⟨_,_,_,rfl⟩ (dc.mk (b:=false) (bt.nil _) (bt.nil _))
    refine ar Jg Jg (hs3) (ab Jg Jg (ag (ac (au (av ?_)))))
    refine bH Jg Jg Jg k3 IQ Jg cP ?_
    exact⟨_,rfl,ew gg q3 l2,by rw[hR];exact⟨_,rfl,⟨p,q,rfl,n3,d3⟩,(rr.rdT.off (kk.kpR ⟨_,_,_,rfl⟩ ⟨_,_,_,rfl⟩ q3) q3 hne').rdAt⟩⟩
   ·refine aa (ae Jg Jg (an ki Jg Jg ((nD (st:=some l) rr hl1 hN)) ?_))
    rintro v30 w30 ⟨g30,v0,rfl,h0,rs,f0⟩
    have m30:=(rr.rdT).kp g30
    have gg:=gg.trans g30
    have hs30:=gg.size
    have kk:=kk.other g30 hne
    have rr:=rs
    refine ae Jg Jg (aj Jg Jg (aS) (aj Jg Jg (aT) (ab Jg Jg (ab Jg Jg (ag (ac (af (af (aa (ae Jg Jg (ci Jg Jg cj ?_)))))))))))
    refine ag (ac (cq Jg (aq (ac (af ?_)))))
    have hl2:∀l',some t=some l'→l'.length≤549755813888:=fun l' e=>by
     cases e
     have h1:=(fl hN).1
     have:=hl1 _ rfl
     rw[h1,List.length_append] at this
     omega
    obtain⟨s,hs⟩:∃s,s=decide (c.toNat=1):=⟨_,rfl⟩
    have hcs:s=decide (([c]:List UInt8)[0]'(Nat.zero_lt_one)=(1:UInt8)):=by
     rw[hs]
     exact decide_eq_decide.2 ⟨fun h=>sv.1 h,fun h=>sv.2 h⟩
    have hR1:=su hc hN
    rw[←hs] at hR1
    rcases hM:pz t with _|⟨m',t'⟩
    rotate_left
    rcases hV:rv s m m'
    ·have hR:(some (c::l)).bind kB=none:=by
      show kB (c::l)=none
      rw[hR1,hM]
      exact if_neg (by rw[hV];simp)
     refine aa (ae Jg Jg (an ki Jg Jg ((CE (st:=some t) rr hl2 hM)) ?_))
     rintro v40 w40 ⟨g40,v1,rfl,h1,rs⟩
     have m40:=(rr.rdT).kp g40
     have gg:=gg.trans g40
     have kk:=kk.other g40 hne
     have rr:=rs
     refine ae Jg Jg (aj Jg Jg (aS) (aj Jg Jg (aT) (ab Jg Jg (ab Jg Jg (ag (ac (af (aa (ae Jg Jg ?_)))))))))
     obtain⟨a44,p44,q44⟩:=er (hb.kp (m30.trans m40)) (i:=0) (by simp) .i64
     refine aB Jg Jg Jg (p44 _) (am Jg Jg (ak IR Jg q44) (ai (v:=U8 1) (r:=B s) Jg Jg Jg ((by rw[hcs];exact iC)) ?_))
     refine ae Jg Jg (ae Jg Jg ?_)
     refine bm (vs:=[(0,B s),(1,v0),(2,v1)]) Jg Jg (j9 h0.isS h1.isS) ?_
     obtain⟨g8,w8,hr8,l8,x8,k8⟩:=fH (w:=w40)
     refine bh Jg hr8 ?_
     obtain⟨p,q,w4,hp,hs4,q4,k4,n4,d4⟩:=k8.stR ⟨_,_,_,rfl⟩ ⟨_,_,_,rfl⟩ (dc.mk (b:=s) ((h0.kp m40).ext x8) (h1.ext x8))
     refine ar Jg Jg (hs4) ?_
     have x4:=x8.of_new q4 l8
     have rr:=rr.ext x4
     have kk:=kk.ext x4
     have gg:=gg.trans (dA x4)
     have hml:m.length≤137438953472:=by
      have:=hl1 _ rfl
      rw[(fl hN).1,List.length_append,kY,List.length_append,fe] at this
      omega
     refine ag (ac (af (af (aa (ae Jg Jg (ci Jg Jg cj (ae Jg Jg (al Jg (am Jg Jg (k4.ldR) (al Jg ?_))))))))))
     have hml':m'.length≤137438953472:=by
      have:=hl2 _ rfl
      rw[(fl hM).1,List.length_append,kY,List.length_append,fe] at this
      omega
     refine an ql Jg Jg ((by have:=qm (b:=s) (dc.mk n4 d4) hml hml';rw[hV] at this;exact this)) ?_
     rintro v54 w54 ⟨x54,rfl⟩
     have rr:=rr.ext x54
     have kk:=kk.ext x54
     have gg:=gg.trans (dA x54)
     refine al Jg (ci Jg Jg cj (aC Jg Jg Jg (ag (ac (bB Jg (af (aa ?_)))))))
     refine bm (vs:=[]) Jg Jg d9 ?_
     refine ae Jg Jg (an ii Jg Jg (ij rr) ?_)
     rintro v59 w59 ⟨rfl,rs,g59⟩
     have m59:=(rr.rdT).kp g59
     have gg:=gg.trans g59
     have kk:=kk.other g59 hne
     have rr:=rs
     obtain⟨p,q,w3,hp,hs3,q3,k3,n3,d3⟩:=kk.stR ⟨_,_,_,rfl⟩ ⟨_,_,_,rfl⟩ (dc.mk (b:=false) (bt.nil _) (bt.nil _))
     refine ar Jg Jg (hs3) (ab Jg Jg (ag (ac (au (av ?_)))))
     refine bH Jg Jg Jg k3 IQ Jg cP ?_
     exact⟨_,rfl,ew gg q3 l2,by rw[hR];exact⟨_,rfl,⟨p,q,rfl,n3,d3⟩,(rr.rdT.off (kk.kpR ⟨_,_,_,rfl⟩ ⟨_,_,_,rfl⟩ q3) q3 hne').rdAt⟩⟩
    ·have hR:(some (c::l)).bind kB=some ((s,m,m'),t'):=by
      show kB (c::l)=_
      rw[hR1,hM]
      exact if_pos hV
     refine aa (ae Jg Jg (an ki Jg Jg ((nD (st:=some t) rr hl2 hM)) ?_))
     rintro v40 w40 ⟨g40,v1,rfl,h1,rs,f1⟩
     have m40:=(rr.rdT).kp g40
     have gg:=gg.trans g40
     have kk:=kk.other g40 hne
     have rr:=rs
     refine ae Jg Jg (aj Jg Jg (aS) (aj Jg Jg (aT) (ab Jg Jg (ab Jg Jg (ag (ac (af (aa (ae Jg Jg ?_)))))))))
     obtain⟨a44,p44,q44⟩:=er (hb.kp (m30.trans m40)) (i:=0) (by simp) .i64
     refine aB Jg Jg Jg (p44 _) (am Jg Jg (ak IR Jg q44) (ai (v:=U8 1) (r:=B s) Jg Jg Jg ((by rw[hcs];exact iC)) ?_))
     refine ae Jg Jg (ae Jg Jg ?_)
     refine bm (vs:=[(0,B s),(1,v0),(2,v1)]) Jg Jg (j9 h0.isS h1.isS) ?_
     obtain⟨g8,w8,hr8,l8,x8,k8⟩:=fH (w:=w40)
     refine bh Jg hr8 ?_
     obtain⟨p,q,w4,hp,hs4,q4,k4,n4,d4⟩:=k8.stR ⟨_,_,_,rfl⟩ ⟨_,_,_,rfl⟩ (dc.mk (b:=s) ((h0.kp m40).ext x8) (h1.ext x8))
     refine ar Jg Jg (hs4) ?_
     have x4:=x8.of_new q4 l8
     have rr:=rr.ext x4
     have kk:=kk.ext x4
     have gg:=gg.trans (dA x4)
     have hml:m.length≤137438953472:=by
      have:=hl1 _ rfl
      rw[(fl hN).1,List.length_append,kY,List.length_append,fe] at this
      omega
     refine ag (ac (af (af (aa (ae Jg Jg (ci Jg Jg cj (ae Jg Jg (al Jg (am Jg Jg (k4.ldR) (al Jg ?_))))))))))
     have hml':m'.length≤137438953472:=by
      have:=hl2 _ rfl
      rw[(fl hM).1,List.length_append,kY,List.length_append,fe] at this
      omega
     refine an ql Jg Jg ((by have:=qm (b:=s) (dc.mk n4 d4) hml hml';rw[hV] at this;exact this)) ?_
     rintro v54 w54 ⟨x54,rfl⟩
     have rr:=rr.ext x54
     have kk:=kk.ext x54
     have gg:=gg.trans (dA x54)
     refine al Jg (ci Jg Jg cj (aC Jg Jg Jg (ag (ac (cq Jg (aq (ac (af (aa (am Jg Jg ((k4.ext x54).ldR) ?_))))))))))
     obtain⟨ea,eb⟩:=ss hp
     obtain⟨p,q,w3,hp,hs3,q3,k3,n3,d3⟩:=kk.stR ⟨_,_,_,rfl⟩ ⟨_,_,_,rfl⟩ ((dc.mk n4 d4).ext x54)
     refine ar Jg Jg (hs3) (ab Jg Jg (ag (ac (au ?_))))
     refine bH Jg Jg Jg k3 IQ Jg cP ?_
     exact⟨_,rfl,ew gg q3 l2,by
      rw[hR]
      obtain⟨ec,ed⟩:=ss hp
      exact⟨p,q,rfl,n3,d3,(rr.rdT.off (kk.kpR ⟨_,_,_,rfl⟩ ⟨_,_,_,rfl⟩ q3) q3 hne').rdAt,ec▸ea▸(fun k hk=>Nat.le_trans hs14 (f0 k hk)),ed▸eb▸(fun k hk=>Nat.le_trans hs30 (f1 k hk))⟩⟩
    ·have hR:(some (c::l)).bind kB=none:=by
      show kB (c::l)=none
      rw[hR1,hM];rfl
     refine aa (ae Jg Jg (an ki Jg Jg ((uh (st:=some t) rr hl2 hM)) ?_))
     rintro v40 w40 ⟨g40,v1,rfl,⟨m',h1⟩,_,rs⟩
     have m40:=(rr.rdT).kp g40
     have gg:=gg.trans g40
     have kk:=kk.other g40 hne
     have rr:=rs
     refine ae Jg Jg (aj Jg Jg (aS) (aj Jg Jg (aT) (ab Jg Jg (ab Jg Jg (ag (ac (af (aa (ae Jg Jg ?_)))))))))
     obtain⟨a44,p44,q44⟩:=er (hb.kp (m30.trans m40)) (i:=0) (by simp) .i64
     refine aB Jg Jg Jg (p44 _) (am Jg Jg (ak IR Jg q44) (ai (v:=U8 1) (r:=B s) Jg Jg Jg ((by rw[hcs];exact iC)) ?_))
     refine ae Jg Jg (ae Jg Jg ?_)
     refine bm (vs:=[(0,B s),(1,v0),(2,v1)]) Jg Jg (j9 h0.isS h1.isS) ?_
     obtain⟨g8,w8,hr8,l8,x8,k8⟩:=fH (w:=w40)
     refine bh Jg hr8 ?_
     obtain⟨p,q,w4,hp,hs4,q4,k4,n4,d4⟩:=k8.stR ⟨_,_,_,rfl⟩ ⟨_,_,_,rfl⟩ (dc.mk (b:=s) ((h0.kp m40).ext x8) (h1.ext x8))
     refine ar Jg Jg (hs4) ?_
     have x4:=x8.of_new q4 l8
     have rr:=rr.ext x4
     have kk:=kk.ext x4
     have gg:=gg.trans (dA x4)
     have hml:m.length≤137438953472:=by
      have:=hl1 _ rfl
      rw[(fl hN).1,List.length_append,kY,List.length_append,fe] at this
      omega
     refine ag (ac (af (af (aa (ae Jg Jg (ci Jg Jg cj (ae Jg Jg (ao Jg Jg Jg (ao Jg Jg Jg (ao Jg Jg Jg (aw Jg Jg Jg (ag (ac ?_)))))))))))))
     refine bB Jg (af (aa ?_))
     refine bm (vs:=[]) Jg Jg d9 ?_
     refine ae Jg Jg (an ii Jg Jg (ij rr) ?_)
     rintro v59 w59 ⟨rfl,rs,g59⟩
     have m59:=(rr.rdT).kp g59
     have gg:=gg.trans g59
     have kk:=kk.other g59 hne
     have rr:=rs
     obtain⟨p,q,w3,hp,hs3,q3,k3,n3,d3⟩:=kk.stR ⟨_,_,_,rfl⟩ ⟨_,_,_,rfl⟩ (dc.mk (b:=false) (bt.nil _) (bt.nil _))
     refine ar Jg Jg (hs3) (ab Jg Jg (ag (ac (au (av ?_)))))
     refine bH Jg Jg Jg k3 IQ Jg cP ?_
     exact⟨_,rfl,ew gg q3 l2,by rw[hR];exact⟨_,rfl,⟨p,q,rfl,n3,d3⟩,(rr.rdT.off (kk.kpR ⟨_,_,_,rfl⟩ ⟨_,_,_,rfl⟩ q3) q3 hne').rdAt⟩⟩
end Go.Rl
namespace Go.Rl
open Go.RowKit Go.Proofs
theorem pB:az Tryz.prog 24:=⟨_,Tryz.func24,by kernel_rfl,rfl⟩
theorem cQ:az Tryz.prog 61:=⟨_,Tryz.func61,by kernel_rfl,rfl⟩
theorem cA:az Tryz.prog 25:=⟨_,Tryz.func25,by kernel_rfl,rfl⟩
theorem il:az Tryz.prog 152:=⟨_,Tryz.func152,by kernel_rfl,rfl⟩
theorem gy:az Tryz.prog 181:=⟨_,Tryz.func181,by kernel_rfl,rfl⟩
theorem pC:az Tryz.prog 153:=⟨_,Tryz.func153,by kernel_rfl,rfl⟩
theorem qq:az Tryz.prog 82:=⟨_,Tryz.func82,by kernel_rfl,rfl⟩
theorem nE:az Tryz.prog 115:=⟨_,Tryz.func115,by kernel_rfl,rfl⟩
theorem tH:(Tryz.prog.info? 109).map (·.zero)=some (some (.agg #[.slice none 0 0,.bool false])):=by kernel_rfl
def cc (g:Nat) (st:Option (List UInt8)) (w:World):Prop:=dL 109 g st w
theorem cc.ext {g:Nat} {st:Option (List UInt8)} {w w':World} (h:cc g st w) (hx:aM w w'):cc g st w':=dL.ext h hx
theorem cc.lt {w:World} {g:Nat} {st:Option (List UInt8)} (h:cc g st w):g<w.heap.size:=by
 obtain⟨A,n,c,h1,_⟩:=h
 exact cd.lt h1
theorem xW {st:Option (List UInt8)}:st.bind cZ=cZ (st.getD []):=by cases st<;>rfl
theorem xX {acc mult:UInt64} {c:UInt8} {k:Nat} (ha:acc.toNat<128^k) (hk:k≤9) (h9:k=9→c.toNat%128≤1) (hm:mult.toNat=128^k):
 (acc+(c%128).toUInt64*mult).toNat=acc.toNat+(c.toNat%128)*128^k:=by
 have e1:((c%128).toUInt64).toNat=c.toNat%128:=by rw[UInt8.toNat_toUInt64,UInt8.toNat_mod];rfl
 rw[UInt64.toNat_add,UInt64.toNat_mul,e1,hm]
 rcases Nat.lt_or_ge k 9 with h|h
 ·have h1:(c.toNat%128)*128^k≤127*128^8:=Nat.mul_le_mul (by omega) (Nat.pow_le_pow_right (by omega) (by omega))
  have h2:128^k≤128^8:=Nat.pow_le_pow_right (by omega) (by omega)
  have e:(128:Nat)^8=72057594037927936:=by decide
  rw[Nat.mod_eq_of_lt (by omega),Nat.mod_eq_of_lt (by omega)]
 ·have h':k=9:=by omega
  subst h'
  have:=h9 rfl
  have e:(128:Nat)^9=9223372036854775808:=by decide
  rw[e] at ha⊢
  rw[Nat.mod_eq_of_lt (by omega),Nat.mod_eq_of_lt (by omega)]
theorem pD {w:World} {l:List UInt8} {v:Value} (hv:cm l v w) (hl:l.length≤140737488355328):
 Calls Tryz.prog 24 #[v] w (bF fun r w'=>aM w w'∧∃g,w.heap.size≤g∧r=.pointer (some ⟨g,0,none⟩)∧cc g (some l) w'):=by
 refine enter (vs:=[v]) Tryz.func24 Jg Jg Jg ?_
 refine af (aa (ab Jg Jg (ag (ac (af (aa ?_))))))
 obtain⟨v3,w3,hr3,x3,o3,ob3⟩:=fq (w:=w) w.heap.size [] (by simp) (Nat.le_refl _)
 refine aN (vs:=[]) Jg Jg hr3 (ae Jg Jg ?_)
 obtain⟨v5,w5,hr5,o5,g5⟩:=di (ty:=28) o3 (hv.ext x3) (by simpa using hl) (x3).size
 have x5:=aM.of_grew (x3) g5 o3.ge
 refine be Jg Jg hr5 ?_
 obtain⟨A,n,c,rfl,_⟩:=id o5.bts
 refine bm (vs:=[(0,.slice A n c)]) Jg Jg (r:=.agg #[.slice A n c,.bool false]) (by simp[Instr.build,run_underlying Tryz.underlying109,pm tH,dE cn,dE fP,Instr.fill,Value.cells]) ?_
 refine cY Jg Jg (ov) (ab Jg Jg (ag (ac (au (aF Jg Jg ?_)))))
 exact⟨_,rfl,(x5).trans (aM.new _ _),_,(x5).size,rfl,A,n,c,heap_alloc_new _ _,o5.bts.ext (aM.new _ _),fun ad had=>o5.elim fun _ h=>(World.ownsRow.lt h ad.block (by rw[had];rfl)).2⟩
theorem cS {w:World} {g:Nat} {st:Option (List UInt8)} (hr:cc g st w):
 Calls Tryz.prog 61 #[.pointer (some ⟨g,0,none⟩)] w (bF fun r w'=>r=I 5∧cc g none w'∧w.grownBy w' (some g)):=by
 refine enter (vs:=[.pointer (some ⟨g,0,none⟩)]) Tryz.func61 Jg Jg Jg ?_
 obtain⟨A,n,c,k0,b0,_⟩:=hr
 refine af (aa (ab Jg Jg (ag (ac (af (aa (ae Jg Jg (ae Jg Jg (aG Jg Jg (ah Jg Jg (aE (o:=0) IT Jg (by kernel_rfl) Jg) ?_))))))))))
 refine ar Jg Jg (dm cn Jg k0 (by simp)) ?_
 have k1:=k0.set 0 (.slice none 0 0)
 refine aG Jg Jg (ah Jg Jg (aE (o:=1) Tryz.underlying109 Jg (by kernel_rfl) Jg) (ar Jg Jg (dm (i:=1) fP Jg k1 (by simp)) ?_))
 refine ag (ac (af (aa (ab Jg Jg (ag (ac (au (aF Jg Jg ?_))))))))
 exact⟨_,rfl,rfl,⟨none,0,0,k1.set 1 (.bool true),cm.nil _,oF.none g⟩,(aY w g 0 _).trans (aY _ g 1 _)⟩
theorem nG {w:World} {g:Nat} {st:Option (List UInt8)} (hr:cc g st w):
 Calls Tryz.prog 115 #[.pointer (some ⟨g,0,none⟩)] w (bF fun r w'=>r=I (if st=some [] then 0 else 5)∧w'=w):=by
 refine enter (vs:=[.pointer (some ⟨g,0,none⟩)]) Tryz.func115 Jg Jg Jg ?_
 obtain⟨A,n,c,k0,b0,_⟩:=hr
 refine af (aa (ab Jg Jg (ag (ac (af (af ?_))))))
 rcases st with _|l
 ·refine aa (ae Jg Jg (aG Jg Jg (ah Jg Jg (aE (o:=1) IT Jg (by kernel_rfl) Jg) (am Jg Jg (ak IU Jg (k0.cell (i:=1) Jg)) ?_))))
  refine ae Jg Jg (ao Jg Jg Jg (ao Jg Jg Jg (ao Jg Jg Jg (ao Jg Jg Jg (ao Jg Jg Jg (ao Jg Jg Jg (aw Jg Jg Jg (ag (ac (bB Jg (af ?_)))))))))))
  refine aa (ab Jg Jg (ag (ac (au (av (aF Jg Jg ?_))))))
  exact⟨_,rfl,rfl,rfl⟩
 ·have b0:cm l (.slice A n c) w:=b0
  refine aa (ae Jg Jg (aG Jg Jg (ah Jg Jg (aE (o:=1) IT Jg (by kernel_rfl) Jg) (am Jg Jg (ak IU Jg (k0.cell (i:=1) Jg)) ?_))))
  refine ae Jg Jg (al Jg (ae Jg Jg (al Jg (aG Jg Jg (al Jg (ah Jg Jg (aE (o:=0) IT Jg (by kernel_rfl) Jg) ?_))))))
  refine al Jg (am Jg Jg (ak IP Jg (k0.cell (i:=0) Jg)) (al Jg (aP Jg Jg (bz b0) (al Jg (ai Jg Jg Jg (ce) ?_)))))
  refine aC Jg Jg Jg (ag (ac ?_))
  refine bi Jg (fun h14=>?_) (fun h14=>?_)
  ·refine af (aa (ab Jg Jg (ag (ac (au (av (aF Jg Jg ?_)))))))
   exact⟨_,rfl,by rw[if_neg (by rintro⟨⟩;simp at h14)];rfl,rfl⟩
  ·refine aq (ac (af (aa (ab Jg Jg (ag (ac (au (aF Jg Jg ?_))))))))
   exact⟨_,rfl,by
    have h0:l=[]:=List.eq_nil_of_length_eq_zero (by omega)
    rw[h0];rfl,rfl⟩
def Hs (g:Nat) (w:World) (o:Option (Nat×List UInt8)) (r:Value) (w':World):Prop:=
 w.grownBy w' (some g)∧match o with
  |some (n,t)=>r=.tuple #[bj (UInt64.ofNat n),I 0]∧cc g (some t) w'
  |none=>r=.tuple #[bj 0,I 5]∧cc g none w'
theorem uj (k:Nat) (l:List UInt8):kV 0 k l=none:=rfl
theorem gz {k:Nat} {c:UInt8} {l:List UInt8} (hk:k≤9):kV (10-k) k (c::l)=if (k=9∧1<c.toNat)∨(0<k∧c.toNat=0) then none else if c.toNat<128 then some (c.toNat*128^k,l) else(kV (10-(k+1)) (k+1) l).map fun p=>(p.1+(c.toNat%128)*128^k,p.2):=by
 rw[show 10-k=(9-k)+1 by omega,show 10-(k+1)=9-k by omega];rfl
theorem sx {w:World} {g:Nat} {st:Option (List UInt8)} (hr:cc g st w):
 Calls Tryz.prog 25 #[.pointer (some ⟨g,0,none⟩)] w (bF (Hs g w (st.bind cZ))):=by
 refine enter (vs:=[.pointer (some ⟨g,0,none⟩)]) Tryz.func25 Jg Jg Jg ?_
 obtain⟨A,n,c0,k0,b0,lc⟩:=id hr
 rw[xW]
 obtain⟨l,hl0⟩:∃l,l=st.getD []:=⟨_,rfl⟩
 rw[←hl0] at b0⊢
 refine af (aa (ab Jg Jg (ab Jg Jg (ag (ac (af (aa (ab Jg Jg (ab Jg Jg (ag (ac (af (af (aa (ab Jg Jg (ag ?_))))))))))))))))
 refine ac (ax ?_)
 refine fN (fun(i:Nat) (acc:UInt64) (mult:UInt64)=>[(0,.pointer (some ⟨g,0,none⟩)),(4,bj acc),(5,bj mult),(6,I (i:Int))]) (fun(i:Nat) (acc:UInt64) (mult:UInt64) w'=>w=w'∧i≤10∧i≤l.length∧(i≤9→mult.toNat=128^i)∧acc.toNat<128^i∧cZ l=(kV (10-i) i (l.drop i)).map fun p=>(p.1+acc.toNat,p.2)) (fun(i:Nat) (acc:UInt64) (mult:UInt64)=>10-i) (0) (0) (1) ⟨rfl,rfl,rfl,rfl,trivial⟩ ⟨rfl,by omega,by omega,fun _=>rfl,by simp,by simp[cZ]⟩ ?_
 rintro i acc mult _ ⟨rfl,hi,hil,hm,ha,hrd⟩
 refine af (af (aa (ae Jg Jg (ae Jg Jg (aG Jg Jg (ah Jg Jg (aE (o:=0) IT Jg (by kernel_rfl) Jg) ?_))))))
 refine am Jg Jg (ak IP Jg (k0.cell (i:=0) Jg)) (aP Jg Jg (bz b0) (ai Jg Jg Jg (aX) (ae Jg Jg ?_)))
 refine cJ (fun h15=>?_) (fun h15=>?_)
 ·refine al Jg (ae Jg Jg (al Jg (ai Jg Jg Jg (aX) (aw Jg Jg Jg (ag (ac ?_))))))
  refine bi Jg (fun h18=>?_) (fun h18=>?_)
  ·refine aq (ac (af (ax (af (aa (ae Jg Jg (aG Jg Jg (ah Jg Jg (aE (o:=0) IT Jg (by kernel_rfl) Jg) ?_))))))))
   refine am Jg Jg (ak IP Jg (k0.cell (i:=0) Jg)) (ae Jg Jg ?_)
   obtain⟨a26,p26,q26⟩:=er b0 (i:=i) (by omega) .i64
   refine aB Jg Jg Jg (p26 _) (am Jg Jg (ak IR Jg q26) ?_)
   have hil':i<l.length:=by omega
   have hdr:=List.drop_eq_getElem_cons hil'
   have hd:((l[i]%128).toUInt64).toNat=l[i].toNat%128:=by rw[UInt8.toNat_toUInt64,UInt8.toNat_mod];rfl
   have hst:st=some l:=by
    cases st with
    |none=>rw[show l=[] from hl0] at hil';simp at hil'
    |some l'=>rw[show l=l' from hl0]
   refine ai (v:=U8 128) Jg Jg Jg (xh (by decide)) (aQ Jg Jg (rB IR IL) (ab Jg Jg (ag ?_)))
   refine ac (af ?_)
   refine eV (fun _:Unit=>[(0,.pointer (some ⟨g,0,none⟩)),(4,bj acc),(5,bj mult),(6,I (i:Int)),(7,bj ((l[i]%128).toUInt64))]) (fun _ w'=>w=w'∧(i=9→l[i].toNat%128≤1)) ?_ ?_
   ·refine af (aa (ae Jg Jg (ai Jg Jg Jg (aV) (ae Jg Jg ?_))))
    refine cJ (fun h32=>?_) (fun h32=>?_)
    ·refine al Jg (ae Jg Jg (al Jg (ai (v:=bj 1) Jg Jg Jg (ck) (aw Jg Jg Jg (ag (ac ?_))))))
     refine bi Jg (fun h35=>?_) (fun h35=>?_)
     ·have hn:cZ l=none:=by
       have h35:=UInt64.lt_iff_toNat_lt.1 h35
       rw[hd,show(1:UInt64).toNat=1 from rfl] at h35
       rw[hrd,hdr,gz (by omega),if_pos (Or.inl ⟨by omega,by omega⟩)];rfl
      refine af (aa (ae Jg Jg (an cQ Jg Jg (cS hr) ?_)))
      rintro v37 w37 ⟨rfl,hr2,gg⟩
      have m37:=dL.kp hr gg
      refine ab Jg Jg (ab Jg Jg (ag (ac (au (av (av (bc (av (av (bc (av (aH Jg Jg Jg ?_))))))))))))
      exact⟨_,rfl,gg,by rw[hn];exact⟨rfl,hr2⟩⟩
     ·refine aq ?_
      exact cv () ⟨rfl,rfl,rfl,rfl,rfl,trivial⟩ ⟨rfl,fun h9=>by
       first
       |exact absurd h9 (by omega)
       |(refine Nat.le_of_not_lt fun hh=>h35 (UInt64.lt_iff_toNat_lt.2 ?_);rw[hd];exact hh)⟩
    ·refine ao Jg Jg Jg (ao Jg Jg Jg (aC Jg Jg Jg (ag (ac (cq Jg (aq ?_))))))
     exact cv () ⟨rfl,rfl,rfl,rfl,rfl,trivial⟩ ⟨rfl,fun h9=>by
      first
      |exact absurd h9 (by omega)
      |(refine Nat.le_of_not_lt fun hh=>h35 (UInt64.lt_iff_toNat_lt.2 ?_);rw[hd];exact hh)⟩
   rintro⟨⟩ _ ⟨rfl,h9⟩
   refine ac (af ?_)
   have hab:=xX (c:=l[i]) ha (by omega) h9 (hm (by omega))
   refine aa (ae Jg Jg (ae Jg Jg (ae Jg Jg (ai Jg Jg Jg (fM) (ai Jg Jg Jg (dn) (ab Jg Jg (ag (ac (af (aa (ae Jg Jg ?_)))))))))))
   refine ai (v:=bj 128) Jg Jg Jg (fM) (ab Jg Jg (ag (ac (af (aa (ae Jg Jg (aG Jg Jg (ah Jg Jg (aE (o:=0) IT Jg (by kernel_rfl) Jg) ?_))))))))
   refine am Jg Jg (ak IP Jg (k0.cell (i:=0) Jg)) (ae Jg Jg ?_)
   obtain⟨a50,p50,q50⟩:=er b0 (i:=i) (by omega) .i64
   refine aB Jg Jg Jg (p50 _) (am Jg Jg (ak IR Jg q50) (ai (v:=U8 128) Jg Jg Jg (j1) (ag (ac ?_))))
   refine bi Jg (fun h52=>?_) (fun h52=>?_)
   ·have hc:l[i].toNat<128:=UInt8.lt_iff_toNat_lt.1 h52
    refine af ?_
    refine eV (fun _:Unit=>[(0,.pointer (some ⟨g,0,none⟩)),(4,bj (acc+(l[i]%128).toUInt64*mult)),(6,I (i:Int))]) (fun _ w'=>w=w'∧¬(0<i∧l[i].toNat=0)) ?_ ?_
    ·refine af (aa (ae Jg Jg (ai Jg Jg Jg (ce) (ae Jg Jg ?_))))
     refine cJ (fun h55=>?_) (fun h55=>?_)
     ·refine al Jg (ae Jg Jg (al Jg (ai (v:=bj 0) Jg Jg Jg (fy) (aw Jg Jg Jg (ag (ac ?_))))))
      refine bi Jg (fun h58=>?_) (fun h58=>?_)
      ·have hn:cZ l=none:=by
        have h58:=congrArg UInt64.toNat h58
        rw[hd,show(0:UInt64).toNat=0 from rfl] at h58
        rw[hrd,hdr,gz (by omega),if_pos (Or.inr ⟨by omega,by omega⟩)];rfl
       refine af (aa (ae Jg Jg (an cQ Jg Jg (cS hr) ?_)))
       rintro v60 w60 ⟨rfl,hr2,gg⟩
       have m60:=dL.kp hr gg
       refine ab Jg Jg (ab Jg Jg (ag (ac (au (av (av (bc (av (av (bc (av (aH Jg Jg Jg ?_))))))))))))
       exact⟨_,rfl,gg,by rw[hn];exact⟨rfl,hr2⟩⟩
      ·refine aq ?_
       exact cv () ⟨rfl,rfl,rfl,trivial⟩ ⟨rfl,fun hh=>by
        first
        |omega
        |exact h58 (by rw[UInt8.toNat_inj.1 (show l[i].toNat=(0:UInt8).toNat from hh.2)];rfl)⟩
     ·refine ao Jg Jg Jg (ao Jg Jg Jg (aC Jg Jg Jg (ag (ac (cq Jg (aq ?_))))))
      exact cv () ⟨rfl,rfl,rfl,trivial⟩ ⟨rfl,fun hh=>by
       first
       |omega
       |exact h58 (by rw[UInt8.toNat_inj.1 (show l[i].toNat=(0:UInt8).toNat from hh.2)];rfl)⟩
    rintro⟨⟩ _ ⟨rfl,hz⟩
    refine ac (af (aa (ae Jg Jg (ae Jg Jg (aG Jg Jg (ah Jg Jg (aE (o:=0) IT Jg (by kernel_rfl) Jg) ?_))))))
    refine am Jg Jg (ak IP Jg (k0.cell (i:=0) Jg)) (ae Jg Jg (ai (r:=I ((i+1:Nat):Int)) Jg Jg Jg (by have e:((i+1:Nat):Int)=(i:Int)+1:=(by omega);rw[e];exact aK (by omega) (by omega)) ?_))
    obtain⟨v68,p68,b68⟩:=eZ b0 (lo:=i+1) (by omega) .i64
    refine cu Jg Jg Jg Jg Jg (p68 _) (aG Jg Jg (ah Jg Jg (aE (o:=0) IT Jg (by kernel_rfl) Jg) ?_))
    obtain⟨w3,hs3,q3,r3⟩:=dL.set (by have:=hr;rw[hst] at this;exact this) b68 (rY (p68 w) lc)
    refine ar Jg Jg (hs3) (ag (ac (af (aa (ae Jg Jg (ab Jg Jg (ab Jg Jg (ag (ac (au (bc (av (av (bc (av (aH Jg Jg Jg ?_))))))))))))))))
    exact⟨_,rfl,q3,by
     rw[hrd,hdr,gz (by omega),if_neg (fun hh=>hh.elim (fun h=>by have:=h9 h.1;omega) hz),if_pos hc]
     rw[Nat.mod_eq_of_lt hc] at hab
     exact⟨by rw[Nat.add_comm,←hab,UInt64.ofNat_toNat];rfl,r3⟩⟩
   ·have hc:¬l[i].toNat<128:=fun hh=>h52 (UInt8.lt_iff_toNat_lt.2 hh)
    refine aq (aJ (ac (aa (ae Jg Jg (ai (r:=I ((i+1:Nat):Int)) Jg Jg Jg (by have e:((i+1:Nat):Int)=(i:Int)+1:=(by omega);rw[e];exact aK (by omega) (by omega)) ?_)))))
    refine ab Jg Jg (ag ?_)
    refine dv (i+1) (acc+(l[i]%128).toUInt64*mult) (mult*128) ⟨rfl,rfl,rfl,rfl,trivial⟩ ⟨rfl,by omega,by omega,fun hi9=>by
     rw[UInt64.toNat_mul,hm (by omega),show(128:UInt64).toNat=128 from rfl,←Nat.pow_succ]
     exact Nat.mod_eq_of_lt (Nat.lt_of_le_of_lt (Nat.pow_le_pow_right (by omega) hi9) (by decide)),by
     rw[hab,Nat.pow_succ]
     have:(l[i].toNat%128)*128^i≤127*128^i:=Nat.mul_le_mul_right _ (by omega)
     omega,by
     rw[hrd,hdr,gz (by omega),hab]
     by_cases hi9:i=9
     ·subst hi9
      rw[if_pos (Or.inl ⟨rfl,by omega⟩),show 10-(9+1)=0 by omega,uj,Option.map_none,Option.map_none]
     ·rw[if_neg (fun hh=>by omega),if_neg hc,Option.map_map]
      congr 1
      funext p
      simp only[Function.comp,Prod.mk.injEq,and_true]
      omega⟩ (by omega)
  ·refine aW (aA (aA (aU (ac (af (aa (ae Jg Jg (an cQ Jg Jg (cS hr) ?_))))))))
   rintro v73 w73 ⟨rfl,hr2,gg⟩
   have m73:=dL.kp hr gg
   refine ab Jg Jg (ab Jg Jg (ag (ac (au (aH Jg Jg Jg ?_)))))
   exact⟨_,rfl,gg,by
    have hn:cZ l=none:=by
     rw[hrd]
     rcases Nat.lt_or_ge i 10 with h|h
     ·rw[List.drop_of_length_le (by omega),lS];rfl
     ·rw[show 10-i=0 by omega];rfl
    rw[hn];exact⟨rfl,hr2⟩⟩
 ·refine ao Jg Jg Jg (ao Jg Jg Jg (aC Jg Jg Jg (ag (ac (cq Jg (aW (aA (aA (aU (ac (af (aa (ae Jg Jg (an cQ Jg Jg (cS hr) ?_))))))))))))))
  rintro v73 w73 ⟨rfl,hr2,gg⟩
  have m73:=dL.kp hr gg
  refine ab Jg Jg (ab Jg Jg (ag (ac (au (aH Jg Jg Jg ?_)))))
  exact⟨_,rfl,gg,by
   have hn:cZ l=none:=by
    rw[hrd]
    rcases Nat.lt_or_ge i 10 with h|h
    ·rw[List.drop_of_length_le (by omega),lS];rfl
    ·rw[show 10-i=0 by omega];rfl
   rw[hn];exact⟨rfl,hr2⟩⟩
end Go.Rl
namespace Go.Rl
open Go.RowKit Go.Proofs
section
variable {w:World} {g:Nat}
theorem nH {st:Option (List UInt8)} (hr:cc g st w) (h:st.bind cZ=none):Calls Tryz.prog 25 #[.pointer (some ⟨g,0,none⟩)] w (bF fun r w'=>w.grownBy w' (some g)∧r=.tuple #[bj 0,I 5]∧cc g none w'):=by
 have:=sx hr
 rw[h] at this
 exact this
theorem nI {st:Option (List UInt8)} {n:Nat} {t:List UInt8} (hr:cc g st w) (h:st.bind cZ=some (n,t)):Calls Tryz.prog 25 #[.pointer (some ⟨g,0,none⟩)] w (bF fun r w'=>w.grownBy w' (some g)∧r=.tuple #[bj (UInt64.ofNat n),I 0]∧cc g (some t) w'):=by
 have:=sx hr
 rw[h] at this
 exact this
end
theorem vK {w w1 w2:World} {row row2:Option Nat} (h:w.grownBy w1 row) (q:w1.grownBy w2 row2) (hg:∀k,row2=some k→w.heap.size≤k):w.grownBy w2 row:=
 ⟨q.os.trans h.os,q.tape.trans h.tape,q.output.trans h.output,Nat.le_trans h.size q.size,fun i hi hne=>(q.block i (Nat.lt_of_lt_of_le hi h.size) (fun e=>by have:=hg i e.symm;omega)).trans (h.block i hi hne)⟩
theorem dK.ge' {base:Nat} {l:List UInt32} {v:Value} {w:World} (h:dK base l v w):∀k,v.ownBlock=some k→base≤k:=fun k hk=>h.elim fun _ h=>(World.ownsRow.lt h k hk).1
theorem rg {P:Program} {w:World} {s d:TypeId} {n:Nat} (hs:P.underlying s=some (.int .u64)) (hd:P.underlying d=some (.int .i64)) (hn:n<9223372036854775808):(convert s d (bj (UInt64.ofNat n))).run P w=.ok (I (n:Int)) w:=by
 have e:(UInt64.ofNat n).toNat=n:=by rw[UInt64.toNat_ofNat'];omega
 have:=mC (P:=P) (w:=w) hs hd (a:=UInt64.ofNat n) (by omega)
 rwa [e] at this
theorem Bf {P:Program} {w:World} {s d:TypeId} {n:Nat} (hs:P.underlying s=some (.int .u64)) (hd:P.underlying d=some (.int .i64)) (hn:n<18446744073709551616):(convert s d (bj (UInt64.ofNat n/2))).run P w=.ok (I ((n/2:Nat):Int)) w:=by
 have e:(UInt64.ofNat n/2).toNat=n/2:=by
  rw[UInt64.toNat_div,UInt64.toNat_ofNat',show(2:UInt64).toNat=2 from rfl];omega
 have:=mC (P:=P) (w:=w) hs hd (a:=UInt64.ofNat n/2) (by omega)
 rwa [e] at this
theorem Bg {n:Nat}:UInt64.ofNat n%2=1↔n%2=1:=by
 rw[←UInt64.toNat_inj,UInt64.toNat_mod,UInt64.toNat_ofNat',show(2:UInt64).toNat=2 from rfl,show(1:UInt64).toNat=1 from rfl]
 omega
def Ih (g:Nat) (w:World) (o:Option (Nat×List UInt8)) (r:Value) (w':World):Prop:=
 w.grownBy w' (some g)∧match o with
  |some (n,t)=>r=.tuple #[I (uz n),I 0]∧cc g (some t) w'
  |none=>r=.tuple #[I 0,I 5]∧cc g none w'
theorem um {w:World} {g:Nat} {st:Option (List UInt8)} (hr:cc g st w):
 Calls Tryz.prog 152 #[.pointer (some ⟨g,0,none⟩)] w (bF (Ih g w (st.bind cZ))):=by
 refine enter (vs:=[.pointer (some ⟨g,0,none⟩)]) Tryz.func152 Jg Jg Jg ?_
 refine af (aa (ab Jg Jg (ab Jg Jg (ag (ac (af ?_))))))
 rcases hN:st.bind cZ with _|⟨n,t⟩
 ·refine aa (ae Jg Jg (an cA Jg Jg (nH hr hN) ?_))
  rintro v8 w8 ⟨x8,rfl,hr1⟩
  have m8:=dL.kp hr x8
  refine ae Jg Jg (aj Jg Jg (aS) (aj Jg Jg (aT) (ab Jg Jg (ab Jg Jg (ag (ac (af (af (aa (ae Jg Jg (ai (v:=bj 2) Jg Jg Jg (ic (by decide)) ?_)))))))))))
  refine ai (v:=bj 1) Jg Jg Jg (bZ (by decide) fy) (ag (ac (cq Jg (aq (ac (af (aa (ae Jg Jg (ai (v:=bj 2) Jg Jg Jg (gt (by decide)) ?_)))))))))
  refine aQ Jg Jg (mC IL IM (by decide)) ?_
  refine ae Jg Jg (ab Jg Jg (ab Jg Jg (ag (ac (au (aH Jg Jg Jg ?_))))))
  exact⟨_,rfl,x8,rfl,hr1⟩
 ·have hnn:=(oH (k:=(st.getD []).length) hN (by rintro l rfl;exact Nat.le_refl _)).2
  refine aa (ae Jg Jg (an cA Jg Jg (nI hr hN) ?_))
  rintro v8 w8 ⟨x8,rfl,hr1⟩
  have m8:=dL.kp hr x8
  refine ae Jg Jg (aj Jg Jg (aS) (aj Jg Jg (aT) (ab Jg Jg (ab Jg Jg (ag (ac (af (af (aa (ae Jg Jg (ai (v:=bj 2) Jg Jg Jg (ic (by decide)) ?_)))))))))))
  refine ai (v:=bj 1) Jg Jg Jg (fy) (ag (ac ?_))
  refine bi Jg (fun h13=>?_) (fun h13=>?_)
  ·refine af (aa (ae Jg Jg (ai (v:=bj 2) Jg Jg Jg (gt (by decide)) (aQ Jg Jg (Bf IL IM hnn) ?_))))
   refine ci Jg Jg (vg (by omega) (by omega)) (ai Jg Jg Jg (bb (by omega) (by omega)) (ae Jg Jg (ab Jg Jg (ab Jg Jg (ag (ac ?_))))))
   refine au (av (aH Jg Jg Jg ?_))
   exact⟨_,rfl,x8,congrArg (fun z=>Value.tuple #[I z,I 0]) (show _=uz n by
    unfold uz
    first
    |(have:=Bg.1 h13;rw[if_neg (by omega)])
    |(have:=mt Bg.2 h13;rw[if_pos (by omega)])),hr1⟩
  ·refine aq (ac (af (aa (ae Jg Jg (ai (v:=bj 2) Jg Jg Jg (gt (by decide)) (aQ Jg Jg (Bf IL IM hnn) ?_))))))
   refine ae Jg Jg (ab Jg Jg (ab Jg Jg (ag (ac (au (aH Jg Jg Jg ?_))))))
   exact⟨_,rfl,x8,congrArg (fun z=>Value.tuple #[I z,I 0]) (show _=uz n by
    unfold uz
    first
    |(have:=Bg.1 h13;rw[if_neg (by omega)])
    |(have:=mt Bg.2 h13;rw[if_pos (by omega)])),hr1⟩
def Ii (g:Nat) (w:World) (o:Option (List UInt32×List UInt8)) (r:Value) (w':World):Prop:=
 w.grownBy w' (some g)∧match o with
  |some (m,t)=>∃v,r=.tuple #[v,I 0]∧bt m v w'∧cc g (some t) w'∧nC w.heap.size v
  |none=>r=.tuple #[.slice none 0 0,I 5]∧cc g none w'
theorem gX {n m:Nat} (hn:n<18446744073709551616) (hm:m<18446744073709551616):UInt64.ofNat n>UInt64.ofNat m↔m<n:=by
 show UInt64.ofNat m<UInt64.ofNat n↔m<n
 rw[UInt64.lt_iff_toNat_lt,UInt64.toNat_ofNat',UInt64.toNat_ofNat']
 omega
theorem GQ {n:Nat} (hn:n<18446744073709551616):UInt64.ofNat n>0↔0<n:=gX hn (by decide)
theorem uo {w:World} {g:Nat} {st:Option (List UInt8)} (hr:cc g st w) (hl:∀l,st=some l→l.length≤549755813888):
 Calls Tryz.prog 181 #[.pointer (some ⟨g,0,none⟩)] w (bF (Ii g w (st.bind pz))):=by
 refine enter (vs:=[.pointer (some ⟨g,0,none⟩)]) Tryz.func181 Jg Jg Jg ?_
 have hglt:=hr.lt
 refine af (aa (ab Jg Jg (ab Jg Jg (ag (ac (af ?_))))))
 rcases hU:st.bind cZ with _|⟨n,t⟩
 ·refine aa (ae Jg Jg (an cA Jg Jg (nH hr hU) ?_))
  rintro v10 w10 ⟨x10,rfl,hr1⟩
  have m10:=dL.kp hr x10
  refine ae Jg Jg (aj Jg Jg (aS) (aj Jg Jg (aT) (ab Jg Jg (ab Jg Jg (ag (ac (af (af (aa (ae Jg Jg (ai Jg Jg Jg (cf (by decide) bS) ?_)))))))))))
  refine ag (ac (bB Jg (af (aa (ae Jg Jg (ab Jg Jg (ab Jg Jg (ag (ac (au (av (aH Jg Jg Jg ?_))))))))))))
  exact⟨_,rfl,x10,by rw[Er hU];exact⟨rfl,hr1⟩⟩
 ·obtain⟨ht,hn⟩:=oH hU hl
  refine aa (ae Jg Jg (an cA Jg Jg (nI hr hU) ?_))
  rintro v10 w10 ⟨x10,rfl,hr1⟩
  have m10:=dL.kp hr x10
  refine ae Jg Jg (aj Jg Jg (aS) (aj Jg Jg (aT) ?_))
  obtain⟨A,n',c,k,b,lc⟩:=id hr1
  have b:cm t (.slice A n' c) w10:=b
  refine ab Jg Jg (ab Jg Jg (ag (ac (af (af (aa (ae Jg Jg (ai Jg Jg Jg (bZ (by decide) bS) (ag (ac (cq Jg (aq (ac ?_)))))))))))))
  refine af (af (aa (ae Jg Jg (ae Jg Jg (aG Jg Jg (ah Jg Jg (aE (o:=0) IT Jg (by kernel_rfl) Jg) ?_))))))
  refine am Jg Jg (ak IP Jg (k.cell (i:=0) Jg)) (aP Jg Jg (bz b) (ai (r:=I ((t.length/4:Nat):Int)) Jg Jg Jg (by have e:((t.length/4:Nat):Int)=(t.length:Int)/4:=(by omega);rw[e];exact mz (by omega) (by omega) (by omega)) ?_))
  refine aQ Jg Jg (cI IM IL) (ai Jg Jg Jg (ck) (ag (ac ?_)))
  refine bi Jg (fun h24=>?_) (fun h24=>?_)
  ·have hlong:t.length/4<n:=(gX hn (by omega)).1 h24
   refine af (aa (ae Jg Jg (an cQ Jg Jg (cS hr1) ?_)))
   rintro v26 w26 ⟨rfl,hr2,g26⟩
   have m26:=dL.kp hr1 g26
   refine ab Jg Jg (ab Jg Jg (ag (ac (au (av (aH Jg Jg Jg ?_))))))
   exact⟨_,rfl,x10.trans g26,by rw[nB hU,if_neg (by omega)];exact⟨rfl,hr2⟩⟩
  ·have hle:n≤t.length/4:=Nat.le_of_not_lt (mt (gX hn (by omega)).2 h24)
   have hgb:g<w10.heap.size:=cc.lt hr1
   refine aq (ac (af (aa (ab Jg Jg (ag (ac (af (af (aa (ab Jg Jg (ag (ac (ax ?_)))))))))))))
   refine ga (fun(i:Nat) (u:Value)=>[(0,.pointer (some ⟨g,0,none⟩)),(4,bj (UInt64.ofNat n)),(6,u),(7,I (i:Int))]) (fun(i:Nat) (u:Value) w'=>w10.grownBy w' (some g)∧(∃A n' c,cd g 109 [.slice A n' c,B false] w'∧cm (t.drop (4*i)) (.slice A n' c) w10∧oF A g)∧dK w10.heap.size (de (t.take (4*i))) u w'∧i≤n) (fun(i:Nat) (u:Value)=>n-i) (0) (.slice none 0 0) ⟨rfl,rfl,rfl,rfl,trivial⟩ ⟨i0 _ _,⟨A,n',c,k,by simpa using b,lc⟩,by simpa [de] using dK.nil _ _,by omega⟩ ?_
   rintro i u w8 ⟨g8,⟨A,n',c,k8,b0,lc8⟩,o6,hi⟩
   refine af (af ?_)
   have b8:=b0.kp (dL.kp hr1 g8)
   have hdl:(t.drop (4*i)).length=t.length-4*i:=by rw[List.length_drop]
   refine aa (ae Jg Jg (ae Jg Jg (aQ Jg Jg (rg IL IM (by omega)) (ai Jg Jg Jg (aX) (ag ?_)))))
   refine ac ?_
   refine bi Jg (fun h30=>?_) (fun h30=>?_)
   ·refine aq (ac (af (ax (af (bA 36 [0,4,7,33,68] (by kernel_rfl) (by kernel_rfl) ?_)))))
    refine ap Jg Jg (ap Jg Jg (bQ Jg Jg (aL Jg Jg (fun w hw=>aE (o:=0) IT Jg (by kernel_rfl) Jg) ?_)))
    refine aD Jg Jg (fun w hw=>ak IP Jg (hw.cell_some (k8.cell (i:=0) Jg))) ?_
    obtain⟨a38,p38,q38⟩:=er b8 (i:=0) (by omega) .i64
    refine ay Jg Jg Jg (fun w _=>p38 w) (aD Jg Jg (fun w hw=>ak IR Jg (hw.cell_some q38)) (dh Jg Jg (fun w _=>dT IR IK) ?_))
    refine ap Jg Jg (bQ Jg Jg (aL Jg Jg (fun w hw=>aE (o:=0) IT Jg (by kernel_rfl) Jg) ?_))
    refine aD Jg Jg (fun w hw=>ak IP Jg (hw.cell_some (k8.cell (i:=0) Jg))) ?_
    obtain⟨a45,p45,q45⟩:=er b8 (i:=1) (by omega) .i64
    refine ay Jg Jg Jg (fun w _=>p45 w) (aD Jg Jg (fun w hw=>ak IR Jg (hw.cell_some q45)) (dh Jg Jg (fun w _=>dT IR IK) ?_))
    refine aR (v:=bw 256) Jg Jg Jg (fun w _=>pi) (aR Jg Jg Jg (fun w _=>cg) (ap Jg Jg (bQ Jg Jg (aL Jg Jg (fun w hw=>aE (o:=0) IT Jg (by kernel_rfl) Jg) ?_))))
    refine aD Jg Jg (fun w hw=>ak IP Jg (hw.cell_some (k8.cell (i:=0) Jg))) ?_
    obtain⟨a54,p54,q54⟩:=er b8 (i:=2) (by omega) .i64
    refine ay Jg Jg Jg (fun w _=>p54 w) (aD Jg Jg (fun w hw=>ak IR Jg (hw.cell_some q54)) (dh Jg Jg (fun w _=>dT IR IK) ?_))
    refine aR (v:=bw 65536) Jg Jg Jg (fun w _=>pi) (aR Jg Jg Jg (fun w _=>cg) (ap Jg Jg (bQ Jg Jg (aL Jg Jg (fun w hw=>aE (o:=0) IT Jg (by kernel_rfl) Jg) ?_))))
    refine aD Jg Jg (fun w hw=>ak IP Jg (hw.cell_some (k8.cell (i:=0) Jg))) ?_
    obtain⟨a63,p63,q63⟩:=er b8 (i:=3) (by omega) .i64
    refine ay Jg Jg Jg (fun w _=>p63 w) (aD Jg Jg (fun w hw=>ak IR Jg (hw.cell_some q63)) (dh Jg Jg (fun w _=>dT IR IK) ?_))
    refine aR (v:=bw 16777216) rfl rfl rfl (fun w _=>pi) (aR rfl rfl rfl (fun w _=>cg) (fL (S:=bt [w4 ((t.drop (4*i))[0]'(by omega)) ((t.drop (4*i))[1]'(by omega)) ((t.drop (4*i))[2]'(by omega)) ((t.drop (4*i))[3]'(by omega))]) (bt.stable _) rfl (fun w' _=>by rintro _ rfl;obtain⟨r,w2,h1,h2,h3,_⟩:=gV Tryz.underlying53 (w:=w') w'.heap.size [w4 ((t.drop (4*i))[0]'(by omega)) ((t.drop (4*i))[1]'(by omega)) ((t.drop (4*i))[2]'(by omega)) ((t.drop (4*i))[3]'(by omega))] (by simp) (Nat.le_refl _);rw[←Hp] at h1;exact⟨r,w2,h1,h2,h3.wds⟩) ?_))
    refine bG ?_
    intro wg10 xg10
    rintro _ rfl
    rintro _ rfl
    rintro _ rfl
    rintro _ hq33
    obtain rfl:=Eq.symm hq33
    intro vg68 b68
    obtain⟨v69,w69,hr69,o69,g69⟩:=jo Tryz.underlying53 (ty:=53) (o6.ext xg10) b68 (by have:=gx i (t.take (4*i)) (by rw[List.length_take];omega);simp;omega) (Nat.le_trans g8.size xg10.size)
    have gg:=vK (g8.trans (dj xg10)) g69.grown (fun k hk=>o6.ge' k hk)
    have k69:=(k8.ext xg10).other g69.grown (fun e=>by have:=o6.ge' g e.symm;omega)
    refine be Jg Jg hr69 ?_
    refine ab Jg Jg (ag (ac (aa (ae Jg Jg (ae Jg Jg (aG Jg Jg (ah Jg Jg (aE (o:=0) IT Jg (by kernel_rfl) Jg) ?_)))))))
    refine am Jg Jg (ak IP Jg (k69.cell (i:=0) Jg)) ?_
    obtain⟨v75,p75,b75⟩:=eZ b0 (lo:=4) (by omega) .i64
    obtain⟨A5,n5,c5,rfl,_⟩:=id b75
    have lc5:=rY (p75 w) lc8 _ _ _ rfl
    refine cu Jg Jg Jg Jg Jg (p75 _) ?_
    refine aG Jg Jg (ah Jg Jg (aE (o:=0) Tryz.underlying109 Jg (by kernel_rfl) Jg) (ar Jg Jg (dm (i:=0) cn Jg k69 (by simp)) ?_))
    have g11:=aY w69 g 0 (.slice A5 n5 c5)
    have o11:=o69.kept g11 (.inr (fun e=>by have:=o69.ge' g e;omega))
    refine ag (aJ (ac (aa (ae Jg Jg (ai (r:=I ((i+1:Nat):Int)) Jg Jg Jg (by have e:((i+1:Nat):Int)=(i:Int)+1:=(by omega);rw[e];exact aK (by omega) (by omega)) ?_)))))
    refine ab Jg Jg (ag ?_)
    refine el (i+1) (v69) ⟨rfl,rfl,rfl,rfl,trivial⟩ ⟨gg.trans g11,⟨A5,n5,c5,k69.set 0 _,by rw[List.drop_drop] at b75;exact b75,lc5⟩,by
     rw[nA i t (by omega)]
     simp only[List.getElem_drop,Nat.add_zero] at o11
     exact o11,by omega⟩ (by omega)
   ·refine aW (aA (aA (aU (ac (af (af ?_))))))
    have hin:i=n:=by omega
    have r8:cc g (some (t.drop (4*i))) w8:=⟨A,n',c,k8,b8,lc8⟩
    obtain⟨bs,hbs⟩:∃bs,bs=t.take (4*i):=⟨_,rfl⟩
    have hbs':bs=t.take (4*n):=by rw[hbs,hin]
    have hbl:bs.length=4*n:=by rw[hbs',List.length_take];omega
    have hns:=gx n bs hbl
    rw[←hbs] at o6
    have hnn:(UInt64.ofNat n).toNat=n:=by rw[UInt64.toNat_ofNat'];omega
    refine aa (ae Jg Jg (ai (v:=bj 0) Jg Jg Jg (ck) (ae Jg Jg ?_)))
    refine cJ (fun h80=>?_) (fun h80=>?_)
    ·refine al Jg (ae Jg Jg (al Jg (ae Jg Jg (al Jg (ai (v:=bj 1) Jg Jg Jg (dq) (al Jg ?_))))))
     have hn0:0<n:=by
      rcases Nat.eq_zero_or_pos n with h|h
      ·rw[h] at h80;exact absurd h80 (by decide)
      ·exact h
     have hm1:(UInt64.ofNat n-1).toNat=n-1:=by
      rw[UInt64.toNat_sub_of_le _ _ (UInt64.le_iff_toNat_le.2 (by rw[hnn];exact hn0)),hnn];rfl
     obtain⟨a84,p84,q84⟩:=cL IJ o6.wds (i:=(UInt64.ofNat n-1).toNat) (by omega) .u64
     have hx:(de bs)[(UInt64.ofNat n-1).toNat]≠0↔lb (val (de bs))=de bs:=by
      have e:(UInt64.ofNat n-1).toNat=(de bs).length-1:=by omega
      simp only[e]
      exact oz (by omega)
     refine aB Jg Jg Jg (p84 _) (al Jg (am Jg Jg (ak IK Jg q84) (al Jg (ai (v:=bw 0) Jg Jg Jg (j2) (aw Jg Jg Jg ?_)))))
     refine ag (ac ?_)
     refine bi Jg (fun h87=>?_) (fun h87=>?_)
     ·refine af (aa (ae Jg Jg (an cQ Jg Jg (cS r8) ?_)))
      rintro v89 w89 ⟨rfl,hr2,g89⟩
      have m89:=dL.kp r8 g89
      refine ab Jg Jg (ab Jg Jg (ag (ac (au (av (aH Jg Jg Jg ?_))))))
      exact⟨_,rfl,(x10.trans g8).trans g89,by
       rw[nB hU,←hbs',if_neg fun h=>hx.2 h.2 h87]
       exact⟨rfl,hr2⟩⟩
     ·refine aq (ac (af (aa (ae Jg Jg (ab Jg Jg (ab Jg Jg (ag (ac (au (aH Jg Jg Jg ?_))))))))))
      exact⟨_,rfl,x10.trans g8,by
       rw[hin] at r8
       rw[nB hU,←hbs']
       first
       |(have h0:n=0:=by
          rcases Nat.eq_zero_or_pos n with h|h
          ·exact h
          ·exact absurd ((GQ hn).2 h) h80
         have hb0:de bs=[]:=List.eq_nil_of_length_eq_zero (by rw[hns];exact h0)
         rw[hb0] at o6
         rw[hb0,if_pos ⟨hle,rfl⟩]
         exact⟨u,rfl,o6.wds,r8,fun k hk=>Nat.le_trans x10.size (o6.ge' k hk)⟩)
       |(have hcan:=hx.1 h87
         rw[if_pos ⟨hle,hcan⟩]
         exact⟨u,rfl,o6.wds,r8,fun k hk=>Nat.le_trans x10.size (o6.ge' k hk)⟩)⟩
    ·refine ao Jg Jg Jg (ao Jg Jg Jg (ao Jg Jg Jg (ao Jg Jg Jg (ao Jg Jg Jg (ao Jg Jg Jg (aC Jg Jg Jg (ag (ac (cq Jg (aq (ac (af ?_))))))))))))
     refine aa (ae Jg Jg (ab Jg Jg (ab Jg Jg (ag (ac (au (aH Jg Jg Jg ?_)))))))
     exact⟨_,rfl,x10.trans g8,by
      rw[hin] at r8
      rw[nB hU,←hbs']
      first
      |(have h0:n=0:=by
         rcases Nat.eq_zero_or_pos n with h|h
         ·exact h
         ·exact absurd ((GQ hn).2 h) h80
        have hb0:de bs=[]:=List.eq_nil_of_length_eq_zero (by rw[hns];exact h0)
        rw[hb0] at o6
        rw[hb0,if_pos ⟨hle,rfl⟩]
        exact⟨u,rfl,o6.wds,r8,fun k hk=>Nat.le_trans x10.size (o6.ge' k hk)⟩)
      |(have hcan:=hx.1 h87
        rw[if_pos ⟨hle,hcan⟩]
        exact⟨u,rfl,o6.wds,r8,fun k hk=>Nat.le_trans x10.size (o6.ge' k hk)⟩)⟩
end Go.Rl
namespace Go.Rl
open Go.RowKit Go.Proofs
theorem Ht {st:Option (List UInt8)} (h:st.bind cZ=none):st.bind wZ=none:=by
 cases st with
 |none=>rfl
 |some l=>
  have h:cZ l=none:=h
  show wZ l=none
  unfold wZ
  rw[h];rfl
theorem Et {st:Option (List UInt8)} {n:Nat} {t:List UInt8} (h:st.bind cZ=some (n,t)):st.bind wZ=if n≤t.length then some (t.take n,t.drop n) else none:=by
 cases st with
 |none=>cases h
 |some l=>
  have h:cZ l=some (n,t):=h
  show wZ l=_
  unfold wZ
  rw[h];rfl
section
variable {w:World} {g:Nat}
theorem pE {st:Option (List UInt8)} (hr:cc g st w) (hl:∀l,st=some l→l.length≤549755813888) (h:st.bind pz=none):Calls Tryz.prog 181 #[.pointer (some ⟨g,0,none⟩)] w (bF fun r w'=>w.grownBy w' (some g)∧r=.tuple #[.slice none 0 0,I 5]∧cc g none w'):=by
 have:=uo hr hl
 rw[h] at this
 exact this
theorem nJ {st:Option (List UInt8)} {m:List UInt32} {t:List UInt8} (hr:cc g st w) (hl:∀l,st=some l→l.length≤549755813888) (h:st.bind pz=some (m,t)):Calls Tryz.prog 181 #[.pointer (some ⟨g,0,none⟩)] w (bF fun r w'=>w.grownBy w' (some g)∧∃v,r=.tuple #[v,I 0]∧bt m v w'∧cc g (some t) w'∧nC w.heap.size v):=by
 have:=uo hr hl
 rw[h] at this
 exact this
theorem pG {st:Option (List UInt8)} {m:List UInt32} {t:List UInt8} (hr:cc g st w) (hl:∀l,st=some l→l.length≤549755813888) (h:st.bind pz=some (m,t)):Calls Tryz.prog 181 #[.pointer (some ⟨g,0,none⟩)] w (bF fun r w'=>w.grownBy w' (some g)∧∃v,r=.tuple #[v,I 0]∧bt m v w'∧cc g (some t) w'):=(nJ hr hl h).mono fun _ _ ⟨r,h0,h1,v,h2,h3,h4,_⟩=>⟨r,h0,h1,v,h2,h3,h4⟩
end
end Go.Rl
namespace Go.Rl
open Go.RowKit Go.Proofs
theorem cd.st1 {P:Program} {w:World} {T t:TypeId} {g:Nat} {l:List Value} {v:Value} (h:cd g T l w) (i:Nat) (hs:(P.info? t).map (·.size)=some 1) (hv:∃A n c,v=.slice A n c) (hi:i<l.length):
 ∃w',(Instr.storeAt t (.pointer (some ⟨g,i,none⟩)) v).run P w=.ok () w'∧w.grownBy w' (some g)∧cd g T (l.set i v) w':=by
 obtain⟨A,n,c,rfl⟩:=hv
 exact⟨_,dm hs rfl h (by simpa using hi),aY w g i _,h.set i _⟩
theorem CH {w:World} {b:Bool}:(Instr.build 55 #[(0,B b)]).run Tryz.prog w=.ok (.agg #[B b,.slice none 0 0,.slice none 0 0]) w:=
 run_build _ _ _ #[B b,.slice none 0 0,.slice none 0 0] (by kernel_rfl)
def FRatE (g:Nat) (w:World) (o:Option ((Bool×List UInt32×List UInt32)×List UInt8)) (r:Value) (w':World):Prop:=
 w.grownBy w' (some g)∧match o with
  |some (q,t)=>∃v,r=.tuple #[v,I 0]∧dc q.1 q.2.1 q.2.2 v w'∧cc g (some t) w'
  |none=>∃v,r=.tuple #[v,I 5]∧dc false [] [] v w'∧cc g none w'
def Hu (g:Nat) (w:World) (o:Option ((Bool×List UInt32×List UInt32)×List UInt8)) (r:Value) (w':World):Prop:=
 w.grownBy w' (some g)∧match o with
  |some (q,t)=>∃x y,r=.tuple #[.agg #[B q.1,x,y],I 0]∧bt q.2.1 x w'∧bt q.2.2 y w'∧cc g (some t) w'∧nC w.heap.size x∧nC w.heap.size y
  |none=>∃v,r=.tuple #[v,I 5]∧dc false [] [] v w'∧cc g none w'
theorem zJ {w:World} {g:Nat} {st:Option (List UInt8)} (hr:cc g st w) (hl:∀l,st=some l→l.length≤549755813888):
 Calls Tryz.prog 153 #[.pointer (some ⟨g,0,none⟩)] w (bF (Hu g w (st.bind kB))):=by
 refine enter (vs:=[.pointer (some ⟨g,0,none⟩)]) Tryz.func153 Jg Jg Jg ?_
 have hglt:=cc.lt hr
 refine af (aa ?_)
 obtain⟨g2,w2,hr2,l2,x2,k2⟩:=fH (w:=w)
 refine bh Jg hr2 (ab Jg Jg (ag (ac (af (af ?_)))))
 have rr:=cc.ext hr x2
 have kk:=k2
 have gg:w.grownBy w2 (some g):=dj x2
 have hne:some g2≠some g:=fun h=>by have:=Option.some.inj h;omega
 have hne':g≠g2:=by omega
 obtain⟨A,n,c0,k0,b0,lc⟩:=id rr
 rcases st with _|(_|⟨c,l⟩)
 ·have hR:(none:Option (List UInt8)).bind kB=none:=rfl
  have bn:cm [] (.slice A n c0) w2:=b0
  refine aa (ae Jg Jg (aG Jg Jg (ah Jg Jg (aE (o:=0) IT Jg (by kernel_rfl) Jg) (am Jg Jg (ak IP Jg (k0.cell (i:=0) Jg)) ?_))))
  refine aP Jg Jg (bz bn) (ai Jg Jg Jg (cf (by simp) aV) (ae Jg Jg (ao Jg Jg Jg (ao Jg Jg Jg (ao Jg Jg Jg (ao Jg Jg Jg (ao Jg Jg Jg ?_)))))))
  refine ao Jg Jg Jg (ao Jg Jg Jg (aw Jg Jg Jg (ag (ac (bB Jg (af (aa ?_)))))))
  refine bm (vs:=[]) Jg Jg d9 ?_
  refine ae Jg Jg (an cQ Jg Jg (cS rr) ?_)
  rintro v22 w22 ⟨rfl,rs,g22⟩
  have m22:=dL.kp rr g22
  have gg:=gg.trans g22
  have kk:=kk.other g22 hne
  have rr:=rs
  obtain⟨p,q,w3,hp,hs3,q3,k3,n3,d3⟩:=kk.stR ⟨_,_,_,rfl⟩ ⟨_,_,_,rfl⟩ (dc.mk (b:=false) (bt.nil _) (bt.nil _))
  refine ar Jg Jg (hs3) (ab Jg Jg (ag (ac (au (av ?_)))))
  refine bH Jg Jg Jg k3 IQ Jg cP ?_
  exact⟨_,rfl,ew gg q3 l2,by rw[hR];exact⟨_,rfl,⟨p,q,rfl,n3,d3⟩,dL.off rr (kk.kpR ⟨_,_,_,rfl⟩ ⟨_,_,_,rfl⟩ q3) q3 hne'⟩⟩
 ·have hR:(some []).bind kB=none:=rfl
  have bn:cm [] (.slice A n c0) w2:=b0
  refine aa (ae Jg Jg (aG Jg Jg (ah Jg Jg (aE (o:=0) IT Jg (by kernel_rfl) Jg) (am Jg Jg (ak IP Jg (k0.cell (i:=0) Jg)) ?_))))
  refine aP Jg Jg (bz bn) (ai Jg Jg Jg (cf (by simp) aV) (ae Jg Jg (ao Jg Jg Jg (ao Jg Jg Jg (ao Jg Jg Jg (ao Jg Jg Jg (ao Jg Jg Jg ?_)))))))
  refine ao Jg Jg Jg (ao Jg Jg Jg (aw Jg Jg Jg (ag (ac (bB Jg (af (aa ?_)))))))
  refine bm (vs:=[]) Jg Jg d9 ?_
  refine ae Jg Jg (an cQ Jg Jg (cS rr) ?_)
  rintro v22 w22 ⟨rfl,rs,g22⟩
  have m22:=dL.kp rr g22
  have gg:=gg.trans g22
  have kk:=kk.other g22 hne
  have rr:=rs
  obtain⟨p,q,w3,hp,hs3,q3,k3,n3,d3⟩:=kk.stR ⟨_,_,_,rfl⟩ ⟨_,_,_,rfl⟩ (dc.mk (b:=false) (bt.nil _) (bt.nil _))
  refine ar Jg Jg (hs3) (ab Jg Jg (ag (ac (au (av ?_)))))
  refine bH Jg Jg Jg k3 IQ Jg cP ?_
  exact⟨_,rfl,ew gg q3 l2,by rw[hR];exact⟨_,rfl,⟨p,q,rfl,n3,d3⟩,dL.off rr (kk.kpR ⟨_,_,_,rfl⟩ ⟨_,_,_,rfl⟩ q3) q3 hne'⟩⟩
 ·have b0:cm (c::l) (.slice A n c0) w2:=b0
  refine aa (ae Jg Jg (aG Jg Jg (ah Jg Jg (aE (o:=0) IT Jg (by kernel_rfl) Jg) (am Jg Jg (ak IP Jg (k0.cell (i:=0) Jg)) ?_))))
  refine aP Jg Jg (bz b0) (ai Jg Jg Jg (bZ (by simp;omega) aV) (ae Jg Jg (al Jg (ae Jg Jg (al Jg (aG Jg Jg (al Jg (ah Jg Jg (aE (o:=0) Tryz.underlying109 Jg (by kernel_rfl) Jg) ?_))))))))
  refine al Jg (am Jg Jg (ak IP Jg (k0.cell (i:=0) Jg)) (al Jg ?_))
  obtain⟨a16,p16,q16⟩:=er b0 (i:=0) (by simp) .i64
  refine aB Jg Jg Jg (p16 _) (al Jg (am Jg Jg (ak IR Jg q16) (al Jg (ai (v:=U8 1) Jg Jg Jg (om) (aC Jg Jg Jg ?_)))))
  refine ag (ac ?_)
  refine bi Jg (fun h19=>?_) (fun h19=>?_)
  ·have hc:1<c.toNat:=by have:=UInt8.lt_iff_toNat_lt.1 h19;simpa using this
   have hR:(some (c::l)).bind kB=none:=vJ hc
   refine af (aa ?_)
   refine bm (vs:=[]) Jg Jg d9 ?_
   refine ae Jg Jg (an cQ Jg Jg (cS rr) ?_)
   rintro v22 w22 ⟨rfl,rs,g22⟩
   have m22:=dL.kp rr g22
   have gg:=gg.trans g22
   have kk:=kk.other g22 hne
   have rr:=rs
   obtain⟨p,q,w3,hp,hs3,q3,k3,n3,d3⟩:=kk.stR ⟨_,_,_,rfl⟩ ⟨_,_,_,rfl⟩ (dc.mk (b:=false) (bt.nil _) (bt.nil _))
   refine ar Jg Jg (hs3) (ab Jg Jg (ag (ac (au (av ?_)))))
   refine bH Jg Jg Jg k3 IQ Jg cP ?_
   exact⟨_,rfl,ew gg q3 l2,by rw[hR];exact⟨_,rfl,⟨p,q,rfl,n3,d3⟩,dL.off rr (kk.kpR ⟨_,_,_,rfl⟩ ⟨_,_,_,rfl⟩ q3) q3 hne'⟩⟩
  ·have hc:¬1<c.toNat:=fun hh=>h19 (UInt8.lt_iff_toNat_lt.2 (by simpa using hh))
   have hl1:∀l',some l=some l'→l'.length≤549755813888:=fun l' e=>by
    have:=hl _ rfl
    cases e
    simp at this;omega
   refine aq (ac (af ?_))
   obtain⟨s,hs⟩:∃s,s=decide (c.toNat=1):=⟨_,rfl⟩
   have hcs:s=decide ((c::l)[0]'(Nat.zero_lt_succ _)=(1:UInt8)):=by
    rw[hs]
    exact decide_eq_decide.2 ⟨fun h=>sv.1 h,fun h=>sv.2 h⟩
   refine aa (ae Jg Jg (aG Jg Jg (ah Jg Jg (aE (o:=0) IT Jg (by kernel_rfl) Jg) (am Jg Jg (ak IP Jg (k0.cell (i:=0) Jg)) ?_))))
   obtain⟨a27,p27,q27⟩:=er b0 (i:=0) (by simp) .i64
   refine aB Jg Jg Jg (p27 _) (am Jg Jg (ak IR Jg q27) (ai (v:=U8 1) (r:=B s) Jg Jg Jg ((by rw[hcs];exact iC)) ?_))
   refine bm (vs:=[(0,B s)]) Jg Jg CH ?_
   obtain⟨g4,w4,hr4,l4,x4,k4⟩:=fH (w:=w2)
   refine bh Jg hr4 ?_
   obtain⟨p4,q4,w5,hp4,hs5,q5,k5,n5,d5⟩:=k4.stR ⟨_,_,_,rfl⟩ ⟨_,_,_,rfl⟩ (dc.mk (b:=s) (bt.nil _) (bt.nil _))
   refine ar Jg Jg (hs5) ?_
   have x5:=x4.of_new q5 l4
   have hg2:=kk.lt
   have hgw:=x2.size
   have hne4:some g4≠some g:=fun h=>by have:=Option.some.inj h;omega
   have hne4':g≠g4:=by omega
   have hne24:some g2≠some g4:=fun h=>by have:=Option.some.inj h;omega
   have hw4:w.heap.size≤g4:=by omega
   have kk:=kk.ext x5
   have rr:=cc.ext rr x5
   have gg:=gg.trans (dj x5)
   refine ag (ac (af (aa (ae Jg Jg (ae Jg Jg (aG Jg Jg (ah Jg Jg (aE (o:=0) IT Jg (by kernel_rfl) Jg) ?_)))))))
   refine am Jg Jg (ak IP Jg (x5.cell_some (k0.cell (i:=0) Jg))) ?_
   obtain⟨v36,p36,b36⟩:=eZ (b0.ext x5) (lo:=1) (by simp) .i64
   refine cu Jg Jg Jg Jg Jg (p36 _) (aG Jg Jg (ah Jg Jg (aE (o:=0) IT Jg (by kernel_rfl) Jg) ?_))
   obtain⟨w6,hs6,q6,r6⟩:=dL.set (l':=l) rr b36 (rY (p36 w) lc)
   refine ar Jg Jg (hs6) ?_
   have m6:=dL.kp rr q6
   have kk:=kk.other q6 hne
   have k5:=k5.other q6 hne4
   have gg:=gg.trans q6
   have rr:cc g (some l) w6:=r6
   have n5:=n5.kp m6
   have d5:=d5.kp m6
   refine ag (ac (af ?_))
   rcases hN:pz l with _|⟨m,t⟩
   rotate_left
   rcases hM:pz t with _|⟨m',t'⟩
   rotate_left
   rcases hV:rv s m m'
   ·have hR:(some (c::l)).bind kB=none:=by
     show kB (c::l)=none
     rw[su hc hN,←hs,hM]
     exact if_neg (by rw[hV];simp)
    refine aa (ae Jg Jg (an gy Jg Jg ((pG (st:=some l) rr hl1 hN)) ?_))
    rintro v41 w41 ⟨g41,v0,rfl,h0,rs⟩
    have m41:=dL.kp rr g41
    have kk:=kk.other g41 hne
    have k5:=k5.other g41 hne4
    have gg:=gg.trans g41
    have rr:=rs
    have n5:=n5.kp m41
    have d5:=d5.kp m41
    refine ae Jg Jg (aj Jg Jg (aS) (aj Jg Jg aT (ah Jg Jg (aE (o:=1) IQ Jg (by kernel_rfl) Jg) ?_)))
    obtain⟨w7,hs7,q7,k7⟩:=k5.st1 1 fZ h0.isS (by simp)
    refine ar Jg Jg (hs7) ?_
    have m7:=k5.kpR n5.isS d5.isS q7
    have kk:=kk.other q7 hne24
    have rr:=dL.off rr m7 q7 hne4'
    have gg:=ew gg q7 hw4
    have n7:=h0.kp m7
    have d7:=d5.kp m7
    refine ag (ac (af (aa (ae Jg Jg ?_))))
    have hl2:∀l',some t=some l'→l'.length≤549755813888:=fun l' e=>by
     cases e
     have h1:=(fl hN).1
     have:=hl1 _ rfl
     rw[h1,List.length_append] at this
     omega
    refine an gy Jg Jg ((pG (st:=some t) rr hl2 hM)) ?_
    rintro v47 w47 ⟨g47,v1,rfl,h1,rs⟩
    have m47:=dL.kp rr g47
    have kk:=kk.other g47 hne
    have k7:=k7.other g47 hne4
    have gg:=gg.trans g47
    have rr:=rs
    have n7:=n7.kp m47
    have d7:=d7.kp m47
    refine ae Jg Jg (aj Jg Jg (aS) (aj Jg Jg aT (ah Jg Jg (aE (o:=2) IQ Jg (by kernel_rfl) Jg) ?_)))
    obtain⟨w8,hs8,q8,k8⟩:=k7.st1 2 fZ h1.isS (by simp)
    refine ar Jg Jg (hs8) ?_
    have m8:=k7.kpR n7.isS d7.isS q8
    have kk:=kk.other q8 hne24
    have rr:=dL.off rr m8 q8 hne4'
    have gg:=ew gg q8 hw4
    have n8:=n7.kp m8
    have d8:=h1.kp m8
    obtain⟨A9,n9,c9,kr,br⟩:=id rr
    refine ag (ac (af (af (aa (ae Jg Jg (aG Jg Jg (ah Jg Jg (aE (o:=1) IT Jg (by kernel_rfl) Jg) ?_)))))))
    refine am Jg Jg (ak IU Jg (kr.cell (i:=1) Jg)) (ae Jg Jg (al Jg (am Jg Jg (k8.ldR) (al Jg ?_))))
    have hml:m.length≤137438953472:=by
     have:=hl1 _ rfl
     rw[(fl hN).1,List.length_append,kY,List.length_append,fe] at this
     omega
    have hml':m'.length≤137438953472:=by
     have:=hl2 _ rfl
     rw[(fl hM).1,List.length_append,kY,List.length_append,fe] at this
     omega
    refine an qo Jg Jg ((by have:=qp (b:=s) (dc.mk n8 d8) hml hml';rw[hV] at this;exact this)) ?_
    rintro v57 w57 ⟨x57,rfl⟩
    have rr:=cc.ext rr x57
    have kk:=kk.ext x57
    have gg:=gg.trans (dj x57)
    refine al Jg (ci Jg Jg cj (aC Jg Jg Jg (ag (ac (bB Jg (af (aa ?_)))))))
    refine bm (vs:=[]) Jg Jg d9 ?_
    refine ae Jg Jg (an cQ Jg Jg (cS rr) ?_)
    rintro v62 w62 ⟨rfl,rs,g62⟩
    have m62:=dL.kp rr g62
    have gg:=gg.trans g62
    have kk:=kk.other g62 hne
    have rr:=rs
    obtain⟨p,q,w3,hp,hs3,q3,k3,n3,d3⟩:=kk.stR ⟨_,_,_,rfl⟩ ⟨_,_,_,rfl⟩ (dc.mk (b:=false) (bt.nil _) (bt.nil _))
    refine ar Jg Jg (hs3) (ab Jg Jg (ag (ac (au (av ?_)))))
    refine bH Jg Jg Jg k3 IQ Jg cP ?_
    exact⟨_,rfl,ew gg q3 l2,by rw[hR];exact⟨_,rfl,⟨p,q,rfl,n3,d3⟩,dL.off rr (kk.kpR ⟨_,_,_,rfl⟩ ⟨_,_,_,rfl⟩ q3) q3 hne'⟩⟩
   ·have hR:(some (c::l)).bind kB=some ((s,m,m'),t'):=by
     show kB (c::l)=_
     rw[su hc hN,←hs,hM]
     exact if_pos hV
    refine aa (ae Jg Jg ?_)
    have hs41:=gg.size
    refine an gy Jg Jg ((nJ (st:=some l) rr hl1 hN)) ?_
    rintro v41 w41 ⟨g41,v0,rfl,h0,rs,f0⟩
    have m41:=dL.kp rr g41
    have kk:=kk.other g41 hne
    have k5:=k5.other g41 hne4
    have gg:=gg.trans g41
    have rr:=rs
    have n5:=n5.kp m41
    have d5:=d5.kp m41
    refine ae Jg Jg (aj Jg Jg (aS) (aj Jg Jg aT (ah Jg Jg (aE (o:=1) IQ Jg (by kernel_rfl) Jg) ?_)))
    obtain⟨w7,hs7,q7,k7⟩:=k5.st1 1 fZ h0.isS (by simp)
    refine ar Jg Jg (hs7) ?_
    have m7:=k5.kpR n5.isS d5.isS q7
    have kk:=kk.other q7 hne24
    have rr:=dL.off rr m7 q7 hne4'
    have gg:=ew gg q7 hw4
    have n7:=h0.kp m7
    have d7:=d5.kp m7
    refine ag (ac (af (aa (ae Jg Jg ?_))))
    have hs47:=gg.size
    have hl2:∀l',some t=some l'→l'.length≤549755813888:=fun l' e=>by
     cases e
     have h1:=(fl hN).1
     have:=hl1 _ rfl
     rw[h1,List.length_append] at this
     omega
    refine an gy Jg Jg ((nJ (st:=some t) rr hl2 hM)) ?_
    rintro v47 w47 ⟨g47,v1,rfl,h1,rs,f1⟩
    have m47:=dL.kp rr g47
    have kk:=kk.other g47 hne
    have k7:=k7.other g47 hne4
    have gg:=gg.trans g47
    have rr:=rs
    have n7:=n7.kp m47
    have d7:=d7.kp m47
    refine ae Jg Jg (aj Jg Jg (aS) (aj Jg Jg aT (ah Jg Jg (aE (o:=2) IQ Jg (by kernel_rfl) Jg) ?_)))
    obtain⟨w8,hs8,q8,k8⟩:=k7.st1 2 fZ h1.isS (by simp)
    refine ar Jg Jg (hs8) ?_
    have m8:=k7.kpR n7.isS d7.isS q8
    have kk:=kk.other q8 hne24
    have rr:=dL.off rr m8 q8 hne4'
    have gg:=ew gg q8 hw4
    have n8:=n7.kp m8
    have d8:=h1.kp m8
    obtain⟨A9,n9,c9,kr,br⟩:=id rr
    refine ag (ac (af (af (aa (ae Jg Jg (aG Jg Jg (ah Jg Jg (aE (o:=1) IT Jg (by kernel_rfl) Jg) ?_)))))))
    refine am Jg Jg (ak IU Jg (kr.cell (i:=1) Jg)) (ae Jg Jg (al Jg (am Jg Jg (k8.ldR) (al Jg ?_))))
    have hml:m.length≤137438953472:=by
     have:=hl1 _ rfl
     rw[(fl hN).1,List.length_append,kY,List.length_append,fe] at this
     omega
    have hml':m'.length≤137438953472:=by
     have:=hl2 _ rfl
     rw[(fl hM).1,List.length_append,kY,List.length_append,fe] at this
     omega
    refine an qo Jg Jg ((by have:=qp (b:=s) (dc.mk n8 d8) hml hml';rw[hV] at this;exact this)) ?_
    rintro v57 w57 ⟨x57,rfl⟩
    have rr:=cc.ext rr x57
    have kk:=kk.ext x57
    have gg:=gg.trans (dj x57)
    refine al Jg (ci Jg Jg cj (aC Jg Jg Jg (ag (ac (cq Jg (aq (ac (af (aa (am Jg Jg ((k8.ext x57).ldR) ?_))))))))))
    obtain⟨p,q,w3,hp,hs3,q3,k3,n3,d3⟩:=kk.stR ⟨_,_,_,rfl⟩ ⟨_,_,_,rfl⟩ ((dc.mk n8 d8).ext x57)
    refine ar Jg Jg (hs3) (ab Jg Jg (ag (ac (au ?_))))
    refine bH Jg Jg Jg k3 IQ Jg cP ?_
    exact⟨_,rfl,ew gg q3 l2,by
     rw[hR]
     obtain⟨ec,ed⟩:=ss hp
     exact⟨p,q,rfl,n3,d3,dL.off rr (kk.kpR ⟨_,_,_,rfl⟩ ⟨_,_,_,rfl⟩ q3) q3 hne',ec▸(fun k hk=>Nat.le_trans hs41 (f0 k hk)),ed▸(fun k hk=>Nat.le_trans hs47 (f1 k hk))⟩⟩
   ·have hR:(some (c::l)).bind kB=none:=zI hN
    refine aa (ae Jg Jg (an gy Jg Jg ((pE (st:=some l) rr hl1 hN)) ?_))
    rintro v41 w41 ⟨g41,rfl,rs⟩
    have m41:=dL.kp rr g41
    have kk:=kk.other g41 hne
    have k5:=k5.other g41 hne4
    have gg:=gg.trans g41
    have rr:=rs
    have n5:=n5.kp m41
    have d5:=d5.kp m41
    have h0:=bt.nil w41
    refine ae Jg Jg (aj Jg Jg (aS) (aj Jg Jg aT (ah Jg Jg (aE (o:=1) IQ Jg (by kernel_rfl) Jg) ?_)))
    obtain⟨w7,hs7,q7,k7⟩:=k5.st1 1 fZ h0.isS (by simp)
    refine ar Jg Jg (hs7) ?_
    have m7:=k5.kpR n5.isS d5.isS q7
    have kk:=kk.other q7 hne24
    have rr:=dL.off rr m7 q7 hne4'
    have gg:=ew gg q7 hw4
    have n7:=h0.kp m7
    have d7:=d5.kp m7
    refine ag (ac (af (aa (ae rfl rfl (an gy rfl rfl ((pE (st:=none) rr (fun _ e=>by cases e) rfl)) ?_)))))
    rintro v47 w47 ⟨g47,rfl,rs⟩
    have m47:=dL.kp rr g47
    have kk:=kk.other g47 hne
    have k7:=k7.other g47 hne4
    have gg:=gg.trans g47
    have rr:=rs
    have n7:=n7.kp m47
    have d7:=d7.kp m47
    have h1:=bt.nil w47
    refine ae Jg Jg (aj Jg Jg (aS) (aj Jg Jg aT (ah Jg Jg (aE (o:=2) IQ Jg (by kernel_rfl) Jg) ?_)))
    obtain⟨w8,hs8,q8,k8⟩:=k7.st1 2 fZ h1.isS (by simp)
    refine ar Jg Jg (hs8) ?_
    have m8:=k7.kpR n7.isS d7.isS q8
    have kk:=kk.other q8 hne24
    have rr:=dL.off rr m8 q8 hne4'
    have gg:=ew gg q8 hw4
    have n8:=n7.kp m8
    have d8:=h1.kp m8
    obtain⟨A9,n9,c9,kr,br⟩:=id rr
    refine ag (ac (af (af (aa (ae Jg Jg (aG Jg Jg (ah Jg Jg (aE (o:=1) IT Jg (by kernel_rfl) Jg) ?_)))))))
    refine am Jg Jg (ak IU Jg (kr.cell (i:=1) Jg)) (ae Jg Jg (ao Jg Jg Jg (ao Jg Jg Jg (ao Jg Jg Jg (aw Jg Jg Jg ?_)))))
    refine ag (ac (bB Jg (af (aa ?_))))
    refine bm (vs:=[]) Jg Jg d9 ?_
    refine ae Jg Jg (an cQ Jg Jg (cS rr) ?_)
    rintro v62 w62 ⟨rfl,rs,g62⟩
    have m62:=dL.kp rr g62
    have gg:=gg.trans g62
    have kk:=kk.other g62 hne
    have rr:=rs
    obtain⟨p,q,w3,hp,hs3,q3,k3,n3,d3⟩:=kk.stR ⟨_,_,_,rfl⟩ ⟨_,_,_,rfl⟩ (dc.mk (b:=false) (bt.nil _) (bt.nil _))
    refine ar Jg Jg (hs3) (ab Jg Jg (ag (ac (au (av ?_)))))
    refine bH Jg Jg Jg k3 IQ Jg cP ?_
    exact⟨_,rfl,ew gg q3 l2,by rw[hR];exact⟨_,rfl,⟨p,q,rfl,n3,d3⟩,dL.off rr (kk.kpR ⟨_,_,_,rfl⟩ ⟨_,_,_,rfl⟩ q3) q3 hne'⟩⟩
   ·have hR:(some (c::l)).bind kB=none:=by
     show kB (c::l)=none
     rw[su hc hN,←hs,hM];rfl
    refine aa (ae Jg Jg (an gy Jg Jg ((pG (st:=some l) rr hl1 hN)) ?_))
    rintro v41 w41 ⟨g41,v0,rfl,h0,rs⟩
    have m41:=dL.kp rr g41
    have kk:=kk.other g41 hne
    have k5:=k5.other g41 hne4
    have gg:=gg.trans g41
    have rr:=rs
    have n5:=n5.kp m41
    have d5:=d5.kp m41
    refine ae Jg Jg (aj Jg Jg (aS) (aj Jg Jg aT (ah Jg Jg (aE (o:=1) IQ Jg (by kernel_rfl) Jg) ?_)))
    obtain⟨w7,hs7,q7,k7⟩:=k5.st1 1 fZ h0.isS (by simp)
    refine ar Jg Jg (hs7) ?_
    have m7:=k5.kpR n5.isS d5.isS q7
    have kk:=kk.other q7 hne24
    have rr:=dL.off rr m7 q7 hne4'
    have gg:=ew gg q7 hw4
    have n7:=h0.kp m7
    have d7:=d5.kp m7
    refine ag (ac (af (aa (ae Jg Jg ?_))))
    have hl2:∀l',some t=some l'→l'.length≤549755813888:=fun l' e=>by
     cases e
     have h1:=(fl hN).1
     have:=hl1 _ rfl
     rw[h1,List.length_append] at this
     omega
    refine an gy Jg Jg ((pE (st:=some t) rr hl2 hM)) ?_
    rintro v47 w47 ⟨g47,rfl,rs⟩
    have m47:=dL.kp rr g47
    have kk:=kk.other g47 hne
    have k7:=k7.other g47 hne4
    have gg:=gg.trans g47
    have rr:=rs
    have n7:=n7.kp m47
    have d7:=d7.kp m47
    have h1:=bt.nil w47
    refine ae Jg Jg (aj Jg Jg (aS) (aj Jg Jg aT (ah Jg Jg (aE (o:=2) IQ Jg (by kernel_rfl) Jg) ?_)))
    obtain⟨w8,hs8,q8,k8⟩:=k7.st1 2 fZ h1.isS (by simp)
    refine ar Jg Jg (hs8) ?_
    have m8:=k7.kpR n7.isS d7.isS q8
    have kk:=kk.other q8 hne24
    have rr:=dL.off rr m8 q8 hne4'
    have gg:=ew gg q8 hw4
    have n8:=n7.kp m8
    have d8:=h1.kp m8
    obtain⟨A9,n9,c9,kr,br⟩:=id rr
    refine ag (ac (af (af (aa (ae Jg Jg (aG Jg Jg (ah Jg Jg (aE (o:=1) IT Jg (by kernel_rfl) Jg) ?_)))))))
    refine am Jg Jg (ak IU Jg (kr.cell (i:=1) Jg)) (ae Jg Jg (ao Jg Jg Jg (ao Jg Jg Jg (ao Jg Jg Jg (aw Jg Jg Jg ?_)))))
    refine ag (ac (bB Jg (af (aa ?_))))
    refine bm (vs:=[]) Jg Jg d9 ?_
    refine ae Jg Jg (an cQ Jg Jg (cS rr) ?_)
    rintro v62 w62 ⟨rfl,rs,g62⟩
    have m62:=dL.kp rr g62
    have gg:=gg.trans g62
    have kk:=kk.other g62 hne
    have rr:=rs
    obtain⟨p,q,w3,hp,hs3,q3,k3,n3,d3⟩:=kk.stR ⟨_,_,_,rfl⟩ ⟨_,_,_,rfl⟩ (dc.mk (b:=false) (bt.nil _) (bt.nil _))
    refine ar Jg Jg (hs3) (ab Jg Jg (ag (ac (au (av ?_)))))
    refine bH Jg Jg Jg k3 IQ Jg cP ?_
    exact⟨_,rfl,ew gg q3 l2,by rw[hR];exact⟨_,rfl,⟨p,q,rfl,n3,d3⟩,dL.off rr (kk.kpR ⟨_,_,_,rfl⟩ ⟨_,_,_,rfl⟩ q3) q3 hne'⟩⟩
end Go.Rl

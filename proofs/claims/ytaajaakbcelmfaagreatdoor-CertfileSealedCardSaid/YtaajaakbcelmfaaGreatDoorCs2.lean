/- Part 2 of a proof: plain facts and walks of functions, merged by a program. Conditions: each lemma names its own. -/
import Derived.Test.YtaajaakbcelmfaaGreatDoorCs1
namespace Go.Rl
theorem iQ (l:List UInt32) (i:Nat):val (l.take (i+1))=val (l.take i)+4294967296^i*(l.getD i 0).toNat:=by
 rcases Nat.lt_or_ge i l.length with h|h
 ·rw[bV h];simp[List.getD,List.getElem?_eq_getElem h]
 ·rw[List.take_of_length_le h,List.take_of_length_le (by omega)];simp[List.getD,List.getElem?_eq_none h]
theorem lj (l:List UInt32) {i:Nat} (h:l.length≤i):val (l.take i)=val l:=by rw[List.take_of_length_le h]
def xp (l:List UInt32) (n:Nat):List UInt32:=l++List.replicate (n-l.length) 0
theorem nB {l:List UInt32} {n:Nat} (h:l.length≤n):(xp l n).length=n:=by simp[xp];omega
theorem sj (l:List UInt32) (n:Nat):val (xp l n)=val l:=by simp[xp,et,qt]
theorem sk {l:List UInt32} {n i:Nat} (h:i<(xp l n).length):(xp l n)[i]=l.getD i 0:=by
 unfold xp at h⊢
 rcases Nat.lt_or_ge i l.length with h1|h1
 ·rw[List.getElem_append_left h1];simp[List.getD,List.getElem?_eq_getElem h1]
 ·rw[List.getElem_append_right h1];simp[List.getD,List.getElem?_eq_none h1]
theorem Fsz {l m:List UInt32} {n j:Nat} (hl:l.length≤n) (hm:m.length≤n) (hj:j<n) (hd:(xp l n).drop (j+1)=(xp m n).drop (j+1)) (h:(l.getD j 0).toNat<(m.getD j 0).toNat):val l<val m:=by
 rw[←sj l n,←sj m n]
 exact Cy (by rw[nB hl];exact hj) (by rw[nB hm];exact hj) hd (by rw[sk,sk];exact h)
theorem FT {l m:List UInt32} {n j:Nat} (hl:l.length≤n) (hm:m.length≤n) (hj:j<n) (hd:(xp l n).drop (j+1)=(xp m n).drop (j+1)) (h:(l.getD j 0).toNat=(m.getD j 0).toNat):(xp l n).drop j=(xp m n).drop j:=by
 have h1:=List.drop_eq_getElem_cons (l:=xp l n) (i:=j) (by rw[nB hl];exact hj)
 have h2:=List.drop_eq_getElem_cons (l:=xp m n) (i:=j) (by rw[nB hm];exact hj)
 rw[h1,h2,hd,sk,sk,jQ h]
theorem HT {l m:List UInt32} {n:Nat} (h:xp l n=xp m n):val l=val m:=by rw[←sj l n,←sj m n,h]
theorem vm {a b O:List UInt32} {i:Nat} {c:UInt64} (hO:O.length=i) (hc:c.toNat≤1) (hinv:val O+4294967296^i*c.toNat=val (a.take i)+val (b.take i)):
 val (O++[(c+((a.getD i 0).toUInt64+(b.getD i 0).toUInt64)).toUInt32])+4294967296^(i+1)*((c+((a.getD i 0).toUInt64+(b.getD i 0).toUInt64))>>>UInt64.ofNat 32).toNat=val (a.take (i+1))+val (b.take (i+1))∧
  ((c+((a.getD i 0).toUInt64+(b.getD i 0).toUInt64))>>>UInt64.ofNat 32).toNat≤1:=by
 have ha:=cT (a.getD i 0)
 have hb:=cT (b.getD i 0)
 have hC:(c+((a.getD i 0).toUInt64+(b.getD i 0).toUInt64)).toNat=c.toNat+((a.getD i 0).toNat+(b.getD i 0).toNat):=by rw[nV,nV,fF,fF];omega
 have hhi:((c+((a.getD i 0).toUInt64+(b.getD i 0).toUInt64))>>>UInt64.ofNat 32).toNat=(c.toNat+((a.getD i 0).toNat+(b.getD i 0).toNat))/4294967296:=by rw[rl _ (by omega),hC]
 refine⟨?_,by rw[hhi];omega⟩
 rw[et,lf,hO,kt,hhi,hC,iQ,iQ,Nat.pow_succ]
 have key:=Nat.div_add_mod (c.toNat+((a.getD i 0).toNat+(b.getD i 0).toNat)) 4294967296
 have k2:=congrArg (4294967296^i* ·) key
 simp only[Nat.mul_add] at k2 hinv⊢
 simp only[Nat.mul_assoc] at k2⊢
 omega
theorem FU {O:List UInt32} {i:Nat} {c:UInt64} (hO:O.length=i) (hc:c.toNat≤1):val (O++[c.toUInt32])=val O+4294967296^i*c.toNat:=by
 rw[et,lf,hO,kt,Nat.mod_eq_of_lt (by omega)]
theorem vn {a b O:List UInt32} {i:Nat} {d:UInt64} (hO:O.length=i) (hd:d.toNat≤1) (hinv:val (a.take i)+4294967296^i*d.toNat=val O+val (b.take i)) {x y:UInt64}
 (h:(x=(a.getD i 0).toUInt64+4294967296∧(a.getD i 0).toNat<(b.getD i 0).toNat+d.toNat∧y=1)∨(x=(a.getD i 0).toUInt64∧(b.getD i 0).toNat+d.toNat≤(a.getD i 0).toNat∧y=0)):
 val (a.take (i+1))+4294967296^(i+1)*y.toNat=val (O++[(x-((b.getD i 0).toUInt64+d)).toUInt32])+val (b.take (i+1))∧y.toNat≤1:=by
 have ha:=cT (a.getD i 0)
 have hb:=cT (b.getD i 0)
 have hy:((b.getD i 0).toUInt64+d).toNat=(b.getD i 0).toNat+d.toNat:=by rw[nV,fF];omega
 have e1:(1:UInt64).toNat=1:=rfl
 have e0:(0:UInt64).toNat=0:=rfl
 have key:(a.getD i 0).toNat+4294967296*y.toNat=(x-((b.getD i 0).toUInt64+d)).toUInt32.toNat+((b.getD i 0).toNat+d.toNat)∧y.toNat≤1:=by
  rcases h with⟨rfl,h,rfl⟩|⟨rfl,h,rfl⟩
  ·have hx:((a.getD i 0).toUInt64+4294967296).toNat=(a.getD i 0).toNat+4294967296:=by
    rw[nV,fF]
    show((a.getD i 0).toNat+4294967296)%18446744073709551616=_
    omega
   rw[kt,pu,hy,hx,e1]
   omega
  ·rw[kt,pu,hy,fF,e0]
   omega
 refine⟨?_,key.2⟩
 rw[et,lf,hO,iQ,iQ,Nat.pow_succ]
 have k2:=congrArg (4294967296^i* ·) key.1
 simp only[Nat.mul_add] at k2 hinv⊢
 simp only[Nat.mul_assoc] at k2⊢
 omega
theorem DI {a O:List UInt32} {i q s:Nat} {c:UInt64} (hs:s<32) (hi:i<a.length) (hO:O.length=q+i) (hc:c.toNat<2^s) (hinv:val O+4294967296^(q+i)*c.toNat=val (a.take i)*(4294967296^q*2^s)):
 val (O++[(c|||a[i].toUInt64<<<UInt64.ofNat s).toUInt32])+4294967296^(q+(i+1))*((c|||a[i].toUInt64<<<UInt64.ofNat s)>>>UInt64.ofNat 32).toNat=val (a.take (i+1))*(4294967296^q*2^s)∧
  ((c|||a[i].toUInt64<<<UInt64.ofNat s)>>>UInt64.ofNat 32).toNat<2^s:=by
 have ha:=cT a[i]
 have hps:2^s≤2^31:=Nat.pow_le_pow_right (by omega) (by omega)
 have hsh:(a[i].toUInt64<<<UInt64.ofNat s).toNat=2^s*a[i].toNat:=by
  rw[yO _ (by omega),fF,Nat.mod_eq_of_lt,Nat.mul_comm]
  have:a[i].toNat*2^s≤4294967295*2^31:=Nat.mul_le_mul (by omega) hps
  omega
 have hC:(c|||a[i].toUInt64<<<UInt64.ofNat s).toNat=c.toNat+2^s*a[i].toNat:=by rw[HR,hsh,JR _ _ _ hc]
 have hhi:((c|||a[i].toUInt64<<<UInt64.ofNat s)>>>UInt64.ofNat 32).toNat=(c.toNat+2^s*a[i].toNat)/4294967296:=by rw[rl _ (by omega),hC]
 refine⟨?_,?_⟩
 ·rw[et,lf,hO,kt,hhi,hC,bV hi,Nat.add_mul,←hinv,←Nat.add_assoc q i 1,Nat.pow_succ,Nat.pow_add]
  have key:=Nat.div_add_mod (c.toNat+2^s*a[i].toNat) 4294967296
  have k2:=congrArg (4294967296^q*4294967296^i* ·) key
  have e:4294967296^i*a[i].toNat*(4294967296^q*2^s)=4294967296^q*4294967296^i*(2^s*a[i].toNat):=by
   simp only[Nat.mul_comm,Nat.mul_left_comm,Nat.mul_assoc]
  rw[e]
  simp only[Nat.mul_add] at k2⊢
  simp only[Nat.mul_assoc] at k2⊢
  omega
 ·rw[hhi,Nat.div_lt_iff_lt_mul (by omega)]
  have h1:2^s*(a[i].toNat+1)≤2^s*4294967296:=Nat.mul_le_mul_left _ ha
  rw[Nat.mul_add] at h1
  omega
theorem Jf {a:List UInt32} {i:Nat} (hi:i/32<a.length):((a[i/32]>>>UInt32.ofNat (i%32))&&&1).toNat=val a/2^i%2:=by
 have hs:i%32<32:=Nat.mod_lt _ (by omega)
 have e1:((a[i/32]>>>UInt32.ofNat (i%32))&&&1).toNat=a[i/32].toNat/2^(i%32)%2:=by
  rw[UInt32.toNat_and,pt _ hs]
  show _&&&1=_
  rw[Nat.and_one_is_mod]
 have h1:=ej a (i/32) (by omega)
 have h2:=cv (a.take (i/32))
 rw[List.length_take,Nat.min_eq_left (by omega)] at h2
 have h3:(4294967296:Nat)^(i/32)=2^(32*(i/32)):=by rw[Nat.pow_mul]
 rw[h3] at h1 h2
 have h4:val a/2^(32*(i/32))=val (a.drop (i/32)):=by
  rw[h1,Nat.add_mul_div_left _ _ (Nat.pow_pos (by omega)),Nat.div_eq_of_lt h2,Nat.zero_add]
 have h5:val a/2^i=val (a.drop (i/32))/2^(i%32):=by
  rw[←h4,Nat.div_div_eq_div_mul,←Nat.pow_add,Nat.div_add_mod]
 rw[e1,h5,eQ hi]
 have hp:2^(i%32)*2^(32-i%32)=4294967296:=by rw[←Nat.pow_add,show i%32+(32-i%32)=32 by omega]
 obtain⟨k,hk⟩:∃k,32-i%32=k+1:=⟨31-i%32,by omega⟩
 rw[←hp,Nat.mul_assoc,Nat.add_mul_div_left _ _ (Nat.pow_pos (by omega)),hk,Nat.pow_succ,Nat.mul_comm (2^k) 2,Nat.mul_assoc,Nat.add_mul_mod_self_left]
theorem Jg {a:List UInt32} {i t:Nat} (hi:i/32<a.length) (hv:val a=2^(i+1)*t):val (a.set (i/32) (a[i/32]|||(1:UInt32)<<<UInt32.ofNat (i%32)))=val a+2^i:=by
 have hs:i%32<32:=Nat.mod_lt _ (by omega)
 have h1:=ej a (i/32) (by omega)
 have h2:=cv (a.take (i/32))
 rw[List.length_take,Nat.min_eq_left (by omega)] at h2
 have h3:(4294967296:Nat)^(i/32)=2^(32*(i/32)):=by rw[Nat.pow_mul]
 have h4:val (a.drop (i/32))=2^(i%32+1)*t:=by
  have e:val a/2^(32*(i/32))=val (a.drop (i/32)):=by
   rw[h3] at h1 h2
   rw[h1,Nat.add_mul_div_left _ _ (Nat.pow_pos (by omega)),Nat.div_eq_of_lt h2,Nat.zero_add]
  rw[←e,hv,show i+1=32*(i/32)+(i%32+1) by omega,Nat.pow_add,Nat.mul_assoc,Nat.mul_div_cancel_left _ (Nat.pow_pos (by omega))]
 have h5:a[i/32].toNat=2^(i%32+1)*(t%2^(31-i%32)):=by
  have e:=eQ hi
  rw[h4] at e
  have e2:a[i/32].toNat=2^(i%32+1)*t%4294967296:=by
   rw[e,Nat.add_mul_mod_self_left,Nat.mod_eq_of_lt (cT _)]
  have hp:2^(i%32+1)*2^(31-i%32)=4294967296:=by rw[←Nat.pow_add,show i%32+1+(31-i%32)=32 by omega]
  rw[e2,←hp,Nat.mul_mod_mul_left]
 have h6:((1:UInt32)<<<UInt32.ofNat (i%32)).toNat=2^(i%32):=by
  rw[HQ _ hs]
  show 1*2^(i%32)%4294967296=_
  have:2^(i%32)≤2^31:=Nat.pow_le_pow_right (by omega) (by omega)
  rw[Nat.one_mul,Nat.mod_eq_of_lt (by omega)]
 have h7:(a[i/32]|||(1:UInt32)<<<UInt32.ofNat (i%32)).toNat=a[i/32].toNat+2^(i%32):=by
  rw[FI,h6,h5,Nat.or_comm,JR _ _ _ (Nat.pow_lt_pow_right (by omega) (by omega)),Nat.add_comm]
 have h8:=fy hi (a[i/32]|||(1:UInt32)<<<UInt32.ofNat (i%32))
 have h9:=ej (a.set (i/32) (a[i/32]|||(1:UInt32)<<<UInt32.ofNat (i%32))) (i/32+1) (by simp;omega)
 rw[h8,List.drop_set_of_lt (by omega),h7] at h9
 have h10:=ej a (i/32+1) (by omega)
 rw[bV hi] at h10
 rw[h9,h10,Nat.mul_add]
 have e:4294967296^(i/32)*2^(i%32)=2^i:=by rw[h3,←Nat.pow_add,Nat.div_add_mod]
 rw[e];omega
theorem AT {N V i:Nat} (hV:0<V):
 N/2^i=2*(N/2^(i+1))+N/2^i%2∧(V≤2*(N/2^(i+1)%V)+N/2^i%2→N/2^i%V=2*(N/2^(i+1)%V)+N/2^i%2-V∧N/2^i/V=2*(N/2^(i+1)/V)+1)∧
  (2*(N/2^(i+1)%V)+N/2^i%2<V→N/2^i%V=2*(N/2^(i+1)%V)+N/2^i%2∧N/2^i/V=2*(N/2^(i+1)/V)):=by
 have e:N/2^(i+1)=N/2^i/2:=by rw[Nat.pow_succ,Nat.div_div_eq_div_mul]
 rw[e]
 generalize N/2^i=M
 have h1:M=2*(M/2)+M%2:=by omega
 have h2:=Nat.div_add_mod (M/2) V
 have h3:=Nat.mod_lt (M/2) hV
 refine⟨h1,fun h=>?_,fun h=>?_⟩
 ·have key:M=V*(2*(M/2/V)+1)+(2*(M/2%V)+M%2-V):=by
   rw[Nat.mul_add,Nat.mul_left_comm];omega
  have hlt:2*(M/2%V)+M%2-V<V:=by omega
  constructor
  ·conv=>lhs;rw[key]
   rw[Nat.mul_add_mod,Nat.mod_eq_of_lt hlt]
  ·conv=>lhs;rw[key]
   rw[Nat.mul_add_div hV,Nat.div_eq_of_lt hlt,Nat.add_zero]
 ·have key:M=V*(2*(M/2/V))+(2*(M/2%V)+M%2):=by
   rw[Nat.mul_left_comm];omega
  constructor
  ·conv=>lhs;rw[key]
   rw[Nat.mul_add_mod,Nat.mod_eq_of_lt h]
  ·conv=>lhs;rw[key]
   rw[Nat.mul_add_div hV,Nat.div_eq_of_lt h,Nat.add_zero]
theorem HU {n:Nat} (h:0<n):bl n=bl (n/2)+1:=by
 rcases(show n=1∨2≤n by omega) with rfl|h1
 ·rfl
 ·have:=mC (n:=n) (s:=1) (by omega)
  rw[Nat.pow_one] at this
  omega
end Go.Rl
namespace Go.Rl
open Go.RowKit Go.Proofs
theorem eX:ay Tryz.prog 186:=⟨_,Tryz.func186,by kernel_rfl,rfl⟩
theorem yX:ay Tryz.prog 196:=⟨_,Tryz.func196,by kernel_rfl,rfl⟩
theorem th:ay Tryz.prog 195:=⟨_,Tryz.func195,by kernel_rfl,rfl⟩
theorem eY:ay Tryz.prog 212:=⟨_,Tryz.func212,by kernel_rfl,rfl⟩
theorem vq:ay Tryz.prog 200:=⟨_,Tryz.func200,by kernel_rfl,rfl⟩
theorem tj:ay Tryz.prog 167:=⟨_,Tryz.func167,by kernel_rfl,rfl⟩
theorem DJ:ay Tryz.prog 199:=⟨_,Tryz.func199,by kernel_rfl,rfl⟩
theorem DK:ay Tryz.prog 201:=⟨_,Tryz.func201,by kernel_rfl,rfl⟩
theorem DL:ay Tryz.prog 198:=⟨_,Tryz.func198,by kernel_rfl,rfl⟩
theorem AU:ay Tryz.prog 197:=⟨_,Tryz.func197,by kernel_rfl,rfl⟩
theorem vv {w:World} {l:List UInt32} {v:Value} (hv:bo l v w) (hl:l.length≤8796093022208):
 Calls Tryz.prog 186 #[v] w (bE fun r w'=>aI w w'∧dQ w.heap.size (lb (val l)) r w'):=by
 refine enter (vs:=[v]) Tryz.func186 Ll Ll Ll ?_
 refine af (aa (ac Ll Ll (ag (ab (af (aa (ae Ll Ll (aQ Ll Ll (bu KY hv) (ac Ll Ll (ag (ab (af ?_))))))))))))
 refine ax ?_
 refine bZ (α:=Nat) (fun n=>[(0,v),(3,I (n:Int))]) (fun n w'=>w=w'∧n≤l.length∧val (l.take n)=val l) (fun n=>n) (l.length) ⟨rfl,rfl,trivial⟩ ⟨rfl,Nat.le_refl _,by rw[List.take_length]⟩ ?_
 rintro n _ ⟨rfl,hn,hval⟩
 refine af (af (aa (ae Ll Ll (ai Ll Ll Ll (ck) (ae Ll Ll ?_)))))
 refine cO (fun h8=>?_) (fun h8=>?_)
 ·refine al Ll (ae Ll Ll (al Ll (ae Ll Ll (al Ll (ai (r:=I ((n-1:Nat):Int)) Ll Ll Ll (by have e:((n-1:Nat):Int)=(n:Int)-1:=(by omega);rw[e];exact bg (by omega) (by omega)) ?_)))))
  refine al Ll ?_
  obtain⟨a12,p12,q12⟩:=cP KY hv (i:=(n-1:Nat)) (by omega) .i64
  refine aA Ll Ll Ll (p12 _) (al Ll (am Ll Ll (aj KL Ll q12) (al Ll (ai (v:=bA 0) Ll Ll Ll (kj) (aw Ll Ll Ll ?_)))))
  refine ag (ab ?_)
  refine bi Ll (fun h15=>?_) (fun h15=>?_)
  ·refine ar (ab (ax (aa (ae Ll Ll (ai (r:=I ((n-1:Nat):Int)) Ll Ll Ll (by have e:((n-1:Nat):Int)=(n:Int)-1:=(by omega);rw[e];exact bg (by omega) (by omega)) ?_)))))
   refine ac Ll Ll (ag (aJ ?_))
   refine bQ (n-1) ⟨rfl,rfl,trivial⟩ ⟨rfl,by omega,by rw[qw (by omega) hn h15];exact hval⟩ (by omega)
  ·refine aY (aB (aB (aX (ab (af (aa ?_))))))
   obtain⟨v18,w18,hr18,x18,o18,ob18⟩:=ir Tryz.underlying53 (w:=w) w.heap.size [] (by simp) (Nat.le_refl _)
   refine aO (vs:=[]) Ll Ll hr18 (ae Ll Ll (ae Ll Ll ?_))
   obtain⟨v21,p21,b21⟩:=sW KY (hv.ext x18) (hi:=n) hn .i64
   refine cw Ll Ll Ll Ll Ll (p21 _) ?_
   obtain⟨v22,w22,hr22,o22,g22⟩:=Cz Tryz.underlying53 Tryz.underlying52 (ty:=53) o18 b21 (by simp;omega) (x18).size
   have x22:=aI.of_grew (x18) g22 o18.ge
   refine bc Ll Ll hr22 (ac Ll Ll (ag (ab (av (aG Ll Ll ?_)))))
   exact⟨_,rfl,x22,by
    have e:lb (val l)=l.take n:=by
     first
     |rw[←hval,kq (by omega) hn h15]
     |(have h0:n=0:=by omega
       subst h0
       rw[←hval];rfl)
    rw[e];simpa using o22⟩
 ·refine ao Ll Ll Ll (ao Ll Ll Ll (ao Ll Ll Ll (ao Ll Ll Ll (ao Ll Ll Ll (ao Ll Ll Ll (aC Ll Ll Ll (ag (ab (cp Ll (aY (aB (aB ?_))))))))))))
  refine aX (ab (af (aa ?_)))
  obtain⟨v18,w18,hr18,x18,o18,ob18⟩:=ir Tryz.underlying53 (w:=w) w.heap.size [] (by simp) (Nat.le_refl _)
  refine aO (vs:=[]) Ll Ll hr18 (ae Ll Ll (ae Ll Ll ?_))
  obtain⟨v21,p21,b21⟩:=sW KY (hv.ext x18) (hi:=n) hn .i64
  refine cw Ll Ll Ll Ll Ll (p21 _) ?_
  obtain⟨v22,w22,hr22,o22,g22⟩:=Cz Tryz.underlying53 Tryz.underlying52 (ty:=53) o18 b21 (by simp;omega) (x18).size
  have x22:=aI.of_grew (x18) g22 o18.ge
  refine bc Ll Ll hr22 (ac Ll Ll (ag (ab (av (aG Ll Ll ?_)))))
  exact⟨_,rfl,x22,by
   have e:lb (val l)=l.take n:=by
    first
    |rw[←hval,kq (by omega) hn h15]
    |(have h0:n=0:=by omega
      subst h0
      rw[←hval];rfl)
   rw[e];simpa using o22⟩
theorem fz {w:World} {l:List UInt32} {v:Value} (hv:bo l v w) (hl:l.length≤8796093022208):
 Calls Tryz.prog 186 #[v] w (bE fun r w'=>aI w w'∧bo (lb (val l)) r w'):=
 (vv hv hl).mono fun _ _ ⟨r,he,h1,h2⟩=>⟨r,he,h1,h2.wds⟩
theorem yY {w:World} {x:UInt64}:
 Calls Tryz.prog 196 #[bj x] w (bE fun r w'=>aI w w'∧bo (lb x.toNat) r w'):=by
 refine enter (vs:=[bj x]) Tryz.func196 Ll Ll Ll ?_
 refine af (aa (ac Ll Ll (ag (ab (af (aa (ae Ll Ll (aR Ll Ll (cA KN KL) (ae Ll Ll ?_)))))))))
 refine ai Ll Ll Ll (dz 32 (by omega)) (aR Ll Ll (cA KN KL) ?_)
 obtain⟨v8,w8,hr8,x8,o8,ob8⟩:=ir Tryz.underlying52 (w:=w) w.heap.size [x.toUInt32,(x>>>UInt64.ofNat 32).toUInt32] (by simp) (Nat.le_refl _)
 refine aO (vs:=[(0,bA (x.toUInt32)),(1,bA ((x>>>UInt64.ofNat 32).toUInt32))]) Ll Ll hr8 (an eX Ll Ll (fz o8.wds (by simp)) ?_)
 rintro v9 w9 ⟨x9,b9⟩
 refine ac Ll Ll (ag (ab (av (aG Ll Ll ?_))))
 exact⟨_,rfl,(x8.trans x9),by
  have e:val [x.toUInt32,(x>>>UInt64.ofNat 32).toUInt32]=x.toNat:=by
   have h1:=kt x
   have h2:((x>>>UInt64.ofNat 32).toUInt32).toNat=x.toNat/4294967296:=by
    have:=AP x
    rw[kt,vg]
    omega
   simp only[val,h1,h2];omega
  rw[e] at b9;exact b9⟩
theorem eZ {w:World} {l:List UInt32} {v:Value} {i:Nat} (hv:bo l v w):
 Calls Tryz.prog 212 #[v,I (i:Int)] w (bE fun r w'=>w=w'∧r=bA (l.getD i 0)):=by
 refine enter (vs:=[v,I (i:Int)]) Tryz.func212 Ll Ll Ll ?_
 refine af (aa (ac Ll Ll (ag (ab (af (af (aa (ae Ll Ll (ae Ll Ll (aQ Ll Ll (bu KK hv) (ai Ll Ll Ll (aW) ?_)))))))))))
 refine ag (ab ?_)
 refine bi Ll (fun h8=>?_) (fun h8=>?_)
 ·refine af (aa (ae Ll Ll (ae Ll Ll ?_)))
  obtain⟨a11,p11,q11⟩:=cP KK hv (i:=i) (by omega) .i64
  refine aA Ll Ll Ll (p11 _) (am Ll Ll (aj KL Ll q11) (ac Ll Ll (ag (ab (av (au (aG Ll Ll ?_)))))))
  exact⟨_,rfl,rfl,by simp[List.getD,List.getElem?_eq_getElem (show i<l.length by omega)]⟩
 ·refine ar (ab (af (aa (ac Ll Ll (ag (ab (av (aG Ll Ll ?_))))))))
  exact⟨_,rfl,rfl,by simp[List.getD,List.getElem?_eq_none (show l.length≤i by omega)];rfl⟩
theorem vw {w:World} {l m:List UInt32} {v u:Value} (hv:bo l v w) (hu:bo m u w):
 Calls Tryz.prog 200 #[v,u] w (bE fun r w'=>w=w'∧r=I (qu (val l) (val m))):=by
 refine enter (vs:=[v,u]) Tryz.func200 Ll Ll Ll ?_
 have hll:=hv.len
 have hml:=hu.len
 obtain⟨n,hn⟩:∃n,n=max l.length m.length:=⟨_,rfl⟩
 have hln:l.length≤n:=by omega
 have hmn:m.length≤n:=by omega
 refine af (aa (ac Ll Ll (ag (ab (af (af (aa (ae Ll Ll (aQ Ll Ll (bu KK hv) (ae Ll Ll (aQ Ll Ll (bu KK hu) ?_)))))))))))
 refine JX (r:=I ((n:Nat):Int)) (vs:=[I (l.length:Int),I (m.length:Int)]) Ll Ll (by rw[hn];exact HP) ?_
 refine ai Ll Ll Ll (bg (by omega) (by omega)) (ac Ll Ll (ag (ab (ax ?_))))
 refine bZ (α:=Nat) (fun k=>[(0,v),(1,u),(5,I ((k:Int)-1))]) (fun k w'=>w=w'∧k≤n∧(xp l n).drop k=(xp m n).drop k) (fun k=>k) (n) ⟨rfl,rfl,rfl,trivial⟩ ⟨rfl,Nat.le_refl _,by rw[List.drop_of_length_le (by rw[nB hln];exact Nat.le_refl _),List.drop_of_length_le (by rw[nB hmn];exact Nat.le_refl _)]⟩ ?_
 rintro k _ ⟨rfl,hk,hd⟩
 refine af (af (aa (ae Ll Ll (ai Ll Ll Ll (iP) (ag (ab ?_))))))
 refine bi Ll (fun h13=>?_) (fun h13=>?_)
 ·obtain⟨j,rfl⟩:∃j,k=j+1:=⟨k-1,by omega⟩
  have e:((j+1:Nat):Int)-1=(j:Int):=by omega
  rw[e]
  refine ar (ab (af (ax (af (af (aa (ae Ll Ll (ae Ll Ll (an eY Ll Ll (eZ hv) ?_)))))))))
  rintro v18 _ ⟨rfl,rfl⟩
  refine ae Ll Ll (ae Ll Ll (an eY Ll Ll (eZ hu) ?_))
  rintro v21 _ ⟨rfl,rfl⟩
  refine ai Ll Ll Ll (u4) (ag (ab ?_))
  refine bi Ll (fun h22=>?_) (fun h22=>?_)
  ·refine af (aa (ac Ll Ll (ag (ab (av (au (aV (au (au (aV (au (aG Ll Ll ?_))))))))))))
   exact⟨_,rfl,rfl,congrArg I (xn (Fsz hln hmn (by omega) hd (yQ.1 h22))).symm⟩
  ·refine ar (ab (af (aa (ae Ll Ll (ae Ll Ll (an eY Ll Ll (eZ hv) ?_))))))
   rintro v25 _ ⟨rfl,rfl⟩
   refine ae Ll Ll (ae Ll Ll (an eY Ll Ll (eZ hu) ?_))
   rintro v28 _ ⟨rfl,rfl⟩
   refine ai Ll Ll Ll (u5) (ag (ab ?_))
   refine bi Ll (fun h29=>?_) (fun h29=>?_)
   ·refine af (aa (ac Ll Ll (ag (ab (av (aV (au (au (aV (au (aG Ll Ll ?_)))))))))))
    exact⟨_,rfl,rfl,congrArg I (xo (Fsz hmn hln (by omega) hd.symm (yQ.1 h29))).symm⟩
   ·refine ar (aJ (ab (aa (ae Ll Ll (ai Ll Ll Ll (bg (by omega) (by omega)) (ac Ll Ll (ag ?_)))))))
    refine bQ j ⟨rfl,rfl,rfl,trivial⟩ ⟨rfl,by omega,FT hln hmn (by omega) hd (by
     have a:=mt yQ.2 h22
     have b:=mt (yQ (a:=m.getD j 0) (b:=l.getD j 0)).2 h29
     omega)⟩ (by omega)
 ·refine aY (aB (aB (aX (ab (af (aa (ac Ll Ll (ag (ab (av (aG Ll Ll ?_)))))))))))
  exact⟨_,rfl,rfl,by
   obtain rfl:k=0:=by omega
   rw[List.drop_zero,List.drop_zero] at hd
   rw[HT hd,CB];rfl⟩
theorem tk {w:World} {l m:List UInt32} {v u:Value} (hv:bo l v w) (hu:bo m u w):
 Calls Tryz.prog 167 #[v,u] w (bE fun r w'=>aI w w'∧r=B (decide (l=m))):=by
 refine enter (vs:=[v,u]) Tryz.func167 Ll Ll Ll ?_
 have hll:=hv.len
 refine af (aa (ac Ll Ll (ag (ab (af (af (aa (ae Ll Ll (aQ Ll Ll (bu KK hv) (ae Ll Ll (aQ Ll Ll (bu KK hu) ?_)))))))))))
 refine ai Ll Ll Ll (bL) (ag (ab ?_))
 refine bi Ll (fun h10=>?_) (fun h10=>?_)
 ·refine af (aa (ac Ll Ll (ag (ab (av (au (aG Ll Ll ?_)))))))
  exact⟨_,rfl,aI.refl _,congrArg B (decide_eq_false fun h=>by subst h;exact h10 rfl).symm⟩
 ·have hlen:l.length=m.length:=by omega
  refine ar (ab (af (af (aa (ac Ll Ll (ag (ab (ax ?_))))))))
  refine bZ (α:=Nat) (fun i=>[(0,v),(1,u),(5,I (i:Int))]) (fun i w'=>aI w w'∧i≤l.length∧l.take i=m.take i) (fun i=>l.length-i) (0) ⟨rfl,rfl,rfl,trivial⟩ ⟨aI.refl _,by omega,rfl⟩ ?_
  rintro i w4 ⟨e4,hi,ht⟩
  refine af (af (aa (ae Ll Ll (ae Ll Ll (aQ Ll Ll (bu KK (hv.ext e4)) (ai Ll Ll Ll (aW) (ag (ab ?_))))))))
  refine bi Ll (fun h14=>?_) (fun h14=>?_)
  ·refine ar (ab (af (ax (af (bz 8 [0,1,5,20,24] (by kernel_rfl) (by kernel_rfl) ?_)))))
   refine ap Ll Ll (ap Ll Ll ?_)
   obtain⟨a19,p19,q19⟩:=cP KK (hv.ext e4) (i:=i) (by omega) .i64
   refine az Ll Ll Ll (fun w _=>p19 w) (aE Ll Ll (fun w hw=>aj KL Ll (hw.cell_some q19)) (ap Ll Ll (ap Ll Ll ?_)))
   obtain⟨a23,p23,q23⟩:=cP KK (hu.ext e4) (i:=i) (by omega) .i64
   refine az Ll Ll Ll (fun w _=>p23 w) (aE Ll Ll (fun w hw=>aj KL Ll (hw.cell_some q23)) (bF ?_))
   intro wg6 xg6
   rintro _ hq0
   obtain rfl:=Eq.symm hq0
   rintro _ hq1
   obtain rfl:=Eq.symm hq1
   rintro _ rfl
   rintro _ rfl
   rintro _ rfl
   refine ai Ll Ll Ll (km) (ag (ab ?_))
   refine bi Ll (fun h25=>?_) (fun h25=>?_)
   ·have hne:l≠m:=fun h=>by subst h;exact h25 rfl
    refine af (aa (ac Ll Ll (ag (ab (av (aV (au (au (aV (au (aG Ll Ll ?_)))))))))))
    exact⟨_,rfl,(e4.trans xg6),congrArg B (decide_eq_false hne).symm⟩
   ·refine ar (aJ (ab (aa (ae Ll Ll (ai (r:=I ((i+1:Nat):Int)) Ll Ll Ll (by have e:((i+1:Nat):Int)=(i:Int)+1:=(by omega);rw[e];exact aK (by omega) (by omega)) ?_)))))
    refine ac Ll Ll (ag ?_)
    refine bQ (i+1) ⟨rfl,rfl,rfl,trivial⟩ ⟨(e4.trans xg6),by omega,by rw[List.take_succ_eq_append_getElem (show i<l.length by omega),List.take_succ_eq_append_getElem (show i<m.length by omega),ht,show l[i]=m[i] from Classical.byContradiction fun h=>h25 h]⟩ (by omega)
  ·refine aY (aB (aB (aX (ab (af (aa (ac Ll Ll (ag (ab (av (aG Ll Ll ?_)))))))))))
   exact⟨_,rfl,e4,congrArg B (decide_eq_true (by
    rw[List.take_of_length_le (by omega),List.take_of_length_le (by omega)] at ht
    exact ht)).symm⟩
theorem tl {w:World} {l:List UInt32} {v:Value} (hv:bo l v w) (hl:l.length≤8796093022208):
 Calls Tryz.prog 195 #[v] w (bE fun r w'=>aI w w'∧((18446744073709551616≤val l∧r=.tuple #[bj 0,B false])∨∃x:UInt64,x.toNat=val l∧r=.tuple #[bj x,B true])):=by
 refine enter (vs:=[v]) Tryz.func195 Ll Ll Ll ?_
 refine af (aa (ac Ll Ll (ac Ll Ll (ag (ab (af (aa (ae Ll Ll (an eX Ll Ll (fz hv hl) ?_)))))))))
 rintro v5 w5 ⟨x5,b5⟩
 refine ac Ll Ll (ag (ab (af (af ?_))))
 obtain⟨t,ht⟩:∃t,t=lb (val l):=⟨_,rfl⟩
 have hval:val t=val l:=by rw[ht,bP]
 have h64:t.length≤2∨18446744073709551616≤val l:=by
  rcases Nat.lt_or_ge (val l) 18446744073709551616 with h|h
  ·exact .inl (by rw[ht];exact gO (n:=val l) (k:=2) h)
  ·exact .inr h
 rw[←ht] at b5
 refine aa (ae Ll Ll (aQ Ll Ll (bu KK b5) (ag (ab (ax (af (aa (ai Ll Ll Ll (aZ) (ac Ll Ll ?_)))))))))
 refine ag (ab ?_)
 refine bi Ll (fun h8=>?_) (fun h8=>?_)
 ·refine af (aa (ac Ll Ll (ac Ll Ll (ag (ab (av (aV (au (aM Ll Ll Ll ?_)))))))))
  exact⟨_,rfl,x5,.inr ⟨0,by
   have:t=[]:=List.eq_nil_of_length_eq_zero (by omega)
   rw[←hval,this];rfl,rfl⟩⟩
 ·refine af (aa (ai Ll Ll Ll (aZ) (ac Ll Ll (ag (ab ?_)))))
  refine bi Ll (fun h10=>?_) (fun h10=>?_)
  ·refine af (aa (ae Ll Ll ?_))
   obtain⟨a13,p13,q13⟩:=cP KK b5 (i:=0) (by omega) .i64
   refine aA Ll Ll Ll (p13 _) (am Ll Ll (aj KL Ll q13) (aR Ll Ll (bN KL KN) ?_))
   refine ac Ll Ll (ac Ll Ll (ag (ab (av (aV (au (aM Ll Ll Ll ?_)))))))
   exact⟨_,rfl,x5,.inr ⟨_,by
    obtain⟨x,rfl⟩:=List.length_eq_one_iff.1 (show t.length=1 by omega)
    rw[fF,←hval];simp[val],rfl⟩⟩
  ·refine af (aa (ai Ll Ll Ll (aZ) (ac Ll Ll (ag (ab ?_)))))
   refine bi Ll (fun h16=>?_) (fun h16=>?_)
   ·refine af (bz 11 [2] (by kernel_rfl) (by kernel_rfl) ?_)
    refine ap Ll Ll ?_
    obtain⟨a19,p19,q19⟩:=cP KK b5 (i:=0) (by omega) .i64
    refine az Ll Ll Ll (fun w _=>p19 w) (aE Ll Ll (fun w hw=>aj KL Ll (hw.cell_some q19)) (dm Ll Ll (fun w _=>bN KL KN) ?_))
    refine ap Ll Ll ?_
    obtain⟨a23,p23,q23⟩:=cP KK b5 (i:=1) (by omega) .i64
    refine az Ll Ll Ll (fun w _=>p23 w) (aE Ll Ll (fun w hw=>aj KL Ll (hw.cell_some q23)) (dm Ll Ll (fun w _=>bN KL KN) ?_))
    refine aS (v:=bj 32) Ll Ll Ll (fun w _=>fL 32 (by omega)) (aS Ll Ll Ll (fun w _=>iX) (eo Ll Ll (bF ?_)))
    intro wg8 xg8
    rintro _ rfl
    refine ac Ll Ll (ag (ab (av (aV (au (aM Ll Ll Ll ?_))))))
    exact⟨_,rfl,(x5.trans xg8),.inr ⟨_,by
     have e1:=eQ (l:=t) (i:=0) (by omega)
     have e2:=eQ (l:=t) (i:=1) (by omega)
     simp only[Nat.zero_add,Nat.reduceAdd,List.drop_zero] at e1 e2
     rw[List.drop_of_length_le (show t.length≤2 by omega)] at e2
     rw[IF (fF _) (cT _),←hval,e1,e2]
     simp[val],rfl⟩⟩
   ·refine ar (aJ (ab (af (aa (ac Ll Ll (ac Ll Ll (ag (ab (av (aM Ll Ll Ll ?_))))))))))
    exact⟨_,rfl,x5,.inl ⟨by omega,rfl⟩⟩
theorem DM {w:World} {l m:List UInt32} {v u:Value} (hv:bo l v w) (hu:bo m u w) (hl:l.length≤1099511627776) (hm:m.length≤1099511627776):
 Calls Tryz.prog 199 #[v,u] w (bE fun r w'=>aI w w'∧bo (lb (val l+val m)) r w'):=by
 refine enter (vs:=[v,u]) Tryz.func199 Ll Ll Ll ?_
 refine af (aa (ac Ll Ll (ag (ab (af (aa (ac Ll Ll (ag (ab (af (aa (ac Ll Ll (ag (ab (af (af (aa (ac Ll Ll ?_))))))))))))))))))
 refine ag (ab (ax ?_))
 refine ig (fun(i:Nat) (vo:Value) (O:List UInt32) (c:UInt64)=>[(0,v),(1,u),(5,vo),(6,bj c),(7,I (i:Int))]) (fun(i:Nat) (vo:Value) (O:List UInt32) (c:UInt64) w'=>aI w w'∧dQ w.heap.size O vo w'∧O.length=i∧i≤max l.length m.length∧c.toNat≤1∧val O+4294967296^i*c.toNat=val (l.take i)+val (m.take i)) (fun(i:Nat) (vo:Value) (O:List UInt32) (c:UInt64)=>max l.length m.length-i) (0) (.slice none 0 0) ([]) (0) ⟨rfl,rfl,rfl,rfl,rfl,trivial⟩ ⟨aI.refl _,dQ.nil _ _,rfl,by simp,by simp,by simp[val]⟩ ?_
 rintro i vo O c w4 ⟨e4,oO,hO,hi,hc,hinv⟩
 refine af (af (aa (ae Ll Ll (ae Ll Ll (aQ Ll Ll (bu KK (hv.ext e4)) (ai Ll Ll Ll (aW) (ae Ll Ll ?_)))))))
 refine cO (fun h12=>?_) (fun h12=>?_)
 ·refine ao Ll Ll Ll (ao Ll Ll Ll (ao Ll Ll Ll (ao Ll Ll Ll (aw Ll Ll Ll (ag (ab (bB Ll (ar (ab (af (ax (af ?_))))))))))))
  have hlt:i<max l.length m.length:=by
   first
   |(have:=h12;omega)
   |(have:=h17;omega)
  have st:=vm (a:=l) (b:=m) hO hc hinv
  refine aa (ae Ll Ll (ae Ll Ll (ae Ll Ll (an eY Ll Ll (eZ (hv.ext e4)) ?_))))
  rintro v23 _ ⟨rfl,rfl⟩
  refine aR Ll Ll (bN KL KN) (ae Ll Ll (ae Ll Ll (an eY Ll Ll (eZ (hu.ext e4)) ?_)))
  rintro v27 _ ⟨rfl,rfl⟩
  refine aR Ll Ll (bN KL KN) (ai Ll Ll Ll (dw) (ai Ll Ll Ll (dw) (ac Ll Ll ?_)))
  refine ag (ab (af (aa (ae Ll Ll (ae Ll Ll (aR Ll Ll (cA KN KL) ?_))))))
  obtain⟨v34,w34,hr34,x34,o34,ob34⟩:=ir Tryz.underlying52 (w:=w4) w4.heap.size [((((c)+(((((l.getD i 0)).toUInt64)+(((m.getD i 0)).toUInt64))))).toUInt32)] (by simp) (Nat.le_refl _)
  refine aO (vs:=[(0,bA (((((c)+(((((l.getD i 0)).toUInt64)+(((m.getD i 0)).toUInt64))))).toUInt32)))]) Ll Ll hr34 ?_
  obtain⟨v35,w35,hr35,o35,g35⟩:=jz Tryz.underlying52 (ty:=52) (oO.ext x34) o34.wds (by simp;omega) ((e4.trans x34)).size
  have x35:=aI.of_grew ((e4.trans x34)) g35 (oO.ext x34).ge
  refine bc Ll Ll hr35 (ac Ll Ll (ag (ab (aa (ae Ll Ll (ai Ll Ll Ll (dz 32 (by omega)) (ac Ll Ll (ag (aJ (ab (aa ?_)))))))))))
  refine ae Ll Ll (ai (r:=I ((i+1:Nat):Int)) Ll Ll Ll (by have e:((i+1:Nat):Int)=(i:Int)+1:=(by omega);rw[e];exact aK (by omega) (by omega)) ?_)
  refine ac Ll Ll (ag ?_)
  refine fq (i+1) (_) (_) (_) ⟨rfl,rfl,rfl,rfl,rfl,trivial⟩ ⟨x35,o35,by simp[hO],by omega,st.2,st.1⟩ (by omega)
 ·refine al Ll (ae Ll Ll (al Ll (ae Ll Ll (al Ll (aQ Ll Ll (bu KK (hu.ext e4)) (al Ll (ai Ll Ll Ll (aW) ?_)))))))
  refine aC Ll Ll Ll (ag (ab ?_))
  refine bi Ll (fun h17=>?_) (fun h17=>?_)
  ·refine ar (ab (af (ax (af ?_))))
   have hlt:i<max l.length m.length:=by
    first
    |(have:=h12;omega)
    |(have:=h17;omega)
   have st:=vm (a:=l) (b:=m) hO hc hinv
   refine aa (ae Ll Ll (ae Ll Ll (ae Ll Ll (an eY Ll Ll (eZ (hv.ext e4)) ?_))))
   rintro v23 _ ⟨rfl,rfl⟩
   refine aR Ll Ll (bN KL KN) (ae Ll Ll (ae Ll Ll (an eY Ll Ll (eZ (hu.ext e4)) ?_)))
   rintro v27 _ ⟨rfl,rfl⟩
   refine aR Ll Ll (bN KL KN) (ai Ll Ll Ll (dw) (ai Ll Ll Ll (dw) (ac Ll Ll ?_)))
   refine ag (ab (af (aa (ae Ll Ll (ae Ll Ll (aR Ll Ll (cA KN KL) ?_))))))
   obtain⟨v34,w34,hr34,x34,o34,ob34⟩:=ir Tryz.underlying52 (w:=w4) w4.heap.size [((((c)+(((((l.getD i 0)).toUInt64)+(((m.getD i 0)).toUInt64))))).toUInt32)] (by simp) (Nat.le_refl _)
   refine aO (vs:=[(0,bA (((((c)+(((((l.getD i 0)).toUInt64)+(((m.getD i 0)).toUInt64))))).toUInt32)))]) Ll Ll hr34 ?_
   obtain⟨v35,w35,hr35,o35,g35⟩:=jz Tryz.underlying52 (ty:=52) (oO.ext x34) o34.wds (by simp;omega) ((e4.trans x34)).size
   have x35:=aI.of_grew ((e4.trans x34)) g35 (oO.ext x34).ge
   refine bc Ll Ll hr35 (ac Ll Ll (ag (ab (aa (ae Ll Ll (ai Ll Ll Ll (dz 32 (by omega)) (ac Ll Ll (ag (aJ (ab (aa ?_)))))))))))
   refine ae Ll Ll (ai (r:=I ((i+1:Nat):Int)) Ll Ll Ll (by have e:((i+1:Nat):Int)=(i:Int)+1:=(by omega);rw[e];exact aK (by omega) (by omega)) ?_)
   refine ac Ll Ll (ag ?_)
   refine fq (i+1) (_) (_) (_) ⟨rfl,rfl,rfl,rfl,rfl,trivial⟩ ⟨x35,o35,by simp[hO],by omega,st.2,st.1⟩ (by omega)
  ·refine aY (aB (aB (aX (ab (af ?_)))))
   have hge:max l.length m.length≤i:=by
    first
    |(have:=h17;omega)
   rw[lj _ (by omega),lj _ (by omega)] at hinv
   refine aa (ae Ll Ll (ae Ll Ll (aR Ll Ll (cA KN KL) ?_)))
   obtain⟨v41,w41,hr41,x41,o41,ob41⟩:=ir Tryz.underlying52 (w:=w4) w4.heap.size [((c).toUInt32)] (by simp) (Nat.le_refl _)
   refine aO (vs:=[(0,bA (((c).toUInt32)))]) Ll Ll hr41 ?_
   obtain⟨v42,w42,hr42,o42,g42⟩:=jz Tryz.underlying52 (ty:=52) (oO.ext x41) o41.wds (by simp;omega) ((e4.trans x41)).size
   have x42:=aI.of_grew ((e4.trans x41)) g42 (oO.ext x41).ge
   refine bc Ll Ll hr42 (an eX Ll Ll (fz o42.wds (by simp;omega)) ?_)
   rintro v43 w43 ⟨x43,b43⟩
   refine ac Ll Ll (ag (ab (av (aG Ll Ll ?_))))
   exact⟨_,rfl,(x42.trans x43),by rw[←hinv,←FU hO hc];exact b43⟩
theorem DN {w:World} {l m:List UInt32} {v u:Value} (hv:bo l v w) (hu:bo m u w) (hl:l.length≤1099511627776) (hle:val m≤val l):
 Calls Tryz.prog 201 #[v,u] w (bE fun r w'=>aI w w'∧∃d,r=.tuple #[d,I 0]∧dQ w.heap.size (lb (val l-val m)) d w'):=by
 refine enter (vs:=[v,u]) Tryz.func201 Ll Ll Ll ?_
 refine af (aa (ac Ll Ll (ac Ll Ll (ag (ab (af (af (aa (ae Ll Ll (ae Ll Ll (an vq Ll Ll (vw hv hu) ?_)))))))))))
 rintro v13 _ ⟨rfl,rfl⟩
 refine ai Ll Ll Ll (cf (fun h=>by have:=mD.1 h;omega) aW) (ag (ab (cp Ll (ar (ab (af (aa (ac Ll Ll (ag (ab (af ?_)))))))))))
 refine aa (ac Ll Ll (ag (ab (af (af (aa (ac Ll Ll (ag (ab (ax ?_))))))))))
 refine ig (fun(i:Nat) (vo:Value) (O:List UInt32) (d:UInt64)=>[(0,v),(1,u),(6,vo),(7,bj d),(8,I (i:Int))]) (fun(i:Nat) (vo:Value) (O:List UInt32) (d:UInt64) w'=>aI w w'∧dQ w.heap.size O vo w'∧O.length=i∧i≤l.length∧d.toNat≤1∧val (l.take i)+4294967296^i*d.toNat=val O+val (m.take i)) (fun(i:Nat) (vo:Value) (O:List UInt32) (d:UInt64)=>l.length-i) (0) (.slice none 0 0) ([]) (0) ⟨rfl,rfl,rfl,rfl,rfl,trivial⟩ ⟨aI.refl _,dQ.nil _ _,rfl,by simp,by simp,by simp[val]⟩ ?_
 rintro i vo O d w6 ⟨e6,oO,hO,hi,hd,hinv⟩
 refine af (af (aa (ae Ll Ll (ae Ll Ll (aQ Ll Ll (bu KK (hv.ext e6)) (ai Ll Ll Ll (aW) (ag (ab ?_))))))))
 refine bi Ll (fun h18=>?_) (fun h18=>?_)
 ·refine ar (ab (af (ax (af ?_))))
  have hlt:i<l.length:=by omega
  have hxa:=fF (l.getD i 0)
  have hyb:((m.getD i 0).toUInt64+d).toNat=(m.getD i 0).toNat+d.toNat:=by
   have:=cT (m.getD i 0)
   rw[nV,fF];omega
  refine aa (ae Ll Ll (ae Ll Ll (an eY Ll Ll (eZ (hv.ext e6)) ?_)))
  rintro v23 _ ⟨rfl,rfl⟩
  refine aR Ll Ll (bN KL KN) (ae Ll Ll (ae Ll Ll (an eY Ll Ll (eZ (hu.ext e6)) ?_)))
  rintro v27 _ ⟨rfl,rfl⟩
  refine aR Ll Ll (bN KL KN) (ae Ll Ll (ai Ll Ll Ll (dw) (ac Ll Ll (ac Ll Ll ?_))))
  refine ag (ab (af (aa (ac Ll Ll (ag (ab (af (af (aa (ae Ll Ll (ae Ll Ll (ai Ll Ll Ll (dy) (ag (ab ?_))))))))))))))
  refine bi Ll (fun h33=>?_) (fun h33=>?_)
  ·have hlt2:(l.getD i 0).toNat<(m.getD i 0).toNat+d.toNat:=by
    have:=UInt64.lt_iff_toNat_lt.1 h33
    rwa [hxa,hyb] at this
   have st:=vn (a:=l) (b:=m) hO hd hinv (.inl ⟨rfl,hlt2,rfl⟩)
   refine af (aa (ae Ll Ll (ai (v:=bj 4294967296) Ll Ll Ll (dw) (ac Ll Ll (ag (ab (aa (ac Ll Ll (ag (ab (aa (ae Ll Ll ?_))))))))))))
   refine ae Ll Ll (ae Ll Ll (ai Ll Ll Ll (dx) (aR Ll Ll (cA KN KL) ?_)))
   obtain⟨v41,w41,hr41,x41,o41,ob41⟩:=ir Tryz.underlying52 (w:=w6) w6.heap.size [((((((((l.getD i 0)).toUInt64)+(4294967296)))-(((((m.getD i 0)).toUInt64)+(d))))).toUInt32)] (by simp) (Nat.le_refl _)
   refine aO (vs:=[(0,bA (((((((((l.getD i 0)).toUInt64)+(4294967296)))-(((((m.getD i 0)).toUInt64)+(d))))).toUInt32)))]) Ll Ll hr41 ?_
   obtain⟨v42,w42,hr42,o42,g42⟩:=jz Tryz.underlying52 (ty:=52) (oO.ext x41) o41.wds (by simp;omega) ((e6.trans x41)).size
   have x42:=aI.of_grew ((e6.trans x41)) g42 (oO.ext x41).ge
   refine bc Ll Ll hr42 (ac Ll Ll (ag (aJ (ab (aa (ae Ll Ll (ai (r:=I ((i+1:Nat):Int)) Ll Ll Ll (by have e:((i+1:Nat):Int)=(i:Int)+1:=(by omega);rw[e];exact aK (by omega) (by omega)) ?_)))))))
   refine ac Ll Ll (ag ?_)
   refine fq (i+1) (_) (_) (_) ⟨rfl,rfl,rfl,rfl,rfl,trivial⟩ ⟨x42,o42,by simp[hO],by omega,st.2,st.1⟩ (by omega)
  ·have hge2:(m.getD i 0).toNat+d.toNat≤(l.getD i 0).toNat:=by
    have:=mt UInt64.lt_iff_toNat_lt.2 h33
    rw[hxa,hyb] at this
    omega
   have st:=vn (a:=l) (b:=m) hO hd hinv (.inr ⟨rfl,hge2,rfl⟩)
   refine ar (ab (aa (ae Ll Ll (ae Ll Ll (ae Ll Ll (ai Ll Ll Ll (dx) (aR Ll Ll (cA KN KL) ?_)))))))
   obtain⟨v41,w41,hr41,x41,o41,ob41⟩:=ir Tryz.underlying52 (w:=w6) w6.heap.size [((((((l.getD i 0)).toUInt64)-(((((m.getD i 0)).toUInt64)+(d))))).toUInt32)] (by simp) (Nat.le_refl _)
   refine aO (vs:=[(0,bA (((((((l.getD i 0)).toUInt64)-(((((m.getD i 0)).toUInt64)+(d))))).toUInt32)))]) Ll Ll hr41 ?_
   obtain⟨v42,w42,hr42,o42,g42⟩:=jz Tryz.underlying52 (ty:=52) (oO.ext x41) o41.wds (by simp;omega) ((e6.trans x41)).size
   have x42:=aI.of_grew ((e6.trans x41)) g42 (oO.ext x41).ge
   refine bc Ll Ll hr42 (ac Ll Ll (ag (aJ (ab (aa (ae Ll Ll (ai (r:=I ((i+1:Nat):Int)) Ll Ll Ll (by have e:((i+1:Nat):Int)=(i:Int)+1:=(by omega);rw[e];exact aK (by omega) (by omega)) ?_)))))))
   refine ac Ll Ll (ag ?_)
   refine fq (i+1) (_) (_) (_) ⟨rfl,rfl,rfl,rfl,rfl,trivial⟩ ⟨x42,o42,by simp[hO],by omega,st.2,st.1⟩ (by omega)
 ·refine aY (aB (aB (aX (ab (af ?_)))))
  have hil:i=l.length:=by omega
  have hOl:=cv O
  rw[hO,hil] at hOl
  have hml:val (m.take i)=val m∧d.toNat=0:=by
   have h1:=ej m (min i m.length) (by omega)
   have h2:m.take (min i m.length)=m.take i:=by
    rcases Nat.le_total i m.length with h|h
    ·rw[Nat.min_eq_left h]
    ·rw[Nat.min_eq_right h,List.take_of_length_le (Nat.le_refl _),List.take_of_length_le h]
   rw[h2] at h1
   have hll:=cv l
   rw[hil,List.take_length] at hinv
   have hz:val (m.drop (min i m.length))=0:=by
    rcases Nat.le_total i m.length with h|h
    ·rw[Nat.min_eq_left h] at h1⊢
     rcases Nat.eq_zero_or_pos (val (m.drop i)) with h0|h0
     ·exact h0
     ·have:4294967296^i*1≤4294967296^i*val (m.drop i):=Nat.mul_le_mul_left _ h0
      rw[hil] at this h1
      omega
    ·rw[Nat.min_eq_right h,List.drop_of_length_le (Nat.le_refl _)];rfl
   rw[hz,Nat.mul_zero,Nat.add_zero] at h1
   refine⟨h1.symm,?_⟩
   rcases(show d.toNat=0∨d.toNat=1 by omega) with h|h
   ·exact h
   ·rw[hil] at h1
    rw[h,Nat.mul_one,←h1] at hinv
    omega
  have hres:val l-val m=val O:=by
   rw[hml.1,hml.2,hil,List.take_length] at hinv
   omega
  refine aa (ae Ll Ll (an eX Ll Ll (vv oO.wds (by omega)) ?_))
  rintro v44 w44 ⟨x44,b44⟩
  refine ac Ll Ll (ac Ll Ll (ag (ab (av (aM Ll Ll Ll ?_)))))
  exact⟨_,rfl,(e6.trans x44),_,rfl,by rw[hres];exact b44.low e6.size⟩
theorem DO {w:World} {l:List UInt32} {v:Value} {k:Nat} (hv:bo l v w) (hl:l.length≤1099511627776) (hk:k≤1099511627776):
 Calls Tryz.prog 198 #[v,I (k:Int)] w (bE fun r w'=>aI w w'∧bo (lb (val l*2^k)) r w'):=by
 refine enter (vs:=[v,I (k:Int)]) Tryz.func198 Ll Ll Ll ?_
 refine af (aa (ac Ll Ll (ag (ab (af (aa (ae Ll Ll (ai (r:=I ((k/32:Nat):Int)) Ll Ll Ll (by have e:((k/32:Nat):Int)=(k:Int)/32:=(by omega);rw[e];exact nr (by omega) (by omega) (by omega)) ?_))))))))
 obtain⟨v10,w10,hr10,x10,o10,ob10⟩:=ve KY (w:=w) w.heap.size (n:=k/32) (by omega) (Nat.le_refl _)
 refine gJ Ll Ll Ll hr10 (ac Ll Ll (ag (ab (af (aa (ac Ll Ll (ag (ab (af (af (aa (ac Ll Ll (ag (ab (ax ?_)))))))))))))))
 refine ig (fun(i:Nat) (vo:Value) (O:List UInt32) (c:UInt64)=>[(0,v),(1,I (k:Int)),(5,vo),(6,bj c),(7,I (i:Int))]) (fun(i:Nat) (vo:Value) (O:List UInt32) (c:UInt64) w'=>aI w w'∧dQ w.heap.size O vo w'∧O.length=k/32+i∧i≤l.length∧c.toNat<2^(k%32)∧val O+4294967296^(k/32+i)*c.toNat=val (l.take i)*(4294967296^(k/32)*2^(k%32))) (fun(i:Nat) (vo:Value) (O:List UInt32) (c:UInt64)=>l.length-i) (0) (v10) (List.replicate (k/32) 0) (0) ⟨rfl,rfl,rfl,rfl,rfl,trivial⟩ ⟨x10,o10,by simp,by simp,by simp;exact Nat.pow_pos (by omega),by simp[val,qt]⟩ ?_
 rintro i vo O c w4 ⟨e4,oO,hO,hi,hc,hinv⟩
 refine af (af (aa (ae Ll Ll (ae Ll Ll (aQ Ll Ll (bu KK (hv.ext e4)) (ai Ll Ll Ll (aW) (ag (ab ?_))))))))
 refine bi Ll (fun h14=>?_) (fun h14=>?_)
 ·refine ar (ab (af (ax (af ?_))))
  have hlt:i<l.length:=by omega
  have st:=DI (Nat.mod_lt k (show 0<32 by omega)) hlt hO hc hinv
  refine aa (ae Ll Ll (ae Ll Ll (ae Ll Ll ?_)))
  obtain⟨a20,p20,q20⟩:=cP KK (hv.ext e4) (i:=i) (by omega) .i64
  refine aA Ll Ll Ll (p20 _) (am Ll Ll (aj KL Ll q20) (aR Ll Ll (bN KL KN) ?_))
  refine ae Ll Ll (ai (r:=I ((k%32:Nat):Int)) Ll Ll Ll (by have e:((k%32:Nat):Int)=(k:Int)%32:=(by omega);rw[e];exact nu (by omega) (by omega)) ?_)
  refine ai Ll Ll Ll (fL ((k%32:Nat)) (by omega)) (ai Ll Ll Ll (iX) (ac Ll Ll (ag (ab (af (aa (ae Ll Ll (ae Ll Ll ?_))))))))
  refine aR Ll Ll (cA KN KL) ?_
  obtain⟨v30,w30,hr30,x30,o30,ob30⟩:=ir Tryz.underlying52 (w:=w4) w4.heap.size [((((c)|||(((((l[i])).toUInt64)<<<UInt64.ofNat ((k%32:Nat)))))).toUInt32)] (by simp) (Nat.le_refl _)
  refine aO (vs:=[(0,bA (((((c)|||(((((l[i])).toUInt64)<<<UInt64.ofNat ((k%32:Nat)))))).toUInt32)))]) Ll Ll hr30 ?_
  obtain⟨v31,w31,hr31,o31,g31⟩:=jz Tryz.underlying52 (ty:=52) (oO.ext x30) o30.wds (by simp;omega) ((e4.trans x30)).size
  have x31:=aI.of_grew ((e4.trans x30)) g31 (oO.ext x30).ge
  refine bc Ll Ll hr31 (ac Ll Ll (ag (ab (aa (ae Ll Ll (ai Ll Ll Ll (dz 32 (by omega)) (ac Ll Ll (ag (aJ (ab (aa ?_)))))))))))
  refine ae Ll Ll (ai (r:=I ((i+1:Nat):Int)) Ll Ll Ll (by have e:((i+1:Nat):Int)=(i:Int)+1:=(by omega);rw[e];exact aK (by omega) (by omega)) ?_)
  refine ac Ll Ll (ag ?_)
  refine fq (i+1) (_) (_) (_) ⟨rfl,rfl,rfl,rfl,rfl,trivial⟩ ⟨x31,o31,by simp[hO];omega,by omega,st.2,st.1⟩ (by omega)
 ·refine aY (aB (aB (aX (ab (af ?_)))))
  rw[lj _ (by omega)] at hinv
  have e32:4294967296^(k/32)*2^(k%32)=2^k:=by
   have h3:(4294967296:Nat)^(k/32)=2^(32*(k/32)):=by rw[Nat.pow_mul]
   rw[h3,←Nat.pow_add,Nat.div_add_mod]
  have hc1:c.toNat<4294967296:=Nat.lt_of_lt_of_le hc (Nat.pow_le_pow_right (show 0<2 by omega) (show k%32≤32 by omega))
  have hend:val (O++[c.toUInt32])=val l*2^k:=by
   rw[et,lf,hO,kt,Nat.mod_eq_of_lt hc1,hinv,e32]
  refine aa (ae Ll Ll (ae Ll Ll (aR Ll Ll (cA KN KL) ?_)))
  obtain⟨v37,w37,hr37,x37,o37,ob37⟩:=ir Tryz.underlying52 (w:=w4) w4.heap.size [((c).toUInt32)] (by simp) (Nat.le_refl _)
  refine aO (vs:=[(0,bA (((c).toUInt32)))]) Ll Ll hr37 ?_
  obtain⟨v38,w38,hr38,o38,g38⟩:=jz Tryz.underlying52 (ty:=52) (oO.ext x37) o37.wds (by simp;omega) ((e4.trans x37)).size
  have x38:=aI.of_grew ((e4.trans x37)) g38 (oO.ext x37).ge
  refine bc Ll Ll hr38 (an eX Ll Ll (fz o38.wds (by simp;omega)) ?_)
  rintro v39 w39 ⟨x39,b39⟩
  refine ac Ll Ll (ag (ab (av (aG Ll Ll ?_))))
  exact⟨_,rfl,(x38.trans x39),by rw[←hend];exact b39⟩
theorem AV {w:World} {l:List UInt32} {v:Value} (hv:bo l v w) (hl:l.length≤1099511627776):
 Calls Tryz.prog 197 #[v] w (bE fun r w'=>aI w w'∧r=I ((bl (val l):Nat):Int)):=by
 refine enter (vs:=[v]) Tryz.func197 Ll Ll Ll ?_
 have hll:=gO (cv l)
 refine af (aa (ac Ll Ll (ag (ab (af (aa (ae Ll Ll (an eX Ll Ll (fz hv (by omega)) ?_))))))))
 rintro v6 w6 ⟨x6,b6⟩
 refine ac Ll Ll (ag (ab (af (af (aa (ae Ll Ll (aQ (r:=I ((lb (val l)).length:Int)) Ll Ll (bu KK b6) ?_)))))))
 refine ai Ll Ll Ll (aZ) (ag (ab ?_))
 refine bi Ll (fun h9=>?_) (fun h9=>?_)
 ·refine af (aa (ac Ll Ll (ag (ab (av (au (aG Ll Ll ?_)))))))
  exact⟨_,rfl,x6,by
   have:val l=0:=gt.1 (by omega)
   rw[this];rfl⟩
 ·refine ar (ab (af (aa (ae Ll Ll (aQ (r:=I ((lb (val l)).length:Int)) Ll Ll (bu KK b6) (ai (r:=I (((lb (val l)).length-1:Nat):Int)) Ll Ll Ll (by have e:(((lb (val l)).length-1:Nat):Int)=((lb (val l)).length:Int)-1:=(by omega);rw[e];exact bg (by omega) (by omega)) ?_))))))
  refine ai (r:=I ((32*((lb (val l)).length-1:Nat):Nat):Int)) Ll Ll Ll (by have e:((32*((lb (val l)).length-1:Nat):Nat):Int)=32*(((lb (val l)).length-1:Nat):Int):=(by omega);rw[e];exact fh (by omega) (by omega)) ?_
  refine ac Ll Ll (ag (ab (af (af (aa (ae Ll Ll (ae Ll Ll (aQ (r:=I ((lb (val l)).length:Int)) Ll Ll (bu KK b6) ?_))))))))
  refine ai (r:=I (((lb (val l)).length-1:Nat):Int)) Ll Ll Ll (by have e:(((lb (val l)).length-1:Nat):Int)=((lb (val l)).length:Int)-1:=(by omega);rw[e];exact bg (by omega) (by omega)) ?_
  obtain⟨a18,p18,q18⟩:=cP KK b6 (i:=((lb (val l)).length-1:Nat)) (by omega) .i64
  refine aA Ll Ll Ll (p18 _) (am Ll Ll (aj KL Ll q18) (ac Ll Ll (ag (ab (ax ?_)))))
  refine f4 (fun(k:Nat) (x:UInt32)=>[(3,I (k:Int)),(4,bA x)]) (fun(k:Nat) (x:UInt32) w'=>w6=w'∧k+bl x.toNat=bl (val l)) (fun(k:Nat) (x:UInt32)=>x.toNat) (32*((lb (val l)).length-1)) ((lb (val l))[(lb (val l)).length-1]'(by omega)) ⟨rfl,rfl,trivial⟩ ⟨rfl,(IG (by omega)).symm⟩ ?_
  rintro k x _ ⟨rfl,hinv⟩
  refine af (af (aa (ae Ll Ll (ai (v:=bA 0) Ll Ll Ll (u5) (ag (ab ?_))))))
  refine bi Ll (fun h21=>?_) (fun h21=>?_)
  ·have hx:0<x.toNat:=yQ.1 h21
   have hb:=HU hx
   have hs:(x>>>UInt32.ofNat 1).toNat=x.toNat/2:=pt x (s:=1) (by omega)
   have hbl:=vi (n:=val l) (k:=32*l.length) (by have:=cv l;rwa [show(4294967296:Nat)^l.length=2^(32*l.length) by rw[Nat.pow_mul]] at this)
   refine ar (ab (af (ax (aa (ae Ll Ll (ai (r:=I ((k+1:Nat):Int)) Ll Ll Ll (by have e:((k+1:Nat):Int)=(k:Int)+1:=(by omega);rw[e];exact aK (by omega) (by omega)) ?_))))))
   refine ac Ll Ll (ag (aJ (ab (aa (ae Ll Ll (ai Ll Ll Ll (dh 1 (by omega)) (ac Ll Ll (ag ?_))))))))
   refine d9 (k+1) (_) ⟨rfl,rfl,trivial⟩ ⟨rfl,by rw[hs];omega⟩ (by omega)
  ·refine aY (aB (aB (aX (ab (af (aa (ae Ll Ll (ac Ll Ll (ag (ab (av (aG Ll Ll ?_))))))))))))
   exact⟨_,rfl,x6,by
    have hx:x.toNat=0:=by
     have:=mt (yQ (a:=0) (b:=x)).2 h21
     have e:(0:UInt32).toNat=0:=rfl
     omega
    rw[hx,CA,Nat.add_zero] at hinv
    rw[hinv]⟩
end Go.Rl
namespace Go.Rl
open Go.RowKit Go.Proofs
theorem DP:ay Tryz.prog 209:=⟨_,Tryz.func209,by kernel_rfl,rfl⟩
theorem DQ:ay Tryz.prog 208:=⟨_,Tryz.func208,by kernel_rfl,rfl⟩
theorem top2 {m:List UInt32} {k:Nat} (h:m.length=k+2):val m=((m[k+1]'(by omega)).toNat*4294967296+(m[k]'(by omega)).toNat)*4294967296^k+val (m.take k):=by
 rw[ej m k (by omega),eQ (show k<m.length by omega),eQ (show k+1<m.length by omega),List.drop_of_length_le (show m.length≤k+1+1 by omega),Nat.mul_comm (4294967296^k),Nat.add_comm]
 congr 2
 simp only[val]
 omega
theorem top3 {m:List UInt32} {k:Nat} (h:m.length=k+3):val m=(((m[k+2]'(by omega)).toNat*4294967296+(m[k+1]'(by omega)).toNat)*4294967296+(m[k]'(by omega)).toNat)*4294967296^k+val (m.take k):=by
 rw[ej m k (by omega),eQ (show k<m.length by omega),eQ (show k+1<m.length by omega),eQ (show k+1+1<m.length by omega),List.drop_of_length_le (show m.length≤k+1+1+1 by omega),Nat.mul_comm (4294967296^k),Nat.add_comm]
 congr 2
 simp only[val,Nat.add_assoc,Nat.reduceAdd]
 omega
theorem tm {a b:UInt64}:a≥b↔b.toNat≤a.toNat:=UInt64.le_iff_toNat_le
theorem AW {a b:UInt64}:a>b↔b.toNat<a.toNat:=UInt64.lt_iff_toNat_lt
theorem DR {w:World} {L m:List UInt32} {u v:Value} {k:Nat} (hu:bo L u w) (hv:bo m v w) (hm:m.length=k+2) (hL:L.length=k+3) (hk:k≤1099511627776) (h1:0<(m[k+1]'(by omega)).toNat) (hUV:val L<4294967296*val m):
 Calls Tryz.prog 209 #[u,v] w (bE fun r w'=>aI w w'∧∃q:UInt64,r=bj q∧q.toNat<4294967296∧(q.toNat-1)*val m≤val L∧val L<(q.toNat+1)*val m):=by
 refine enter (vs:=[u,v]) Tryz.func209 Ll Ll Ll ?_
 have tV:=top2 hm
 have tU:=top3 hL
 have hPk:=J6 k
 have hVl:=cv (m.take k)
 have hUl:=cv (L.take k)
 rw[List.length_take,Nat.min_eq_left (by omega)] at hVl hUl
 have b0:=cT (L[k]'(by omega))
 have b1:=cT (L[k+1]'(by omega))
 have b2:=cT (L[k+2]'(by omega))
 have c1:=cT (m[k+1]'(by omega))
 have c0:=cT (m[k]'(by omega))
 have hV0:0<val m:=by
  rw[tV]
  have:=Nat.mul_le_mul_right (4294967296^k) (show 1≤(m[k+1]'(by omega)).toNat*4294967296+(m[k]'(by omega)).toNat by omega)
  omega
 have hu0:(L[k+2]'(by omega)).toNat≤(m[k+1]'(by omega)).toNat:=by
  rcases Nat.lt_or_ge (m[k+1]'(by omega)).toNat (L[k+2]'(by omega)).toNat with h|h
  ·have e1:((m[k+1]'(by omega)).toNat*4294967296+(m[k]'(by omega)).toNat+1)*4294967296^k*4294967296≤(((L[k+2]'(by omega)).toNat*4294967296+(L[k+1]'(by omega)).toNat)*4294967296+(L[k]'(by omega)).toNat)*4294967296^k:=by
    rw[Nat.mul_assoc,Nat.mul_comm (4294967296^k),←Nat.mul_assoc]
    exact Nat.mul_le_mul_right _ (by omega)
   rw[Nat.add_mul _ 1] at e1
   omega
  ·exact h
 have hd0:(m[k+1]'(by omega)).toUInt64≠0:=fun h=>by
  have:=congrArg UInt64.toNat h
  rw[fF] at this
  simp at this
  omega
 have n01:=sZ (L[k+2]'(by omega)).toUInt64 (L[k+1]'(by omega)) (by rw[fF];exact b2)
 rw[fF] at n01
 refine af (aa (ac Ll Ll (ag (ab (af (aa (ae Ll Ll (aQ (r:=I ((k+2:Nat):Int)) Ll Ll ((by rw[←hm];exact bu KK hv)) ?_))))))))
 refine ac Ll Ll (ag (ab (af (bz 13 [0,1,5,23] (by kernel_rfl) (by kernel_rfl) ?_))))
 refine ap Ll Ll (ap Ll Ll ?_)
 obtain⟨a13,p13,q13⟩:=cP KK hu (i:=(k+2:Nat)) (by omega) .i64
 refine az Ll Ll Ll (fun w _=>p13 w) (aE Ll Ll (fun w hw=>aj KL Ll (hw.cell_some q13)) (dm Ll Ll (fun w _=>bN KL KN) ?_))
 refine aS (v:=bj 32) Ll Ll Ll (fun w _=>fL 32 (by omega)) (ap Ll Ll (ap Ll Ll (aS (r:=I ((k+1:Nat):Int)) Ll Ll Ll (fun w _=>by have e:((k+1:Nat):Int)=((k+2:Nat):Int)-1:=(by omega);rw[e];exact bg (by omega) (by omega)) ?_)))
 obtain⟨a20,p20,q20⟩:=cP KK hu (i:=(k+1:Nat)) (by omega) .i64
 refine az Ll Ll Ll (fun w _=>p20 w) (aE Ll Ll (fun w hw=>aj KL Ll (hw.cell_some q20)) (dm Ll Ll (fun w _=>bN KL KN) ?_))
 refine aS Ll Ll Ll (fun w _=>iX) (bF ?_)
 intro wg2 xg2
 rintro _ hq0
 obtain rfl:=Eq.symm hq0
 rintro _ hq1
 obtain rfl:=Eq.symm hq1
 rintro _ rfl
 rintro _ rfl
 refine ac Ll Ll (ag (ab (af (bz 17 [0,1,5,7,39] (by kernel_rfl) (by kernel_rfl) ?_))))
 refine ap Ll Ll (ap Ll Ll (ap Ll Ll (aS (r:=I ((k+1:Nat):Int)) Ll Ll Ll (fun w _=>by have e:((k+1:Nat):Int)=((k+2:Nat):Int)-1:=(by omega);rw[e];exact bg (by omega) (by omega)) ?_)))
 obtain⟨a28,p28,q28⟩:=cP KK (hv.ext xg2) (i:=(k+1:Nat)) (by omega) .i64
 refine az Ll Ll Ll (fun w _=>p28 w) (aE Ll Ll (fun w hw=>aj KL Ll (hw.cell_some q28)) (dm Ll Ll (fun w _=>bN KL KN) ?_))
 refine aS Ll Ll Ll (fun w _=>gL hd0) (ap Ll Ll (ap Ll Ll (ap Ll Ll (aS (r:=I ((k+1:Nat):Int)) Ll Ll Ll (fun w _=>by have e:((k+1:Nat):Int)=((k+2:Nat):Int)-1:=(by omega);rw[e];exact bg (by omega) (by omega)) ?_))))
 obtain⟨a36,p36,q36⟩:=cP KK (hv.ext xg2) (i:=(k+1:Nat)) (by omega) .i64
 refine az Ll Ll Ll (fun w _=>p36 w) (aE Ll Ll (fun w hw=>aj KL Ll (hw.cell_some q36)) (dm Ll Ll (fun w _=>bN KL KN) ?_))
 refine aS Ll Ll Ll (fun w _=>iC hd0) (eo Ll Ll (bF ?_))
 intro wg3 xg3
 rintro _ hq0
 obtain rfl:=Eq.symm hq0
 rintro _ hq1
 obtain rfl:=Eq.symm hq1
 rintro _ rfl
 rintro _ rfl
 rintro _ rfl
 refine ac Ll Ll (ag (ab (af (ax ?_))))
 refine f4 (fun(q:UInt64) (r:UInt64)=>[(0,u),(1,v),(5,I ((k+2:Nat):Int)),(7,bj q),(8,bj r)]) (fun(q:UInt64) (r:UInt64) w'=>aI w w'∧q.toNat*(m[k+1]'(by omega)).toNat+r.toNat=(L[k+2]'(by omega)).toNat*4294967296+(L[k+1]'(by omega)).toNat∧r.toNat<4294967296∧∀Q,Q*val m≤val L→Q≤q.toNat) (fun(q:UInt64) (r:UInt64)=>q.toNat) (_) (_) ⟨rfl,rfl,rfl,rfl,rfl,trivial⟩ ⟨(xg2.trans xg3),by rw[UInt64.toNat_div,UInt64.toNat_mod,n01,fF,Nat.mul_comm];exact Nat.div_add_mod _ _,by rw[UInt64.toNat_mod,n01,fF];have:=Nat.mod_lt ((L[k+2]'(by omega)).toNat*4294967296+(L[k+1]'(by omega)).toNat) h1;omega,fun Q hQ=>by
  rw[UInt64.toNat_div,n01,fF]
  refine Je (V:=val m) (U:=val L) (P:=4294967296^k*4294967296) ?_ ?_ h1 hQ
  ·rw[tV,Nat.mul_comm (4294967296^k),←Nat.mul_assoc]
   have:=Nat.mul_le_mul_right (4294967296^k) (Nat.le_add_right ((m[k+1]'(by omega)).toNat*4294967296) (m[k]'(by omega)).toNat)
   omega
  ·rw[tU,Nat.mul_comm (4294967296^k),←Nat.mul_assoc]
   have:=Nat.mul_le_mul_right (4294967296^k) (show((L[k+2]'(by omega)).toNat*4294967296+(L[k+1]'(by omega)).toNat)*4294967296+(L[k]'(by omega)).toNat+1≤((L[k+2]'(by omega)).toNat*4294967296+(L[k+1]'(by omega)).toNat+1)*4294967296 by omega)
   rw[Nat.add_mul _ 1] at this
   omega⟩ ?_
 rintro q r w4 ⟨e4,hqr,hr,hup⟩
 refine af (af ?_)
 by_cases h41:q≥4294967296
 ·refine bz 21 [0,1,5,7,8,42,60] (by kernel_rfl) (by kernel_rfl) ?_
  refine ap Ll Ll (aS (v:=bj 4294967296) Ll Ll Ll (fun w _=>cg h41 fJ) (ap Ll Ll (cD Ll Ll Ll (cD Ll Ll Ll (cD Ll Ll Ll (cD Ll Ll Ll ?_))))))
  refine cD Ll Ll Ll (cD Ll Ll Ll (cD Ll Ll Ll (cD Ll Ll Ll (cD Ll Ll Ll (cD Ll Ll Ll (cD Ll Ll Ll (cD Ll Ll Ll (cD Ll Ll Ll (cD Ll Ll Ll ?_)))))))))
  refine cD Ll Ll Ll (cD Ll Ll Ll (cD Ll Ll Ll (cD Ll Ll Ll (bF ?_))))
  intro wg4 xg4
  rintro _ hq0
  obtain rfl:=Eq.symm hq0
  rintro _ hq1
  obtain rfl:=Eq.symm hq1
  rintro _ rfl
  rintro _ rfl
  rintro _ rfl
  rintro _ rfl
  rintro _ rfl
  refine aw Ll Ll Ll (ag (ab (bB Ll (ar (ab (ax (af (aa ?_))))))))
  have hlo:∀Q,Q*val m≤val L→Q+1≤q.toNat:=by
   intro Q hQ
   first
   |(have h41':4294967296≤q.toNat:=tm.1 h41
     have h2:Q*val m<4294967296*val m:=by omega
     have:=Nat.lt_of_mul_lt_mul_right h2
     omega)
   |(have h41':q.toNat<4294967296:=Nat.lt_of_not_le fun h=>h41 (tm.2 h)
     have h61':=AW.1 h61
     have hp:q.toNat*(m[k]'(by omega)).toNat≤4294967295*4294967295:=Nat.mul_le_mul (by omega) (by omega)
     rw[sZ r _ hr,vh,fF,Nat.mod_eq_of_lt (by omega)] at h61'
     have h2:=yT tV tU hUl hqr h61'
     have h3:Q*val m<q.toNat*val m:=by omega
     exact Nat.lt_of_mul_lt_mul_right h3)
  have hq0:=hlo 0 (by simp)
  have hq1:(q-1).toNat=q.toNat-1:=by
   have:=AP q
   rw[pu]
   show(18446744073709551616-1+q.toNat)%18446744073709551616=_
   omega
  have hr1:(r+(m[k+1]'(by omega)).toUInt64).toNat=r.toNat+(m[k+1]'(by omega)).toNat:=by rw[nV,fF];omega
  have hqr1:(q-1).toNat*(m[k+1]'(by omega)).toNat+(r+(m[k+1]'(by omega)).toUInt64).toNat=(L[k+2]'(by omega)).toNat*4294967296+(L[k+1]'(by omega)).toNat:=by
   rw[hq1,hr1,←hqr]
   obtain⟨p,hp⟩:∃p,q.toNat=p+1:=⟨q.toNat-1,by omega⟩
   rw[hp,Nat.add_sub_cancel,Nat.add_mul];omega
  have hup1:∀Q,Q*val m≤val L→Q≤(q-1).toNat:=fun Q hQ=>by
   have:=hlo Q hQ
   omega
  refine ae Ll Ll (ai (v:=bj 1) Ll Ll Ll (dx) (ac Ll Ll (ag (ab (af (aa (ae Ll Ll (ae Ll Ll (ae Ll Ll (ai (r:=I ((k+1:Nat):Int)) Ll Ll Ll (by have e:((k+1:Nat):Int)=((k+2:Nat):Int)-1:=(by omega);rw[e];exact bg (by omega) (by omega)) ?_))))))))))
  obtain⟨a68,p68,q68⟩:=cP KK (hv.ext (e4.trans xg4)) (i:=(k+1:Nat)) (by omega) .i64
  refine aA Ll Ll Ll (p68 _) (am Ll Ll (aj KL Ll q68) (aR Ll Ll (bN KL KN) ?_))
  refine ai Ll Ll Ll (dw) (ac Ll Ll (ag (ab (af (aa (ae Ll Ll (ai (v:=bj 4294967296) Ll Ll Ll (fJ) (ag (ab ?_)))))))))
  refine bi Ll (fun h73=>?_) (fun h73=>?_)
  ·have h73':4294967296≤(r+(m[k+1]'(by omega)).toUInt64).toNat:=tm.1 h73
   have hB:=FL hu0 b1 hqr1 h73'
   refine aY (rf Ll (aB (aX (ab (af (aa (ae Ll Ll (ac Ll Ll (ag (ab (av (aG Ll Ll ?_))))))))))))
   first
   |exact⟨_,rfl,(e4.trans xg4),_,rfl,hB,nA tV tU hVl h1 c0 hB hqr1 (.inl h73'),Nat.lt_of_not_le fun h=>absurd (hup1 _ h) (by omega)⟩
   |(have h41':q.toNat<4294967296:=Nat.lt_of_not_le fun h=>h41 (tm.2 h)
     have h61':(q*(m[k]'(by omega)).toUInt64).toNat≤(r<<<UInt64.ofNat 32|||(L[k]'(by omega)).toUInt64).toNat:=Nat.le_of_not_lt fun h=>h61 (AW.2 h)
     have hp:q.toNat*(m[k]'(by omega)).toNat≤4294967295*4294967295:=Nat.mul_le_mul (by omega) (by omega)
     rw[sZ r _ hr,vh,fF,Nat.mod_eq_of_lt (by omega)] at h61'
     exact⟨_,rfl,(e4.trans xg4),_,rfl,h41',nA tV tU hVl h1 c0 h41' hqr (.inr h61'),Nat.lt_of_not_le fun h=>absurd (hup _ h) (by omega)⟩)
  ·have h73':(r+(m[k+1]'(by omega)).toUInt64).toNat<4294967296:=Nat.lt_of_not_le fun h=>h73 (tm.2 h)
   refine ar (aJ ?_)
   refine d9 (q-1) (r+(m[k+1]'(by omega)).toUInt64) ⟨rfl,rfl,rfl,rfl,rfl,trivial⟩ ⟨(e4.trans xg4),hqr1,h73',hup1⟩ (by show(q-1).toNat<q.toNat;omega)
 ·refine bz 21 [0,1,5,7,8,42,60] (by kernel_rfl) (by kernel_rfl) ?_
  refine ap Ll Ll (aS (v:=bj 4294967296) Ll Ll Ll (fun w _=>cf h41 fJ) (ap Ll Ll (bh Ll Ll (ap Ll Ll (bh Ll Ll (ap Ll Ll ?_))))))
  refine bh Ll Ll (ap Ll Ll (bh Ll Ll (aS (r:=I ((k:Nat):Int)) Ll Ll Ll (fun w _=>by have e:((k:Nat):Int)=((k+2:Nat):Int)-2:=(by omega);rw[e];exact bg (by omega) (by omega)) ?_)))
  refine bh Ll Ll ?_
  obtain⟨a47,p47,q47⟩:=cP KK (hv.ext e4) (i:=(k:Nat)) (by omega) .i64
  refine az Ll Ll Ll (fun w _=>p47 w) (bh Ll Ll (aE Ll Ll (fun w hw=>aj KL Ll (hw.cell_some q47)) (bh Ll Ll ?_)))
  refine dm Ll Ll (fun w _=>bN KL KN) (bh Ll Ll (aS Ll Ll Ll (fun w _=>fZ) (bh Ll Ll ?_)))
  refine ap Ll Ll (bh Ll Ll (aS (v:=bj 32) Ll Ll Ll (fun w _=>fL 32 (by omega)) (bh Ll Ll (ap Ll Ll (bh Ll Ll (ap Ll Ll (bh Ll Ll ?_)))))))
  refine aS (r:=I ((k:Nat):Int)) Ll Ll Ll (fun w _=>by have e:((k:Nat):Int)=((k+2:Nat):Int)-2:=(by omega);rw[e];exact bg (by omega) (by omega)) ?_
  refine bh Ll Ll ?_
  obtain⟨a56,p56,q56⟩:=cP KK (hu.ext e4) (i:=(k:Nat)) (by omega) .i64
  refine az Ll Ll Ll (fun w _=>p56 w) (bh Ll Ll (aE Ll Ll (fun w hw=>aj KL Ll (hw.cell_some q56)) (bh Ll Ll ?_)))
  refine dm Ll Ll (fun w _=>bN KL KN) (bh Ll Ll (aS Ll Ll Ll (fun w _=>iX) (bh Ll Ll ?_)))
  refine aS Ll Ll Ll (fun w _=>cu) (bF ?_)
  intro wg4 xg4
  rintro _ hq0
  obtain rfl:=Eq.symm hq0
  rintro _ hq1
  obtain rfl:=Eq.symm hq1
  rintro _ rfl
  rintro _ rfl
  rintro _ rfl
  rintro _ rfl
  rintro _ rfl
  refine aC Ll Ll Ll (ag (ab ?_))
  refine bi Ll (fun h61=>?_) (fun h61=>?_)
  ·refine ar (ab (ax (af (aa ?_))))
   have hlo:∀Q,Q*val m≤val L→Q+1≤q.toNat:=by
    intro Q hQ
    first
    |(have h41':4294967296≤q.toNat:=tm.1 h41
      have h2:Q*val m<4294967296*val m:=by omega
      have:=Nat.lt_of_mul_lt_mul_right h2
      omega)
    |(have h41':q.toNat<4294967296:=Nat.lt_of_not_le fun h=>h41 (tm.2 h)
      have h61':=AW.1 h61
      have hp:q.toNat*(m[k]'(by omega)).toNat≤4294967295*4294967295:=Nat.mul_le_mul (by omega) (by omega)
      rw[sZ r _ hr,vh,fF,Nat.mod_eq_of_lt (by omega)] at h61'
      have h2:=yT tV tU hUl hqr h61'
      have h3:Q*val m<q.toNat*val m:=by omega
      exact Nat.lt_of_mul_lt_mul_right h3)
   have hq0:=hlo 0 (by simp)
   have hq1:(q-1).toNat=q.toNat-1:=by
    have:=AP q
    rw[pu]
    show(18446744073709551616-1+q.toNat)%18446744073709551616=_
    omega
   have hr1:(r+(m[k+1]'(by omega)).toUInt64).toNat=r.toNat+(m[k+1]'(by omega)).toNat:=by rw[nV,fF];omega
   have hqr1:(q-1).toNat*(m[k+1]'(by omega)).toNat+(r+(m[k+1]'(by omega)).toUInt64).toNat=(L[k+2]'(by omega)).toNat*4294967296+(L[k+1]'(by omega)).toNat:=by
    rw[hq1,hr1,←hqr]
    obtain⟨p,hp⟩:∃p,q.toNat=p+1:=⟨q.toNat-1,by omega⟩
    rw[hp,Nat.add_sub_cancel,Nat.add_mul];omega
   have hup1:∀Q,Q*val m≤val L→Q≤(q-1).toNat:=fun Q hQ=>by
    have:=hlo Q hQ
    omega
   refine ae Ll Ll (ai (v:=bj 1) Ll Ll Ll (dx) (ac Ll Ll (ag (ab (af (aa (ae Ll Ll (ae Ll Ll (ae Ll Ll (ai (r:=I ((k+1:Nat):Int)) Ll Ll Ll (by have e:((k+1:Nat):Int)=((k+2:Nat):Int)-1:=(by omega);rw[e];exact bg (by omega) (by omega)) ?_))))))))))
   obtain⟨a68,p68,q68⟩:=cP KK (hv.ext (e4.trans xg4)) (i:=(k+1:Nat)) (by omega) .i64
   refine aA Ll Ll Ll (p68 _) (am Ll Ll (aj KL Ll q68) (aR Ll Ll (bN KL KN) ?_))
   refine ai Ll Ll Ll (dw) (ac Ll Ll (ag (ab (af (aa (ae Ll Ll (ai (v:=bj 4294967296) Ll Ll Ll (fJ) (ag (ab ?_)))))))))
   refine bi Ll (fun h73=>?_) (fun h73=>?_)
   ·have h73':4294967296≤(r+(m[k+1]'(by omega)).toUInt64).toNat:=tm.1 h73
    have hB:=FL hu0 b1 hqr1 h73'
    refine aY (rf Ll (aB (aX (ab (af (aa (ae Ll Ll (ac Ll Ll (ag (ab (av (aG Ll Ll ?_))))))))))))
    first
    |exact⟨_,rfl,(e4.trans xg4),_,rfl,hB,nA tV tU hVl h1 c0 hB hqr1 (.inl h73'),Nat.lt_of_not_le fun h=>absurd (hup1 _ h) (by omega)⟩
    |(have h41':q.toNat<4294967296:=Nat.lt_of_not_le fun h=>h41 (tm.2 h)
      have h61':(q*(m[k]'(by omega)).toUInt64).toNat≤(r<<<UInt64.ofNat 32|||(L[k]'(by omega)).toUInt64).toNat:=Nat.le_of_not_lt fun h=>h61 (AW.2 h)
      have hp:q.toNat*(m[k]'(by omega)).toNat≤4294967295*4294967295:=Nat.mul_le_mul (by omega) (by omega)
      rw[sZ r _ hr,vh,fF,Nat.mod_eq_of_lt (by omega)] at h61'
      exact⟨_,rfl,(e4.trans xg4),_,rfl,h41',nA tV tU hVl h1 c0 h41' hqr (.inr h61'),Nat.lt_of_not_le fun h=>absurd (hup _ h) (by omega)⟩)
   ·have h73':(r+(m[k+1]'(by omega)).toUInt64).toNat<4294967296:=Nat.lt_of_not_le fun h=>h73 (tm.2 h)
    refine ar (aJ ?_)
    refine d9 (q-1) (r+(m[k+1]'(by omega)).toUInt64) ⟨rfl,rfl,rfl,rfl,rfl,trivial⟩ ⟨(e4.trans xg4),hqr1,h73',hup1⟩ (by show(q-1).toNat<q.toNat;omega)
  ·refine aY (aB (aB (aX (ab (af (aa (ae Ll Ll (ac Ll Ll (ag (ab (av (aG Ll Ll ?_))))))))))))
   first
   |exact⟨_,rfl,(e4.trans xg4),_,rfl,hB,nA tV tU hVl h1 c0 hB hqr1 (.inl h73'),Nat.lt_of_not_le fun h=>absurd (hup1 _ h) (by omega)⟩
   |(have h41':q.toNat<4294967296:=Nat.lt_of_not_le fun h=>h41 (tm.2 h)
     have h61':(q*(m[k]'(by omega)).toUInt64).toNat≤(r<<<UInt64.ofNat 32|||(L[k]'(by omega)).toUInt64).toNat:=Nat.le_of_not_lt fun h=>h61 (AW.2 h)
     have hp:q.toNat*(m[k]'(by omega)).toNat≤4294967295*4294967295:=Nat.mul_le_mul (by omega) (by omega)
     rw[sZ r _ hr,vh,fF,Nat.mod_eq_of_lt (by omega)] at h61'
     exact⟨_,rfl,(e4.trans xg4),_,rfl,h41',nA tV tU hVl h1 c0 h41' hqr (.inr h61'),Nat.lt_of_not_le fun h=>absurd (hup _ h) (by omega)⟩)
end Go.Rl
namespace Go.Rl
open Go.RowKit Go.Proofs
theorem DS {w:World} {g:Nat} {pre post:List Value} {L m:List UInt32} {u v:Value} {q:UInt64} (hu:PW g pre L post u w) (hv:bo m v w) (ha:v.ownBlock=none∨v.ownBlock≠some g) (hL:L.length=m.length+1) (hm:m.length≤1099511627776)
 (hq:q.toNat<4294967296) (h1:(q.toNat-1)*val m≤val L) (h2:val L<(q.toNat+1)*val m):
 Calls Tryz.prog 208 #[u,v,bj q] w (bE fun r w'=>∃x F,r=bA x∧w.grownBy w' (some g)∧PW g pre F post u w'∧F.length=L.length∧val L=x.toNat*val m+val F∧val F<val m):=by
 refine enter (vs:=[u,v,bj q]) Tryz.func208 Ll Ll Ll ?_
 refine af (aa (ac Ll Ll (ag (ab (af (aa (ac Ll Ll (ac Ll Ll (ag (ab (af (af (aa (ae Ll Ll (aQ Ll Ll (bu KK hv) ?_)))))))))))))))
 refine ae Ll Ll (ag (ab (ax ?_)))
 refine ig (fun(i:Nat) (M:List UInt32) (c:UInt64) (b:UInt64)=>[(0,u),(1,v),(2,bj q),(7,bj c),(8,bj b),(15,v),(16,I (m.length:Int)),(17,I (i:Int))]) (fun(i:Nat) (M:List UInt32) (c:UInt64) (b:UInt64) w'=>w.grownBy w' (some g)∧PW g pre M post u w'∧M.length=L.length∧i≤m.length∧M.drop i=L.drop i∧c.toNat<4294967296∧b.toNat≤1∧val (L.take i)+4294967296^i*(c.toNat+b.toNat)=val (M.take i)+q.toNat*val (m.take i)) (fun(i:Nat) (M:List UInt32) (c:UInt64) (b:UInt64)=>m.length-i) (0) (L) (0) (0) ⟨rfl,rfl,rfl,rfl,rfl,rfl,rfl,rfl,trivial⟩ ⟨dq (aI.refl _),hu,rfl,by simp,rfl,by simp,by simp,by simp[val]⟩ ?_
 rintro i M c b w3 ⟨q3,pM,hM,hi,hMi,hc,hb,hinv⟩
 refine af ?_
 have v3:=hv.away ha q3
 refine aa (ai Ll Ll Ll (aW) (ag (ab (af ?_))))
 refine bi Ll (fun h18=>?_) (fun h18=>?_)
 ·refine ar (ab (af (ax (af (aa (ae Ll Ll ?_))))))
  obtain⟨a20,p20,q20⟩:=cP KK v3 (i:=i) (by omega) .i64
  refine aA Ll Ll Ll (p20 _) (am Ll Ll (aj KL Ll q20) (ac Ll Ll (ac Ll Ll (ag (ab (af (aa (ae Ll Ll ?_))))))))
  refine ae Ll Ll (ae Ll Ll (aR Ll Ll (bN KL KN) (ai Ll Ll Ll (fZ) (ai Ll Ll Ll (dw) ?_))))
  refine ac Ll Ll (ag (ab (af (aa (ae Ll Ll (ae Ll Ll ?_))))))
  obtain⟨a30,p30,q30⟩:=cP KK pM.wds (i:=i) (by omega) .i64
  refine aA Ll Ll Ll (p30 _) (am Ll Ll (aj KL Ll q30) (aR Ll Ll (bN KL KN) ?_))
  refine ae Ll Ll (aR Ll Ll (cA KN KL) (aR Ll Ll (bN KL KN) ?_))
  refine ai Ll Ll Ll (dx) (ae Ll Ll (ai Ll Ll Ll (dx) (ac Ll Ll (ag (ab (af (aa (ae Ll Ll (ae Ll Ll (ae Ll Ll ?_))))))))))
  refine aR Ll Ll (cA KN KL) ?_
  obtain⟨w43,p43,s43,pN,q43,c43⟩:=pM.setP KK (i:=i) (by omega) ((((((((M[i])).toUInt64)-(((((c)+(((q)*(((m[i])).toUInt64))))).toUInt32).toUInt64)))-(b)))).toUInt32
  refine aA Ll Ll Ll (p43 _) (aq Ll Ll (s43) (ag (ab (af (aa (ae Ll Ll (ai Ll Ll Ll (dz 63 (by omega)) (ac Ll Ll (ag ?_)))))))))
  refine ab (aa (ae Ll Ll (ai Ll Ll Ll (dz 32 (by omega)) (ac Ll Ll (ag (aJ (ab (aa (ai (r:=I ((i+1:Nat):Int)) Ll Ll Ll (by have e:((i+1:Nat):Int)=(i:Int)+1:=(by omega);rw[e];exact aK (by omega) (by omega)) ?_)))))))))
  refine ae Ll Ll (ag ?_)
  have st:=FM (L:=L) (v:=m) (M:=M) (i:=i) (q:=q) (c:=c) (b:=b) (by omega) (by omega) hM hq hc hb hMi hinv rfl
  refine fq (i+1) (_) (_) (_) ⟨rfl,rfl,rfl,rfl,rfl,rfl,rfl,rfl,trivial⟩ ⟨q3.trans q43,pN,by simpa using hM,by omega,st.1,st.2.1,st.2.2.1,st.2.2.2⟩ (by omega)
 ·refine aY (aB (aB (aX (ab (af ?_)))))
  obtain rfl:i=m.length:=by omega
  refine aa (ae Ll Ll (ae Ll Ll (aQ Ll Ll (bu KK v3) ?_)))
  obtain⟨a52,p52,q52⟩:=cP KK pM.wds (i:=m.length) (by omega) .i64
  refine aA Ll Ll Ll (p52 _) (am Ll Ll (aj KL Ll q52) (aR Ll Ll (bN KL KN) ?_))
  refine ae Ll Ll (ai Ll Ll Ll (dx) (ae Ll Ll (ai Ll Ll Ll (dx) (ac Ll Ll (ag (ab (af (aa (ae Ll Ll (ae Ll Ll ?_))))))))))
  refine aQ Ll Ll (bu KK v3) (ae Ll Ll (aR Ll Ll (cA KN KL) ?_))
  obtain⟨w64,p64,s64,pN,q64,c64⟩:=pM.setP KK (i:=m.length) (by omega) ((((((((M[m.length])).toUInt64)-(c)))-(b)))).toUInt32
  refine aA Ll Ll Ll (p64 _) (aq Ll Ll (s64) ?_)
  have v64:=v3.away ha q64
  have tp:=HS (q:=q) hL hM hc hb hMi hinv rfl
  have h63:=rl ((((((((M[m.length])).toUInt64)-(c)))-(b)))) (s:=63) (by omega)
  simp only[Nat.reducePow] at h63
  have hNl:(M.set m.length ((((((((M[m.length])).toUInt64)-(c)))-(b)))).toUInt32).length=L.length:=by simpa using hM
  have hFl:=cv (M.set m.length ((((((((M[m.length])).toUInt64)-(c)))-(b)))).toUInt32)
  generalize M.set m.length ((((((((M[m.length])).toUInt64)-(c)))-(b)))).toUInt32=N at pN tp hNl hFl
  generalize hX:(((((((M[m.length])).toUInt64)-(c)))-(b)))=X at tp h63
  refine ag (ab (af (af (aa (ae Ll Ll (ai Ll Ll Ll (dz 63 (by omega)) (ai (v:=bj 0) Ll Ll Ll (fK) (ag (ab ?_)))))))))
  refine bi Ll (fun h67=>?_) (fun h67=>?_)
  ·rw[h67] at h63
   rw[←h63] at tp
   refine af (aa (ae Ll Ll (aR Ll Ll (cA KN KL) (ac Ll Ll (ag (ab (av (au (aG Ll Ll ?_)))))))))
   exact⟨_,rfl,q.toUInt32,N,rfl,q3.trans q64,pN,hNl,by
    have e:q.toUInt32.toNat=q.toNat:=by rw[kt];omega
    have:=tp.1
    rw[e]
    simp at this
    omega,by
    have:=tp.1
    rw[Nat.add_mul,Nat.one_mul] at h2
    simp at this
    omega⟩
  ·have hs:X.toNat/9223372036854775808=1:=by
    rcases Nat.eq_zero_or_pos (X.toNat/9223372036854775808) with h|h
    ·exact absurd (FP (h63.trans h)) h67
    ·have:=tp.2
     omega
   rw[hs,Nat.mul_one] at tp
   refine ar (ab (af (aa (ac Ll Ll (ag (ab (af (af (aa (ae Ll Ll (aQ Ll Ll (bu KK v64) (ae Ll Ll ?_))))))))))))
   refine ag (ab (ax ?_))
   refine f6 (fun(i:Nat) (K:List UInt32) (d:UInt64)=>[(0,u),(1,v),(2,bj q),(7,bj d),(70,v),(71,I (m.length:Int)),(72,I (i:Int))]) (fun(i:Nat) (K:List UInt32) (d:UInt64) w'=>w.grownBy w' (some g)∧PW g pre K post u w'∧K.length=L.length∧i≤m.length∧K.drop i=N.drop i∧d.toNat≤1∧val (K.take i)+4294967296^i*d.toNat=val (N.take i)+val (m.take i)) (fun(i:Nat) (K:List UInt32) (d:UInt64)=>m.length-i) (0) (N) (0) ⟨rfl,rfl,rfl,rfl,rfl,rfl,rfl,trivial⟩ ⟨q3.trans q64,pN,hNl,by simp,rfl,by simp,by simp[val]⟩ ?_
   rintro i K d w17 ⟨q17,pK,hK,hi,hKi,hd,hinv2⟩
   refine af ?_
   have v17:=hv.away ha q17
   refine aa (ai Ll Ll Ll (aW) (ag (ab (af ?_))))
   refine bi Ll (fun h73=>?_) (fun h73=>?_)
   ·refine ar (ab (af (ax (af (aa (ae Ll Ll ?_))))))
    obtain⟨a75,p75,q75⟩:=cP KK v17 (i:=i) (by omega) .i64
    refine aA Ll Ll Ll (p75 _) (am Ll Ll (aj KL Ll q75) (ac Ll Ll (ac Ll Ll (ag (ab (af (aa (ae Ll Ll ?_))))))))
    refine ae Ll Ll (ae Ll Ll ?_)
    obtain⟨a80,p80,q80⟩:=cP KK pK.wds (i:=i) (by omega) .i64
    refine aA Ll Ll Ll (p80 _) (am Ll Ll (aj KL Ll q80) (aR Ll Ll (bN KL KN) ?_))
    refine ae Ll Ll (aR Ll Ll (bN KL KN) (ai Ll Ll Ll (dw) (ai Ll Ll Ll (dw) (ac Ll Ll ?_))))
    refine ag (ab (af (aa (ae Ll Ll (ae Ll Ll (ae Ll Ll (aR Ll Ll (cA KN KL) ?_)))))))
    obtain⟨w91,p91,s91,pK',q91,c91⟩:=pK.setP KK (i:=i) (by omega) ((((d)+(((((K[i])).toUInt64)+(((m[i])).toUInt64)))))).toUInt32
    refine aA Ll Ll Ll (p91 _) (aq Ll Ll (s91) (ag (ab (aa (ae Ll Ll (ai Ll Ll Ll (dz 32 (by omega)) (ac Ll Ll (ag (aJ ?_)))))))))
    refine ab (aa (ai (r:=I ((i+1:Nat):Int)) Ll Ll Ll (by have e:((i+1:Nat):Int)=(i:Int)+1:=(by omega);rw[e];exact aK (by omega) (by omega)) ?_))
    refine ae Ll Ll (ag ?_)
    have st:=FN (L:=N) (v:=m) (M:=K) (i:=i) (c:=d) (by omega) (by omega) (by omega) hd hKi hinv2
    refine dA (i+1) (_) (_) ⟨rfl,rfl,rfl,rfl,rfl,rfl,rfl,trivial⟩ ⟨q17.trans q91,pK',by simpa using hK,by omega,st.1,st.2.1,st.2.2⟩ (by omega)
   ·refine aY (aB (aB (aX (ab (af ?_)))))
    obtain rfl:i=m.length:=by omega
    refine aa (ae Ll Ll (ae Ll Ll (aQ Ll Ll (bu KK v17) ?_)))
    obtain⟨a98,p98,q98⟩:=cP KK pK.wds (i:=m.length) (by omega) .i64
    refine aA Ll Ll Ll (p98 _) (am Ll Ll (aj KL Ll q98) (ae Ll Ll (aR Ll Ll (cA KN KL) ?_)))
    refine ai Ll Ll Ll (cl) ?_
    obtain⟨w103,p103,s103,pK',q103,c103⟩:=pK.setP KK (i:=m.length) (by omega) (K[m.length]'(by omega)+d.toUInt32)
    refine aA Ll Ll Ll (p103 _) (aq Ll Ll (s103) (ag (ab (af (aa (ae Ll Ll (ai (v:=bj 1) Ll Ll Ll (dx) (aR Ll Ll (cA KN KL) ?_))))))))
    refine ac Ll Ll (ag (ab (av (aG Ll Ll ?_))))
    have rb:=FQ (q:=q.toNat) hL hNl hK hd hKi hinv2 tp.1 h1
    exact⟨_,rfl,(q-1).toUInt32,_,rfl,q17.trans q103,pK',by simpa using hK,by
     have e:(q-1).toUInt32.toNat=q.toNat-1:=by
      have h0:=rb.1
      rw[kt,pu]
      show(18446744073709551616-1+q.toNat)%18446744073709551616%_=_
      omega
     rw[e];exact rb.2.1,rb.2.2⟩
end Go.Rl
namespace Go.Rl
open Go.RowKit Go.Proofs
theorem jg:ay Tryz.prog 190:=⟨_,Tryz.func190,by kernel_rfl,rfl⟩
theorem DT {U:List UInt32} {i j V:Nat} (h:val U<4294967296^(i+1)*V) (hV:V<4294967296^j) (hi:i+j+1≤U.length):val (U.drop (i+j+1))=0:=by
 rw[ej U (i+j+1) hi] at h
 rcases Nat.eq_zero_or_pos (val (U.drop (i+j+1))) with h0|h0
 ·exact h0
 ·have a:4294967296^(i+1)*V≤4294967296^(i+1)*4294967296^j:=Nat.mul_le_mul_left _ (Nat.le_of_lt hV)
  rw[←Nat.pow_add,show i+1+j=i+j+1 by omega] at a
  have b:4294967296^(i+j+1)*1≤4294967296^(i+j+1)*val (U.drop (i+j+1)):=Nat.mul_le_mul_left _ h0
  omega
theorem FV {U:List UInt32} {i n:Nat} (h:i+n≤U.length) (h0:val (U.drop (i+n))=0):val U=val (U.take i)+4294967296^i*val ((U.take (i+n)).drop i):=by
 have h1:=ej U (i+n) h
 rw[h0,Nat.mul_zero,Nat.add_zero] at h1
 have h2:=ej (U.take (i+n)) i (by simp;omega)
 rw[List.take_take,Nat.min_eq_left (by omega)] at h2
 rw[h1,h2]
theorem AX {U F:List UInt32} {i n:Nat} (h:i+n≤U.length) (h0:val (U.drop (i+n))=0):val (U.take i++F++U.drop (i+n))=val (U.take i)+4294967296^i*val F:=by
 rw[et,et,h0,List.length_take,Nat.min_eq_left (by omega)];simp
theorem jh {w:World} {l m:List UInt32} {v u:Value} (hv:bo l v w) (hu:bo m u w) (hl:l.length≤549755813888) (hml:m.length≤549755813888) (hm:0<val m):
 Calls Tryz.prog 190 #[v,u] w (bE fun r w'=>aI w w'∧∃q s,r=.tuple #[q,s,I 0]∧bo (lb (val l/val m)) q w'∧bo (lb (val l%val m)) s w'):=by
 refine enter (vs:=[v,u]) Tryz.func190 Ll Ll Ll ?_
 have hll:=gO (cv l)
 have hmm:=gO (cv m)
 have hM0:0<(lb (val m)).length:=by
  rcases Nat.eq_zero_or_pos (lb (val m)).length with h|h
  ·have:=gt.1 h
   omega
  ·exact h
 refine af (aa (ac Ll Ll (ac Ll Ll (ac Ll Ll (ag (ab (af (aa (ae Ll Ll (an dK Ll Ll (dW hv) ?_))))))))))
 rintro v18 _ ⟨rfl,b18⟩
 refine ae Ll Ll (an dK Ll Ll (dW hu) ?_)
 rintro v20 _ ⟨rfl,b20⟩
 refine ac Ll Ll (ac Ll Ll (ag (ab (af (ax (af (aa (ae Ll Ll (aQ (r:=I ((lb (val m)).length:Int)) Ll Ll (bu KK b20) ?_)))))))))
 refine ai Ll Ll Ll (cf (by omega) aZ) (ac Ll Ll (ag (ab (cp Ll (af (aa (ae Ll Ll (ae Ll Ll (an qv Ll Ll ((by have:=qx b18 b20;rw[bP,bP] at this;exact this)) ?_)))))))))
 rintro v28 w28 ⟨x28,rfl⟩
 refine ai Ll Ll Ll (aW) (ac Ll Ll (ag (ab ?_)))
 refine bi Ll (fun h25=>?_) (fun h25=>?_)
 ·have hlt:=mD.1 h25
  refine af (aa (ae Ll Ll (an lh Ll Ll ((by have:=li (b18.ext x28) (by omega);rw[bP] at this;exact this)) ?_)))
  rintro v31 w31 ⟨x31,b31⟩
  refine ac Ll Ll (ac Ll Ll (ac Ll Ll (ag (ab (av (aV (au (kU Ll Ll Ll Ll ?_))))))))
  exact⟨_,rfl,(x28.trans x31),_,_,rfl,by rw[Nat.div_eq_of_lt hlt];exact bo.nil _,by rw[Nat.mod_eq_of_lt hlt];exact b31⟩
 ·have hge:val m≤val l:=Nat.le_of_not_lt fun h=>h25 (mD.2 h)
  have hlen:(lb (val m)).length≤(lb (val l)).length:=Nat.le_of_not_lt fun h=>by have:=xk h;omega
  refine af (aa (ae Ll Ll (aQ (r:=I ((lb (val m)).length:Int)) Ll Ll (bu KK (b20.ext x28)) (ai Ll Ll Ll (aZ) ?_))))
  refine ac Ll Ll (ag (ab ?_))
  refine bi Ll (fun h32=>?_) (fun h32=>?_)
  ·refine af (aa (ae Ll Ll (ae Ll Ll ?_)))
   have hM1:val m=((lb (val m))[0]'(by omega)).toNat:=by
    have e:=eQ (l:=lb (val m)) (i:=0) (by omega)
    rw[List.drop_zero,bP,List.drop_of_length_le (by omega)] at e
    simpa [val] using e
   obtain⟨a39,p39,q39⟩:=cP KK (b20.ext x28) (i:=0) (by omega) .i64
   refine aA Ll Ll Ll (p39 _) (am Ll Ll (aj KL Ll q39) (an yP Ll Ll ((yR (b18.ext x28) (by omega) (by rw[←hM1];exact hm))) ?_))
   rintro v41 w41 ⟨x41,q,s,rfl,bq,bs⟩
   refine ae Ll Ll (ak Ll Ll aT (ak Ll Ll aU (ac Ll Ll (ac Ll Ll (ag (ab (af (aa (ae Ll Ll (ae Ll Ll (ac Ll Ll ?_)))))))))))
   refine ac Ll Ll (ac Ll Ll (ag (ab (av (aV (au (kU Ll Ll Ll Ll ?_)))))))
   rw[bP,←hM1] at bq bs
   exact⟨_,rfl,(x28.trans x41),_,_,rfl,bq,bs⟩
  ·refine ar (aJ (ab (af ?_)))
   obtain⟨k,hk⟩:∃k,(lb (val m)).length=k+2:=⟨(lb (val m)).length-2,by omega⟩
   obtain⟨hs32,hVlen⟩:=FO hk
   have htop:(lb (val m))[(lb (val m)).length-1]'(by omega)=(lb (val m))[k+1]'(by omega):=by congr 1;omega
   refine aa (ae Ll Ll (ae Ll Ll (aQ (r:=I ((lb (val m)).length:Int)) Ll Ll (bu KK (b20.ext x28)) (ai (r:=I (((lb (val m)).length-1:Nat):Int)) Ll Ll Ll (by have e:(((lb (val m)).length-1:Nat):Int)=((lb (val m)).length:Int)-1:=(by omega);rw[e];exact bg (by omega) (by omega)) ?_))))
   obtain⟨a50,p50,q50⟩:=cP KK (b20.ext x28) (i:=((lb (val m)).length-1:Nat)) (by omega) .i64
   refine aA Ll Ll Ll (p50 _) (am Ll Ll (aj KL Ll q50) (an DB Ll Ll (DE) ?_))
   rintro v52 _ ⟨rfl,rfl⟩
   rw[htop]
   obtain⟨s,hs⟩:∃s,s=32-bl ((lb (val m))[k+1]'(by omega)).toNat:=⟨_,rfl⟩
   rw[←hs] at hs32 hVlen⊢
   refine ac Ll Ll (ag (ab (af (aa (ae Ll Ll (ae Ll Ll (an tb Ll Ll (te (b18.ext x28) (by omega) hs32) ?_)))))))
   rintro v55 w55 ⟨x55,U,oU,hUl,hUv⟩
   refine ae Ll Ll (ae Ll Ll (an tb Ll Ll (te (b20.ext (x28.trans x55)) (by omega) hs32) ?_))
   rintro v58 w58 ⟨x58,V,oV,hVl,hVv⟩
   refine an dK Ll Ll (sY oV.wds) ?_
   rintro v59 _ ⟨rfl,b59,ob59⟩
   rw[bP] at hUv hVv
   rw[hVv] at b59
   obtain⟨g,sp,hgb,hgo,pU⟩:=oU.pw (by omega)
   have hV0:0<val m*2^s:=Nat.mul_pos hm (Nat.pow_pos (by omega))
   have hgV:g<w55.heap.size:=pU.lt
   have off1:v59.ownBlock=none∨v59.ownBlock≠some g:=by
    rcases ob59 with h|h
    ·exact .inl h
    ·exact .inr (by rw[h];exact oV.off hgV)
   refine ac Ll Ll (ac Ll Ll (ag (ab (af (aa (ae Ll Ll (aQ (r:=I ((lb (val l)).length:Int)) Ll Ll (bu KK (b18.ext ((x28.trans x55).trans x58))) ?_)))))))
   refine ae Ll Ll (aQ (r:=I ((lb (val m)).length:Int)) Ll Ll (bu KK (b20.ext ((x28.trans x55).trans x58))) (ai (r:=I (((lb (val l)).length-(lb (val m)).length:Nat):Int)) Ll Ll Ll (by have e:(((lb (val l)).length-(lb (val m)).length:Nat):Int)=((lb (val l)).length:Int)-((lb (val m)).length:Int):=(by omega);rw[e];exact bg (by omega) (by omega)) ?_))
   refine ai (r:=I (((((lb (val l)).length-(lb (val m)).length:Nat))+1:Nat):Int)) Ll Ll Ll (by have e:(((((lb (val l)).length-(lb (val m)).length:Nat))+1:Nat):Int)=(((lb (val l)).length-(lb (val m)).length:Nat):Int)+1:=(by omega);rw[e];exact aK (by omega) (by omega)) ?_
   obtain⟨v66,w66,hr66,x66,o66,ob66⟩:=ve KK (w:=w58) w58.heap.size (n:=(lb (val l)).length-(lb (val m)).length+1) (by omega) (Nat.le_refl _)
   refine gJ Ll Ll Ll hr66 (ac Ll Ll (ag (ab (af (af (aa (ae Ll Ll (aQ (r:=I (((lb (val l)).length-(lb (val m)).length+1:Nat):Int)) Ll Ll ((by simpa using bu Tryz.underlying53 o66.wds)) ?_))))))))
   refine ai Ll Ll Ll (bg (by omega) (by omega)) (ac Ll Ll (ag (ab (ax ?_))))
   refine f6 (fun(j:Nat) (X:List UInt32) (O:List UInt32)=>[(9,I (s:Int)),(10,v55),(11,v59),(12,v66),(13,I ((j:Int)-1))]) (fun(j:Nat) (X:List UInt32) (O:List UInt32) w'=>aI w w'∧PW g [] X sp v55 w'∧dQ w58.heap.size O v66 w'∧bo (lb (val m*2^s)) v59 w'∧X.length=(lb (val l)).length+1∧O.length=(lb (val l)).length-(lb (val m)).length+1∧j≤O.length∧val l*2^s=val (O.drop j)*4294967296^j*(val m*2^s)+val X∧val X<4294967296^j*(val m*2^s)) (fun(j:Nat) (X:List UInt32) (O:List UInt32)=>j) ((lb (val l)).length-(lb (val m)).length+1) (U) (List.replicate ((lb (val l)).length-(lb (val m)).length+1) 0) ⟨rfl,rfl,rfl,rfl,rfl,trivial⟩ ⟨(((x28.trans x55).trans x58).trans x66),(pU.ext x58).ext x66,o66,b59.ext x66,hUl,by simp,by simp,by rw[List.drop_of_length_le (by simp)];simp[val,hUv],by
    have h1:=cv (lb (val l))
    have h2:=Cx hm
    rw[bP] at h1
    rw[hUv,←Nat.mul_assoc]
    refine Nat.mul_lt_mul_of_pos_right ?_ (Nat.pow_pos (by omega))
    have h3:4294967296^(lb (val l)).length=4294967296^((lb (val l)).length-(lb (val m)).length+1)*4294967296^((lb (val m)).length-1):=by
     rw[←Nat.pow_add,show(lb (val l)).length-(lb (val m)).length+1+((lb (val m)).length-1)=(lb (val l)).length by omega]
    rw[h3] at h1
    exact Nat.lt_of_lt_of_le h1 (Nat.mul_le_mul_left _ h2)⟩ ?_
   rintro j X O w13 ⟨e13,pX,oO,f13,hXl,hOl,hj,hA,hX⟩
   refine af (af (aa (ae Ll Ll (ai Ll Ll Ll (iP) (ag (ab ?_))))))
   refine bi Ll (fun h71=>?_) (fun h71=>?_)
   ·obtain⟨i,rfl⟩:∃i,j=i+1:=⟨j-1,by omega⟩
    have e:((i+1:Nat):Int)-1=(i:Int):=by omega
    rw[e]
    have hz:=DT hX (by have:=cv (lb (val m*2^s));rwa [bP,hVlen] at this) (j:=k+2) (by omega)
    have hXp:=FV (U:=X) (i:=i) (n:=k+3) (by omega) hz
    refine ar (ab (af (ax (af (aa (ae Ll Ll (ae Ll Ll (ae Ll Ll (ae Ll Ll (aQ (r:=I ((k+2:Nat):Int)) Ll Ll ((by rw[←hVlen];exact bu KK f13)) ?_))))))))))
    refine ai (r:=I ((i+(k+2:Nat):Nat):Int)) Ll Ll Ll (by have e:((i+(k+2:Nat):Nat):Int)=(i:Int)+((k+2:Nat):Int):=(by omega);rw[e];exact aK (by omega) (by omega)) ?_
    refine ai (r:=I ((((i+(k+2:Nat):Nat))+1:Nat):Int)) Ll Ll Ll (by have e:((((i+(k+2:Nat):Nat))+1:Nat):Int)=((i+(k+2:Nat):Nat):Int)+1:=(by omega);rw[e];exact aK (by omega) (by omega)) ?_
    obtain⟨v81,p81,pP⟩:=Jd KK pX (lo:=i) (hi:=i+(k+2)+1) (by omega) (by omega) .i64 .i64
    refine cw Ll Ll Ll Ll Ll (p81 _) ?_
    have hPl:((X.take (i+(k+2)+1)).drop i).length=k+3:=by simp;omega
    refine ac Ll Ll (ag (ab (aa (ae Ll Ll (ae Ll Ll (ae Ll Ll (ae Ll Ll (ae Ll Ll (ae Ll Ll (an DP Ll Ll (DR pP.wds f13 hVlen hPl (by omega) (xm (by omega)) (by
 rw[bP]
 have h1:4294967296^i*val ((X.take (i+(k+3))).drop i)≤val X:=by rw[hXp];omega
 rw[Nat.pow_succ,Nat.mul_assoc] at hX
 exact Nat.lt_of_mul_lt_mul_left (Nat.lt_of_le_of_lt h1 hX))) ?_))))))))))
    rintro v88 w88 ⟨x88,q,rfl,hqB,hq1,hq2⟩
    refine an DQ Ll Ll (DS (pP.ext x88) (f13.ext x88) off1 (by rw[hPl,hVlen]) (by omega) hqB hq1 hq2) ?_
    rintro v89 w89 ⟨x,F,rfl,q89,pF,hFl,hFv,hFr⟩
    have x89:=(e13.trans x88).of_new q89 (by have:=x28.size;omega)
    have o89:=(oO.ext x88).kept q89 (.inr (oO.off (by have:=x58.size;omega)))
    have p89:=pX.join (by omega) (by omega) (by rw[hFl,hPl];omega) pF
    have f89:=(f13.ext x88).away off1 q89
    obtain⟨g90,w90,p90,s90,o90,q90,hb90,c90,ob90⟩:=o89.setW KK (i:=i) (by omega) x
    refine aA Ll Ll Ll (p90 _) (aq Ll Ll (s90) ?_)
    have x90:=x89.of_new q90 (by have:=x28.size;have:=x55.size;have:=x58.size;omega)
    have p90':=p89.kept q90 (fun h=>by have:=Option.some.inj h;have:=x58.size;omega)
    have f90:=f89.away (by
     rcases ob59 with h|h
     ·exact .inl h
     ·refine .inr fun he=>?_
      rw[h] at he
      have:=oV.lt g90 he
      omega) q90
    have hj':=AX (U:=X) (F:=F) (i:=i) (n:=k+3) (by omega) hz
    rw[bP] at hFv hFr
    have dr:=DH (A:=val l*2^s) (P:=4294967296^i) (Q:=val (O.drop (i+1))) (V:=val m*2^s) hXp (by have:=cv (X.take i);rwa [List.length_take,Nat.min_eq_left (by omega)] at this) (by rw[←Nat.pow_succ];exact hA) hFv hFr
    rw[←hj',←px (by omega)] at dr
    refine ag (aJ (ab (aa (ae Ll Ll (ai Ll Ll Ll (bg (by omega) (by omega)) (ac Ll Ll (ag ?_)))))))
    refine dA (i) (_) (_) ⟨rfl,rfl,rfl,rfl,rfl,trivial⟩ ⟨x90,p90',o90,f90,by simp[hFl,hPl,hXl];omega,by simpa using hOl,by simp;omega,dr.1,dr.2⟩ (by omega)
   ·refine aY (aB (aB (aX (ab (af ?_)))))
    obtain rfl:j=0:=by omega
    rw[Nat.pow_zero,Nat.mul_one,List.drop_zero] at hA
    rw[Nat.pow_zero,Nat.one_mul] at hX
    have hs0:0<2^s:=Nat.pow_pos (by omega)
    have hQ:val l/val m=val O:=by
     rw[←Nat.mul_div_mul_right _ _ hs0,hA,Nat.mul_comm (val O),Nat.mul_add_div hV0,Nat.div_eq_of_lt hX,Nat.add_zero]
    have hR:val X/2^s=val l%val m:=by
     have e1:val X=val l*2^s%(val m*2^s):=by rw[hA,Nat.mul_comm (val O),Nat.mul_add_mod,Nat.mod_eq_of_lt hX]
     rw[e1,Nat.mul_mod_mul_right,Nat.mul_div_cancel _ hs0]
    refine aa (ae Ll Ll (ae Ll Ll (an DA Ll Ll (DF pX.wds (by omega) (by omega)) ?_)))
    rintro v94 w94 ⟨x94,r94,rfl,b94⟩
    refine ae Ll Ll (ak Ll Ll aT (ak Ll Ll aU (ac Ll Ll (ac Ll Ll (ag (ab (af (aa (ae Ll Ll (an dK Ll Ll (dW ((oO.ext x94).wds)) ?_))))))))))
    rintro v98 _ ⟨rfl,b98⟩
    refine ae Ll Ll (ac Ll Ll (ac Ll Ll (ac Ll Ll (ag (ab (av (kU Ll Ll Ll Ll ?_)))))))
    exact⟨_,rfl,(e13.trans x94),_,_,rfl,by rw[hQ];exact b98,by rw[←hR];exact b94⟩
end Go.Rl
namespace Go.Rl
open Go.RowKit Go.Proofs
theorem ll:ay Tryz.prog 185:=⟨_,Tryz.func185,by kernel_rfl,rfl⟩
theorem DU:ay Tryz.prog 184:=⟨_,Tryz.func184,by kernel_rfl,rfl⟩
theorem DV:ay Tryz.prog 189:=⟨_,Tryz.func189,by kernel_rfl,rfl⟩
theorem ku {n m:Nat} (h:n≤m):(lb n).length≤(lb m).length:=by
 rcases Nat.lt_or_ge (lb m).length (lb n).length with h1|h1
 ·have:=xk h1;omega
 ·exact h1
theorem lm {w:World} {l m:List UInt32} {v u:Value} (hv:bo l v w) (hu:bo m u w) (hl:l.length≤274877906944) (hml:m.length≤274877906944) (hm:0<val m):
 Calls Tryz.prog 185 #[v,u] w (bE fun r w'=>aI w w'∧∃q s,r=.tuple #[q,s,I 0]∧bo (lb (val l/val m)) q w'∧bo (lb (val l%val m)) s w'):=by
 refine enter (vs:=[v,u]) Tryz.func185 Ll Ll Ll ?_
 refine af (aa (ac Ll Ll (ac Ll Ll (ac Ll Ll (ag (ab (af (aa (ae Ll Ll (an th Ll Ll (tl hv (by omega)) ?_))))))))))
 rintro v16 w16 ⟨x16,hcx⟩
 obtain⟨x,bx,rfl,hbx⟩:∃(x:UInt64) (bx:Bool),v16=.tuple #[bj x,B bx]∧(bx=true→x.toNat=val l):=by
  rcases hcx with⟨_,rfl⟩|⟨x,hx,rfl⟩
  ·exact⟨0,false,rfl,fun h=>by cases h⟩
  ·exact⟨x,true,rfl,fun _=>hx⟩
 refine ae Ll Ll (ak Ll Ll aT (ak Ll Ll (aU) (ac Ll Ll (ac Ll Ll (ag (ab (af (aa (ae Ll Ll (an th Ll Ll (tl (hu.ext x16) (by omega)) ?_))))))))))
 rintro v21 w21 ⟨x21,hcy⟩
 obtain⟨y,bY,rfl,hby⟩:∃(y:UInt64) (bY:Bool),v21=.tuple #[bj y,B bY]∧(bY=true→y.toNat=val m):=by
  rcases hcy with⟨_,rfl⟩|⟨y,hy,rfl⟩
  ·exact⟨0,false,rfl,fun h=>by cases h⟩
  ·exact⟨y,true,rfl,fun _=>hy⟩
 refine ae Ll Ll (ak Ll Ll aT (ak Ll Ll (aU) ?_))
 have hy0:bY=true→¬y=0:=fun h h0=>by
  have:=hby h
  rw[h0] at this
  have e:(0:UInt64).toNat=0:=rfl
  omega
 refine ac Ll Ll (ac Ll Ll (ag (ab (af ?_))))
 refine fj (fun _:Unit=>[(0,v),(1,u),(7,bj x),(8,B bx),(9,bj y),(10,B bY)]) (fun _ w'=>w21=w') ?_ ?_
 ·refine af ?_
  cases bY
  ·refine aa (ae Ll Ll (ae Ll Ll (ao Ll Ll Ll (ao Ll Ll Ll (aC Ll Ll Ll (ag (ab (cp Ll (ar ?_)))))))))
   exact cz () ⟨rfl,rfl,rfl,rfl,rfl,rfl,trivial⟩ rfl
  ·refine aa (ae Ll Ll (ae Ll Ll (al Ll (ae Ll Ll (al Ll (ai (v:=bj 0) Ll Ll Ll (cf (hy0 Ll) fK) (aw Ll Ll Ll (ag ?_))))))))
   refine ab (cp Ll (ar ?_))
   exact cz () ⟨rfl,rfl,rfl,rfl,rfl,rfl,trivial⟩ rfl
 rintro⟨⟩ _ rfl
 refine ab (af ?_)
 refine fj (fun _:Unit=>[(0,v),(1,u)]) (fun _ w'=>w21=w') ?_ ?_
 ·refine af ?_
  rcases bx with _|_<;>rcases bY with _|_
  ·refine aa (ae Ll Ll (ae Ll Ll (ao Ll Ll Ll (aC Ll Ll Ll (ag (ab (cp Ll (ar ?_))))))))
   exact cz () ⟨rfl,rfl,trivial⟩ rfl
  ·refine aa (ae Ll Ll (ae Ll Ll (ao Ll Ll Ll (aC Ll Ll Ll (ag (ab (cp Ll (ar ?_))))))))
   exact cz () ⟨rfl,rfl,trivial⟩ rfl
  ·refine aa (ae Ll Ll (ae Ll Ll (al Ll (ae Ll Ll (aw Ll Ll Ll (ag (ab (cp Ll (ar ?_)))))))))
   exact cz () ⟨rfl,rfl,trivial⟩ rfl
  ·have hx:=hbx rfl
   have hy:=hby rfl
   have hyn:=hy0 rfl
   refine aa (ae Ll Ll (ae Ll Ll (al Ll (ae Ll Ll (aw Ll Ll Ll (ag (ab (bB Ll (af (bz 10 [4,5] (by kernel_rfl) (by kernel_rfl) ?_))))))))))
   refine ap rfl rfl (ap rfl rfl (aS rfl rfl rfl (fun w _=>gL hyn) (ce (S:=bo (lb (val l/val m))) yX (bo.stable _) rfl (fun w hw=>by rintro _ rfl;exact bE.mono yY fun v w' h=>⟨h.1,by have:=h.2;rwa [UInt64.toNat_div,hx,hy] at this⟩) ?_)))
   refine ap rfl rfl (ap rfl rfl (aS rfl rfl rfl (fun w _=>iC hyn) (ce (S:=bo (lb (val l%val m))) yX (bo.stable _) rfl (fun w hw=>by rintro _ rfl;exact bE.mono yY fun v w' h=>⟨h.1,by have:=h.2;rwa [UInt64.toNat_mod,hx,hy] at this⟩) ?_)))
   refine eo Ll Ll (eo Ll Ll (bF ?_))
   intro wg6 xg6
   intro vg4 b4
   intro vg5 b5
   refine ac Ll Ll (ag (ab (av (au (kU Ll Ll Ll Ll ?_)))))
   exact⟨_,rfl,((x16.trans x21).trans xg6),_,_,rfl,b4,b5⟩
 rintro⟨⟩ _ rfl
 refine ab (af (aa (ae Ll Ll (aQ Ll Ll (bu KK (hv.ext (x16.trans x21))) ?_))))
 obtain⟨v43,w43,hr43,x43,o43,ob43⟩:=ve KY (w:=w21) w21.heap.size (n:=l.length) (by omega) (Nat.le_refl _)
 refine gJ Ll Ll Ll hr43 ?_
 obtain⟨v44,w44,hr44,x44,o44,ob44⟩:=ir Tryz.underlying53 (w:=w43) w43.heap.size [] (by simp) (Nat.le_refl _)
 refine aO (vs:=[]) Ll Ll hr44 (ac Ll Ll (ac Ll Ll (ag (ab (af (af (aa (ae Ll Ll (an AU Ll Ll (AV (hv.ext (((x16.trans x21).trans x43).trans x44)) (by omega)) ?_)))))))))
 rintro v46 w46 ⟨x46,rfl⟩
 have hbl:bl (val l)≤32*l.length:=vi (by have:=cv l;rwa [show(4294967296:Nat)^l.length=2^(32*l.length) by rw[Nat.pow_mul]] at this)
 have hb0:val l/2^bl (val l)=0:=by
  rcases Nat.eq_zero_or_pos (val l) with h|h
  ·rw[h];simp
  ·exact Nat.div_eq_of_lt (py h).2
 refine ai Ll Ll Ll (bg (by omega) (by omega)) (ac Ll Ll (ag (ab (ax ?_))))
 refine f6 (fun(j:Nat) (O:List UInt32) (vr:Value)=>[(0,v),(1,u),(11,v43),(12,vr),(13,I ((j:Int)-1))]) (fun(j:Nat) (O:List UInt32) (vr:Value) w'=>aI w w'∧dQ w21.heap.size O v43 w'∧O.length=l.length∧bo (lb (val l/2^j%val m)) vr w'∧j≤bl (val l)∧val O=2^j*(val l/2^j/val m)) (fun(j:Nat) (O:List UInt32) (vr:Value)=>j) (bl (val l)) (List.replicate l.length 0) (v44) ⟨rfl,rfl,rfl,rfl,rfl,trivial⟩ ⟨((((x16.trans x21).trans x43).trans x44).trans x46),(o43.ext x44).ext x46,by simp,by rw[hb0,Nat.zero_mod];exact(o44.ext x46).wds,Nat.le_refl _,by rw[hb0];simp[qt]⟩ ?_
 rintro j O vr w9 ⟨e9,oq,hO,br,hj,hq⟩
 refine af (af (aa (ae Ll Ll (ai Ll Ll Ll (iP) (ag (ab ?_))))))
 refine bi Ll (fun h49=>?_) (fun h49=>?_)
 ·obtain⟨i,rfl⟩:∃i,j=i+1:=⟨j-1,by omega⟩
  have e:((i+1:Nat):Int)-1=(i:Int):=by omega
  rw[e]
  have hib:i/32<l.length:=by omega
  have hrl:(lb (val l/2^(i+1)%val m)).length≤m.length:=Nat.le_trans (ku (Nat.le_of_lt (Nat.mod_lt _ hm))) (gO (cv m))
  obtain⟨rd1,rd2,rd3⟩:=AT (N:=val l) (i:=i) hm
  refine ar (ab (af (ax (af (aa (ae Ll Ll ?_))))))
  have hVl:=cv m
  have hxl:=Nat.mod_lt (val l/2^(i+1)) hm
  have h2l:∀b,b≤1→(lb (2*(val l/2^(i+1)%val m)+b)).length≤m.length+1:=fun b hb=>gO (by have e:(4294967296:Nat)^(m.length+1)=4294967296^m.length*4294967296:=Nat.pow_succ ..;rw[e];have:=J6 m.length;omega)
  refine an DL Ll Ll (DO (k:=1) br (by omega) (by omega)) ?_
  rintro v53 w53 ⟨x53,b53⟩
  refine ac Ll Ll (ag (ab (af (aa (ae Ll Ll (ae Ll Ll (ae Ll Ll (ai (r:=I ((i/32:Nat):Int)) Ll Ll Ll (by have e:((i/32:Nat):Int)=(i:Int)/32:=(by omega);rw[e];exact nr (by omega) (by omega) (by omega)) ?_))))))))
  obtain⟨a58,p58,q58⟩:=cP KK (hv.ext (e9.trans x53)) (i:=(i/32:Nat)) (by omega) .i64
  refine aA Ll Ll Ll (p58 _) (am Ll Ll (aj KL Ll q58) (ae Ll Ll (ai (r:=I ((i%32:Nat):Int)) Ll Ll Ll (by have e:((i%32:Nat):Int)=(i:Int)%32:=(by omega);rw[e];exact nu (by omega) (by omega)) ?_)))
  refine ai Ll Ll Ll (dh ((i%32:Nat)) (by omega)) (ai (v:=bA 1) Ll Ll Ll (fk) ?_)
  obtain⟨v64,w64,hr64,x64,o64,ob64⟩:=ir Tryz.underlying53 (w:=w53) w53.heap.size [((((((l[(i/32:Nat)]))>>>UInt32.ofNat ((i%32:Nat))))&&&(1)))] (by simp) (Nat.le_refl _)
  refine aO (vs:=[(0,bA (((((((l[(i/32:Nat)]))>>>UInt32.ofNat ((i%32:Nat))))&&&(1)))))]) Ll Ll hr64 (an DJ Ll Ll (DM (b53.ext x64) o64.wds (by rw[bP,Nat.pow_one,Nat.mul_comm];have:=h2l 0 (by omega);rw[Nat.add_zero] at this;omega) (by simp)) ?_)
  rintro v65 w65 ⟨x65,b65⟩
  rw[bP,bP,lf,Jf hib,Nat.pow_one,Nat.mul_comm] at b65
  have x6:=(x53.trans x64).trans x65
  refine ac Ll Ll (ag (ab (af (aa (ae Ll Ll (ae Ll Ll (an vq Ll Ll (vw b65 (hu.ext (((e9.trans x53).trans x64).trans x65))) ?_)))))))
  rintro v68 _ ⟨rfl,rfl⟩
  refine ai Ll Ll Ll (iP) (ag (ab ?_))
  refine bi Ll (fun h69=>?_) (fun h69=>?_)
  ·have hle:val m≤val (lb (2*(val l/2^(i+1)%val m)+val l/2^i%2)):=Nat.le_of_not_lt fun h=>by have:=mD.2 h;omega
   refine af (aa (ae Ll Ll (ae Ll Ll (an DK Ll Ll (DN b65 (hu.ext (((e9.trans x53).trans x64).trans x65)) (by have:=h2l (val l/2^i%2) (by omega);omega) hle) ?_))))
   rintro v73 w73 ⟨x73,d73,rfl,b73⟩
   rw[bP] at b73 hle
   obtain⟨rm,rq⟩:=rd2 hle
   rw[←rm] at b73
   have oq73:=(oq.ext x6).ext x73
   obtain⟨g85,_,p85,_,_,_,_,_,ob85⟩:=oq73.setW KY (i:=i/32) (by omega) (O[i/32]'(by omega)|||(1:UInt32)<<<UInt32.ofNat (i%32))
   refine ae Ll Ll (ak Ll Ll (aT) (ak Ll Ll aU (ac Ll Ll (ag (ab (bz 10 [0,1,11,12,13,84,85] (by kernel_rfl) (by kernel_rfl) ?_))))))
   refine ap Ll Ll (ap Ll Ll (aS (r:=I ((i/32:Nat):Int)) Ll Ll Ll (fun w _=>by have e:((i/32:Nat):Int)=(i:Int)/32:=(by omega);rw[e];exact nr (by omega) (by omega) (by omega)) ?_))
   obtain⟨a79,p79,q79⟩:=cP KY oq73.wds (i:=(i/32:Nat)) (by omega) .i64
   refine az Ll Ll Ll (fun w _=>p79 w) (aE Ll Ll (fun w hw=>aj KL Ll (hw.cell_some q79)) (ap Ll Ll (aS (r:=I ((i%32:Nat):Int)) Ll Ll Ll (fun w _=>by have e:((i%32:Nat):Int)=(i:Int)%32:=(by omega);rw[e];exact nu (by omega) (by omega)) ?_)))
   refine aS (u:=bA 1) Ll Ll Ll (fun w _=>eK ((i%32:Nat)) (by omega)) (aS Ll Ll Ll (fun w _=>fm) (az Ll Ll Ll (fun w hw=>p85 w) ?_))
   refine bF ?_
   intro wg15 xg15
   rintro _ hq0
   obtain rfl:=Eq.symm hq0
   rintro _ hq1
   obtain rfl:=Eq.symm hq1
   rintro _ hq11
   obtain rfl:=Eq.symm hq11
   rintro _ hq12
   obtain rfl:=Eq.symm hq12
   rintro _ rfl
   rintro _ rfl
   rintro _ rfl
   obtain⟨g',w',p',s',o',q',hb',c',ob'⟩:=(oq73.ext xg15).setW KY (i:=i/32) (by omega) (O[i/32]'(by omega)|||(1:UInt32)<<<UInt32.ofNat (i%32))
   obtain rfl:g85=g':=Option.some.inj (ob85.symm.trans ob')
   refine aq Ll Ll (s') ?_
   have x15:=(((e9.trans x6).trans x73).trans xg15).of_new q' (by have:=x16.size;have:=x21.size;omega)
   have sb:=Jg (a:=O) (i:=i) (by omega) hq
   have br':=((b73.ext xg15).kept q' (.inr (b73.off (by have:=oq.lt _ ob85;have:=x6.size;omega)))).wds
   refine ag (aJ (ab (aa (ae Ll Ll (ai Ll Ll Ll (bg (by omega) (by omega)) (ac Ll Ll (ag ?_)))))))
   refine dA (i) (_) (d73) ⟨rfl,rfl,rfl,rfl,rfl,trivial⟩ ⟨x15,o',by simpa using hO,br',by omega,by rw[sb,hq,rq,Nat.pow_succ,Nat.mul_assoc,Nat.mul_add,Nat.mul_one]⟩ (by omega)
  ·have hlt:2*(val l/2^(i+1)%val m)+val l/2^i%2<val m:=by
    rcases Nat.lt_or_ge (2*(val l/2^(i+1)%val m)+val l/2^i%2) (val m) with h|h
    ·exact h
    ·refine absurd ?_ h69
     rw[bP]
     have:¬qu (2*(val l/2^(i+1)%val m)+val l/2^i%2) (val m)<0:=fun h'=>by have:=mD.1 h';omega
     omega
   obtain⟨rm,rq⟩:=rd3 hlt
   rw[←rm] at b65
   refine ar (aJ (ab (aa (ae Ll Ll (ai Ll Ll Ll (bg (by omega) (by omega)) (ac Ll Ll (ag ?_)))))))
   refine dA (i) (O) (v65) ⟨rfl,rfl,rfl,rfl,rfl,trivial⟩ ⟨(((e9.trans x53).trans x64).trans x65),oq.ext x6,hO,b65,by omega,by rw[hq,rq,Nat.pow_succ,Nat.mul_assoc]⟩ (by omega)
 ·refine aY (aB (aB (aX (ab (af ?_)))))
  obtain rfl:j=0:=by omega
  rw[Nat.pow_zero,Nat.div_one,Nat.one_mul] at hq
  rw[Nat.pow_zero,Nat.div_one] at br
  refine aa (ae Ll Ll (an eX Ll Ll (fz oq.wds (by omega)) ?_))
  rintro v87 w87 ⟨x87,b87⟩
  refine ae Ll Ll (ac Ll Ll (ac Ll Ll (ac Ll Ll (ag (ab (av (kU Ll Ll Ll Ll ?_)))))))
  exact⟨_,rfl,(e9.trans x87),_,_,rfl,by rw[←hq];exact b87,br.ext x87⟩
theorem DW {w:World} {l m:List UInt32} {v u:Value} (hv:bo l v w) (hu:bo m u w) (hl:l.length≤274877906944) (hml:m.length≤274877906944):
 Calls Tryz.prog 184 #[v,u] w (bE fun r w'=>aI w w'∧bo (lb (Nat.gcd (val l) (val m))) r w'):=by
 refine enter (vs:=[v,u]) Tryz.func184 Ll Ll Ll ?_
 have hll:=gO (cv l)
 have hmm:=gO (cv m)
 refine af (aa (ac Ll Ll (ag (ab (af (aa (ae Ll Ll (an eX Ll Ll (fz hv (by omega)) ?_))))))))
 rintro v9 w9 ⟨x9,b9⟩
 refine ae Ll Ll (an eX Ll Ll (fz (hu.ext x9) (by omega)) ?_)
 rintro v11 w11 ⟨x11,b11⟩
 refine ac Ll Ll (ac Ll Ll (ag (ab (af (ax ?_)))))
 refine ig (fun(a:Nat) (b:Nat) (va:Value) (vb:Value)=>[(0,va),(1,vb)]) (fun(a:Nat) (b:Nat) (va:Value) (vb:Value) w'=>aI w w'∧bo (lb a) va w'∧bo (lb b) vb w'∧Nat.gcd a b=Nat.gcd (val l) (val m)∧(lb a).length≤274877906944∧(lb b).length≤274877906944) (fun(a:Nat) (b:Nat) (va:Value) (vb:Value)=>b) (val l) (val m) (v9) (v11) ⟨rfl,rfl,trivial⟩ ⟨(x9.trans x11),b9.ext x11,b11,rfl,by omega,by omega⟩ ?_
 rintro a b va vb w2 ⟨e2,ha,hb,hg,hla,hlb⟩
 refine af (af (aa (ae Ll Ll (aQ (r:=I ((lb b).length:Int)) Ll Ll (bu KK hb) (ai Ll Ll Ll (ck) ?_)))))
 refine ag (ab ?_)
 refine bi Ll (fun h14=>?_) (fun h14=>?_)
 ·have hb0:0<b:=by
   rcases Nat.eq_zero_or_pos b with h|h
   ·subst h;simp[f9] at h14
   ·exact h
  refine ar (ab (ax (af (aa (ae Ll Ll (ae Ll Ll (an ll Ll Ll (lm ha hb (by omega) (by omega) (by rw[bP];exact hb0)) ?_)))))))
  rintro v18 w18 ⟨x18,q,r,rfl,bq,br⟩
  rw[bP,bP] at br
  refine ae Ll Ll (ak Ll Ll ep (ak Ll Ll (eq) (ak Ll Ll er (ac Ll Ll (ac Ll Ll (ac Ll Ll (ag (ab ?_))))))))
  refine aa (ae Ll Ll (ae Ll Ll (ac Ll Ll (ac Ll Ll (ag (aJ ?_))))))
  refine fq (b) (a%b) (vb) (r) ⟨rfl,rfl,trivial⟩ ⟨(e2.trans x18),hb.ext x18,br,by rw[←hg,Nat.gcd_comm b,←Nat.gcd_rec,Nat.gcd_comm],hlb,Nat.le_trans (ku (Nat.le_of_lt (Nat.mod_lt a hb0))) hlb⟩ (Nat.mod_lt a hb0)
 ·refine aY (aB (aB (aX (ab (af (aa (ae Ll Ll (ac Ll Ll (ag (ab (av (aG Ll Ll ?_))))))))))))
  exact⟨_,rfl,e2,by
   have hb0:b=0:=by
    refine gt.1 ?_
    omega
   rw[←hg,hb0,Nat.gcd_zero_right];exact ha⟩
theorem DX {w:World} {l m:List UInt32} {v u:Value} (hv:bo l v w) (hu:bo m u w) (hl:l.length≤274877906944) (hml:m.length≤274877906944):
 Calls Tryz.prog 189 #[v,u] w (bE fun r w'=>aI w w'∧bo (lb (Nat.gcd (val l) (val m))) r w'):=by
 refine enter (vs:=[v,u]) Tryz.func189 Ll Ll Ll ?_
 have hll:=gO (cv l)
 have hmm:=gO (cv m)
 refine af (aa (ac Ll Ll (ag (ab (af (aa (ae Ll Ll (an dK Ll Ll (dW hv) ?_))))))))
 rintro v16 _ ⟨rfl,b16⟩
 refine ae Ll Ll (an dK Ll Ll (dW hu) ?_)
 rintro v18 _ ⟨rfl,b18⟩
 refine ac Ll Ll (ac Ll Ll (ag (ab (af (ax ?_)))))
 refine ig (fun(a:Nat) (b:Nat) (va:Value) (vb:Value)=>[(0,va),(1,vb)]) (fun(a:Nat) (b:Nat) (va:Value) (vb:Value) w'=>aI w w'∧bo (lb a) va w'∧bo (lb b) vb w'∧Nat.gcd a b=Nat.gcd (val l) (val m)∧(lb a).length≤274877906944∧(lb b).length≤274877906944) (fun(a:Nat) (b:Nat) (va:Value) (vb:Value)=>b) (val l) (val m) (v16) (v18) ⟨rfl,rfl,trivial⟩ ⟨aI.refl _,b16,b18,rfl,by omega,by omega⟩ ?_
 rintro a b va vb w2 ⟨e2,ha,hb,hg,hla,hlb⟩
 refine af (af (aa (ae Ll Ll (aQ (r:=I ((lb b).length:Int)) Ll Ll (bu KK hb) (ai Ll Ll Ll (ck) ?_)))))
 refine ag (ab ?_)
 refine bi Ll (fun h21=>?_) (fun h21=>?_)
 ·have hb0:0<b:=by
   rcases Nat.eq_zero_or_pos b with h|h
   ·subst h;simp[f9] at h21
   ·exact h
  refine ar (ab (ax (af (aa (ae Ll Ll (ae Ll Ll (an jg Ll Ll (jh ha hb (by omega) (by omega) (by rw[bP];exact hb0)) ?_)))))))
  rintro v25 w25 ⟨x25,q,r,rfl,bq,br⟩
  rw[bP,bP] at br
  refine ae Ll Ll (ak Ll Ll ep (ak Ll Ll (eq) (ak Ll Ll er (ac Ll Ll (ac Ll Ll (ac Ll Ll (ag (ab ?_))))))))
  refine aa (ae Ll Ll (ae Ll Ll (ac Ll Ll (ac Ll Ll (ag (aJ ?_))))))
  refine fq (b) (a%b) (vb) (r) ⟨rfl,rfl,trivial⟩ ⟨(e2.trans x25),hb.ext x25,br,by rw[←hg,Nat.gcd_comm b,←Nat.gcd_rec,Nat.gcd_comm],hlb,Nat.le_trans (ku (Nat.le_of_lt (Nat.mod_lt a hb0))) hlb⟩ (Nat.mod_lt a hb0)
 ·refine aY (aB (aB (aX (ab (af (af (aa (ae Ll Ll (aQ (r:=I ((lb b).length:Int)) Ll Ll (bu KK hb) ?_)))))))))
  refine ai Ll Ll Ll (aZ) (ag (ab ?_))
  refine bi Ll (fun h33=>?_) (fun h33=>?_)
  ·have hb0:b=0:=by
    refine gt.1 ?_
    omega
   refine af (aa (ae Ll Ll (an lh Ll Ll (li ha (by omega)) ?_)))
   rintro v35 w35 ⟨x35,b35⟩
   refine ac Ll Ll (ag (ab (av (au (aG Ll Ll ?_)))))
   exact⟨_,rfl,(e2.trans x35),by
    rw[bP] at b35
    rw[←hg,hb0,Nat.gcd_zero_right];exact b35⟩
  ·have hb0:0<b:=by
    rcases Nat.eq_zero_or_pos b with h|h
    ·subst h;simp[f9] at h33
    ·exact h
   have hb64:b<18446744073709551616:=by
    have:=cv (lb b)
    rw[bP] at this
    have h2:(4294967296:Nat)^(lb b).length≤4294967296^2:=Nat.pow_le_pow_right (by omega) (by omega)
    omega
   refine ar (ab (af (aa (ae Ll Ll (ae Ll Ll (an jg Ll Ll (jh ha hb (by omega) (by omega) (by rw[bP];exact hb0)) ?_))))))
   rintro v39 w39 ⟨x39,q,r,rfl,bq,br⟩
   rw[bP,bP] at br
   refine ae Ll Ll (ak Ll Ll ep (ak Ll Ll (eq) (ak Ll Ll er (ac Ll Ll (ac Ll Ll (ac Ll Ll (ag (ab ?_))))))))
   refine af (aa (ae Ll Ll (an sX Ll Ll (td (hb.ext x39)) ?_)))
   rintro v45 _ ⟨rfl,hcx⟩
   obtain⟨x,hx,rfl⟩:∃x:UInt64,x.toNat=b∧v45=.tuple #[bj x,B true]:=by
    rw[bP] at hcx
    rcases hcx with⟨h,_⟩|h
    ·omega
    ·exact h
   refine ae Ll Ll (ak Ll Ll aT (ak Ll Ll aU (ac Ll Ll (ac Ll Ll (ag (ab (af (aa (ae Ll Ll (an sX Ll Ll (td br) ?_))))))))))
   rintro v50 _ ⟨rfl,hcy⟩
   obtain⟨y,hy,rfl⟩:∃y:UInt64,y.toNat=a%b∧v50=.tuple #[bj y,B true]:=by
    have:=Nat.mod_lt a hb0
    rw[bP] at hcy
    rcases hcy with⟨h,_⟩|h
    ·omega
    ·exact h
   refine ae Ll Ll (ak Ll Ll aT (ak Ll Ll aU (ac Ll Ll (ac Ll Ll (ag (ab (af (ax ?_))))))))
   refine f4 (fun(x':UInt64) (y':UInt64)=>[(11,bj x'),(13,bj y')]) (fun(x':UInt64) (y':UInt64) w'=>aI w w'∧Nat.gcd x'.toNat y'.toNat=Nat.gcd (val l) (val m)) (fun(x':UInt64) (y':UInt64)=>y'.toNat) (x) (y) ⟨rfl,rfl,trivial⟩ ⟨(e2.trans x39),by rw[hx,hy,←hg,Nat.gcd_comm b,←Nat.gcd_rec,Nat.gcd_comm]⟩ ?_
   rintro x' y' w10 ⟨e10,hxy⟩
   refine af (af (aa (ae Ll Ll (ai (v:=bj 0) Ll Ll Ll (cu) (ag (ab ?_))))))
   refine bi Ll (fun h54=>?_) (fun h54=>?_)
   ·have hy0:0<y'.toNat:=AW.1 h54
    have hyn:y'≠0:=fun h=>by
     rw[h] at hy0
     exact absurd hy0 (by decide)
    refine ar (ab (ax (bz 5 [11,58] (by kernel_rfl) (by kernel_rfl) ?_)))
    refine ap Ll Ll (ap Ll Ll (ap Ll Ll (aS Ll Ll Ll (fun w _=>iC hyn) (eo Ll Ll (bF ?_)))))
    intro wg11 xg11
    rintro _ rfl
    rintro _ rfl
    refine ac Ll Ll (ag (aJ ?_))
    refine d9 (y') (x'%y') ⟨rfl,rfl,trivial⟩ ⟨(e10.trans xg11),by rw[UInt64.toNat_mod,←hxy,Nat.gcd_comm y'.toNat,←Nat.gcd_rec,Nat.gcd_comm]⟩ (by rw[UInt64.toNat_mod];exact Nat.mod_lt _ hy0)
   ·have hy0:y'.toNat=0:=by
     have:=mt AW.2 h54
     have e:(0:UInt64).toNat=0:=rfl
     omega
    refine aY (aB (aB (aX (ab (af (aa (ae Ll Ll (an yL Ll Ll (yN) ?_))))))))
    rintro v60 w60 ⟨x60,b60⟩
    refine ac Ll Ll (ag (ab (av (aG Ll Ll ?_))))
    exact⟨_,rfl,(e10.trans x60),by rw[←hxy,hy0,Nat.gcd_zero_right];exact b60⟩
end Go.Rl
namespace Go.Rl
def FW:Nat→Nat→List UInt8
 |0,n=>[UInt8.ofNat n]
 |f+1,n=>if 128≤n then UInt8.ofNat (n%128+128)::FW f (n/128) else[UInt8.ofNat n]
def uv (n:Nat):List UInt8:=FW n n
theorem FX:∀(f g n:Nat),n≤f→n≤g→FW f n=FW g n
 |0,0,n,_,_=>rfl
 |0,g+1,n,h,_=>by
  obtain rfl:n=0:=by omega
  simp[FW]
 |f+1,0,n,_,h=>by
  obtain rfl:n=0:=by omega
  simp[FW]
 |f+1,g+1,n,hf,hg=>by
  simp only[FW]
  by_cases h:128≤n
  ·rw[if_pos h,if_pos h,FX f g (n/128) (by omega) (by omega)]
  ·rw[if_neg h,if_neg h]
theorem qy {n:Nat} (h:128≤n):uv n=UInt8.ofNat (n%128+128)::uv (n/128):=by
 unfold uv
 cases n with
 |zero=>omega
 |succ m=>
  have e:FW (m+1) (m+1)=if 128≤m+1 then UInt8.ofNat ((m+1)%128+128)::FW m ((m+1)/128) else[UInt8.ofNat (m+1)]:=rfl
  rw[e,if_pos h,FX m ((m+1)/128) ((m+1)/128) (by omega) (by omega)]
theorem ii {n:Nat} (h:n<128):uv n=[UInt8.ofNat n]:=by
 unfold uv
 cases n with
 |zero=>rfl
 |succ m=>
  have e:FW (m+1) (m+1)=if 128≤m+1 then UInt8.ofNat ((m+1)%128+128)::FW m ((m+1)/128) else[UInt8.ofNat (m+1)]:=rfl
  rw[e,if_neg (by omega)]
theorem IH:∀(k n:Nat),n<128^(k+1)→(uv n).length≤k+1
 |0,n,h=>by rw[ii (by simpa using h)];simp
 |k+1,n,h=>by
  by_cases h1:128≤n
  ·rw[qy h1]
   have:=IH k (n/128) (by rw[Nat.div_lt_iff_lt_mul (by omega)];rw[Nat.pow_succ] at h;exact h)
   simp;omega
  ·rw[ii (by omega)];simp
theorem ft {n:Nat} (h:n<18446744073709551616):(uv n).length≤10:=IH 9 n (Nat.lt_of_lt_of_le h (by decide))
theorem xq (n:Nat):1≤(uv n).length:=by
 by_cases h:128≤n
 ·rw[qy h];simp
 ·rw[ii (by omega)];simp
theorem DY (n:UInt64):n.toUInt8|||128=UInt8.ofNat (n.toNat%128+128):=by
 apply UInt8.toNat_inj.1
 have h:∀a:Nat,a<256→a|||128=a%128+128:=by decide+kernel
 rw[UInt8.toNat_or,UInt8.toNat_ofNat',UInt64.toNat_toUInt8]
 have:=h (n.toNat%256) (by omega)
 show n.toNat%256|||128=_
 rw[this];omega
theorem yZ (n:UInt64):n.toUInt8=UInt8.ofNat n.toNat:=by
 apply UInt8.toNat_inj.1
 rw[UInt8.toNat_ofNat',UInt64.toNat_toUInt8]
theorem FY (m:UInt64):(m%128+128).toUInt8=UInt8.ofNat (m.toNat%128+128):=by
 apply UInt8.toNat_inj.1
 rw[UInt64.toNat_toUInt8,UInt8.toNat_ofNat',UInt64.toNat_add,UInt64.toNat_mod]
 have e1:(128:UInt64).toNat=128:=rfl
 rw[e1];omega
theorem J8 (n:UInt64):(n>>>UInt64.ofNat 7).toNat=n.toNat/128:=by
 rw[UInt64.toNat_shiftRight,Nat.shiftRight_eq_div_pow]
 rfl
end Go.Rl
namespace Go.Rl
def ln:Nat→Nat→List UInt8→Option (Nat×List UInt8)
 |0,_,_=>none
 |_+1,_,[]=>none
 |f+1,k,c::l=>
  if (k=9∧1<c.toNat)∨(0<k∧c.toNat=0) then none
  else if c.toNat<128 then some (c.toNat*128^k,l)
  else(ln f (k+1) l).map fun p=>(p.1+(c.toNat%128)*128^k,p.2)
def db (l:List UInt8):Option (Nat×List UInt8):=ln 10 0 l
theorem mH (f k:Nat):ln f k []=none:=by cases f<;>rfl
theorem tn (n:Nat) (h:n<256):(UInt8.ofNat n).toNat=n:=by rw[UInt8.toNat_ofNat'];omega
theorem CF:∀(f k n:Nat) (t:List UInt8),f+k=10→n<128^f→(k≤9→n*128^k<18446744073709551616)→0<f→(0<k→0<n)→
 ln f k (uv n++t)=some (n*128^k,t)
 |0,_,_,_,_,_,_,h,_=>by omega
 |f+1,k,n,t,hfk,hn,h64,_,hk0=>by
  by_cases hb:128≤n
  ·rw[qy hb,List.cons_append]
   have e1:(UInt8.ofNat (n%128+128)).toNat=n%128+128:=tn _ (by omega)
   have hk9:k≠9:=fun hk=>by
    subst hk
    have:f=0:=by omega
    subst this
    simp at hn
    omega
   have hf:0<f:=by omega
   simp only[ln,e1]
   rw[if_neg (by omega),if_neg (by omega)]
   have hlt:n/128<128^f:=by rw[Nat.div_lt_iff_lt_mul (by omega)];rw[Nat.pow_succ] at hn;exact hn
   have hp:128^(k+1)=128^k*128:=Nat.pow_succ ..
   have hm:n/128*128≤n:=Nat.div_mul_le_self n 128
   have hle:n/128*128^(k+1)≤n*128^k:=by
    rw[hp,Nat.mul_comm (128^k) 128,←Nat.mul_assoc]
    exact Nat.mul_le_mul_right _ hm
   rw[CF f (k+1) (n/128) t (by omega) hlt (fun _=>Nat.lt_of_le_of_lt hle (h64 (by omega))) hf (fun _=>by omega)]
   simp only[Option.map_some,Option.some.injEq,Prod.mk.injEq,and_true]
   have e2:(n%128+128)%128=n%128:=by omega
   rw[e2,hp,Nat.mul_comm (128^k) 128,←Nat.mul_assoc,←Nat.add_mul]
   congr 1
   omega
  ·rw[ii (by omega),List.cons_append]
   have e1:(UInt8.ofNat n).toNat=n:=tn _ (by omega)
   simp only[ln,e1,List.nil_append]
   have hk9:¬(k=9∧1<n):=fun⟨hk,hn1⟩=>by
    subst hk
    have:=h64 (by omega)
    have e:(128:Nat)^9=9223372036854775808:=by decide
    rw[e] at this
    omega
   rw[if_neg (by intro h;rcases h with h|h;exact hk9 h;have:=hk0 h.1;omega),if_pos (by omega)]
theorem jD {n:Nat} (h:n<18446744073709551616) (t:List UInt8):db (uv n++t)=some (n,t):=by
 have:=CF 10 0 n t rfl (Nat.lt_of_lt_of_le h (by decide)) (by simpa using h) (by omega) (by omega)
 simpa [db] using this
theorem y4:∀(f k:Nat) (l t:List UInt8) (m:Nat),f+k=10→ln f k l=some (m,t)→∃n,m=n*128^k∧l=uv n++t∧(0<k→0<n)∧n*128^k<18446744073709551616
 |0,_,_,_,_,_,h=>by cases h
 |f+1,k,[],_,_,_,h=>by cases h
 |f+1,k,c::l,t,m,hfk,h=>by
  simp only[ln] at h
  have hc:=c.toNat_lt
  split at h
  ·cases h
  ·rename_i hno
   split at h
   ·rename_i hlt
    simp only[Option.some.injEq,Prod.mk.injEq] at h
    refine⟨c.toNat,h.1.symm,?_,fun hk=>by omega,?_⟩
    ·rw[ii hlt,←h.2]
     simp
    ·have hk:k≤9:=by omega
     rcases Nat.lt_or_ge k 9 with h9|h9
     ·have:c.toNat*128^k≤127*128^8:=Nat.mul_le_mul (by omega) (Nat.pow_le_pow_right (by omega) (by omega))
      have e:127*128^8<18446744073709551616:=by decide
      omega
     ·have:k=9:=by omega
      subst this
      have e:(128:Nat)^9=9223372036854775808:=by decide
      rw[e];omega
   ·rename_i hge
    cases hr:ln f (k+1) l with
    |none=>rw[hr] at h;cases h
    |some p=>
     rw[hr] at h
     simp only[Option.map_some,Option.some.injEq,Prod.mk.injEq] at h
     obtain⟨n,h1,h2,h3,h4⟩:=y4 f (k+1) l p.2 p.1 (by omega) (by rw[hr])
     have hn:0<n:=h3 (by omega)
     have hp:128^(k+1)=128*128^k:=by rw[Nat.pow_succ,Nat.mul_comm]
     have hdiv:(n*128+c.toNat%128)/128=n:=by omega
     have hmod:(n*128+c.toNat%128)%128+128=c.toNat:=by omega
     refine⟨n*128+c.toNat%128,?_,?_,fun _=>by omega,?_⟩
     ·rw[←h.1,h1,hp,Nat.add_mul,←Nat.mul_assoc]
     ·rw[qy (by omega),hdiv,hmod,List.cons_append,←h.2,←h2]
      simp
     ·have hk:k+1≤9:=by
       rcases Nat.lt_or_ge f 1 with hf|hf
       ·have:f=0:=by omega
        subst this
        cases hr
       ·omega
      have hb:n*128^(k+1)=n*128*128^k:=by rw[hp,←Nat.mul_assoc]
      rw[hb] at h4
      have hdvd:18446744073709551616=128^k*(18446744073709551616/128^k):=by
       have:k=0∨k=1∨k=2∨k=3∨k=4∨k=5∨k=6∨k=7∨k=8:=by omega
       rcases this with rfl|rfl|rfl|rfl|rfl|rfl|rfl|rfl|rfl<;>decide
      have hq:18446744073709551616/128^k=128*(18446744073709551616/128^k/128):=by
       have:k=0∨k=1∨k=2∨k=3∨k=4∨k=5∨k=6∨k=7∨k=8:=by omega
       rcases this with rfl|rfl|rfl|rfl|rfl|rfl|rfl|rfl|rfl<;>decide
      have hpos:0<128^k:=Nat.pow_pos (by omega)
      rw[hdvd,Nat.mul_comm] at h4
      have h5:n*128<18446744073709551616/128^k:=Nat.lt_of_mul_lt_mul_left h4
      rw[hdvd,Nat.mul_comm]
      exact Nat.mul_lt_mul_of_pos_left (by omega) hpos
theorem ee {l t:List UInt8} {n:Nat} (h:db l=some (n,t)):l=uv n++t∧n<18446744073709551616:=by
 obtain⟨m,h1,h2,_,h4⟩:=y4 10 0 l t n rfl h
 simp at h1 h4
 subst h1
 exact⟨h2,h4⟩
theorem HV {acc:UInt64} {c:UInt8} {k:Nat} (ha:acc.toNat<128^k) (hk:k≤9) (h9:k=9→c.toNat%128≤1):
 (acc|||((c&&&127).toUInt64<<<UInt64.ofNat (7*k))).toNat=acc.toNat+(c.toNat%128)*128^k:=by
 have hpow:2^(7*k)=128^k:=by rw[Nat.pow_mul]
 have e1:(c&&&127).toUInt64.toNat=c.toNat%128:=by
  rw[UInt8.toNat_toUInt64,UInt8.toNat_and]
  exact Nat.and_two_pow_sub_one_eq_mod c.toNat 7
 have hlt:(c.toNat%128)*128^k<18446744073709551616:=by
  rcases Nat.lt_or_ge k 9 with h|h
  ·have h1:(c.toNat%128)*128^k≤127*128^8:=Nat.mul_le_mul (by omega) (Nat.pow_le_pow_right (by omega) (by omega))
   have e:127*128^8<18446744073709551616:=by decide
   omega
  ·have h':k=9:=by omega
   subst h'
   have:=h9 rfl
   have e:(128:Nat)^9=9223372036854775808:=by decide
   rw[e];omega
 have e2:((c&&&127).toUInt64<<<UInt64.ofNat (7*k)).toNat=(c.toNat%128)<<<(7*k):=by
  rw[UInt64.toNat_shiftLeft,e1]
  have:(UInt64.ofNat (7*k)).toNat%64=7*k:=by rw[UInt64.toNat_ofNat'];omega
  rw[this,Nat.shiftLeft_eq,hpow]
  exact Nat.mod_eq_of_lt hlt
 rw[UInt64.toNat_or,e2,Nat.or_comm,←Nat.shiftLeft_add_eq_or_of_lt (by rw[hpow];exact ha),Nat.shiftLeft_eq,hpow]
 omega
end Go.Rl
namespace Go.Rl
def II (n:Int):Nat:=if 0≤n then(2*n).toNat else(-2*n-1).toNat
theorem ro (n:Int):(UInt64.ofInt n).toNat=(n%18446744073709551616).toNat:=by
 have h2:(2:Int)^64=18446744073709551616:=by decide
 rw[UInt64.ofInt,h2,UInt64.toNat_ofNat'];omega
theorem FZ {n:Int} (h1: -9223372036854775808≤n) (h2:n≤9223372036854775807):
 ((UInt64.ofInt n<<<UInt64.ofNat 1)^^^UInt64.ofInt (n/2^63)).toNat=II n:=by
 have e0:(2:Int)^63=9223372036854775808:=by decide
 have es:(UInt64.ofInt n<<<UInt64.ofNat 1).toNat=(UInt64.ofInt n).toNat*2%18446744073709551616:=by
  rw[UInt64.toNat_shiftLeft,Nat.shiftLeft_eq];rfl
 rw[ro] at es
 unfold II
 by_cases hn:0≤n
 ·have hq:n/2^63=0:=by rw[e0];omega
  have hz:UInt64.ofInt (n/2^63)=0:=by rw[hq];rfl
  rw[hz,UInt64.xor_zero,es,if_pos hn];omega
 ·have hq:n/2^63= -1:=by rw[e0];omega
  have hz:UInt64.ofInt (n/2^63)= -1:=by rw[hq];rfl
  rw[hz,if_neg hn]
  have hx:∀a:UInt64,a^^^(-1)= ~~~a:=fun a=>by
   apply UInt64.toBitVec_inj.1
   rw[UInt64.toBitVec_xor,UInt64.toBitVec_not]
   have:(-1:UInt64).toBitVec=BitVec.allOnes 64:=by decide
   rw[this,BitVec.xor_allOnes]
  rw[hx,UInt64.toNat_not,es]
  have:UInt64.size=18446744073709551616:=rfl
  omega
theorem Jh {n:Int} (h1: -9223372036854775808≤n) (h2:n≤9223372036854775807):II n<18446744073709551616:=by
 unfold II;split<;>omega
end Go.Rl
namespace Go.Rl
open Go.RowKit Go.Proofs
theorem jE:ay Tryz.prog 87:=⟨_,Tryz.func87,by kernel_rfl,rfl⟩
theorem lq:ay Tryz.prog 133:=⟨_,Tryz.func133,by kernel_rfl,rfl⟩
theorem ja:ay Tryz.prog 98:=⟨_,Tryz.func98,by kernel_rfl,rfl⟩
theorem tq:ay Tryz.prog 124:=⟨_,Tryz.func124,by kernel_rfl,rfl⟩
theorem dL:ay Tryz.prog 59:=⟨_,Tryz.func59,by kernel_rfl,rfl⟩
theorem jF {w:World} {l:List UInt8} {v:Value} (hv:cm l v w) (hl:l.length≤140737488355328):
 Calls Tryz.prog 87 #[v] w (bE fun r w'=>aI w w'∧cG w.heap.size l r w'):=by
 obtain⟨A,n,c,rfl,hnc,hcm,hll,hc,hnone⟩:=id hv
 refine enter (vs:=[.slice A n c]) Tryz.func87 Ll Ll Ll ?_
 refine af (aa (ac Ll Ll (ag (ab (af (af (aa (ae Ll Ll ?_))))))))
 refine ai Ll Ll Ll (xe KQ) ?_
 refine ag (ab ?_)
 refine fS Ll (fun h=>?_) (fun h=>?_)
 ·refine af (aa (ac Ll Ll (ag (ab (av (au ?_))))))
  refine aG Ll Ll ?_
  have hA:A=none:=by simpa using h
  have:=hnone hA
  have hnil:l=[]:=List.eq_nil_of_length_eq_zero (by simp at hll;omega)
  subst hnil
  exact⟨_,rfl,aI.refl _,cG.nil _ _⟩
 ·refine ar (ab (af (aa ?_)))
  obtain⟨r5,w5,hr5,hx5,ho5,hb5⟩:=fE (w:=w) w.heap.size [] (by simp) (Nat.le_refl _)
  refine aO Ll Ll hr5 ?_
  refine ae Ll Ll ?_
  obtain⟨r7,w7,hr7,ho7,hg7⟩:=dn (ty:=28) ho5 (hv.ext hx5) (by simpa using hl) hx5.size
  refine bc Ll Ll hr7 ?_
  refine ac Ll Ll (ag (ab (av ?_)))
  refine aG Ll Ll ?_
  exact⟨_,rfl,hx5.of_grew hg7 ho5.ge,ho7⟩
theorem lr {w:World} {base:Nat} {l:List UInt8} {v:Value} {n:UInt64} (hv:cG base l v w) (hl:l.length≤70368744177664) (hbase:base≤w.heap.size):
 Calls Tryz.prog 133 #[v,bj n] w (bE fun r w'=>cG base (l++uv n.toNat) r w'∧gw w w' v r):=by
 refine enter (vs:=[v,bj n]) Tryz.func133 Ll Ll Ll ?_
 refine af (aa (ac Ll Ll (ag (ab (af (ax ?_))))))
 refine bZ (α:=Value×UInt64×List UInt8) (fun x=>[(0,x.1),(1,bj x.2.1)]) (fun x w'=>cG base x.2.2 x.1 w'∧gw w w' v x.1∧x.2.2++uv x.2.1.toNat=l++uv n.toNat) (fun x=>x.2.1.toNat) (v,n,l) ⟨rfl,rfl,trivial⟩ ⟨hv,gw.of_ext (aI.refl w) (.inl Ll),rfl⟩ ?_
 rintro⟨b,m,done⟩ w1 ⟨hb,hg,he⟩
 dsimp only at hb hg he
 have hdl:done.length≤l.length+10:=by
  have:=congrArg List.length he
  simp only[List.length_append] at this
  have:=ft (n:=n.toNat) n.toNat_lt
  omega
 have hb1:base≤w1.heap.size:=Nat.le_trans hbase hg.grown.size
 refine af (af (aa (ae Ll Ll ?_)))
 refine ai (v:=bj 128) Ll Ll Ll (fJ) ?_
 refine ag (ab ?_)
 refine bi Ll (fun h=>?_) (fun h=>?_)
 ·have h':128≤m.toNat:=by simpa [UInt64.le_iff_toNat_le] using h
  refine ar (ab (af (ax (aa (ae Ll Ll (ae Ll Ll ?_))))))
  refine aR Ll Ll (ko KN KS) ?_
  refine ai (v:=U8 128) Ll Ll Ll (HK) ?_
  obtain⟨r2,w2,hr2,hx2,ho2,_⟩:=fE (w:=w1) w1.heap.size [m.toUInt8|||128] (by simp) (Nat.le_refl _)
  refine aO Ll Ll hr2 ?_
  obtain⟨r3,w3,hr3,ho3,hg3⟩:=dn (ty:=28) (hb.ext hx2) ho2.bts (by simp;omega) (Nat.le_trans hb1 hx2.size)
  refine bc Ll Ll hr3 ?_
  refine ac Ll Ll (ag (aJ (ab (aa (ae Ll Ll ?_)))))
  refine ai Ll Ll Ll (dz 7 (by omega)) ?_
  refine ac Ll Ll (ag ?_)
  refine bQ (r3,m>>>UInt64.ofNat 7,done++[m.toUInt8|||128]) ⟨rfl,rfl,trivial⟩ ⟨ho3,hg.trans (gw.before hx2 hg3),?_⟩ ?_
  ·show done++[m.toUInt8|||128]++uv (m>>>UInt64.ofNat 7).toNat=_
   rw[←he,qy h',DY,J8];simp
  ·show(m>>>UInt64.ofNat 7).toNat<m.toNat
   rw[J8];omega
 ·have h':m.toNat<128:=by
   have:¬(128≤m.toNat):=fun hh=>h (by show(128:UInt64)≤m;rw[UInt64.le_iff_toNat_le];exact hh)
   omega
  refine aY (aB (aB (aX (ab (af (aa (ae Ll Ll (ae Ll Ll ?_))))))))
  refine aR Ll Ll (ko KN KS) ?_
  obtain⟨r2,w2,hr2,hx2,ho2,_⟩:=fE (w:=w1) w1.heap.size [m.toUInt8] (by simp) (Nat.le_refl _)
  refine aO Ll Ll hr2 ?_
  obtain⟨r3,w3,hr3,ho3,hg3⟩:=dn (ty:=28) (hb.ext hx2) ho2.bts (by simp;omega) (Nat.le_trans hb1 hx2.size)
  refine bc Ll Ll hr3 ?_
  refine ac Ll Ll (ag (ab (av ?_)))
  refine aG Ll Ll ?_
  refine⟨_,rfl,?_,hg.trans (gw.before hx2 hg3)⟩
  rw[←he,ii h',←yZ]
  exact ho3
theorem jb {w:World} {l:List UInt8} {v:Value} {n:UInt64} (hv:cm l v w) (hl:l.length≤70368744177664):
 Calls Tryz.prog 98 #[v,bj n] w (bE fun r w'=>aI w w'∧cG w.heap.size (l++uv n.toNat) r w'):=by
 refine enter (vs:=[v,bj n]) Tryz.func98 Ll Ll Ll ?_
 refine af (aa (ac Ll Ll (ag (ab (af (aa (ae Ll Ll ?_)))))))
 refine an jE Ll Ll (jF hv (by omega)) ?_
 rintro r1 w1 ⟨hx1,ho1⟩
 refine ae Ll Ll ?_
 refine an lq Ll Ll (lr ho1 hl hx1.size) ?_
 rintro r2 w2 ⟨ho2,hg2⟩
 refine ac Ll Ll (ag (ab (av ?_)))
 refine aG Ll Ll ?_
 exact⟨_,rfl,hx1.of_grew hg2 ho1.ge,ho2⟩
theorem tt {w:World} {l:List UInt8} {v:Value} {n:Int} (hv:cm l v w) (hl:l.length≤70368744177664) (h1: -9223372036854775808≤n) (h2:n≤9223372036854775807):
 Calls Tryz.prog 124 #[v,I n] w (bE fun r w'=>aI w w'∧cG w.heap.size (l++uv (II n)) r w'):=by
 refine enter (vs:=[v,I n]) Tryz.func124 Ll Ll Ll ?_
 refine af (aa (ac Ll Ll (ag (ab (af (aa (ae Ll Ll ?_)))))))
 refine an jE Ll Ll (jF hv (by omega)) ?_
 rintro r1 w1 ⟨hx1,ho1⟩
 refine ae Ll Ll ?_
 refine aR Ll Ll (xc KO KN) ?_
 refine ai Ll Ll Ll (fL 1 (by omega)) ?_
 refine ae Ll Ll ?_
 refine ai Ll Ll Ll (HI 63 (by omega)) ?_
 refine aR Ll Ll (xc KO KN) ?_
 refine ai Ll Ll Ll (Dr) ?_
 refine an lq Ll Ll (lr ho1 hl hx1.size) ?_
 rintro r2 w2 ⟨ho2,hg2⟩
 refine ac Ll Ll (ag (ab (av ?_)))
 refine aG Ll Ll ?_
 rw[FZ h1 h2] at ho2
 exact⟨_,rfl,hx1.of_grew hg2 ho1.ge,ho2⟩
theorem dM {w:World} {l:List UInt8} {v:Value} {n:UInt64} (hv:cm l v w) (hl:l.length≤70368744177664):
 Calls Tryz.prog 59 #[v,bj n] w (bE fun r w'=>aI w w'∧cG w.heap.size (l++uv n.toNat) r w'):=by
 refine enter (vs:=[v,bj n]) Tryz.func59 Ll Ll Ll ?_
 refine af (aa (ac Ll Ll (ag (ab (af (aa ?_))))))
 obtain⟨r0,w0,hr0,hx0,ho0,_⟩:=fE (w:=w) w.heap.size [] (by simp) (Nat.le_refl _)
 refine aO Ll Ll hr0 ?_
 refine ae Ll Ll ?_
 obtain⟨r1,w1,hr1,ho1,hg1⟩:=dn (ty:=28) ho0 (hv.ext hx0) (by simp;omega) hx0.size
 refine bc Ll Ll hr1 ?_
 have hx1:aI w w1:=hx0.of_grew hg1 ho0.ge
 refine ac Ll Ll (ag (ab (af (ax ?_))))
 refine bZ (α:=Value×UInt64×List UInt8) (fun x=>[(5,x.1),(1,bj x.2.1)]) (fun x w'=>cG w.heap.size x.2.2 x.1 w'∧aI w w'∧x.2.2++uv x.2.1.toNat=l++uv n.toNat) (fun x=>x.2.1.toNat) (r1,n,l) ⟨rfl,rfl,trivial⟩ ⟨ho1,hx1,rfl⟩ ?_
 rintro⟨b,m,done⟩ w2 ⟨hb,hx2,he⟩
 dsimp only at hb hx2 he
 have hdl:done.length≤l.length+10:=by
  have:=congrArg List.length he
  simp only[List.length_append] at this
  have:=ft (n:=n.toNat) n.toNat_lt
  omega
 refine af (af (aa (ae Ll Ll ?_)))
 refine ai (v:=bj 128) Ll Ll Ll (fJ) ?_
 refine ag (ab ?_)
 refine bi Ll (fun h=>?_) (fun h=>?_)
 ·have h':128≤m.toNat:=by simpa [UInt64.le_iff_toNat_le] using h
  refine ar (ab (ax (af (aa (ae Ll Ll (ae Ll Ll ?_))))))
  refine ai (v:=bj 128) Ll Ll Ll (iC (by decide)) ?_
  refine ai (v:=bj 128) Ll Ll Ll (dw) ?_
  refine aR Ll Ll (ko KN KS) ?_
  obtain⟨r3,w3,hr3,hx3,ho3,_⟩:=fE (w:=w2) w2.heap.size [(m%128+128).toUInt8] (by simp) (Nat.le_refl _)
  refine aO Ll Ll hr3 ?_
  obtain⟨r4,w4,hr4,ho4,hg4⟩:=dn (ty:=28) (hb.ext hx3) ho3.bts (by simp;omega) (Nat.le_trans hx2.size hx3.size)
  refine bc Ll Ll hr4 ?_
  refine ac Ll Ll (ag (ab (aa (ae Ll Ll ?_))))
  refine ai (v:=bj 128) Ll Ll Ll (gL (by decide)) ?_
  refine ac Ll Ll (ag (aJ ?_))
  have hm:(m/128).toNat=m.toNat/128:=by rw[UInt64.toNat_div];rfl
  refine bQ (r4,m/128,done++[(m%128+128).toUInt8]) ⟨rfl,rfl,trivial⟩ ⟨ho4,(hx2.trans hx3).of_grew hg4 hb.ge,?_⟩ ?_
  ·show done++[(m%128+128).toUInt8]++uv (m/128).toNat=_
   rw[←he,qy h',hm,FY];simp
  ·show(m/128).toNat<m.toNat
   rw[hm];omega
 ·have h':m.toNat<128:=by
   have:¬(128≤m.toNat):=fun hh=>h (by show(128:UInt64)≤m;rw[UInt64.le_iff_toNat_le];exact hh)
   omega
  refine aY (aB (aB (aX (ab (af (aa (ae Ll Ll (ae Ll Ll ?_))))))))
  refine aR Ll Ll (ko KN KS) ?_
  obtain⟨r3,w3,hr3,hx3,ho3,_⟩:=fE (w:=w2) w2.heap.size [m.toUInt8] (by simp) (Nat.le_refl _)
  refine aO Ll Ll hr3 ?_
  obtain⟨r4,w4,hr4,ho4,hg4⟩:=dn (ty:=28) (hb.ext hx3) ho3.bts (by simp;omega) (Nat.le_trans hx2.size hx3.size)
  refine bc Ll Ll hr4 ?_
  refine ac Ll Ll (ag (ab (av ?_)))
  refine aG Ll Ll ?_
  refine⟨_,rfl,(hx2.trans hx3).of_grew hg4 hb.ge,?_⟩
  rw[←he,ii h',←yZ]
  exact ho4
end Go.Rl
namespace Go.Rl
open Go.RowKit Go.Proofs
theorem y5:ay Tryz.prog 109:=⟨_,Tryz.func109,by kernel_rfl,rfl⟩
theorem iE:ay Tryz.prog 175:=⟨_,Tryz.func175,by kernel_rfl,rfl⟩
theorem iF:ay Tryz.prog 145:=⟨_,Tryz.func145,by kernel_rfl,rfl⟩
theorem jZ:ay Tryz.prog 144:=⟨_,Tryz.func144,by kernel_rfl,rfl⟩
theorem gP:ay Tryz.prog 111:=⟨_,Tryz.func111,by kernel_rfl,rfl⟩
theorem y6:(Tryz.prog.info? 227).map (·.zero)=some (some (.agg #[.slice none 0 0,.bool false])):=by kernel_rfl
theorem cq:(Tryz.prog.info? 28).map (·.size)=some 1:=by kernel_rfl
theorem ga:(Tryz.prog.info? 4).map (·.size)=some 1:=by kernel_rfl
def pz (A:Option Addr) (g:Nat):Prop:=∀ad,A=some ad→ad.block<g
theorem pz.none (g:Nat):pz none g:=fun _ h=>by cases h
theorem rt {A:Option Addr} {n c:Nat} {lo hi mx:Option Value} {r:Value} {w w':World} (hrun:(Instr.sliceAt 28 (.slice A n c) lo hi mx).run Tryz.prog w=.ok r w'):∃A' n' c',r=.slice A' n' c'∧∀g,pz A g→pz A' g:=by
 simp only[Instr.sliceAt,Instr.slice,Sem.run_bind,run_underlying Tryz.underlying28,Result.andThen_ok] at hrun
 cases hb:(Instr.sliceBounds true n c lo hi mx).run Tryz.prog w with
 |halt x w1=>rw[hb] at hrun;simp[Result.andThen] at hrun
 |ok p w1=>
  obtain⟨l,h,m⟩:=p
  rw[hb] at hrun
  simp only[Result.andThen_ok,dJ fO] at hrun
  simp at hrun
  obtain⟨rfl,rfl⟩:=hrun
  refine⟨_,_,_,rfl,fun g hg=>?_⟩
  split
  ·exact hg
  ·intro ad had
   cases A with
   |none=>cases had
   |some a0=>
    obtain rfl:=Option.some.inj had
    show(a0.add _).block<g
    rw[jo]
    exact hg a0 rfl
theorem tu {A:Option Addr} {n c g:Nat} {lo hi mx:Option Value} {r:Value} {w w':World} (hrun:(Instr.sliceAt 28 (.slice A n c) lo hi mx).run Tryz.prog w=.ok r w') (h:pz A g):∀A n c,r=.slice A n c→pz A g:=fun _ _ _ e=>by
 obtain⟨A',n',c',h1,h2⟩:=rt hrun
 rw[h1] at e
 cases e
 exact h2 g h
def bb (g:Nat) (st:Option (List UInt8)) (w:World):Prop:=
 ∃A n c,w.heap[g]? =some (.cells #[.slice A n c,.bool st.isNone] 227 (0,0))∧cm (st.getD []) (.slice A n c) w∧pz A g
theorem bb.ext {g:Nat} {st:Option (List UInt8)} {w w':World} (h:bb g st w) (hx:aI w w'):bb g st w':=by
 obtain⟨A,n,c,h1,h2,h3⟩:=h
 exact⟨A,n,c,hx.heap_some h1,h2.ext hx,h3⟩
theorem vy (A:Option Addr) (n c:Nat) (b:Bool) (l:List UInt8):∀(j:Nat) (u:Value),u∈l.map U8→(#[.slice A n c,.bool b]:Array Value)[j]? ≠some u:=by
 intro j u hu
 obtain⟨x,_,rfl⟩:=List.mem_map.1 hu
 match j with
 |0=>simp[U8]
 |1=>simp[U8]
 |j+2=>simp
theorem cm.reader {l:List UInt8} {v:Value} {g:Nat} {st:Option (List UInt8)} {w w':World} (h:cm l v w) (hr:bb g st w) (hw:w.grownBy w' (some g)):cm l v w':=by
 obtain⟨A,n,c,h1,_⟩:=hr
 exact Sl.keep h h1 (vy A n c _ l) hw
section
variable {w:World} {g:Nat} {l:List UInt8}
theorem dE {w':World} {row:Option Nat} (h:aI w w'):w.grownBy w' row:=⟨h.os,h.tape,h.output,h.size,fun _ hi _=>h.heap hi⟩
theorem ji (w:World) (row:Option Nat):w.grownBy w row:=World.grownBy.refl w row
theorem y7 {v:Value} (hv:cm l v w) (hl:l.length≤140737488355328):
 Calls Tryz.prog 109 #[v] w (bE fun r w'=>aI w w'∧∃g,w.heap.size≤g∧r=.pointer (some ⟨g,0,none⟩)∧bb g (some l) w'):=by
 refine enter (vs:=[v]) Tryz.func109 Ll Ll Ll ?_
 refine af (aa (ac Ll Ll (ag (ab (af (aa (ae Ll Ll ?_)))))))
 refine an jE Ll Ll (jF hv hl) ?_
 rintro r1 w1 ⟨hx1,ho1⟩
 obtain⟨A,n,c,rfl,_⟩:=id ho1.bts
 refine bm Ll Ll (r:=.agg #[.slice A n c,.bool false]) (by simp[Instr.build,run_underlying Tryz.underlying227,qp y6,dJ cq,dJ ga,Instr.fill,Value.cells]) ?_
 refine cL Ll Ll nU ?_
 refine ac Ll Ll (ag (ab (av ?_)))
 refine aG Ll Ll ?_
 exact⟨_,rfl,hx1.trans (aI.new _ _),w1.heap.size,hx1.size,rfl,A,n,c,heap_alloc_new _ _,ho1.bts.ext (aI.new _ _),fun ad had=>ho1.elim fun _ h=>(World.ownsRow.lt h ad.block (by rw[had];rfl)).2⟩
theorem iG {st:Option (List UInt8)} (hr:bb g st w):
 Calls Tryz.prog 145 #[.pointer (some ⟨g,0,none⟩)] w (bE fun r w'=>r=I 5∧bb g none w'∧w.grownBy w' (some g)):=by
 obtain⟨A,n,c,h1,_⟩:=hr
 refine enter (vs:=[.pointer (some ⟨g,0,none⟩)]) Tryz.func145 Ll Ll Ll ?_
 refine af (aa (ac Ll Ll (ag (ab (af (aa (ae Ll Ll (ae Ll Ll ?_))))))))
 refine aH Ll Ll ?_
 refine ah Ll Ll (cB K9 Ll cq (by omega)) ?_
 refine aq Ll Ll (dv cq Ll h1 (by simp)) ?_
 refine aH Ll Ll ?_
 refine ah Ll Ll (cB K9 Ll ga (by omega)) ?_
 have h2:=j9 h1 0 (.slice none 0 0)
 refine aq Ll Ll (dv (i:=1) ga Ll h2 (by simp)) ?_
 have h3:=j9 h2 1 (.bool true)
 refine ag (ab (af (aa (ac Ll Ll (ag (ab (av ?_)))))))
 refine aG Ll Ll ?_
 exact⟨_,rfl,rfl,⟨none,0,0,h3,cm.nil _,pz.none g⟩,(ba w g 0 _).trans (ba _ g 1 _)⟩
theorem ru {n:UInt64} (hr:bb g none w):
 Calls Tryz.prog 175 #[.pointer (some ⟨g,0,none⟩),bj n] w (bE fun r w'=>r=.tuple #[.slice none 0 0,B false]∧w'=w):=by
 obtain⟨A,m,c,h1,_⟩:=hr
 refine enter (vs:=[.pointer (some ⟨g,0,none⟩),bj n]) Tryz.func175 Ll Ll Ll ?_
 refine af (aa (ac Ll Ll (ac Ll Ll (ag (ab (af (af (aa (ae Ll Ll ?_)))))))))
 refine aH Ll Ll ?_
 refine ah Ll Ll (cB K9 Ll ga (by omega)) ?_
 refine am Ll Ll (aj KU Ll (i9 (i:=1) h1 Ll)) ?_
 refine ae Ll Ll ?_
 refine ao Ll Ll Ll ?_
 refine ao Ll Ll Ll ?_
 refine ao Ll Ll Ll ?_
 refine ao Ll Ll Ll ?_
 refine ao Ll Ll Ll ?_
 refine ao Ll Ll Ll ?_
 refine ao Ll Ll Ll ?_
 refine ao Ll Ll Ll ?_
 refine aw Ll Ll Ll ?_
 refine ag (ab ?_)
 refine bB Ll ?_
 refine af (aa (ac Ll Ll (ac Ll Ll (ag (ab (av (au ?_)))))))
 refine aM Ll Ll Ll ?_
 exact⟨_,rfl,rfl,rfl⟩
theorem CG (h:l.length≤9223372036854775807):(UInt64.ofNat l.length).toNat=l.length:=by rw[UInt64.toNat_ofNat'];omega
theorem CH {n:UInt64} (hr:bb g (some l) w) (hn:l.length<n.toNat):
 Calls Tryz.prog 175 #[.pointer (some ⟨g,0,none⟩),bj n] w (bE fun r w'=>r=.tuple #[.slice none 0 0,B false]∧w'=w):=by
 obtain⟨A,m,c,h1,h2,_⟩:=hr
 have h2':cm l (.slice A m c) w:=h2
 refine enter (vs:=[.pointer (some ⟨g,0,none⟩),bj n]) Tryz.func175 Ll Ll Ll ?_
 refine af (aa (ac Ll Ll (ac Ll Ll (ag (ab (af (af (aa (ae Ll Ll ?_)))))))))
 refine aH Ll Ll ?_
 refine ah Ll Ll (cB K9 Ll ga (by omega)) ?_
 refine am Ll Ll (aj KU Ll (i9 (i:=1) h1 Ll)) ?_
 refine ae Ll Ll ?_
 refine al Ll (ae Ll Ll (al Ll (ae Ll Ll ?_)))
 refine al Ll (aH Ll Ll ?_)
 refine al Ll (ah Ll Ll (cB K9 Ll cq (by omega)) ?_)
 refine al Ll (am Ll Ll (aj KQ Ll (i9 (i:=0) h1 Ll)) ?_)
 refine al Ll (aQ Ll Ll (bC h2') ?_)
 refine al Ll (aR Ll Ll (cN KO KN) ?_)
 refine al Ll (ai Ll Ll Ll (cg (by show _<n;rw[UInt64.lt_iff_toNat_lt,CG h2'.len];exact hn) cu) ?_)
 refine aC Ll Ll Ll ?_
 refine ag (ab ?_)
 refine bB Ll ?_
 refine af (aa (ac Ll Ll (ac Ll Ll (ag (ab (av (au ?_)))))))
 refine aM Ll Ll Ll ?_
 exact⟨_,rfl,rfl,rfl⟩
theorem tw {n:UInt64} (hr:bb g (some l) w) (hn:n.toNat≤l.length):
 Calls Tryz.prog 175 #[.pointer (some ⟨g,0,none⟩),bj n] w
  (bE fun r w'=>∃b,r=.tuple #[b,B true]∧cm (l.take n.toNat) b w'∧bb g (some (l.drop n.toNat)) w'∧w.grownBy w' (some g)):=by
 obtain⟨A,m,c,h1,h2,h4⟩:=hr
 have h2':cm l (.slice A m c) w:=h2
 refine enter (vs:=[.pointer (some ⟨g,0,none⟩),bj n]) Tryz.func175 Ll Ll Ll ?_
 refine af (aa (ac Ll Ll (ac Ll Ll (ag (ab (af (af (aa (ae Ll Ll ?_)))))))))
 refine aH Ll Ll ?_
 refine ah Ll Ll (cB K9 Ll ga (by omega)) ?_
 refine am Ll Ll (aj KU Ll (i9 (i:=1) h1 Ll)) ?_
 refine ae Ll Ll ?_
 refine al Ll (ae Ll Ll (al Ll (ae Ll Ll ?_)))
 refine al Ll (aH Ll Ll ?_)
 refine al Ll (ah Ll Ll (cB K9 Ll cq (by omega)) ?_)
 refine al Ll (am Ll Ll (aj KQ Ll (i9 (i:=0) h1 Ll)) ?_)
 refine al Ll (aQ Ll Ll (bC h2') ?_)
 refine al Ll (aR Ll Ll (cN KO KN) ?_)
 refine al Ll (ai Ll Ll Ll (cf (by show ¬_<n;rw[UInt64.lt_iff_toNat_lt,CG h2'.len];omega) cu) ?_)
 refine aC Ll Ll Ll ?_
 refine ag (ab ?_)
 refine cp Ll ?_
 refine ar (ab (af (aa (ae Ll Ll ?_))))
 refine aH Ll Ll ?_
 refine ah Ll Ll (cB K9 Ll cq (by omega)) ?_
 refine am Ll Ll (aj KQ Ll (i9 (i:=0) h1 Ll)) ?_
 refine ae Ll Ll ?_
 obtain⟨b,hb,hb2⟩:=ie h2' hn .u64
 refine cw (b:=some (bj n)) Ll Ll Ll Ll Ll (hb _) ?_
 refine ac Ll Ll (ag (ab (af (aa (ae Ll Ll (ae Ll Ll ?_))))))
 refine aH Ll Ll ?_
 refine ah Ll Ll (cB K9 Ll cq (by omega)) ?_
 refine am Ll Ll (aj KQ Ll (i9 (i:=0) h1 Ll)) ?_
 refine ae Ll Ll ?_
 obtain⟨r,hr,hr2⟩:=fp h2' hn .u64
 refine cw (a:=some (bj n)) Ll Ll Ll Ll Ll (hr _) ?_
 refine aH Ll Ll ?_
 refine ah Ll Ll (cB K9 Ll cq (by omega)) ?_
 obtain⟨A',m',c',rfl,h5⟩:=rt (hr w)
 refine aq Ll Ll (dv (i:=0) cq Ll h1 (by simp)) ?_
 have h3:=j9 h1 0 (.slice A' m' c')
 have hg:=ba w g 0 (.slice A' m' c')
 refine ag (ab (af (aa (ae Ll Ll (ac Ll Ll (ac Ll Ll (ag (ab (av ?_)))))))))
 refine aM Ll Ll Ll ?_
 have hrd:bb g (some l) w:=⟨A,m,c,h1,h2,h4⟩
 exact⟨_,rfl,b,rfl,hb2.reader hrd hg,⟨A',m',c',h3,hr2.reader hrd hg,h5 g h4⟩,hg⟩
def UvR (g:Nat) (w:World) (o:Option (Nat×List UInt8)) (r:Value) (w':World):Prop:=
 w.grownBy w' (some g)∧match o with
  |some (n,t)=>r=.tuple #[bj (UInt64.ofNat n),B true]∧bb g (some t) w'
  |none=>r=.tuple #[bj 0,B false]∧∃l',bb g (some l') w'
theorem nW (hr:bb g (some l) w):
 Calls Tryz.prog 144 #[.pointer (some ⟨g,0,none⟩)] w (bE (UvR g w (db l))):=by
 refine enter (vs:=[.pointer (some ⟨g,0,none⟩)]) Tryz.func144 Ll Ll Ll ?_
 refine af (aa (ac Ll Ll (ac Ll Ll (ag (ab (af (af (aa (ac Ll Ll (ag (ab (ax ?_))))))))))))
 refine bZ (α:=Nat×List UInt8×UInt64) (fun x=>[(0,.pointer (some ⟨g,0,none⟩)),(4,I ((7*x.1:Nat):Int)),(2,bj x.2.2)])
  (fun x w'=>bb g (some x.2.1) w'∧w.grownBy w' (some g)∧x.1≤9∧x.2.2.toNat<128^x.1∧db l=(ln (10-x.1) x.1 x.2.1).map fun p=>(p.1+x.2.2.toNat,p.2)) (fun x=>10-x.1)
  (0,l,0) ⟨rfl,rfl,rfl,trivial⟩ ⟨hr,ji _ _,by simp,by simp,by simp[db]⟩ ?_
 rintro⟨k,rest,acc⟩ w1 ⟨hr1,hg1,hk,hacc,hrd⟩
 dsimp only at hr1 hg1 hk hacc hrd
 have hfuel:10-k=(9-k)+1:=by omega
 rw[hfuel] at hrd
 refine af (af (aa (ae Ll Ll ?_)))
 refine ai Ll Ll Ll (cg (by omega) aW) ?_
 refine ag (ab ?_)
 refine bB Ll ?_
 refine ar (ab (af (ax (af (aa (ae Ll Ll ?_))))))
 cases rest with
 |nil=>
  refine an (vs:=[_,bj 1]) iE Ll Ll (CH hr1 (by decide)) ?_
  rintro r2 w2 ⟨rfl,rfl⟩
  refine ae Ll Ll ?_
  refine ak Ll Ll (aT) ?_
  refine ak Ll Ll (aU) ?_
  refine ac Ll Ll (ac Ll Ll (ag (ab (af (af (aa (ae Ll Ll ?_)))))))
  refine bI Ll Ll (bK) ?_
  refine ag (ab ?_)
  refine bB Ll ?_
  refine af (aa (ac Ll Ll (ac Ll Ll (ag (ab (av (au (aV (au (au (aV (au ?_))))))))))))
  refine aM Ll Ll Ll ?_
  refine⟨_,rfl,hg1,?_⟩
  rw[hrd,mH]
  exact⟨rfl,[],hr1⟩
 |cons c t=>
  refine an (vs:=[_,bj 1]) iE Ll Ll (tw hr1 (by simp)) ?_
  rintro r2 w2 ⟨b,rfl,hb,hr2,hg2⟩
  have hb':cm [c] b w2:=hb
  have hr2':bb g (some t) w2:=hr2
  have hg:=hg1.trans hg2
  refine ae Ll Ll ?_
  refine ak Ll Ll (aT) ?_
  refine ak Ll Ll (aU) ?_
  refine ac Ll Ll (ac Ll Ll (ag (ab (af (af (aa (ae Ll Ll ?_)))))))
  refine bI Ll Ll (bK) ?_
  refine ag (ab ?_)
  refine cp Ll ?_
  refine ar (ab (af (aa (ae Ll Ll ?_))))
  obtain⟨ad,had,hcell⟩:=eD hb' (i:=0) (by simp) .i64
  refine aA Ll Ll Ll (had _) ?_
  refine am Ll Ll (IB hcell) ?_
  refine ac Ll Ll (ag (ab (af (af ?_))))
  refine fj (fun _:Unit=>[(0,.pointer (some ⟨g,0,none⟩)),(4,I ((7*k:Nat):Int)),(2,bj acc),(7,U8 c),(35,B (decide ((k=9∧1<c.toNat)∨(0<k∧c.toNat=0))))]) (fun _ w'=>w'=w2) ?_ ?_
  ·refine aa (ae Ll Ll ?_)
   have c1:c>1↔1<c.toNat:=by show 1<c↔_;rw[UInt8.lt_iff_toNat_lt];rfl
   have c0:c=0↔c.toNat=0:=by rw[←UInt8.toNat_inj];rfl
   by_cases h9:k=9
   ·refine ai Ll Ll Ll (cg (by omega) aZ) ?_
    refine ae Ll Ll (al Ll (ae Ll Ll ?_))
    by_cases hc1:1<c.toNat
    ·refine al Ll (ai (v:=U8 1) Ll Ll Ll (cg (c1.2 hc1) pm) ?_)
     refine aw Ll Ll Ll (ae Ll Ll ?_)
     refine ao Ll Ll Ll (ao Ll Ll Ll (ao Ll Ll Ll ?_))
     refine cS Ll Ll Ll (cS Ll Ll Ll (ao Ll Ll Ll ?_))
     refine aw Ll Ll Ll (ag ?_)
     exact cz () ⟨rfl,rfl,rfl,rfl,by rw[decide_eq_true (Or.inl ⟨h9,hc1⟩)];rfl,trivial⟩ rfl
    ·refine al Ll (ai (v:=U8 1) Ll Ll Ll (cf (fun h=>hc1 (c1.1 h)) pm) ?_)
     refine aw Ll Ll Ll (ae Ll Ll ?_)
     refine al Ll (ae Ll Ll (al Ll (ai Ll Ll Ll (cg (by omega) ck) ?_)))
     refine al Ll (ae Ll Ll (al Ll (ae Ll Ll ?_)))
     refine al Ll (ai (v:=U8 0) Ll Ll Ll iW ?_)
     refine al Ll (aw Ll Ll Ll ?_)
     refine aC Ll Ll Ll (ag ?_)
     refine cz () ⟨rfl,rfl,rfl,rfl,?_,trivial⟩ rfl
     show some (B (decide (c=0)))=_
     rw[decide_eq_decide.2 (show c=0↔((k=9∧1<c.toNat)∨(0<k∧c.toNat=0)) from by rw[c0];omega)]
   ·refine ai Ll Ll Ll (cf (by omega) aZ) ?_
    refine ae Ll Ll (ao Ll Ll Ll (ao Ll Ll Ll ?_))
    refine aC Ll Ll Ll (ae Ll Ll ?_)
    by_cases hk0:0<k
    ·refine al Ll (ae Ll Ll (al Ll (ai Ll Ll Ll (cg (by omega) ck) ?_)))
     refine al Ll (ae Ll Ll (al Ll (ae Ll Ll ?_)))
     refine al Ll (ai (v:=U8 0) Ll Ll Ll iW ?_)
     refine al Ll (aw Ll Ll Ll ?_)
     refine aC Ll Ll Ll (ag ?_)
     refine cz () ⟨rfl,rfl,rfl,rfl,?_,trivial⟩ rfl
     show some (B (decide (c=0)))=_
     rw[decide_eq_decide.2 (show c=0↔((k=9∧1<c.toNat)∨(0<k∧c.toNat=0)) from by rw[c0];omega)]
    ·refine al Ll (ae Ll Ll (al Ll (ai Ll Ll Ll (cf (by omega) ck) ?_)))
     refine al Ll (ae Ll Ll (ao Ll Ll Ll (ao Ll Ll Ll ?_)))
     refine al Ll (aC Ll Ll Ll ?_)
     refine aC Ll Ll Ll (ag ?_)
     refine cz () ⟨rfl,rfl,rfl,rfl,?_,trivial⟩ rfl
     show some (B false)=_
     rw[decide_eq_false (by omega)]
  ·rintro _ w3 rfl
   refine ab (bi Ll (fun h=>?_) (fun h=>?_))
   ·refine af (aa (ac Ll Ll (ac Ll Ll (ag (ab (av (au (aV (au (au (aV (au ?_))))))))))))
    refine aM Ll Ll Ll ?_
    refine⟨_,rfl,hg,?_⟩
    rw[hrd]
    simp only[ln]
    rw[if_pos h]
    exact⟨rfl,t,hr2'⟩
   ·have hor:=HV (acc:=acc) (c:=c) hacc hk (fun h9=>by
     have:¬1<c.toNat:=fun hc=>h (Or.inl ⟨h9,hc⟩)
     omega)
    refine ar (ab (af (aa (ae Ll Ll (ae Ll Ll ?_)))))
    refine ai (v:=U8 127) Ll Ll Ll (Fq) ?_
    refine aR Ll Ll (sT KS KN) ?_
    refine ae Ll Ll ?_
    refine ai Ll Ll Ll (fL (7*k) (by omega)) ?_
    refine ai Ll Ll Ll (iX) ?_
    refine ac Ll Ll (ag (ab (af (aa (ae Ll Ll ?_)))))
    refine ai (v:=U8 128) Ll Ll Ll (ki) ?_
    refine ag (ab ?_)
    refine bi Ll (fun h2=>?_) (fun h2=>?_)
    ·have h2':c.toNat<128:=by rw[UInt8.lt_iff_toNat_lt] at h2;exact h2
     refine af (aa (ae Ll Ll (ac Ll Ll (ac Ll Ll (ag (ab (av (aV (au (au (aV (au ?_))))))))))))
     refine aM Ll Ll Ll ?_
     refine⟨_,rfl,hg,?_⟩
     rw[hrd]
     simp only[ln]
     rw[if_neg h,if_pos h2']
     refine⟨?_,hr2'⟩
     rw[Nat.mod_eq_of_lt h2'] at hor
     have:UInt64.ofNat (c.toNat*128^k+acc.toNat)=acc|||((c&&&127).toUInt64<<<UInt64.ofNat (7*k)):=by
      rw[Nat.add_comm,←hor,UInt64.ofNat_toNat]
     rw[this];rfl
    ·have h2':¬c.toNat<128:=fun hc=>h2 (by rw[UInt8.lt_iff_toNat_lt];exact hc)
     have hk9:k≠9:=fun hk9=>h (Or.inl ⟨hk9,by omega⟩)
     refine ar (aJ (ab (aa (ae Ll Ll ?_))))
     refine ai Ll Ll Ll (aK (by omega) (by omega)) ?_
     refine ac Ll Ll (ag ?_)
     refine bQ (k+1,t,acc|||((c&&&127).toUInt64<<<UInt64.ofNat (7*k))) ⟨rfl,?_,rfl,trivial⟩ ⟨hr2',hg,by show k+1≤9;omega,?_,?_⟩ (by show 10-(k+1)<10-k;omega)
     ·show some (I (((7*k:Nat):Int)+7))=some (I ((7*(k+1):Nat):Int))
      rw[show((7*k:Nat):Int)+7=((7*(k+1):Nat):Int) by omega]
     ·show(acc|||((c&&&127).toUInt64<<<UInt64.ofNat (7*k))).toNat<128^(k+1)
      rw[hor,Nat.pow_succ]
      have:(c.toNat%128)*128^k≤127*128^k:=Nat.mul_le_mul_right _ (by omega)
      omega
     ·show db l=(ln (10-(k+1)) (k+1) t).map fun p=>(p.1+(acc|||((c&&&127).toUInt64<<<UInt64.ofNat (7*k))).toNat,p.2)
      rw[hrd,hor]
      simp only[ln]
      rw[if_neg h,if_neg h2',Option.map_map]
      have:10-(k+1)=9-k:=by omega
      rw[this]
      have ef:((fun p:Nat×List UInt8=>(p.1+acc.toNat,p.2))∘fun p:Nat×List UInt8=>(p.1+c.toNat%128*128^k,p.2))=fun p=>(p.1+(acc.toNat+c.toNat%128*128^k),p.2):=by
       funext p
       simp only[Function.comp,Prod.mk.injEq,and_true]
       omega
      rw[ef]
theorem mj (hr:bb g none w):
 Calls Tryz.prog 144 #[.pointer (some ⟨g,0,none⟩)] w (bE fun r w'=>r=.tuple #[bj 0,B false]∧w'=w):=by
 refine enter (vs:=[.pointer (some ⟨g,0,none⟩)]) Tryz.func144 Ll Ll Ll ?_
 refine af (aa (ac Ll Ll (ac Ll Ll (ag (ab (af (af (aa (ac Ll Ll (ag (ab (ax ?_))))))))))))
 refine bZ (α:=Unit) (fun _=>[(0,.pointer (some ⟨g,0,none⟩)),(4,I 0),(2,bj 0)]) (fun _ w'=>w'=w) (fun _=>0) () ⟨rfl,rfl,rfl,trivial⟩ Ll ?_
 rintro _ w1 rfl
 refine af (af (aa (ae Ll Ll ?_)))
 refine ai Ll Ll Ll (cg (by omega) aW) ?_
 refine ag (ab ?_)
 refine bB Ll ?_
 refine ar (ab (af (ax (af (aa (ae Ll Ll ?_))))))
 refine an (vs:=[_,bj 1]) iE Ll Ll (ru hr) ?_
 rintro r2 w2 ⟨rfl,rfl⟩
 refine ae Ll Ll ?_
 refine ak Ll Ll (aT) ?_
 refine ak Ll Ll (aU) ?_
 refine ac Ll Ll (ac Ll Ll (ag (ab (af (af (aa (ae Ll Ll ?_)))))))
 refine bI Ll Ll (bK) ?_
 refine ag (ab ?_)
 refine bB Ll ?_
 refine af (aa (ac Ll Ll (ac Ll Ll (ag (ab (av (au (aV (au (au (aV (au ?_))))))))))))
 refine aM Ll Ll Ll ?_
 exact⟨_,rfl,rfl,rfl⟩
def IJ (g:Nat) (w:World) (o:Option (Nat×List UInt8)) (r:Value) (w':World):Prop:=
 w.grownBy w' (some g)∧match o with
  |some (n,t)=>r=.tuple #[bj (UInt64.ofNat n),I 0]∧bb g (some t) w'
  |none=>r=.tuple #[bj 0,I 5]∧bb g none w'
theorem nC {st:Option (List UInt8)} (hr:bb g st w):
 Calls Tryz.prog 111 #[.pointer (some ⟨g,0,none⟩)] w (bE (IJ g w (st.bind db))):=by
 refine enter (vs:=[.pointer (some ⟨g,0,none⟩)]) Tryz.func111 Ll Ll Ll ?_
 refine af (aa (ac Ll Ll (ac Ll Ll (ag (ab (af (af (aa (ae Ll Ll ?_)))))))))
 refine ai Ll Ll Ll (mA K1) ?_
 refine ag (ab ?_)
 refine cp Ll ?_
 refine ar (ab (af (aa (ae Ll Ll ?_))))
 have hcase:Calls Tryz.prog 144 #[.pointer (some ⟨g,0,none⟩)] w (bE fun r w'=>w.grownBy w' (some g)∧match st.bind db with
  |some (n,t)=>r=.tuple #[bj (UInt64.ofNat n),B true]∧bb g (some t) w'
  |none=>r=.tuple #[bj 0,B false]∧∃l',bb g l' w'):=by
  cases st with
  |none=>exact(mj hr).mono fun e w' ⟨v,he,hv,hw⟩=>⟨v,he,by subst hw;exact⟨ji _ _,hv,none,hr⟩⟩
  |some l=>
   refine(nW hr).mono fun e w' ⟨v,he,hg,hv⟩=>⟨v,he,hg,?_⟩
   show match db l with|some (n,t)=>_|none=>_
   cases hrd:db l with
   |none=>rw[hrd] at hv;exact⟨hv.1,hv.2.imp' some fun _ h=>h⟩
   |some p=>rw[hrd] at hv;exact hv
 refine an jZ Ll Ll hcase ?_
 rintro r1 w1 ⟨hg1,h1⟩
 unfold IJ
 cases hrd:st.bind db with
 |some p=>
  obtain⟨n,t⟩:=p
  rw[hrd] at h1
  obtain⟨rfl,hr1⟩:=h1
  refine ae Ll Ll ?_
  refine ak Ll Ll (aT) ?_
  refine ak Ll Ll (aU) ?_
  refine ac Ll Ll (ac Ll Ll (ag (ab (af (af (aa (ae Ll Ll ?_)))))))
  refine bI Ll Ll (bK) ?_
  refine ag (ab ?_)
  refine cp Ll ?_
  refine ar (ab (af (aa (ae Ll Ll (ac Ll Ll (ac Ll Ll (ag (ab (av ?_)))))))))
  refine aM Ll Ll Ll ?_
  exact⟨_,rfl,hg1,rfl,hr1⟩
 |none=>
  rw[hrd] at h1
  obtain⟨rfl,l',hr1⟩:=h1
  refine ae Ll Ll ?_
  refine ak Ll Ll (aT) ?_
  refine ak Ll Ll (aU) ?_
  refine ac Ll Ll (ac Ll Ll (ag (ab (af (af (aa (ae Ll Ll ?_)))))))
  refine bI Ll Ll (bK) ?_
  refine ag (ab ?_)
  refine bB Ll ?_
  refine af (aa (ae Ll Ll ?_))
  refine an iF Ll Ll (iG hr1) ?_
  rintro r2 w2 ⟨rfl,hr2,hg2⟩
  refine ac Ll Ll (ac Ll Ll (ag (ab (av (au ?_)))))
  refine aM Ll Ll Ll ?_
  exact⟨_,rfl,hg1.trans hg2,rfl,hr2⟩
end
end Go.Rl
namespace Go.Rl
open Go.RowKit Go.Proofs
theorem y8:ay Tryz.prog 155:=⟨_,Tryz.func155,by kernel_rfl,rfl⟩
def Hz (x:UInt32):List UInt8:=[x.toUInt8,(x>>>UInt32.ofNat 8).toUInt8,(x>>>UInt32.ofNat 16).toUInt8,(x>>>UInt32.ofNat 24).toUInt8]
def nQ (l:List UInt32):List UInt8:=l.flatMap Hz
theorem DZ (l:List UInt32) (k:Nat) (h:k<l.length):nQ (l.take (k+1))=nQ (l.take k)++Hz l[k]:=by
 unfold nQ
 rw[List.take_succ_eq_append_getElem h,List.flatMap_append]
 simp
theorem fu (l:List UInt32):(nQ l).length=4*l.length:=by
 induction l with
 |nil=>rfl
 |cons x l ih=>
  have:nQ (x::l)=Hz x++nQ l:=by simp[nQ]
  rw[this,List.length_append,ih]
  simp[Hz];omega
def lu (l:List UInt32):List UInt8:=uv l.length++nQ l
theorem F0 (l:List UInt32) (h:l.length<18446744073709551616):(lu l).length≤10+4*l.length:=by
 have:=ft h
 simp only[lu,List.length_append,fu];omega
section
variable {w0 w:World} {l:List UInt8} {ns:List UInt32} {v nv:Value}
theorem y9 (hx:aI w0 w) (hv:cG w0.heap.size l v w) (hn:bo ns nv w0) (hl:l.length+4*ns.length≤35184372088832):
 Calls Tryz.prog 155 #[v,nv] w (bE fun r w'=>cG w0.heap.size (l++lu ns) r w'∧aI w0 w'∧gw w w' v r):=by
 refine enter (vs:=[v,nv]) Tryz.func155 Ll Ll Ll ?_
 refine af (aa (ac Ll Ll (ag (ab (af (aa (ae Ll Ll (ae Ll Ll ?_))))))))
 refine aQ Ll Ll (bu KK (hn.ext hx)) ?_
 refine aR Ll Ll (cN KO KN) ?_
 refine an lq Ll Ll (lr hv (by omega) hx.size) ?_
 rintro b1 w1 ⟨hb1,hg1⟩
 have hlen:(UInt64.ofNat ns.length).toNat=ns.length:=by rw[UInt64.toNat_ofNat'];have:=hn.len;omega
 rw[hlen] at hb1
 have hx1:aI w0 w1:=hx.of_grew hg1 hv.ge
 have huv:=ft (n:=ns.length) (by have:=hn.len;omega)
 refine ac Ll Ll (ag (ab (af (af (aa (ae Ll Ll ?_))))))
 refine aQ Ll Ll (bu KK (hn.ext hx1)) ?_
 refine ae Ll Ll (ag (ab (ax ?_)))
 refine bZ (α:=Nat×Value) (fun x=>[(0,x.2),(12,nv),(13,I (ns.length:Int)),(14,I (x.1:Int))])
  (fun x w'=>cG w0.heap.size (l++uv ns.length++nQ (ns.take x.1)) x.2 w'∧aI w0 w'∧gw w w' v x.2∧x.1≤ns.length) (fun x=>ns.length-x.1) (0,b1) ⟨rfl,rfl,rfl,rfl,trivial⟩
  ⟨by simpa [nQ] using hb1,hx1,hg1,by simp⟩ ?_
 rintro⟨k,b⟩ w2 ⟨hb,hx2,hg2,hk⟩
 dsimp only at hb hx2 hg2 hk
 have hns:=hn.len
 have hdl:(l++uv ns.length++nQ (ns.take k)).length≤35184372088832+10:=by
  simp only[List.length_append,fu,List.length_take];omega
 refine af (aa ?_)
 refine ai Ll Ll Ll (aW) ?_
 refine ag (ab (af ?_))
 refine bi Ll (fun h=>?_) (fun h=>?_)
 ·have hlt:k<ns.length:=by omega
  refine ar (ab (af (ax (af (aa ?_)))))
  obtain⟨ad,had,hcell⟩:=cP KK (hn.ext hx2) hlt .i64
  refine aA Ll Ll Ll (had _) ?_
  refine am Ll Ll (J0 hcell) ?_
  refine ac Ll Ll (ag (ab (aa (ae Ll Ll (ae Ll Ll ?_)))))
  refine aR Ll Ll (fo KL KS) ?_
  refine ae Ll Ll ?_
  refine ai Ll Ll Ll (dh 8 (by omega)) ?_
  refine aR Ll Ll (fo KL KS) ?_
  refine ae Ll Ll ?_
  refine ai Ll Ll Ll (dh 16 (by omega)) ?_
  refine aR Ll Ll (fo KL KS) ?_
  refine ae Ll Ll ?_
  refine ai Ll Ll Ll (dh 24 (by omega)) ?_
  refine aR Ll Ll (fo KL KS) ?_
  obtain⟨r3,w3,hr3,hx3,ho3,_⟩:=fE (w:=w2) w2.heap.size (Hz ns[k]) (by simp[Hz]) (Nat.le_refl _)
  refine aO Ll Ll hr3 ?_
  obtain⟨r4,w4,hr4,ho4,hg4⟩:=dn (ty:=28) (hb.ext hx3) ho3.bts (by simp only[Hz,List.length_cons,List.length_nil];omega) (Nat.le_trans hx2.size hx3.size)
  refine bc Ll Ll hr4 ?_
  refine ac Ll Ll (ag (aJ (ab (aa ?_))))
  refine ai Ll Ll Ll (aK (by omega) (by omega)) ?_
  refine ae Ll Ll (ag ?_)
  refine bQ (k+1,r4) ⟨rfl,rfl,rfl,rfl,trivial⟩ ⟨?_,(hx2.trans hx3).of_grew hg4 hb.ge,hg2.trans (gw.before hx3 hg4),hlt⟩ (by show ns.length-(k+1)<ns.length-k;omega)
  show cG _ (l++uv ns.length++nQ (ns.take (k+1))) r4 w4
  rw[DZ ns k hlt,←List.append_assoc]
  exact ho4
 ·have hk':k=ns.length:=by omega
  refine aY (aB (aB (aX (ab (af (aa (ae Ll Ll (ac Ll Ll (ag (ab (av ?_)))))))))))
  refine aG Ll Ll ?_
  refine⟨_,rfl,?_,hx2,hg2⟩
  rw[hk',List.take_length,List.append_assoc] at hb
  exact hb
end
end Go.Rl
namespace Go.Rl
open Go.RowKit
section
variable {P:Program} {ops:Array Oper} {Q:fe} {N:Nat} {D:List Deferred} {S:World→Prop} {fuel:Nat} {listed:Array Bool} {l:Fr} {w:World} {d:Nat} {op:Op} {ty:TypeId} {pos:String} {aft:Array Edge}
def ip (Q:fe):fe:=fun e a w=>e=.normal∧Q .normal a w
def fG (P:Program) (ops:Array Oper) (Q:fe) (N:Nat) (D:List Deferred) (S:World→Prop) (fuel:Nat) (listed:Array Bool) (l:Fr) (w:World):Prop:=∀a,At N D l a→wpAnyH P .any ops (ip Q) S fuel listed a w
def za (P:Program) (ops:Array Oper) (Q:fe) (S:World→Prop) (fuel:Nat) (listed:Array Bool):fe:=fun e a w=>e=.normal∧S w∧wpAnyH P .any ops (ip Q) S fuel listed a w
theorem Ji {id:Nat} {os:List Oper} (S:World→Prop) (n:Nat) (hn:os.toArray.size=n) (hm:P.follows .mixedOrders=true)
 (h:fG P os.toArray Q N D S n (Array.replicate n false) l w.drew):cM P Q N D l w (.region id os.toArray true):=fun a ha=>by
 subst hn
 exact wp_mono (wp_region_held (Q:=ip Q) (S:=S) hm (h a ha)) fun e a w he=>by obtain⟨rfl,h⟩:=he;exact h
def Jj (ops:Array Oper) (listed:Array Bool) (i:Nat):Bool:=Region.noSelect ops&&Region.free .any ops listed i&&(Region.ready .any ops listed).contains i
theorem IK (i:Nat) {v:Value} (hi:ops[i]? =some ⟨some d,op,ty,pos,aft,none⟩) (hB:Jj ops listed i=true) (hd:Nat.blt d N=true) (hS:S w)
 (hrun:∀ρ w',nS l ρ→S w'→(execOp ρ ⟨some d,op,ty,pos,aft,none⟩).run P w'=.ok (.value v) w')
 (k:fG P ops Q N D S fuel (listed.setIfInBounds i true) ((d,v)::l) w):fG P ops Q N D S (fuel+1) listed l w:=fun a ha=>by
 simp only[Jj,Bool.and_eq_true] at hB
 exact wpAnyH_take hi hB.1.1 hB.1.2 hB.2 (fun c a w h=>by obtain⟨h,_⟩:=h;cases h) (.inl ⟨rfl,fun w' hw'=>hrun a.eval w' (fun x v hx=>ha.ev hx) hw'⟩) hS (k _ (ha.put hd v))
theorem AY (i:Nat) {xs:List Operand} {vs:List Value} {r:Value} {f:List Value→Sem Value} (hi:ops[i]? =some ⟨some d,op,ty,pos,aft,none⟩) (he:∀ρ,execOp ρ ⟨some d,op,ty,pos,aft,none⟩=(do pure (Next.value (←f (xs.map ρ))):Sem Next))
 (hp:sJ l xs=some vs) (hB:Jj ops listed i=true) (hd:Nat.blt d N=true) (hS:S w) (hrun:∀w',S w'→(f vs).run P w'=.ok r w')
 (k:fG P ops Q N D S fuel (listed.setIfInBounds i true) ((d,r)::l) w):fG P ops Q N D S (fuel+1) listed l w:=
 IK i hi hB hd hS (fun ρ w' hρ hw'=>by rw[he,iz hρ hp,Sem.run_bind,hrun w' hw'];rfl) k
theorem J9 {x:Operand} {v:Value} (h:ev l x=some v):sJ l [x]=some [v]:=by simp[sJ,h]
theorem evs2 {x y:Operand} {u v:Value} (h:ev l x=some u) (h':ev l y=some v):sJ l [x,y]=some [u,v]:=by simp[sJ,h,h']
theorem qz (i:Nat) {x:Operand} {v:Value} (hi:ops[i]? =some ⟨some d,.move x,ty,pos,aft,none⟩) (hx:ev l x=some v) (hB:Jj ops listed i=true) (hd:Nat.blt d N=true) (hS:S w)
 (k:fG P ops Q N D S fuel (listed.setIfInBounds i true) ((d,v)::l) w):fG P ops Q N D S (fuel+1) listed l w:=
 IK i hi hB hd hS (fun ρ w' hρ _=>by simp[execOp,hρ x _ hx]) k
theorem xr (i:Nat) {t:TypeId} {x:Operand} {u r:Value} (hi:ops[i]? =some ⟨some d,.load t x,ty,pos,aft,none⟩) (hx:ev l x=some u) (hB:Jj ops listed i=true) (hd:Nat.blt d N=true) (hS:S w) (hrun:∀w',S w'→(Instr.loadAt t u).run P w'=.ok r w')
 (k:fG P ops Q N D S fuel (listed.setIfInBounds i true) ((d,r)::l) w):fG P ops Q N D S (fuel+1) listed l w:=
 AY i (xs:=[x]) (f:=fun|[a]=>Instr.loadAt t a|_=>stuck "") hi (fun _=>rfl) (J9 hx) hB hd hS hrun k
theorem rx (i:Nat) {s:TypeId} {n:Nat} {x:Operand} {u r:Value} (hi:ops[i]? =some ⟨some d,.fieldAddr s x n,ty,pos,aft,none⟩) (hx:ev l x=some u) (hB:Jj ops listed i=true) (hd:Nat.blt d N=true) (hS:S w) (hrun:∀w',S w'→(Instr.fieldAt s u n).run P w'=.ok r w')
 (k:fG P ops Q N D S fuel (listed.setIfInBounds i true) ((d,r)::l) w):fG P ops Q N D S (fuel+1) listed l w:=
 AY i (xs:=[x]) (f:=fun|[a]=>Instr.fieldAt s a n|_=>stuck "") hi (fun _=>rfl) (J9 hx) hB hd hS hrun k
theorem IL (i:Nat) {b:BinOp} {t t2:TypeId} {x y:Operand} {u v r:Value} (hi:ops[i]? =some ⟨some d,.binOp b t x y t2,ty,pos,aft,none⟩) (hx:ev l x=some u) (hy:ev l y=some v) (hB:Jj ops listed i=true) (hd:Nat.blt d N=true) (hS:S w) (hrun:∀w',S w'→(bin b t x y u v).run P w'=.ok r w')
 (k:fG P ops Q N D S fuel (listed.setIfInBounds i true) ((d,r)::l) w):fG P ops Q N D S (fuel+1) listed l w:=
 AY i (xs:=[x,y]) (f:=fun|[a,c]=>bin b t x y a c|_=>stuck "") hi (fun _=>rfl) (evs2 hx hy) hB hd hS hrun k
theorem lw {o:Oper} {i:Nat} {listed':Array Bool} {a:Act} (hi:ops[i]? =some o) (h:wpList P ops (za P ops Q S fuel listed') [o] a w):
 wpOp P ops (ip Q) i (fun a' w'=>S w'∧wpAnyH P .any ops (ip Q) S fuel listed' a' w') a w:=by
 unfold wpOp
 simp only[hi]
 unfold wpList at h
 split
 ·rename_i hw
  rw[if_pos hw] at h
  rcases h with h|⟨_,_,_,h,_⟩
  ·refine .inl ?_
   unfold Oper.wp at*
   generalize (execOp a.eval o).run P w=r at*
   cases r with
   |ok n w'=>
    cases n<;>simp only[Oper.upon] at h⊢
    case value u=>exact h.2
    case skip=>exact h.2
    case defer dd=>exact h.2
    case enter f args=>
     refine Calls.mono h fun e w'' he=>?_
     cases e with
     |returned u=>exact he.2
     |panicked c=>obtain⟨he,_⟩:=he;cases he
     |outgrown=>obtain⟨_,_,he,_⟩:=he;cases he
    case row row args=>exact Rows.mono h fun u w'' he=>he.2
   |halt x w'=>
    cases x<;>simp only[Oper.upon] at h⊢
    case panic u=>obtain⟨he,_⟩:=h;cases he
  ·cases h
 ·rename_i hw
  rw[if_neg hw] at h
  exact h.2
theorem jG (i:Nat) {o:Oper} (hr:Region.ready .any ops listed=[i]) (hi:ops[i]? =some o) (h:bW P ops (za P ops Q S fuel (listed.setIfInBounds i true)) N D l w [o]):fG P ops Q N D S (fuel+1) listed l w:=fun a ha=>
 wpAnyH_all hr (by simp) fun j hj=>by
  obtain rfl:j=i:=by simpa using hj
  exact lw hi (h a ha)
theorem F1 (i j:Nat) {o u:Oper} (hr:Region.ready .any ops listed=[i,j]) (hi:ops[i]? =some o) (hj:ops[j]? =some u) (h:bW P ops (za P ops Q S fuel (listed.setIfInBounds i true)) N D l w [o])
 (h':bW P ops (za P ops Q S fuel (listed.setIfInBounds j true)) N D l w [u]):fG P ops Q N D S (fuel+1) listed l w:=fun a ha=>
 wpAnyH_all hr (by simp) fun k hk=>by
  rcases(by simpa using hk:k=i∨k=j) with rfl|rfl
  ·exact lw hi (h a ha)
  ·exact lw hj (h' a ha)
theorem fa (hS:S w) (k:fG P ops Q N D S fuel listed l w):bW P ops (za P ops Q S fuel listed) N D l w []:=fun a ha=>⟨rfl,hS,k a ha⟩
theorem F3 {α:Type} (fr:α→Fr) (H:α→World→Prop) (listed':Array Bool) (fuel':Nat) (k:∀x w',H x w'→fG P ops Q N D S fuel' listed' (fr x) w')
 (h:(∀l' w',(∃x,AB (fr x) l'∧H x w')→fG P ops Q N D S fuel' listed' l' w')→fG P ops Q N D S fuel listed l w):fG P ops Q N D S fuel listed l w:=
 h fun _ w' ⟨x,hs,hH⟩ a ha=>k x w' hH a (ha.weak hs)
theorem Ka {listed':Array Bool} (he:listed=listed') (h:fG P ops Q N D S fuel listed' l w):fG P ops Q N D S fuel listed l w:=he▸h
theorem xu (hr:Region.ready .any ops listed=[]) (h:fN Q N D l w):fG P ops Q N D S fuel listed l w:=fun a ha=>wpAnyH_done hr ⟨rfl,h a ha⟩ _
end
end Go.Rl
namespace Go.Rl
open Go.RowKit Go.Proofs
theorem tx:ay Tryz.prog 125:=⟨_,Tryz.func125,by kernel_rfl,rfl⟩
theorem aI.at {w w':World} (hx:aI w w') {g:Nat} {o:Obj} (h:w.heap[g]? =some o):w'.heap[g]? =some o:=by
 rw[hx.block g (by obtain⟨h,_⟩:=Array.getElem?_eq_some_iff.1 h;exact h)]
 exact h
theorem cG.low {base base':Nat} {l:List UInt8} {v:Value} {w:World} (h:cG base l v w) (hb:base'≤base):cG base' l v w:=by
 have hge:=h.ge
 obtain⟨n,h⟩:=h
 exact⟨n,ib h fun k hk=>Nat.le_trans hb (hge k hk)⟩
theorem cG.lt {base:Nat} {l:List UInt8} {v:Value} {w:World} (h:cG base l v w):∀k,v.ownBlock=some k→k<w.heap.size:=by
 obtain⟨n,h⟩:=h
 exact fun k hk=>(World.ownsRow.lt h k hk).2
def di (b:Bool) (n m:List UInt32):dC:=fun v w=>∃x y,v=.agg #[B b,x,y]∧bo n x w∧bo m y w
theorem di.ext {b:Bool} {n m:List UInt32} {v:Value} {w w':World} (h:di b n m v w) (hx:aI w w'):di b n m v w':=by
 obtain⟨x,y,rfl,h1,h2⟩:=h
 exact⟨x,y,rfl,h1.ext hx,h2.ext hx⟩
def IM (b:Bool):UInt8:=if b then 1 else 0
def tz (b:Bool) (n m:List UInt32):List UInt8:=[IM b]++lu n++lu m
theorem AZ:(Tryz.prog.info? 4).map (·.size)=some 1:=by kernel_rfl
theorem gn:(Tryz.prog.info? 53).map (·.size)=some 1:=by kernel_rfl
theorem cV:(Tryz.prog.info? 55).map (·.size)=some 3:=by kernel_rfl
section
variable {w:World} {l:List UInt8} {ns:List UInt32} {v nv:Value}
theorem tA {b:Bool} {n m:List UInt32} {rv:Value} (hv:cm l v w) (hr:di b n m rv w) (hl:l.length+4*n.length+4*m.length≤8796093022208):
 Calls Tryz.prog 125 #[v,rv] w (bE fun r w'=>aI w w'∧cG w.heap.size (l++tz b n m) r w'):=by
 obtain⟨x,y,rfl,hx,hy⟩:=hr
 have hn:=F0 n (by have:=hx.len;omega)
 refine enter (vs:=[v,.agg #[B b,x,y]]) Tryz.func125 Ll Ll Ll ?_
 refine af (aa (cL Ll Ll nU ?_))
 have e1:aI w (w.alloc (.cells (Value.agg #[B b,x,y]).cells 55)):=aI.new w _
 have hbx:=heap_alloc_new w (.cells (Value.agg #[B b,x,y]).cells 55)
 revert e1 hbx
 generalize w.alloc (.cells (Value.agg #[B b,x,y]).cells 55)=w1
 intro e1 hbx
 have cell:∀(i:Nat) (u:Value),(#[B b,x,y]:Array Value)[i]? =some u→∀w',aI w1 w'→w'.cell? ⟨w.heap.size,i,none⟩=some u:=fun i u hu w' hw'=>i9 (hw'.at hbx) hu
 refine ac Ll Ll (ag (ab (af (aa (ac Ll Ll (ag (ab ?_)))))))
 refine af (fj (fun _:Unit=>[(0,v),(3,.pointer (some ⟨w.heap.size,0,none⟩)),(5,U8 (IM b))]) (fun _ w'=>w'=w1) ?_ ?_)
 ·refine af (aa ?_)
  refine ah Ll Ll (cB KP Ll AZ (by omega)) ?_
  refine am Ll Ll (aj KU Ll (cell 0 _ Ll _ (aI.refl _))) ?_
  refine ag (ab ?_)
  cases b with
  |true=>exact bB rfl (aa (ac rfl rfl (ag (cz () ⟨rfl,rfl,rfl,trivial⟩ rfl))))
  |false=>exact cp rfl (ar (cz () ⟨rfl,rfl,rfl,trivial⟩ rfl))
 rintro _ w2 rfl
 refine ab (af ?_)
 refine Ji (aI w2) 12 Ll (by kernel_rfl) ?_
 have hd:aI w2 w2.drew:=(aI.refl w2).drew
 refine qz 0 Ll Ll (by kernel_rfl) Ll hd ?_
 refine qz 2 Ll Ll (by kernel_rfl) Ll hd ?_
 refine rx 5 Ll Ll (by kernel_rfl) Ll hd (fun w' _=>cB KP Ll gn (by omega)) ?_
 refine xr 6 Ll Ll (by kernel_rfl) Ll hd (fun w' hw'=>aj KK Ll (cell 1 _ Ll _ hw')) ?_
 refine rx 8 Ll Ll (by kernel_rfl) Ll hd (fun w' _=>cB KP Ll gn (by omega)) ?_
 refine xr 9 Ll Ll (by kernel_rfl) Ll hd (fun w' hw'=>aj KK Ll (cell 2 _ Ll _ hw')) ?_
 refine F3 (fun p:Value×Value=>[(9,p.1),(11,p.2),(14,x),(17,y)]) (fun p w'=>aI w2 w'∧cG w2.heap.size l p.1 w'∧cm [IM b] p.2 w') #[true,true,true,true,false,true,true,false,true,true,false,false] 4 ?_ (fun join=>F1 1 3 (by kernel_rfl) Ll Ll ?_ ?_)
 ·rintro⟨r9,r11⟩ w3 ⟨hx3,ho9,ho11⟩
  dsimp only at ho9 ho11
  refine jG 4 (by kernel_rfl) Ll ?_
  obtain⟨r4,w4,hr4,ho4,hg4⟩:=dn (ty:=28) ho9 ho11 (by simp only[List.length_cons,List.length_nil];omega) hx3.size
  have hx4:=hx3.of_grew hg4 ho9.ge
  refine bc Ll Ll hr4 (fa hx4 ?_)
  refine jG 7 (by kernel_rfl) Ll ?_
  refine an y8 Ll Ll (y9 hx4 ho4 (hx.ext e1) (by simp only[List.length_append,List.length_cons,List.length_nil];omega)) ?_
  rintro r5 w5 ⟨ho5,hx5,_⟩
  refine fa hx5 (jG 10 (by kernel_rfl) Ll ?_)
  refine an y8 Ll Ll (y9 hx5 ho5 (hy.ext e1) (by simp only[List.length_append,List.length_cons,List.length_nil];omega)) ?_
  rintro r6 w6 ⟨ho6,hx6,_⟩
  refine fa hx6 (jG 11 (by kernel_rfl) Ll ?_)
  refine ac Ll Ll (fa hx6 (xu (by kernel_rfl) (ab (av ?_))))
  refine aG Ll Ll ?_
  refine⟨_,rfl,e1.trans hx6,?_⟩
  have:=ho6.low e1.size
  simpa only[tz,List.append_assoc] using this
 ·refine an jE Ll Ll (jF ((hv.ext e1).ext hd) (by omega)) ?_
  rintro r9 w3 ⟨hx3,ho9⟩
  obtain⟨r11,w4,hr11,hx4,ho11,_⟩:=fE (w:=w3) w3.heap.size [IM b] (by simp) (Nat.le_refl _)
  refine fa (hd.trans hx3) (jG 3 (by kernel_rfl) Ll ?_)
  refine aO (vs:=[(0,U8 (IM b))]) Ll Ll hr11 (fa ((hd.trans hx3).trans hx4) (Ka (by kernel_rfl) (join _ _ ⟨(r9,r11),⟨rfl,rfl,rfl,rfl,trivial⟩,(hd.trans hx3).trans hx4,?_,ho11.bts⟩)))
  exact(ho9.ext hx4).low hd.size
 ·obtain⟨r11,w3,hr11,hx3,ho11,_⟩:=fE (w:=w2.drew) w2.heap.size [IM b] (by simp) hd.size
  refine aO (vs:=[(0,U8 (IM b))]) Ll Ll hr11 (fa (hd.trans hx3) (jG 1 (by kernel_rfl) Ll ?_))
  refine an jE Ll Ll (jF (((hv.ext e1).ext hd).ext hx3) (by omega)) ?_
  rintro r9 w4 ⟨hx4,ho9⟩
  refine fa ((hd.trans hx3).trans hx4) (Ka (by kernel_rfl) (join _ _ ⟨(r9,r11),⟨rfl,rfl,rfl,rfl,trivial⟩,(hd.trans hx3).trans hx4,?_,ho11.bts.ext hx4⟩))
  exact ho9.low (hd.trans hx3).size
end
end Go.Rl
namespace Go.Rl
open Go.RowKit Go.Proofs
section
variable {P:Program} {w w':World}
theorem aF {s:TypeId} {fs:Array Field} {f:Field} {n g o:Nat} (hs:P.underlying s=some (.struct fs)) (hf:fs[n]? =some f) (hk:(P.cellsOf f.type==0)=false) (ho:f.offset=o):
 (Instr.fieldAt s (.pointer (some ⟨g,0,none⟩)) n).run P w=.ok (.pointer (some ⟨g,o,none⟩)) w:=by
 have hk':P.cellsOf f.type≠0:=by simpa using hk
 obtain⟨k,hk1⟩:∃k,(P.info? f.type).map (·.size)=some k:=by
  cases hi:(P.info? f.type).map (·.size) with
  |none=>exact absurd (by simp[Program.cellsOf,hi]) hk'
  |some k=>exact⟨k,rfl⟩
 have hk0:k≠0:=by
  intro h
  apply hk'
  simp[Program.cellsOf,hk1,h]
 rw[cB hs hf hk1 hk0,ho,ql,Nat.zero_add]
end
section
variable {w w':World}
theorem di.stable (b:Bool) (n m:List UInt32):bt (di b n m):=fun _ _ _ h hx=>h.ext hx
theorem di.mk {b:Bool} {n m:List UInt32} {x y:Value} (hx:bo n x w) (hy:bo m y w):di b n m (.agg #[B b,x,y]) w:=⟨x,y,rfl,hx,hy⟩
theorem cd.ldR {g:Nat} {T:TypeId} {a b c:Value} (h:cd g T [a,b,c] w):(Instr.loadAt 55 (.pointer (some ⟨g,0,none⟩))).run Tryz.prog w=.ok (.agg #[a,b,c]) w:=
 mi h (fun j v hj=>by simpa using hj) Tryz.underlying55 rfl cV
theorem od {b:Bool} {n m:List UInt32} {v:Value} (h:di b n m v w):
 ∃g x y w',(Instr.box 55 v).run Tryz.prog w=.ok (.pointer (some ⟨g,0,none⟩)) w'∧aI w w'∧cd g 55 [B b,x,y] w'∧bo n x w'∧bo m y w':=by
 obtain⟨x,y,rfl,hx,hy⟩:=h
 exact⟨_,x,y,_,nU,aI.new w _,cd.new (T:=55) (.agg #[B b,x,y]) rfl,hx.ext (aI.new w _),hy.ext (aI.new w _)⟩
theorem F5:(Tryz.prog.info? 55).map (·.zero)=some (some (.agg #[B false,.slice none 0 0,.slice none 0 0])):=by kernel_rfl
theorem fV:∃g w',(Instr.alloc 55 true (.tuple #[])).run Tryz.prog w=.ok (.pointer (some ⟨g,0,none⟩)) w'∧w.heap.size≤g∧aI w w'∧cd g 55 [B false,.slice none 0 0,.slice none 0 0] w':=
 be F5 rfl
theorem tB (b:Bool) (A C:Option Addr) (n c m d:Nat) (l:List UInt32):∀(j:Nat) (u:Value),u∈l.map bA→(#[.bool b,.slice A n c,.slice C m d]:Array Value)[j]? ≠some u:=by
 intro j u hu
 obtain⟨x,_,rfl⟩:=List.mem_map.1 hu
 match j with
 |0=>simp[bA]
 |1=>simp[bA]
 |2=>simp[bA]
 |j+3=>simp
theorem bo.byR {l:List UInt32} {v:Value} {g:Nat} {T:TypeId} {b:Bool} {x y:Value} (h:bo l v w) (hb:cd g T [B b,x,y] w) (hx:∃A n c,x=.slice A n c) (hy:∃A n c,y=.slice A n c) (hw:w.grownBy w' (some g)):bo l v w':=by
 obtain⟨A,n,c,rfl⟩:=hx
 obtain⟨C,m,d,rfl⟩:=hy
 exact Sl.keep h hb (tB b A C n c m d l) hw
theorem bo.isS {l:List UInt32} {v:Value} (h:bo l v w):∃A n c,v=.slice A n c:=by
 obtain⟨A,n,c,rfl,_⟩:=h
 exact⟨A,n,c,rfl⟩
theorem cd.stR {g:Nat} {b c:Bool} {x y v:Value} {n m:List UInt32} (h:cd g 55 [B b,x,y] w) (hx:∃A n c,x=.slice A n c) (hy:∃A n c,y=.slice A n c) (hv:di c n m v w):
 ∃p q w',v=.agg #[B c,p,q]∧(Instr.storeAt 55 (.pointer (some ⟨g,0,none⟩)) v).run Tryz.prog w=.ok () w'∧w.grownBy w' (some g)∧cd g 55 [B c,p,q] w'∧bo n p w'∧bo m q w':=by
 obtain⟨p,q,rfl,hp,hq⟩:=hv
 obtain⟨A,n1,c1,rfl⟩:=hp.isS
 obtain⟨C,n2,c2,rfl⟩:=hq.isS
 refine⟨_,_,_,rfl,it (m:=[B c,.slice A n1 c1,.slice C n2 c2]) h Ll cV ?_,bp w g _,h.row _,hp.byR h hx hy (bp w g _),hq.byR h hx hy (bp w g _)⟩
 intro u hu
 simp only[List.mem_cons,List.not_mem_nil,or_false] at hu
 rcases hu with rfl|rfl|rfl<;>rfl
theorem xv {P:Program} {x y:Operand} {t:TypeId} (ht:P.underlying t=some .bool) {a b:Bool}:(bin .eql t x y (B a) (B b)).run P w=.ok (B (decide (a=b))) w:=by
 have h:(Op.equal t (B a) (B b)).run P w=.ok (decide (a=b)) w:=by
  show(Op.equalIn (9999+1) t (.bool a) (.bool b)).run P w=_
  unfold Op.equalIn
  cases a<;>cases b<;>simp[run_underlying ht]
 show(do pure (Value.bool (←Op.equal t (B a) (B b))):Sem Value).run P w=_
 rw[Sem.run_bind,h];rfl
theorem kv {c:Bool} {p q:Value} (hp:∃A n c,p=.slice A n c) (hq:∃A n c,q=.slice A n c):(Instr.build 55 #[(0,B c),(1,p),(2,q)]).run Tryz.prog w=.ok (.agg #[B c,p,q]) w:=by
 obtain⟨A,n,d,rfl⟩:=hp
 obtain⟨C,m,e,rfl⟩:=hq
 exact run_build _ _ _ #[B c,.slice A n d,.slice C m e] (by kernel_rfl)
theorem D1 {c:Bool} {p:Value} (hp:∃A n c,p=.slice A n c):(Instr.build 55 #[(0,B c),(1,p)]).run Tryz.prog w=.ok (.agg #[B c,p,.slice none 0 0]) w:=by
 obtain⟨A,n,d,rfl⟩:=hp
 exact run_build _ _ _ #[B c,.slice A n d,.slice none 0 0] (by kernel_rfl)
theorem el:(Instr.build 55 #[]).run Tryz.prog w=.ok (.agg #[B false,.slice none 0 0,.slice none 0 0]) w:=
 run_build _ _ _ #[B false,.slice none 0 0,.slice none 0 0] (by kernel_rfl)
end
theorem ij:∀{l m:List UInt32},l.length=m.length→val l=val m→l=m
 |[],[],_,_=>rfl
 |[],_::_,h,_=>by simp at h
 |_::_,[],h,_=>by simp at h
 |x::l,y::m,h,hv=>by
  have hx:=cT x
  have hy:=cT y
  rw[val,val] at hv
  have h1:x.toNat=y.toNat:=by omega
  have h2:val l=val m:=by omega
  rw[jQ h1,ij (by simpa using h) h2]
def ud (m:List UInt32):List UInt32:=if val m=0 then[1] else m
theorem F6:val [1]=1:=rfl
theorem xw:lb 1=[1]:=rfl
theorem A0 (m:List UInt32):val (ud m)=if val m=0 then 1 else val m:=by unfold ud;split<;>simp_all [F6]
theorem F7 (m:List UInt32):0<val (ud m):=by rw[A0];split<;>omega
def zb (s:Bool) (n:Nat):Bool:=s&&decide (0<n)
def xx (n d:Nat):List UInt32:=if d/Nat.gcd n d=1 then[] else lb (d/Nat.gcd n d)
def rv (s:Bool) (n m:List UInt32):Bool:=decide (s=zb s (val n)∧n=lb (val n/Nat.gcd (val n) (val (ud m)))∧m=xx (val n) (val (ud m)))
theorem CI {n d:Nat} (h:0<d):0<Nat.gcd n d:=Nat.gcd_pos_of_pos_right n h
theorem F8 {x:Nat}:lb x=[1]↔x=1:=⟨fun h=>FG (h.trans xw.symm),fun h=>by rw[h,xw]⟩
theorem HW {d:Nat} (h:0<d):xx 0 d=[]:=by unfold xx;rw[Nat.gcd_zero_left,Nat.div_self h,if_pos rfl]
theorem F9 {n:Nat}:xx n 1=[]:=by unfold xx;rw[Nat.gcd_one_right];rfl
end Go.Rl
namespace Go.Rl
open Go.RowKit Go.Proofs
theorem D3:ay Tryz.prog 192:=⟨_,Tryz.func192,by kernel_rfl,rfl⟩
theorem oe:ay Tryz.prog 188:=⟨_,Tryz.func188,by kernel_rfl,rfl⟩
theorem zc:ay Tryz.prog 172:=⟨_,Tryz.func172,by kernel_rfl,rfl⟩
theorem A1:ay Tryz.prog 171:=⟨_,Tryz.func171,by kernel_rfl,rfl⟩
theorem zd:ay Tryz.prog 140:=⟨_,Tryz.func140,by kernel_rfl,rfl⟩
theorem eR:ay Tryz.prog 96:=⟨_,Tryz.func96,by kernel_rfl,rfl⟩
theorem D7 {w:World}:
 Calls Tryz.prog 192 #[] w (bE fun r w'=>aI w w'∧bo [1] r w'):=by
 refine enter (vs:=[]) Tryz.func192 Ll Ll Ll ?_
 refine af (aa (ac Ll Ll (ag (ab (af (aa ?_))))))
 obtain⟨v1,w1,hr1,x1,o1,ob1⟩:=ir Tryz.underlying53 (w:=w) w.heap.size [1] (by simp) (Nat.le_refl _)
 refine aO (vs:=[(0,bA (1))]) Ll Ll hr1 (ac Ll Ll (ag (ab (av (aG Ll Ll ?_)))))
 exact⟨_,rfl,x1,o1.wds⟩
theorem og {w:World} {x:Nat} {v:Value} (hv:bo (lb x) v w):
 Calls Tryz.prog 188 #[v] w (bE fun r w'=>w=w'∧r=B (decide (x=1))):=by
 refine enter (vs:=[v]) Tryz.func188 Ll Ll Ll ?_
 obtain⟨t,ht⟩:∃t,t=lb x:=⟨_,rfl⟩
 rw[←ht] at hv
 have h1:x=1↔t=[1]:=by rw[ht];exact F8.symm
 refine af (aa (ac Ll Ll (ag (ab (af (aa (ae Ll Ll (aQ Ll Ll (bu KK hv) (ai Ll Ll Ll (aZ) ?_)))))))))
 refine ae Ll Ll ?_
 refine cO (fun h6=>?_) (fun h6=>?_)
 ·refine al Ll (ae Ll Ll (al Ll ?_))
  obtain⟨a8,p8,q8⟩:=cP KK hv (i:=0) (by omega) .i64
  refine aA Ll Ll Ll (p8 _) (al Ll (am Ll Ll (aj KL Ll q8) (al Ll (ai (v:=bA 1) Ll Ll Ll (kj) (aw Ll Ll Ll ?_)))))
  refine ac Ll Ll (ag (ab (av (aG Ll Ll ?_))))
  exact⟨_,rfl,rfl,by
   first
   |exact congrArg B (decide_eq_false fun h=>h6 (by rw[h1.1 h];rfl)).symm
   |exact congrArg B (decide_eq_decide.2 (by
     rw[h1]
     obtain⟨y,rfl⟩:=List.length_eq_one_iff.1 (show t.length=1 by omega)
     simp))⟩
 ·refine ao Ll Ll Ll (ao Ll Ll Ll (ao Ll Ll Ll (ao Ll Ll Ll (aC Ll Ll Ll (ac Ll Ll (ag (ab (av (aG Ll Ll ?_)))))))))
  exact⟨_,rfl,rfl,by
   first
   |exact congrArg B (decide_eq_false fun h=>h6 (by rw[h1.1 h];rfl)).symm
   |exact congrArg B (decide_eq_decide.2 (by
     rw[h1]
     obtain⟨y,rfl⟩:=List.length_eq_one_iff.1 (show t.length=1 by omega)
     simp))⟩
theorem ze {w:World} {b:Bool} {n m:List UInt32} {v:Value} (hv:di b n m v w) (hl:m.length≤1099511627776):
 Calls Tryz.prog 172 #[v] w (bE fun r w'=>aI w w'∧bo (ud m) r w'):=by
 refine enter (vs:=[v]) Tryz.func172 Ll Ll Ll ?_
 refine af (aa ?_)
 obtain⟨g1,y1,z1,w1,hr1,x1,k1,n1,d1⟩:=od hv
 refine cL Ll Ll hr1 (ac Ll Ll (ag (ab (af (af (aa (ah Ll Ll (aF (o:=2) KP Ll (by kernel_rfl) Ll) ?_)))))))
 refine am Ll Ll (aj KK Ll (k1.cell (i:=2) Ll)) (an AR Ll Ll (AS d1 hl) ?_)
 rintro v5 _ ⟨rfl,rfl⟩
 refine ai Ll Ll Ll (aZ) (ag (ab ?_))
 refine bi Ll (fun h6=>?_) (fun h6=>?_)
 ·have h0:val m=0:=by
   rcases Nat.eq_zero_or_pos (val m) with h|h
   ·exact h
   ·have:=ta h
    omega
  refine af (aa (an (vs:=[]) D3 Ll Ll (D7) ?_))
  rintro v7 w7 ⟨x7,b7⟩
  refine ac Ll Ll (ag (ab (av (au (aG Ll Ll ?_)))))
  exact⟨_,rfl,(x1.trans x7),by unfold ud;rw[if_pos h0];exact b7⟩
 ·have h0:val m≠0:=fun h=>h6 (by rw[h];rfl)
  refine ar (ab (af (aa (ah Ll Ll (aF (o:=2) KP Ll (by kernel_rfl) Ll) (am Ll Ll (aj KK Ll (k1.cell (i:=2) Ll)) ?_)))))
  refine ac Ll Ll (ag (ab (av (aG Ll Ll ?_))))
  exact⟨_,rfl,x1,by unfold ud;rw[if_neg h0];exact d1⟩
theorem A2 {w:World} {s:Bool} {n d:List UInt32} {x y:Value} (hn:bo n x w) (hd:bo d y w) (hnl:n.length≤274877906944) (hdl:d.length≤274877906944) (hd0:0<val d):
 Calls Tryz.prog 171 #[B s,x,y] w (bE fun r w'=>aI w w'∧di (zb s (val n)) (lb (val n/Nat.gcd (val n) (val d))) (xx (val n) (val d)) r w'):=by
 refine enter (vs:=[B s,x,y]) Tryz.func171 Ll Ll Ll ?_
 have hnn:=gO (cv n)
 have hdd:=gO (cv d)
 have hg0:=CI (n:=val n) hd0
 refine af (aa ?_)
 obtain⟨g6,w6,hr6,l6,x6,k6⟩:=fV (w:=w)
 refine bf Ll hr6 (ag (ab (af (aa (ae Ll Ll (an lh Ll Ll (li (hn.ext x6) (by omega)) ?_))))))
 rintro v9 w9 ⟨x9,b9⟩
 refine ac Ll Ll (ag (ab (af (af (aa (ae Ll Ll (aQ (r:=I ((lb (val n)).length:Int)) Ll Ll (bu KK b9) ?_)))))))
 refine ai Ll Ll Ll (aZ) (ag (ab ?_))
 refine bi Ll (fun h12=>?_) (fun h12=>?_)
 ·have hn0:val n=0:=gt.1 (by omega)
  refine af (aa ?_)
  refine bm (vs:=[]) Ll Ll el ?_
  obtain⟨p,q,w3,hp,hs,q3,k3,n3,d3⟩:=(k6.ext (x9)).stR ⟨_,_,_,rfl⟩ ⟨_,_,_,rfl⟩ (di.mk (b:=false) (bo.nil _) (bo.nil _))
  refine aq Ll Ll (hs) (ag (ab (av (au ?_))))
  refine dR Ll Ll k3 KP Ll cV ?_
  exact⟨_,rfl,((x6.trans x9)).of_new q3 l6,p,q,by rw[hn0];unfold zb;simp,by rw[hn0,Nat.zero_div];exact n3,by rw[hn0,HW hd0];exact d3⟩
 ·have hn0:0<val n:=by
   rcases Nat.eq_zero_or_pos (val n) with h|h
   ·rw[h] at h12;simp[f9] at h12
   ·exact h
  have hcN:zb s (val n)=s:=by unfold zb;rw[decide_eq_true hn0,Bool.and_true]
  rw[hcN]
  refine ar (ab (af (aa (ae Ll Ll (an lh Ll Ll (li (hd.ext (x6.trans x9)) (by omega)) ?_)))))
  rintro v15 w15 ⟨x15,b15⟩
  refine ac Ll Ll (ag (ab (af (af (aa (ae Ll Ll (an oe Ll Ll (og b15) ?_)))))))
  rintro v17 _ ⟨rfl,rfl⟩
  refine ag (ab ?_)
  refine bi Ll (fun h17=>?_) (fun h17=>?_)
  ·refine af (aa (ae Ll Ll (ae Ll Ll ?_)))
   refine bm (vs:=[(0,B s),(1,v9)]) Ll Ll (D1 b9.isS) ?_
   obtain⟨p,q,w3,hp,hs,q3,k3,n3,d3⟩:=(k6.ext ((x9.trans x15))).stR ⟨_,_,_,rfl⟩ ⟨_,_,_,rfl⟩ (di.mk (b:=s) (b9.ext (x15)) (bo.nil _))
   refine aq Ll Ll (hs) (ag (ab (av (au ?_))))
   refine dR Ll Ll k3 KP Ll cV ?_
   exact⟨_,rfl,(((x6.trans x9).trans x15)).of_new q3 l6,p,q,rfl,by rw[h17,Nat.gcd_one_right,Nat.div_one];exact n3,by rw[h17,F9];exact d3⟩
  ·obtain⟨g,hg⟩:∃g,g=Nat.gcd (val n) (val d):=⟨_,rfl⟩
   rw[←hg] at hg0⊢
   have hgl:(lb g).length≤d.length:=Nat.le_trans (ku (by rw[hg];exact Nat.gcd_le_right _ hd0)) hdd
   refine ar (ab (af ?_))
   refine fj (fun p:Value×Value=>[(0,B s),(1,p.1),(2,p.2),(6,.pointer (some ⟨g6,0,none⟩))]) (fun p w'=>aI w15 w'∧bo (lb (val n/g)) p.1 w'∧bo (lb (val d/g)) p.2 w') ?_ ?_
   ·refine af (aa (ae Ll Ll (ae Ll Ll (an DV Ll Ll ((by have:=DX (b9.ext x15) b15 (by omega) (by omega);rw[bP,bP] at this;exact this)) ?_))))
    rintro v23 w23 ⟨x23,b23⟩
    rw[←hg] at b23
    refine ac Ll Ll (ag (ab (af (aa (ae Ll Ll (an oe Ll Ll (og b23) ?_))))))
    rintro v25 _ ⟨rfl,rfl⟩
    refine bI Ll Ll HJ (ag (ab ?_))
    refine bi Ll (fun h26=>?_) (fun h26=>?_)
    ·refine af (aa (ae Ll Ll (ae Ll Ll (an jg Ll Ll ((by have:=jh (b9.ext (x15.trans x23)) b23 (by omega) (by omega) (by rw[bP];exact hg0);rw[bP,bP] at this;exact this)) ?_))))
     rintro v30 w30 ⟨x30,q1,s1,rfl,c1,e1⟩
     refine ae Ll Ll (ak Ll Ll (ep) (ak Ll Ll eq (ak Ll Ll er (ac Ll Ll (ag (ab (aa (ae Ll Ll (ae Ll Ll ?_)))))))))
     refine an jg Ll Ll ((by have:=jh (b15.ext (x23.trans x30)) (b23.ext x30) (by omega) (by omega) (by rw[bP];exact hg0);rw[bP,bP] at this;exact this)) ?_
     rintro v37 w37 ⟨x37,q2,s2,rfl,c2,e2⟩
     refine ae Ll Ll (ak Ll Ll (ep) (ak Ll Ll eq (ak Ll Ll er (ac Ll Ll (ag ?_)))))
     exact cz (q1,q2) ⟨rfl,rfl,rfl,rfl,trivial⟩ ⟨((x23.trans x30).trans x37),by first|exact(c1.ext x37)|(rw[show g=1 from Classical.byContradiction fun h=>h26 h,Nat.div_one];exact(c1.ext x37)),by first|exact c2|(rw[show g=1 from Classical.byContradiction fun h=>h26 h,Nat.div_one];exact c2)⟩
    ·refine ar ?_
     exact cz (v9,v15) ⟨rfl,rfl,rfl,rfl,trivial⟩ ⟨x23,by first|exact(b9.ext (x15.trans x23))|(rw[show g=1 from Classical.byContradiction fun h=>h26 h,Nat.div_one];exact(b9.ext (x15.trans x23))),by first|exact(b15.ext x23)|(rw[show g=1 from Classical.byContradiction fun h=>h26 h,Nat.div_one];exact(b15.ext x23))⟩
   rintro⟨v1,v2⟩ w8 ⟨x8,b1,b2⟩
   refine ab (af ?_)
   refine fj (fun p:Value=>[(0,B s),(1,v1),(2,p),(6,.pointer (some ⟨g6,0,none⟩))]) (fun p w'=>w8=w'∧bo (xx (val n) (val d)) p w') ?_ ?_
   ·refine af (aa (ae Ll Ll (an oe Ll Ll (og b2) ?_)))
    rintro v42 _ ⟨rfl,rfl⟩
    refine ag (ab ?_)
    refine bi Ll (fun h42=>?_) (fun h42=>?_)
    ·refine aa (ac Ll Ll (ag ?_))
     exact cz (.slice none 0 0) ⟨rfl,rfl,rfl,rfl,trivial⟩ ⟨rfl,by unfold xx;rw[←hg];first|(rw[if_pos h42];exact bo.nil _)|(rw[if_neg h42];exact b2)⟩
    ·refine ar ?_
     exact cz (v2) ⟨rfl,rfl,rfl,rfl,trivial⟩ ⟨rfl,by unfold xx;rw[←hg];first|(rw[if_pos h42];exact bo.nil _)|(rw[if_neg h42];exact b2)⟩
   rintro v2' _ ⟨rfl,b2'⟩
   refine ab (af (aa (ae Ll Ll (ae Ll Ll (ae Ll Ll ?_)))))
   refine bm (vs:=[(0,B s),(1,v1),(2,v2')]) Ll Ll (kv b1.isS b2'.isS) ?_
   obtain⟨p,q,w3,hp,hs,q3,k3,n3,d3⟩:=(k6.ext (((x9.trans x15).trans x8))).stR ⟨_,_,_,rfl⟩ ⟨_,_,_,rfl⟩ (di.mk (b:=s) b1 b2')
   refine aq Ll Ll (hs) (ag (ab (av ?_)))
   refine dR Ll Ll k3 KP Ll cV ?_
   exact⟨_,rfl,((((x6.trans x9).trans x15).trans x8)).of_new q3 l6,p,q,rfl,n3,d3⟩
theorem Ga {m:List UInt32} (h:m.length≤137438953472):(ud m).length≤137438953472:=by
 unfold ud
 split
 ·simp
 ·exact h
theorem zf {w:World} {b:Bool} {n m:List UInt32} {v:Value} (hv:di b n m v w) (hnl:n.length≤137438953472) (hml:m.length≤137438953472):
 Calls Tryz.prog 140 #[v] w (bE fun r w'=>aI w w'∧di (zb b (val n)) (lb (val n/Nat.gcd (val n) (val (ud m)))) (xx (val n) (val (ud m))) r w'):=by
 refine enter (vs:=[v]) Tryz.func140 Ll Ll Ll ?_
 refine af (aa ?_)
 obtain⟨g1,y1,z1,w1,hr1,x1,k1,n1,d1⟩:=od hv
 refine cL Ll Ll hr1 ?_
 obtain⟨g2,w2,hr2,l2,x2,k2⟩:=fV (w:=w1)
 refine bf Ll hr2 (ag (ab (af (bz 7 [2,9] (by kernel_rfl) (by kernel_rfl) ?_))))
 refine aN Ll Ll (fun w hw=>aF (o:=0) KP Ll (by kernel_rfl) Ll) (aE Ll Ll (fun w hw=>aj KU Ll (hw.cell_some (x2.cell_some (k1.cell (i:=0) Ll)))) ?_)
 refine aN Ll Ll (fun w hw=>aF (o:=1) KP Ll (by kernel_rfl) Ll) (aE Ll Ll (fun w hw=>aj KK Ll (hw.cell_some (x2.cell_some (k1.cell (i:=1) Ll)))) ?_)
 refine aE rfl rfl (fun w hw=>((k1.ext x2).ext hw).ldR) (ce (S:=bo (ud m)) zc (bo.stable _) rfl (fun w hw=>by rintro _ rfl;exact ze (((di.mk n1 d1).ext x2).ext hw) (by omega)) ?_)
 refine ce (S:=di (zb b (val n)) (lb (val n/Nat.gcd (val n) (val (ud m)))) (xx (val n) (val (ud m)))) A1 (di.stable _ _ _) rfl (fun w hw=>by rintro _ rfl _ rfl z hz;exact A2 ((n1.ext x2).ext hw) hz (by omega) (by have:=Ga hml;omega) (F7 m)) ?_
 refine bF ?_
 intro wg1 xg1
 rintro _ rfl
 intro vg9 b9
 obtain⟨p,q,w3,hp,hs,q3,k3,n3,d3⟩:=(k2.ext xg1).stR ⟨_,_,_,rfl⟩ ⟨_,_,_,rfl⟩ b9
 refine aq Ll Ll (hs) (ag (ab (av ?_)))
 refine dR Ll Ll k3 KP Ll cV ?_
 exact⟨_,rfl,(((x1.trans x2).trans xg1)).of_new q3 (Nat.le_trans x1.size l2),p,q,rfl,n3,d3⟩
theorem cQ {x y:Nat}:qu x y=0↔x=y:=by
 unfold qu
 split
 ·omega
 ·split<;>omega
theorem xy {b:Bool} {n:List UInt32}:rv b n []=decide (b=zb b (val n)∧n=lb (val n)):=by
 unfold rv
 rw[show val (ud [])=1 from rfl,Nat.gcd_one_right,Nat.div_one,F9]
 simp
theorem mJ {w:World} {b:Bool} {n m:List UInt32} {v:Value} (hv:di b n m v w) (hnl:n.length≤137438953472) (hml:m.length≤137438953472):
 Calls Tryz.prog 96 #[v] w (bE fun r w'=>aI w w'∧r=B (rv b n m)):=by
 refine enter (vs:=[v]) Tryz.func96 Ll Ll Ll ?_
 obtain⟨b',hb'⟩:∃b',b'=zb b (val n):=⟨_,rfl⟩
 obtain⟨n',hn'⟩:∃n',n'=lb (val n/Nat.gcd (val n) (val (ud m))):=⟨_,rfl⟩
 obtain⟨m',hm'⟩:∃m',m'=xx (val n) (val (ud m)):=⟨_,rfl⟩
 have hrv:rv b n m=decide (b=b'∧n=n'∧m=m'):=by rw[hb',hn',hm'];rfl
 refine af (aa ?_)
 obtain⟨g1,y1,z1,w1,hr1,x1,k1,n1,d1⟩:=od hv
 refine cL Ll Ll hr1 (ac Ll Ll (ag (ab (af (af (aa (ah Ll Ll (aF (o:=2) KP Ll (by kernel_rfl) Ll) ?_)))))))
 refine am Ll Ll (aj KK Ll (k1.cell (i:=2) Ll)) (aQ Ll Ll (bu KK d1) (ai Ll Ll Ll (aZ) ?_))
 refine ag (ab ?_)
 refine bi Ll (fun h7=>?_) (fun h7=>?_)
 ·have hm0:m=[]:=List.eq_nil_of_length_eq_zero (by omega)
  subst hm0
  refine af ?_
  cases b
  ·refine aa (ah Ll Ll (aF (o:=1) KP Ll (by kernel_rfl) Ll) (am Ll Ll (aj KK Ll (k1.cell (i:=1) Ll)) ?_))
   refine an rj Ll Ll (rk n1) ?_
   rintro v10 _ ⟨rfl,rfl⟩
   refine ae Ll Ll ?_
   refine cO (fun h11=>?_) (fun h11=>?_)
   ·refine al Ll (ah Ll Ll (aF (o:=0) KP Ll (by kernel_rfl) Ll) (al Ll (am Ll Ll (aj KU Ll (k1.cell (i:=0) Ll)) ?_)))
    refine al Ll (bI Ll Ll bK (al Ll (ae Ll Ll (ao Ll Ll Ll (ao Ll Ll Ll (ao Ll Ll Ll (ao Ll Ll Ll (al Ll (aw Ll Ll Ll (aw Ll Ll Ll ?_))))))))))
    refine ac Ll Ll (ag (ab (av (au (aG Ll Ll ?_)))))
    exact⟨_,rfl,x1,by
     rw[xy]
     first
     |exact congrArg B (decide_eq_true ⟨rfl,h11.symm⟩).symm
     |exact congrArg B (decide_eq_false fun h=>h11 h.2.symm).symm
     |(have e:=@gt (val n)
       rw[h11] at e
       refine congrArg B (decide_eq_decide.2 ⟨fun h=>⟨(decide_eq_true (show 0<val n by omega)).symm,h11.symm⟩,fun h=>?_⟩)
       have:0<val n:=of_decide_eq_true h.1.symm
       omega)⟩
   ·refine ao Ll Ll Ll (ao Ll Ll Ll (ao Ll Ll Ll (ao Ll Ll Ll (cS Ll Ll Ll (cS Ll Ll Ll (cS Ll Ll Ll (cS Ll Ll Ll (ao Ll Ll Ll ?_))))))))
    refine aC Ll Ll Ll (ac Ll Ll (ag (ab (av (au (aG Ll Ll ?_))))))
    exact⟨_,rfl,x1,by
     rw[xy]
     first
     |exact congrArg B (decide_eq_true ⟨rfl,h11.symm⟩).symm
     |exact congrArg B (decide_eq_false fun h=>h11 h.2.symm).symm
     |(have e:=@gt (val n)
       rw[h11] at e
       refine congrArg B (decide_eq_decide.2 ⟨fun h=>⟨(decide_eq_true (show 0<val n by omega)).symm,h11.symm⟩,fun h=>?_⟩)
       have:0<val n:=of_decide_eq_true h.1.symm
       omega)⟩
  ·refine aa (ah Ll Ll (aF (o:=1) KP Ll (by kernel_rfl) Ll) (am Ll Ll (aj KK Ll (k1.cell (i:=1) Ll)) ?_))
   refine an rj Ll Ll (rk n1) ?_
   rintro v10 _ ⟨rfl,rfl⟩
   refine ae Ll Ll ?_
   refine cO (fun h11=>?_) (fun h11=>?_)
   ·refine al Ll (ah Ll Ll (aF (o:=0) KP Ll (by kernel_rfl) Ll) (al Ll (am Ll Ll (aj KU Ll (k1.cell (i:=0) Ll)) ?_)))
    refine al Ll (bI Ll Ll bK (al Ll (ae Ll Ll (al Ll (ah Ll Ll (aF (o:=1) KP Ll (by kernel_rfl) Ll) ?_)))))
    refine al Ll (am Ll Ll (aj KK Ll (k1.cell (i:=1) Ll)) (al Ll (aQ Ll Ll (bu KK n1) ?_)))
    refine al Ll (ai Ll Ll Ll (ck) (al Ll (aC Ll Ll Ll (aw Ll Ll Ll (ac Ll Ll (ag (ab (av (au (aG Ll Ll ?_))))))))))
    exact⟨_,rfl,x1,by
     rw[xy]
     first
     |exact congrArg B (decide_eq_true ⟨rfl,h11.symm⟩).symm
     |exact congrArg B (decide_eq_false fun h=>h11 h.2.symm).symm
     |(have e:=@gt (val n)
       rw[h11] at e
       refine congrArg B (decide_eq_decide.2 ⟨fun h=>⟨(decide_eq_true (show 0<val n by omega)).symm,h11.symm⟩,fun h=>?_⟩)
       have:0<val n:=of_decide_eq_true h.1.symm
       omega)⟩
   ·refine ao Ll Ll Ll (ao Ll Ll Ll (ao Ll Ll Ll (ao Ll Ll Ll (cS Ll Ll Ll (cS Ll Ll Ll (cS Ll Ll Ll (cS Ll Ll Ll (ao Ll Ll Ll ?_))))))))
    refine aC Ll Ll Ll (ac Ll Ll (ag (ab (av (au (aG Ll Ll ?_))))))
    exact⟨_,rfl,x1,by
     rw[xy]
     first
     |exact congrArg B (decide_eq_true ⟨rfl,h11.symm⟩).symm
     |exact congrArg B (decide_eq_false fun h=>h11 h.2.symm).symm
     |(have e:=@gt (val n)
       rw[h11] at e
       refine congrArg B (decide_eq_decide.2 ⟨fun h=>⟨(decide_eq_true (show 0<val n by omega)).symm,h11.symm⟩,fun h=>?_⟩)
       have:0<val n:=of_decide_eq_true h.1.symm
       omega)⟩
 ·refine ar (ab (af (aa (am Ll Ll (k1.ldR) (an zd Ll Ll (zf (di.mk n1 d1) hnl hml) ?_)))))
  rintro v23 w23 ⟨x23,b23⟩
  rw[←hb',←hn',←hm'] at b23
  obtain⟨g3,w3,hr3,l3,x3,k3⟩:=fV (w:=w23)
  refine bf Ll hr3 ?_
  obtain⟨p,q,w4,hp,hs,q4,k4,n3,d3⟩:=k3.stR ⟨_,_,_,rfl⟩ ⟨_,_,_,rfl⟩ (b23.ext x3)
  refine aq Ll Ll (hs) ?_
  have x4:=(x23.trans x3).of_new q4 (Nat.le_trans x23.size l3)
  refine ag (ab (af (aa (ah Ll Ll (aF (o:=0) KP Ll (by kernel_rfl) Ll) (am Ll Ll (aj KU Ll (x4.cell_some (k1.cell (i:=0) Ll))) ?_)))))
  refine ah Ll Ll (aF (o:=0) KP Ll (by kernel_rfl) Ll) (am Ll Ll (aj KU Ll (k4.cell (i:=0) Ll)) ?_)
  refine ai Ll Ll Ll (xv KU) (ae Ll Ll ?_)
  refine cO (fun h29=>?_) (fun h29=>?_)
  ·refine al Ll (ah Ll Ll (aF (o:=1) KP Ll (by kernel_rfl) Ll) (al Ll (am Ll Ll (aj KK Ll (x4.cell_some (k1.cell (i:=1) Ll))) ?_)))
   refine al Ll (aQ Ll Ll (bu KK (n1.ext x4)) (al Ll (ah Ll Ll (aF (o:=1) KP Ll (by kernel_rfl) Ll) ?_)))
   refine al Ll (am Ll Ll (aj KK Ll (k4.cell (i:=1) Ll)) (al Ll (aQ Ll Ll (bu KK n3) ?_)))
   refine al Ll (ai Ll Ll Ll (aZ) (aw Ll Ll Ll (ae Ll Ll ?_)))
   refine cO (fun h38=>?_) (fun h38=>?_)
   ·refine al Ll (ah Ll Ll (aF (o:=2) KP Ll (by kernel_rfl) Ll) (al Ll (am Ll Ll (aj KK Ll (x4.cell_some (k1.cell (i:=2) Ll))) ?_)))
    refine al Ll (aQ Ll Ll (bu KK (d1.ext x4)) (al Ll (ah Ll Ll (aF (o:=2) KP Ll (by kernel_rfl) Ll) ?_)))
    refine al Ll (am Ll Ll (aj KK Ll (k4.cell (i:=2) Ll)) (al Ll (aQ Ll Ll (bu KK d3) ?_)))
    refine al Ll (ai Ll Ll Ll (aZ) (aw Ll Ll Ll (ae Ll Ll ?_)))
    refine cO (fun h47=>?_) (fun h47=>?_)
    ·refine al Ll (ah Ll Ll (aF (o:=1) KP Ll (by kernel_rfl) Ll) (al Ll (am Ll Ll (aj KK Ll (x4.cell_some (k1.cell (i:=1) Ll))) ?_)))
     refine al Ll (ah Ll Ll (aF (o:=1) KP Ll (by kernel_rfl) Ll) (al Ll (am Ll Ll (aj KK Ll (k4.cell (i:=1) Ll)) ?_)))
     refine al Ll (an qv Ll Ll (qx (n1.ext x4) n3) ?_)
     rintro v52 w52 ⟨x52,rfl⟩
     refine al Ll (ai Ll Ll Ll (aZ) (aw Ll Ll Ll (ae Ll Ll ?_)))
     refine cO (fun h55=>?_) (fun h55=>?_)
     ·refine al Ll (ah Ll Ll (aF (o:=2) KP Ll (by kernel_rfl) Ll) (al Ll (am Ll Ll (aj KK Ll ((x4.trans x52).cell_some (k1.cell (i:=2) Ll))) ?_)))
      refine al Ll (ah Ll Ll (aF (o:=2) KP Ll (by kernel_rfl) Ll) (al Ll (am Ll Ll (aj KK Ll (x52.cell_some (k4.cell (i:=2) Ll))) ?_)))
      refine al Ll (an qv Ll Ll (qx (d1.ext (x4.trans x52)) (d3.ext x52)) ?_)
      rintro v60 w60 ⟨x60,rfl⟩
      refine al Ll (ai Ll Ll Ll (aZ) (aw Ll Ll Ll (ac Ll Ll (ag (ab (av (aG Ll Ll ?_)))))))
      exact⟨_,rfl,(((x1.trans x4).trans x52).trans x60),by
       rw[hrv]
       first
       |exact congrArg B (decide_eq_decide.2 ⟨fun h=>⟨h29,ij (by omega) (cQ.1 h55),ij (by omega) (cQ.1 h)⟩,fun h=>cQ.2 (by rw[h.2.2])⟩)
       |exact congrArg B (decide_eq_false fun h=>h55 (cQ.2 (by rw[h.2.1]))).symm
       |exact congrArg B (decide_eq_false fun h=>h47 (by rw[h.2.2])).symm
       |exact congrArg B (decide_eq_false fun h=>h38 (by rw[h.2.1])).symm
       |exact congrArg B (decide_eq_false fun h=>h29 h.1).symm⟩
     ·refine ao Ll Ll Ll (ao Ll Ll Ll (ao Ll Ll Ll (ao Ll Ll Ll (ao Ll Ll Ll (ao Ll Ll Ll (aC Ll Ll Ll (ac Ll Ll (ag (ab (av (aG Ll Ll ?_)))))))))))
      exact⟨_,rfl,((x1.trans x4).trans x52),by
       rw[hrv]
       first
       |exact congrArg B (decide_eq_decide.2 ⟨fun h=>⟨h29,ij (by omega) (cQ.1 h55),ij (by omega) (cQ.1 h)⟩,fun h=>cQ.2 (by rw[h.2.2])⟩)
       |exact congrArg B (decide_eq_false fun h=>h55 (cQ.2 (by rw[h.2.1]))).symm
       |exact congrArg B (decide_eq_false fun h=>h47 (by rw[h.2.2])).symm
       |exact congrArg B (decide_eq_false fun h=>h38 (by rw[h.2.1])).symm
       |exact congrArg B (decide_eq_false fun h=>h29 h.1).symm⟩
    ·refine ao Ll Ll Ll (ao Ll Ll Ll (ao Ll Ll Ll (ao Ll Ll Ll (ao Ll Ll Ll (ao Ll Ll Ll (aC Ll Ll Ll (ae Ll Ll (ao Ll Ll Ll (ao Ll Ll Ll ?_)))))))))
     refine ao Ll Ll Ll (ao Ll Ll Ll (ao Ll Ll Ll (ao Ll Ll Ll (aC Ll Ll Ll (ac Ll Ll (ag (ab (av (aG Ll Ll ?_)))))))))
     exact⟨_,rfl,(x1.trans x4),by
      rw[hrv]
      first
      |exact congrArg B (decide_eq_decide.2 ⟨fun h=>⟨h29,ij (by omega) (cQ.1 h55),ij (by omega) (cQ.1 h)⟩,fun h=>cQ.2 (by rw[h.2.2])⟩)
      |exact congrArg B (decide_eq_false fun h=>h55 (cQ.2 (by rw[h.2.1]))).symm
      |exact congrArg B (decide_eq_false fun h=>h47 (by rw[h.2.2])).symm
      |exact congrArg B (decide_eq_false fun h=>h38 (by rw[h.2.1])).symm
      |exact congrArg B (decide_eq_false fun h=>h29 h.1).symm⟩
   ·refine ao Ll Ll Ll (ao Ll Ll Ll (ao Ll Ll Ll (ao Ll Ll Ll (ao Ll Ll Ll (ao Ll Ll Ll (ao Ll Ll Ll (aC Ll Ll Ll (ae Ll Ll (ao Ll Ll Ll ?_)))))))))
    refine ao Ll Ll Ll (ao Ll Ll Ll (ao Ll Ll Ll (ao Ll Ll Ll (ao Ll Ll Ll (aC Ll Ll Ll (ae Ll Ll (ao Ll Ll Ll (ao Ll Ll Ll (ao Ll Ll Ll ?_)))))))))
    refine ao Ll Ll Ll (ao Ll Ll Ll (ao Ll Ll Ll (aC Ll Ll Ll (ac Ll Ll (ag (ab (av (aG Ll Ll ?_))))))))
    exact⟨_,rfl,(x1.trans x4),by
     rw[hrv]
     first
     |exact congrArg B (decide_eq_decide.2 ⟨fun h=>⟨h29,ij (by omega) (cQ.1 h55),ij (by omega) (cQ.1 h)⟩,fun h=>cQ.2 (by rw[h.2.2])⟩)
     |exact congrArg B (decide_eq_false fun h=>h55 (cQ.2 (by rw[h.2.1]))).symm
     |exact congrArg B (decide_eq_false fun h=>h47 (by rw[h.2.2])).symm
     |exact congrArg B (decide_eq_false fun h=>h38 (by rw[h.2.1])).symm
     |exact congrArg B (decide_eq_false fun h=>h29 h.1).symm⟩
  ·refine ao Ll Ll Ll (ao Ll Ll Ll (ao Ll Ll Ll (ao Ll Ll Ll (ao Ll Ll Ll (ao Ll Ll Ll (ao Ll Ll Ll (aC Ll Ll Ll (ae Ll Ll (ao Ll Ll Ll ?_)))))))))
   refine ao Ll Ll Ll (ao Ll Ll Ll (ao Ll Ll Ll (ao Ll Ll Ll (ao Ll Ll Ll (ao Ll Ll Ll (aC Ll Ll Ll (ae Ll Ll (ao Ll Ll Ll (ao Ll Ll Ll ?_)))))))))
   refine ao Ll Ll Ll (ao Ll Ll Ll (ao Ll Ll Ll (ao Ll Ll Ll (aC Ll Ll Ll (ae Ll Ll (ao Ll Ll Ll (ao Ll Ll Ll (ao Ll Ll Ll (ao Ll Ll Ll ?_)))))))))
   refine ao Ll Ll Ll (ao Ll Ll Ll (aC Ll Ll Ll (ac Ll Ll (ag (ab (av (aG Ll Ll ?_)))))))
   exact⟨_,rfl,(x1.trans x4),by
    rw[hrv]
    first
    |exact congrArg B (decide_eq_decide.2 ⟨fun h=>⟨h29,ij (by omega) (cQ.1 h55),ij (by omega) (cQ.1 h)⟩,fun h=>cQ.2 (by rw[h.2.2])⟩)
    |exact congrArg B (decide_eq_false fun h=>h55 (cQ.2 (by rw[h.2.1]))).symm
    |exact congrArg B (decide_eq_false fun h=>h47 (by rw[h.2.2])).symm
    |exact congrArg B (decide_eq_false fun h=>h38 (by rw[h.2.1])).symm
    |exact congrArg B (decide_eq_false fun h=>h29 h.1).symm⟩
end Go.Rl
namespace Go.Rl
open Go.RowKit Go.Proofs
theorem D8:ay Tryz.prog 169:=⟨_,Tryz.func169,by kernel_rfl,rfl⟩
theorem A3:ay Tryz.prog 168:=⟨_,Tryz.func168,by kernel_rfl,rfl⟩
theorem zh:ay Tryz.prog 135:=⟨_,Tryz.func135,by kernel_rfl,rfl⟩
theorem ly:ay Tryz.prog 134:=⟨_,Tryz.func134,by kernel_rfl,rfl⟩
theorem ry:ay Tryz.prog 90:=⟨_,Tryz.func90,by kernel_rfl,rfl⟩
theorem D9 {w:World} {m:List UInt32} {v:Value} (hv:bo m v w) (hl:m.length≤137438953472):
 Calls Tryz.prog 169 #[v] w (bE fun r w'=>aI w w'∧bo (lb (val (ud m))) r w'):=by
 refine enter (vs:=[v]) Tryz.func169 Ll Ll Ll ?_
 obtain⟨t,ht⟩:∃t,t=lb (val m):=⟨_,rfl⟩
 refine af (aa (ac Ll Ll (ag (ab (af (aa (ae Ll Ll (an eX Ll Ll (fz hv (by omega)) ?_))))))))
 rintro v5 w5 ⟨x5,b5⟩
 rw[←ht] at b5
 refine ac Ll Ll (ag (ab (af (af (aa (ae Ll Ll (aQ Ll Ll (bu KK b5) (ai Ll Ll Ll (aZ) (ag ?_)))))))))
 refine ab ?_
 refine bi Ll (fun h8=>?_) (fun h8=>?_)
 ·have h0:val m=0:=gt.1 (by rw[←ht];omega)
  refine af (aa ?_)
  obtain⟨v9,w9,hr9,x9,o9,ob9⟩:=ir Tryz.underlying53 (w:=w5) w5.heap.size [1] (by simp) (Nat.le_refl _)
  refine aO (vs:=[(0,bA (1))]) Ll Ll hr9 (ac Ll Ll (ag (ab (av (au (aG Ll Ll ?_))))))
  exact⟨_,rfl,(x5.trans x9),by rw[A0,if_pos h0,xw];exact o9.wds⟩
 ·have h0:val m≠0:=fun h=>h8 (by rw[ht,h];rfl)
  refine ar (ab (af (aa (ae Ll Ll (ac Ll Ll (ag (ab (av (aG Ll Ll ?_)))))))))
  exact⟨_,rfl,x5,by rw[A0,if_neg h0,←ht];exact b5⟩
theorem A4 {w:World} {s:Bool} {n d:List UInt32} {x y:Value} (hn:bo n x w) (hd:bo d y w) (hnl:n.length≤274877906944) (hdl:d.length≤274877906944) (hd0:0<val d):
 Calls Tryz.prog 168 #[B s,x,y] w (bE fun r w'=>aI w w'∧di (zb s (val n)) (lb (val n/Nat.gcd (val n) (val d))) (xx (val n) (val d)) r w'):=by
 refine enter (vs:=[B s,x,y]) Tryz.func168 Ll Ll Ll ?_
 have hg0:=CI (n:=val n) hd0
 obtain⟨g,hg⟩:∃g,g=Nat.gcd (val n) (val d):=⟨_,rfl⟩
 have hgl:(lb g).length≤d.length:=Nat.le_trans (ku (by rw[hg];exact Nat.gcd_le_right _ hd0)) (gO (cv d))
 obtain⟨e,he⟩:∃e,e=lb (val d/g):=⟨_,rfl⟩
 obtain⟨a,ha⟩:∃a,a=lb (val n/g):=⟨_,rfl⟩
 have hc:decide ((a.length:Int)>0)=decide (0<val n):=by
  have e0:=@gt (val n/g)
  have e1:val n/g=0↔val n=0:=by
   rw[hg]
   constructor
   ·intro h
    have:=Nat.div_mul_cancel (Nat.gcd_dvd_left (val n) (val d))
    rw[h] at this;omega
   ·intro h
    rw[h,Nat.zero_div]
  rw[←ha] at e0
  exact decide_eq_decide.2 (by omega)
 have hq:xx (val n) (val d)=if e=[1] then[] else e:=by
  unfold xx
  rw[←hg]
  by_cases h1:val d/g=1
  ·rw[if_pos h1,if_pos (by rw[he,h1,xw])]
  ·rw[if_neg h1,if_neg (fun h=>h1 (F8.1 (he▸h))),he]
 rw[←hg] at hg0⊢
 rw[←ha]
 refine af (aa ?_)
 obtain⟨g6,w6,hr6,l6,x6,k6⟩:=fV (w:=w)
 refine bf Ll hr6 (ag (ab (af (aa (ae Ll Ll (ae Ll Ll (an DU Ll Ll (DW (hn.ext x6) (hd.ext x6) hnl hdl) ?_)))))))
 rintro v16 w16 ⟨x16,b16⟩
 rw[←hg] at b16
 refine ac Ll Ll (ag (ab (af (aa (ae Ll Ll (ae Ll Ll (an ll Ll Ll ((by have:=lm (hn.ext (x6.trans x16)) b16 hnl (by omega) (by rw[bP];exact hg0);rw[bP,←ha] at this;exact this)) ?_)))))))
 rintro v20 w20 ⟨x20,q1,r1,rfl,s1,u1⟩
 refine ae Ll Ll (ak Ll Ll (ep) (ak Ll Ll eq (ak Ll Ll er (ac Ll Ll (ac Ll Ll (ac Ll Ll (ag (ab ?_))))))))
 refine af (aa (ae Ll Ll (ae Ll Ll (an ll Ll Ll ((by have:=lm (hd.ext ((x6.trans x16).trans x20)) (b16.ext x20) hdl (by omega) (by rw[bP];exact hg0);rw[bP,←he] at this;exact this)) ?_))))
 rintro v27 w27 ⟨x27,q2,r2,rfl,s2,u2⟩
 refine ae Ll Ll (ak Ll Ll (ep) (ak Ll Ll eq (ak Ll Ll er (ac Ll Ll (ac Ll Ll (ac Ll Ll (ag (ab ?_))))))))
 refine af ?_
 refine fj (fun p:Value=>[(0,B s),(8,q1),(11,p),(6,.pointer (some ⟨g6,0,none⟩))]) (fun p w'=>w27=w'∧bo (xx (val n) (val d)) p w') ?_ ?_
 ·refine af (aa (ae Ll Ll (aQ Ll Ll (bu KK s2) (ai Ll Ll Ll (aZ) (ae Ll Ll ?_)))))
  refine cO (fun h34=>?_) (fun h34=>?_)
  ·refine al Ll (ae Ll Ll (al Ll ?_))
   obtain⟨a36,p36,q36⟩:=cP KK s2 (i:=0) (by omega) .i64
   refine aA Ll Ll Ll (p36 _) (al Ll (am Ll Ll (aj KL Ll q36) (al Ll (ai (v:=bA 1) Ll Ll Ll (kj) (aw Ll Ll Ll ?_)))))
   refine ag (ab ?_)
   refine bi Ll (fun h39=>?_) (fun h39=>?_)
   ·refine aa (ac Ll Ll (ag ?_))
    exact cz (.slice none 0 0) ⟨rfl,rfl,rfl,rfl,trivial⟩ ⟨rfl,by
     rw[hq]
     first
     |(rw[if_pos (by
        obtain⟨y,rfl⟩:=List.length_eq_one_iff.1 (show e.length=1 by omega)
        simpa using h39)];exact bo.nil _)
     |(rw[if_neg (fun h=>by subst h;exact h39 rfl)];exact s2)
     |(rw[if_neg (fun h=>by subst h;exact h34 rfl)];exact s2)⟩
   ·refine ar ?_
    exact cz (q2) ⟨rfl,rfl,rfl,rfl,trivial⟩ ⟨rfl,by
     rw[hq]
     first
     |(rw[if_pos (by
        obtain⟨y,rfl⟩:=List.length_eq_one_iff.1 (show e.length=1 by omega)
        simpa using h39)];exact bo.nil _)
     |(rw[if_neg (fun h=>by subst h;exact h39 rfl)];exact s2)
     |(rw[if_neg (fun h=>by subst h;exact h34 rfl)];exact s2)⟩
  ·refine ao Ll Ll Ll (ao Ll Ll Ll (ao Ll Ll Ll (ao Ll Ll Ll (aC Ll Ll Ll (ag (ab (cp Ll (ar ?_))))))))
   exact cz (q2) ⟨rfl,rfl,rfl,rfl,trivial⟩ ⟨rfl,by
    rw[hq]
    first
    |(rw[if_pos (by
       obtain⟨y,rfl⟩:=List.length_eq_one_iff.1 (show e.length=1 by omega)
       simpa using h39)];exact bo.nil _)
    |(rw[if_neg (fun h=>by subst h;exact h39 rfl)];exact s2)
    |(rw[if_neg (fun h=>by subst h;exact h34 rfl)];exact s2)⟩
 rintro v11 _ ⟨rfl,b11⟩
 refine ab (af ?_)
 cases s
 ·refine aa (ae Ll Ll (ae Ll Ll (ao Ll Ll Ll (ao Ll Ll Ll (ao Ll Ll Ll (aC Ll Ll Ll (ae Ll Ll (ae Ll Ll ?_))))))))
  refine bm (vs:=[(0,B (zb false (val n))),(1,q1),(2,v11)]) Ll Ll (kv s1.isS b11.isS) ?_
  obtain⟨p,q,w3,hp,hs,q3,k3,n3,d3⟩:=(k6.ext (((x16.trans x20).trans x27))).stR ⟨_,_,_,rfl⟩ ⟨_,_,_,rfl⟩ (di.mk (b:=zb false (val n)) (s1.ext x27) b11)
  refine aq Ll Ll (hs) (ag (ab (av ?_)))
  refine dR Ll Ll k3 KP Ll cV ?_
  exact⟨_,rfl,((((x6.trans x16).trans x20).trans x27)).of_new q3 l6,p,q,rfl,n3,d3⟩
 ·refine aa (ae Ll Ll (ae Ll Ll (al Ll (ae Ll Ll (al Ll (aQ Ll Ll (bu KK (s1.ext x27)) (al Ll (ai Ll Ll Ll (ck) ?_))))))))
  rw[hc]
  refine aw Ll Ll Ll (ae Ll Ll (ae Ll Ll ?_))
  refine bm (vs:=[(0,B (zb true (val n))),(1,q1),(2,v11)]) Ll Ll (kv s1.isS b11.isS) ?_
  obtain⟨p,q,w3,hp,hs,q3,k3,n3,d3⟩:=(k6.ext (((x16.trans x20).trans x27))).stR ⟨_,_,_,rfl⟩ ⟨_,_,_,rfl⟩ (di.mk (b:=zb true (val n)) (s1.ext x27) b11)
  refine aq Ll Ll (hs) (ag (ab (av ?_)))
  refine dR Ll Ll k3 KP Ll cV ?_
  exact⟨_,rfl,((((x6.trans x16).trans x20).trans x27)).of_new q3 l6,p,q,rfl,n3,d3⟩
theorem zi {w:World} {b:Bool} {n m:List UInt32} {v:Value} (hv:di b n m v w) (hnl:n.length≤137438953472) (hml:m.length≤137438953472):
 Calls Tryz.prog 135 #[v] w (bE fun r w'=>aI w w'∧di (zb b (val n)) (lb (val n/Nat.gcd (val n) (val (ud m)))) (xx (val n) (val (ud m))) r w'):=by
 refine enter (vs:=[v]) Tryz.func135 Ll Ll Ll ?_
 have hu:(lb (val (ud m))).length≤137438953472:=Nat.le_trans (gO (cv _)) (Ga hml)
 refine af (aa ?_)
 obtain⟨g1,y1,z1,w1,hr1,x1,k1,n1,d1⟩:=od hv
 refine cL Ll Ll hr1 ?_
 obtain⟨g2,w2,hr2,l2,x2,k2⟩:=fV (w:=w1)
 refine bf Ll hr2 (ag (ab (af (bz 8 [2,10] (by kernel_rfl) (by kernel_rfl) ?_))))
 refine aN Ll Ll (fun w hw=>aF (o:=0) KP Ll (by kernel_rfl) Ll) (aE Ll Ll (fun w hw=>aj KU Ll (hw.cell_some (x2.cell_some (k1.cell (i:=0) Ll)))) ?_)
 refine aN Ll Ll (fun w hw=>aF (o:=1) KP Ll (by kernel_rfl) Ll) (aE Ll Ll (fun w hw=>aj KK Ll (hw.cell_some (x2.cell_some (k1.cell (i:=1) Ll)))) ?_)
 refine aN Ll Ll (fun w hw=>aF (o:=2) KP Ll (by kernel_rfl) Ll) (aE Ll Ll (fun w hw=>aj KK Ll (hw.cell_some (x2.cell_some (k1.cell (i:=2) Ll)))) ?_)
 refine ce (S:=bo (lb (val (ud m)))) D8 (bo.stable _) rfl (fun w hw=>by rintro _ rfl;exact D9 ((d1.ext x2).ext hw) hml) (ce (S:=di (zb b (val n)) (lb (val n/Nat.gcd (val n) (val (ud m)))) (xx (val n) (val (ud m)))) A3 (di.stable _ _ _) rfl (fun w hw=>by rintro _ rfl _ rfl z hz;have:=A4 (s:=b) ((n1.ext x2).ext hw) hz (by omega) (by omega) (by rw[bP];exact F7 m);rw[bP] at this;exact this) ?_)
 refine bF ?_
 intro wg1 xg1
 rintro _ rfl
 intro vg10 b9
 obtain⟨p,q,w3,hp,hs,q3,k3,n3,d3⟩:=(k2.ext xg1).stR ⟨_,_,_,rfl⟩ ⟨_,_,_,rfl⟩ b9
 refine aq Ll Ll (hs) (ag (ab (av ?_)))
 refine dR Ll Ll k3 KP Ll cV ?_
 exact⟨_,rfl,(((x1.trans x2).trans xg1)).of_new q3 (Nat.le_trans x1.size l2),p,q,rfl,n3,d3⟩
theorem tC {w:World} {a b:Bool} {n m p q:List UInt32} {v u:Value} (hv:di a n m v w) (hu:di b p q u w):
 Calls Tryz.prog 134 #[v,u] w (bE fun r w'=>aI w w'∧r=B (decide (a=b∧n=p∧m=q))):=by
 refine enter (vs:=[v,u]) Tryz.func134 Ll Ll Ll ?_
 refine af (aa ?_)
 obtain⟨g2,y2,z2,w2,hr2,x2,k2,n2,d2⟩:=od hv
 refine cL Ll Ll hr2 ?_
 obtain⟨g3,y3,z3,w3,hr3,x3,k3,n3,d3⟩:=od (hu.ext x2)
 refine cL Ll Ll hr3 (ac Ll Ll (ag (ab (af (aa (ah Ll Ll (aF (o:=0) KP Ll (by kernel_rfl) Ll) ?_))))))
 refine am Ll Ll (aj KU Ll (x3.cell_some (k2.cell (i:=0) Ll))) (ah Ll Ll (aF (o:=0) KP Ll (by kernel_rfl) Ll) ?_)
 refine am Ll Ll (aj KU Ll (k3.cell (i:=0) Ll)) (ai Ll Ll Ll (xv KU) (ae Ll Ll ?_))
 refine cO (fun h10=>?_) (fun h10=>?_)
 ·refine al Ll (ah Ll Ll (aF (o:=1) KP Ll (by kernel_rfl) Ll) (al Ll (am Ll Ll (aj KK Ll (x3.cell_some (k2.cell (i:=1) Ll))) ?_)))
  refine al Ll (ah Ll Ll (aF (o:=1) KP Ll (by kernel_rfl) Ll) (al Ll (am Ll Ll (aj KK Ll (k3.cell (i:=1) Ll)) ?_)))
  refine al Ll (an tj Ll Ll (tk (n2.ext x3) n3) ?_)
  rintro v15 w15 ⟨x15,rfl⟩
  refine aw Ll Ll Ll (ae Ll Ll ?_)
  refine cO (fun h17=>?_) (fun h17=>?_)
  ·refine al Ll (ah Ll Ll (aF (o:=2) KP Ll (by kernel_rfl) Ll) (al Ll (am Ll Ll (aj KK Ll ((x3.trans x15).cell_some (k2.cell (i:=2) Ll))) ?_)))
   refine al Ll (ah Ll Ll (aF (o:=2) KP Ll (by kernel_rfl) Ll) (al Ll (am Ll Ll (aj KK Ll (x15.cell_some (k3.cell (i:=2) Ll))) ?_)))
   refine al Ll (an tj Ll Ll (tk (d2.ext (x3.trans x15)) (d3.ext x15)) ?_)
   rintro v22 w22 ⟨x22,rfl⟩
   refine aw Ll Ll Ll (ac Ll Ll (ag (ab (av (aG Ll Ll ?_)))))
   exact⟨_,rfl,(((x2.trans x3).trans x15).trans x22),by
    first
    |exact congrArg B (decide_eq_decide.2 ⟨fun h=>⟨h10,h17,h⟩,fun h=>h.2.2⟩)
    |exact congrArg B (decide_eq_false fun h=>h17 h.2.1).symm
    |exact congrArg B (decide_eq_false fun h=>h10 h.1).symm⟩
  ·refine ao Ll Ll Ll (ao Ll Ll Ll (ao Ll Ll Ll (ao Ll Ll Ll (ao Ll Ll Ll (aC Ll Ll Ll (ac Ll Ll (ag (ab (av (aG Ll Ll ?_))))))))))
   exact⟨_,rfl,((x2.trans x3).trans x15),by
    first
    |exact congrArg B (decide_eq_decide.2 ⟨fun h=>⟨h10,h17,h⟩,fun h=>h.2.2⟩)
    |exact congrArg B (decide_eq_false fun h=>h17 h.2.1).symm
    |exact congrArg B (decide_eq_false fun h=>h10 h.1).symm⟩
 ·refine ao Ll Ll Ll (ao Ll Ll Ll (ao Ll Ll Ll (ao Ll Ll Ll (ao Ll Ll Ll (aC Ll Ll Ll (ae Ll Ll (ao Ll Ll Ll (ao Ll Ll Ll (ao Ll Ll Ll ?_)))))))))
  refine ao Ll Ll Ll (ao Ll Ll Ll (aC Ll Ll Ll (ac Ll Ll (ag (ab (av (aG Ll Ll ?_)))))))
  exact⟨_,rfl,(x2.trans x3),by
   first
   |exact congrArg B (decide_eq_decide.2 ⟨fun h=>⟨h10,h17,h⟩,fun h=>h.2.2⟩)
   |exact congrArg B (decide_eq_false fun h=>h17 h.2.1).symm
   |exact congrArg B (decide_eq_false fun h=>h10 h.1).symm⟩
theorem rz {w:World} {b:Bool} {n m:List UInt32} {v:Value} (hv:di b n m v w) (hnl:n.length≤137438953472) (hml:m.length≤137438953472):
 Calls Tryz.prog 90 #[v] w (bE fun r w'=>aI w w'∧r=B (rv b n m)):=by
 refine enter (vs:=[v]) Tryz.func90 Ll Ll Ll ?_
 refine af (aa ?_)
 obtain⟨g1,y1,z1,w1,hr1,x1,k1,n1,d1⟩:=od hv
 refine cL Ll Ll hr1 (ac Ll Ll (ag (ab (af (bz 4 [6] (by kernel_rfl) (by kernel_rfl) ?_)))))
 refine aE rfl rfl (fun w hw=>(k1.ext hw).ldR) (aE rfl rfl (fun w hw=>(k1.ext hw).ldR) (ce (S:=di (zb b (val n)) (lb (val n/Nat.gcd (val n) (val (ud m)))) (xx (val n) (val (ud m)))) zh (di.stable _ _ _) rfl (fun w hw=>by rintro _ rfl;exact zi ((di.mk n1 d1).ext hw) hnl hml) ?_))
 refine ce (S:=Is (B (rv b n m))) ly (bt.is _) rfl (fun w hw=>by rintro _ rfl z hz;exact tC ((di.mk n1 d1).ext hw) hz) (bF ?_)
 intro wg1 xg1
 rintro _ rfl
 refine ac Ll Ll (ag (ab (av (aG Ll Ll ?_))))
 exact⟨_,rfl,(x1.trans xg1),rfl⟩
end Go.Rl
namespace Go.Rl
open Go.RowKit Go.Proofs Go.Lib
section
variable {w w0:World} {l m:List UInt8} {v x:Value}
def Ea (m:List UInt8):List UInt8:=uv m.length++m
end
end Go.Rl
namespace Go.Rl
open Go.RowKit Go.Proofs
theorem Eb:ay Tryz.prog 113:=⟨_,Tryz.func113,by kernel_rfl,rfl⟩
theorem Ec:ay Tryz.prog 129:=⟨_,Tryz.func129,by kernel_rfl,rfl⟩
def yA (l:List UInt8):Option (List UInt8×List UInt8):=(db l).bind fun p=>if p.1≤p.2.length then some (p.2.take p.1,p.2.drop p.1) else none
theorem zj {m:List UInt8} (h:m.length<18446744073709551616) (t:List UInt8):yA (Ea m++t)=some (m,t):=by
 unfold yA Ea
 rw[List.append_assoc,jD h]
 simp
section
variable {w:World} {g:Nat}
theorem zk {st:Option (List UInt8)} (hr:bb g st w):Calls Tryz.prog 144 #[.pointer (some ⟨g,0,none⟩)] w (bE fun r w'=>w.grownBy w' (some g)∧match st.bind db with
 |some (n,t)=>r=.tuple #[bj (UInt64.ofNat n),B true]∧bb g (some t) w'
 |none=>r=.tuple #[bj 0,B false]∧∃l',bb g l' w'):=by
 cases st with
 |none=>exact(mj hr).mono fun e w' ⟨v,he,hv,hw⟩=>⟨v,he,by subst hw;exact⟨ji _ _,hv,none,hr⟩⟩
 |some l=>
  refine(nW hr).mono fun e w' ⟨v,he,hg,hv⟩=>⟨v,he,hg,?_⟩
  show match db l with|some (n,t)=>_|none=>_
  cases hrd:db l with
  |none=>rw[hrd] at hv;exact⟨hv.1,hv.2.imp' some fun _ h=>h⟩
  |some p=>rw[hrd] at hv;exact hv
theorem Ed {st:Option (List UInt8)} (hr:bb g st w):
 Calls Tryz.prog 129 #[.pointer (some ⟨g,0,none⟩)] w (bE fun r w'=>r=I ((st.getD []).length:Nat)∧w'=w):=by
 obtain⟨A,n,c,h1,h2,_⟩:=hr
 refine enter (vs:=[.pointer (some ⟨g,0,none⟩)]) Tryz.func129 Ll Ll Ll ?_
 refine af (aa (ac Ll Ll (ag (ab (af (af (aa (ae Ll Ll ?_))))))))
 refine ai Ll Ll Ll (mA K1) ?_
 refine ag (ab ?_)
 refine cp Ll ?_
 refine ar (ab (af (aa (ae Ll Ll ?_))))
 refine aH Ll Ll ?_
 refine ah Ll Ll (cB K9 Ll cq (by omega)) ?_
 refine am Ll Ll (aj KQ Ll (i9 (i:=0) h1 Ll)) ?_
 refine aQ Ll Ll (bC h2) ?_
 refine ac Ll Ll (ag (ab (av ?_)))
 refine aG Ll Ll ?_
 exact⟨_,rfl,rfl,rfl⟩
theorem Ee {st:Option (List UInt8)} (hr:bb g st w):
 Calls Tryz.prog 113 #[.pointer (some ⟨g,0,none⟩)] w (bE fun r w'=>r=I (if st=some [] then 0 else 5)∧w'=w):=by
 obtain⟨A,n,c,h1,h2,_⟩:=hr
 refine enter (vs:=[.pointer (some ⟨g,0,none⟩)]) Tryz.func113 Ll Ll Ll ?_
 refine af (aa (ac Ll Ll (ag (ab (af (af (aa (ae Ll Ll ?_))))))))
 refine ai Ll Ll Ll (Ft K1) ?_
 refine ae Ll Ll (al Ll (ae Ll Ll (al Ll ?_)))
 refine aH Ll Ll ?_
 refine al Ll (ah Ll Ll (cB K9 Ll ga (by omega)) ?_)
 refine al Ll (am Ll Ll (aj KU Ll (i9 (i:=1) h1 Ll)) ?_)
 cases st with
 |none=>
  refine al Ll (ae Ll Ll ?_)
  iterate 6 refine ao rfl rfl rfl ?_
  refine al Ll (aw Ll Ll Ll (aw Ll Ll Ll (ag (ab ?_))))
  refine bB Ll ?_
  refine af (aa (ac Ll Ll (ag (ab (av (au ?_))))))
  refine aG Ll Ll ?_
  exact⟨_,rfl,rfl,rfl⟩
 |some l=>
  have h2':cm l (.slice A n c) w:=h2
  refine al Ll (ae Ll Ll (al Ll (ae Ll Ll (al Ll ?_))))
  refine aH Ll Ll ?_
  refine al Ll (ah Ll Ll (cB K9 Ll cq (by omega)) ?_)
  refine al Ll (am Ll Ll (aj KQ Ll (i9 (i:=0) h1 Ll)) ?_)
  refine al Ll (aQ Ll Ll (bC h2') ?_)
  refine al Ll (ai Ll Ll Ll ck ?_)
  refine al Ll (aC Ll Ll Ll (aw Ll Ll Ll (ag (ab ?_))))
  refine bi Ll (fun h=>?_) (fun h=>?_)
  ·refine af (aa (ac Ll Ll (ag (ab (av (au ?_))))))
   refine aG Ll Ll ?_
   have:some l≠some []:=by rintro⟨⟩;simp at h
   rw[if_neg this]
   exact⟨_,rfl,rfl,rfl⟩
  ·refine ar (ab (af (aa (ac Ll Ll (ag (ab (av ?_)))))))
   refine aG Ll Ll ?_
   have:l=[]:=List.eq_nil_of_length_eq_zero (by omega)
   subst this
   exact⟨_,rfl,rfl,rfl⟩
end
end Go.Rl
namespace Go.Rl
open Go.RowKit Go.Proofs
structure Kp (w w':World):Prop where
 size:w.heap.size≤w'.heap.size
 bts:∀{l:List UInt8} {v:Value},cm l v w→cm l v w'
 wds:∀{l:List UInt32} {v:Value},bo l v w→bo l v w'
theorem Kp.of_ext {w w':World} (h:aI w w'):Kp w w':=⟨h.size,fun b=>b.ext h,fun b=>b.ext h⟩
theorem Kp.refl (w:World):Kp w w:=.of_ext (aI.refl w)
theorem Kp.trans {a b c:World} (h:Kp a b) (k:Kp b c):Kp a c:=⟨Nat.le_trans h.size k.size,fun x=>k.bts (h.bts x),fun x=>k.wds (h.wds x)⟩
theorem cm.kp {w w':World} {l:List UInt8} {v:Value} (h:cm l v w) (k:Kp w w'):cm l v w':=k.bts h
theorem bo.kp {w w':World} {l:List UInt32} {v:Value} (h:bo l v w) (k:Kp w w'):bo l v w':=k.wds h
def dS (T:TypeId) (g:Nat) (st:Option (List UInt8)) (w:World):Prop:=∃A n c,cd g T [.slice A n c,B st.isNone] w∧cm (st.getD []) (.slice A n c) w∧pz A g
theorem bb.rdT {g:Nat} {st:Option (List UInt8)} {w:World} (h:bb g st w):dS 227 g st w:=h
theorem dS.rdAt {g:Nat} {st:Option (List UInt8)} {w:World} (h:dS 227 g st w):bb g st w:=h
section
variable {T:TypeId} {g:Nat} {st:Option (List UInt8)} {w w':World}
theorem dS.ext (h:dS T g st w) (hx:aI w w'):dS T g st w':=by
 obtain⟨A,n,c,h1,h2,h3⟩:=h
 exact⟨A,n,c,h1.ext hx,h2.ext hx,h3⟩
theorem Ef (A:Option Addr) (n c:Nat) (b:Bool) (l:List UInt32):∀(j:Nat) (u:Value),u∈l.map bA→(#[.slice A n c,.bool b]:Array Value)[j]? ≠some u:=by
 intro j u hu
 obtain⟨x,_,rfl⟩:=List.mem_map.1 hu
 match j with
 |0=>simp[bA]
 |1=>simp[bA]
 |j+2=>simp
theorem dS.kp (hr:dS T g st w) (hw:w.grownBy w' (some g)):Kp w w':=by
 obtain⟨A,n,c,h1,_⟩:=hr
 exact⟨hw.size,fun h=>Sl.keep h h1 (vy A n c _ _) hw,fun h=>Sl.keep h h1 (Ef A n c _ _) hw⟩
theorem dS.set {l l':List UInt8} {v:Value} (h:dS T g (some l) w) (hv:cm l' v w) (hloc:∀A n c,v=.slice A n c→pz A g):
 ∃w',(Instr.storeAt 28 (.pointer (some ⟨g,0,none⟩)) v).run Tryz.prog w=.ok () w'∧w.grownBy w' (some g)∧dS T g (some l') w':=by
 obtain⟨A,n,c,h1,h2,h4⟩:=h
 obtain⟨A',n',c',rfl,h3⟩:=id hv
 have hg:=ba w g 0 (.slice A' n' c')
 have hk:=dS.kp (T:=T) (st:=some l) ⟨A,n,c,h1,h2,h4⟩ hg
 refine⟨_,dv (i:=0) cq Ll h1 (by simp),hg,A',n',c',h1.set 0 _,hk.bts hv,hloc _ _ _ rfl⟩
end
theorem A7 (b:Bool) (A C:Option Addr) (n c m d:Nat) (l:List UInt8):∀(j:Nat) (u:Value),u∈l.map U8→(#[.bool b,.slice A n c,.slice C m d]:Array Value)[j]? ≠some u:=by
 intro j u hu
 obtain⟨x,_,rfl⟩:=List.mem_map.1 hu
 match j with
 |0=>simp[U8]
 |1=>simp[U8]
 |2=>simp[U8]
 |j+3=>simp
theorem cd.kpR {g:Nat} {T:TypeId} {b:Bool} {x y:Value} {w w':World} (h:cd g T [B b,x,y] w) (hx:∃A n c,x=.slice A n c) (hy:∃A n c,y=.slice A n c) (hw:w.grownBy w' (some g)):Kp w w':=by
 obtain⟨A,n,c,rfl⟩:=hx
 obtain⟨C,m,d,rfl⟩:=hy
 exact⟨hw.size,fun k=>Sl.keep k h (A7 b A C n c m d _) hw,fun k=>Sl.keep k h (tB b A C n c m d _) hw⟩
theorem dS.off {T:TypeId} {g g':Nat} {st:Option (List UInt8)} {w w':World} (h:dS T g st w) (k:Kp w w') (hw:w.grownBy w' (some g')) (hne:g≠g'):dS T g st w':=by
 obtain⟨A,n,c,h1,h2,h3⟩:=h
 exact⟨A,n,c,h1.other hw (fun e=>hne (Option.some.inj e)),h2.kp k,h3⟩
theorem eH {w w1 w2:World} {row:Option Nat} {g:Nat} (h:w.grownBy w1 row) (q:w1.grownBy w2 (some g)) (hg:w.heap.size≤g):w.grownBy w2 row:=
 ⟨q.os.trans h.os,q.tape.trans h.tape,q.output.trans h.output,Nat.le_trans h.size q.size,fun i hi hne=>(q.block i (Nat.lt_of_lt_of_le hi h.size) (fun e=>by have:=Option.some.inj e;omega)).trans (h.block i hi hne)⟩
theorem bJ {P:Program} {fn:Func} {R:Ending→World→Prop} {N:Nat} {fr:Fr} {p s:Tmp} {t T:TypeId} {u:Value} {l:List Value} {w:World} {g:Nat} {d:TypeDesc} (hr:fn.results= #[.cell p t,.tmp s]) (hv:lk fr p=some (.pointer (some ⟨g,0,none⟩))) (hs:lk fr s=some u) (hb:cd g T l w) (hu:P.underlying t=some d) (hd:d.isRow=true) (hi:(P.info? t).map (·.size)=some l.length)
 (h:R (.returned (.tuple #[.agg l.toArray,u])) w):fR (bodyPost P fn R) N [] fr w .ret:=fun a ha=>by
 refine⟨ha.defers,.tuple #[.agg l.toArray,u],?_,h⟩
 have hp:=ha.at_ p _ hv
 have hp':a.tmps[p]?.getD undef=.pointer (some ⟨g,0,none⟩):=by simpa using hp
 have hq:=ha.at_ s _ hs
 have hl:=run_loadVar_row w g T t l.toArray (0,0) d hb hu (by cases d<;>first|rfl|exact hd) (by simpa using hi)
 simp[results,hr,hp',asAddr,hl,←hq]
def uz (n:Nat):Int:=if n%2=0 then((n/2:Nat):Int) else-((n/2:Nat):Int)-1
theorem Jk (n:Nat):II (uz n)=n:=by
 unfold uz II
 split<;>split<;>omega
theorem HX {P:Program} {w:World} {t:TypeId} {x y:Operand} {q:Nat} (hq:q<9223372036854775808):(bin .xor t x y (I (q:Int)) (I 0)).run P w=.ok (I (q:Int)) w:=by
 have h:=Cl (P:=P) (w:=w) (t:=t) (x:=x) (y:=y) (a:=Int64.ofInt q) (b:=Int64.ofInt 0)
 rw[Int64.toInt_ofInt_of_le (by simp) (by simp;omega)] at h
 have e:(Int64.ofInt q^^^Int64.ofInt 0).toInt=q:=by
  rw[show Int64.ofInt 0=0 from rfl,Int64.xor_zero,Int64.toInt_ofInt_of_le (by simp) (by simp;omega)]
 rw[e] at h
 exact h
theorem HY {P:Program} {w:World} {t:TypeId} {x y:Operand} {q:Nat} (hq:q<9223372036854775808):(bin .xor t x y (I (q:Int)) (I (-1))).run P w=.ok (I (-(q:Int)-1)) w:=by
 have h:=Cl (P:=P) (w:=w) (t:=t) (x:=x) (y:=y) (a:=Int64.ofInt q) (b:=Int64.ofInt (-1))
 rw[Int64.toInt_ofInt_of_le (by simp) (by simp;omega)] at h
 have e:(Int64.ofInt q^^^Int64.ofInt (-1)).toInt= -(q:Int)-1:=by
  have:Int64.ofInt q^^^Int64.ofInt (-1)= ~~~(Int64.ofInt q):=by
   apply Int64.toBitVec_inj.1
   rw[Int64.toBitVec_xor,Int64.toBitVec_not]
   have:(Int64.ofInt (-1)).toBitVec=BitVec.allOnes 64:=by decide
   rw[this,BitVec.xor_allOnes]
  rw[this,Int64.toInt_not,Int64.toInt_ofInt_of_le (by simp) (by simp;omega)]
  exact Int.bmod_eq_of_le (by simp;omega) (by simp;omega)
 rw[e] at h
 exact h
def w4 (a b c d:UInt8):UInt32:=UInt32.ofNat (a.toNat+256*b.toNat+65536*c.toNat+16777216*d.toNat)
theorem Ba (a b c d:UInt8):(w4 a b c d).toNat=a.toNat+256*b.toNat+65536*c.toNat+16777216*d.toNat:=by
 have:=a.toNat_lt;have:=b.toNat_lt;have:=c.toNat_lt;have:=d.toNat_lt
 unfold w4
 rw[UInt32.toNat_ofNat']
 omega
theorem Jl (a b c d:UInt8):Hz (w4 a b c d)=[a,b,c,d]:=by
 have ha:=a.toNat_lt;have hb:=b.toNat_lt;have hc:=c.toNat_lt;have hd:=d.toNat_lt
 have e:∀x y:UInt8,x.toNat=y.toNat→x=y:=fun x y h=>UInt8.toNat_inj.1 h
 have h:=Ba a b c d
 unfold Hz
 congr 1
 ·refine e _ _ ?_
  rw[UInt32.toNat_toUInt8,h];omega
 congr 1
 ·refine e _ _ ?_
  rw[UInt32.toNat_toUInt8,UInt32.toNat_shiftRight,h,show(UInt32.ofNat 8).toNat%32=8 from rfl,Nat.shiftRight_eq_div_pow];omega
 congr 1
 ·refine e _ _ ?_
  rw[UInt32.toNat_toUInt8,UInt32.toNat_shiftRight,h,show(UInt32.ofNat 16).toNat%32=16 from rfl,Nat.shiftRight_eq_div_pow];omega
 congr 1
 ·refine e _ _ ?_
  rw[UInt32.toNat_toUInt8,UInt32.toNat_shiftRight,h,show(UInt32.ofNat 24).toNat%32=24 from rfl,Nat.shiftRight_eq_div_pow];omega
theorem Bb (a:UInt8):a.toUInt32.toNat=a.toNat:=by simp
theorem Kd (a b c d:UInt8):((a.toUInt32|||(b.toUInt32<<<UInt32.ofNat 8))|||(c.toUInt32<<<UInt32.ofNat 16))|||(d.toUInt32<<<UInt32.ofNat 24)=w4 a b c d:=by
 have ha:=a.toNat_lt;have hb:=b.toNat_lt;have hc:=c.toNat_lt;have hd:=d.toNat_lt
 have sh:∀(x:UInt8) (k:Nat),k≤24→(x.toUInt32<<<UInt32.ofNat k).toNat=x.toNat<<<k:=fun x k hk=>by
  have hx:=x.toNat_lt
  rw[UInt32.toNat_shiftLeft,Bb]
  have:(UInt32.ofNat k).toNat%32=k:=by rw[UInt32.toNat_ofNat'];omega
  rw[this,Nat.shiftLeft_eq]
  have:2^k≤2^24:=Nat.pow_le_pow_right (by omega) hk
  have:x.toNat*2^k≤255*2^24:=Nat.mul_le_mul (by omega) this
  omega
 refine jQ ?_
 rw[Ba]
 simp only[UInt32.toNat_or,sh _ 8 (by omega),sh _ 16 (by omega),sh _ 24 (by omega),Bb]
 rw[Nat.or_comm a.toNat,←Nat.shiftLeft_add_eq_or_of_lt (by omega),Nat.or_comm _ (c.toNat<<<16),←Nat.shiftLeft_add_eq_or_of_lt (by rw[Nat.shiftLeft_eq];omega),Nat.or_comm _ (d.toNat<<<24),←Nat.shiftLeft_add_eq_or_of_lt (by simp only[Nat.shiftLeft_eq];omega)]
 simp only[Nat.shiftLeft_eq]
 omega
theorem Jm (a b c d:UInt8):((a.toUInt32+(b.toUInt32*256))+(c.toUInt32*65536))+(d.toUInt32*16777216)=w4 a b c d:=by
 have ha:=a.toNat_lt;have hb:=b.toNat_lt;have hc:=c.toNat_lt;have hd:=d.toNat_lt
 refine jQ ?_
 rw[Ba]
 simp only[UInt32.toNat_add,UInt32.toNat_mul,Bb,show(256:UInt32).toNat=256 from rfl,show(65536:UInt32).toNat=65536 from rfl,show(16777216:UInt32).toNat=16777216 from rfl]
 omega
def dj:List UInt8→List UInt32
 |a::b::c::d::l=>w4 a b c d::dj l
 |_=>[]
theorem gQ:∀(n:Nat) (l:List UInt8),l.length=4*n→(dj l).length=n
 |0,[],_=>rfl
 |n+1,a::b::c::d::l,h=>by
  have:=gQ n l (by simp at h;omega)
  simp[dj,this]
 |n+1,[],h=>by simp at h
 |n+1,[_],h=>by simp at h;omega
 |n+1,[_,_],h=>by simp at h;omega
 |n+1,[_,_,_],h=>by simp at h;omega
theorem tD:∀(n:Nat) (l:List UInt8),l.length=4*n→nQ (dj l)=l
 |0,[],_=>rfl
 |n+1,a::b::c::d::l,h=>by
  have:=tD n l (by simp at h;omega)
  have e:∀x (l:List UInt32),nQ (x::l)=Hz x++nQ l:=fun x l=>by simp[nQ]
  rw[dj,e,this,Jl];rfl
 |n+1,[],h=>by simp at h
 |n+1,[_],h=>by simp at h;omega
 |n+1,[_,_],h=>by simp at h;omega
 |n+1,[_,_,_],h=>by simp at h;omega
theorem oh:∀(i:Nat) (l:List UInt8) (h:4*(i+1)≤l.length),dj (l.take (4*(i+1)))=dj (l.take (4*i))++[w4 (l[4*i]) (l[4*i+1]) (l[4*i+2]) (l[4*i+3])]
 |0,a::b::c::d::l,_=>by simp[dj]
 |i+1,a::b::c::d::l,h=>by
  have:=oh i l (by simp at h;omega)
  have e1:4*(i+1+1)=4*(i+1)+4:=by omega
  have e2:4*(i+1)=4*i+4:=by omega
  simp only[e1,List.take_succ_cons,dj,this]
  simp only[e2,List.take_succ_cons,dj,List.cons_append]
  rfl
 |i,[],h=>by simp at h
 |i,[_],h=>by simp at h;omega
 |i,[_,_],h=>by simp at h;omega
 |i,[_,_,_],h=>by simp at h;omega
def qB (l:List UInt8):Option (List UInt32×List UInt8):=(db l).bind fun p=>
 if p.1≤p.2.length/4∧lb (val (dj (p.2.take (4*p.1))))=dj (p.2.take (4*p.1)) then some (dj (p.2.take (4*p.1)),p.2.drop (4*p.1)) else none
theorem fA {l t:List UInt8} {m:List UInt32} (h:qB l=some (m,t)):l=lu m++t∧lb (val m)=m∧m.length<18446744073709551616:=by
 unfold qB at h
 cases hu:db l with
 |none=>rw[hu] at h;cases h
 |some p=>
  obtain⟨n,u⟩:=p
  rw[hu] at h
  have h:(if n≤u.length/4∧lb (val (dj (u.take (4*n))))=dj (u.take (4*n)) then some (dj (u.take (4*n)),u.drop (4*n)) else none)=some (m,t):=h
  split at h
  ·rename_i hc
   simp only[Option.some.injEq,Prod.mk.injEq] at h
   have hl:(u.take (4*n)).length=4*n:=by rw[List.length_take];omega
   have hn:=gQ n _ hl
   obtain⟨h1,h2⟩:=ee hu
   rw[←h.1,←h.2]
   refine⟨?_,hc.2,by omega⟩
   unfold lu
   rw[hn,tD n _ hl,List.append_assoc,List.take_append_drop]
   exact h1
  ·cases h
def j6:List UInt8→Option ((Bool×List UInt32×List UInt32)×List UInt8)
 |[]=>none
 |c::l=>if 1<c.toNat then none else(qB l).bind fun p=>(qB p.2).bind fun q=>if rv (decide (c.toNat=1)) p.1 q.1=true then some ((decide (c.toNat=1),p.1,q.1),q.2) else none
end Go.Rl
namespace Go.Rl
open Go.RowKit Go.Proofs
theorem ky:ay Tryz.prog 193:=⟨_,Tryz.func193,by kernel_rfl,rfl⟩
theorem qC:ay Tryz.prog 179:=⟨_,Tryz.func179,by kernel_rfl,rfl⟩
theorem iH:ay Tryz.prog 177:=⟨_,Tryz.func177,by kernel_rfl,rfl⟩
section
variable {w:World} {g:Nat}
theorem Gb {st:Option (List UInt8)} (hr:bb g st w) (h:st.bind db=none):Calls Tryz.prog 144 #[.pointer (some ⟨g,0,none⟩)] w (bE fun r w'=>w.grownBy w' (some g)∧r=.tuple #[bj 0,B false]∧∃l',bb g l' w'):=by
 have:=zk hr
 rw[h] at this
 exact this
theorem Gc {st:Option (List UInt8)} {n:Nat} {t:List UInt8} (hr:bb g st w) (h:st.bind db=some (n,t)):Calls Tryz.prog 144 #[.pointer (some ⟨g,0,none⟩)] w (bE fun r w'=>w.grownBy w' (some g)∧r=.tuple #[bj (UInt64.ofNat n),B true]∧bb g (some t) w'):=by
 have:=zk hr
 rw[h] at this
 exact this
end
theorem Gd {st:Option (List UInt8)} (h:st.bind db=none):st.bind qB=none:=by
 cases st with
 |none=>rfl
 |some l=>
  have h:db l=none:=h
  show qB l=none
  unfold qB
  rw[h];rfl
theorem ol {st:Option (List UInt8)} {n:Nat} {t:List UInt8} (h:st.bind db=some (n,t)):st.bind qB=if n≤t.length/4∧lb (val (dj (t.take (4*n))))=dj (t.take (4*n)) then some (dj (t.take (4*n)),t.drop (4*n)) else none:=by
 cases st with
 |none=>cases h
 |some l=>
  have h:db l=some (n,t):=h
  show qB l=_
  unfold qB
  rw[h];rfl
theorem pA {st:Option (List UInt8)} {n:Nat} {t:List UInt8} {k:Nat} (h:st.bind db=some (n,t)) (hl:∀l,st=some l→l.length≤k):t.length≤k∧n<18446744073709551616:=by
 cases st with
 |none=>cases h
 |some l=>
  obtain⟨h1,h2⟩:=ee (show db l=some (n,t) from h)
  have:=hl l rfl
  rw[h1,List.length_append] at this
  exact⟨by omega,h2⟩
def om (b:Nat) (v:Value):Prop:=∀k,v.ownBlock=some k→b≤k
theorem tE {s t:Bool} {a b c d:Value} (h:(Value.agg #[B s,a,b])=.agg #[B t,c,d]):a=c∧b=d:=by
 injection h with h
 have:=congrArg Array.toList h
 simp only[List.cons.injEq] at this
 exact⟨this.2.1,this.2.2.1⟩
def NatR (g:Nat) (w:World) (o:Option (List UInt32×List UInt8)) (r:Value) (w':World):Prop:=
 w.grownBy w' (some g)∧match o with
  |some (m,t)=>∃v,r=.tuple #[v,B true]∧bo m v w'∧bb g (some t) w'∧om w.heap.size v
  |none=>∃v,r=.tuple #[v,B false]∧(∃m,bo m v w')∧∃l',bb g l' w'
theorem vz {w:World} {g:Nat} {st:Option (List UInt8)} (hr:bb g st w) (hl:∀l,st=some l→l.length≤549755813888):
 Calls Tryz.prog 193 #[.pointer (some ⟨g,0,none⟩)] w (bE (NatR g w (st.bind qB))):=by
 refine enter (vs:=[.pointer (some ⟨g,0,none⟩)]) Tryz.func193 Ll Ll Ll ?_
 refine af (aa (ac Ll Ll (ac Ll Ll (ag (ab (af ?_))))))
 rcases hU:st.bind db with _|⟨n,t⟩
 ·refine aa (ae Ll Ll (an jZ Ll Ll (Gb hr hU) ?_))
  rintro v11 w11 ⟨x11,rfl,l',hr1⟩
  have m11:=(hr.rdT).kp x11
  refine ae Ll Ll (ak Ll Ll (aT) (ak Ll Ll (aU) (ac Ll Ll (ac Ll Ll (ag (ab (af (af (aa (ae Ll Ll (bI Ll Ll bK ?_)))))))))))
  refine ae Ll Ll (ao Ll Ll Ll (ao Ll Ll Ll (ao Ll Ll Ll (ao Ll Ll Ll (ao Ll Ll Ll (ao Ll Ll Ll (ao Ll Ll Ll (ao Ll Ll Ll (ao Ll Ll Ll ?_)))))))))
  refine aw Ll Ll Ll (ag (ab (bB Ll (af (aa (ac Ll Ll (ac Ll Ll (ag (ab (av (au (aM Ll Ll Ll ?_))))))))))))
  exact⟨_,rfl,x11,by rw[Gd hU];exact⟨_,rfl,⟨_,bo.nil _⟩,l',hr1⟩⟩
 ·obtain⟨ht,hn⟩:=pA hU hl
  have hnn:(UInt64.ofNat n).toNat=n:=by rw[UInt64.toNat_ofNat'];omega
  refine aa (ae Ll Ll (an jZ Ll Ll (Gc hr hU) ?_))
  rintro v11 w11 ⟨x11,rfl,hr1⟩
  have m11:=(hr.rdT).kp x11
  refine ae Ll Ll (ak Ll Ll (aT) (ak Ll Ll (aU) ?_))
  obtain⟨A,n',c,k,b,_⟩:=hr1.rdT
  have b:cm t (.slice A n' c) w11:=b
  refine ac Ll Ll (ac Ll Ll (ag (ab (af (af (aa (ae Ll Ll (bI Ll Ll bK (ae Ll Ll (al Ll (ae Ll Ll (al Ll (ae Ll Ll ?_)))))))))))))
  refine al Ll (aH Ll Ll (al Ll (ah Ll Ll (aF (o:=0) K9 Ll (by kernel_rfl) Ll) (al Ll (am Ll Ll (aj KQ Ll (k.cell (i:=0) Ll)) ?_)))))
  refine al Ll (aQ Ll Ll (bC b) (al Ll (aR Ll Ll (cN KO KN) (al Ll (ai (v:=bj 4) Ll Ll Ll (gL (by decide)) ?_)))))
  refine al Ll (ai Ll Ll Ll (cu) (aC Ll Ll Ll (ag (ab ?_))))
  refine bi Ll (fun h26=>?_) (fun h26=>?_)
  ·have hlong:t.length/4<n:=by
    have h26:=UInt64.lt_iff_toNat_lt.1 h26
    rw[UInt64.toNat_div,hnn,UInt64.toNat_ofNat',show(4:UInt64).toNat=4 from rfl] at h26
    omega
   refine af (aa (ac Ll Ll (ac Ll Ll (ag (ab (av (au (aM Ll Ll Ll ?_))))))))
   exact⟨_,rfl,x11,by rw[ol hU,if_neg (by omega)];exact⟨_,rfl,⟨_,bo.nil _⟩,_,hr1⟩⟩
  ·have hle:n≤t.length/4:=by
    refine Nat.le_of_not_lt fun hh=>h26 (UInt64.lt_iff_toNat_lt.2 ?_)
    rw[UInt64.toNat_div,hnn,UInt64.toNat_ofNat',show(4:UInt64).toNat=4 from rfl]
    omega
   have h4n:(4*UInt64.ofNat n).toNat=4*n:=by
    rw[UInt64.toNat_mul,hnn,show(4:UInt64).toNat=4 from rfl]
    omega
   obtain⟨bs,hbs⟩:∃bs,bs=t.take (4*n):=⟨_,rfl⟩
   have hbl:bs.length=4*n:=by rw[hbs,List.length_take];omega
   refine ar (ab (af (aa (ae Ll Ll (ae Ll Ll (ai (u:=bj 4) Ll Ll Ll (fZ) (an iE Ll Ll ((by have:=tw (n:=4*UInt64.ofNat n) hr1 (by rw[h4n];omega);rw[h4n,←hbs] at this;exact this)) ?_)))))))
   rintro v31 w31 ⟨b31,rfl,hb31,hr2,g31⟩
   have m31:=(hr1.rdT).kp g31
   refine ae Ll Ll (ak Ll Ll (aT) (ak Ll Ll (aU) (ac Ll Ll (ac Ll Ll (ag (ab (af (aa (ac Ll Ll (ag (ab (af ?_))))))))))))
   refine ax ?_
   refine f6 (fun(i:Nat) (v:Value) (u:Value)=>[(4,bj (UInt64.ofNat n)),(6,v),(8,u)]) (fun(i:Nat) (v:Value) (u:Value) w'=>aI w31 w'∧cm (bs.drop (4*i)) v w31∧dQ w31.heap.size (dj (bs.take (4*i))) u w'∧i≤n) (fun(i:Nat) (v:Value) (u:Value)=>n-i) (0) (b31) (.slice none 0 0) ⟨rfl,rfl,rfl,trivial⟩ ⟨aI.refl _,by simpa using hb31,by simpa [dj] using dQ.nil _ _,by omega⟩ ?_
   rintro i v u w6 ⟨e6,h6,o6,hi⟩
   refine af (af ?_)
   have hdl:(bs.drop (4*i)).length=4*n-4*i:=by rw[List.length_drop,hbl]
   refine aa (ae Ll Ll (aQ Ll Ll (bC (h6.ext e6)) (ai Ll Ll Ll (ck) (ag (ab ?_)))))
   refine bi Ll (fun h36=>?_) (fun h36=>?_)
   ·refine ar (ab (af (ax ?_)))
    have hdl:(bs.drop (4*i)).length=4*n-4*i:=by rw[List.length_drop,hbl]
    refine bz 24 [4,6,39,62] (by kernel_rfl) (by kernel_rfl) ?_
    refine ap Ll Ll (ap Ll Ll ?_)
    obtain⟨a41,p41,q41⟩:=eD (h6.ext e6) (i:=0) (by omega) .i64
    refine az Ll Ll Ll (fun w _=>p41 w) (aE Ll Ll (fun w hw=>aj KS Ll (hw.cell_some q41)) (dm Ll Ll (fun w _=>dZ KS KL) ?_))
    refine ap Ll Ll ?_
    obtain⟨a45,p45,q45⟩:=eD (h6.ext e6) (i:=1) (by omega) .i64
    refine az Ll Ll Ll (fun w _=>p45 w) (aE Ll Ll (fun w hw=>aj KS Ll (hw.cell_some q45)) (dm Ll Ll (fun w _=>dZ KS KL) ?_))
    refine aS (v:=bj 8) Ll Ll Ll (fun w _=>eK 8 (by omega)) (aS Ll Ll Ll (fun w _=>fm) (ap Ll Ll ?_))
    obtain⟨a51,p51,q51⟩:=eD (h6.ext e6) (i:=2) (by omega) .i64
    refine az Ll Ll Ll (fun w _=>p51 w) (aE Ll Ll (fun w hw=>aj KS Ll (hw.cell_some q51)) (dm Ll Ll (fun w _=>dZ KS KL) ?_))
    refine aS (v:=bj 16) Ll Ll Ll (fun w _=>eK 16 (by omega)) (aS Ll Ll Ll (fun w _=>fm) (ap Ll Ll ?_))
    obtain⟨a57,p57,q57⟩:=eD (h6.ext e6) (i:=3) (by omega) .i64
    refine az Ll Ll Ll (fun w _=>p57 w) (aE Ll Ll (fun w hw=>aj KS Ll (hw.cell_some q57)) (dm Ll Ll (fun w _=>dZ KS KL) ?_))
    refine aS (v:=bj 24) rfl rfl rfl (fun w _=>eK 24 (by omega)) (aS rfl rfl rfl (fun w _=>fm) (eO (S:=bo [((((((((((bs.drop (4*i))[0])).toUInt32)|||((((((bs.drop (4*i))[1])).toUInt32)<<<UInt32.ofNat 8))))|||((((((bs.drop (4*i))[2])).toUInt32)<<<UInt32.ofNat 16))))|||((((((bs.drop (4*i))[3])).toUInt32)<<<UInt32.ofNat 24))))]) (bo.stable _) rfl (fun w' _=>by rintro _ rfl;obtain⟨r,w2,h1,h2,h3,_⟩:=ir Tryz.underlying53 (w:=w') w'.heap.size [((((((((((bs.drop (4*i))[0])).toUInt32)|||((((((bs.drop (4*i))[1])).toUInt32)<<<UInt32.ofNat 8))))|||((((((bs.drop (4*i))[2])).toUInt32)<<<UInt32.ofNat 16))))|||((((((bs.drop (4*i))[3])).toUInt32)<<<UInt32.ofNat 24))))] (by simp) (Nat.le_refl _);exact⟨r,w2,h1,h2,h3.wds⟩) ?_))
    refine bF ?_
    intro wg8 xg8
    rintro _ rfl
    rintro _ hq6
    obtain rfl:=Eq.symm hq6
    rintro _ hq39
    obtain rfl:=Eq.symm hq39
    intro vg62 b62
    obtain⟨v63,w63,hr63,o63,g63⟩:=jz Tryz.underlying53 (ty:=53) (o6.ext xg8) b62 (by have:=gQ i (bs.take (4*i)) (by rw[List.length_take];omega);simp;omega) ((e6.trans xg8)).size
    have x63:=aI.of_grew ((e6.trans xg8)) g63 (o6.ext xg8).ge
    refine bc Ll Ll hr63 (ac Ll Ll (ag (aJ (ab (aa (ae Ll Ll ?_))))))
    obtain⟨v38,p38,b38⟩:=fp h6 (lo:=4) (by omega) .i64
    refine cw Ll Ll Ll Ll Ll (p38 _) ?_
    refine ac Ll Ll (ag ?_)
    refine dA (i+1) (v38) (v63) ⟨rfl,rfl,rfl,trivial⟩ ⟨x63,by rw[List.drop_drop] at b38;exact b38,by
     rw[oh i bs (by omega)]
     have e:=Kd ((bs.drop (4*i))[0]) ((bs.drop (4*i))[1]) ((bs.drop (4*i))[2]) ((bs.drop (4*i))[3])
     simp only[List.getElem_drop,Nat.add_zero] at e
     simp only[List.getElem_drop,Nat.add_zero,e] at o63
     exact o63,by omega⟩ (by omega)
   ·refine aY (aB (aB (aX (ab (af ?_)))))
    by_cases h66:UInt64.ofNat n=0
    ·refine bz 12 [2,74] (by kernel_rfl) (by kernel_rfl) ?_
     refine ap Ll Ll (ap Ll Ll (aS (v:=bj 0) Ll Ll Ll (fun w _=>cg h66 fK) (ap Ll Ll (cD Ll Ll Ll (cD Ll Ll Ll (cD Ll Ll Ll ?_))))))
     refine cD Ll Ll Ll (cD Ll Ll Ll (cD Ll Ll Ll (sM Ll Ll Ll (eo Ll Ll (bF ?_)))))
     intro wg9 xg9
     rintro _ hq2
     obtain rfl:=Eq.symm hq2
     rintro _ rfl
     refine ac Ll Ll (ag (ab (av (aM Ll Ll Ll ?_))))
     exact⟨_,rfl,(x11.trans g31).trans (dE (e6.trans xg9)),by
      rw[ol hU,←hbs]
      first
      |(have hx:(dj bs)[(UInt64.ofNat n-1).toNat]≠0↔lb (val (dj bs))=dj bs:=by
         have e:(UInt64.ofNat n-1).toNat=(dj bs).length-1:=by omega
         simp only[e]
         exact pr (by omega)
        by_cases hc:lb (val (dj bs))=dj bs
        ·rw[if_pos ⟨hle,hc⟩,decide_eq_true (hx.2 hc)]
         exact⟨u,rfl,o6.wds.ext xg9,hr2.ext (e6.trans xg9),fun k hk=>Nat.le_trans (x11.trans g31).size (o6.ge k hk)⟩
        ·rw[if_neg fun h=>hc h.2,decide_eq_false fun h=>hc (hx.1 h)]
         exact⟨u,rfl,⟨_,o6.wds.ext xg9⟩,_,hr2.ext (e6.trans xg9)⟩)
      |(have h0:n=0:=by
         have:=congrArg UInt64.toNat h66
         rw[hnn] at this
         exact this
        have hb0:dj bs=[]:=List.eq_nil_of_length_eq_zero (by rw[gQ n bs hbl];exact h0)
        have hb1:bs.take (4*i)=bs:=List.take_of_length_le (by omega)
        rw[hb1,hb0] at o6
        rw[hb0,if_pos ⟨hle,rfl⟩]
        exact⟨u,rfl,o6.wds.ext xg9,hr2.ext (e6.trans xg9),fun k hk=>Nat.le_trans (x11.trans g31).size (o6.ge k hk)⟩)⟩
    ·refine bz 12 [2,74] (by kernel_rfl) (by kernel_rfl) ?_
     refine ap Ll Ll (ap Ll Ll (aS (v:=bj 0) Ll Ll Ll (fun w _=>cf h66 fK) (ap Ll Ll (bh Ll Ll (ap Ll Ll (bh Ll Ll (ap Ll Ll ?_)))))))
     refine bh Ll Ll (aS (v:=bj 1) Ll Ll Ll (fun w _=>dx) (bh Ll Ll ?_))
     have hn0:0<n:=by
      rcases Nat.eq_zero_or_pos n with h|h
      ·exact absurd (by rw[h];rfl) h66
      ·exact h
     have hns:=gQ n bs hbl
     have hin:i=n:=by omega
     have hbi:bs.take (4*i)=bs:=List.take_of_length_le (by omega)
     rw[hbi] at o6
     have hm1:(UInt64.ofNat n-1).toNat=n-1:=by
      rw[UInt64.toNat_sub_of_le _ _ (UInt64.le_iff_toNat_le.2 (by rw[hnn];exact hn0)),hnn];rfl
     obtain⟨a71,p71,q71⟩:=cP KK o6.wds (i:=(UInt64.ofNat n-1).toNat) (by omega) .u64
     refine az Ll Ll Ll (fun w hw=>p71 _) (bh Ll Ll (aE Ll Ll (fun w hw=>aj KL Ll (hw.cell_some q71)) (bh Ll Ll ?_)))
     refine aS (v:=bA 0) Ll Ll Ll (fun w _=>km) (my Ll Ll Ll (eo Ll Ll (bF ?_)))
     intro wg9 xg9
     rintro _ hq2
     obtain rfl:=Eq.symm hq2
     rintro _ rfl
     refine ac Ll Ll (ag (ab (av (aM Ll Ll Ll ?_))))
     exact⟨_,rfl,(x11.trans g31).trans (dE (e6.trans xg9)),by
      rw[ol hU,←hbs]
      first
      |(have hx:(dj bs)[(UInt64.ofNat n-1).toNat]≠0↔lb (val (dj bs))=dj bs:=by
         have e:(UInt64.ofNat n-1).toNat=(dj bs).length-1:=by omega
         simp only[e]
         exact pr (by omega)
        by_cases hc:lb (val (dj bs))=dj bs
        ·rw[if_pos ⟨hle,hc⟩,decide_eq_true (hx.2 hc)]
         exact⟨u,rfl,o6.wds.ext xg9,hr2.ext (e6.trans xg9),fun k hk=>Nat.le_trans (x11.trans g31).size (o6.ge k hk)⟩
        ·rw[if_neg fun h=>hc h.2,decide_eq_false fun h=>hc (hx.1 h)]
         exact⟨u,rfl,⟨_,o6.wds.ext xg9⟩,_,hr2.ext (e6.trans xg9)⟩)
      |(have h0:n=0:=by
         have:=congrArg UInt64.toNat h66
         rw[hnn] at this
         exact this
        have hb0:dj bs=[]:=List.eq_nil_of_length_eq_zero (by rw[gQ n bs hbl];exact h0)
        have hb1:bs.take (4*i)=bs:=List.take_of_length_le (by omega)
        rw[hb1,hb0] at o6
        rw[hb0,if_pos ⟨hle,rfl⟩]
        exact⟨u,rfl,o6.wds.ext xg9,hr2.ext (e6.trans xg9),fun k hk=>Nat.le_trans (x11.trans g31).size (o6.ge k hk)⟩)⟩
section
variable {w:World} {g:Nat}
theorem vA {st:Option (List UInt8)} (hr:bb g st w) (hl:∀l,st=some l→l.length≤549755813888) (h:st.bind qB=none):Calls Tryz.prog 193 #[.pointer (some ⟨g,0,none⟩)] w (bE fun r w'=>w.grownBy w' (some g)∧∃v,r=.tuple #[v,B false]∧(∃m,bo m v w')∧∃l',bb g l' w'):=by
 have:=vz hr hl
 rw[h] at this
 exact this
theorem oo {st:Option (List UInt8)} {m:List UInt32} {t:List UInt8} (hr:bb g st w) (hl:∀l,st=some l→l.length≤549755813888) (h:st.bind qB=some (m,t)):Calls Tryz.prog 193 #[.pointer (some ⟨g,0,none⟩)] w (bE fun r w'=>w.grownBy w' (some g)∧∃v,r=.tuple #[v,B true]∧bo m v w'∧bb g (some t) w'∧om w.heap.size v):=by
 have:=vz hr hl
 rw[h] at this
 exact this
theorem Eg {st:Option (List UInt8)} {m:List UInt32} {t:List UInt8} (hr:bb g st w) (hl:∀l,st=some l→l.length≤549755813888) (h:st.bind qB=some (m,t)):Calls Tryz.prog 193 #[.pointer (some ⟨g,0,none⟩)] w (bE fun r w'=>w.grownBy w' (some g)∧∃v,r=.tuple #[v,B true]∧bo m v w'∧bb g (some t) w'):=by
 exact(oo hr hl h).mono fun _ _ ⟨r,h0,h1,v,h2,h3,h4,_⟩=>⟨r,h0,h1,v,h2,h3,h4⟩
theorem Eh {st:Option (List UInt8)} (hr:bb g st w) (h:st.bind db=none):Calls Tryz.prog 111 #[.pointer (some ⟨g,0,none⟩)] w (bE fun r w'=>w.grownBy w' (some g)∧r=.tuple #[bj 0,I 5]∧bb g none w'):=by
 have:=nC hr
 rw[h] at this
 exact this
theorem Ei {st:Option (List UInt8)} {n:Nat} {t:List UInt8} (hr:bb g st w) (h:st.bind db=some (n,t)):Calls Tryz.prog 111 #[.pointer (some ⟨g,0,none⟩)] w (bE fun r w'=>w.grownBy w' (some g)∧r=.tuple #[bj (UInt64.ofNat n),I 0]∧bb g (some t) w'):=by
 have:=nC hr
 rw[h] at this
 exact this
end
def IntR (g:Nat) (w:World) (o:Option (Nat×List UInt8)) (r:Value) (w':World):Prop:=
 w.grownBy w' (some g)∧match o with
  |some (n,t)=>r=.tuple #[I (uz n),I 0]∧bb g (some t) w'
  |none=>r=.tuple #[I 0,I 5]∧bb g none w'
theorem Ge {P:Program} {w:World} {s d:TypeId} {n:Nat} (hs:P.underlying s=some (.int .u64)) (hd:P.underlying d=some (.int .i64)) (hn:n<18446744073709551616):(convert s d (bj (UInt64.ofNat n>>>UInt64.ofNat 1))).run P w=.ok (I ((n/2:Nat):Int)) w:=by
 have e:(UInt64.ofNat n>>>UInt64.ofNat 1).toNat=n/2:=by
  rw[UInt64.toNat_shiftRight,UInt64.toNat_ofNat',show(UInt64.ofNat 1).toNat%64=1 from rfl,Nat.shiftRight_eq_div_pow];omega
 have:=nw (P:=P) (w:=w) hs hd (a:=UInt64.ofNat n>>>UInt64.ofNat 1) (by omega)
 rwa [e] at this
theorem CJ {n:Nat}:(UInt64.ofNat n&&&1).toNat=n%2:=by
 rw[UInt64.toNat_and,UInt64.toNat_ofNat',show(1:UInt64).toNat=1 from rfl,Nat.and_one_is_mod];omega
theorem Jn {P:Program} {w:World} {s d:TypeId} {n:Nat} (hs:P.underlying s=some (.int .u64)) (hd:P.underlying d=some (.int .i64)) (h:n%2=0):(convert s d (bj (UInt64.ofNat n&&&1))).run P w=.ok (I 0) w:=by
 have:=nw (P:=P) (w:=w) hs hd (a:=UInt64.ofNat n&&&1) (by rw[CJ];omega)
 rw[CJ,h] at this
 exact this
theorem Jo {P:Program} {w:World} {s d:TypeId} {n:Nat} (hs:P.underlying s=some (.int .u64)) (hd:P.underlying d=some (.int .i64)) (h:n%2=1):(convert s d (bj (UInt64.ofNat n&&&1))).run P w=.ok (I 1) w:=by
 have:=nw (P:=P) (w:=w) hs hd (a:=UInt64.ofNat n&&&1) (by rw[CJ];omega)
 rw[CJ,h] at this
 exact this
theorem vB {w:World} {g:Nat} {st:Option (List UInt8)} (hr:bb g st w):
 Calls Tryz.prog 177 #[.pointer (some ⟨g,0,none⟩)] w (bE (IntR g w (st.bind db))):=by
 refine enter (vs:=[.pointer (some ⟨g,0,none⟩)]) Tryz.func177 Ll Ll Ll ?_
 refine af (aa (ac Ll Ll (ac Ll Ll (ag (ab (af ?_))))))
 rcases hN:st.bind db with _|⟨n,t⟩
 ·refine aa (ae Ll Ll (an gP Ll Ll (Eh hr hN) ?_))
  rintro v8 w8 ⟨x8,rfl,hr1⟩
  have m8:=(hr.rdT).kp x8
  refine ae Ll Ll (ak Ll Ll (aT) (ak Ll Ll (aU) (ac Ll Ll (ac Ll Ll (ag (ab (af (af (aa (ae Ll Ll (ai Ll Ll Ll (cg (by decide) bL) ?_)))))))))))
  refine ag (ab (bB Ll (af (aa (ae Ll Ll (ac Ll Ll (ac Ll Ll (ag (ab (av (au (aM Ll Ll Ll ?_))))))))))))
  exact⟨_,rfl,x8,rfl,hr1⟩
 ·refine aa (ae Ll Ll (an gP Ll Ll (Ei hr hN) ?_))
  rintro v8 w8 ⟨x8,rfl,hr1⟩
  have m8:=(hr.rdT).kp x8
  refine ae Ll Ll (ak Ll Ll (aT) (ak Ll Ll (aU) (ac Ll Ll (ac Ll Ll (ag (ab (af (af (aa (ae Ll Ll (ai Ll Ll Ll (cf (by decide) bL) ?_)))))))))))
  have hnn:=(pA (k:=(st.getD []).length) hN (by rintro l rfl;exact Nat.le_refl _)).2
  refine ag (ab (cp Ll (ar (ab (af ?_)))))
  rcases Nat.mod_two_eq_zero_or_one n with hm|hm
  ·refine aa (ae Ll Ll (ai Ll Ll Ll (dz 1 (by omega)) (aR Ll Ll (Ge KN KO hnn) (ae Ll Ll ?_))))
   refine ai (v:=bj 1) Ll Ll Ll (u7) (aR Ll Ll (Jn KN KO hm) (bI Ll Ll (wY (by omega) (by omega)) ?_))
   refine ai Ll Ll Ll (HX (by omega)) (ac Ll Ll (ac Ll Ll (ag (ab (av (aM Ll Ll Ll ?_))))))
   exact⟨_,rfl,x8,congrArg (fun z=>Value.tuple #[I z,I 0]) (show _=uz n by unfold uz;rw[if_pos hm]),hr1⟩
  ·refine aa (ae Ll Ll (ai Ll Ll Ll (dz 1 (by omega)) (aR Ll Ll (Ge KN KO hnn) (ae Ll Ll ?_))))
   refine ai (v:=bj 1) Ll Ll Ll (u7) (aR Ll Ll (Jo KN KO hm) (bI Ll Ll (wY (by omega) (by omega)) ?_))
   refine ai Ll Ll Ll (HY (by omega)) (ac Ll Ll (ac Ll Ll (ag (ab (av (aM Ll Ll Ll ?_))))))
   exact⟨_,rfl,x8,congrArg (fun z=>Value.tuple #[I z,I 0]) (show _=uz n by unfold uz;rw[if_neg (by omega)]),hr1⟩
theorem xz {c:UInt8} {l:List UInt8} (h:1<c.toNat):j6 (c::l)=none:=if_pos h
theorem Bc {c:UInt8} {l:List UInt8} (h:qB l=none):j6 (c::l)=none:=by
 show(if 1<c.toNat then none else _)=none
 split
 ·rfl
 ·rw[h];rfl
theorem tF {c:UInt8} {l t:List UInt8} {m:List UInt32} (h1:¬1<c.toNat) (h:qB l=some (m,t)):j6 (c::l)=(qB t).bind fun q=>if rv (decide (c.toNat=1)) m q.1=true then some ((decide (c.toNat=1),m,q.1),q.2) else none:=by
 show(if 1<c.toNat then none else _)=_
 rw[if_neg h1,h];rfl
def RatE (g:Nat) (w:World) (o:Option ((Bool×List UInt32×List UInt32)×List UInt8)) (r:Value) (w':World):Prop:=
 w.grownBy w' (some g)∧match o with
  |some (q,t)=>∃v,r=.tuple #[v,I 0]∧di q.1 q.2.1 q.2.2 v w'∧bb g (some t) w'
  |none=>∃v,r=.tuple #[v,I 5]∧di false [] [] v w'∧bb g none w'
def Ke (g:Nat) (w:World) (o:Option ((Bool×List UInt32×List UInt32)×List UInt8)) (r:Value) (w':World):Prop:=
 w.grownBy w' (some g)∧match o with
  |some (q,t)=>∃x y,r=.tuple #[.agg #[B q.1,x,y],I 0]∧bo q.2.1 x w'∧bo q.2.2 y w'∧bb g (some t) w'∧om w.heap.size x∧om w.heap.size y
  |none=>∃v,r=.tuple #[v,I 5]∧di false [] [] v w'∧bb g none w'
theorem bb.lt {w:World} {g:Nat} {st:Option (List UInt8)} (h:bb g st w):g<w.heap.size:=by
 obtain⟨A,n,c,h1,_⟩:=h
 exact cd.lt h1
theorem tG {c:UInt8}:c.toNat=1↔c=1:=by
 rw[←UInt8.toNat_inj,show(1:UInt8).toNat=1 from rfl]
theorem tH {w:World} {g:Nat} {st:Option (List UInt8)} (hr:bb g st w) (hl:∀l,st=some l→l.length≤549755813888):
 Calls Tryz.prog 179 #[.pointer (some ⟨g,0,none⟩)] w (bE (Ke g w (st.bind j6))):=by
 refine enter (vs:=[.pointer (some ⟨g,0,none⟩)]) Tryz.func179 Ll Ll Ll ?_
 have hglt:=hr.lt
 refine af (aa ?_)
 obtain⟨g2,w2,hr2,l2,x2,k2⟩:=fV (w:=w)
 refine bf Ll hr2 (ac Ll Ll (ag (ab (af (af (aa (ae Ll Ll (ai Ll Ll Ll (mA K1) (ag (ab (cp Ll ?_)))))))))))
 refine ar (ab (af ?_))
 have rr:=hr.ext x2
 have kk:=k2
 have gg:w.grownBy w2 (some g):=dE x2
 have hne:some g2≠some g:=fun h=>by have:=Option.some.inj h;omega
 have hne':g≠g2:=by omega
 rcases st with _|(_|⟨c,l⟩)
 ·have hR:(none:Option (List UInt8)).bind j6=none:=rfl
  refine aa (ae Ll Ll (an iE Ll Ll ((ru (n:=1) rr)) ?_))
  rintro v14 _ ⟨rfl,rfl⟩
  refine ae Ll Ll (ak Ll Ll (aT) (ak Ll Ll (aU) (ac Ll Ll (ac Ll Ll (ag (ab (af (af (aa (ae Ll Ll (bI Ll Ll bK ?_)))))))))))
  refine ae Ll Ll (ao Ll Ll Ll (ao Ll Ll Ll (ao Ll Ll Ll (ao Ll Ll Ll (aw Ll Ll Ll (ag (ab (bB Ll (af (aa ?_))))))))))
  refine bm (vs:=[]) Ll Ll el ?_
  refine ae Ll Ll (an iF Ll Ll (iG rr) ?_)
  rintro v27 w27 ⟨rfl,rs,g27⟩
  have m27:=(rr.rdT).kp g27
  have gg:=gg.trans g27
  have kk:=kk.other g27 hne
  have rr:=rs
  obtain⟨p,q,w3,hp,hs3,q3,k3,n3,d3⟩:=kk.stR ⟨_,_,_,rfl⟩ ⟨_,_,_,rfl⟩ (di.mk (b:=false) (bo.nil _) (bo.nil _))
  refine aq Ll Ll (hs3) (ac Ll Ll (ag (ab (av (au ?_)))))
  refine bJ Ll Ll Ll k3 KP Ll cV ?_
  exact⟨_,rfl,eH gg q3 l2,by rw[hR];exact⟨_,rfl,⟨p,q,rfl,n3,d3⟩,(rr.rdT.off (kk.kpR ⟨_,_,_,rfl⟩ ⟨_,_,_,rfl⟩ q3) q3 hne').rdAt⟩⟩
 ·have hR:(some []).bind j6=none:=rfl
  refine aa (ae Ll Ll (an iE Ll Ll ((CH (n:=1) rr (by decide))) ?_))
  rintro v14 _ ⟨rfl,rfl⟩
  refine ae Ll Ll (ak Ll Ll (aT) (ak Ll Ll (aU) (ac Ll Ll (ac Ll Ll (ag (ab (af (af (aa (ae Ll Ll (bI Ll Ll bK ?_)))))))))))
  refine ae Ll Ll (ao Ll Ll Ll (ao Ll Ll Ll (ao Ll Ll Ll (ao Ll Ll Ll (aw Ll Ll Ll (ag (ab (bB Ll (af (aa ?_))))))))))
  refine bm (vs:=[]) Ll Ll el ?_
  refine ae Ll Ll (an iF Ll Ll (iG rr) ?_)
  rintro v27 w27 ⟨rfl,rs,g27⟩
  have m27:=(rr.rdT).kp g27
  have gg:=gg.trans g27
  have kk:=kk.other g27 hne
  have rr:=rs
  obtain⟨p,q,w3,hp,hs3,q3,k3,n3,d3⟩:=kk.stR ⟨_,_,_,rfl⟩ ⟨_,_,_,rfl⟩ (di.mk (b:=false) (bo.nil _) (bo.nil _))
  refine aq Ll Ll (hs3) (ac Ll Ll (ag (ab (av (au ?_)))))
  refine bJ Ll Ll Ll k3 KP Ll cV ?_
  exact⟨_,rfl,eH gg q3 l2,by rw[hR];exact⟨_,rfl,⟨p,q,rfl,n3,d3⟩,(rr.rdT.off (kk.kpR ⟨_,_,_,rfl⟩ ⟨_,_,_,rfl⟩ q3) q3 hne').rdAt⟩⟩
 ·refine aa (ae Ll Ll (an iE Ll Ll ((tw (n:=1) rr (by simp))) ?_))
  rintro v14 w14 ⟨b14,rfl,hb,rs,g14⟩
  have m14:=(rr.rdT).kp g14
  have gg:=gg.trans g14
  have hs14:=gg.size
  have kk:=kk.other g14 hne
  have rr:bb g (some l) w14:=rs
  have hb:cm [c] b14 w14:=hb
  refine ae Ll Ll (ak Ll Ll (aT) (ak Ll Ll (aU) (ac Ll Ll (ac Ll Ll (ag (ab (af (af (aa (ae Ll Ll (bI Ll Ll bK ?_)))))))))))
  refine ae Ll Ll (al Ll (ae Ll Ll (al Ll ?_)))
  obtain⟨a21,p21,q21⟩:=eD hb (i:=0) (by simp) .i64
  refine aA Ll Ll Ll (p21 _) (al Ll (am Ll Ll (aj KS Ll q21) (al Ll (ai (v:=U8 1) Ll Ll Ll (pm) (aC Ll Ll Ll ?_)))))
  refine ag (ab ?_)
  refine bi Ll (fun h24=>?_) (fun h24=>?_)
  ·have hc:1<c.toNat:=by have:=UInt8.lt_iff_toNat_lt.1 h24;simpa using this
   have hR:(some (c::l)).bind j6=none:=xz hc
   refine af (aa ?_)
   refine bm (vs:=[]) Ll Ll el ?_
   refine ae Ll Ll (an iF Ll Ll (iG rr) ?_)
   rintro v27 w27 ⟨rfl,rs,g27⟩
   have m27:=(rr.rdT).kp g27
   have gg:=gg.trans g27
   have kk:=kk.other g27 hne
   have rr:=rs
   obtain⟨p,q,w3,hp,hs3,q3,k3,n3,d3⟩:=kk.stR ⟨_,_,_,rfl⟩ ⟨_,_,_,rfl⟩ (di.mk (b:=false) (bo.nil _) (bo.nil _))
   refine aq Ll Ll (hs3) (ac Ll Ll (ag (ab (av (au ?_)))))
   refine bJ Ll Ll Ll k3 KP Ll cV ?_
   exact⟨_,rfl,eH gg q3 l2,by rw[hR];exact⟨_,rfl,⟨p,q,rfl,n3,d3⟩,(rr.rdT.off (kk.kpR ⟨_,_,_,rfl⟩ ⟨_,_,_,rfl⟩ q3) q3 hne').rdAt⟩⟩
  ·have hc:¬1<c.toNat:=fun hh=>h24 (UInt8.lt_iff_toNat_lt.2 (by simpa using hh))
   have hl1:∀l',some l=some l'→l'.length≤549755813888:=fun l' e=>by
    have:=hl _ rfl
    cases e
    simp at this;omega
   refine ar (ab (af ?_))
   rcases hN:qB l with _|⟨m,t⟩
   ·have hR:(some (c::l)).bind j6=none:=Bc hN
    refine aa (ae Ll Ll (an ky Ll Ll ((vA (st:=some l) rr hl1 hN)) ?_))
    rintro v30 w30 ⟨g30,v0,rfl,_,_,rs⟩
    have m30:=(rr.rdT).kp g30
    have gg:=gg.trans g30
    have hs30:=gg.size
    have kk:=kk.other g30 hne
    have rr:=rs
    refine ae Ll Ll (ak Ll Ll (aT) (ak Ll Ll (aU) (ac Ll Ll (ac Ll Ll (ag (ab (af (af (aa (ae Ll Ll (bI Ll Ll bK ?_)))))))))))
    refine ag (ab (bB Ll (af (aa ?_))))
    refine bm (vs:=[]) Ll Ll el ?_
    refine ae Ll Ll (an iF Ll Ll (iG rr) ?_)
    rintro v37 w37 ⟨rfl,rs,g37⟩
    have m37:=(rr.rdT).kp g37
    have gg:=gg.trans g37
    have kk:=kk.other g37 hne
    have rr:=rs
    obtain⟨p,q,w3,hp,hs3,q3,k3,n3,d3⟩:=kk.stR ⟨_,_,_,rfl⟩ ⟨_,_,_,rfl⟩ (di.mk (b:=false) (bo.nil _) (bo.nil _))
    refine aq Ll Ll (hs3) (ac Ll Ll (ag (ab (av (au ?_)))))
    refine bJ Ll Ll Ll k3 KP Ll cV ?_
    exact⟨_,rfl,eH gg q3 l2,by rw[hR];exact⟨_,rfl,⟨p,q,rfl,n3,d3⟩,(rr.rdT.off (kk.kpR ⟨_,_,_,rfl⟩ ⟨_,_,_,rfl⟩ q3) q3 hne').rdAt⟩⟩
   ·refine aa (ae Ll Ll (an ky Ll Ll ((oo (st:=some l) rr hl1 hN)) ?_))
    rintro v30 w30 ⟨g30,v0,rfl,h0,rs,f0⟩
    have m30:=(rr.rdT).kp g30
    have gg:=gg.trans g30
    have hs30:=gg.size
    have kk:=kk.other g30 hne
    have rr:=rs
    refine ae Ll Ll (ak Ll Ll (aT) (ak Ll Ll (aU) (ac Ll Ll (ac Ll Ll (ag (ab (af (af (aa (ae Ll Ll (bI Ll Ll bK ?_)))))))))))
    refine ag (ab (cp Ll (ar (ab (af ?_)))))
    have hl2:∀l',some t=some l'→l'.length≤549755813888:=fun l' e=>by
     cases e
     have h1:=(fA hN).1
     have:=hl1 _ rfl
     rw[h1,List.length_append] at this
     omega
    obtain⟨s,hs⟩:∃s,s=decide (c.toNat=1):=⟨_,rfl⟩
    have hcs:s=decide (([c]:List UInt8)[0]'(Nat.zero_lt_one)=(1:UInt8)):=by
     rw[hs]
     exact decide_eq_decide.2 ⟨fun h=>tG.1 h,fun h=>tG.2 h⟩
    have hR1:=tF hc hN
    rw[←hs] at hR1
    rcases hM:qB t with _|⟨m',t'⟩
    rotate_left
    rcases hV:rv s m m'
    ·have hR:(some (c::l)).bind j6=none:=by
      show j6 (c::l)=none
      rw[hR1,hM]
      exact if_neg (by rw[hV];simp)
     refine aa (ae Ll Ll (an ky Ll Ll ((Eg (st:=some t) rr hl2 hM)) ?_))
     rintro v40 w40 ⟨g40,v1,rfl,h1,rs⟩
     have m40:=(rr.rdT).kp g40
     have gg:=gg.trans g40
     have kk:=kk.other g40 hne
     have rr:=rs
     refine ae Ll Ll (ak Ll Ll (aT) (ak Ll Ll (aU) (ac Ll Ll (ac Ll Ll (ag (ab (af (aa (ae Ll Ll ?_)))))))))
     obtain⟨a44,p44,q44⟩:=eD (hb.kp (m30.trans m40)) (i:=0) (by simp) .i64
     refine aA Ll Ll Ll (p44 _) (am Ll Ll (aj KS Ll q44) (ai (v:=U8 1) (r:=B s) Ll Ll Ll ((by rw[hcs];exact iW)) ?_))
     refine ae Ll Ll (ae Ll Ll ?_)
     refine bm (vs:=[(0,B s),(1,v0),(2,v1)]) Ll Ll (kv h0.isS h1.isS) ?_
     obtain⟨g8,w8,hr8,l8,x8,k8⟩:=fV (w:=w40)
     refine bf Ll hr8 ?_
     obtain⟨p,q,w4,hp,hs4,q4,k4,n4,d4⟩:=k8.stR ⟨_,_,_,rfl⟩ ⟨_,_,_,rfl⟩ (di.mk (b:=s) ((h0.kp m40).ext x8) (h1.ext x8))
     refine aq Ll Ll (hs4) ?_
     have x4:=x8.of_new q4 l8
     have rr:=rr.ext x4
     have kk:=kk.ext x4
     have gg:=gg.trans (dE x4)
     have hml:m.length≤137438953472:=by
      have:=hl1 _ rfl
      rw[(fA hN).1,List.length_append,lu,List.length_append,fu] at this
      omega
     refine ag (ab (af (af (aa (ae Ll Ll (bI Ll Ll bK (ae Ll Ll (al Ll (am Ll Ll (k4.ldR) (al Ll ?_))))))))))
     have hml':m'.length≤137438953472:=by
      have:=hl2 _ rfl
      rw[(fA hM).1,List.length_append,lu,List.length_append,fu] at this
      omega
     refine an eR Ll Ll ((by have:=mJ (b:=s) (di.mk n4 d4) hml hml';rw[hV] at this;exact this)) ?_
     rintro v54 w54 ⟨x54,rfl⟩
     have rr:=rr.ext x54
     have kk:=kk.ext x54
     have gg:=gg.trans (dE x54)
     refine al Ll (bI Ll Ll bK (aC Ll Ll Ll (ag (ab (bB Ll (af (aa ?_)))))))
     refine bm (vs:=[]) Ll Ll el ?_
     refine ae Ll Ll (an iF Ll Ll (iG rr) ?_)
     rintro v59 w59 ⟨rfl,rs,g59⟩
     have m59:=(rr.rdT).kp g59
     have gg:=gg.trans g59
     have kk:=kk.other g59 hne
     have rr:=rs
     obtain⟨p,q,w3,hp,hs3,q3,k3,n3,d3⟩:=kk.stR ⟨_,_,_,rfl⟩ ⟨_,_,_,rfl⟩ (di.mk (b:=false) (bo.nil _) (bo.nil _))
     refine aq Ll Ll (hs3) (ac Ll Ll (ag (ab (av (au ?_)))))
     refine bJ Ll Ll Ll k3 KP Ll cV ?_
     exact⟨_,rfl,eH gg q3 l2,by rw[hR];exact⟨_,rfl,⟨p,q,rfl,n3,d3⟩,(rr.rdT.off (kk.kpR ⟨_,_,_,rfl⟩ ⟨_,_,_,rfl⟩ q3) q3 hne').rdAt⟩⟩
    ·have hR:(some (c::l)).bind j6=some ((s,m,m'),t'):=by
      show j6 (c::l)=_
      rw[hR1,hM]
      exact if_pos hV
     refine aa (ae Ll Ll (an ky Ll Ll ((oo (st:=some t) rr hl2 hM)) ?_))
     rintro v40 w40 ⟨g40,v1,rfl,h1,rs,f1⟩
     have m40:=(rr.rdT).kp g40
     have gg:=gg.trans g40
     have kk:=kk.other g40 hne
     have rr:=rs
     refine ae Ll Ll (ak Ll Ll (aT) (ak Ll Ll (aU) (ac Ll Ll (ac Ll Ll (ag (ab (af (aa (ae Ll Ll ?_)))))))))
     obtain⟨a44,p44,q44⟩:=eD (hb.kp (m30.trans m40)) (i:=0) (by simp) .i64
     refine aA Ll Ll Ll (p44 _) (am Ll Ll (aj KS Ll q44) (ai (v:=U8 1) (r:=B s) Ll Ll Ll ((by rw[hcs];exact iW)) ?_))
     refine ae Ll Ll (ae Ll Ll ?_)
     refine bm (vs:=[(0,B s),(1,v0),(2,v1)]) Ll Ll (kv h0.isS h1.isS) ?_
     obtain⟨g8,w8,hr8,l8,x8,k8⟩:=fV (w:=w40)
     refine bf Ll hr8 ?_
     obtain⟨p,q,w4,hp,hs4,q4,k4,n4,d4⟩:=k8.stR ⟨_,_,_,rfl⟩ ⟨_,_,_,rfl⟩ (di.mk (b:=s) ((h0.kp m40).ext x8) (h1.ext x8))
     refine aq Ll Ll (hs4) ?_
     have x4:=x8.of_new q4 l8
     have rr:=rr.ext x4
     have kk:=kk.ext x4
     have gg:=gg.trans (dE x4)
     have hml:m.length≤137438953472:=by
      have:=hl1 _ rfl
      rw[(fA hN).1,List.length_append,lu,List.length_append,fu] at this
      omega
     refine ag (ab (af (af (aa (ae Ll Ll (bI Ll Ll bK (ae Ll Ll (al Ll (am Ll Ll (k4.ldR) (al Ll ?_))))))))))
     have hml':m'.length≤137438953472:=by
      have:=hl2 _ rfl
      rw[(fA hM).1,List.length_append,lu,List.length_append,fu] at this
      omega
     refine an eR Ll Ll ((by have:=mJ (b:=s) (di.mk n4 d4) hml hml';rw[hV] at this;exact this)) ?_
     rintro v54 w54 ⟨x54,rfl⟩
     have rr:=rr.ext x54
     have kk:=kk.ext x54
     have gg:=gg.trans (dE x54)
     refine al Ll (bI Ll Ll bK (aC Ll Ll Ll (ag (ab (cp Ll (ar (ab (af (aa (am Ll Ll ((k4.ext x54).ldR) ?_))))))))))
     obtain⟨ea,eb⟩:=tE hp
     obtain⟨p,q,w3,hp,hs3,q3,k3,n3,d3⟩:=kk.stR ⟨_,_,_,rfl⟩ ⟨_,_,_,rfl⟩ ((di.mk n4 d4).ext x54)
     refine aq Ll Ll (hs3) (ac Ll Ll (ag (ab (av ?_))))
     refine bJ Ll Ll Ll k3 KP Ll cV ?_
     exact⟨_,rfl,eH gg q3 l2,by
      rw[hR]
      obtain⟨ec,ed⟩:=tE hp
      exact⟨p,q,rfl,n3,d3,(rr.rdT.off (kk.kpR ⟨_,_,_,rfl⟩ ⟨_,_,_,rfl⟩ q3) q3 hne').rdAt,ec▸ea▸(fun k hk=>Nat.le_trans hs14 (f0 k hk)),ed▸eb▸(fun k hk=>Nat.le_trans hs30 (f1 k hk))⟩⟩
    ·have hR:(some (c::l)).bind j6=none:=by
      show j6 (c::l)=none
      rw[hR1,hM];rfl
     refine aa (ae Ll Ll (an ky Ll Ll ((vA (st:=some t) rr hl2 hM)) ?_))
     rintro v40 w40 ⟨g40,v1,rfl,⟨m',h1⟩,_,rs⟩
     have m40:=(rr.rdT).kp g40
     have gg:=gg.trans g40
     have kk:=kk.other g40 hne
     have rr:=rs
     refine ae Ll Ll (ak Ll Ll (aT) (ak Ll Ll (aU) (ac Ll Ll (ac Ll Ll (ag (ab (af (aa (ae Ll Ll ?_)))))))))
     obtain⟨a44,p44,q44⟩:=eD (hb.kp (m30.trans m40)) (i:=0) (by simp) .i64
     refine aA Ll Ll Ll (p44 _) (am Ll Ll (aj KS Ll q44) (ai (v:=U8 1) (r:=B s) Ll Ll Ll ((by rw[hcs];exact iW)) ?_))
     refine ae Ll Ll (ae Ll Ll ?_)
     refine bm (vs:=[(0,B s),(1,v0),(2,v1)]) Ll Ll (kv h0.isS h1.isS) ?_
     obtain⟨g8,w8,hr8,l8,x8,k8⟩:=fV (w:=w40)
     refine bf Ll hr8 ?_
     obtain⟨p,q,w4,hp,hs4,q4,k4,n4,d4⟩:=k8.stR ⟨_,_,_,rfl⟩ ⟨_,_,_,rfl⟩ (di.mk (b:=s) ((h0.kp m40).ext x8) (h1.ext x8))
     refine aq Ll Ll (hs4) ?_
     have x4:=x8.of_new q4 l8
     have rr:=rr.ext x4
     have kk:=kk.ext x4
     have gg:=gg.trans (dE x4)
     have hml:m.length≤137438953472:=by
      have:=hl1 _ rfl
      rw[(fA hN).1,List.length_append,lu,List.length_append,fu] at this
      omega
     refine ag (ab (af (af (aa (ae Ll Ll (bI Ll Ll bK (ae Ll Ll (ao Ll Ll Ll (ao Ll Ll Ll (ao Ll Ll Ll (aw Ll Ll Ll (ag (ab ?_)))))))))))))
     refine bB Ll (af (aa ?_))
     refine bm (vs:=[]) Ll Ll el ?_
     refine ae Ll Ll (an iF Ll Ll (iG rr) ?_)
     rintro v59 w59 ⟨rfl,rs,g59⟩
     have m59:=(rr.rdT).kp g59
     have gg:=gg.trans g59
     have kk:=kk.other g59 hne
     have rr:=rs
     obtain⟨p,q,w3,hp,hs3,q3,k3,n3,d3⟩:=kk.stR ⟨_,_,_,rfl⟩ ⟨_,_,_,rfl⟩ (di.mk (b:=false) (bo.nil _) (bo.nil _))
     refine aq Ll Ll (hs3) (ac Ll Ll (ag (ab (av (au ?_)))))
     refine bJ Ll Ll Ll k3 KP Ll cV ?_
     exact⟨_,rfl,eH gg q3 l2,by rw[hR];exact⟨_,rfl,⟨p,q,rfl,n3,d3⟩,(rr.rdT.off (kk.kpR ⟨_,_,_,rfl⟩ ⟨_,_,_,rfl⟩ q3) q3 hne').rdAt⟩⟩
end Go.Rl
namespace Go.Rl
open Go.RowKit Go.Proofs
theorem vC:ay Tryz.prog 24:=⟨_,Tryz.func24,by kernel_rfl,rfl⟩
theorem cW:ay Tryz.prog 61:=⟨_,Tryz.func61,by kernel_rfl,rfl⟩
theorem cI:ay Tryz.prog 25:=⟨_,Tryz.func25,by kernel_rfl,rfl⟩
theorem iI:ay Tryz.prog 152:=⟨_,Tryz.func152,by kernel_rfl,rfl⟩
theorem gR:ay Tryz.prog 181:=⟨_,Tryz.func181,by kernel_rfl,rfl⟩
theorem qE:ay Tryz.prog 153:=⟨_,Tryz.func153,by kernel_rfl,rfl⟩
theorem rA:ay Tryz.prog 82:=⟨_,Tryz.func82,by kernel_rfl,rfl⟩
theorem ov:ay Tryz.prog 115:=⟨_,Tryz.func115,by kernel_rfl,rfl⟩
theorem uT:(Tryz.prog.info? 109).map (·.zero)=some (some (.agg #[.slice none 0 0,.bool false])):=by kernel_rfl
def ci (g:Nat) (st:Option (List UInt8)) (w:World):Prop:=dS 109 g st w
theorem ci.ext {g:Nat} {st:Option (List UInt8)} {w w':World} (h:ci g st w) (hx:aI w w'):ci g st w':=dS.ext h hx
theorem ci.lt {w:World} {g:Nat} {st:Option (List UInt8)} (h:ci g st w):g<w.heap.size:=by
 obtain⟨A,n,c,h1,_⟩:=h
 exact cd.lt h1
theorem zl {st:Option (List UInt8)}:st.bind db=db (st.getD []):=by cases st<;>rfl
theorem zm {acc mult:UInt64} {c:UInt8} {k:Nat} (ha:acc.toNat<128^k) (hk:k≤9) (h9:k=9→c.toNat%128≤1) (hm:mult.toNat=128^k):
 (acc+(c%128).toUInt64*mult).toNat=acc.toNat+(c.toNat%128)*128^k:=by
 have e1:((c%128).toUInt64).toNat=c.toNat%128:=by rw[UInt8.toNat_toUInt64,UInt8.toNat_mod];rfl
 rw[UInt64.toNat_add,UInt64.toNat_mul,e1,hm]
 rcases Nat.lt_or_ge k 9 with h|h
 ·have h1:(c.toNat%128)*128^k≤127*128^8:=Nat.mul_le_mul (by omega) (Nat.pow_le_pow_right (by omega) (by omega))
  have h2:128^k≤128^8:=Nat.pow_le_pow_right (by omega) (by omega)
  have e:(128:Nat)^8=72057594037927936:=by decide
  rw[Nat.mod_eq_of_lt (by omega),Nat.mod_eq_of_lt (by omega)]
 ·have h':k=9:=by omega
  subst h'
  have:=h9 rfl
  have e:(128:Nat)^9=9223372036854775808:=by decide
  rw[e] at ha⊢
  rw[Nat.mod_eq_of_lt (by omega),Nat.mod_eq_of_lt (by omega)]
theorem vD {w:World} {l:List UInt8} {v:Value} (hv:cm l v w) (hl:l.length≤140737488355328):
 Calls Tryz.prog 24 #[v] w (bE fun r w'=>aI w w'∧∃g,w.heap.size≤g∧r=.pointer (some ⟨g,0,none⟩)∧ci g (some l) w'):=by
 refine enter (vs:=[v]) Tryz.func24 Ll Ll Ll ?_
 refine af (aa (ac Ll Ll (ag (ab (af (aa ?_))))))
 obtain⟨v3,w3,hr3,x3,o3,ob3⟩:=fE (w:=w) w.heap.size [] (by simp) (Nat.le_refl _)
 refine aO (vs:=[]) Ll Ll hr3 (ae Ll Ll ?_)
 obtain⟨v5,w5,hr5,o5,g5⟩:=dn (ty:=28) o3 (hv.ext x3) (by simpa using hl) (x3).size
 have x5:=aI.of_grew (x3) g5 o3.ge
 refine bc Ll Ll hr5 ?_
 obtain⟨A,n,c,rfl,_⟩:=id o5.bts
 refine bm (vs:=[(0,.slice A n c)]) Ll Ll (r:=.agg #[.slice A n c,.bool false]) (by simp[Instr.build,run_underlying Tryz.underlying109,qp uT,dJ cq,dJ ga,Instr.fill,Value.cells]) ?_
 refine cL Ll Ll (nU) (ac Ll Ll (ag (ab (av (aG Ll Ll ?_)))))
 exact⟨_,rfl,(x5).trans (aI.new _ _),_,(x5).size,rfl,A,n,c,heap_alloc_new _ _,o5.bts.ext (aI.new _ _),fun ad had=>o5.elim fun _ h=>(World.ownsRow.lt h ad.block (by rw[had];rfl)).2⟩
theorem cX {w:World} {g:Nat} {st:Option (List UInt8)} (hr:ci g st w):
 Calls Tryz.prog 61 #[.pointer (some ⟨g,0,none⟩)] w (bE fun r w'=>r=I 5∧ci g none w'∧w.grownBy w' (some g)):=by
 refine enter (vs:=[.pointer (some ⟨g,0,none⟩)]) Tryz.func61 Ll Ll Ll ?_
 obtain⟨A,n,c,k0,b0,_⟩:=hr
 refine af (aa (ac Ll Ll (ag (ab (af (aa (ae Ll Ll (ae Ll Ll (aH Ll Ll (ah Ll Ll (aF (o:=0) KV Ll (by kernel_rfl) Ll) ?_))))))))))
 refine aq Ll Ll (dv cq Ll k0 (by simp)) ?_
 have k1:=k0.set 0 (.slice none 0 0)
 refine aH Ll Ll (ah Ll Ll (aF (o:=1) Tryz.underlying109 Ll (by kernel_rfl) Ll) (aq Ll Ll (dv (i:=1) ga Ll k1 (by simp)) ?_))
 refine ag (ab (af (aa (ac Ll Ll (ag (ab (av (aG Ll Ll ?_))))))))
 exact⟨_,rfl,rfl,⟨none,0,0,k1.set 1 (.bool true),cm.nil _,pz.none g⟩,(ba w g 0 _).trans (ba _ g 1 _)⟩
theorem ow {w:World} {g:Nat} {st:Option (List UInt8)} (hr:ci g st w):
 Calls Tryz.prog 115 #[.pointer (some ⟨g,0,none⟩)] w (bE fun r w'=>r=I (if st=some [] then 0 else 5)∧w'=w):=by
 refine enter (vs:=[.pointer (some ⟨g,0,none⟩)]) Tryz.func115 Ll Ll Ll ?_
 obtain⟨A,n,c,k0,b0,_⟩:=hr
 refine af (aa (ac Ll Ll (ag (ab (af (af ?_))))))
 rcases st with _|l
 ·refine aa (ae Ll Ll (aH Ll Ll (ah Ll Ll (aF (o:=1) KV Ll (by kernel_rfl) Ll) (am Ll Ll (aj KU Ll (k0.cell (i:=1) Ll)) ?_))))
  refine ae Ll Ll (ao Ll Ll Ll (ao Ll Ll Ll (ao Ll Ll Ll (ao Ll Ll Ll (ao Ll Ll Ll (ao Ll Ll Ll (aw Ll Ll Ll (ag (ab (bB Ll (af ?_)))))))))))
  refine aa (ac Ll Ll (ag (ab (av (au (aG Ll Ll ?_))))))
  exact⟨_,rfl,rfl,rfl⟩
 ·have b0:cm l (.slice A n c) w:=b0
  refine aa (ae Ll Ll (aH Ll Ll (ah Ll Ll (aF (o:=1) KV Ll (by kernel_rfl) Ll) (am Ll Ll (aj KU Ll (k0.cell (i:=1) Ll)) ?_))))
  refine ae Ll Ll (al Ll (ae Ll Ll (al Ll (aH Ll Ll (al Ll (ah Ll Ll (aF (o:=0) KV Ll (by kernel_rfl) Ll) ?_))))))
  refine al Ll (am Ll Ll (aj KQ Ll (k0.cell (i:=0) Ll)) (al Ll (aQ Ll Ll (bC b0) (al Ll (ai Ll Ll Ll (ck) ?_)))))
  refine aC Ll Ll Ll (ag (ab ?_))
  refine bi Ll (fun h14=>?_) (fun h14=>?_)
  ·refine af (aa (ac Ll Ll (ag (ab (av (au (aG Ll Ll ?_)))))))
   exact⟨_,rfl,by rw[if_neg (by rintro⟨⟩;simp at h14)];rfl,rfl⟩
  ·refine ar (ab (af (aa (ac Ll Ll (ag (ab (av (aG Ll Ll ?_))))))))
   exact⟨_,rfl,by
    have h0:l=[]:=List.eq_nil_of_length_eq_zero (by omega)
    rw[h0];rfl,rfl⟩
def Jp (g:Nat) (w:World) (o:Option (Nat×List UInt8)) (r:Value) (w':World):Prop:=
 w.grownBy w' (some g)∧match o with
  |some (n,t)=>r=.tuple #[bj (UInt64.ofNat n),I 0]∧ci g (some t) w'
  |none=>r=.tuple #[bj 0,I 5]∧ci g none w'
theorem vE (k:Nat) (l:List UInt8):ln 0 k l=none:=rfl
theorem gS {k:Nat} {c:UInt8} {l:List UInt8} (hk:k≤9):ln (10-k) k (c::l)=if (k=9∧1<c.toNat)∨(0<k∧c.toNat=0) then none else if c.toNat<128 then some (c.toNat*128^k,l) else(ln (10-(k+1)) (k+1) l).map fun p=>(p.1+(c.toNat%128)*128^k,p.2):=by
 rw[show 10-k=(9-k)+1 by omega,show 10-(k+1)=9-k by omega];rfl
theorem tI {w:World} {g:Nat} {st:Option (List UInt8)} (hr:ci g st w):
 Calls Tryz.prog 25 #[.pointer (some ⟨g,0,none⟩)] w (bE (Jp g w (st.bind db))):=by
 refine enter (vs:=[.pointer (some ⟨g,0,none⟩)]) Tryz.func25 Ll Ll Ll ?_
 obtain⟨A,n,c0,k0,b0,lc⟩:=id hr
 rw[zl]
 obtain⟨l,hl0⟩:∃l,l=st.getD []:=⟨_,rfl⟩
 rw[←hl0] at b0⊢
 refine af (aa (ac Ll Ll (ac Ll Ll (ag (ab (af (aa (ac Ll Ll (ac Ll Ll (ag (ab (af (af (aa (ac Ll Ll (ag ?_))))))))))))))))
 refine ab (ax ?_)
 refine f6 (fun(i:Nat) (acc:UInt64) (mult:UInt64)=>[(0,.pointer (some ⟨g,0,none⟩)),(4,bj acc),(5,bj mult),(6,I (i:Int))]) (fun(i:Nat) (acc:UInt64) (mult:UInt64) w'=>w=w'∧i≤10∧i≤l.length∧(i≤9→mult.toNat=128^i)∧acc.toNat<128^i∧db l=(ln (10-i) i (l.drop i)).map fun p=>(p.1+acc.toNat,p.2)) (fun(i:Nat) (acc:UInt64) (mult:UInt64)=>10-i) (0) (0) (1) ⟨rfl,rfl,rfl,rfl,trivial⟩ ⟨rfl,by omega,by omega,fun _=>rfl,by simp,by simp[db]⟩ ?_
 rintro i acc mult _ ⟨rfl,hi,hil,hm,ha,hrd⟩
 refine af (af (aa (ae Ll Ll (ae Ll Ll (aH Ll Ll (ah Ll Ll (aF (o:=0) KV Ll (by kernel_rfl) Ll) ?_))))))
 refine am Ll Ll (aj KQ Ll (k0.cell (i:=0) Ll)) (aQ Ll Ll (bC b0) (ai Ll Ll Ll (aW) (ae Ll Ll ?_)))
 refine cO (fun h15=>?_) (fun h15=>?_)
 ·refine al Ll (ae Ll Ll (al Ll (ai Ll Ll Ll (aW) (aw Ll Ll Ll (ag (ab ?_))))))
  refine bi Ll (fun h18=>?_) (fun h18=>?_)
  ·refine ar (ab (af (ax (af (aa (ae Ll Ll (aH Ll Ll (ah Ll Ll (aF (o:=0) KV Ll (by kernel_rfl) Ll) ?_))))))))
   refine am Ll Ll (aj KQ Ll (k0.cell (i:=0) Ll)) (ae Ll Ll ?_)
   obtain⟨a26,p26,q26⟩:=eD b0 (i:=i) (by omega) .i64
   refine aA Ll Ll Ll (p26 _) (am Ll Ll (aj KS Ll q26) ?_)
   have hil':i<l.length:=by omega
   have hdr:=List.drop_eq_getElem_cons hil'
   have hd:((l[i]%128).toUInt64).toNat=l[i].toNat%128:=by rw[UInt8.toNat_toUInt64,UInt8.toNat_mod];rfl
   have hst:st=some l:=by
    cases st with
    |none=>rw[show l=[] from hl0] at hil';simp at hil'
    |some l'=>rw[show l=l' from hl0]
   refine ai (v:=U8 128) Ll Ll Ll (yF (by decide)) (aR Ll Ll (sT KS KN) (ac Ll Ll (ag ?_)))
   refine ab (af ?_)
   refine fj (fun _:Unit=>[(0,.pointer (some ⟨g,0,none⟩)),(4,bj acc),(5,bj mult),(6,I (i:Int)),(7,bj ((l[i]%128).toUInt64))]) (fun _ w'=>w=w'∧(i=9→l[i].toNat%128≤1)) ?_ ?_
   ·refine af (aa (ae Ll Ll (ai Ll Ll Ll (aZ) (ae Ll Ll ?_))))
    refine cO (fun h32=>?_) (fun h32=>?_)
    ·refine al Ll (ae Ll Ll (al Ll (ai (v:=bj 1) Ll Ll Ll (cu) (aw Ll Ll Ll (ag (ab ?_))))))
     refine bi Ll (fun h35=>?_) (fun h35=>?_)
     ·have hn:db l=none:=by
       have h35:=UInt64.lt_iff_toNat_lt.1 h35
       rw[hd,show(1:UInt64).toNat=1 from rfl] at h35
       rw[hrd,hdr,gS (by omega),if_pos (Or.inl ⟨by omega,by omega⟩)];rfl
      refine af (aa (ae Ll Ll (an cW Ll Ll (cX hr) ?_)))
      rintro v37 w37 ⟨rfl,hr2,gg⟩
      have m37:=dS.kp hr gg
      refine ac Ll Ll (ac Ll Ll (ag (ab (av (au (au (aV (au (au (aV (au (aM Ll Ll Ll ?_))))))))))))
      exact⟨_,rfl,gg,by rw[hn];exact⟨rfl,hr2⟩⟩
     ·refine ar ?_
      exact cz () ⟨rfl,rfl,rfl,rfl,rfl,trivial⟩ ⟨rfl,fun h9=>by
       first
       |exact absurd h9 (by omega)
       |(refine Nat.le_of_not_lt fun hh=>h35 (UInt64.lt_iff_toNat_lt.2 ?_);rw[hd];exact hh)⟩
    ·refine ao Ll Ll Ll (ao Ll Ll Ll (aC Ll Ll Ll (ag (ab (cp Ll (ar ?_))))))
     exact cz () ⟨rfl,rfl,rfl,rfl,rfl,trivial⟩ ⟨rfl,fun h9=>by
      first
      |exact absurd h9 (by omega)
      |(refine Nat.le_of_not_lt fun hh=>h35 (UInt64.lt_iff_toNat_lt.2 ?_);rw[hd];exact hh)⟩
   rintro⟨⟩ _ ⟨rfl,h9⟩
   refine ab (af ?_)
   have hab:=zm (c:=l[i]) ha (by omega) h9 (hm (by omega))
   refine aa (ae Ll Ll (ae Ll Ll (ae Ll Ll (ai Ll Ll Ll (fZ) (ai Ll Ll Ll (dw) (ac Ll Ll (ag (ab (af (aa (ae Ll Ll ?_)))))))))))
   refine ai (v:=bj 128) Ll Ll Ll (fZ) (ac Ll Ll (ag (ab (af (aa (ae Ll Ll (aH Ll Ll (ah Ll Ll (aF (o:=0) KV Ll (by kernel_rfl) Ll) ?_))))))))
   refine am Ll Ll (aj KQ Ll (k0.cell (i:=0) Ll)) (ae Ll Ll ?_)
   obtain⟨a50,p50,q50⟩:=eD b0 (i:=i) (by omega) .i64
   refine aA Ll Ll Ll (p50 _) (am Ll Ll (aj KS Ll q50) (ai (v:=U8 128) Ll Ll Ll (ki) (ag (ab ?_))))
   refine bi Ll (fun h52=>?_) (fun h52=>?_)
   ·have hc:l[i].toNat<128:=UInt8.lt_iff_toNat_lt.1 h52
    refine af ?_
    refine fj (fun _:Unit=>[(0,.pointer (some ⟨g,0,none⟩)),(4,bj (acc+(l[i]%128).toUInt64*mult)),(6,I (i:Int))]) (fun _ w'=>w=w'∧¬(0<i∧l[i].toNat=0)) ?_ ?_
    ·refine af (aa (ae Ll Ll (ai Ll Ll Ll (ck) (ae Ll Ll ?_))))
     refine cO (fun h55=>?_) (fun h55=>?_)
     ·refine al Ll (ae Ll Ll (al Ll (ai (v:=bj 0) Ll Ll Ll (fK) (aw Ll Ll Ll (ag (ab ?_))))))
      refine bi Ll (fun h58=>?_) (fun h58=>?_)
      ·have hn:db l=none:=by
        have h58:=congrArg UInt64.toNat h58
        rw[hd,show(0:UInt64).toNat=0 from rfl] at h58
        rw[hrd,hdr,gS (by omega),if_pos (Or.inr ⟨by omega,by omega⟩)];rfl
       refine af (aa (ae Ll Ll (an cW Ll Ll (cX hr) ?_)))
       rintro v60 w60 ⟨rfl,hr2,gg⟩
       have m60:=dS.kp hr gg
       refine ac Ll Ll (ac Ll Ll (ag (ab (av (au (au (aV (au (au (aV (au (aM Ll Ll Ll ?_))))))))))))
       exact⟨_,rfl,gg,by rw[hn];exact⟨rfl,hr2⟩⟩
      ·refine ar ?_
       exact cz () ⟨rfl,rfl,rfl,trivial⟩ ⟨rfl,fun hh=>by
        first
        |omega
        |exact h58 (by rw[UInt8.toNat_inj.1 (show l[i].toNat=(0:UInt8).toNat from hh.2)];rfl)⟩
     ·refine ao Ll Ll Ll (ao Ll Ll Ll (aC Ll Ll Ll (ag (ab (cp Ll (ar ?_))))))
      exact cz () ⟨rfl,rfl,rfl,trivial⟩ ⟨rfl,fun hh=>by
       first
       |omega
       |exact h58 (by rw[UInt8.toNat_inj.1 (show l[i].toNat=(0:UInt8).toNat from hh.2)];rfl)⟩
    rintro⟨⟩ _ ⟨rfl,hz⟩
    refine ab (af (aa (ae Ll Ll (ae Ll Ll (aH Ll Ll (ah Ll Ll (aF (o:=0) KV Ll (by kernel_rfl) Ll) ?_))))))
    refine am Ll Ll (aj KQ Ll (k0.cell (i:=0) Ll)) (ae Ll Ll (ai (r:=I ((i+1:Nat):Int)) Ll Ll Ll (by have e:((i+1:Nat):Int)=(i:Int)+1:=(by omega);rw[e];exact aK (by omega) (by omega)) ?_))
    obtain⟨v68,p68,b68⟩:=fp b0 (lo:=i+1) (by omega) .i64
    refine cw Ll Ll Ll Ll Ll (p68 _) (aH Ll Ll (ah Ll Ll (aF (o:=0) KV Ll (by kernel_rfl) Ll) ?_))
    obtain⟨w3,hs3,q3,r3⟩:=dS.set (by have:=hr;rw[hst] at this;exact this) b68 (tu (p68 w) lc)
    refine aq Ll Ll (hs3) (ag (ab (af (aa (ae Ll Ll (ac Ll Ll (ac Ll Ll (ag (ab (av (aV (au (au (aV (au (aM Ll Ll Ll ?_))))))))))))))))
    exact⟨_,rfl,q3,by
     rw[hrd,hdr,gS (by omega),if_neg (fun hh=>hh.elim (fun h=>by have:=h9 h.1;omega) hz),if_pos hc]
     rw[Nat.mod_eq_of_lt hc] at hab
     exact⟨by rw[Nat.add_comm,←hab,UInt64.ofNat_toNat];rfl,r3⟩⟩
   ·have hc:¬l[i].toNat<128:=fun hh=>h52 (UInt8.lt_iff_toNat_lt.2 hh)
    refine ar (aJ (ab (aa (ae Ll Ll (ai (r:=I ((i+1:Nat):Int)) Ll Ll Ll (by have e:((i+1:Nat):Int)=(i:Int)+1:=(by omega);rw[e];exact aK (by omega) (by omega)) ?_)))))
    refine ac Ll Ll (ag ?_)
    refine dA (i+1) (acc+(l[i]%128).toUInt64*mult) (mult*128) ⟨rfl,rfl,rfl,rfl,trivial⟩ ⟨rfl,by omega,by omega,fun hi9=>by
     rw[UInt64.toNat_mul,hm (by omega),show(128:UInt64).toNat=128 from rfl,←Nat.pow_succ]
     exact Nat.mod_eq_of_lt (Nat.lt_of_le_of_lt (Nat.pow_le_pow_right (by omega) hi9) (by decide)),by
     rw[hab,Nat.pow_succ]
     have:(l[i].toNat%128)*128^i≤127*128^i:=Nat.mul_le_mul_right _ (by omega)
     omega,by
     rw[hrd,hdr,gS (by omega),hab]
     by_cases hi9:i=9
     ·subst hi9
      rw[if_pos (Or.inl ⟨rfl,by omega⟩),show 10-(9+1)=0 by omega,vE,Option.map_none,Option.map_none]
     ·rw[if_neg (fun hh=>by omega),if_neg hc,Option.map_map]
      congr 1
      funext p
      simp only[Function.comp,Prod.mk.injEq,and_true]
      omega⟩ (by omega)
  ·refine aY (aB (aB (aX (ab (af (aa (ae Ll Ll (an cW Ll Ll (cX hr) ?_))))))))
   rintro v73 w73 ⟨rfl,hr2,gg⟩
   have m73:=dS.kp hr gg
   refine ac Ll Ll (ac Ll Ll (ag (ab (av (aM Ll Ll Ll ?_)))))
   exact⟨_,rfl,gg,by
    have hn:db l=none:=by
     rw[hrd]
     rcases Nat.lt_or_ge i 10 with h|h
     ·rw[List.drop_of_length_le (by omega),mH];rfl
     ·rw[show 10-i=0 by omega];rfl
    rw[hn];exact⟨rfl,hr2⟩⟩
 ·refine ao Ll Ll Ll (ao Ll Ll Ll (aC Ll Ll Ll (ag (ab (cp Ll (aY (aB (aB (aX (ab (af (aa (ae Ll Ll (an cW Ll Ll (cX hr) ?_))))))))))))))
  rintro v73 w73 ⟨rfl,hr2,gg⟩
  have m73:=dS.kp hr gg
  refine ac Ll Ll (ac Ll Ll (ag (ab (av (aM Ll Ll Ll ?_)))))
  exact⟨_,rfl,gg,by
   have hn:db l=none:=by
    rw[hrd]
    rcases Nat.lt_or_ge i 10 with h|h
    ·rw[List.drop_of_length_le (by omega),mH];rfl
    ·rw[show 10-i=0 by omega];rfl
   rw[hn];exact⟨rfl,hr2⟩⟩
end Go.Rl
namespace Go.Rl
open Go.RowKit Go.Proofs
section
variable {w:World} {g:Nat}
theorem ox {st:Option (List UInt8)} (hr:ci g st w) (h:st.bind db=none):Calls Tryz.prog 25 #[.pointer (some ⟨g,0,none⟩)] w (bE fun r w'=>w.grownBy w' (some g)∧r=.tuple #[bj 0,I 5]∧ci g none w'):=by
 have:=tI hr
 rw[h] at this
 exact this
theorem oy {st:Option (List UInt8)} {n:Nat} {t:List UInt8} (hr:ci g st w) (h:st.bind db=some (n,t)):Calls Tryz.prog 25 #[.pointer (some ⟨g,0,none⟩)] w (bE fun r w'=>w.grownBy w' (some g)∧r=.tuple #[bj (UInt64.ofNat n),I 0]∧ci g (some t) w'):=by
 have:=tI hr
 rw[h] at this
 exact this
end
theorem xB {w w1 w2:World} {row row2:Option Nat} (h:w.grownBy w1 row) (q:w1.grownBy w2 row2) (hg:∀k,row2=some k→w.heap.size≤k):w.grownBy w2 row:=
 ⟨q.os.trans h.os,q.tape.trans h.tape,q.output.trans h.output,Nat.le_trans h.size q.size,fun i hi hne=>(q.block i (Nat.lt_of_lt_of_le hi h.size) (fun e=>by have:=hg i e.symm;omega)).trans (h.block i hi hne)⟩
theorem dQ.ge' {base:Nat} {l:List UInt32} {v:Value} {w:World} (h:dQ base l v w):∀k,v.ownBlock=some k→base≤k:=fun k hk=>h.elim fun _ h=>(World.ownsRow.lt h k hk).1
theorem sm {P:Program} {w:World} {s d:TypeId} {n:Nat} (hs:P.underlying s=some (.int .u64)) (hd:P.underlying d=some (.int .i64)) (hn:n<9223372036854775808):(convert s d (bj (UInt64.ofNat n))).run P w=.ok (I (n:Int)) w:=by
 have e:(UInt64.ofNat n).toNat=n:=by rw[UInt64.toNat_ofNat'];omega
 have:=nw (P:=P) (w:=w) hs hd (a:=UInt64.ofNat n) (by omega)
 rwa [e] at this
theorem CK {P:Program} {w:World} {s d:TypeId} {n:Nat} (hs:P.underlying s=some (.int .u64)) (hd:P.underlying d=some (.int .i64)) (hn:n<18446744073709551616):(convert s d (bj (UInt64.ofNat n/2))).run P w=.ok (I ((n/2:Nat):Int)) w:=by
 have e:(UInt64.ofNat n/2).toNat=n/2:=by
  rw[UInt64.toNat_div,UInt64.toNat_ofNat',show(2:UInt64).toNat=2 from rfl];omega
 have:=nw (P:=P) (w:=w) hs hd (a:=UInt64.ofNat n/2) (by omega)
 rwa [e] at this
theorem CL {n:Nat}:UInt64.ofNat n%2=1↔n%2=1:=by
 rw[←UInt64.toNat_inj,UInt64.toNat_mod,UInt64.toNat_ofNat',show(2:UInt64).toNat=2 from rfl,show(1:UInt64).toNat=1 from rfl]
 omega
def Kf (g:Nat) (w:World) (o:Option (Nat×List UInt8)) (r:Value) (w':World):Prop:=
 w.grownBy w' (some g)∧match o with
  |some (n,t)=>r=.tuple #[I (uz n),I 0]∧ci g (some t) w'
  |none=>r=.tuple #[I 0,I 5]∧ci g none w'
theorem vF {w:World} {g:Nat} {st:Option (List UInt8)} (hr:ci g st w):
 Calls Tryz.prog 152 #[.pointer (some ⟨g,0,none⟩)] w (bE (Kf g w (st.bind db))):=by
 refine enter (vs:=[.pointer (some ⟨g,0,none⟩)]) Tryz.func152 Ll Ll Ll ?_
 refine af (aa (ac Ll Ll (ac Ll Ll (ag (ab (af ?_))))))
 rcases hN:st.bind db with _|⟨n,t⟩
 ·refine aa (ae Ll Ll (an cI Ll Ll (ox hr hN) ?_))
  rintro v8 w8 ⟨x8,rfl,hr1⟩
  have m8:=dS.kp hr x8
  refine ae Ll Ll (ak Ll Ll (aT) (ak Ll Ll (aU) (ac Ll Ll (ac Ll Ll (ag (ab (af (af (aa (ae Ll Ll (ai (v:=bj 2) Ll Ll Ll (iC (by decide)) ?_)))))))))))
  refine ai (v:=bj 1) Ll Ll Ll (cf (by decide) fK) (ag (ab (cp Ll (ar (ab (af (aa (ae Ll Ll (ai (v:=bj 2) Ll Ll Ll (gL (by decide)) ?_)))))))))
  refine aR Ll Ll (nw KN KO (by decide)) ?_
  refine ae Ll Ll (ac Ll Ll (ac Ll Ll (ag (ab (av (aM Ll Ll Ll ?_))))))
  exact⟨_,rfl,x8,rfl,hr1⟩
 ·have hnn:=(pA (k:=(st.getD []).length) hN (by rintro l rfl;exact Nat.le_refl _)).2
  refine aa (ae Ll Ll (an cI Ll Ll (oy hr hN) ?_))
  rintro v8 w8 ⟨x8,rfl,hr1⟩
  have m8:=dS.kp hr x8
  refine ae Ll Ll (ak Ll Ll (aT) (ak Ll Ll (aU) (ac Ll Ll (ac Ll Ll (ag (ab (af (af (aa (ae Ll Ll (ai (v:=bj 2) Ll Ll Ll (iC (by decide)) ?_)))))))))))
  refine ai (v:=bj 1) Ll Ll Ll (fK) (ag (ab ?_))
  refine bi Ll (fun h13=>?_) (fun h13=>?_)
  ·refine af (aa (ae Ll Ll (ai (v:=bj 2) Ll Ll Ll (gL (by decide)) (aR Ll Ll (CK KN KO hnn) ?_))))
   refine bI Ll Ll (wY (by omega) (by omega)) (ai Ll Ll Ll (bg (by omega) (by omega)) (ae Ll Ll (ac Ll Ll (ac Ll Ll (ag (ab ?_))))))
   refine av (au (aM Ll Ll Ll ?_))
   exact⟨_,rfl,x8,congrArg (fun z=>Value.tuple #[I z,I 0]) (show _=uz n by
    unfold uz
    first
    |(have:=CL.1 h13;rw[if_neg (by omega)])
    |(have:=mt CL.2 h13;rw[if_pos (by omega)])),hr1⟩
  ·refine ar (ab (af (aa (ae Ll Ll (ai (v:=bj 2) Ll Ll Ll (gL (by decide)) (aR Ll Ll (CK KN KO hnn) ?_))))))
   refine ae Ll Ll (ac Ll Ll (ac Ll Ll (ag (ab (av (aM Ll Ll Ll ?_))))))
   exact⟨_,rfl,x8,congrArg (fun z=>Value.tuple #[I z,I 0]) (show _=uz n by
    unfold uz
    first
    |(have:=CL.1 h13;rw[if_neg (by omega)])
    |(have:=mt CL.2 h13;rw[if_pos (by omega)])),hr1⟩
def Kg (g:Nat) (w:World) (o:Option (List UInt32×List UInt8)) (r:Value) (w':World):Prop:=
 w.grownBy w' (some g)∧match o with
  |some (m,t)=>∃v,r=.tuple #[v,I 0]∧bo m v w'∧ci g (some t) w'∧om w.heap.size v
  |none=>r=.tuple #[.slice none 0 0,I 5]∧ci g none w'
theorem iu {n m:Nat} (hn:n<18446744073709551616) (hm:m<18446744073709551616):UInt64.ofNat n>UInt64.ofNat m↔m<n:=by
 show UInt64.ofNat m<UInt64.ofNat n↔m<n
 rw[UInt64.lt_iff_toNat_lt,UInt64.toNat_ofNat',UInt64.toNat_ofNat']
 omega
theorem IN {n:Nat} (hn:n<18446744073709551616):UInt64.ofNat n>0↔0<n:=iu hn (by decide)
theorem vG {w:World} {g:Nat} {st:Option (List UInt8)} (hr:ci g st w) (hl:∀l,st=some l→l.length≤549755813888):
 Calls Tryz.prog 181 #[.pointer (some ⟨g,0,none⟩)] w (bE (Kg g w (st.bind qB))):=by
 refine enter (vs:=[.pointer (some ⟨g,0,none⟩)]) Tryz.func181 Ll Ll Ll ?_
 have hglt:=hr.lt
 refine af (aa (ac Ll Ll (ac Ll Ll (ag (ab (af ?_))))))
 rcases hU:st.bind db with _|⟨n,t⟩
 ·refine aa (ae Ll Ll (an cI Ll Ll (ox hr hU) ?_))
  rintro v10 w10 ⟨x10,rfl,hr1⟩
  have m10:=dS.kp hr x10
  refine ae Ll Ll (ak Ll Ll (aT) (ak Ll Ll (aU) (ac Ll Ll (ac Ll Ll (ag (ab (af (af (aa (ae Ll Ll (ai Ll Ll Ll (cg (by decide) bL) ?_)))))))))))
  refine ag (ab (bB Ll (af (aa (ae Ll Ll (ac Ll Ll (ac Ll Ll (ag (ab (av (au (aM Ll Ll Ll ?_))))))))))))
  exact⟨_,rfl,x10,by rw[Gd hU];exact⟨rfl,hr1⟩⟩
 ·obtain⟨ht,hn⟩:=pA hU hl
  refine aa (ae Ll Ll (an cI Ll Ll (oy hr hU) ?_))
  rintro v10 w10 ⟨x10,rfl,hr1⟩
  have m10:=dS.kp hr x10
  refine ae Ll Ll (ak Ll Ll (aT) (ak Ll Ll (aU) ?_))
  obtain⟨A,n',c,k,b,lc⟩:=id hr1
  have b:cm t (.slice A n' c) w10:=b
  refine ac Ll Ll (ac Ll Ll (ag (ab (af (af (aa (ae Ll Ll (ai Ll Ll Ll (cf (by decide) bL) (ag (ab (cp Ll (ar (ab ?_)))))))))))))
  refine af (af (aa (ae Ll Ll (ae Ll Ll (aH Ll Ll (ah Ll Ll (aF (o:=0) KV Ll (by kernel_rfl) Ll) ?_))))))
  refine am Ll Ll (aj KQ Ll (k.cell (i:=0) Ll)) (aQ Ll Ll (bC b) (ai (r:=I ((t.length/4:Nat):Int)) Ll Ll Ll (by have e:((t.length/4:Nat):Int)=(t.length:Int)/4:=(by omega);rw[e];exact nr (by omega) (by omega) (by omega)) ?_))
  refine aR Ll Ll (cN KO KN) (ai Ll Ll Ll (cu) (ag (ab ?_)))
  refine bi Ll (fun h24=>?_) (fun h24=>?_)
  ·have hlong:t.length/4<n:=(iu hn (by omega)).1 h24
   refine af (aa (ae Ll Ll (an cW Ll Ll (cX hr1) ?_)))
   rintro v26 w26 ⟨rfl,hr2,g26⟩
   have m26:=dS.kp hr1 g26
   refine ac Ll Ll (ac Ll Ll (ag (ab (av (au (aM Ll Ll Ll ?_))))))
   exact⟨_,rfl,x10.trans g26,by rw[ol hU,if_neg (by omega)];exact⟨rfl,hr2⟩⟩
  ·have hle:n≤t.length/4:=Nat.le_of_not_lt (mt (iu hn (by omega)).2 h24)
   have hgb:g<w10.heap.size:=ci.lt hr1
   refine ar (ab (af (aa (ac Ll Ll (ag (ab (af (af (aa (ac Ll Ll (ag (ab (ax ?_)))))))))))))
   refine f4 (fun(i:Nat) (u:Value)=>[(0,.pointer (some ⟨g,0,none⟩)),(4,bj (UInt64.ofNat n)),(6,u),(7,I (i:Int))]) (fun(i:Nat) (u:Value) w'=>w10.grownBy w' (some g)∧(∃A n' c,cd g 109 [.slice A n' c,B false] w'∧cm (t.drop (4*i)) (.slice A n' c) w10∧pz A g)∧dQ w10.heap.size (dj (t.take (4*i))) u w'∧i≤n) (fun(i:Nat) (u:Value)=>n-i) (0) (.slice none 0 0) ⟨rfl,rfl,rfl,rfl,trivial⟩ ⟨ji _ _,⟨A,n',c,k,by simpa using b,lc⟩,by simpa [dj] using dQ.nil _ _,by omega⟩ ?_
   rintro i u w8 ⟨g8,⟨A,n',c,k8,b0,lc8⟩,o6,hi⟩
   refine af (af ?_)
   have b8:=b0.kp (dS.kp hr1 g8)
   have hdl:(t.drop (4*i)).length=t.length-4*i:=by rw[List.length_drop]
   refine aa (ae Ll Ll (ae Ll Ll (aR Ll Ll (sm KN KO (by omega)) (ai Ll Ll Ll (aW) (ag ?_)))))
   refine ab ?_
   refine bi Ll (fun h30=>?_) (fun h30=>?_)
   ·refine ar (ab (af (ax (af (bz 36 [0,4,7,33,68] (by kernel_rfl) (by kernel_rfl) ?_)))))
    refine ap Ll Ll (ap Ll Ll (cc Ll Ll (aN Ll Ll (fun w hw=>aF (o:=0) KV Ll (by kernel_rfl) Ll) ?_)))
    refine aE Ll Ll (fun w hw=>aj KQ Ll (hw.cell_some (k8.cell (i:=0) Ll))) ?_
    obtain⟨a38,p38,q38⟩:=eD b8 (i:=0) (by omega) .i64
    refine az Ll Ll Ll (fun w _=>p38 w) (aE Ll Ll (fun w hw=>aj KS Ll (hw.cell_some q38)) (dm Ll Ll (fun w _=>dZ KS KL) ?_))
    refine ap Ll Ll (cc Ll Ll (aN Ll Ll (fun w hw=>aF (o:=0) KV Ll (by kernel_rfl) Ll) ?_))
    refine aE Ll Ll (fun w hw=>aj KQ Ll (hw.cell_some (k8.cell (i:=0) Ll))) ?_
    obtain⟨a45,p45,q45⟩:=eD b8 (i:=1) (by omega) .i64
    refine az Ll Ll Ll (fun w _=>p45 w) (aE Ll Ll (fun w hw=>aj KS Ll (hw.cell_some q45)) (dm Ll Ll (fun w _=>dZ KS KL) ?_))
    refine aS (v:=bA 256) Ll Ll Ll (fun w _=>qm) (aS Ll Ll Ll (fun w _=>cl) (ap Ll Ll (cc Ll Ll (aN Ll Ll (fun w hw=>aF (o:=0) KV Ll (by kernel_rfl) Ll) ?_))))
    refine aE Ll Ll (fun w hw=>aj KQ Ll (hw.cell_some (k8.cell (i:=0) Ll))) ?_
    obtain⟨a54,p54,q54⟩:=eD b8 (i:=2) (by omega) .i64
    refine az Ll Ll Ll (fun w _=>p54 w) (aE Ll Ll (fun w hw=>aj KS Ll (hw.cell_some q54)) (dm Ll Ll (fun w _=>dZ KS KL) ?_))
    refine aS (v:=bA 65536) Ll Ll Ll (fun w _=>qm) (aS Ll Ll Ll (fun w _=>cl) (ap Ll Ll (cc Ll Ll (aN Ll Ll (fun w hw=>aF (o:=0) KV Ll (by kernel_rfl) Ll) ?_))))
    refine aE Ll Ll (fun w hw=>aj KQ Ll (hw.cell_some (k8.cell (i:=0) Ll))) ?_
    obtain⟨a63,p63,q63⟩:=eD b8 (i:=3) (by omega) .i64
    refine az Ll Ll Ll (fun w _=>p63 w) (aE Ll Ll (fun w hw=>aj KS Ll (hw.cell_some q63)) (dm Ll Ll (fun w _=>dZ KS KL) ?_))
    refine aS (v:=bA 16777216) rfl rfl rfl (fun w _=>qm) (aS rfl rfl rfl (fun w _=>cl) (eO (S:=bo [w4 ((t.drop (4*i))[0]'(by omega)) ((t.drop (4*i))[1]'(by omega)) ((t.drop (4*i))[2]'(by omega)) ((t.drop (4*i))[3]'(by omega))]) (bo.stable _) rfl (fun w' _=>by rintro _ rfl;obtain⟨r,w2,h1,h2,h3,_⟩:=ir Tryz.underlying53 (w:=w') w'.heap.size [w4 ((t.drop (4*i))[0]'(by omega)) ((t.drop (4*i))[1]'(by omega)) ((t.drop (4*i))[2]'(by omega)) ((t.drop (4*i))[3]'(by omega))] (by simp) (Nat.le_refl _);rw[←Jm] at h1;exact⟨r,w2,h1,h2,h3.wds⟩) ?_))
    refine bF ?_
    intro wg10 xg10
    rintro _ rfl
    rintro _ rfl
    rintro _ rfl
    rintro _ hq33
    obtain rfl:=Eq.symm hq33
    intro vg68 b68
    obtain⟨v69,w69,hr69,o69,g69⟩:=jz Tryz.underlying53 (ty:=53) (o6.ext xg10) b68 (by have:=gQ i (t.take (4*i)) (by rw[List.length_take];omega);simp;omega) (Nat.le_trans g8.size xg10.size)
    have gg:=xB (g8.trans (dq xg10)) g69.grown (fun k hk=>o6.ge' k hk)
    have k69:=(k8.ext xg10).other g69.grown (fun e=>by have:=o6.ge' g e.symm;omega)
    refine bc Ll Ll hr69 ?_
    refine ac Ll Ll (ag (ab (aa (ae Ll Ll (ae Ll Ll (aH Ll Ll (ah Ll Ll (aF (o:=0) KV Ll (by kernel_rfl) Ll) ?_)))))))
    refine am Ll Ll (aj KQ Ll (k69.cell (i:=0) Ll)) ?_
    obtain⟨v75,p75,b75⟩:=fp b0 (lo:=4) (by omega) .i64
    obtain⟨A5,n5,c5,rfl,_⟩:=id b75
    have lc5:=tu (p75 w) lc8 _ _ _ rfl
    refine cw Ll Ll Ll Ll Ll (p75 _) ?_
    refine aH Ll Ll (ah Ll Ll (aF (o:=0) Tryz.underlying109 Ll (by kernel_rfl) Ll) (aq Ll Ll (dv (i:=0) cq Ll k69 (by simp)) ?_))
    have g11:=ba w69 g 0 (.slice A5 n5 c5)
    have o11:=o69.kept g11 (.inr (fun e=>by have:=o69.ge' g e;omega))
    refine ag (aJ (ab (aa (ae Ll Ll (ai (r:=I ((i+1:Nat):Int)) Ll Ll Ll (by have e:((i+1:Nat):Int)=(i:Int)+1:=(by omega);rw[e];exact aK (by omega) (by omega)) ?_)))))
    refine ac Ll Ll (ag ?_)
    refine d9 (i+1) (v69) ⟨rfl,rfl,rfl,rfl,trivial⟩ ⟨gg.trans g11,⟨A5,n5,c5,k69.set 0 _,by rw[List.drop_drop] at b75;exact b75,lc5⟩,by
     rw[oh i t (by omega)]
     simp only[List.getElem_drop,Nat.add_zero] at o11
     exact o11,by omega⟩ (by omega)
   ·refine aY (aB (aB (aX (ab (af (af ?_))))))
    have hin:i=n:=by omega
    have r8:ci g (some (t.drop (4*i))) w8:=⟨A,n',c,k8,b8,lc8⟩
    obtain⟨bs,hbs⟩:∃bs,bs=t.take (4*i):=⟨_,rfl⟩
    have hbs':bs=t.take (4*n):=by rw[hbs,hin]
    have hbl:bs.length=4*n:=by rw[hbs',List.length_take];omega
    have hns:=gQ n bs hbl
    rw[←hbs] at o6
    have hnn:(UInt64.ofNat n).toNat=n:=by rw[UInt64.toNat_ofNat'];omega
    refine aa (ae Ll Ll (ai (v:=bj 0) Ll Ll Ll (cu) (ae Ll Ll ?_)))
    refine cO (fun h80=>?_) (fun h80=>?_)
    ·refine al Ll (ae Ll Ll (al Ll (ae Ll Ll (al Ll (ai (v:=bj 1) Ll Ll Ll (dx) (al Ll ?_))))))
     have hn0:0<n:=by
      rcases Nat.eq_zero_or_pos n with h|h
      ·rw[h] at h80;exact absurd h80 (by decide)
      ·exact h
     have hm1:(UInt64.ofNat n-1).toNat=n-1:=by
      rw[UInt64.toNat_sub_of_le _ _ (UInt64.le_iff_toNat_le.2 (by rw[hnn];exact hn0)),hnn];rfl
     obtain⟨a84,p84,q84⟩:=cP KK o6.wds (i:=(UInt64.ofNat n-1).toNat) (by omega) .u64
     have hx:(dj bs)[(UInt64.ofNat n-1).toNat]≠0↔lb (val (dj bs))=dj bs:=by
      have e:(UInt64.ofNat n-1).toNat=(dj bs).length-1:=by omega
      simp only[e]
      exact pr (by omega)
     refine aA Ll Ll Ll (p84 _) (al Ll (am Ll Ll (aj KL Ll q84) (al Ll (ai (v:=bA 0) Ll Ll Ll (kj) (aw Ll Ll Ll ?_)))))
     refine ag (ab ?_)
     refine bi Ll (fun h87=>?_) (fun h87=>?_)
     ·refine af (aa (ae Ll Ll (an cW Ll Ll (cX r8) ?_)))
      rintro v89 w89 ⟨rfl,hr2,g89⟩
      have m89:=dS.kp r8 g89
      refine ac Ll Ll (ac Ll Ll (ag (ab (av (au (aM Ll Ll Ll ?_))))))
      exact⟨_,rfl,(x10.trans g8).trans g89,by
       rw[ol hU,←hbs',if_neg fun h=>hx.2 h.2 h87]
       exact⟨rfl,hr2⟩⟩
     ·refine ar (ab (af (aa (ae Ll Ll (ac Ll Ll (ac Ll Ll (ag (ab (av (aM Ll Ll Ll ?_))))))))))
      exact⟨_,rfl,x10.trans g8,by
       rw[hin] at r8
       rw[ol hU,←hbs']
       first
       |(have h0:n=0:=by
          rcases Nat.eq_zero_or_pos n with h|h
          ·exact h
          ·exact absurd ((IN hn).2 h) h80
         have hb0:dj bs=[]:=List.eq_nil_of_length_eq_zero (by rw[hns];exact h0)
         rw[hb0] at o6
         rw[hb0,if_pos ⟨hle,rfl⟩]
         exact⟨u,rfl,o6.wds,r8,fun k hk=>Nat.le_trans x10.size (o6.ge' k hk)⟩)
       |(have hcan:=hx.1 h87
         rw[if_pos ⟨hle,hcan⟩]
         exact⟨u,rfl,o6.wds,r8,fun k hk=>Nat.le_trans x10.size (o6.ge' k hk)⟩)⟩
    ·refine ao Ll Ll Ll (ao Ll Ll Ll (ao Ll Ll Ll (ao Ll Ll Ll (ao Ll Ll Ll (ao Ll Ll Ll (aC Ll Ll Ll (ag (ab (cp Ll (ar (ab (af ?_))))))))))))
     refine aa (ae Ll Ll (ac Ll Ll (ac Ll Ll (ag (ab (av (aM Ll Ll Ll ?_)))))))
     exact⟨_,rfl,x10.trans g8,by
      rw[hin] at r8
      rw[ol hU,←hbs']
      first
      |(have h0:n=0:=by
         rcases Nat.eq_zero_or_pos n with h|h
         ·exact h
         ·exact absurd ((IN hn).2 h) h80
        have hb0:dj bs=[]:=List.eq_nil_of_length_eq_zero (by rw[hns];exact h0)
        rw[hb0] at o6
        rw[hb0,if_pos ⟨hle,rfl⟩]
        exact⟨u,rfl,o6.wds,r8,fun k hk=>Nat.le_trans x10.size (o6.ge' k hk)⟩)
      |(have hcan:=hx.1 h87
        rw[if_pos ⟨hle,hcan⟩]
        exact⟨u,rfl,o6.wds,r8,fun k hk=>Nat.le_trans x10.size (o6.ge' k hk)⟩)⟩
end Go.Rl
namespace Go.Rl
open Go.RowKit Go.Proofs
theorem Jq {st:Option (List UInt8)} (h:st.bind db=none):st.bind yA=none:=by
 cases st with
 |none=>rfl
 |some l=>
  have h:db l=none:=h
  show yA l=none
  unfold yA
  rw[h];rfl
theorem Gf {st:Option (List UInt8)} {n:Nat} {t:List UInt8} (h:st.bind db=some (n,t)):st.bind yA=if n≤t.length then some (t.take n,t.drop n) else none:=by
 cases st with
 |none=>cases h
 |some l=>
  have h:db l=some (n,t):=h
  show yA l=_
  unfold yA
  rw[h];rfl
section
variable {w:World} {g:Nat}
theorem qG {st:Option (List UInt8)} (hr:ci g st w) (hl:∀l,st=some l→l.length≤549755813888) (h:st.bind qB=none):Calls Tryz.prog 181 #[.pointer (some ⟨g,0,none⟩)] w (bE fun r w'=>w.grownBy w' (some g)∧r=.tuple #[.slice none 0 0,I 5]∧ci g none w'):=by
 have:=vG hr hl
 rw[h] at this
 exact this
theorem oz {st:Option (List UInt8)} {m:List UInt32} {t:List UInt8} (hr:ci g st w) (hl:∀l,st=some l→l.length≤549755813888) (h:st.bind qB=some (m,t)):Calls Tryz.prog 181 #[.pointer (some ⟨g,0,none⟩)] w (bE fun r w'=>w.grownBy w' (some g)∧∃v,r=.tuple #[v,I 0]∧bo m v w'∧ci g (some t) w'∧om w.heap.size v):=by
 have:=vG hr hl
 rw[h] at this
 exact this
theorem qH {st:Option (List UInt8)} {m:List UInt32} {t:List UInt8} (hr:ci g st w) (hl:∀l,st=some l→l.length≤549755813888) (h:st.bind qB=some (m,t)):Calls Tryz.prog 181 #[.pointer (some ⟨g,0,none⟩)] w (bE fun r w'=>w.grownBy w' (some g)∧∃v,r=.tuple #[v,I 0]∧bo m v w'∧ci g (some t) w'):=(oz hr hl h).mono fun _ _ ⟨r,h0,h1,v,h2,h3,h4,_⟩=>⟨r,h0,h1,v,h2,h3,h4⟩
end
end Go.Rl
namespace Go.Rl
open Go.RowKit Go.Proofs
theorem cd.st1 {P:Program} {w:World} {T t:TypeId} {g:Nat} {l:List Value} {v:Value} (h:cd g T l w) (i:Nat) (hs:(P.info? t).map (·.size)=some 1) (hv:∃A n c,v=.slice A n c) (hi:i<l.length):
 ∃w',(Instr.storeAt t (.pointer (some ⟨g,i,none⟩)) v).run P w=.ok () w'∧w.grownBy w' (some g)∧cd g T (l.set i v) w':=by
 obtain⟨A,n,c,rfl⟩:=hv
 exact⟨_,dv hs rfl h (by simpa using hi),ba w g i _,h.set i _⟩
theorem Ej {w:World} {b:Bool}:(Instr.build 55 #[(0,B b)]).run Tryz.prog w=.ok (.agg #[B b,.slice none 0 0,.slice none 0 0]) w:=
 run_build _ _ _ #[B b,.slice none 0 0,.slice none 0 0] (by kernel_rfl)
def FRatE (g:Nat) (w:World) (o:Option ((Bool×List UInt32×List UInt32)×List UInt8)) (r:Value) (w':World):Prop:=
 w.grownBy w' (some g)∧match o with
  |some (q,t)=>∃v,r=.tuple #[v,I 0]∧di q.1 q.2.1 q.2.2 v w'∧ci g (some t) w'
  |none=>∃v,r=.tuple #[v,I 5]∧di false [] [] v w'∧ci g none w'
def Jr (g:Nat) (w:World) (o:Option ((Bool×List UInt32×List UInt32)×List UInt8)) (r:Value) (w':World):Prop:=
 w.grownBy w' (some g)∧match o with
  |some (q,t)=>∃x y,r=.tuple #[.agg #[B q.1,x,y],I 0]∧bo q.2.1 x w'∧bo q.2.2 y w'∧ci g (some t) w'∧om w.heap.size x∧om w.heap.size y
  |none=>∃v,r=.tuple #[v,I 5]∧di false [] [] v w'∧ci g none w'
theorem Bd {w:World} {g:Nat} {st:Option (List UInt8)} (hr:ci g st w) (hl:∀l,st=some l→l.length≤549755813888):
 Calls Tryz.prog 153 #[.pointer (some ⟨g,0,none⟩)] w (bE (Jr g w (st.bind j6))):=by
 refine enter (vs:=[.pointer (some ⟨g,0,none⟩)]) Tryz.func153 Ll Ll Ll ?_
 have hglt:=ci.lt hr
 refine af (aa ?_)
 obtain⟨g2,w2,hr2,l2,x2,k2⟩:=fV (w:=w)
 refine bf Ll hr2 (ac Ll Ll (ag (ab (af (af ?_)))))
 have rr:=ci.ext hr x2
 have kk:=k2
 have gg:w.grownBy w2 (some g):=dq x2
 have hne:some g2≠some g:=fun h=>by have:=Option.some.inj h;omega
 have hne':g≠g2:=by omega
 obtain⟨A,n,c0,k0,b0,lc⟩:=id rr
 rcases st with _|(_|⟨c,l⟩)
 ·have hR:(none:Option (List UInt8)).bind j6=none:=rfl
  have bn:cm [] (.slice A n c0) w2:=b0
  refine aa (ae Ll Ll (aH Ll Ll (ah Ll Ll (aF (o:=0) KV Ll (by kernel_rfl) Ll) (am Ll Ll (aj KQ Ll (k0.cell (i:=0) Ll)) ?_))))
  refine aQ Ll Ll (bC bn) (ai Ll Ll Ll (cg (by simp) aZ) (ae Ll Ll (ao Ll Ll Ll (ao Ll Ll Ll (ao Ll Ll Ll (ao Ll Ll Ll (ao Ll Ll Ll ?_)))))))
  refine ao Ll Ll Ll (ao Ll Ll Ll (aw Ll Ll Ll (ag (ab (bB Ll (af (aa ?_)))))))
  refine bm (vs:=[]) Ll Ll el ?_
  refine ae Ll Ll (an cW Ll Ll (cX rr) ?_)
  rintro v22 w22 ⟨rfl,rs,g22⟩
  have m22:=dS.kp rr g22
  have gg:=gg.trans g22
  have kk:=kk.other g22 hne
  have rr:=rs
  obtain⟨p,q,w3,hp,hs3,q3,k3,n3,d3⟩:=kk.stR ⟨_,_,_,rfl⟩ ⟨_,_,_,rfl⟩ (di.mk (b:=false) (bo.nil _) (bo.nil _))
  refine aq Ll Ll (hs3) (ac Ll Ll (ag (ab (av (au ?_)))))
  refine bJ Ll Ll Ll k3 KP Ll cV ?_
  exact⟨_,rfl,eH gg q3 l2,by rw[hR];exact⟨_,rfl,⟨p,q,rfl,n3,d3⟩,dS.off rr (kk.kpR ⟨_,_,_,rfl⟩ ⟨_,_,_,rfl⟩ q3) q3 hne'⟩⟩
 ·have hR:(some []).bind j6=none:=rfl
  have bn:cm [] (.slice A n c0) w2:=b0
  refine aa (ae Ll Ll (aH Ll Ll (ah Ll Ll (aF (o:=0) KV Ll (by kernel_rfl) Ll) (am Ll Ll (aj KQ Ll (k0.cell (i:=0) Ll)) ?_))))
  refine aQ Ll Ll (bC bn) (ai Ll Ll Ll (cg (by simp) aZ) (ae Ll Ll (ao Ll Ll Ll (ao Ll Ll Ll (ao Ll Ll Ll (ao Ll Ll Ll (ao Ll Ll Ll ?_)))))))
  refine ao Ll Ll Ll (ao Ll Ll Ll (aw Ll Ll Ll (ag (ab (bB Ll (af (aa ?_)))))))
  refine bm (vs:=[]) Ll Ll el ?_
  refine ae Ll Ll (an cW Ll Ll (cX rr) ?_)
  rintro v22 w22 ⟨rfl,rs,g22⟩
  have m22:=dS.kp rr g22
  have gg:=gg.trans g22
  have kk:=kk.other g22 hne
  have rr:=rs
  obtain⟨p,q,w3,hp,hs3,q3,k3,n3,d3⟩:=kk.stR ⟨_,_,_,rfl⟩ ⟨_,_,_,rfl⟩ (di.mk (b:=false) (bo.nil _) (bo.nil _))
  refine aq Ll Ll (hs3) (ac Ll Ll (ag (ab (av (au ?_)))))
  refine bJ Ll Ll Ll k3 KP Ll cV ?_
  exact⟨_,rfl,eH gg q3 l2,by rw[hR];exact⟨_,rfl,⟨p,q,rfl,n3,d3⟩,dS.off rr (kk.kpR ⟨_,_,_,rfl⟩ ⟨_,_,_,rfl⟩ q3) q3 hne'⟩⟩
 ·have b0:cm (c::l) (.slice A n c0) w2:=b0
  refine aa (ae Ll Ll (aH Ll Ll (ah Ll Ll (aF (o:=0) KV Ll (by kernel_rfl) Ll) (am Ll Ll (aj KQ Ll (k0.cell (i:=0) Ll)) ?_))))
  refine aQ Ll Ll (bC b0) (ai Ll Ll Ll (cf (by simp;omega) aZ) (ae Ll Ll (al Ll (ae Ll Ll (al Ll (aH Ll Ll (al Ll (ah Ll Ll (aF (o:=0) Tryz.underlying109 Ll (by kernel_rfl) Ll) ?_))))))))
  refine al Ll (am Ll Ll (aj KQ Ll (k0.cell (i:=0) Ll)) (al Ll ?_))
  obtain⟨a16,p16,q16⟩:=eD b0 (i:=0) (by simp) .i64
  refine aA Ll Ll Ll (p16 _) (al Ll (am Ll Ll (aj KS Ll q16) (al Ll (ai (v:=U8 1) Ll Ll Ll (pm) (aC Ll Ll Ll ?_)))))
  refine ag (ab ?_)
  refine bi Ll (fun h19=>?_) (fun h19=>?_)
  ·have hc:1<c.toNat:=by have:=UInt8.lt_iff_toNat_lt.1 h19;simpa using this
   have hR:(some (c::l)).bind j6=none:=xz hc
   refine af (aa ?_)
   refine bm (vs:=[]) Ll Ll el ?_
   refine ae Ll Ll (an cW Ll Ll (cX rr) ?_)
   rintro v22 w22 ⟨rfl,rs,g22⟩
   have m22:=dS.kp rr g22
   have gg:=gg.trans g22
   have kk:=kk.other g22 hne
   have rr:=rs
   obtain⟨p,q,w3,hp,hs3,q3,k3,n3,d3⟩:=kk.stR ⟨_,_,_,rfl⟩ ⟨_,_,_,rfl⟩ (di.mk (b:=false) (bo.nil _) (bo.nil _))
   refine aq Ll Ll (hs3) (ac Ll Ll (ag (ab (av (au ?_)))))
   refine bJ Ll Ll Ll k3 KP Ll cV ?_
   exact⟨_,rfl,eH gg q3 l2,by rw[hR];exact⟨_,rfl,⟨p,q,rfl,n3,d3⟩,dS.off rr (kk.kpR ⟨_,_,_,rfl⟩ ⟨_,_,_,rfl⟩ q3) q3 hne'⟩⟩
  ·have hc:¬1<c.toNat:=fun hh=>h19 (UInt8.lt_iff_toNat_lt.2 (by simpa using hh))
   have hl1:∀l',some l=some l'→l'.length≤549755813888:=fun l' e=>by
    have:=hl _ rfl
    cases e
    simp at this;omega
   refine ar (ab (af ?_))
   obtain⟨s,hs⟩:∃s,s=decide (c.toNat=1):=⟨_,rfl⟩
   have hcs:s=decide ((c::l)[0]'(Nat.zero_lt_succ _)=(1:UInt8)):=by
    rw[hs]
    exact decide_eq_decide.2 ⟨fun h=>tG.1 h,fun h=>tG.2 h⟩
   refine aa (ae Ll Ll (aH Ll Ll (ah Ll Ll (aF (o:=0) KV Ll (by kernel_rfl) Ll) (am Ll Ll (aj KQ Ll (k0.cell (i:=0) Ll)) ?_))))
   obtain⟨a27,p27,q27⟩:=eD b0 (i:=0) (by simp) .i64
   refine aA Ll Ll Ll (p27 _) (am Ll Ll (aj KS Ll q27) (ai (v:=U8 1) (r:=B s) Ll Ll Ll ((by rw[hcs];exact iW)) ?_))
   refine bm (vs:=[(0,B s)]) Ll Ll Ej ?_
   obtain⟨g4,w4,hr4,l4,x4,k4⟩:=fV (w:=w2)
   refine bf Ll hr4 ?_
   obtain⟨p4,q4,w5,hp4,hs5,q5,k5,n5,d5⟩:=k4.stR ⟨_,_,_,rfl⟩ ⟨_,_,_,rfl⟩ (di.mk (b:=s) (bo.nil _) (bo.nil _))
   refine aq Ll Ll (hs5) ?_
   have x5:=x4.of_new q5 l4
   have hg2:=kk.lt
   have hgw:=x2.size
   have hne4:some g4≠some g:=fun h=>by have:=Option.some.inj h;omega
   have hne4':g≠g4:=by omega
   have hne24:some g2≠some g4:=fun h=>by have:=Option.some.inj h;omega
   have hw4:w.heap.size≤g4:=by omega
   have kk:=kk.ext x5
   have rr:=ci.ext rr x5
   have gg:=gg.trans (dq x5)
   refine ag (ab (af (aa (ae Ll Ll (ae Ll Ll (aH Ll Ll (ah Ll Ll (aF (o:=0) KV Ll (by kernel_rfl) Ll) ?_)))))))
   refine am Ll Ll (aj KQ Ll (x5.cell_some (k0.cell (i:=0) Ll))) ?_
   obtain⟨v36,p36,b36⟩:=fp (b0.ext x5) (lo:=1) (by simp) .i64
   refine cw Ll Ll Ll Ll Ll (p36 _) (aH Ll Ll (ah Ll Ll (aF (o:=0) KV Ll (by kernel_rfl) Ll) ?_))
   obtain⟨w6,hs6,q6,r6⟩:=dS.set (l':=l) rr b36 (tu (p36 w) lc)
   refine aq Ll Ll (hs6) ?_
   have m6:=dS.kp rr q6
   have kk:=kk.other q6 hne
   have k5:=k5.other q6 hne4
   have gg:=gg.trans q6
   have rr:ci g (some l) w6:=r6
   have n5:=n5.kp m6
   have d5:=d5.kp m6
   refine ag (ab (af ?_))
   rcases hN:qB l with _|⟨m,t⟩
   rotate_left
   rcases hM:qB t with _|⟨m',t'⟩
   rotate_left
   rcases hV:rv s m m'
   ·have hR:(some (c::l)).bind j6=none:=by
     show j6 (c::l)=none
     rw[tF hc hN,←hs,hM]
     exact if_neg (by rw[hV];simp)
    refine aa (ae Ll Ll (an gR Ll Ll ((qH (st:=some l) rr hl1 hN)) ?_))
    rintro v41 w41 ⟨g41,v0,rfl,h0,rs⟩
    have m41:=dS.kp rr g41
    have kk:=kk.other g41 hne
    have k5:=k5.other g41 hne4
    have gg:=gg.trans g41
    have rr:=rs
    have n5:=n5.kp m41
    have d5:=d5.kp m41
    refine ae Ll Ll (ak Ll Ll (aT) (ak Ll Ll aU (ah Ll Ll (aF (o:=1) KP Ll (by kernel_rfl) Ll) ?_)))
    obtain⟨w7,hs7,q7,k7⟩:=k5.st1 1 gn h0.isS (by simp)
    refine aq Ll Ll (hs7) ?_
    have m7:=k5.kpR n5.isS d5.isS q7
    have kk:=kk.other q7 hne24
    have rr:=dS.off rr m7 q7 hne4'
    have gg:=eH gg q7 hw4
    have n7:=h0.kp m7
    have d7:=d5.kp m7
    refine ag (ab (af (aa (ae Ll Ll ?_))))
    have hl2:∀l',some t=some l'→l'.length≤549755813888:=fun l' e=>by
     cases e
     have h1:=(fA hN).1
     have:=hl1 _ rfl
     rw[h1,List.length_append] at this
     omega
    refine an gR Ll Ll ((qH (st:=some t) rr hl2 hM)) ?_
    rintro v47 w47 ⟨g47,v1,rfl,h1,rs⟩
    have m47:=dS.kp rr g47
    have kk:=kk.other g47 hne
    have k7:=k7.other g47 hne4
    have gg:=gg.trans g47
    have rr:=rs
    have n7:=n7.kp m47
    have d7:=d7.kp m47
    refine ae Ll Ll (ak Ll Ll (aT) (ak Ll Ll aU (ah Ll Ll (aF (o:=2) KP Ll (by kernel_rfl) Ll) ?_)))
    obtain⟨w8,hs8,q8,k8⟩:=k7.st1 2 gn h1.isS (by simp)
    refine aq Ll Ll (hs8) ?_
    have m8:=k7.kpR n7.isS d7.isS q8
    have kk:=kk.other q8 hne24
    have rr:=dS.off rr m8 q8 hne4'
    have gg:=eH gg q8 hw4
    have n8:=n7.kp m8
    have d8:=h1.kp m8
    obtain⟨A9,n9,c9,kr,br⟩:=id rr
    refine ag (ab (af (af (aa (ae Ll Ll (aH Ll Ll (ah Ll Ll (aF (o:=1) KV Ll (by kernel_rfl) Ll) ?_)))))))
    refine am Ll Ll (aj KU Ll (kr.cell (i:=1) Ll)) (ae Ll Ll (al Ll (am Ll Ll (k8.ldR) (al Ll ?_))))
    have hml:m.length≤137438953472:=by
     have:=hl1 _ rfl
     rw[(fA hN).1,List.length_append,lu,List.length_append,fu] at this
     omega
    have hml':m'.length≤137438953472:=by
     have:=hl2 _ rfl
     rw[(fA hM).1,List.length_append,lu,List.length_append,fu] at this
     omega
    refine an ry Ll Ll ((by have:=rz (b:=s) (di.mk n8 d8) hml hml';rw[hV] at this;exact this)) ?_
    rintro v57 w57 ⟨x57,rfl⟩
    have rr:=ci.ext rr x57
    have kk:=kk.ext x57
    have gg:=gg.trans (dq x57)
    refine al Ll (bI Ll Ll bK (aC Ll Ll Ll (ag (ab (bB Ll (af (aa ?_)))))))
    refine bm (vs:=[]) Ll Ll el ?_
    refine ae Ll Ll (an cW Ll Ll (cX rr) ?_)
    rintro v62 w62 ⟨rfl,rs,g62⟩
    have m62:=dS.kp rr g62
    have gg:=gg.trans g62
    have kk:=kk.other g62 hne
    have rr:=rs
    obtain⟨p,q,w3,hp,hs3,q3,k3,n3,d3⟩:=kk.stR ⟨_,_,_,rfl⟩ ⟨_,_,_,rfl⟩ (di.mk (b:=false) (bo.nil _) (bo.nil _))
    refine aq Ll Ll (hs3) (ac Ll Ll (ag (ab (av (au ?_)))))
    refine bJ Ll Ll Ll k3 KP Ll cV ?_
    exact⟨_,rfl,eH gg q3 l2,by rw[hR];exact⟨_,rfl,⟨p,q,rfl,n3,d3⟩,dS.off rr (kk.kpR ⟨_,_,_,rfl⟩ ⟨_,_,_,rfl⟩ q3) q3 hne'⟩⟩
   ·have hR:(some (c::l)).bind j6=some ((s,m,m'),t'):=by
     show j6 (c::l)=_
     rw[tF hc hN,←hs,hM]
     exact if_pos hV
    refine aa (ae Ll Ll ?_)
    have hs41:=gg.size
    refine an gR Ll Ll ((oz (st:=some l) rr hl1 hN)) ?_
    rintro v41 w41 ⟨g41,v0,rfl,h0,rs,f0⟩
    have m41:=dS.kp rr g41
    have kk:=kk.other g41 hne
    have k5:=k5.other g41 hne4
    have gg:=gg.trans g41
    have rr:=rs
    have n5:=n5.kp m41
    have d5:=d5.kp m41
    refine ae Ll Ll (ak Ll Ll (aT) (ak Ll Ll aU (ah Ll Ll (aF (o:=1) KP Ll (by kernel_rfl) Ll) ?_)))
    obtain⟨w7,hs7,q7,k7⟩:=k5.st1 1 gn h0.isS (by simp)
    refine aq Ll Ll (hs7) ?_
    have m7:=k5.kpR n5.isS d5.isS q7
    have kk:=kk.other q7 hne24
    have rr:=dS.off rr m7 q7 hne4'
    have gg:=eH gg q7 hw4
    have n7:=h0.kp m7
    have d7:=d5.kp m7
    refine ag (ab (af (aa (ae Ll Ll ?_))))
    have hs47:=gg.size
    have hl2:∀l',some t=some l'→l'.length≤549755813888:=fun l' e=>by
     cases e
     have h1:=(fA hN).1
     have:=hl1 _ rfl
     rw[h1,List.length_append] at this
     omega
    refine an gR Ll Ll ((oz (st:=some t) rr hl2 hM)) ?_
    rintro v47 w47 ⟨g47,v1,rfl,h1,rs,f1⟩
    have m47:=dS.kp rr g47
    have kk:=kk.other g47 hne
    have k7:=k7.other g47 hne4
    have gg:=gg.trans g47
    have rr:=rs
    have n7:=n7.kp m47
    have d7:=d7.kp m47
    refine ae Ll Ll (ak Ll Ll (aT) (ak Ll Ll aU (ah Ll Ll (aF (o:=2) KP Ll (by kernel_rfl) Ll) ?_)))
    obtain⟨w8,hs8,q8,k8⟩:=k7.st1 2 gn h1.isS (by simp)
    refine aq Ll Ll (hs8) ?_
    have m8:=k7.kpR n7.isS d7.isS q8
    have kk:=kk.other q8 hne24
    have rr:=dS.off rr m8 q8 hne4'
    have gg:=eH gg q8 hw4
    have n8:=n7.kp m8
    have d8:=h1.kp m8
    obtain⟨A9,n9,c9,kr,br⟩:=id rr
    refine ag (ab (af (af (aa (ae Ll Ll (aH Ll Ll (ah Ll Ll (aF (o:=1) KV Ll (by kernel_rfl) Ll) ?_)))))))
    refine am Ll Ll (aj KU Ll (kr.cell (i:=1) Ll)) (ae Ll Ll (al Ll (am Ll Ll (k8.ldR) (al Ll ?_))))
    have hml:m.length≤137438953472:=by
     have:=hl1 _ rfl
     rw[(fA hN).1,List.length_append,lu,List.length_append,fu] at this
     omega
    have hml':m'.length≤137438953472:=by
     have:=hl2 _ rfl
     rw[(fA hM).1,List.length_append,lu,List.length_append,fu] at this
     omega
    refine an ry Ll Ll ((by have:=rz (b:=s) (di.mk n8 d8) hml hml';rw[hV] at this;exact this)) ?_
    rintro v57 w57 ⟨x57,rfl⟩
    have rr:=ci.ext rr x57
    have kk:=kk.ext x57
    have gg:=gg.trans (dq x57)
    refine al Ll (bI Ll Ll bK (aC Ll Ll Ll (ag (ab (cp Ll (ar (ab (af (aa (am Ll Ll ((k8.ext x57).ldR) ?_))))))))))
    obtain⟨p,q,w3,hp,hs3,q3,k3,n3,d3⟩:=kk.stR ⟨_,_,_,rfl⟩ ⟨_,_,_,rfl⟩ ((di.mk n8 d8).ext x57)
    refine aq Ll Ll (hs3) (ac Ll Ll (ag (ab (av ?_))))
    refine bJ Ll Ll Ll k3 KP Ll cV ?_
    exact⟨_,rfl,eH gg q3 l2,by
     rw[hR]
     obtain⟨ec,ed⟩:=tE hp
     exact⟨p,q,rfl,n3,d3,dS.off rr (kk.kpR ⟨_,_,_,rfl⟩ ⟨_,_,_,rfl⟩ q3) q3 hne',ec▸(fun k hk=>Nat.le_trans hs41 (f0 k hk)),ed▸(fun k hk=>Nat.le_trans hs47 (f1 k hk))⟩⟩
   ·have hR:(some (c::l)).bind j6=none:=Bc hN
    refine aa (ae Ll Ll (an gR Ll Ll ((qG (st:=some l) rr hl1 hN)) ?_))
    rintro v41 w41 ⟨g41,rfl,rs⟩
    have m41:=dS.kp rr g41
    have kk:=kk.other g41 hne
    have k5:=k5.other g41 hne4
    have gg:=gg.trans g41
    have rr:=rs
    have n5:=n5.kp m41
    have d5:=d5.kp m41
    have h0:=bo.nil w41
    refine ae Ll Ll (ak Ll Ll (aT) (ak Ll Ll aU (ah Ll Ll (aF (o:=1) KP Ll (by kernel_rfl) Ll) ?_)))
    obtain⟨w7,hs7,q7,k7⟩:=k5.st1 1 gn h0.isS (by simp)
    refine aq Ll Ll (hs7) ?_
    have m7:=k5.kpR n5.isS d5.isS q7
    have kk:=kk.other q7 hne24
    have rr:=dS.off rr m7 q7 hne4'
    have gg:=eH gg q7 hw4
    have n7:=h0.kp m7
    have d7:=d5.kp m7
    refine ag (ab (af (aa (ae rfl rfl (an gR rfl rfl ((qG (st:=none) rr (fun _ e=>by cases e) rfl)) ?_)))))
    rintro v47 w47 ⟨g47,rfl,rs⟩
    have m47:=dS.kp rr g47
    have kk:=kk.other g47 hne
    have k7:=k7.other g47 hne4
    have gg:=gg.trans g47
    have rr:=rs
    have n7:=n7.kp m47
    have d7:=d7.kp m47
    have h1:=bo.nil w47
    refine ae Ll Ll (ak Ll Ll (aT) (ak Ll Ll aU (ah Ll Ll (aF (o:=2) KP Ll (by kernel_rfl) Ll) ?_)))
    obtain⟨w8,hs8,q8,k8⟩:=k7.st1 2 gn h1.isS (by simp)
    refine aq Ll Ll (hs8) ?_
    have m8:=k7.kpR n7.isS d7.isS q8
    have kk:=kk.other q8 hne24
    have rr:=dS.off rr m8 q8 hne4'
    have gg:=eH gg q8 hw4
    have n8:=n7.kp m8
    have d8:=h1.kp m8
    obtain⟨A9,n9,c9,kr,br⟩:=id rr
    refine ag (ab (af (af (aa (ae Ll Ll (aH Ll Ll (ah Ll Ll (aF (o:=1) KV Ll (by kernel_rfl) Ll) ?_)))))))
    refine am Ll Ll (aj KU Ll (kr.cell (i:=1) Ll)) (ae Ll Ll (ao Ll Ll Ll (ao Ll Ll Ll (ao Ll Ll Ll (aw Ll Ll Ll ?_)))))
    refine ag (ab (bB Ll (af (aa ?_))))
    refine bm (vs:=[]) Ll Ll el ?_
    refine ae Ll Ll (an cW Ll Ll (cX rr) ?_)
    rintro v62 w62 ⟨rfl,rs,g62⟩
    have m62:=dS.kp rr g62
    have gg:=gg.trans g62
    have kk:=kk.other g62 hne
    have rr:=rs
    obtain⟨p,q,w3,hp,hs3,q3,k3,n3,d3⟩:=kk.stR ⟨_,_,_,rfl⟩ ⟨_,_,_,rfl⟩ (di.mk (b:=false) (bo.nil _) (bo.nil _))
    refine aq Ll Ll (hs3) (ac Ll Ll (ag (ab (av (au ?_)))))
    refine bJ Ll Ll Ll k3 KP Ll cV ?_
    exact⟨_,rfl,eH gg q3 l2,by rw[hR];exact⟨_,rfl,⟨p,q,rfl,n3,d3⟩,dS.off rr (kk.kpR ⟨_,_,_,rfl⟩ ⟨_,_,_,rfl⟩ q3) q3 hne'⟩⟩
   ·have hR:(some (c::l)).bind j6=none:=by
     show j6 (c::l)=none
     rw[tF hc hN,←hs,hM];rfl
    refine aa (ae Ll Ll (an gR Ll Ll ((qH (st:=some l) rr hl1 hN)) ?_))
    rintro v41 w41 ⟨g41,v0,rfl,h0,rs⟩
    have m41:=dS.kp rr g41
    have kk:=kk.other g41 hne
    have k5:=k5.other g41 hne4
    have gg:=gg.trans g41
    have rr:=rs
    have n5:=n5.kp m41
    have d5:=d5.kp m41
    refine ae Ll Ll (ak Ll Ll (aT) (ak Ll Ll aU (ah Ll Ll (aF (o:=1) KP Ll (by kernel_rfl) Ll) ?_)))
    obtain⟨w7,hs7,q7,k7⟩:=k5.st1 1 gn h0.isS (by simp)
    refine aq Ll Ll (hs7) ?_
    have m7:=k5.kpR n5.isS d5.isS q7
    have kk:=kk.other q7 hne24
    have rr:=dS.off rr m7 q7 hne4'
    have gg:=eH gg q7 hw4
    have n7:=h0.kp m7
    have d7:=d5.kp m7
    refine ag (ab (af (aa (ae Ll Ll ?_))))
    have hl2:∀l',some t=some l'→l'.length≤549755813888:=fun l' e=>by
     cases e
     have h1:=(fA hN).1
     have:=hl1 _ rfl
     rw[h1,List.length_append] at this
     omega
    refine an gR Ll Ll ((qG (st:=some t) rr hl2 hM)) ?_
    rintro v47 w47 ⟨g47,rfl,rs⟩
    have m47:=dS.kp rr g47
    have kk:=kk.other g47 hne
    have k7:=k7.other g47 hne4
    have gg:=gg.trans g47
    have rr:=rs
    have n7:=n7.kp m47
    have d7:=d7.kp m47
    have h1:=bo.nil w47
    refine ae Ll Ll (ak Ll Ll (aT) (ak Ll Ll aU (ah Ll Ll (aF (o:=2) KP Ll (by kernel_rfl) Ll) ?_)))
    obtain⟨w8,hs8,q8,k8⟩:=k7.st1 2 gn h1.isS (by simp)
    refine aq Ll Ll (hs8) ?_
    have m8:=k7.kpR n7.isS d7.isS q8
    have kk:=kk.other q8 hne24
    have rr:=dS.off rr m8 q8 hne4'
    have gg:=eH gg q8 hw4
    have n8:=n7.kp m8
    have d8:=h1.kp m8
    obtain⟨A9,n9,c9,kr,br⟩:=id rr
    refine ag (ab (af (af (aa (ae Ll Ll (aH Ll Ll (ah Ll Ll (aF (o:=1) KV Ll (by kernel_rfl) Ll) ?_)))))))
    refine am Ll Ll (aj KU Ll (kr.cell (i:=1) Ll)) (ae Ll Ll (ao Ll Ll Ll (ao Ll Ll Ll (ao Ll Ll Ll (aw Ll Ll Ll ?_)))))
    refine ag (ab (bB Ll (af (aa ?_))))
    refine bm (vs:=[]) Ll Ll el ?_
    refine ae Ll Ll (an cW Ll Ll (cX rr) ?_)
    rintro v62 w62 ⟨rfl,rs,g62⟩
    have m62:=dS.kp rr g62
    have gg:=gg.trans g62
    have kk:=kk.other g62 hne
    have rr:=rs
    obtain⟨p,q,w3,hp,hs3,q3,k3,n3,d3⟩:=kk.stR ⟨_,_,_,rfl⟩ ⟨_,_,_,rfl⟩ (di.mk (b:=false) (bo.nil _) (bo.nil _))
    refine aq Ll Ll (hs3) (ac Ll Ll (ag (ab (av (au ?_)))))
    refine bJ Ll Ll Ll k3 KP Ll cV ?_
    exact⟨_,rfl,eH gg q3 l2,by rw[hR];exact⟨_,rfl,⟨p,q,rfl,n3,d3⟩,dS.off rr (kk.kpR ⟨_,_,_,rfl⟩ ⟨_,_,_,rfl⟩ q3) q3 hne'⟩⟩
end Go.Rl

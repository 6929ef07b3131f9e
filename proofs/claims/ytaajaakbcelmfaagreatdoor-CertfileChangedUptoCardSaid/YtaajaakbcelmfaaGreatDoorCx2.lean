/- Part 2 of a proof: plain facts and walks of functions, merged by a program. Conditions: each lemma names its own. -/
import Derived.Test.YtaajaakbcelmfaaGreatDoorCx1
namespace Go.Rl
theorem im (l:List UInt32) (i:Nat):val (l.take (i+1))=val (l.take i)+4294967296^i*(l.getD i 0).toNat:=by
 rcases Nat.lt_or_ge i l.length with h|h
 ·rw[bS h];simp[List.getD,List.getElem?_eq_getElem h]
 ·rw[List.take_of_length_le h,List.take_of_length_le (by omega)];simp[List.getD,List.getElem?_eq_none h]
theorem kN (l:List UInt32) {i:Nat} (h:l.length≤i):val (l.take i)=val l:=by rw[List.take_of_length_le h]
def u9 (l:List UInt32) (n:Nat):List UInt32:=l++List.replicate (n-l.length) 0
theorem mJ {l:List UInt32} {n:Nat} (h:l.length≤n):(u9 l n).length=n:=by simp[u9];omega
theorem qE (l:List UInt32) (n:Nat):val (u9 l n)=val l:=by simp[u9,d8,pj]
theorem qG {l:List UInt32} {n i:Nat} (h:i<(u9 l n).length):(u9 l n)[i]=l.getD i 0:=by
 unfold u9 at h⊢
 rcases Nat.lt_or_ge i l.length with h1|h1
 ·rw[List.getElem_append_left h1];simp[List.getD,List.getElem?_eq_getElem h1]
 ·rw[List.getElem_append_right h1];simp[List.getD,List.getElem?_eq_none h1]
theorem D3 {l m:List UInt32} {n j:Nat} (hl:l.length≤n) (hm:m.length≤n) (hj:j<n) (hd:(u9 l n).drop (j+1)=(u9 m n).drop (j+1)) (h:(l.getD j 0).toNat<(m.getD j 0).toNat):val l<val m:=by
 rw[←qE l n,←qE m n]
 exact AG (by rw[mJ hl];exact hj) (by rw[mJ hm];exact hj) hd (by rw[qG,qG];exact h)
theorem D7 {l m:List UInt32} {n j:Nat} (hl:l.length≤n) (hm:m.length≤n) (hj:j<n) (hd:(u9 l n).drop (j+1)=(u9 m n).drop (j+1)) (h:(l.getD j 0).toNat=(m.getD j 0).toNat):(u9 l n).drop j=(u9 m n).drop j:=by
 have h1:=List.drop_eq_getElem_cons (l:=u9 l n) (i:=j) (by rw[mJ hl];exact hj)
 have h2:=List.drop_eq_getElem_cons (l:=u9 m n) (i:=j) (by rw[mJ hm];exact hj)
 rw[h1,h2,hd,qG,qG,kH h]
theorem Gl {l m:List UInt32} {n:Nat} (h:u9 l n=u9 m n):val l=val m:=by rw[←qE l n,←qE m n,h]
theorem tQ {a b O:List UInt32} {i:Nat} {c:UInt64} (hO:O.length=i) (hc:c.toNat≤1) (hinv:val O+4294967296^i*c.toNat=val (a.take i)+val (b.take i)):
 val (O++[(c+((a.getD i 0).toUInt64+(b.getD i 0).toUInt64)).toUInt32])+4294967296^(i+1)*((c+((a.getD i 0).toUInt64+(b.getD i 0).toUInt64))>>>UInt64.ofNat 32).toNat=val (a.take (i+1))+val (b.take (i+1))∧
  ((c+((a.getD i 0).toUInt64+(b.getD i 0).toUInt64))>>>UInt64.ofNat 32).toNat≤1:=by
 have ha:=cL (a.getD i 0)
 have hb:=cL (b.getD i 0)
 have hC:(c+((a.getD i 0).toUInt64+(b.getD i 0).toUInt64)).toNat=c.toNat+((a.getD i 0).toNat+(b.getD i 0).toNat):=by rw[m4,m4,fk,fk];omega
 have hhi:((c+((a.getD i 0).toUInt64+(b.getD i 0).toUInt64))>>>UInt64.ofNat 32).toNat=(c.toNat+((a.getD i 0).toNat+(b.getD i 0).toNat))/4294967296:=by rw[p3 _ (by omega),hC]
 refine⟨?_,by rw[hhi];omega⟩
 rw[d8,kI,hO,j2,hhi,hC,im,im,Nat.pow_succ]
 have key:=Nat.div_add_mod (c.toNat+((a.getD i 0).toNat+(b.getD i 0).toNat)) 4294967296
 have k2:=congrArg (4294967296^i* ·) key
 simp only[Nat.mul_add] at k2 hinv⊢
 simp only[Nat.mul_assoc] at k2⊢
 omega
theorem D8 {O:List UInt32} {i:Nat} {c:UInt64} (hO:O.length=i) (hc:c.toNat≤1):val (O++[c.toUInt32])=val O+4294967296^i*c.toNat:=by
 rw[d8,kI,hO,j2,Nat.mod_eq_of_lt (by omega)]
theorem tR {a b O:List UInt32} {i:Nat} {d:UInt64} (hO:O.length=i) (hd:d.toNat≤1) (hinv:val (a.take i)+4294967296^i*d.toNat=val O+val (b.take i)) {x y:UInt64}
 (h:(x=(a.getD i 0).toUInt64+4294967296∧(a.getD i 0).toNat<(b.getD i 0).toNat+d.toNat∧y=1)∨(x=(a.getD i 0).toUInt64∧(b.getD i 0).toNat+d.toNat≤(a.getD i 0).toNat∧y=0)):
 val (a.take (i+1))+4294967296^(i+1)*y.toNat=val (O++[(x-((b.getD i 0).toUInt64+d)).toUInt32])+val (b.take (i+1))∧y.toNat≤1:=by
 have ha:=cL (a.getD i 0)
 have hb:=cL (b.getD i 0)
 have hy:((b.getD i 0).toUInt64+d).toNat=(b.getD i 0).toNat+d.toNat:=by rw[m4,fk];omega
 have e1:(1:UInt64).toNat=1:=rfl
 have e0:(0:UInt64).toNat=0:=rfl
 have key:(a.getD i 0).toNat+4294967296*y.toNat=(x-((b.getD i 0).toUInt64+d)).toUInt32.toNat+((b.getD i 0).toNat+d.toNat)∧y.toNat≤1:=by
  rcases h with⟨rfl,h,rfl⟩|⟨rfl,h,rfl⟩
  ·have hx:((a.getD i 0).toUInt64+4294967296).toNat=(a.getD i 0).toNat+4294967296:=by
    rw[m4,fk]
    show((a.getD i 0).toNat+4294967296)%18446744073709551616=_
    omega
   rw[j2,og,hy,hx,e1]
   omega
  ·rw[j2,og,hy,fk,e0]
   omega
 refine⟨?_,key.2⟩
 rw[d8,kI,hO,im,im,Nat.pow_succ]
 have k2:=congrArg (4294967296^i* ·) key.1
 simp only[Nat.mul_add] at k2 hinv⊢
 simp only[Nat.mul_assoc] at k2⊢
 omega
theorem BN {a O:List UInt32} {i q s:Nat} {c:UInt64} (hs:s<32) (hi:i<a.length) (hO:O.length=q+i) (hc:c.toNat<2^s) (hinv:val O+4294967296^(q+i)*c.toNat=val (a.take i)*(4294967296^q*2^s)):
 val (O++[(c|||a[i].toUInt64<<<UInt64.ofNat s).toUInt32])+4294967296^(q+(i+1))*((c|||a[i].toUInt64<<<UInt64.ofNat s)>>>UInt64.ofNat 32).toNat=val (a.take (i+1))*(4294967296^q*2^s)∧
  ((c|||a[i].toUInt64<<<UInt64.ofNat s)>>>UInt64.ofNat 32).toNat<2^s:=by
 have ha:=cL a[i]
 have hps:2^s≤2^31:=Nat.pow_le_pow_right (by omega) (by omega)
 have hsh:(a[i].toUInt64<<<UInt64.ofNat s).toNat=2^s*a[i].toNat:=by
  rw[wU _ (by omega),fk,Nat.mod_eq_of_lt,Nat.mul_comm]
  have:a[i].toNat*2^s≤4294967295*2^31:=Nat.mul_le_mul (by omega) hps
  omega
 have hC:(c|||a[i].toUInt64<<<UInt64.ofNat s).toNat=c.toNat+2^s*a[i].toNat:=by rw[Gj,hsh,Iq _ _ _ hc]
 have hhi:((c|||a[i].toUInt64<<<UInt64.ofNat s)>>>UInt64.ofNat 32).toNat=(c.toNat+2^s*a[i].toNat)/4294967296:=by rw[p3 _ (by omega),hC]
 refine⟨?_,?_⟩
 ·rw[d8,kI,hO,j2,hhi,hC,bS hi,Nat.add_mul,←hinv,←Nat.add_assoc q i 1,Nat.pow_succ,Nat.pow_add]
  have key:=Nat.div_add_mod (c.toNat+2^s*a[i].toNat) 4294967296
  have k2:=congrArg (4294967296^q*4294967296^i* ·) key
  have e:4294967296^i*a[i].toNat*(4294967296^q*2^s)=4294967296^q*4294967296^i*(2^s*a[i].toNat):=by
   simp only[Nat.mul_comm,Nat.mul_left_comm,Nat.mul_assoc]
  rw[e]
  simp only[Nat.mul_add] at k2⊢
  simp only[Nat.mul_assoc] at k2⊢
  omega
 ·rw[hhi,Nat.div_lt_iff_lt_mul (by omega)]
  have h1:2^s*(a[i].toNat+1)≤2^s*4294967296:=Nat.mul_le_mul_left _ ha
  rw[Nat.mul_add] at h1
  omega
theorem HM {a:List UInt32} {i:Nat} (hi:i/32<a.length):((a[i/32]>>>UInt32.ofNat (i%32))&&&1).toNat=val a/2^i%2:=by
 have hs:i%32<32:=Nat.mod_lt _ (by omega)
 have e1:((a[i/32]>>>UInt32.ofNat (i%32))&&&1).toNat=a[i/32].toNat/2^(i%32)%2:=by
  rw[UInt32.toNat_and,oe _ hs]
  show _&&&1=_
  rw[Nat.and_one_is_mod]
 have h1:=dV a (i/32) (by omega)
 have h2:=cq (a.take (i/32))
 rw[List.length_take,Nat.min_eq_left (by omega)] at h2
 have h3:(4294967296:Nat)^(i/32)=2^(32*(i/32)):=by rw[Nat.pow_mul]
 rw[h3] at h1 h2
 have h4:val a/2^(32*(i/32))=val (a.drop (i/32)):=by
  rw[h1,Nat.add_mul_div_left _ _ (Nat.pow_pos (by omega)),Nat.div_eq_of_lt h2,Nat.zero_add]
 have h5:val a/2^i=val (a.drop (i/32))/2^(i%32):=by
  rw[←h4,Nat.div_div_eq_div_mul,←Nat.pow_add,Nat.div_add_mod]
 rw[e1,h5,er hi]
 have hp:2^(i%32)*2^(32-i%32)=4294967296:=by rw[←Nat.pow_add,show i%32+(32-i%32)=32 by omega]
 obtain⟨k,hk⟩:∃k,32-i%32=k+1:=⟨31-i%32,by omega⟩
 rw[←hp,Nat.mul_assoc,Nat.add_mul_div_left _ _ (Nat.pow_pos (by omega)),hk,Nat.pow_succ,Nat.mul_comm (2^k) 2,Nat.mul_assoc,Nat.add_mul_mod_self_left]
theorem HN {a:List UInt32} {i t:Nat} (hi:i/32<a.length) (hv:val a=2^(i+1)*t):val (a.set (i/32) (a[i/32]|||(1:UInt32)<<<UInt32.ofNat (i%32)))=val a+2^i:=by
 have hs:i%32<32:=Nat.mod_lt _ (by omega)
 have h1:=dV a (i/32) (by omega)
 have h2:=cq (a.take (i/32))
 rw[List.length_take,Nat.min_eq_left (by omega)] at h2
 have h3:(4294967296:Nat)^(i/32)=2^(32*(i/32)):=by rw[Nat.pow_mul]
 have h4:val (a.drop (i/32))=2^(i%32+1)*t:=by
  have e:val a/2^(32*(i/32))=val (a.drop (i/32)):=by
   rw[h3] at h1 h2
   rw[h1,Nat.add_mul_div_left _ _ (Nat.pow_pos (by omega)),Nat.div_eq_of_lt h2,Nat.zero_add]
  rw[←e,hv,show i+1=32*(i/32)+(i%32+1) by omega,Nat.pow_add,Nat.mul_assoc,Nat.mul_div_cancel_left _ (Nat.pow_pos (by omega))]
 have h5:a[i/32].toNat=2^(i%32+1)*(t%2^(31-i%32)):=by
  have e:=er hi
  rw[h4] at e
  have e2:a[i/32].toNat=2^(i%32+1)*t%4294967296:=by
   rw[e,Nat.add_mul_mod_self_left,Nat.mod_eq_of_lt (cL _)]
  have hp:2^(i%32+1)*2^(31-i%32)=4294967296:=by rw[←Nat.pow_add,show i%32+1+(31-i%32)=32 by omega]
  rw[e2,←hp,Nat.mul_mod_mul_left]
 have h6:((1:UInt32)<<<UInt32.ofNat (i%32)).toNat=2^(i%32):=by
  rw[Gi _ hs]
  show 1*2^(i%32)%4294967296=_
  have:2^(i%32)≤2^31:=Nat.pow_le_pow_right (by omega) (by omega)
  rw[Nat.one_mul,Nat.mod_eq_of_lt (by omega)]
 have h7:(a[i/32]|||(1:UInt32)<<<UInt32.ofNat (i%32)).toNat=a[i/32].toNat+2^(i%32):=by
  rw[DS,h6,h5,Nat.or_comm,Iq _ _ _ (Nat.pow_lt_pow_right (by omega) (by omega)),Nat.add_comm]
 have h8:=fb hi (a[i/32]|||(1:UInt32)<<<UInt32.ofNat (i%32))
 have h9:=dV (a.set (i/32) (a[i/32]|||(1:UInt32)<<<UInt32.ofNat (i%32))) (i/32+1) (by simp;omega)
 rw[h8,List.drop_set_of_lt (by omega),h7] at h9
 have h10:=dV a (i/32+1) (by omega)
 rw[bS hi] at h10
 rw[h9,h10,Nat.mul_add]
 have e:4294967296^(i/32)*2^(i%32)=2^i:=by rw[h3,←Nat.pow_add,Nat.div_add_mod]
 rw[e];omega
theorem zb {N V i:Nat} (hV:0<V):
 N/2^i=2*(N/2^(i+1))+N/2^i%2∧(V≤2*(N/2^(i+1)%V)+N/2^i%2→N/2^i%V=2*(N/2^(i+1)%V)+N/2^i%2-V∧N/2^i/V=2*(N/2^(i+1)/V)+1)∧
  (2*(N/2^(i+1)%V)+N/2^i%2<V→N/2^i%V=2*(N/2^(i+1)%V)+N/2^i%2∧N/2^i/V=2*(N/2^(i+1)/V)):=by
 have e:N/2^(i+1)=N/2^i/2:=by rw[Nat.pow_succ,Nat.div_div_eq_div_mul]
 rw[e]
 generalize N/2^i=M
 have h1:M=2*(M/2)+M%2:=by omega
 have h2:=Nat.div_add_mod (M/2) V
 have h3:=Nat.mod_lt (M/2) hV
 refine⟨h1,fun h=>?_,fun h=>?_⟩
 ·have key:M=V*(2*(M/2/V)+1)+(2*(M/2%V)+M%2-V):=by
   rw[Nat.mul_add,Nat.mul_left_comm];omega
  have hlt:2*(M/2%V)+M%2-V<V:=by omega
  constructor
  ·conv=>lhs;rw[key]
   rw[Nat.mul_add_mod,Nat.mod_eq_of_lt hlt]
  ·conv=>lhs;rw[key]
   rw[Nat.mul_add_div hV,Nat.div_eq_of_lt hlt,Nat.add_zero]
 ·have key:M=V*(2*(M/2/V))+(2*(M/2%V)+M%2):=by
   rw[Nat.mul_left_comm];omega
  constructor
  ·conv=>lhs;rw[key]
   rw[Nat.mul_add_mod,Nat.mod_eq_of_lt h]
  ·conv=>lhs;rw[key]
   rw[Nat.mul_add_div hV,Nat.div_eq_of_lt h,Nat.add_zero]
theorem Gm {n:Nat} (h:0<n):bl n=bl (n/2)+1:=by
 rcases(show n=1∨2≤n by omega) with rfl|h1
 ·rfl
 ·have:=lO (n:=n) (s:=1) (by omega)
  rw[Nat.pow_one] at this
  omega
end Go.Rl
namespace Go.Rl
open Go.RowKit Go.Proofs
theorem eA:aw Tryz.prog 186:=⟨_,Tryz.func186,by kernel_rfl,rfl⟩
theorem xe:aw Tryz.prog 196:=⟨_,Tryz.func196,by kernel_rfl,rfl⟩
theorem ry:aw Tryz.prog 195:=⟨_,Tryz.func195,by kernel_rfl,rfl⟩
theorem eB:aw Tryz.prog 212:=⟨_,Tryz.func212,by kernel_rfl,rfl⟩
theorem tS:aw Tryz.prog 200:=⟨_,Tryz.func200,by kernel_rfl,rfl⟩
theorem rz:aw Tryz.prog 167:=⟨_,Tryz.func167,by kernel_rfl,rfl⟩
theorem BO:aw Tryz.prog 199:=⟨_,Tryz.func199,by kernel_rfl,rfl⟩
theorem BP:aw Tryz.prog 201:=⟨_,Tryz.func201,by kernel_rfl,rfl⟩
theorem BQ:aw Tryz.prog 198:=⟨_,Tryz.func198,by kernel_rfl,rfl⟩
theorem zc:aw Tryz.prog 197:=⟨_,Tryz.func197,by kernel_rfl,rfl⟩
theorem tT {w:World} {l:List UInt32} {v:Value} (hv:bj l v w) (hl:l.length≤8796093022208):
 Calls Tryz.prog 186 #[v] w (bD fun r w'=>aG w w'∧dN w.heap.size (lb (val l)) r w'):=by
 refine enter (vs:=[v]) Tryz.func186 JL JL JL ?_
 refine af (aa (ac JL JL (ag (ab (af (aa (ae JL JL (aP JL JL (be Js hv) (ac JL JL (ag (ab (af ?_))))))))))))
 refine av ?_
 refine ck (α:=Nat) (fun n=>[(0,v),(3,I (n:Int))]) (fun n w'=>w=w'∧n≤l.length∧val (l.take n)=val l) (fun n=>n) (l.length) ⟨rfl,rfl,trivial⟩ ⟨rfl,Nat.le_refl _,by rw[List.take_length]⟩ ?_
 rintro n _ ⟨rfl,hn,hval⟩
 refine af (af (aa (ae JL JL (aj JL JL JL (cg) (ae JL JL ?_)))))
 refine cW (fun h8=>?_) (fun h8=>?_)
 ·refine al JL (ae JL JL (al JL (ae JL JL (al JL (aj (r:=I ((n-1:Nat):Int)) JL JL JL (by have e:((n-1:Nat):Int)=(n:Int)-1:=(by omega);rw[e];exact aY (by omega) (by omega)) ?_)))))
  refine al JL ?_
  obtain⟨a12,p12,q12⟩:=cE Js hv (i:=(n-1:Nat)) (by omega) .i64
  refine ap JL JL JL (p12 _) (al JL (ak JL JL (ai Jf JL q12) (al JL (aj (v:=bp 0) JL JL JL (mF) (aB JL JL JL ?_)))))
  refine ag (ab ?_)
  refine ba JL (fun h15=>?_) (fun h15=>?_)
  ·refine ar (ab (av (aa (ae JL JL (aj (r:=I ((n-1:Nat):Int)) JL JL JL (by have e:((n-1:Nat):Int)=(n:Int)-1:=(by omega);rw[e];exact aY (by omega) (by omega)) ?_)))))
   refine ac JL JL (ag (aM ?_))
   refine bN (n-1) ⟨rfl,rfl,trivial⟩ ⟨rfl,by omega,by rw[pn (by omega) hn h15];exact hval⟩ (by omega)
  ·refine aX (aA (aA (aV (ab (af (aa ?_))))))
   obtain⟨v18,w18,hr18,x18,o18,ob18⟩:=iC Tryz.underlying53 (w:=w) w.heap.size [] (by simp) (Nat.le_refl _)
   refine aJ (vs:=[]) JL JL hr18 (ae JL JL (ae JL JL ?_))
   obtain⟨v21,p21,b21⟩:=rg Js (hv.ext x18) (hi:=n) hn .i64
   refine cY JL JL JL JL JL (p21 _) ?_
   obtain⟨v22,w22,hr22,o22,g22⟩:=AH Tryz.underlying53 Tryz.underlying52 (ty:=53) o18 b21 (by simp;omega) (x18).size
   have x22:=aG.of_grew (x18) g22 o18.ge
   refine aW JL JL hr22 (ac JL JL (ag (ab (au (az JL JL ?_)))))
   exact⟨_,rfl,x22,by
    have e:lb (val l)=l.take n:=by
     first
     |rw[←hval,j1 (by omega) hn h15]
     |(have h0:n=0:=by omega
       subst h0
       rw[←hval];rfl)
    rw[e];simpa using o22⟩
 ·refine aq JL JL JL (aq JL JL JL (aq JL JL JL (aq JL JL JL (aq JL JL JL (aq JL JL JL (aH JL JL JL (ag (ab (dI JL (aX (aA (aA ?_))))))))))))
  refine aV (ab (af (aa ?_)))
  obtain⟨v18,w18,hr18,x18,o18,ob18⟩:=iC Tryz.underlying53 (w:=w) w.heap.size [] (by simp) (Nat.le_refl _)
  refine aJ (vs:=[]) JL JL hr18 (ae JL JL (ae JL JL ?_))
  obtain⟨v21,p21,b21⟩:=rg Js (hv.ext x18) (hi:=n) hn .i64
  refine cY JL JL JL JL JL (p21 _) ?_
  obtain⟨v22,w22,hr22,o22,g22⟩:=AH Tryz.underlying53 Tryz.underlying52 (ty:=53) o18 b21 (by simp;omega) (x18).size
  have x22:=aG.of_grew (x18) g22 o18.ge
  refine aW JL JL hr22 (ac JL JL (ag (ab (au (az JL JL ?_)))))
  exact⟨_,rfl,x22,by
   have e:lb (val l)=l.take n:=by
    first
    |rw[←hval,j1 (by omega) hn h15]
    |(have h0:n=0:=by omega
      subst h0
      rw[←hval];rfl)
   rw[e];simpa using o22⟩
theorem fc {w:World} {l:List UInt32} {v:Value} (hv:bj l v w) (hl:l.length≤8796093022208):
 Calls Tryz.prog 186 #[v] w (bD fun r w'=>aG w w'∧bj (lb (val l)) r w'):=
 (tT hv hl).mono fun _ _ ⟨r,he,h1,h2⟩=>⟨r,he,h1,h2.wds⟩
theorem xf {w:World} {x:UInt64}:
 Calls Tryz.prog 196 #[bC x] w (bD fun r w'=>aG w w'∧bj (lb x.toNat) r w'):=by
 refine enter (vs:=[bC x]) Tryz.func196 JL JL JL ?_
 refine af (aa (ac JL JL (ag (ab (af (aa (ae JL JL (aQ JL JL (cv Ji Jf) (ae JL JL ?_)))))))))
 refine aj JL JL JL (de 32 (by omega)) (aQ JL JL (cv Ji Jf) ?_)
 obtain⟨v8,w8,hr8,x8,o8,ob8⟩:=iC Tryz.underlying52 (w:=w) w.heap.size [x.toUInt32,(x>>>UInt64.ofNat 32).toUInt32] (by simp) (Nat.le_refl _)
 refine aJ (vs:=[(0,bp (x.toUInt32)),(1,bp ((x>>>UInt64.ofNat 32).toUInt32))]) JL JL hr8 (am eA JL JL (fc o8.wds (by simp)) ?_)
 rintro v9 w9 ⟨x9,b9⟩
 refine ac JL JL (ag (ab (au (az JL JL ?_))))
 exact⟨_,rfl,(x8.trans x9),by
  have e:val [x.toUInt32,(x>>>UInt64.ofNat 32).toUInt32]=x.toNat:=by
   have h1:=j2 x
   have h2:((x>>>UInt64.ofNat 32).toUInt32).toNat=x.toNat/4294967296:=by
    have:=y7 x
    rw[j2,tM]
    omega
   simp only[val,h1,h2];omega
  rw[e] at b9;exact b9⟩
theorem eC {w:World} {l:List UInt32} {v:Value} {i:Nat} (hv:bj l v w):
 Calls Tryz.prog 212 #[v,I (i:Int)] w (bD fun r w'=>w=w'∧r=bp (l.getD i 0)):=by
 refine enter (vs:=[v,I (i:Int)]) Tryz.func212 JL JL JL ?_
 refine af (aa (ac JL JL (ag (ab (af (af (aa (ae JL JL (ae JL JL (aP JL JL (be Je hv) (aj JL JL JL (aS) ?_)))))))))))
 refine ag (ab ?_)
 refine ba JL (fun h8=>?_) (fun h8=>?_)
 ·refine af (aa (ae JL JL (ae JL JL ?_)))
  obtain⟨a11,p11,q11⟩:=cE Je hv (i:=i) (by omega) .i64
  refine ap JL JL JL (p11 _) (ak JL JL (ai Jf JL q11) (ac JL JL (ag (ab (au (ax (az JL JL ?_)))))))
  exact⟨_,rfl,rfl,by simp[List.getD,List.getElem?_eq_getElem (show i<l.length by omega)]⟩
 ·refine ar (ab (af (aa (ac JL JL (ag (ab (au (az JL JL ?_))))))))
  exact⟨_,rfl,rfl,by simp[List.getD,List.getElem?_eq_none (show l.length≤i by omega)];rfl⟩
theorem tW {w:World} {l m:List UInt32} {v u:Value} (hv:bj l v w) (hu:bj m u w):
 Calls Tryz.prog 200 #[v,u] w (bD fun r w'=>w=w'∧r=I (pl (val l) (val m))):=by
 refine enter (vs:=[v,u]) Tryz.func200 JL JL JL ?_
 have hll:=hv.len
 have hml:=hu.len
 obtain⟨n,hn⟩:∃n,n=max l.length m.length:=⟨_,rfl⟩
 have hln:l.length≤n:=by omega
 have hmn:m.length≤n:=by omega
 refine af (aa (ac JL JL (ag (ab (af (af (aa (ae JL JL (aP JL JL (be Je hv) (ae JL JL (aP JL JL (be Je hu) ?_)))))))))))
 refine IB (r:=I ((n:Nat):Int)) (vs:=[I (l.length:Int),I (m.length:Int)]) JL JL (by rw[hn];exact Gh) ?_
 refine aj JL JL JL (aY (by omega) (by omega)) (ac JL JL (ag (ab (av ?_))))
 refine ck (α:=Nat) (fun k=>[(0,v),(1,u),(5,I ((k:Int)-1))]) (fun k w'=>w=w'∧k≤n∧(u9 l n).drop k=(u9 m n).drop k) (fun k=>k) (n) ⟨rfl,rfl,rfl,trivial⟩ ⟨rfl,Nat.le_refl _,by rw[List.drop_of_length_le (by rw[mJ hln];exact Nat.le_refl _),List.drop_of_length_le (by rw[mJ hmn];exact Nat.le_refl _)]⟩ ?_
 rintro k _ ⟨rfl,hk,hd⟩
 refine af (af (aa (ae JL JL (aj JL JL JL (fQ) (ag (ab ?_))))))
 refine ba JL (fun h13=>?_) (fun h13=>?_)
 ·obtain⟨j,rfl⟩:∃j,k=j+1:=⟨k-1,by omega⟩
  have e:((j+1:Nat):Int)-1=(j:Int):=by omega
  rw[e]
  refine ar (ab (af (av (af (af (aa (ae JL JL (ae JL JL (am eB JL JL (eC hv) ?_)))))))))
  rintro v18 _ ⟨rfl,rfl⟩
  refine ae JL JL (ae JL JL (am eB JL JL (eC hu) ?_))
  rintro v21 _ ⟨rfl,rfl⟩
  refine aj JL JL JL (tD) (ag (ab ?_))
  refine ba JL (fun h22=>?_) (fun h22=>?_)
  ·refine af (aa (ac JL JL (ag (ab (au (ax (aT (ax (ax (aT (ax (az JL JL ?_))))))))))))
   exact⟨_,rfl,rfl,congrArg I (u6 (D3 hln hmn (by omega) hd (wW.1 h22))).symm⟩
  ·refine ar (ab (af (aa (ae JL JL (ae JL JL (am eB JL JL (eC hv) ?_))))))
   rintro v25 _ ⟨rfl,rfl⟩
   refine ae JL JL (ae JL JL (am eB JL JL (eC hu) ?_))
   rintro v28 _ ⟨rfl,rfl⟩
   refine aj JL JL JL (tE) (ag (ab ?_))
   refine ba JL (fun h29=>?_) (fun h29=>?_)
   ·refine af (aa (ac JL JL (ag (ab (au (aT (ax (ax (aT (ax (az JL JL ?_)))))))))))
    exact⟨_,rfl,rfl,congrArg I (u7 (D3 hmn hln (by omega) hd.symm (wW.1 h29))).symm⟩
   ·refine ar (aM (ab (aa (ae JL JL (aj JL JL JL (aY (by omega) (by omega)) (ac JL JL (ag ?_)))))))
    refine bN j ⟨rfl,rfl,rfl,trivial⟩ ⟨rfl,by omega,D7 hln hmn (by omega) hd (by
     have a:=mt wW.2 h22
     have b:=mt (wW (a:=m.getD j 0) (b:=l.getD j 0)).2 h29
     omega)⟩ (by omega)
 ·refine aX (aA (aA (aV (ab (af (aa (ac JL JL (ag (ab (au (az JL JL ?_)))))))))))
  exact⟨_,rfl,rfl,by
   obtain rfl:k=0:=by omega
   rw[List.drop_zero,List.drop_zero] at hd
   rw[Gl hd,AJ];rfl⟩
theorem rA {w:World} {l m:List UInt32} {v u:Value} (hv:bj l v w) (hu:bj m u w):
 Calls Tryz.prog 167 #[v,u] w (bD fun r w'=>aG w w'∧r=B (decide (l=m))):=by
 refine enter (vs:=[v,u]) Tryz.func167 JL JL JL ?_
 have hll:=hv.len
 refine af (aa (ac JL JL (ag (ab (af (af (aa (ae JL JL (aP JL JL (be Je hv) (ae JL JL (aP JL JL (be Je hu) ?_)))))))))))
 refine aj JL JL JL (dj) (ag (ab ?_))
 refine ba JL (fun h10=>?_) (fun h10=>?_)
 ·refine af (aa (ac JL JL (ag (ab (au (ax (az JL JL ?_)))))))
  exact⟨_,rfl,aG.refl _,congrArg B (decide_eq_false fun h=>by subst h;exact h10 rfl).symm⟩
 ·have hlen:l.length=m.length:=by omega
  refine ar (ab (af (af (aa (ac JL JL (ag (ab (av ?_))))))))
  refine ck (α:=Nat) (fun i=>[(0,v),(1,u),(5,I (i:Int))]) (fun i w'=>aG w w'∧i≤l.length∧l.take i=m.take i) (fun i=>l.length-i) (0) ⟨rfl,rfl,rfl,trivial⟩ ⟨aG.refl _,by omega,rfl⟩ ?_
  rintro i w4 ⟨e4,hi,ht⟩
  refine af (af (aa (ae JL JL (ae JL JL (aP JL JL (be Je (hv.ext e4)) (aj JL JL JL (aS) (ag (ab ?_))))))))
  refine ba JL (fun h14=>?_) (fun h14=>?_)
  ·refine ar (ab (af (av (af (bm 8 [0,1,5,20,24] (by kernel_rfl) (by kernel_rfl) ?_)))))
   refine ao JL JL (ao JL JL ?_)
   obtain⟨a19,p19,q19⟩:=cE Je (hv.ext e4) (i:=i) (by omega) .i64
   refine ay JL JL JL (fun w _=>p19 w) (aD JL JL (fun w hw=>ai Jf JL (hw.cell_some q19)) (ao JL JL (ao JL JL ?_)))
   obtain⟨a23,p23,q23⟩:=cE Je (hu.ext e4) (i:=i) (by omega) .i64
   refine ay JL JL JL (fun w _=>p23 w) (aD JL JL (fun w hw=>ai Jf JL (hw.cell_some q23)) (bu ?_))
   intro wg6 xg6
   rintro _ hq0
   obtain rfl:=Eq.symm hq0
   rintro _ hq1
   obtain rfl:=Eq.symm hq1
   rintro _ rfl
   rintro _ rfl
   rintro _ rfl
   refine aj JL JL JL (jW) (ag (ab ?_))
   refine ba JL (fun h25=>?_) (fun h25=>?_)
   ·have hne:l≠m:=fun h=>by subst h;exact h25 rfl
    refine af (aa (ac JL JL (ag (ab (au (aT (ax (ax (aT (ax (az JL JL ?_)))))))))))
    exact⟨_,rfl,(e4.trans xg6),congrArg B (decide_eq_false hne).symm⟩
   ·refine ar (aM (ab (aa (ae JL JL (aj (r:=I ((i+1:Nat):Int)) JL JL JL (by have e:((i+1:Nat):Int)=(i:Int)+1:=(by omega);rw[e];exact aE (by omega) (by omega)) ?_)))))
    refine ac JL JL (ag ?_)
    refine bN (i+1) ⟨rfl,rfl,rfl,trivial⟩ ⟨(e4.trans xg6),by omega,by rw[List.take_succ_eq_append_getElem (show i<l.length by omega),List.take_succ_eq_append_getElem (show i<m.length by omega),ht,show l[i]=m[i] from Classical.byContradiction fun h=>h25 h]⟩ (by omega)
  ·refine aX (aA (aA (aV (ab (af (aa (ac JL JL (ag (ab (au (az JL JL ?_)))))))))))
   exact⟨_,rfl,e4,congrArg B (decide_eq_true (by
    rw[List.take_of_length_le (by omega),List.take_of_length_le (by omega)] at ht
    exact ht)).symm⟩
theorem rB {w:World} {l:List UInt32} {v:Value} (hv:bj l v w) (hl:l.length≤8796093022208):
 Calls Tryz.prog 195 #[v] w (bD fun r w'=>aG w w'∧((18446744073709551616≤val l∧r=.tuple #[bC 0,B false])∨∃x:UInt64,x.toNat=val l∧r=.tuple #[bC x,B true])):=by
 refine enter (vs:=[v]) Tryz.func195 JL JL JL ?_
 refine af (aa (ac JL JL (ac JL JL (ag (ab (af (aa (ae JL JL (am eA JL JL (fc hv hl) ?_)))))))))
 rintro v5 w5 ⟨x5,b5⟩
 refine ac JL JL (ag (ab (af (af ?_))))
 obtain⟨t,ht⟩:∃t,t=lb (val l):=⟨_,rfl⟩
 have hval:val t=val l:=by rw[ht,bH]
 have h64:t.length≤2∨18446744073709551616≤val l:=by
  rcases Nat.lt_or_ge (val l) 18446744073709551616 with h|h
  ·exact .inl (by rw[ht];exact gi (n:=val l) (k:=2) h)
  ·exact .inr h
 rw[←ht] at b5
 refine aa (ae JL JL (aP JL JL (be Je b5) (ag (ab (av (af (aa (aj JL JL JL (bA) (ac JL JL ?_)))))))))
 refine ag (ab ?_)
 refine ba JL (fun h8=>?_) (fun h8=>?_)
 ·refine af (aa (ac JL JL (ac JL JL (ag (ab (au (aT (ax (aR JL JL JL ?_)))))))))
  exact⟨_,rfl,x5,.inr ⟨0,by
   have:t=[]:=List.eq_nil_of_length_eq_zero (by omega)
   rw[←hval,this];rfl,rfl⟩⟩
 ·refine af (aa (aj JL JL JL (bA) (ac JL JL (ag (ab ?_)))))
  refine ba JL (fun h10=>?_) (fun h10=>?_)
  ·refine af (aa (ae JL JL ?_))
   obtain⟨a13,p13,q13⟩:=cE Je b5 (i:=0) (by omega) .i64
   refine ap JL JL JL (p13 _) (ak JL JL (ai Jf JL q13) (aQ JL JL (bG Jf Ji) ?_))
   refine ac JL JL (ac JL JL (ag (ab (au (aT (ax (aR JL JL JL ?_)))))))
   exact⟨_,rfl,x5,.inr ⟨_,by
    obtain⟨x,rfl⟩:=List.length_eq_one_iff.1 (show t.length=1 by omega)
    rw[fk,←hval];simp[val],rfl⟩⟩
  ·refine af (aa (aj JL JL JL (bA) (ac JL JL (ag (ab ?_)))))
   refine ba JL (fun h16=>?_) (fun h16=>?_)
   ·refine af (bm 11 [2] (by kernel_rfl) (by kernel_rfl) ?_)
    refine ao JL JL ?_
    obtain⟨a19,p19,q19⟩:=cE Je b5 (i:=0) (by omega) .i64
    refine ay JL JL JL (fun w _=>p19 w) (aD JL JL (fun w hw=>ai Jf JL (hw.cell_some q19)) (dk JL JL (fun w _=>bG Jf Ji) ?_))
    refine ao JL JL ?_
    obtain⟨a23,p23,q23⟩:=cE Je b5 (i:=1) (by omega) .i64
    refine ay JL JL JL (fun w _=>p23 w) (aD JL JL (fun w hw=>ai Jf JL (hw.cell_some q23)) (dk JL JL (fun w _=>bG Jf Ji) ?_))
    refine aO (v:=bC 32) JL JL JL (fun w _=>fo 32 (by omega)) (aO JL JL JL (fun w _=>iA) (dX JL JL (bu ?_)))
    intro wg8 xg8
    rintro _ rfl
    refine ac JL JL (ag (ab (au (aT (ax (aR JL JL JL ?_))))))
    exact⟨_,rfl,(x5.trans xg8),.inr ⟨_,by
     have e1:=er (l:=t) (i:=0) (by omega)
     have e2:=er (l:=t) (i:=1) (by omega)
     simp only[Nat.zero_add,Nat.reduceAdd,List.drop_zero] at e1 e2
     rw[List.drop_of_length_le (show t.length≤2 by omega)] at e2
     rw[He (fk _) (cL _),←hval,e1,e2]
     simp[val],rfl⟩⟩
   ·refine ar (aM (ab (af (aa (ac JL JL (ac JL JL (ag (ab (au (aR JL JL JL ?_))))))))))
    exact⟨_,rfl,x5,.inl ⟨by omega,rfl⟩⟩
theorem BR {w:World} {l m:List UInt32} {v u:Value} (hv:bj l v w) (hu:bj m u w) (hl:l.length≤1099511627776) (hm:m.length≤1099511627776):
 Calls Tryz.prog 199 #[v,u] w (bD fun r w'=>aG w w'∧bj (lb (val l+val m)) r w'):=by
 refine enter (vs:=[v,u]) Tryz.func199 JL JL JL ?_
 refine af (aa (ac JL JL (ag (ab (af (aa (ac JL JL (ag (ab (af (aa (ac JL JL (ag (ab (af (af (aa (ac JL JL ?_))))))))))))))))))
 refine ag (ab (av ?_))
 refine iU (fun(i:Nat) (vo:Value) (O:List UInt32) (c:UInt64)=>[(0,v),(1,u),(5,vo),(6,bC c),(7,I (i:Int))]) (fun(i:Nat) (vo:Value) (O:List UInt32) (c:UInt64) w'=>aG w w'∧dN w.heap.size O vo w'∧O.length=i∧i≤max l.length m.length∧c.toNat≤1∧val O+4294967296^i*c.toNat=val (l.take i)+val (m.take i)) (fun(i:Nat) (vo:Value) (O:List UInt32) (c:UInt64)=>max l.length m.length-i) (0) (.slice none 0 0) ([]) (0) ⟨rfl,rfl,rfl,rfl,rfl,trivial⟩ ⟨aG.refl _,dN.nil _ _,rfl,by simp,by simp,by simp[val]⟩ ?_
 rintro i vo O c w4 ⟨e4,oO,hO,hi,hc,hinv⟩
 refine af (af (aa (ae JL JL (ae JL JL (aP JL JL (be Je (hv.ext e4)) (aj JL JL JL (aS) (ae JL JL ?_)))))))
 refine cW (fun h12=>?_) (fun h12=>?_)
 ·refine aq JL JL JL (aq JL JL JL (aq JL JL JL (aq JL JL JL (aB JL JL JL (ag (ab (bJ JL (ar (ab (af (av (af ?_))))))))))))
  have hlt:i<max l.length m.length:=by
   first
   |(have:=h12;omega)
   |(have:=h17;omega)
  have st:=tQ (a:=l) (b:=m) hO hc hinv
  refine aa (ae JL JL (ae JL JL (ae JL JL (am eB JL JL (eC (hv.ext e4)) ?_))))
  rintro v23 _ ⟨rfl,rfl⟩
  refine aQ JL JL (bG Jf Ji) (ae JL JL (ae JL JL (am eB JL JL (eC (hu.ext e4)) ?_)))
  rintro v27 _ ⟨rfl,rfl⟩
  refine aQ JL JL (bG Jf Ji) (aj JL JL JL (dK) (aj JL JL JL (dK) (ac JL JL ?_)))
  refine ag (ab (af (aa (ae JL JL (ae JL JL (aQ JL JL (cv Ji Jf) ?_))))))
  obtain⟨v34,w34,hr34,x34,o34,ob34⟩:=iC Tryz.underlying52 (w:=w4) w4.heap.size [((((c)+(((((l.getD i 0)).toUInt64)+(((m.getD i 0)).toUInt64))))).toUInt32)] (by simp) (Nat.le_refl _)
  refine aJ (vs:=[(0,bp (((((c)+(((((l.getD i 0)).toUInt64)+(((m.getD i 0)).toUInt64))))).toUInt32)))]) JL JL hr34 ?_
  obtain⟨v35,w35,hr35,o35,g35⟩:=jJ Tryz.underlying52 (ty:=52) (oO.ext x34) o34.wds (by simp;omega) ((e4.trans x34)).size
  have x35:=aG.of_grew ((e4.trans x34)) g35 (oO.ext x34).ge
  refine aW JL JL hr35 (ac JL JL (ag (ab (aa (ae JL JL (aj JL JL JL (de 32 (by omega)) (ac JL JL (ag (aM (ab (aa ?_)))))))))))
  refine ae JL JL (aj (r:=I ((i+1:Nat):Int)) JL JL JL (by have e:((i+1:Nat):Int)=(i:Int)+1:=(by omega);rw[e];exact aE (by omega) (by omega)) ?_)
  refine ac JL JL (ag ?_)
  refine fu (i+1) (_) (_) (_) ⟨rfl,rfl,rfl,rfl,rfl,trivial⟩ ⟨x35,o35,by simp[hO],by omega,st.2,st.1⟩ (by omega)
 ·refine al JL (ae JL JL (al JL (ae JL JL (al JL (aP JL JL (be Je (hu.ext e4)) (al JL (aj JL JL JL (aS) ?_)))))))
  refine aH JL JL JL (ag (ab ?_))
  refine ba JL (fun h17=>?_) (fun h17=>?_)
  ·refine ar (ab (af (av (af ?_))))
   have hlt:i<max l.length m.length:=by
    first
    |(have:=h12;omega)
    |(have:=h17;omega)
   have st:=tQ (a:=l) (b:=m) hO hc hinv
   refine aa (ae JL JL (ae JL JL (ae JL JL (am eB JL JL (eC (hv.ext e4)) ?_))))
   rintro v23 _ ⟨rfl,rfl⟩
   refine aQ JL JL (bG Jf Ji) (ae JL JL (ae JL JL (am eB JL JL (eC (hu.ext e4)) ?_)))
   rintro v27 _ ⟨rfl,rfl⟩
   refine aQ JL JL (bG Jf Ji) (aj JL JL JL (dK) (aj JL JL JL (dK) (ac JL JL ?_)))
   refine ag (ab (af (aa (ae JL JL (ae JL JL (aQ JL JL (cv Ji Jf) ?_))))))
   obtain⟨v34,w34,hr34,x34,o34,ob34⟩:=iC Tryz.underlying52 (w:=w4) w4.heap.size [((((c)+(((((l.getD i 0)).toUInt64)+(((m.getD i 0)).toUInt64))))).toUInt32)] (by simp) (Nat.le_refl _)
   refine aJ (vs:=[(0,bp (((((c)+(((((l.getD i 0)).toUInt64)+(((m.getD i 0)).toUInt64))))).toUInt32)))]) JL JL hr34 ?_
   obtain⟨v35,w35,hr35,o35,g35⟩:=jJ Tryz.underlying52 (ty:=52) (oO.ext x34) o34.wds (by simp;omega) ((e4.trans x34)).size
   have x35:=aG.of_grew ((e4.trans x34)) g35 (oO.ext x34).ge
   refine aW JL JL hr35 (ac JL JL (ag (ab (aa (ae JL JL (aj JL JL JL (de 32 (by omega)) (ac JL JL (ag (aM (ab (aa ?_)))))))))))
   refine ae JL JL (aj (r:=I ((i+1:Nat):Int)) JL JL JL (by have e:((i+1:Nat):Int)=(i:Int)+1:=(by omega);rw[e];exact aE (by omega) (by omega)) ?_)
   refine ac JL JL (ag ?_)
   refine fu (i+1) (_) (_) (_) ⟨rfl,rfl,rfl,rfl,rfl,trivial⟩ ⟨x35,o35,by simp[hO],by omega,st.2,st.1⟩ (by omega)
  ·refine aX (aA (aA (aV (ab (af ?_)))))
   have hge:max l.length m.length≤i:=by
    first
    |(have:=h17;omega)
   rw[kN _ (by omega),kN _ (by omega)] at hinv
   refine aa (ae JL JL (ae JL JL (aQ JL JL (cv Ji Jf) ?_)))
   obtain⟨v41,w41,hr41,x41,o41,ob41⟩:=iC Tryz.underlying52 (w:=w4) w4.heap.size [((c).toUInt32)] (by simp) (Nat.le_refl _)
   refine aJ (vs:=[(0,bp (((c).toUInt32)))]) JL JL hr41 ?_
   obtain⟨v42,w42,hr42,o42,g42⟩:=jJ Tryz.underlying52 (ty:=52) (oO.ext x41) o41.wds (by simp;omega) ((e4.trans x41)).size
   have x42:=aG.of_grew ((e4.trans x41)) g42 (oO.ext x41).ge
   refine aW JL JL hr42 (am eA JL JL (fc o42.wds (by simp;omega)) ?_)
   rintro v43 w43 ⟨x43,b43⟩
   refine ac JL JL (ag (ab (au (az JL JL ?_))))
   exact⟨_,rfl,(x42.trans x43),by rw[←hinv,←D8 hO hc];exact b43⟩
theorem BS {w:World} {l m:List UInt32} {v u:Value} (hv:bj l v w) (hu:bj m u w) (hl:l.length≤1099511627776) (hle:val m≤val l):
 Calls Tryz.prog 201 #[v,u] w (bD fun r w'=>aG w w'∧∃d,r=.tuple #[d,I 0]∧dN w.heap.size (lb (val l-val m)) d w'):=by
 refine enter (vs:=[v,u]) Tryz.func201 JL JL JL ?_
 refine af (aa (ac JL JL (ac JL JL (ag (ab (af (af (aa (ae JL JL (ae JL JL (am tS JL JL (tW hv hu) ?_)))))))))))
 rintro v13 _ ⟨rfl,rfl⟩
 refine aj JL JL JL (eF (fun h=>by have:=lP.1 h;omega) aS) (ag (ab (dI JL (ar (ab (af (aa (ac JL JL (ag (ab (af ?_)))))))))))
 refine aa (ac JL JL (ag (ab (af (af (aa (ac JL JL (ag (ab (av ?_))))))))))
 refine iU (fun(i:Nat) (vo:Value) (O:List UInt32) (d:UInt64)=>[(0,v),(1,u),(6,vo),(7,bC d),(8,I (i:Int))]) (fun(i:Nat) (vo:Value) (O:List UInt32) (d:UInt64) w'=>aG w w'∧dN w.heap.size O vo w'∧O.length=i∧i≤l.length∧d.toNat≤1∧val (l.take i)+4294967296^i*d.toNat=val O+val (m.take i)) (fun(i:Nat) (vo:Value) (O:List UInt32) (d:UInt64)=>l.length-i) (0) (.slice none 0 0) ([]) (0) ⟨rfl,rfl,rfl,rfl,rfl,trivial⟩ ⟨aG.refl _,dN.nil _ _,rfl,by simp,by simp,by simp[val]⟩ ?_
 rintro i vo O d w6 ⟨e6,oO,hO,hi,hd,hinv⟩
 refine af (af (aa (ae JL JL (ae JL JL (aP JL JL (be Je (hv.ext e6)) (aj JL JL JL (aS) (ag (ab ?_))))))))
 refine ba JL (fun h18=>?_) (fun h18=>?_)
 ·refine ar (ab (af (av (af ?_))))
  have hlt:i<l.length:=by omega
  have hxa:=fk (l.getD i 0)
  have hyb:((m.getD i 0).toUInt64+d).toNat=(m.getD i 0).toNat+d.toNat:=by
   have:=cL (m.getD i 0)
   rw[m4,fk];omega
  refine aa (ae JL JL (ae JL JL (am eB JL JL (eC (hv.ext e6)) ?_)))
  rintro v23 _ ⟨rfl,rfl⟩
  refine aQ JL JL (bG Jf Ji) (ae JL JL (ae JL JL (am eB JL JL (eC (hu.ext e6)) ?_)))
  rintro v27 _ ⟨rfl,rfl⟩
  refine aQ JL JL (bG Jf Ji) (ae JL JL (aj JL JL JL (dK) (ac JL JL (ac JL JL ?_))))
  refine ag (ab (af (aa (ac JL JL (ag (ab (af (af (aa (ae JL JL (ae JL JL (aj JL JL JL (jZ) (ag (ab ?_))))))))))))))
  refine ba JL (fun h33=>?_) (fun h33=>?_)
  ·have hlt2:(l.getD i 0).toNat<(m.getD i 0).toNat+d.toNat:=by
    have:=UInt64.lt_iff_toNat_lt.1 h33
    rwa [hxa,hyb] at this
   have st:=tR (a:=l) (b:=m) hO hd hinv (.inl ⟨rfl,hlt2,rfl⟩)
   refine af (aa (ae JL JL (aj (v:=bC 4294967296) JL JL JL (dK) (ac JL JL (ag (ab (aa (ac JL JL (ag (ab (aa (ae JL JL ?_))))))))))))
   refine ae JL JL (ae JL JL (aj JL JL JL (dq) (aQ JL JL (cv Ji Jf) ?_)))
   obtain⟨v41,w41,hr41,x41,o41,ob41⟩:=iC Tryz.underlying52 (w:=w6) w6.heap.size [((((((((l.getD i 0)).toUInt64)+(4294967296)))-(((((m.getD i 0)).toUInt64)+(d))))).toUInt32)] (by simp) (Nat.le_refl _)
   refine aJ (vs:=[(0,bp (((((((((l.getD i 0)).toUInt64)+(4294967296)))-(((((m.getD i 0)).toUInt64)+(d))))).toUInt32)))]) JL JL hr41 ?_
   obtain⟨v42,w42,hr42,o42,g42⟩:=jJ Tryz.underlying52 (ty:=52) (oO.ext x41) o41.wds (by simp;omega) ((e6.trans x41)).size
   have x42:=aG.of_grew ((e6.trans x41)) g42 (oO.ext x41).ge
   refine aW JL JL hr42 (ac JL JL (ag (aM (ab (aa (ae JL JL (aj (r:=I ((i+1:Nat):Int)) JL JL JL (by have e:((i+1:Nat):Int)=(i:Int)+1:=(by omega);rw[e];exact aE (by omega) (by omega)) ?_)))))))
   refine ac JL JL (ag ?_)
   refine fu (i+1) (_) (_) (_) ⟨rfl,rfl,rfl,rfl,rfl,trivial⟩ ⟨x42,o42,by simp[hO],by omega,st.2,st.1⟩ (by omega)
  ·have hge2:(m.getD i 0).toNat+d.toNat≤(l.getD i 0).toNat:=by
    have:=mt UInt64.lt_iff_toNat_lt.2 h33
    rw[hxa,hyb] at this
    omega
   have st:=tR (a:=l) (b:=m) hO hd hinv (.inr ⟨rfl,hge2,rfl⟩)
   refine ar (ab (aa (ae JL JL (ae JL JL (ae JL JL (aj JL JL JL (dq) (aQ JL JL (cv Ji Jf) ?_)))))))
   obtain⟨v41,w41,hr41,x41,o41,ob41⟩:=iC Tryz.underlying52 (w:=w6) w6.heap.size [((((((l.getD i 0)).toUInt64)-(((((m.getD i 0)).toUInt64)+(d))))).toUInt32)] (by simp) (Nat.le_refl _)
   refine aJ (vs:=[(0,bp (((((((l.getD i 0)).toUInt64)-(((((m.getD i 0)).toUInt64)+(d))))).toUInt32)))]) JL JL hr41 ?_
   obtain⟨v42,w42,hr42,o42,g42⟩:=jJ Tryz.underlying52 (ty:=52) (oO.ext x41) o41.wds (by simp;omega) ((e6.trans x41)).size
   have x42:=aG.of_grew ((e6.trans x41)) g42 (oO.ext x41).ge
   refine aW JL JL hr42 (ac JL JL (ag (aM (ab (aa (ae JL JL (aj (r:=I ((i+1:Nat):Int)) JL JL JL (by have e:((i+1:Nat):Int)=(i:Int)+1:=(by omega);rw[e];exact aE (by omega) (by omega)) ?_)))))))
   refine ac JL JL (ag ?_)
   refine fu (i+1) (_) (_) (_) ⟨rfl,rfl,rfl,rfl,rfl,trivial⟩ ⟨x42,o42,by simp[hO],by omega,st.2,st.1⟩ (by omega)
 ·refine aX (aA (aA (aV (ab (af ?_)))))
  have hil:i=l.length:=by omega
  have hOl:=cq O
  rw[hO,hil] at hOl
  have hml:val (m.take i)=val m∧d.toNat=0:=by
   have h1:=dV m (min i m.length) (by omega)
   have h2:m.take (min i m.length)=m.take i:=by
    rcases Nat.le_total i m.length with h|h
    ·rw[Nat.min_eq_left h]
    ·rw[Nat.min_eq_right h,List.take_of_length_le (Nat.le_refl _),List.take_of_length_le h]
   rw[h2] at h1
   have hll:=cq l
   rw[hil,List.take_length] at hinv
   have hz:val (m.drop (min i m.length))=0:=by
    rcases Nat.le_total i m.length with h|h
    ·rw[Nat.min_eq_left h] at h1⊢
     rcases Nat.eq_zero_or_pos (val (m.drop i)) with h0|h0
     ·exact h0
     ·have:4294967296^i*1≤4294967296^i*val (m.drop i):=Nat.mul_le_mul_left _ h0
      rw[hil] at this h1
      omega
    ·rw[Nat.min_eq_right h,List.drop_of_length_le (Nat.le_refl _)];rfl
   rw[hz,Nat.mul_zero,Nat.add_zero] at h1
   refine⟨h1.symm,?_⟩
   rcases(show d.toNat=0∨d.toNat=1 by omega) with h|h
   ·exact h
   ·rw[hil] at h1
    rw[h,Nat.mul_one,←h1] at hinv
    omega
  have hres:val l-val m=val O:=by
   rw[hml.1,hml.2,hil,List.take_length] at hinv
   omega
  refine aa (ae JL JL (am eA JL JL (tT oO.wds (by omega)) ?_))
  rintro v44 w44 ⟨x44,b44⟩
  refine ac JL JL (ac JL JL (ag (ab (au (aR JL JL JL ?_)))))
  exact⟨_,rfl,(e6.trans x44),_,rfl,by rw[hres];exact b44.low e6.size⟩
theorem BT {w:World} {l:List UInt32} {v:Value} {k:Nat} (hv:bj l v w) (hl:l.length≤1099511627776) (hk:k≤1099511627776):
 Calls Tryz.prog 198 #[v,I (k:Int)] w (bD fun r w'=>aG w w'∧bj (lb (val l*2^k)) r w'):=by
 refine enter (vs:=[v,I (k:Int)]) Tryz.func198 JL JL JL ?_
 refine af (aa (ac JL JL (ag (ab (af (aa (ae JL JL (aj (r:=I ((k/32:Nat):Int)) JL JL JL (by have e:((k/32:Nat):Int)=(k:Int)/32:=(by omega);rw[e];exact nY (by omega) (by omega) (by omega)) ?_))))))))
 obtain⟨v10,w10,hr10,x10,o10,ob10⟩:=tK Js (w:=w) w.heap.size (n:=k/32) (by omega) (Nat.le_refl _)
 refine f9 JL JL JL hr10 (ac JL JL (ag (ab (af (aa (ac JL JL (ag (ab (af (af (aa (ac JL JL (ag (ab (av ?_)))))))))))))))
 refine iU (fun(i:Nat) (vo:Value) (O:List UInt32) (c:UInt64)=>[(0,v),(1,I (k:Int)),(5,vo),(6,bC c),(7,I (i:Int))]) (fun(i:Nat) (vo:Value) (O:List UInt32) (c:UInt64) w'=>aG w w'∧dN w.heap.size O vo w'∧O.length=k/32+i∧i≤l.length∧c.toNat<2^(k%32)∧val O+4294967296^(k/32+i)*c.toNat=val (l.take i)*(4294967296^(k/32)*2^(k%32))) (fun(i:Nat) (vo:Value) (O:List UInt32) (c:UInt64)=>l.length-i) (0) (v10) (List.replicate (k/32) 0) (0) ⟨rfl,rfl,rfl,rfl,rfl,trivial⟩ ⟨x10,o10,by simp,by simp,by simp;exact Nat.pow_pos (by omega),by simp[val,pj]⟩ ?_
 rintro i vo O c w4 ⟨e4,oO,hO,hi,hc,hinv⟩
 refine af (af (aa (ae JL JL (ae JL JL (aP JL JL (be Je (hv.ext e4)) (aj JL JL JL (aS) (ag (ab ?_))))))))
 refine ba JL (fun h14=>?_) (fun h14=>?_)
 ·refine ar (ab (af (av (af ?_))))
  have hlt:i<l.length:=by omega
  have st:=BN (Nat.mod_lt k (show 0<32 by omega)) hlt hO hc hinv
  refine aa (ae JL JL (ae JL JL (ae JL JL ?_)))
  obtain⟨a20,p20,q20⟩:=cE Je (hv.ext e4) (i:=i) (by omega) .i64
  refine ap JL JL JL (p20 _) (ak JL JL (ai Jf JL q20) (aQ JL JL (bG Jf Ji) ?_))
  refine ae JL JL (aj (r:=I ((k%32:Nat):Int)) JL JL JL (by have e:((k%32:Nat):Int)=(k:Int)%32:=(by omega);rw[e];exact mE (by omega) (by omega)) ?_)
  refine aj JL JL JL (fo ((k%32:Nat)) (by omega)) (aj JL JL JL (iA) (ac JL JL (ag (ab (af (aa (ae JL JL (ae JL JL ?_))))))))
  refine aQ JL JL (cv Ji Jf) ?_
  obtain⟨v30,w30,hr30,x30,o30,ob30⟩:=iC Tryz.underlying52 (w:=w4) w4.heap.size [((((c)|||(((((l[i])).toUInt64)<<<UInt64.ofNat ((k%32:Nat)))))).toUInt32)] (by simp) (Nat.le_refl _)
  refine aJ (vs:=[(0,bp (((((c)|||(((((l[i])).toUInt64)<<<UInt64.ofNat ((k%32:Nat)))))).toUInt32)))]) JL JL hr30 ?_
  obtain⟨v31,w31,hr31,o31,g31⟩:=jJ Tryz.underlying52 (ty:=52) (oO.ext x30) o30.wds (by simp;omega) ((e4.trans x30)).size
  have x31:=aG.of_grew ((e4.trans x30)) g31 (oO.ext x30).ge
  refine aW JL JL hr31 (ac JL JL (ag (ab (aa (ae JL JL (aj JL JL JL (de 32 (by omega)) (ac JL JL (ag (aM (ab (aa ?_)))))))))))
  refine ae JL JL (aj (r:=I ((i+1:Nat):Int)) JL JL JL (by have e:((i+1:Nat):Int)=(i:Int)+1:=(by omega);rw[e];exact aE (by omega) (by omega)) ?_)
  refine ac JL JL (ag ?_)
  refine fu (i+1) (_) (_) (_) ⟨rfl,rfl,rfl,rfl,rfl,trivial⟩ ⟨x31,o31,by simp[hO];omega,by omega,st.2,st.1⟩ (by omega)
 ·refine aX (aA (aA (aV (ab (af ?_)))))
  rw[kN _ (by omega)] at hinv
  have e32:4294967296^(k/32)*2^(k%32)=2^k:=by
   have h3:(4294967296:Nat)^(k/32)=2^(32*(k/32)):=by rw[Nat.pow_mul]
   rw[h3,←Nat.pow_add,Nat.div_add_mod]
  have hc1:c.toNat<4294967296:=Nat.lt_of_lt_of_le hc (Nat.pow_le_pow_right (show 0<2 by omega) (show k%32≤32 by omega))
  have hend:val (O++[c.toUInt32])=val l*2^k:=by
   rw[d8,kI,hO,j2,Nat.mod_eq_of_lt hc1,hinv,e32]
  refine aa (ae JL JL (ae JL JL (aQ JL JL (cv Ji Jf) ?_)))
  obtain⟨v37,w37,hr37,x37,o37,ob37⟩:=iC Tryz.underlying52 (w:=w4) w4.heap.size [((c).toUInt32)] (by simp) (Nat.le_refl _)
  refine aJ (vs:=[(0,bp (((c).toUInt32)))]) JL JL hr37 ?_
  obtain⟨v38,w38,hr38,o38,g38⟩:=jJ Tryz.underlying52 (ty:=52) (oO.ext x37) o37.wds (by simp;omega) ((e4.trans x37)).size
  have x38:=aG.of_grew ((e4.trans x37)) g38 (oO.ext x37).ge
  refine aW JL JL hr38 (am eA JL JL (fc o38.wds (by simp;omega)) ?_)
  rintro v39 w39 ⟨x39,b39⟩
  refine ac JL JL (ag (ab (au (az JL JL ?_))))
  exact⟨_,rfl,(x38.trans x39),by rw[←hend];exact b39⟩
theorem zd {w:World} {l:List UInt32} {v:Value} (hv:bj l v w) (hl:l.length≤1099511627776):
 Calls Tryz.prog 197 #[v] w (bD fun r w'=>aG w w'∧r=I ((bl (val l):Nat):Int)):=by
 refine enter (vs:=[v]) Tryz.func197 JL JL JL ?_
 have hll:=gi (cq l)
 refine af (aa (ac JL JL (ag (ab (af (aa (ae JL JL (am eA JL JL (fc hv (by omega)) ?_))))))))
 rintro v6 w6 ⟨x6,b6⟩
 refine ac JL JL (ag (ab (af (af (aa (ae JL JL (aP (r:=I ((lb (val l)).length:Int)) JL JL (be Je b6) ?_)))))))
 refine aj JL JL JL (bA) (ag (ab ?_))
 refine ba JL (fun h9=>?_) (fun h9=>?_)
 ·refine af (aa (ac JL JL (ag (ab (au (ax (az JL JL ?_)))))))
  exact⟨_,rfl,x6,by
   have:val l=0:=fR.1 (by omega)
   rw[this];rfl⟩
 ·refine ar (ab (af (aa (ae JL JL (aP (r:=I ((lb (val l)).length:Int)) JL JL (be Je b6) (aj (r:=I (((lb (val l)).length-1:Nat):Int)) JL JL JL (by have e:(((lb (val l)).length-1:Nat):Int)=((lb (val l)).length:Int)-1:=(by omega);rw[e];exact aY (by omega) (by omega)) ?_))))))
  refine aj (r:=I ((32*((lb (val l)).length-1:Nat):Nat):Int)) JL JL JL (by have e:((32*((lb (val l)).length-1:Nat):Nat):Int)=32*(((lb (val l)).length-1:Nat):Int):=(by omega);rw[e];exact eI (by omega) (by omega)) ?_
  refine ac JL JL (ag (ab (af (af (aa (ae JL JL (ae JL JL (aP (r:=I ((lb (val l)).length:Int)) JL JL (be Je b6) ?_))))))))
  refine aj (r:=I (((lb (val l)).length-1:Nat):Int)) JL JL JL (by have e:(((lb (val l)).length-1:Nat):Int)=((lb (val l)).length:Int)-1:=(by omega);rw[e];exact aY (by omega) (by omega)) ?_
  obtain⟨a18,p18,q18⟩:=cE Je b6 (i:=((lb (val l)).length-1:Nat)) (by omega) .i64
  refine ap JL JL JL (p18 _) (ak JL JL (ai Jf JL q18) (ac JL JL (ag (ab (av ?_)))))
  refine dA (fun(k:Nat) (x:UInt32)=>[(3,I (k:Int)),(4,bp x)]) (fun(k:Nat) (x:UInt32) w'=>w6=w'∧k+bl x.toNat=bl (val l)) (fun(k:Nat) (x:UInt32)=>x.toNat) (32*((lb (val l)).length-1)) ((lb (val l))[(lb (val l)).length-1]'(by omega)) ⟨rfl,rfl,trivial⟩ ⟨rfl,(Hf (by omega)).symm⟩ ?_
  rintro k x _ ⟨rfl,hinv⟩
  refine af (af (aa (ae JL JL (aj (v:=bp 0) JL JL JL (tE) (ag (ab ?_))))))
  refine ba JL (fun h21=>?_) (fun h21=>?_)
  ·have hx:0<x.toNat:=wW.1 h21
   have hb:=Gm hx
   have hs:(x>>>UInt32.ofNat 1).toNat=x.toNat/2:=oe x (s:=1) (by omega)
   have hbl:=tO (n:=val l) (k:=32*l.length) (by have:=cq l;rwa [show(4294967296:Nat)^l.length=2^(32*l.length) by rw[Nat.pow_mul]] at this)
   refine ar (ab (af (av (aa (ae JL JL (aj (r:=I ((k+1:Nat):Int)) JL JL JL (by have e:((k+1:Nat):Int)=(k:Int)+1:=(by omega);rw[e];exact aE (by omega) (by omega)) ?_))))))
   refine ac JL JL (ag (aM (ab (aa (ae JL JL (aj JL JL JL (cA 1 (by omega)) (ac JL JL (ag ?_))))))))
   refine cF (k+1) (_) ⟨rfl,rfl,trivial⟩ ⟨rfl,by rw[hs];omega⟩ (by omega)
  ·refine aX (aA (aA (aV (ab (af (aa (ae JL JL (ac JL JL (ag (ab (au (az JL JL ?_))))))))))))
   exact⟨_,rfl,x6,by
    have hx:x.toNat=0:=by
     have:=mt (wW (a:=0) (b:=x)).2 h21
     have e:(0:UInt32).toNat=0:=rfl
     omega
    rw[hx,AI,Nat.add_zero] at hinv
    rw[hinv]⟩
end Go.Rl
namespace Go.Rl
open Go.RowKit Go.Proofs
theorem BU:aw Tryz.prog 209:=⟨_,Tryz.func209,by kernel_rfl,rfl⟩
theorem BV:aw Tryz.prog 208:=⟨_,Tryz.func208,by kernel_rfl,rfl⟩
theorem top2 {m:List UInt32} {k:Nat} (h:m.length=k+2):val m=((m[k+1]'(by omega)).toNat*4294967296+(m[k]'(by omega)).toNat)*4294967296^k+val (m.take k):=by
 rw[dV m k (by omega),er (show k<m.length by omega),er (show k+1<m.length by omega),List.drop_of_length_le (show m.length≤k+1+1 by omega),Nat.mul_comm (4294967296^k),Nat.add_comm]
 congr 2
 simp only[val]
 omega
theorem top3 {m:List UInt32} {k:Nat} (h:m.length=k+3):val m=(((m[k+2]'(by omega)).toNat*4294967296+(m[k+1]'(by omega)).toNat)*4294967296+(m[k]'(by omega)).toNat)*4294967296^k+val (m.take k):=by
 rw[dV m k (by omega),er (show k<m.length by omega),er (show k+1<m.length by omega),er (show k+1+1<m.length by omega),List.drop_of_length_le (show m.length≤k+1+1+1 by omega),Nat.mul_comm (4294967296^k),Nat.add_comm]
 congr 2
 simp only[val,Nat.add_assoc,Nat.reduceAdd]
 omega
theorem rC {a b:UInt64}:a≥b↔b.toNat≤a.toNat:=UInt64.le_iff_toNat_le
theorem ze {a b:UInt64}:a>b↔b.toNat<a.toNat:=UInt64.lt_iff_toNat_lt
theorem BW {w:World} {L m:List UInt32} {u v:Value} {k:Nat} (hu:bj L u w) (hv:bj m v w) (hm:m.length=k+2) (hL:L.length=k+3) (hk:k≤1099511627776) (h1:0<(m[k+1]'(by omega)).toNat) (hUV:val L<4294967296*val m):
 Calls Tryz.prog 209 #[u,v] w (bD fun r w'=>aG w w'∧∃q:UInt64,r=bC q∧q.toNat<4294967296∧(q.toNat-1)*val m≤val L∧val L<(q.toNat+1)*val m):=by
 refine enter (vs:=[u,v]) Tryz.func209 JL JL JL ?_
 have tV:=top2 hm
 have tU:=top3 hL
 have hPk:=IK k
 have hVl:=cq (m.take k)
 have hUl:=cq (L.take k)
 rw[List.length_take,Nat.min_eq_left (by omega)] at hVl hUl
 have b0:=cL (L[k]'(by omega))
 have b1:=cL (L[k+1]'(by omega))
 have b2:=cL (L[k+2]'(by omega))
 have c1:=cL (m[k+1]'(by omega))
 have c0:=cL (m[k]'(by omega))
 have hV0:0<val m:=by
  rw[tV]
  have:=Nat.mul_le_mul_right (4294967296^k) (show 1≤(m[k+1]'(by omega)).toNat*4294967296+(m[k]'(by omega)).toNat by omega)
  omega
 have hu0:(L[k+2]'(by omega)).toNat≤(m[k+1]'(by omega)).toNat:=by
  rcases Nat.lt_or_ge (m[k+1]'(by omega)).toNat (L[k+2]'(by omega)).toNat with h|h
  ·have e1:((m[k+1]'(by omega)).toNat*4294967296+(m[k]'(by omega)).toNat+1)*4294967296^k*4294967296≤(((L[k+2]'(by omega)).toNat*4294967296+(L[k+1]'(by omega)).toNat)*4294967296+(L[k]'(by omega)).toNat)*4294967296^k:=by
    rw[Nat.mul_assoc,Nat.mul_comm (4294967296^k),←Nat.mul_assoc]
    exact Nat.mul_le_mul_right _ (by omega)
   rw[Nat.add_mul _ 1] at e1
   omega
  ·exact h
 have hd0:(m[k+1]'(by omega)).toUInt64≠0:=fun h=>by
  have:=congrArg UInt64.toNat h
  rw[fk] at this
  simp at this
  omega
 have n01:=rj (L[k+2]'(by omega)).toUInt64 (L[k+1]'(by omega)) (by rw[fk];exact b2)
 rw[fk] at n01
 refine af (aa (ac JL JL (ag (ab (af (aa (ae JL JL (aP (r:=I ((k+2:Nat):Int)) JL JL ((by rw[←hm];exact be Je hv)) ?_))))))))
 refine ac JL JL (ag (ab (af (bm 13 [0,1,5,23] (by kernel_rfl) (by kernel_rfl) ?_))))
 refine ao JL JL (ao JL JL ?_)
 obtain⟨a13,p13,q13⟩:=cE Je hu (i:=(k+2:Nat)) (by omega) .i64
 refine ay JL JL JL (fun w _=>p13 w) (aD JL JL (fun w hw=>ai Jf JL (hw.cell_some q13)) (dk JL JL (fun w _=>bG Jf Ji) ?_))
 refine aO (v:=bC 32) JL JL JL (fun w _=>fo 32 (by omega)) (ao JL JL (ao JL JL (aO (r:=I ((k+1:Nat):Int)) JL JL JL (fun w _=>by have e:((k+1:Nat):Int)=((k+2:Nat):Int)-1:=(by omega);rw[e];exact aY (by omega) (by omega)) ?_)))
 obtain⟨a20,p20,q20⟩:=cE Je hu (i:=(k+1:Nat)) (by omega) .i64
 refine ay JL JL JL (fun w _=>p20 w) (aD JL JL (fun w hw=>ai Jf JL (hw.cell_some q20)) (dk JL JL (fun w _=>bG Jf Ji) ?_))
 refine aO JL JL JL (fun w _=>iA) (bu ?_)
 intro wg2 xg2
 rintro _ hq0
 obtain rfl:=Eq.symm hq0
 rintro _ hq1
 obtain rfl:=Eq.symm hq1
 rintro _ rfl
 rintro _ rfl
 refine ac JL JL (ag (ab (af (bm 17 [0,1,5,7,39] (by kernel_rfl) (by kernel_rfl) ?_))))
 refine ao JL JL (ao JL JL (ao JL JL (aO (r:=I ((k+1:Nat):Int)) JL JL JL (fun w _=>by have e:((k+1:Nat):Int)=((k+2:Nat):Int)-1:=(by omega);rw[e];exact aY (by omega) (by omega)) ?_)))
 obtain⟨a28,p28,q28⟩:=cE Je (hv.ext xg2) (i:=(k+1:Nat)) (by omega) .i64
 refine ay JL JL JL (fun w _=>p28 w) (aD JL JL (fun w hw=>ai Jf JL (hw.cell_some q28)) (dk JL JL (fun w _=>bG Jf Ji) ?_))
 refine aO JL JL JL (fun w _=>jX hd0) (ao JL JL (ao JL JL (ao JL JL (aO (r:=I ((k+1:Nat):Int)) JL JL JL (fun w _=>by have e:((k+1:Nat):Int)=((k+2:Nat):Int)-1:=(by omega);rw[e];exact aY (by omega) (by omega)) ?_))))
 obtain⟨a36,p36,q36⟩:=cE Je (hv.ext xg2) (i:=(k+1:Nat)) (by omega) .i64
 refine ay JL JL JL (fun w _=>p36 w) (aD JL JL (fun w hw=>ai Jf JL (hw.cell_some q36)) (dk JL JL (fun w _=>bG Jf Ji) ?_))
 refine aO JL JL JL (fun w _=>jY hd0) (dX JL JL (bu ?_))
 intro wg3 xg3
 rintro _ hq0
 obtain rfl:=Eq.symm hq0
 rintro _ hq1
 obtain rfl:=Eq.symm hq1
 rintro _ rfl
 rintro _ rfl
 rintro _ rfl
 refine ac JL JL (ag (ab (af (av ?_))))
 refine dA (fun(q:UInt64) (r:UInt64)=>[(0,u),(1,v),(5,I ((k+2:Nat):Int)),(7,bC q),(8,bC r)]) (fun(q:UInt64) (r:UInt64) w'=>aG w w'∧q.toNat*(m[k+1]'(by omega)).toNat+r.toNat=(L[k+2]'(by omega)).toNat*4294967296+(L[k+1]'(by omega)).toNat∧r.toNat<4294967296∧∀Q,Q*val m≤val L→Q≤q.toNat) (fun(q:UInt64) (r:UInt64)=>q.toNat) (_) (_) ⟨rfl,rfl,rfl,rfl,rfl,trivial⟩ ⟨(xg2.trans xg3),by rw[UInt64.toNat_div,UInt64.toNat_mod,n01,fk,Nat.mul_comm];exact Nat.div_add_mod _ _,by rw[UInt64.toNat_mod,n01,fk];have:=Nat.mod_lt ((L[k+2]'(by omega)).toNat*4294967296+(L[k+1]'(by omega)).toNat) h1;omega,fun Q hQ=>by
  rw[UInt64.toNat_div,n01,fk]
  refine HL (V:=val m) (U:=val L) (P:=4294967296^k*4294967296) ?_ ?_ h1 hQ
  ·rw[tV,Nat.mul_comm (4294967296^k),←Nat.mul_assoc]
   have:=Nat.mul_le_mul_right (4294967296^k) (Nat.le_add_right ((m[k+1]'(by omega)).toNat*4294967296) (m[k]'(by omega)).toNat)
   omega
  ·rw[tU,Nat.mul_comm (4294967296^k),←Nat.mul_assoc]
   have:=Nat.mul_le_mul_right (4294967296^k) (show((L[k+2]'(by omega)).toNat*4294967296+(L[k+1]'(by omega)).toNat)*4294967296+(L[k]'(by omega)).toNat+1≤((L[k+2]'(by omega)).toNat*4294967296+(L[k+1]'(by omega)).toNat+1)*4294967296 by omega)
   rw[Nat.add_mul _ 1] at this
   omega⟩ ?_
 rintro q r w4 ⟨e4,hqr,hr,hup⟩
 refine af (af ?_)
 by_cases h41:q≥4294967296
 ·refine bm 21 [0,1,5,7,8,42,60] (by kernel_rfl) (by kernel_rfl) ?_
  refine ao JL JL (aO (v:=bC 4294967296) JL JL JL (fun w _=>dv h41 gb) (ao JL JL (cS JL JL JL (cS JL JL JL (cS JL JL JL (cS JL JL JL ?_))))))
  refine cS JL JL JL (cS JL JL JL (cS JL JL JL (cS JL JL JL (cS JL JL JL (cS JL JL JL (cS JL JL JL (cS JL JL JL (cS JL JL JL (cS JL JL JL ?_)))))))))
  refine cS JL JL JL (cS JL JL JL (cS JL JL JL (cS JL JL JL (bu ?_))))
  intro wg4 xg4
  rintro _ hq0
  obtain rfl:=Eq.symm hq0
  rintro _ hq1
  obtain rfl:=Eq.symm hq1
  rintro _ rfl
  rintro _ rfl
  rintro _ rfl
  rintro _ rfl
  rintro _ rfl
  refine aB JL JL JL (ag (ab (bJ JL (ar (ab (av (af (aa ?_))))))))
  have hlo:∀Q,Q*val m≤val L→Q+1≤q.toNat:=by
   intro Q hQ
   first
   |(have h41':4294967296≤q.toNat:=rC.1 h41
     have h2:Q*val m<4294967296*val m:=by omega
     have:=Nat.lt_of_mul_lt_mul_right h2
     omega)
   |(have h41':q.toNat<4294967296:=Nat.lt_of_not_le fun h=>h41 (rC.2 h)
     have h61':=ze.1 h61
     have hp:q.toNat*(m[k]'(by omega)).toNat≤4294967295*4294967295:=Nat.mul_le_mul (by omega) (by omega)
     rw[rj r _ hr,tN,fk,Nat.mod_eq_of_lt (by omega)] at h61'
     have h2:=wZ tV tU hUl hqr h61'
     have h3:Q*val m<q.toNat*val m:=by omega
     exact Nat.lt_of_mul_lt_mul_right h3)
  have hq0:=hlo 0 (by simp)
  have hq1:(q-1).toNat=q.toNat-1:=by
   have:=y7 q
   rw[og]
   show(18446744073709551616-1+q.toNat)%18446744073709551616=_
   omega
  have hr1:(r+(m[k+1]'(by omega)).toUInt64).toNat=r.toNat+(m[k+1]'(by omega)).toNat:=by rw[m4,fk];omega
  have hqr1:(q-1).toNat*(m[k+1]'(by omega)).toNat+(r+(m[k+1]'(by omega)).toUInt64).toNat=(L[k+2]'(by omega)).toNat*4294967296+(L[k+1]'(by omega)).toNat:=by
   rw[hq1,hr1,←hqr]
   obtain⟨p,hp⟩:∃p,q.toNat=p+1:=⟨q.toNat-1,by omega⟩
   rw[hp,Nat.add_sub_cancel,Nat.add_mul];omega
  have hup1:∀Q,Q*val m≤val L→Q≤(q-1).toNat:=fun Q hQ=>by
   have:=hlo Q hQ
   omega
  refine ae JL JL (aj (v:=bC 1) JL JL JL (dq) (ac JL JL (ag (ab (af (aa (ae JL JL (ae JL JL (ae JL JL (aj (r:=I ((k+1:Nat):Int)) JL JL JL (by have e:((k+1:Nat):Int)=((k+2:Nat):Int)-1:=(by omega);rw[e];exact aY (by omega) (by omega)) ?_))))))))))
  obtain⟨a68,p68,q68⟩:=cE Je (hv.ext (e4.trans xg4)) (i:=(k+1:Nat)) (by omega) .i64
  refine ap JL JL JL (p68 _) (ak JL JL (ai Jf JL q68) (aQ JL JL (bG Jf Ji) ?_))
  refine aj JL JL JL (dK) (ac JL JL (ag (ab (af (aa (ae JL JL (aj (v:=bC 4294967296) JL JL JL (gb) (ag (ab ?_)))))))))
  refine ba JL (fun h73=>?_) (fun h73=>?_)
  ·have h73':4294967296≤(r+(m[k+1]'(by omega)).toUInt64).toNat:=rC.1 h73
   have hB:=DV hu0 b1 hqr1 h73'
   refine aX (pT JL (aA (aV (ab (af (aa (ae JL JL (ac JL JL (ag (ab (au (az JL JL ?_))))))))))))
   first
   |exact⟨_,rfl,(e4.trans xg4),_,rfl,hB,mI tV tU hVl h1 c0 hB hqr1 (.inl h73'),Nat.lt_of_not_le fun h=>absurd (hup1 _ h) (by omega)⟩
   |(have h41':q.toNat<4294967296:=Nat.lt_of_not_le fun h=>h41 (rC.2 h)
     have h61':(q*(m[k]'(by omega)).toUInt64).toNat≤(r<<<UInt64.ofNat 32|||(L[k]'(by omega)).toUInt64).toNat:=Nat.le_of_not_lt fun h=>h61 (ze.2 h)
     have hp:q.toNat*(m[k]'(by omega)).toNat≤4294967295*4294967295:=Nat.mul_le_mul (by omega) (by omega)
     rw[rj r _ hr,tN,fk,Nat.mod_eq_of_lt (by omega)] at h61'
     exact⟨_,rfl,(e4.trans xg4),_,rfl,h41',mI tV tU hVl h1 c0 h41' hqr (.inr h61'),Nat.lt_of_not_le fun h=>absurd (hup _ h) (by omega)⟩)
  ·have h73':(r+(m[k+1]'(by omega)).toUInt64).toNat<4294967296:=Nat.lt_of_not_le fun h=>h73 (rC.2 h)
   refine ar (aM ?_)
   refine cF (q-1) (r+(m[k+1]'(by omega)).toUInt64) ⟨rfl,rfl,rfl,rfl,rfl,trivial⟩ ⟨(e4.trans xg4),hqr1,h73',hup1⟩ (by show(q-1).toNat<q.toNat;omega)
 ·refine bm 21 [0,1,5,7,8,42,60] (by kernel_rfl) (by kernel_rfl) ?_
  refine ao JL JL (aO (v:=bC 4294967296) JL JL JL (fun w _=>eF h41 gb) (ao JL JL (bV JL JL (ao JL JL (bV JL JL (ao JL JL ?_))))))
  refine bV JL JL (ao JL JL (bV JL JL (aO (r:=I ((k:Nat):Int)) JL JL JL (fun w _=>by have e:((k:Nat):Int)=((k+2:Nat):Int)-2:=(by omega);rw[e];exact aY (by omega) (by omega)) ?_)))
  refine bV JL JL ?_
  obtain⟨a47,p47,q47⟩:=cE Je (hv.ext e4) (i:=(k:Nat)) (by omega) .i64
  refine ay JL JL JL (fun w _=>p47 w) (bV JL JL (aD JL JL (fun w hw=>ai Jf JL (hw.cell_some q47)) (bV JL JL ?_)))
  refine dk JL JL (fun w _=>bG Jf Ji) (bV JL JL (aO JL JL JL (fun w _=>gU) (bV JL JL ?_)))
  refine ao JL JL (bV JL JL (aO (v:=bC 32) JL JL JL (fun w _=>fo 32 (by omega)) (bV JL JL (ao JL JL (bV JL JL (ao JL JL (bV JL JL ?_)))))))
  refine aO (r:=I ((k:Nat):Int)) JL JL JL (fun w _=>by have e:((k:Nat):Int)=((k+2:Nat):Int)-2:=(by omega);rw[e];exact aY (by omega) (by omega)) ?_
  refine bV JL JL ?_
  obtain⟨a56,p56,q56⟩:=cE Je (hu.ext e4) (i:=(k:Nat)) (by omega) .i64
  refine ay JL JL JL (fun w _=>p56 w) (bV JL JL (aD JL JL (fun w hw=>ai Jf JL (hw.cell_some q56)) (bV JL JL ?_)))
  refine dk JL JL (fun w _=>bG Jf Ji) (bV JL JL (aO JL JL JL (fun w _=>iA) (bV JL JL ?_)))
  refine aO JL JL JL (fun w _=>dc) (bu ?_)
  intro wg4 xg4
  rintro _ hq0
  obtain rfl:=Eq.symm hq0
  rintro _ hq1
  obtain rfl:=Eq.symm hq1
  rintro _ rfl
  rintro _ rfl
  rintro _ rfl
  rintro _ rfl
  rintro _ rfl
  refine aH JL JL JL (ag (ab ?_))
  refine ba JL (fun h61=>?_) (fun h61=>?_)
  ·refine ar (ab (av (af (aa ?_))))
   have hlo:∀Q,Q*val m≤val L→Q+1≤q.toNat:=by
    intro Q hQ
    first
    |(have h41':4294967296≤q.toNat:=rC.1 h41
      have h2:Q*val m<4294967296*val m:=by omega
      have:=Nat.lt_of_mul_lt_mul_right h2
      omega)
    |(have h41':q.toNat<4294967296:=Nat.lt_of_not_le fun h=>h41 (rC.2 h)
      have h61':=ze.1 h61
      have hp:q.toNat*(m[k]'(by omega)).toNat≤4294967295*4294967295:=Nat.mul_le_mul (by omega) (by omega)
      rw[rj r _ hr,tN,fk,Nat.mod_eq_of_lt (by omega)] at h61'
      have h2:=wZ tV tU hUl hqr h61'
      have h3:Q*val m<q.toNat*val m:=by omega
      exact Nat.lt_of_mul_lt_mul_right h3)
   have hq0:=hlo 0 (by simp)
   have hq1:(q-1).toNat=q.toNat-1:=by
    have:=y7 q
    rw[og]
    show(18446744073709551616-1+q.toNat)%18446744073709551616=_
    omega
   have hr1:(r+(m[k+1]'(by omega)).toUInt64).toNat=r.toNat+(m[k+1]'(by omega)).toNat:=by rw[m4,fk];omega
   have hqr1:(q-1).toNat*(m[k+1]'(by omega)).toNat+(r+(m[k+1]'(by omega)).toUInt64).toNat=(L[k+2]'(by omega)).toNat*4294967296+(L[k+1]'(by omega)).toNat:=by
    rw[hq1,hr1,←hqr]
    obtain⟨p,hp⟩:∃p,q.toNat=p+1:=⟨q.toNat-1,by omega⟩
    rw[hp,Nat.add_sub_cancel,Nat.add_mul];omega
   have hup1:∀Q,Q*val m≤val L→Q≤(q-1).toNat:=fun Q hQ=>by
    have:=hlo Q hQ
    omega
   refine ae JL JL (aj (v:=bC 1) JL JL JL (dq) (ac JL JL (ag (ab (af (aa (ae JL JL (ae JL JL (ae JL JL (aj (r:=I ((k+1:Nat):Int)) JL JL JL (by have e:((k+1:Nat):Int)=((k+2:Nat):Int)-1:=(by omega);rw[e];exact aY (by omega) (by omega)) ?_))))))))))
   obtain⟨a68,p68,q68⟩:=cE Je (hv.ext (e4.trans xg4)) (i:=(k+1:Nat)) (by omega) .i64
   refine ap JL JL JL (p68 _) (ak JL JL (ai Jf JL q68) (aQ JL JL (bG Jf Ji) ?_))
   refine aj JL JL JL (dK) (ac JL JL (ag (ab (af (aa (ae JL JL (aj (v:=bC 4294967296) JL JL JL (gb) (ag (ab ?_)))))))))
   refine ba JL (fun h73=>?_) (fun h73=>?_)
   ·have h73':4294967296≤(r+(m[k+1]'(by omega)).toUInt64).toNat:=rC.1 h73
    have hB:=DV hu0 b1 hqr1 h73'
    refine aX (pT JL (aA (aV (ab (af (aa (ae JL JL (ac JL JL (ag (ab (au (az JL JL ?_))))))))))))
    first
    |exact⟨_,rfl,(e4.trans xg4),_,rfl,hB,mI tV tU hVl h1 c0 hB hqr1 (.inl h73'),Nat.lt_of_not_le fun h=>absurd (hup1 _ h) (by omega)⟩
    |(have h41':q.toNat<4294967296:=Nat.lt_of_not_le fun h=>h41 (rC.2 h)
      have h61':(q*(m[k]'(by omega)).toUInt64).toNat≤(r<<<UInt64.ofNat 32|||(L[k]'(by omega)).toUInt64).toNat:=Nat.le_of_not_lt fun h=>h61 (ze.2 h)
      have hp:q.toNat*(m[k]'(by omega)).toNat≤4294967295*4294967295:=Nat.mul_le_mul (by omega) (by omega)
      rw[rj r _ hr,tN,fk,Nat.mod_eq_of_lt (by omega)] at h61'
      exact⟨_,rfl,(e4.trans xg4),_,rfl,h41',mI tV tU hVl h1 c0 h41' hqr (.inr h61'),Nat.lt_of_not_le fun h=>absurd (hup _ h) (by omega)⟩)
   ·have h73':(r+(m[k+1]'(by omega)).toUInt64).toNat<4294967296:=Nat.lt_of_not_le fun h=>h73 (rC.2 h)
    refine ar (aM ?_)
    refine cF (q-1) (r+(m[k+1]'(by omega)).toUInt64) ⟨rfl,rfl,rfl,rfl,rfl,trivial⟩ ⟨(e4.trans xg4),hqr1,h73',hup1⟩ (by show(q-1).toNat<q.toNat;omega)
  ·refine aX (aA (aA (aV (ab (af (aa (ae JL JL (ac JL JL (ag (ab (au (az JL JL ?_))))))))))))
   first
   |exact⟨_,rfl,(e4.trans xg4),_,rfl,hB,mI tV tU hVl h1 c0 hB hqr1 (.inl h73'),Nat.lt_of_not_le fun h=>absurd (hup1 _ h) (by omega)⟩
   |(have h41':q.toNat<4294967296:=Nat.lt_of_not_le fun h=>h41 (rC.2 h)
     have h61':(q*(m[k]'(by omega)).toUInt64).toNat≤(r<<<UInt64.ofNat 32|||(L[k]'(by omega)).toUInt64).toNat:=Nat.le_of_not_lt fun h=>h61 (ze.2 h)
     have hp:q.toNat*(m[k]'(by omega)).toNat≤4294967295*4294967295:=Nat.mul_le_mul (by omega) (by omega)
     rw[rj r _ hr,tN,fk,Nat.mod_eq_of_lt (by omega)] at h61'
     exact⟨_,rfl,(e4.trans xg4),_,rfl,h41',mI tV tU hVl h1 c0 h41' hqr (.inr h61'),Nat.lt_of_not_le fun h=>absurd (hup _ h) (by omega)⟩)
end Go.Rl
namespace Go.Rl
open Go.RowKit Go.Proofs
theorem BX {w:World} {g:Nat} {pre post:List Value} {L m:List UInt32} {u v:Value} {q:UInt64} (hu:PW g pre L post u w) (hv:bj m v w) (ha:v.ownBlock=none∨v.ownBlock≠some g) (hL:L.length=m.length+1) (hm:m.length≤1099511627776)
 (hq:q.toNat<4294967296) (h1:(q.toNat-1)*val m≤val L) (h2:val L<(q.toNat+1)*val m):
 Calls Tryz.prog 208 #[u,v,bC q] w (bD fun r w'=>∃x F,r=bp x∧w.grownBy w' (some g)∧PW g pre F post u w'∧F.length=L.length∧val L=x.toNat*val m+val F∧val F<val m):=by
 refine enter (vs:=[u,v,bC q]) Tryz.func208 JL JL JL ?_
 refine af (aa (ac JL JL (ag (ab (af (aa (ac JL JL (ac JL JL (ag (ab (af (af (aa (ae JL JL (aP JL JL (be Je hv) ?_)))))))))))))))
 refine ae JL JL (ag (ab (av ?_)))
 refine iU (fun(i:Nat) (M:List UInt32) (c:UInt64) (b:UInt64)=>[(0,u),(1,v),(2,bC q),(7,bC c),(8,bC b),(15,v),(16,I (m.length:Int)),(17,I (i:Int))]) (fun(i:Nat) (M:List UInt32) (c:UInt64) (b:UInt64) w'=>w.grownBy w' (some g)∧PW g pre M post u w'∧M.length=L.length∧i≤m.length∧M.drop i=L.drop i∧c.toNat<4294967296∧b.toNat≤1∧val (L.take i)+4294967296^i*(c.toNat+b.toNat)=val (M.take i)+q.toNat*val (m.take i)) (fun(i:Nat) (M:List UInt32) (c:UInt64) (b:UInt64)=>m.length-i) (0) (L) (0) (0) ⟨rfl,rfl,rfl,rfl,rfl,rfl,rfl,rfl,trivial⟩ ⟨dR (aG.refl _),hu,rfl,by simp,rfl,by simp,by simp,by simp[val]⟩ ?_
 rintro i M c b w3 ⟨q3,pM,hM,hi,hMi,hc,hb,hinv⟩
 refine af ?_
 have v3:=hv.away ha q3
 refine aa (aj JL JL JL (aS) (ag (ab (af ?_))))
 refine ba JL (fun h18=>?_) (fun h18=>?_)
 ·refine ar (ab (af (av (af (aa (ae JL JL ?_))))))
  obtain⟨a20,p20,q20⟩:=cE Je v3 (i:=i) (by omega) .i64
  refine ap JL JL JL (p20 _) (ak JL JL (ai Jf JL q20) (ac JL JL (ac JL JL (ag (ab (af (aa (ae JL JL ?_))))))))
  refine ae JL JL (ae JL JL (aQ JL JL (bG Jf Ji) (aj JL JL JL (gU) (aj JL JL JL (dK) ?_))))
  refine ac JL JL (ag (ab (af (aa (ae JL JL (ae JL JL ?_))))))
  obtain⟨a30,p30,q30⟩:=cE Je pM.wds (i:=i) (by omega) .i64
  refine ap JL JL JL (p30 _) (ak JL JL (ai Jf JL q30) (aQ JL JL (bG Jf Ji) ?_))
  refine ae JL JL (aQ JL JL (cv Ji Jf) (aQ JL JL (bG Jf Ji) ?_))
  refine aj JL JL JL (dq) (ae JL JL (aj JL JL JL (dq) (ac JL JL (ag (ab (af (aa (ae JL JL (ae JL JL (ae JL JL ?_))))))))))
  refine aQ JL JL (cv Ji Jf) ?_
  obtain⟨w43,p43,s43,pN,q43,c43⟩:=pM.setP Je (i:=i) (by omega) ((((((((M[i])).toUInt64)-(((((c)+(((q)*(((m[i])).toUInt64))))).toUInt32).toUInt64)))-(b)))).toUInt32
  refine ap JL JL JL (p43 _) (aC JL JL (s43) (ag (ab (af (aa (ae JL JL (aj JL JL JL (de 63 (by omega)) (ac JL JL (ag ?_)))))))))
  refine ab (aa (ae JL JL (aj JL JL JL (de 32 (by omega)) (ac JL JL (ag (aM (ab (aa (aj (r:=I ((i+1:Nat):Int)) JL JL JL (by have e:((i+1:Nat):Int)=(i:Int)+1:=(by omega);rw[e];exact aE (by omega) (by omega)) ?_)))))))))
  refine ae JL JL (ag ?_)
  have st:=DW (L:=L) (v:=m) (M:=M) (i:=i) (q:=q) (c:=c) (b:=b) (by omega) (by omega) hM hq hc hb hMi hinv rfl
  refine fu (i+1) (_) (_) (_) ⟨rfl,rfl,rfl,rfl,rfl,rfl,rfl,rfl,trivial⟩ ⟨q3.trans q43,pN,by simpa using hM,by omega,st.1,st.2.1,st.2.2.1,st.2.2.2⟩ (by omega)
 ·refine aX (aA (aA (aV (ab (af ?_)))))
  obtain rfl:i=m.length:=by omega
  refine aa (ae JL JL (ae JL JL (aP JL JL (be Je v3) ?_)))
  obtain⟨a52,p52,q52⟩:=cE Je pM.wds (i:=m.length) (by omega) .i64
  refine ap JL JL JL (p52 _) (ak JL JL (ai Jf JL q52) (aQ JL JL (bG Jf Ji) ?_))
  refine ae JL JL (aj JL JL JL (dq) (ae JL JL (aj JL JL JL (dq) (ac JL JL (ag (ab (af (aa (ae JL JL (ae JL JL ?_))))))))))
  refine aP JL JL (be Je v3) (ae JL JL (aQ JL JL (cv Ji Jf) ?_))
  obtain⟨w64,p64,s64,pN,q64,c64⟩:=pM.setP Je (i:=m.length) (by omega) ((((((((M[m.length])).toUInt64)-(c)))-(b)))).toUInt32
  refine ap JL JL JL (p64 _) (aC JL JL (s64) ?_)
  have v64:=v3.away ha q64
  have tp:=Gk (q:=q) hL hM hc hb hMi hinv rfl
  have h63:=p3 ((((((((M[m.length])).toUInt64)-(c)))-(b)))) (s:=63) (by omega)
  simp only[Nat.reducePow] at h63
  have hNl:(M.set m.length ((((((((M[m.length])).toUInt64)-(c)))-(b)))).toUInt32).length=L.length:=by simpa using hM
  have hFl:=cq (M.set m.length ((((((((M[m.length])).toUInt64)-(c)))-(b)))).toUInt32)
  generalize M.set m.length ((((((((M[m.length])).toUInt64)-(c)))-(b)))).toUInt32=N at pN tp hNl hFl
  generalize hX:(((((((M[m.length])).toUInt64)-(c)))-(b)))=X at tp h63
  refine ag (ab (af (af (aa (ae JL JL (aj JL JL JL (de 63 (by omega)) (aj (v:=bC 0) JL JL JL (i8) (ag (ab ?_)))))))))
  refine ba JL (fun h67=>?_) (fun h67=>?_)
  ·rw[h67] at h63
   rw[←h63] at tp
   refine af (aa (ae JL JL (aQ JL JL (cv Ji Jf) (ac JL JL (ag (ab (au (ax (az JL JL ?_)))))))))
   exact⟨_,rfl,q.toUInt32,N,rfl,q3.trans q64,pN,hNl,by
    have e:q.toUInt32.toNat=q.toNat:=by rw[j2];omega
    have:=tp.1
    rw[e]
    simp at this
    omega,by
    have:=tp.1
    rw[Nat.add_mul,Nat.one_mul] at h2
    simp at this
    omega⟩
  ·have hs:X.toNat/9223372036854775808=1:=by
    rcases Nat.eq_zero_or_pos (X.toNat/9223372036854775808) with h|h
    ·exact absurd (DZ (h63.trans h)) h67
    ·have:=tp.2
     omega
   rw[hs,Nat.mul_one] at tp
   refine ar (ab (af (aa (ac JL JL (ag (ab (af (af (aa (ae JL JL (aP JL JL (be Je v64) (ae JL JL ?_))))))))))))
   refine ag (ab (av ?_))
   refine il (fun(i:Nat) (K:List UInt32) (d:UInt64)=>[(0,u),(1,v),(2,bC q),(7,bC d),(70,v),(71,I (m.length:Int)),(72,I (i:Int))]) (fun(i:Nat) (K:List UInt32) (d:UInt64) w'=>w.grownBy w' (some g)∧PW g pre K post u w'∧K.length=L.length∧i≤m.length∧K.drop i=N.drop i∧d.toNat≤1∧val (K.take i)+4294967296^i*d.toNat=val (N.take i)+val (m.take i)) (fun(i:Nat) (K:List UInt32) (d:UInt64)=>m.length-i) (0) (N) (0) ⟨rfl,rfl,rfl,rfl,rfl,rfl,rfl,trivial⟩ ⟨q3.trans q64,pN,hNl,by simp,rfl,by simp,by simp[val]⟩ ?_
   rintro i K d w17 ⟨q17,pK,hK,hi,hKi,hd,hinv2⟩
   refine af ?_
   have v17:=hv.away ha q17
   refine aa (aj JL JL JL (aS) (ag (ab (af ?_))))
   refine ba JL (fun h73=>?_) (fun h73=>?_)
   ·refine ar (ab (af (av (af (aa (ae JL JL ?_))))))
    obtain⟨a75,p75,q75⟩:=cE Je v17 (i:=i) (by omega) .i64
    refine ap JL JL JL (p75 _) (ak JL JL (ai Jf JL q75) (ac JL JL (ac JL JL (ag (ab (af (aa (ae JL JL ?_))))))))
    refine ae JL JL (ae JL JL ?_)
    obtain⟨a80,p80,q80⟩:=cE Je pK.wds (i:=i) (by omega) .i64
    refine ap JL JL JL (p80 _) (ak JL JL (ai Jf JL q80) (aQ JL JL (bG Jf Ji) ?_))
    refine ae JL JL (aQ JL JL (bG Jf Ji) (aj JL JL JL (dK) (aj JL JL JL (dK) (ac JL JL ?_))))
    refine ag (ab (af (aa (ae JL JL (ae JL JL (ae JL JL (aQ JL JL (cv Ji Jf) ?_)))))))
    obtain⟨w91,p91,s91,pK',q91,c91⟩:=pK.setP Je (i:=i) (by omega) ((((d)+(((((K[i])).toUInt64)+(((m[i])).toUInt64)))))).toUInt32
    refine ap JL JL JL (p91 _) (aC JL JL (s91) (ag (ab (aa (ae JL JL (aj JL JL JL (de 32 (by omega)) (ac JL JL (ag (aM ?_)))))))))
    refine ab (aa (aj (r:=I ((i+1:Nat):Int)) JL JL JL (by have e:((i+1:Nat):Int)=(i:Int)+1:=(by omega);rw[e];exact aE (by omega) (by omega)) ?_))
    refine ae JL JL (ag ?_)
    have st:=DX (L:=N) (v:=m) (M:=K) (i:=i) (c:=d) (by omega) (by omega) (by omega) hd hKi hinv2
    refine dE (i+1) (_) (_) ⟨rfl,rfl,rfl,rfl,rfl,rfl,rfl,trivial⟩ ⟨q17.trans q91,pK',by simpa using hK,by omega,st.1,st.2.1,st.2.2⟩ (by omega)
   ·refine aX (aA (aA (aV (ab (af ?_)))))
    obtain rfl:i=m.length:=by omega
    refine aa (ae JL JL (ae JL JL (aP JL JL (be Je v17) ?_)))
    obtain⟨a98,p98,q98⟩:=cE Je pK.wds (i:=m.length) (by omega) .i64
    refine ap JL JL JL (p98 _) (ak JL JL (ai Jf JL q98) (ae JL JL (aQ JL JL (cv Ji Jf) ?_)))
    refine aj JL JL JL (cu) ?_
    obtain⟨w103,p103,s103,pK',q103,c103⟩:=pK.setP Je (i:=m.length) (by omega) (K[m.length]'(by omega)+d.toUInt32)
    refine ap JL JL JL (p103 _) (aC JL JL (s103) (ag (ab (af (aa (ae JL JL (aj (v:=bC 1) JL JL JL (dq) (aQ JL JL (cv Ji Jf) ?_))))))))
    refine ac JL JL (ag (ab (au (az JL JL ?_))))
    have rb:=D1 (q:=q.toNat) hL hNl hK hd hKi hinv2 tp.1 h1
    exact⟨_,rfl,(q-1).toUInt32,_,rfl,q17.trans q103,pK',by simpa using hK,by
     have e:(q-1).toUInt32.toNat=q.toNat-1:=by
      have h0:=rb.1
      rw[j2,og]
      show(18446744073709551616-1+q.toNat)%18446744073709551616%_=_
      omega
     rw[e];exact rb.2.1,rb.2.2⟩
end Go.Rl
namespace Go.Rl
open Go.RowKit Go.Proofs
theorem iV:aw Tryz.prog 190:=⟨_,Tryz.func190,by kernel_rfl,rfl⟩
theorem BY {U:List UInt32} {i j V:Nat} (h:val U<4294967296^(i+1)*V) (hV:V<4294967296^j) (hi:i+j+1≤U.length):val (U.drop (i+j+1))=0:=by
 rw[dV U (i+j+1) hi] at h
 rcases Nat.eq_zero_or_pos (val (U.drop (i+j+1))) with h0|h0
 ·exact h0
 ·have a:4294967296^(i+1)*V≤4294967296^(i+1)*4294967296^j:=Nat.mul_le_mul_left _ (Nat.le_of_lt hV)
  rw[←Nat.pow_add,show i+1+j=i+j+1 by omega] at a
  have b:4294967296^(i+j+1)*1≤4294967296^(i+j+1)*val (U.drop (i+j+1)):=Nat.mul_le_mul_left _ h0
  omega
theorem D9 {U:List UInt32} {i n:Nat} (h:i+n≤U.length) (h0:val (U.drop (i+n))=0):val U=val (U.take i)+4294967296^i*val ((U.take (i+n)).drop i):=by
 have h1:=dV U (i+n) h
 rw[h0,Nat.mul_zero,Nat.add_zero] at h1
 have h2:=dV (U.take (i+n)) i (by simp;omega)
 rw[List.take_take,Nat.min_eq_left (by omega)] at h2
 rw[h1,h2]
theorem zf {U F:List UInt32} {i n:Nat} (h:i+n≤U.length) (h0:val (U.drop (i+n))=0):val (U.take i++F++U.drop (i+n))=val (U.take i)+4294967296^i*val F:=by
 rw[d8,d8,h0,List.length_take,Nat.min_eq_left (by omega)];simp
theorem iW {w:World} {l m:List UInt32} {v u:Value} (hv:bj l v w) (hu:bj m u w) (hl:l.length≤549755813888) (hml:m.length≤549755813888) (hm:0<val m):
 Calls Tryz.prog 190 #[v,u] w (bD fun r w'=>aG w w'∧∃q s,r=.tuple #[q,s,I 0]∧bj (lb (val l/val m)) q w'∧bj (lb (val l%val m)) s w'):=by
 refine enter (vs:=[v,u]) Tryz.func190 JL JL JL ?_
 have hll:=gi (cq l)
 have hmm:=gi (cq m)
 have hM0:0<(lb (val m)).length:=by
  rcases Nat.eq_zero_or_pos (lb (val m)).length with h|h
  ·have:=fR.1 h
   omega
  ·exact h
 refine af (aa (ac JL JL (ac JL JL (ac JL JL (ag (ab (af (aa (ae JL JL (am dx JL JL (dM hv) ?_))))))))))
 rintro v18 _ ⟨rfl,b18⟩
 refine ae JL JL (am dx JL JL (dM hu) ?_)
 rintro v20 _ ⟨rfl,b20⟩
 refine ac JL JL (ac JL JL (ag (ab (af (av (af (aa (ae JL JL (aP (r:=I ((lb (val m)).length:Int)) JL JL (be Je b20) ?_)))))))))
 refine aj JL JL JL (eF (by omega) bA) (ac JL JL (ag (ab (dI JL (af (aa (ae JL JL (ae JL JL (am pm JL JL ((by have:=po b18 b20;rw[bH,bH] at this;exact this)) ?_)))))))))
 rintro v28 w28 ⟨x28,rfl⟩
 refine aj JL JL JL (aS) (ac JL JL (ag (ab ?_)))
 refine ba JL (fun h25=>?_) (fun h25=>?_)
 ·have hlt:=lP.1 h25
  refine af (aa (ae JL JL (am kJ JL JL ((by have:=kK (b18.ext x28) (by omega);rw[bH] at this;exact this)) ?_)))
  rintro v31 w31 ⟨x31,b31⟩
  refine ac JL JL (ac JL JL (ac JL JL (ag (ab (au (aT (ax (ky JL JL JL JL ?_))))))))
  exact⟨_,rfl,(x28.trans x31),_,_,rfl,by rw[Nat.div_eq_of_lt hlt];exact bj.nil _,by rw[Nat.mod_eq_of_lt hlt];exact b31⟩
 ·have hge:val m≤val l:=Nat.le_of_not_lt fun h=>h25 (lP.2 h)
  have hlen:(lb (val m)).length≤(lb (val l)).length:=Nat.le_of_not_lt fun h=>by have:=u4 h;omega
  refine af (aa (ae JL JL (aP (r:=I ((lb (val m)).length:Int)) JL JL (be Je (b20.ext x28)) (aj JL JL JL (bA) ?_))))
  refine ac JL JL (ag (ab ?_))
  refine ba JL (fun h32=>?_) (fun h32=>?_)
  ·refine af (aa (ae JL JL (ae JL JL ?_)))
   have hM1:val m=((lb (val m))[0]'(by omega)).toNat:=by
    have e:=er (l:=lb (val m)) (i:=0) (by omega)
    rw[List.drop_zero,bH,List.drop_of_length_le (by omega)] at e
    simpa [val] using e
   obtain⟨a39,p39,q39⟩:=cE Je (b20.ext x28) (i:=0) (by omega) .i64
   refine ap JL JL JL (p39 _) (ak JL JL (ai Jf JL q39) (am wV JL JL ((wX (b18.ext x28) (by omega) (by rw[←hM1];exact hm))) ?_))
   rintro v41 w41 ⟨x41,q,s,rfl,bq,bs⟩
   refine ae JL JL (an JL JL bw (an JL JL bz (ac JL JL (ac JL JL (ag (ab (af (aa (ae JL JL (ae JL JL (ac JL JL ?_)))))))))))
   refine ac JL JL (ac JL JL (ag (ab (au (aT (ax (ky JL JL JL JL ?_)))))))
   rw[bH,←hM1] at bq bs
   exact⟨_,rfl,(x28.trans x41),_,_,rfl,bq,bs⟩
  ·refine ar (aM (ab (af ?_)))
   obtain⟨k,hk⟩:∃k,(lb (val m)).length=k+2:=⟨(lb (val m)).length-2,by omega⟩
   obtain⟨hs32,hVlen⟩:=DY hk
   have htop:(lb (val m))[(lb (val m)).length-1]'(by omega)=(lb (val m))[k+1]'(by omega):=by congr 1;omega
   refine aa (ae JL JL (ae JL JL (aP (r:=I ((lb (val m)).length:Int)) JL JL (be Je (b20.ext x28)) (aj (r:=I (((lb (val m)).length-1:Nat):Int)) JL JL JL (by have e:(((lb (val m)).length-1:Nat):Int)=((lb (val m)).length:Int)-1:=(by omega);rw[e];exact aY (by omega) (by omega)) ?_))))
   obtain⟨a50,p50,q50⟩:=cE Je (b20.ext x28) (i:=((lb (val m)).length-1:Nat)) (by omega) .i64
   refine ap JL JL JL (p50 _) (ak JL JL (ai Jf JL q50) (am BG JL JL (BJ) ?_))
   rintro v52 _ ⟨rfl,rfl⟩
   rw[htop]
   obtain⟨s,hs⟩:∃s,s=32-bl ((lb (val m))[k+1]'(by omega)).toNat:=⟨_,rfl⟩
   rw[←hs] at hs32 hVlen⊢
   refine ac JL JL (ag (ab (af (aa (ae JL JL (ae JL JL (am rl JL JL (rt (b18.ext x28) (by omega) hs32) ?_)))))))
   rintro v55 w55 ⟨x55,U,oU,hUl,hUv⟩
   refine ae JL JL (ae JL JL (am rl JL JL (rt (b20.ext (x28.trans x55)) (by omega) hs32) ?_))
   rintro v58 w58 ⟨x58,V,oV,hVl,hVv⟩
   refine am dx JL JL (ri oV.wds) ?_
   rintro v59 _ ⟨rfl,b59,ob59⟩
   rw[bH] at hUv hVv
   rw[hVv] at b59
   obtain⟨g,sp,hgb,hgo,pU⟩:=oU.pw (by omega)
   have hV0:0<val m*2^s:=Nat.mul_pos hm (Nat.pow_pos (by omega))
   have hgV:g<w55.heap.size:=pU.lt
   have off1:v59.ownBlock=none∨v59.ownBlock≠some g:=by
    rcases ob59 with h|h
    ·exact .inl h
    ·exact .inr (by rw[h];exact oV.off hgV)
   refine ac JL JL (ac JL JL (ag (ab (af (aa (ae JL JL (aP (r:=I ((lb (val l)).length:Int)) JL JL (be Je (b18.ext ((x28.trans x55).trans x58))) ?_)))))))
   refine ae JL JL (aP (r:=I ((lb (val m)).length:Int)) JL JL (be Je (b20.ext ((x28.trans x55).trans x58))) (aj (r:=I (((lb (val l)).length-(lb (val m)).length:Nat):Int)) JL JL JL (by have e:(((lb (val l)).length-(lb (val m)).length:Nat):Int)=((lb (val l)).length:Int)-((lb (val m)).length:Int):=(by omega);rw[e];exact aY (by omega) (by omega)) ?_))
   refine aj (r:=I (((((lb (val l)).length-(lb (val m)).length:Nat))+1:Nat):Int)) JL JL JL (by have e:(((((lb (val l)).length-(lb (val m)).length:Nat))+1:Nat):Int)=(((lb (val l)).length-(lb (val m)).length:Nat):Int)+1:=(by omega);rw[e];exact aE (by omega) (by omega)) ?_
   obtain⟨v66,w66,hr66,x66,o66,ob66⟩:=tK Je (w:=w58) w58.heap.size (n:=(lb (val l)).length-(lb (val m)).length+1) (by omega) (Nat.le_refl _)
   refine f9 JL JL JL hr66 (ac JL JL (ag (ab (af (af (aa (ae JL JL (aP (r:=I (((lb (val l)).length-(lb (val m)).length+1:Nat):Int)) JL JL ((by simpa using be Tryz.underlying53 o66.wds)) ?_))))))))
   refine aj JL JL JL (aY (by omega) (by omega)) (ac JL JL (ag (ab (av ?_))))
   refine il (fun(j:Nat) (X:List UInt32) (O:List UInt32)=>[(9,I (s:Int)),(10,v55),(11,v59),(12,v66),(13,I ((j:Int)-1))]) (fun(j:Nat) (X:List UInt32) (O:List UInt32) w'=>aG w w'∧PW g [] X sp v55 w'∧dN w58.heap.size O v66 w'∧bj (lb (val m*2^s)) v59 w'∧X.length=(lb (val l)).length+1∧O.length=(lb (val l)).length-(lb (val m)).length+1∧j≤O.length∧val l*2^s=val (O.drop j)*4294967296^j*(val m*2^s)+val X∧val X<4294967296^j*(val m*2^s)) (fun(j:Nat) (X:List UInt32) (O:List UInt32)=>j) ((lb (val l)).length-(lb (val m)).length+1) (U) (List.replicate ((lb (val l)).length-(lb (val m)).length+1) 0) ⟨rfl,rfl,rfl,rfl,rfl,trivial⟩ ⟨(((x28.trans x55).trans x58).trans x66),(pU.ext x58).ext x66,o66,b59.ext x66,hUl,by simp,by simp,by rw[List.drop_of_length_le (by simp)];simp[val,hUv],by
    have h1:=cq (lb (val l))
    have h2:=AF hm
    rw[bH] at h1
    rw[hUv,←Nat.mul_assoc]
    refine Nat.mul_lt_mul_of_pos_right ?_ (Nat.pow_pos (by omega))
    have h3:4294967296^(lb (val l)).length=4294967296^((lb (val l)).length-(lb (val m)).length+1)*4294967296^((lb (val m)).length-1):=by
     rw[←Nat.pow_add,show(lb (val l)).length-(lb (val m)).length+1+((lb (val m)).length-1)=(lb (val l)).length by omega]
    rw[h3] at h1
    exact Nat.lt_of_lt_of_le h1 (Nat.mul_le_mul_left _ h2)⟩ ?_
   rintro j X O w13 ⟨e13,pX,oO,f13,hXl,hOl,hj,hA,hX⟩
   refine af (af (aa (ae JL JL (aj JL JL JL (fQ) (ag (ab ?_))))))
   refine ba JL (fun h71=>?_) (fun h71=>?_)
   ·obtain⟨i,rfl⟩:∃i,j=i+1:=⟨j-1,by omega⟩
    have e:((i+1:Nat):Int)-1=(i:Int):=by omega
    rw[e]
    have hz:=BY hX (by have:=cq (lb (val m*2^s));rwa [bH,hVlen] at this) (j:=k+2) (by omega)
    have hXp:=D9 (U:=X) (i:=i) (n:=k+3) (by omega) hz
    refine ar (ab (af (av (af (aa (ae JL JL (ae JL JL (ae JL JL (ae JL JL (aP (r:=I ((k+2:Nat):Int)) JL JL ((by rw[←hVlen];exact be Je f13)) ?_))))))))))
    refine aj (r:=I ((i+(k+2:Nat):Nat):Int)) JL JL JL (by have e:((i+(k+2:Nat):Nat):Int)=(i:Int)+((k+2:Nat):Int):=(by omega);rw[e];exact aE (by omega) (by omega)) ?_
    refine aj (r:=I ((((i+(k+2:Nat):Nat))+1:Nat):Int)) JL JL JL (by have e:((((i+(k+2:Nat):Nat))+1:Nat):Int)=((i+(k+2:Nat):Nat):Int)+1:=(by omega);rw[e];exact aE (by omega) (by omega)) ?_
    obtain⟨v81,p81,pP⟩:=HK Je pX (lo:=i) (hi:=i+(k+2)+1) (by omega) (by omega) .i64 .i64
    refine cY JL JL JL JL JL (p81 _) ?_
    have hPl:((X.take (i+(k+2)+1)).drop i).length=k+3:=by simp;omega
    refine ac JL JL (ag (ab (aa (ae JL JL (ae JL JL (ae JL JL (ae JL JL (ae JL JL (ae JL JL (am BU JL JL (BW pP.wds f13 hVlen hPl (by omega) (u5 (by omega)) (by
 rw[bH]
 have h1:4294967296^i*val ((X.take (i+(k+3))).drop i)≤val X:=by rw[hXp];omega
 rw[Nat.pow_succ,Nat.mul_assoc] at hX
 exact Nat.lt_of_mul_lt_mul_left (Nat.lt_of_le_of_lt h1 hX))) ?_))))))))))
    rintro v88 w88 ⟨x88,q,rfl,hqB,hq1,hq2⟩
    refine am BV JL JL (BX (pP.ext x88) (f13.ext x88) off1 (by rw[hPl,hVlen]) (by omega) hqB hq1 hq2) ?_
    rintro v89 w89 ⟨x,F,rfl,q89,pF,hFl,hFv,hFr⟩
    have x89:=(e13.trans x88).of_new q89 (by have:=x28.size;omega)
    have o89:=(oO.ext x88).kept q89 (.inr (oO.off (by have:=x58.size;omega)))
    have p89:=pX.join (by omega) (by omega) (by rw[hFl,hPl];omega) pF
    have f89:=(f13.ext x88).away off1 q89
    obtain⟨g90,w90,p90,s90,o90,q90,hb90,c90,ob90⟩:=o89.setW Je (i:=i) (by omega) x
    refine ap JL JL JL (p90 _) (aC JL JL (s90) ?_)
    have x90:=x89.of_new q90 (by have:=x28.size;have:=x55.size;have:=x58.size;omega)
    have p90':=p89.kept q90 (fun h=>by have:=Option.some.inj h;have:=x58.size;omega)
    have f90:=f89.away (by
     rcases ob59 with h|h
     ·exact .inl h
     ·refine .inr fun he=>?_
      rw[h] at he
      have:=oV.lt g90 he
      omega) q90
    have hj':=zf (U:=X) (F:=F) (i:=i) (n:=k+3) (by omega) hz
    rw[bH] at hFv hFr
    have dr:=BM (A:=val l*2^s) (P:=4294967296^i) (Q:=val (O.drop (i+1))) (V:=val m*2^s) hXp (by have:=cq (X.take i);rwa [List.length_take,Nat.min_eq_left (by omega)] at this) (by rw[←Nat.pow_succ];exact hA) hFv hFr
    rw[←hj',←oh (by omega)] at dr
    refine ag (aM (ab (aa (ae JL JL (aj JL JL JL (aY (by omega) (by omega)) (ac JL JL (ag ?_)))))))
    refine dE (i) (_) (_) ⟨rfl,rfl,rfl,rfl,rfl,trivial⟩ ⟨x90,p90',o90,f90,by simp[hFl,hPl,hXl];omega,by simpa using hOl,by simp;omega,dr.1,dr.2⟩ (by omega)
   ·refine aX (aA (aA (aV (ab (af ?_)))))
    obtain rfl:j=0:=by omega
    rw[Nat.pow_zero,Nat.mul_one,List.drop_zero] at hA
    rw[Nat.pow_zero,Nat.one_mul] at hX
    have hs0:0<2^s:=Nat.pow_pos (by omega)
    have hQ:val l/val m=val O:=by
     rw[←Nat.mul_div_mul_right _ _ hs0,hA,Nat.mul_comm (val O),Nat.mul_add_div hV0,Nat.div_eq_of_lt hX,Nat.add_zero]
    have hR:val X/2^s=val l%val m:=by
     have e1:val X=val l*2^s%(val m*2^s):=by rw[hA,Nat.mul_comm (val O),Nat.mul_add_mod,Nat.mod_eq_of_lt hX]
     rw[e1,Nat.mul_mod_mul_right,Nat.mul_div_cancel _ hs0]
    refine aa (ae JL JL (ae JL JL (am BF JL JL (BK pX.wds (by omega) (by omega)) ?_)))
    rintro v94 w94 ⟨x94,r94,rfl,b94⟩
    refine ae JL JL (an JL JL bw (an JL JL bz (ac JL JL (ac JL JL (ag (ab (af (aa (ae JL JL (am dx JL JL (dM ((oO.ext x94).wds)) ?_))))))))))
    rintro v98 _ ⟨rfl,b98⟩
    refine ae JL JL (ac JL JL (ac JL JL (ac JL JL (ag (ab (au (ky JL JL JL JL ?_)))))))
    exact⟨_,rfl,(e13.trans x94),_,_,rfl,by rw[hQ];exact b98,by rw[←hR];exact b94⟩
end Go.Rl
namespace Go.Rl
open Go.RowKit Go.Proofs
theorem kO:aw Tryz.prog 185:=⟨_,Tryz.func185,by kernel_rfl,rfl⟩
theorem BZ:aw Tryz.prog 184:=⟨_,Tryz.func184,by kernel_rfl,rfl⟩
theorem B0:aw Tryz.prog 189:=⟨_,Tryz.func189,by kernel_rfl,rfl⟩
theorem j3 {n m:Nat} (h:n≤m):(lb n).length≤(lb m).length:=by
 rcases Nat.lt_or_ge (lb m).length (lb n).length with h1|h1
 ·have:=u4 h1;omega
 ·exact h1
theorem kP {w:World} {l m:List UInt32} {v u:Value} (hv:bj l v w) (hu:bj m u w) (hl:l.length≤274877906944) (hml:m.length≤274877906944) (hm:0<val m):
 Calls Tryz.prog 185 #[v,u] w (bD fun r w'=>aG w w'∧∃q s,r=.tuple #[q,s,I 0]∧bj (lb (val l/val m)) q w'∧bj (lb (val l%val m)) s w'):=by
 refine enter (vs:=[v,u]) Tryz.func185 JL JL JL ?_
 refine af (aa (ac JL JL (ac JL JL (ac JL JL (ag (ab (af (aa (ae JL JL (am ry JL JL (rB hv (by omega)) ?_))))))))))
 rintro v16 w16 ⟨x16,hcx⟩
 obtain⟨x,bx,rfl,hbx⟩:∃(x:UInt64) (bx:Bool),v16=.tuple #[bC x,B bx]∧(bx=true→x.toNat=val l):=by
  rcases hcx with⟨_,rfl⟩|⟨x,hx,rfl⟩
  ·exact⟨0,false,rfl,fun h=>by cases h⟩
  ·exact⟨x,true,rfl,fun _=>hx⟩
 refine ae JL JL (an JL JL bw (an JL JL (bz) (ac JL JL (ac JL JL (ag (ab (af (aa (ae JL JL (am ry JL JL (rB (hu.ext x16) (by omega)) ?_))))))))))
 rintro v21 w21 ⟨x21,hcy⟩
 obtain⟨y,bY,rfl,hby⟩:∃(y:UInt64) (bY:Bool),v21=.tuple #[bC y,B bY]∧(bY=true→y.toNat=val m):=by
  rcases hcy with⟨_,rfl⟩|⟨y,hy,rfl⟩
  ·exact⟨0,false,rfl,fun h=>by cases h⟩
  ·exact⟨y,true,rfl,fun _=>hy⟩
 refine ae JL JL (an JL JL bw (an JL JL (bz) ?_))
 have hy0:bY=true→¬y=0:=fun h h0=>by
  have:=hby h
  rw[h0] at this
  have e:(0:UInt64).toNat=0:=rfl
  omega
 refine ac JL JL (ac JL JL (ag (ab (af ?_))))
 refine eK (fun _:Unit=>[(0,v),(1,u),(7,bC x),(8,B bx),(9,bC y),(10,B bY)]) (fun _ w'=>w21=w') ?_ ?_
 ·refine af ?_
  cases bY
  ·refine aa (ae JL JL (ae JL JL (aq JL JL JL (aq JL JL JL (aH JL JL JL (ag (ab (dI JL (ar ?_)))))))))
   exact cr () ⟨rfl,rfl,rfl,rfl,rfl,rfl,trivial⟩ rfl
  ·refine aa (ae JL JL (ae JL JL (al JL (ae JL JL (al JL (aj (v:=bC 0) JL JL JL (eF (hy0 JL) i8) (aB JL JL JL (ag ?_))))))))
   refine ab (dI JL (ar ?_))
   exact cr () ⟨rfl,rfl,rfl,rfl,rfl,rfl,trivial⟩ rfl
 rintro⟨⟩ _ rfl
 refine ab (af ?_)
 refine eK (fun _:Unit=>[(0,v),(1,u)]) (fun _ w'=>w21=w') ?_ ?_
 ·refine af ?_
  rcases bx with _|_<;>rcases bY with _|_
  ·refine aa (ae JL JL (ae JL JL (aq JL JL JL (aH JL JL JL (ag (ab (dI JL (ar ?_))))))))
   exact cr () ⟨rfl,rfl,trivial⟩ rfl
  ·refine aa (ae JL JL (ae JL JL (aq JL JL JL (aH JL JL JL (ag (ab (dI JL (ar ?_))))))))
   exact cr () ⟨rfl,rfl,trivial⟩ rfl
  ·refine aa (ae JL JL (ae JL JL (al JL (ae JL JL (aB JL JL JL (ag (ab (dI JL (ar ?_)))))))))
   exact cr () ⟨rfl,rfl,trivial⟩ rfl
  ·have hx:=hbx rfl
   have hy:=hby rfl
   have hyn:=hy0 rfl
   refine aa (ae JL JL (ae JL JL (al JL (ae JL JL (aB JL JL JL (ag (ab (bJ JL (af (bm 10 [4,5] (by kernel_rfl) (by kernel_rfl) ?_))))))))))
   refine ao rfl rfl (ao rfl rfl (aO rfl rfl rfl (fun w _=>jX hyn) (bW (S:=bj (lb (val l/val m))) xe (bj.stable _) rfl (fun w hw=>by rintro _ rfl;exact bD.mono xf fun v w' h=>⟨h.1,by have:=h.2;rwa [UInt64.toNat_div,hx,hy] at this⟩) ?_)))
   refine ao rfl rfl (ao rfl rfl (aO rfl rfl rfl (fun w _=>jY hyn) (bW (S:=bj (lb (val l%val m))) xe (bj.stable _) rfl (fun w hw=>by rintro _ rfl;exact bD.mono xf fun v w' h=>⟨h.1,by have:=h.2;rwa [UInt64.toNat_mod,hx,hy] at this⟩) ?_)))
   refine dX JL JL (dX JL JL (bu ?_))
   intro wg6 xg6
   intro vg4 b4
   intro vg5 b5
   refine ac JL JL (ag (ab (au (ax (ky JL JL JL JL ?_)))))
   exact⟨_,rfl,((x16.trans x21).trans xg6),_,_,rfl,b4,b5⟩
 rintro⟨⟩ _ rfl
 refine ab (af (aa (ae JL JL (aP JL JL (be Je (hv.ext (x16.trans x21))) ?_))))
 obtain⟨v43,w43,hr43,x43,o43,ob43⟩:=tK Js (w:=w21) w21.heap.size (n:=l.length) (by omega) (Nat.le_refl _)
 refine f9 JL JL JL hr43 ?_
 obtain⟨v44,w44,hr44,x44,o44,ob44⟩:=iC Tryz.underlying53 (w:=w43) w43.heap.size [] (by simp) (Nat.le_refl _)
 refine aJ (vs:=[]) JL JL hr44 (ac JL JL (ac JL JL (ag (ab (af (af (aa (ae JL JL (am zc JL JL (zd (hv.ext (((x16.trans x21).trans x43).trans x44)) (by omega)) ?_)))))))))
 rintro v46 w46 ⟨x46,rfl⟩
 have hbl:bl (val l)≤32*l.length:=tO (by have:=cq l;rwa [show(4294967296:Nat)^l.length=2^(32*l.length) by rw[Nat.pow_mul]] at this)
 have hb0:val l/2^bl (val l)=0:=by
  rcases Nat.eq_zero_or_pos (val l) with h|h
  ·rw[h];simp
  ·exact Nat.div_eq_of_lt (ol h).2
 refine aj JL JL JL (aY (by omega) (by omega)) (ac JL JL (ag (ab (av ?_))))
 refine il (fun(j:Nat) (O:List UInt32) (vr:Value)=>[(0,v),(1,u),(11,v43),(12,vr),(13,I ((j:Int)-1))]) (fun(j:Nat) (O:List UInt32) (vr:Value) w'=>aG w w'∧dN w21.heap.size O v43 w'∧O.length=l.length∧bj (lb (val l/2^j%val m)) vr w'∧j≤bl (val l)∧val O=2^j*(val l/2^j/val m)) (fun(j:Nat) (O:List UInt32) (vr:Value)=>j) (bl (val l)) (List.replicate l.length 0) (v44) ⟨rfl,rfl,rfl,rfl,rfl,trivial⟩ ⟨((((x16.trans x21).trans x43).trans x44).trans x46),(o43.ext x44).ext x46,by simp,by rw[hb0,Nat.zero_mod];exact(o44.ext x46).wds,Nat.le_refl _,by rw[hb0];simp[pj]⟩ ?_
 rintro j O vr w9 ⟨e9,oq,hO,br,hj,hq⟩
 refine af (af (aa (ae JL JL (aj JL JL JL (fQ) (ag (ab ?_))))))
 refine ba JL (fun h49=>?_) (fun h49=>?_)
 ·obtain⟨i,rfl⟩:∃i,j=i+1:=⟨j-1,by omega⟩
  have e:((i+1:Nat):Int)-1=(i:Int):=by omega
  rw[e]
  have hib:i/32<l.length:=by omega
  have hrl:(lb (val l/2^(i+1)%val m)).length≤m.length:=Nat.le_trans (j3 (Nat.le_of_lt (Nat.mod_lt _ hm))) (gi (cq m))
  obtain⟨rd1,rd2,rd3⟩:=zb (N:=val l) (i:=i) hm
  refine ar (ab (af (av (af (aa (ae JL JL ?_))))))
  have hVl:=cq m
  have hxl:=Nat.mod_lt (val l/2^(i+1)) hm
  have h2l:∀b,b≤1→(lb (2*(val l/2^(i+1)%val m)+b)).length≤m.length+1:=fun b hb=>gi (by have e:(4294967296:Nat)^(m.length+1)=4294967296^m.length*4294967296:=Nat.pow_succ ..;rw[e];have:=IK m.length;omega)
  refine am BQ JL JL (BT (k:=1) br (by omega) (by omega)) ?_
  rintro v53 w53 ⟨x53,b53⟩
  refine ac JL JL (ag (ab (af (aa (ae JL JL (ae JL JL (ae JL JL (aj (r:=I ((i/32:Nat):Int)) JL JL JL (by have e:((i/32:Nat):Int)=(i:Int)/32:=(by omega);rw[e];exact nY (by omega) (by omega) (by omega)) ?_))))))))
  obtain⟨a58,p58,q58⟩:=cE Je (hv.ext (e9.trans x53)) (i:=(i/32:Nat)) (by omega) .i64
  refine ap JL JL JL (p58 _) (ak JL JL (ai Jf JL q58) (ae JL JL (aj (r:=I ((i%32:Nat):Int)) JL JL JL (by have e:((i%32:Nat):Int)=(i:Int)%32:=(by omega);rw[e];exact mE (by omega) (by omega)) ?_)))
  refine aj JL JL JL (cA ((i%32:Nat)) (by omega)) (aj (v:=bp 1) JL JL JL (eN) ?_)
  obtain⟨v64,w64,hr64,x64,o64,ob64⟩:=iC Tryz.underlying53 (w:=w53) w53.heap.size [((((((l[(i/32:Nat)]))>>>UInt32.ofNat ((i%32:Nat))))&&&(1)))] (by simp) (Nat.le_refl _)
  refine aJ (vs:=[(0,bp (((((((l[(i/32:Nat)]))>>>UInt32.ofNat ((i%32:Nat))))&&&(1)))))]) JL JL hr64 (am BO JL JL (BR (b53.ext x64) o64.wds (by rw[bH,Nat.pow_one,Nat.mul_comm];have:=h2l 0 (by omega);rw[Nat.add_zero] at this;omega) (by simp)) ?_)
  rintro v65 w65 ⟨x65,b65⟩
  rw[bH,bH,kI,HM hib,Nat.pow_one,Nat.mul_comm] at b65
  have x6:=(x53.trans x64).trans x65
  refine ac JL JL (ag (ab (af (aa (ae JL JL (ae JL JL (am tS JL JL (tW b65 (hu.ext (((e9.trans x53).trans x64).trans x65))) ?_)))))))
  rintro v68 _ ⟨rfl,rfl⟩
  refine aj JL JL JL (fQ) (ag (ab ?_))
  refine ba JL (fun h69=>?_) (fun h69=>?_)
  ·have hle:val m≤val (lb (2*(val l/2^(i+1)%val m)+val l/2^i%2)):=Nat.le_of_not_lt fun h=>by have:=lP.2 h;omega
   refine af (aa (ae JL JL (ae JL JL (am BP JL JL (BS b65 (hu.ext (((e9.trans x53).trans x64).trans x65)) (by have:=h2l (val l/2^i%2) (by omega);omega) hle) ?_))))
   rintro v73 w73 ⟨x73,d73,rfl,b73⟩
   rw[bH] at b73 hle
   obtain⟨rm,rq⟩:=rd2 hle
   rw[←rm] at b73
   have oq73:=(oq.ext x6).ext x73
   obtain⟨g85,_,p85,_,_,_,_,_,ob85⟩:=oq73.setW Js (i:=i/32) (by omega) (O[i/32]'(by omega)|||(1:UInt32)<<<UInt32.ofNat (i%32))
   refine ae JL JL (an JL JL (bw) (an JL JL bz (ac JL JL (ag (ab (bm 10 [0,1,11,12,13,84,85] (by kernel_rfl) (by kernel_rfl) ?_))))))
   refine ao JL JL (ao JL JL (aO (r:=I ((i/32:Nat):Int)) JL JL JL (fun w _=>by have e:((i/32:Nat):Int)=(i:Int)/32:=(by omega);rw[e];exact nY (by omega) (by omega) (by omega)) ?_))
   obtain⟨a79,p79,q79⟩:=cE Js oq73.wds (i:=(i/32:Nat)) (by omega) .i64
   refine ay JL JL JL (fun w _=>p79 w) (aD JL JL (fun w hw=>ai Jf JL (hw.cell_some q79)) (ao JL JL (aO (r:=I ((i%32:Nat):Int)) JL JL JL (fun w _=>by have e:((i%32:Nat):Int)=(i:Int)%32:=(by omega);rw[e];exact mE (by omega) (by omega)) ?_)))
   refine aO (u:=bp 1) JL JL JL (fun w _=>el ((i%32:Nat)) (by omega)) (aO JL JL JL (fun w _=>eO) (ay JL JL JL (fun w hw=>p85 w) ?_))
   refine bu ?_
   intro wg15 xg15
   rintro _ hq0
   obtain rfl:=Eq.symm hq0
   rintro _ hq1
   obtain rfl:=Eq.symm hq1
   rintro _ hq11
   obtain rfl:=Eq.symm hq11
   rintro _ hq12
   obtain rfl:=Eq.symm hq12
   rintro _ rfl
   rintro _ rfl
   rintro _ rfl
   obtain⟨g',w',p',s',o',q',hb',c',ob'⟩:=(oq73.ext xg15).setW Js (i:=i/32) (by omega) (O[i/32]'(by omega)|||(1:UInt32)<<<UInt32.ofNat (i%32))
   obtain rfl:g85=g':=Option.some.inj (ob85.symm.trans ob')
   refine aC JL JL (s') ?_
   have x15:=(((e9.trans x6).trans x73).trans xg15).of_new q' (by have:=x16.size;have:=x21.size;omega)
   have sb:=HN (a:=O) (i:=i) (by omega) hq
   have br':=((b73.ext xg15).kept q' (.inr (b73.off (by have:=oq.lt _ ob85;have:=x6.size;omega)))).wds
   refine ag (aM (ab (aa (ae JL JL (aj JL JL JL (aY (by omega) (by omega)) (ac JL JL (ag ?_)))))))
   refine dE (i) (_) (d73) ⟨rfl,rfl,rfl,rfl,rfl,trivial⟩ ⟨x15,o',by simpa using hO,br',by omega,by rw[sb,hq,rq,Nat.pow_succ,Nat.mul_assoc,Nat.mul_add,Nat.mul_one]⟩ (by omega)
  ·have hlt:2*(val l/2^(i+1)%val m)+val l/2^i%2<val m:=by
    rcases Nat.lt_or_ge (2*(val l/2^(i+1)%val m)+val l/2^i%2) (val m) with h|h
    ·exact h
    ·refine absurd ?_ h69
     rw[bH]
     have:¬pl (2*(val l/2^(i+1)%val m)+val l/2^i%2) (val m)<0:=fun h'=>by have:=lP.1 h';omega
     omega
   obtain⟨rm,rq⟩:=rd3 hlt
   rw[←rm] at b65
   refine ar (aM (ab (aa (ae JL JL (aj JL JL JL (aY (by omega) (by omega)) (ac JL JL (ag ?_)))))))
   refine dE (i) (O) (v65) ⟨rfl,rfl,rfl,rfl,rfl,trivial⟩ ⟨(((e9.trans x53).trans x64).trans x65),oq.ext x6,hO,b65,by omega,by rw[hq,rq,Nat.pow_succ,Nat.mul_assoc]⟩ (by omega)
 ·refine aX (aA (aA (aV (ab (af ?_)))))
  obtain rfl:j=0:=by omega
  rw[Nat.pow_zero,Nat.div_one,Nat.one_mul] at hq
  rw[Nat.pow_zero,Nat.div_one] at br
  refine aa (ae JL JL (am eA JL JL (fc oq.wds (by omega)) ?_))
  rintro v87 w87 ⟨x87,b87⟩
  refine ae JL JL (ac JL JL (ac JL JL (ac JL JL (ag (ab (au (ky JL JL JL JL ?_)))))))
  exact⟨_,rfl,(e9.trans x87),_,_,rfl,by rw[←hq];exact b87,br.ext x87⟩
theorem B1 {w:World} {l m:List UInt32} {v u:Value} (hv:bj l v w) (hu:bj m u w) (hl:l.length≤274877906944) (hml:m.length≤274877906944):
 Calls Tryz.prog 184 #[v,u] w (bD fun r w'=>aG w w'∧bj (lb (Nat.gcd (val l) (val m))) r w'):=by
 refine enter (vs:=[v,u]) Tryz.func184 JL JL JL ?_
 have hll:=gi (cq l)
 have hmm:=gi (cq m)
 refine af (aa (ac JL JL (ag (ab (af (aa (ae JL JL (am eA JL JL (fc hv (by omega)) ?_))))))))
 rintro v9 w9 ⟨x9,b9⟩
 refine ae JL JL (am eA JL JL (fc (hu.ext x9) (by omega)) ?_)
 rintro v11 w11 ⟨x11,b11⟩
 refine ac JL JL (ac JL JL (ag (ab (af (av ?_)))))
 refine iU (fun(a:Nat) (b:Nat) (va:Value) (vb:Value)=>[(0,va),(1,vb)]) (fun(a:Nat) (b:Nat) (va:Value) (vb:Value) w'=>aG w w'∧bj (lb a) va w'∧bj (lb b) vb w'∧Nat.gcd a b=Nat.gcd (val l) (val m)∧(lb a).length≤274877906944∧(lb b).length≤274877906944) (fun(a:Nat) (b:Nat) (va:Value) (vb:Value)=>b) (val l) (val m) (v9) (v11) ⟨rfl,rfl,trivial⟩ ⟨(x9.trans x11),b9.ext x11,b11,rfl,by omega,by omega⟩ ?_
 rintro a b va vb w2 ⟨e2,ha,hb,hg,hla,hlb⟩
 refine af (af (aa (ae JL JL (aP (r:=I ((lb b).length:Int)) JL JL (be Je hb) (aj JL JL JL (cg) ?_)))))
 refine ag (ab ?_)
 refine ba JL (fun h14=>?_) (fun h14=>?_)
 ·have hb0:0<b:=by
   rcases Nat.eq_zero_or_pos b with h|h
   ·subst h;simp[fD] at h14
   ·exact h
  refine ar (ab (av (af (aa (ae JL JL (ae JL JL (am kO JL JL (kP ha hb (by omega) (by omega) (by rw[bH];exact hb0)) ?_)))))))
  rintro v18 w18 ⟨x18,q,r,rfl,bq,br⟩
  rw[bH,bH] at br
  refine ae JL JL (an JL JL dZ (an JL JL (d5) (an JL JL d6 (ac JL JL (ac JL JL (ac JL JL (ag (ab ?_))))))))
  refine aa (ae JL JL (ae JL JL (ac JL JL (ac JL JL (ag (aM ?_))))))
  refine fu (b) (a%b) (vb) (r) ⟨rfl,rfl,trivial⟩ ⟨(e2.trans x18),hb.ext x18,br,by rw[←hg,Nat.gcd_comm b,←Nat.gcd_rec,Nat.gcd_comm],hlb,Nat.le_trans (j3 (Nat.le_of_lt (Nat.mod_lt a hb0))) hlb⟩ (Nat.mod_lt a hb0)
 ·refine aX (aA (aA (aV (ab (af (aa (ae JL JL (ac JL JL (ag (ab (au (az JL JL ?_))))))))))))
  exact⟨_,rfl,e2,by
   have hb0:b=0:=by
    refine fR.1 ?_
    omega
   rw[←hg,hb0,Nat.gcd_zero_right];exact ha⟩
theorem B7 {w:World} {l m:List UInt32} {v u:Value} (hv:bj l v w) (hu:bj m u w) (hl:l.length≤274877906944) (hml:m.length≤274877906944):
 Calls Tryz.prog 189 #[v,u] w (bD fun r w'=>aG w w'∧bj (lb (Nat.gcd (val l) (val m))) r w'):=by
 refine enter (vs:=[v,u]) Tryz.func189 JL JL JL ?_
 have hll:=gi (cq l)
 have hmm:=gi (cq m)
 refine af (aa (ac JL JL (ag (ab (af (aa (ae JL JL (am dx JL JL (dM hv) ?_))))))))
 rintro v16 _ ⟨rfl,b16⟩
 refine ae JL JL (am dx JL JL (dM hu) ?_)
 rintro v18 _ ⟨rfl,b18⟩
 refine ac JL JL (ac JL JL (ag (ab (af (av ?_)))))
 refine iU (fun(a:Nat) (b:Nat) (va:Value) (vb:Value)=>[(0,va),(1,vb)]) (fun(a:Nat) (b:Nat) (va:Value) (vb:Value) w'=>aG w w'∧bj (lb a) va w'∧bj (lb b) vb w'∧Nat.gcd a b=Nat.gcd (val l) (val m)∧(lb a).length≤274877906944∧(lb b).length≤274877906944) (fun(a:Nat) (b:Nat) (va:Value) (vb:Value)=>b) (val l) (val m) (v16) (v18) ⟨rfl,rfl,trivial⟩ ⟨aG.refl _,b16,b18,rfl,by omega,by omega⟩ ?_
 rintro a b va vb w2 ⟨e2,ha,hb,hg,hla,hlb⟩
 refine af (af (aa (ae JL JL (aP (r:=I ((lb b).length:Int)) JL JL (be Je hb) (aj JL JL JL (cg) ?_)))))
 refine ag (ab ?_)
 refine ba JL (fun h21=>?_) (fun h21=>?_)
 ·have hb0:0<b:=by
   rcases Nat.eq_zero_or_pos b with h|h
   ·subst h;simp[fD] at h21
   ·exact h
  refine ar (ab (av (af (aa (ae JL JL (ae JL JL (am iV JL JL (iW ha hb (by omega) (by omega) (by rw[bH];exact hb0)) ?_)))))))
  rintro v25 w25 ⟨x25,q,r,rfl,bq,br⟩
  rw[bH,bH] at br
  refine ae JL JL (an JL JL dZ (an JL JL (d5) (an JL JL d6 (ac JL JL (ac JL JL (ac JL JL (ag (ab ?_))))))))
  refine aa (ae JL JL (ae JL JL (ac JL JL (ac JL JL (ag (aM ?_))))))
  refine fu (b) (a%b) (vb) (r) ⟨rfl,rfl,trivial⟩ ⟨(e2.trans x25),hb.ext x25,br,by rw[←hg,Nat.gcd_comm b,←Nat.gcd_rec,Nat.gcd_comm],hlb,Nat.le_trans (j3 (Nat.le_of_lt (Nat.mod_lt a hb0))) hlb⟩ (Nat.mod_lt a hb0)
 ·refine aX (aA (aA (aV (ab (af (af (aa (ae JL JL (aP (r:=I ((lb b).length:Int)) JL JL (be Je hb) ?_)))))))))
  refine aj JL JL JL (bA) (ag (ab ?_))
  refine ba JL (fun h33=>?_) (fun h33=>?_)
  ·have hb0:b=0:=by
    refine fR.1 ?_
    omega
   refine af (aa (ae JL JL (am kJ JL JL (kK ha (by omega)) ?_)))
   rintro v35 w35 ⟨x35,b35⟩
   refine ac JL JL (ag (ab (au (ax (az JL JL ?_)))))
   exact⟨_,rfl,(e2.trans x35),by
    rw[bH] at b35
    rw[←hg,hb0,Nat.gcd_zero_right];exact b35⟩
  ·have hb0:0<b:=by
    rcases Nat.eq_zero_or_pos b with h|h
    ·subst h;simp[fD] at h33
    ·exact h
   have hb64:b<18446744073709551616:=by
    have:=cq (lb b)
    rw[bH] at this
    have h2:(4294967296:Nat)^(lb b).length≤4294967296^2:=Nat.pow_le_pow_right (by omega) (by omega)
    omega
   refine ar (ab (af (aa (ae JL JL (ae JL JL (am iV JL JL (iW ha hb (by omega) (by omega) (by rw[bH];exact hb0)) ?_))))))
   rintro v39 w39 ⟨x39,q,r,rfl,bq,br⟩
   rw[bH,bH] at br
   refine ae JL JL (an JL JL dZ (an JL JL (d5) (an JL JL d6 (ac JL JL (ac JL JL (ac JL JL (ag (ab ?_))))))))
   refine af (aa (ae JL JL (am rh JL JL (ro (hb.ext x39)) ?_)))
   rintro v45 _ ⟨rfl,hcx⟩
   obtain⟨x,hx,rfl⟩:∃x:UInt64,x.toNat=b∧v45=.tuple #[bC x,B true]:=by
    rw[bH] at hcx
    rcases hcx with⟨h,_⟩|h
    ·omega
    ·exact h
   refine ae JL JL (an JL JL bw (an JL JL bz (ac JL JL (ac JL JL (ag (ab (af (aa (ae JL JL (am rh JL JL (ro br) ?_))))))))))
   rintro v50 _ ⟨rfl,hcy⟩
   obtain⟨y,hy,rfl⟩:∃y:UInt64,y.toNat=a%b∧v50=.tuple #[bC y,B true]:=by
    have:=Nat.mod_lt a hb0
    rw[bH] at hcy
    rcases hcy with⟨h,_⟩|h
    ·omega
    ·exact h
   refine ae JL JL (an JL JL bw (an JL JL bz (ac JL JL (ac JL JL (ag (ab (af (av ?_))))))))
   refine dA (fun(x':UInt64) (y':UInt64)=>[(11,bC x'),(13,bC y')]) (fun(x':UInt64) (y':UInt64) w'=>aG w w'∧Nat.gcd x'.toNat y'.toNat=Nat.gcd (val l) (val m)) (fun(x':UInt64) (y':UInt64)=>y'.toNat) (x) (y) ⟨rfl,rfl,trivial⟩ ⟨(e2.trans x39),by rw[hx,hy,←hg,Nat.gcd_comm b,←Nat.gcd_rec,Nat.gcd_comm]⟩ ?_
   rintro x' y' w10 ⟨e10,hxy⟩
   refine af (af (aa (ae JL JL (aj (v:=bC 0) JL JL JL (dc) (ag (ab ?_))))))
   refine ba JL (fun h54=>?_) (fun h54=>?_)
   ·have hy0:0<y'.toNat:=ze.1 h54
    have hyn:y'≠0:=fun h=>by
     rw[h] at hy0
     exact absurd hy0 (by decide)
    refine ar (ab (av (bm 5 [11,58] (by kernel_rfl) (by kernel_rfl) ?_)))
    refine ao JL JL (ao JL JL (ao JL JL (aO JL JL JL (fun w _=>jY hyn) (dX JL JL (bu ?_)))))
    intro wg11 xg11
    rintro _ rfl
    rintro _ rfl
    refine ac JL JL (ag (aM ?_))
    refine cF (y') (x'%y') ⟨rfl,rfl,trivial⟩ ⟨(e10.trans xg11),by rw[UInt64.toNat_mod,←hxy,Nat.gcd_comm y'.toNat,←Nat.gcd_rec,Nat.gcd_comm]⟩ (by rw[UInt64.toNat_mod];exact Nat.mod_lt _ hy0)
   ·have hy0:y'.toNat=0:=by
     have:=mt ze.2 h54
     have e:(0:UInt64).toNat=0:=rfl
     omega
    refine aX (aA (aA (aV (ab (af (aa (ae JL JL (am wQ JL JL (wT) ?_))))))))
    rintro v60 w60 ⟨x60,b60⟩
    refine ac JL JL (ag (ab (au (az JL JL ?_))))
    exact⟨_,rfl,(e10.trans x60),by rw[←hxy,hy0,Nat.gcd_zero_right];exact b60⟩
end Go.Rl
namespace Go.Rl
def Ea:Nat→Nat→List UInt8
 |0,n=>[UInt8.ofNat n]
 |f+1,n=>if 128≤n then UInt8.ofNat (n%128+128)::Ea f (n/128) else[UInt8.ofNat n]
def uv (n:Nat):List UInt8:=Ea n n
theorem Eb:∀(f g n:Nat),n≤f→n≤g→Ea f n=Ea g n
 |0,0,n,_,_=>rfl
 |0,g+1,n,h,_=>by
  obtain rfl:n=0:=by omega
  simp[Ea]
 |f+1,0,n,_,h=>by
  obtain rfl:n=0:=by omega
  simp[Ea]
 |f+1,g+1,n,hf,hg=>by
  simp only[Ea]
  by_cases h:128≤n
  ·rw[if_pos h,if_pos h,Eb f g (n/128) (by omega) (by omega)]
  ·rw[if_neg h,if_neg h]
theorem pp {n:Nat} (h:128≤n):uv n=UInt8.ofNat (n%128+128)::uv (n/128):=by
 unfold uv
 cases n with
 |zero=>omega
 |succ m=>
  have e:Ea (m+1) (m+1)=if 128≤m+1 then UInt8.ofNat ((m+1)%128+128)::Ea m ((m+1)/128) else[UInt8.ofNat (m+1)]:=rfl
  rw[e,if_pos h,Eb m ((m+1)/128) ((m+1)/128) (by omega) (by omega)]
theorem jj {n:Nat} (h:n<128):uv n=[UInt8.ofNat n]:=by
 unfold uv
 cases n with
 |zero=>rfl
 |succ m=>
  have e:Ea (m+1) (m+1)=if 128≤m+1 then UInt8.ofNat ((m+1)%128+128)::Ea m ((m+1)/128) else[UInt8.ofNat (m+1)]:=rfl
  rw[e,if_neg (by omega)]
theorem Hg:∀(k n:Nat),n<128^(k+1)→(uv n).length≤k+1
 |0,n,h=>by rw[jj (by simpa using h)];simp
 |k+1,n,h=>by
  by_cases h1:128≤n
  ·rw[pp h1]
   have:=Hg k (n/128) (by rw[Nat.div_lt_iff_lt_mul (by omega)];rw[Nat.pow_succ] at h;exact h)
   simp;omega
  ·rw[jj (by omega)];simp
theorem dy {n:Nat} (h:n<18446744073709551616):(uv n).length≤10:=Hg 9 n (Nat.lt_of_lt_of_le h (by decide))
theorem vc (n:Nat):1≤(uv n).length:=by
 by_cases h:128≤n
 ·rw[pp h];simp
 ·rw[jj (by omega)];simp
theorem Ca (n:UInt64):n.toUInt8|||128=UInt8.ofNat (n.toNat%128+128):=by
 apply UInt8.toNat_inj.1
 have h:∀a:Nat,a<256→a|||128=a%128+128:=by decide+kernel
 rw[UInt8.toNat_or,UInt8.toNat_ofNat',UInt64.toNat_toUInt8]
 have:=h (n.toNat%256) (by omega)
 show n.toNat%256|||128=_
 rw[this];omega
theorem xh (n:UInt64):n.toUInt8=UInt8.ofNat n.toNat:=by
 apply UInt8.toNat_inj.1
 rw[UInt8.toNat_ofNat',UInt64.toNat_toUInt8]
theorem Ec (m:UInt64):(m%128+128).toUInt8=UInt8.ofNat (m.toNat%128+128):=by
 apply UInt8.toNat_inj.1
 rw[UInt64.toNat_toUInt8,UInt8.toNat_ofNat',UInt64.toNat_add,UInt64.toNat_mod]
 have e1:(128:UInt64).toNat=128:=rfl
 rw[e1];omega
theorem IM (n:UInt64):(n>>>UInt64.ofNat 7).toNat=n.toNat/128:=by
 rw[UInt64.toNat_shiftRight,Nat.shiftRight_eq_div_pow]
 rfl
end Go.Rl
namespace Go.Rl
def om:Nat→Nat→List UInt8→Option (Nat×List UInt8)
 |0,_,_=>none
 |_+1,_,[]=>none
 |f+1,k,c::l=>
  if (k=9∧1<c.toNat)∨(0<k∧c.toNat=0) then none
  else if c.toNat<128 then some (c.toNat*128^k,l)
  else(om f (k+1) l).map fun p=>(p.1+(c.toNat%128)*128^k,p.2)
def eh (l:List UInt8):Option (Nat×List UInt8):=om 10 0 l
theorem Ed (f k:Nat):om f k []=none:=by cases f<;>rfl
theorem rD (n:Nat) (h:n<256):(UInt8.ofNat n).toNat=n:=by rw[UInt8.toNat_ofNat'];omega
theorem AN:∀(f k n:Nat) (t:List UInt8),f+k=10→n<128^f→(k≤9→n*128^k<18446744073709551616)→0<f→(0<k→0<n)→
 om f k (uv n++t)=some (n*128^k,t)
 |0,_,_,_,_,_,_,h,_=>by omega
 |f+1,k,n,t,hfk,hn,h64,_,hk0=>by
  by_cases hb:128≤n
  ·rw[pp hb,List.cons_append]
   have e1:(UInt8.ofNat (n%128+128)).toNat=n%128+128:=rD _ (by omega)
   have hk9:k≠9:=fun hk=>by
    subst hk
    have:f=0:=by omega
    subst this
    simp at hn
    omega
   have hf:0<f:=by omega
   simp only[om,e1]
   rw[if_neg (by omega),if_neg (by omega)]
   have hlt:n/128<128^f:=by rw[Nat.div_lt_iff_lt_mul (by omega)];rw[Nat.pow_succ] at hn;exact hn
   have hp:128^(k+1)=128^k*128:=Nat.pow_succ ..
   have hm:n/128*128≤n:=Nat.div_mul_le_self n 128
   have hle:n/128*128^(k+1)≤n*128^k:=by
    rw[hp,Nat.mul_comm (128^k) 128,←Nat.mul_assoc]
    exact Nat.mul_le_mul_right _ hm
   rw[AN f (k+1) (n/128) t (by omega) hlt (fun _=>Nat.lt_of_le_of_lt hle (h64 (by omega))) hf (fun _=>by omega)]
   simp only[Option.map_some,Option.some.injEq,Prod.mk.injEq,and_true]
   have e2:(n%128+128)%128=n%128:=by omega
   rw[e2,hp,Nat.mul_comm (128^k) 128,←Nat.mul_assoc,←Nat.add_mul]
   congr 1
   omega
  ·rw[jj (by omega),List.cons_append]
   have e1:(UInt8.ofNat n).toNat=n:=rD _ (by omega)
   simp only[om,e1,List.nil_append]
   have hk9:¬(k=9∧1<n):=fun⟨hk,hn1⟩=>by
    subst hk
    have:=h64 (by omega)
    have e:(128:Nat)^9=9223372036854775808:=by decide
    rw[e] at this
    omega
   rw[if_neg (by intro h;rcases h with h|h;exact hk9 h;have:=hk0 h.1;omega),if_pos (by omega)]
theorem jk {n:Nat} (h:n<18446744073709551616) (t:List UInt8):eh (uv n++t)=some (n,t):=by
 have:=AN 10 0 n t rfl (Nat.lt_of_lt_of_le h (by decide)) (by simpa using h) (by omega) (by omega)
 simpa [eh] using this
theorem xi:∀(f k:Nat) (l t:List UInt8) (m:Nat),f+k=10→om f k l=some (m,t)→∃n,m=n*128^k∧l=uv n++t∧(0<k→0<n)∧n*128^k<18446744073709551616
 |0,_,_,_,_,_,h=>by cases h
 |f+1,k,[],_,_,_,h=>by cases h
 |f+1,k,c::l,t,m,hfk,h=>by
  simp only[om] at h
  have hc:=c.toNat_lt
  split at h
  ·cases h
  ·rename_i hno
   split at h
   ·rename_i hlt
    simp only[Option.some.injEq,Prod.mk.injEq] at h
    refine⟨c.toNat,h.1.symm,?_,fun hk=>by omega,?_⟩
    ·rw[jj hlt,←h.2]
     simp
    ·have hk:k≤9:=by omega
     rcases Nat.lt_or_ge k 9 with h9|h9
     ·have:c.toNat*128^k≤127*128^8:=Nat.mul_le_mul (by omega) (Nat.pow_le_pow_right (by omega) (by omega))
      have e:127*128^8<18446744073709551616:=by decide
      omega
     ·have:k=9:=by omega
      subst this
      have e:(128:Nat)^9=9223372036854775808:=by decide
      rw[e];omega
   ·rename_i hge
    cases hr:om f (k+1) l with
    |none=>rw[hr] at h;cases h
    |some p=>
     rw[hr] at h
     simp only[Option.map_some,Option.some.injEq,Prod.mk.injEq] at h
     obtain⟨n,h1,h2,h3,h4⟩:=xi f (k+1) l p.2 p.1 (by omega) (by rw[hr])
     have hn:0<n:=h3 (by omega)
     have hp:128^(k+1)=128*128^k:=by rw[Nat.pow_succ,Nat.mul_comm]
     have hdiv:(n*128+c.toNat%128)/128=n:=by omega
     have hmod:(n*128+c.toNat%128)%128+128=c.toNat:=by omega
     refine⟨n*128+c.toNat%128,?_,?_,fun _=>by omega,?_⟩
     ·rw[←h.1,h1,hp,Nat.add_mul,←Nat.mul_assoc]
     ·rw[pp (by omega),hdiv,hmod,List.cons_append,←h.2,←h2]
      simp
     ·have hk:k+1≤9:=by
       rcases Nat.lt_or_ge f 1 with hf|hf
       ·have:f=0:=by omega
        subst this
        cases hr
       ·omega
      have hb:n*128^(k+1)=n*128*128^k:=by rw[hp,←Nat.mul_assoc]
      rw[hb] at h4
      have hdvd:18446744073709551616=128^k*(18446744073709551616/128^k):=by
       have:k=0∨k=1∨k=2∨k=3∨k=4∨k=5∨k=6∨k=7∨k=8:=by omega
       rcases this with rfl|rfl|rfl|rfl|rfl|rfl|rfl|rfl|rfl<;>decide
      have hq:18446744073709551616/128^k=128*(18446744073709551616/128^k/128):=by
       have:k=0∨k=1∨k=2∨k=3∨k=4∨k=5∨k=6∨k=7∨k=8:=by omega
       rcases this with rfl|rfl|rfl|rfl|rfl|rfl|rfl|rfl|rfl<;>decide
      have hpos:0<128^k:=Nat.pow_pos (by omega)
      rw[hdvd,Nat.mul_comm] at h4
      have h5:n*128<18446744073709551616/128^k:=Nat.lt_of_mul_lt_mul_left h4
      rw[hdvd,Nat.mul_comm]
      exact Nat.mul_lt_mul_of_pos_left (by omega) hpos
theorem fS {l t:List UInt8} {n:Nat} (h:eh l=some (n,t)):l=uv n++t∧n<18446744073709551616:=by
 obtain⟨m,h1,h2,_,h4⟩:=xi 10 0 l t n rfl h
 simp at h1 h4
 subst h1
 exact⟨h2,h4⟩
theorem Gn {acc:UInt64} {c:UInt8} {k:Nat} (ha:acc.toNat<128^k) (hk:k≤9) (h9:k=9→c.toNat%128≤1):
 (acc|||((c&&&127).toUInt64<<<UInt64.ofNat (7*k))).toNat=acc.toNat+(c.toNat%128)*128^k:=by
 have hpow:2^(7*k)=128^k:=by rw[Nat.pow_mul]
 have e1:(c&&&127).toUInt64.toNat=c.toNat%128:=by
  rw[UInt8.toNat_toUInt64,UInt8.toNat_and]
  exact Nat.and_two_pow_sub_one_eq_mod c.toNat 7
 have hlt:(c.toNat%128)*128^k<18446744073709551616:=by
  rcases Nat.lt_or_ge k 9 with h|h
  ·have h1:(c.toNat%128)*128^k≤127*128^8:=Nat.mul_le_mul (by omega) (Nat.pow_le_pow_right (by omega) (by omega))
   have e:127*128^8<18446744073709551616:=by decide
   omega
  ·have h':k=9:=by omega
   subst h'
   have:=h9 rfl
   have e:(128:Nat)^9=9223372036854775808:=by decide
   rw[e];omega
 have e2:((c&&&127).toUInt64<<<UInt64.ofNat (7*k)).toNat=(c.toNat%128)<<<(7*k):=by
  rw[UInt64.toNat_shiftLeft,e1]
  have:(UInt64.ofNat (7*k)).toNat%64=7*k:=by rw[UInt64.toNat_ofNat'];omega
  rw[this,Nat.shiftLeft_eq,hpow]
  exact Nat.mod_eq_of_lt hlt
 rw[UInt64.toNat_or,e2,Nat.or_comm,←Nat.shiftLeft_add_eq_or_of_lt (by rw[hpow];exact ha),Nat.shiftLeft_eq,hpow]
 omega
end Go.Rl
namespace Go.Rl
def Ee (n:Int):Nat:=if 0≤n then(2*n).toNat else(-2*n-1).toNat
theorem lQ (n:Int):(UInt64.ofInt n).toNat=(n%18446744073709551616).toNat:=by
 have h2:(2:Int)^64=18446744073709551616:=by decide
 rw[UInt64.ofInt,h2,UInt64.toNat_ofNat'];omega
theorem Ef {n:Int} (h1: -9223372036854775808≤n) (h2:n≤9223372036854775807):
 ((UInt64.ofInt n<<<UInt64.ofNat 1)^^^UInt64.ofInt (n/2^63)).toNat=Ee n:=by
 have e0:(2:Int)^63=9223372036854775808:=by decide
 have es:(UInt64.ofInt n<<<UInt64.ofNat 1).toNat=(UInt64.ofInt n).toNat*2%18446744073709551616:=by
  rw[UInt64.toNat_shiftLeft,Nat.shiftLeft_eq];rfl
 rw[lQ] at es
 unfold Ee
 by_cases hn:0≤n
 ·have hq:n/2^63=0:=by rw[e0];omega
  have hz:UInt64.ofInt (n/2^63)=0:=by rw[hq];rfl
  rw[hz,UInt64.xor_zero,es,if_pos hn];omega
 ·have hq:n/2^63= -1:=by rw[e0];omega
  have hz:UInt64.ofInt (n/2^63)= -1:=by rw[hq];rfl
  rw[hz,if_neg hn]
  have hx:∀a:UInt64,a^^^(-1)= ~~~a:=fun a=>by
   apply UInt64.toBitVec_inj.1
   rw[UInt64.toBitVec_xor,UInt64.toBitVec_not]
   have:(-1:UInt64).toBitVec=BitVec.allOnes 64:=by decide
   rw[this,BitVec.xor_allOnes]
  rw[hx,UInt64.toNat_not,es]
  have:UInt64.size=18446744073709551616:=rfl
  omega
theorem xj {n:Int} (hn:0≤n) (h2:n≤9223372036854775807):(2*UInt64.ofInt n).toNat=Ee n:=by
 rw[UInt64.toNat_mul,lQ]
 unfold Ee
 rw[if_pos hn]
 have:(2:UInt64).toNat=2:=rfl
 rw[this];omega
theorem xk {n:Int} (h1: -9223372036854775808≤n) (hn:n<0):(2*UInt64.ofInt (-(n+1))+1).toNat=Ee n:=by
 rw[UInt64.toNat_add,UInt64.toNat_mul,lQ]
 unfold Ee
 rw[if_neg (by omega)]
 have e2:(2:UInt64).toNat=2:=rfl
 have e1:(1:UInt64).toNat=1:=rfl
 rw[e1,e2];omega
theorem Eg {n:Int} (h1: -9223372036854775808≤n) (h2:n≤9223372036854775807):Ee n<18446744073709551616:=by
 unfold Ee;split<;>omega
end Go.Rl
namespace Go.Rl
open Go.RowKit Go.Proofs
theorem jl:aw Tryz.prog 87:=⟨_,Tryz.func87,by kernel_rfl,rfl⟩
theorem kQ:aw Tryz.prog 133:=⟨_,Tryz.func133,by kernel_rfl,rfl⟩
theorem iM:aw Tryz.prog 98:=⟨_,Tryz.func98,by kernel_rfl,rfl⟩
theorem rE:aw Tryz.prog 124:=⟨_,Tryz.func124,by kernel_rfl,rfl⟩
theorem bZ:aw Tryz.prog 59:=⟨_,Tryz.func59,by kernel_rfl,rfl⟩
theorem fT:aw Tryz.prog 64:=⟨_,Tryz.func64,by kernel_rfl,rfl⟩
theorem jm {w:World} {l:List UInt8} {v:Value} (hv:ci l v w) (hl:l.length≤140737488355328):
 Calls Tryz.prog 87 #[v] w (bD fun r w'=>aG w w'∧cf w.heap.size l r w'):=by
 obtain⟨A,n,c,rfl,hnc,hcm,hll,hc,hnone⟩:=id hv
 refine enter (vs:=[.slice A n c]) Tryz.func87 JL JL JL ?_
 refine af (aa (ac JL JL (ag (ab (af (af (aa (ae JL JL ?_))))))))
 refine aj JL JL JL (uT Jl) ?_
 refine ag (ab ?_)
 refine eZ JL (fun h=>?_) (fun h=>?_)
 ·refine af (aa (ac JL JL (ag (ab (au (ax ?_))))))
  refine az JL JL ?_
  have hA:A=none:=by simpa using h
  have:=hnone hA
  have hnil:l=[]:=List.eq_nil_of_length_eq_zero (by simp at hll;omega)
  subst hnil
  exact⟨_,rfl,aG.refl _,cf.nil _ _⟩
 ·refine ar (ab (af (aa ?_)))
  obtain⟨r5,w5,hr5,hx5,ho5,hb5⟩:=dL (w:=w) w.heap.size [] (by simp) (Nat.le_refl _)
  refine aJ JL JL hr5 ?_
  refine ae JL JL ?_
  obtain⟨r7,w7,hr7,ho7,hg7⟩:=cH (ty:=28) ho5 (hv.ext hx5) (by simpa using hl) hx5.size
  refine aW JL JL hr7 ?_
  refine ac JL JL (ag (ab (au ?_)))
  refine az JL JL ?_
  exact⟨_,rfl,hx5.of_grew hg7 ho5.ge,ho7⟩
theorem kR {w:World} {base:Nat} {l:List UInt8} {v:Value} {n:UInt64} (hv:cf base l v w) (hl:l.length≤70368744177664) (hbase:base≤w.heap.size):
 Calls Tryz.prog 133 #[v,bC n] w (bD fun r w'=>cf base (l++uv n.toNat) r w'∧fM w w' v r):=by
 refine enter (vs:=[v,bC n]) Tryz.func133 JL JL JL ?_
 refine af (aa (ac JL JL (ag (ab (af (av ?_))))))
 refine ck (α:=Value×UInt64×List UInt8) (fun x=>[(0,x.1),(1,bC x.2.1)]) (fun x w'=>cf base x.2.2 x.1 w'∧fM w w' v x.1∧x.2.2++uv x.2.1.toNat=l++uv n.toNat) (fun x=>x.2.1.toNat) (v,n,l) ⟨rfl,rfl,trivial⟩ ⟨hv,fM.of_ext (aG.refl w) (.inl JL),rfl⟩ ?_
 rintro⟨b,m,done⟩ w1 ⟨hb,hg,he⟩
 dsimp only at hb hg he
 have hdl:done.length≤l.length+10:=by
  have:=congrArg List.length he
  simp only[List.length_append] at this
  have:=dy (n:=n.toNat) n.toNat_lt
  omega
 have hb1:base≤w1.heap.size:=Nat.le_trans hbase hg.grown.size
 refine af (af (aa (ae JL JL ?_)))
 refine aj (v:=bC 128) JL JL JL (gb) ?_
 refine ag (ab ?_)
 refine ba JL (fun h=>?_) (fun h=>?_)
 ·have h':128≤m.toNat:=by simpa [UInt64.le_iff_toNat_le] using h
  refine ar (ab (af (av (aa (ae JL JL (ae JL JL ?_))))))
  refine aQ JL JL (j0 Ji Jm) ?_
  refine aj (v:=U8 128) JL JL JL (Gb) ?_
  obtain⟨r2,w2,hr2,hx2,ho2,_⟩:=dL (w:=w1) w1.heap.size [m.toUInt8|||128] (by simp) (Nat.le_refl _)
  refine aJ JL JL hr2 ?_
  obtain⟨r3,w3,hr3,ho3,hg3⟩:=cH (ty:=28) (hb.ext hx2) ho2.bts (by simp;omega) (Nat.le_trans hb1 hx2.size)
  refine aW JL JL hr3 ?_
  refine ac JL JL (ag (aM (ab (aa (ae JL JL ?_)))))
  refine aj JL JL JL (de 7 (by omega)) ?_
  refine ac JL JL (ag ?_)
  refine bN (r3,m>>>UInt64.ofNat 7,done++[m.toUInt8|||128]) ⟨rfl,rfl,trivial⟩ ⟨ho3,hg.trans (fM.before hx2 hg3),?_⟩ ?_
  ·show done++[m.toUInt8|||128]++uv (m>>>UInt64.ofNat 7).toNat=_
   rw[←he,pp h',Ca,IM];simp
  ·show(m>>>UInt64.ofNat 7).toNat<m.toNat
   rw[IM];omega
 ·have h':m.toNat<128:=by
   have:¬(128≤m.toNat):=fun hh=>h (by show(128:UInt64)≤m;rw[UInt64.le_iff_toNat_le];exact hh)
   omega
  refine aX (aA (aA (aV (ab (af (aa (ae JL JL (ae JL JL ?_))))))))
  refine aQ JL JL (j0 Ji Jm) ?_
  obtain⟨r2,w2,hr2,hx2,ho2,_⟩:=dL (w:=w1) w1.heap.size [m.toUInt8] (by simp) (Nat.le_refl _)
  refine aJ JL JL hr2 ?_
  obtain⟨r3,w3,hr3,ho3,hg3⟩:=cH (ty:=28) (hb.ext hx2) ho2.bts (by simp;omega) (Nat.le_trans hb1 hx2.size)
  refine aW JL JL hr3 ?_
  refine ac JL JL (ag (ab (au ?_)))
  refine az JL JL ?_
  refine⟨_,rfl,?_,hg.trans (fM.before hx2 hg3)⟩
  rw[←he,jj h',←xh]
  exact ho3
theorem iN {w:World} {l:List UInt8} {v:Value} {n:UInt64} (hv:ci l v w) (hl:l.length≤70368744177664):
 Calls Tryz.prog 98 #[v,bC n] w (bD fun r w'=>aG w w'∧cf w.heap.size (l++uv n.toNat) r w'):=by
 refine enter (vs:=[v,bC n]) Tryz.func98 JL JL JL ?_
 refine af (aa (ac JL JL (ag (ab (af (aa (ae JL JL ?_)))))))
 refine am jl JL JL (jm hv (by omega)) ?_
 rintro r1 w1 ⟨hx1,ho1⟩
 refine ae JL JL ?_
 refine am kQ JL JL (kR ho1 hl hx1.size) ?_
 rintro r2 w2 ⟨ho2,hg2⟩
 refine ac JL JL (ag (ab (au ?_)))
 refine az JL JL ?_
 exact⟨_,rfl,hx1.of_grew hg2 ho1.ge,ho2⟩
theorem rF {w:World} {l:List UInt8} {v:Value} {n:Int} (hv:ci l v w) (hl:l.length≤70368744177664) (h1: -9223372036854775808≤n) (h2:n≤9223372036854775807):
 Calls Tryz.prog 124 #[v,I n] w (bD fun r w'=>aG w w'∧cf w.heap.size (l++uv (Ee n)) r w'):=by
 refine enter (vs:=[v,I n]) Tryz.func124 JL JL JL ?_
 refine af (aa (ac JL JL (ag (ab (af (aa (ae JL JL ?_)))))))
 refine am jl JL JL (jm hv (by omega)) ?_
 rintro r1 w1 ⟨hx1,ho1⟩
 refine ae JL JL ?_
 refine aQ JL JL (qy Jh Ji) ?_
 refine aj JL JL JL (fo 1 (by omega)) ?_
 refine ae JL JL ?_
 refine aj JL JL JL (Ga 63 (by omega)) ?_
 refine aQ JL JL (qy Jh Ji) ?_
 refine aj JL JL JL (Bx) ?_
 refine am kQ JL JL (kR ho1 hl hx1.size) ?_
 rintro r2 w2 ⟨ho2,hg2⟩
 refine ac JL JL (ag (ab (au ?_)))
 refine az JL JL ?_
 rw[Ef h1 h2] at ho2
 exact⟨_,rfl,hx1.of_grew hg2 ho1.ge,ho2⟩
theorem cc {w:World} {l:List UInt8} {v:Value} {n:UInt64} (hv:ci l v w) (hl:l.length≤70368744177664):
 Calls Tryz.prog 59 #[v,bC n] w (bD fun r w'=>aG w w'∧cf w.heap.size (l++uv n.toNat) r w'):=by
 refine enter (vs:=[v,bC n]) Tryz.func59 JL JL JL ?_
 refine af (aa (ac JL JL (ag (ab (af (aa ?_))))))
 obtain⟨r0,w0,hr0,hx0,ho0,_⟩:=dL (w:=w) w.heap.size [] (by simp) (Nat.le_refl _)
 refine aJ JL JL hr0 ?_
 refine ae JL JL ?_
 obtain⟨r1,w1,hr1,ho1,hg1⟩:=cH (ty:=28) ho0 (hv.ext hx0) (by simp;omega) hx0.size
 refine aW JL JL hr1 ?_
 have hx1:aG w w1:=hx0.of_grew hg1 ho0.ge
 refine ac JL JL (ag (ab (af (av ?_))))
 refine ck (α:=Value×UInt64×List UInt8) (fun x=>[(5,x.1),(1,bC x.2.1)]) (fun x w'=>cf w.heap.size x.2.2 x.1 w'∧aG w w'∧x.2.2++uv x.2.1.toNat=l++uv n.toNat) (fun x=>x.2.1.toNat) (r1,n,l) ⟨rfl,rfl,trivial⟩ ⟨ho1,hx1,rfl⟩ ?_
 rintro⟨b,m,done⟩ w2 ⟨hb,hx2,he⟩
 dsimp only at hb hx2 he
 have hdl:done.length≤l.length+10:=by
  have:=congrArg List.length he
  simp only[List.length_append] at this
  have:=dy (n:=n.toNat) n.toNat_lt
  omega
 refine af (af (aa (ae JL JL ?_)))
 refine aj (v:=bC 128) JL JL JL (gb) ?_
 refine ag (ab ?_)
 refine ba JL (fun h=>?_) (fun h=>?_)
 ·have h':128≤m.toNat:=by simpa [UInt64.le_iff_toNat_le] using h
  refine ar (ab (av (af (aa (ae JL JL (ae JL JL ?_))))))
  refine aj (v:=bC 128) JL JL JL (jY (by decide)) ?_
  refine aj (v:=bC 128) JL JL JL (dK) ?_
  refine aQ JL JL (j0 Ji Jm) ?_
  obtain⟨r3,w3,hr3,hx3,ho3,_⟩:=dL (w:=w2) w2.heap.size [(m%128+128).toUInt8] (by simp) (Nat.le_refl _)
  refine aJ JL JL hr3 ?_
  obtain⟨r4,w4,hr4,ho4,hg4⟩:=cH (ty:=28) (hb.ext hx3) ho3.bts (by simp;omega) (Nat.le_trans hx2.size hx3.size)
  refine aW JL JL hr4 ?_
  refine ac JL JL (ag (ab (aa (ae JL JL ?_))))
  refine aj (v:=bC 128) JL JL JL (jX (by decide)) ?_
  refine ac JL JL (ag (aM ?_))
  have hm:(m/128).toNat=m.toNat/128:=by rw[UInt64.toNat_div];rfl
  refine bN (r4,m/128,done++[(m%128+128).toUInt8]) ⟨rfl,rfl,trivial⟩ ⟨ho4,(hx2.trans hx3).of_grew hg4 hb.ge,?_⟩ ?_
  ·show done++[(m%128+128).toUInt8]++uv (m/128).toNat=_
   rw[←he,pp h',hm,Ec];simp
  ·show(m/128).toNat<m.toNat
   rw[hm];omega
 ·have h':m.toNat<128:=by
   have:¬(128≤m.toNat):=fun hh=>h (by show(128:UInt64)≤m;rw[UInt64.le_iff_toNat_le];exact hh)
   omega
  refine aX (aA (aA (aV (ab (af (aa (ae JL JL (ae JL JL ?_))))))))
  refine aQ JL JL (j0 Ji Jm) ?_
  obtain⟨r3,w3,hr3,hx3,ho3,_⟩:=dL (w:=w2) w2.heap.size [m.toUInt8] (by simp) (Nat.le_refl _)
  refine aJ JL JL hr3 ?_
  obtain⟨r4,w4,hr4,ho4,hg4⟩:=cH (ty:=28) (hb.ext hx3) ho3.bts (by simp;omega) (Nat.le_trans hx2.size hx3.size)
  refine aW JL JL hr4 ?_
  refine ac JL JL (ag (ab (au ?_)))
  refine az JL JL ?_
  refine⟨_,rfl,(hx2.trans hx3).of_grew hg4 hb.ge,?_⟩
  rw[←he,jj h',←xh]
  exact ho4
theorem fU {w:World} {l:List UInt8} {v:Value} {n:Int} (hv:ci l v w) (hl:l.length≤70368744177664) (h1: -9223372036854775808≤n) (h2:n≤9223372036854775807):
 Calls Tryz.prog 64 #[v,I n] w (bD fun r w'=>aG w w'∧cf w.heap.size (l++uv (Ee n)) r w'):=by
 refine enter (vs:=[v,I n]) Tryz.func64 JL JL JL ?_
 refine af (aa (ac JL JL (ag (ab (af (af (aa (ae JL JL ?_))))))))
 refine aj JL JL JL (fQ) ?_
 refine ag (ab ?_)
 refine ba JL (fun h=>?_) (fun h=>?_)
 ·refine af (aa (ae JL JL (ae JL JL ?_)))
  refine aQ JL JL (qy Jh Ji) ?_
  refine aj (u:=bC 2) JL JL JL (gU) ?_
  refine am bZ JL JL (cc hv hl) ?_
  rintro r3 w3 ⟨hx3,ho3⟩
  refine ac JL JL (ag (ab (au (ax ?_))))
  refine az JL JL ?_
  rw[xj h h2] at ho3
  exact⟨_,rfl,hx3,ho3⟩
 ·refine ar (ab (af (aa (ae JL JL (ae JL JL ?_)))))
  refine aj JL JL JL (aE (by omega) (by omega)) ?_
  refine bB JL JL (uP (by omega) (by omega)) ?_
  refine aQ JL JL (qy Jh Ji) ?_
  refine aj (u:=bC 2) JL JL JL (gU) ?_
  refine aj (v:=bC 1) JL JL JL (dK) ?_
  refine am bZ JL JL (cc hv hl) ?_
  rintro r3 w3 ⟨hx3,ho3⟩
  refine ac JL JL (ag (ab (au ?_)))
  refine az JL JL ?_
  rw[xk h1 (by omega)] at ho3
  exact⟨_,rfl,hx3,ho3⟩
end Go.Rl
namespace Go.Rl
open Go.RowKit Go.Proofs
theorem xm:aw Tryz.prog 109:=⟨_,Tryz.func109,by kernel_rfl,rfl⟩
theorem gX:aw Tryz.prog 175:=⟨_,Tryz.func175,by kernel_rfl,rfl⟩
theorem gY:aw Tryz.prog 145:=⟨_,Tryz.func145,by kernel_rfl,rfl⟩
theorem jK:aw Tryz.prog 144:=⟨_,Tryz.func144,by kernel_rfl,rfl⟩
theorem gj:aw Tryz.prog 111:=⟨_,Tryz.func111,by kernel_rfl,rfl⟩
theorem xn:(Tryz.prog.info? 227).map (·.zero)=some (some (.agg #[.slice none 0 0,.bool false])):=by kernel_rfl
theorem cV:(Tryz.prog.info? 28).map (·.size)=some 1:=by kernel_rfl
theorem gZ:(Tryz.prog.info? 4).map (·.size)=some 1:=by kernel_rfl
def zh (A:Option Addr) (g:Nat):Prop:=∀ad,A=some ad→ad.block<g
theorem zh.none (g:Nat):zh none g:=fun _ h=>by cases h
theorem xo {A:Option Addr} {n c:Nat} {lo hi mx:Option Value} {r:Value} {w w':World} (hrun:(Instr.sliceAt 28 (.slice A n c) lo hi mx).run Tryz.prog w=.ok r w'):∃A' n' c',r=.slice A' n' c'∧∀g,zh A g→zh A' g:=by
 simp only[Instr.sliceAt,Instr.slice,Sem.run_bind,run_underlying Tryz.underlying28,Result.andThen_ok] at hrun
 cases hb:(Instr.sliceBounds true n c lo hi mx).run Tryz.prog w with
 |halt x w1=>rw[hb] at hrun;simp[Result.andThen] at hrun
 |ok p w1=>
  obtain⟨l,h,m⟩:=p
  rw[hb] at hrun
  simp only[Result.andThen_ok,dP fa] at hrun
  simp at hrun
  obtain⟨rfl,rfl⟩:=hrun
  refine⟨_,_,_,rfl,fun g hg=>?_⟩
  split
  ·exact hg
  ·intro ad had
   cases A with
   |none=>cases had
   |some a0=>
    obtain rfl:=Option.some.inj had
    show(a0.add _).block<g
    rw[i6]
    exact hg a0 rfl
def aU (g:Nat) (st:Option (List UInt8)) (w:World):Prop:=
 ∃A n c,w.heap[g]? =some (.cells #[.slice A n c,.bool st.isNone] 227 (0,0))∧ci (st.getD []) (.slice A n c) w∧zh A g
theorem aU.ext {g:Nat} {st:Option (List UInt8)} {w w':World} (h:aU g st w) (hx:aG w w'):aU g st w':=by
 obtain⟨A,n,c,h1,h2,h3⟩:=h
 exact⟨A,n,c,hx.heap_some h1,h2.ext hx,h3⟩
theorem tX (A:Option Addr) (n c:Nat) (b:Bool) (l:List UInt8):∀(j:Nat) (u:Value),u∈l.map U8→(#[.slice A n c,.bool b]:Array Value)[j]? ≠some u:=by
 intro j u hu
 obtain⟨x,_,rfl⟩:=List.mem_map.1 hu
 match j with
 |0=>simp[U8]
 |1=>simp[U8]
 |j+2=>simp
theorem ci.reader {l:List UInt8} {v:Value} {g:Nat} {st:Option (List UInt8)} {w w':World} (h:ci l v w) (hr:aU g st w) (hw:w.grownBy w' (some g)):ci l v w':=by
 obtain⟨A,n,c,h1,_⟩:=hr
 exact Sl.keep h h1 (tX A n c _ l) hw
section
variable {w:World} {g:Nat} {l:List UInt8}
theorem dF {w':World} {row:Option Nat} (h:aG w w'):w.grownBy w' row:=⟨h.os,h.tape,h.output,h.size,fun _ hi _=>h.heap hi⟩
theorem kS (w:World) (row:Option Nat):w.grownBy w row:=World.grownBy.refl w row
theorem xp {v:Value} (hv:ci l v w) (hl:l.length≤140737488355328):
 Calls Tryz.prog 109 #[v] w (bD fun r w'=>aG w w'∧∃g,w.heap.size≤g∧r=.pointer (some ⟨g,0,none⟩)∧aU g (some l) w'):=by
 refine enter (vs:=[v]) Tryz.func109 JL JL JL ?_
 refine af (aa (ac JL JL (ag (ab (af (aa (ae JL JL ?_)))))))
 refine am jl JL JL (jm hv hl) ?_
 rintro r1 w1 ⟨hx1,ho1⟩
 obtain⟨A,n,c,rfl,_⟩:=id ho1.bts
 refine bI JL JL (r:=.agg #[.slice A n c,.bool false]) (by simp[Instr.build,run_underlying Tryz.underlying227,re xn,dP cV,dP gZ,Instr.fill,Value.cells]) ?_
 refine cx JL JL m2 ?_
 refine ac JL JL (ag (ab (au ?_)))
 refine az JL JL ?_
 exact⟨_,rfl,hx1.trans (aG.new _ _),w1.heap.size,hx1.size,rfl,A,n,c,heap_alloc_new _ _,ho1.bts.ext (aG.new _ _),fun ad had=>ho1.elim fun _ h=>(World.ownsRow.lt h ad.block (by rw[had];rfl)).2⟩
theorem g0 {st:Option (List UInt8)} (hr:aU g st w):
 Calls Tryz.prog 145 #[.pointer (some ⟨g,0,none⟩)] w (bD fun r w'=>r=I 5∧aU g none w'∧w.grownBy w' (some g)):=by
 obtain⟨A,n,c,h1,_⟩:=hr
 refine enter (vs:=[.pointer (some ⟨g,0,none⟩)]) Tryz.func145 JL JL JL ?_
 refine af (aa (ac JL JL (ag (ab (af (aa (ae JL JL (ae JL JL ?_))))))))
 refine aZ JL JL ?_
 refine ah JL JL (ce Jz JL cV (by omega)) ?_
 refine aC JL JL (dY cV JL h1 (by simp)) ?_
 refine aZ JL JL ?_
 refine ah JL JL (ce Jz JL gZ (by omega)) ?_
 have h2:=jf h1 0 (.slice none 0 0)
 refine aC JL JL (dY (i:=1) gZ JL h2 (by simp)) ?_
 have h3:=jf h2 1 (.bool true)
 refine ag (ab (af (aa (ac JL JL (ag (ab (au ?_)))))))
 refine az JL JL ?_
 exact⟨_,rfl,rfl,⟨none,0,0,h3,ci.nil _,zh.none g⟩,(bb w g 0 _).trans (bb _ g 1 _)⟩
theorem p4 {n:UInt64} (hr:aU g none w):
 Calls Tryz.prog 175 #[.pointer (some ⟨g,0,none⟩),bC n] w (bD fun r w'=>r=.tuple #[.slice none 0 0,B false]∧w'=w):=by
 obtain⟨A,m,c,h1,_⟩:=hr
 refine enter (vs:=[.pointer (some ⟨g,0,none⟩),bC n]) Tryz.func175 JL JL JL ?_
 refine af (aa (ac JL JL (ac JL JL (ag (ab (af (af (aa (ae JL JL ?_)))))))))
 refine aZ JL JL ?_
 refine ah JL JL (ce Jz JL gZ (by omega)) ?_
 refine ak JL JL (ai Jq JL (gV (i:=1) h1 JL)) ?_
 refine ae JL JL ?_
 refine aq JL JL JL ?_
 refine aq JL JL JL ?_
 refine aq JL JL JL ?_
 refine aq JL JL JL ?_
 refine aq JL JL JL ?_
 refine aq JL JL JL ?_
 refine aq JL JL JL ?_
 refine aq JL JL JL ?_
 refine aB JL JL JL ?_
 refine ag (ab ?_)
 refine bJ JL ?_
 refine af (aa (ac JL JL (ac JL JL (ag (ab (au (ax ?_)))))))
 refine aR JL JL JL ?_
 exact⟨_,rfl,rfl,rfl⟩
theorem AO (h:l.length≤9223372036854775807):(UInt64.ofNat l.length).toNat=l.length:=by rw[UInt64.toNat_ofNat'];omega
theorem AP {n:UInt64} (hr:aU g (some l) w) (hn:l.length<n.toNat):
 Calls Tryz.prog 175 #[.pointer (some ⟨g,0,none⟩),bC n] w (bD fun r w'=>r=.tuple #[.slice none 0 0,B false]∧w'=w):=by
 obtain⟨A,m,c,h1,h2,_⟩:=hr
 have h2':ci l (.slice A m c) w:=h2
 refine enter (vs:=[.pointer (some ⟨g,0,none⟩),bC n]) Tryz.func175 JL JL JL ?_
 refine af (aa (ac JL JL (ac JL JL (ag (ab (af (af (aa (ae JL JL ?_)))))))))
 refine aZ JL JL ?_
 refine ah JL JL (ce Jz JL gZ (by omega)) ?_
 refine ak JL JL (ai Jq JL (gV (i:=1) h1 JL)) ?_
 refine ae JL JL ?_
 refine al JL (ae JL JL (al JL (ae JL JL ?_)))
 refine al JL (aZ JL JL ?_)
 refine al JL (ah JL JL (ce Jz JL cV (by omega)) ?_)
 refine al JL (ak JL JL (ai Jl JL (gV (i:=0) h1 JL)) ?_)
 refine al JL (aP JL JL (bP h2') ?_)
 refine al JL (aQ JL JL (cZ Jh Ji) ?_)
 refine al JL (aj JL JL JL (dv (by show _<n;rw[UInt64.lt_iff_toNat_lt,AO h2'.len];exact hn) dc) ?_)
 refine aH JL JL JL ?_
 refine ag (ab ?_)
 refine bJ JL ?_
 refine af (aa (ac JL JL (ac JL JL (ag (ab (au (ax ?_)))))))
 refine aR JL JL JL ?_
 exact⟨_,rfl,rfl,rfl⟩
theorem rG {n:UInt64} (hr:aU g (some l) w) (hn:n.toNat≤l.length):
 Calls Tryz.prog 175 #[.pointer (some ⟨g,0,none⟩),bC n] w
  (bD fun r w'=>∃b,r=.tuple #[b,B true]∧ci (l.take n.toNat) b w'∧aU g (some (l.drop n.toNat)) w'∧w.grownBy w' (some g)):=by
 obtain⟨A,m,c,h1,h2,h4⟩:=hr
 have h2':ci l (.slice A m c) w:=h2
 refine enter (vs:=[.pointer (some ⟨g,0,none⟩),bC n]) Tryz.func175 JL JL JL ?_
 refine af (aa (ac JL JL (ac JL JL (ag (ab (af (af (aa (ae JL JL ?_)))))))))
 refine aZ JL JL ?_
 refine ah JL JL (ce Jz JL gZ (by omega)) ?_
 refine ak JL JL (ai Jq JL (gV (i:=1) h1 JL)) ?_
 refine ae JL JL ?_
 refine al JL (ae JL JL (al JL (ae JL JL ?_)))
 refine al JL (aZ JL JL ?_)
 refine al JL (ah JL JL (ce Jz JL cV (by omega)) ?_)
 refine al JL (ak JL JL (ai Jl JL (gV (i:=0) h1 JL)) ?_)
 refine al JL (aP JL JL (bP h2') ?_)
 refine al JL (aQ JL JL (cZ Jh Ji) ?_)
 refine al JL (aj JL JL JL (eF (by show ¬_<n;rw[UInt64.lt_iff_toNat_lt,AO h2'.len];omega) dc) ?_)
 refine aH JL JL JL ?_
 refine ag (ab ?_)
 refine dI JL ?_
 refine ar (ab (af (aa (ae JL JL ?_))))
 refine aZ JL JL ?_
 refine ah JL JL (ce Jz JL cV (by omega)) ?_
 refine ak JL JL (ai Jl JL (gV (i:=0) h1 JL)) ?_
 refine ae JL JL ?_
 obtain⟨b,hb,hb2⟩:=jg h2' hn .u64
 refine cY (b:=some (bC n)) JL JL JL JL JL (hb _) ?_
 refine ac JL JL (ag (ab (af (aa (ae JL JL (ae JL JL ?_))))))
 refine aZ JL JL ?_
 refine ah JL JL (ce Jz JL cV (by omega)) ?_
 refine ak JL JL (ai Jl JL (gV (i:=0) h1 JL)) ?_
 refine ae JL JL ?_
 obtain⟨r,hr,hr2⟩:=iB h2' hn .u64
 refine cY (a:=some (bC n)) JL JL JL JL JL (hr _) ?_
 refine aZ JL JL ?_
 refine ah JL JL (ce Jz JL cV (by omega)) ?_
 obtain⟨A',m',c',rfl,h5⟩:=xo (hr w)
 refine aC JL JL (dY (i:=0) cV JL h1 (by simp)) ?_
 have h3:=jf h1 0 (.slice A' m' c')
 have hg:=bb w g 0 (.slice A' m' c')
 refine ag (ab (af (aa (ae JL JL (ac JL JL (ac JL JL (ag (ab (au ?_)))))))))
 refine aR JL JL JL ?_
 have hrd:aU g (some l) w:=⟨A,m,c,h1,h2,h4⟩
 exact⟨_,rfl,b,rfl,hb2.reader hrd hg,⟨A',m',c',h3,hr2.reader hrd hg,h5 g h4⟩,hg⟩
def UvR (g:Nat) (w:World) (o:Option (Nat×List UInt8)) (r:Value) (w':World):Prop:=
 w.grownBy w' (some g)∧match o with
  |some (n,t)=>r=.tuple #[bC (UInt64.ofNat n),B true]∧aU g (some t) w'
  |none=>r=.tuple #[bC 0,B false]∧∃l',aU g (some l') w'
theorem m9 (hr:aU g (some l) w):
 Calls Tryz.prog 144 #[.pointer (some ⟨g,0,none⟩)] w (bD (UvR g w (eh l))):=by
 refine enter (vs:=[.pointer (some ⟨g,0,none⟩)]) Tryz.func144 JL JL JL ?_
 refine af (aa (ac JL JL (ac JL JL (ag (ab (af (af (aa (ac JL JL (ag (ab (av ?_))))))))))))
 refine ck (α:=Nat×List UInt8×UInt64) (fun x=>[(0,.pointer (some ⟨g,0,none⟩)),(4,I ((7*x.1:Nat):Int)),(2,bC x.2.2)])
  (fun x w'=>aU g (some x.2.1) w'∧w.grownBy w' (some g)∧x.1≤9∧x.2.2.toNat<128^x.1∧eh l=(om (10-x.1) x.1 x.2.1).map fun p=>(p.1+x.2.2.toNat,p.2)) (fun x=>10-x.1)
  (0,l,0) ⟨rfl,rfl,rfl,trivial⟩ ⟨hr,kS _ _,by simp,by simp,by simp[eh]⟩ ?_
 rintro⟨k,rest,acc⟩ w1 ⟨hr1,hg1,hk,hacc,hrd⟩
 dsimp only at hr1 hg1 hk hacc hrd
 have hfuel:10-k=(9-k)+1:=by omega
 rw[hfuel] at hrd
 refine af (af (aa (ae JL JL ?_)))
 refine aj JL JL JL (dv (by omega) aS) ?_
 refine ag (ab ?_)
 refine bJ JL ?_
 refine ar (ab (af (av (af (aa (ae JL JL ?_))))))
 cases rest with
 |nil=>
  refine am (vs:=[_,bC 1]) gX JL JL (AP hr1 (by decide)) ?_
  rintro r2 w2 ⟨rfl,rfl⟩
  refine ae JL JL ?_
  refine an JL JL (bw) ?_
  refine an JL JL (bz) ?_
  refine ac JL JL (ac JL JL (ag (ab (af (af (aa (ae JL JL ?_)))))))
  refine bB JL JL (bF) ?_
  refine ag (ab ?_)
  refine bJ JL ?_
  refine af (aa (ac JL JL (ac JL JL (ag (ab (au (ax (aT (ax (ax (aT (ax ?_))))))))))))
  refine aR JL JL JL ?_
  refine⟨_,rfl,hg1,?_⟩
  rw[hrd,Ed]
  exact⟨rfl,[],hr1⟩
 |cons c t=>
  refine am (vs:=[_,bC 1]) gX JL JL (rG hr1 (by simp)) ?_
  rintro r2 w2 ⟨b,rfl,hb,hr2,hg2⟩
  have hb':ci [c] b w2:=hb
  have hr2':aU g (some t) w2:=hr2
  have hg:=hg1.trans hg2
  refine ae JL JL ?_
  refine an JL JL (bw) ?_
  refine an JL JL (bz) ?_
  refine ac JL JL (ac JL JL (ag (ab (af (af (aa (ae JL JL ?_)))))))
  refine bB JL JL (bF) ?_
  refine ag (ab ?_)
  refine dI JL ?_
  refine ar (ab (af (aa (ae JL JL ?_))))
  obtain⟨ad,had,hcell⟩:=gc hb' (i:=0) (by simp) .i64
  refine ap JL JL JL (had _) ?_
  refine ak JL JL (G9 hcell) ?_
  refine ac JL JL (ag (ab (af (af ?_))))
  refine eK (fun _:Unit=>[(0,.pointer (some ⟨g,0,none⟩)),(4,I ((7*k:Nat):Int)),(2,bC acc),(7,U8 c),(35,B (decide ((k=9∧1<c.toNat)∨(0<k∧c.toNat=0))))]) (fun _ w'=>w'=w2) ?_ ?_
  ·refine aa (ae JL JL ?_)
   have c1:c>1↔1<c.toNat:=by show 1<c↔_;rw[UInt8.lt_iff_toNat_lt];rfl
   have c0:c=0↔c.toNat=0:=by rw[←UInt8.toNat_inj];rfl
   by_cases h9:k=9
   ·refine aj JL JL JL (dv (by omega) bA) ?_
    refine ae JL JL (al JL (ae JL JL ?_))
    by_cases hc1:1<c.toNat
    ·refine al JL (aj (v:=U8 1) JL JL JL (dv (c1.2 hc1) qX) ?_)
     refine aB JL JL JL (ae JL JL ?_)
     refine aq JL JL JL (aq JL JL JL (aq JL JL JL ?_))
     refine ik JL JL JL (ik JL JL JL (aq JL JL JL ?_))
     refine aB JL JL JL (ag ?_)
     exact cr () ⟨rfl,rfl,rfl,rfl,by rw[decide_eq_true (Or.inl ⟨h9,hc1⟩)];rfl,trivial⟩ rfl
    ·refine al JL (aj (v:=U8 1) JL JL JL (eF (fun h=>hc1 (c1.1 h)) qX) ?_)
     refine aB JL JL JL (ae JL JL ?_)
     refine al JL (ae JL JL (al JL (aj JL JL JL (dv (by omega) cg) ?_)))
     refine al JL (ae JL JL (al JL (ae JL JL ?_)))
     refine al JL (aj (v:=U8 0) JL JL JL iy ?_)
     refine al JL (aB JL JL JL ?_)
     refine aH JL JL JL (ag ?_)
     refine cr () ⟨rfl,rfl,rfl,rfl,?_,trivial⟩ rfl
     show some (B (decide (c=0)))=_
     rw[decide_eq_decide.2 (show c=0↔((k=9∧1<c.toNat)∨(0<k∧c.toNat=0)) from by rw[c0];omega)]
   ·refine aj JL JL JL (eF (by omega) bA) ?_
    refine ae JL JL (aq JL JL JL (aq JL JL JL ?_))
    refine aH JL JL JL (ae JL JL ?_)
    by_cases hk0:0<k
    ·refine al JL (ae JL JL (al JL (aj JL JL JL (dv (by omega) cg) ?_)))
     refine al JL (ae JL JL (al JL (ae JL JL ?_)))
     refine al JL (aj (v:=U8 0) JL JL JL iy ?_)
     refine al JL (aB JL JL JL ?_)
     refine aH JL JL JL (ag ?_)
     refine cr () ⟨rfl,rfl,rfl,rfl,?_,trivial⟩ rfl
     show some (B (decide (c=0)))=_
     rw[decide_eq_decide.2 (show c=0↔((k=9∧1<c.toNat)∨(0<k∧c.toNat=0)) from by rw[c0];omega)]
    ·refine al JL (ae JL JL (al JL (aj JL JL JL (eF (by omega) cg) ?_)))
     refine al JL (ae JL JL (aq JL JL JL (aq JL JL JL ?_)))
     refine al JL (aH JL JL JL ?_)
     refine aH JL JL JL (ag ?_)
     refine cr () ⟨rfl,rfl,rfl,rfl,?_,trivial⟩ rfl
     show some (B false)=_
     rw[decide_eq_false (by omega)]
  ·rintro _ w3 rfl
   refine ab (ba JL (fun h=>?_) (fun h=>?_))
   ·refine af (aa (ac JL JL (ac JL JL (ag (ab (au (ax (aT (ax (ax (aT (ax ?_))))))))))))
    refine aR JL JL JL ?_
    refine⟨_,rfl,hg,?_⟩
    rw[hrd]
    simp only[om]
    rw[if_pos h]
    exact⟨rfl,t,hr2'⟩
   ·have hor:=Gn (acc:=acc) (c:=c) hacc hk (fun h9=>by
     have:¬1<c.toNat:=fun hc=>h (Or.inl ⟨h9,hc⟩)
     omega)
    refine ar (ab (af (aa (ae JL JL (ae JL JL ?_)))))
    refine aj (v:=U8 127) JL JL JL (DA) ?_
    refine aQ JL JL (DC Jm Ji) ?_
    refine ae JL JL ?_
    refine aj JL JL JL (fo (7*k) (by omega)) ?_
    refine aj JL JL JL (iA) ?_
    refine ac JL JL (ag (ab (af (aa (ae JL JL ?_)))))
    refine aj (v:=U8 128) JL JL JL (jV) ?_
    refine ag (ab ?_)
    refine ba JL (fun h2=>?_) (fun h2=>?_)
    ·have h2':c.toNat<128:=by rw[UInt8.lt_iff_toNat_lt] at h2;exact h2
     refine af (aa (ae JL JL (ac JL JL (ac JL JL (ag (ab (au (aT (ax (ax (aT (ax ?_))))))))))))
     refine aR JL JL JL ?_
     refine⟨_,rfl,hg,?_⟩
     rw[hrd]
     simp only[om]
     rw[if_neg h,if_pos h2']
     refine⟨?_,hr2'⟩
     rw[Nat.mod_eq_of_lt h2'] at hor
     have:UInt64.ofNat (c.toNat*128^k+acc.toNat)=acc|||((c&&&127).toUInt64<<<UInt64.ofNat (7*k)):=by
      rw[Nat.add_comm,←hor,UInt64.ofNat_toNat]
     rw[this];rfl
    ·have h2':¬c.toNat<128:=fun hc=>h2 (by rw[UInt8.lt_iff_toNat_lt];exact hc)
     have hk9:k≠9:=fun hk9=>h (Or.inl ⟨hk9,by omega⟩)
     refine ar (aM (ab (aa (ae JL JL ?_))))
     refine aj JL JL JL (aE (by omega) (by omega)) ?_
     refine ac JL JL (ag ?_)
     refine bN (k+1,t,acc|||((c&&&127).toUInt64<<<UInt64.ofNat (7*k))) ⟨rfl,?_,rfl,trivial⟩ ⟨hr2',hg,by show k+1≤9;omega,?_,?_⟩ (by show 10-(k+1)<10-k;omega)
     ·show some (I (((7*k:Nat):Int)+7))=some (I ((7*(k+1):Nat):Int))
      rw[show((7*k:Nat):Int)+7=((7*(k+1):Nat):Int) by omega]
     ·show(acc|||((c&&&127).toUInt64<<<UInt64.ofNat (7*k))).toNat<128^(k+1)
      rw[hor,Nat.pow_succ]
      have:(c.toNat%128)*128^k≤127*128^k:=Nat.mul_le_mul_right _ (by omega)
      omega
     ·show eh l=(om (10-(k+1)) (k+1) t).map fun p=>(p.1+(acc|||((c&&&127).toUInt64<<<UInt64.ofNat (7*k))).toNat,p.2)
      rw[hrd,hor]
      simp only[om]
      rw[if_neg h,if_neg h2',Option.map_map]
      have:10-(k+1)=9-k:=by omega
      rw[this]
      have ef:((fun p:Nat×List UInt8=>(p.1+acc.toNat,p.2))∘fun p:Nat×List UInt8=>(p.1+c.toNat%128*128^k,p.2))=fun p=>(p.1+(acc.toNat+c.toNat%128*128^k),p.2):=by
       funext p
       simp only[Function.comp,Prod.mk.injEq,and_true]
       omega
      rw[ef]
theorem lI (hr:aU g none w):
 Calls Tryz.prog 144 #[.pointer (some ⟨g,0,none⟩)] w (bD fun r w'=>r=.tuple #[bC 0,B false]∧w'=w):=by
 refine enter (vs:=[.pointer (some ⟨g,0,none⟩)]) Tryz.func144 JL JL JL ?_
 refine af (aa (ac JL JL (ac JL JL (ag (ab (af (af (aa (ac JL JL (ag (ab (av ?_))))))))))))
 refine ck (α:=Unit) (fun _=>[(0,.pointer (some ⟨g,0,none⟩)),(4,I 0),(2,bC 0)]) (fun _ w'=>w'=w) (fun _=>0) () ⟨rfl,rfl,rfl,trivial⟩ JL ?_
 rintro _ w1 rfl
 refine af (af (aa (ae JL JL ?_)))
 refine aj JL JL JL (dv (by omega) aS) ?_
 refine ag (ab ?_)
 refine bJ JL ?_
 refine ar (ab (af (av (af (aa (ae JL JL ?_))))))
 refine am (vs:=[_,bC 1]) gX JL JL (p4 hr) ?_
 rintro r2 w2 ⟨rfl,rfl⟩
 refine ae JL JL ?_
 refine an JL JL (bw) ?_
 refine an JL JL (bz) ?_
 refine ac JL JL (ac JL JL (ag (ab (af (af (aa (ae JL JL ?_)))))))
 refine bB JL JL (bF) ?_
 refine ag (ab ?_)
 refine bJ JL ?_
 refine af (aa (ac JL JL (ac JL JL (ag (ab (au (ax (aT (ax (ax (aT (ax ?_))))))))))))
 refine aR JL JL JL ?_
 exact⟨_,rfl,rfl,rfl⟩
def Hh (g:Nat) (w:World) (o:Option (Nat×List UInt8)) (r:Value) (w':World):Prop:=
 w.grownBy w' (some g)∧match o with
  |some (n,t)=>r=.tuple #[bC (UInt64.ofNat n),I 0]∧aU g (some t) w'
  |none=>r=.tuple #[bC 0,I 5]∧aU g none w'
theorem mM {st:Option (List UInt8)} (hr:aU g st w):
 Calls Tryz.prog 111 #[.pointer (some ⟨g,0,none⟩)] w (bD (Hh g w (st.bind eh))):=by
 refine enter (vs:=[.pointer (some ⟨g,0,none⟩)]) Tryz.func111 JL JL JL ?_
 refine af (aa (ac JL JL (ac JL JL (ag (ab (af (af (aa (ae JL JL ?_)))))))))
 refine aj JL JL JL (lN Ju) ?_
 refine ag (ab ?_)
 refine dI JL ?_
 refine ar (ab (af (aa (ae JL JL ?_))))
 have hcase:Calls Tryz.prog 144 #[.pointer (some ⟨g,0,none⟩)] w (bD fun r w'=>w.grownBy w' (some g)∧match st.bind eh with
  |some (n,t)=>r=.tuple #[bC (UInt64.ofNat n),B true]∧aU g (some t) w'
  |none=>r=.tuple #[bC 0,B false]∧∃l',aU g l' w'):=by
  cases st with
  |none=>exact(lI hr).mono fun e w' ⟨v,he,hv,hw⟩=>⟨v,he,by subst hw;exact⟨kS _ _,hv,none,hr⟩⟩
  |some l=>
   refine(m9 hr).mono fun e w' ⟨v,he,hg,hv⟩=>⟨v,he,hg,?_⟩
   show match eh l with|some (n,t)=>_|none=>_
   cases hrd:eh l with
   |none=>rw[hrd] at hv;exact⟨hv.1,hv.2.imp' some fun _ h=>h⟩
   |some p=>rw[hrd] at hv;exact hv
 refine am jK JL JL hcase ?_
 rintro r1 w1 ⟨hg1,h1⟩
 unfold Hh
 cases hrd:st.bind eh with
 |some p=>
  obtain⟨n,t⟩:=p
  rw[hrd] at h1
  obtain⟨rfl,hr1⟩:=h1
  refine ae JL JL ?_
  refine an JL JL (bw) ?_
  refine an JL JL (bz) ?_
  refine ac JL JL (ac JL JL (ag (ab (af (af (aa (ae JL JL ?_)))))))
  refine bB JL JL (bF) ?_
  refine ag (ab ?_)
  refine dI JL ?_
  refine ar (ab (af (aa (ae JL JL (ac JL JL (ac JL JL (ag (ab (au ?_)))))))))
  refine aR JL JL JL ?_
  exact⟨_,rfl,hg1,rfl,hr1⟩
 |none=>
  rw[hrd] at h1
  obtain⟨rfl,l',hr1⟩:=h1
  refine ae JL JL ?_
  refine an JL JL (bw) ?_
  refine an JL JL (bz) ?_
  refine ac JL JL (ac JL JL (ag (ab (af (af (aa (ae JL JL ?_)))))))
  refine bB JL JL (bF) ?_
  refine ag (ab ?_)
  refine bJ JL ?_
  refine af (aa (ae JL JL ?_))
  refine am gY JL JL (g0 hr1) ?_
  rintro r2 w2 ⟨rfl,hr2,hg2⟩
  refine ac JL JL (ac JL JL (ag (ab (au (ax ?_)))))
  refine aR JL JL JL ?_
  exact⟨_,rfl,hg1.trans hg2,rfl,hr2⟩
end
end Go.Rl
namespace Go.Rl
open Go.RowKit Go.Proofs
theorem xq:aw Tryz.prog 155:=⟨_,Tryz.func155,by kernel_rfl,rfl⟩
theorem lJ:aw Tryz.prog 123:=⟨_,Tryz.func123,by kernel_rfl,rfl⟩
def AQ (x:UInt32):List UInt8:=[x.toUInt8,(x>>>UInt32.ofNat 8).toUInt8,(x>>>UInt32.ofNat 16).toUInt8,(x>>>UInt32.ofNat 24).toUInt8]
def j4 (l:List UInt32):List UInt8:=l.flatMap AQ
theorem tY (l:List UInt32) (k:Nat) (h:k<l.length):j4 (l.take (k+1))=j4 (l.take k)++AQ l[k]:=by
 unfold j4
 rw[List.take_succ_eq_append_getElem h,List.flatMap_append]
 simp
theorem fw (l:List UInt32):(j4 l).length=4*l.length:=by
 induction l with
 |nil=>rfl
 |cons x l ih=>
  have:j4 (x::l)=AQ x++j4 l:=by simp[j4]
  rw[this,List.length_append,ih]
  simp[AQ];omega
def lR (l:List UInt32):List UInt8:=uv l.length++j4 l
theorem xr (l:List UInt32) (h:l.length<18446744073709551616):(lR l).length≤10+4*l.length:=by
 have:=dy h
 simp only[lR,List.length_append,fw];omega
section
variable {w0 w:World} {l:List UInt8} {ns:List UInt32} {v nv:Value}
theorem xu (hx:aG w0 w) (hv:cf w0.heap.size l v w) (hn:bj ns nv w0) (hl:l.length+4*ns.length≤35184372088832):
 Calls Tryz.prog 155 #[v,nv] w (bD fun r w'=>cf w0.heap.size (l++lR ns) r w'∧aG w0 w'∧fM w w' v r):=by
 refine enter (vs:=[v,nv]) Tryz.func155 JL JL JL ?_
 refine af (aa (ac JL JL (ag (ab (af (aa (ae JL JL (ae JL JL ?_))))))))
 refine aP JL JL (be Je (hn.ext hx)) ?_
 refine aQ JL JL (cZ Jh Ji) ?_
 refine am kQ JL JL (kR hv (by omega) hx.size) ?_
 rintro b1 w1 ⟨hb1,hg1⟩
 have hlen:(UInt64.ofNat ns.length).toNat=ns.length:=by rw[UInt64.toNat_ofNat'];have:=hn.len;omega
 rw[hlen] at hb1
 have hx1:aG w0 w1:=hx.of_grew hg1 hv.ge
 have huv:=dy (n:=ns.length) (by have:=hn.len;omega)
 refine ac JL JL (ag (ab (af (af (aa (ae JL JL ?_))))))
 refine aP JL JL (be Je (hn.ext hx1)) ?_
 refine ae JL JL (ag (ab (av ?_)))
 refine ck (α:=Nat×Value) (fun x=>[(0,x.2),(12,nv),(13,I (ns.length:Int)),(14,I (x.1:Int))])
  (fun x w'=>cf w0.heap.size (l++uv ns.length++j4 (ns.take x.1)) x.2 w'∧aG w0 w'∧fM w w' v x.2∧x.1≤ns.length) (fun x=>ns.length-x.1) (0,b1) ⟨rfl,rfl,rfl,rfl,trivial⟩
  ⟨by simpa [j4] using hb1,hx1,hg1,by simp⟩ ?_
 rintro⟨k,b⟩ w2 ⟨hb,hx2,hg2,hk⟩
 dsimp only at hb hx2 hg2 hk
 have hns:=hn.len
 have hdl:(l++uv ns.length++j4 (ns.take k)).length≤35184372088832+10:=by
  simp only[List.length_append,fw,List.length_take];omega
 refine af (aa ?_)
 refine aj JL JL JL (aS) ?_
 refine ag (ab (af ?_))
 refine ba JL (fun h=>?_) (fun h=>?_)
 ·have hlt:k<ns.length:=by omega
  refine ar (ab (af (av (af (aa ?_)))))
  obtain⟨ad,had,hcell⟩:=cE Je (hn.ext hx2) hlt .i64
  refine ap JL JL JL (had _) ?_
  refine ak JL JL (Ha hcell) ?_
  refine ac JL JL (ag (ab (aa (ae JL JL (ae JL JL ?_)))))
  refine aQ JL JL (dD Jf Jm) ?_
  refine ae JL JL ?_
  refine aj JL JL JL (cA 8 (by omega)) ?_
  refine aQ JL JL (dD Jf Jm) ?_
  refine ae JL JL ?_
  refine aj JL JL JL (cA 16 (by omega)) ?_
  refine aQ JL JL (dD Jf Jm) ?_
  refine ae JL JL ?_
  refine aj JL JL JL (cA 24 (by omega)) ?_
  refine aQ JL JL (dD Jf Jm) ?_
  obtain⟨r3,w3,hr3,hx3,ho3,_⟩:=dL (w:=w2) w2.heap.size (AQ ns[k]) (by simp[AQ]) (Nat.le_refl _)
  refine aJ JL JL hr3 ?_
  obtain⟨r4,w4,hr4,ho4,hg4⟩:=cH (ty:=28) (hb.ext hx3) ho3.bts (by simp only[AQ,List.length_cons,List.length_nil];omega) (Nat.le_trans hx2.size hx3.size)
  refine aW JL JL hr4 ?_
  refine ac JL JL (ag (aM (ab (aa ?_))))
  refine aj JL JL JL (aE (by omega) (by omega)) ?_
  refine ae JL JL (ag ?_)
  refine bN (k+1,r4) ⟨rfl,rfl,rfl,rfl,trivial⟩ ⟨?_,(hx2.trans hx3).of_grew hg4 hb.ge,hg2.trans (fM.before hx3 hg4),hlt⟩ (by show ns.length-(k+1)<ns.length-k;omega)
  show cf _ (l++uv ns.length++j4 (ns.take (k+1))) r4 w4
  rw[tY ns k hlt,←List.append_assoc]
  exact ho4
 ·have hk':k=ns.length:=by omega
  refine aX (aA (aA (aV (ab (af (aa (ae JL JL (ac JL JL (ag (ab (au ?_)))))))))))
  refine az JL JL ?_
  refine⟨_,rfl,?_,hx2,hg2⟩
  rw[hk',List.take_length,List.append_assoc] at hb
  exact hb
end
end Go.Rl
namespace Go.Rl
open Go.RowKit
section
variable {P:Program} {ops:Array Oper} {Q:eG} {N:Nat} {D:List Deferred} {S:World→Prop} {fuel:Nat} {listed:Array Bool} {l:Fr} {w:World} {d:Nat} {op:Op} {ty:TypeId} {pos:String} {aft:Array Edge}
def gJ (Q:eG):eG:=fun e a w=>e=.normal∧Q .normal a w
def et (P:Program) (ops:Array Oper) (Q:eG) (N:Nat) (D:List Deferred) (S:World→Prop) (fuel:Nat) (listed:Array Bool) (l:Fr) (w:World):Prop:=∀a,At N D l a→wpAnyH P .any ops (gJ Q) S fuel listed a w
def xv (P:Program) (ops:Array Oper) (Q:eG) (S:World→Prop) (fuel:Nat) (listed:Array Bool):eG:=fun e a w=>e=.normal∧S w∧wpAnyH P .any ops (gJ Q) S fuel listed a w
theorem zi {id:Nat} {os:List Oper} (S:World→Prop) (n:Nat) (hn:os.toArray.size=n) (hm:P.follows .mixedOrders=true)
 (h:et P os.toArray Q N D S n (Array.replicate n false) l w.drew):cD P Q N D l w (.region id os.toArray true):=fun a ha=>by
 subst hn
 exact wp_mono (wp_region_held (Q:=gJ Q) (S:=S) hm (h a ha)) fun e a w he=>by obtain⟨rfl,h⟩:=he;exact h
def Gp (ops:Array Oper) (listed:Array Bool) (i:Nat):Bool:=Region.noSelect ops&&Region.free .any ops listed i&&(Region.ready .any ops listed).contains i
theorem Hi (i:Nat) {v:Value} (hi:ops[i]? =some ⟨some d,op,ty,pos,aft,none⟩) (hB:Gp ops listed i=true) (hd:Nat.blt d N=true) (hS:S w)
 (hrun:∀ρ w',m0 l ρ→S w'→(execOp ρ ⟨some d,op,ty,pos,aft,none⟩).run P w'=.ok (.value v) w')
 (k:et P ops Q N D S fuel (listed.setIfInBounds i true) ((d,v)::l) w):et P ops Q N D S (fuel+1) listed l w:=fun a ha=>by
 simp only[Gp,Bool.and_eq_true] at hB
 exact wpAnyH_take hi hB.1.1 hB.1.2 hB.2 (fun c a w h=>by obtain⟨h,_⟩:=h;cases h) (.inl ⟨rfl,fun w' hw'=>hrun a.eval w' (fun x v hx=>ha.ev hx) hw'⟩) hS (k _ (ha.put hd v))
theorem rH (i:Nat) {xs:List Operand} {vs:List Value} {r:Value} {f:List Value→Sem Value} (hi:ops[i]? =some ⟨some d,op,ty,pos,aft,none⟩) (he:∀ρ,execOp ρ ⟨some d,op,ty,pos,aft,none⟩=(do pure (Next.value (←f (xs.map ρ))):Sem Next))
 (hp:qu l xs=some vs) (hB:Gp ops listed i=true) (hd:Nat.blt d N=true) (hS:S w) (hrun:∀w',S w'→(f vs).run P w'=.ok r w')
 (k:et P ops Q N D S fuel (listed.setIfInBounds i true) ((d,r)::l) w):et P ops Q N D S (fuel+1) listed l w:=
 Hi i hi hB hd hS (fun ρ w' hρ hw'=>by rw[he,gR hρ hp,Sem.run_bind,hrun w' hw'];rfl) k
theorem HO {x:Operand} {v:Value} (h:ev l x=some v):qu l [x]=some [v]:=by simp[qu,h]
theorem evs2 {x y:Operand} {u v:Value} (h:ev l x=some u) (h':ev l y=some v):qu l [x,y]=some [u,v]:=by simp[qu,h,h']
theorem jL (i:Nat) {x:Operand} {v:Value} (hi:ops[i]? =some ⟨some d,.move x,ty,pos,aft,none⟩) (hx:ev l x=some v) (hB:Gp ops listed i=true) (hd:Nat.blt d N=true) (hS:S w)
 (k:et P ops Q N D S fuel (listed.setIfInBounds i true) ((d,v)::l) w):et P ops Q N D S (fuel+1) listed l w:=
 Hi i hi hB hd hS (fun ρ w' hρ _=>by simp[execOp,hρ x _ hx]) k
theorem nu (i:Nat) {t:TypeId} {x:Operand} {u r:Value} (hi:ops[i]? =some ⟨some d,.load t x,ty,pos,aft,none⟩) (hx:ev l x=some u) (hB:Gp ops listed i=true) (hd:Nat.blt d N=true) (hS:S w) (hrun:∀w',S w'→(Instr.loadAt t u).run P w'=.ok r w')
 (k:et P ops Q N D S fuel (listed.setIfInBounds i true) ((d,r)::l) w):et P ops Q N D S (fuel+1) listed l w:=
 rH i (xs:=[x]) (f:=fun|[a]=>Instr.loadAt t a|_=>stuck "") hi (fun _=>rfl) (HO hx) hB hd hS hrun k
theorem iD (i:Nat) {s:TypeId} {n:Nat} {x:Operand} {u r:Value} (hi:ops[i]? =some ⟨some d,.fieldAddr s x n,ty,pos,aft,none⟩) (hx:ev l x=some u) (hB:Gp ops listed i=true) (hd:Nat.blt d N=true) (hS:S w) (hrun:∀w',S w'→(Instr.fieldAt s u n).run P w'=.ok r w')
 (k:et P ops Q N D S fuel (listed.setIfInBounds i true) ((d,r)::l) w):et P ops Q N D S (fuel+1) listed l w:=
 rH i (xs:=[x]) (f:=fun|[a]=>Instr.fieldAt s a n|_=>stuck "") hi (fun _=>rfl) (HO hx) hB hd hS hrun k
theorem HP (i:Nat) {s t:TypeId} {x:Operand} {u r:Value} (hi:ops[i]? =some ⟨some d,.convert s t x,ty,pos,aft,none⟩) (hx:ev l x=some u) (hB:Gp ops listed i=true) (hd:Nat.blt d N=true) (hS:S w) (hrun:∀w',S w'→(convert s t u).run P w'=.ok r w')
 (k:et P ops Q N D S fuel (listed.setIfInBounds i true) ((d,r)::l) w):et P ops Q N D S (fuel+1) listed l w:=
 rH i (xs:=[x]) (f:=fun|[a]=>convert s t a|_=>stuck "") hi (fun _=>rfl) (HO hx) hB hd hS hrun k
theorem Hj (i:Nat) {b:BinOp} {t t2:TypeId} {x y:Operand} {u v r:Value} (hi:ops[i]? =some ⟨some d,.binOp b t x y t2,ty,pos,aft,none⟩) (hx:ev l x=some u) (hy:ev l y=some v) (hB:Gp ops listed i=true) (hd:Nat.blt d N=true) (hS:S w) (hrun:∀w',S w'→(bin b t x y u v).run P w'=.ok r w')
 (k:et P ops Q N D S fuel (listed.setIfInBounds i true) ((d,r)::l) w):et P ops Q N D S (fuel+1) listed l w:=
 rH i (xs:=[x,y]) (f:=fun|[a,c]=>bin b t x y a c|_=>stuck "") hi (fun _=>rfl) (evs2 hx hy) hB hd hS hrun k
theorem IN (i:Nat) {xs:List Operand} {ts:Array TypeId} {vs:List Value} {r:Value} (hi:ops[i]? =some ⟨some d,.call {callee:=.builtin .len,args:=xs.toArray,argTypes:=ts},ty,pos,aft,none⟩) (hp:qu l xs=some vs) (hB:Gp ops listed i=true) (hd:Nat.blt d N=true) (hS:S w) (hrun:∀w',S w'→(Builtin.len_ ts ty vs.toArray).run P w'=.ok r w')
 (k:et P ops Q N D S fuel (listed.setIfInBounds i true) ((d,r)::l) w):et P ops Q N D S (fuel+1) listed l w:=
 rH i (xs:=xs) (f:=fun vs=>Builtin.len_ ts ty vs.toArray) hi (fun ρ=>by simp only[execOp,resolve,invoke,builtin,pure_bind,List.map_toArray]) hp hB hd hS hrun k
theorem kT {o:Oper} {i:Nat} {listed':Array Bool} {a:Act} (hi:ops[i]? =some o) (h:wpList P ops (xv P ops Q S fuel listed') [o] a w):
 wpOp P ops (gJ Q) i (fun a' w'=>S w'∧wpAnyH P .any ops (gJ Q) S fuel listed' a' w') a w:=by
 unfold wpOp
 simp only[hi]
 unfold wpList at h
 split
 ·rename_i hw
  rw[if_pos hw] at h
  rcases h with h|⟨_,_,_,h,_⟩
  ·refine .inl ?_
   unfold Oper.wp at*
   generalize (execOp a.eval o).run P w=r at*
   cases r with
   |ok n w'=>
    cases n<;>simp only[Oper.upon] at h⊢
    case value u=>exact h.2
    case skip=>exact h.2
    case defer dd=>exact h.2
    case enter f args=>
     refine Calls.mono h fun e w'' he=>?_
     cases e with
     |returned u=>exact he.2
     |panicked c=>obtain⟨he,_⟩:=he;cases he
     |outgrown=>obtain⟨_,_,he,_⟩:=he;cases he
    case row row args=>exact Rows.mono h fun u w'' he=>he.2
   |halt x w'=>
    cases x<;>simp only[Oper.upon] at h⊢
    case panic u=>obtain⟨he,_⟩:=h;cases he
  ·cases h
 ·rename_i hw
  rw[if_neg hw] at h
  exact h.2
theorem ei (i:Nat) {o:Oper} (hr:Region.ready .any ops listed=[i]) (hi:ops[i]? =some o) (h:bT P ops (xv P ops Q S fuel (listed.setIfInBounds i true)) N D l w [o]):et P ops Q N D S (fuel+1) listed l w:=fun a ha=>
 wpAnyH_all hr (by simp) fun j hj=>by
  obtain rfl:j=i:=by simpa using hj
  exact kT hi (h a ha)
theorem rI (i j:Nat) {o u:Oper} (hr:Region.ready .any ops listed=[i,j]) (hi:ops[i]? =some o) (hj:ops[j]? =some u) (h:bT P ops (xv P ops Q S fuel (listed.setIfInBounds i true)) N D l w [o])
 (h':bT P ops (xv P ops Q S fuel (listed.setIfInBounds j true)) N D l w [u]):et P ops Q N D S (fuel+1) listed l w:=fun a ha=>
 wpAnyH_all hr (by simp) fun k hk=>by
  rcases(by simpa using hk:k=i∨k=j) with rfl|rfl
  ·exact kT hi (h a ha)
  ·exact kT hj (h' a ha)
theorem cn (hS:S w) (k:et P ops Q N D S fuel listed l w):bT P ops (xv P ops Q S fuel listed) N D l w []:=fun a ha=>⟨rfl,hS,k a ha⟩
theorem vd {α:Type} (fr:α→Fr) (H:α→World→Prop) (listed':Array Bool) (fuel':Nat) (k:∀x w',H x w'→et P ops Q N D S fuel' listed' (fr x) w')
 (h:(∀l' w',(∃x,yO (fr x) l'∧H x w')→et P ops Q N D S fuel' listed' l' w')→et P ops Q N D S fuel listed l w):et P ops Q N D S fuel listed l w:=
 h fun _ w' ⟨x,hs,hH⟩ a ha=>k x w' hH a (ha.weak hs)
theorem xw {listed':Array Bool} (he:listed=listed') (h:et P ops Q N D S fuel listed' l w):et P ops Q N D S fuel listed l w:=he▸h
theorem pq (hr:Region.ready .any ops listed=[]) (h:fp Q N D l w):et P ops Q N D S fuel listed l w:=fun a ha=>wpAnyH_done hr ⟨rfl,h a ha⟩ _
end
end Go.Rl
namespace Go.Rl
open Go.RowKit Go.Proofs
theorem rJ:aw Tryz.prog 125:=⟨_,Tryz.func125,by kernel_rfl,rfl⟩
theorem iP:aw Tryz.prog 66:=⟨_,Tryz.func66,by kernel_rfl,rfl⟩
theorem aG.at {w w':World} (hx:aG w w') {g:Nat} {o:Obj} (h:w.heap[g]? =some o):w'.heap[g]? =some o:=by
 rw[hx.block g (by obtain⟨h,_⟩:=Array.getElem?_eq_some_iff.1 h;exact h)]
 exact h
theorem cf.low {base base':Nat} {l:List UInt8} {v:Value} {w:World} (h:cf base l v w) (hb:base'≤base):cf base' l v w:=by
 have hge:=h.ge
 obtain⟨n,h⟩:=h
 exact⟨n,gy h fun k hk=>Nat.le_trans hb (hge k hk)⟩
theorem cf.grown {base:Nat} {l:List UInt8} {u v r:Value} {w w':World} (h:cf base l u w) (hg:fM w w' v r) (hne:u.ownBlock=none∨u.ownBlock≠v.ownBlock):cf base l u w':=by
 obtain⟨n,h⟩:=h
 exact⟨n,World.ownsRow.kept h hg.grown hne⟩
theorem cf.lt {base:Nat} {l:List UInt8} {v:Value} {w:World} (h:cf base l v w):∀k,v.ownBlock=some k→k<w.heap.size:=by
 obtain⟨n,h⟩:=h
 exact fun k hk=>(World.ownsRow.lt h k hk).2
def dw (b:Bool) (n m:List UInt32):dl:=fun v w=>∃x y,v=.agg #[B b,x,y]∧bj n x w∧bj m y w
theorem dw.ext {b:Bool} {n m:List UInt32} {v:Value} {w w':World} (h:dw b n m v w) (hx:aG w w'):dw b n m v w':=by
 obtain⟨x,y,rfl,h1,h2⟩:=h
 exact⟨x,y,rfl,h1.ext hx,h2.ext hx⟩
def yP (b:Bool):UInt8:=if b then 1 else 0
def oo (b:Bool) (n m:List UInt32):List UInt8:=[yP b]++lR n++lR m
theorem rK:(Tryz.prog.info? 4).map (·.size)=some 1:=by kernel_rfl
theorem ov:(Tryz.prog.info? 53).map (·.size)=some 1:=by kernel_rfl
theorem dQ:(Tryz.prog.info? 55).map (·.size)=some 3:=by kernel_rfl
section
variable {w:World} {l:List UInt8} {ns:List UInt32} {v nv:Value}
theorem lK (hv:ci l v w) (hn:bj ns nv w) (hl:l.length+4*ns.length≤35184372088832):
 Calls Tryz.prog 123 #[v,nv] w (bD fun r w'=>aG w w'∧cf w.heap.size (l++lR ns) r w'):=by
 refine enter (vs:=[v,nv]) Tryz.func123 JL JL JL ?_
 refine af (aa (ac JL JL (ag (ab (af (aa (ae JL JL (ae JL JL ?_))))))))
 refine aP JL JL (be Je hn) ?_
 refine aQ JL JL (cZ Jh Ji) ?_
 refine am bZ JL JL (cc hv (by omega)) ?_
 rintro b1 w1 ⟨hx1,hb1⟩
 have hns:=hn.len
 have hlen:(UInt64.ofNat ns.length).toNat=ns.length:=by rw[UInt64.toNat_ofNat'];omega
 rw[hlen] at hb1
 have huv:=dy (n:=ns.length) (by omega)
 refine ac JL JL (ag (ab (af (af (aa (ac JL JL (ag (ab (av ?_)))))))))
 refine ck (α:=Nat×Value) (fun x=>[(1,nv),(5,x.2),(6,I (x.1:Int))])
  (fun x w'=>cf w.heap.size (l++uv ns.length++j4 (ns.take x.1)) x.2 w'∧aG w w'∧x.1≤ns.length) (fun x=>ns.length-x.1) (0,b1) ⟨rfl,rfl,rfl,trivial⟩
  ⟨by simpa [j4] using hb1,hx1,by simp⟩ ?_
 rintro⟨k,b⟩ w2 ⟨hb,hx2,hk⟩
 dsimp only at hb hx2 hk
 have hdl:(l++uv ns.length++j4 (ns.take k)).length≤35184372088832+10:=by
  simp only[List.length_append,fw,List.length_take];omega
 refine af (af (aa (ae JL JL (ae JL JL ?_))))
 refine aP JL JL (be Je (hn.ext hx2)) ?_
 refine aj JL JL JL (aS) ?_
 refine ag (ab ?_)
 refine ba JL (fun h=>?_) (fun h=>?_)
 ·have hlt:k<ns.length:=by omega
  refine ar (ab (af (av ?_)))
  obtain⟨ad,had,hcell⟩:=cE Je (hn.ext hx2) hlt .i64
  have hld:∀w',aG w2 w'→(Instr.loadAt 111 (.pointer (some ad))).run Tryz.prog w'=.ok (bp ns[k]) w':=fun w' hw'=>by
   obtain⟨ad',had',hcell'⟩:=cE Je (hn.ext (hx2.trans hw')) hlt .i64
   have:=(had w').symm.trans (had' w')
   simp only[Result.ok.injEq,Value.pointer.injEq,Option.some.injEq,and_true] at this
   subst this
   exact Ha hcell'
  refine bm 25 [1,6,18,42] (by kernel_rfl) (by kernel_rfl) ?_
  refine ao JL JL (ao JL JL (ao JL JL ?_))
  refine ay JL JL JL (fun w _=>had w) ?_
  refine aD JL JL hld ?_
  refine dk JL JL (fun w _=>dD Jf Jm) ?_
  refine ao JL JL (ao JL JL ?_)
  refine ay JL JL JL (fun w _=>had w) ?_
  refine aD JL JL hld ?_
  refine aO JL JL JL (fun w _=>cA 8 (by omega)) ?_
  refine dk JL JL (fun w _=>dD Jf Jm) ?_
  refine ao JL JL (ao JL JL ?_)
  refine ay JL JL JL (fun w _=>had w) ?_
  refine aD JL JL hld ?_
  refine aO JL JL JL (fun w _=>cA 16 (by omega)) ?_
  refine dk JL JL (fun w _=>dD Jf Jm) ?_
  refine ao JL JL (ao JL JL ?_)
  refine ay JL JL JL (fun w _=>had w) ?_
  refine aD JL JL hld ?_
  refine aO JL JL JL (fun w _=>cA 24 (by omega)) ?_
  refine dk JL JL (fun w _=>dD Jf Jm) ?_
  refine ep (S:=ci (AQ ns[k])) (ci.stable _) JL (fun w' _=>by
   rintro _ rfl _ rfl _ rfl _ rfl
   obtain⟨r3,w3,hr3,hx3,ho3,_⟩:=dL (w:=w') w'.heap.size (AQ ns[k]) (by simp[AQ]) (Nat.le_refl _)
   exact⟨r3,w3,hr3,hx3,ho3.bts⟩) ?_
  refine bu ?_
  intro w3 hx3
  rintro _ rfl _ rfl _ rfl r3 hr3
  obtain⟨r4,w4,hr4,ho4,hg4⟩:=cH (ty:=28) (hb.ext hx3) hr3 (by simp only[AQ,List.length_cons,List.length_nil];omega) (Nat.le_trans hx2.size hx3.size)
  refine aW JL JL hr4 ?_
  refine ac JL JL (ag (aM (ab (aa (ae JL JL ?_)))))
  refine aj JL JL JL (aE (by omega) (by omega)) ?_
  refine ac JL JL (ag ?_)
  refine bN (k+1,r4) ⟨rfl,rfl,rfl,trivial⟩ ⟨?_,(hx2.trans hx3).of_grew hg4 hb.ge,hlt⟩ (by show ns.length-(k+1)<ns.length-k;omega)
  show cf _ (l++uv ns.length++j4 (ns.take (k+1))) r4 w4
  rw[tY ns k hlt,←List.append_assoc]
  exact ho4
 ·have hk':k=ns.length:=by omega
  refine aX (aA (aA (aV (ab (af (aa (ae JL JL (ac JL JL (ag (ab (au ?_)))))))))))
  refine az JL JL ?_
  rw[hk',List.take_length,List.append_assoc] at hb
  exact⟨_,rfl,hx2,hb⟩
theorem rL {b:Bool} {n m:List UInt32} {rv:Value} (hv:ci l v w) (hr:dw b n m rv w) (hl:l.length+4*n.length+4*m.length≤8796093022208):
 Calls Tryz.prog 125 #[v,rv] w (bD fun r w'=>aG w w'∧cf w.heap.size (l++oo b n m) r w'):=by
 obtain⟨x,y,rfl,hx,hy⟩:=hr
 have hn:=xr n (by have:=hx.len;omega)
 refine enter (vs:=[v,.agg #[B b,x,y]]) Tryz.func125 JL JL JL ?_
 refine af (aa (cx JL JL m2 ?_))
 have e1:aG w (w.alloc (.cells (Value.agg #[B b,x,y]).cells 55)):=aG.new w _
 have hbx:=heap_alloc_new w (.cells (Value.agg #[B b,x,y]).cells 55)
 revert e1 hbx
 generalize w.alloc (.cells (Value.agg #[B b,x,y]).cells 55)=w1
 intro e1 hbx
 have cell:∀(i:Nat) (u:Value),(#[B b,x,y]:Array Value)[i]? =some u→∀w',aG w1 w'→w'.cell? ⟨w.heap.size,i,none⟩=some u:=fun i u hu w' hw'=>gV (hw'.at hbx) hu
 refine ac JL JL (ag (ab (af (aa (ac JL JL (ag (ab ?_)))))))
 refine af (eK (fun _:Unit=>[(0,v),(3,.pointer (some ⟨w.heap.size,0,none⟩)),(5,U8 (yP b))]) (fun _ w'=>w'=w1) ?_ ?_)
 ·refine af (aa ?_)
  refine ah JL JL (ce Jj JL rK (by omega)) ?_
  refine ak JL JL (ai Jq JL (cell 0 _ JL _ (aG.refl _))) ?_
  refine ag (ab ?_)
  cases b with
  |true=>exact bJ rfl (aa (ac rfl rfl (ag (cr () ⟨rfl,rfl,rfl,trivial⟩ rfl))))
  |false=>exact dI rfl (ar (cr () ⟨rfl,rfl,rfl,trivial⟩ rfl))
 rintro _ w2 rfl
 refine ab (af ?_)
 refine zi (aG w2) 12 JL (by kernel_rfl) ?_
 have hd:aG w2 w2.drew:=(aG.refl w2).drew
 refine jL 0 JL JL (by kernel_rfl) JL hd ?_
 refine jL 2 JL JL (by kernel_rfl) JL hd ?_
 refine iD 5 JL JL (by kernel_rfl) JL hd (fun w' _=>ce Jj JL ov (by omega)) ?_
 refine nu 6 JL JL (by kernel_rfl) JL hd (fun w' hw'=>ai Je JL (cell 1 _ JL _ hw')) ?_
 refine iD 8 JL JL (by kernel_rfl) JL hd (fun w' _=>ce Jj JL ov (by omega)) ?_
 refine nu 9 JL JL (by kernel_rfl) JL hd (fun w' hw'=>ai Je JL (cell 2 _ JL _ hw')) ?_
 refine vd (fun p:Value×Value=>[(9,p.1),(11,p.2),(14,x),(17,y)]) (fun p w'=>aG w2 w'∧cf w2.heap.size l p.1 w'∧ci [yP b] p.2 w') #[true,true,true,true,false,true,true,false,true,true,false,false] 4 ?_ (fun join=>rI 1 3 (by kernel_rfl) JL JL ?_ ?_)
 ·rintro⟨r9,r11⟩ w3 ⟨hx3,ho9,ho11⟩
  dsimp only at ho9 ho11
  refine ei 4 (by kernel_rfl) JL ?_
  obtain⟨r4,w4,hr4,ho4,hg4⟩:=cH (ty:=28) ho9 ho11 (by simp only[List.length_cons,List.length_nil];omega) hx3.size
  have hx4:=hx3.of_grew hg4 ho9.ge
  refine aW JL JL hr4 (cn hx4 ?_)
  refine ei 7 (by kernel_rfl) JL ?_
  refine am xq JL JL (xu hx4 ho4 (hx.ext e1) (by simp only[List.length_append,List.length_cons,List.length_nil];omega)) ?_
  rintro r5 w5 ⟨ho5,hx5,_⟩
  refine cn hx5 (ei 10 (by kernel_rfl) JL ?_)
  refine am xq JL JL (xu hx5 ho5 (hy.ext e1) (by simp only[List.length_append,List.length_cons,List.length_nil];omega)) ?_
  rintro r6 w6 ⟨ho6,hx6,_⟩
  refine cn hx6 (ei 11 (by kernel_rfl) JL ?_)
  refine ac JL JL (cn hx6 (pq (by kernel_rfl) (ab (au ?_))))
  refine az JL JL ?_
  refine⟨_,rfl,e1.trans hx6,?_⟩
  have:=ho6.low e1.size
  simpa only[oo,List.append_assoc] using this
 ·refine am jl JL JL (jm ((hv.ext e1).ext hd) (by omega)) ?_
  rintro r9 w3 ⟨hx3,ho9⟩
  obtain⟨r11,w4,hr11,hx4,ho11,_⟩:=dL (w:=w3) w3.heap.size [yP b] (by simp) (Nat.le_refl _)
  refine cn (hd.trans hx3) (ei 3 (by kernel_rfl) JL ?_)
  refine aJ (vs:=[(0,U8 (yP b))]) JL JL hr11 (cn ((hd.trans hx3).trans hx4) (xw (by kernel_rfl) (join _ _ ⟨(r9,r11),⟨rfl,rfl,rfl,rfl,trivial⟩,(hd.trans hx3).trans hx4,?_,ho11.bts⟩)))
  exact(ho9.ext hx4).low hd.size
 ·obtain⟨r11,w3,hr11,hx3,ho11,_⟩:=dL (w:=w2.drew) w2.heap.size [yP b] (by simp) hd.size
  refine aJ (vs:=[(0,U8 (yP b))]) JL JL hr11 (cn (hd.trans hx3) (ei 1 (by kernel_rfl) JL ?_))
  refine am jl JL JL (jm (((hv.ext e1).ext hd).ext hx3) (by omega)) ?_
  rintro r9 w4 ⟨hx4,ho9⟩
  refine cn ((hd.trans hx3).trans hx4) (xw (by kernel_rfl) (join _ _ ⟨(r9,r11),⟨rfl,rfl,rfl,rfl,trivial⟩,(hd.trans hx3).trans hx4,?_,ho11.bts.ext hx4⟩))
  exact ho9.low (hd.trans hx3).size
theorem iQ {b:Bool} {n m:List UInt32} {rv:Value} (hv:ci l v w) (hr:dw b n m rv w) (hl:l.length+4*n.length+4*m.length≤8796093022208):
 Calls Tryz.prog 66 #[v,rv] w (bD fun r w'=>aG w w'∧cf w.heap.size (l++oo b n m) r w'):=by
 obtain⟨x,y,rfl,hx,hy⟩:=hr
 have hn:=xr n (by have:=hx.len;omega)
 refine enter (vs:=[v,.agg #[B b,x,y]]) Tryz.func66 JL JL JL ?_
 refine af (aa (cx JL JL m2 ?_))
 have e1:aG w (w.alloc (.cells (Value.agg #[B b,x,y]).cells 55)):=aG.new w _
 have hbx:=heap_alloc_new w (.cells (Value.agg #[B b,x,y]).cells 55)
 revert e1 hbx
 generalize w.alloc (.cells (Value.agg #[B b,x,y]).cells 55)=w1
 intro e1 hbx
 have cell:∀(i:Nat) (u:Value),(#[B b,x,y]:Array Value)[i]? =some u→∀w',aG w1 w'→w'.cell? ⟨w.heap.size,i,none⟩=some u:=fun i u hu w' hw'=>gV (hw'.at hbx) hu
 refine ac JL JL (ag (ab (af (aa (ac JL JL (ag (ab ?_)))))))
 refine af (eK (fun _:Unit=>[(0,v),(3,.pointer (some ⟨w.heap.size,0,none⟩)),(5,U8 (yP b))]) (fun _ w'=>w'=w1) ?_ ?_)
 ·refine af (aa ?_)
  refine ah JL JL (ce Jj JL rK (by omega)) ?_
  refine ak JL JL (ai Jq JL (cell 0 _ JL _ (aG.refl _))) ?_
  refine ag (ab ?_)
  cases b with
  |true=>exact bJ rfl (aa (ac rfl rfl (ag (cr () ⟨rfl,rfl,rfl,trivial⟩ rfl))))
  |false=>exact dI rfl (ar (cr () ⟨rfl,rfl,rfl,trivial⟩ rfl))
 rintro _ w2 rfl
 refine ab (af ?_)
 refine zi (aG w2) 13 JL (by kernel_rfl) ?_
 have hd:aG w2 w2.drew:=(aG.refl w2).drew
 refine jL 1 JL JL (by kernel_rfl) JL hd ?_
 refine jL 3 JL JL (by kernel_rfl) JL hd ?_
 refine iD 6 JL JL (by kernel_rfl) JL hd (fun w' _=>ce Jj JL ov (by omega)) ?_
 refine nu 7 JL JL (by kernel_rfl) JL hd (fun w' hw'=>ai Je JL (cell 1 _ JL _ hw')) ?_
 refine iD 9 JL JL (by kernel_rfl) JL hd (fun w' _=>ce Jj JL ov (by omega)) ?_
 refine nu 10 JL JL (by kernel_rfl) JL hd (fun w' hw'=>ai Je JL (cell 2 _ JL _ hw')) ?_
 have hv2:ci l v w2:=hv.ext e1
 refine vd (fun p:Value×Value=>[(10,p.1),(12,p.2),(15,x),(18,y)]) (fun p w'=>aG w2 w'∧cf w2.heap.size l p.1 w'∧ci [yP b] p.2 w') #[true,true,true,true,true,false,true,true,false,true,true,false,false] 4 ?_ (fun join=>rI 0 4 (by kernel_rfl) JL JL ?_ ?_)
 ·rintro⟨r9,r11⟩ w3 ⟨hx3,ho9,ho11⟩
  dsimp only at ho9 ho11
  refine ei 5 (by kernel_rfl) JL ?_
  obtain⟨r4,w4,hr4,ho4,hg4⟩:=cH (ty:=28) ho9 ho11 (by simp only[List.length_cons,List.length_nil];omega) hx3.size
  have hx4:=hx3.of_grew hg4 ho9.ge
  refine aW JL JL hr4 (cn hx4 ?_)
  refine ei 8 (by kernel_rfl) JL ?_
  refine am lJ JL JL (lK ho4.bts ((hx.ext e1).ext hx4) (by simp only[List.length_append,List.length_cons,List.length_nil];omega)) ?_
  rintro r5 w5 ⟨hx5,ho5⟩
  refine cn (hx4.trans hx5) (ei 11 (by kernel_rfl) JL ?_)
  refine am lJ JL JL (lK ho5.bts ((hy.ext e1).ext (hx4.trans hx5)) (by simp only[List.length_append,List.length_cons,List.length_nil];omega)) ?_
  rintro r6 w6 ⟨hx6,ho6⟩
  have q6:=(hx4.trans hx5).trans hx6
  refine cn q6 (ei 12 (by kernel_rfl) JL ?_)
  refine ac JL JL (cn q6 (pq (by kernel_rfl) (ab (au ?_))))
  refine az JL JL ?_
  refine⟨_,rfl,e1.trans q6,?_⟩
  have:=ho6.low (e1.trans (hx4.trans hx5)).size
  simpa only[oo,List.append_assoc] using this
 ·obtain⟨r8,w3,hr8,hx3,ho8,_⟩:=dL (w:=w2.drew) w2.heap.size [] (by simp) hd.size
  refine aJ (vs:=[]) JL JL hr8 (cn (hd.trans hx3) (rI 2 4 (by kernel_rfl) JL JL ?_ ?_))
  ·obtain⟨r4,w4,hr4,ho4,hg4⟩:=cH (ty:=28) ho8 ((hv2.ext hd).ext hx3) (by simp only[List.length_nil];omega) (hd.trans hx3).size
   have hx4:=(hd.trans hx3).of_grew hg4 ho8.ge
   refine aW JL JL hr4 (cn hx4 (ei 4 (by kernel_rfl) JL ?_))
   obtain⟨r11,w5,hr11,hx5,ho11,_⟩:=dL (w:=w4) w4.heap.size [yP b] (by simp) (Nat.le_refl _)
   refine aJ (vs:=[(0,U8 (yP b))]) JL JL hr11 (cn (hx4.trans hx5) (xw (by kernel_rfl) (join _ _ ⟨(r4,r11),⟨rfl,rfl,rfl,rfl,trivial⟩,hx4.trans hx5,?_,ho11.bts⟩)))
   exact ho4.ext hx5
  ·obtain⟨r11,w4,hr11,hx4,ho11,hb11⟩:=dL (w:=w3) w3.heap.size [yP b] (by simp) (Nat.le_refl _)
   have hx04:=(hd.trans hx3).trans hx4
   refine aJ (vs:=[(0,U8 (yP b))]) JL JL hr11 (cn hx04 (ei 2 (by kernel_rfl) JL ?_))
   obtain⟨r4,w5,hr4,ho4,hg4⟩:=cH (ty:=28) (ho8.ext hx4) (hv2.ext hx04) (by simp only[List.length_nil];omega) hx04.size
   have hx5:=hx04.of_grew hg4 ho8.ge
   have hb5:=ho11.grown hg4 (.inr (by rw[hb11];intro he;have:=ho8.lt _ he.symm;omega))
   exact aW rfl rfl hr4 (cn hx5 (xw (by kernel_rfl) (join _ _ ⟨(r4,r11),⟨rfl,rfl,rfl,rfl,trivial⟩,hx5,ho4,hb5.bts⟩)))
 ·obtain⟨r11,w3,hr11,hx3,ho11,hb11⟩:=dL (w:=w2.drew) w2.drew.heap.size [yP b] (by simp) (Nat.le_refl _)
  have hx03:=hd.trans hx3
  refine aJ (vs:=[(0,U8 (yP b))]) JL JL hr11 (cn hx03 (ei 0 (by kernel_rfl) JL ?_))
  obtain⟨r8,w4,hr8,hx4,ho8,hb8⟩:=dL (w:=w3) w2.heap.size [] (by simp) hx03.size
  have hx04:=hx03.trans hx4
  refine aJ (vs:=[]) JL JL hr8 (cn hx04 (ei 2 (by kernel_rfl) JL ?_))
  obtain⟨r4,w5,hr4,ho4,hg4⟩:=cH (ty:=28) ho8 (hv2.ext hx04) (by simp only[List.length_nil];omega) hx04.size
  have hx5:=hx04.of_grew hg4 ho8.ge
  have hb5:=(ho11.ext hx4).grown hg4 (.inr (by rw[hb8];intro he;have:=ho11.lt _ he;omega))
  exact aW rfl rfl hr4 (cn hx5 (xw (by kernel_rfl) (join _ _ ⟨(r4,r11),⟨rfl,rfl,rfl,rfl,trivial⟩,hx5,ho4,hb5.bts⟩)))
end
end Go.Rl
namespace Go.Rl
open Go.RowKit Go.Proofs
section
variable {P:Program} {w w':World}
theorem aI {s:TypeId} {fs:Array Field} {f:Field} {n g o:Nat} (hs:P.underlying s=some (.struct fs)) (hf:fs[n]? =some f) (hk:(P.cellsOf f.type==0)=false) (ho:f.offset=o):
 (Instr.fieldAt s (.pointer (some ⟨g,0,none⟩)) n).run P w=.ok (.pointer (some ⟨g,o,none⟩)) w:=by
 have hk':P.cellsOf f.type≠0:=by simpa using hk
 obtain⟨k,hk1⟩:∃k,(P.info? f.type).map (·.size)=some k:=by
  cases hi:(P.info? f.type).map (·.size) with
  |none=>exact absurd (by simp[Program.cellsOf,hi]) hk'
  |some k=>exact⟨k,rfl⟩
 have hk0:k≠0:=by
  intro h
  apply hk'
  simp[Program.cellsOf,hk1,h]
 rw[ce hs hf hk1 hk0,ho,np,Nat.zero_add]
end
section
variable {w w':World}
theorem dw.stable (b:Bool) (n m:List UInt32):bo (dw b n m):=fun _ _ _ h hx=>h.ext hx
theorem dw.mk {b:Bool} {n m:List UInt32} {x y:Value} (hx:bj n x w) (hy:bj m y w):dw b n m (.agg #[B b,x,y]) w:=⟨x,y,rfl,hx,hy⟩
theorem cl.ldR {g:Nat} {T:TypeId} {a b c:Value} (h:cl g T [a,b,c] w):(Instr.loadAt 55 (.pointer (some ⟨g,0,none⟩))).run Tryz.prog w=.ok (.agg #[a,b,c]) w:=
 lH h (fun j v hj=>by simpa using hj) Tryz.underlying55 rfl dQ
theorem nw {b:Bool} {n m:List UInt32} {v:Value} (h:dw b n m v w):
 ∃g x y w',(Instr.box 55 v).run Tryz.prog w=.ok (.pointer (some ⟨g,0,none⟩)) w'∧aG w w'∧cl g 55 [B b,x,y] w'∧bj n x w'∧bj m y w':=by
 obtain⟨x,y,rfl,hx,hy⟩:=h
 exact⟨_,x,y,_,m2,aG.new w _,cl.new (T:=55) (.agg #[B b,x,y]) rfl,hx.ext (aG.new w _),hy.ext (aG.new w _)⟩
theorem Eh:(Tryz.prog.info? 55).map (·.zero)=some (some (.agg #[B false,.slice none 0 0,.slice none 0 0])):=by kernel_rfl
theorem gz:∃g w',(Instr.alloc 55 true (.tuple #[])).run Tryz.prog w=.ok (.pointer (some ⟨g,0,none⟩)) w'∧w.heap.size≤g∧aG w w'∧cl g 55 [B false,.slice none 0 0,.slice none 0 0] w':=
 bc Eh rfl
theorem rM (b:Bool) (A C:Option Addr) (n c m d:Nat) (l:List UInt32):∀(j:Nat) (u:Value),u∈l.map bp→(#[.bool b,.slice A n c,.slice C m d]:Array Value)[j]? ≠some u:=by
 intro j u hu
 obtain⟨x,_,rfl⟩:=List.mem_map.1 hu
 match j with
 |0=>simp[bp]
 |1=>simp[bp]
 |2=>simp[bp]
 |j+3=>simp
theorem bj.byR {l:List UInt32} {v:Value} {g:Nat} {T:TypeId} {b:Bool} {x y:Value} (h:bj l v w) (hb:cl g T [B b,x,y] w) (hx:∃A n c,x=.slice A n c) (hy:∃A n c,y=.slice A n c) (hw:w.grownBy w' (some g)):bj l v w':=by
 obtain⟨A,n,c,rfl⟩:=hx
 obtain⟨C,m,d,rfl⟩:=hy
 exact Sl.keep h hb (rM b A C n c m d l) hw
theorem bj.isS {l:List UInt32} {v:Value} (h:bj l v w):∃A n c,v=.slice A n c:=by
 obtain⟨A,n,c,rfl,_⟩:=h
 exact⟨A,n,c,rfl⟩
theorem cl.stR {g:Nat} {b c:Bool} {x y v:Value} {n m:List UInt32} (h:cl g 55 [B b,x,y] w) (hx:∃A n c,x=.slice A n c) (hy:∃A n c,y=.slice A n c) (hv:dw c n m v w):
 ∃p q w',v=.agg #[B c,p,q]∧(Instr.storeAt 55 (.pointer (some ⟨g,0,none⟩)) v).run Tryz.prog w=.ok () w'∧w.grownBy w' (some g)∧cl g 55 [B c,p,q] w'∧bj n p w'∧bj m q w':=by
 obtain⟨p,q,rfl,hp,hq⟩:=hv
 obtain⟨A,n1,c1,rfl⟩:=hp.isS
 obtain⟨C,n2,c2,rfl⟩:=hq.isS
 refine⟨_,_,_,rfl,gO (m:=[B c,.slice A n1 c1,.slice C n2 c2]) h JL dQ ?_,bg w g _,h.row _,hp.byR h hx hy (bg w g _),hq.byR h hx hy (bg w g _)⟩
 intro u hu
 simp only[List.mem_cons,List.not_mem_nil,or_false] at hu
 rcases hu with rfl|rfl|rfl<;>rfl
theorem ve {P:Program} {x y:Operand} {t:TypeId} (ht:P.underlying t=some .bool) {a b:Bool}:(bin .eql t x y (B a) (B b)).run P w=.ok (B (decide (a=b))) w:=by
 have h:(Op.equal t (B a) (B b)).run P w=.ok (decide (a=b)) w:=by
  show(Op.equalIn (9999+1) t (.bool a) (.bool b)).run P w=_
  unfold Op.equalIn
  cases a<;>cases b<;>simp[run_underlying ht]
 show(do pure (Value.bool (←Op.equal t (B a) (B b))):Sem Value).run P w=_
 rw[Sem.run_bind,h];rfl
theorem j5 {c:Bool} {p q:Value} (hp:∃A n c,p=.slice A n c) (hq:∃A n c,q=.slice A n c):(Instr.build 55 #[(0,B c),(1,p),(2,q)]).run Tryz.prog w=.ok (.agg #[B c,p,q]) w:=by
 obtain⟨A,n,d,rfl⟩:=hp
 obtain⟨C,m,e,rfl⟩:=hq
 exact run_build _ _ _ #[B c,.slice A n d,.slice C m e] (by kernel_rfl)
theorem Cb {c:Bool} {p:Value} (hp:∃A n c,p=.slice A n c):(Instr.build 55 #[(0,B c),(1,p)]).run Tryz.prog w=.ok (.agg #[B c,p,.slice none 0 0]) w:=by
 obtain⟨A,n,d,rfl⟩:=hp
 exact run_build _ _ _ #[B c,.slice A n d,.slice none 0 0] (by kernel_rfl)
theorem ia:(Instr.build 55 #[]).run Tryz.prog w=.ok (.agg #[B false,.slice none 0 0,.slice none 0 0]) w:=
 run_build _ _ _ #[B false,.slice none 0 0,.slice none 0 0] (by kernel_rfl)
end
theorem gA:∀{l m:List UInt32},l.length=m.length→val l=val m→l=m
 |[],[],_,_=>rfl
 |[],_::_,h,_=>by simp at h
 |_::_,[],h,_=>by simp at h
 |x::l,y::m,h,hv=>by
  have hx:=cL x
  have hy:=cL y
  rw[val,val] at hv
  have h1:x.toNat=y.toNat:=by omega
  have h2:val l=val m:=by omega
  rw[kH h1,gA (by simpa using h) h2]
def ud (m:List UInt32):List UInt32:=if val m=0 then[1] else m
theorem Ei:val [1]=1:=rfl
theorem vf:lb 1=[1]:=rfl
theorem zj (m:List UInt32):val (ud m)=if val m=0 then 1 else val m:=by unfold ud;split<;>simp_all [Ei]
theorem Ej (m:List UInt32):0<val (ud m):=by rw[zj];split<;>omega
def xx (s:Bool) (n:Nat):Bool:=s&&decide (0<n)
def vg (n d:Nat):List UInt32:=if d/Nat.gcd n d=1 then[] else lb (d/Nat.gcd n d)
def rv (s:Bool) (n m:List UInt32):Bool:=decide (s=xx s (val n)∧n=lb (val n/Nat.gcd (val n) (val (ud m)))∧m=vg (val n) (val (ud m)))
theorem AR {n d:Nat} (h:0<d):0<Nat.gcd n d:=Nat.gcd_pos_of_pos_right n h
theorem Ek {x:Nat}:lb x=[1]↔x=1:=⟨fun h=>DQ (h.trans vf.symm),fun h=>by rw[h,vf]⟩
theorem Gq {d:Nat} (h:0<d):vg 0 d=[]:=by unfold vg;rw[Nat.gcd_zero_left,Nat.div_self h,if_pos rfl]
theorem El {n:Nat}:vg n 1=[]:=by unfold vg;rw[Nat.gcd_one_right];rfl
end Go.Rl
namespace Go.Rl
open Go.RowKit Go.Proofs
theorem Cc:aw Tryz.prog 192:=⟨_,Tryz.func192,by kernel_rfl,rfl⟩
theorem ny:aw Tryz.prog 188:=⟨_,Tryz.func188,by kernel_rfl,rfl⟩
theorem xy:aw Tryz.prog 172:=⟨_,Tryz.func172,by kernel_rfl,rfl⟩
theorem zk:aw Tryz.prog 171:=⟨_,Tryz.func171,by kernel_rfl,rfl⟩
theorem xz:aw Tryz.prog 140:=⟨_,Tryz.func140,by kernel_rfl,rfl⟩
theorem eu:aw Tryz.prog 96:=⟨_,Tryz.func96,by kernel_rfl,rfl⟩
theorem Cd {w:World}:
 Calls Tryz.prog 192 #[] w (bD fun r w'=>aG w w'∧bj [1] r w'):=by
 refine enter (vs:=[]) Tryz.func192 JL JL JL ?_
 refine af (aa (ac JL JL (ag (ab (af (aa ?_))))))
 obtain⟨v1,w1,hr1,x1,o1,ob1⟩:=iC Tryz.underlying53 (w:=w) w.heap.size [1] (by simp) (Nat.le_refl _)
 refine aJ (vs:=[(0,bp (1))]) JL JL hr1 (ac JL JL (ag (ab (au (az JL JL ?_)))))
 exact⟨_,rfl,x1,o1.wds⟩
theorem nz {w:World} {x:Nat} {v:Value} (hv:bj (lb x) v w):
 Calls Tryz.prog 188 #[v] w (bD fun r w'=>w=w'∧r=B (decide (x=1))):=by
 refine enter (vs:=[v]) Tryz.func188 JL JL JL ?_
 obtain⟨t,ht⟩:∃t,t=lb x:=⟨_,rfl⟩
 rw[←ht] at hv
 have h1:x=1↔t=[1]:=by rw[ht];exact Ek.symm
 refine af (aa (ac JL JL (ag (ab (af (aa (ae JL JL (aP JL JL (be Je hv) (aj JL JL JL (bA) ?_)))))))))
 refine ae JL JL ?_
 refine cW (fun h6=>?_) (fun h6=>?_)
 ·refine al JL (ae JL JL (al JL ?_))
  obtain⟨a8,p8,q8⟩:=cE Je hv (i:=0) (by omega) .i64
  refine ap JL JL JL (p8 _) (al JL (ak JL JL (ai Jf JL q8) (al JL (aj (v:=bp 1) JL JL JL (mF) (aB JL JL JL ?_)))))
  refine ac JL JL (ag (ab (au (az JL JL ?_))))
  exact⟨_,rfl,rfl,by
   first
   |exact congrArg B (decide_eq_false fun h=>h6 (by rw[h1.1 h];rfl)).symm
   |exact congrArg B (decide_eq_decide.2 (by
     rw[h1]
     obtain⟨y,rfl⟩:=List.length_eq_one_iff.1 (show t.length=1 by omega)
     simp))⟩
 ·refine aq JL JL JL (aq JL JL JL (aq JL JL JL (aq JL JL JL (aH JL JL JL (ac JL JL (ag (ab (au (az JL JL ?_)))))))))
  exact⟨_,rfl,rfl,by
   first
   |exact congrArg B (decide_eq_false fun h=>h6 (by rw[h1.1 h];rfl)).symm
   |exact congrArg B (decide_eq_decide.2 (by
     rw[h1]
     obtain⟨y,rfl⟩:=List.length_eq_one_iff.1 (show t.length=1 by omega)
     simp))⟩
theorem xA {w:World} {b:Bool} {n m:List UInt32} {v:Value} (hv:dw b n m v w) (hl:m.length≤1099511627776):
 Calls Tryz.prog 172 #[v] w (bD fun r w'=>aG w w'∧bj (ud m) r w'):=by
 refine enter (vs:=[v]) Tryz.func172 JL JL JL ?_
 refine af (aa ?_)
 obtain⟨g1,y1,z1,w1,hr1,x1,k1,n1,d1⟩:=nw hv
 refine cx JL JL hr1 (ac JL JL (ag (ab (af (af (aa (ah JL JL (aI (o:=2) Jj JL (by kernel_rfl) JL) ?_)))))))
 refine ak JL JL (ai Je JL (k1.cell (i:=2) JL)) (am y9 JL JL (za d1 hl) ?_)
 rintro v5 _ ⟨rfl,rfl⟩
 refine aj JL JL JL (bA) (ag (ab ?_))
 refine ba JL (fun h6=>?_) (fun h6=>?_)
 ·have h0:val m=0:=by
   rcases Nat.eq_zero_or_pos (val m) with h|h
   ·exact h
   ·have:=rk h
    omega
  refine af (aa (am (vs:=[]) Cc JL JL (Cd) ?_))
  rintro v7 w7 ⟨x7,b7⟩
  refine ac JL JL (ag (ab (au (ax (az JL JL ?_)))))
  exact⟨_,rfl,(x1.trans x7),by unfold ud;rw[if_pos h0];exact b7⟩
 ·have h0:val m≠0:=fun h=>h6 (by rw[h];rfl)
  refine ar (ab (af (aa (ah JL JL (aI (o:=2) Jj JL (by kernel_rfl) JL) (ak JL JL (ai Je JL (k1.cell (i:=2) JL)) ?_)))))
  refine ac JL JL (ag (ab (au (az JL JL ?_))))
  exact⟨_,rfl,x1,by unfold ud;rw[if_neg h0];exact d1⟩
theorem zl {w:World} {s:Bool} {n d:List UInt32} {x y:Value} (hn:bj n x w) (hd:bj d y w) (hnl:n.length≤274877906944) (hdl:d.length≤274877906944) (hd0:0<val d):
 Calls Tryz.prog 171 #[B s,x,y] w (bD fun r w'=>aG w w'∧dw (xx s (val n)) (lb (val n/Nat.gcd (val n) (val d))) (vg (val n) (val d)) r w'):=by
 refine enter (vs:=[B s,x,y]) Tryz.func171 JL JL JL ?_
 have hnn:=gi (cq n)
 have hdd:=gi (cq d)
 have hg0:=AR (n:=val n) hd0
 refine af (aa ?_)
 obtain⟨g6,w6,hr6,l6,x6,k6⟩:=gz (w:=w)
 refine bf JL hr6 (ag (ab (af (aa (ae JL JL (am kJ JL JL (kK (hn.ext x6) (by omega)) ?_))))))
 rintro v9 w9 ⟨x9,b9⟩
 refine ac JL JL (ag (ab (af (af (aa (ae JL JL (aP (r:=I ((lb (val n)).length:Int)) JL JL (be Je b9) ?_)))))))
 refine aj JL JL JL (bA) (ag (ab ?_))
 refine ba JL (fun h12=>?_) (fun h12=>?_)
 ·have hn0:val n=0:=fR.1 (by omega)
  refine af (aa ?_)
  refine bI (vs:=[]) JL JL ia ?_
  obtain⟨p,q,w3,hp,hs,q3,k3,n3,d3⟩:=(k6.ext (x9)).stR ⟨_,_,_,rfl⟩ ⟨_,_,_,rfl⟩ (dw.mk (b:=false) (bj.nil _) (bj.nil _))
  refine aC JL JL (hs) (ag (ab (au (ax ?_))))
  refine dB JL JL k3 Jj JL dQ ?_
  exact⟨_,rfl,((x6.trans x9)).of_new q3 l6,p,q,by rw[hn0];unfold xx;simp,by rw[hn0,Nat.zero_div];exact n3,by rw[hn0,Gq hd0];exact d3⟩
 ·have hn0:0<val n:=by
   rcases Nat.eq_zero_or_pos (val n) with h|h
   ·rw[h] at h12;simp[fD] at h12
   ·exact h
  have hcN:xx s (val n)=s:=by unfold xx;rw[decide_eq_true hn0,Bool.and_true]
  rw[hcN]
  refine ar (ab (af (aa (ae JL JL (am kJ JL JL (kK (hd.ext (x6.trans x9)) (by omega)) ?_)))))
  rintro v15 w15 ⟨x15,b15⟩
  refine ac JL JL (ag (ab (af (af (aa (ae JL JL (am ny JL JL (nz b15) ?_)))))))
  rintro v17 _ ⟨rfl,rfl⟩
  refine ag (ab ?_)
  refine ba JL (fun h17=>?_) (fun h17=>?_)
  ·refine af (aa (ae JL JL (ae JL JL ?_)))
   refine bI (vs:=[(0,B s),(1,v9)]) JL JL (Cb b9.isS) ?_
   obtain⟨p,q,w3,hp,hs,q3,k3,n3,d3⟩:=(k6.ext ((x9.trans x15))).stR ⟨_,_,_,rfl⟩ ⟨_,_,_,rfl⟩ (dw.mk (b:=s) (b9.ext (x15)) (bj.nil _))
   refine aC JL JL (hs) (ag (ab (au (ax ?_))))
   refine dB JL JL k3 Jj JL dQ ?_
   exact⟨_,rfl,(((x6.trans x9).trans x15)).of_new q3 l6,p,q,rfl,by rw[h17,Nat.gcd_one_right,Nat.div_one];exact n3,by rw[h17,El];exact d3⟩
  ·obtain⟨g,hg⟩:∃g,g=Nat.gcd (val n) (val d):=⟨_,rfl⟩
   rw[←hg] at hg0⊢
   have hgl:(lb g).length≤d.length:=Nat.le_trans (j3 (by rw[hg];exact Nat.gcd_le_right _ hd0)) hdd
   refine ar (ab (af ?_))
   refine eK (fun p:Value×Value=>[(0,B s),(1,p.1),(2,p.2),(6,.pointer (some ⟨g6,0,none⟩))]) (fun p w'=>aG w15 w'∧bj (lb (val n/g)) p.1 w'∧bj (lb (val d/g)) p.2 w') ?_ ?_
   ·refine af (aa (ae JL JL (ae JL JL (am B0 JL JL ((by have:=B7 (b9.ext x15) b15 (by omega) (by omega);rw[bH,bH] at this;exact this)) ?_))))
    rintro v23 w23 ⟨x23,b23⟩
    rw[←hg] at b23
    refine ac JL JL (ag (ab (af (aa (ae JL JL (am ny JL JL (nz b23) ?_))))))
    rintro v25 _ ⟨rfl,rfl⟩
    refine bB JL JL uQ (ag (ab ?_))
    refine ba JL (fun h26=>?_) (fun h26=>?_)
    ·refine af (aa (ae JL JL (ae JL JL (am iV JL JL ((by have:=iW (b9.ext (x15.trans x23)) b23 (by omega) (by omega) (by rw[bH];exact hg0);rw[bH,bH] at this;exact this)) ?_))))
     rintro v30 w30 ⟨x30,q1,s1,rfl,c1,e1⟩
     refine ae JL JL (an JL JL (dZ) (an JL JL d5 (an JL JL d6 (ac JL JL (ag (ab (aa (ae JL JL (ae JL JL ?_)))))))))
     refine am iV JL JL ((by have:=iW (b15.ext (x23.trans x30)) (b23.ext x30) (by omega) (by omega) (by rw[bH];exact hg0);rw[bH,bH] at this;exact this)) ?_
     rintro v37 w37 ⟨x37,q2,s2,rfl,c2,e2⟩
     refine ae JL JL (an JL JL (dZ) (an JL JL d5 (an JL JL d6 (ac JL JL (ag ?_)))))
     exact cr (q1,q2) ⟨rfl,rfl,rfl,rfl,trivial⟩ ⟨((x23.trans x30).trans x37),by first|exact(c1.ext x37)|(rw[show g=1 from Classical.byContradiction fun h=>h26 h,Nat.div_one];exact(c1.ext x37)),by first|exact c2|(rw[show g=1 from Classical.byContradiction fun h=>h26 h,Nat.div_one];exact c2)⟩
    ·refine ar ?_
     exact cr (v9,v15) ⟨rfl,rfl,rfl,rfl,trivial⟩ ⟨x23,by first|exact(b9.ext (x15.trans x23))|(rw[show g=1 from Classical.byContradiction fun h=>h26 h,Nat.div_one];exact(b9.ext (x15.trans x23))),by first|exact(b15.ext x23)|(rw[show g=1 from Classical.byContradiction fun h=>h26 h,Nat.div_one];exact(b15.ext x23))⟩
   rintro⟨v1,v2⟩ w8 ⟨x8,b1,b2⟩
   refine ab (af ?_)
   refine eK (fun p:Value=>[(0,B s),(1,v1),(2,p),(6,.pointer (some ⟨g6,0,none⟩))]) (fun p w'=>w8=w'∧bj (vg (val n) (val d)) p w') ?_ ?_
   ·refine af (aa (ae JL JL (am ny JL JL (nz b2) ?_)))
    rintro v42 _ ⟨rfl,rfl⟩
    refine ag (ab ?_)
    refine ba JL (fun h42=>?_) (fun h42=>?_)
    ·refine aa (ac JL JL (ag ?_))
     exact cr (.slice none 0 0) ⟨rfl,rfl,rfl,rfl,trivial⟩ ⟨rfl,by unfold vg;rw[←hg];first|(rw[if_pos h42];exact bj.nil _)|(rw[if_neg h42];exact b2)⟩
    ·refine ar ?_
     exact cr (v2) ⟨rfl,rfl,rfl,rfl,trivial⟩ ⟨rfl,by unfold vg;rw[←hg];first|(rw[if_pos h42];exact bj.nil _)|(rw[if_neg h42];exact b2)⟩
   rintro v2' _ ⟨rfl,b2'⟩
   refine ab (af (aa (ae JL JL (ae JL JL (ae JL JL ?_)))))
   refine bI (vs:=[(0,B s),(1,v1),(2,v2')]) JL JL (j5 b1.isS b2'.isS) ?_
   obtain⟨p,q,w3,hp,hs,q3,k3,n3,d3⟩:=(k6.ext (((x9.trans x15).trans x8))).stR ⟨_,_,_,rfl⟩ ⟨_,_,_,rfl⟩ (dw.mk (b:=s) b1 b2')
   refine aC JL JL (hs) (ag (ab (au ?_)))
   refine dB JL JL k3 Jj JL dQ ?_
   exact⟨_,rfl,((((x6.trans x9).trans x15).trans x8)).of_new q3 l6,p,q,rfl,n3,d3⟩
theorem Em {m:List UInt32} (h:m.length≤137438953472):(ud m).length≤137438953472:=by
 unfold ud
 split
 ·simp
 ·exact h
theorem xB {w:World} {b:Bool} {n m:List UInt32} {v:Value} (hv:dw b n m v w) (hnl:n.length≤137438953472) (hml:m.length≤137438953472):
 Calls Tryz.prog 140 #[v] w (bD fun r w'=>aG w w'∧dw (xx b (val n)) (lb (val n/Nat.gcd (val n) (val (ud m)))) (vg (val n) (val (ud m))) r w'):=by
 refine enter (vs:=[v]) Tryz.func140 JL JL JL ?_
 refine af (aa ?_)
 obtain⟨g1,y1,z1,w1,hr1,x1,k1,n1,d1⟩:=nw hv
 refine cx JL JL hr1 ?_
 obtain⟨g2,w2,hr2,l2,x2,k2⟩:=gz (w:=w1)
 refine bf JL hr2 (ag (ab (af (bm 7 [2,9] (by kernel_rfl) (by kernel_rfl) ?_))))
 refine aF JL JL (fun w hw=>aI (o:=0) Jj JL (by kernel_rfl) JL) (aD JL JL (fun w hw=>ai Jq JL (hw.cell_some (x2.cell_some (k1.cell (i:=0) JL)))) ?_)
 refine aF JL JL (fun w hw=>aI (o:=1) Jj JL (by kernel_rfl) JL) (aD JL JL (fun w hw=>ai Je JL (hw.cell_some (x2.cell_some (k1.cell (i:=1) JL)))) ?_)
 refine aD rfl rfl (fun w hw=>((k1.ext x2).ext hw).ldR) (bW (S:=bj (ud m)) xy (bj.stable _) rfl (fun w hw=>by rintro _ rfl;exact xA (((dw.mk n1 d1).ext x2).ext hw) (by omega)) ?_)
 refine bW (S:=dw (xx b (val n)) (lb (val n/Nat.gcd (val n) (val (ud m)))) (vg (val n) (val (ud m)))) zk (dw.stable _ _ _) rfl (fun w hw=>by rintro _ rfl _ rfl z hz;exact zl ((n1.ext x2).ext hw) hz (by omega) (by have:=Em hml;omega) (Ej m)) ?_
 refine bu ?_
 intro wg1 xg1
 rintro _ rfl
 intro vg9 b9
 obtain⟨p,q,w3,hp,hs,q3,k3,n3,d3⟩:=(k2.ext xg1).stR ⟨_,_,_,rfl⟩ ⟨_,_,_,rfl⟩ b9
 refine aC JL JL (hs) (ag (ab (au ?_)))
 refine dB JL JL k3 Jj JL dQ ?_
 exact⟨_,rfl,(((x1.trans x2).trans xg1)).of_new q3 (Nat.le_trans x1.size l2),p,q,rfl,n3,d3⟩
theorem cJ {x y:Nat}:pl x y=0↔x=y:=by
 unfold pl
 split
 ·omega
 ·split<;>omega
theorem vh {b:Bool} {n:List UInt32}:rv b n []=decide (b=xx b (val n)∧n=lb (val n)):=by
 unfold rv
 rw[show val (ud [])=1 from rfl,Nat.gcd_one_right,Nat.div_one,El]
 simp
theorem lS {w:World} {b:Bool} {n m:List UInt32} {v:Value} (hv:dw b n m v w) (hnl:n.length≤137438953472) (hml:m.length≤137438953472):
 Calls Tryz.prog 96 #[v] w (bD fun r w'=>aG w w'∧r=B (rv b n m)):=by
 refine enter (vs:=[v]) Tryz.func96 JL JL JL ?_
 obtain⟨b',hb'⟩:∃b',b'=xx b (val n):=⟨_,rfl⟩
 obtain⟨n',hn'⟩:∃n',n'=lb (val n/Nat.gcd (val n) (val (ud m))):=⟨_,rfl⟩
 obtain⟨m',hm'⟩:∃m',m'=vg (val n) (val (ud m)):=⟨_,rfl⟩
 have hrv:rv b n m=decide (b=b'∧n=n'∧m=m'):=by rw[hb',hn',hm'];rfl
 refine af (aa ?_)
 obtain⟨g1,y1,z1,w1,hr1,x1,k1,n1,d1⟩:=nw hv
 refine cx JL JL hr1 (ac JL JL (ag (ab (af (af (aa (ah JL JL (aI (o:=2) Jj JL (by kernel_rfl) JL) ?_)))))))
 refine ak JL JL (ai Je JL (k1.cell (i:=2) JL)) (aP JL JL (be Je d1) (aj JL JL JL (bA) ?_))
 refine ag (ab ?_)
 refine ba JL (fun h7=>?_) (fun h7=>?_)
 ·have hm0:m=[]:=List.eq_nil_of_length_eq_zero (by omega)
  subst hm0
  refine af ?_
  cases b
  ·refine aa (ah JL JL (aI (o:=1) Jj JL (by kernel_rfl) JL) (ak JL JL (ai Je JL (k1.cell (i:=1) JL)) ?_))
   refine am pY JL JL (pZ n1) ?_
   rintro v10 _ ⟨rfl,rfl⟩
   refine ae JL JL ?_
   refine cW (fun h11=>?_) (fun h11=>?_)
   ·refine al JL (ah JL JL (aI (o:=0) Jj JL (by kernel_rfl) JL) (al JL (ak JL JL (ai Jq JL (k1.cell (i:=0) JL)) ?_)))
    refine al JL (bB JL JL bF (al JL (ae JL JL (aq JL JL JL (aq JL JL JL (aq JL JL JL (aq JL JL JL (al JL (aB JL JL JL (aB JL JL JL ?_))))))))))
    refine ac JL JL (ag (ab (au (ax (az JL JL ?_)))))
    exact⟨_,rfl,x1,by
     rw[vh]
     first
     |exact congrArg B (decide_eq_true ⟨rfl,h11.symm⟩).symm
     |exact congrArg B (decide_eq_false fun h=>h11 h.2.symm).symm
     |(have e:=@fR (val n)
       rw[h11] at e
       refine congrArg B (decide_eq_decide.2 ⟨fun h=>⟨(decide_eq_true (show 0<val n by omega)).symm,h11.symm⟩,fun h=>?_⟩)
       have:0<val n:=of_decide_eq_true h.1.symm
       omega)⟩
   ·refine aq JL JL JL (aq JL JL JL (aq JL JL JL (aq JL JL JL (ik JL JL JL (ik JL JL JL (ik JL JL JL (ik JL JL JL (aq JL JL JL ?_))))))))
    refine aH JL JL JL (ac JL JL (ag (ab (au (ax (az JL JL ?_))))))
    exact⟨_,rfl,x1,by
     rw[vh]
     first
     |exact congrArg B (decide_eq_true ⟨rfl,h11.symm⟩).symm
     |exact congrArg B (decide_eq_false fun h=>h11 h.2.symm).symm
     |(have e:=@fR (val n)
       rw[h11] at e
       refine congrArg B (decide_eq_decide.2 ⟨fun h=>⟨(decide_eq_true (show 0<val n by omega)).symm,h11.symm⟩,fun h=>?_⟩)
       have:0<val n:=of_decide_eq_true h.1.symm
       omega)⟩
  ·refine aa (ah JL JL (aI (o:=1) Jj JL (by kernel_rfl) JL) (ak JL JL (ai Je JL (k1.cell (i:=1) JL)) ?_))
   refine am pY JL JL (pZ n1) ?_
   rintro v10 _ ⟨rfl,rfl⟩
   refine ae JL JL ?_
   refine cW (fun h11=>?_) (fun h11=>?_)
   ·refine al JL (ah JL JL (aI (o:=0) Jj JL (by kernel_rfl) JL) (al JL (ak JL JL (ai Jq JL (k1.cell (i:=0) JL)) ?_)))
    refine al JL (bB JL JL bF (al JL (ae JL JL (al JL (ah JL JL (aI (o:=1) Jj JL (by kernel_rfl) JL) ?_)))))
    refine al JL (ak JL JL (ai Je JL (k1.cell (i:=1) JL)) (al JL (aP JL JL (be Je n1) ?_)))
    refine al JL (aj JL JL JL (cg) (al JL (aH JL JL JL (aB JL JL JL (ac JL JL (ag (ab (au (ax (az JL JL ?_))))))))))
    exact⟨_,rfl,x1,by
     rw[vh]
     first
     |exact congrArg B (decide_eq_true ⟨rfl,h11.symm⟩).symm
     |exact congrArg B (decide_eq_false fun h=>h11 h.2.symm).symm
     |(have e:=@fR (val n)
       rw[h11] at e
       refine congrArg B (decide_eq_decide.2 ⟨fun h=>⟨(decide_eq_true (show 0<val n by omega)).symm,h11.symm⟩,fun h=>?_⟩)
       have:0<val n:=of_decide_eq_true h.1.symm
       omega)⟩
   ·refine aq JL JL JL (aq JL JL JL (aq JL JL JL (aq JL JL JL (ik JL JL JL (ik JL JL JL (ik JL JL JL (ik JL JL JL (aq JL JL JL ?_))))))))
    refine aH JL JL JL (ac JL JL (ag (ab (au (ax (az JL JL ?_))))))
    exact⟨_,rfl,x1,by
     rw[vh]
     first
     |exact congrArg B (decide_eq_true ⟨rfl,h11.symm⟩).symm
     |exact congrArg B (decide_eq_false fun h=>h11 h.2.symm).symm
     |(have e:=@fR (val n)
       rw[h11] at e
       refine congrArg B (decide_eq_decide.2 ⟨fun h=>⟨(decide_eq_true (show 0<val n by omega)).symm,h11.symm⟩,fun h=>?_⟩)
       have:0<val n:=of_decide_eq_true h.1.symm
       omega)⟩
 ·refine ar (ab (af (aa (ak JL JL (k1.ldR) (am xz JL JL (xB (dw.mk n1 d1) hnl hml) ?_)))))
  rintro v23 w23 ⟨x23,b23⟩
  rw[←hb',←hn',←hm'] at b23
  obtain⟨g3,w3,hr3,l3,x3,k3⟩:=gz (w:=w23)
  refine bf JL hr3 ?_
  obtain⟨p,q,w4,hp,hs,q4,k4,n3,d3⟩:=k3.stR ⟨_,_,_,rfl⟩ ⟨_,_,_,rfl⟩ (b23.ext x3)
  refine aC JL JL (hs) ?_
  have x4:=(x23.trans x3).of_new q4 (Nat.le_trans x23.size l3)
  refine ag (ab (af (aa (ah JL JL (aI (o:=0) Jj JL (by kernel_rfl) JL) (ak JL JL (ai Jq JL (x4.cell_some (k1.cell (i:=0) JL))) ?_)))))
  refine ah JL JL (aI (o:=0) Jj JL (by kernel_rfl) JL) (ak JL JL (ai Jq JL (k4.cell (i:=0) JL)) ?_)
  refine aj JL JL JL (ve Jq) (ae JL JL ?_)
  refine cW (fun h29=>?_) (fun h29=>?_)
  ·refine al JL (ah JL JL (aI (o:=1) Jj JL (by kernel_rfl) JL) (al JL (ak JL JL (ai Je JL (x4.cell_some (k1.cell (i:=1) JL))) ?_)))
   refine al JL (aP JL JL (be Je (n1.ext x4)) (al JL (ah JL JL (aI (o:=1) Jj JL (by kernel_rfl) JL) ?_)))
   refine al JL (ak JL JL (ai Je JL (k4.cell (i:=1) JL)) (al JL (aP JL JL (be Je n3) ?_)))
   refine al JL (aj JL JL JL (bA) (aB JL JL JL (ae JL JL ?_)))
   refine cW (fun h38=>?_) (fun h38=>?_)
   ·refine al JL (ah JL JL (aI (o:=2) Jj JL (by kernel_rfl) JL) (al JL (ak JL JL (ai Je JL (x4.cell_some (k1.cell (i:=2) JL))) ?_)))
    refine al JL (aP JL JL (be Je (d1.ext x4)) (al JL (ah JL JL (aI (o:=2) Jj JL (by kernel_rfl) JL) ?_)))
    refine al JL (ak JL JL (ai Je JL (k4.cell (i:=2) JL)) (al JL (aP JL JL (be Je d3) ?_)))
    refine al JL (aj JL JL JL (bA) (aB JL JL JL (ae JL JL ?_)))
    refine cW (fun h47=>?_) (fun h47=>?_)
    ·refine al JL (ah JL JL (aI (o:=1) Jj JL (by kernel_rfl) JL) (al JL (ak JL JL (ai Je JL (x4.cell_some (k1.cell (i:=1) JL))) ?_)))
     refine al JL (ah JL JL (aI (o:=1) Jj JL (by kernel_rfl) JL) (al JL (ak JL JL (ai Je JL (k4.cell (i:=1) JL)) ?_)))
     refine al JL (am pm JL JL (po (n1.ext x4) n3) ?_)
     rintro v52 w52 ⟨x52,rfl⟩
     refine al JL (aj JL JL JL (bA) (aB JL JL JL (ae JL JL ?_)))
     refine cW (fun h55=>?_) (fun h55=>?_)
     ·refine al JL (ah JL JL (aI (o:=2) Jj JL (by kernel_rfl) JL) (al JL (ak JL JL (ai Je JL ((x4.trans x52).cell_some (k1.cell (i:=2) JL))) ?_)))
      refine al JL (ah JL JL (aI (o:=2) Jj JL (by kernel_rfl) JL) (al JL (ak JL JL (ai Je JL (x52.cell_some (k4.cell (i:=2) JL))) ?_)))
      refine al JL (am pm JL JL (po (d1.ext (x4.trans x52)) (d3.ext x52)) ?_)
      rintro v60 w60 ⟨x60,rfl⟩
      refine al JL (aj JL JL JL (bA) (aB JL JL JL (ac JL JL (ag (ab (au (az JL JL ?_)))))))
      exact⟨_,rfl,(((x1.trans x4).trans x52).trans x60),by
       rw[hrv]
       first
       |exact congrArg B (decide_eq_decide.2 ⟨fun h=>⟨h29,gA (by omega) (cJ.1 h55),gA (by omega) (cJ.1 h)⟩,fun h=>cJ.2 (by rw[h.2.2])⟩)
       |exact congrArg B (decide_eq_false fun h=>h55 (cJ.2 (by rw[h.2.1]))).symm
       |exact congrArg B (decide_eq_false fun h=>h47 (by rw[h.2.2])).symm
       |exact congrArg B (decide_eq_false fun h=>h38 (by rw[h.2.1])).symm
       |exact congrArg B (decide_eq_false fun h=>h29 h.1).symm⟩
     ·refine aq JL JL JL (aq JL JL JL (aq JL JL JL (aq JL JL JL (aq JL JL JL (aq JL JL JL (aH JL JL JL (ac JL JL (ag (ab (au (az JL JL ?_)))))))))))
      exact⟨_,rfl,((x1.trans x4).trans x52),by
       rw[hrv]
       first
       |exact congrArg B (decide_eq_decide.2 ⟨fun h=>⟨h29,gA (by omega) (cJ.1 h55),gA (by omega) (cJ.1 h)⟩,fun h=>cJ.2 (by rw[h.2.2])⟩)
       |exact congrArg B (decide_eq_false fun h=>h55 (cJ.2 (by rw[h.2.1]))).symm
       |exact congrArg B (decide_eq_false fun h=>h47 (by rw[h.2.2])).symm
       |exact congrArg B (decide_eq_false fun h=>h38 (by rw[h.2.1])).symm
       |exact congrArg B (decide_eq_false fun h=>h29 h.1).symm⟩
    ·refine aq JL JL JL (aq JL JL JL (aq JL JL JL (aq JL JL JL (aq JL JL JL (aq JL JL JL (aH JL JL JL (ae JL JL (aq JL JL JL (aq JL JL JL ?_)))))))))
     refine aq JL JL JL (aq JL JL JL (aq JL JL JL (aq JL JL JL (aH JL JL JL (ac JL JL (ag (ab (au (az JL JL ?_)))))))))
     exact⟨_,rfl,(x1.trans x4),by
      rw[hrv]
      first
      |exact congrArg B (decide_eq_decide.2 ⟨fun h=>⟨h29,gA (by omega) (cJ.1 h55),gA (by omega) (cJ.1 h)⟩,fun h=>cJ.2 (by rw[h.2.2])⟩)
      |exact congrArg B (decide_eq_false fun h=>h55 (cJ.2 (by rw[h.2.1]))).symm
      |exact congrArg B (decide_eq_false fun h=>h47 (by rw[h.2.2])).symm
      |exact congrArg B (decide_eq_false fun h=>h38 (by rw[h.2.1])).symm
      |exact congrArg B (decide_eq_false fun h=>h29 h.1).symm⟩
   ·refine aq JL JL JL (aq JL JL JL (aq JL JL JL (aq JL JL JL (aq JL JL JL (aq JL JL JL (aq JL JL JL (aH JL JL JL (ae JL JL (aq JL JL JL ?_)))))))))
    refine aq JL JL JL (aq JL JL JL (aq JL JL JL (aq JL JL JL (aq JL JL JL (aH JL JL JL (ae JL JL (aq JL JL JL (aq JL JL JL (aq JL JL JL ?_)))))))))
    refine aq JL JL JL (aq JL JL JL (aq JL JL JL (aH JL JL JL (ac JL JL (ag (ab (au (az JL JL ?_))))))))
    exact⟨_,rfl,(x1.trans x4),by
     rw[hrv]
     first
     |exact congrArg B (decide_eq_decide.2 ⟨fun h=>⟨h29,gA (by omega) (cJ.1 h55),gA (by omega) (cJ.1 h)⟩,fun h=>cJ.2 (by rw[h.2.2])⟩)
     |exact congrArg B (decide_eq_false fun h=>h55 (cJ.2 (by rw[h.2.1]))).symm
     |exact congrArg B (decide_eq_false fun h=>h47 (by rw[h.2.2])).symm
     |exact congrArg B (decide_eq_false fun h=>h38 (by rw[h.2.1])).symm
     |exact congrArg B (decide_eq_false fun h=>h29 h.1).symm⟩
  ·refine aq JL JL JL (aq JL JL JL (aq JL JL JL (aq JL JL JL (aq JL JL JL (aq JL JL JL (aq JL JL JL (aH JL JL JL (ae JL JL (aq JL JL JL ?_)))))))))
   refine aq JL JL JL (aq JL JL JL (aq JL JL JL (aq JL JL JL (aq JL JL JL (aq JL JL JL (aH JL JL JL (ae JL JL (aq JL JL JL (aq JL JL JL ?_)))))))))
   refine aq JL JL JL (aq JL JL JL (aq JL JL JL (aq JL JL JL (aH JL JL JL (ae JL JL (aq JL JL JL (aq JL JL JL (aq JL JL JL (aq JL JL JL ?_)))))))))
   refine aq JL JL JL (aq JL JL JL (aH JL JL JL (ac JL JL (ag (ab (au (az JL JL ?_)))))))
   exact⟨_,rfl,(x1.trans x4),by
    rw[hrv]
    first
    |exact congrArg B (decide_eq_decide.2 ⟨fun h=>⟨h29,gA (by omega) (cJ.1 h55),gA (by omega) (cJ.1 h)⟩,fun h=>cJ.2 (by rw[h.2.2])⟩)
    |exact congrArg B (decide_eq_false fun h=>h55 (cJ.2 (by rw[h.2.1]))).symm
    |exact congrArg B (decide_eq_false fun h=>h47 (by rw[h.2.2])).symm
    |exact congrArg B (decide_eq_false fun h=>h38 (by rw[h.2.1])).symm
    |exact congrArg B (decide_eq_false fun h=>h29 h.1).symm⟩
end Go.Rl
namespace Go.Rl
open Go.RowKit Go.Proofs
theorem Ce:aw Tryz.prog 169:=⟨_,Tryz.func169,by kernel_rfl,rfl⟩
theorem zm:aw Tryz.prog 168:=⟨_,Tryz.func168,by kernel_rfl,rfl⟩
theorem xC:aw Tryz.prog 135:=⟨_,Tryz.func135,by kernel_rfl,rfl⟩
theorem rN:aw Tryz.prog 134:=⟨_,Tryz.func134,by kernel_rfl,rfl⟩
theorem Cf {w:World} {m:List UInt32} {v:Value} (hv:bj m v w) (hl:m.length≤137438953472):
 Calls Tryz.prog 169 #[v] w (bD fun r w'=>aG w w'∧bj (lb (val (ud m))) r w'):=by
 refine enter (vs:=[v]) Tryz.func169 JL JL JL ?_
 obtain⟨t,ht⟩:∃t,t=lb (val m):=⟨_,rfl⟩
 refine af (aa (ac JL JL (ag (ab (af (aa (ae JL JL (am eA JL JL (fc hv (by omega)) ?_))))))))
 rintro v5 w5 ⟨x5,b5⟩
 rw[←ht] at b5
 refine ac JL JL (ag (ab (af (af (aa (ae JL JL (aP JL JL (be Je b5) (aj JL JL JL (bA) (ag ?_)))))))))
 refine ab ?_
 refine ba JL (fun h8=>?_) (fun h8=>?_)
 ·have h0:val m=0:=fR.1 (by rw[←ht];omega)
  refine af (aa ?_)
  obtain⟨v9,w9,hr9,x9,o9,ob9⟩:=iC Tryz.underlying53 (w:=w5) w5.heap.size [1] (by simp) (Nat.le_refl _)
  refine aJ (vs:=[(0,bp (1))]) JL JL hr9 (ac JL JL (ag (ab (au (ax (az JL JL ?_))))))
  exact⟨_,rfl,(x5.trans x9),by rw[zj,if_pos h0,vf];exact o9.wds⟩
 ·have h0:val m≠0:=fun h=>h8 (by rw[ht,h];rfl)
  refine ar (ab (af (aa (ae JL JL (ac JL JL (ag (ab (au (az JL JL ?_)))))))))
  exact⟨_,rfl,x5,by rw[zj,if_neg h0,←ht];exact b5⟩
theorem zn {w:World} {s:Bool} {n d:List UInt32} {x y:Value} (hn:bj n x w) (hd:bj d y w) (hnl:n.length≤274877906944) (hdl:d.length≤274877906944) (hd0:0<val d):
 Calls Tryz.prog 168 #[B s,x,y] w (bD fun r w'=>aG w w'∧dw (xx s (val n)) (lb (val n/Nat.gcd (val n) (val d))) (vg (val n) (val d)) r w'):=by
 refine enter (vs:=[B s,x,y]) Tryz.func168 JL JL JL ?_
 have hg0:=AR (n:=val n) hd0
 obtain⟨g,hg⟩:∃g,g=Nat.gcd (val n) (val d):=⟨_,rfl⟩
 have hgl:(lb g).length≤d.length:=Nat.le_trans (j3 (by rw[hg];exact Nat.gcd_le_right _ hd0)) (gi (cq d))
 obtain⟨e,he⟩:∃e,e=lb (val d/g):=⟨_,rfl⟩
 obtain⟨a,ha⟩:∃a,a=lb (val n/g):=⟨_,rfl⟩
 have hc:decide ((a.length:Int)>0)=decide (0<val n):=by
  have e0:=@fR (val n/g)
  have e1:val n/g=0↔val n=0:=by
   rw[hg]
   constructor
   ·intro h
    have:=Nat.div_mul_cancel (Nat.gcd_dvd_left (val n) (val d))
    rw[h] at this;omega
   ·intro h
    rw[h,Nat.zero_div]
  rw[←ha] at e0
  exact decide_eq_decide.2 (by omega)
 have hq:vg (val n) (val d)=if e=[1] then[] else e:=by
  unfold vg
  rw[←hg]
  by_cases h1:val d/g=1
  ·rw[if_pos h1,if_pos (by rw[he,h1,vf])]
  ·rw[if_neg h1,if_neg (fun h=>h1 (Ek.1 (he▸h))),he]
 rw[←hg] at hg0⊢
 rw[←ha]
 refine af (aa ?_)
 obtain⟨g6,w6,hr6,l6,x6,k6⟩:=gz (w:=w)
 refine bf JL hr6 (ag (ab (af (aa (ae JL JL (ae JL JL (am BZ JL JL (B1 (hn.ext x6) (hd.ext x6) hnl hdl) ?_)))))))
 rintro v16 w16 ⟨x16,b16⟩
 rw[←hg] at b16
 refine ac JL JL (ag (ab (af (aa (ae JL JL (ae JL JL (am kO JL JL ((by have:=kP (hn.ext (x6.trans x16)) b16 hnl (by omega) (by rw[bH];exact hg0);rw[bH,←ha] at this;exact this)) ?_)))))))
 rintro v20 w20 ⟨x20,q1,r1,rfl,s1,u1⟩
 refine ae JL JL (an JL JL (dZ) (an JL JL d5 (an JL JL d6 (ac JL JL (ac JL JL (ac JL JL (ag (ab ?_))))))))
 refine af (aa (ae JL JL (ae JL JL (am kO JL JL ((by have:=kP (hd.ext ((x6.trans x16).trans x20)) (b16.ext x20) hdl (by omega) (by rw[bH];exact hg0);rw[bH,←he] at this;exact this)) ?_))))
 rintro v27 w27 ⟨x27,q2,r2,rfl,s2,u2⟩
 refine ae JL JL (an JL JL (dZ) (an JL JL d5 (an JL JL d6 (ac JL JL (ac JL JL (ac JL JL (ag (ab ?_))))))))
 refine af ?_
 refine eK (fun p:Value=>[(0,B s),(8,q1),(11,p),(6,.pointer (some ⟨g6,0,none⟩))]) (fun p w'=>w27=w'∧bj (vg (val n) (val d)) p w') ?_ ?_
 ·refine af (aa (ae JL JL (aP JL JL (be Je s2) (aj JL JL JL (bA) (ae JL JL ?_)))))
  refine cW (fun h34=>?_) (fun h34=>?_)
  ·refine al JL (ae JL JL (al JL ?_))
   obtain⟨a36,p36,q36⟩:=cE Je s2 (i:=0) (by omega) .i64
   refine ap JL JL JL (p36 _) (al JL (ak JL JL (ai Jf JL q36) (al JL (aj (v:=bp 1) JL JL JL (mF) (aB JL JL JL ?_)))))
   refine ag (ab ?_)
   refine ba JL (fun h39=>?_) (fun h39=>?_)
   ·refine aa (ac JL JL (ag ?_))
    exact cr (.slice none 0 0) ⟨rfl,rfl,rfl,rfl,trivial⟩ ⟨rfl,by
     rw[hq]
     first
     |(rw[if_pos (by
        obtain⟨y,rfl⟩:=List.length_eq_one_iff.1 (show e.length=1 by omega)
        simpa using h39)];exact bj.nil _)
     |(rw[if_neg (fun h=>by subst h;exact h39 rfl)];exact s2)
     |(rw[if_neg (fun h=>by subst h;exact h34 rfl)];exact s2)⟩
   ·refine ar ?_
    exact cr (q2) ⟨rfl,rfl,rfl,rfl,trivial⟩ ⟨rfl,by
     rw[hq]
     first
     |(rw[if_pos (by
        obtain⟨y,rfl⟩:=List.length_eq_one_iff.1 (show e.length=1 by omega)
        simpa using h39)];exact bj.nil _)
     |(rw[if_neg (fun h=>by subst h;exact h39 rfl)];exact s2)
     |(rw[if_neg (fun h=>by subst h;exact h34 rfl)];exact s2)⟩
  ·refine aq JL JL JL (aq JL JL JL (aq JL JL JL (aq JL JL JL (aH JL JL JL (ag (ab (dI JL (ar ?_))))))))
   exact cr (q2) ⟨rfl,rfl,rfl,rfl,trivial⟩ ⟨rfl,by
    rw[hq]
    first
    |(rw[if_pos (by
       obtain⟨y,rfl⟩:=List.length_eq_one_iff.1 (show e.length=1 by omega)
       simpa using h39)];exact bj.nil _)
    |(rw[if_neg (fun h=>by subst h;exact h39 rfl)];exact s2)
    |(rw[if_neg (fun h=>by subst h;exact h34 rfl)];exact s2)⟩
 rintro v11 _ ⟨rfl,b11⟩
 refine ab (af ?_)
 cases s
 ·refine aa (ae JL JL (ae JL JL (aq JL JL JL (aq JL JL JL (aq JL JL JL (aH JL JL JL (ae JL JL (ae JL JL ?_))))))))
  refine bI (vs:=[(0,B (xx false (val n))),(1,q1),(2,v11)]) JL JL (j5 s1.isS b11.isS) ?_
  obtain⟨p,q,w3,hp,hs,q3,k3,n3,d3⟩:=(k6.ext (((x16.trans x20).trans x27))).stR ⟨_,_,_,rfl⟩ ⟨_,_,_,rfl⟩ (dw.mk (b:=xx false (val n)) (s1.ext x27) b11)
  refine aC JL JL (hs) (ag (ab (au ?_)))
  refine dB JL JL k3 Jj JL dQ ?_
  exact⟨_,rfl,((((x6.trans x16).trans x20).trans x27)).of_new q3 l6,p,q,rfl,n3,d3⟩
 ·refine aa (ae JL JL (ae JL JL (al JL (ae JL JL (al JL (aP JL JL (be Je (s1.ext x27)) (al JL (aj JL JL JL (cg) ?_))))))))
  rw[hc]
  refine aB JL JL JL (ae JL JL (ae JL JL ?_))
  refine bI (vs:=[(0,B (xx true (val n))),(1,q1),(2,v11)]) JL JL (j5 s1.isS b11.isS) ?_
  obtain⟨p,q,w3,hp,hs,q3,k3,n3,d3⟩:=(k6.ext (((x16.trans x20).trans x27))).stR ⟨_,_,_,rfl⟩ ⟨_,_,_,rfl⟩ (dw.mk (b:=xx true (val n)) (s1.ext x27) b11)
  refine aC JL JL (hs) (ag (ab (au ?_)))
  refine dB JL JL k3 Jj JL dQ ?_
  exact⟨_,rfl,((((x6.trans x16).trans x20).trans x27)).of_new q3 l6,p,q,rfl,n3,d3⟩
theorem xD {w:World} {b:Bool} {n m:List UInt32} {v:Value} (hv:dw b n m v w) (hnl:n.length≤137438953472) (hml:m.length≤137438953472):
 Calls Tryz.prog 135 #[v] w (bD fun r w'=>aG w w'∧dw (xx b (val n)) (lb (val n/Nat.gcd (val n) (val (ud m)))) (vg (val n) (val (ud m))) r w'):=by
 refine enter (vs:=[v]) Tryz.func135 JL JL JL ?_
 have hu:(lb (val (ud m))).length≤137438953472:=Nat.le_trans (gi (cq _)) (Em hml)
 refine af (aa ?_)
 obtain⟨g1,y1,z1,w1,hr1,x1,k1,n1,d1⟩:=nw hv
 refine cx JL JL hr1 ?_
 obtain⟨g2,w2,hr2,l2,x2,k2⟩:=gz (w:=w1)
 refine bf JL hr2 (ag (ab (af (bm 8 [2,10] (by kernel_rfl) (by kernel_rfl) ?_))))
 refine aF JL JL (fun w hw=>aI (o:=0) Jj JL (by kernel_rfl) JL) (aD JL JL (fun w hw=>ai Jq JL (hw.cell_some (x2.cell_some (k1.cell (i:=0) JL)))) ?_)
 refine aF JL JL (fun w hw=>aI (o:=1) Jj JL (by kernel_rfl) JL) (aD JL JL (fun w hw=>ai Je JL (hw.cell_some (x2.cell_some (k1.cell (i:=1) JL)))) ?_)
 refine aF JL JL (fun w hw=>aI (o:=2) Jj JL (by kernel_rfl) JL) (aD JL JL (fun w hw=>ai Je JL (hw.cell_some (x2.cell_some (k1.cell (i:=2) JL)))) ?_)
 refine bW (S:=bj (lb (val (ud m)))) Ce (bj.stable _) rfl (fun w hw=>by rintro _ rfl;exact Cf ((d1.ext x2).ext hw) hml) (bW (S:=dw (xx b (val n)) (lb (val n/Nat.gcd (val n) (val (ud m)))) (vg (val n) (val (ud m)))) zm (dw.stable _ _ _) rfl (fun w hw=>by rintro _ rfl _ rfl z hz;have:=zn (s:=b) ((n1.ext x2).ext hw) hz (by omega) (by omega) (by rw[bH];exact Ej m);rw[bH] at this;exact this) ?_)
 refine bu ?_
 intro wg1 xg1
 rintro _ rfl
 intro vg10 b9
 obtain⟨p,q,w3,hp,hs,q3,k3,n3,d3⟩:=(k2.ext xg1).stR ⟨_,_,_,rfl⟩ ⟨_,_,_,rfl⟩ b9
 refine aC JL JL (hs) (ag (ab (au ?_)))
 refine dB JL JL k3 Jj JL dQ ?_
 exact⟨_,rfl,(((x1.trans x2).trans xg1)).of_new q3 (Nat.le_trans x1.size l2),p,q,rfl,n3,d3⟩
theorem rO {w:World} {a b:Bool} {n m p q:List UInt32} {v u:Value} (hv:dw a n m v w) (hu:dw b p q u w):
 Calls Tryz.prog 134 #[v,u] w (bD fun r w'=>aG w w'∧r=B (decide (a=b∧n=p∧m=q))):=by
 refine enter (vs:=[v,u]) Tryz.func134 JL JL JL ?_
 refine af (aa ?_)
 obtain⟨g2,y2,z2,w2,hr2,x2,k2,n2,d2⟩:=nw hv
 refine cx JL JL hr2 ?_
 obtain⟨g3,y3,z3,w3,hr3,x3,k3,n3,d3⟩:=nw (hu.ext x2)
 refine cx JL JL hr3 (ac JL JL (ag (ab (af (aa (ah JL JL (aI (o:=0) Jj JL (by kernel_rfl) JL) ?_))))))
 refine ak JL JL (ai Jq JL (x3.cell_some (k2.cell (i:=0) JL))) (ah JL JL (aI (o:=0) Jj JL (by kernel_rfl) JL) ?_)
 refine ak JL JL (ai Jq JL (k3.cell (i:=0) JL)) (aj JL JL JL (ve Jq) (ae JL JL ?_))
 refine cW (fun h10=>?_) (fun h10=>?_)
 ·refine al JL (ah JL JL (aI (o:=1) Jj JL (by kernel_rfl) JL) (al JL (ak JL JL (ai Je JL (x3.cell_some (k2.cell (i:=1) JL))) ?_)))
  refine al JL (ah JL JL (aI (o:=1) Jj JL (by kernel_rfl) JL) (al JL (ak JL JL (ai Je JL (k3.cell (i:=1) JL)) ?_)))
  refine al JL (am rz JL JL (rA (n2.ext x3) n3) ?_)
  rintro v15 w15 ⟨x15,rfl⟩
  refine aB JL JL JL (ae JL JL ?_)
  refine cW (fun h17=>?_) (fun h17=>?_)
  ·refine al JL (ah JL JL (aI (o:=2) Jj JL (by kernel_rfl) JL) (al JL (ak JL JL (ai Je JL ((x3.trans x15).cell_some (k2.cell (i:=2) JL))) ?_)))
   refine al JL (ah JL JL (aI (o:=2) Jj JL (by kernel_rfl) JL) (al JL (ak JL JL (ai Je JL (x15.cell_some (k3.cell (i:=2) JL))) ?_)))
   refine al JL (am rz JL JL (rA (d2.ext (x3.trans x15)) (d3.ext x15)) ?_)
   rintro v22 w22 ⟨x22,rfl⟩
   refine aB JL JL JL (ac JL JL (ag (ab (au (az JL JL ?_)))))
   exact⟨_,rfl,(((x2.trans x3).trans x15).trans x22),by
    first
    |exact congrArg B (decide_eq_decide.2 ⟨fun h=>⟨h10,h17,h⟩,fun h=>h.2.2⟩)
    |exact congrArg B (decide_eq_false fun h=>h17 h.2.1).symm
    |exact congrArg B (decide_eq_false fun h=>h10 h.1).symm⟩
  ·refine aq JL JL JL (aq JL JL JL (aq JL JL JL (aq JL JL JL (aq JL JL JL (aH JL JL JL (ac JL JL (ag (ab (au (az JL JL ?_))))))))))
   exact⟨_,rfl,((x2.trans x3).trans x15),by
    first
    |exact congrArg B (decide_eq_decide.2 ⟨fun h=>⟨h10,h17,h⟩,fun h=>h.2.2⟩)
    |exact congrArg B (decide_eq_false fun h=>h17 h.2.1).symm
    |exact congrArg B (decide_eq_false fun h=>h10 h.1).symm⟩
 ·refine aq JL JL JL (aq JL JL JL (aq JL JL JL (aq JL JL JL (aq JL JL JL (aH JL JL JL (ae JL JL (aq JL JL JL (aq JL JL JL (aq JL JL JL ?_)))))))))
  refine aq JL JL JL (aq JL JL JL (aH JL JL JL (ac JL JL (ag (ab (au (az JL JL ?_)))))))
  exact⟨_,rfl,(x2.trans x3),by
   first
   |exact congrArg B (decide_eq_decide.2 ⟨fun h=>⟨h10,h17,h⟩,fun h=>h.2.2⟩)
   |exact congrArg B (decide_eq_false fun h=>h17 h.2.1).symm
   |exact congrArg B (decide_eq_false fun h=>h10 h.1).symm⟩
theorem xE {w:World} {b:Bool} {n m:List UInt32} {v:Value} (hv:dw b n m v w) (hnl:n.length≤137438953472) (hml:m.length≤137438953472):
 Calls Tryz.prog 90 #[v] w (bD fun r w'=>aG w w'∧r=B (rv b n m)):=by
 refine enter (vs:=[v]) Tryz.func90 JL JL JL ?_
 refine af (aa ?_)
 obtain⟨g1,y1,z1,w1,hr1,x1,k1,n1,d1⟩:=nw hv
 refine cx JL JL hr1 (ac JL JL (ag (ab (af (bm 4 [6] (by kernel_rfl) (by kernel_rfl) ?_)))))
 refine aD rfl rfl (fun w hw=>(k1.ext hw).ldR) (aD rfl rfl (fun w hw=>(k1.ext hw).ldR) (bW (S:=dw (xx b (val n)) (lb (val n/Nat.gcd (val n) (val (ud m)))) (vg (val n) (val (ud m)))) xC (dw.stable _ _ _) rfl (fun w hw=>by rintro _ rfl;exact xD ((dw.mk n1 d1).ext hw) hnl hml) ?_))
 refine bW (S:=Is (B (rv b n m))) rN (bo.is _) rfl (fun w hw=>by rintro _ rfl z hz;exact rO ((dw.mk n1 d1).ext hw) hz) (bu ?_)
 intro wg1 xg1
 rintro _ rfl
 refine ac JL JL (ag (ab (au (az JL JL ?_))))
 exact⟨_,rfl,(x1.trans xg1),rfl⟩
end Go.Rl
namespace Go.Rl
open Go.RowKit Go.Proofs Go.Lib
section
variable {w w0:World} {l m:List UInt8} {v x:Value}
def Cg (m:List UInt8):List UInt8:=uv m.length++m
end
end Go.Rl
namespace Go.Rl
open Go.RowKit Go.Proofs
theorem Ch:aw Tryz.prog 113:=⟨_,Tryz.func113,by kernel_rfl,rfl⟩
theorem Ci:aw Tryz.prog 129:=⟨_,Tryz.func129,by kernel_rfl,rfl⟩
def Ir (l:List UInt8):Option (List UInt8×List UInt8):=(eh l).bind fun p=>if p.1≤p.2.length then some (p.2.take p.1,p.2.drop p.1) else none
theorem xF {m:List UInt8} (h:m.length<18446744073709551616) (t:List UInt8):Ir (Cg m++t)=some (m,t):=by
 unfold Ir Cg
 rw[List.append_assoc,jk h]
 simp
section
variable {w:World} {g:Nat}
theorem xG {st:Option (List UInt8)} (hr:aU g st w):Calls Tryz.prog 144 #[.pointer (some ⟨g,0,none⟩)] w (bD fun r w'=>w.grownBy w' (some g)∧match st.bind eh with
 |some (n,t)=>r=.tuple #[bC (UInt64.ofNat n),B true]∧aU g (some t) w'
 |none=>r=.tuple #[bC 0,B false]∧∃l',aU g l' w'):=by
 cases st with
 |none=>exact(lI hr).mono fun e w' ⟨v,he,hv,hw⟩=>⟨v,he,by subst hw;exact⟨kS _ _,hv,none,hr⟩⟩
 |some l=>
  refine(m9 hr).mono fun e w' ⟨v,he,hg,hv⟩=>⟨v,he,hg,?_⟩
  show match eh l with|some (n,t)=>_|none=>_
  cases hrd:eh l with
  |none=>rw[hrd] at hv;exact⟨hv.1,hv.2.imp' some fun _ h=>h⟩
  |some p=>rw[hrd] at hv;exact hv
theorem Cj {st:Option (List UInt8)} (hr:aU g st w):
 Calls Tryz.prog 129 #[.pointer (some ⟨g,0,none⟩)] w (bD fun r w'=>r=I ((st.getD []).length:Nat)∧w'=w):=by
 obtain⟨A,n,c,h1,h2,_⟩:=hr
 refine enter (vs:=[.pointer (some ⟨g,0,none⟩)]) Tryz.func129 JL JL JL ?_
 refine af (aa (ac JL JL (ag (ab (af (af (aa (ae JL JL ?_))))))))
 refine aj JL JL JL (lN Ju) ?_
 refine ag (ab ?_)
 refine dI JL ?_
 refine ar (ab (af (aa (ae JL JL ?_))))
 refine aZ JL JL ?_
 refine ah JL JL (ce Jz JL cV (by omega)) ?_
 refine ak JL JL (ai Jl JL (gV (i:=0) h1 JL)) ?_
 refine aP JL JL (bP h2) ?_
 refine ac JL JL (ag (ab (au ?_)))
 refine az JL JL ?_
 exact⟨_,rfl,rfl,rfl⟩
theorem Ck {st:Option (List UInt8)} (hr:aU g st w):
 Calls Tryz.prog 113 #[.pointer (some ⟨g,0,none⟩)] w (bD fun r w'=>r=I (if st=some [] then 0 else 5)∧w'=w):=by
 obtain⟨A,n,c,h1,h2,_⟩:=hr
 refine enter (vs:=[.pointer (some ⟨g,0,none⟩)]) Tryz.func113 JL JL JL ?_
 refine af (aa (ac JL JL (ag (ab (af (af (aa (ae JL JL ?_))))))))
 refine aj JL JL JL (DD Ju) ?_
 refine ae JL JL (al JL (ae JL JL (al JL ?_)))
 refine aZ JL JL ?_
 refine al JL (ah JL JL (ce Jz JL gZ (by omega)) ?_)
 refine al JL (ak JL JL (ai Jq JL (gV (i:=1) h1 JL)) ?_)
 cases st with
 |none=>
  refine al JL (ae JL JL ?_)
  iterate 6 refine aq rfl rfl rfl ?_
  refine al JL (aB JL JL JL (aB JL JL JL (ag (ab ?_))))
  refine bJ JL ?_
  refine af (aa (ac JL JL (ag (ab (au (ax ?_))))))
  refine az JL JL ?_
  exact⟨_,rfl,rfl,rfl⟩
 |some l=>
  have h2':ci l (.slice A n c) w:=h2
  refine al JL (ae JL JL (al JL (ae JL JL (al JL ?_))))
  refine aZ JL JL ?_
  refine al JL (ah JL JL (ce Jz JL cV (by omega)) ?_)
  refine al JL (ak JL JL (ai Jl JL (gV (i:=0) h1 JL)) ?_)
  refine al JL (aP JL JL (bP h2') ?_)
  refine al JL (aj JL JL JL cg ?_)
  refine al JL (aH JL JL JL (aB JL JL JL (ag (ab ?_))))
  refine ba JL (fun h=>?_) (fun h=>?_)
  ·refine af (aa (ac JL JL (ag (ab (au (ax ?_))))))
   refine az JL JL ?_
   have:some l≠some []:=by rintro⟨⟩;simp at h
   rw[if_neg this]
   exact⟨_,rfl,rfl,rfl⟩
  ·refine ar (ab (af (aa (ac JL JL (ag (ab (au ?_)))))))
   refine az JL JL ?_
   have:l=[]:=List.eq_nil_of_length_eq_zero (by omega)
   subst this
   exact⟨_,rfl,rfl,rfl⟩
end
end Go.Rl
namespace Go.Rl
open Go.RowKit Go.Proofs
structure Kp (w w':World):Prop where
 size:w.heap.size≤w'.heap.size
 bts:∀{l:List UInt8} {v:Value},ci l v w→ci l v w'
 wds:∀{l:List UInt32} {v:Value},bj l v w→bj l v w'
theorem Kp.trans {a b c:World} (h:Kp a b) (k:Kp b c):Kp a c:=⟨Nat.le_trans h.size k.size,fun x=>k.bts (h.bts x),fun x=>k.wds (h.wds x)⟩
theorem ci.kp {w w':World} {l:List UInt8} {v:Value} (h:ci l v w) (k:Kp w w'):ci l v w':=k.bts h
theorem bj.kp {w w':World} {l:List UInt32} {v:Value} (h:bj l v w) (k:Kp w w'):bj l v w':=k.wds h
def Dq (T:TypeId) (g:Nat) (st:Option (List UInt8)) (w:World):Prop:=∃A n c,cl g T [.slice A n c,B st.isNone] w∧ci (st.getD []) (.slice A n c) w∧zh A g
theorem aU.rdT {g:Nat} {st:Option (List UInt8)} {w:World} (h:aU g st w):Dq 227 g st w:=h
theorem Dq.rdAt {g:Nat} {st:Option (List UInt8)} {w:World} (h:Dq 227 g st w):aU g st w:=h
section
variable {T:TypeId} {g:Nat} {st:Option (List UInt8)} {w w':World}
theorem Cl (A:Option Addr) (n c:Nat) (b:Bool) (l:List UInt32):∀(j:Nat) (u:Value),u∈l.map bp→(#[.slice A n c,.bool b]:Array Value)[j]? ≠some u:=by
 intro j u hu
 obtain⟨x,_,rfl⟩:=List.mem_map.1 hu
 match j with
 |0=>simp[bp]
 |1=>simp[bp]
 |j+2=>simp
theorem Dq.kp (hr:Dq T g st w) (hw:w.grownBy w' (some g)):Kp w w':=by
 obtain⟨A,n,c,h1,_⟩:=hr
 exact⟨hw.size,fun h=>Sl.keep h h1 (tX A n c _ _) hw,fun h=>Sl.keep h h1 (Cl A n c _ _) hw⟩
end
theorem zo (b:Bool) (A C:Option Addr) (n c m d:Nat) (l:List UInt8):∀(j:Nat) (u:Value),u∈l.map U8→(#[.bool b,.slice A n c,.slice C m d]:Array Value)[j]? ≠some u:=by
 intro j u hu
 obtain⟨x,_,rfl⟩:=List.mem_map.1 hu
 match j with
 |0=>simp[U8]
 |1=>simp[U8]
 |2=>simp[U8]
 |j+3=>simp
theorem cl.kpR {g:Nat} {T:TypeId} {b:Bool} {x y:Value} {w w':World} (h:cl g T [B b,x,y] w) (hx:∃A n c,x=.slice A n c) (hy:∃A n c,y=.slice A n c) (hw:w.grownBy w' (some g)):Kp w w':=by
 obtain⟨A,n,c,rfl⟩:=hx
 obtain⟨C,m,d,rfl⟩:=hy
 exact⟨hw.size,fun k=>Sl.keep k h (zo b A C n c m d _) hw,fun k=>Sl.keep k h (rM b A C n c m d _) hw⟩
theorem Dq.off {T:TypeId} {g g':Nat} {st:Option (List UInt8)} {w w':World} (h:Dq T g st w) (k:Kp w w') (hw:w.grownBy w' (some g')) (hne:g≠g'):Dq T g st w':=by
 obtain⟨A,n,c,h1,h2,h3⟩:=h
 exact⟨A,n,c,h1.other hw (fun e=>hne (Option.some.inj e)),h2.kp k,h3⟩
theorem nA {w w1 w2:World} {row:Option Nat} {g:Nat} (h:w.grownBy w1 row) (q:w1.grownBy w2 (some g)) (hg:w.heap.size≤g):w.grownBy w2 row:=
 ⟨q.os.trans h.os,q.tape.trans h.tape,q.output.trans h.output,Nat.le_trans h.size q.size,fun i hi hne=>(q.block i (Nat.lt_of_lt_of_le hi h.size) (fun e=>by have:=Option.some.inj e;omega)).trans (h.block i hi hne)⟩
theorem d9 {P:Program} {fn:Func} {R:Ending→World→Prop} {N:Nat} {fr:Fr} {p s:Tmp} {t T:TypeId} {u:Value} {l:List Value} {w:World} {g:Nat} {d:TypeDesc} (hr:fn.results= #[.cell p t,.tmp s]) (hv:lk fr p=some (.pointer (some ⟨g,0,none⟩))) (hs:lk fr s=some u) (hb:cl g T l w) (hu:P.underlying t=some d) (hd:d.isRow=true) (hi:(P.info? t).map (·.size)=some l.length)
 (h:R (.returned (.tuple #[.agg l.toArray,u])) w):ft (bodyPost P fn R) N [] fr w .ret:=fun a ha=>by
 refine⟨ha.defers,.tuple #[.agg l.toArray,u],?_,h⟩
 have hp:=ha.at_ p _ hv
 have hp':a.tmps[p]?.getD undef=.pointer (some ⟨g,0,none⟩):=by simpa using hp
 have hq:=ha.at_ s _ hs
 have hl:=run_loadVar_row w g T t l.toArray (0,0) d hb hu (by cases d<;>first|rfl|exact hd) (by simpa using hi)
 simp[results,hr,hp',asAddr,hl,←hq]
def uz (n:Nat):Int:=if n%2=0 then((n/2:Nat):Int) else-((n/2:Nat):Int)-1
theorem Gr {P:Program} {w:World} {t:TypeId} {x y:Operand} {q:Nat} (hq:q<9223372036854775808):(bin .xor t x y (I (q:Int)) (I 0)).run P w=.ok (I (q:Int)) w:=by
 have h:=Ax (P:=P) (w:=w) (t:=t) (x:=x) (y:=y) (a:=Int64.ofInt q) (b:=Int64.ofInt 0)
 rw[Int64.toInt_ofInt_of_le (by simp) (by simp;omega)] at h
 have e:(Int64.ofInt q^^^Int64.ofInt 0).toInt=q:=by
  rw[show Int64.ofInt 0=0 from rfl,Int64.xor_zero,Int64.toInt_ofInt_of_le (by simp) (by simp;omega)]
 rw[e] at h
 exact h
theorem Gs {P:Program} {w:World} {t:TypeId} {x y:Operand} {q:Nat} (hq:q<9223372036854775808):(bin .xor t x y (I (q:Int)) (I (-1))).run P w=.ok (I (-(q:Int)-1)) w:=by
 have h:=Ax (P:=P) (w:=w) (t:=t) (x:=x) (y:=y) (a:=Int64.ofInt q) (b:=Int64.ofInt (-1))
 rw[Int64.toInt_ofInt_of_le (by simp) (by simp;omega)] at h
 have e:(Int64.ofInt q^^^Int64.ofInt (-1)).toInt= -(q:Int)-1:=by
  have:Int64.ofInt q^^^Int64.ofInt (-1)= ~~~(Int64.ofInt q):=by
   apply Int64.toBitVec_inj.1
   rw[Int64.toBitVec_xor,Int64.toBitVec_not]
   have:(Int64.ofInt (-1)).toBitVec=BitVec.allOnes 64:=by decide
   rw[this,BitVec.xor_allOnes]
  rw[this,Int64.toInt_not,Int64.toInt_ofInt_of_le (by simp) (by simp;omega)]
  exact Int.bmod_eq_of_le (by simp;omega) (by simp;omega)
 rw[e] at h
 exact h
def w4 (a b c d:UInt8):UInt32:=UInt32.ofNat (a.toNat+256*b.toNat+65536*c.toNat+16777216*d.toNat)
theorem En (a b c d:UInt8):(w4 a b c d).toNat=a.toNat+256*b.toNat+65536*c.toNat+16777216*d.toNat:=by
 have:=a.toNat_lt;have:=b.toNat_lt;have:=c.toNat_lt;have:=d.toNat_lt
 unfold w4
 rw[UInt32.toNat_ofNat']
 omega
theorem HQ (a b c d:UInt8):AQ (w4 a b c d)=[a,b,c,d]:=by
 have ha:=a.toNat_lt;have hb:=b.toNat_lt;have hc:=c.toNat_lt;have hd:=d.toNat_lt
 have e:∀x y:UInt8,x.toNat=y.toNat→x=y:=fun x y h=>UInt8.toNat_inj.1 h
 have h:=En a b c d
 unfold AQ
 congr 1
 ·refine e _ _ ?_
  rw[UInt32.toNat_toUInt8,h];omega
 congr 1
 ·refine e _ _ ?_
  rw[UInt32.toNat_toUInt8,UInt32.toNat_shiftRight,h,show(UInt32.ofNat 8).toNat%32=8 from rfl,Nat.shiftRight_eq_div_pow];omega
 congr 1
 ·refine e _ _ ?_
  rw[UInt32.toNat_toUInt8,UInt32.toNat_shiftRight,h,show(UInt32.ofNat 16).toNat%32=16 from rfl,Nat.shiftRight_eq_div_pow];omega
 congr 1
 ·refine e _ _ ?_
  rw[UInt32.toNat_toUInt8,UInt32.toNat_shiftRight,h,show(UInt32.ofNat 24).toNat%32=24 from rfl,Nat.shiftRight_eq_div_pow];omega
theorem Eo (a:UInt8):a.toUInt32.toNat=a.toNat:=by simp
theorem IP (a b c d:UInt8):((a.toUInt32|||(b.toUInt32<<<UInt32.ofNat 8))|||(c.toUInt32<<<UInt32.ofNat 16))|||(d.toUInt32<<<UInt32.ofNat 24)=w4 a b c d:=by
 have ha:=a.toNat_lt;have hb:=b.toNat_lt;have hc:=c.toNat_lt;have hd:=d.toNat_lt
 have sh:∀(x:UInt8) (k:Nat),k≤24→(x.toUInt32<<<UInt32.ofNat k).toNat=x.toNat<<<k:=fun x k hk=>by
  have hx:=x.toNat_lt
  rw[UInt32.toNat_shiftLeft,Eo]
  have:(UInt32.ofNat k).toNat%32=k:=by rw[UInt32.toNat_ofNat'];omega
  rw[this,Nat.shiftLeft_eq]
  have:2^k≤2^24:=Nat.pow_le_pow_right (by omega) hk
  have:x.toNat*2^k≤255*2^24:=Nat.mul_le_mul (by omega) this
  omega
 refine kH ?_
 rw[En]
 simp only[UInt32.toNat_or,sh _ 8 (by omega),sh _ 16 (by omega),sh _ 24 (by omega),Eo]
 rw[Nat.or_comm a.toNat,←Nat.shiftLeft_add_eq_or_of_lt (by omega),Nat.or_comm _ (c.toNat<<<16),←Nat.shiftLeft_add_eq_or_of_lt (by rw[Nat.shiftLeft_eq];omega),Nat.or_comm _ (d.toNat<<<24),←Nat.shiftLeft_add_eq_or_of_lt (by simp only[Nat.shiftLeft_eq];omega)]
 simp only[Nat.shiftLeft_eq]
 omega
def dG:List UInt8→List UInt32
 |a::b::c::d::l=>w4 a b c d::dG l
 |_=>[]
theorem ja:∀(n:Nat) (l:List UInt8),l.length=4*n→(dG l).length=n
 |0,[],_=>rfl
 |n+1,a::b::c::d::l,h=>by
  have:=ja n l (by simp at h;omega)
  simp[dG,this]
 |n+1,[],h=>by simp at h
 |n+1,[_],h=>by simp at h;omega
 |n+1,[_,_],h=>by simp at h;omega
 |n+1,[_,_,_],h=>by simp at h;omega
theorem rP:∀(n:Nat) (l:List UInt8),l.length=4*n→j4 (dG l)=l
 |0,[],_=>rfl
 |n+1,a::b::c::d::l,h=>by
  have:=rP n l (by simp at h;omega)
  have e:∀x (l:List UInt32),j4 (x::l)=AQ x++j4 l:=fun x l=>by simp[j4]
  rw[dG,e,this,HQ];rfl
 |n+1,[],h=>by simp at h
 |n+1,[_],h=>by simp at h;omega
 |n+1,[_,_],h=>by simp at h;omega
 |n+1,[_,_,_],h=>by simp at h;omega
theorem rQ:∀(i:Nat) (l:List UInt8) (h:4*(i+1)≤l.length),dG (l.take (4*(i+1)))=dG (l.take (4*i))++[w4 (l[4*i]) (l[4*i+1]) (l[4*i+2]) (l[4*i+3])]
 |0,a::b::c::d::l,_=>by simp[dG]
 |i+1,a::b::c::d::l,h=>by
  have:=rQ i l (by simp at h;omega)
  have e1:4*(i+1+1)=4*(i+1)+4:=by omega
  have e2:4*(i+1)=4*i+4:=by omega
  simp only[e1,List.take_succ_cons,dG,this]
  simp only[e2,List.take_succ_cons,dG,List.cons_append]
  rfl
 |i,[],h=>by simp at h
 |i,[_],h=>by simp at h;omega
 |i,[_,_],h=>by simp at h;omega
 |i,[_,_,_],h=>by simp at h;omega
def tq (l:List UInt8):Option (List UInt32×List UInt8):=(eh l).bind fun p=>
 if p.1≤p.2.length/4∧lb (val (dG (p.2.take (4*p.1))))=dG (p.2.take (4*p.1)) then some (dG (p.2.take (4*p.1)),p.2.drop (4*p.1)) else none
theorem jz {l t:List UInt8} {m:List UInt32} (h:tq l=some (m,t)):l=lR m++t∧lb (val m)=m∧m.length<18446744073709551616:=by
 unfold tq at h
 cases hu:eh l with
 |none=>rw[hu] at h;cases h
 |some p=>
  obtain⟨n,u⟩:=p
  rw[hu] at h
  have h:(if n≤u.length/4∧lb (val (dG (u.take (4*n))))=dG (u.take (4*n)) then some (dG (u.take (4*n)),u.drop (4*n)) else none)=some (m,t):=h
  split at h
  ·rename_i hc
   simp only[Option.some.injEq,Prod.mk.injEq] at h
   have hl:(u.take (4*n)).length=4*n:=by rw[List.length_take];omega
   have hn:=ja n _ hl
   obtain⟨h1,h2⟩:=fS hu
   rw[←h.1,←h.2]
   refine⟨?_,hc.2,by omega⟩
   unfold lR
   rw[hn,rP n _ hl,List.append_assoc,List.take_append_drop]
   exact h1
  ·cases h
def p5:List UInt8→Option ((Bool×List UInt32×List UInt32)×List UInt8)
 |[]=>none
 |c::l=>if 1<c.toNat then none else(tq l).bind fun p=>(tq p.2).bind fun q=>if rv (decide (c.toNat=1)) p.1 q.1=true then some ((decide (c.toNat=1),p.1,q.1),q.2) else none
end Go.Rl
namespace Go.Rl
open Go.RowKit Go.Proofs
theorem j6:aw Tryz.prog 193:=⟨_,Tryz.func193,by kernel_rfl,rfl⟩
theorem pr:aw Tryz.prog 179:=⟨_,Tryz.func179,by kernel_rfl,rfl⟩
theorem ib:aw Tryz.prog 177:=⟨_,Tryz.func177,by kernel_rfl,rfl⟩
section
variable {w:World} {g:Nat}
theorem Ep {st:Option (List UInt8)} (hr:aU g st w) (h:st.bind eh=none):Calls Tryz.prog 144 #[.pointer (some ⟨g,0,none⟩)] w (bD fun r w'=>w.grownBy w' (some g)∧r=.tuple #[bC 0,B false]∧∃l',aU g l' w'):=by
 have:=xG hr
 rw[h] at this
 exact this
theorem Er {st:Option (List UInt8)} {n:Nat} {t:List UInt8} (hr:aU g st w) (h:st.bind eh=some (n,t)):Calls Tryz.prog 144 #[.pointer (some ⟨g,0,none⟩)] w (bD fun r w'=>w.grownBy w' (some g)∧r=.tuple #[bC (UInt64.ofNat n),B true]∧aU g (some t) w'):=by
 have:=xG hr
 rw[h] at this
 exact this
end
theorem HR {st:Option (List UInt8)} (h:st.bind eh=none):st.bind tq=none:=by
 cases st with
 |none=>rfl
 |some l=>
  have h:eh l=none:=h
  show tq l=none
  unfold tq
  rw[h];rfl
theorem zp {st:Option (List UInt8)} {n:Nat} {t:List UInt8} (h:st.bind eh=some (n,t)):st.bind tq=if n≤t.length/4∧lb (val (dG (t.take (4*n))))=dG (t.take (4*n)) then some (dG (t.take (4*n)),t.drop (4*n)) else none:=by
 cases st with
 |none=>cases h
 |some l=>
  have h:eh l=some (n,t):=h
  show tq l=_
  unfold tq
  rw[h];rfl
theorem AS {st:Option (List UInt8)} {n:Nat} {t:List UInt8} {k:Nat} (h:st.bind eh=some (n,t)) (hl:∀l,st=some l→l.length≤k):t.length≤k∧n<18446744073709551616:=by
 cases st with
 |none=>cases h
 |some l=>
  obtain⟨h1,h2⟩:=fS (show eh l=some (n,t) from h)
  have:=hl l rfl
  rw[h1,List.length_append] at this
  exact⟨by omega,h2⟩
def vi (b:Nat) (v:Value):Prop:=∀k,v.ownBlock=some k→b≤k
theorem xH {s t:Bool} {a b c d:Value} (h:(Value.agg #[B s,a,b])=.agg #[B t,c,d]):a=c∧b=d:=by
 injection h with h
 have:=congrArg Array.toList h
 simp only[List.cons.injEq] at this
 exact⟨this.2.1,this.2.2.1⟩
def NatR (g:Nat) (w:World) (o:Option (List UInt32×List UInt8)) (r:Value) (w':World):Prop:=
 w.grownBy w' (some g)∧match o with
  |some (m,t)=>∃v,r=.tuple #[v,B true]∧bj m v w'∧aU g (some t) w'∧vi w.heap.size v
  |none=>∃v,r=.tuple #[v,B false]∧(∃m,bj m v w')∧∃l',aU g l' w'
theorem tZ {w:World} {g:Nat} {st:Option (List UInt8)} (hr:aU g st w) (hl:∀l,st=some l→l.length≤549755813888):
 Calls Tryz.prog 193 #[.pointer (some ⟨g,0,none⟩)] w (bD (NatR g w (st.bind tq))):=by
 refine enter (vs:=[.pointer (some ⟨g,0,none⟩)]) Tryz.func193 JL JL JL ?_
 refine af (aa (ac JL JL (ac JL JL (ag (ab (af ?_))))))
 rcases hU:st.bind eh with _|⟨n,t⟩
 ·refine aa (ae JL JL (am jK JL JL (Ep hr hU) ?_))
  rintro v11 w11 ⟨x11,rfl,l',hr1⟩
  have m11:=(hr.rdT).kp x11
  refine ae JL JL (an JL JL (bw) (an JL JL (bz) (ac JL JL (ac JL JL (ag (ab (af (af (aa (ae JL JL (bB JL JL bF ?_)))))))))))
  refine ae JL JL (aq JL JL JL (aq JL JL JL (aq JL JL JL (aq JL JL JL (aq JL JL JL (aq JL JL JL (aq JL JL JL (aq JL JL JL (aq JL JL JL ?_)))))))))
  refine aB JL JL JL (ag (ab (bJ JL (af (aa (ac JL JL (ac JL JL (ag (ab (au (ax (aR JL JL JL ?_))))))))))))
  exact⟨_,rfl,x11,by rw[HR hU];exact⟨_,rfl,⟨_,bj.nil _⟩,l',hr1⟩⟩
 ·obtain⟨ht,hn⟩:=AS hU hl
  have hnn:(UInt64.ofNat n).toNat=n:=by rw[UInt64.toNat_ofNat'];omega
  refine aa (ae JL JL (am jK JL JL (Er hr hU) ?_))
  rintro v11 w11 ⟨x11,rfl,hr1⟩
  have m11:=(hr.rdT).kp x11
  refine ae JL JL (an JL JL (bw) (an JL JL (bz) ?_))
  obtain⟨A,n',c,k,b,_⟩:=hr1.rdT
  have b:ci t (.slice A n' c) w11:=b
  refine ac JL JL (ac JL JL (ag (ab (af (af (aa (ae JL JL (bB JL JL bF (ae JL JL (al JL (ae JL JL (al JL (ae JL JL ?_)))))))))))))
  refine al JL (aZ JL JL (al JL (ah JL JL (aI (o:=0) Jz JL (by kernel_rfl) JL) (al JL (ak JL JL (ai Jl JL (k.cell (i:=0) JL)) ?_)))))
  refine al JL (aP JL JL (bP b) (al JL (aQ JL JL (cZ Jh Ji) (al JL (aj (v:=bC 4) JL JL JL (jX (by decide)) ?_)))))
  refine al JL (aj JL JL JL (dc) (aH JL JL JL (ag (ab ?_))))
  refine ba JL (fun h26=>?_) (fun h26=>?_)
  ·have hlong:t.length/4<n:=by
    have h26:=UInt64.lt_iff_toNat_lt.1 h26
    rw[UInt64.toNat_div,hnn,UInt64.toNat_ofNat',show(4:UInt64).toNat=4 from rfl] at h26
    omega
   refine af (aa (ac JL JL (ac JL JL (ag (ab (au (ax (aR JL JL JL ?_))))))))
   exact⟨_,rfl,x11,by rw[zp hU,if_neg (by omega)];exact⟨_,rfl,⟨_,bj.nil _⟩,_,hr1⟩⟩
  ·have hle:n≤t.length/4:=by
    refine Nat.le_of_not_lt fun hh=>h26 (UInt64.lt_iff_toNat_lt.2 ?_)
    rw[UInt64.toNat_div,hnn,UInt64.toNat_ofNat',show(4:UInt64).toNat=4 from rfl]
    omega
   have h4n:(4*UInt64.ofNat n).toNat=4*n:=by
    rw[UInt64.toNat_mul,hnn,show(4:UInt64).toNat=4 from rfl]
    omega
   obtain⟨bs,hbs⟩:∃bs,bs=t.take (4*n):=⟨_,rfl⟩
   have hbl:bs.length=4*n:=by rw[hbs,List.length_take];omega
   refine ar (ab (af (aa (ae JL JL (ae JL JL (aj (u:=bC 4) JL JL JL (gU) (am gX JL JL ((by have:=rG (n:=4*UInt64.ofNat n) hr1 (by rw[h4n];omega);rw[h4n,←hbs] at this;exact this)) ?_)))))))
   rintro v31 w31 ⟨b31,rfl,hb31,hr2,g31⟩
   have m31:=(hr1.rdT).kp g31
   refine ae JL JL (an JL JL (bw) (an JL JL (bz) (ac JL JL (ac JL JL (ag (ab (af (aa (ac JL JL (ag (ab (af ?_))))))))))))
   refine av ?_
   refine il (fun(i:Nat) (v:Value) (u:Value)=>[(4,bC (UInt64.ofNat n)),(6,v),(8,u)]) (fun(i:Nat) (v:Value) (u:Value) w'=>aG w31 w'∧ci (bs.drop (4*i)) v w31∧dN w31.heap.size (dG (bs.take (4*i))) u w'∧i≤n) (fun(i:Nat) (v:Value) (u:Value)=>n-i) (0) (b31) (.slice none 0 0) ⟨rfl,rfl,rfl,trivial⟩ ⟨aG.refl _,by simpa using hb31,by simpa [dG] using dN.nil _ _,by omega⟩ ?_
   rintro i v u w6 ⟨e6,h6,o6,hi⟩
   refine af (af ?_)
   have hdl:(bs.drop (4*i)).length=4*n-4*i:=by rw[List.length_drop,hbl]
   refine aa (ae JL JL (aP JL JL (bP (h6.ext e6)) (aj JL JL JL (cg) (ag (ab ?_)))))
   refine ba JL (fun h36=>?_) (fun h36=>?_)
   ·refine ar (ab (af (av ?_)))
    have hdl:(bs.drop (4*i)).length=4*n-4*i:=by rw[List.length_drop,hbl]
    refine bm 24 [4,6,39,62] (by kernel_rfl) (by kernel_rfl) ?_
    refine ao JL JL (ao JL JL ?_)
    obtain⟨a41,p41,q41⟩:=gc (h6.ext e6) (i:=0) (by omega) .i64
    refine ay JL JL JL (fun w _=>p41 w) (aD JL JL (fun w hw=>ai Jm JL (hw.cell_some q41)) (dk JL JL (fun w _=>fi Jm Jf) ?_))
    refine ao JL JL ?_
    obtain⟨a45,p45,q45⟩:=gc (h6.ext e6) (i:=1) (by omega) .i64
    refine ay JL JL JL (fun w _=>p45 w) (aD JL JL (fun w hw=>ai Jm JL (hw.cell_some q45)) (dk JL JL (fun w _=>fi Jm Jf) ?_))
    refine aO (v:=bC 8) JL JL JL (fun w _=>el 8 (by omega)) (aO JL JL JL (fun w _=>eO) (ao JL JL ?_))
    obtain⟨a51,p51,q51⟩:=gc (h6.ext e6) (i:=2) (by omega) .i64
    refine ay JL JL JL (fun w _=>p51 w) (aD JL JL (fun w hw=>ai Jm JL (hw.cell_some q51)) (dk JL JL (fun w _=>fi Jm Jf) ?_))
    refine aO (v:=bC 16) JL JL JL (fun w _=>el 16 (by omega)) (aO JL JL JL (fun w _=>eO) (ao JL JL ?_))
    obtain⟨a57,p57,q57⟩:=gc (h6.ext e6) (i:=3) (by omega) .i64
    refine ay JL JL JL (fun w _=>p57 w) (aD JL JL (fun w hw=>ai Jm JL (hw.cell_some q57)) (dk JL JL (fun w _=>fi Jm Jf) ?_))
    refine aO (v:=bC 24) rfl rfl rfl (fun w _=>el 24 (by omega)) (aO rfl rfl rfl (fun w _=>eO) (ep (S:=bj [((((((((((bs.drop (4*i))[0])).toUInt32)|||((((((bs.drop (4*i))[1])).toUInt32)<<<UInt32.ofNat 8))))|||((((((bs.drop (4*i))[2])).toUInt32)<<<UInt32.ofNat 16))))|||((((((bs.drop (4*i))[3])).toUInt32)<<<UInt32.ofNat 24))))]) (bj.stable _) rfl (fun w' _=>by rintro _ rfl;obtain⟨r,w2,h1,h2,h3,_⟩:=iC Tryz.underlying53 (w:=w') w'.heap.size [((((((((((bs.drop (4*i))[0])).toUInt32)|||((((((bs.drop (4*i))[1])).toUInt32)<<<UInt32.ofNat 8))))|||((((((bs.drop (4*i))[2])).toUInt32)<<<UInt32.ofNat 16))))|||((((((bs.drop (4*i))[3])).toUInt32)<<<UInt32.ofNat 24))))] (by simp) (Nat.le_refl _);exact⟨r,w2,h1,h2,h3.wds⟩) ?_))
    refine bu ?_
    intro wg8 xg8
    rintro _ rfl
    rintro _ hq6
    obtain rfl:=Eq.symm hq6
    rintro _ hq39
    obtain rfl:=Eq.symm hq39
    intro vg62 b62
    obtain⟨v63,w63,hr63,o63,g63⟩:=jJ Tryz.underlying53 (ty:=53) (o6.ext xg8) b62 (by have:=ja i (bs.take (4*i)) (by rw[List.length_take];omega);simp;omega) ((e6.trans xg8)).size
    have x63:=aG.of_grew ((e6.trans xg8)) g63 (o6.ext xg8).ge
    refine aW JL JL hr63 (ac JL JL (ag (aM (ab (aa (ae JL JL ?_))))))
    obtain⟨v38,p38,b38⟩:=iB h6 (lo:=4) (by omega) .i64
    refine cY JL JL JL JL JL (p38 _) ?_
    refine ac JL JL (ag ?_)
    refine dE (i+1) (v38) (v63) ⟨rfl,rfl,rfl,trivial⟩ ⟨x63,by rw[List.drop_drop] at b38;exact b38,by
     rw[rQ i bs (by omega)]
     have e:=IP ((bs.drop (4*i))[0]) ((bs.drop (4*i))[1]) ((bs.drop (4*i))[2]) ((bs.drop (4*i))[3])
     simp only[List.getElem_drop,Nat.add_zero] at e
     simp only[List.getElem_drop,Nat.add_zero,e] at o63
     exact o63,by omega⟩ (by omega)
   ·refine aX (aA (aA (aV (ab (af ?_)))))
    by_cases h66:UInt64.ofNat n=0
    ·refine bm 12 [2,74] (by kernel_rfl) (by kernel_rfl) ?_
     refine ao JL JL (ao JL JL (aO (v:=bC 0) JL JL JL (fun w _=>dv h66 i8) (ao JL JL (cS JL JL JL (cS JL JL JL (cS JL JL JL ?_))))))
     refine cS JL JL JL (cS JL JL JL (cS JL JL JL (wG JL JL JL (dX JL JL (bu ?_)))))
     intro wg9 xg9
     rintro _ hq2
     obtain rfl:=Eq.symm hq2
     rintro _ rfl
     refine ac JL JL (ag (ab (au (aR JL JL JL ?_))))
     exact⟨_,rfl,(x11.trans g31).trans (dF (e6.trans xg9)),by
      rw[zp hU,←hbs]
      first
      |(have hx:(dG bs)[(UInt64.ofNat n-1).toNat]≠0↔lb (val (dG bs))=dG bs:=by
         have e:(UInt64.ofNat n-1).toNat=(dG bs).length-1:=by omega
         simp only[e]
         exact qC (by omega)
        by_cases hc:lb (val (dG bs))=dG bs
        ·rw[if_pos ⟨hle,hc⟩,decide_eq_true (hx.2 hc)]
         exact⟨u,rfl,o6.wds.ext xg9,hr2.ext (e6.trans xg9),fun k hk=>Nat.le_trans (x11.trans g31).size (o6.ge k hk)⟩
        ·rw[if_neg fun h=>hc h.2,decide_eq_false fun h=>hc (hx.1 h)]
         exact⟨u,rfl,⟨_,o6.wds.ext xg9⟩,_,hr2.ext (e6.trans xg9)⟩)
      |(have h0:n=0:=by
         have:=congrArg UInt64.toNat h66
         rw[hnn] at this
         exact this
        have hb0:dG bs=[]:=List.eq_nil_of_length_eq_zero (by rw[ja n bs hbl];exact h0)
        have hb1:bs.take (4*i)=bs:=List.take_of_length_le (by omega)
        rw[hb1,hb0] at o6
        rw[hb0,if_pos ⟨hle,rfl⟩]
        exact⟨u,rfl,o6.wds.ext xg9,hr2.ext (e6.trans xg9),fun k hk=>Nat.le_trans (x11.trans g31).size (o6.ge k hk)⟩)⟩
    ·refine bm 12 [2,74] (by kernel_rfl) (by kernel_rfl) ?_
     refine ao JL JL (ao JL JL (aO (v:=bC 0) JL JL JL (fun w _=>eF h66 i8) (ao JL JL (bV JL JL (ao JL JL (bV JL JL (ao JL JL ?_)))))))
     refine bV JL JL (aO (v:=bC 1) JL JL JL (fun w _=>dq) (bV JL JL ?_))
     have hn0:0<n:=by
      rcases Nat.eq_zero_or_pos n with h|h
      ·exact absurd (by rw[h];rfl) h66
      ·exact h
     have hns:=ja n bs hbl
     have hin:i=n:=by omega
     have hbi:bs.take (4*i)=bs:=List.take_of_length_le (by omega)
     rw[hbi] at o6
     have hm1:(UInt64.ofNat n-1).toNat=n-1:=by
      rw[UInt64.toNat_sub_of_le _ _ (UInt64.le_iff_toNat_le.2 (by rw[hnn];exact hn0)),hnn];rfl
     obtain⟨a71,p71,q71⟩:=cE Je o6.wds (i:=(UInt64.ofNat n-1).toNat) (by omega) .u64
     refine ay JL JL JL (fun w hw=>p71 _) (bV JL JL (aD JL JL (fun w hw=>ai Jf JL (hw.cell_some q71)) (bV JL JL ?_)))
     refine aO (v:=bp 0) JL JL JL (fun w _=>jW) (wH JL JL JL (dX JL JL (bu ?_)))
     intro wg9 xg9
     rintro _ hq2
     obtain rfl:=Eq.symm hq2
     rintro _ rfl
     refine ac JL JL (ag (ab (au (aR JL JL JL ?_))))
     exact⟨_,rfl,(x11.trans g31).trans (dF (e6.trans xg9)),by
      rw[zp hU,←hbs]
      first
      |(have hx:(dG bs)[(UInt64.ofNat n-1).toNat]≠0↔lb (val (dG bs))=dG bs:=by
         have e:(UInt64.ofNat n-1).toNat=(dG bs).length-1:=by omega
         simp only[e]
         exact qC (by omega)
        by_cases hc:lb (val (dG bs))=dG bs
        ·rw[if_pos ⟨hle,hc⟩,decide_eq_true (hx.2 hc)]
         exact⟨u,rfl,o6.wds.ext xg9,hr2.ext (e6.trans xg9),fun k hk=>Nat.le_trans (x11.trans g31).size (o6.ge k hk)⟩
        ·rw[if_neg fun h=>hc h.2,decide_eq_false fun h=>hc (hx.1 h)]
         exact⟨u,rfl,⟨_,o6.wds.ext xg9⟩,_,hr2.ext (e6.trans xg9)⟩)
      |(have h0:n=0:=by
         have:=congrArg UInt64.toNat h66
         rw[hnn] at this
         exact this
        have hb0:dG bs=[]:=List.eq_nil_of_length_eq_zero (by rw[ja n bs hbl];exact h0)
        have hb1:bs.take (4*i)=bs:=List.take_of_length_le (by omega)
        rw[hb1,hb0] at o6
        rw[hb0,if_pos ⟨hle,rfl⟩]
        exact⟨u,rfl,o6.wds.ext xg9,hr2.ext (e6.trans xg9),fun k hk=>Nat.le_trans (x11.trans g31).size (o6.ge k hk)⟩)⟩
section
variable {w:World} {g:Nat}
theorem t0 {st:Option (List UInt8)} (hr:aU g st w) (hl:∀l,st=some l→l.length≤549755813888) (h:st.bind tq=none):Calls Tryz.prog 193 #[.pointer (some ⟨g,0,none⟩)] w (bD fun r w'=>w.grownBy w' (some g)∧∃v,r=.tuple #[v,B false]∧(∃m,bj m v w')∧∃l',aU g l' w'):=by
 have:=tZ hr hl
 rw[h] at this
 exact this
theorem nB {st:Option (List UInt8)} {m:List UInt32} {t:List UInt8} (hr:aU g st w) (hl:∀l,st=some l→l.length≤549755813888) (h:st.bind tq=some (m,t)):Calls Tryz.prog 193 #[.pointer (some ⟨g,0,none⟩)] w (bD fun r w'=>w.grownBy w' (some g)∧∃v,r=.tuple #[v,B true]∧bj m v w'∧aU g (some t) w'∧vi w.heap.size v):=by
 have:=tZ hr hl
 rw[h] at this
 exact this
theorem Cm {st:Option (List UInt8)} {m:List UInt32} {t:List UInt8} (hr:aU g st w) (hl:∀l,st=some l→l.length≤549755813888) (h:st.bind tq=some (m,t)):Calls Tryz.prog 193 #[.pointer (some ⟨g,0,none⟩)] w (bD fun r w'=>w.grownBy w' (some g)∧∃v,r=.tuple #[v,B true]∧bj m v w'∧aU g (some t) w'):=by
 exact(nB hr hl h).mono fun _ _ ⟨r,h0,h1,v,h2,h3,h4,_⟩=>⟨r,h0,h1,v,h2,h3,h4⟩
theorem Cn {st:Option (List UInt8)} (hr:aU g st w) (h:st.bind eh=none):Calls Tryz.prog 111 #[.pointer (some ⟨g,0,none⟩)] w (bD fun r w'=>w.grownBy w' (some g)∧r=.tuple #[bC 0,I 5]∧aU g none w'):=by
 have:=mM hr
 rw[h] at this
 exact this
theorem Co {st:Option (List UInt8)} {n:Nat} {t:List UInt8} (hr:aU g st w) (h:st.bind eh=some (n,t)):Calls Tryz.prog 111 #[.pointer (some ⟨g,0,none⟩)] w (bD fun r w'=>w.grownBy w' (some g)∧r=.tuple #[bC (UInt64.ofNat n),I 0]∧aU g (some t) w'):=by
 have:=mM hr
 rw[h] at this
 exact this
end
def IntR (g:Nat) (w:World) (o:Option (Nat×List UInt8)) (r:Value) (w':World):Prop:=
 w.grownBy w' (some g)∧match o with
  |some (n,t)=>r=.tuple #[I (uz n),I 0]∧aU g (some t) w'
  |none=>r=.tuple #[I 0,I 5]∧aU g none w'
theorem Es {P:Program} {w:World} {s d:TypeId} {n:Nat} (hs:P.underlying s=some (.int .u64)) (hd:P.underlying d=some (.int .i64)) (hn:n<18446744073709551616):(convert s d (bC (UInt64.ofNat n>>>UInt64.ofNat 1))).run P w=.ok (I ((n/2:Nat):Int)) w:=by
 have e:(UInt64.ofNat n>>>UInt64.ofNat 1).toNat=n/2:=by
  rw[UInt64.toNat_shiftRight,UInt64.toNat_ofNat',show(UInt64.ofNat 1).toNat%64=1 from rfl,Nat.shiftRight_eq_div_pow];omega
 have:=qz (P:=P) (w:=w) hs hd (a:=UInt64.ofNat n>>>UInt64.ofNat 1) (by omega)
 rwa [e] at this
theorem AT {n:Nat}:(UInt64.ofNat n&&&1).toNat=n%2:=by
 rw[UInt64.toNat_and,UInt64.toNat_ofNat',show(1:UInt64).toNat=1 from rfl,Nat.and_one_is_mod];omega
theorem HS {P:Program} {w:World} {s d:TypeId} {n:Nat} (hs:P.underlying s=some (.int .u64)) (hd:P.underlying d=some (.int .i64)) (h:n%2=0):(convert s d (bC (UInt64.ofNat n&&&1))).run P w=.ok (I 0) w:=by
 have:=qz (P:=P) (w:=w) hs hd (a:=UInt64.ofNat n&&&1) (by rw[AT];omega)
 rw[AT,h] at this
 exact this
theorem HT {P:Program} {w:World} {s d:TypeId} {n:Nat} (hs:P.underlying s=some (.int .u64)) (hd:P.underlying d=some (.int .i64)) (h:n%2=1):(convert s d (bC (UInt64.ofNat n&&&1))).run P w=.ok (I 1) w:=by
 have:=qz (P:=P) (w:=w) hs hd (a:=UInt64.ofNat n&&&1) (by rw[AT];omega)
 rw[AT,h] at this
 exact this
theorem t4 {w:World} {g:Nat} {st:Option (List UInt8)} (hr:aU g st w):
 Calls Tryz.prog 177 #[.pointer (some ⟨g,0,none⟩)] w (bD (IntR g w (st.bind eh))):=by
 refine enter (vs:=[.pointer (some ⟨g,0,none⟩)]) Tryz.func177 JL JL JL ?_
 refine af (aa (ac JL JL (ac JL JL (ag (ab (af ?_))))))
 rcases hN:st.bind eh with _|⟨n,t⟩
 ·refine aa (ae JL JL (am gj JL JL (Cn hr hN) ?_))
  rintro v8 w8 ⟨x8,rfl,hr1⟩
  have m8:=(hr.rdT).kp x8
  refine ae JL JL (an JL JL (bw) (an JL JL (bz) (ac JL JL (ac JL JL (ag (ab (af (af (aa (ae JL JL (aj JL JL JL (dv (by decide) dj) ?_)))))))))))
  refine ag (ab (bJ JL (af (aa (ae JL JL (ac JL JL (ac JL JL (ag (ab (au (ax (aR JL JL JL ?_))))))))))))
  exact⟨_,rfl,x8,rfl,hr1⟩
 ·refine aa (ae JL JL (am gj JL JL (Co hr hN) ?_))
  rintro v8 w8 ⟨x8,rfl,hr1⟩
  have m8:=(hr.rdT).kp x8
  refine ae JL JL (an JL JL (bw) (an JL JL (bz) (ac JL JL (ac JL JL (ag (ab (af (af (aa (ae JL JL (aj JL JL JL (eF (by decide) dj) ?_)))))))))))
  have hnn:=(AS (k:=(st.getD []).length) hN (by rintro l rfl;exact Nat.le_refl _)).2
  refine ag (ab (dI JL (ar (ab (af ?_)))))
  rcases Nat.mod_two_eq_zero_or_one n with hm|hm
  ·refine aa (ae JL JL (aj JL JL JL (de 1 (by omega)) (aQ JL JL (Es Ji Jh hnn) (ae JL JL ?_))))
   refine aj (v:=bC 1) JL JL JL (tF) (aQ JL JL (HS Ji Jh hm) (bB JL JL (uP (by omega) (by omega)) ?_))
   refine aj JL JL JL (Gr (by omega)) (ac JL JL (ac JL JL (ag (ab (au (aR JL JL JL ?_))))))
   exact⟨_,rfl,x8,congrArg (fun z=>Value.tuple #[I z,I 0]) (show _=uz n by unfold uz;rw[if_pos hm]),hr1⟩
  ·refine aa (ae JL JL (aj JL JL JL (de 1 (by omega)) (aQ JL JL (Es Ji Jh hnn) (ae JL JL ?_))))
   refine aj (v:=bC 1) JL JL JL (tF) (aQ JL JL (HT Ji Jh hm) (bB JL JL (uP (by omega) (by omega)) ?_))
   refine aj JL JL JL (Gs (by omega)) (ac JL JL (ac JL JL (ag (ab (au (aR JL JL JL ?_))))))
   exact⟨_,rfl,x8,congrArg (fun z=>Value.tuple #[I z,I 0]) (show _=uz n by unfold uz;rw[if_neg (by omega)]),hr1⟩
theorem AU {c:UInt8} {l:List UInt8} (h:1<c.toNat):p5 (c::l)=none:=if_pos h
theorem Et {c:UInt8} {l:List UInt8} (h:tq l=none):p5 (c::l)=none:=by
 show(if 1<c.toNat then none else _)=none
 split
 ·rfl
 ·rw[h];rfl
theorem Eu {c:UInt8} {l t:List UInt8} {m:List UInt32} (h1:¬1<c.toNat) (h:tq l=some (m,t)):p5 (c::l)=(tq t).bind fun q=>if rv (decide (c.toNat=1)) m q.1=true then some ((decide (c.toNat=1),m,q.1),q.2) else none:=by
 show(if 1<c.toNat then none else _)=_
 rw[if_neg h1,h];rfl
def RatE (g:Nat) (w:World) (o:Option ((Bool×List UInt32×List UInt32)×List UInt8)) (r:Value) (w':World):Prop:=
 w.grownBy w' (some g)∧match o with
  |some (q,t)=>∃v,r=.tuple #[v,I 0]∧dw q.1 q.2.1 q.2.2 v w'∧aU g (some t) w'
  |none=>∃v,r=.tuple #[v,I 5]∧dw false [] [] v w'∧aU g none w'
def IQ (g:Nat) (w:World) (o:Option ((Bool×List UInt32×List UInt32)×List UInt8)) (r:Value) (w':World):Prop:=
 w.grownBy w' (some g)∧match o with
  |some (q,t)=>∃x y,r=.tuple #[.agg #[B q.1,x,y],I 0]∧bj q.2.1 x w'∧bj q.2.2 y w'∧aU g (some t) w'∧vi w.heap.size x∧vi w.heap.size y
  |none=>∃v,r=.tuple #[v,I 5]∧dw false [] [] v w'∧aU g none w'
theorem aU.lt {w:World} {g:Nat} {st:Option (List UInt8)} (h:aU g st w):g<w.heap.size:=by
 obtain⟨A,n,c,h1,_⟩:=h
 exact cl.lt h1
theorem zq {c:UInt8}:c.toNat=1↔c=1:=by
 rw[←UInt8.toNat_inj,show(1:UInt8).toNat=1 from rfl]
theorem rR {w:World} {g:Nat} {st:Option (List UInt8)} (hr:aU g st w) (hl:∀l,st=some l→l.length≤549755813888):
 Calls Tryz.prog 179 #[.pointer (some ⟨g,0,none⟩)] w (bD (IQ g w (st.bind p5))):=by
 refine enter (vs:=[.pointer (some ⟨g,0,none⟩)]) Tryz.func179 JL JL JL ?_
 have hglt:=hr.lt
 refine af (aa ?_)
 obtain⟨g2,w2,hr2,l2,x2,k2⟩:=gz (w:=w)
 refine bf JL hr2 (ac JL JL (ag (ab (af (af (aa (ae JL JL (aj JL JL JL (lN Ju) (ag (ab (dI JL ?_)))))))))))
 refine ar (ab (af ?_))
 have rr:=hr.ext x2
 have kk:=k2
 have gg:w.grownBy w2 (some g):=dF x2
 have hne:some g2≠some g:=fun h=>by have:=Option.some.inj h;omega
 have hne':g≠g2:=by omega
 rcases st with _|(_|⟨c,l⟩)
 ·have hR:(none:Option (List UInt8)).bind p5=none:=rfl
  refine aa (ae JL JL (am gX JL JL ((p4 (n:=1) rr)) ?_))
  rintro v14 _ ⟨rfl,rfl⟩
  refine ae JL JL (an JL JL (bw) (an JL JL (bz) (ac JL JL (ac JL JL (ag (ab (af (af (aa (ae JL JL (bB JL JL bF ?_)))))))))))
  refine ae JL JL (aq JL JL JL (aq JL JL JL (aq JL JL JL (aq JL JL JL (aB JL JL JL (ag (ab (bJ JL (af (aa ?_))))))))))
  refine bI (vs:=[]) JL JL ia ?_
  refine ae JL JL (am gY JL JL (g0 rr) ?_)
  rintro v27 w27 ⟨rfl,rs,g27⟩
  have m27:=(rr.rdT).kp g27
  have gg:=gg.trans g27
  have kk:=kk.other g27 hne
  have rr:=rs
  obtain⟨p,q,w3,hp,hs3,q3,k3,n3,d3⟩:=kk.stR ⟨_,_,_,rfl⟩ ⟨_,_,_,rfl⟩ (dw.mk (b:=false) (bj.nil _) (bj.nil _))
  refine aC JL JL (hs3) (ac JL JL (ag (ab (au (ax ?_)))))
  refine d9 JL JL JL k3 Jj JL dQ ?_
  exact⟨_,rfl,nA gg q3 l2,by rw[hR];exact⟨_,rfl,⟨p,q,rfl,n3,d3⟩,(rr.rdT.off (kk.kpR ⟨_,_,_,rfl⟩ ⟨_,_,_,rfl⟩ q3) q3 hne').rdAt⟩⟩
 ·have hR:(some []).bind p5=none:=rfl
  refine aa (ae JL JL (am gX JL JL ((AP (n:=1) rr (by decide))) ?_))
  rintro v14 _ ⟨rfl,rfl⟩
  refine ae JL JL (an JL JL (bw) (an JL JL (bz) (ac JL JL (ac JL JL (ag (ab (af (af (aa (ae JL JL (bB JL JL bF ?_)))))))))))
  refine ae JL JL (aq JL JL JL (aq JL JL JL (aq JL JL JL (aq JL JL JL (aB JL JL JL (ag (ab (bJ JL (af (aa ?_))))))))))
  refine bI (vs:=[]) JL JL ia ?_
  refine ae JL JL (am gY JL JL (g0 rr) ?_)
  rintro v27 w27 ⟨rfl,rs,g27⟩
  have m27:=(rr.rdT).kp g27
  have gg:=gg.trans g27
  have kk:=kk.other g27 hne
  have rr:=rs
  obtain⟨p,q,w3,hp,hs3,q3,k3,n3,d3⟩:=kk.stR ⟨_,_,_,rfl⟩ ⟨_,_,_,rfl⟩ (dw.mk (b:=false) (bj.nil _) (bj.nil _))
  refine aC JL JL (hs3) (ac JL JL (ag (ab (au (ax ?_)))))
  refine d9 JL JL JL k3 Jj JL dQ ?_
  exact⟨_,rfl,nA gg q3 l2,by rw[hR];exact⟨_,rfl,⟨p,q,rfl,n3,d3⟩,(rr.rdT.off (kk.kpR ⟨_,_,_,rfl⟩ ⟨_,_,_,rfl⟩ q3) q3 hne').rdAt⟩⟩
 ·refine aa (ae JL JL (am gX JL JL ((rG (n:=1) rr (by simp))) ?_))
  rintro v14 w14 ⟨b14,rfl,hb,rs,g14⟩
  have m14:=(rr.rdT).kp g14
  have gg:=gg.trans g14
  have hs14:=gg.size
  have kk:=kk.other g14 hne
  have rr:aU g (some l) w14:=rs
  have hb:ci [c] b14 w14:=hb
  refine ae JL JL (an JL JL (bw) (an JL JL (bz) (ac JL JL (ac JL JL (ag (ab (af (af (aa (ae JL JL (bB JL JL bF ?_)))))))))))
  refine ae JL JL (al JL (ae JL JL (al JL ?_)))
  obtain⟨a21,p21,q21⟩:=gc hb (i:=0) (by simp) .i64
  refine ap JL JL JL (p21 _) (al JL (ak JL JL (ai Jm JL q21) (al JL (aj (v:=U8 1) JL JL JL (qX) (aH JL JL JL ?_)))))
  refine ag (ab ?_)
  refine ba JL (fun h24=>?_) (fun h24=>?_)
  ·have hc:1<c.toNat:=by have:=UInt8.lt_iff_toNat_lt.1 h24;simpa using this
   have hR:(some (c::l)).bind p5=none:=AU hc
   refine af (aa ?_)
   refine bI (vs:=[]) JL JL ia ?_
   refine ae JL JL (am gY JL JL (g0 rr) ?_)
   rintro v27 w27 ⟨rfl,rs,g27⟩
   have m27:=(rr.rdT).kp g27
   have gg:=gg.trans g27
   have kk:=kk.other g27 hne
   have rr:=rs
   obtain⟨p,q,w3,hp,hs3,q3,k3,n3,d3⟩:=kk.stR ⟨_,_,_,rfl⟩ ⟨_,_,_,rfl⟩ (dw.mk (b:=false) (bj.nil _) (bj.nil _))
   refine aC JL JL (hs3) (ac JL JL (ag (ab (au (ax ?_)))))
   refine d9 JL JL JL k3 Jj JL dQ ?_
   exact⟨_,rfl,nA gg q3 l2,by rw[hR];exact⟨_,rfl,⟨p,q,rfl,n3,d3⟩,(rr.rdT.off (kk.kpR ⟨_,_,_,rfl⟩ ⟨_,_,_,rfl⟩ q3) q3 hne').rdAt⟩⟩
  ·have hc:¬1<c.toNat:=fun hh=>h24 (UInt8.lt_iff_toNat_lt.2 (by simpa using hh))
   have hl1:∀l',some l=some l'→l'.length≤549755813888:=fun l' e=>by
    have:=hl _ rfl
    cases e
    simp at this;omega
   refine ar (ab (af ?_))
   rcases hN:tq l with _|⟨m,t⟩
   ·have hR:(some (c::l)).bind p5=none:=Et hN
    refine aa (ae JL JL (am j6 JL JL ((t0 (st:=some l) rr hl1 hN)) ?_))
    rintro v30 w30 ⟨g30,v0,rfl,_,_,rs⟩
    have m30:=(rr.rdT).kp g30
    have gg:=gg.trans g30
    have hs30:=gg.size
    have kk:=kk.other g30 hne
    have rr:=rs
    refine ae JL JL (an JL JL (bw) (an JL JL (bz) (ac JL JL (ac JL JL (ag (ab (af (af (aa (ae JL JL (bB JL JL bF ?_)))))))))))
    refine ag (ab (bJ JL (af (aa ?_))))
    refine bI (vs:=[]) JL JL ia ?_
    refine ae JL JL (am gY JL JL (g0 rr) ?_)
    rintro v37 w37 ⟨rfl,rs,g37⟩
    have m37:=(rr.rdT).kp g37
    have gg:=gg.trans g37
    have kk:=kk.other g37 hne
    have rr:=rs
    obtain⟨p,q,w3,hp,hs3,q3,k3,n3,d3⟩:=kk.stR ⟨_,_,_,rfl⟩ ⟨_,_,_,rfl⟩ (dw.mk (b:=false) (bj.nil _) (bj.nil _))
    refine aC JL JL (hs3) (ac JL JL (ag (ab (au (ax ?_)))))
    refine d9 JL JL JL k3 Jj JL dQ ?_
    exact⟨_,rfl,nA gg q3 l2,by rw[hR];exact⟨_,rfl,⟨p,q,rfl,n3,d3⟩,(rr.rdT.off (kk.kpR ⟨_,_,_,rfl⟩ ⟨_,_,_,rfl⟩ q3) q3 hne').rdAt⟩⟩
   ·refine aa (ae JL JL (am j6 JL JL ((nB (st:=some l) rr hl1 hN)) ?_))
    rintro v30 w30 ⟨g30,v0,rfl,h0,rs,f0⟩
    have m30:=(rr.rdT).kp g30
    have gg:=gg.trans g30
    have hs30:=gg.size
    have kk:=kk.other g30 hne
    have rr:=rs
    refine ae JL JL (an JL JL (bw) (an JL JL (bz) (ac JL JL (ac JL JL (ag (ab (af (af (aa (ae JL JL (bB JL JL bF ?_)))))))))))
    refine ag (ab (dI JL (ar (ab (af ?_)))))
    have hl2:∀l',some t=some l'→l'.length≤549755813888:=fun l' e=>by
     cases e
     have h1:=(jz hN).1
     have:=hl1 _ rfl
     rw[h1,List.length_append] at this
     omega
    obtain⟨s,hs⟩:∃s,s=decide (c.toNat=1):=⟨_,rfl⟩
    have hcs:s=decide (([c]:List UInt8)[0]'(Nat.zero_lt_one)=(1:UInt8)):=by
     rw[hs]
     exact decide_eq_decide.2 ⟨fun h=>zq.1 h,fun h=>zq.2 h⟩
    have hR1:=Eu hc hN
    rw[←hs] at hR1
    rcases hM:tq t with _|⟨m',t'⟩
    rotate_left
    rcases hV:rv s m m'
    ·have hR:(some (c::l)).bind p5=none:=by
      show p5 (c::l)=none
      rw[hR1,hM]
      exact if_neg (by rw[hV];simp)
     refine aa (ae JL JL (am j6 JL JL ((Cm (st:=some t) rr hl2 hM)) ?_))
     rintro v40 w40 ⟨g40,v1,rfl,h1,rs⟩
     have m40:=(rr.rdT).kp g40
     have gg:=gg.trans g40
     have kk:=kk.other g40 hne
     have rr:=rs
     refine ae JL JL (an JL JL (bw) (an JL JL (bz) (ac JL JL (ac JL JL (ag (ab (af (aa (ae JL JL ?_)))))))))
     obtain⟨a44,p44,q44⟩:=gc (hb.kp (m30.trans m40)) (i:=0) (by simp) .i64
     refine ap JL JL JL (p44 _) (ak JL JL (ai Jm JL q44) (aj (v:=U8 1) (r:=B s) JL JL JL ((by rw[hcs];exact iy)) ?_))
     refine ae JL JL (ae JL JL ?_)
     refine bI (vs:=[(0,B s),(1,v0),(2,v1)]) JL JL (j5 h0.isS h1.isS) ?_
     obtain⟨g8,w8,hr8,l8,x8,k8⟩:=gz (w:=w40)
     refine bf JL hr8 ?_
     obtain⟨p,q,w4,hp,hs4,q4,k4,n4,d4⟩:=k8.stR ⟨_,_,_,rfl⟩ ⟨_,_,_,rfl⟩ (dw.mk (b:=s) ((h0.kp m40).ext x8) (h1.ext x8))
     refine aC JL JL (hs4) ?_
     have x4:=x8.of_new q4 l8
     have rr:=rr.ext x4
     have kk:=kk.ext x4
     have gg:=gg.trans (dF x4)
     have hml:m.length≤137438953472:=by
      have:=hl1 _ rfl
      rw[(jz hN).1,List.length_append,lR,List.length_append,fw] at this
      omega
     refine ag (ab (af (af (aa (ae JL JL (bB JL JL bF (ae JL JL (al JL (ak JL JL (k4.ldR) (al JL ?_))))))))))
     have hml':m'.length≤137438953472:=by
      have:=hl2 _ rfl
      rw[(jz hM).1,List.length_append,lR,List.length_append,fw] at this
      omega
     refine am eu JL JL ((by have:=lS (b:=s) (dw.mk n4 d4) hml hml';rw[hV] at this;exact this)) ?_
     rintro v54 w54 ⟨x54,rfl⟩
     have rr:=rr.ext x54
     have kk:=kk.ext x54
     have gg:=gg.trans (dF x54)
     refine al JL (bB JL JL bF (aH JL JL JL (ag (ab (bJ JL (af (aa ?_)))))))
     refine bI (vs:=[]) JL JL ia ?_
     refine ae JL JL (am gY JL JL (g0 rr) ?_)
     rintro v59 w59 ⟨rfl,rs,g59⟩
     have m59:=(rr.rdT).kp g59
     have gg:=gg.trans g59
     have kk:=kk.other g59 hne
     have rr:=rs
     obtain⟨p,q,w3,hp,hs3,q3,k3,n3,d3⟩:=kk.stR ⟨_,_,_,rfl⟩ ⟨_,_,_,rfl⟩ (dw.mk (b:=false) (bj.nil _) (bj.nil _))
     refine aC JL JL (hs3) (ac JL JL (ag (ab (au (ax ?_)))))
     refine d9 JL JL JL k3 Jj JL dQ ?_
     exact⟨_,rfl,nA gg q3 l2,by rw[hR];exact⟨_,rfl,⟨p,q,rfl,n3,d3⟩,(rr.rdT.off (kk.kpR ⟨_,_,_,rfl⟩ ⟨_,_,_,rfl⟩ q3) q3 hne').rdAt⟩⟩
    ·have hR:(some (c::l)).bind p5=some ((s,m,m'),t'):=by
      show p5 (c::l)=_
      rw[hR1,hM]
      exact if_pos hV
     refine aa (ae JL JL (am j6 JL JL ((nB (st:=some t) rr hl2 hM)) ?_))
     rintro v40 w40 ⟨g40,v1,rfl,h1,rs,f1⟩
     have m40:=(rr.rdT).kp g40
     have gg:=gg.trans g40
     have kk:=kk.other g40 hne
     have rr:=rs
     refine ae JL JL (an JL JL (bw) (an JL JL (bz) (ac JL JL (ac JL JL (ag (ab (af (aa (ae JL JL ?_)))))))))
     obtain⟨a44,p44,q44⟩:=gc (hb.kp (m30.trans m40)) (i:=0) (by simp) .i64
     refine ap JL JL JL (p44 _) (ak JL JL (ai Jm JL q44) (aj (v:=U8 1) (r:=B s) JL JL JL ((by rw[hcs];exact iy)) ?_))
     refine ae JL JL (ae JL JL ?_)
     refine bI (vs:=[(0,B s),(1,v0),(2,v1)]) JL JL (j5 h0.isS h1.isS) ?_
     obtain⟨g8,w8,hr8,l8,x8,k8⟩:=gz (w:=w40)
     refine bf JL hr8 ?_
     obtain⟨p,q,w4,hp,hs4,q4,k4,n4,d4⟩:=k8.stR ⟨_,_,_,rfl⟩ ⟨_,_,_,rfl⟩ (dw.mk (b:=s) ((h0.kp m40).ext x8) (h1.ext x8))
     refine aC JL JL (hs4) ?_
     have x4:=x8.of_new q4 l8
     have rr:=rr.ext x4
     have kk:=kk.ext x4
     have gg:=gg.trans (dF x4)
     have hml:m.length≤137438953472:=by
      have:=hl1 _ rfl
      rw[(jz hN).1,List.length_append,lR,List.length_append,fw] at this
      omega
     refine ag (ab (af (af (aa (ae JL JL (bB JL JL bF (ae JL JL (al JL (ak JL JL (k4.ldR) (al JL ?_))))))))))
     have hml':m'.length≤137438953472:=by
      have:=hl2 _ rfl
      rw[(jz hM).1,List.length_append,lR,List.length_append,fw] at this
      omega
     refine am eu JL JL ((by have:=lS (b:=s) (dw.mk n4 d4) hml hml';rw[hV] at this;exact this)) ?_
     rintro v54 w54 ⟨x54,rfl⟩
     have rr:=rr.ext x54
     have kk:=kk.ext x54
     have gg:=gg.trans (dF x54)
     refine al JL (bB JL JL bF (aH JL JL JL (ag (ab (dI JL (ar (ab (af (aa (ak JL JL ((k4.ext x54).ldR) ?_))))))))))
     obtain⟨ea,eb⟩:=xH hp
     obtain⟨p,q,w3,hp,hs3,q3,k3,n3,d3⟩:=kk.stR ⟨_,_,_,rfl⟩ ⟨_,_,_,rfl⟩ ((dw.mk n4 d4).ext x54)
     refine aC JL JL (hs3) (ac JL JL (ag (ab (au ?_))))
     refine d9 JL JL JL k3 Jj JL dQ ?_
     exact⟨_,rfl,nA gg q3 l2,by
      rw[hR]
      obtain⟨ec,ed⟩:=xH hp
      exact⟨p,q,rfl,n3,d3,(rr.rdT.off (kk.kpR ⟨_,_,_,rfl⟩ ⟨_,_,_,rfl⟩ q3) q3 hne').rdAt,ec▸ea▸(fun k hk=>Nat.le_trans hs14 (f0 k hk)),ed▸eb▸(fun k hk=>Nat.le_trans hs30 (f1 k hk))⟩⟩
    ·have hR:(some (c::l)).bind p5=none:=by
      show p5 (c::l)=none
      rw[hR1,hM];rfl
     refine aa (ae JL JL (am j6 JL JL ((t0 (st:=some t) rr hl2 hM)) ?_))
     rintro v40 w40 ⟨g40,v1,rfl,⟨m',h1⟩,_,rs⟩
     have m40:=(rr.rdT).kp g40
     have gg:=gg.trans g40
     have kk:=kk.other g40 hne
     have rr:=rs
     refine ae JL JL (an JL JL (bw) (an JL JL (bz) (ac JL JL (ac JL JL (ag (ab (af (aa (ae JL JL ?_)))))))))
     obtain⟨a44,p44,q44⟩:=gc (hb.kp (m30.trans m40)) (i:=0) (by simp) .i64
     refine ap JL JL JL (p44 _) (ak JL JL (ai Jm JL q44) (aj (v:=U8 1) (r:=B s) JL JL JL ((by rw[hcs];exact iy)) ?_))
     refine ae JL JL (ae JL JL ?_)
     refine bI (vs:=[(0,B s),(1,v0),(2,v1)]) JL JL (j5 h0.isS h1.isS) ?_
     obtain⟨g8,w8,hr8,l8,x8,k8⟩:=gz (w:=w40)
     refine bf JL hr8 ?_
     obtain⟨p,q,w4,hp,hs4,q4,k4,n4,d4⟩:=k8.stR ⟨_,_,_,rfl⟩ ⟨_,_,_,rfl⟩ (dw.mk (b:=s) ((h0.kp m40).ext x8) (h1.ext x8))
     refine aC JL JL (hs4) ?_
     have x4:=x8.of_new q4 l8
     have rr:=rr.ext x4
     have kk:=kk.ext x4
     have gg:=gg.trans (dF x4)
     have hml:m.length≤137438953472:=by
      have:=hl1 _ rfl
      rw[(jz hN).1,List.length_append,lR,List.length_append,fw] at this
      omega
     refine ag (ab (af (af (aa (ae JL JL (bB JL JL bF (ae JL JL (aq JL JL JL (aq JL JL JL (aq JL JL JL (aB JL JL JL (ag (ab ?_)))))))))))))
     refine bJ JL (af (aa ?_))
     refine bI (vs:=[]) JL JL ia ?_
     refine ae JL JL (am gY JL JL (g0 rr) ?_)
     rintro v59 w59 ⟨rfl,rs,g59⟩
     have m59:=(rr.rdT).kp g59
     have gg:=gg.trans g59
     have kk:=kk.other g59 hne
     have rr:=rs
     obtain⟨p,q,w3,hp,hs3,q3,k3,n3,d3⟩:=kk.stR ⟨_,_,_,rfl⟩ ⟨_,_,_,rfl⟩ (dw.mk (b:=false) (bj.nil _) (bj.nil _))
     refine aC JL JL (hs3) (ac JL JL (ag (ab (au (ax ?_)))))
     refine d9 JL JL JL k3 Jj JL dQ ?_
     exact⟨_,rfl,nA gg q3 l2,by rw[hR];exact⟨_,rfl,⟨p,q,rfl,n3,d3⟩,(rr.rdT.off (kk.kpR ⟨_,_,_,rfl⟩ ⟨_,_,_,rfl⟩ q3) q3 hne').rdAt⟩⟩
end Go.Rl
namespace Go.Rl
open Go.RowKit Go.Proofs
end Go.Rl
namespace Go.Rl
open Go.RowKit Go.Proofs
section
variable {w:World} {g:Nat}
end
theorem AV {P:Program} {w:World} {s d:TypeId} {n:Nat} (hs:P.underlying s=some (.int .u64)) (hd:P.underlying d=some (.int .i64)) (hn:n<9223372036854775808):(convert s d (bC (UInt64.ofNat n))).run P w=.ok (I (n:Int)) w:=by
 have e:(UInt64.ofNat n).toNat=n:=by rw[UInt64.toNat_ofNat'];omega
 have:=qz (P:=P) (w:=w) hs hd (a:=UInt64.ofNat n) (by omega)
 rwa [e] at this
theorem lT {n m:Nat} (hn:n<18446744073709551616) (hm:m<18446744073709551616):UInt64.ofNat n>UInt64.ofNat m↔m<n:=by
 show UInt64.ofNat m<UInt64.ofNat n↔m<n
 rw[UInt64.lt_iff_toNat_lt,UInt64.toNat_ofNat',UInt64.toNat_ofNat']
 omega
end Go.Rl
namespace Go.Rl
open Go.RowKit Go.Proofs
section
variable {w:World} {g:Nat}
end
end Go.Rl
namespace Go.Rl
open Go.RowKit Go.Proofs
end Go.Rl
namespace Go.Rl
open Go.RowKit Go.Proofs
theorem Gt {l t:List UInt8} {b:Bool} {n m:List UInt32} (h:p5 l=some ((b,n,m),t)):l=oo b n m++t∧rv b n m=true∧4*(n.length+m.length)≤l.length:=by
 cases l with
 |nil=>cases h
 |cons c l=>
  by_cases hc:1<c.toNat
  ·rw[AU hc] at h;cases h
  ·cases hN:tq l with
   |none=>rw[Et hN] at h;cases h
   |some p=>
    obtain⟨n',u⟩:=p
    rw[Eu hc hN] at h
    cases hM:tq u with
    |none=>rw[hM] at h;cases h
    |some q=>
     obtain⟨m',u'⟩:=q
     rw[hM] at h
     have h:(if rv (decide (c.toNat=1)) n' m'=true then some ((decide (c.toNat=1),n',m'),u') else none)=some ((b,n,m),t):=h
     split at h
     ·rename_i hv
      simp only[Option.some.injEq,Prod.mk.injEq] at h
      obtain⟨⟨rfl,rfl,rfl⟩,rfl⟩:=h
      have hcs:c=yP (decide (c.toNat=1)):=by
       by_cases h1:c.toNat=1
       ·rw[decide_eq_true h1,zq.1 h1];rfl
       ·rw[decide_eq_false h1]
        exact UInt8.toNat_inj.1 (show c.toNat=(0:UInt8).toNat by rw[show(0:UInt8).toNat=0 from rfl];omega)
      have e:c::l=oo (decide (c.toNat=1)) n' m'++u':=by
       rw[oo,←hcs,(jz hN).1,(jz hM).1]
       simp
      refine⟨e,hv,?_⟩
      rw[e]
      simp only[oo,lR,List.length_append,fw]
      omega
     ·cases h
section
variable {w:World} {g:Nat} {st:Option (List UInt8)}
theorem Hk (hr:aU g st w) (h:st.bind eh=none):Calls Tryz.prog 111 #[.pointer (some ⟨g,0,none⟩)] w (bD fun r w'=>w.grownBy w' (some g)∧r=.tuple #[bC 0,I 5]∧aU g none w'):=by
 have:=mM hr
 rw[h] at this
 exact this
theorem Hl {n:Nat} {t:List UInt8} (hr:aU g st w) (h:st.bind eh=some (n,t)):Calls Tryz.prog 111 #[.pointer (some ⟨g,0,none⟩)] w (bD fun r w'=>w.grownBy w' (some g)∧r=.tuple #[bC (UInt64.ofNat n),I 0]∧aU g (some t) w'):=by
 have:=mM hr
 rw[h] at this
 exact this
theorem IR (hr:aU g st w) (h:st.bind eh=none):Calls Tryz.prog 177 #[.pointer (some ⟨g,0,none⟩)] w (bD fun r w'=>w.grownBy w' (some g)∧r=.tuple #[I 0,I 5]∧aU g none w'):=by
 have:=t4 hr
 rw[h] at this
 exact this
theorem IS {n:Nat} {t:List UInt8} (hr:aU g st w) (h:st.bind eh=some (n,t)):Calls Tryz.prog 177 #[.pointer (some ⟨g,0,none⟩)] w (bD fun r w'=>w.grownBy w' (some g)∧r=.tuple #[I (uz n),I 0]∧aU g (some t) w'):=by
 have:=t4 hr
 rw[h] at this
 exact this
end
end Go.Rl
namespace Go.Rl
def gK (x:UInt32) (n:Nat):UInt32:=(x>>>UInt32.ofNat n)|||(x<<<UInt32.ofNat (32-n))
def kc:List UInt32:=[0x428a2f98,0x71374491,0xb5c0fbcf,0xe9b5dba5,0x3956c25b,0x59f111f1,0x923f82a4,0xab1c5ed5,0xd807aa98,0x12835b01,0x243185be,0x550c7dc3,0x72be5d74,0x80deb1fe,0x9bdc06a7,0xc19bf174,0xe49b69c1,0xefbe4786,0x0fc19dc6,0x240ca1cc,0x2de92c6f,0x4a7484aa,0x5cb0a9dc,0x76f988da,0x983e5152,0xa831c66d,0xb00327c8,0xbf597fc7,0xc6e00bf3,0xd5a79147,0x06ca6351,0x14292967,0x27b70a85,0x2e1b2138,0x4d2c6dfc,0x53380d13,0x650a7354,0x766a0abb,0x81c2c92e,0x92722c85,0xa2bfe8a1,0xa81a664b,0xc24b8b70,0xc76c51a3,0xd192e819,0xd6990624,0xf40e3585,0x106aa070,0x19a4c116,0x1e376c08,0x2748774c,0x34b0bcb5,0x391c0cb3,0x4ed8aa4a,0x5b9cca4f,0x682e6ff3,0x748f82ee,0x78a5636f,0x84c87814,0x8cc70208,0x90befffa,0xa4506ceb,0xbef9a3f7,0xc67178f2]
def iv:List UInt32:=[0x6a09e667,0xbb67ae85,0x3c6ef372,0xa54ff53a,0x510e527f,0x9b05688c,0x1f83d9ab,0x5be0cd19]
def ow (b:List UInt8) (t:Nat):UInt32:=((((b.getD (4*t) 0).toUInt32<<<UInt32.ofNat 24)|||((b.getD (4*t+1) 0).toUInt32<<<UInt32.ofNat 16))|||((b.getD (4*t+2) 0).toUInt32<<<UInt32.ofNat 8))|||(b.getD (4*t+3) 0).toUInt32
def lU (l:List UInt32):UInt32:=
 let t:=l.length
 let x:=l.getD (t-15) 0
 let y:=l.getD (t-2) 0
 l.getD (t-16) 0+(gK x 7^^^gK x 18^^^x>>>UInt32.ofNat 3)+l.getD (t-7) 0+(gK y 17^^^gK y 19^^^y>>>UInt32.ofNat 10)
def iE (b:List UInt8) (k:Nat):List UInt32:=(List.range k).map (ow b)
def bt (b:List UInt8):Nat→List UInt32
 |0=>iE b 16
 |k+1=>bt b k++[lU (bt b k)]
theorem j7 (b:List UInt8):∀k,(bt b k).length=16+k
 |0=>by simp[bt,iE]
 |k+1=>by simp[bt,j7 b k];omega
def t1 (s:List UInt32) (k w:UInt32):UInt32:=
 let e:=s.getD 4 0
 s.getD 7 0+(gK e 6^^^gK e 11^^^gK e 25)+(e&&&s.getD 5 0^^^ ~~~e&&&s.getD 6 0)+k+w
def t2 (s:List UInt32):UInt32:=
 let a:=s.getD 0 0
 (gK a 2^^^gK a 13^^^gK a 22)+(a&&&s.getD 1 0^^^a&&&s.getD 2 0^^^s.getD 1 0&&&s.getD 2 0)
def rnd (s:List UInt32) (k w:UInt32):List UInt32:=[t1 s k w+t2 s,s.getD 0 0,s.getD 1 0,s.getD 2 0,s.getD 3 0+t1 s k w,s.getD 4 0,s.getD 5 0,s.getD 6 0]
def dH (b:List UInt8) (s:List UInt32):Nat→List UInt32
 |0=>s
 |i+1=>rnd (dH b s i) (kc.getD i 0) ((bt b 48).getD i 0)
theorem fW (b:List UInt8) (s:List UInt32) (hs:s.length=8):∀i,(dH b s i).length=8
 |0=>hs
 |_+1=>rfl
def tt (s:List UInt32) (b:List UInt8):List UInt32:=List.zipWith (· + ·) s (dH b s 64)
theorem xI (s:List UInt32) (b:List UInt8) (hs:s.length=8):(tt s b).length=8:=by
 simp[tt,hs,fW b s hs]
def t6 (m:List UInt8):Nat→List UInt32
 |0=>iv
 |k+1=>tt (t6 m k) ((m.drop (64*k)).take 64)
theorem mN (m:List UInt8):∀k,(t6 m k).length=8
 |0=>rfl
 |k+1=>xI _ _ (mN m k)
theorem nC (m x:List UInt8):∀k,64*k≤m.length→t6 (m++x) k=t6 m k
 |0,_=>rfl
 |k+1,h=>by
  have h0:64*k≤m.length:=by omega
  have h1:64≤(m.drop (64*k)).length:=by simp;omega
  rw[t6,t6,nC m x k h0,List.drop_append_of_le_length h0,List.take_append_of_le_length h1]
def sh (m:List UInt8):List UInt32:=t6 m (m.length/64)
theorem Ev (m:List UInt8):(sh m).length=8:=mN m _
theorem vj (p t:List UInt8) (hp:p.length%64=0) (ht:t.length<64):sh (p++t)=sh p:=by
 have:(p++t).length/64=p.length/64:=by simp only[List.length_append];omega
 unfold sh
 rw[this,nC p t _ (by omega)]
theorem Ew (p b:List UInt8) (hp:p.length%64=0) (hb:b.length=64):sh (p++b)=tt (sh p) b:=by
 have h1:(p++b).length/64=p.length/64+1:=by simp only[List.length_append];omega
 unfold sh
 rw[h1,t6,nC p b _ (by omega)]
 have h2:64*(p.length/64)=p.length:=by omega
 rw[h2,List.drop_left,←hb,List.take_length]
def tk (x:UInt32):List UInt8:=[(x>>>UInt32.ofNat 24).toUInt8,(x>>>UInt32.ofNat 16).toUInt8,(x>>>UInt32.ofNat 8).toUInt8,x.toUInt8]
def xJ (n:UInt64):List UInt8:=(List.range 8).map fun i=>(n>>>UInt64.ofNat (56-8*i)).toUInt8
def fX (n:Nat):Nat:=(119-n%64)%64
def ee (m:List UInt8):List UInt8:=m++[128]++List.replicate (fX m.length) 0++xJ (UInt64.ofNat m.length*8)
theorem zr (m:List UInt8):(ee m).length%64=0:=by
 simp only[ee,fX,xJ,List.length_append,List.length_cons,List.length_nil,List.length_replicate,List.length_map,List.length_range];omega
def iL (m:List UInt8):List UInt8:=(sh (ee m)).flatMap tk
end Go.Rl
namespace Go.Rl
open Go.RowKit
abbrev fx:=Bool×List UInt32×List UInt32
def nf (n:Int):Dt:=.int .i64 n
def fK (q:fx):Dt:=.st [.bool q.1,ju q.2.1,ju q.2.2]
structure qo where
 kd:Int
 fr:Int
 ou:Int
 kh:Int
 kw:Int
 sr:Int
 pd:Int
 ws:List fx
 bs:List fx
structure Gu where
 inp:List Int
 lays:List qo
theorem qo.eq_iff {a b:qo}:a=b↔a.kd=b.kd∧a.fr=b.fr∧a.ou=b.ou∧a.kh=b.kh∧a.kw=b.kw∧a.sr=b.sr∧a.pd=b.pd∧a.ws=b.ws∧a.bs=b.bs:=by
 constructor
 ·rintro rfl;exact⟨rfl,rfl,rfl,rfl,rfl,rfl,rfl,rfl,rfl⟩
 ·rintro⟨h1,h2,h3,h4,h5,h6,h7,h8,h9⟩
  cases a;cases b;simp_all
theorem Gu.eq_iff {a b:Gu}:a=b↔a.inp=b.inp∧a.lays=b.lays:=by
 constructor
 ·rintro rfl;exact⟨rfl,rfl⟩
 ·rintro⟨h1,h2⟩
  cases a;cases b;simp_all
instance:DecidableEq qo:=fun _ _=>decidable_of_iff _ qo.eq_iff.symm
instance:DecidableEq Gu:=fun _ _=>decidable_of_iff _ Gu.eq_iff.symm
def Hm (l:List Int):Dt:=.sl (l.map nf)
def mO (n:Int):Prop:= -9223372036854775808≤n∧n≤9223372036854775807
def dS (n:Int):List UInt8:=uv (Ee n)
def iR (q:fx):List UInt8:=oo q.1 q.2.1 q.2.2
def qH (l:List UInt8):Option (Int×List UInt8):=(eh l).map fun p=>(uz p.1,p.2)
def da {α:Type} (f:List UInt8→Option (α×List UInt8)):Nat→List UInt8→Option (List α×List UInt8)
 |0,l=>some ([],l)
 |n+1,l=>(f l).bind fun p=>(da f n p.2).map fun q=>(p.1::q.1,q.2)
def lV {α:Type} (f:List UInt8→Option (α×List UInt8)) (l:List UInt8):Option (List α×List UInt8):=(eh l).bind fun p=>da f p.1 p.2
end Go.Rl
namespace Go.Rl
open Go.RowKit Go.Proofs
section
variable {α:Type} {f:α→Dt} {l:List α} {v:Value} {w w':World}
def cK (f:α→Dt) (l:List α) (v:Value) (w:World):Prop:=Rp w (.sl (l.map f)) [v]
theorem cK.ext (h:cK f l v w) (hx:aG w w'):cK f l v w':=Rp.ext hx h
theorem cK.stable (f:α→Dt) (l:List α):bo (cK f l):=fun _ _ _ h hx=>h.ext hx
theorem cK.isS (h:cK f l v w):∃A n c,v=.slice A n c:=by
 unfold cK at h
 simp only[Rp] at h
 obtain⟨A,n,c,hv,_⟩:=h
 exact⟨A,n,c,by simpa using hv⟩
theorem cK.one (h:cK f l v w):v.oneCell'=true:=by obtain⟨A,n,c,rfl⟩:=h.isS;rfl
theorem bj.one {l:List UInt32} (h:bj l v w):v.oneCell'=true:=by obtain⟨A,n,c,rfl⟩:=h.isS;rfl
theorem cK.nil (f:α→Dt) (w:World):cK f [] (.slice none 0 0) w:=Rp.nilSl
theorem cK.len (h:cK f l v w):l.length≤9223372036854775807:=by
 have:=Rp.slLen h
 simpa using this
theorem bO {P:Program} {t e:TypeId} {ty:TypeId} (ht:P.underlying t=some (.slice e)) (h:cK f l v w):(Builtin.len_ #[t] ty #[v]).run P w=.ok (I l.length) w:=by
 have:=HE (ty:=ty) ht h
 simpa using this
theorem cO {P:Program} {t e:TypeId} {sz:Nat} (ht:P.underlying t=some (.slice e)) (hz:(P.info? e).map (·.size)=some sz) (hs:∀x,(f x).size=sz) (h0:0<sz) (h:cK f l v w) {i:Nat} (hi:i<l.length) (k:IntKind):
 ∃ad cs,(∀w':World,(Instr.indexAt t v (.int k i)).run P w'=.ok (.pointer (some ad)) w')∧dt w ad cs∧Rp w (f l[i]) cs:=by
 obtain⟨ad,cs,h1,h2,h3⟩:=IE ht hz h (by simp[hs]) h0 (i:=i) (by simpa using hi) k
 exact⟨ad,cs,h1,h2,by simpa using h3⟩
theorem dt.at {ad:Addr} {xs:List Value} (h:dt w ad xs) {j:Nat} {u:Value} (hj:xs[j]? =some u):w.cell? (ad.add j)=some u:=h j u hj
theorem jM {P:Program} {s:TypeId} {fs:Array Field} {fd:Field} {n o:Nat} {a:Addr} (hs:P.underlying s=some (.struct fs)) (hf:fs[n]? =some fd) (hk:(P.cellsOf fd.type==0)=false) (ho:fd.offset=o):
 (Instr.fieldAt s (.pointer (some a)) n).run P w=.ok (.pointer (some (a.add o))) w:=by
 have hk':P.cellsOf fd.type≠0:=by simpa using hk
 obtain⟨k,hk1⟩:∃k,(P.info? fd.type).map (·.size)=some k:=by
  cases hi:(P.info? fd.type).map (·.size) with
  |none=>exact absurd (by simp[Program.cellsOf,hi]) hk'
  |some k=>exact⟨k,rfl⟩
 have hk0:k≠0:=by
  intro h
  apply hk'
  simp[Program.cellsOf,hk1,h]
 rw[ce hs hf hk1 hk0,ho]
theorem AW {P:Program} {s:TypeId} {fs:Array Field} {fd:Field} {n o b:Nat} {a:Addr} (hs:P.underlying s=some (.struct fs)) (hf:fs[n]? =some fd) (hk:(P.cellsOf fd.type==0)=false) (ho:fd.offset=o):
 (Instr.fieldAt s (.pointer (some (a.add b))) n).run P w=.ok (.pointer (some (a.add (b+o)))) w:=by
 rw[jM hs hf hk ho,qw]
theorem dt.ld {P:Program} {t:TypeId} {d:TypeDesc} {ad:Addr} {cs:List Value} (h:dt w ad cs) (ht:P.underlying t=some d) (hd:d.isRow=true) (hz:(P.info? t).map (·.size)=some cs.length):(Instr.loadAt t (.pointer (some ad))).run P w=.ok (.agg cs.toArray) w:=IF h ht hd hz
theorem cl.ld {P:Program} {t T:TypeId} {d:TypeDesc} {g:Nat} {cs:List Value} (h:cl g T cs w) (ht:P.underlying t=some d) (hd:d.isRow=true) (hz:(P.info? t).map (·.size)=some cs.length):(Instr.loadAt t (.pointer (some ⟨g,0,none⟩))).run P w=.ok (.agg cs.toArray) w:=
 lH h (fun j v hj=>by simpa using hj) ht hd hz
theorem cl.ldO {P:Program} {t T:TypeId} {d:TypeDesc} {g o:Nat} {cs ms:List Value} (h:cl g T cs w) (hm:∀j v,ms[j]? =some v→cs[o+j]? =some v) (ht:P.underlying t=some d) (hd:d.isRow=true) (hz:(P.info? t).map (·.size)=some ms.length):(Instr.loadAt t (.pointer (some ⟨g,o,none⟩))).run P w=.ok (.agg ms.toArray) w:=
 lH h hm ht hd hz
theorem cI {P:Program} {T:TypeId} {cs:List Value}:∃g w',(Instr.box T (.agg cs.toArray)).run P w=.ok (.pointer (some ⟨g,0,none⟩)) w'∧w.heap.size≤g∧aG w w'∧cl g T cs w':=
 ⟨_,_,m2,Nat.le_refl _,aG.new w _,cl.new (T:=T) (.agg cs.toArray) rfl⟩
def aL (l:List Value):Prop:=∀v∈l,v.oneCell'=true
theorem aL.nil:aL []:=fun _ h=>by simp at h
theorem aL.cons {v:Value} {l:List Value} (h:v.oneCell'=true) (h':aL l):aL (v::l):=fun u hu=>by
 rcases List.mem_cons.1 hu with rfl|hu
 ·exact h
 ·exact h' u hu
theorem cl.stS {P:Program} {t T:TypeId} {g:Nat} {l m:List Value} (h:cl g T l w) (hl:l.length=m.length) (hi:(P.info? t).map (·.size)=some m.length) (h1:aL m):
 ∃w',(Instr.storeAt t (.pointer (some ⟨g,0,none⟩)) (.agg m.toArray)).run P w=.ok () w'∧w.grownBy w' (some g)∧cl g T m w':=
 ⟨_,gO h hl hi h1,bg w g _,h.row m⟩
theorem cl.stC {P:Program} {t T:TypeId} {g i:Nat} {l:List Value} {v:Value} (h:cl g T l w) (hs:(P.info? t).map (·.size)=some 1) (hv:v.oneCell'=true) (hi:i<l.length):
 ∃w',(Instr.storeAt t (.pointer (some ⟨g,i,none⟩)) v).run P w=.ok () w'∧w.grownBy w' (some g)∧cl g T (l.set i v) w':=by
 have h':=h
 unfold cl at h'
 obtain h2:=dY (P:=P) (t:=t) (v:=v) hs hv h' (by simpa using hi)
 exact⟨_,h2,bb w g i v,h.set i v⟩
end
end Go.Rl
namespace Go.Rl
open Go.RowKit
section
variable {w:World} {cs:List Value}
theorem xK (n:Int):(nf n).size=1:=rfl
theorem Gv {n:Int} (h:Rp w (nf n) cs):cs=[I n]:=by simp only[nf,Rp] at h;exact h
theorem lW {q:fx} (h:Rp w (fK q) cs):∃x y,cs=[B q.1,x,y]∧bj q.2.1 x w∧bj q.2.2 y w:=by
 simp only[fK,Rp,bi] at h
 obtain⟨_,_,rfl,rfl,_,_,rfl,h1,_,_,rfl,h2,rfl⟩:=h
 obtain⟨x,rfl,hx,_⟩:=Rp.isSlice h1
 obtain⟨y,rfl,hy,_⟩:=Rp.isSlice h2
 exact⟨x,y,rfl,Rp.wds.1 hx,Rp.wds.1 hy⟩
end
end Go.Rl
namespace Go.Rl
open Go.RowKit
section
variable {α β:Type} {f:List UInt8→Option (α×List UInt8)} {st s1 s2 so:Option (List UInt8)} {a:α}
def ff (f:List UInt8→Option (α×List UInt8)) (st:Option (List UInt8)) (a:α) (s1:Option (List UInt8)):Prop:=st.bind f=s1.map fun t=>(a,t)
theorem ff.some {t:List UInt8} (h:ff f st a (some t)):∃l,st=.some l∧f l=.some (a,t):=by
 cases st with
 |none=>cases h
 |some l=>exact⟨l,rfl,h⟩
def Le (f:List UInt8→Option (α×List UInt8)):Prop:=∀l a t,f l=some (a,t)→t.length≤l.length
def Lt (f:List UInt8→Option (α×List UInt8)):Prop:=∀l a t,f l=some (a,t)→t.length+1≤l.length
theorem Lt.le (h:Lt f):Le f:=fun l a t e=>by have:=h l a t e;omega
def F3 (n:Nat) (st:Option (List UInt8)):Prop:=∀l,st=some l→l.length≤n
theorem ff.atM {n:Nat} (h:ff f st a s1) (hf:Le f) (hn:F3 n st):F3 n s1:=fun t e=>by
 subst e
 obtain⟨l,h1,h2⟩:=h.some
 exact Nat.le_trans (hf l a t h2) (hn l h1)
theorem nD {N:Nat}:so.bind (da f N)=so.bind (fun l=>(da f N l).map fun p=>([]++p.1,p.2)):=by
 cases so with
 |none=>rfl
 |some l=>simp
theorem pt {X:Option (List α×List UInt8)} {k:Nat} {done:List α} (hR:X=so.bind (fun l=>(da f (k+1) l).map fun p=>(done++p.1,p.2))) (hq:ff f so a s2):
 X=s2.bind (fun l=>(da f k l).map fun p=>((done++[a])++p.1,p.2)):=by
 rw[hR]
 cases so with
 |none=>
  cases s2 with
  |none=>rfl
  |some t=>cases hq
 |some l=>
  have hq:f l=s2.map fun t=>(a,t):=hq
  show(da f (k+1) l).map _=_
  simp only[da]
  rw[hq]
  cases s2 with
  |none=>rfl
  |some t=>
   simp only[Option.map_some,Option.bind_some,Option.map_map]
   cases da f k t<;>simp
theorem Cp {X:Option (List α×List UInt8)} {done:List α} (hR:X=so.bind (fun l=>(da f 0 l).map fun p=>(done++p.1,p.2))):X=so.map fun t=>(done,t):=by
 rw[hR]
 cases so with
 |none=>rfl
 |some l=>simp[da]
theorem t7 (hf:Le f):∀(n:Nat) (l:List UInt8) (a:List α) (t:List UInt8),da f n l=some (a,t)→t.length≤l.length
 |0,l,a,t,h=>by simp only[da,Option.some.injEq,Prod.mk.injEq] at h;rw[←h.2];exact Nat.le_refl _
 |n+1,l,a,t,h=>by
  simp only[da] at h
  obtain⟨p,h1,h2⟩:=Option.bind_eq_some_iff.1 h
  obtain⟨q,h3,h4⟩:=Option.map_eq_some_iff.1 h2
  simp only[Prod.mk.injEq] at h4
  have:=t7 hf n p.2 q.1 q.2 h3
  have:=hf l p.1 p.2 h1
  rw[←h4.2]
  omega
theorem pu:Lt eh:=fun l a t h=>by
 have h1:=(fS h).1
 have h2:=vc a
 rw[h1,List.length_append]
 omega
theorem gC:Lt qH:=fun l a t h=>by
 unfold qH at h
 obtain⟨p,h1,h2⟩:=Option.map_eq_some_iff.1 h
 have:=pu l p.1 p.2 h1
 simp only[Prod.mk.injEq] at h2
 rw[←h2.2]
 exact this
theorem vm:Lt p5:=fun l q t h=>by
 obtain⟨b,n,m⟩:=q
 have:=(Gt h).1
 rw[this,List.length_append]
 have h1:1≤(oo b n m).length:=by simp only[oo,List.length_append,List.length_cons,List.length_nil];omega
 omega
theorem Gw {st:Option (List UInt8)} {n:Int} {t:List UInt8} (h:ff qH st n (some t)):mO n:=by
 obtain⟨l,_,h⟩:=h.some
 unfold qH at h
 obtain⟨p,h1,h2⟩:=Option.map_eq_some_iff.1 h
 have:=(fS h1).2
 simp only[Prod.mk.injEq] at h2
 rw[←h2.1]
 unfold uz mO
 split<;>omega
end
end Go.Rl
namespace Go.Rl
open Go.RowKit
structure cB where
 kd:Int
 ix:Int
 lo:Int
 hi:Int
 co:fx
structure fE where
 un:Int
 up:Bool
 va:fx
 pf:List cB
structure eg where
 kd:Int
 ix:Int
 at_:fx
inductive aN where
 |mk (lems:List fE) (split:eg) (kids:List aN) (empty:Bool) (pf:List cB)
def z0Q:fx:=(false,[],[])
def yQ:eg:=⟨0,0,z0Q⟩
def aN.lems:aN→List fE|.mk l _ _ _ _=>l
def aN.split:aN→eg|.mk _ s _ _ _=>s
def aN.kids:aN→List aN|.mk _ _ k _ _=>k
def aN.empty:aN→Bool|.mk _ _ _ e _=>e
def aN.pf:aN→List cB|.mk _ _ _ _ p=>p
def cd (m:cB):Dt:=.st [.st [nf m.kd,nf m.ix,nf m.lo,nf m.hi],fK m.co]
def kU (l:List cB):Dt:=.sl (l.map cd)
def dm (l:fE):Dt:=.st [nf l.un,.bool l.up,fK l.va,kU l.pf]
def fF (d:eg):Dt:=.st [nf d.kd,nf d.ix,fK d.at_]
mutual
def bh:aN→Dt
 |.mk lems sp kids em pf=>.st [.sl (lems.map dm),fF sp,.sl (vn kids),.bool em,kU pf]
def vn:List aN→List Dt
 |[]=>[]
 |n::l=>bh n::vn l
end
theorem jn:∀l:List aN,vn l=l.map bh
 |[]=>rfl
 |n::l=>by simp only[vn,List.map_cons,jn l]
def kV (d:eg):List UInt8:=dS d.kd++dS d.ix++iR d.at_
def gD (m:cB):List UInt8:=dS m.kd++dS m.ix++dS m.lo++dS m.hi++iR m.co
def kW (l:List cB):List UInt8:=uv l.length++l.flatMap gD
def xL (b:Bool):List UInt8:=if b=true then[1] else[0]
def fH (l:fE):List UInt8:=dS l.un++xL l.up++iR l.va++kW l.pf
def fe (l:List fE):List UInt8:=uv l.length++l.flatMap fH
mutual
def cG:aN→List UInt8
 |.mk lems _ [] em pf=>xL em++fe lems++kW pf
 |.mk lems sp (k::ks) _ _=>[2]++fe lems++kV sp++vq (k::ks)
def vq:List aN→List UInt8
 |[]=>[]
 |n::l=>cG n++vq l
end
theorem rS:∀l:List aN,vq l=l.flatMap cG
 |[]=>rfl
 |n::l=>by simp only[vq,List.flatMap_cons,rS l]
def df (l:List aN):List UInt8:=uv l.length++l.flatMap cG
def qI (most:Nat) (l:List UInt8):Option (Nat×List UInt8):=(eh l).bind fun p=>if p.1≤most then some p else none
def AX (l:List UInt8):Option (eg×List UInt8):=(qH l).bind fun a=>(qH a.2).bind fun b=>(p5 b.2).bind fun c=>some (⟨a.1,b.1,c.1⟩,c.2)
def Cq (l:List UInt8):Option (cB×List UInt8):=(qH l).bind fun a=>(qH a.2).bind fun b=>(qH b.2).bind fun c=>(qH c.2).bind fun d=>(p5 d.2).bind fun e=>some (⟨a.1,b.1,c.1,d.1,e.1⟩,e.2)
def vv:List UInt8→Option (List cB×List UInt8):=lV Cq
def ox (n:Nat):Bool:=decide (n=1)
def rT (l:List UInt8):Option (fE×List UInt8):=(qH l).bind fun a=>(qI 1 a.2).bind fun b=>(p5 b.2).bind fun c=>(vv c.2).bind fun d=>some (⟨a.1,ox b.1,c.1,d.1⟩,d.2)
def gk:List UInt8→Option (List fE×List UInt8):=lV rT
def qp:Nat→List UInt8→Option (aN×List UInt8)
 |0,_=>none
 |n+1,l=>(qI 2 l).bind fun a=>(gk a.2).bind fun b=>
   if a.1<2 then(vv b.2).bind fun c=>some (.mk b.1 yQ [] (decide (a.1=1)) c.1,c.2)
   else(AX b.2).bind fun c=>(qp n c.2).bind fun d=>(qp n d.2).bind fun e=>some (.mk b.1 c.1 [d.1,e.1] false [],e.2)
def eR (l:List UInt8):Option (aN×List UInt8):=qp l.length l
def vw:List UInt8→Option (List aN×List UInt8):=lV eR
section
variable {α β:Type}
theorem Le.bind {f:List UInt8→Option (α×List UInt8)} {g:α×List UInt8→Option (β×List UInt8)} (hf:Le f) (hg:∀p b t,g p=some (b,t)→t.length≤p.2.length):Le (fun l=>(f l).bind g):=fun l b t h=>by
 obtain⟨p,h1,h2⟩:=Option.bind_eq_some_iff.1 h
 exact Nat.le_trans (hg p b t h2) (hf l p.1 p.2 h1)
theorem Lt.bind {f:List UInt8→Option (α×List UInt8)} {g:α×List UInt8→Option (β×List UInt8)} (hf:Lt f) (hg:∀p b t,g p=some (b,t)→t.length≤p.2.length):Lt (fun l=>(f l).bind g):=fun l b t h=>by
 obtain⟨p,h1,h2⟩:=Option.bind_eq_some_iff.1 h
 have:=hg p b t h2
 have:=hf l p.1 p.2 h1
 omega
end
theorem fq {α β:Type} {f:List UInt8→Option (α×List UInt8)} (hf:Le f) {l:List UInt8} {g:α×List UInt8→Option (β×List UInt8)} {b:β} {t:List UInt8} (h:(f l).bind g=some (b,t)) (hg:∀p b t,g p=some (b,t)→t.length≤p.2.length):t.length≤l.length:=Le.bind hf hg l b t h
theorem oy {β:Type} {b b':β} {t t':List UInt8} (h:some (b',t')=some (b,t)):t.length≤t'.length:=by
 simp only[Option.some.injEq,Prod.mk.injEq] at h
 rw[h.2]
 exact Nat.le_refl _
theorem nE (k:Nat):Lt (qI k):=fun l a t h=>by
 unfold qI at h
 obtain⟨p,h1,h2⟩:=Option.bind_eq_some_iff.1 h
 split at h2
 ·simp only[Option.some.injEq] at h2
  subst h2
  exact pu l _ _ h1
 ·cases h2
theorem rU:Lt AX:=Lt.bind gC fun _ _ _ h=>fq gC.le h fun _ _ _ h=>fq vm.le h fun _ _ _ h=>oy h
theorem AY:Lt Cq:=Lt.bind gC fun _ _ _ h=>fq gC.le h fun _ _ _ h=>fq gC.le h fun _ _ _ h=>fq gC.le h fun _ _ _ h=>fq vm.le h fun _ _ _ h=>oy h
theorem t8 {α:Type} {f:List UInt8→Option (α×List UInt8)} (hf:Le f):Lt (lV f):=fun l a t h=>by
 unfold lV at h
 obtain⟨p,h1,h2⟩:=Option.bind_eq_some_iff.1 h
 have:=t7 hf p.1 p.2 a t h2
 have:=pu l p.1 p.2 h1
 omega
theorem Ex:Lt vv:=t8 AY.le
theorem AZ:Lt rT:=Lt.bind gC fun _ _ _ h=>fq (nE 1).le h fun _ _ _ h=>fq vm.le h fun _ _ _ h=>fq Ex.le h fun _ _ _ h=>oy h
theorem lX:Lt gk:=t8 AZ.le
theorem oz:∀n,Lt (qp n)
 |0=>fun l a t h=>by simp[qp] at h
 |n+1=>fun l a t h=>by
  refine(Lt.bind (nE 2) fun p b t h=>?_) l a t (show((qI 2 l).bind _)=_ from h)
  refine fq lX.le h fun q b t h=>?_
  split at h
  ·exact fq Ex.le h fun _ _ _ h=>oy h
  ·exact fq rU.le h fun _ _ _ h=>fq (oz n).le h fun _ _ _ h=>fq (oz n).le h fun _ _ _ h=>oy h
theorem mR:∀(n m:Nat) (l:List UInt8),l.length≤n→n≤m→qp m l=qp n l
 |0,0,_,_,_=>rfl
 |0,m+1,l,hl,_=>by
  have:l=[]:=List.eq_nil_of_length_eq_zero (by omega)
  subst this
  rfl
 |n+1,0,_,_,h=>by omega
 |n+1,m+1,l,hl,hm=>by
  simp only[qp]
  cases h1:qI 2 l with
  |none=>rfl
  |some a=>
   simp only[Option.bind_some]
   cases h2:gk a.2 with
   |none=>rfl
   |some b=>
    simp only[Option.bind_some]
    split
    ·rfl
    ·cases h3:AX b.2 with
     |none=>rfl
     |some c=>
      simp only[Option.bind_some]
      have a1:=nE 2 l _ _ h1
      have a2:=lX _ _ _ h2
      have a3:=rU _ _ _ h3
      rw[mR n m c.2 (by omega) (by omega)]
      cases h4:qp n c.2 with
      |none=>rfl
      |some d=>
       simp only[Option.bind_some]
       have a4:=oz n _ _ _ h4
       rw[mR n m d.2 (by omega) (by omega)]
theorem vy:Lt eR:=fun l a t h=>oz l.length l a t h
theorem Cr (l:List UInt8):eR l=(qI 2 l).bind fun a=>(gk a.2).bind fun b=>
 if a.1<2 then(vv b.2).bind fun c=>some (.mk b.1 yQ [] (decide (a.1=1)) c.1,c.2)
 else(AX b.2).bind fun c=>(eR c.2).bind fun d=>(eR d.2).bind fun e=>some (.mk b.1 c.1 [d.1,e.1] false [],e.2):=by
 unfold eR
 cases l with
 |nil=>rfl
 |cons x l=>
  show qp (l.length+1) (x::l)=_
  simp only[qp]
  cases h1:qI 2 (x::l) with
  |none=>rfl
  |some a=>
   simp only[Option.bind_some]
   cases h2:gk a.2 with
   |none=>rfl
   |some b=>
    simp only[Option.bind_some]
    split
    ·rfl
    ·cases h3:AX b.2 with
     |none=>rfl
     |some c=>
      simp only[Option.bind_some]
      have a1:=nE 2 _ _ _ h1
      have a2:=lX _ _ _ h2
      have a3:=rU _ _ _ h3
      simp only[List.length_cons] at a1
      rw[mR c.2.length l.length c.2 (Nat.le_refl _) (by omega)]
      cases h4:qp c.2.length c.2 with
      |none=>rfl
      |some d=>
       simp only[Option.bind_some]
       have a4:=oz _ _ _ _ h4
       rw[mR d.2.length l.length d.2 (Nat.le_refl _) (by omega)]
end Go.Rl
namespace Go.Rl
open Go.RowKit
theorem ff.bindE {α β:Type} {f:List UInt8→Option (α×List UInt8)} {st s1:Option (List UInt8)} {a:α} (h:ff f st a s1) (F:α×List UInt8→Option (β×List UInt8)):st.bind (fun l=>(f l).bind F)=s1.bind fun t=>F (a,t):=by
 cases st with
 |none=>
  cases s1 with
  |none=>rfl
  |some t=>cases h
 |some l=>
  have h:f l=s1.map fun t=>(a,t):=h
  show(f l).bind F=_
  rw[h]
  cases s1<;>rfl
theorem j8 {β:Type} {s:Option (List UInt8)} {b:β}:(s.bind fun t=>some (b,t))=s.map fun t=>(b,t):=by cases s<;>rfl
section
variable {st s1 s2 s3 s4 s5:Option (List UInt8)}
theorem Cs {a b:Int} {q:fx} (h1:ff qH st a s1) (h2:ff qH s1 b s2) (h3:ff p5 s2 q s3):ff AX st ⟨a,b,q⟩ s3:=by
 refine(h1.bindE _).trans ?_
 dsimp only
 refine(h2.bindE _).trans ?_
 dsimp only
 refine(h3.bindE _).trans ?_
 dsimp only
 exact j8
theorem zt {a b c d:Int} {q:fx} (h1:ff qH st a s1) (h2:ff qH s1 b s2) (h3:ff qH s2 c s3) (h4:ff qH s3 d s4) (h5:ff p5 s4 q s5):ff Cq st ⟨a,b,c,d,q⟩ s5:=by
 refine(h1.bindE _).trans ?_
 dsimp only
 refine(h2.bindE _).trans ?_
 dsimp only
 refine(h3.bindE _).trans ?_
 dsimp only
 refine(h4.bindE _).trans ?_
 dsimp only
 refine(h5.bindE _).trans ?_
 dsimp only
 exact j8
theorem zu {a:Int} {n:Nat} {q:fx} {ps:List cB} (h1:ff qH st a s1) (h2:ff (qI 1) s1 n s2) (h3:ff p5 s2 q s3) (h4:ff vv s3 ps s4):ff rT st ⟨a,ox n,q,ps⟩ s4:=by
 refine(h1.bindE _).trans ?_
 dsimp only
 refine(h2.bindE _).trans ?_
 dsimp only
 refine(h3.bindE _).trans ?_
 dsimp only
 refine(h4.bindE _).trans ?_
 dsimp only
 exact j8
def kX (k:Nat) (ls:List fE) (l:List UInt8):Option (aN×List UInt8):=
 if k<2 then(vv l).bind fun c=>some (.mk ls yQ [] (decide (k=1)) c.1,c.2)
 else(AX l).bind fun c=>(eR c.2).bind fun d=>(eR d.2).bind fun e=>some (.mk ls c.1 [d.1,e.1] false [],e.2)
theorem iF:eR=fun l=>(qI 2 l).bind fun a=>(gk a.2).bind fun b=>kX a.1 b.1 b.2:=funext Cr
theorem p6 {k:Nat} (h:k<2) (ls:List fE):kX k ls=fun l=>(vv l).bind fun c=>some (.mk ls yQ [] (decide (k=1)) c.1,c.2):=funext fun _=>if_pos h
theorem iX {k:Nat} (h:¬k<2) (ls:List fE):kX k ls=fun l=>(AX l).bind fun c=>(eR c.2).bind fun d=>(eR d.2).bind fun e=>some (.mk ls c.1 [d.1,e.1] false [],e.2):=funext fun _=>if_neg h
theorem Ct {n:Nat} {ls:List fE} {ps:List cB} (hn:n<2) (h1:ff (qI 2) st n s1) (h2:ff gk s1 ls s2) (h3:ff vv s2 ps s3):ff eR st (.mk ls yQ [] (decide (n=1)) ps) s3:=by
 unfold ff
 rw[iF]
 refine(h1.bindE _).trans ?_
 dsimp only
 refine(h2.bindE _).trans ?_
 dsimp only
 show Option.bind s2 (kX _ _)=_
 rw[p6 hn]
 refine(h3.bindE _).trans ?_
 dsimp only
 exact j8
theorem zv {n:Nat} {ls:List fE} {d:eg} {a b:aN} (hn:¬n<2) (h1:ff (qI 2) st n s1) (h2:ff gk s1 ls s2) (h3:ff AX s2 d s3) (h4:ff eR s3 a s4) (h5:ff eR s4 b s5):ff eR st (.mk ls d [a,b] false []) s5:=by
 unfold ff
 rw[iF]
 refine(h1.bindE _).trans ?_
 dsimp only
 refine(h2.bindE _).trans ?_
 dsimp only
 show Option.bind s2 (kX _ _)=_
 rw[iX hn]
 refine(h3.bindE _).trans ?_
 dsimp only
 refine(h4.bindE _).trans ?_
 dsimp only
 refine(h5.bindE _).trans ?_
 dsimp only
 exact j8
variable {α:Type} {f:List UInt8→Option (α×List UInt8)} {a:α}
theorem ip {β:Type} {g:List UInt8→Option (β×List UInt8)} {F:β×List UInt8→Option (α×List UInt8)} (h:st.bind g=none):st.bind (fun l=>(g l).bind F)=none:=by
 cases st with
 |none=>rfl
 |some l=>have h:g l=none:=h;show(g l).bind F=none;rw[h];rfl
theorem Ey (h:st.bind (qI 2)=none):st.bind eR=none:=by rw[iF];exact ip h
theorem Ez {n:Nat} (h1:ff (qI 2) st n s1) (h:s1.bind gk=none):st.bind eR=none:=by
 rw[iF]
 refine(h1.bindE _).trans ?_
 dsimp only
 exact ip h
theorem EA {n:Nat} {ls:List fE} (hn:n<2) (h1:ff (qI 2) st n s1) (h2:ff gk s1 ls s2) (h:s2.bind vv=none):st.bind eR=none:=by
 rw[iF]
 refine(h1.bindE _).trans ?_
 dsimp only
 refine(h2.bindE _).trans ?_
 dsimp only
 show Option.bind s2 (kX _ _)=_
 rw[p6 hn]
 exact ip h
theorem EB {n:Nat} {ls:List fE} (hn:¬n<2) (h1:ff (qI 2) st n s1) (h2:ff gk s1 ls s2) (h:s2.bind AX=none):st.bind eR=none:=by
 rw[iF]
 refine(h1.bindE _).trans ?_
 dsimp only
 refine(h2.bindE _).trans ?_
 dsimp only
 show Option.bind s2 (kX _ _)=_
 rw[iX hn]
 exact ip h
theorem EC {n:Nat} {ls:List fE} {d:eg} (hn:¬n<2) (h1:ff (qI 2) st n s1) (h2:ff gk s1 ls s2) (h3:ff AX s2 d s3) (h:s3.bind eR=none):st.bind eR=none:=by
 rw[iF]
 refine(h1.bindE _).trans ?_
 dsimp only
 refine(h2.bindE _).trans ?_
 dsimp only
 show Option.bind s2 (kX _ _)=_
 rw[iX hn]
 refine(h3.bindE _).trans ?_
 dsimp only
 exact ip h
theorem ED {n:Nat} {ls:List fE} {d:eg} {x:aN} (hn:¬n<2) (h1:ff (qI 2) st n s1) (h2:ff gk s1 ls s2) (h3:ff AX s2 d s3) (h4:ff eR s3 x s4) (h:s4.bind eR=none):st.bind eR=none:=by
 rw[iF]
 refine(h1.bindE _).trans ?_
 dsimp only
 refine(h2.bindE _).trans ?_
 dsimp only
 show Option.bind s2 (kX _ _)=_
 rw[iX hn]
 refine(h3.bindE _).trans ?_
 dsimp only
 refine(h4.bindE _).trans ?_
 dsimp only
 exact ip h
theorem EE (h:st.bind qH=none):st.bind rT=none:=ip h
theorem EF {n:Int} (h1:ff qH st n s1) (h:s1.bind (qI 1)=none):st.bind rT=none:=by
 refine(h1.bindE _).trans ?_
 dsimp only
 exact ip h
theorem EG {n:Int} {k:Nat} (h1:ff qH st n s1) (h2:ff (qI 1) s1 k s2) (h:s2.bind p5=none):st.bind rT=none:=by
 refine(h1.bindE _).trans ?_
 dsimp only
 refine(h2.bindE _).trans ?_
 dsimp only
 exact ip h
theorem EH {n:Int} {k:Nat} {q:fx} (h1:ff qH st n s1) (h2:ff (qI 1) s1 k s2) (h3:ff p5 s2 q s3) (h:s3.bind vv=none):st.bind rT=none:=by
 refine(h1.bindE _).trans ?_
 dsimp only
 refine(h2.bindE _).trans ?_
 dsimp only
 refine(h3.bindE _).trans ?_
 dsimp only
 exact ip h
theorem Cu {X:Option (List α×List UInt8)} {so:Option (List UInt8)} {k:Nat} {done:List α} (hR:X=so.bind (fun l=>(da f (k+1) l).map fun p=>(done++p.1,p.2))) (h:so.bind f=none):X=none:=by
 rw[hR]
 cases so with
 |none=>rfl
 |some l=>
  have h:f l=none:=h
  show(da f (k+1) l).map _=none
  simp only[da,h]
  rfl
theorem HU {n:Nat} {most:Nat} (h:ff eh st n s1) (hn:n≤most):ff (qI most) st n s1:=by
 refine(h.bindE _).trans ?_
 cases s1 with
 |none=>rfl
 |some t=>exact if_pos hn
theorem HV {n:Nat} {most:Nat} (h:ff eh st n s1) (hn:¬n≤most):st.bind (qI most)=none:=by
 refine(h.bindE _).trans ?_
 cases s1 with
 |none=>rfl
 |some t=>exact if_neg hn
end
end Go.Rl
namespace Go.Rl
open Go.RowKit Go.Proofs
end Go.Rl
namespace Go.Rl
open Go.RowKit Go.Proofs
section
variable {w0 w:World} {l m:List UInt8} {v x:Value} {ty:TypeId}
def Hn (base:Nat) (l:List UInt8) (v:Value) (w:World):Prop:=cf base l v w∨(ci l v w∧∃ad,v=.slice (some ad) l.length l.length)
theorem Hn.ext {base:Nat} {w':World} (h:Hn base l v w) (hx:aG w w'):Hn base l v w':=h.imp (·.ext hx) fun h=>⟨h.1.ext hx,h.2⟩
theorem vz (h0:aG w0 w) (hv:Hn w0.heap.size l v w) (hx:ci m x w) (hm:0<m.length) (hb:l.length+m.length≤140737488355328):
 ∃r w',(Builtin.append_ #[28,28] ty #[v,x]).run Tryz.prog w=.ok r w'∧cf w0.heap.size (l++m) r w'∧aG w0 w':=by
 rcases hv with hv|⟨hv,ad,rfl⟩
 ·obtain⟨r,w',h1,h2,h3⟩:=cH (ty:=ty) hv hx hb h0.size
  exact⟨r,w',h1,h2,aG.of_grew h0 h3 hv.ge⟩
 ·obtain⟨i,hi,hz,hsize,hby⟩:=info_parts ob
  obtain⟨A,n,c,hA,hnc,hcm,hl,hc,_⟩:=hv
  injection hA with hA hn hc'
  subst hA hn hc'
  obtain⟨A',n',c',rfl,hnc',hcm',hl',hcl',_⟩:=hx
  have hn':n'=m.length:=by simpa using hl'.symm
  obtain⟨ad',hA',hcl2⟩:=hcl' (by omega)
  subst hA'
  have hold:∀j u,(l.map U8)[j]? =some u→w.cell? (ad.add j)=some u:=fun j u hu=>by
   have hj:j<l.length:=by
    have:=(List.getElem?_eq_some_iff.1 hu).1
    simpa using this
   obtain⟨ad2,h2,h3⟩:=hc (by omega)
   cases h2
   exact h3 j u hu
  obtain⟨r,w',h1,h2,h3⟩:=run_append_arg_grows (P:=Tryz.prog) w 28 ty 5 i (.int .u8 0) 1 1 Tryz.underlying28 hi hz hsize hby rfl (by omega) ad l.length l.length (l.map U8) (by simp) hold ad' n' c' (m.map U8) hl' hcl2 (by omega) (by unfold maxLen;omega) (by omega)
  refine⟨r,w',h1,⟨l.length+n',?_⟩,h0.of_grown h3 (fun k hk=>by cases hk)⟩
  rw[List.map_append]
  exact gy h2 (fun k hk=>Nat.le_trans h0.size (World.ownsRow.lt h2 k hk).1)
end
end Go.Rl
namespace Go.Rl
open Go.RowKit Go.Proofs
open Go.Maps (Keyed)
section ops
variable {P:Program} {ops:Array Oper} {Q:eG} {N:Nat} {D:List Deferred} {l:Fr} {w w':World} {rest:List Oper} {d:Nat} {ty:TypeId} {pos:String} {aft:Array Edge}
end ops
section
variable {P:Program} {w:World} {t k e:TypeId} {m:Nat} {es:List MapEntry} {clock:Nat} {x:Value}
end
section
variable {w:World} {m:Nat} {l:List Value} {t e:TypeId}
end
theorem cl.k0 {w:World} {g:Nat} {T:TypeId} {v:Value} {l:List Value} (h:cl g T (v::l) w):w.cell? ⟨g,0,none⟩=some v:=h.cell (i:=0) rfl
end Go.Rl
namespace Go.Rl
open Go.RowKit Go.Proofs
section
variable {w0 w w':World} {l m:List UInt8} {v x:Value} {ty t t2 T:TypeId} {g base:Nat}
theorem zw (ht:Tryz.prog.underlying t=some (.slice 5)) (ht2:Tryz.prog.underlying t2=some (.slice 5)) (a b:Value):(Builtin.append_ #[t,t2] ty #[a,b]).run Tryz.prog w=(Builtin.append_ #[28,28] ty #[a,b]).run Tryz.prog w:=by
 unfold Builtin.append_
 cases a<;>simp[Sem.run_bind,run_underlying ht,run_underlying ht2,run_underlying Tryz.underlying28]
structure fm (T:TypeId) (base g:Nat) (l:List UInt8) (v:Value) (w:World):Prop where
 ge:base≤g
 blk:cl g T [v] w
 row:Hn base l v w
 new:∀k,v.ownBlock=some k→base≤k
 off:v.ownBlock≠some g
 lt:∀k,v.ownBlock=some k→k<w.heap.size
theorem Hn.bts (h:Hn base l v w):ci l v w:=h.elim (·.bts) (·.1)
theorem fm.ext (h:fm T base g l v w) (hx:aG w w'):fm T base g l v w':=⟨h.ge,h.blk.ext hx,h.row.ext hx,h.new,h.off,fun k hk=>Nat.lt_of_lt_of_le (h.lt k hk) hx.size⟩
theorem fm.off_new {k:Nat} (h:fm T base g l v w) (hk:w.heap.size≤k):¬(k=g∨v.ownBlock=some k):=by
 rintro(rfl|h1)
 ·have:=h.blk.lt;omega
 ·have:=h.lt k h1;omega
structure cM (g:Nat) (v:Value) (w:World) (v':Value) (w':World):Prop where
 mv:Mv (fun k=>k=g∨v.ownBlock=some k) w w'
 own:∀k,v'.ownBlock=some k→v.ownBlock=some k∨w.heap.size≤k
theorem cM.of_ext (h:aG w w'):cM g v w v w':=⟨Mv.of_ext h,fun _ h=>.inl h⟩
theorem cM.refl:cM g v w v w:=cM.of_ext (aG.refl w)
theorem cM.trans {v1 v2:Value} {w1 w2:World} (h:cM g v w v1 w1) (k:cM g v1 w1 v2 w2):cM g v w v2 w2:=by
 refine⟨h.mv.trans k.mv fun n hn hlt=>?_,fun n hn=>?_⟩
 ·rcases hn with hn|hn
  ·exact .inl hn
  ·rcases h.own n hn with h1|h1
   ·exact .inr h1
   ·omega
 ·rcases k.own n hn with h1|h1
  ·exact h.own n h1
  ·exact .inr (Nat.le_trans h.mv.size h1)
theorem cM.off {k:Nat} {v1:Value} {w1:World} (h:cM g v w v1 w1) (hn:¬(k=g∨v.ownBlock=some k)) (hk:k<w.heap.size):¬(k=g∨v1.ownBlock=some k):=by
 rintro(h1|h1)
 ·exact hn (.inl h1)
 ·rcases h.own k h1 with h2|h2
  ·exact hn (.inr h2)
  ·omega
theorem cM.ext {v1:Value} {w1:World} (h:cM g v w v1 w1) (h0:aG w0 w) (hg:w0.heap.size≤g) (hv:∀k,v.ownBlock=some k→w0.heap.size≤k):aG w0 w1:=
 h.mv.ext_from h0 fun k hk=>by
  rcases hk with rfl|hk
  ·exact hg
  ·exact hv k hk
def WrX (g:Nat) (v:Value):Nat→Prop:=fun k=>k=g∨v.ownBlock=some k
theorem cT.step {v1:Value} {w1:World} {d:Dt} {cs:List Value} (h:cT (WrX g v) w d cs) (k:cM g v w v1 w1):cT (WrX g v1) w1 d cs:=h.mv k.mv fun n hn=>by
 rcases hn with hn|hn
 ·exact .inl (.inl hn)
 ·rcases k.own n hn with h1|h1
  ·exact .inl (.inr h1)
  ·exact .inr h1
theorem fm.put (ht:Tryz.prog.underlying t=some (.slice 5)) (hs:(Tryz.prog.info? t).map (·.size)=some 1) (ht2:Tryz.prog.underlying t2=some (.slice 5)) (h:fm T base g l v w) (h0:base≤w.heap.size) (hx:ci m x w) (hm:0<m.length) (hb:l.length+m.length≤140737488355328):
 ∃r w1 w2,(Builtin.append_ #[t,t2] ty #[v,x]).run Tryz.prog w=.ok r w1∧(Instr.storeAt t (.pointer (some ⟨g,0,none⟩)) r).run Tryz.prog w1=.ok () w2∧fm T base g (l++m) r w2∧cM g v w r w2:=by
 have key:∃r w1,(Builtin.append_ #[28,28] ty #[v,x]).run Tryz.prog w=.ok r w1∧cf base (l++m) r w1∧cM g v w r w1∧cl g T [v] w1∧r.ownBlock≠some g:=by
  rcases h.row with hv|⟨hv,hfull⟩
  ·obtain⟨r,w1,h1,h2,h3⟩:=cH (ty:=ty) hv hx hb h0
   refine⟨r,w1,h1,h2,⟨Mv.of_grown h3.grown fun k hk _=>.inr hk,fun k hk=>?_⟩,h.blk.other h3.grown (Ne.symm h.off),?_⟩
   ·rcases h3.own with h4|h4
    ·rw[h4] at hk;exact .inl hk
    ·exact .inr (h4 k hk)
   ·rcases h3.own with h4|h4
    ·rw[h4];exact h.off
    ·intro h5
     have:=h4 g h5
     have:=h.blk.lt
     omega
  ·obtain⟨r,w1,h1,h2,h3⟩:=vz (ty:=ty) (w0:=w) (aG.refl w) (.inr ⟨hv,hfull⟩) hx hm hb
   refine⟨r,w1,h1,h2.low h0,⟨Mv.of_ext h3,fun k hk=>.inr (h2.ge k hk)⟩,h.blk.ext h3,fun h5=>?_⟩
   have:=h2.ge g h5
   have:=h.blk.lt
   omega
 obtain⟨r,w1,h1,h2,h3,h4,h5⟩:=key
 have hr1:r.oneCell'=true:=by
  obtain⟨A,n,c,rfl,_⟩:=h2.bts
  rfl
 obtain⟨w2,h6,h7,h8⟩:=h4.stC (P:=Tryz.prog) (t:=t) (i:=0) (v:=r) hs hr1 (by simp)
 refine⟨r,w1,w2,(zw ht ht2 v x).trans h1,h6,⟨h.ge,h8,.inl ?_,h2.ge,h5,fun k hk=>Nat.lt_of_lt_of_le (h2.lt k hk) h7.size⟩,h3.trans ⟨Mv.of_grown h7 fun k hk _=>.inl (Option.some.inj hk).symm,fun k hk=>.inl hk⟩⟩
 obtain⟨n,h9⟩:=h2
 exact⟨n,World.ownsRow.kept h9 h7 (.inr h5)⟩
theorem EI (ht:Tryz.prog.underlying t=some (.slice 5)) (l:List UInt8) (hl:l.length≤16777216) (h0:0<l.length):∃v w1 w2,(Instr.buildSlice t l.length (dC 0 (l.map U8)).toArray).run Tryz.prog w=.ok v w1∧(convert t t v).run Tryz.prog w1=.ok v w2∧aG w w2∧ci l v w2∧∃ad,v=.slice (some ad) l.length l.length∧w.heap.size≤ad.block∧ad.block<w2.heap.size:=by
 obtain⟨i,hi,hz0,hs,_⟩:=info_parts ob
 have hf:∀Z:Array Value,Z.size=(l.map U8).length→Instr.fill (fun i=>some (i*1,1)) Z (dC 0 (l.map U8))=some (l.map U8).toArray:=fun Z hZ=>by
  have:=pW (l.map U8) [] Z.toList (fun v hv=>tG (kD l v hv)) (by simpa using hZ)
  simpa using this
 have hle:¬(l.length*1>2^24):=by omega
 have hinfo:(typeInfo 5).run Tryz.prog w=.ok i w:=by simp[typeInfo,hi]
 have hsz:(sizeOf 5).run Tryz.prog w=.ok 1 w:=by simp[sizeOf,hinfo,hs]
 have hzv:(zeroValue 5).run Tryz.prog w=.ok (.int .u8 0) w:=by simp[zeroValue,hinfo,hz0]
 have hrun:(Instr.buildSlice t l.length (dC 0 (l.map U8)).toArray).run Tryz.prog w=.ok (.slice (some ⟨w.heap.size,0,none⟩) l.length l.length) (w.alloc (.cells (l.map U8).toArray 5)):=by
  simp only[Instr.buildSlice,Sem.run_bind,run_underlying ht,Result.andThen_ok,hsz,if_neg hle]
  rw[if_neg (by omega)]
  simp only[Sem.run_bind,Sem.run_pure,Result.andThen_ok,hzv]
  rw[hf _ (by simp[Value.cells])]
  simp[newRow]
 refine⟨_,_,_,hrun,Go.Lib.run_convert_bytes_const w t 5 _ _ _ ht Tryz.underlying5,aG.new w _,?_,⟨_,rfl,Nat.le_refl _,by simp⟩⟩
 have hg:=heap_alloc_new w (.cells (l.map U8).toArray 5 ((l.map U8).toArray.size,(l.map U8).toArray.size+1))
 refine⟨_,_,_,rfl,Nat.le_refl _,by unfold maxLen;omega,by simp,fun _=>⟨_,rfl,fun j u hu=>?_⟩,fun h=>by cases h⟩
 rw[Addr.add_mid,Nat.zero_add,cell_of_row _ _ j _ _ _ hg]
 simpa using hu
end
end Go.Rl
namespace Go.Rl
open Go.RowKit Go.Proofs
section
variable {w w':World} {g h:Nat} {T:TypeId} {st:Option (List UInt8)} {p:Option Addr} {b:Bool}
theorem Dq.mv {X:Nat→Prop} (h:Dq T g st w) (hm:Mv X w w') (hX:∀k,X k→g<k):Dq T g st w':=by
 obtain⟨A,n,c,h1,h2,h3⟩:=h
 refine⟨A,n,c,hm.blk h1 fun hx=>Nat.lt_irrefl _ (hX g hx),?_,h3⟩
 obtain⟨A',n',c',he,h4,h5,h6,h7,h8⟩:=h2
 cases he
 refine⟨_,_,_,rfl,h4,h5,h6,fun hn=>?_,h8⟩
 obtain⟨ad,rfl,hc⟩:=h7 hn
 refine⟨ad,rfl,hm.cells hc fun _ hx=>?_⟩
 have:=hX _ hx
 have:=h3 ad rfl
 omega
end
end Go.Rl

/- Part 2 of a proof: plain facts and walks of functions, merged by a program. Conditions: each lemma names its own. -/
import Derived.Test.YtpeidnhjcompmaaGreatDoorJe1
namespace Go.Rl
theorem gR (l:List UInt32) (i:Nat):val (l.take (i+1))=val (l.take i)+4294967296^i*(l.getD i 0).toNat:=by
 rcases Nat.lt_or_ge i l.length with h|h
 ·rw[bE h];simp[List.getD,List.getElem?_eq_getElem h]
 ·rw[List.take_of_length_le h,List.take_of_length_le (by omega)];simp[List.getD,List.getElem?_eq_none h]
theorem j8 (l:List UInt32) {i:Nat} (h:l.length≤i):val (l.take i)=val l:=by rw[List.take_of_length_le h]
def tZ (l:List UInt32) (n:Nat):List UInt32:=l++List.replicate (n-l.length) 0
theorem lN {l:List UInt32} {n:Nat} (h:l.length≤n):(tZ l n).length=n:=by simp[tZ];omega
theorem pE (l:List UInt32) (n:Nat):val (tZ l n)=val l:=by simp[tZ,dN,nY]
theorem pG {l:List UInt32} {n i:Nat} (h:i<(tZ l n).length):(tZ l n)[i]=l.getD i 0:=by
 unfold tZ at h⊢
 rcases Nat.lt_or_ge i l.length with h1|h1
 ·rw[List.getElem_append_left h1];simp[List.getD,List.getElem?_eq_getElem h1]
 ·rw[List.getElem_append_right h1];simp[List.getD,List.getElem?_eq_none h1]
theorem Cj {l m:List UInt32} {n j:Nat} (hl:l.length≤n) (hm:m.length≤n) (hj:j<n) (hd:(tZ l n).drop (j+1)=(tZ m n).drop (j+1)) (h:(l.getD j 0).toNat<(m.getD j 0).toNat):val l<val m:=by
 rw[←pE l n,←pE m n]
 exact zb (by rw[lN hl];exact hj) (by rw[lN hm];exact hj) hd (by rw[pG,pG];exact h)
theorem Ck {l m:List UInt32} {n j:Nat} (hl:l.length≤n) (hm:m.length≤n) (hj:j<n) (hd:(tZ l n).drop (j+1)=(tZ m n).drop (j+1)) (h:(l.getD j 0).toNat=(m.getD j 0).toNat):(tZ l n).drop j=(tZ m n).drop j:=by
 have h1:=List.drop_eq_getElem_cons (l:=tZ l n) (i:=j) (by rw[lN hl];exact hj)
 have h2:=List.drop_eq_getElem_cons (l:=tZ m n) (i:=j) (by rw[lN hm];exact hj)
 rw[h1,h2,hd,pG,pG,j4 h]
theorem Ew {l m:List UInt32} {n:Nat} (h:tZ l n=tZ m n):val l=val m:=by rw[←pE l n,←pE m n,h]
theorem sK {a b O:List UInt32} {i:Nat} {c:UInt64} (hO:O.length=i) (hc:c.toNat≤1) (hinv:val O+4294967296^i*c.toNat=val (a.take i)+val (b.take i)):
 val (O++[(c+((a.getD i 0).toUInt64+(b.getD i 0).toUInt64)).toUInt32])+4294967296^(i+1)*((c+((a.getD i 0).toUInt64+(b.getD i 0).toUInt64))>>>UInt64.ofNat 32).toNat=val (a.take (i+1))+val (b.take (i+1))∧
  ((c+((a.getD i 0).toUInt64+(b.getD i 0).toUInt64))>>>UInt64.ofNat 32).toNat≤1:=by
 have ha:=cq (a.getD i 0)
 have hb:=cq (b.getD i 0)
 have hC:(c+((a.getD i 0).toUInt64+(b.getD i 0).toUInt64)).toNat=c.toNat+((a.getD i 0).toNat+(b.getD i 0).toNat):=by rw[mc,mc,eX,eX];omega
 have hhi:((c+((a.getD i 0).toUInt64+(b.getD i 0).toUInt64))>>>UInt64.ofNat 32).toNat=(c.toNat+((a.getD i 0).toNat+(b.getD i 0).toNat))/4294967296:=by rw[oR _ (by omega),hC]
 refine⟨?_,by rw[hhi];omega⟩
 rw[dN,j5,hO,jL,hhi,hC,gR,gR,Nat.pow_succ]
 have key:=Nat.div_add_mod (c.toNat+((a.getD i 0).toNat+(b.getD i 0).toNat)) 4294967296
 have k2:=congrArg (4294967296^i* ·) key
 simp only[Nat.mul_add] at k2 hinv⊢
 simp only[Nat.mul_assoc] at k2⊢
 omega
theorem Cl {O:List UInt32} {i:Nat} {c:UInt64} (hO:O.length=i) (hc:c.toNat≤1):val (O++[c.toUInt32])=val O+4294967296^i*c.toNat:=by
 rw[dN,j5,hO,jL,Nat.mod_eq_of_lt (by omega)]
theorem sL {a b O:List UInt32} {i:Nat} {d:UInt64} (hO:O.length=i) (hd:d.toNat≤1) (hinv:val (a.take i)+4294967296^i*d.toNat=val O+val (b.take i)) {x y:UInt64}
 (h:(x=(a.getD i 0).toUInt64+4294967296∧(a.getD i 0).toNat<(b.getD i 0).toNat+d.toNat∧y=1)∨(x=(a.getD i 0).toUInt64∧(b.getD i 0).toNat+d.toNat≤(a.getD i 0).toNat∧y=0)):
 val (a.take (i+1))+4294967296^(i+1)*y.toNat=val (O++[(x-((b.getD i 0).toUInt64+d)).toUInt32])+val (b.take (i+1))∧y.toNat≤1:=by
 have ha:=cq (a.getD i 0)
 have hb:=cq (b.getD i 0)
 have hy:((b.getD i 0).toUInt64+d).toNat=(b.getD i 0).toNat+d.toNat:=by rw[mc,eX];omega
 have e1:(1:UInt64).toNat=1:=rfl
 have e0:(0:UInt64).toNat=0:=rfl
 have key:(a.getD i 0).toNat+4294967296*y.toNat=(x-((b.getD i 0).toUInt64+d)).toUInt32.toNat+((b.getD i 0).toNat+d.toNat)∧y.toNat≤1:=by
  rcases h with⟨rfl,h,rfl⟩|⟨rfl,h,rfl⟩
  ·have hx:((a.getD i 0).toUInt64+4294967296).toNat=(a.getD i 0).toNat+4294967296:=by
    rw[mc,eX]
    show((a.getD i 0).toNat+4294967296)%18446744073709551616=_
    omega
   rw[jL,ni,hy,hx,e1]
   omega
  ·rw[jL,ni,hy,eX,e0]
   omega
 refine⟨?_,key.2⟩
 rw[dN,j5,hO,gR,gR,Nat.pow_succ]
 have k2:=congrArg (4294967296^i* ·) key.1
 simp only[Nat.mul_add] at k2 hinv⊢
 simp only[Nat.mul_assoc] at k2⊢
 omega
theorem Ak {a O:List UInt32} {i q s:Nat} {c:UInt64} (hs:s<32) (hi:i<a.length) (hO:O.length=q+i) (hc:c.toNat<2^s) (hinv:val O+4294967296^(q+i)*c.toNat=val (a.take i)*(4294967296^q*2^s)):
 val (O++[(c|||a[i].toUInt64<<<UInt64.ofNat s).toUInt32])+4294967296^(q+(i+1))*((c|||a[i].toUInt64<<<UInt64.ofNat s)>>>UInt64.ofNat 32).toNat=val (a.take (i+1))*(4294967296^q*2^s)∧
  ((c|||a[i].toUInt64<<<UInt64.ofNat s)>>>UInt64.ofNat 32).toNat<2^s:=by
 have ha:=cq a[i]
 have hps:2^s≤2^31:=Nat.pow_le_pow_right (by omega) (by omega)
 have hsh:(a[i].toUInt64<<<UInt64.ofNat s).toNat=2^s*a[i].toNat:=by
  rw[vq _ (by omega),eX,Nat.mod_eq_of_lt,Nat.mul_comm]
  have:a[i].toNat*2^s≤4294967295*2^31:=Nat.mul_le_mul (by omega) hps
  omega
 have hC:(c|||a[i].toUInt64<<<UInt64.ofNat s).toNat=c.toNat+2^s*a[i].toNat:=by rw[Eu,hsh,GK _ _ _ hc]
 have hhi:((c|||a[i].toUInt64<<<UInt64.ofNat s)>>>UInt64.ofNat 32).toNat=(c.toNat+2^s*a[i].toNat)/4294967296:=by rw[oR _ (by omega),hC]
 refine⟨?_,?_⟩
 ·rw[dN,j5,hO,jL,hhi,hC,bE hi,Nat.add_mul,←hinv,←Nat.add_assoc q i 1,Nat.pow_succ,Nat.pow_add]
  have key:=Nat.div_add_mod (c.toNat+2^s*a[i].toNat) 4294967296
  have k2:=congrArg (4294967296^q*4294967296^i* ·) key
  have e:4294967296^i*a[i].toNat*(4294967296^q*2^s)=4294967296^q*4294967296^i*(2^s*a[i].toNat):=by
   simp only[Nat.mul_comm,Nat.mul_left_comm,Nat.mul_assoc]
  rw[e]
  simp only[Nat.mul_add] at k2⊢
  simp only[Nat.mul_assoc] at k2⊢
  omega
 ·rw[hhi,Nat.div_lt_iff_lt_mul (by omega)]
  have h1:2^s*(a[i].toNat+1)≤2^s*4294967296:=Nat.mul_le_mul_left _ ha
  rw[Nat.mul_add] at h1
  omega
theorem F7 {a:List UInt32} {i:Nat} (hi:i/32<a.length):((a[i/32]>>>UInt32.ofNat (i%32))&&&1).toNat=val a/2^i%2:=by
 have hs:i%32<32:=Nat.mod_lt _ (by omega)
 have e1:((a[i/32]>>>UInt32.ofNat (i%32))&&&1).toNat=a[i/32].toNat/2^(i%32)%2:=by
  rw[UInt32.toNat_and,nh _ hs]
  show _&&&1=_
  rw[Nat.and_one_is_mod]
 have h1:=dH a (i/32) (by omega)
 have h2:=cd (a.take (i/32))
 rw[List.length_take,Nat.min_eq_left (by omega)] at h2
 have h3:(4294967296:Nat)^(i/32)=2^(32*(i/32)):=by rw[Nat.pow_mul]
 rw[h3] at h1 h2
 have h4:val a/2^(32*(i/32))=val (a.drop (i/32)):=by
  rw[h1,Nat.add_mul_div_left _ _ (Nat.pow_pos (by omega)),Nat.div_eq_of_lt h2,Nat.zero_add]
 have h5:val a/2^i=val (a.drop (i/32))/2^(i%32):=by
  rw[←h4,Nat.div_div_eq_div_mul,←Nat.pow_add,Nat.div_add_mod]
 rw[e1,h5,d6 hi]
 have hp:2^(i%32)*2^(32-i%32)=4294967296:=by rw[←Nat.pow_add,show i%32+(32-i%32)=32 by omega]
 obtain⟨k,hk⟩:∃k,32-i%32=k+1:=⟨31-i%32,by omega⟩
 rw[←hp,Nat.mul_assoc,Nat.add_mul_div_left _ _ (Nat.pow_pos (by omega)),hk,Nat.pow_succ,Nat.mul_comm (2^k) 2,Nat.mul_assoc,Nat.add_mul_mod_self_left]
theorem F8 {a:List UInt32} {i t:Nat} (hi:i/32<a.length) (hv:val a=2^(i+1)*t):val (a.set (i/32) (a[i/32]|||(1:UInt32)<<<UInt32.ofNat (i%32)))=val a+2^i:=by
 have hs:i%32<32:=Nat.mod_lt _ (by omega)
 have h1:=dH a (i/32) (by omega)
 have h2:=cd (a.take (i/32))
 rw[List.length_take,Nat.min_eq_left (by omega)] at h2
 have h3:(4294967296:Nat)^(i/32)=2^(32*(i/32)):=by rw[Nat.pow_mul]
 have h4:val (a.drop (i/32))=2^(i%32+1)*t:=by
  have e:val a/2^(32*(i/32))=val (a.drop (i/32)):=by
   rw[h3] at h1 h2
   rw[h1,Nat.add_mul_div_left _ _ (Nat.pow_pos (by omega)),Nat.div_eq_of_lt h2,Nat.zero_add]
  rw[←e,hv,show i+1=32*(i/32)+(i%32+1) by omega,Nat.pow_add,Nat.mul_assoc,Nat.mul_div_cancel_left _ (Nat.pow_pos (by omega))]
 have h5:a[i/32].toNat=2^(i%32+1)*(t%2^(31-i%32)):=by
  have e:=d6 hi
  rw[h4] at e
  have e2:a[i/32].toNat=2^(i%32+1)*t%4294967296:=by
   rw[e,Nat.add_mul_mod_self_left,Nat.mod_eq_of_lt (cq _)]
  have hp:2^(i%32+1)*2^(31-i%32)=4294967296:=by rw[←Nat.pow_add,show i%32+1+(31-i%32)=32 by omega]
  rw[e2,←hp,Nat.mul_mod_mul_left]
 have h6:((1:UInt32)<<<UInt32.ofNat (i%32)).toNat=2^(i%32):=by
  rw[Et _ hs]
  show 1*2^(i%32)%4294967296=_
  have:2^(i%32)≤2^31:=Nat.pow_le_pow_right (by omega) (by omega)
  rw[Nat.one_mul,Nat.mod_eq_of_lt (by omega)]
 have h7:(a[i/32]|||(1:UInt32)<<<UInt32.ofNat (i%32)).toNat=a[i/32].toNat+2^(i%32):=by
  rw[Ca,h6,h5,Nat.or_comm,GK _ _ _ (Nat.pow_lt_pow_right (by omega) (by omega)),Nat.add_comm]
 have h8:=eN hi (a[i/32]|||(1:UInt32)<<<UInt32.ofNat (i%32))
 have h9:=dH (a.set (i/32) (a[i/32]|||(1:UInt32)<<<UInt32.ofNat (i%32))) (i/32+1) (by simp;omega)
 rw[h8,List.drop_set_of_lt (by omega),h7] at h9
 have h10:=dH a (i/32+1) (by omega)
 rw[bE hi] at h10
 rw[h9,h10,Nat.mul_add]
 have e:4294967296^(i/32)*2^(i%32)=2^i:=by rw[h3,←Nat.pow_add,Nat.div_add_mod]
 rw[e];omega
theorem xM {N V i:Nat} (hV:0<V):
 N/2^i=2*(N/2^(i+1))+N/2^i%2∧(V≤2*(N/2^(i+1)%V)+N/2^i%2→N/2^i%V=2*(N/2^(i+1)%V)+N/2^i%2-V∧N/2^i/V=2*(N/2^(i+1)/V)+1)∧
  (2*(N/2^(i+1)%V)+N/2^i%2<V→N/2^i%V=2*(N/2^(i+1)%V)+N/2^i%2∧N/2^i/V=2*(N/2^(i+1)/V)):=by
 have e:N/2^(i+1)=N/2^i/2:=by rw[Nat.pow_succ,Nat.div_div_eq_div_mul]
 rw[e]
 generalize N/2^i=M
 have h1:M=2*(M/2)+M%2:=by omega
 have h2:=Nat.div_add_mod (M/2) V
 have h3:=Nat.mod_lt (M/2) hV
 refine⟨h1,fun h=>?_,fun h=>?_⟩
 ·have key:M=V*(2*(M/2/V)+1)+(2*(M/2%V)+M%2-V):=by
   rw[Nat.mul_add,Nat.mul_left_comm];omega
  have hlt:2*(M/2%V)+M%2-V<V:=by omega
  constructor
  ·conv=>lhs;rw[key]
   rw[Nat.mul_add_mod,Nat.mod_eq_of_lt hlt]
  ·conv=>lhs;rw[key]
   rw[Nat.mul_add_div hV,Nat.div_eq_of_lt hlt,Nat.add_zero]
 ·have key:M=V*(2*(M/2/V))+(2*(M/2%V)+M%2):=by
   rw[Nat.mul_left_comm];omega
  constructor
  ·conv=>lhs;rw[key]
   rw[Nat.mul_add_mod,Nat.mod_eq_of_lt h]
  ·conv=>lhs;rw[key]
   rw[Nat.mul_add_div hV,Nat.div_eq_of_lt h,Nat.add_zero]
theorem Ex {n:Nat} (h:0<n):bl n=bl (n/2)+1:=by
 rcases(show n=1∨2≤n by omega) with rfl|h1
 ·rfl
 ·have:=kZ (n:=n) (s:=1) (by omega)
  rw[Nat.pow_one] at this
  omega
end Go.Rl
namespace Go.Rl
open Go.RowKit Go.Proofs
theorem eO:aw Tryz.prog 167:=⟨_,Tryz.func167,by kernel_rfl,rfl⟩
theorem vE:aw Tryz.prog 186:=⟨_,Tryz.func186,by kernel_rfl,rfl⟩
theorem qz:aw Tryz.prog 185:=⟨_,Tryz.func185,by kernel_rfl,rfl⟩
theorem ee:aw Tryz.prog 206:=⟨_,Tryz.func206,by kernel_rfl,rfl⟩
theorem sM:aw Tryz.prog 190:=⟨_,Tryz.func190,by kernel_rfl,rfl⟩
theorem Al:aw Tryz.prog 189:=⟨_,Tryz.func189,by kernel_rfl,rfl⟩
theorem Am:aw Tryz.prog 191:=⟨_,Tryz.func191,by kernel_rfl,rfl⟩
theorem An:aw Tryz.prog 188:=⟨_,Tryz.func188,by kernel_rfl,rfl⟩
theorem xN:aw Tryz.prog 187:=⟨_,Tryz.func187,by kernel_rfl,rfl⟩
theorem sN {w:World} {l:List UInt32} {v:Value} (hv:bu l v w) (hl:l.length≤8796093022208):
 Calls Tryz.prog 167 #[v] w (bL fun r w'=>aE w w'∧dw w.heap.size (lb (val l)) r w'):=by
 refine enter (vs:=[v]) Tryz.func167 Ig Ig Ig ?_
 refine af (aa (ac Ig Ig (ag (ab (af (aa (ae Ig Ig (aO Ig Ig (bf HL hv) (ac Ig Ig (ag (ab (af ?_))))))))))))
 refine au ?_
 refine ci (α:=Nat) (fun n=>[(0,v),(3,I (n:Int))]) (fun n w'=>w=w'∧n≤l.length∧val (l.take n)=val l) (fun n=>n) (l.length) ⟨rfl,rfl,trivial⟩ ⟨rfl,Nat.le_refl _,by rw[List.take_length]⟩ ?_
 rintro n _ ⟨rfl,hn,hval⟩
 refine af (af (aa (ae Ig Ig (ai Ig Ig Ig (cB) (ae Ig Ig ?_)))))
 refine dM (fun h8=>?_) (fun h8=>?_)
 ·refine ao Ig (ae Ig Ig (ao Ig (ae Ig Ig (ao Ig (ai (r:=I ((n-1:Nat):Int)) Ig Ig Ig (by have e:((n-1:Nat):Int)=(n:Int)-1:=(by omega);rw[e];exact aV (by omega) (by omega)) ?_)))))
  refine ao Ig ?_
  obtain⟨a12,p12,q12⟩:=cr HL hv (i:=(n-1:Nat)) (by omega) .i64
  refine aq Ig Ig Ig (p12 _) (ao Ig (am Ig Ig (aj HB Ig q12) (ao Ig (ai (v:=bg 0) Ig Ig Ig (nS) (aG Ig Ig Ig ?_)))))
  refine ag (ab ?_)
  refine bi Ig (fun h15=>?_) (fun h15=>?_)
  ·refine ax (ab (au (aa (ae Ig Ig (ai (r:=I ((n-1:Nat):Int)) Ig Ig Ig (by have e:((n-1:Nat):Int)=(n:Int)-1:=(by omega);rw[e];exact aV (by omega) (by omega)) ?_)))))
   refine ac Ig Ig (ag (aM ?_))
   refine bP (n-1) ⟨rfl,rfl,trivial⟩ ⟨rfl,by omega,by rw[oa (by omega) hn h15];exact hval⟩ (by omega)
  ·refine ba (aC (aC (aY (ab (af (aa ?_))))))
   obtain⟨v18,w18,hr18,x18,o18,ob18⟩:=iA Tryz.underlying44 (w:=w) w.heap.size [] (by simp) (Nat.le_refl _)
   refine aH (vs:=[]) Ig Ig hr18 (ae Ig Ig (ae Ig Ig ?_))
   obtain⟨v21,p21,b21⟩:=qm HL (hv.ext x18) (hi:=n) hn .i64
   refine db Ig Ig Ig Ig Ig (p21 _) ?_
   obtain⟨v22,w22,hr22,o22,g22⟩:=zc Tryz.underlying44 Tryz.underlying43 (ty:=44) o18 b21 (by simp;omega) (x18).size
   have x22:=aE.of_grew (x18) g22 o18.ge
   refine aZ Ig Ig hr22 (ac Ig Ig (ag (ab (ay (aD Ig Ig ?_)))))
   exact⟨_,rfl,x22,by
    have e:lb (val l)=l.take n:=by
     first
     |rw[←hval,jK (by omega) hn h15]
     |(have h0:n=0:=by omega
       subst h0
       rw[←hval];rfl)
    rw[e];simpa using o22⟩
 ·refine ap Ig Ig Ig (ap Ig Ig Ig (ap Ig Ig Ig (ap Ig Ig Ig (ap Ig Ig Ig (ap Ig Ig Ig (aJ Ig Ig Ig (ag (ab (eS Ig (ba (aC (aC ?_))))))))))))
  refine aY (ab (af (aa ?_)))
  obtain⟨v18,w18,hr18,x18,o18,ob18⟩:=iA Tryz.underlying44 (w:=w) w.heap.size [] (by simp) (Nat.le_refl _)
  refine aH (vs:=[]) Ig Ig hr18 (ae Ig Ig (ae Ig Ig ?_))
  obtain⟨v21,p21,b21⟩:=qm HL (hv.ext x18) (hi:=n) hn .i64
  refine db Ig Ig Ig Ig Ig (p21 _) ?_
  obtain⟨v22,w22,hr22,o22,g22⟩:=zc Tryz.underlying44 Tryz.underlying43 (ty:=44) o18 b21 (by simp;omega) (x18).size
  have x22:=aE.of_grew (x18) g22 o18.ge
  refine aZ Ig Ig hr22 (ac Ig Ig (ag (ab (ay (aD Ig Ig ?_)))))
  exact⟨_,rfl,x22,by
   have e:lb (val l)=l.take n:=by
    first
    |rw[←hval,jK (by omega) hn h15]
    |(have h0:n=0:=by omega
      subst h0
      rw[←hval];rfl)
   rw[e];simpa using o22⟩
theorem fj {w:World} {l:List UInt32} {v:Value} (hv:bu l v w) (hl:l.length≤8796093022208):
 Calls Tryz.prog 167 #[v] w (bL fun r w'=>aE w w'∧bu (lb (val l)) r w'):=
 (sN hv hl).mono fun _ _ ⟨r,he,h1,h2⟩=>⟨r,he,h1,h2.wds⟩
theorem vF {w:World} {x:UInt64}:
 Calls Tryz.prog 186 #[bo x] w (bL fun r w'=>aE w w'∧bu (lb x.toNat) r w'):=by
 refine enter (vs:=[bo x]) Tryz.func186 Ig Ig Ig ?_
 refine af (aa (ac Ig Ig (ag (ab (af (aa (ae Ig Ig (aN Ig Ig (bV HD HB) (ae Ig Ig ?_)))))))))
 refine ai Ig Ig Ig (cK 32 (by omega)) (aN Ig Ig (bV HD HB) ?_)
 obtain⟨v8,w8,hr8,x8,o8,ob8⟩:=iA Tryz.underlying43 (w:=w) w.heap.size [x.toUInt32,(x>>>UInt64.ofNat 32).toUInt32] (by simp) (Nat.le_refl _)
 refine aH (vs:=[(0,bg (x.toUInt32)),(1,bg ((x>>>UInt64.ofNat 32).toUInt32))]) Ig Ig hr8 (ak eO Ig Ig (fj o8.wds (by simp)) ?_)
 rintro v9 w9 ⟨x9,b9⟩
 refine ac Ig Ig (ag (ab (ay (aD Ig Ig ?_))))
 exact⟨_,rfl,(x8.trans x9),by
  have e:val [x.toUInt32,(x>>>UInt64.ofNat 32).toUInt32]=x.toNat:=by
   have h1:=jL x
   have h2:((x>>>UInt64.ofNat 32).toUInt32).toNat=x.toNat/4294967296:=by
    have:=xI x
    rw[jL,sy]
    omega
   simp only[val,h1,h2];omega
  rw[e] at b9;exact b9⟩
theorem eg {w:World} {l:List UInt32} {v:Value} {i:Nat} (hv:bu l v w):
 Calls Tryz.prog 206 #[v,I (i:Int)] w (bL fun r w'=>w=w'∧r=bg (l.getD i 0)):=by
 refine enter (vs:=[v,I (i:Int)]) Tryz.func206 Ig Ig Ig ?_
 refine af (aa (ac Ig Ig (ag (ab (af (af (aa (ae Ig Ig (ae Ig Ig (aO Ig Ig (bf Hz hv) (ai Ig Ig Ig (bb) ?_)))))))))))
 refine ag (ab ?_)
 refine bi Ig (fun h8=>?_) (fun h8=>?_)
 ·refine af (aa (ae Ig Ig (ae Ig Ig ?_)))
  obtain⟨a11,p11,q11⟩:=cr Hz hv (i:=i) (by omega) .i64
  refine aq Ig Ig Ig (p11 _) (am Ig Ig (aj HB Ig q11) (ac Ig Ig (ag (ab (ay (aB (aD Ig Ig ?_)))))))
  exact⟨_,rfl,rfl,by simp[List.getD,List.getElem?_eq_getElem (show i<l.length by omega)]⟩
 ·refine ax (ab (af (aa (ac Ig Ig (ag (ab (ay (aD Ig Ig ?_))))))))
  exact⟨_,rfl,rfl,by simp[List.getD,List.getElem?_eq_none (show l.length≤i by omega)];rfl⟩
theorem sO {w:World} {l m:List UInt32} {v u:Value} (hv:bu l v w) (hu:bu m u w):
 Calls Tryz.prog 190 #[v,u] w (bL fun r w'=>w=w'∧r=I (nZ (val l) (val m))):=by
 refine enter (vs:=[v,u]) Tryz.func190 Ig Ig Ig ?_
 have hll:=hv.len
 have hml:=hu.len
 obtain⟨n,hn⟩:∃n,n=max l.length m.length:=⟨_,rfl⟩
 have hln:l.length≤n:=by omega
 have hmn:m.length≤n:=by omega
 refine af (aa (ac Ig Ig (ag (ab (af (af (aa (ae Ig Ig (aO Ig Ig (bf Hz hv) (ae Ig Ig (aO Ig Ig (bf Hz hu) ?_)))))))))))
 refine GW (r:=I ((n:Nat):Int)) (vs:=[I (l.length:Int),I (m.length:Int)]) Ig Ig (by rw[hn];exact Es) ?_
 refine ai Ig Ig Ig (aV (by omega) (by omega)) (ac Ig Ig (ag (ab (au ?_))))
 refine ci (α:=Nat) (fun k=>[(0,v),(1,u),(5,I ((k:Int)-1))]) (fun k w'=>w=w'∧k≤n∧(tZ l n).drop k=(tZ m n).drop k) (fun k=>k) (n) ⟨rfl,rfl,rfl,trivial⟩ ⟨rfl,Nat.le_refl _,by rw[List.drop_of_length_le (by rw[lN hln];exact Nat.le_refl _),List.drop_of_length_le (by rw[lN hmn];exact Nat.le_refl _)]⟩ ?_
 rintro k _ ⟨rfl,hk,hd⟩
 refine af (af (aa (ae Ig Ig (ai Ig Ig Ig (gP) (ag (ab ?_))))))
 refine bi Ig (fun h13=>?_) (fun h13=>?_)
 ·obtain⟨j,rfl⟩:∃j,k=j+1:=⟨k-1,by omega⟩
  have e:((j+1:Nat):Int)-1=(j:Int):=by omega
  rw[e]
  refine ax (ab (af (au (af (af (aa (ae Ig Ig (ae Ig Ig (ak ee Ig Ig (eg hv) ?_)))))))))
  rintro v18 _ ⟨rfl,rfl⟩
  refine ae Ig Ig (ae Ig Ig (ak ee Ig Ig (eg hu) ?_))
  rintro v21 _ ⟨rfl,rfl⟩
  refine ai Ig Ig Ig (sm) (ag (ab ?_))
  refine bi Ig (fun h22=>?_) (fun h22=>?_)
  ·refine af (aa (ac Ig Ig (ag (ab (ay (aB (bh (aB (aB (bh (aB (aD Ig Ig ?_))))))))))))
   exact⟨_,rfl,rfl,congrArg I (tX (Cj hln hmn (by omega) hd (vw.1 h22))).symm⟩
  ·refine ax (ab (af (aa (ae Ig Ig (ae Ig Ig (ak ee Ig Ig (eg hv) ?_))))))
   rintro v25 _ ⟨rfl,rfl⟩
   refine ae Ig Ig (ae Ig Ig (ak ee Ig Ig (eg hu) ?_))
   rintro v28 _ ⟨rfl,rfl⟩
   refine ai Ig Ig Ig (sn) (ag (ab ?_))
   refine bi Ig (fun h29=>?_) (fun h29=>?_)
   ·refine af (aa (ac Ig Ig (ag (ab (ay (bh (aB (aB (bh (aB (aD Ig Ig ?_)))))))))))
    exact⟨_,rfl,rfl,congrArg I (tY (Cj hmn hln (by omega) hd.symm (vw.1 h29))).symm⟩
   ·refine ax (aM (ab (aa (ae Ig Ig (ai Ig Ig Ig (aV (by omega) (by omega)) (ac Ig Ig (ag ?_)))))))
    refine bP j ⟨rfl,rfl,rfl,trivial⟩ ⟨rfl,by omega,Ck hln hmn (by omega) hd (by
     have a:=mt vw.2 h22
     have b:=mt (vw (a:=m.getD j 0) (b:=l.getD j 0)).2 h29
     omega)⟩ (by omega)
 ·refine ba (aC (aC (aY (ab (af (aa (ac Ig Ig (ag (ab (ay (aD Ig Ig ?_)))))))))))
  exact⟨_,rfl,rfl,by
   obtain rfl:k=0:=by omega
   rw[List.drop_zero,List.drop_zero] at hd
   rw[Ew hd,ze];rfl⟩
theorem qB {w:World} {l:List UInt32} {v:Value} (hv:bu l v w) (hl:l.length≤8796093022208):
 Calls Tryz.prog 185 #[v] w (bL fun r w'=>aE w w'∧((18446744073709551616≤val l∧r=.tuple #[bo 0,B false])∨∃x:UInt64,x.toNat=val l∧r=.tuple #[bo x,B true])):=by
 refine enter (vs:=[v]) Tryz.func185 Ig Ig Ig ?_
 refine af (aa (ac Ig Ig (ac Ig Ig (ag (ab (af (aa (ae Ig Ig (ak eO Ig Ig (fj hv hl) ?_)))))))))
 rintro v5 w5 ⟨x5,b5⟩
 refine ac Ig Ig (ag (ab (af (af ?_))))
 obtain⟨t,ht⟩:∃t,t=lb (val l):=⟨_,rfl⟩
 have hval:val t=val l:=by rw[ht,bH]
 have h64:t.length≤2∨18446744073709551616≤val l:=by
  rcases Nat.lt_or_ge (val l) 18446744073709551616 with h|h
  ·exact .inl (by rw[ht];exact gx (n:=val l) (k:=2) h)
  ·exact .inr h
 rw[←ht] at b5
 refine aa (ae Ig Ig (aO Ig Ig (bf Hz b5) (ag (ab (au (af (aa (ai Ig Ig Ig (bJ) (ac Ig Ig ?_)))))))))
 refine ag (ab ?_)
 refine bi Ig (fun h8=>?_) (fun h8=>?_)
 ·refine af (aa (ac Ig Ig (ac Ig Ig (ag (ab (ay (bh (aB (aW Ig Ig Ig ?_)))))))))
  exact⟨_,rfl,x5,.inr ⟨0,by
   have:t=[]:=List.eq_nil_of_length_eq_zero (by omega)
   rw[←hval,this];rfl,rfl⟩⟩
 ·refine af (aa (ai Ig Ig Ig (bJ) (ac Ig Ig (ag (ab ?_)))))
  refine bi Ig (fun h10=>?_) (fun h10=>?_)
  ·refine af (aa (ae Ig Ig ?_))
   obtain⟨a13,p13,q13⟩:=cr Hz b5 (i:=0) (by omega) .i64
   refine aq Ig Ig Ig (p13 _) (am Ig Ig (aj HB Ig q13) (aN Ig Ig (bt HB HD) ?_))
   refine ac Ig Ig (ac Ig Ig (ag (ab (ay (bh (aB (aW Ig Ig Ig ?_)))))))
   exact⟨_,rfl,x5,.inr ⟨_,by
    obtain⟨x,rfl⟩:=List.length_eq_one_iff.1 (show t.length=1 by omega)
    rw[eX,←hval];simp[val],rfl⟩⟩
  ·refine af (aa (ai Ig Ig Ig (bJ) (ac Ig Ig (ag (ab ?_)))))
   refine bi Ig (fun h16=>?_) (fun h16=>?_)
   ·refine af (bk 11 [2] (by kernel_rfl) (by kernel_rfl) ?_)
    refine an Ig Ig ?_
    obtain⟨a19,p19,q19⟩:=cr Hz b5 (i:=0) (by omega) .i64
    refine ar Ig Ig Ig (fun w _=>p19 w) (av Ig Ig (fun w hw=>aj HB Ig (hw.cell_some q19)) (cP Ig Ig (fun w _=>bt HB HD) ?_))
    refine an Ig Ig ?_
    obtain⟨a23,p23,q23⟩:=cr Hz b5 (i:=1) (by omega) .i64
    refine ar Ig Ig Ig (fun w _=>p23 w) (av Ig Ig (fun w hw=>aj HB Ig (hw.cell_some q23)) (cP Ig Ig (fun w _=>bt HB HD) ?_))
    refine aL (v:=bo 32) Ig Ig Ig (fun w _=>eY 32 (by omega)) (aL Ig Ig Ig (fun w _=>gY) (du Ig Ig (bn ?_)))
    intro wg8 xg8
    rintro _ rfl
    refine ac Ig Ig (ag (ab (ay (bh (aB (aW Ig Ig Ig ?_))))))
    exact⟨_,rfl,(x5.trans xg8),.inr ⟨_,by
     have e1:=d6 (l:=t) (i:=0) (by omega)
     have e2:=d6 (l:=t) (i:=1) (by omega)
     simp only[Nat.zero_add,Nat.reduceAdd,List.drop_zero] at e1 e2
     rw[List.drop_of_length_le (show t.length≤2 by omega)] at e2
     rw[Ft (eX _) (cq _),←hval,e1,e2]
     simp[val],rfl⟩⟩
   ·refine ax (aM (ab (af (aa (ac Ig Ig (ac Ig Ig (ag (ab (ay (aW Ig Ig Ig ?_))))))))))
    exact⟨_,rfl,x5,.inl ⟨by omega,rfl⟩⟩
theorem Ao {w:World} {l m:List UInt32} {v u:Value} (hv:bu l v w) (hu:bu m u w) (hl:l.length≤1099511627776) (hm:m.length≤1099511627776):
 Calls Tryz.prog 189 #[v,u] w (bL fun r w'=>aE w w'∧bu (lb (val l+val m)) r w'):=by
 refine enter (vs:=[v,u]) Tryz.func189 Ig Ig Ig ?_
 refine af (aa (ac Ig Ig (ag (ab (af (aa (ac Ig Ig (ag (ab (af (aa (ac Ig Ig (ag (ab (af (af (aa (ac Ig Ig ?_))))))))))))))))))
 refine ag (ab (au ?_))
 refine iC (fun(i:Nat) (vo:Value) (O:List UInt32) (c:UInt64)=>[(0,v),(1,u),(5,vo),(6,bo c),(7,I (i:Int))]) (fun(i:Nat) (vo:Value) (O:List UInt32) (c:UInt64) w'=>aE w w'∧dw w.heap.size O vo w'∧O.length=i∧i≤max l.length m.length∧c.toNat≤1∧val O+4294967296^i*c.toNat=val (l.take i)+val (m.take i)) (fun(i:Nat) (vo:Value) (O:List UInt32) (c:UInt64)=>max l.length m.length-i) (0) (.slice none 0 0) ([]) (0) ⟨rfl,rfl,rfl,rfl,rfl,trivial⟩ ⟨aE.refl _,dw.nil _ _,rfl,by simp,by simp,by simp[val]⟩ ?_
 rintro i vo O c w4 ⟨e4,oO,hO,hi,hc,hinv⟩
 refine af (af (aa (ae Ig Ig (ae Ig Ig (aO Ig Ig (bf Hz (hv.ext e4)) (ai Ig Ig Ig (bb) (ae Ig Ig ?_)))))))
 refine dM (fun h12=>?_) (fun h12=>?_)
 ·refine ap Ig Ig Ig (ap Ig Ig Ig (ap Ig Ig Ig (ap Ig Ig Ig (aG Ig Ig Ig (ag (ab (ce Ig (ax (ab (af (au (af ?_))))))))))))
  have hlt:i<max l.length m.length:=by
   first
   |(have:=h12;omega)
   |(have:=h17;omega)
  have st:=sK (a:=l) (b:=m) hO hc hinv
  refine aa (ae Ig Ig (ae Ig Ig (ae Ig Ig (ak ee Ig Ig (eg (hv.ext e4)) ?_))))
  rintro v23 _ ⟨rfl,rfl⟩
  refine aN Ig Ig (bt HB HD) (ae Ig Ig (ae Ig Ig (ak ee Ig Ig (eg (hu.ext e4)) ?_)))
  rintro v27 _ ⟨rfl,rfl⟩
  refine aN Ig Ig (bt HB HD) (ai Ig Ig Ig (dm) (ai Ig Ig Ig (dm) (ac Ig Ig ?_)))
  refine ag (ab (af (aa (ae Ig Ig (ae Ig Ig (aN Ig Ig (bV HD HB) ?_))))))
  obtain⟨v34,w34,hr34,x34,o34,ob34⟩:=iA Tryz.underlying43 (w:=w4) w4.heap.size [((((c)+(((((l.getD i 0)).toUInt64)+(((m.getD i 0)).toUInt64))))).toUInt32)] (by simp) (Nat.le_refl _)
  refine aH (vs:=[(0,bg (((((c)+(((((l.getD i 0)).toUInt64)+(((m.getD i 0)).toUInt64))))).toUInt32)))]) Ig Ig hr34 ?_
  obtain⟨v35,w35,hr35,o35,g35⟩:=ju Tryz.underlying43 (ty:=43) (oO.ext x34) o34.wds (by simp;omega) ((e4.trans x34)).size
  have x35:=aE.of_grew ((e4.trans x34)) g35 (oO.ext x34).ge
  refine aZ Ig Ig hr35 (ac Ig Ig (ag (ab (aa (ae Ig Ig (ai Ig Ig Ig (cK 32 (by omega)) (ac Ig Ig (ag (aM (ab (aa ?_)))))))))))
  refine ae Ig Ig (ai (r:=I ((i+1:Nat):Int)) Ig Ig Ig (by have e:((i+1:Nat):Int)=(i:Int)+1:=(by omega);rw[e];exact aK (by omega) (by omega)) ?_)
  refine ac Ig Ig (ag ?_)
  refine fi (i+1) (_) (_) (_) ⟨rfl,rfl,rfl,rfl,rfl,trivial⟩ ⟨x35,o35,by simp[hO],by omega,st.2,st.1⟩ (by omega)
 ·refine ao Ig (ae Ig Ig (ao Ig (ae Ig Ig (ao Ig (aO Ig Ig (bf Hz (hu.ext e4)) (ao Ig (ai Ig Ig Ig (bb) ?_)))))))
  refine aJ Ig Ig Ig (ag (ab ?_))
  refine bi Ig (fun h17=>?_) (fun h17=>?_)
  ·refine ax (ab (af (au (af ?_))))
   have hlt:i<max l.length m.length:=by
    first
    |(have:=h12;omega)
    |(have:=h17;omega)
   have st:=sK (a:=l) (b:=m) hO hc hinv
   refine aa (ae Ig Ig (ae Ig Ig (ae Ig Ig (ak ee Ig Ig (eg (hv.ext e4)) ?_))))
   rintro v23 _ ⟨rfl,rfl⟩
   refine aN Ig Ig (bt HB HD) (ae Ig Ig (ae Ig Ig (ak ee Ig Ig (eg (hu.ext e4)) ?_)))
   rintro v27 _ ⟨rfl,rfl⟩
   refine aN Ig Ig (bt HB HD) (ai Ig Ig Ig (dm) (ai Ig Ig Ig (dm) (ac Ig Ig ?_)))
   refine ag (ab (af (aa (ae Ig Ig (ae Ig Ig (aN Ig Ig (bV HD HB) ?_))))))
   obtain⟨v34,w34,hr34,x34,o34,ob34⟩:=iA Tryz.underlying43 (w:=w4) w4.heap.size [((((c)+(((((l.getD i 0)).toUInt64)+(((m.getD i 0)).toUInt64))))).toUInt32)] (by simp) (Nat.le_refl _)
   refine aH (vs:=[(0,bg (((((c)+(((((l.getD i 0)).toUInt64)+(((m.getD i 0)).toUInt64))))).toUInt32)))]) Ig Ig hr34 ?_
   obtain⟨v35,w35,hr35,o35,g35⟩:=ju Tryz.underlying43 (ty:=43) (oO.ext x34) o34.wds (by simp;omega) ((e4.trans x34)).size
   have x35:=aE.of_grew ((e4.trans x34)) g35 (oO.ext x34).ge
   refine aZ Ig Ig hr35 (ac Ig Ig (ag (ab (aa (ae Ig Ig (ai Ig Ig Ig (cK 32 (by omega)) (ac Ig Ig (ag (aM (ab (aa ?_)))))))))))
   refine ae Ig Ig (ai (r:=I ((i+1:Nat):Int)) Ig Ig Ig (by have e:((i+1:Nat):Int)=(i:Int)+1:=(by omega);rw[e];exact aK (by omega) (by omega)) ?_)
   refine ac Ig Ig (ag ?_)
   refine fi (i+1) (_) (_) (_) ⟨rfl,rfl,rfl,rfl,rfl,trivial⟩ ⟨x35,o35,by simp[hO],by omega,st.2,st.1⟩ (by omega)
  ·refine ba (aC (aC (aY (ab (af ?_)))))
   have hge:max l.length m.length≤i:=by
    first
    |(have:=h17;omega)
   rw[j8 _ (by omega),j8 _ (by omega)] at hinv
   refine aa (ae Ig Ig (ae Ig Ig (aN Ig Ig (bV HD HB) ?_)))
   obtain⟨v41,w41,hr41,x41,o41,ob41⟩:=iA Tryz.underlying43 (w:=w4) w4.heap.size [((c).toUInt32)] (by simp) (Nat.le_refl _)
   refine aH (vs:=[(0,bg (((c).toUInt32)))]) Ig Ig hr41 ?_
   obtain⟨v42,w42,hr42,o42,g42⟩:=ju Tryz.underlying43 (ty:=43) (oO.ext x41) o41.wds (by simp;omega) ((e4.trans x41)).size
   have x42:=aE.of_grew ((e4.trans x41)) g42 (oO.ext x41).ge
   refine aZ Ig Ig hr42 (ak eO Ig Ig (fj o42.wds (by simp;omega)) ?_)
   rintro v43 w43 ⟨x43,b43⟩
   refine ac Ig Ig (ag (ab (ay (aD Ig Ig ?_))))
   exact⟨_,rfl,(x42.trans x43),by rw[←hinv,←Cl hO hc];exact b43⟩
theorem Ap {w:World} {l m:List UInt32} {v u:Value} (hv:bu l v w) (hu:bu m u w) (hl:l.length≤1099511627776) (hle:val m≤val l):
 Calls Tryz.prog 191 #[v,u] w (bL fun r w'=>aE w w'∧∃d,r=.tuple #[d,I 0]∧dw w.heap.size (lb (val l-val m)) d w'):=by
 refine enter (vs:=[v,u]) Tryz.func191 Ig Ig Ig ?_
 refine af (aa (ac Ig Ig (ac Ig Ig (ag (ab (af (af (aa (ae Ig Ig (ae Ig Ig (ak sM Ig Ig (sO hv hu) ?_)))))))))))
 rintro v13 _ ⟨rfl,rfl⟩
 refine ai Ig Ig Ig (eU (fun h=>by have:=k9.1 h;omega) bb) (ag (ab (eS Ig (ax (ab (af (aa (ac Ig Ig (ag (ab (af ?_)))))))))))
 refine aa (ac Ig Ig (ag (ab (af (af (aa (ac Ig Ig (ag (ab (au ?_))))))))))
 refine iC (fun(i:Nat) (vo:Value) (O:List UInt32) (d:UInt64)=>[(0,v),(1,u),(6,vo),(7,bo d),(8,I (i:Int))]) (fun(i:Nat) (vo:Value) (O:List UInt32) (d:UInt64) w'=>aE w w'∧dw w.heap.size O vo w'∧O.length=i∧i≤l.length∧d.toNat≤1∧val (l.take i)+4294967296^i*d.toNat=val O+val (m.take i)) (fun(i:Nat) (vo:Value) (O:List UInt32) (d:UInt64)=>l.length-i) (0) (.slice none 0 0) ([]) (0) ⟨rfl,rfl,rfl,rfl,rfl,trivial⟩ ⟨aE.refl _,dw.nil _ _,rfl,by simp,by simp,by simp[val]⟩ ?_
 rintro i vo O d w6 ⟨e6,oO,hO,hi,hd,hinv⟩
 refine af (af (aa (ae Ig Ig (ae Ig Ig (aO Ig Ig (bf Hz (hv.ext e6)) (ai Ig Ig Ig (bb) (ag (ab ?_))))))))
 refine bi Ig (fun h18=>?_) (fun h18=>?_)
 ·refine ax (ab (af (au (af ?_))))
  have hlt:i<l.length:=by omega
  have hxa:=eX (l.getD i 0)
  have hyb:((m.getD i 0).toUInt64+d).toNat=(m.getD i 0).toNat+d.toNat:=by
   have:=cq (m.getD i 0)
   rw[mc,eX];omega
  refine aa (ae Ig Ig (ae Ig Ig (ak ee Ig Ig (eg (hv.ext e6)) ?_)))
  rintro v23 _ ⟨rfl,rfl⟩
  refine aN Ig Ig (bt HB HD) (ae Ig Ig (ae Ig Ig (ak ee Ig Ig (eg (hu.ext e6)) ?_)))
  rintro v27 _ ⟨rfl,rfl⟩
  refine aN Ig Ig (bt HB HD) (ae Ig Ig (ai Ig Ig Ig (dm) (ac Ig Ig (ac Ig Ig ?_))))
  refine ag (ab (af (aa (ac Ig Ig (ag (ab (af (af (aa (ae Ig Ig (ae Ig Ig (ai Ig Ig Ig (jG) (ag (ab ?_))))))))))))))
  refine bi Ig (fun h33=>?_) (fun h33=>?_)
  ·have hlt2:(l.getD i 0).toNat<(m.getD i 0).toNat+d.toNat:=by
    have:=UInt64.lt_iff_toNat_lt.1 h33
    rwa [hxa,hyb] at this
   have st:=sL (a:=l) (b:=m) hO hd hinv (.inl ⟨rfl,hlt2,rfl⟩)
   refine af (aa (ae Ig Ig (ai (v:=bo 4294967296) Ig Ig Ig (dm) (ac Ig Ig (ag (ab (aa (ac Ig Ig (ag (ab (aa (ae Ig Ig ?_))))))))))))
   refine ae Ig Ig (ae Ig Ig (ai Ig Ig Ig (cW) (aN Ig Ig (bV HD HB) ?_)))
   obtain⟨v41,w41,hr41,x41,o41,ob41⟩:=iA Tryz.underlying43 (w:=w6) w6.heap.size [((((((((l.getD i 0)).toUInt64)+(4294967296)))-(((((m.getD i 0)).toUInt64)+(d))))).toUInt32)] (by simp) (Nat.le_refl _)
   refine aH (vs:=[(0,bg (((((((((l.getD i 0)).toUInt64)+(4294967296)))-(((((m.getD i 0)).toUInt64)+(d))))).toUInt32)))]) Ig Ig hr41 ?_
   obtain⟨v42,w42,hr42,o42,g42⟩:=ju Tryz.underlying43 (ty:=43) (oO.ext x41) o41.wds (by simp;omega) ((e6.trans x41)).size
   have x42:=aE.of_grew ((e6.trans x41)) g42 (oO.ext x41).ge
   refine aZ Ig Ig hr42 (ac Ig Ig (ag (aM (ab (aa (ae Ig Ig (ai (r:=I ((i+1:Nat):Int)) Ig Ig Ig (by have e:((i+1:Nat):Int)=(i:Int)+1:=(by omega);rw[e];exact aK (by omega) (by omega)) ?_)))))))
   refine ac Ig Ig (ag ?_)
   refine fi (i+1) (_) (_) (_) ⟨rfl,rfl,rfl,rfl,rfl,trivial⟩ ⟨x42,o42,by simp[hO],by omega,st.2,st.1⟩ (by omega)
  ·have hge2:(m.getD i 0).toNat+d.toNat≤(l.getD i 0).toNat:=by
    have:=mt UInt64.lt_iff_toNat_lt.2 h33
    rw[hxa,hyb] at this
    omega
   have st:=sL (a:=l) (b:=m) hO hd hinv (.inr ⟨rfl,hge2,rfl⟩)
   refine ax (ab (aa (ae Ig Ig (ae Ig Ig (ae Ig Ig (ai Ig Ig Ig (cW) (aN Ig Ig (bV HD HB) ?_)))))))
   obtain⟨v41,w41,hr41,x41,o41,ob41⟩:=iA Tryz.underlying43 (w:=w6) w6.heap.size [((((((l.getD i 0)).toUInt64)-(((((m.getD i 0)).toUInt64)+(d))))).toUInt32)] (by simp) (Nat.le_refl _)
   refine aH (vs:=[(0,bg (((((((l.getD i 0)).toUInt64)-(((((m.getD i 0)).toUInt64)+(d))))).toUInt32)))]) Ig Ig hr41 ?_
   obtain⟨v42,w42,hr42,o42,g42⟩:=ju Tryz.underlying43 (ty:=43) (oO.ext x41) o41.wds (by simp;omega) ((e6.trans x41)).size
   have x42:=aE.of_grew ((e6.trans x41)) g42 (oO.ext x41).ge
   refine aZ Ig Ig hr42 (ac Ig Ig (ag (aM (ab (aa (ae Ig Ig (ai (r:=I ((i+1:Nat):Int)) Ig Ig Ig (by have e:((i+1:Nat):Int)=(i:Int)+1:=(by omega);rw[e];exact aK (by omega) (by omega)) ?_)))))))
   refine ac Ig Ig (ag ?_)
   refine fi (i+1) (_) (_) (_) ⟨rfl,rfl,rfl,rfl,rfl,trivial⟩ ⟨x42,o42,by simp[hO],by omega,st.2,st.1⟩ (by omega)
 ·refine ba (aC (aC (aY (ab (af ?_)))))
  have hil:i=l.length:=by omega
  have hOl:=cd O
  rw[hO,hil] at hOl
  have hml:val (m.take i)=val m∧d.toNat=0:=by
   have h1:=dH m (min i m.length) (by omega)
   have h2:m.take (min i m.length)=m.take i:=by
    rcases Nat.le_total i m.length with h|h
    ·rw[Nat.min_eq_left h]
    ·rw[Nat.min_eq_right h,List.take_of_length_le (Nat.le_refl _),List.take_of_length_le h]
   rw[h2] at h1
   have hll:=cd l
   rw[hil,List.take_length] at hinv
   have hz:val (m.drop (min i m.length))=0:=by
    rcases Nat.le_total i m.length with h|h
    ·rw[Nat.min_eq_left h] at h1⊢
     rcases Nat.eq_zero_or_pos (val (m.drop i)) with h0|h0
     ·exact h0
     ·have:4294967296^i*1≤4294967296^i*val (m.drop i):=Nat.mul_le_mul_left _ h0
      rw[hil] at this h1
      omega
    ·rw[Nat.min_eq_right h,List.drop_of_length_le (Nat.le_refl _)];rfl
   rw[hz,Nat.mul_zero,Nat.add_zero] at h1
   refine⟨h1.symm,?_⟩
   rcases(show d.toNat=0∨d.toNat=1 by omega) with h|h
   ·exact h
   ·rw[hil] at h1
    rw[h,Nat.mul_one,←h1] at hinv
    omega
  have hres:val l-val m=val O:=by
   rw[hml.1,hml.2,hil,List.take_length] at hinv
   omega
  refine aa (ae Ig Ig (ak eO Ig Ig (sN oO.wds (by omega)) ?_))
  rintro v44 w44 ⟨x44,b44⟩
  refine ac Ig Ig (ac Ig Ig (ag (ab (ay (aW Ig Ig Ig ?_)))))
  exact⟨_,rfl,(e6.trans x44),_,rfl,by rw[hres];exact b44.low e6.size⟩
theorem Aq {w:World} {l:List UInt32} {v:Value} {k:Nat} (hv:bu l v w) (hl:l.length≤1099511627776) (hk:k≤1099511627776):
 Calls Tryz.prog 188 #[v,I (k:Int)] w (bL fun r w'=>aE w w'∧bu (lb (val l*2^k)) r w'):=by
 refine enter (vs:=[v,I (k:Int)]) Tryz.func188 Ig Ig Ig ?_
 refine af (aa (ac Ig Ig (ag (ab (af (aa (ae Ig Ig (ai (r:=I ((k/32:Nat):Int)) Ig Ig Ig (by have e:((k/32:Nat):Int)=(k:Int)/32:=(by omega);rw[e];exact mZ (by omega) (by omega) (by omega)) ?_))))))))
 obtain⟨v10,w10,hr10,x10,o10,ob10⟩:=sw HL (w:=w) w.heap.size (n:=k/32) (by omega) (Nat.le_refl _)
 refine fV Ig Ig Ig hr10 (ac Ig Ig (ag (ab (af (aa (ac Ig Ig (ag (ab (af (af (aa (ac Ig Ig (ag (ab (au ?_)))))))))))))))
 refine iC (fun(i:Nat) (vo:Value) (O:List UInt32) (c:UInt64)=>[(0,v),(1,I (k:Int)),(5,vo),(6,bo c),(7,I (i:Int))]) (fun(i:Nat) (vo:Value) (O:List UInt32) (c:UInt64) w'=>aE w w'∧dw w.heap.size O vo w'∧O.length=k/32+i∧i≤l.length∧c.toNat<2^(k%32)∧val O+4294967296^(k/32+i)*c.toNat=val (l.take i)*(4294967296^(k/32)*2^(k%32))) (fun(i:Nat) (vo:Value) (O:List UInt32) (c:UInt64)=>l.length-i) (0) (v10) (List.replicate (k/32) 0) (0) ⟨rfl,rfl,rfl,rfl,rfl,trivial⟩ ⟨x10,o10,by simp,by simp,by simp;exact Nat.pow_pos (by omega),by simp[val,nY]⟩ ?_
 rintro i vo O c w4 ⟨e4,oO,hO,hi,hc,hinv⟩
 refine af (af (aa (ae Ig Ig (ae Ig Ig (aO Ig Ig (bf Hz (hv.ext e4)) (ai Ig Ig Ig (bb) (ag (ab ?_))))))))
 refine bi Ig (fun h14=>?_) (fun h14=>?_)
 ·refine ax (ab (af (au (af ?_))))
  have hlt:i<l.length:=by omega
  have st:=Ak (Nat.mod_lt k (show 0<32 by omega)) hlt hO hc hinv
  refine aa (ae Ig Ig (ae Ig Ig (ae Ig Ig ?_)))
  obtain⟨a20,p20,q20⟩:=cr Hz (hv.ext e4) (i:=i) (by omega) .i64
  refine aq Ig Ig Ig (p20 _) (am Ig Ig (aj HB Ig q20) (aN Ig Ig (bt HB HD) ?_))
  refine ae Ig Ig (ai (r:=I ((k%32:Nat):Int)) Ig Ig Ig (by have e:((k%32:Nat):Int)=(k:Int)%32:=(by omega);rw[e];exact lG (by omega) (by omega)) ?_)
  refine ai Ig Ig Ig (eY ((k%32:Nat)) (by omega)) (ai Ig Ig Ig (gY) (ac Ig Ig (ag (ab (af (aa (ae Ig Ig (ae Ig Ig ?_))))))))
  refine aN Ig Ig (bV HD HB) ?_
  obtain⟨v30,w30,hr30,x30,o30,ob30⟩:=iA Tryz.underlying43 (w:=w4) w4.heap.size [((((c)|||(((((l[i])).toUInt64)<<<UInt64.ofNat ((k%32:Nat)))))).toUInt32)] (by simp) (Nat.le_refl _)
  refine aH (vs:=[(0,bg (((((c)|||(((((l[i])).toUInt64)<<<UInt64.ofNat ((k%32:Nat)))))).toUInt32)))]) Ig Ig hr30 ?_
  obtain⟨v31,w31,hr31,o31,g31⟩:=ju Tryz.underlying43 (ty:=43) (oO.ext x30) o30.wds (by simp;omega) ((e4.trans x30)).size
  have x31:=aE.of_grew ((e4.trans x30)) g31 (oO.ext x30).ge
  refine aZ Ig Ig hr31 (ac Ig Ig (ag (ab (aa (ae Ig Ig (ai Ig Ig Ig (cK 32 (by omega)) (ac Ig Ig (ag (aM (ab (aa ?_)))))))))))
  refine ae Ig Ig (ai (r:=I ((i+1:Nat):Int)) Ig Ig Ig (by have e:((i+1:Nat):Int)=(i:Int)+1:=(by omega);rw[e];exact aK (by omega) (by omega)) ?_)
  refine ac Ig Ig (ag ?_)
  refine fi (i+1) (_) (_) (_) ⟨rfl,rfl,rfl,rfl,rfl,trivial⟩ ⟨x31,o31,by simp[hO];omega,by omega,st.2,st.1⟩ (by omega)
 ·refine ba (aC (aC (aY (ab (af ?_)))))
  rw[j8 _ (by omega)] at hinv
  have e32:4294967296^(k/32)*2^(k%32)=2^k:=by
   have h3:(4294967296:Nat)^(k/32)=2^(32*(k/32)):=by rw[Nat.pow_mul]
   rw[h3,←Nat.pow_add,Nat.div_add_mod]
  have hc1:c.toNat<4294967296:=Nat.lt_of_lt_of_le hc (Nat.pow_le_pow_right (show 0<2 by omega) (show k%32≤32 by omega))
  have hend:val (O++[c.toUInt32])=val l*2^k:=by
   rw[dN,j5,hO,jL,Nat.mod_eq_of_lt hc1,hinv,e32]
  refine aa (ae Ig Ig (ae Ig Ig (aN Ig Ig (bV HD HB) ?_)))
  obtain⟨v37,w37,hr37,x37,o37,ob37⟩:=iA Tryz.underlying43 (w:=w4) w4.heap.size [((c).toUInt32)] (by simp) (Nat.le_refl _)
  refine aH (vs:=[(0,bg (((c).toUInt32)))]) Ig Ig hr37 ?_
  obtain⟨v38,w38,hr38,o38,g38⟩:=ju Tryz.underlying43 (ty:=43) (oO.ext x37) o37.wds (by simp;omega) ((e4.trans x37)).size
  have x38:=aE.of_grew ((e4.trans x37)) g38 (oO.ext x37).ge
  refine aZ Ig Ig hr38 (ak eO Ig Ig (fj o38.wds (by simp;omega)) ?_)
  rintro v39 w39 ⟨x39,b39⟩
  refine ac Ig Ig (ag (ab (ay (aD Ig Ig ?_))))
  exact⟨_,rfl,(x38.trans x39),by rw[←hend];exact b39⟩
theorem xO {w:World} {l:List UInt32} {v:Value} (hv:bu l v w) (hl:l.length≤1099511627776):
 Calls Tryz.prog 187 #[v] w (bL fun r w'=>aE w w'∧r=I ((bl (val l):Nat):Int)):=by
 refine enter (vs:=[v]) Tryz.func187 Ig Ig Ig ?_
 have hll:=gx (cd l)
 refine af (aa (ac Ig Ig (ag (ab (af (aa (ae Ig Ig (ak eO Ig Ig (fj hv (by omega)) ?_))))))))
 rintro v6 w6 ⟨x6,b6⟩
 refine ac Ig Ig (ag (ab (af (af (aa (ae Ig Ig (aO (r:=I ((lb (val l)).length:Int)) Ig Ig (bf Hz b6) ?_)))))))
 refine ai Ig Ig Ig (bJ) (ag (ab ?_))
 refine bi Ig (fun h9=>?_) (fun h9=>?_)
 ·refine af (aa (ac Ig Ig (ag (ab (ay (aB (aD Ig Ig ?_)))))))
  exact⟨_,rfl,x6,by
   have:val l=0:=gQ.1 (by omega)
   rw[this];rfl⟩
 ·refine ax (ab (af (aa (ae Ig Ig (aO (r:=I ((lb (val l)).length:Int)) Ig Ig (bf Hz b6) (ai (r:=I (((lb (val l)).length-1:Nat):Int)) Ig Ig Ig (by have e:(((lb (val l)).length-1:Nat):Int)=((lb (val l)).length:Int)-1:=(by omega);rw[e];exact aV (by omega) (by omega)) ?_))))))
  refine ai (r:=I ((32*((lb (val l)).length-1:Nat):Nat):Int)) Ig Ig Ig (by have e:((32*((lb (val l)).length-1:Nat):Nat):Int)=32*(((lb (val l)).length-1:Nat):Int):=(by omega);rw[e];exact en (by omega) (by omega)) ?_
  refine ac Ig Ig (ag (ab (af (af (aa (ae Ig Ig (ae Ig Ig (aO (r:=I ((lb (val l)).length:Int)) Ig Ig (bf Hz b6) ?_))))))))
  refine ai (r:=I (((lb (val l)).length-1:Nat):Int)) Ig Ig Ig (by have e:(((lb (val l)).length-1:Nat):Int)=((lb (val l)).length:Int)-1:=(by omega);rw[e];exact aV (by omega) (by omega)) ?_
  obtain⟨a18,p18,q18⟩:=cr Hz b6 (i:=((lb (val l)).length-1:Nat)) (by omega) .i64
  refine aq Ig Ig Ig (p18 _) (am Ig Ig (aj HB Ig q18) (ac Ig Ig (ag (ab (au ?_)))))
  refine d5 (fun(k:Nat) (x:UInt32)=>[(3,I (k:Int)),(4,bg x)]) (fun(k:Nat) (x:UInt32) w'=>w6=w'∧k+bl x.toNat=bl (val l)) (fun(k:Nat) (x:UInt32)=>x.toNat) (32*((lb (val l)).length-1)) ((lb (val l))[(lb (val l)).length-1]'(by omega)) ⟨rfl,rfl,trivial⟩ ⟨rfl,(Fu (by omega)).symm⟩ ?_
  rintro k x _ ⟨rfl,hinv⟩
  refine af (af (aa (ae Ig Ig (ai (v:=bg 0) Ig Ig Ig (sn) (ag (ab ?_))))))
  refine bi Ig (fun h21=>?_) (fun h21=>?_)
  ·have hx:0<x.toNat:=vw.1 h21
   have hb:=Ex hx
   have hs:(x>>>UInt32.ofNat 1).toNat=x.toNat/2:=nh x (s:=1) (by omega)
   have hbl:=sG (n:=val l) (k:=32*l.length) (by have:=cd l;rwa [show(4294967296:Nat)^l.length=2^(32*l.length) by rw[Nat.pow_mul]] at this)
   refine ax (ab (af (au (aa (ae Ig Ig (ai (r:=I ((k+1:Nat):Int)) Ig Ig Ig (by have e:((k+1:Nat):Int)=(k:Int)+1:=(by omega);rw[e];exact aK (by omega) (by omega)) ?_))))))
   refine ac Ig Ig (ag (aM (ab (aa (ae Ig Ig (ai Ig Ig Ig (ck 1 (by omega)) (ac Ig Ig (ag ?_))))))))
   refine cL (k+1) (_) ⟨rfl,rfl,trivial⟩ ⟨rfl,by rw[hs];omega⟩ (by omega)
  ·refine ba (aC (aC (aY (ab (af (aa (ae Ig Ig (ac Ig Ig (ag (ab (ay (aD Ig Ig ?_))))))))))))
   exact⟨_,rfl,x6,by
    have hx:x.toNat=0:=by
     have:=mt (vw (a:=0) (b:=x)).2 h21
     have e:(0:UInt32).toNat=0:=rfl
     omega
    rw[hx,zd,Nat.add_zero] at hinv
    rw[hinv]⟩
end Go.Rl
namespace Go.Rl
open Go.RowKit Go.Proofs
theorem Ar:aw Tryz.prog 203:=⟨_,Tryz.func203,by kernel_rfl,rfl⟩
theorem As:aw Tryz.prog 202:=⟨_,Tryz.func202,by kernel_rfl,rfl⟩
theorem top2 {m:List UInt32} {k:Nat} (h:m.length=k+2):val m=((m[k+1]'(by omega)).toNat*4294967296+(m[k]'(by omega)).toNat)*4294967296^k+val (m.take k):=by
 rw[dH m k (by omega),d6 (show k<m.length by omega),d6 (show k+1<m.length by omega),List.drop_of_length_le (show m.length≤k+1+1 by omega),Nat.mul_comm (4294967296^k),Nat.add_comm]
 congr 2
 simp only[val]
 omega
theorem top3 {m:List UInt32} {k:Nat} (h:m.length=k+3):val m=(((m[k+2]'(by omega)).toNat*4294967296+(m[k+1]'(by omega)).toNat)*4294967296+(m[k]'(by omega)).toNat)*4294967296^k+val (m.take k):=by
 rw[dH m k (by omega),d6 (show k<m.length by omega),d6 (show k+1<m.length by omega),d6 (show k+1+1<m.length by omega),List.drop_of_length_le (show m.length≤k+1+1+1 by omega),Nat.mul_comm (4294967296^k),Nat.add_comm]
 congr 2
 simp only[val,Nat.add_assoc,Nat.reduceAdd]
 omega
theorem qC {a b:UInt64}:a≥b↔b.toNat≤a.toNat:=UInt64.le_iff_toNat_le
theorem xP {a b:UInt64}:a>b↔b.toNat<a.toNat:=UInt64.lt_iff_toNat_lt
theorem Au {w:World} {L m:List UInt32} {u v:Value} {k:Nat} (hu:bu L u w) (hv:bu m v w) (hm:m.length=k+2) (hL:L.length=k+3) (hk:k≤1099511627776) (h1:0<(m[k+1]'(by omega)).toNat) (hUV:val L<4294967296*val m):
 Calls Tryz.prog 203 #[u,v] w (bL fun r w'=>aE w w'∧∃q:UInt64,r=bo q∧q.toNat<4294967296∧(q.toNat-1)*val m≤val L∧val L<(q.toNat+1)*val m):=by
 refine enter (vs:=[u,v]) Tryz.func203 Ig Ig Ig ?_
 have tV:=top2 hm
 have tU:=top3 hL
 have hPk:=G3 k
 have hVl:=cd (m.take k)
 have hUl:=cd (L.take k)
 rw[List.length_take,Nat.min_eq_left (by omega)] at hVl hUl
 have b0:=cq (L[k]'(by omega))
 have b1:=cq (L[k+1]'(by omega))
 have b2:=cq (L[k+2]'(by omega))
 have c1:=cq (m[k+1]'(by omega))
 have c0:=cq (m[k]'(by omega))
 have hV0:0<val m:=by
  rw[tV]
  have:=Nat.mul_le_mul_right (4294967296^k) (show 1≤(m[k+1]'(by omega)).toNat*4294967296+(m[k]'(by omega)).toNat by omega)
  omega
 have hu0:(L[k+2]'(by omega)).toNat≤(m[k+1]'(by omega)).toNat:=by
  rcases Nat.lt_or_ge (m[k+1]'(by omega)).toNat (L[k+2]'(by omega)).toNat with h|h
  ·have e1:((m[k+1]'(by omega)).toNat*4294967296+(m[k]'(by omega)).toNat+1)*4294967296^k*4294967296≤(((L[k+2]'(by omega)).toNat*4294967296+(L[k+1]'(by omega)).toNat)*4294967296+(L[k]'(by omega)).toNat)*4294967296^k:=by
    rw[Nat.mul_assoc,Nat.mul_comm (4294967296^k),←Nat.mul_assoc]
    exact Nat.mul_le_mul_right _ (by omega)
   rw[Nat.add_mul _ 1] at e1
   omega
  ·exact h
 have hd0:(m[k+1]'(by omega)).toUInt64≠0:=fun h=>by
  have:=congrArg UInt64.toNat h
  rw[eX] at this
  simp at this
  omega
 have n01:=qp (L[k+2]'(by omega)).toUInt64 (L[k+1]'(by omega)) (by rw[eX];exact b2)
 rw[eX] at n01
 refine af (aa (ac Ig Ig (ag (ab (af (aa (ae Ig Ig (aO (r:=I ((k+2:Nat):Int)) Ig Ig ((by rw[←hm];exact bf Hz hv)) ?_))))))))
 refine ac Ig Ig (ag (ab (af (bk 13 [0,1,5,23] (by kernel_rfl) (by kernel_rfl) ?_))))
 refine an Ig Ig (an Ig Ig ?_)
 obtain⟨a13,p13,q13⟩:=cr Hz hu (i:=(k+2:Nat)) (by omega) .i64
 refine ar Ig Ig Ig (fun w _=>p13 w) (av Ig Ig (fun w hw=>aj HB Ig (hw.cell_some q13)) (cP Ig Ig (fun w _=>bt HB HD) ?_))
 refine aL (v:=bo 32) Ig Ig Ig (fun w _=>eY 32 (by omega)) (an Ig Ig (an Ig Ig (aL (r:=I ((k+1:Nat):Int)) Ig Ig Ig (fun w _=>by have e:((k+1:Nat):Int)=((k+2:Nat):Int)-1:=(by omega);rw[e];exact aV (by omega) (by omega)) ?_)))
 obtain⟨a20,p20,q20⟩:=cr Hz hu (i:=(k+1:Nat)) (by omega) .i64
 refine ar Ig Ig Ig (fun w _=>p20 w) (av Ig Ig (fun w hw=>aj HB Ig (hw.cell_some q20)) (cP Ig Ig (fun w _=>bt HB HD) ?_))
 refine aL Ig Ig Ig (fun w _=>gY) (bn ?_)
 intro wg2 xg2
 rintro _ hq0
 obtain rfl:=Eq.symm hq0
 rintro _ hq1
 obtain rfl:=Eq.symm hq1
 rintro _ rfl
 rintro _ rfl
 refine ac Ig Ig (ag (ab (af (bk 17 [0,1,5,7,39] (by kernel_rfl) (by kernel_rfl) ?_))))
 refine an Ig Ig (an Ig Ig (an Ig Ig (aL (r:=I ((k+1:Nat):Int)) Ig Ig Ig (fun w _=>by have e:((k+1:Nat):Int)=((k+2:Nat):Int)-1:=(by omega);rw[e];exact aV (by omega) (by omega)) ?_)))
 obtain⟨a28,p28,q28⟩:=cr Hz (hv.ext xg2) (i:=(k+1:Nat)) (by omega) .i64
 refine ar Ig Ig Ig (fun w _=>p28 w) (av Ig Ig (fun w hw=>aj HB Ig (hw.cell_some q28)) (cP Ig Ig (fun w _=>bt HB HD) ?_))
 refine aL Ig Ig Ig (fun w _=>jE hd0) (an Ig Ig (an Ig Ig (an Ig Ig (aL (r:=I ((k+1:Nat):Int)) Ig Ig Ig (fun w _=>by have e:((k+1:Nat):Int)=((k+2:Nat):Int)-1:=(by omega);rw[e];exact aV (by omega) (by omega)) ?_))))
 obtain⟨a36,p36,q36⟩:=cr Hz (hv.ext xg2) (i:=(k+1:Nat)) (by omega) .i64
 refine ar Ig Ig Ig (fun w _=>p36 w) (av Ig Ig (fun w hw=>aj HB Ig (hw.cell_some q36)) (cP Ig Ig (fun w _=>bt HB HD) ?_))
 refine aL Ig Ig Ig (fun w _=>jF hd0) (du Ig Ig (bn ?_))
 intro wg3 xg3
 rintro _ hq0
 obtain rfl:=Eq.symm hq0
 rintro _ hq1
 obtain rfl:=Eq.symm hq1
 rintro _ rfl
 rintro _ rfl
 rintro _ rfl
 refine ac Ig Ig (ag (ab (af (au ?_))))
 refine d5 (fun(q:UInt64) (r:UInt64)=>[(0,u),(1,v),(5,I ((k+2:Nat):Int)),(7,bo q),(8,bo r)]) (fun(q:UInt64) (r:UInt64) w'=>aE w w'∧q.toNat*(m[k+1]'(by omega)).toNat+r.toNat=(L[k+2]'(by omega)).toNat*4294967296+(L[k+1]'(by omega)).toNat∧r.toNat<4294967296∧∀Q,Q*val m≤val L→Q≤q.toNat) (fun(q:UInt64) (r:UInt64)=>q.toNat) (_) (_) ⟨rfl,rfl,rfl,rfl,rfl,trivial⟩ ⟨(xg2.trans xg3),by rw[UInt64.toNat_div,UInt64.toNat_mod,n01,eX,Nat.mul_comm];exact Nat.div_add_mod _ _,by rw[UInt64.toNat_mod,n01,eX];have:=Nat.mod_lt ((L[k+2]'(by omega)).toNat*4294967296+(L[k+1]'(by omega)).toNat) h1;omega,fun Q hQ=>by
  rw[UInt64.toNat_div,n01,eX]
  refine F6 (V:=val m) (U:=val L) (P:=4294967296^k*4294967296) ?_ ?_ h1 hQ
  ·rw[tV,Nat.mul_comm (4294967296^k),←Nat.mul_assoc]
   have:=Nat.mul_le_mul_right (4294967296^k) (Nat.le_add_right ((m[k+1]'(by omega)).toNat*4294967296) (m[k]'(by omega)).toNat)
   omega
  ·rw[tU,Nat.mul_comm (4294967296^k),←Nat.mul_assoc]
   have:=Nat.mul_le_mul_right (4294967296^k) (show((L[k+2]'(by omega)).toNat*4294967296+(L[k+1]'(by omega)).toNat)*4294967296+(L[k]'(by omega)).toNat+1≤((L[k+2]'(by omega)).toNat*4294967296+(L[k+1]'(by omega)).toNat+1)*4294967296 by omega)
   rw[Nat.add_mul _ 1] at this
   omega⟩ ?_
 rintro q r w4 ⟨e4,hqr,hr,hup⟩
 refine af (af ?_)
 by_cases h41:q≥4294967296
 ·refine bk 21 [0,1,5,7,8,42,60] (by kernel_rfl) (by kernel_rfl) ?_
  refine an Ig Ig (aL (v:=bo 4294967296) Ig Ig Ig (fun w _=>dW h41 fW) (an Ig Ig (dU Ig Ig Ig (dU Ig Ig Ig (dU Ig Ig Ig (dU Ig Ig Ig ?_))))))
  refine dU Ig Ig Ig (dU Ig Ig Ig (dU Ig Ig Ig (dU Ig Ig Ig (dU Ig Ig Ig (dU Ig Ig Ig (dU Ig Ig Ig (dU Ig Ig Ig (dU Ig Ig Ig (dU Ig Ig Ig ?_)))))))))
  refine dU Ig Ig Ig (dU Ig Ig Ig (dU Ig Ig Ig (dU Ig Ig Ig (bn ?_))))
  intro wg4 xg4
  rintro _ hq0
  obtain rfl:=Eq.symm hq0
  rintro _ hq1
  obtain rfl:=Eq.symm hq1
  rintro _ rfl
  rintro _ rfl
  rintro _ rfl
  rintro _ rfl
  rintro _ rfl
  refine aG Ig Ig Ig (ag (ab (ce Ig (ax (ab (au (af (aa ?_))))))))
  have hlo:∀Q,Q*val m≤val L→Q+1≤q.toNat:=by
   intro Q hQ
   first
   |(have h41':4294967296≤q.toNat:=qC.1 h41
     have h2:Q*val m<4294967296*val m:=by omega
     have:=Nat.lt_of_mul_lt_mul_right h2
     omega)
   |(have h41':q.toNat<4294967296:=Nat.lt_of_not_le fun h=>h41 (qC.2 h)
     have h61':=xP.1 h61
     have hp:q.toNat*(m[k]'(by omega)).toNat≤4294967295*4294967295:=Nat.mul_le_mul (by omega) (by omega)
     rw[qp r _ hr,sF,eX,Nat.mod_eq_of_lt (by omega)] at h61'
     have h2:=vA tV tU hUl hqr h61'
     have h3:Q*val m<q.toNat*val m:=by omega
     exact Nat.lt_of_mul_lt_mul_right h3)
  have hq0:=hlo 0 (by simp)
  have hq1:(q-1).toNat=q.toNat-1:=by
   have:=xI q
   rw[ni]
   show(18446744073709551616-1+q.toNat)%18446744073709551616=_
   omega
  have hr1:(r+(m[k+1]'(by omega)).toUInt64).toNat=r.toNat+(m[k+1]'(by omega)).toNat:=by rw[mc,eX];omega
  have hqr1:(q-1).toNat*(m[k+1]'(by omega)).toNat+(r+(m[k+1]'(by omega)).toUInt64).toNat=(L[k+2]'(by omega)).toNat*4294967296+(L[k+1]'(by omega)).toNat:=by
   rw[hq1,hr1,←hqr]
   obtain⟨p,hp⟩:∃p,q.toNat=p+1:=⟨q.toNat-1,by omega⟩
   rw[hp,Nat.add_sub_cancel,Nat.add_mul];omega
  have hup1:∀Q,Q*val m≤val L→Q≤(q-1).toNat:=fun Q hQ=>by
   have:=hlo Q hQ
   omega
  refine ae Ig Ig (ai (v:=bo 1) Ig Ig Ig (cW) (ac Ig Ig (ag (ab (af (aa (ae Ig Ig (ae Ig Ig (ae Ig Ig (ai (r:=I ((k+1:Nat):Int)) Ig Ig Ig (by have e:((k+1:Nat):Int)=((k+2:Nat):Int)-1:=(by omega);rw[e];exact aV (by omega) (by omega)) ?_))))))))))
  obtain⟨a68,p68,q68⟩:=cr Hz (hv.ext (e4.trans xg4)) (i:=(k+1:Nat)) (by omega) .i64
  refine aq Ig Ig Ig (p68 _) (am Ig Ig (aj HB Ig q68) (aN Ig Ig (bt HB HD) ?_))
  refine ai Ig Ig Ig (dm) (ac Ig Ig (ag (ab (af (aa (ae Ig Ig (ai (v:=bo 4294967296) Ig Ig Ig (fW) (ag (ab ?_)))))))))
  refine bi Ig (fun h73=>?_) (fun h73=>?_)
  ·have h73':4294967296≤(r+(m[k+1]'(by omega)).toUInt64).toNat:=qC.1 h73
   have hB:=Cd hu0 b1 hqr1 h73'
   refine ba (oM Ig (aC (aY (ab (af (aa (ae Ig Ig (ac Ig Ig (ag (ab (ay (aD Ig Ig ?_))))))))))))
   first
   |exact⟨_,rfl,(e4.trans xg4),_,rfl,hB,lM tV tU hVl h1 c0 hB hqr1 (.inl h73'),Nat.lt_of_not_le fun h=>absurd (hup1 _ h) (by omega)⟩
   |(have h41':q.toNat<4294967296:=Nat.lt_of_not_le fun h=>h41 (qC.2 h)
     have h61':(q*(m[k]'(by omega)).toUInt64).toNat≤(r<<<UInt64.ofNat 32|||(L[k]'(by omega)).toUInt64).toNat:=Nat.le_of_not_lt fun h=>h61 (xP.2 h)
     have hp:q.toNat*(m[k]'(by omega)).toNat≤4294967295*4294967295:=Nat.mul_le_mul (by omega) (by omega)
     rw[qp r _ hr,sF,eX,Nat.mod_eq_of_lt (by omega)] at h61'
     exact⟨_,rfl,(e4.trans xg4),_,rfl,h41',lM tV tU hVl h1 c0 h41' hqr (.inr h61'),Nat.lt_of_not_le fun h=>absurd (hup _ h) (by omega)⟩)
  ·have h73':(r+(m[k+1]'(by omega)).toUInt64).toNat<4294967296:=Nat.lt_of_not_le fun h=>h73 (qC.2 h)
   refine ax (aM ?_)
   refine cL (q-1) (r+(m[k+1]'(by omega)).toUInt64) ⟨rfl,rfl,rfl,rfl,rfl,trivial⟩ ⟨(e4.trans xg4),hqr1,h73',hup1⟩ (by show(q-1).toNat<q.toNat;omega)
 ·refine bk 21 [0,1,5,7,8,42,60] (by kernel_rfl) (by kernel_rfl) ?_
  refine an Ig Ig (aL (v:=bo 4294967296) Ig Ig Ig (fun w _=>eU h41 fW) (an Ig Ig (bG Ig Ig (an Ig Ig (bG Ig Ig (an Ig Ig ?_))))))
  refine bG Ig Ig (an Ig Ig (bG Ig Ig (aL (r:=I ((k:Nat):Int)) Ig Ig Ig (fun w _=>by have e:((k:Nat):Int)=((k+2:Nat):Int)-2:=(by omega);rw[e];exact aV (by omega) (by omega)) ?_)))
  refine bG Ig Ig ?_
  obtain⟨a47,p47,q47⟩:=cr Hz (hv.ext e4) (i:=(k:Nat)) (by omega) .i64
  refine ar Ig Ig Ig (fun w _=>p47 w) (bG Ig Ig (av Ig Ig (fun w hw=>aj HB Ig (hw.cell_some q47)) (bG Ig Ig ?_)))
  refine cP Ig Ig (fun w _=>bt HB HD) (bG Ig Ig (aL Ig Ig Ig (fun w _=>gD) (bG Ig Ig ?_)))
  refine an Ig Ig (bG Ig Ig (aL (v:=bo 32) Ig Ig Ig (fun w _=>eY 32 (by omega)) (bG Ig Ig (an Ig Ig (bG Ig Ig (an Ig Ig (bG Ig Ig ?_)))))))
  refine aL (r:=I ((k:Nat):Int)) Ig Ig Ig (fun w _=>by have e:((k:Nat):Int)=((k+2:Nat):Int)-2:=(by omega);rw[e];exact aV (by omega) (by omega)) ?_
  refine bG Ig Ig ?_
  obtain⟨a56,p56,q56⟩:=cr Hz (hu.ext e4) (i:=(k:Nat)) (by omega) .i64
  refine ar Ig Ig Ig (fun w _=>p56 w) (bG Ig Ig (av Ig Ig (fun w hw=>aj HB Ig (hw.cell_some q56)) (bG Ig Ig ?_)))
  refine cP Ig Ig (fun w _=>bt HB HD) (bG Ig Ig (aL Ig Ig Ig (fun w _=>gY) (bG Ig Ig ?_)))
  refine aL Ig Ig Ig (fun w _=>cJ) (bn ?_)
  intro wg4 xg4
  rintro _ hq0
  obtain rfl:=Eq.symm hq0
  rintro _ hq1
  obtain rfl:=Eq.symm hq1
  rintro _ rfl
  rintro _ rfl
  rintro _ rfl
  rintro _ rfl
  rintro _ rfl
  refine aJ Ig Ig Ig (ag (ab ?_))
  refine bi Ig (fun h61=>?_) (fun h61=>?_)
  ·refine ax (ab (au (af (aa ?_))))
   have hlo:∀Q,Q*val m≤val L→Q+1≤q.toNat:=by
    intro Q hQ
    first
    |(have h41':4294967296≤q.toNat:=qC.1 h41
      have h2:Q*val m<4294967296*val m:=by omega
      have:=Nat.lt_of_mul_lt_mul_right h2
      omega)
    |(have h41':q.toNat<4294967296:=Nat.lt_of_not_le fun h=>h41 (qC.2 h)
      have h61':=xP.1 h61
      have hp:q.toNat*(m[k]'(by omega)).toNat≤4294967295*4294967295:=Nat.mul_le_mul (by omega) (by omega)
      rw[qp r _ hr,sF,eX,Nat.mod_eq_of_lt (by omega)] at h61'
      have h2:=vA tV tU hUl hqr h61'
      have h3:Q*val m<q.toNat*val m:=by omega
      exact Nat.lt_of_mul_lt_mul_right h3)
   have hq0:=hlo 0 (by simp)
   have hq1:(q-1).toNat=q.toNat-1:=by
    have:=xI q
    rw[ni]
    show(18446744073709551616-1+q.toNat)%18446744073709551616=_
    omega
   have hr1:(r+(m[k+1]'(by omega)).toUInt64).toNat=r.toNat+(m[k+1]'(by omega)).toNat:=by rw[mc,eX];omega
   have hqr1:(q-1).toNat*(m[k+1]'(by omega)).toNat+(r+(m[k+1]'(by omega)).toUInt64).toNat=(L[k+2]'(by omega)).toNat*4294967296+(L[k+1]'(by omega)).toNat:=by
    rw[hq1,hr1,←hqr]
    obtain⟨p,hp⟩:∃p,q.toNat=p+1:=⟨q.toNat-1,by omega⟩
    rw[hp,Nat.add_sub_cancel,Nat.add_mul];omega
   have hup1:∀Q,Q*val m≤val L→Q≤(q-1).toNat:=fun Q hQ=>by
    have:=hlo Q hQ
    omega
   refine ae Ig Ig (ai (v:=bo 1) Ig Ig Ig (cW) (ac Ig Ig (ag (ab (af (aa (ae Ig Ig (ae Ig Ig (ae Ig Ig (ai (r:=I ((k+1:Nat):Int)) Ig Ig Ig (by have e:((k+1:Nat):Int)=((k+2:Nat):Int)-1:=(by omega);rw[e];exact aV (by omega) (by omega)) ?_))))))))))
   obtain⟨a68,p68,q68⟩:=cr Hz (hv.ext (e4.trans xg4)) (i:=(k+1:Nat)) (by omega) .i64
   refine aq Ig Ig Ig (p68 _) (am Ig Ig (aj HB Ig q68) (aN Ig Ig (bt HB HD) ?_))
   refine ai Ig Ig Ig (dm) (ac Ig Ig (ag (ab (af (aa (ae Ig Ig (ai (v:=bo 4294967296) Ig Ig Ig (fW) (ag (ab ?_)))))))))
   refine bi Ig (fun h73=>?_) (fun h73=>?_)
   ·have h73':4294967296≤(r+(m[k+1]'(by omega)).toUInt64).toNat:=qC.1 h73
    have hB:=Cd hu0 b1 hqr1 h73'
    refine ba (oM Ig (aC (aY (ab (af (aa (ae Ig Ig (ac Ig Ig (ag (ab (ay (aD Ig Ig ?_))))))))))))
    first
    |exact⟨_,rfl,(e4.trans xg4),_,rfl,hB,lM tV tU hVl h1 c0 hB hqr1 (.inl h73'),Nat.lt_of_not_le fun h=>absurd (hup1 _ h) (by omega)⟩
    |(have h41':q.toNat<4294967296:=Nat.lt_of_not_le fun h=>h41 (qC.2 h)
      have h61':(q*(m[k]'(by omega)).toUInt64).toNat≤(r<<<UInt64.ofNat 32|||(L[k]'(by omega)).toUInt64).toNat:=Nat.le_of_not_lt fun h=>h61 (xP.2 h)
      have hp:q.toNat*(m[k]'(by omega)).toNat≤4294967295*4294967295:=Nat.mul_le_mul (by omega) (by omega)
      rw[qp r _ hr,sF,eX,Nat.mod_eq_of_lt (by omega)] at h61'
      exact⟨_,rfl,(e4.trans xg4),_,rfl,h41',lM tV tU hVl h1 c0 h41' hqr (.inr h61'),Nat.lt_of_not_le fun h=>absurd (hup _ h) (by omega)⟩)
   ·have h73':(r+(m[k+1]'(by omega)).toUInt64).toNat<4294967296:=Nat.lt_of_not_le fun h=>h73 (qC.2 h)
    refine ax (aM ?_)
    refine cL (q-1) (r+(m[k+1]'(by omega)).toUInt64) ⟨rfl,rfl,rfl,rfl,rfl,trivial⟩ ⟨(e4.trans xg4),hqr1,h73',hup1⟩ (by show(q-1).toNat<q.toNat;omega)
  ·refine ba (aC (aC (aY (ab (af (aa (ae Ig Ig (ac Ig Ig (ag (ab (ay (aD Ig Ig ?_))))))))))))
   first
   |exact⟨_,rfl,(e4.trans xg4),_,rfl,hB,lM tV tU hVl h1 c0 hB hqr1 (.inl h73'),Nat.lt_of_not_le fun h=>absurd (hup1 _ h) (by omega)⟩
   |(have h41':q.toNat<4294967296:=Nat.lt_of_not_le fun h=>h41 (qC.2 h)
     have h61':(q*(m[k]'(by omega)).toUInt64).toNat≤(r<<<UInt64.ofNat 32|||(L[k]'(by omega)).toUInt64).toNat:=Nat.le_of_not_lt fun h=>h61 (xP.2 h)
     have hp:q.toNat*(m[k]'(by omega)).toNat≤4294967295*4294967295:=Nat.mul_le_mul (by omega) (by omega)
     rw[qp r _ hr,sF,eX,Nat.mod_eq_of_lt (by omega)] at h61'
     exact⟨_,rfl,(e4.trans xg4),_,rfl,h41',lM tV tU hVl h1 c0 h41' hqr (.inr h61'),Nat.lt_of_not_le fun h=>absurd (hup _ h) (by omega)⟩)
end Go.Rl
namespace Go.Rl
open Go.RowKit Go.Proofs
theorem Av {w:World} {g:Nat} {pre post:List Value} {L m:List UInt32} {u v:Value} {q:UInt64} (hu:PW g pre L post u w) (hv:bu m v w) (ha:v.ownBlock=none∨v.ownBlock≠some g) (hL:L.length=m.length+1) (hm:m.length≤1099511627776)
 (hq:q.toNat<4294967296) (h1:(q.toNat-1)*val m≤val L) (h2:val L<(q.toNat+1)*val m):
 Calls Tryz.prog 202 #[u,v,bo q] w (bL fun r w'=>∃x F,r=bg x∧w.grownBy w' (some g)∧PW g pre F post u w'∧F.length=L.length∧val L=x.toNat*val m+val F∧val F<val m):=by
 refine enter (vs:=[u,v,bo q]) Tryz.func202 Ig Ig Ig ?_
 refine af (aa (ac Ig Ig (ag (ab (af (aa (ac Ig Ig (ac Ig Ig (ag (ab (af (af (aa (ae Ig Ig (aO Ig Ig (bf Hz hv) ?_)))))))))))))))
 refine ae Ig Ig (ag (ab (au ?_)))
 refine iC (fun(i:Nat) (M:List UInt32) (c:UInt64) (b:UInt64)=>[(0,u),(1,v),(2,bo q),(7,bo c),(8,bo b),(15,v),(16,I (m.length:Int)),(17,I (i:Int))]) (fun(i:Nat) (M:List UInt32) (c:UInt64) (b:UInt64) w'=>w.grownBy w' (some g)∧PW g pre M post u w'∧M.length=L.length∧i≤m.length∧M.drop i=L.drop i∧c.toNat<4294967296∧b.toNat≤1∧val (L.take i)+4294967296^i*(c.toNat+b.toNat)=val (M.take i)+q.toNat*val (m.take i)) (fun(i:Nat) (M:List UInt32) (c:UInt64) (b:UInt64)=>m.length-i) (0) (L) (0) (0) ⟨rfl,rfl,rfl,rfl,rfl,rfl,rfl,rfl,trivial⟩ ⟨dB (aE.refl _),hu,rfl,by simp,rfl,by simp,by simp,by simp[val]⟩ ?_
 rintro i M c b w3 ⟨q3,pM,hM,hi,hMi,hc,hb,hinv⟩
 refine af ?_
 have v3:=hv.away ha q3
 refine aa (ai Ig Ig Ig (bb) (ag (ab (af ?_))))
 refine bi Ig (fun h18=>?_) (fun h18=>?_)
 ·refine ax (ab (af (au (af (aa (ae Ig Ig ?_))))))
  obtain⟨a20,p20,q20⟩:=cr Hz v3 (i:=i) (by omega) .i64
  refine aq Ig Ig Ig (p20 _) (am Ig Ig (aj HB Ig q20) (ac Ig Ig (ac Ig Ig (ag (ab (af (aa (ae Ig Ig ?_))))))))
  refine ae Ig Ig (ae Ig Ig (aN Ig Ig (bt HB HD) (ai Ig Ig Ig (gD) (ai Ig Ig Ig (dm) ?_))))
  refine ac Ig Ig (ag (ab (af (aa (ae Ig Ig (ae Ig Ig ?_))))))
  obtain⟨a30,p30,q30⟩:=cr Hz pM.wds (i:=i) (by omega) .i64
  refine aq Ig Ig Ig (p30 _) (am Ig Ig (aj HB Ig q30) (aN Ig Ig (bt HB HD) ?_))
  refine ae Ig Ig (aN Ig Ig (bV HD HB) (aN Ig Ig (bt HB HD) ?_))
  refine ai Ig Ig Ig (cW) (ae Ig Ig (ai Ig Ig Ig (cW) (ac Ig Ig (ag (ab (af (aa (ae Ig Ig (ae Ig Ig (ae Ig Ig ?_))))))))))
  refine aN Ig Ig (bV HD HB) ?_
  obtain⟨w43,p43,s43,pN,q43,c43⟩:=pM.setP Hz (i:=i) (by omega) ((((((((M[i])).toUInt64)-(((((c)+(((q)*(((m[i])).toUInt64))))).toUInt32).toUInt64)))-(b)))).toUInt32
  refine aq Ig Ig Ig (p43 _) (az Ig Ig (s43) (ag (ab (af (aa (ae Ig Ig (ai Ig Ig Ig (cK 63 (by omega)) (ac Ig Ig (ag ?_)))))))))
  refine ab (aa (ae Ig Ig (ai Ig Ig Ig (cK 32 (by omega)) (ac Ig Ig (ag (aM (ab (aa (ai (r:=I ((i+1:Nat):Int)) Ig Ig Ig (by have e:((i+1:Nat):Int)=(i:Int)+1:=(by omega);rw[e];exact aK (by omega) (by omega)) ?_)))))))))
  refine ae Ig Ig (ag ?_)
  have st:=Ce (L:=L) (v:=m) (M:=M) (i:=i) (q:=q) (c:=c) (b:=b) (by omega) (by omega) hM hq hc hb hMi hinv rfl
  refine fi (i+1) (_) (_) (_) ⟨rfl,rfl,rfl,rfl,rfl,rfl,rfl,rfl,trivial⟩ ⟨q3.trans q43,pN,by simpa using hM,by omega,st.1,st.2.1,st.2.2.1,st.2.2.2⟩ (by omega)
 ·refine ba (aC (aC (aY (ab (af ?_)))))
  obtain rfl:i=m.length:=by omega
  refine aa (ae Ig Ig (ae Ig Ig (aO Ig Ig (bf Hz v3) ?_)))
  obtain⟨a52,p52,q52⟩:=cr Hz pM.wds (i:=m.length) (by omega) .i64
  refine aq Ig Ig Ig (p52 _) (am Ig Ig (aj HB Ig q52) (aN Ig Ig (bt HB HD) ?_))
  refine ae Ig Ig (ai Ig Ig Ig (cW) (ae Ig Ig (ai Ig Ig Ig (cW) (ac Ig Ig (ag (ab (af (aa (ae Ig Ig (ae Ig Ig ?_))))))))))
  refine aO Ig Ig (bf Hz v3) (ae Ig Ig (aN Ig Ig (bV HD HB) ?_))
  obtain⟨w64,p64,s64,pN,q64,c64⟩:=pM.setP Hz (i:=m.length) (by omega) ((((((((M[m.length])).toUInt64)-(c)))-(b)))).toUInt32
  refine aq Ig Ig Ig (p64 _) (az Ig Ig (s64) ?_)
  have v64:=v3.away ha q64
  have tp:=Ev (q:=q) hL hM hc hb hMi hinv rfl
  have h63:=oR ((((((((M[m.length])).toUInt64)-(c)))-(b)))) (s:=63) (by omega)
  simp only[Nat.reducePow] at h63
  have hNl:(M.set m.length ((((((((M[m.length])).toUInt64)-(c)))-(b)))).toUInt32).length=L.length:=by simpa using hM
  have hFl:=cd (M.set m.length ((((((((M[m.length])).toUInt64)-(c)))-(b)))).toUInt32)
  generalize M.set m.length ((((((((M[m.length])).toUInt64)-(c)))-(b)))).toUInt32=N at pN tp hNl hFl
  generalize hX:(((((((M[m.length])).toUInt64)-(c)))-(b)))=X at tp h63
  refine ag (ab (af (af (aa (ae Ig Ig (ai Ig Ig Ig (cK 63 (by omega)) (ai (v:=bo 0) Ig Ig Ig (iN) (ag (ab ?_)))))))))
  refine bi Ig (fun h67=>?_) (fun h67=>?_)
  ·rw[h67] at h63
   rw[←h63] at tp
   refine af (aa (ae Ig Ig (aN Ig Ig (bV HD HB) (ac Ig Ig (ag (ab (ay (aB (aD Ig Ig ?_)))))))))
   exact⟨_,rfl,q.toUInt32,N,rfl,q3.trans q64,pN,hNl,by
    have e:q.toUInt32.toNat=q.toNat:=by rw[jL];omega
    have:=tp.1
    rw[e]
    simp at this
    omega,by
    have:=tp.1
    rw[Nat.add_mul,Nat.one_mul] at h2
    simp at this
    omega⟩
  ·have hs:X.toNat/9223372036854775808=1:=by
    rcases Nat.eq_zero_or_pos (X.toNat/9223372036854775808) with h|h
    ·exact absurd (Ch (h63.trans h)) h67
    ·have:=tp.2
     omega
   rw[hs,Nat.mul_one] at tp
   refine ax (ab (af (aa (ac Ig Ig (ag (ab (af (af (aa (ae Ig Ig (aO Ig Ig (bf Hz v64) (ae Ig Ig ?_))))))))))))
   refine ag (ab (au ?_))
   refine j2 (fun(i:Nat) (K:List UInt32) (d:UInt64)=>[(0,u),(1,v),(2,bo q),(7,bo d),(70,v),(71,I (m.length:Int)),(72,I (i:Int))]) (fun(i:Nat) (K:List UInt32) (d:UInt64) w'=>w.grownBy w' (some g)∧PW g pre K post u w'∧K.length=L.length∧i≤m.length∧K.drop i=N.drop i∧d.toNat≤1∧val (K.take i)+4294967296^i*d.toNat=val (N.take i)+val (m.take i)) (fun(i:Nat) (K:List UInt32) (d:UInt64)=>m.length-i) (0) (N) (0) ⟨rfl,rfl,rfl,rfl,rfl,rfl,rfl,trivial⟩ ⟨q3.trans q64,pN,hNl,by simp,rfl,by simp,by simp[val]⟩ ?_
   rintro i K d w17 ⟨q17,pK,hK,hi,hKi,hd,hinv2⟩
   refine af ?_
   have v17:=hv.away ha q17
   refine aa (ai Ig Ig Ig (bb) (ag (ab (af ?_))))
   refine bi Ig (fun h73=>?_) (fun h73=>?_)
   ·refine ax (ab (af (au (af (aa (ae Ig Ig ?_))))))
    obtain⟨a75,p75,q75⟩:=cr Hz v17 (i:=i) (by omega) .i64
    refine aq Ig Ig Ig (p75 _) (am Ig Ig (aj HB Ig q75) (ac Ig Ig (ac Ig Ig (ag (ab (af (aa (ae Ig Ig ?_))))))))
    refine ae Ig Ig (ae Ig Ig ?_)
    obtain⟨a80,p80,q80⟩:=cr Hz pK.wds (i:=i) (by omega) .i64
    refine aq Ig Ig Ig (p80 _) (am Ig Ig (aj HB Ig q80) (aN Ig Ig (bt HB HD) ?_))
    refine ae Ig Ig (aN Ig Ig (bt HB HD) (ai Ig Ig Ig (dm) (ai Ig Ig Ig (dm) (ac Ig Ig ?_))))
    refine ag (ab (af (aa (ae Ig Ig (ae Ig Ig (ae Ig Ig (aN Ig Ig (bV HD HB) ?_)))))))
    obtain⟨w91,p91,s91,pK',q91,c91⟩:=pK.setP Hz (i:=i) (by omega) ((((d)+(((((K[i])).toUInt64)+(((m[i])).toUInt64)))))).toUInt32
    refine aq Ig Ig Ig (p91 _) (az Ig Ig (s91) (ag (ab (aa (ae Ig Ig (ai Ig Ig Ig (cK 32 (by omega)) (ac Ig Ig (ag (aM ?_)))))))))
    refine ab (aa (ai (r:=I ((i+1:Nat):Int)) Ig Ig Ig (by have e:((i+1:Nat):Int)=(i:Int)+1:=(by omega);rw[e];exact aK (by omega) (by omega)) ?_))
    refine ae Ig Ig (ag ?_)
    have st:=Cf (L:=N) (v:=m) (M:=K) (i:=i) (c:=d) (by omega) (by omega) (by omega) hd hKi hinv2
    refine gj (i+1) (_) (_) ⟨rfl,rfl,rfl,rfl,rfl,rfl,rfl,trivial⟩ ⟨q17.trans q91,pK',by simpa using hK,by omega,st.1,st.2.1,st.2.2⟩ (by omega)
   ·refine ba (aC (aC (aY (ab (af ?_)))))
    obtain rfl:i=m.length:=by omega
    refine aa (ae Ig Ig (ae Ig Ig (aO Ig Ig (bf Hz v17) ?_)))
    obtain⟨a98,p98,q98⟩:=cr Hz pK.wds (i:=m.length) (by omega) .i64
    refine aq Ig Ig Ig (p98 _) (am Ig Ig (aj HB Ig q98) (ae Ig Ig (aN Ig Ig (bV HD HB) ?_)))
    refine ai Ig Ig Ig (bT) ?_
    obtain⟨w103,p103,s103,pK',q103,c103⟩:=pK.setP Hz (i:=m.length) (by omega) (K[m.length]'(by omega)+d.toUInt32)
    refine aq Ig Ig Ig (p103 _) (az Ig Ig (s103) (ag (ab (af (aa (ae Ig Ig (ai (v:=bo 1) Ig Ig Ig (cW) (aN Ig Ig (bV HD HB) ?_))))))))
    refine ac Ig Ig (ag (ab (ay (aD Ig Ig ?_))))
    have rb:=Ci (q:=q.toNat) hL hNl hK hd hKi hinv2 tp.1 h1
    exact⟨_,rfl,(q-1).toUInt32,_,rfl,q17.trans q103,pK',by simpa using hK,by
     have e:(q-1).toUInt32.toNat=q.toNat-1:=by
      have h0:=rb.1
      rw[jL,ni]
      show(18446744073709551616-1+q.toNat)%18446744073709551616%_=_
      omega
     rw[e];exact rb.2.1,rb.2.2⟩
end Go.Rl
namespace Go.Rl
open Go.RowKit Go.Proofs
theorem iD:aw Tryz.prog 182:=⟨_,Tryz.func182,by kernel_rfl,rfl⟩
theorem Aw {U:List UInt32} {i j V:Nat} (h:val U<4294967296^(i+1)*V) (hV:V<4294967296^j) (hi:i+j+1≤U.length):val (U.drop (i+j+1))=0:=by
 rw[dH U (i+j+1) hi] at h
 rcases Nat.eq_zero_or_pos (val (U.drop (i+j+1))) with h0|h0
 ·exact h0
 ·have a:4294967296^(i+1)*V≤4294967296^(i+1)*4294967296^j:=Nat.mul_le_mul_left _ (Nat.le_of_lt hV)
  rw[←Nat.pow_add,show i+1+j=i+j+1 by omega] at a
  have b:4294967296^(i+j+1)*1≤4294967296^(i+j+1)*val (U.drop (i+j+1)):=Nat.mul_le_mul_left _ h0
  omega
theorem Cm {U:List UInt32} {i n:Nat} (h:i+n≤U.length) (h0:val (U.drop (i+n))=0):val U=val (U.take i)+4294967296^i*val ((U.take (i+n)).drop i):=by
 have h1:=dH U (i+n) h
 rw[h0,Nat.mul_zero,Nat.add_zero] at h1
 have h2:=dH (U.take (i+n)) i (by simp;omega)
 rw[List.take_take,Nat.min_eq_left (by omega)] at h2
 rw[h1,h2]
theorem xQ {U F:List UInt32} {i n:Nat} (h:i+n≤U.length) (h0:val (U.drop (i+n))=0):val (U.take i++F++U.drop (i+n))=val (U.take i)+4294967296^i*val F:=by
 rw[dN,dN,h0,List.length_take,Nat.min_eq_left (by omega)];simp
theorem iE {w:World} {l m:List UInt32} {v u:Value} (hv:bu l v w) (hu:bu m u w) (hl:l.length≤549755813888) (hml:m.length≤549755813888) (hm:0<val m):
 Calls Tryz.prog 182 #[v,u] w (bL fun r w'=>aE w w'∧∃q s,r=.tuple #[q,s,I 0]∧bu (lb (val l/val m)) q w'∧bu (lb (val l%val m)) s w'):=by
 refine enter (vs:=[v,u]) Tryz.func182 Ig Ig Ig ?_
 have hll:=gx (cd l)
 have hmm:=gx (cd m)
 have hM0:0<(lb (val m)).length:=by
  rcases Nat.eq_zero_or_pos (lb (val m)).length with h|h
  ·have:=gQ.1 h
   omega
  ·exact h
 refine af (aa (ac Ig Ig (ac Ig Ig (ac Ig Ig (ag (ab (af (aa (ae Ig Ig (ak de Ig Ig (dn hv) ?_))))))))))
 rintro v18 _ ⟨rfl,b18⟩
 refine ae Ig Ig (ak de Ig Ig (dn hu) ?_)
 rintro v20 _ ⟨rfl,b20⟩
 refine ac Ig Ig (ac Ig Ig (ag (ab (af (au (af (aa (ae Ig Ig (aO (r:=I ((lb (val m)).length:Int)) Ig Ig (bf Hz b20) ?_)))))))))
 refine ai Ig Ig Ig (eU (by omega) bJ) (ac Ig Ig (ag (ab (eS Ig (af (aa (ae Ig Ig (ae Ig Ig (ak n0 Ig Ig ((by have:=ob b18 b20;rw[bH,bH] at this;exact this)) ?_)))))))))
 rintro v28 w28 ⟨x28,rfl⟩
 refine ai Ig Ig Ig (bb) (ac Ig Ig (ag (ab ?_)))
 refine bi Ig (fun h25=>?_) (fun h25=>?_)
 ·have hlt:=k9.1 h25
  refine af (aa (ae Ig Ig (ak j6 Ig Ig ((by have:=j7 (b18.ext x28) (by omega);rw[bH] at this;exact this)) ?_)))
  rintro v31 w31 ⟨x31,b31⟩
  refine ac Ig Ig (ac Ig Ig (ac Ig Ig (ag (ab (ay (bh (aB (jX Ig Ig Ig Ig ?_))))))))
  exact⟨_,rfl,(x28.trans x31),_,_,rfl,by rw[Nat.div_eq_of_lt hlt];exact bu.nil _,by rw[Nat.mod_eq_of_lt hlt];exact b31⟩
 ·have hge:val m≤val l:=Nat.le_of_not_lt fun h=>h25 (k9.2 h)
  have hlen:(lb (val m)).length≤(lb (val l)).length:=Nat.le_of_not_lt fun h=>by have:=tT h;omega
  refine af (aa (ae Ig Ig (aO (r:=I ((lb (val m)).length:Int)) Ig Ig (bf Hz (b20.ext x28)) (ai Ig Ig Ig (bJ) ?_))))
  refine ac Ig Ig (ag (ab ?_))
  refine bi Ig (fun h32=>?_) (fun h32=>?_)
  ·refine af (aa (ae Ig Ig (ae Ig Ig ?_)))
   have hM1:val m=((lb (val m))[0]'(by omega)).toNat:=by
    have e:=d6 (l:=lb (val m)) (i:=0) (by omega)
    rw[List.drop_zero,bH,List.drop_of_length_le (by omega)] at e
    simpa [val] using e
   obtain⟨a39,p39,q39⟩:=cr Hz (b20.ext x28) (i:=0) (by omega) .i64
   refine aq Ig Ig Ig (p39 _) (am Ig Ig (aj HB Ig q39) (ak vv Ig Ig ((vy (b18.ext x28) (by omega) (by rw[←hM1];exact hm))) ?_))
   rintro v41 w41 ⟨x41,q,s,rfl,bq,bs⟩
   refine ae Ig Ig (al Ig Ig bw (al Ig Ig bz (ac Ig Ig (ac Ig Ig (ag (ab (af (aa (ae Ig Ig (ae Ig Ig (ac Ig Ig ?_)))))))))))
   refine ac Ig Ig (ac Ig Ig (ag (ab (ay (bh (aB (jX Ig Ig Ig Ig ?_)))))))
   rw[bH,←hM1] at bq bs
   exact⟨_,rfl,(x28.trans x41),_,_,rfl,bq,bs⟩
  ·refine ax (aM (ab (af ?_)))
   obtain⟨k,hk⟩:∃k,(lb (val m)).length=k+2:=⟨(lb (val m)).length-2,by omega⟩
   obtain⟨hs32,hVlen⟩:=Cg hk
   have htop:(lb (val m))[(lb (val m)).length-1]'(by omega)=(lb (val m))[k+1]'(by omega):=by congr 1;omega
   refine aa (ae Ig Ig (ae Ig Ig (aO (r:=I ((lb (val m)).length:Int)) Ig Ig (bf Hz (b20.ext x28)) (ai (r:=I (((lb (val m)).length-1:Nat):Int)) Ig Ig Ig (by have e:(((lb (val m)).length-1:Nat):Int)=((lb (val m)).length:Int)-1:=(by omega);rw[e];exact aV (by omega) (by omega)) ?_))))
   obtain⟨a50,p50,q50⟩:=cr Hz (b20.ext x28) (i:=((lb (val m)).length-1:Nat)) (by omega) .i64
   refine aq Ig Ig Ig (p50 _) (am Ig Ig (aj HB Ig q50) (ak Ad Ig Ig (Ag) ?_))
   rintro v52 _ ⟨rfl,rfl⟩
   rw[htop]
   obtain⟨s,hs⟩:∃s,s=32-bl ((lb (val m))[k+1]'(by omega)).toNat:=⟨_,rfl⟩
   rw[←hs] at hs32 hVlen⊢
   refine ac Ig Ig (ag (ab (af (aa (ae Ig Ig (ae Ig Ig (ak qr Ig Ig (qw (b18.ext x28) (by omega) hs32) ?_)))))))
   rintro v55 w55 ⟨x55,U,oU,hUl,hUv⟩
   refine ae Ig Ig (ae Ig Ig (ak qr Ig Ig (qw (b20.ext (x28.trans x55)) (by omega) hs32) ?_))
   rintro v58 w58 ⟨x58,V,oV,hVl,hVv⟩
   refine ak de Ig Ig (qo oV.wds) ?_
   rintro v59 _ ⟨rfl,b59,ob59⟩
   rw[bH] at hUv hVv
   rw[hVv] at b59
   obtain⟨g,sp,hgb,hgo,pU⟩:=oU.pw (by omega)
   have hV0:0<val m*2^s:=Nat.mul_pos hm (Nat.pow_pos (by omega))
   have hgV:g<w55.heap.size:=pU.lt
   have off1:v59.ownBlock=none∨v59.ownBlock≠some g:=by
    rcases ob59 with h|h
    ·exact .inl h
    ·exact .inr (by rw[h];exact oV.off hgV)
   refine ac Ig Ig (ac Ig Ig (ag (ab (af (aa (ae Ig Ig (aO (r:=I ((lb (val l)).length:Int)) Ig Ig (bf Hz (b18.ext ((x28.trans x55).trans x58))) ?_)))))))
   refine ae Ig Ig (aO (r:=I ((lb (val m)).length:Int)) Ig Ig (bf Hz (b20.ext ((x28.trans x55).trans x58))) (ai (r:=I (((lb (val l)).length-(lb (val m)).length:Nat):Int)) Ig Ig Ig (by have e:(((lb (val l)).length-(lb (val m)).length:Nat):Int)=((lb (val l)).length:Int)-((lb (val m)).length:Int):=(by omega);rw[e];exact aV (by omega) (by omega)) ?_))
   refine ai (r:=I (((((lb (val l)).length-(lb (val m)).length:Nat))+1:Nat):Int)) Ig Ig Ig (by have e:(((((lb (val l)).length-(lb (val m)).length:Nat))+1:Nat):Int)=(((lb (val l)).length-(lb (val m)).length:Nat):Int)+1:=(by omega);rw[e];exact aK (by omega) (by omega)) ?_
   obtain⟨v66,w66,hr66,x66,o66,ob66⟩:=sw Hz (w:=w58) w58.heap.size (n:=(lb (val l)).length-(lb (val m)).length+1) (by omega) (Nat.le_refl _)
   refine fV Ig Ig Ig hr66 (ac Ig Ig (ag (ab (af (af (aa (ae Ig Ig (aO (r:=I (((lb (val l)).length-(lb (val m)).length+1:Nat):Int)) Ig Ig ((by simpa using bf Tryz.underlying44 o66.wds)) ?_))))))))
   refine ai Ig Ig Ig (aV (by omega) (by omega)) (ac Ig Ig (ag (ab (au ?_))))
   refine j2 (fun(j:Nat) (X:List UInt32) (O:List UInt32)=>[(9,I (s:Int)),(10,v55),(11,v59),(12,v66),(13,I ((j:Int)-1))]) (fun(j:Nat) (X:List UInt32) (O:List UInt32) w'=>aE w w'∧PW g [] X sp v55 w'∧dw w58.heap.size O v66 w'∧bu (lb (val m*2^s)) v59 w'∧X.length=(lb (val l)).length+1∧O.length=(lb (val l)).length-(lb (val m)).length+1∧j≤O.length∧val l*2^s=val (O.drop j)*4294967296^j*(val m*2^s)+val X∧val X<4294967296^j*(val m*2^s)) (fun(j:Nat) (X:List UInt32) (O:List UInt32)=>j) ((lb (val l)).length-(lb (val m)).length+1) (U) (List.replicate ((lb (val l)).length-(lb (val m)).length+1) 0) ⟨rfl,rfl,rfl,rfl,rfl,trivial⟩ ⟨(((x28.trans x55).trans x58).trans x66),(pU.ext x58).ext x66,o66,b59.ext x66,hUl,by simp,by simp,by rw[List.drop_of_length_le (by simp)];simp[val,hUv],by
    have h1:=cd (lb (val l))
    have h2:=za hm
    rw[bH] at h1
    rw[hUv,←Nat.mul_assoc]
    refine Nat.mul_lt_mul_of_pos_right ?_ (Nat.pow_pos (by omega))
    have h3:4294967296^(lb (val l)).length=4294967296^((lb (val l)).length-(lb (val m)).length+1)*4294967296^((lb (val m)).length-1):=by
     rw[←Nat.pow_add,show(lb (val l)).length-(lb (val m)).length+1+((lb (val m)).length-1)=(lb (val l)).length by omega]
    rw[h3] at h1
    exact Nat.lt_of_lt_of_le h1 (Nat.mul_le_mul_left _ h2)⟩ ?_
   rintro j X O w13 ⟨e13,pX,oO,f13,hXl,hOl,hj,hA,hX⟩
   refine af (af (aa (ae Ig Ig (ai Ig Ig Ig (gP) (ag (ab ?_))))))
   refine bi Ig (fun h71=>?_) (fun h71=>?_)
   ·obtain⟨i,rfl⟩:∃i,j=i+1:=⟨j-1,by omega⟩
    have e:((i+1:Nat):Int)-1=(i:Int):=by omega
    rw[e]
    have hz:=Aw hX (by have:=cd (lb (val m*2^s));rwa [bH,hVlen] at this) (j:=k+2) (by omega)
    have hXp:=Cm (U:=X) (i:=i) (n:=k+3) (by omega) hz
    refine ax (ab (af (au (af (aa (ae Ig Ig (ae Ig Ig (ae Ig Ig (ae Ig Ig (aO (r:=I ((k+2:Nat):Int)) Ig Ig ((by rw[←hVlen];exact bf Hz f13)) ?_))))))))))
    refine ai (r:=I ((i+(k+2:Nat):Nat):Int)) Ig Ig Ig (by have e:((i+(k+2:Nat):Nat):Int)=(i:Int)+((k+2:Nat):Int):=(by omega);rw[e];exact aK (by omega) (by omega)) ?_
    refine ai (r:=I ((((i+(k+2:Nat):Nat))+1:Nat):Int)) Ig Ig Ig (by have e:((((i+(k+2:Nat):Nat))+1:Nat):Int)=((i+(k+2:Nat):Nat):Int)+1:=(by omega);rw[e];exact aK (by omega) (by omega)) ?_
    obtain⟨v81,p81,pP⟩:=F5 Hz pX (lo:=i) (hi:=i+(k+2)+1) (by omega) (by omega) .i64 .i64
    refine db Ig Ig Ig Ig Ig (p81 _) ?_
    have hPl:((X.take (i+(k+2)+1)).drop i).length=k+3:=by simp;omega
    refine ac Ig Ig (ag (ab (aa (ae Ig Ig (ae Ig Ig (ae Ig Ig (ae Ig Ig (ae Ig Ig (ae Ig Ig (ak Ar Ig Ig (Au pP.wds f13 hVlen hPl (by omega) (tW (by omega)) (by
 rw[bH]
 have h1:4294967296^i*val ((X.take (i+(k+3))).drop i)≤val X:=by rw[hXp];omega
 rw[Nat.pow_succ,Nat.mul_assoc] at hX
 exact Nat.lt_of_mul_lt_mul_left (Nat.lt_of_le_of_lt h1 hX))) ?_))))))))))
    rintro v88 w88 ⟨x88,q,rfl,hqB,hq1,hq2⟩
    refine ak As Ig Ig (Av (pP.ext x88) (f13.ext x88) off1 (by rw[hPl,hVlen]) (by omega) hqB hq1 hq2) ?_
    rintro v89 w89 ⟨x,F,rfl,q89,pF,hFl,hFv,hFr⟩
    have x89:=(e13.trans x88).of_new q89 (by have:=x28.size;omega)
    have o89:=(oO.ext x88).kept q89 (.inr (oO.off (by have:=x58.size;omega)))
    have p89:=pX.join (by omega) (by omega) (by rw[hFl,hPl];omega) pF
    have f89:=(f13.ext x88).away off1 q89
    obtain⟨g90,w90,p90,s90,o90,q90,hb90,c90,ob90⟩:=o89.setW Hz (i:=i) (by omega) x
    refine aq Ig Ig Ig (p90 _) (az Ig Ig (s90) ?_)
    have x90:=x89.of_new q90 (by have:=x28.size;have:=x55.size;have:=x58.size;omega)
    have p90':=p89.kept q90 (fun h=>by have:=Option.some.inj h;have:=x58.size;omega)
    have f90:=f89.away (by
     rcases ob59 with h|h
     ·exact .inl h
     ·refine .inr fun he=>?_
      rw[h] at he
      have:=oV.lt g90 he
      omega) q90
    have hj':=xQ (U:=X) (F:=F) (i:=i) (n:=k+3) (by omega) hz
    rw[bH] at hFv hFr
    have dr:=Aj (A:=val l*2^s) (P:=4294967296^i) (Q:=val (O.drop (i+1))) (V:=val m*2^s) hXp (by have:=cd (X.take i);rwa [List.length_take,Nat.min_eq_left (by omega)] at this) (by rw[←Nat.pow_succ];exact hA) hFv hFr
    rw[←hj',←nj (by omega)] at dr
    refine ag (aM (ab (aa (ae Ig Ig (ai Ig Ig Ig (aV (by omega) (by omega)) (ac Ig Ig (ag ?_)))))))
    refine gj (i) (_) (_) ⟨rfl,rfl,rfl,rfl,rfl,trivial⟩ ⟨x90,p90',o90,f90,by simp[hFl,hPl,hXl];omega,by simpa using hOl,by simp;omega,dr.1,dr.2⟩ (by omega)
   ·refine ba (aC (aC (aY (ab (af ?_)))))
    obtain rfl:j=0:=by omega
    rw[Nat.pow_zero,Nat.mul_one,List.drop_zero] at hA
    rw[Nat.pow_zero,Nat.one_mul] at hX
    have hs0:0<2^s:=Nat.pow_pos (by omega)
    have hQ:val l/val m=val O:=by
     rw[←Nat.mul_div_mul_right _ _ hs0,hA,Nat.mul_comm (val O),Nat.mul_add_div hV0,Nat.div_eq_of_lt hX,Nat.add_zero]
    have hR:val X/2^s=val l%val m:=by
     have e1:val X=val l*2^s%(val m*2^s):=by rw[hA,Nat.mul_comm (val O),Nat.mul_add_mod,Nat.mod_eq_of_lt hX]
     rw[e1,Nat.mul_mod_mul_right,Nat.mul_div_cancel _ hs0]
    refine aa (ae Ig Ig (ae Ig Ig (ak Ac Ig Ig (Ah pX.wds (by omega) (by omega)) ?_)))
    rintro v94 w94 ⟨x94,r94,rfl,b94⟩
    refine ae Ig Ig (al Ig Ig bw (al Ig Ig bz (ac Ig Ig (ac Ig Ig (ag (ab (af (aa (ae Ig Ig (ak de Ig Ig (dn ((oO.ext x94).wds)) ?_))))))))))
    rintro v98 _ ⟨rfl,b98⟩
    refine ae Ig Ig (ac Ig Ig (ac Ig Ig (ac Ig Ig (ag (ab (ay (jX Ig Ig Ig Ig ?_)))))))
    exact⟨_,rfl,(e13.trans x94),_,_,rfl,by rw[hQ];exact b98,by rw[←hR];exact b94⟩
end Go.Rl
namespace Go.Rl
open Go.RowKit Go.Proofs
theorem t0:aw Tryz.prog 166:=⟨_,Tryz.func166,by kernel_rfl,rfl⟩
theorem Ax:aw Tryz.prog 181:=⟨_,Tryz.func181,by kernel_rfl,rfl⟩
theorem lO {n m:Nat} (h:n≤m):(lb n).length≤(lb m).length:=by
 rcases Nat.lt_or_ge (lb m).length (lb n).length with h1|h1
 ·have:=tT h1;omega
 ·exact h1
theorem t4 {w:World} {l m:List UInt32} {v u:Value} (hv:bu l v w) (hu:bu m u w) (hl:l.length≤274877906944) (hml:m.length≤274877906944) (hm:0<val m):
 Calls Tryz.prog 166 #[v,u] w (bL fun r w'=>aE w w'∧∃q s,r=.tuple #[q,s,I 0]∧bu (lb (val l/val m)) q w'∧bu (lb (val l%val m)) s w'):=by
 refine enter (vs:=[v,u]) Tryz.func166 Ig Ig Ig ?_
 refine af (aa (ac Ig Ig (ac Ig Ig (ac Ig Ig (ag (ab (af (aa (ae Ig Ig (ak qz Ig Ig (qB hv (by omega)) ?_))))))))))
 rintro v16 w16 ⟨x16,hcx⟩
 obtain⟨x,bx,rfl,hbx⟩:∃(x:UInt64) (bx:Bool),v16=.tuple #[bo x,B bx]∧(bx=true→x.toNat=val l):=by
  rcases hcx with⟨_,rfl⟩|⟨x,hx,rfl⟩
  ·exact⟨0,false,rfl,fun h=>by cases h⟩
  ·exact⟨x,true,rfl,fun _=>hx⟩
 refine ae Ig Ig (al Ig Ig bw (al Ig Ig (bz) (ac Ig Ig (ac Ig Ig (ag (ab (af (aa (ae Ig Ig (ak qz Ig Ig (qB (hu.ext x16) (by omega)) ?_))))))))))
 rintro v21 w21 ⟨x21,hcy⟩
 obtain⟨y,bY,rfl,hby⟩:∃(y:UInt64) (bY:Bool),v21=.tuple #[bo y,B bY]∧(bY=true→y.toNat=val m):=by
  rcases hcy with⟨_,rfl⟩|⟨y,hy,rfl⟩
  ·exact⟨0,false,rfl,fun h=>by cases h⟩
  ·exact⟨y,true,rfl,fun _=>hy⟩
 refine ae Ig Ig (al Ig Ig bw (al Ig Ig (bz) ?_))
 have hy0:bY=true→¬y=0:=fun h h0=>by
  have:=hby h
  rw[h0] at this
  have e:(0:UInt64).toNat=0:=rfl
  omega
 refine ac Ig Ig (ac Ig Ig (ag (ab (af ?_))))
 refine ff (fun _:Unit=>[(0,v),(1,u),(7,bo x),(8,B bx),(9,bo y),(10,B bY)]) (fun _ w'=>w21=w') ?_ ?_
 ·refine af ?_
  cases bY
  ·refine aa (ae Ig Ig (ae Ig Ig (ap Ig Ig Ig (ap Ig Ig Ig (aJ Ig Ig Ig (ag (ab (eS Ig (ax ?_)))))))))
   exact cA () ⟨rfl,rfl,rfl,rfl,rfl,rfl,trivial⟩ rfl
  ·refine aa (ae Ig Ig (ae Ig Ig (ao Ig (ae Ig Ig (ao Ig (ai (v:=bo 0) Ig Ig Ig (eU (hy0 Ig) iN) (aG Ig Ig Ig (ag ?_))))))))
   refine ab (eS Ig (ax ?_))
   exact cA () ⟨rfl,rfl,rfl,rfl,rfl,rfl,trivial⟩ rfl
 rintro⟨⟩ _ rfl
 refine ab (af ?_)
 refine ff (fun _:Unit=>[(0,v),(1,u)]) (fun _ w'=>w21=w') ?_ ?_
 ·refine af ?_
  rcases bx with _|_<;>rcases bY with _|_
  ·refine aa (ae Ig Ig (ae Ig Ig (ap Ig Ig Ig (aJ Ig Ig Ig (ag (ab (eS Ig (ax ?_))))))))
   exact cA () ⟨rfl,rfl,trivial⟩ rfl
  ·refine aa (ae Ig Ig (ae Ig Ig (ap Ig Ig Ig (aJ Ig Ig Ig (ag (ab (eS Ig (ax ?_))))))))
   exact cA () ⟨rfl,rfl,trivial⟩ rfl
  ·refine aa (ae Ig Ig (ae Ig Ig (ao Ig (ae Ig Ig (aG Ig Ig Ig (ag (ab (eS Ig (ax ?_)))))))))
   exact cA () ⟨rfl,rfl,trivial⟩ rfl
  ·have hx:=hbx rfl
   have hy:=hby rfl
   have hyn:=hy0 rfl
   refine aa (ae Ig Ig (ae Ig Ig (ao Ig (ae Ig Ig (aG Ig Ig Ig (ag (ab (ce Ig (af (bk 10 [4,5] (by kernel_rfl) (by kernel_rfl) ?_))))))))))
   refine an rfl rfl (an rfl rfl (aL rfl rfl rfl (fun w _=>jE hyn) (bM (S:=bu (lb (val l/val m))) vE (bu.stable _) rfl (fun w hw=>by rintro _ rfl;exact bL.mono vF fun v w' h=>⟨h.1,by have:=h.2;rwa [UInt64.toNat_div,hx,hy] at this⟩) ?_)))
   refine an rfl rfl (an rfl rfl (aL rfl rfl rfl (fun w _=>jF hyn) (bM (S:=bu (lb (val l%val m))) vE (bu.stable _) rfl (fun w hw=>by rintro _ rfl;exact bL.mono vF fun v w' h=>⟨h.1,by have:=h.2;rwa [UInt64.toNat_mod,hx,hy] at this⟩) ?_)))
   refine du Ig Ig (du Ig Ig (bn ?_))
   intro wg6 xg6
   intro vg4 b4
   intro vg5 b5
   refine ac Ig Ig (ag (ab (ay (aB (jX Ig Ig Ig Ig ?_)))))
   exact⟨_,rfl,((x16.trans x21).trans xg6),_,_,rfl,b4,b5⟩
 rintro⟨⟩ _ rfl
 refine ab (af (aa (ae Ig Ig (aO Ig Ig (bf Hz (hv.ext (x16.trans x21))) ?_))))
 obtain⟨v43,w43,hr43,x43,o43,ob43⟩:=sw HL (w:=w21) w21.heap.size (n:=l.length) (by omega) (Nat.le_refl _)
 refine fV Ig Ig Ig hr43 ?_
 obtain⟨v44,w44,hr44,x44,o44,ob44⟩:=iA Tryz.underlying44 (w:=w43) w43.heap.size [] (by simp) (Nat.le_refl _)
 refine aH (vs:=[]) Ig Ig hr44 (ac Ig Ig (ac Ig Ig (ag (ab (af (af (aa (ae Ig Ig (ak xN Ig Ig (xO (hv.ext (((x16.trans x21).trans x43).trans x44)) (by omega)) ?_)))))))))
 rintro v46 w46 ⟨x46,rfl⟩
 have hbl:bl (val l)≤32*l.length:=sG (by have:=cd l;rwa [show(4294967296:Nat)^l.length=2^(32*l.length) by rw[Nat.pow_mul]] at this)
 have hb0:val l/2^bl (val l)=0:=by
  rcases Nat.eq_zero_or_pos (val l) with h|h
  ·rw[h];simp
  ·exact Nat.div_eq_of_lt (nk h).2
 refine ai Ig Ig Ig (aV (by omega) (by omega)) (ac Ig Ig (ag (ab (au ?_))))
 refine j2 (fun(j:Nat) (O:List UInt32) (vr:Value)=>[(0,v),(1,u),(11,v43),(12,vr),(13,I ((j:Int)-1))]) (fun(j:Nat) (O:List UInt32) (vr:Value) w'=>aE w w'∧dw w21.heap.size O v43 w'∧O.length=l.length∧bu (lb (val l/2^j%val m)) vr w'∧j≤bl (val l)∧val O=2^j*(val l/2^j/val m)) (fun(j:Nat) (O:List UInt32) (vr:Value)=>j) (bl (val l)) (List.replicate l.length 0) (v44) ⟨rfl,rfl,rfl,rfl,rfl,trivial⟩ ⟨((((x16.trans x21).trans x43).trans x44).trans x46),(o43.ext x44).ext x46,by simp,by rw[hb0,Nat.zero_mod];exact(o44.ext x46).wds,Nat.le_refl _,by rw[hb0];simp[nY]⟩ ?_
 rintro j O vr w9 ⟨e9,oq,hO,br,hj,hq⟩
 refine af (af (aa (ae Ig Ig (ai Ig Ig Ig (gP) (ag (ab ?_))))))
 refine bi Ig (fun h49=>?_) (fun h49=>?_)
 ·obtain⟨i,rfl⟩:∃i,j=i+1:=⟨j-1,by omega⟩
  have e:((i+1:Nat):Int)-1=(i:Int):=by omega
  rw[e]
  have hib:i/32<l.length:=by omega
  have hrl:(lb (val l/2^(i+1)%val m)).length≤m.length:=Nat.le_trans (lO (Nat.le_of_lt (Nat.mod_lt _ hm))) (gx (cd m))
  obtain⟨rd1,rd2,rd3⟩:=xM (N:=val l) (i:=i) hm
  refine ax (ab (af (au (af (aa (ae Ig Ig ?_))))))
  have hVl:=cd m
  have hxl:=Nat.mod_lt (val l/2^(i+1)) hm
  have h2l:∀b,b≤1→(lb (2*(val l/2^(i+1)%val m)+b)).length≤m.length+1:=fun b hb=>gx (by have e:(4294967296:Nat)^(m.length+1)=4294967296^m.length*4294967296:=Nat.pow_succ ..;rw[e];have:=G3 m.length;omega)
  refine ak An Ig Ig (Aq (k:=1) br (by omega) (by omega)) ?_
  rintro v53 w53 ⟨x53,b53⟩
  refine ac Ig Ig (ag (ab (af (aa (ae Ig Ig (ae Ig Ig (ae Ig Ig (ai (r:=I ((i/32:Nat):Int)) Ig Ig Ig (by have e:((i/32:Nat):Int)=(i:Int)/32:=(by omega);rw[e];exact mZ (by omega) (by omega) (by omega)) ?_))))))))
  obtain⟨a58,p58,q58⟩:=cr Hz (hv.ext (e9.trans x53)) (i:=(i/32:Nat)) (by omega) .i64
  refine aq Ig Ig Ig (p58 _) (am Ig Ig (aj HB Ig q58) (ae Ig Ig (ai (r:=I ((i%32:Nat):Int)) Ig Ig Ig (by have e:((i%32:Nat):Int)=(i:Int)%32:=(by omega);rw[e];exact lG (by omega) (by omega)) ?_)))
  refine ai Ig Ig Ig (ck ((i%32:Nat)) (by omega)) (ai (v:=bg 1) Ig Ig Ig (eq) ?_)
  obtain⟨v64,w64,hr64,x64,o64,ob64⟩:=iA Tryz.underlying44 (w:=w53) w53.heap.size [((((((l[(i/32:Nat)]))>>>UInt32.ofNat ((i%32:Nat))))&&&(1)))] (by simp) (Nat.le_refl _)
  refine aH (vs:=[(0,bg (((((((l[(i/32:Nat)]))>>>UInt32.ofNat ((i%32:Nat))))&&&(1)))))]) Ig Ig hr64 (ak Al Ig Ig (Ao (b53.ext x64) o64.wds (by rw[bH,Nat.pow_one,Nat.mul_comm];have:=h2l 0 (by omega);rw[Nat.add_zero] at this;omega) (by simp)) ?_)
  rintro v65 w65 ⟨x65,b65⟩
  rw[bH,bH,j5,F7 hib,Nat.pow_one,Nat.mul_comm] at b65
  have x6:=(x53.trans x64).trans x65
  refine ac Ig Ig (ag (ab (af (aa (ae Ig Ig (ae Ig Ig (ak sM Ig Ig (sO b65 (hu.ext (((e9.trans x53).trans x64).trans x65))) ?_)))))))
  rintro v68 _ ⟨rfl,rfl⟩
  refine ai Ig Ig Ig (gP) (ag (ab ?_))
  refine bi Ig (fun h69=>?_) (fun h69=>?_)
  ·have hle:val m≤val (lb (2*(val l/2^(i+1)%val m)+val l/2^i%2)):=Nat.le_of_not_lt fun h=>by have:=k9.2 h;omega
   refine af (aa (ae Ig Ig (ae Ig Ig (ak Am Ig Ig (Ap b65 (hu.ext (((e9.trans x53).trans x64).trans x65)) (by have:=h2l (val l/2^i%2) (by omega);omega) hle) ?_))))
   rintro v73 w73 ⟨x73,d73,rfl,b73⟩
   rw[bH] at b73 hle
   obtain⟨rm,rq⟩:=rd2 hle
   rw[←rm] at b73
   have oq73:=(oq.ext x6).ext x73
   obtain⟨g85,_,p85,_,_,_,_,_,ob85⟩:=oq73.setW HL (i:=i/32) (by omega) (O[i/32]'(by omega)|||(1:UInt32)<<<UInt32.ofNat (i%32))
   refine ae Ig Ig (al Ig Ig (bw) (al Ig Ig bz (ac Ig Ig (ag (ab (bk 10 [0,1,11,12,13,84,85] (by kernel_rfl) (by kernel_rfl) ?_))))))
   refine an Ig Ig (an Ig Ig (aL (r:=I ((i/32:Nat):Int)) Ig Ig Ig (fun w _=>by have e:((i/32:Nat):Int)=(i:Int)/32:=(by omega);rw[e];exact mZ (by omega) (by omega) (by omega)) ?_))
   obtain⟨a79,p79,q79⟩:=cr HL oq73.wds (i:=(i/32:Nat)) (by omega) .i64
   refine ar Ig Ig Ig (fun w _=>p79 w) (av Ig Ig (fun w hw=>aj HB Ig (hw.cell_some q79)) (an Ig Ig (aL (r:=I ((i%32:Nat):Int)) Ig Ig Ig (fun w _=>by have e:((i%32:Nat):Int)=(i:Int)%32:=(by omega);rw[e];exact lG (by omega) (by omega)) ?_)))
   refine aL (u:=bg 1) Ig Ig Ig (fun w _=>dY ((i%32:Nat)) (by omega)) (aL Ig Ig Ig (fun w _=>er) (ar Ig Ig Ig (fun w hw=>p85 w) ?_))
   refine bn ?_
   intro wg15 xg15
   rintro _ hq0
   obtain rfl:=Eq.symm hq0
   rintro _ hq1
   obtain rfl:=Eq.symm hq1
   rintro _ hq11
   obtain rfl:=Eq.symm hq11
   rintro _ hq12
   obtain rfl:=Eq.symm hq12
   rintro _ rfl
   rintro _ rfl
   rintro _ rfl
   obtain⟨g',w',p',s',o',q',hb',c',ob'⟩:=(oq73.ext xg15).setW HL (i:=i/32) (by omega) (O[i/32]'(by omega)|||(1:UInt32)<<<UInt32.ofNat (i%32))
   obtain rfl:g85=g':=Option.some.inj (ob85.symm.trans ob')
   refine az Ig Ig (s') ?_
   have x15:=(((e9.trans x6).trans x73).trans xg15).of_new q' (by have:=x16.size;have:=x21.size;omega)
   have sb:=F8 (a:=O) (i:=i) (by omega) hq
   have br':=((b73.ext xg15).kept q' (.inr (b73.off (by have:=oq.lt _ ob85;have:=x6.size;omega)))).wds
   refine ag (aM (ab (aa (ae Ig Ig (ai Ig Ig Ig (aV (by omega) (by omega)) (ac Ig Ig (ag ?_)))))))
   refine gj (i) (_) (d73) ⟨rfl,rfl,rfl,rfl,rfl,trivial⟩ ⟨x15,o',by simpa using hO,br',by omega,by rw[sb,hq,rq,Nat.pow_succ,Nat.mul_assoc,Nat.mul_add,Nat.mul_one]⟩ (by omega)
  ·have hlt:2*(val l/2^(i+1)%val m)+val l/2^i%2<val m:=by
    rcases Nat.lt_or_ge (2*(val l/2^(i+1)%val m)+val l/2^i%2) (val m) with h|h
    ·exact h
    ·refine absurd ?_ h69
     rw[bH]
     have:¬nZ (2*(val l/2^(i+1)%val m)+val l/2^i%2) (val m)<0:=fun h'=>by have:=k9.1 h';omega
     omega
   obtain⟨rm,rq⟩:=rd3 hlt
   rw[←rm] at b65
   refine ax (aM (ab (aa (ae Ig Ig (ai Ig Ig Ig (aV (by omega) (by omega)) (ac Ig Ig (ag ?_)))))))
   refine gj (i) (O) (v65) ⟨rfl,rfl,rfl,rfl,rfl,trivial⟩ ⟨(((e9.trans x53).trans x64).trans x65),oq.ext x6,hO,b65,by omega,by rw[hq,rq,Nat.pow_succ,Nat.mul_assoc]⟩ (by omega)
 ·refine ba (aC (aC (aY (ab (af ?_)))))
  obtain rfl:j=0:=by omega
  rw[Nat.pow_zero,Nat.div_one,Nat.one_mul] at hq
  rw[Nat.pow_zero,Nat.div_one] at br
  refine aa (ae Ig Ig (ak eO Ig Ig (fj oq.wds (by omega)) ?_))
  rintro v87 w87 ⟨x87,b87⟩
  refine ae Ig Ig (ac Ig Ig (ac Ig Ig (ac Ig Ig (ag (ab (ay (jX Ig Ig Ig Ig ?_)))))))
  exact⟨_,rfl,(e9.trans x87),_,_,rfl,by rw[←hq];exact b87,br.ext x87⟩
theorem GL {w:World} {l m:List UInt32} {v u:Value} (hv:bu l v w) (hu:bu m u w) (hl:l.length≤274877906944) (hml:m.length≤274877906944):
 Calls Tryz.prog 165 #[v,u] w (bL fun r w'=>aE w w'∧bu (lb (Nat.gcd (val l) (val m))) r w'):=by
 refine enter (vs:=[v,u]) Tryz.func165 Ig Ig Ig ?_
 have hll:=gx (cd l)
 have hmm:=gx (cd m)
 refine af (aa (ac Ig Ig (ag (ab (af (aa (ae Ig Ig (ak eO Ig Ig (fj hv (by omega)) ?_))))))))
 rintro v9 w9 ⟨x9,b9⟩
 refine ae Ig Ig (ak eO Ig Ig (fj (hu.ext x9) (by omega)) ?_)
 rintro v11 w11 ⟨x11,b11⟩
 refine ac Ig Ig (ac Ig Ig (ag (ab (af (au ?_)))))
 refine iC (fun(a:Nat) (b:Nat) (va:Value) (vb:Value)=>[(0,va),(1,vb)]) (fun(a:Nat) (b:Nat) (va:Value) (vb:Value) w'=>aE w w'∧bu (lb a) va w'∧bu (lb b) vb w'∧Nat.gcd a b=Nat.gcd (val l) (val m)∧(lb a).length≤274877906944∧(lb b).length≤274877906944) (fun(a:Nat) (b:Nat) (va:Value) (vb:Value)=>b) (val l) (val m) (v9) (v11) ⟨rfl,rfl,trivial⟩ ⟨(x9.trans x11),b9.ext x11,b11,rfl,by omega,by omega⟩ ?_
 rintro a b va vb w2 ⟨e2,ha,hb,hg,hla,hlb⟩
 refine af (af (aa (ae Ig Ig (aO (r:=I ((lb b).length:Int)) Ig Ig (bf Hz hb) (ai Ig Ig Ig (cB) ?_)))))
 refine ag (ab ?_)
 refine bi Ig (fun h14=>?_) (fun h14=>?_)
 ·have hb0:0<b:=by
   rcases Nat.eq_zero_or_pos b with h|h
   ·subst h;simp[fv] at h14
   ·exact h
  refine ax (ab (au (af (aa (ae Ig Ig (ae Ig Ig (ak t0 Ig Ig (t4 ha hb (by omega) (by omega) (by rw[bH];exact hb0)) ?_)))))))
  rintro v18 w18 ⟨x18,q,r,rfl,bq,br⟩
  rw[bH,bH] at br
  refine ae Ig Ig (al Ig Ig et (al Ig Ig (eu) (al Ig Ig ew (ac Ig Ig (ac Ig Ig (ac Ig Ig (ag (ab ?_))))))))
  refine aa (ae Ig Ig (ae Ig Ig (ac Ig Ig (ac Ig Ig (ag (aM ?_))))))
  refine fi (b) (a%b) (vb) (r) ⟨rfl,rfl,trivial⟩ ⟨(e2.trans x18),hb.ext x18,br,by rw[←hg,Nat.gcd_comm b,←Nat.gcd_rec,Nat.gcd_comm],hlb,Nat.le_trans (lO (Nat.le_of_lt (Nat.mod_lt a hb0))) hlb⟩ (Nat.mod_lt a hb0)
 ·refine ba (aC (aC (aY (ab (af (aa (ae Ig Ig (ac Ig Ig (ag (ab (ay (aD Ig Ig ?_))))))))))))
  exact⟨_,rfl,e2,by
   have hb0:b=0:=by
    refine gQ.1 ?_
    omega
   rw[←hg,hb0,Nat.gcd_zero_right];exact ha⟩
theorem Ay {w:World} {l m:List UInt32} {v u:Value} (hv:bu l v w) (hu:bu m u w) (hl:l.length≤274877906944) (hml:m.length≤274877906944):
 Calls Tryz.prog 181 #[v,u] w (bL fun r w'=>aE w w'∧bu (lb (Nat.gcd (val l) (val m))) r w'):=by
 refine enter (vs:=[v,u]) Tryz.func181 Ig Ig Ig ?_
 have hll:=gx (cd l)
 have hmm:=gx (cd m)
 refine af (aa (ac Ig Ig (ag (ab (af (aa (ae Ig Ig (ak de Ig Ig (dn hv) ?_))))))))
 rintro v16 _ ⟨rfl,b16⟩
 refine ae Ig Ig (ak de Ig Ig (dn hu) ?_)
 rintro v18 _ ⟨rfl,b18⟩
 refine ac Ig Ig (ac Ig Ig (ag (ab (af (au ?_)))))
 refine iC (fun(a:Nat) (b:Nat) (va:Value) (vb:Value)=>[(0,va),(1,vb)]) (fun(a:Nat) (b:Nat) (va:Value) (vb:Value) w'=>aE w w'∧bu (lb a) va w'∧bu (lb b) vb w'∧Nat.gcd a b=Nat.gcd (val l) (val m)∧(lb a).length≤274877906944∧(lb b).length≤274877906944) (fun(a:Nat) (b:Nat) (va:Value) (vb:Value)=>b) (val l) (val m) (v16) (v18) ⟨rfl,rfl,trivial⟩ ⟨aE.refl _,b16,b18,rfl,by omega,by omega⟩ ?_
 rintro a b va vb w2 ⟨e2,ha,hb,hg,hla,hlb⟩
 refine af (af (aa (ae Ig Ig (aO (r:=I ((lb b).length:Int)) Ig Ig (bf Hz hb) (ai Ig Ig Ig (cB) ?_)))))
 refine ag (ab ?_)
 refine bi Ig (fun h21=>?_) (fun h21=>?_)
 ·have hb0:0<b:=by
   rcases Nat.eq_zero_or_pos b with h|h
   ·subst h;simp[fv] at h21
   ·exact h
  refine ax (ab (au (af (aa (ae Ig Ig (ae Ig Ig (ak iD Ig Ig (iE ha hb (by omega) (by omega) (by rw[bH];exact hb0)) ?_)))))))
  rintro v25 w25 ⟨x25,q,r,rfl,bq,br⟩
  rw[bH,bH] at br
  refine ae Ig Ig (al Ig Ig et (al Ig Ig (eu) (al Ig Ig ew (ac Ig Ig (ac Ig Ig (ac Ig Ig (ag (ab ?_))))))))
  refine aa (ae Ig Ig (ae Ig Ig (ac Ig Ig (ac Ig Ig (ag (aM ?_))))))
  refine fi (b) (a%b) (vb) (r) ⟨rfl,rfl,trivial⟩ ⟨(e2.trans x25),hb.ext x25,br,by rw[←hg,Nat.gcd_comm b,←Nat.gcd_rec,Nat.gcd_comm],hlb,Nat.le_trans (lO (Nat.le_of_lt (Nat.mod_lt a hb0))) hlb⟩ (Nat.mod_lt a hb0)
 ·refine ba (aC (aC (aY (ab (af (af (aa (ae Ig Ig (aO (r:=I ((lb b).length:Int)) Ig Ig (bf Hz hb) ?_)))))))))
  refine ai Ig Ig Ig (bJ) (ag (ab ?_))
  refine bi Ig (fun h33=>?_) (fun h33=>?_)
  ·have hb0:b=0:=by
    refine gQ.1 ?_
    omega
   refine af (aa (ae Ig Ig (ak j6 Ig Ig (j7 ha (by omega)) ?_)))
   rintro v35 w35 ⟨x35,b35⟩
   refine ac Ig Ig (ag (ab (ay (aB (aD Ig Ig ?_)))))
   exact⟨_,rfl,(e2.trans x35),by
    rw[bH] at b35
    rw[←hg,hb0,Nat.gcd_zero_right];exact b35⟩
  ·have hb0:0<b:=by
    rcases Nat.eq_zero_or_pos b with h|h
    ·subst h;simp[fv] at h33
    ·exact h
   have hb64:b<18446744073709551616:=by
    have:=cd (lb b)
    rw[bH] at this
    have h2:(4294967296:Nat)^(lb b).length≤4294967296^2:=Nat.pow_le_pow_right (by omega) (by omega)
    omega
   refine ax (ab (af (aa (ae Ig Ig (ae Ig Ig (ak iD Ig Ig (iE ha hb (by omega) (by omega) (by rw[bH];exact hb0)) ?_))))))
   rintro v39 w39 ⟨x39,q,r,rfl,bq,br⟩
   rw[bH,bH] at br
   refine ae Ig Ig (al Ig Ig et (al Ig Ig (eu) (al Ig Ig ew (ac Ig Ig (ac Ig Ig (ac Ig Ig (ag (ab ?_))))))))
   refine af (aa (ae Ig Ig (ak qn Ig Ig (qu (hb.ext x39)) ?_)))
   rintro v45 _ ⟨rfl,hcx⟩
   obtain⟨x,hx,rfl⟩:∃x:UInt64,x.toNat=b∧v45=.tuple #[bo x,B true]:=by
    rw[bH] at hcx
    rcases hcx with⟨h,_⟩|h
    ·omega
    ·exact h
   refine ae Ig Ig (al Ig Ig bw (al Ig Ig bz (ac Ig Ig (ac Ig Ig (ag (ab (af (aa (ae Ig Ig (ak qn Ig Ig (qu br) ?_))))))))))
   rintro v50 _ ⟨rfl,hcy⟩
   obtain⟨y,hy,rfl⟩:∃y:UInt64,y.toNat=a%b∧v50=.tuple #[bo y,B true]:=by
    have:=Nat.mod_lt a hb0
    rw[bH] at hcy
    rcases hcy with⟨h,_⟩|h
    ·omega
    ·exact h
   refine ae Ig Ig (al Ig Ig bw (al Ig Ig bz (ac Ig Ig (ac Ig Ig (ag (ab (af (au ?_))))))))
   refine d5 (fun(x':UInt64) (y':UInt64)=>[(11,bo x'),(13,bo y')]) (fun(x':UInt64) (y':UInt64) w'=>aE w w'∧Nat.gcd x'.toNat y'.toNat=Nat.gcd (val l) (val m)) (fun(x':UInt64) (y':UInt64)=>y'.toNat) (x) (y) ⟨rfl,rfl,trivial⟩ ⟨(e2.trans x39),by rw[hx,hy,←hg,Nat.gcd_comm b,←Nat.gcd_rec,Nat.gcd_comm]⟩ ?_
   rintro x' y' w10 ⟨e10,hxy⟩
   refine af (af (aa (ae Ig Ig (ai (v:=bo 0) Ig Ig Ig (cJ) (ag (ab ?_))))))
   refine bi Ig (fun h54=>?_) (fun h54=>?_)
   ·have hy0:0<y'.toNat:=xP.1 h54
    have hyn:y'≠0:=fun h=>by
     rw[h] at hy0
     exact absurd hy0 (by decide)
    refine ax (ab (au (bk 5 [11,58] (by kernel_rfl) (by kernel_rfl) ?_)))
    refine an Ig Ig (an Ig Ig (an Ig Ig (aL Ig Ig Ig (fun w _=>jF hyn) (du Ig Ig (bn ?_)))))
    intro wg11 xg11
    rintro _ rfl
    rintro _ rfl
    refine ac Ig Ig (ag (aM ?_))
    refine cL (y') (x'%y') ⟨rfl,rfl,trivial⟩ ⟨(e10.trans xg11),by rw[UInt64.toNat_mod,←hxy,Nat.gcd_comm y'.toNat,←Nat.gcd_rec,Nat.gcd_comm]⟩ (by rw[UInt64.toNat_mod];exact Nat.mod_lt _ hy0)
   ·have hy0:y'.toNat=0:=by
     have:=mt xP.2 h54
     have e:(0:UInt64).toNat=0:=rfl
     omega
    refine ba (aC (aC (aY (ab (af (aa (ae Ig Ig (ak vj Ig Ig (vn) ?_))))))))
    rintro v60 w60 ⟨x60,b60⟩
    refine ac Ig Ig (ag (ab (ay (aD Ig Ig ?_))))
    exact⟨_,rfl,(e10.trans x60),by rw[←hxy,hy0,Nat.gcd_zero_right];exact b60⟩
end Go.Rl
namespace Go.Rl
def Cn:Nat→Nat→List UInt8
 |0,n=>[UInt8.ofNat n]
 |f+1,n=>if 128≤n then UInt8.ofNat (n%128+128)::Cn f (n/128) else[UInt8.ofNat n]
def uv (n:Nat):List UInt8:=Cn n n
theorem Co:∀(f g n:Nat),n≤f→n≤g→Cn f n=Cn g n
 |0,0,n,_,_=>rfl
 |0,g+1,n,h,_=>by
  obtain rfl:n=0:=by omega
  simp[Cn]
 |f+1,0,n,_,h=>by
  obtain rfl:n=0:=by omega
  simp[Cn]
 |f+1,g+1,n,hf,hg=>by
  simp only[Cn]
  by_cases h:128≤n
  ·rw[if_pos h,if_pos h,Co f g (n/128) (by omega) (by omega)]
  ·rw[if_neg h,if_neg h]
theorem oc {n:Nat} (h:128≤n):uv n=UInt8.ofNat (n%128+128)::uv (n/128):=by
 unfold uv
 cases n with
 |zero=>omega
 |succ m=>
  have e:Cn (m+1) (m+1)=if 128≤m+1 then UInt8.ofNat ((m+1)%128+128)::Cn m ((m+1)/128) else[UInt8.ofNat (m+1)]:=rfl
  rw[e,if_pos h,Co m ((m+1)/128) ((m+1)/128) (by omega) (by omega)]
theorem i9 {n:Nat} (h:n<128):uv n=[UInt8.ofNat n]:=by
 unfold uv
 cases n with
 |zero=>rfl
 |succ m=>
  have e:Cn (m+1) (m+1)=if 128≤m+1 then UInt8.ofNat ((m+1)%128+128)::Cn m ((m+1)/128) else[UInt8.ofNat (m+1)]:=rfl
  rw[e,if_neg (by omega)]
theorem Fv:∀(k n:Nat),n<128^(k+1)→(uv n).length≤k+1
 |0,n,h=>by rw[i9 (by simpa using h)];simp
 |k+1,n,h=>by
  by_cases h1:128≤n
  ·rw[oc h1]
   have:=Fv k (n/128) (by rw[Nat.div_lt_iff_lt_mul (by omega)];rw[Nat.pow_succ] at h;exact h)
   simp;omega
  ·rw[i9 (by omega)];simp
theorem dO {n:Nat} (h:n<18446744073709551616):(uv n).length≤10:=Fv 9 n (Nat.lt_of_lt_of_le h (by decide))
theorem t5 (n:Nat):1≤(uv n).length:=by
 by_cases h:128≤n
 ·rw[oc h];simp
 ·rw[i9 (by omega)];simp
theorem Az (n:UInt64):n.toUInt8|||128=UInt8.ofNat (n.toNat%128+128):=by
 apply UInt8.toNat_inj.1
 have h:∀a:Nat,a<256→a|||128=a%128+128:=by decide+kernel
 rw[UInt8.toNat_or,UInt8.toNat_ofNat',UInt64.toNat_toUInt8]
 have:=h (n.toNat%256) (by omega)
 show n.toNat%256|||128=_
 rw[this];omega
theorem vG (n:UInt64):n.toUInt8=UInt8.ofNat n.toNat:=by
 apply UInt8.toNat_inj.1
 rw[UInt8.toNat_ofNat',UInt64.toNat_toUInt8]
theorem Cp (m:UInt64):(m%128+128).toUInt8=UInt8.ofNat (m.toNat%128+128):=by
 apply UInt8.toNat_inj.1
 rw[UInt64.toNat_toUInt8,UInt8.toNat_ofNat',UInt64.toNat_add,UInt64.toNat_mod]
 have e1:(128:UInt64).toNat=128:=rfl
 rw[e1];omega
theorem G6 (n:UInt64):(n>>>UInt64.ofNat 7).toNat=n.toNat/128:=by
 rw[UInt64.toNat_shiftRight,Nat.shiftRight_eq_div_pow]
 rfl
end Go.Rl
namespace Go.Rl
def nl:Nat→Nat→List UInt8→Option (Nat×List UInt8)
 |0,_,_=>none
 |_+1,_,[]=>none
 |f+1,k,c::l=>
  if (k=9∧1<c.toNat)∨(0<k∧c.toNat=0) then none
  else if c.toNat<128 then some (c.toNat*128^k,l)
  else(nl f (k+1) l).map fun p=>(p.1+(c.toNat%128)*128^k,p.2)
def dX (l:List UInt8):Option (Nat×List UInt8):=nl 10 0 l
theorem Cq (f k:Nat):nl f k []=none:=by cases f<;>rfl
theorem qE (n:Nat) (h:n<256):(UInt8.ofNat n).toNat=n:=by rw[UInt8.toNat_ofNat'];omega
theorem zj:∀(f k n:Nat) (t:List UInt8),f+k=10→n<128^f→(k≤9→n*128^k<18446744073709551616)→0<f→(0<k→0<n)→
 nl f k (uv n++t)=some (n*128^k,t)
 |0,_,_,_,_,_,_,h,_=>by omega
 |f+1,k,n,t,hfk,hn,h64,_,hk0=>by
  by_cases hb:128≤n
  ·rw[oc hb,List.cons_append]
   have e1:(UInt8.ofNat (n%128+128)).toNat=n%128+128:=qE _ (by omega)
   have hk9:k≠9:=fun hk=>by
    subst hk
    have:f=0:=by omega
    subst this
    simp at hn
    omega
   have hf:0<f:=by omega
   simp only[nl,e1]
   rw[if_neg (by omega),if_neg (by omega)]
   have hlt:n/128<128^f:=by rw[Nat.div_lt_iff_lt_mul (by omega)];rw[Nat.pow_succ] at hn;exact hn
   have hp:128^(k+1)=128^k*128:=Nat.pow_succ ..
   have hm:n/128*128≤n:=Nat.div_mul_le_self n 128
   have hle:n/128*128^(k+1)≤n*128^k:=by
    rw[hp,Nat.mul_comm (128^k) 128,←Nat.mul_assoc]
    exact Nat.mul_le_mul_right _ hm
   rw[zj f (k+1) (n/128) t (by omega) hlt (fun _=>Nat.lt_of_le_of_lt hle (h64 (by omega))) hf (fun _=>by omega)]
   simp only[Option.map_some,Option.some.injEq,Prod.mk.injEq,and_true]
   have e2:(n%128+128)%128=n%128:=by omega
   rw[e2,hp,Nat.mul_comm (128^k) 128,←Nat.mul_assoc,←Nat.add_mul]
   congr 1
   omega
  ·rw[i9 (by omega),List.cons_append]
   have e1:(UInt8.ofNat n).toNat=n:=qE _ (by omega)
   simp only[nl,e1,List.nil_append]
   have hk9:¬(k=9∧1<n):=fun⟨hk,hn1⟩=>by
    subst hk
    have:=h64 (by omega)
    have e:(128:Nat)^9=9223372036854775808:=by decide
    rw[e] at this
    omega
   rw[if_neg (by intro h;rcases h with h|h;exact hk9 h;have:=hk0 h.1;omega),if_pos (by omega)]
theorem ja {n:Nat} (h:n<18446744073709551616) (t:List UInt8):dX (uv n++t)=some (n,t):=by
 have:=zj 10 0 n t rfl (Nat.lt_of_lt_of_le h (by decide)) (by simpa using h) (by omega) (by omega)
 simpa [dX] using this
theorem vH:∀(f k:Nat) (l t:List UInt8) (m:Nat),f+k=10→nl f k l=some (m,t)→∃n,m=n*128^k∧l=uv n++t∧(0<k→0<n)∧n*128^k<18446744073709551616
 |0,_,_,_,_,_,h=>by cases h
 |f+1,k,[],_,_,_,h=>by cases h
 |f+1,k,c::l,t,m,hfk,h=>by
  simp only[nl] at h
  have hc:=c.toNat_lt
  split at h
  ·cases h
  ·rename_i hno
   split at h
   ·rename_i hlt
    simp only[Option.some.injEq,Prod.mk.injEq] at h
    refine⟨c.toNat,h.1.symm,?_,fun hk=>by omega,?_⟩
    ·rw[i9 hlt,←h.2]
     simp
    ·have hk:k≤9:=by omega
     rcases Nat.lt_or_ge k 9 with h9|h9
     ·have:c.toNat*128^k≤127*128^8:=Nat.mul_le_mul (by omega) (Nat.pow_le_pow_right (by omega) (by omega))
      have e:127*128^8<18446744073709551616:=by decide
      omega
     ·have:k=9:=by omega
      subst this
      have e:(128:Nat)^9=9223372036854775808:=by decide
      rw[e];omega
   ·rename_i hge
    cases hr:nl f (k+1) l with
    |none=>rw[hr] at h;cases h
    |some p=>
     rw[hr] at h
     simp only[Option.map_some,Option.some.injEq,Prod.mk.injEq] at h
     obtain⟨n,h1,h2,h3,h4⟩:=vH f (k+1) l p.2 p.1 (by omega) (by rw[hr])
     have hn:0<n:=h3 (by omega)
     have hp:128^(k+1)=128*128^k:=by rw[Nat.pow_succ,Nat.mul_comm]
     have hdiv:(n*128+c.toNat%128)/128=n:=by omega
     have hmod:(n*128+c.toNat%128)%128+128=c.toNat:=by omega
     refine⟨n*128+c.toNat%128,?_,?_,fun _=>by omega,?_⟩
     ·rw[←h.1,h1,hp,Nat.add_mul,←Nat.mul_assoc]
     ·rw[oc (by omega),hdiv,hmod,List.cons_append,←h.2,←h2]
      simp
     ·have hk:k+1≤9:=by
       rcases Nat.lt_or_ge f 1 with hf|hf
       ·have:f=0:=by omega
        subst this
        cases hr
       ·omega
      have hb:n*128^(k+1)=n*128*128^k:=by rw[hp,←Nat.mul_assoc]
      rw[hb] at h4
      have hdvd:18446744073709551616=128^k*(18446744073709551616/128^k):=by
       have:k=0∨k=1∨k=2∨k=3∨k=4∨k=5∨k=6∨k=7∨k=8:=by omega
       rcases this with rfl|rfl|rfl|rfl|rfl|rfl|rfl|rfl|rfl<;>decide
      have hq:18446744073709551616/128^k=128*(18446744073709551616/128^k/128):=by
       have:k=0∨k=1∨k=2∨k=3∨k=4∨k=5∨k=6∨k=7∨k=8:=by omega
       rcases this with rfl|rfl|rfl|rfl|rfl|rfl|rfl|rfl|rfl<;>decide
      have hpos:0<128^k:=Nat.pow_pos (by omega)
      rw[hdvd,Nat.mul_comm] at h4
      have h5:n*128<18446744073709551616/128^k:=Nat.lt_of_mul_lt_mul_left h4
      rw[hdvd,Nat.mul_comm]
      exact Nat.mul_lt_mul_of_pos_left (by omega) hpos
theorem fH {l t:List UInt8} {n:Nat} (h:dX l=some (n,t)):l=uv n++t∧n<18446744073709551616:=by
 obtain⟨m,h1,h2,_,h4⟩:=vH 10 0 l t n rfl h
 simp at h1 h4
 subst h1
 exact⟨h2,h4⟩
theorem Ey {acc:UInt64} {c:UInt8} {k:Nat} (ha:acc.toNat<128^k) (hk:k≤9) (h9:k=9→c.toNat%128≤1):
 (acc|||((c&&&127).toUInt64<<<UInt64.ofNat (7*k))).toNat=acc.toNat+(c.toNat%128)*128^k:=by
 have hpow:2^(7*k)=128^k:=by rw[Nat.pow_mul]
 have e1:(c&&&127).toUInt64.toNat=c.toNat%128:=by
  rw[UInt8.toNat_toUInt64,UInt8.toNat_and]
  exact Nat.and_two_pow_sub_one_eq_mod c.toNat 7
 have hlt:(c.toNat%128)*128^k<18446744073709551616:=by
  rcases Nat.lt_or_ge k 9 with h|h
  ·have h1:(c.toNat%128)*128^k≤127*128^8:=Nat.mul_le_mul (by omega) (Nat.pow_le_pow_right (by omega) (by omega))
   have e:127*128^8<18446744073709551616:=by decide
   omega
  ·have h':k=9:=by omega
   subst h'
   have:=h9 rfl
   have e:(128:Nat)^9=9223372036854775808:=by decide
   rw[e];omega
 have e2:((c&&&127).toUInt64<<<UInt64.ofNat (7*k)).toNat=(c.toNat%128)<<<(7*k):=by
  rw[UInt64.toNat_shiftLeft,e1]
  have:(UInt64.ofNat (7*k)).toNat%64=7*k:=by rw[UInt64.toNat_ofNat'];omega
  rw[this,Nat.shiftLeft_eq,hpow]
  exact Nat.mod_eq_of_lt hlt
 rw[UInt64.toNat_or,e2,Nat.or_comm,←Nat.shiftLeft_add_eq_or_of_lt (by rw[hpow];exact ha),Nat.shiftLeft_eq,hpow]
 omega
end Go.Rl
namespace Go.Rl
def Cr (n:Int):Nat:=if 0≤n then(2*n).toNat else(-2*n-1).toNat
theorem la (n:Int):(UInt64.ofInt n).toNat=(n%18446744073709551616).toNat:=by
 have h2:(2:Int)^64=18446744073709551616:=by decide
 rw[UInt64.ofInt,h2,UInt64.toNat_ofNat'];omega
theorem Cs {n:Int} (h1: -9223372036854775808≤n) (h2:n≤9223372036854775807):
 ((UInt64.ofInt n<<<UInt64.ofNat 1)^^^UInt64.ofInt (n/2^63)).toNat=Cr n:=by
 have e0:(2:Int)^63=9223372036854775808:=by decide
 have es:(UInt64.ofInt n<<<UInt64.ofNat 1).toNat=(UInt64.ofInt n).toNat*2%18446744073709551616:=by
  rw[UInt64.toNat_shiftLeft,Nat.shiftLeft_eq];rfl
 rw[la] at es
 unfold Cr
 by_cases hn:0≤n
 ·have hq:n/2^63=0:=by rw[e0];omega
  have hz:UInt64.ofInt (n/2^63)=0:=by rw[hq];rfl
  rw[hz,UInt64.xor_zero,es,if_pos hn];omega
 ·have hq:n/2^63= -1:=by rw[e0];omega
  have hz:UInt64.ofInt (n/2^63)= -1:=by rw[hq];rfl
  rw[hz,if_neg hn]
  have hx:∀a:UInt64,a^^^(-1)= ~~~a:=fun a=>by
   apply UInt64.toBitVec_inj.1
   rw[UInt64.toBitVec_xor,UInt64.toBitVec_not]
   have:(-1:UInt64).toBitVec=BitVec.allOnes 64:=by decide
   rw[this,BitVec.xor_allOnes]
  rw[hx,UInt64.toNat_not,es]
  have:UInt64.size=18446744073709551616:=rfl
  omega
theorem vI {n:Int} (hn:0≤n) (h2:n≤9223372036854775807):(2*UInt64.ofInt n).toNat=Cr n:=by
 rw[UInt64.toNat_mul,la]
 unfold Cr
 rw[if_pos hn]
 have:(2:UInt64).toNat=2:=rfl
 rw[this];omega
theorem vJ {n:Int} (h1: -9223372036854775808≤n) (hn:n<0):(2*UInt64.ofInt (-(n+1))+1).toNat=Cr n:=by
 rw[UInt64.toNat_add,UInt64.toNat_mul,la]
 unfold Cr
 rw[if_neg (by omega)]
 have e2:(2:UInt64).toNat=2:=rfl
 have e1:(1:UInt64).toNat=1:=rfl
 rw[e1,e2];omega
theorem Ct {n:Int} (h1: -9223372036854775808≤n) (h2:n≤9223372036854775807):Cr n<18446744073709551616:=by
 unfold Cr;split<;>omega
end Go.Rl
namespace Go.Rl
open Go.RowKit Go.Proofs
theorem jb:aw Tryz.prog 55:=⟨_,Tryz.func55,by kernel_rfl,rfl⟩
theorem j9:aw Tryz.prog 100:=⟨_,Tryz.func100,by kernel_rfl,rfl⟩
theorem ip:aw Tryz.prog 101:=⟨_,Tryz.func101,by kernel_rfl,rfl⟩
theorem qG:aw Tryz.prog 102:=⟨_,Tryz.func102,by kernel_rfl,rfl⟩
theorem dJ:aw Tryz.prog 61:=⟨_,Tryz.func61,by kernel_rfl,rfl⟩
theorem fI:aw Tryz.prog 79:=⟨_,Tryz.func79,by kernel_rfl,rfl⟩
theorem jc {w:World} {l:List UInt8} {v:Value} (hv:bQ l v w) (hl:l.length≤140737488355328):
 Calls Tryz.prog 55 #[v] w (bL fun r w'=>aE w w'∧bZ w.heap.size l r w'):=by
 obtain⟨A,n,c,rfl,hnc,hcm,hll,hc,hnone⟩:=id hv
 refine enter (vs:=[.slice A n c]) Tryz.func55 Ig Ig Ig ?_
 refine af (aa (ac Ig Ig (ag (ab (af (af (aa (ae Ig Ig ?_))))))))
 refine ai Ig Ig Ig (y3 HF) ?_
 refine ag (ab ?_)
 refine iW Ig (fun h=>?_) (fun h=>?_)
 ·refine af (aa (ac Ig Ig (ag (ab (ay (aB ?_))))))
  refine aD Ig Ig ?_
  have hA:A=none:=by simpa using h
  have:=hnone hA
  have hnil:l=[]:=List.eq_nil_of_length_eq_zero (by simp at hll;omega)
  subst hnil
  exact⟨_,rfl,aE.refl _,bZ.nil _ _⟩
 ·refine ax (ab (af (aa ?_)))
  obtain⟨r5,w5,hr5,hx5,ho5,hb5⟩:=ej (w:=w) w.heap.size [] (by simp) (Nat.le_refl _)
  refine aH Ig Ig hr5 ?_
  refine ae Ig Ig ?_
  obtain⟨r7,w7,hr7,ho7,hg7⟩:=dc (ty:=22) ho5 (hv.ext hx5) (by simpa using hl) hx5.size
  refine aZ Ig Ig hr7 ?_
  refine ac Ig Ig (ag (ab (ay ?_)))
  refine aD Ig Ig ?_
  exact⟨_,rfl,hx5.of_grew hg7 ho5.ge,ho7⟩
theorem ki {w:World} {base:Nat} {l:List UInt8} {v:Value} {n:UInt64} (hv:bZ base l v w) (hl:l.length≤70368744177664) (hbase:base≤w.heap.size):
 Calls Tryz.prog 100 #[v,bo n] w (bL fun r w'=>bZ base (l++uv n.toNat) r w'∧fh w w' v r):=by
 refine enter (vs:=[v,bo n]) Tryz.func100 Ig Ig Ig ?_
 refine af (aa (ac Ig Ig (ag (ab (af (au ?_))))))
 refine ci (α:=Value×UInt64×List UInt8) (fun x=>[(0,x.1),(1,bo x.2.1)]) (fun x w'=>bZ base x.2.2 x.1 w'∧fh w w' v x.1∧x.2.2++uv x.2.1.toNat=l++uv n.toNat) (fun x=>x.2.1.toNat) (v,n,l) ⟨rfl,rfl,trivial⟩ ⟨hv,fh.of_ext (aE.refl w) (.inl Ig),rfl⟩ ?_
 rintro⟨b,m,done⟩ w1 ⟨hb,hg,he⟩
 dsimp only at hb hg he
 have hdl:done.length≤l.length+10:=by
  have:=congrArg List.length he
  simp only[List.length_append] at this
  have:=dO (n:=n.toNat) n.toNat_lt
  omega
 have hb1:base≤w1.heap.size:=Nat.le_trans hbase hg.grown.size
 refine af (af (aa (ae Ig Ig ?_)))
 refine ai (v:=bo 128) Ig Ig Ig (fW) ?_
 refine ag (ab ?_)
 refine bi Ig (fun h=>?_) (fun h=>?_)
 ·have h':128≤m.toNat:=by simpa [UInt64.le_iff_toNat_le] using h
  refine ax (ab (af (au (aa (ae Ig Ig (ae Ig Ig ?_))))))
  refine aN Ig Ig (jH HD HH) ?_
  refine ai (v:=U8 128) Ig Ig Ig (El) ?_
  obtain⟨r2,w2,hr2,hx2,ho2,_⟩:=ej (w:=w1) w1.heap.size [m.toUInt8|||128] (by simp) (Nat.le_refl _)
  refine aH Ig Ig hr2 ?_
  obtain⟨r3,w3,hr3,ho3,hg3⟩:=dc (ty:=22) (hb.ext hx2) ho2.bts (by simp;omega) (Nat.le_trans hb1 hx2.size)
  refine aZ Ig Ig hr3 ?_
  refine ac Ig Ig (ag (aM (ab (aa (ae Ig Ig ?_)))))
  refine ai Ig Ig Ig (cK 7 (by omega)) ?_
  refine ac Ig Ig (ag ?_)
  refine bP (r3,m>>>UInt64.ofNat 7,done++[m.toUInt8|||128]) ⟨rfl,rfl,trivial⟩ ⟨ho3,hg.trans (fh.before hx2 hg3),?_⟩ ?_
  ·show done++[m.toUInt8|||128]++uv (m>>>UInt64.ofNat 7).toNat=_
   rw[←he,oc h',Az,G6];simp
  ·show(m>>>UInt64.ofNat 7).toNat<m.toNat
   rw[G6];omega
 ·have h':m.toNat<128:=by
   have:¬(128≤m.toNat):=fun hh=>h (by show(128:UInt64)≤m;rw[UInt64.le_iff_toNat_le];exact hh)
   omega
  refine ba (aC (aC (aY (ab (af (aa (ae Ig Ig (ae Ig Ig ?_))))))))
  refine aN Ig Ig (jH HD HH) ?_
  obtain⟨r2,w2,hr2,hx2,ho2,_⟩:=ej (w:=w1) w1.heap.size [m.toUInt8] (by simp) (Nat.le_refl _)
  refine aH Ig Ig hr2 ?_
  obtain⟨r3,w3,hr3,ho3,hg3⟩:=dc (ty:=22) (hb.ext hx2) ho2.bts (by simp;omega) (Nat.le_trans hb1 hx2.size)
  refine aZ Ig Ig hr3 ?_
  refine ac Ig Ig (ag (ab (ay ?_)))
  refine aD Ig Ig ?_
  refine⟨_,rfl,?_,hg.trans (fh.before hx2 hg3)⟩
  rw[←he,i9 h',←vG]
  exact ho3
theorem iq {w:World} {l:List UInt8} {v:Value} {n:UInt64} (hv:bQ l v w) (hl:l.length≤70368744177664):
 Calls Tryz.prog 101 #[v,bo n] w (bL fun r w'=>aE w w'∧bZ w.heap.size (l++uv n.toNat) r w'):=by
 refine enter (vs:=[v,bo n]) Tryz.func101 Ig Ig Ig ?_
 refine af (aa (ac Ig Ig (ag (ab (af (aa (ae Ig Ig ?_)))))))
 refine ak jb Ig Ig (jc hv (by omega)) ?_
 rintro r1 w1 ⟨hx1,ho1⟩
 refine ae Ig Ig ?_
 refine ak j9 Ig Ig (ki ho1 hl hx1.size) ?_
 rintro r2 w2 ⟨ho2,hg2⟩
 refine ac Ig Ig (ag (ab (ay ?_)))
 refine aD Ig Ig ?_
 exact⟨_,rfl,hx1.of_grew hg2 ho1.ge,ho2⟩
theorem qH {w:World} {l:List UInt8} {v:Value} {n:Int} (hv:bQ l v w) (hl:l.length≤70368744177664) (h1: -9223372036854775808≤n) (h2:n≤9223372036854775807):
 Calls Tryz.prog 102 #[v,I n] w (bL fun r w'=>aE w w'∧bZ w.heap.size (l++uv (Cr n)) r w'):=by
 refine enter (vs:=[v,I n]) Tryz.func102 Ig Ig Ig ?_
 refine af (aa (ac Ig Ig (ag (ab (af (aa (ae Ig Ig ?_)))))))
 refine ak jb Ig Ig (jc hv (by omega)) ?_
 rintro r1 w1 ⟨hx1,ho1⟩
 refine ae Ig Ig ?_
 refine aN Ig Ig (pB HE HD) ?_
 refine ai Ig Ig Ig (eY 1 (by omega)) ?_
 refine ae Ig Ig ?_
 refine ai Ig Ig Ig (Ek 63 (by omega)) ?_
 refine aN Ig Ig (pB HE HD) ?_
 refine ai Ig Ig Ig (z3) ?_
 refine ak j9 Ig Ig (ki ho1 hl hx1.size) ?_
 rintro r2 w2 ⟨ho2,hg2⟩
 refine ac Ig Ig (ag (ab (ay ?_)))
 refine aD Ig Ig ?_
 rw[Cs h1 h2] at ho2
 exact⟨_,rfl,hx1.of_grew hg2 ho1.ge,ho2⟩
theorem dK {w:World} {l:List UInt8} {v:Value} {n:UInt64} (hv:bQ l v w) (hl:l.length≤70368744177664):
 Calls Tryz.prog 61 #[v,bo n] w (bL fun r w'=>aE w w'∧bZ w.heap.size (l++uv n.toNat) r w'):=by
 refine enter (vs:=[v,bo n]) Tryz.func61 Ig Ig Ig ?_
 refine af (aa (ac Ig Ig (ag (ab (af (aa ?_))))))
 obtain⟨r0,w0,hr0,hx0,ho0,_⟩:=ej (w:=w) w.heap.size [] (by simp) (Nat.le_refl _)
 refine aH Ig Ig hr0 ?_
 refine ae Ig Ig ?_
 obtain⟨r1,w1,hr1,ho1,hg1⟩:=dc (ty:=22) ho0 (hv.ext hx0) (by simp;omega) hx0.size
 refine aZ Ig Ig hr1 ?_
 have hx1:aE w w1:=hx0.of_grew hg1 ho0.ge
 refine ac Ig Ig (ag (ab (af (au ?_))))
 refine ci (α:=Value×UInt64×List UInt8) (fun x=>[(5,x.1),(1,bo x.2.1)]) (fun x w'=>bZ w.heap.size x.2.2 x.1 w'∧aE w w'∧x.2.2++uv x.2.1.toNat=l++uv n.toNat) (fun x=>x.2.1.toNat) (r1,n,l) ⟨rfl,rfl,trivial⟩ ⟨ho1,hx1,rfl⟩ ?_
 rintro⟨b,m,done⟩ w2 ⟨hb,hx2,he⟩
 dsimp only at hb hx2 he
 have hdl:done.length≤l.length+10:=by
  have:=congrArg List.length he
  simp only[List.length_append] at this
  have:=dO (n:=n.toNat) n.toNat_lt
  omega
 refine af (af (aa (ae Ig Ig ?_)))
 refine ai (v:=bo 128) Ig Ig Ig (fW) ?_
 refine ag (ab ?_)
 refine bi Ig (fun h=>?_) (fun h=>?_)
 ·have h':128≤m.toNat:=by simpa [UInt64.le_iff_toNat_le] using h
  refine ax (ab (au (af (aa (ae Ig Ig (ae Ig Ig ?_))))))
  refine ai (v:=bo 128) Ig Ig Ig (jF (by decide)) ?_
  refine ai (v:=bo 128) Ig Ig Ig (dm) ?_
  refine aN Ig Ig (jH HD HH) ?_
  obtain⟨r3,w3,hr3,hx3,ho3,_⟩:=ej (w:=w2) w2.heap.size [(m%128+128).toUInt8] (by simp) (Nat.le_refl _)
  refine aH Ig Ig hr3 ?_
  obtain⟨r4,w4,hr4,ho4,hg4⟩:=dc (ty:=22) (hb.ext hx3) ho3.bts (by simp;omega) (Nat.le_trans hx2.size hx3.size)
  refine aZ Ig Ig hr4 ?_
  refine ac Ig Ig (ag (ab (aa (ae Ig Ig ?_))))
  refine ai (v:=bo 128) Ig Ig Ig (jE (by decide)) ?_
  refine ac Ig Ig (ag (aM ?_))
  have hm:(m/128).toNat=m.toNat/128:=by rw[UInt64.toNat_div];rfl
  refine bP (r4,m/128,done++[(m%128+128).toUInt8]) ⟨rfl,rfl,trivial⟩ ⟨ho4,(hx2.trans hx3).of_grew hg4 hb.ge,?_⟩ ?_
  ·show done++[(m%128+128).toUInt8]++uv (m/128).toNat=_
   rw[←he,oc h',hm,Cp];simp
  ·show(m/128).toNat<m.toNat
   rw[hm];omega
 ·have h':m.toNat<128:=by
   have:¬(128≤m.toNat):=fun hh=>h (by show(128:UInt64)≤m;rw[UInt64.le_iff_toNat_le];exact hh)
   omega
  refine ba (aC (aC (aY (ab (af (aa (ae Ig Ig (ae Ig Ig ?_))))))))
  refine aN Ig Ig (jH HD HH) ?_
  obtain⟨r3,w3,hr3,hx3,ho3,_⟩:=ej (w:=w2) w2.heap.size [m.toUInt8] (by simp) (Nat.le_refl _)
  refine aH Ig Ig hr3 ?_
  obtain⟨r4,w4,hr4,ho4,hg4⟩:=dc (ty:=22) (hb.ext hx3) ho3.bts (by simp;omega) (Nat.le_trans hx2.size hx3.size)
  refine aZ Ig Ig hr4 ?_
  refine ac Ig Ig (ag (ab (ay ?_)))
  refine aD Ig Ig ?_
  refine⟨_,rfl,(hx2.trans hx3).of_grew hg4 hb.ge,?_⟩
  rw[←he,i9 h',←vG]
  exact ho4
theorem fJ {w:World} {l:List UInt8} {v:Value} {n:Int} (hv:bQ l v w) (hl:l.length≤70368744177664) (h1: -9223372036854775808≤n) (h2:n≤9223372036854775807):
 Calls Tryz.prog 79 #[v,I n] w (bL fun r w'=>aE w w'∧bZ w.heap.size (l++uv (Cr n)) r w'):=by
 refine enter (vs:=[v,I n]) Tryz.func79 Ig Ig Ig ?_
 refine af (aa (ac Ig Ig (ag (ab (af (af (aa (ae Ig Ig ?_))))))))
 refine ai Ig Ig Ig (gP) ?_
 refine ag (ab ?_)
 refine bi Ig (fun h=>?_) (fun h=>?_)
 ·refine af (aa (ae Ig Ig (ae Ig Ig ?_)))
  refine aN Ig Ig (pB HE HD) ?_
  refine ai (u:=bo 2) Ig Ig Ig (gD) ?_
  refine ak dJ Ig Ig (dK hv hl) ?_
  rintro r3 w3 ⟨hx3,ho3⟩
  refine ac Ig Ig (ag (ab (ay (aB ?_))))
  refine aD Ig Ig ?_
  rw[vI h h2] at ho3
  exact⟨_,rfl,hx3,ho3⟩
 ·refine ax (ab (af (aa (ae Ig Ig (ae Ig Ig ?_)))))
  refine ai Ig Ig Ig (aK (by omega) (by omega)) ?_
  refine cx Ig Ig (tK (by omega) (by omega)) ?_
  refine aN Ig Ig (pB HE HD) ?_
  refine ai (u:=bo 2) Ig Ig Ig (gD) ?_
  refine ai (v:=bo 1) Ig Ig Ig (dm) ?_
  refine ak dJ Ig Ig (dK hv hl) ?_
  rintro r3 w3 ⟨hx3,ho3⟩
  refine ac Ig Ig (ag (ab (ay ?_)))
  refine aD Ig Ig ?_
  rw[vJ h1 (by omega)] at ho3
  exact⟨_,rfl,hx3,ho3⟩
end Go.Rl
namespace Go.Rl
open Go.RowKit Go.Proofs
theorem vK:aw Tryz.prog 88:=⟨_,Tryz.func88,by kernel_rfl,rfl⟩
theorem gG:aw Tryz.prog 157:=⟨_,Tryz.func157,by kernel_rfl,rfl⟩
theorem gH:aw Tryz.prog 125:=⟨_,Tryz.func125,by kernel_rfl,rfl⟩
theorem jv:aw Tryz.prog 124:=⟨_,Tryz.func124,by kernel_rfl,rfl⟩
theorem fX:aw Tryz.prog 89:=⟨_,Tryz.func89,by kernel_rfl,rfl⟩
theorem vL:(Tryz.prog.info? 204).map (·.zero)=some (some (.agg #[.slice none 0 0,.bool false])):=by kernel_rfl
theorem cl:(Tryz.prog.info? 22).map (·.size)=some 1:=by kernel_rfl
theorem gI:(Tryz.prog.info? 4).map (·.size)=some 1:=by kernel_rfl
def rS (A:Option Addr) (g:Nat):Prop:=∀ad,A=some ad→ad.block<g
theorem rS.none (g:Nat):rS none g:=fun _ h=>by cases h
theorem vM {A:Option Addr} {n c:Nat} {lo hi mx:Option Value} {r:Value} {w w':World} (hrun:(Instr.sliceAt 22 (.slice A n c) lo hi mx).run Tryz.prog w=.ok r w'):∃A' n' c',r=.slice A' n' c'∧∀g,rS A g→rS A' g:=by
 simp only[Instr.sliceAt,Instr.slice,Sem.run_bind,run_underlying Tryz.underlying22,Result.andThen_ok] at hrun
 cases hb:(Instr.sliceBounds true n c lo hi mx).run Tryz.prog w with
 |halt x w1=>rw[hb] at hrun;simp[Result.andThen] at hrun
 |ok p w1=>
  obtain⟨l,h,m⟩:=p
  rw[hb] at hrun
  simp only[Result.andThen_ok,dy fu] at hrun
  simp at hrun
  obtain⟨rfl,rfl⟩:=hrun
  refine⟨_,_,_,rfl,fun g hg=>?_⟩
  split
  ·exact hg
  ·intro ad had
   cases A with
   |none=>cases had
   |some a0=>
    obtain rfl:=Option.some.inj had
    show(a0.add _).block<g
    rw[iL]
    exact hg a0 rfl
def aP (g:Nat) (st:Option (List UInt8)) (w:World):Prop:=
 ∃A n c,w.heap[g]? =some (.cells #[.slice A n c,.bool st.isNone] 204 (0,0))∧bQ (st.getD []) (.slice A n c) w∧rS A g
theorem aP.ext {g:Nat} {st:Option (List UInt8)} {w w':World} (h:aP g st w) (hx:aE w w'):aP g st w':=by
 obtain⟨A,n,c,h1,h2,h3⟩:=h
 exact⟨A,n,c,hx.heap_some h1,h2.ext hx,h3⟩
theorem sP (A:Option Addr) (n c:Nat) (b:Bool) (l:List UInt8):∀(j:Nat) (u:Value),u∈l.map U8→(#[.slice A n c,.bool b]:Array Value)[j]? ≠some u:=by
 intro j u hu
 obtain⟨x,_,rfl⟩:=List.mem_map.1 hu
 match j with
 |0=>simp[U8]
 |1=>simp[U8]
 |j+2=>simp
theorem bQ.reader {l:List UInt8} {v:Value} {g:Nat} {st:Option (List UInt8)} {w w':World} (h:bQ l v w) (hr:aP g st w) (hw:w.grownBy w' (some g)):bQ l v w':=by
 obtain⟨A,n,c,h1,_⟩:=hr
 exact Sl.keep h h1 (sP A n c _ l) hw
section
variable {w:World} {g:Nat} {l:List UInt8}
theorem di {w':World} {row:Option Nat} (h:aE w w'):w.grownBy w' row:=⟨h.os,h.tape,h.output,h.size,fun _ hi _=>h.heap hi⟩
theorem kj (w:World) (row:Option Nat):w.grownBy w row:=World.grownBy.refl w row
theorem vN {v:Value} (hv:bQ l v w) (hl:l.length≤140737488355328):
 Calls Tryz.prog 88 #[v] w (bL fun r w'=>aE w w'∧∃g,w.heap.size≤g∧r=.pointer (some ⟨g,0,none⟩)∧aP g (some l) w'):=by
 refine enter (vs:=[v]) Tryz.func88 Ig Ig Ig ?_
 refine af (aa (ac Ig Ig (ag (ab (af (aa (ae Ig Ig ?_)))))))
 refine ak jb Ig Ig (jc hv hl) ?_
 rintro r1 w1 ⟨hx1,ho1⟩
 obtain⟨A,n,c,rfl,_⟩:=id ho1.bts
 refine bA Ig Ig (r:=.agg #[.slice A n c,.bool false]) (by simp[Instr.build,run_underlying Tryz.underlying204,qj vL,dy cl,dy gI,Instr.fill,Value.cells]) ?_
 refine cI Ig Ig m4 ?_
 refine ac Ig Ig (ag (ab (ay ?_)))
 refine aD Ig Ig ?_
 exact⟨_,rfl,hx1.trans (aE.new _ _),w1.heap.size,hx1.size,rfl,A,n,c,heap_alloc_new _ _,ho1.bts.ext (aE.new _ _),fun ad had=>ho1.elim fun _ h=>(World.ownsRow.lt h ad.block (by rw[had];rfl)).2⟩
theorem gJ {st:Option (List UInt8)} (hr:aP g st w):
 Calls Tryz.prog 125 #[.pointer (some ⟨g,0,none⟩)] w (bL fun r w'=>r=I 5∧aP g none w'∧w.grownBy w' (some g)):=by
 obtain⟨A,n,c,h1,_⟩:=hr
 refine enter (vs:=[.pointer (some ⟨g,0,none⟩)]) Tryz.func125 Ig Ig Ig ?_
 refine af (aa (ac Ig Ig (ag (ab (af (aa (ae Ig Ig (ae Ig Ig ?_))))))))
 refine aQ Ig Ig ?_
 refine ah Ig Ig (bK HU Ig cl (by omega)) ?_
 refine az Ig Ig (dv cl Ig h1 (by simp)) ?_
 refine aQ Ig Ig ?_
 refine ah Ig Ig (bK HU Ig gI (by omega)) ?_
 have h2:=iY h1 0 (.slice none 0 0)
 refine az Ig Ig (dv (i:=1) gI Ig h2 (by simp)) ?_
 have h3:=iY h2 1 (.bool true)
 refine ag (ab (af (aa (ac Ig Ig (ag (ab (ay ?_)))))))
 refine aD Ig Ig ?_
 exact⟨_,rfl,rfl,⟨none,0,0,h3,bQ.nil _,rS.none g⟩,(aS w g 0 _).trans (aS _ g 1 _)⟩
theorem oS {n:UInt64} (hr:aP g none w):
 Calls Tryz.prog 157 #[.pointer (some ⟨g,0,none⟩),bo n] w (bL fun r w'=>r=.tuple #[.slice none 0 0,B false]∧w'=w):=by
 obtain⟨A,m,c,h1,_⟩:=hr
 refine enter (vs:=[.pointer (some ⟨g,0,none⟩),bo n]) Tryz.func157 Ig Ig Ig ?_
 refine af (aa (ac Ig Ig (ac Ig Ig (ag (ab (af (af (aa (ae Ig Ig ?_)))))))))
 refine aQ Ig Ig ?_
 refine ah Ig Ig (bK HU Ig gI (by omega)) ?_
 refine am Ig Ig (aj HO Ig (gE (i:=1) h1 Ig)) ?_
 refine ae Ig Ig ?_
 refine ap Ig Ig Ig ?_
 refine ap Ig Ig Ig ?_
 refine ap Ig Ig Ig ?_
 refine ap Ig Ig Ig ?_
 refine ap Ig Ig Ig ?_
 refine ap Ig Ig Ig ?_
 refine ap Ig Ig Ig ?_
 refine ap Ig Ig Ig ?_
 refine aG Ig Ig Ig ?_
 refine ag (ab ?_)
 refine ce Ig ?_
 refine af (aa (ac Ig Ig (ac Ig Ig (ag (ab (ay (aB ?_)))))))
 refine aW Ig Ig Ig ?_
 exact⟨_,rfl,rfl,rfl⟩
theorem zk (h:l.length≤9223372036854775807):(UInt64.ofNat l.length).toNat=l.length:=by rw[UInt64.toNat_ofNat'];omega
theorem zl {n:UInt64} (hr:aP g (some l) w) (hn:l.length<n.toNat):
 Calls Tryz.prog 157 #[.pointer (some ⟨g,0,none⟩),bo n] w (bL fun r w'=>r=.tuple #[.slice none 0 0,B false]∧w'=w):=by
 obtain⟨A,m,c,h1,h2,_⟩:=hr
 have h2':bQ l (.slice A m c) w:=h2
 refine enter (vs:=[.pointer (some ⟨g,0,none⟩),bo n]) Tryz.func157 Ig Ig Ig ?_
 refine af (aa (ac Ig Ig (ac Ig Ig (ag (ab (af (af (aa (ae Ig Ig ?_)))))))))
 refine aQ Ig Ig ?_
 refine ah Ig Ig (bK HU Ig gI (by omega)) ?_
 refine am Ig Ig (aj HO Ig (gE (i:=1) h1 Ig)) ?_
 refine ae Ig Ig ?_
 refine ao Ig (ae Ig Ig (ao Ig (ae Ig Ig ?_)))
 refine ao Ig (aQ Ig Ig ?_)
 refine ao Ig (ah Ig Ig (bK HU Ig cl (by omega)) ?_)
 refine ao Ig (am Ig Ig (aj HF Ig (gE (i:=0) h1 Ig)) ?_)
 refine ao Ig (aO Ig Ig (cc h2') ?_)
 refine ao Ig (aN Ig Ig (dT HE HD) ?_)
 refine ao Ig (ai Ig Ig Ig (dW (by show _<n;rw[UInt64.lt_iff_toNat_lt,zk h2'.len];exact hn) cJ) ?_)
 refine aJ Ig Ig Ig ?_
 refine ag (ab ?_)
 refine ce Ig ?_
 refine af (aa (ac Ig Ig (ac Ig Ig (ag (ab (ay (aB ?_)))))))
 refine aW Ig Ig Ig ?_
 exact⟨_,rfl,rfl,rfl⟩
theorem qK {n:UInt64} (hr:aP g (some l) w) (hn:n.toNat≤l.length):
 Calls Tryz.prog 157 #[.pointer (some ⟨g,0,none⟩),bo n] w
  (bL fun r w'=>∃b,r=.tuple #[b,B true]∧bQ (l.take n.toNat) b w'∧aP g (some (l.drop n.toNat)) w'∧w.grownBy w' (some g)):=by
 obtain⟨A,m,c,h1,h2,h4⟩:=hr
 have h2':bQ l (.slice A m c) w:=h2
 refine enter (vs:=[.pointer (some ⟨g,0,none⟩),bo n]) Tryz.func157 Ig Ig Ig ?_
 refine af (aa (ac Ig Ig (ac Ig Ig (ag (ab (af (af (aa (ae Ig Ig ?_)))))))))
 refine aQ Ig Ig ?_
 refine ah Ig Ig (bK HU Ig gI (by omega)) ?_
 refine am Ig Ig (aj HO Ig (gE (i:=1) h1 Ig)) ?_
 refine ae Ig Ig ?_
 refine ao Ig (ae Ig Ig (ao Ig (ae Ig Ig ?_)))
 refine ao Ig (aQ Ig Ig ?_)
 refine ao Ig (ah Ig Ig (bK HU Ig cl (by omega)) ?_)
 refine ao Ig (am Ig Ig (aj HF Ig (gE (i:=0) h1 Ig)) ?_)
 refine ao Ig (aO Ig Ig (cc h2') ?_)
 refine ao Ig (aN Ig Ig (dT HE HD) ?_)
 refine ao Ig (ai Ig Ig Ig (eU (by show ¬_<n;rw[UInt64.lt_iff_toNat_lt,zk h2'.len];omega) cJ) ?_)
 refine aJ Ig Ig Ig ?_
 refine ag (ab ?_)
 refine eS Ig ?_
 refine ax (ab (af (aa (ae Ig Ig ?_))))
 refine aQ Ig Ig ?_
 refine ah Ig Ig (bK HU Ig cl (by omega)) ?_
 refine am Ig Ig (aj HF Ig (gE (i:=0) h1 Ig)) ?_
 refine ae Ig Ig ?_
 obtain⟨b,hb,hb2⟩:=jI h2' hn .u64
 refine db (b:=some (bo n)) Ig Ig Ig Ig Ig (hb _) ?_
 refine ac Ig Ig (ag (ab (af (aa (ae Ig Ig (ae Ig Ig ?_))))))
 refine aQ Ig Ig ?_
 refine ah Ig Ig (bK HU Ig cl (by omega)) ?_
 refine am Ig Ig (aj HF Ig (gE (i:=0) h1 Ig)) ?_
 refine ae Ig Ig ?_
 obtain⟨r,hr,hr2⟩:=i0 h2' hn .u64
 refine db (a:=some (bo n)) Ig Ig Ig Ig Ig (hr _) ?_
 refine aQ Ig Ig ?_
 refine ah Ig Ig (bK HU Ig cl (by omega)) ?_
 obtain⟨A',m',c',rfl,h5⟩:=vM (hr w)
 refine az Ig Ig (dv (i:=0) cl Ig h1 (by simp)) ?_
 have h3:=iY h1 0 (.slice A' m' c')
 have hg:=aS w g 0 (.slice A' m' c')
 refine ag (ab (af (aa (ae Ig Ig (ac Ig Ig (ac Ig Ig (ag (ab (ay ?_)))))))))
 refine aW Ig Ig Ig ?_
 have hrd:aP g (some l) w:=⟨A,m,c,h1,h2,h4⟩
 exact⟨_,rfl,b,rfl,hb2.reader hrd hg,⟨A',m',c',h3,hr2.reader hrd hg,h5 g h4⟩,hg⟩
def UvR (g:Nat) (w:World) (o:Option (Nat×List UInt8)) (r:Value) (w':World):Prop:=
 w.grownBy w' (some g)∧match o with
  |some (n,t)=>r=.tuple #[bo (UInt64.ofNat n),B true]∧aP g (some t) w'
  |none=>r=.tuple #[bo 0,B false]∧∃l',aP g (some l') w'
theorem mh (hr:aP g (some l) w):
 Calls Tryz.prog 124 #[.pointer (some ⟨g,0,none⟩)] w (bL (UvR g w (dX l))):=by
 refine enter (vs:=[.pointer (some ⟨g,0,none⟩)]) Tryz.func124 Ig Ig Ig ?_
 refine af (aa (ac Ig Ig (ac Ig Ig (ag (ab (af (af (aa (ac Ig Ig (ag (ab (au ?_))))))))))))
 refine ci (α:=Nat×List UInt8×UInt64) (fun x=>[(0,.pointer (some ⟨g,0,none⟩)),(4,I ((7*x.1:Nat):Int)),(2,bo x.2.2)])
  (fun x w'=>aP g (some x.2.1) w'∧w.grownBy w' (some g)∧x.1≤9∧x.2.2.toNat<128^x.1∧dX l=(nl (10-x.1) x.1 x.2.1).map fun p=>(p.1+x.2.2.toNat,p.2)) (fun x=>10-x.1)
  (0,l,0) ⟨rfl,rfl,rfl,trivial⟩ ⟨hr,kj _ _,by simp,by simp,by simp[dX]⟩ ?_
 rintro⟨k,rest,acc⟩ w1 ⟨hr1,hg1,hk,hacc,hrd⟩
 dsimp only at hr1 hg1 hk hacc hrd
 have hfuel:10-k=(9-k)+1:=by omega
 rw[hfuel] at hrd
 refine af (af (aa (ae Ig Ig ?_)))
 refine ai Ig Ig Ig (dW (by omega) bb) ?_
 refine ag (ab ?_)
 refine ce Ig ?_
 refine ax (ab (af (au (af (aa (ae Ig Ig ?_))))))
 cases rest with
 |nil=>
  refine ak (vs:=[_,bo 1]) gG Ig Ig (zl hr1 (by decide)) ?_
  rintro r2 w2 ⟨rfl,rfl⟩
  refine ae Ig Ig ?_
  refine al Ig Ig (bw) ?_
  refine al Ig Ig (bz) ?_
  refine ac Ig Ig (ac Ig Ig (ag (ab (af (af (aa (ae Ig Ig ?_)))))))
  refine cx Ig Ig (cZ) ?_
  refine ag (ab ?_)
  refine ce Ig ?_
  refine af (aa (ac Ig Ig (ac Ig Ig (ag (ab (ay (aB (bh (aB (aB (bh (aB ?_))))))))))))
  refine aW Ig Ig Ig ?_
  refine⟨_,rfl,hg1,?_⟩
  rw[hrd,Cq]
  exact⟨rfl,[],hr1⟩
 |cons c t=>
  refine ak (vs:=[_,bo 1]) gG Ig Ig (qK hr1 (by simp)) ?_
  rintro r2 w2 ⟨b,rfl,hb,hr2,hg2⟩
  have hb':bQ [c] b w2:=hb
  have hr2':aP g (some t) w2:=hr2
  have hg:=hg1.trans hg2
  refine ae Ig Ig ?_
  refine al Ig Ig (bw) ?_
  refine al Ig Ig (bz) ?_
  refine ac Ig Ig (ac Ig Ig (ag (ab (af (af (aa (ae Ig Ig ?_)))))))
  refine cx Ig Ig (cZ) ?_
  refine ag (ab ?_)
  refine eS Ig ?_
  refine ax (ab (af (aa (ae Ig Ig ?_))))
  obtain⟨ad,had,hcell⟩:=iz hb' (i:=0) (by simp) .i64
  refine aq Ig Ig Ig (had _) ?_
  refine am Ig Ig (Fo hcell) ?_
  refine ac Ig Ig (ag (ab (af (af ?_))))
  refine ff (fun _:Unit=>[(0,.pointer (some ⟨g,0,none⟩)),(4,I ((7*k:Nat):Int)),(2,bo acc),(7,U8 c),(35,B (decide ((k=9∧1<c.toNat)∨(0<k∧c.toNat=0))))]) (fun _ w'=>w'=w2) ?_ ?_
  ·refine aa (ae Ig Ig ?_)
   have c1:c>1↔1<c.toNat:=by show 1<c↔_;rw[UInt8.lt_iff_toNat_lt];rfl
   have c0:c=0↔c.toNat=0:=by rw[←UInt8.toNat_inj];rfl
   by_cases h9:k=9
   ·refine ai Ig Ig Ig (dW (by omega) bJ) ?_
    refine ae Ig Ig (ao Ig (ae Ig Ig ?_))
    by_cases hc1:1<c.toNat
    ·refine ao Ig (ai (v:=U8 1) Ig Ig Ig (dW (c1.2 hc1) qc) ?_)
     refine aG Ig Ig Ig (ae Ig Ig ?_)
     refine ap Ig Ig Ig (ap Ig Ig Ig (ap Ig Ig Ig ?_))
     refine gO Ig Ig Ig (gO Ig Ig Ig (ap Ig Ig Ig ?_))
     refine aG Ig Ig Ig (ag ?_)
     exact cA () ⟨rfl,rfl,rfl,rfl,by rw[decide_eq_true (Or.inl ⟨h9,hc1⟩)];rfl,trivial⟩ rfl
    ·refine ao Ig (ai (v:=U8 1) Ig Ig Ig (eU (fun h=>hc1 (c1.1 h)) qc) ?_)
     refine aG Ig Ig Ig (ae Ig Ig ?_)
     refine ao Ig (ae Ig Ig (ao Ig (ai Ig Ig Ig (dW (by omega) cB) ?_)))
     refine ao Ig (ae Ig Ig (ao Ig (ae Ig Ig ?_)))
     refine ao Ig (ai (v:=U8 0) Ig Ig Ig jD ?_)
     refine ao Ig (aG Ig Ig Ig ?_)
     refine aJ Ig Ig Ig (ag ?_)
     refine cA () ⟨rfl,rfl,rfl,rfl,?_,trivial⟩ rfl
     show some (B (decide (c=0)))=_
     rw[decide_eq_decide.2 (show c=0↔((k=9∧1<c.toNat)∨(0<k∧c.toNat=0)) from by rw[c0];omega)]
   ·refine ai Ig Ig Ig (eU (by omega) bJ) ?_
    refine ae Ig Ig (ap Ig Ig Ig (ap Ig Ig Ig ?_))
    refine aJ Ig Ig Ig (ae Ig Ig ?_)
    by_cases hk0:0<k
    ·refine ao Ig (ae Ig Ig (ao Ig (ai Ig Ig Ig (dW (by omega) cB) ?_)))
     refine ao Ig (ae Ig Ig (ao Ig (ae Ig Ig ?_)))
     refine ao Ig (ai (v:=U8 0) Ig Ig Ig jD ?_)
     refine ao Ig (aG Ig Ig Ig ?_)
     refine aJ Ig Ig Ig (ag ?_)
     refine cA () ⟨rfl,rfl,rfl,rfl,?_,trivial⟩ rfl
     show some (B (decide (c=0)))=_
     rw[decide_eq_decide.2 (show c=0↔((k=9∧1<c.toNat)∨(0<k∧c.toNat=0)) from by rw[c0];omega)]
    ·refine ao Ig (ae Ig Ig (ao Ig (ai Ig Ig Ig (eU (by omega) cB) ?_)))
     refine ao Ig (ae Ig Ig (ap Ig Ig Ig (ap Ig Ig Ig ?_)))
     refine ao Ig (aJ Ig Ig Ig ?_)
     refine aJ Ig Ig Ig (ag ?_)
     refine cA () ⟨rfl,rfl,rfl,rfl,?_,trivial⟩ rfl
     show some (B false)=_
     rw[decide_eq_false (by omega)]
  ·rintro _ w3 rfl
   refine ab (bi Ig (fun h=>?_) (fun h=>?_))
   ·refine af (aa (ac Ig Ig (ac Ig Ig (ag (ab (ay (aB (bh (aB (aB (bh (aB ?_))))))))))))
    refine aW Ig Ig Ig ?_
    refine⟨_,rfl,hg,?_⟩
    rw[hrd]
    simp only[nl]
    rw[if_pos h]
    exact⟨rfl,t,hr2'⟩
   ·have hor:=Ey (acc:=acc) (c:=c) hacc hk (fun h9=>by
     have:¬1<c.toNat:=fun hc=>h (Or.inl ⟨h9,hc⟩)
     omega)
    refine ax (ab (af (aa (ae Ig Ig (ae Ig Ig ?_)))))
    refine ai (v:=U8 127) Ig Ig Ig (BK) ?_
    refine aN Ig Ig (BM HH HD) ?_
    refine ae Ig Ig ?_
    refine ai Ig Ig Ig (eY (7*k) (by omega)) ?_
    refine ai Ig Ig Ig (gY) ?_
    refine ac Ig Ig (ag (ab (af (aa (ae Ig Ig ?_)))))
    refine ai (v:=U8 128) Ig Ig Ig (m2) ?_
    refine ag (ab ?_)
    refine bi Ig (fun h2=>?_) (fun h2=>?_)
    ·have h2':c.toNat<128:=by rw[UInt8.lt_iff_toNat_lt] at h2;exact h2
     refine af (aa (ae Ig Ig (ac Ig Ig (ac Ig Ig (ag (ab (ay (bh (aB (aB (bh (aB ?_))))))))))))
     refine aW Ig Ig Ig ?_
     refine⟨_,rfl,hg,?_⟩
     rw[hrd]
     simp only[nl]
     rw[if_neg h,if_pos h2']
     refine⟨?_,hr2'⟩
     rw[Nat.mod_eq_of_lt h2'] at hor
     have:UInt64.ofNat (c.toNat*128^k+acc.toNat)=acc|||((c&&&127).toUInt64<<<UInt64.ofNat (7*k)):=by
      rw[Nat.add_comm,←hor,UInt64.ofNat_toNat]
     rw[this];rfl
    ·have h2':¬c.toNat<128:=fun hc=>h2 (by rw[UInt8.lt_iff_toNat_lt];exact hc)
     have hk9:k≠9:=fun hk9=>h (Or.inl ⟨hk9,by omega⟩)
     refine ax (aM (ab (aa (ae Ig Ig ?_))))
     refine ai Ig Ig Ig (aK (by omega) (by omega)) ?_
     refine ac Ig Ig (ag ?_)
     refine bP (k+1,t,acc|||((c&&&127).toUInt64<<<UInt64.ofNat (7*k))) ⟨rfl,?_,rfl,trivial⟩ ⟨hr2',hg,by show k+1≤9;omega,?_,?_⟩ (by show 10-(k+1)<10-k;omega)
     ·show some (I (((7*k:Nat):Int)+7))=some (I ((7*(k+1):Nat):Int))
      rw[show((7*k:Nat):Int)+7=((7*(k+1):Nat):Int) by omega]
     ·show(acc|||((c&&&127).toUInt64<<<UInt64.ofNat (7*k))).toNat<128^(k+1)
      rw[hor,Nat.pow_succ]
      have:(c.toNat%128)*128^k≤127*128^k:=Nat.mul_le_mul_right _ (by omega)
      omega
     ·show dX l=(nl (10-(k+1)) (k+1) t).map fun p=>(p.1+(acc|||((c&&&127).toUInt64<<<UInt64.ofNat (7*k))).toNat,p.2)
      rw[hrd,hor]
      simp only[nl]
      rw[if_neg h,if_neg h2',Option.map_map]
      have:10-(k+1)=9-k:=by omega
      rw[this]
      have ef:((fun p:Nat×List UInt8=>(p.1+acc.toNat,p.2))∘fun p:Nat×List UInt8=>(p.1+c.toNat%128*128^k,p.2))=fun p=>(p.1+(acc.toNat+c.toNat%128*128^k),p.2):=by
       funext p
       simp only[Function.comp,Prod.mk.injEq,and_true]
       omega
      rw[ef]
theorem kP (hr:aP g none w):
 Calls Tryz.prog 124 #[.pointer (some ⟨g,0,none⟩)] w (bL fun r w'=>r=.tuple #[bo 0,B false]∧w'=w):=by
 refine enter (vs:=[.pointer (some ⟨g,0,none⟩)]) Tryz.func124 Ig Ig Ig ?_
 refine af (aa (ac Ig Ig (ac Ig Ig (ag (ab (af (af (aa (ac Ig Ig (ag (ab (au ?_))))))))))))
 refine ci (α:=Unit) (fun _=>[(0,.pointer (some ⟨g,0,none⟩)),(4,I 0),(2,bo 0)]) (fun _ w'=>w'=w) (fun _=>0) () ⟨rfl,rfl,rfl,trivial⟩ Ig ?_
 rintro _ w1 rfl
 refine af (af (aa (ae Ig Ig ?_)))
 refine ai Ig Ig Ig (dW (by omega) bb) ?_
 refine ag (ab ?_)
 refine ce Ig ?_
 refine ax (ab (af (au (af (aa (ae Ig Ig ?_))))))
 refine ak (vs:=[_,bo 1]) gG Ig Ig (oS hr) ?_
 rintro r2 w2 ⟨rfl,rfl⟩
 refine ae Ig Ig ?_
 refine al Ig Ig (bw) ?_
 refine al Ig Ig (bz) ?_
 refine ac Ig Ig (ac Ig Ig (ag (ab (af (af (aa (ae Ig Ig ?_)))))))
 refine cx Ig Ig (cZ) ?_
 refine ag (ab ?_)
 refine ce Ig ?_
 refine af (aa (ac Ig Ig (ac Ig Ig (ag (ab (ay (aB (bh (aB (aB (bh (aB ?_))))))))))))
 refine aW Ig Ig Ig ?_
 exact⟨_,rfl,rfl,rfl⟩
def Fw (g:Nat) (w:World) (o:Option (Nat×List UInt8)) (r:Value) (w':World):Prop:=
 w.grownBy w' (some g)∧match o with
  |some (n,t)=>r=.tuple #[bo (UInt64.ofNat n),I 0]∧aP g (some t) w'
  |none=>r=.tuple #[bo 0,I 5]∧aP g none w'
theorem lP {st:Option (List UInt8)} (hr:aP g st w):
 Calls Tryz.prog 89 #[.pointer (some ⟨g,0,none⟩)] w (bL (Fw g w (st.bind dX))):=by
 refine enter (vs:=[.pointer (some ⟨g,0,none⟩)]) Tryz.func89 Ig Ig Ig ?_
 refine af (aa (ac Ig Ig (ac Ig Ig (ag (ab (af (af (aa (ae Ig Ig ?_)))))))))
 refine ai Ig Ig Ig (kY HP) ?_
 refine ag (ab ?_)
 refine eS Ig ?_
 refine ax (ab (af (aa (ae Ig Ig ?_))))
 have hcase:Calls Tryz.prog 124 #[.pointer (some ⟨g,0,none⟩)] w (bL fun r w'=>w.grownBy w' (some g)∧match st.bind dX with
  |some (n,t)=>r=.tuple #[bo (UInt64.ofNat n),B true]∧aP g (some t) w'
  |none=>r=.tuple #[bo 0,B false]∧∃l',aP g l' w'):=by
  cases st with
  |none=>exact(kP hr).mono fun e w' ⟨v,he,hv,hw⟩=>⟨v,he,by subst hw;exact⟨kj _ _,hv,none,hr⟩⟩
  |some l=>
   refine(mh hr).mono fun e w' ⟨v,he,hg,hv⟩=>⟨v,he,hg,?_⟩
   show match dX l with|some (n,t)=>_|none=>_
   cases hrd:dX l with
   |none=>rw[hrd] at hv;exact⟨hv.1,hv.2.imp' some fun _ h=>h⟩
   |some p=>rw[hrd] at hv;exact hv
 refine ak jv Ig Ig hcase ?_
 rintro r1 w1 ⟨hg1,h1⟩
 unfold Fw
 cases hrd:st.bind dX with
 |some p=>
  obtain⟨n,t⟩:=p
  rw[hrd] at h1
  obtain⟨rfl,hr1⟩:=h1
  refine ae Ig Ig ?_
  refine al Ig Ig (bw) ?_
  refine al Ig Ig (bz) ?_
  refine ac Ig Ig (ac Ig Ig (ag (ab (af (af (aa (ae Ig Ig ?_)))))))
  refine cx Ig Ig (cZ) ?_
  refine ag (ab ?_)
  refine eS Ig ?_
  refine ax (ab (af (aa (ae Ig Ig (ac Ig Ig (ac Ig Ig (ag (ab (ay ?_)))))))))
  refine aW Ig Ig Ig ?_
  exact⟨_,rfl,hg1,rfl,hr1⟩
 |none=>
  rw[hrd] at h1
  obtain⟨rfl,l',hr1⟩:=h1
  refine ae Ig Ig ?_
  refine al Ig Ig (bw) ?_
  refine al Ig Ig (bz) ?_
  refine ac Ig Ig (ac Ig Ig (ag (ab (af (af (aa (ae Ig Ig ?_)))))))
  refine cx Ig Ig (cZ) ?_
  refine ag (ab ?_)
  refine ce Ig ?_
  refine af (aa (ae Ig Ig ?_))
  refine ak gH Ig Ig (gJ hr1) ?_
  rintro r2 w2 ⟨rfl,hr2,hg2⟩
  refine ac Ig Ig (ac Ig Ig (ag (ab (ay (aB ?_)))))
  refine aW Ig Ig Ig ?_
  exact⟨_,rfl,hg1.trans hg2,rfl,hr2⟩
end
end Go.Rl
namespace Go.Rl
open Go.RowKit Go.Proofs
theorem vO:aw Tryz.prog 139:=⟨_,Tryz.func139,by kernel_rfl,rfl⟩
theorem kQ:aw Tryz.prog 119:=⟨_,Tryz.func119,by kernel_rfl,rfl⟩
def zm (x:UInt32):List UInt8:=[x.toUInt8,(x>>>UInt32.ofNat 8).toUInt8,(x>>>UInt32.ofNat 16).toUInt8,(x>>>UInt32.ofNat 24).toUInt8]
def jM (l:List UInt32):List UInt8:=l.flatMap zm
theorem sQ (l:List UInt32) (k:Nat) (h:k<l.length):jM (l.take (k+1))=jM (l.take k)++zm l[k]:=by
 unfold jM
 rw[List.take_succ_eq_append_getElem h,List.flatMap_append]
 simp
theorem fk (l:List UInt32):(jM l).length=4*l.length:=by
 induction l with
 |nil=>rfl
 |cons x l ih=>
  have:jM (x::l)=zm x++jM l:=by simp[jM]
  rw[this,List.length_append,ih]
  simp[zm];omega
def lh (l:List UInt32):List UInt8:=uv l.length++jM l
theorem vP (l:List UInt32) (h:l.length<18446744073709551616):(lh l).length≤10+4*l.length:=by
 have:=dO h
 simp only[lh,List.length_append,fk];omega
section
variable {w0 w:World} {l:List UInt8} {ns:List UInt32} {v nv:Value}
theorem vQ (hx:aE w0 w) (hv:bZ w0.heap.size l v w) (hn:bu ns nv w0) (hl:l.length+4*ns.length≤35184372088832):
 Calls Tryz.prog 139 #[v,nv] w (bL fun r w'=>bZ w0.heap.size (l++lh ns) r w'∧aE w0 w'∧fh w w' v r):=by
 refine enter (vs:=[v,nv]) Tryz.func139 Ig Ig Ig ?_
 refine af (aa (ac Ig Ig (ag (ab (af (aa (ae Ig Ig (ae Ig Ig ?_))))))))
 refine aO Ig Ig (bf Hz (hn.ext hx)) ?_
 refine aN Ig Ig (dT HE HD) ?_
 refine ak j9 Ig Ig (ki hv (by omega) hx.size) ?_
 rintro b1 w1 ⟨hb1,hg1⟩
 have hlen:(UInt64.ofNat ns.length).toNat=ns.length:=by rw[UInt64.toNat_ofNat'];have:=hn.len;omega
 rw[hlen] at hb1
 have hx1:aE w0 w1:=hx.of_grew hg1 hv.ge
 have huv:=dO (n:=ns.length) (by have:=hn.len;omega)
 refine ac Ig Ig (ag (ab (af (af (aa (ae Ig Ig ?_))))))
 refine aO Ig Ig (bf Hz (hn.ext hx1)) ?_
 refine ae Ig Ig (ag (ab (au ?_)))
 refine ci (α:=Nat×Value) (fun x=>[(0,x.2),(12,nv),(13,I (ns.length:Int)),(14,I (x.1:Int))])
  (fun x w'=>bZ w0.heap.size (l++uv ns.length++jM (ns.take x.1)) x.2 w'∧aE w0 w'∧fh w w' v x.2∧x.1≤ns.length) (fun x=>ns.length-x.1) (0,b1) ⟨rfl,rfl,rfl,rfl,trivial⟩
  ⟨by simpa [jM] using hb1,hx1,hg1,by simp⟩ ?_
 rintro⟨k,b⟩ w2 ⟨hb,hx2,hg2,hk⟩
 dsimp only at hb hx2 hg2 hk
 have hns:=hn.len
 have hdl:(l++uv ns.length++jM (ns.take k)).length≤35184372088832+10:=by
  simp only[List.length_append,fk,List.length_take];omega
 refine af (aa ?_)
 refine ai Ig Ig Ig (bb) ?_
 refine ag (ab (af ?_))
 refine bi Ig (fun h=>?_) (fun h=>?_)
 ·have hlt:k<ns.length:=by omega
  refine ax (ab (af (au (af (aa ?_)))))
  obtain⟨ad,had,hcell⟩:=cr Hz (hn.ext hx2) hlt .i64
  refine aq Ig Ig Ig (had _) ?_
  refine am Ig Ig (Fp hcell) ?_
  refine ac Ig Ig (ag (ab (aa (ae Ig Ig (ae Ig Ig ?_)))))
  refine aN Ig Ig (dh HB HH) ?_
  refine ae Ig Ig ?_
  refine ai Ig Ig Ig (ck 8 (by omega)) ?_
  refine aN Ig Ig (dh HB HH) ?_
  refine ae Ig Ig ?_
  refine ai Ig Ig Ig (ck 16 (by omega)) ?_
  refine aN Ig Ig (dh HB HH) ?_
  refine ae Ig Ig ?_
  refine ai Ig Ig Ig (ck 24 (by omega)) ?_
  refine aN Ig Ig (dh HB HH) ?_
  obtain⟨r3,w3,hr3,hx3,ho3,_⟩:=ej (w:=w2) w2.heap.size (zm ns[k]) (by simp[zm]) (Nat.le_refl _)
  refine aH Ig Ig hr3 ?_
  obtain⟨r4,w4,hr4,ho4,hg4⟩:=dc (ty:=22) (hb.ext hx3) ho3.bts (by simp only[zm,List.length_cons,List.length_nil];omega) (Nat.le_trans hx2.size hx3.size)
  refine aZ Ig Ig hr4 ?_
  refine ac Ig Ig (ag (aM (ab (aa ?_))))
  refine ai Ig Ig Ig (aK (by omega) (by omega)) ?_
  refine ae Ig Ig (ag ?_)
  refine bP (k+1,r4) ⟨rfl,rfl,rfl,rfl,trivial⟩ ⟨?_,(hx2.trans hx3).of_grew hg4 hb.ge,hg2.trans (fh.before hx3 hg4),hlt⟩ (by show ns.length-(k+1)<ns.length-k;omega)
  show bZ _ (l++uv ns.length++jM (ns.take (k+1))) r4 w4
  rw[sQ ns k hlt,←List.append_assoc]
  exact ho4
 ·have hk':k=ns.length:=by omega
  refine ba (aC (aC (aY (ab (af (aa (ae Ig Ig (ac Ig Ig (ag (ab (ay ?_)))))))))))
  refine aD Ig Ig ?_
  refine⟨_,rfl,?_,hx2,hg2⟩
  rw[hk',List.take_length,List.append_assoc] at hb
  exact hb
end
end Go.Rl
namespace Go.Rl
open Go.RowKit
section
variable {P:Program} {ops:Array Oper} {Q:eR} {N:Nat} {D:List Deferred} {S:World→Prop} {fuel:Nat} {listed:Array Bool} {l:Fr} {w:World} {d:Nat} {op:Op} {ty:TypeId} {pos:String} {aft:Array Edge}
def gq (Q:eR):eR:=fun e a w=>e=.normal∧Q .normal a w
def eF (P:Program) (ops:Array Oper) (Q:eR) (N:Nat) (D:List Deferred) (S:World→Prop) (fuel:Nat) (listed:Array Bool) (l:Fr) (w:World):Prop:=∀a,At N D l a→wpAnyH P .any ops (gq Q) S fuel listed a w
def oT (P:Program) (ops:Array Oper) (Q:eR) (S:World→Prop) (fuel:Nat) (listed:Array Bool):eR:=fun e a w=>e=.normal∧S w∧wpAnyH P .any ops (gq Q) S fuel listed a w
theorem t6 {id:Nat} {os:List Oper} (S:World→Prop) (n:Nat) (hn:os.toArray.size=n) (hm:P.follows .mixedOrders=true)
 (h:eF P os.toArray Q N D S n (Array.replicate n false) l w.drew):cn P Q N D l w (.region id os.toArray true):=fun a ha=>by
 subst hn
 exact wp_mono (wp_region_held (Q:=gq Q) (S:=S) hm (h a ha)) fun e a w he=>by obtain⟨rfl,h⟩:=he;exact h
def F9 (ops:Array Oper) (listed:Array Bool) (i:Nat):Bool:=Region.noSelect ops&&Region.free .any ops listed i&&(Region.ready .any ops listed).contains i
theorem Fx (i:Nat) {v:Value} (hi:ops[i]? =some ⟨some d,op,ty,pos,aft,none⟩) (hB:F9 ops listed i=true) (hd:Nat.blt d N=true) (hS:S w)
 (hrun:∀ρ w',mb l ρ→S w'→(execOp ρ ⟨some d,op,ty,pos,aft,none⟩).run P w'=.ok (.value v) w')
 (k:eF P ops Q N D S fuel (listed.setIfInBounds i true) ((d,v)::l) w):eF P ops Q N D S (fuel+1) listed l w:=fun a ha=>by
 simp only[F9,Bool.and_eq_true] at hB
 exact wpAnyH_take hi hB.1.1 hB.1.2 hB.2 (fun c a w h=>by obtain⟨h,_⟩:=h;cases h) (.inl ⟨rfl,fun w' hw'=>hrun a.eval w' (fun x v hx=>ha.ev hx) hw'⟩) hS (k _ (ha.put hd v))
theorem xR (i:Nat) {xs:List Operand} {vs:List Value} {r:Value} {f:List Value→Sem Value} (hi:ops[i]? =some ⟨some d,op,ty,pos,aft,none⟩) (he:∀ρ,execOp ρ ⟨some d,op,ty,pos,aft,none⟩=(do pure (Next.value (←f (xs.map ρ))):Sem Next))
 (hp:pW l xs=some vs) (hB:F9 ops listed i=true) (hd:Nat.blt d N=true) (hS:S w) (hrun:∀w',S w'→(f vs).run P w'=.ok r w')
 (k:eF P ops Q N D S fuel (listed.setIfInBounds i true) ((d,r)::l) w):eF P ops Q N D S (fuel+1) listed l w:=
 Fx i hi hB hd hS (fun ρ w' hρ hw'=>by rw[he,gz hρ hp,Sem.run_bind,hrun w' hw'];rfl) k
theorem G7 {x:Operand} {v:Value} (h:ev l x=some v):pW l [x]=some [v]:=by simp[pW,h]
theorem evs2 {x y:Operand} {u v:Value} (h:ev l x=some u) (h':ev l y=some v):pW l [x,y]=some [u,v]:=by simp[pW,h,h']
theorem li (i:Nat) {x:Operand} {v:Value} (hi:ops[i]? =some ⟨some d,.move x,ty,pos,aft,none⟩) (hx:ev l x=some v) (hB:F9 ops listed i=true) (hd:Nat.blt d N=true) (hS:S w)
 (k:eF P ops Q N D S fuel (listed.setIfInBounds i true) ((d,v)::l) w):eF P ops Q N D S (fuel+1) listed l w:=
 Fx i hi hB hd hS (fun ρ w' hρ _=>by simp[execOp,hρ x _ hx]) k
theorem fN (i:Nat) {t:TypeId} {x:Operand} {u r:Value} (hi:ops[i]? =some ⟨some d,.load t x,ty,pos,aft,none⟩) (hx:ev l x=some u) (hB:F9 ops listed i=true) (hd:Nat.blt d N=true) (hS:S w) (hrun:∀w',S w'→(Instr.loadAt t u).run P w'=.ok r w')
 (k:eF P ops Q N D S fuel (listed.setIfInBounds i true) ((d,r)::l) w):eF P ops Q N D S (fuel+1) listed l w:=
 xR i (xs:=[x]) (f:=fun|[a]=>Instr.loadAt t a|_=>stuck "") hi (fun _=>rfl) (G7 hx) hB hd hS hrun k
theorem cM (i:Nat) {s:TypeId} {n:Nat} {x:Operand} {u r:Value} (hi:ops[i]? =some ⟨some d,.fieldAddr s x n,ty,pos,aft,none⟩) (hx:ev l x=some u) (hB:F9 ops listed i=true) (hd:Nat.blt d N=true) (hS:S w) (hrun:∀w',S w'→(Instr.fieldAt s u n).run P w'=.ok r w')
 (k:eF P ops Q N D S fuel (listed.setIfInBounds i true) ((d,r)::l) w):eF P ops Q N D S (fuel+1) listed l w:=
 xR i (xs:=[x]) (f:=fun|[a]=>Instr.fieldAt s a n|_=>stuck "") hi (fun _=>rfl) (G7 hx) hB hd hS hrun k
theorem Fy (i:Nat) {b:BinOp} {t t2:TypeId} {x y:Operand} {u v r:Value} (hi:ops[i]? =some ⟨some d,.binOp b t x y t2,ty,pos,aft,none⟩) (hx:ev l x=some u) (hy:ev l y=some v) (hB:F9 ops listed i=true) (hd:Nat.blt d N=true) (hS:S w) (hrun:∀w',S w'→(bin b t x y u v).run P w'=.ok r w')
 (k:eF P ops Q N D S fuel (listed.setIfInBounds i true) ((d,r)::l) w):eF P ops Q N D S (fuel+1) listed l w:=
 xR i (xs:=[x,y]) (f:=fun|[a,c]=>bin b t x y a c|_=>stuck "") hi (fun _=>rfl) (evs2 hx hy) hB hd hS hrun k
theorem fw {o:Oper} {i:Nat} {listed':Array Bool} {a:Act} (hi:ops[i]? =some o) (h:wpList P ops (oT P ops Q S fuel listed') [o] a w):
 wpOp P ops (gq Q) i (fun a' w'=>S w'∧wpAnyH P .any ops (gq Q) S fuel listed' a' w') a w:=by
 unfold wpOp
 simp only[hi]
 unfold wpList at h
 split
 ·rename_i hw
  rw[if_pos hw] at h
  rcases h with h|⟨_,_,_,h,_⟩
  ·refine .inl ?_
   unfold Oper.wp at*
   generalize (execOp a.eval o).run P w=r at*
   cases r with
   |ok n w'=>
    cases n<;>simp only[Oper.upon] at h⊢
    case value u=>exact h.2
    case skip=>exact h.2
    case defer dd=>exact h.2
    case enter f args=>
     refine Calls.mono h fun e w'' he=>?_
     cases e with
     |returned u=>exact he.2
     |panicked c=>obtain⟨he,_⟩:=he;cases he
     |outgrown=>obtain⟨_,_,he,_⟩:=he;cases he
    case row row args=>exact Rows.mono h fun u w'' he=>he.2
   |halt x w'=>
    cases x<;>simp only[Oper.upon] at h⊢
    case panic u=>obtain⟨he,_⟩:=h;cases he
  ·cases h
 ·rename_i hw
  rw[if_neg hw] at h
  exact h.2
theorem cv (i:Nat) {o:Oper} (hr:Region.ready .any ops listed=[i]) (hi:ops[i]? =some o) (h:bB P ops (oT P ops Q S fuel (listed.setIfInBounds i true)) N D l w [o]):eF P ops Q N D S (fuel+1) listed l w:=fun a ha=>
 wpAnyH_all hr (by simp) fun j hj=>by
  obtain rfl:j=i:=by simpa using hj
  exact fw hi (h a ha)
theorem kR (i j:Nat) {o u:Oper} (hr:Region.ready .any ops listed=[i,j]) (hi:ops[i]? =some o) (hj:ops[j]? =some u) (h:bB P ops (oT P ops Q S fuel (listed.setIfInBounds i true)) N D l w [o])
 (h':bB P ops (oT P ops Q S fuel (listed.setIfInBounds j true)) N D l w [u]):eF P ops Q N D S (fuel+1) listed l w:=fun a ha=>
 wpAnyH_all hr (by simp) fun k hk=>by
  rcases(by simpa using hk:k=i∨k=j) with rfl|rfl
  ·exact fw hi (h a ha)
  ·exact fw hj (h' a ha)
theorem aX (hS:S w) (k:eF P ops Q N D S fuel listed l w):bB P ops (oT P ops Q S fuel listed) N D l w []:=fun a ha=>⟨rfl,hS,k a ha⟩
theorem t7 {α:Type} (fr:α→Fr) (H:α→World→Prop) (listed':Array Bool) (fuel':Nat) (k:∀x w',H x w'→eF P ops Q N D S fuel' listed' (fr x) w')
 (h:(∀l' w',(∃x,u6 (fr x) l'∧H x w')→eF P ops Q N D S fuel' listed' l' w')→eF P ops Q N D S fuel listed l w):eF P ops Q N D S fuel listed l w:=
 h fun _ w' ⟨x,hs,hH⟩ a ha=>k x w' hH a (ha.weak hs)
theorem Cu {listed':Array Bool} (he:listed=listed') (h:eF P ops Q N D S fuel listed' l w):eF P ops Q N D S fuel listed l w:=he▸h
theorem mw (hr:Region.ready .any ops listed=[]) (h:fz Q N D l w):eF P ops Q N D S fuel listed l w:=fun a ha=>wpAnyH_done hr ⟨rfl,h a ha⟩ _
end
end Go.Rl
namespace Go.Rl
open Go.RowKit Go.Proofs
theorem qL:aw Tryz.prog 103:=⟨_,Tryz.func103,by kernel_rfl,rfl⟩
theorem fK:aw Tryz.prog 81:=⟨_,Tryz.func81,by kernel_rfl,rfl⟩
theorem aE.at {w w':World} (hx:aE w w') {g:Nat} {o:Obj} (h:w.heap[g]? =some o):w'.heap[g]? =some o:=by
 rw[hx.block g (by obtain⟨h,_⟩:=Array.getElem?_eq_some_iff.1 h;exact h)]
 exact h
theorem bZ.low {base base':Nat} {l:List UInt8} {v:Value} {w:World} (h:bZ base l v w) (hb:base'≤base):bZ base' l v w:=by
 have hge:=h.ge
 obtain⟨n,h⟩:=h
 exact⟨n,ft h fun k hk=>Nat.le_trans hb (hge k hk)⟩
theorem bZ.grown {base:Nat} {l:List UInt8} {u v r:Value} {w w':World} (h:bZ base l u w) (hg:fh w w' v r) (hne:u.ownBlock=none∨u.ownBlock≠v.ownBlock):bZ base l u w':=by
 obtain⟨n,h⟩:=h
 exact⟨n,World.ownsRow.kept h hg.grown hne⟩
theorem bZ.lt {base:Nat} {l:List UInt8} {v:Value} {w:World} (h:bZ base l v w):∀k,v.ownBlock=some k→k<w.heap.size:=by
 obtain⟨n,h⟩:=h
 exact fun k hk=>(World.ownsRow.lt h k hk).2
def dV (b:Bool) (n m:List UInt32):cH:=fun v w=>∃x y,v=.agg #[B b,x,y]∧bu n x w∧bu m y w
theorem dV.ext {b:Bool} {n m:List UInt32} {v:Value} {w w':World} (h:dV b n m v w) (hx:aE w w'):dV b n m v w':=by
 obtain⟨x,y,rfl,h1,h2⟩:=h
 exact⟨x,y,rfl,h1.ext hx,h2.ext hx⟩
def xx (b:Bool):UInt8:=if b then 1 else 0
def nn (b:Bool) (n m:List UInt32):List UInt8:=[xx b]++lh n++lh m
theorem qO:(Tryz.prog.info? 4).map (·.size)=some 1:=by kernel_rfl
theorem np:(Tryz.prog.info? 44).map (·.size)=some 1:=by kernel_rfl
theorem ey:(Tryz.prog.info? 46).map (·.size)=some 3:=by kernel_rfl
section
variable {w:World} {l:List UInt8} {ns:List UInt32} {v nv:Value}
theorem kS (hv:bQ l v w) (hn:bu ns nv w) (hl:l.length+4*ns.length≤35184372088832):
 Calls Tryz.prog 119 #[v,nv] w (bL fun r w'=>aE w w'∧bZ w.heap.size (l++lh ns) r w'):=by
 refine enter (vs:=[v,nv]) Tryz.func119 Ig Ig Ig ?_
 refine af (aa (ac Ig Ig (ag (ab (af (aa (ae Ig Ig (ae Ig Ig ?_))))))))
 refine aO Ig Ig (bf Hz hn) ?_
 refine aN Ig Ig (dT HE HD) ?_
 refine ak dJ Ig Ig (dK hv (by omega)) ?_
 rintro b1 w1 ⟨hx1,hb1⟩
 have hns:=hn.len
 have hlen:(UInt64.ofNat ns.length).toNat=ns.length:=by rw[UInt64.toNat_ofNat'];omega
 rw[hlen] at hb1
 have huv:=dO (n:=ns.length) (by omega)
 refine ac Ig Ig (ag (ab (af (af (aa (ac Ig Ig (ag (ab (au ?_)))))))))
 refine ci (α:=Nat×Value) (fun x=>[(1,nv),(5,x.2),(6,I (x.1:Int))])
  (fun x w'=>bZ w.heap.size (l++uv ns.length++jM (ns.take x.1)) x.2 w'∧aE w w'∧x.1≤ns.length) (fun x=>ns.length-x.1) (0,b1) ⟨rfl,rfl,rfl,trivial⟩
  ⟨by simpa [jM] using hb1,hx1,by simp⟩ ?_
 rintro⟨k,b⟩ w2 ⟨hb,hx2,hk⟩
 dsimp only at hb hx2 hk
 have hdl:(l++uv ns.length++jM (ns.take k)).length≤35184372088832+10:=by
  simp only[List.length_append,fk,List.length_take];omega
 refine af (af (aa (ae Ig Ig (ae Ig Ig ?_))))
 refine aO Ig Ig (bf Hz (hn.ext hx2)) ?_
 refine ai Ig Ig Ig (bb) ?_
 refine ag (ab ?_)
 refine bi Ig (fun h=>?_) (fun h=>?_)
 ·have hlt:k<ns.length:=by omega
  refine ax (ab (af (au ?_)))
  obtain⟨ad,had,hcell⟩:=cr Hz (hn.ext hx2) hlt .i64
  have hld:∀w',aE w2 w'→(Instr.loadAt 149 (.pointer (some ad))).run Tryz.prog w'=.ok (bg ns[k]) w':=fun w' hw'=>by
   obtain⟨ad',had',hcell'⟩:=cr Hz (hn.ext (hx2.trans hw')) hlt .i64
   have:=(had w').symm.trans (had' w')
   simp only[Result.ok.injEq,Value.pointer.injEq,Option.some.injEq,and_true] at this
   subst this
   exact Fp hcell'
  refine bk 25 [1,6,18,42] (by kernel_rfl) (by kernel_rfl) ?_
  refine an Ig Ig (an Ig Ig (an Ig Ig ?_))
  refine ar Ig Ig Ig (fun w _=>had w) ?_
  refine av Ig Ig hld ?_
  refine cP Ig Ig (fun w _=>dh HB HH) ?_
  refine an Ig Ig (an Ig Ig ?_)
  refine ar Ig Ig Ig (fun w _=>had w) ?_
  refine av Ig Ig hld ?_
  refine aL Ig Ig Ig (fun w _=>ck 8 (by omega)) ?_
  refine cP Ig Ig (fun w _=>dh HB HH) ?_
  refine an Ig Ig (an Ig Ig ?_)
  refine ar Ig Ig Ig (fun w _=>had w) ?_
  refine av Ig Ig hld ?_
  refine aL Ig Ig Ig (fun w _=>ck 16 (by omega)) ?_
  refine cP Ig Ig (fun w _=>dh HB HH) ?_
  refine an Ig Ig (an Ig Ig ?_)
  refine ar Ig Ig Ig (fun w _=>had w) ?_
  refine av Ig Ig hld ?_
  refine aL Ig Ig Ig (fun w _=>ck 24 (by omega)) ?_
  refine cP Ig Ig (fun w _=>dh HB HH) ?_
  refine dz (S:=bQ (zm ns[k])) (bQ.stable _) Ig (fun w' _=>by
   rintro _ rfl _ rfl _ rfl _ rfl
   obtain⟨r3,w3,hr3,hx3,ho3,_⟩:=ej (w:=w') w'.heap.size (zm ns[k]) (by simp[zm]) (Nat.le_refl _)
   exact⟨r3,w3,hr3,hx3,ho3.bts⟩) ?_
  refine bn ?_
  intro w3 hx3
  rintro _ rfl _ rfl _ rfl r3 hr3
  obtain⟨r4,w4,hr4,ho4,hg4⟩:=dc (ty:=22) (hb.ext hx3) hr3 (by simp only[zm,List.length_cons,List.length_nil];omega) (Nat.le_trans hx2.size hx3.size)
  refine aZ Ig Ig hr4 ?_
  refine ac Ig Ig (ag (aM (ab (aa (ae Ig Ig ?_)))))
  refine ai Ig Ig Ig (aK (by omega) (by omega)) ?_
  refine ac Ig Ig (ag ?_)
  refine bP (k+1,r4) ⟨rfl,rfl,rfl,trivial⟩ ⟨?_,(hx2.trans hx3).of_grew hg4 hb.ge,hlt⟩ (by show ns.length-(k+1)<ns.length-k;omega)
  show bZ _ (l++uv ns.length++jM (ns.take (k+1))) r4 w4
  rw[sQ ns k hlt,←List.append_assoc]
  exact ho4
 ·have hk':k=ns.length:=by omega
  refine ba (aC (aC (aY (ab (af (aa (ae Ig Ig (ac Ig Ig (ag (ab (ay ?_)))))))))))
  refine aD Ig Ig ?_
  rw[hk',List.take_length,List.append_assoc] at hb
  exact⟨_,rfl,hx2,hb⟩
theorem qQ {b:Bool} {n m:List UInt32} {rv:Value} (hv:bQ l v w) (hr:dV b n m rv w) (hl:l.length+4*n.length+4*m.length≤8796093022208):
 Calls Tryz.prog 103 #[v,rv] w (bL fun r w'=>aE w w'∧bZ w.heap.size (l++nn b n m) r w'):=by
 obtain⟨x,y,rfl,hx,hy⟩:=hr
 have hn:=vP n (by have:=hx.len;omega)
 refine enter (vs:=[v,.agg #[B b,x,y]]) Tryz.func103 Ig Ig Ig ?_
 refine af (aa (cI Ig Ig m4 ?_))
 have e1:aE w (w.alloc (.cells (Value.agg #[B b,x,y]).cells 46)):=aE.new w _
 have hbx:=heap_alloc_new w (.cells (Value.agg #[B b,x,y]).cells 46)
 revert e1 hbx
 generalize w.alloc (.cells (Value.agg #[B b,x,y]).cells 46)=w1
 intro e1 hbx
 have cell:∀(i:Nat) (u:Value),(#[B b,x,y]:Array Value)[i]? =some u→∀w',aE w1 w'→w'.cell? ⟨w.heap.size,i,none⟩=some u:=fun i u hu w' hw'=>gE (hw'.at hbx) hu
 refine ac Ig Ig (ag (ab (af (aa (ac Ig Ig (ag (ab ?_)))))))
 refine af (ff (fun _:Unit=>[(0,v),(3,.pointer (some ⟨w.heap.size,0,none⟩)),(5,U8 (xx b))]) (fun _ w'=>w'=w1) ?_ ?_)
 ·refine af (aa ?_)
  refine ah Ig Ig (bK HG Ig qO (by omega)) ?_
  refine am Ig Ig (aj HO Ig (cell 0 _ Ig _ (aE.refl _))) ?_
  refine ag (ab ?_)
  cases b with
  |true=>exact ce rfl (aa (ac rfl rfl (ag (cA () ⟨rfl,rfl,rfl,trivial⟩ rfl))))
  |false=>exact eS rfl (ax (cA () ⟨rfl,rfl,rfl,trivial⟩ rfl))
 rintro _ w2 rfl
 refine ab (af ?_)
 refine t6 (aE w2) 12 Ig (by kernel_rfl) ?_
 have hd:aE w2 w2.drew:=(aE.refl w2).drew
 refine li 0 Ig Ig (by kernel_rfl) Ig hd ?_
 refine li 2 Ig Ig (by kernel_rfl) Ig hd ?_
 refine cM 5 Ig Ig (by kernel_rfl) Ig hd (fun w' _=>bK HG Ig np (by omega)) ?_
 refine fN 6 Ig Ig (by kernel_rfl) Ig hd (fun w' hw'=>aj Hz Ig (cell 1 _ Ig _ hw')) ?_
 refine cM 8 Ig Ig (by kernel_rfl) Ig hd (fun w' _=>bK HG Ig np (by omega)) ?_
 refine fN 9 Ig Ig (by kernel_rfl) Ig hd (fun w' hw'=>aj Hz Ig (cell 2 _ Ig _ hw')) ?_
 refine t7 (fun p:Value×Value=>[(9,p.1),(11,p.2),(14,x),(17,y)]) (fun p w'=>aE w2 w'∧bZ w2.heap.size l p.1 w'∧bQ [xx b] p.2 w') #[true,true,true,true,false,true,true,false,true,true,false,false] 4 ?_ (fun join=>kR 1 3 (by kernel_rfl) Ig Ig ?_ ?_)
 ·rintro⟨r9,r11⟩ w3 ⟨hx3,ho9,ho11⟩
  dsimp only at ho9 ho11
  refine cv 4 (by kernel_rfl) Ig ?_
  obtain⟨r4,w4,hr4,ho4,hg4⟩:=dc (ty:=22) ho9 ho11 (by simp only[List.length_cons,List.length_nil];omega) hx3.size
  have hx4:=hx3.of_grew hg4 ho9.ge
  refine aZ Ig Ig hr4 (aX hx4 ?_)
  refine cv 7 (by kernel_rfl) Ig ?_
  refine ak vO Ig Ig (vQ hx4 ho4 (hx.ext e1) (by simp only[List.length_append,List.length_cons,List.length_nil];omega)) ?_
  rintro r5 w5 ⟨ho5,hx5,_⟩
  refine aX hx5 (cv 10 (by kernel_rfl) Ig ?_)
  refine ak vO Ig Ig (vQ hx5 ho5 (hy.ext e1) (by simp only[List.length_append,List.length_cons,List.length_nil];omega)) ?_
  rintro r6 w6 ⟨ho6,hx6,_⟩
  refine aX hx6 (cv 11 (by kernel_rfl) Ig ?_)
  refine ac Ig Ig (aX hx6 (mw (by kernel_rfl) (ab (ay ?_))))
  refine aD Ig Ig ?_
  refine⟨_,rfl,e1.trans hx6,?_⟩
  have:=ho6.low e1.size
  simpa only[nn,List.append_assoc] using this
 ·refine ak jb Ig Ig (jc ((hv.ext e1).ext hd) (by omega)) ?_
  rintro r9 w3 ⟨hx3,ho9⟩
  obtain⟨r11,w4,hr11,hx4,ho11,_⟩:=ej (w:=w3) w3.heap.size [xx b] (by simp) (Nat.le_refl _)
  refine aX (hd.trans hx3) (cv 3 (by kernel_rfl) Ig ?_)
  refine aH (vs:=[(0,U8 (xx b))]) Ig Ig hr11 (aX ((hd.trans hx3).trans hx4) (Cu (by kernel_rfl) (join _ _ ⟨(r9,r11),⟨rfl,rfl,rfl,rfl,trivial⟩,(hd.trans hx3).trans hx4,?_,ho11.bts⟩)))
  exact(ho9.ext hx4).low hd.size
 ·obtain⟨r11,w3,hr11,hx3,ho11,_⟩:=ej (w:=w2.drew) w2.heap.size [xx b] (by simp) hd.size
  refine aH (vs:=[(0,U8 (xx b))]) Ig Ig hr11 (aX (hd.trans hx3) (cv 1 (by kernel_rfl) Ig ?_))
  refine ak jb Ig Ig (jc (((hv.ext e1).ext hd).ext hx3) (by omega)) ?_
  rintro r9 w4 ⟨hx4,ho9⟩
  refine aX ((hd.trans hx3).trans hx4) (Cu (by kernel_rfl) (join _ _ ⟨(r9,r11),⟨rfl,rfl,rfl,rfl,trivial⟩,(hd.trans hx3).trans hx4,?_,ho11.bts.ext hx4⟩))
  exact ho9.low (hd.trans hx3).size
theorem fL {b:Bool} {n m:List UInt32} {rv:Value} (hv:bQ l v w) (hr:dV b n m rv w) (hl:l.length+4*n.length+4*m.length≤8796093022208):
 Calls Tryz.prog 81 #[v,rv] w (bL fun r w'=>aE w w'∧bZ w.heap.size (l++nn b n m) r w'):=by
 obtain⟨x,y,rfl,hx,hy⟩:=hr
 have hn:=vP n (by have:=hx.len;omega)
 refine enter (vs:=[v,.agg #[B b,x,y]]) Tryz.func81 Ig Ig Ig ?_
 refine af (aa (cI Ig Ig m4 ?_))
 have e1:aE w (w.alloc (.cells (Value.agg #[B b,x,y]).cells 46)):=aE.new w _
 have hbx:=heap_alloc_new w (.cells (Value.agg #[B b,x,y]).cells 46)
 revert e1 hbx
 generalize w.alloc (.cells (Value.agg #[B b,x,y]).cells 46)=w1
 intro e1 hbx
 have cell:∀(i:Nat) (u:Value),(#[B b,x,y]:Array Value)[i]? =some u→∀w',aE w1 w'→w'.cell? ⟨w.heap.size,i,none⟩=some u:=fun i u hu w' hw'=>gE (hw'.at hbx) hu
 refine ac Ig Ig (ag (ab (af (aa (ac Ig Ig (ag (ab ?_)))))))
 refine af (ff (fun _:Unit=>[(0,v),(3,.pointer (some ⟨w.heap.size,0,none⟩)),(5,U8 (xx b))]) (fun _ w'=>w'=w1) ?_ ?_)
 ·refine af (aa ?_)
  refine ah Ig Ig (bK HG Ig qO (by omega)) ?_
  refine am Ig Ig (aj HO Ig (cell 0 _ Ig _ (aE.refl _))) ?_
  refine ag (ab ?_)
  cases b with
  |true=>exact ce rfl (aa (ac rfl rfl (ag (cA () ⟨rfl,rfl,rfl,trivial⟩ rfl))))
  |false=>exact eS rfl (ax (cA () ⟨rfl,rfl,rfl,trivial⟩ rfl))
 rintro _ w2 rfl
 refine ab (af ?_)
 refine t6 (aE w2) 13 Ig (by kernel_rfl) ?_
 have hd:aE w2 w2.drew:=(aE.refl w2).drew
 refine li 1 Ig Ig (by kernel_rfl) Ig hd ?_
 refine li 3 Ig Ig (by kernel_rfl) Ig hd ?_
 refine cM 6 Ig Ig (by kernel_rfl) Ig hd (fun w' _=>bK HG Ig np (by omega)) ?_
 refine fN 7 Ig Ig (by kernel_rfl) Ig hd (fun w' hw'=>aj Hz Ig (cell 1 _ Ig _ hw')) ?_
 refine cM 9 Ig Ig (by kernel_rfl) Ig hd (fun w' _=>bK HG Ig np (by omega)) ?_
 refine fN 10 Ig Ig (by kernel_rfl) Ig hd (fun w' hw'=>aj Hz Ig (cell 2 _ Ig _ hw')) ?_
 have hv2:bQ l v w2:=hv.ext e1
 refine t7 (fun p:Value×Value=>[(10,p.1),(12,p.2),(15,x),(18,y)]) (fun p w'=>aE w2 w'∧bZ w2.heap.size l p.1 w'∧bQ [xx b] p.2 w') #[true,true,true,true,true,false,true,true,false,true,true,false,false] 4 ?_ (fun join=>kR 0 4 (by kernel_rfl) Ig Ig ?_ ?_)
 ·rintro⟨r9,r11⟩ w3 ⟨hx3,ho9,ho11⟩
  dsimp only at ho9 ho11
  refine cv 5 (by kernel_rfl) Ig ?_
  obtain⟨r4,w4,hr4,ho4,hg4⟩:=dc (ty:=22) ho9 ho11 (by simp only[List.length_cons,List.length_nil];omega) hx3.size
  have hx4:=hx3.of_grew hg4 ho9.ge
  refine aZ Ig Ig hr4 (aX hx4 ?_)
  refine cv 8 (by kernel_rfl) Ig ?_
  refine ak kQ Ig Ig (kS ho4.bts ((hx.ext e1).ext hx4) (by simp only[List.length_append,List.length_cons,List.length_nil];omega)) ?_
  rintro r5 w5 ⟨hx5,ho5⟩
  refine aX (hx4.trans hx5) (cv 11 (by kernel_rfl) Ig ?_)
  refine ak kQ Ig Ig (kS ho5.bts ((hy.ext e1).ext (hx4.trans hx5)) (by simp only[List.length_append,List.length_cons,List.length_nil];omega)) ?_
  rintro r6 w6 ⟨hx6,ho6⟩
  have q6:=(hx4.trans hx5).trans hx6
  refine aX q6 (cv 12 (by kernel_rfl) Ig ?_)
  refine ac Ig Ig (aX q6 (mw (by kernel_rfl) (ab (ay ?_))))
  refine aD Ig Ig ?_
  refine⟨_,rfl,e1.trans q6,?_⟩
  have:=ho6.low (e1.trans (hx4.trans hx5)).size
  simpa only[nn,List.append_assoc] using this
 ·obtain⟨r8,w3,hr8,hx3,ho8,_⟩:=ej (w:=w2.drew) w2.heap.size [] (by simp) hd.size
  refine aH (vs:=[]) Ig Ig hr8 (aX (hd.trans hx3) (kR 2 4 (by kernel_rfl) Ig Ig ?_ ?_))
  ·obtain⟨r4,w4,hr4,ho4,hg4⟩:=dc (ty:=22) ho8 ((hv2.ext hd).ext hx3) (by simp only[List.length_nil];omega) (hd.trans hx3).size
   have hx4:=(hd.trans hx3).of_grew hg4 ho8.ge
   refine aZ Ig Ig hr4 (aX hx4 (cv 4 (by kernel_rfl) Ig ?_))
   obtain⟨r11,w5,hr11,hx5,ho11,_⟩:=ej (w:=w4) w4.heap.size [xx b] (by simp) (Nat.le_refl _)
   refine aH (vs:=[(0,U8 (xx b))]) Ig Ig hr11 (aX (hx4.trans hx5) (Cu (by kernel_rfl) (join _ _ ⟨(r4,r11),⟨rfl,rfl,rfl,rfl,trivial⟩,hx4.trans hx5,?_,ho11.bts⟩)))
   exact ho4.ext hx5
  ·obtain⟨r11,w4,hr11,hx4,ho11,hb11⟩:=ej (w:=w3) w3.heap.size [xx b] (by simp) (Nat.le_refl _)
   have hx04:=(hd.trans hx3).trans hx4
   refine aH (vs:=[(0,U8 (xx b))]) Ig Ig hr11 (aX hx04 (cv 2 (by kernel_rfl) Ig ?_))
   obtain⟨r4,w5,hr4,ho4,hg4⟩:=dc (ty:=22) (ho8.ext hx4) (hv2.ext hx04) (by simp only[List.length_nil];omega) hx04.size
   have hx5:=hx04.of_grew hg4 ho8.ge
   have hb5:=ho11.grown hg4 (.inr (by rw[hb11];intro he;have:=ho8.lt _ he.symm;omega))
   exact aZ rfl rfl hr4 (aX hx5 (Cu (by kernel_rfl) (join _ _ ⟨(r4,r11),⟨rfl,rfl,rfl,rfl,trivial⟩,hx5,ho4,hb5.bts⟩)))
 ·obtain⟨r11,w3,hr11,hx3,ho11,hb11⟩:=ej (w:=w2.drew) w2.drew.heap.size [xx b] (by simp) (Nat.le_refl _)
  have hx03:=hd.trans hx3
  refine aH (vs:=[(0,U8 (xx b))]) Ig Ig hr11 (aX hx03 (cv 0 (by kernel_rfl) Ig ?_))
  obtain⟨r8,w4,hr8,hx4,ho8,hb8⟩:=ej (w:=w3) w2.heap.size [] (by simp) hx03.size
  have hx04:=hx03.trans hx4
  refine aH (vs:=[]) Ig Ig hr8 (aX hx04 (cv 2 (by kernel_rfl) Ig ?_))
  obtain⟨r4,w5,hr4,ho4,hg4⟩:=dc (ty:=22) ho8 (hv2.ext hx04) (by simp only[List.length_nil];omega) hx04.size
  have hx5:=hx04.of_grew hg4 ho8.ge
  have hb5:=(ho11.ext hx4).grown hg4 (.inr (by rw[hb8];intro he;have:=ho11.lt _ he;omega))
  exact aZ rfl rfl hr4 (aX hx5 (Cu (by kernel_rfl) (join _ _ ⟨(r4,r11),⟨rfl,rfl,rfl,rfl,trivial⟩,hx5,ho4,hb5.bts⟩)))
end
end Go.Rl
namespace Go.Rl
open Go.RowKit Go.Proofs
section
variable {P:Program} {w w':World}
theorem aI {s:TypeId} {fs:Array Field} {f:Field} {n g o:Nat} (hs:P.underlying s=some (.struct fs)) (hf:fs[n]? =some f) (hk:(P.cellsOf f.type==0)=false) (ho:f.offset=o):
 (Instr.fieldAt s (.pointer (some ⟨g,0,none⟩)) n).run P w=.ok (.pointer (some ⟨g,o,none⟩)) w:=by
 have hk':P.cellsOf f.type≠0:=by simpa using hk
 obtain⟨k,hk1⟩:∃k,(P.info? f.type).map (·.size)=some k:=by
  cases hi:(P.info? f.type).map (·.size) with
  |none=>exact absurd (by simp[Program.cellsOf,hi]) hk'
  |some k=>exact⟨k,rfl⟩
 have hk0:k≠0:=by
  intro h
  apply hk'
  simp[Program.cellsOf,hk1,h]
 rw[bK hs hf hk1 hk0,ho,nQ,Nat.zero_add]
end
section
variable {w w':World}
theorem dV.stable (b:Bool) (n m:List UInt32):be (dV b n m):=fun _ _ _ h hx=>h.ext hx
theorem dV.mk {b:Bool} {n m:List UInt32} {x y:Value} (hx:bu n x w) (hy:bu m y w):dV b n m (.agg #[B b,x,y]) w:=⟨x,y,rfl,hx,hy⟩
theorem bI.ldR {g:Nat} {T:TypeId} {a b c:Value} (h:bI g T [a,b,c] w):(Instr.loadAt 46 (.pointer (some ⟨g,0,none⟩))).run Tryz.prog w=.ok (.agg #[a,b,c]) w:=
 kO h (fun j v hj=>by simpa using hj) Tryz.underlying46 rfl ey
theorem xS {b:Bool} {n m:List UInt32} {v:Value} (h:dV b n m v w):
 ∃g x y w',(Instr.box 46 v).run Tryz.prog w=.ok (.pointer (some ⟨g,0,none⟩)) w'∧aE w w'∧bI g 46 [B b,x,y] w'∧bu n x w'∧bu m y w':=by
 obtain⟨x,y,rfl,hx,hy⟩:=h
 exact⟨_,x,y,_,m4,aE.new w _,bI.new (T:=46) (.agg #[B b,x,y]) rfl,hx.ext (aE.new w _),hy.ext (aE.new w _)⟩
theorem Cv:(Tryz.prog.info? 46).map (·.zero)=some (some (.agg #[B false,.slice none 0 0,.slice none 0 0])):=by kernel_rfl
theorem jd:∃g w',(Instr.alloc 46 true (.tuple #[])).run Tryz.prog w=.ok (.pointer (some ⟨g,0,none⟩)) w'∧w.heap.size≤g∧aE w w'∧bI g 46 [B false,.slice none 0 0,.slice none 0 0] w':=
 aR Cv rfl
theorem qR (b:Bool) (A C:Option Addr) (n c m d:Nat) (l:List UInt32):∀(j:Nat) (u:Value),u∈l.map bg→(#[.bool b,.slice A n c,.slice C m d]:Array Value)[j]? ≠some u:=by
 intro j u hu
 obtain⟨x,_,rfl⟩:=List.mem_map.1 hu
 match j with
 |0=>simp[bg]
 |1=>simp[bg]
 |2=>simp[bg]
 |j+3=>simp
theorem bu.byR {l:List UInt32} {v:Value} {g:Nat} {T:TypeId} {b:Bool} {x y:Value} (h:bu l v w) (hb:bI g T [B b,x,y] w) (hx:∃A n c,x=.slice A n c) (hy:∃A n c,y=.slice A n c) (hw:w.grownBy w' (some g)):bu l v w':=by
 obtain⟨A,n,c,rfl⟩:=hx
 obtain⟨C,m,d,rfl⟩:=hy
 exact Sl.keep h hb (qR b A C n c m d l) hw
theorem bu.isS {l:List UInt32} {v:Value} (h:bu l v w):∃A n c,v=.slice A n c:=by
 obtain⟨A,n,c,rfl,_⟩:=h
 exact⟨A,n,c,rfl⟩
theorem bI.stR {g:Nat} {b c:Bool} {x y v:Value} {n m:List UInt32} (h:bI g 46 [B b,x,y] w) (hx:∃A n c,x=.slice A n c) (hy:∃A n c,y=.slice A n c) (hv:dV c n m v w):
 ∃p q w',v=.agg #[B c,p,q]∧(Instr.storeAt 46 (.pointer (some ⟨g,0,none⟩)) v).run Tryz.prog w=.ok () w'∧w.grownBy w' (some g)∧bI g 46 [B c,p,q] w'∧bu n p w'∧bu m q w':=by
 obtain⟨p,q,rfl,hp,hq⟩:=hv
 obtain⟨A,n1,c1,rfl⟩:=hp.isS
 obtain⟨C,n2,c2,rfl⟩:=hq.isS
 refine⟨_,_,_,rfl,gw (m:=[B c,.slice A n1 c1,.slice C n2 c2]) h Ig ey ?_,bd w g _,h.row _,hp.byR h hx hy (bd w g _),hq.byR h hx hy (bd w g _)⟩
 intro u hu
 simp only[List.mem_cons,List.not_mem_nil,or_false] at hu
 rcases hu with rfl|rfl|rfl<;>rfl
theorem zn {P:Program} {x y:Operand} {t:TypeId} (ht:P.underlying t=some .bool) {a b:Bool}:(bin .eql t x y (B a) (B b)).run P w=.ok (B (decide (a=b))) w:=by
 have h:(Op.equal t (B a) (B b)).run P w=.ok (decide (a=b)) w:=by
  show(Op.equalIn (9999+1) t (.bool a) (.bool b)).run P w=_
  unfold Op.equalIn
  cases a<;>cases b<;>simp[run_underlying ht]
 show(do pure (Value.bool (←Op.equal t (B a) (B b))):Sem Value).run P w=_
 rw[Sem.run_bind,h];rfl
theorem nq {c:Bool} {p q:Value} (hp:∃A n c,p=.slice A n c) (hq:∃A n c,q=.slice A n c):(Instr.build 46 #[(0,B c),(1,p),(2,q)]).run Tryz.prog w=.ok (.agg #[B c,p,q]) w:=by
 obtain⟨A,n,d,rfl⟩:=hp
 obtain⟨C,m,e,rfl⟩:=hq
 exact run_build _ _ _ #[B c,.slice A n d,.slice C m e] (by kernel_rfl)
theorem AA {c:Bool} {p:Value} (hp:∃A n c,p=.slice A n c):(Instr.build 46 #[(0,B c),(1,p)]).run Tryz.prog w=.ok (.agg #[B c,p,.slice none 0 0]) w:=by
 obtain⟨A,n,d,rfl⟩:=hp
 exact run_build _ _ _ #[B c,.slice A n d,.slice none 0 0] (by kernel_rfl)
theorem gK:(Instr.build 46 #[]).run Tryz.prog w=.ok (.agg #[B false,.slice none 0 0,.slice none 0 0]) w:=
 run_build _ _ _ #[B false,.slice none 0 0,.slice none 0 0] (by kernel_rfl)
end
theorem gk:∀{l m:List UInt32},l.length=m.length→val l=val m→l=m
 |[],[],_,_=>rfl
 |[],_::_,h,_=>by simp at h
 |_::_,[],h,_=>by simp at h
 |x::l,y::m,h,hv=>by
  have hx:=cq x
  have hy:=cq y
  rw[val,val] at hv
  have h1:x.toNat=y.toNat:=by omega
  have h2:val l=val m:=by omega
  rw[j4 h1,gk (by simpa using h) h2]
def ud (m:List UInt32):List UInt32:=if val m=0 then[1] else m
theorem Cw:val [1]=1:=rfl
theorem Cx:lb 1=[1]:=rfl
theorem Ga (m:List UInt32):val (ud m)=if val m=0 then 1 else val m:=by unfold ud;split<;>simp_all [Cw]
theorem Gb (m:List UInt32):0<val (ud m):=by rw[Ga];split<;>omega
def Ez (s:Bool) (n:Nat):Bool:=s&&decide (0<n)
def BC (n d:Nat):List UInt32:=if d/Nat.gcd n d=1 then[] else lb (d/Nat.gcd n d)
def rv (s:Bool) (n m:List UInt32):Bool:=decide (s=Ez s (val n)∧n=lb (val n/Nat.gcd (val n) (val (ud m)))∧m=BC (val n) (val (ud m)))
theorem EA {n d:Nat} (h:0<d):0<Nat.gcd n d:=Nat.gcd_pos_of_pos_right n h
theorem Gc {x:Nat}:lb x=[1]↔x=1:=⟨fun h=>B1 (h.trans Cx.symm),fun h=>by rw[h,Cx]⟩
theorem EB {d:Nat} (h:0<d):BC 0 d=[]:=by unfold BC;rw[Nat.gcd_zero_left,Nat.div_self h,if_pos rfl]
theorem Cy {n:Nat}:BC n 1=[]:=by unfold BC;rw[Nat.gcd_one_right];rfl
end Go.Rl
namespace Go.Rl
open Go.RowKit Go.Proofs
theorem AB:aw Tryz.prog 184:=⟨_,Tryz.func184,by kernel_rfl,rfl⟩
theorem my:aw Tryz.prog 180:=⟨_,Tryz.func180,by kernel_rfl,rfl⟩
theorem vR:aw Tryz.prog 163:=⟨_,Tryz.func163,by kernel_rfl,rfl⟩
theorem xT:aw Tryz.prog 162:=⟨_,Tryz.func162,by kernel_rfl,rfl⟩
theorem vS:aw Tryz.prog 137:=⟨_,Tryz.func137,by kernel_rfl,rfl⟩
theorem oW:aw Tryz.prog 99:=⟨_,Tryz.func99,by kernel_rfl,rfl⟩
theorem AC {w:World}:
 Calls Tryz.prog 184 #[] w (bL fun r w'=>aE w w'∧bu [1] r w'):=by
 refine enter (vs:=[]) Tryz.func184 Ig Ig Ig ?_
 refine af (aa (ac Ig Ig (ag (ab (af (aa ?_))))))
 obtain⟨v1,w1,hr1,x1,o1,ob1⟩:=iA Tryz.underlying44 (w:=w) w.heap.size [1] (by simp) (Nat.le_refl _)
 refine aH (vs:=[(0,bg (1))]) Ig Ig hr1 (ac Ig Ig (ag (ab (ay (aD Ig Ig ?_)))))
 exact⟨_,rfl,x1,o1.wds⟩
theorem mz {w:World} {x:Nat} {v:Value} (hv:bu (lb x) v w):
 Calls Tryz.prog 180 #[v] w (bL fun r w'=>w=w'∧r=B (decide (x=1))):=by
 refine enter (vs:=[v]) Tryz.func180 Ig Ig Ig ?_
 obtain⟨t,ht⟩:∃t,t=lb x:=⟨_,rfl⟩
 rw[←ht] at hv
 have h1:x=1↔t=[1]:=by rw[ht];exact Gc.symm
 refine af (aa (ac Ig Ig (ag (ab (af (aa (ae Ig Ig (aO Ig Ig (bf Hz hv) (ai Ig Ig Ig (bJ) ?_)))))))))
 refine ae Ig Ig ?_
 refine dM (fun h6=>?_) (fun h6=>?_)
 ·refine ao Ig (ae Ig Ig (ao Ig ?_))
  obtain⟨a8,p8,q8⟩:=cr Hz hv (i:=0) (by omega) .i64
  refine aq Ig Ig Ig (p8 _) (ao Ig (am Ig Ig (aj HB Ig q8) (ao Ig (ai (v:=bg 1) Ig Ig Ig (nS) (aG Ig Ig Ig ?_)))))
  refine ac Ig Ig (ag (ab (ay (aD Ig Ig ?_))))
  exact⟨_,rfl,rfl,by
   first
   |exact congrArg B (decide_eq_false fun h=>h6 (by rw[h1.1 h];rfl)).symm
   |exact congrArg B (decide_eq_decide.2 (by
     rw[h1]
     obtain⟨y,rfl⟩:=List.length_eq_one_iff.1 (show t.length=1 by omega)
     simp))⟩
 ·refine ap Ig Ig Ig (ap Ig Ig Ig (ap Ig Ig Ig (ap Ig Ig Ig (aJ Ig Ig Ig (ac Ig Ig (ag (ab (ay (aD Ig Ig ?_)))))))))
  exact⟨_,rfl,rfl,by
   first
   |exact congrArg B (decide_eq_false fun h=>h6 (by rw[h1.1 h];rfl)).symm
   |exact congrArg B (decide_eq_decide.2 (by
     rw[h1]
     obtain⟨y,rfl⟩:=List.length_eq_one_iff.1 (show t.length=1 by omega)
     simp))⟩
theorem vT {w:World} {b:Bool} {n m:List UInt32} {v:Value} (hv:dV b n m v w) (hl:m.length≤1099511627776):
 Calls Tryz.prog 163 #[v] w (bL fun r w'=>aE w w'∧bu (ud m) r w'):=by
 refine enter (vs:=[v]) Tryz.func163 Ig Ig Ig ?_
 refine af (aa ?_)
 obtain⟨g1,y1,z1,w1,hr1,x1,k1,n1,d1⟩:=xS hv
 refine cI Ig Ig hr1 (ac Ig Ig (ag (ab (af (af (aa (ah Ig Ig (aI (o:=2) HG Ig (by kernel_rfl) Ig) ?_)))))))
 refine am Ig Ig (aj Hz Ig (k1.cell (i:=2) Ig)) (ak xK Ig Ig (xL d1 hl) ?_)
 rintro v5 _ ⟨rfl,rfl⟩
 refine ai Ig Ig Ig (bJ) (ag (ab ?_))
 refine bi Ig (fun h6=>?_) (fun h6=>?_)
 ·have h0:val m=0:=by
   rcases Nat.eq_zero_or_pos (val m) with h|h
   ·exact h
   ·have:=qq h
    omega
  refine af (aa (ak (vs:=[]) AB Ig Ig (AC) ?_))
  rintro v7 w7 ⟨x7,b7⟩
  refine ac Ig Ig (ag (ab (ay (aB (aD Ig Ig ?_)))))
  exact⟨_,rfl,(x1.trans x7),by unfold ud;rw[if_pos h0];exact b7⟩
 ·have h0:val m≠0:=fun h=>h6 (by rw[h];rfl)
  refine ax (ab (af (aa (ah Ig Ig (aI (o:=2) HG Ig (by kernel_rfl) Ig) (am Ig Ig (aj Hz Ig (k1.cell (i:=2) Ig)) ?_)))))
  refine ac Ig Ig (ag (ab (ay (aD Ig Ig ?_))))
  exact⟨_,rfl,x1,by unfold ud;rw[if_neg h0];exact d1⟩
theorem xU {w:World} {s:Bool} {n d:List UInt32} {x y:Value} (hn:bu n x w) (hd:bu d y w) (hnl:n.length≤274877906944) (hdl:d.length≤274877906944) (hd0:0<val d):
 Calls Tryz.prog 162 #[B s,x,y] w (bL fun r w'=>aE w w'∧dV (Ez s (val n)) (lb (val n/Nat.gcd (val n) (val d))) (BC (val n) (val d)) r w'):=by
 refine enter (vs:=[B s,x,y]) Tryz.func162 Ig Ig Ig ?_
 have hnn:=gx (cd n)
 have hdd:=gx (cd d)
 have hg0:=EA (n:=val n) hd0
 refine af (aa ?_)
 obtain⟨g6,w6,hr6,l6,x6,k6⟩:=jd (w:=w)
 refine aU Ig hr6 (ag (ab (af (aa (ae Ig Ig (ak j6 Ig Ig (j7 (hn.ext x6) (by omega)) ?_))))))
 rintro v9 w9 ⟨x9,b9⟩
 refine ac Ig Ig (ag (ab (af (af (aa (ae Ig Ig (aO (r:=I ((lb (val n)).length:Int)) Ig Ig (bf Hz b9) ?_)))))))
 refine ai Ig Ig Ig (bJ) (ag (ab ?_))
 refine bi Ig (fun h12=>?_) (fun h12=>?_)
 ·have hn0:val n=0:=gQ.1 (by omega)
  refine af (aa ?_)
  refine bA (vs:=[]) Ig Ig gK ?_
  obtain⟨p,q,w3,hp,hs,q3,k3,n3,d3⟩:=(k6.ext (x9)).stR ⟨_,_,_,rfl⟩ ⟨_,_,_,rfl⟩ (dV.mk (b:=false) (bu.nil _) (bu.nil _))
  refine az Ig Ig (hs) (ag (ab (ay (aB ?_))))
  refine eo Ig Ig k3 HG Ig ey ?_
  exact⟨_,rfl,((x6.trans x9)).of_new q3 l6,p,q,by rw[hn0];unfold Ez;simp,by rw[hn0,Nat.zero_div];exact n3,by rw[hn0,EB hd0];exact d3⟩
 ·have hn0:0<val n:=by
   rcases Nat.eq_zero_or_pos (val n) with h|h
   ·rw[h] at h12;simp[fv] at h12
   ·exact h
  have hcN:Ez s (val n)=s:=by unfold Ez;rw[decide_eq_true hn0,Bool.and_true]
  rw[hcN]
  refine ax (ab (af (aa (ae Ig Ig (ak j6 Ig Ig (j7 (hd.ext (x6.trans x9)) (by omega)) ?_)))))
  rintro v15 w15 ⟨x15,b15⟩
  refine ac Ig Ig (ag (ab (af (af (aa (ae Ig Ig (ak my Ig Ig (mz b15) ?_)))))))
  rintro v17 _ ⟨rfl,rfl⟩
  refine ag (ab ?_)
  refine bi Ig (fun h17=>?_) (fun h17=>?_)
  ·refine af (aa (ae Ig Ig (ae Ig Ig ?_)))
   refine bA (vs:=[(0,B s),(1,v9)]) Ig Ig (AA b9.isS) ?_
   obtain⟨p,q,w3,hp,hs,q3,k3,n3,d3⟩:=(k6.ext ((x9.trans x15))).stR ⟨_,_,_,rfl⟩ ⟨_,_,_,rfl⟩ (dV.mk (b:=s) (b9.ext (x15)) (bu.nil _))
   refine az Ig Ig (hs) (ag (ab (ay (aB ?_))))
   refine eo Ig Ig k3 HG Ig ey ?_
   exact⟨_,rfl,(((x6.trans x9).trans x15)).of_new q3 l6,p,q,rfl,by rw[h17,Nat.gcd_one_right,Nat.div_one];exact n3,by rw[h17,Cy];exact d3⟩
  ·obtain⟨g,hg⟩:∃g,g=Nat.gcd (val n) (val d):=⟨_,rfl⟩
   rw[←hg] at hg0⊢
   have hgl:(lb g).length≤d.length:=Nat.le_trans (lO (by rw[hg];exact Nat.gcd_le_right _ hd0)) hdd
   refine ax (ab (af ?_))
   refine ff (fun p:Value×Value=>[(0,B s),(1,p.1),(2,p.2),(6,.pointer (some ⟨g6,0,none⟩))]) (fun p w'=>aE w15 w'∧bu (lb (val n/g)) p.1 w'∧bu (lb (val d/g)) p.2 w') ?_ ?_
   ·refine af (aa (ae Ig Ig (ae Ig Ig (ak Ax Ig Ig ((by have:=Ay (b9.ext x15) b15 (by omega) (by omega);rw[bH,bH] at this;exact this)) ?_))))
    rintro v23 w23 ⟨x23,b23⟩
    rw[←hg] at b23
    refine ac Ig Ig (ag (ab (af (aa (ae Ig Ig (ak my Ig Ig (mz b23) ?_))))))
    rintro v25 _ ⟨rfl,rfl⟩
    refine cx Ig Ig tL (ag (ab ?_))
    refine bi Ig (fun h26=>?_) (fun h26=>?_)
    ·refine af (aa (ae Ig Ig (ae Ig Ig (ak iD Ig Ig ((by have:=iE (b9.ext (x15.trans x23)) b23 (by omega) (by omega) (by rw[bH];exact hg0);rw[bH,bH] at this;exact this)) ?_))))
     rintro v30 w30 ⟨x30,q1,s1,rfl,c1,e1⟩
     refine ae Ig Ig (al Ig Ig (et) (al Ig Ig eu (al Ig Ig ew (ac Ig Ig (ag (ab (aa (ae Ig Ig (ae Ig Ig ?_)))))))))
     refine ak iD Ig Ig ((by have:=iE (b15.ext (x23.trans x30)) (b23.ext x30) (by omega) (by omega) (by rw[bH];exact hg0);rw[bH,bH] at this;exact this)) ?_
     rintro v37 w37 ⟨x37,q2,s2,rfl,c2,e2⟩
     refine ae Ig Ig (al Ig Ig (et) (al Ig Ig eu (al Ig Ig ew (ac Ig Ig (ag ?_)))))
     exact cA (q1,q2) ⟨rfl,rfl,rfl,rfl,trivial⟩ ⟨((x23.trans x30).trans x37),by first|exact(c1.ext x37)|(rw[show g=1 from Classical.byContradiction fun h=>h26 h,Nat.div_one];exact(c1.ext x37)),by first|exact c2|(rw[show g=1 from Classical.byContradiction fun h=>h26 h,Nat.div_one];exact c2)⟩
    ·refine ax ?_
     exact cA (v9,v15) ⟨rfl,rfl,rfl,rfl,trivial⟩ ⟨x23,by first|exact(b9.ext (x15.trans x23))|(rw[show g=1 from Classical.byContradiction fun h=>h26 h,Nat.div_one];exact(b9.ext (x15.trans x23))),by first|exact(b15.ext x23)|(rw[show g=1 from Classical.byContradiction fun h=>h26 h,Nat.div_one];exact(b15.ext x23))⟩
   rintro⟨v1,v2⟩ w8 ⟨x8,b1,b2⟩
   refine ab (af ?_)
   refine ff (fun p:Value=>[(0,B s),(1,v1),(2,p),(6,.pointer (some ⟨g6,0,none⟩))]) (fun p w'=>w8=w'∧bu (BC (val n) (val d)) p w') ?_ ?_
   ·refine af (aa (ae Ig Ig (ak my Ig Ig (mz b2) ?_)))
    rintro v42 _ ⟨rfl,rfl⟩
    refine ag (ab ?_)
    refine bi Ig (fun h42=>?_) (fun h42=>?_)
    ·refine aa (ac Ig Ig (ag ?_))
     exact cA (.slice none 0 0) ⟨rfl,rfl,rfl,rfl,trivial⟩ ⟨rfl,by unfold BC;rw[←hg];first|(rw[if_pos h42];exact bu.nil _)|(rw[if_neg h42];exact b2)⟩
    ·refine ax ?_
     exact cA (v2) ⟨rfl,rfl,rfl,rfl,trivial⟩ ⟨rfl,by unfold BC;rw[←hg];first|(rw[if_pos h42];exact bu.nil _)|(rw[if_neg h42];exact b2)⟩
   rintro v2' _ ⟨rfl,b2'⟩
   refine ab (af (aa (ae Ig Ig (ae Ig Ig (ae Ig Ig ?_)))))
   refine bA (vs:=[(0,B s),(1,v1),(2,v2')]) Ig Ig (nq b1.isS b2'.isS) ?_
   obtain⟨p,q,w3,hp,hs,q3,k3,n3,d3⟩:=(k6.ext (((x9.trans x15).trans x8))).stR ⟨_,_,_,rfl⟩ ⟨_,_,_,rfl⟩ (dV.mk (b:=s) b1 b2')
   refine az Ig Ig (hs) (ag (ab (ay ?_)))
   refine eo Ig Ig k3 HG Ig ey ?_
   exact⟨_,rfl,((((x6.trans x9).trans x15).trans x8)).of_new q3 l6,p,q,rfl,n3,d3⟩
theorem Gd {m:List UInt32} (h:m.length≤137438953472):(ud m).length≤137438953472:=by
 unfold ud
 split
 ·simp
 ·exact h
theorem vU {w:World} {b:Bool} {n m:List UInt32} {v:Value} (hv:dV b n m v w) (hnl:n.length≤137438953472) (hml:m.length≤137438953472):
 Calls Tryz.prog 137 #[v] w (bL fun r w'=>aE w w'∧dV (Ez b (val n)) (lb (val n/Nat.gcd (val n) (val (ud m)))) (BC (val n) (val (ud m))) r w'):=by
 refine enter (vs:=[v]) Tryz.func137 Ig Ig Ig ?_
 refine af (aa ?_)
 obtain⟨g1,y1,z1,w1,hr1,x1,k1,n1,d1⟩:=xS hv
 refine cI Ig Ig hr1 ?_
 obtain⟨g2,w2,hr2,l2,x2,k2⟩:=jd (w:=w1)
 refine aU Ig hr2 (ag (ab (af (bk 7 [2,9] (by kernel_rfl) (by kernel_rfl) ?_))))
 refine aA Ig Ig (fun w hw=>aI (o:=0) HG Ig (by kernel_rfl) Ig) (av Ig Ig (fun w hw=>aj HO Ig (hw.cell_some (x2.cell_some (k1.cell (i:=0) Ig)))) ?_)
 refine aA Ig Ig (fun w hw=>aI (o:=1) HG Ig (by kernel_rfl) Ig) (av Ig Ig (fun w hw=>aj Hz Ig (hw.cell_some (x2.cell_some (k1.cell (i:=1) Ig)))) ?_)
 refine av rfl rfl (fun w hw=>((k1.ext x2).ext hw).ldR) (bM (S:=bu (ud m)) vR (bu.stable _) rfl (fun w hw=>by rintro _ rfl;exact vT (((dV.mk n1 d1).ext x2).ext hw) (by omega)) ?_)
 refine bM (S:=dV (Ez b (val n)) (lb (val n/Nat.gcd (val n) (val (ud m)))) (BC (val n) (val (ud m)))) xT (dV.stable _ _ _) rfl (fun w hw=>by rintro _ rfl _ rfl z hz;exact xU ((n1.ext x2).ext hw) hz (by omega) (by have:=Gd hml;omega) (Gb m)) ?_
 refine bn ?_
 intro wg1 xg1
 rintro _ rfl
 intro vg9 b9
 obtain⟨p,q,w3,hp,hs,q3,k3,n3,d3⟩:=(k2.ext xg1).stR ⟨_,_,_,rfl⟩ ⟨_,_,_,rfl⟩ b9
 refine az Ig Ig (hs) (ag (ab (ay ?_)))
 refine eo Ig Ig k3 HG Ig ey ?_
 exact⟨_,rfl,(((x1.trans x2).trans xg1)).of_new q3 (Nat.le_trans x1.size l2),p,q,rfl,n3,d3⟩
theorem cp {x y:Nat}:nZ x y=0↔x=y:=by
 unfold nZ
 split
 ·omega
 ·split<;>omega
theorem t8 {b:Bool} {n:List UInt32}:rv b n []=decide (b=Ez b (val n)∧n=lb (val n)):=by
 unfold rv
 rw[show val (ud [])=1 from rfl,Nat.gcd_one_right,Nat.div_one,Cy]
 simp
theorem oY {w:World} {b:Bool} {n m:List UInt32} {v:Value} (hv:dV b n m v w) (hnl:n.length≤137438953472) (hml:m.length≤137438953472):
 Calls Tryz.prog 99 #[v] w (bL fun r w'=>aE w w'∧r=B (rv b n m)):=by
 refine enter (vs:=[v]) Tryz.func99 Ig Ig Ig ?_
 obtain⟨b',hb'⟩:∃b',b'=Ez b (val n):=⟨_,rfl⟩
 obtain⟨n',hn'⟩:∃n',n'=lb (val n/Nat.gcd (val n) (val (ud m))):=⟨_,rfl⟩
 obtain⟨m',hm'⟩:∃m',m'=BC (val n) (val (ud m)):=⟨_,rfl⟩
 have hrv:rv b n m=decide (b=b'∧n=n'∧m=m'):=by rw[hb',hn',hm'];rfl
 refine af (aa ?_)
 obtain⟨g1,y1,z1,w1,hr1,x1,k1,n1,d1⟩:=xS hv
 refine cI Ig Ig hr1 (ac Ig Ig (ag (ab (af (af (aa (ah Ig Ig (aI (o:=2) HG Ig (by kernel_rfl) Ig) ?_)))))))
 refine am Ig Ig (aj Hz Ig (k1.cell (i:=2) Ig)) (aO Ig Ig (bf Hz d1) (ai Ig Ig Ig (bJ) ?_))
 refine ag (ab ?_)
 refine bi Ig (fun h7=>?_) (fun h7=>?_)
 ·have hm0:m=[]:=List.eq_nil_of_length_eq_zero (by omega)
  subst hm0
  refine af ?_
  cases b
  ·refine aa (ah Ig Ig (aI (o:=1) HG Ig (by kernel_rfl) Ig) (am Ig Ig (aj Hz Ig (k1.cell (i:=1) Ig)) ?_))
   refine ak oP Ig Ig (oQ n1) ?_
   rintro v10 _ ⟨rfl,rfl⟩
   refine ae Ig Ig ?_
   refine dM (fun h11=>?_) (fun h11=>?_)
   ·refine ao Ig (ah Ig Ig (aI (o:=0) HG Ig (by kernel_rfl) Ig) (ao Ig (am Ig Ig (aj HO Ig (k1.cell (i:=0) Ig)) ?_)))
    refine ao Ig (cx Ig Ig cZ (ao Ig (ae Ig Ig (ap Ig Ig Ig (ap Ig Ig Ig (ap Ig Ig Ig (ap Ig Ig Ig (ao Ig (aG Ig Ig Ig (aG Ig Ig Ig ?_))))))))))
    refine ac Ig Ig (ag (ab (ay (aB (aD Ig Ig ?_)))))
    exact⟨_,rfl,x1,by
     rw[t8]
     first
     |exact congrArg B (decide_eq_true ⟨rfl,h11.symm⟩).symm
     |exact congrArg B (decide_eq_false fun h=>h11 h.2.symm).symm
     |(have e:=@gQ (val n)
       rw[h11] at e
       refine congrArg B (decide_eq_decide.2 ⟨fun h=>⟨(decide_eq_true (show 0<val n by omega)).symm,h11.symm⟩,fun h=>?_⟩)
       have:0<val n:=of_decide_eq_true h.1.symm
       omega)⟩
   ·refine ap Ig Ig Ig (ap Ig Ig Ig (ap Ig Ig Ig (ap Ig Ig Ig (gO Ig Ig Ig (gO Ig Ig Ig (gO Ig Ig Ig (gO Ig Ig Ig (ap Ig Ig Ig ?_))))))))
    refine aJ Ig Ig Ig (ac Ig Ig (ag (ab (ay (aB (aD Ig Ig ?_))))))
    exact⟨_,rfl,x1,by
     rw[t8]
     first
     |exact congrArg B (decide_eq_true ⟨rfl,h11.symm⟩).symm
     |exact congrArg B (decide_eq_false fun h=>h11 h.2.symm).symm
     |(have e:=@gQ (val n)
       rw[h11] at e
       refine congrArg B (decide_eq_decide.2 ⟨fun h=>⟨(decide_eq_true (show 0<val n by omega)).symm,h11.symm⟩,fun h=>?_⟩)
       have:0<val n:=of_decide_eq_true h.1.symm
       omega)⟩
  ·refine aa (ah Ig Ig (aI (o:=1) HG Ig (by kernel_rfl) Ig) (am Ig Ig (aj Hz Ig (k1.cell (i:=1) Ig)) ?_))
   refine ak oP Ig Ig (oQ n1) ?_
   rintro v10 _ ⟨rfl,rfl⟩
   refine ae Ig Ig ?_
   refine dM (fun h11=>?_) (fun h11=>?_)
   ·refine ao Ig (ah Ig Ig (aI (o:=0) HG Ig (by kernel_rfl) Ig) (ao Ig (am Ig Ig (aj HO Ig (k1.cell (i:=0) Ig)) ?_)))
    refine ao Ig (cx Ig Ig cZ (ao Ig (ae Ig Ig (ao Ig (ah Ig Ig (aI (o:=1) HG Ig (by kernel_rfl) Ig) ?_)))))
    refine ao Ig (am Ig Ig (aj Hz Ig (k1.cell (i:=1) Ig)) (ao Ig (aO Ig Ig (bf Hz n1) ?_)))
    refine ao Ig (ai Ig Ig Ig (cB) (ao Ig (aJ Ig Ig Ig (aG Ig Ig Ig (ac Ig Ig (ag (ab (ay (aB (aD Ig Ig ?_))))))))))
    exact⟨_,rfl,x1,by
     rw[t8]
     first
     |exact congrArg B (decide_eq_true ⟨rfl,h11.symm⟩).symm
     |exact congrArg B (decide_eq_false fun h=>h11 h.2.symm).symm
     |(have e:=@gQ (val n)
       rw[h11] at e
       refine congrArg B (decide_eq_decide.2 ⟨fun h=>⟨(decide_eq_true (show 0<val n by omega)).symm,h11.symm⟩,fun h=>?_⟩)
       have:0<val n:=of_decide_eq_true h.1.symm
       omega)⟩
   ·refine ap Ig Ig Ig (ap Ig Ig Ig (ap Ig Ig Ig (ap Ig Ig Ig (gO Ig Ig Ig (gO Ig Ig Ig (gO Ig Ig Ig (gO Ig Ig Ig (ap Ig Ig Ig ?_))))))))
    refine aJ Ig Ig Ig (ac Ig Ig (ag (ab (ay (aB (aD Ig Ig ?_))))))
    exact⟨_,rfl,x1,by
     rw[t8]
     first
     |exact congrArg B (decide_eq_true ⟨rfl,h11.symm⟩).symm
     |exact congrArg B (decide_eq_false fun h=>h11 h.2.symm).symm
     |(have e:=@gQ (val n)
       rw[h11] at e
       refine congrArg B (decide_eq_decide.2 ⟨fun h=>⟨(decide_eq_true (show 0<val n by omega)).symm,h11.symm⟩,fun h=>?_⟩)
       have:0<val n:=of_decide_eq_true h.1.symm
       omega)⟩
 ·refine ax (ab (af (aa (am Ig Ig (k1.ldR) (ak vS Ig Ig (vU (dV.mk n1 d1) hnl hml) ?_)))))
  rintro v23 w23 ⟨x23,b23⟩
  rw[←hb',←hn',←hm'] at b23
  obtain⟨g3,w3,hr3,l3,x3,k3⟩:=jd (w:=w23)
  refine aU Ig hr3 ?_
  obtain⟨p,q,w4,hp,hs,q4,k4,n3,d3⟩:=k3.stR ⟨_,_,_,rfl⟩ ⟨_,_,_,rfl⟩ (b23.ext x3)
  refine az Ig Ig (hs) ?_
  have x4:=(x23.trans x3).of_new q4 (Nat.le_trans x23.size l3)
  refine ag (ab (af (aa (ah Ig Ig (aI (o:=0) HG Ig (by kernel_rfl) Ig) (am Ig Ig (aj HO Ig (x4.cell_some (k1.cell (i:=0) Ig))) ?_)))))
  refine ah Ig Ig (aI (o:=0) HG Ig (by kernel_rfl) Ig) (am Ig Ig (aj HO Ig (k4.cell (i:=0) Ig)) ?_)
  refine ai Ig Ig Ig (zn HO) (ae Ig Ig ?_)
  refine dM (fun h29=>?_) (fun h29=>?_)
  ·refine ao Ig (ah Ig Ig (aI (o:=1) HG Ig (by kernel_rfl) Ig) (ao Ig (am Ig Ig (aj Hz Ig (x4.cell_some (k1.cell (i:=1) Ig))) ?_)))
   refine ao Ig (aO Ig Ig (bf Hz (n1.ext x4)) (ao Ig (ah Ig Ig (aI (o:=1) HG Ig (by kernel_rfl) Ig) ?_)))
   refine ao Ig (am Ig Ig (aj Hz Ig (k4.cell (i:=1) Ig)) (ao Ig (aO Ig Ig (bf Hz n3) ?_)))
   refine ao Ig (ai Ig Ig Ig (bJ) (aG Ig Ig Ig (ae Ig Ig ?_)))
   refine dM (fun h38=>?_) (fun h38=>?_)
   ·refine ao Ig (ah Ig Ig (aI (o:=2) HG Ig (by kernel_rfl) Ig) (ao Ig (am Ig Ig (aj Hz Ig (x4.cell_some (k1.cell (i:=2) Ig))) ?_)))
    refine ao Ig (aO Ig Ig (bf Hz (d1.ext x4)) (ao Ig (ah Ig Ig (aI (o:=2) HG Ig (by kernel_rfl) Ig) ?_)))
    refine ao Ig (am Ig Ig (aj Hz Ig (k4.cell (i:=2) Ig)) (ao Ig (aO Ig Ig (bf Hz d3) ?_)))
    refine ao Ig (ai Ig Ig Ig (bJ) (aG Ig Ig Ig (ae Ig Ig ?_)))
    refine dM (fun h47=>?_) (fun h47=>?_)
    ·refine ao Ig (ah Ig Ig (aI (o:=1) HG Ig (by kernel_rfl) Ig) (ao Ig (am Ig Ig (aj Hz Ig (x4.cell_some (k1.cell (i:=1) Ig))) ?_)))
     refine ao Ig (ah Ig Ig (aI (o:=1) HG Ig (by kernel_rfl) Ig) (ao Ig (am Ig Ig (aj Hz Ig (k4.cell (i:=1) Ig)) ?_)))
     refine ao Ig (ak n0 Ig Ig (ob (n1.ext x4) n3) ?_)
     rintro v52 w52 ⟨x52,rfl⟩
     refine ao Ig (ai Ig Ig Ig (bJ) (aG Ig Ig Ig (ae Ig Ig ?_)))
     refine dM (fun h55=>?_) (fun h55=>?_)
     ·refine ao Ig (ah Ig Ig (aI (o:=2) HG Ig (by kernel_rfl) Ig) (ao Ig (am Ig Ig (aj Hz Ig ((x4.trans x52).cell_some (k1.cell (i:=2) Ig))) ?_)))
      refine ao Ig (ah Ig Ig (aI (o:=2) HG Ig (by kernel_rfl) Ig) (ao Ig (am Ig Ig (aj Hz Ig (x52.cell_some (k4.cell (i:=2) Ig))) ?_)))
      refine ao Ig (ak n0 Ig Ig (ob (d1.ext (x4.trans x52)) (d3.ext x52)) ?_)
      rintro v60 w60 ⟨x60,rfl⟩
      refine ao Ig (ai Ig Ig Ig (bJ) (aG Ig Ig Ig (ac Ig Ig (ag (ab (ay (aD Ig Ig ?_)))))))
      exact⟨_,rfl,(((x1.trans x4).trans x52).trans x60),by
       rw[hrv]
       first
       |exact congrArg B (decide_eq_decide.2 ⟨fun h=>⟨h29,gk (by omega) (cp.1 h55),gk (by omega) (cp.1 h)⟩,fun h=>cp.2 (by rw[h.2.2])⟩)
       |exact congrArg B (decide_eq_false fun h=>h55 (cp.2 (by rw[h.2.1]))).symm
       |exact congrArg B (decide_eq_false fun h=>h47 (by rw[h.2.2])).symm
       |exact congrArg B (decide_eq_false fun h=>h38 (by rw[h.2.1])).symm
       |exact congrArg B (decide_eq_false fun h=>h29 h.1).symm⟩
     ·refine ap Ig Ig Ig (ap Ig Ig Ig (ap Ig Ig Ig (ap Ig Ig Ig (ap Ig Ig Ig (ap Ig Ig Ig (aJ Ig Ig Ig (ac Ig Ig (ag (ab (ay (aD Ig Ig ?_)))))))))))
      exact⟨_,rfl,((x1.trans x4).trans x52),by
       rw[hrv]
       first
       |exact congrArg B (decide_eq_decide.2 ⟨fun h=>⟨h29,gk (by omega) (cp.1 h55),gk (by omega) (cp.1 h)⟩,fun h=>cp.2 (by rw[h.2.2])⟩)
       |exact congrArg B (decide_eq_false fun h=>h55 (cp.2 (by rw[h.2.1]))).symm
       |exact congrArg B (decide_eq_false fun h=>h47 (by rw[h.2.2])).symm
       |exact congrArg B (decide_eq_false fun h=>h38 (by rw[h.2.1])).symm
       |exact congrArg B (decide_eq_false fun h=>h29 h.1).symm⟩
    ·refine ap Ig Ig Ig (ap Ig Ig Ig (ap Ig Ig Ig (ap Ig Ig Ig (ap Ig Ig Ig (ap Ig Ig Ig (aJ Ig Ig Ig (ae Ig Ig (ap Ig Ig Ig (ap Ig Ig Ig ?_)))))))))
     refine ap Ig Ig Ig (ap Ig Ig Ig (ap Ig Ig Ig (ap Ig Ig Ig (aJ Ig Ig Ig (ac Ig Ig (ag (ab (ay (aD Ig Ig ?_)))))))))
     exact⟨_,rfl,(x1.trans x4),by
      rw[hrv]
      first
      |exact congrArg B (decide_eq_decide.2 ⟨fun h=>⟨h29,gk (by omega) (cp.1 h55),gk (by omega) (cp.1 h)⟩,fun h=>cp.2 (by rw[h.2.2])⟩)
      |exact congrArg B (decide_eq_false fun h=>h55 (cp.2 (by rw[h.2.1]))).symm
      |exact congrArg B (decide_eq_false fun h=>h47 (by rw[h.2.2])).symm
      |exact congrArg B (decide_eq_false fun h=>h38 (by rw[h.2.1])).symm
      |exact congrArg B (decide_eq_false fun h=>h29 h.1).symm⟩
   ·refine ap Ig Ig Ig (ap Ig Ig Ig (ap Ig Ig Ig (ap Ig Ig Ig (ap Ig Ig Ig (ap Ig Ig Ig (ap Ig Ig Ig (aJ Ig Ig Ig (ae Ig Ig (ap Ig Ig Ig ?_)))))))))
    refine ap Ig Ig Ig (ap Ig Ig Ig (ap Ig Ig Ig (ap Ig Ig Ig (ap Ig Ig Ig (aJ Ig Ig Ig (ae Ig Ig (ap Ig Ig Ig (ap Ig Ig Ig (ap Ig Ig Ig ?_)))))))))
    refine ap Ig Ig Ig (ap Ig Ig Ig (ap Ig Ig Ig (aJ Ig Ig Ig (ac Ig Ig (ag (ab (ay (aD Ig Ig ?_))))))))
    exact⟨_,rfl,(x1.trans x4),by
     rw[hrv]
     first
     |exact congrArg B (decide_eq_decide.2 ⟨fun h=>⟨h29,gk (by omega) (cp.1 h55),gk (by omega) (cp.1 h)⟩,fun h=>cp.2 (by rw[h.2.2])⟩)
     |exact congrArg B (decide_eq_false fun h=>h55 (cp.2 (by rw[h.2.1]))).symm
     |exact congrArg B (decide_eq_false fun h=>h47 (by rw[h.2.2])).symm
     |exact congrArg B (decide_eq_false fun h=>h38 (by rw[h.2.1])).symm
     |exact congrArg B (decide_eq_false fun h=>h29 h.1).symm⟩
  ·refine ap Ig Ig Ig (ap Ig Ig Ig (ap Ig Ig Ig (ap Ig Ig Ig (ap Ig Ig Ig (ap Ig Ig Ig (ap Ig Ig Ig (aJ Ig Ig Ig (ae Ig Ig (ap Ig Ig Ig ?_)))))))))
   refine ap Ig Ig Ig (ap Ig Ig Ig (ap Ig Ig Ig (ap Ig Ig Ig (ap Ig Ig Ig (ap Ig Ig Ig (aJ Ig Ig Ig (ae Ig Ig (ap Ig Ig Ig (ap Ig Ig Ig ?_)))))))))
   refine ap Ig Ig Ig (ap Ig Ig Ig (ap Ig Ig Ig (ap Ig Ig Ig (aJ Ig Ig Ig (ae Ig Ig (ap Ig Ig Ig (ap Ig Ig Ig (ap Ig Ig Ig (ap Ig Ig Ig ?_)))))))))
   refine ap Ig Ig Ig (ap Ig Ig Ig (aJ Ig Ig Ig (ac Ig Ig (ag (ab (ay (aD Ig Ig ?_)))))))
   exact⟨_,rfl,(x1.trans x4),by
    rw[hrv]
    first
    |exact congrArg B (decide_eq_decide.2 ⟨fun h=>⟨h29,gk (by omega) (cp.1 h55),gk (by omega) (cp.1 h)⟩,fun h=>cp.2 (by rw[h.2.2])⟩)
    |exact congrArg B (decide_eq_false fun h=>h55 (cp.2 (by rw[h.2.1]))).symm
    |exact congrArg B (decide_eq_false fun h=>h47 (by rw[h.2.2])).symm
    |exact congrArg B (decide_eq_false fun h=>h38 (by rw[h.2.1])).symm
    |exact congrArg B (decide_eq_false fun h=>h29 h.1).symm⟩
end Go.Rl
namespace Go.Rl
open Go.RowKit Go.Proofs
end Go.Rl
namespace Go.Rl
open Go.RowKit Go.Proofs Go.Lib
section
variable {w w0:World} {l m:List UInt8} {v x:Value}
def AD (m:List UInt8):List UInt8:=uv m.length++m
end
end Go.Rl
namespace Go.Rl
open Go.RowKit Go.Proofs
theorem AE:aw Tryz.prog 92:=⟨_,Tryz.func92,by kernel_rfl,rfl⟩
theorem AF:aw Tryz.prog 90:=⟨_,Tryz.func90,by kernel_rfl,rfl⟩
def Ge (l:List UInt8):Option (List UInt8×List UInt8):=(dX l).bind fun p=>if p.1≤p.2.length then some (p.2.take p.1,p.2.drop p.1) else none
theorem vV {m:List UInt8} (h:m.length<18446744073709551616) (t:List UInt8):Ge (AD m++t)=some (m,t):=by
 unfold Ge AD
 rw[List.append_assoc,ja h]
 simp
section
variable {w:World} {g:Nat}
theorem vW {st:Option (List UInt8)} (hr:aP g st w):Calls Tryz.prog 124 #[.pointer (some ⟨g,0,none⟩)] w (bL fun r w'=>w.grownBy w' (some g)∧match st.bind dX with
 |some (n,t)=>r=.tuple #[bo (UInt64.ofNat n),B true]∧aP g (some t) w'
 |none=>r=.tuple #[bo 0,B false]∧∃l',aP g l' w'):=by
 cases st with
 |none=>exact(kP hr).mono fun e w' ⟨v,he,hv,hw⟩=>⟨v,he,by subst hw;exact⟨kj _ _,hv,none,hr⟩⟩
 |some l=>
  refine(mh hr).mono fun e w' ⟨v,he,hg,hv⟩=>⟨v,he,hg,?_⟩
  show match dX l with|some (n,t)=>_|none=>_
  cases hrd:dX l with
  |none=>rw[hrd] at hv;exact⟨hv.1,hv.2.imp' some fun _ h=>h⟩
  |some p=>rw[hrd] at hv;exact hv
theorem AG {st:Option (List UInt8)} (hr:aP g st w):
 Calls Tryz.prog 90 #[.pointer (some ⟨g,0,none⟩)] w (bL fun r w'=>r=I ((st.getD []).length:Nat)∧w'=w):=by
 obtain⟨A,n,c,h1,h2,_⟩:=hr
 refine enter (vs:=[.pointer (some ⟨g,0,none⟩)]) Tryz.func90 Ig Ig Ig ?_
 refine af (aa (ac Ig Ig (ag (ab (af (af (aa (ae Ig Ig ?_))))))))
 refine ai Ig Ig Ig (kY HP) ?_
 refine ag (ab ?_)
 refine eS Ig ?_
 refine ax (ab (af (aa (ae Ig Ig ?_))))
 refine aQ Ig Ig ?_
 refine ah Ig Ig (bK HU Ig cl (by omega)) ?_
 refine am Ig Ig (aj HF Ig (gE (i:=0) h1 Ig)) ?_
 refine aO Ig Ig (cc h2) ?_
 refine ac Ig Ig (ag (ab (ay ?_)))
 refine aD Ig Ig ?_
 exact⟨_,rfl,rfl,rfl⟩
theorem AH {st:Option (List UInt8)} (hr:aP g st w):
 Calls Tryz.prog 92 #[.pointer (some ⟨g,0,none⟩)] w (bL fun r w'=>r=I (if st=some [] then 0 else 5)∧w'=w):=by
 obtain⟨A,n,c,h1,h2,_⟩:=hr
 refine enter (vs:=[.pointer (some ⟨g,0,none⟩)]) Tryz.func92 Ig Ig Ig ?_
 refine af (aa (ac Ig Ig (ag (ab (af (af (aa (ae Ig Ig ?_))))))))
 refine ai Ig Ig Ig (BN HP) ?_
 refine ae Ig Ig (ao Ig (ae Ig Ig (ao Ig ?_)))
 refine aQ Ig Ig ?_
 refine ao Ig (ah Ig Ig (bK HU Ig gI (by omega)) ?_)
 refine ao Ig (am Ig Ig (aj HO Ig (gE (i:=1) h1 Ig)) ?_)
 cases st with
 |none=>
  refine ao Ig (ae Ig Ig ?_)
  iterate 6 refine ap rfl rfl rfl ?_
  refine ao Ig (aG Ig Ig Ig (aG Ig Ig Ig (ag (ab ?_))))
  refine ce Ig ?_
  refine af (aa (ac Ig Ig (ag (ab (ay (aB ?_))))))
  refine aD Ig Ig ?_
  exact⟨_,rfl,rfl,rfl⟩
 |some l=>
  have h2':bQ l (.slice A n c) w:=h2
  refine ao Ig (ae Ig Ig (ao Ig (ae Ig Ig (ao Ig ?_))))
  refine aQ Ig Ig ?_
  refine ao Ig (ah Ig Ig (bK HU Ig cl (by omega)) ?_)
  refine ao Ig (am Ig Ig (aj HF Ig (gE (i:=0) h1 Ig)) ?_)
  refine ao Ig (aO Ig Ig (cc h2') ?_)
  refine ao Ig (ai Ig Ig Ig cB ?_)
  refine ao Ig (aJ Ig Ig Ig (aG Ig Ig Ig (ag (ab ?_))))
  refine bi Ig (fun h=>?_) (fun h=>?_)
  ·refine af (aa (ac Ig Ig (ag (ab (ay (aB ?_))))))
   refine aD Ig Ig ?_
   have:some l≠some []:=by rintro⟨⟩;simp at h
   rw[if_neg this]
   exact⟨_,rfl,rfl,rfl⟩
  ·refine ax (ab (af (aa (ac Ig Ig (ag (ab (ay ?_)))))))
   refine aD Ig Ig ?_
   have:l=[]:=List.eq_nil_of_length_eq_zero (by omega)
   subst this
   exact⟨_,rfl,rfl,rfl⟩
end
end Go.Rl
namespace Go.Rl
open Go.RowKit Go.Proofs
structure Kp (w w':World):Prop where
 size:w.heap.size≤w'.heap.size
 bts:∀{l:List UInt8} {v:Value},bQ l v w→bQ l v w'
 wds:∀{l:List UInt32} {v:Value},bu l v w→bu l v w'
theorem Kp.of_ext {w w':World} (h:aE w w'):Kp w w':=⟨h.size,fun b=>b.ext h,fun b=>b.ext h⟩
theorem Kp.refl (w:World):Kp w w:=.of_ext (aE.refl w)
theorem Kp.trans {a b c:World} (h:Kp a b) (k:Kp b c):Kp a c:=⟨Nat.le_trans h.size k.size,fun x=>k.bts (h.bts x),fun x=>k.wds (h.wds x)⟩
theorem bQ.kp {w w':World} {l:List UInt8} {v:Value} (h:bQ l v w) (k:Kp w w'):bQ l v w':=k.bts h
theorem bu.kp {w w':World} {l:List UInt32} {v:Value} (h:bu l v w) (k:Kp w w'):bu l v w':=k.wds h
theorem dV.kp {w w':World} {b:Bool} {n m:List UInt32} {v:Value} (h:dV b n m v w) (k:Kp w w'):dV b n m v w':=by
 obtain⟨x,y,rfl,h1,h2⟩:=h
 exact⟨x,y,rfl,h1.kp k,h2.kp k⟩
def qS (T:TypeId) (g:Nat) (st:Option (List UInt8)) (w:World):Prop:=∃A n c,bI g T [.slice A n c,B st.isNone] w∧bQ (st.getD []) (.slice A n c) w∧rS A g
theorem aP.rdT {g:Nat} {st:Option (List UInt8)} {w:World} (h:aP g st w):qS 204 g st w:=h
theorem qS.rdAt {g:Nat} {st:Option (List UInt8)} {w:World} (h:qS 204 g st w):aP g st w:=h
section
variable {T:TypeId} {g:Nat} {st:Option (List UInt8)} {w w':World}
theorem qS.ext (h:qS T g st w) (hx:aE w w'):qS T g st w':=by
 obtain⟨A,n,c,h1,h2,h3⟩:=h
 exact⟨A,n,c,h1.ext hx,h2.ext hx,h3⟩
theorem AI (A:Option Addr) (n c:Nat) (b:Bool) (l:List UInt32):∀(j:Nat) (u:Value),u∈l.map bg→(#[.slice A n c,.bool b]:Array Value)[j]? ≠some u:=by
 intro j u hu
 obtain⟨x,_,rfl⟩:=List.mem_map.1 hu
 match j with
 |0=>simp[bg]
 |1=>simp[bg]
 |j+2=>simp
theorem qS.kp (hr:qS T g st w) (hw:w.grownBy w' (some g)):Kp w w':=by
 obtain⟨A,n,c,h1,_⟩:=hr
 exact⟨hw.size,fun h=>Sl.keep h h1 (sP A n c _ _) hw,fun h=>Sl.keep h h1 (AI A n c _ _) hw⟩
theorem qS.set {l l':List UInt8} {v:Value} (h:qS T g (some l) w) (hv:bQ l' v w) (hloc:∀A n c,v=.slice A n c→rS A g):
 ∃w',(Instr.storeAt 22 (.pointer (some ⟨g,0,none⟩)) v).run Tryz.prog w=.ok () w'∧w.grownBy w' (some g)∧qS T g (some l') w':=by
 obtain⟨A,n,c,h1,h2,h4⟩:=h
 obtain⟨A',n',c',rfl,h3⟩:=id hv
 have hg:=aS w g 0 (.slice A' n' c')
 have hk:=qS.kp (T:=T) (st:=some l) ⟨A,n,c,h1,h2,h4⟩ hg
 refine⟨_,dv (i:=0) cl Ig h1 (by simp),hg,A',n',c',h1.set 0 _,hk.bts hv,hloc _ _ _ rfl⟩
end
theorem xV (b:Bool) (A C:Option Addr) (n c m d:Nat) (l:List UInt8):∀(j:Nat) (u:Value),u∈l.map U8→(#[.bool b,.slice A n c,.slice C m d]:Array Value)[j]? ≠some u:=by
 intro j u hu
 obtain⟨x,_,rfl⟩:=List.mem_map.1 hu
 match j with
 |0=>simp[U8]
 |1=>simp[U8]
 |2=>simp[U8]
 |j+3=>simp
theorem bI.kpR {g:Nat} {T:TypeId} {b:Bool} {x y:Value} {w w':World} (h:bI g T [B b,x,y] w) (hx:∃A n c,x=.slice A n c) (hy:∃A n c,y=.slice A n c) (hw:w.grownBy w' (some g)):Kp w w':=by
 obtain⟨A,n,c,rfl⟩:=hx
 obtain⟨C,m,d,rfl⟩:=hy
 exact⟨hw.size,fun k=>Sl.keep k h (xV b A C n c m d _) hw,fun k=>Sl.keep k h (qR b A C n c m d _) hw⟩
theorem qS.off {T:TypeId} {g g':Nat} {st:Option (List UInt8)} {w w':World} (h:qS T g st w) (k:Kp w w') (hw:w.grownBy w' (some g')) (hne:g≠g'):qS T g st w':=by
 obtain⟨A,n,c,h1,h2,h3⟩:=h
 exact⟨A,n,c,h1.other hw (fun e=>hne (Option.some.inj e)),h2.kp k,h3⟩
theorem mA {w w1 w2:World} {row:Option Nat} {g:Nat} (h:w.grownBy w1 row) (q:w1.grownBy w2 (some g)) (hg:w.heap.size≤g):w.grownBy w2 row:=
 ⟨q.os.trans h.os,q.tape.trans h.tape,q.output.trans h.output,Nat.le_trans h.size q.size,fun i hi hne=>(q.block i (Nat.lt_of_lt_of_le hi h.size) (fun e=>by have:=Option.some.inj e;omega)).trans (h.block i hi hne)⟩
theorem dP {P:Program} {fn:Func} {R:Ending→World→Prop} {N:Nat} {fr:Fr} {p s:Tmp} {t T:TypeId} {u:Value} {l:List Value} {w:World} {g:Nat} {d:TypeDesc} (hr:fn.results= #[.cell p t,.tmp s]) (hv:lk fr p=some (.pointer (some ⟨g,0,none⟩))) (hs:lk fr s=some u) (hb:bI g T l w) (hu:P.underlying t=some d) (hd:d.isRow=true) (hi:(P.info? t).map (·.size)=some l.length)
 (h:R (.returned (.tuple #[.agg l.toArray,u])) w):fD (bodyPost P fn R) N [] fr w .ret:=fun a ha=>by
 refine⟨ha.defers,.tuple #[.agg l.toArray,u],?_,h⟩
 have hp:=ha.at_ p _ hv
 have hp':a.tmps[p]?.getD undef=.pointer (some ⟨g,0,none⟩):=by simpa using hp
 have hq:=ha.at_ s _ hs
 have hl:=run_loadVar_row w g T t l.toArray (0,0) d hb hu (by cases d<;>first|rfl|exact hd) (by simpa using hi)
 simp[results,hr,hp',asAddr,hl,←hq]
def uz (n:Nat):Int:=if n%2=0 then((n/2:Nat):Int) else-((n/2:Nat):Int)-1
theorem EC {P:Program} {w:World} {t:TypeId} {x y:Operand} {q:Nat} (hq:q<9223372036854775808):(bin .xor t x y (I (q:Int)) (I 0)).run P w=.ok (I (q:Int)) w:=by
 have h:=yY (P:=P) (w:=w) (t:=t) (x:=x) (y:=y) (a:=Int64.ofInt q) (b:=Int64.ofInt 0)
 rw[Int64.toInt_ofInt_of_le (by simp) (by simp;omega)] at h
 have e:(Int64.ofInt q^^^Int64.ofInt 0).toInt=q:=by
  rw[show Int64.ofInt 0=0 from rfl,Int64.xor_zero,Int64.toInt_ofInt_of_le (by simp) (by simp;omega)]
 rw[e] at h
 exact h
theorem ED {P:Program} {w:World} {t:TypeId} {x y:Operand} {q:Nat} (hq:q<9223372036854775808):(bin .xor t x y (I (q:Int)) (I (-1))).run P w=.ok (I (-(q:Int)-1)) w:=by
 have h:=yY (P:=P) (w:=w) (t:=t) (x:=x) (y:=y) (a:=Int64.ofInt q) (b:=Int64.ofInt (-1))
 rw[Int64.toInt_ofInt_of_le (by simp) (by simp;omega)] at h
 have e:(Int64.ofInt q^^^Int64.ofInt (-1)).toInt= -(q:Int)-1:=by
  have:Int64.ofInt q^^^Int64.ofInt (-1)= ~~~(Int64.ofInt q):=by
   apply Int64.toBitVec_inj.1
   rw[Int64.toBitVec_xor,Int64.toBitVec_not]
   have:(Int64.ofInt (-1)).toBitVec=BitVec.allOnes 64:=by decide
   rw[this,BitVec.xor_allOnes]
  rw[this,Int64.toInt_not,Int64.toInt_ofInt_of_le (by simp) (by simp;omega)]
  exact Int.bmod_eq_of_le (by simp;omega) (by simp;omega)
 rw[e] at h
 exact h
def w4 (a b c d:UInt8):UInt32:=UInt32.ofNat (a.toNat+256*b.toNat+65536*c.toNat+16777216*d.toNat)
theorem Cz (a b c d:UInt8):(w4 a b c d).toNat=a.toNat+256*b.toNat+65536*c.toNat+16777216*d.toNat:=by
 have:=a.toNat_lt;have:=b.toNat_lt;have:=c.toNat_lt;have:=d.toNat_lt
 unfold w4
 rw[UInt32.toNat_ofNat']
 omega
theorem Gf (a b c d:UInt8):zm (w4 a b c d)=[a,b,c,d]:=by
 have ha:=a.toNat_lt;have hb:=b.toNat_lt;have hc:=c.toNat_lt;have hd:=d.toNat_lt
 have e:∀x y:UInt8,x.toNat=y.toNat→x=y:=fun x y h=>UInt8.toNat_inj.1 h
 have h:=Cz a b c d
 unfold zm
 congr 1
 ·refine e _ _ ?_
  rw[UInt32.toNat_toUInt8,h];omega
 congr 1
 ·refine e _ _ ?_
  rw[UInt32.toNat_toUInt8,UInt32.toNat_shiftRight,h,show(UInt32.ofNat 8).toNat%32=8 from rfl,Nat.shiftRight_eq_div_pow];omega
 congr 1
 ·refine e _ _ ?_
  rw[UInt32.toNat_toUInt8,UInt32.toNat_shiftRight,h,show(UInt32.ofNat 16).toNat%32=16 from rfl,Nat.shiftRight_eq_div_pow];omega
 congr 1
 ·refine e _ _ ?_
  rw[UInt32.toNat_toUInt8,UInt32.toNat_shiftRight,h,show(UInt32.ofNat 24).toNat%32=24 from rfl,Nat.shiftRight_eq_div_pow];omega
theorem CA (a:UInt8):a.toUInt32.toNat=a.toNat:=by simp
theorem G8 (a b c d:UInt8):((a.toUInt32|||(b.toUInt32<<<UInt32.ofNat 8))|||(c.toUInt32<<<UInt32.ofNat 16))|||(d.toUInt32<<<UInt32.ofNat 24)=w4 a b c d:=by
 have ha:=a.toNat_lt;have hb:=b.toNat_lt;have hc:=c.toNat_lt;have hd:=d.toNat_lt
 have sh:∀(x:UInt8) (k:Nat),k≤24→(x.toUInt32<<<UInt32.ofNat k).toNat=x.toNat<<<k:=fun x k hk=>by
  have hx:=x.toNat_lt
  rw[UInt32.toNat_shiftLeft,CA]
  have:(UInt32.ofNat k).toNat%32=k:=by rw[UInt32.toNat_ofNat'];omega
  rw[this,Nat.shiftLeft_eq]
  have:2^k≤2^24:=Nat.pow_le_pow_right (by omega) hk
  have:x.toNat*2^k≤255*2^24:=Nat.mul_le_mul (by omega) this
  omega
 refine j4 ?_
 rw[Cz]
 simp only[UInt32.toNat_or,sh _ 8 (by omega),sh _ 16 (by omega),sh _ 24 (by omega),CA]
 rw[Nat.or_comm a.toNat,←Nat.shiftLeft_add_eq_or_of_lt (by omega),Nat.or_comm _ (c.toNat<<<16),←Nat.shiftLeft_add_eq_or_of_lt (by rw[Nat.shiftLeft_eq];omega),Nat.or_comm _ (d.toNat<<<24),←Nat.shiftLeft_add_eq_or_of_lt (by simp only[Nat.shiftLeft_eq];omega)]
 simp only[Nat.shiftLeft_eq]
 omega
def dj:List UInt8→List UInt32
 |a::b::c::d::l=>w4 a b c d::dj l
 |_=>[]
theorem iP:∀(n:Nat) (l:List UInt8),l.length=4*n→(dj l).length=n
 |0,[],_=>rfl
 |n+1,a::b::c::d::l,h=>by
  have:=iP n l (by simp at h;omega)
  simp[dj,this]
 |n+1,[],h=>by simp at h
 |n+1,[_],h=>by simp at h;omega
 |n+1,[_,_],h=>by simp at h;omega
 |n+1,[_,_,_],h=>by simp at h;omega
theorem qT:∀(n:Nat) (l:List UInt8),l.length=4*n→jM (dj l)=l
 |0,[],_=>rfl
 |n+1,a::b::c::d::l,h=>by
  have:=qT n l (by simp at h;omega)
  have e:∀x (l:List UInt32),jM (x::l)=zm x++jM l:=fun x l=>by simp[jM]
  rw[dj,e,this,Gf];rfl
 |n+1,[],h=>by simp at h
 |n+1,[_],h=>by simp at h;omega
 |n+1,[_,_],h=>by simp at h;omega
 |n+1,[_,_,_],h=>by simp at h;omega
theorem qV:∀(i:Nat) (l:List UInt8) (h:4*(i+1)≤l.length),dj (l.take (4*(i+1)))=dj (l.take (4*i))++[w4 (l[4*i]) (l[4*i+1]) (l[4*i+2]) (l[4*i+3])]
 |0,a::b::c::d::l,_=>by simp[dj]
 |i+1,a::b::c::d::l,h=>by
  have:=qV i l (by simp at h;omega)
  have e1:4*(i+1+1)=4*(i+1)+4:=by omega
  have e2:4*(i+1)=4*i+4:=by omega
  simp only[e1,List.take_succ_cons,dj,this]
  simp only[e2,List.take_succ_cons,dj,List.cons_append]
  rfl
 |i,[],h=>by simp at h
 |i,[_],h=>by simp at h;omega
 |i,[_,_],h=>by simp at h;omega
 |i,[_,_,_],h=>by simp at h;omega
def rT (l:List UInt8):Option (List UInt32×List UInt8):=(dX l).bind fun p=>
 if p.1≤p.2.length/4∧lb (val (dj (p.2.take (4*p.1))))=dj (p.2.take (4*p.1)) then some (dj (p.2.take (4*p.1)),p.2.drop (4*p.1)) else none
theorem jj {l t:List UInt8} {m:List UInt32} (h:rT l=some (m,t)):l=lh m++t∧lb (val m)=m∧m.length<18446744073709551616:=by
 unfold rT at h
 cases hu:dX l with
 |none=>rw[hu] at h;cases h
 |some p=>
  obtain⟨n,u⟩:=p
  rw[hu] at h
  have h:(if n≤u.length/4∧lb (val (dj (u.take (4*n))))=dj (u.take (4*n)) then some (dj (u.take (4*n)),u.drop (4*n)) else none)=some (m,t):=h
  split at h
  ·rename_i hc
   simp only[Option.some.injEq,Prod.mk.injEq] at h
   have hl:(u.take (4*n)).length=4*n:=by rw[List.length_take];omega
   have hn:=iP n _ hl
   obtain⟨h1,h2⟩:=fH hu
   rw[←h.1,←h.2]
   refine⟨?_,hc.2,by omega⟩
   unfold lh
   rw[hn,qT n _ hl,List.append_assoc,List.take_append_drop]
   exact h1
  ·cases h
def oZ:List UInt8→Option ((Bool×List UInt32×List UInt32)×List UInt8)
 |[]=>none
 |c::l=>if 1<c.toNat then none else(rT l).bind fun p=>(rT p.2).bind fun q=>if rv (decide (c.toNat=1)) p.1 q.1=true then some ((decide (c.toNat=1),p.1,q.1),q.2) else none
end Go.Rl
namespace Go.Rl
open Go.RowKit Go.Proofs
theorem jN:aw Tryz.prog 178:=⟨_,Tryz.func178,by kernel_rfl,rfl⟩
theorem od:aw Tryz.prog 159:=⟨_,Tryz.func159,by kernel_rfl,rfl⟩
theorem gL:aw Tryz.prog 158:=⟨_,Tryz.func158,by kernel_rfl,rfl⟩
section
variable {w:World} {g:Nat}
theorem CB {st:Option (List UInt8)} (hr:aP g st w) (h:st.bind dX=none):Calls Tryz.prog 124 #[.pointer (some ⟨g,0,none⟩)] w (bL fun r w'=>w.grownBy w' (some g)∧r=.tuple #[bo 0,B false]∧∃l',aP g l' w'):=by
 have:=vW hr
 rw[h] at this
 exact this
theorem CC {st:Option (List UInt8)} {n:Nat} {t:List UInt8} (hr:aP g st w) (h:st.bind dX=some (n,t)):Calls Tryz.prog 124 #[.pointer (some ⟨g,0,none⟩)] w (bL fun r w'=>w.grownBy w' (some g)∧r=.tuple #[bo (UInt64.ofNat n),B true]∧aP g (some t) w'):=by
 have:=vW hr
 rw[h] at this
 exact this
end
theorem Gg {st:Option (List UInt8)} (h:st.bind dX=none):st.bind rT=none:=by
 cases st with
 |none=>rfl
 |some l=>
  have h:dX l=none:=h
  show rT l=none
  unfold rT
  rw[h];rfl
theorem xW {st:Option (List UInt8)} {n:Nat} {t:List UInt8} (h:st.bind dX=some (n,t)):st.bind rT=if n≤t.length/4∧lb (val (dj (t.take (4*n))))=dj (t.take (4*n)) then some (dj (t.take (4*n)),t.drop (4*n)) else none:=by
 cases st with
 |none=>cases h
 |some l=>
  have h:dX l=some (n,t):=h
  show rT l=_
  unfold rT
  rw[h];rfl
theorem zo {st:Option (List UInt8)} {n:Nat} {t:List UInt8} {k:Nat} (h:st.bind dX=some (n,t)) (hl:∀l,st=some l→l.length≤k):t.length≤k∧n<18446744073709551616:=by
 cases st with
 |none=>cases h
 |some l=>
  obtain⟨h1,h2⟩:=fH (show dX l=some (n,t) from h)
  have:=hl l rfl
  rw[h1,List.length_append] at this
  exact⟨by omega,h2⟩
def t9 (b:Nat) (v:Value):Prop:=∀k,v.ownBlock=some k→b≤k
theorem vX {s t:Bool} {a b c d:Value} (h:(Value.agg #[B s,a,b])=.agg #[B t,c,d]):a=c∧b=d:=by
 injection h with h
 have:=congrArg Array.toList h
 simp only[List.cons.injEq] at this
 exact⟨this.2.1,this.2.2.1⟩
def NatR (g:Nat) (w:World) (o:Option (List UInt32×List UInt8)) (r:Value) (w':World):Prop:=
 w.grownBy w' (some g)∧match o with
  |some (m,t)=>∃v,r=.tuple #[v,B true]∧bu m v w'∧aP g (some t) w'∧t9 w.heap.size v
  |none=>∃v,r=.tuple #[v,B false]∧(∃m,bu m v w')∧∃l',aP g l' w'
theorem sR {w:World} {g:Nat} {st:Option (List UInt8)} (hr:aP g st w) (hl:∀l,st=some l→l.length≤549755813888):
 Calls Tryz.prog 178 #[.pointer (some ⟨g,0,none⟩)] w (bL (NatR g w (st.bind rT))):=by
 refine enter (vs:=[.pointer (some ⟨g,0,none⟩)]) Tryz.func178 Ig Ig Ig ?_
 refine af (aa (ac Ig Ig (ac Ig Ig (ag (ab (af ?_))))))
 rcases hU:st.bind dX with _|⟨n,t⟩
 ·refine aa (ae Ig Ig (ak jv Ig Ig (CB hr hU) ?_))
  rintro v11 w11 ⟨x11,rfl,l',hr1⟩
  have m11:=(hr.rdT).kp x11
  refine ae Ig Ig (al Ig Ig (bw) (al Ig Ig (bz) (ac Ig Ig (ac Ig Ig (ag (ab (af (af (aa (ae Ig Ig (cx Ig Ig cZ ?_)))))))))))
  refine ae Ig Ig (ap Ig Ig Ig (ap Ig Ig Ig (ap Ig Ig Ig (ap Ig Ig Ig (ap Ig Ig Ig (ap Ig Ig Ig (ap Ig Ig Ig (ap Ig Ig Ig (ap Ig Ig Ig ?_)))))))))
  refine aG Ig Ig Ig (ag (ab (ce Ig (af (aa (ac Ig Ig (ac Ig Ig (ag (ab (ay (aB (aW Ig Ig Ig ?_))))))))))))
  exact⟨_,rfl,x11,by rw[Gg hU];exact⟨_,rfl,⟨_,bu.nil _⟩,l',hr1⟩⟩
 ·obtain⟨ht,hn⟩:=zo hU hl
  have hnn:(UInt64.ofNat n).toNat=n:=by rw[UInt64.toNat_ofNat'];omega
  refine aa (ae Ig Ig (ak jv Ig Ig (CC hr hU) ?_))
  rintro v11 w11 ⟨x11,rfl,hr1⟩
  have m11:=(hr.rdT).kp x11
  refine ae Ig Ig (al Ig Ig (bw) (al Ig Ig (bz) ?_))
  obtain⟨A,n',c,k,b,_⟩:=hr1.rdT
  have b:bQ t (.slice A n' c) w11:=b
  refine ac Ig Ig (ac Ig Ig (ag (ab (af (af (aa (ae Ig Ig (cx Ig Ig cZ (ae Ig Ig (ao Ig (ae Ig Ig (ao Ig (ae Ig Ig ?_)))))))))))))
  refine ao Ig (aQ Ig Ig (ao Ig (ah Ig Ig (aI (o:=0) HU Ig (by kernel_rfl) Ig) (ao Ig (am Ig Ig (aj HF Ig (k.cell (i:=0) Ig)) ?_)))))
  refine ao Ig (aO Ig Ig (cc b) (ao Ig (aN Ig Ig (dT HE HD) (ao Ig (ai (v:=bo 4) Ig Ig Ig (jE (by decide)) ?_)))))
  refine ao Ig (ai Ig Ig Ig (cJ) (aJ Ig Ig Ig (ag (ab ?_))))
  refine bi Ig (fun h26=>?_) (fun h26=>?_)
  ·have hlong:t.length/4<n:=by
    have h26:=UInt64.lt_iff_toNat_lt.1 h26
    rw[UInt64.toNat_div,hnn,UInt64.toNat_ofNat',show(4:UInt64).toNat=4 from rfl] at h26
    omega
   refine af (aa (ac Ig Ig (ac Ig Ig (ag (ab (ay (aB (aW Ig Ig Ig ?_))))))))
   exact⟨_,rfl,x11,by rw[xW hU,if_neg (by omega)];exact⟨_,rfl,⟨_,bu.nil _⟩,_,hr1⟩⟩
  ·have hle:n≤t.length/4:=by
    refine Nat.le_of_not_lt fun hh=>h26 (UInt64.lt_iff_toNat_lt.2 ?_)
    rw[UInt64.toNat_div,hnn,UInt64.toNat_ofNat',show(4:UInt64).toNat=4 from rfl]
    omega
   have h4n:(4*UInt64.ofNat n).toNat=4*n:=by
    rw[UInt64.toNat_mul,hnn,show(4:UInt64).toNat=4 from rfl]
    omega
   obtain⟨bs,hbs⟩:∃bs,bs=t.take (4*n):=⟨_,rfl⟩
   have hbl:bs.length=4*n:=by rw[hbs,List.length_take];omega
   refine ax (ab (af (aa (ae Ig Ig (ae Ig Ig (ai (u:=bo 4) Ig Ig Ig (gD) (ak gG Ig Ig ((by have:=qK (n:=4*UInt64.ofNat n) hr1 (by rw[h4n];omega);rw[h4n,←hbs] at this;exact this)) ?_)))))))
   rintro v31 w31 ⟨b31,rfl,hb31,hr2,g31⟩
   have m31:=(hr1.rdT).kp g31
   refine ae Ig Ig (al Ig Ig (bw) (al Ig Ig (bz) (ac Ig Ig (ac Ig Ig (ag (ab (af (aa (ac Ig Ig (ag (ab (af ?_))))))))))))
   refine au ?_
   refine j2 (fun(i:Nat) (v:Value) (u:Value)=>[(4,bo (UInt64.ofNat n)),(6,v),(8,u)]) (fun(i:Nat) (v:Value) (u:Value) w'=>aE w31 w'∧bQ (bs.drop (4*i)) v w31∧dw w31.heap.size (dj (bs.take (4*i))) u w'∧i≤n) (fun(i:Nat) (v:Value) (u:Value)=>n-i) (0) (b31) (.slice none 0 0) ⟨rfl,rfl,rfl,trivial⟩ ⟨aE.refl _,by simpa using hb31,by simpa [dj] using dw.nil _ _,by omega⟩ ?_
   rintro i v u w6 ⟨e6,h6,o6,hi⟩
   refine af (af ?_)
   have hdl:(bs.drop (4*i)).length=4*n-4*i:=by rw[List.length_drop,hbl]
   refine aa (ae Ig Ig (aO Ig Ig (cc (h6.ext e6)) (ai Ig Ig Ig (cB) (ag (ab ?_)))))
   refine bi Ig (fun h36=>?_) (fun h36=>?_)
   ·refine ax (ab (af (au ?_)))
    have hdl:(bs.drop (4*i)).length=4*n-4*i:=by rw[List.length_drop,hbl]
    refine bk 24 [4,6,39,62] (by kernel_rfl) (by kernel_rfl) ?_
    refine an Ig Ig (an Ig Ig ?_)
    obtain⟨a41,p41,q41⟩:=iz (h6.ext e6) (i:=0) (by omega) .i64
    refine ar Ig Ig Ig (fun w _=>p41 w) (av Ig Ig (fun w hw=>aj HH Ig (hw.cell_some q41)) (cP Ig Ig (fun w _=>eV HH HB) ?_))
    refine an Ig Ig ?_
    obtain⟨a45,p45,q45⟩:=iz (h6.ext e6) (i:=1) (by omega) .i64
    refine ar Ig Ig Ig (fun w _=>p45 w) (av Ig Ig (fun w hw=>aj HH Ig (hw.cell_some q45)) (cP Ig Ig (fun w _=>eV HH HB) ?_))
    refine aL (v:=bo 8) Ig Ig Ig (fun w _=>dY 8 (by omega)) (aL Ig Ig Ig (fun w _=>er) (an Ig Ig ?_))
    obtain⟨a51,p51,q51⟩:=iz (h6.ext e6) (i:=2) (by omega) .i64
    refine ar Ig Ig Ig (fun w _=>p51 w) (av Ig Ig (fun w hw=>aj HH Ig (hw.cell_some q51)) (cP Ig Ig (fun w _=>eV HH HB) ?_))
    refine aL (v:=bo 16) Ig Ig Ig (fun w _=>dY 16 (by omega)) (aL Ig Ig Ig (fun w _=>er) (an Ig Ig ?_))
    obtain⟨a57,p57,q57⟩:=iz (h6.ext e6) (i:=3) (by omega) .i64
    refine ar Ig Ig Ig (fun w _=>p57 w) (av Ig Ig (fun w hw=>aj HH Ig (hw.cell_some q57)) (cP Ig Ig (fun w _=>eV HH HB) ?_))
    refine aL (v:=bo 24) rfl rfl rfl (fun w _=>dY 24 (by omega)) (aL rfl rfl rfl (fun w _=>er) (dz (S:=bu [((((((((((bs.drop (4*i))[0])).toUInt32)|||((((((bs.drop (4*i))[1])).toUInt32)<<<UInt32.ofNat 8))))|||((((((bs.drop (4*i))[2])).toUInt32)<<<UInt32.ofNat 16))))|||((((((bs.drop (4*i))[3])).toUInt32)<<<UInt32.ofNat 24))))]) (bu.stable _) rfl (fun w' _=>by rintro _ rfl;obtain⟨r,w2,h1,h2,h3,_⟩:=iA Tryz.underlying44 (w:=w') w'.heap.size [((((((((((bs.drop (4*i))[0])).toUInt32)|||((((((bs.drop (4*i))[1])).toUInt32)<<<UInt32.ofNat 8))))|||((((((bs.drop (4*i))[2])).toUInt32)<<<UInt32.ofNat 16))))|||((((((bs.drop (4*i))[3])).toUInt32)<<<UInt32.ofNat 24))))] (by simp) (Nat.le_refl _);exact⟨r,w2,h1,h2,h3.wds⟩) ?_))
    refine bn ?_
    intro wg8 xg8
    rintro _ rfl
    rintro _ hq6
    obtain rfl:=Eq.symm hq6
    rintro _ hq39
    obtain rfl:=Eq.symm hq39
    intro vg62 b62
    obtain⟨v63,w63,hr63,o63,g63⟩:=ju Tryz.underlying44 (ty:=44) (o6.ext xg8) b62 (by have:=iP i (bs.take (4*i)) (by rw[List.length_take];omega);simp;omega) ((e6.trans xg8)).size
    have x63:=aE.of_grew ((e6.trans xg8)) g63 (o6.ext xg8).ge
    refine aZ Ig Ig hr63 (ac Ig Ig (ag (aM (ab (aa (ae Ig Ig ?_))))))
    obtain⟨v38,p38,b38⟩:=i0 h6 (lo:=4) (by omega) .i64
    refine db Ig Ig Ig Ig Ig (p38 _) ?_
    refine ac Ig Ig (ag ?_)
    refine gj (i+1) (v38) (v63) ⟨rfl,rfl,rfl,trivial⟩ ⟨x63,by rw[List.drop_drop] at b38;exact b38,by
     rw[qV i bs (by omega)]
     have e:=G8 ((bs.drop (4*i))[0]) ((bs.drop (4*i))[1]) ((bs.drop (4*i))[2]) ((bs.drop (4*i))[3])
     simp only[List.getElem_drop,Nat.add_zero] at e
     simp only[List.getElem_drop,Nat.add_zero,e] at o63
     exact o63,by omega⟩ (by omega)
   ·refine ba (aC (aC (aY (ab (af ?_)))))
    by_cases h66:UInt64.ofNat n=0
    ·refine bk 12 [2,74] (by kernel_rfl) (by kernel_rfl) ?_
     refine an Ig Ig (an Ig Ig (aL (v:=bo 0) Ig Ig Ig (fun w _=>dW h66 iN) (an Ig Ig (dU Ig Ig Ig (dU Ig Ig Ig (dU Ig Ig Ig ?_))))))
     refine dU Ig Ig Ig (dU Ig Ig Ig (dU Ig Ig Ig (jC Ig Ig Ig (du Ig Ig (bn ?_)))))
     intro wg9 xg9
     rintro _ hq2
     obtain rfl:=Eq.symm hq2
     rintro _ rfl
     refine ac Ig Ig (ag (ab (ay (aW Ig Ig Ig ?_))))
     exact⟨_,rfl,(x11.trans g31).trans (di (e6.trans xg9)),by
      rw[xW hU,←hbs]
      first
      |(have hx:(dj bs)[(UInt64.ofNat n-1).toNat]≠0↔lb (val (dj bs))=dj bs:=by
         have e:(UInt64.ofNat n-1).toNat=(dj bs).length-1:=by omega
         simp only[e]
         exact pD (by omega)
        by_cases hc:lb (val (dj bs))=dj bs
        ·rw[if_pos ⟨hle,hc⟩,decide_eq_true (hx.2 hc)]
         exact⟨u,rfl,o6.wds.ext xg9,hr2.ext (e6.trans xg9),fun k hk=>Nat.le_trans (x11.trans g31).size (o6.ge k hk)⟩
        ·rw[if_neg fun h=>hc h.2,decide_eq_false fun h=>hc (hx.1 h)]
         exact⟨u,rfl,⟨_,o6.wds.ext xg9⟩,_,hr2.ext (e6.trans xg9)⟩)
      |(have h0:n=0:=by
         have:=congrArg UInt64.toNat h66
         rw[hnn] at this
         exact this
        have hb0:dj bs=[]:=List.eq_nil_of_length_eq_zero (by rw[iP n bs hbl];exact h0)
        have hb1:bs.take (4*i)=bs:=List.take_of_length_le (by omega)
        rw[hb1,hb0] at o6
        rw[hb0,if_pos ⟨hle,rfl⟩]
        exact⟨u,rfl,o6.wds.ext xg9,hr2.ext (e6.trans xg9),fun k hk=>Nat.le_trans (x11.trans g31).size (o6.ge k hk)⟩)⟩
    ·refine bk 12 [2,74] (by kernel_rfl) (by kernel_rfl) ?_
     refine an Ig Ig (an Ig Ig (aL (v:=bo 0) Ig Ig Ig (fun w _=>eU h66 iN) (an Ig Ig (bG Ig Ig (an Ig Ig (bG Ig Ig (an Ig Ig ?_)))))))
     refine bG Ig Ig (aL (v:=bo 1) Ig Ig Ig (fun w _=>cW) (bG Ig Ig ?_))
     have hn0:0<n:=by
      rcases Nat.eq_zero_or_pos n with h|h
      ·exact absurd (by rw[h];rfl) h66
      ·exact h
     have hns:=iP n bs hbl
     have hin:i=n:=by omega
     have hbi:bs.take (4*i)=bs:=List.take_of_length_le (by omega)
     rw[hbi] at o6
     have hm1:(UInt64.ofNat n-1).toNat=n-1:=by
      rw[UInt64.toNat_sub_of_le _ _ (UInt64.le_iff_toNat_le.2 (by rw[hnn];exact hn0)),hnn];rfl
     obtain⟨a71,p71,q71⟩:=cr Hz o6.wds (i:=(UInt64.ofNat n-1).toNat) (by omega) .u64
     refine ar Ig Ig Ig (fun w hw=>p71 _) (bG Ig Ig (av Ig Ig (fun w hw=>aj HB Ig (hw.cell_some q71)) (bG Ig Ig ?_)))
     refine aL (v:=bg 0) Ig Ig Ig (fun w _=>lI) (u7 Ig Ig Ig (du Ig Ig (bn ?_)))
     intro wg9 xg9
     rintro _ hq2
     obtain rfl:=Eq.symm hq2
     rintro _ rfl
     refine ac Ig Ig (ag (ab (ay (aW Ig Ig Ig ?_))))
     exact⟨_,rfl,(x11.trans g31).trans (di (e6.trans xg9)),by
      rw[xW hU,←hbs]
      first
      |(have hx:(dj bs)[(UInt64.ofNat n-1).toNat]≠0↔lb (val (dj bs))=dj bs:=by
         have e:(UInt64.ofNat n-1).toNat=(dj bs).length-1:=by omega
         simp only[e]
         exact pD (by omega)
        by_cases hc:lb (val (dj bs))=dj bs
        ·rw[if_pos ⟨hle,hc⟩,decide_eq_true (hx.2 hc)]
         exact⟨u,rfl,o6.wds.ext xg9,hr2.ext (e6.trans xg9),fun k hk=>Nat.le_trans (x11.trans g31).size (o6.ge k hk)⟩
        ·rw[if_neg fun h=>hc h.2,decide_eq_false fun h=>hc (hx.1 h)]
         exact⟨u,rfl,⟨_,o6.wds.ext xg9⟩,_,hr2.ext (e6.trans xg9)⟩)
      |(have h0:n=0:=by
         have:=congrArg UInt64.toNat h66
         rw[hnn] at this
         exact this
        have hb0:dj bs=[]:=List.eq_nil_of_length_eq_zero (by rw[iP n bs hbl];exact h0)
        have hb1:bs.take (4*i)=bs:=List.take_of_length_le (by omega)
        rw[hb1,hb0] at o6
        rw[hb0,if_pos ⟨hle,rfl⟩]
        exact⟨u,rfl,o6.wds.ext xg9,hr2.ext (e6.trans xg9),fun k hk=>Nat.le_trans (x11.trans g31).size (o6.ge k hk)⟩)⟩
section
variable {w:World} {g:Nat}
theorem sS {st:Option (List UInt8)} (hr:aP g st w) (hl:∀l,st=some l→l.length≤549755813888) (h:st.bind rT=none):Calls Tryz.prog 178 #[.pointer (some ⟨g,0,none⟩)] w (bL fun r w'=>w.grownBy w' (some g)∧∃v,r=.tuple #[v,B false]∧(∃m,bu m v w')∧∃l',aP g l' w'):=by
 have:=sR hr hl
 rw[h] at this
 exact this
theorem mC {st:Option (List UInt8)} {m:List UInt32} {t:List UInt8} (hr:aP g st w) (hl:∀l,st=some l→l.length≤549755813888) (h:st.bind rT=some (m,t)):Calls Tryz.prog 178 #[.pointer (some ⟨g,0,none⟩)] w (bL fun r w'=>w.grownBy w' (some g)∧∃v,r=.tuple #[v,B true]∧bu m v w'∧aP g (some t) w'∧t9 w.heap.size v):=by
 have:=sR hr hl
 rw[h] at this
 exact this
theorem AJ {st:Option (List UInt8)} {m:List UInt32} {t:List UInt8} (hr:aP g st w) (hl:∀l,st=some l→l.length≤549755813888) (h:st.bind rT=some (m,t)):Calls Tryz.prog 178 #[.pointer (some ⟨g,0,none⟩)] w (bL fun r w'=>w.grownBy w' (some g)∧∃v,r=.tuple #[v,B true]∧bu m v w'∧aP g (some t) w'):=by
 exact(mC hr hl h).mono fun _ _ ⟨r,h0,h1,v,h2,h3,h4,_⟩=>⟨r,h0,h1,v,h2,h3,h4⟩
theorem AK {st:Option (List UInt8)} (hr:aP g st w) (h:st.bind dX=none):Calls Tryz.prog 89 #[.pointer (some ⟨g,0,none⟩)] w (bL fun r w'=>w.grownBy w' (some g)∧r=.tuple #[bo 0,I 5]∧aP g none w'):=by
 have:=lP hr
 rw[h] at this
 exact this
theorem AL {st:Option (List UInt8)} {n:Nat} {t:List UInt8} (hr:aP g st w) (h:st.bind dX=some (n,t)):Calls Tryz.prog 89 #[.pointer (some ⟨g,0,none⟩)] w (bL fun r w'=>w.grownBy w' (some g)∧r=.tuple #[bo (UInt64.ofNat n),I 0]∧aP g (some t) w'):=by
 have:=lP hr
 rw[h] at this
 exact this
end
def IntR (g:Nat) (w:World) (o:Option (Nat×List UInt8)) (r:Value) (w':World):Prop:=
 w.grownBy w' (some g)∧match o with
  |some (n,t)=>r=.tuple #[I (uz n),I 0]∧aP g (some t) w'
  |none=>r=.tuple #[I 0,I 5]∧aP g none w'
theorem CD {P:Program} {w:World} {s d:TypeId} {n:Nat} (hs:P.underlying s=some (.int .u64)) (hd:P.underlying d=some (.int .i64)) (hn:n<18446744073709551616):(convert s d (bo (UInt64.ofNat n>>>UInt64.ofNat 1))).run P w=.ok (I ((n/2:Nat):Int)) w:=by
 have e:(UInt64.ofNat n>>>UInt64.ofNat 1).toNat=n/2:=by
  rw[UInt64.toNat_shiftRight,UInt64.toNat_ofNat',show(UInt64.ofNat 1).toNat%64=1 from rfl,Nat.shiftRight_eq_div_pow];omega
 have:=pC (P:=P) (w:=w) hs hd (a:=UInt64.ofNat n>>>UInt64.ofNat 1) (by omega)
 rwa [e] at this
theorem zp {n:Nat}:(UInt64.ofNat n&&&1).toNat=n%2:=by
 rw[UInt64.toNat_and,UInt64.toNat_ofNat',show(1:UInt64).toNat=1 from rfl,Nat.and_one_is_mod];omega
theorem Gh {P:Program} {w:World} {s d:TypeId} {n:Nat} (hs:P.underlying s=some (.int .u64)) (hd:P.underlying d=some (.int .i64)) (h:n%2=0):(convert s d (bo (UInt64.ofNat n&&&1))).run P w=.ok (I 0) w:=by
 have:=pC (P:=P) (w:=w) hs hd (a:=UInt64.ofNat n&&&1) (by rw[zp];omega)
 rw[zp,h] at this
 exact this
theorem Gi {P:Program} {w:World} {s d:TypeId} {n:Nat} (hs:P.underlying s=some (.int .u64)) (hd:P.underlying d=some (.int .i64)) (h:n%2=1):(convert s d (bo (UInt64.ofNat n&&&1))).run P w=.ok (I 1) w:=by
 have:=pC (P:=P) (w:=w) hs hd (a:=UInt64.ofNat n&&&1) (by rw[zp];omega)
 rw[zp,h] at this
 exact this
theorem sT {w:World} {g:Nat} {st:Option (List UInt8)} (hr:aP g st w):
 Calls Tryz.prog 158 #[.pointer (some ⟨g,0,none⟩)] w (bL (IntR g w (st.bind dX))):=by
 refine enter (vs:=[.pointer (some ⟨g,0,none⟩)]) Tryz.func158 Ig Ig Ig ?_
 refine af (aa (ac Ig Ig (ac Ig Ig (ag (ab (af ?_))))))
 rcases hN:st.bind dX with _|⟨n,t⟩
 ·refine aa (ae Ig Ig (ak fX Ig Ig (AK hr hN) ?_))
  rintro v8 w8 ⟨x8,rfl,hr1⟩
  have m8:=(hr.rdT).kp x8
  refine ae Ig Ig (al Ig Ig (bw) (al Ig Ig (bz) (ac Ig Ig (ac Ig Ig (ag (ab (af (af (aa (ae Ig Ig (ai Ig Ig Ig (dW (by decide) dA) ?_)))))))))))
  refine ag (ab (ce Ig (af (aa (ae Ig Ig (ac Ig Ig (ac Ig Ig (ag (ab (ay (aB (aW Ig Ig Ig ?_))))))))))))
  exact⟨_,rfl,x8,rfl,hr1⟩
 ·refine aa (ae Ig Ig (ak fX Ig Ig (AL hr hN) ?_))
  rintro v8 w8 ⟨x8,rfl,hr1⟩
  have m8:=(hr.rdT).kp x8
  refine ae Ig Ig (al Ig Ig (bw) (al Ig Ig (bz) (ac Ig Ig (ac Ig Ig (ag (ab (af (af (aa (ae Ig Ig (ai Ig Ig Ig (eU (by decide) dA) ?_)))))))))))
  have hnn:=(zo (k:=(st.getD []).length) hN (by rintro l rfl;exact Nat.le_refl _)).2
  refine ag (ab (eS Ig (ax (ab (af ?_)))))
  rcases Nat.mod_two_eq_zero_or_one n with hm|hm
  ·refine aa (ae Ig Ig (ai Ig Ig Ig (cK 1 (by omega)) (aN Ig Ig (CD HD HE hnn) (ae Ig Ig ?_))))
   refine ai (v:=bo 1) Ig Ig Ig (sq) (aN Ig Ig (Gh HD HE hm) (cx Ig Ig (tK (by omega) (by omega)) ?_))
   refine ai Ig Ig Ig (EC (by omega)) (ac Ig Ig (ac Ig Ig (ag (ab (ay (aW Ig Ig Ig ?_))))))
   exact⟨_,rfl,x8,congrArg (fun z=>Value.tuple #[I z,I 0]) (show _=uz n by unfold uz;rw[if_pos hm]),hr1⟩
  ·refine aa (ae Ig Ig (ai Ig Ig Ig (cK 1 (by omega)) (aN Ig Ig (CD HD HE hnn) (ae Ig Ig ?_))))
   refine ai (v:=bo 1) Ig Ig Ig (sq) (aN Ig Ig (Gi HD HE hm) (cx Ig Ig (tK (by omega) (by omega)) ?_))
   refine ai Ig Ig Ig (ED (by omega)) (ac Ig Ig (ac Ig Ig (ag (ab (ay (aW Ig Ig Ig ?_))))))
   exact⟨_,rfl,x8,congrArg (fun z=>Value.tuple #[I z,I 0]) (show _=uz n by unfold uz;rw[if_neg (by omega)]),hr1⟩
theorem zq {c:UInt8} {l:List UInt8} (h:1<c.toNat):oZ (c::l)=none:=if_pos h
theorem CE {c:UInt8} {l:List UInt8} (h:rT l=none):oZ (c::l)=none:=by
 show(if 1<c.toNat then none else _)=none
 split
 ·rfl
 ·rw[h];rfl
theorem CF {c:UInt8} {l t:List UInt8} {m:List UInt32} (h1:¬1<c.toNat) (h:rT l=some (m,t)):oZ (c::l)=(rT t).bind fun q=>if rv (decide (c.toNat=1)) m q.1=true then some ((decide (c.toNat=1),m,q.1),q.2) else none:=by
 show(if 1<c.toNat then none else _)=_
 rw[if_neg h1,h];rfl
def RatE (g:Nat) (w:World) (o:Option ((Bool×List UInt32×List UInt32)×List UInt8)) (r:Value) (w':World):Prop:=
 w.grownBy w' (some g)∧match o with
  |some (q,t)=>∃v,r=.tuple #[v,I 0]∧dV q.1 q.2.1 q.2.2 v w'∧aP g (some t) w'
  |none=>∃v,r=.tuple #[v,I 5]∧dV false [] [] v w'∧aP g none w'
def G9 (g:Nat) (w:World) (o:Option ((Bool×List UInt32×List UInt32)×List UInt8)) (r:Value) (w':World):Prop:=
 w.grownBy w' (some g)∧match o with
  |some (q,t)=>∃x y,r=.tuple #[.agg #[B q.1,x,y],I 0]∧bu q.2.1 x w'∧bu q.2.2 y w'∧aP g (some t) w'∧t9 w.heap.size x∧t9 w.heap.size y
  |none=>∃v,r=.tuple #[v,I 5]∧dV false [] [] v w'∧aP g none w'
theorem aP.lt {w:World} {g:Nat} {st:Option (List UInt8)} (h:aP g st w):g<w.heap.size:=by
 obtain⟨A,n,c,h1,_⟩:=h
 exact bI.lt h1
theorem xX {c:UInt8}:c.toNat=1↔c=1:=by
 rw[←UInt8.toNat_inj,show(1:UInt8).toNat=1 from rfl]
theorem qW {w:World} {g:Nat} {st:Option (List UInt8)} (hr:aP g st w) (hl:∀l,st=some l→l.length≤549755813888):
 Calls Tryz.prog 159 #[.pointer (some ⟨g,0,none⟩)] w (bL (G9 g w (st.bind oZ))):=by
 refine enter (vs:=[.pointer (some ⟨g,0,none⟩)]) Tryz.func159 Ig Ig Ig ?_
 have hglt:=hr.lt
 refine af (aa ?_)
 obtain⟨g2,w2,hr2,l2,x2,k2⟩:=jd (w:=w)
 refine aU Ig hr2 (ac Ig Ig (ag (ab (af (af (aa (ae Ig Ig (ai Ig Ig Ig (kY HP) (ag (ab (eS Ig ?_)))))))))))
 refine ax (ab (af ?_))
 have rr:=hr.ext x2
 have kk:=k2
 have gg:w.grownBy w2 (some g):=di x2
 have hne:some g2≠some g:=fun h=>by have:=Option.some.inj h;omega
 have hne':g≠g2:=by omega
 rcases st with _|(_|⟨c,l⟩)
 ·have hR:(none:Option (List UInt8)).bind oZ=none:=rfl
  refine aa (ae Ig Ig (ak gG Ig Ig ((oS (n:=1) rr)) ?_))
  rintro v14 _ ⟨rfl,rfl⟩
  refine ae Ig Ig (al Ig Ig (bw) (al Ig Ig (bz) (ac Ig Ig (ac Ig Ig (ag (ab (af (af (aa (ae Ig Ig (cx Ig Ig cZ ?_)))))))))))
  refine ae Ig Ig (ap Ig Ig Ig (ap Ig Ig Ig (ap Ig Ig Ig (ap Ig Ig Ig (aG Ig Ig Ig (ag (ab (ce Ig (af (aa ?_))))))))))
  refine bA (vs:=[]) Ig Ig gK ?_
  refine ae Ig Ig (ak gH Ig Ig (gJ rr) ?_)
  rintro v27 w27 ⟨rfl,rs,g27⟩
  have m27:=(rr.rdT).kp g27
  have gg:=gg.trans g27
  have kk:=kk.other g27 hne
  have rr:=rs
  obtain⟨p,q,w3,hp,hs3,q3,k3,n3,d3⟩:=kk.stR ⟨_,_,_,rfl⟩ ⟨_,_,_,rfl⟩ (dV.mk (b:=false) (bu.nil _) (bu.nil _))
  refine az Ig Ig (hs3) (ac Ig Ig (ag (ab (ay (aB ?_)))))
  refine dP Ig Ig Ig k3 HG Ig ey ?_
  exact⟨_,rfl,mA gg q3 l2,by rw[hR];exact⟨_,rfl,⟨p,q,rfl,n3,d3⟩,(rr.rdT.off (kk.kpR ⟨_,_,_,rfl⟩ ⟨_,_,_,rfl⟩ q3) q3 hne').rdAt⟩⟩
 ·have hR:(some []).bind oZ=none:=rfl
  refine aa (ae Ig Ig (ak gG Ig Ig ((zl (n:=1) rr (by decide))) ?_))
  rintro v14 _ ⟨rfl,rfl⟩
  refine ae Ig Ig (al Ig Ig (bw) (al Ig Ig (bz) (ac Ig Ig (ac Ig Ig (ag (ab (af (af (aa (ae Ig Ig (cx Ig Ig cZ ?_)))))))))))
  refine ae Ig Ig (ap Ig Ig Ig (ap Ig Ig Ig (ap Ig Ig Ig (ap Ig Ig Ig (aG Ig Ig Ig (ag (ab (ce Ig (af (aa ?_))))))))))
  refine bA (vs:=[]) Ig Ig gK ?_
  refine ae Ig Ig (ak gH Ig Ig (gJ rr) ?_)
  rintro v27 w27 ⟨rfl,rs,g27⟩
  have m27:=(rr.rdT).kp g27
  have gg:=gg.trans g27
  have kk:=kk.other g27 hne
  have rr:=rs
  obtain⟨p,q,w3,hp,hs3,q3,k3,n3,d3⟩:=kk.stR ⟨_,_,_,rfl⟩ ⟨_,_,_,rfl⟩ (dV.mk (b:=false) (bu.nil _) (bu.nil _))
  refine az Ig Ig (hs3) (ac Ig Ig (ag (ab (ay (aB ?_)))))
  refine dP Ig Ig Ig k3 HG Ig ey ?_
  exact⟨_,rfl,mA gg q3 l2,by rw[hR];exact⟨_,rfl,⟨p,q,rfl,n3,d3⟩,(rr.rdT.off (kk.kpR ⟨_,_,_,rfl⟩ ⟨_,_,_,rfl⟩ q3) q3 hne').rdAt⟩⟩
 ·refine aa (ae Ig Ig (ak gG Ig Ig ((qK (n:=1) rr (by simp))) ?_))
  rintro v14 w14 ⟨b14,rfl,hb,rs,g14⟩
  have m14:=(rr.rdT).kp g14
  have gg:=gg.trans g14
  have hs14:=gg.size
  have kk:=kk.other g14 hne
  have rr:aP g (some l) w14:=rs
  have hb:bQ [c] b14 w14:=hb
  refine ae Ig Ig (al Ig Ig (bw) (al Ig Ig (bz) (ac Ig Ig (ac Ig Ig (ag (ab (af (af (aa (ae Ig Ig (cx Ig Ig cZ ?_)))))))))))
  refine ae Ig Ig (ao Ig (ae Ig Ig (ao Ig ?_)))
  obtain⟨a21,p21,q21⟩:=iz hb (i:=0) (by simp) .i64
  refine aq Ig Ig Ig (p21 _) (ao Ig (am Ig Ig (aj HH Ig q21) (ao Ig (ai (v:=U8 1) Ig Ig Ig (qc) (aJ Ig Ig Ig ?_)))))
  refine ag (ab ?_)
  refine bi Ig (fun h24=>?_) (fun h24=>?_)
  ·have hc:1<c.toNat:=by have:=UInt8.lt_iff_toNat_lt.1 h24;simpa using this
   have hR:(some (c::l)).bind oZ=none:=zq hc
   refine af (aa ?_)
   refine bA (vs:=[]) Ig Ig gK ?_
   refine ae Ig Ig (ak gH Ig Ig (gJ rr) ?_)
   rintro v27 w27 ⟨rfl,rs,g27⟩
   have m27:=(rr.rdT).kp g27
   have gg:=gg.trans g27
   have kk:=kk.other g27 hne
   have rr:=rs
   obtain⟨p,q,w3,hp,hs3,q3,k3,n3,d3⟩:=kk.stR ⟨_,_,_,rfl⟩ ⟨_,_,_,rfl⟩ (dV.mk (b:=false) (bu.nil _) (bu.nil _))
   refine az Ig Ig (hs3) (ac Ig Ig (ag (ab (ay (aB ?_)))))
   refine dP Ig Ig Ig k3 HG Ig ey ?_
   exact⟨_,rfl,mA gg q3 l2,by rw[hR];exact⟨_,rfl,⟨p,q,rfl,n3,d3⟩,(rr.rdT.off (kk.kpR ⟨_,_,_,rfl⟩ ⟨_,_,_,rfl⟩ q3) q3 hne').rdAt⟩⟩
  ·have hc:¬1<c.toNat:=fun hh=>h24 (UInt8.lt_iff_toNat_lt.2 (by simpa using hh))
   have hl1:∀l',some l=some l'→l'.length≤549755813888:=fun l' e=>by
    have:=hl _ rfl
    cases e
    simp at this;omega
   refine ax (ab (af ?_))
   rcases hN:rT l with _|⟨m,t⟩
   ·have hR:(some (c::l)).bind oZ=none:=CE hN
    refine aa (ae Ig Ig (ak jN Ig Ig ((sS (st:=some l) rr hl1 hN)) ?_))
    rintro v30 w30 ⟨g30,v0,rfl,_,_,rs⟩
    have m30:=(rr.rdT).kp g30
    have gg:=gg.trans g30
    have hs30:=gg.size
    have kk:=kk.other g30 hne
    have rr:=rs
    refine ae Ig Ig (al Ig Ig (bw) (al Ig Ig (bz) (ac Ig Ig (ac Ig Ig (ag (ab (af (af (aa (ae Ig Ig (cx Ig Ig cZ ?_)))))))))))
    refine ag (ab (ce Ig (af (aa ?_))))
    refine bA (vs:=[]) Ig Ig gK ?_
    refine ae Ig Ig (ak gH Ig Ig (gJ rr) ?_)
    rintro v37 w37 ⟨rfl,rs,g37⟩
    have m37:=(rr.rdT).kp g37
    have gg:=gg.trans g37
    have kk:=kk.other g37 hne
    have rr:=rs
    obtain⟨p,q,w3,hp,hs3,q3,k3,n3,d3⟩:=kk.stR ⟨_,_,_,rfl⟩ ⟨_,_,_,rfl⟩ (dV.mk (b:=false) (bu.nil _) (bu.nil _))
    refine az Ig Ig (hs3) (ac Ig Ig (ag (ab (ay (aB ?_)))))
    refine dP Ig Ig Ig k3 HG Ig ey ?_
    exact⟨_,rfl,mA gg q3 l2,by rw[hR];exact⟨_,rfl,⟨p,q,rfl,n3,d3⟩,(rr.rdT.off (kk.kpR ⟨_,_,_,rfl⟩ ⟨_,_,_,rfl⟩ q3) q3 hne').rdAt⟩⟩
   ·refine aa (ae Ig Ig (ak jN Ig Ig ((mC (st:=some l) rr hl1 hN)) ?_))
    rintro v30 w30 ⟨g30,v0,rfl,h0,rs,f0⟩
    have m30:=(rr.rdT).kp g30
    have gg:=gg.trans g30
    have hs30:=gg.size
    have kk:=kk.other g30 hne
    have rr:=rs
    refine ae Ig Ig (al Ig Ig (bw) (al Ig Ig (bz) (ac Ig Ig (ac Ig Ig (ag (ab (af (af (aa (ae Ig Ig (cx Ig Ig cZ ?_)))))))))))
    refine ag (ab (eS Ig (ax (ab (af ?_)))))
    have hl2:∀l',some t=some l'→l'.length≤549755813888:=fun l' e=>by
     cases e
     have h1:=(jj hN).1
     have:=hl1 _ rfl
     rw[h1,List.length_append] at this
     omega
    obtain⟨s,hs⟩:∃s,s=decide (c.toNat=1):=⟨_,rfl⟩
    have hcs:s=decide (([c]:List UInt8)[0]'(Nat.zero_lt_one)=(1:UInt8)):=by
     rw[hs]
     exact decide_eq_decide.2 ⟨fun h=>xX.1 h,fun h=>xX.2 h⟩
    have hR1:=CF hc hN
    rw[←hs] at hR1
    rcases hM:rT t with _|⟨m',t'⟩
    rotate_left
    rcases hV:rv s m m'
    ·have hR:(some (c::l)).bind oZ=none:=by
      show oZ (c::l)=none
      rw[hR1,hM]
      exact if_neg (by rw[hV];simp)
     refine aa (ae Ig Ig (ak jN Ig Ig ((AJ (st:=some t) rr hl2 hM)) ?_))
     rintro v40 w40 ⟨g40,v1,rfl,h1,rs⟩
     have m40:=(rr.rdT).kp g40
     have gg:=gg.trans g40
     have kk:=kk.other g40 hne
     have rr:=rs
     refine ae Ig Ig (al Ig Ig (bw) (al Ig Ig (bz) (ac Ig Ig (ac Ig Ig (ag (ab (af (aa (ae Ig Ig ?_)))))))))
     obtain⟨a44,p44,q44⟩:=iz (hb.kp (m30.trans m40)) (i:=0) (by simp) .i64
     refine aq Ig Ig Ig (p44 _) (am Ig Ig (aj HH Ig q44) (ai (v:=U8 1) (r:=B s) Ig Ig Ig ((by rw[hcs];exact jD)) ?_))
     refine ae Ig Ig (ae Ig Ig ?_)
     refine bA (vs:=[(0,B s),(1,v0),(2,v1)]) Ig Ig (nq h0.isS h1.isS) ?_
     obtain⟨g8,w8,hr8,l8,x8,k8⟩:=jd (w:=w40)
     refine aU Ig hr8 ?_
     obtain⟨p,q,w4,hp,hs4,q4,k4,n4,d4⟩:=k8.stR ⟨_,_,_,rfl⟩ ⟨_,_,_,rfl⟩ (dV.mk (b:=s) ((h0.kp m40).ext x8) (h1.ext x8))
     refine az Ig Ig (hs4) ?_
     have x4:=x8.of_new q4 l8
     have rr:=rr.ext x4
     have kk:=kk.ext x4
     have gg:=gg.trans (di x4)
     have hml:m.length≤137438953472:=by
      have:=hl1 _ rfl
      rw[(jj hN).1,List.length_append,lh,List.length_append,fk] at this
      omega
     refine ag (ab (af (af (aa (ae Ig Ig (cx Ig Ig cZ (ae Ig Ig (ao Ig (am Ig Ig (k4.ldR) (ao Ig ?_))))))))))
     have hml':m'.length≤137438953472:=by
      have:=hl2 _ rfl
      rw[(jj hM).1,List.length_append,lh,List.length_append,fk] at this
      omega
     refine ak oW Ig Ig ((by have:=oY (b:=s) (dV.mk n4 d4) hml hml';rw[hV] at this;exact this)) ?_
     rintro v54 w54 ⟨x54,rfl⟩
     have rr:=rr.ext x54
     have kk:=kk.ext x54
     have gg:=gg.trans (di x54)
     refine ao Ig (cx Ig Ig cZ (aJ Ig Ig Ig (ag (ab (ce Ig (af (aa ?_)))))))
     refine bA (vs:=[]) Ig Ig gK ?_
     refine ae Ig Ig (ak gH Ig Ig (gJ rr) ?_)
     rintro v59 w59 ⟨rfl,rs,g59⟩
     have m59:=(rr.rdT).kp g59
     have gg:=gg.trans g59
     have kk:=kk.other g59 hne
     have rr:=rs
     obtain⟨p,q,w3,hp,hs3,q3,k3,n3,d3⟩:=kk.stR ⟨_,_,_,rfl⟩ ⟨_,_,_,rfl⟩ (dV.mk (b:=false) (bu.nil _) (bu.nil _))
     refine az Ig Ig (hs3) (ac Ig Ig (ag (ab (ay (aB ?_)))))
     refine dP Ig Ig Ig k3 HG Ig ey ?_
     exact⟨_,rfl,mA gg q3 l2,by rw[hR];exact⟨_,rfl,⟨p,q,rfl,n3,d3⟩,(rr.rdT.off (kk.kpR ⟨_,_,_,rfl⟩ ⟨_,_,_,rfl⟩ q3) q3 hne').rdAt⟩⟩
    ·have hR:(some (c::l)).bind oZ=some ((s,m,m'),t'):=by
      show oZ (c::l)=_
      rw[hR1,hM]
      exact if_pos hV
     refine aa (ae Ig Ig (ak jN Ig Ig ((mC (st:=some t) rr hl2 hM)) ?_))
     rintro v40 w40 ⟨g40,v1,rfl,h1,rs,f1⟩
     have m40:=(rr.rdT).kp g40
     have gg:=gg.trans g40
     have kk:=kk.other g40 hne
     have rr:=rs
     refine ae Ig Ig (al Ig Ig (bw) (al Ig Ig (bz) (ac Ig Ig (ac Ig Ig (ag (ab (af (aa (ae Ig Ig ?_)))))))))
     obtain⟨a44,p44,q44⟩:=iz (hb.kp (m30.trans m40)) (i:=0) (by simp) .i64
     refine aq Ig Ig Ig (p44 _) (am Ig Ig (aj HH Ig q44) (ai (v:=U8 1) (r:=B s) Ig Ig Ig ((by rw[hcs];exact jD)) ?_))
     refine ae Ig Ig (ae Ig Ig ?_)
     refine bA (vs:=[(0,B s),(1,v0),(2,v1)]) Ig Ig (nq h0.isS h1.isS) ?_
     obtain⟨g8,w8,hr8,l8,x8,k8⟩:=jd (w:=w40)
     refine aU Ig hr8 ?_
     obtain⟨p,q,w4,hp,hs4,q4,k4,n4,d4⟩:=k8.stR ⟨_,_,_,rfl⟩ ⟨_,_,_,rfl⟩ (dV.mk (b:=s) ((h0.kp m40).ext x8) (h1.ext x8))
     refine az Ig Ig (hs4) ?_
     have x4:=x8.of_new q4 l8
     have rr:=rr.ext x4
     have kk:=kk.ext x4
     have gg:=gg.trans (di x4)
     have hml:m.length≤137438953472:=by
      have:=hl1 _ rfl
      rw[(jj hN).1,List.length_append,lh,List.length_append,fk] at this
      omega
     refine ag (ab (af (af (aa (ae Ig Ig (cx Ig Ig cZ (ae Ig Ig (ao Ig (am Ig Ig (k4.ldR) (ao Ig ?_))))))))))
     have hml':m'.length≤137438953472:=by
      have:=hl2 _ rfl
      rw[(jj hM).1,List.length_append,lh,List.length_append,fk] at this
      omega
     refine ak oW Ig Ig ((by have:=oY (b:=s) (dV.mk n4 d4) hml hml';rw[hV] at this;exact this)) ?_
     rintro v54 w54 ⟨x54,rfl⟩
     have rr:=rr.ext x54
     have kk:=kk.ext x54
     have gg:=gg.trans (di x54)
     refine ao Ig (cx Ig Ig cZ (aJ Ig Ig Ig (ag (ab (eS Ig (ax (ab (af (aa (am Ig Ig ((k4.ext x54).ldR) ?_))))))))))
     obtain⟨ea,eb⟩:=vX hp
     obtain⟨p,q,w3,hp,hs3,q3,k3,n3,d3⟩:=kk.stR ⟨_,_,_,rfl⟩ ⟨_,_,_,rfl⟩ ((dV.mk n4 d4).ext x54)
     refine az Ig Ig (hs3) (ac Ig Ig (ag (ab (ay ?_))))
     refine dP Ig Ig Ig k3 HG Ig ey ?_
     exact⟨_,rfl,mA gg q3 l2,by
      rw[hR]
      obtain⟨ec,ed⟩:=vX hp
      exact⟨p,q,rfl,n3,d3,(rr.rdT.off (kk.kpR ⟨_,_,_,rfl⟩ ⟨_,_,_,rfl⟩ q3) q3 hne').rdAt,ec▸ea▸(fun k hk=>Nat.le_trans hs14 (f0 k hk)),ed▸eb▸(fun k hk=>Nat.le_trans hs30 (f1 k hk))⟩⟩
    ·have hR:(some (c::l)).bind oZ=none:=by
      show oZ (c::l)=none
      rw[hR1,hM];rfl
     refine aa (ae Ig Ig (ak jN Ig Ig ((sS (st:=some t) rr hl2 hM)) ?_))
     rintro v40 w40 ⟨g40,v1,rfl,⟨m',h1⟩,_,rs⟩
     have m40:=(rr.rdT).kp g40
     have gg:=gg.trans g40
     have kk:=kk.other g40 hne
     have rr:=rs
     refine ae Ig Ig (al Ig Ig (bw) (al Ig Ig (bz) (ac Ig Ig (ac Ig Ig (ag (ab (af (aa (ae Ig Ig ?_)))))))))
     obtain⟨a44,p44,q44⟩:=iz (hb.kp (m30.trans m40)) (i:=0) (by simp) .i64
     refine aq Ig Ig Ig (p44 _) (am Ig Ig (aj HH Ig q44) (ai (v:=U8 1) (r:=B s) Ig Ig Ig ((by rw[hcs];exact jD)) ?_))
     refine ae Ig Ig (ae Ig Ig ?_)
     refine bA (vs:=[(0,B s),(1,v0),(2,v1)]) Ig Ig (nq h0.isS h1.isS) ?_
     obtain⟨g8,w8,hr8,l8,x8,k8⟩:=jd (w:=w40)
     refine aU Ig hr8 ?_
     obtain⟨p,q,w4,hp,hs4,q4,k4,n4,d4⟩:=k8.stR ⟨_,_,_,rfl⟩ ⟨_,_,_,rfl⟩ (dV.mk (b:=s) ((h0.kp m40).ext x8) (h1.ext x8))
     refine az Ig Ig (hs4) ?_
     have x4:=x8.of_new q4 l8
     have rr:=rr.ext x4
     have kk:=kk.ext x4
     have gg:=gg.trans (di x4)
     have hml:m.length≤137438953472:=by
      have:=hl1 _ rfl
      rw[(jj hN).1,List.length_append,lh,List.length_append,fk] at this
      omega
     refine ag (ab (af (af (aa (ae Ig Ig (cx Ig Ig cZ (ae Ig Ig (ap Ig Ig Ig (ap Ig Ig Ig (ap Ig Ig Ig (aG Ig Ig Ig (ag (ab ?_)))))))))))))
     refine ce Ig (af (aa ?_))
     refine bA (vs:=[]) Ig Ig gK ?_
     refine ae Ig Ig (ak gH Ig Ig (gJ rr) ?_)
     rintro v59 w59 ⟨rfl,rs,g59⟩
     have m59:=(rr.rdT).kp g59
     have gg:=gg.trans g59
     have kk:=kk.other g59 hne
     have rr:=rs
     obtain⟨p,q,w3,hp,hs3,q3,k3,n3,d3⟩:=kk.stR ⟨_,_,_,rfl⟩ ⟨_,_,_,rfl⟩ (dV.mk (b:=false) (bu.nil _) (bu.nil _))
     refine az Ig Ig (hs3) (ac Ig Ig (ag (ab (ay (aB ?_)))))
     refine dP Ig Ig Ig k3 HG Ig ey ?_
     exact⟨_,rfl,mA gg q3 l2,by rw[hR];exact⟨_,rfl,⟨p,q,rfl,n3,d3⟩,(rr.rdT.off (kk.kpR ⟨_,_,_,rfl⟩ ⟨_,_,_,rfl⟩ q3) q3 hne').rdAt⟩⟩
end Go.Rl
namespace Go.Rl
open Go.RowKit Go.Proofs
def AM (g:Nat) (st:Option (List UInt8)) (w:World):Prop:=qS 167 g st w
theorem AM.ext {g:Nat} {st:Option (List UInt8)} {w w':World} (h:AM g st w) (hx:aE w w'):AM g st w':=qS.ext h hx
theorem AM.lt {w:World} {g:Nat} {st:Option (List UInt8)} (h:AM g st w):g<w.heap.size:=by
 obtain⟨A,n,c,h1,_⟩:=h
 exact bI.lt h1
end Go.Rl
namespace Go.Rl
open Go.RowKit Go.Proofs
theorem zr {P:Program} {w:World} {s d:TypeId} {n:Nat} (hs:P.underlying s=some (.int .u64)) (hd:P.underlying d=some (.int .i64)) (hn:n<9223372036854775808):(convert s d (bo (UInt64.ofNat n))).run P w=.ok (I (n:Int)) w:=by
 have e:(UInt64.ofNat n).toNat=n:=by rw[UInt64.toNat_ofNat'];omega
 have:=pC (P:=P) (w:=w) hs hd (a:=UInt64.ofNat n) (by omega)
 rwa [e] at this
theorem lj {n m:Nat} (hn:n<18446744073709551616) (hm:m<18446744073709551616):UInt64.ofNat n>UInt64.ofNat m↔m<n:=by
 show UInt64.ofNat m<UInt64.ofNat n↔m<n
 rw[UInt64.lt_iff_toNat_lt,UInt64.toNat_ofNat',UInt64.toNat_ofNat']
 omega
end Go.Rl
namespace Go.Rl
open Go.RowKit Go.Proofs
end Go.Rl
namespace Go.Rl
open Go.RowKit Go.Proofs
end Go.Rl
namespace Go.Rl
open Go.RowKit Go.Proofs
theorem EE {l t:List UInt8} {b:Bool} {n m:List UInt32} (h:oZ l=some ((b,n,m),t)):l=nn b n m++t∧rv b n m=true∧4*(n.length+m.length)≤l.length:=by
 cases l with
 |nil=>cases h
 |cons c l=>
  by_cases hc:1<c.toNat
  ·rw[zq hc] at h;cases h
  ·cases hN:rT l with
   |none=>rw[CE hN] at h;cases h
   |some p=>
    obtain⟨n',u⟩:=p
    rw[CF hc hN] at h
    cases hM:rT u with
    |none=>rw[hM] at h;cases h
    |some q=>
     obtain⟨m',u'⟩:=q
     rw[hM] at h
     have h:(if rv (decide (c.toNat=1)) n' m'=true then some ((decide (c.toNat=1),n',m'),u') else none)=some ((b,n,m),t):=h
     split at h
     ·rename_i hv
      simp only[Option.some.injEq,Prod.mk.injEq] at h
      obtain⟨⟨rfl,rfl,rfl⟩,rfl⟩:=h
      have hcs:c=xx (decide (c.toNat=1)):=by
       by_cases h1:c.toNat=1
       ·rw[decide_eq_true h1,xX.1 h1];rfl
       ·rw[decide_eq_false h1]
        exact UInt8.toNat_inj.1 (show c.toNat=(0:UInt8).toNat by rw[show(0:UInt8).toNat=0 from rfl];omega)
      have e:c::l=nn (decide (c.toNat=1)) n' m'++u':=by
       rw[nn,←hcs,(jj hN).1,(jj hM).1]
       simp
      refine⟨e,hv,?_⟩
      rw[e]
      simp only[nn,lh,List.length_append,fk]
      omega
     ·cases h
section
variable {w:World} {g:Nat} {st:Option (List UInt8)}
theorem Fz (hr:aP g st w) (h:st.bind dX=none):Calls Tryz.prog 89 #[.pointer (some ⟨g,0,none⟩)] w (bL fun r w'=>w.grownBy w' (some g)∧r=.tuple #[bo 0,I 5]∧aP g none w'):=by
 have:=lP hr
 rw[h] at this
 exact this
theorem FA {n:Nat} {t:List UInt8} (hr:aP g st w) (h:st.bind dX=some (n,t)):Calls Tryz.prog 89 #[.pointer (some ⟨g,0,none⟩)] w (bL fun r w'=>w.grownBy w' (some g)∧r=.tuple #[bo (UInt64.ofNat n),I 0]∧aP g (some t) w'):=by
 have:=lP hr
 rw[h] at this
 exact this
theorem Ha (hr:aP g st w) (h:st.bind dX=none):Calls Tryz.prog 158 #[.pointer (some ⟨g,0,none⟩)] w (bL fun r w'=>w.grownBy w' (some g)∧r=.tuple #[I 0,I 5]∧aP g none w'):=by
 have:=sT hr
 rw[h] at this
 exact this
theorem Hb {n:Nat} {t:List UInt8} (hr:aP g st w) (h:st.bind dX=some (n,t)):Calls Tryz.prog 158 #[.pointer (some ⟨g,0,none⟩)] w (bL fun r w'=>w.grownBy w' (some g)∧r=.tuple #[I (uz n),I 0]∧aP g (some t) w'):=by
 have:=sT hr
 rw[h] at this
 exact this
end
end Go.Rl
namespace Go.Rl
def gt (x:UInt32) (n:Nat):UInt32:=(x>>>UInt32.ofNat n)|||(x<<<UInt32.ofNat (32-n))
def kc:List UInt32:=[0x428a2f98,0x71374491,0xb5c0fbcf,0xe9b5dba5,0x3956c25b,0x59f111f1,0x923f82a4,0xab1c5ed5,0xd807aa98,0x12835b01,0x243185be,0x550c7dc3,0x72be5d74,0x80deb1fe,0x9bdc06a7,0xc19bf174,0xe49b69c1,0xefbe4786,0x0fc19dc6,0x240ca1cc,0x2de92c6f,0x4a7484aa,0x5cb0a9dc,0x76f988da,0x983e5152,0xa831c66d,0xb00327c8,0xbf597fc7,0xc6e00bf3,0xd5a79147,0x06ca6351,0x14292967,0x27b70a85,0x2e1b2138,0x4d2c6dfc,0x53380d13,0x650a7354,0x766a0abb,0x81c2c92e,0x92722c85,0xa2bfe8a1,0xa81a664b,0xc24b8b70,0xc76c51a3,0xd192e819,0xd6990624,0xf40e3585,0x106aa070,0x19a4c116,0x1e376c08,0x2748774c,0x34b0bcb5,0x391c0cb3,0x4ed8aa4a,0x5b9cca4f,0x682e6ff3,0x748f82ee,0x78a5636f,0x84c87814,0x8cc70208,0x90befffa,0xa4506ceb,0xbef9a3f7,0xc67178f2]
def iv:List UInt32:=[0x6a09e667,0xbb67ae85,0x3c6ef372,0xa54ff53a,0x510e527f,0x9b05688c,0x1f83d9ab,0x5be0cd19]
def nr (b:List UInt8) (t:Nat):UInt32:=((((b.getD (4*t) 0).toUInt32<<<UInt32.ofNat 24)|||((b.getD (4*t+1) 0).toUInt32<<<UInt32.ofNat 16))|||((b.getD (4*t+2) 0).toUInt32<<<UInt32.ofNat 8))|||(b.getD (4*t+3) 0).toUInt32
def lm (l:List UInt32):UInt32:=
 let t:=l.length
 let x:=l.getD (t-15) 0
 let y:=l.getD (t-2) 0
 l.getD (t-16) 0+(gt x 7^^^gt x 18^^^x>>>UInt32.ofNat 3)+l.getD (t-7) 0+(gt y 17^^^gt y 19^^^y>>>UInt32.ofNat 10)
def ia (b:List UInt8) (k:Nat):List UInt32:=(List.range k).map (nr b)
def bj (b:List UInt8):Nat→List UInt32
 |0=>ia b 16
 |k+1=>bj b k++[lm (bj b k)]
theorem jO (b:List UInt8):∀k,(bj b k).length=16+k
 |0=>by simp[bj,ia]
 |k+1=>by simp[bj,jO b k];omega
def t1 (s:List UInt32) (k w:UInt32):UInt32:=
 let e:=s.getD 4 0
 s.getD 7 0+(gt e 6^^^gt e 11^^^gt e 25)+(e&&&s.getD 5 0^^^ ~~~e&&&s.getD 6 0)+k+w
def t2 (s:List UInt32):UInt32:=
 let a:=s.getD 0 0
 (gt a 2^^^gt a 13^^^gt a 22)+(a&&&s.getD 1 0^^^a&&&s.getD 2 0^^^s.getD 1 0&&&s.getD 2 0)
def rnd (s:List UInt32) (k w:UInt32):List UInt32:=[t1 s k w+t2 s,s.getD 0 0,s.getD 1 0,s.getD 2 0,s.getD 3 0+t1 s k w,s.getD 4 0,s.getD 5 0,s.getD 6 0]
def dk (b:List UInt8) (s:List UInt32):Nat→List UInt32
 |0=>s
 |i+1=>rnd (dk b s i) (kc.getD i 0) ((bj b 48).getD i 0)
theorem fO (b:List UInt8) (s:List UInt32) (hs:s.length=8):∀i,(dk b s i).length=8
 |0=>hs
 |_+1=>rfl
def rU (s:List UInt32) (b:List UInt8):List UInt32:=List.zipWith (· + ·) s (dk b s 64)
theorem vY (s:List UInt32) (b:List UInt8) (hs:s.length=8):(rU s b).length=8:=by
 simp[rU,hs,fO b s hs]
def sU (m:List UInt8):Nat→List UInt32
 |0=>iv
 |k+1=>rU (sU m k) ((m.drop (64*k)).take 64)
theorem lQ (m:List UInt8):∀k,(sU m k).length=8
 |0=>rfl
 |k+1=>vY _ _ (lQ m k)
theorem mD (m x:List UInt8):∀k,64*k≤m.length→sU (m++x) k=sU m k
 |0,_=>rfl
 |k+1,h=>by
  have h0:64*k≤m.length:=by omega
  have h1:64≤(m.drop (64*k)).length:=by simp;omega
  rw[sU,sU,mD m x k h0,List.drop_append_of_le_length h0,List.take_append_of_le_length h1]
def sh (m:List UInt8):List UInt32:=sU m (m.length/64)
theorem CG (m:List UInt8):(sh m).length=8:=lQ m _
theorem ua (p t:List UInt8) (hp:p.length%64=0) (ht:t.length<64):sh (p++t)=sh p:=by
 have:(p++t).length/64=p.length/64:=by simp only[List.length_append];omega
 unfold sh
 rw[this,mD p t _ (by omega)]
theorem CH (p b:List UInt8) (hp:p.length%64=0) (hb:b.length=64):sh (p++b)=rU (sh p) b:=by
 have h1:(p++b).length/64=p.length/64+1:=by simp only[List.length_append];omega
 unfold sh
 rw[h1,sU,mD p b _ (by omega)]
 have h2:64*(p.length/64)=p.length:=by omega
 rw[h2,List.drop_left,←hb,List.take_length]
def rP (x:UInt32):List UInt8:=[(x>>>UInt32.ofNat 24).toUInt8,(x>>>UInt32.ofNat 16).toUInt8,(x>>>UInt32.ofNat 8).toUInt8,x.toUInt8]
def vZ (n:UInt64):List UInt8:=(List.range 8).map fun i=>(n>>>UInt64.ofNat (56-8*i)).toUInt8
def fP (n:Nat):Nat:=(119-n%64)%64
def dQ (m:List UInt8):List UInt8:=m++[128]++List.replicate (fP m.length) 0++vZ (UInt64.ofNat m.length*8)
theorem xY (m:List UInt8):(dQ m).length%64=0:=by
 simp only[dQ,fP,vZ,List.length_append,List.length_cons,List.length_nil,List.length_replicate,List.length_map,List.length_range];omega
def gM (m:List UInt8):List UInt8:=(sh (dQ m)).flatMap rP
end Go.Rl
namespace Go.Rl
open Go.RowKit
abbrev d7:=Bool×List UInt32×List UInt32
def jV (n:Int):Dt:=.int .i64 n
def cN (q:d7):Dt:=.st [.bool q.1,i8 q.2.1,i8 q.2.2]
structure km where
 kd:Int
 fr:Int
 ou:Int
 kh:Int
 kw:Int
 sr:Int
 pd:Int
 ws:List d7
 bs:List d7
structure rV where
 inp:List Int
 lays:List km
theorem km.eq_iff {a b:km}:a=b↔a.kd=b.kd∧a.fr=b.fr∧a.ou=b.ou∧a.kh=b.kh∧a.kw=b.kw∧a.sr=b.sr∧a.pd=b.pd∧a.ws=b.ws∧a.bs=b.bs:=by
 constructor
 ·rintro rfl;exact⟨rfl,rfl,rfl,rfl,rfl,rfl,rfl,rfl,rfl⟩
 ·rintro⟨h1,h2,h3,h4,h5,h6,h7,h8,h9⟩
  cases a;cases b;simp_all
theorem rV.eq_iff {a b:rV}:a=b↔a.inp=b.inp∧a.lays=b.lays:=by
 constructor
 ·rintro rfl;exact⟨rfl,rfl⟩
 ·rintro⟨h1,h2⟩
  cases a;cases b;simp_all
instance:DecidableEq km:=fun _ _=>decidable_of_iff _ km.eq_iff.symm
instance:DecidableEq rV:=fun _ _=>decidable_of_iff _ rV.eq_iff.symm
def qX (l:List d7):Dt:=.sl (l.map cN)
def dLay (l:km):Dt:=.st [jV l.kd,jV l.fr,jV l.ou,jV l.kh,jV l.kw,jV l.sr,jV l.pd,qX l.ws,qX l.bs]
def FB (l:List Int):Dt:=.sl (l.map jV)
def kU (n:Int):Prop:= -9223372036854775808≤n∧n≤9223372036854775807
def km.ints (l:km):List Int:=[l.kd,l.fr,l.ou,l.kh,l.kw,l.sr,l.pd]
def km.wf (l:km):Prop:=∀n∈l.ints,kU n
def rV.wf (m:rV):Prop:=(∀n∈m.inp,kU n)∧∀l∈m.lays,l.wf
def cT (n:Int):List UInt8:=uv (Cr n)
def eZ (q:d7):List UInt8:=nn q.1 q.2.1 q.2.2
def pH (l:List UInt8):Option (Int×List UInt8):=(dX l).map fun p=>(uz p.1,p.2)
def cE {α:Type} (f:List UInt8→Option (α×List UInt8)):Nat→List UInt8→Option (List α×List UInt8)
 |0,l=>some ([],l)
 |n+1,l=>(f l).bind fun p=>(cE f n p.2).map fun q=>(p.1::q.1,q.2)
def kn {α:Type} (f:List UInt8→Option (α×List UInt8)) (l:List UInt8):Option (List α×List UInt8):=(dX l).bind fun p=>cE f p.1 p.2
def okQ (q:d7):Prop:=rv q.1 q.2.1 q.2.2=true∧q.2.1.length<18446744073709551616∧q.2.2.length<18446744073709551616
structure km.ok (l:km):Prop where
 wf:l.wf
 wl:l.ws.length<18446744073709551616
 bl:l.bs.length<18446744073709551616
 wq:∀q∈l.ws,okQ q
 bq:∀q∈l.bs,okQ q
structure rV.ok (m:rV):Prop where
 il:m.inp.length<18446744073709551616
 ll:m.lays.length<18446744073709551616
 iw:∀n∈m.inp,kU n
 lo:∀l∈m.lays,l.ok
end Go.Rl
namespace Go.Rl
open Go.RowKit Go.Proofs
section
variable {α:Type} {f:α→Dt} {l:List α} {v:Value} {w w':World}
def dq (f:α→Dt) (l:List α) (v:Value) (w:World):Prop:=Rp w (.sl (l.map f)) [v]
theorem dq.ext (h:dq f l v w) (hx:aE w w'):dq f l v w':=Rp.ext hx h
theorem dq.stable (f:α→Dt) (l:List α):be (dq f l):=fun _ _ _ h hx=>h.ext hx
theorem dq.isS (h:dq f l v w):∃A n c,v=.slice A n c:=by
 unfold dq at h
 simp only[Rp] at h
 obtain⟨A,n,c,hv,_⟩:=h
 exact⟨A,n,c,by simpa using hv⟩
theorem dq.one (h:dq f l v w):v.oneCell'=true:=by obtain⟨A,n,c,rfl⟩:=h.isS;rfl
theorem bu.one {l:List UInt32} (h:bu l v w):v.oneCell'=true:=by obtain⟨A,n,c,rfl⟩:=h.isS;rfl
theorem dq.nil (f:α→Dt) (w:World):dq f [] (.slice none 0 0) w:=Rp.nilSl
theorem dq.len (h:dq f l v w):l.length≤9223372036854775807:=by
 have:=Rp.slLen h
 simpa using this
theorem bN {P:Program} {t e:TypeId} {ty:TypeId} (ht:P.underlying t=some (.slice e)) (h:dq f l v w):(Builtin.len_ #[t] ty #[v]).run P w=.ok (I l.length) w:=by
 have:=FW (ty:=ty) ht h
 simpa using this
theorem eA {P:Program} {t e:TypeId} {sz:Nat} (ht:P.underlying t=some (.slice e)) (hz:(P.info? e).map (·.size)=some sz) (hs:∀x,(f x).size=sz) (h0:0<sz) (h:dq f l v w) {i:Nat} (hi:i<l.length) (k:IntKind):
 ∃ad cs,(∀w':World,(Instr.indexAt t v (.int k i)).run P w'=.ok (.pointer (some ad)) w')∧cS w ad cs∧Rp w (f l[i]) cs:=by
 obtain⟨ad,cs,h1,h2,h3⟩:=GZ ht hz h (by simp[hs]) h0 (i:=i) (by simpa using hi) k
 exact⟨ad,cs,h1,h2,by simpa using h3⟩
theorem cS.at {ad:Addr} {xs:List Value} (h:cS w ad xs) {j:Nat} {u:Value} (hj:xs[j]? =some u):w.cell? (ad.add j)=some u:=h j u hj
theorem xZ {P:Program} {s:TypeId} {fs:Array Field} {fd:Field} {n o:Nat} {a:Addr} (hs:P.underlying s=some (.struct fs)) (hf:fs[n]? =some fd) (hk:(P.cellsOf fd.type==0)=false) (ho:fd.offset=o):
 (Instr.fieldAt s (.pointer (some a)) n).run P w=.ok (.pointer (some (a.add o))) w:=by
 have hk':P.cellsOf fd.type≠0:=by simpa using hk
 obtain⟨k,hk1⟩:∃k,(P.info? fd.type).map (·.size)=some k:=by
  cases hi:(P.info? fd.type).map (·.size) with
  |none=>exact absurd (by simp[Program.cellsOf,hi]) hk'
  |some k=>exact⟨k,rfl⟩
 have hk0:k≠0:=by
  intro h
  apply hk'
  simp[Program.cellsOf,hk1,h]
 rw[bK hs hf hk1 hk0,ho]
theorem cS.ld {P:Program} {t:TypeId} {d:TypeDesc} {ad:Addr} {cs:List Value} (h:cS w ad cs) (ht:P.underlying t=some d) (hd:d.isRow=true) (hz:(P.info? t).map (·.size)=some cs.length):(Instr.loadAt t (.pointer (some ad))).run P w=.ok (.agg cs.toArray) w:=G0 h ht hd hz
theorem bI.ld {P:Program} {t T:TypeId} {d:TypeDesc} {g:Nat} {cs:List Value} (h:bI g T cs w) (ht:P.underlying t=some d) (hd:d.isRow=true) (hz:(P.info? t).map (·.size)=some cs.length):(Instr.loadAt t (.pointer (some ⟨g,0,none⟩))).run P w=.ok (.agg cs.toArray) w:=
 kO h (fun j v hj=>by simpa using hj) ht hd hz
theorem bI.ldO {P:Program} {t T:TypeId} {d:TypeDesc} {g o:Nat} {cs ms:List Value} (h:bI g T cs w) (hm:∀j v,ms[j]? =some v→cs[o+j]? =some v) (ht:P.underlying t=some d) (hd:d.isRow=true) (hz:(P.info? t).map (·.size)=some ms.length):(Instr.loadAt t (.pointer (some ⟨g,o,none⟩))).run P w=.ok (.agg ms.toArray) w:=
 kO h hm ht hd hz
theorem cV {P:Program} {T:TypeId} {cs:List Value}:∃g w',(Instr.box T (.agg cs.toArray)).run P w=.ok (.pointer (some ⟨g,0,none⟩)) w'∧w.heap.size≤g∧aE w w'∧bI g T cs w':=
 ⟨_,_,m4,Nat.le_refl _,aE.new w _,bI.new (T:=T) (.agg cs.toArray) rfl⟩
def aT (l:List Value):Prop:=∀v∈l,v.oneCell'=true
theorem aT.nil:aT []:=fun _ h=>by simp at h
theorem aT.cons {v:Value} {l:List Value} (h:v.oneCell'=true) (h':aT l):aT (v::l):=fun u hu=>by
 rcases List.mem_cons.1 hu with rfl|hu
 ·exact h
 ·exact h' u hu
theorem bI.stS {P:Program} {t T:TypeId} {g:Nat} {l m:List Value} (h:bI g T l w) (hl:l.length=m.length) (hi:(P.info? t).map (·.size)=some m.length) (h1:aT m):
 ∃w',(Instr.storeAt t (.pointer (some ⟨g,0,none⟩)) (.agg m.toArray)).run P w=.ok () w'∧w.grownBy w' (some g)∧bI g T m w':=
 ⟨_,gw h hl hi h1,bd w g _,h.row m⟩
theorem bI.stC {P:Program} {t T:TypeId} {g i:Nat} {l:List Value} {v:Value} (h:bI g T l w) (hs:(P.info? t).map (·.size)=some 1) (hv:v.oneCell'=true) (hi:i<l.length):
 ∃w',(Instr.storeAt t (.pointer (some ⟨g,i,none⟩)) v).run P w=.ok () w'∧w.grownBy w' (some g)∧bI g T (l.set i v) w':=by
 have h':=h
 unfold bI at h'
 obtain h2:=dv (P:=P) (t:=t) (v:=v) hs hv h' (by simpa using hi)
 exact⟨_,h2,aS w g i v,h.set i v⟩
end
end Go.Rl
namespace Go.Rl
open Go.RowKit
section
variable {w:World} {cs:List Value}
theorem wh (n:Int):(jV n).size=1:=rfl
theorem sV (q:d7):(cN q).size=3:=by simp[cN,Dt.size,Dt.sizeAll,i8]
theorem EF {n:Int} (h:Rp w (jV n) cs):cs=[I n]:=by simp only[jV,Rp] at h;exact h
theorem sW {l:List d7} (h:Rp w (qX l) cs):∃v,cs=[v]∧dq cN l v w:=by
 obtain⟨v,rfl,h,_⟩:=Rp.isSlice h
 exact⟨v,rfl,h⟩
theorem fF {q:d7} (h:Rp w (cN q) cs):∃x y,cs=[B q.1,x,y]∧bu q.2.1 x w∧bu q.2.2 y w:=by
 simp only[cN,Rp,bC] at h
 obtain⟨_,_,rfl,rfl,_,_,rfl,h1,_,_,rfl,h2,rfl⟩:=h
 obtain⟨x,rfl,hx,_⟩:=Rp.isSlice h1
 obtain⟨y,rfl,hy,_⟩:=Rp.isSlice h2
 exact⟨x,y,rfl,Rp.wds.1 hx,Rp.wds.1 hy⟩
def Gj (l:km) (v:Value) (w:World):Prop:=∃x y,v=.agg #[I l.kd,I l.fr,I l.ou,I l.kh,I l.kw,I l.sr,I l.pd,x,y]∧dq cN l.ws x w∧dq cN l.bs y w
def Gk (m:rV) (v:Value) (w:World):Prop:=∃x y,v=.agg #[x,y]∧dq jV m.inp x w∧dq dLay m.lays y w
theorem Gj.ext {l:km} {v:Value} {w w':World} (h:Gj l v w) (hx:aE w w'):Gj l v w':=by
 obtain⟨x,y,h0,h1,h2⟩:=h
 exact⟨x,y,h0,h1.ext hx,h2.ext hx⟩
theorem Gk.ext {m:rV} {v:Value} {w w':World} (h:Gk m v w) (hx:aE w w'):Gk m v w':=by
 obtain⟨x,y,h0,h1,h2⟩:=h
 exact⟨x,y,h0,h1.ext hx,h2.ext hx⟩
end
end Go.Rl
namespace Go.Rl
open Go.RowKit
section
variable {α β:Type} {f:List UInt8→Option (α×List UInt8)} {st s1 s2 so:Option (List UInt8)} {a:α}
def eP (f:List UInt8→Option (α×List UInt8)) (st:Option (List UInt8)) (a:α) (s1:Option (List UInt8)):Prop:=st.bind f=s1.map fun t=>(a,t)
theorem eP.some {t:List UInt8} (h:eP f st a (some t)):∃l,st=.some l∧f l=.some (a,t):=by
 cases st with
 |none=>cases h
 |some l=>exact⟨l,rfl,h⟩
def Le (f:List UInt8→Option (α×List UInt8)):Prop:=∀l a t,f l=some (a,t)→t.length≤l.length
def Lt (f:List UInt8→Option (α×List UInt8)):Prop:=∀l a t,f l=some (a,t)→t.length+1≤l.length
theorem Lt.le (h:Lt f):Le f:=fun l a t e=>by have:=h l a t e;omega
def AN (n:Nat) (st:Option (List UInt8)):Prop:=∀l,st=some l→l.length≤n
theorem AN.mono {n m:Nat} (h:AN n st) (hm:n≤m):AN m st:=fun l e=>Nat.le_trans (h l e) hm
theorem eP.atM {n:Nat} (h:eP f st a s1) (hf:Le f) (hn:AN n st):AN n s1:=fun t e=>by
 subst e
 obtain⟨l,h1,h2⟩:=h.some
 exact Nat.le_trans (hf l a t h2) (hn l h1)
theorem mE {N:Nat}:so.bind (cE f N)=so.bind (fun l=>(cE f N l).map fun p=>([]++p.1,p.2)):=by
 cases so with
 |none=>rfl
 |some l=>simp
theorem oe {X:Option (List α×List UInt8)} {k:Nat} {done:List α} (hR:X=so.bind (fun l=>(cE f (k+1) l).map fun p=>(done++p.1,p.2))) (hq:eP f so a s2):
 X=s2.bind (fun l=>(cE f k l).map fun p=>((done++[a])++p.1,p.2)):=by
 rw[hR]
 cases so with
 |none=>
  cases s2 with
  |none=>rfl
  |some t=>cases hq
 |some l=>
  have hq:f l=s2.map fun t=>(a,t):=hq
  show(cE f (k+1) l).map _=_
  simp only[cE]
  rw[hq]
  cases s2 with
  |none=>rfl
  |some t=>
   simp only[Option.map_some,Option.bind_some,Option.map_map]
   cases cE f k t<;>simp
theorem AO {X:Option (List α×List UInt8)} {done:List α} (hR:X=so.bind (fun l=>(cE f 0 l).map fun p=>(done++p.1,p.2))):X=so.map fun t=>(done,t):=by
 rw[hR]
 cases so with
 |none=>rfl
 |some l=>simp[cE]
theorem sX (hf:Le f):∀(n:Nat) (l:List UInt8) (a:List α) (t:List UInt8),cE f n l=some (a,t)→t.length≤l.length
 |0,l,a,t,h=>by simp only[cE,Option.some.injEq,Prod.mk.injEq] at h;rw[←h.2];exact Nat.le_refl _
 |n+1,l,a,t,h=>by
  simp only[cE] at h
  obtain⟨p,h1,h2⟩:=Option.bind_eq_some_iff.1 h
  obtain⟨q,h3,h4⟩:=Option.map_eq_some_iff.1 h2
  simp only[Prod.mk.injEq] at h4
  have:=sX hf n p.2 q.1 q.2 h3
  have:=hf l p.1 p.2 h1
  rw[←h4.2]
  omega
theorem og:Lt dX:=fun l a t h=>by
 have h1:=(fH h).1
 have h2:=t5 a
 rw[h1,List.length_append]
 omega
theorem gl:Lt pH:=fun l a t h=>by
 unfold pH at h
 obtain⟨p,h1,h2⟩:=Option.map_eq_some_iff.1 h
 have:=og l p.1 p.2 h1
 simp only[Prod.mk.injEq] at h2
 rw[←h2.2]
 exact this
theorem ub:Lt oZ:=fun l q t h=>by
 obtain⟨b,n,m⟩:=q
 have:=(EE h).1
 rw[this,List.length_append]
 have h1:1≤(nn b n m).length:=by simp only[nn,List.length_append,List.length_cons,List.length_nil];omega
 omega
theorem EG {st:Option (List UInt8)} {n:Int} {t:List UInt8} (h:eP pH st n (some t)):kU n:=by
 obtain⟨l,_,h⟩:=h.some
 unfold pH at h
 obtain⟨p,h1,h2⟩:=Option.map_eq_some_iff.1 h
 have:=(fH h1).2
 simp only[Prod.mk.injEq] at h2
 rw[←h2.1]
 unfold uz kU
 split<;>omega
end
end Go.Rl
namespace Go.Rl
open Go.RowKit
structure eG where
 kd:Int
 ix:Int
 lo:Int
 hi:Int
 co:d7
structure gn where
 un:Int
 up:Bool
 va:d7
 pf:List eG
structure fa where
 kd:Int
 ix:Int
 at_:d7
inductive bc where
 |mk (lems:List gn) (split:fa) (kids:List bc) (empty:Bool) (pf:List eG)
def z0Q:d7:=(false,[],[])
def uc:fa:=⟨0,0,z0Q⟩
def bc.lems:bc→List gn|.mk l _ _ _ _=>l
def bc.split:bc→fa|.mk _ s _ _ _=>s
def bc.kids:bc→List bc|.mk _ _ k _ _=>k
def bc.empty:bc→Bool|.mk _ _ _ e _=>e
def bc.pf:bc→List eG|.mk _ _ _ _ p=>p
def fG (m:eG):Dt:=.st [.st [jV m.kd,jV m.ix,jV m.lo,jV m.hi],cN m.co]
def mF (l:List eG):Dt:=.sl (l.map fG)
def jf (l:gn):Dt:=.st [jV l.un,.bool l.up,cN l.va,mF l.pf]
def nu (d:fa):Dt:=.st [jV d.kd,jV d.ix,cN d.at_]
mutual
def cw:bc→Dt
 |.mk lems sp kids em pf=>.st [.sl (lems.map jf),nu sp,.sl (ue kids),.bool em,mF pf]
def ue:List bc→List Dt
 |[]=>[]
 |n::l=>cw n::ue l
end
theorem mG:∀l:List bc,ue l=l.map cw
 |[]=>rfl
 |n::l=>by simp only[ue,List.map_cons,mG l]
def rW (d:fa):List UInt8:=cT d.kd++cT d.ix++eZ d.at_
def qY (m:eG):List UInt8:=cT m.kd++cT m.ix++cT m.lo++cT m.hi++eZ m.co
def uf (l:List eG):List UInt8:=uv l.length++l.flatMap qY
def EH (b:Bool):List UInt8:=if b=true then[1] else[0]
def mi (l:gn):List UInt8:=cT l.un++EH l.up++eZ l.va++uf l.pf
def ir (l:List gn):List UInt8:=uv l.length++l.flatMap mi
mutual
def dC:bc→List UInt8
 |.mk lems _ [] em pf=>EH em++ir lems++uf pf
 |.mk lems sp (k::ks) _ _=>[2]++ir lems++rW sp++ug (k::ks)
def ug:List bc→List UInt8
 |[]=>[]
 |n::l=>dC n++ug l
end
theorem qZ:∀l:List bc,ug l=l.flatMap dC
 |[]=>rfl
 |n::l=>by simp only[ug,List.flatMap_cons,qZ l]
def el (l:List bc):List UInt8:=uv l.length++l.flatMap dC
def pI (most:Nat) (l:List UInt8):Option (Nat×List UInt8):=(dX l).bind fun p=>if p.1≤most then some p else none
def yc (l:List UInt8):Option (fa×List UInt8):=(pH l).bind fun a=>(pH a.2).bind fun b=>(oZ b.2).bind fun c=>some (⟨a.1,b.1,c.1⟩,c.2)
def AP (l:List UInt8):Option (eG×List UInt8):=(pH l).bind fun a=>(pH a.2).bind fun b=>(pH b.2).bind fun c=>(pH c.2).bind fun d=>(oZ d.2).bind fun e=>some (⟨a.1,b.1,c.1,d.1,e.1⟩,e.2)
def uh:List UInt8→Option (List eG×List UInt8):=kn AP
def nw (n:Nat):Bool:=decide (n=1)
def ra (l:List UInt8):Option (gn×List UInt8):=(pH l).bind fun a=>(pI 1 a.2).bind fun b=>(oZ b.2).bind fun c=>(uh c.2).bind fun d=>some (⟨a.1,nw b.1,c.1,d.1⟩,d.2)
def fY:List UInt8→Option (List gn×List UInt8):=kn ra
def pp:Nat→List UInt8→Option (bc×List UInt8)
 |0,_=>none
 |n+1,l=>(pI 2 l).bind fun a=>(fY a.2).bind fun b=>
   if a.1<2 then(uh b.2).bind fun c=>some (.mk b.1 uc [] (decide (a.1=1)) c.1,c.2)
   else(yc b.2).bind fun c=>(pp n c.2).bind fun d=>(pp n d.2).bind fun e=>some (.mk b.1 c.1 [d.1,e.1] false [],e.2)
def eB (l:List UInt8):Option (bc×List UInt8):=pp l.length l
def ui:List UInt8→Option (List bc×List UInt8):=kn eB
section
variable {α β:Type}
theorem Le.bind {f:List UInt8→Option (α×List UInt8)} {g:α×List UInt8→Option (β×List UInt8)} (hf:Le f) (hg:∀p b t,g p=some (b,t)→t.length≤p.2.length):Le (fun l=>(f l).bind g):=fun l b t h=>by
 obtain⟨p,h1,h2⟩:=Option.bind_eq_some_iff.1 h
 exact Nat.le_trans (hg p b t h2) (hf l p.1 p.2 h1)
theorem Lt.bind {f:List UInt8→Option (α×List UInt8)} {g:α×List UInt8→Option (β×List UInt8)} (hf:Lt f) (hg:∀p b t,g p=some (b,t)→t.length≤p.2.length):Lt (fun l=>(f l).bind g):=fun l b t h=>by
 obtain⟨p,h1,h2⟩:=Option.bind_eq_some_iff.1 h
 have:=hg p b t h2
 have:=hf l p.1 p.2 h1
 omega
end
theorem fc {α β:Type} {f:List UInt8→Option (α×List UInt8)} (hf:Le f) {l:List UInt8} {g:α×List UInt8→Option (β×List UInt8)} {b:β} {t:List UInt8} (h:(f l).bind g=some (b,t)) (hg:∀p b t,g p=some (b,t)→t.length≤p.2.length):t.length≤l.length:=Le.bind hf hg l b t h
theorem ny {β:Type} {b b':β} {t t':List UInt8} (h:some (b',t')=some (b,t)):t.length≤t'.length:=by
 simp only[Option.some.injEq,Prod.mk.injEq] at h
 rw[h.2]
 exact Nat.le_refl _
theorem mH (k:Nat):Lt (pI k):=fun l a t h=>by
 unfold pI at h
 obtain⟨p,h1,h2⟩:=Option.bind_eq_some_iff.1 h
 split at h2
 ·simp only[Option.some.injEq] at h2
  subst h2
  exact og l _ _ h1
 ·cases h2
theorem rc:Lt yc:=Lt.bind gl fun _ _ _ h=>fc gl.le h fun _ _ _ h=>fc ub.le h fun _ _ _ h=>ny h
theorem zt:Lt AP:=Lt.bind gl fun _ _ _ h=>fc gl.le h fun _ _ _ h=>fc gl.le h fun _ _ _ h=>fc gl.le h fun _ _ _ h=>fc ub.le h fun _ _ _ h=>ny h
theorem sY {α:Type} {f:List UInt8→Option (α×List UInt8)} (hf:Le f):Lt (kn f):=fun l a t h=>by
 unfold kn at h
 obtain⟨p,h1,h2⟩:=Option.bind_eq_some_iff.1 h
 have:=sX hf p.1 p.2 a t h2
 have:=og l p.1 p.2 h1
 omega
theorem CI:Lt uh:=sY zt.le
theorem zu:Lt ra:=Lt.bind gl fun _ _ _ h=>fc (mH 1).le h fun _ _ _ h=>fc ub.le h fun _ _ _ h=>fc CI.le h fun _ _ _ h=>ny h
theorem ln:Lt fY:=sY zu.le
theorem nz:∀n,Lt (pp n)
 |0=>fun l a t h=>by simp[pp] at h
 |n+1=>fun l a t h=>by
  refine(Lt.bind (mH 2) fun p b t h=>?_) l a t (show((pI 2 l).bind _)=_ from h)
  refine fc ln.le h fun q b t h=>?_
  split at h
  ·exact fc CI.le h fun _ _ _ h=>ny h
  ·exact fc rc.le h fun _ _ _ h=>fc (nz n).le h fun _ _ _ h=>fc (nz n).le h fun _ _ _ h=>ny h
theorem lR:∀(n m:Nat) (l:List UInt8),l.length≤n→n≤m→pp m l=pp n l
 |0,0,_,_,_=>rfl
 |0,m+1,l,hl,_=>by
  have:l=[]:=List.eq_nil_of_length_eq_zero (by omega)
  subst this
  rfl
 |n+1,0,_,_,h=>by omega
 |n+1,m+1,l,hl,hm=>by
  simp only[pp]
  cases h1:pI 2 l with
  |none=>rfl
  |some a=>
   simp only[Option.bind_some]
   cases h2:fY a.2 with
   |none=>rfl
   |some b=>
    simp only[Option.bind_some]
    split
    ·rfl
    ·cases h3:yc b.2 with
     |none=>rfl
     |some c=>
      simp only[Option.bind_some]
      have a1:=mH 2 l _ _ h1
      have a2:=ln _ _ _ h2
      have a3:=rc _ _ _ h3
      rw[lR n m c.2 (by omega) (by omega)]
      cases h4:pp n c.2 with
      |none=>rfl
      |some d=>
       simp only[Option.bind_some]
       have a4:=nz n _ _ _ h4
       rw[lR n m d.2 (by omega) (by omega)]
theorem uj:Lt eB:=fun l a t h=>nz l.length l a t h
theorem AQ (l:List UInt8):eB l=(pI 2 l).bind fun a=>(fY a.2).bind fun b=>
 if a.1<2 then(uh b.2).bind fun c=>some (.mk b.1 uc [] (decide (a.1=1)) c.1,c.2)
 else(yc b.2).bind fun c=>(eB c.2).bind fun d=>(eB d.2).bind fun e=>some (.mk b.1 c.1 [d.1,e.1] false [],e.2):=by
 unfold eB
 cases l with
 |nil=>rfl
 |cons x l=>
  show pp (l.length+1) (x::l)=_
  simp only[pp]
  cases h1:pI 2 (x::l) with
  |none=>rfl
  |some a=>
   simp only[Option.bind_some]
   cases h2:fY a.2 with
   |none=>rfl
   |some b=>
    simp only[Option.bind_some]
    split
    ·rfl
    ·cases h3:yc b.2 with
     |none=>rfl
     |some c=>
      simp only[Option.bind_some]
      have a1:=mH 2 _ _ _ h1
      have a2:=ln _ _ _ h2
      have a3:=rc _ _ _ h3
      simp only[List.length_cons] at a1
      rw[lR c.2.length l.length c.2 (Nat.le_refl _) (by omega)]
      cases h4:pp c.2.length c.2 with
      |none=>rfl
      |some d=>
       simp only[Option.bind_some]
       have a4:=nz _ _ _ _ h4
       rw[lR d.2.length l.length d.2 (Nat.le_refl _) (by omega)]
end Go.Rl
namespace Go.Rl
open Go.RowKit
theorem eP.bindE {α β:Type} {f:List UInt8→Option (α×List UInt8)} {st s1:Option (List UInt8)} {a:α} (h:eP f st a s1) (F:α×List UInt8→Option (β×List UInt8)):st.bind (fun l=>(f l).bind F)=s1.bind fun t=>F (a,t):=by
 cases st with
 |none=>
  cases s1 with
  |none=>rfl
  |some t=>cases h
 |some l=>
  have h:f l=s1.map fun t=>(a,t):=h
  show(f l).bind F=_
  rw[h]
  cases s1<;>rfl
theorem jP {β:Type} {s:Option (List UInt8)} {b:β}:(s.bind fun t=>some (b,t))=s.map fun t=>(b,t):=by cases s<;>rfl
section
variable {st s1 s2 s3 s4 s5:Option (List UInt8)}
theorem AR {a b:Int} {q:d7} (h1:eP pH st a s1) (h2:eP pH s1 b s2) (h3:eP oZ s2 q s3):eP yc st ⟨a,b,q⟩ s3:=by
 refine(h1.bindE _).trans ?_
 dsimp only
 refine(h2.bindE _).trans ?_
 dsimp only
 refine(h3.bindE _).trans ?_
 dsimp only
 exact jP
theorem yd {a b c d:Int} {q:d7} (h1:eP pH st a s1) (h2:eP pH s1 b s2) (h3:eP pH s2 c s3) (h4:eP pH s3 d s4) (h5:eP oZ s4 q s5):eP AP st ⟨a,b,c,d,q⟩ s5:=by
 refine(h1.bindE _).trans ?_
 dsimp only
 refine(h2.bindE _).trans ?_
 dsimp only
 refine(h3.bindE _).trans ?_
 dsimp only
 refine(h4.bindE _).trans ?_
 dsimp only
 refine(h5.bindE _).trans ?_
 dsimp only
 exact jP
theorem ye {a:Int} {n:Nat} {q:d7} {ps:List eG} (h1:eP pH st a s1) (h2:eP (pI 1) s1 n s2) (h3:eP oZ s2 q s3) (h4:eP uh s3 ps s4):eP ra st ⟨a,nw n,q,ps⟩ s4:=by
 refine(h1.bindE _).trans ?_
 dsimp only
 refine(h2.bindE _).trans ?_
 dsimp only
 refine(h3.bindE _).trans ?_
 dsimp only
 refine(h4.bindE _).trans ?_
 dsimp only
 exact jP
def ko (k:Nat) (ls:List gn) (l:List UInt8):Option (bc×List UInt8):=
 if k<2 then(uh l).bind fun c=>some (.mk ls uc [] (decide (k=1)) c.1,c.2)
 else(yc l).bind fun c=>(eB c.2).bind fun d=>(eB d.2).bind fun e=>some (.mk ls c.1 [d.1,e.1] false [],e.2)
theorem ib:eB=fun l=>(pI 2 l).bind fun a=>(fY a.2).bind fun b=>ko a.1 b.1 b.2:=funext AQ
theorem o0 {k:Nat} (h:k<2) (ls:List gn):ko k ls=fun l=>(uh l).bind fun c=>some (.mk ls uc [] (decide (k=1)) c.1,c.2):=funext fun _=>if_pos h
theorem iF {k:Nat} (h:¬k<2) (ls:List gn):ko k ls=fun l=>(yc l).bind fun c=>(eB c.2).bind fun d=>(eB d.2).bind fun e=>some (.mk ls c.1 [d.1,e.1] false [],e.2):=funext fun _=>if_neg h
theorem AS {n:Nat} {ls:List gn} {ps:List eG} (hn:n<2) (h1:eP (pI 2) st n s1) (h2:eP fY s1 ls s2) (h3:eP uh s2 ps s3):eP eB st (.mk ls uc [] (decide (n=1)) ps) s3:=by
 unfold eP
 rw[ib]
 refine(h1.bindE _).trans ?_
 dsimp only
 refine(h2.bindE _).trans ?_
 dsimp only
 show Option.bind s2 (ko _ _)=_
 rw[o0 hn]
 refine(h3.bindE _).trans ?_
 dsimp only
 exact jP
theorem yf {n:Nat} {ls:List gn} {d:fa} {a b:bc} (hn:¬n<2) (h1:eP (pI 2) st n s1) (h2:eP fY s1 ls s2) (h3:eP yc s2 d s3) (h4:eP eB s3 a s4) (h5:eP eB s4 b s5):eP eB st (.mk ls d [a,b] false []) s5:=by
 unfold eP
 rw[ib]
 refine(h1.bindE _).trans ?_
 dsimp only
 refine(h2.bindE _).trans ?_
 dsimp only
 show Option.bind s2 (ko _ _)=_
 rw[iF hn]
 refine(h3.bindE _).trans ?_
 dsimp only
 refine(h4.bindE _).trans ?_
 dsimp only
 refine(h5.bindE _).trans ?_
 dsimp only
 exact jP
variable {α:Type} {f:List UInt8→Option (α×List UInt8)} {a:α}
theorem gS {β:Type} {g:List UInt8→Option (β×List UInt8)} {F:β×List UInt8→Option (α×List UInt8)} (h:st.bind g=none):st.bind (fun l=>(g l).bind F)=none:=by
 cases st with
 |none=>rfl
 |some l=>have h:g l=none:=h;show(g l).bind F=none;rw[h];rfl
theorem CJ (h:st.bind (pI 2)=none):st.bind eB=none:=by rw[ib];exact gS h
theorem CK {n:Nat} (h1:eP (pI 2) st n s1) (h:s1.bind fY=none):st.bind eB=none:=by
 rw[ib]
 refine(h1.bindE _).trans ?_
 dsimp only
 exact gS h
theorem CL {n:Nat} {ls:List gn} (hn:n<2) (h1:eP (pI 2) st n s1) (h2:eP fY s1 ls s2) (h:s2.bind uh=none):st.bind eB=none:=by
 rw[ib]
 refine(h1.bindE _).trans ?_
 dsimp only
 refine(h2.bindE _).trans ?_
 dsimp only
 show Option.bind s2 (ko _ _)=_
 rw[o0 hn]
 exact gS h
theorem CM {n:Nat} {ls:List gn} (hn:¬n<2) (h1:eP (pI 2) st n s1) (h2:eP fY s1 ls s2) (h:s2.bind yc=none):st.bind eB=none:=by
 rw[ib]
 refine(h1.bindE _).trans ?_
 dsimp only
 refine(h2.bindE _).trans ?_
 dsimp only
 show Option.bind s2 (ko _ _)=_
 rw[iF hn]
 exact gS h
theorem CN {n:Nat} {ls:List gn} {d:fa} (hn:¬n<2) (h1:eP (pI 2) st n s1) (h2:eP fY s1 ls s2) (h3:eP yc s2 d s3) (h:s3.bind eB=none):st.bind eB=none:=by
 rw[ib]
 refine(h1.bindE _).trans ?_
 dsimp only
 refine(h2.bindE _).trans ?_
 dsimp only
 show Option.bind s2 (ko _ _)=_
 rw[iF hn]
 refine(h3.bindE _).trans ?_
 dsimp only
 exact gS h
theorem CO {n:Nat} {ls:List gn} {d:fa} {x:bc} (hn:¬n<2) (h1:eP (pI 2) st n s1) (h2:eP fY s1 ls s2) (h3:eP yc s2 d s3) (h4:eP eB s3 x s4) (h:s4.bind eB=none):st.bind eB=none:=by
 rw[ib]
 refine(h1.bindE _).trans ?_
 dsimp only
 refine(h2.bindE _).trans ?_
 dsimp only
 show Option.bind s2 (ko _ _)=_
 rw[iF hn]
 refine(h3.bindE _).trans ?_
 dsimp only
 refine(h4.bindE _).trans ?_
 dsimp only
 exact gS h
theorem CP (h:st.bind pH=none):st.bind ra=none:=gS h
theorem CQ {n:Int} (h1:eP pH st n s1) (h:s1.bind (pI 1)=none):st.bind ra=none:=by
 refine(h1.bindE _).trans ?_
 dsimp only
 exact gS h
theorem CR {n:Int} {k:Nat} (h1:eP pH st n s1) (h2:eP (pI 1) s1 k s2) (h:s2.bind oZ=none):st.bind ra=none:=by
 refine(h1.bindE _).trans ?_
 dsimp only
 refine(h2.bindE _).trans ?_
 dsimp only
 exact gS h
theorem CS {n:Int} {k:Nat} {q:d7} (h1:eP pH st n s1) (h2:eP (pI 1) s1 k s2) (h3:eP oZ s2 q s3) (h:s3.bind uh=none):st.bind ra=none:=by
 refine(h1.bindE _).trans ?_
 dsimp only
 refine(h2.bindE _).trans ?_
 dsimp only
 refine(h3.bindE _).trans ?_
 dsimp only
 exact gS h
theorem AT {X:Option (List α×List UInt8)} {so:Option (List UInt8)} {k:Nat} {done:List α} (hR:X=so.bind (fun l=>(cE f (k+1) l).map fun p=>(done++p.1,p.2))) (h:so.bind f=none):X=none:=by
 rw[hR]
 cases so with
 |none=>rfl
 |some l=>
  have h:f l=none:=h
  show(cE f (k+1) l).map _=none
  simp only[cE,h]
  rfl
theorem Gl {n:Nat} {most:Nat} (h:eP dX st n s1) (hn:n≤most):eP (pI most) st n s1:=by
 refine(h.bindE _).trans ?_
 cases s1 with
 |none=>rfl
 |some t=>exact if_pos hn
theorem Gm {n:Nat} {most:Nat} (h:eP dX st n s1) (hn:¬n≤most):st.bind (pI most)=none:=by
 refine(h.bindE _).trans ?_
 cases s1 with
 |none=>rfl
 |some t=>exact if_neg hn
end
end Go.Rl
namespace Go.Rl
open Go.RowKit Go.Proofs
end Go.Rl
namespace Go.Rl
open Go.RowKit Go.Proofs
section
variable {w0 w:World} {l m:List UInt8} {v x:Value} {ty:TypeId}
def FC (base:Nat) (l:List UInt8) (v:Value) (w:World):Prop:=bZ base l v w∨(bQ l v w∧∃ad,v=.slice (some ad) l.length l.length)
theorem FC.ext {base:Nat} {w':World} (h:FC base l v w) (hx:aE w w'):FC base l v w':=h.imp (·.ext hx) fun h=>⟨h.1.ext hx,h.2⟩
theorem yg (h0:aE w0 w) (hv:FC w0.heap.size l v w) (hx:bQ m x w) (hm:0<m.length) (hb:l.length+m.length≤140737488355328):
 ∃r w',(Builtin.append_ #[22,22] ty #[v,x]).run Tryz.prog w=.ok r w'∧bZ w0.heap.size (l++m) r w'∧aE w0 w':=by
 rcases hv with hv|⟨hv,ad,rfl⟩
 ·obtain⟨r,w',h1,h2,h3⟩:=dc (ty:=ty) hv hx hb h0.size
  exact⟨r,w',h1,h2,aE.of_grew h0 h3 hv.ge⟩
 ·obtain⟨i,hi,hz,hsize,hby⟩:=info_parts lJ
  obtain⟨A,n,c,hA,hnc,hcm,hl,hc,_⟩:=hv
  injection hA with hA hn hc'
  subst hA hn hc'
  obtain⟨A',n',c',rfl,hnc',hcm',hl',hcl',_⟩:=hx
  have hn':n'=m.length:=by simpa using hl'.symm
  obtain⟨ad',hA',hcl2⟩:=hcl' (by omega)
  subst hA'
  have hold:∀j u,(l.map U8)[j]? =some u→w.cell? (ad.add j)=some u:=fun j u hu=>by
   have hj:j<l.length:=by
    have:=(List.getElem?_eq_some_iff.1 hu).1
    simpa using this
   obtain⟨ad2,h2,h3⟩:=hc (by omega)
   cases h2
   exact h3 j u hu
  obtain⟨r,w',h1,h2,h3⟩:=run_append_arg_grows (P:=Tryz.prog) w 22 ty 5 i (.int .u8 0) 1 1 Tryz.underlying22 hi hz hsize hby rfl (by omega) ad l.length l.length (l.map U8) (by simp) hold ad' n' c' (m.map U8) hl' hcl2 (by omega) (by unfold maxLen;omega) (by omega)
  refine⟨r,w',h1,⟨l.length+n',?_⟩,h0.of_grown h3 (fun k hk=>by cases hk)⟩
  rw[List.map_append]
  exact ft h2 (fun k hk=>Nat.le_trans h0.size (World.ownsRow.lt h2 k hk).1)
end
end Go.Rl
namespace Go.Rl
open Go.RowKit Go.Proofs
open Go.Maps (Keyed)
section ops
variable {P:Program} {ops:Array Oper} {Q:eR} {N:Nat} {D:List Deferred} {l:Fr} {w w':World} {rest:List Oper} {d:Nat} {ty:TypeId} {pos:String} {aft:Array Edge}
end ops
theorem bI.k0 {w:World} {g:Nat} {T:TypeId} {v:Value} {l:List Value} (h:bI g T (v::l) w):w.cell? ⟨g,0,none⟩=some v:=h.cell (i:=0) rfl
end Go.Rl
namespace Go.Rl
open Go.RowKit Go.Proofs
section
variable {w0 w w':World} {l m:List UInt8} {v x:Value} {ty t t2 T:TypeId} {g base:Nat}
theorem yh (ht:Tryz.prog.underlying t=some (.slice 5)) (ht2:Tryz.prog.underlying t2=some (.slice 5)) (a b:Value):(Builtin.append_ #[t,t2] ty #[a,b]).run Tryz.prog w=(Builtin.append_ #[22,22] ty #[a,b]).run Tryz.prog w:=by
 unfold Builtin.append_
 cases a<;>simp[Sem.run_bind,run_underlying ht,run_underlying ht2,run_underlying Tryz.underlying22]
structure dR (T:TypeId) (base g:Nat) (l:List UInt8) (v:Value) (w:World):Prop where
 ge:base≤g
 blk:bI g T [v] w
 row:FC base l v w
 new:∀k,v.ownBlock=some k→base≤k
 off:v.ownBlock≠some g
 lt:∀k,v.ownBlock=some k→k<w.heap.size
theorem FC.bts (h:FC base l v w):bQ l v w:=h.elim (·.bts) (·.1)
theorem dR.ext (h:dR T base g l v w) (hx:aE w w'):dR T base g l v w':=⟨h.ge,h.blk.ext hx,h.row.ext hx,h.new,h.off,fun k hk=>Nat.lt_of_lt_of_le (h.lt k hk) hx.size⟩
theorem dR.off_new {k:Nat} (h:dR T base g l v w) (hk:w.heap.size≤k):¬(k=g∨v.ownBlock=some k):=by
 rintro(rfl|h1)
 ·have:=h.blk.lt;omega
 ·have:=h.lt k h1;omega
structure bO (g:Nat) (v:Value) (w:World) (v':Value) (w':World):Prop where
 mv:Mv (fun k=>k=g∨v.ownBlock=some k) w w'
 own:∀k,v'.ownBlock=some k→v.ownBlock=some k∨w.heap.size≤k
theorem bO.of_ext (h:aE w w'):bO g v w v w':=⟨Mv.of_ext h,fun _ h=>.inl h⟩
theorem bO.refl:bO g v w v w:=bO.of_ext (aE.refl w)
theorem bO.trans {v1 v2:Value} {w1 w2:World} (h:bO g v w v1 w1) (k:bO g v1 w1 v2 w2):bO g v w v2 w2:=by
 refine⟨h.mv.trans k.mv fun n hn hlt=>?_,fun n hn=>?_⟩
 ·rcases hn with hn|hn
  ·exact .inl hn
  ·rcases h.own n hn with h1|h1
   ·exact .inr h1
   ·omega
 ·rcases k.own n hn with h1|h1
  ·exact h.own n h1
  ·exact .inr (Nat.le_trans h.mv.size h1)
theorem bO.off {k:Nat} {v1:Value} {w1:World} (h:bO g v w v1 w1) (hn:¬(k=g∨v.ownBlock=some k)) (hk:k<w.heap.size):¬(k=g∨v1.ownBlock=some k):=by
 rintro(h1|h1)
 ·exact hn (.inl h1)
 ·rcases h.own k h1 with h2|h2
  ·exact hn (.inr h2)
  ·omega
theorem bO.ext {v1:Value} {w1:World} (h:bO g v w v1 w1) (h0:aE w0 w) (hg:w0.heap.size≤g) (hv:∀k,v.ownBlock=some k→w0.heap.size≤k):aE w0 w1:=
 h.mv.ext_from h0 fun k hk=>by
  rcases hk with rfl|hk
  ·exact hg
  ·exact hv k hk
def WrX (g:Nat) (v:Value):Nat→Prop:=fun k=>k=g∨v.ownBlock=some k
theorem cz.step {v1:Value} {w1:World} {d:Dt} {cs:List Value} (h:cz (WrX g v) w d cs) (k:bO g v w v1 w1):cz (WrX g v1) w1 d cs:=h.mv k.mv fun n hn=>by
 rcases hn with hn|hn
 ·exact .inl (.inl hn)
 ·rcases k.own n hn with h1|h1
  ·exact .inl (.inr h1)
  ·exact .inr h1
theorem dR.put (ht:Tryz.prog.underlying t=some (.slice 5)) (hs:(Tryz.prog.info? t).map (·.size)=some 1) (ht2:Tryz.prog.underlying t2=some (.slice 5)) (h:dR T base g l v w) (h0:base≤w.heap.size) (hx:bQ m x w) (hm:0<m.length) (hb:l.length+m.length≤140737488355328):
 ∃r w1 w2,(Builtin.append_ #[t,t2] ty #[v,x]).run Tryz.prog w=.ok r w1∧(Instr.storeAt t (.pointer (some ⟨g,0,none⟩)) r).run Tryz.prog w1=.ok () w2∧dR T base g (l++m) r w2∧bO g v w r w2:=by
 have key:∃r w1,(Builtin.append_ #[22,22] ty #[v,x]).run Tryz.prog w=.ok r w1∧bZ base (l++m) r w1∧bO g v w r w1∧bI g T [v] w1∧r.ownBlock≠some g:=by
  rcases h.row with hv|⟨hv,hfull⟩
  ·obtain⟨r,w1,h1,h2,h3⟩:=dc (ty:=ty) hv hx hb h0
   refine⟨r,w1,h1,h2,⟨Mv.of_grown h3.grown fun k hk _=>.inr hk,fun k hk=>?_⟩,h.blk.other h3.grown (Ne.symm h.off),?_⟩
   ·rcases h3.own with h4|h4
    ·rw[h4] at hk;exact .inl hk
    ·exact .inr (h4 k hk)
   ·rcases h3.own with h4|h4
    ·rw[h4];exact h.off
    ·intro h5
     have:=h4 g h5
     have:=h.blk.lt
     omega
  ·obtain⟨r,w1,h1,h2,h3⟩:=yg (ty:=ty) (w0:=w) (aE.refl w) (.inr ⟨hv,hfull⟩) hx hm hb
   refine⟨r,w1,h1,h2.low h0,⟨Mv.of_ext h3,fun k hk=>.inr (h2.ge k hk)⟩,h.blk.ext h3,fun h5=>?_⟩
   have:=h2.ge g h5
   have:=h.blk.lt
   omega
 obtain⟨r,w1,h1,h2,h3,h4,h5⟩:=key
 have hr1:r.oneCell'=true:=by
  obtain⟨A,n,c,rfl,_⟩:=h2.bts
  rfl
 obtain⟨w2,h6,h7,h8⟩:=h4.stC (P:=Tryz.prog) (t:=t) (i:=0) (v:=r) hs hr1 (by simp)
 refine⟨r,w1,w2,(yh ht ht2 v x).trans h1,h6,⟨h.ge,h8,.inl ?_,h2.ge,h5,fun k hk=>Nat.lt_of_lt_of_le (h2.lt k hk) h7.size⟩,h3.trans ⟨Mv.of_grown h7 fun k hk _=>.inl (Option.some.inj hk).symm,fun k hk=>.inl hk⟩⟩
 obtain⟨n,h9⟩:=h2
 exact⟨n,World.ownsRow.kept h9 h7 (.inr h5)⟩
theorem CT (ht:Tryz.prog.underlying t=some (.slice 5)) (l:List UInt8) (hl:l.length≤16777216) (h0:0<l.length):∃v w1 w2,(Instr.buildSlice t l.length (da 0 (l.map U8)).toArray).run Tryz.prog w=.ok v w1∧(convert t t v).run Tryz.prog w1=.ok v w2∧aE w w2∧bQ l v w2∧∃ad,v=.slice (some ad) l.length l.length∧w.heap.size≤ad.block∧ad.block<w2.heap.size:=by
 obtain⟨i,hi,hz0,hs,_⟩:=info_parts lJ
 have hf:∀Z:Array Value,Z.size=(l.map U8).length→Instr.fill (fun i=>some (i*1,1)) Z (da 0 (l.map U8))=some (l.map U8).toArray:=fun Z hZ=>by
  have:=kX (l.map U8) [] Z.toList (fun v hv=>nT (iZ l v hv)) (by simpa using hZ)
  simpa using this
 have hle:¬(l.length*1>2^24):=by omega
 have hinfo:(typeInfo 5).run Tryz.prog w=.ok i w:=by simp[typeInfo,hi]
 have hsz:(sizeOf 5).run Tryz.prog w=.ok 1 w:=by simp[sizeOf,hinfo,hs]
 have hzv:(zeroValue 5).run Tryz.prog w=.ok (.int .u8 0) w:=by simp[zeroValue,hinfo,hz0]
 have hrun:(Instr.buildSlice t l.length (da 0 (l.map U8)).toArray).run Tryz.prog w=.ok (.slice (some ⟨w.heap.size,0,none⟩) l.length l.length) (w.alloc (.cells (l.map U8).toArray 5)):=by
  simp only[Instr.buildSlice,Sem.run_bind,run_underlying ht,Result.andThen_ok,hsz,if_neg hle]
  rw[if_neg (by omega)]
  simp only[Sem.run_bind,Sem.run_pure,Result.andThen_ok,hzv]
  rw[hf _ (by simp[Value.cells])]
  simp[newRow]
 refine⟨_,_,_,hrun,Go.Lib.run_convert_bytes_const w t 5 _ _ _ ht Tryz.underlying5,aE.new w _,?_,⟨_,rfl,Nat.le_refl _,by simp⟩⟩
 have hg:=heap_alloc_new w (.cells (l.map U8).toArray 5 ((l.map U8).toArray.size,(l.map U8).toArray.size+1))
 refine⟨_,_,_,rfl,Nat.le_refl _,by unfold maxLen;omega,by simp,fun _=>⟨_,rfl,fun j u hu=>?_⟩,fun h=>by cases h⟩
 rw[Addr.add_mid,Nat.zero_add,cell_of_row _ _ j _ _ _ hg]
 simpa using hu
end
end Go.Rl
namespace Go.Rl
open Go.RowKit Go.Proofs
section
variable {w w':World} {g h:Nat} {T:TypeId} {st:Option (List UInt8)} {p:Option Addr} {b:Bool}
structure AU (T:TypeId) (h g:Nat) (st:Option (List UInt8)) (w:World):Prop where
 blk:bI h T [.pointer (some ⟨g,0,none⟩),B st.isSome] w
 rd:aP g st w
 ne:h≠g
theorem qS.mv {X:Nat→Prop} (h:qS T g st w) (hm:Mv X w w') (hX:∀k,X k→g<k):qS T g st w':=by
 obtain⟨A,n,c,h1,h2,h3⟩:=h
 refine⟨A,n,c,hm.blk h1 fun hx=>Nat.lt_irrefl _ (hX g hx),?_,h3⟩
 obtain⟨A',n',c',he,h4,h5,h6,h7,h8⟩:=h2
 cases he
 refine⟨_,_,_,rfl,h4,h5,h6,fun hn=>?_,h8⟩
 obtain⟨ad,rfl,hc⟩:=h7 hn
 refine⟨ad,rfl,hm.cells hc fun _ hx=>?_⟩
 have:=hX _ hx
 have:=h3 ad rfl
 omega
theorem AU.mv {X:Nat→Prop} (hm:AU T h g st w) (hv:Mv X w w') (hX:∀k,X k→g<k∧h<k):AU T h g st w':=
 ⟨hv.blk hm.blk fun hx=>Nat.lt_irrefl _ (hX h hx).2,(hm.rd.rdT.mv hv fun k hk=>(hX k hk).1).rdAt,hm.ne⟩
theorem AU.ext (hm:AU T h g st w) (hx:aE w w'):AU T h g st w':=⟨hm.blk.ext hx,hm.rd.ext hx,hm.ne⟩
end
end Go.Rl
namespace Go.Rl
open Go.RowKit Go.Proofs
theorem re (off:Nat):∀(cs:List Value) (k:Nat) (p q r:List Value),p.length=off+k→q.length=cs.length→
 (cs.zipIdx k).foldl (fun(a:Array Value) (x:Value×Nat)=>a.setIfInBounds (off+x.2) x.1) (p++q++r).toArray=(p++cs++r).toArray
 |[],k,p,q,r,_,hq=>by
  have:q=[]:=List.eq_nil_of_length_eq_zero (by simpa using hq)
  subst this
  rfl
 |c::cs,k,p,q,r,hp,hq=>by
  cases q with
  |nil=>simp at hq
  |cons q0 q=>
   simp only[List.zipIdx_cons,List.foldl_cons]
   have e:((p++q0::q++r).toArray).setIfInBounds (off+k) c=((p++[c])++q++r).toArray:=by
    simp[←hp]
   rw[e,re off cs (k+1) (p++[c]) q r (by simp;omega) (by simpa using hq)]
   simp
theorem nA {sz:Nat}:∀(vs:List (List Value)) (k:Nat) (a b:List Value),(∀v∈vs,v.length=sz)→a.length=k*sz→b.length=vs.length*sz→
 Instr.fill (fun i=>some (i*sz,sz)) (a++b).toArray (da k (vs.map fun v=>Value.agg v.toArray))=some (a++vs.flatten).toArray
 |[],k,a,b,_,_,hb=>by
  have:b=[]:=List.eq_nil_of_length_eq_zero (by simpa using hb)
  subst this
  rfl
 |v::vs,k,a,b,hv,ha,hb=>by
  have hvl:=hv v (by simp)
  have hbl:b.length=sz+vs.length*sz:=by rw[hb,List.length_cons,Nat.add_mul];omega
  have hc:((Value.agg v.toArray).cells.size≠sz||decide (k*sz+(Value.agg v.toArray).cells.size>(a++b).toArray.size))=false:=by
   simp[Value.cells,hvl,ha,hbl]
  have hz:(Value.agg v.toArray).cells.zipIdx.foldl (fun(cs:Array Value) (x:Value×Nat)=>cs.setIfInBounds (k*sz+x.2) x.1) (a++b).toArray=((a++v)++b.drop sz).toArray:=by
   have h:=re (k*sz) v 0 a (b.take sz) (b.drop sz) (by omega) (by rw[List.length_take];omega)
   rw[List.append_assoc,List.take_append_drop] at h
   rw[←h]
   simp[Value.cells]
  simp only[List.map_cons,da,Instr.fill]
  rw[hc]
  have ih:=nA vs (k+1) (a++v) (b.drop sz) (fun u hu=>hv u (by simp[hu])) (by rw[List.length_append,ha,hvl,Nat.add_mul];omega) (by rw[List.length_drop,hbl];omega)
  simp only[Bool.false_eq_true,if_false]
  rw[hz,ih]
  simp
theorem CU {P:Program} {w:World} {t e:TypeId} {z:Value} {sz:Nat} (ht:P.underlying t=some (.slice e)) (hi:(P.info? e).map (fun i=>(i.zero,i.size))=some (some z,sz)) (hz:z.cells.size=sz) (h0:0<sz)
 (vs:List (List Value)) (hv:∀v∈vs,v.length=sz) (hn:0<vs.length) (hl:vs.length*sz≤16777216):
 ∃r w',(Instr.buildSlice t vs.length (da 0 (vs.map fun v=>Value.agg v.toArray)).toArray).run P w=.ok r w'∧aE w w'∧Sl sz vs.flatten r w'∧r.ownBlock=some w.heap.size:=by
 obtain⟨i,hi',h2⟩:=Option.map_eq_some_iff.1 hi
 simp only[Prod.mk.injEq] at h2
 obtain⟨hz0,hs⟩:=h2
 have hfl:vs.flatten.length=vs.length*sz:=by
  rw[List.length_flatten]
  have:∀l:List (List Value),(∀v∈l,v.length=sz)→(l.map List.length).sum=l.length*sz:=by
   intro l
   induction l with
   |nil=>intro _;simp
   |cons a l ih=>intro h;simp only[List.map_cons,List.sum_cons,List.length_cons,h a (by simp),ih fun v hv=>h v (by simp[hv]),Nat.add_mul];omega
  exact this vs hv
 have hf:∀Z:Array Value,Z.size=vs.length*sz→Instr.fill (fun i=>some (i*sz,sz)) Z (da 0 (vs.map fun v=>Value.agg v.toArray))=some vs.flatten.toArray:=fun Z hZ=>by
  have:=nA vs 0 [] Z.toList hv (by simp) (by simpa using hZ)
  simpa using this
 have hle:¬(vs.length*sz>2^24):=by omega
 have hinfo:(typeInfo e).run P w=.ok i w:=by simp[typeInfo,hi']
 have hsz:(sizeOf e).run P w=.ok sz w:=by simp[sizeOf,hinfo,hs]
 have hzv:(zeroValue e).run P w=.ok z w:=by simp[zeroValue,hinfo,hz0]
 have hpos:0<vs.length*sz:=Nat.mul_pos hn h0
 refine⟨.slice (some ⟨w.heap.size,0,none⟩) vs.length vs.length,w.alloc (.cells vs.flatten.toArray e),?_,aE.new w _,?_,rfl⟩
 ·simp only[Instr.buildSlice,Sem.run_bind,run_underlying ht,Result.andThen_ok,hsz,if_neg hle]
  rw[if_neg (by omega)]
  simp only[Sem.run_bind,Sem.run_pure,Result.andThen_ok,hzv]
  rw[hf _ (by simp[hz,Nat.mul_comm])]
  simp[newRow]
 ·have hg:=heap_alloc_new w (.cells vs.flatten.toArray e)
  refine⟨_,_,_,rfl,Nat.le_refl _,by unfold maxLen;have:vs.length≤vs.length*sz:=Nat.le_mul_of_pos_right _ h0;omega,hfl,fun _=>⟨_,rfl,fun j u hu=>?_⟩,fun h=>by cases h⟩
  rw[Addr.add_mid,Nat.zero_add,cell_of_row _ _ j _ _ _ hg]
  simpa using hu
end Go.Rl
namespace Go.Rl
open Go.RowKit Go.Proofs
section
variable {α:Type} {f:α→Dt} {l:List α} {v x:Value} {w w':World} {e t ty:TypeId} {sz base:Nat}
def gh (e:TypeId) (sz base:Nat) (f:α→Dt) (l:List α) (v:Value) (w:World):Prop:=∃n xs,w.ownsRow base e sz v n xs∧aF (fun k=>k<base∨v.ownBlock=some k) w (l.map f) xs
theorem gh.nil (w:World):gh e sz base f ([]:List α) (.slice none 0 0) w:=⟨0,[],World.ownsRow_nil _ _ _ _,aF.nil⟩
theorem gh.lt (h:gh e sz base f l v w):∀k,v.ownBlock=some k→base≤k∧k<w.heap.size:=fun k hk=>by
 obtain⟨n,xs,h,_⟩:=h
 exact World.ownsRow.lt h k hk
theorem gh.isS (h:gh e sz base f l v w):∃A n c,v=.slice A n c:=by
 obtain⟨n,xs,⟨_,h|⟨g,cap,cur,rfl,_⟩⟩,_⟩:=h
 ·exact⟨_,_,_,h.1⟩
 ·exact⟨_,_,_,rfl⟩
theorem gh.rpx (h:gh e sz base f l v w) (hs:∀a,(f a).size=sz) (h0:0<sz):cz (fun k=>k<base) w (.sl (l.map f)) [v]:=by
 obtain⟨n,xs,h1,h2⟩:=h
 exact cz.ofOwn h1 (h2.weak fun k hk=>.inl (.inl hk)) (by simp[hs]) h0 fun k hk=>Nat.not_lt.2 (World.ownsRow.lt h1 k hk).1
theorem gh.mv {X:Nat→Prop} (h:gh e sz base f l v w) (hm:Mv X w w') (hX:∀k,X k→k<base):gh e sz base f l v w':=by
 obtain⟨n,xs,h1,h2⟩:=h
 refine⟨n,xs,⟨h1.1,?_⟩,aF.mv (hm.weak fun k hk _=>.inl (hX k hk)) (fun k hk=>.inl hk) h2⟩
 rcases h1.2 with h3|⟨g,cap,cur,rfl,h3,h4,h5⟩
 ·exact .inl h3
 ·refine .inr ⟨g,cap,cur,rfl,h3,?_,h5⟩
  rw[hm.keep g (Array.getElem?_eq_some_iff.1 h4).1 fun hx=>by have:=hX g hx;omega]
  exact h4
theorem gh.app {P:Program} {z:Value} {bytes:Nat} (ht:P.underlying t=some (.slice e)) (hi:(P.info? e).map (fun i=>(i.zero,i.size,i.bytes))=some (some z,sz,bytes)) (hzs:z.cells.size=sz) (hsz:0<sz) (hb0:0<bytes)
 (h:gh e sz base f l v w) {a:α} {cs:List Value} (hx:Sl sz cs x w) (h1:aT cs) (ha:cz (fun k=>k<base∨v.ownBlock=some k) w (f a) cs) (hs:∀a,(f a).size=sz) (hb:(l.length+1)*bytes≤140737488355328) (hbase:base≤w.heap.size):
 ∃r w1,(Builtin.append_ #[t,t] ty #[v,x]).run P w=.ok r w1∧gh e sz base f (l++[a]) r w1∧fh w w1 v r:=by
 obtain⟨n,xs,h2,h3⟩:=h
 have hxl:xs.length=l.length*sz:=by rw[h3.len,cD (sz:=sz) (by simp[hs]),List.length_map]
 have hcl:cs.length=sz:=by rw[ha.len,hs]
 obtain⟨r,w1,n',h4,h5,h6⟩:=mY (P:=P) (ty:=ty) ht hi hzs hsz h2 hx h1 (by
  rw[hxl,hcl,show l.length*sz+sz=(l.length+1)*sz by rw[Nat.add_mul,Nat.one_mul],Nat.mul_right_comm]
  exact Nat.mul_le_mul_right _ hb) hb0 hbase
 refine⟨r,w1,h4,⟨n',_,h5,?_⟩,h6⟩
 have hm:Mv (fun k=>k<base∨v.ownBlock=some k) w w1:=Mv.of_grown h6.grown fun k hk _=>.inr hk
 have hY:∀k,(k<base∨r.ownBlock=some k)→(k<base∨v.ownBlock=some k)∨w.heap.size≤k:=fun k hk=>by
  rcases hk with hk|hk
  ·exact .inl (.inl hk)
  ·rcases h6.own with h7|h7
   ·rw[h7] at hk;exact .inl (.inr hk)
   ·exact .inr (h7 k hk)
 rw[List.map_append]
 exact aF.append (aF.mv hm hY h3) (by simpa using aF.cons (cz.mv hm hY ha) aF.nil)
theorem gh.push {P:Program} {z:Value} {bytes:Nat} (ht:P.underlying t=some (.slice e)) (hi:(P.info? e).map (fun i=>(i.zero,i.size,i.bytes))=some (some z,sz,bytes)) (hzs:z.cells.size=sz) (hsz:0<sz) (hsb:sz≤16777216) (hb0:0<bytes)
 (h:gh e sz base f l v w) {a:α} {cs:List Value} (h1:aT cs) (ha:cz (fun k=>k<base∨v.ownBlock=some k) w (f a) cs) (hs:∀a,(f a).size=sz) (hb:(l.length+1)*bytes≤140737488355328) (hbase:base≤w.heap.size):
 ∃x w0 r w1,(Instr.buildSlice t 1 (da 0 [Value.agg cs.toArray]).toArray).run P w=.ok x w0∧(Builtin.append_ #[t,t] ty #[v,x]).run P w0=.ok r w1∧gh e sz base f (l++[a]) r w1∧Mv (fun k=>v.ownBlock=some k) w w1∧∀k,r.ownBlock=some k→v.ownBlock=some k∨w.heap.size≤k:=by
 have hcl:cs.length=sz:=by rw[ha.len,hs]
 have hi2:(P.info? e).map (fun i=>(i.zero,i.size))=some (some z,sz):=by
  obtain⟨i,hi',h2⟩:=Option.map_eq_some_iff.1 hi
  simp only[Prod.mk.injEq] at h2
  rw[hi']
  simp[h2.1,h2.2.1]
 obtain⟨x,w0,h3,h4,h5,_⟩:=CU (w:=w) ht hi2 hzs hsz [cs] (by simp[hcl]) (by simp) (by simpa using hsb)
 have h':gh e sz base f l v w0:=by
  obtain⟨n,xs,h6,h7⟩:=h
  exact⟨n,xs,eE h6 h4,h7.ext h4⟩
 obtain⟨r,w1,h6,h7,h8⟩:=h'.app (ty:=ty) ht hi hzs hsz hb0 (by simpa using h5) h1 (ha.ext h4) hs hb (Nat.le_trans hbase h4.size)
 refine⟨x,w0,r,w1,by simpa using h3,h6,h7,(Mv.of_ext h4).trans (Mv.of_grown h8.grown fun k hk _=>hk) fun _ hn _=>hn,fun k hk=>?_⟩
 rcases h8.own with h9|h9
 ·rw[h9] at hk;exact .inl hk
 ·exact .inr (Nat.le_trans h4.size (h9 k hk))
end
end Go.Rl

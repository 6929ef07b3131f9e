/- Part 2 of a proof: plain facts and walks of functions, merged by a program. Conditions: each lemma names its own. -/
import Derived.Test.YtddonikjkohphaaGreatDoorWp1
def Rat.sg (x:Rat):Bool:=decide (x.num<0)
def Rat.nl (x:Rat):List UInt32:=Go.Rl.lb x.num.natAbs
def Rat.dl (x:Rat):List UInt32:=if x.den=1 then[] else Go.Rl.lb x.den
namespace Go.Rl
open Go.RowKit Go.Proofs
theorem ow:az Tryz.prog 226:=⟨_,Tryz.func226,by kernel_rfl,rfl⟩
theorem FF:az Tryz.prog 225:=⟨_,Tryz.func225,by kernel_rfl,rfl⟩
theorem FG:az Tryz.prog 307:=⟨_,Tryz.func307,by kernel_rfl,rfl⟩
theorem j3 {n m:Nat} (h:n≤m):(lb n).length≤(lb m).length:=by
 rcases Nat.lt_or_ge (lb m).length (lb n).length with h1|h1
 ·have:=zc h1;omega
 ·exact h1
theorem ox {w:World} {l m:List UInt32} {v u:Value} (hv:bH l v w) (hu:bH m u w) (hl:l.length≤274877906944) (hml:m.length≤274877906944) (hm:0<val m):
 Calls Tryz.prog 226 #[v,u] w (cA fun r w'=>aH w w'∧∃q s,r=.tuple #[q,s,I 0]∧bH (lb (val l/val m)) q w'∧bH (lb (val l%val m)) s w'):=by
 refine enter Tryz.func226 J J J (aj (ae (aa J J (aa J J (aa J J (ar (ah (aj (ae (ab J J (aq vP J J (vS hv (by omega)) ?_)))))))))))
 rintro v16 w16 ⟨x16,hcx⟩
 obtain⟨x,bx,rfl,hbx⟩:∃(x:UInt64) (bx:Bool),v16=.tuple #[fB x,B bx]∧(bx=true→x.toNat=val l):=by
  rcases hcx with⟨_,rfl⟩|⟨x,hx,rfl⟩
  ·exact⟨0,false,J,fun h=>by cases h⟩
  ·exact⟨x,true,J,fun _=>hx⟩
 refine ab J J (aB J J cY (aB J J (cZ) (aa J J (aa J J (ar (ah (aj (ae (ab J J (aq vP J J (vS (hu.ext x16) (by omega)) ?_))))))))))
 rintro v21 w21 ⟨x21,hcy⟩
 obtain⟨y,bY,rfl,hby⟩:∃(y:UInt64) (bY:Bool),v21=.tuple #[fB y,B bY]∧(bY=true→y.toNat=val m):=by
  rcases hcy with⟨_,rfl⟩|⟨y,hy,rfl⟩
  ·exact⟨0,false,J,fun h=>by cases h⟩
  ·exact⟨y,true,J,fun _=>hy⟩
 refine ab J J (aB J J cY (aB J J (cZ) ?_))
 have hy0:bY=true→¬y=0:=fun h h0=>by
  have:=hby h
  rw[h0] at this
  have e:(0:UInt64).toNat=0:=rfl
  omega
 refine aa J J (aa J J (ar (ah (aj (i3 (fun _:Unit=>[(0,v),(1,u),(7,fB x),(8,B bx),(9,fB y),(10,B bY)]) (fun _ w'=>w21=w') ?_ ?_)))))
 ·refine aj ?_
  cases bY
  ·refine ae (ab J J (ab J J (bf J J J (bf J J J (aG J J J (ar (ah (bU J (aA ?_)))))))))
   exact cW () ⟨J,J,J,J,J,J,trivial⟩ J
  ·refine ae (ab J J (ab J J (an J (ab J J (an J (ao (v:=fB 0) J J J (be (hy0 J) xJ) (aR J J J (ar ?_))))))))
   refine ah (bU J (aA ?_))
   exact cW () ⟨J,J,J,J,J,J,trivial⟩ J
 rintro⟨⟩ _ rfl
 refine ah (aj (i3 (fun _:Unit=>[(0,v),(1,u)]) (fun _ w'=>w21=w') ?_ ?_))
 ·refine aj ?_
  rcases bx with _|_<;>rcases bY with _|_
  ·refine ae (ab J J (ab J J (bf J J J (aG J J J (ar (ah (bU J (aA ?_))))))))
   exact cW () ⟨J,J,trivial⟩ J
  ·refine ae (ab J J (ab J J (bf J J J (aG J J J (ar (ah (bU J (aA ?_))))))))
   exact cW () ⟨J,J,trivial⟩ J
  ·refine ae (ab J J (ab J J (an J (ab J J (aR J J J (ar (ah (bU J (aA ?_)))))))))
   exact cW () ⟨J,J,trivial⟩ J
  ·have hx:=hbx rfl
   have hy:=hby rfl
   have hyn:=hy0 rfl
   refine ae (ab J J (ab J J (an J (ab J J (aR J J J (ar (ah (cg J (aj (bj 10 [4,5] (by kernel_rfl) (by kernel_rfl) (ax J J (ax J J (bC J J J (fun w _=>tk hyn) (bZ (S:=bH (lb (val l/val m))) sJ (bH.stable _) J (fun w hw=>by rintro _ rfl;exact cA.mono sK fun v w' h=>⟨h.1,by have:=h.2;rwa [UInt64.toNat_div,hx,hy] at this⟩) (ax J J (ax J J (bC J J J (fun w _=>qH hyn) (bZ (S:=bH (lb (val l%val m))) sJ (bH.stable _) J (fun w hw=>by rintro _ rfl;exact cA.mono sK fun v w' h=>⟨h.1,by have:=h.2;rwa [UInt64.toNat_mod,hx,hy] at this⟩) (gA J J (gA J J (bA ?_)))))))))))))))))))))
   intro wg6 xg6 vg4 b4 vg5 b5
   refine aa J J (ar (ah (aD (a0 (sB J J J J ?_)))))
   exact⟨_,J,((x16.trans x21).trans xg6),_,_,J,b4,b5⟩
 rintro⟨⟩ _ rfl
 refine ah (aj (ae (ab J J (bn J J (bR MD (hv.ext (x16.trans x21))) ?_))))
 obtain⟨v43,w43,hr43,x43,o43,ob43⟩:=py MT (w:=w21) w21.heap.size (n:=l.length) (by omega) (Ng _)
 refine fL J J J hr43 ?_
 obtain⟨v44,w44,hr44,x44,o44,ob44⟩:=lw Tryz.underlying47 (w:=w43) w43.heap.size [] (by simp) (Ng _)
 have e1:=((x16.trans x21).trans x43).trans x44
 refine bN (vs:=[]) J J hr44 (aa J J (aa J J (ar (ah (aj (aj (ae (ab J J (aq Ct J J (Cu (hv.ext e1) (by omega)) ?_)))))))))
 rintro v46 w46 ⟨x46,rfl⟩
 have hbl:bl (val l)≤32*l.length:=rD (by have:=c9 l;rwa [show(4294967296:Nat)^l.length=2^(32*l.length) by rw[Nat.pow_mul]] at this)
 have hb0:val l/2^bl (val l)=0:=by
  rcases Np (val l) with h|h
  ·rw[h];simp
  ·exact Nat.div_eq_of_lt (mX h).2
 refine ao J J J (bT (by omega) (by omega)) (aa J J (ar (ah (aJ (fi (fun(j:Nat) (O:List UInt32) (vr:Value)=>[(0,v),(1,u),(11,v43),(12,vr),(13,I ((j:Int)-1))]) (fun(j:Nat) (O:List UInt32) (vr:Value) w'=>aH w w'∧eY w21.heap.size O v43 w'∧O.length=l.length∧bH (lb (val l/2^j%val m)) vr w'∧j≤bl (val l)∧val O=2^j*(val l/2^j/val m)) (fun(j:Nat) (O:List UInt32) (vr:Value)=>j) (bl (val l)) (List.replicate l.length 0) (v44) ⟨J,J,J,J,J,trivial⟩ ⟨(e1.trans x46),(o43.ext x44).ext x46,by simp,by rw[hb0,Nat.zero_mod];exact(o44.ext x46).wds,Ng _,by rw[hb0];simp[lO]⟩ ?_)))))
 rintro j O vr w9 ⟨e9,oq,hO,br,hj,hq⟩
 refine aj (aj (ae (ab J J (ao J J J (cz) (ar (ah (ci J (fun h49=>?_) (fun h49=>?_))))))))
 ·obtain⟨i,rfl⟩:∃i,j=i+1:=⟨j-1,by omega⟩
  have e:((i+1:Nat):Int)-1=(i:Int):=by omega
  rw[e]
  have hib:i/32<l.length:=by omega
  have hrl:(lb (val l/2^(i+1)%val m)).length≤m.length:=Nb (j3 (Nat.le_of_lt (Nat.mod_lt _ hm))) (fM (c9 m))
  obtain⟨rd1,rd2,rd3⟩:=Cs (N:=val l) (i:=i) hm
  refine aA (ah (aj (aJ (aj (ae (ab J J ?_))))))
  have hVl:=c9 m
  have hxl:=Nat.mod_lt (val l/2^(i+1)) hm
  have h2l:∀b,b≤1→(lb (2*(val l/2^(i+1)%val m)+b)).length≤m.length+1:=fun b hb=>fM (by have e:(4294967296:Nat)^(m.length+1)=4294967296^m.length*4294967296:=Nat.pow_succ ..;rw[e];have:=Fk m.length;omega)
  refine aq Fy J J (Fz (k:=1) br (by omega) (by omega)) ?_
  rintro v53 w53 ⟨x53,b53⟩
  refine aa J J (ar (ah (aj (ae (ab J J (ab J J (ab J J (ao (r:=I ((i/32:Nat):Int)) J J J (by have e:((i/32:Nat):Int)=(i:Int)/32:=(by omega);rw[e];exact qE (by omega) (by omega) (by omega)) ?_))))))))
  obtain⟨a58,p58,q58⟩:=dN MD (hv.ext (e9.trans x53)) (i:=(i/32:Nat)) (by omega) .i64
  refine aE J J J (p58 _) (ak J J (ai MF J q58) (ab J J (ao (r:=I ((i%32:Nat):Int)) J J J (by have e:((i%32:Nat):Int)=(i:Int)%32:=(by omega);rw[e];exact oc (by omega) (by omega)) (ao J J J (lN ((i%32:Nat)) (by omega)) (ao (v:=ep 1) J J J (xG) ?_)))))
  obtain⟨v64,w64,hr64,x64,o64,ob64⟩:=lw Tryz.underlying47 (w:=w53) w53.heap.size [((((((l[(i/32:Nat)]))>>>UInt32.ofNat ((i%32:Nat))))&&&(1)))] (by simp) (Ng _)
  refine bN (vs:=[(0,ep (((((((l[(i/32:Nat)]))>>>UInt32.ofNat ((i%32:Nat))))&&&(1)))))]) J J hr64 (aq xR J J (xT (b53.ext x64) o64.wds (by rw[bk,Nat.pow_one,Nat.mul_comm];have:=h2l 0 (by omega);rw[Nat.add_zero] at this;omega) (by simp)) ?_)
  rintro v65 w65 ⟨x65,b65⟩
  rw[bk,bk,oe,KZ hib,Nat.pow_one,Nat.mul_comm] at b65
  have x6:=(x53.trans x64).trans x65
  refine aa J J (ar (ah (aj (ae (ab J J (ab J J (aq tB J J (tC b65 (hu.ext (((e9.trans x53).trans x64).trans x65))) ?_)))))))
  rintro v68 _ ⟨rfl,rfl⟩
  refine ao J J J (cz) (ar (ah (ci J (fun h69=>?_) (fun h69=>?_))))
  ·have hle:val m≤val (lb (2*(val l/2^(i+1)%val m)+val l/2^i%2)):=Nat.le_of_not_lt fun h=>by have:=jI.2 h;omega
   refine aj (ae (ab J J (ab J J (aq qO J J (xU b65 (hu.ext (((e9.trans x53).trans x64).trans x65)) (by have:=h2l (val l/2^i%2) (by omega);omega) hle) ?_))))
   rintro v73 w73 ⟨x73,d73,rfl,b73⟩
   rw[bk] at b73 hle
   obtain⟨rm,rq⟩:=rd2 hle
   rw[←rm] at b73
   have oq73:=(oq.ext x6).ext x73
   obtain⟨g85,_,p85,_,_,_,_,_,ob85⟩:=oq73.setW MT (i:=i/32) (by omega) (O[i/32]'(by omega)|||(1:UInt32)<<<UInt32.ofNat (i%32))
   refine ab J J (aB J J (cY) (aB J J cZ (aa J J (ar (ah (bj 10 [0,1,11,12,13,84,85] (by kernel_rfl) (by kernel_rfl) (ax J J (ax J J (bC (r:=I ((i/32:Nat):Int)) J J J (fun w _=>by have e:((i/32:Nat):Int)=(i:Int)/32:=(by omega);rw[e];exact qE (by omega) (by omega) (by omega)) ?_)))))))))
   obtain⟨a79,p79,q79⟩:=dN MT oq73.wds (i:=(i/32:Nat)) (by omega) .i64
   refine aK J J J (fun w _=>p79 w) (ap J J (fun w hw=>ai MF J (hw.cell_some q79)) (ax J J (bC (r:=I ((i%32:Nat):Int)) J J J (fun w _=>by have e:((i%32:Nat):Int)=(i:Int)%32:=(by omega);rw[e];exact oc (by omega) (by omega)) (bC (u:=ep 1) J J J (fun w _=>Fi ((i%32:Nat)) (by omega)) (bC J J J (fun w _=>AI) (aK J J J (fun w hw=>p85 w) (bA ?_)))))))
   rintro wg15 xg15 _ hq0
   obtain rfl:=Eq.symm hq0
   rintro _ hq1
   obtain rfl:=Eq.symm hq1
   rintro _ hq11
   obtain rfl:=Eq.symm hq11
   rintro _ hq12
   obtain rfl:=Eq.symm hq12
   rintro _ rfl _ rfl _ rfl
   obtain⟨g',w',p',s',o',q',hb',c',ob'⟩:=(oq73.ext xg15).setW MT (i:=i/32) (by omega) (O[i/32]'(by omega)|||(1:UInt32)<<<UInt32.ofNat (i%32))
   obtain rfl:g85=g':=Nc (ob85.symm.trans ob')
   refine dH J J (s') ?_
   have x15:=(((e9.trans x6).trans x73).trans xg15).of_new q' (by have:=x16.size;have:=x21.size;omega)
   have sb:=K0 (a:=O) (i:=i) (by omega) hq
   have br':=((b73.ext xg15).kept q' (.inr (b73.off (by have:=oq.lt _ ob85;have:=x6.size;omega)))).wds
   refine ar (aW (ah (ae (ab J J (ao J J J (bT (by omega) (by omega)) (aa J J (ar (cK (i) (_) (d73) ⟨J,J,J,J,J,trivial⟩ ⟨x15,o',by simpa using hO,br',by omega,by rw[sb,hq,rq,Nat.pow_succ,Nat.mul_assoc,Nat.mul_add,Nat.mul_one]⟩ (by omega)))))))))
  ·have hlt:2*(val l/2^(i+1)%val m)+val l/2^i%2<val m:=by
    rcases Nat.lt_or_ge (2*(val l/2^(i+1)%val m)+val l/2^i%2) (val m) with h|h
    ·exact h
    ·refine absurd ?_ h69
     rw[bk]
     have:¬pn (2*(val l/2^(i+1)%val m)+val l/2^i%2) (val m)<0:=fun h'=>by have:=jI.1 h';omega
     omega
   obtain⟨rm,rq⟩:=rd3 hlt
   rw[←rm] at b65
   refine aA (aW (ah (ae (ab J J (ao J J J (bT (by omega) (by omega)) (aa J J (ar (cK (i) (O) (v65) ⟨J,J,J,J,J,trivial⟩ ⟨(((e9.trans x53).trans x64).trans x65),oq.ext x6,hO,b65,by omega,by rw[hq,rq,Nat.pow_succ,Nat.mul_assoc]⟩ (by omega)))))))))
 ·refine bJ (aV (aV (bP (ah (aj ?_)))))
  obtain rfl:j=0:=by omega
  rw[Nat.pow_zero,Nat.div_one,Nat.one_mul] at hq
  rw[Nat.pow_zero,Nat.div_one] at br
  refine ae (ab J J (aq fz J J (fZ oq.wds (by omega)) ?_))
  rintro v87 w87 ⟨x87,b87⟩
  refine ab J J (aa J J (aa J J (aa J J (ar (ah (aD (sB J J J J ?_)))))))
  exact⟨_,J,(e9.trans x87),_,_,J,by rw[←hq];exact b87,br.ext x87⟩
theorem FH {w:World} {l m:List UInt32} {v u:Value} (hv:bH l v w) (hu:bH m u w) (hl:l.length≤274877906944) (hml:m.length≤274877906944):
 Calls Tryz.prog 225 #[v,u] w (cA fun r w'=>aH w w'∧bH (lb (Nat.gcd (val l) (val m))) r w'):=by
 refine enter Tryz.func225 J J J ?_
 have hll:=fM (c9 l)
 have hmm:=fM (c9 m)
 refine aj (ae (aa J J (ar (ah (aj (ae (ab J J (aq fz J J (fZ hv (by omega)) ?_))))))))
 rintro v9 w9 ⟨x9,b9⟩
 refine ab J J (aq fz J J (fZ (hu.ext x9) (by omega)) ?_)
 rintro v11 w11 ⟨x11,b11⟩
 refine aa J J (aa J J (ar (ah (aj (aJ (lE (fun(a:Nat) (b:Nat) (va:Value) (vb:Value)=>[(0,va),(1,vb)]) (fun(a:Nat) (b:Nat) (va:Value) (vb:Value) w'=>aH w w'∧bH (lb a) va w'∧bH (lb b) vb w'∧Nat.gcd a b=Nat.gcd (val l) (val m)∧(lb a).length≤274877906944∧(lb b).length≤274877906944) (fun(a:Nat) (b:Nat) (va:Value) (vb:Value)=>b) (val l) (val m) (v9) (v11) ⟨J,J,trivial⟩ ⟨(x9.trans x11),b9.ext x11,b11,J,by omega,by omega⟩ ?_))))))
 rintro a b va vb w2 ⟨e2,ha,hb,hg,hla,hlb⟩
 refine aj (aj (ae (ab J J (bn (r:=I ((lb b).length:Int)) J J (bR MD hb) (ao J J J (bo) (ar (ah (ci J (fun h14=>?_) (fun h14=>?_)))))))))
 ·have hb0:0<b:=by
   rcases Np b with h|h
   ·subst h;simp[fG] at h14
   ·exact h
  refine aA (ah (aJ (aj (ae (ab J J (ab J J (aq ow J J (ox ha hb (by omega) (by omega) (by rw[bk];exact hb0)) ?_)))))))
  rintro v18 w18 ⟨x18,q,r,rfl,bq,br⟩
  rw[bk,bk] at br
  refine ab J J (aB J J ey (aB J J (ez) (aB J J eF (aa J J (aa J J (aa J J (ar (ah (ae (ab J J (ab J J (aa J J (aa J J (ar (aW (fW (b) (a%b) (vb) (r) ⟨J,J,trivial⟩ ⟨(e2.trans x18),hb.ext x18,br,by rw[←hg,Nat.gcd_comm b,←Nat.gcd_rec,Nat.gcd_comm],hlb,Nb (j3 (Nat.le_of_lt (Nat.mod_lt a hb0))) hlb⟩ (Nat.mod_lt a hb0)))))))))))))))))
 ·refine bJ (aV (aV (bP (ah (aj (ae (ab J J (aa J J (ar (ah (aD (aF J J ?_))))))))))))
  exact⟨_,J,e2,by
   have hb0:b=0:=by
    refine gl.1 ?_
    omega
   rw[←hg,hb0,Nat.gcd_zero_right];exact ha⟩
theorem FI {w:World} {l m:List UInt32} {v u:Value} (hv:bH l v w) (hu:bH m u w) (hl:l.length≤274877906944) (hml:m.length≤274877906944):
 Calls Tryz.prog 307 #[v,u] w (cA fun r w'=>aH w w'∧bH (lb (Nat.gcd (val l) (val m))) r w'):=by
 refine enter Tryz.func307 J J J ?_
 have hll:=fM (c9 l)
 have hmm:=fM (c9 m)
 refine aj (ae (aa J J (ar (ah (aj (ae (ab J J (aq dz J J (dB hv) ?_))))))))
 rintro v16 _ ⟨rfl,b16⟩
 refine ab J J (aq dz J J (dB hu) ?_)
 rintro v18 _ ⟨rfl,b18⟩
 refine aa J J (aa J J (ar (ah (aj (aJ (lE (fun(a:Nat) (b:Nat) (va:Value) (vb:Value)=>[(0,va),(1,vb)]) (fun(a:Nat) (b:Nat) (va:Value) (vb:Value) w'=>aH w w'∧bH (lb a) va w'∧bH (lb b) vb w'∧Nat.gcd a b=Nat.gcd (val l) (val m)∧(lb a).length≤274877906944∧(lb b).length≤274877906944) (fun(a:Nat) (b:Nat) (va:Value) (vb:Value)=>b) (val l) (val m) (v16) (v18) ⟨J,J,trivial⟩ ⟨aH.refl _,b16,b18,J,by omega,by omega⟩ ?_))))))
 rintro a b va vb w2 ⟨e2,ha,hb,hg,hla,hlb⟩
 refine aj (aj (ae (ab J J (bn (r:=I ((lb b).length:Int)) J J (bR MD hb) (ao J J J (bo) (ar (ah (ci J (fun h21=>?_) (fun h21=>?_)))))))))
 ·have hb0:0<b:=by
   rcases Np b with h|h
   ·subst h;simp[fG] at h21
   ·exact h
  refine aA (ah (aJ (aj (ae (ab J J (ab J J (aq jJ J J (jK ha hb (by omega) (by omega) (by rw[bk];exact hb0)) ?_)))))))
  rintro v25 w25 ⟨x25,q,r,rfl,bq,br⟩
  rw[bk,bk] at br
  refine ab J J (aB J J ey (aB J J (ez) (aB J J eF (aa J J (aa J J (aa J J (ar (ah (ae (ab J J (ab J J (aa J J (aa J J (ar (aW (fW (b) (a%b) (vb) (r) ⟨J,J,trivial⟩ ⟨(e2.trans x25),hb.ext x25,br,by rw[←hg,Nat.gcd_comm b,←Nat.gcd_rec,Nat.gcd_comm],hlb,Nb (j3 (Nat.le_of_lt (Nat.mod_lt a hb0))) hlb⟩ (Nat.mod_lt a hb0)))))))))))))))))
 ·refine bJ (aV (aV (bP (ah (aj (aj (ae (ab J J (bn (r:=I ((lb b).length:Int)) J J (bR MD hb) ?_)))))))))
  refine ao J J J (aO) (ar (ah (ci J (fun h33=>?_) (fun h33=>?_))))
  ·have hb0:b=0:=by
    refine gl.1 ?_
    omega
   refine aj (ae (ab J J (aq gM J J (gO ha (by omega)) ?_)))
   rintro v35 w35 ⟨x35,b35⟩
   refine aa J J (ar (ah (aD (a0 (aF J J ?_)))))
   exact⟨_,J,(e2.trans x35),by
    rw[bk] at b35
    rw[←hg,hb0,Nat.gcd_zero_right];exact b35⟩
  ·have hb0:0<b:=by
    rcases Np b with h|h
    ·subst h;simp[fG] at h33
    ·exact h
   have hb64:b<18446744073709551616:=by
    have:=c9 (lb b)
    rw[bk] at this
    have h2:(4294967296:Nat)^(lb b).length≤4294967296^2:=Nj (by omega) (by omega)
    omega
   refine aA (ah (aj (ae (ab J J (ab J J (aq jJ J J (jK ha hb (by omega) (by omega) (by rw[bk];exact hb0)) ?_))))))
   rintro v39 w39 ⟨x39,q,r,rfl,bq,br⟩
   rw[bk,bk] at br
   refine ab J J (aB J J ey (aB J J (ez) (aB J J eF (aa J J (aa J J (aa J J (ar (ah (aj (ae (ab J J (aq vE J J (vK (hb.ext x39)) ?_))))))))))))
   rintro v45 _ ⟨rfl,hcx⟩
   obtain⟨x,hx,rfl⟩:∃x:UInt64,x.toNat=b∧v45=.tuple #[fB x,B true]:=by
    rw[bk] at hcx
    rcases hcx with⟨h,_⟩|h
    ·omega
    ·exact h
   refine ab J J (aB J J cY (aB J J cZ (aa J J (aa J J (ar (ah (aj (ae (ab J J (aq vE J J (vK br) ?_))))))))))
   rintro v50 _ ⟨rfl,hcy⟩
   obtain⟨y,hy,rfl⟩:∃y:UInt64,y.toNat=a%b∧v50=.tuple #[fB y,B true]:=by
    have:=Nat.mod_lt a hb0
    rw[bk] at hcy
    rcases hcy with⟨h,_⟩|h
    ·omega
    ·exact h
   refine ab J J (aB J J cY (aB J J cZ (aa J J (aa J J (ar (ah (aj (aJ (iy (fun(x':UInt64) (y':UInt64)=>[(11,fB x'),(13,fB y')]) (fun(x':UInt64) (y':UInt64) w'=>aH w w'∧Nat.gcd x'.toNat y'.toNat=Nat.gcd (val l) (val m)) (fun(x':UInt64) (y':UInt64)=>y'.toNat) (x) (y) ⟨J,J,trivial⟩ ⟨(e2.trans x39),by rw[hx,hy,←hg,Nat.gcd_comm b,←Nat.gcd_rec,Nat.gcd_comm]⟩ ?_)))))))))
   rintro x' y' w10 ⟨e10,hxy⟩
   refine aj (aj (ae (ab J J (ao (v:=fB 0) J J J (xI) (ar (ah (ci J (fun h54=>?_) (fun h54=>?_))))))))
   ·have hy0:0<y'.toNat:=Cv.1 h54
    have hyn:y'≠0:=fun h=>by
     rw[h] at hy0
     exact absurd hy0 (by decide)
    refine aA (ah (aJ (bj 5 [11,58] (by kernel_rfl) (by kernel_rfl) (ax J J (ax J J (ax J J (bC J J J (fun w _=>qH hyn) (gA J J (bA ?_)))))))))
    rintro wg11 xg11 _ rfl _ rfl
    refine aa J J (ar (aW (fk (y') (x'%y') ⟨J,J,trivial⟩ ⟨(e10.trans xg11),by rw[UInt64.toNat_mod,←hxy,Nat.gcd_comm y'.toNat,←Nat.gcd_rec,Nat.gcd_comm]⟩ (by rw[UInt64.toNat_mod];exact Nat.mod_lt _ hy0))))
   ·have hy0:y'.toNat=0:=by
     have:=mt Cv.2 h54
     have e:(0:UInt64).toNat=0:=rfl
     omega
    refine bJ (aV (aV (bP (ah (aj (ae (ab J J (aq nB J J (nD) ?_))))))))
    rintro v60 w60 ⟨x60,b60⟩
    refine aa J J (ar (ah (aD (aF J J ?_))))
    exact⟨_,J,(e10.trans x60),by rw[←hxy,hy0,Nat.gcd_zero_right];exact b60⟩
end Go.Rl
namespace Go.Rl
open Go.RowKit Go.Proofs
section
variable {P:Program} {w w':World} {t e T:TypeId} {n g o:Nat} {l:List Value}
def dE (g:Nat) (T:TypeId) (l:List Value) (w:World):Prop:=w.heap[g]? =some (.cells l.toArray T (0,0))
theorem dE.ext (h:dE g T l w) (hx:aH w w'):dE g T l w':=hx.heap_some h
theorem dE.lt (h:dE g T l w):g<w.heap.size:=(Array.getElem?_eq_some_iff.1 h).1
theorem dE.other {row:Option Nat} (h:dE g T l w) (hg:w.grownBy w' row) (hne:some g≠row):dE g T l w':=(hg.block g h.lt hne).trans h
theorem dE.cell (h:dE g T l w) {i:Nat} {v:Value} (hi:l[i]? =some v):w.cell? ⟨g,i,none⟩=some v:=KV h (by simpa using hi)
theorem dE.set (h:dE g T l w) (i:Nat) (u:Value):dE g T (l.set i u) (w.setCell ⟨g,i,none⟩ u):=by
 have:=vx h i u
 simpa [dE] using this
theorem dE.new (v:Value) (hv:v.cells=l.toArray):dE w.heap.size T l (w.alloc (.cells v.cells T)):=by
 have:=heap_alloc_new w (.cells v.cells T)
 rw[hv] at this⊢
 exact this
theorem dE.range (h:dE g T l w) {m:List Value} (hm:∀j v,m[j]? =some v→l[o+j]? =some v):w.rangeAt g o m:=fun j v hj=>h.cell (hm j v hj)
theorem Hx (ht:P.underlying t=some (.array n e)) (hs:(P.info? e).map (·.size)=some 1) {i:Nat} (hi:i<n) (k:IntKind):
 (Instr.indexAt t (.pointer (some ⟨g,o,none⟩)) (.int k i)).run P w=.ok (.pointer (some ⟨g,o+i,none⟩)) w:=by
 simp[Instr.indexAt,asIntOf,run_underlying ht,Instr.sureAddr,nA hs,hi,Addr.add_mid]
theorem L3 (ht:P.underlying t=some (.array n e)) (hs:(P.info? e).map (·.size)=some 1) {q:IntKind} (he:P.underlying e=some (.int q)) {i:Nat} (hi:i<n) (k:IntKind) {v:Value} (hv:l[i]? =some v):
 (Instr.index t (.agg l.toArray) (.int k i)).run P w=.ok v w:=by
 have hagg:(isAgg e).run P w=.ok false w:=by simp[isAgg,run_underlying he]
 have hpart:(part e l.toArray i).run P w=.ok v w:=by simp[part,hagg,hv]
 simp[Instr.index,asIntOf,run_underlying ht,hi,nA hs,hpart]
theorem Hy {d:TypeDesc} {m:List Value} (h:dE g T l w) (hm:∀j v,m[j]? =some v→l[o+j]? =some v) (hu:P.underlying t=some d) (hd:d.isRow=true) (hi:(P.info? t).map (·.size)=some m.length):
 (Instr.loadAt t (.pointer (some ⟨g,o,none⟩))).run P w=.ok (.agg m.toArray) w:=run_loadAt_mid w g o t m d (h.range hm) hu hd hi
theorem Kt {m:List Value} (h:dE g T l w) (hl:l.length=m.length) (hi:(P.info? t).map (·.size)=some m.length) (h1:∀v∈m,v.oneCell'=true):
 (Instr.storeAt t (.pointer (some ⟨g,0,none⟩)) (.agg m.toArray)).run P w=.ok () (w.setRow g m.toArray):=by
 have:=run_storeVar_row (P:=P) w g T t l.toArray m.toArray h (by simpa using hi) (by simpa using hl) (by simpa using h1)
 simp only[Instr.storeAt,Instr.sureAddr,Sem.run_bind,Sem.run_pure,Result.andThen_ok,this]
theorem dE.row (h:dE g T l w) (m:List Value):dE g T m (w.setRow g m.toArray):=setRow_heap w g _ _ T (0,0) h
theorem iG (w:World) (g:Nat) (cs:Array Value):w.grownBy (w.setRow g cs) (some g):=
 ⟨rfl,rfl,rfl,by simp[World.setRow],fun k _ hne=>setRow_other w g k cs fun e=>hne (by rw[e])⟩
theorem oy {fn:Func} {R:Ending→World→Prop} {N:Nat} {fr:Fr} {p:Tmp} {d:TypeDesc} (hr:fn.results= #[.cell p t]) (hv:lk fr p=some (.pointer (some ⟨g,0,none⟩))) (hb:dE g T l w) (hu:P.underlying t=some d) (hd:d.isRow=true) (hi:(P.info? t).map (·.size)=some l.length)
 (h:R (.returned (.agg l.toArray)) w):j0 (bodyPost P fn R) N [] fr w .ret:=fun a ha=>
 ⟨ha.defers,.agg l.toArray,results_cell_row hr a.tmps w g T l.toArray (0,0) d (ha.at_ p _ hv) hb hu (by cases d<;>first|rfl|exact hd) (by simpa using hi),h⟩
end
theorem pB {P:Program} {w:World} {t:TypeId} {z:Value} {l:List Value} (h:(P.info? t).map (·.zero)=some (some z)) (hv:z.cells=l.toArray):∃g w',(Instr.alloc t true (.tuple #[])).run P w=.ok (.pointer (some ⟨g,0,none⟩)) w'∧w.heap.size≤g∧aH w w'∧dE g t l w':=
 ⟨_,_,Jr h,Nat.le_refl _,aH.new w _,dE.new z hv⟩
end Go.Rl
namespace Go.Rl
end Go.Rl
namespace Go.Rl
end Go.Rl
namespace Go.Rl
end Go.Rl
namespace Go.Rl
open Go.RowKit Go.Proofs
end Go.Rl
namespace Go.Rl
open Go.RowKit Go.Proofs
def L4 (A:Option Addr) (g:Nat):Prop:=∀ad,A=some ad→ad.block<g
def zi (g:Nat) (st:Option (List UInt8)) (w:World):Prop:=
 ∃A n c,w.heap[g]? =some (.cells #[.slice A n c,.bool st.isNone] 184 (0,0))∧lP (st.getD []) (.slice A n c) w∧L4 A g
theorem zi.ext {g:Nat} {st:Option (List UInt8)} {w w':World} (h:zi g st w) (hx:aH w w'):zi g st w':=by
 obtain⟨A,n,c,h1,h2,h3⟩:=h
 exact⟨A,n,c,hx.heap_some h1,h2.ext hx,h3⟩
theorem FJ (A:Option Addr) (n c:Nat) (b:Bool) (l:List UInt8):∀(j:Nat) (u:Value),u∈l.map U8→(#[.slice A n c,.bool b]:Array Value)[j]? ≠some u:=by
 intro j u hu
 obtain⟨x,_,rfl⟩:=List.mem_map.1 hu
 match j with
 |0=>simp[U8]
 |1=>simp[U8]
 |j+2=>simp
section
variable {w:World} {g:Nat} {l:List UInt8}
theorem aZ {w':World} {row:Option Nat} (h:aH w w'):w.grownBy w' row:=⟨h.os,h.tape,h.output,h.size,fun _ hi _=>h.heap hi⟩
end
end Go.Rl
namespace Go.Rl
open Go.RowKit Go.Proofs
end Go.Rl
namespace Go.Rl
open Go.RowKit
section
variable {P:Program} {ops:Array Oper} {Q:ie} {N:Nat} {D:List Deferred} {S:World→Prop} {fuel:Nat} {listed:Array Bool} {l:Fr} {w:World} {d:Nat} {op:Op} {ty:TypeId} {pos:String} {aft:Array Edge}
def mR (Q:ie):ie:=fun e a w=>e=.normal∧Q .normal a w
def i4 (P:Program) (ops:Array Oper) (Q:ie) (N:Nat) (D:List Deferred) (S:World→Prop) (fuel:Nat) (listed:Array Bool) (l:Fr) (w:World):Prop:=∀a,At N D l a→wpAnyH P .any ops (mR Q) S fuel listed a w
def AT (P:Program) (ops:Array Oper) (Q:ie) (S:World→Prop) (fuel:Nat) (listed:Array Bool):ie:=fun e a w=>e=.normal∧S w∧wpAnyH P .any ops (mR Q) S fuel listed a w
theorem K1 {id:Nat} {os:List Oper} (S:World→Prop) (n:Nat) (hn:os.toArray.size=n) (hm:P.follows .mixedOrders=true)
 (h:i4 P os.toArray Q N D S n (Array.replicate n false) l w.drew):d5 P Q N D l w (.region id os.toArray true):=fun a ha=>by
 subst hn
 exact wp_mono (wp_region_held (Q:=mR Q) (S:=S) hm (h a ha)) fun e a w he=>by obtain⟨rfl,h⟩:=he;exact h
def Jy (ops:Array Oper) (listed:Array Bool) (i:Nat):Bool:=Region.noSelect ops&&Region.free .any ops listed i&&(Region.ready .any ops listed).contains i
theorem Ku (i:Nat) {v:Value} (hi:ops[i]? =some ⟨some d,op,ty,pos,aft,none⟩) (hB:Jy ops listed i=true) (hd:Nat.blt d N=true) (hS:S w)
 (hrun:∀ρ w',rC l ρ→S w'→(execOp ρ ⟨some d,op,ty,pos,aft,none⟩).run P w'=.ok (.value v) w')
 (k:i4 P ops Q N D S fuel (listed.setIfInBounds i true) ((d,v)::l) w):i4 P ops Q N D S (fuel+1) listed l w:=fun a ha=>by
 simp only[Jy,Bool.and_eq_true] at hB
 exact wpAnyH_take hi hB.1.1 hB.1.2 hB.2 (fun c a w h=>by obtain⟨h,_⟩:=h;cases h) (.inl ⟨J,fun w' hw'=>hrun a.eval w' (fun x v hx=>ha.ev hx) hw'⟩) hS (k _ (ha.put hd v))
theorem Cx (i:Nat) {xs:List Operand} {vs:List Value} {r:Value} {f:List Value→Sem Value} (hi:ops[i]? =some ⟨some d,op,ty,pos,aft,none⟩) (he:∀ρ,execOp ρ ⟨some d,op,ty,pos,aft,none⟩=(do pure (Next.value (←f (xs.map ρ))):Sem Next))
 (hp:xq l xs=some vs) (hB:Jy ops listed i=true) (hd:Nat.blt d N=true) (hS:S w) (hrun:∀w',S w'→(f vs).run P w'=.ok r w')
 (k:i4 P ops Q N D S fuel (listed.setIfInBounds i true) ((d,r)::l) w):i4 P ops Q N D S (fuel+1) listed l w:=
 Ku i hi hB hd hS (fun ρ w' hρ hw'=>by rw[he,lZ hρ hp,Sem.run_bind,hrun w' hw'];rfl) k
theorem evs1 {x:Operand} {v:Value} (h:ev l x=some v):xq l [x]=some [v]:=by simp[xq,h]
theorem L5 {x y:Operand} {u v:Value} (h:ev l x=some u) (h':ev l y=some v):xq l [x,y]=some [u,v]:=by simp[xq,h,h']
theorem pC (i:Nat) {x:Operand} {v:Value} (hi:ops[i]? =some ⟨some d,.move x,ty,pos,aft,none⟩) (hx:ev l x=some v) (hB:Jy ops listed i=true) (hd:Nat.blt d N=true) (hS:S w)
 (k:i4 P ops Q N D S fuel (listed.setIfInBounds i true) ((d,v)::l) w):i4 P ops Q N D S (fuel+1) listed l w:=
 Ku i hi hB hd hS (fun ρ w' hρ _=>by simp[execOp,hρ x _ hx]) k
theorem h_load (i:Nat) {t:TypeId} {x:Operand} {u r:Value} (hi:ops[i]? =some ⟨some d,.load t x,ty,pos,aft,none⟩) (hx:ev l x=some u) (hB:Jy ops listed i=true) (hd:Nat.blt d N=true) (hS:S w) (hrun:∀w',S w'→(Instr.loadAt t u).run P w'=.ok r w')
 (k:i4 P ops Q N D S fuel (listed.setIfInBounds i true) ((d,r)::l) w):i4 P ops Q N D S (fuel+1) listed l w:=
 Cx i (xs:=[x]) (f:=fun|[a]=>Instr.loadAt t a|_=>stuck "") hi (fun _=>rfl) (evs1 hx) hB hd hS hrun k
theorem Kv (i:Nat) {b:BinOp} {t t2:TypeId} {x y:Operand} {u v r:Value} (hi:ops[i]? =some ⟨some d,.binOp b t x y t2,ty,pos,aft,none⟩) (hx:ev l x=some u) (hy:ev l y=some v) (hB:Jy ops listed i=true) (hd:Nat.blt d N=true) (hS:S w) (hrun:∀w',S w'→(bin b t x y u v).run P w'=.ok r w')
 (k:i4 P ops Q N D S fuel (listed.setIfInBounds i true) ((d,r)::l) w):i4 P ops Q N D S (fuel+1) listed l w:=
 Cx i (xs:=[x,y]) (f:=fun|[a,c]=>bin b t x y a c|_=>stuck "") hi (fun _=>rfl) (L5 hx hy) hB hd hS hrun k
theorem uj (i:Nat) {t:TypeId} {x y:Operand} {u v r:Value} (hi:ops[i]? =some ⟨some d,.indexAddr t x y,ty,pos,aft,none⟩) (hx:ev l x=some u) (hy:ev l y=some v) (hB:Jy ops listed i=true) (hd:Nat.blt d N=true) (hS:S w) (hrun:∀w',S w'→(Instr.indexAt t u v).run P w'=.ok r w')
 (k:i4 P ops Q N D S fuel (listed.setIfInBounds i true) ((d,r)::l) w):i4 P ops Q N D S (fuel+1) listed l w:=
 Cx i (xs:=[x,y]) (f:=fun|[a,c]=>Instr.indexAt t a c|_=>stuck "") hi (fun _=>rfl) (L5 hx hy) hB hd hS hrun k
theorem oz {o:Oper} {i:Nat} {listed':Array Bool} {a:Act} (hi:ops[i]? =some o) (h:wpList P ops (AT P ops Q S fuel listed') [o] a w):
 wpOp P ops (mR Q) i (fun a' w'=>S w'∧wpAnyH P .any ops (mR Q) S fuel listed' a' w') a w:=by
 unfold wpOp
 simp only[hi]
 unfold wpList at h
 split
 ·rename_i hw
  rw[if_pos hw] at h
  rcases h with h|⟨_,_,_,h,_⟩
  ·refine .inl ?_
   unfold Oper.wp at*
   generalize (execOp a.eval o).run P w=r at*
   cases r with
   |ok n w'=>
    cases n<;>simp only[Oper.upon] at h⊢
    case value u=>exact h.2
    case skip=>exact h.2
    case defer dd=>exact h.2
    case enter f args=>
     refine Calls.mono h fun e w'' he=>?_
     cases e with
     |returned u=>exact he.2
     |panicked c=>obtain⟨he,_⟩:=he;cases he
     |outgrown=>obtain⟨_,_,he,_⟩:=he;cases he
    case row row args=>exact Rows.mono h fun u w'' he=>he.2
   |halt x w'=>
    cases x<;>simp only[Oper.upon] at h⊢
    case panic u=>obtain⟨he,_⟩:=h;cases he
  ·cases h
 ·rename_i hw
  rw[if_neg hw] at h
  exact h.2
theorem xV (i:Nat) {o:Oper} (hr:Region.ready .any ops listed=[i]) (hi:ops[i]? =some o) (h:di P ops (AT P ops Q S fuel (listed.setIfInBounds i true)) N D l w [o]):i4 P ops Q N D S (fuel+1) listed l w:=fun a ha=>
 wpAnyH_all hr (by simp) fun j hj=>by
  obtain rfl:j=i:=by simpa using hj
  exact oz hi (h a ha)
theorem L6 (i j:Nat) {o u:Oper} (hr:Region.ready .any ops listed=[i,j]) (hi:ops[i]? =some o) (hj:ops[j]? =some u) (h:di P ops (AT P ops Q S fuel (listed.setIfInBounds i true)) N D l w [o])
 (h':di P ops (AT P ops Q S fuel (listed.setIfInBounds j true)) N D l w [u]):i4 P ops Q N D S (fuel+1) listed l w:=fun a ha=>
 wpAnyH_all hr (by simp) fun k hk=>by
  rcases(by simpa using hk:k=i∨k=j) with rfl|rfl
  ·exact oz hi (h a ha)
  ·exact oz hj (h' a ha)
theorem pD (hS:S w) (k:i4 P ops Q N D S fuel listed l w):di P ops (AT P ops Q S fuel listed) N D l w []:=fun a ha=>⟨rfl,hS,k a ha⟩
theorem K2 {α:Type} (fr:α→Fr) (H:α→World→Prop) (listed':Array Bool) (fuel':Nat) (k:∀x w',H x w'→i4 P ops Q N D S fuel' listed' (fr x) w')
 (h:(∀l' w',(∃x,xp (fr x) l'∧H x w')→i4 P ops Q N D S fuel' listed' l' w')→i4 P ops Q N D S fuel listed l w):i4 P ops Q N D S fuel listed l w:=
 h fun _ w' ⟨x,hs,hH⟩ a ha=>k x w' hH a (ha.weak hs)
theorem K3 (hr:Region.ready .any ops listed=[]) (h:iE Q N D l w):i4 P ops Q N D S fuel listed l w:=fun a ha=>wpAnyH_done hr ⟨rfl,h a ha⟩ _
end
end Go.Rl
namespace Go.Rl
open Go.RowKit Go.Proofs
theorem lD.grown {base:Nat} {l:List UInt8} {u v r:Value} {w w':World} (h:lD base l u w) (hg:gi w w' v r) (hne:u.ownBlock=none∨u.ownBlock≠v.ownBlock):lD base l u w':=by
 obtain⟨n,h⟩:=h
 exact⟨n,World.ownsRow.kept h hg.grown hne⟩
theorem lD.lt {base:Nat} {l:List UInt8} {v:Value} {w:World} (h:lD base l v w):∀k,v.ownBlock=some k→k<w.heap.size:=by
 obtain⟨n,h⟩:=h
 exact fun k hk=>(World.ownsRow.lt h k hk).2
def aU (b:Bool) (n m:List UInt32):dn:=fun v w=>∃x y,v=.agg #[B b,x,y]∧bH n x w∧bH m y w
theorem aU.ext {b:Bool} {n m:List UInt32} {v:Value} {w w':World} (h:aU b n m v w) (hx:aH w w'):aU b n m v w':=by
 obtain⟨x,y,rfl,h1,h2⟩:=h
 exact⟨x,y,J,h1.ext hx,h2.ext hx⟩
theorem jL:(Tryz.prog.info? 49).map (·.size)=some 3:=by kernel_rfl
end Go.Rl
namespace Go.Rl
open Go.RowKit Go.Proofs
section
variable {P:Program} {w w':World}
theorem c6 {s:TypeId} {fs:Array Field} {f:Field} {n g o:Nat} (hs:P.underlying s=some (.struct fs)) (hf:fs[n]? =some f) (hk:(P.cellsOf f.type==0)=false) (ho:f.offset=o):
 (Instr.fieldAt s (.pointer (some ⟨g,0,none⟩)) n).run P w=.ok (.pointer (some ⟨g,o,none⟩)) w:=by
 have hk':P.cellsOf f.type≠0:=by simpa using hk
 obtain⟨k,hk1⟩:∃k,(P.info? f.type).map (·.size)=some k:=by
  cases hi:(P.info? f.type).map (·.size) with
  |none=>exact absurd (by simp[Program.cellsOf,hi]) hk'
  |some k=>exact⟨k,rfl⟩
 have hk0:k≠0:=by
  intro h
  apply hk'
  simp[Program.cellsOf,hk1,h]
 rw[tx hs hf hk1 hk0,ho,rP,Nat.zero_add]
end
section
variable {w w':World}
theorem aU.stable (b:Bool) (n m:List UInt32):bi (aU b n m):=fun _ _ _ h hx=>h.ext hx
theorem aU.mk {b:Bool} {n m:List UInt32} {x y:Value} (hx:bH n x w) (hy:bH m y w):aU b n m (.agg #[B b,x,y]) w:=⟨x,y,rfl,hx,hy⟩
theorem dE.ldR {g:Nat} {T:TypeId} {a b c:Value} (h:dE g T [a,b,c] w):(Instr.loadAt 49 (.pointer (some ⟨g,0,none⟩))).run Tryz.prog w=.ok (.agg #[a,b,c]) w:=
 Hy h (fun j v hj=>by simpa using hj) Tryz.underlying49 rfl jL
theorem rT {b:Bool} {n m:List UInt32} {v:Value} (h:aU b n m v w):
 ∃g x y w',(Instr.box 49 v).run Tryz.prog w=.ok (.pointer (some ⟨g,0,none⟩)) w'∧aH w w'∧dE g 49 [B b,x,y] w'∧bH n x w'∧bH m y w':=by
 obtain⟨x,y,rfl,hx,hy⟩:=h
 exact⟨_,x,y,_,Hh,aH.new w _,dE.new (T:=49) (.agg #[B b,x,y]) J,hx.ext (aH.new w _),hy.ext (aH.new w _)⟩
theorem Hz:(Tryz.prog.info? 49).map (·.zero)=some (some (.agg #[B false,.slice none 0 0,.slice none 0 0])):=by kernel_rfl
theorem pE:∃g w',(Instr.alloc 49 true (.tuple #[])).run Tryz.prog w=.ok (.pointer (some ⟨g,0,none⟩)) w'∧w.heap.size≤g∧aH w w'∧dE g 49 [B false,.slice none 0 0,.slice none 0 0] w':=
 pB Hz rfl
theorem Cy (b:Bool) (A C:Option Addr) (n c m d:Nat) (l:List UInt32):∀(j:Nat) (u:Value),u∈l.map ep→(#[.bool b,.slice A n c,.slice C m d]:Array Value)[j]? ≠some u:=by
 intro j u hu
 obtain⟨x,_,rfl⟩:=List.mem_map.1 hu
 match j with
 |0=>simp[ep]
 |1=>simp[ep]
 |2=>simp[ep]
 |j+3=>simp
theorem bH.byR {l:List UInt32} {v:Value} {g:Nat} {T:TypeId} {b:Bool} {x y:Value} (h:bH l v w) (hb:dE g T [B b,x,y] w) (hx:∃A n c,x=.slice A n c) (hy:∃A n c,y=.slice A n c) (hw:w.grownBy w' (some g)):bH l v w':=by
 obtain⟨A,n,c,rfl⟩:=hx
 obtain⟨C,m,d,rfl⟩:=hy
 exact Sl.keep h hb (Cy b A C n c m d l) hw
theorem bH.isS {l:List UInt32} {v:Value} (h:bH l v w):∃A n c,v=.slice A n c:=by
 obtain⟨A,n,c,rfl,_⟩:=h
 exact⟨A,n,c,J⟩
theorem dE.stR {g:Nat} {b c:Bool} {x y v:Value} {n m:List UInt32} (h:dE g 49 [B b,x,y] w) (hx:∃A n c,x=.slice A n c) (hy:∃A n c,y=.slice A n c) (hv:aU c n m v w):
 ∃p q w',v=.agg #[B c,p,q]∧(Instr.storeAt 49 (.pointer (some ⟨g,0,none⟩)) v).run Tryz.prog w=.ok () w'∧w.grownBy w' (some g)∧dE g 49 [B c,p,q] w'∧bH n p w'∧bH m q w':=by
 obtain⟨p,q,rfl,hp,hq⟩:=hv
 obtain⟨A,n1,c1,rfl⟩:=hp.isS
 obtain⟨C,n2,c2,rfl⟩:=hq.isS
 refine⟨_,_,_,J,Kt (m:=[B c,.slice A n1 c1,.slice C n2 c2]) h J jL ?_,iG w g _,h.row _,hp.byR h hx hy (iG w g _),hq.byR h hx hy (iG w g _)⟩
 intro u hu
 simp only[List.mem_cons,List.not_mem_nil,or_false] at hu
 rcases hu with rfl|rfl|rfl<;>rfl
theorem vh {P:Program} {x y:Operand} {t:TypeId} (ht:P.underlying t=some .bool) {a b:Bool}:(bin .eql t x y (B a) (B b)).run P w=.ok (B (decide (a=b))) w:=by
 have h:(Op.equal t (B a) (B b)).run P w=.ok (decide (a=b)) w:=by
  show(Op.equalIn (9999+1) t (.bool a) (.bool b)).run P w=_
  unfold Op.equalIn
  cases a<;>cases b<;>simp[run_underlying ht]
 show(do pure (Value.bool (←Op.equal t (B a) (B b))):Sem Value).run P w=_
 rw[Sem.run_bind,h];rfl
theorem vU {c:Bool} {p q:Value} (hp:∃A n c,p=.slice A n c) (hq:∃A n c,q=.slice A n c):(Instr.build 49 #[(0,B c),(1,p),(2,q)]).run Tryz.prog w=.ok (.agg #[B c,p,q]) w:=by
 obtain⟨A,n,d,rfl⟩:=hp
 obtain⟨C,m,e,rfl⟩:=hq
 exact run_build _ _ _ #[B c,.slice A n d,.slice C m e] (by kernel_rfl)
theorem FK {c:Bool} {p:Value} (hp:∃A n c,p=.slice A n c):(Instr.build 49 #[(0,B c),(1,p)]).run Tryz.prog w=.ok (.agg #[B c,p,.slice none 0 0]) w:=by
 obtain⟨A,n,d,rfl⟩:=hp
 exact run_build _ _ _ #[B c,.slice A n d,.slice none 0 0] (by kernel_rfl)
theorem FL:(Instr.build 49 #[]).run Tryz.prog w=.ok (.agg #[B false,.slice none 0 0,.slice none 0 0]) w:=
 run_build _ _ _ #[B false,.slice none 0 0,.slice none 0 0] (by kernel_rfl)
end
theorem jM:∀{l m:List UInt32},l.length=m.length→val l=val m→l=m
 |[],[],_,_=>rfl
 |[],_::_,h,_=>by simp at h
 |_::_,[],h,_=>by simp at h
 |x::l,y::m,h,hv=>by
  have hx:=dk x
  have hy:=dk y
  rw[val,val] at hv
  have h1:x.toNat=y.toNat:=by omega
  have h2:val l=val m:=by omega
  rw[qJ h1,jM (by simpa using h) h2]
def ud (m:List UInt32):List UInt32:=if val m=0 then[1] else m
theorem pG:val [1]=1:=rfl
theorem zj:lb 1=[1]:=rfl
theorem rU (m:List UInt32):val (ud m)=if val m=0 then 1 else val m:=by unfold ud;split<;>simp_all [pG]
theorem tD (m:List UInt32):0<val (ud m):=by rw[rU];split<;>omega
def vi (s:Bool) (n:Nat):Bool:=s&&decide (0<n)
def xm (n d:Nat):List UInt32:=if d/Nat.gcd n d=1 then[] else lb (d/Nat.gcd n d)
def rv (s:Bool) (n m:List UInt32):Bool:=decide (s=vi s (val n)∧n=lb (val n/Nat.gcd (val n) (val (ud m)))∧m=xm (val n) (val (ud m)))
theorem Eo {n d:Nat} (h:0<d):0<Nat.gcd n d:=Nat.gcd_pos_of_pos_right n h
theorem HA {x:Nat}:lb x=[1]↔x=1:=⟨fun h=>He (h.trans zj.symm),fun h=>by rw[h,zj]⟩
theorem Jz {d:Nat} (h:0<d):xm 0 d=[]:=by unfold xm;rw[Nat.gcd_zero_left,Nat.div_self h,if_pos rfl]
theorem HB {n:Nat}:xm n 1=[]:=by unfold xm;rw[Nat.gcd_one_right];rfl
end Go.Rl
namespace Go.Rl
def fC (s:Bool) (n:Nat):Int:=if s=true then-(n:Int) else n
def rq (s:Bool) (n m:List UInt32):Rat:=mkRat (fC s (val n)) (val (ud m))
theorem kz (s:Bool) (n:Nat):(fC s n).natAbs=n:=by unfold fC;split<;>omega
theorem JA (s:Bool) (n:Nat): -fC s n=fC (!s) n:=by cases s<;>simp[fC]
theorem zk (s t:Bool) (n m:Nat):fC s n*fC t m=fC (s !=t) (n*m):=by
 cases s<;>cases t<;>simp[fC,Int.neg_mul,Int.mul_neg]
theorem HC (s:Bool):fC s 0=0:=by cases s<;>rfl
theorem gE (i:Int):fC (decide (i<0)) i.natAbs=i:=by unfold fC;split<;>simp_all<;>omega
theorem Cz (s:Bool) (n:Nat):fC s n<0↔s=true∧0<n:=by cases s<;>simp[fC]<;>omega
theorem CA {i:Int} {d:Nat} (h:0<d):(mkRat i d).num=i/(Nat.gcd i.natAbs d:Int)∧(mkRat i d).den=d/Nat.gcd i.natAbs d:=by
 rw[Rat.mkRat_def,dif_neg (by omega),Rat.normalize_eq]
 exact⟨J,J⟩
theorem Ep (s:Bool) {n g:Nat} (h:g∣n):fC s n/(g:Int)=fC s (n/g):=by
 cases s
 ·simp[fC]
 ·simp only[fC,if_true]
  rw[Int.neg_ediv_of_dvd (by exact Int.natCast_dvd_natCast.2 h)]
  simp
theorem HD (s:Bool) {n d:Nat} (h:0<d):vi s n=(mkRat (fC s n) d).sg∧lb (n/Nat.gcd n d)=(mkRat (fC s n) d).nl∧xm n d=(mkRat (fC s n) d).dl:=by
 obtain⟨h1,h2⟩:=CA (i:=fC s n) h
 rw[kz] at h1 h2
 have hg:Nat.gcd n d∣n:=Nat.gcd_dvd_left n d
 have hg0:0<Nat.gcd n d:=Nat.gcd_pos_of_pos_right n h
 rw[Ep s hg] at h1
 refine⟨?_,?_,?_⟩
 ·unfold Rat.sg
  rw[h1]
  have e:0<n/Nat.gcd n d↔0<n:=by
   constructor
   ·intro h;exact Nk h (Nat.div_le_self _ _)
   ·intro h;exact Nat.div_pos (Nat.le_of_dvd h hg) hg0
  have e2:=Cz s (n/Nat.gcd n d)
  rw[e] at e2
  unfold vi
  cases s<;>simp_all
 ·unfold Rat.nl
  rw[h1,kz]
 ·unfold Rat.dl xm
  rw[h2]
theorem vV (x:Rat):val x.nl=x.num.natAbs:=bk _
theorem CB (x:Rat):val (ud x.dl)=x.den:=by
 have:=x.den_pos
 unfold Rat.dl
 rw[rU]
 split
 ·rename_i h
  rw[if_pos (by rw[←fG,bk]),h]
 ·rw[bk,if_neg (by omega)]
theorem qP (x:Rat):rq x.sg x.nl x.dl=x:=by
 unfold rq
 rw[vV,CB]
 unfold Rat.sg
 rw[gE,Rat.mkRat_self]
theorem HE (s:Bool) (n m:List UInt32):vi s (val n)=(rq s n m).sg∧lb (val n/Nat.gcd (val n) (val (ud m)))=(rq s n m).nl∧xm (val n) (val (ud m))=(rq s n m).dl:=HD s (tD m)
theorem K4 {s:Bool} {n m:List UInt32}:rv s n m=true↔s=(rq s n m).sg∧n=(rq s n m).nl∧m=(rq s n m).dl:=by
 obtain⟨h1,h2,h3⟩:=HE s n m
 unfold rv
 rw[decide_eq_true_eq,h1,h2,h3]
theorem Er (x:Rat):rv x.sg x.nl x.dl=true:=K4.2 (by rw[qP];exact⟨rfl,rfl,rfl⟩)
theorem L7 {x y:Rat} (h1:x.sg=y.sg) (h2:x.nl=y.nl) (h3:x.dl=y.dl):x=y:=by rw[←qP x,←qP y,h1,h2,h3]
theorem K5 (s t:Bool) (a b c d:List UInt32):rq s a b*rq t c d=mkRat (fC (s !=t) (val a*val c)) (val (ud b)*val (ud d)):=by
 unfold rq
 rw[Rat.mkRat_mul_mkRat,zk]
theorem CC (s:Bool) (n m:List UInt32):rq (!s) n m= -rq s n m:=by
 unfold rq
 rw[Rat.neg_mkRat,JA]
theorem zq {i:Int} {d:Nat} (h:0<d):(mkRat i d<0↔i<0)∧(mkRat i d=0↔i=0)∧(0<mkRat i d↔0<i):=by
 have h2:mkRat i d=0↔i=0:=Rat.mkRat_eq_zero (by omega)
 have hn:=CA (i:=i) h
 have hg0:0<Nat.gcd i.natAbs d:=Nat.gcd_pos_of_pos_right _ h
 have h1:mkRat i d<0↔i<0:=by
  rw[←Rat.not_le,←Rat.num_nonneg,hn.1,Int.ediv_nonneg_iff_of_pos (by omega)]
  omega
 refine⟨h1,h2,?_⟩
 rw[←Rat.not_le]
 constructor
 ·intro h3
  have:¬i<0:=fun h4=>h3 (Rat.le_of_lt (h1.2 h4))
  have:i≠0:=fun h4=>h3 (by rw[h2.2 h4];exact Rat.le_refl)
  omega
 ·intro h3 h4
  rcases Decidable.em (mkRat i d=0) with h5|h5
  ·have:=h2.1 h5;omega
  ·have:=h1.1 (Rat.lt_of_le_of_ne h4 h5);omega
theorem HF (s t:Bool) (a b c d:List UInt32) (h:0<val c):rq s a b/rq t c d=mkRat (fC (s !=t) (val a*val (ud d))) (val (ud b)*val c):=by
 have hb:=tD b
 have hd:=tD d
 have e:rq s a b=mkRat (fC (s !=t) (val a*val (ud d))) (val (ud b)*val c)*rq t c d:=by
  unfold rq
  rw[Rat.mkRat_mul_mkRat,zk,Rat.mkRat_eq_iff (by omega) (by have:=Nat.mul_pos (Nat.mul_pos hb h) hd;omega)]
  have:((s !=t) !=t)=s:=by cases s<;>cases t<;>rfl
  rw[this]
  cases s<;>simp[fC,Int.neg_mul]<;>grind
 have h0:rq t c d≠0:=by
  intro h1
  have:=(zq (i:=fC t (val c)) hd).2.1.1 h1
  unfold fC at this
  split at this<;>omega
 rw[e,Rat.mul_div_cancel h0]
def gx (x:Rat):Int:=if x<0 then-1 else if x=0 then 0 else 1
def f6 (x y:Rat):Int:=if x<y then-1 else if x=y then 0 else 1
theorem JB {i:Int} {d:Nat} (h:0<d):gx (mkRat i d)=if i<0 then-1 else if i=0 then 0 else 1:=by
 obtain⟨h1,h2,_⟩:=zq (i:=i) h
 unfold gx
 simp only[h1,h2]
theorem JC (x y:Rat):x-y<0↔x<y:=by constructor<;>intro h<;>grind
theorem AU (x y:Rat):gx (x-y)=f6 x y:=by
 have h2:x-y=0↔x=y:=by constructor<;>intro h<;>grind
 unfold gx f6
 simp only[JC,h2]
def bt (x:Rat):Nat:=1+max (bl x.num.natAbs) (bl x.den)
theorem uk (n:Nat):n<2^bl n:=by
 rcases Np n with rfl|h
 ·exact Nat.two_pow_pos _
 ·exact(mX h).2
theorem jg {n m:Nat} (h:n≤m):bl n≤bl m:=rD (Nat.lt_of_le_of_lt h (uk m))
theorem oA (n m:Nat):bl (n*m)≤bl n+bl m:=by
 refine rD ?_
 rw[Nat.pow_add]
 rcases Np m with rfl|h
 ·rw[Nat.mul_zero];exact Nat.mul_pos (Nat.two_pow_pos _) (Nat.two_pow_pos _)
 ·exact Nk (Nat.mul_lt_mul_of_pos_right (uk n) h) (Nr _ (Nat.le_of_lt (uk m)))
theorem L8 {i:Int} {d:Nat} (h:0<d):(mkRat i d).num.natAbs≤i.natAbs∧(mkRat i d).den≤d:=by
 obtain⟨h1,h2⟩:=CA (i:=i) h
 rw[h1,h2]
 refine⟨?_,Nat.div_le_self _ _⟩
 have:=gE i
 rw[←this,kz,Ep _ (Nat.gcd_dvd_left _ _),kz]
 exact Nat.div_le_self _ _
theorem xW {i:Int} {d k:Nat} (h:0<d) (h1:bl i.natAbs≤k) (h2:bl d≤k):bt (mkRat i d)≤1+k:=by
 obtain⟨h3,h4⟩:=L8 (i:=i) h
 have:=jg h3
 have:=jg h4
 unfold bt
 omega
theorem rV (x:Rat):bl x.num.natAbs<bt x:=by unfold bt;omega
theorem rW (x:Rat):bl x.den<bt x:=by unfold bt;omega
theorem f7 (x y:Rat):bt (x*y)≤bt x+bt y:=by
 have e:x*y=mkRat (x.num*y.num) (x.den*y.den):=by
  rw[←Rat.mkRat_mul_mkRat,Rat.mkRat_self,Rat.mkRat_self]
 rw[e]
 have h1:=rV x
 have h2:=rV y
 have h3:=rW x
 have h4:=rW y
 have h5:=oA x.num.natAbs y.num.natAbs
 have h6:=oA x.den y.den
 refine Nb (xW (k:=bt x+bt y-1) (Nat.mul_pos x.den_pos y.den_pos) (by rw[Int.natAbs_mul];omega) (by omega)) (by omega)
theorem gP (x y:Rat):bt (x+y)≤bt x+bt y:=by
 have e:x+y=mkRat (x.num*y.den+y.num*x.den) (x.den*y.den):=by
  rw[←Rat.mkRat_add_mkRat _ _ x.den_nz y.den_nz,Rat.mkRat_self,Rat.mkRat_self]
 rw[e]
 have h1:=rV x
 have h2:=rV y
 have h3:=rW x
 have h4:=rW y
 have h5:=oA x.num.natAbs y.den
 have h6:=oA y.num.natAbs x.den
 have h7:=oA x.den y.den
 refine Nb (xW (k:=bt x+bt y-1) (Nat.mul_pos x.den_pos y.den_pos) ?_ (by omega)) (by omega)
 refine rD ?_
 have h8:(x.num*(y.den:Int)+y.num*(x.den:Int)).natAbs≤x.num.natAbs*y.den+y.num.natAbs*x.den:=by
  refine Nb (Int.natAbs_add_le _ _) ?_
  rw[Int.natAbs_mul,Int.natAbs_mul,Int.natAbs_natCast,Int.natAbs_natCast]
  exact Ng _
 have h9:=uk (x.num.natAbs*y.den)
 have h10:=uk (y.num.natAbs*x.den)
 have e1:2^bl (x.num.natAbs*y.den)≤2^(bt x+bt y-2):=Nj (by omega) (by omega)
 have e2:2^bl (y.num.natAbs*x.den)≤2^(bt x+bt y-2):=Nj (by omega) (by omega)
 have e3:2^(bt x+bt y-1)=2^(bt x+bt y-2)*2:=by rw[←Nat.pow_succ];congr 1;omega
 omega
theorem jN (x:Rat):bt (-x)=bt x:=by unfold bt;rw[Rat.neg_num,Rat.neg_den,Int.natAbs_neg]
theorem oC (x y:Rat):bt (x-y)≤bt x+bt y:=by rw[Rat.sub_eq_add_neg];have:=gP x (-y);rw[jN] at this;exact this
theorem K6 (x:Rat):bt x⁻¹≤bt x:=by
 rcases Decidable.em (x=0) with rfl|h
 ·rw[Rat.inv_zero];exact Ng _
 ·have hn:x.num≠0:=fun h1=>h (Rat.num_eq_zero.1 h1)
  have h1:x⁻¹ =mkRat (fC x.sg x.den) x.num.natAbs:=by
   have e:=HF false x.sg [1] [] x.nl x.dl (by rw[vV];omega)
   rw[qP,pG,CB,vV] at e
   have e2:rq false [1] []=1:=by
    unfold rq
    rw[pG,rU,if_pos (by rw[←fG,bk])]
    rfl
   rw[e2,Rat.div_def,Rat.one_mul] at e
   rw[e,rU,if_pos (by rw[←fG,bk])]
   simp
  rw[h1]
  have h3:=rV x
  have h4:=rW x
  exact Nb (xW (k:=bt x-1) (by omega) (by rw[kz];omega) (by omega)) (by omega)
theorem tE (x y:Rat):bt (x/y)≤bt x+bt y:=by
 rw[Rat.div_def]
 have:=f7 x y⁻¹
 have:=K6 y
 omega
theorem vW (x y:Rat):bt (max x y)≤max (bt x) (bt y):=by rw[Rat.max_def];split<;>omega
theorem zw (x:Rat):2≤bt x:=by
 have:=ol x.den_pos
 unfold bt
 omega
theorem mY (n:Nat):(lb n).length≤bl n:=fM (Nk (uk n) (by
 have:∀k:Nat,2^k≤4294967296^k:=fun k=>Nat.pow_le_pow_left (by omega) k
 exact this _))
theorem zx (x:Rat):x.nl.length<bt x:=Nat.lt_of_le_of_lt (mY _) (rV x)
theorem zy (x:Rat):x.dl.length<bt x:=by
 unfold Rat.dl
 split
 ·have:=zw x;simp;omega
 ·exact Nat.lt_of_le_of_lt (mY _) (rW x)
end Go.Rl
namespace Go.Rl
open Go.RowKit Go.Proofs Go.Lib
end Go.Rl
namespace Go.Rl
open Go.RowKit Go.Proofs
end Go.Rl
namespace Go.Rl
open Go.RowKit Go.Proofs
section
variable {w0 w:World} {l m:List UInt8} {v x:Value} {ty:TypeId}
def LT (base:Nat) (l:List UInt8) (v:Value) (w:World):Prop:=lD base l v w∨(lP l v w∧∃ad,v=.slice (some ad) l.length l.length)
theorem LT.ext {base:Nat} {w':World} (h:LT base l v w) (hx:aH w w'):LT base l v w':=h.imp (·.ext hx) fun h=>⟨h.1.ext hx,h.2⟩
end
end Go.Rl
namespace Go.Rl
open Go.RowKit
inductive Dt where
 |int (k:IntKind) (n:Int)
 |bool (b:Bool)
 |str (l:List UInt8)
 |sl (l:List Dt)
 |st (l:List Dt)
mutual
def Dt.size:Dt→Nat
 |.int _ _=>1
 |.bool _=>1
 |.str _=>1
 |.sl _=>1
 |.st l=>Dt.sizeAll l
def Dt.sizeAll:List Dt→Nat
 |[]=>0
 |d::l=>d.size+Dt.sizeAll l
end
mutual
def Rp (w:World):Dt→List Value→Prop
 |.int k n,cs=>cs=[.int k n]
 |.bool b,cs=>cs=[.bool b]
 |.str l,cs=>cs=[S l]
 |.sl l,cs=>∃A n c,cs=[.slice A n c]∧l.length=n∧n≤c∧c≤maxLen∧(A=none→c=0)∧(0<n→∃ad xs,A=some ad∧d8 w ad xs∧bm w l xs)
 |.st l,cs=>bm w l cs
def bm (w:World):List Dt→List Value→Prop
 |[],cs=>cs=[]
 |d::ds,cs=>∃c1 c2,cs=c1++c2∧Rp w d c1∧bm w ds c2
end
mutual
theorem Rp.len {w:World}:∀{d:Dt} {cs:List Value},Rp w d cs→cs.length=d.size
 |.int k n,cs,h=>by simp only[Rp] at h;subst h;rfl
 |.bool b,cs,h=>by simp only[Rp] at h;subst h;rfl
 |.str l,cs,h=>by simp only[Rp] at h;subst h;rfl
 |.sl l,cs,h=>by simp only[Rp] at h;obtain⟨A,n,c,rfl,_⟩:=h;rfl
 |.st l,cs,h=>by simp only[Rp] at h;simpa [Dt.size] using bm.len h
theorem bm.len {w:World}:∀{l:List Dt} {cs:List Value},bm w l cs→cs.length=Dt.sizeAll l
 |[],cs,h=>by simp only[bm] at h;subst h;rfl
 |d::l,cs,h=>by
  simp only[bm] at h
  obtain⟨c1,c2,rfl,h1,h2⟩:=h
  simp[Dt.sizeAll,Rp.len h1,bm.len h2]
end
mutual
theorem Rp.ext {w w':World} (hx:aH w w'):∀{d:Dt} {cs:List Value},Rp w d cs→Rp w' d cs
 |.int k n,cs,h=>by simpa only[Rp] using h
 |.bool b,cs,h=>by simpa only[Rp] using h
 |.str l,cs,h=>by simpa only[Rp] using h
 |.sl l,cs,h=>by
  simp only[Rp] at h⊢
  obtain⟨A,n,c,h1,h2,h3,h4,h5,h6⟩:=h
  refine⟨A,n,c,h1,h2,h3,h4,h5,fun hn=>?_⟩
  obtain⟨ad,xs,h7,h8,h9⟩:=h6 hn
  exact⟨ad,xs,h7,h8.ext hx,bm.ext hx h9⟩
 |.st l,cs,h=>by simp only[Rp] at h⊢;exact bm.ext hx h
theorem bm.ext {w w':World} (hx:aH w w'):∀{l:List Dt} {cs:List Value},bm w l cs→bm w' l cs
 |[],cs,h=>by simpa only[bm] using h
 |d::l,cs,h=>by
  simp only[bm] at h⊢
  obtain⟨c1,c2,h0,h1,h2⟩:=h
  exact⟨c1,c2,h0,Rp.ext hx h1,bm.ext hx h2⟩
end
section
variable {w:World}
theorem bm.nil:bm w [] []:=by simp only[bm]
theorem bm.cons {d:Dt} {l:List Dt} {a b:List Value} (h:Rp w d a) (h':bm w l b):bm w (d::l) (a++b):=by simp only[bm];exact⟨a,b,rfl,h,h'⟩
theorem dq {sz:Nat}:∀{l:List Dt},(∀d∈l,d.size=sz)→Dt.sizeAll l=l.length*sz
 |[],_=>by simp[Dt.sizeAll]
 |d::l,h=>by
  rw[Dt.sizeAll,h d (by simp),dq fun e he=>h e (by simp[he]),List.length_cons,Nat.add_mul]
  omega
theorem bm.split {sz:Nat}:∀{l:List Dt} {xs:List Value} (k:Nat),bm w l xs→(∀d∈l,d.size=sz)→k≤l.length→bm w (l.take k) (xs.take (k*sz))∧bm w (l.drop k) (xs.drop (k*sz))
 |l,xs,0,h,_,_=>by simp[bm.nil,h]
 |[],xs,k+1,h,_,hk=>by simp at hk
 |d::l,xs,k+1,h,hs,hk=>by
  simp only[bm] at h
  obtain⟨c1,c2,rfl,h1,h2⟩:=h
  have hc:c1.length=sz:=by rw[h1.len];exact hs d (by simp)
  obtain⟨h3,h4⟩:=bm.split k h2 (fun e he=>hs e (by simp[he])) (by simpa using hk)
  have e:(k+1)*sz=c1.length+k*sz:=by rw[hc,Nat.add_mul];omega
  rw[e,List.take_length_add_append,List.drop_length_add_append]
  exact⟨bm.cons h1 h3,h4⟩
theorem bm.at {sz:Nat} {l:List Dt} {xs:List Value} {i:Nat} (h:bm w l xs) (hs:∀d∈l,d.size=sz) (hi:i<l.length):Rp w l[i] ((xs.drop (i*sz)).take sz):=by
 obtain⟨_,h2⟩:=bm.split i h hs (by omega)
 rw[List.drop_eq_getElem_cons hi] at h2
 simp only[bm] at h2
 obtain⟨c1,c2,he,h1,_⟩:=h2
 have hc:c1.length=sz:=by rw[h1.len];exact hs _ (Nh hi)
 rw[he,←hc,List.take_left']
 ·exact h1
 ·rfl
theorem Rp.toSl {sz:Nat} {l:List Dt} {v:Value} (h:Rp w (.sl l) [v]) (hs:∀d∈l,d.size=sz):∃xs,Sl sz xs v w∧bm w l xs:=by
 simp only[Rp] at h
 obtain⟨A,n,c,hv,h2,h3,h4,h5,h6⟩:=h
 obtain rfl:v=.slice A n c:=by simpa using hv
 rcases Np n with h0|h0
 ·have:l=[]:=Nm (by omega)
  subst this
  exact⟨[],⟨A,n,c,J,h3,h4,by subst h0;simp,fun h=>by omega,h5⟩,bm.nil⟩
 ·obtain⟨ad,xs,rfl,h8,h9⟩:=h6 h0
  exact⟨xs,⟨_,n,c,J,h3,h4,by rw[h9.len,dq hs,h2],fun _=>⟨ad,rfl,h8⟩,h5⟩,h9⟩
theorem Rp.ofSl {sz:Nat} {l:List Dt} {v:Value} {xs:List Value} (h:Sl sz xs v w) (ha:bm w l xs) (hs:∀d∈l,d.size=sz) (h0:0<sz):Rp w (.sl l) [v]:=by
 obtain⟨A,n,c,rfl,h3,h4,h5,h6,h7⟩:=h
 simp only[Rp]
 refine⟨A,n,c,J,?_,h3,h4,h7,fun hn=>?_⟩
 ·have:=ha.len
  rw[dq hs,h5] at this
  exact(Nat.eq_of_mul_eq_mul_right h0 this).symm
 ·obtain⟨ad,rfl,hc⟩:=h6 hn
  exact⟨ad,xs,J,hc,ha⟩
theorem Rp.isSlice {l:List Dt} {cs:List Value} (h:Rp w (.sl l) cs):∃v,cs=[v]∧Rp w (.sl l) [v]∧v.oneCell'=true:=by
 have h':=h
 simp only[Rp] at h
 obtain⟨A,n,c,rfl,_⟩:=h
 exact⟨_,J,h',J⟩
theorem Rp.nilSl:Rp w (.sl []) [.slice none 0 0]:=by
 simp only[Rp]
 exact⟨none,0,0,J,J,Ng _,Nat.zero_le _,fun _=>rfl,fun h=>by omega⟩
theorem Rp.slLen {l:List Dt} {v:Value} (h:Rp w (.sl l) [v]):l.length≤9223372036854775807:=by
 simp only[Rp] at h
 obtain⟨A,n,c,_,h2,h3,h4,_⟩:=h
 unfold maxLen at h4
 omega
theorem bm.map_cell {α:Type} {f:α→Dt} {g:α→Value} (hf:∀x cs,Rp w (f x) cs↔cs=[g x]):∀{l:List α} {xs:List Value},bm w (l.map f) xs↔xs=l.map g
 |[],xs=>by simp only[List.map_nil,bm]
 |x::l,xs=>by
  simp only[List.map_cons,bm,hf]
  constructor
  ·rintro⟨c1,c2,rfl,rfl,h⟩
   rw[(bm.map_cell hf).1 h];rfl
  ·rintro rfl
   exact⟨[g x],l.map g,J,J,(bm.map_cell hf).2 J⟩
theorem Rp.sl_cells {α:Type} {f:α→Dt} {g:α→Value} (hf:∀x cs,Rp w (f x) cs↔cs=[g x]) (h1:∀x,(f x).size=1) {l:List α} {v:Value}:Rp w (.sl (l.map f)) [v]↔Sl 1 (l.map g) v w:=by
 have hs:∀d∈l.map f,d.size=1:=by
  intro d hd
  obtain⟨x,_,rfl⟩:=List.mem_map.1 hd
  exact h1 x
 constructor
 ·intro h
  obtain⟨xs,h2,h3⟩:=h.toSl hs
  rw[(bm.map_cell hf).1 h3] at h2
  exact h2
 ·intro h
  exact Rp.ofSl h ((bm.map_cell hf).2 J) hs (by omega)
def dU8 (x:UInt8):Dt:=.int .u8 (x.toNat:Int)
def xr (x:UInt32):Dt:=.int .u32 (x.toNat:Int)
theorem Rp.bytes {l:List UInt8} {v:Value}:Rp w (.sl (l.map dU8)) [v]↔Sl 1 (l.map U8) v w:=Rp.sl_cells (fun x cs=>by simp only[dU8,Rp,U8]) fun _=>rfl
theorem Rp.words {l:List UInt32} {v:Value}:Rp w (.sl (l.map xr)) [v]↔Sl 1 (l.map ep) v w:=Rp.sl_cells (fun x cs=>by simp only[xr,Rp,ep]) fun _=>rfl
end
section
variable {P:Program} {w:World} {t e:TypeId}
theorem K7 {l:List Dt} {v:Value} {ty:TypeId} (ht:P.underlying t=some (.slice e)) (h:Rp w (.sl l) [v]):(Builtin.len_ #[t] ty #[v]).run P w=.ok (I l.length) w:=by
 simp only[Rp] at h
 obtain⟨A,n,c,hv,h2,_⟩:=h
 obtain rfl:v=.slice A n c:=by simpa using hv
 simp[Builtin.len_,run_underlying ht,goInt,I,h2]
theorem L9 {sz:Nat} {l:List Dt} {v:Value} (ht:P.underlying t=some (.slice e)) (hz:(P.info? e).map (·.size)=some sz) (h:Rp w (.sl l) [v]) (hs:∀d∈l,d.size=sz) (h0:0<sz) {i:Nat} (hi:i<l.length) (k:IntKind):
 ∃ad cs,(∀w':World,(Instr.indexAt t v (.int k i)).run P w'=.ok (.pointer (some ad)) w')∧d8 w ad cs∧Rp w l[i] cs:=by
 obtain⟨xs,h1,h2⟩:=h.toSl hs
 have hlen:(i+1)*sz≤xs.length:=by
  rw[h2.len,dq hs]
  exact Ni _ hi
 obtain⟨ad,h3,h4⟩:=y8 ht hz h1 hlen h0 k
 exact⟨ad,_,h3,h4,h2.at hs hi⟩
theorem d8.cell0 {ad:Addr} {v:Value} (h:d8 w ad [v]):w.cell? ad=some v:=by
 have:=h 0 v rfl
 rwa [pv] at this
theorem d8.cell {ad:Addr} {xs:List Value} (h:d8 w ad xs) (j:Nat) {v:Value} (hj:xs[j]? =some v):w.cell? (ad.add j)=some v:=h j v hj
theorem Ma {d:TypeDesc} {ad:Addr} {cs:List Value} (h:d8 w ad cs) (ht:P.underlying t=some d) (hd:d.isRow=true) (hz:(P.info? t).map (·.size)=some cs.length):(Instr.loadAt t (.pointer (some ad))).run P w=.ok (.agg cs.toArray) w:=by
 have hagg:(isAgg t).run P w=.ok true w:=by
  unfold isAgg
  simp only[Sem.run_bind,run_underlying ht,Result.andThen_ok]
  cases d<;>simp_all [TypeDesc.isRow]
 have hl:=run_loadCells_list (P:=P) (w:=w) ad cs h
 simp[Instr.loadAt,Instr.sureAddr,loadVar,Sem.run_bind,hagg,nA hz,hl]
end
end Go.Rl
namespace Go.Rl
open Go.RowKit
def FR (rd:Option Nat):Fence:={Fence.wide with round:=rd}
theorem AV (rd:Option Nat):¬(FR rd).depth.isSome=true:=by simp[FR,Fence.wide]
theorem CD {rd:Option Nat} {n:Nat} {P:Program} {f:FuncId} {args:Array Value} {w:World} {R:Ending→World→Prop} (h:Calls P f args w R):CallsIn (FR rd) n P f args w R:=
 (callsIn_wide (n:=n)).2 h
theorem FM {rd:Option Nat} {n:Nat} {P:Program} {row:String} {args:Array Value} {w:World} {R:Value→World→Prop} (h:Rows P row args w R):RowsIn (FR rd) n P row args w R:=
 fun c cs _=>let ⟨v,w',r,s⟩:=h c cs;⟨v,w',r,stepsIn_wide.2 s⟩
theorem FN {P:Program} {rd:Option Nat} {n:Nat} {o:Oper} {a:Act} {K K':Act→World→Prop} {Q:Exit→Act→World→Prop} {r:Result Next} (hk:∀a w,K a w→K' a w) (h:o.upon P a K Q r):o.uponIn (FR rd) n P a K' Q r:=by
 cases r with
 |ok x w'=>
  cases x with
  |value v=>exact hk _ _ h
  |skip=>exact hk _ _ h
  |defer d=>exact hk _ _ h
  |enter f args=>
   refine⟨fun hd=>absurd hd (AV rd),CD (Calls.mono h ?_)⟩
   intro e w'' he
   cases e with
   |returned v=>exact hk _ _ he
   |panicked c=>exact he
   |outgrown=>exact he
  |row s args=>
   refine⟨fun hd=>absurd hd (AV rd),FM (Rows.mono h ?_)⟩
   intro v w'' he
   exact hk _ _ he
  |_=>exact h.elim
 |halt x w'=>
  cases x with
  |panic v=>exact h
  |_=>exact h.elim
theorem rX {K:Act→World→Prop} {Q:Exit→Act→World→Prop} (h:¬LetsOut Q):¬LetsOut (Exit.then K Q):=fun⟨a,w,hq⟩=>h ⟨a,w,hq⟩
theorem pH {id:Nat} {Q:Exit→Act→World→Prop} (h:¬LetsOut Q):¬LetsOut (Exit.inBlock id Q):=fun⟨a,w,hq⟩=>h ⟨a,w,hq⟩
theorem tF {α:Type} {B:Nat} {Kp:World→World→Prop} {I:List α→World→Prop} {Ix:Code→List α→World→Prop} {xs:List α} {W:World}:¬LetsOut (ownPostG B Kp I Ix xs W):=fun⟨_,_,hq⟩=>hq
theorem rY {P:Program} {fn:Func} {T:Value→World→Prop}:¬LetsOut (bodyPost P fn (cA T)):=fun⟨_,_,hq⟩=>by
 obtain⟨v,he,_⟩:=hq
 cases he
theorem pI {P:Program} {fn:Func} {T:Value→World→Prop}:¬LetsOut (bodyPostM Fence.wide 0 P fn (cA T)):=fun⟨_,_,hq⟩=>by
 obtain⟨v,he,_⟩:=hq
 cases he
def sL (os:List Oper):Bool:=os.all fun o=>match o.op with|.defer _=>false|_=>true
theorem CE {os:List Oper} (h:sL os=true) {i:Nat} {o:Oper} (ho:os[i]? =some o):∀c,o.op≠.defer c:=fun c hc=>by
 have:=List.all_eq_true.1 h o (List.mem_of_getElem? ho)
 rw[hc] at this
 cases this
theorem HG {rd:Option Nat} {o:Oper} (h:rd=none∨∀c,o.op≠.defer c) (ρ:Operand→Value):o.semAt (FR rd).round ρ=execOp ρ o:=by
 rcases h with rfl|h
 ·exact Oper.semAt_none ρ o
 ·exact Oper.semAt_eq _ ρ o h
theorem FO {P:Program} {rd:Option Nat} {n:Nat} {o:Oper} {a:Act} {w:World} {K K':Act→World→Prop} {Q:Exit→Act→World→Prop} (hd:rd=none∨∀c,o.op≠.defer c) (hk:∀a w,K a w→K' a w) (h:o.wp P a w K Q):o.wpIn (FR rd) n P a w K' Q:=
 ⟨fun _ _=>trivial,by rw[HG hd];exact FN hk h⟩
theorem AW {P:Program} {rd:Option Nat} {n:Nat} {os:List Oper} {Q:Exit→Act→World→Prop} (hQ:¬LetsOut Q) (hd:rd=none∨sL os=true):∀(l:List Nat) (a:Act) (w:World),wpOps P os.toArray Q l a w→wpOpsIn (FR rd) n P os.toArray Q l a w:=by
 intro l
 induction l with
 |nil=>intro a w h;exact h
 |cons i l ih=>
  intro a w h
  unfold wpOps at h
  unfold wpOpsIn
  cases ho:os.toArray[i]? with
  |none=>
   simp only[ho] at h⊢
   exact ih a w h
  |some o=>
   simp only[ho] at h⊢
   split
   ·rename_i hw
    rw[if_pos hw] at h
    exact FO (hd.imp_right fun hd=>CE hd (by simpa using ho)) ih (h.resolve_right fun h=>hQ h.2)
   ·rename_i hw
    rw[if_neg hw] at h
    exact⟨fun _ _=>trivial,ih _ _ h⟩
section
variable {P:Program} {ops:Array Oper} {Q:ie} {N:Nat} {D:List Deferred} {rd:Option Nat}
def gW (rd:Option Nat) (P:Program) (Q:ie) (N:Nat) (D:List Deferred) (l:Fr) (w:World) (c:Code):Prop:=∀a,At N D l a→c.wpIn (FR rd) 0 P Q a w
namespace I
section code
variable {l l':Fr} {w:World}
theorem aj {x y:Code} (h:gW rd P (Exit.then (y.wpIn (FR rd) 0 P Q) Q) N D l w x):gW rd P Q N D l w (.seq x y):=fun a ha=>wpIn_seq (h a ha)
theorem aA (h:iE Q N D l w):gW rd P Q N D l w .skip:=fun a ha=>wpIn_skip (h a ha)
theorem ah {y:Code} {Q':ie} (h:gW rd P Q N D l w y):iE (Exit.then (y.wpIn (FR rd) 0 P Q) Q') N D l w:=fun a ha=>h a ha
theorem aJ {id:Nat} {c:Code} (h:gW rd P (Exit.inBlock id Q) N D l w c):gW rd P Q N D l w (.block id c):=fun a ha=>wpIn_block (h a ha)
theorem bJ {id:Nat} (h:j0 Q N D l w (.exit id)):gW rd P Q N D l w (.exit id):=fun a ha=>wpIn_exit (h a ha)
theorem aD (h:j0 Q N D l w .ret):gW rd P Q N D l w .ret:=fun a ha=>wpIn_ret (h a ha)
theorem j2 {c:Operand} {x y:Code} {b:Bool} (hc:ev l c=some (.bool b)) (ht:b=true→gW rd P Q N D l w x) (hf:b=false→gW rd P Q N D l w y):gW rd P Q N D l w (.cond c x y):=fun a ha=>
 wpIn_cond_split (ha.ev hc) (fun h=>ht h a ha) (fun h=>hf h a ha)
theorem ci {c:Operand} {x y:Code} {p:Prop} {dp:Decidable p} (hc:ev l c=some (.bool (@decide p dp))) (ht:p→gW rd P Q N D l w x) (hf:¬p→gW rd P Q N D l w y):gW rd P Q N D l w (.cond c x y):=
 I.j2 hc (fun h=>ht (of_decide_eq_true h)) (fun h=>hf (of_decide_eq_false h))
theorem cg {c:Operand} {x y:Code} (hc:ev l c=some (.bool true)) (ht:gW rd P Q N D l w x):gW rd P Q N D l w (.cond c x y):=I.j2 hc (fun _=>ht) (fun h=>by cases h)
theorem bU {c:Operand} {x y:Code} (hc:ev l c=some (.bool false)) (hf:gW rd P Q N D l w y):gW rd P Q N D l w (.cond c x y):=I.j2 hc (fun h=>by cases h) (fun _=>hf)
theorem i3 {c:Code} {α:Type} (fr:α→Fr) (H:α→World→Prop) (h:gW rd P (Exit.then (fun a w'=>∃x,At N D (fr x) a∧H x w') Q) N D l w c) (k:∀x w',H x w'→iE Q N D (fr x) w'):gW rd P Q N D l w c:=fun a ha=>
 wpIn_mono (h a ha) fun e a' w' hq=>by
  cases e with
  |normal=>
   obtain⟨x,hx,hH⟩:=hq
   exact k x w' hH a' hx
  |_=>exact hq
theorem dS {c:Code} {α:Type} (fr:α→Fr) (H:α→World→Prop) (mu:α→Nat) (x0:α) (hs:xp (fr x0) l) (h0:H x0 w)
 (round:∀x w',H x w'→gW rd P (Exit.then (fun a w''=>∃y,At N D (fr y) a∧H y w''∧mu y<mu x) Q) N D (fr x) w' c):gW rd P Q N D l w (.loop c):=fun a ha=>by
 intro b k cs hro hb hr
 have go:∀(n:Nat) (x:α) (a:Act) (w:World),mu x<n→At N D (fr x) a→H x w→
  ∃e a' w',Q e a' w'∧ArrivesIn (Machine.fenced P (FR rd)) P (lone (b.atR a (.code c::.inLoop c::k)) cs w) b k cs e a' w':=by
  intro n
  induction n with
  |zero=>intro x a w hlt;omega
  |succ n ih=>
   intro x a w hlt hat hH
   obtain⟨e,a1,w1,hq,harr⟩:=round x w hH a hat b (.inLoop c::k) cs hro hb hr
   cases e with
   |normal=>
    obtain⟨y,hy,hHy,hm⟩:=hq
    obtain⟨e2,a2,w2,hq2,harr2⟩:=ih y a1 w1 (by omega) hy hHy
    exact⟨e2,a2,w2,hq2,.of_steps (StepsIn.trans harr (.one (fenced_calm hb hr J) stepR_inLoop)) harr2⟩
   |exit id=>exact⟨_,a1,w1,hq,.pass (x:=.inLoop c) rfl (fun _ _=>.inl (by simp)) harr⟩
   |goto l=>exact⟨_,a1,w1,hq,.pass (x:=.inLoop c) rfl (fun _ _=>.inl (by simp)) harr⟩
   |ret=>exact⟨_,a1,w1,hq,.pass (x:=.inLoop c) rfl (fun _ _=>.inl (by simp)) harr⟩
   |panic ch=>exact⟨_,a1,w1,hq,.pass (x:=.inLoop c) rfl (fun _ _=>.inl (by simp)) harr⟩
   |outgrown=>exact⟨_,a1,w1,hq,.pass (x:=.inLoop c) rfl (fun _ _=>.inl (by simp)) harr⟩
 obtain⟨e,a',w',hq,harr⟩:=go (mu x0+1) x0 a w (by omega) (ha.weak hs) h0
 exact⟨e,a',w',hq,.of_steps (.one (fenced_calm hb hr J) stepR_loop) harr⟩
theorem ae {id:Nat} {os:List Oper} (hd:sL os=true) (h:di P os.toArray Q N D l w os)
 (hQ:¬LetsOut Q:=by repeat with_reducible first|exact tF|exact rY|exact pI|apply rX|apply pH):gW rd P Q N D l w (.region id os.toArray false):=fun a ha=>by
 refine wpIn_region (AW hQ (.inr hd) _ _ _ ?_)
 have:=wpOps_eq_wpList (P:=P) (Q:=Q) (ops:=os.toArray) os 0 (by simp)
 rw[List.range_eq_range']
 simp only[List.size_toArray]
 rw[this]
 exact h a ha
theorem ik {id:Nat} {os:List Oper} (n:Nat) (ts:List Nat) (Env:World→Prop) (Rl:World→World→Prop) (mo:Bool) (Pn:List PanicEntry→World→Prop) (Z:kX) (hE:lW Env Rl) (he:Env w) (hZ:el Z) (hz:Z w) (hP:∀c a w,a.defers=D→Pn c w→Q (.panic c) a w) (hcalls:mo=true→kY .any os.toArray=true) (hm:P.follows .mixedOrders=true) (hB:Region.lexTailB .any os.toArray n=true) (hd:sL os=true)
 (h:gf P os.toArray Env Rl mo Pn N (os.take n) (y6 l) Z (fun F Z=>∀w',Env w'→Z w'→mW F w' ts (fun l'=>di P os.toArray Q N D l' w' (os.drop n))))
 (hQ:¬LetsOut Q:=by repeat with_reducible first|exact tF|exact rY|exact pI|apply rX|apply pH):gW rd P Q N D l w (.region id os.toArray true):=fun a ha=>by
 refine wpIn_region_draw fun t=>AW hQ (.inr hd) _ _ _ ?_
 have hdr:aH w {w with drawn:=w.drawn+1}:=⟨rfl,rfl,rfl,Ng _,fun _ _=>rfl⟩
 have key:wpAny P .any os.toArray Q os.toArray.size (Array.replicate os.toArray.size false) a {w with drawn:=w.drawn+1}:=by
  simp only[Region.lexTailB,Bool.and_eq_true,decide_eq_true_eq] at hB
  obtain⟨⟨⟨⟨_,hn⟩,hs⟩,hc⟩,hlex⟩:=hB
  have hn':n<os.length:=by simpa using hn
  have htl:(os.take n).length=n:=by simp;omega
  have hdl:(os.drop n).length=os.toArray.size-n:=by simp
  have inv0:HeadInv .any os.toArray n (Array.replicate os.toArray.size false):=
   ⟨by simp,fun j oj _ hl=>(by rw[getD_replicate_false] at hl;cases hl),fun t _ ht=>getD_in (by simpa using ht) (getD_replicate_false _ _)⟩
  have h2:gf P os.toArray Env Rl mo Pn N (os.take n) (y6 l) Z (fun F Z=>∀a' w',Env w'→Cj N D F a' w'→Z w'→wpList P os.toArray Q (os.drop n) a' w'):=lX _ _ _ (fun F Z hK a' w' he hs hz=>by
   obtain⟨l',hl',hk⟩:=mW.use hs (hK w' he hz)
   exact hk a' hl') h
  have H:=rN (md:=.any) (g:=os.toArray.size-n) hcalls hs hc hn (os.take n) 0 _ _ _ (fun j hj=>by
   have hj':j<n:=by rw[htl] at hj;exact hj
   simp[hj']) (by simpa using htl) inv0 (by rw[htl];exact hlex) (ob l) hZ h2
  have hsat:Cj N D (y6 l) a {w with drawn:=w.drawn+1}:=⟨ha.size,ha.defers,fun t=>by
   show y6 l t (a.tmps.getD t undef) _
   unfold y6
   cases hv:lk l t with
   |some v=>exact ha.at_ t v hv
   |none=>trivial⟩
  have:=jC (D:=D) (Q':=Q) (l0:=[]) (g:=os.toArray.size-n) hE (fun c a w _ hd _ hp=>hP c a w hd hp) (fun _ _ _ _ _ _ _ hp=>by cases hp) (fun listed F Z hL hF hZ a' w' he hsat hz=>by
   have:=wpAny_of_seq (md:=.any) (Q':=Q) (os.drop n) n listed a' w' (fun j=>by simp[List.getElem?_drop]) (by rw[hdl];exact hL.1) (hL.2 a' w' he hsat hz)
   rwa [hdl] at this) _ _ _ _ H (ob l) hZ a {w with drawn:=w.drawn+1} (hE.keep _ _ he (hE.ext _ _ hdr)) hsat (fun _ hp=>by cases hp) (hZ _ _ hz hdr)
  rw[htl,show n+(os.toArray.size-n)=os.toArray.size by omega] at this
  exact this
 simp only[Region.schedule,hm,Bool.true_or,if_true]
 exact wpAny_sound os.toArray.size t _ a _ key
theorem bj {id:Nat} {os:List Oper} (n:Nat) (ts:List Nat) (hm:P.follows .mixedOrders=true) (hB:Region.lexTailB .any os.toArray n=true) (hd:sL os=true)
 (h:gf P os.toArray (aH w) aH false AD N (os.take n) (y6 l) (fun _=>True) (fun F _=>∀w',aH w w'→mW F w' ts (fun l'=>di P os.toArray Q N D l' w' (os.drop n))))
 (hQ:¬LetsOut Q:=by repeat with_reducible first|exact tF|exact rY|exact pI|apply rX|apply pH):gW rd P Q N D l w (.region id os.toArray true):=
 ik n ts (aH w) aH false AD (fun _=>True) (lW.plain w) (aH.refl w) el.triv trivial (fun _ _ _ _ h=>h.elim) (fun h=>by cases h) hm hB hd (lX _ _ _ (fun _ _ h w' he _=>h w' he) h) hQ
end code
end I
end
end Go.Rl
namespace Go.Rl
open Go.RowKit Go.Proofs
section ops
variable {P:Program} {ops:Array Oper} {Q:ie} {N:Nat} {D:List Deferred} {l:Fr} {w w':World} {rest:List Oper} {d:Nat} {ty:TypeId} {pos:String} {aft:Array Edge}
theorem mm {fn:Fn} {fs cs:List Operand} {us vs:List Value} (hf:xq l fs=some us) (hc:xq l cs=some vs) (hd:Nat.blt d N=true) (k:di P ops Q N D ((d,.func fn us.toArray vs.toArray)::l) w rest):di P ops Q N D l w (⟨some d,.makeFunc fn fs.toArray cs.toArray,ty,pos,aft,none⟩::rest):=
 jD hd (fun ρ hρ=>by
  have:execOp ρ ⟨some d,.makeFunc fn fs.toArray cs.toArray,ty,pos,aft,none⟩=(do pure (Next.value (←Instr.makeFunc fn (fs.toArray.map ρ) (cs.toArray.map ρ))):Sem Next):=rfl
  rw[this,List.map_toArray,List.map_toArray,lZ hρ hf,lZ hρ hc];rfl) k
theorem gX {f:FuncId} {x:Operand} {fs lb:Array Value} {xs:List Operand} {vs:List Value} {ts:Array TypeId} {T:Value→World→Prop} (hx:ev l x=some (.func (.func f) fs lb)) (hf:az P f) (hp:xq l xs=some vs) (hd:Nat.blt d N=true) (hc:Calls P f (fs++vs.toArray++lb) w (cA T))
 (k:∀v w',T v w'→di P ops Q N D ((d,v)::l) w' rest):di P ops Q N D l w (⟨some d,.call {callee:=.value x,args:=xs.toArray,argTypes:=ts},ty,pos,aft,none⟩::rest):=fun a ha=>by
 refine wpList_plain J fun K hK=>?_
 unfold Oper.wp
 have hr:(execOp a.eval ⟨some d,.call {callee:=.value x,args:=xs.toArray,argTypes:=ts},ty,pos,aft,none⟩).run P w=.ok (.enter f (fs++vs.toArray++lb)) w:=by
  have hρ:rC l a.eval:=fun x v hx=>ha.ev hx
  simp only[execOp,resolve,List.map_toArray,lZ hρ hp,hρ x _ hx,Deferred.ofValue,Sem.run_bind,Sem.run_pure,Result.andThen_ok,invoke,jE hf]
 rw[hr]
 refine hc.mono ?_
 rintro e w' ⟨v,rfl,hv⟩
 exact hK _ _ (k v w' hv _ (ha.put hd v))
end ops
section fops
variable {P:Program} {ops:Array Oper} {Env:World→Prop} {Rl:World→World→Prop} {mo:Bool} {Pn:List PanicEntry→World→Prop} {Z:kX} {N:Nat} {F:dI} {K:dI→kX→Prop} {rest:List Oper} {d:Nat} {ty:TypeId} {pos:String} {aft:Array Edge}
end fops
theorem HH:(Tryz.prog.info? 3).map (fun i=>(i.zero,i.size,i.bytes))=some (some (.int .i64 0),1,8):=by kernel_rfl
theorem HI:(Tryz.prog.info? 3).map (·.size)=some 1:=by kernel_rfl
section
variable {w w':World} {base:Nat}
def Its (l:List Int):dn:=Sl 1 (l.map I)
def tG (base:Nat) (l:List Int):dn:=fun v w=>∃n,w.ownsRow base 3 1 v n (l.map I)
theorem tG.its {l:List Int} {v:Value} (h:tG base l v w):Its l v w:=h.elim fun _ h=>Sl.of_own h
theorem tG.ext {l:List Int} {v:Value} (h:tG base l v w) (hx:aH w w'):tG base l v w':=h.elim fun n h=>⟨n,jp h hx⟩
theorem tG.stable (base:Nat) (l:List Int):bi (tG base l):=fun _ _ _ h hx=>h.ext hx
theorem Its.stable (l:List Int):bi (Its l):=Sl.stable _ _
theorem tG.lt {l:List Int} {v:Value} (h:tG base l v w):∀k,v.ownBlock=some k→base≤k∧k<w.heap.size:=fun k hk=>h.elim fun _ h=>World.ownsRow.lt h k hk
theorem tG.kept {l:List Int} {v:Value} (h:tG base l v w) {row:Option Nat} (hg:w.grownBy w' row) (hne:v.ownBlock=none∨v.ownBlock≠row):tG base l v w':=
 h.elim fun n h=>⟨n,World.ownsRow.kept h hg hne⟩
theorem Mb (l:List Int):∀u∈l.map I,u.oneCell'=true:=by
 intro u hu
 obtain⟨b,_,rfl⟩:=List.mem_map.1 hu
 rfl
theorem Mc (base:Nat) (l:List Int) (hl:l.length≤16777216) (hb:base≤w.heap.size):
 ∃r w',(Instr.buildSlice 22 l.length (fF 0 (l.map I)).toArray).run Tryz.prog w=.ok r w'∧aH w w'∧tG base l r w'∧r.ownBlock=some w.heap.size:=by
 have:=lC (P:=Tryz.prog) (w:=w) Tryz.underlying22 HH (l.map I) (Mb l) (by simpa using hl) hb
 simp only[List.length_map] at this
 obtain⟨r,w',h1,h2,h3,h4⟩:=this
 exact⟨r,w',h1,h2,⟨_,h3⟩,h4⟩
end
structure Mv (X:Nat→Prop) (w w':World):Prop where
 os:w'.os=w.os
 tape:w'.tape=w.tape
 output:w'.output=w.output
 size:w.heap.size≤w'.heap.size
 keep:∀k,k<w.heap.size→¬X k→w'.heap[k]? =w.heap[k]?
section
variable {X Y:Nat→Prop} {w w1 w2:World}
theorem Mv.refl (X:Nat→Prop) (w:World):Mv X w w:=⟨rfl,rfl,rfl,Ng _,fun _ _ _=>rfl⟩
theorem Mv.trans (h:Mv X w w1) (k:Mv Y w1 w2) (hY:∀n,Y n→n<w.heap.size→X n):Mv X w w2:=
 ⟨k.os.trans h.os,k.tape.trans h.tape,k.output.trans h.output,Nat.le_trans h.size k.size,fun n hn hx=>(k.keep n (Nat.lt_of_lt_of_le hn h.size) (fun hy=>hx (hY n hy hn))).trans (h.keep n hn hx)⟩
theorem Mv.of_ext (h:aH w w1):Mv X w w1:=⟨h.os,h.tape,h.output,h.size,fun _ hn _=>h.heap hn⟩
theorem Mv.of_grown {row:Option Nat} (h:w.grownBy w1 row) (hr:∀k,row=some k→k<w.heap.size→X k):Mv X w w1:=
 ⟨h.os,h.tape,h.output,h.size,fun n hn hx=>h.block n hn (fun e=>hx (hr n e.symm hn))⟩
theorem Mv.ext (h:Mv X w w1) (hX:∀k,X k→w.heap.size≤k):aH w w1:=⟨h.os,h.tape,h.output,h.size,fun n hn=>h.keep n hn fun hx=>by have:=hX n hx;omega⟩
theorem Mv.ext_from {w0:World} (h:Mv X w w1) (h0:aH w0 w) (hX:∀k,X k→w0.heap.size≤k):aH w0 w1:=
 ⟨Eq.trans h.os h0.os,Eq.trans h.tape h0.tape,Eq.trans h.output h0.output,Nb h0.size h.size,fun n hn=>(h.keep n (Nk hn h0.size) fun hx=>by have:=hX n hx;omega).trans (h0.heap hn)⟩
theorem Mv.weak (h:Mv X w w1) (hXY:∀k,X k→k<w.heap.size→Y k):Mv Y w w1:=⟨h.os,h.tape,h.output,h.size,fun n hn hy=>h.keep n hn fun hx=>hy (hXY n hx hn)⟩
theorem Mv.blk {g:Nat} {T:TypeId} {l:List Value} (h:Mv X w w1) (hb:dE g T l w) (hx:¬X g):dE g T l w1:=(h.keep g hb.lt hx).trans hb
end
end Go.Rl
namespace Go.Rl
open Go.RowKit
mutual
def mw (X:Nat→Prop) (w:World):Dt→List Value→Prop
 |.int k n,cs=>cs=[.int k n]
 |.bool b,cs=>cs=[.bool b]
 |.str l,cs=>cs=[S l]
 |.sl l,cs=>∃A n c,cs=[.slice A n c]∧l.length=n∧n≤c∧c≤maxLen∧(A=none→c=0)∧(0<n→∃ad xs,A=some ad∧(xs≠[]→¬X ad.block)∧d8 w ad xs∧cG X w l xs)
 |.st l,cs=>cG X w l cs
def cG (X:Nat→Prop) (w:World):List Dt→List Value→Prop
 |[],cs=>cs=[]
 |d::ds,cs=>∃c1 c2,cs=c1++c2∧mw X w d c1∧cG X w ds c2
end
theorem d8.block_lt {w:World} {ad:Addr} {xs:List Value} (h:d8 w ad xs) (h0:xs≠[]):ad.block<w.heap.size:=by
 cases xs with
 |nil=>exact absurd rfl h0
 |cons x xs=>
  have:=World.block_lt_of_cell? w _ (h 0 x rfl)
  rwa [gj] at this
theorem Mv.cells {X:Nat→Prop} {w w':World} (hm:Mv X w w') {ad:Addr} {xs:List Value} (h:d8 w ad xs) (hx:xs≠[]→¬X ad.block):d8 w' ad xs:=fun j u hu=>by
 have hn:xs≠[]:=by rintro rfl;simp at hu
 have hc:=h j u hu
 rw[World.cell?_of_block (hm.keep _ (World.block_lt_of_cell? w _ hc) (by rw[gj];exact hx hn))]
 exact hc
section
variable {X Y:Nat→Prop} {w w':World}
mutual
theorem mw.rp:∀{d:Dt} {cs:List Value},mw X w d cs→Rp w d cs
 |.int k n,cs,h=>by simpa only[mw,Rp] using h
 |.bool b,cs,h=>by simpa only[mw,Rp] using h
 |.str l,cs,h=>by simpa only[mw,Rp] using h
 |.sl l,cs,h=>by
  simp only[mw,Rp] at h⊢
  obtain⟨A,n,c,h1,h2,h3,h4,h5,h6⟩:=h
  refine⟨A,n,c,h1,h2,h3,h4,h5,fun hn=>?_⟩
  obtain⟨ad,xs,h7,_,h8,h9⟩:=h6 hn
  exact⟨ad,xs,h7,h8,cG.rp h9⟩
 |.st l,cs,h=>by simp only[mw,Rp] at h⊢;exact cG.rp h
theorem cG.rp:∀{l:List Dt} {cs:List Value},cG X w l cs→bm w l cs
 |[],cs,h=>by simpa only[cG,bm] using h
 |d::l,cs,h=>by
  simp only[cG,bm] at h⊢
  obtain⟨c1,c2,h0,h1,h2⟩:=h
  exact⟨c1,c2,h0,mw.rp h1,cG.rp h2⟩
end
mutual
theorem Rp.x:∀{d:Dt} {cs:List Value},Rp w d cs→mw (fun k=>w.heap.size≤k) w d cs
 |.int k n,cs,h=>by simpa only[mw,Rp] using h
 |.bool b,cs,h=>by simpa only[mw,Rp] using h
 |.str l,cs,h=>by simpa only[mw,Rp] using h
 |.sl l,cs,h=>by
  simp only[mw,Rp] at h⊢
  obtain⟨A,n,c,h1,h2,h3,h4,h5,h6⟩:=h
  refine⟨A,n,c,h1,h2,h3,h4,h5,fun hn=>?_⟩
  obtain⟨ad,xs,h7,h8,h9⟩:=h6 hn
  exact⟨ad,xs,h7,fun h0=>Nat.not_le.2 (h8.block_lt h0),h8,bm.x h9⟩
 |.st l,cs,h=>by simp only[mw,Rp] at h⊢;exact bm.x h
theorem bm.x:∀{l:List Dt} {cs:List Value},bm w l cs→cG (fun k=>w.heap.size≤k) w l cs
 |[],cs,h=>by simpa only[cG,bm] using h
 |d::l,cs,h=>by
  simp only[cG,bm] at h⊢
  obtain⟨c1,c2,h0,h1,h2⟩:=h
  exact⟨c1,c2,h0,Rp.x h1,bm.x h2⟩
end
mutual
theorem mw.mv (hm:Mv X w w') (hY:∀k,Y k→X k∨w.heap.size≤k):∀{d:Dt} {cs:List Value},mw X w d cs→mw Y w' d cs
 |.int k n,cs,h=>by simpa only[mw] using h
 |.bool b,cs,h=>by simpa only[mw] using h
 |.str l,cs,h=>by simpa only[mw] using h
 |.sl l,cs,h=>by
  simp only[mw] at h⊢
  obtain⟨A,n,c,h1,h2,h3,h4,h5,h6⟩:=h
  refine⟨A,n,c,h1,h2,h3,h4,h5,fun hn=>?_⟩
  obtain⟨ad,xs,h7,h8,h9,h10⟩:=h6 hn
  refine⟨ad,xs,h7,fun h0 hy=>?_,hm.cells h9 h8,cG.mv hm hY h10⟩
  rcases hY _ hy with hx|hx
  ·exact h8 h0 hx
  ·have:=h9.block_lt h0;omega
 |.st l,cs,h=>by simp only[mw] at h⊢;exact cG.mv hm hY h
theorem cG.mv (hm:Mv X w w') (hY:∀k,Y k→X k∨w.heap.size≤k):∀{l:List Dt} {cs:List Value},cG X w l cs→cG Y w' l cs
 |[],cs,h=>by simpa only[cG] using h
 |d::l,cs,h=>by
  simp only[cG] at h⊢
  obtain⟨c1,c2,h0,h1,h2⟩:=h
  exact⟨c1,c2,h0,mw.mv hm hY h1,cG.mv hm hY h2⟩
end
theorem mw.weak {d:Dt} {cs:List Value} (h:mw X w d cs) (hY:∀k,Y k→X k∨w.heap.size≤k):mw Y w d cs:=h.mv (Mv.refl X w) hY
theorem cG.weak {d:List Dt} {cs:List Value} (h:cG X w d cs) (hY:∀k,Y k→X k∨w.heap.size≤k):cG Y w d cs:=h.mv (Mv.refl X w) hY
theorem mw.ext {d:Dt} {cs:List Value} (h:mw X w d cs) (hx:aH w w'):mw X w' d cs:=mw.mv (Mv.of_ext hx) (fun _ h=>.inl h) h
theorem cG.ext {d:List Dt} {cs:List Value} (h:cG X w d cs) (hx:aH w w'):cG X w' d cs:=cG.mv (Mv.of_ext hx) (fun _ h=>.inl h) h
theorem cG.len {l:List Dt} {cs:List Value} (h:cG X w l cs):cs.length=Dt.sizeAll l:=h.rp.len
theorem cG.nil:cG X w [] []:=by simp only[cG]
theorem cG.cons {d:Dt} {l:List Dt} {a b:List Value} (h:mw X w d a) (h':cG X w l b):cG X w (d::l) (a++b):=by simp only[cG];exact⟨a,b,rfl,h,h'⟩
theorem cG.append {l m:List Dt}:∀{a b:List Value},cG X w l a→cG X w m b→cG X w (l++m) (a++b):=by
 induction l with
 |nil=>intro a b h h';simp only[cG] at h;subst h;exact h'
 |cons d l ih=>
  intro a b h h'
  simp only[cG] at h
  obtain⟨c1,c2,rfl,h1,h2⟩:=h
  rw[List.append_assoc]
  exact cG.cons h1 (ih h2 h')
theorem mw.ofOwn {base sz n:Nat} {e:TypeId} {l:List Dt} {v:Value} {xs:List Value} (h:w.ownsRow base e sz v n xs) (ha:cG X w l xs) (hs:∀d∈l,d.size=sz) (h0:0<sz) (hX:∀k,v.ownBlock=some k→¬X k):mw X w (.sl l) [v]:=by
 have hl:=ha.len
 rw[dq hs,h.1] at hl
 have hn:=Nat.eq_of_mul_eq_mul_right h0 hl
 obtain⟨A,n',c,rfl,h3,h4,h5,h6,h7⟩:=Sl.of_own h
 simp only[mw]
 have hn':n'=n:=Nat.eq_of_mul_eq_mul_right h0 (h5.symm.trans h.1)
 subst hn'
 refine⟨A,n',c,J,hn.symm,h3,h4,h7,fun hp=>?_⟩
 obtain⟨ad,rfl,hc⟩:=h6 hp
 exact⟨ad,xs,J,fun _=>hX _ J,hc,ha⟩
end
end Go.Rl
namespace Go.Rl
open Go.ChangeShapes Go.WideShapes Go.ChangeAt Go.RowKit Go.Proofs
open Go.ChangeMaps (open_string shut_string)
section
variable {P:Program} {H:Type} {enc:TypeId×Value→H} {W:World} {base:Nat} {spare:Nat→Bool} {held:Bool} {r:Reach} {b0:Nat} {v:Value} {d:DataW H} {ps:List MemPlace}
theorem Kw {n:Int} (h:(Lit.int .u8 n).wf=true):∃x:UInt8,n=(x.toNat:Int):=by
 have hb:0≤n∧n≤255:=by simpa [Lit.wf,IntKind.min,IntKind.max,IntKind.signed,IntKind.bits] using h
 exact⟨UInt8.ofNat n.toNat,by rw[UInt8.toNat_ofNat'];omega⟩
theorem Es:∀(zs:List Int),(∀n∈zs,(Lit.int .u8 n).wf=true)→∃l:List UInt8,zs.map (Value.int .u8)=l.map U8
 |[],_=>⟨[],rfl⟩
 |z::zs,h=>by
  obtain⟨x,hx⟩:=Kw (h z (by simp))
  obtain⟨l,hl⟩:=Es zs fun n hn=>h n (by simp[hn])
  exact⟨x::l,by rw[List.map_cons,List.map_cons,hl,hx];rfl⟩
theorem HJ {t e:TypeId} {k:IntKind} {fuel:Nat} {cs:List Value} {x:DataW H×List MemPlace} (ht:P.underlying t=some (.slice e)) (he:P.underlying e=some (.int k)) (hc:P.cellsOf e=1) (hf:DataW.trod enc P W base spare held fuel t cs=some x):
 ∃v,cs=[v]∧v.oneCell'=true∧∃zs:List Int,Sl 1 (zs.map (Value.int k)) v W∧∀n∈zs,(Lit.int k n).wf=true:=by
 rcases open_ints ht he hc hf with⟨hcs,_⟩|⟨x,l,c,zs,hcs,_,hl,hm,hz,_,hcell,hwz⟩
 ·exact⟨_,hcs,J,[],Sl.nil 1 W,by simp⟩
 ·have hle:l≤zs.length:=by
   rw[hz];split<;>omega
  refine⟨_,hcs,J,zs.take l,⟨some x,l,c,J,hl,hm,by simp[hle],fun _=>⟨x,rfl,fun j u hu=>?_⟩,fun h=>by cases h⟩,fun n hn=>hwz n (List.mem_of_mem_take hn)⟩
  rw[List.getElem?_map,Option.map_eq_some_iff] at hu
  obtain⟨z,hz1,rfl⟩:=hu
  rw[List.getElem?_take] at hz1
  split at hz1
  ·rename_i hjl
   have hj:j<zs.length:=by omega
   have:=hcell j hj
   rw[List.getElem?_eq_getElem hj] at hz1
   rw[this]
   simp only[Option.some.injEq] at hz1
   rw[←hz1]
   simp[List.getD,List.getElem?_eq_getElem hj]
  ·cases hz1
theorem JD {t e:TypeId} {k:IntKind} (ht:P.underlying t=some (.slice e)) (he:P.underlying e=some (.int k)) (hc:P.cellsOf e=1) (ho:Value.okWide P W r b0 t v) (h:DataW.Trod enc P W base spare held t v d ps):
 ∃zs:List Int,Sl 1 (zs.map (Value.int k)) v W∧∀n∈zs,(Lit.int k n).wf=true:=by
 obtain⟨a,len,cap,rfl⟩:=okWide_slice ht ho
 obtain⟨fuel,hf⟩:=h
 obtain⟨v,hv,_,h⟩:=HJ ht he hc hf
 simp[Value.cells] at hv
 subst hv
 exact h
theorem Md {t e:TypeId} (ht:P.underlying t=some (.slice e)) (he:P.underlying e=some (.int .u8)) (hc:P.cellsOf e=1) (ho:Value.okWide P W r b0 t v) (h:DataW.Trod enc P W base spare held t v d ps):∃l,lP l v W:=by
 obtain⟨zs,h1,h2⟩:=JD ht he hc ho h
 obtain⟨l,hl⟩:=Es zs h2
 exact⟨l,by unfold lP;rw[←hl];exact h1⟩
theorem open_U8 {t:TypeId} (ht:P.underlying t=some (.int .u8)) (ho:Value.okWide P W r b0 t v) (h:DataW.Trod enc P W base spare held t v d ps):∃x,v=U8 x:=by
 obtain⟨n,rfl,_,_,hw⟩:=open_int ht ho h
 obtain⟨x,rfl⟩:=Kw hw
 exact⟨x,J⟩
end
end Go.Rl
namespace Go.Rl
open Go.ChangeShapes Go.WideShapes Go.ChangeAt Go.RowKit
section
variable {P:Program} {t e:TypeId} {d:Dt}
def dBs (l:List UInt8):Dt:=.sl (l.map dU8)
def CF (l:List UInt32):Dt:=.sl (l.map xr)
theorem Rp.bts {w:World} {l:List UInt8} {v:Value}:Rp w (dBs l) [v]↔lP l v w:=Rp.bytes
theorem Rp.wds {w:World} {l:List UInt32} {v:Value}:Rp w (CF l) [v]↔bH l v w:=Rp.words
end
end Go.Rl
namespace Go.Rl
open Go.RowKit Go.Proofs
section
variable {α:Type} {f:α→Dt} {l:List α} {v:Value} {w w':World}
def cF (f:α→Dt) (l:List α) (v:Value) (w:World):Prop:=Rp w (.sl (l.map f)) [v]
theorem cF.ext (h:cF f l v w) (hx:aH w w'):cF f l v w':=Rp.ext hx h
theorem cF.stable (f:α→Dt) (l:List α):bi (cF f l):=fun _ _ _ h hx=>h.ext hx
theorem cF.isS (h:cF f l v w):∃A n c,v=.slice A n c:=by
 unfold cF at h
 simp only[Rp] at h
 obtain⟨A,n,c,hv,_⟩:=h
 exact⟨A,n,c,by simpa using hv⟩
theorem cF.one (h:cF f l v w):v.oneCell'=true:=by obtain⟨A,n,c,rfl⟩:=h.isS;rfl
theorem bH.one {l:List UInt32} (h:bH l v w):v.oneCell'=true:=by obtain⟨A,n,c,rfl⟩:=h.isS;rfl
theorem cF.nil (f:α→Dt) (w:World):cF f [] (.slice none 0 0) w:=Rp.nilSl
theorem cF.len (h:cF f l v w):l.length≤9223372036854775807:=by
 have:=Rp.slLen h
 simpa using this
theorem bB {P:Program} {t e:TypeId} {ty:TypeId} (ht:P.underlying t=some (.slice e)) (h:cF f l v w):(Builtin.len_ #[t] ty #[v]).run P w=.ok (I l.length) w:=by
 have:=K7 (ty:=ty) ht h
 simpa using this
theorem cP {P:Program} {t e:TypeId} {sz:Nat} (ht:P.underlying t=some (.slice e)) (hz:(P.info? e).map (·.size)=some sz) (hs:∀x,(f x).size=sz) (h0:0<sz) (h:cF f l v w) {i:Nat} (hi:i<l.length) (k:IntKind):
 ∃ad cs,(∀w':World,(Instr.indexAt t v (.int k i)).run P w'=.ok (.pointer (some ad)) w')∧d8 w ad cs∧Rp w (f l[i]) cs:=by
 obtain⟨ad,cs,h1,h2,h3⟩:=L9 ht hz h (by simp[hs]) h0 (i:=i) (by simpa using hi) k
 exact⟨ad,cs,h1,h2,by simpa using h3⟩
theorem d8.at {ad:Addr} {xs:List Value} (h:d8 w ad xs) {j:Nat} {u:Value} (hj:xs[j]? =some u):w.cell? (ad.add j)=some u:=h j u hj
theorem CG {P:Program} {s:TypeId} {fs:Array Field} {fd:Field} {n o:Nat} {a:Addr} (hs:P.underlying s=some (.struct fs)) (hf:fs[n]? =some fd) (hk:(P.cellsOf fd.type==0)=false) (ho:fd.offset=o):
 (Instr.fieldAt s (.pointer (some a)) n).run P w=.ok (.pointer (some (a.add o))) w:=by
 have hk':P.cellsOf fd.type≠0:=by simpa using hk
 obtain⟨k,hk1⟩:∃k,(P.info? fd.type).map (·.size)=some k:=by
  cases hi:(P.info? fd.type).map (·.size) with
  |none=>exact absurd (by simp[Program.cellsOf,hi]) hk'
  |some k=>exact⟨k,rfl⟩
 have hk0:k≠0:=by
  intro h
  apply hk'
  simp[Program.cellsOf,hk1,h]
 rw[tx hs hf hk1 hk0,ho]
theorem d8.ld {P:Program} {t:TypeId} {d:TypeDesc} {ad:Addr} {cs:List Value} (h:d8 w ad cs) (ht:P.underlying t=some d) (hd:d.isRow=true) (hz:(P.info? t).map (·.size)=some cs.length):(Instr.loadAt t (.pointer (some ad))).run P w=.ok (.agg cs.toArray) w:=Ma h ht hd hz
theorem dE.ld {P:Program} {t T:TypeId} {d:TypeDesc} {g:Nat} {cs:List Value} (h:dE g T cs w) (ht:P.underlying t=some d) (hd:d.isRow=true) (hz:(P.info? t).map (·.size)=some cs.length):(Instr.loadAt t (.pointer (some ⟨g,0,none⟩))).run P w=.ok (.agg cs.toArray) w:=
 Hy h (fun j v hj=>by simpa using hj) ht hd hz
theorem dE.ldO {P:Program} {t T:TypeId} {d:TypeDesc} {g o:Nat} {cs ms:List Value} (h:dE g T cs w) (hm:∀j v,ms[j]? =some v→cs[o+j]? =some v) (ht:P.underlying t=some d) (hd:d.isRow=true) (hz:(P.info? t).map (·.size)=some ms.length):(Instr.loadAt t (.pointer (some ⟨g,o,none⟩))).run P w=.ok (.agg ms.toArray) w:=
 Hy h hm ht hd hz
theorem K8 {P:Program} {T:TypeId} {cs:List Value}:∃g w',(Instr.box T (.agg cs.toArray)).run P w=.ok (.pointer (some ⟨g,0,none⟩)) w'∧w.heap.size≤g∧aH w w'∧dE g T cs w':=
 ⟨_,_,Hh,Ng _,aH.new w _,dE.new (T:=T) (.agg cs.toArray) rfl⟩
def am (l:List Value):Prop:=∀v∈l,v.oneCell'=true
theorem am.nil:am []:=fun _ h=>by simp at h
theorem am.cons {v:Value} {l:List Value} (h:v.oneCell'=true) (h':am l):am (v::l):=fun u hu=>by
 rcases List.mem_cons.1 hu with rfl|hu
 ·exact h
 ·exact h' u hu
theorem dE.stS {P:Program} {t T:TypeId} {g:Nat} {l m:List Value} (h:dE g T l w) (hl:l.length=m.length) (hi:(P.info? t).map (·.size)=some m.length) (h1:am m):
 ∃w',(Instr.storeAt t (.pointer (some ⟨g,0,none⟩)) (.agg m.toArray)).run P w=.ok () w'∧w.grownBy w' (some g)∧dE g T m w':=
 ⟨_,Kt h hl hi h1,iG w g _,h.row m⟩
theorem dE.stC {P:Program} {t T:TypeId} {g i:Nat} {l:List Value} {v:Value} (h:dE g T l w) (hs:(P.info? t).map (·.size)=some 1) (hv:v.oneCell'=true) (hi:i<l.length):
 ∃w',(Instr.storeAt t (.pointer (some ⟨g,i,none⟩)) v).run P w=.ok () w'∧w.grownBy w' (some g)∧dE g T (l.set i v) w':=by
 have h':=h
 unfold dE at h'
 obtain h2:=sF (P:=P) (t:=t) (v:=v) hs hv h' (by simpa using hi)
 exact⟨_,h2,jf w g i v,h.set i v⟩
end
end Go.Rl
namespace Go.Rl
open Go.RowKit Go.Proofs
open Go.Maps (Keyed)
section ops
variable {P:Program} {ops:Array Oper} {Q:ie} {N:Nat} {D:List Deferred} {l:Fr} {w w':World} {rest:List Oper} {d:Nat} {ty:TypeId} {pos:String} {aft:Array Edge}
end ops
end Go.Rl
namespace Go.Rl
open Go.RowKit Go.Proofs
section
variable {w0 w w':World} {l m:List UInt8} {v x:Value} {ty t t2 T:TypeId} {g base:Nat}
structure K9 (T:TypeId) (base g:Nat) (l:List UInt8) (v:Value) (w:World):Prop where
 ge:base≤g
 blk:dE g T [v] w
 row:LT base l v w
 new:∀k,v.ownBlock=some k→base≤k
 off:v.ownBlock≠some g
 lt:∀k,v.ownBlock=some k→k<w.heap.size
theorem LT.bts (h:LT base l v w):lP l v w:=h.elim (·.bts) (·.1)
theorem K9.ext (h:K9 T base g l v w) (hx:aH w w'):K9 T base g l v w':=⟨h.ge,h.blk.ext hx,h.row.ext hx,h.new,h.off,fun k hk=>Nk (h.lt k hk) hx.size⟩
structure j4 (g:Nat) (v:Value) (w:World) (v':Value) (w':World):Prop where
 mv:Mv (fun k=>k=g∨v.ownBlock=some k) w w'
 own:∀k,v'.ownBlock=some k→v.ownBlock=some k∨w.heap.size≤k
theorem j4.of_ext (h:aH w w'):j4 g v w v w':=⟨Mv.of_ext h,fun _ h=>.inl h⟩
theorem j4.refl:j4 g v w v w:=j4.of_ext (aH.refl w)
theorem j4.trans {v1 v2:Value} {w1 w2:World} (h:j4 g v w v1 w1) (k:j4 g v1 w1 v2 w2):j4 g v w v2 w2:=by
 refine⟨h.mv.trans k.mv fun n hn hlt=>?_,fun n hn=>?_⟩
 ·rcases hn with hn|hn
  ·exact .inl hn
  ·rcases h.own n hn with h1|h1
   ·exact .inr h1
   ·omega
 ·rcases k.own n hn with h1|h1
  ·exact h.own n h1
  ·exact .inr (Nb h.mv.size h1)
theorem j4.off {k:Nat} {v1:Value} {w1:World} (h:j4 g v w v1 w1) (hn:¬(k=g∨v.ownBlock=some k)) (hk:k<w.heap.size):¬(k=g∨v1.ownBlock=some k):=by
 rintro(h1|h1)
 ·exact hn (.inl h1)
 ·rcases h.own k h1 with h2|h2
  ·exact hn (.inr h2)
  ·omega
theorem j4.ext {v1:Value} {w1:World} (h:j4 g v w v1 w1) (h0:aH w0 w) (hg:w0.heap.size≤g) (hv:∀k,v.ownBlock=some k→w0.heap.size≤k):aH w0 w1:=
 h.mv.ext_from h0 fun k hk=>by
  rcases hk with rfl|hk
  ·exact hg
  ·exact hv k hk
end
end Go.Rl
namespace Go.Rl
open Go.RowKit Go.Proofs
theorem xX:az Tryz.prog 273:=⟨_,Tryz.func273,by kernel_rfl,rfl⟩
theorem rZ:az Tryz.prog 306:=⟨_,Tryz.func306,by kernel_rfl,rfl⟩
theorem fN:az Tryz.prog 249:=⟨_,Tryz.func249,by kernel_rfl,rfl⟩
theorem my:az Tryz.prog 248:=⟨_,Tryz.func248,by kernel_rfl,rfl⟩
theorem fO:az Tryz.prog 163:=⟨_,Tryz.func163,by kernel_rfl,rfl⟩
theorem gm:az Tryz.prog 96:=⟨_,Tryz.func96,by kernel_rfl,rfl⟩
theorem xY {w:World}:
 Calls Tryz.prog 273 #[] w (cA fun r w'=>aH w w'∧bH [1] r w'):=by
 refine enter Tryz.func273 J J J (aj (ae (aa J J (ar (ah (aj (ae ?_)))))))
 obtain⟨v1,w1,hr1,x1,o1,ob1⟩:=lw Tryz.underlying47 (w:=w) w.heap.size [1] (by simp) (Ng _)
 refine bN (vs:=[(0,ep (1))]) J J hr1 (aa J J (ar (ah (aD (aF J J ?_)))))
 exact⟨_,J,x1,o1.wds⟩
theorem r3 {w:World} {x:Nat} {v:Value} (hv:bH (lb x) v w):
 Calls Tryz.prog 306 #[v] w (cA fun r w'=>w=w'∧r=B (decide (x=1))):=by
 refine enter Tryz.func306 J J J ?_
 obtain⟨t,ht⟩:∃t,t=lb x:=⟨_,rfl⟩
 rw[←ht] at hv
 have h1:x=1↔t=[1]:=by rw[ht];exact HA.symm
 refine aj (ae (aa J J (ar (ah (aj (ae (ab J J (bn J J (bR MD hv) (ao J J J (aO) (ab J J (lx (fun h6=>?_) (fun h6=>?_))))))))))))
 ·refine an J (ab J J (an J ?_))
  obtain⟨a8,p8,q8⟩:=dN MD hv (i:=0) (by omega) .i64
  refine aE J J J (p8 _) (an J (ak J J (ai MF J q8) (an J (ao (v:=ep 1) J J J (lM) (aR J J J (aa J J (ar (ah (aD (aF J J ?_))))))))))
  exact⟨_,J,J,by
   first
   |exact congrArg B (decide_eq_false fun h=>h6 (by rw[h1.1 h];rfl)).symm
   |exact congrArg B (decide_eq_decide.2 (by
     rw[h1]
     obtain⟨y,rfl⟩:=List.length_eq_one_iff.1 (show t.length=1 by omega)
     simp))⟩
 ·refine bf J J J (bf J J J (bf J J J (bf J J J (aG J J J (aa J J (ar (ah (aD (aF J J ?_)))))))))
  exact⟨_,J,J,by
   first
   |exact congrArg B (decide_eq_false fun h=>h6 (by rw[h1.1 h];rfl)).symm
   |exact congrArg B (decide_eq_decide.2 (by
     rw[h1]
     obtain⟨y,rfl⟩:=List.length_eq_one_iff.1 (show t.length=1 by omega)
     simp))⟩
theorem fP {w:World} {b:Bool} {n m:List UInt32} {v:Value} (hv:aU b n m v w) (hl:m.length≤1099511627776):
 Calls Tryz.prog 249 #[v] w (cA fun r w'=>aH w w'∧bH (ud m) r w'):=by
 refine enter Tryz.func249 J J J (aj (ae ?_))
 obtain⟨g1,y1,z1,w1,hr1,x1,k1,n1,d1⟩:=rT hv
 refine mT J J hr1 (aa J J (ar (ah (aj (aj (ae (af J J (c6 (o:=2) MC J (by kernel_rfl) J) (ak J J (ai MD J (k1.cell (i:=2) J)) (aq oo J J (ov d1 hl) ?_)))))))))
 rintro v5 _ ⟨rfl,rfl⟩
 refine ao J J J (aO) (ar (ah (ci J (fun h6=>?_) (fun h6=>?_))))
 ·have h0:val m=0:=by
   rcases Np (val m) with h|h
   ·exact h
   ·have:=ol h
    omega
  refine aj (ae (aq (vs:=[]) xX J J (xY) ?_))
  rintro v7 w7 ⟨x7,b7⟩
  refine aa J J (ar (ah (aD (a0 (aF J J ?_)))))
  exact⟨_,J,(x1.trans x7),by unfold ud;rw[if_pos h0];exact b7⟩
 ·have h0:val m≠0:=fun h=>h6 (by rw[h];rfl)
  refine aA (ah (aj (ae (af J J (c6 (o:=2) MC J (by kernel_rfl) J) (ak J J (ai MD J (k1.cell (i:=2) J)) (aa J J (ar (ah (aD (aF J J ?_))))))))))
  exact⟨_,J,x1,by unfold ud;rw[if_neg h0];exact d1⟩
theorem vX {w:World} {s:Bool} {n d:List UInt32} {x y:Value} (hn:bH n x w) (hd:bH d y w) (hnl:n.length≤274877906944) (hdl:d.length≤274877906944) (hd0:0<val d):
 Calls Tryz.prog 248 #[B s,x,y] w (cA fun r w'=>aH w w'∧aU (vi s (val n)) (lb (val n/Nat.gcd (val n) (val d))) (xm (val n) (val d)) r w'):=by
 refine enter Tryz.func248 J J J ?_
 have hnn:=fM (c9 n)
 have hdd:=fM (c9 d)
 have hg0:=Eo (n:=val n) hd0
 refine aj (ae ?_)
 obtain⟨g6,w6,hr6,l6,x6,k6⟩:=pE (w:=w)
 refine mU J hr6 (ar (ah (aj (ae (ab J J (aq gM J J (gO (hn.ext x6) (by omega)) ?_))))))
 rintro v9 w9 ⟨x9,b9⟩
 refine aa J J (ar (ah (aj (aj (ae (ab J J (bn (r:=I ((lb (val n)).length:Int)) J J (bR MD b9) (ao J J J (aO) (ar (ah (ci J (fun h12=>?_) (fun h12=>?_))))))))))))
 ·have hn0:val n=0:=gl.1 (by omega)
  refine aj (ae (bV (vs:=[]) J J FL ?_))
  obtain⟨p,q,w3,hp,hs,q3,k3,n3,d3⟩:=(k6.ext (x9)).stR ⟨_,_,_,rfl⟩ ⟨_,_,_,rfl⟩ (aU.mk (b:=false) (bH.nil _) (bH.nil _))
  refine dH J J (hs) (ar (ah (aD (a0 (oy J J k3 MC J jL ?_)))))
  exact⟨_,J,((x6.trans x9)).of_new q3 l6,p,q,by rw[hn0];unfold vi;simp,by rw[hn0,Nat.zero_div];exact n3,by rw[hn0,Jz hd0];exact d3⟩
 ·have hn0:0<val n:=by
   rcases Np (val n) with h|h
   ·rw[h] at h12;simp[fG] at h12
   ·exact h
  have hcN:vi s (val n)=s:=by unfold vi;rw[decide_eq_true hn0,Bool.and_true]
  rw[hcN]
  refine aA (ah (aj (ae (ab J J (aq gM J J (gO (hd.ext (x6.trans x9)) (by omega)) ?_)))))
  rintro v15 w15 ⟨x15,b15⟩
  refine aa J J (ar (ah (aj (aj (ae (ab J J (aq rZ J J (r3 b15) ?_)))))))
  rintro v17 _ ⟨rfl,rfl⟩
  refine ar (ah (ci J (fun h17=>?_) (fun h17=>?_)))
  ·refine aj (ae (ab J J (ab J J ?_)))
   refine bV (vs:=[(0,B s),(1,v9)]) J J (FK b9.isS) ?_
   obtain⟨p,q,w3,hp,hs,q3,k3,n3,d3⟩:=(k6.ext ((x9.trans x15))).stR ⟨_,_,_,rfl⟩ ⟨_,_,_,rfl⟩ (aU.mk (b:=s) (b9.ext (x15)) (bH.nil _))
   refine dH J J (hs) (ar (ah (aD (a0 (oy J J k3 MC J jL ?_)))))
   exact⟨_,J,(((x6.trans x9).trans x15)).of_new q3 l6,p,q,J,by rw[h17,Nat.gcd_one_right,Nat.div_one];exact n3,by rw[h17,HB];exact d3⟩
  ·obtain⟨g,hg⟩:∃g,g=Nat.gcd (val n) (val d):=⟨_,rfl⟩
   rw[←hg] at hg0⊢
   have hgl:(lb g).length≤d.length:=Nb (j3 (by rw[hg];exact Nat.gcd_le_right _ hd0)) hdd
   refine aA (ah (aj (i3 (fun p:Value×Value=>[(0,B s),(1,p.1),(2,p.2),(6,.pointer (some ⟨g6,0,none⟩))]) (fun p w'=>aH w15 w'∧bH (lb (val n/g)) p.1 w'∧bH (lb (val d/g)) p.2 w') ?_ ?_)))
   ·refine aj (ae (ab J J (ab J J (aq FG J J ((by have:=FI (b9.ext x15) b15 (by omega) (by omega);rw[bk,bk] at this;exact this)) ?_))))
    rintro v23 w23 ⟨x23,b23⟩
    rw[←hg] at b23
    refine aa J J (ar (ah (aj (ae (ab J J (aq rZ J J (r3 b23) ?_))))))
    rintro v25 _ ⟨rfl,rfl⟩
    refine cC J J Jp (ar (ah (ci J (fun h26=>?_) (fun h26=>?_))))
    ·refine aj (ae (ab J J (ab J J (aq jJ J J ((by have:=jK (b9.ext (x15.trans x23)) b23 (by omega) (by omega) (by rw[bk];exact hg0);rw[bk,bk] at this;exact this)) ?_))))
     rintro v30 w30 ⟨x30,q1,s1,rfl,c1,e1⟩
     refine ab J J (aB J J (ey) (aB J J ez (aB J J eF (aa J J (ar (ah (ae (ab J J (ab J J (aq jJ J J ((by have:=jK (b15.ext (x23.trans x30)) (b23.ext x30) (by omega) (by omega) (by rw[bk];exact hg0);rw[bk,bk] at this;exact this)) ?_))))))))))
     rintro v37 w37 ⟨x37,q2,s2,rfl,c2,e2⟩
     refine ab J J (aB J J (ey) (aB J J ez (aB J J eF (aa J J (ar ?_)))))
     exact cW (q1,q2) ⟨J,J,J,J,trivial⟩ ⟨((x23.trans x30).trans x37),by first|exact(c1.ext x37)|(rw[show g=1 from Classical.byContradiction fun h=>h26 h,Nat.div_one];exact(c1.ext x37)),by first|exact c2|(rw[show g=1 from Classical.byContradiction fun h=>h26 h,Nat.div_one];exact c2)⟩
    ·refine aA ?_
     exact cW (v9,v15) ⟨J,J,J,J,trivial⟩ ⟨x23,by first|exact(b9.ext (x15.trans x23))|(rw[show g=1 from Classical.byContradiction fun h=>h26 h,Nat.div_one];exact(b9.ext (x15.trans x23))),by first|exact(b15.ext x23)|(rw[show g=1 from Classical.byContradiction fun h=>h26 h,Nat.div_one];exact(b15.ext x23))⟩
   rintro⟨v1,v2⟩ w8 ⟨x8,b1,b2⟩
   refine ah (aj (i3 (fun p:Value=>[(0,B s),(1,v1),(2,p),(6,.pointer (some ⟨g6,0,none⟩))]) (fun p w'=>w8=w'∧bH (xm (val n) (val d)) p w') ?_ ?_))
   ·refine aj (ae (ab J J (aq rZ J J (r3 b2) ?_)))
    rintro v42 _ ⟨rfl,rfl⟩
    refine ar (ah (ci J (fun h42=>?_) (fun h42=>?_)))
    ·refine ae (aa J J (ar ?_))
     exact cW (.slice none 0 0) ⟨J,J,J,J,trivial⟩ ⟨J,by unfold xm;rw[←hg];first|(rw[if_pos h42];exact bH.nil _)|(rw[if_neg h42];exact b2)⟩
    ·refine aA ?_
     exact cW (v2) ⟨J,J,J,J,trivial⟩ ⟨J,by unfold xm;rw[←hg];first|(rw[if_pos h42];exact bH.nil _)|(rw[if_neg h42];exact b2)⟩
   rintro v2' _ ⟨rfl,b2'⟩
   refine ah (aj (ae (ab J J (ab J J (ab J J (bV (vs:=[(0,B s),(1,v1),(2,v2')]) J J (vU b1.isS b2'.isS) ?_))))))
   obtain⟨p,q,w3,hp,hs,q3,k3,n3,d3⟩:=(k6.ext (((x9.trans x15).trans x8))).stR ⟨_,_,_,rfl⟩ ⟨_,_,_,rfl⟩ (aU.mk (b:=s) b1 b2')
   refine dH J J (hs) (ar (ah (aD (oy J J k3 MC J jL ?_))))
   exact⟨_,J,((((x6.trans x9).trans x15).trans x8)).of_new q3 l6,p,q,J,n3,d3⟩
theorem HK {m:List UInt32} (h:m.length≤137438953472):(ud m).length≤137438953472:=by
 unfold ud
 split
 ·simp
 ·exact h
theorem um {w:World} {b:Bool} {n m:List UInt32} {v:Value} (hv:aU b n m v w) (hnl:n.length≤137438953472) (hml:m.length≤137438953472):
 Calls Tryz.prog 163 #[v] w (cA fun r w'=>aH w w'∧aU (vi b (val n)) (lb (val n/Nat.gcd (val n) (val (ud m)))) (xm (val n) (val (ud m))) r w'):=by
 refine enter Tryz.func163 J J J (aj (ae ?_))
 obtain⟨g1,y1,z1,w1,hr1,x1,k1,n1,d1⟩:=rT hv
 refine mT J J hr1 ?_
 obtain⟨g2,w2,hr2,l2,x2,k2⟩:=pE (w:=w1)
 refine mU J hr2 (ar (ah (aj (bj 7 [2,9] (by kernel_rfl) (by kernel_rfl) (al J J (fun w hw=>c6 (o:=0) MC J (by kernel_rfl) J) (ap J J (fun w hw=>ai MH J (hw.cell_some (x2.cell_some (k1.cell (i:=0) J)))) (al J J (fun w hw=>c6 (o:=1) MC J (by kernel_rfl) J) (ap J J (fun w hw=>ai MD J (hw.cell_some (x2.cell_some (k1.cell (i:=1) J)))) (ap J J (fun w hw=>((k1.ext x2).ext hw).ldR) (bZ (S:=bH (ud m)) fN (bH.stable _) J (fun w hw=>by rintro _ rfl;exact fP (((aU.mk n1 d1).ext x2).ext hw) (by omega)) (bZ (S:=aU (vi b (val n)) (lb (val n/Nat.gcd (val n) (val (ud m)))) (xm (val n) (val (ud m)))) my (aU.stable _ _ _) J (fun w hw=>by rintro _ rfl _ rfl z hz;exact vX ((n1.ext x2).ext hw) hz (by omega) (by have:=HK hml;omega) (tD m)) (bA ?_))))))))))))
 rintro wg1 xg1 _ rfl vg9 b9
 obtain⟨p,q,w3,hp,hs,q3,k3,n3,d3⟩:=(k2.ext xg1).stR ⟨_,_,_,rfl⟩ ⟨_,_,_,rfl⟩ b9
 refine dH J J (hs) (ar (ah (aD (oy J J k3 MC J jL ?_))))
 exact⟨_,J,(((x1.trans x2).trans xg1)).of_new q3 (Nb x1.size l2),p,q,J,n3,d3⟩
theorem d6 {x y:Nat}:pn x y=0↔x=y:=by
 unfold pn
 split
 ·omega
 ·split<;>omega
theorem zz {b:Bool} {n:List UInt32}:rv b n []=decide (b=vi b (val n)∧n=lb (val n)):=by
 unfold rv
 rw[show val (ud [])=1 from rfl,Nat.gcd_one_right,Nat.div_one,HB]
 simp
theorem AX {w:World} {b:Bool} {n m:List UInt32} {v:Value} (hv:aU b n m v w) (hnl:n.length≤137438953472) (hml:m.length≤137438953472):
 Calls Tryz.prog 96 #[v] w (cA fun r w'=>aH w w'∧r=B (rv b n m)):=by
 refine enter Tryz.func96 J J J ?_
 obtain⟨b',hb'⟩:∃b',b'=vi b (val n):=⟨_,rfl⟩
 obtain⟨n',hn'⟩:∃n',n'=lb (val n/Nat.gcd (val n) (val (ud m))):=⟨_,rfl⟩
 obtain⟨m',hm'⟩:∃m',m'=xm (val n) (val (ud m)):=⟨_,rfl⟩
 have hrv:rv b n m=decide (b=b'∧n=n'∧m=m'):=by rw[hb',hn',hm'];rfl
 refine aj (ae ?_)
 obtain⟨g1,y1,z1,w1,hr1,x1,k1,n1,d1⟩:=rT hv
 refine mT J J hr1 (aa J J (ar (ah (aj (aj (ae (af J J (c6 (o:=2) MC J (by kernel_rfl) J) (ak J J (ai MD J (k1.cell (i:=2) J)) (bn J J (bR MD d1) (ao J J J (aO) (ar (ah (ci J (fun h7=>?_) (fun h7=>?_))))))))))))))
 ·have hm0:m=[]:=Nm (by omega)
  subst hm0
  refine aj ?_
  cases b
  ·refine ae (af J J (c6 (o:=1) MC J (by kernel_rfl) J) (ak J J (ai MD J (k1.cell (i:=1) J)) ?_))
   refine aq uh J J (ui n1) ?_
   rintro v10 _ ⟨rfl,rfl⟩
   refine ab J J (lx (fun h11=>?_) (fun h11=>?_))
   ·refine an J (af J J (c6 (o:=0) MC J (by kernel_rfl) J) (an J (ak J J (ai MH J (k1.cell (i:=0) J)) ?_)))
    refine an J (cC J J cn (an J (ab J J (bf J J J (bf J J J (bf J J J (bf J J J (an J (aR J J J (aR J J J (aa J J (ar (ah (aD (a0 (aF J J ?_))))))))))))))))
    exact⟨_,J,x1,by
     rw[zz]
     first
     |exact congrArg B (decide_eq_true ⟨rfl,h11.symm⟩).symm
     |exact congrArg B (decide_eq_false fun h=>h11 h.2.symm).symm
     |(have e:=@gl (val n)
       rw[h11] at e
       refine congrArg B (decide_eq_decide.2 ⟨fun h=>⟨(decide_eq_true (show 0<val n by omega)).symm,h11.symm⟩,fun h=>?_⟩)
       have:0<val n:=of_decide_eq_true h.1.symm
       omega)⟩
   ·refine bf J J J (bf J J J (bf J J J (bf J J J (dh J J J (dh J J J (dh J J J (dh J J J (bf J J J ?_))))))))
    refine aG J J J (aa J J (ar (ah (aD (a0 (aF J J ?_))))))
    exact⟨_,J,x1,by
     rw[zz]
     first
     |exact congrArg B (decide_eq_true ⟨rfl,h11.symm⟩).symm
     |exact congrArg B (decide_eq_false fun h=>h11 h.2.symm).symm
     |(have e:=@gl (val n)
       rw[h11] at e
       refine congrArg B (decide_eq_decide.2 ⟨fun h=>⟨(decide_eq_true (show 0<val n by omega)).symm,h11.symm⟩,fun h=>?_⟩)
       have:0<val n:=of_decide_eq_true h.1.symm
       omega)⟩
  ·refine ae (af J J (c6 (o:=1) MC J (by kernel_rfl) J) (ak J J (ai MD J (k1.cell (i:=1) J)) ?_))
   refine aq uh J J (ui n1) ?_
   rintro v10 _ ⟨rfl,rfl⟩
   refine ab J J (lx (fun h11=>?_) (fun h11=>?_))
   ·refine an J (af J J (c6 (o:=0) MC J (by kernel_rfl) J) (an J (ak J J (ai MH J (k1.cell (i:=0) J)) ?_)))
    refine an J (cC J J cn (an J (ab J J (an J (af J J (c6 (o:=1) MC J (by kernel_rfl) J) (an J (ak J J (ai MD J (k1.cell (i:=1) J)) (an J (bn J J (bR MD n1) (an J (ao J J J (bo) (an J (aG J J J (aR J J J (aa J J (ar (ah (aD (a0 (aF J J ?_))))))))))))))))))))
    exact⟨_,J,x1,by
     rw[zz]
     first
     |exact congrArg B (decide_eq_true ⟨rfl,h11.symm⟩).symm
     |exact congrArg B (decide_eq_false fun h=>h11 h.2.symm).symm
     |(have e:=@gl (val n)
       rw[h11] at e
       refine congrArg B (decide_eq_decide.2 ⟨fun h=>⟨(decide_eq_true (show 0<val n by omega)).symm,h11.symm⟩,fun h=>?_⟩)
       have:0<val n:=of_decide_eq_true h.1.symm
       omega)⟩
   ·refine bf J J J (bf J J J (bf J J J (bf J J J (dh J J J (dh J J J (dh J J J (dh J J J (bf J J J ?_))))))))
    refine aG J J J (aa J J (ar (ah (aD (a0 (aF J J ?_))))))
    exact⟨_,J,x1,by
     rw[zz]
     first
     |exact congrArg B (decide_eq_true ⟨rfl,h11.symm⟩).symm
     |exact congrArg B (decide_eq_false fun h=>h11 h.2.symm).symm
     |(have e:=@gl (val n)
       rw[h11] at e
       refine congrArg B (decide_eq_decide.2 ⟨fun h=>⟨(decide_eq_true (show 0<val n by omega)).symm,h11.symm⟩,fun h=>?_⟩)
       have:0<val n:=of_decide_eq_true h.1.symm
       omega)⟩
 ·refine aA (ah (aj (ae (ak J J (k1.ldR) (aq fO J J (um (aU.mk n1 d1) hnl hml) ?_)))))
  rintro v23 w23 ⟨x23,b23⟩
  rw[←hb',←hn',←hm'] at b23
  obtain⟨g3,w3,hr3,l3,x3,k3⟩:=pE (w:=w23)
  refine mU J hr3 ?_
  obtain⟨p,q,w4,hp,hs,q4,k4,n3,d3⟩:=k3.stR ⟨_,_,_,rfl⟩ ⟨_,_,_,rfl⟩ (b23.ext x3)
  refine dH J J (hs) ?_
  have x4:=(x23.trans x3).of_new q4 (Nb x23.size l3)
  refine ar (ah (aj (ae (af J J (c6 (o:=0) MC J (by kernel_rfl) J) (ak J J (ai MH J (x4.cell_some (k1.cell (i:=0) J))) (af J J (c6 (o:=0) MC J (by kernel_rfl) J) (ak J J (ai MH J (k4.cell (i:=0) J)) (ao J J J (vh MH) (ab J J (lx (fun h29=>?_) (fun h29=>?_)))))))))))
  ·refine an J (af J J (c6 (o:=1) MC J (by kernel_rfl) J) (an J (ak J J (ai MD J (x4.cell_some (k1.cell (i:=1) J))) ?_)))
   refine an J (bn J J (bR MD (n1.ext x4)) (an J (af J J (c6 (o:=1) MC J (by kernel_rfl) J) (an J (ak J J (ai MD J (k4.cell (i:=1) J)) (an J (bn J J (bR MD n3) (an J (ao J J J (aO) (aR J J J (ab J J (lx (fun h38=>?_) (fun h38=>?_)))))))))))))
   ·refine an J (af J J (c6 (o:=2) MC J (by kernel_rfl) J) (an J (ak J J (ai MD J (x4.cell_some (k1.cell (i:=2) J))) ?_)))
    refine an J (bn J J (bR MD (d1.ext x4)) (an J (af J J (c6 (o:=2) MC J (by kernel_rfl) J) (an J (ak J J (ai MD J (k4.cell (i:=2) J)) (an J (bn J J (bR MD d3) (an J (ao J J J (aO) (aR J J J (ab J J (lx (fun h47=>?_) (fun h47=>?_)))))))))))))
    ·refine an J (af J J (c6 (o:=1) MC J (by kernel_rfl) J) (an J (ak J J (ai MD J (x4.cell_some (k1.cell (i:=1) J))) ?_)))
     refine an J (af J J (c6 (o:=1) MC J (by kernel_rfl) J) (an J (ak J J (ai MD J (k4.cell (i:=1) J)) (an J (aq jr J J (js (n1.ext x4) n3) ?_)))))
     rintro v52 w52 ⟨x52,rfl⟩
     refine an J (ao J J J (aO) (aR J J J (ab J J (lx (fun h55=>?_) (fun h55=>?_)))))
     ·refine an J (af J J (c6 (o:=2) MC J (by kernel_rfl) J) (an J (ak J J (ai MD J ((x4.trans x52).cell_some (k1.cell (i:=2) J))) ?_)))
      refine an J (af J J (c6 (o:=2) MC J (by kernel_rfl) J) (an J (ak J J (ai MD J (x52.cell_some (k4.cell (i:=2) J))) (an J (aq jr J J (js (d1.ext (x4.trans x52)) (d3.ext x52)) ?_)))))
      rintro v60 w60 ⟨x60,rfl⟩
      refine an J (ao J J J (aO) (aR J J J (aa J J (ar (ah (aD (aF J J ?_)))))))
      exact⟨_,J,(((x1.trans x4).trans x52).trans x60),by
       rw[hrv]
       first
       |exact congrArg B (decide_eq_decide.2 ⟨fun h=>⟨h29,jM (by omega) (d6.1 h55),jM (by omega) (d6.1 h)⟩,fun h=>d6.2 (by rw[h.2.2])⟩)
       |exact congrArg B (decide_eq_false fun h=>h55 (d6.2 (by rw[h.2.1]))).symm
       |exact congrArg B (decide_eq_false fun h=>h47 (by rw[h.2.2])).symm
       |exact congrArg B (decide_eq_false fun h=>h38 (by rw[h.2.1])).symm
       |exact congrArg B (decide_eq_false fun h=>h29 h.1).symm⟩
     ·refine bf J J J (bf J J J (bf J J J (bf J J J (bf J J J (bf J J J (aG J J J (aa J J (ar (ah (aD (aF J J ?_)))))))))))
      exact⟨_,J,((x1.trans x4).trans x52),by
       rw[hrv]
       first
       |exact congrArg B (decide_eq_decide.2 ⟨fun h=>⟨h29,jM (by omega) (d6.1 h55),jM (by omega) (d6.1 h)⟩,fun h=>d6.2 (by rw[h.2.2])⟩)
       |exact congrArg B (decide_eq_false fun h=>h55 (d6.2 (by rw[h.2.1]))).symm
       |exact congrArg B (decide_eq_false fun h=>h47 (by rw[h.2.2])).symm
       |exact congrArg B (decide_eq_false fun h=>h38 (by rw[h.2.1])).symm
       |exact congrArg B (decide_eq_false fun h=>h29 h.1).symm⟩
    ·refine bf J J J (bf J J J (bf J J J (bf J J J (bf J J J (bf J J J (aG J J J (ab J J (bf J J J (bf J J J ?_)))))))))
     refine bf J J J (bf J J J (bf J J J (bf J J J (aG J J J (aa J J (ar (ah (aD (aF J J ?_)))))))))
     exact⟨_,J,(x1.trans x4),by
      rw[hrv]
      first
      |exact congrArg B (decide_eq_decide.2 ⟨fun h=>⟨h29,jM (by omega) (d6.1 h55),jM (by omega) (d6.1 h)⟩,fun h=>d6.2 (by rw[h.2.2])⟩)
      |exact congrArg B (decide_eq_false fun h=>h55 (d6.2 (by rw[h.2.1]))).symm
      |exact congrArg B (decide_eq_false fun h=>h47 (by rw[h.2.2])).symm
      |exact congrArg B (decide_eq_false fun h=>h38 (by rw[h.2.1])).symm
      |exact congrArg B (decide_eq_false fun h=>h29 h.1).symm⟩
   ·refine bf J J J (bf J J J (bf J J J (bf J J J (bf J J J (bf J J J (bf J J J (aG J J J (ab J J (bf J J J ?_)))))))))
    refine bf J J J (bf J J J (bf J J J (bf J J J (bf J J J (aG J J J (ab J J (bf J J J (bf J J J (bf J J J (bf J J J (bf J J J (bf J J J (aG J J J (aa J J (ar (ah (aD (aF J J ?_))))))))))))))))))
    exact⟨_,J,(x1.trans x4),by
     rw[hrv]
     first
     |exact congrArg B (decide_eq_decide.2 ⟨fun h=>⟨h29,jM (by omega) (d6.1 h55),jM (by omega) (d6.1 h)⟩,fun h=>d6.2 (by rw[h.2.2])⟩)
     |exact congrArg B (decide_eq_false fun h=>h55 (d6.2 (by rw[h.2.1]))).symm
     |exact congrArg B (decide_eq_false fun h=>h47 (by rw[h.2.2])).symm
     |exact congrArg B (decide_eq_false fun h=>h38 (by rw[h.2.1])).symm
     |exact congrArg B (decide_eq_false fun h=>h29 h.1).symm⟩
  ·refine bf J J J (bf J J J (bf J J J (bf J J J (bf J J J (bf J J J (bf J J J (aG J J J (ab J J (bf J J J ?_)))))))))
   refine bf J J J (bf J J J (bf J J J (bf J J J (bf J J J (bf J J J (aG J J J (ab J J (bf J J J (bf J J J (bf J J J (bf J J J (bf J J J (bf J J J (aG J J J (ab J J (bf J J J (bf J J J (bf J J J (bf J J J (bf J J J (bf J J J (aG J J J (aa J J (ar (ah (aD (aF J J ?_)))))))))))))))))))))))))))
   exact⟨_,J,(x1.trans x4),by
    rw[hrv]
    first
    |exact congrArg B (decide_eq_decide.2 ⟨fun h=>⟨h29,jM (by omega) (d6.1 h55),jM (by omega) (d6.1 h)⟩,fun h=>d6.2 (by rw[h.2.2])⟩)
    |exact congrArg B (decide_eq_false fun h=>h55 (d6.2 (by rw[h.2.1]))).symm
    |exact congrArg B (decide_eq_false fun h=>h47 (by rw[h.2.2])).symm
    |exact congrArg B (decide_eq_false fun h=>h38 (by rw[h.2.1])).symm
    |exact congrArg B (decide_eq_false fun h=>h29 h.1).symm⟩
end Go.Rl
namespace Go.Rl
open Go.RowKit Go.Proofs
theorem j5:az Tryz.prog 145:=⟨_,Tryz.func145,by kernel_rfl,rfl⟩
theorem oD:az Tryz.prog 147:=⟨_,Tryz.func147,by kernel_rfl,rfl⟩
theorem iH:az Tryz.prog 227:=⟨_,Tryz.func227,by kernel_rfl,rfl⟩
theorem mz:az Tryz.prog 60:=⟨_,Tryz.func60,by kernel_rfl,rfl⟩
theorem jt:az Tryz.prog 215:=⟨_,Tryz.func215,by kernel_rfl,rfl⟩
theorem j6 {w:World} {m:List UInt32} {v:Value} (hv:bH m v w) (hl:m.length≤137438953472):
 Calls Tryz.prog 145 #[v] w (cA fun r w'=>aH w w'∧bH (lb (val (ud m))) r w'):=by
 refine enter Tryz.func145 J J J ?_
 obtain⟨t,ht⟩:∃t,t=lb (val m):=⟨_,rfl⟩
 refine aj (ae (aa J J (ar (ah (aj (ae (ab J J (aq fz J J (fZ hv (by omega)) ?_))))))))
 rintro v5 w5 ⟨x5,b5⟩
 rw[←ht] at b5
 refine aa J J (ar (ah (aj (aj (ae (ab J J (bn J J (bR MD b5) (ao J J J (aO) (ar (ah (ci J (fun h8=>?_) (fun h8=>?_))))))))))))
 ·have h0:val m=0:=gl.1 (by rw[←ht];omega)
  refine aj (ae ?_)
  obtain⟨v9,w9,hr9,x9,o9,ob9⟩:=lw Tryz.underlying47 (w:=w5) w5.heap.size [1] (by simp) (Ng _)
  refine bN (vs:=[(0,ep (1))]) J J hr9 (aa J J (ar (ah (aD (a0 (aF J J ?_))))))
  exact⟨_,J,(x5.trans x9),by rw[rU,if_pos h0,zj];exact o9.wds⟩
 ·have h0:val m≠0:=fun h=>h8 (by rw[ht,h];rfl)
  refine aA (ah (aj (ae (ab J J (aa J J (ar (ah (aD (aF J J ?_)))))))))
  exact⟨_,J,x5,by rw[rU,if_neg h0,←ht];exact b5⟩
theorem vY {w:World} {s:Bool} {n d:List UInt32} {x y:Value} (hn:bH n x w) (hd:bH d y w) (hnl:n.length≤274877906944) (hdl:d.length≤274877906944) (hd0:0<val d):
 Calls Tryz.prog 147 #[B s,x,y] w (cA fun r w'=>aH w w'∧aU (vi s (val n)) (lb (val n/Nat.gcd (val n) (val d))) (xm (val n) (val d)) r w'):=by
 refine enter Tryz.func147 J J J ?_
 have hg0:=Eo (n:=val n) hd0
 obtain⟨g,hg⟩:∃g,g=Nat.gcd (val n) (val d):=⟨_,rfl⟩
 have hgl:(lb g).length≤d.length:=Nb (j3 (by rw[hg];exact Nat.gcd_le_right _ hd0)) (fM (c9 d))
 obtain⟨e,he⟩:∃e,e=lb (val d/g):=⟨_,rfl⟩
 obtain⟨a,ha⟩:∃a,a=lb (val n/g):=⟨_,rfl⟩
 have hc:decide ((a.length:Int)>0)=decide (0<val n):=by
  have e0:=@gl (val n/g)
  have e1:val n/g=0↔val n=0:=by
   rw[hg]
   constructor
   ·intro h
    have:=Nat.div_mul_cancel (Nat.gcd_dvd_left (val n) (val d))
    rw[h] at this;omega
   ·intro h
    rw[h,Nat.zero_div]
  rw[←ha] at e0
  exact decide_eq_decide.2 (by omega)
 have hq:xm (val n) (val d)=if e=[1] then[] else e:=by
  unfold xm
  rw[←hg]
  by_cases h1:val d/g=1
  ·rw[if_pos h1,if_pos (by rw[he,h1,zj])]
  ·rw[if_neg h1,if_neg (fun h=>h1 (HA.1 (he▸h))),he]
 rw[←hg] at hg0⊢
 rw[←ha]
 refine aj (ae ?_)
 obtain⟨g6,w6,hr6,l6,x6,k6⟩:=pE (w:=w)
 refine mU J hr6 (ar (ah (aj (ae (ab J J (ab J J (aq FF J J (FH (hn.ext x6) (hd.ext x6) hnl hdl) ?_)))))))
 rintro v16 w16 ⟨x16,b16⟩
 rw[←hg] at b16
 refine aa J J (ar (ah (aj (ae (ab J J (ab J J (aq ow J J ((by have:=ox (hn.ext (x6.trans x16)) b16 hnl (by omega) (by rw[bk];exact hg0);rw[bk,←ha] at this;exact this)) ?_)))))))
 rintro v20 w20 ⟨x20,q1,r1,rfl,s1,u1⟩
 refine ab J J (aB J J (ey) (aB J J ez (aB J J eF (aa J J (aa J J (aa J J (ar (ah (aj (ae (ab J J (ab J J (aq ow J J ((by have:=ox (hd.ext ((x6.trans x16).trans x20)) (b16.ext x20) hdl (by omega) (by rw[bk];exact hg0);rw[bk,←he] at this;exact this)) ?_)))))))))))))
 rintro v27 w27 ⟨x27,q2,r2,rfl,s2,u2⟩
 refine ab J J (aB J J (ey) (aB J J ez (aB J J eF (aa J J (aa J J (aa J J (ar (ah (aj (i3 (fun p:Value=>[(0,B s),(8,q1),(11,p),(6,.pointer (some ⟨g6,0,none⟩))]) (fun p w'=>w27=w'∧bH (xm (val n) (val d)) p w') ?_ ?_))))))))))
 ·refine aj (ae (ab J J (bn J J (bR MD s2) (ao J J J (aO) (ab J J ?_)))))
  refine lx (fun h34=>?_) (fun h34=>?_)
  ·refine an J (ab J J (an J ?_))
   obtain⟨a36,p36,q36⟩:=dN MD s2 (i:=0) (by omega) .i64
   refine aE J J J (p36 _) (an J (ak J J (ai MF J q36) (an J (ao (v:=ep 1) J J J (lM) (aR J J J (ar (ah (ci J (fun h39=>?_) (fun h39=>?_)))))))))
   ·refine ae (aa J J (ar ?_))
    exact cW (.slice none 0 0) ⟨J,J,J,J,trivial⟩ ⟨J,by
     rw[hq]
     first
     |(rw[if_pos (by
        obtain⟨y,rfl⟩:=List.length_eq_one_iff.1 (show e.length=1 by omega)
        simpa using h39)];exact bH.nil _)
     |(rw[if_neg (fun h=>by subst h;exact h39 rfl)];exact s2)
     |(rw[if_neg (fun h=>by subst h;exact h34 rfl)];exact s2)⟩
   ·refine aA ?_
    exact cW (q2) ⟨J,J,J,J,trivial⟩ ⟨J,by
     rw[hq]
     first
     |(rw[if_pos (by
        obtain⟨y,rfl⟩:=List.length_eq_one_iff.1 (show e.length=1 by omega)
        simpa using h39)];exact bH.nil _)
     |(rw[if_neg (fun h=>by subst h;exact h39 rfl)];exact s2)
     |(rw[if_neg (fun h=>by subst h;exact h34 rfl)];exact s2)⟩
  ·refine bf J J J (bf J J J (bf J J J (bf J J J (aG J J J (ar (ah (bU J (aA ?_))))))))
   exact cW (q2) ⟨J,J,J,J,trivial⟩ ⟨J,by
    rw[hq]
    first
    |(rw[if_pos (by
       obtain⟨y,rfl⟩:=List.length_eq_one_iff.1 (show e.length=1 by omega)
       simpa using h39)];exact bH.nil _)
    |(rw[if_neg (fun h=>by subst h;exact h39 rfl)];exact s2)
    |(rw[if_neg (fun h=>by subst h;exact h34 rfl)];exact s2)⟩
 rintro v11 _ ⟨rfl,b11⟩
 refine ah (aj ?_)
 cases s
 ·refine ae (ab J J (ab J J (bf J J J (bf J J J (bf J J J (aG J J J (ab J J (ab J J ?_))))))))
  refine bV (vs:=[(0,B (vi false (val n))),(1,q1),(2,v11)]) J J (vU s1.isS b11.isS) ?_
  obtain⟨p,q,w3,hp,hs,q3,k3,n3,d3⟩:=(k6.ext (((x16.trans x20).trans x27))).stR ⟨_,_,_,rfl⟩ ⟨_,_,_,rfl⟩ (aU.mk (b:=vi false (val n)) (s1.ext x27) b11)
  refine dH J J (hs) (ar (ah (aD (oy J J k3 MC J jL ?_))))
  exact⟨_,J,((((x6.trans x16).trans x20).trans x27)).of_new q3 l6,p,q,J,n3,d3⟩
 ·refine ae (ab J J (ab J J (an J (ab J J (an J (bn J J (bR MD (s1.ext x27)) (an J (ao J J J (bo) ?_))))))))
  rw[hc]
  refine aR J J J (ab J J (ab J J (bV (vs:=[(0,B (vi true (val n))),(1,q1),(2,v11)]) J J (vU s1.isS b11.isS) ?_)))
  obtain⟨p,q,w3,hp,hs,q3,k3,n3,d3⟩:=(k6.ext (((x16.trans x20).trans x27))).stR ⟨_,_,_,rfl⟩ ⟨_,_,_,rfl⟩ (aU.mk (b:=vi true (val n)) (s1.ext x27) b11)
  refine dH J J (hs) (ar (ah (aD (oy J J k3 MC J jL ?_))))
  exact⟨_,J,((((x6.trans x16).trans x20).trans x27)).of_new q3 l6,p,q,J,n3,d3⟩
theorem uo {w:World} {b:Bool} {n m:List UInt32} {v:Value} (hv:aU b n m v w) (hnl:n.length≤137438953472) (hml:m.length≤137438953472):
 Calls Tryz.prog 227 #[v] w (cA fun r w'=>aH w w'∧aU (vi b (val n)) (lb (val n/Nat.gcd (val n) (val (ud m)))) (xm (val n) (val (ud m))) r w'):=by
 refine enter Tryz.func227 J J J ?_
 have hu:(lb (val (ud m))).length≤137438953472:=Nb (fM (c9 _)) (HK hml)
 refine aj (ae ?_)
 obtain⟨g1,y1,z1,w1,hr1,x1,k1,n1,d1⟩:=rT hv
 refine mT J J hr1 ?_
 obtain⟨g2,w2,hr2,l2,x2,k2⟩:=pE (w:=w1)
 refine mU J hr2 (ar (ah (aj (bj 8 [2,10] (by kernel_rfl) (by kernel_rfl) (al J J (fun w hw=>c6 (o:=0) MC J (by kernel_rfl) J) (ap J J (fun w hw=>ai MH J (hw.cell_some (x2.cell_some (k1.cell (i:=0) J)))) (al J J (fun w hw=>c6 (o:=1) MC J (by kernel_rfl) J) (ap J J (fun w hw=>ai MD J (hw.cell_some (x2.cell_some (k1.cell (i:=1) J)))) (al J J (fun w hw=>c6 (o:=2) MC J (by kernel_rfl) J) (ap J J (fun w hw=>ai MD J (hw.cell_some (x2.cell_some (k1.cell (i:=2) J)))) (bZ (S:=bH (lb (val (ud m)))) j5 (bH.stable _) J (fun w hw=>by rintro _ rfl;exact j6 ((d1.ext x2).ext hw) hml) (bZ (S:=aU (vi b (val n)) (lb (val n/Nat.gcd (val n) (val (ud m)))) (xm (val n) (val (ud m)))) oD (aU.stable _ _ _) J (fun w hw=>by rintro _ rfl _ rfl z hz;have:=vY (s:=b) ((n1.ext x2).ext hw) hz (by omega) (by omega) (by rw[bk];exact tD m);rw[bk] at this;exact this) (bA ?_)))))))))))))
 rintro wg1 xg1 _ rfl vg10 b9
 obtain⟨p,q,w3,hp,hs,q3,k3,n3,d3⟩:=(k2.ext xg1).stR ⟨_,_,_,rfl⟩ ⟨_,_,_,rfl⟩ b9
 refine dH J J (hs) (ar (ah (aD (oy J J k3 MC J jL ?_))))
 exact⟨_,J,(((x1.trans x2).trans xg1)).of_new q3 (Nb x1.size l2),p,q,J,n3,d3⟩
theorem vZ {w:World} {a b:Bool} {n m p q:List UInt32} {v u:Value} (hv:aU a n m v w) (hu:aU b p q u w):
 Calls Tryz.prog 60 #[v,u] w (cA fun r w'=>aH w w'∧r=B (decide (a=b∧n=p∧m=q))):=by
 refine enter Tryz.func60 J J J (aj (ae ?_))
 obtain⟨g2,y2,z2,w2,hr2,x2,k2,n2,d2⟩:=rT hv
 refine mT J J hr2 ?_
 obtain⟨g3,y3,z3,w3,hr3,x3,k3,n3,d3⟩:=rT (hu.ext x2)
 refine mT J J hr3 (aa J J (ar (ah (aj (ae (af J J (c6 (o:=0) MC J (by kernel_rfl) J) (ak J J (ai MH J (x3.cell_some (k2.cell (i:=0) J))) (af J J (c6 (o:=0) MC J (by kernel_rfl) J) (ak J J (ai MH J (k3.cell (i:=0) J)) (ao J J J (vh MH) (ab J J (lx (fun h10=>?_) (fun h10=>?_)))))))))))))
 ·refine an J (af J J (c6 (o:=1) MC J (by kernel_rfl) J) (an J (ak J J (ai MD J (x3.cell_some (k2.cell (i:=1) J))) ?_)))
  refine an J (af J J (c6 (o:=1) MC J (by kernel_rfl) J) (an J (ak J J (ai MD J (k3.cell (i:=1) J)) (an J (aq vQ J J (vR (n2.ext x3) n3) ?_)))))
  rintro v15 w15 ⟨x15,rfl⟩
  refine aR J J J (ab J J (lx (fun h17=>?_) (fun h17=>?_)))
  ·refine an J (af J J (c6 (o:=2) MC J (by kernel_rfl) J) (an J (ak J J (ai MD J ((x3.trans x15).cell_some (k2.cell (i:=2) J))) ?_)))
   refine an J (af J J (c6 (o:=2) MC J (by kernel_rfl) J) (an J (ak J J (ai MD J (x15.cell_some (k3.cell (i:=2) J))) (an J (aq vQ J J (vR (d2.ext (x3.trans x15)) (d3.ext x15)) ?_)))))
   rintro v22 w22 ⟨x22,rfl⟩
   refine aR J J J (aa J J (ar (ah (aD (aF J J ?_)))))
   exact⟨_,J,(((x2.trans x3).trans x15).trans x22),by
    first
    |exact congrArg B (decide_eq_decide.2 ⟨fun h=>⟨h10,h17,h⟩,fun h=>h.2.2⟩)
    |exact congrArg B (decide_eq_false fun h=>h17 h.2.1).symm
    |exact congrArg B (decide_eq_false fun h=>h10 h.1).symm⟩
  ·refine bf J J J (bf J J J (bf J J J (bf J J J (bf J J J (aG J J J (aa J J (ar (ah (aD (aF J J ?_))))))))))
   exact⟨_,J,((x2.trans x3).trans x15),by
    first
    |exact congrArg B (decide_eq_decide.2 ⟨fun h=>⟨h10,h17,h⟩,fun h=>h.2.2⟩)
    |exact congrArg B (decide_eq_false fun h=>h17 h.2.1).symm
    |exact congrArg B (decide_eq_false fun h=>h10 h.1).symm⟩
 ·refine bf J J J (bf J J J (bf J J J (bf J J J (bf J J J (aG J J J (ab J J (bf J J J (bf J J J (bf J J J ?_)))))))))
  refine bf J J J (bf J J J (aG J J J (aa J J (ar (ah (aD (aF J J ?_)))))))
  exact⟨_,J,(x2.trans x3),by
   first
   |exact congrArg B (decide_eq_decide.2 ⟨fun h=>⟨h10,h17,h⟩,fun h=>h.2.2⟩)
   |exact congrArg B (decide_eq_false fun h=>h17 h.2.1).symm
   |exact congrArg B (decide_eq_false fun h=>h10 h.1).symm⟩
theorem AY {w:World} {b:Bool} {n m:List UInt32} {v:Value} (hv:aU b n m v w) (hnl:n.length≤137438953472) (hml:m.length≤137438953472):
 Calls Tryz.prog 215 #[v] w (cA fun r w'=>aH w w'∧r=B (rv b n m)):=by
 refine enter Tryz.func215 J J J (aj (ae ?_))
 obtain⟨g1,y1,z1,w1,hr1,x1,k1,n1,d1⟩:=rT hv
 refine mT J J hr1 (aa J J (ar (ah (aj (bj 4 [6] (by kernel_rfl) (by kernel_rfl) (ap J J (fun w hw=>(k1.ext hw).ldR) (ap J J (fun w hw=>(k1.ext hw).ldR) (bZ (S:=aU (vi b (val n)) (lb (val n/Nat.gcd (val n) (val (ud m)))) (xm (val n) (val (ud m)))) iH (aU.stable _ _ _) J (fun w hw=>by rintro _ rfl;exact uo ((aU.mk n1 d1).ext hw) hnl hml) (bZ (S:=Is (B (rv b n m))) mz (bi.is _) J (fun w hw=>by rintro _ rfl z hz;exact vZ ((aU.mk n1 d1).ext hw) hz) (bA ?_))))))))))
 rintro wg1 xg1 _ rfl
 refine aa J J (ar (ah (aD (aF J J ?_))))
 exact⟨_,J,(x1.trans xg1),J⟩
end Go.Rl
namespace Go.Rl
open Go.RowKit Go.Proofs
end Go.Rl
namespace Go.Rl
open Go.RowKit Go.Proofs
structure Kp (w w':World):Prop where
 size:w.heap.size≤w'.heap.size
 bts:∀{l:List UInt8} {v:Value},lP l v w→lP l v w'
 wds:∀{l:List UInt32} {v:Value},bH l v w→bH l v w'
theorem Kp.of_ext {w w':World} (h:aH w w'):Kp w w':=⟨h.size,fun b=>b.ext h,fun b=>b.ext h⟩
theorem Kp.refl (w:World):Kp w w:=.of_ext (aH.refl w)
theorem Kp.trans {a b c:World} (h:Kp a b) (k:Kp b c):Kp a c:=⟨Nb h.size k.size,fun x=>k.bts (h.bts x),fun x=>k.wds (h.wds x)⟩
theorem lP.kp {w w':World} {l:List UInt8} {v:Value} (h:lP l v w) (k:Kp w w'):lP l v w':=k.bts h
theorem bH.kp {w w':World} {l:List UInt32} {v:Value} (h:bH l v w) (k:Kp w w'):bH l v w':=k.wds h
theorem aU.kp {w w':World} {b:Bool} {n m:List UInt32} {v:Value} (h:aU b n m v w) (k:Kp w w'):aU b n m v w':=by
 obtain⟨x,y,rfl,h1,h2⟩:=h
 exact⟨x,y,J,h1.kp k,h2.kp k⟩
def AE (T:TypeId) (g:Nat) (st:Option (List UInt8)) (w:World):Prop:=∃A n c,dE g T [.slice A n c,B st.isNone] w∧lP (st.getD []) (.slice A n c) w∧L4 A g
theorem zi.rdT {g:Nat} {st:Option (List UInt8)} {w:World} (h:zi g st w):AE 184 g st w:=h
theorem AE.rdAt {g:Nat} {st:Option (List UInt8)} {w:World} (h:AE 184 g st w):zi g st w:=h
section
variable {T:TypeId} {g:Nat} {st:Option (List UInt8)} {w w':World}
theorem AE.ext (h:AE T g st w) (hx:aH w w'):AE T g st w':=by
 obtain⟨A,n,c,h1,h2,h3⟩:=h
 exact⟨A,n,c,h1.ext hx,h2.ext hx,h3⟩
theorem FP (A:Option Addr) (n c:Nat) (b:Bool) (l:List UInt32):∀(j:Nat) (u:Value),u∈l.map ep→(#[.slice A n c,.bool b]:Array Value)[j]? ≠some u:=by
 intro j u hu
 obtain⟨x,_,rfl⟩:=List.mem_map.1 hu
 match j with
 |0=>simp[ep]
 |1=>simp[ep]
 |j+2=>simp
theorem AE.kp (hr:AE T g st w) (hw:w.grownBy w' (some g)):Kp w w':=by
 obtain⟨A,n,c,h1,_⟩:=hr
 exact⟨hw.size,fun h=>Sl.keep h h1 (FJ A n c _ _) hw,fun h=>Sl.keep h h1 (FP A n c _ _) hw⟩
theorem AE.other {T':TypeId} {g':Nat} {s:Option (List UInt8)} (h:AE T' g' s w) (hr:AE T g st w) (hw:w.grownBy w' (some g)) (hne:g'≠g):AE T' g' s w':=by
 obtain⟨A,n,c,h1,h2,h3⟩:=h
 exact⟨A,n,c,h1.other hw (fun e=>hne (Nc e)),h2.kp (hr.kp hw),h3⟩
end
theorem AE.off {T:TypeId} {g g':Nat} {st:Option (List UInt8)} {w w':World} (h:AE T g st w) (k:Kp w w') (hw:w.grownBy w' (some g')) (hne:g≠g'):AE T g st w':=by
 obtain⟨A,n,c,h1,h2,h3⟩:=h
 exact⟨A,n,c,h1.other hw (fun e=>hne (Nc e)),h2.kp k,h3⟩
def w4 (a b c d:UInt8):UInt32:=UInt32.ofNat (a.toNat+256*b.toNat+65536*c.toNat+16777216*d.toNat)
end Go.Rl
namespace Go.Rl
open Go.RowKit Go.Proofs
theorem zi.lt {w:World} {g:Nat} {st:Option (List UInt8)} (h:zi g st w):g<w.heap.size:=by
 obtain⟨A,n,c,h1,_⟩:=h
 exact dE.lt h1
end Go.Rl
namespace Go.Rl
open Go.RowKit Go.Proofs
section
variable {w w':World} {g h:Nat} {T:TypeId} {st:Option (List UInt8)} {p:Option Addr} {b:Bool}
structure FQ (T:TypeId) (h g:Nat) (st:Option (List UInt8)) (w:World):Prop where
 blk:dE h T [.pointer (some ⟨g,0,none⟩),B st.isSome] w
 rd:zi g st w
 ne:h≠g
theorem AE.mv {X:Nat→Prop} (h:AE T g st w) (hm:Mv X w w') (hX:∀k,X k→g<k):AE T g st w':=by
 obtain⟨A,n,c,h1,h2,h3⟩:=h
 refine⟨A,n,c,hm.blk h1 fun hx=>Nat.lt_irrefl _ (hX g hx),?_,h3⟩
 obtain⟨A',n',c',he,h4,h5,h6,h7,h8⟩:=h2
 cases he
 refine⟨_,_,_,J,h4,h5,h6,fun hn=>?_,h8⟩
 obtain⟨ad,rfl,hc⟩:=h7 hn
 refine⟨ad,J,hm.cells hc fun _ hx=>?_⟩
 have:=hX _ hx
 have:=h3 ad rfl
 omega
theorem FQ.mv {X:Nat→Prop} (hm:FQ T h g st w) (hv:Mv X w w') (hX:∀k,X k→g<k∧h<k):FQ T h g st w':=
 ⟨hv.blk hm.blk fun hx=>Nat.lt_irrefl _ (hX h hx).2,(hm.rd.rdT.mv hv fun k hk=>(hX k hk).1).rdAt,hm.ne⟩
theorem FQ.ext (hm:FQ T h g st w) (hx:aH w w'):FQ T h g st w':=⟨hm.blk.ext hx,hm.rd.ext hx,hm.ne⟩
end
end Go.Rl
namespace Go.Rl
open Go.RowKit Go.Proofs
theorem we (off:Nat):∀(cs:List Value) (k:Nat) (p q r:List Value),p.length=off+k→q.length=cs.length→
 (cs.zipIdx k).foldl (fun(a:Array Value) (x:Value×Nat)=>a.setIfInBounds (off+x.2) x.1) (p++q++r).toArray=(p++cs++r).toArray
 |[],k,p,q,r,_,hq=>by
  have:q=[]:=Nm (by simpa using hq)
  subst this
  rfl
 |c::cs,k,p,q,r,hp,hq=>by
  cases q with
  |nil=>simp at hq
  |cons q0 q=>
   simp only[List.zipIdx_cons,List.foldl_cons]
   have e:((p++q0::q++r).toArray).setIfInBounds (off+k) c=((p++[c])++q++r).toArray:=by
    simp[←hp]
   rw[e,we off cs (k+1) (p++[c]) q r (by simp;omega) (by simpa using hq)]
   simp
theorem sM {sz:Nat}:∀(vs:List (List Value)) (k:Nat) (a b:List Value),(∀v∈vs,v.length=sz)→a.length=k*sz→b.length=vs.length*sz→
 Instr.fill (fun i=>some (i*sz,sz)) (a++b).toArray (fF k (vs.map fun v=>Value.agg v.toArray))=some (a++vs.flatten).toArray
 |[],k,a,b,_,_,hb=>by
  have:b=[]:=Nm (by simpa using hb)
  subst this
  rfl
 |v::vs,k,a,b,hv,ha,hb=>by
  have hvl:=hv v (by simp)
  have hbl:b.length=sz+vs.length*sz:=by rw[hb,List.length_cons,Nat.add_mul];omega
  have hc:((Value.agg v.toArray).cells.size≠sz||decide (k*sz+(Value.agg v.toArray).cells.size>(a++b).toArray.size))=false:=by
   simp[Value.cells,hvl,ha,hbl]
  have hz:(Value.agg v.toArray).cells.zipIdx.foldl (fun(cs:Array Value) (x:Value×Nat)=>cs.setIfInBounds (k*sz+x.2) x.1) (a++b).toArray=((a++v)++b.drop sz).toArray:=by
   have h:=we (k*sz) v 0 a (b.take sz) (b.drop sz) (by omega) (by rw[List.length_take];omega)
   rw[List.append_assoc,List.take_append_drop] at h
   rw[←h]
   simp[Value.cells]
  simp only[List.map_cons,fF,Instr.fill]
  rw[hc]
  have ih:=sM vs (k+1) (a++v) (b.drop sz) (fun u hu=>hv u (by simp[hu])) (by rw[List.length_append,ha,hvl,Nat.add_mul];omega) (by rw[List.length_drop,hbl];omega)
  simp only[Bool.false_eq_true,if_false]
  rw[hz,ih]
  simp
theorem Kx {P:Program} {w:World} {t e:TypeId} {z:Value} {sz:Nat} (ht:P.underlying t=some (.slice e)) (hi:(P.info? e).map (fun i=>(i.zero,i.size))=some (some z,sz)) (hz:z.cells.size=sz) (h0:0<sz)
 (vs:List (List Value)) (hv:∀v∈vs,v.length=sz) (hn:0<vs.length) (hl:vs.length*sz≤16777216):
 ∃r w',(Instr.buildSlice t vs.length (fF 0 (vs.map fun v=>Value.agg v.toArray)).toArray).run P w=.ok r w'∧aH w w'∧Sl sz vs.flatten r w'∧r.ownBlock=some w.heap.size:=by
 obtain⟨i,hi',h2⟩:=Option.map_eq_some_iff.1 hi
 simp only[Prod.mk.injEq] at h2
 obtain⟨hz0,hs⟩:=h2
 have hfl:vs.flatten.length=vs.length*sz:=by
  rw[List.length_flatten]
  have:∀l:List (List Value),(∀v∈l,v.length=sz)→(l.map List.length).sum=l.length*sz:=by
   intro l
   induction l with
   |nil=>intro _;simp
   |cons a l ih=>intro h;simp only[List.map_cons,List.sum_cons,List.length_cons,h a (by simp),ih fun v hv=>h v (by simp[hv]),Nat.add_mul];omega
  exact this vs hv
 have hf:∀Z:Array Value,Z.size=vs.length*sz→Instr.fill (fun i=>some (i*sz,sz)) Z (fF 0 (vs.map fun v=>Value.agg v.toArray))=some vs.flatten.toArray:=fun Z hZ=>by
  have:=sM vs 0 [] Z.toList hv (by simp) (by simpa using hZ)
  simpa using this
 have hle:¬(vs.length*sz>2^24):=by omega
 have hinfo:(typeInfo e).run P w=.ok i w:=by simp[typeInfo,hi']
 have hsz:(sizeOf e).run P w=.ok sz w:=by simp[sizeOf,hinfo,hs]
 have hzv:(zeroValue e).run P w=.ok z w:=by simp[zeroValue,hinfo,hz0]
 have hpos:0<vs.length*sz:=Nat.mul_pos hn h0
 refine⟨.slice (some ⟨w.heap.size,0,none⟩) vs.length vs.length,w.alloc (.cells vs.flatten.toArray e),?_,aH.new w _,?_,J⟩
 ·simp only[Instr.buildSlice,Sem.run_bind,run_underlying ht,Result.andThen_ok,hsz,if_neg hle]
  rw[if_neg (by omega)]
  simp only[Sem.run_bind,Sem.run_pure,Result.andThen_ok,hzv]
  rw[hf _ (by simp[hz,Nat.mul_comm])]
  simp[newRow]
 ·have hg:=heap_alloc_new w (.cells vs.flatten.toArray e)
  refine⟨_,_,_,J,Ng _,by unfold maxLen;have:vs.length≤vs.length*sz:=Nat.le_mul_of_pos_right _ h0;omega,hfl,fun _=>⟨_,J,fun j u hu=>?_⟩,fun h=>by cases h⟩
  rw[Addr.add_mid,Nat.zero_add,cell_of_row _ _ j _ _ _ hg]
  simpa using hu
end Go.Rl
namespace Go.Rl
open Go.RowKit Go.Proofs
section
variable {α:Type} {f:α→Dt} {l:List α} {v x:Value} {w w':World} {e t ty:TypeId} {sz base:Nat}
def HL (e:TypeId) (sz base:Nat) (f:α→Dt) (l:List α) (v:Value) (w:World):Prop:=∃n xs,w.ownsRow base e sz v n xs∧cG (fun k=>k<base∨v.ownBlock=some k) w (l.map f) xs
theorem HL.lt (h:HL e sz base f l v w):∀k,v.ownBlock=some k→base≤k∧k<w.heap.size:=fun k hk=>by
 obtain⟨n,xs,h,_⟩:=h
 exact World.ownsRow.lt h k hk
theorem HL.mv {X:Nat→Prop} (h:HL e sz base f l v w) (hm:Mv X w w') (hX:∀k,X k→k<base):HL e sz base f l v w':=by
 obtain⟨n,xs,h1,h2⟩:=h
 refine⟨n,xs,⟨h1.1,?_⟩,cG.mv (hm.weak fun k hk _=>.inl (hX k hk)) (fun k hk=>.inl hk) h2⟩
 rcases h1.2 with h3|⟨g,cap,cur,rfl,h3,h4,h5⟩
 ·exact .inl h3
 ·refine .inr ⟨g,cap,cur,J,h3,?_,h5⟩
  rw[hm.keep g (Array.getElem?_eq_some_iff.1 h4).1 fun hx=>by have:=hX g hx;omega]
  exact h4
end
end Go.Rl
namespace Go.Rl
open Go.RowKit Go.Proofs
theorem am.append {a b:List Value} (h:am a) (k:am b):am (a++b):=fun v hv=>(List.mem_append.1 hv).elim (h v) (k v)
mutual
theorem JE {w:World}:∀{d:Dt} {cs:List Value},Rp w d cs→am cs
 |.int k n,cs,h=>by simp only[Rp] at h;subst h;exact am.cons rfl am.nil
 |.bool b,cs,h=>by simp only[Rp] at h;subst h;exact am.cons rfl am.nil
 |.str l,cs,h=>by simp only[Rp] at h;subst h;exact am.cons rfl am.nil
 |.sl l,cs,h=>by
  simp only[Rp] at h
  obtain⟨A,n,c,rfl,_⟩:=h
  exact am.cons J am.nil
 |.st l,cs,h=>by simp only[Rp] at h;exact r4 h
theorem r4 {w:World}:∀{l:List Dt} {cs:List Value},bm w l cs→am cs
 |[],cs,h=>by simp only[bm] at h;subst h;exact am.nil
 |d::l,cs,h=>by
  simp only[bm] at h
  obtain⟨c1,c2,rfl,h1,h2⟩:=h
  exact(JE h1).append (r4 h2)
end
section
variable {α:Type} {f:α→Dt} {l m:List α} {v x:Value} {w w0 w':World} {e t ty:TypeId} {sz base:Nat}
def CH (e:TypeId) (sz base:Nat) (f:α→Dt) (l:List α) (v:Value) (w:World):Prop:=∃n xs,w.ownsRow base e sz v n xs∧cG (fun k=>v.ownBlock=some k) w (l.map f) xs
theorem CH.lt (h:CH e sz base f l v w):∀k,v.ownBlock=some k→base≤k∧k<w.heap.size:=fun k hk=>by
 obtain⟨n,xs,h,_⟩:=h
 exact World.ownsRow.lt h k hk
theorem CH.ext (h:CH e sz base f l v w) (hx:aH w w'):CH e sz base f l v w':=by
 obtain⟨n,xs,h1,h2⟩:=h
 exact⟨n,xs,jp h1 hx,h2.ext hx⟩
theorem CH.stable:bi (CH e sz base f l):=fun _ _ _ h hx=>h.ext hx
end
end Go.Rl
namespace Go.Rl
open Go.RowKit Go.Proofs
section
variable {α:Type} {f:α→Dt} {l m:List α} {v x:Value} {w w0 w':World} {e t ty:TypeId} {sz base:Nat} {X Y Z:Nat→Prop}
def kH (e:TypeId) (sz base:Nat) (X:Nat→Prop) (f:α→Dt) (l:List α) (v:Value) (w:World):Prop:=∃n xs,w.ownsRow base e sz v n xs∧cG (fun k=>X k∨v.ownBlock=some k) w (l.map f) xs
theorem kH.nil (w:World):kH e sz base X f ([]:List α) (.slice none 0 0) w:=⟨0,[],World.ownsRow_nil _ _ _ _,cG.nil⟩
theorem kH.lt (h:kH e sz base X f l v w):∀k,v.ownBlock=some k→base≤k∧k<w.heap.size:=fun k hk=>by
 obtain⟨n,xs,h,_⟩:=h
 exact World.ownsRow.lt h k hk
theorem kH.isS (h:kH e sz base X f l v w):∃A n c,v=.slice A n c:=by
 obtain⟨n,xs,⟨_,h|⟨g,cap,cur,rfl,_⟩⟩,_⟩:=h
 ·exact⟨_,_,_,h.1⟩
 ·exact⟨_,_,_,J⟩
theorem kH.one (h:kH e sz base X f l v w):v.oneCell'=true:=by obtain⟨_,_,_,rfl⟩:=h.isS;rfl
theorem kH.rpx (h:kH e sz base X f l v w) (hs:∀a,(f a).size=sz) (h0:0<sz) (hY:∀k,Y k→X k) (hne:∀k,v.ownBlock=some k→¬Y k):mw Y w (.sl (l.map f)) [v]:=by
 obtain⟨n,xs,h1,h2⟩:=h
 exact mw.ofOwn h1 (h2.weak fun k hk=>.inl (.inl (hY k hk))) (by simp[hs]) h0 hne
theorem kH.ext (h:kH e sz base X f l v w) (hx:aH w w'):kH e sz base X f l v w':=by
 obtain⟨n,xs,h1,h2⟩:=h
 exact⟨n,xs,jp h1 hx,h2.ext hx⟩
theorem kH.stable:bi (kH e sz base X f l):=fun _ _ _ h hx=>h.ext hx
theorem kH.mv (h:kH e sz base X f l v w) (hm:Mv Z w w') (hZ:∀k,Z k→X k) (hne:∀k,v.ownBlock=some k→¬Z k):kH e sz base X f l v w':=by
 obtain⟨n,xs,h1,h2⟩:=h
 refine⟨n,xs,⟨h1.1,?_⟩,cG.mv (hm.weak fun k hk _=>.inl (hZ k hk)) (fun k hk=>.inl hk) h2⟩
 rcases h1.2 with h3|⟨g,cap,cur,rfl,h3,h4,h5⟩
 ·exact .inl h3
 ·refine .inr ⟨g,cap,cur,J,h3,?_,h5⟩
  rw[hm.keep g (Array.getElem?_eq_some_iff.1 h4).1 (hne g rfl)]
  exact h4
theorem kH.weak (h:kH e sz base X f l v w) (hY:∀k,Y k→X k∨w.heap.size≤k):kH e sz base Y f l v w:=by
 obtain⟨n,xs,h1,h2⟩:=h
 exact⟨n,xs,h1,h2.weak fun k hk=>hk.elim (fun h=>(hY k h).imp .inl id) fun h=>.inl (.inr h)⟩
theorem kH.app {P:Program} {z:Value} {bytes:Nat} (ht:P.underlying t=some (.slice e)) (hi:(P.info? e).map (fun i=>(i.zero,i.size,i.bytes))=some (some z,sz,bytes)) (hzs:z.cells.size=sz) (hsz:0<sz) (hb0:0<bytes)
 (h:kH e sz base X f l v w) {cs:List Value} (hx:Sl sz cs x w) (h1:am cs) (ha:cG (fun k=>X k∨v.ownBlock=some k) w (m.map f) cs) (hs:∀a,(f a).size=sz) (hb:(l.length+m.length)*bytes≤140737488355328) (hbase:base≤w.heap.size):
 ∃r w1,(Builtin.append_ #[t,t] ty #[v,x]).run P w=.ok r w1∧kH e sz base X f (l++m) r w1∧gi w w1 v r:=by
 obtain⟨n,xs,h2,h3⟩:=h
 have hxl:xs.length=l.length*sz:=by rw[h3.len,dq (sz:=sz) (by simp[hs]),List.length_map]
 have hcl:cs.length=m.length*sz:=by rw[ha.len,dq (sz:=sz) (by simp[hs]),List.length_map]
 obtain⟨r,w1,n',h4,h5,h6⟩:=vy (P:=P) (ty:=ty) ht hi hzs hsz h2 hx h1 (by
  rw[hxl,hcl,←Nat.add_mul,Nat.mul_right_comm]
  exact Ni _ hb) hb0 hbase
 refine⟨r,w1,h4,⟨n',_,h5,?_⟩,h6⟩
 have hm:Mv (fun k=>X k∨v.ownBlock=some k) w w1:=Mv.of_grown h6.grown fun k hk _=>.inr hk
 have hY:∀k,(X k∨r.ownBlock=some k)→(X k∨v.ownBlock=some k)∨w.heap.size≤k:=fun k hk=>by
  rcases hk with hk|hk
  ·exact .inl (.inl hk)
  ·rcases h6.own with h7|h7
   ·rw[h7] at hk;exact .inl (.inr hk)
   ·exact .inr (h7 k hk)
 rw[List.map_append]
 exact cG.append (cG.mv hm hY h3) (cG.mv hm hY ha)
end
end Go.Rl
namespace Go.Rl
open Go.RowKit Go.Proofs
def HM:IntKind→Nat
 |.u32=>1
 |.i64=>2
 |.u8=>6
 |_=>7
def kd:Value→Nat
 |.bool _=>0
 |.int k _=>HM k
 |.slice _ _ _=>3
 |.string _=>4
 |.pointer _=>5
 |_=>8
mutual
def uY:Dt→List Nat
 |.int k _=>[HM k]
 |.bool _=>[0]
 |.str _=>[4]
 |.sl _=>[3]
 |.st l=>nE l
def nE:List Dt→List Nat
 |[]=>[]
 |d::l=>uY d++nE l
end
mutual
theorem Rp.kds {w:World}:∀{d:Dt} {cs:List Value},Rp w d cs→cs.map kd=uY d
 |.int k n,cs,h=>by simp only[Rp] at h;subst h;rfl
 |.bool b,cs,h=>by simp only[Rp] at h;subst h;rfl
 |.str l,cs,h=>by simp only[Rp] at h;subst h;rfl
 |.sl l,cs,h=>by simp only[Rp] at h;obtain⟨A,n,c,rfl,_⟩:=h;rfl
 |.st l,cs,h=>by simp only[Rp] at h;simpa [uY] using bm.kds h
theorem bm.kds {w:World}:∀{l:List Dt} {cs:List Value},bm w l cs→cs.map kd=nE l
 |[],cs,h=>by simp only[bm] at h;subst h;rfl
 |d::l,cs,h=>by
  simp only[bm] at h
  obtain⟨c1,c2,rfl,h1,h2⟩:=h
  rw[List.map_append,Rp.kds h1,bm.kds h2,nE]
end
def Kn (p:List Nat) (xs:List Value):Prop:=∀(i:Nat) (u:Value),xs[i]? =some u→p[i%p.length]? =some (kd u)
theorem Kn.nil (p:List Nat):Kn p []:=fun i u h=>by simp at h
theorem Kn.one {p:List Nat} {xs:List Value} (h:xs.map kd=p):Kn p xs:=fun i u hu=>by
 have hl:xs.length=p.length:=by rw[←h,List.length_map]
 obtain⟨hi,_⟩:=List.getElem?_eq_some_iff.1 hu
 rw[Nat.mod_eq_of_lt (by omega),←h,List.getElem?_map,hu]
 rfl
theorem Kn.append {p:List Nat} {xs ys:List Value} {n:Nat} (h:Kn p xs) (k:Kn p ys) (hl:xs.length=n*p.length):Kn p (xs++ys):=fun i u hu=>by
 rcases Nat.lt_or_ge i xs.length with h1|h1
 ·rw[List.getElem?_append_left h1] at hu
  exact h i u hu
 ·rw[List.getElem?_append_right h1] at hu
  have:=k _ u hu
  rw[hl] at this
  rwa [show i%p.length=(i-n*p.length)%p.length by
   have h2:i=i-n*p.length+n*p.length:=by omega
   rw[h2,Nat.add_mul_mod_self_right]
   simp]
theorem Kn.take {p:List Nat} {xs:List Value} (h:Kn p xs) (n:Nat):Kn p (xs.take n):=fun i u hu=>by
 rw[List.getElem?_take] at hu
 split at hu
 ·exact h i u hu
 ·cases hu
theorem Kn.drop {p:List Nat} {xs:List Value} (h:Kn p xs) (n:Nat):Kn p (xs.drop (n*p.length)):=fun i u hu=>by
 rw[List.getElem?_drop] at hu
 have:=h _ u hu
 rwa [Nat.mul_add_mod_self_right] at this
theorem Kn.all {w:World} {α:Type} {f:α→Dt} {p:List Nat} (hf:∀a,uY (f a)=p):∀{l:List α} {xs:List Value},bm w (l.map f) xs→Kn p xs
 |[],xs,h=>by simp only[List.map_nil,bm] at h;subst h;exact Kn.nil p
 |a::l,xs,h=>by
  simp only[List.map_cons,bm] at h
  obtain⟨c1,c2,rfl,h1,h2⟩:=h
  have hk:=Rp.kds h1
  rw[hf] at hk
  exact(Kn.one hk).append (n:=1) (Kn.all hf h2) (by rw[←hk,List.length_map];omega)
theorem Kn.zero {p:List Nat} {z:Array Value} (h:Kn p z.toList) (hz:z.size=p.length) (n:Nat):Kn p (Builtin.zeroCells z n).toList:=fun i u hu=>by
 unfold Builtin.zeroCells at hu
 simp only[Array.toList_map,Array.toList_range,List.getElem?_map,Option.map_eq_some_iff] at hu
 obtain⟨j,hj,rfl⟩:=hu
 obtain⟨hi,hj⟩:=List.getElem?_eq_some_iff.1 hj
 simp only[List.getElem_range] at hj
 subst hj
 simp only[List.length_range] at hi
 have h0:0<z.size:=by
  rcases Np z.size with h|h
  ·rw[h] at hi;omega
  ·exact h
 have hm:i%z.size<z.size:=Nat.mod_lt _ h0
 have:=h (i%z.size) z[i%z.size] (by simp[hm])
 rw[←hz] at this⊢
 rw[Nat.mod_mod] at this
 rw[getElem!_pos z (i%z.size) hm]
 exact this
def sN (p ks:List Nat):Prop:=∀o:Nat,∃(j k:Nat),ks[j]? =some k∧p[(o+j)%p.length]? ≠some k
theorem sN.not {p:List Nat} {k:Nat} (h:k∉p) (ks:List Nat):sN p (k::ks):=fun _=>⟨0,k,rfl,fun h1=>h (List.mem_of_getElem? h1)⟩
mutual
def nv (p:List Nat):Dt→Prop
 |.int _ _=>True
 |.bool _=>True
 |.str _=>True
 |.sl l=>(l≠[]→sN p (nE l))∧dF p l
 |.st l=>dF p l
def dF (p:List Nat):List Dt→Prop
 |[]=>True
 |d::l=>nv p d∧dF p l
end
theorem dF.of {p:List Nat} {α:Type} {f:α→Dt}:∀{l:List α},(∀a∈l,nv p (f a))→dF p (l.map f)
 |[],_=>by simp only[List.map_nil,dF]
 |a::l,h=>by
  simp only[List.map_cons,dF]
  exact⟨h a (by simp),dF.of fun b hb=>h b (by simp[hb])⟩
section
variable {X Y:Nat→Prop} {w w':World} {g:Nat} {cur:Array Value} {e:TypeId} {p:List Nat}
theorem AZ {ad:Addr} {xs:List Value} (hb:w.heap[g]? =some (.cells cur e (0,0))) (hk:Kn p cur.toList) (hc:d8 w ad xs) (h:sN p (xs.map kd)):ad.block≠g:=fun he=>by
 obtain⟨j,k,h1,h2⟩:=h ad.off
 rw[List.getElem?_map,Option.map_eq_some_iff] at h1
 obtain⟨u,hu,rfl⟩:=h1
 have hcell:=hc j u hu
 have hs:(ad.add j).spot=none:=World.cell?_spot hcell
 have e1:ad.add j=⟨g,ad.off+j,none⟩:=by
  unfold Addr.add at hs⊢
  split
  ·rename_i h0
   subst h0
   rw[if_pos rfl] at hs
   cases ad
   simp_all
  ·rw[he]
 rw[e1,cell_of_row w g _ cur e (0,0) hb] at hcell
 exact h2 (hk _ u (by simpa using hcell))
mutual
theorem nv.rp (hb:w.heap[g]? =some (.cells cur e (0,0))) (hk:Kn p cur.toList):∀{d:Dt} {cs:List Value},nv p d→mw X w d cs→mw (fun k=>X k∨k=g) w d cs
 |.int k n,cs,_,h=>by simpa only[mw] using h
 |.bool b,cs,_,h=>by simpa only[mw] using h
 |.str l,cs,_,h=>by simpa only[mw] using h
 |.sl l,cs,ho,h=>by
  simp only[nv] at ho
  simp only[mw] at h⊢
  obtain⟨A,n,c,h1,h2,h3,h4,h5,h6⟩:=h
  refine⟨A,n,c,h1,h2,h3,h4,h5,fun hn=>?_⟩
  obtain⟨ad,xs,h7,h8,h9,h10⟩:=h6 hn
  refine⟨ad,xs,h7,fun hx=>?_,h9,dF.rp hb hk ho.2 h10⟩
  rintro(hX|hX)
  ·exact h8 hx hX
  ·have hcl:=ho.1 (fun h=>by subst h;simp at h2;omega)
   rw[←bm.kds h10.rp] at hcl
   exact AZ hb hk h9 hcl hX
 |.st l,cs,ho,h=>by simp only[nv] at ho;simp only[mw] at h⊢;exact dF.rp hb hk ho h
theorem dF.rp (hb:w.heap[g]? =some (.cells cur e (0,0))) (hk:Kn p cur.toList):∀{l:List Dt} {cs:List Value},dF p l→cG X w l cs→cG (fun k=>X k∨k=g) w l cs
 |[],cs,_,h=>by simpa only[cG] using h
 |d::l,cs,ho,h=>by
  simp only[dF] at ho
  simp only[cG] at h⊢
  obtain⟨c1,c2,h0,h1,h2⟩:=h
  exact⟨c1,c2,h0,nv.rp hb hk ho.1 h1,dF.rp hb hk ho.2 h2⟩
end
end
def LU (p:List Nat) (v:Value) (w:World):Prop:=∀(g:Nat) (cur:Array Value) (ty:TypeId) (fr:Nat×Nat),v.ownBlock=some g→w.heap[g]? =some (.cells cur ty fr)→Kn p cur.toList
section
variable {P:Program} {w w1:World} {p:List Nat}
theorem Lc {base:Nat} {t ty e:TypeId} {z:Value} {bytes:Nat} (ht:P.underlying t=some (.slice e)) (hi:(P.info? e).map (fun i=>(i.zero,i.size,i.bytes))=some (some z,p.length,bytes)) (hzs:z.cells.size=p.length) (hsz:0<p.length)
 {v:Value} {n:Nat} {xs:List Value} (hown:w.ownsRow base e p.length v n xs) {x:Value} {news:List Value} (hx:Sl p.length news x w) (h1:∀u∈news,u.oneCell'=true)
 (hb:(xs.length+news.length)*bytes≤140737488355328*p.length) (hb0:0<bytes) (hv:LU p v w) (hz:Kn p z.cells.toList) (hn:Kn p news) {r:Value}
 (hr:(Builtin.append_ #[t,t] ty #[v,x]).run P w=.ok r w1):LU p r w1:=by
 obtain⟨i,hi,hzz,hsize,hby⟩:=info_parts hi
 obtain⟨A,m,c,rfl,hmc,hcm,hl,hcells,hnone⟩:=hx
 have hbytes:(n+m)*bytes≤140737488355328:=by
  have e1:xs.length+news.length=(n+m)*p.length:=by rw[hown.1,hl,Nat.add_mul]
  rw[e1] at hb
  have:(n+m)*bytes*p.length≤140737488355328*p.length:=by rw[Nat.mul_right_comm];exact hb
  exact Nat.le_of_mul_le_mul_right this hsz
 have h63:n+m≤maxLen:=by
  have:n+m≤(n+m)*bytes:=Nat.le_mul_of_pos_right _ hb0
  unfold maxLen;omega
 have hsmall:n+m≤9223372036854775807:=by simp only[maxLen] at h63;omega
 rcases Np m with rfl|hm
 ·have hn0:news=[]:=Nm (by simpa using hl)
  subst hn0
  have hrun:(Builtin.append_ #[t,t] ty #[v,.slice A 0 c]).run P w=.ok v w∨∃g cap cur,v=.slice (some ⟨g,0,none⟩) n cap∧w.heap[g]? =some (.cells cur e (0,0))∧r=v∧w1=w.setRow g cur:=by
   rcases hown.2 with⟨rfl,rfl⟩|⟨g,cap,cur,rfl,_,hg,hnc,_,hcs,_⟩
   ·left
    cases A with
    |none=>simp[Builtin.append_,run_underlying ht,sizeOf,typeInfo,hi,Builtin.lenOf,Builtin.firstCells]
    |some ad=>simp[Builtin.append_,run_underlying ht,sizeOf,typeInfo,hi,Builtin.lenOf,Builtin.firstCells,loadCells,loadCellsFrom]
   ·cases A with
    |none=>left;simp[Builtin.append_,run_underlying ht,sizeOf,typeInfo,hi,Builtin.lenOf,Builtin.firstCells,hnc,storeCells]
    |some ad=>
     have h2:=run_append_room (P:=P) (ty:=ty) w t e i ht hi g n cap cur hg ad 0 c [] (by simp) (by simp) (by simp) (by omega) (by simp only[List.length_nil,Nat.add_zero,hsize,hcs];exact Ni _ hnc)
     rw[h2] at hr
     injection hr with e1 e2
     subst e1 e2
     exact .inr ⟨g,cap,cur,J,hg,J,by simp⟩
  rcases hrun with h2|⟨g,cap,cur,rfl,hg,rfl,rfl⟩
  ·rw[h2] at hr
   injection hr with e1 e2
   subst e1 e2
   exact hv
  ·intro g' cur' ty' fr' hgb hh
   obtain rfl:g=g':=by simpa [Value.ownBlock] using hgb
   rw[setRow_heap w g cur cur e _ hg] at hh
   injection hh with hh
   injection hh with hh
   subst hh
   exact hv g _ _ _ J hg
 ·obtain⟨ad,rfl,hc⟩:=hcells hm
  have hlen:xs.length=n*p.length:=hown.1
  rcases hown.2 with⟨rfl,rfl⟩|⟨g,cap,cur,rfl,hbg,hg,hnc,hcp,hcs,htake⟩
  ·have h2:=run_append_nil (P:=P) (ty:=ty) w t e i z ht hi hzz ad m c news (by rw[hl,hsize]) hc (by omega) (by omega) (by rw[hby];have hb:=hbytes;simp only[Nat.zero_add] at hb;omega)
   rw[h2] at hr
   injection hr with e1 e2
   subst e1 e2
   intro g' cur' ty' fr' hgb hh
   obtain rfl:w.heap.size=g':=by simpa [Value.ownBlock] using hgb
   have h3:=heap_alloc_new w.drew (.cells (news.toArray++Builtin.zeroCells z.cells (grownCap w m 0 e-m)) e)
   have h4:w.drew.heap.size=w.heap.size:=rfl
   rw[h4] at h3
   rw[h3] at hh
   injection hh with hh
   injection hh with hh
   subst hh
   simp only[Array.toList_append]
   exact hn.append (Kn.zero hz hzs _) hl
  ·by_cases hroom:n+m≤cap
   ·have h2:=run_append_room (P:=P) (ty:=ty) w t e i ht hi g n cap cur hg ad m c news (by rw[hl,hsize]) hc h1 hroom (by rw[hl,hcs,hsize,←Nat.add_mul];exact Ni _ hroom)
    rw[h2] at hr
    injection hr with e1 e2
    subst e1 e2
    intro g' cur' ty' fr' hgb hh
    obtain rfl:g=g':=by simpa [Value.ownBlock] using hgb
    rw[setRow_heap w g cur _ e _ hg] at hh
    injection hh with hh
    injection hh with hh
    subst hh
    have hk:=hv g _ _ _ rfl hg
    rw[hsize]
    refine((hk.take (n*p.length)).append (n:=n) hn ?_).append (n:=n+m) ?_ ?_
    ·rw[htake,hlen]
    ·have:=hk.drop (n+m)
     rwa [Nat.add_mul,←hl] at this
    ·rw[List.length_append,htake,hlen,hl,Nat.add_mul]
   ·have holds:∀j u,xs[j]? =some u→w.cell? ((⟨g,0,none⟩:Addr).add j)=some u:=hown.cells (g:=g) rfl
    have h2:=run_append_grow (P:=P) (ty:=ty) w t e i z ht hi hzz ⟨g,0,none⟩ n cap xs (by rw[hlen,hsize]) holds ad m c news (by rw[hl,hsize]) hc (by omega) (by omega) (growslice_fits (by omega) (by rw[hby];exact hbytes))
    rw[h2] at hr
    injection hr with e1 e2
    subst e1 e2
    intro g' cur' ty' fr' hgb hh
    obtain rfl:w.heap.size=g':=by simpa [Value.ownBlock] using hgb
    have h3:=heap_alloc_new w.drew (.cells (xs.toArray++news.toArray++Builtin.zeroCells z.cells (grownCap w (n+m) cap e-(n+m))) e)
    have h4:w.drew.heap.size=w.heap.size:=rfl
    rw[h4] at h3
    rw[h3] at hh
    injection hh with hh
    injection hh with hh
    subst hh
    simp only[Array.toList_append]
    have hk:=hv g _ _ _ rfl hg
    have hxk:Kn p xs:=by rw[←htake];exact hk.take _
    exact(hxk.append (n:=n) hn hlen).append (n:=n+m) (Kn.zero hz hzs _) (by rw[List.length_append,hlen,hl,Nat.add_mul])
end
section
variable {α:Type} {f:α→Dt} {l m:List α} {v x:Value} {w w' w0:World} {e t ty:TypeId} {p:List Nat} {base:Nat}
def bh (e:TypeId) (p:List Nat) (base:Nat) (f:α→Dt) (l:List α) (v:Value) (w:World):Prop:=kH e p.length base (fun _=>False) f l v w∧LU p v w
theorem bh.nil (w:World):bh e p base f ([]:List α) (.slice none 0 0) w:=⟨kH.nil w,fun _ _ _ _ h _=>by simp[Value.ownBlock] at h⟩
theorem bh.lt (h:bh e p base f l v w):∀k,v.ownBlock=some k→base≤k∧k<w.heap.size:=h.1.lt
theorem bh.isS (h:bh e p base f l v w):∃A n c,v=.slice A n c:=h.1.isS
theorem bh.one (h:bh e p base f l v w):v.oneCell'=true:=h.1.one
theorem bh.ext (h:bh e p base f l v w) (hx:aH w w'):bh e p base f l v w':=⟨h.1.ext hx,fun g cur ty fr hg hh=>h.2 g cur ty fr hg (by rw[←hx.heap (h.1.lt g hg).2];exact hh)⟩
theorem bh.stable:bi (bh e p base f l):=fun _ _ _ h hx=>h.ext hx
theorem bh.rebase {b:Nat} (h:bh e p base f l v w) (hb:b≤base):bh e p b f l v w:=by
 obtain⟨⟨n,xs,h1,h2⟩,h3⟩:=h
 exact⟨⟨n,xs,sE h1 fun k hk=>Nb hb (World.ownsRow.lt h1 k hk).1,h2⟩,h3⟩
theorem bh.ds (h:bh e p base f l v w) (hs:∀a,(f a).size=p.length) (h0:0<p.length):cF f l v w:=(h.1.rpx hs h0 (Y:=fun _=>False) (fun _ h=>h) fun _ _ h=>h).rp
theorem bh.off (h:bh e p base f l v w) {X:Nat→Prop} {d:List Dt} {cs:List Value} (ho:dF p d) (hr:cG X w d cs):cG (fun k=>X k∨v.ownBlock=some k) w d cs:=by
 obtain⟨⟨n,xs,⟨_,h1|⟨g,cap,cur,rfl,_,hg,_⟩⟩,_⟩,h3⟩:=h
 ·rw[h1.1]
  exact hr.weak fun k hk=>hk.elim .inl fun h=>by simp[Value.ownBlock] at h
 ·refine(dF.rp hg (h3 g cur _ _ J hg) ho hr).weak fun k hk=>.inl ?_
  exact hk.imp id fun h=>(by simpa [Value.ownBlock] using h.symm)
theorem bh.app {P:Program} {z:Value} {bytes:Nat} (ht:P.underlying t=some (.slice e)) (hi:(P.info? e).map (fun i=>(i.zero,i.size,i.bytes))=some (some z,p.length,bytes)) (hzs:z.cells.size=p.length) (hzk:Kn p z.cells.toList) (hsz:0<p.length) (hb0:0<bytes)
 (h:bh e p base f l v w) {cs:List Value} (hx:Sl p.length cs x w) (ha:bm w (m.map f) cs) (ho:∀a∈m,nv p (f a)) (hk:∀a,uY (f a)=p) (hb:(l.length+m.length)*bytes≤140737488355328) (hbase:base≤w.heap.size):
 ∃r w1,(Builtin.append_ #[t,t] ty #[v,x]).run P w=.ok r w1∧bh e p base f (l++m) r w1∧gi w w1 v r:=by
 have hs:∀a,(f a).size=p.length:=fun a=>by
  have h1:∀d:Dt,(uY d).length=d.size:=fun d=>by
   have key:(∀d:Dt,(uY d).length=d.size):=fun d=>Dt.rec (motive_1:=fun d=>(uY d).length=d.size) (motive_2:=fun l=>(nE l).length=Dt.sizeAll l)
    (fun _ _=>rfl) (fun _=>rfl) (fun _=>rfl) (fun _ _=>rfl) (fun l ih=>by simpa only[uY,Dt.size] using ih) rfl (fun d l h1 h2=>by simp only[nE,Dt.sizeAll,List.length_append,h1,h2]) d
   exact key d
  rw[←h1,hk]
 have hcs:=r4 ha
 have hoff:=h.off (dF.of ho) (bm.x ha)
 obtain⟨n,xs,h2,h3⟩:=h.1
 have hxl:xs.length=l.length*p.length:=by rw[h3.len,dq (sz:=p.length) (by simp[hs]),List.length_map]
 have hcl:cs.length=m.length*p.length:=by rw[ha.len,dq (sz:=p.length) (by simp[hs]),List.length_map]
 obtain⟨r,w1,hr,h5,h6⟩:=h.1.app (P:=P) (ty:=ty) ht hi hzs hsz hb0 hx hcs (hoff.weak fun k hk=>.inl (hk.elim (fun h=>h.elim) .inr)) hs hb hbase
 refine⟨r,w1,hr,⟨h5,Lc ht hi hzs hsz h2 hx hcs ?_ hb0 h.2 hzk (Kn.all hk ha) hr⟩,h6⟩
 rw[hxl,hcl,←Nat.add_mul,Nat.mul_right_comm]
 exact Ni _ hb
end
end Go.Rl
namespace Go.Rl
open Go.RowKit
section
variable {P:Program} {ops:Array Oper} {Env:World→Prop} {Rl:World→World→Prop} {mo:Bool} {Pn:List PanicEntry→World→Prop} {N:Nat}
def zA (ops:Array Oper) (n:Nat):Bool:=
 (List.range ops.size).all fun t=>decide (t≤n)||(List.range t).any fun j=>decide (n≤j)&&Region.waitsFor .any ops t j
theorem A6 {n:Nat} {listed:Array Bool} (hs:Region.sinkB .any ops n=true) (hc:zA ops n=true) (inv:HeadInv .any ops n listed):
 ∀(d i:Nat),n-i=d→i<n→listed.getD i true=false→∀t,n≤t→t∉Region.ready .any ops listed:=by
 intro d
 induction d using Nat.strongRecOn with
 |_ d ih=>
  intro i hd hi hun t ht hr
  obtain⟨_,ot,hot,hall⟩:=mem_ready.1 hr
  have htlt:t<ops.size:=(Array.getElem?_eq_some_iff.1 hot).1
  by_cases htn:t=n
  ·subst htn
   have h1:=List.all_eq_true.1 hs i (List.mem_range.2 hi)
   obtain⟨j,hj,hj2⟩:=List.any_eq_true.1 h1
   simp only[Bool.and_eq_true,decide_eq_true_eq] at hj2
   obtain⟨oj,hoj,e,he,hb,hon⟩:=Region.waitsFor_spec hj2.2
   have hjle:j≤t:=by have:=List.mem_range.1 hj;omega
   by_cases hjt:j=t
   ·subst hjt
    have:oj=ot:=Nc (hoj.symm.trans hot)
    subst this
    have h2:=hall e he hb
    rw[hon,getD_both hun] at h2
    cases h2
   ·cases hl:listed.getD j false with
    |true=>
     have h2:=inv.closed j oj hoj hl e he hb
     rw[hon,getD_both hun] at h2
     cases h2
    |false=>
     have hjs:j<listed.size:=by rw[inv.size];omega
     exact ih (t-j) (by omega) j J (by omega) (getD_in hjs hl) t (Ng _) hr
  ·have h1:=List.all_eq_true.1 hc t (List.mem_range.2 htlt)
   simp only[Bool.or_eq_true,decide_eq_true_eq] at h1
   rcases h1 with h1|h1
   ·omega
   ·obtain⟨j,hj,hj2⟩:=List.any_eq_true.1 h1
    simp only[Bool.and_eq_true,decide_eq_true_eq] at hj2
    have hjt:=List.mem_range.1 hj
    obtain⟨o',ho',e,he,hb,hon⟩:=Region.waitsFor_spec hj2.2
    have:o'=ot:=Nc (ho'.symm.trans hot)
    subst this
    have h2:=hall e he hb
    rw[hon,getD_both (inv.tail j hj2.1 (by omega))] at h2
    cases h2
def pJ (o:Oper):Bool:=o.guard.isNone&&o.dst.isSome&&match o.op with|.extract .. |.move _|.assign _=>true|_=>false
theorem xZ {o:Oper} (h:pJ o=true) (ρ:Operand→Value):(∃v,∀w,(execOp ρ o).run P w=.ok (.value v) w)∨∃x,(∀v,x≠.panic v)∧∀w,(execOp ρ o).run P w=.halt x w:=by
 obtain⟨dst,op,ty,pos,aft,g⟩:=o
 unfold pJ at h
 simp only[Bool.and_eq_true] at h
 have h2:=h.2
 cases op<;>simp only[] at h2
 case move x=>exact .inl ⟨ρ x,fun w=>by simp[execOp]⟩
 case assign x=>exact .inl ⟨ρ x,fun w=>by simp[execOp]⟩
 case extract x n=>
  have e:execOp ρ ⟨dst,.extract x n,ty,pos,aft,g⟩=(do pure (Next.value (←Instr.extract (ρ x) n)):Sem Next):=rfl
  rw[e]
  cases hx:ρ x with
  |tuple vs=>
   cases hv:vs[n]? with
   |some v=>exact .inl ⟨v,fun w=>by simp[Instr.extract,hv]⟩
   |none=>exact .inr ⟨.stuck "Extract: no such component",fun v=>by simp,fun w=>by simp[Instr.extract,hv,stuck,Sem.run]⟩
  |_=>exact .inr ⟨.stuck "Extract: tuple expected",fun v=>by simp,fun w=>by simp[Instr.extract,stuck,Sem.run]⟩
 all_goals cases h2
def tH (ops:Array Oper):List Nat→Array Bool→Bool
 |[],listed=>(Region.ready .any ops listed).isEmpty
 |i::rest,listed=>(decide (Region.ready .any ops listed=[i])||((match ops[i]? with|some o=>pJ o|none=>false)&&Region.free .any ops listed i&&(Region.ready .any ops listed).contains i))&&tH ops rest (listed.setIfInBounds i true)
theorem nj {Q:ie} (hsel:Region.noSelect ops=true):∀(perm:List Nat) (os:List Oper) (listed:Array Bool) (a:Act) (w:World),(perm.map fun i=>ops[i]?)=os.map some→tH ops perm listed=true→wpList P ops (mR Q) os a w→wpAny P .any ops (mR Q) perm.length listed a w
 |[],os,listed,a,w,ho,hB,h=>by
  have:os=[]:=by cases os with|nil=>rfl|cons o os=>simp at ho
  subst this
  exact⟨by simpa [tH] using hB,h⟩
 |i::perm,os,listed,a,w,ho,hB,h=>by
  cases os with
  |nil=>simp at ho
  |cons o os=>
   simp only[List.map_cons,List.cons.injEq] at ho
   obtain⟨h0,ho⟩:=ho
   simp only[tH,Bool.and_eq_true,Bool.or_eq_true,decide_eq_true_eq] at hB
   obtain⟨hB1,hB2⟩:=hB
   have nolet:¬LetsOut (mR Q):=fun⟨_,_,hq⟩=>by obtain⟨hq,_⟩:=hq;cases hq
   rcases hB1 with hr|⟨⟨hq,hf⟩,hr⟩
   ·refine⟨fun h1=>(by rw[hr] at h1;cases h1),fun k hk=>?_⟩
    rw[hr] at hk
    have hik:k=i:=by simpa using hk
    subst hik
    have hw:wpOp P ops (mR Q) k (wpList P ops (mR Q) os) a w:=by unfold wpOp;simp only[h0];exact h
    exact wpOp_mono (fun a' w' h'=>nj hsel perm os _ a' w' ho hB2 h') hw
   ·rw[h0] at hq
    have hq:pJ o=true:=hq
    have hwant:Region.wanted o (yielded ops a.tmps)=true:=by
     unfold pJ at hq
     simp only[Bool.and_eq_true,Option.isNone_iff_eq_none] at hq
     unfold Region.wanted
     rw[hq.1.1]
    unfold wpList at h
    rw[if_pos hwant] at h
    have h:=h.resolve_right fun h=>nolet h.2
    unfold Oper.wp at h
    rcases xZ (P:=P) hq a.eval with⟨v,hv⟩|⟨x,hx,hv⟩
    ·rw[hv w] at h
     exact wpAny_take h0 hsel hf hr (fun c a w hp=>by obtain⟨hp,_⟩:=hp;cases hp) (.inl ⟨hwant,hv⟩) (nj hsel perm os _ _ w ho hB2 h)
    ·rw[hv w] at h
     cases x<;>first|exact absurd rfl (hx _)|exact h.elim
theorem xt {n i:Nat} {oi:Oper} {S:dn} {L:Array Bool→dI→kX→Prop} (hi:ops[i]? =some oi) (hcalls:mo=true→kY .any ops=true)
 (hs:Region.sinkB .any ops n=true) (hc:zA ops n=true) (hin:i<n)
 (hdone:∀listed F Z,L listed F Z→∀j∈Region.ready .any ops listed,n≤j):
 ∀(f:Nat) (listed:Array Bool) (F:dI) (Z Z':kX),HeadInv .any ops n listed→
  (∀j oj,ops[j]? =some oj→j≠i→listed.getD j true=false→(∀e∈oj.after,Region.binds .any e=true→e.on≠i)→oi.apart ops oj=true)→
  i∈Region.ready .any ops listed→ij P ops Env Rl mo Pn N F Z oi S Z'→
  ng P .any ops Env Rl mo Pn N n L f (listed.setIfInBounds i true) (jB F oi.dst S) Z'→ng P .any ops Env Rl mo Pn N n L (f+1) listed F Z:=
 rB hi hcalls hin (fun _ inv hun t ht=>A6 hs hc inv _ i rfl hin hun t ht) hdone
def pL (ops:Array Oper) (n:Nat) (perm:List Nat):Nat→Nat→Array Bool→Bool
 |0,_,listed=>tH ops perm listed&&(Region.ready .any ops listed).all fun j=>decide (n≤j)
 |f+1,k,listed=>(Region.ready .any ops listed).contains k&&Region.free .any ops listed k&&pL ops n perm f (k+1) (listed.setIfInBounds k true)
theorem uq {n:Nat} {perm:List Nat} {Lq:dI→kX→Prop} (hcalls:mo=true→kY .any ops=true) (hs:Region.sinkB .any ops n=true) (hc:zA ops n=true):
 ∀(l:List Oper) (k:Nat) (listed:Array Bool) (F:dI) (Z:kX),(∀j,j<l.length→l[j]? =ops[k+j]?)→k+l.length=n→HeadInv .any ops n listed→
 pL ops n perm l.length k listed=true→(∀t,cI Rl (F t))→el Z→gf P ops Env Rl mo Pn N l F Z Lq→
 ng P .any ops Env Rl mo Pn N n (fun listed' F' Z'=>(tH ops perm listed'=true∧(Region.ready .any ops listed').all (fun j=>decide (n≤j))=true)∧Lq F' Z') l.length listed F Z
 |[],k,listed,F,Z,_,hk,_,hB,_,_,h=>by
  simp only[List.length_nil,pL,Bool.and_eq_true] at hB
  exact⟨hB,h⟩
 |o::l,k,listed,F,Z,hl,hk,inv,hB,hF,hZ,h=>by
  have h0:ops[k]? =some o:=by simpa using(hl 0 (by simp)).symm
  simp only[List.length_cons,pL,Bool.and_eq_true] at hB
  obtain⟨⟨hr,hf⟩,hB'⟩:=hB
  have hkn:k<n:=by simp only[List.length_cons] at hk;omega
  have hr':k∈Region.ready .any ops listed:=by simpa using hr
  obtain⟨S,Z',hspec,hrest⟩:=h hF hZ
  exact xt h0 hcalls hs hc hkn (fun listed' F' Z' hL j hj=>by simpa using List.all_eq_true.1 hL.1.2 j hj) l.length listed F Z Z' inv (Region.free_spec h0 hf) hr' hspec
   (uq hcalls hs hc l (k+1) _ _ _ (fun j hj=>by have:=hl (j+1) (by simp;omega);simpa [Nat.add_assoc,Nat.add_comm 1 j] using this) (by simp only[List.length_cons] at hk;omega) (inv.set hr' hkn) hB' (rL hF hspec.stable) (hspec.zst hZ) hrest)
def Et (ops:Array Oper) (n:Nat) (perm:List Nat):Bool:=
 Region.noSelect ops&&decide (n<ops.size)&&Region.sinkB .any ops n&&zA ops n&&decide (n+perm.length=ops.size)&&pL ops n perm n 0 (Array.replicate ops.size false)
def zB (os:List Oper):List Nat→List Oper
 |[]=>[]
 |i::is=>match os[i]? with|some o=>o::zB os is|none=>zB os is
theorem zC {Q:ie} {a:Act} {D:List Deferred} {F:dI} {Z:kX} {w:World} {l:List Oper} {n:Nat} {perm:List Nat} (hE:lW Env Rl) (hP:∀c w,¬Pn c w) (hcalls:mo=true→kY .any l.toArray=true) (hB:Et l.toArray n perm=true) (hp:(perm.all fun i=>decide (i<l.length))=true)
 (hF:∀t,cI Rl (F t)) (hZ:el Z) (hz:Z w) (he:Env w) (hsat:Cj N D F a {w with drawn:=w.drawn+1})
 (h:gf P l.toArray Env Rl mo Pn N (l.take n) F Z (fun F Z=>∀a' w',Env w'→Cj N D F a' w'→Z w'→wpList P l.toArray (mR Q) (zB l perm) a' w')):wpAny P .any l.toArray (mR Q) l.toArray.size (Array.replicate l.toArray.size false) a {w with drawn:=w.drawn+1}:=by
 have hdr:aH w {w with drawn:=w.drawn+1}:=⟨rfl,rfl,rfl,Ng _,fun _ _=>rfl⟩
 simp only[Et,Bool.and_eq_true,decide_eq_true_eq] at hB
 obtain⟨⟨⟨⟨⟨hsel,hn⟩,hs⟩,hc⟩,hlen⟩,hlex⟩:=hB
 have hn':n<l.length:=by simpa using hn
 have htl:(l.take n).length=n:=by simp;omega
 have inv0:HeadInv .any l.toArray n (Array.replicate l.toArray.size false):=
  ⟨by simp,fun j oj _ hl=>(by rw[getD_replicate_false] at hl;cases hl),fun t _ ht=>getD_in (by simpa using ht) (getD_replicate_false _ _)⟩
 have H:=uq (perm:=perm) hcalls hs hc (l.take n) 0 _ _ _ (fun j hj=>by
  have hj':j<n:=by rw[htl] at hj;exact hj
  simp[hj']) (by simpa using htl) inv0 (by rw[htl];exact hlex) hF hZ h
 have hpick:∀(perm:List Nat),(perm.all fun i=>decide (i<l.length))=true→(perm.map fun i=>l.toArray[i]?)=(zB l perm).map some:=by
  intro perm
  induction perm with
  |nil=>intro _;rfl
  |cons i is ih=>
   intro hp
   simp only[List.all_cons,Bool.and_eq_true,decide_eq_true_eq] at hp
   have e:l[i]? =some l[i]:=List.getElem?_eq_getElem hp.1
   simp only[List.map_cons,zB,e,List.getElem?_toArray]
   rw[←ih hp.2]
   simp
 have:=jC (D:=D) (Q':=mR Q) (l0:=[]) (g:=perm.length) hE (fun c _ w _ _ _ h=>absurd h (hP c w)) (fun _ _ _ _ _ _ _ hp=>by cases hp) (fun listed F Z hL hF hZ a' w' he hsat hz=>nj hsel perm (zB l perm) listed a' w' (hpick perm hp) hL.1.1 (hL.2 a' w' he hsat hz)) _ _ _ _ H hF hZ a {w with drawn:=w.drawn+1} (hE.keep _ _ he (hE.ext _ _ hdr)) hsat (fun _ hp=>by cases hp) (hZ _ _ hz hdr)
 rw[htl,hlen] at this
 exact this
theorem Ld {D:List Deferred} {l:Fr} {a:Act} {w:World} (ha:At N D l a):Cj N D (y6 l) a w:=⟨ha.size,ha.defers,fun t=>by
 show y6 l t (a.tmps.getD t undef) _
 unfold y6
 cases hv:lk l t with
 |some v=>exact ha.at_ t v hv
 |none=>trivial⟩
theorem pO {Q:ie} {D:List Deferred} {l:Fr} {w:World} (h:iE Q N D l w):iE (mR Q) N D l w:=fun a ha=>⟨rfl,h a ha⟩
theorem CI {Q:ie}:¬LetsOut (mR Q):=fun⟨_,_,hq⟩=>by
 obtain⟨hq,_⟩:=hq
 cases hq
end
end Go.Rl
namespace Go.Rl
open Go.RowKit Go.Proofs
section
variable {α:Type} {f:α→Dt} {a:α} {l m:List α} {v x:Value} {w w':World} {P:Program}
def bQ (f:α→Dt) (a:α):dn:=fun v w=>∃cs:List Value,v=.agg cs.toArray∧Rp w (f a) cs
theorem bQ.mk {cs:List Value} (h:Rp w (f a) cs):bQ f a (.agg cs.toArray) w:=⟨cs,rfl,h⟩
theorem bQ.ext (h:bQ f a v w) (hx:aH w w'):bQ f a v w':=by
 obtain⟨cs,h1,h2⟩:=h
 exact⟨cs,h1,h2.ext hx⟩
theorem bQ.stable (f:α→Dt) (a:α):bi (bQ f a):=fun _ _ _ h hx=>h.ext hx
theorem Eu:∀d:Dt,(uY d).length=d.size:=fun d=>Dt.rec (motive_1:=fun d=>(uY d).length=d.size) (motive_2:=fun l=>(nE l).length=Dt.sizeAll l)
 (fun _ _=>rfl) (fun _=>rfl) (fun _=>rfl) (fun _ _=>rfl) (fun l ih=>by simpa only[uY,Dt.size] using ih) rfl (fun d l h1 h2=>by simp only[nE,Dt.sizeAll,List.length_append,h1,h2]) d
theorem sO {p:List Nat} (hk:∀a,uY (f a)=p) (a:α):(f a).size=p.length:=by rw[←Eu,hk]
theorem Ky {t e:TypeId} {z:Value} {p:List Nat} (ht:P.underlying t=some (.slice e)) (hi:(P.info? e).map (fun i=>(i.zero,i.size))=some (some z,p.length)) (hz:z.cells.size=p.length) (h0:0<p.length) (hk:∀a,uY (f a)=p)
 {vs:List (List Value)} (h:∀(i:Nat) (c:List Value),vs[i]? =some c→∃a,l[i]? =some a∧Rp w (f a) c) (hl:vs.length=l.length) (hn:0<vs.length) (hs:vs.length*p.length≤16777216):
 ∃r w',(Instr.buildSlice t vs.length (fF 0 (vs.map fun v=>Value.agg v.toArray)).toArray).run P w=.ok r w'∧aH w w'∧cF f l r w':=by
 have hsz:=sO hk
 have hall:bm w (l.map f) vs.flatten:=by
  clear hn hs
  induction vs generalizing l with
  |nil=>obtain rfl:l=[]:=Nm hl.symm;simp only[List.map_nil,List.flatten_nil,bm]
  |cons c vs ih=>
   cases l with
   |nil=>simp at hl
   |cons a l=>
    obtain⟨a',h1,h2⟩:=h 0 c rfl
    obtain rfl:a=a':=by simpa using h1
    rw[List.flatten_cons,List.map_cons]
    exact bm.cons h2 (ih (fun i c hc=>by simpa using h (i+1) c (by simpa using hc)) (by simpa using hl))
 have hv:∀v∈vs,v.length=p.length:=fun v hv=>by
  obtain⟨i,hi,rfl⟩:=List.getElem_of_mem hv
  obtain⟨a,_,h2⟩:=h i vs[i] (by simp[hi])
  rw[h2.len,hsz]
 obtain⟨r,w',h1,h2,h3,_⟩:=Kx (w:=w) ht hi hz h0 vs hv hn hs
 exact⟨r,w',h1,h2,Rp.ofSl h3 (hall.ext h2) (by simp[hsz]) h0⟩
theorem tI {t e:TypeId} {z:Value} {p:List Nat} (ht:P.underlying t=some (.slice e)) (hi:(P.info? e).map (fun i=>(i.zero,i.size))=some (some z,p.length)) (hz:z.cells.size=p.length) (h0:0<p.length) (hk:∀a,uY (f a)=p) (hs:p.length≤16777216)
 {c:List Value} (h:Rp w (f a) c):∃r w',(Instr.buildSlice t 1 #[(0,.agg c.toArray)]).run P w=.ok r w'∧aH w w'∧cF f [a] r w':=by
 obtain⟨r,w',h1,h2⟩:=Ky (w:=w) (f:=f) (l:=[a]) (vs:=[c]) ht hi hz h0 hk (fun i c' hc=>by
  match i with
  |0=>obtain rfl:c=c':=by simpa using hc
      exact⟨a,J,h⟩
  |i+1=>simp at hc) rfl (by simp) (by simpa using hs)
 exact⟨r,w',by simpa [fF] using h1,h2⟩
theorem bh.appD {base:Nat} {e t ty:TypeId} {p:List Nat} {z:Value} {bytes:Nat} (ht:P.underlying t=some (.slice e)) (hi:(P.info? e).map (fun i=>(i.zero,i.size,i.bytes))=some (some z,p.length,bytes)) (hzs:z.cells.size=p.length) (hzk:z.cells.toList.map kd=p) (hsz:0<p.length) (hb0:0<bytes) (hk:∀a,uY (f a)=p) (ho:∀a,nv p (f a))
 (h:bh e p base f l v w) (hx:cF f m x w) (hb:(l.length+m.length)*bytes≤140737488355328) (hbase:base≤w.heap.size):
 ∃r w1,(Builtin.append_ #[t,t] ty #[v,x]).run P w=.ok r w1∧bh e p base f (l++m) r w1∧gi w w1 v r:=by
 obtain⟨xs,h1,h2⟩:=Rp.toSl (sz:=p.length) hx (by simp[sO hk])
 exact h.app ht hi hzs (Kn.one hzk) hsz hb0 h1 h2 (fun a _=>ho a) hk hb hbase
end
def gQ (S T:dn):dn:=fun v w=>∃a b:Value,v=.tuple #[a,b]∧S a w∧T b w
def j1 (S T U:dn):dn:=fun v w=>∃a b c:Value,v=.tuple #[a,b,c]∧S a w∧T b w∧U c w
def HN (S T U X:dn):dn:=fun v w=>∃a b c d:Value,v=.tuple #[a,b,c,d]∧S a w∧T b w∧U c w∧X d w
theorem gQ.stable {S T:dn} (hS:bi S) (hT:bi T):bi (gQ S T):=fun _ _ _ ⟨a,b,h,h1,h2⟩ hx=>⟨a,b,h,hS _ _ _ h1 hx,hT _ _ _ h2 hx⟩
theorem j1.stable {S T U:dn} (hS:bi S) (hT:bi T) (hU:bi U):bi (j1 S T U):=fun _ _ _ ⟨a,b,c,h,h1,h2,h3⟩ hx=>⟨a,b,c,h,hS _ _ _ h1 hx,hT _ _ _ h2 hx,hU _ _ _ h3 hx⟩
theorem HN.stable {S T U X:dn} (hS:bi S) (hT:bi T) (hU:bi U) (hX:bi X):bi (HN S T U X):=fun _ _ _ ⟨a,b,c,d,h,h1,h2,h3,h4⟩ hx=>⟨a,b,c,d,h,hS _ _ _ h1 hx,hT _ _ _ h2 hx,hU _ _ _ h3 hx,hX _ _ _ h4 hx⟩
section
variable {P:Program} {ops:Array Oper} {Env:World→Prop} {Rl:World→World→Prop} {mo:Bool} {Pn:List PanicEntry→World→Prop} {Z:kX} {N:Nat} {F:dI} {K:dI→kX→Prop} {rest:List Oper} {d:Nat} {ty:TypeId} {pos:String} {aft:Array Edge} {S T U X:dn} {x:Operand}
theorem A7 (hx:eu F x=gQ S T) (hst:cI Rl S) (hd:Nat.blt d N=true) (k:gf P ops Env Rl mo Pn N rest (jB F (some d) S) Z K):gf P ops Env Rl mo Pn N (⟨some d,.extract x 0,ty,pos,aft,none⟩::rest) F Z K:=
 me hx hst hd (fun _ _ _ ⟨a,b,h,ha,hb⟩=>by subst h;exact⟨_,rfl,ha⟩) k
theorem A8 (hx:eu F x=gQ S T) (hst:cI Rl T) (hd:Nat.blt d N=true) (k:gf P ops Env Rl mo Pn N rest (jB F (some d) T) Z K):gf P ops Env Rl mo Pn N (⟨some d,.extract x 1,ty,pos,aft,none⟩::rest) F Z K:=
 me hx hst hd (fun _ _ _ ⟨a,b,h,ha,hb⟩=>by subst h;exact⟨_,rfl,hb⟩) k
theorem HO (hx:eu F x=j1 S T U) (hst:cI Rl S) (hd:Nat.blt d N=true) (k:gf P ops Env Rl mo Pn N rest (jB F (some d) S) Z K):gf P ops Env Rl mo Pn N (⟨some d,.extract x 0,ty,pos,aft,none⟩::rest) F Z K:=
 me hx hst hd (fun _ _ _ ⟨a,b,c,h,ha,hb,hc⟩=>by subst h;exact⟨_,rfl,ha⟩) k
theorem HP (hx:eu F x=j1 S T U) (hst:cI Rl T) (hd:Nat.blt d N=true) (k:gf P ops Env Rl mo Pn N rest (jB F (some d) T) Z K):gf P ops Env Rl mo Pn N (⟨some d,.extract x 1,ty,pos,aft,none⟩::rest) F Z K:=
 me hx hst hd (fun _ _ _ ⟨a,b,c,h,ha,hb,hc⟩=>by subst h;exact⟨_,rfl,hb⟩) k
theorem HQ (hx:eu F x=j1 S T U) (hst:cI Rl U) (hd:Nat.blt d N=true) (k:gf P ops Env Rl mo Pn N rest (jB F (some d) U) Z K):gf P ops Env Rl mo Pn N (⟨some d,.extract x 2,ty,pos,aft,none⟩::rest) F Z K:=
 me hx hst hd (fun _ _ _ ⟨a,b,c,h,ha,hb,hc⟩=>by subst h;exact⟨_,rfl,hc⟩) k
end
def eW (s:Bool) (n:List UInt32):dn:=fun v w=>∃x:Value,v=.agg #[B s,x]∧bH n x w
abbrev IZ (z:Int):dn:=eW (decide (z<0)) (lb z.natAbs)
theorem eW.stable (s:Bool) (n:List UInt32):bi (eW s n):=fun _ _ _ ⟨x,h,h1⟩ hx=>⟨x,h,h1.ext hx⟩
theorem IZ.stable (z:Int):bi (IZ z):=eW.stable _ _
theorem eW.mk {s:Bool} {n:List UInt32} {x:Value} {w:World} (h:bH n x w):eW s n (.agg #[B s,x]) w:=⟨x,rfl,h⟩
theorem eW.ext {s:Bool} {n:List UInt32} {v:Value} {w w':World} (h:eW s n v w) (hx:aH w w'):eW s n v w':=eW.stable _ _ _ _ _ h hx
theorem IZ.of {z:Int} {b:Bool} {x:Value} {w:World} (hb:b=decide (z<0)) (hn:bH (lb z.natAbs) x w):IZ z (.agg #[B b,x]) w:=⟨x,by rw[hb],hn⟩
def A9 (T:TypeId) (cs:List Value) (b:Nat):dn:=fun v w=>∃g:Nat,v=.pointer (some ⟨g,0,none⟩)∧b≤g∧dE g T cs w
theorem A9.stable (T:TypeId) (cs:List Value) (b:Nat):bi (A9 T cs b):=fun _ _ _ ⟨g,h,h1,h2⟩ hx=>⟨g,h,h1,h2.ext hx⟩
inductive Kz (P:Program) (fr:Fr) (w:World):List ResultVar→List Value→Prop
 |nil:Kz P fr w [] []
 |tmp {s:Tmp} {u:Value} {rs:List ResultVar} {us:List Value} (h:lk fr s=some u) (k:Kz P fr w rs us):Kz P fr w (.tmp s::rs) (u::us)
 |cell {p:Tmp} {t:TypeId} {a:Addr} {v:Value} {rs:List ResultVar} {us:List Value} (h:lk fr p=some (.pointer (some a))) (hl:(Instr.loadAt t (.pointer (some a))).run P w=.ok v w) (k:Kz P fr w rs us):Kz P fr w (.cell p t::rs) (v::us)
def KA:List Value→Value
 |[v]=>v
 |vs=>.tuple vs.toArray
theorem Kz.run {P:Program} {fr:Fr} {w:World} {N:Nat} {D:List Deferred} {a:Act} (ha:At N D fr a) {g:ResultVar→Sem Value} (g1:∀s,g (.tmp s)=pure (a.tmps.getD s undef)) (g2:∀b t,g (.cell b t)=(do loadVar t (←asAddr (a.tmps.getD b undef)):Sem Value)) {rs:List ResultVar} {us:List Value} (h:Kz P fr w rs us):
 (rs.mapM g).run P w=.ok us w:=by
 induction h with
 |nil=>rfl
 | @tmp s u rs us h _ ih=>
   have h1:=ha.at_ s u h
   rw[List.mapM_cons,g1]
   simp only[Sem.run_bind,Sem.run_pure,Result.andThen_ok,ih,h1]
 | @cell p t ad v rs us h hl _ ih=>
   have h1:=ha.at_ p _ h
   have h2:(loadVar t ad).run P w=.ok v w:=by
    simpa [Instr.loadAt,Instr.sureAddr] using hl
   have h3:asAddr (Value.pointer (some ad))=(pure ad:Sem Addr):=rfl
   rw[List.mapM_cons,g2]
   simp only[Sem.run_bind,Sem.run_pure,Result.andThen_ok,ih,h1,h3,h2]
theorem bp {P:Program} {fn:Func} {R:Ending→World→Prop} {N:Nat} {fr:Fr} {w:World} {rs:List ResultVar} {us:List Value} (hr:fn.results=rs.toArray) (hj:Kz P fr w rs us)
 (h:R (.returned (KA us)) w):j0 (bodyPost P fn R) N [] fr w .ret:=fun a ha=>by
 refine⟨ha.defers,KA us,?_,h⟩
 unfold results
 rw[hr,List.mapM_toArray,map_eq_pure_bind]
 simp only[bind_assoc,pure_bind]
 rw[Sem.run_bind,hj.run ha (fun _=>rfl) (fun _ _=>rfl),Result.andThen_ok,Sem.run_pure]
 congr 1
 match us with
 |[]=>rfl
 |[v]=>rfl
 |v::u::us=>rfl
end Go.Rl
namespace Go.Rl
open Go.RowKit Go.Proofs
end Go.Rl
namespace Go.Rl
open Go.RowKit Go.Proofs
end Go.Rl
namespace Go.Rl
open Go.RowKit Go.Proofs
end Go.Rl
namespace Go.Rl
open Go.RowKit Go.Proofs
end Go.Rl
namespace Go.Rl
open Go.RowKit Go.Proofs
def Few (st:Option (List UInt8)):Prop:=∀l,st=some l→l.length≤549755813888
end Go.Rl
namespace Go.Rl
def xu (x:UInt32) (n:Nat):UInt32:=(x>>>UInt32.ofNat n)|||(x<<<UInt32.ofNat (32-n))
def kc:List UInt32:=[0x428a2f98,0x71374491,0xb5c0fbcf,0xe9b5dba5,0x3956c25b,0x59f111f1,0x923f82a4,0xab1c5ed5,0xd807aa98,0x12835b01,0x243185be,0x550c7dc3,0x72be5d74,0x80deb1fe,0x9bdc06a7,0xc19bf174,0xe49b69c1,0xefbe4786,0x0fc19dc6,0x240ca1cc,0x2de92c6f,0x4a7484aa,0x5cb0a9dc,0x76f988da,0x983e5152,0xa831c66d,0xb00327c8,0xbf597fc7,0xc6e00bf3,0xd5a79147,0x06ca6351,0x14292967,0x27b70a85,0x2e1b2138,0x4d2c6dfc,0x53380d13,0x650a7354,0x766a0abb,0x81c2c92e,0x92722c85,0xa2bfe8a1,0xa81a664b,0xc24b8b70,0xc76c51a3,0xd192e819,0xd6990624,0xf40e3585,0x106aa070,0x19a4c116,0x1e376c08,0x2748774c,0x34b0bcb5,0x391c0cb3,0x4ed8aa4a,0x5b9cca4f,0x682e6ff3,0x748f82ee,0x78a5636f,0x84c87814,0x8cc70208,0x90befffa,0xa4506ceb,0xbef9a3f7,0xc67178f2]
def iv:List UInt32:=[0x6a09e667,0xbb67ae85,0x3c6ef372,0xa54ff53a,0x510e527f,0x9b05688c,0x1f83d9ab,0x5be0cd19]
def word (b:List UInt8) (t:Nat):UInt32:=((((b.getD (4*t) 0).toUInt32<<<UInt32.ofNat 24)|||((b.getD (4*t+1) 0).toUInt32<<<UInt32.ofNat 16))|||((b.getD (4*t+2) 0).toUInt32<<<UInt32.ofNat 8))|||(b.getD (4*t+3) 0).toUInt32
def Me (l:List UInt32):UInt32:=
 let t:=l.length
 let x:=l.getD (t-15) 0
 let y:=l.getD (t-2) 0
 l.getD (t-16) 0+(xu x 7^^^xu x 18^^^x>>>UInt32.ofNat 3)+l.getD (t-7) 0+(xu y 17^^^xu y 19^^^y>>>UInt32.ofNat 10)
def Mf (b:List UInt8) (k:Nat):List UInt32:=(List.range k).map (word b)
def HR (b:List UInt8):Nat→List UInt32
 |0=>Mf b 16
 |k+1=>HR b k++[Me (HR b k)]
def t1 (s:List UInt32) (k w:UInt32):UInt32:=
 let e:=s.getD 4 0
 s.getD 7 0+(xu e 6^^^xu e 11^^^xu e 25)+(e&&&s.getD 5 0^^^ ~~~e&&&s.getD 6 0)+k+w
def t2 (s:List UInt32):UInt32:=
 let a:=s.getD 0 0
 (xu a 2^^^xu a 13^^^xu a 22)+(a&&&s.getD 1 0^^^a&&&s.getD 2 0^^^s.getD 1 0&&&s.getD 2 0)
def rnd (s:List UInt32) (k w:UInt32):List UInt32:=[t1 s k w+t2 s,s.getD 0 0,s.getD 1 0,s.getD 2 0,s.getD 3 0+t1 s k w,s.getD 4 0,s.getD 5 0,s.getD 6 0]
def HS (b:List UInt8) (s:List UInt32):Nat→List UInt32
 |0=>s
 |i+1=>rnd (HS b s i) (kc.getD i 0) ((HR b 48).getD i 0)
def cmpr (s:List UInt32) (b:List UInt8):List UInt32:=List.zipWith (· + ·) s (HS b s 64)
def shN (m:List UInt8):Nat→List UInt32
 |0=>iv
 |k+1=>cmpr (shN m k) ((m.drop (64*k)).take 64)
def sh (m:List UInt8):List UInt32:=shN m (m.length/64)
end Go.Rl
namespace Go.Rl
open Go.RowKit
abbrev gR:=Bool×List UInt32×List UInt32
def qQ (n:Int):Dt:=.int .i64 n
def CJ (q:gR):Dt:=.st [.bool q.1,CF q.2.1,CF q.2.2]
structure Ba where
 kd:Int
 fr:Int
 ou:Int
 kh:Int
 kw:Int
 sr:Int
 pd:Int
 ws:List gR
 bs:List gR
structure Fsz where
 inp:List Int
 lays:List Ba
theorem Ba.eq_iff {a b:Ba}:a=b↔a.kd=b.kd∧a.fr=b.fr∧a.ou=b.ou∧a.kh=b.kh∧a.kw=b.kw∧a.sr=b.sr∧a.pd=b.pd∧a.ws=b.ws∧a.bs=b.bs:=by
 constructor
 ·rintro rfl;exact⟨rfl,rfl,rfl,rfl,rfl,rfl,rfl,rfl,rfl⟩
 ·rintro⟨h1,h2,h3,h4,h5,h6,h7,h8,h9⟩
  cases a;cases b;simp_all
theorem Fsz.eq_iff {a b:Fsz}:a=b↔a.inp=b.inp∧a.lays=b.lays:=by
 constructor
 ·rintro rfl;exact⟨rfl,rfl⟩
 ·rintro⟨h1,h2⟩
  cases a;cases b;simp_all
instance:DecidableEq Ba:=fun _ _=>decidable_of_iff _ Ba.eq_iff.symm
instance:DecidableEq Fsz:=fun _ _=>decidable_of_iff _ Fsz.eq_iff.symm
def KB (l:List gR):Dt:=.sl (l.map CJ)
def dLay (l:Ba):Dt:=.st [qQ l.kd,qQ l.fr,qQ l.ou,qQ l.kh,qQ l.kw,qQ l.sr,qQ l.pd,KB l.ws,KB l.bs]
end Go.Rl
namespace Go.Rl
open Go.RowKit
section
variable {w:World} {cs:List Value}
theorem Bb (n:Int):(qQ n).size=1:=rfl
theorem kA {n:Int} (h:Rp w (qQ n) cs):cs=[I n]:=by simp only[qQ,Rp] at h;exact h
theorem HT {q:gR} (h:Rp w (CJ q) cs):∃x y,cs=[B q.1,x,y]∧bH q.2.1 x w∧bH q.2.2 y w:=by
 simp only[CJ,Rp,bm] at h
 obtain⟨_,_,rfl,rfl,_,_,rfl,h1,_,_,rfl,h2,rfl⟩:=h
 obtain⟨x,rfl,hx,_⟩:=Rp.isSlice h1
 obtain⟨y,rfl,hy,_⟩:=Rp.isSlice h2
 exact⟨x,y,J,Rp.wds.1 hx,Rp.wds.1 hy⟩
theorem JF {q:gR} {x y:Value} (hx:bH q.2.1 x w) (hy:bH q.2.2 y w):Rp w (CJ q) [B q.1,x,y]:=by
 simp only[CJ,Rp,bm]
 exact⟨_,_,J,J,_,_,J,Rp.wds.2 hx,_,_,J,Rp.wds.2 hy,J⟩
def Le (l:Ba) (v:Value) (w:World):Prop:=∃x y,v=.agg #[I l.kd,I l.fr,I l.ou,I l.kh,I l.kw,I l.sr,I l.pd,x,y]∧cF CJ l.ws x w∧cF CJ l.bs y w
def Lf (m:Fsz) (v:Value) (w:World):Prop:=∃x y,v=.agg #[x,y]∧cF qQ m.inp x w∧cF dLay m.lays y w
theorem Le.ext {l:Ba} {v:Value} {w w':World} (h:Le l v w) (hx:aH w w'):Le l v w':=by
 obtain⟨x,y,h0,h1,h2⟩:=h
 exact⟨x,y,h0,h1.ext hx,h2.ext hx⟩
theorem Lf.ext {m:Fsz} {v:Value} {w w':World} (h:Lf m v w) (hx:aH w w'):Lf m v w':=by
 obtain⟨x,y,h0,h1,h2⟩:=h
 exact⟨x,y,h0,h1.ext hx,h2.ext hx⟩
end
end Go.Rl
namespace Go.Rl
open Go.RowKit Go.Proofs
abbrev QV (x:Rat):dn:=aU x.sg x.nl x.dl
def dQ (x:Rat):Dt:=.st [.bool x.sg,CF x.nl,CF x.dl]
structure dU where
 va:Int
 co:Rat
 deriving DecidableEq
structure dx where
 ts:List dU
 ct:Rat
 deriving DecidableEq
structure Bc where
 kd:Int
 ix:Int
 lo:Int
 hi:Int
 deriving DecidableEq
structure eh where
 row:Bc
 co:Rat
 deriving DecidableEq
structure ig where
 un:Int
 up:Bool
 va:Rat
 pf:List eh
 deriving DecidableEq
structure nw where
 kd:Int
 ix:Int
 at_:Rat
 deriving DecidableEq
structure AF where
 inp:Int
 us:List dx
 os:List dx
 deriving DecidableEq
structure CK where
 lo:List Rat
 hi:List Rat
 rs:List dx
 deriving DecidableEq
structure ur where
 g:AF
 r:CK
 go:dx
 deriving DecidableEq
structure eX where
 q:ur
 pa:List nw
 lm:List ig
 deriving DecidableEq
def kW (a:dU):Dt:=.st [qQ a.va,dQ a.co]
def dZ (a:dx):Dt:=.st [.sl (a.ts.map kW),dQ a.ct]
def Jj (a:Bc):Dt:=.st [qQ a.kd,qQ a.ix,qQ a.lo,qQ a.hi]
def iI (a:eh):Dt:=.st [Jj a.row,dQ a.co]
def vj (a:ig):Dt:=.st [qQ a.un,.bool a.up,dQ a.va,.sl (a.pf.map iI)]
def pQ (a:nw):Dt:=.st [qQ a.kd,qQ a.ix,dQ a.at_]
def Ev (a:AF):Dt:=.st [qQ a.inp,.sl (a.us.map dZ),.sl (a.os.map dZ)]
def GZ (a:CK):Dt:=.st [.sl (a.lo.map dQ),.sl (a.hi.map dQ),.sl (a.rs.map dZ)]
def Ew (a:ur):Dt:=.st [Ev a.g,GZ a.r,dZ a.go]
def ro (a:eX):Dt:=.st [Ew a.q,.sl (a.pa.map pQ),.sl (a.lm.map vj)]
section
variable {w:World} {cs:List Value}
theorem rE {l:List Dt} (h:bm w l cs):Rp w (.st l) cs:=by rw[Rp];exact h
theorem HU {b:Bool} (h:Rp w (.bool b) cs):cs=[B b]:=by rw[Rp] at h;exact h
theorem KC (b:Bool):Rp w (.bool b) [B b]:=by rw[Rp];rfl
theorem nF (n:Int):Rp w (qQ n) [I n]:=by rw[qQ,Rp];rfl
theorem oE {α:Type} {f:α→Dt} {l:List α} (h:Rp w (.sl (l.map f)) cs):∃v,cs=[v]∧cF f l v w:=by
 obtain⟨v,rfl,h,_⟩:=Rp.isSlice h
 exact⟨v,J,h⟩
theorem dO {a:Rat} (h:Rp w (dQ a) cs):∃x y,cs=[B a.sg,x,y]∧bH a.nl x w∧bH a.dl y w:=HT (q:=(a.sg,a.nl,a.dl)) h
theorem ly {a:Rat} {x y:Value} (hx:bH a.nl x w) (hy:bH a.dl y w):Rp w (dQ a) [B a.sg,x,y]:=JF (q:=(a.sg,a.nl,a.dl)) hx hy
theorem QV.stable (x:Rat):bi (QV x):=aU.stable _ _ _
theorem d4 {a:dU} (h:Rp w (kW a) cs):∃x0 x1,cs=[I a.va,B a.co.sg,x0,x1]∧bH a.co.nl x0 w∧bH a.co.dl x1 w:=by
 simp only[kW,bm,Rp.eq_5] at h
 obtain⟨_,_,rfl,h0,_,_,rfl,h1,rfl⟩:=h
 obtain rfl:=kA h0
 obtain⟨x0,x1,rfl,k0,k1⟩:=dO h1
 exact⟨x0,x1,J,k0,k1⟩
theorem j7 {a:dU} {x0 x1:Value} (k0:bH a.co.nl x0 w) (k1:bH a.co.dl x1 w):Rp w (kW a) [I a.va,B a.co.sg,x0,x1]:=
 rE (bm.cons (a:=[I a.va]) (nF _) (bm.cons (a:=[B a.co.sg,x0,x1]) (ly k0 k1) bm.nil))
theorem cl {a:dx} (h:Rp w (dZ a) cs):∃x0 x1 x2,cs=[x0,B a.ct.sg,x1,x2]∧cF kW a.ts x0 w∧bH a.ct.nl x1 w∧bH a.ct.dl x2 w:=by
 simp only[dZ,bm,Rp.eq_5] at h
 obtain⟨_,_,rfl,h0,_,_,rfl,h1,rfl⟩:=h
 obtain⟨x0,rfl,k0⟩:=oE h0
 obtain⟨x1,x2,rfl,k1,k2⟩:=dO h1
 exact⟨x0,x1,x2,J,k0,k1,k2⟩
theorem cv {a:dx} {x0 x1 x2:Value} (k0:cF kW a.ts x0 w) (k1:bH a.ct.nl x1 w) (k2:bH a.ct.dl x2 w):Rp w (dZ a) [x0,B a.ct.sg,x1,x2]:=
 rE (bm.cons (a:=[x0]) k0 (bm.cons (a:=[B a.ct.sg,x1,x2]) (ly k1 k2) bm.nil))
theorem vk {a:Bc} (h:Rp w (Jj a) cs):cs=[I a.kd,I a.ix,I a.lo,I a.hi]:=by
 simp only[Jj,bm,Rp.eq_5] at h
 obtain⟨_,_,rfl,h0,_,_,rfl,h1,_,_,rfl,h2,_,_,rfl,h3,rfl⟩:=h
 obtain rfl:=kA h0
 obtain rfl:=kA h1
 obtain rfl:=kA h2
 obtain rfl:=kA h3
 rfl
theorem iJ {a:Bc}:Rp w (Jj a) [I a.kd,I a.ix,I a.lo,I a.hi]:=
 rE (bm.cons (a:=[I a.kd]) (nF _) (bm.cons (a:=[I a.ix]) (nF _) (bm.cons (a:=[I a.lo]) (nF _) (bm.cons (a:=[I a.hi]) (nF _) bm.nil))))
theorem fJ {a:eh} (h:Rp w (iI a) cs):∃x0 x1,cs=[I a.row.kd,I a.row.ix,I a.row.lo,I a.row.hi,B a.co.sg,x0,x1]∧bH a.co.nl x0 w∧bH a.co.dl x1 w:=by
 simp only[iI,bm,Rp.eq_5] at h
 obtain⟨_,_,rfl,h0,_,_,rfl,h1,rfl⟩:=h
 obtain rfl:=vk h0
 obtain⟨x0,x1,rfl,k0,k1⟩:=dO h1
 exact⟨x0,x1,J,k0,k1⟩
theorem jO {a:eh} {x0 x1:Value} (k0:bH a.co.nl x0 w) (k1:bH a.co.dl x1 w):Rp w (iI a) [I a.row.kd,I a.row.ix,I a.row.lo,I a.row.hi,B a.co.sg,x0,x1]:=
 rE (bm.cons (a:=[I a.row.kd,I a.row.ix,I a.row.lo,I a.row.hi]) (iJ) (bm.cons (a:=[B a.co.sg,x0,x1]) (ly k0 k1) bm.nil))
theorem eG {a:ig} (h:Rp w (vj a) cs):∃x0 x1 x2,cs=[I a.un,B a.up,B a.va.sg,x0,x1,x2]∧bH a.va.nl x0 w∧bH a.va.dl x1 w∧cF iI a.pf x2 w:=by
 simp only[vj,bm,Rp.eq_5] at h
 obtain⟨_,_,rfl,h0,_,_,rfl,h1,_,_,rfl,h2,_,_,rfl,h3,rfl⟩:=h
 obtain rfl:=kA h0
 obtain rfl:=HU h1
 obtain⟨x0,x1,rfl,k0,k1⟩:=dO h2
 obtain⟨x2,rfl,k2⟩:=oE h3
 exact⟨x0,x1,x2,J,k0,k1,k2⟩
theorem HV {a:ig} {x0 x1 x2:Value} (k0:bH a.va.nl x0 w) (k1:bH a.va.dl x1 w) (k2:cF iI a.pf x2 w):Rp w (vj a) [I a.un,B a.up,B a.va.sg,x0,x1,x2]:=
 rE (bm.cons (a:=[I a.un]) (nF _) (bm.cons (a:=[B a.up]) (KC _) (bm.cons (a:=[B a.va.sg,x0,x1]) (ly k0 k1) (bm.cons (a:=[x2]) k2 bm.nil))))
theorem gn {a:nw} (h:Rp w (pQ a) cs):∃x0 x1,cs=[I a.kd,I a.ix,B a.at_.sg,x0,x1]∧bH a.at_.nl x0 w∧bH a.at_.dl x1 w:=by
 simp only[pQ,bm,Rp.eq_5] at h
 obtain⟨_,_,rfl,h0,_,_,rfl,h1,_,_,rfl,h2,rfl⟩:=h
 obtain rfl:=kA h0
 obtain rfl:=kA h1
 obtain⟨x0,x1,rfl,k0,k1⟩:=dO h2
 exact⟨x0,x1,J,k0,k1⟩
theorem lf {a:nw} {x0 x1:Value} (k0:bH a.at_.nl x0 w) (k1:bH a.at_.dl x1 w):Rp w (pQ a) [I a.kd,I a.ix,B a.at_.sg,x0,x1]:=
 rE (bm.cons (a:=[I a.kd]) (nF _) (bm.cons (a:=[I a.ix]) (nF _) (bm.cons (a:=[B a.at_.sg,x0,x1]) (ly k0 k1) bm.nil)))
theorem mZ {a:AF} (h:Rp w (Ev a) cs):∃x0 x1,cs=[I a.inp,x0,x1]∧cF dZ a.us x0 w∧cF dZ a.os x1 w:=by
 simp only[Ev,bm,Rp.eq_5] at h
 obtain⟨_,_,rfl,h0,_,_,rfl,h1,_,_,rfl,h2,rfl⟩:=h
 obtain rfl:=kA h0
 obtain⟨x0,rfl,k0⟩:=oE h1
 obtain⟨x1,rfl,k1⟩:=oE h2
 exact⟨x0,x1,J,k0,k1⟩
theorem jP {a:AF} {x0 x1:Value} (k0:cF dZ a.us x0 w) (k1:cF dZ a.os x1 w):Rp w (Ev a) [I a.inp,x0,x1]:=
 rE (bm.cons (a:=[I a.inp]) (nF _) (bm.cons (a:=[x0]) k0 (bm.cons (a:=[x1]) k1 bm.nil)))
theorem qR {a:CK} (h:Rp w (GZ a) cs):∃x0 x1 x2,cs=[x0,x1,x2]∧cF dQ a.lo x0 w∧cF dQ a.hi x1 w∧cF dZ a.rs x2 w:=by
 simp only[GZ,bm,Rp.eq_5] at h
 obtain⟨_,_,rfl,h0,_,_,rfl,h1,_,_,rfl,h2,rfl⟩:=h
 obtain⟨x0,rfl,k0⟩:=oE h0
 obtain⟨x1,rfl,k1⟩:=oE h1
 obtain⟨x2,rfl,k2⟩:=oE h2
 exact⟨x0,x1,x2,J,k0,k1,k2⟩
theorem pR {a:CK} {x0 x1 x2:Value} (k0:cF dQ a.lo x0 w) (k1:cF dQ a.hi x1 w) (k2:cF dZ a.rs x2 w):Rp w (GZ a) [x0,x1,x2]:=
 rE (bm.cons (a:=[x0]) k0 (bm.cons (a:=[x1]) k1 (bm.cons (a:=[x2]) k2 bm.nil)))
theorem m3 {a:ur} (h:Rp w (Ew a) cs):∃x0 x1 x2 x3 x4 x5 x6 x7,cs=[I a.g.inp,x0,x1,x2,x3,x4,x5,B a.go.ct.sg,x6,x7]∧cF dZ a.g.us x0 w∧cF dZ a.g.os x1 w∧cF dQ a.r.lo x2 w∧cF dQ a.r.hi x3 w∧cF dZ a.r.rs x4 w∧cF kW a.go.ts x5 w∧bH a.go.ct.nl x6 w∧bH a.go.ct.dl x7 w:=by
 simp only[Ew,bm,Rp.eq_5] at h
 obtain⟨_,_,rfl,h0,_,_,rfl,h1,_,_,rfl,h2,rfl⟩:=h
 obtain⟨x0,x1,rfl,k0,k1⟩:=mZ h0
 obtain⟨x2,x3,x4,rfl,k2,k3,k4⟩:=qR h1
 obtain⟨x5,x6,x7,rfl,k5,k6,k7⟩:=cl h2
 exact⟨x0,x1,x2,x3,x4,x5,x6,x7,J,k0,k1,k2,k3,k4,k5,k6,k7⟩
theorem gr {a:ur} {x0 x1 x2 x3 x4 x5 x6 x7:Value} (k0:cF dZ a.g.us x0 w) (k1:cF dZ a.g.os x1 w) (k2:cF dQ a.r.lo x2 w) (k3:cF dQ a.r.hi x3 w) (k4:cF dZ a.r.rs x4 w) (k5:cF kW a.go.ts x5 w) (k6:bH a.go.ct.nl x6 w) (k7:bH a.go.ct.dl x7 w):Rp w (Ew a) [I a.g.inp,x0,x1,x2,x3,x4,x5,B a.go.ct.sg,x6,x7]:=
 rE (bm.cons (a:=[I a.g.inp,x0,x1]) (jP k0 k1) (bm.cons (a:=[x2,x3,x4]) (pR k2 k3 k4) (bm.cons (a:=[x5,B a.go.ct.sg,x6,x7]) (cv k5 k6 k7) bm.nil)))
theorem d7 {a:eX} (h:Rp w (ro a) cs):∃x0 x1 x2 x3 x4 x5 x6 x7 x8 x9,cs=[I a.q.g.inp,x0,x1,x2,x3,x4,x5,B a.q.go.ct.sg,x6,x7,x8,x9]∧cF dZ a.q.g.us x0 w∧cF dZ a.q.g.os x1 w∧cF dQ a.q.r.lo x2 w∧cF dQ a.q.r.hi x3 w∧cF dZ a.q.r.rs x4 w∧cF kW a.q.go.ts x5 w∧bH a.q.go.ct.nl x6 w∧bH a.q.go.ct.dl x7 w∧cF pQ a.pa x8 w∧cF vj a.lm x9 w:=by
 simp only[ro,bm,Rp.eq_5] at h
 obtain⟨_,_,rfl,h0,_,_,rfl,h1,_,_,rfl,h2,rfl⟩:=h
 obtain⟨x0,x1,x2,x3,x4,x5,x6,x7,rfl,k0,k1,k2,k3,k4,k5,k6,k7⟩:=m3 h0
 obtain⟨x8,rfl,k8⟩:=oE h1
 obtain⟨x9,rfl,k9⟩:=oE h2
 exact⟨x0,x1,x2,x3,x4,x5,x6,x7,x8,x9,J,k0,k1,k2,k3,k4,k5,k6,k7,k8,k9⟩
theorem dm {a:eX} {x0 x1 x2 x3 x4 x5 x6 x7 x8 x9:Value} (k0:cF dZ a.q.g.us x0 w) (k1:cF dZ a.q.g.os x1 w) (k2:cF dQ a.q.r.lo x2 w) (k3:cF dQ a.q.r.hi x3 w) (k4:cF dZ a.q.r.rs x4 w) (k5:cF kW a.q.go.ts x5 w) (k6:bH a.q.go.ct.nl x6 w) (k7:bH a.q.go.ct.dl x7 w) (k8:cF pQ a.pa x8 w) (k9:cF vj a.lm x9 w):Rp w (ro a) [I a.q.g.inp,x0,x1,x2,x3,x4,x5,B a.q.go.ct.sg,x6,x7,x8,x9]:=
 rE (bm.cons (a:=[I a.q.g.inp,x0,x1,x2,x3,x4,x5,B a.q.go.ct.sg,x6,x7]) (gr k0 k1 k2 k3 k4 k5 k6 k7) (bm.cons (a:=[x8]) k8 (bm.cons (a:=[x9]) k9 bm.nil)))
end
theorem gy (a:Rat):(dQ a).size=3:=rfl
theorem gY (a:dU):(kW a).size=4:=rfl
theorem wg (a:dx):(dZ a).size=4:=rfl
theorem mA (a:eh):(iI a).size=7:=rfl
theorem er (a:ig):(vj a).size=6:=rfl
theorem kI (a:nw):(pQ a).size=5:=rfl
theorem CL {p:List Nat} {α:Type} {f:α→Dt} {l:List α} (hf:∀a,nv p (f a)) (hc:∀a r,sN p (uY (f a)++r)):nv p (.sl (l.map f)):=by
 simp only[nv]
 refine⟨fun hn=>?_,dF.of fun a _=>hf a⟩
 cases l with
 |nil=>exact absurd rfl hn
 |cons a l=>exact hc a _
theorem Ex {p:List Nat} (h:1∉p) (l:List UInt32):nv p (CF l):=CL (f:=xr) (fun _=>by simp only[xr,nv]) fun _ _=>sN.not h _
theorem ut {p:List Nat} (h:1∉p) (x:Rat):nv p (dQ x):=by
 simp only[dQ,nv,dF]
 exact⟨trivial,Ex h _,Ex h _,trivial⟩
theorem oF {p:List Nat} {l:List Dt} (h:dF p l):nv p (.st l):=by rw[nv];exact h
theorem j8 {p:List Nat} (n:Int):nv p (qQ n):=by simp only[qQ,nv]
theorem Lh {p:List Nat} (b:Bool):nv p (.bool b):=by simp only[nv]
theorem dV {p:List Nat} {d:Dt} {l:List Dt} (h:nv p d) (k:dF p l):dF p (d::l):=by simp only[dF];exact⟨h,k⟩
theorem lG {p:List Nat}:dF p []:=by simp only[dF]
theorem HW {r:List Nat}:sN [2,0,0,3,3,3] (2::2::r):=fun o=>by
 by_cases h:o%6=0
 ·refine⟨1,2,J,?_⟩
  show([2,0,0,3,3,3]:List Nat)[(o+1)%6]? ≠some 2
  rw[show(o+1)%6=1 by omega]
  simp
 ·refine⟨0,2,J,?_⟩
  show([2,0,0,3,3,3]:List Nat)[(o+0)%6]? ≠some 2
  have:o%6<6:=Nat.mod_lt _ (by omega)
  rw[show(o+0)%6=o%6 by rw[Nat.add_zero]]
  rcases(by omega:o%6=1∨o%6=2∨o%6=3∨o%6=4∨o%6=5) with h|h|h|h|h<;>rw[h]<;>simp
theorem Li:(Tryz.prog.info? 49).map (fun i=>(i.zero,i.size,i.bytes))=some (some (.agg #[B false,.slice none 0 0,.slice none 0 0]),[0,3,3].length,56):=by kernel_rfl
theorem JG:(Tryz.prog.info? 49).map (fun i=>(i.zero,i.size))=some (some (.agg #[B false,.slice none 0 0,.slice none 0 0]),[0,3,3].length):=by kernel_rfl
abbrev pS (base:Nat) (l:List Rat):dn:=bh 49 [0,3,3] base dQ l
theorem cp (a:Rat):nv [0,3,3] (dQ a):=(ut (by decide) _)
theorem yf {w:World} {ty:TypeId} {base:Nat} {l m:List Rat} {v x:Value} (h:pS base l v w) (hx:cF dQ m x w) (hb:l.length+m.length≤1099511627776) (hbase:base≤w.heap.size):
 ∃r w1,(Builtin.append_ #[42,42] ty #[v,x]).run Tryz.prog w=.ok r w1∧pS base (l++m) r w1∧gi w w1 v r:=
 bh.appD MK Li rfl rfl (by decide) (by omega) (fun _=>rfl) cp h hx (by omega) hbase
theorem uu {w:World} {a:Rat} {c:List Value} (h:Rp w (dQ a) c):∃r w',(Instr.buildSlice 42 1 #[(0,.agg c.toArray)]).run Tryz.prog w=.ok r w'∧aH w w'∧cF dQ [a] r w':=
 tI MK JG rfl (by decide) (fun _=>rfl) (by decide) h
theorem pS.dsv {w:World} {base:Nat} {l:List Rat} {v:Value} (h:pS base l v w):cF dQ l v w:=h.ds (fun _=>rfl) (by decide)
theorem Ey:(Tryz.prog.info? 189).map (fun i=>(i.zero,i.size,i.bytes))=some (some (.agg #[I 0,B false,.slice none 0 0,.slice none 0 0]),[2,0,3,3].length,64):=by kernel_rfl
theorem Bd:(Tryz.prog.info? 189).map (fun i=>(i.zero,i.size))=some (some (.agg #[I 0,B false,.slice none 0 0,.slice none 0 0]),[2,0,3,3].length):=by kernel_rfl
abbrev lz (base:Nat) (l:List dU):dn:=bh 189 [2,0,3,3] base kW l
theorem gg (a:dU):nv [2,0,3,3] (kW a):=(oF (dV (j8 _) (dV (ut (by decide) _) lG)))
theorem CM {w:World} {ty:TypeId} {base:Nat} {l m:List dU} {v x:Value} (h:lz base l v w) (hx:cF kW m x w) (hb:l.length+m.length≤1099511627776) (hbase:base≤w.heap.size):
 ∃r w1,(Builtin.append_ #[45,45] ty #[v,x]).run Tryz.prog w=.ok r w1∧lz base (l++m) r w1∧gi w w1 v r:=
 bh.appD ML Ey rfl rfl (by decide) (by omega) (fun _=>rfl) gg h hx (by omega) hbase
theorem wh {w:World} {a:dU} {c:List Value} (h:Rp w (kW a) c):∃r w',(Instr.buildSlice 45 1 #[(0,.agg c.toArray)]).run Tryz.prog w=.ok r w'∧aH w w'∧cF kW [a] r w':=
 tI ML Bd rfl (by decide) (fun _=>rfl) (by decide) h
theorem lz.dsv {w:World} {base:Nat} {l:List dU} {v:Value} (h:lz base l v w):cF kW l v w:=h.ds (fun _=>rfl) (by decide)
theorem JH:(Tryz.prog.info? 51).map (fun i=>(i.zero,i.size,i.bytes))=some (some (.agg #[.slice none 0 0,B false,.slice none 0 0,.slice none 0 0]),[3,0,3,3].length,80):=by kernel_rfl
theorem HX:(Tryz.prog.info? 51).map (fun i=>(i.zero,i.size))=some (some (.agg #[.slice none 0 0,B false,.slice none 0 0,.slice none 0 0]),[3,0,3,3].length):=by kernel_rfl
abbrev pT (base:Nat) (l:List dx):dn:=bh 51 [3,0,3,3] base dZ l
theorem dK (a:dx):nv [3,0,3,3] (dZ a):=(oF (dV (CL (fun _=>(oF (dV (j8 _) (dV (ut (by decide) _) lG)))) (fun _ _=>sN.not (by decide) _)) (dV (ut (by decide) _) lG)))
theorem CN {w:World} {ty:TypeId} {base:Nat} {l m:List dx} {v x:Value} (h:pT base l v w) (hx:cF dZ m x w) (hb:l.length+m.length≤1099511627776) (hbase:base≤w.heap.size):
 ∃r w1,(Builtin.append_ #[34,34] ty #[v,x]).run Tryz.prog w=.ok r w1∧pT base (l++m) r w1∧gi w w1 v r:=
 bh.appD MI JH rfl rfl (by decide) (by omega) (fun _=>rfl) dK h hx (by omega) hbase
theorem wi {w:World} {a:dx} {c:List Value} (h:Rp w (dZ a) c):∃r w',(Instr.buildSlice 34 1 #[(0,.agg c.toArray)]).run Tryz.prog w=.ok r w'∧aH w w'∧cF dZ [a] r w':=
 tI MI HX rfl (by decide) (fun _=>rfl) (by decide) h
theorem pT.dsv {w:World} {base:Nat} {l:List dx} {v:Value} (h:pT base l v w):cF dZ l v w:=h.ds (fun _=>rfl) (by decide)
theorem JI:(Tryz.prog.info? 364).map (fun i=>(i.zero,i.size,i.bytes))=some (some (.agg #[I 0,I 0,I 0,I 0,B false,.slice none 0 0,.slice none 0 0]),[2,2,2,2,0,3,3].length,88):=by kernel_rfl
theorem pV:(Tryz.prog.info? 364).map (fun i=>(i.zero,i.size))=some (some (.agg #[I 0,I 0,I 0,I 0,B false,.slice none 0 0,.slice none 0 0]),[2,2,2,2,0,3,3].length):=by kernel_rfl
abbrev gI (base:Nat) (l:List eh):dn:=bh 364 [2,2,2,2,0,3,3] base iI l
theorem gz (a:eh):nv [2,2,2,2,0,3,3] (iI a):=(oF (dV (oF (dV (j8 _) (dV (j8 _) (dV (j8 _) (dV (j8 _) lG))))) (dV (ut (by decide) _) lG)))
theorem tJ {w:World} {ty:TypeId} {base:Nat} {l m:List eh} {v x:Value} (h:gI base l v w) (hx:cF iI m x w) (hb:l.length+m.length≤1099511627776) (hbase:base≤w.heap.size):
 ∃r w1,(Builtin.append_ #[124,124] ty #[v,x]).run Tryz.prog w=.ok r w1∧gI base (l++m) r w1∧gi w w1 v r:=
 bh.appD MV JI rfl rfl (by decide) (by omega) (fun _=>rfl) gz h hx (by omega) hbase
theorem wj {w:World} {a:eh} {c:List Value} (h:Rp w (iI a) c):∃r w',(Instr.buildSlice 124 1 #[(0,.agg c.toArray)]).run Tryz.prog w=.ok r w'∧aH w w'∧cF iI [a] r w':=
 tI MV pV rfl (by decide) (fun _=>rfl) (by decide) h
theorem gI.dsv {w:World} {base:Nat} {l:List eh} {v:Value} (h:gI base l v w):cF iI l v w:=h.ds (fun _=>rfl) (by decide)
theorem JJ:(Tryz.prog.info? 126).map (fun i=>(i.zero,i.size,i.bytes))=some (some (.agg #[I 0,B false,B false,.slice none 0 0,.slice none 0 0,.slice none 0 0]),[2,0,0,3,3,3].length,96):=by kernel_rfl
theorem Be:(Tryz.prog.info? 126).map (fun i=>(i.zero,i.size))=some (some (.agg #[I 0,B false,B false,.slice none 0 0,.slice none 0 0,.slice none 0 0]),[2,0,0,3,3,3].length):=by kernel_rfl
abbrev pW (base:Nat) (l:List ig):dn:=bh 126 [2,0,0,3,3,3] base vj l
theorem qS (a:ig):nv [2,0,0,3,3,3] (vj a):=(oF (dV (j8 _) (dV (Lh _) (dV (ut (by decide) _) (dV (CL (fun _=>(oF (dV (oF (dV (j8 _) (dV (j8 _) (dV (j8 _) (dV (j8 _) lG))))) (dV (ut (by decide) _) lG)))) (fun _ _=>HW)) lG)))))
theorem HY {w:World} {ty:TypeId} {base:Nat} {l m:List ig} {v x:Value} (h:pW base l v w) (hx:cF vj m x w) (hb:l.length+m.length≤1099511627776) (hbase:base≤w.heap.size):
 ∃r w1,(Builtin.append_ #[55,55] ty #[v,x]).run Tryz.prog w=.ok r w1∧pW base (l++m) r w1∧gi w w1 v r:=
 bh.appD MN JJ rfl rfl (by decide) (by omega) (fun _=>rfl) qS h hx (by omega) hbase
theorem Lj {w:World} {a:ig} {c:List Value} (h:Rp w (vj a) c):∃r w',(Instr.buildSlice 55 1 #[(0,.agg c.toArray)]).run Tryz.prog w=.ok r w'∧aH w w'∧cF vj [a] r w':=
 tI MN Be rfl (by decide) (fun _=>rfl) (by decide) h
theorem pW.dsv {w:World} {base:Nat} {l:List ig} {v:Value} (h:pW base l v w):cF vj l v w:=h.ds (fun _=>rfl) (by decide)
theorem JK:(Tryz.prog.info? 133).map (fun i=>(i.zero,i.size,i.bytes))=some (some (.agg #[I 0,I 0,B false,.slice none 0 0,.slice none 0 0]),[2,2,0,3,3].length,72):=by kernel_rfl
theorem Bf:(Tryz.prog.info? 133).map (fun i=>(i.zero,i.size))=some (some (.agg #[I 0,I 0,B false,.slice none 0 0,.slice none 0 0]),[2,2,0,3,3].length):=by kernel_rfl
abbrev mB (base:Nat) (l:List nw):dn:=bh 133 [2,2,0,3,3] base pQ l
theorem cu (a:nw):nv [2,2,0,3,3] (pQ a):=(oF (dV (j8 _) (dV (j8 _) (dV (ut (by decide) _) lG))))
theorem HZ {w:World} {ty:TypeId} {base:Nat} {l m:List nw} {v x:Value} (h:mB base l v w) (hx:cF pQ m x w) (hb:l.length+m.length≤1099511627776) (hbase:base≤w.heap.size):
 ∃r w1,(Builtin.append_ #[54,54] ty #[v,x]).run Tryz.prog w=.ok r w1∧mB base (l++m) r w1∧gi w w1 v r:=
 bh.appD MO JK rfl rfl (by decide) (by omega) (fun _=>rfl) cu h hx (by omega) hbase
theorem Lk {w:World} {a:nw} {c:List Value} (h:Rp w (pQ a) c):∃r w',(Instr.buildSlice 54 1 #[(0,.agg c.toArray)]).run Tryz.prog w=.ok r w'∧aH w w'∧cF pQ [a] r w':=
 tI MO Bf rfl (by decide) (fun _=>rfl) (by decide) h
theorem mB.dsv {w:World} {base:Nat} {l:List nw} {v:Value} (h:mB base l v w):cF pQ l v w:=h.ds (fun _=>rfl) (by decide)
end Go.Rl
namespace Go.Rl
open Go.RowKit Go.Proofs
inductive Sh where
 |c (k:Nat)
 |sl (s:Sh)
 |st (l:List Sh)
mutual
def Sh.kds:Sh→List Nat
 |.c k=>[k]
 |.sl _=>[3]
 |.st l=>Sh.kdsAll l
def Sh.kdsAll:List Sh→List Nat
 |[]=>[]
 |s::l=>s.kds++Sh.kdsAll l
end
mutual
def en:Sh→Dt→Prop
 |.c k,.int i _=>HM i=k
 |.c k,.bool _=>0=k
 |.c k,.str _=>4=k
 |.sl s,.sl l=>∀d∈l,en s d
 |.st ss,.st l=>d9 ss l
 |_,_=>False
def d9:List Sh→List Dt→Prop
 |[],[]=>True
 |s::ss,d::l=>en s d∧d9 ss l
 |_,_=>False
end
def CO (p ks:List Nat):Bool:=(List.range p.length).all fun o=>(List.range ks.length).any fun j=>match ks[j]? with
 |some k=>decide (p[(o+j)%p.length]? ≠some k)
 |none=>false
mutual
def nk (p:List Nat):Sh→Bool
 |.c _=>true
 |.sl s=>CO p s.kds&&nk p s
 |.st l=>vl p l
def vl (p:List Nat):List Sh→Bool
 |[]=>true
 |s::l=>nk p s&&vl p l
end
mutual
theorem en.kds:∀{s:Sh} {d:Dt},en s d→uY d=s.kds
 |.c k,.int i n,h=>by simp only[en] at h;rw[uY,Sh.kds,h]
 |.c k,.bool b,h=>by simp only[en] at h;rw[uY,Sh.kds,h]
 |.c k,.str l,h=>by simp only[en] at h;rw[uY,Sh.kds,h]
 |.sl s,.sl l,_=>by rw[uY,Sh.kds]
 |.st ss,.st l,h=>by simp only[en] at h;rw[uY,Sh.kds];exact d9.kds h
 |.c k,.sl l,h=>by simp only[en] at h
 |.c k,.st l,h=>by simp only[en] at h
 |.sl s,.int i n,h=>by simp only[en] at h
 |.sl s,.bool b,h=>by simp only[en] at h
 |.sl s,.str l,h=>by simp only[en] at h
 |.sl s,.st l,h=>by simp only[en] at h
 |.st ss,.int i n,h=>by simp only[en] at h
 |.st ss,.bool b,h=>by simp only[en] at h
 |.st ss,.str l,h=>by simp only[en] at h
 |.st ss,.sl l,h=>by simp only[en] at h
theorem d9.kds:∀{ss:List Sh} {l:List Dt},d9 ss l→nE l=Sh.kdsAll ss
 |[],[],_=>by rw[nE,Sh.kdsAll]
 |s::ss,d::l,h=>by simp only[d9] at h;rw[nE,Sh.kdsAll,en.kds h.1,d9.kds h.2]
 |[],d::l,h=>by simp only[d9] at h
 |s::ss,[],h=>by simp only[d9] at h
end
theorem H0 {p ks r:List Nat} (h:CO p ks=true) (h0:0<p.length):sN p (ks++r):=fun o=>by
 unfold CO at h
 rw[List.all_eq_true] at h
 have h1:=h (o%p.length) (List.mem_range.2 (Nat.mod_lt _ h0))
 rw[List.any_eq_true] at h1
 obtain⟨j,hj,h2⟩:=h1
 have hj:=List.mem_range.1 hj
 refine⟨j,ks[j],by rw[List.getElem?_append_left hj];simp[hj],?_⟩
 rw[List.getElem?_eq_getElem hj] at h2
 simp only[decide_eq_true_eq] at h2
 rwa [Nat.mod_add_mod] at h2
mutual
theorem en.off {p:List Nat} (h0:0<p.length):∀{s:Sh} {d:Dt},nk p s=true→en s d→nv p d
 |.c k,.int i n,_,_=>by simp only[nv]
 |.c k,.bool b,_,_=>by simp only[nv]
 |.c k,.str l,_,_=>by simp only[nv]
 |.sl s,.sl l,ho,h=>by
  simp only[nk,Bool.and_eq_true] at ho
  simp only[en] at h
  simp only[nv]
  refine⟨fun hn=>?_,?_⟩
  ·cases l with
   |nil=>exact absurd rfl hn
   |cons d l=>rw[nE,en.kds (h d (by simp))];exact H0 ho.1 h0
  ·have:dF p (l.map id):=dF.of fun d hd=>en.off h0 ho.2 (h d hd)
   rwa [List.map_id] at this
 |.st ss,.st l,ho,h=>by
  simp only[nk] at ho
  simp only[en] at h
  simp only[nv]
  exact d9.off h0 ho h
 |.c k,.sl l,_,h=>by simp only[en] at h
 |.c k,.st l,_,h=>by simp only[en] at h
 |.sl s,.int i n,_,h=>by simp only[en] at h
 |.sl s,.bool b,_,h=>by simp only[en] at h
 |.sl s,.str l,_,h=>by simp only[en] at h
 |.sl s,.st l,_,h=>by simp only[en] at h
 |.st ss,.int i n,_,h=>by simp only[en] at h
 |.st ss,.bool b,_,h=>by simp only[en] at h
 |.st ss,.str l,_,h=>by simp only[en] at h
 |.st ss,.sl l,_,h=>by simp only[en] at h
theorem d9.off {p:List Nat} (h0:0<p.length):∀{ss:List Sh} {l:List Dt},vl p ss=true→d9 ss l→dF p l
 |[],[],_,_=>by simp only[dF]
 |s::ss,d::l,ho,h=>by
  simp only[vl,Bool.and_eq_true] at ho
  simp only[d9] at h
  simp only[dF]
  exact⟨en.off h0 ho.1 h.1,d9.off h0 ho.2 h.2⟩
 |[],d::l,_,h=>by simp only[d9] at h
 |s::ss,[],_,h=>by simp only[d9] at h
end
class pg {α:Type} (f:α→Dt) where
 sh:Sh
 ok:∀a,en sh (f a)
structure Kq (p:List Nat) (w w':World):Prop where
 pos:0<p.length
 keep:∀(d:Dt) (cs:List Value),nv p d→Rp w d cs→Rp w' d cs
section
variable {α:Type} {f:α→Dt} {l:List α} {v:Value} {w w':World} {p:List Nat} {g:Nat} {T:TypeId} {cs:List Value}
theorem Kq.of (hb:dE g T cs w) (hk:cs.map kd=p) (h0:0<p.length) (hq:w.grownBy w' (some g)):Kq p w w':=by
 refine⟨h0,fun d ds ho h=>?_⟩
 have h1:=nv.rp hb (Kn.one hk) ho (Rp.x h)
 have hm:Mv (fun k=>w.heap.size≤k∨k=g) w w':=Mv.of_grown hq fun k hk _=>.inr (Nc hk).symm
 exact(mw.mv (Y:=fun _=>False) hm (fun _ h=>h.elim) h1).rp
theorem aT:([]:List Value).map kd=[]:=rfl
theorem ac {k:Nat} {vs:List Value} {ks:List Nat} (h:kd v=k) (h':vs.map kd=ks):(v::vs).map kd=k::ks:=by rw[List.map_cons,h,h']
theorem bH.kd {l:List UInt32} (h:bH l v w):Go.Rl.kd v=3:=by obtain⟨_,_,_,rfl⟩:=h.isS;rfl
theorem cF.kd (h:cF f l v w):Go.Rl.kd v=3:=by obtain⟨_,_,_,rfl⟩:=h.isS;rfl
theorem cF.kq [s:pg f] (h:cF f l v w) (m:Kq p w w') (ho:nk p (.sl s.sh)=true:=by decide):cF f l v w':=
 m.keep _ _ (en.off m.pos ho (by
  simp only[en]
  intro d hd
  obtain⟨a,_,rfl⟩:=List.mem_map.1 hd
  exact s.ok a)) h
theorem bH.kq {l:List UInt32} (h:bH l v w) (m:Kq p w w') (ho:nk p (.sl (.c 1))=true:=by decide):bH l v w':=
 Rp.wds.1 (m.keep _ _ (en.off (s:=.sl (.c 1)) m.pos ho (by
  unfold CF
  simp only[en]
  intro d hd
  obtain⟨a,_,rfl⟩:=List.mem_map.1 hd
  simp only[xr,en,HM])) (Rp.wds.2 h))
end
instance:pg xr:=⟨.c 1,fun _=>by simp only[xr,en,HM]⟩
instance:pg qQ:=⟨.c 2,fun _=>by simp only[qQ,en,HM]⟩
theorem jQ {α:Type} {f:α→Dt} [s:pg f] (l:List α):en (.sl s.sh) (.sl (l.map f)):=by
 simp only[en]
 intro d hd
 obtain⟨a,_,rfl⟩:=List.mem_map.1 hd
 exact s.ok a
instance:pg dQ:=⟨.st [.c 0,.sl (.c 1),.sl (.c 1)],fun a=>by
 simp only[dQ,en,d9]
 exact⟨trivial,jQ (f:=xr) _,jQ (f:=xr) _,trivial⟩⟩
instance:pg kW:=⟨.st [.c 2,.st [.c 0,.sl (.c 1),.sl (.c 1)]],fun a=>by
 simp only[kW,qQ,en,d9,HM]
 exact⟨trivial,pg.ok (f:=dQ) _,trivial⟩⟩
instance:pg dZ:=⟨.st [.sl (.st [.c 2,.st [.c 0,.sl (.c 1),.sl (.c 1)]]),.st [.c 0,.sl (.c 1),.sl (.c 1)]],fun a=>by
 simp only[dZ,en,d9]
 exact⟨jQ (f:=kW) _,pg.ok (f:=dQ) _,trivial⟩⟩
instance:pg Jj:=⟨.st [.c 2,.c 2,.c 2,.c 2],fun a=>by
 simp only[Jj,qQ,en,d9,HM]
 exact⟨trivial,trivial,trivial,trivial,trivial⟩⟩
instance:pg iI:=⟨.st [.st [.c 2,.c 2,.c 2,.c 2],.st [.c 0,.sl (.c 1),.sl (.c 1)]],fun a=>by
 simp only[iI,en,d9]
 exact⟨pg.ok (f:=Jj) _,pg.ok (f:=dQ) _,trivial⟩⟩
instance:pg vj:=⟨.st [.c 2,.c 0,.st [.c 0,.sl (.c 1),.sl (.c 1)],.sl (.st [.st [.c 2,.c 2,.c 2,.c 2],.st [.c 0,.sl (.c 1),.sl (.c 1)]])],fun a=>by
 simp only[vj,qQ,en,d9,HM]
 exact⟨trivial,trivial,pg.ok (f:=dQ) _,jQ (f:=iI) _,trivial⟩⟩
instance:pg pQ:=⟨.st [.c 2,.c 2,.st [.c 0,.sl (.c 1),.sl (.c 1)]],fun a=>by
 simp only[pQ,qQ,en,d9,HM]
 exact⟨trivial,trivial,pg.ok (f:=dQ) _,trivial⟩⟩
instance:pg Ev:=⟨.st [.c 2,.sl (.st [.sl (.st [.c 2,.st [.c 0,.sl (.c 1),.sl (.c 1)]]),.st [.c 0,.sl (.c 1),.sl (.c 1)]]),.sl (.st [.sl (.st [.c 2,.st [.c 0,.sl (.c 1),.sl (.c 1)]]),.st [.c 0,.sl (.c 1),.sl (.c 1)]])],fun a=>by
 simp only[Ev,qQ,en,d9,HM]
 exact⟨trivial,jQ (f:=dZ) _,jQ (f:=dZ) _,trivial⟩⟩
instance:pg GZ:=⟨.st [.sl (.st [.c 0,.sl (.c 1),.sl (.c 1)]),.sl (.st [.c 0,.sl (.c 1),.sl (.c 1)]),.sl (.st [.sl (.st [.c 2,.st [.c 0,.sl (.c 1),.sl (.c 1)]]),.st [.c 0,.sl (.c 1),.sl (.c 1)]])],fun a=>by
 simp only[GZ,en,d9]
 exact⟨jQ (f:=dQ) _,jQ (f:=dQ) _,jQ (f:=dZ) _,trivial⟩⟩
instance:pg Ew:=⟨.st [.st [.c 2,.sl (.st [.sl (.st [.c 2,.st [.c 0,.sl (.c 1),.sl (.c 1)]]),.st [.c 0,.sl (.c 1),.sl (.c 1)]]),.sl (.st [.sl (.st [.c 2,.st [.c 0,.sl (.c 1),.sl (.c 1)]]),.st [.c 0,.sl (.c 1),.sl (.c 1)]])],.st [.sl (.st [.c 0,.sl (.c 1),.sl (.c 1)]),.sl (.st [.c 0,.sl (.c 1),.sl (.c 1)]),.sl (.st [.sl (.st [.c 2,.st [.c 0,.sl (.c 1),.sl (.c 1)]]),.st [.c 0,.sl (.c 1),.sl (.c 1)]])],.st [.sl (.st [.c 2,.st [.c 0,.sl (.c 1),.sl (.c 1)]]),.st [.c 0,.sl (.c 1),.sl (.c 1)]]],fun a=>by
 simp only[Ew,en,d9]
 exact⟨pg.ok (f:=Ev) _,pg.ok (f:=GZ) _,pg.ok (f:=dZ) _,trivial⟩⟩
instance:pg ro:=⟨.st [.st [.st [.c 2,.sl (.st [.sl (.st [.c 2,.st [.c 0,.sl (.c 1),.sl (.c 1)]]),.st [.c 0,.sl (.c 1),.sl (.c 1)]]),.sl (.st [.sl (.st [.c 2,.st [.c 0,.sl (.c 1),.sl (.c 1)]]),.st [.c 0,.sl (.c 1),.sl (.c 1)]])],.st [.sl (.st [.c 0,.sl (.c 1),.sl (.c 1)]),.sl (.st [.c 0,.sl (.c 1),.sl (.c 1)]),.sl (.st [.sl (.st [.c 2,.st [.c 0,.sl (.c 1),.sl (.c 1)]]),.st [.c 0,.sl (.c 1),.sl (.c 1)]])],.st [.sl (.st [.c 2,.st [.c 0,.sl (.c 1),.sl (.c 1)]]),.st [.c 0,.sl (.c 1),.sl (.c 1)]]],.sl (.st [.c 2,.c 2,.st [.c 0,.sl (.c 1),.sl (.c 1)]]),.sl (.st [.c 2,.c 0,.st [.c 0,.sl (.c 1),.sl (.c 1)],.sl (.st [.st [.c 2,.c 2,.c 2,.c 2],.st [.c 0,.sl (.c 1),.sl (.c 1)]])])],fun a=>by
 simp only[ro,en,d9]
 exact⟨pg.ok (f:=Ew) _,jQ (f:=pQ) _,jQ (f:=vj) _,trivial⟩⟩
end Go.Rl
namespace Go.Rl
open Go.RowKit Go.Proofs
section
variable {α:Type} {f:α→Dt} {l:List α} {v:Value} {w w':World} {e T:TypeId} {p:List Nat} {base:Nat}
theorem bh.ge (h:bh e p base f l v w):∀k,v.ownBlock=some k→base≤k:=fun k hk=>(h.lt k hk).1
theorem bh.kd (h:bh e p base f l v w):Go.Rl.kd v=3:=by obtain⟨_,_,_,rfl⟩:=h.isS;rfl
theorem bh.kqG (h:bh e p base f l v w) {u:Value} (hg:gi w w' v u) (h0:0<p.length):Kq p w w':=by
 refine⟨h0,fun d cs ho hr=>?_⟩
 have h1:=h.off (d:=[d]) (cs:=cs) (X:=fun k=>w.heap.size≤k) (by simp only[dF];exact⟨ho,trivial⟩) (by simpa using cG.cons (Rp.x hr) cG.nil)
 have h2:mw (fun k=>w.heap.size≤k∨v.ownBlock=some k) w d cs:=by
  simp only[cG] at h1
  obtain⟨c1,c2,rfl,h3,rfl⟩:=h1
  simpa using h3
 exact(mw.mv (Y:=fun _=>False) (Mv.of_grown hg.grown fun k hk _=>.inr hk) (fun _ h=>h.elim) h2).rp
theorem aN {g:Nat} {cs:List Value} (hb:dE g T cs w) (h:bh e p base f l v w) (hT:T≠e:=by decide):some g≠v.ownBlock:=fun he=>by
 obtain⟨⟨n,xs,⟨_,h1|⟨g',cap,cur,rfl,_,hg,_⟩⟩,_⟩,_⟩:=h
 ·rw[h1.1] at he;simp[Value.ownBlock] at he
 ·obtain rfl:g=g':=by simpa [Value.ownBlock] using he
  unfold dE at hb
  rw[hg] at hb
  injection hb with hb
  injection hb with _ hb
  exact hT hb.symm
theorem gp {g:Nat} (h:bh e p base f l v w) (hg:w.heap.size≤g):some g≠v.ownBlock:=fun he=>by
 have:=(h.lt g he.symm).2
 omega
theorem bh.st [s:pg f] {q:List Nat} {g:Nat} (hoff:∀a,nv p (f a)) (h:bh e p base f l v w) (m:Kq q w w') (hq:w.grownBy w' (some g)) (hne:v.ownBlock≠some g) (ho:nk q s.sh=true):bh e p base f l v w':=by
 obtain⟨⟨n,xs,h1,h2⟩,h3⟩:=h
 have h4:w'.ownsRow base e p.length v n xs:=World.ownsRow.kept h1 hq (.inr hne)
 have hk:LU p v w':=fun k cur ty fr hk hh=>h3 k cur ty fr hk (by
  rw[←hq.block k (World.ownsRow.lt h1 k hk).2 (fun e=>hne (hk.trans e))];exact hh)
 have hall:∀{l:List α} {xs:List Value},bm w (l.map f) xs→bm w' (l.map f) xs:=by
  intro l
  induction l with
  |nil=>intro xs h;simpa only[List.map_nil,bm] using h
  |cons a l ih=>
   intro xs h
   simp only[List.map_cons,bm] at h⊢
   obtain⟨c1,c2,h0,h5,h6⟩:=h
   exact⟨c1,c2,h0,m.keep _ _ (en.off m.pos ho (s.ok a)) h5,ih h6⟩
 have h5:=bm.x (hall h2.rp)
 refine⟨⟨n,xs,h4,?_⟩,hk⟩
 rcases h4.2 with h6|⟨g',cap,cur,rfl,_,hg,_⟩
 ·rw[h6.1]
  exact h5.weak fun k hk=>hk.elim (fun h=>h.elim) fun h=>by simp[Value.ownBlock] at h
 ·refine(dF.rp hg (hk g' cur _ _ J hg) (dF.of fun a _=>hoff a) h5).weak fun k hk=>.inl ?_
  exact hk.elim (fun h=>h.elim) fun h=>.inr (by simpa [Value.ownBlock] using h.symm)
theorem gi.st {w1 w2:World} {u:Value} {g:Nat} (h:gi w w1 v u) (q:w1.grownBy w2 (some g)) (hg:w.heap.size≤g):gi w w2 v u:=
 ⟨⟨q.os.trans h.grown.os,q.tape.trans h.grown.tape,q.output.trans h.grown.output,Nb h.grown.size q.size,fun i hi hne=>(q.block i (Nk hi h.grown.size) (fun e=>by have:=Nc e;omega)).trans (h.grown.block i hi hne)⟩,h.own⟩
theorem gi.one {w1 w2:World} {g:Nat} (h:aH w w1) (q:w1.grownBy w2 (some g)) (hg:w.heap.size≤g):gi w w2 v v:=(gi.of_ext h (.inl rfl)).st q hg
theorem dE.stP {P:Program} {t:TypeId} {g o:Nat} {cs m cs':List Value} (h:dE g T cs w) (hl:o+m.length≤cs.length) (hi:(P.info? t).map (·.size)=some m.length) (h1:am m) (hp:cs.take o++m++cs.drop (o+m.length)=cs'):
 ∃w',(Instr.storeAt t (.pointer (some ⟨g,o,none⟩)) (.agg m.toArray)).run P w=.ok () w'∧w.grownBy w' (some g)∧dE g T cs' w':=by
 have h':w.heap[g]? =some (.cells cs.toArray T (0,0)):=h
 have hr:=run_storeCells_at (P:=P) g o T m 0 cs.toArray w h' (by simpa using hl) h1
 subst hp
 refine⟨_,?_,iG w g _,h.row _⟩
 simp only[Instr.storeAt,Instr.sureAddr,storeVar,Sem.run_bind,Sem.run_pure,Result.andThen_ok,nA hi]
 rw[if_neg (by simp[Value.cells])]
 simpa [Value.cells] using hr
theorem Ll {P:Program} {t:TypeId} {z:Value} (ht:P.underlying t=some (.slice e)) (hi:(P.info? e).map (fun i=>(i.zero,i.size))=some (some z,p.length)):
 ∃r w1,(Instr.buildSlice t 0 #[]).run P w=.ok r w1∧aH w w1∧bh e p w.heap.size f ([]:List α) r w1:=by
 obtain⟨i,hi',h2⟩:=Option.map_eq_some_iff.1 hi
 simp only[Prod.mk.injEq] at h2
 obtain⟨hz0,hs⟩:=h2
 have hinfo:(typeInfo e).run P w=.ok i w:=by simp[typeInfo,hi']
 have hsz:(sizeOf e).run P w=.ok p.length w:=by simp[sizeOf,hinfo,hs]
 refine⟨.slice (some ⟨w.heap.size,0,none⟩) 0 0,w.alloc (.cells #[] e),?_,aH.new w _,⟨⟨0,[],⟨by simp,.inr ⟨_,0,#[],rfl,Ng _,heap_alloc_new _ _,Ng _,Nat.zero_le _,by simp,by simp⟩⟩,cG.nil⟩,fun g cur ty fr hg hh=>?_⟩⟩
 ·have hle:¬(0*p.length>2^24):=by omega
  simp only[Instr.buildSlice,Sem.run_bind,run_underlying ht,Result.andThen_ok,hsz,if_neg hle]
  rw[if_pos (by simp)]
  have hr:Array.map (fun _:Nat=>(default:Value)) (Array.range 0)= #[]:=Array.eq_empty_of_size_eq_zero (by simp)
  simp[Instr.fill,newRow,hr]
 ·obtain rfl:w.heap.size=g:=by simpa [Value.ownBlock] using hg
  rw[heap_alloc_new w] at hh
  injection hh with hh
  injection hh with hh
  subst hh
  exact Kn.nil _
def FT:dn:=fun v _=>∃ad,v=.slice (some ad) 0 0
theorem FT.stable:bi FT:=fun _ _ _ h _=>h
theorem bs0C {P:Program} {t:TypeId} {z:Value} (ht:P.underlying t=some (.slice e)) (hi:(P.info? e).map (fun i=>(i.zero,i.size))=some (some z,p.length)):
 ∃r w1,(Instr.buildSlice t 0 #[]).run P w=.ok r w1∧aH w w1∧FT r w1:=by
 obtain⟨i,hi',h2⟩:=Option.map_eq_some_iff.1 hi
 simp only[Prod.mk.injEq] at h2
 obtain⟨hz0,hs⟩:=h2
 have hinfo:(typeInfo e).run P w=.ok i w:=by simp[typeInfo,hi']
 have hsz:(sizeOf e).run P w=.ok p.length w:=by simp[sizeOf,hinfo,hs]
 refine⟨.slice (some ⟨w.heap.size,0,none⟩) 0 0,w.alloc (.cells #[] e),?_,aH.new w _,_,J⟩
 have hle:¬(0*p.length>2^24):=by omega
 simp only[Instr.buildSlice,Sem.run_bind,run_underlying ht,Result.andThen_ok,hsz,if_neg hle]
 rw[if_pos (by simp)]
 have hr:Array.map (fun _:Nat=>(default:Value)) (Array.range 0)= #[]:=Array.eq_empty_of_size_eq_zero (by simp)
 simp[Instr.fill,newRow,hr]
theorem H1 {P:Program} {t ty:TypeId} {z x:Value} {bytes:Nat} (ht:P.underlying t=some (.slice e)) (hi:(P.info? e).map (fun i=>(i.zero,i.size,i.bytes))=some (some z,p.length,bytes)) (hsz:0<p.length) (hb0:0<bytes) (hk:∀a,uY (f a)=p)
 (hv:FT v w) (hx:cF f l x w) (hb:l.length*bytes≤140737488355328):∃r w1,(Builtin.append_ #[t,t] ty #[v,x]).run P w=.ok r w1∧aH w w1∧cF f l r w1:=by
 obtain⟨ad,rfl⟩:=hv
 obtain⟨xs,hs,hr⟩:=Rp.toSl (sz:=p.length) hx (by simp[sO hk])
 have hxl:xs.length=l.length*p.length:=by rw[hr.len,dq (sz:=p.length) (by simp[sO hk]),List.length_map]
 obtain⟨i,hi,hzz,hsize,hby⟩:=info_parts hi
 obtain⟨A,m,c,rfl,hmc,hcm,hl,hcells,hnone⟩:=hs
 have hml:m=l.length:=Nat.eq_of_mul_eq_mul_right hsz (hl.symm.trans hxl)
 rcases Np m with h0|hm
 ·subst h0
  obtain rfl:l=[]:=Nm hml.symm
  refine⟨.slice (some ad) 0 0,w,?_,aH.refl _,?_⟩
  ·cases A with
   |none=>simp[Builtin.append_,run_underlying ht,sizeOf,typeInfo,hi,Builtin.lenOf,Builtin.firstCells,storeCells]
   |some b=>simp[Builtin.append_,run_underlying ht,sizeOf,typeInfo,hi,Builtin.lenOf,Builtin.firstCells,loadCells,loadCellsFrom,storeCells]
  ·unfold cF
   simp only[List.map_nil,Rp]
   exact⟨_,0,0,J,J,Ng _,Nat.zero_le _,fun _=>rfl,fun h=>by omega⟩
 ·obtain⟨b,rfl,hc⟩:=hcells hm
  have hmb:m*bytes≤140737488355328:=by rw[hml];exact hb
  have hm63:m≤m*bytes:=Nat.le_mul_of_pos_right _ hb0
  have h2:=run_append_grow (P:=P) (ty:=ty) w t e i z ht hi hzz ad 0 0 [] (by simp) (by simp) b m c xs (by rw[hl,hsize]) hc (by omega) (by omega) (growslice_fits (by omega) (by rw[hby];simpa using hmb))
  obtain⟨o,ho⟩:∃o,o=Obj.cells (([]:List Value).toArray++xs.toArray++Builtin.zeroCells z.cells (grownCap w (0+m) 0 e-(0+m))) e (0,0):=⟨_,rfl⟩
  rw[←ho] at h2
  have hx1:aH w (w.drew.alloc o):=((aH.refl w).drew).trans (aH.new _ _)
  refine⟨_,_,h2,hx1,Rp.ofSl (l:=l.map f) (xs:=xs) ?_ (hr.ext hx1) (by simp[sO hk]) hsz⟩
  have hg:=heap_alloc_new w.drew o
  refine⟨_,_,_,J,grownCap_ge w (0+m) 0 e,grownCap_le_maxLen w (0+m) 0 e (by unfold maxLen;omega),by rw[hl,Nat.zero_add],fun _=>⟨_,rfl,fun j u hu=>?_⟩,fun h=>by cases h⟩
  have h4:w.drew.heap.size=w.heap.size:=rfl
  rw[h4,ho] at hg
  rw[ho,Addr.add_mid,Nat.zero_add j,cell_of_row _ _ j _ _ _ hg]
  obtain⟨hj,_⟩:=List.getElem?_eq_some_iff.1 hu
  rw[Array.getElem?_append_left (by simpa using hj),Array.getElem?_append_right (by simp)]
  simpa using hu
theorem d8.ldO {P:Program} {t:TypeId} {d:TypeDesc} {ad:Addr} {o:Nat} {cs ms:List Value} (h:d8 w ad cs) (hm:∀j v,ms[j]? =some v→cs[o+j]? =some v) (ht:P.underlying t=some d) (hd:d.isRow=true) (hz:(P.info? t).map (·.size)=some ms.length):(Instr.loadAt t (.pointer (some (ad.add o)))).run P w=.ok (.agg ms.toArray) w:=
 d8.ld (ad:=ad.add o) (fun j u hu=>by rw[D6];exact h (o+j) u (hm j u hu)) ht hd hz
theorem tK {P:Program} {t e:TypeId} {sz:Nat} (ht:P.underlying t=some (.slice e)) (hz:(P.info? e).map (·.size)=some sz) (hs:∀x,(f x).size=sz) (h0:0<sz) (h:cF f l v w) {lo:Nat} (h1:lo≤l.length):
 ∃v',(∀w':World,(Instr.sliceAt t v (some (I (lo:Int))) none none).run P w'=.ok v' w')∧cF f (l.drop lo) v' w:=by
 have hm:∀(m:List α),∀d∈m.map f,d.size=sz:=fun m d hd=>by obtain⟨a,_,rfl⟩:=List.mem_map.1 hd;exact hs a
 obtain⟨xs,h2,h3⟩:=Rp.toSl (sz:=sz) (l:=l.map f) h (hm l)
 have hxl:xs.length=l.length*sz:=by rw[h3.len,dq (sz:=sz) (hm l),List.length_map]
 obtain⟨v',h4,h5⟩:=rQ (P:=P) ht hz h2 (lo:=lo) (by rw[hxl];exact Ni _ h1) h0 .i64
 refine⟨v',h4,Rp.ofSl (l:=(l.drop lo).map f) h5 ?_ (hm _) h0⟩
 rw[List.map_drop]
 exact(bm.split lo h3 (hm l) (by simpa using h1)).2
theorem Lm {P:Program} {t e:TypeId} {sz:Nat} (ht:P.underlying t=some (.slice e)) (hz:(P.info? e).map (·.size)=some sz) (hs:∀x,(f x).size=sz) (h0:0<sz) (h:cF f l v w) {hi:Nat} (h1:hi≤l.length):
 ∃v',(∀w':World,(Instr.sliceAt t v none (some (I (hi:Int))) none).run P w'=.ok v' w')∧cF f (l.take hi) v' w:=by
 have hm:∀(m:List α),∀d∈m.map f,d.size=sz:=fun m d hd=>by obtain⟨a,_,rfl⟩:=List.mem_map.1 hd;exact hs a
 obtain⟨xs,h2,h3⟩:=Rp.toSl (sz:=sz) (l:=l.map f) h (hm l)
 have hxl:xs.length=l.length*sz:=by rw[h3.len,dq (sz:=sz) (hm l),List.length_map]
 obtain⟨v',h4,h5⟩:=vz (P:=P) ht hz h2 (hi:=hi) (by rw[hxl];exact Ni _ h1) h0 .i64
 refine⟨v',h4,Rp.ofSl (l:=(l.take hi).map f) h5 ?_ (hm _) h0⟩
 rw[List.map_take]
 exact(bm.split hi h3 (hm l) (by simpa using h1)).1
end
end Go.Rl
namespace Go.Rl
open Go.RowKit Go.Proofs
section
variable {P:Program} {ops:Array Oper} {Q:ie} {N:Nat} {D:List Deferred} {l:Fr} {w:World} {rest:List Oper} {d:Nat} {ty:TypeId} {pos:String} {aft:Array Edge}
theorem bc {id:Nat} {os:List Oper} {y:Code} (h:di P os.toArray (Exit.then (y.wp P Q) Q) N D l w os):d5 P Q N D l w (.seq (.region id os.toArray false) y):=aj (ae h)
theorem aI {y:Code} {Q':ie} (h:d5 P Q N D l w y):di P ops (Exit.then (y.wp P Q) Q') N D l w []:=ar (ah h)
theorem dR {id:Nat} {os:List Oper} {y:Code} {Q':ie} (h:di P os.toArray (Exit.then (y.wp P Q) Q) N D l w os):di P ops (Exit.then ((Code.seq (.region id os.toArray false) y).wp P Q) Q') N D l w []:=ar (ah (aj (ae h)))
theorem ce {t:TypeId} {zs:List Value} (hz:(P.info? t).map (·.zero)=some (some (.agg zs.toArray))) (hd:Nat.blt d N=true) (k:∀g w',w.heap.size≤g→aH w w'→dE g t zs w'→di P ops Q N D ((d,.pointer (some ⟨g,0,none⟩))::l) w' rest):di P ops Q N D l w (⟨some d,.alloc t,ty,pos,aft,none⟩::rest):=by
 obtain⟨g,w',h1,h2,h3,h4⟩:=pB (P:=P) (w:=w) (t:=t) (z:=.agg zs.toArray) (l:=zs) hz rfl
 exact mU hd h1 (k g w' h2 h3 h4)
theorem cj {t:TypeId} {x:Operand} {cs:List Value} (hx:ev l x=some (.agg cs.toArray)) (hd:Nat.blt d N=true) (k:∀g w',w.heap.size≤g→aH w w'→dE g t cs w'→di P ops Q N D ((d,.pointer (some ⟨g,0,none⟩))::l) w' rest):di P ops Q N D l w (⟨some d,.box t x,ty,pos,aft,none⟩::rest):=by
 obtain⟨g,w',h1,h2,h3,h4⟩:=K8 (P:=P) (w:=w) (T:=t) (cs:=cs)
 exact mT hx hd h1 (k g w' h2 h3 h4)
theorem bD {t T:TypeId} {x y:Operand} {g:Nat} {cs m:List Value} (hx:ev l x=some (.pointer (some ⟨g,0,none⟩))) (hy:ev l y=some (.agg m.toArray)) (hb:dE g T cs w) (hl:cs.length=m.length) (hi:(P.info? t).map (·.size)=some m.length) (h1:am m) (k:∀w',w.grownBy w' (some g)→dE g T m w'→di P ops Q N D l w' rest):di P ops Q N D l w (⟨none,.store t x y,ty,pos,aft,none⟩::rest):=by
 obtain⟨w',h2,h3,h4⟩:=hb.stS (P:=P) (t:=t) hl hi h1
 exact dH hx hy h2 (k w' h3 h4)
theorem iD {t T:TypeId} {x y:Operand} {g i:Nat} {cs:List Value} {v:Value} (hx:ev l x=some (.pointer (some ⟨g,i,none⟩))) (hy:ev l y=some v) (hb:dE g T cs w) (hi:(P.info? t).map (·.size)=some 1) (h1:v.oneCell'=true) (hl:Nat.blt i cs.length=true) (k:∀w',w.grownBy w' (some g)→dE g T (cs.set i v) w'→di P ops Q N D l w' rest):di P ops Q N D l w (⟨none,.store t x y,ty,pos,aft,none⟩::rest):=by
 obtain⟨w',h2,h3,h4⟩:=hb.stC (P:=P) (t:=t) hi h1 (by simpa [Nat.blt_eq] using hl)
 exact dH hx hy h2 (k w' h3 h4)
theorem xv {t T:TypeId} {x y:Operand} {g o:Nat} {cs m cs':List Value} (hx:ev l x=some (.pointer (some ⟨g,o,none⟩))) (hy:ev l y=some (.agg m.toArray)) (hb:dE g T cs w) (hl:Nat.ble (o+m.length) cs.length=true) (hi:(P.info? t).map (·.size)=some m.length) (h1:am m) (hp:cs.take o++m++cs.drop (o+m.length)=cs') (k:∀w',w.grownBy w' (some g)→dE g T cs' w'→di P ops Q N D l w' rest):di P ops Q N D l w (⟨none,.store t x y,ty,pos,aft,none⟩::rest):=by
 obtain⟨w',h2,h3,h4⟩:=hb.stP (P:=P) (t:=t) (Nl hl) hi h1 hp
 exact dH hx hy h2 (k w' h3 h4)
theorem CP {s:TypeId} {fs:Array Field} {f:Field} {n g o b:Nat} (hs:P.underlying s=some (.struct fs)) (hf:fs[n]? =some f) (hk:(P.cellsOf f.type==0)=false) (ho:f.offset=o):
 (Instr.fieldAt s (.pointer (some ⟨g,b,none⟩)) n).run P w=.ok (.pointer (some ⟨g,b+o,none⟩)) w:=by
 have hk':P.cellsOf f.type≠0:=by simpa using hk
 obtain⟨k,hk1⟩:∃k,(P.info? f.type).map (·.size)=some k:=by
  cases hi:(P.info? f.type).map (·.size) with
  |none=>exact absurd (by simp[Program.cellsOf,hi]) hk'
  |some k=>exact⟨k,rfl⟩
 have hk0:k≠0:=by
  intro h
  apply hk'
  simp[Program.cellsOf,hk1,h]
 rw[tx hs hf hk1 hk0,ho,rP]
theorem ef {cs ms:List Value} {o:Nat} (h:(cs.drop o).take ms.length=ms):∀j v,ms[j]? =some v→cs[o+j]? =some v:=fun j v hj=>by
 rw[←h,List.getElem?_take] at hj
 split at hj
 ·simpa using hj
 ·cases hj
end
theorem Kq.of1 {p:List Nat} {g:Nat} {T:TypeId} {cs:List Value} {w w':World} (hb:dE g T cs w) (hk:cs.map kd=p) (hq:w.grownBy w' (some g)) (h0:0<p.length:=by decide):Kq p w w':=Kq.of hb hk h0 hq
theorem yg {α:Type} {f:α→Dt} {L:List α} {v:Value} {w:World} {P:Program} {t e:TypeId} {sz:Nat} (ht:P.underlying t=some (.slice e)) (hz:(P.info? e).map (·.size)=some sz) (hs:∀x,(f x).size=sz) (h0:0<sz) (h:cF f L v w) {i:Nat} (hi:i<L.length:=by omega):
 ∃ad cs x,x=L[i]∧(∀w':World,(Instr.indexAt t v (.int .i64 i)).run P w'=.ok (.pointer (some ad)) w')∧d8 w ad cs∧Rp w (f x) cs:=by
 obtain⟨ad,cs,h1,h2,h3⟩:=cP ht hz hs h0 h hi .i64
 exact⟨ad,cs,_,J,h1,h2,h3⟩
section
variable {P:Program} {ops:Array Oper} {Env:World→Prop} {Rl:World→World→Prop} {mo:Bool} {Pn:List PanicEntry→World→Prop} {N:Nat} {rest:List Oper} {F:dI} {Z:kX} {K:dI→kX→Prop} {ty:TypeId} {pos:String} {aft:Array Edge} {d:Nat}
theorem tL {t:TypeId} {zs:List Value} {b:Nat} (hst:cI Rl (A9 t zs b)) (hz:(P.info? t).map (·.zero)=some (some (.agg zs.toArray))) (hd:Nat.blt d N=true) (hb:∀w,Env w→b≤w.heap.size) (k:gf P ops Env Rl mo Pn N rest (jB F (some d) (A9 t zs b)) Z K):gf P ops Env Rl mo Pn N (⟨some d,.alloc t,ty,pos,aft,none⟩::rest) F Z K:=
 Jo hst hd (fun w hw=>by
  obtain⟨g,w',h1,h2,h3,h4⟩:=pB (P:=P) (w:=w) (t:=t) (z:=.agg zs.toArray) (l:=zs) hz rfl
  exact⟨_,w',h1,h3,g,J,Nb (hb w hw) h2,h4⟩) k
theorem es {f:FuncId} {x:Operand} {u:Value} {ts:Array TypeId} {S:dn} (hf:az P f) (hst:cI Rl S) (hx:eu F x=Is u) (hd:Nat.blt d N=true)
 (hc:∀w,Env w→Calls P f #[u] w (cA fun r w'=>aH w w'∧S r w'))
 (k:gf P ops Env Rl mo Pn N rest (jB F (some d) S) Z K):gf P ops Env Rl mo Pn N (⟨some d,.call {callee:=.value (.func f),args:=#[x],argTypes:=ts},ty,pos,aft,none⟩::rest) F Z K:=
 bZ (xs:=[x]) (S:=S) hf hst hd (fun w hw=>by show ∀v,eu F x v w→_;rw[hx];rintro _ rfl;exact hc w hw) k
theorem ec {f:FuncId} {x y:Operand} {u v:Value} {ts:Array TypeId} {S:dn} (hf:az P f) (hst:cI Rl S) (hx:eu F x=Is u) (hy:eu F y=Is v) (hd:Nat.blt d N=true)
 (hc:∀w,Env w→Calls P f #[u,v] w (cA fun r w'=>aH w w'∧S r w'))
 (k:gf P ops Env Rl mo Pn N rest (jB F (some d) S) Z K):gf P ops Env Rl mo Pn N (⟨some d,.call {callee:=.value (.func f),args:=#[x,y],argTypes:=ts},ty,pos,aft,none⟩::rest) F Z K:=
 bZ (xs:=[x,y]) (S:=S) hf hst hd (fun w hw=>by show ∀u',eu F x u' w→∀v',eu F y v' w→_;rw[hx,hy];rintro _ rfl _ rfl;exact hc w hw) k
end
end Go.Rl
namespace Go.Rl
open Go.RowKit Go.Proofs
theorem bI {w:World} {g:Nat}:(Instr.fieldAt 51 (.pointer (some ⟨g,0,none⟩)) 0).run Tryz.prog w=.ok (.pointer (some ⟨g,0,none⟩)) w:=c6 (o:=0) MG rfl (by kernel_rfl) rfl
theorem dt {w:World} {g:Nat}:(Instr.fieldAt 51 (.pointer (some ⟨g,0,none⟩)) 1).run Tryz.prog w=.ok (.pointer (some ⟨g,1,none⟩)) w:=c6 (o:=1) MG rfl (by kernel_rfl) rfl
theorem bW {w:World} {g:Nat}:(Instr.fieldAt 133 (.pointer (some ⟨g,0,none⟩)) 0).run Tryz.prog w=.ok (.pointer (some ⟨g,0,none⟩)) w:=c6 (o:=0) MW rfl (by kernel_rfl) rfl
theorem bd {w:World} {g:Nat}:(Instr.fieldAt 133 (.pointer (some ⟨g,0,none⟩)) 1).run Tryz.prog w=.ok (.pointer (some ⟨g,1,none⟩)) w:=c6 (o:=1) MW rfl (by kernel_rfl) rfl
theorem cE {w:World} {g:Nat}:(Instr.fieldAt 133 (.pointer (some ⟨g,0,none⟩)) 2).run Tryz.prog w=.ok (.pointer (some ⟨g,2,none⟩)) w:=c6 (o:=2) MW rfl (by kernel_rfl) rfl
theorem ph {w:World} {g:Nat}:(Instr.fieldAt 285 (.pointer (some ⟨g,0,none⟩)) 0).run Tryz.prog w=.ok (.pointer (some ⟨g,0,none⟩)) w:=c6 (o:=0) M3 rfl (by kernel_rfl) rfl
theorem pi {w:World} {g:Nat}:(Instr.fieldAt 285 (.pointer (some ⟨g,0,none⟩)) 1).run Tryz.prog w=.ok (.pointer (some ⟨g,1,none⟩)) w:=c6 (o:=1) M3 rfl (by kernel_rfl) rfl
theorem lg {w:World} {g:Nat}:(Instr.fieldAt 285 (.pointer (some ⟨g,0,none⟩)) 2).run Tryz.prog w=.ok (.pointer (some ⟨g,2,none⟩)) w:=c6 (o:=2) M3 rfl (by kernel_rfl) rfl
theorem bS {w:World} {g:Nat}:(Instr.fieldAt 36 (.pointer (some ⟨g,0,none⟩)) 0).run Tryz.prog w=.ok (.pointer (some ⟨g,0,none⟩)) w:=c6 (o:=0) MX rfl (by kernel_rfl) rfl
theorem bX {w:World} {g:Nat}:(Instr.fieldAt 36 (.pointer (some ⟨g,0,none⟩)) 1).run Tryz.prog w=.ok (.pointer (some ⟨g,1,none⟩)) w:=c6 (o:=1) MX rfl (by kernel_rfl) rfl
theorem fm {w:World} {g:Nat}:(Instr.fieldAt 36 (.pointer (some ⟨g,0,none⟩)) 2).run Tryz.prog w=.ok (.pointer (some ⟨g,2,none⟩)) w:=c6 (o:=2) MX rfl (by kernel_rfl) rfl
theorem cS {w:World} {g:Nat}:(Instr.fieldAt 155 (.pointer (some ⟨g,0,none⟩)) 0).run Tryz.prog w=.ok (.pointer (some ⟨g,0,none⟩)) w:=c6 (o:=0) MR rfl (by kernel_rfl) rfl
theorem cc {w:World} {g:Nat}:(Instr.fieldAt 155 (.pointer (some ⟨g,0,none⟩)) 1).run Tryz.prog w=.ok (.pointer (some ⟨g,1,none⟩)) w:=c6 (o:=1) MR rfl (by kernel_rfl) rfl
theorem iK {w:World} {g:Nat}:(Instr.fieldAt 126 (.pointer (some ⟨g,0,none⟩)) 0).run Tryz.prog w=.ok (.pointer (some ⟨g,0,none⟩)) w:=c6 (o:=0) M4 rfl (by kernel_rfl) rfl
theorem dD {w:World} {g:Nat}:(Instr.fieldAt 126 (.pointer (some ⟨g,0,none⟩)) 1).run Tryz.prog w=.ok (.pointer (some ⟨g,1,none⟩)) w:=c6 (o:=1) M4 rfl (by kernel_rfl) rfl
theorem ej {w:World} {g:Nat}:(Instr.fieldAt 126 (.pointer (some ⟨g,0,none⟩)) 2).run Tryz.prog w=.ok (.pointer (some ⟨g,2,none⟩)) w:=c6 (o:=2) M4 rfl (by kernel_rfl) rfl
theorem wk {w:World} {g:Nat}:(Instr.fieldAt 126 (.pointer (some ⟨g,0,none⟩)) 3).run Tryz.prog w=.ok (.pointer (some ⟨g,5,none⟩)) w:=c6 (o:=5) M4 rfl (by kernel_rfl) rfl
theorem kE {w:World} {g:Nat}:(Instr.fieldAt 364 (.pointer (some ⟨g,0,none⟩)) 0).run Tryz.prog w=.ok (.pointer (some ⟨g,0,none⟩)) w:=c6 (o:=0) M2 rfl (by kernel_rfl) rfl
theorem i5 {w:World} {g:Nat}:(Instr.fieldAt 364 (.pointer (some ⟨g,0,none⟩)) 1).run Tryz.prog w=.ok (.pointer (some ⟨g,4,none⟩)) w:=c6 (o:=4) M2 rfl (by kernel_rfl) rfl
theorem bG {w:World} {g:Nat}:(Instr.fieldAt 53 (.pointer (some ⟨g,0,none⟩)) 0).run Tryz.prog w=.ok (.pointer (some ⟨g,0,none⟩)) w:=c6 (o:=0) MU rfl (by kernel_rfl) rfl
theorem f8 {w:World} {g:Nat}:(Instr.fieldAt 53 (.pointer (some ⟨g,0,none⟩)) 1).run Tryz.prog w=.ok (.pointer (some ⟨g,3,none⟩)) w:=c6 (o:=3) MU rfl (by kernel_rfl) rfl
theorem pY {w:World} {g:Nat}:(Instr.fieldAt 53 (.pointer (some ⟨g,0,none⟩)) 2).run Tryz.prog w=.ok (.pointer (some ⟨g,6,none⟩)) w:=c6 (o:=6) MU rfl (by kernel_rfl) rfl
theorem dj {w:World} {g:Nat}:(Instr.fieldAt 49 (.pointer (some ⟨g,0,none⟩)) 0).run Tryz.prog w=.ok (.pointer (some ⟨g,0,none⟩)) w:=c6 (o:=0) MC rfl (by kernel_rfl) rfl
theorem ed {w:World} {g:Nat}:(Instr.fieldAt 49 (.pointer (some ⟨g,0,none⟩)) 1).run Tryz.prog w=.ok (.pointer (some ⟨g,1,none⟩)) w:=c6 (o:=1) MC rfl (by kernel_rfl) rfl
theorem gq {w:World} {g:Nat}:(Instr.fieldAt 49 (.pointer (some ⟨g,0,none⟩)) 2).run Tryz.prog w=.ok (.pointer (some ⟨g,2,none⟩)) w:=c6 (o:=2) MC rfl (by kernel_rfl) rfl
theorem cO {w:World} {g:Nat}:(Instr.fieldAt 44 (.pointer (some ⟨g,0,none⟩)) 0).run Tryz.prog w=.ok (.pointer (some ⟨g,0,none⟩)) w:=c6 (o:=0) M1 rfl (by kernel_rfl) rfl
theorem du {w:World} {g:Nat}:(Instr.fieldAt 44 (.pointer (some ⟨g,0,none⟩)) 1).run Tryz.prog w=.ok (.pointer (some ⟨g,1,none⟩)) w:=c6 (o:=1) M1 rfl (by kernel_rfl) rfl
theorem eT {w:World} {g:Nat}:(Instr.fieldAt 44 (.pointer (some ⟨g,0,none⟩)) 2).run Tryz.prog w=.ok (.pointer (some ⟨g,2,none⟩)) w:=c6 (o:=2) M1 rfl (by kernel_rfl) rfl
theorem fK {w:World} {g:Nat}:(Instr.fieldAt 362 (.pointer (some ⟨g,0,none⟩)) 0).run Tryz.prog w=.ok (.pointer (some ⟨g,0,none⟩)) w:=c6 (o:=0) MS rfl (by kernel_rfl) rfl
theorem oG {w:World} {g:Nat}:(Instr.fieldAt 362 (.pointer (some ⟨g,0,none⟩)) 1).run Tryz.prog w=.ok (.pointer (some ⟨g,1,none⟩)) w:=c6 (o:=1) MS rfl (by kernel_rfl) rfl
theorem lH {w:World} {g:Nat}:(Instr.fieldAt 362 (.pointer (some ⟨g,0,none⟩)) 2).run Tryz.prog w=.ok (.pointer (some ⟨g,2,none⟩)) w:=c6 (o:=2) MS rfl (by kernel_rfl) rfl
theorem lI {w:World} {g:Nat}:(Instr.fieldAt 362 (.pointer (some ⟨g,0,none⟩)) 3).run Tryz.prog w=.ok (.pointer (some ⟨g,3,none⟩)) w:=c6 (o:=3) MS rfl (by kernel_rfl) rfl
theorem bz {w:World} {g:Nat}:(Instr.fieldAt 57 (.pointer (some ⟨g,0,none⟩)) 0).run Tryz.prog w=.ok (.pointer (some ⟨g,0,none⟩)) w:=c6 (o:=0) MM rfl (by kernel_rfl) rfl
theorem cx {w:World} {g:Nat}:(Instr.fieldAt 57 (.pointer (some ⟨g,0,none⟩)) 1).run Tryz.prog w=.ok (.pointer (some ⟨g,10,none⟩)) w:=c6 (o:=10) MM rfl (by kernel_rfl) rfl
theorem bO {w:World} {g:Nat}:(Instr.fieldAt 57 (.pointer (some ⟨g,0,none⟩)) 2).run Tryz.prog w=.ok (.pointer (some ⟨g,11,none⟩)) w:=c6 (o:=11) MM rfl (by kernel_rfl) rfl
theorem cf {w:World} {g:Nat}:(Instr.fieldAt 189 (.pointer (some ⟨g,0,none⟩)) 0).run Tryz.prog w=.ok (.pointer (some ⟨g,0,none⟩)) w:=c6 (o:=0) MY rfl (by kernel_rfl) rfl
theorem cM {w:World} {g:Nat}:(Instr.fieldAt 189 (.pointer (some ⟨g,0,none⟩)) 1).run Tryz.prog w=.ok (.pointer (some ⟨g,1,none⟩)) w:=c6 (o:=1) MY rfl (by kernel_rfl) rfl
theorem fQ {w:World} {g:Nat}:(Instr.fieldAt 404 (.pointer (some ⟨g,0,none⟩)) 0).run Tryz.prog w=.ok (.pointer (some ⟨g,0,none⟩)) w:=c6 (o:=0) Tryz.underlying404 rfl (by kernel_rfl) rfl
theorem eH {w:World} {g:Nat}:(Instr.fieldAt 404 (.pointer (some ⟨g,0,none⟩)) 1).run Tryz.prog w=.ok (.pointer (some ⟨g,12,none⟩)) w:=c6 (o:=12) Tryz.underlying404 rfl (by kernel_rfl) rfl
theorem tM {w:World} {g:Nat}:(Instr.fieldAt 282 (.pointer (some ⟨g,0,none⟩)) 0).run Tryz.prog w=.ok (.pointer (some ⟨g,0,none⟩)) w:=c6 (o:=0) M8 rfl (by kernel_rfl) rfl
theorem tN {w:World} {g:Nat}:(Instr.fieldAt 282 (.pointer (some ⟨g,0,none⟩)) 1).run Tryz.prog w=.ok (.pointer (some ⟨g,1,none⟩)) w:=c6 (o:=1) M8 rfl (by kernel_rfl) rfl
theorem ju {w:World} {g:Nat}:(Instr.fieldAt 204 (.pointer (some ⟨g,0,none⟩)) 0).run Tryz.prog w=.ok (.pointer (some ⟨g,0,none⟩)) w:=c6 (o:=0) Tryz.underlying204 rfl (by kernel_rfl) rfl
theorem fq {w:World} {g:Nat}:(Instr.fieldAt 204 (.pointer (some ⟨g,0,none⟩)) 1).run Tryz.prog w=.ok (.pointer (some ⟨g,1,none⟩)) w:=c6 (o:=1) Tryz.underlying204 rfl (by kernel_rfl) rfl
theorem eJ {w:World} {g:Nat}:(Instr.fieldAt 419 (.pointer (some ⟨g,0,none⟩)) 0).run Tryz.prog w=.ok (.pointer (some ⟨g,0,none⟩)) w:=c6 (o:=0) M6 rfl (by kernel_rfl) rfl
theorem ck {w:World} {g:Nat}:(Instr.fieldAt 419 (.pointer (some ⟨g,0,none⟩)) 1).run Tryz.prog w=.ok (.pointer (some ⟨g,4,none⟩)) w:=c6 (o:=4) M6 rfl (by kernel_rfl) rfl
theorem gT {w:World} {g:Nat}:(Instr.fieldAt 419 (.pointer (some ⟨g,0,none⟩)) 2).run Tryz.prog w=.ok (.pointer (some ⟨g,8,none⟩)) w:=c6 (o:=8) M6 rfl (by kernel_rfl) rfl
theorem jR {w:World} {a:Addr}:(Instr.fieldAt 133 (.pointer (some a)) 0).run Tryz.prog w=.ok (.pointer (some (a.add 0))) w:=CG (o:=0) MW rfl (by kernel_rfl) rfl
theorem m4 {w:World} {a:Addr}:(Instr.fieldAt 133 (.pointer (some a)) 1).run Tryz.prog w=.ok (.pointer (some (a.add 1))) w:=CG (o:=1) MW rfl (by kernel_rfl) rfl
theorem cT {w:World} {a:Addr}:(Instr.fieldAt 126 (.pointer (some a)) 2).run Tryz.prog w=.ok (.pointer (some (a.add 2))) w:=CG (o:=2) M4 rfl (by kernel_rfl) rfl
theorem rF {w:World} {a:Addr}:(Instr.fieldAt 364 (.pointer (some a)) 0).run Tryz.prog w=.ok (.pointer (some (a.add 0))) w:=CG (o:=0) M2 rfl (by kernel_rfl) rfl
theorem xw {w:World} {a:Addr}:(Instr.fieldAt 364 (.pointer (some a)) 1).run Tryz.prog w=.ok (.pointer (some (a.add 4))) w:=CG (o:=4) M2 rfl (by kernel_rfl) rfl
theorem de {w:World} {a:Addr}:(Instr.fieldAt 189 (.pointer (some a)) 0).run Tryz.prog w=.ok (.pointer (some (a.add 0))) w:=CG (o:=0) MY rfl (by kernel_rfl) rfl
theorem fS {w:World} {a:Addr}:(Instr.fieldAt 189 (.pointer (some a)) 1).run Tryz.prog w=.ok (.pointer (some (a.add 1))) w:=CG (o:=1) MY rfl (by kernel_rfl) rfl
theorem eK {w:World} {g b:Nat}:(Instr.fieldAt 362 (.pointer (some ⟨g,b,none⟩)) 0).run Tryz.prog w=.ok (.pointer (some ⟨g,b+0,none⟩)) w:=CP (o:=0) MS rfl (by kernel_rfl) rfl
theorem zD {w:World} {g b:Nat}:(Instr.fieldAt 362 (.pointer (some ⟨g,b,none⟩)) 2).run Tryz.prog w=.ok (.pointer (some ⟨g,b+2,none⟩)) w:=CP (o:=2) MS rfl (by kernel_rfl) rfl
theorem zE {w:World} {g b:Nat}:(Instr.fieldAt 362 (.pointer (some ⟨g,b,none⟩)) 3).run Tryz.prog w=.ok (.pointer (some ⟨g,b+3,none⟩)) w:=CP (o:=3) MS rfl (by kernel_rfl) rfl
theorem eN {l:List _} {v:Value} {w:World} (h:cF dZ l v w) {i:Nat} (hi:i<l.length:=by omega):∃ad cs x,x=l[i]∧(∀w':World,(Instr.indexAt 34 v (.int .i64 i)).run Tryz.prog w'=.ok (.pointer (some ad)) w')∧d8 w ad cs∧Rp w (dZ x) cs:=yg (sz:=4) MI (by kernel_rfl) wg (by omega) h hi
theorem iU {l:List _} {v:Value} {w:World} (h:cF pQ l v w) {i:Nat} (hi:i<l.length:=by omega):∃ad cs x,x=l[i]∧(∀w':World,(Instr.indexAt 54 v (.int .i64 i)).run Tryz.prog w'=.ok (.pointer (some ad)) w')∧d8 w ad cs∧Rp w (pQ x) cs:=yg (sz:=5) MO (by kernel_rfl) kI (by omega) h hi
theorem kG {l:List _} {v:Value} {w:World} (h:cF vj l v w) {i:Nat} (hi:i<l.length:=by omega):∃ad cs x,x=l[i]∧(∀w':World,(Instr.indexAt 55 v (.int .i64 i)).run Tryz.prog w'=.ok (.pointer (some ad)) w')∧d8 w ad cs∧Rp w (vj x) cs:=yg (sz:=6) MN (by kernel_rfl) er (by omega) h hi
theorem gU {l:List _} {v:Value} {w:World} (h:cF iI l v w) {i:Nat} (hi:i<l.length:=by omega):∃ad cs x,x=l[i]∧(∀w':World,(Instr.indexAt 124 v (.int .i64 i)).run Tryz.prog w'=.ok (.pointer (some ad)) w')∧d8 w ad cs∧Rp w (iI x) cs:=yg (sz:=7) MV (by kernel_rfl) mA (by omega) h hi
theorem dJ {l:List _} {v:Value} {w:World} (h:cF dQ l v w) {i:Nat} (hi:i<l.length:=by omega):∃ad cs x,x=l[i]∧(∀w':World,(Instr.indexAt 42 v (.int .i64 i)).run Tryz.prog w'=.ok (.pointer (some ad)) w')∧d8 w ad cs∧Rp w (dQ x) cs:=yg (sz:=3) MK (by kernel_rfl) gy (by omega) h hi
theorem cU {l:List _} {v:Value} {w:World} (h:cF kW l v w) {i:Nat} (hi:i<l.length:=by omega):∃ad cs x,x=l[i]∧(∀w':World,(Instr.indexAt 45 v (.int .i64 i)).run Tryz.prog w'=.ok (.pointer (some ad)) w')∧d8 w ad cs∧Rp w (kW x) cs:=yg (sz:=4) ML (by kernel_rfl) gY (by omega) h hi
theorem nm:(Tryz.prog.info? 34).map (·.size)=some 1:=by kernel_rfl
theorem pj:(Tryz.prog.info? 54).map (·.size)=some 1:=by kernel_rfl
theorem sP:(Tryz.prog.info? 55).map (·.size)=some 1:=by kernel_rfl
theorem wl:(Tryz.prog.info? 42).map (·.size)=some 1:=by kernel_rfl
theorem pZ:(Tryz.prog.info? 45).map (·.size)=some 1:=by kernel_rfl
theorem JL:(Tryz.prog.info? 237).map (·.size)=some 1:=by kernel_rfl
theorem ay:(Tryz.prog.info? 51).map (·.size)=some 4:=by kernel_rfl
theorem cH:(Tryz.prog.info? 133).map (·.size)=some 5:=by kernel_rfl
theorem dy:(Tryz.prog.info? 285).map (·.size)=some 3:=by kernel_rfl
theorem dg:(Tryz.prog.info? 36).map (·.size)=some 3:=by kernel_rfl
theorem bE:(Tryz.prog.info? 155).map (·.size)=some 2:=by kernel_rfl
theorem iL:(Tryz.prog.info? 126).map (·.size)=some 6:=by kernel_rfl
theorem eO:(Tryz.prog.info? 364).map (·.size)=some 7:=by kernel_rfl
theorem cV:(Tryz.prog.info? 53).map (·.size)=some 10:=by kernel_rfl
theorem ag:(Tryz.prog.info? 49).map (·.size)=some 3:=by kernel_rfl
theorem dM:(Tryz.prog.info? 44).map (·.size)=some 3:=by kernel_rfl
theorem cX:(Tryz.prog.info? 362).map (·.size)=some 4:=by kernel_rfl
theorem bg:(Tryz.prog.info? 57).map (·.size)=some 12:=by kernel_rfl
theorem dG:(Tryz.prog.info? 189).map (·.size)=some 4:=by kernel_rfl
theorem zG:(Tryz.prog.info? 4).map (·.size)=some 1:=by kernel_rfl
theorem jS:(Tryz.prog.info? 3).map (·.size)=some 1:=by kernel_rfl
theorem fD:(Tryz.prog.info? 419).map (·.size)=some 11:=by kernel_rfl
theorem cd:(Tryz.prog.info? 51).map (·.zero)=some (some (.agg #[.slice none 0 0,B false,.slice none 0 0,.slice none 0 0])):=by kernel_rfl
theorem iM:(Tryz.prog.info? 133).map (·.zero)=some (some (.agg #[I 0,I 0,B false,.slice none 0 0,.slice none 0 0])):=by kernel_rfl
theorem gV:(Tryz.prog.info? 285).map (·.zero)=some (some (.agg #[B false,.slice none 0 0,I 0])):=by kernel_rfl
theorem kK:(Tryz.prog.info? 36).map (·.zero)=some (some (.agg #[I 0,.slice none 0 0,.slice none 0 0])):=by kernel_rfl
theorem dX:(Tryz.prog.info? 155).map (·.zero)=some (some (.agg #[B false,.slice none 0 0])):=by kernel_rfl
theorem p3:(Tryz.prog.info? 126).map (·.zero)=some (some (.agg #[I 0,B false,B false,.slice none 0 0,.slice none 0 0,.slice none 0 0])):=by kernel_rfl
theorem oH:(Tryz.prog.info? 364).map (·.zero)=some (some (.agg #[I 0,I 0,I 0,I 0,B false,.slice none 0 0,.slice none 0 0])):=by kernel_rfl
theorem uv:(Tryz.prog.info? 53).map (·.zero)=some (some (.agg #[I 0,.slice none 0 0,.slice none 0 0,.slice none 0 0,.slice none 0 0,.slice none 0 0,.slice none 0 0,B false,.slice none 0 0,.slice none 0 0])):=by kernel_rfl
theorem bv:(Tryz.prog.info? 49).map (·.zero)=some (some (.agg #[B false,.slice none 0 0,.slice none 0 0])):=by kernel_rfl
theorem jT:(Tryz.prog.info? 44).map (·.zero)=some (some (.agg #[.slice none 0 0,.slice none 0 0,.slice none 0 0])):=by kernel_rfl
theorem j9:(Tryz.prog.info? 362).map (·.zero)=some (some (.agg #[I 0,I 0,I 0,I 0])):=by kernel_rfl
theorem fp:(Tryz.prog.info? 57).map (·.zero)=some (some (.agg #[I 0,.slice none 0 0,.slice none 0 0,.slice none 0 0,.slice none 0 0,.slice none 0 0,.slice none 0 0,B false,.slice none 0 0,.slice none 0 0,.slice none 0 0,.slice none 0 0])):=by kernel_rfl
theorem jl:(Tryz.prog.info? 189).map (·.zero)=some (some (.agg #[I 0,B false,.slice none 0 0,.slice none 0 0])):=by kernel_rfl
theorem iZ:(Tryz.prog.info? 419).map (·.zero)=some (some (.agg #[.slice none 0 0,B false,.slice none 0 0,.slice none 0 0,I 0,I 0,I 0,I 0,B false,.slice none 0 0,.slice none 0 0])):=by kernel_rfl
end Go.Rl
namespace Go.Rl
open Go.RowKit
section
variable {P:Program} {Q:ie} {N:Nat} {D:List Deferred}
def np:List Oper→Nat→Nat→List Oper
 |[],_,_=>[]
 |o::os,0,q=>⟨o.dst,o.op,o.type,o.pos,o.after.push ⟨q,.phase⟩,o.guard⟩::os
 |o::os,m+1,q=>o::np os m q
theorem p4:∀(os:List Oper) (m q:Nat),(np os m q).length=os.length
 |[],_,_=>rfl
 |_::_,0,_=>rfl
 |o::os,m+1,q=>by simp only[np,List.length_cons,p4 os m q]
theorem vm:∀(os:List Oper) (m q i:Nat),i≠m→(np os m q)[i]? =os[i]?
 |[],_,_,_,_=>rfl
 |_::_,0,_,0,h=>absurd rfl h
 |_::_,0,_,i+1,_=>by simp[np]
 |_::_,m+1,_,0,_=>by simp[np]
 |o::os,m+1,q,i+1,h=>by simpa [np] using vm os m q i (by omega)
theorem sQ:∀(os:List Oper) (m q:Nat) (o:Oper),os[m]? =some o→(np os m q)[m]? =some ⟨o.dst,o.op,o.type,o.pos,o.after.push ⟨q,.phase⟩,o.guard⟩
 |[],_,_,_,h=>by simp at h
 |o::os,0,q,o',h=>by
  obtain rfl:o=o':=by simpa using h
  simp[np]
 |o::os,m+1,q,o',h=>by simpa [np] using sQ os m q o' (by simpa using h)
theorem iN {os:List Oper} {m q i:Nat} {listed:Array Bool}:i∈Region.ready .any (np os m q).toArray listed↔i∈Region.ready .any os.toArray listed∧(i=m→listed.getD q false=true):=by
 rw[mem_ready,mem_ready]
 by_cases him:i=m
 ·subst him
  constructor
  ·rintro⟨h1,o',ho',hall⟩
   have ho'':(np os i q)[i]? =some o':=by simpa using ho'
   cases ho:os[i]? with
   |none=>
    have:os.length≤i:=List.getElem?_eq_none_iff.1 ho
    rw[List.getElem?_eq_none_iff.2 (by rw[p4];exact this)] at ho''
    cases ho''
   |some o=>
    rw[sQ os i q o ho] at ho''
    obtain rfl:=Nc ho''
    exact⟨⟨h1,o,by simpa using ho,fun e he hb=>hall e (Array.mem_push_of_mem _ he) hb⟩,fun _=>hall ⟨q,.phase⟩ Array.mem_push_self J⟩
  ·rintro⟨⟨h1,o,ho,hall⟩,hq⟩
   have ho':os[i]? =some o:=by simpa using ho
   refine⟨h1,_,by simpa using sQ os i q o ho',fun e he hb=>?_⟩
   rcases Array.mem_push.1 he with he|rfl
   ·exact hall e he hb
   ·exact hq J
 ·have e:(np os m q).toArray[i]? =os.toArray[i]? :=by simpa using vm os m q i him
  rw[e]
  exact⟨fun h=>⟨h,fun h'=>absurd h' him⟩,fun h=>h.1⟩
theorem zH (os:List Oper) (m q:Nat) (ts:Array Value):yielded (np os m q).toArray ts=yielded os.toArray ts:=by
 funext j
 unfold yielded
 by_cases hj:j=m
 ·subst hj
  cases ho:os[j]? with
  |none=>
   have:os.length≤j:=List.getElem?_eq_none_iff.1 ho
   rw[List.getElem?_toArray,List.getElem?_toArray,ho,List.getElem?_eq_none_iff.2 (by rw[p4];exact this)]
  |some o=>rw[List.getElem?_toArray,List.getElem?_toArray,ho,sQ os j q o ho];rfl
 ·rw[List.getElem?_toArray,List.getElem?_toArray,vm os m q j hj]
theorem yh {os:List Oper} {m q i:Nat} {K:Act→World→Prop} {a:Act} {w:World}:wpOp P (np os m q).toArray Q i K a w↔wpOp P os.toArray Q i K a w:=by
 unfold wpOp
 rw[zH]
 by_cases hj:i=m
 ·subst hj
  cases ho:os[i]? with
  |none=>
   have:os.length≤i:=List.getElem?_eq_none_iff.1 ho
   rw[List.getElem?_toArray,List.getElem?_toArray,ho,List.getElem?_eq_none_iff.2 (by rw[p4];exact this)]
  |some o=>rw[List.getElem?_toArray,List.getElem?_toArray,ho,sQ os i q o ho];exact Iff.rfl
 ·rw[List.getElem?_toArray,List.getElem?_toArray,vm os m q i hj]
def KD (os:List Oper) (m q:Nat):Bool:=match os[q]?,os[m]? with
 |some oq,some om=>oq.after.all fun e=> !Region.binds .any e||om.after.any fun e'=>Region.binds .any e'&&decide (e'.on=e.on)
 |_,_=>false
def H2 (os:List Oper) (q:Nat):Array Bool:=match os[q]? with
 |some oq=>Array.ofFn fun j:Fin os.length=>oq.after.any fun e=>Region.binds .any e&&decide (e.on=j.val)
 |none=>#[]
def Ez (os:List Oper) (m q:Nat):Bool:=
 decide (m≠q)&&decide (q<os.length)&&(match os[q]? with|some o=>pJ o|none=>false)&&Region.noSelect os.toArray&&Region.free .any os.toArray (H2 os q) q&&KD os m q
theorem CQ {os:List Oper} {m q:Nat} (hB:Ez os m q=true) (hQ:∀c a w,¬Q (.panic c) a w) (hno:¬LetsOut Q):∀(fuel:Nat) (listed:Array Bool) (a:Act) (w:World),q<listed.size→wpAny P .any (np os m q).toArray Q fuel listed a w→wpAny P .any os.toArray Q fuel listed a w:=by
 simp only[Ez,Bool.and_eq_true,decide_eq_true_eq] at hB
 obtain⟨⟨⟨⟨⟨hmq,hql⟩,hquiet⟩,hsel⟩,hfree⟩,hdeps⟩:=hB
 obtain⟨oq,hoq⟩:∃o,os[q]? =some o:=⟨_,List.getElem?_eq_getElem hql⟩
 rw[hoq] at hquiet
 have hquiet:pJ oq=true:=hquiet
 have hoq':os.toArray[q]? =some oq:=by simpa using hoq
 have hfr:=Region.free_spec hoq' hfree
 have key:∀listed:Array Bool,q<listed.size→m∈Region.ready .any os.toArray listed→¬listed.getD q false=true→q∈Region.ready .any os.toArray listed:=by
  intro listed hsz hm hq
  obtain⟨_,om,hom,hall⟩:=mem_ready.1 hm
  refine mem_ready.2 ⟨?_,oq,hoq',fun e he hb=>?_⟩
  ·cases hl:listed.getD q true with
   |false=>rfl
   |true=>
    refine absurd ?_ hq
    simp only[Array.getD,hsz,dif_pos] at hl⊢
    exact hl
  ·unfold KD at hdeps
   have hom':os[m]? =some om:=by simpa using hom
   rw[hoq,hom'] at hdeps
   have h1:=(Array.all_eq_true'.1 hdeps) e he
   simp only[Bool.or_eq_true,Bool.not_eq_true'] at h1
   rcases h1 with h1|h1
   ·rw[hb] at h1;cases h1
   ·obtain⟨e',he',h2⟩:=Array.any_eq_true'.1 h1
    simp only[Bool.and_eq_true,decide_eq_true_eq] at h2
    rw[←h2.2]
    exact hall e' he' h2.1
 have hwant:∀a:Act,Region.wanted oq (yielded os.toArray a.tmps)=true:=fun a=>by
  unfold pJ at hquiet
  simp only[Bool.and_eq_true,Option.isNone_iff_eq_none] at hquiet
  unfold Region.wanted
  rw[hquiet.1.1]
 intro fuel
 induction fuel with
 |zero=>
  intro listed a w hsz h
  refine⟨?_,h.2⟩
  cases hr:Region.ready .any os.toArray listed with
  |nil=>rfl
  |cons i is=>
   exfalso
   have hi:i∈Region.ready .any os.toArray listed:=by rw[hr];simp
   by_cases hc:i=m→listed.getD q false=true
   ·have:=iN (q:=q)|>.2 ⟨hi,hc⟩
    rw[h.1] at this;cases this
   ·have him:i=m:=Decidable.byContradiction fun h=>hc fun h'=>absurd h' h
    subst him
    have hq:¬listed.getD q false=true:=fun h=>hc fun _=>h
    have:=iN (m:=i) (q:=q)|>.2 ⟨key listed hsz hi hq,fun e=>absurd e.symm hmq⟩
    rw[h.1] at this;cases this
 |succ fuel ih=>
  intro listed a w hsz h
  by_cases hq:q∈Region.ready .any os.toArray listed
  ·have hq':q∈Region.ready .any (np os m q).toArray listed:=iN.2 ⟨hq,fun e=>absurd e.symm hmq⟩
   have h1:=yh.1 (h.2 q hq')
   unfold wpOp at h1
   rw[hoq'] at h1
   dsimp only at h1
   rw[if_pos (hwant a)] at h1
   have h1:=h1.resolve_right fun h=>hno h.2
   unfold Oper.wp at h1
   rcases xZ (P:=P) hquiet a.eval with⟨v,hv⟩|⟨x,hx,hv⟩
   ·rw[hv w] at h1
    exact wpAny_first hoq' (Region.noSelect_spec hsel) (fun c a w hp=>absurd hp (hQ _ _ _)) fuel listed a w (fun j oj hj hne hun hn=>hfr j oj hj hne (by
     have hjl:j<os.length:=by simpa using(Array.getElem?_eq_some_iff.1 hj).1
     unfold H2
     rw[hoq]
     dsimp only
     simp only[Array.getD,Array.size_ofFn,hjl,dif_pos]
     show(Array.ofFn _)[j]'_=false
     rw[Array.getElem_ofFn]
     refine Bool.eq_false_iff.2 fun hany=>?_
     obtain⟨e,he,h2⟩:=Array.any_eq_true'.1 hany
     simp only[Bool.and_eq_true,decide_eq_true_eq] at h2
     obtain⟨_,oq',hoq'',hall⟩:=mem_ready.1 hq
     obtain rfl:oq=oq':=Nc (hoq'.symm.trans hoq'')
     have h3:=hall e he h2.1
     rw[h2.2,getD_both hun] at h3
     cases h3) hn) hq (.inl ⟨hwant a,hv⟩) (ih _ _ _ (by simpa using hsz) h1)
   ·rw[hv w] at h1
    cases x<;>first|exact absurd rfl (hx _)|exact h1.elim
  ·refine⟨fun hr=>h.1 ?_,fun i hi=>?_⟩
   ·cases hr':Region.ready .any (np os m q).toArray listed with
    |nil=>rfl
    |cons i is=>
     have hi:i∈Region.ready .any (np os m q).toArray listed:=by rw[hr'];simp
     have:=(iN.1 hi).1
     rw[hr] at this;cases this
   ·have hi':i∈Region.ready .any (np os m q).toArray listed:=by
     refine iN.2 ⟨hi,fun e=>?_⟩
     subst e
     exact Decidable.byContradiction fun hn=>hq (key listed hsz hi hn)
    exact wpOp_mono (fun a' w' h'=>ih _ _ _ (by simpa using hsz) h') (yh.1 (h.2 i hi'))
def i6 (os:List Oper):List (Nat×Nat)→List Oper
 |[]=>os
 |p::ps=>np (i6 os ps) p.1 p.2
def wm (os:List Oper):List (Nat×Nat)→Bool
 |[]=>true
 |p::ps=>wm os ps&&Ez (i6 os ps) p.1 p.2
theorem tO (os:List Oper):∀ps,(i6 os ps).length=os.length
 |[]=>rfl
 |p::ps=>by rw[i6,p4,tO os ps]
theorem uw {os:List Oper} (hQ:∀c a w,¬Q (.panic c) a w) (hno:¬LetsOut Q):∀(ps:List (Nat×Nat)),wm os ps=true→∀(fuel:Nat) (listed:Array Bool) (a:Act) (w:World),listed.size=os.length→wpAny P .any (i6 os ps).toArray Q fuel listed a w→wpAny P .any os.toArray Q fuel listed a w
 |[],_,_,_,_,_,_,h=>h
 |p::ps,hB,fuel,listed,a,w,hsz,h=>by
  simp only[wm,Bool.and_eq_true] at hB
  refine uw hQ hno ps hB.1 fuel listed a w hsz (CQ hB.2 hQ hno fuel listed a w ?_ h)
  have h2:=hB.2
  simp only[Ez,Bool.and_eq_true,decide_eq_true_eq] at h2
  have:=h2.1.1.1.1.2
  rw[tO] at this
  omega
theorem H3 {l:Fr} {w:World} {id:Nat} {os:List Oper} (n:Nat) (ps:List (Nat×Nat)) (perm:List Nat) (ts:List Nat) (Env:World→Prop) (Rl:World→World→Prop) (mo:Bool) (Z:kX) (hE:lW Env Rl) (he:Env w) (hZ:el Z) (hz:Z w) (hcalls:mo=true→kY .any (i6 os ps).toArray=true) (hm:P.follows .mixedOrders=true) (hE2:wm os ps=true) (hB:Et (i6 os ps).toArray n perm=true) (hp:(perm.all fun i=>decide (i<(i6 os ps).length))=true)
 (h:gf P (i6 os ps).toArray Env Rl mo AD N ((i6 os ps).take n) (y6 l) Z (fun F Z=>∀w',Env w'→Z w'→mW F w' ts (fun l'=>di P (i6 os ps).toArray (mR Q) N D l' w' (zB (i6 os ps) perm)))):d5 P Q N D l w (.region id os.toArray true):=fun a ha=>by
 refine wp_mono (wp_region_any (Q:=mR Q) hm ?_) fun e a w he=>by obtain⟨rfl,h⟩:=he;exact h
 have h1:=zC (D:=D) (Q:=Q) hE (fun _ _ h=>h) hcalls hB hp (ob l) hZ hz he (Ld (w:={w with drawn:=w.drawn+1}) ha) (lX _ _ _ (fun F Z hK a' w' he hs hz=>by
  obtain⟨l',hl',hk⟩:=mW.use hs (hK w' he hz)
  exact hk a' hl':∀F (Z:kX),_→(∀a' w',Env w'→Cj N D F a' w'→Z w'→wpList P (i6 os ps).toArray (mR Q) (zB (i6 os ps) perm) a' w')) h)
 have e:(i6 os ps).toArray.size=os.toArray.size:=by simpa using tO os ps
 rw[e] at h1
 exact uw (fun c a w hp=>by obtain⟨hp,_⟩:=hp;cases hp) CI ps hE2 _ _ a _ (by simp) h1
theorem m5 {l:Fr} {w:World} {id:Nat} {os:List Oper} (n:Nat) (ps:List (Nat×Nat)) (perm:List Nat) (ts:List Nat) (hm:P.follows .mixedOrders=true) (hE2:wm os ps=true) (hB:Et (i6 os ps).toArray n perm=true) (hp:(perm.all fun i=>decide (i<(i6 os ps).length))=true)
 (h:gf P (i6 os ps).toArray (aH w) aH false AD N ((i6 os ps).take n) (y6 l) (fun _=>True) (fun F _=>∀w',aH w w'→mW F w' ts (fun l'=>di P (i6 os ps).toArray (mR Q) N D l' w' (zB (i6 os ps) perm)))):d5 P Q N D l w (.region id os.toArray true):=
 H3 n ps perm ts (aH w) aH false (fun _=>True) (lW.plain w) (aH.refl w) el.triv trivial (fun h=>by cases h) hm hE2 hB hp (lX _ _ _ (fun _ _ h w' he _=>h w' he) h)
end
end Go.Rl
namespace Go.Rl
theorem EA {l:List UInt32} {i:Nat} (h:i<l.length) (x:UInt32):val (l.set i x)+4294967296^i*l[i].toNat=val l+4294967296^i*x.toNat:=by
 have h1:=fe l i (by omega)
 have h2:=fe (l.set i x) i (by simp;omega)
 rw[oh h,List.take_set_of_le (Nat.le_refl _)] at h2
 rw[fV h] at h1
 rw[h1,h2]
 simp only[Nat.mul_add];omega
theorem Mg {x y o:UInt32} {c:UInt64} (hc:c.toNat<4294967296):(c+(x.toUInt64*y.toUInt64+o.toUInt64)).toNat=c.toNat+(x.toNat*y.toNat+o.toNat):=by
 have hx:=dk x
 have hy:=dk y
 have ho:=dk o
 have h1:x.toNat*y.toNat≤4294967295*4294967295:=Ns (by omega) (by omega)
 rw[mj,mj,vH,fX,fX,fX]
 omega
theorem Bg {L:List UInt32} {j V:Nat} {x y:UInt32} {c t:UInt64} (hj:j<L.length) (hc:c.toNat<4294967296) (ht:t=c+(x.toUInt64*y.toUInt64+L[j].toUInt64)) (hinv:val L+4294967296^j*c.toNat=V):
 val (L.set j t.toUInt32)+4294967296^(j+1)*(t>>>UInt64.ofNat 32).toNat=V+4294967296^j*(x.toNat*y.toNat)∧(t>>>UInt64.ofNat 32).toNat<4294967296:=by
 have h1:=Mg (x:=x) (y:=y) (o:=L[j]) hc
 rw[←ht] at h1
 have h2:=pz t (s:=32) (by omega)
 have h3:=EA hj t.toUInt32
 rw[lc] at h3
 have hx:=dk x
 have hy:=dk y
 have ho:=dk L[j]
 have h4:x.toNat*y.toNat≤4294967295*4294967295:=Ns (by omega) (by omega)
 have h5:t.toNat<18446744073709551616:=vG t
 simp only[Nat.reducePow] at h2
 refine⟨?_,by omega⟩
 rw[h2,Nat.pow_succ,Nat.mul_assoc]
 have h6:4294967296^j*(t.toNat%4294967296)+4294967296^j*(4294967296*(t.toNat/4294967296))=4294967296^j*c.toNat+4294967296^j*(x.toNat*y.toNat)+4294967296^j*L[j].toNat:=by
  rw[←Nat.mul_add,←Nat.mul_add,←Nat.mul_add]
  congr 1
  omega
 omega
theorem EB {p q:UInt32} {c:UInt64} (hc:c.toNat≤1):(c+p.toUInt64+q.toUInt64).toNat=c.toNat+p.toNat+q.toNat:=by
 have:=dk p
 have:=dk q
 rw[mj,mj,fX,fX];omega
theorem EC {p:UInt32} {c:UInt64} (hc:c.toNat≤1):(c+p.toUInt64).toNat=c.toNat+p.toNat:=by
 have:=dk p
 rw[mj,fX];omega
theorem yi {a b L:List UInt32} {i:Nat} {c x:UInt64} (hi:i<L.length) (hc:c.toNat≤1) (hinv:val (L.take i)+4294967296^i*c.toNat=val (a.take i)+val (b.take i)) (hx:x.toNat=c.toNat+(a.getD i 0).toNat+(b.getD i 0).toNat):
 val ((L.set i x.toUInt32).take (i+1))+4294967296^(i+1)*(x>>>UInt64.ofNat 32).toNat=val (a.take (i+1))+val (b.take (i+1))∧(x>>>UInt64.ofNat 32).toNat≤1:=by
 have ha:=dk (a.getD i 0)
 have hb:=dk (b.getD i 0)
 have h2:=pz x (s:=32) (by omega)
 simp only[Nat.reducePow] at h2
 refine⟨?_,by omega⟩
 rw[fH hi,lc,h2,fj,fj,Nat.pow_succ,Nat.mul_assoc]
 have h6:4294967296^i*(x.toNat%4294967296)+4294967296^i*(4294967296*(x.toNat/4294967296))=4294967296^i*c.toNat+4294967296^i*(a.getD i 0).toNat+4294967296^i*(b.getD i 0).toNat:=by
  rw[←Nat.mul_add,←Nat.mul_add,←Nat.mul_add]
  congr 1
  omega
 omega
theorem ED {p q:UInt32} {d:UInt64} (hd:d.toNat≤1):(p.toUInt64-d-q.toUInt64).toNat=(18446744073709551616+p.toNat-d.toNat-q.toNat)%18446744073709551616:=by
 have:=dk p
 have:=dk q
 rw[pe,pe,fX,fX];omega
theorem EE {p:UInt32} {d:UInt64} (hd:d.toNat≤1):(p.toUInt64-d).toNat=(18446744073709551616+p.toNat-d.toNat-0)%18446744073709551616:=by
 have:=dk p
 rw[pe,fX];omega
theorem yj {a b L:List UInt32} {i:Nat} {d x:UInt64} (hi:i<L.length) (hd:d.toNat≤1) (hinv:val (a.take i)+4294967296^i*d.toNat=val (L.take i)+val (b.take i)) (hx:x.toNat=(18446744073709551616+(a.getD i 0).toNat-d.toNat-(b.getD i 0).toNat)%18446744073709551616):
 val (a.take (i+1))+4294967296^(i+1)*(x>>>UInt64.ofNat 63).toNat=val ((L.set i x.toUInt32).take (i+1))+val (b.take (i+1))∧(x>>>UInt64.ofNat 63).toNat≤1:=by
 have ha:=dk (a.getD i 0)
 have hb:=dk (b.getD i 0)
 have h2:=pz x (s:=63) (by omega)
 simp only[Nat.reducePow] at h2
 refine⟨?_,by omega⟩
 rw[fH hi,lc,h2,fj,fj,Nat.pow_succ,Nat.mul_assoc]
 have h6:4294967296^i*(a.getD i 0).toNat+4294967296^i*(4294967296*(x.toNat/9223372036854775808))=4294967296^i*(x.toNat%4294967296)+4294967296^i*d.toNat+4294967296^i*(b.getD i 0).toNat:=by
  rw[←Nat.mul_add,←Nat.mul_add,←Nat.mul_add]
  congr 1
  omega
 omega
theorem jh {l:List UInt32} {i:Nat} (h:i<l.length):l.getD i 0=l[i]:=by simp[List.getD,List.getElem?_eq_getElem h]
theorem vn {l:List UInt32} {i:Nat} (h:l.length≤i):l.getD i 0=0:=by simp[List.getD,List.getElem?_eq_none h]
theorem Bh (l:List UInt32) (i:Nat):val (l.take i)<4294967296^i:=by
 refine Nk (c9 _) (Nj (by omega) ?_)
 rw[List.length_take];omega
end Go.Rl
namespace Go.Rl
open Go.RowKit Go.Proofs
theorem lQ:az Tryz.prog 251:=⟨_,Tryz.func251,by kernel_rfl,rfl⟩
theorem yk:az Tryz.prog 308:=⟨_,Tryz.func308,by kernel_rfl,rfl⟩
theorem yl:az Tryz.prog 309:=⟨_,Tryz.func309,by kernel_rfl,rfl⟩
theorem nG:az Tryz.prog 144:=⟨_,Tryz.func144,by kernel_rfl,rfl⟩
theorem FU:az Tryz.prog 337:=⟨_,Tryz.func337,by kernel_rfl,rfl⟩
theorem lR {w:World} {l m:List UInt32} {v u:Value} (hv:bH l v w) (hu:bH m u w) (hl:l.length≤1099511627776) (hm:m.length≤1099511627776):
 Calls Tryz.prog 251 #[v,u] w (cA fun r w'=>aH w w'∧bH (lb (val l*val m)) r w'):=by
 refine enter Tryz.func251 J J J ?_
 obtain⟨a,ha⟩:∃a,a=lb (val l):=⟨_,rfl⟩
 obtain⟨b,hb⟩:∃b,b=lb (val m):=⟨_,rfl⟩
 have hva:val a=val l:=by rw[ha,bk]
 have hvb:val b=val m:=by rw[hb,bk]
 have hal:a.length≤1099511627776:=by rw[ha];exact Nb (fM (c9 l)) hl
 have hbl:b.length≤1099511627776:=by rw[hb];exact Nb (fM (c9 m)) hm
 refine bc (aa J J (dR (ab J J (aq dz J J (dB hv) ?_))))
 rintro v12 _ ⟨rfl,b12⟩
 rw[←ha] at b12
 refine ab J J (aq dz J J (dB hu) ?_)
 rintro v14 _ ⟨rfl,b14⟩
 rw[←hb] at b14
 refine aa J J (aa J J (aI (aj (bc (ab J J (bn J J (bR MD b12) (ao J J J (aO) (ab J J (lx (fun h18=>?_) (fun h18=>?_))))))))))
 ·refine bf J J J (bf J J J (bf J J J (aR J J J (aI (cg J (bc (aa J J (aI (aD (a0 (aF J J ?_)))))))))))
  exact⟨_,J,aH.refl _,by
   have h0:val l*val m=0:=by
    first
    |(have h1:a=[]:=Nm (by omega)
      rw[←hva,h1];simp[val])
    |(have h1:b=[]:=Nm (by omega)
      rw[←hvb,h1];simp[val])
   rw[h0,fG];exact bH.nil _⟩
 ·refine an J (ab J J (an J (bn J J (bR MD b14) (an J (ao J J J (aO) (aG J J J (ar ?_)))))))
  refine ah (ci J (fun h22=>?_) (fun h22=>?_))
  ·refine bc (aa J J (aI (aD (a0 (aF J J ?_)))))
   exact⟨_,J,aH.refl _,by
    have h0:val l*val m=0:=by
     first
     |(have h1:a=[]:=Nm (by omega)
       rw[←hva,h1];simp[val])
     |(have h1:b=[]:=Nm (by omega)
       rw[←hvb,h1];simp[val])
    rw[h0,fG];exact bH.nil _⟩
  ·refine aA (ah (bc (ab J J (bn J J (bR MD b12) (ab J J (bn J J (bR MD b14) ?_))))))
   refine ao (r:=I (((a.length)+b.length:Nat):Int)) J J J (by have e:(((a.length)+b.length:Nat):Int)=(a.length:Int)+(b.length:Int):=(by omega);rw[e];exact aY) ?_
   obtain⟨v28,w28,hr28,x28,o28,ob28⟩:=py MD (w:=w) w.heap.size (n:=a.length+b.length) (by omega) (Ng _)
   refine fL J J J hr28 (aa J J (aI (aj (bc (ab J J (bn J J (bR Tryz.underlying47 (b12.ext x28)) (ab J J (aI (aJ (iy (fun(i:Nat) (L:List UInt32)=>[(1,v14),(5,v28),(29,v12),(30,I (a.length:Int)),(31,I (i:Int))]) (fun(i:Nat) (L:List UInt32) w'=>eY w.heap.size L v28 w'∧aH w w'∧i≤a.length∧L.length=a.length+b.length∧val L=val (a.take i)*val b∧L.drop (i+b.length)=(List.replicate (a.length+b.length) 0).drop (i+b.length)) (fun(i:Nat) (L:List UInt32)=>a.length-i) (0) (List.replicate (a.length+b.length) 0) ⟨J,J,J,J,J,trivial⟩ ⟨o28,x28,by simp,by simp,by simp[val,lO],rfl⟩ ?_))))))))))
   rintro i L w6 ⟨oL,e6,hi,hL,hval,hz⟩
   refine bc (ao J J J (aX) (aI (aj (ci J (fun h32=>?_) (fun h32=>?_)))))
   ·refine aA (ah (aj (aJ (bc (ab J J ?_)))))
    obtain⟨a34,p34,q34⟩:=dN MD (b12.ext e6) (i:=i) (by omega) .i64
    refine aE J J J (p34 _) (ak J J (ai Tryz.underlying253 J q34) (aa J J (aa J J (dR (aa J J (aI (aj (bc (ab J J (bn J J (bR Tryz.underlying47 (b14.ext e6)) (ab J J (aI (aJ (fi (fun(k:Nat) (M:List UInt32) (c:UInt64)=>[(1,v14),(5,v28),(6,I (i:Int)),(7,ep (a[i]'(by omega))),(8,fB c),(29,v12),(30,I (a.length:Int)),(31,I (i:Int)),(36,v14),(37,I (b.length:Int)),(38,I (k:Int))]) (fun(k:Nat) (M:List UInt32) (c:UInt64) w'=>eY w.heap.size M v28 w'∧aH w w'∧k≤b.length∧M.length=a.length+b.length∧c.toNat<4294967296∧val M+4294967296^(i+k)*c.toNat=val L+4294967296^i*((a[i]'(by omega)).toNat*val (b.take k))∧M.drop (i+b.length)=L.drop (i+b.length)) (fun(k:Nat) (M:List UInt32) (c:UInt64)=>b.length-k) (0) (L) (0) ⟨J,J,J,J,J,J,J,J,J,J,J,trivial⟩ ⟨oL,e6,by simp,hL,by simp,by simp[val],rfl⟩ ?_))))))))))))))
    rintro k M c w10 ⟨oM,e10,hk,hM,hc,hinv,hMd⟩
    refine bc (ao J J J (aX) (aI (aj (ci J (fun h39=>?_) (fun h39=>?_)))))
    ·refine aA (ah (aj (aJ (bc (ab J J ?_)))))
     obtain⟨a41,p41,q41⟩:=dN MD (b14.ext e10) (i:=k) (by omega) .i64
     refine aE J J J (p41 _) (ak J J (ai MF J q41) (aa J J (aa J J (dR (ab J J (ab J J (cm J J (cr MF MJ) (ab J J (cm J J (cr MF MJ) (ao J J J (qG) (ab J J (ab J J (ab J J (ao (r:=I ((i+k:Nat):Int)) J J J (by have e:((i+k:Nat):Int)=(i:Int)+(k:Int):=(by omega);rw[e];exact aY) ?_))))))))))))))
     have hjk:i+k<M.length:=by omega
     obtain⟨a53,p53,q53⟩:=dN MD oM.wds (i:=(i+k:Nat)) (by omega) .i64
     refine aE J J J (p53 _) (ak J J (ai MF J q53) (cm J J (cr MF MJ) (ao J J J (eq) (ao J J J (eq) (aa J J (aI (aj ?_)))))))
     obtain⟨t,ht⟩:∃t,t=c+((a[i]'(by omega)).toUInt64*(b[k]'(by omega)).toUInt64+(M[i+k]'(by omega)).toUInt64):=⟨_,rfl⟩
     refine ae (ab J J (ab J J (ab J J (ao (r:=I ((i+k:Nat):Int)) J J J (by have e:((i+k:Nat):Int)=(i:Int)+(k:Int):=(by omega);rw[e];exact aY) (ab J J (cm J J (c7 MJ MF) ?_))))))
     obtain⟨g64,w64,p64,s64,o64,q64,hb64,c64,ob64⟩:=(oM).setW MD (i:=(i+k)) (by omega) ((c+((a[i]'(by omega)).toUInt64*(b[k]'(by omega)).toUInt64+(M[i+k]'(by omega)).toUInt64)).toUInt32)
     refine aE J J J (p64 _) (dH J J s64 ?_)
     have x64:=aH.of_new (e10) q64 hb64
     refine aI (ae (ab J J (ao J J J (ei 32 (by omega)) (aa J J (ar (aW (ah (ae (ao (r:=I ((k+1:Nat):Int)) J J J (by have e:((k+1:Nat):Int)=(k:Int)+1:=(by omega);rw[e];exact aY) (ab J J (ar ?_)))))))))))
     have st:=Bg (L:=M) (j:=i+k) hjk hc ht hinv
     rw[ht] at st
     refine cK (k+1) (_) (_) ⟨J,J,J,J,J,J,J,J,J,J,J,trivial⟩ ⟨o64,x64,by omega,by simpa using hM,st.2,by rw[←Nat.add_assoc,st.1,cL (by omega),Nat.mul_add,Nat.mul_add,Nat.add_assoc,Nat.pow_add,Nat.mul_assoc,Nat.mul_left_comm (4294967296^k)],by rw[List.drop_set_of_lt (by omega)];exact hMd⟩ (by omega)
    ·refine bJ (aV (aV (bP (ah ?_))))
     obtain rfl:k=b.length:=by omega
     rw[List.take_length] at hinv
     refine ae (ab J J (ab J J (ab J J (bn J J (bR MD (b14.ext e10)) (ao (r:=I ((i+b.length:Nat):Int)) J J J (by have e:((i+b.length:Nat):Int)=(i:Int)+(b.length:Int):=(by omega);rw[e];exact aY) (ab J J (cm J J (c7 MJ MF) ?_)))))))
     obtain⟨g75,w75,p75,s75,o75,q75,hb75,c75,ob75⟩:=(oM).setW MD (i:=(i+b.length)) (by omega) (c.toUInt32)
     refine aE J J J (p75 _) (dH J J s75 ?_)
     have x75:=aH.of_new (e10) q75 hb75
     refine ar (aW (ah (ae (ao (r:=I ((i+1:Nat):Int)) J J J (by have e:((i+1:Nat):Int)=(i:Int)+1:=(by omega);rw[e];exact aY) (ab J J (ar ?_))))))
     have hM0:M[i+b.length]'(by omega)=0:=by
      have h1:=vO (hMd.trans hz) (by omega) (by simp;omega)
      rw[h1];simp
     have hs:=EA (l:=M) (i:=i+b.length) (by omega) c.toUInt32
     rw[hM0,lc,Nat.mod_eq_of_lt hc] at hs
     simp only[UInt32.toNat_zero,Nat.mul_zero,Nat.add_zero] at hs
     have hd1:=congrArg (List.drop 1) (hMd.trans hz)
     rw[List.drop_drop,List.drop_drop] at hd1
     refine fk (i+1) (_) ⟨J,J,J,J,J,trivial⟩ ⟨o75,x75,by omega,by simpa using hM,by rw[hs,hinv,hval,cL (by omega),Nat.add_mul,Nat.mul_assoc],by rw[List.drop_set_of_lt (by omega),show i+1+b.length=i+b.length+1 by omega];exact hd1⟩ (by omega)
   ·refine bJ (aV (aV (bP (ah (bc (ab J J ?_))))))
    obtain rfl:i=a.length:=by omega
    rw[List.take_length] at hval
    refine aq dz J J (dB oL.wds) ?_
    rintro v78 _ ⟨rfl,b78⟩
    refine aa J J (aI (aD (aF J J ?_)))
    exact⟨_,J,e6,by rw[←hva,←hvb,←hval];exact b78⟩
theorem ym {w:World} {l m:List UInt32} {v u:Value} (hv:bH l v w) (hu:bH m u w) (hl:l.length≤1099511627776) (hm:m.length≤1099511627776):
 Calls Tryz.prog 308 #[v,u] w (cA fun r w'=>aH w w'∧bH (lb (val l+val m)) r w'):=by
 refine enter Tryz.func308 J J J ?_
 have hal:=Nb (fM (c9 l)) hl
 have hbl:=Nb (fM (c9 m)) hm
 refine bc (aa J J (dR (ab J J (aq dz J J (dB hv) ?_))))
 rintro v10 _ ⟨rfl,b10⟩
 refine ab J J (aq dz J J (dB hu) ?_)
 rintro v12 _ ⟨rfl,b12⟩
 refine aa J J (aa J J (aI (aj (i3 (fun p:List UInt32×List UInt32×Value×Value=>[(0,p.2.2.1),(1,p.2.2.2)]) (fun p w'=>w=w'∧bH p.1 p.2.2.1 w'∧bH p.2.1 p.2.2.2 w'∧p.2.1.length≤p.1.length∧p.1.length≤1099511627776∧val p.1+val p.2.1=val l+val m) ?_ ?_))))
 ·refine bc (ab J J (bn J J (bR MD b10) (ab J J (bn J J (bR MD b12) ?_))))
  refine ao J J J (aX) (aI (ci J (fun h17=>?_) (fun h17=>?_)))
  ·refine ae (ab J J (ab J J (aa J J (aa J J (ar ?_)))))
   exact cW (lb (val m),lb (val l),v12,v10) ⟨J,J,trivial⟩ ⟨J,b12,b10,by show(lb (val l)).length≤(lb (val m)).length;omega,hbl,by show val (lb (val m))+val (lb (val l))=_;rw[bk,bk,Nat.add_comm]⟩
  ·refine aA ?_
   exact cW (lb (val l),lb (val m),v10,v12) ⟨J,J,trivial⟩ ⟨J,b10,b12,by show(lb (val m)).length≤(lb (val l)).length;omega,hal,by show val (lb (val l))+val (lb (val m))=_;rw[bk,bk]⟩
 rintro⟨a,b,va,vb⟩ _ ⟨rfl,ba,bb,hle,hla,hsum⟩
 refine ah (bc ?_)
 dsimp only at ba bb hle hla hsum
 refine ab J J (bn J J (bR MD ba) (ao (r:=I (((a.length)+1:Nat):Int)) J J J (by have e:(((a.length)+1:Nat):Int)=(a.length:Int)+1:=(by omega);rw[e];exact aY) ?_))
 obtain⟨v23,w23,hr23,x23,o23,ob23⟩:=py MD (w:=w) w.heap.size (n:=a.length+1) (by omega) (Ng _)
 refine fL J J J hr23 (aa J J (dR (aa J J (aI (aj (bc (ab J J (bn J J (bR Tryz.underlying47 (ba.ext x23)) (ab J J (aI (aJ (fi (fun(i:Nat) (L:List UInt32) (c:UInt64)=>[(0,va),(1,vb),(5,v23),(6,fB c),(24,va),(25,I (a.length:Int)),(26,I (i:Int))]) (fun(i:Nat) (L:List UInt32) (c:UInt64) w'=>eY w.heap.size L v23 w'∧aH w w'∧i≤a.length∧L.length=a.length+1∧c.toNat≤1∧val (L.take i)+4294967296^i*c.toNat=val (a.take i)+val (b.take i)) (fun(i:Nat) (L:List UInt32) (c:UInt64)=>a.length-i) (0) (List.replicate (a.length+1) 0) (0) ⟨J,J,J,J,J,J,J,trivial⟩ ⟨o23,x23,by simp,by simp,by simp,by simp[val]⟩ ?_))))))))))))
 rintro i L c w7 ⟨oL,e7,hi,hL,hc,hinv⟩
 refine bc (ao J J J (aX) (aI (aj (ci J (fun h27=>?_) (fun h27=>?_)))))
 ·refine aA (ah (aj (aJ (bc (ab J J ?_)))))
  obtain⟨a29,p29,q29⟩:=dN MD (ba.ext e7) (i:=i) (by omega) .i64
  refine aE J J J (p29 _) (ak J J (ai MF J q29) (aa J J (aa J J (dR (ab J J (ab J J (cm J J (cr MF MJ) (ao J J J (eq) (aa J J (aI (aj (bc (ab J J (ab J J (bn J J (bR MD (bb.ext e7)) (ao J J J (aX) (aI (ci J (fun h38=>?_) (fun h38=>?_)))))))))))))))))))
  ·refine ae (ab J J (ab J J (ab J J ?_)))
   obtain⟨a42,p42,q42⟩:=dN MD (bb.ext e7) (i:=i) (by omega) .i64
   refine aE J J J (p42 _) (ak J J (ai MF J q42) (cm J J (cr MF MJ) (ao J J J (eq) (aa J J (dR (ab J J (ab J J (ab J J (cm J J (c7 MJ MF) ?_)))))))))
   obtain⟨g50,w50,p50,s50,o50,q50,hb50,c50,ob50⟩:=(oL).setW MD (i:=i) (by omega) (((((((c)+(((a[i])).toUInt64)))+(((b[i])).toUInt64)))).toUInt32)
   refine aE J J J (p50 _) (dH J J s50 ?_)
   have x50:=aH.of_new (e7) q50 hb50
   refine aI (ae (ab J J (ao J J J (ei 32 (by omega)) (aa J J (ar (aW (ah (ae (ao (r:=I ((i+1:Nat):Int)) J J J (by have e:((i+1:Nat):Int)=(i:Int)+1:=(by omega);rw[e];exact aY) (ab J J (ar ?_)))))))))))
   have st:=yi (a:=a) (b:=b) (L:=L) (i:=i) (c:=c) (x:=(((((c)+(((a[i])).toUInt64)))+(((b[i])).toUInt64)))) (by omega) hc hinv (by
    first
    |rw[jh (show i<a.length by omega),jh (show i<b.length by omega),EB hc]
    |(rw[jh (show i<a.length by omega),vn (show b.length≤i by omega),EC hc];rfl))
   refine cK (i+1) (_) (_) ⟨J,J,J,J,J,J,J,trivial⟩ ⟨o50,x50,by omega,by simpa using hL,st.2,st.1⟩ (by omega)
  ·refine aA (ah (bc (ab J J (ab J J (ab J J (cm J J (c7 MJ MF) ?_))))))
   obtain⟨g50,w50,p50,s50,o50,q50,hb50,c50,ob50⟩:=(oL).setW MD (i:=i) (by omega) (((((c)+(((a[i])).toUInt64)))).toUInt32)
   refine aE J J J (p50 _) (dH J J s50 ?_)
   have x50:=aH.of_new (e7) q50 hb50
   refine aI (ae (ab J J (ao J J J (ei 32 (by omega)) (aa J J (ar (aW (ah (ae (ao (r:=I ((i+1:Nat):Int)) J J J (by have e:((i+1:Nat):Int)=(i:Int)+1:=(by omega);rw[e];exact aY) (ab J J (ar ?_)))))))))))
   have st:=yi (a:=a) (b:=b) (L:=L) (i:=i) (c:=c) (x:=(((c)+(((a[i])).toUInt64)))) (by omega) hc hinv (by
    first
    |rw[jh (show i<a.length by omega),jh (show i<b.length by omega),EB hc]
    |(rw[jh (show i<a.length by omega),vn (show b.length≤i by omega),EC hc];rfl))
   refine cK (i+1) (_) (_) ⟨J,J,J,J,J,J,J,trivial⟩ ⟨o50,x50,by omega,by simpa using hL,st.2,st.1⟩ (by omega)
 ·refine bJ (aV (aV (bP (ah (aj ?_)))))
  obtain rfl:i=a.length:=by omega
  rw[fI a (Nat.le_refl _),fI b hle] at hinv
  refine ae (ab J J (ab J J (bn J J (bR MD (ba.ext e7)) (ab J J (cm J J (c7 MJ MF) ?_)))))
  obtain⟨g59,w59,p59,s59,o59,q59,hb59,c59,ob59⟩:=(oL).setW MD (i:=a.length) (by omega) (c.toUInt32)
  refine aE J J J (p59 _) (dH J J s59 ?_)
  have x59:=aH.of_new (e7) q59 hb59
  refine dR (ab J J (aq dz J J (dB o59.wds) ?_))
  rintro v61 _ ⟨rfl,b61⟩
  refine aa J J (aI (aD (aF J J ?_)))
  exact⟨_,J,x59,by
   rw[←hsum,←hinv]
   have hs:=vN (M:=L) (n:=a.length) hL c.toUInt32
   rw[lc,Nat.mod_eq_of_lt (by omega)] at hs
   rw[←hs];exact b61⟩
theorem FV {w:World} {l m:List UInt32} {v u:Value} (hv:bH l v w) (hu:bH m u w) (hl:l.length≤1099511627776) (hle:val m≤val l):
 Calls Tryz.prog 309 #[v,u] w (cA fun r w'=>aH w w'∧∃d,r=.tuple #[d,I 0]∧bH (lb (val l-val m)) d w'):=by
 refine enter Tryz.func309 J J J ?_
 obtain⟨a,ha⟩:∃a,a=lb (val l):=⟨_,rfl⟩
 obtain⟨b,hb⟩:∃b,b=lb (val m):=⟨_,rfl⟩
 have hva:val a=val l:=by rw[ha,bk]
 have hvb:val b=val m:=by rw[hb,bk]
 have hal:a.length≤1099511627776:=by rw[ha];exact Nb (fM (c9 l)) hl
 have hba:b.length≤a.length:=by rw[ha,hb];exact j3 hle
 refine bc (aa J J (aa J J (dR (ab J J (aq dz J J (dB hv) ?_)))))
 rintro v12 _ ⟨rfl,b12⟩
 rw[←ha] at b12
 refine ab J J (aq dz J J (dB hu) ?_)
 rintro v14 _ ⟨rfl,b14⟩
 rw[←hb] at b14
 refine aa J J (aa J J (aI (aj (bc (ab J J (ab J J (aq jr J J (js b12 b14) ?_)))))))
 rintro v17 w17 ⟨x17,rfl⟩
 refine ao J J J (be (fun h=>by have:=jI.1 h;omega) aX) (aI (bU J (aA (ah (bc (ab J J (bn J J (bR MD (b12.ext x17)) ?_)))))))
 obtain⟨v21,w21,hr21,x21,o21,ob21⟩:=py MD (w:=w17) w17.heap.size (n:=a.length) (by omega) (Ng _)
 refine fL J J J hr21 (aa J J (dR (aa J J (aI (aj (bc (ab J J (bn J J (bR Tryz.underlying47 (b12.ext (x17.trans x21))) (ab J J (aI (aJ (fi (fun(i:Nat) (L:List UInt32) (d:UInt64)=>[(1,v14),(6,v21),(7,fB d),(22,v12),(23,I (a.length:Int)),(24,I (i:Int))]) (fun(i:Nat) (L:List UInt32) (d:UInt64) w'=>eY w17.heap.size L v21 w'∧aH w17 w'∧i≤a.length∧L.length=a.length∧d.toNat≤1∧val (a.take i)+4294967296^i*d.toNat=val (L.take i)+val (b.take i)) (fun(i:Nat) (L:List UInt32) (d:UInt64)=>a.length-i) (0) (List.replicate a.length 0) (0) ⟨J,J,J,J,J,J,trivial⟩ ⟨o21,x21,by simp,by simp,by simp,by simp[val]⟩ ?_))))))))))))
 rintro i L d w7 ⟨oL,e7,hi,hL,hd,hinv⟩
 refine bc (ao J J J (aX) (aI (aj (ci J (fun h25=>?_) (fun h25=>?_)))))
 ·refine aA (ah (aj (aJ (bc (ab J J ?_)))))
  obtain⟨a27,p27,q27⟩:=dN MD (b12.ext (x17.trans e7)) (i:=i) (by omega) .i64
  refine aE J J J (p27 _) (ak J J (ai MF J q27) (aa J J (aa J J (dR (ab J J (cm J J (cr MF MJ) (ab J J (ao J J J (gC) (aa J J (aI (aj (bc (ab J J (ab J J (bn J J (bR MD (b14.ext (x17.trans e7))) (ao J J J (aX) (aI (ci J (fun h36=>?_) (fun h36=>?_)))))))))))))))))))
  ·refine ae (ab J J (ab J J (ab J J ?_)))
   obtain⟨a40,p40,q40⟩:=dN MD (b14.ext (x17.trans e7)) (i:=i) (by omega) .i64
   refine aE J J J (p40 _) (ak J J (ai MF J q40) (cm J J (cr MF MJ) (ao J J J (gC) (aa J J (dR (ab J J (ab J J (ab J J (cm J J (c7 MJ MF) ?_)))))))))
   obtain⟨g48,w48,p48,s48,o48,q48,hb48,c48,ob48⟩:=(oL).setW MD (i:=i) (by omega) (((((((((a[i])).toUInt64)-(d)))-(((b[i])).toUInt64)))).toUInt32)
   refine aE J J J (p48 _) (dH J J s48 ?_)
   have x48:=aH.of_new (e7) q48 hb48
   refine aI (ae (ab J J (ao J J J (ei 63 (by omega)) (aa J J (ar (aW (ah (ae (ao (r:=I ((i+1:Nat):Int)) J J J (by have e:((i+1:Nat):Int)=(i:Int)+1:=(by omega);rw[e];exact aY) (ab J J (ar ?_)))))))))))
   have st:=yj (a:=a) (b:=b) (L:=L) (i:=i) (d:=d) (x:=(((((((a[i])).toUInt64)-(d)))-(((b[i])).toUInt64)))) (by omega) hd hinv (by
    first
    |rw[jh (show i<a.length by omega),jh (show i<b.length by omega),ED hd]
    |(rw[jh (show i<a.length by omega),vn (show b.length≤i by omega),EE hd];rfl))
   refine cK (i+1) (_) (_) ⟨J,J,J,J,J,J,trivial⟩ ⟨o48,x48,by omega,by simpa using hL,st.2,st.1⟩ (by omega)
  ·refine aA (ah (bc (ab J J (ab J J (ab J J (cm J J (c7 MJ MF) ?_))))))
   obtain⟨g48,w48,p48,s48,o48,q48,hb48,c48,ob48⟩:=(oL).setW MD (i:=i) (by omega) (((((((a[i])).toUInt64)-(d)))).toUInt32)
   refine aE J J J (p48 _) (dH J J s48 ?_)
   have x48:=aH.of_new (e7) q48 hb48
   refine aI (ae (ab J J (ao J J J (ei 63 (by omega)) (aa J J (ar (aW (ah (ae (ao (r:=I ((i+1:Nat):Int)) J J J (by have e:((i+1:Nat):Int)=(i:Int)+1:=(by omega);rw[e];exact aY) (ab J J (ar ?_)))))))))))
   have st:=yj (a:=a) (b:=b) (L:=L) (i:=i) (d:=d) (x:=(((((a[i])).toUInt64)-(d)))) (by omega) hd hinv (by
    first
    |rw[jh (show i<a.length by omega),jh (show i<b.length by omega),ED hd]
    |(rw[jh (show i<a.length by omega),vn (show b.length≤i by omega),EE hd];rfl))
   refine cK (i+1) (_) (_) ⟨J,J,J,J,J,J,trivial⟩ ⟨o48,x48,by omega,by simpa using hL,st.2,st.1⟩ (by omega)
 ·refine bJ (aV (aV (bP (ah (aj ?_)))))
  obtain rfl:i=a.length:=by omega
  rw[fI a (Nat.le_refl _),fI b hba,fI L (by omega)] at hinv
  have hLl:=c9 L
  rw[hL] at hLl
  have hd0:d.toNat=0:=by
   rcases(show d.toNat=0∨d.toNat=1 by omega) with h|h
   ·exact h
   ·rw[h,Nat.mul_one] at hinv;omega
  refine ae (ab J J (aq dz J J (dB oL.wds) ?_))
  rintro v53 _ ⟨rfl,b53⟩
  refine aa J J (aa J J (aI (aD (dW J J J ?_))))
  exact⟨_,J,(x17.trans e7),_,J,by
   rw[←hva,←hvb,show val a-val b=val L by rw[hd0] at hinv;omega];exact b53⟩
theorem nH {w:World} {l m:List UInt32} {v u:Value} (hv:bH l v w) (hu:bH m u w) (hl:l.length≤1099511627776) (hm:m.length≤1099511627776):
 Calls Tryz.prog 144 #[v,u] w (cA fun r w'=>aH w w'∧bH (lb (val l*val m)) r w'):=by
 refine enter Tryz.func144 J J J ?_
 have hml:=hu.len
 refine bc (aa J J (dR (ab J J (bn J J (bR MD hv) (ab J J (bn J J (bR MD hu) (ao (r:=I (((l.length)+m.length:Nat):Int)) J J J (by have e:(((l.length)+m.length:Nat):Int)=(l.length:Int)+(m.length:Int):=(by omega);rw[e];exact aY) (ao (r:=I (((((l.length)+m.length:Nat))+1:Nat):Int)) J J J (by have e:(((((l.length)+m.length:Nat))+1:Nat):Int)=(((l.length)+m.length:Nat):Int)+1:=(by omega);rw[e];exact aY) ?_))))))))
 obtain⟨v15,w15,hr15,x15,o15,ob15⟩:=py MT (w:=w) w.heap.size (n:=l.length+m.length+1) (by omega) (Ng _)
 refine fL J J J hr15 (aa J J (aI (aj (bc (aa J J (aI (aJ (iy (fun(i:Nat) (L:List UInt32)=>[(0,v),(1,u),(5,v15),(6,I (i:Int))]) (fun(i:Nat) (L:List UInt32) w'=>eY w.heap.size L v15 w'∧aH w w'∧i≤l.length∧L.length=l.length+m.length+1∧val L=val (l.take i)*val m) (fun(i:Nat) (L:List UInt32)=>l.length-i) (0) (List.replicate (l.length+m.length+1) 0) ⟨J,J,J,J,trivial⟩ ⟨o15,x15,by simp,by simp,by simp[val,lO]⟩ ?_))))))))
 rintro i L w3 ⟨oL,e3,hi,hL,hval⟩
 refine aj (bc (ab J J (ab J J (bn J J (bR MD (hv.ext e3)) (ao J J J (aX) (aI (ci J (fun h19=>?_) (fun h19=>?_))))))))
 ·refine aA (ah (aj (aJ (bc (aa J J (dR (aa J J (aI (aJ ?_)))))))))
  refine fi (fun(k:Nat) (M:List UInt32) (c:UInt64)=>[(0,v),(1,u),(5,v15),(6,I (i:Int)),(7,fB c),(8,I (k:Int))]) (fun(k:Nat) (M:List UInt32) (c:UInt64) w'=>eY w.heap.size M v15 w'∧aH w w'∧k≤m.length+1∧M.length=l.length+m.length+1∧c.toNat<4294967296∧val M+4294967296^(i+k)*c.toNat=val L+4294967296^i*((l[i]'(by omega)).toNat*val (m.take k))) (fun(k:Nat) (M:List UInt32) (c:UInt64)=>m.length+1-k) (0) (L) (0) ⟨J,J,J,J,J,J,trivial⟩ ⟨oL,e3,by simp,hL,by simp,by simp[val]⟩ ?_
  rintro k M c w7 ⟨oM,e7,hk,hM,hc,hinv⟩
  refine aj (bc (ab J J (ab J J (bn J J (bR MD (hu.ext e7)) (ao J J J (iw) (aI (ci J (fun h25=>?_) (fun h25=>?_))))))))
  ·refine aA (ah (aj (aJ (aj (bj 20 [0,1,5,6,8,47] (by kernel_rfl) (by kernel_rfl) ?_)))))
   refine ax J J (ax J J (ax J J ?_))
   obtain⟨a31,p31,q31⟩:=dN MD (hv.ext e7) (i:=i) (by omega) .i64
   refine aK J J J (fun w _=>p31 w) (ap J J (fun w hw=>ai MF J (hw.cell_some q31)) (kZ J J (fun w _=>cr MF MJ) (ax J J (ax J J (ec (S:=Is (ep (m.getD k 0))) fY (bi.is _) J J J (fun w hw=>cA.mono (f0 ((hu.ext e7).ext hw)) fun v w' h=>⟨h.1▸aH.refl _,h.2⟩) (kZ J J (fun w _=>cr MF MJ) (bC J J J (fun w _=>qG) (ax J J (ax J J (ax J J (bC (r:=I ((i+k:Nat):Int)) J J J (fun w _=>by have e:((i+k:Nat):Int)=(i:Int)+(k:Int):=(by omega);rw[e];exact aY) ?_)))))))))))
   obtain⟨a43,p43,q43⟩:=dN MT oM.wds (i:=(i+k:Nat)) (by omega) .i64
   refine aK J J J (fun w _=>p43 w) (ap J J (fun w hw=>ai MF J (hw.cell_some q43)) (kZ J J (fun w _=>cr MF MJ) (bC J J J (fun w _=>eq) (bC J J J (fun w _=>eq) (bA ?_)))))
   rintro wg9 xg9 _ hq0
   obtain rfl:=Eq.symm hq0
   rintro _ hq1
   obtain rfl:=Eq.symm hq1
   rintro _ hq5
   obtain rfl:=Eq.symm hq5
   rintro _ rfl _ rfl _ rfl
   refine aa J J (aI (aj ?_))
   obtain⟨t,ht⟩:∃t,t=c+((l[i]'(by omega)).toUInt64*(m.getD k 0).toUInt64+(M[i+k]'(by omega)).toUInt64):=⟨_,rfl⟩
   refine ae (ab J J (ab J J (ab J J (ao (r:=I ((i+k:Nat):Int)) J J J (by have e:((i+k:Nat):Int)=(i:Int)+(k:Int):=(by omega);rw[e];exact aY) (ab J J (cm J J (c7 MJ MF) ?_))))))
   obtain⟨g54,w54,p54,s54,o54,q54,hb54,c54,ob54⟩:=((oM.ext xg9)).setW MT (i:=(i+k)) (by omega) ((c+((l[i]'(by omega)).toUInt64*(m.getD k 0).toUInt64+(M[i+k]'(by omega)).toUInt64)).toUInt32)
   refine aE J J J (p54 _) (dH J J s54 ?_)
   have x54:=aH.of_new ((e7.trans xg9)) q54 hb54
   refine aI (ae (ab J J (ao J J J (ei 32 (by omega)) (aa J J (ar (aW (ah (ae (ab J J (ao (r:=I ((k+1:Nat):Int)) J J J (by have e:((k+1:Nat):Int)=(k:Int)+1:=(by omega);rw[e];exact aY) (aa J J (ar ?_))))))))))))
   have st:=Bg (L:=M) (j:=i+k) (by omega) hc ht hinv
   rw[ht] at st
   refine cK (k+1) (_) (_) ⟨J,J,J,J,J,J,trivial⟩ ⟨o54,x54,by omega,by simpa using hM,st.2,by rw[←Nat.add_assoc,st.1,fj,Nat.mul_add,Nat.mul_add,Nat.add_assoc,Nat.pow_add,Nat.mul_assoc,Nat.mul_left_comm (4294967296^k)]⟩ (by omega)
  ·refine bJ (aV (aV (bP (aW (ah ?_)))))
   obtain rfl:k=m.length+1:=by omega
   rw[fI m (by omega)] at hinv
   have hc0:c.toNat=0:=by
    rcases Np c.toNat with h|h
    ·exact h
    ·have h1:4294967296^(i+(m.length+1))*1≤4294967296^(i+(m.length+1))*c.toNat:=Nr _ h
     have h2:val (l.take (i+1))*val m<4294967296^(i+1)*4294967296^m.length:=by
      rcases Np (val m) with h|h
      ·rw[h,Nat.mul_zero];exact Nat.mul_pos (Fk _) (Fk _)
      ·exact Nk (Nat.mul_lt_mul_of_pos_right (Bh l (i+1)) h) (Nr _ (Nat.le_of_lt (c9 m)))
     rw[←Nat.pow_add,show i+1+m.length=i+(m.length+1) by omega,cL (by omega),Nat.add_mul,Nat.mul_assoc,←hval] at h2
     omega
   rw[hc0,Nat.mul_zero,Nat.add_zero] at hinv
   refine ae (ab J J (ao (r:=I ((i+1:Nat):Int)) J J J (by have e:((i+1:Nat):Int)=(i:Int)+1:=(by omega);rw[e];exact aY) (aa J J (ar (fk (i+1) (_) ⟨J,J,J,J,trivial⟩ ⟨oM,e7,by omega,by simpa using hM,by rw[hinv,hval,cL (by omega),Nat.add_mul,Nat.mul_assoc]⟩ (by omega))))))
 ·refine bJ (aV (aV (bP (ah (bc (ab J J ?_))))))
  obtain rfl:i=l.length:=by omega
  rw[List.take_length] at hval
  refine aq fz J J (fZ oL.wds (by omega)) ?_
  rintro v58 w58 ⟨x58,b58⟩
  refine aa J J (aI (aD (aF J J ?_)))
  exact⟨_,J,(e3.trans x58),by rw[←hval];exact b58⟩
end Go.Rl
namespace Go.Rl
open Go.RowKit Go.Proofs
theorem mE:az Tryz.prog 300:=⟨_,Tryz.func300,by kernel_rfl,rfl⟩
theorem H4:az Tryz.prog 197:=⟨_,Tryz.func197,by kernel_rfl,rfl⟩
theorem oI:az Tryz.prog 233:=⟨_,Tryz.func233,by kernel_rfl,rfl⟩
theorem FW:az Tryz.prog 220:=⟨_,Tryz.func220,by kernel_rfl,rfl⟩
theorem FX:az Tryz.prog 250:=⟨_,Tryz.func250,by kernel_rfl,rfl⟩
theorem yn:az Tryz.prog 294:=⟨_,Tryz.func294,by kernel_rfl,rfl⟩
theorem oJ:az Tryz.prog 234:=⟨_,Tryz.func234,by kernel_rfl,rfl⟩
theorem ux:az Tryz.prog 219:=⟨_,Tryz.func219,by kernel_rfl,rfl⟩
theorem cw:az Tryz.prog 159:=⟨_,Tryz.func159,by kernel_rfl,rfl⟩
theorem gk:az Tryz.prog 142:=⟨_,Tryz.func142,by kernel_rfl,rfl⟩
theorem lS:az Tryz.prog 140:=⟨_,Tryz.func140,by kernel_rfl,rfl⟩
theorem nI:az Tryz.prog 165:=⟨_,Tryz.func165,by kernel_rfl,rfl⟩
theorem qT:az Tryz.prog 361:=⟨_,Tryz.func361,by kernel_rfl,rfl⟩
theorem jv:az Tryz.prog 166:=⟨_,Tryz.func166,by kernel_rfl,rfl⟩
theorem tP:az Tryz.prog 304:=⟨_,Tryz.func304,by kernel_rfl,rfl⟩
theorem yo:az Tryz.prog 164:=⟨_,Tryz.func164,by kernel_rfl,rfl⟩
theorem kM:az Tryz.prog 108:=⟨_,Tryz.func108,by kernel_rfl,rfl⟩
theorem Bi:az Tryz.prog 196:=⟨_,Tryz.func196,by kernel_rfl,rfl⟩
theorem tQ {l:List UInt32} {k:Nat} (h:l.length≤k):(lb (val l)).length≤k:=Nb (fM (c9 l)) h
theorem li {a b x y:Nat} (h:(lb a).length≤x) (k:(lb b).length≤y):(lb (a*b)).length≤x+y:=by
 have ha:=c9 (lb a)
 have hb:=c9 (lb b)
 rw[bk] at ha hb
 refine Nb (fM (k:=(lb a).length+(lb b).length) ?_) (by omega)
 rw[Nat.pow_add]
 rcases Np b with rfl|h0
 ·rw[Nat.mul_zero];exact Nat.mul_pos (Fk _) (Fk _)
 ·exact Nk (Nat.mul_lt_mul_of_pos_right ha h0) (Nr _ (Nat.le_of_lt hb))
theorem zI (s:Bool) (n:Nat):vi s n=decide (fC s n<0):=by
 unfold vi
 have:=Cz s n
 cases s<;>simp_all
theorem EF {n:Nat}:0<(lb n).length↔0<n:=by
 have:=@gl n
 omega
def kO (z:Int):Int:=if z<0 then-1 else if z=0 then 0 else 1
theorem yp {z:Int} (h:z<0):kO z= -1:=by unfold kO;rw[if_pos h]
theorem tR {z:Int} (h:0<z):kO z=1:=by unfold kO;rw[if_neg (by omega),if_neg (by omega)]
theorem yq {P:Program} {w:World} {x:UInt64}:(Op.unary .neg (fB x)).run P w=.ok (fB (-x)) w:=by
 have:IntKind.u64.wrap (0-(x.toNat:Int))=((-x).toNat:Int):=by
  rw[IntKind.wrap_u64,UInt64.toNat_neg]
  have:=x.toNat_lt
  simp only[UInt64.size]
  omega
 simp only[fB,Op.unary,Op.intArith,this];rfl
theorem yr {x:Int} (h1:0≤x) (h2:x≤9223372036854775807):(UInt64.ofInt x).toNat=x.natAbs:=by
 show(UInt64.ofNat (x%2^64).toNat).toNat=_
 rw[UInt64.toNat_ofNat'];omega
theorem wn {x:Int} (h:x<0) (h1: -9223372036854775808≤x):(-UInt64.ofInt x).toNat=x.natAbs:=by
 have e:(UInt64.ofInt x).toNat=(x%18446744073709551616).toNat:=by
  show(UInt64.ofNat (x%2^64).toNat).toNat=_
  rw[UInt64.toNat_ofNat'];omega
 rw[UInt64.toNat_neg,e]
 simp only[UInt64.size]
 omega
theorem sR {P:Program} {w:World} {x y:Operand} {t:TypeId} (ht:P.underlying t=some .bool) {a b:Bool}:(bin .neq t x y (B a) (B b)).run P w=.ok (B (a !=b)) w:=by
 have h:(Op.equal t (B a) (B b)).run P w=.ok (decide (a=b)) w:=by
  show(Op.equalIn (9999+1) t (.bool a) (.bool b)).run P w=_
  unfold Op.equalIn
  cases a<;>cases b<;>simp[run_underlying ht]
 show(do pure (Value.bool (!(←Op.equal t (B a) (B b)))):Sem Value).run P w=_
 rw[Sem.run_bind,h]
 cases a<;>cases b<;>rfl
theorem mF {w:World} {s:Bool} {n:List UInt32} {v:Value} (hv:bH n v w) (hl:n.length≤549755813888):
 Calls Tryz.prog 300 #[B s,v] w (cA fun r w'=>aH w w'∧IZ (fC s (val n)) r w'):=by
 refine enter Tryz.func300 J J J (bc (ce dX J fun g4 w4 l4 x4 k4=>(dR (ab J J (aq gM J J (gO (hv.ext x4) (by omega)) ?_)))))
 rintro v7 w7 ⟨x7,b7⟩
 refine aa J J (aI (aj ?_))
 cases s
 ·refine ae (ab J J (ab J J (bf J J J (bf J J J (bf J J J (aG J J J (ab J J (bV (r:=.agg #[B false,v7]) J J (by obtain⟨_,_,_,rfl⟩:=b7.isS;exact run_build _ _ _ _ (by kernel_rfl)) ?_))))))))
  refine bD J J (k4.ext x7) J bE (am.cons J (am.cons b7.one am.nil)) fun w2_8 q2_8 k2_8=>?_
  have x2_8:=aH.of_new ((x4.trans x7)) q2_8 l4
  have m2_8:=Kq.of1 (p:=[0,3]) (k4.ext x7) (ac rfl (ac rfl aT)) q2_8
  refine aI (aD (bp J (.cell J (k2_8.ld MR J bE) .nil) ?_))
  exact⟨_,J,x2_8,IZ.of (by rw[←zI];rfl) (by rw[kz];exact(b7.kq m2_8))⟩
 ·refine ae (ab J J (ab J J (an J (ab J J (an J (bn J J (bR MD b7) (an J (ao J J J (bo) ?_))))))))
  refine aR J J J (ab J J (bV (r:=.agg #[B (decide (((lb (val n)).length:Int)>0)),v7]) J J (by obtain⟨_,_,_,rfl⟩:=b7.isS;exact run_build _ _ _ _ (by kernel_rfl)) (bD J J (k4.ext x7) J bE (am.cons J (am.cons b7.one am.nil)) fun w2_8 q2_8 k2_8=>?_)))
  have x2_8:=aH.of_new ((x4.trans x7)) q2_8 l4
  have m2_8:=Kq.of1 (p:=[0,3]) (k4.ext x7) (ac rfl (ac rfl aT)) q2_8
  refine aI (aD (bp J (.cell J (k2_8.ld MR J bE) .nil) ?_))
  exact⟨_,J,x2_8,IZ.of (by rw[←zI];unfold vi;rw[Bool.true_and];exact decide_eq_decide.2 (by have:=@EF (val n);omega)) (by rw[kz];exact(b7.kq m2_8))⟩
theorem H5 {w:World} {x:Int} (h1: -9223372036854775808≤x) (h2:x≤9223372036854775807):
 Calls Tryz.prog 197 #[I x] w (cA fun r w'=>aH w w'∧IZ x r w'):=by
 refine enter Tryz.func197 J J J (bc (ce dX J fun g2 w2 l2 x2 k2=>(aI (aj (bc (ab J J (ao J J J (aX) (aI (ci J (fun h4=>?_) (fun h4=>?_))))))))))
 ·refine bc (ab J J (cm J J (vd ME MJ) ?_))
  refine cC (r:=fB (-UInt64.ofInt x)) J J yq (aq nB J J (nD) ?_)
  rintro v8 w8 ⟨x8,b8⟩
  refine bV (r:=.agg #[B true,v8]) J J (by obtain⟨_,_,_,rfl⟩:=b8.isS;exact run_build _ _ _ _ (by kernel_rfl)) (bD J J (k2.ext x8) J bE (am.cons J (am.cons b8.one am.nil)) fun w2_5 q2_5 k2_5=>?_)
  have x2_5:=aH.of_new ((x2.trans x8)) q2_5 l2
  have m2_5:=Kq.of1 (p:=[0,3]) (k2.ext x8) (ac rfl (ac rfl aT)) q2_5
  refine aI (aD (a0 (bp J (.cell J (k2_5.ld MR J bE) .nil) ?_)))
  exact⟨_,J,x2_5,IZ.of (decide_eq_true h4).symm (by
   have e:(-UInt64.ofInt x).toNat=x.natAbs:=wn h4 h1
   rw[←e];exact(b8.kq m2_5))⟩
 ·refine aA (ah (bc (ab J J (cm J J (vd ME MJ) (aq nB J J (nD) ?_)))))
  rintro v12 w12 ⟨x12,b12⟩
  refine bV (r:=.agg #[B false,v12]) J J (by obtain⟨_,_,_,rfl⟩:=b12.isS;exact run_build _ _ _ _ (by kernel_rfl)) (bD J J (k2.ext x12) J bE (am.cons J (am.cons b12.one am.nil)) fun w3_4 q3_4 k3_4=>?_)
  have x3_4:=aH.of_new ((x2.trans x12)) q3_4 l2
  have m3_4:=Kq.of1 (p:=[0,3]) (k2.ext x12) (ac rfl (ac rfl aT)) q3_4
  refine aI (aD (bp J (.cell J (k3_4.ld MR J bE) .nil) ?_))
  exact⟨_,J,x3_4,IZ.of (decide_eq_false h4).symm (by
   have e:(UInt64.ofInt x).toNat=x.natAbs:=yr (by omega) h2
   rw[←e];exact(b12.kq m3_4))⟩
theorem oK {w:World} {s:Bool} {n:List UInt32} {v:Value} (hv:eW s n v w) (hl:n.length≤549755813888):
 Calls Tryz.prog 233 #[v] w (cA fun r w'=>aH w w'∧Is (I (kO (fC s (val n)))) r w'):=by
 obtain⟨x,rfl,hx⟩:=hv
 refine enter (vs:=[.agg #[B s,x]]) Tryz.func233 J J J (bc (cj J J fun g1 w1 l1 x1 k1=>(aa J J (aI (aj (aJ (bc (af J J (cc) (ak J J (ai MD J (k1.cell (i:=1) J)) (aq oo J J (ov (hx.ext x1) (by omega)) ?_))))))))))
 rintro v6 _ ⟨rfl,rfl⟩
 refine ao J J J (aO) (aa J J (aI (ci J (fun h3=>?_) (fun h3=>?_))))
 ·have h0:val n=0:=by
   rcases Np (val n) with h|h
   ·exact h
   ·have:=ol h;omega
  refine bc (aa J J (aI (aD (bK (a0 (aF J J ?_))))))
  exact⟨_,J,x1,by rw[h0,HC];rfl⟩
 ·have h0:0<val n:=by
   rcases Np (val n) with h|h
   ·exact absurd (by rw[h];rfl) h3
   ·exact h
  refine aj ?_
  cases s
  ·refine ae (af J J (cS) (ak J J (ai MH J (k1.cell (i:=0) J)) ?_))
   refine aa J J (aI (bU J (aA (aW (ah (bc (aa J J (aI (aD (aF J J ?_))))))))))
   exact⟨_,J,x1,by rw[tR (show 0<fC false (val n) by show(0:Int)<(val n:Int);omega)];rfl⟩
  ·refine ae (af J J (cS) (ak J J (ai MH J (k1.cell (i:=0) J)) ?_))
   refine aa J J (aI (cg J (bc (aa J J (aI (aD (bK (a0 (aF J J ?_)))))))))
   exact⟨_,J,x1,by rw[yp ((Cz true (val n)).2 ⟨rfl,h0⟩)];rfl⟩
theorem FY {w:World} {s t:Bool} {n m:List UInt32} {v u:Value} (hv:eW s n v w) (hu:eW t m u w) (hl:n.length≤274877906944) (hm:m.length≤274877906944):
 Calls Tryz.prog 294 #[v,u] w (cA fun r w'=>aH w w'∧IZ (fC s (val n)*fC t (val m)) r w'):=by
 obtain⟨x,rfl,hx⟩:=hv
 obtain⟨y,rfl,hy⟩:=hu
 have hlm:=li (tQ hl) (tQ hm)
 refine enter (vs:=[.agg #[B s,x],.agg #[B t,y]]) Tryz.func294 J J J (bc (cj J J fun g2 w2 l2 x2 k2=>cj J J fun g3 w3 l3 x3 k3=>ce dX J fun g4 w4 l4 x4 k4=>(aI (aj (bj 11 [4,15] (by kernel_rfl) (by kernel_rfl) (al J J (fun w hw=>cS) (ap J J (fun w hw=>ai MH J (hw.cell_some ((x3.trans x4).cell_some (k2.cell (i:=0) J)))) (al J J (fun w hw=>cS) (ap J J (fun w hw=>ai MH J (hw.cell_some (x4.cell_some (k3.cell (i:=0) J)))) (bC J J J (fun w _=>sR MH) (al J J (fun w hw=>cc) (ap J J (fun w hw=>ai MD J (hw.cell_some ((x3.trans x4).cell_some (k2.cell (i:=1) J)))) (al J J (fun w hw=>cc) (ap J J (fun w hw=>ai MD J (hw.cell_some (x4.cell_some (k3.cell (i:=1) J)))) (bZ (S:=bH (lb (val n*val m))) lQ (bH.stable _) J (fun w hw=>by rintro _ rfl _ rfl;exact lR ((hx.ext ((x2.trans x3).trans x4)).ext hw) ((hy.ext ((x2.trans x3).trans x4)).ext hw) (by omega) (by omega)) ?_)))))))))))))))
 refine bZ (S:=IZ (fC s (val n)*fC t (val m))) mE (IZ.stable _) J (fun w hw=>by rintro _ rfl v14 h14;exact(by have:=mF (s:=s !=t) h14 (by omega);rw[bk,←zk] at this;exact this)) (bA ?_)
 rintro wg1 xg1 _ rfl _ ⟨x15_0,rfl,f15_0⟩
 refine bD J J (k4.ext xg1) J bE (am.cons J (am.cons f15_0.one am.nil)) fun w1_11 q1_11 k1_11=>?_
 have x1_11:=aH.of_new ((x4.trans xg1)) q1_11 l4
 have m1_11:=Kq.of1 (p:=[0,3]) (k4.ext xg1) (ac rfl (ac rfl aT)) q1_11
 refine aI (aD (bp J (.cell J (k1_11.ld MR J bE) .nil) ?_))
 exact⟨_,J,((x2.trans x3).trans x1_11),(eW.mk (f15_0.kq m1_11))⟩
theorem Bj {w:World} {l m:List UInt32} {v u:Value} (hv:bH l v w) (hu:bH m u w) (hl:l.length≤1099511627776) (hle:val m≤val l):
 Calls Tryz.prog 309 #[v,u] w (cA fun r w'=>aH w w'∧gQ (bH (lb (val l-val m))) (Is (I 0)) r w'):=
 (FV hv hu hl hle).mono fun _ _ ⟨r,he,h1,d,h2,h3⟩=>⟨r,he,h1,d,_,h2,h3,rfl⟩
theorem KE {s:Bool} {n m:Nat}:fC s n+fC s m=fC s (n+m):=by unfold fC;split<;>omega
theorem H6 {s t:Bool} {n m:Nat} (h:¬s=t) (hl:m≤n):fC s n+fC t m=fC s (n-m):=by
 cases s<;>cases t<;>simp_all [fC]<;>omega
theorem H7 {s t:Bool} {n m:Nat} (h:¬s=t) (hl:n<m):fC s n+fC t m=fC t (m-n):=by
 cases s<;>cases t<;>simp_all [fC]<;>omega
theorem zJ {a b x y:Nat} (h:(lb a).length≤x) (k:(lb b).length≤y):(lb (a+b)).length≤x+y+1:=by
 have ha:=c9 (lb a)
 have hb:=c9 (lb b)
 rw[bk] at ha hb
 have e1:4294967296^(lb a).length≤4294967296^(x+y):=Nj (by omega) (by omega)
 have e2:4294967296^(lb b).length≤4294967296^(x+y):=Nj (by omega) (by omega)
 refine fM ?_
 rw[Nat.pow_succ]
 omega
theorem yt {a b x:Nat} (h:a≤b) (k:(lb b).length≤x):(lb a).length≤x:=Nb (j3 h) k
theorem FZ {w:World} {s t:Bool} {n m:List UInt32} {v u:Value} (hv:eW s n v w) (hu:eW t m u w) (hl:n.length≤274877906943) (hm:m.length≤274877906943):
 Calls Tryz.prog 250 #[v,u] w (cA fun r w'=>aH w w'∧IZ (fC s (val n)+fC t (val m)) r w'):=by
 obtain⟨x,rfl,hx⟩:=hv
 obtain⟨y,rfl,hy⟩:=hu
 have hnn:=tQ hl
 have hmm:=tQ hm
 have hlm:=zJ hnn hmm
 refine enter (vs:=[.agg #[B s,x],.agg #[B t,y]]) Tryz.func250 J J J (bc (cj J J fun g2 w2 l2 x2 k2=>cj J J fun g3 w3 l3 x3 k3=>ce dX J fun g4 w4 l4 x4 k4=>(aI (aj (bc (af J J (cS) (ak J J (ai MH J ((x3.trans x4).cell_some (k2.cell (i:=0) J))) (af J J (cS) (ak J J (ai MH J (x4.cell_some (k3.cell (i:=0) J))) (ao J J J (vh MH) (aI (ci J (fun h11=>?_) (fun h11=>?_)))))))))))))
 ·subst h11
  refine aj (bj 8 [4,19] (by kernel_rfl) (by kernel_rfl) (al J J (fun w hw=>cS) (ap J J (fun w hw=>ai MH J (hw.cell_some ((x3.trans x4).cell_some (k2.cell (i:=0) J)))) (al J J (fun w hw=>cc) (ap J J (fun w hw=>ai MD J (hw.cell_some ((x3.trans x4).cell_some (k2.cell (i:=1) J)))) (al J J (fun w hw=>cc) (ap J J (fun w hw=>ai MD J (hw.cell_some (x4.cell_some (k3.cell (i:=1) J)))) (bZ (S:=bH (lb (val n+val m))) yk (bH.stable _) J (fun w hw=>by rintro _ rfl _ rfl;exact ym ((hx.ext ((x2.trans x3).trans x4)).ext hw) ((hy.ext ((x2.trans x3).trans x4)).ext hw) (by omega) (by omega)) (bZ (S:=IZ (fC s (val n)+fC s (val m))) mE (IZ.stable _) J (fun w hw=>by rintro _ rfl v18 h18;exact(by have:=mF (s:=s) h18 (by omega);rw[bk,←KE] at this;exact this)) (bA ?_))))))))))
  rintro wg2 xg2 _ rfl _ ⟨x19_0,rfl,f19_0⟩
  refine bD J J (k4.ext xg2) J bE (am.cons J (am.cons f19_0.one am.nil)) fun w2_8 q2_8 k2_8=>?_
  have x2_8:=aH.of_new ((x4.trans xg2)) q2_8 l4
  have m2_8:=Kq.of1 (p:=[0,3]) (k4.ext xg2) (ac rfl (ac rfl aT)) q2_8
  refine aI (aD (a0 (bp J (.cell J (k2_8.ld MR J bE) .nil) ?_)))
  exact⟨_,J,((x2.trans x3).trans x2_8),(eW.mk (f19_0.kq m2_8))⟩
 ·refine aA (ah (aj (bc (af J J (cc) (ak J J (ai MD J ((x3.trans x4).cell_some (k2.cell (i:=1) J))) ?_)))))
  refine af J J (cc) (ak J J (ai MD J (x4.cell_some (k3.cell (i:=1) J))) (aq jr J J (js (hx.ext ((x2.trans x3).trans x4)) (hy.ext ((x2.trans x3).trans x4))) ?_))
  rintro v24 w24 ⟨x24,rfl⟩
  refine ao J J J (aX) (aI (ci J (fun h25=>?_) (fun h25=>?_)))
  ·have hlt:=jI.1 h25
   have hq:=yt (Nat.sub_le (val m) (val n)) hmm
   refine ae (ak J J ((k3.ext (x4.trans x24)).ld MR J bE) (ak J J ((k2.ext ((x3.trans x4).trans x24)).ld MR J bE) (bD J J (k2.ext ((x3.trans x4).trans x24)) J bE (am.cons J (am.cons hy.one am.nil)) fun w4_2 q4_2 k4_2=>?_)))
   have x4_2:=aH.of_new ((((x2.trans x3).trans x4).trans x24)) q4_2 l2
   have j1_k3:=(((k3.ext x4).ext x24).other q4_2 fun e=>by have h1:=k2.lt;have h2:=l3;have h4:=Nc e;omega)
   refine bD J J j1_k3 J bE (am.cons J (am.cons hx.one am.nil)) fun w4_3 q4_3 k4_3=>?_
   have x4_3:=aH.of_new (x4_2) q4_3 (Nb (x2).size l3)
   refine dR ?_
   have j2_k4_2:=(k4_2.other q4_3 fun e=>by have h1:=k2.lt;have h2:=l3;have h4:=Nc e;omega)
   refine af J J (cc) (ak J J (ai MD J (j2_k4_2.cell (i:=1) J)) (af J J (cc) (ak J J (ai MD J (k4_3.cell (i:=1) J)) (aq yl J J (Bj (hy.ext x4_3) (hx.ext x4_3) (by omega) (by omega)) ?_))))
   rintro v33 w33 ⟨x33,⟨u33_a,_,rfl,b33_a,rfl⟩⟩
   refine ab J J (aB J J cY (aB J J cZ (aa J J (aa J J (dR (af J J (cS) (ak J J (ai MH J (x33.cell_some (j2_k4_2.cell (i:=0) J))) (ab J J (aq mE J J ((by have:=mF (s:=t) b33_a (by omega);rw[bk] at this;exact this)) ?_)))))))))
   rintro v39 w39 ⟨x39,⟨x39_0,rfl,f39_0⟩⟩
   have j3_k4:=(((((k4.ext x24).other q4_2 fun e=>by have h1:=k2.lt;have h2:=l4;have h3:=(x3).size;have h4:=Nc e;omega).other q4_3 fun e=>by have h1:=k3.lt;have h2:=l4;have h4:=Nc e;omega).ext x33).ext x39)
   refine bD J J j3_k4 J bE (am.cons J (am.cons f39_0.one am.nil)) fun w6_4 q6_4 k6_4=>?_
   have x6_4:=aH.of_new (((x4_3.trans x33).trans x39)) q6_4 (Nb ((x2.trans x3)).size l4)
   have m6_4:=Kq.of1 (p:=[0,3]) j3_k4 (ac rfl (ac rfl aT)) q6_4
   refine aI (aD (bp J (.cell J (k6_4.ld MR J bE) .nil) ?_))
   exact⟨_,J,x6_4,by first|(rw[H6 h11 hlt];exact(eW.mk (f39_0.kq m6_4)))|(rw[H7 h11 hlt];exact(eW.mk (f39_0.kq m6_4)))⟩
  ·have hlt:val m≤val n:=Nat.le_of_not_lt fun h=>h25 (jI.2 h)
   have hq:=yt (Nat.sub_le (val n) (val m)) hnn
   refine aA (ah (bc (af J J (cc) (ak J J (ai MD J (((x3.trans x4).trans x24).cell_some (k2.cell (i:=1) J))) (af J J (cc) (ak J J (ai MD J ((x4.trans x24).cell_some (k3.cell (i:=1) J))) (aq yl J J (Bj (hx.ext (((x2.trans x3).trans x4).trans x24)) (hy.ext (((x2.trans x3).trans x4).trans x24)) (by omega) (by omega)) ?_)))))))
   rintro v33 w33 ⟨x33,⟨u33_a,_,rfl,b33_a,rfl⟩⟩
   refine ab J J (aB J J cY (aB J J cZ (aa J J (aa J J (dR (af J J (cS) (ak J J (ai MH J ((((x3.trans x4).trans x24).trans x33).cell_some (k2.cell (i:=0) J))) (ab J J (aq mE J J ((by have:=mF (s:=s) b33_a (by omega);rw[bk] at this;exact this)) ?_)))))))))
   rintro v39 w39 ⟨x39,⟨x39_0,rfl,f39_0⟩⟩
   refine bD J J (k4.ext ((x24.trans x33).trans x39)) J bE (am.cons J (am.cons f39_0.one am.nil)) fun w6_4 q6_4 k6_4=>?_
   have x6_4:=aH.of_new ((((x4.trans x24).trans x33).trans x39)) q6_4 l4
   have m6_4:=Kq.of1 (p:=[0,3]) (k4.ext ((x24.trans x33).trans x39)) (ac rfl (ac rfl aT)) q6_4
   refine aI (aD (bp J (.cell J (k6_4.ld MR J bE) .nil) ?_))
   exact⟨_,J,((x2.trans x3).trans x6_4),by first|(rw[H6 h11 hlt];exact(eW.mk (f39_0.kq m6_4)))|(rw[H7 h11 hlt];exact(eW.mk (f39_0.kq m6_4)))⟩
def zK (x y:Int):Int:=if x<y then-1 else if x=y then 0 else 1
theorem JM {x y:Int} (h:x<y):zK x y= -1:=by unfold zK;rw[if_pos h]
theorem JN {x y:Int} (h:y<x):zK x y=1:=by unfold zK;rw[if_neg (by omega),if_neg (by omega)]
theorem uy (x:Int):kO x= -1∧x<0∨kO x=0∧x=0∨kO x=1∧0<x:=by unfold kO;split<;>(try split)<;>omega
theorem H8 {s:Bool} {n m:Nat}:zK (fC s n) (fC s m)=if s=true then pn m n else pn n m:=by
 unfold zK pn fC
 rcases Nat.lt_trichotomy n m with h|h|h
 ·cases s
  ·rw[if_pos (by simp;omega)];simp;omega
  ·rw[if_neg (by simp;omega),if_neg (by simp;omega)];simp;omega
 ·subst h;cases s<;>simp
 ·cases s
  ·rw[if_neg (by simp;omega),if_neg (by simp;omega)];simp;omega
  ·rw[if_pos (by simp;omega)];simp;omega
theorem F0 {w:World} {x y:Int} {v u:Value} (hv:IZ x v w) (hu:IZ y u w) (hl:(lb x.natAbs).length≤274877906944) (hm:(lb y.natAbs).length≤274877906944):
 Calls Tryz.prog 220 #[v,u] w (cA fun r w'=>aH w w'∧Is (I (zK x y)) r w'):=by
 obtain⟨p,rfl,hp⟩:=hv
 obtain⟨q,rfl,hq⟩:=hu
 have sx:=uy x
 have sy:=uy y
 refine enter (vs:=[.agg #[B (decide (x<0)),p],.agg #[B (decide (y<0)),q]]) Tryz.func220 J J J (bc (cj J J fun g2 w2 l2 x2 k2=>cj J J fun g3 w3 l3 x3 k3=>(aa J J (aI (aj (bj 5 [2,3,5,10] (by kernel_rfl) (by kernel_rfl) (ap J J (fun w hw=>((k2.ext x3).ext hw).ld MR J bE) (es (S:=Is (I (kO x))) oI (bi.is _) J J (fun w hw=>by have:=oK (w:=w) (s:=decide (x<0)) (n:=lb x.natAbs) ((eW.mk (hp.ext (x2.trans x3))).ext hw) (by omega);rw[bk,gE] at this;exact this) (ap J J (fun w hw=>(k3.ext hw).ld MR J bE) (es (S:=Is (I (kO y))) oI (bi.is _) J J (fun w hw=>by have:=oK (w:=w) (s:=decide (y<0)) (n:=lb y.natAbs) ((eW.mk (hq.ext (x2.trans x3))).ext hw) (by omega);rw[bk,gE] at this;exact this) (gA J J (bA ?_))))))))))))
 rintro wg1 xg1 _ rfl _ rfl _ rfl _ rfl
 refine aa J J (aI (aj (aJ (bc (ab J J (ab J J (ao J J J (aX) (aa J J (aI (ci J (fun h11=>?_) (fun h11=>?_)))))))))))
 ·refine bc (aa J J (aI (aD (bK (a0 (aF J J ?_))))))
  exact⟨_,J,((x2.trans x3).trans xg1),by rw[JM (by omega)];rfl⟩
 ·refine bc (ab J J (ab J J (ao J J J (bo) (aa J J (aI ?_)))))
  refine ci J (fun h15=>?_) (fun h15=>?_)
  ·refine bc (aa J J (aI (aD (bK (a0 (aF J J ?_))))))
   exact⟨_,J,((x2.trans x3).trans xg1),by rw[JN (by omega)];rfl⟩
  ·refine bc (ab J J (ao J J J (aX) (aa J J (aI ?_))))
   refine ci J (fun h19=>?_) (fun h19=>?_)
   ·refine bc (af J J (cc) (ak J J (ai MD J (xg1.cell_some (k3.cell (i:=1) J))) ?_))
    refine af J J (cc) (ak J J (ai MD J ((x3.trans xg1).cell_some (k2.cell (i:=1) J))) (aq jr J J (js (hq.ext ((x2.trans x3).trans xg1)) (hp.ext ((x2.trans x3).trans xg1))) ?_))
    rintro v26 w26 ⟨x26,rfl⟩
    refine aa J J (aI (aD (bK (a0 (aF J J ?_)))))
    exact⟨_,J,(((x2.trans x3).trans xg1).trans x26),by
     have e:=@H8 true x.natAbs y.natAbs
     rw[if_pos rfl,show fC true x.natAbs=x by unfold fC;rw[if_pos rfl];omega,show fC true y.natAbs=y by unfold fC;rw[if_pos rfl];omega] at e
     rw[e,bk,bk];rfl⟩
   ·refine aA (aW (ah (bc (af J J (cc) (ak J J (ai MD J ((x3.trans xg1).cell_some (k2.cell (i:=1) J))) ?_)))))
    refine af J J (cc) (ak J J (ai MD J (xg1.cell_some (k3.cell (i:=1) J))) (aq jr J J (js (hp.ext ((x2.trans x3).trans xg1)) (hq.ext ((x2.trans x3).trans xg1))) ?_))
    rintro v31 w31 ⟨x31,rfl⟩
    refine aa J J (aI (aD (aF J J ?_)))
    exact⟨_,J,(((x2.trans x3).trans xg1).trans x31),by
     have e:=@H8 false x.natAbs y.natAbs
     rw[if_neg (by simp),show fC false x.natAbs=x by unfold fC;rw[if_neg (by simp)];omega,show fC false y.natAbs=y by unfold fC;rw[if_neg (by simp)];omega] at e
     rw[e,bk,bk];rfl⟩
end Go.Rl

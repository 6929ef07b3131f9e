/- Part 4 of a proof: plain facts and walks of functions, merged by a program. Conditions: each lemma names its own. -/
import Derived.Test.YtaajaakbcelmfaaGreatDoorCd3
namespace Go.Rl
def tF (total:Nat):Nat→List UInt8→List UInt8→Option (List UInt8×List UInt8)
 |0,_,_=>none
 |f+1,rest,out=>
  if out.length<total then
   (wZ rest).bind fun p=>
     if (out++p.1).length<total then
      (cZ p.2).bind fun q=>(cZ q.2).bind fun r=>
        if total≤q.1∨(out++p.1).length≤r.1 then none
        else tF total f r.2 (zc (r.1+1) (min (q.1+4) (total-(out++p.1).length)) (out++p.1))
     else some (out++p.1,p.2)
  else some (out,rest)
theorem HE {d:List UInt8} (hd:d.length<18446744073709551616):∀(c i run f:Nat),d.length-i=c→run≤i→i≤d.length→d.length-i+1≤f→
 tF d.length f (pk d i run) (d.take (i-run))=some (d,[]):=by
 intro c
 induction c using Nat.strongRecOn with
 |ind c ih=>
  intro i run f hc hr hid hf
  obtain⟨f,rfl⟩:∃g,f=g+1:=⟨f-1,by omega⟩
  have hlo:(d.take (i-run)).length=i-run:=by rw[List.length_take];omega
  by_cases hi:i<d.length
  ·by_cases hn:(cV d i).1=0
   ·rw[pS hi hn]
    have:=ih (d.length-(i+1)) (by omega) (i+1) (run+1) (f+1) rfl (by omega) (by omega) (by omega)
    rw[show i+1-(run+1)=i-run by omega] at this
    exact this
   ·obtain⟨h4,h1,h2,h3,hml,h5⟩:=lq hn
    obtain⟨n,hnn⟩:∃n,n=(cV d i).1:=⟨_,rfl⟩
    obtain⟨k,hkk⟩:∃k,k=(cV d i).2:=⟨_,rfl⟩
    rw[kv hi hn]
    rw[←hnn] at h4 h5 hml⊢
    rw[←hkk] at h1 h2 h3 hml⊢
    obtain⟨L,hL⟩:∃L,L=(d.drop (i-run)).take run:=⟨_,rfl⟩
    have hlr:L.length=run:=by rw[hL,List.length_take,List.length_drop];omega
    have htl:d.take (i-run)++L=d.take i:=by rw[hL];exact uG hr
    have hti:(d.take i).length=i:=by rw[List.length_take];omega
    rw[←hL]
    unfold tF
    rw[if_pos (by rw[hlo];omega)]
    have e:uv run++L++uv (n-4)++uv (k-1)++pk d (i+n) 0=Cy L++(uv (n-4)++(uv (k-1)++pk d (i+n) 0)):=by
     rw[Cy,hlr];simp only[List.append_assoc]
    rw[e,xU (by omega)]
    simp only[Option.bind_some,htl,hti]
    rw[if_pos hi,ju (by omega)]
    simp only[Option.bind_some]
    rw[ju (by omega)]
    simp only[Option.bind_some]
    rw[if_neg (by omega),show k-1+1=k by omega,show min (n-4+4) (d.length-i)=n by omega]
    have hc0:=Ac (d:=d) (i:=i) (k:=k) h1 h2 n 0 (by omega)
    rw[Nat.add_zero] at hc0
    rw[hc0]
    have:=ih (d.length-(i+n)) (by omega) (i+n) 0 f rfl (by omega) h5 (by omega)
    rw[Nat.sub_zero] at this
    exact this
  ·have hie:i=d.length:=by omega
   rw[jW hi]
   unfold tF
   by_cases hr0:0<run
   ·have hdl:(d.drop (d.length-run)).length=run:=by rw[List.length_drop];omega
    have e:uv run++d.drop (d.length-run)=Cy (d.drop (d.length-run))++[]:=by rw[Cy,hdl,List.append_nil]
    rw[if_pos hr0,if_pos (by rw[hlo];omega),e,xU (by omega)]
    simp only[Option.bind_some]
    rw[hie,List.take_append_drop,if_neg (by omega)]
   ·have:run=0:=by omega
    subst this
    rw[if_neg (show ¬0<0 by omega),if_neg (by rw[hlo];omega),hie,Nat.sub_zero,List.take_length]
theorem Ad {d:List UInt8} (hd:d.length<18446744073709551616):qz d.length (d.length+1) (pk d 0 0) []=some d:=by
 have:=HD hd (d.length-0) 0 0 (d.length+1) rfl (by omega) (by omega) (by omega)
 simpa using this
theorem td {d:List UInt8} (hd:d.length<18446744073709551616):tF d.length (d.length+1) (pk d 0 0) []=some (d,[]):=by
 have:=HE hd (d.length-0) 0 0 (d.length+1) rfl (by omega) (by omega) (by omega)
 simpa using this
theorem yB {l t out:List UInt8} {total:Nat} (hl:cZ l=some (total,t)) (ho:out.length<18446744073709551616) (hp:bW out=l):
 qz total (total+1) t []=some out∧tF total (total+1) t []=some (out,[]):=by
 rw[←hp,bW,ju ho] at hl
 obtain⟨rfl,rfl⟩:=Prod.mk.inj (Option.some.inj hl)
 exact⟨Ad ho,td ho⟩
def vp (l t:List UInt8) (total:Nat):Option (List UInt8):=(qz total (total+1) t []).bind fun out=>if bW out=l then some out else none
def vr (l t:List UInt8) (total:Nat):Option (List UInt8):=(tF total (total+1) t []).bind fun p=>if p.2=[]∧bW p.1=l then some p.1 else none
theorem Iq {l t:List UInt8} {total:Nat} (hl:cZ l=some (total,t)) (h1:∀out,qz total (total+1) t []=some out→out.length<18446744073709551616)
 (h2:∀p,tF total (total+1) t []=some p→p.1.length<18446744073709551616):vp l t total=vr l t total:=by
 have key:∀out,out.length<18446744073709551616→bW out=l→vp l t total=some out∧vr l t total=some out:=fun out ho hp=>by
  obtain⟨e1,e2⟩:=yB hl ho hp
  constructor
  ·unfold vp;rw[e1];exact if_pos hp
  ·unfold vr;rw[e2];exact if_pos ⟨rfl,hp⟩
 cases hv:vp l t total with
 |some out=>
  have hv':=hv
  unfold vp at hv'
  cases hu:qz total (total+1) t [] with
  |none=>rw[hu] at hv';cases hv'
  |some o=>
   rw[hu] at hv'
   have hv':(if bW o=l then some o else none)=some out:=hv'
   split at hv'
   ·rename_i hp
    obtain rfl:=Option.some.inj hv'
    exact(key _ (h1 _ hu) hp).2.symm
   ·cases hv'
 |none=>
  cases hw:vr l t total with
  |none=>rfl
  |some out=>
   have hw':=hw
   unfold vr at hw'
   cases hu:tF total (total+1) t [] with
   |none=>rw[hu] at hw';cases hw'
   |some p=>
    rw[hu] at hw'
    have hw':(if p.2=[]∧bW p.1=l then some p.1 else none)=some out:=hw'
    split at hw'
    ·rename_i hp
     obtain rfl:=Option.some.inj hw'
     rw[(key _ (h2 _ hu) hp.2).1] at hv
     cases hv
    ·cases hw'
theorem HF {d:List UInt8} (hd:d.length<18446744073709551616):∀(c i run:Nat),d.length-i=c→run≤i→i≤d.length→(pk d i run).length≤31*(d.length-i+run)+10:=by
 intro c
 induction c using Nat.strongRecOn with
 |ind c ih=>
  intro i run hc hr hid
  by_cases hi:i<d.length
  ·by_cases hn:(cV d i).1=0
   ·rw[pS hi hn]
    have:=ih (d.length-(i+1)) (by omega) (i+1) (run+1) rfl (by omega) (by omega)
    omega
   ·obtain⟨h4,h1,h2,h3,_,h5⟩:=lq hn
    rw[kv hi hn]
    have:=ih (d.length-(i+(cV d i).1)) (by omega) (i+(cV d i).1) 0 rfl (by omega) (by omega)
    have u1:=fc (n:=run) (by omega)
    have u2:=fc (n:=(cV d i).1-4) (by omega)
    have u3:=fc (n:=(cV d i).2-1) (by omega)
    have ht:((d.drop (i-run)).take run).length≤run:=by rw[List.length_take];omega
    simp only[List.length_append]
    omega
  ·rw[jW hi]
   split
   ·have u1:=fc (n:=run) (by omega)
    simp only[List.length_append,List.length_drop]
    omega
   ·simp
theorem nZ {d:List UInt8} (hd:d.length<18446744073709551616):(bW d).length≤31*d.length+20:=by
 have h1:=HF hd d.length 0 0 (by omega) (by omega) (by omega)
 have h2:=fc (n:=d.length) hd
 unfold bW
 rw[List.length_append]
 omega
end Go.Rl
namespace Go.Rl
def pos (d q:List UInt8) (n:Nat):List Nat:=(List.range n).filter fun p=>(d.drop p).take 4==q
theorem yC (d q:List UInt8) (n:Nat):pos d q (n+1)=pos d q n++if (d.drop n).take 4=q then[n] else[]:=by
 unfold pos
 rw[List.range_succ,List.filter_append]
 congr 1
 by_cases h:(d.drop n).take 4=q
 ·simp[h]
 ·simp[h]
theorem Bt {d q:List UInt8} {n p:Nat}:p∈pos d q n↔p<n∧(d.drop p).take 4=q:=by
 unfold pos
 simp
theorem Ae (d q:List UInt8) (n:Nat):(pos d q n).Pairwise (· < ·):=List.Pairwise.filter _ List.pairwise_lt_range
theorem EY (d q:List UInt8):pos d q 0=[]:=rfl
theorem Bu (d q:List UInt8) (n:Nat):(pos d q n).length≤n:=by
 have:=List.length_filter_le (fun p=>(d.drop p).take 4==q) (List.range n)
 unfold pos
 simpa using this
theorem iJ (a b:UInt8) (l m:List UInt8):jY (a::l) (b::m)=if a=b then jY l m+1 else 0:=rfl
theorem lcp4:∀(l m:List UInt8),4≤l.length→(4≤jY l m↔m.take 4=l.take 4):=by
 intro l m hl
 match l,hl with
 |a::b::c::e::l,_=>
  match m with
  |[]=>simp[jY]
  |[a']=>simp only[iJ,wv];constructor<;>intro h<;>(first|(split at h<;>omega)|simp at h)
  |[a',b']=>simp only[iJ,wv];constructor<;>intro h<;>(first|((repeat' split at h)<;>omega)|simp at h)
  |[a',b',c']=>simp only[iJ,wv];constructor<;>intro h<;>(first|((repeat' split at h)<;>omega)|simp at h)
  |a'::b'::c'::e'::m=>
   simp only[iJ,List.take_succ_cons,List.take_zero,List.cons.injEq,and_true]
   constructor
   ·intro h
    (repeat' split at h)<;>first|omega|(subst_vars;simp)
   ·rintro⟨rfl,rfl,rfl,rfl⟩
    simp
theorem ml4 {d:List UInt8} {i k:Nat} (hi:i+4≤d.length):4≤ml d i k↔(d.drop (i-k)).take 4=(d.drop i).take 4:=lcp4 _ _ (by rw[List.length_drop];omega)
theorem yD (d:List UInt8) (i j:Nat):qQ d i (j+1)=if 4≤ml d i (j+1)∧(qQ d i j).1<ml d i (j+1) then(ml d i (j+1),j+1) else qQ d i j:=rfl
theorem oY {d:List UInt8} {i a:Nat}:∀b,a≤b→(∀k,a<k→k≤b→ml d i k<4∨ml d i k≤(qQ d i a).1)→qQ d i b=qQ d i a
 |0,h,_=>by rw[show a=0 by omega]
 |b+1,h,hk=>by
  rcases Nat.lt_or_ge b a with h'|h'
  ·rw[show a=b+1 by omega]
  ·have ih:=oY b h' (fun k h1 h2=>hk k h1 (by omega))
   rw[yD,if_neg,ih]
   rintro⟨h1,h2⟩
   rw[ih] at h2
   rcases hk (b+1) (by omega) (Nat.le_refl _) with h3|h3<;>omega
def EZ (d:List UInt8) (i:Nat) (s:Nat×Nat) (p:Nat):Nat×Nat:=if s.1<ml d i (i-p) then(ml d i (i-p),i-p) else s
def pT (i:Nat) (l:List Nat):Nat:=match l.getLast? with|none=>0|some p=>i-p
theorem uH (i p:Nat) (l:List Nat):pT i (l++[p])=i-p:=by simp[pT]
section
variable {d:List UInt8} {i:Nat} {R:List Nat}
theorem yE (hi:i+4≤d.length) (hR:R.Pairwise (fun a b=>b<a)) (hm:∀p,p∈R↔p<i∧(d.drop p).take 4=(d.drop i).take 4):∀(n:Nat) (pre suf:List Nat),pre.length=n→R=pre++suf→
 pre.foldl (EZ d i) (0,0)=qQ d i (pT i pre)∧pT i pre≤i∧∀k,pT i pre<k→k≤i→4≤ml d i k→i-k∈suf:=by
 intro n
 induction n with
 |zero=>
  intro pre suf hl hs
  have:pre=[]:=List.eq_nil_of_length_eq_zero hl
  subst this
  refine⟨rfl,Nat.zero_le _,fun k h1 h2 h3=>?_⟩
  have h0:0<k:=h1
  have:=(hm (i-k)).2 ⟨by omega,(ml4 hi).1 h3⟩
  rw[hs] at this
  simpa using this
 |succ n ih=>
  intro pre suf hl hs
  obtain⟨pre',x,rfl⟩:∃pre' x,pre=pre'++[x]:=by
   rcases List.eq_nil_or_concat pre with h|⟨l,a,h⟩
   ·subst h;simp at hl
   ·exact⟨l,a,by rw[h,List.concat_eq_append]⟩
  have hs':R=pre'++(x::suf):=by rw[hs];simp
  obtain⟨h1,h2,h3⟩:=ih pre' (x::suf) (by simp at hl;omega) hs'
  have hx:=(hm x).1 (by rw[hs'];simp)
  have hxk:4≤ml d i (i-x):=(ml4 hi).2 (by rw[show i-(i-x)=x by omega];exact hx.2)
  have hsuf:∀p∈suf,p<x:=by
   rw[hs'] at hR
   have:=(List.pairwise_append.1 hR).2.1
   exact(List.pairwise_cons.1 this).1
  have hlast:pT i pre'<i-x:=by
   unfold pT
   cases hg:pre'.getLast? with
   |none=>simp only[];omega
   |some p=>
    have hp:p∈pre':=List.mem_of_getLast? hg
    rw[hs'] at hR
    have:=(List.pairwise_append.1 hR).2.2 p hp x (by simp)
    have hpi:=(hm p).1 (by rw[hs'];simp[hp])
    simp only[]
    omega
  rw[uH,List.foldl_append,List.foldl_cons,List.foldl_nil,h1]
  refine⟨?_,by omega,fun k hk1 hk2 hk3=>?_⟩
  ·have hskip:qQ d i (i-x-1)=qQ d i (pT i pre'):=oY _ (by omega) (fun k hk1 hk2=>by
    rcases Nat.lt_or_ge (ml d i k) 4 with h|h
    ·exact .inl h
    ·have:=h3 k hk1 (by omega) h
     rcases List.mem_cons.1 this with e|e
     ·omega
     ·have:=hsuf _ e;omega)
   have hsucc:i-x=(i-x-1)+1:=by omega
   conv=>rhs;rw[hsucc]
   rw[yD,←hsucc,hskip]
   unfold EZ
   by_cases hlt:(qQ d i (pT i pre')).1<ml d i (i-x)
   ·rw[if_pos hlt,if_pos ⟨hxk,hlt⟩]
   ·rw[if_neg hlt,if_neg (fun h=>hlt h.2)]
  ·rcases List.mem_cons.1 (h3 k (by omega) hk2 hk3) with e|e
   ·omega
   ·exact e
theorem yF (hi:i+4≤d.length) (hR:R.Pairwise (fun a b=>b<a)) (hm:∀p,p∈R↔p<i∧(d.drop p).take 4=(d.drop i).take 4) {pre suf:List Nat} (hs:R=pre++suf) (hp:∀p∈pre,i-p≤4096) (hf:∀p∈suf,4096<i-p):
 pre.foldl (EZ d i) (0,0)=cV d i:=by
 obtain⟨h1,h2,h3⟩:=yE hi hR hm _ pre suf rfl hs
 have hk:pT i pre≤4096:=by
  unfold pT
  cases hg:pre.getLast? with
  |none=>simp
  |some p=>exact hp p (List.mem_of_getLast? hg)
 rw[h1]
 unfold cV
 refine(oY _ (by omega) (fun k hk1 hk2=>.inl ?_)).symm
 rcases Nat.lt_or_ge (ml d i k) 4 with h|h
 ·exact h
 ·have:=hf _ (h3 k hk1 (by omega) h)
  omega
theorem CV (hi:i+4≤d.length) (hR:R.Pairwise (fun a b=>b<a)) (hm:∀p,p∈R↔p<i∧(d.drop p).take 4=(d.drop i).take 4) {pre suf:List Nat} {x:Nat} (hs:R=(pre++[x])++suf) (hp:∀p∈pre++[x],i-p≤4096) (hx:i+ml d i (i-x)=d.length):
 (pre++[x]).foldl (EZ d i) (0,0)=cV d i:=by
 obtain⟨h1,h2,h3⟩:=yE hi hR hm _ (pre++[x]) suf rfl hs
 have hk:pT i (pre++[x])≤4096:=by rw[uH];exact hp x (by simp)
 have hge:d.length-i≤(qQ d i (pT i (pre++[x]))).1:=by
  rw[←h1,List.foldl_append,List.foldl_cons,List.foldl_nil]
  unfold EZ
  split
  ·show d.length-i≤ml d i (i-x);omega
  ·rename_i h;omega
 rw[h1]
 unfold cV
 refine(oY _ (by omega) (fun k hk1 hk2=>.inr ?_)).symm
 have:=GV d i k
 omega
end
theorem rj {d:List UInt8} {i k j:Nat} (hk:k≤i) (hi:i+j<d.length):jY (d.drop (i+j)) (d.drop (i-k+j))=if d[i+j]=d[i-k+j]'(by omega) then jY (d.drop (i+(j+1))) (d.drop (i-k+(j+1)))+1 else 0:=by
 rw[List.drop_eq_getElem_cons hi,List.drop_eq_getElem_cons (show i-k+j<d.length by omega),jY]
 rfl
theorem CW {l m:List UInt8} (h:4≤jY l m):jY l m=4+jY (l.drop 4) (m.drop 4):=by
 match l,m with
 |[],m=>simp[jY] at h
 |[a],[]=>simp[jY] at h
 |a::l,[]=>simp[jY] at h
 |a::l,a'::m=>
  rw[iJ] at h⊢
  split at h
  ·rename_i e
   rw[if_pos e]
   match l,m with
   |[],m=>simp[jY] at h
   |b::l,[]=>simp[jY] at h
   |b::l,b'::m=>
    rw[iJ] at h⊢
    split at h
    ·rename_i e
     rw[if_pos e]
     match l,m with
     |[],m=>simp[jY] at h
     |c::l,[]=>simp[jY] at h
     |c::l,c'::m=>
      rw[iJ] at h⊢
      split at h
      ·rename_i e
       rw[if_pos e]
       match l,m with
       |[],m=>simp[jY] at h
       |f::l,[]=>simp[jY] at h
       |f::l,f'::m=>
        rw[iJ] at h⊢
        split at h
        ·rename_i e
         rw[if_pos e]
         simp only[List.drop_succ_cons,List.drop_zero]
         omega
        ·omega
      ·omega
    ·omega
  ·omega
theorem E0 {d:List UInt8} {i p:Nat} (hi:i+4≤d.length) (hp:p<i) (h:(d.drop p).take 4=(d.drop i).take 4):ml d i (i-p)=4+jY (d.drop (i+4)) (d.drop (p+4)):=by
 have h4:4≤ml d i (i-p):=(ml4 hi).2 (by rw[show i-(i-p)=p by omega];exact h)
 unfold ml at h4⊢
 rw[CW h4,List.drop_drop,List.drop_drop,show i-(i-p)=p by omega]
end Go.Rl
namespace Go.Rl
open Go.RowKit Go.Proofs
open Go.Maps (Keyed)
def K4 (q:List UInt8):Value:=.agg (q.map U8).toArray
theorem Ir (x:UInt8):(Lit.int .u8 (x.toNat:Int)).wf=true:=by
 have:=x.toNat_lt
 simp[Lit.wf,IntKind.min,IntKind.max,IntKind.bits,IntKind.signed]
 omega
theorem E1:Keyed Tryz.prog 221:=Keyed.of_law (deep_law (m:=2) (by omega) (by kernel_rfl) (by kernel_rfl) (by rw[Jb]))
theorem E2:Tryz.prog.keyType 221=true:=by kernel_rfl
theorem yG:(Tryz.prog.info? 221).map (·.size)=some 4:=by kernel_rfl
theorem yH:Tryz.prog.cellsOf 221=4:=by kernel_rfl
theorem E4:Tryz.prog.cellsOf 5=1:=by kernel_rfl
theorem Af {q:List UInt8} (hq:q.length=4):∃l,keyOf Tryz.prog 221 (K4 q)=some l:=by
 match q,hq with
 |[a,b,c,e],_=>
  have hl:∀(n:Nat) (x:UInt8),Tryz.prog.keyLits (n+1) 5 [U8 x]=some [.int .u8 (x.toNat:Int)]:=fun n x=>by
   simp[Program.keyLits,Tryz.underlying5,U8,Ir x]
  have hf:(K4 [a,b,c,e]).formed Tryz.prog 221=true:=by
   simp[K4,Value.formed,Tryz.underlying221,yH]
  obtain⟨S,hS⟩:∃S,Tryz.prog.types.size=S+1:=⟨Tryz.prog.types.size-1,by kernel_rfl⟩
  have hk:Tryz.prog.keyLits (Tryz.prog.types.size+1) 221 (K4 [a,b,c,e]).cells.toList=some [.int .u8 (a.toNat:Int),.int .u8 (b.toNat:Int),.int .u8 (c.toNat:Int),.int .u8 (e.toNat:Int)]:=by
   rw[hS]
   unfold Program.keyLits
   rw[Jb]
   simp[K4,Value.cells,yH,E4,hl,List.range_succ,List.mapM_cons]
  refine⟨.string (keyBytes [.int .u8 (a.toNat:Int),.int .u8 (b.toNat:Int),.int .u8 (c.toNat:Int),.int .u8 (e.toNat:Int)]),?_⟩
  unfold keyOf
  rw[Jb]
  simp only[E2,hf,hk]
  rfl
theorem wx {q r:List UInt8} (h:K4 q=K4 r):q=r:=by
 have h2:q.map U8=r.map U8:=by
  have:=congrArg (fun v=>match v with|.agg a=>a.toList|_=>[]) h
  simpa [K4] using this
 have inj:∀(q r:List UInt8),q.map U8=r.map U8→q=r:=by
  intro q
  induction q with
  |nil=>intro r h;cases r with
   |nil=>rfl
   |cons b r=>simp at h
  |cons a q ih=>intro r h;cases r with
   |nil=>simp at h
   |cons b r=>
    simp only[List.map_cons,List.cons.injEq] at h
    have e:a=b:=by
     have h1:=h.1
     simp only[U8,Value.int.injEq,true_and] at h1
     exact UInt8.toNat_inj.1 (by omega)
    rw[e,ih r h.2]
 exact inj q r h2
def i7 (d q:List UInt8) (n:Nat):List Int:=(pos d q n).map Int.ofNat
theorem uI (d q:List UInt8) (n:Nat):i7 d q (n+1)=i7 d q n++if (d.drop n).take 4=q then[(n:Int)] else[]:=by
 unfold i7
 rw[yC,List.map_append]
 congr 1
 split<;>rfl
structure GW (base:Nat) (d:List UInt8) (n clock:Nat) (X:Nat→Prop) (w:World) (e:MapEntry) (q:List UInt8):Prop where
 len:q.length=4
 key:e.key=K4 q
 row:eQ base (i7 d q n) e.val w
 born:e.born<clock
 own:∀k,e.val.ownBlock=some k→X k
structure gY (base:Nat) (d:List UInt8) (m n:Nat) (X:Nat→Prop) (w:World) (es:List MapEntry) (clock:Nat):Prop where
 at_:w.heap[m]? =some (.map es.toArray clock)
 ent:∀e∈es,∃q,GW base d n clock X w e q
 apart:∀(i j:Nat) (e f:MapEntry),es[i]? =some e→es[j]? =some f→i≠j→e.key≠f.key∧e.born≠f.born∧(e.val.ownBlock=none∨e.val.ownBlock≠f.val.ownBlock)
 full:∀q,pos d q n≠[]→∃e∈es,e.key=K4 q
def gD (base:Nat) (d:List UInt8) (m n:Nat) (X:Nat→Prop) (w:World):Prop:=∃es clock,gY base d m n X w es clock
section
variable {base:Nat} {d:List UInt8} {m n clock:Nat} {X:Nat→Prop} {w w':World} {es:List MapEntry}
theorem gY.keys (h:gY base d m n X w es clock):zm Tryz.prog 221 es:=fun e he=>by
 obtain⟨q,hq⟩:=h.ent e he
 rw[hq.key]
 exact Af hq.len
theorem gY.lt (h:gY base d m n X w es clock):m<w.heap.size:=(Array.getElem?_eq_some_iff.1 h.at_).1
theorem eQ.cells {l:List Int} {v:Value} (h:eQ base l v w) {k:Nat} (hk:v.ownBlock=some k):∃cs f,w.heap[k]? =some (.cells cs 3 f):=by
 obtain⟨n,h1,h2⟩:=h
 rcases h2 with⟨rfl,_⟩|⟨g,cap,cur,rfl,h3,h4,h5⟩
 ·cases hk
 ·obtain rfl:g=k:=Option.some.inj hk
  exact⟨_,_,h4⟩
theorem gY.ne (h:gY base d m n X w es clock) {e:MapEntry} (he:e∈es):e.val.ownBlock≠some m:=fun hk=>by
 obtain⟨q,hq⟩:=h.ent e he
 obtain⟨cs,f,hc⟩:=hq.row.cells hk
 rw[h.at_] at hc
 cases hc
theorem gY.same (h:gY base d m n X w es clock) (hm:w'.heap[m]? =w.heap[m]?) (hX:∀k,X k→k<w.heap.size→w'.heap[k]? =w.heap[k]?):gY base d m n X w' es clock:=
 ⟨hm.trans h.at_,fun e he=>by
  obtain⟨q,hq⟩:=h.ent e he
  exact⟨q,hq.len,hq.key,hq.row.same fun k hk=>hX k (hq.own k hk) (hq.row.lt k hk).2,hq.born,hq.own⟩,h.apart,h.full⟩
theorem gD.same (h:gD base d m n X w) (hm:w'.heap[m]? =w.heap[m]?) (hX:∀k,X k→k<w.heap.size→w'.heap[k]? =w.heap[k]?):gD base d m n X w':=by
 obtain⟨es,clock,h⟩:=h
 exact⟨es,clock,h.same hm hX⟩
theorem gD.lt (h:gD base d m n X w):m<w.heap.size:=by
 obtain⟨es,clock,h⟩:=h
 exact h.lt
theorem gD.ext (h:gD base d m n X w) (hx:aM w w'):gD base d m n X w':=h.same (hx.heap h.lt) fun _ _ hk=>hx.heap hk
theorem uJ:(Tryz.prog.info? 66).map (·.zero)=some (some (.slice none 0 0)):=by kernel_rfl
theorem gD.look (h:gD base d m n X w) {q:List UInt8} (hq:q.length=4):∃v,(Instr.lookup 156 (.map (some m)) (K4 q) false).run Tryz.prog w=.ok v w∧eQ base (i7 d q n) v w∧∀k,v.ownBlock=some k→X k:=by
 obtain⟨es,clock,h⟩:=h
 obtain⟨l,hl⟩:=Af hq
 rcases DN (P:=Tryz.prog) E1 Je uJ h.at_ h.keys hl with⟨h1,_,h2⟩|⟨j,e,h1,_,h2,h3⟩
 ·have hp:pos d q n=[]:=Classical.byContradiction fun hn=>by
   obtain⟨e,he,hk⟩:=h.full q hn
   exact h2 e he hk
  exact⟨_,h1,by unfold i7;rw[hp];exact eQ.nil _ _,fun k hk=>by cases hk⟩
 ·obtain⟨r,hr⟩:=h.ent e (List.mem_of_getElem? h2)
  have e1:r=q:=wx (hr.key.symm.trans h3)
  subst e1
  exact⟨_,h1,hr.row,hr.own⟩
theorem gY.put (h:gY base d m n X w es clock) {w2 w3:World} {j:Nat} {e0:MapEntry} {q:List UInt8} {v:Value} (hj:es[j]? =some e0) (hk:e0.key=K4 q) (hqd:(d.drop n).take 4=q) (hg:w.grownBy w2 e0.val.ownBlock) (ho:v.ownBlock=e0.val.ownBlock∨∀k,v.ownBlock=some k→w.heap.size≤k)
 (hv:eQ base (i7 d q n++[(n:Int)]) v w2) (hg3:w2.grownBy w3 (some m)) (h3:w3.heap[m]? =some (.map (es.set j {e0 with val:=v}).toArray clock)):gY base d m (n+1) (fun k=>X k∨v.ownBlock=some k) w3 (es.set j {e0 with val:=v}) clock:=by
 have hjl:j<es.length:=by
  rcases Nat.lt_or_ge j es.length with h|h
  ·exact h
  ·rw[List.getElem?_eq_none h] at hj;cases hj
 have hm0:=List.mem_of_getElem? hj
 obtain⟨q0,hq0⟩:=h.ent e0 hm0
 have eq0:q0=q:=wx (hq0.key.symm.trans hk)
 subst eq0
 have hvm:v.ownBlock≠some m:=fun hb=>by
  obtain⟨cs,f,hc⟩:=hv.cells hb
  rcases ho with ho|ho
  ·exact h.ne hm0 (ho▸hb)
  ·have:=ho m hb
   have:=h.lt
   omega
 have other:∀(i:Nat) (e:MapEntry),es[i]? =some e→i≠j→∃r,GW base d (n+1) clock (fun k=>X k∨v.ownBlock=some k) w3 e r:=fun i e hi hij=>by
  have hme:=List.mem_of_getElem? hi
  obtain⟨r,hr⟩:=h.ent e hme
  have hap:=h.apart i j e e0 hi hj hij
  have hne:¬(d.drop n).take 4=r:=fun hh=>hap.1 (by rw[hr.key,hk,←hqd,hh])
  have e1:i7 d r (n+1)=i7 d r n:=by rw[uI,if_neg hne,List.append_nil]
  refine⟨r,hr.len,hr.key,?_,hr.born,fun k hk=>.inl (hr.own k hk)⟩
  rw[e1]
  exact(hr.row.kept hg hap.2.2).kept hg3 (.inr (h.ne hme))
 have getset:∀(i:Nat) (e:MapEntry),(es.set j {e0 with val:=v})[i]? =some e→(i=j∧e={e0 with val:=v})∨(i≠j∧es[i]? =some e):=fun i e hi=>by
  by_cases hij:i=j
  ·subst hij
   rw[List.getElem?_set_self (by omega)] at hi
   exact .inl ⟨rfl,(Option.some.inj hi).symm⟩
  ·rw[List.getElem?_set_ne (Ne.symm hij)] at hi
   exact .inr ⟨hij,hi⟩
 refine⟨h3,fun e he=>?_,fun i i' e e' hi hi' hne=>?_,fun r hr=>?_⟩
 ·obtain⟨i,hi⟩:=List.mem_iff_getElem?.1 he
  rcases getset i e hi with⟨rfl,rfl⟩|⟨hij,hi⟩
  ·refine⟨q0,hq0.len,hq0.key,?_,hq0.born,fun k hk=>.inr hk⟩
   rw[uI,if_pos hqd]
   exact hv.kept hg3 (.inr hvm)
  ·exact other i e hi hij
 ·have lt_of:∀(i:Nat) (e:MapEntry),es[i]? =some e→∀k,e.val.ownBlock=some k→k<w.heap.size:=fun i e hi k hk=>by
   obtain⟨r,hr⟩:=h.ent e (List.mem_of_getElem? hi)
   exact(hr.row.lt k hk).2
  rcases getset i e hi with⟨rfl,rfl⟩|⟨hij,hi0⟩<;>rcases getset i' e' hi' with⟨rfl,rfl⟩|⟨hij',hi0'⟩
  ·exact absurd rfl hne
  ·have hap:=h.apart i i' e0 e' hj hi0' hne
   refine⟨hap.1,hap.2.1,?_⟩
   rcases ho with ho|ho
   ·show v.ownBlock=none∨v.ownBlock≠_
    rw[ho];exact hap.2.2
   ·cases hb:v.ownBlock with
    |none=>exact .inl rfl
    |some k=>exact .inr fun hc=>by have:=lt_of i' e' hi0' k hc.symm;have:=ho k hb;omega
  ·have hap:=h.apart i i' e e0 hi0 hj hne
   refine⟨hap.1,hap.2.1,?_⟩
   rcases ho with ho|ho
   ·show e.val.ownBlock=none∨e.val.ownBlock≠v.ownBlock
    rw[ho];exact hap.2.2
   ·cases hb:e.val.ownBlock with
    |none=>exact .inl rfl
    |some k=>exact .inr fun hc=>by have:=lt_of i e hi0 k hb;have:=ho k hc.symm;omega
  ·exact h.apart i i' e e' hi0 hi0' hne
 ·have hsome:∃e∈es,e.key=K4 r:=by
   by_cases hr0:pos d r n=[]
   ·have:(d.drop n).take 4=r:=Classical.byContradiction fun hh=>hr (by rw[yC,hr0,if_neg hh];rfl)
    exact⟨e0,hm0,by rw[hk,←hqd,this]⟩
   ·exact h.full r hr0
  obtain⟨e,he,hek⟩:=hsome
  obtain⟨i,hi⟩:=List.mem_iff_getElem?.1 he
  by_cases hij:i=j
  ·subst hij
   rw[hj] at hi
   obtain rfl:=Option.some.inj hi
   exact⟨{e0 with val:=v},List.mem_iff_getElem?.2 ⟨i,List.getElem?_set_self (by omega)⟩,hek⟩
  ·exact⟨e,List.mem_iff_getElem?.2 ⟨i,by rw[List.getElem?_set_ne (Ne.symm hij)];exact hi⟩,hek⟩
theorem gY.add (h:gY base d m n X w es clock) {q:List UInt8} (hq:q.length=4) (hno:∀e∈es,e.key≠K4 q) (hg:w.grownBy w' (some m)) (h':w'.heap[m]? =some (.map (es++[({key:=K4 q,val:=.slice none 0 0,born:=clock}:MapEntry)]).toArray (clock+1))):
 gY base d m n X w' (es++[({key:=K4 q,val:=.slice none 0 0,born:=clock}:MapEntry)]) (clock+1):=by
 have hp:pos d q n=[]:=Classical.byContradiction fun hn=>by
  obtain⟨e,he,hk⟩:=h.full q hn
  exact hno e he hk
 have hget:∀(i:Nat) (e:MapEntry),(es++[({key:=K4 q,val:=.slice none 0 0,born:=clock}:MapEntry)])[i]? =some e→es[i]? =some e∨(i=es.length∧e={key:=K4 q,val:=.slice none 0 0,born:=clock}):=fun i e hi=>by
  rcases Nat.lt_or_ge i es.length with hl|hl
  ·rw[List.getElem?_append_left hl] at hi;exact .inl hi
  ·rw[List.getElem?_append_right hl] at hi
   rcases Nat.eq_zero_or_pos (i-es.length) with h0|h0
   ·rw[h0] at hi
    exact .inr ⟨by omega,(Option.some.inj hi).symm⟩
   ·rw[List.getElem?_eq_none (by simp;omega)] at hi;cases hi
 refine⟨h',fun e he=>?_,fun i j e f hi hj hij=>?_,fun r hr=>?_⟩
 ·rcases List.mem_append.1 he with he|he
  ·obtain⟨r,hr⟩:=h.ent e he
   exact⟨r,hr.len,hr.key,hr.row.kept hg (.inr (h.ne he)),Nat.lt_succ_of_lt hr.born,hr.own⟩
  ·obtain rfl:=List.mem_singleton.1 he
   exact⟨q,hq,rfl,by unfold i7;rw[hp];exact eQ.nil _ _,Nat.lt_succ_self _,fun k hk=>by cases hk⟩
 ·rcases hget i e hi with hi|⟨rfl,rfl⟩<;>rcases hget j f hj with hj|⟨rfl,rfl⟩
  ·exact h.apart i j e f hi hj hij
  ·have hm:=List.mem_of_getElem? hi
   obtain⟨r,hr⟩:=h.ent e hm
   have:=hr.born
   refine⟨hno e hm,by simp only[];omega,?_⟩
   cases hb:e.val.ownBlock with
   |none=>exact .inl rfl
   |some k=>exact .inr (by simp[Value.ownBlock])
  ·have hm:=List.mem_of_getElem? hj
   obtain⟨r,hr⟩:=h.ent f hm
   have:=hr.born
   exact⟨(hno f hm).symm,by simp only[];omega,.inl rfl⟩
  ·exact absurd rfl hij
 ·obtain⟨e,he,hk⟩:=h.full r hr
  exact⟨e,List.mem_append_left _ he,hk⟩
theorem gD.step (h:gD base d m n X w) (hn:n+4≤d.length):∃v born w1,(Instr.mapEntry 156 (.map (some m)) (K4 ((d.drop n).take 4))).run Tryz.prog w=.ok (.tuple #[v,I (born:Nat)]) w1∧w.grownBy w1 (some m)∧eQ base (i7 d ((d.drop n).take 4) n) v w1∧(∀k,v.ownBlock=some k→X k)∧v.ownBlock≠some m∧
 ∀v' w2,gJ w1 w2 v v'→eQ base (i7 d ((d.drop n).take 4) n++[(n:Int)]) v' w2→∃w3,(Instr.entryStore 156 (.map (some m)) (I (born:Nat)) v').run Tryz.prog w2=.ok () w3∧w2.grownBy w3 (some m)∧gD base d m (n+1) (fun k=>X k∨v'.ownBlock=some k) w3:=by
 obtain⟨es,clock,h⟩:=h
 have hq:((d.drop n).take 4).length=4:=by rw[List.length_take,List.length_drop];omega
 obtain⟨l,hl⟩:=Af hq
 have fin:∀(es:List MapEntry) (clock:Nat) (w1:World) (j:Nat) (e:MapEntry),gY base d m n X w1 es clock→es[j]? =some e→e.key=K4 ((d.drop n).take 4)→∀v' w2,gJ w1 w2 e.val v'→eQ base (i7 d ((d.drop n).take 4) n++[(n:Int)]) v' w2→
  ∃w3,(Instr.entryStore 156 (.map (some m)) (I (e.born:Nat)) v').run Tryz.prog w2=.ok () w3∧w2.grownBy w3 (some m)∧gD base d m (n+1) (fun k=>X k∨v'.ownBlock=some k) w3:=by
  intro es clock w1 j e h1 hj hk v' w2 hG hv
  have hm2:w2.heap[m]? =some (.map es.toArray clock):=(hG.grown.block m h1.lt (fun e=>h1.ne (List.mem_of_getElem? hj) e.symm)).trans h1.at_
  obtain⟨w3,r3,g3,h3⟩:=vv (P:=Tryz.prog) (t:=156) (v:=v') hm2 hj (fun i f hi hb=>Classical.byContradiction fun hij=>(h1.apart i j f e hi hj hij).2.1 hb)
  exact⟨w3,r3,g3,_,_,h1.put hj hk rfl hG.grown hG.own hv g3 h3⟩
 obtain⟨w1,g1,⟨j,e,hj,hk,hr,h1⟩|⟨hno,hr,h1⟩⟩:=zn (P:=Tryz.prog) E1 Je uJ h.at_ h.keys hl
 ·have hes:gY base d m n X w1 es clock:=⟨h1,fun e he=>by
   obtain⟨r,hr⟩:=h.ent e he
   exact⟨r,hr.len,hr.key,hr.row.kept g1 (.inr (h.ne he)),hr.born,hr.own⟩,h.apart,h.full⟩
  obtain⟨r,hr'⟩:=hes.ent e (List.mem_of_getElem? hj)
  have e1:r=(d.drop n).take 4:=wx (hr'.key.symm.trans hk)
  subst e1
  exact⟨e.val,e.born,w1,hr,g1,hr'.row,hr'.own,hes.ne (List.mem_of_getElem? hj),fin es clock w1 j e hes hj hk⟩
 ·have hes:=h.add hq hno g1 h1
  have hj:(es++[({key:=K4 ((d.drop n).take 4),val:=.slice none 0 0,born:=clock}:MapEntry)])[es.length]? =some {key:=K4 ((d.drop n).take 4),val:=.slice none 0 0,born:=clock}:=by simp
  obtain⟨r,hr'⟩:=hes.ent _ (List.mem_of_getElem? hj)
  have e1:r=(d.drop n).take 4:=wx (hr'.key.symm.trans rfl)
  subst e1
  exact⟨.slice none 0 0,clock,w1,hr,g1,hr'.row,hr'.own,by simp[Value.ownBlock],fin _ _ w1 es.length _ hes hj rfl⟩
end
end Go.Rl
namespace Go.Rl
open Go.RowKit Go.Proofs
theorem CX:az Tryz.prog 120:=⟨_,Tryz.func120,by kernel_rfl,rfl⟩
theorem te:az Tryz.prog 60:=⟨_,Tryz.func60,by kernel_rfl,rfl⟩
theorem Ag:az Tryz.prog 23:=⟨_,Tryz.func23,by kernel_rfl,rfl⟩
theorem CY {w:World} {d:List UInt8} {v:Value} {i k:Nat} (hv:cm d v w) (hi:i≤d.length) (hk:1≤k) (hki:k≤i) (hl:d.length≤1099511627776):
 Calls Tryz.prog 120 #[v,I (i:Int),I (k:Int)] w (bF fun r w'=>aM w w'∧r=I ((ml d i k:Nat):Int)):=by
 refine enter (vs:=[v,I (i:Int),I (k:Int)]) Tryz.func120 Jg Jg Jg ?_
 refine af (aa (ab Jg Jg (ag (ac (af (aa (ab Jg Jg (ag (ac (af (ax ?_)))))))))))
 refine bV (α:=Nat) (fun x=>[(0,v),(1,I (i:Int)),(2,I (k:Int)),(7,I (x:Int))]) (fun x w'=>aM w w'∧i+x≤d.length∧ml d i k=x+jY (d.drop (i+x)) (d.drop (i-k+x))) (fun x=>d.length-x) (0) ⟨rfl,rfl,rfl,rfl,trivial⟩ ⟨aM.refl _,by omega,by simp[ml]⟩ ?_
 rintro j w2 ⟨e2,hj,hm⟩
 refine af (af ?_)
 by_cases h13:((i+j:Nat):Int)<((d.length:Nat):Int)
 ·refine bA 22 [0,1,2,7,14,29] (by kernel_rfl) (by kernel_rfl) ?_
  refine ap Jg Jg (ap Jg Jg (aR (r:=I ((i+j:Nat):Int)) Jg Jg Jg (fun w _=>by have e:((i+j:Nat):Int)=(i:Int)+(j:Int):=(by omega);rw[e];exact aK (by omega) (by omega)) ?_))
  refine ap Jg Jg (lI (vs:=[v]) Jg Jg (fun w hw=>bz ((hv.ext e2).ext hw)) (aR Jg Jg Jg (fun w _=>cf h13 aX) (ap Jg Jg (bg Jg Jg ?_))))
  refine ap Jg Jg (bg Jg Jg (ap Jg Jg (bg Jg Jg (ap Jg Jg (bg Jg Jg (aR (r:=I ((i+j:Nat):Int)) Jg Jg Jg (fun w _=>by have e:((i+j:Nat):Int)=(i:Int)+(j:Int):=(by omega);rw[e];exact aK (by omega) (by omega)) ?_))))))
  refine bg Jg Jg ?_
  obtain⟨a19,p19,q19⟩:=er (hv.ext e2) (i:=i+j) (by omega) .i64
  refine ay Jg Jg Jg (fun w _=>p19 w) (bg Jg Jg (aD Jg Jg (fun w hw=>ak IR Jg (hw.cell_some q19)) (bg Jg Jg ?_)))
  refine ap Jg Jg (bg Jg Jg (ap Jg Jg (bg Jg Jg (ap Jg Jg (bg Jg Jg (aR (r:=I ((i+j:Nat):Int)) Jg Jg Jg (fun w _=>by have e:((i+j:Nat):Int)=(i:Int)+(j:Int):=(by omega);rw[e];exact aK (by omega) (by omega)) ?_))))))
  refine bg Jg Jg (ap Jg Jg (bg Jg Jg (aR (r:=I ((i-k+j:Nat):Int)) Jg Jg Jg (fun w _=>by have e:((i-k+j:Nat):Int)=((i+j:Nat):Int)-(k:Int):=(by omega);rw[e];exact bb (by omega) (by omega)) ?_)))
  refine bg Jg Jg ?_
  obtain⟨a27,p27,q27⟩:=er (hv.ext e2) (i:=i-k+j) (by omega) .i64
  refine ay Jg Jg Jg (fun w _=>p27 w) (bg Jg Jg (aD Jg Jg (fun w hw=>ak IR Jg (hw.cell_some q27)) (bg Jg Jg ?_)))
  refine aR Jg Jg Jg (fun w _=>iC) (bG ?_)
  intro wg2 xg2
  rintro _ hq0
  obtain rfl:=Eq.symm hq0
  rintro _ rfl
  rintro _ rfl
  rintro _ rfl
  rintro _ rfl
  rintro _ rfl
  refine aw Jg Jg Jg (ag (ac ?_))
  refine bi Jg (fun h30=>?_) (fun h30=>?_)
  ·refine aq (ac (ax ?_))
   have hst:=rj (d:=d) (j:=j) hki (by omega)
   refine aa (ae Jg Jg (ai (r:=I ((j+1:Nat):Int)) Jg Jg Jg (by have e:((j+1:Nat):Int)=(j:Int)+1:=(by omega);rw[e];exact aK (by omega) (by omega)) ?_))
   refine ab Jg Jg (ag (aJ ?_))
   refine bM (j+1) ⟨rfl,rfl,rfl,rfl,trivial⟩ ⟨(e2.trans xg2),by omega,by rw[hm,hst,if_pos h30];omega⟩ (by omega)
  ·refine aW (aA (aA (aU (ac (af (aa (ae Jg Jg (ab Jg Jg (ag (ac (au (aF Jg Jg ?_))))))))))))
   exact⟨_,rfl,(e2.trans xg2),by
    have e:jY (d.drop (i+j)) (d.drop (i-k+j))=0:=by
     first
     |(rw[List.drop_of_length_le (show d.length≤i+j by omega)];rfl)
     |(rw[rj (d:=d) (j:=j) hki (by omega),if_neg h30])
    rw[hm,e];rfl⟩
 ·refine bA 22 [0,1,2,7,14,29] (by kernel_rfl) (by kernel_rfl) ?_
  refine ap Jg Jg (ap Jg Jg (aR (r:=I ((i+j:Nat):Int)) Jg Jg Jg (fun w _=>by have e:((i+j:Nat):Int)=(i:Int)+(j:Int):=(by omega);rw[e];exact aK (by omega) (by omega)) ?_))
  refine ap Jg Jg (lI (vs:=[v]) Jg Jg (fun w hw=>bz ((hv.ext e2).ext hw)) (aR Jg Jg Jg (fun w _=>bZ h13 aX) (ap Jg Jg (cB Jg Jg Jg ?_))))
  refine cB Jg Jg Jg (cB Jg Jg Jg (cB Jg Jg Jg (cB Jg Jg Jg (cB Jg Jg Jg (cB Jg Jg Jg (cB Jg Jg Jg (cB Jg Jg Jg (cB Jg Jg Jg (cB Jg Jg Jg ?_)))))))))
  refine cB Jg Jg Jg (cB Jg Jg Jg (cB Jg Jg Jg (cB Jg Jg Jg (bG ?_))))
  intro wg2 xg2
  rintro _ hq0
  obtain rfl:=Eq.symm hq0
  rintro _ rfl
  rintro _ rfl
  rintro _ rfl
  rintro _ rfl
  rintro _ rfl
  refine aC Jg Jg Jg (ag (ac (cq Jg (aW (aA (aA (aU (ac (af (aa (ae Jg Jg (ab Jg Jg (ag (ac (au (aF Jg Jg ?_))))))))))))))))
  exact⟨_,rfl,(e2.trans xg2),by
   have e:jY (d.drop (i+j)) (d.drop (i-k+j))=0:=by
    first
    |(rw[List.drop_of_length_le (show d.length≤i+j by omega)];rfl)
    |(rw[rj (d:=d) (j:=j) hki (by omega),if_neg h30])
   rw[hm,e];rfl⟩
theorem tf {w:World} {d:List UInt8} {v:Value} {i:Nat} (hv:cm d v w) (hi:i≤d.length) (hl:d.length≤1099511627776):
 Calls Tryz.prog 60 #[v,I (i:Int)] w (bF fun r w'=>aM w w'∧r=.tuple #[I (((cV d i).1:Nat):Int),I (((cV d i).2:Nat):Int)]):=by
 refine enter (vs:=[v,I (i:Int)]) Tryz.func60 Jg Jg Jg ?_
 refine af (aa (ab Jg Jg (ab Jg Jg (ag (ac (af (aa (ab Jg Jg (ab Jg Jg (ag (ac (af (af (aa (ab Jg Jg (ag ?_))))))))))))))))
 refine ac (ax ?_)
 refine fN (fun(j:Nat) (bn:Nat) (bk:Nat)=>[(0,v),(1,I (i:Int)),(6,I (bn:Int)),(7,I (bk:Int)),(8,I ((j+1:Nat):Int))]) (fun(j:Nat) (bn:Nat) (bk:Nat) w'=>aM w w'∧j≤min i 4096∧qQ d i j=(bn,bk)) (fun(j:Nat) (bn:Nat) (bk:Nat)=>min i 4096-j) (0) (0) (0) ⟨rfl,rfl,rfl,rfl,rfl,trivial⟩ ⟨aM.refl _,by omega,rfl⟩ ?_
 rintro j bn bk w3 ⟨e3,hj,hb⟩
 refine af (af (aa (ae Jg Jg (ae Jg Jg (ai Jg Jg Jg (vd) (ae Jg Jg ?_))))))
 refine cJ (fun h13=>?_) (fun h13=>?_)
 ·refine al Jg (ae Jg Jg (al Jg (ai Jg Jg Jg (vd) (aw Jg Jg Jg (ag (ac ?_))))))
  refine bi Jg (fun h16=>?_) (fun h16=>?_)
  ·refine aq (ac (af (ax (af (aa (ae Jg Jg (ae Jg Jg (ae Jg Jg (an CX Jg Jg (CY (hv.ext e3) hi (by omega) (by omega) hl) ?_)))))))))
   rintro v22 w22 ⟨x22,rfl⟩
   refine ab Jg Jg (ag (ac (af (aa (ae Jg Jg (ai Jg Jg Jg (ir) (ae Jg Jg ?_)))))))
   refine cJ (fun h25=>?_) (fun h25=>?_)
   ·refine al Jg (ae Jg Jg (al Jg (ae Jg Jg (al Jg (ai Jg Jg Jg (ce) (aw Jg Jg Jg (ag (ac ?_))))))))
    refine bi Jg (fun h29=>?_) (fun h29=>?_)
    ·refine aa (ae Jg Jg (ae Jg Jg (ab Jg Jg (ab Jg Jg (ag (aJ (ac (aa (ae Jg Jg (ai (r:=I ((j+1+1:Nat):Int)) Jg Jg Jg (by have e:((j+1+1:Nat):Int)=((j+1:Nat):Int)+1:=(by omega);rw[e];exact aK (by omega) (by omega)) ?_))))))))))
     refine ab Jg Jg (ag ?_)
     refine dv (j+1) (ml d i (j+1)) (j+1) ⟨rfl,rfl,rfl,rfl,rfl,trivial⟩ ⟨(e3.trans x22),by omega,by rw[qQ,hb,if_pos ⟨by omega,by show bn<ml d i (j+1);omega⟩]⟩ (by omega)
    ·refine aq (aJ (ac (aa (ae Jg Jg (ai (r:=I ((j+1+1:Nat):Int)) Jg Jg Jg (by have e:((j+1+1:Nat):Int)=((j+1:Nat):Int)+1:=(by omega);rw[e];exact aK (by omega) (by omega)) ?_)))))
     refine ab Jg Jg (ag ?_)
     refine dv (j+1) (bn) (bk) ⟨rfl,rfl,rfl,rfl,rfl,trivial⟩ ⟨(e3.trans x22),by omega,by
      rw[qQ,hb,if_neg]
      intro h
      have h2:bn<ml d i (j+1):=h.2
      exact h29 (by omega)⟩ (by omega)
   ·refine ao Jg Jg Jg (ao Jg Jg Jg (ao Jg Jg Jg (aC Jg Jg Jg (ag (ac (cq Jg (aq (aJ (ac (aa (ae Jg Jg (ai (r:=I ((j+1+1:Nat):Int)) Jg Jg Jg (by have e:((j+1+1:Nat):Int)=((j+1:Nat):Int)+1:=(by omega);rw[e];exact aK (by omega) (by omega)) ?_))))))))))))
    refine ab Jg Jg (ag ?_)
    refine dv (j+1) (bn) (bk) ⟨rfl,rfl,rfl,rfl,rfl,trivial⟩ ⟨(e3.trans x22),by omega,by
     rw[qQ,hb,if_neg]
     intro h
     exact h25 (by omega)⟩ (by omega)
  ·refine aW (aA (aA (aU (ac (af (aa (ae Jg Jg (ae Jg Jg (ab Jg Jg (ab Jg Jg (ag (ac (au (aH Jg Jg Jg ?_))))))))))))))
   exact⟨_,rfl,e3,by
    unfold cV
    rw[show min i 4096=j by omega,hb]⟩
 ·refine ao Jg Jg Jg (ao Jg Jg Jg (aC Jg Jg Jg (ag (ac (cq Jg (aW (aA (aA (aU (ac (af (aa (ae Jg Jg (ae Jg Jg (ab Jg Jg ?_)))))))))))))))
  refine ab Jg Jg (ag (ac (au (aH Jg Jg Jg ?_))))
  exact⟨_,rfl,e3,by
   unfold cV
   rw[show min i 4096=j by omega,hb]⟩
end Go.Rl
namespace Go.Rl
open Go.RowKit Go.Proofs
theorem Fa {n:Nat} (h:n<18446744073709551616):(UInt64.ofNat n).toNat=n:=by rw[UInt64.toNat_ofNat'];omega
theorem Ah {w:World} {d:List UInt8} {v:Value} (hv:cm d v w) (hl:d.length≤1099511627776):
 Calls Tryz.prog 23 #[v] w (bF fun r w'=>aM w w'∧cm (bW d) r w'):=by
 refine enter (vs:=[v]) Tryz.func23 Jg Jg Jg ?_
 have hpl:=nZ (d:=d) (by omega)
 refine af (aa (ab Jg Jg (ag (ac (af (aa (ae Jg Jg (aP Jg Jg (bz hv) (aQ Jg Jg (cI IM IL) ?_)))))))))
 refine an dG Jg Jg (dH (cm.nil _) (by simp)) ?_
 rintro v11 w11 ⟨x11,o11⟩
 refine ab Jg Jg (ag (ac (af (af (aa (ab Jg Jg (ag (ac (ax ?_)))))))))
 refine fN (fun(s:Nat) (O:List UInt8) (vo:Value)=>[(0,v),(3,vo),(4,I (s:Int))]) (fun(s:Nat) (O:List UInt8) (vo:Value) w'=>aM w w'∧s≤d.length∧cm O vo w'∧O++pk d s 0=bW d) (fun(s:Nat) (O:List UInt8) (vo:Value)=>d.length-s) (0) (uv d.length) (v11) ⟨rfl,rfl,rfl,trivial⟩ ⟨x11,by omega,by have:=o11.bts;rw[List.nil_append,Fa (by omega)] at this;exact this,rfl⟩ ?_
 rintro s O vo w3 ⟨e3,hs,hO,hp⟩
 refine af (af (aa (ae Jg Jg (ae Jg Jg (aP Jg Jg (bz (hv.ext e3)) (ai Jg Jg Jg (aX) (ag (ac ?_))))))))
 refine bi Jg (fun h15=>?_) (fun h15=>?_)
 ·refine aq (ac (ax (af (aa (ae Jg Jg (ab Jg Jg (ag (ac (af (aa (ae Jg Jg (ae Jg Jg (an te Jg Jg (tf (hv.ext e3) hs (by omega)) ?_)))))))))))))
  rintro v20 w20 ⟨x20,rfl⟩
  refine ae Jg Jg (aj Jg Jg (aS) (aj Jg Jg (aT) (ab Jg Jg (ab Jg Jg (ag (ac (af (ax ?_))))))))
  refine fN (fun(i:Nat) (n:Nat) (k:Nat)=>[(0,v),(3,vo),(4,I (i:Int)),(5,I (s:Int)),(6,I (n:Int)),(7,I (k:Int))]) (fun(i:Nat) (n:Nat) (k:Nat) w'=>aM w3 w'∧s≤i∧i≤d.length∧O++pk d i (i-s)=bW d∧cV d i=(n,k)) (fun(i:Nat) (n:Nat) (k:Nat)=>d.length-i) (s) ((cV d s).1) ((cV d s).2) ⟨rfl,rfl,rfl,rfl,rfl,rfl,trivial⟩ ⟨x20,by omega,hs,by rw[Nat.sub_self];exact hp,rfl⟩ ?_
  rintro i n k w6 ⟨e6,hsi,hi,hq,hb⟩
  refine af (af (aa (ae Jg Jg (ai Jg Jg Jg (aV) (ae Jg Jg ?_)))))
  refine cJ (fun h25=>?_) (fun h25=>?_)
  ·refine al Jg (ae Jg Jg (al Jg (ae Jg Jg (al Jg (aP Jg Jg (bz (hv.ext (e3.trans e6))) (al Jg (ai Jg Jg Jg (aX) (aw Jg Jg Jg ?_))))))))
   refine ag (ac ?_)
   refine bi Jg (fun h30=>?_) (fun h30=>?_)
   ·refine aq (ac (ax (af (aa (ae Jg Jg (ai (r:=I ((i+1:Nat):Int)) Jg Jg Jg (by have e:((i+1:Nat):Int)=(i:Int)+1:=(by omega);rw[e];exact aK (by omega) (by omega)) ?_))))))
    refine ab Jg Jg (ag (ac (aa (ae Jg Jg (ae Jg Jg (an te Jg Jg (tf (hv.ext (e3.trans e6)) (by omega) (by omega)) ?_))))))
    rintro v36 w36 ⟨x36,rfl⟩
    refine ae Jg Jg (aj Jg Jg (aS) (aj Jg Jg (aT) (ab Jg Jg (ab Jg Jg (ag (aJ ?_))))))
    refine dv (i+1) ((cV d (i+1)).1) ((cV d (i+1)).2) ⟨rfl,rfl,rfl,rfl,rfl,rfl,trivial⟩ ⟨(e6.trans x36),by omega,by omega,by rw[pS (by omega) (by rw[hb];show n=0;omega)] at hq;rw[show i+1-s=i-s+1 by omega];exact hq,rfl⟩ (by omega)
   ·refine aW (aA (aA (aU (ac (af ?_)))))
    have hpO:O.length≤(bW d).length:=by rw[←hq,List.length_append];omega
    have hus:(UInt64.ofNat (i-s)).toNat=i-s:=Fa (by omega)
    have hul:=fc (n:=i-s) (by omega)
    obtain⟨L,hL⟩:∃L,L=(d.drop s).take (i-s):=⟨_,rfl⟩
    have hLl:L.length=i-s:=by rw[hL,List.length_take,List.length_drop];omega
    refine bA 10 [0,4,6,7,44,48] (by kernel_rfl) (by kernel_rfl) ?_
    refine ap Jg Jg (ap Jg Jg (ap Jg Jg (aR (r:=I ((i-s:Nat):Int)) Jg Jg Jg (fun w _=>by have e:((i-s:Nat):Int)=(i:Int)-(s:Int):=(by omega);rw[e];exact bb (by omega) (by omega)) ?_)))
    refine dh rfl rfl (fun w hw=>cI IM IL) (cl (S:=cD w6.heap.size (O++uv (i-s))) dG (cD.stable _ _) rfl (fun w hw=>by rintro _ rfl _ rfl;exact bF.mono (dH ((hO.ext e6).ext hw) (by omega)) fun v w' h=>⟨h.1,by have:=h.2.low hw.size;rw[hus] at this;exact this⟩) ?_)
    refine ap Jg Jg (ap Jg Jg (ap Jg Jg ?_))
    obtain⟨v48,p48,b48⟩:=p6 (hv.ext (e3.trans e6)) (lo:=s) (hi:=i) (by omega) (by omega) .i64 .i64
    refine gI Jg Jg Jg Jg (fun w _=>p48 w) (bG ?_)
    intro wg9 xg9
    rintro _ hq0
    obtain rfl:=Eq.symm hq0
    rintro _ rfl
    rintro _ rfl
    rintro _ rfl
    intro vg44 b44
    rintro _ hq48
    obtain rfl:=Eq.symm hq48
    have b48:cm L v48 wg9:=by rw[List.drop_take] at b48;rw[hL];exact b48.ext xg9
    obtain⟨v49,w49,hr49,o49,g49⟩:=di (ty:=28) b44 b48 (by simp only[List.length_append];omega) (xg9).size
    have x49:=aM.of_grew (xg9) g49 b44.ge
    refine be Jg Jg hr49 (ab Jg Jg (ag (ac (af (aa (ae Jg Jg (ae Jg Jg (aP Jg Jg (bz (hv.ext ((e3.trans e6).trans x49))) (ai Jg Jg Jg (aX) ?_)))))))))
    refine ag (ac ?_)
    refine bi Jg (fun h53=>?_) (fun h53=>?_)
    ·have hn0:n≠0:=by omega
     have hbo:=lq (d:=d) (i:=i) (by rw[hb];exact hn0)
     rw[hb] at hbo
     obtain⟨h4,h1,h2,h3,_,h5⟩:=hbo
     have h4:4≤n:=h4
     have h1:1≤k:=h1
     have h3:k≤4096:=h3
     have h5:i+n≤d.length:=h5
     have hun:(UInt64.ofNat (n-4)).toNat=n-4:=Fa (by omega)
     have huk:(UInt64.ofNat (k-1)).toNat=k-1:=Fa (by omega)
     have hu4:=fc (n:=n-4) (by omega)
     have hq2:O++uv (i-s)++L++uv (n-4)++uv (k-1)++pk d (i+n) 0=bW d:=by
      rw[kv (by omega) (by rw[hb];exact hn0),hb,show i-(i-s)=s by omega,←hL] at hq
      rw[←hq];simp only[List.append_assoc]
     refine af (aa (ae Jg Jg (ae Jg Jg (ai (r:=I ((n-4:Nat):Int)) Jg Jg Jg (by have e:((n-4:Nat):Int)=(n:Int)-4:=(by omega);rw[e];exact bb (by omega) (by omega)) ?_))))
     refine aQ Jg Jg (cI Tryz.underlying3 Tryz.underlying41) (an dG Jg Jg (dH o49.bts (by simp only[List.length_append];omega)) ?_)
     rintro v58 w58 ⟨x58,o58⟩
     rw[hun] at o58
     refine ae Jg Jg (ai (r:=I ((k-1:Nat):Int)) Jg Jg Jg (by have e:((k-1:Nat):Int)=(k:Int)-1:=(by omega);rw[e];exact bb (by omega) (by omega)) ?_)
     refine aQ Jg Jg (cI Tryz.underlying3 Tryz.underlying41) (an dG Jg Jg (dH o58.bts (by simp only[List.length_append];omega)) ?_)
     rintro v62 w62 ⟨x62,o62⟩
     rw[huk] at o62
     refine ab Jg Jg (ag (ac (aa (ae Jg Jg (ae Jg Jg (ai (r:=I ((i+n:Nat):Int)) Jg Jg Jg (by have e:((i+n:Nat):Int)=(i:Int)+(n:Int):=(by omega);rw[e];exact aK (by omega) (by omega)) ?_))))))
     refine ab Jg Jg (ag (aJ ?_))
     refine dv (i+n) (O++uv (i-s)++L++uv (n-4)++uv (k-1)) (v62) ⟨rfl,rfl,rfl,trivial⟩ ⟨((((e3.trans e6).trans x49).trans x58).trans x62),h5,o62.bts,hq2⟩ (by omega)
    ·have hie:i=d.length:=by omega
     have hq2:O++uv (i-s)++L++pk d i 0=bW d:=by
      rw[jW (by omega),if_pos (by omega),show d.length-(i-s)=s by omega] at hq
      rw[jW (by omega),if_neg (by omega),List.append_nil,←hq,hL,List.take_of_length_le (by rw[List.length_drop];omega),List.append_assoc]
     refine aq (aJ ?_)
     refine dv (i) (O++uv (i-s)++L) (v49) ⟨rfl,rfl,rfl,trivial⟩ ⟨((e3.trans e6).trans x49),by omega,(o49).bts,hq2⟩ (by omega)
  ·refine ao Jg Jg Jg (ao Jg Jg Jg (ao Jg Jg Jg (ao Jg Jg Jg (aC Jg Jg Jg (ag (ac (cq Jg (aW (aA (aA (aU (ac (af ?_)))))))))))))
   have hpO:O.length≤(bW d).length:=by rw[←hq,List.length_append];omega
   have hus:(UInt64.ofNat (i-s)).toNat=i-s:=Fa (by omega)
   have hul:=fc (n:=i-s) (by omega)
   obtain⟨L,hL⟩:∃L,L=(d.drop s).take (i-s):=⟨_,rfl⟩
   have hLl:L.length=i-s:=by rw[hL,List.length_take,List.length_drop];omega
   refine bA 10 [0,4,6,7,44,48] (by kernel_rfl) (by kernel_rfl) ?_
   refine ap Jg Jg (ap Jg Jg (ap Jg Jg (aR (r:=I ((i-s:Nat):Int)) Jg Jg Jg (fun w _=>by have e:((i-s:Nat):Int)=(i:Int)-(s:Int):=(by omega);rw[e];exact bb (by omega) (by omega)) ?_)))
   refine dh rfl rfl (fun w hw=>cI IM IL) (cl (S:=cD w6.heap.size (O++uv (i-s))) dG (cD.stable _ _) rfl (fun w hw=>by rintro _ rfl _ rfl;exact bF.mono (dH ((hO.ext e6).ext hw) (by omega)) fun v w' h=>⟨h.1,by have:=h.2.low hw.size;rw[hus] at this;exact this⟩) ?_)
   refine ap Jg Jg (ap Jg Jg (ap Jg Jg ?_))
   obtain⟨v48,p48,b48⟩:=p6 (hv.ext (e3.trans e6)) (lo:=s) (hi:=i) (by omega) (by omega) .i64 .i64
   refine gI Jg Jg Jg Jg (fun w _=>p48 w) (bG ?_)
   intro wg9 xg9
   rintro _ hq0
   obtain rfl:=Eq.symm hq0
   rintro _ rfl
   rintro _ rfl
   rintro _ rfl
   intro vg44 b44
   rintro _ hq48
   obtain rfl:=Eq.symm hq48
   have b48:cm L v48 wg9:=by rw[List.drop_take] at b48;rw[hL];exact b48.ext xg9
   obtain⟨v49,w49,hr49,o49,g49⟩:=di (ty:=28) b44 b48 (by simp only[List.length_append];omega) (xg9).size
   have x49:=aM.of_grew (xg9) g49 b44.ge
   refine be Jg Jg hr49 (ab Jg Jg (ag (ac (af (aa (ae Jg Jg (ae Jg Jg (aP Jg Jg (bz (hv.ext ((e3.trans e6).trans x49))) (ai Jg Jg Jg (aX) ?_)))))))))
   refine ag (ac ?_)
   refine bi Jg (fun h53=>?_) (fun h53=>?_)
   ·have hn0:n≠0:=by omega
    have hbo:=lq (d:=d) (i:=i) (by rw[hb];exact hn0)
    rw[hb] at hbo
    obtain⟨h4,h1,h2,h3,_,h5⟩:=hbo
    have h4:4≤n:=h4
    have h1:1≤k:=h1
    have h3:k≤4096:=h3
    have h5:i+n≤d.length:=h5
    have hun:(UInt64.ofNat (n-4)).toNat=n-4:=Fa (by omega)
    have huk:(UInt64.ofNat (k-1)).toNat=k-1:=Fa (by omega)
    have hu4:=fc (n:=n-4) (by omega)
    have hq2:O++uv (i-s)++L++uv (n-4)++uv (k-1)++pk d (i+n) 0=bW d:=by
     rw[kv (by omega) (by rw[hb];exact hn0),hb,show i-(i-s)=s by omega,←hL] at hq
     rw[←hq];simp only[List.append_assoc]
    refine af (aa (ae Jg Jg (ae Jg Jg (ai (r:=I ((n-4:Nat):Int)) Jg Jg Jg (by have e:((n-4:Nat):Int)=(n:Int)-4:=(by omega);rw[e];exact bb (by omega) (by omega)) ?_))))
    refine aQ Jg Jg (cI Tryz.underlying3 Tryz.underlying41) (an dG Jg Jg (dH o49.bts (by simp only[List.length_append];omega)) ?_)
    rintro v58 w58 ⟨x58,o58⟩
    rw[hun] at o58
    refine ae Jg Jg (ai (r:=I ((k-1:Nat):Int)) Jg Jg Jg (by have e:((k-1:Nat):Int)=(k:Int)-1:=(by omega);rw[e];exact bb (by omega) (by omega)) ?_)
    refine aQ Jg Jg (cI Tryz.underlying3 Tryz.underlying41) (an dG Jg Jg (dH o58.bts (by simp only[List.length_append];omega)) ?_)
    rintro v62 w62 ⟨x62,o62⟩
    rw[huk] at o62
    refine ab Jg Jg (ag (ac (aa (ae Jg Jg (ae Jg Jg (ai (r:=I ((i+n:Nat):Int)) Jg Jg Jg (by have e:((i+n:Nat):Int)=(i:Int)+(n:Int):=(by omega);rw[e];exact aK (by omega) (by omega)) ?_))))))
    refine ab Jg Jg (ag (aJ ?_))
    refine dv (i+n) (O++uv (i-s)++L++uv (n-4)++uv (k-1)) (v62) ⟨rfl,rfl,rfl,trivial⟩ ⟨((((e3.trans e6).trans x49).trans x58).trans x62),h5,o62.bts,hq2⟩ (by omega)
   ·have hie:i=d.length:=by omega
    have hq2:O++uv (i-s)++L++pk d i 0=bW d:=by
     rw[jW (by omega),if_pos (by omega),show d.length-(i-s)=s by omega] at hq
     rw[jW (by omega),if_neg (by omega),List.append_nil,←hq,hL,List.take_of_length_le (by rw[List.length_drop];omega),List.append_assoc]
    refine aq (aJ ?_)
    refine dv (i) (O++uv (i-s)++L) (v49) ⟨rfl,rfl,rfl,trivial⟩ ⟨((e3.trans e6).trans x49),by omega,(o49).bts,hq2⟩ (by omega)
 ·refine aW (aA (aA (aU (ac (af (aa (ae Jg Jg (ab Jg Jg (ag (ac (au (aF Jg Jg ?_))))))))))))
  exact⟨_,rfl,e3,by
   rw[jW (by omega),if_neg (by omega),List.append_nil] at hp
   rw[←hp];exact hO⟩
end Go.Rl
namespace Go.Rl
open Go.RowKit Go.Proofs
theorem Fb:az Tryz.prog 77:=⟨_,Tryz.func77,by kernel_rfl,rfl⟩
theorem Fc {w:World} {l m:List UInt8} {v u:Value} (hv:cm l v w) (hu:cm m u w):
 Calls Tryz.prog 77 #[v,u] w (bF fun r w'=>aM w w'∧r=B (decide (l=m))):=by
 refine enter (vs:=[v,u]) Tryz.func77 Jg Jg Jg ?_
 have hll:=hv.len
 refine af (aa (ab Jg Jg (ag (ac (af (af (aa (ae Jg Jg (aP Jg Jg (bz hv) (ae Jg Jg (aP Jg Jg (bz hu) (ai Jg Jg Jg (bS) ?_))))))))))))
 refine ag (ac ?_)
 refine bi Jg (fun h10=>?_) (fun h10=>?_)
 ·have hne:l≠m:=fun h=>h10 (by rw[h])
  refine af (aa (ab Jg Jg (ag (ac (au (av (aF Jg Jg ?_)))))))
  exact⟨_,rfl,aM.refl _,congrArg B (decide_eq_false hne).symm⟩
 ·have hlen:l.length=m.length:=by omega
  refine aq (ac (af (af (aa (ae Jg Jg (aP Jg Jg (bz hv) (ae Jg Jg (ag (ac (ax ?_))))))))))
  refine bV (α:=Nat) (fun x=>[(0,v),(1,u),(12,I (l.length:Int)),(13,I (x:Int))]) (fun x w'=>aM w w'∧x≤l.length∧l.take x=m.take x) (fun x=>l.length-x) (0) ⟨rfl,rfl,rfl,rfl,trivial⟩ ⟨aM.refl _,by omega,rfl⟩ ?_
  rintro i w4 ⟨e4,hi,ht⟩
  refine af (aa (ai Jg Jg Jg (aX) (ag (ac (af ?_)))))
  refine bi Jg (fun h14=>?_) (fun h14=>?_)
  ·refine aq (ac (af (ax (af (aa (ae Jg Jg (ab Jg Jg (ag (ac (af (bA 8 [0,1,12,13,19,23] (by kernel_rfl) (by kernel_rfl) ?_)))))))))))
   refine ap Jg Jg (ap Jg Jg ?_)
   obtain⟨a18,p18,q18⟩:=er (hv.ext e4) (i:=i) (by omega) .i64
   refine ay Jg Jg Jg (fun w _=>p18 w) (aD Jg Jg (fun w hw=>ak IR Jg (hw.cell_some q18)) (ap Jg Jg (ap Jg Jg ?_)))
   obtain⟨a22,p22,q22⟩:=er (hu.ext e4) (i:=i) (by omega) .i64
   refine ay Jg Jg Jg (fun w _=>p22 w) (aD Jg Jg (fun w hw=>ak IR Jg (hw.cell_some q22)) (bG ?_))
   intro wg6 xg6
   rintro _ hq0
   obtain rfl:=Eq.symm hq0
   rintro _ hq1
   obtain rfl:=Eq.symm hq1
   rintro _ rfl
   rintro _ rfl
   rintro _ rfl
   rintro _ rfl
   refine ai Jg Jg Jg (DA) (ag (ac ?_))
   refine bi Jg (fun h24=>?_) (fun h24=>?_)
   ·have hne:l≠m:=fun h=>h24 (by subst h;rfl)
    refine af (aa (ab Jg Jg (ag (ac (au (bc (av (av (bc (av (aF Jg Jg ?_)))))))))))
    exact⟨_,rfl,(e4.trans xg6),congrArg B (decide_eq_false hne).symm⟩
   ·have he:l[i]'(by omega)=m[i]'(by omega):=Classical.byContradiction fun h=>h24 h
    refine aq (aJ (ac (aa (ai (r:=I ((i+1:Nat):Int)) Jg Jg Jg (by have e:((i+1:Nat):Int)=(i:Int)+1:=(by omega);rw[e];exact aK (by omega) (by omega)) ?_))))
    refine ae Jg Jg (ag ?_)
    refine bM (i+1) ⟨rfl,rfl,rfl,rfl,trivial⟩ ⟨(e4.trans xg6),by omega,by rw[List.take_succ_eq_append_getElem (by omega),List.take_succ_eq_append_getElem (by omega),ht,he]⟩ (by omega)
  ·refine aW (aA (aA (aU (ac (af (aa (ab Jg Jg (ag (ac (au (aF Jg Jg ?_)))))))))))
   exact⟨_,rfl,e4,by
    rw[List.take_of_length_le (by omega),List.take_of_length_le (by omega)] at ht
    rw[decide_eq_true ht];rfl⟩
end Go.Rl
namespace Go.Rl
open Go.RowKit Go.Proofs
section
variable {w:World} {g:Nat} {st:Option (List UInt8)}
theorem HG (hr:aZ g st w):Calls Tryz.prog 129 #[.pointer (some ⟨g,0,none⟩)] w (bF fun r w'=>w=w'∧r=I ((st.getD []).length:Nat)):=(CB hr).mono fun _ _ ⟨v,h,h1,h2⟩=>⟨v,h,h2.symm,h1⟩
end
end Go.Rl
namespace Go.Rl
open Go.RowKit Go.Proofs
theorem gE:az Tryz.prog 106:=⟨_,Tryz.func106,by kernel_rfl,rfl⟩
theorem wy {l t':List UInt8} {n:Nat} (h:cZ (l.take 10)=some (n,t')):cZ l=some (n,l.drop (uv n).length)∧(uv n).length+t'.length=min l.length 10:=by
 obtain⟨h1,h2⟩:=eS h
 have hlen:(uv n).length+t'.length=min l.length 10:=by
  have:=congrArg List.length h1
  rw[List.length_take,List.length_append] at this
  omega
 have e:l=uv n++(t'++l.drop 10):=by
  rw[←List.append_assoc,←h1,List.take_append_drop]
 refine⟨?_,hlen⟩
 have hd:l.drop (uv n).length=t'++l.drop 10:=by
  conv=>lhs;rw[e]
  rw[List.drop_left' rfl]
 rw[hd]
 conv=>lhs;rw[e]
 exact ju h2 _
theorem wB {l:List UInt8} (h:cZ (l.take 10)=none):cZ l=none:=by
 cases hr:cZ l with
 |none=>rfl
 |some p=>
  obtain⟨n,t⟩:=p
  obtain⟨h1,h2⟩:=eS hr
  have hl:=fc (n:=n) h2
  have e:l.take 10=uv n++t.take (10-(uv n).length):=by
   rw[h1,List.take_append]
   congr 1
   exact List.take_of_length_le (by omega)
  rw[e,ju h2] at h
  cases h
theorem Bv {P:Program} {w:World} {ts:Array TypeId} {ty:TypeId} {n:Nat}:(Builtin.min_ ts ty #[I (n:Int),I 10]).run P w=.ok (I ((min n 10:Nat):Int)) w:=by
 have e:((min n 10:Nat):Int)=if (10:Int)<(n:Int) then 10 else(n:Int):=by split<;>omega
 rw[e];rfl
theorem HH {P:Program} {w:World} {t:TypeId} {x y:Operand} {a b c:Nat} (h:c+b=a) (ha:a≤1099511627776):(bin .sub t x y (I (a:Int)) (I (b:Int))).run P w=.ok (I (c:Int)) w:=by
 have e:(c:Int)=(a:Int)-(b:Int):=by omega
 rw[e]
 exact bb (by omega) (by omega)
def Fd (l:List UInt8) (r:Value) (w':World):Prop:=match cZ l with
 |some (n,t)=>∃v,r=.tuple #[bj (UInt64.ofNat n),v,B true]∧cm t v w'
 |none=>r=.tuple #[bj 0,.slice none 0 0,B false]
theorem uK {w w0:World} {l:List UInt8} {v:Value} (h0:cm l v w0) (hv:cm l v w) (hl:l.length≤1099511627776):
 Calls Tryz.prog 106 #[v] w (bF fun r w'=>aM w w'∧Fd l r w0):=by
 refine enter (vs:=[v]) Tryz.func106 Jg Jg Jg ?_
 refine af (aa (ab Jg Jg (ab Jg Jg (ab Jg Jg (ag (ac (af (aa (ae Jg Jg (ae Jg Jg (aP Jg Jg (bz hv) ?_)))))))))))
 refine H0 (vs:=[I (l.length:Int),I 10]) Jg Jg Bv ?_
 obtain⟨v12,p12,b12⟩:=gL hv (hi:=min l.length 10) (by omega) .i64
 refine cu Jg Jg Jg Jg Jg (p12 _) ?_
 have b12:cm (l.take 10) v12 w:=by
  have e:l.take (min l.length 10)=l.take 10:=by rw[Nat.min_comm,←List.take_take,List.take_length]
  rw[e] at b12;exact b12
 refine an xH Jg Jg ((xJ b12 (by rw[List.length_take];omega))) ?_
 rintro v13 w13 ⟨x13,g,lg,rfl,rr⟩
 refine ab Jg Jg (ag (ac (af ?_)))
 rcases hU:cZ (l.take 10) with _|⟨n,t⟩
 ·refine aa (ae Jg Jg (an gw Jg Jg ((GR (st:=some (l.take 10)) rr hU)) ?_))
  rintro v16 w16 ⟨g16,rfl,r1⟩
  have x16:=(x13).of_new g16 lg
  refine ae Jg Jg (aj Jg Jg (aS) (aj Jg Jg (aT) (ab Jg Jg (ab Jg Jg (ag (ac (af (af (aa (ae Jg Jg (ai Jg Jg Jg (cf (by decide) bS) ?_)))))))))))
  refine ag (ac (bB Jg (af (aa (ab Jg Jg (ab Jg Jg (ab Jg Jg (ag (ac (au (av (kD Jg Jg Jg Jg ?_))))))))))))
  exact⟨_,rfl,x16,by unfold Fd;rw[wB hU];rfl⟩
 ·obtain⟨hs,hlen⟩:=wy hU
  refine aa (ae Jg Jg (an gw Jg Jg ((GS (st:=some (l.take 10)) rr hU)) ?_))
  rintro v16 w16 ⟨g16,rfl,r1⟩
  have x16:=(x13).of_new g16 lg
  refine ae Jg Jg (aj Jg Jg (aS) (aj Jg Jg (aT) (ab Jg Jg (ab Jg Jg (ag (ac (af (af (aa (ae Jg Jg (ai Jg Jg Jg (bZ (by decide) bS) ?_)))))))))))
  refine ag (ac (cq Jg (aq (ac (af (bA 11 [2,3] (by kernel_rfl) (by kernel_rfl) ?_))))))
  refine ap Jg Jg (ap Jg Jg (ap Jg Jg (lI (vs:=[v]) Jg Jg (fun w hw=>bz ((hv.ext x16).ext hw)) (H2 (vs:=[I (l.length:Int),I 10]) Jg Jg (fun _ _=>Bv) ?_))))
  refine ap rfl rfl (cl (S:=Is (I ((t.length:Nat):Int))) CA (bu.is _) rfl (fun w hw=>by rintro _ rfl;exact bF.mono (HG (r1.ext hw)) fun v w' h=>⟨h.1▸aM.refl _,h.2⟩) ?_)
  refine aR Jg Jg Jg (fun w _=>HH hlen (by omega)) ?_
  obtain⟨v29,p29,b29⟩:=eZ h0 (lo:=(uv n).length) (by omega) .i64
  refine gI Jg Jg Jg Jg (fun w hw=>p29 _) (eg Jg Jg (eg Jg Jg (bG ?_)))
  intro wg5 xg5
  rintro _ rfl
  rintro _ rfl
  refine ab Jg Jg (ag (ac (au (kD Jg Jg Jg Jg ?_))))
  exact⟨_,rfl,(x16.trans xg5),by unfold Fd;rw[hs];exact⟨_,rfl,b29⟩⟩
end Go.Rl
namespace Go.Rl
open Go.RowKit Go.Proofs
theorem uL:az Tryz.prog 107:=⟨_,Tryz.func107,by kernel_rfl,rfl⟩
def ExpR (o:Option (List UInt8)) (r:Value) (w':World):Prop:=match o with
 |some out=>∃v,r=.tuple #[v,B true]∧cm out v w'
 |none=>∃v,r=.tuple #[v,B false]
section
variable {w w0:World} {l:List UInt8} {v:Value}
theorem mU (hv:cm l v w) (hl:l.length≤1099511627776) (h:cZ l=none):Calls Tryz.prog 106 #[v] w (bF fun r w'=>aM w w'∧r=.tuple #[bj 0,.slice none 0 0,B false]):=
 (uK hv hv hl).mono fun _ _ ⟨r,he,h1,h2⟩=>⟨r,he,h1,by unfold Fd at h2;rw[h] at h2;exact h2⟩
theorem mV {n:Nat} {t:List UInt8} (h0:cm l v w0) (hv:cm l v w) (hl:l.length≤1099511627776) (h:cZ l=some (n,t)):Calls Tryz.prog 106 #[v] w (bF fun r w'=>aM w w'∧∃u,r=.tuple #[bj (UInt64.ofNat n),u,B true]∧cm t u w0):=
 (uK h0 hv hl).mono fun _ _ ⟨r,he,h1,h2⟩=>⟨r,he,h1,by unfold Fd at h2;rw[h] at h2;exact h2⟩
end
theorem jA {n m:Nat} (hn:n<18446744073709551616) (hm:m<18446744073709551616):UInt64.ofNat n<UInt64.ofNat m↔n<m:=by
 rw[UInt64.lt_iff_toNat_lt,UInt64.toNat_ofNat',UInt64.toNat_ofNat']
 omega
theorem lL {n m:Nat} (hn:n<18446744073709551616) (hm:m<18446744073709551616):UInt64.ofNat n≥UInt64.ofNat m↔m≤n:=by
 show UInt64.ofNat m≤UInt64.ofNat n↔m≤n
 rw[UInt64.le_iff_toNat_le,UInt64.toNat_ofNat',UInt64.toNat_ofNat']
 omega
theorem Fe {n m:Nat} (hn:n<18446744073709551616) (h:m≤n):UInt64.ofNat n-UInt64.ofNat m=UInt64.ofNat (n-m):=by
 apply UInt64.toNat_inj.1
 rw[UInt64.toNat_sub_of_le _ _ (UInt64.le_iff_toNat_le.2 (by rw[UInt64.toNat_ofNat',UInt64.toNat_ofNat'];omega)),UInt64.toNat_ofNat',UInt64.toNat_ofNat',UInt64.toNat_ofNat']
 omega
theorem It {total f:Nat} {l O:List UInt8} (h:O.length<total) (hN:cZ l=none):qz total (f+1) l O=none:=by
 unfold qz;rw[if_pos h,hN];rfl
theorem nl {total f n:Nat} {l O t:List UInt8} (h:O.length<total) (hN:cZ l=some (n,t)):qz total (f+1) l O=
 if total-O.length<n∨t.length<n then none
 else if total-O.length=n then(if t.drop n=[] then some (O++t.take n) else none)
 else(cZ (t.drop n)).bind fun q=>
  if total-O.length-n<4∨total-O.length-n-4<q.1 then none
  else(cZ q.2).bind fun r=>
   if 4096≤r.1∨(O++t.take n).length≤r.1 then none
   else qz total f r.2 (zc (r.1+1) (q.1+4) (O++t.take n)):=by
 rw[qz,if_pos h,hN];rfl
theorem Iu {total f:Nat} {l O:List UInt8} (h:¬O.length<total):qz total (f+1) l O=if l=[] then some O else none:=by
 rw[qz,if_neg h]
theorem yI {k m j c:Nat} {X:List UInt8} (hj:j<m) (hX:X.length=c+j) (hk:k<c):zc (k+1) (m-j) X=zc (k+1) (m-(j+1)) (X++[X[c-1-k+j]'(by omega)]):=by
 obtain⟨s,hs⟩:∃s,m-j=s+1:=⟨m-j-1,by omega⟩
 have e:X.getD (X.length-(k+1)) 0=X[c-1-k+j]'(by omega):=by
  have:X.length-(k+1)=c-1-k+j:=by omega
  rw[this,List.getD_eq_getElem?_getD,List.getElem?_eq_getElem (by omega)]
  rfl
 rw[hs,zc,e,show m-(j+1)=s by omega]
theorem uM {w:World} {rest:List UInt8} {v:Value} {total:Nat} (hv:cm rest v w) (hl:rest.length≤549755813888) (ht:total≤549755813888):
 Calls Tryz.prog 107 #[v,bj (UInt64.ofNat total)] w (bF fun r w'=>aM w w'∧ExpR (qz total (total+1) rest []) r w'):=by
 refine enter (vs:=[v,bj (UInt64.ofNat total)]) Tryz.func107 Jg Jg Jg ?_
 refine af (aa (ab Jg Jg (ab Jg Jg (ag (ac (af (aa (ab Jg Jg (ag (ac (af (ax ?_))))))))))))
 refine qY (fun(f:Nat) (l:List UInt8) (O:List UInt8) (vl:Value) (vo:Value)=>[(0,vl),(1,bj (UInt64.ofNat total)),(6,vo)]) (fun(f:Nat) (l:List UInt8) (O:List UInt8) (vl:Value) (vo:Value) w'=>aM w w'∧cm l vl w∧cD w.heap.size O vo w'∧l.length≤549755813888∧O.length≤total∧total-O.length<f∧qz total (total+1) rest []=qz total f l O) (fun(f:Nat) (l:List UInt8) (O:List UInt8) (vl:Value) (vo:Value)=>total-O.length) (total+1) (rest) ([]) (v) (.slice none 0 0) ⟨rfl,rfl,rfl,trivial⟩ ⟨aM.refl _,hv,cD.nil _ _,hl,by simp,by simp,rfl⟩ ?_
 rintro f l O vl vo w2 ⟨e2,hb,oO,hll,hOt,hf,hu⟩
 refine af (af ?_)
 obtain⟨f,rfl⟩:∃g,f=g+1:=⟨f-1,by omega⟩
 refine aa (ae Jg Jg (aP Jg Jg (bz oO.bts) (aQ Jg Jg (cI IM IL) (ae Jg Jg (ai Jg Jg Jg (dt) ?_)))))
 refine ag (ac ?_)
 refine bi Jg (fun h19=>?_) (fun h19=>?_)
 ·have hlt:O.length<total:=(jA (by omega) (by omega)).1 h19
  refine aq (ac (ax (af (aa (ae Jg Jg (ae Jg Jg (aP Jg Jg (bz oO.bts) (aQ Jg Jg (cI IM IL) ?_))))))))
  refine ai (r:=bj (UInt64.ofNat (total-O.length))) Jg Jg Jg ((by rw[←Fe (n:=total) (m:=O.length) (by omega) (by omega)];exact dq)) (ab Jg Jg ?_)
  refine ag (ac (af ?_))
  rcases hN:cZ l with _|⟨n,t⟩
  ·refine aa (ae Jg Jg (an gE Jg Jg ((mU (hb.ext e2) (by omega) hN)) ?_))
   rintro v27 w27 ⟨x27,rfl⟩
   refine ae Jg Jg (aj Jg Jg (eh) (aj Jg Jg (ei) (aj Jg Jg (ej) (ab Jg Jg (ab Jg Jg (ab Jg Jg (ag ?_)))))))
   refine ac (af (af (aa (ae Jg Jg (ci Jg Jg cj (ae Jg Jg (ao Jg Jg Jg (ao Jg Jg Jg (ao Jg Jg Jg (aw Jg Jg Jg (ae Jg Jg ?_)))))))))))
   refine ao Jg Jg Jg (ao Jg Jg Jg (ao Jg Jg Jg (ao Jg Jg Jg (ao Jg Jg Jg (aw Jg Jg Jg (ag (ac (bB Jg (af (aa (ab Jg Jg (ab Jg Jg ?_))))))))))))
   refine ag (ac (au (av (bc (av (bc (av (aH Jg Jg Jg ?_))))))))
   exact⟨_,rfl,(e2.trans x27),by rw[hu,It hlt hN];exact⟨_,rfl⟩⟩
  ·obtain⟨hN1,hN2⟩:=eS hN
   have htl:t.length≤549755813888:=by rw[hN1,List.length_append] at hll;omega
   refine aa (ae Jg Jg (an gE Jg Jg ((mV hb (hb.ext e2) (by omega) hN)) ?_))
   rintro v27 w27 ⟨x27,u1,rfl,hb1⟩
   refine ae Jg Jg (aj Jg Jg (eh) (aj Jg Jg (ei) (aj Jg Jg (ej) (ab Jg Jg (ab Jg Jg (ab Jg Jg (ag ?_)))))))
   refine ac (af (af (aa (ae Jg Jg (ci Jg Jg cj (ae Jg Jg (al Jg (ae Jg Jg (al Jg (ae Jg Jg (al Jg (ai Jg Jg Jg (ck) ?_))))))))))))
   refine aC Jg Jg Jg (ae Jg Jg ?_)
   refine cJ (fun h38=>?_) (fun h38=>?_)
   ·refine ao Jg Jg Jg (ao Jg Jg Jg (ao Jg Jg Jg (ao Jg Jg Jg (ao Jg Jg Jg (aw Jg Jg Jg (ag (ac (bB Jg (af (aa (ab Jg Jg (ab Jg Jg ?_))))))))))))
    refine ag (ac (au (av (bc (av (bc (av (aH Jg Jg Jg ?_))))))))
    exact⟨_,rfl,(e2.trans x27),by
     rw[hu,nl hlt hN,if_pos (by
      first
      |exact .inl ((gX (by omega) (by omega)).1 h38)
      |exact .inr ((gX (by omega) (by omega)).1 h44))]
     exact⟨_,rfl⟩⟩
   ·refine al Jg (ae Jg Jg (al Jg (ae Jg Jg (al Jg (aP Jg Jg (bz (hb1.ext (e2.trans x27))) (al Jg (aQ Jg Jg (cI IM IL) ?_)))))))
    refine al Jg (ai Jg Jg Jg (ck) (aC Jg Jg Jg (ag (ac ?_))))
    refine bi Jg (fun h44=>?_) (fun h44=>?_)
    ·refine af (aa (ab Jg Jg (ab Jg Jg (ag (ac (au (av (bc (av (bc (av (aH Jg Jg Jg ?_))))))))))))
     exact⟨_,rfl,(e2.trans x27),by
      rw[hu,nl hlt hN,if_pos (by
       first
       |exact .inl ((gX (by omega) (by omega)).1 h38)
       |exact .inr ((gX (by omega) (by omega)).1 h44))]
      exact⟨_,rfl⟩⟩
    ·have hn1:n≤total-O.length:=Nat.le_of_not_lt (mt (gX (by omega) (by omega)).2 h38)
     have hn2:n≤t.length:=Nat.le_of_not_lt (mt (gX (by omega) (by omega)).2 h44)
     have hnn:(UInt64.ofNat n).toNat=n:=Fa hN2
     refine aq (ac (af (aa (ae Jg Jg (ae Jg Jg (ae Jg Jg ?_))))))
     obtain⟨v48,p48,b48⟩:=gL hb1 (hi:=(UInt64.ofNat n).toNat) (by omega) .u64
     rw[hnn] at b48
     refine cu (b:=some (bj (UInt64.ofNat n))) Jg Jg Jg Jg Jg (p48 _) ?_
     obtain⟨v49,w49,hr49,o49,g49⟩:=di (ty:=28) (oO.ext x27) (b48.ext (e2.trans x27)) (by simp only[List.length_take];omega) ((e2.trans x27)).size
     have x49:=aM.of_grew ((e2.trans x27)) g49 (oO.ext x27).ge
     refine be Jg Jg hr49 (ab Jg Jg (ag (ac (af (aa (ae Jg Jg (ae Jg Jg ?_)))))))
     obtain⟨v52,p52,b52⟩:=eZ hb1 (lo:=(UInt64.ofNat n).toNat) (by omega) .u64
     rw[hnn] at b52
     refine cu (a:=some (bj (UInt64.ofNat n))) Jg Jg Jg Jg Jg (p52 _) ?_
     refine ab Jg Jg (ag (ac (af (aa (ae Jg Jg (ae Jg Jg (ai (r:=bj (UInt64.ofNat (total-O.length-n))) Jg Jg Jg ((by rw[←Fe (n:=total-O.length) (m:=n) (by omega) hn1];exact dq)) ?_)))))))
     refine ab Jg Jg (ag (ac (af (af (aa (ae Jg Jg (ai (v:=bj 0) Jg Jg Jg (fy) (ag (ac ?_)))))))))
     refine bi Jg (fun h57=>?_) (fun h57=>?_)
     ·have hz:total-O.length=n:=by
       have:=congrArg UInt64.toNat h57
       rw[Fa (by omega),show(0:UInt64).toNat=0 from rfl] at this
       omega
      refine aW (aA (pZ Jg (aA (aU (ac (af (aa (ae Jg Jg (ae Jg Jg (aP Jg Jg (bz (b52.ext x49)) (ai Jg Jg Jg (aV) (ab Jg Jg ?_))))))))))))
      refine ab Jg Jg (ag (ac (au (aH Jg Jg Jg ?_))))
      exact⟨_,rfl,x49,by
       rw[hu,nl hlt hN,if_neg (by omega),if_pos hz]
       by_cases hd:t.drop n=[]
       ·rw[if_pos hd,hd]
        exact⟨_,rfl,(o49).bts⟩
       ·rw[if_neg hd]
        have:¬(((t.drop n).length:Nat):Int)=0:=fun h=>hd (List.eq_nil_of_length_eq_zero (by omega))
        exact⟨_,by rw[decide_eq_false this]⟩⟩
     ·have hnz:¬total-O.length=n:=fun h=>h57 (by rw[show total-O.length-n=0 by omega];rfl)
      refine aq (ac (af ?_))
      obtain⟨Y,hY⟩:∃Y,Y=total-O.length-n:=⟨_,rfl⟩
      have htd:(t.drop n).length≤549755813888:=by rw[List.length_drop];omega
      rcases hM:cZ (t.drop n) with _|⟨m,t2⟩
      ·refine aa (ae Jg Jg (an gE Jg Jg ((mU (b52.ext x49) (by omega) hM)) ?_))
       rintro v60 w60 ⟨x60,rfl⟩
       refine ae Jg Jg (aj Jg Jg (eh) (aj Jg Jg (ei) (aj Jg Jg (ej) (ab Jg Jg (ab Jg Jg (ab Jg Jg (ag ?_)))))))
       refine ac (af (af (aa (ae Jg Jg (ci Jg Jg cj (ae Jg Jg (ao Jg Jg Jg (ao Jg Jg Jg (aw Jg Jg Jg (ae Jg Jg (ao Jg Jg Jg ?_)))))))))))
       refine ao Jg Jg Jg (ao Jg Jg Jg (ao Jg Jg Jg (aw Jg Jg Jg (ag (ac (bB Jg (af (aa (ab Jg Jg (ab Jg Jg (ag (ac (au (av ?_))))))))))))))
       refine bc (av (bc (av (aH Jg Jg Jg ?_))))
       exact⟨_,rfl,(x49.trans x60),by rw[hu,nl hlt hN,if_neg (by omega),if_neg hnz,hM];exact⟨_,rfl⟩⟩
      ·obtain⟨hM1,hM2⟩:=eS hM
       have ht2:t2.length≤549755813888:=by rw[hM1,List.length_append] at htd;omega
       refine aa (ae Jg Jg (an gE Jg Jg ((mV b52 (b52.ext x49) (by omega) hM)) ?_))
       rintro v60 w60 ⟨x60,u2,rfl,hb2⟩
       refine ae Jg Jg (aj Jg Jg (eh) (aj Jg Jg (ei) (aj Jg Jg (ej) (ab Jg Jg (ab Jg Jg (ab Jg Jg (ag ?_)))))))
       refine ac (af (af (aa (ae Jg Jg (ci Jg Jg cj (ae Jg Jg (al Jg (ae Jg Jg (al Jg (ai (v:=bj 4) Jg Jg Jg (dt) (aC Jg Jg Jg ?_)))))))))))
       refine ae Jg Jg ?_
       refine cJ (fun h70=>?_) (fun h70=>?_)
       ·refine ao Jg Jg Jg (ao Jg Jg Jg (ao Jg Jg Jg (ao Jg Jg Jg (aw Jg Jg Jg (ag (ac (bB Jg (af (aa (ab Jg Jg (ab Jg Jg (ag ?_))))))))))))
        refine ac (au (av (bc (av (bc (av (aH Jg Jg Jg ?_)))))))
        exact⟨_,rfl,(x49.trans x60),by
         rw[hu,nl hlt hN,if_neg (by omega),if_neg hnz,hM]
         simp only[Option.bind_some]
         rw[if_pos (by
          first
          |exact .inl ((jA (m:=4) (by omega) (by omega)).1 h70)
          |exact .inr ((gX (by omega) (by omega)).1 h75))]
         exact⟨_,rfl⟩⟩
       ·refine al Jg (ae Jg Jg (al Jg (ae Jg Jg (al Jg ?_))))
        have hX4:4≤total-O.length-n:=Nat.le_of_not_lt fun h=>h70 ((jA (m:=4) (by omega) (by omega)).2 h)
        refine ai (v:=bj 4) (r:=bj (UInt64.ofNat (total-O.length-n-4))) Jg Jg Jg ((by rw[←Fe (n:=total-O.length-n) (m:=4) (by omega) hX4];exact dq)) ?_
        refine al Jg (ai Jg Jg Jg (ck) (aC Jg Jg Jg (ag (ac ?_))))
        refine bi Jg (fun h75=>?_) (fun h75=>?_)
        ·refine af (aa (ab Jg Jg (ab Jg Jg (ag (ac (au (av (bc (av (bc (av (aH Jg Jg Jg ?_))))))))))))
         exact⟨_,rfl,(x49.trans x60),by
          rw[hu,nl hlt hN,if_neg (by omega),if_neg hnz,hM]
          simp only[Option.bind_some]
          rw[if_pos (by
           first
           |exact .inl ((jA (m:=4) (by omega) (by omega)).1 h70)
           |exact .inr ((gX (by omega) (by omega)).1 h75))]
          exact⟨_,rfl⟩⟩
        ·have hm1:m≤total-O.length-n-4:=Nat.le_of_not_lt (mt (gX (by omega) (by omega)).2 h75)
         refine aq (ac (af ?_))
         rcases hK:cZ t2 with _|⟨k,t3⟩
         ·refine aa (ae Jg Jg (an gE Jg Jg ((mU (hb2.ext (x49.trans x60)) (by omega) hK)) ?_))
          rintro v78 w78 ⟨x78,rfl⟩
          refine ae Jg Jg (aj Jg Jg (eh) (aj Jg Jg (ei) (aj Jg Jg (ej) (ab Jg Jg (ab Jg Jg (ab Jg Jg (ag ?_)))))))
          refine ac (af (af (aa (ae Jg Jg (ci Jg Jg cj (ae Jg Jg (ao Jg Jg Jg (ao Jg Jg Jg (aw Jg Jg Jg (ae Jg Jg (ao Jg Jg Jg ?_)))))))))))
          refine ao Jg Jg Jg (ao Jg Jg Jg (ao Jg Jg Jg (ao Jg Jg Jg (aw Jg Jg Jg (ag (ac (bB Jg (af (aa (ab Jg Jg (ab Jg Jg (ag ?_))))))))))))
          refine ac (au (av (bc (av (bc (av (aH Jg Jg Jg ?_)))))))
          exact⟨_,rfl,((x49.trans x60).trans x78),by
           rw[hu,nl hlt hN,if_neg (by omega),if_neg hnz,hM]
           simp only[Option.bind_some]
           rw[if_neg (by omega),hK];exact⟨_,rfl⟩⟩
         ·obtain⟨hK1,hK2⟩:=eS hK
          have ht3:t3.length≤549755813888:=by rw[hK1,List.length_append] at ht2;omega
          refine aa (ae Jg Jg (an gE Jg Jg ((mV hb2 (hb2.ext (x49.trans x60)) (by omega) hK)) ?_))
          rintro v78 w78 ⟨x78,u3,rfl,hb3⟩
          refine ae Jg Jg (aj Jg Jg (eh) (aj Jg Jg (ei) (aj Jg Jg (ej) (ab Jg Jg (ab Jg Jg (ab Jg Jg (ag ?_)))))))
          refine ac (af (af (aa (ae Jg Jg (ci Jg Jg cj (ae Jg Jg (al Jg (ae Jg Jg (al Jg (ai (v:=bj 4096) Jg Jg Jg (fx) (aC Jg Jg Jg ?_)))))))))))
          refine ae Jg Jg ?_
          refine cJ (fun h88=>?_) (fun h88=>?_)
          ·refine ao Jg Jg Jg (ao Jg Jg Jg (ao Jg Jg Jg (ao Jg Jg Jg (ao Jg Jg Jg (aw Jg Jg Jg (ag (ac (bB Jg (af (aa (ab Jg Jg (ab Jg Jg ?_))))))))))))
           refine ag (ac (au (av (bc (av (bc (av (aH Jg Jg Jg ?_))))))))
           exact⟨_,rfl,((x49.trans x60).trans x78),by
            rw[hu,nl hlt hN,if_neg (by omega),if_neg hnz,hM]
            simp only[Option.bind_some]
            rw[if_neg (by omega),hK]
            simp only[Option.bind_some]
            rw[if_pos (by
             first
             |exact .inl ((lL (m:=4096) (by omega) (by omega)).1 h88)
             |exact(.inr ((lL (by omega) (by simp only[List.length_append,List.length_take];omega)).1 h94)))]
            exact⟨_,rfl⟩⟩
          ·refine al Jg (ae Jg Jg (al Jg (ae Jg Jg (al Jg (aP Jg Jg (bz (o49.ext (x60.trans x78)).bts) (al Jg (aQ Jg Jg (cI IM IL) ?_)))))))
           refine al Jg (ai Jg Jg Jg (fx) (aC Jg Jg Jg (ag (ac ?_))))
           refine bi Jg (fun h94=>?_) (fun h94=>?_)
           ·refine af (aa (ab Jg Jg (ab Jg Jg (ag (ac (au (av (bc (av (bc (av (aH Jg Jg Jg ?_))))))))))))
            exact⟨_,rfl,((x49.trans x60).trans x78),by
             rw[hu,nl hlt hN,if_neg (by omega),if_neg hnz,hM]
             simp only[Option.bind_some]
             rw[if_neg (by omega),hK]
             simp only[Option.bind_some]
             rw[if_pos (by
              first
              |exact .inl ((lL (m:=4096) (by omega) (by omega)).1 h88)
              |exact(.inr ((lL (by omega) (by simp only[List.length_append,List.length_take];omega)).1 h94)))]
             exact⟨_,rfl⟩⟩
           ·obtain⟨O1,hO1⟩:∃O1,O1=O++t.take n:=⟨_,rfl⟩
            have hOl:O1.length=O.length+n:=by rw[hO1,List.length_append,List.length_take];omega
            have hk1:k<4096:=Nat.lt_of_not_le (mt (lL (m:=4096) (by omega) (by omega)).2 h88)
            have hk2:k<O1.length:=by rw[hO1];exact Nat.lt_of_not_le (mt (lL (by omega) (by simp only[List.length_append,List.length_take];omega)).2 h94)
            rw[←hO1] at o49
            refine aq (ac (af (aa (ae Jg Jg (ab Jg Jg (ag (ac (af (aa (ae Jg Jg (aP Jg Jg (bz (o49.ext (x60.trans x78)).bts) (ai (r:=I ((O1.length-1:Nat):Int)) Jg Jg Jg (by have e:((O1.length-1:Nat):Int)=(O1.length:Int)-1:=(by omega);rw[e];exact bb (by omega) (by omega)) ?_))))))))))))
            refine ae Jg Jg (aQ Jg Jg (rg IL IM (by omega)) (ai (r:=I ((O1.length-1-k:Nat):Int)) Jg Jg Jg (by have e:((O1.length-1-k:Nat):Int)=((O1.length-1:Nat):Int)-(k:Int):=(by omega);rw[e];exact bb (by omega) (by omega)) ?_))
            refine ab Jg Jg (ag (ac (af (aa (ae Jg Jg (aQ Jg Jg (rg IL IM (by omega)) (ai (r:=I ((m+4:Nat):Int)) Jg Jg Jg (by have e:((m+4:Nat):Int)=(m:Int)+4:=(by omega);rw[e];exact aK (by omega) (by omega)) ?_)))))))
            refine ae Jg Jg (ag (ac (ax ?_)))
            refine fN (fun(j:Nat) (X:List UInt8) (vx:Value)=>[(0,u3),(1,bj (UInt64.ofNat total)),(6,vx),(13,I ((O1.length-1-k:Nat):Int)),(104,I ((m+4:Nat):Int)),(105,I (j:Int))]) (fun(j:Nat) (X:List UInt8) (vx:Value) w'=>aM w w'∧cD w.heap.size X vx w'∧X.length=O1.length+j∧j≤m+4∧zc (k+1) (m+4-j) X=zc (k+1) (m+4) O1) (fun(j:Nat) (X:List UInt8) (vx:Value)=>m+4-j) (0) (O1) (v49) ⟨rfl,rfl,rfl,rfl,rfl,rfl,trivial⟩ ⟨((x49.trans x60).trans x78),(o49.ext (x60.trans x78)),rfl,by omega,rfl⟩ ?_
            rintro j X vx w20 ⟨e20,oX,hXl,hj,hX⟩
            refine af (aa (ai Jg Jg Jg (aX) (ag (ac (af ?_)))))
            refine bi Jg (fun h106=>?_) (fun h106=>?_)
            ·refine aq (ac (af (ax (af (aa (ae Jg Jg (ab Jg Jg (ag (ac (aa (ae Jg Jg (ae Jg Jg (ae Jg Jg (ae Jg Jg (ai (r:=I ((O1.length-1-k+j:Nat):Int)) Jg Jg Jg (by have e:((O1.length-1-k+j:Nat):Int)=((O1.length-1-k:Nat):Int)+(j:Int):=(by omega);rw[e];exact aK (by omega) (by omega)) ?_)))))))))))))))
             obtain⟨a113,p113,q113⟩:=er oX.bts (i:=O1.length-1-k+j) (by omega) .i64
             refine aB Jg Jg Jg (p113 _) (am Jg Jg (ak IR Jg q113) ?_)
             obtain⟨v115,w115,hr115,x115,o115,ob115⟩:=fq (w:=w20) w20.heap.size [X[O1.length-1-k+j]'(by omega)] (by simp) (Nat.le_refl _)
             refine aN (vs:=[(0,U8 (X[O1.length-1-k+j]))]) Jg Jg hr115 ?_
             obtain⟨v116,w116,hr116,o116,g116⟩:=di (ty:=28) (oX.ext x115) o115.bts (by simp;omega) ((e20.trans x115)).size
             have x116:=aM.of_grew ((e20.trans x115)) g116 (oX.ext x115).ge
             refine be Jg Jg hr116 (ab Jg Jg (ag (aJ (ac (aa (ai (r:=I ((j+1:Nat):Int)) Jg Jg Jg (by have e:((j+1:Nat):Int)=(j:Int)+1:=(by omega);rw[e];exact aK (by omega) (by omega)) ?_))))))
             refine ae Jg Jg (ag ?_)
             refine dv (j+1) (X++[X[O1.length-1-k+j]'(by omega)]) (v116) ⟨rfl,rfl,rfl,rfl,rfl,rfl,trivial⟩ ⟨x116,o116,by simp;omega,by omega,by
              rw[←hX]
              exact(yI (by omega) hXl hk2).symm⟩ (by omega)
            ·refine aW (aA (aA (aU (aJ ?_))))
             refine fG (f) (t3) (X) (u3) (vx) ⟨rfl,rfl,rfl,trivial⟩ ⟨e20,hb3,oX,ht3,by omega,by omega,by
              rw[hu,nl hlt hN,if_neg (by omega),if_neg hnz,hM]
              simp only[Option.bind_some]
              rw[if_neg (by omega),hK]
              simp only[Option.bind_some]
              rw[←hO1,if_neg (by omega)]
              rw[show m+4-j=0 by omega] at hX
              rw[←hX];rfl⟩ (by omega)
 ·have hlt:¬O.length<total:=mt (jA (by omega) (by omega)).2 h19
  refine aW (aA (aA (aU (ac (af (aa (ae Jg Jg (ae Jg Jg (aP Jg Jg (bz (hb.ext e2)) (ai Jg Jg Jg (aV) (ab Jg Jg (ab Jg Jg ?_))))))))))))
  refine ag (ac (au (aH Jg Jg Jg ?_)))
  exact⟨_,rfl,e2,by
   rw[hu,Iu hlt]
   by_cases hd:l=[]
   ·rw[if_pos hd,hd]
    exact⟨_,rfl,(oO).bts⟩
   ·rw[if_neg hd]
    have:¬((l.length:Nat):Int)=0:=fun h=>hd (List.eq_nil_of_length_eq_zero (by omega))
    exact⟨_,by rw[decide_eq_false this]⟩⟩
end Go.Rl
namespace Go.Rl
open Go.RowKit Go.Proofs
def nn (g:Nat) (st:Option (List UInt8)) (b w:World):Prop:=∃A n c,cd g 109 [.slice A n c,B st.isNone] w∧cm (st.getD []) (.slice A n c) b∧oF A g
section
variable {g:Nat} {st:Option (List UInt8)} {b w w':World}
theorem nn.ext (h:nn g st b w) (hx:aM w w'):nn g st b w':=by
 obtain⟨A,n,c,h1,h2,h3⟩:=h
 exact⟨A,n,c,h1.ext hx,h2,h3⟩
theorem nn.at_ (h:nn g st b w) (k:Kp b w):cc g st w:=by
 obtain⟨A,n,c,h1,h2,h3⟩:=h
 exact⟨A,n,c,h1,h2.kp k,h3⟩
theorem nn.other {row:Option Nat} (h:nn g st b w) (hw:w.grownBy w' row) (hne:row≠some g):nn g st b w':=by
 obtain⟨A,n,c,h1,h2,h3⟩:=h
 exact⟨A,n,c,h1.other hw (Ne.symm hne),h2,h3⟩
theorem cm.nil_any {v:Value} {w w':World} (h:cm [] v w):cm [] v w':=by
 obtain⟨A,n,c,rfl,h1,h2,h3,h4,h5⟩:=h
 exact⟨A,n,c,rfl,h1,h2,h3,fun hn=>absurd h3 (by simp;omega),h5⟩
theorem cc.rfB (h:cc g none w) (b:World):nn g none b w:=by
 obtain⟨A,n,c,h1,h2,h3⟩:=h
 exact⟨A,n,c,h1,cm.nil_any h2,h3⟩
theorem nn.set {l l':List UInt8} {v:Value} (h:nn g (some l) b w) (hv:cm l' v b) (hloc:∀A n c,v=.slice A n c→oF A g):
 ∃w',(Instr.storeAt 28 (.pointer (some ⟨g,0,none⟩)) v).run Tryz.prog w=.ok () w'∧w.grownBy w' (some g)∧nn g (some l') b w':=by
 obtain⟨A,n,c,h1,h2,_⟩:=h
 obtain⟨A',n',c',rfl,h3⟩:=id hv
 exact⟨_,dm (i:=0) cn rfl h1 (by simp),aY w g 0 _,A',n',c',h1.set 0 _,hv,hloc _ _ _ rfl⟩
end
def HI (g:Nat) (b w:World) (o:Option (Nat×List UInt8)) (r:Value) (w':World):Prop:=
 w.grownBy w' (some g)∧match o with
  |some (n,t)=>r=.tuple #[bj (UInt64.ofNat n),I 0]∧nn g (some t) b w'
  |none=>r=.tuple #[bj 0,I 5]∧nn g none b w'
theorem qB {b w:World} {g:Nat} {st:Option (List UInt8)} (hrb:nn g st b w) (hkb:Kp b w):
 Calls Tryz.prog 25 #[.pointer (some ⟨g,0,none⟩)] w (bF (HI g b w (st.bind cZ))):=by
 refine enter (vs:=[.pointer (some ⟨g,0,none⟩)]) Tryz.func25 Jg Jg Jg ?_
 have hr:=hrb.at_ hkb
 obtain⟨A,n,c0,k0,b0w,lc⟩:=id hrb
 rw[xW]
 obtain⟨l,hl0⟩:∃l,l=st.getD []:=⟨_,rfl⟩
 rw[←hl0] at b0w⊢
 have b0:=b0w.kp hkb
 refine af (aa (ab Jg Jg (ab Jg Jg (ag (ac (af (aa (ab Jg Jg (ab Jg Jg (ag (ac (af (af (aa (ab Jg Jg (ag ?_))))))))))))))))
 refine ac (ax ?_)
 refine fN (fun(i:Nat) (acc:UInt64) (mult:UInt64)=>[(0,.pointer (some ⟨g,0,none⟩)),(4,bj acc),(5,bj mult),(6,I (i:Int))]) (fun(i:Nat) (acc:UInt64) (mult:UInt64) w'=>w=w'∧i≤10∧i≤l.length∧(i≤9→mult.toNat=128^i)∧acc.toNat<128^i∧cZ l=(kV (10-i) i (l.drop i)).map fun p=>(p.1+acc.toNat,p.2)) (fun(i:Nat) (acc:UInt64) (mult:UInt64)=>10-i) (0) (0) (1) ⟨rfl,rfl,rfl,rfl,trivial⟩ ⟨rfl,by omega,by omega,fun _=>rfl,by simp,by simp[cZ]⟩ ?_
 rintro i acc mult _ ⟨rfl,hi,hil,hm,ha,hrd⟩
 refine af (af (aa (ae Jg Jg (ae Jg Jg (aG Jg Jg (ah Jg Jg (aE (o:=0) IT Jg (by kernel_rfl) Jg) ?_))))))
 refine am Jg Jg (ak IP Jg (k0.cell (i:=0) Jg)) (aP Jg Jg (bz b0) (ai Jg Jg Jg (aX) (ae Jg Jg ?_)))
 refine cJ (fun h15=>?_) (fun h15=>?_)
 ·refine al Jg (ae Jg Jg (al Jg (ai Jg Jg Jg (aX) (aw Jg Jg Jg (ag (ac ?_))))))
  refine bi Jg (fun h18=>?_) (fun h18=>?_)
  ·refine aq (ac (af (ax (af (aa (ae Jg Jg (aG Jg Jg (ah Jg Jg (aE (o:=0) IT Jg (by kernel_rfl) Jg) ?_))))))))
   refine am Jg Jg (ak IP Jg (k0.cell (i:=0) Jg)) (ae Jg Jg ?_)
   obtain⟨a26,p26,q26⟩:=er b0 (i:=i) (by omega) .i64
   refine aB Jg Jg Jg (p26 _) (am Jg Jg (ak IR Jg q26) ?_)
   have hil':i<l.length:=by omega
   have hdr:=List.drop_eq_getElem_cons hil'
   have hd:((l[i]%128).toUInt64).toNat=l[i].toNat%128:=by rw[UInt8.toNat_toUInt64,UInt8.toNat_mod];rfl
   have hst:st=some l:=by
    cases st with
    |none=>rw[show l=[] from hl0] at hil';simp at hil'
    |some l'=>rw[show l=l' from hl0]
   refine ai (v:=U8 128) Jg Jg Jg (xh (by decide)) (aQ Jg Jg (rB IR IL) (ab Jg Jg (ag ?_)))
   refine ac (af ?_)
   refine eV (fun _:Unit=>[(0,.pointer (some ⟨g,0,none⟩)),(4,bj acc),(5,bj mult),(6,I (i:Int)),(7,bj ((l[i]%128).toUInt64))]) (fun _ w'=>w=w'∧(i=9→l[i].toNat%128≤1)) ?_ ?_
   ·refine af (aa (ae Jg Jg (ai Jg Jg Jg (aV) (ae Jg Jg ?_))))
    refine cJ (fun h32=>?_) (fun h32=>?_)
    ·refine al Jg (ae Jg Jg (al Jg (ai (v:=bj 1) Jg Jg Jg (ck) (aw Jg Jg Jg (ag (ac ?_))))))
     refine bi Jg (fun h35=>?_) (fun h35=>?_)
     ·have hn:cZ l=none:=by
       have h35:=UInt64.lt_iff_toNat_lt.1 h35
       rw[hd,show(1:UInt64).toNat=1 from rfl] at h35
       rw[hrd,hdr,gz (by omega),if_pos (Or.inl ⟨by omega,by omega⟩)];rfl
      refine af (aa (ae Jg Jg (an cQ Jg Jg (cS hr) ?_)))
      rintro v37 w37 ⟨rfl,hr2,gg⟩
      have m37:=dL.kp hr gg
      refine ab Jg Jg (ab Jg Jg (ag (ac (au (av (av (bc (av (av (bc (av (aH Jg Jg Jg ?_))))))))))))
      exact⟨_,rfl,gg,by rw[hn];exact⟨rfl,cc.rfB hr2 b⟩⟩
     ·refine aq ?_
      exact cv () ⟨rfl,rfl,rfl,rfl,rfl,trivial⟩ ⟨rfl,fun h9=>by
       first
       |exact absurd h9 (by omega)
       |(refine Nat.le_of_not_lt fun hh=>h35 (UInt64.lt_iff_toNat_lt.2 ?_);rw[hd];exact hh)⟩
    ·refine ao Jg Jg Jg (ao Jg Jg Jg (aC Jg Jg Jg (ag (ac (cq Jg (aq ?_))))))
     exact cv () ⟨rfl,rfl,rfl,rfl,rfl,trivial⟩ ⟨rfl,fun h9=>by
      first
      |exact absurd h9 (by omega)
      |(refine Nat.le_of_not_lt fun hh=>h35 (UInt64.lt_iff_toNat_lt.2 ?_);rw[hd];exact hh)⟩
   rintro⟨⟩ _ ⟨rfl,h9⟩
   refine ac (af ?_)
   have hab:=xX (c:=l[i]) ha (by omega) h9 (hm (by omega))
   refine aa (ae Jg Jg (ae Jg Jg (ae Jg Jg (ai Jg Jg Jg (fM) (ai Jg Jg Jg (dn) (ab Jg Jg (ag (ac (af (aa (ae Jg Jg ?_)))))))))))
   refine ai (v:=bj 128) Jg Jg Jg (fM) (ab Jg Jg (ag (ac (af (aa (ae Jg Jg (aG Jg Jg (ah Jg Jg (aE (o:=0) IT Jg (by kernel_rfl) Jg) ?_))))))))
   refine am Jg Jg (ak IP Jg (k0.cell (i:=0) Jg)) (ae Jg Jg ?_)
   obtain⟨a50,p50,q50⟩:=er b0 (i:=i) (by omega) .i64
   refine aB Jg Jg Jg (p50 _) (am Jg Jg (ak IR Jg q50) (ai (v:=U8 128) Jg Jg Jg (j1) (ag (ac ?_))))
   refine bi Jg (fun h52=>?_) (fun h52=>?_)
   ·have hc:l[i].toNat<128:=UInt8.lt_iff_toNat_lt.1 h52
    refine af ?_
    refine eV (fun _:Unit=>[(0,.pointer (some ⟨g,0,none⟩)),(4,bj (acc+(l[i]%128).toUInt64*mult)),(6,I (i:Int))]) (fun _ w'=>w=w'∧¬(0<i∧l[i].toNat=0)) ?_ ?_
    ·refine af (aa (ae Jg Jg (ai Jg Jg Jg (ce) (ae Jg Jg ?_))))
     refine cJ (fun h55=>?_) (fun h55=>?_)
     ·refine al Jg (ae Jg Jg (al Jg (ai (v:=bj 0) Jg Jg Jg (fy) (aw Jg Jg Jg (ag (ac ?_))))))
      refine bi Jg (fun h58=>?_) (fun h58=>?_)
      ·have hn:cZ l=none:=by
        have h58:=congrArg UInt64.toNat h58
        rw[hd,show(0:UInt64).toNat=0 from rfl] at h58
        rw[hrd,hdr,gz (by omega),if_pos (Or.inr ⟨by omega,by omega⟩)];rfl
       refine af (aa (ae Jg Jg (an cQ Jg Jg (cS hr) ?_)))
       rintro v60 w60 ⟨rfl,hr2,gg⟩
       have m60:=dL.kp hr gg
       refine ab Jg Jg (ab Jg Jg (ag (ac (au (av (av (bc (av (av (bc (av (aH Jg Jg Jg ?_))))))))))))
       exact⟨_,rfl,gg,by rw[hn];exact⟨rfl,cc.rfB hr2 b⟩⟩
      ·refine aq ?_
       exact cv () ⟨rfl,rfl,rfl,trivial⟩ ⟨rfl,fun hh=>by
        first
        |omega
        |exact h58 (by rw[UInt8.toNat_inj.1 (show l[i].toNat=(0:UInt8).toNat from hh.2)];rfl)⟩
     ·refine ao Jg Jg Jg (ao Jg Jg Jg (aC Jg Jg Jg (ag (ac (cq Jg (aq ?_))))))
      exact cv () ⟨rfl,rfl,rfl,trivial⟩ ⟨rfl,fun hh=>by
       first
       |omega
       |exact h58 (by rw[UInt8.toNat_inj.1 (show l[i].toNat=(0:UInt8).toNat from hh.2)];rfl)⟩
    rintro⟨⟩ _ ⟨rfl,hz⟩
    refine ac (af (aa (ae Jg Jg (ae Jg Jg (aG Jg Jg (ah Jg Jg (aE (o:=0) IT Jg (by kernel_rfl) Jg) ?_))))))
    refine am Jg Jg (ak IP Jg (k0.cell (i:=0) Jg)) (ae Jg Jg (ai (r:=I ((i+1:Nat):Int)) Jg Jg Jg (by have e:((i+1:Nat):Int)=(i:Int)+1:=(by omega);rw[e];exact aK (by omega) (by omega)) ?_))
    obtain⟨v68,p68,b68⟩:=eZ b0w (lo:=i+1) (by omega) .i64
    refine cu Jg Jg Jg Jg Jg (p68 _) (aG Jg Jg (ah Jg Jg (aE (o:=0) IT Jg (by kernel_rfl) Jg) ?_))
    obtain⟨w3,hs3,q3,r3⟩:=nn.set (by have:=hrb;rw[hst] at this;exact this) b68 (rY (p68 w) lc)
    refine ar Jg Jg (hs3) (ag (ac (af (aa (ae Jg Jg (ab Jg Jg (ab Jg Jg (ag (ac (au (bc (av (av (bc (av (aH Jg Jg Jg ?_))))))))))))))))
    exact⟨_,rfl,q3,by
     rw[hrd,hdr,gz (by omega),if_neg (fun hh=>hh.elim (fun h=>by have:=h9 h.1;omega) hz),if_pos hc]
     rw[Nat.mod_eq_of_lt hc] at hab
     exact⟨by rw[Nat.add_comm,←hab,UInt64.ofNat_toNat];rfl,r3⟩⟩
   ·have hc:¬l[i].toNat<128:=fun hh=>h52 (UInt8.lt_iff_toNat_lt.2 hh)
    refine aq (aJ (ac (aa (ae Jg Jg (ai (r:=I ((i+1:Nat):Int)) Jg Jg Jg (by have e:((i+1:Nat):Int)=(i:Int)+1:=(by omega);rw[e];exact aK (by omega) (by omega)) ?_)))))
    refine ab Jg Jg (ag ?_)
    refine dv (i+1) (acc+(l[i]%128).toUInt64*mult) (mult*128) ⟨rfl,rfl,rfl,rfl,trivial⟩ ⟨rfl,by omega,by omega,fun hi9=>by
     rw[UInt64.toNat_mul,hm (by omega),show(128:UInt64).toNat=128 from rfl,←Nat.pow_succ]
     exact Nat.mod_eq_of_lt (Nat.lt_of_le_of_lt (Nat.pow_le_pow_right (by omega) hi9) (by decide)),by
     rw[hab,Nat.pow_succ]
     have:(l[i].toNat%128)*128^i≤127*128^i:=Nat.mul_le_mul_right _ (by omega)
     omega,by
     rw[hrd,hdr,gz (by omega),hab]
     by_cases hi9:i=9
     ·subst hi9
      rw[if_pos (Or.inl ⟨rfl,by omega⟩),show 10-(9+1)=0 by omega,uj,Option.map_none,Option.map_none]
     ·rw[if_neg (fun hh=>by omega),if_neg hc,Option.map_map]
      congr 1
      funext p
      simp only[Function.comp,Prod.mk.injEq,and_true]
      omega⟩ (by omega)
  ·refine aW (aA (aA (aU (ac (af (aa (ae Jg Jg (an cQ Jg Jg (cS hr) ?_))))))))
   rintro v73 w73 ⟨rfl,hr2,gg⟩
   have m73:=dL.kp hr gg
   refine ab Jg Jg (ab Jg Jg (ag (ac (au (aH Jg Jg Jg ?_)))))
   exact⟨_,rfl,gg,by
    have hn:cZ l=none:=by
     rw[hrd]
     rcases Nat.lt_or_ge i 10 with h|h
     ·rw[List.drop_of_length_le (by omega),lS];rfl
     ·rw[show 10-i=0 by omega];rfl
    rw[hn];exact⟨rfl,cc.rfB hr2 b⟩⟩
 ·refine ao Jg Jg Jg (ao Jg Jg Jg (aC Jg Jg Jg (ag (ac (cq Jg (aW (aA (aA (aU (ac (af (aa (ae Jg Jg (an cQ Jg Jg (cS hr) ?_))))))))))))))
  rintro v73 w73 ⟨rfl,hr2,gg⟩
  have m73:=dL.kp hr gg
  refine ab Jg Jg (ab Jg Jg (ag (ac (au (aH Jg Jg Jg ?_)))))
  exact⟨_,rfl,gg,by
   have hn:cZ l=none:=by
    rw[hrd]
    rcases Nat.lt_or_ge i 10 with h|h
    ·rw[List.drop_of_length_le (by omega),lS];rfl
    ·rw[show 10-i=0 by omega];rfl
   rw[hn];exact⟨rfl,cc.rfB hr2 b⟩⟩
section
variable {b w:World} {g:Nat}
theorem gF {st:Option (List UInt8)} (hr:nn g st b w) (hk:Kp b w) (h:st.bind cZ=none):Calls Tryz.prog 25 #[.pointer (some ⟨g,0,none⟩)] w (bF fun r w'=>w.grownBy w' (some g)∧r=.tuple #[bj 0,I 5]∧nn g none b w'):=by
 have:=qB hr hk
 rw[h] at this
 exact this
theorem iK {st:Option (List UInt8)} {n:Nat} {t:List UInt8} (hr:nn g st b w) (hk:Kp b w) (h:st.bind cZ=some (n,t)):Calls Tryz.prog 25 #[.pointer (some ⟨g,0,none⟩)] w (bF fun r w'=>w.grownBy w' (some g)∧r=.tuple #[bj (UInt64.ofNat n),I 0]∧nn g (some t) b w'):=by
 have:=qB hr hk
 rw[h] at this
 exact this
end
def Gk (g:Nat) (b w:World) (o:Option (List UInt8×List UInt8)) (r:Value) (w':World):Prop:=
 w.grownBy w' (some g)∧match o with
  |some (a,t)=>∃v,r=.tuple #[v,I 0]∧cm a v w'∧nn g (some t) b w'
  |none=>r=.tuple #[.slice none 0 0,I 5]∧nn g none b w'
theorem oZ {b w:World} {g:Nat} {st:Option (List UInt8)} (hr:nn g st b w) (hkb:Kp b w) (hl:∀l,st=some l→l.length≤549755813888):
 Calls Tryz.prog 82 #[.pointer (some ⟨g,0,none⟩)] w (bF (Gk g b w (st.bind wZ))):=by
 refine enter (vs:=[.pointer (some ⟨g,0,none⟩)]) Tryz.func82 Jg Jg Jg ?_
 refine af (aa (ab Jg Jg (ab Jg Jg (ag (ac (af ?_))))))
 rcases hU:st.bind cZ with _|⟨n,t⟩
 ·refine aa (ae Jg Jg (an cA Jg Jg (gF hr hkb hU) ?_))
  rintro v9 w9 ⟨x9,rfl,hr1⟩
  have m9:=dL.kp (hr.at_ hkb) x9
  refine ae Jg Jg (aj Jg Jg (aS) (aj Jg Jg (aT) (ab Jg Jg (ab Jg Jg (ag (ac (af (af (aa (ae Jg Jg (ai Jg Jg Jg (cf (by decide) bS) ?_)))))))))))
  refine ag (ac (bB Jg (af (aa (ae Jg Jg (ab Jg Jg (ab Jg Jg (ag (ac (au (av (aH Jg Jg Jg ?_))))))))))))
  exact⟨_,rfl,x9,by rw[Ht hU];exact⟨rfl,hr1⟩⟩
 ·obtain⟨ht,hn⟩:=oH hU hl
  refine aa (ae Jg Jg (an cA Jg Jg (iK hr hkb hU) ?_))
  rintro v9 w9 ⟨x9,rfl,hr1⟩
  have m9:=dL.kp (hr.at_ hkb) x9
  refine ae Jg Jg (aj Jg Jg (aS) (aj Jg Jg (aT) ?_))
  obtain⟨A,n',c,k,b1,lc⟩:=id hr1
  have b0:cm t (.slice A n' c) b:=b1
  have b1:=b0.kp (hkb.trans m9)
  have hgb:g<w9.heap.size:=cc.lt (hr1.at_ (hkb.trans m9))
  refine ab Jg Jg (ab Jg Jg (ag (ac (af (af (aa (ae Jg Jg (ai Jg Jg Jg (bZ (by decide) bS) (ag (ac (cq Jg (aq (ac ?_)))))))))))))
  refine af (af (aa (ae Jg Jg (ae Jg Jg (aG Jg Jg (ah Jg Jg (aE (o:=0) IT Jg (by kernel_rfl) Jg) ?_))))))
  refine am Jg Jg (ak IP Jg (k.cell (i:=0) Jg)) (aP Jg Jg (bz b1) (aQ Jg Jg (cI IM IL) ?_))
  refine ai Jg Jg Jg (ck) (ag (ac ?_))
  refine bi Jg (fun h22=>?_) (fun h22=>?_)
  ·have hlong:t.length<n:=(gX hn (by omega)).1 h22
   refine af (aa (ae Jg Jg (an cQ Jg Jg (cS (hr1.at_ (hkb.trans m9))) ?_)))
   rintro v24 w24 ⟨rfl,hr2,g24⟩
   have m24:=dL.kp (hr1.at_ (hkb.trans m9)) g24
   refine ab Jg Jg (ab Jg Jg (ag (ac (au (av (aH Jg Jg Jg ?_))))))
   exact⟨_,rfl,x9.trans g24,by rw[Et hU,if_neg (by omega)];exact⟨rfl,cc.rfB hr2 b⟩⟩
  ·have hle:n≤t.length:=Nat.le_of_not_lt (mt (gX hn (by omega)).2 h22)
   have hnn:(UInt64.ofNat n).toNat=n:=by rw[UInt64.toNat_ofNat'];omega
   refine aq (ac (af (aa ?_)))
   obtain⟨v25,w25,hr25,x25,o25,ob25⟩:=fq (w:=w9) w9.heap.size [] (by simp) (Nat.le_refl _)
   refine aN (vs:=[]) Jg Jg hr25 (ae Jg Jg (aG Jg Jg (ah Jg Jg (aE (o:=0) IT Jg (by kernel_rfl) Jg) ?_)))
   refine am Jg Jg (ak IP Jg (x25.cell_some (k.cell (i:=0) Jg))) (ae Jg Jg ?_)
   obtain⟨v31,p31,b31⟩:=gL (b1.ext x25) (hi:=(UInt64.ofNat n).toNat) (by omega) .u64
   rw[hnn] at b31
   refine cu (b:=some (bj (UInt64.ofNat n))) Jg Jg Jg Jg Jg (p31 _) ?_
   obtain⟨v32,w32,hr32,o32,g32⟩:=di (ty:=28) o25 b31 (by simp;omega) (x25).size
   have x32:=aM.of_grew (x25) g32 o25.ge
   refine be Jg Jg hr32 (ab Jg Jg (ag (ac (af (aa (ae Jg Jg (ae Jg Jg (aG Jg Jg (ah Jg Jg (aE (o:=0) IT Jg (by kernel_rfl) Jg) ?_)))))))))
   refine am Jg Jg (ak IP Jg (x32.cell_some (k.cell (i:=0) Jg))) (ae Jg Jg ?_)
   obtain⟨v39,p39,b39⟩:=eZ b0 (lo:=(UInt64.ofNat n).toNat) (by omega) .u64
   rw[hnn] at b39
   refine cu (a:=some (bj (UInt64.ofNat n))) Jg Jg Jg Jg Jg (p39 _) ?_
   have hr1':=nn.ext hr1 x32
   have hvb:cm (t.take n) v32 w32:=by simpa using(o32).bts
   refine aG Jg Jg (ah Jg Jg (aE (o:=0) IT Jg (by kernel_rfl) Jg) ?_)
   obtain⟨w3,hs3,q3,r3⟩:=nn.set hr1' b39 (rY (p39 w) lc)
   refine ar Jg Jg (hs3) ?_
   have gg:=(x9.trans (dj x32)).trans q3
   refine ag (ac (af (aa (ae Jg Jg (ab Jg Jg (ab Jg Jg (ag (ac (au (aH Jg Jg Jg ?_))))))))))
   exact⟨_,rfl,gg,by rw[Et hU,if_pos hle];exact⟨_,rfl,hvb.kp (dL.kp (hr1'.at_ ((hkb.trans m9).trans (Kp.of_ext x32))) q3),r3⟩⟩
section
variable {b w:World} {g:Nat}
theorem wC {st:Option (List UInt8)} (hr:nn g st b w) (hk:Kp b w) (hl:∀l,st=some l→l.length≤549755813888) (h:st.bind wZ=none):Calls Tryz.prog 82 #[.pointer (some ⟨g,0,none⟩)] w (bF fun r w'=>w.grownBy w' (some g)∧r=.tuple #[.slice none 0 0,I 5]∧nn g none b w'):=by
 have:=oZ hr hk hl
 rw[h] at this
 exact this
theorem wE {st:Option (List UInt8)} {a t:List UInt8} (hr:nn g st b w) (hk:Kp b w) (hl:∀l,st=some l→l.length≤549755813888) (h:st.bind wZ=some (a,t)):Calls Tryz.prog 82 #[.pointer (some ⟨g,0,none⟩)] w (bF fun r w'=>w.grownBy w' (some g)∧∃v,r=.tuple #[v,I 0]∧cm a v w'∧nn g (some t) b w'):=by
 have:=oZ hr hk hl
 rw[h] at this
 exact this
end
end Go.Rl
namespace Go.Rl
open Go.RowKit Go.Proofs
theorem CZ:az Tryz.prog 56:=⟨_,Tryz.func56,by kernel_rfl,rfl⟩
def n0 (l:List UInt8) (max:Int) (f:List UInt8→Nat→Option (List UInt8)) (r:Value) (w':World):Prop:=
 if max<0 then r=.tuple #[.slice none 0 0,I 8]
 else match cZ l with
  |none=>r=.tuple #[.slice none 0 0,I 5]
  |some (n,t)=>if max<(n:Int) then r=.tuple #[.slice none 0 0,I 8] else match f t n with
   |some out=>∃v,r=.tuple #[v,I 0]∧cm out v w'
   |none=>r=.tuple #[.slice none 0 0,I 5]
theorem yJ {l t O r:List UInt8} {n:Nat} (h:tF n (n+1) t []=some (O,r)):vr l t n=if r=[]∧bW O=l then some O else none:=by
 unfold vr;rw[h];rfl
section
variable {l t:List UInt8} {max:Int} {n:Nat} {f:List UInt8→Nat→Option (List UInt8)} {w:World}
theorem mX (hM:0≤max) (hU:cZ l=some (n,t)) (hn:(n:Int)≤max) (h:f t n=none):n0 l max f (.tuple #[.slice none 0 0,I 5]) w:=by
 unfold n0
 rw[if_neg (by omega),hU]
 show(if max<(n:Int) then _ else _)
 rw[if_neg (by omega),h]
theorem tg {out:List UInt8} {v:Value} (hM:0≤max) (hU:cZ l=some (n,t)) (hn:(n:Int)≤max) (h:f t n=some out) (hv:cm out v w):n0 l max f (.tuple #[v,I 0]) w:=by
 unfold n0
 rw[if_neg (by omega),hU]
 show(if max<(n:Int) then _ else _)
 rw[if_neg (by omega),h]
 exact⟨v,rfl,hv⟩
end
theorem Iv {total f:Nat} {l O:List UInt8} (h:O.length<total) (hB:wZ l=none):tF total (f+1) l O=none:=by
 rw[tF,if_pos h,hB];rfl
theorem Iw {total f:Nat} {l O a t:List UInt8} (h:O.length<total) (hB:wZ l=some (a,t)):tF total (f+1) l O=
 if (O++a).length<total then
  (cZ t).bind fun q=>(cZ q.2).bind fun r=>
    if total≤q.1∨(O++a).length≤r.1 then none
    else tF total f r.2 (zc (r.1+1) (min (q.1+4) (total-(O++a).length)) (O++a))
 else some (O++a,t):=by
 rw[tF,if_pos h,hB];rfl
theorem GX {total f:Nat} {l O:List UInt8} (h:¬O.length<total):tF total (f+1) l O=some (O,l):=by
 rw[tF,if_neg h]
theorem jB {l t:List UInt8} {n:Nat} (h:cZ l=some (n,t)):t.length≤l.length:=by
 obtain⟨h1,_⟩:=eS h
 rw[h1,List.length_append];omega
theorem Ff {l a t:List UInt8} (h:wZ l=some (a,t)):a.length+t.length≤l.length:=by
 unfold wZ at h
 cases hU:cZ l with
 |none=>rw[hU] at h;cases h
 |some p=>
  obtain⟨n,u⟩:=p
  rw[hU] at h
  have h:(if n≤u.length then some (u.take n,u.drop n) else none)=some (a,t):=h
  have:=jB hU
  split at h
  ·simp only[Option.some.injEq,Prod.mk.injEq] at h
   rw[←h.1,←h.2,List.length_take,List.length_drop]
   omega
  ·cases h
theorem Iy {q:Nat} (_:q<4294967297):UInt64.ofNat q+4=UInt64.ofNat (q+4):=by
 apply UInt64.toNat_inj.1
 rw[UInt64.toNat_add,UInt64.toNat_ofNat',UInt64.toNat_ofNat',show(4:UInt64).toNat=4 from rfl]
 omega
theorem HJ {k:Nat} (_:k<4294967306):UInt64.ofNat k+1=UInt64.ofNat (k+1):=by
 apply UInt64.toNat_inj.1
 rw[UInt64.toNat_add,UInt64.toNat_ofNat',UInt64.toNat_ofNat',show(1:UInt64).toNat=1 from rfl]
 omega
theorem C0 {w:World} {l:List UInt8} {v:Value} {max:Int} (hv:cm l v w) (hl:l.length≤4294967296) (h1: -9223372036854775808≤max) (h2:max≤4294967296):
 Calls Tryz.prog 56 #[v,I max] w (bF fun r w'=>aM w w'∧n0 l max (vr l) r w'):=by
 refine enter (vs:=[v,I max]) Tryz.func56 Jg Jg Jg ?_
 refine af (aa (ab Jg Jg (ab Jg Jg (ag (ac (af (aa (ae Jg Jg (an pB Jg Jg ((pD hv (by omega))) ?_)))))))))
 rintro v15 w15 ⟨x15,g,lg,rfl,rr⟩
 have hgb:g<w15.heap.size:=cc.lt rr
 have rb:nn g (some l) w15 w15:=rr
 have kr:∀{w':World},w15.grownBy w' (some g)→Kp w15 w':=fun h=>dL.kp rr h
 refine ab Jg Jg (ag (ac (af ?_)))
 have h4:(max<0∧cZ l=none)∨(max<0∧∃n t,cZ l=some (n,t))∨(∃M:Nat,max=(M:Int)∧cZ l=none)∨(∃M:Nat,max=(M:Int)∧∃n t,cZ l=some (n,t)):=by
  have hM:0≤max→∃M:Nat,max=(M:Int):=fun h=>⟨max.toNat,by omega⟩
  cases hU:cZ l with
  |none=>
   rcases Int.lt_or_le max 0 with hm|hm
   ·exact .inl ⟨hm,rfl⟩
   ·obtain⟨M,hM⟩:=hM hm
    exact .inr (.inr (.inl ⟨M,hM,rfl⟩))
  |some p=>
   rcases Int.lt_or_le max 0 with hm|hm
   ·exact .inr (.inl ⟨hm,p.1,p.2,rfl⟩)
   ·obtain⟨M,hM⟩:=hM hm
    exact .inr (.inr (.inr ⟨M,hM,p.1,p.2,rfl⟩))
 rcases h4 with⟨hm,hU⟩|⟨hm,n,t,hU⟩|⟨M,rfl,hU⟩|⟨M,rfl,n,t,hU⟩
 ·refine aa (ae Jg Jg (an cA Jg Jg ((gF rb (Kp.refl _) hU)) ?_))
  rintro v18 w18 ⟨g18,rfl,r1⟩
  have x18:=(x15.of_new g18 lg)
  refine ae Jg Jg (aj Jg Jg (aS) (aj Jg Jg (aT) (ab Jg Jg (ab Jg Jg (ag (ac (af (af (aa (ae Jg Jg (ai Jg Jg Jg (cf (by omega) aX) ?_)))))))))))
  refine ae Jg Jg (ao Jg Jg Jg (ao Jg Jg Jg (ao Jg Jg Jg (cN Jg Jg Jg (cN Jg Jg Jg (cN Jg Jg Jg (cN Jg Jg Jg (ao Jg Jg Jg ?_))))))))
  refine aw Jg Jg Jg (ag (ac (bB Jg (af (aa (ab Jg Jg (ab Jg Jg (ag (ac (au (av (aH Jg Jg Jg ?_))))))))))))
  exact⟨_,rfl,x18,by unfold n0;rw[if_pos hm];rfl⟩
 ·refine aa (ae Jg Jg (an cA Jg Jg ((iK rb (Kp.refl _) hU)) ?_))
  rintro v18 w18 ⟨g18,rfl,r1⟩
  have x18:=(x15.of_new g18 lg)
  refine ae Jg Jg (aj Jg Jg (aS) (aj Jg Jg (aT) (ab Jg Jg (ab Jg Jg (ag (ac (af (af (aa (ae Jg Jg (ai Jg Jg Jg (cf (by omega) aX) ?_)))))))))))
  refine ae Jg Jg (ao Jg Jg Jg (ao Jg Jg Jg (ao Jg Jg Jg (cN Jg Jg Jg (cN Jg Jg Jg (cN Jg Jg Jg (cN Jg Jg Jg (ao Jg Jg Jg ?_))))))))
  refine aw Jg Jg Jg (ag (ac (bB Jg (af (aa (ab Jg Jg (ab Jg Jg (ag (ac (au (av (aH Jg Jg Jg ?_))))))))))))
  exact⟨_,rfl,x18,by unfold n0;rw[if_pos hm];rfl⟩
 ·refine aa (ae Jg Jg (an cA Jg Jg ((gF rb (Kp.refl _) hU)) ?_))
  rintro v18 w18 ⟨g18,rfl,r1⟩
  have x18:=(x15.of_new g18 lg)
  refine ae Jg Jg (aj Jg Jg (aS) (aj Jg Jg (aT) (ab Jg Jg (ab Jg Jg (ag (ac (af (af (aa (ae Jg Jg (ai Jg Jg Jg (bZ (by omega) aX) ?_)))))))))))
  refine ae Jg Jg (al Jg (ae Jg Jg (al Jg (ai Jg Jg Jg (bZ (by decide) aV) (al Jg (ae Jg Jg (ao Jg Jg Jg (ao Jg Jg Jg (ao Jg Jg Jg ?_)))))))))
  refine ao Jg Jg Jg (al Jg (aC Jg Jg Jg (aC Jg Jg Jg (ag (ac (cq Jg (aq (ac (af (aa (ab Jg Jg (ag (ac (af (ax ?_)))))))))))))))
  refine bV (α:=Unit) (fun _=>[(6,.pointer (some ⟨g,0,none⟩)),(0,v),(7,bj 0),(8,I 5),(9,.slice none 0 0)]) (fun _ w'=>w18=w') (fun _=>0) (()) ⟨rfl,rfl,rfl,rfl,rfl,trivial⟩ Jg ?_
  rintro⟨⟩ _ rfl
  refine af (af (aa (ae Jg Jg (ai Jg Jg Jg (bZ (by decide) aV) (ae Jg Jg (ao Jg Jg Jg (ao Jg Jg Jg (ao Jg Jg Jg (ao Jg Jg Jg ?_)))))))))
  refine ao Jg Jg Jg (aC Jg Jg Jg (ag (ac (cq Jg (aW (aA (aA (aU (ac (af (af (bA 14 [9,119,125] (by kernel_rfl) (by kernel_rfl) ?_))))))))))))
  refine ap Jg Jg (aR Jg Jg Jg (fun w _=>cf (by decide) bS) (ap Jg Jg (cB Jg Jg Jg (cB Jg Jg Jg (cB Jg Jg Jg (rx Jg Jg Jg ?_))))))
  refine ap Jg Jg (cB Jg Jg Jg (cB Jg Jg Jg (cB Jg Jg Jg (cB Jg Jg Jg (cB Jg Jg Jg (cB Jg Jg Jg (bG ?_)))))))
  intro wg20 xg20
  rintro _ rfl
  rintro _ rfl
  rintro _ rfl
  refine aw Jg Jg Jg (ag (ac (bB Jg (af (aa (ab Jg Jg (ab Jg Jg (ag (ac (au (av (aH Jg Jg Jg ?_))))))))))))
  exact⟨_,rfl,(x18.trans xg20),by
   unfold n0
   rw[if_neg (by omega),hU];rfl⟩
 ·refine aa (ae Jg Jg (an cA Jg Jg ((iK rb (Kp.refl _) hU)) ?_))
  rintro v18 w18 ⟨g18,rfl,r1⟩
  have x18:=(x15.of_new g18 lg)
  refine ae Jg Jg (aj Jg Jg (aS) (aj Jg Jg (aT) (ab Jg Jg (ab Jg Jg (ag (ac (af (af ?_))))))))
  obtain⟨hU1,hU2⟩:=eS hU
  have htl:=jB hU
  by_cases h30:UInt64.ofNat n>UInt64.ofNat M
  ·refine aa (ae Jg Jg (ai Jg Jg Jg (bZ (by omega) aX) (ae Jg Jg (al Jg (ae Jg Jg (al Jg (ai Jg Jg Jg (cf (by decide) aV) ?_)))))))
   refine al Jg (ae Jg Jg (al Jg (ae Jg Jg (al Jg (ae Jg Jg (al Jg (aQ Jg Jg (cI IM IL) ?_)))))))
   refine al Jg (ai Jg Jg Jg (cf h30 ck) (al Jg (aw Jg Jg Jg (aC Jg Jg Jg (ag (ac (bB Jg (af (aa (ab Jg Jg (ab Jg Jg ?_)))))))))))
   refine ag (ac (au (av (aH Jg Jg Jg ?_))))
   exact⟨_,rfl,x18,by
    have:=(gX hU2 (by omega)).1 h30
    unfold n0
    rw[if_neg (by omega),hU]
    show(if (M:Int)<(n:Int) then _ else _)
    rw[if_pos (by omega)];rfl⟩
  ·refine aa (ae Jg Jg (ai Jg Jg Jg (bZ (by omega) aX) (ae Jg Jg (al Jg (ae Jg Jg (al Jg (ai Jg Jg Jg (cf (by decide) aV) ?_)))))))
   refine al Jg (ae Jg Jg (al Jg (ae Jg Jg (al Jg (ae Jg Jg (al Jg (aQ Jg Jg (cI IM IL) ?_)))))))
   refine al Jg (ai Jg Jg Jg (bZ h30 ck) (al Jg (aw Jg Jg Jg (aC Jg Jg Jg (ag (ac (cq Jg (aq (ac (af ?_))))))))))
   have hnM:n≤M:=Nat.le_of_not_lt (mt (gX hU2 (by omega)).2 h30)
   refine aa (ab Jg Jg (ag (ac (af (ax ?_)))))
   refine qY (fun(e0:Int) (f:Nat) (r:List UInt8) (O:List UInt8) (vo:Value)=>[(6,.pointer (some ⟨g,0,none⟩)),(0,v),(7,bj (UInt64.ofNat n)),(8,I e0),(9,vo)]) (fun(e0:Int) (f:Nat) (r:List UInt8) (O:List UInt8) (vo:Value) w'=>aM w w'∧w15.grownBy w' (some g)∧((e0=0∧nn g (some r) w15 w'∧cD w15.heap.size O vo w'∧r.length≤l.length∧O.length≤n+l.length∧0<f∧n<f+O.length∧tF n (n+1) t []=tF n f r O)∨(e0=5∧tF n (n+1) t []=none))) (fun(e0:Int) (f:Nat) (r:List UInt8) (O:List UInt8) (vo:Value)=>if e0=0 then n+1-O.length else 0) (0) (n+1) (t) ([]) (.slice none 0 0) ⟨rfl,rfl,rfl,rfl,rfl,trivial⟩ ⟨x18,g18,.inl ⟨rfl,r1,cD.nil _ _,htl,by simp,by omega,by simp,rfl⟩⟩ ?_
   rintro e0 f r O vo w6 ⟨e6,hg6,hst⟩
   refine af (af ?_)
   rcases hst with⟨he0,r6,oO,hrl,hOl,hf0,hfO,hun⟩|⟨he0,hun⟩
   ·obtain rfl:0=e0:=he0.symm
    obtain⟨f,rfl⟩:∃f',f=f'+1:=⟨f-1,by omega⟩
    have bO:=oO.bts
    refine aa (ae Jg Jg (ai Jg Jg Jg (cf (by decide) aV) (ae Jg Jg (al Jg (ae Jg Jg (al Jg (aP Jg Jg (bz bO) (al Jg (aQ Jg Jg (cI IM IL) ?_)))))))))
    refine al Jg (ae Jg Jg (al Jg (ai Jg Jg Jg (dt) (aw Jg Jg Jg (ag (ac ?_))))))
    refine bi Jg (fun h41=>?_) (fun h41=>?_)
    ·refine aq (ac (ax (af (aa (ab Jg Jg (ag (ac (af ?_))))))))
     have hlt:O.length<n:=(jA (by omega) hU2).1 h41
     rcases hB:wZ r with _|⟨a,t2⟩
     ·refine aa (ae rfl rfl (an qq rfl rfl ((wC r6 (kr hg6) (by rintro _ ⟨⟩;omega) hB)) ?_))
      rintro v44 w44 ⟨g44,rfl,r44⟩
      have x44:=(x15.of_new (hg6.trans g44) lg)
      refine ae Jg Jg (aj Jg Jg (aS) (aj Jg Jg (aT) (ab Jg Jg (ab Jg Jg (ag (ac (af (aa (ae Jg Jg (ae Jg Jg ?_))))))))))
      obtain⟨v49,w49,hr49,o49,g49⟩:=di (ty:=28) (oO.kept g44 (.inr (oO.off hgb))) (cm.nil w44) (by simp;omega) (Nat.le_trans hg6.size g44.size)
      have hg49:=vK (hg6.trans g44) g49.grown (fun k hk=>oO.ge k hk)
      have x49:=x15.of_new hg49 lg
      refine be Jg Jg hr49 ?_
      refine ab Jg Jg (ag (ac (af (aa (ae Jg Jg (ai Jg Jg Jg (bZ (by decide) aV) (ae Jg Jg (ao Jg Jg Jg (ao Jg Jg Jg (ao Jg Jg Jg ?_))))))))))
      refine ao Jg Jg Jg (ao Jg Jg Jg (aC Jg Jg Jg (ag (ac (cq Jg (aq (aJ ?_)))))))
      refine fG (5) (0) ([]) ([]) (v49) ⟨rfl,rfl,rfl,rfl,rfl,trivial⟩ ⟨x49,hg49,.inr ⟨rfl,by rw[hun];exact Iv hlt hB⟩⟩ (by simp;omega)
     ·have hab:=Ff hB
      refine aa (ae rfl rfl (an qq rfl rfl ((wE r6 (kr hg6) (by rintro _ ⟨⟩;omega) hB)) ?_))
      rintro v44 w44 ⟨g44,va,rfl,ha,r44⟩
      have x44:=(x15.of_new (hg6.trans g44) lg)
      refine ae Jg Jg (aj Jg Jg (aS) (aj Jg Jg (aT) (ab Jg Jg (ab Jg Jg (ag (ac (af (aa (ae Jg Jg (ae Jg Jg ?_))))))))))
      obtain⟨v49,w49,hr49,o49,g49⟩:=di (ty:=28) (oO.kept g44 (.inr (oO.off hgb))) ha (by omega) (Nat.le_trans hg6.size g44.size)
      have hg49:=vK (hg6.trans g44) g49.grown (fun k hk=>oO.ge k hk)
      have x49:=x15.of_new hg49 lg
      refine be Jg Jg hr49 ?_
      have r49:=r44.other g49.grown (oO.off hgb)
      obtain⟨O1,hO1⟩:∃O1,O1=O++a:=⟨_,rfl⟩
      have hOl1:O1.length=O.length+a.length:=by rw[hO1,List.length_append]
      have hstep:=Iw (f:=f) hlt hB
      rw[←hO1] at o49 hstep
      have b49:=o49.bts
      refine ab Jg Jg (ag (ac (af (aa (ae Jg Jg (ai Jg Jg Jg (cf (by decide) aV) (ae Jg Jg (al Jg (ae Jg Jg (al Jg (aP Jg Jg (bz b49) ?_)))))))))))
      refine al Jg (aQ Jg Jg (cI IM IL) (al Jg (ae Jg Jg (al Jg (ai Jg Jg Jg (dt) (aw Jg Jg Jg ?_))))))
      refine ag (ac ?_)
      refine bi Jg (fun h58=>?_) (fun h58=>?_)
      ·have hlt1:O1.length<n:=(jA (by omega) hU2).1 h58
       rw[if_pos hlt1] at hstep
       refine af (aa (ab Jg Jg (ab Jg Jg (ag (ac (af ?_))))))
       rcases hM:cZ t2 with _|⟨m,t3⟩
       ·refine aa (ae Jg Jg (an cA Jg Jg ((gF r49 (kr hg49) hM)) ?_))
        rintro v61 w61 ⟨g61,rfl,r61⟩
        have x61:=(x15.of_new (hg49.trans g61) lg)
        refine ae Jg Jg (aj Jg Jg (aS) (aj Jg Jg (aT) (ab Jg Jg (ag (ac (af (aa (ae Jg Jg (an cA Jg Jg ((gF r61 (kr (hg49.trans g61)) Jg)) ?_)))))))))
        rintro v66 w66 ⟨g66,rfl,r66⟩
        have x66:=(x15.of_new ((hg49.trans g61).trans g66) lg)
        refine ae Jg Jg (aj Jg Jg (aS) (aj Jg Jg (aT) (ab Jg Jg (ab Jg Jg (ag (ac (af (af (aa (ae Jg Jg (ai Jg Jg Jg (bZ (by decide) aV) ?_)))))))))))
        refine ae Jg Jg (ao Jg Jg Jg (ao Jg Jg Jg (ao Jg Jg Jg (ao Jg Jg Jg (cN Jg Jg Jg (cN Jg Jg Jg (cN Jg Jg Jg (cN Jg Jg Jg ?_))))))))
        refine cN Jg Jg Jg (ao Jg Jg Jg (aC Jg Jg Jg (ag (ac (cq Jg (aq (ac (af (aa (ab Jg Jg (ag (ac (ax ?_)))))))))))))
        refine bV (α:=Unit) (fun _=>[(6,.pointer (some ⟨g,0,none⟩)),(0,v),(7,bj (UInt64.ofNat n)),(8,I 5),(9,v49)]) (fun _ w'=>w66=w') (fun _=>0) (()) ⟨rfl,rfl,rfl,rfl,rfl,trivial⟩ Jg ?_
        rintro⟨⟩ _ rfl
        refine af (af (aa (ae Jg Jg (ai Jg Jg Jg (bZ (by decide) aV) (ae Jg Jg (ao Jg Jg Jg (ao Jg Jg Jg (ao Jg Jg Jg (ao Jg Jg Jg ?_)))))))))
        refine aC Jg Jg Jg (ae Jg Jg (ao Jg Jg Jg (ao Jg Jg Jg (ao Jg Jg Jg (ao Jg Jg Jg (ao Jg Jg Jg (aC Jg Jg Jg (ag (ac (cq Jg ?_))))))))))
        refine aW (aA (aA (aU (aJ ?_))))
        refine fG (5) (0) ([]) ([]) (v49) ⟨rfl,rfl,rfl,rfl,rfl,trivial⟩ ⟨x66,(hg49.trans g61).trans g66,.inr ⟨rfl,by rw[hun,hstep,hM];rfl⟩⟩ (by simp;omega)
       ·obtain⟨hM1,hM2⟩:=eS hM
        refine aa (ae Jg Jg (an cA Jg Jg ((iK r49 (kr hg49) hM)) ?_))
        rintro v61 w61 ⟨g61,rfl,r61⟩
        have x61:=(x15.of_new (hg49.trans g61) lg)
        refine ae Jg Jg (aj Jg Jg (aS) (aj Jg Jg (aT) (ab Jg Jg (ag (ac (af ?_))))))
        rcases hK:cZ t3 with _|⟨k,t4⟩
        ·refine aa (ae Jg Jg (an cA Jg Jg ((gF r61 (kr (hg49.trans g61)) hK)) ?_))
         rintro v66 w66 ⟨g66,rfl,r66⟩
         have x66:=(x15.of_new ((hg49.trans g61).trans g66) lg)
         refine ae Jg Jg (aj Jg Jg (aS) (aj Jg Jg (aT) (ab Jg Jg (ab Jg Jg (ag (ac (af (af (aa (ae Jg Jg (ai Jg Jg Jg (bZ (by decide) aV) ?_)))))))))))
         refine ae Jg Jg (ao Jg Jg Jg (ao Jg Jg Jg (ao Jg Jg Jg (ao Jg Jg Jg (cN Jg Jg Jg (cN Jg Jg Jg (cN Jg Jg Jg (cN Jg Jg Jg ?_))))))))
         refine cN Jg Jg Jg (ao Jg Jg Jg (aC Jg Jg Jg (ag (ac (cq Jg (aq (ac (af (aa (ab Jg Jg (ag (ac (ax ?_)))))))))))))
         refine bV (α:=Unit) (fun _=>[(6,.pointer (some ⟨g,0,none⟩)),(0,v),(7,bj (UInt64.ofNat n)),(8,I 5),(9,v49)]) (fun _ w'=>w66=w') (fun _=>0) (()) ⟨rfl,rfl,rfl,rfl,rfl,trivial⟩ Jg ?_
         rintro⟨⟩ _ rfl
         refine af (af (aa (ae Jg Jg (ai Jg Jg Jg (bZ (by decide) aV) (ae Jg Jg (ao Jg Jg Jg (ao Jg Jg Jg (ao Jg Jg Jg (ao Jg Jg Jg ?_)))))))))
         refine aC Jg Jg Jg (ae Jg Jg (ao Jg Jg Jg (ao Jg Jg Jg (ao Jg Jg Jg (ao Jg Jg Jg (ao Jg Jg Jg (aC Jg Jg Jg (ag (ac (cq Jg ?_))))))))))
         refine aW (aA (aA (aU (aJ ?_))))
         refine fG (5) (0) ([]) ([]) (v49) ⟨rfl,rfl,rfl,rfl,rfl,trivial⟩ ⟨x66,(hg49.trans g61).trans g66,.inr ⟨rfl,by
          rw[hun,hstep,hM]
          simp only[Option.bind_some]
          rw[hK];rfl⟩⟩ (by simp;omega)
        ·obtain⟨hK1,hK2⟩:=eS hK
         refine aa (ae Jg Jg (an cA Jg Jg ((iK r61 (kr (hg49.trans g61)) hK)) ?_))
         rintro v66 w66 ⟨g66,rfl,r66⟩
         have x66:=(x15.of_new ((hg49.trans g61).trans g66) lg)
         refine ae Jg Jg (aj Jg Jg (aS) (aj Jg Jg (aT) ?_))
         have hg66:=(hg49.trans g61).trans g66
         have o66:=(o49.kept g61 (.inr (o49.off hgb))).kept g66 (.inr (o49.off hgb))
         have b66:=o66.bts
         refine ab Jg Jg (ab Jg Jg (ag (ac (af (af (aa (ae Jg Jg (ai Jg Jg Jg (cf (by decide) aV) (ae Jg Jg (al Jg (ae Jg Jg ?_)))))))))))
         refine al Jg (ae Jg Jg (al Jg (ai Jg Jg Jg (fx) (al Jg (ae Jg Jg ?_)))))
         refine cJ (fun h75=>?_) (fun h75=>?_)
         ·refine ao Jg Jg Jg (ao Jg Jg Jg (ao Jg Jg Jg (ao Jg Jg Jg (ao Jg Jg Jg (al Jg (aw Jg Jg Jg (aw Jg Jg Jg (ag (ac (bB Jg (aa ?_)))))))))))
          refine ab Jg Jg (ag (ac (af (aa (ab Jg Jg (ag (ac (ax ?_))))))))
          refine bV (α:=Unit) (fun _=>[(6,.pointer (some ⟨g,0,none⟩)),(0,v),(7,bj (UInt64.ofNat n)),(8,I 5),(9,v49)]) (fun _ w'=>w66=w') (fun _=>0) (()) ⟨rfl,rfl,rfl,rfl,rfl,trivial⟩ Jg ?_
          rintro⟨⟩ _ rfl
          refine af (af (aa (ae Jg Jg (ai Jg Jg Jg (bZ (by decide) aV) (ae Jg Jg (ao Jg Jg Jg (ao Jg Jg Jg (ao Jg Jg Jg (ao Jg Jg Jg ?_)))))))))
          refine aC Jg Jg Jg (ae Jg Jg (ao Jg Jg Jg (ao Jg Jg Jg (ao Jg Jg Jg (ao Jg Jg Jg (ao Jg Jg Jg (aC Jg Jg Jg (ag (ac (cq Jg ?_))))))))))
          refine aW (aA (aA (aU (aJ ?_))))
          refine fG (5) (0) ([]) ([]) (v49) ⟨rfl,rfl,rfl,rfl,rfl,trivial⟩ ⟨x66,hg66,.inr ⟨rfl,by
           rw[hun,hstep,hM]
           simp only[Option.bind_some]
           rw[hK]
           simp only[Option.bind_some]
           rw[if_pos (by
            first
            |exact .inl ((lL hM2 hU2).1 h75)
            |exact .inr ((lL hK2 (by omega)).1 h82))]⟩⟩ (by simp;omega)
         ·refine al Jg (ae Jg Jg (al Jg (ae Jg Jg (al Jg (aP Jg Jg (bz b66) (al Jg (aQ Jg Jg (cI IM IL) ?_)))))))
          refine al Jg (ai Jg Jg Jg (fx) (al Jg (aC Jg Jg Jg (aw Jg Jg Jg (ag (ac ?_))))))
          refine bi Jg (fun h82=>?_) (fun h82=>?_)
          ·refine aa (ab Jg Jg (ag (ac (af (aa (ab Jg Jg (ag (ac (ax ?_)))))))))
           refine bV (α:=Unit) (fun _=>[(6,.pointer (some ⟨g,0,none⟩)),(0,v),(7,bj (UInt64.ofNat n)),(8,I 5),(9,v49)]) (fun _ w'=>w66=w') (fun _=>0) (()) ⟨rfl,rfl,rfl,rfl,rfl,trivial⟩ Jg ?_
           rintro⟨⟩ _ rfl
           refine af (af (aa (ae Jg Jg (ai Jg Jg Jg (bZ (by decide) aV) (ae Jg Jg (ao Jg Jg Jg (ao Jg Jg Jg (ao Jg Jg Jg (ao Jg Jg Jg ?_)))))))))
           refine aC Jg Jg Jg (ae Jg Jg (ao Jg Jg Jg (ao Jg Jg Jg (ao Jg Jg Jg (ao Jg Jg Jg (ao Jg Jg Jg (aC Jg Jg Jg (ag (ac (cq Jg ?_))))))))))
           refine aW (aA (aA (aU (aJ ?_))))
           refine fG (5) (0) ([]) ([]) (v49) ⟨rfl,rfl,rfl,rfl,rfl,trivial⟩ ⟨x66,hg66,.inr ⟨rfl,by
            rw[hun,hstep,hM]
            simp only[Option.bind_some]
            rw[hK]
            simp only[Option.bind_some]
            rw[if_pos (by
             first
             |exact .inl ((lL hM2 hU2).1 h75)
             |exact .inr ((lL hK2 (by omega)).1 h82))]⟩⟩ (by simp;omega)
          ·have hmn:m<n:=Nat.lt_of_not_le (mt (lL hM2 hU2).2 h75)
           have hkO:k<O1.length:=Nat.lt_of_not_le (mt (lL hK2 (by omega)).2 h82)
           obtain⟨c,hc⟩:∃c,c=min (m+4) (n-O1.length):=⟨_,rfl⟩
           refine aq (ac (af (aa (ab Jg Jg (ag (ac (ax ?_)))))))
           refine fN (fun(j:Nat) (X:List UInt8) (vx:Value)=>[(6,.pointer (some ⟨g,0,none⟩)),(0,v),(7,bj (UInt64.ofNat n)),(8,I 0),(9,vx),(11,bj (UInt64.ofNat m)),(12,bj (UInt64.ofNat k)),(13,bj (UInt64.ofNat j))]) (fun(j:Nat) (X:List UInt8) (vx:Value) w'=>aM w w'∧w15.grownBy w' (some g)∧nn g (some t4) w15 w'∧cD w15.heap.size X vx w'∧X.length=O1.length+j∧j≤c∧zc (k+1) (c-j) X=zc (k+1) c O1) (fun(j:Nat) (X:List UInt8) (vx:Value)=>c-j) (0) (O1) (v49) ⟨rfl,rfl,rfl,rfl,rfl,rfl,rfl,rfl,trivial⟩ ⟨x66,hg66,r66,o66,rfl,by omega,rfl⟩ ?_
           rintro j X vx w17 ⟨e17,hg17,r17,oX,hXl,hj,hX⟩
           refine af (af ?_)
           have bX:=oX.bts
           refine aa (ae Jg Jg (ai Jg Jg Jg (cf (by decide) aV) (ae Jg Jg (al Jg (ae Jg Jg (al Jg (ae Jg Jg (al Jg (ai (v:=bj 4) (r:=bj (UInt64.ofNat (m+4))) Jg Jg Jg ((by rw[←Iy (by omega)];exact dn)) ?_)))))))))
           refine al Jg (ai Jg Jg Jg (dt) (aw Jg Jg Jg (ae Jg Jg ?_)))
           refine cJ (fun h91=>?_) (fun h91=>?_)
           ·refine al Jg (ae Jg Jg (al Jg (aP Jg Jg (bz bX) (al Jg (aQ Jg Jg (cI IM IL) (al Jg (ae Jg Jg ?_)))))))
            refine al Jg (ai Jg Jg Jg (dt) (aw Jg Jg Jg (ag (ac ?_))))
            refine bi Jg (fun h97=>?_) (fun h97=>?_)
            ·have hj1:j<m+4:=(jA (by omega) (by omega)).1 h91
             have hj2:X.length<n:=(jA (by omega) hU2).1 h97
             refine aq (ac (af (ax (aa (ae Jg Jg (ae Jg Jg (ae Jg Jg (aP Jg Jg (bz bX) (ai (r:=I ((X.length-1:Nat):Int)) Jg Jg Jg (by have e:((X.length-1:Nat):Int)=(X.length:Int)-1:=(by omega);rw[e];exact bb (by omega) (by omega)) ?_)))))))))
             refine ae Jg Jg (aQ Jg Jg (rg IL IM (by omega)) (ai (r:=I ((O1.length-1-k+j:Nat):Int)) Jg Jg Jg (by have e:((O1.length-1-k+j:Nat):Int)=((X.length-1:Nat):Int)-(k:Int):=(by omega);rw[e];exact bb (by omega) (by omega)) ?_))
             obtain⟨a108,p108,q108⟩:=er bX (i:=O1.length-1-k+j) (by omega) .i64
             refine aB Jg Jg Jg (p108 _) (am Jg Jg (ak IR Jg q108) ?_)
             obtain⟨v110,w110,hr110,x110,o110,ob110⟩:=fq (w:=w17) w17.heap.size [X[O1.length-1-k+j]'(by omega)] (by simp) (Nat.le_refl _)
             refine aN (vs:=[(0,U8 (X[O1.length-1-k+j]))]) Jg Jg hr110 ?_
             obtain⟨v111,w111,hr111,o111,g111⟩:=di (ty:=28) (oX.ext x110) o110.bts (by simp;omega) (Nat.le_trans hg17.size x110.size)
             have hg111:=vK (hg17.trans (dj x110)) g111.grown (fun k hk=>oX.ge k hk)
             have x111:=x15.of_new hg111 lg
             refine be Jg Jg hr111 ?_
             have r111:=(r17.ext x110).other g111.grown (oX.off hgb)
             refine ab Jg Jg (ag (aJ (ac (aa (ae Jg Jg (ai (v:=bj 1) (r:=bj (UInt64.ofNat (j+1))) Jg Jg Jg ((by rw[←HJ (by omega)];exact dn)) ?_))))))
             refine ab Jg Jg (ag ?_)
             refine dv (j+1) (X++[X[O1.length-1-k+j]'(by omega)]) (v111) ⟨rfl,rfl,rfl,rfl,rfl,rfl,rfl,rfl,trivial⟩ ⟨x111,hg111,r111,o111,by simp;omega,by omega,by
              rw[←hX]
              exact(yI (by omega) hXl hkO).symm⟩ (by omega)
            ·refine aW (aA (aA (aU (aJ ?_))))
             have hjc:j=c:=by
              first
              |(have:=mt (jA (by omega) (by omega)).2 h91;omega)
              |(have:=mt (jA (by omega) hU2).2 h97;omega)
             refine fG (0) (f) (t4) (X) (vx) ⟨rfl,rfl,rfl,rfl,rfl,trivial⟩ ⟨e17,hg17,.inl ⟨rfl,r17,oX,by have:=jB hM;have:=jB hK;omega,by omega,by omega,by omega,by
              rw[hun,hstep,hM]
              simp only[Option.bind_some]
              rw[hK]
              simp only[Option.bind_some]
              rw[if_neg (by omega),←hc,←hX,hjc,Nat.sub_self];rfl⟩⟩ (by simp;omega)
           ·refine ao Jg Jg Jg (ao Jg Jg Jg (ao Jg Jg Jg (ao Jg Jg Jg (ao Jg Jg Jg (aC Jg Jg Jg (ag (ac (cq Jg (aW (aA (aA (aU (aJ ?_)))))))))))))
            have hjc:j=c:=by
             first
             |(have:=mt (jA (by omega) (by omega)).2 h91;omega)
             |(have:=mt (jA (by omega) hU2).2 h97;omega)
            refine fG (0) (f) (t4) (X) (vx) ⟨rfl,rfl,rfl,rfl,rfl,trivial⟩ ⟨e17,hg17,.inl ⟨rfl,r17,oX,by have:=jB hM;have:=jB hK;omega,by omega,by omega,by omega,by
             rw[hun,hstep,hM]
             simp only[Option.bind_some]
             rw[hK]
             simp only[Option.bind_some]
             rw[if_neg (by omega),←hc,←hX,hjc,Nat.sub_self];rfl⟩⟩ (by simp;omega)
      ·have hge:¬O1.length<n:=mt (jA (by omega) hU2).2 h58
       refine aq (aJ ?_)
       refine fG (0) (f+1) (t2) (O1) (v49) ⟨rfl,rfl,rfl,rfl,rfl,trivial⟩ ⟨x49,hg49,.inl ⟨rfl,r49,o49,by omega,by omega,by omega,by omega,by rw[hun,hstep,if_neg hge,GX hge]⟩⟩ (by simp;omega)
    ·have hge:¬O.length<n:=mt (jA (by omega) hU2).2 h41
     have hz:=GX (total:=n) (f:=f) (l:=r) hge
     refine aW (aA (aA (aU (ac (af (af ?_))))))
     rcases r with _|⟨r0,rs⟩
     ·refine bA 14 [9,119,125] (by kernel_rfl) (by kernel_rfl) ?_
      refine ap rfl rfl (aR rfl rfl rfl (fun w _=>bZ (by decide) bS) (ap rfl rfl (bg rfl rfl (ap rfl rfl (bg rfl rfl (cl (S:=Is (I 0)) nE (bu.is _) rfl (fun w hw=>by rintro _ rfl;exact bF.mono (nG (dL.ext (r6.at_ (kr hg6)) hw)) fun v w' h=>⟨h.2▸aM.refl _,h.1.trans (by rw[if_pos rfl])⟩) ?_))))))
      refine bg rfl rfl (aR rfl rfl rfl (fun w _=>bZ (by decide) bS) (lO rfl rfl rfl (ap rfl rfl (bg rfl rfl (ap rfl rfl (bg rfl rfl (cl (S:=cm (bW O)) Ag (cm.stable _) rfl (fun w hw=>by rintro _ rfl;exact bF.mono (Ah (bO.ext hw) (by omega)) fun v w' h=>h) ?_)))))))
      refine bg Jg Jg (FM Jg (bu.is _) Jg (fun w v hw hv=>⟨_,w,p5 hv,aM.refl _,rfl⟩) (bg Jg Jg (ap Jg Jg (bg Jg Jg (dh Jg Jg (fun w hw=>p5 ((hv.ext e6).ext hw)) ?_)))))
      refine bg Jg Jg (aR Jg Jg Jg (fun w _=>qX) (bG ?_))
      intro wg20 xg20
      rintro _ hq9
      obtain rfl:=Eq.symm hq9
      rintro _ rfl
      rintro _ rfl
      refine aC Jg Jg Jg (ag (ac ?_))
      refine bi Jg (fun h126=>?_) (fun h126=>?_)
      ·refine af (aa (ab Jg Jg (ab Jg Jg (ag (ac (au (av (aH Jg Jg Jg ?_))))))))
       exact⟨_,rfl,(e6.trans xg20),by
        first
        |exact mX (by omega) hU (by omega) (by rw[yJ (hun.trans hz),if_neg (fun h=>h126 h.2)])
        |exact tg (by omega) hU (by omega) (by rw[yJ (hun.trans hz),if_pos ⟨rfl,Classical.byContradiction h126⟩]) (bO.ext xg20)⟩
      ·refine aq (ac (af (aa (ae Jg Jg (ab Jg Jg (ab Jg Jg (ag (ac (au (aH Jg Jg Jg ?_))))))))))
       exact⟨_,rfl,(e6.trans xg20),by
        first
        |exact mX (by omega) hU (by omega) (by rw[yJ (hun.trans hz),if_neg (fun h=>h126 h.2)])
        |exact tg (by omega) hU (by omega) (by rw[yJ (hun.trans hz),if_pos ⟨rfl,Classical.byContradiction h126⟩]) (bO.ext xg20)⟩
     ·refine bA 14 [9,119,125] (by kernel_rfl) (by kernel_rfl) ?_
      refine ap rfl rfl (aR rfl rfl rfl (fun w _=>bZ (by decide) bS) (ap rfl rfl (bg rfl rfl (ap rfl rfl (bg rfl rfl (cl (S:=Is (I 5)) nE (bu.is _) rfl (fun w hw=>by rintro _ rfl;exact bF.mono (nG (dL.ext (r6.at_ (kr hg6)) hw)) fun v w' h=>⟨h.2▸aM.refl _,h.1.trans (by rw[if_neg (by simp)])⟩) ?_))))))
      refine bg Jg Jg (aR Jg Jg Jg (fun w _=>cf (by decide) bS) (lO Jg Jg Jg (ap Jg Jg (cB Jg Jg Jg (cB Jg Jg Jg (cB Jg Jg Jg ?_))))))
      refine cB Jg Jg Jg (cB Jg Jg Jg (cB Jg Jg Jg (bG ?_)))
      intro wg20 xg20
      rintro _ hq9
      obtain rfl:=Eq.symm hq9
      rintro _ rfl
      rintro _ rfl
      refine aw Jg Jg Jg (ag (ac (bB Jg (af (aa (ab Jg Jg (ab Jg Jg (ag (ac (au (av (aH Jg Jg Jg ?_))))))))))))
      exact⟨_,rfl,(e6.trans xg20),mX (by omega) hU (by omega) (by rw[yJ (hun.trans hz),if_neg (by simp)])⟩
   ·obtain rfl:5=e0:=he0.symm
    refine aa (ae Jg Jg (ai Jg Jg Jg (bZ (by decide) aV) (ae Jg Jg (ao Jg Jg Jg (ao Jg Jg Jg (ao Jg Jg Jg (ao Jg Jg Jg (ao Jg Jg Jg ?_))))))))
    refine aC Jg Jg Jg (ag (ac (cq Jg (aW (aA (aA (aU (ac (af (af (bA 14 [9,119,125] (by kernel_rfl) (by kernel_rfl) ?_)))))))))))
    refine ap Jg Jg (aR Jg Jg Jg (fun w _=>cf (by decide) bS) (ap Jg Jg (cB Jg Jg Jg (cB Jg Jg Jg (cB Jg Jg Jg (rx Jg Jg Jg ?_))))))
    refine ap Jg Jg (cB Jg Jg Jg (cB Jg Jg Jg (cB Jg Jg Jg (cB Jg Jg Jg (cB Jg Jg Jg (cB Jg Jg Jg (bG ?_)))))))
    intro wg20 xg20
    rintro _ hq9
    obtain rfl:=Eq.symm hq9
    rintro _ rfl
    rintro _ rfl
    refine aw Jg Jg Jg (ag (ac (bB Jg (af (aa (ab Jg Jg (ab Jg Jg (ag (ac (au (av (aH Jg Jg Jg ?_))))))))))))
    exact⟨_,rfl,(e6.trans xg20),mX (by omega) hU (by omega) (by unfold vr;rw[hun];rfl)⟩
end Go.Rl
namespace Go.Rl
open Go.RowKit Go.Proofs
theorem yK:az Tryz.prog 142:=⟨_,Tryz.func142,by kernel_rfl,rfl⟩
theorem Fg:az Tryz.prog 143:=⟨_,Tryz.func143,by kernel_rfl,rfl⟩
theorem C1:az Tryz.prog 174:=⟨_,Tryz.func174,by kernel_rfl,rfl⟩
section
variable {P:Program} {w:World}
theorem Gl {t e:TypeId} {n:Nat} (ht:P.underlying t=some (.array n e)) {xs:List Value} {v:Value} (h:Sl 1 xs v w) (hn:n≤xs.length) (h0:0<n):
 ∃ad,(∀w':World,(Instr.arrayAt t v).run P w'=.ok (.pointer (some ad)) w')∧dM w ad (xs.take n):=by
 obtain⟨A,m,c,rfl,hmc,hcm,hl,hc,hnone⟩:=h
 obtain⟨ad,rfl,hcl⟩:=hc (by omega)
 refine⟨ad,fun w'=>?_,hcl.take _⟩
 have:¬m<n:=by omega
 simp[Instr.arrayAt,run_underlying ht,this]
theorem C3 {t:TypeId} {d:TypeDesc} {m:List Value} {ad:Addr} (hu:P.underlying t=some d) (hd:d.isRow=true) (hi:(P.info? t).map (·.size)=some m.length) (h:dM w ad m):
 (Instr.loadAt t (.pointer (some ad))).run P w=.ok (.agg m.toArray) w:=by
 have hagg:(isAgg t).run P w=.ok true w:=by
  unfold isAgg
  simp only[Sem.run_bind,run_underlying hu,Result.andThen_ok]
  cases d<;>first|rfl|simp[TypeDesc.isRow] at hd
 have hl:=run_loadCells_list (P:=P) (w:=w) ad m h
 simp only[Instr.loadAt,Instr.sureAddr,loadVar,Sem.run_bind,Sem.run_pure,Result.andThen_ok,hagg,if_true,dE hi,hl]
end
theorem Bw:(Tryz.prog.info? 221).map (·.zero)=some (some (.agg #[.int .u8 0,.int .u8 0,.int .u8 0,.int .u8 0])):=by kernel_rfl
theorem yL {w:World} {g c i n:Nat} {A:Option Addr} {d:List UInt8} {mv nv:Value} (hb:cd g 158 [.slice A n c,mv,nv] w) (hd:cm d (.slice A n c) w) (hi:i+4≤d.length) (hl:d.length≤1099511627776):
 Calls Tryz.prog 142 #[.pointer (some ⟨g,0,none⟩),I (i:Int)] w (bF fun r w'=>aM w w'∧r=K4 ((d.drop i).take 4)):=by
 refine enter (vs:=[.pointer (some ⟨g,0,none⟩),I (i:Int)]) Tryz.func142 Jg Jg Jg ?_
 refine af (aa ?_)
 obtain⟨g4,w4,hr4,n4,x4,b4⟩:=bf (P:=Tryz.prog) (w:=w) (l:=[.int .u8 0,.int .u8 0,.int .u8 0,.int .u8 0]) Bw rfl
 refine bh Jg hr4 ?_
 refine ag (ac (af (aa (ae Jg Jg (aG Jg Jg (ah Jg Jg (aE (o:=0) I3 Jg (by kernel_rfl) Jg) ?_))))))
 refine am Jg Jg (ak IP Jg (x4.cell_some (hb.cell (i:=0) Jg))) (ae Jg Jg (ae Jg Jg (ai (r:=I ((i+4:Nat):Int)) Jg Jg Jg (by have e:((i+4:Nat):Int)=(i:Int)+4:=(by omega);rw[e];exact aK (by omega) (by omega)) ?_)))
 obtain⟨v12,p12,b12⟩:=p6 (hd.ext x4) (lo:=i) (hi:=i+4) (by omega) (by omega) .i64 .i64
 refine cu Jg Jg Jg Jg Jg (p12 _) ?_
 have e12:(d.take (i+4)).drop i=(d.drop i).take 4:=by rw[List.drop_take,show i+4-i=4 by omega]
 rw[e12] at b12
 have l12:((d.drop i).take 4).length=4:=by rw[List.length_take,List.length_drop];omega
 obtain⟨a13,p13,q13⟩:=Gl (P:=Tryz.prog) Tryz.underlying221 b12 (by simp only[List.length_map,l12];omega) (by omega)
 rw[List.take_of_length_le (by simp only[List.length_map,l12];omega)] at q13
 refine tP Jg Jg (p13 _) (am Jg Jg (C3 Jb Jg (by rw[List.length_map,l12];exact yG) q13) (ar Jg Jg (gW b4 (by rw[List.length_map,l12];rfl) (by rw[List.length_map,l12];exact yG) (kK _)) ?_))
 have b5:=b4.row (((d.drop i).take 4).map U8)
 have x5:=aM.of_new x4 (bo w4 g4 (((d.drop i).take 4).map U8).toArray) n4
 refine ag (ac (au ?_))
 refine ep Jg Jg b5 Jb Jg (by rw[List.length_map,l12];exact yG) ?_
 exact⟨_,rfl,x5,rfl⟩
theorem Fh {w:World} {A:Option Addr} {n c:Nat}:
 Calls Tryz.prog 143 #[.slice A n c] w (bF fun r w'=>aM w w'∧r=.func (.func 174) #[] #[.pointer (some ⟨w.heap.size,0,none⟩)]∧w'=w.alloc (.cells #[.slice A n c] 66)):=by
 refine enter (vs:=[.slice A n c]) Tryz.func143 Jg Jg Jg ?_
 refine af (aa (cY Jg Jg (ov) (ab Jg Jg (ag (ac (af (aa ?_)))))))
 refine nr (us:=[]) (vs:=[.pointer (some ⟨w.heap.size,0,none⟩)]) Jg Jg Jg ?_
 refine ab Jg Jg (ag (ac (au (aF Jg Jg ?_))))
 exact⟨_,rfl,aM.new _ _,rfl,rfl⟩
def th (Kb:Nat→Prop) (W W':World):Prop:=W.heap.size≤W'.heap.size∧∀k,Kb k→W'.heap[k]? =W.heap[k]?
theorem th.trans {Kb:Nat→Prop} {a b c:World} (h:th Kb a b) (k:th Kb b c):th Kb a c:=⟨Nat.le_trans h.1 k.1,fun n hn=>(k.2 n hn).trans (h.2 n hn)⟩
theorem th.refl (Kb:Nat→Prop) (a:World):th Kb a a:=⟨Nat.le_refl _,fun _ _=>rfl⟩
theorem Ai {α:Type} {w:World} {Bs base:Nat} {v:Value} {zs:List Int} {ys:List α} {encs:α→List Value} {Kb:Nat→Prop} (hv:eQ base zs v w) (hc:cd Bs 66 [v] w) (hK1:Kb Bs) (hK2:∀k,v.ownBlock=some k→Kb k)
 (hlen:ys.length=zs.length) (hz:zs.length≤1099511627776) (hy:∀(k:Nat) (h:k<ys.length),encs ys[k]=[I ((zs.length-1-k:Nat):Int),I (zs[zs.length-1-k]'(by omega))]):
 SeqStopsK Fence.wide 1 Tryz.prog 174 #[.pointer (some ⟨Bs,0,none⟩)] (fun x=>(encs x).toArray) (th Kb) (fun xs=>xs=ys) (fun pre=>pre<+:ys) ys.length w:=by
 intro lp J Jx W hW _ _ hY h0
 have hW:aM w W:=hW
 refine callsIn_wide.2 ?_
 refine Calls.mono (R:=bF fun r W'=>(∃xs,xs=ys∧J xs W')∨(∃pre,pre<+:ys∧Jx pre W')) ?_ (fun e W' h=>by obtain⟨r,rfl,h⟩:=h;exact⟨⟨r,rfl⟩,h⟩)
 have hv:=hv.ext hW
 have hc:=hc.ext hW
 have ea:(#[.func (.yield lp) #[] #[]]:Array Value)++ #[.pointer (some ⟨Bs,0,none⟩)]=[.func (.yield lp) #[] #[],.pointer (some ⟨Bs,0,none⟩)].toArray:=by simp
 rw[ea]
 refine enter Tryz.func174 Jg Jg Jg ?_
 refine af (aa (am Jg Jg (ak Ja Jg (hc.cell (i:=0) Jg)) (aP Jg Jg (He hv.its) (ai Jg Jg Jg (bb (by omega) (by omega)) ?_))))
 refine ab Jg Jg (ag (ac (ax ?_)))
 refine bV (α:=Int) (fun x=>[(0,.func (.yield lp) #[] #[]),(1,.pointer (some ⟨Bs,0,none⟩)),(3,I x)]) (fun x W'=>∃k:Nat,k≤ys.length∧x=(zs.length:Int)-1-(k:Int)∧J (ys.take k) W'∧th Kb W W') (fun x=>(x+1).toNat) ((zs.length:Int)-1) ⟨rfl,rfl,rfl,trivial⟩ ⟨0,Nat.zero_le _,by omega,by simpa using h0,th.refl _ _⟩ ?_
 rintro x w1 ⟨k,hk,hx,hJ,hKp⟩
 refine af (af (aa (ae Jg Jg (ai Jg Jg Jg ir (ag (ac ?_))))))
 refine bi Jg (fun h8=>?_) (fun h8=>?_)
 ·have hkl:k<ys.length:=by omega
  obtain⟨j,rfl⟩:∃j:Nat,x=(j:Int):=⟨x.toNat,by omega⟩
  have hj:j=zs.length-1-k:=by omega
  have hv1:eQ base zs v w1:=hv.same fun n hn=>hKp.2 n (hK2 n hn)
  have hc1:cd Bs 66 [v] w1:=(hKp.2 Bs hK1).trans hc
  refine aq (ac (af (ax (af (DJ (FT 6 ?_))))))
  refine ae Jg Jg (ae Jg Jg (am Jg Jg (ak Ja Jg (hc1.cell (i:=0) Jg)) (ae Jg Jg ?_)))
  obtain⟨a15,p15,q15⟩:=H7 hv1.its (i:=j) (by omega) .i64
  refine aB Jg Jg Jg (p15 _) (am Jg Jg (ak IM Jg q15) (ag (n_y ?_)))
  have hx:=hY (ys.take k) ys[k] w1 hJ (by rw[List.length_take];omega)
  simp only[hy k hkl] at hx
  have hz:zs[zs.length-1-k]'(by omega)=zs[j]'(by omega):=by simp only[hj]
  rw[hz,←hj] at hx
  refine FU Jg Jg Jg hx ?_
  rintro e w3 (⟨rfl,hJ3,hK3⟩|⟨rfl,hJx3⟩)
  ·refine⟨_,rfl,DK (ci Jg Jg cj (ag (ac (cq Jg (aq (aJ (ac (aa (ae Jg Jg (ai Jg Jg Jg (bb (by omega) (by omega)) (ab Jg Jg (ag ?_))))))))))))⟩
   refine bM ((j:Int)-1) ⟨rfl,rfl,rfl,trivial⟩ ⟨k+1,by omega,by omega,?_,hKp.trans hK3⟩ (by omega)
   rw[List.take_succ_eq_append_getElem hkl];exact hJ3
  ·refine⟨_,rfl,DK (ci Jg Jg cj (ag (ac (bB Jg (au (bc (av (av (bc (u6 Jg ?_))))))))))⟩
   exact⟨_,rfl,.inr ⟨_,⟨ys.drop (k+1),by rw[←List.take_succ_eq_append_getElem hkl,List.take_append_drop]⟩,hJx3⟩⟩
 ·refine aW (aA (aA (aU (gH Jg ?_))))
  have hkl:k=ys.length:=by omega
  exact⟨_,rfl,.inl ⟨_,rfl,by rw[hkl,List.take_length] at hJ;exact hJ⟩⟩
end Go.Rl
namespace Go.Rl
open Go.RowKit Go.Proofs
theorem Aj:az Tryz.prog 103:=⟨_,Tryz.func103,by kernel_rfl,rfl⟩
section
variable {P:Program} {w w':World}
theorem Fi {t:TypeId} {v:Value} (h:v.cells=[v].toArray):∃g w',(Instr.box t v).run P w=.ok (.pointer (some ⟨g,0,none⟩)) w'∧w.heap.size≤g∧aM w w'∧cd g t [v] w':=
 ⟨_,_,ov,Nat.le_refl _,aM.new w _,cd.new v h⟩
theorem jX {t T:TypeId} {g:Nat} {u v:Value} (hs:(P.info? t).map (·.size)=some 1) (hv:v.oneCell'=true) (h:cd g T [u] w):
 ∃w',(Instr.storeAt t (.pointer (some ⟨g,0,none⟩)) v).run P w=.ok () w'∧w.grownBy w' (some g)∧cd g T [v] w':=
 ⟨_,dm (i:=0) hs hv h (by simp),aY w g 0 v,h.set 0 v⟩
end
theorem yM:(Tryz.prog.info? 3).map (·.zero)=some (some (.int .i64 0)):=by kernel_rfl
theorem Ak {d:List UInt8} {x y:Nat} (hx:x<d.length) (hy:y<d.length):jY (d.drop x) (d.drop y)=if d[x]=d[y] then jY (d.drop (x+1)) (d.drop (y+1))+1 else 0:=by
 rw[List.drop_eq_getElem_cons hx,List.drop_eq_getElem_cons hy,jY]
theorem Bx {d:List UInt8} {x y:Nat} (hx:d.length≤x):jY (d.drop x) (d.drop y)=0:=by
 rw[List.drop_of_length_le hx];cases d.drop y<;>rfl
theorem cd.c0 {w:World} {g:Nat} {T:TypeId} {v:Value} {l:List Value} (h:cd g T (v::l) w):w.cell? ⟨g,0,none⟩=some v:=h.cell (i:=0) rfl
def Gm (b:Nat) (T:TypeId) (l:List Value):dx:=fun v w=>∃g,v=.pointer (some ⟨g,0,none⟩)∧b≤g∧cd g T l w
theorem Gm.stable (b:Nat) (T:TypeId) (l:List Value):bu (Gm b T l):=fun _ _ _ ⟨g,h1,h2,h3⟩ hx=>⟨g,h1,h2,h3.ext hx⟩
theorem HK {w:World} {g:Nat} {T:TypeId} {l:List Value} {q:List UInt8} (h:cd g T l w) (hl:l.length=4) (hq:q.length=4):
 ∃w',(Instr.storeAt 221 (.pointer (some ⟨g,0,none⟩)) (K4 q)).run Tryz.prog w=.ok () w'∧w.grownBy w' (some g)∧cd g T (q.map U8) w':=
 ⟨_,gW h (by rw[List.length_map,hl,hq]) (by rw[List.length_map,hq];exact yG) (kK q),bo w g _,h.row _⟩
structure Al (wb:World) (d:List UInt8) (g m nx:Nat) (Y:Nat→Prop) (w:World):Prop where
 ext:aM wb w
 low:∀k,(k=g∨k=m∨Y k)→wb.heap.size≤k∧k<w.heap.size
 ng:¬Y g
 nm:¬Y m
 gm:g≠m
 blk:∃A n c,cd g 158 [.slice A n c,.map (some m),I (nx:Int)] w∧cm d (.slice A n c) wb
 map:gD wb.heap.size d m nx Y w
def ky (g m:Nat) (Y:Nat→Prop):Nat→Prop:=fun k=>k=g∨k=m∨Y k
section
variable {wb w w':World} {d:List UInt8} {g m nx:Nat} {Y:Nat→Prop}
theorem Al.mv {X:Nat→Prop} (h:Al wb d g m nx Y w) (hx:Mv X w w') (hX:∀k,ky g m Y k→¬X k) (hb:∀k,X k→wb.heap.size≤k):Al wb d g m nx Y w':=
 ⟨hx.ext_from h.ext hb,fun k hk=>⟨(h.low k hk).1,Nat.lt_of_lt_of_le (h.low k hk).2 hx.size⟩,h.ng,h.nm,h.gm,by
  obtain⟨A,n,c,h1,h2⟩:=h.blk
  exact⟨A,n,c,hx.blk h1 (hX g (.inl rfl)),h2⟩,h.map.same (hx.keep m h.map.lt (hX m (.inr (.inl rfl)))) fun k hk hl=>hx.keep k hl (hX k (.inr (.inr hk)))⟩
theorem Al.xt (h:Al wb d g m nx Y w) (hx:aM w w'):Al wb d g m nx Y w':=h.mv (X:=fun _=>False) (Mv.of_ext hx) (fun _ _=>id) (fun _ hk=>hk.elim)
end
theorem gD.ne_row {base b:Nat} {d:List UInt8} {m n:Nat} {Y:Nat→Prop} {w:World} (h:gD base d m n Y w) {l:List Int} {v:Value} (hv:eQ b l v w):v.ownBlock≠some m:=fun hk=>by
 obtain⟨es,clock,h⟩:=h
 obtain⟨cs,f,hc⟩:=hv.cells hk
 rw[h.at_] at hc
 cases hc
theorem Al.step {wb w:World} {d:List UInt8} {g m x n c:Nat} {A:Option Addr} {Y:Nat→Prop} (h:Al wb d g m x Y w) (hx:x+4≤d.length) (hb:cd g 158 [.slice A n c,.map (some m),I (x:Int)] w) (hd:cm d (.slice A n c) wb):
 ∃v born w1,(Instr.mapEntry 156 (.map (some m)) (K4 ((d.drop x).take 4))).run Tryz.prog w=.ok (.tuple #[v,I (born:Nat)]) w1∧w.grownBy w1 (some m)∧eQ wb.heap.size (i7 d ((d.drop x).take 4) x) v w1∧
 ∀v' w2,gJ w1 w2 v v'→eQ wb.heap.size (i7 d ((d.drop x).take 4) x++[(x:Int)]) v' w2→∃w3,(Instr.entryStore 156 (.map (some m)) (I (born:Nat)) v').run Tryz.prog w2=.ok () w3∧Mv (fun k=>k=m∨Y k) w w3∧cd g 158 [.slice A n c,.map (some m),I (x:Int)] w3∧
  ∀w4,w3.grownBy w4 (some g)→cd g 158 [.slice A n c,.map (some m),I ((x+1:Nat):Int)] w4→∃Y',Al wb d g m (x+1) Y' w4∧Mv (ky g m Y) w w4∧∀k,Y' k→Y k∨w.heap.size≤k:=by
 obtain⟨v,born,w1,r1,g1,o1,hY,nm,fin⟩:=h.map.step hx
 refine⟨v,born,w1,r1,g1,o1,fun v' w2 gr hv=>?_⟩
 obtain⟨w3,r3,g3,m3⟩:=fin v' w2 gr hv
 have mv3:Mv (fun k=>k=m∨Y k) w w3:=
  ((Mv.of_grown (X:=fun k=>k=m∨Y k) g1 (fun k e _=>.inl (Option.some.inj e).symm)).trans (Mv.of_grown (X:=fun k=>k=m∨Y k) gr.grown (fun k e _=>.inr (hY k e))) (fun _ hn _=>hn)).trans (Mv.of_grown (X:=fun k=>k=m∨Y k) g3 (fun k e _=>.inl (Option.some.inj e).symm)) (fun _ hn _=>hn)
 have hbg:=mv3.blk hb (fun hk=>hk.elim h.gm h.ng)
 refine⟨w3,r3,mv3,hbg,fun w4 g4 hb4=>?_⟩
 have mv4:Mv (ky g m Y) w w4:=(mv3.weak (Y:=ky g m Y) (fun k hk _=>.inr hk)).trans (Mv.of_grown (X:=ky g m Y) g4 (fun k e _=>.inl (Option.some.inj e).symm)) (fun _ hn _=>hn)
 have hv':∀k,v'.ownBlock=some k→Y k∨w.heap.size≤k:=fun k hk=>by
  rcases gr.own with e|e
  ·exact .inl (hY k (e▸hk))
  ·exact .inr (Nat.le_trans g1.size (e k hk))
 refine⟨fun k=>Y k∨v'.ownBlock=some k,⟨mv4.ext_from h.ext (fun k hk=>(h.low k hk).1),?_,?_,?_,h.gm,⟨A,n,c,hb4,hd⟩,?_⟩,mv4,fun k hk=>hk.elim .inl (hv' k)⟩
 ·rintro k (hk|hk|hk|hk)
  ·exact⟨(h.low k (.inl hk)).1,Nat.lt_of_lt_of_le (h.low k (.inl hk)).2 mv4.size⟩
  ·exact⟨(h.low k (.inr (.inl hk))).1,Nat.lt_of_lt_of_le (h.low k (.inr (.inl hk))).2 mv4.size⟩
  ·exact⟨(h.low k (.inr (.inr hk))).1,Nat.lt_of_lt_of_le (h.low k (.inr (.inr hk))).2 mv4.size⟩
  ·have:=hv.lt k hk
   exact⟨this.1,Nat.lt_of_lt_of_le this.2 (Nat.le_trans g3.size g4.size)⟩
 ·rintro(hk|hk)
  ·exact h.ng hk
  ·rcases hv' g hk with hk|hk
   ·exact h.ng hk
   ·have:=(h.low g (.inl rfl)).2;omega
 ·rintro(hk|hk)
  ·exact h.nm hk
  ·rcases hv' m hk with hk|hk
   ·exact h.nm hk
   ·have:=(h.low m (.inr (.inl rfl))).2;omega
 ·refine m3.same (g4.block m m3.lt (fun e=>h.gm (Option.some.inj e).symm)) (fun k hk hl=>g4.block k hl (fun e=>?_))
  obtain rfl:=Option.some.inj e
  rcases hk with hk|hk
  ·exact h.ng hk
  ·rcases hv' k hk with hk|hk
   ·exact h.ng hk
   ·have:=(h.low k (.inl rfl)).2;omega
abbrev Pl (d:List UInt8) (i:Nat):Type:={p:Nat×Nat//p.2<i∧(d.drop p.2).take 4=(d.drop i).take 4}
def Pl.enc {d:List UInt8} {i:Nat} (x:Pl d i):List Value:=[I (x.1.1:Int),I (x.1.2:Int)]
def C6 (d:List UInt8) (i:Nat):List (Pl d i):=List.ofFn fun k:Fin (pos d ((d.drop i).take 4) i).length=>
 ⟨((pos d ((d.drop i).take 4) i).length-1-k.1,(pos d ((d.drop i).take 4) i)[(pos d ((d.drop i).take 4) i).length-1-k.1]'(by have:=k.2;omega)),Bt.1 (List.getElem_mem _)⟩
theorem wG (d:List UInt8) (i:Nat):(C6 d i).length=(pos d ((d.drop i).take 4) i).length:=by simp[C6]
theorem By (d:List UInt8) (i:Nat):(C6 d i).map (·.1.2)=(pos d ((d.drop i).take 4) i).reverse:=by
 apply List.ext_getElem
 ·simp[wG]
 ·intro k h1 h2
  simp[C6,List.getElem_reverse]
theorem Gn (d:List UInt8) (i k:Nat) (h:k<(C6 d i).length):(C6 d i)[k].enc=[I (((i7 d ((d.drop i).take 4) i).length-1-k:Nat):Int),I ((i7 d ((d.drop i).take 4) i)[(i7 d ((d.drop i).take 4) i).length-1-k]'(by rw[wG] at h;simp only[i7,List.length_map];omega))]:=by
 simp[C6,Pl.enc,i7]
def tM (d:List UInt8) (i:Nat) (l:List (Pl d i)):Nat×Nat:=(l.map (·.1.2)).foldl (EZ d i) (0,0)
theorem o0 (d:List UInt8) (i:Nat) (l:List (Pl d i)) (x:Pl d i):tM d i (l++[x])=EZ d i (tM d i l) x.1.2:=by
 unfold tM
 rw[List.map_append,List.foldl_append];rfl
theorem lr (d:List UInt8) (i:Nat):((C6 d i).map (·.1.2)).Pairwise (fun a b=>b<a):=by
 rw[By,List.pairwise_reverse]
 exact Ae _ _ _
theorem wH (d:List UInt8) (i p:Nat):p∈(C6 d i).map (·.1.2)↔p<i∧(d.drop p).take 4=(d.drop i).take 4:=by
 rw[By,List.mem_reverse,Bt]
theorem Am {d:List UInt8} {i:Nat} (h:d.length<i+4):cV d i=(0,0):=by
 rcases Nat.eq_zero_or_pos (cV d i).1 with h0|h0
 ·rcases Ab d i (min i 4096) with e|e
  ·exact e
  ·unfold cV at h0;omega
 ·have:=lq (d:=d) (i:=i) (by omega)
  omega
structure oc (wl:World) (g7 g8:Nat) (s:Nat×Nat) (W:World):Prop where
 c7:cd g7 3 [I (s.1:Int)] W
 c8:cd g8 3 [I (s.2:Int)] W
 mv:Mv (fun k=>k=g7∨k=g8) wl W
section
variable {wl W W':World} {g7 g8:Nat} {s:Nat×Nat}
theorem oc.own (h:oc wl g7 g8 s W) (h7:g7<wl.heap.size) (h8:g8<wl.heap.size) {row:Option Nat} (hg:W.grownBy W' row) (hr:∀r,row=some r→wl.heap.size≤r):oc wl g7 g8 s W':=
 ⟨h.c7.other hg (fun e=>by have:=hr g7 e.symm;omega),h.c8.other hg (fun e=>by have:=hr g8 e.symm;omega),h.mv.trans (Mv.of_grown (X:=fun k=>wl.heap.size≤k) hg (fun k hk _=>hr k hk)) (fun n hn hl=>by omega)⟩
theorem oc.xt (h:oc wl g7 g8 s W) (hx:aM W W'):oc wl g7 g8 s W':=⟨h.c7.ext hx,h.c8.ext hx,h.mv.trans (Mv.of_ext (X:=fun _=>False) hx) (fun _ hn _=>hn.elim)⟩
end
theorem oc.keeps {wl W W':World} {g7 g8:Nat} (h:Mv (fun k=>k=g7∨k=g8) W W') (h7:g7<wl.heap.size) (h8:g8<wl.heap.size):KeepsFrom wl.heap.size W W':=
 ⟨h.size,fun k o hk ho _=>(h.keep k (Array.getElem?_eq_some_iff.1 ho).1 (fun e=>by omega)).trans ho⟩
theorem oc.keep {wl W W':World} {g7 g8:Nat} (h:Mv (fun k=>k=g7∨k=g8) W W') (hl:wl.heap.size≤W.heap.size):th (fun k=>k<wl.heap.size∧k≠g7∧k≠g8) W W':=
 ⟨h.size,fun k hk=>h.keep k (Nat.lt_of_lt_of_le hk.1 hl) (fun e=>e.elim hk.2.1 hk.2.2)⟩
theorem An {wb w:World} {d:List UInt8} {g m nx i:Nat} {Y:Nat→Prop} (h:Al wb d g m nx Y w) (hni:nx≤i) (hi:i≤d.length) (hl:d.length≤1099511627776):
 Calls Tryz.prog 103 #[.pointer (some ⟨g,0,none⟩),I (i:Int)] w (bF fun r w'=>r=.tuple #[I ((cV d i).1:Int),I ((cV d i).2:Int)]∧∃nx' Y',nx'≤i∧Al wb d g m nx' Y' w'∧Mv (ky g m Y) w w'∧∀k,Y' k→Y k∨w.heap.size≤k):=by
 refine Hc (vs:=[.pointer (some ⟨g,0,none⟩),I (i:Int)]) Tryz.func103 Jg Jg Jg ?_
 obtain⟨A,n,c,k0,hd⟩:=h.blk
 have hf:∀k,ky g m Y k→k<w.heap.size:=fun k hk=>(h.low k hk).2
 have hw0:=h.ext.size
 refine af (aa ?_)
 obtain⟨g2,w2,hr2,l2,x2,k2⟩:=Fi (P:=Tryz.prog) (w:=w) (t:=155) (v:=.pointer (some ⟨g,0,none⟩)) rfl
 refine cY Jg Jg hr2 ?_
 obtain⟨g3,w3,hr3,l3,x3,k3⟩:=Fi (P:=Tryz.prog) (w:=w2) (t:=3) (v:=I (i:Int)) rfl
 refine cY Jg Jg hr3 ?_
 have h3:=h.xt (x2.trans x3)
 have x3':=(x2.trans x3)
 have hg2:w.heap.size≤g2:=l2
 have hg3:w.heap.size≤g3:=Nat.le_trans x2.size l3
 have k2:=k2.ext x3
 have b2:=k2.lt
 have b3:=k3.lt
 have nf2:¬ky g m Y g2:=fun hk=>by have:=hf _ hk;omega
 have nf3:¬ky g m Y g3:=fun hk=>by have:=hf _ hk;omega
 refine ab Jg Jg (ab Jg Jg (ag (ac (af (af ?_)))))
 have k1:=k0.ext (x2.trans x3)
 have hd1:=hd.ext h3.ext
 refine bA 7 [2,3,13,18] (by kernel_rfl) (by kernel_rfl) ?_
 refine aD Jg Jg (fun w hw=>ak IM Jg (hw.cell_some k3.c0)) (aR (r:=I ((i+4:Nat):Int)) Jg Jg Jg (fun w _=>by have e:((i+4:Nat):Int)=(i:Int)+4:=(by omega);rw[e];exact aK (by omega) (by omega)) ?_)
 refine aD Jg Jg (fun w hw=>ak I4 Jg (hw.cell_some k2.c0)) (bQ Jg Jg (aL Jg Jg (fun w hw=>aE (o:=0) I3 Jg (by kernel_rfl) Jg) ?_))
 refine aD Jg Jg (fun w hw=>ak IP Jg (hw.cell_some (k1.cell (i:=0) Jg))) (lI (vs:=[.slice A n c]) Jg Jg (fun w hw=>bz (hd1.ext hw)) ?_)
 refine bG ?_
 intro wg1 xg1
 rintro _ rfl
 rintro _ rfl
 rintro _ rfl
 rintro _ rfl
 refine ai Jg Jg Jg (ce) (ag (ac ?_))
 refine bi Jg (fun h19=>?_) (fun h19=>?_)
 ·refine af (aa (ab Jg Jg (ab Jg Jg (ag (ac (au (av (Fsz Jg Jg Jg ?_))))))))
  exact⟨_,rfl,by rw[Am (by omega)];rfl,nx,Y,hni,h3.xt xg1,Mv.of_ext ((x2.trans x3).trans xg1),fun k hk=>.inl hk⟩
 ·refine aq (ac (af (ax ?_)))
  refine bV (α:=Nat) (fun x=>[(2,.pointer (some ⟨g2,0,none⟩)),(3,.pointer (some ⟨g3,0,none⟩))]) (fun x w'=>x≤i∧∃Y',Al wb d g m x Y' w'∧Mv (ky g m Y) w3 w'∧∀k,Y' k→Y k∨w3.heap.size≤k) (fun x=>i-x) (nx) ⟨rfl,rfl,trivial⟩ ⟨hni,Y,h3.xt xg1,Mv.of_ext xg1,fun k hk=>.inl hk⟩ ?_
  rintro x w4 ⟨hx2,Y',h4,mv4,hY4⟩
  refine af (af ?_)
  obtain⟨A,n,c,k1,hd⟩:=h4.blk
  have k2:=mv4.blk k2 nf2
  have k3:=mv4.blk k3 nf3
  have hd1:=hd.ext h4.ext
  refine bA 5 [2,3,23,24] (by kernel_rfl) (by kernel_rfl) ?_
  refine aD Jg Jg (fun w hw=>ak I4 Jg (hw.cell_some k2.c0)) (bQ Jg Jg (aL Jg Jg (fun w hw=>aE (o:=2) I3 Jg (by kernel_rfl) Jg) ?_))
  refine aD Jg Jg (fun w hw=>ak IM Jg (hw.cell_some (k1.cell (i:=2) Jg))) (aD Jg Jg (fun w hw=>ak IM Jg (hw.cell_some k3.c0)) ?_)
  refine bG ?_
  intro wg3 xg3
  rintro _ rfl
  rintro _ rfl
  rintro _ rfl
  rintro _ rfl
  refine ai Jg Jg Jg (aX) (ag (ac ?_))
  refine bi Jg (fun h25=>?_) (fun h25=>?_)
  ·have hlt:x<i:=by omega
   have hq4:((d.drop x).take 4).length=4:=by rw[List.length_take,List.length_drop];omega
   refine aq (ac (af (ax (af (bA 7 [2,3,6,38] (by kernel_rfl) (by kernel_rfl) ?_)))))
   refine aD Jg Jg (fun w hw=>ak I4 Jg (hw.cell_some (xg3.cell_some k2.c0))) (aD Jg Jg (fun w hw=>ak I4 Jg (hw.cell_some (xg3.cell_some k2.c0))) ?_)
   refine bQ Jg Jg (aL Jg Jg (fun w hw=>aE (o:=2) I3 Jg (by kernel_rfl) Jg) (aD Jg Jg (fun w hw=>ak IM Jg (hw.cell_some (xg3.cell_some (k1.cell (i:=2) Jg)))) ?_))
   refine cl (S:=Is (K4 ((d.drop x).take 4))) yK (bu.is _) rfl (fun w hw=>by rintro _ rfl _ rfl;exact bF.mono (yL (k1.ext (aM.trans xg3 hw)) (hd1.ext (aM.trans xg3 hw)) (by omega) hl) fun v w' h=>h) ?_
   refine u9 (S:=Gm wg3.heap.size 221 [.int .u8 0,.int .u8 0,.int .u8 0,.int .u8 0]) (Gm.stable _ _ _) rfl (fun w' hw=>by obtain⟨g6,w2,h1,h2,h3,h4⟩:=bf (P:=Tryz.prog) (w:=w') (l:=[.int .u8 0,.int .u8 0,.int .u8 0,.int .u8 0]) Bw rfl;exact⟨_,w2,h1,h3,g6,rfl,Nat.le_trans hw.size h2,h4⟩) ?_
   refine bG ?_
   intro wg5 xg5
   rintro _ rfl
   rintro _ rfl
   intro vg6 q6
   rintro _ rfl
   obtain⟨g6,rfl,l6,b6⟩:=q6
   obtain⟨w5,r5,gr5,b5⟩:=HK b6 rfl hq4
   refine ar Jg Jg (r5) ?_
   have x5:=aM.of_new (w:=w4) (xg3.trans xg5) gr5 (Nat.le_trans xg3.size l6)
   refine ag (ac (Gc 10 [10,11,13,12,14] [2,3,42,43,49] (by kernel_rfl) (by kernel_rfl) Jg ?_))
   refine aD Jg Jg (fun w hw=>ak I4 Jg (hw.cell_some (x5.cell_some k2.c0))) (bQ Jg Jg (aL Jg Jg (fun w hw=>aE (o:=1) I3 Jg (by kernel_rfl) Jg) ?_))
   refine aD Jg Jg (fun w hw=>ak Tryz.underlying156 Jg (hw.cell_some (x5.cell_some (k1.cell (i:=1) Jg)))) (aD Jg Jg (fun w hw=>lJ (o:=0) (m:=((d.drop x).take 4).map U8) (b5.ext hw) (fun _ _ h=>by simpa using h) Tryz.underlying221 Jg (by rw[List.length_map,hq4];exact yG)) ?_)
   refine aD Jg Jg (fun w hw=>ak I4 Jg (hw.cell_some (x5.cell_some k2.c0))) (bQ Jg Jg (aL Jg Jg (fun w hw=>aE (o:=2) I3 Jg (by kernel_rfl) Jg) ?_))
   refine aD rfl rfl (fun w hw=>ak Tryz.underlying3 rfl (hw.cell_some (x5.cell_some (k1.cell (i:=2) rfl)))) (fL (S:=eQ wb.heap.size [(x:Int)]) (eQ.stable _ _) rfl (fun w' hw=>by rintro _ rfl;obtain⟨r,w2,h1,h2,h3,_⟩:=AU (w:=w') wb.heap.size [(x:Int)] (by simp) (Nat.le_trans h4.ext.size (Nat.le_trans x5.size hw.size));exact⟨r,w2,h1,h2,h3⟩) ?_)
   refine bG ?_
   intro wg6 xg6
   rintro _ rfl
   rintro _ rfl
   rintro _ rfl
   rintro _ rfl
   intro vg49 b49
   have h6:=h4.xt (x5.trans xg6)
   obtain⟨v50,q50,w50,r50,g50,o50,fin⟩:=h6.step (by omega) (k1.ext (x5.trans xg6)) hd
   refine zl Jg Jg Jg r50 ?_
   refine aj Jg Jg (aS) (aj Jg Jg (aT) ?_)
   obtain⟨v51,w51,r51,o51,gr51⟩:=Hd (ty:=66) o50 (b49.kept g50 (.inr (h6.map.ne_row b49))).its (by have:=Bu d ((d.drop x).take 4) x;simp only[i7,List.length_map,List.length_cons,List.length_nil];omega) (Nat.le_trans h6.ext.size g50.size)
   refine be Jg Jg r51 ?_
   obtain⟨w6,r6,mv6,k6,fin⟩:=fin v51 w51 gr51 o51
   refine vq Jg Jg Jg r6 ?_
   have sz4:w3.heap.size≤wg6.heap.size:=Nat.le_trans mv4.size (Nat.le_trans x5.size xg6.size)
   have nX:∀k,w.heap.size≤k→k<w3.heap.size→¬(k=m∨Y' k):=fun k h1 h2 hk=>by
    rcases hk with hk|hk
    ·have:=hf m (.inr (.inl rfl));omega
    ·rcases hY4 k hk with h|h
     ·have:=hf k (.inr (.inr h));omega
     ·omega
   have k26:=mv6.blk (k2.ext (aM.trans x5 xg6)) (nX g2 hg2 b2)
   refine ag (vU (aJ (ac (aa (am Jg Jg (ak I4 Jg k26.c0) (aG Jg Jg (ah Jg Jg (aE (o:=2) I3 Jg (by kernel_rfl) Jg) ?_)))))))
   refine am Jg Jg (ak IM Jg (k6.cell (i:=2) Jg)) (ai (r:=I ((x+1:Nat):Int)) Jg Jg Jg (by have e:((x+1:Nat):Int)=(x:Int)+1:=(by omega);rw[e];exact aK (by omega) (by omega)) ?_)
   refine aG Jg Jg (ah Jg Jg (aE (o:=2) I3 Jg (by kernel_rfl) Jg) ?_)
   obtain⟨w7,r7,gr7,k7⟩:∃w7,(Instr.storeAt 3 (.pointer (some ⟨g,2,none⟩)) (I ((x+1:Nat):Int))).run Tryz.prog w6=.ok () w7∧w6.grownBy w7 (some g)∧cd g 158 [.slice A n c,.map (some m),I ((x+1:Nat):Int)] w7:=⟨_,dm (i:=2) dz rfl k6 (by simp),aY _ _ _ _,k6.set 2 _⟩
   obtain⟨Y7,h7,mv7,hY7⟩:=fin w7 gr7 k7
   refine ar Jg Jg (r7) (ag ?_)
   have mv7':Mv (ky g m Y) w3 w7:=(mv4.trans (Mv.of_ext (X:=fun _=>False) (aM.trans x5 xg6)) (fun _ hn _=>hn.elim)).trans mv7 (fun k hk hl=>by
    rcases hk with hk|hk|hk
    ·exact .inl hk
    ·exact .inr (.inl hk)
    ·rcases hY4 k hk with h|h
     ·exact .inr (.inr h)
     ·omega)
   have hY7':∀k,Y7 k→Y k∨w3.heap.size≤k:=fun k hk=>by
    rcases hY7 k hk with h|h
    ·exact hY4 k h
    ·exact .inr (by omega)
   refine bM (x+1) ⟨rfl,rfl,trivial⟩ ⟨by omega,Y7,h7,mv7',hY7'⟩ (by omega)
  ·have hxi:i=x:=by omega
   subst hxi
   have hi4:i+4≤d.length:=by omega
   have hq4:((d.drop i).take 4).length=4:=by rw[List.length_take,List.length_drop];omega
   refine aW (aA (aA (aU (ac (af (aa ?_))))))
   obtain⟨g7,w7,hr7,l7,x7,k7⟩:=bf (P:=Tryz.prog) (w:=wg3) (l:=[I 0]) yM rfl
   refine bh Jg hr7 ?_
   obtain⟨g8,w8,hr8,l8,x8,k8⟩:=bf (P:=Tryz.prog) (w:=w7) (l:=[I 0]) yM rfl
   refine bh Jg hr8 ?_
   have hg7:w3.heap.size≤g7:=Nat.le_trans mv4.size (Nat.le_trans xg3.size l7)
   have hg8:w3.heap.size≤g8:=Nat.le_trans mv4.size (Nat.le_trans xg3.size (Nat.le_trans x7.size l8))
   have h78:g7≠g8:=by have:=k7.lt;omega
   have kk7:=k7.ext x8
   obtain⟨w71,r71,gr71,k71⟩:=jX (P:=Tryz.prog) (t:=3) (v:=I 0) dz rfl kk7
   refine ar Jg Jg (r71) ?_
   have x71:=aM.of_new (w:=w4) ((xg3.trans x7).trans x8) gr71 (Nat.le_trans xg3.size l7)
   have kk8:=k8.other gr71 (fun e=>h78 (Option.some.inj e).symm)
   obtain⟨w72,r72,gr72,k72⟩:=jX (P:=Tryz.prog) (t:=3) (v:=I 0) dz rfl kk8
   refine ar Jg Jg (r72) ?_
   have x72:=aM.of_new (w:=w4) x71 gr72 (Nat.le_trans xg3.size (Nat.le_trans x7.size l8))
   have k73:=k71.other gr72 (fun e=>h78 (Option.some.inj e))
   refine ag (ac (af (af (bA 8 [2,3,7,8,60] (by kernel_rfl) (by kernel_rfl) ?_))))
   refine aD Jg Jg (fun w hw=>ak I4 Jg (hw.cell_some (x72.cell_some k2.c0))) (bQ Jg Jg (aL Jg Jg (fun w hw=>aE (o:=1) I3 Jg (by kernel_rfl) Jg) ?_))
   refine aD Jg Jg (fun w hw=>ak Je Jg (hw.cell_some (x72.cell_some (k1.cell (i:=1) Jg)))) (aD Jg Jg (fun w hw=>ak I4 Jg (hw.cell_some (x72.cell_some k2.c0))) ?_)
   refine aD rfl rfl (fun w hw=>ak IM rfl (hw.cell_some (x72.cell_some k3.c0))) (cl (S:=Is (K4 ((d.drop i).take 4))) yK (bu.is _) rfl (fun w hw=>by rintro _ rfl _ rfl;exact bF.mono (yL (k1.ext (aM.trans x72 hw)) (hd1.ext (aM.trans x72 hw)) (by omega) hl) fun v w' h=>h) ?_)
   refine BS (S:=Is (.map (some m))) (R:=Is (K4 ((d.drop i).take 4))) (S':=fun v w=>eQ wb.heap.size (i7 d ((d.drop i).take 4) i) v w∧∀k,v.ownBlock=some k→Y' k) rfl rfl (fun _ _ _ h hx=>⟨h.1.ext hx,h.2⟩) rfl (fun w u v hw hu hv=>by subst hu;subst hv;exact((h4.map.ext (aM.trans x72 hw)).look hq4).elim fun r h=>⟨r,h.1,h.2⟩) ?_
   refine bG ?_
   intro wg8 xg8
   rintro _ rfl
   rintro _ rfl
   rintro _ rfl
   rintro _ rfl
   intro vg60 q60
   obtain⟨o60,hY60⟩:=q60
   obtain⟨A6,n6,c6,rfl⟩:=o60.isSlice
   refine an Fg Jg Jg (Fh) ?_
   rintro v61 w61 ⟨x61,rfl,hw61⟩
   refine ag (ac (ax ?_))
   have bs:cd wg8.heap.size 66 [.slice A6 n6 c6] w61:=by rw[hw61];exact heap_alloc_new _ _
   have f7:=k73.ext (xg8.trans x61)
   have f8:=k72.ext (xg8.trans x61)
   have l7':g7<w61.heap.size:=f7.lt
   have l8':g8<w61.heap.size:=f8.lt
   have xl:=((x72.trans xg8).trans x61)
   have szl:w3.heap.size≤w61.heap.size:=Nat.le_trans mv4.size xl.size
   have hpl:=wG d i
   have hnY:∀k,Y' k→k≠g7∧k≠g8:=fun k hk=>by have:=(h4.low k (.inr (.inr hk))).2;have:=xg3.size;have:=x7.size;omega
   have hR0:oc w61 g7 g8 (tM d i []) w61:=⟨f7,f8,Mv.refl _ _⟩
   refine xj (α:=Pl d i) (encs:=Pl.enc) (Kp:=th fun k=>k<w61.heap.size∧k≠g7∧k≠g8) (S:=fun xs=>xs=C6 d i) (Sp:=fun pre=>pre<+:C6 d i) (M:=(C6 d i).length) (w0:=w61) Jg C1 (Ai (o60.ext x61) bs ⟨bs.lt,by have:=xg8.size;have:=kk7.lt;have:=gr71.size;have:=gr72.size;omega,by have:=xg8.size;have:=kk8.lt;have:=gr72.size;omega⟩ (fun k hk=>⟨((o60.ext x61).lt k hk).2,hnY k (hY60 k hk)⟩) (by simp only[hpl,i7,List.length_map]) (by have:=Bu d ((d.drop i).take 4) i;simp only[i7,List.length_map];omega) (Gn d i)) (fun h k=>h.trans k) ?_ (Below.refl _ _) (fun _=>rfl) (fun pre W=>oc w61 g7 g8 (tM d i pre) W∧∀p∈pre,i-p.1.2≤4096) (fun c pre W=>c=.exit 2∧∃pre' y,pre=pre'++[y]∧(∀p∈pre',i-p.1.2≤4096)∧((4096<i-y.1.2∧oc w61 g7 g8 (tM d i pre') W)∨(i-y.1.2≤4096∧i+ml d i (i-y.1.2)=d.length∧oc w61 g7 g8 (tM d i pre) W))) (fun s W W' row hs hg hr=>⟨hs.1.own l7' l8' hg (fun r e=>(hr r e).1),hs.2⟩) (fun c s W W' row hs hg hr=>hs.elim fun h1 h=>⟨h1,h.elim fun pre' h=>h.elim fun y h=>⟨pre',y,h.1,h.2.1,h.2.2.imp (fun h=>⟨h.1,h.2.own l7' l8' hg (fun r e=>(hr r e).1)⟩) (fun h=>⟨h.1,h.2.1,h.2.2.own l7' l8' hg (fun r e=>(hr r e).1)⟩)⟩⟩) ⟨hR0,by simp⟩ (fun y=>(10,I (y.1.2:Int))::(63,I (y.1.2:Int))::(62,I (y.1.1:Int))::_) (fun _=>rfl) Jg Jg Jg ?_ ?_ ?_
   ·intro W l o o' hl' ho _ _
    exact⟨(grownBy_putObj' W l o').size,fun k hk=>World.putObj_heap_other (by have:=hk.1;omega)⟩
   ·rintro lp pre y W ⟨hI,hpre⟩ hlen
    have hy1:y.1.2<i:=y.2.1
    have hy2:=y.2.2
    have mvW:=hI.mv
    have n78:∀k,k<w3.heap.size→¬(k=g7∨k=g8):=fun k hk e=>by omega
    have k2:=mvW.blk (k2.ext xl) (n78 g2 b2)
    have k3:=mvW.blk (k3.ext xl) (n78 g3 b3)
    have k1:=mvW.blk (k1.ext xl) (n78 g (Nat.lt_of_lt_of_le (hf g (.inl rfl)) (aM.size x3')))
    have hdW:=hd.ext (mvW.ext_from (h4.ext.trans xl) (fun k hk=>by have:=h3.ext.size;omega))
    refine I.ax (I.af (I.af (I.aa Jg (am Jg Jg (ak IM Jg k3.c0) (ae Jg Jg (ai (r:=I ((i-y.1.2:Nat):Int)) Jg Jg Jg (by have e:((i-y.1.2:Nat):Int)=(i:Int)-(y.1.2:Int):=(by omega);rw[e];exact bb (by omega) (by omega)) ?_))))))
    refine ai Jg Jg Jg (ce) (ag (I.ac ?_))
    refine I.bi Jg (fun h67=>?_) (fun h67=>?_)
    ·refine I.aW (aA (pZ Jg ?_))
     exact fun _ _=>⟨KeepsFrom.refl _ _,rfl,pre,y,rfl,hpre,.inl ⟨by omega,hI⟩⟩
    ·refine I.aq (I.ac (I.af (I.aa Jg (ab Jg Jg (ag (I.ac (I.af (I.ax ?_))))))))
     refine I.bV (α:=Nat) (fun n'=>[(2,.pointer (some ⟨g2,0,none⟩)),(3,.pointer (some ⟨g3,0,none⟩)),(7,.pointer (some ⟨g7,0,none⟩)),(8,.pointer (some ⟨g8,0,none⟩)),(10,I (y.1.2:Int)),(11,I (n':Int))]) (fun n' w'=>aM W w'∧4≤n'∧i+n'≤d.length∧ml d i (i-y.1.2)=n'+jY (d.drop (i+n')) (d.drop (y.1.2+n'))) (fun n'=>d.length-n') (4) ⟨rfl,rfl,rfl,rfl,rfl,rfl,trivial⟩ ⟨aM.refl _,by omega,hi4,E0 hi4 hy1 hy2⟩ ?_
     rintro n' w12 ⟨e12,hn4,hnl,hml⟩
     refine I.af (I.af ?_)
     have hdX:=hdW.ext e12
     have k1X:=k1.ext e12
     have k2X:=k2.ext e12
     have k3X:=k3.ext e12
     have c7X:=hI.c7.ext e12
     have c8X:=hI.c8.ext e12
     by_cases h76:((i+n':Nat):Int)<((d.length:Nat):Int)
     ·refine I.bA 29 [2,3,7,8,10,11,77,96] (by kernel_rfl) (by kernel_rfl) Jg ?_
      refine aD Jg Jg (fun w hw=>ak IM Jg (hw.cell_some k3X.c0)) (ap Jg Jg (aR (r:=I ((i+n':Nat):Int)) Jg Jg Jg (fun w _=>by have e:((i+n':Nat):Int)=(i:Int)+(n':Int):=(by omega);rw[e];exact aK (by omega) (by omega)) ?_))
      refine aD Jg Jg (fun w hw=>ak I4 Jg (hw.cell_some k2X.c0)) (bQ Jg Jg (aL Jg Jg (fun w hw=>aE (o:=0) I3 Jg (by kernel_rfl) Jg) ?_))
      refine aD Jg Jg (fun w hw=>ak IP Jg (hw.cell_some (k1X.cell (i:=0) Jg))) (lI (vs:=[.slice A n c]) Jg Jg (fun w hw=>bz (hdX.ext hw)) ?_)
      refine aR Jg Jg Jg (fun w _=>cf h76 aX) (ap Jg Jg (bg Jg Jg (aD Jg Jg (fun w hw=>ak I4 Jg (hw.cell_some k2X.c0)) ?_)))
      refine bg Jg Jg (bQ Jg Jg (bg Jg Jg (aL Jg Jg (fun w hw=>aE (o:=0) I3 Jg (by kernel_rfl) Jg) ?_)))
      refine bg Jg Jg (aD Jg Jg (fun w hw=>ak IP Jg (hw.cell_some (k1X.cell (i:=0) Jg))) (bg Jg Jg (ap Jg Jg (bg Jg Jg ?_))))
      refine ap Jg Jg (bg Jg Jg (aR (r:=I ((y.1.2+n':Nat):Int)) Jg Jg Jg (fun w _=>by have e:((y.1.2+n':Nat):Int)=(y.1.2:Int)+(n':Int):=(by omega);rw[e];exact aK (by omega) (by omega)) ?_))
      refine bg Jg Jg ?_
      obtain⟨a85,p85,q85⟩:=er hdX (i:=(y.1.2+n':Nat)) (by omega) .i64
      refine ay Jg Jg Jg (fun w _=>p85 w) (bg Jg Jg (aD Jg Jg (fun w hw=>ak IR Jg (hw.cell_some q85)) (bg Jg Jg ?_)))
      refine aD Jg Jg (fun w hw=>ak I4 Jg (hw.cell_some k2X.c0)) (bg Jg Jg (bQ Jg Jg (bg Jg Jg (aL Jg Jg (fun w hw=>aE (o:=0) I3 Jg (by kernel_rfl) Jg) ?_))))
      refine bg Jg Jg (aD Jg Jg (fun w hw=>ak IP Jg (hw.cell_some (k1X.cell (i:=0) Jg))) (bg Jg Jg (aD Jg Jg (fun w hw=>ak IM Jg (hw.cell_some k3X.c0)) ?_)))
      refine bg Jg Jg (ap Jg Jg (bg Jg Jg (aR (r:=I ((i+n':Nat):Int)) Jg Jg Jg (fun w _=>by have e:((i+n':Nat):Int)=(i:Int)+(n':Int):=(by omega);rw[e];exact aK (by omega) (by omega)) ?_)))
      refine bg Jg Jg ?_
      obtain⟨a94,p94,q94⟩:=er hdX (i:=(i+n':Nat)) (by omega) .i64
      refine ay Jg Jg Jg (fun w _=>p94 w) (bg Jg Jg (aD Jg Jg (fun w hw=>ak IR Jg (hw.cell_some q94)) (bg Jg Jg ?_)))
      refine aR Jg Jg Jg (fun w _=>iC) (bG ?_)
      intro wg12 xg12
      rintro _ rfl
      rintro _ rfl
      rintro _ rfl
      rintro _ rfl
      rintro _ rfl
      rintro _ rfl
      rintro _ rfl
      rintro _ rfl
      refine aw Jg Jg Jg (ag (I.ac ?_))
      refine I.bi Jg (fun h97=>?_) (fun h97=>?_)
      ·refine I.aq (I.ac (I.ax (I.aa Jg (ae Jg Jg (ai (r:=I ((n'+1:Nat):Int)) Jg Jg Jg (by have e:((n'+1:Nat):Int)=(n':Int)+1:=(by omega);rw[e];exact aK (by omega) (by omega)) ?_)))))
       refine ab Jg Jg (ag (aJ ?_))
       refine bM (n'+1) ⟨rfl,rfl,rfl,rfl,rfl,rfl,trivial⟩ ⟨(e12.trans xg12),by omega,by omega,by rw[hml,Ak (by omega) (by omega),if_pos (show d[i+n']=d[y.1.2+n'] from h97.symm),show i+(n'+1)=i+n'+1 by omega,show y.1.2+(n'+1)=y.1.2+n'+1 by omega];omega⟩ (by omega)
      ·refine I.aW (aA (aA (aU (I.ac (I.af (I.af ?_))))))
       have hnn:ml d i (i-y.1.2)=n':=by
        first
        |(rw[hml,Ak (by omega) (by omega),if_neg (fun e=>h97 e.symm)];rfl)
        |(rw[hml,Bx (by omega)];rfl)
       refine I.aa Jg (ae Jg Jg (am Jg Jg (ak IM Jg (xg12.cell_some c7X.c0)) (ai Jg Jg Jg (ce) (ag (I.ac ?_)))))
       refine I.bi Jg (fun h102=>?_) (fun h102=>?_)
       ·have hstp:tM d i (pre++[y])=(n',i-y.1.2):=by rw[o0,EZ,hnn,if_pos (by omega)]
        have hS0:wg12.drew.cell? ⟨g3,0,none⟩=some (I (i:Int)):=(k3.ext (aM.trans e12 xg12).drew).c0
        obtain⟨w15,r15,gr15,k15⟩:=jX (P:=Tryz.prog) (t:=3) (v:=I (n':Int)) dz rfl (hI.c7.ext (aM.trans e12 xg12).drew)
        obtain⟨w16,r16,gr16,k16⟩:=jX (P:=Tryz.prog) (t:=3) (v:=I ((i-y.1.2:Nat):Int)) dz rfl ((hI.c8.ext (aM.trans e12 xg12).drew).other gr15 (fun e=>h78 (Option.some.inj e).symm))
        have h37:g3≠g7∧g3≠g8:=by omega
        have hS1:w15.cell? ⟨g3,0,none⟩=some (I (i:Int)):=((k3.ext (aM.trans e12 xg12).drew).other gr15 (fun e=>h37.1 (Option.some.inj e))).c0
        have hS2:w16.cell? ⟨g3,0,none⟩=some (I (i:Int)):=(((k3.ext (aM.trans e12 xg12).drew).other gr15 (fun e=>h37.1 (Option.some.inj e))).other gr16 (fun e=>h37.2 (Option.some.inj e))).c0
        refine I.Hm (fun w'=>w'.cell? ⟨g3,0,none⟩=some (I (i:Int))) 6 Jg (by kernel_rfl) Jg ?_
        refine py 0 Jg Jg (by kernel_rfl) Jg hS0 ?_
        refine vD 1 Jg Jg (by kernel_rfl) Jg hS0 (fun w' hS=>ak IM Jg hS) ?_
        refine py 2 Jg Jg (by kernel_rfl) Jg hS0 ?_
        refine GO 3 (r:=I ((i-y.1.2:Nat):Int)) Jg Jg Jg (by kernel_rfl) Jg hS0 (fun w' _=>by have e:((i-y.1.2:Nat):Int)=(i:Int)-(y.1.2:Int):=(by omega);rw[e];exact bb (by omega) (by omega)) ?_
        refine jx 4 (by kernel_rfl) Jg (ar Jg Jg r15 (eI hS1 ?_))
        refine jx 5 (by kernel_rfl) Jg (ar Jg Jg r16 (eI hS2 ?_))
        refine vE (by kernel_rfl) ?_
        have mv16:Mv (fun k=>k=g7∨k=g8) W w16:=((Mv.of_ext (X:=fun k=>k=g7∨k=g8) (aM.trans e12 xg12).drew).trans (Mv.of_grown (X:=fun k=>k=g7∨k=g8) gr15 (fun k e _=>.inl (Option.some.inj e).symm)) (fun _ hn _=>hn)).trans (Mv.of_grown (X:=fun k=>k=g7∨k=g8) gr16 (fun k e _=>.inr (Option.some.inj e).symm)) (fun _ hn _=>hn)
        have hR:oc w61 g7 g8 (tM d i (pre++[y])) w16:=by rw[hstp];exact⟨k15.other gr16 (fun e=>h78 (Option.some.inj e)),k16,hI.mv.trans mv16 (fun _ hn _=>hn)⟩
        refine I.ac (I.af ?_)
        have k1:=mv16.blk k1 (n78 g (Nat.lt_of_lt_of_le (hf g (.inl rfl)) (aM.size x3')))
        have k3:=mv16.blk k3 (n78 g3 b3)
        have k2:=mv16.blk k2 (n78 g2 b2)
        have hdX:=hd.ext ((hI.mv.trans mv16 (fun _ hn _=>hn)).ext_from (h4.ext.trans xl) (fun k hk=>by have:=h3.ext.size;omega))
        refine I.bA 8 [109,114] (by kernel_rfl) (by kernel_rfl) Jg ?_
        refine aD Jg Jg (fun w hw=>ak IM Jg (hw.cell_some k3.c0)) (ap Jg Jg (aR (r:=I ((i+n':Nat):Int)) Jg Jg Jg (fun w _=>by have e:((i+n':Nat):Int)=(i:Int)+(n':Int):=(by omega);rw[e];exact aK (by omega) (by omega)) ?_))
        refine aD Jg Jg (fun w hw=>ak I4 Jg (hw.cell_some k2.c0)) (bQ Jg Jg (aL Jg Jg (fun w hw=>aE (o:=0) I3 Jg (by kernel_rfl) Jg) ?_))
        refine aD Jg Jg (fun w hw=>ak IP Jg (hw.cell_some (k1.cell (i:=0) Jg))) (lI (vs:=[.slice A n c]) Jg Jg (fun w hw=>bz (hdX.ext hw)) ?_)
        refine bG ?_
        intro wg16 xg16
        rintro _ rfl
        rintro _ rfl
        refine ai Jg Jg Jg (aV) (ag (I.ac ?_))
        refine I.bi Jg (fun h115=>?_) (fun h115=>?_)
        ·refine I.aW (pZ Jg ?_)
         exact fun _ _=>⟨oc.keeps (mv16.trans (Mv.of_ext (X:=fun _=>False) xg16) (fun _ hn _=>hn.elim)) l7' l8',rfl,pre,y,rfl,hpre,.inr ⟨by omega,by omega,hR.xt xg16⟩⟩
        ·refine I.aq (aJ ?_)
         exact fun _ _=>⟨oc.keeps (mv16.trans (Mv.of_ext (X:=fun _=>False) xg16) (fun _ hn _=>hn.elim)) l7' l8',oc.keep (mv16.trans (Mv.of_ext (X:=fun _=>False) xg16) (fun _ hn _=>hn.elim)) hI.mv.size,hR.xt xg16,fun p hp=>(List.mem_append.1 hp).elim (hpre p) (fun hp=>by rw[List.mem_singleton.1 hp];omega)⟩
       ·have hstp:tM d i (pre++[y])=tM d i pre:=by rw[o0,EZ,hnn,if_neg (by omega)]
        refine I.aq (I.ac (I.af ?_))
        have mv16:Mv (fun k=>k=g7∨k=g8) W wg12:=Mv.of_ext (aM.trans e12 xg12)
        have hR:oc w61 g7 g8 (tM d i (pre++[y])) wg12:=by rw[hstp];exact hI.xt (aM.trans e12 xg12)
        refine I.bA 8 [109,114] (by kernel_rfl) (by kernel_rfl) Jg ?_
        refine aD Jg Jg (fun w hw=>ak IM Jg (hw.cell_some (xg12.cell_some k3X.c0))) (ap Jg Jg (aR (r:=I ((i+n':Nat):Int)) Jg Jg Jg (fun w _=>by have e:((i+n':Nat):Int)=(i:Int)+(n':Int):=(by omega);rw[e];exact aK (by omega) (by omega)) ?_))
        refine aD Jg Jg (fun w hw=>ak I4 Jg (hw.cell_some (xg12.cell_some k2X.c0))) (bQ Jg Jg (aL Jg Jg (fun w hw=>aE (o:=0) I3 Jg (by kernel_rfl) Jg) ?_))
        refine aD Jg Jg (fun w hw=>ak IP Jg (hw.cell_some (xg12.cell_some (k1X.cell (i:=0) Jg)))) (lI (vs:=[.slice A n c]) Jg Jg (fun w hw=>bz ((hdX.ext xg12).ext hw)) ?_)
        refine bG ?_
        intro wg16 xg16
        rintro _ rfl
        rintro _ rfl
        refine ai Jg Jg Jg (aV) (ag (I.ac ?_))
        refine I.bi Jg (fun h115=>?_) (fun h115=>?_)
        ·refine I.aW (pZ Jg ?_)
         exact fun _ _=>⟨oc.keeps (mv16.trans (Mv.of_ext (X:=fun _=>False) xg16) (fun _ hn _=>hn.elim)) l7' l8',rfl,pre,y,rfl,hpre,.inr ⟨by omega,by omega,hR.xt xg16⟩⟩
        ·refine I.aq (aJ ?_)
         exact fun _ _=>⟨oc.keeps (mv16.trans (Mv.of_ext (X:=fun _=>False) xg16) (fun _ hn _=>hn.elim)) l7' l8',oc.keep (mv16.trans (Mv.of_ext (X:=fun _=>False) xg16) (fun _ hn _=>hn.elim)) hI.mv.size,hR.xt xg16,fun p hp=>(List.mem_append.1 hp).elim (hpre p) (fun hp=>by rw[List.mem_singleton.1 hp];omega)⟩
     ·refine I.bA 29 [2,3,7,8,10,11,77,96] (by kernel_rfl) (by kernel_rfl) Jg ?_
      refine aD Jg Jg (fun w hw=>ak IM Jg (hw.cell_some k3X.c0)) (ap Jg Jg (aR (r:=I ((i+n':Nat):Int)) Jg Jg Jg (fun w _=>by have e:((i+n':Nat):Int)=(i:Int)+(n':Int):=(by omega);rw[e];exact aK (by omega) (by omega)) ?_))
      refine aD Jg Jg (fun w hw=>ak I4 Jg (hw.cell_some k2X.c0)) (bQ Jg Jg (aL Jg Jg (fun w hw=>aE (o:=0) I3 Jg (by kernel_rfl) Jg) ?_))
      refine aD Jg Jg (fun w hw=>ak IP Jg (hw.cell_some (k1X.cell (i:=0) Jg))) (lI (vs:=[.slice A n c]) Jg Jg (fun w hw=>bz (hdX.ext hw)) ?_)
      refine aR Jg Jg Jg (fun w _=>bZ h76 aX) (ap Jg Jg (cB Jg Jg Jg (cB Jg Jg Jg (cB Jg Jg Jg (cB Jg Jg Jg (cB Jg Jg Jg (cB Jg Jg Jg ?_)))))))
      refine cB Jg Jg Jg (cB Jg Jg Jg (cB Jg Jg Jg (cB Jg Jg Jg (cB Jg Jg Jg (cB Jg Jg Jg (cB Jg Jg Jg (cB Jg Jg Jg (cB Jg Jg Jg (cB Jg Jg Jg ?_)))))))))
      refine cB Jg Jg Jg (cB Jg Jg Jg (cB Jg Jg Jg (bG ?_)))
      intro wg12 xg12
      rintro _ rfl
      rintro _ rfl
      rintro _ rfl
      rintro _ rfl
      rintro _ rfl
      rintro _ rfl
      rintro _ rfl
      rintro _ rfl
      refine aC Jg Jg Jg (ag (I.ac (I.cq Jg (I.aW (aA (aA (aU (I.ac (I.af (I.af ?_))))))))))
      have hnn:ml d i (i-y.1.2)=n':=by
       first
       |(rw[hml,Ak (by omega) (by omega),if_neg (fun e=>h97 e.symm)];rfl)
       |(rw[hml,Bx (by omega)];rfl)
      refine I.aa Jg (ae Jg Jg (am Jg Jg (ak IM Jg (xg12.cell_some c7X.c0)) (ai Jg Jg Jg (ce) (ag (I.ac ?_)))))
      refine I.bi Jg (fun h102=>?_) (fun h102=>?_)
      ·have hstp:tM d i (pre++[y])=(n',i-y.1.2):=by rw[o0,EZ,hnn,if_pos (by omega)]
       have hS0:wg12.drew.cell? ⟨g3,0,none⟩=some (I (i:Int)):=(k3.ext (aM.trans e12 xg12).drew).c0
       obtain⟨w15,r15,gr15,k15⟩:=jX (P:=Tryz.prog) (t:=3) (v:=I (n':Int)) dz rfl (hI.c7.ext (aM.trans e12 xg12).drew)
       obtain⟨w16,r16,gr16,k16⟩:=jX (P:=Tryz.prog) (t:=3) (v:=I ((i-y.1.2:Nat):Int)) dz rfl ((hI.c8.ext (aM.trans e12 xg12).drew).other gr15 (fun e=>h78 (Option.some.inj e).symm))
       have h37:g3≠g7∧g3≠g8:=by omega
       have hS1:w15.cell? ⟨g3,0,none⟩=some (I (i:Int)):=((k3.ext (aM.trans e12 xg12).drew).other gr15 (fun e=>h37.1 (Option.some.inj e))).c0
       have hS2:w16.cell? ⟨g3,0,none⟩=some (I (i:Int)):=(((k3.ext (aM.trans e12 xg12).drew).other gr15 (fun e=>h37.1 (Option.some.inj e))).other gr16 (fun e=>h37.2 (Option.some.inj e))).c0
       refine I.Hm (fun w'=>w'.cell? ⟨g3,0,none⟩=some (I (i:Int))) 6 Jg (by kernel_rfl) Jg ?_
       refine py 0 Jg Jg (by kernel_rfl) Jg hS0 ?_
       refine vD 1 Jg Jg (by kernel_rfl) Jg hS0 (fun w' hS=>ak IM Jg hS) ?_
       refine py 2 Jg Jg (by kernel_rfl) Jg hS0 ?_
       refine GO 3 (r:=I ((i-y.1.2:Nat):Int)) Jg Jg Jg (by kernel_rfl) Jg hS0 (fun w' _=>by have e:((i-y.1.2:Nat):Int)=(i:Int)-(y.1.2:Int):=(by omega);rw[e];exact bb (by omega) (by omega)) ?_
       refine jx 4 (by kernel_rfl) Jg (ar Jg Jg r15 (eI hS1 ?_))
       refine jx 5 (by kernel_rfl) Jg (ar Jg Jg r16 (eI hS2 ?_))
       refine vE (by kernel_rfl) ?_
       have mv16:Mv (fun k=>k=g7∨k=g8) W w16:=((Mv.of_ext (X:=fun k=>k=g7∨k=g8) (aM.trans e12 xg12).drew).trans (Mv.of_grown (X:=fun k=>k=g7∨k=g8) gr15 (fun k e _=>.inl (Option.some.inj e).symm)) (fun _ hn _=>hn)).trans (Mv.of_grown (X:=fun k=>k=g7∨k=g8) gr16 (fun k e _=>.inr (Option.some.inj e).symm)) (fun _ hn _=>hn)
       have hR:oc w61 g7 g8 (tM d i (pre++[y])) w16:=by rw[hstp];exact⟨k15.other gr16 (fun e=>h78 (Option.some.inj e)),k16,hI.mv.trans mv16 (fun _ hn _=>hn)⟩
       refine I.ac (I.af ?_)
       have k1:=mv16.blk k1 (n78 g (Nat.lt_of_lt_of_le (hf g (.inl rfl)) (aM.size x3')))
       have k3:=mv16.blk k3 (n78 g3 b3)
       have k2:=mv16.blk k2 (n78 g2 b2)
       have hdX:=hd.ext ((hI.mv.trans mv16 (fun _ hn _=>hn)).ext_from (h4.ext.trans xl) (fun k hk=>by have:=h3.ext.size;omega))
       refine I.bA 8 [109,114] (by kernel_rfl) (by kernel_rfl) Jg ?_
       refine aD Jg Jg (fun w hw=>ak IM Jg (hw.cell_some k3.c0)) (ap Jg Jg (aR (r:=I ((i+n':Nat):Int)) Jg Jg Jg (fun w _=>by have e:((i+n':Nat):Int)=(i:Int)+(n':Int):=(by omega);rw[e];exact aK (by omega) (by omega)) ?_))
       refine aD Jg Jg (fun w hw=>ak I4 Jg (hw.cell_some k2.c0)) (bQ Jg Jg (aL Jg Jg (fun w hw=>aE (o:=0) I3 Jg (by kernel_rfl) Jg) ?_))
       refine aD Jg Jg (fun w hw=>ak IP Jg (hw.cell_some (k1.cell (i:=0) Jg))) (lI (vs:=[.slice A n c]) Jg Jg (fun w hw=>bz (hdX.ext hw)) ?_)
       refine bG ?_
       intro wg16 xg16
       rintro _ rfl
       rintro _ rfl
       refine ai Jg Jg Jg (aV) (ag (I.ac ?_))
       refine I.bi Jg (fun h115=>?_) (fun h115=>?_)
       ·refine I.aW (pZ Jg ?_)
        exact fun _ _=>⟨oc.keeps (mv16.trans (Mv.of_ext (X:=fun _=>False) xg16) (fun _ hn _=>hn.elim)) l7' l8',rfl,pre,y,rfl,hpre,.inr ⟨by omega,by omega,hR.xt xg16⟩⟩
       ·refine I.aq (aJ ?_)
        exact fun _ _=>⟨oc.keeps (mv16.trans (Mv.of_ext (X:=fun _=>False) xg16) (fun _ hn _=>hn.elim)) l7' l8',oc.keep (mv16.trans (Mv.of_ext (X:=fun _=>False) xg16) (fun _ hn _=>hn.elim)) hI.mv.size,hR.xt xg16,fun p hp=>(List.mem_append.1 hp).elim (hpre p) (fun hp=>by rw[List.mem_singleton.1 hp];omega)⟩
      ·have hstp:tM d i (pre++[y])=tM d i pre:=by rw[o0,EZ,hnn,if_neg (by omega)]
       refine I.aq (I.ac (I.af ?_))
       have mv16:Mv (fun k=>k=g7∨k=g8) W wg12:=Mv.of_ext (aM.trans e12 xg12)
       have hR:oc w61 g7 g8 (tM d i (pre++[y])) wg12:=by rw[hstp];exact hI.xt (aM.trans e12 xg12)
       refine I.bA 8 [109,114] (by kernel_rfl) (by kernel_rfl) Jg ?_
       refine aD Jg Jg (fun w hw=>ak IM Jg (hw.cell_some (xg12.cell_some k3X.c0))) (ap Jg Jg (aR (r:=I ((i+n':Nat):Int)) Jg Jg Jg (fun w _=>by have e:((i+n':Nat):Int)=(i:Int)+(n':Int):=(by omega);rw[e];exact aK (by omega) (by omega)) ?_))
       refine aD Jg Jg (fun w hw=>ak I4 Jg (hw.cell_some (xg12.cell_some k2X.c0))) (bQ Jg Jg (aL Jg Jg (fun w hw=>aE (o:=0) I3 Jg (by kernel_rfl) Jg) ?_))
       refine aD Jg Jg (fun w hw=>ak IP Jg (hw.cell_some (xg12.cell_some (k1X.cell (i:=0) Jg)))) (lI (vs:=[.slice A n c]) Jg Jg (fun w hw=>bz ((hdX.ext xg12).ext hw)) ?_)
       refine bG ?_
       intro wg16 xg16
       rintro _ rfl
       rintro _ rfl
       refine ai Jg Jg Jg (aV) (ag (I.ac ?_))
       refine I.bi Jg (fun h115=>?_) (fun h115=>?_)
       ·refine I.aW (pZ Jg ?_)
        exact fun _ _=>⟨oc.keeps (mv16.trans (Mv.of_ext (X:=fun _=>False) xg16) (fun _ hn _=>hn.elim)) l7' l8',rfl,pre,y,rfl,hpre,.inr ⟨by omega,by omega,hR.xt xg16⟩⟩
       ·refine I.aq (aJ ?_)
        exact fun _ _=>⟨oc.keeps (mv16.trans (Mv.of_ext (X:=fun _=>False) xg16) (fun _ hn _=>hn.elim)) l7' l8',oc.keep (mv16.trans (Mv.of_ext (X:=fun _=>False) xg16) (fun _ hn _=>hn.elim)) hI.mv.size,hR.xt xg16,fun p hp=>(List.mem_append.1 hp).elim (hpre p) (fun hp=>by rw[List.mem_singleton.1 hp];omega)⟩
   ·rintro D0 xs W hD rfl ⟨hR,hp⟩ hDe
    have hB:oc w61 g7 g8 (cV d i) W:=by
     have e:tM d i (C6 d i)=cV d i:=yF (suf:=[]) hi4 (lr d i) (fun p=>wH d i p) (by simp) (fun p hq=>by obtain⟨y,hy,rfl⟩:=List.mem_map.1 hq;exact hp y hy) (by simp)
     rw[←e];exact hR
    refine aJ (ac (af (bA 3 [4,117] (by kernel_rfl) (by kernel_rfl) ?_)))
    refine aD Jg Jg (fun w hw=>ak IM Jg (hw.cell_some hB.c7.c0)) (aD Jg Jg (fun w hw=>ak IM Jg (hw.cell_some hB.c8.c0)) ?_)
    refine eg Jg Jg (bG ?_)
    intro wg17 xg17
    rintro _ rfl
    rintro _ rfl
    refine ab Jg Jg (ag (ac (au (AS Jg Jg Jg (xg17.heap_some hDe) ?_))))
    intro w9 hg9
    have mvl:Mv (fun k=>k=g7∨k=g8) w61 w9:=(hB.mv.trans (Mv.of_ext (X:=fun _=>False) xg17) (fun _ hn _=>hn.elim)).trans (Mv.of_grown (X:=fun k=>k=D0) hg9 (fun k e _=>(Option.some.inj e).symm)) (fun k hk hl=>by omega)
    have mva:Mv (ky g m Y) w w9:=(((Mv.of_ext (X:=ky g m Y) x3').trans mv4 (fun _ hn _=>hn)).trans (Mv.of_ext (X:=fun _=>False) xl) (fun _ hn _=>hn.elim)).trans mvl (fun k hk hl=>by have:=x2.size;have:=x3.size;omega)
    exact⟨_,rfl,rfl,i,Y',Nat.le_refl _,(h4.xt xl).mv mvl (fun k hk e=>by
     have:=(h4.low k hk).2
     have:=xg3.size
     have:=x7.size
     omega) (fun k hk=>by have:=h3.ext.size;omega),mva,fun k hk=>(hY4 k hk).imp_right (fun h=>by have:=x2.size;have:=x3.size;omega)⟩
   ·rintro D0 _ pre W hD hSp ⟨rfl,pre',y,rfl,hp,hcase⟩ hDe
    have hB:oc w61 g7 g8 (cV d i) W:=by
     obtain⟨suf,hs⟩:=hSp
     have hps:∀p∈pre'.map (·.1.2),i-p≤4096:=fun p hq=>by obtain⟨z,hz,rfl⟩:=List.mem_map.1 hq;exact hp z hz
     rcases hcase with⟨hfar,hR⟩|⟨hnear,hfull,hR⟩
     ·have e:tM d i pre'=cV d i:=yF (suf:=y.1.2::suf.map (·.1.2)) hi4 (lr d i) (fun p=>wH d i p) (by rw[←hs];simp) hps (fun p hq=>by
       have hsrt:=lr d i
       rw[←hs] at hsrt
       simp only[List.map_append,List.map_cons,List.append_assoc,List.cons_append,List.nil_append] at hsrt
       rcases List.mem_cons.1 hq with rfl|hq
       ·exact hfar
       ·have:=(List.pairwise_cons.1 (List.pairwise_append.1 hsrt).2.1).1 p hq
        omega)
      rw[←e];exact hR
     ·have e:tM d i (pre'++[y])=cV d i:=by
       have:=CV (pre:=pre'.map (·.1.2)) (x:=y.1.2) (suf:=suf.map (·.1.2)) hi4 (lr d i) (fun p=>wH d i p) (by rw[←hs];simp) (fun p hq=>by
        rcases List.mem_append.1 hq with hq|hq
        ·exact hps p hq
        ·rw[List.mem_singleton.1 hq];exact hnear) hfull
       unfold tM
       rw[List.map_append];exact this
      rw[←e];exact hR
    refine aW (aU (ac (af (bA 3 [4,117] (by kernel_rfl) (by kernel_rfl) ?_))))
    refine aD Jg Jg (fun w hw=>ak IM Jg (hw.cell_some hB.c7.c0)) (aD Jg Jg (fun w hw=>ak IM Jg (hw.cell_some hB.c8.c0)) ?_)
    refine eg Jg Jg (bG ?_)
    intro wg17 xg17
    rintro _ rfl
    rintro _ rfl
    refine ab Jg Jg (ag (ac (au (AS Jg Jg Jg (xg17.heap_some hDe) ?_))))
    intro w9 hg9
    have mvl:Mv (fun k=>k=g7∨k=g8) w61 w9:=(hB.mv.trans (Mv.of_ext (X:=fun _=>False) xg17) (fun _ hn _=>hn.elim)).trans (Mv.of_grown (X:=fun k=>k=D0) hg9 (fun k e _=>(Option.some.inj e).symm)) (fun k hk hl=>by omega)
    have mva:Mv (ky g m Y) w w9:=(((Mv.of_ext (X:=ky g m Y) x3').trans mv4 (fun _ hn _=>hn)).trans (Mv.of_ext (X:=fun _=>False) xl) (fun _ hn _=>hn.elim)).trans mvl (fun k hk hl=>by have:=x2.size;have:=x3.size;omega)
    exact⟨_,rfl,rfl,i,Y',Nat.le_refl _,(h4.xt xl).mv mvl (fun k hk e=>by
     have:=(h4.low k hk).2
     have:=xg3.size
     have:=x7.size
     omega) (fun k hk=>by have:=h3.ext.size;omega),mva,fun k hk=>(hY4 k hk).imp_right (fun h=>by have:=x2.size;have:=x3.size;omega)⟩
end Go.Rl
namespace Go.Rl
open Go.RowKit Go.Proofs
theorem o2:az Tryz.prog 102:=⟨_,Tryz.func102,by kernel_rfl,rfl⟩
theorem tj:az Tryz.prog 48:=⟨_,Tryz.func48,by kernel_rfl,rfl⟩
structure Bz (wb:World) (d:List UInt8) (g m c nx:Nat) (O:List UInt8) (Y:Nat→Prop) (v:Value) (w:World):Prop where
 fnd:Al wb d g m nx Y w
 cell:cd c 28 [v] w
 own:cD wb.heap.size O v w
 nc:¬ky g m Y c
 nv:∀k,v.ownBlock=some k→¬ky g m Y k
 low:wb.heap.size≤c
def Fj (wb:World) (d:List UInt8) (g m c nx:Nat) (O:List UInt8) (w:World):Prop:=∃Y v,Bz wb d g m c nx O Y v w
section
variable {wb w w':World} {d O O':List UInt8} {g m c nx:Nat} {Y:Nat→Prop} {v v':Value}
theorem Bz.xt (h:Bz wb d g m c nx O Y v w) (hx:aM w w'):Bz wb d g m c nx O Y v w':=⟨h.fnd.xt hx,h.cell.ext hx,h.own.ext hx,h.nc,h.nv,h.low⟩
theorem Bz.outs (h:Bz wb d g m c nx O Y v w) (hm:Mv (fun k=>k=c∨v.ownBlock=some k) w w') (hc:cd c 28 [v'] w') (ho:cD wb.heap.size O' v' w') (hv:v'.ownBlock=v.ownBlock∨∀k,v'.ownBlock=some k→w.heap.size≤k):Bz wb d g m c nx O' Y v' w':=
 ⟨h.fnd.mv hm (fun k hk e=>e.elim (fun e=>h.nc (e▸hk)) (fun e=>h.nv k e hk)) (fun k hk=>hk.elim (fun e=>e▸h.low) (fun e=>h.own.ge k e)),hc,ho,h.nc,fun k hk hf=>by
  rcases hv with e|e
  ·exact h.nv k (e▸hk) hf
  ·have:=(h.fnd.low k hf).2
   have:=e k hk
   omega,h.low⟩
theorem Bz.found {nx':Nat} {Y':Nat→Prop} (h:Bz wb d g m c nx O Y v w) (hf:Al wb d g m nx' Y' w') (hm:Mv (ky g m Y) w w') (hY:∀k,Y' k→Y k∨w.heap.size≤k):Bz wb d g m c nx' O Y' v w':=by
 have hlt:c<w.heap.size:=h.cell.lt
 have key:∀k,k<w.heap.size→¬ky g m Y k→¬ky g m Y' k:=fun k hk hn hf=>hf.elim (fun e=>hn (.inl e)) fun e=>e.elim (fun e=>hn (.inr (.inl e))) fun e=>(hY k e).elim (fun e=>hn (.inr (.inr e))) fun e=>by omega
 refine⟨hf,hm.blk h.cell h.nc,hm.ownB h.own h.nv,key c hlt h.nc,fun k hk=>key k ?_ (h.nv k hk),h.low⟩
 obtain⟨n,ho⟩:=h.own
 exact(World.ownsRow.lt ho k hk).2
end
theorem Bz.grew {wb wa w1 w2:World} {d O O':List UInt8} {g m c nx:Nat} {Y:Nat→Prop} {v v':Value} (h:Bz wb d g m c nx O Y v wa) (hg:gJ wa w1 v v') (ho:cD wb.heap.size O' v' w1) (h2:w1.grownBy w2 (some c)) (hc:cd c 28 [v'] w2) (hvc:v'.ownBlock≠some c):Bz wb d g m c nx O' Y v' w2:=
 h.outs ((Mv.of_grown (X:=fun k=>k=c∨v.ownBlock=some k) hg.grown (fun _ e _=>.inr e)).trans (Mv.of_grown (X:=fun k=>k=c∨v.ownBlock=some k) h2 (fun _ e _=>.inl (Option.some.inj e).symm)) (fun _ hn _=>hn)) hc (ho.kept h2 (.inr hvc)) hg.own
theorem cD.cells {base:Nat} {l:List UInt8} {v:Value} {w:World} (h:cD base l v w) {k:Nat} (hk:v.ownBlock=some k):∃cs f,w.heap[k]? =some (.cells cs 5 f):=by
 obtain⟨n,h1,h2⟩:=h
 rcases h2 with⟨rfl,_⟩|⟨g,cap,cur,rfl,h3,h4,h5⟩
 ·cases hk
 ·obtain rfl:g=k:=Option.some.inj hk
  exact⟨_,_,h4⟩
theorem cD.ne_cell {base c:Nat} {l:List UInt8} {v u:Value} {w:World} (h:cD base l v w) (hc:cd c 28 [u] w):v.ownBlock≠some c:=fun hk=>by
 obtain⟨cs,f,h1⟩:=h.cells hk
 rw[hc] at h1
 simp at h1
theorem Fk {wb w:World} {d O:List UInt8} {g m c nx n:Nat} (h:Fj wb d g m c nx O w) (hO:O.length≤70368744177664) (hn:n≤9223372036854775807):
 Calls Tryz.prog 102 #[I (n:Int),.pointer (some ⟨c,0,none⟩)] w (bF fun _ w'=>Fj wb d g m c nx (O++uv n) w'):=by
 refine enter (vs:=[I (n:Int),.pointer (some ⟨c,0,none⟩)]) Tryz.func102 Jg Jg Jg ?_
 obtain⟨Y,v,hp⟩:=h
 have kc:=hp.cell
 refine bA 4 [1,3,6] (by kernel_rfl) (by kernel_rfl) ?_
 refine aD Jg Jg (fun w hw=>ak IP Jg (hw.cell_some kc.c0)) (ap Jg Jg (dh Jg Jg (fun w hw=>cI IM IL) ?_))
 refine cl (S:=cm (uv n)) iQ (cm.stable _) rfl (fun w hw=>by rintro _ rfl _ rfl;exact bF.mono (iR (cm.nil _) (by simp)) fun v w' h=>⟨h.1,by have:=h.2.bts;rw[List.nil_append,Fa (by omega)] at this;exact this⟩) ?_
 refine bG ?_
 intro wg0 xg0
 rintro _ rfl
 rintro _ hq3
 obtain rfl:=Eq.symm hq3
 intro vg6 b6
 have hp:=hp.xt xg0
 have hul:=fc (n:=n) (by omega)
 obtain⟨v7,w7,r7,o7,g7⟩:=di (ty:=28) hp.own b6 (by omega) (Nat.le_trans hp.fnd.ext.size (Nat.le_refl _))
 refine be Jg Jg r7 ?_
 have kc7:=hp.cell.other g7.grown (fun e=>(hp.own.ne_cell hp.cell) e.symm)
 obtain⟨w8,r8,g8,k8⟩:=jX (P:=Tryz.prog) (t:=28) (v:=v7) cn (by obtain⟨A,n,c,rfl,_⟩:=id o7.bts;rfl) kc7
 refine ar Jg Jg (r8) (ag (gH Jg ?_))
 exact⟨_,rfl,Y,v7,hp.grew g7 o7 g8 k8 (o7.ne_cell kc7)⟩
theorem pa {wb w:World} {d O:List UInt8} {g m c nx n:Nat} {Y:Nat→Prop} {v:Value} (h:Bz wb d g m c nx O Y v w) (hO:O.length≤70368744177664) (hn:n≤9223372036854775807):
 Calls Tryz.prog 102 ((#[]:Array Value)++[I (n:Int)].toArray++ #[.pointer (some ⟨c,0,none⟩)]) w (bF fun _ w'=>Fj wb d g m c nx (O++uv n) w'):=by
 have:=Fk ⟨Y,v,h⟩ hO hn
 simpa using this
theorem Ao:(Tryz.prog.info? 28).map (·.zero)=some (some (.slice none 0 0)):=by kernel_rfl
theorem yN:(Tryz.prog.info? 158).map (·.zero)=some (some (.agg #[.slice none 0 0,.map none,.int .i64 0])):=by kernel_rfl
theorem Fl:(Tryz.prog.info? 156).map (·.size)=some 1:=by kernel_rfl
theorem gD.new {base:Nat} {d:List UInt8} {w:World} {m:Nat} (h:w.heap[m]? =some (.map #[] 0)):gD base d m 0 (fun _=>False) w:=
 ⟨[],0,h,fun e he=>by simp at he,fun i j e f hi=>by simp at hi,fun q hq=>absurd (EY d q) hq⟩
theorem tk {w:World} {d:List UInt8} {v:Value} (hv:cm d v w) (hl:d.length≤1099511627776):
 Calls Tryz.prog 48 #[v] w (bF fun r w'=>aM w w'∧cm (bW d) r w'):=by
 refine enter (vs:=[v]) Tryz.func48 Jg Jg Jg ?_
 have hpl:=nZ (d:=d) (by omega)
 obtain⟨A,n,c0,rfl,_⟩:=id hv
 refine af (aa (ab Jg Jg (ag (ac (af (aa (ae Jg Jg ?_)))))))
 refine BR Jg ?_
 obtain⟨w1,hw1⟩:∃w1,w1=w.alloc (.map #[] 0):=⟨_,rfl⟩
 have x1:aM w w1:=hw1▸aM.new w _
 have m1:w1.heap[w.heap.size]? =some (.map #[] 0):=by rw[hw1];exact heap_alloc_new w _
 rw[←hw1]
 refine bm (vs:=[(0,.slice A n c0),(1,.map (some w.heap.size))]) Jg Jg (r:=.agg #[.slice A n c0,.map (some w.heap.size),I 0]) (by simp[Instr.build,run_underlying Tryz.underlying158,pm yN,dE cn,dE Fl,Instr.fill,Value.cells,I]) ?_
 refine cY Jg Jg (ov) ?_
 obtain⟨w2,hw2⟩:∃w2,w2=w1.alloc (.cells (Value.agg #[.slice A n c0,.map (some w.heap.size),I 0]).cells 158):=⟨_,rfl⟩
 have x2:aM w1 w2:=hw2▸aM.new w1 _
 have k2:cd w1.heap.size 158 [.slice A n c0,.map (some w.heap.size),I ((0:Nat):Int)] w2:=by rw[hw2];exact heap_alloc_new w1 _
 rw[←hw2]
 obtain⟨g,hg⟩:∃g,g=w1.heap.size:=⟨_,rfl⟩
 obtain⟨m,hm⟩:∃m,m=w.heap.size:=⟨_,rfl⟩
 rw[←hg,←hm] at k2
 have hmg:m<g:=by have:=(Array.getElem?_eq_some_iff.1 m1).1;omega
 have fnd0:Al w d g m 0 (fun _=>False) w2:=⟨x1.trans x2,fun k hk=>by
  have:=k2.lt
  have:=x1.size
  rcases hk with rfl|rfl|hk
  ·exact⟨by omega,k2.lt⟩
  ·exact⟨by omega,by omega⟩
  ·exact hk.elim,id,id,by omega,⟨A,n,c0,k2,hv⟩,gD.new (by rw[hm];exact x2.heap_some m1)⟩
 rw[←hg]
 refine ab Jg Jg (ag (ac (af (aa (ae Jg Jg (aP Jg Jg (bz (hv.ext (x1.trans x2))) (aQ Jg Jg (cI IM IL) ?_)))))))
 refine an iQ Jg Jg (iR (cm.nil _) (by simp)) ?_
 rintro v17 w17 ⟨x17,o17⟩
 rw[List.nil_append,Fa (by omega)] at o17
 obtain⟨g4,w4,hr4,l4,x4,k4⟩:=bf (P:=Tryz.prog) (w:=w17) (l:=[.slice none 0 0]) Ao rfl
 refine bh Jg hr4 ?_
 obtain⟨w5,r5,g5,k5⟩:=jX (P:=Tryz.prog) (t:=28) (v:=v17) cn (by obtain⟨A,n,c,rfl,_⟩:=id o17.bts;rfl) k4
 refine ar Jg Jg (r5) ?_
 have x5:aM w2 w5:=aM.of_new (w:=w2) (x17.trans x4) g5 (Nat.le_trans x17.size l4)
 have own5:cD w.heap.size (uv d.length) v17 w5:=by
  obtain⟨n',hn'⟩:=(o17.ext x4).kept g5 (.inr (o17.ext x4|>.ne_cell k4))
  exact⟨n',iX hn' (fun k hk=>Nat.le_trans (x1.trans x2).size (o17.ge k hk))⟩
 have pst0:Fj w d g m g4 0 (uv d.length) w5:=⟨fun _=>False,v17,fnd0.xt x5,k5,own5,fun hf=>by
  rcases hf with rfl|rfl|hf
  ·have:=k2.lt;have:=x17.size;omega
  ·have:=k2.lt;have:=x17.size;omega
  ·exact hf,fun k hk hf=>by
  have:=o17.ge k hk
  rcases hf with rfl|rfl|hf
  ·have:=k2.lt;omega
  ·have:=k2.lt;omega
  ·exact hf,Nat.le_trans (x1.trans x2).size (Nat.le_trans x17.size l4)⟩
 refine ag (ac (af (aa (ab Jg Jg (ag (ac (af (aa ?_))))))))
 refine nr (us:=[]) (vs:=[.pointer (some ⟨g4,0,none⟩)]) Jg Jg Jg ?_
 refine ab Jg Jg (ag (ac (af (af (aa (ab Jg Jg (ag (ac (ax ?_)))))))))
 refine fN (fun(i:Nat) (run:Nat) (O:List UInt8)=>[(0,.slice A n c0),(3,.pointer (some ⟨g,0,none⟩)),(4,.pointer (some ⟨g4,0,none⟩)),(5,I (run:Int)),(6,.func (.func 102) #[] #[.pointer (some ⟨g4,0,none⟩)]),(7,I (i:Int))]) (fun(i:Nat) (run:Nat) (O:List UInt8) w'=>i≤d.length∧run≤i∧(∃nx,nx≤i∧Fj w d g m g4 nx O w')∧O++pk d i run=bW d) (fun(i:Nat) (run:Nat) (O:List UInt8)=>d.length-i) (0) (0) (uv d.length) ⟨rfl,rfl,rfl,rfl,rfl,rfl,trivial⟩ ⟨by omega,by omega,⟨0,by omega,pst0⟩,rfl⟩ ?_
 rintro i run O w6 ⟨hi,hri,⟨nx,hnx,Y,vo,hp⟩,hq⟩
 refine af (af ?_)
 have hOl:O.length≤(bW d).length:=by rw[←hq,List.length_append];omega
 refine aa (ae Jg Jg (ae Jg Jg (aP Jg Jg (bz (hv.ext hp.fnd.ext)) (ai Jg Jg Jg (aX) (ag (ac ?_))))))
 refine bi Jg (fun h22=>?_) (fun h22=>?_)
 ·refine aq (ac (ax (af (aa (ae Jg Jg (ae Jg Jg (an Aj Jg Jg ((An hp.fnd hnx hi hl)) ?_)))))))
  rintro v26 w26 ⟨rfl,nx',Y',hnx',f26,mv26,hY26⟩
  have x26:=f26.ext
  have hp26:=hp.found f26 mv26 hY26
  refine ae Jg Jg (aj Jg Jg (aS) (aj Jg Jg (aT) (ab Jg Jg (ab Jg Jg (ag (ac (af (af (aa (ae Jg Jg (ai Jg Jg Jg (aV) ?_)))))))))))
  refine ag (ac ?_)
  refine bi Jg (fun h30=>?_) (fun h30=>?_)
  ·have hb0:(cV d i).1=0:=by omega
   refine af (aa (ae Jg Jg (ai (r:=I ((i+1:Nat):Int)) Jg Jg Jg (by have e:((i+1:Nat):Int)=(i:Int)+1:=(by omega);rw[e];exact aK (by omega) (by omega)) ?_)))
   refine ab Jg Jg (ag (ac (af (aa (ae Jg Jg (ai (r:=I ((run+1:Nat):Int)) Jg Jg Jg (by have e:((run+1:Nat):Int)=(run:Int)+1:=(by omega);rw[e];exact aK (by omega) (by omega)) ?_))))))
   refine ab Jg Jg (ag (ac (aW (aA (aU ?_)))))
   refine dv (i+1) (run+1) (O) ⟨rfl,rfl,rfl,rfl,rfl,rfl,trivial⟩ ⟨by omega,by omega,⟨nx',by omega,Y',vo,hp26⟩,by rw[pS (by omega) hb0] at hq;exact hq⟩ (by omega)
  ·have hb0:(cV d i).1≠0:=by omega
   obtain⟨h4,h1,h2,h3,_,h5⟩:=lq hb0
   rw[kv (by omega) hb0] at hq
   obtain⟨L,hL⟩:∃L,L=(d.drop (i-run)).take run:=⟨_,rfl⟩
   rw[←hL] at hq
   have hLl:L.length=run:=by rw[hL,List.length_take,List.length_drop];omega
   have u1:=fc (n:=run) (by omega)
   have u2:=fc (n:=(cV d i).1-4) (by omega)
   refine aq (ac (af (aa (ae Jg Jg (ae Jg Jg (oy Jg o2 Jg Jg ((pa hp26 (by omega) (by omega))) ?_))))))
   rintro v37 w37 ⟨Y1,v1,p37⟩
   have x37:=p37.fnd.ext
   refine ag (ac (af ?_))
   have kc:=p37.cell
   refine bA 7 [0,3,4,6,7,8,9,38,44] (by kernel_rfl) (by kernel_rfl) ?_
   refine aD Jg Jg (fun w hw=>ak IP Jg (hw.cell_some kc.c0)) (ap Jg Jg (ap Jg Jg (ap Jg Jg (aR (r:=I ((i-run:Nat):Int)) Jg Jg Jg (fun w _=>by have e:((i-run:Nat):Int)=(i:Int)-(run:Int):=(by omega);rw[e];exact bb (by omega) (by omega)) ?_))))
   refine ap Jg Jg ?_
   obtain⟨v44,p44,b44⟩:=p6 (hv.ext x37) (lo:=i-run) (hi:=i) (by omega) (by omega) .i64 .i64
   refine gI Jg Jg Jg Jg (fun w _=>p44 w) (bG ?_)
   intro wg12 xg12
   rintro _ rfl
   rintro _ rfl
   rintro _ rfl
   rintro _ rfl
   rintro _ rfl
   rintro _ rfl
   rintro _ rfl
   rintro _ hq38
   obtain rfl:=Eq.symm hq38
   rintro _ hq44
   obtain rfl:=Eq.symm hq44
   have b45:cm L v44 wg12:=by have:=b44;rw[List.drop_take,show i-(i-run)=run by omega,←hL] at this;exact this.ext xg12
   have p12:=p37.xt xg12
   obtain⟨v45,w45,r45,o45,g45⟩:=di (ty:=28) p12.own b45 (by simp only[List.length_append];omega) p12.fnd.ext.size
   refine be Jg Jg r45 ?_
   have kc45:=p12.cell.other g45.grown (fun e=>(p12.own.ne_cell p12.cell) e.symm)
   obtain⟨w46,r46,g46,k46⟩:=jX (P:=Tryz.prog) (t:=28) (v:=v45) cn (by obtain⟨A,n,c,rfl,_⟩:=id o45.bts;rfl) kc45
   refine ar Jg Jg (r46) ?_
   have p46:=p12.grew g45 o45 g46 k46 (o45.ne_cell kc45)
   have x46:=p46.fnd.ext
   refine ag (ac (af (aa (ae Jg Jg (ae Jg Jg (ai (r:=I (((cV d i).1-4:Nat):Int)) Jg Jg Jg (by have e:(((cV d i).1-4:Nat):Int)=((cV d i).1:Int)-4:=(by omega);rw[e];exact bb (by omega) (by omega)) ?_))))))
   refine oy Jg o2 Jg Jg ((pa p46 (by simp only[List.length_append];omega) (by omega))) ?_
   rintro v49 w49 ⟨Y2,v2,p49⟩
   have x49:=p49.fnd.ext
   refine ag (ac (af (aa (ae Jg Jg (ae Jg Jg (ai (r:=I (((cV d i).2-1:Nat):Int)) Jg Jg Jg (by have e:(((cV d i).2-1:Nat):Int)=((cV d i).2:Int)-1:=(by omega);rw[e];exact bb (by omega) (by omega)) ?_))))))
   refine oy Jg o2 Jg Jg ((pa p49 (by simp only[List.length_append];omega) (by omega))) ?_
   rintro v53 w53 p53
   have x53:=(p53.elim fun _ h=>h.elim fun _ h=>h.fnd.ext)
   refine ag (ac (af (aa (ae Jg Jg (ae Jg Jg (ai (r:=I ((i+(cV d i).1:Nat):Int)) Jg Jg Jg (by have e:((i+(cV d i).1:Nat):Int)=(i:Int)+((cV d i).1:Int):=(by omega);rw[e];exact aK (by omega) (by omega)) ?_))))))
   refine ab Jg Jg (ag (ac (aa (ab Jg Jg (ag (aJ ?_))))))
   refine dv (i+(cV d i).1) (0) (O++uv run++L++uv ((cV d i).1-4)++uv ((cV d i).2-1)) ⟨rfl,rfl,rfl,rfl,rfl,rfl,trivial⟩ ⟨h5,by omega,⟨nx',by omega,p53⟩,by rw[←hq];simp only[List.append_assoc]⟩ (by omega)
 ·have hie:i=d.length:=by omega
  rw[jW (by omega)] at hq
  refine aW (aA (aA (aU (ac (af (af (aa (ae Jg Jg (ai Jg Jg Jg (ce) (ag (ac ?_)))))))))))
  refine bi Jg (fun h58=>?_) (fun h58=>?_)
  ·rw[if_pos (by omega)] at hq
   have u1:=fc (n:=run) (by omega)
   refine af (aa (ae Jg Jg (ae Jg Jg (oy Jg o2 Jg Jg ((pa hp (by omega) (by omega))) ?_))))
   rintro v61 w61 ⟨Y1,v1,p61⟩
   have x61:=p61.fnd.ext
   refine ag (ac ?_)
   have kc:=p61.cell
   refine bA 7 [4,62,68] (by kernel_rfl) (by kernel_rfl) ?_
   refine aD Jg Jg (fun w hw=>ak IP Jg (hw.cell_some kc.c0)) (ap Jg Jg (ap Jg Jg (lI (vs:=[.slice A n c0]) Jg Jg (fun w hw=>bz ((hv.ext x61).ext hw)) ?_)))
   refine ap Jg Jg (aR (r:=I ((d.length-run:Nat):Int)) Jg Jg Jg (fun w _=>by have e:((d.length-run:Nat):Int)=(d.length:Int)-(run:Int):=(by omega);rw[e];exact bb (by omega) (by omega)) ?_)
   obtain⟨v68,p68,b68⟩:=eZ (hv.ext x61) (lo:=d.length-run) (by omega) .i64
   refine gI Jg Jg Jg Jg (fun w _=>p68 w) (bG ?_)
   intro wg19 xg19
   rintro _ rfl
   rintro _ hq62
   obtain rfl:=Eq.symm hq62
   rintro _ hq68
   obtain rfl:=Eq.symm hq68
   have p19:=p61.xt xg19
   obtain⟨v69,w69,r69,o69,g69⟩:=di (ty:=28) p19.own (b68.ext xg19) (by simp only[List.length_append,List.length_drop];omega) p19.fnd.ext.size
   refine be Jg Jg r69 ?_
   have kc69:=p19.cell.other g69.grown (fun e=>(p19.own.ne_cell p19.cell) e.symm)
   obtain⟨w70,r70,g70,k70⟩:=jX (P:=Tryz.prog) (t:=28) (v:=v69) cn (by obtain⟨A,n,c,rfl,_⟩:=id o69.bts;rfl) kc69
   refine ar Jg Jg (r70) ?_
   have p70:=p19.grew g69 o69 g70 k70 (o69.ne_cell kc69)
   refine ag (ac (af (aa (am Jg Jg (ak IP Jg k70.c0) (ab Jg Jg (ag (ac (au (aF Jg Jg ?_)))))))))
   exact⟨_,rfl,p70.fnd.ext,by rw[←hq,←List.append_assoc];exact p70.own.bts⟩
  ·rw[if_neg (by omega),List.append_nil] at hq
   refine aq (ac (af ?_))
   have kc:=hp.cell
   refine aa (am Jg Jg (ak IP Jg kc.c0) (ab Jg Jg (ag (ac (au (aF Jg Jg ?_))))))
   exact⟨_,rfl,hp.fnd.ext,by rw[←hq];exact hp.own.bts⟩
end Go.Rl
namespace Go.Rl
open Go.RowKit Go.Proofs
theorem C7:az Tryz.prog 53:=⟨_,Tryz.func53,by kernel_rfl,rfl⟩
theorem wI {total:Nat}:∀(f:Nat) (l O out:List UInt8),O.length≤total→qz total f l O=some out→out.length≤total
 |0,_,_,_,_,h=>by cases h
 |f+1,l,O,out,hO,h=>by
  unfold qz at h
  split at h
  ·cases hU:cZ l with
   |none=>rw[hU] at h;cases h
   |some p=>
    obtain⟨n,t⟩:=p
    rw[hU] at h
    simp only[Option.bind_some] at h
    split at h
    ·cases h
    ·rename_i hn
     split at h
     ·split at h
      ·obtain rfl:=Option.some.inj h
       rw[List.length_append,List.length_take];omega
      ·cases h
     ·cases hV:cZ (t.drop n) with
      |none=>rw[hV] at h;cases h
      |some q=>
       obtain⟨m,t2⟩:=q
       rw[hV] at h
       simp only[Option.bind_some] at h
       split at h
       ·cases h
       ·cases hW:cZ t2 with
        |none=>rw[hW] at h;cases h
        |some r=>
         obtain⟨k,t3⟩:=r
         rw[hW] at h
         simp only[Option.bind_some] at h
         split at h
         ·cases h
         ·refine wI f _ _ _ ?_ h
          rw[ww,List.length_append,List.length_take]
          omega
  ·split at h
   ·obtain rfl:=Option.some.inj h
    exact hO
   ·cases h
theorem GY {l t O:List UInt8} {n:Nat} (h:qz n (n+1) t []=some O):vp l t n=if bW O=l then some O else none:=by
 unfold vp;rw[h];rfl
theorem Iz {l t:List UInt8} {n:Nat} (h:qz n (n+1) t []=none):vp l t n=none:=by
 unfold vp;rw[h];rfl
section
variable {w:World} {rest:List UInt8} {v:Value} {total:Nat}
theorem C8 (hv:cm rest v w) (hl:rest.length≤549755813888) (ht:total≤549755813888) (h:qz total (total+1) rest []=none):Calls Tryz.prog 107 #[v,bj (UInt64.ofNat total)] w (bF fun r w'=>aM w w'∧∃u,r=.tuple #[u,B false]):=
 bF.mono (uM hv hl ht) fun _ _ h2=>⟨h2.1,by have:=h2.2;rw[h] at this;exact this⟩
theorem Da {out:List UInt8} (hv:cm rest v w) (hl:rest.length≤549755813888) (ht:total≤549755813888) (h:qz total (total+1) rest []=some out):Calls Tryz.prog 107 #[v,bj (UInt64.ofNat total)] w (bF fun r w'=>aM w w'∧∃u,r=.tuple #[u,B true]∧cm out u w'):=
 bF.mono (uM hv hl ht) fun _ _ h2=>⟨h2.1,by have:=h2.2;rw[h] at this;exact this⟩
end
theorem Db {w:World} {l:List UInt8} {v:Value} {max:Int} (hv:cm l v w) (hl:l.length≤4294967296) (h1: -9223372036854775808≤max) (h2:max≤9223372036854775807) (h3:∀n t,cZ l=some (n,t)→(n:Int)≤max→n≤4294967296):
 Calls Tryz.prog 53 #[v,I max] w (bF fun r w'=>aM w w'∧n0 l max (vp l) r w'):=by
 refine enter (vs:=[v,I max]) Tryz.func53 Jg Jg Jg ?_
 refine af (aa (ab Jg Jg (ab Jg Jg (ag (ac (af (af (aa (ae Jg Jg (ai Jg Jg Jg (aX) (ag (ac ?_))))))))))))
 refine bi Jg (fun h11=>?_) (fun h11=>?_)
 ·have hm:max<0:=h11
  refine af (aa (ab Jg Jg (ab Jg Jg (ag (ac (au (av (aH Jg Jg Jg ?_))))))))
  exact⟨_,rfl,aM.refl _,by unfold n0;rw[if_pos (by omega)];rfl⟩
 ·obtain⟨M,rfl⟩:∃M:Nat,max=(M:Int):=⟨max.toNat,by omega⟩
  refine aq (ac (af ?_))
  rcases hU:cZ l with _|⟨n,t⟩
  ·refine aa (ae Jg Jg (an gE Jg Jg ((mU hv (by omega) hU)) ?_))
   rintro v14 w14 ⟨x14,rfl⟩
   refine ae Jg Jg (aj Jg Jg (eh) (aj Jg Jg (ei) (aj Jg Jg (ej) (ab Jg Jg (ab Jg Jg (ab Jg Jg (ag ?_)))))))
   refine ac (af (af (aa (ae Jg Jg (ci Jg Jg cj (ag (ac (bB Jg (af (aa (ab Jg Jg (ab Jg Jg (ag (ac (au (av (aH Jg Jg Jg ?_)))))))))))))))))
   exact⟨_,rfl,x14,by unfold n0;rw[if_neg (by omega),hU];rfl⟩
  ·obtain⟨hU1,hU2⟩:=eS hU
   have htl:=jB hU
   refine aa (ae Jg Jg (an gE Jg Jg ((mV hv hv (by omega) hU)) ?_))
   rintro v14 w14 ⟨x14,u1,rfl,b1⟩
   refine ae Jg Jg (aj Jg Jg (eh) (aj Jg Jg (ei) (aj Jg Jg (ej) (ab Jg Jg (ab Jg Jg (ab Jg Jg (ag ?_)))))))
   refine ac (af (af (aa (ae Jg Jg (ci Jg Jg cj (ag (ac (cq Jg (aq (ac (af (af (aa (ae Jg Jg (ae Jg Jg (aQ Jg Jg (cI IM IL) ?_))))))))))))))))
   refine ai Jg Jg Jg (ck) (ag (ac ?_))
   refine bi Jg (fun h23=>?_) (fun h23=>?_)
   ·have hbig:M<n:=(gX hU2 (by omega)).1 h23
    refine af (aa (ab Jg Jg (ab Jg Jg (ag (ac (au (av (aH Jg Jg Jg ?_))))))))
    exact⟨_,rfl,x14,by
     unfold n0
     rw[if_neg (by omega),hU]
     show(if (M:Int)<(n:Int) then _ else _)
     rw[if_pos (by omega)];rfl⟩
   ·have hnM:n≤M:=Nat.le_of_not_lt (mt (gX hU2 (by omega)).2 h23)
    have hn3:=h3 n t hU (by omega)
    refine aq (ac (af ?_))
    rcases hE:qz n (n+1) t [] with _|out
    ·refine aa (ae Jg Jg (ae Jg Jg (an uL Jg Jg ((C8 (b1.ext x14) (by omega) (by omega) hE)) ?_)))
     rintro v27 w27 ⟨x27,u2,rfl⟩
     refine ae Jg Jg (aj Jg Jg (aS) (aj Jg Jg (aT) (ab Jg Jg (ab Jg Jg (ag (ac (af (af (aa (ae Jg Jg (ci Jg Jg cj ?_)))))))))))
     refine ae Jg Jg (ao Jg Jg Jg (ao Jg Jg Jg (ao Jg Jg Jg (ao Jg Jg Jg (ao Jg Jg Jg (aw Jg Jg Jg (ag (ac (bB Jg (af (aa (ab Jg Jg ?_))))))))))))
     refine ab Jg Jg (ag (ac (au (av (aH Jg Jg Jg ?_)))))
     exact⟨_,rfl,(x14.trans x27),mX (by omega) hU (by omega) (Iz hE)⟩
    ·have hol:=wI _ _ _ _ (by simp) hE
     refine aa (ae Jg Jg (ae Jg Jg (an uL Jg Jg ((Da (b1.ext x14) (by omega) (by omega) hE)) ?_)))
     rintro v27 w27 ⟨x27,u2,rfl,b2⟩
     refine ae Jg Jg (aj Jg Jg (aS) (aj Jg Jg (aT) (ab Jg Jg (ab Jg Jg (ag (ac (af (af (aa (ae Jg Jg (ci Jg Jg cj ?_)))))))))))
     refine ae Jg Jg (al Jg (ae Jg Jg (al Jg (an tj Jg Jg ((tk b2 (by omega))) ?_))))
     rintro v34 w34 ⟨x34,b34⟩
     refine al Jg (ae Jg Jg (al Jg (an Fb Jg Jg ((Fc b34 (hv.ext ((x14.trans x27).trans x34)))) ?_)))
     rintro v36 w36 ⟨x36,rfl⟩
     refine al Jg (ci Jg Jg cj (aC Jg Jg Jg (ag (ac ?_))))
     refine gZ Jg (fun h38=>?_) (fun h38=>?_)
     ·have hne:¬bW out=l:=by simpa using h38
      refine af (aa (ab Jg Jg (ab Jg Jg (ag (ac (au (av (aH Jg Jg Jg ?_))))))))
      exact⟨_,rfl,(((x14.trans x27).trans x34).trans x36),mX (by omega) hU (by omega) (by rw[GY hE,if_neg hne])⟩
     ·have heq:bW out=l:=by simpa using h38
      refine aq (ac (af (aa (ae Jg Jg (ab Jg Jg (ab Jg Jg (ag (ac (au (aH Jg Jg Jg ?_))))))))))
      exact⟨_,rfl,(((x14.trans x27).trans x34).trans x36),tg (by omega) hU (by omega) (by rw[GY hE,if_pos heq]) (b2.ext (x34.trans x36))⟩
end Go.Rl
namespace Go.Rl
end Go.Rl
namespace Go.Rl
open Go.RowKit Go.Proofs
section
variable {l t:List UInt8} {max:Int} {n:Nat} {f:List UInt8→Nat→Option (List UInt8)} {r:Value} {w:World}
end
end Go.Rl
namespace Go.Rl
open Go.RowKit Go.Proofs
section
variable {l:List UInt8} {max:Int} {f:List UInt8→Nat→Option (List UInt8)} {r:Value} {w:World}
def iT (l:List UInt8) (max:Int) (f:List UInt8→Nat→Option (List UInt8)):List UInt8×Int:=
 if max<0 then([],8) else match cZ l with
  |none=>([],5)
  |some (n,t)=>if max<(n:Int) then([],8) else match f t n with
   |some out=>(out,0)
   |none=>([],5)
theorem yO (h:n0 l max f r w):∃v,r=.tuple #[v,I (iT l max f).2]∧cm (iT l max f).1 v w:=by
 unfold n0 at h
 unfold iT
 split at h
 ·rename_i hm
  rw[if_pos hm]
  exact⟨_,h,cm.nil _⟩
 ·rename_i hm
  rw[if_neg hm]
  cases hU:cZ l with
  |none=>
   rw[hU] at h
   exact⟨_,h,cm.nil _⟩
  |some p=>
   obtain⟨n,t⟩:=p
   rw[hU] at h
   have h:(if max<(n:Int) then r=.tuple #[.slice none 0 0,I 8] else match f t n with
    |some out=>∃v,r=.tuple #[v,I 0]∧cm out v w
    |none=>r=.tuple #[.slice none 0 0,I 5]):=h
   show ∃v,r=.tuple #[v,I (if max<(n:Int) then([],8) else match f t n with
    |some out=>(out,0)
    |none=>([],5):List UInt8×Int).2]∧cm (if max<(n:Int) then([],8) else match f t n with
    |some out=>(out,0)
    |none=>([],5):List UInt8×Int).1 v w
   split at h
   ·rename_i hn
    rw[if_pos hn]
    exact⟨_,h,cm.nil _⟩
   ·rename_i hn
    rw[if_neg hn]
    cases hf:f t n with
    |none=>
     rw[hf] at h
     exact⟨_,h,cm.nil _⟩
    |some out=>
     rw[hf] at h
     exact h
end
theorem wJ {total B:Nat}:∀(f:Nat) (l O out r:List UInt8),O.length≤total+B→l.length≤B→tF total f l O=some (out,r)→out.length≤total+B
 |0,_,_,_,_,_,_,h=>by cases h
 |f+1,l,O,out,r,hO,hl,h=>by
  unfold tF at h
  split at h
  ·cases hB:wZ l with
   |none=>rw[hB] at h;cases h
   |some p=>
    obtain⟨a,t⟩:=p
    have hab:=Ff hB
    rw[hB] at h
    simp only[Option.bind_some] at h
    split at h
    ·rename_i hlt
     cases hU:cZ t with
     |none=>rw[hU] at h;cases h
     |some q=>
      obtain⟨m,t2⟩:=q
      rw[hU] at h
      simp only[Option.bind_some] at h
      have h1:=jB hU
      cases hV:cZ t2 with
      |none=>rw[hV] at h;cases h
      |some s=>
       obtain⟨k,t3⟩:=s
       rw[hV] at h
       simp only[Option.bind_some] at h
       have h2:=jB hV
       split at h
       ·cases h
       ·refine wJ f _ _ _ _ ?_ (by omega) h
        rw[ww]
        omega
    ·simp only[Option.some.injEq,Prod.mk.injEq] at h
     rw[←h.1,List.length_append];omega
  ·simp only[Option.some.injEq,Prod.mk.injEq] at h
   rw[←h.1];exact hO
theorem Fm {l:List UInt8} {max:Int} (hl:l.length≤4294967296) (h2:max≤4294967296):iT l max (vr l)=iT l max (vp l):=by
 unfold iT
 split
 ·rfl
 ·cases hU:cZ l with
  |none=>rfl
  |some p=>
   obtain⟨n,t⟩:=p
   simp only[]
   split
   ·rfl
   ·have htl:=jB hU
    rw[Iq hU (fun out h=>by have:=wI _ _ _ _ (by simp) h;omega) (fun p h=>by have:=wJ (B:=t.length) _ _ _ p.1 p.2 (by simp) (Nat.le_refl _) h;omega)]
end Go.Rl
namespace Go.Rl
open Go.RowKit Go.Proofs
theorem tl:(Tryz.prog.info? 183).map (·.zero)=some (some (.agg (List.replicate 64 (bw 0)).toArray)):=by kernel_rfl
theorem tm:(Tryz.prog.info? 183).map (·.size)=some 64:=by kernel_rfl
theorem eN:az Tryz.prog 159:=⟨_,Tryz.func159,by kernel_rfl,rfl⟩
theorem tn:az Tryz.prog 160:=⟨_,Tryz.func160,by kernel_rfl,rfl⟩
theorem eO {w:World} {x:UInt32} (n:Nat) (h0:0<n) (h1:n<32):
 Calls Tryz.prog 159 #[bw x,I (n:Int)] w (bF fun r w'=>aM w w'∧r=bw (gT x n)):=by
 refine enter (vs:=[bw x,I (n:Int)]) Tryz.func159 Jg Jg Jg ?_
 refine af (aa (ab Jg Jg (ag (ac (af ?_)))))
 have e:(32:Int)-(n:Int)=((32-n:Nat):Int):=by omega
 refine bA 8 [12] (by kernel_rfl) (by kernel_rfl) ?_
 refine ap Jg Jg (ap Jg Jg ?_)
 refine aR Jg Jg Jg (fun w _=>db n h1) ?_
 refine ap Jg Jg (ap Jg Jg ?_)
 refine aR (r:=I ((32-n:Nat):Int)) Jg Jg Jg (fun w _=>by rw[←e];exact bb (by omega) (by omega)) ?_
 refine aR Jg Jg Jg (fun w _=>eC (32-n) (by omega)) ?_
 refine aR Jg Jg Jg (fun w _=>eX) ?_
 refine bG ?_
 intro w' hw
 rintro _ rfl
 refine ab Jg Jg (ag (ac (au ?_)))
 refine aF Jg Jg ?_
 exact⟨_,rfl,hw,rfl⟩
theorem tq (w:World):
 Calls Tryz.prog 160 #[] w (bF fun r w'=>aM w w'∧r=.agg (kc.map bw).toArray):=by
 refine enter (vs:=[]) Tryz.func160 Jg Jg Jg ?_
 refine af (aa (bh Jg (vn tl) (ag (ac (af (aa ?_))))))
 refine bm Jg Jg (run_build _ _ _ (kc.map bw).toArray (by kernel_rfl)) ?_
 have hb:=cd.new (w:=w) (T:=183) (.agg (List.replicate 64 (bw 0)).toArray) rfl
 refine ar Jg Jg (gW hb Jg tm (jq _)) ?_
 refine ag (ac (au ?_))
 refine ep Jg Jg (hb.row _) Jf Jg tm ?_
 refine⟨_,rfl,?_,rfl⟩
 exact(aM.new w _).of_grown (bo _ _ _) fun k hk=>by
  obtain rfl:=Option.some.inj hk
  exact Nat.le_refl _
theorem dY:az Tryz.prog 122:=⟨_,Tryz.func122,by kernel_rfl,rfl⟩
theorem qR:az Tryz.prog 121:=⟨_,Tryz.func121,by kernel_rfl,rfl⟩
theorem dZ {w:World} {x:UInt32} (n:Nat) (h0:0<n) (h1:n<32):
 Calls Tryz.prog 122 #[bw x,I (n:Int)] w (bF fun r w'=>aM w w'∧r=bw (gT x n)):=by
 refine enter (vs:=[bw x,I (n:Int)]) Tryz.func122 Jg Jg Jg ?_
 refine af (aa (ab Jg Jg (ag (ac (af ?_)))))
 have e:(32:Int)-(n:Int)=((32-n:Nat):Int):=by omega
 refine bA 8 [12] (by kernel_rfl) (by kernel_rfl) ?_
 refine ap Jg Jg (ap Jg Jg ?_)
 refine aR Jg Jg Jg (fun w _=>db n h1) ?_
 refine ap Jg Jg (ap Jg Jg ?_)
 refine aR (r:=I ((32-n:Nat):Int)) Jg Jg Jg (fun w _=>by rw[←e];exact bb (by omega) (by omega)) ?_
 refine aR Jg Jg Jg (fun w _=>eC (32-n) (by omega)) ?_
 refine aR Jg Jg Jg (fun w _=>eX) ?_
 refine bG ?_
 intro w' hw
 rintro _ rfl
 refine ab Jg Jg (ag (ac (au ?_)))
 refine aF Jg Jg ?_
 exact⟨_,rfl,hw,rfl⟩
theorem qS (w:World):
 Calls Tryz.prog 121 #[] w (bF fun r w'=>aM w w'∧r=.agg (kc.map bw).toArray):=by
 refine enter (vs:=[]) Tryz.func121 Jg Jg Jg ?_
 refine af (aa (bh Jg (vn tl) (ag (ac (af (aa ?_))))))
 refine bm Jg Jg (run_build _ _ _ (kc.map bw).toArray (by kernel_rfl)) ?_
 have hb:=cd.new (w:=w) (T:=183) (.agg (List.replicate 64 (bw 0)).toArray) rfl
 refine ar Jg Jg (gW hb Jg tm (jq _)) ?_
 refine ag (ac (au ?_))
 refine ep Jg Jg (hb.row _) Jf Jg tm ?_
 refine⟨_,rfl,?_,rfl⟩
 exact(aM.new w _).of_grown (bo _ _ _) fun k hk=>by
  obtain rfl:=Option.some.inj hk
  exact Nat.le_refl _
end Go.Rl
namespace Go.Rl
open Go.RowKit Go.Proofs
theorem BA:(Tryz.prog.info? 112).map (·.zero)=some (some (.agg (List.replicate 8 (bw 0)).toArray)):=by kernel_rfl
theorem mg:(Tryz.prog.info? 112).map (·.size)=some 8:=by kernel_rfl
section
variable {w:World} {g o:Nat} {T:TypeId}
theorem dJ (i:Nat) (hi:i<8):(Instr.indexAt 112 (.pointer (some ⟨g,0,none⟩)) (I (i:Int))).run Tryz.prog w=.ok (.pointer (some ⟨g,i,none⟩)) w:=by
 have:=AT (P:=Tryz.prog) (w:=w) (g:=g) (o:=0) I9 dU hi .i64
 rwa [Nat.zero_add] at this
theorem gl (i:Nat) (hi:i<64):(Instr.indexAt 183 (.pointer (some ⟨g,0,none⟩)) (I (i:Int))).run Tryz.prog w=.ok (.pointer (some ⟨g,i,none⟩)) w:=by
 have:=AT (P:=Tryz.prog) (w:=w) (g:=g) (o:=0) Jf dU hi .i64
 rwa [Nat.zero_add] at this
theorem da {m:List UInt32} (h:cd g T (m.map bw) w) (i:Nat) (hi:i<m.length):(Instr.loadAt 111 (.pointer (some ⟨g,i,none⟩))).run Tryz.prog w=.ok (bw (m.getD i 0)) w:=
 ak Tryz.underlying111 rfl (h.cell (by simp[hi]))
theorem yP {m:List UInt32} {x:UInt32} (h:cd g T (m.map bw) w) (i:Nat) (hi:i<m.length):(Instr.storeAt 111 (.pointer (some ⟨g,i,none⟩)) (bw x)).run Tryz.prog w=.ok () (w.setCell ⟨g,i,none⟩ (bw x)):=
 dm dU rfl h (by simpa using hi)
theorem cd.setU {m:List UInt32} (h:cd g T (m.map bw) w) (i:Nat) (x:UInt32):cd g T ((m.set i x).map bw) (w.setCell ⟨g,i,none⟩ (bw x)):=by
 have:=h.set i (bw x)
 rwa [←List.map_set] at this
end
def dk (l:List UInt32):List UInt32:=l++List.replicate (64-l.length) 0
theorem lu {l:List UInt32} (h:l.length≤64):(dk l).length=64:=by simp[dk];omega
theorem fJ {l:List UInt32} {i:Nat} (h:i<l.length):(dk l).getD i 0=l.getD i 0:=by
 simp[dk,List.getD,List.getElem?_append_left h]
theorem lw {l:List UInt32} (x:UInt32) (h:l.length<64):(dk l).set l.length x=dk (l++[x]):=by
 unfold dk
 rw[List.set_append_right _ _ (Nat.le_refl _),Nat.sub_self]
 have:64-l.length=(64-(l++[x]).length)+1:=by simp;omega
 rw[this,List.replicate_succ,List.set_cons_zero,List.append_assoc]
 rfl
theorem tt (b:List UInt8) (k:Nat):iG b (k+1)=iG b k++[oI b k]:=by simp[iG,List.range_succ]
theorem jj (b:List UInt8) (k:Nat):(iG b k).length=k:=by simp[iG]
def iL (s v:List UInt32) (i:Nat):List UInt32:=List.zipWith (· + ·) (s.take i) (v.take i)++s.drop i
theorem Dc {s v:List UInt32} (hs:s.length=8) (hv:v.length=8) {i:Nat} (hi:i≤8):(iL s v i).length=8:=by
 simp[iL,hs,hv];omega
theorem uN {s v:List UInt32} (hs:s.length=8) (hv:v.length=8) {i:Nat} (hi:i<8):(iL s v i).getD i 0=s.getD i 0:=by
 have h:(List.zipWith (· + ·) (s.take i) (v.take i)).length=i:=by simp[hs,hv];omega
 simp only[iL,List.getD_eq_getElem?_getD]
 rw[List.getElem?_append_right (by omega),h]
 simp
theorem uO {s v:List UInt32} (hs:s.length=8) (hv:v.length=8) {i:Nat} (hi:i<8):(iL s v i).set i (s.getD i 0+v.getD i 0)=iL s v (i+1):=by
 have h:(List.zipWith (· + ·) (s.take i) (v.take i)).length=i:=by simp[hs,hv];omega
 have h1:s.getD i 0=s[i]:=by simp[List.getD,hs,hi]
 have h2:v.getD i 0=v[i]:=by simp[List.getD,hv,hi]
 unfold iL
 rw[List.set_append_right _ _ (by omega),h,Nat.sub_self,h1,h2]
 rw[List.drop_eq_getElem_cons (by omega:i<s.length),List.set_cons_zero,List.take_succ_eq_append_getElem (by omega:i<s.length),List.take_succ_eq_append_getElem (by omega:i<v.length)]
 rw[List.zipWith_append (by simp[hs,hv])]
 simp
theorem uP {s v:List UInt32} (hs:s.length=8) (hv:v.length=8):iL s v 8=List.zipWith (· + ·) s v:=by
 have h1:s.take 8=s:=List.take_of_length_le (by omega)
 have h2:v.take 8=v:=List.take_of_length_le (by omega)
 have h3:s.drop 8=[]:=List.drop_eq_nil_of_le (by omega)
 unfold iL
 rw[h1,h2,h3,List.append_nil]
end Go.Rl
namespace Go.Rl
open Go.RowKit Go.Proofs
theorem yQ:az Tryz.prog 62:=⟨_,Tryz.func62,by kernel_rfl,rfl⟩
theorem Fo {P:Program} {w:World} {t:TypeId} {v:Value} {l:List Value} (hv:v.cells=l.toArray):∃g w',(Instr.box t v).run P w=.ok (.pointer (some ⟨g,0,none⟩)) w'∧w.heap.size≤g∧aM w w'∧cd g t l w':=
 ⟨_,_,ov,Nat.le_refl _,aM.new w _,cd.new v hv⟩
theorem cm.reads {b:List UInt8} {v:Value} {w:World} (h:cm b v w):∃ad:Nat→Addr,∀i,i<b.length→
 (∀w':World,(Instr.indexAt 28 v (I (i:Int))).run Tryz.prog w'=.ok (.pointer (some (ad i))) w')∧∀w',aM w w'→(Instr.loadAt 5 (.pointer (some (ad i)))).run Tryz.prog w'=.ok (U8 (b.getD i 0)) w':=by
 have hall:∀i:Nat,∃ad:Addr,i<b.length→(∀w':World,(Instr.indexAt 28 v (I (i:Int))).run Tryz.prog w'=.ok (.pointer (some ad)) w')∧∀w',aM w w'→(Instr.loadAt 5 (.pointer (some ad))).run Tryz.prog w'=.ok (U8 (b.getD i 0)) w':=fun i=>by
  by_cases hi:i<b.length
  ·obtain⟨ad,had,hcell⟩:=er h hi .i64
   refine⟨ad,fun _=>⟨had,fun w' hw'=>?_⟩⟩
   obtain⟨ad',had',hcell'⟩:=er (h.ext hw') hi .i64
   have:=(had w').symm.trans (had' w')
   simp only[Result.ok.injEq,Value.pointer.injEq,Option.some.injEq,and_true] at this
   subst this
   have e:b.getD i 0=b[i]:=by simp[List.getD,hi]
   rw[e]
   exact GF hcell'
  ·exact⟨⟨0,0,none⟩,fun h=>absurd h hi⟩
 exact⟨fun i=>Classical.choose (hall i),fun i hi=>Classical.choose_spec (hall i) hi⟩
theorem yR {w:World} {s:List UInt32} {b:List UInt8} {v:Value} (hs:s.length=8) (hbl:b.length=64) (hv:cm b v w):
 Calls Tryz.prog 62 #[.agg (s.map bw).toArray,v] w (bF fun r w'=>aM w w'∧r=.agg ((tI s b).map bw).toArray):=by
 refine enter (vs:=[.agg (s.map bw).toArray,v]) Tryz.func62 Jg Jg Jg ?_
 obtain⟨g2,w1,hr,n2,x1,b2⟩:=Fo (P:=Tryz.prog) (w:=w) (t:=112) (v:=.agg (s.map bw).toArray) (l:=s.map bw) rfl
 refine af (aa (cY Jg Jg hr ?_))
 obtain⟨g4,w2,hr,n4,x2,b4⟩:=bf (P:=Tryz.prog) (w:=w1) (l:=(List.replicate 8 0).map bw) BA rfl
 refine bh Jg hr (ag (ac (af (aa ?_))))
 refine an (vs:=[]) qR Jg Jg (qS w2) ?_
 rintro _ w3 ⟨x3,rfl⟩
 obtain⟨g5,w4,hr,n5,x4,b5⟩:=bf (P:=Tryz.prog) (w:=w3) (l:=List.replicate 64 (bw 0)) tl rfl
 refine bh Jg hr ?_
 refine ar Jg Jg (gW b5 Jg tm (jq _)) ?_
 have b5':=b5.row (kc.map bw)
 have q5:=bo w4 g5 (kc.map bw).toArray
 revert b5' q5
 generalize w4.setRow g5 (kc.map bw).toArray=w5
 intro b5' q5
 refine ag (ac (af (aa ?_)))
 obtain⟨g6,w6,hr,n6,x6,b6⟩:=bf (P:=Tryz.prog) (w:=w5) (l:=(dk []).map bw) tl rfl
 refine bh Jg hr (ag (ac ?_))
 have l24:g2<g4:=Nat.lt_of_lt_of_le b2.lt n4
 have l45:g4<g5:=Nat.lt_of_lt_of_le b4.lt (Nat.le_trans x3.size n5)
 have l56:g5<g6:=Nat.lt_of_lt_of_le b5'.lt n6
 have ne4:some g4≠some g5:=fun h=>by cases h;omega
 have ne2:some g2≠some g5:=fun h=>by cases h;omega
 have B2:cd g2 _ _ w6:=((((b2.ext x2).ext x3).ext x4).other q5 ne2).ext x6
 have B4:cd g4 _ _ w6:=(((b4.ext x3).ext x4).other q5 ne4).ext x6
 have B5:cd g5 _ _ w6:=b5'.ext x6
 have E6:aM w w6:=((((x1.trans x2).trans x3).trans x4).of_new q5 (by omega)).trans x6
 have hw6:w.heap.size≤g6:=by omega
 obtain⟨ad,had⟩:=hv.reads
 refine af (eV (fun _:Unit=>[(2,.pointer (some ⟨g2,0,none⟩)),(4,.pointer (some ⟨g4,0,none⟩)),(5,.pointer (some ⟨g5,0,none⟩)),(6,.pointer (some ⟨g6,0,none⟩))]) (fun _ w'=>w6.grownBy w' (some g6)∧cd g6 183 ((dk (bC b 0)).map bw) w') ?_ ?_)
 ·refine af (aa (ab Jg Jg (ag (ac (ax ?_)))))
  refine bV (α:=Nat) (fun k=>[(1,v),(2,.pointer (some ⟨g2,0,none⟩)),(4,.pointer (some ⟨g4,0,none⟩)),(5,.pointer (some ⟨g5,0,none⟩)),(6,.pointer (some ⟨g6,0,none⟩)),(7,I (k:Int))])
   (fun k w'=>w6.grownBy w' (some g6)∧cd g6 183 ((dk (iG b k)).map bw) w'∧k≤16) (fun k=>16-k) 0 ⟨rfl,rfl,rfl,rfl,rfl,rfl,trivial⟩
   ⟨dj (aM.refl _),b6,by omega⟩ ?_
  rintro k w7 ⟨q7,b7,hk⟩
  refine af (af (aa (ae Jg Jg ?_)))
  refine ai Jg Jg Jg (aX) ?_
  refine ag (ac ?_)
  refine bi Jg (fun h=>?_) (fun h=>?_)
  ·have hk16:k<16:=by omega
   have E7:aM w w7:=E6.of_new q7 hw6
   refine aq (ac (af (ax ?_)))
   have e0:(4:Int)*(k:Int)=((4*k:Nat):Int):=by omega
   have e1:((4*k:Nat):Int)+1=((4*k+1:Nat):Int):=by omega
   have e2:((4*k:Nat):Int)+2=((4*k+2:Nat):Int):=by omega
   have e3:((4*k:Nat):Int)+3=((4*k+3:Nat):Int):=by omega
   refine bA 35 [1,2,4,5,6,7,58,59] (by kernel_rfl) (by kernel_rfl) ?_
   refine ap Jg Jg (ap Jg Jg (ap Jg Jg ?_))
   refine aR (r:=I ((4*k:Nat):Int)) Jg Jg Jg (fun w _=>by rw[←e0];exact eR (by omega) (by omega)) ?_
   refine ay Jg Jg Jg (fun w _=>(had (4*k) (by omega)).1 w) ?_
   refine aD Jg Jg (fun w' hw=>(had (4*k) (by omega)).2 w' (E7.trans hw)) ?_
   refine dh Jg Jg (fun w _=>dT IR IK) ?_
   refine aR Jg Jg Jg (fun w _=>eC 24 (by omega)) ?_
   refine ap Jg Jg (ap Jg Jg ?_)
   refine aR (r:=I ((4*k:Nat):Int)) Jg Jg Jg (fun w _=>by rw[←e0];exact eR (by omega) (by omega)) ?_
   refine aR (r:=I ((4*k+1:Nat):Int)) Jg Jg Jg (fun w _=>by rw[←e1];exact aK (by omega) (by omega)) ?_
   refine ay Jg Jg Jg (fun w _=>(had (4*k+1) (by omega)).1 w) ?_
   refine aD Jg Jg (fun w' hw=>(had (4*k+1) (by omega)).2 w' (E7.trans hw)) ?_
   refine dh Jg Jg (fun w _=>dT IR IK) ?_
   refine aR Jg Jg Jg (fun w _=>eC 16 (by omega)) ?_
   refine aR Jg Jg Jg (fun w _=>eX) ?_
   refine ap Jg Jg (ap Jg Jg ?_)
   refine aR (r:=I ((4*k:Nat):Int)) Jg Jg Jg (fun w _=>by rw[←e0];exact eR (by omega) (by omega)) ?_
   refine aR (r:=I ((4*k+2:Nat):Int)) Jg Jg Jg (fun w _=>by rw[←e2];exact aK (by omega) (by omega)) ?_
   refine ay Jg Jg Jg (fun w _=>(had (4*k+2) (by omega)).1 w) ?_
   refine aD Jg Jg (fun w' hw=>(had (4*k+2) (by omega)).2 w' (E7.trans hw)) ?_
   refine dh Jg Jg (fun w _=>dT IR IK) ?_
   refine aR Jg Jg Jg (fun w _=>eC 8 (by omega)) ?_
   refine aR Jg Jg Jg (fun w _=>eX) ?_
   refine ap Jg Jg (ap Jg Jg ?_)
   refine aR (r:=I ((4*k:Nat):Int)) Jg Jg Jg (fun w _=>by rw[←e0];exact eR (by omega) (by omega)) ?_
   refine aR (r:=I ((4*k+3:Nat):Int)) Jg Jg Jg (fun w _=>by rw[←e3];exact aK (by omega) (by omega)) ?_
   refine ay Jg Jg Jg (fun w _=>(had (4*k+3) (by omega)).1 w) ?_
   refine aD Jg Jg (fun w' hw=>(had (4*k+3) (by omega)).2 w' (E7.trans hw)) ?_
   refine dh Jg Jg (fun w _=>dT IR IK) ?_
   refine aR Jg Jg Jg (fun w _=>eX) ?_
   refine ay Jg Jg Jg (fun w _=>gl k (by omega)) ?_
   refine bG ?_
   intro w8 hx8
   rintro _ rfl _ rfl _ rfl _ rfl _ rfl _ rfl _ rfl _ rfl
   have hlen:(dk (iG b k)).length=64:=lu (by rw[jj];omega)
   refine ar Jg Jg (yP (x:=oI b k) (b7.ext hx8) k (by omega)) ?_
   have b8:=(b7.ext hx8).setU k (oI b k)
   have q8:=(q7.trans (dj hx8)).trans (aY w8 g6 k (bw (oI b k)))
   have hset:(dk (iG b k)).set k (oI b k)=dk (iG b (k+1)):=by
    have:=lw (l:=iG b k) (oI b k) (by rw[jj];omega)
    rw[jj] at this
    rw[this,tt]
   rw[hset] at b8
   refine ag (aJ (ac (aa (ae Jg Jg ?_))))
   refine ai Jg Jg Jg (aK (by omega) (by omega)) ?_
   refine ab Jg Jg (ag ?_)
   exact bM (k+1) ⟨rfl,rfl,rfl,rfl,rfl,rfl,trivial⟩ ⟨q8,b8,by omega⟩ (by omega)
  ·have hk':k=16:=by omega
   subst hk'
   exact aW (aA (aA (aU (cv () ⟨rfl,rfl,rfl,rfl,trivial⟩ ⟨q7,b7⟩))))
 rintro _ w7 ⟨q7,b7⟩
 refine ac ?_
 refine af (eV (fun _:Unit=>[(2,.pointer (some ⟨g2,0,none⟩)),(4,.pointer (some ⟨g4,0,none⟩)),(5,.pointer (some ⟨g5,0,none⟩)),(6,.pointer (some ⟨g6,0,none⟩))]) (fun _ w'=>w6.grownBy w' (some g6)∧cd g6 183 ((bC b 48).map bw) w') ?_ ?_)
 ·refine af (aa (ab Jg Jg (ag (ac (ax ?_)))))
  refine bV (α:=Nat) (fun k=>[(2,.pointer (some ⟨g2,0,none⟩)),(4,.pointer (some ⟨g4,0,none⟩)),(5,.pointer (some ⟨g5,0,none⟩)),(6,.pointer (some ⟨g6,0,none⟩)),(8,I ((16+k:Nat):Int))])
   (fun k w'=>w6.grownBy w' (some g6)∧cd g6 183 ((dk (bC b k)).map bw) w'∧k≤48) (fun k=>48-k) 0 ⟨rfl,rfl,rfl,rfl,rfl,trivial⟩
   ⟨q7,b7,by omega⟩ ?_
  clear q7 b7
  rintro k w7 ⟨q7,b7,hk⟩
  have hL:=kj b k
  refine af (af (aa (ae Jg Jg ?_)))
  refine ai Jg Jg Jg (aX) ?_
  refine ag (ac ?_)
  refine bi Jg (fun h=>?_) (fun h=>?_)
  ·have hk48:k<48:=by omega
   refine aq (ac (af (ax (af ?_))))
   have e15:((16+k:Nat):Int)-15=(((bC b k).length-15:Nat):Int):=by omega
   have e2:((16+k:Nat):Int)-2=(((bC b k).length-2:Nat):Int):=by omega
   have e16:((16+k:Nat):Int)-16=(((bC b k).length-16:Nat):Int):=by omega
   have e7:((16+k:Nat):Int)-7=(((bC b k).length-7:Nat):Int):=by omega
   have f15:=fJ (l:=bC b k) (i:=(bC b k).length-15) (by omega)
   have f2:=fJ (l:=bC b k) (i:=(bC b k).length-2) (by omega)
   have f16:=fJ (l:=bC b k) (i:=(bC b k).length-16) (by omega)
   have f7:=fJ (l:=bC b k) (i:=(bC b k).length-7) (by omega)
   have hlen:(dk (bC b k)).length=64:=lu (by omega)
   refine bA 9 [2,4,5,6,8,9,71] (by kernel_rfl) (by kernel_rfl) ?_
   refine ap Jg Jg ?_
   refine aR (r:=I (((bC b k).length-15:Nat):Int)) Jg Jg Jg (fun w _=>by rw[←e15];exact bb (by omega) (by omega)) ?_
   refine ay Jg Jg Jg (fun w _=>gl _ (by omega)) ?_
   refine aD (r:=bw ((bC b k).getD ((bC b k).length-15) 0)) Jg Jg (fun w' hw=>by rw[←f15];exact da (b7.ext hw) _ (by omega)) ?_
   refine ap Jg Jg ?_
   refine aR (r:=I (((bC b k).length-2:Nat):Int)) Jg Jg Jg (fun w _=>by rw[←e2];exact bb (by omega) (by omega)) ?_
   refine ay Jg Jg Jg (fun w _=>gl _ (by omega)) ?_
   refine aD (r:=bw ((bC b k).getD ((bC b k).length-2) 0)) Jg Jg (fun w' hw=>by rw[←f2];exact da (b7.ext hw) _ (by omega)) ?_
   refine eg Jg Jg (bG ?_)
   intro w8 hx8
   rintro _ rfl _ rfl _ rfl _ rfl _ rfl _ rfl _ rfl
   refine ab Jg Jg (ag (ac (af (aa (ae Jg Jg ?_)))))
   refine an dY Jg Jg (dZ 7 (by omega) (by omega)) ?_
   rintro _ w9 ⟨hx9,rfl⟩
   refine ae Jg Jg ?_
   refine an dY Jg Jg (dZ 18 (by omega) (by omega)) ?_
   rintro _ w10 ⟨hx10,rfl⟩
   refine ai Jg Jg Jg (cE) ?_
   refine ae Jg Jg ?_
   refine ai Jg Jg Jg (db 3 (by omega)) ?_
   refine ai Jg Jg Jg (cE) ?_
   refine ab Jg Jg (ag (ac (af (aa (ae Jg Jg ?_)))))
   refine an dY Jg Jg (dZ 17 (by omega) (by omega)) ?_
   rintro _ w11 ⟨hx11,rfl⟩
   refine ae Jg Jg ?_
   refine an dY Jg Jg (dZ 19 (by omega) (by omega)) ?_
   rintro _ w12 ⟨hx12,rfl⟩
   refine ai Jg Jg Jg (cE) ?_
   refine ae Jg Jg ?_
   refine ai Jg Jg Jg (db 10 (by omega)) ?_
   refine ai Jg Jg Jg (cE) ?_
   refine ab Jg Jg (ag (ac ?_))
   have x12:=(((hx8.trans hx9).trans hx10).trans hx11).trans hx12
   have b12:=b7.ext x12
   refine bA 15 [2,4,5,6,8,101,102] (by kernel_rfl) (by kernel_rfl) ?_
   refine ap Jg Jg (ap Jg Jg ?_)
   refine aR (r:=I (((bC b k).length-16:Nat):Int)) Jg Jg Jg (fun w _=>by rw[←e16];exact bb (by omega) (by omega)) ?_
   refine ay Jg Jg Jg (fun w _=>gl _ (by omega)) ?_
   refine aD (r:=bw ((bC b k).getD ((bC b k).length-16) 0)) Jg Jg (fun w' hw=>by rw[←f16];exact da (b12.ext hw) _ (by omega)) ?_
   refine ap Jg Jg ?_
   refine aR Jg Jg Jg (fun w _=>cg) ?_
   refine ap Jg Jg ?_
   refine aR (r:=I (((bC b k).length-7:Nat):Int)) Jg Jg Jg (fun w _=>by rw[←e7];exact bb (by omega) (by omega)) ?_
   refine ay Jg Jg Jg (fun w _=>gl _ (by omega)) ?_
   refine aD (r:=bw ((bC b k).getD ((bC b k).length-7) 0)) Jg Jg (fun w' hw=>by rw[←f7];exact da (b12.ext hw) _ (by omega)) ?_
   refine aR Jg Jg Jg (fun w _=>cg) ?_
   refine ap Jg Jg ?_
   refine aR Jg Jg Jg (fun w _=>cg) ?_
   refine ay Jg Jg Jg (fun w _=>gl (16+k) (by omega)) ?_
   refine bG ?_
   intro w13 hx13
   rintro _ rfl _ rfl _ rfl _ rfl _ rfl _ rfl _ rfl
   refine ar Jg Jg (yP (x:=lT (bC b k)) (b12.ext hx13) (16+k) (by omega)) ?_
   have b13:=(b12.ext hx13).setU (16+k) (lT (bC b k))
   have q13:=((q7.trans (dj x12)).trans (dj hx13)).trans (aY w13 g6 (16+k) (bw (lT (bC b k))))
   have hset:(dk (bC b k)).set (16+k) (lT (bC b k))=dk (bC b (k+1)):=by
    have:=lw (l:=bC b k) (lT (bC b k)) (by omega)
    rw[hL] at this
    exact this
   rw[hset] at b13
   refine ag (aJ (ac (aa (ae Jg Jg ?_))))
   refine ai Jg Jg Jg (aK (by omega) (by omega)) ?_
   refine ab Jg Jg (ag ?_)
   exact bM (k+1) ⟨rfl,rfl,rfl,rfl,rfl,trivial⟩ ⟨q13,b13,by omega⟩ (by omega)
  ·have hk':k=48:=by omega
   subst hk'
   have hf:dk (bC b 48)=bC b 48:=by
    unfold dk
    rw[hL]
    exact List.append_nil _
   rw[hf] at b7
   exact aW (aA (aA (aU (cv () ⟨rfl,rfl,rfl,rfl,trivial⟩ ⟨q7,b7⟩))))
 clear q7 b7
 rintro _ w7 ⟨q7,b7⟩
 refine ac ?_
 have E7:aM w w7:=E6.of_new q7 hw6
 have ne26:some g2≠some g6:=fun h=>by cases h;omega
 have ne46:some g4≠some g6:=fun h=>by cases h;omega
 have ne56:some g5≠some g6:=fun h=>by cases h;omega
 have C2:=B2.other q7 ne26
 have C4:=B4.other q7 ne46
 have C5:=B5.other q7 ne56
 have hlen8:(Tryz.prog.info? 112).map (·.size)=some (s.map bw).length:=by rw[List.length_map,hs];exact mg
 refine af (aa ?_)
 refine am Jg Jg (lJ (m:=s.map bw) C2 (fun j v h=>by rwa [Nat.zero_add]) I9 Jg hlen8) ?_
 obtain⟨g13,w8,hr,n13,x8,b13⟩:=bf (P:=Tryz.prog) (w:=w7) (l:=(List.replicate 8 0).map bw) BA rfl
 refine bh Jg hr ?_
 refine ar Jg Jg (gW b13 (by simp[hs]) hlen8 (jq _)) ?_
 have b13':=b13.row (s.map bw)
 have q13:=bo w8 g13 (s.map bw).toArray
 have l13:g6<g13:=Nat.lt_of_lt_of_le b7.lt n13
 have ne213:some g2≠some g13:=fun h=>by cases h;omega
 have ne413:some g4≠some g13:=fun h=>by cases h;omega
 have ne513:some g5≠some g13:=fun h=>by cases h;omega
 have ne613:some g6≠some g13:=fun h=>by cases h;omega
 have D2:=(C2.ext x8).other q13 ne213
 have D4:=(C4.ext x8).other q13 ne413
 have D5:=(C5.ext x8).other q13 ne513
 have D6:=(b7.ext x8).other q13 ne613
 have E8:aM w (w8.setRow g13 (s.map bw).toArray):=(E7.trans x8).of_new q13 (by omega)
 revert b13' D2 D4 D5 D6 E8
 generalize w8.setRow g13 (s.map bw).toArray=w9
 intro b13' D2 D4 D5 D6 E9
 refine ag (ac ?_)
 refine af (eV (fun _:Unit=>[(2,.pointer (some ⟨g2,0,none⟩)),(4,.pointer (some ⟨g4,0,none⟩)),(13,.pointer (some ⟨g13,0,none⟩))]) (fun _ w'=>w9.grownBy w' (some g13)∧cd g13 112 ((dN b s 64).map bw) w') ?_ ?_)
 ·refine af (aa (ab Jg Jg (ag (ac (ax ?_)))))
  refine bV (α:=Nat) (fun i=>[(2,.pointer (some ⟨g2,0,none⟩)),(4,.pointer (some ⟨g4,0,none⟩)),(5,.pointer (some ⟨g5,0,none⟩)),(6,.pointer (some ⟨g6,0,none⟩)),(13,.pointer (some ⟨g13,0,none⟩)),(14,I (i:Int))])
   (fun i w'=>w9.grownBy w' (some g13)∧cd g13 112 ((dN b s i).map bw) w'∧i≤64) (fun i=>64-i) 0 ⟨rfl,rfl,rfl,rfl,rfl,rfl,trivial⟩
   ⟨dj (aM.refl _),b13',by omega⟩ ?_
  rintro i w10 ⟨q10,b10,hi⟩
  have hv8:=gd b s hs i
  refine af (af (aa (ae Jg Jg ?_)))
  refine ai Jg Jg Jg (aX) ?_
  refine ag (ac ?_)
  refine bi Jg (fun h=>?_) (fun h=>?_)
  ·have hi64:i<64:=by omega
   refine aq (ac (af (ax (af ?_))))
   have V:=b10
   have K5:=D5.other q10 ne513
   have K6:=D6.other q10 ne613
   have hkc:kc.length=64:=rfl
   have hsl:(bC b 48).length=64:=kj b 48
   refine bA 5 [2,4,5,6,13,14,15,111] (by kernel_rfl) (by kernel_rfl) ?_
   refine ay Jg Jg Jg (fun w _=>dJ 0 (by omega)) ?_
   refine aD Jg Jg (fun w' hw=>da (V.ext hw) 0 (by omega)) ?_
   refine ay Jg Jg Jg (fun w _=>dJ 4 (by omega)) ?_
   refine aD Jg Jg (fun w' hw=>da (V.ext hw) 4 (by omega)) ?_
   refine eg Jg Jg (bG ?_)
   intro w11 hx11
   rintro _ rfl _ rfl _ rfl _ rfl _ rfl _ rfl _ rfl _ rfl
   refine ab Jg Jg (ag (ac (af ?_)))
   replace V:=V.ext hx11
   replace K5:=K5.ext hx11
   replace K6:=K6.ext hx11
   refine bA 30 [2,4,5,6,13,14,15,16,141] (by kernel_rfl) (by kernel_rfl) ?_
   refine ay Jg Jg Jg (fun w _=>dJ 7 (by omega)) ?_
   refine aD Jg Jg (fun w' hw=>da (V.ext hw) 7 (by omega)) ?_
   refine ap Jg Jg ?_
   refine cl (S:=Is (bw (gT _ 6))) dY (bu.is _) Jg (fun w' _=>by
    rintro _ rfl _ rfl
    exact bF.mono (dZ 6 (by omega) (by omega)) fun v w'' h=>⟨h.1,h.2⟩) ?_
   refine ap Jg Jg ?_
   refine cl (S:=Is (bw (gT _ 11))) dY (bu.is _) Jg (fun w' _=>by
    rintro _ rfl _ rfl
    exact bF.mono (dZ 11 (by omega) (by omega)) fun v w'' h=>⟨h.1,h.2⟩) ?_
   refine aR Jg Jg Jg (fun w _=>cE) ?_
   refine ap Jg Jg ?_
   refine cl (S:=Is (bw (gT _ 25))) dY (bu.is _) Jg (fun w' _=>by
    rintro _ rfl _ rfl
    exact bF.mono (dZ 25 (by omega) (by omega)) fun v w'' h=>⟨h.1,h.2⟩) ?_
   refine aR Jg Jg Jg (fun w _=>cE) ?_
   refine aR Jg Jg Jg (fun w _=>cg) ?_
   refine ap Jg Jg ?_
   refine ay Jg Jg Jg (fun w _=>dJ 5 (by omega)) ?_
   refine aD Jg Jg (fun w' hw=>da (V.ext hw) 5 (by omega)) ?_
   refine aR Jg Jg Jg (fun w _=>eW) ?_
   refine ap Jg Jg ?_
   refine xf Jg Jg (fun w _=>p2) ?_
   refine ay Jg Jg Jg (fun w _=>dJ 6 (by omega)) ?_
   refine aD Jg Jg (fun w' hw=>da (V.ext hw) 6 (by omega)) ?_
   refine aR Jg Jg Jg (fun w _=>eW) ?_
   refine aR Jg Jg Jg (fun w _=>cE) ?_
   refine aR Jg Jg Jg (fun w _=>cg) ?_
   refine ap Jg Jg ?_
   refine ay Jg Jg Jg (fun w _=>gl i (by omega)) ?_
   refine aD Jg Jg (fun w' hw=>da (K5.ext hw) i (by omega)) ?_
   refine aR Jg Jg Jg (fun w _=>cg) ?_
   refine ap Jg Jg ?_
   refine ay Jg Jg Jg (fun w _=>gl i (by omega)) ?_
   refine aD Jg Jg (fun w' hw=>da (K6.ext hw) i (by omega)) ?_
   refine aR Jg Jg Jg (fun w _=>cg) ?_
   refine bG ?_
   intro w12 hx12
   rintro _ rfl _ rfl _ rfl _ rfl _ rfl _ rfl _ rfl _ rfl _ rfl
   refine ab Jg Jg (ag (ac (af ?_)))
   replace V:=V.ext hx12
   refine bA 24 [2,4,5,6,13,14,15,16,17,165] (by kernel_rfl) (by kernel_rfl) ?_
   refine ap Jg Jg ?_
   refine cl (S:=Is (bw (gT _ 2))) dY (bu.is _) Jg (fun w' _=>by
    rintro _ rfl _ rfl
    exact bF.mono (dZ 2 (by omega) (by omega)) fun v w'' h=>⟨h.1,h.2⟩) ?_
   refine ap Jg Jg ?_
   refine cl (S:=Is (bw (gT _ 13))) dY (bu.is _) Jg (fun w' _=>by
    rintro _ rfl _ rfl
    exact bF.mono (dZ 13 (by omega) (by omega)) fun v w'' h=>⟨h.1,h.2⟩) ?_
   refine aR Jg Jg Jg (fun w _=>cE) ?_
   refine ap Jg Jg ?_
   refine cl (S:=Is (bw (gT _ 22))) dY (bu.is _) Jg (fun w' _=>by
    rintro _ rfl _ rfl
    exact bF.mono (dZ 22 (by omega) (by omega)) fun v w'' h=>⟨h.1,h.2⟩) ?_
   refine aR Jg Jg Jg (fun w _=>cE) ?_
   refine ap Jg Jg ?_
   refine ay Jg Jg Jg (fun w _=>dJ 1 (by omega)) ?_
   refine aD Jg Jg (fun w' hw=>da (V.ext hw) 1 (by omega)) ?_
   refine aR Jg Jg Jg (fun w _=>eW) ?_
   refine ap Jg Jg ?_
   refine ay Jg Jg Jg (fun w _=>dJ 2 (by omega)) ?_
   refine aD Jg Jg (fun w' hw=>da (V.ext hw) 2 (by omega)) ?_
   refine aR Jg Jg Jg (fun w _=>eW) ?_
   refine aR Jg Jg Jg (fun w _=>cE) ?_
   refine ay Jg Jg Jg (fun w _=>dJ 1 (by omega)) ?_
   refine aD Jg Jg (fun w' hw=>da (V.ext hw) 1 (by omega)) ?_
   refine ay Jg Jg Jg (fun w _=>dJ 2 (by omega)) ?_
   refine aD Jg Jg (fun w' hw=>da (V.ext hw) 2 (by omega)) ?_
   refine aR Jg Jg Jg (fun w _=>eW) ?_
   refine aR Jg Jg Jg (fun w _=>cE) ?_
   refine aR Jg Jg Jg (fun w _=>cg) ?_
   refine bG ?_
   intro w13 hx13
   rintro _ rfl _ rfl _ rfl _ rfl _ rfl _ rfl _ rfl _ rfl _ rfl _ rfl
   refine ab Jg Jg (ag (ac (aa (ae Jg Jg (ae Jg Jg ?_)))))
   replace V:=V.ext hx13
   refine ai Jg Jg Jg (cg) ?_
   refine ae Jg Jg ?_
   refine aB Jg Jg Jg (dJ 1 (by omega)) ?_
   refine am Jg Jg (da V 1 (by omega)) ?_
   refine aB Jg Jg Jg (dJ 2 (by omega)) ?_
   refine am Jg Jg (da V 2 (by omega)) ?_
   refine aB Jg Jg Jg (dJ 3 (by omega)) ?_
   refine am Jg Jg (da V 3 (by omega)) ?_
   refine ae Jg Jg ?_
   refine ai Jg Jg Jg (cg) ?_
   refine ae Jg Jg ?_
   refine aB Jg Jg Jg (dJ 5 (by omega)) ?_
   refine am Jg Jg (da V 5 (by omega)) ?_
   refine aB Jg Jg Jg (dJ 6 (by omega)) ?_
   refine am Jg Jg (da V 6 (by omega)) ?_
   refine bm Jg Jg (run_build _ _ _ ((dN b s (i+1)).map bw).toArray (by kernel_rfl)) ?_
   have hn8:=gd b s hs (i+1)
   refine ar Jg Jg (gW V (by simp[hv8,hn8]) (by rw[List.length_map,hn8];exact mg) (jq _)) ?_
   have V':=V.row ((dN b s (i+1)).map bw)
   have q14:=(q10.trans (dj ((hx11.trans hx12).trans hx13))).trans (bo w13 g13 ((dN b s (i+1)).map bw).toArray)
   refine ag (aJ (ac (aa (ae Jg Jg ?_))))
   refine ai Jg Jg Jg (aK (by omega) (by omega)) ?_
   refine ab Jg Jg (ag ?_)
   exact bM (i+1) ⟨rfl,rfl,rfl,rfl,rfl,rfl,trivial⟩ ⟨q14,V',by omega⟩ (by omega)
  ·have hi':i=64:=by omega
   subst hi'
   exact aW (aA (aA (aU (cv () ⟨rfl,rfl,rfl,trivial⟩ ⟨q10,b10⟩))))
 rintro _ w10 ⟨q10,b10⟩
 refine ac ?_
 have hv8:=gd b s hs 64
 have F2:=D2.other q10 ne213
 have F4:=D4.other q10 ne413
 have E10:aM w w10:=E9.of_new q10 (by omega)
 have ha0:iL s (dN b s 64) 0=s:=by simp[iL]
 refine af (eV (fun _:Unit=>[(2,.pointer (some ⟨g2,0,none⟩)),(4,.pointer (some ⟨g4,0,none⟩))]) (fun _ w'=>w10.grownBy w' (some g2)∧cd g2 112 ((iL s (dN b s 64) 8).map bw) w') ?_ ?_)
 ·refine af (aa (ab Jg Jg (ag (ac (ax ?_)))))
  refine bV (α:=Nat) (fun i=>[(2,.pointer (some ⟨g2,0,none⟩)),(4,.pointer (some ⟨g4,0,none⟩)),(13,.pointer (some ⟨g13,0,none⟩)),(19,I (i:Int))])
   (fun i w'=>w10.grownBy w' (some g2)∧cd g2 112 ((iL s (dN b s 64) i).map bw) w'∧i≤8) (fun i=>8-i) 0 ⟨rfl,rfl,rfl,rfl,trivial⟩
   ⟨dj (aM.refl _),by rw[ha0];exact F2,by omega⟩ ?_
  rintro i w11 ⟨q11,b11,hi⟩
  refine af (af (aa (ae Jg Jg ?_)))
  refine ai Jg Jg Jg (aX) ?_
  refine ag (ac ?_)
  refine bi Jg (fun h=>?_) (fun h=>?_)
  ·have hi8:i<8:=by omega
   have hal:=Dc hs hv8 hi
   have hag:=uN hs hv8 hi8
   have K13:=b10.other q11 (fun h=>by cases h;omega)
   refine aq (ac (af (ax ?_)))
   refine bA 8 [2,4,13,19,194,195] (by kernel_rfl) (by kernel_rfl) ?_
   refine ap Jg Jg ?_
   refine ay Jg Jg Jg (fun w _=>dJ i (by omega)) ?_
   refine aD (r:=bw (s.getD i 0)) Jg Jg (fun w' hw=>by rw[←hag];exact da (b11.ext hw) i (by omega)) ?_
   refine ap Jg Jg ?_
   refine ay Jg Jg Jg (fun w _=>dJ i (by omega)) ?_
   refine aD Jg Jg (fun w' hw=>da (K13.ext hw) i (by omega)) ?_
   refine aR Jg Jg Jg (fun w _=>cg) ?_
   refine ay Jg Jg Jg (fun w _=>dJ i (by omega)) ?_
   refine bG ?_
   intro w12 hx12
   rintro _ rfl _ rfl _ rfl _ rfl _ rfl _ rfl
   refine ar Jg Jg (yP (b11.ext hx12) i (by omega)) ?_
   have b12:=(b11.ext hx12).setU i (s.getD i 0+(dN b s 64).getD i 0)
   rw[uO hs hv8 hi8] at b12
   have q12:=(q11.trans (dj hx12)).trans (aY w12 g2 i (bw (s.getD i 0+(dN b s 64).getD i 0)))
   refine ag (aJ (ac (aa (ae Jg Jg ?_))))
   refine ai Jg Jg Jg (aK (by omega) (by omega)) ?_
   refine ab Jg Jg (ag ?_)
   exact bM (i+1) ⟨rfl,rfl,rfl,rfl,trivial⟩ ⟨q12,b12,by omega⟩ (by omega)
  ·have hi':i=8:=by omega
   subst hi'
   exact aW (aA (aA (aU (cv () ⟨rfl,rfl,trivial⟩ ⟨q11,b11⟩))))
 rintro _ w11 ⟨q11,b11⟩
 rw[uP hs hv8] at b11
 have hc8:=xY s b hs
 have hlen8':(Tryz.prog.info? 112).map (·.size)=some ((tI s b).map bw).length:=by rw[List.length_map,hc8];exact mg
 have G4:=F4.other q11 (fun h=>by cases h;omega)
 refine ac (af (aa ?_))
 refine am Jg Jg (lJ (m:=(tI s b).map bw) b11 (fun j v h=>by rw[Nat.zero_add];exact h) I9 Jg hlen8') ?_
 refine ar Jg Jg (gW G4 (by simp[hc8]) hlen8' (jq _)) ?_
 refine ag (ac (au ?_))
 refine ep Jg Jg (G4.row _) I9 Jg hlen8' ?_
 exact⟨_,rfl,(E10.of_new q11 (by omega)).of_new (bo _ _ _) (by omega),rfl⟩
end Go.Rl
namespace Go.Rl
open Go.RowKit Go.Proofs
theorem mh:(Tryz.prog.info? 22).map (·.zero)=some (some (.agg (List.replicate 32 (U8 0)).toArray)):=by kernel_rfl
theorem jC:(Tryz.prog.info? 22).map (·.size)=some 32:=by kernel_rfl
section
variable {w:World} {g o:Nat} {T:TypeId}
theorem pV (i:Nat) (hi:i<32):(Instr.indexAt 22 (.pointer (some ⟨g,0,none⟩)) (I (i:Int))).run Tryz.prog w=.ok (.pointer (some ⟨g,i,none⟩)) w:=by
 have:=AT (P:=Tryz.prog) (w:=w) (g:=g) (o:=0) I6 fC hi .i64
 rwa [Nat.zero_add] at this
theorem uQ {m:List UInt8} {x:UInt8} (h:cd g T (m.map U8) w) (i:Nat) (hi:i<m.length):(Instr.storeAt 5 (.pointer (some ⟨g,i,none⟩)) (U8 x)).run Tryz.prog w=.ok () (w.setCell ⟨g,i,none⟩ (U8 x)):=
 dm fC rfl h (by simpa using hi)
theorem cd.setB {m:List UInt8} (h:cd g T (m.map U8) w) (i:Nat) (x:UInt8):cd g T ((m.set i x).map U8) (w.setCell ⟨g,i,none⟩ (U8 x)):=by
 have:=h.set i (U8 x)
 rwa [←List.map_set] at this
end
theorem pb (m:List UInt8):∀v∈m.map U8,v.oneCell'=true:=by
 intro u hu
 obtain⟨b,_,rfl⟩:=List.mem_map.1 hu
 rfl
def fh (d:List UInt8) (n j:Nat):List UInt8:=d.take j++List.replicate (n-j) 0
theorem jk {d:List UInt8} {n j:Nat} (hd:d.length=n) (hj:j≤n):(fh d n j).length=n:=by simp[fh,hd];omega
theorem jl {d:List UInt8} {n j:Nat} (hd:d.length=n) (hj:j<n):(fh d n j).set j (d.getD j 0)=fh d n (j+1):=by
 have h:(d.take j).length=j:=by simp[hd];omega
 have h1:d.getD j 0=d[j]:=by simp[List.getD,hd,hj]
 unfold fh
 rw[List.set_append_right _ _ (by omega),h,Nat.sub_self,h1,List.take_succ_eq_append_getElem (by omega:j<d.length)]
 have:n-j=(n-(j+1))+1:=by omega
 rw[this,List.replicate_succ,List.set_cons_zero,List.append_assoc]
 rfl
theorem pW {d:List UInt8} {n:Nat} (hd:d.length=n):fh d n n=d:=by
 simp[fh,←hd]
theorem yS (s:List UInt32):(s.flatMap tD).length=4*s.length:=by
 induction s with
 |nil=>rfl
 |cons x s ih=>
  have:(x::s).flatMap tD=tD x++s.flatMap tD:=by simp
  rw[this,List.length_append,ih]
  simp[tD];omega
theorem kz:∀(s:List UInt32) (i k:Nat),i<s.length→k<4→(s.flatMap tD).getD (4*i+k) 0=(s.getD i 0>>>UInt32.ofNat (24-8*k)).toUInt8
 |[],_,_,h,_=>by simp at h
 |x::s,0,k,_,hk=>by
  have e:(x::s).flatMap tD=tD x++s.flatMap tD:=by simp
  rw[e]
  match k,hk with
  |0,_=>rfl
  |1,_=>rfl
  |2,_=>rfl
  |3,_=>
   show x.toUInt8=(x>>>UInt32.ofNat 0).toUInt8
   rw[show UInt32.ofNat 0=0 from rfl,UInt32.shiftRight_zero]
 |x::s,i+1,k,h,hk=>by
  have e:(x::s).flatMap tD=tD x++s.flatMap tD:=by simp
  rw[e]
  have h4:(tD x).length=4:=rfl
  have:=kz s i k (by simpa using h) hk
  rw[List.getD_eq_getElem?_getD,List.getElem?_append_right (by omega),h4,show 4*(i+1)+k-4=4*i+k by omega,←List.getD_eq_getElem?_getD,this]
  rfl
theorem dC (m:List UInt8):(iV m).length=32:=by
 unfold iV
 rw[yS,Eu]
theorem wK (n:UInt64):(xZ n).length=8:=by simp[xZ]
theorem Fp (n:UInt64) {j:Nat} (hj:j<8):(xZ n).take (j+1)=(xZ n).take j++[(n>>>UInt64.ofNat (56-8*j)).toUInt8]:=by
 rw[List.take_succ_eq_append_getElem (by rw[wK];exact hj)]
 simp[xZ]
theorem Fq (M:List UInt8) (k:Nat):uq M (k+1)=tI (uq M k) ((M.take (64*k+64)).drop (64*k)):=by
 rw[uq,List.drop_take,Nat.add_sub_cancel_left]
end Go.Rl
namespace Go.Rl
open Go.RowKit Go.Proofs
theorem uR:az Tryz.prog 26:=⟨_,Tryz.func26,by kernel_rfl,rfl⟩
theorem uS {w:World} {l:List UInt8} {v:Value} (hv:cm l v w) (hl:l.length≤1099511627776):
 Calls Tryz.prog 26 #[v] w (bF fun r w'=>aM w w'∧r=.agg ((iV l).map U8).toArray):=by
 refine enter (vs:=[v]) Tryz.func26 Jg Jg Jg ?_
 obtain⟨g2,w1,hr,n2,x1,b2⟩:=bf (P:=Tryz.prog) (w:=w) (l:=(List.replicate 32 0).map U8) mh rfl
 refine af (aa (bh Jg hr (ag (ac (af (aa ?_))))))
 obtain⟨r3,w3,hr,x3,o3,_⟩:=fq (w:=w1) w1.heap.size [] (by simp) (Nat.le_refl _)
 refine aN (vs:=[]) Jg Jg hr ?_
 refine ae Jg Jg ?_
 have e3:=x1.trans x3
 obtain⟨r4,w4,hr,o4,g4⟩:=di (ty:=28) o3 (hv.ext e3) (by simp only[List.length_nil];omega) x3.size
 have x4:=x3.of_grew g4 o3.ge
 refine be Jg Jg hr ?_
 obtain⟨r5,w5,hr,x5,o5,_⟩:=fq (w:=w4) w4.heap.size [128] (by simp) (Nat.le_refl _)
 refine aN (vs:=[(0,U8 128)]) Jg Jg hr ?_
 obtain⟨r6,w6,hr,o6,g6⟩:=di (ty:=28) (o4.ext x5) o5.bts (by simp only[List.nil_append,List.length_cons,List.length_nil];omega) (x4.trans x5).size
 have x6:=(x4.trans x5).of_grew g6 o4.ge
 refine be Jg Jg hr ?_
 rw[List.nil_append] at o6
 have B2:=b2.ext x6
 refine ab Jg Jg (ag (ac ?_))
 refine af (eV (fun m:Value=>[(0,v),(2,.pointer (some ⟨g2,0,none⟩)),(3,m)]) (fun m w'=>cD w1.heap.size (l++[128]++List.replicate (gh l.length) 0) m w'∧aM w1 w') ?_ ?_)
 ·refine ax ?_
  refine bV (α:=Nat×Value) (fun x=>[(0,v),(2,.pointer (some ⟨g2,0,none⟩)),(3,x.2)])
   (fun x w'=>cD w1.heap.size (l++[128]++List.replicate x.1 0) x.2 w'∧aM w1 w'∧x.1≤gh l.length) (fun x=>gh l.length-x.1) (0,r6) ⟨rfl,rfl,rfl,trivial⟩
   ⟨by simpa using o6,x6,by simp⟩ ?_
  rintro⟨k,m⟩ w7 ⟨o7,x7,hk⟩
  dsimp only at o7 x7 hk
  have hp:gh l.length<64:=by unfold gh;omega
  have hm:(l++[128]++List.replicate k 0).length=l.length+1+k:=by simp;omega
  refine af (af (aa (ae Jg Jg ?_)))
  refine aP Jg Jg (bz o7.bts) ?_
  refine ai Jg Jg Jg (mA (by omega) (by omega)) ?_
  refine ai Jg Jg Jg (bS) ?_
  refine ag (ac ?_)
  rw[hm]
  refine bi Jg (fun h=>?_) (fun h=>?_)
  ·have hlt:k<gh l.length:=by
    rcases Nat.lt_or_ge k (gh l.length) with h1|h1
    ·exact h1
    ·have:k=gh l.length:=by omega
     subst this
     exfalso
     unfold gh at h
     omega
   refine aq (ac (ax (aa (ae Jg Jg ?_))))
   obtain⟨r8,w8,hr,x8,o8,_⟩:=fq (w:=w7) w7.heap.size [0] (by simp) (Nat.le_refl _)
   refine aN (vs:=[(0,U8 0)]) Jg Jg hr ?_
   obtain⟨r9,w9,hr,o9,g9⟩:=di (ty:=28) (o7.ext x8) o8.bts (by rw[hm];simp only[List.length_cons,List.length_nil];omega) (x7.trans x8).size
   refine be Jg Jg hr ?_
   refine ab Jg Jg (ag (aJ ?_))
   refine bM (k+1,r9) ⟨rfl,rfl,rfl,trivial⟩ ⟨?_,(x7.trans x8).of_grew g9 o7.ge,hlt⟩ (by show gh l.length-(k+1)<gh l.length-k;omega)
   show cD _ (l++[128]++List.replicate (k+1) 0) r9 w9
   rw[List.replicate_succ',←List.append_assoc]
   exact o9
  ·have hk':k=gh l.length:=by
    unfold gh at hk hp⊢
    omega
   subst hk'
   exact aW (aA (aA (aU (cv m ⟨rfl,rfl,rfl,trivial⟩ ⟨o7,x7⟩))))
 rintro m7 w7 ⟨o7,x7⟩
 refine ac (af (aa (ae Jg Jg ?_)))
 refine aP Jg Jg (bz (hv.ext (x1.trans x7))) ?_
 refine aQ Jg Jg (cI IM IL) ?_
 refine ai (u:=bj 8) Jg Jg Jg (fM) ?_
 rw[UInt64.mul_comm]
 refine ab Jg Jg (ag (ac ?_))
 have hp:gh l.length<64:=by unfold gh;omega
 have hb8:=wK (UInt64.ofNat l.length*8)
 refine af (eV (fun m:Value=>[(2,.pointer (some ⟨g2,0,none⟩)),(3,m)]) (fun m w'=>cD w1.heap.size (eo l) m w'∧aM w1 w') ?_ ?_)
 ·refine af (aa (ab Jg Jg (ag (ac (ax ?_)))))
  refine bV (α:=Nat×Value) (fun x=>[(2,.pointer (some ⟨g2,0,none⟩)),(3,x.2),(4,bj (UInt64.ofNat l.length*8)),(5,I (7-(x.1:Int)))])
   (fun x w'=>cD w1.heap.size (l++[128]++List.replicate (gh l.length) 0++(xZ (UInt64.ofNat l.length*8)).take x.1) x.2 w'∧aM w1 w'∧x.1≤8) (fun x=>8-x.1) (0,m7) ⟨rfl,rfl,rfl,rfl,trivial⟩
   ⟨by simpa using o7,x7,by simp⟩ ?_
  rintro⟨j,m⟩ w8 ⟨o8,x8,hj⟩
  dsimp only at o8 x8 hj
  refine af (af (aa (ae Jg Jg ?_)))
  refine ai Jg Jg Jg (ir) ?_
  refine ag (ac ?_)
  refine bi Jg (fun h=>?_) (fun h=>?_)
  ·have hj8:j<8:=by omega
   refine aq (ac (af (ax (aa (ae Jg Jg (ae Jg Jg (ae Jg Jg ?_)))))))
   have e8:(8:Int)*(7-(j:Int))=((56-8*j:Nat):Int):=by omega
   refine ai (r:=I ((56-8*j:Nat):Int)) Jg Jg Jg (by rw[←e8];exact eR (by omega) (by omega)) ?_
   refine ai Jg Jg Jg (du (56-8*j) (by omega)) ?_
   refine aQ Jg Jg (j4 IL IR) ?_
   obtain⟨r9,w9,hr,x9,o9,_⟩:=fq (w:=w8) w8.heap.size [((UInt64.ofNat l.length*8)>>>UInt64.ofNat (56-8*j)).toUInt8] (by simp) (Nat.le_refl _)
   refine aN (vs:=[(0,U8 ((UInt64.ofNat l.length*8)>>>UInt64.ofNat (56-8*j)).toUInt8)]) Jg Jg hr ?_
   obtain⟨r10,w10,hr,o10,g10⟩:=di (ty:=28) (o8.ext x9) o9.bts (by simp only[List.length_append,List.length_cons,List.length_nil,List.length_replicate,List.length_take];omega) (x8.trans x9).size
   refine be Jg Jg hr ?_
   refine ab Jg Jg (ag (aJ (ac (aa (ae Jg Jg ?_)))))
   refine ai Jg Jg Jg (bb (by omega) (by omega)) ?_
   refine ab Jg Jg (ag ?_)
   have e1:(7:Int)-(j:Int)-1=7-((j+1:Nat):Int):=by omega
   rw[e1]
   refine bM (j+1,r10) ⟨rfl,rfl,rfl,rfl,trivial⟩ ⟨?_,(x8.trans x9).of_grew g10 o8.ge,hj8⟩ (by show 8-(j+1)<8-j;omega)
   show cD _ (l++[128]++List.replicate (gh l.length) 0++(xZ (UInt64.ofNat l.length*8)).take (j+1)) r10 w10
   rw[Fp _ hj8,←List.append_assoc]
   exact o10
  ·have hj':j=8:=by omega
   subst hj'
   rw[List.take_of_length_le (by omega)] at o8
   exact aW (aA (aA (aU (cv m ⟨rfl,rfl,trivial⟩ ⟨o8,x8⟩))))
 clear o7 x7
 rintro m8 w8 ⟨o8,x8⟩
 have hM:=zK l
 have hMl:(eo l).length≤1099511627776+80:=by
  simp only[eo,List.length_append,List.length_cons,List.length_nil,List.length_replicate];omega
 generalize hMM:eo l=M at o8 hM hMl
 refine ac (af (aa ?_))
 refine bm Jg Jg (run_build _ _ _ (iv.map bw).toArray (by kernel_rfl)) ?_
 obtain⟨g6',w9,hr,n9,x9,b9⟩:=bf (P:=Tryz.prog) (w:=w8) (l:=(List.replicate 8 0).map bw) BA rfl
 refine bh Jg hr ?_
 refine ar Jg Jg (gW b9 Jg mg (jq _)) ?_
 have b9':=b9.row (iv.map bw)
 have q9:=bo w9 g6' (iv.map bw).toArray
 have l26:g2<g6':=Nat.lt_of_lt_of_le b2.lt (Nat.le_trans x8.size n9)
 have hw6:w1.heap.size≤g6':=Nat.le_trans x8.size n9
 have E9:aM w1 (w9.setRow g6' (iv.map bw).toArray):=(x8.trans x9).of_new q9 hw6
 have ne2:some g2≠some g6':=fun h=>by cases h;omega
 have hm9:cD w1.heap.size M m8 (w9.setRow g6' (iv.map bw).toArray):=by
  obtain⟨n,h⟩:=o8.ext x9
  exact⟨n,World.ownsRow.kept h q9 (.inr fun he=>by have:=o8.lt g6' he;omega)⟩
 have C9:=((b2.ext x8).ext x9).other q9 ne2
 revert b9' E9 hm9 C9
 generalize w9.setRow g6' (iv.map bw).toArray=w10
 intro b10 E10 o10 C10
 refine ag (ac ?_)
 have l28:∀k,m8.ownBlock=some k→k<w8.heap.size:=o8.lt
 refine af (eV (fun _:Unit=>[(2,.pointer (some ⟨g2,0,none⟩)),(6,.pointer (some ⟨g6',0,none⟩))]) (fun _ w'=>w10.grownBy w' (some g6')∧cd g6' 112 ((uq M (M.length/64)).map bw) w') ?_ ?_)
 ·refine af (aa (ab Jg Jg (ag (ac (ax ?_)))))
  refine bV (α:=Nat) (fun k=>[(2,.pointer (some ⟨g2,0,none⟩)),(3,m8),(6,.pointer (some ⟨g6',0,none⟩)),(7,I ((64*k:Nat):Int))])
   (fun k w'=>w10.grownBy w' (some g6')∧cd g6' 112 ((uq M k).map bw) w'∧k≤M.length/64) (fun k=>M.length/64-k) 0 ⟨rfl,rfl,rfl,rfl,trivial⟩
   ⟨dj (aM.refl _),b10,by omega⟩ ?_
  rintro k w11 ⟨q11,b11,hk⟩
  have o11:cD w1.heap.size M m8 w11:=by
   obtain⟨n,h⟩:=o10
   exact⟨n,World.ownsRow.kept h q11 (.inr fun he=>by have:=l28 g6' he;omega)⟩
  have hs8:=mQ M k
  refine af (af (aa (ae Jg Jg (ae Jg Jg ?_))))
  refine aP Jg Jg (bz o11.bts) ?_
  refine ai Jg Jg Jg (aX) ?_
  refine ag (ac ?_)
  refine bi Jg (fun h=>?_) (fun h=>?_)
  ·have hlt:64*k+64≤M.length:=by omega
   have e64:((64*k:Nat):Int)+64=((64*k+64:Nat):Int):=by omega
   have hbl:((M.take (64*k+64)).drop (64*k)).length=64:=by simp;omega
   obtain⟨r12,hr12,bt12⟩:=p6 o11.bts (lo:=64*k) (hi:=64*k+64) (by omega) hlt .i64 .i64
   have hszk:(Tryz.prog.info? 112).map (·.size)=some ((uq M k).map bw).length:=by rw[List.length_map,hs8];exact mg
   have hszk':(Tryz.prog.info? 112).map (·.size)=some ((uq M (k+1)).map bw).length:=by rw[List.length_map,mQ];exact mg
   refine aq (ac (af (ax ?_)))
   refine bA 7 [2,3,6,7,52] (by kernel_rfl) (by kernel_rfl) ?_
   refine aD Jg Jg (fun w' hw=>lJ (m:=(uq M k).map bw) (b11.ext hw) (fun j v h=>by rwa [Nat.zero_add]) I9 Jg hszk) ?_
   refine ap Jg Jg (ap Jg Jg (ap Jg Jg ?_))
   refine aR (r:=I ((64*k+64:Nat):Int)) Jg Jg Jg (fun w _=>by rw[←e64];exact aK (by omega) (by omega)) ?_
   refine gI (a:=some (I ((64*k:Nat):Int))) (b:=some (I ((64*k+64:Nat):Int))) Jg Jg Jg Jg (fun w _=>hr12 w) ?_
   refine cl (S:=Is (.agg ((uq M (k+1)).map bw).toArray)) yQ (bu.is _) Jg (fun w' hw=>by
    rintro _ rfl _ rfl
    exact bF.mono (yR hs8 hbl (bt12.ext hw)) fun v w'' h=>⟨h.1,by rw[Fq];exact h.2⟩) ?_
   refine bG ?_
   intro w12 hx12
   rintro _ rfl _ rfl _ rfl _ rfl _ rfl
   refine ar Jg Jg (gW (b11.ext hx12) (by simp[mQ]) hszk' (jq _)) ?_
   have b12:=(b11.ext hx12).row ((uq M (k+1)).map bw)
   have q12:=(q11.trans (dj hx12)).trans (bo w12 g6' ((uq M (k+1)).map bw).toArray)
   refine ag (aJ (ac (aa (ae Jg Jg ?_))))
   refine ai Jg Jg Jg (aK (by omega) (by omega)) ?_
   refine ab Jg Jg (ag ?_)
   exact bM (k+1) ⟨rfl,rfl,rfl,rfl,trivial⟩ ⟨q12,b12,by omega⟩ (by omega)
  ·have hk':k=M.length/64:=by omega
   subst hk'
   exact aW (aA (aA (aU (cv () ⟨rfl,rfl,trivial⟩ ⟨q11,b11⟩))))
 rintro _ w11 ⟨q11,b11⟩
 have C2:=C10.other q11 ne2
 have E11:aM w1 w11:=E10.of_new q11 hw6
 have hs8:=mQ M (M.length/64)
 generalize hst:uq M (M.length/64)=st at b11 hs8
 have hD:(st.flatMap tD).length=32:=by rw[yS,hs8]
 refine ac (af (aa ?_))
 obtain⟨g8,w12,hr,n12,x12,b12⟩:=bf (P:=Tryz.prog) (w:=w11) (l:=(fh (st.flatMap tD) 32 0).map U8) mh rfl
 refine bh Jg hr (ag (ac ?_))
 have l68:g6'<g8:=Nat.lt_of_lt_of_le b11.lt n12
 have ne68:some g6'≠some g8:=fun h=>by cases h;omega
 have ne28:some g2≠some g8:=fun h=>by cases h;omega
 have c11:=b11.ext x12
 have D2:=C2.ext x12
 refine af (eV (fun _:Unit=>[(2,.pointer (some ⟨g2,0,none⟩)),(8,.pointer (some ⟨g8,0,none⟩))]) (fun _ w'=>w12.grownBy w' (some g8)∧cd g8 22 ((st.flatMap tD).map U8) w') ?_ ?_)
 ·refine af (aa (ab Jg Jg (ag (ac (ax ?_)))))
  refine bV (α:=Nat) (fun i=>[(2,.pointer (some ⟨g2,0,none⟩)),(6,.pointer (some ⟨g6',0,none⟩)),(8,.pointer (some ⟨g8,0,none⟩)),(9,I (i:Int))])
   (fun i w'=>w12.grownBy w' (some g8)∧cd g8 22 ((fh (st.flatMap tD) 32 (4*i)).map U8) w'∧i≤8) (fun i=>8-i) 0 ⟨rfl,rfl,rfl,rfl,trivial⟩
   ⟨dj (aM.refl _),b12,by omega⟩ ?_
  rintro i w13 ⟨q13,b13,hi⟩
  refine af (af (aa (ae Jg Jg ?_)))
  refine ai Jg Jg Jg (aX) ?_
  refine ag (ac ?_)
  refine bi Jg (fun h=>?_) (fun h=>?_)
  ·have hi8:i<8:=by omega
   refine aq (ac (af (ax (af (aa (ab Jg Jg (ag (ac (ax ?_)))))))))
   refine bV (α:=Nat) (fun k=>[(2,.pointer (some ⟨g2,0,none⟩)),(6,.pointer (some ⟨g6',0,none⟩)),(8,.pointer (some ⟨g8,0,none⟩)),(9,I (i:Int)),(10,I (k:Int))])
    (fun k w'=>w12.grownBy w' (some g8)∧cd g8 22 ((fh (st.flatMap tD) 32 (4*i+k)).map U8) w'∧k≤4) (fun k=>4-k) 0 ⟨rfl,rfl,rfl,rfl,rfl,trivial⟩
    ⟨q13,b13,by omega⟩ ?_
   rintro k w14 ⟨q14,b14,hk⟩
   refine af (af (aa (ae Jg Jg ?_)))
   refine ai Jg Jg Jg (aX) ?_
   refine ag (ac ?_)
   refine bi Jg (fun h=>?_) (fun h=>?_)
   ·have hk4:k<4:=by omega
    have c14:=c11.other q14 ne68
    have hfl:=jk (j:=4*i+k) hD (by omega)
    have e4:(4:Int)*(i:Int)=((4*i:Nat):Int):=by omega
    have e5:((4*i:Nat):Int)+(k:Int)=((4*i+k:Nat):Int):=by omega
    have e6:(24:Int)-8*(k:Int)=((24-8*k:Nat):Int):=by omega
    refine aq (ac (af (ax (aa (ae Jg Jg ?_)))))
    refine ai (r:=I ((4*i:Nat):Int)) Jg Jg Jg (by rw[←e4];exact eR (by omega) (by omega)) ?_
    refine ae Jg Jg ?_
    refine ai (r:=I ((4*i+k:Nat):Int)) Jg Jg Jg (by rw[←e5];exact aK (by omega) (by omega)) ?_
    refine ae Jg Jg ?_
    refine aB Jg Jg Jg (dJ i (by omega)) ?_
    refine am Jg Jg (da c14 i (by omega)) ?_
    refine ae Jg Jg ?_
    refine ai Jg Jg Jg (eR (by omega) (by omega)) ?_
    refine ai (r:=I ((24-8*k:Nat):Int)) Jg Jg Jg (by rw[←e6];exact bb (by omega) (by omega)) ?_
    refine ai Jg Jg Jg (db (24-8*k) (by omega)) ?_
    refine aQ Jg Jg (eY IK IR) ?_
    refine aB Jg Jg Jg (pV (4*i+k) (by omega)) ?_
    refine ar Jg Jg (uQ b14 (4*i+k) (by omega)) ?_
    have b15:=b14.setB (4*i+k) (st.getD i 0>>>UInt32.ofNat (24-8*k)).toUInt8
    have hset:(fh (st.flatMap tD) 32 (4*i+k)).set (4*i+k) (st.getD i 0>>>UInt32.ofNat (24-8*k)).toUInt8=fh (st.flatMap tD) 32 (4*i+(k+1)):=by
     rw[←kz st i k (by omega) hk4]
     exact jl hD (by omega)
    rw[hset] at b15
    refine ag (aJ (ac (aa (ae Jg Jg ?_))))
    refine ai Jg Jg Jg (aK (by omega) (by omega)) ?_
    refine ab Jg Jg (ag ?_)
    exact bM (k+1) ⟨rfl,rfl,rfl,rfl,rfl,trivial⟩ ⟨q14.trans (aY w14 g8 _ _),b15,by omega⟩ (by omega)
   ·have hk':k=4:=by omega
    subst hk'
    refine aW (aA (aA (aU (aJ (ac (aa (ae Jg Jg ?_)))))))
    refine ai Jg Jg Jg (aK (by omega) (by omega)) ?_
    refine ab Jg Jg (ag ?_)
    exact bM (i+1) ⟨rfl,rfl,rfl,rfl,trivial⟩ ⟨q14,b14,by omega⟩ (by omega)
  ·have hi':i=8:=by omega
   subst hi'
   rw[show 4*8=32 from rfl,pW hD] at b13
   exact aW (aA (aA (aU (cv () ⟨rfl,rfl,trivial⟩ ⟨q13,b13⟩))))
 rintro _ w13 ⟨q13,b13⟩
 have hdig:st.flatMap tD=iV l:=by
  unfold iV sh
  rw[hMM,hst]
 rw[hdig] at b13
 have hsz:(Tryz.prog.info? 22).map (·.size)=some ((iV l).map U8).length:=by rw[List.length_map,dC];exact jC
 have F2:=D2.other q13 ne28
 refine ac (af (aa ?_))
 refine am Jg Jg (lJ (m:=(iV l).map U8) b13 (fun j v h=>by rwa [Nat.zero_add]) I6 Jg hsz) ?_
 refine ar Jg Jg (gW F2 (by simp[dC]) hsz (pb _)) ?_
 refine ag (ac (au ?_))
 refine ep Jg Jg (F2.row _) I6 Jg hsz ?_
 have E13:aM w w13:=(x1.trans (E11.trans x12)).of_new q13 (by have:=x1.size;omega)
 exact⟨_,rfl,E13.of_new (bo _ _ _) n2,rfl⟩
end Go.Rl
namespace Go.Rl
open Go.RowKit Go.Proofs
def cX (st:List UInt32) (blk:List UInt8) (u:Int) (tot:UInt64):List Value:=st.map bw++(blk.map U8++[I u,bj tot])
structure HC (g:Nat) (st:List UInt32) (blk:List UInt8) (u:Int) (tot:UInt64) (w:World):Prop where
 hb:cd g 202 (cX st blk u tot) w
 ls:st.length=8
 lb:blk.length=64
section
variable {w w':World} {g:Nat} {st:List UInt32} {blk:List UInt8} {u:Int} {tot:UInt64}
theorem gn (hs:st.length=8) (hb:blk.length=64):(cX st blk u tot).length=74:=by simp[cX,hs,hb]
theorem HC.ext (h:HC g st blk u tot w) (hx:aM w w'):HC g st blk u tot w':=⟨h.hb.ext hx,h.ls,h.lb⟩
theorem HC.other {row:Option Nat} (h:HC g st blk u tot w) (hg:w.grownBy w' row) (hne:some g≠row):HC g st blk u tot w':=⟨h.hb.other hg hne,h.ls,h.lb⟩
theorem HC.lt (h:HC g st blk u tot w):g<w.heap.size:=h.hb.lt
theorem HC.cellS (h:HC g st blk u tot w) {i:Nat} (hi:i<8):w.cell? ⟨g,i,none⟩=some (bw (st.getD i 0)):=
 h.hb.cell (by simp[cX,List.getElem?_append,h.ls,hi])
theorem HC.cellU (h:HC g st blk u tot w):w.cell? ⟨g,72,none⟩=some (I u):=
 h.hb.cell (by unfold cX;rw[List.getElem?_append_right (by simp[h.ls]),List.length_map,h.ls,List.getElem?_append_right (by simp[h.lb]),List.length_map,h.lb];rfl)
theorem HC.cellT (h:HC g st blk u tot w):w.cell? ⟨g,73,none⟩=some (bj tot):=
 h.hb.cell (by unfold cX;rw[List.getElem?_append_right (by simp[h.ls]),List.length_map,h.ls,List.getElem?_append_right (by simp[h.lb]),List.length_map,h.lb];rfl)
theorem HC.setS (h:HC g st blk u tot w) (i:Nat) (hi:i<8) (x:UInt32):HC g (st.set i x) blk u tot (w.setCell ⟨g,i,none⟩ (bw x)):=by
 refine⟨?_,by simp[h.ls],h.lb⟩
 have:=h.hb.set i (bw x)
 unfold cX at this
 rw[List.set_append_left _ _ (by simpa [h.ls] using hi),←List.map_set] at this
 exact this
theorem HC.setU (h:HC g st blk u tot w) (x:Int):HC g st blk x tot (w.setCell ⟨g,72,none⟩ (I x)):=by
 refine⟨?_,h.ls,h.lb⟩
 have:=h.hb.set 72 (I x)
 unfold cX at this
 rw[List.set_append_right _ _ (by simp[h.ls]),List.length_map,h.ls,List.set_append_right _ _ (by simp[h.lb]),List.length_map,h.lb] at this
 exact this
theorem HC.setT (h:HC g st blk u tot w) (x:UInt64):HC g st blk u x (w.setCell ⟨g,73,none⟩ (bj x)):=by
 refine⟨?_,h.ls,h.lb⟩
 have:=h.hb.set 73 (bj x)
 unfold cX at this
 rw[List.set_append_right _ _ (by simp[h.ls]),List.length_map,h.ls,List.set_append_right _ _ (by simp[h.lb]),List.length_map,h.lb] at this
 exact this
theorem yT:(Tryz.prog.info? 41).map (·.size)=some 1:=by kernel_rfl
theorem Fs:(Tryz.prog.info? 200).map (·.size)=some 64:=by kernel_rfl
theorem uT:(Tryz.prog.info? 202).map (·.size)=some 74:=by kernel_rfl
theorem Dd:(Tryz.prog.info? 202).map (·.zero)=some (some (.agg (cX (List.replicate 8 0) (List.replicate 64 0) 0 0).toArray)):=by kernel_rfl
theorem Gp:(Instr.fieldAt 202 (.pointer (some ⟨g,0,none⟩)) 0).run Tryz.prog w=.ok (.pointer (some ⟨g,0,none⟩)) w:=by
 have h:=cz (P:=Tryz.prog) (w:=w) (n:=0) (a:=⟨g,0,none⟩) Jd rfl mg (Nat.succ_ne_zero 7)
 exact h
theorem IA:(Instr.fieldAt 202 (.pointer (some ⟨g,0,none⟩)) 1).run Tryz.prog w=.ok (.pointer (some ⟨g,8,none⟩)) w:=by
 have h:=cz (P:=Tryz.prog) (w:=w) (n:=1) (a:=⟨g,0,none⟩) Jd rfl Fs (Nat.succ_ne_zero 63)
 exact h
theorem De:(Instr.fieldAt 202 (.pointer (some ⟨g,0,none⟩)) 2).run Tryz.prog w=.ok (.pointer (some ⟨g,72,none⟩)) w:=by
 have h:=cz (P:=Tryz.prog) (w:=w) (n:=2) (a:=⟨g,0,none⟩) Jd rfl dz (Nat.succ_ne_zero 0)
 exact h
theorem HL:(Instr.fieldAt 202 (.pointer (some ⟨g,0,none⟩)) 3).run Tryz.prog w=.ok (.pointer (some ⟨g,73,none⟩)) w:=by
 have h:=cz (P:=Tryz.prog) (w:=w) (n:=3) (a:=⟨g,0,none⟩) Jd rfl yT (Nat.succ_ne_zero 0)
 exact h
theorem HC.bts (h:HC g st blk u tot w) {lo:Nat} (hlo:lo<64):cm (blk.drop lo) (.slice (some ⟨g,8+lo,none⟩) (64-lo) (64-lo)) w:=by
 refine⟨_,_,_,rfl,Nat.le_refl _,by unfold maxLen;omega,by simp[h.lb],fun _=>⟨_,rfl,fun j v hj=>?_⟩,fun h=>by cases h⟩
 rw[Addr.add_mid]
 refine h.hb.cell ?_
 unfold cX
 rw[List.getElem?_append_right (by simp[h.ls];omega),List.length_map,h.ls,show 8+lo+j-8=lo+j by omega]
 have hjl:lo+j<(blk.map U8).length:=by
  have:=(List.getElem?_eq_some_iff.1 hj).1
  simp only[List.length_map,List.length_drop] at this⊢
  omega
 rw[List.getElem?_append_left hjl]
 rw[List.map_drop,List.getElem?_drop] at hj
 exact hj
theorem GZ {lo:Nat} (hlo:lo<64):(Instr.sliceAt 200 (.pointer (some ⟨g,8,none⟩)) (some (I (lo:Int))) none none).run Tryz.prog w=.ok (.slice (some ⟨g,8+lo,none⟩) (64-lo) (64-lo)) w:=
 DM Tryz.underlying200 fC hlo .i64
theorem HC.ldS (h:HC g st blk u tot w):(Instr.loadAt 112 (.pointer (some ⟨g,0,none⟩))).run Tryz.prog w=.ok (.agg (st.map bw).toArray) w:=
 lJ (m:=st.map bw) h.hb (fun j v hj=>by
  rw[Nat.zero_add]
  unfold cX
  rw[List.getElem?_append_left (List.getElem?_eq_some_iff.1 hj).1]
  exact hj) I9 rfl (by rw[List.length_map,h.ls];exact mg)
end
theorem Df (b:List UInt8) (i j:Nat):(b.drop i).getD j 0=b.getD (i+j) 0:=by simp[List.getD]
end Go.Rl
namespace Go.Rl
open Go.RowKit Go.Proofs
theorem wO:az Tryz.prog 128:=⟨_,Tryz.func128,by kernel_rfl,rfl⟩
theorem Dg (b:List UInt8) (k:Nat):oI b k=((((b.drop (4*k)).getD 0 0).toUInt32<<<UInt32.ofNat 24|||((b.drop (4*k)).getD 1 0).toUInt32<<<UInt32.ofNat 16)|||((b.drop (4*k)).getD 2 0).toUInt32<<<UInt32.ofNat 8)|||((b.drop (4*k)).getD 3 0).toUInt32:=by
 simp only[Df,oI,Nat.add_zero]
theorem tu {m:List UInt32} {i:Nat} (h:i<m.length):(m.map bw)[i]? =some (bw (m.getD i 0)):=by simp[h]
theorem wQ {w:World} {g:Nat} {s:List UInt32} {b:List UInt8} {u:Int} {tot:UInt64} (hc:HC g s b u tot w):
 Calls Tryz.prog 128 #[.pointer (some ⟨g,0,none⟩)] w (bF fun _ w'=>w.grownBy w' (some g)∧HC g (tI s b) b 0 tot w'):=by
 have hs:=hc.ls
 have hbl:=hc.lb
 refine enter (vs:=[.pointer (some ⟨g,0,none⟩)]) Tryz.func128 Jg Jg Jg ?_
 obtain⟨g2,w1,hr,n2,x1,b2⟩:=bf (P:=Tryz.prog) (w:=w) (l:=(dk []).map bw) tl rfl
 refine af (aa (bh Jg hr (ag (ac ?_))))
 have lg:=hc.lt
 have hc1:=hc.ext x1
 have neg:some g≠some g2:=fun h=>by cases h;omega
 refine af (eV (fun _:Unit=>[(0,.pointer (some ⟨g,0,none⟩)),(2,.pointer (some ⟨g2,0,none⟩))]) (fun _ w'=>w1.grownBy w' (some g2)∧cd g2 183 ((dk (bC b 0)).map bw) w') ?_ ?_)
 ·refine af (aa (ae Jg Jg (ag (ac (ax ?_)))))
  refine bV (α:=Nat) (fun k=>[(0,.pointer (some ⟨g,0,none⟩)),(2,.pointer (some ⟨g2,0,none⟩)),(17,I (k:Int))])
   (fun k w'=>w1.grownBy w' (some g2)∧cd g2 183 ((dk (iG b k)).map bw) w'∧k≤16) (fun k=>16-k) 0 ⟨rfl,rfl,rfl,trivial⟩
   ⟨dj (aM.refl _),b2,by omega⟩ ?_
  rintro k w7 ⟨q7,b7,hk⟩
  refine af (aa ?_)
  refine ai Jg Jg Jg (aX) ?_
  refine ag (ac (af ?_))
  refine bi Jg (fun h=>?_) (fun h=>?_)
  ·have hk16:k<16:=by omega
   have e0:(4:Int)*(k:Int)=((4*k:Nat):Int):=by omega
   refine aq (ac (af (ax (af (aa (ae Jg Jg (ab Jg Jg (ag (ac (af (aa (ae Jg Jg ?_))))))))))))
   refine aG Jg Jg ?_
   refine ah Jg Jg IA ?_
   refine ae Jg Jg ?_
   refine ai (r:=I ((4*k:Nat):Int)) Jg Jg Jg (by rw[←e0];exact eR (by omega) (by omega)) ?_
   refine cu (a:=some (I ((4*k:Nat):Int))) Jg Jg Jg Jg Jg (GZ (by omega)) ?_
   refine ab Jg Jg (ag (ac ?_))
   have hbt:=(hc1.other q7 neg).bts (lo:=4*k) (by omega)
   obtain⟨ad,had⟩:=hbt.reads
   rw[List.length_drop,hbl] at had
   refine bA 24 [0,2,17,48,49] (by kernel_rfl) (by kernel_rfl) ?_
   refine ap Jg Jg (ap Jg Jg ?_)
   refine ay Jg Jg Jg (fun w _=>(had 0 (by omega)).1 w) ?_
   refine aD Jg Jg (fun w' hw=>(had 0 (by omega)).2 w' hw) ?_
   refine dh Jg Jg (fun w _=>dT IR IK) ?_
   refine aR Jg Jg Jg (fun w _=>eC 24 (by omega)) ?_
   refine ap Jg Jg ?_
   refine ay Jg Jg Jg (fun w _=>(had 1 (by omega)).1 w) ?_
   refine aD Jg Jg (fun w' hw=>(had 1 (by omega)).2 w' hw) ?_
   refine dh Jg Jg (fun w _=>dT IR IK) ?_
   refine aR Jg Jg Jg (fun w _=>eC 16 (by omega)) ?_
   refine aR Jg Jg Jg (fun w _=>eX) ?_
   refine ap Jg Jg ?_
   refine ay Jg Jg Jg (fun w _=>(had 2 (by omega)).1 w) ?_
   refine aD Jg Jg (fun w' hw=>(had 2 (by omega)).2 w' hw) ?_
   refine dh Jg Jg (fun w _=>dT IR IK) ?_
   refine aR Jg Jg Jg (fun w _=>eC 8 (by omega)) ?_
   refine aR Jg Jg Jg (fun w _=>eX) ?_
   refine ap Jg Jg ?_
   refine ay Jg Jg Jg (fun w _=>(had 3 (by omega)).1 w) ?_
   refine aD Jg Jg (fun w' hw=>(had 3 (by omega)).2 w' hw) ?_
   refine dh Jg Jg (fun w _=>dT IR IK) ?_
   refine aR Jg Jg Jg (fun w _=>eX) ?_
   refine ay Jg Jg Jg (fun w _=>gl k (by omega)) ?_
   refine bG ?_
   intro w8 hx8
   rintro _ rfl _ rfl _ rfl _ rfl _ rfl
   have hlen:(dk (iG b k)).length=64:=lu (by rw[jj];omega)
   rw[←Dg]
   refine ar Jg Jg (yP (x:=oI b k) (b7.ext hx8) k (by omega)) ?_
   have b8:=(b7.ext hx8).setU k (oI b k)
   have q8:=(q7.trans (dj hx8)).trans (aY w8 g2 k (bw (oI b k)))
   have hset:(dk (iG b k)).set k (oI b k)=dk (iG b (k+1)):=by
    have:=lw (l:=iG b k) (oI b k) (by rw[jj];omega)
    rw[jj] at this
    rw[this,tt]
   rw[hset] at b8
   refine ag (aJ (ac (aa ?_)))
   refine ai Jg Jg Jg (aK (by omega) (by omega)) ?_
   refine ae Jg Jg (ag ?_)
   exact bM (k+1) ⟨rfl,rfl,rfl,trivial⟩ ⟨q8,b8,by omega⟩ (by omega)
  ·have hk':k=16:=by omega
   subst hk'
   exact aW (aA (aA (aU (cv () ⟨rfl,rfl,trivial⟩ ⟨q7,b7⟩))))
 rintro _ w7 ⟨q7,b7⟩
 refine ac ?_
 refine af (eV (fun _:Unit=>[(0,.pointer (some ⟨g,0,none⟩)),(2,.pointer (some ⟨g2,0,none⟩))]) (fun _ w'=>w1.grownBy w' (some g2)∧cd g2 183 ((bC b 48).map bw) w') ?_ ?_)
 ·refine af (aa (ab Jg Jg (ag (ac (ax ?_)))))
  refine bV (α:=Nat) (fun k=>[(0,.pointer (some ⟨g,0,none⟩)),(2,.pointer (some ⟨g2,0,none⟩)),(5,I ((16+k:Nat):Int))])
   (fun k w'=>w1.grownBy w' (some g2)∧cd g2 183 ((dk (bC b k)).map bw) w'∧k≤48) (fun k=>48-k) 0 ⟨rfl,rfl,rfl,trivial⟩
   ⟨q7,b7,by omega⟩ ?_
  clear q7 b7
  rintro k w7 ⟨q7,b7,hk⟩
  have hL:=kj b k
  refine af (af (aa (ae Jg Jg ?_)))
  refine ai Jg Jg Jg (aX) ?_
  refine ag (ac ?_)
  refine bi Jg (fun h=>?_) (fun h=>?_)
  ·have hk48:k<48:=by omega
   refine aq (ac (af (ax (af ?_))))
   have e15:((16+k:Nat):Int)-15=(((bC b k).length-15:Nat):Int):=by omega
   have f15:=fJ (l:=bC b k) (i:=(bC b k).length-15) (by omega)
   have e2:((16+k:Nat):Int)-2=(((bC b k).length-2:Nat):Int):=by omega
   have f2:=fJ (l:=bC b k) (i:=(bC b k).length-2) (by omega)
   have e16:((16+k:Nat):Int)-16=(((bC b k).length-16:Nat):Int):=by omega
   have f16:=fJ (l:=bC b k) (i:=(bC b k).length-16) (by omega)
   have e7:((16+k:Nat):Int)-7=(((bC b k).length-7:Nat):Int):=by omega
   have f7:=fJ (l:=bC b k) (i:=(bC b k).length-7) (by omega)
   have hlen:(dk (bC b k)).length=64:=lu (by omega)
   refine bA 9 [0,2,5,6,62] (by kernel_rfl) (by kernel_rfl) ?_
   refine ap Jg Jg ?_
   refine aR (r:=I (((bC b k).length-15:Nat):Int)) Jg Jg Jg (fun w _=>by rw[←e15];exact bb (by omega) (by omega)) ?_
   refine ay Jg Jg Jg (fun w _=>gl _ (by omega)) ?_
   refine aD (r:=bw ((bC b k).getD ((bC b k).length-15) 0)) Jg Jg (fun w' hw=>by rw[←f15];exact da (b7.ext hw) _ (by omega)) ?_
   refine ap Jg Jg ?_
   refine aR (r:=I (((bC b k).length-2:Nat):Int)) Jg Jg Jg (fun w _=>by rw[←e2];exact bb (by omega) (by omega)) ?_
   refine ay Jg Jg Jg (fun w _=>gl _ (by omega)) ?_
   refine aD (r:=bw ((bC b k).getD ((bC b k).length-2) 0)) Jg Jg (fun w' hw=>by rw[←f2];exact da (b7.ext hw) _ (by omega)) ?_
   refine eg Jg Jg (bG ?_)
   intro w8 hx8
   rintro _ rfl _ rfl _ rfl _ rfl _ rfl
   refine ab Jg Jg (ag (ac ?_))
   have b12:=b7.ext hx8
   refine bA 29 [0,2,5,90,91] (by kernel_rfl) (by kernel_rfl) ?_
   refine ap Jg Jg (ap Jg Jg ?_)
   refine aR (r:=I (((bC b k).length-16:Nat):Int)) Jg Jg Jg (fun w _=>by rw[←e16];exact bb (by omega) (by omega)) ?_
   refine ay Jg Jg Jg (fun w _=>gl _ (by omega)) ?_
   refine aD (r:=bw ((bC b k).getD ((bC b k).length-16) 0)) Jg Jg (fun w' hw=>by rw[←f16];exact da (b12.ext hw) _ (by omega)) ?_
   refine ap Jg Jg ?_
   refine cl (S:=Is (bw (gT _ 7))) eN (bu.is _) Jg (fun w' _=>by
    rintro _ rfl _ rfl
    exact bF.mono (eO 7 (by omega) (by omega)) fun v w'' h=>⟨h.1,h.2⟩) ?_
   refine ap Jg Jg ?_
   refine cl (S:=Is (bw (gT _ 18))) eN (bu.is _) Jg (fun w' _=>by
    rintro _ rfl _ rfl
    exact bF.mono (eO 18 (by omega) (by omega)) fun v w'' h=>⟨h.1,h.2⟩) ?_
   refine aR Jg Jg Jg (fun w _=>cE) ?_
   refine ap Jg Jg ?_
   refine aR Jg Jg Jg (fun w _=>db 3 (by omega)) ?_
   refine aR Jg Jg Jg (fun w _=>cE) ?_
   refine aR Jg Jg Jg (fun w _=>cg) ?_
   refine ap Jg Jg ?_
   refine aR (r:=I (((bC b k).length-7:Nat):Int)) Jg Jg Jg (fun w _=>by rw[←e7];exact bb (by omega) (by omega)) ?_
   refine ay Jg Jg Jg (fun w _=>gl _ (by omega)) ?_
   refine aD (r:=bw ((bC b k).getD ((bC b k).length-7) 0)) Jg Jg (fun w' hw=>by rw[←f7];exact da (b12.ext hw) _ (by omega)) ?_
   refine aR Jg Jg Jg (fun w _=>cg) ?_
   refine ap Jg Jg ?_
   refine cl (S:=Is (bw (gT _ 17))) eN (bu.is _) Jg (fun w' _=>by
    rintro _ rfl _ rfl
    exact bF.mono (eO 17 (by omega) (by omega)) fun v w'' h=>⟨h.1,h.2⟩) ?_
   refine ap Jg Jg ?_
   refine cl (S:=Is (bw (gT _ 19))) eN (bu.is _) Jg (fun w' _=>by
    rintro _ rfl _ rfl
    exact bF.mono (eO 19 (by omega) (by omega)) fun v w'' h=>⟨h.1,h.2⟩) ?_
   refine aR Jg Jg Jg (fun w _=>cE) ?_
   refine ap Jg Jg ?_
   refine aR Jg Jg Jg (fun w _=>db 10 (by omega)) ?_
   refine aR Jg Jg Jg (fun w _=>cE) ?_
   refine aR Jg Jg Jg (fun w _=>cg) ?_
   refine ay Jg Jg Jg (fun w _=>gl (16+k) (by omega)) ?_
   refine bG ?_
   intro w13 hx13
   rintro _ rfl _ rfl _ rfl _ rfl _ rfl
   refine ar Jg Jg (yP (x:=lT (bC b k)) (b12.ext hx13) (16+k) (by omega)) ?_
   have b13:=(b12.ext hx13).setU (16+k) (lT (bC b k))
   have q13:=((q7.trans (dj hx8)).trans (dj hx13)).trans (aY w13 g2 (16+k) (bw (lT (bC b k))))
   have hset:(dk (bC b k)).set (16+k) (lT (bC b k))=dk (bC b (k+1)):=by
    have:=lw (l:=bC b k) (lT (bC b k)) (by omega)
    rw[hL] at this
    exact this
   rw[hset] at b13
   refine ag (aJ (ac (aa (ae Jg Jg ?_))))
   refine ai Jg Jg Jg (aK (by omega) (by omega)) ?_
   refine ab Jg Jg (ag ?_)
   exact bM (k+1) ⟨rfl,rfl,rfl,trivial⟩ ⟨q13,b13,by omega⟩ (by omega)
  ·have hk':k=48:=by omega
   subst hk'
   have hf:dk (bC b 48)=bC b 48:=by
    unfold dk
    rw[hL]
    exact List.append_nil _
   rw[hf] at b7
   exact aW (aA (aA (aU (cv () ⟨rfl,rfl,trivial⟩ ⟨q7,b7⟩))))
 clear q7 b7
 rintro _ w7 ⟨q7,b7⟩
 have hc7:=hc1.other q7 neg
 refine ac (af (aa (ae Jg Jg ?_)))
 refine aG Jg Jg ?_
 refine ah Jg Jg Gp ?_
 refine am Jg Jg hc7.ldS ?_
 have hlen8:(Tryz.prog.info? 112).map (·.size)=some (s.map bw).length:=by rw[List.length_map,hs];exact mg
 obtain⟨g8,w8,hr,n8,x8,b8⟩:=bf (P:=Tryz.prog) (w:=w7) (l:=(List.replicate 8 0).map bw) BA rfl
 refine bh Jg hr ?_
 refine ar Jg Jg (gW b8 (by simp[hs]) hlen8 (jq _)) ?_
 have b8':=b8.row (s.map bw)
 have q8:=bo w8 g8 (s.map bw).toArray
 have l28:g2<g8:=Nat.lt_of_lt_of_le b7.lt n8
 have lg7:=hc7.lt
 have ne28:some g2≠some g8:=fun h=>by cases h;omega
 have neg8:some g≠some g8:=fun h=>by cases h;omega
 have D2:=(b7.ext x8).other q8 ne28
 have hc8:=(hc7.ext x8).other q8 neg8
 have Q8:w.grownBy (w8.setRow g8 (s.map bw).toArray) (some g):=by
  have h1:aM w w7:=x1.of_new q7 n2
  exact dj ((h1.trans x8).of_new q8 (by have:=h1.size;omega))
 revert b8' D2 hc8 Q8
 generalize w8.setRow g8 (s.map bw).toArray=w9
 intro b9 D2 hc9 Q9
 refine ag (ac ?_)
 refine af (eV (fun _:Unit=>[(0,.pointer (some ⟨g,0,none⟩)),(8,.pointer (some ⟨g8,0,none⟩))]) (fun _ w'=>w9.grownBy w' (some g8)∧cd g8 112 ((dN b s 64).map bw) w') ?_ ?_)
 ·refine af (aa ?_)
  refine an (vs:=[]) tn Jg Jg (tq w9) ?_
  rintro _ w10 ⟨x10,rfl⟩
  refine ae Jg Jg (ag (ac (ax ?_)))
  refine bV (α:=Nat) (fun i=>[(0,.pointer (some ⟨g,0,none⟩)),(2,.pointer (some ⟨g2,0,none⟩)),(8,.pointer (some ⟨g8,0,none⟩)),(96,.agg (kc.map bw).toArray),(97,I (i:Int))])
   (fun i w'=>w9.grownBy w' (some g8)∧cd g8 112 ((dN b s i).map bw) w'∧i≤64) (fun i=>64-i) 0 ⟨rfl,rfl,rfl,rfl,rfl,trivial⟩
   ⟨dj x10,b9.ext x10,by omega⟩ ?_
  clear x10 w10
  rintro i w10 ⟨q10,b10,hi⟩
  have hv8:=gd b s hs i
  refine af (aa ?_)
  refine ai Jg Jg Jg (aX) ?_
  refine ag (ac (af ?_))
  refine bi Jg (fun h=>?_) (fun h=>?_)
  ·have hi64:i<64:=by omega
   have hkc:kc.length=64:=rfl
   have hsl:(bC b 48).length=64:=kj b 48
   refine aq (ac (af (ax (af (aa (ae Jg Jg ?_))))))
   refine kH Jg Jg Jg (DL (l:=kc.map bw) Jf dU IK hi64 .i64 (tu (by omega))) ?_
   refine ab Jg Jg (ab Jg Jg (ag (ac (af ?_))))
   have V:=b10
   have K6:=D2.other q10 ne28
   refine bA 5 [0,2,8,9,10,11,96,97,104] (by kernel_rfl) (by kernel_rfl) ?_
   refine ay Jg Jg Jg (fun w _=>dJ 0 (by omega)) ?_
   refine aD Jg Jg (fun w' hw=>da (V.ext hw) 0 (by omega)) ?_
   refine ay Jg Jg Jg (fun w _=>dJ 4 (by omega)) ?_
   refine aD Jg Jg (fun w' hw=>da (V.ext hw) 4 (by omega)) ?_
   refine eg Jg Jg (bG ?_)
   intro w11 hx11
   rintro _ rfl _ rfl _ rfl _ rfl _ rfl _ rfl _ rfl _ rfl _ rfl
   refine ab Jg Jg (ag (ac (af ?_)))
   replace V:=V.ext hx11
   replace K6:=K6.ext hx11
   refine bA 28 [0,2,8,11,96,97,132] (by kernel_rfl) (by kernel_rfl) ?_
   refine ay Jg Jg Jg (fun w _=>dJ 7 (by omega)) ?_
   refine aD Jg Jg (fun w' hw=>da (V.ext hw) 7 (by omega)) ?_
   refine ap Jg Jg ?_
   refine cl (S:=Is (bw (gT _ 6))) eN (bu.is _) Jg (fun w' _=>by
    rintro _ rfl _ rfl
    exact bF.mono (eO 6 (by omega) (by omega)) fun v w'' h=>⟨h.1,h.2⟩) ?_
   refine ap Jg Jg ?_
   refine cl (S:=Is (bw (gT _ 11))) eN (bu.is _) Jg (fun w' _=>by
    rintro _ rfl _ rfl
    exact bF.mono (eO 11 (by omega) (by omega)) fun v w'' h=>⟨h.1,h.2⟩) ?_
   refine aR Jg Jg Jg (fun w _=>cE) ?_
   refine ap Jg Jg ?_
   refine cl (S:=Is (bw (gT _ 25))) eN (bu.is _) Jg (fun w' _=>by
    rintro _ rfl _ rfl
    exact bF.mono (eO 25 (by omega) (by omega)) fun v w'' h=>⟨h.1,h.2⟩) ?_
   refine aR Jg Jg Jg (fun w _=>cE) ?_
   refine aR Jg Jg Jg (fun w _=>cg) ?_
   refine ap Jg Jg ?_
   refine ay Jg Jg Jg (fun w _=>dJ 5 (by omega)) ?_
   refine aD Jg Jg (fun w' hw=>da (V.ext hw) 5 (by omega)) ?_
   refine aR Jg Jg Jg (fun w _=>eW) ?_
   refine ap Jg Jg ?_
   refine xf Jg Jg (fun w _=>p2) ?_
   refine ay Jg Jg Jg (fun w _=>dJ 6 (by omega)) ?_
   refine aD Jg Jg (fun w' hw=>da (V.ext hw) 6 (by omega)) ?_
   refine aR Jg Jg Jg (fun w _=>eW) ?_
   refine aR Jg Jg Jg (fun w _=>cE) ?_
   refine aR Jg Jg Jg (fun w _=>cg) ?_
   refine ap Jg Jg ?_
   refine aR Jg Jg Jg (fun w _=>cg) ?_
   refine ap Jg Jg ?_
   refine ay Jg Jg Jg (fun w _=>gl i (by omega)) ?_
   refine aD Jg Jg (fun w' hw=>da (K6.ext hw) i (by omega)) ?_
   refine aR Jg Jg Jg (fun w _=>cg) ?_
   refine bG ?_
   intro w12 hx12
   rintro _ rfl _ rfl _ rfl _ rfl _ rfl _ rfl _ rfl
   refine ab Jg Jg (ag (ac (af ?_)))
   replace V:=V.ext hx12
   refine bA 24 [0,2,8,13,96,97,156] (by kernel_rfl) (by kernel_rfl) ?_
   refine ap Jg Jg ?_
   refine cl (S:=Is (bw (gT _ 2))) eN (bu.is _) Jg (fun w' _=>by
    rintro _ rfl _ rfl
    exact bF.mono (eO 2 (by omega) (by omega)) fun v w'' h=>⟨h.1,h.2⟩) ?_
   refine ap Jg Jg ?_
   refine cl (S:=Is (bw (gT _ 13))) eN (bu.is _) Jg (fun w' _=>by
    rintro _ rfl _ rfl
    exact bF.mono (eO 13 (by omega) (by omega)) fun v w'' h=>⟨h.1,h.2⟩) ?_
   refine aR Jg Jg Jg (fun w _=>cE) ?_
   refine ap Jg Jg ?_
   refine cl (S:=Is (bw (gT _ 22))) eN (bu.is _) Jg (fun w' _=>by
    rintro _ rfl _ rfl
    exact bF.mono (eO 22 (by omega) (by omega)) fun v w'' h=>⟨h.1,h.2⟩) ?_
   refine aR Jg Jg Jg (fun w _=>cE) ?_
   refine ap Jg Jg ?_
   refine ay Jg Jg Jg (fun w _=>dJ 1 (by omega)) ?_
   refine aD Jg Jg (fun w' hw=>da (V.ext hw) 1 (by omega)) ?_
   refine aR Jg Jg Jg (fun w _=>eW) ?_
   refine ap Jg Jg ?_
   refine ay Jg Jg Jg (fun w _=>dJ 2 (by omega)) ?_
   refine aD Jg Jg (fun w' hw=>da (V.ext hw) 2 (by omega)) ?_
   refine aR Jg Jg Jg (fun w _=>eW) ?_
   refine aR Jg Jg Jg (fun w _=>cE) ?_
   refine ay Jg Jg Jg (fun w _=>dJ 1 (by omega)) ?_
   refine aD Jg Jg (fun w' hw=>da (V.ext hw) 1 (by omega)) ?_
   refine ay Jg Jg Jg (fun w _=>dJ 2 (by omega)) ?_
   refine aD Jg Jg (fun w' hw=>da (V.ext hw) 2 (by omega)) ?_
   refine aR Jg Jg Jg (fun w _=>eW) ?_
   refine aR Jg Jg Jg (fun w _=>cE) ?_
   refine aR Jg Jg Jg (fun w _=>cg) ?_
   refine bG ?_
   intro w13 hx13
   rintro _ rfl _ rfl _ rfl _ rfl _ rfl _ rfl _ rfl
   refine ab Jg Jg (ag (ac (aa (ae Jg Jg (ae Jg Jg ?_)))))
   replace V:=V.ext hx13
   refine ai Jg Jg Jg (cg) ?_
   refine aB Jg Jg Jg (dJ 0 (by omega)) ?_
   refine am Jg Jg (da V 0 (by omega)) ?_
   refine aB Jg Jg Jg (dJ 1 (by omega)) ?_
   refine am Jg Jg (da V 1 (by omega)) ?_
   refine aB Jg Jg Jg (dJ 2 (by omega)) ?_
   refine am Jg Jg (da V 2 (by omega)) ?_
   refine aB Jg Jg Jg (dJ 3 (by omega)) ?_
   refine am Jg Jg (da V 3 (by omega)) ?_
   refine ae Jg Jg ?_
   refine ai Jg Jg Jg (cg) ?_
   refine aB Jg Jg Jg (dJ 4 (by omega)) ?_
   refine am Jg Jg (da V 4 (by omega)) ?_
   refine aB Jg Jg Jg (dJ 5 (by omega)) ?_
   refine am Jg Jg (da V 5 (by omega)) ?_
   refine aB Jg Jg Jg (dJ 6 (by omega)) ?_
   refine am Jg Jg (da V 6 (by omega)) ?_
   refine bm Jg Jg (run_build _ _ _ ((dN b s (i+1)).map bw).toArray (by kernel_rfl)) ?_
   have hn8:=gd b s hs (i+1)
   refine ar Jg Jg (gW V (by simp[hv8,hn8]) (by rw[List.length_map,hn8];exact mg) (jq _)) ?_
   have V':=V.row ((dN b s (i+1)).map bw)
   have q14:=(q10.trans (dj ((hx11.trans hx12).trans hx13))).trans (bo w13 g8 ((dN b s (i+1)).map bw).toArray)
   refine ag (aJ (ac (aa ?_)))
   refine ai Jg Jg Jg (aK (by omega) (by omega)) ?_
   refine ae Jg Jg (ag ?_)
   exact bM (i+1) ⟨rfl,rfl,rfl,rfl,rfl,trivial⟩ ⟨q14,V',by omega⟩ (by omega)
  ·have hi':i=64:=by omega
   subst hi'
   exact aW (aA (aA (aU (cv () ⟨rfl,rfl,trivial⟩ ⟨q10,b10⟩))))
 rintro _ w10 ⟨q10,b10⟩
 refine ac ?_
 have hv8:=gd b s hs 64
 have hc10:=hc9.other q10 neg8
 have ha0:iL s (dN b s 64) 0=s:=by simp[iL]
 refine af (eV (fun _:Unit=>[(0,.pointer (some ⟨g,0,none⟩))]) (fun _ w'=>w10.grownBy w' (some g)∧HC g (iL s (dN b s 64) 8) b u tot w') ?_ ?_)
 ·refine af (aa ?_)
  refine am Jg Jg (lJ (m:=(dN b s 64).map bw) b10 (fun j v h=>by rwa [Nat.zero_add]) I9 Jg (by rw[List.length_map,hv8];exact mg)) ?_
  refine ae Jg Jg (ag (ac (ax ?_)))
  refine bV (α:=Nat) (fun i=>[(0,.pointer (some ⟨g,0,none⟩)),(178,.agg ((dN b s 64).map bw).toArray),(179,I (i:Int))])
   (fun i w'=>w10.grownBy w' (some g)∧HC g (iL s (dN b s 64) i) b u tot w'∧i≤8) (fun i=>8-i) 0 ⟨rfl,rfl,rfl,trivial⟩
   ⟨dj (aM.refl _),by rw[ha0];exact hc10,by omega⟩ ?_
  rintro i w11 ⟨q11,c11,hi⟩
  refine af (aa ?_)
  refine ai Jg Jg Jg (aX) ?_
  refine ag (ac (af ?_))
  refine bi Jg (fun h=>?_) (fun h=>?_)
  ·have hi8:i<8:=by omega
   have hag:=uN hs hv8 hi8
   refine aq (ac (af (ax (af (aa (ae Jg Jg ?_))))))
   refine kH Jg Jg Jg (DL (l:=(dN b s 64).map bw) I9 dU IK hi8 .i64 (tu (by omega))) ?_
   refine ab Jg Jg (ab Jg Jg (ag (ac ?_)))
   refine bA 11 [0,178,179,190,193] (by kernel_rfl) (by kernel_rfl) ?_
   refine ap Jg Jg (ap Jg Jg ?_)
   refine bQ Jg Jg ?_
   refine aL Jg Jg (fun w _=>Gp) ?_
   refine ay Jg Jg Jg (fun w _=>dJ i (by omega)) ?_
   refine aD (r:=bw (s.getD i 0)) Jg Jg (fun w' hw=>by rw[←hag];exact ak IK Jg ((c11.ext hw).cellS hi8)) ?_
   refine ap Jg Jg ?_
   refine aR Jg Jg Jg (fun w _=>cg) ?_
   refine bQ Jg Jg ?_
   refine aL Jg Jg (fun w _=>Gp) ?_
   refine ay Jg Jg Jg (fun w _=>dJ i (by omega)) ?_
   refine bG ?_
   intro w12 hx12
   rintro _ rfl _ rfl _ rfl _ rfl _ rfl
   have hcl:=gn (u:=u) (tot:=tot) c11.ls c11.lb
   refine ar Jg Jg (dm dU Jg (c11.ext hx12).hb (by rw[List.size_toArray,hcl];omega)) ?_
   have c12:=(c11.ext hx12).setS i hi8 (s.getD i 0+(dN b s 64).getD i 0)
   rw[uO hs hv8 hi8] at c12
   have q12:=(q11.trans (dj hx12)).trans (aY w12 g i (bw (s.getD i 0+(dN b s 64).getD i 0)))
   refine ag (aJ (ac (aa ?_)))
   refine ai Jg Jg Jg (aK (by omega) (by omega)) ?_
   refine ae Jg Jg (ag ?_)
   exact bM (i+1) ⟨rfl,rfl,rfl,trivial⟩ ⟨q12,c12,by omega⟩ (by omega)
  ·have hi':i=8:=by omega
   subst hi'
   exact aW (aA (aA (aU (cv () ⟨rfl,trivial⟩ ⟨q11,c11⟩))))
 rintro _ w11 ⟨q11,c11⟩
 rw[uP hs hv8] at c11
 have hcl:=gn (u:=u) (tot:=tot) c11.ls c11.lb
 refine ac (aa (ae Jg Jg ?_))
 refine aG Jg Jg ?_
 refine ah Jg Jg De ?_
 refine ar Jg Jg (dm (i:=72) dz Jg c11.hb (by rw[List.size_toArray,hcl];omega)) ?_
 have c12:=c11.setU 0
 refine ag ?_
 refine gH Jg ?_
 refine⟨_,rfl,?_,c12⟩
 have Q10:w.grownBy w10 (some g):=by
  have h:w.grownBy w9 (some g):=Q9
  refine⟨q10.os.trans h.os,q10.tape.trans h.tape,q10.output.trans h.output,Nat.le_trans h.size q10.size,fun k hk hne=>?_⟩
  exact(q10.block k (Nat.lt_of_lt_of_le hk h.size) (fun he=>by cases he;omega)).trans (h.block k hk hne)
 exact(Q10.trans q11).trans (aY w11 g 72 (I 0))
end Go.Rl
namespace Go.Rl
open Go.RowKit Go.Proofs
def HA (g:Nat) (m:List UInt8) (tot:UInt64) (w:World):Prop:=∃blk,HC g (sh m) blk ((m.length%64:Nat):Int) tot w∧blk.take (m.length%64)=m.drop (64*(m.length/64))
theorem HA.ext {g:Nat} {m:List UInt8} {tot:UInt64} {w w':World} (h:HA g m tot w) (hx:aM w w'):HA g m tot w':=by
 obtain⟨blk,h1,h2⟩:=h
 exact⟨blk,h1.ext hx,h2⟩
theorem HA.other {g:Nat} {m:List UInt8} {tot:UInt64} {w w':World} {row:Option Nat} (h:HA g m tot w) (hg:w.grownBy w' row) (hne:some g≠row):HA g m tot w':=by
 obtain⟨blk,h1,h2⟩:=h
 exact⟨blk,h1.other hg hne,h2⟩
theorem HA.lt {g:Nat} {m:List UInt8} {tot:UInt64} {w:World} (h:HA g m tot w):g<w.heap.size:=by
 obtain⟨blk,h1,h2⟩:=h
 exact h1.lt
theorem Gq (m y:List UInt8) (h:m.length%64+y.length<64):sh (m++y)=sh m:=by
 have hm:m=m.take (64*(m.length/64))++m.drop (64*(m.length/64)):=(List.take_append_drop _ _).symm
 have hl:(m.take (64*(m.length/64))).length=64*(m.length/64):=by simp;omega
 have hd:(m.drop (64*(m.length/64))).length=m.length%64:=by simp;omega
 rw[hm,List.append_assoc,vL _ _ (by omega) (by rw[List.length_append,hd];exact h),vL _ _ (by omega) (by omega)]
theorem Gr (m y:List UInt8) (h:m.length%64+y.length=64):sh (m++y)=tI (sh m) (m.drop (64*(m.length/64))++y):=by
 have hm:m=m.take (64*(m.length/64))++m.drop (64*(m.length/64)):=(List.take_append_drop _ _).symm
 have hl:(m.take (64*(m.length/64))).length=64*(m.length/64):=by simp;omega
 have hd:(m.drop (64*(m.length/64))).length=m.length%64:=by simp;omega
 have e1:sh (m++y)=sh (m.take (64*(m.length/64))++(m.drop (64*(m.length/64))++y)):=by
  rw[←List.append_assoc,List.take_append_drop]
 have e2:sh m=sh (m.take (64*(m.length/64))):=by
  conv=>lhs;rw[hm]
  exact vL _ _ (by omega) (by omega)
 rw[e1,e2,Ev _ _ (by omega) (by rw[List.length_append,hd];exact h)]
def Ap (g:Nat) (v:Value):Prop:=∀a n c,v=.slice (some a) n c→a.block≠g
theorem cm.away {l:List UInt8} {v:Value} {g:Nat} {w w':World} (h:cm l v w) (ha:0<l.length→Ap g v) (hg:w.grownBy w' (some g)):cm l v w':=by
 obtain⟨A,n,c,rfl,h1,h2,h3,h4,h5⟩:=h
 refine⟨A,n,c,rfl,h1,h2,h3,fun hn=>?_,h5⟩
 obtain⟨ad,rfl,hc⟩:=h4 hn
 have hlen:0<l.length:=by
  have:l.length=n:=by simpa using h3
  omega
 refine⟨ad,rfl,fun j u hu=>?_⟩
 have hb:(ad.add j).block=ad.block:=by unfold Addr.add;split<;>rfl
 exact hg.cell (hc j u hu) (by rw[hb];intro he;exact ha hlen ad n c rfl (Option.some.inj he))
theorem Aq {l:List UInt8} {v:Value} {g:Nat} {w:World} (h:cm l v w) {lo:Nat} (hlo:lo≤l.length) (ha:Ap g v):
 ∃r,(∀w':World,(Instr.sliceAt 28 v (some (I (lo:Int))) none none).run Tryz.prog w'=.ok r w')∧cm (l.drop lo) r w∧Ap g r:=by
 obtain⟨r,hr,hb⟩:=eZ h hlo .i64
 refine⟨r,hr,hb,?_⟩
 obtain⟨A,n,c,rfl,h1,h2,h3,h4,h5⟩:=h
 have hln:lo≤n:=by
  have:l.length=n:=by simpa using h3
  omega
 have hbd:(Instr.sliceBounds true n c (some (.int .i64 (lo:Int))) none none).run Tryz.prog w=.ok (lo,n,c) w:=by
  have a2:=run_sliceBound (P:=Tryz.prog) (w:=w) .i64 (lo:Int) n .sliceB (by omega) (by omega)
  simp only[Int.toNat_natCast] at a2
  simp[Instr.sliceBounds,a2]
 have hrun:(Instr.sliceAt 28 (.slice A n c) (some (.int .i64 (lo:Int))) none none).run Tryz.prog w=.ok (.slice (if c=lo then A else A.map (·.add (lo*1))) (n-lo) (c-lo)) w:=by
  simp[Instr.sliceAt,Instr.slice,run_underlying Tryz.underlying28,hbd,dE fC]
 have e:=(hr w).symm.trans hrun
 simp only[Result.ok.injEq,and_true] at e
 subst e
 intro a n' c' he
 simp only[Value.slice.injEq] at he
 obtain⟨he,_,_⟩:=he
 split at he
 ·exact ha a n c (by rw[he])
 ·obtain⟨a0,h0,rfl⟩:=Option.map_eq_some_iff.1 he
  have:(a0.add (lo*1)).block=a0.block:=by unfold Addr.add;split<;>rfl
  rw[this]
  exact ha a0 n c (by rw[h0])
theorem Gs {g:Nat} {st:List UInt32} {blk x:List UInt8} {u:Int} {tot:UInt64} {w:World} {v:Value} {ty:TypeId} {o:Nat} (h:HC g st blk u tot w) (ho:o<64) (hx:cm x v w) (hne:0<x.length):
 ∃w',(Builtin.copy_ #[28,28] ty #[.slice (some ⟨g,8+o,none⟩) (64-o) (64-o),v]).run Tryz.prog w=.ok (I ((min x.length (64-o):Nat):Int)) w'∧w.grownBy w' (some g)∧
  HC g st (blk.take o++x.take (64-o)++blk.drop (o+min x.length (64-o))) u tot w':=by
 obtain⟨A,n,c,rfl,h1,h2,h3,h4,h5⟩:=hx
 have hxn:x.length=n:=by simpa using h3
 obtain⟨ad,rfl,hc⟩:=h4 (by omega)
 have hcs:((x.take (64-o)).map U8).length=min n (64-o):=by simp[hxn,Nat.min_comm]
 have hr:=run_copy_row (P:=Tryz.prog) w 28 28 ty 5 g (8+o) (64-o) (64-o) ad n c _ 202 ((x.take (64-o)).map U8) IP fC h.hb hcs
  (fun j u hj=>hc j u (by
    rw[List.map_take,List.getElem?_take] at hj
    split at hj
    ·exact hj
    ·cases hj)) (by rw[hcs,List.size_toArray,gn h.ls h.lb];omega) (pb _)
 rw[hcs] at hr
 refine⟨_,by rw[hxn];exact hr,bo _ _ _,?_,h.ls,?_⟩
 ·have:=h.hb.row (cX st (blk.take o++x.take (64-o)++blk.drop (o+min n (64-o))) u tot)
  rw[hxn]
  have e:((cX st blk u tot).toArray.toList.take (8+o)++(x.take (64-o)).map U8++(cX st blk u tot).toArray.toList.drop (8+o+min n (64-o)))=cX st (blk.take o++x.take (64-o)++blk.drop (o+min n (64-o))) u tot:=by
   have l8:(st.map bw).length=8:=by simp[h.ls]
   have l64:(blk.map U8).length=64:=by simp[h.lb]
   unfold cX
   rw[List.take_append,l8,List.drop_append,l8,show 8+o-8=o by omega,show 8+o+min n (64-o)-8=o+min n (64-o) by omega]
   rw[List.take_of_length_le (by omega),List.drop_eq_nil_of_le (by omega),List.nil_append]
   rw[List.take_append,l64,show o-64=0 by omega,List.take_zero,List.append_nil,List.drop_append,l64,show o+min n (64-o)-64=0 by omega,List.drop_zero]
   simp only[List.map_append,List.map_take,List.map_drop,List.append_assoc]
  rw[e]
  exact this
 ·simp only[List.length_append,List.length_take,List.length_drop,h.lb];omega
end Go.Rl
namespace Go.Rl
open Go.RowKit Go.Proofs
theorem ly:az Tryz.prog 74:=⟨_,Tryz.func74,by kernel_rfl,rfl⟩
theorem Dh:az Tryz.prog 73:=⟨_,Tryz.func73,by kernel_rfl,rfl⟩
theorem lz {w:World} {g:Nat} {m x:List UInt8} {tot:UInt64} {v:Value} (hh:HA g m tot w) (hx:cm x v w) (ha:0<x.length→Ap g v):
 Calls Tryz.prog 74 #[.pointer (some ⟨g,0,none⟩),v] w (bF fun _ w'=>w.grownBy w' (some g)∧HA g (m++x) (tot+UInt64.ofNat x.length) w'):=by
 refine enter (vs:=[.pointer (some ⟨g,0,none⟩),v]) Tryz.func74 Jg Jg Jg ?_
 refine af (af (aa (ae Jg Jg ?_)))
 refine ai Jg Jg Jg (lP Tryz.underlying129) ?_
 refine ag (ac ?_)
 refine cq Jg ?_
 refine aq (ac (af (aa (ae Jg Jg ?_))))
 obtain⟨blk0,hc0,ht0⟩:=hh
 refine aG Jg Jg ?_
 refine ah Jg Jg HL ?_
 refine am Jg Jg (ak IL Jg hc0.cellT) ?_
 refine ae Jg Jg ?_
 refine aP Jg Jg (bz hx) ?_
 refine aQ Jg Jg (cI IM IL) ?_
 refine ai Jg Jg Jg (dn) ?_
 refine aG Jg Jg ?_
 refine ah Jg Jg HL ?_
 have hcl0:=gn (u:=((m.length%64:Nat):Int)) (tot:=tot) hc0.ls hc0.lb
 refine ar Jg Jg (dm (i:=73) yT Jg hc0.hb (by rw[List.size_toArray,hcl0];omega)) ?_
 have hc1:=hc0.setT (tot+UInt64.ofNat x.length)
 have q1:=aY w g 73 (bj (tot+UInt64.ofNat x.length))
 have hx1:=hx.away ha q1
 revert hc1 q1 hx1
 generalize w.setCell ⟨g,73,none⟩ (bj (tot+UInt64.ofNat x.length))=w1
 intro hc1 q1 hx1
 refine ag (ac (ax ?_))
 refine bV (α:=Nat×Value) (fun p=>[(0,.pointer (some ⟨g,0,none⟩)),(1,p.2)])
  (fun p w'=>HA g (m++x.take p.1) (tot+UInt64.ofNat x.length) w'∧cm (x.drop p.1) p.2 w'∧(0<(x.drop p.1).length→Ap g p.2)∧w.grownBy w' (some g)∧p.1≤x.length) (fun p=>x.length-p.1) (0,v) ⟨rfl,rfl,trivial⟩
  ⟨by simpa using⟨blk0,hc1,ht0⟩,by simpa using hx1,by simpa using ha,q1,by simp⟩ ?_
 rintro⟨k,b⟩ w2 ⟨⟨blk,hc2,ht2⟩,hb2,ha2,q2,hk⟩
 dsimp only at hc2 ht2 hb2 ha2 q2 hk
 have hm':∃m',m'=m++x.take k:=⟨_,rfl⟩
 obtain⟨m',hm'⟩:=hm'
 rw[←hm'] at hc2 ht2
 refine af (af (aa (ae Jg Jg ?_)))
 refine aP Jg Jg (bz hb2) ?_
 refine ai Jg Jg Jg (ce) ?_
 refine ag (ac ?_)
 refine bi Jg (fun h=>?_) (fun h=>?_)
 ·have hlt:0<(x.drop k).length:=by omega
  have hu:m'.length%64<64:=Nat.mod_lt _ (by omega)
  refine aq (ac (ax (af ?_)))
  refine bA 9 [0,1,27,28] (by kernel_rfl) (by kernel_rfl) ?_
  refine ap Jg Jg ?_
  refine bQ Jg Jg ?_
  refine aL Jg Jg (fun w _=>IA) ?_
  refine ap Jg Jg ?_
  refine bQ Jg Jg ?_
  refine aL Jg Jg (fun w _=>De) ?_
  refine aD Jg Jg (fun w' hw=>ak IM Jg (hc2.ext hw).cellU) ?_
  refine gI (a:=some (I ((m'.length%64:Nat):Int))) (b:=none) Jg Jg Jg Jg (fun w _=>GZ hu) ?_
  refine ap Jg Jg (bG ?_)
  intro w3 hx3
  rintro _ rfl _ rfl _ rfl _ rfl
  have hc3:=hc2.ext hx3
  obtain⟨w4,hr,q4,hc4⟩:=Gs (ty:=3) hc3 hu (hb2.ext hx3) hlt
  obtain⟨n,hn⟩:∃n,n=min (x.drop k).length (64-m'.length%64):=⟨_,rfl⟩
  rw[←hn] at hr hc4
  have hxk:(x.drop k).length=x.length-k:=List.length_drop
  have hn1:n≤x.length-k:=by omega
  have hn2:m'.length%64+n≤64:=by omega
  have hn0:0<n:=by omega
  refine G9 Jg Jg hr ?_
  refine ab Jg Jg (ag (ac (af (aa (ae Jg Jg ?_)))))
  refine aG Jg Jg ?_
  refine ah Jg Jg De ?_
  refine am Jg Jg (ak IM Jg hc4.cellU) ?_
  refine ae Jg Jg ?_
  have e1:((m'.length%64:Nat):Int)+(n:Int)=((m'.length%64+n:Nat):Int):=by omega
  refine ai (r:=I ((m'.length%64+n:Nat):Int)) Jg Jg Jg (by rw[←e1];exact aK (by omega) (by omega)) ?_
  refine aG Jg Jg ?_
  refine ah Jg Jg De ?_
  have hcl4:=gn (u:=((m'.length%64:Nat):Int)) (tot:=tot+UInt64.ofNat x.length) hc4.ls hc4.lb
  refine ar Jg Jg (dm (i:=72) dz Jg hc4.hb (by rw[List.size_toArray,hcl4];omega)) ?_
  have hc5:=hc4.setU ((m'.length%64+n:Nat):Int)
  have q5:=q4.trans (aY w4 g 72 (I ((m'.length%64+n:Nat):Int)))
  revert hc5 q5
  generalize w4.setCell ⟨g,72,none⟩ (I ((m'.length%64+n:Nat):Int))=w5
  intro hc5 q5
  have hb5:=(hb2.ext hx3).away ha2 q5
  have q25:=(q2.trans (dj hx3)).trans q5
  refine ag (ac (af (aa (ae Jg Jg (ae Jg Jg ?_)))))
  obtain⟨b6,hr6,hb6,ha6⟩:=Aq hb5 (lo:=n) (by omega) (ha2 hlt)
  rw[List.drop_drop] at hb6
  refine cu (a:=some (I (n:Int))) (b:=none) Jg Jg Jg Jg Jg (hr6 _) ?_
  refine ab Jg Jg (ag (ac (af (aa (ae Jg Jg ?_)))))
  refine aG Jg Jg ?_
  refine ah Jg Jg De ?_
  refine am Jg Jg (ak IM Jg hc5.cellU) ?_
  refine ai Jg Jg Jg (aV) ?_
  refine ag (ac ?_)
  have hyl:((x.drop k).take (64-m'.length%64)).length=n:=by rw[List.length_take,hn,Nat.min_comm]
  have hyn:(x.drop k).take (64-m'.length%64)=(x.drop k).take n:=by
   rw[hn]
   rcases Nat.le_total (x.drop k).length (64-m'.length%64) with h1|h1
   ·rw[Nat.min_eq_left h1,List.take_of_length_le h1,List.take_length]
   ·rw[Nat.min_eq_right h1]
  have hmy:m++x.take (k+n)=m'++(x.drop k).take (64-m'.length%64):=by
   rw[hyn,hm',List.append_assoc,←List.take_add]
  obtain⟨y,hy⟩:∃y,y=(x.drop k).take (64-m'.length%64):=⟨_,rfl⟩
  rw[←hy] at hc5 hyl hmy
  have hmd:(m'.drop (64*(m'.length/64))).length=m'.length%64:=by rw[List.length_drop];omega
  have hml:(m'++y).length=m'.length+n:=by rw[List.length_append,hyl]
  refine bi Jg (fun h=>?_) (fun h=>?_)
  ·have hfull:m'.length%64+n=64:=by omega
   refine aa (ae Jg Jg ?_)
   refine an wO Jg Jg (wQ hc5) ?_
   rintro _ w6 ⟨q6,hc6⟩
   refine ag (aJ ?_)
   refine bM (k+n,b6) ⟨rfl,rfl,trivial⟩ ⟨?_,hb6.away (fun _=>ha6) q6,fun _=>ha6,q25.trans q6,by show k+n≤x.length;omega⟩ (by show x.length-(k+n)<x.length-k;omega)
   show HA g (m++x.take (k+n)) _ w6
   rw[hmy]
   have e0:(m'++y).length%64=0:=by rw[hml];omega
   have hd0:blk.drop (m'.length%64+n)=[]:=List.drop_eq_nil_of_le (by rw[hc2.lb];omega)
   rw[hd0,List.append_nil] at hc6
   have hdd:(m'++y).drop (64*((m'++y).length/64))=[]:=List.drop_eq_nil_of_le (by omega)
   refine⟨blk.take (m'.length%64)++y,?_,by rw[e0,hdd,List.take_zero]⟩
   rw[e0,Gr m' y (by omega),←ht2]
   exact hc6
  ·have hpart:m'.length%64+n<64:=by omega
   refine aq (aJ ?_)
   refine bM (k+n,b6) ⟨rfl,rfl,trivial⟩ ⟨?_,hb6,fun _=>ha6,q25,by show k+n≤x.length;omega⟩ (by show x.length-(k+n)<x.length-k;omega)
   show HA g (m++x.take (k+n)) _ w5
   rw[hmy]
   have e0:(m'++y).length%64=m'.length%64+n:=by rw[hml];omega
   have e2:(m'++y).length/64=m'.length/64:=by rw[hml];omega
   refine⟨_,by rw[e0,Gq m' y (by omega)];exact hc5,?_⟩
   rw[e0,e2,List.drop_append_of_le_length (by omega),←ht2]
   rw[List.take_append_of_le_length (by rw[List.length_append,List.length_take,hc2.lb,hyl];omega)]
   exact List.take_of_length_le (by rw[List.length_append,List.length_take,hc2.lb,hyl];omega)
 ·have hk':k=x.length:=by
   have:(x.drop k).length=x.length-k:=List.length_drop
   omega
  refine aW (aA (aA (aU ?_)))
  refine gH Jg ?_
  refine⟨_,rfl,q2,?_⟩
  rw[hk',List.take_length] at hm'
  rw[hm'] at hc2 ht2
  exact⟨blk,hc2,ht2⟩
theorem Di (w:World):Calls Tryz.prog 73 #[] w (bF fun r w'=>aM w w'∧∃g,w.heap.size≤g∧r=.pointer (some ⟨g,0,none⟩)∧HA g [] 0 w'):=by
 refine enter (vs:=[]) Tryz.func73 Jg Jg Jg ?_
 refine af (aa (ab Jg Jg (ag (ac (af (aa ?_))))))
 refine bm Jg Jg (run_build _ _ _ (iv.map bw).toArray (by kernel_rfl)) ?_
 refine bm Jg Jg (run_build _ _ _ (cX iv (List.replicate 64 0) 0 0).toArray (by kernel_rfl)) ?_
 obtain⟨g,w1,hr,n1,x1,b1⟩:=Fo (P:=Tryz.prog) (w:=w) (t:=202) (v:=.agg (cX iv (List.replicate 64 0) 0 0).toArray) (l:=cX iv (List.replicate 64 0) 0 0) rfl
 refine cY Jg Jg hr ?_
 refine ab Jg Jg (ag (ac (au ?_)))
 refine aF Jg Jg ?_
 exact⟨_,rfl,x1,g,n1,rfl,List.replicate 64 0,⟨b1,rfl,by simp⟩,rfl⟩
theorem HC.ldH {g:Nat} {st:List UInt32} {blk:List UInt8} {u:Int} {tot:UInt64} {w:World} (h:HC g st blk u tot w):(Instr.loadAt 202 (.pointer (some ⟨g,0,none⟩))).run Tryz.prog w=.ok (.agg (cX st blk u tot).toArray) w:=
 lJ (m:=cX st blk u tot) h.hb (fun j v hj=>by rwa [Nat.zero_add]) Jd rfl (by rw[gn h.ls h.lb];exact uT)
theorem IB {st:List UInt32} {blk:List UInt8} {u:Int} {tot:UInt64}:∀v∈cX st blk u tot,v.oneCell'=true:=by
 intro v hv
 unfold cX at hv
 rcases List.mem_append.1 hv with h|h
 ·exact jq _ v h
 ·rcases List.mem_append.1 h with h|h
  ·exact pb _ v h
  ·simp only[List.mem_cons,List.not_mem_nil,or_false] at h
   rcases h with rfl|rfl<;>rfl
end Go.Rl

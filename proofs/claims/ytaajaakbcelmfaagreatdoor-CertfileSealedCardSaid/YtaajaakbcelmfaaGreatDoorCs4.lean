/- Part 4 of a proof: plain facts and walks of functions, merged by a program. Conditions: each lemma names its own. -/
import Derived.Test.YtaajaakbcelmfaaGreatDoorCs3
namespace Go.Rl
def j7:List UInt8→List UInt8→Nat
 |a::l,b::m=>if a=b then j7 l m+1 else 0
 |_,_=>0
theorem yb (l:List UInt8):j7 l []=0:=by cases l<;>rfl
theorem GL:∀(l m:List UInt8),j7 l m≤l.length
 |[],m=>by simp[j7]
 |a::l,[]=>by simp[j7]
 |a::l,b::m=>by
  have:=GL l m
  unfold j7
  split<;>simp<;>omega
theorem CY:∀(l m:List UInt8) (j:Nat),j<j7 l m→l[j]? =m[j]? ∧j<l.length
 |[],m,j,h=>by simp[j7] at h
 |a::l,[],j,h=>by simp[j7] at h
 |a::l,b::m,j,h=>by
  unfold j7 at h
  split at h
  ·rename_i e
   subst e
   match j with
   |0=>simp
   |j+1=>
    have:=CY l m j (by omega)
    simpa using this
  ·omega
def ml (d:List UInt8) (i k:Nat):Nat:=j7 (d.drop i) (d.drop (i-k))
theorem IU (d:List UInt8) (i k:Nat):ml d i k≤d.length-i:=by
 have:=GL (d.drop i) (d.drop (i-k))
 rw[List.length_drop] at this
 exact this
theorem Jw {d:List UInt8} {i k j:Nat} (h:j<ml d i k):d[i+j]? =d[i-k+j]? ∧i+j<d.length:=by
 have:=CY (d.drop i) (d.drop (i-k)) j h
 rw[List.getElem?_drop,List.getElem?_drop,List.length_drop] at this
 exact⟨this.1,by omega⟩
def rV (d:List UInt8) (i:Nat):Nat→Nat×Nat
 |0=>(0,0)
 |j+1=>if 4≤ml d i (j+1)∧(rV d i j).1<ml d i (j+1) then(ml d i (j+1),j+1) else rV d i j
theorem BD (d:List UInt8) (i:Nat):∀j,(rV d i j=(0,0))∨(4≤(rV d i j).1∧1≤(rV d i j).2∧(rV d i j).2≤j∧ml d i (rV d i j).2=(rV d i j).1)
 |0=>.inl rfl
 |j+1=>by
  unfold rV
  split
  ·rename_i h
   exact .inr ⟨h.1,by simp,by simp,rfl⟩
  ·rcases BD d i j with h|h
   ·exact .inl h
   ·exact .inr ⟨h.1,h.2.1,by omega,h.2.2.2⟩
def cZ (d:List UInt8) (i:Nat):Nat×Nat:=rV d i (min i 4096)
theorem lL {d:List UInt8} {i:Nat} (h:(cZ d i).1≠0):4≤(cZ d i).1∧1≤(cZ d i).2∧(cZ d i).2≤i∧(cZ d i).2≤4096∧ml d i (cZ d i).2=(cZ d i).1∧i+(cZ d i).1≤d.length:=by
 rcases BD d i (min i 4096) with e|e
 ·exact absurd (show(cZ d i).1=0 by unfold cZ;rw[e]) h
 ·have hl:=IU d i (cZ d i).2
  unfold cZ at h hl⊢
  refine⟨e.1,e.2.1,by omega,by omega,e.2.2.2,?_⟩
  rw[e.2.2.2] at hl
  omega
def pk (d:List UInt8) (i run:Nat):List UInt8:=
 if _h:i<d.length then
  if hn:(cZ d i).1=0 then pk d (i+1) (run+1)
  else uv run++(d.drop (i-run)).take run++uv ((cZ d i).1-4)++uv ((cZ d i).2-1)++pk d (i+(cZ d i).1) 0
 else if 0<run then uv run++d.drop (d.length-run) else[]
termination_by d.length-i
decreasing_by all_goals omega
theorem qS {d:List UInt8} {i run:Nat} (h:i<d.length) (hn:(cZ d i).1=0):pk d i run=pk d (i+1) (run+1):=by
 rw[pk,dif_pos h,dif_pos hn]
theorem kK {d:List UInt8} {i run:Nat} (h:i<d.length) (hn:(cZ d i).1≠0):pk d i run=uv run++(d.drop (i-run)).take run++uv ((cZ d i).1-4)++uv ((cZ d i).2-1)++pk d (i+(cZ d i).1) 0:=by
 rw[pk,dif_pos h,dif_neg hn]
theorem j4 {d:List UInt8} {i run:Nat} (h:¬i<d.length):pk d i run=if 0<run then uv run++d.drop (d.length-run) else[]:=by
 rw[pk,dif_neg h]
def bS (d:List UInt8):List UInt8:=uv d.length++pk d 0 0
def AC (k:Nat):Nat→List UInt8→List UInt8
 |0,out=>out
 |m+1,out=>AC k m (out++[out.getD (out.length-k) 0])
theorem BE {d:List UInt8} {i k:Nat} (hk:1≤k) (hki:k≤i):∀(m j:Nat),j+m≤ml d i k→AC k m (d.take (i+j))=d.take (i+j+m)
 |0,j,_=>rfl
 |m+1,j,h=>by
  obtain⟨h1,h2⟩:=Jw (d:=d) (i:=i) (k:=k) (j:=j) (by omega)
  have hl:(d.take (i+j)).length=i+j:=by rw[List.length_take];omega
  have e:d.take (i+j)++[(d.take (i+j)).getD ((d.take (i+j)).length-k) 0]=d.take (i+(j+1)):=by
   rw[hl,←Nat.add_assoc,List.take_succ_eq_append_getElem h2]
   congr 2
   rw[List.getD_eq_getElem?_getD,List.getElem?_take_of_lt (by omega),show i+j-k=i-k+j by omega,←h1,List.getElem?_eq_getElem h2]
   rfl
  rw[AC,e,BE hk hki m (j+1) (by omega)]
  congr 1
  omega
def rK (total:Nat):Nat→List UInt8→List UInt8→Option (List UInt8)
 |0,_,_=>none
 |f+1,rest,out=>
  if out.length<total then
   (db rest).bind fun p=>
     if total-out.length<p.1∨p.2.length<p.1 then none
     else if total-out.length=p.1 then(if p.2.drop p.1=[] then some (out++p.2.take p.1) else none)
     else(db (p.2.drop p.1)).bind fun q=>
      if total-out.length-p.1<4∨total-out.length-p.1-4<q.1 then none
      else(db q.2).bind fun r=>
       if 4096≤r.1∨(out++p.2.take p.1).length≤r.1 then none
       else rK total f r.2 (AC (r.1+1) (q.1+4) (out++p.2.take p.1))
  else if rest=[] then some out else none
theorem yc (k:Nat):∀(m:Nat) (out:List UInt8),(AC k m out).length=out.length+m
 |0,out=>rfl
 |m+1,out=>by rw[AC,yc k m];simp;omega
theorem vT {d:List UInt8} {i run:Nat} (hr:run≤i):d.take (i-run)++(d.drop (i-run)).take run=d.take i:=by
 have:d.take i=d.take (i-run+run):=by rw[Nat.sub_add_cancel hr]
 rw[this,List.take_add]
theorem Jy {d:List UInt8} (hd:d.length<18446744073709551616):∀(c i run f:Nat),d.length-i=c→run≤i→i≤d.length→d.length-i+1≤f→
 rK d.length f (pk d i run) (d.take (i-run))=some d:=by
 intro c
 induction c using Nat.strongRecOn with
 |ind c ih=>
  intro i run f hc hr hid hf
  obtain⟨f,rfl⟩:∃g,f=g+1:=⟨f-1,by omega⟩
  have hlo:(d.take (i-run)).length=i-run:=by rw[List.length_take];omega
  by_cases hi:i<d.length
  ·by_cases hn:(cZ d i).1=0
   ·rw[qS hi hn]
    have:=ih (d.length-(i+1)) (by omega) (i+1) (run+1) (f+1) rfl (by omega) (by omega) (by omega)
    rw[show i+1-(run+1)=i-run by omega] at this
    exact this
   ·obtain⟨h4,h1,h2,h3,hml,h5⟩:=lL hn
    obtain⟨n,hnn⟩:∃n,n=(cZ d i).1:=⟨_,rfl⟩
    obtain⟨k,hkk⟩:∃k,k=(cZ d i).2:=⟨_,rfl⟩
    rw[kK hi hn]
    rw[←hnn] at h4 h5 hml⊢
    rw[←hkk] at h1 h2 h3 hml⊢
    have hlr:((d.drop (i-run)).take run).length=run:=by rw[List.length_take,List.length_drop];omega
    have hsub:d.length-(d.take (i-run)).length=d.length-i+run:=by rw[hlo];omega
    unfold rK
    rw[if_pos (by rw[hlo];omega)]
    simp only[List.append_assoc]
    rw[jD (by omega)]
    simp only[Option.bind_some,hsub]
    have e1:((d.drop (i-run)).take run++(uv (n-4)++(uv (k-1)++pk d (i+n) 0))).take run=(d.drop (i-run)).take run:=by rw[List.take_left' hlr]
    have e2:((d.drop (i-run)).take run++(uv (n-4)++(uv (k-1)++pk d (i+n) 0))).drop run=uv (n-4)++(uv (k-1)++pk d (i+n) 0):=by rw[List.drop_left' hlr]
    rw[e1,e2,if_neg (by rw[List.length_append,hlr];omega),if_neg (by omega),jD (by omega)]
    simp only[Option.bind_some]
    rw[if_neg (by omega),jD (by omega)]
    simp only[Option.bind_some]
    rw[vT hr,if_neg (by rw[List.length_take];omega),show k-1+1=k by omega,show n-4+4=n by omega]
    have hc0:=BE (d:=d) (i:=i) (k:=k) h1 h2 n 0 (by omega)
    rw[Nat.add_zero] at hc0
    rw[hc0]
    have:=ih (d.length-(i+n)) (by omega) (i+n) 0 f rfl (by omega) h5 (by omega)
    rw[Nat.sub_zero] at this
    exact this
  ·have hie:i=d.length:=by omega
   rw[j4 hi]
   unfold rK
   by_cases hr0:0<run
   ·rw[if_pos hr0,if_pos (by rw[hlo];omega),jD (by omega)]
    have hsub:d.length-(d.take (i-run)).length=run:=by rw[hlo];omega
    have hdl:(d.drop (d.length-run)).length=run:=by rw[List.length_drop];omega
    simp only[Option.bind_some,hsub]
    rw[if_neg (by omega),if_pos trivial,List.take_of_length_le (l:=d.drop (d.length-run)) (by omega),List.drop_of_length_le (by omega),if_pos rfl,hie,List.take_append_drop]
   ·have:run=0:=by omega
    subst this
    rw[if_neg (show ¬0<0 by omega),if_neg (by rw[hlo];omega),if_pos rfl,hie,Nat.sub_zero,List.take_length]
end Go.Rl
namespace Go.Rl
def uQ (total:Nat):Nat→List UInt8→List UInt8→Option (List UInt8×List UInt8)
 |0,_,_=>none
 |f+1,rest,out=>
  if out.length<total then
   (yA rest).bind fun p=>
     if (out++p.1).length<total then
      (db p.2).bind fun q=>(db q.2).bind fun r=>
        if total≤q.1∨(out++p.1).length≤r.1 then none
        else uQ total f r.2 (AC (r.1+1) (min (q.1+4) (total-(out++p.1).length)) (out++p.1))
     else some (out++p.1,p.2)
  else some (out,rest)
theorem Jz {d:List UInt8} (hd:d.length<18446744073709551616):∀(c i run f:Nat),d.length-i=c→run≤i→i≤d.length→d.length-i+1≤f→
 uQ d.length f (pk d i run) (d.take (i-run))=some (d,[]):=by
 intro c
 induction c using Nat.strongRecOn with
 |ind c ih=>
  intro i run f hc hr hid hf
  obtain⟨f,rfl⟩:∃g,f=g+1:=⟨f-1,by omega⟩
  have hlo:(d.take (i-run)).length=i-run:=by rw[List.length_take];omega
  by_cases hi:i<d.length
  ·by_cases hn:(cZ d i).1=0
   ·rw[qS hi hn]
    have:=ih (d.length-(i+1)) (by omega) (i+1) (run+1) (f+1) rfl (by omega) (by omega) (by omega)
    rw[show i+1-(run+1)=i-run by omega] at this
    exact this
   ·obtain⟨h4,h1,h2,h3,hml,h5⟩:=lL hn
    obtain⟨n,hnn⟩:∃n,n=(cZ d i).1:=⟨_,rfl⟩
    obtain⟨k,hkk⟩:∃k,k=(cZ d i).2:=⟨_,rfl⟩
    rw[kK hi hn]
    rw[←hnn] at h4 h5 hml⊢
    rw[←hkk] at h1 h2 h3 hml⊢
    obtain⟨L,hL⟩:∃L,L=(d.drop (i-run)).take run:=⟨_,rfl⟩
    have hlr:L.length=run:=by rw[hL,List.length_take,List.length_drop];omega
    have htl:d.take (i-run)++L=d.take i:=by rw[hL];exact vT hr
    have hti:(d.take i).length=i:=by rw[List.length_take];omega
    rw[←hL]
    unfold uQ
    rw[if_pos (by rw[hlo];omega)]
    have e:uv run++L++uv (n-4)++uv (k-1)++pk d (i+n) 0=Ea L++(uv (n-4)++(uv (k-1)++pk d (i+n) 0)):=by
     rw[Ea,hlr];simp only[List.append_assoc]
    rw[e,zj (by omega)]
    simp only[Option.bind_some,htl,hti]
    rw[if_pos hi,jD (by omega)]
    simp only[Option.bind_some]
    rw[jD (by omega)]
    simp only[Option.bind_some]
    rw[if_neg (by omega),show k-1+1=k by omega,show min (n-4+4) (d.length-i)=n by omega]
    have hc0:=BE (d:=d) (i:=i) (k:=k) h1 h2 n 0 (by omega)
    rw[Nat.add_zero] at hc0
    rw[hc0]
    have:=ih (d.length-(i+n)) (by omega) (i+n) 0 f rfl (by omega) h5 (by omega)
    rw[Nat.sub_zero] at this
    exact this
  ·have hie:i=d.length:=by omega
   rw[j4 hi]
   unfold uQ
   by_cases hr0:0<run
   ·have hdl:(d.drop (d.length-run)).length=run:=by rw[List.length_drop];omega
    have e:uv run++d.drop (d.length-run)=Ea (d.drop (d.length-run))++[]:=by rw[Ea,hdl,List.append_nil]
    rw[if_pos hr0,if_pos (by rw[hlo];omega),e,zj (by omega)]
    simp only[Option.bind_some]
    rw[hie,List.take_append_drop,if_neg (by omega)]
   ·have:run=0:=by omega
    subst this
    rw[if_neg (show ¬0<0 by omega),if_neg (by rw[hlo];omega),hie,Nat.sub_zero,List.take_length]
theorem BF {d:List UInt8} (hd:d.length<18446744073709551616):rK d.length (d.length+1) (pk d 0 0) []=some d:=by
 have:=Jy hd (d.length-0) 0 0 (d.length+1) rfl (by omega) (by omega) (by omega)
 simpa using this
theorem ub {d:List UInt8} (hd:d.length<18446744073709551616):uQ d.length (d.length+1) (pk d 0 0) []=some (d,[]):=by
 have:=Jz hd (d.length-0) 0 0 (d.length+1) rfl (by omega) (by omega) (by omega)
 simpa using this
theorem zS {l t out:List UInt8} {total:Nat} (hl:db l=some (total,t)) (ho:out.length<18446744073709551616) (hp:bS out=l):
 rK total (total+1) t []=some out∧uQ total (total+1) t []=some (out,[]):=by
 rw[←hp,bS,jD ho] at hl
 obtain⟨rfl,rfl⟩:=Prod.mk.inj (Option.some.inj hl)
 exact⟨BF ho,ub ho⟩
def vp (l t:List UInt8) (total:Nat):Option (List UInt8):=(rK total (total+1) t []).bind fun out=>if bS out=l then some out else none
def vr (l t:List UInt8) (total:Nat):Option (List UInt8):=(uQ total (total+1) t []).bind fun p=>if p.2=[]∧bS p.1=l then some p.1 else none
theorem Ko {l t:List UInt8} {total:Nat} (hl:db l=some (total,t)) (h1:∀out,rK total (total+1) t []=some out→out.length<18446744073709551616)
 (h2:∀p,uQ total (total+1) t []=some p→p.1.length<18446744073709551616):vp l t total=vr l t total:=by
 have key:∀out,out.length<18446744073709551616→bS out=l→vp l t total=some out∧vr l t total=some out:=fun out ho hp=>by
  obtain⟨e1,e2⟩:=zS hl ho hp
  constructor
  ·unfold vp;rw[e1];exact if_pos hp
  ·unfold vr;rw[e2];exact if_pos ⟨rfl,hp⟩
 cases hv:vp l t total with
 |some out=>
  have hv':=hv
  unfold vp at hv'
  cases hu:rK total (total+1) t [] with
  |none=>rw[hu] at hv';cases hv'
  |some o=>
   rw[hu] at hv'
   have hv':(if bS o=l then some o else none)=some out:=hv'
   split at hv'
   ·rename_i hp
    obtain rfl:=Option.some.inj hv'
    exact(key _ (h1 _ hu) hp).2.symm
   ·cases hv'
 |none=>
  cases hw:vr l t total with
  |none=>rfl
  |some out=>
   have hw':=hw
   unfold vr at hw'
   cases hu:uQ total (total+1) t [] with
   |none=>rw[hu] at hw';cases hw'
   |some p=>
    rw[hu] at hw'
    have hw':(if p.2=[]∧bS p.1=l then some p.1 else none)=some out:=hw'
    split at hw'
    ·rename_i hp
     obtain rfl:=Option.some.inj hw'
     rw[(key _ (h2 _ hu) hp.2).1] at hv
     cases hv
    ·cases hw'
theorem JA {d:List UInt8} (hd:d.length<18446744073709551616):∀(c i run:Nat),d.length-i=c→run≤i→i≤d.length→(pk d i run).length≤31*(d.length-i+run)+10:=by
 intro c
 induction c using Nat.strongRecOn with
 |ind c ih=>
  intro i run hc hr hid
  by_cases hi:i<d.length
  ·by_cases hn:(cZ d i).1=0
   ·rw[qS hi hn]
    have:=ih (d.length-(i+1)) (by omega) (i+1) (run+1) rfl (by omega) (by omega)
    omega
   ·obtain⟨h4,h1,h2,h3,_,h5⟩:=lL hn
    rw[kK hi hn]
    have:=ih (d.length-(i+(cZ d i).1)) (by omega) (i+(cZ d i).1) 0 rfl (by omega) (by omega)
    have u1:=ft (n:=run) (by omega)
    have u2:=ft (n:=(cZ d i).1-4) (by omega)
    have u3:=ft (n:=(cZ d i).2-1) (by omega)
    have ht:((d.drop (i-run)).take run).length≤run:=by rw[List.length_take];omega
    simp only[List.length_append]
    omega
  ·rw[j4 hi]
   split
   ·have u1:=ft (n:=run) (by omega)
    simp only[List.length_append,List.length_drop]
    omega
   ·simp
theorem lM {d:List UInt8} (hd:d.length<18446744073709551616):(bS d).length≤31*d.length+20:=by
 have h1:=JA hd d.length 0 0 (by omega) (by omega) (by omega)
 have h2:=ft (n:=d.length) hd
 unfold bS
 rw[List.length_append]
 omega
end Go.Rl
namespace Go.Rl
def pos (d q:List UInt8) (n:Nat):List Nat:=(List.range n).filter fun p=>(d.drop p).take 4==q
theorem zT (d q:List UInt8) (n:Nat):pos d q (n+1)=pos d q n++if (d.drop n).take 4=q then[n] else[]:=by
 unfold pos
 rw[List.range_succ,List.filter_append]
 congr 1
 by_cases h:(d.drop n).take 4=q
 ·simp[h]
 ·simp[h]
theorem CZ {d q:List UInt8} {n p:Nat}:p∈pos d q n↔p<n∧(d.drop p).take 4=q:=by
 unfold pos
 simp
theorem BG (d q:List UInt8) (n:Nat):(pos d q n).Pairwise (· < ·):=List.Pairwise.filter _ List.pairwise_lt_range
theorem GM (d q:List UInt8):pos d q 0=[]:=rfl
theorem C0 (d q:List UInt8) (n:Nat):(pos d q n).length≤n:=by
 have:=List.length_filter_le (fun p=>(d.drop p).take 4==q) (List.range n)
 unfold pos
 simpa using this
theorem i5 (a b:UInt8) (l m:List UInt8):j7 (a::l) (b::m)=if a=b then j7 l m+1 else 0:=rfl
theorem lcp4:∀(l m:List UInt8),4≤l.length→(4≤j7 l m↔m.take 4=l.take 4):=by
 intro l m hl
 match l,hl with
 |a::b::c::e::l,_=>
  match m with
  |[]=>simp[j7]
  |[a']=>simp only[i5,yb];constructor<;>intro h<;>(first|(split at h<;>omega)|simp at h)
  |[a',b']=>simp only[i5,yb];constructor<;>intro h<;>(first|((repeat' split at h)<;>omega)|simp at h)
  |[a',b',c']=>simp only[i5,yb];constructor<;>intro h<;>(first|((repeat' split at h)<;>omega)|simp at h)
  |a'::b'::c'::e'::m=>
   simp only[i5,List.take_succ_cons,List.take_zero,List.cons.injEq,and_true]
   constructor
   ·intro h
    (repeat' split at h)<;>first|omega|(subst_vars;simp)
   ·rintro⟨rfl,rfl,rfl,rfl⟩
    simp
theorem ml4 {d:List UInt8} {i k:Nat} (hi:i+4≤d.length):4≤ml d i k↔(d.drop (i-k)).take 4=(d.drop i).take 4:=lcp4 _ _ (by rw[List.length_drop];omega)
theorem zU (d:List UInt8) (i j:Nat):rV d i (j+1)=if 4≤ml d i (j+1)∧(rV d i j).1<ml d i (j+1) then(ml d i (j+1),j+1) else rV d i j:=rfl
theorem pO {d:List UInt8} {i a:Nat}:∀b,a≤b→(∀k,a<k→k≤b→ml d i k<4∨ml d i k≤(rV d i a).1)→rV d i b=rV d i a
 |0,h,_=>by rw[show a=0 by omega]
 |b+1,h,hk=>by
  rcases Nat.lt_or_ge b a with h'|h'
  ·rw[show a=b+1 by omega]
  ·have ih:=pO b h' (fun k h1 h2=>hk k h1 (by omega))
   rw[zU,if_neg,ih]
   rintro⟨h1,h2⟩
   rw[ih] at h2
   rcases hk (b+1) (by omega) (Nat.le_refl _) with h3|h3<;>omega
def GN (d:List UInt8) (i:Nat) (s:Nat×Nat) (p:Nat):Nat×Nat:=if s.1<ml d i (i-p) then(ml d i (i-p),i-p) else s
def qT (i:Nat) (l:List Nat):Nat:=match l.getLast? with|none=>0|some p=>i-p
theorem vU (i p:Nat) (l:List Nat):qT i (l++[p])=i-p:=by simp[qT]
section
variable {d:List UInt8} {i:Nat} {R:List Nat}
theorem zV (hi:i+4≤d.length) (hR:R.Pairwise (fun a b=>b<a)) (hm:∀p,p∈R↔p<i∧(d.drop p).take 4=(d.drop i).take 4):∀(n:Nat) (pre suf:List Nat),pre.length=n→R=pre++suf→
 pre.foldl (GN d i) (0,0)=rV d i (qT i pre)∧qT i pre≤i∧∀k,qT i pre<k→k≤i→4≤ml d i k→i-k∈suf:=by
 intro n
 induction n with
 |zero=>
  intro pre suf hl hs
  have:pre=[]:=List.eq_nil_of_length_eq_zero hl
  subst this
  refine⟨rfl,Nat.zero_le _,fun k h1 h2 h3=>?_⟩
  have h0:0<k:=h1
  have:=(hm (i-k)).2 ⟨by omega,(ml4 hi).1 h3⟩
  rw[hs] at this
  simpa using this
 |succ n ih=>
  intro pre suf hl hs
  obtain⟨pre',x,rfl⟩:∃pre' x,pre=pre'++[x]:=by
   rcases List.eq_nil_or_concat pre with h|⟨l,a,h⟩
   ·subst h;simp at hl
   ·exact⟨l,a,by rw[h,List.concat_eq_append]⟩
  have hs':R=pre'++(x::suf):=by rw[hs];simp
  obtain⟨h1,h2,h3⟩:=ih pre' (x::suf) (by simp at hl;omega) hs'
  have hx:=(hm x).1 (by rw[hs'];simp)
  have hxk:4≤ml d i (i-x):=(ml4 hi).2 (by rw[show i-(i-x)=x by omega];exact hx.2)
  have hsuf:∀p∈suf,p<x:=by
   rw[hs'] at hR
   have:=(List.pairwise_append.1 hR).2.1
   exact(List.pairwise_cons.1 this).1
  have hlast:qT i pre'<i-x:=by
   unfold qT
   cases hg:pre'.getLast? with
   |none=>simp only[];omega
   |some p=>
    have hp:p∈pre':=List.mem_of_getLast? hg
    rw[hs'] at hR
    have:=(List.pairwise_append.1 hR).2.2 p hp x (by simp)
    have hpi:=(hm p).1 (by rw[hs'];simp[hp])
    simp only[]
    omega
  rw[vU,List.foldl_append,List.foldl_cons,List.foldl_nil,h1]
  refine⟨?_,by omega,fun k hk1 hk2 hk3=>?_⟩
  ·have hskip:rV d i (i-x-1)=rV d i (qT i pre'):=pO _ (by omega) (fun k hk1 hk2=>by
    rcases Nat.lt_or_ge (ml d i k) 4 with h|h
    ·exact .inl h
    ·have:=h3 k hk1 (by omega) h
     rcases List.mem_cons.1 this with e|e
     ·omega
     ·have:=hsuf _ e;omega)
   have hsucc:i-x=(i-x-1)+1:=by omega
   conv=>rhs;rw[hsucc]
   rw[zU,←hsucc,hskip]
   unfold GN
   by_cases hlt:(rV d i (qT i pre')).1<ml d i (i-x)
   ·rw[if_pos hlt,if_pos ⟨hxk,hlt⟩]
   ·rw[if_neg hlt,if_neg (fun h=>hlt h.2)]
  ·rcases List.mem_cons.1 (h3 k (by omega) hk2 hk3) with e|e
   ·omega
   ·exact e
theorem zW (hi:i+4≤d.length) (hR:R.Pairwise (fun a b=>b<a)) (hm:∀p,p∈R↔p<i∧(d.drop p).take 4=(d.drop i).take 4) {pre suf:List Nat} (hs:R=pre++suf) (hp:∀p∈pre,i-p≤4096) (hf:∀p∈suf,4096<i-p):
 pre.foldl (GN d i) (0,0)=cZ d i:=by
 obtain⟨h1,h2,h3⟩:=zV hi hR hm _ pre suf rfl hs
 have hk:qT i pre≤4096:=by
  unfold qT
  cases hg:pre.getLast? with
  |none=>simp
  |some p=>exact hp p (List.mem_of_getLast? hg)
 rw[h1]
 unfold cZ
 refine(pO _ (by omega) (fun k hk1 hk2=>.inl ?_)).symm
 rcases Nat.lt_or_ge (ml d i k) 4 with h|h
 ·exact h
 ·have:=hf _ (h3 k hk1 (by omega) h)
  omega
theorem Ey (hi:i+4≤d.length) (hR:R.Pairwise (fun a b=>b<a)) (hm:∀p,p∈R↔p<i∧(d.drop p).take 4=(d.drop i).take 4) {pre suf:List Nat} {x:Nat} (hs:R=(pre++[x])++suf) (hp:∀p∈pre++[x],i-p≤4096) (hx:i+ml d i (i-x)=d.length):
 (pre++[x]).foldl (GN d i) (0,0)=cZ d i:=by
 obtain⟨h1,h2,h3⟩:=zV hi hR hm _ (pre++[x]) suf rfl hs
 have hk:qT i (pre++[x])≤4096:=by rw[vU];exact hp x (by simp)
 have hge:d.length-i≤(rV d i (qT i (pre++[x]))).1:=by
  rw[←h1,List.foldl_append,List.foldl_cons,List.foldl_nil]
  unfold GN
  split
  ·show d.length-i≤ml d i (i-x);omega
  ·rename_i h;omega
 rw[h1]
 unfold cZ
 refine(pO _ (by omega) (fun k hk1 hk2=>.inr ?_)).symm
 have:=IU d i k
 omega
end
theorem sG {d:List UInt8} {i k j:Nat} (hk:k≤i) (hi:i+j<d.length):j7 (d.drop (i+j)) (d.drop (i-k+j))=if d[i+j]=d[i-k+j]'(by omega) then j7 (d.drop (i+(j+1))) (d.drop (i-k+(j+1)))+1 else 0:=by
 rw[List.drop_eq_getElem_cons hi,List.drop_eq_getElem_cons (show i-k+j<d.length by omega),j7]
 rfl
theorem Ez {l m:List UInt8} (h:4≤j7 l m):j7 l m=4+j7 (l.drop 4) (m.drop 4):=by
 match l,m with
 |[],m=>simp[j7] at h
 |[a],[]=>simp[j7] at h
 |a::l,[]=>simp[j7] at h
 |a::l,a'::m=>
  rw[i5] at h⊢
  split at h
  ·rename_i e
   rw[if_pos e]
   match l,m with
   |[],m=>simp[j7] at h
   |b::l,[]=>simp[j7] at h
   |b::l,b'::m=>
    rw[i5] at h⊢
    split at h
    ·rename_i e
     rw[if_pos e]
     match l,m with
     |[],m=>simp[j7] at h
     |c::l,[]=>simp[j7] at h
     |c::l,c'::m=>
      rw[i5] at h⊢
      split at h
      ·rename_i e
       rw[if_pos e]
       match l,m with
       |[],m=>simp[j7] at h
       |f::l,[]=>simp[j7] at h
       |f::l,f'::m=>
        rw[i5] at h⊢
        split at h
        ·rename_i e
         rw[if_pos e]
         simp only[List.drop_succ_cons,List.drop_zero]
         omega
        ·omega
      ·omega
    ·omega
  ·omega
theorem GO {d:List UInt8} {i p:Nat} (hi:i+4≤d.length) (hp:p<i) (h:(d.drop p).take 4=(d.drop i).take 4):ml d i (i-p)=4+j7 (d.drop (i+4)) (d.drop (p+4)):=by
 have h4:4≤ml d i (i-p):=(ml4 hi).2 (by rw[show i-(i-p)=p by omega];exact h)
 unfold ml at h4⊢
 rw[Ez h4,List.drop_drop,List.drop_drop,show i-(i-p)=p by omega]
end Go.Rl
namespace Go.Rl
open Go.RowKit Go.Proofs
open Go.Maps (Keyed)
def K4 (q:List UInt8):Value:=.agg (q.map U8).toArray
theorem Kq (x:UInt8):(Lit.int .u8 (x.toNat:Int)).wf=true:=by
 have:=x.toNat_lt
 simp[Lit.wf,IntKind.min,IntKind.max,IntKind.bits,IntKind.signed]
 omega
theorem GP:Keyed Tryz.prog 221:=Keyed.of_law (deep_law (m:=2) (by omega) (by kernel_rfl) (by kernel_rfl) (by rw[Lf]))
theorem GQ:Tryz.prog.keyType 221=true:=by kernel_rfl
theorem zX:(Tryz.prog.info? 221).map (·.size)=some 4:=by kernel_rfl
theorem zY:Tryz.prog.cellsOf 221=4:=by kernel_rfl
theorem GR:Tryz.prog.cellsOf 5=1:=by kernel_rfl
theorem BH {q:List UInt8} (hq:q.length=4):∃l,keyOf Tryz.prog 221 (K4 q)=some l:=by
 match q,hq with
 |[a,b,c,e],_=>
  have hl:∀(n:Nat) (x:UInt8),Tryz.prog.keyLits (n+1) 5 [U8 x]=some [.int .u8 (x.toNat:Int)]:=fun n x=>by
   simp[Program.keyLits,Tryz.underlying5,U8,Kq x]
  have hf:(K4 [a,b,c,e]).formed Tryz.prog 221=true:=by
   simp[K4,Value.formed,Tryz.underlying221,zY]
  obtain⟨S,hS⟩:∃S,Tryz.prog.types.size=S+1:=⟨Tryz.prog.types.size-1,by kernel_rfl⟩
  have hk:Tryz.prog.keyLits (Tryz.prog.types.size+1) 221 (K4 [a,b,c,e]).cells.toList=some [.int .u8 (a.toNat:Int),.int .u8 (b.toNat:Int),.int .u8 (c.toNat:Int),.int .u8 (e.toNat:Int)]:=by
   rw[hS]
   unfold Program.keyLits
   rw[Lf]
   simp[K4,Value.cells,zY,GR,hl,List.range_succ,List.mapM_cons]
  refine⟨.string (keyBytes [.int .u8 (a.toNat:Int),.int .u8 (b.toNat:Int),.int .u8 (c.toNat:Int),.int .u8 (e.toNat:Int)]),?_⟩
  unfold keyOf
  rw[Lf]
  simp only[GQ,hf,hk]
  rfl
theorem yd {q r:List UInt8} (h:K4 q=K4 r):q=r:=by
 have h2:q.map U8=r.map U8:=by
  have:=congrArg (fun v=>match v with|.agg a=>a.toList|_=>[]) h
  simpa [K4] using this
 have inj:∀(q r:List UInt8),q.map U8=r.map U8→q=r:=by
  intro q
  induction q with
  |nil=>intro r h;cases r with
   |nil=>rfl
   |cons b r=>simp at h
  |cons a q ih=>intro r h;cases r with
   |nil=>simp at h
   |cons b r=>
    simp only[List.map_cons,List.cons.injEq] at h
    have e:a=b:=by
     have h1:=h.1
     simp only[U8,Value.int.injEq,true_and] at h1
     exact UInt8.toNat_inj.1 (by omega)
    rw[e,ih r h.2]
 exact inj q r h2
def jl (d q:List UInt8) (n:Nat):List Int:=(pos d q n).map Int.ofNat
theorem vV (d q:List UInt8) (n:Nat):jl d q (n+1)=jl d q n++if (d.drop n).take 4=q then[(n:Int)] else[]:=by
 unfold jl
 rw[zT,List.map_append]
 congr 1
 split<;>rfl
structure IV (base:Nat) (d:List UInt8) (n clock:Nat) (X:Nat→Prop) (w:World) (e:MapEntry) (q:List UInt8):Prop where
 len:q.length=4
 key:e.key=K4 q
 row:ff base (jl d q n) e.val w
 born:e.born<clock
 own:∀k,e.val.ownBlock=some k→X k
structure iw (base:Nat) (d:List UInt8) (m n:Nat) (X:Nat→Prop) (w:World) (es:List MapEntry) (clock:Nat):Prop where
 at_:w.heap[m]? =some (.map es.toArray clock)
 ent:∀e∈es,∃q,IV base d n clock X w e q
 apart:∀(i j:Nat) (e f:MapEntry),es[i]? =some e→es[j]? =some f→i≠j→e.key≠f.key∧e.born≠f.born∧(e.val.ownBlock=none∨e.val.ownBlock≠f.val.ownBlock)
 full:∀q,pos d q n≠[]→∃e∈es,e.key=K4 q
def gW (base:Nat) (d:List UInt8) (m n:Nat) (X:Nat→Prop) (w:World):Prop:=∃es clock,iw base d m n X w es clock
section
variable {base:Nat} {d:List UInt8} {m n clock:Nat} {X:Nat→Prop} {w w':World} {es:List MapEntry}
theorem iw.keys (h:iw base d m n X w es clock):AN Tryz.prog 221 es:=fun e he=>by
 obtain⟨q,hq⟩:=h.ent e he
 rw[hq.key]
 exact BH hq.len
theorem iw.lt (h:iw base d m n X w es clock):m<w.heap.size:=(Array.getElem?_eq_some_iff.1 h.at_).1
theorem ff.cells {l:List Int} {v:Value} (h:ff base l v w) {k:Nat} (hk:v.ownBlock=some k):∃cs f,w.heap[k]? =some (.cells cs 3 f):=by
 obtain⟨n,h1,h2⟩:=h
 rcases h2 with⟨rfl,_⟩|⟨g,cap,cur,rfl,h3,h4,h5⟩
 ·cases hk
 ·obtain rfl:g=k:=Option.some.inj hk
  exact⟨_,_,h4⟩
theorem iw.ne (h:iw base d m n X w es clock) {e:MapEntry} (he:e∈es):e.val.ownBlock≠some m:=fun hk=>by
 obtain⟨q,hq⟩:=h.ent e he
 obtain⟨cs,f,hc⟩:=hq.row.cells hk
 rw[h.at_] at hc
 cases hc
theorem iw.same (h:iw base d m n X w es clock) (hm:w'.heap[m]? =w.heap[m]?) (hX:∀k,X k→k<w.heap.size→w'.heap[k]? =w.heap[k]?):iw base d m n X w' es clock:=
 ⟨hm.trans h.at_,fun e he=>by
  obtain⟨q,hq⟩:=h.ent e he
  exact⟨q,hq.len,hq.key,hq.row.same fun k hk=>hX k (hq.own k hk) (hq.row.lt k hk).2,hq.born,hq.own⟩,h.apart,h.full⟩
theorem gW.same (h:gW base d m n X w) (hm:w'.heap[m]? =w.heap[m]?) (hX:∀k,X k→k<w.heap.size→w'.heap[k]? =w.heap[k]?):gW base d m n X w':=by
 obtain⟨es,clock,h⟩:=h
 exact⟨es,clock,h.same hm hX⟩
theorem gW.lt (h:gW base d m n X w):m<w.heap.size:=by
 obtain⟨es,clock,h⟩:=h
 exact h.lt
theorem gW.ext (h:gW base d m n X w) (hx:aI w w'):gW base d m n X w':=h.same (hx.heap h.lt) fun _ _ hk=>hx.heap hk
theorem vW:(Tryz.prog.info? 66).map (·.zero)=some (some (.slice none 0 0)):=by kernel_rfl
theorem gW.look (h:gW base d m n X w) {q:List UInt8} (hq:q.length=4):∃v,(Instr.lookup 156 (.map (some m)) (K4 q) false).run Tryz.prog w=.ok v w∧ff base (jl d q n) v w∧∀k,v.ownBlock=some k→X k:=by
 obtain⟨es,clock,h⟩:=h
 obtain⟨l,hl⟩:=BH hq
 rcases FC (P:=Tryz.prog) GP Lj vW h.at_ h.keys hl with⟨h1,_,h2⟩|⟨j,e,h1,_,h2,h3⟩
 ·have hp:pos d q n=[]:=Classical.byContradiction fun hn=>by
   obtain⟨e,he,hk⟩:=h.full q hn
   exact h2 e he hk
  exact⟨_,h1,by unfold jl;rw[hp];exact ff.nil _ _,fun k hk=>by cases hk⟩
 ·obtain⟨r,hr⟩:=h.ent e (List.mem_of_getElem? h2)
  have e1:r=q:=yd (hr.key.symm.trans h3)
  subst e1
  exact⟨_,h1,hr.row,hr.own⟩
theorem iw.put (h:iw base d m n X w es clock) {w2 w3:World} {j:Nat} {e0:MapEntry} {q:List UInt8} {v:Value} (hj:es[j]? =some e0) (hk:e0.key=K4 q) (hqd:(d.drop n).take 4=q) (hg:w.grownBy w2 e0.val.ownBlock) (ho:v.ownBlock=e0.val.ownBlock∨∀k,v.ownBlock=some k→w.heap.size≤k)
 (hv:ff base (jl d q n++[(n:Int)]) v w2) (hg3:w2.grownBy w3 (some m)) (h3:w3.heap[m]? =some (.map (es.set j {e0 with val:=v}).toArray clock)):iw base d m (n+1) (fun k=>X k∨v.ownBlock=some k) w3 (es.set j {e0 with val:=v}) clock:=by
 have hjl:j<es.length:=by
  rcases Nat.lt_or_ge j es.length with h|h
  ·exact h
  ·rw[List.getElem?_eq_none h] at hj;cases hj
 have hm0:=List.mem_of_getElem? hj
 obtain⟨q0,hq0⟩:=h.ent e0 hm0
 have eq0:q0=q:=yd (hq0.key.symm.trans hk)
 subst eq0
 have hvm:v.ownBlock≠some m:=fun hb=>by
  obtain⟨cs,f,hc⟩:=hv.cells hb
  rcases ho with ho|ho
  ·exact h.ne hm0 (ho▸hb)
  ·have:=ho m hb
   have:=h.lt
   omega
 have other:∀(i:Nat) (e:MapEntry),es[i]? =some e→i≠j→∃r,IV base d (n+1) clock (fun k=>X k∨v.ownBlock=some k) w3 e r:=fun i e hi hij=>by
  have hme:=List.mem_of_getElem? hi
  obtain⟨r,hr⟩:=h.ent e hme
  have hap:=h.apart i j e e0 hi hj hij
  have hne:¬(d.drop n).take 4=r:=fun hh=>hap.1 (by rw[hr.key,hk,←hqd,hh])
  have e1:jl d r (n+1)=jl d r n:=by rw[vV,if_neg hne,List.append_nil]
  refine⟨r,hr.len,hr.key,?_,hr.born,fun k hk=>.inl (hr.own k hk)⟩
  rw[e1]
  exact(hr.row.kept hg hap.2.2).kept hg3 (.inr (h.ne hme))
 have getset:∀(i:Nat) (e:MapEntry),(es.set j {e0 with val:=v})[i]? =some e→(i=j∧e={e0 with val:=v})∨(i≠j∧es[i]? =some e):=fun i e hi=>by
  by_cases hij:i=j
  ·subst hij
   rw[List.getElem?_set_self (by omega)] at hi
   exact .inl ⟨rfl,(Option.some.inj hi).symm⟩
  ·rw[List.getElem?_set_ne (Ne.symm hij)] at hi
   exact .inr ⟨hij,hi⟩
 refine⟨h3,fun e he=>?_,fun i i' e e' hi hi' hne=>?_,fun r hr=>?_⟩
 ·obtain⟨i,hi⟩:=List.mem_iff_getElem?.1 he
  rcases getset i e hi with⟨rfl,rfl⟩|⟨hij,hi⟩
  ·refine⟨q0,hq0.len,hq0.key,?_,hq0.born,fun k hk=>.inr hk⟩
   rw[vV,if_pos hqd]
   exact hv.kept hg3 (.inr hvm)
  ·exact other i e hi hij
 ·have lt_of:∀(i:Nat) (e:MapEntry),es[i]? =some e→∀k,e.val.ownBlock=some k→k<w.heap.size:=fun i e hi k hk=>by
   obtain⟨r,hr⟩:=h.ent e (List.mem_of_getElem? hi)
   exact(hr.row.lt k hk).2
  rcases getset i e hi with⟨rfl,rfl⟩|⟨hij,hi0⟩<;>rcases getset i' e' hi' with⟨rfl,rfl⟩|⟨hij',hi0'⟩
  ·exact absurd rfl hne
  ·have hap:=h.apart i i' e0 e' hj hi0' hne
   refine⟨hap.1,hap.2.1,?_⟩
   rcases ho with ho|ho
   ·show v.ownBlock=none∨v.ownBlock≠_
    rw[ho];exact hap.2.2
   ·cases hb:v.ownBlock with
    |none=>exact .inl rfl
    |some k=>exact .inr fun hc=>by have:=lt_of i' e' hi0' k hc.symm;have:=ho k hb;omega
  ·have hap:=h.apart i i' e e0 hi0 hj hne
   refine⟨hap.1,hap.2.1,?_⟩
   rcases ho with ho|ho
   ·show e.val.ownBlock=none∨e.val.ownBlock≠v.ownBlock
    rw[ho];exact hap.2.2
   ·cases hb:e.val.ownBlock with
    |none=>exact .inl rfl
    |some k=>exact .inr fun hc=>by have:=lt_of i e hi0 k hb;have:=ho k hc.symm;omega
  ·exact h.apart i i' e e' hi0 hi0' hne
 ·have hsome:∃e∈es,e.key=K4 r:=by
   by_cases hr0:pos d r n=[]
   ·have:(d.drop n).take 4=r:=Classical.byContradiction fun hh=>hr (by rw[zT,hr0,if_neg hh];rfl)
    exact⟨e0,hm0,by rw[hk,←hqd,this]⟩
   ·exact h.full r hr0
  obtain⟨e,he,hek⟩:=hsome
  obtain⟨i,hi⟩:=List.mem_iff_getElem?.1 he
  by_cases hij:i=j
  ·subst hij
   rw[hj] at hi
   obtain rfl:=Option.some.inj hi
   exact⟨{e0 with val:=v},List.mem_iff_getElem?.2 ⟨i,List.getElem?_set_self (by omega)⟩,hek⟩
  ·exact⟨e,List.mem_iff_getElem?.2 ⟨i,by rw[List.getElem?_set_ne (Ne.symm hij)];exact hi⟩,hek⟩
theorem iw.add (h:iw base d m n X w es clock) {q:List UInt8} (hq:q.length=4) (hno:∀e∈es,e.key≠K4 q) (hg:w.grownBy w' (some m)) (h':w'.heap[m]? =some (.map (es++[({key:=K4 q,val:=.slice none 0 0,born:=clock}:MapEntry)]).toArray (clock+1))):
 iw base d m n X w' (es++[({key:=K4 q,val:=.slice none 0 0,born:=clock}:MapEntry)]) (clock+1):=by
 have hp:pos d q n=[]:=Classical.byContradiction fun hn=>by
  obtain⟨e,he,hk⟩:=h.full q hn
  exact hno e he hk
 have hget:∀(i:Nat) (e:MapEntry),(es++[({key:=K4 q,val:=.slice none 0 0,born:=clock}:MapEntry)])[i]? =some e→es[i]? =some e∨(i=es.length∧e={key:=K4 q,val:=.slice none 0 0,born:=clock}):=fun i e hi=>by
  rcases Nat.lt_or_ge i es.length with hl|hl
  ·rw[List.getElem?_append_left hl] at hi;exact .inl hi
  ·rw[List.getElem?_append_right hl] at hi
   rcases Nat.eq_zero_or_pos (i-es.length) with h0|h0
   ·rw[h0] at hi
    exact .inr ⟨by omega,(Option.some.inj hi).symm⟩
   ·rw[List.getElem?_eq_none (by simp;omega)] at hi;cases hi
 refine⟨h',fun e he=>?_,fun i j e f hi hj hij=>?_,fun r hr=>?_⟩
 ·rcases List.mem_append.1 he with he|he
  ·obtain⟨r,hr⟩:=h.ent e he
   exact⟨r,hr.len,hr.key,hr.row.kept hg (.inr (h.ne he)),Nat.lt_succ_of_lt hr.born,hr.own⟩
  ·obtain rfl:=List.mem_singleton.1 he
   exact⟨q,hq,rfl,by unfold jl;rw[hp];exact ff.nil _ _,Nat.lt_succ_self _,fun k hk=>by cases hk⟩
 ·rcases hget i e hi with hi|⟨rfl,rfl⟩<;>rcases hget j f hj with hj|⟨rfl,rfl⟩
  ·exact h.apart i j e f hi hj hij
  ·have hm:=List.mem_of_getElem? hi
   obtain⟨r,hr⟩:=h.ent e hm
   have:=hr.born
   refine⟨hno e hm,by simp only[];omega,?_⟩
   cases hb:e.val.ownBlock with
   |none=>exact .inl rfl
   |some k=>exact .inr (by simp[Value.ownBlock])
  ·have hm:=List.mem_of_getElem? hj
   obtain⟨r,hr⟩:=h.ent f hm
   have:=hr.born
   exact⟨(hno f hm).symm,by simp only[];omega,.inl rfl⟩
  ·exact absurd rfl hij
 ·obtain⟨e,he,hk⟩:=h.full r hr
  exact⟨e,List.mem_append_left _ he,hk⟩
theorem gW.step (h:gW base d m n X w) (hn:n+4≤d.length):∃v born w1,(Instr.mapEntry 156 (.map (some m)) (K4 ((d.drop n).take 4))).run Tryz.prog w=.ok (.tuple #[v,I (born:Nat)]) w1∧w.grownBy w1 (some m)∧ff base (jl d ((d.drop n).take 4) n) v w1∧(∀k,v.ownBlock=some k→X k)∧v.ownBlock≠some m∧
 ∀v' w2,gw w1 w2 v v'→ff base (jl d ((d.drop n).take 4) n++[(n:Int)]) v' w2→∃w3,(Instr.entryStore 156 (.map (some m)) (I (born:Nat)) v').run Tryz.prog w2=.ok () w3∧w2.grownBy w3 (some m)∧gW base d m (n+1) (fun k=>X k∨v'.ownBlock=some k) w3:=by
 obtain⟨es,clock,h⟩:=h
 have hq:((d.drop n).take 4).length=4:=by rw[List.length_take,List.length_drop];omega
 obtain⟨l,hl⟩:=BH hq
 have fin:∀(es:List MapEntry) (clock:Nat) (w1:World) (j:Nat) (e:MapEntry),iw base d m n X w1 es clock→es[j]? =some e→e.key=K4 ((d.drop n).take 4)→∀v' w2,gw w1 w2 e.val v'→ff base (jl d ((d.drop n).take 4) n++[(n:Int)]) v' w2→
  ∃w3,(Instr.entryStore 156 (.map (some m)) (I (e.born:Nat)) v').run Tryz.prog w2=.ok () w3∧w2.grownBy w3 (some m)∧gW base d m (n+1) (fun k=>X k∨v'.ownBlock=some k) w3:=by
  intro es clock w1 j e h1 hj hk v' w2 hG hv
  have hm2:w2.heap[m]? =some (.map es.toArray clock):=(hG.grown.block m h1.lt (fun e=>h1.ne (List.mem_of_getElem? hj) e.symm)).trans h1.at_
  obtain⟨w3,r3,g3,h3⟩:=xj (P:=Tryz.prog) (t:=156) (v:=v') hm2 hj (fun i f hi hb=>Classical.byContradiction fun hij=>(h1.apart i j f e hi hj hij).2.1 hb)
  exact⟨w3,r3,g3,_,_,h1.put hj hk rfl hG.grown hG.own hv g3 h3⟩
 obtain⟨w1,g1,⟨j,e,hj,hk,hr,h1⟩|⟨hno,hr,h1⟩⟩:=AO (P:=Tryz.prog) GP Lj vW h.at_ h.keys hl
 ·have hes:iw base d m n X w1 es clock:=⟨h1,fun e he=>by
   obtain⟨r,hr⟩:=h.ent e he
   exact⟨r,hr.len,hr.key,hr.row.kept g1 (.inr (h.ne he)),hr.born,hr.own⟩,h.apart,h.full⟩
  obtain⟨r,hr'⟩:=hes.ent e (List.mem_of_getElem? hj)
  have e1:r=(d.drop n).take 4:=yd (hr'.key.symm.trans hk)
  subst e1
  exact⟨e.val,e.born,w1,hr,g1,hr'.row,hr'.own,hes.ne (List.mem_of_getElem? hj),fin es clock w1 j e hes hj hk⟩
 ·have hes:=h.add hq hno g1 h1
  have hj:(es++[({key:=K4 ((d.drop n).take 4),val:=.slice none 0 0,born:=clock}:MapEntry)])[es.length]? =some {key:=K4 ((d.drop n).take 4),val:=.slice none 0 0,born:=clock}:=by simp
  obtain⟨r,hr'⟩:=hes.ent _ (List.mem_of_getElem? hj)
  have e1:r=(d.drop n).take 4:=yd (hr'.key.symm.trans rfl)
  subst e1
  exact⟨.slice none 0 0,clock,w1,hr,g1,hr'.row,hr'.own,by simp[Value.ownBlock],fin _ _ w1 es.length _ hes hj rfl⟩
end
end Go.Rl
namespace Go.Rl
open Go.RowKit Go.Proofs
theorem EA:ay Tryz.prog 120:=⟨_,Tryz.func120,by kernel_rfl,rfl⟩
theorem uc:ay Tryz.prog 60:=⟨_,Tryz.func60,by kernel_rfl,rfl⟩
theorem ue:ay Tryz.prog 23:=⟨_,Tryz.func23,by kernel_rfl,rfl⟩
theorem EB {w:World} {d:List UInt8} {v:Value} {i k:Nat} (hv:cm d v w) (hi:i≤d.length) (hk:1≤k) (hki:k≤i) (hl:d.length≤1099511627776):
 Calls Tryz.prog 120 #[v,I (i:Int),I (k:Int)] w (bE fun r w'=>aI w w'∧r=I ((ml d i k:Nat):Int)):=by
 refine enter (vs:=[v,I (i:Int),I (k:Int)]) Tryz.func120 Ll Ll Ll ?_
 refine af (aa (ac Ll Ll (ag (ab (af (aa (ac Ll Ll (ag (ab (af (ax ?_)))))))))))
 refine bZ (α:=Nat) (fun x=>[(0,v),(1,I (i:Int)),(2,I (k:Int)),(7,I (x:Int))]) (fun x w'=>aI w w'∧i+x≤d.length∧ml d i k=x+j7 (d.drop (i+x)) (d.drop (i-k+x))) (fun x=>d.length-x) (0) ⟨rfl,rfl,rfl,rfl,trivial⟩ ⟨aI.refl _,by omega,by simp[ml]⟩ ?_
 rintro j w2 ⟨e2,hj,hm⟩
 refine af (af ?_)
 by_cases h13:((i+j:Nat):Int)<((d.length:Nat):Int)
 ·refine bz 22 [0,1,2,7,14,29] (by kernel_rfl) (by kernel_rfl) ?_
  refine ap Ll Ll (ap Ll Ll (aS (r:=I ((i+j:Nat):Int)) Ll Ll Ll (fun w _=>by have e:((i+j:Nat):Int)=(i:Int)+(j:Int):=(by omega);rw[e];exact aK (by omega) (by omega)) ?_))
  refine ap Ll Ll (mh (vs:=[v]) Ll Ll (fun w hw=>bC ((hv.ext e2).ext hw)) (aS Ll Ll Ll (fun w _=>cg h13 aW) (ap Ll Ll (bh Ll Ll ?_))))
  refine ap Ll Ll (bh Ll Ll (ap Ll Ll (bh Ll Ll (ap Ll Ll (bh Ll Ll (aS (r:=I ((i+j:Nat):Int)) Ll Ll Ll (fun w _=>by have e:((i+j:Nat):Int)=(i:Int)+(j:Int):=(by omega);rw[e];exact aK (by omega) (by omega)) ?_))))))
  refine bh Ll Ll ?_
  obtain⟨a19,p19,q19⟩:=eD (hv.ext e2) (i:=i+j) (by omega) .i64
  refine az Ll Ll Ll (fun w _=>p19 w) (bh Ll Ll (aE Ll Ll (fun w hw=>aj KS Ll (hw.cell_some q19)) (bh Ll Ll ?_)))
  refine ap Ll Ll (bh Ll Ll (ap Ll Ll (bh Ll Ll (ap Ll Ll (bh Ll Ll (aS (r:=I ((i+j:Nat):Int)) Ll Ll Ll (fun w _=>by have e:((i+j:Nat):Int)=(i:Int)+(j:Int):=(by omega);rw[e];exact aK (by omega) (by omega)) ?_))))))
  refine bh Ll Ll (ap Ll Ll (bh Ll Ll (aS (r:=I ((i-k+j:Nat):Int)) Ll Ll Ll (fun w _=>by have e:((i-k+j:Nat):Int)=((i+j:Nat):Int)-(k:Int):=(by omega);rw[e];exact bg (by omega) (by omega)) ?_)))
  refine bh Ll Ll ?_
  obtain⟨a27,p27,q27⟩:=eD (hv.ext e2) (i:=i-k+j) (by omega) .i64
  refine az Ll Ll Ll (fun w _=>p27 w) (bh Ll Ll (aE Ll Ll (fun w hw=>aj KS Ll (hw.cell_some q27)) (bh Ll Ll ?_)))
  refine aS Ll Ll Ll (fun w _=>iW) (bF ?_)
  intro wg2 xg2
  rintro _ hq0
  obtain rfl:=Eq.symm hq0
  rintro _ rfl
  rintro _ rfl
  rintro _ rfl
  rintro _ rfl
  rintro _ rfl
  refine aw Ll Ll Ll (ag (ab ?_))
  refine bi Ll (fun h30=>?_) (fun h30=>?_)
  ·refine ar (ab (ax ?_))
   have hst:=sG (d:=d) (j:=j) hki (by omega)
   refine aa (ae Ll Ll (ai (r:=I ((j+1:Nat):Int)) Ll Ll Ll (by have e:((j+1:Nat):Int)=(j:Int)+1:=(by omega);rw[e];exact aK (by omega) (by omega)) ?_))
   refine ac Ll Ll (ag (aJ ?_))
   refine bQ (j+1) ⟨rfl,rfl,rfl,rfl,trivial⟩ ⟨(e2.trans xg2),by omega,by rw[hm,hst,if_pos h30];omega⟩ (by omega)
  ·refine aY (aB (aB (aX (ab (af (aa (ae Ll Ll (ac Ll Ll (ag (ab (av (aG Ll Ll ?_))))))))))))
   exact⟨_,rfl,(e2.trans xg2),by
    have e:j7 (d.drop (i+j)) (d.drop (i-k+j))=0:=by
     first
     |(rw[List.drop_of_length_le (show d.length≤i+j by omega)];rfl)
     |(rw[sG (d:=d) (j:=j) hki (by omega),if_neg h30])
    rw[hm,e];rfl⟩
 ·refine bz 22 [0,1,2,7,14,29] (by kernel_rfl) (by kernel_rfl) ?_
  refine ap Ll Ll (ap Ll Ll (aS (r:=I ((i+j:Nat):Int)) Ll Ll Ll (fun w _=>by have e:((i+j:Nat):Int)=(i:Int)+(j:Int):=(by omega);rw[e];exact aK (by omega) (by omega)) ?_))
  refine ap Ll Ll (mh (vs:=[v]) Ll Ll (fun w hw=>bC ((hv.ext e2).ext hw)) (aS Ll Ll Ll (fun w _=>cf h13 aW) (ap Ll Ll (cD Ll Ll Ll ?_))))
  refine cD Ll Ll Ll (cD Ll Ll Ll (cD Ll Ll Ll (cD Ll Ll Ll (cD Ll Ll Ll (cD Ll Ll Ll (cD Ll Ll Ll (cD Ll Ll Ll (cD Ll Ll Ll (cD Ll Ll Ll ?_)))))))))
  refine cD Ll Ll Ll (cD Ll Ll Ll (cD Ll Ll Ll (cD Ll Ll Ll (bF ?_))))
  intro wg2 xg2
  rintro _ hq0
  obtain rfl:=Eq.symm hq0
  rintro _ rfl
  rintro _ rfl
  rintro _ rfl
  rintro _ rfl
  rintro _ rfl
  refine aC Ll Ll Ll (ag (ab (cp Ll (aY (aB (aB (aX (ab (af (aa (ae Ll Ll (ac Ll Ll (ag (ab (av (aG Ll Ll ?_))))))))))))))))
  exact⟨_,rfl,(e2.trans xg2),by
   have e:j7 (d.drop (i+j)) (d.drop (i-k+j))=0:=by
    first
    |(rw[List.drop_of_length_le (show d.length≤i+j by omega)];rfl)
    |(rw[sG (d:=d) (j:=j) hki (by omega),if_neg h30])
   rw[hm,e];rfl⟩
theorem uf {w:World} {d:List UInt8} {v:Value} {i:Nat} (hv:cm d v w) (hi:i≤d.length) (hl:d.length≤1099511627776):
 Calls Tryz.prog 60 #[v,I (i:Int)] w (bE fun r w'=>aI w w'∧r=.tuple #[I (((cZ d i).1:Nat):Int),I (((cZ d i).2:Nat):Int)]):=by
 refine enter (vs:=[v,I (i:Int)]) Tryz.func60 Ll Ll Ll ?_
 refine af (aa (ac Ll Ll (ac Ll Ll (ag (ab (af (aa (ac Ll Ll (ac Ll Ll (ag (ab (af (af (aa (ac Ll Ll (ag ?_))))))))))))))))
 refine ab (ax ?_)
 refine f6 (fun(j:Nat) (bn:Nat) (bk:Nat)=>[(0,v),(1,I (i:Int)),(6,I (bn:Int)),(7,I (bk:Int)),(8,I ((j+1:Nat):Int))]) (fun(j:Nat) (bn:Nat) (bk:Nat) w'=>aI w w'∧j≤min i 4096∧rV d i j=(bn,bk)) (fun(j:Nat) (bn:Nat) (bk:Nat)=>min i 4096-j) (0) (0) (0) ⟨rfl,rfl,rfl,rfl,rfl,trivial⟩ ⟨aI.refl _,by omega,rfl⟩ ?_
 rintro j bn bk w3 ⟨e3,hj,hb⟩
 refine af (af (aa (ae Ll Ll (ae Ll Ll (ai Ll Ll Ll (wV) (ae Ll Ll ?_))))))
 refine cO (fun h13=>?_) (fun h13=>?_)
 ·refine al Ll (ae Ll Ll (al Ll (ai Ll Ll Ll (wV) (aw Ll Ll Ll (ag (ab ?_))))))
  refine bi Ll (fun h16=>?_) (fun h16=>?_)
  ·refine ar (ab (af (ax (af (aa (ae Ll Ll (ae Ll Ll (ae Ll Ll (an EA Ll Ll (EB (hv.ext e3) hi (by omega) (by omega) hl) ?_)))))))))
   rintro v22 w22 ⟨x22,rfl⟩
   refine ac Ll Ll (ag (ab (af (aa (ae Ll Ll (ai Ll Ll Ll (iP) (ae Ll Ll ?_)))))))
   refine cO (fun h25=>?_) (fun h25=>?_)
   ·refine al Ll (ae Ll Ll (al Ll (ae Ll Ll (al Ll (ai Ll Ll Ll (ck) (aw Ll Ll Ll (ag (ab ?_))))))))
    refine bi Ll (fun h29=>?_) (fun h29=>?_)
    ·refine aa (ae Ll Ll (ae Ll Ll (ac Ll Ll (ac Ll Ll (ag (aJ (ab (aa (ae Ll Ll (ai (r:=I ((j+1+1:Nat):Int)) Ll Ll Ll (by have e:((j+1+1:Nat):Int)=((j+1:Nat):Int)+1:=(by omega);rw[e];exact aK (by omega) (by omega)) ?_))))))))))
     refine ac Ll Ll (ag ?_)
     refine dA (j+1) (ml d i (j+1)) (j+1) ⟨rfl,rfl,rfl,rfl,rfl,trivial⟩ ⟨(e3.trans x22),by omega,by rw[rV,hb,if_pos ⟨by omega,by show bn<ml d i (j+1);omega⟩]⟩ (by omega)
    ·refine ar (aJ (ab (aa (ae Ll Ll (ai (r:=I ((j+1+1:Nat):Int)) Ll Ll Ll (by have e:((j+1+1:Nat):Int)=((j+1:Nat):Int)+1:=(by omega);rw[e];exact aK (by omega) (by omega)) ?_)))))
     refine ac Ll Ll (ag ?_)
     refine dA (j+1) (bn) (bk) ⟨rfl,rfl,rfl,rfl,rfl,trivial⟩ ⟨(e3.trans x22),by omega,by
      rw[rV,hb,if_neg]
      intro h
      have h2:bn<ml d i (j+1):=h.2
      exact h29 (by omega)⟩ (by omega)
   ·refine ao Ll Ll Ll (ao Ll Ll Ll (ao Ll Ll Ll (aC Ll Ll Ll (ag (ab (cp Ll (ar (aJ (ab (aa (ae Ll Ll (ai (r:=I ((j+1+1:Nat):Int)) Ll Ll Ll (by have e:((j+1+1:Nat):Int)=((j+1:Nat):Int)+1:=(by omega);rw[e];exact aK (by omega) (by omega)) ?_))))))))))))
    refine ac Ll Ll (ag ?_)
    refine dA (j+1) (bn) (bk) ⟨rfl,rfl,rfl,rfl,rfl,trivial⟩ ⟨(e3.trans x22),by omega,by
     rw[rV,hb,if_neg]
     intro h
     exact h25 (by omega)⟩ (by omega)
  ·refine aY (aB (aB (aX (ab (af (aa (ae Ll Ll (ae Ll Ll (ac Ll Ll (ac Ll Ll (ag (ab (av (aM Ll Ll Ll ?_))))))))))))))
   exact⟨_,rfl,e3,by
    unfold cZ
    rw[show min i 4096=j by omega,hb]⟩
 ·refine ao Ll Ll Ll (ao Ll Ll Ll (aC Ll Ll Ll (ag (ab (cp Ll (aY (aB (aB (aX (ab (af (aa (ae Ll Ll (ae Ll Ll (ac Ll Ll ?_)))))))))))))))
  refine ac Ll Ll (ag (ab (av (aM Ll Ll Ll ?_))))
  exact⟨_,rfl,e3,by
   unfold cZ
   rw[show min i 4096=j by omega,hb]⟩
end Go.Rl
namespace Go.Rl
open Go.RowKit Go.Proofs
theorem GS {n:Nat} (h:n<18446744073709551616):(UInt64.ofNat n).toNat=n:=by rw[UInt64.toNat_ofNat'];omega
theorem ug {w:World} {d:List UInt8} {v:Value} (hv:cm d v w) (hl:d.length≤1099511627776):
 Calls Tryz.prog 23 #[v] w (bE fun r w'=>aI w w'∧cm (bS d) r w'):=by
 refine enter (vs:=[v]) Tryz.func23 Ll Ll Ll ?_
 have hpl:=lM (d:=d) (by omega)
 refine af (aa (ac Ll Ll (ag (ab (af (aa (ae Ll Ll (aQ Ll Ll (bC hv) (aR Ll Ll (cN KO KN) ?_)))))))))
 refine an dL Ll Ll (dM (cm.nil _) (by simp)) ?_
 rintro v11 w11 ⟨x11,o11⟩
 refine ac Ll Ll (ag (ab (af (af (aa (ac Ll Ll (ag (ab (ax ?_)))))))))
 refine f6 (fun(s:Nat) (O:List UInt8) (vo:Value)=>[(0,v),(3,vo),(4,I (s:Int))]) (fun(s:Nat) (O:List UInt8) (vo:Value) w'=>aI w w'∧s≤d.length∧cm O vo w'∧O++pk d s 0=bS d) (fun(s:Nat) (O:List UInt8) (vo:Value)=>d.length-s) (0) (uv d.length) (v11) ⟨rfl,rfl,rfl,trivial⟩ ⟨x11,by omega,by have:=o11.bts;rw[List.nil_append,GS (by omega)] at this;exact this,rfl⟩ ?_
 rintro s O vo w3 ⟨e3,hs,hO,hp⟩
 refine af (af (aa (ae Ll Ll (ae Ll Ll (aQ Ll Ll (bC (hv.ext e3)) (ai Ll Ll Ll (aW) (ag (ab ?_))))))))
 refine bi Ll (fun h15=>?_) (fun h15=>?_)
 ·refine ar (ab (ax (af (aa (ae Ll Ll (ac Ll Ll (ag (ab (af (aa (ae Ll Ll (ae Ll Ll (an uc Ll Ll (uf (hv.ext e3) hs (by omega)) ?_)))))))))))))
  rintro v20 w20 ⟨x20,rfl⟩
  refine ae Ll Ll (ak Ll Ll (aT) (ak Ll Ll (aU) (ac Ll Ll (ac Ll Ll (ag (ab (af (ax ?_))))))))
  refine f6 (fun(i:Nat) (n:Nat) (k:Nat)=>[(0,v),(3,vo),(4,I (i:Int)),(5,I (s:Int)),(6,I (n:Int)),(7,I (k:Int))]) (fun(i:Nat) (n:Nat) (k:Nat) w'=>aI w3 w'∧s≤i∧i≤d.length∧O++pk d i (i-s)=bS d∧cZ d i=(n,k)) (fun(i:Nat) (n:Nat) (k:Nat)=>d.length-i) (s) ((cZ d s).1) ((cZ d s).2) ⟨rfl,rfl,rfl,rfl,rfl,rfl,trivial⟩ ⟨x20,by omega,hs,by rw[Nat.sub_self];exact hp,rfl⟩ ?_
  rintro i n k w6 ⟨e6,hsi,hi,hq,hb⟩
  refine af (af (aa (ae Ll Ll (ai Ll Ll Ll (aZ) (ae Ll Ll ?_)))))
  refine cO (fun h25=>?_) (fun h25=>?_)
  ·refine al Ll (ae Ll Ll (al Ll (ae Ll Ll (al Ll (aQ Ll Ll (bC (hv.ext (e3.trans e6))) (al Ll (ai Ll Ll Ll (aW) (aw Ll Ll Ll ?_))))))))
   refine ag (ab ?_)
   refine bi Ll (fun h30=>?_) (fun h30=>?_)
   ·refine ar (ab (ax (af (aa (ae Ll Ll (ai (r:=I ((i+1:Nat):Int)) Ll Ll Ll (by have e:((i+1:Nat):Int)=(i:Int)+1:=(by omega);rw[e];exact aK (by omega) (by omega)) ?_))))))
    refine ac Ll Ll (ag (ab (aa (ae Ll Ll (ae Ll Ll (an uc Ll Ll (uf (hv.ext (e3.trans e6)) (by omega) (by omega)) ?_))))))
    rintro v36 w36 ⟨x36,rfl⟩
    refine ae Ll Ll (ak Ll Ll (aT) (ak Ll Ll (aU) (ac Ll Ll (ac Ll Ll (ag (aJ ?_))))))
    refine dA (i+1) ((cZ d (i+1)).1) ((cZ d (i+1)).2) ⟨rfl,rfl,rfl,rfl,rfl,rfl,trivial⟩ ⟨(e6.trans x36),by omega,by omega,by rw[qS (by omega) (by rw[hb];show n=0;omega)] at hq;rw[show i+1-s=i-s+1 by omega];exact hq,rfl⟩ (by omega)
   ·refine aY (aB (aB (aX (ab (af ?_)))))
    have hpO:O.length≤(bS d).length:=by rw[←hq,List.length_append];omega
    have hus:(UInt64.ofNat (i-s)).toNat=i-s:=GS (by omega)
    have hul:=ft (n:=i-s) (by omega)
    obtain⟨L,hL⟩:∃L,L=(d.drop s).take (i-s):=⟨_,rfl⟩
    have hLl:L.length=i-s:=by rw[hL,List.length_take,List.length_drop];omega
    refine bz 10 [0,4,6,7,44,48] (by kernel_rfl) (by kernel_rfl) ?_
    refine ap Ll Ll (ap Ll Ll (ap Ll Ll (aS (r:=I ((i-s:Nat):Int)) Ll Ll Ll (fun w _=>by have e:((i-s:Nat):Int)=(i:Int)-(s:Int):=(by omega);rw[e];exact bg (by omega) (by omega)) ?_)))
    refine dm rfl rfl (fun w hw=>cN KO KN) (ce (S:=cG w6.heap.size (O++uv (i-s))) dL (cG.stable _ _) rfl (fun w hw=>by rintro _ rfl _ rfl;exact bE.mono (dM ((hO.ext e6).ext hw) (by omega)) fun v w' h=>⟨h.1,by have:=h.2.low hw.size;rw[hus] at this;exact this⟩) ?_)
    refine ap Ll Ll (ap Ll Ll (ap Ll Ll ?_))
    obtain⟨v48,p48,b48⟩:=ri (hv.ext (e3.trans e6)) (lo:=s) (hi:=i) (by omega) (by omega) .i64 .i64
    refine ia Ll Ll Ll Ll (fun w _=>p48 w) (bF ?_)
    intro wg9 xg9
    rintro _ hq0
    obtain rfl:=Eq.symm hq0
    rintro _ rfl
    rintro _ rfl
    rintro _ rfl
    intro vg44 b44
    rintro _ hq48
    obtain rfl:=Eq.symm hq48
    have b48:cm L v48 wg9:=by rw[List.drop_take] at b48;rw[hL];exact b48.ext xg9
    obtain⟨v49,w49,hr49,o49,g49⟩:=dn (ty:=28) b44 b48 (by simp only[List.length_append];omega) (xg9).size
    have x49:=aI.of_grew (xg9) g49 b44.ge
    refine bc Ll Ll hr49 (ac Ll Ll (ag (ab (af (aa (ae Ll Ll (ae Ll Ll (aQ Ll Ll (bC (hv.ext ((e3.trans e6).trans x49))) (ai Ll Ll Ll (aW) ?_)))))))))
    refine ag (ab ?_)
    refine bi Ll (fun h53=>?_) (fun h53=>?_)
    ·have hn0:n≠0:=by omega
     have hbo:=lL (d:=d) (i:=i) (by rw[hb];exact hn0)
     rw[hb] at hbo
     obtain⟨h4,h1,h2,h3,_,h5⟩:=hbo
     have h4:4≤n:=h4
     have h1:1≤k:=h1
     have h3:k≤4096:=h3
     have h5:i+n≤d.length:=h5
     have hun:(UInt64.ofNat (n-4)).toNat=n-4:=GS (by omega)
     have huk:(UInt64.ofNat (k-1)).toNat=k-1:=GS (by omega)
     have hu4:=ft (n:=n-4) (by omega)
     have hq2:O++uv (i-s)++L++uv (n-4)++uv (k-1)++pk d (i+n) 0=bS d:=by
      rw[kK (by omega) (by rw[hb];exact hn0),hb,show i-(i-s)=s by omega,←hL] at hq
      rw[←hq];simp only[List.append_assoc]
     refine af (aa (ae Ll Ll (ae Ll Ll (ai (r:=I ((n-4:Nat):Int)) Ll Ll Ll (by have e:((n-4:Nat):Int)=(n:Int)-4:=(by omega);rw[e];exact bg (by omega) (by omega)) ?_))))
     refine aR Ll Ll (cN Tryz.underlying3 Tryz.underlying41) (an dL Ll Ll (dM o49.bts (by simp only[List.length_append];omega)) ?_)
     rintro v58 w58 ⟨x58,o58⟩
     rw[hun] at o58
     refine ae Ll Ll (ai (r:=I ((k-1:Nat):Int)) Ll Ll Ll (by have e:((k-1:Nat):Int)=(k:Int)-1:=(by omega);rw[e];exact bg (by omega) (by omega)) ?_)
     refine aR Ll Ll (cN Tryz.underlying3 Tryz.underlying41) (an dL Ll Ll (dM o58.bts (by simp only[List.length_append];omega)) ?_)
     rintro v62 w62 ⟨x62,o62⟩
     rw[huk] at o62
     refine ac Ll Ll (ag (ab (aa (ae Ll Ll (ae Ll Ll (ai (r:=I ((i+n:Nat):Int)) Ll Ll Ll (by have e:((i+n:Nat):Int)=(i:Int)+(n:Int):=(by omega);rw[e];exact aK (by omega) (by omega)) ?_))))))
     refine ac Ll Ll (ag (aJ ?_))
     refine dA (i+n) (O++uv (i-s)++L++uv (n-4)++uv (k-1)) (v62) ⟨rfl,rfl,rfl,trivial⟩ ⟨((((e3.trans e6).trans x49).trans x58).trans x62),h5,o62.bts,hq2⟩ (by omega)
    ·have hie:i=d.length:=by omega
     have hq2:O++uv (i-s)++L++pk d i 0=bS d:=by
      rw[j4 (by omega),if_pos (by omega),show d.length-(i-s)=s by omega] at hq
      rw[j4 (by omega),if_neg (by omega),List.append_nil,←hq,hL,List.take_of_length_le (by rw[List.length_drop];omega),List.append_assoc]
     refine ar (aJ ?_)
     refine dA (i) (O++uv (i-s)++L) (v49) ⟨rfl,rfl,rfl,trivial⟩ ⟨((e3.trans e6).trans x49),by omega,(o49).bts,hq2⟩ (by omega)
  ·refine ao Ll Ll Ll (ao Ll Ll Ll (ao Ll Ll Ll (ao Ll Ll Ll (aC Ll Ll Ll (ag (ab (cp Ll (aY (aB (aB (aX (ab (af ?_)))))))))))))
   have hpO:O.length≤(bS d).length:=by rw[←hq,List.length_append];omega
   have hus:(UInt64.ofNat (i-s)).toNat=i-s:=GS (by omega)
   have hul:=ft (n:=i-s) (by omega)
   obtain⟨L,hL⟩:∃L,L=(d.drop s).take (i-s):=⟨_,rfl⟩
   have hLl:L.length=i-s:=by rw[hL,List.length_take,List.length_drop];omega
   refine bz 10 [0,4,6,7,44,48] (by kernel_rfl) (by kernel_rfl) ?_
   refine ap Ll Ll (ap Ll Ll (ap Ll Ll (aS (r:=I ((i-s:Nat):Int)) Ll Ll Ll (fun w _=>by have e:((i-s:Nat):Int)=(i:Int)-(s:Int):=(by omega);rw[e];exact bg (by omega) (by omega)) ?_)))
   refine dm rfl rfl (fun w hw=>cN KO KN) (ce (S:=cG w6.heap.size (O++uv (i-s))) dL (cG.stable _ _) rfl (fun w hw=>by rintro _ rfl _ rfl;exact bE.mono (dM ((hO.ext e6).ext hw) (by omega)) fun v w' h=>⟨h.1,by have:=h.2.low hw.size;rw[hus] at this;exact this⟩) ?_)
   refine ap Ll Ll (ap Ll Ll (ap Ll Ll ?_))
   obtain⟨v48,p48,b48⟩:=ri (hv.ext (e3.trans e6)) (lo:=s) (hi:=i) (by omega) (by omega) .i64 .i64
   refine ia Ll Ll Ll Ll (fun w _=>p48 w) (bF ?_)
   intro wg9 xg9
   rintro _ hq0
   obtain rfl:=Eq.symm hq0
   rintro _ rfl
   rintro _ rfl
   rintro _ rfl
   intro vg44 b44
   rintro _ hq48
   obtain rfl:=Eq.symm hq48
   have b48:cm L v48 wg9:=by rw[List.drop_take] at b48;rw[hL];exact b48.ext xg9
   obtain⟨v49,w49,hr49,o49,g49⟩:=dn (ty:=28) b44 b48 (by simp only[List.length_append];omega) (xg9).size
   have x49:=aI.of_grew (xg9) g49 b44.ge
   refine bc Ll Ll hr49 (ac Ll Ll (ag (ab (af (aa (ae Ll Ll (ae Ll Ll (aQ Ll Ll (bC (hv.ext ((e3.trans e6).trans x49))) (ai Ll Ll Ll (aW) ?_)))))))))
   refine ag (ab ?_)
   refine bi Ll (fun h53=>?_) (fun h53=>?_)
   ·have hn0:n≠0:=by omega
    have hbo:=lL (d:=d) (i:=i) (by rw[hb];exact hn0)
    rw[hb] at hbo
    obtain⟨h4,h1,h2,h3,_,h5⟩:=hbo
    have h4:4≤n:=h4
    have h1:1≤k:=h1
    have h3:k≤4096:=h3
    have h5:i+n≤d.length:=h5
    have hun:(UInt64.ofNat (n-4)).toNat=n-4:=GS (by omega)
    have huk:(UInt64.ofNat (k-1)).toNat=k-1:=GS (by omega)
    have hu4:=ft (n:=n-4) (by omega)
    have hq2:O++uv (i-s)++L++uv (n-4)++uv (k-1)++pk d (i+n) 0=bS d:=by
     rw[kK (by omega) (by rw[hb];exact hn0),hb,show i-(i-s)=s by omega,←hL] at hq
     rw[←hq];simp only[List.append_assoc]
    refine af (aa (ae Ll Ll (ae Ll Ll (ai (r:=I ((n-4:Nat):Int)) Ll Ll Ll (by have e:((n-4:Nat):Int)=(n:Int)-4:=(by omega);rw[e];exact bg (by omega) (by omega)) ?_))))
    refine aR Ll Ll (cN Tryz.underlying3 Tryz.underlying41) (an dL Ll Ll (dM o49.bts (by simp only[List.length_append];omega)) ?_)
    rintro v58 w58 ⟨x58,o58⟩
    rw[hun] at o58
    refine ae Ll Ll (ai (r:=I ((k-1:Nat):Int)) Ll Ll Ll (by have e:((k-1:Nat):Int)=(k:Int)-1:=(by omega);rw[e];exact bg (by omega) (by omega)) ?_)
    refine aR Ll Ll (cN Tryz.underlying3 Tryz.underlying41) (an dL Ll Ll (dM o58.bts (by simp only[List.length_append];omega)) ?_)
    rintro v62 w62 ⟨x62,o62⟩
    rw[huk] at o62
    refine ac Ll Ll (ag (ab (aa (ae Ll Ll (ae Ll Ll (ai (r:=I ((i+n:Nat):Int)) Ll Ll Ll (by have e:((i+n:Nat):Int)=(i:Int)+(n:Int):=(by omega);rw[e];exact aK (by omega) (by omega)) ?_))))))
    refine ac Ll Ll (ag (aJ ?_))
    refine dA (i+n) (O++uv (i-s)++L++uv (n-4)++uv (k-1)) (v62) ⟨rfl,rfl,rfl,trivial⟩ ⟨((((e3.trans e6).trans x49).trans x58).trans x62),h5,o62.bts,hq2⟩ (by omega)
   ·have hie:i=d.length:=by omega
    have hq2:O++uv (i-s)++L++pk d i 0=bS d:=by
     rw[j4 (by omega),if_pos (by omega),show d.length-(i-s)=s by omega] at hq
     rw[j4 (by omega),if_neg (by omega),List.append_nil,←hq,hL,List.take_of_length_le (by rw[List.length_drop];omega),List.append_assoc]
    refine ar (aJ ?_)
    refine dA (i) (O++uv (i-s)++L) (v49) ⟨rfl,rfl,rfl,trivial⟩ ⟨((e3.trans e6).trans x49),by omega,(o49).bts,hq2⟩ (by omega)
 ·refine aY (aB (aB (aX (ab (af (aa (ae Ll Ll (ac Ll Ll (ag (ab (av (aG Ll Ll ?_))))))))))))
  exact⟨_,rfl,e3,by
   rw[j4 (by omega),if_neg (by omega),List.append_nil] at hp
   rw[←hp];exact hO⟩
end Go.Rl
namespace Go.Rl
open Go.RowKit Go.Proofs
theorem GT:ay Tryz.prog 77:=⟨_,Tryz.func77,by kernel_rfl,rfl⟩
theorem GU {w:World} {l m:List UInt8} {v u:Value} (hv:cm l v w) (hu:cm m u w):
 Calls Tryz.prog 77 #[v,u] w (bE fun r w'=>aI w w'∧r=B (decide (l=m))):=by
 refine enter (vs:=[v,u]) Tryz.func77 Ll Ll Ll ?_
 have hll:=hv.len
 refine af (aa (ac Ll Ll (ag (ab (af (af (aa (ae Ll Ll (aQ Ll Ll (bC hv) (ae Ll Ll (aQ Ll Ll (bC hu) (ai Ll Ll Ll (bL) ?_))))))))))))
 refine ag (ab ?_)
 refine bi Ll (fun h10=>?_) (fun h10=>?_)
 ·have hne:l≠m:=fun h=>h10 (by rw[h])
  refine af (aa (ac Ll Ll (ag (ab (av (au (aG Ll Ll ?_)))))))
  exact⟨_,rfl,aI.refl _,congrArg B (decide_eq_false hne).symm⟩
 ·have hlen:l.length=m.length:=by omega
  refine ar (ab (af (af (aa (ae Ll Ll (aQ Ll Ll (bC hv) (ae Ll Ll (ag (ab (ax ?_))))))))))
  refine bZ (α:=Nat) (fun x=>[(0,v),(1,u),(12,I (l.length:Int)),(13,I (x:Int))]) (fun x w'=>aI w w'∧x≤l.length∧l.take x=m.take x) (fun x=>l.length-x) (0) ⟨rfl,rfl,rfl,rfl,trivial⟩ ⟨aI.refl _,by omega,rfl⟩ ?_
  rintro i w4 ⟨e4,hi,ht⟩
  refine af (aa (ai Ll Ll Ll (aW) (ag (ab (af ?_)))))
  refine bi Ll (fun h14=>?_) (fun h14=>?_)
  ·refine ar (ab (af (ax (af (aa (ae Ll Ll (ac Ll Ll (ag (ab (af (bz 8 [0,1,12,13,19,23] (by kernel_rfl) (by kernel_rfl) ?_)))))))))))
   refine ap Ll Ll (ap Ll Ll ?_)
   obtain⟨a18,p18,q18⟩:=eD (hv.ext e4) (i:=i) (by omega) .i64
   refine az Ll Ll Ll (fun w _=>p18 w) (aE Ll Ll (fun w hw=>aj KS Ll (hw.cell_some q18)) (ap Ll Ll (ap Ll Ll ?_)))
   obtain⟨a22,p22,q22⟩:=eD (hu.ext e4) (i:=i) (by omega) .i64
   refine az Ll Ll Ll (fun w _=>p22 w) (aE Ll Ll (fun w hw=>aj KS Ll (hw.cell_some q22)) (bF ?_))
   intro wg6 xg6
   rintro _ hq0
   obtain rfl:=Eq.symm hq0
   rintro _ hq1
   obtain rfl:=Eq.symm hq1
   rintro _ rfl
   rintro _ rfl
   rintro _ rfl
   rintro _ rfl
   refine ai Ll Ll Ll (Fp) (ag (ab ?_))
   refine bi Ll (fun h24=>?_) (fun h24=>?_)
   ·have hne:l≠m:=fun h=>h24 (by subst h;rfl)
    refine af (aa (ac Ll Ll (ag (ab (av (aV (au (au (aV (au (aG Ll Ll ?_)))))))))))
    exact⟨_,rfl,(e4.trans xg6),congrArg B (decide_eq_false hne).symm⟩
   ·have he:l[i]'(by omega)=m[i]'(by omega):=Classical.byContradiction fun h=>h24 h
    refine ar (aJ (ab (aa (ai (r:=I ((i+1:Nat):Int)) Ll Ll Ll (by have e:((i+1:Nat):Int)=(i:Int)+1:=(by omega);rw[e];exact aK (by omega) (by omega)) ?_))))
    refine ae Ll Ll (ag ?_)
    refine bQ (i+1) ⟨rfl,rfl,rfl,rfl,trivial⟩ ⟨(e4.trans xg6),by omega,by rw[List.take_succ_eq_append_getElem (by omega),List.take_succ_eq_append_getElem (by omega),ht,he]⟩ (by omega)
  ·refine aY (aB (aB (aX (ab (af (aa (ac Ll Ll (ag (ab (av (aG Ll Ll ?_)))))))))))
   exact⟨_,rfl,e4,by
    rw[List.take_of_length_le (by omega),List.take_of_length_le (by omega)] at ht
    rw[decide_eq_true ht];rfl⟩
end Go.Rl
namespace Go.Rl
open Go.RowKit Go.Proofs
section
variable {w:World} {g:Nat} {st:Option (List UInt8)}
theorem JB (hr:bb g st w):Calls Tryz.prog 129 #[.pointer (some ⟨g,0,none⟩)] w (bE fun r w'=>w=w'∧r=I ((st.getD []).length:Nat)):=(Ed hr).mono fun _ _ ⟨v,h,h1,h2⟩=>⟨v,h,h2.symm,h1⟩
end
end Go.Rl
namespace Go.Rl
open Go.RowKit Go.Proofs
theorem gX:ay Tryz.prog 106:=⟨_,Tryz.func106,by kernel_rfl,rfl⟩
theorem ye {l t':List UInt8} {n:Nat} (h:db (l.take 10)=some (n,t')):db l=some (n,l.drop (uv n).length)∧(uv n).length+t'.length=min l.length 10:=by
 obtain⟨h1,h2⟩:=ee h
 have hlen:(uv n).length+t'.length=min l.length 10:=by
  have:=congrArg List.length h1
  rw[List.length_take,List.length_append] at this
  omega
 have e:l=uv n++(t'++l.drop 10):=by
  rw[←List.append_assoc,←h1,List.take_append_drop]
 refine⟨?_,hlen⟩
 have hd:l.drop (uv n).length=t'++l.drop 10:=by
  conv=>lhs;rw[e]
  rw[List.drop_left' rfl]
 rw[hd]
 conv=>lhs;rw[e]
 exact jD h2 _
theorem yf {l:List UInt8} (h:db (l.take 10)=none):db l=none:=by
 cases hr:db l with
 |none=>rfl
 |some p=>
  obtain⟨n,t⟩:=p
  obtain⟨h1,h2⟩:=ee hr
  have hl:=ft (n:=n) h2
  have e:l.take 10=uv n++t.take (10-(uv n).length):=by
   rw[h1,List.take_append]
   congr 1
   exact List.take_of_length_le (by omega)
  rw[e,jD h2] at h
  cases h
theorem C1 {P:Program} {w:World} {ts:Array TypeId} {ty:TypeId} {n:Nat}:(Builtin.min_ ts ty #[I (n:Int),I 10]).run P w=.ok (I ((min n 10:Nat):Int)) w:=by
 have e:((min n 10:Nat):Int)=if (10:Int)<(n:Int) then 10 else(n:Int):=by split<;>omega
 rw[e];rfl
theorem JC {P:Program} {w:World} {t:TypeId} {x y:Operand} {a b c:Nat} (h:c+b=a) (ha:a≤1099511627776):(bin .sub t x y (I (a:Int)) (I (b:Int))).run P w=.ok (I (c:Int)) w:=by
 have e:(c:Int)=(a:Int)-(b:Int):=by omega
 rw[e]
 exact bg (by omega) (by omega)
def GV (l:List UInt8) (r:Value) (w':World):Prop:=match db l with
 |some (n,t)=>∃v,r=.tuple #[bj (UInt64.ofNat n),v,B true]∧cm t v w'
 |none=>r=.tuple #[bj 0,.slice none 0 0,B false]
theorem vX {w w0:World} {l:List UInt8} {v:Value} (h0:cm l v w0) (hv:cm l v w) (hl:l.length≤1099511627776):
 Calls Tryz.prog 106 #[v] w (bE fun r w'=>aI w w'∧GV l r w0):=by
 refine enter (vs:=[v]) Tryz.func106 Ll Ll Ll ?_
 refine af (aa (ac Ll Ll (ac Ll Ll (ac Ll Ll (ag (ab (af (aa (ae Ll Ll (ae Ll Ll (aQ Ll Ll (bC hv) ?_)))))))))))
 refine JW (vs:=[I (l.length:Int),I 10]) Ll Ll C1 ?_
 obtain⟨v12,p12,b12⟩:=ie hv (hi:=min l.length 10) (by omega) .i64
 refine cw Ll Ll Ll Ll Ll (p12 _) ?_
 have b12:cm (l.take 10) v12 w:=by
  have e:l.take (min l.length 10)=l.take 10:=by rw[Nat.min_comm,←List.take_take,List.take_length]
  rw[e] at b12;exact b12
 refine an y5 Ll Ll ((y7 b12 (by rw[List.length_take];omega))) ?_
 rintro v13 w13 ⟨x13,g,lg,rfl,rr⟩
 refine ac Ll Ll (ag (ab (af ?_)))
 rcases hU:db (l.take 10) with _|⟨n,t⟩
 ·refine aa (ae Ll Ll (an gP Ll Ll ((IP (st:=some (l.take 10)) rr hU)) ?_))
  rintro v16 w16 ⟨g16,rfl,r1⟩
  have x16:=(x13).of_new g16 lg
  refine ae Ll Ll (ak Ll Ll (aT) (ak Ll Ll (aU) (ac Ll Ll (ac Ll Ll (ag (ab (af (af (aa (ae Ll Ll (ai Ll Ll Ll (cg (by decide) bL) ?_)))))))))))
  refine ag (ab (bB Ll (af (aa (ac Ll Ll (ac Ll Ll (ac Ll Ll (ag (ab (av (au (kU Ll Ll Ll Ll ?_))))))))))))
  exact⟨_,rfl,x16,by unfold GV;rw[yf hU];rfl⟩
 ·obtain⟨hs,hlen⟩:=ye hU
  refine aa (ae Ll Ll (an gP Ll Ll ((IQ (st:=some (l.take 10)) rr hU)) ?_))
  rintro v16 w16 ⟨g16,rfl,r1⟩
  have x16:=(x13).of_new g16 lg
  refine ae Ll Ll (ak Ll Ll (aT) (ak Ll Ll (aU) (ac Ll Ll (ac Ll Ll (ag (ab (af (af (aa (ae Ll Ll (ai Ll Ll Ll (cf (by decide) bL) ?_)))))))))))
  refine ag (ab (cp Ll (ar (ab (af (bz 11 [2,3] (by kernel_rfl) (by kernel_rfl) ?_))))))
  refine ap Ll Ll (ap Ll Ll (ap Ll Ll (mh (vs:=[v]) Ll Ll (fun w hw=>bC ((hv.ext x16).ext hw)) (JY (vs:=[I (l.length:Int),I 10]) Ll Ll (fun _ _=>C1) ?_))))
  refine ap rfl rfl (ce (S:=Is (I ((t.length:Nat):Int))) Ec (bt.is _) rfl (fun w hw=>by rintro _ rfl;exact bE.mono (JB (r1.ext hw)) fun v w' h=>⟨h.1▸aI.refl _,h.2⟩) ?_)
  refine aS Ll Ll Ll (fun w _=>JC hlen (by omega)) ?_
  obtain⟨v29,p29,b29⟩:=fp h0 (lo:=(uv n).length) (by omega) .i64
  refine ia Ll Ll Ll Ll (fun w hw=>p29 _) (eo Ll Ll (eo Ll Ll (bF ?_)))
  intro wg5 xg5
  rintro _ rfl
  rintro _ rfl
  refine ac Ll Ll (ag (ab (av (kU Ll Ll Ll Ll ?_))))
  exact⟨_,rfl,(x16.trans xg5),by unfold GV;rw[hs];exact⟨_,rfl,b29⟩⟩
end Go.Rl
namespace Go.Rl
open Go.RowKit Go.Proofs
theorem vY:ay Tryz.prog 107:=⟨_,Tryz.func107,by kernel_rfl,rfl⟩
def ExpR (o:Option (List UInt8)) (r:Value) (w':World):Prop:=match o with
 |some out=>∃v,r=.tuple #[v,B true]∧cm out v w'
 |none=>∃v,r=.tuple #[v,B false]
section
variable {w w0:World} {l:List UInt8} {v:Value}
theorem nI (hv:cm l v w) (hl:l.length≤1099511627776) (h:db l=none):Calls Tryz.prog 106 #[v] w (bE fun r w'=>aI w w'∧r=.tuple #[bj 0,.slice none 0 0,B false]):=
 (vX hv hv hl).mono fun _ _ ⟨r,he,h1,h2⟩=>⟨r,he,h1,by unfold GV at h2;rw[h] at h2;exact h2⟩
theorem nJ {n:Nat} {t:List UInt8} (h0:cm l v w0) (hv:cm l v w) (hl:l.length≤1099511627776) (h:db l=some (n,t)):Calls Tryz.prog 106 #[v] w (bE fun r w'=>aI w w'∧∃u,r=.tuple #[bj (UInt64.ofNat n),u,B true]∧cm t u w0):=
 (vX h0 hv hl).mono fun _ _ ⟨r,he,h1,h2⟩=>⟨r,he,h1,by unfold GV at h2;rw[h] at h2;exact h2⟩
end
theorem jJ {n m:Nat} (hn:n<18446744073709551616) (hm:m<18446744073709551616):UInt64.ofNat n<UInt64.ofNat m↔n<m:=by
 rw[UInt64.lt_iff_toNat_lt,UInt64.toNat_ofNat',UInt64.toNat_ofNat']
 omega
theorem mp {n m:Nat} (hn:n<18446744073709551616) (hm:m<18446744073709551616):UInt64.ofNat n≥UInt64.ofNat m↔m≤n:=by
 show UInt64.ofNat m≤UInt64.ofNat n↔m≤n
 rw[UInt64.le_iff_toNat_le,UInt64.toNat_ofNat',UInt64.toNat_ofNat']
 omega
theorem GW {n m:Nat} (hn:n<18446744073709551616) (h:m≤n):UInt64.ofNat n-UInt64.ofNat m=UInt64.ofNat (n-m):=by
 apply UInt64.toNat_inj.1
 rw[UInt64.toNat_sub_of_le _ _ (UInt64.le_iff_toNat_le.2 (by rw[UInt64.toNat_ofNat',UInt64.toNat_ofNat'];omega)),UInt64.toNat_ofNat',UInt64.toNat_ofNat',UInt64.toNat_ofNat']
 omega
theorem Kr {total f:Nat} {l O:List UInt8} (h:O.length<total) (hN:db l=none):rK total (f+1) l O=none:=by
 unfold rK;rw[if_pos h,hN];rfl
theorem nZ {total f n:Nat} {l O t:List UInt8} (h:O.length<total) (hN:db l=some (n,t)):rK total (f+1) l O=
 if total-O.length<n∨t.length<n then none
 else if total-O.length=n then(if t.drop n=[] then some (O++t.take n) else none)
 else(db (t.drop n)).bind fun q=>
  if total-O.length-n<4∨total-O.length-n-4<q.1 then none
  else(db q.2).bind fun r=>
   if 4096≤r.1∨(O++t.take n).length≤r.1 then none
   else rK total f r.2 (AC (r.1+1) (q.1+4) (O++t.take n)):=by
 rw[rK,if_pos h,hN];rfl
theorem Ks {total f:Nat} {l O:List UInt8} (h:¬O.length<total):rK total (f+1) l O=if l=[] then some O else none:=by
 rw[rK,if_neg h]
theorem zZ {k m j c:Nat} {X:List UInt8} (hj:j<m) (hX:X.length=c+j) (hk:k<c):AC (k+1) (m-j) X=AC (k+1) (m-(j+1)) (X++[X[c-1-k+j]'(by omega)]):=by
 obtain⟨s,hs⟩:∃s,m-j=s+1:=⟨m-j-1,by omega⟩
 have e:X.getD (X.length-(k+1)) 0=X[c-1-k+j]'(by omega):=by
  have:X.length-(k+1)=c-1-k+j:=by omega
  rw[this,List.getD_eq_getElem?_getD,List.getElem?_eq_getElem (by omega)]
  rfl
 rw[hs,AC,e,show m-(j+1)=s by omega]
theorem vZ {w:World} {rest:List UInt8} {v:Value} {total:Nat} (hv:cm rest v w) (hl:rest.length≤549755813888) (ht:total≤549755813888):
 Calls Tryz.prog 107 #[v,bj (UInt64.ofNat total)] w (bE fun r w'=>aI w w'∧ExpR (rK total (total+1) rest []) r w'):=by
 refine enter (vs:=[v,bj (UInt64.ofNat total)]) Tryz.func107 Ll Ll Ll ?_
 refine af (aa (ac Ll Ll (ac Ll Ll (ag (ab (af (aa (ac Ll Ll (ag (ab (af (ax ?_))))))))))))
 refine si (fun(f:Nat) (l:List UInt8) (O:List UInt8) (vl:Value) (vo:Value)=>[(0,vl),(1,bj (UInt64.ofNat total)),(6,vo)]) (fun(f:Nat) (l:List UInt8) (O:List UInt8) (vl:Value) (vo:Value) w'=>aI w w'∧cm l vl w∧cG w.heap.size O vo w'∧l.length≤549755813888∧O.length≤total∧total-O.length<f∧rK total (total+1) rest []=rK total f l O) (fun(f:Nat) (l:List UInt8) (O:List UInt8) (vl:Value) (vo:Value)=>total-O.length) (total+1) (rest) ([]) (v) (.slice none 0 0) ⟨rfl,rfl,rfl,trivial⟩ ⟨aI.refl _,hv,cG.nil _ _,hl,by simp,by simp,rfl⟩ ?_
 rintro f l O vl vo w2 ⟨e2,hb,oO,hll,hOt,hf,hu⟩
 refine af (af ?_)
 obtain⟨f,rfl⟩:∃g,f=g+1:=⟨f-1,by omega⟩
 refine aa (ae Ll Ll (aQ Ll Ll (bC oO.bts) (aR Ll Ll (cN KO KN) (ae Ll Ll (ai Ll Ll Ll (dy) ?_)))))
 refine ag (ab ?_)
 refine bi Ll (fun h19=>?_) (fun h19=>?_)
 ·have hlt:O.length<total:=(jJ (by omega) (by omega)).1 h19
  refine ar (ab (ax (af (aa (ae Ll Ll (ae Ll Ll (aQ Ll Ll (bC oO.bts) (aR Ll Ll (cN KO KN) ?_))))))))
  refine ai (r:=bj (UInt64.ofNat (total-O.length))) Ll Ll Ll ((by rw[←GW (n:=total) (m:=O.length) (by omega) (by omega)];exact dx)) (ac Ll Ll ?_)
  refine ag (ab (af ?_))
  rcases hN:db l with _|⟨n,t⟩
  ·refine aa (ae Ll Ll (an gX Ll Ll ((nI (hb.ext e2) (by omega) hN)) ?_))
   rintro v27 w27 ⟨x27,rfl⟩
   refine ae Ll Ll (ak Ll Ll (ep) (ak Ll Ll (eq) (ak Ll Ll (er) (ac Ll Ll (ac Ll Ll (ac Ll Ll (ag ?_)))))))
   refine ab (af (af (aa (ae Ll Ll (bI Ll Ll bK (ae Ll Ll (ao Ll Ll Ll (ao Ll Ll Ll (ao Ll Ll Ll (aw Ll Ll Ll (ae Ll Ll ?_)))))))))))
   refine ao Ll Ll Ll (ao Ll Ll Ll (ao Ll Ll Ll (ao Ll Ll Ll (ao Ll Ll Ll (aw Ll Ll Ll (ag (ab (bB Ll (af (aa (ac Ll Ll (ac Ll Ll ?_))))))))))))
   refine ag (ab (av (au (aV (au (aV (au (aM Ll Ll Ll ?_))))))))
   exact⟨_,rfl,(e2.trans x27),by rw[hu,Kr hlt hN];exact⟨_,rfl⟩⟩
  ·obtain⟨hN1,hN2⟩:=ee hN
   have htl:t.length≤549755813888:=by rw[hN1,List.length_append] at hll;omega
   refine aa (ae Ll Ll (an gX Ll Ll ((nJ hb (hb.ext e2) (by omega) hN)) ?_))
   rintro v27 w27 ⟨x27,u1,rfl,hb1⟩
   refine ae Ll Ll (ak Ll Ll (ep) (ak Ll Ll (eq) (ak Ll Ll (er) (ac Ll Ll (ac Ll Ll (ac Ll Ll (ag ?_)))))))
   refine ab (af (af (aa (ae Ll Ll (bI Ll Ll bK (ae Ll Ll (al Ll (ae Ll Ll (al Ll (ae Ll Ll (al Ll (ai Ll Ll Ll (cu) ?_))))))))))))
   refine aC Ll Ll Ll (ae Ll Ll ?_)
   refine cO (fun h38=>?_) (fun h38=>?_)
   ·refine ao Ll Ll Ll (ao Ll Ll Ll (ao Ll Ll Ll (ao Ll Ll Ll (ao Ll Ll Ll (aw Ll Ll Ll (ag (ab (bB Ll (af (aa (ac Ll Ll (ac Ll Ll ?_))))))))))))
    refine ag (ab (av (au (aV (au (aV (au (aM Ll Ll Ll ?_))))))))
    exact⟨_,rfl,(e2.trans x27),by
     rw[hu,nZ hlt hN,if_pos (by
      first
      |exact .inl ((iu (by omega) (by omega)).1 h38)
      |exact .inr ((iu (by omega) (by omega)).1 h44))]
     exact⟨_,rfl⟩⟩
   ·refine al Ll (ae Ll Ll (al Ll (ae Ll Ll (al Ll (aQ Ll Ll (bC (hb1.ext (e2.trans x27))) (al Ll (aR Ll Ll (cN KO KN) ?_)))))))
    refine al Ll (ai Ll Ll Ll (cu) (aC Ll Ll Ll (ag (ab ?_))))
    refine bi Ll (fun h44=>?_) (fun h44=>?_)
    ·refine af (aa (ac Ll Ll (ac Ll Ll (ag (ab (av (au (aV (au (aV (au (aM Ll Ll Ll ?_))))))))))))
     exact⟨_,rfl,(e2.trans x27),by
      rw[hu,nZ hlt hN,if_pos (by
       first
       |exact .inl ((iu (by omega) (by omega)).1 h38)
       |exact .inr ((iu (by omega) (by omega)).1 h44))]
      exact⟨_,rfl⟩⟩
    ·have hn1:n≤total-O.length:=Nat.le_of_not_lt (mt (iu (by omega) (by omega)).2 h38)
     have hn2:n≤t.length:=Nat.le_of_not_lt (mt (iu (by omega) (by omega)).2 h44)
     have hnn:(UInt64.ofNat n).toNat=n:=GS hN2
     refine ar (ab (af (aa (ae Ll Ll (ae Ll Ll (ae Ll Ll ?_))))))
     obtain⟨v48,p48,b48⟩:=ie hb1 (hi:=(UInt64.ofNat n).toNat) (by omega) .u64
     rw[hnn] at b48
     refine cw (b:=some (bj (UInt64.ofNat n))) Ll Ll Ll Ll Ll (p48 _) ?_
     obtain⟨v49,w49,hr49,o49,g49⟩:=dn (ty:=28) (oO.ext x27) (b48.ext (e2.trans x27)) (by simp only[List.length_take];omega) ((e2.trans x27)).size
     have x49:=aI.of_grew ((e2.trans x27)) g49 (oO.ext x27).ge
     refine bc Ll Ll hr49 (ac Ll Ll (ag (ab (af (aa (ae Ll Ll (ae Ll Ll ?_)))))))
     obtain⟨v52,p52,b52⟩:=fp hb1 (lo:=(UInt64.ofNat n).toNat) (by omega) .u64
     rw[hnn] at b52
     refine cw (a:=some (bj (UInt64.ofNat n))) Ll Ll Ll Ll Ll (p52 _) ?_
     refine ac Ll Ll (ag (ab (af (aa (ae Ll Ll (ae Ll Ll (ai (r:=bj (UInt64.ofNat (total-O.length-n))) Ll Ll Ll ((by rw[←GW (n:=total-O.length) (m:=n) (by omega) hn1];exact dx)) ?_)))))))
     refine ac Ll Ll (ag (ab (af (af (aa (ae Ll Ll (ai (v:=bj 0) Ll Ll Ll (fK) (ag (ab ?_)))))))))
     refine bi Ll (fun h57=>?_) (fun h57=>?_)
     ·have hz:total-O.length=n:=by
       have:=congrArg UInt64.toNat h57
       rw[GS (by omega),show(0:UInt64).toNat=0 from rfl] at this
       omega
      refine aY (aB (rf Ll (aB (aX (ab (af (aa (ae Ll Ll (ae Ll Ll (aQ Ll Ll (bC (b52.ext x49)) (ai Ll Ll Ll (aZ) (ac Ll Ll ?_))))))))))))
      refine ac Ll Ll (ag (ab (av (aM Ll Ll Ll ?_))))
      exact⟨_,rfl,x49,by
       rw[hu,nZ hlt hN,if_neg (by omega),if_pos hz]
       by_cases hd:t.drop n=[]
       ·rw[if_pos hd,hd]
        exact⟨_,rfl,(o49).bts⟩
       ·rw[if_neg hd]
        have:¬(((t.drop n).length:Nat):Int)=0:=fun h=>hd (List.eq_nil_of_length_eq_zero (by omega))
        exact⟨_,by rw[decide_eq_false this]⟩⟩
     ·have hnz:¬total-O.length=n:=fun h=>h57 (by rw[show total-O.length-n=0 by omega];rfl)
      refine ar (ab (af ?_))
      obtain⟨Y,hY⟩:∃Y,Y=total-O.length-n:=⟨_,rfl⟩
      have htd:(t.drop n).length≤549755813888:=by rw[List.length_drop];omega
      rcases hM:db (t.drop n) with _|⟨m,t2⟩
      ·refine aa (ae Ll Ll (an gX Ll Ll ((nI (b52.ext x49) (by omega) hM)) ?_))
       rintro v60 w60 ⟨x60,rfl⟩
       refine ae Ll Ll (ak Ll Ll (ep) (ak Ll Ll (eq) (ak Ll Ll (er) (ac Ll Ll (ac Ll Ll (ac Ll Ll (ag ?_)))))))
       refine ab (af (af (aa (ae Ll Ll (bI Ll Ll bK (ae Ll Ll (ao Ll Ll Ll (ao Ll Ll Ll (aw Ll Ll Ll (ae Ll Ll (ao Ll Ll Ll ?_)))))))))))
       refine ao Ll Ll Ll (ao Ll Ll Ll (ao Ll Ll Ll (aw Ll Ll Ll (ag (ab (bB Ll (af (aa (ac Ll Ll (ac Ll Ll (ag (ab (av (au ?_))))))))))))))
       refine aV (au (aV (au (aM Ll Ll Ll ?_))))
       exact⟨_,rfl,(x49.trans x60),by rw[hu,nZ hlt hN,if_neg (by omega),if_neg hnz,hM];exact⟨_,rfl⟩⟩
      ·obtain⟨hM1,hM2⟩:=ee hM
       have ht2:t2.length≤549755813888:=by rw[hM1,List.length_append] at htd;omega
       refine aa (ae Ll Ll (an gX Ll Ll ((nJ b52 (b52.ext x49) (by omega) hM)) ?_))
       rintro v60 w60 ⟨x60,u2,rfl,hb2⟩
       refine ae Ll Ll (ak Ll Ll (ep) (ak Ll Ll (eq) (ak Ll Ll (er) (ac Ll Ll (ac Ll Ll (ac Ll Ll (ag ?_)))))))
       refine ab (af (af (aa (ae Ll Ll (bI Ll Ll bK (ae Ll Ll (al Ll (ae Ll Ll (al Ll (ai (v:=bj 4) Ll Ll Ll (dy) (aC Ll Ll Ll ?_)))))))))))
       refine ae Ll Ll ?_
       refine cO (fun h70=>?_) (fun h70=>?_)
       ·refine ao Ll Ll Ll (ao Ll Ll Ll (ao Ll Ll Ll (ao Ll Ll Ll (aw Ll Ll Ll (ag (ab (bB Ll (af (aa (ac Ll Ll (ac Ll Ll (ag ?_))))))))))))
        refine ab (av (au (aV (au (aV (au (aM Ll Ll Ll ?_)))))))
        exact⟨_,rfl,(x49.trans x60),by
         rw[hu,nZ hlt hN,if_neg (by omega),if_neg hnz,hM]
         simp only[Option.bind_some]
         rw[if_pos (by
          first
          |exact .inl ((jJ (m:=4) (by omega) (by omega)).1 h70)
          |exact .inr ((iu (by omega) (by omega)).1 h75))]
         exact⟨_,rfl⟩⟩
       ·refine al Ll (ae Ll Ll (al Ll (ae Ll Ll (al Ll ?_))))
        have hX4:4≤total-O.length-n:=Nat.le_of_not_lt fun h=>h70 ((jJ (m:=4) (by omega) (by omega)).2 h)
        refine ai (v:=bj 4) (r:=bj (UInt64.ofNat (total-O.length-n-4))) Ll Ll Ll ((by rw[←GW (n:=total-O.length-n) (m:=4) (by omega) hX4];exact dx)) ?_
        refine al Ll (ai Ll Ll Ll (cu) (aC Ll Ll Ll (ag (ab ?_))))
        refine bi Ll (fun h75=>?_) (fun h75=>?_)
        ·refine af (aa (ac Ll Ll (ac Ll Ll (ag (ab (av (au (aV (au (aV (au (aM Ll Ll Ll ?_))))))))))))
         exact⟨_,rfl,(x49.trans x60),by
          rw[hu,nZ hlt hN,if_neg (by omega),if_neg hnz,hM]
          simp only[Option.bind_some]
          rw[if_pos (by
           first
           |exact .inl ((jJ (m:=4) (by omega) (by omega)).1 h70)
           |exact .inr ((iu (by omega) (by omega)).1 h75))]
          exact⟨_,rfl⟩⟩
        ·have hm1:m≤total-O.length-n-4:=Nat.le_of_not_lt (mt (iu (by omega) (by omega)).2 h75)
         refine ar (ab (af ?_))
         rcases hK:db t2 with _|⟨k,t3⟩
         ·refine aa (ae Ll Ll (an gX Ll Ll ((nI (hb2.ext (x49.trans x60)) (by omega) hK)) ?_))
          rintro v78 w78 ⟨x78,rfl⟩
          refine ae Ll Ll (ak Ll Ll (ep) (ak Ll Ll (eq) (ak Ll Ll (er) (ac Ll Ll (ac Ll Ll (ac Ll Ll (ag ?_)))))))
          refine ab (af (af (aa (ae Ll Ll (bI Ll Ll bK (ae Ll Ll (ao Ll Ll Ll (ao Ll Ll Ll (aw Ll Ll Ll (ae Ll Ll (ao Ll Ll Ll ?_)))))))))))
          refine ao Ll Ll Ll (ao Ll Ll Ll (ao Ll Ll Ll (ao Ll Ll Ll (aw Ll Ll Ll (ag (ab (bB Ll (af (aa (ac Ll Ll (ac Ll Ll (ag ?_))))))))))))
          refine ab (av (au (aV (au (aV (au (aM Ll Ll Ll ?_)))))))
          exact⟨_,rfl,((x49.trans x60).trans x78),by
           rw[hu,nZ hlt hN,if_neg (by omega),if_neg hnz,hM]
           simp only[Option.bind_some]
           rw[if_neg (by omega),hK];exact⟨_,rfl⟩⟩
         ·obtain⟨hK1,hK2⟩:=ee hK
          have ht3:t3.length≤549755813888:=by rw[hK1,List.length_append] at ht2;omega
          refine aa (ae Ll Ll (an gX Ll Ll ((nJ hb2 (hb2.ext (x49.trans x60)) (by omega) hK)) ?_))
          rintro v78 w78 ⟨x78,u3,rfl,hb3⟩
          refine ae Ll Ll (ak Ll Ll (ep) (ak Ll Ll (eq) (ak Ll Ll (er) (ac Ll Ll (ac Ll Ll (ac Ll Ll (ag ?_)))))))
          refine ab (af (af (aa (ae Ll Ll (bI Ll Ll bK (ae Ll Ll (al Ll (ae Ll Ll (al Ll (ai (v:=bj 4096) Ll Ll Ll (fJ) (aC Ll Ll Ll ?_)))))))))))
          refine ae Ll Ll ?_
          refine cO (fun h88=>?_) (fun h88=>?_)
          ·refine ao Ll Ll Ll (ao Ll Ll Ll (ao Ll Ll Ll (ao Ll Ll Ll (ao Ll Ll Ll (aw Ll Ll Ll (ag (ab (bB Ll (af (aa (ac Ll Ll (ac Ll Ll ?_))))))))))))
           refine ag (ab (av (au (aV (au (aV (au (aM Ll Ll Ll ?_))))))))
           exact⟨_,rfl,((x49.trans x60).trans x78),by
            rw[hu,nZ hlt hN,if_neg (by omega),if_neg hnz,hM]
            simp only[Option.bind_some]
            rw[if_neg (by omega),hK]
            simp only[Option.bind_some]
            rw[if_pos (by
             first
             |exact .inl ((mp (m:=4096) (by omega) (by omega)).1 h88)
             |exact(.inr ((mp (by omega) (by simp only[List.length_append,List.length_take];omega)).1 h94)))]
            exact⟨_,rfl⟩⟩
          ·refine al Ll (ae Ll Ll (al Ll (ae Ll Ll (al Ll (aQ Ll Ll (bC (o49.ext (x60.trans x78)).bts) (al Ll (aR Ll Ll (cN KO KN) ?_)))))))
           refine al Ll (ai Ll Ll Ll (fJ) (aC Ll Ll Ll (ag (ab ?_))))
           refine bi Ll (fun h94=>?_) (fun h94=>?_)
           ·refine af (aa (ac Ll Ll (ac Ll Ll (ag (ab (av (au (aV (au (aV (au (aM Ll Ll Ll ?_))))))))))))
            exact⟨_,rfl,((x49.trans x60).trans x78),by
             rw[hu,nZ hlt hN,if_neg (by omega),if_neg hnz,hM]
             simp only[Option.bind_some]
             rw[if_neg (by omega),hK]
             simp only[Option.bind_some]
             rw[if_pos (by
              first
              |exact .inl ((mp (m:=4096) (by omega) (by omega)).1 h88)
              |exact(.inr ((mp (by omega) (by simp only[List.length_append,List.length_take];omega)).1 h94)))]
             exact⟨_,rfl⟩⟩
           ·obtain⟨O1,hO1⟩:∃O1,O1=O++t.take n:=⟨_,rfl⟩
            have hOl:O1.length=O.length+n:=by rw[hO1,List.length_append,List.length_take];omega
            have hk1:k<4096:=Nat.lt_of_not_le (mt (mp (m:=4096) (by omega) (by omega)).2 h88)
            have hk2:k<O1.length:=by rw[hO1];exact Nat.lt_of_not_le (mt (mp (by omega) (by simp only[List.length_append,List.length_take];omega)).2 h94)
            rw[←hO1] at o49
            refine ar (ab (af (aa (ae Ll Ll (ac Ll Ll (ag (ab (af (aa (ae Ll Ll (aQ Ll Ll (bC (o49.ext (x60.trans x78)).bts) (ai (r:=I ((O1.length-1:Nat):Int)) Ll Ll Ll (by have e:((O1.length-1:Nat):Int)=(O1.length:Int)-1:=(by omega);rw[e];exact bg (by omega) (by omega)) ?_))))))))))))
            refine ae Ll Ll (aR Ll Ll (sm KN KO (by omega)) (ai (r:=I ((O1.length-1-k:Nat):Int)) Ll Ll Ll (by have e:((O1.length-1-k:Nat):Int)=((O1.length-1:Nat):Int)-(k:Int):=(by omega);rw[e];exact bg (by omega) (by omega)) ?_))
            refine ac Ll Ll (ag (ab (af (aa (ae Ll Ll (aR Ll Ll (sm KN KO (by omega)) (ai (r:=I ((m+4:Nat):Int)) Ll Ll Ll (by have e:((m+4:Nat):Int)=(m:Int)+4:=(by omega);rw[e];exact aK (by omega) (by omega)) ?_)))))))
            refine ae Ll Ll (ag (ab (ax ?_)))
            refine f6 (fun(j:Nat) (X:List UInt8) (vx:Value)=>[(0,u3),(1,bj (UInt64.ofNat total)),(6,vx),(13,I ((O1.length-1-k:Nat):Int)),(104,I ((m+4:Nat):Int)),(105,I (j:Int))]) (fun(j:Nat) (X:List UInt8) (vx:Value) w'=>aI w w'∧cG w.heap.size X vx w'∧X.length=O1.length+j∧j≤m+4∧AC (k+1) (m+4-j) X=AC (k+1) (m+4) O1) (fun(j:Nat) (X:List UInt8) (vx:Value)=>m+4-j) (0) (O1) (v49) ⟨rfl,rfl,rfl,rfl,rfl,rfl,trivial⟩ ⟨((x49.trans x60).trans x78),(o49.ext (x60.trans x78)),rfl,by omega,rfl⟩ ?_
            rintro j X vx w20 ⟨e20,oX,hXl,hj,hX⟩
            refine af (aa (ai Ll Ll Ll (aW) (ag (ab (af ?_)))))
            refine bi Ll (fun h106=>?_) (fun h106=>?_)
            ·refine ar (ab (af (ax (af (aa (ae Ll Ll (ac Ll Ll (ag (ab (aa (ae Ll Ll (ae Ll Ll (ae Ll Ll (ae Ll Ll (ai (r:=I ((O1.length-1-k+j:Nat):Int)) Ll Ll Ll (by have e:((O1.length-1-k+j:Nat):Int)=((O1.length-1-k:Nat):Int)+(j:Int):=(by omega);rw[e];exact aK (by omega) (by omega)) ?_)))))))))))))))
             obtain⟨a113,p113,q113⟩:=eD oX.bts (i:=O1.length-1-k+j) (by omega) .i64
             refine aA Ll Ll Ll (p113 _) (am Ll Ll (aj KS Ll q113) ?_)
             obtain⟨v115,w115,hr115,x115,o115,ob115⟩:=fE (w:=w20) w20.heap.size [X[O1.length-1-k+j]'(by omega)] (by simp) (Nat.le_refl _)
             refine aO (vs:=[(0,U8 (X[O1.length-1-k+j]))]) Ll Ll hr115 ?_
             obtain⟨v116,w116,hr116,o116,g116⟩:=dn (ty:=28) (oX.ext x115) o115.bts (by simp;omega) ((e20.trans x115)).size
             have x116:=aI.of_grew ((e20.trans x115)) g116 (oX.ext x115).ge
             refine bc Ll Ll hr116 (ac Ll Ll (ag (aJ (ab (aa (ai (r:=I ((j+1:Nat):Int)) Ll Ll Ll (by have e:((j+1:Nat):Int)=(j:Int)+1:=(by omega);rw[e];exact aK (by omega) (by omega)) ?_))))))
             refine ae Ll Ll (ag ?_)
             refine dA (j+1) (X++[X[O1.length-1-k+j]'(by omega)]) (v116) ⟨rfl,rfl,rfl,rfl,rfl,rfl,trivial⟩ ⟨x116,o116,by simp;omega,by omega,by
              rw[←hX]
              exact(zZ (by omega) hXl hk2).symm⟩ (by omega)
            ·refine aY (aB (aB (aX (aJ ?_))))
             refine fT (f) (t3) (X) (u3) (vx) ⟨rfl,rfl,rfl,trivial⟩ ⟨e20,hb3,oX,ht3,by omega,by omega,by
              rw[hu,nZ hlt hN,if_neg (by omega),if_neg hnz,hM]
              simp only[Option.bind_some]
              rw[if_neg (by omega),hK]
              simp only[Option.bind_some]
              rw[←hO1,if_neg (by omega)]
              rw[show m+4-j=0 by omega] at hX
              rw[←hX];rfl⟩ (by omega)
 ·have hlt:¬O.length<total:=mt (jJ (by omega) (by omega)).2 h19
  refine aY (aB (aB (aX (ab (af (aa (ae Ll Ll (ae Ll Ll (aQ Ll Ll (bC (hb.ext e2)) (ai Ll Ll Ll (aZ) (ac Ll Ll (ac Ll Ll ?_))))))))))))
  refine ag (ab (av (aM Ll Ll Ll ?_)))
  exact⟨_,rfl,e2,by
   rw[hu,Ks hlt]
   by_cases hd:l=[]
   ·rw[if_pos hd,hd]
    exact⟨_,rfl,(oO).bts⟩
   ·rw[if_neg hd]
    have:¬((l.length:Nat):Int)=0:=fun h=>hd (List.eq_nil_of_length_eq_zero (by omega))
    exact⟨_,by rw[decide_eq_false this]⟩⟩
end Go.Rl
namespace Go.Rl
open Go.RowKit Go.Proofs
def n0 (g:Nat) (st:Option (List UInt8)) (b w:World):Prop:=∃A n c,cd g 109 [.slice A n c,B st.isNone] w∧cm (st.getD []) (.slice A n c) b∧pz A g
section
variable {g:Nat} {st:Option (List UInt8)} {b w w':World}
theorem n0.ext (h:n0 g st b w) (hx:aI w w'):n0 g st b w':=by
 obtain⟨A,n,c,h1,h2,h3⟩:=h
 exact⟨A,n,c,h1.ext hx,h2,h3⟩
theorem n0.at_ (h:n0 g st b w) (k:Kp b w):ci g st w:=by
 obtain⟨A,n,c,h1,h2,h3⟩:=h
 exact⟨A,n,c,h1,h2.kp k,h3⟩
theorem n0.other {row:Option Nat} (h:n0 g st b w) (hw:w.grownBy w' row) (hne:row≠some g):n0 g st b w':=by
 obtain⟨A,n,c,h1,h2,h3⟩:=h
 exact⟨A,n,c,h1.other hw (Ne.symm hne),h2,h3⟩
theorem cm.nil_any {v:Value} {w w':World} (h:cm [] v w):cm [] v w':=by
 obtain⟨A,n,c,rfl,h1,h2,h3,h4,h5⟩:=h
 exact⟨A,n,c,rfl,h1,h2,h3,fun hn=>absurd h3 (by simp;omega),h5⟩
theorem ci.rfB (h:ci g none w) (b:World):n0 g none b w:=by
 obtain⟨A,n,c,h1,h2,h3⟩:=h
 exact⟨A,n,c,h1,cm.nil_any h2,h3⟩
theorem n0.set {l l':List UInt8} {v:Value} (h:n0 g (some l) b w) (hv:cm l' v b) (hloc:∀A n c,v=.slice A n c→pz A g):
 ∃w',(Instr.storeAt 28 (.pointer (some ⟨g,0,none⟩)) v).run Tryz.prog w=.ok () w'∧w.grownBy w' (some g)∧n0 g (some l') b w':=by
 obtain⟨A,n,c,h1,h2,_⟩:=h
 obtain⟨A',n',c',rfl,h3⟩:=id hv
 exact⟨_,dv (i:=0) cq rfl h1 (by simp),ba w g 0 _,A',n',c',h1.set 0 _,hv,hloc _ _ _ rfl⟩
end
def JD (g:Nat) (b w:World) (o:Option (Nat×List UInt8)) (r:Value) (w':World):Prop:=
 w.grownBy w' (some g)∧match o with
  |some (n,t)=>r=.tuple #[bj (UInt64.ofNat n),I 0]∧n0 g (some t) b w'
  |none=>r=.tuple #[bj 0,I 5]∧n0 g none b w'
theorem rM {b w:World} {g:Nat} {st:Option (List UInt8)} (hrb:n0 g st b w) (hkb:Kp b w):
 Calls Tryz.prog 25 #[.pointer (some ⟨g,0,none⟩)] w (bE (JD g b w (st.bind db))):=by
 refine enter (vs:=[.pointer (some ⟨g,0,none⟩)]) Tryz.func25 Ll Ll Ll ?_
 have hr:=hrb.at_ hkb
 obtain⟨A,n,c0,k0,b0w,lc⟩:=id hrb
 rw[zl]
 obtain⟨l,hl0⟩:∃l,l=st.getD []:=⟨_,rfl⟩
 rw[←hl0] at b0w⊢
 have b0:=b0w.kp hkb
 refine af (aa (ac Ll Ll (ac Ll Ll (ag (ab (af (aa (ac Ll Ll (ac Ll Ll (ag (ab (af (af (aa (ac Ll Ll (ag ?_))))))))))))))))
 refine ab (ax ?_)
 refine f6 (fun(i:Nat) (acc:UInt64) (mult:UInt64)=>[(0,.pointer (some ⟨g,0,none⟩)),(4,bj acc),(5,bj mult),(6,I (i:Int))]) (fun(i:Nat) (acc:UInt64) (mult:UInt64) w'=>w=w'∧i≤10∧i≤l.length∧(i≤9→mult.toNat=128^i)∧acc.toNat<128^i∧db l=(ln (10-i) i (l.drop i)).map fun p=>(p.1+acc.toNat,p.2)) (fun(i:Nat) (acc:UInt64) (mult:UInt64)=>10-i) (0) (0) (1) ⟨rfl,rfl,rfl,rfl,trivial⟩ ⟨rfl,by omega,by omega,fun _=>rfl,by simp,by simp[db]⟩ ?_
 rintro i acc mult _ ⟨rfl,hi,hil,hm,ha,hrd⟩
 refine af (af (aa (ae Ll Ll (ae Ll Ll (aH Ll Ll (ah Ll Ll (aF (o:=0) KV Ll (by kernel_rfl) Ll) ?_))))))
 refine am Ll Ll (aj KQ Ll (k0.cell (i:=0) Ll)) (aQ Ll Ll (bC b0) (ai Ll Ll Ll (aW) (ae Ll Ll ?_)))
 refine cO (fun h15=>?_) (fun h15=>?_)
 ·refine al Ll (ae Ll Ll (al Ll (ai Ll Ll Ll (aW) (aw Ll Ll Ll (ag (ab ?_))))))
  refine bi Ll (fun h18=>?_) (fun h18=>?_)
  ·refine ar (ab (af (ax (af (aa (ae Ll Ll (aH Ll Ll (ah Ll Ll (aF (o:=0) KV Ll (by kernel_rfl) Ll) ?_))))))))
   refine am Ll Ll (aj KQ Ll (k0.cell (i:=0) Ll)) (ae Ll Ll ?_)
   obtain⟨a26,p26,q26⟩:=eD b0 (i:=i) (by omega) .i64
   refine aA Ll Ll Ll (p26 _) (am Ll Ll (aj KS Ll q26) ?_)
   have hil':i<l.length:=by omega
   have hdr:=List.drop_eq_getElem_cons hil'
   have hd:((l[i]%128).toUInt64).toNat=l[i].toNat%128:=by rw[UInt8.toNat_toUInt64,UInt8.toNat_mod];rfl
   have hst:st=some l:=by
    cases st with
    |none=>rw[show l=[] from hl0] at hil';simp at hil'
    |some l'=>rw[show l=l' from hl0]
   refine ai (v:=U8 128) Ll Ll Ll (yF (by decide)) (aR Ll Ll (sT KS KN) (ac Ll Ll (ag ?_)))
   refine ab (af ?_)
   refine fj (fun _:Unit=>[(0,.pointer (some ⟨g,0,none⟩)),(4,bj acc),(5,bj mult),(6,I (i:Int)),(7,bj ((l[i]%128).toUInt64))]) (fun _ w'=>w=w'∧(i=9→l[i].toNat%128≤1)) ?_ ?_
   ·refine af (aa (ae Ll Ll (ai Ll Ll Ll (aZ) (ae Ll Ll ?_))))
    refine cO (fun h32=>?_) (fun h32=>?_)
    ·refine al Ll (ae Ll Ll (al Ll (ai (v:=bj 1) Ll Ll Ll (cu) (aw Ll Ll Ll (ag (ab ?_))))))
     refine bi Ll (fun h35=>?_) (fun h35=>?_)
     ·have hn:db l=none:=by
       have h35:=UInt64.lt_iff_toNat_lt.1 h35
       rw[hd,show(1:UInt64).toNat=1 from rfl] at h35
       rw[hrd,hdr,gS (by omega),if_pos (Or.inl ⟨by omega,by omega⟩)];rfl
      refine af (aa (ae Ll Ll (an cW Ll Ll (cX hr) ?_)))
      rintro v37 w37 ⟨rfl,hr2,gg⟩
      have m37:=dS.kp hr gg
      refine ac Ll Ll (ac Ll Ll (ag (ab (av (au (au (aV (au (au (aV (au (aM Ll Ll Ll ?_))))))))))))
      exact⟨_,rfl,gg,by rw[hn];exact⟨rfl,ci.rfB hr2 b⟩⟩
     ·refine ar ?_
      exact cz () ⟨rfl,rfl,rfl,rfl,rfl,trivial⟩ ⟨rfl,fun h9=>by
       first
       |exact absurd h9 (by omega)
       |(refine Nat.le_of_not_lt fun hh=>h35 (UInt64.lt_iff_toNat_lt.2 ?_);rw[hd];exact hh)⟩
    ·refine ao Ll Ll Ll (ao Ll Ll Ll (aC Ll Ll Ll (ag (ab (cp Ll (ar ?_))))))
     exact cz () ⟨rfl,rfl,rfl,rfl,rfl,trivial⟩ ⟨rfl,fun h9=>by
      first
      |exact absurd h9 (by omega)
      |(refine Nat.le_of_not_lt fun hh=>h35 (UInt64.lt_iff_toNat_lt.2 ?_);rw[hd];exact hh)⟩
   rintro⟨⟩ _ ⟨rfl,h9⟩
   refine ab (af ?_)
   have hab:=zm (c:=l[i]) ha (by omega) h9 (hm (by omega))
   refine aa (ae Ll Ll (ae Ll Ll (ae Ll Ll (ai Ll Ll Ll (fZ) (ai Ll Ll Ll (dw) (ac Ll Ll (ag (ab (af (aa (ae Ll Ll ?_)))))))))))
   refine ai (v:=bj 128) Ll Ll Ll (fZ) (ac Ll Ll (ag (ab (af (aa (ae Ll Ll (aH Ll Ll (ah Ll Ll (aF (o:=0) KV Ll (by kernel_rfl) Ll) ?_))))))))
   refine am Ll Ll (aj KQ Ll (k0.cell (i:=0) Ll)) (ae Ll Ll ?_)
   obtain⟨a50,p50,q50⟩:=eD b0 (i:=i) (by omega) .i64
   refine aA Ll Ll Ll (p50 _) (am Ll Ll (aj KS Ll q50) (ai (v:=U8 128) Ll Ll Ll (ki) (ag (ab ?_))))
   refine bi Ll (fun h52=>?_) (fun h52=>?_)
   ·have hc:l[i].toNat<128:=UInt8.lt_iff_toNat_lt.1 h52
    refine af ?_
    refine fj (fun _:Unit=>[(0,.pointer (some ⟨g,0,none⟩)),(4,bj (acc+(l[i]%128).toUInt64*mult)),(6,I (i:Int))]) (fun _ w'=>w=w'∧¬(0<i∧l[i].toNat=0)) ?_ ?_
    ·refine af (aa (ae Ll Ll (ai Ll Ll Ll (ck) (ae Ll Ll ?_))))
     refine cO (fun h55=>?_) (fun h55=>?_)
     ·refine al Ll (ae Ll Ll (al Ll (ai (v:=bj 0) Ll Ll Ll (fK) (aw Ll Ll Ll (ag (ab ?_))))))
      refine bi Ll (fun h58=>?_) (fun h58=>?_)
      ·have hn:db l=none:=by
        have h58:=congrArg UInt64.toNat h58
        rw[hd,show(0:UInt64).toNat=0 from rfl] at h58
        rw[hrd,hdr,gS (by omega),if_pos (Or.inr ⟨by omega,by omega⟩)];rfl
       refine af (aa (ae Ll Ll (an cW Ll Ll (cX hr) ?_)))
       rintro v60 w60 ⟨rfl,hr2,gg⟩
       have m60:=dS.kp hr gg
       refine ac Ll Ll (ac Ll Ll (ag (ab (av (au (au (aV (au (au (aV (au (aM Ll Ll Ll ?_))))))))))))
       exact⟨_,rfl,gg,by rw[hn];exact⟨rfl,ci.rfB hr2 b⟩⟩
      ·refine ar ?_
       exact cz () ⟨rfl,rfl,rfl,trivial⟩ ⟨rfl,fun hh=>by
        first
        |omega
        |exact h58 (by rw[UInt8.toNat_inj.1 (show l[i].toNat=(0:UInt8).toNat from hh.2)];rfl)⟩
     ·refine ao Ll Ll Ll (ao Ll Ll Ll (aC Ll Ll Ll (ag (ab (cp Ll (ar ?_))))))
      exact cz () ⟨rfl,rfl,rfl,trivial⟩ ⟨rfl,fun hh=>by
       first
       |omega
       |exact h58 (by rw[UInt8.toNat_inj.1 (show l[i].toNat=(0:UInt8).toNat from hh.2)];rfl)⟩
    rintro⟨⟩ _ ⟨rfl,hz⟩
    refine ab (af (aa (ae Ll Ll (ae Ll Ll (aH Ll Ll (ah Ll Ll (aF (o:=0) KV Ll (by kernel_rfl) Ll) ?_))))))
    refine am Ll Ll (aj KQ Ll (k0.cell (i:=0) Ll)) (ae Ll Ll (ai (r:=I ((i+1:Nat):Int)) Ll Ll Ll (by have e:((i+1:Nat):Int)=(i:Int)+1:=(by omega);rw[e];exact aK (by omega) (by omega)) ?_))
    obtain⟨v68,p68,b68⟩:=fp b0w (lo:=i+1) (by omega) .i64
    refine cw Ll Ll Ll Ll Ll (p68 _) (aH Ll Ll (ah Ll Ll (aF (o:=0) KV Ll (by kernel_rfl) Ll) ?_))
    obtain⟨w3,hs3,q3,r3⟩:=n0.set (by have:=hrb;rw[hst] at this;exact this) b68 (tu (p68 w) lc)
    refine aq Ll Ll (hs3) (ag (ab (af (aa (ae Ll Ll (ac Ll Ll (ac Ll Ll (ag (ab (av (aV (au (au (aV (au (aM Ll Ll Ll ?_))))))))))))))))
    exact⟨_,rfl,q3,by
     rw[hrd,hdr,gS (by omega),if_neg (fun hh=>hh.elim (fun h=>by have:=h9 h.1;omega) hz),if_pos hc]
     rw[Nat.mod_eq_of_lt hc] at hab
     exact⟨by rw[Nat.add_comm,←hab,UInt64.ofNat_toNat];rfl,r3⟩⟩
   ·have hc:¬l[i].toNat<128:=fun hh=>h52 (UInt8.lt_iff_toNat_lt.2 hh)
    refine ar (aJ (ab (aa (ae Ll Ll (ai (r:=I ((i+1:Nat):Int)) Ll Ll Ll (by have e:((i+1:Nat):Int)=(i:Int)+1:=(by omega);rw[e];exact aK (by omega) (by omega)) ?_)))))
    refine ac Ll Ll (ag ?_)
    refine dA (i+1) (acc+(l[i]%128).toUInt64*mult) (mult*128) ⟨rfl,rfl,rfl,rfl,trivial⟩ ⟨rfl,by omega,by omega,fun hi9=>by
     rw[UInt64.toNat_mul,hm (by omega),show(128:UInt64).toNat=128 from rfl,←Nat.pow_succ]
     exact Nat.mod_eq_of_lt (Nat.lt_of_le_of_lt (Nat.pow_le_pow_right (by omega) hi9) (by decide)),by
     rw[hab,Nat.pow_succ]
     have:(l[i].toNat%128)*128^i≤127*128^i:=Nat.mul_le_mul_right _ (by omega)
     omega,by
     rw[hrd,hdr,gS (by omega),hab]
     by_cases hi9:i=9
     ·subst hi9
      rw[if_pos (Or.inl ⟨rfl,by omega⟩),show 10-(9+1)=0 by omega,vE,Option.map_none,Option.map_none]
     ·rw[if_neg (fun hh=>by omega),if_neg hc,Option.map_map]
      congr 1
      funext p
      simp only[Function.comp,Prod.mk.injEq,and_true]
      omega⟩ (by omega)
  ·refine aY (aB (aB (aX (ab (af (aa (ae Ll Ll (an cW Ll Ll (cX hr) ?_))))))))
   rintro v73 w73 ⟨rfl,hr2,gg⟩
   have m73:=dS.kp hr gg
   refine ac Ll Ll (ac Ll Ll (ag (ab (av (aM Ll Ll Ll ?_)))))
   exact⟨_,rfl,gg,by
    have hn:db l=none:=by
     rw[hrd]
     rcases Nat.lt_or_ge i 10 with h|h
     ·rw[List.drop_of_length_le (by omega),mH];rfl
     ·rw[show 10-i=0 by omega];rfl
    rw[hn];exact⟨rfl,ci.rfB hr2 b⟩⟩
 ·refine ao Ll Ll Ll (ao Ll Ll Ll (aC Ll Ll Ll (ag (ab (cp Ll (aY (aB (aB (aX (ab (af (aa (ae Ll Ll (an cW Ll Ll (cX hr) ?_))))))))))))))
  rintro v73 w73 ⟨rfl,hr2,gg⟩
  have m73:=dS.kp hr gg
  refine ac Ll Ll (ac Ll Ll (ag (ab (av (aM Ll Ll Ll ?_)))))
  exact⟨_,rfl,gg,by
   have hn:db l=none:=by
    rw[hrd]
    rcases Nat.lt_or_ge i 10 with h|h
    ·rw[List.drop_of_length_le (by omega),mH];rfl
    ·rw[show 10-i=0 by omega];rfl
   rw[hn];exact⟨rfl,ci.rfB hr2 b⟩⟩
section
variable {b w:World} {g:Nat}
theorem gY {st:Option (List UInt8)} (hr:n0 g st b w) (hk:Kp b w) (h:st.bind db=none):Calls Tryz.prog 25 #[.pointer (some ⟨g,0,none⟩)] w (bE fun r w'=>w.grownBy w' (some g)∧r=.tuple #[bj 0,I 5]∧n0 g none b w'):=by
 have:=rM hr hk
 rw[h] at this
 exact this
theorem i6 {st:Option (List UInt8)} {n:Nat} {t:List UInt8} (hr:n0 g st b w) (hk:Kp b w) (h:st.bind db=some (n,t)):Calls Tryz.prog 25 #[.pointer (some ⟨g,0,none⟩)] w (bE fun r w'=>w.grownBy w' (some g)∧r=.tuple #[bj (UInt64.ofNat n),I 0]∧n0 g (some t) b w'):=by
 have:=rM hr hk
 rw[h] at this
 exact this
end
def H9 (g:Nat) (b w:World) (o:Option (List UInt8×List UInt8)) (r:Value) (w':World):Prop:=
 w.grownBy w' (some g)∧match o with
  |some (a,t)=>∃v,r=.tuple #[v,I 0]∧cm a v w'∧n0 g (some t) b w'
  |none=>r=.tuple #[.slice none 0 0,I 5]∧n0 g none b w'
theorem pQ {b w:World} {g:Nat} {st:Option (List UInt8)} (hr:n0 g st b w) (hkb:Kp b w) (hl:∀l,st=some l→l.length≤549755813888):
 Calls Tryz.prog 82 #[.pointer (some ⟨g,0,none⟩)] w (bE (H9 g b w (st.bind yA))):=by
 refine enter (vs:=[.pointer (some ⟨g,0,none⟩)]) Tryz.func82 Ll Ll Ll ?_
 refine af (aa (ac Ll Ll (ac Ll Ll (ag (ab (af ?_))))))
 rcases hU:st.bind db with _|⟨n,t⟩
 ·refine aa (ae Ll Ll (an cI Ll Ll (gY hr hkb hU) ?_))
  rintro v9 w9 ⟨x9,rfl,hr1⟩
  have m9:=dS.kp (hr.at_ hkb) x9
  refine ae Ll Ll (ak Ll Ll (aT) (ak Ll Ll (aU) (ac Ll Ll (ac Ll Ll (ag (ab (af (af (aa (ae Ll Ll (ai Ll Ll Ll (cg (by decide) bL) ?_)))))))))))
  refine ag (ab (bB Ll (af (aa (ae Ll Ll (ac Ll Ll (ac Ll Ll (ag (ab (av (au (aM Ll Ll Ll ?_))))))))))))
  exact⟨_,rfl,x9,by rw[Jq hU];exact⟨rfl,hr1⟩⟩
 ·obtain⟨ht,hn⟩:=pA hU hl
  refine aa (ae Ll Ll (an cI Ll Ll (i6 hr hkb hU) ?_))
  rintro v9 w9 ⟨x9,rfl,hr1⟩
  have m9:=dS.kp (hr.at_ hkb) x9
  refine ae Ll Ll (ak Ll Ll (aT) (ak Ll Ll (aU) ?_))
  obtain⟨A,n',c,k,b1,lc⟩:=id hr1
  have b0:cm t (.slice A n' c) b:=b1
  have b1:=b0.kp (hkb.trans m9)
  have hgb:g<w9.heap.size:=ci.lt (hr1.at_ (hkb.trans m9))
  refine ac Ll Ll (ac Ll Ll (ag (ab (af (af (aa (ae Ll Ll (ai Ll Ll Ll (cf (by decide) bL) (ag (ab (cp Ll (ar (ab ?_)))))))))))))
  refine af (af (aa (ae Ll Ll (ae Ll Ll (aH Ll Ll (ah Ll Ll (aF (o:=0) KV Ll (by kernel_rfl) Ll) ?_))))))
  refine am Ll Ll (aj KQ Ll (k.cell (i:=0) Ll)) (aQ Ll Ll (bC b1) (aR Ll Ll (cN KO KN) ?_))
  refine ai Ll Ll Ll (cu) (ag (ab ?_))
  refine bi Ll (fun h22=>?_) (fun h22=>?_)
  ·have hlong:t.length<n:=(iu hn (by omega)).1 h22
   refine af (aa (ae Ll Ll (an cW Ll Ll (cX (hr1.at_ (hkb.trans m9))) ?_)))
   rintro v24 w24 ⟨rfl,hr2,g24⟩
   have m24:=dS.kp (hr1.at_ (hkb.trans m9)) g24
   refine ac Ll Ll (ac Ll Ll (ag (ab (av (au (aM Ll Ll Ll ?_))))))
   exact⟨_,rfl,x9.trans g24,by rw[Gf hU,if_neg (by omega)];exact⟨rfl,ci.rfB hr2 b⟩⟩
  ·have hle:n≤t.length:=Nat.le_of_not_lt (mt (iu hn (by omega)).2 h22)
   have hnn:(UInt64.ofNat n).toNat=n:=by rw[UInt64.toNat_ofNat'];omega
   refine ar (ab (af (aa ?_)))
   obtain⟨v25,w25,hr25,x25,o25,ob25⟩:=fE (w:=w9) w9.heap.size [] (by simp) (Nat.le_refl _)
   refine aO (vs:=[]) Ll Ll hr25 (ae Ll Ll (aH Ll Ll (ah Ll Ll (aF (o:=0) KV Ll (by kernel_rfl) Ll) ?_)))
   refine am Ll Ll (aj KQ Ll (x25.cell_some (k.cell (i:=0) Ll))) (ae Ll Ll ?_)
   obtain⟨v31,p31,b31⟩:=ie (b1.ext x25) (hi:=(UInt64.ofNat n).toNat) (by omega) .u64
   rw[hnn] at b31
   refine cw (b:=some (bj (UInt64.ofNat n))) Ll Ll Ll Ll Ll (p31 _) ?_
   obtain⟨v32,w32,hr32,o32,g32⟩:=dn (ty:=28) o25 b31 (by simp;omega) (x25).size
   have x32:=aI.of_grew (x25) g32 o25.ge
   refine bc Ll Ll hr32 (ac Ll Ll (ag (ab (af (aa (ae Ll Ll (ae Ll Ll (aH Ll Ll (ah Ll Ll (aF (o:=0) KV Ll (by kernel_rfl) Ll) ?_)))))))))
   refine am Ll Ll (aj KQ Ll (x32.cell_some (k.cell (i:=0) Ll))) (ae Ll Ll ?_)
   obtain⟨v39,p39,b39⟩:=fp b0 (lo:=(UInt64.ofNat n).toNat) (by omega) .u64
   rw[hnn] at b39
   refine cw (a:=some (bj (UInt64.ofNat n))) Ll Ll Ll Ll Ll (p39 _) ?_
   have hr1':=n0.ext hr1 x32
   have hvb:cm (t.take n) v32 w32:=by simpa using(o32).bts
   refine aH Ll Ll (ah Ll Ll (aF (o:=0) KV Ll (by kernel_rfl) Ll) ?_)
   obtain⟨w3,hs3,q3,r3⟩:=n0.set hr1' b39 (tu (p39 w) lc)
   refine aq Ll Ll (hs3) ?_
   have gg:=(x9.trans (dq x32)).trans q3
   refine ag (ab (af (aa (ae Ll Ll (ac Ll Ll (ac Ll Ll (ag (ab (av (aM Ll Ll Ll ?_))))))))))
   exact⟨_,rfl,gg,by rw[Gf hU,if_pos hle];exact⟨_,rfl,hvb.kp (dS.kp (hr1'.at_ ((hkb.trans m9).trans (Kp.of_ext x32))) q3),r3⟩⟩
section
variable {b w:World} {g:Nat}
theorem yg {st:Option (List UInt8)} (hr:n0 g st b w) (hk:Kp b w) (hl:∀l,st=some l→l.length≤549755813888) (h:st.bind yA=none):Calls Tryz.prog 82 #[.pointer (some ⟨g,0,none⟩)] w (bE fun r w'=>w.grownBy w' (some g)∧r=.tuple #[.slice none 0 0,I 5]∧n0 g none b w'):=by
 have:=pQ hr hk hl
 rw[h] at this
 exact this
theorem yh {st:Option (List UInt8)} {a t:List UInt8} (hr:n0 g st b w) (hk:Kp b w) (hl:∀l,st=some l→l.length≤549755813888) (h:st.bind yA=some (a,t)):Calls Tryz.prog 82 #[.pointer (some ⟨g,0,none⟩)] w (bE fun r w'=>w.grownBy w' (some g)∧∃v,r=.tuple #[v,I 0]∧cm a v w'∧n0 g (some t) b w'):=by
 have:=pQ hr hk hl
 rw[h] at this
 exact this
end
end Go.Rl
namespace Go.Rl
open Go.RowKit Go.Proofs
theorem EC:ay Tryz.prog 56:=⟨_,Tryz.func56,by kernel_rfl,rfl⟩
def oS (l:List UInt8) (max:Int) (f:List UInt8→Nat→Option (List UInt8)) (r:Value) (w':World):Prop:=
 if max<0 then r=.tuple #[.slice none 0 0,I 8]
 else match db l with
  |none=>r=.tuple #[.slice none 0 0,I 5]
  |some (n,t)=>if max<(n:Int) then r=.tuple #[.slice none 0 0,I 8] else match f t n with
   |some out=>∃v,r=.tuple #[v,I 0]∧cm out v w'
   |none=>r=.tuple #[.slice none 0 0,I 5]
theorem z4 {l t O r:List UInt8} {n:Nat} (h:uQ n (n+1) t []=some (O,r)):vr l t n=if r=[]∧bS O=l then some O else none:=by
 unfold vr;rw[h];rfl
section
variable {l t:List UInt8} {max:Int} {n:Nat} {f:List UInt8→Nat→Option (List UInt8)} {w:World}
theorem nK (hM:0≤max) (hU:db l=some (n,t)) (hn:(n:Int)≤max) (h:f t n=none):oS l max f (.tuple #[.slice none 0 0,I 5]) w:=by
 unfold oS
 rw[if_neg (by omega),hU]
 show(if max<(n:Int) then _ else _)
 rw[if_neg (by omega),h]
theorem uh {out:List UInt8} {v:Value} (hM:0≤max) (hU:db l=some (n,t)) (hn:(n:Int)≤max) (h:f t n=some out) (hv:cm out v w):oS l max f (.tuple #[v,I 0]) w:=by
 unfold oS
 rw[if_neg (by omega),hU]
 show(if max<(n:Int) then _ else _)
 rw[if_neg (by omega),h]
 exact⟨v,rfl,hv⟩
end
theorem Kt {total f:Nat} {l O:List UInt8} (h:O.length<total) (hB:yA l=none):uQ total (f+1) l O=none:=by
 rw[uQ,if_pos h,hB];rfl
theorem Ku {total f:Nat} {l O a t:List UInt8} (h:O.length<total) (hB:yA l=some (a,t)):uQ total (f+1) l O=
 if (O++a).length<total then
  (db t).bind fun q=>(db q.2).bind fun r=>
    if total≤q.1∨(O++a).length≤r.1 then none
    else uQ total f r.2 (AC (r.1+1) (min (q.1+4) (total-(O++a).length)) (O++a))
 else some (O++a,t):=by
 rw[uQ,if_pos h,hB];rfl
theorem IW {total f:Nat} {l O:List UInt8} (h:¬O.length<total):uQ total (f+1) l O=some (O,l):=by
 rw[uQ,if_neg h]
theorem jK {l t:List UInt8} {n:Nat} (h:db l=some (n,t)):t.length≤l.length:=by
 obtain⟨h1,_⟩:=ee h
 rw[h1,List.length_append];omega
theorem GX {l a t:List UInt8} (h:yA l=some (a,t)):a.length+t.length≤l.length:=by
 unfold yA at h
 cases hU:db l with
 |none=>rw[hU] at h;cases h
 |some p=>
  obtain⟨n,u⟩:=p
  rw[hU] at h
  have h:(if n≤u.length then some (u.take n,u.drop n) else none)=some (a,t):=h
  have:=jK hU
  split at h
  ·simp only[Option.some.injEq,Prod.mk.injEq] at h
   rw[←h.1,←h.2,List.length_take,List.length_drop]
   omega
  ·cases h
theorem Kv {q:Nat} (_:q<4294967297):UInt64.ofNat q+4=UInt64.ofNat (q+4):=by
 apply UInt64.toNat_inj.1
 rw[UInt64.toNat_add,UInt64.toNat_ofNat',UInt64.toNat_ofNat',show(4:UInt64).toNat=4 from rfl]
 omega
theorem JE {k:Nat} (_:k<4294967306):UInt64.ofNat k+1=UInt64.ofNat (k+1):=by
 apply UInt64.toNat_inj.1
 rw[UInt64.toNat_add,UInt64.toNat_ofNat',UInt64.toNat_ofNat',show(1:UInt64).toNat=1 from rfl]
 omega
theorem ED {w:World} {l:List UInt8} {v:Value} {max:Int} (hv:cm l v w) (hl:l.length≤4294967296) (h1: -9223372036854775808≤max) (h2:max≤4294967296):
 Calls Tryz.prog 56 #[v,I max] w (bE fun r w'=>aI w w'∧oS l max (vr l) r w'):=by
 refine enter (vs:=[v,I max]) Tryz.func56 Ll Ll Ll ?_
 refine af (aa (ac Ll Ll (ac Ll Ll (ag (ab (af (aa (ae Ll Ll (an vC Ll Ll ((vD hv (by omega))) ?_)))))))))
 rintro v15 w15 ⟨x15,g,lg,rfl,rr⟩
 have hgb:g<w15.heap.size:=ci.lt rr
 have rb:n0 g (some l) w15 w15:=rr
 have kr:∀{w':World},w15.grownBy w' (some g)→Kp w15 w':=fun h=>dS.kp rr h
 refine ac Ll Ll (ag (ab (af ?_)))
 have h4:(max<0∧db l=none)∨(max<0∧∃n t,db l=some (n,t))∨(∃M:Nat,max=(M:Int)∧db l=none)∨(∃M:Nat,max=(M:Int)∧∃n t,db l=some (n,t)):=by
  have hM:0≤max→∃M:Nat,max=(M:Int):=fun h=>⟨max.toNat,by omega⟩
  cases hU:db l with
  |none=>
   rcases Int.lt_or_le max 0 with hm|hm
   ·exact .inl ⟨hm,rfl⟩
   ·obtain⟨M,hM⟩:=hM hm
    exact .inr (.inr (.inl ⟨M,hM,rfl⟩))
  |some p=>
   rcases Int.lt_or_le max 0 with hm|hm
   ·exact .inr (.inl ⟨hm,p.1,p.2,rfl⟩)
   ·obtain⟨M,hM⟩:=hM hm
    exact .inr (.inr (.inr ⟨M,hM,p.1,p.2,rfl⟩))
 rcases h4 with⟨hm,hU⟩|⟨hm,n,t,hU⟩|⟨M,rfl,hU⟩|⟨M,rfl,n,t,hU⟩
 ·refine aa (ae Ll Ll (an cI Ll Ll ((gY rb (Kp.refl _) hU)) ?_))
  rintro v18 w18 ⟨g18,rfl,r1⟩
  have x18:=(x15.of_new g18 lg)
  refine ae Ll Ll (ak Ll Ll (aT) (ak Ll Ll (aU) (ac Ll Ll (ac Ll Ll (ag (ab (af (af (aa (ae Ll Ll (ai Ll Ll Ll (cg (by omega) aW) ?_)))))))))))
  refine ae Ll Ll (ao Ll Ll Ll (ao Ll Ll Ll (ao Ll Ll Ll (cS Ll Ll Ll (cS Ll Ll Ll (cS Ll Ll Ll (cS Ll Ll Ll (ao Ll Ll Ll ?_))))))))
  refine aw Ll Ll Ll (ag (ab (bB Ll (af (aa (ac Ll Ll (ac Ll Ll (ag (ab (av (au (aM Ll Ll Ll ?_))))))))))))
  exact⟨_,rfl,x18,by unfold oS;rw[if_pos hm];rfl⟩
 ·refine aa (ae Ll Ll (an cI Ll Ll ((i6 rb (Kp.refl _) hU)) ?_))
  rintro v18 w18 ⟨g18,rfl,r1⟩
  have x18:=(x15.of_new g18 lg)
  refine ae Ll Ll (ak Ll Ll (aT) (ak Ll Ll (aU) (ac Ll Ll (ac Ll Ll (ag (ab (af (af (aa (ae Ll Ll (ai Ll Ll Ll (cg (by omega) aW) ?_)))))))))))
  refine ae Ll Ll (ao Ll Ll Ll (ao Ll Ll Ll (ao Ll Ll Ll (cS Ll Ll Ll (cS Ll Ll Ll (cS Ll Ll Ll (cS Ll Ll Ll (ao Ll Ll Ll ?_))))))))
  refine aw Ll Ll Ll (ag (ab (bB Ll (af (aa (ac Ll Ll (ac Ll Ll (ag (ab (av (au (aM Ll Ll Ll ?_))))))))))))
  exact⟨_,rfl,x18,by unfold oS;rw[if_pos hm];rfl⟩
 ·refine aa (ae Ll Ll (an cI Ll Ll ((gY rb (Kp.refl _) hU)) ?_))
  rintro v18 w18 ⟨g18,rfl,r1⟩
  have x18:=(x15.of_new g18 lg)
  refine ae Ll Ll (ak Ll Ll (aT) (ak Ll Ll (aU) (ac Ll Ll (ac Ll Ll (ag (ab (af (af (aa (ae Ll Ll (ai Ll Ll Ll (cf (by omega) aW) ?_)))))))))))
  refine ae Ll Ll (al Ll (ae Ll Ll (al Ll (ai Ll Ll Ll (cf (by decide) aZ) (al Ll (ae Ll Ll (ao Ll Ll Ll (ao Ll Ll Ll (ao Ll Ll Ll ?_)))))))))
  refine ao Ll Ll Ll (al Ll (aC Ll Ll Ll (aC Ll Ll Ll (ag (ab (cp Ll (ar (ab (af (aa (ac Ll Ll (ag (ab (af (ax ?_)))))))))))))))
  refine bZ (α:=Unit) (fun _=>[(6,.pointer (some ⟨g,0,none⟩)),(0,v),(7,bj 0),(8,I 5),(9,.slice none 0 0)]) (fun _ w'=>w18=w') (fun _=>0) (()) ⟨rfl,rfl,rfl,rfl,rfl,trivial⟩ Ll ?_
  rintro⟨⟩ _ rfl
  refine af (af (aa (ae Ll Ll (ai Ll Ll Ll (cf (by decide) aZ) (ae Ll Ll (ao Ll Ll Ll (ao Ll Ll Ll (ao Ll Ll Ll (ao Ll Ll Ll ?_)))))))))
  refine ao Ll Ll Ll (aC Ll Ll Ll (ag (ab (cp Ll (aY (aB (aB (aX (ab (af (af (bz 14 [9,119,125] (by kernel_rfl) (by kernel_rfl) ?_))))))))))))
  refine ap Ll Ll (aS Ll Ll Ll (fun w _=>cg (by decide) bL) (ap Ll Ll (cD Ll Ll Ll (cD Ll Ll Ll (cD Ll Ll Ll (sM Ll Ll Ll ?_))))))
  refine ap Ll Ll (cD Ll Ll Ll (cD Ll Ll Ll (cD Ll Ll Ll (cD Ll Ll Ll (cD Ll Ll Ll (cD Ll Ll Ll (bF ?_)))))))
  intro wg20 xg20
  rintro _ rfl
  rintro _ rfl
  rintro _ rfl
  refine aw Ll Ll Ll (ag (ab (bB Ll (af (aa (ac Ll Ll (ac Ll Ll (ag (ab (av (au (aM Ll Ll Ll ?_))))))))))))
  exact⟨_,rfl,(x18.trans xg20),by
   unfold oS
   rw[if_neg (by omega),hU];rfl⟩
 ·refine aa (ae Ll Ll (an cI Ll Ll ((i6 rb (Kp.refl _) hU)) ?_))
  rintro v18 w18 ⟨g18,rfl,r1⟩
  have x18:=(x15.of_new g18 lg)
  refine ae Ll Ll (ak Ll Ll (aT) (ak Ll Ll (aU) (ac Ll Ll (ac Ll Ll (ag (ab (af (af ?_))))))))
  obtain⟨hU1,hU2⟩:=ee hU
  have htl:=jK hU
  by_cases h30:UInt64.ofNat n>UInt64.ofNat M
  ·refine aa (ae Ll Ll (ai Ll Ll Ll (cf (by omega) aW) (ae Ll Ll (al Ll (ae Ll Ll (al Ll (ai Ll Ll Ll (cg (by decide) aZ) ?_)))))))
   refine al Ll (ae Ll Ll (al Ll (ae Ll Ll (al Ll (ae Ll Ll (al Ll (aR Ll Ll (cN KO KN) ?_)))))))
   refine al Ll (ai Ll Ll Ll (cg h30 cu) (al Ll (aw Ll Ll Ll (aC Ll Ll Ll (ag (ab (bB Ll (af (aa (ac Ll Ll (ac Ll Ll ?_)))))))))))
   refine ag (ab (av (au (aM Ll Ll Ll ?_))))
   exact⟨_,rfl,x18,by
    have:=(iu hU2 (by omega)).1 h30
    unfold oS
    rw[if_neg (by omega),hU]
    show(if (M:Int)<(n:Int) then _ else _)
    rw[if_pos (by omega)];rfl⟩
  ·refine aa (ae Ll Ll (ai Ll Ll Ll (cf (by omega) aW) (ae Ll Ll (al Ll (ae Ll Ll (al Ll (ai Ll Ll Ll (cg (by decide) aZ) ?_)))))))
   refine al Ll (ae Ll Ll (al Ll (ae Ll Ll (al Ll (ae Ll Ll (al Ll (aR Ll Ll (cN KO KN) ?_)))))))
   refine al Ll (ai Ll Ll Ll (cf h30 cu) (al Ll (aw Ll Ll Ll (aC Ll Ll Ll (ag (ab (cp Ll (ar (ab (af ?_))))))))))
   have hnM:n≤M:=Nat.le_of_not_lt (mt (iu hU2 (by omega)).2 h30)
   refine aa (ac Ll Ll (ag (ab (af (ax ?_)))))
   refine si (fun(e0:Int) (f:Nat) (r:List UInt8) (O:List UInt8) (vo:Value)=>[(6,.pointer (some ⟨g,0,none⟩)),(0,v),(7,bj (UInt64.ofNat n)),(8,I e0),(9,vo)]) (fun(e0:Int) (f:Nat) (r:List UInt8) (O:List UInt8) (vo:Value) w'=>aI w w'∧w15.grownBy w' (some g)∧((e0=0∧n0 g (some r) w15 w'∧cG w15.heap.size O vo w'∧r.length≤l.length∧O.length≤n+l.length∧0<f∧n<f+O.length∧uQ n (n+1) t []=uQ n f r O)∨(e0=5∧uQ n (n+1) t []=none))) (fun(e0:Int) (f:Nat) (r:List UInt8) (O:List UInt8) (vo:Value)=>if e0=0 then n+1-O.length else 0) (0) (n+1) (t) ([]) (.slice none 0 0) ⟨rfl,rfl,rfl,rfl,rfl,trivial⟩ ⟨x18,g18,.inl ⟨rfl,r1,cG.nil _ _,htl,by simp,by omega,by simp,rfl⟩⟩ ?_
   rintro e0 f r O vo w6 ⟨e6,hg6,hst⟩
   refine af (af ?_)
   rcases hst with⟨he0,r6,oO,hrl,hOl,hf0,hfO,hun⟩|⟨he0,hun⟩
   ·obtain rfl:0=e0:=he0.symm
    obtain⟨f,rfl⟩:∃f',f=f'+1:=⟨f-1,by omega⟩
    have bO:=oO.bts
    refine aa (ae Ll Ll (ai Ll Ll Ll (cg (by decide) aZ) (ae Ll Ll (al Ll (ae Ll Ll (al Ll (aQ Ll Ll (bC bO) (al Ll (aR Ll Ll (cN KO KN) ?_)))))))))
    refine al Ll (ae Ll Ll (al Ll (ai Ll Ll Ll (dy) (aw Ll Ll Ll (ag (ab ?_))))))
    refine bi Ll (fun h41=>?_) (fun h41=>?_)
    ·refine ar (ab (ax (af (aa (ac Ll Ll (ag (ab (af ?_))))))))
     have hlt:O.length<n:=(jJ (by omega) hU2).1 h41
     rcases hB:yA r with _|⟨a,t2⟩
     ·refine aa (ae rfl rfl (an rA rfl rfl ((yg r6 (kr hg6) (by rintro _ ⟨⟩;omega) hB)) ?_))
      rintro v44 w44 ⟨g44,rfl,r44⟩
      have x44:=(x15.of_new (hg6.trans g44) lg)
      refine ae Ll Ll (ak Ll Ll (aT) (ak Ll Ll (aU) (ac Ll Ll (ac Ll Ll (ag (ab (af (aa (ae Ll Ll (ae Ll Ll ?_))))))))))
      obtain⟨v49,w49,hr49,o49,g49⟩:=dn (ty:=28) (oO.kept g44 (.inr (oO.off hgb))) (cm.nil w44) (by simp;omega) (Nat.le_trans hg6.size g44.size)
      have hg49:=xB (hg6.trans g44) g49.grown (fun k hk=>oO.ge k hk)
      have x49:=x15.of_new hg49 lg
      refine bc Ll Ll hr49 ?_
      refine ac Ll Ll (ag (ab (af (aa (ae Ll Ll (ai Ll Ll Ll (cf (by decide) aZ) (ae Ll Ll (ao Ll Ll Ll (ao Ll Ll Ll (ao Ll Ll Ll ?_))))))))))
      refine ao Ll Ll Ll (ao Ll Ll Ll (aC Ll Ll Ll (ag (ab (cp Ll (ar (aJ ?_)))))))
      refine fT (5) (0) ([]) ([]) (v49) ⟨rfl,rfl,rfl,rfl,rfl,trivial⟩ ⟨x49,hg49,.inr ⟨rfl,by rw[hun];exact Kt hlt hB⟩⟩ (by simp;omega)
     ·have hab:=GX hB
      refine aa (ae rfl rfl (an rA rfl rfl ((yh r6 (kr hg6) (by rintro _ ⟨⟩;omega) hB)) ?_))
      rintro v44 w44 ⟨g44,va,rfl,ha,r44⟩
      have x44:=(x15.of_new (hg6.trans g44) lg)
      refine ae Ll Ll (ak Ll Ll (aT) (ak Ll Ll (aU) (ac Ll Ll (ac Ll Ll (ag (ab (af (aa (ae Ll Ll (ae Ll Ll ?_))))))))))
      obtain⟨v49,w49,hr49,o49,g49⟩:=dn (ty:=28) (oO.kept g44 (.inr (oO.off hgb))) ha (by omega) (Nat.le_trans hg6.size g44.size)
      have hg49:=xB (hg6.trans g44) g49.grown (fun k hk=>oO.ge k hk)
      have x49:=x15.of_new hg49 lg
      refine bc Ll Ll hr49 ?_
      have r49:=r44.other g49.grown (oO.off hgb)
      obtain⟨O1,hO1⟩:∃O1,O1=O++a:=⟨_,rfl⟩
      have hOl1:O1.length=O.length+a.length:=by rw[hO1,List.length_append]
      have hstep:=Ku (f:=f) hlt hB
      rw[←hO1] at o49 hstep
      have b49:=o49.bts
      refine ac Ll Ll (ag (ab (af (aa (ae Ll Ll (ai Ll Ll Ll (cg (by decide) aZ) (ae Ll Ll (al Ll (ae Ll Ll (al Ll (aQ Ll Ll (bC b49) ?_)))))))))))
      refine al Ll (aR Ll Ll (cN KO KN) (al Ll (ae Ll Ll (al Ll (ai Ll Ll Ll (dy) (aw Ll Ll Ll ?_))))))
      refine ag (ab ?_)
      refine bi Ll (fun h58=>?_) (fun h58=>?_)
      ·have hlt1:O1.length<n:=(jJ (by omega) hU2).1 h58
       rw[if_pos hlt1] at hstep
       refine af (aa (ac Ll Ll (ac Ll Ll (ag (ab (af ?_))))))
       rcases hM:db t2 with _|⟨m,t3⟩
       ·refine aa (ae Ll Ll (an cI Ll Ll ((gY r49 (kr hg49) hM)) ?_))
        rintro v61 w61 ⟨g61,rfl,r61⟩
        have x61:=(x15.of_new (hg49.trans g61) lg)
        refine ae Ll Ll (ak Ll Ll (aT) (ak Ll Ll (aU) (ac Ll Ll (ag (ab (af (aa (ae Ll Ll (an cI Ll Ll ((gY r61 (kr (hg49.trans g61)) Ll)) ?_)))))))))
        rintro v66 w66 ⟨g66,rfl,r66⟩
        have x66:=(x15.of_new ((hg49.trans g61).trans g66) lg)
        refine ae Ll Ll (ak Ll Ll (aT) (ak Ll Ll (aU) (ac Ll Ll (ac Ll Ll (ag (ab (af (af (aa (ae Ll Ll (ai Ll Ll Ll (cf (by decide) aZ) ?_)))))))))))
        refine ae Ll Ll (ao Ll Ll Ll (ao Ll Ll Ll (ao Ll Ll Ll (ao Ll Ll Ll (cS Ll Ll Ll (cS Ll Ll Ll (cS Ll Ll Ll (cS Ll Ll Ll ?_))))))))
        refine cS Ll Ll Ll (ao Ll Ll Ll (aC Ll Ll Ll (ag (ab (cp Ll (ar (ab (af (aa (ac Ll Ll (ag (ab (ax ?_)))))))))))))
        refine bZ (α:=Unit) (fun _=>[(6,.pointer (some ⟨g,0,none⟩)),(0,v),(7,bj (UInt64.ofNat n)),(8,I 5),(9,v49)]) (fun _ w'=>w66=w') (fun _=>0) (()) ⟨rfl,rfl,rfl,rfl,rfl,trivial⟩ Ll ?_
        rintro⟨⟩ _ rfl
        refine af (af (aa (ae Ll Ll (ai Ll Ll Ll (cf (by decide) aZ) (ae Ll Ll (ao Ll Ll Ll (ao Ll Ll Ll (ao Ll Ll Ll (ao Ll Ll Ll ?_)))))))))
        refine aC Ll Ll Ll (ae Ll Ll (ao Ll Ll Ll (ao Ll Ll Ll (ao Ll Ll Ll (ao Ll Ll Ll (ao Ll Ll Ll (aC Ll Ll Ll (ag (ab (cp Ll ?_))))))))))
        refine aY (aB (aB (aX (aJ ?_))))
        refine fT (5) (0) ([]) ([]) (v49) ⟨rfl,rfl,rfl,rfl,rfl,trivial⟩ ⟨x66,(hg49.trans g61).trans g66,.inr ⟨rfl,by rw[hun,hstep,hM];rfl⟩⟩ (by simp;omega)
       ·obtain⟨hM1,hM2⟩:=ee hM
        refine aa (ae Ll Ll (an cI Ll Ll ((i6 r49 (kr hg49) hM)) ?_))
        rintro v61 w61 ⟨g61,rfl,r61⟩
        have x61:=(x15.of_new (hg49.trans g61) lg)
        refine ae Ll Ll (ak Ll Ll (aT) (ak Ll Ll (aU) (ac Ll Ll (ag (ab (af ?_))))))
        rcases hK:db t3 with _|⟨k,t4⟩
        ·refine aa (ae Ll Ll (an cI Ll Ll ((gY r61 (kr (hg49.trans g61)) hK)) ?_))
         rintro v66 w66 ⟨g66,rfl,r66⟩
         have x66:=(x15.of_new ((hg49.trans g61).trans g66) lg)
         refine ae Ll Ll (ak Ll Ll (aT) (ak Ll Ll (aU) (ac Ll Ll (ac Ll Ll (ag (ab (af (af (aa (ae Ll Ll (ai Ll Ll Ll (cf (by decide) aZ) ?_)))))))))))
         refine ae Ll Ll (ao Ll Ll Ll (ao Ll Ll Ll (ao Ll Ll Ll (ao Ll Ll Ll (cS Ll Ll Ll (cS Ll Ll Ll (cS Ll Ll Ll (cS Ll Ll Ll ?_))))))))
         refine cS Ll Ll Ll (ao Ll Ll Ll (aC Ll Ll Ll (ag (ab (cp Ll (ar (ab (af (aa (ac Ll Ll (ag (ab (ax ?_)))))))))))))
         refine bZ (α:=Unit) (fun _=>[(6,.pointer (some ⟨g,0,none⟩)),(0,v),(7,bj (UInt64.ofNat n)),(8,I 5),(9,v49)]) (fun _ w'=>w66=w') (fun _=>0) (()) ⟨rfl,rfl,rfl,rfl,rfl,trivial⟩ Ll ?_
         rintro⟨⟩ _ rfl
         refine af (af (aa (ae Ll Ll (ai Ll Ll Ll (cf (by decide) aZ) (ae Ll Ll (ao Ll Ll Ll (ao Ll Ll Ll (ao Ll Ll Ll (ao Ll Ll Ll ?_)))))))))
         refine aC Ll Ll Ll (ae Ll Ll (ao Ll Ll Ll (ao Ll Ll Ll (ao Ll Ll Ll (ao Ll Ll Ll (ao Ll Ll Ll (aC Ll Ll Ll (ag (ab (cp Ll ?_))))))))))
         refine aY (aB (aB (aX (aJ ?_))))
         refine fT (5) (0) ([]) ([]) (v49) ⟨rfl,rfl,rfl,rfl,rfl,trivial⟩ ⟨x66,(hg49.trans g61).trans g66,.inr ⟨rfl,by
          rw[hun,hstep,hM]
          simp only[Option.bind_some]
          rw[hK];rfl⟩⟩ (by simp;omega)
        ·obtain⟨hK1,hK2⟩:=ee hK
         refine aa (ae Ll Ll (an cI Ll Ll ((i6 r61 (kr (hg49.trans g61)) hK)) ?_))
         rintro v66 w66 ⟨g66,rfl,r66⟩
         have x66:=(x15.of_new ((hg49.trans g61).trans g66) lg)
         refine ae Ll Ll (ak Ll Ll (aT) (ak Ll Ll (aU) ?_))
         have hg66:=(hg49.trans g61).trans g66
         have o66:=(o49.kept g61 (.inr (o49.off hgb))).kept g66 (.inr (o49.off hgb))
         have b66:=o66.bts
         refine ac Ll Ll (ac Ll Ll (ag (ab (af (af (aa (ae Ll Ll (ai Ll Ll Ll (cg (by decide) aZ) (ae Ll Ll (al Ll (ae Ll Ll ?_)))))))))))
         refine al Ll (ae Ll Ll (al Ll (ai Ll Ll Ll (fJ) (al Ll (ae Ll Ll ?_)))))
         refine cO (fun h75=>?_) (fun h75=>?_)
         ·refine ao Ll Ll Ll (ao Ll Ll Ll (ao Ll Ll Ll (ao Ll Ll Ll (ao Ll Ll Ll (al Ll (aw Ll Ll Ll (aw Ll Ll Ll (ag (ab (bB Ll (aa ?_)))))))))))
          refine ac Ll Ll (ag (ab (af (aa (ac Ll Ll (ag (ab (ax ?_))))))))
          refine bZ (α:=Unit) (fun _=>[(6,.pointer (some ⟨g,0,none⟩)),(0,v),(7,bj (UInt64.ofNat n)),(8,I 5),(9,v49)]) (fun _ w'=>w66=w') (fun _=>0) (()) ⟨rfl,rfl,rfl,rfl,rfl,trivial⟩ Ll ?_
          rintro⟨⟩ _ rfl
          refine af (af (aa (ae Ll Ll (ai Ll Ll Ll (cf (by decide) aZ) (ae Ll Ll (ao Ll Ll Ll (ao Ll Ll Ll (ao Ll Ll Ll (ao Ll Ll Ll ?_)))))))))
          refine aC Ll Ll Ll (ae Ll Ll (ao Ll Ll Ll (ao Ll Ll Ll (ao Ll Ll Ll (ao Ll Ll Ll (ao Ll Ll Ll (aC Ll Ll Ll (ag (ab (cp Ll ?_))))))))))
          refine aY (aB (aB (aX (aJ ?_))))
          refine fT (5) (0) ([]) ([]) (v49) ⟨rfl,rfl,rfl,rfl,rfl,trivial⟩ ⟨x66,hg66,.inr ⟨rfl,by
           rw[hun,hstep,hM]
           simp only[Option.bind_some]
           rw[hK]
           simp only[Option.bind_some]
           rw[if_pos (by
            first
            |exact .inl ((mp hM2 hU2).1 h75)
            |exact .inr ((mp hK2 (by omega)).1 h82))]⟩⟩ (by simp;omega)
         ·refine al Ll (ae Ll Ll (al Ll (ae Ll Ll (al Ll (aQ Ll Ll (bC b66) (al Ll (aR Ll Ll (cN KO KN) ?_)))))))
          refine al Ll (ai Ll Ll Ll (fJ) (al Ll (aC Ll Ll Ll (aw Ll Ll Ll (ag (ab ?_))))))
          refine bi Ll (fun h82=>?_) (fun h82=>?_)
          ·refine aa (ac Ll Ll (ag (ab (af (aa (ac Ll Ll (ag (ab (ax ?_)))))))))
           refine bZ (α:=Unit) (fun _=>[(6,.pointer (some ⟨g,0,none⟩)),(0,v),(7,bj (UInt64.ofNat n)),(8,I 5),(9,v49)]) (fun _ w'=>w66=w') (fun _=>0) (()) ⟨rfl,rfl,rfl,rfl,rfl,trivial⟩ Ll ?_
           rintro⟨⟩ _ rfl
           refine af (af (aa (ae Ll Ll (ai Ll Ll Ll (cf (by decide) aZ) (ae Ll Ll (ao Ll Ll Ll (ao Ll Ll Ll (ao Ll Ll Ll (ao Ll Ll Ll ?_)))))))))
           refine aC Ll Ll Ll (ae Ll Ll (ao Ll Ll Ll (ao Ll Ll Ll (ao Ll Ll Ll (ao Ll Ll Ll (ao Ll Ll Ll (aC Ll Ll Ll (ag (ab (cp Ll ?_))))))))))
           refine aY (aB (aB (aX (aJ ?_))))
           refine fT (5) (0) ([]) ([]) (v49) ⟨rfl,rfl,rfl,rfl,rfl,trivial⟩ ⟨x66,hg66,.inr ⟨rfl,by
            rw[hun,hstep,hM]
            simp only[Option.bind_some]
            rw[hK]
            simp only[Option.bind_some]
            rw[if_pos (by
             first
             |exact .inl ((mp hM2 hU2).1 h75)
             |exact .inr ((mp hK2 (by omega)).1 h82))]⟩⟩ (by simp;omega)
          ·have hmn:m<n:=Nat.lt_of_not_le (mt (mp hM2 hU2).2 h75)
           have hkO:k<O1.length:=Nat.lt_of_not_le (mt (mp hK2 (by omega)).2 h82)
           obtain⟨c,hc⟩:∃c,c=min (m+4) (n-O1.length):=⟨_,rfl⟩
           refine ar (ab (af (aa (ac Ll Ll (ag (ab (ax ?_)))))))
           refine f6 (fun(j:Nat) (X:List UInt8) (vx:Value)=>[(6,.pointer (some ⟨g,0,none⟩)),(0,v),(7,bj (UInt64.ofNat n)),(8,I 0),(9,vx),(11,bj (UInt64.ofNat m)),(12,bj (UInt64.ofNat k)),(13,bj (UInt64.ofNat j))]) (fun(j:Nat) (X:List UInt8) (vx:Value) w'=>aI w w'∧w15.grownBy w' (some g)∧n0 g (some t4) w15 w'∧cG w15.heap.size X vx w'∧X.length=O1.length+j∧j≤c∧AC (k+1) (c-j) X=AC (k+1) c O1) (fun(j:Nat) (X:List UInt8) (vx:Value)=>c-j) (0) (O1) (v49) ⟨rfl,rfl,rfl,rfl,rfl,rfl,rfl,rfl,trivial⟩ ⟨x66,hg66,r66,o66,rfl,by omega,rfl⟩ ?_
           rintro j X vx w17 ⟨e17,hg17,r17,oX,hXl,hj,hX⟩
           refine af (af ?_)
           have bX:=oX.bts
           refine aa (ae Ll Ll (ai Ll Ll Ll (cg (by decide) aZ) (ae Ll Ll (al Ll (ae Ll Ll (al Ll (ae Ll Ll (al Ll (ai (v:=bj 4) (r:=bj (UInt64.ofNat (m+4))) Ll Ll Ll ((by rw[←Kv (by omega)];exact dw)) ?_)))))))))
           refine al Ll (ai Ll Ll Ll (dy) (aw Ll Ll Ll (ae Ll Ll ?_)))
           refine cO (fun h91=>?_) (fun h91=>?_)
           ·refine al Ll (ae Ll Ll (al Ll (aQ Ll Ll (bC bX) (al Ll (aR Ll Ll (cN KO KN) (al Ll (ae Ll Ll ?_)))))))
            refine al Ll (ai Ll Ll Ll (dy) (aw Ll Ll Ll (ag (ab ?_))))
            refine bi Ll (fun h97=>?_) (fun h97=>?_)
            ·have hj1:j<m+4:=(jJ (by omega) (by omega)).1 h91
             have hj2:X.length<n:=(jJ (by omega) hU2).1 h97
             refine ar (ab (af (ax (aa (ae Ll Ll (ae Ll Ll (ae Ll Ll (aQ Ll Ll (bC bX) (ai (r:=I ((X.length-1:Nat):Int)) Ll Ll Ll (by have e:((X.length-1:Nat):Int)=(X.length:Int)-1:=(by omega);rw[e];exact bg (by omega) (by omega)) ?_)))))))))
             refine ae Ll Ll (aR Ll Ll (sm KN KO (by omega)) (ai (r:=I ((O1.length-1-k+j:Nat):Int)) Ll Ll Ll (by have e:((O1.length-1-k+j:Nat):Int)=((X.length-1:Nat):Int)-(k:Int):=(by omega);rw[e];exact bg (by omega) (by omega)) ?_))
             obtain⟨a108,p108,q108⟩:=eD bX (i:=O1.length-1-k+j) (by omega) .i64
             refine aA Ll Ll Ll (p108 _) (am Ll Ll (aj KS Ll q108) ?_)
             obtain⟨v110,w110,hr110,x110,o110,ob110⟩:=fE (w:=w17) w17.heap.size [X[O1.length-1-k+j]'(by omega)] (by simp) (Nat.le_refl _)
             refine aO (vs:=[(0,U8 (X[O1.length-1-k+j]))]) Ll Ll hr110 ?_
             obtain⟨v111,w111,hr111,o111,g111⟩:=dn (ty:=28) (oX.ext x110) o110.bts (by simp;omega) (Nat.le_trans hg17.size x110.size)
             have hg111:=xB (hg17.trans (dq x110)) g111.grown (fun k hk=>oX.ge k hk)
             have x111:=x15.of_new hg111 lg
             refine bc Ll Ll hr111 ?_
             have r111:=(r17.ext x110).other g111.grown (oX.off hgb)
             refine ac Ll Ll (ag (aJ (ab (aa (ae Ll Ll (ai (v:=bj 1) (r:=bj (UInt64.ofNat (j+1))) Ll Ll Ll ((by rw[←JE (by omega)];exact dw)) ?_))))))
             refine ac Ll Ll (ag ?_)
             refine dA (j+1) (X++[X[O1.length-1-k+j]'(by omega)]) (v111) ⟨rfl,rfl,rfl,rfl,rfl,rfl,rfl,rfl,trivial⟩ ⟨x111,hg111,r111,o111,by simp;omega,by omega,by
              rw[←hX]
              exact(zZ (by omega) hXl hkO).symm⟩ (by omega)
            ·refine aY (aB (aB (aX (aJ ?_))))
             have hjc:j=c:=by
              first
              |(have:=mt (jJ (by omega) (by omega)).2 h91;omega)
              |(have:=mt (jJ (by omega) hU2).2 h97;omega)
             refine fT (0) (f) (t4) (X) (vx) ⟨rfl,rfl,rfl,rfl,rfl,trivial⟩ ⟨e17,hg17,.inl ⟨rfl,r17,oX,by have:=jK hM;have:=jK hK;omega,by omega,by omega,by omega,by
              rw[hun,hstep,hM]
              simp only[Option.bind_some]
              rw[hK]
              simp only[Option.bind_some]
              rw[if_neg (by omega),←hc,←hX,hjc,Nat.sub_self];rfl⟩⟩ (by simp;omega)
           ·refine ao Ll Ll Ll (ao Ll Ll Ll (ao Ll Ll Ll (ao Ll Ll Ll (ao Ll Ll Ll (aC Ll Ll Ll (ag (ab (cp Ll (aY (aB (aB (aX (aJ ?_)))))))))))))
            have hjc:j=c:=by
             first
             |(have:=mt (jJ (by omega) (by omega)).2 h91;omega)
             |(have:=mt (jJ (by omega) hU2).2 h97;omega)
            refine fT (0) (f) (t4) (X) (vx) ⟨rfl,rfl,rfl,rfl,rfl,trivial⟩ ⟨e17,hg17,.inl ⟨rfl,r17,oX,by have:=jK hM;have:=jK hK;omega,by omega,by omega,by omega,by
             rw[hun,hstep,hM]
             simp only[Option.bind_some]
             rw[hK]
             simp only[Option.bind_some]
             rw[if_neg (by omega),←hc,←hX,hjc,Nat.sub_self];rfl⟩⟩ (by simp;omega)
      ·have hge:¬O1.length<n:=mt (jJ (by omega) hU2).2 h58
       refine ar (aJ ?_)
       refine fT (0) (f+1) (t2) (O1) (v49) ⟨rfl,rfl,rfl,rfl,rfl,trivial⟩ ⟨x49,hg49,.inl ⟨rfl,r49,o49,by omega,by omega,by omega,by omega,by rw[hun,hstep,if_neg hge,IW hge]⟩⟩ (by simp;omega)
    ·have hge:¬O.length<n:=mt (jJ (by omega) hU2).2 h41
     have hz:=IW (total:=n) (f:=f) (l:=r) hge
     refine aY (aB (aB (aX (ab (af (af ?_))))))
     rcases r with _|⟨r0,rs⟩
     ·refine bz 14 [9,119,125] (by kernel_rfl) (by kernel_rfl) ?_
      refine ap rfl rfl (aS rfl rfl rfl (fun w _=>cf (by decide) bL) (ap rfl rfl (bh rfl rfl (ap rfl rfl (bh rfl rfl (ce (S:=Is (I 0)) ov (bt.is _) rfl (fun w hw=>by rintro _ rfl;exact bE.mono (ow (dS.ext (r6.at_ (kr hg6)) hw)) fun v w' h=>⟨h.2▸aI.refl _,h.1.trans (by rw[if_pos rfl])⟩) ?_))))))
      refine bh rfl rfl (aS rfl rfl rfl (fun w _=>cf (by decide) bL) (my rfl rfl rfl (ap rfl rfl (bh rfl rfl (ap rfl rfl (bh rfl rfl (ce (S:=cm (bS O)) ue (cm.stable _) rfl (fun w hw=>by rintro _ rfl;exact bE.mono (ug (bO.ext hw) (by omega)) fun v w' h=>h) ?_)))))))
      refine bh Ll Ll (HG Ll (bt.is _) Ll (fun w v hw hv=>⟨_,w,nT hv,aI.refl _,rfl⟩) (bh Ll Ll (ap Ll Ll (bh Ll Ll (dm Ll Ll (fun w hw=>nT ((hv.ext e6).ext hw)) ?_)))))
      refine bh Ll Ll (aS Ll Ll Ll (fun w _=>sg) (bF ?_))
      intro wg20 xg20
      rintro _ hq9
      obtain rfl:=Eq.symm hq9
      rintro _ rfl
      rintro _ rfl
      refine aC Ll Ll Ll (ag (ab ?_))
      refine bi Ll (fun h126=>?_) (fun h126=>?_)
      ·refine af (aa (ac Ll Ll (ac Ll Ll (ag (ab (av (au (aM Ll Ll Ll ?_))))))))
       exact⟨_,rfl,(e6.trans xg20),by
        first
        |exact nK (by omega) hU (by omega) (by rw[z4 (hun.trans hz),if_neg (fun h=>h126 h.2)])
        |exact uh (by omega) hU (by omega) (by rw[z4 (hun.trans hz),if_pos ⟨rfl,Classical.byContradiction h126⟩]) (bO.ext xg20)⟩
      ·refine ar (ab (af (aa (ae Ll Ll (ac Ll Ll (ac Ll Ll (ag (ab (av (aM Ll Ll Ll ?_))))))))))
       exact⟨_,rfl,(e6.trans xg20),by
        first
        |exact nK (by omega) hU (by omega) (by rw[z4 (hun.trans hz),if_neg (fun h=>h126 h.2)])
        |exact uh (by omega) hU (by omega) (by rw[z4 (hun.trans hz),if_pos ⟨rfl,Classical.byContradiction h126⟩]) (bO.ext xg20)⟩
     ·refine bz 14 [9,119,125] (by kernel_rfl) (by kernel_rfl) ?_
      refine ap rfl rfl (aS rfl rfl rfl (fun w _=>cf (by decide) bL) (ap rfl rfl (bh rfl rfl (ap rfl rfl (bh rfl rfl (ce (S:=Is (I 5)) ov (bt.is _) rfl (fun w hw=>by rintro _ rfl;exact bE.mono (ow (dS.ext (r6.at_ (kr hg6)) hw)) fun v w' h=>⟨h.2▸aI.refl _,h.1.trans (by rw[if_neg (by simp)])⟩) ?_))))))
      refine bh Ll Ll (aS Ll Ll Ll (fun w _=>cg (by decide) bL) (my Ll Ll Ll (ap Ll Ll (cD Ll Ll Ll (cD Ll Ll Ll (cD Ll Ll Ll ?_))))))
      refine cD Ll Ll Ll (cD Ll Ll Ll (cD Ll Ll Ll (bF ?_)))
      intro wg20 xg20
      rintro _ hq9
      obtain rfl:=Eq.symm hq9
      rintro _ rfl
      rintro _ rfl
      refine aw Ll Ll Ll (ag (ab (bB Ll (af (aa (ac Ll Ll (ac Ll Ll (ag (ab (av (au (aM Ll Ll Ll ?_))))))))))))
      exact⟨_,rfl,(e6.trans xg20),nK (by omega) hU (by omega) (by rw[z4 (hun.trans hz),if_neg (by simp)])⟩
   ·obtain rfl:5=e0:=he0.symm
    refine aa (ae Ll Ll (ai Ll Ll Ll (cf (by decide) aZ) (ae Ll Ll (ao Ll Ll Ll (ao Ll Ll Ll (ao Ll Ll Ll (ao Ll Ll Ll (ao Ll Ll Ll ?_))))))))
    refine aC Ll Ll Ll (ag (ab (cp Ll (aY (aB (aB (aX (ab (af (af (bz 14 [9,119,125] (by kernel_rfl) (by kernel_rfl) ?_)))))))))))
    refine ap Ll Ll (aS Ll Ll Ll (fun w _=>cg (by decide) bL) (ap Ll Ll (cD Ll Ll Ll (cD Ll Ll Ll (cD Ll Ll Ll (sM Ll Ll Ll ?_))))))
    refine ap Ll Ll (cD Ll Ll Ll (cD Ll Ll Ll (cD Ll Ll Ll (cD Ll Ll Ll (cD Ll Ll Ll (cD Ll Ll Ll (bF ?_)))))))
    intro wg20 xg20
    rintro _ hq9
    obtain rfl:=Eq.symm hq9
    rintro _ rfl
    rintro _ rfl
    refine aw Ll Ll Ll (ag (ab (bB Ll (af (aa (ac Ll Ll (ac Ll Ll (ag (ab (av (au (aM Ll Ll Ll ?_))))))))))))
    exact⟨_,rfl,(e6.trans xg20),nK (by omega) hU (by omega) (by unfold vr;rw[hun];rfl)⟩
end Go.Rl
namespace Go.Rl
open Go.RowKit Go.Proofs
theorem z5:ay Tryz.prog 142:=⟨_,Tryz.func142,by kernel_rfl,rfl⟩
theorem GY:ay Tryz.prog 143:=⟨_,Tryz.func143,by kernel_rfl,rfl⟩
theorem EE:ay Tryz.prog 174:=⟨_,Tryz.func174,by kernel_rfl,rfl⟩
section
variable {P:Program} {w:World}
theorem Ia {t e:TypeId} {n:Nat} (ht:P.underlying t=some (.array n e)) {xs:List Value} {v:Value} (h:Sl 1 xs v w) (hn:n≤xs.length) (h0:0<n):
 ∃ad,(∀w':World,(Instr.arrayAt t v).run P w'=.ok (.pointer (some ad)) w')∧dG w ad (xs.take n):=by
 obtain⟨A,m,c,rfl,hmc,hcm,hl,hc,hnone⟩:=h
 obtain⟨ad,rfl,hcl⟩:=hc (by omega)
 refine⟨ad,fun w'=>?_,hcl.take _⟩
 have:¬m<n:=by omega
 simp[Instr.arrayAt,run_underlying ht,this]
theorem EF {t:TypeId} {d:TypeDesc} {m:List Value} {ad:Addr} (hu:P.underlying t=some d) (hd:d.isRow=true) (hi:(P.info? t).map (·.size)=some m.length) (h:dG w ad m):
 (Instr.loadAt t (.pointer (some ad))).run P w=.ok (.agg m.toArray) w:=by
 have hagg:(isAgg t).run P w=.ok true w:=by
  unfold isAgg
  simp only[Sem.run_bind,run_underlying hu,Result.andThen_ok]
  cases d<;>first|rfl|simp[TypeDesc.isRow] at hd
 have hl:=run_loadCells_list (P:=P) (w:=w) ad m h
 simp only[Instr.loadAt,Instr.sureAddr,loadVar,Sem.run_bind,Sem.run_pure,Result.andThen_ok,hagg,if_true,dJ hi,hl]
end
theorem C3:(Tryz.prog.info? 221).map (·.zero)=some (some (.agg #[.int .u8 0,.int .u8 0,.int .u8 0,.int .u8 0])):=by kernel_rfl
theorem z6 {w:World} {g c i n:Nat} {A:Option Addr} {d:List UInt8} {mv nv:Value} (hb:cd g 158 [.slice A n c,mv,nv] w) (hd:cm d (.slice A n c) w) (hi:i+4≤d.length) (hl:d.length≤1099511627776):
 Calls Tryz.prog 142 #[.pointer (some ⟨g,0,none⟩),I (i:Int)] w (bE fun r w'=>aI w w'∧r=K4 ((d.drop i).take 4)):=by
 refine enter (vs:=[.pointer (some ⟨g,0,none⟩),I (i:Int)]) Tryz.func142 Ll Ll Ll ?_
 refine af (aa ?_)
 obtain⟨g4,w4,hr4,n4,x4,b4⟩:=be (P:=Tryz.prog) (w:=w) (l:=[.int .u8 0,.int .u8 0,.int .u8 0,.int .u8 0]) C3 rfl
 refine bf Ll hr4 ?_
 refine ag (ab (af (aa (ae Ll Ll (aH Ll Ll (ah Ll Ll (aF (o:=0) K7 Ll (by kernel_rfl) Ll) ?_))))))
 refine am Ll Ll (aj KQ Ll (x4.cell_some (hb.cell (i:=0) Ll))) (ae Ll Ll (ae Ll Ll (ai (r:=I ((i+4:Nat):Int)) Ll Ll Ll (by have e:((i+4:Nat):Int)=(i:Int)+4:=(by omega);rw[e];exact aK (by omega) (by omega)) ?_)))
 obtain⟨v12,p12,b12⟩:=ri (hd.ext x4) (lo:=i) (hi:=i+4) (by omega) (by omega) .i64 .i64
 refine cw Ll Ll Ll Ll Ll (p12 _) ?_
 have e12:(d.take (i+4)).drop i=(d.drop i).take 4:=by rw[List.drop_take,show i+4-i=4 by omega]
 rw[e12] at b12
 have l12:((d.drop i).take 4).length=4:=by rw[List.length_take,List.length_drop];omega
 obtain⟨a13,p13,q13⟩:=Ia (P:=Tryz.prog) Tryz.underlying221 b12 (by simp only[List.length_map,l12];omega) (by omega)
 rw[List.take_of_length_le (by simp only[List.length_map,l12];omega)] at q13
 refine uZ Ll Ll (p13 _) (am Ll Ll (EF Lf Ll (by rw[List.length_map,l12];exact zX) q13) (aq Ll Ll (it b4 (by rw[List.length_map,l12];rfl) (by rw[List.length_map,l12];exact zX) (kY _)) ?_))
 have b5:=b4.row (((d.drop i).take 4).map U8)
 have x5:=aI.of_new x4 (bp w4 g4 (((d.drop i).take 4).map U8).toArray) n4
 refine ag (ab (av ?_))
 refine dR Ll Ll b5 Lf Ll (by rw[List.length_map,l12];exact zX) ?_
 exact⟨_,rfl,x5,rfl⟩
theorem GZ {w:World} {A:Option Addr} {n c:Nat}:
 Calls Tryz.prog 143 #[.slice A n c] w (bE fun r w'=>aI w w'∧r=.func (.func 174) #[] #[.pointer (some ⟨w.heap.size,0,none⟩)]∧w'=w.alloc (.cells #[.slice A n c] 66)):=by
 refine enter (vs:=[.slice A n c]) Tryz.func143 Ll Ll Ll ?_
 refine af (aa (cL Ll Ll (nU) (ac Ll Ll (ag (ab (af (aa ?_)))))))
 refine la (us:=[]) (vs:=[.pointer (some ⟨w.heap.size,0,none⟩)]) Ll Ll Ll ?_
 refine ac Ll Ll (ag (ab (av (aG Ll Ll ?_))))
 exact⟨_,rfl,aI.new _ _,rfl,rfl⟩
def ui (Kb:Nat→Prop) (W W':World):Prop:=W.heap.size≤W'.heap.size∧∀k,Kb k→W'.heap[k]? =W.heap[k]?
theorem ui.trans {Kb:Nat→Prop} {a b c:World} (h:ui Kb a b) (k:ui Kb b c):ui Kb a c:=⟨Nat.le_trans h.1 k.1,fun n hn=>(k.2 n hn).trans (h.2 n hn)⟩
theorem ui.refl (Kb:Nat→Prop) (a:World):ui Kb a a:=⟨Nat.le_refl _,fun _ _=>rfl⟩
theorem BI {α:Type} {w:World} {Bs base:Nat} {v:Value} {zs:List Int} {ys:List α} {encs:α→List Value} {Kb:Nat→Prop} (hv:ff base zs v w) (hc:cd Bs 66 [v] w) (hK1:Kb Bs) (hK2:∀k,v.ownBlock=some k→Kb k)
 (hlen:ys.length=zs.length) (hz:zs.length≤1099511627776) (hy:∀(k:Nat) (h:k<ys.length),encs ys[k]=[I ((zs.length-1-k:Nat):Int),I (zs[zs.length-1-k]'(by omega))]):
 SeqStopsK Fence.wide 1 Tryz.prog 174 #[.pointer (some ⟨Bs,0,none⟩)] (fun x=>(encs x).toArray) (ui Kb) (fun xs=>xs=ys) (fun pre=>pre<+:ys) ys.length w:=by
 intro lp J Jx W hW _ _ hY h0
 have hW:aI w W:=hW
 refine callsIn_wide.2 ?_
 refine Calls.mono (R:=bE fun r W'=>(∃xs,xs=ys∧J xs W')∨(∃pre,pre<+:ys∧Jx pre W')) ?_ (fun e W' h=>by obtain⟨r,rfl,h⟩:=h;exact⟨⟨r,rfl⟩,h⟩)
 have hv:=hv.ext hW
 have hc:=hc.ext hW
 have ea:(#[.func (.yield lp) #[] #[]]:Array Value)++ #[.pointer (some ⟨Bs,0,none⟩)]=[.func (.yield lp) #[] #[],.pointer (some ⟨Bs,0,none⟩)].toArray:=by simp
 rw[ea]
 refine enter Tryz.func174 Ll Ll Ll ?_
 refine af (aa (am Ll Ll (aj Ld Ll (hc.cell (i:=0) Ll)) (aQ Ll Ll (Ja hv.its) (ai Ll Ll Ll (bg (by omega) (by omega)) ?_))))
 refine ac Ll Ll (ag (ab (ax ?_)))
 refine bZ (α:=Int) (fun x=>[(0,.func (.yield lp) #[] #[]),(1,.pointer (some ⟨Bs,0,none⟩)),(3,I x)]) (fun x W'=>∃k:Nat,k≤ys.length∧x=(zs.length:Int)-1-(k:Int)∧J (ys.take k) W'∧ui Kb W W') (fun x=>(x+1).toNat) ((zs.length:Int)-1) ⟨rfl,rfl,rfl,trivial⟩ ⟨0,Nat.zero_le _,by omega,by simpa using h0,ui.refl _ _⟩ ?_
 rintro x w1 ⟨k,hk,hx,hJ,hKp⟩
 refine af (af (aa (ae Ll Ll (ai Ll Ll Ll iP (ag (ab ?_))))))
 refine bi Ll (fun h8=>?_) (fun h8=>?_)
 ·have hkl:k<ys.length:=by omega
  obtain⟨j,rfl⟩:∃j:Nat,x=(j:Int):=⟨x.toNat,by omega⟩
  have hj:j=zs.length-1-k:=by omega
  have hv1:ff base zs v w1:=hv.same fun n hn=>hKp.2 n (hK2 n hn)
  have hc1:cd Bs 66 [v] w1:=(hKp.2 Bs hK1).trans hc
  refine ar (ab (af (ax (af (Fz (HM 6 ?_))))))
  refine ae Ll Ll (ae Ll Ll (am Ll Ll (aj Ld Ll (hc1.cell (i:=0) Ll)) (ae Ll Ll ?_)))
  obtain⟨a15,p15,q15⟩:=J4 hv1.its (i:=j) (by omega) .i64
  refine aA Ll Ll Ll (p15 _) (am Ll Ll (aj KO Ll q15) (ag (n_y ?_)))
  have hx:=hY (ys.take k) ys[k] w1 hJ (by rw[List.length_take];omega)
  simp only[hy k hkl] at hx
  have hz:zs[zs.length-1-k]'(by omega)=zs[j]'(by omega):=by simp only[hj]
  rw[hz,←hj] at hx
  refine Cs Ll Ll Ll hx ?_
  rintro e w3 (⟨rfl,hJ3,hK3⟩|⟨rfl,hJx3⟩)
  ·refine⟨_,rfl,xh (bI Ll Ll bK (ag (ab (cp Ll (ar (aJ (ab (aa (ae Ll Ll (ai Ll Ll Ll (bg (by omega) (by omega)) (ac Ll Ll (ag ?_))))))))))))⟩
   refine bQ ((j:Int)-1) ⟨rfl,rfl,rfl,trivial⟩ ⟨k+1,by omega,by omega,?_,hKp.trans hK3⟩ (by omega)
   rw[List.take_succ_eq_append_getElem hkl];exact hJ3
  ·refine⟨_,rfl,xh (bI Ll Ll bK (ag (ab (bB Ll (av (aV (au (au (aV (wQ Ll ?_))))))))))⟩
   exact⟨_,rfl,.inr ⟨_,⟨ys.drop (k+1),by rw[←List.take_succ_eq_append_getElem hkl,List.take_append_drop]⟩,hJx3⟩⟩
 ·refine aY (aB (aB (aX (gq Ll ?_))))
  have hkl:k=ys.length:=by omega
  exact⟨_,rfl,.inl ⟨_,rfl,by rw[hkl,List.take_length] at hJ;exact hJ⟩⟩
end Go.Rl
namespace Go.Rl
open Go.RowKit Go.Proofs
theorem BJ:ay Tryz.prog 103:=⟨_,Tryz.func103,by kernel_rfl,rfl⟩
section
variable {P:Program} {w w':World}
theorem G0 {t:TypeId} {v:Value} (h:v.cells=[v].toArray):∃g w',(Instr.box t v).run P w=.ok (.pointer (some ⟨g,0,none⟩)) w'∧w.heap.size≤g∧aI w w'∧cd g t [v] w':=
 ⟨_,_,nU,Nat.le_refl _,aI.new w _,cd.new v h⟩
theorem gj {t T:TypeId} {g:Nat} {u v:Value} (hs:(P.info? t).map (·.size)=some 1) (hv:v.oneCell'=true) (h:cd g T [u] w):
 ∃w',(Instr.storeAt t (.pointer (some ⟨g,0,none⟩)) v).run P w=.ok () w'∧w.grownBy w' (some g)∧cd g T [v] w':=
 ⟨_,dv (i:=0) hs hv h (by simp),ba w g 0 v,h.set 0 v⟩
end
theorem z7:(Tryz.prog.info? 3).map (·.zero)=some (some (.int .i64 0)):=by kernel_rfl
theorem BK {d:List UInt8} {x y:Nat} (hx:x<d.length) (hy:y<d.length):j7 (d.drop x) (d.drop y)=if d[x]=d[y] then j7 (d.drop (x+1)) (d.drop (y+1))+1 else 0:=by
 rw[List.drop_eq_getElem_cons hx,List.drop_eq_getElem_cons hy,j7]
theorem C6 {d:List UInt8} {x y:Nat} (hx:d.length≤x):j7 (d.drop x) (d.drop y)=0:=by
 rw[List.drop_of_length_le hx];cases d.drop y<;>rfl
theorem cd.c0 {w:World} {g:Nat} {T:TypeId} {v:Value} {l:List Value} (h:cd g T (v::l) w):w.cell? ⟨g,0,none⟩=some v:=h.cell (i:=0) rfl
def Ib (b:Nat) (T:TypeId) (l:List Value):dC:=fun v w=>∃g,v=.pointer (some ⟨g,0,none⟩)∧b≤g∧cd g T l w
theorem Ib.stable (b:Nat) (T:TypeId) (l:List Value):bt (Ib b T l):=fun _ _ _ ⟨g,h1,h2,h3⟩ hx=>⟨g,h1,h2,h3.ext hx⟩
theorem JF {w:World} {g:Nat} {T:TypeId} {l:List Value} {q:List UInt8} (h:cd g T l w) (hl:l.length=4) (hq:q.length=4):
 ∃w',(Instr.storeAt 221 (.pointer (some ⟨g,0,none⟩)) (K4 q)).run Tryz.prog w=.ok () w'∧w.grownBy w' (some g)∧cd g T (q.map U8) w':=
 ⟨_,it h (by rw[List.length_map,hl,hq]) (by rw[List.length_map,hq];exact zX) (kY q),bp w g _,h.row _⟩
structure BL (wb:World) (d:List UInt8) (g m nx:Nat) (Y:Nat→Prop) (w:World):Prop where
 ext:aI wb w
 low:∀k,(k=g∨k=m∨Y k)→wb.heap.size≤k∧k<w.heap.size
 ng:¬Y g
 nm:¬Y m
 gm:g≠m
 blk:∃A n c,cd g 158 [.slice A n c,.map (some m),I (nx:Int)] w∧cm d (.slice A n c) wb
 map:gW wb.heap.size d m nx Y w
def kO (g m:Nat) (Y:Nat→Prop):Nat→Prop:=fun k=>k=g∨k=m∨Y k
section
variable {wb w w':World} {d:List UInt8} {g m nx:Nat} {Y:Nat→Prop}
theorem BL.mv {X:Nat→Prop} (h:BL wb d g m nx Y w) (hx:Mv X w w') (hX:∀k,kO g m Y k→¬X k) (hb:∀k,X k→wb.heap.size≤k):BL wb d g m nx Y w':=
 ⟨hx.ext_from h.ext hb,fun k hk=>⟨(h.low k hk).1,Nat.lt_of_lt_of_le (h.low k hk).2 hx.size⟩,h.ng,h.nm,h.gm,by
  obtain⟨A,n,c,h1,h2⟩:=h.blk
  exact⟨A,n,c,hx.blk h1 (hX g (.inl rfl)),h2⟩,h.map.same (hx.keep m h.map.lt (hX m (.inr (.inl rfl)))) fun k hk hl=>hx.keep k hl (hX k (.inr (.inr hk)))⟩
theorem BL.xt (h:BL wb d g m nx Y w) (hx:aI w w'):BL wb d g m nx Y w':=h.mv (X:=fun _=>False) (Mv.of_ext hx) (fun _ _=>id) (fun _ hk=>hk.elim)
end
theorem gW.ne_row {base b:Nat} {d:List UInt8} {m n:Nat} {Y:Nat→Prop} {w:World} (h:gW base d m n Y w) {l:List Int} {v:Value} (hv:ff b l v w):v.ownBlock≠some m:=fun hk=>by
 obtain⟨es,clock,h⟩:=h
 obtain⟨cs,f,hc⟩:=hv.cells hk
 rw[h.at_] at hc
 cases hc
theorem BL.step {wb w:World} {d:List UInt8} {g m x n c:Nat} {A:Option Addr} {Y:Nat→Prop} (h:BL wb d g m x Y w) (hx:x+4≤d.length) (hb:cd g 158 [.slice A n c,.map (some m),I (x:Int)] w) (hd:cm d (.slice A n c) wb):
 ∃v born w1,(Instr.mapEntry 156 (.map (some m)) (K4 ((d.drop x).take 4))).run Tryz.prog w=.ok (.tuple #[v,I (born:Nat)]) w1∧w.grownBy w1 (some m)∧ff wb.heap.size (jl d ((d.drop x).take 4) x) v w1∧
 ∀v' w2,gw w1 w2 v v'→ff wb.heap.size (jl d ((d.drop x).take 4) x++[(x:Int)]) v' w2→∃w3,(Instr.entryStore 156 (.map (some m)) (I (born:Nat)) v').run Tryz.prog w2=.ok () w3∧Mv (fun k=>k=m∨Y k) w w3∧cd g 158 [.slice A n c,.map (some m),I (x:Int)] w3∧
  ∀w4,w3.grownBy w4 (some g)→cd g 158 [.slice A n c,.map (some m),I ((x+1:Nat):Int)] w4→∃Y',BL wb d g m (x+1) Y' w4∧Mv (kO g m Y) w w4∧∀k,Y' k→Y k∨w.heap.size≤k:=by
 obtain⟨v,born,w1,r1,g1,o1,hY,nm,fin⟩:=h.map.step hx
 refine⟨v,born,w1,r1,g1,o1,fun v' w2 gr hv=>?_⟩
 obtain⟨w3,r3,g3,m3⟩:=fin v' w2 gr hv
 have mv3:Mv (fun k=>k=m∨Y k) w w3:=
  ((Mv.of_grown (X:=fun k=>k=m∨Y k) g1 (fun k e _=>.inl (Option.some.inj e).symm)).trans (Mv.of_grown (X:=fun k=>k=m∨Y k) gr.grown (fun k e _=>.inr (hY k e))) (fun _ hn _=>hn)).trans (Mv.of_grown (X:=fun k=>k=m∨Y k) g3 (fun k e _=>.inl (Option.some.inj e).symm)) (fun _ hn _=>hn)
 have hbg:=mv3.blk hb (fun hk=>hk.elim h.gm h.ng)
 refine⟨w3,r3,mv3,hbg,fun w4 g4 hb4=>?_⟩
 have mv4:Mv (kO g m Y) w w4:=(mv3.weak (Y:=kO g m Y) (fun k hk _=>.inr hk)).trans (Mv.of_grown (X:=kO g m Y) g4 (fun k e _=>.inl (Option.some.inj e).symm)) (fun _ hn _=>hn)
 have hv':∀k,v'.ownBlock=some k→Y k∨w.heap.size≤k:=fun k hk=>by
  rcases gr.own with e|e
  ·exact .inl (hY k (e▸hk))
  ·exact .inr (Nat.le_trans g1.size (e k hk))
 refine⟨fun k=>Y k∨v'.ownBlock=some k,⟨mv4.ext_from h.ext (fun k hk=>(h.low k hk).1),?_,?_,?_,h.gm,⟨A,n,c,hb4,hd⟩,?_⟩,mv4,fun k hk=>hk.elim .inl (hv' k)⟩
 ·rintro k (hk|hk|hk|hk)
  ·exact⟨(h.low k (.inl hk)).1,Nat.lt_of_lt_of_le (h.low k (.inl hk)).2 mv4.size⟩
  ·exact⟨(h.low k (.inr (.inl hk))).1,Nat.lt_of_lt_of_le (h.low k (.inr (.inl hk))).2 mv4.size⟩
  ·exact⟨(h.low k (.inr (.inr hk))).1,Nat.lt_of_lt_of_le (h.low k (.inr (.inr hk))).2 mv4.size⟩
  ·have:=hv.lt k hk
   exact⟨this.1,Nat.lt_of_lt_of_le this.2 (Nat.le_trans g3.size g4.size)⟩
 ·rintro(hk|hk)
  ·exact h.ng hk
  ·rcases hv' g hk with hk|hk
   ·exact h.ng hk
   ·have:=(h.low g (.inl rfl)).2;omega
 ·rintro(hk|hk)
  ·exact h.nm hk
  ·rcases hv' m hk with hk|hk
   ·exact h.nm hk
   ·have:=(h.low m (.inr (.inl rfl))).2;omega
 ·refine m3.same (g4.block m m3.lt (fun e=>h.gm (Option.some.inj e).symm)) (fun k hk hl=>g4.block k hl (fun e=>?_))
  obtain rfl:=Option.some.inj e
  rcases hk with hk|hk
  ·exact h.ng hk
  ·rcases hv' k hk with hk|hk
   ·exact h.ng hk
   ·have:=(h.low k (.inl rfl)).2;omega
abbrev Pl (d:List UInt8) (i:Nat):Type:={p:Nat×Nat//p.2<i∧(d.drop p.2).take 4=(d.drop i).take 4}
def Pl.enc {d:List UInt8} {i:Nat} (x:Pl d i):List Value:=[I (x.1.1:Int),I (x.1.2:Int)]
def EG (d:List UInt8) (i:Nat):List (Pl d i):=List.ofFn fun k:Fin (pos d ((d.drop i).take 4) i).length=>
 ⟨((pos d ((d.drop i).take 4) i).length-1-k.1,(pos d ((d.drop i).take 4) i)[(pos d ((d.drop i).take 4) i).length-1-k.1]'(by have:=k.2;omega)),CZ.1 (List.getElem_mem _)⟩
theorem yi (d:List UInt8) (i:Nat):(EG d i).length=(pos d ((d.drop i).take 4) i).length:=by simp[EG]
theorem C7 (d:List UInt8) (i:Nat):(EG d i).map (·.1.2)=(pos d ((d.drop i).take 4) i).reverse:=by
 apply List.ext_getElem
 ·simp[yi]
 ·intro k h1 h2
  simp[EG,List.getElem_reverse]
theorem Ic (d:List UInt8) (i k:Nat) (h:k<(EG d i).length):(EG d i)[k].enc=[I (((jl d ((d.drop i).take 4) i).length-1-k:Nat):Int),I ((jl d ((d.drop i).take 4) i)[(jl d ((d.drop i).take 4) i).length-1-k]'(by rw[yi] at h;simp only[jl,List.length_map];omega))]:=by
 simp[EG,Pl.enc,jl]
def uW (d:List UInt8) (i:Nat) (l:List (Pl d i)):Nat×Nat:=(l.map (·.1.2)).foldl (GN d i) (0,0)
theorem pR (d:List UInt8) (i:Nat) (l:List (Pl d i)) (x:Pl d i):uW d i (l++[x])=GN d i (uW d i l) x.1.2:=by
 unfold uW
 rw[List.map_append,List.foldl_append];rfl
theorem lN (d:List UInt8) (i:Nat):((EG d i).map (·.1.2)).Pairwise (fun a b=>b<a):=by
 rw[C7,List.pairwise_reverse]
 exact BG _ _ _
theorem yj (d:List UInt8) (i p:Nat):p∈(EG d i).map (·.1.2)↔p<i∧(d.drop p).take 4=(d.drop i).take 4:=by
 rw[C7,List.mem_reverse,CZ]
theorem BM {d:List UInt8} {i:Nat} (h:d.length<i+4):cZ d i=(0,0):=by
 rcases Nat.eq_zero_or_pos (cZ d i).1 with h0|h0
 ·rcases BD d i (min i 4096) with e|e
  ·exact e
  ·unfold cZ at h0;omega
 ·have:=lL (d:=d) (i:=i) (by omega)
  omega
structure pa (wl:World) (g7 g8:Nat) (s:Nat×Nat) (W:World):Prop where
 c7:cd g7 3 [I (s.1:Int)] W
 c8:cd g8 3 [I (s.2:Int)] W
 mv:Mv (fun k=>k=g7∨k=g8) wl W
section
variable {wl W W':World} {g7 g8:Nat} {s:Nat×Nat}
theorem pa.own (h:pa wl g7 g8 s W) (h7:g7<wl.heap.size) (h8:g8<wl.heap.size) {row:Option Nat} (hg:W.grownBy W' row) (hr:∀r,row=some r→wl.heap.size≤r):pa wl g7 g8 s W':=
 ⟨h.c7.other hg (fun e=>by have:=hr g7 e.symm;omega),h.c8.other hg (fun e=>by have:=hr g8 e.symm;omega),h.mv.trans (Mv.of_grown (X:=fun k=>wl.heap.size≤k) hg (fun k hk _=>hr k hk)) (fun n hn hl=>by omega)⟩
theorem pa.xt (h:pa wl g7 g8 s W) (hx:aI W W'):pa wl g7 g8 s W':=⟨h.c7.ext hx,h.c8.ext hx,h.mv.trans (Mv.of_ext (X:=fun _=>False) hx) (fun _ hn _=>hn.elim)⟩
end
theorem pa.keeps {wl W W':World} {g7 g8:Nat} (h:Mv (fun k=>k=g7∨k=g8) W W') (h7:g7<wl.heap.size) (h8:g8<wl.heap.size):KeepsFrom wl.heap.size W W':=
 ⟨h.size,fun k o hk ho _=>(h.keep k (Array.getElem?_eq_some_iff.1 ho).1 (fun e=>by omega)).trans ho⟩
theorem pa.keep {wl W W':World} {g7 g8:Nat} (h:Mv (fun k=>k=g7∨k=g8) W W') (hl:wl.heap.size≤W.heap.size):ui (fun k=>k<wl.heap.size∧k≠g7∧k≠g8) W W':=
 ⟨h.size,fun k hk=>h.keep k (Nat.lt_of_lt_of_le hk.1 hl) (fun e=>e.elim hk.2.1 hk.2.2)⟩
theorem BN {wb w:World} {d:List UInt8} {g m nx i:Nat} {Y:Nat→Prop} (h:BL wb d g m nx Y w) (hni:nx≤i) (hi:i≤d.length) (hl:d.length≤1099511627776):
 Calls Tryz.prog 103 #[.pointer (some ⟨g,0,none⟩),I (i:Int)] w (bE fun r w'=>r=.tuple #[I ((cZ d i).1:Int),I ((cZ d i).2:Int)]∧∃nx' Y',nx'≤i∧BL wb d g m nx' Y' w'∧Mv (kO g m Y) w w'∧∀k,Y' k→Y k∨w.heap.size≤k):=by
 refine Fy (vs:=[.pointer (some ⟨g,0,none⟩),I (i:Int)]) Tryz.func103 Ll Ll Ll ?_
 obtain⟨A,n,c,k0,hd⟩:=h.blk
 have hf:∀k,kO g m Y k→k<w.heap.size:=fun k hk=>(h.low k hk).2
 have hw0:=h.ext.size
 refine af (aa ?_)
 obtain⟨g2,w2,hr2,l2,x2,k2⟩:=G0 (P:=Tryz.prog) (w:=w) (t:=155) (v:=.pointer (some ⟨g,0,none⟩)) rfl
 refine cL Ll Ll hr2 ?_
 obtain⟨g3,w3,hr3,l3,x3,k3⟩:=G0 (P:=Tryz.prog) (w:=w2) (t:=3) (v:=I (i:Int)) rfl
 refine cL Ll Ll hr3 ?_
 have h3:=h.xt (x2.trans x3)
 have x3':=(x2.trans x3)
 have hg2:w.heap.size≤g2:=l2
 have hg3:w.heap.size≤g3:=Nat.le_trans x2.size l3
 have k2:=k2.ext x3
 have b2:=k2.lt
 have b3:=k3.lt
 have nf2:¬kO g m Y g2:=fun hk=>by have:=hf _ hk;omega
 have nf3:¬kO g m Y g3:=fun hk=>by have:=hf _ hk;omega
 refine ac Ll Ll (ac Ll Ll (ag (ab (af (af ?_)))))
 have k1:=k0.ext (x2.trans x3)
 have hd1:=hd.ext h3.ext
 refine bz 7 [2,3,13,18] (by kernel_rfl) (by kernel_rfl) ?_
 refine aE Ll Ll (fun w hw=>aj KO Ll (hw.cell_some k3.c0)) (aS (r:=I ((i+4:Nat):Int)) Ll Ll Ll (fun w _=>by have e:((i+4:Nat):Int)=(i:Int)+4:=(by omega);rw[e];exact aK (by omega) (by omega)) ?_)
 refine aE Ll Ll (fun w hw=>aj K8 Ll (hw.cell_some k2.c0)) (cc Ll Ll (aN Ll Ll (fun w hw=>aF (o:=0) K7 Ll (by kernel_rfl) Ll) ?_))
 refine aE Ll Ll (fun w hw=>aj KQ Ll (hw.cell_some (k1.cell (i:=0) Ll))) (mh (vs:=[.slice A n c]) Ll Ll (fun w hw=>bC (hd1.ext hw)) ?_)
 refine bF ?_
 intro wg1 xg1
 rintro _ rfl
 rintro _ rfl
 rintro _ rfl
 rintro _ rfl
 refine ai Ll Ll Ll (ck) (ag (ab ?_))
 refine bi Ll (fun h19=>?_) (fun h19=>?_)
 ·refine af (aa (ac Ll Ll (ac Ll Ll (ag (ab (av (au (HL Ll Ll Ll ?_))))))))
  exact⟨_,rfl,by rw[BM (by omega)];rfl,nx,Y,hni,h3.xt xg1,Mv.of_ext ((x2.trans x3).trans xg1),fun k hk=>.inl hk⟩
 ·refine ar (ab (af (ax ?_)))
  refine bZ (α:=Nat) (fun x=>[(2,.pointer (some ⟨g2,0,none⟩)),(3,.pointer (some ⟨g3,0,none⟩))]) (fun x w'=>x≤i∧∃Y',BL wb d g m x Y' w'∧Mv (kO g m Y) w3 w'∧∀k,Y' k→Y k∨w3.heap.size≤k) (fun x=>i-x) (nx) ⟨rfl,rfl,trivial⟩ ⟨hni,Y,h3.xt xg1,Mv.of_ext xg1,fun k hk=>.inl hk⟩ ?_
  rintro x w4 ⟨hx2,Y',h4,mv4,hY4⟩
  refine af (af ?_)
  obtain⟨A,n,c,k1,hd⟩:=h4.blk
  have k2:=mv4.blk k2 nf2
  have k3:=mv4.blk k3 nf3
  have hd1:=hd.ext h4.ext
  refine bz 5 [2,3,23,24] (by kernel_rfl) (by kernel_rfl) ?_
  refine aE Ll Ll (fun w hw=>aj K8 Ll (hw.cell_some k2.c0)) (cc Ll Ll (aN Ll Ll (fun w hw=>aF (o:=2) K7 Ll (by kernel_rfl) Ll) ?_))
  refine aE Ll Ll (fun w hw=>aj KO Ll (hw.cell_some (k1.cell (i:=2) Ll))) (aE Ll Ll (fun w hw=>aj KO Ll (hw.cell_some k3.c0)) ?_)
  refine bF ?_
  intro wg3 xg3
  rintro _ rfl
  rintro _ rfl
  rintro _ rfl
  rintro _ rfl
  refine ai Ll Ll Ll (aW) (ag (ab ?_))
  refine bi Ll (fun h25=>?_) (fun h25=>?_)
  ·have hlt:x<i:=by omega
   have hq4:((d.drop x).take 4).length=4:=by rw[List.length_take,List.length_drop];omega
   refine ar (ab (af (ax (af (bz 7 [2,3,6,38] (by kernel_rfl) (by kernel_rfl) ?_)))))
   refine aE Ll Ll (fun w hw=>aj K8 Ll (hw.cell_some (xg3.cell_some k2.c0))) (aE Ll Ll (fun w hw=>aj K8 Ll (hw.cell_some (xg3.cell_some k2.c0))) ?_)
   refine cc Ll Ll (aN Ll Ll (fun w hw=>aF (o:=2) K7 Ll (by kernel_rfl) Ll) (aE Ll Ll (fun w hw=>aj KO Ll (hw.cell_some (xg3.cell_some (k1.cell (i:=2) Ll)))) ?_))
   refine ce (S:=Is (K4 ((d.drop x).take 4))) z5 (bt.is _) rfl (fun w hw=>by rintro _ rfl _ rfl;exact bE.mono (z6 (k1.ext (aI.trans xg3 hw)) (hd1.ext (aI.trans xg3 hw)) (by omega) hl) fun v w' h=>h) ?_
   refine wT (S:=Ib wg3.heap.size 221 [.int .u8 0,.int .u8 0,.int .u8 0,.int .u8 0]) (Ib.stable _ _ _) rfl (fun w' hw=>by obtain⟨g6,w2,h1,h2,h3,h4⟩:=be (P:=Tryz.prog) (w:=w') (l:=[.int .u8 0,.int .u8 0,.int .u8 0,.int .u8 0]) C3 rfl;exact⟨_,w2,h1,h3,g6,rfl,Nat.le_trans hw.size h2,h4⟩) ?_
   refine bF ?_
   intro wg5 xg5
   rintro _ rfl
   rintro _ rfl
   intro vg6 q6
   rintro _ rfl
   obtain⟨g6,rfl,l6,b6⟩:=q6
   obtain⟨w5,r5,gr5,b5⟩:=JF b6 rfl hq4
   refine aq Ll Ll (r5) ?_
   have x5:=aI.of_new (w:=w4) (xg3.trans xg5) gr5 (Nat.le_trans xg3.size l6)
   refine ag (ab (H0 10 [10,11,13,12,14] [2,3,42,43,49] (by kernel_rfl) (by kernel_rfl) Ll ?_))
   refine aE Ll Ll (fun w hw=>aj K8 Ll (hw.cell_some (x5.cell_some k2.c0))) (cc Ll Ll (aN Ll Ll (fun w hw=>aF (o:=1) K7 Ll (by kernel_rfl) Ll) ?_))
   refine aE Ll Ll (fun w hw=>aj Tryz.underlying156 Ll (hw.cell_some (x5.cell_some (k1.cell (i:=1) Ll)))) (aE Ll Ll (fun w hw=>mi (o:=0) (m:=((d.drop x).take 4).map U8) (b5.ext hw) (fun _ _ h=>by simpa using h) Tryz.underlying221 Ll (by rw[List.length_map,hq4];exact zX)) ?_)
   refine aE Ll Ll (fun w hw=>aj K8 Ll (hw.cell_some (x5.cell_some k2.c0))) (cc Ll Ll (aN Ll Ll (fun w hw=>aF (o:=2) K7 Ll (by kernel_rfl) Ll) ?_))
   refine aE rfl rfl (fun w hw=>aj Tryz.underlying3 rfl (hw.cell_some (x5.cell_some (k1.cell (i:=2) rfl)))) (eO (S:=ff wb.heap.size [(x:Int)]) (ff.stable _ _) rfl (fun w' hw=>by rintro _ rfl;obtain⟨r,w2,h1,h2,h3,_⟩:=Ct (w:=w') wb.heap.size [(x:Int)] (by simp) (Nat.le_trans h4.ext.size (Nat.le_trans x5.size hw.size));exact⟨r,w2,h1,h2,h3⟩) ?_)
   refine bF ?_
   intro wg6 xg6
   rintro _ rfl
   rintro _ rfl
   rintro _ rfl
   rintro _ rfl
   intro vg49 b49
   have h6:=h4.xt (x5.trans xg6)
   obtain⟨v50,q50,w50,r50,g50,o50,fin⟩:=h6.step (by omega) (k1.ext (x5.trans xg6)) hd
   refine AM Ll Ll Ll r50 ?_
   refine ak Ll Ll (aT) (ak Ll Ll (aU) ?_)
   obtain⟨v51,w51,r51,o51,gr51⟩:=I9 (ty:=66) o50 (b49.kept g50 (.inr (h6.map.ne_row b49))).its (by have:=C0 d ((d.drop x).take 4) x;simp only[jl,List.length_map,List.length_cons,List.length_nil];omega) (Nat.le_trans h6.ext.size g50.size)
   refine bc Ll Ll r51 ?_
   obtain⟨w6,r6,mv6,k6,fin⟩:=fin v51 w51 gr51 o51
   refine xi Ll Ll Ll r6 ?_
   have sz4:w3.heap.size≤wg6.heap.size:=Nat.le_trans mv4.size (Nat.le_trans x5.size xg6.size)
   have nX:∀k,w.heap.size≤k→k<w3.heap.size→¬(k=m∨Y' k):=fun k h1 h2 hk=>by
    rcases hk with hk|hk
    ·have:=hf m (.inr (.inl rfl));omega
    ·rcases hY4 k hk with h|h
     ·have:=hf k (.inr (.inr h));omega
     ·omega
   have k26:=mv6.blk (k2.ext (aI.trans x5 xg6)) (nX g2 hg2 b2)
   refine ag (xJ (aJ (ab (aa (am Ll Ll (aj K8 Ll k26.c0) (aH Ll Ll (ah Ll Ll (aF (o:=2) K7 Ll (by kernel_rfl) Ll) ?_)))))))
   refine am Ll Ll (aj KO Ll (k6.cell (i:=2) Ll)) (ai (r:=I ((x+1:Nat):Int)) Ll Ll Ll (by have e:((x+1:Nat):Int)=(x:Int)+1:=(by omega);rw[e];exact aK (by omega) (by omega)) ?_)
   refine aH Ll Ll (ah Ll Ll (aF (o:=2) K7 Ll (by kernel_rfl) Ll) ?_)
   obtain⟨w7,r7,gr7,k7⟩:∃w7,(Instr.storeAt 3 (.pointer (some ⟨g,2,none⟩)) (I ((x+1:Nat):Int))).run Tryz.prog w6=.ok () w7∧w6.grownBy w7 (some g)∧cd g 158 [.slice A n c,.map (some m),I ((x+1:Nat):Int)] w7:=⟨_,dv (i:=2) dD rfl k6 (by simp),ba _ _ _ _,k6.set 2 _⟩
   obtain⟨Y7,h7,mv7,hY7⟩:=fin w7 gr7 k7
   refine aq Ll Ll (r7) (ag ?_)
   have mv7':Mv (kO g m Y) w3 w7:=(mv4.trans (Mv.of_ext (X:=fun _=>False) (aI.trans x5 xg6)) (fun _ hn _=>hn.elim)).trans mv7 (fun k hk hl=>by
    rcases hk with hk|hk|hk
    ·exact .inl hk
    ·exact .inr (.inl hk)
    ·rcases hY4 k hk with h|h
     ·exact .inr (.inr h)
     ·omega)
   have hY7':∀k,Y7 k→Y k∨w3.heap.size≤k:=fun k hk=>by
    rcases hY7 k hk with h|h
    ·exact hY4 k h
    ·exact .inr (by omega)
   refine bQ (x+1) ⟨rfl,rfl,trivial⟩ ⟨by omega,Y7,h7,mv7',hY7'⟩ (by omega)
  ·have hxi:i=x:=by omega
   subst hxi
   have hi4:i+4≤d.length:=by omega
   have hq4:((d.drop i).take 4).length=4:=by rw[List.length_take,List.length_drop];omega
   refine aY (aB (aB (aX (ab (af (aa ?_))))))
   obtain⟨g7,w7,hr7,l7,x7,k7⟩:=be (P:=Tryz.prog) (w:=wg3) (l:=[I 0]) z7 rfl
   refine bf Ll hr7 ?_
   obtain⟨g8,w8,hr8,l8,x8,k8⟩:=be (P:=Tryz.prog) (w:=w7) (l:=[I 0]) z7 rfl
   refine bf Ll hr8 ?_
   have hg7:w3.heap.size≤g7:=Nat.le_trans mv4.size (Nat.le_trans xg3.size l7)
   have hg8:w3.heap.size≤g8:=Nat.le_trans mv4.size (Nat.le_trans xg3.size (Nat.le_trans x7.size l8))
   have h78:g7≠g8:=by have:=k7.lt;omega
   have kk7:=k7.ext x8
   obtain⟨w71,r71,gr71,k71⟩:=gj (P:=Tryz.prog) (t:=3) (v:=I 0) dD rfl kk7
   refine aq Ll Ll (r71) ?_
   have x71:=aI.of_new (w:=w4) ((xg3.trans x7).trans x8) gr71 (Nat.le_trans xg3.size l7)
   have kk8:=k8.other gr71 (fun e=>h78 (Option.some.inj e).symm)
   obtain⟨w72,r72,gr72,k72⟩:=gj (P:=Tryz.prog) (t:=3) (v:=I 0) dD rfl kk8
   refine aq Ll Ll (r72) ?_
   have x72:=aI.of_new (w:=w4) x71 gr72 (Nat.le_trans xg3.size (Nat.le_trans x7.size l8))
   have k73:=k71.other gr72 (fun e=>h78 (Option.some.inj e))
   refine ag (ab (af (af (bz 8 [2,3,7,8,60] (by kernel_rfl) (by kernel_rfl) ?_))))
   refine aE Ll Ll (fun w hw=>aj K8 Ll (hw.cell_some (x72.cell_some k2.c0))) (cc Ll Ll (aN Ll Ll (fun w hw=>aF (o:=1) K7 Ll (by kernel_rfl) Ll) ?_))
   refine aE Ll Ll (fun w hw=>aj Lj Ll (hw.cell_some (x72.cell_some (k1.cell (i:=1) Ll)))) (aE Ll Ll (fun w hw=>aj K8 Ll (hw.cell_some (x72.cell_some k2.c0))) ?_)
   refine aE rfl rfl (fun w hw=>aj KO rfl (hw.cell_some (x72.cell_some k3.c0))) (ce (S:=Is (K4 ((d.drop i).take 4))) z5 (bt.is _) rfl (fun w hw=>by rintro _ rfl _ rfl;exact bE.mono (z6 (k1.ext (aI.trans x72 hw)) (hd1.ext (aI.trans x72 hw)) (by omega) hl) fun v w' h=>h) ?_)
   refine Dw (S:=Is (.map (some m))) (R:=Is (K4 ((d.drop i).take 4))) (S':=fun v w=>ff wb.heap.size (jl d ((d.drop i).take 4) i) v w∧∀k,v.ownBlock=some k→Y' k) rfl rfl (fun _ _ _ h hx=>⟨h.1.ext hx,h.2⟩) rfl (fun w u v hw hu hv=>by subst hu;subst hv;exact((h4.map.ext (aI.trans x72 hw)).look hq4).elim fun r h=>⟨r,h.1,h.2⟩) ?_
   refine bF ?_
   intro wg8 xg8
   rintro _ rfl
   rintro _ rfl
   rintro _ rfl
   rintro _ rfl
   intro vg60 q60
   obtain⟨o60,hY60⟩:=q60
   obtain⟨A6,n6,c6,rfl⟩:=o60.isSlice
   refine an GY Ll Ll (GZ) ?_
   rintro v61 w61 ⟨x61,rfl,hw61⟩
   refine ag (ab (ax ?_))
   have bs:cd wg8.heap.size 66 [.slice A6 n6 c6] w61:=by rw[hw61];exact heap_alloc_new _ _
   have f7:=k73.ext (xg8.trans x61)
   have f8:=k72.ext (xg8.trans x61)
   have l7':g7<w61.heap.size:=f7.lt
   have l8':g8<w61.heap.size:=f8.lt
   have xl:=((x72.trans xg8).trans x61)
   have szl:w3.heap.size≤w61.heap.size:=Nat.le_trans mv4.size xl.size
   have hpl:=yi d i
   have hnY:∀k,Y' k→k≠g7∧k≠g8:=fun k hk=>by have:=(h4.low k (.inr (.inr hk))).2;have:=xg3.size;have:=x7.size;omega
   have hR0:pa w61 g7 g8 (uW d i []) w61:=⟨f7,f8,Mv.refl _ _⟩
   refine yH (α:=Pl d i) (encs:=Pl.enc) (Kp:=ui fun k=>k<w61.heap.size∧k≠g7∧k≠g8) (S:=fun xs=>xs=EG d i) (Sp:=fun pre=>pre<+:EG d i) (M:=(EG d i).length) (w0:=w61) Ll EE (BI (o60.ext x61) bs ⟨bs.lt,by have:=xg8.size;have:=kk7.lt;have:=gr71.size;have:=gr72.size;omega,by have:=xg8.size;have:=kk8.lt;have:=gr72.size;omega⟩ (fun k hk=>⟨((o60.ext x61).lt k hk).2,hnY k (hY60 k hk)⟩) (by simp only[hpl,jl,List.length_map]) (by have:=C0 d ((d.drop i).take 4) i;simp only[jl,List.length_map];omega) (Ic d i)) (fun h k=>h.trans k) ?_ (Below.refl _ _) (fun _=>rfl) (fun pre W=>pa w61 g7 g8 (uW d i pre) W∧∀p∈pre,i-p.1.2≤4096) (fun c pre W=>c=.exit 2∧∃pre' y,pre=pre'++[y]∧(∀p∈pre',i-p.1.2≤4096)∧((4096<i-y.1.2∧pa w61 g7 g8 (uW d i pre') W)∨(i-y.1.2≤4096∧i+ml d i (i-y.1.2)=d.length∧pa w61 g7 g8 (uW d i pre) W))) (fun s W W' row hs hg hr=>⟨hs.1.own l7' l8' hg (fun r e=>(hr r e).1),hs.2⟩) (fun c s W W' row hs hg hr=>hs.elim fun h1 h=>⟨h1,h.elim fun pre' h=>h.elim fun y h=>⟨pre',y,h.1,h.2.1,h.2.2.imp (fun h=>⟨h.1,h.2.own l7' l8' hg (fun r e=>(hr r e).1)⟩) (fun h=>⟨h.1,h.2.1,h.2.2.own l7' l8' hg (fun r e=>(hr r e).1)⟩)⟩⟩) ⟨hR0,by simp⟩ (fun y=>(10,I (y.1.2:Int))::(63,I (y.1.2:Int))::(62,I (y.1.1:Int))::_) (fun _=>rfl) Ll Ll Ll ?_ ?_ ?_
   ·intro W l o o' hl' ho _ _
    exact⟨(grownBy_putObj' W l o').size,fun k hk=>World.putObj_heap_other (by have:=hk.1;omega)⟩
   ·rintro lp pre y W ⟨hI,hpre⟩ hlen
    have hy1:y.1.2<i:=y.2.1
    have hy2:=y.2.2
    have mvW:=hI.mv
    have n78:∀k,k<w3.heap.size→¬(k=g7∨k=g8):=fun k hk e=>by omega
    have k2:=mvW.blk (k2.ext xl) (n78 g2 b2)
    have k3:=mvW.blk (k3.ext xl) (n78 g3 b3)
    have k1:=mvW.blk (k1.ext xl) (n78 g (Nat.lt_of_lt_of_le (hf g (.inl rfl)) (aI.size x3')))
    have hdW:=hd.ext (mvW.ext_from (h4.ext.trans xl) (fun k hk=>by have:=h3.ext.size;omega))
    refine I.ax (I.af (I.af (I.aa Ll (am Ll Ll (aj KO Ll k3.c0) (ae Ll Ll (ai (r:=I ((i-y.1.2:Nat):Int)) Ll Ll Ll (by have e:((i-y.1.2:Nat):Int)=(i:Int)-(y.1.2:Int):=(by omega);rw[e];exact bg (by omega) (by omega)) ?_))))))
    refine ai Ll Ll Ll (ck) (ag (I.ab ?_))
    refine I.bi Ll (fun h67=>?_) (fun h67=>?_)
    ·refine I.aY (aB (rf Ll ?_))
     exact fun _ _=>⟨KeepsFrom.refl _ _,rfl,pre,y,rfl,hpre,.inl ⟨by omega,hI⟩⟩
    ·refine I.ar (I.ab (I.af (I.aa Ll (ac Ll Ll (ag (I.ab (I.af (I.ax ?_))))))))
     refine I.bZ (α:=Nat) (fun n'=>[(2,.pointer (some ⟨g2,0,none⟩)),(3,.pointer (some ⟨g3,0,none⟩)),(7,.pointer (some ⟨g7,0,none⟩)),(8,.pointer (some ⟨g8,0,none⟩)),(10,I (y.1.2:Int)),(11,I (n':Int))]) (fun n' w'=>aI W w'∧4≤n'∧i+n'≤d.length∧ml d i (i-y.1.2)=n'+j7 (d.drop (i+n')) (d.drop (y.1.2+n'))) (fun n'=>d.length-n') (4) ⟨rfl,rfl,rfl,rfl,rfl,rfl,trivial⟩ ⟨aI.refl _,by omega,hi4,GO hi4 hy1 hy2⟩ ?_
     rintro n' w12 ⟨e12,hn4,hnl,hml⟩
     refine I.af (I.af ?_)
     have hdX:=hdW.ext e12
     have k1X:=k1.ext e12
     have k2X:=k2.ext e12
     have k3X:=k3.ext e12
     have c7X:=hI.c7.ext e12
     have c8X:=hI.c8.ext e12
     by_cases h76:((i+n':Nat):Int)<((d.length:Nat):Int)
     ·refine I.bz 29 [2,3,7,8,10,11,77,96] (by kernel_rfl) (by kernel_rfl) Ll ?_
      refine aE Ll Ll (fun w hw=>aj KO Ll (hw.cell_some k3X.c0)) (ap Ll Ll (aS (r:=I ((i+n':Nat):Int)) Ll Ll Ll (fun w _=>by have e:((i+n':Nat):Int)=(i:Int)+(n':Int):=(by omega);rw[e];exact aK (by omega) (by omega)) ?_))
      refine aE Ll Ll (fun w hw=>aj K8 Ll (hw.cell_some k2X.c0)) (cc Ll Ll (aN Ll Ll (fun w hw=>aF (o:=0) K7 Ll (by kernel_rfl) Ll) ?_))
      refine aE Ll Ll (fun w hw=>aj KQ Ll (hw.cell_some (k1X.cell (i:=0) Ll))) (mh (vs:=[.slice A n c]) Ll Ll (fun w hw=>bC (hdX.ext hw)) ?_)
      refine aS Ll Ll Ll (fun w _=>cg h76 aW) (ap Ll Ll (bh Ll Ll (aE Ll Ll (fun w hw=>aj K8 Ll (hw.cell_some k2X.c0)) ?_)))
      refine bh Ll Ll (cc Ll Ll (bh Ll Ll (aN Ll Ll (fun w hw=>aF (o:=0) K7 Ll (by kernel_rfl) Ll) ?_)))
      refine bh Ll Ll (aE Ll Ll (fun w hw=>aj KQ Ll (hw.cell_some (k1X.cell (i:=0) Ll))) (bh Ll Ll (ap Ll Ll (bh Ll Ll ?_))))
      refine ap Ll Ll (bh Ll Ll (aS (r:=I ((y.1.2+n':Nat):Int)) Ll Ll Ll (fun w _=>by have e:((y.1.2+n':Nat):Int)=(y.1.2:Int)+(n':Int):=(by omega);rw[e];exact aK (by omega) (by omega)) ?_))
      refine bh Ll Ll ?_
      obtain⟨a85,p85,q85⟩:=eD hdX (i:=(y.1.2+n':Nat)) (by omega) .i64
      refine az Ll Ll Ll (fun w _=>p85 w) (bh Ll Ll (aE Ll Ll (fun w hw=>aj KS Ll (hw.cell_some q85)) (bh Ll Ll ?_)))
      refine aE Ll Ll (fun w hw=>aj K8 Ll (hw.cell_some k2X.c0)) (bh Ll Ll (cc Ll Ll (bh Ll Ll (aN Ll Ll (fun w hw=>aF (o:=0) K7 Ll (by kernel_rfl) Ll) ?_))))
      refine bh Ll Ll (aE Ll Ll (fun w hw=>aj KQ Ll (hw.cell_some (k1X.cell (i:=0) Ll))) (bh Ll Ll (aE Ll Ll (fun w hw=>aj KO Ll (hw.cell_some k3X.c0)) ?_)))
      refine bh Ll Ll (ap Ll Ll (bh Ll Ll (aS (r:=I ((i+n':Nat):Int)) Ll Ll Ll (fun w _=>by have e:((i+n':Nat):Int)=(i:Int)+(n':Int):=(by omega);rw[e];exact aK (by omega) (by omega)) ?_)))
      refine bh Ll Ll ?_
      obtain⟨a94,p94,q94⟩:=eD hdX (i:=(i+n':Nat)) (by omega) .i64
      refine az Ll Ll Ll (fun w _=>p94 w) (bh Ll Ll (aE Ll Ll (fun w hw=>aj KS Ll (hw.cell_some q94)) (bh Ll Ll ?_)))
      refine aS Ll Ll Ll (fun w _=>iW) (bF ?_)
      intro wg12 xg12
      rintro _ rfl
      rintro _ rfl
      rintro _ rfl
      rintro _ rfl
      rintro _ rfl
      rintro _ rfl
      rintro _ rfl
      rintro _ rfl
      refine aw Ll Ll Ll (ag (I.ab ?_))
      refine I.bi Ll (fun h97=>?_) (fun h97=>?_)
      ·refine I.ar (I.ab (I.ax (I.aa Ll (ae Ll Ll (ai (r:=I ((n'+1:Nat):Int)) Ll Ll Ll (by have e:((n'+1:Nat):Int)=(n':Int)+1:=(by omega);rw[e];exact aK (by omega) (by omega)) ?_)))))
       refine ac Ll Ll (ag (aJ ?_))
       refine bQ (n'+1) ⟨rfl,rfl,rfl,rfl,rfl,rfl,trivial⟩ ⟨(e12.trans xg12),by omega,by omega,by rw[hml,BK (by omega) (by omega),if_pos (show d[i+n']=d[y.1.2+n'] from h97.symm),show i+(n'+1)=i+n'+1 by omega,show y.1.2+(n'+1)=y.1.2+n'+1 by omega];omega⟩ (by omega)
      ·refine I.aY (aB (aB (aX (I.ab (I.af (I.af ?_))))))
       have hnn:ml d i (i-y.1.2)=n':=by
        first
        |(rw[hml,BK (by omega) (by omega),if_neg (fun e=>h97 e.symm)];rfl)
        |(rw[hml,C6 (by omega)];rfl)
       refine I.aa Ll (ae Ll Ll (am Ll Ll (aj KO Ll (xg12.cell_some c7X.c0)) (ai Ll Ll Ll (ck) (ag (I.ab ?_)))))
       refine I.bi Ll (fun h102=>?_) (fun h102=>?_)
       ·have hstp:uW d i (pre++[y])=(n',i-y.1.2):=by rw[pR,GN,hnn,if_pos (by omega)]
        have hS0:wg12.drew.cell? ⟨g3,0,none⟩=some (I (i:Int)):=(k3.ext (aI.trans e12 xg12).drew).c0
        obtain⟨w15,r15,gr15,k15⟩:=gj (P:=Tryz.prog) (t:=3) (v:=I (n':Int)) dD rfl (hI.c7.ext (aI.trans e12 xg12).drew)
        obtain⟨w16,r16,gr16,k16⟩:=gj (P:=Tryz.prog) (t:=3) (v:=I ((i-y.1.2:Nat):Int)) dD rfl ((hI.c8.ext (aI.trans e12 xg12).drew).other gr15 (fun e=>h78 (Option.some.inj e).symm))
        have h37:g3≠g7∧g3≠g8:=by omega
        have hS1:w15.cell? ⟨g3,0,none⟩=some (I (i:Int)):=((k3.ext (aI.trans e12 xg12).drew).other gr15 (fun e=>h37.1 (Option.some.inj e))).c0
        have hS2:w16.cell? ⟨g3,0,none⟩=some (I (i:Int)):=(((k3.ext (aI.trans e12 xg12).drew).other gr15 (fun e=>h37.1 (Option.some.inj e))).other gr16 (fun e=>h37.2 (Option.some.inj e))).c0
        refine I.Ji (fun w'=>w'.cell? ⟨g3,0,none⟩=some (I (i:Int))) 6 Ll (by kernel_rfl) Ll ?_
        refine qz 0 Ll Ll (by kernel_rfl) Ll hS0 ?_
        refine xr 1 Ll Ll (by kernel_rfl) Ll hS0 (fun w' hS=>aj KO Ll hS) ?_
        refine qz 2 Ll Ll (by kernel_rfl) Ll hS0 ?_
        refine IL 3 (r:=I ((i-y.1.2:Nat):Int)) Ll Ll Ll (by kernel_rfl) Ll hS0 (fun w' _=>by have e:((i-y.1.2:Nat):Int)=(i:Int)-(y.1.2:Int):=(by omega);rw[e];exact bg (by omega) (by omega)) ?_
        refine jG 4 (by kernel_rfl) Ll (aq Ll Ll r15 (fa hS1 ?_))
        refine jG 5 (by kernel_rfl) Ll (aq Ll Ll r16 (fa hS2 ?_))
        refine xu (by kernel_rfl) ?_
        have mv16:Mv (fun k=>k=g7∨k=g8) W w16:=((Mv.of_ext (X:=fun k=>k=g7∨k=g8) (aI.trans e12 xg12).drew).trans (Mv.of_grown (X:=fun k=>k=g7∨k=g8) gr15 (fun k e _=>.inl (Option.some.inj e).symm)) (fun _ hn _=>hn)).trans (Mv.of_grown (X:=fun k=>k=g7∨k=g8) gr16 (fun k e _=>.inr (Option.some.inj e).symm)) (fun _ hn _=>hn)
        have hR:pa w61 g7 g8 (uW d i (pre++[y])) w16:=by rw[hstp];exact⟨k15.other gr16 (fun e=>h78 (Option.some.inj e)),k16,hI.mv.trans mv16 (fun _ hn _=>hn)⟩
        refine I.ab (I.af ?_)
        have k1:=mv16.blk k1 (n78 g (Nat.lt_of_lt_of_le (hf g (.inl rfl)) (aI.size x3')))
        have k3:=mv16.blk k3 (n78 g3 b3)
        have k2:=mv16.blk k2 (n78 g2 b2)
        have hdX:=hd.ext ((hI.mv.trans mv16 (fun _ hn _=>hn)).ext_from (h4.ext.trans xl) (fun k hk=>by have:=h3.ext.size;omega))
        refine I.bz 8 [109,114] (by kernel_rfl) (by kernel_rfl) Ll ?_
        refine aE Ll Ll (fun w hw=>aj KO Ll (hw.cell_some k3.c0)) (ap Ll Ll (aS (r:=I ((i+n':Nat):Int)) Ll Ll Ll (fun w _=>by have e:((i+n':Nat):Int)=(i:Int)+(n':Int):=(by omega);rw[e];exact aK (by omega) (by omega)) ?_))
        refine aE Ll Ll (fun w hw=>aj K8 Ll (hw.cell_some k2.c0)) (cc Ll Ll (aN Ll Ll (fun w hw=>aF (o:=0) K7 Ll (by kernel_rfl) Ll) ?_))
        refine aE Ll Ll (fun w hw=>aj KQ Ll (hw.cell_some (k1.cell (i:=0) Ll))) (mh (vs:=[.slice A n c]) Ll Ll (fun w hw=>bC (hdX.ext hw)) ?_)
        refine bF ?_
        intro wg16 xg16
        rintro _ rfl
        rintro _ rfl
        refine ai Ll Ll Ll (aZ) (ag (I.ab ?_))
        refine I.bi Ll (fun h115=>?_) (fun h115=>?_)
        ·refine I.aY (rf Ll ?_)
         exact fun _ _=>⟨pa.keeps (mv16.trans (Mv.of_ext (X:=fun _=>False) xg16) (fun _ hn _=>hn.elim)) l7' l8',rfl,pre,y,rfl,hpre,.inr ⟨by omega,by omega,hR.xt xg16⟩⟩
        ·refine I.ar (aJ ?_)
         exact fun _ _=>⟨pa.keeps (mv16.trans (Mv.of_ext (X:=fun _=>False) xg16) (fun _ hn _=>hn.elim)) l7' l8',pa.keep (mv16.trans (Mv.of_ext (X:=fun _=>False) xg16) (fun _ hn _=>hn.elim)) hI.mv.size,hR.xt xg16,fun p hp=>(List.mem_append.1 hp).elim (hpre p) (fun hp=>by rw[List.mem_singleton.1 hp];omega)⟩
       ·have hstp:uW d i (pre++[y])=uW d i pre:=by rw[pR,GN,hnn,if_neg (by omega)]
        refine I.ar (I.ab (I.af ?_))
        have mv16:Mv (fun k=>k=g7∨k=g8) W wg12:=Mv.of_ext (aI.trans e12 xg12)
        have hR:pa w61 g7 g8 (uW d i (pre++[y])) wg12:=by rw[hstp];exact hI.xt (aI.trans e12 xg12)
        refine I.bz 8 [109,114] (by kernel_rfl) (by kernel_rfl) Ll ?_
        refine aE Ll Ll (fun w hw=>aj KO Ll (hw.cell_some (xg12.cell_some k3X.c0))) (ap Ll Ll (aS (r:=I ((i+n':Nat):Int)) Ll Ll Ll (fun w _=>by have e:((i+n':Nat):Int)=(i:Int)+(n':Int):=(by omega);rw[e];exact aK (by omega) (by omega)) ?_))
        refine aE Ll Ll (fun w hw=>aj K8 Ll (hw.cell_some (xg12.cell_some k2X.c0))) (cc Ll Ll (aN Ll Ll (fun w hw=>aF (o:=0) K7 Ll (by kernel_rfl) Ll) ?_))
        refine aE Ll Ll (fun w hw=>aj KQ Ll (hw.cell_some (xg12.cell_some (k1X.cell (i:=0) Ll)))) (mh (vs:=[.slice A n c]) Ll Ll (fun w hw=>bC ((hdX.ext xg12).ext hw)) ?_)
        refine bF ?_
        intro wg16 xg16
        rintro _ rfl
        rintro _ rfl
        refine ai Ll Ll Ll (aZ) (ag (I.ab ?_))
        refine I.bi Ll (fun h115=>?_) (fun h115=>?_)
        ·refine I.aY (rf Ll ?_)
         exact fun _ _=>⟨pa.keeps (mv16.trans (Mv.of_ext (X:=fun _=>False) xg16) (fun _ hn _=>hn.elim)) l7' l8',rfl,pre,y,rfl,hpre,.inr ⟨by omega,by omega,hR.xt xg16⟩⟩
        ·refine I.ar (aJ ?_)
         exact fun _ _=>⟨pa.keeps (mv16.trans (Mv.of_ext (X:=fun _=>False) xg16) (fun _ hn _=>hn.elim)) l7' l8',pa.keep (mv16.trans (Mv.of_ext (X:=fun _=>False) xg16) (fun _ hn _=>hn.elim)) hI.mv.size,hR.xt xg16,fun p hp=>(List.mem_append.1 hp).elim (hpre p) (fun hp=>by rw[List.mem_singleton.1 hp];omega)⟩
     ·refine I.bz 29 [2,3,7,8,10,11,77,96] (by kernel_rfl) (by kernel_rfl) Ll ?_
      refine aE Ll Ll (fun w hw=>aj KO Ll (hw.cell_some k3X.c0)) (ap Ll Ll (aS (r:=I ((i+n':Nat):Int)) Ll Ll Ll (fun w _=>by have e:((i+n':Nat):Int)=(i:Int)+(n':Int):=(by omega);rw[e];exact aK (by omega) (by omega)) ?_))
      refine aE Ll Ll (fun w hw=>aj K8 Ll (hw.cell_some k2X.c0)) (cc Ll Ll (aN Ll Ll (fun w hw=>aF (o:=0) K7 Ll (by kernel_rfl) Ll) ?_))
      refine aE Ll Ll (fun w hw=>aj KQ Ll (hw.cell_some (k1X.cell (i:=0) Ll))) (mh (vs:=[.slice A n c]) Ll Ll (fun w hw=>bC (hdX.ext hw)) ?_)
      refine aS Ll Ll Ll (fun w _=>cf h76 aW) (ap Ll Ll (cD Ll Ll Ll (cD Ll Ll Ll (cD Ll Ll Ll (cD Ll Ll Ll (cD Ll Ll Ll (cD Ll Ll Ll ?_)))))))
      refine cD Ll Ll Ll (cD Ll Ll Ll (cD Ll Ll Ll (cD Ll Ll Ll (cD Ll Ll Ll (cD Ll Ll Ll (cD Ll Ll Ll (cD Ll Ll Ll (cD Ll Ll Ll (cD Ll Ll Ll ?_)))))))))
      refine cD Ll Ll Ll (cD Ll Ll Ll (cD Ll Ll Ll (bF ?_)))
      intro wg12 xg12
      rintro _ rfl
      rintro _ rfl
      rintro _ rfl
      rintro _ rfl
      rintro _ rfl
      rintro _ rfl
      rintro _ rfl
      rintro _ rfl
      refine aC Ll Ll Ll (ag (I.ab (I.cp Ll (I.aY (aB (aB (aX (I.ab (I.af (I.af ?_))))))))))
      have hnn:ml d i (i-y.1.2)=n':=by
       first
       |(rw[hml,BK (by omega) (by omega),if_neg (fun e=>h97 e.symm)];rfl)
       |(rw[hml,C6 (by omega)];rfl)
      refine I.aa Ll (ae Ll Ll (am Ll Ll (aj KO Ll (xg12.cell_some c7X.c0)) (ai Ll Ll Ll (ck) (ag (I.ab ?_)))))
      refine I.bi Ll (fun h102=>?_) (fun h102=>?_)
      ·have hstp:uW d i (pre++[y])=(n',i-y.1.2):=by rw[pR,GN,hnn,if_pos (by omega)]
       have hS0:wg12.drew.cell? ⟨g3,0,none⟩=some (I (i:Int)):=(k3.ext (aI.trans e12 xg12).drew).c0
       obtain⟨w15,r15,gr15,k15⟩:=gj (P:=Tryz.prog) (t:=3) (v:=I (n':Int)) dD rfl (hI.c7.ext (aI.trans e12 xg12).drew)
       obtain⟨w16,r16,gr16,k16⟩:=gj (P:=Tryz.prog) (t:=3) (v:=I ((i-y.1.2:Nat):Int)) dD rfl ((hI.c8.ext (aI.trans e12 xg12).drew).other gr15 (fun e=>h78 (Option.some.inj e).symm))
       have h37:g3≠g7∧g3≠g8:=by omega
       have hS1:w15.cell? ⟨g3,0,none⟩=some (I (i:Int)):=((k3.ext (aI.trans e12 xg12).drew).other gr15 (fun e=>h37.1 (Option.some.inj e))).c0
       have hS2:w16.cell? ⟨g3,0,none⟩=some (I (i:Int)):=(((k3.ext (aI.trans e12 xg12).drew).other gr15 (fun e=>h37.1 (Option.some.inj e))).other gr16 (fun e=>h37.2 (Option.some.inj e))).c0
       refine I.Ji (fun w'=>w'.cell? ⟨g3,0,none⟩=some (I (i:Int))) 6 Ll (by kernel_rfl) Ll ?_
       refine qz 0 Ll Ll (by kernel_rfl) Ll hS0 ?_
       refine xr 1 Ll Ll (by kernel_rfl) Ll hS0 (fun w' hS=>aj KO Ll hS) ?_
       refine qz 2 Ll Ll (by kernel_rfl) Ll hS0 ?_
       refine IL 3 (r:=I ((i-y.1.2:Nat):Int)) Ll Ll Ll (by kernel_rfl) Ll hS0 (fun w' _=>by have e:((i-y.1.2:Nat):Int)=(i:Int)-(y.1.2:Int):=(by omega);rw[e];exact bg (by omega) (by omega)) ?_
       refine jG 4 (by kernel_rfl) Ll (aq Ll Ll r15 (fa hS1 ?_))
       refine jG 5 (by kernel_rfl) Ll (aq Ll Ll r16 (fa hS2 ?_))
       refine xu (by kernel_rfl) ?_
       have mv16:Mv (fun k=>k=g7∨k=g8) W w16:=((Mv.of_ext (X:=fun k=>k=g7∨k=g8) (aI.trans e12 xg12).drew).trans (Mv.of_grown (X:=fun k=>k=g7∨k=g8) gr15 (fun k e _=>.inl (Option.some.inj e).symm)) (fun _ hn _=>hn)).trans (Mv.of_grown (X:=fun k=>k=g7∨k=g8) gr16 (fun k e _=>.inr (Option.some.inj e).symm)) (fun _ hn _=>hn)
       have hR:pa w61 g7 g8 (uW d i (pre++[y])) w16:=by rw[hstp];exact⟨k15.other gr16 (fun e=>h78 (Option.some.inj e)),k16,hI.mv.trans mv16 (fun _ hn _=>hn)⟩
       refine I.ab (I.af ?_)
       have k1:=mv16.blk k1 (n78 g (Nat.lt_of_lt_of_le (hf g (.inl rfl)) (aI.size x3')))
       have k3:=mv16.blk k3 (n78 g3 b3)
       have k2:=mv16.blk k2 (n78 g2 b2)
       have hdX:=hd.ext ((hI.mv.trans mv16 (fun _ hn _=>hn)).ext_from (h4.ext.trans xl) (fun k hk=>by have:=h3.ext.size;omega))
       refine I.bz 8 [109,114] (by kernel_rfl) (by kernel_rfl) Ll ?_
       refine aE Ll Ll (fun w hw=>aj KO Ll (hw.cell_some k3.c0)) (ap Ll Ll (aS (r:=I ((i+n':Nat):Int)) Ll Ll Ll (fun w _=>by have e:((i+n':Nat):Int)=(i:Int)+(n':Int):=(by omega);rw[e];exact aK (by omega) (by omega)) ?_))
       refine aE Ll Ll (fun w hw=>aj K8 Ll (hw.cell_some k2.c0)) (cc Ll Ll (aN Ll Ll (fun w hw=>aF (o:=0) K7 Ll (by kernel_rfl) Ll) ?_))
       refine aE Ll Ll (fun w hw=>aj KQ Ll (hw.cell_some (k1.cell (i:=0) Ll))) (mh (vs:=[.slice A n c]) Ll Ll (fun w hw=>bC (hdX.ext hw)) ?_)
       refine bF ?_
       intro wg16 xg16
       rintro _ rfl
       rintro _ rfl
       refine ai Ll Ll Ll (aZ) (ag (I.ab ?_))
       refine I.bi Ll (fun h115=>?_) (fun h115=>?_)
       ·refine I.aY (rf Ll ?_)
        exact fun _ _=>⟨pa.keeps (mv16.trans (Mv.of_ext (X:=fun _=>False) xg16) (fun _ hn _=>hn.elim)) l7' l8',rfl,pre,y,rfl,hpre,.inr ⟨by omega,by omega,hR.xt xg16⟩⟩
       ·refine I.ar (aJ ?_)
        exact fun _ _=>⟨pa.keeps (mv16.trans (Mv.of_ext (X:=fun _=>False) xg16) (fun _ hn _=>hn.elim)) l7' l8',pa.keep (mv16.trans (Mv.of_ext (X:=fun _=>False) xg16) (fun _ hn _=>hn.elim)) hI.mv.size,hR.xt xg16,fun p hp=>(List.mem_append.1 hp).elim (hpre p) (fun hp=>by rw[List.mem_singleton.1 hp];omega)⟩
      ·have hstp:uW d i (pre++[y])=uW d i pre:=by rw[pR,GN,hnn,if_neg (by omega)]
       refine I.ar (I.ab (I.af ?_))
       have mv16:Mv (fun k=>k=g7∨k=g8) W wg12:=Mv.of_ext (aI.trans e12 xg12)
       have hR:pa w61 g7 g8 (uW d i (pre++[y])) wg12:=by rw[hstp];exact hI.xt (aI.trans e12 xg12)
       refine I.bz 8 [109,114] (by kernel_rfl) (by kernel_rfl) Ll ?_
       refine aE Ll Ll (fun w hw=>aj KO Ll (hw.cell_some (xg12.cell_some k3X.c0))) (ap Ll Ll (aS (r:=I ((i+n':Nat):Int)) Ll Ll Ll (fun w _=>by have e:((i+n':Nat):Int)=(i:Int)+(n':Int):=(by omega);rw[e];exact aK (by omega) (by omega)) ?_))
       refine aE Ll Ll (fun w hw=>aj K8 Ll (hw.cell_some (xg12.cell_some k2X.c0))) (cc Ll Ll (aN Ll Ll (fun w hw=>aF (o:=0) K7 Ll (by kernel_rfl) Ll) ?_))
       refine aE Ll Ll (fun w hw=>aj KQ Ll (hw.cell_some (xg12.cell_some (k1X.cell (i:=0) Ll)))) (mh (vs:=[.slice A n c]) Ll Ll (fun w hw=>bC ((hdX.ext xg12).ext hw)) ?_)
       refine bF ?_
       intro wg16 xg16
       rintro _ rfl
       rintro _ rfl
       refine ai Ll Ll Ll (aZ) (ag (I.ab ?_))
       refine I.bi Ll (fun h115=>?_) (fun h115=>?_)
       ·refine I.aY (rf Ll ?_)
        exact fun _ _=>⟨pa.keeps (mv16.trans (Mv.of_ext (X:=fun _=>False) xg16) (fun _ hn _=>hn.elim)) l7' l8',rfl,pre,y,rfl,hpre,.inr ⟨by omega,by omega,hR.xt xg16⟩⟩
       ·refine I.ar (aJ ?_)
        exact fun _ _=>⟨pa.keeps (mv16.trans (Mv.of_ext (X:=fun _=>False) xg16) (fun _ hn _=>hn.elim)) l7' l8',pa.keep (mv16.trans (Mv.of_ext (X:=fun _=>False) xg16) (fun _ hn _=>hn.elim)) hI.mv.size,hR.xt xg16,fun p hp=>(List.mem_append.1 hp).elim (hpre p) (fun hp=>by rw[List.mem_singleton.1 hp];omega)⟩
   ·rintro D0 xs W hD rfl ⟨hR,hp⟩ hDe
    have hB:pa w61 g7 g8 (cZ d i) W:=by
     have e:uW d i (EG d i)=cZ d i:=zW (suf:=[]) hi4 (lN d i) (fun p=>yj d i p) (by simp) (fun p hq=>by obtain⟨y,hy,rfl⟩:=List.mem_map.1 hq;exact hp y hy) (by simp)
     rw[←e];exact hR
    refine aJ (ab (af (bz 3 [4,117] (by kernel_rfl) (by kernel_rfl) ?_)))
    refine aE Ll Ll (fun w hw=>aj KO Ll (hw.cell_some hB.c7.c0)) (aE Ll Ll (fun w hw=>aj KO Ll (hw.cell_some hB.c8.c0)) ?_)
    refine eo Ll Ll (bF ?_)
    intro wg17 xg17
    rintro _ rfl
    rintro _ rfl
    refine ac Ll Ll (ag (ab (av (Cr Ll Ll Ll (xg17.heap_some hDe) ?_))))
    intro w9 hg9
    have mvl:Mv (fun k=>k=g7∨k=g8) w61 w9:=(hB.mv.trans (Mv.of_ext (X:=fun _=>False) xg17) (fun _ hn _=>hn.elim)).trans (Mv.of_grown (X:=fun k=>k=D0) hg9 (fun k e _=>(Option.some.inj e).symm)) (fun k hk hl=>by omega)
    have mva:Mv (kO g m Y) w w9:=(((Mv.of_ext (X:=kO g m Y) x3').trans mv4 (fun _ hn _=>hn)).trans (Mv.of_ext (X:=fun _=>False) xl) (fun _ hn _=>hn.elim)).trans mvl (fun k hk hl=>by have:=x2.size;have:=x3.size;omega)
    exact⟨_,rfl,rfl,i,Y',Nat.le_refl _,(h4.xt xl).mv mvl (fun k hk e=>by
     have:=(h4.low k hk).2
     have:=xg3.size
     have:=x7.size
     omega) (fun k hk=>by have:=h3.ext.size;omega),mva,fun k hk=>(hY4 k hk).imp_right (fun h=>by have:=x2.size;have:=x3.size;omega)⟩
   ·rintro D0 _ pre W hD hSp ⟨rfl,pre',y,rfl,hp,hcase⟩ hDe
    have hB:pa w61 g7 g8 (cZ d i) W:=by
     obtain⟨suf,hs⟩:=hSp
     have hps:∀p∈pre'.map (·.1.2),i-p≤4096:=fun p hq=>by obtain⟨z,hz,rfl⟩:=List.mem_map.1 hq;exact hp z hz
     rcases hcase with⟨hfar,hR⟩|⟨hnear,hfull,hR⟩
     ·have e:uW d i pre'=cZ d i:=zW (suf:=y.1.2::suf.map (·.1.2)) hi4 (lN d i) (fun p=>yj d i p) (by rw[←hs];simp) hps (fun p hq=>by
       have hsrt:=lN d i
       rw[←hs] at hsrt
       simp only[List.map_append,List.map_cons,List.append_assoc,List.cons_append,List.nil_append] at hsrt
       rcases List.mem_cons.1 hq with rfl|hq
       ·exact hfar
       ·have:=(List.pairwise_cons.1 (List.pairwise_append.1 hsrt).2.1).1 p hq
        omega)
      rw[←e];exact hR
     ·have e:uW d i (pre'++[y])=cZ d i:=by
       have:=Ey (pre:=pre'.map (·.1.2)) (x:=y.1.2) (suf:=suf.map (·.1.2)) hi4 (lN d i) (fun p=>yj d i p) (by rw[←hs];simp) (fun p hq=>by
        rcases List.mem_append.1 hq with hq|hq
        ·exact hps p hq
        ·rw[List.mem_singleton.1 hq];exact hnear) hfull
       unfold uW
       rw[List.map_append];exact this
      rw[←e];exact hR
    refine aY (aX (ab (af (bz 3 [4,117] (by kernel_rfl) (by kernel_rfl) ?_))))
    refine aE Ll Ll (fun w hw=>aj KO Ll (hw.cell_some hB.c7.c0)) (aE Ll Ll (fun w hw=>aj KO Ll (hw.cell_some hB.c8.c0)) ?_)
    refine eo Ll Ll (bF ?_)
    intro wg17 xg17
    rintro _ rfl
    rintro _ rfl
    refine ac Ll Ll (ag (ab (av (Cr Ll Ll Ll (xg17.heap_some hDe) ?_))))
    intro w9 hg9
    have mvl:Mv (fun k=>k=g7∨k=g8) w61 w9:=(hB.mv.trans (Mv.of_ext (X:=fun _=>False) xg17) (fun _ hn _=>hn.elim)).trans (Mv.of_grown (X:=fun k=>k=D0) hg9 (fun k e _=>(Option.some.inj e).symm)) (fun k hk hl=>by omega)
    have mva:Mv (kO g m Y) w w9:=(((Mv.of_ext (X:=kO g m Y) x3').trans mv4 (fun _ hn _=>hn)).trans (Mv.of_ext (X:=fun _=>False) xl) (fun _ hn _=>hn.elim)).trans mvl (fun k hk hl=>by have:=x2.size;have:=x3.size;omega)
    exact⟨_,rfl,rfl,i,Y',Nat.le_refl _,(h4.xt xl).mv mvl (fun k hk e=>by
     have:=(h4.low k hk).2
     have:=xg3.size
     have:=x7.size
     omega) (fun k hk=>by have:=h3.ext.size;omega),mva,fun k hk=>(hY4 k hk).imp_right (fun h=>by have:=x2.size;have:=x3.size;omega)⟩
end Go.Rl
namespace Go.Rl
open Go.RowKit Go.Proofs
theorem pS:ay Tryz.prog 102:=⟨_,Tryz.func102,by kernel_rfl,rfl⟩
theorem uj:ay Tryz.prog 48:=⟨_,Tryz.func48,by kernel_rfl,rfl⟩
structure C8 (wb:World) (d:List UInt8) (g m c nx:Nat) (O:List UInt8) (Y:Nat→Prop) (v:Value) (w:World):Prop where
 fnd:BL wb d g m nx Y w
 cell:cd c 28 [v] w
 own:cG wb.heap.size O v w
 nc:¬kO g m Y c
 nv:∀k,v.ownBlock=some k→¬kO g m Y k
 low:wb.heap.size≤c
def G1 (wb:World) (d:List UInt8) (g m c nx:Nat) (O:List UInt8) (w:World):Prop:=∃Y v,C8 wb d g m c nx O Y v w
section
variable {wb w w':World} {d O O':List UInt8} {g m c nx:Nat} {Y:Nat→Prop} {v v':Value}
theorem C8.xt (h:C8 wb d g m c nx O Y v w) (hx:aI w w'):C8 wb d g m c nx O Y v w':=⟨h.fnd.xt hx,h.cell.ext hx,h.own.ext hx,h.nc,h.nv,h.low⟩
theorem C8.outs (h:C8 wb d g m c nx O Y v w) (hm:Mv (fun k=>k=c∨v.ownBlock=some k) w w') (hc:cd c 28 [v'] w') (ho:cG wb.heap.size O' v' w') (hv:v'.ownBlock=v.ownBlock∨∀k,v'.ownBlock=some k→w.heap.size≤k):C8 wb d g m c nx O' Y v' w':=
 ⟨h.fnd.mv hm (fun k hk e=>e.elim (fun e=>h.nc (e▸hk)) (fun e=>h.nv k e hk)) (fun k hk=>hk.elim (fun e=>e▸h.low) (fun e=>h.own.ge k e)),hc,ho,h.nc,fun k hk hf=>by
  rcases hv with e|e
  ·exact h.nv k (e▸hk) hf
  ·have:=(h.fnd.low k hf).2
   have:=e k hk
   omega,h.low⟩
theorem C8.found {nx':Nat} {Y':Nat→Prop} (h:C8 wb d g m c nx O Y v w) (hf:BL wb d g m nx' Y' w') (hm:Mv (kO g m Y) w w') (hY:∀k,Y' k→Y k∨w.heap.size≤k):C8 wb d g m c nx' O Y' v w':=by
 have hlt:c<w.heap.size:=h.cell.lt
 have key:∀k,k<w.heap.size→¬kO g m Y k→¬kO g m Y' k:=fun k hk hn hf=>hf.elim (fun e=>hn (.inl e)) fun e=>e.elim (fun e=>hn (.inr (.inl e))) fun e=>(hY k e).elim (fun e=>hn (.inr (.inr e))) fun e=>by omega
 refine⟨hf,hm.blk h.cell h.nc,hm.ownB h.own h.nv,key c hlt h.nc,fun k hk=>key k ?_ (h.nv k hk),h.low⟩
 obtain⟨n,ho⟩:=h.own
 exact(World.ownsRow.lt ho k hk).2
end
theorem C8.grew {wb wa w1 w2:World} {d O O':List UInt8} {g m c nx:Nat} {Y:Nat→Prop} {v v':Value} (h:C8 wb d g m c nx O Y v wa) (hg:gw wa w1 v v') (ho:cG wb.heap.size O' v' w1) (h2:w1.grownBy w2 (some c)) (hc:cd c 28 [v'] w2) (hvc:v'.ownBlock≠some c):C8 wb d g m c nx O' Y v' w2:=
 h.outs ((Mv.of_grown (X:=fun k=>k=c∨v.ownBlock=some k) hg.grown (fun _ e _=>.inr e)).trans (Mv.of_grown (X:=fun k=>k=c∨v.ownBlock=some k) h2 (fun _ e _=>.inl (Option.some.inj e).symm)) (fun _ hn _=>hn)) hc (ho.kept h2 (.inr hvc)) hg.own
theorem cG.cells {base:Nat} {l:List UInt8} {v:Value} {w:World} (h:cG base l v w) {k:Nat} (hk:v.ownBlock=some k):∃cs f,w.heap[k]? =some (.cells cs 5 f):=by
 obtain⟨n,h1,h2⟩:=h
 rcases h2 with⟨rfl,_⟩|⟨g,cap,cur,rfl,h3,h4,h5⟩
 ·cases hk
 ·obtain rfl:g=k:=Option.some.inj hk
  exact⟨_,_,h4⟩
theorem cG.ne_cell {base c:Nat} {l:List UInt8} {v u:Value} {w:World} (h:cG base l v w) (hc:cd c 28 [u] w):v.ownBlock≠some c:=fun hk=>by
 obtain⟨cs,f,h1⟩:=h.cells hk
 rw[hc] at h1
 simp at h1
theorem G2 {wb w:World} {d O:List UInt8} {g m c nx n:Nat} (h:G1 wb d g m c nx O w) (hO:O.length≤70368744177664) (hn:n≤9223372036854775807):
 Calls Tryz.prog 102 #[I (n:Int),.pointer (some ⟨c,0,none⟩)] w (bE fun _ w'=>G1 wb d g m c nx (O++uv n) w'):=by
 refine enter (vs:=[I (n:Int),.pointer (some ⟨c,0,none⟩)]) Tryz.func102 Ll Ll Ll ?_
 obtain⟨Y,v,hp⟩:=h
 have kc:=hp.cell
 refine bz 4 [1,3,6] (by kernel_rfl) (by kernel_rfl) ?_
 refine aE Ll Ll (fun w hw=>aj KQ Ll (hw.cell_some kc.c0)) (ap Ll Ll (dm Ll Ll (fun w hw=>cN KO KN) ?_))
 refine ce (S:=cm (uv n)) ja (cm.stable _) rfl (fun w hw=>by rintro _ rfl _ rfl;exact bE.mono (jb (cm.nil _) (by simp)) fun v w' h=>⟨h.1,by have:=h.2.bts;rw[List.nil_append,GS (by omega)] at this;exact this⟩) ?_
 refine bF ?_
 intro wg0 xg0
 rintro _ rfl
 rintro _ hq3
 obtain rfl:=Eq.symm hq3
 intro vg6 b6
 have hp:=hp.xt xg0
 have hul:=ft (n:=n) (by omega)
 obtain⟨v7,w7,r7,o7,g7⟩:=dn (ty:=28) hp.own b6 (by omega) (Nat.le_trans hp.fnd.ext.size (Nat.le_refl _))
 refine bc Ll Ll r7 ?_
 have kc7:=hp.cell.other g7.grown (fun e=>(hp.own.ne_cell hp.cell) e.symm)
 obtain⟨w8,r8,g8,k8⟩:=gj (P:=Tryz.prog) (t:=28) (v:=v7) cq (by obtain⟨A,n,c,rfl,_⟩:=id o7.bts;rfl) kc7
 refine aq Ll Ll (r8) (ag (gq Ll ?_))
 exact⟨_,rfl,Y,v7,hp.grew g7 o7 g8 k8 (o7.ne_cell kc7)⟩
theorem pT {wb w:World} {d O:List UInt8} {g m c nx n:Nat} {Y:Nat→Prop} {v:Value} (h:C8 wb d g m c nx O Y v w) (hO:O.length≤70368744177664) (hn:n≤9223372036854775807):
 Calls Tryz.prog 102 ((#[]:Array Value)++[I (n:Int)].toArray++ #[.pointer (some ⟨c,0,none⟩)]) w (bE fun _ w'=>G1 wb d g m c nx (O++uv n) w'):=by
 have:=G2 ⟨Y,v,h⟩ hO hn
 simpa using this
theorem BO:(Tryz.prog.info? 28).map (·.zero)=some (some (.slice none 0 0)):=by kernel_rfl
theorem z8:(Tryz.prog.info? 158).map (·.zero)=some (some (.agg #[.slice none 0 0,.map none,.int .i64 0])):=by kernel_rfl
theorem G3:(Tryz.prog.info? 156).map (·.size)=some 1:=by kernel_rfl
theorem gW.new {base:Nat} {d:List UInt8} {w:World} {m:Nat} (h:w.heap[m]? =some (.map #[] 0)):gW base d m 0 (fun _=>False) w:=
 ⟨[],0,h,fun e he=>by simp at he,fun i j e f hi=>by simp at hi,fun q hq=>absurd (GM d q) hq⟩
theorem um {w:World} {d:List UInt8} {v:Value} (hv:cm d v w) (hl:d.length≤1099511627776):
 Calls Tryz.prog 48 #[v] w (bE fun r w'=>aI w w'∧cm (bS d) r w'):=by
 refine enter (vs:=[v]) Tryz.func48 Ll Ll Ll ?_
 have hpl:=lM (d:=d) (by omega)
 obtain⟨A,n,c0,rfl,_⟩:=id hv
 refine af (aa (ac Ll Ll (ag (ab (af (aa (ae Ll Ll ?_)))))))
 refine Dv Ll ?_
 obtain⟨w1,hw1⟩:∃w1,w1=w.alloc (.map #[] 0):=⟨_,rfl⟩
 have x1:aI w w1:=hw1▸aI.new w _
 have m1:w1.heap[w.heap.size]? =some (.map #[] 0):=by rw[hw1];exact heap_alloc_new w _
 rw[←hw1]
 refine bm (vs:=[(0,.slice A n c0),(1,.map (some w.heap.size))]) Ll Ll (r:=.agg #[.slice A n c0,.map (some w.heap.size),I 0]) (by simp[Instr.build,run_underlying Tryz.underlying158,qp z8,dJ cq,dJ G3,Instr.fill,Value.cells,I]) ?_
 refine cL Ll Ll (nU) ?_
 obtain⟨w2,hw2⟩:∃w2,w2=w1.alloc (.cells (Value.agg #[.slice A n c0,.map (some w.heap.size),I 0]).cells 158):=⟨_,rfl⟩
 have x2:aI w1 w2:=hw2▸aI.new w1 _
 have k2:cd w1.heap.size 158 [.slice A n c0,.map (some w.heap.size),I ((0:Nat):Int)] w2:=by rw[hw2];exact heap_alloc_new w1 _
 rw[←hw2]
 obtain⟨g,hg⟩:∃g,g=w1.heap.size:=⟨_,rfl⟩
 obtain⟨m,hm⟩:∃m,m=w.heap.size:=⟨_,rfl⟩
 rw[←hg,←hm] at k2
 have hmg:m<g:=by have:=(Array.getElem?_eq_some_iff.1 m1).1;omega
 have fnd0:BL w d g m 0 (fun _=>False) w2:=⟨x1.trans x2,fun k hk=>by
  have:=k2.lt
  have:=x1.size
  rcases hk with rfl|rfl|hk
  ·exact⟨by omega,k2.lt⟩
  ·exact⟨by omega,by omega⟩
  ·exact hk.elim,id,id,by omega,⟨A,n,c0,k2,hv⟩,gW.new (by rw[hm];exact x2.heap_some m1)⟩
 rw[←hg]
 refine ac Ll Ll (ag (ab (af (aa (ae Ll Ll (aQ Ll Ll (bC (hv.ext (x1.trans x2))) (aR Ll Ll (cN KO KN) ?_)))))))
 refine an ja Ll Ll (jb (cm.nil _) (by simp)) ?_
 rintro v17 w17 ⟨x17,o17⟩
 rw[List.nil_append,GS (by omega)] at o17
 obtain⟨g4,w4,hr4,l4,x4,k4⟩:=be (P:=Tryz.prog) (w:=w17) (l:=[.slice none 0 0]) BO rfl
 refine bf Ll hr4 ?_
 obtain⟨w5,r5,g5,k5⟩:=gj (P:=Tryz.prog) (t:=28) (v:=v17) cq (by obtain⟨A,n,c,rfl,_⟩:=id o17.bts;rfl) k4
 refine aq Ll Ll (r5) ?_
 have x5:aI w2 w5:=aI.of_new (w:=w2) (x17.trans x4) g5 (Nat.le_trans x17.size l4)
 have own5:cG w.heap.size (uv d.length) v17 w5:=by
  obtain⟨n',hn'⟩:=(o17.ext x4).kept g5 (.inr (o17.ext x4|>.ne_cell k4))
  exact⟨n',ib hn' (fun k hk=>Nat.le_trans (x1.trans x2).size (o17.ge k hk))⟩
 have pst0:G1 w d g m g4 0 (uv d.length) w5:=⟨fun _=>False,v17,fnd0.xt x5,k5,own5,fun hf=>by
  rcases hf with rfl|rfl|hf
  ·have:=k2.lt;have:=x17.size;omega
  ·have:=k2.lt;have:=x17.size;omega
  ·exact hf,fun k hk hf=>by
  have:=o17.ge k hk
  rcases hf with rfl|rfl|hf
  ·have:=k2.lt;omega
  ·have:=k2.lt;omega
  ·exact hf,Nat.le_trans (x1.trans x2).size (Nat.le_trans x17.size l4)⟩
 refine ag (ab (af (aa (ac Ll Ll (ag (ab (af (aa ?_))))))))
 refine la (us:=[]) (vs:=[.pointer (some ⟨g4,0,none⟩)]) Ll Ll Ll ?_
 refine ac Ll Ll (ag (ab (af (af (aa (ac Ll Ll (ag (ab (ax ?_)))))))))
 refine f6 (fun(i:Nat) (run:Nat) (O:List UInt8)=>[(0,.slice A n c0),(3,.pointer (some ⟨g,0,none⟩)),(4,.pointer (some ⟨g4,0,none⟩)),(5,I (run:Int)),(6,.func (.func 102) #[] #[.pointer (some ⟨g4,0,none⟩)]),(7,I (i:Int))]) (fun(i:Nat) (run:Nat) (O:List UInt8) w'=>i≤d.length∧run≤i∧(∃nx,nx≤i∧G1 w d g m g4 nx O w')∧O++pk d i run=bS d) (fun(i:Nat) (run:Nat) (O:List UInt8)=>d.length-i) (0) (0) (uv d.length) ⟨rfl,rfl,rfl,rfl,rfl,rfl,trivial⟩ ⟨by omega,by omega,⟨0,by omega,pst0⟩,rfl⟩ ?_
 rintro i run O w6 ⟨hi,hri,⟨nx,hnx,Y,vo,hp⟩,hq⟩
 refine af (af ?_)
 have hOl:O.length≤(bS d).length:=by rw[←hq,List.length_append];omega
 refine aa (ae Ll Ll (ae Ll Ll (aQ Ll Ll (bC (hv.ext hp.fnd.ext)) (ai Ll Ll Ll (aW) (ag (ab ?_))))))
 refine bi Ll (fun h22=>?_) (fun h22=>?_)
 ·refine ar (ab (ax (af (aa (ae Ll Ll (ae Ll Ll (an BJ Ll Ll ((BN hp.fnd hnx hi hl)) ?_)))))))
  rintro v26 w26 ⟨rfl,nx',Y',hnx',f26,mv26,hY26⟩
  have x26:=f26.ext
  have hp26:=hp.found f26 mv26 hY26
  refine ae Ll Ll (ak Ll Ll (aT) (ak Ll Ll (aU) (ac Ll Ll (ac Ll Ll (ag (ab (af (af (aa (ae Ll Ll (ai Ll Ll Ll (aZ) ?_)))))))))))
  refine ag (ab ?_)
  refine bi Ll (fun h30=>?_) (fun h30=>?_)
  ·have hb0:(cZ d i).1=0:=by omega
   refine af (aa (ae Ll Ll (ai (r:=I ((i+1:Nat):Int)) Ll Ll Ll (by have e:((i+1:Nat):Int)=(i:Int)+1:=(by omega);rw[e];exact aK (by omega) (by omega)) ?_)))
   refine ac Ll Ll (ag (ab (af (aa (ae Ll Ll (ai (r:=I ((run+1:Nat):Int)) Ll Ll Ll (by have e:((run+1:Nat):Int)=(run:Int)+1:=(by omega);rw[e];exact aK (by omega) (by omega)) ?_))))))
   refine ac Ll Ll (ag (ab (aY (aB (aX ?_)))))
   refine dA (i+1) (run+1) (O) ⟨rfl,rfl,rfl,rfl,rfl,rfl,trivial⟩ ⟨by omega,by omega,⟨nx',by omega,Y',vo,hp26⟩,by rw[qS (by omega) hb0] at hq;exact hq⟩ (by omega)
  ·have hb0:(cZ d i).1≠0:=by omega
   obtain⟨h4,h1,h2,h3,_,h5⟩:=lL hb0
   rw[kK (by omega) hb0] at hq
   obtain⟨L,hL⟩:∃L,L=(d.drop (i-run)).take run:=⟨_,rfl⟩
   rw[←hL] at hq
   have hLl:L.length=run:=by rw[hL,List.length_take,List.length_drop];omega
   have u1:=ft (n:=run) (by omega)
   have u2:=ft (n:=(cZ d i).1-4) (by omega)
   refine ar (ab (af (aa (ae Ll Ll (ae Ll Ll (pq Ll pS Ll Ll ((pT hp26 (by omega) (by omega))) ?_))))))
   rintro v37 w37 ⟨Y1,v1,p37⟩
   have x37:=p37.fnd.ext
   refine ag (ab (af ?_))
   have kc:=p37.cell
   refine bz 7 [0,3,4,6,7,8,9,38,44] (by kernel_rfl) (by kernel_rfl) ?_
   refine aE Ll Ll (fun w hw=>aj KQ Ll (hw.cell_some kc.c0)) (ap Ll Ll (ap Ll Ll (ap Ll Ll (aS (r:=I ((i-run:Nat):Int)) Ll Ll Ll (fun w _=>by have e:((i-run:Nat):Int)=(i:Int)-(run:Int):=(by omega);rw[e];exact bg (by omega) (by omega)) ?_))))
   refine ap Ll Ll ?_
   obtain⟨v44,p44,b44⟩:=ri (hv.ext x37) (lo:=i-run) (hi:=i) (by omega) (by omega) .i64 .i64
   refine ia Ll Ll Ll Ll (fun w _=>p44 w) (bF ?_)
   intro wg12 xg12
   rintro _ rfl
   rintro _ rfl
   rintro _ rfl
   rintro _ rfl
   rintro _ rfl
   rintro _ rfl
   rintro _ rfl
   rintro _ hq38
   obtain rfl:=Eq.symm hq38
   rintro _ hq44
   obtain rfl:=Eq.symm hq44
   have b45:cm L v44 wg12:=by have:=b44;rw[List.drop_take,show i-(i-run)=run by omega,←hL] at this;exact this.ext xg12
   have p12:=p37.xt xg12
   obtain⟨v45,w45,r45,o45,g45⟩:=dn (ty:=28) p12.own b45 (by simp only[List.length_append];omega) p12.fnd.ext.size
   refine bc Ll Ll r45 ?_
   have kc45:=p12.cell.other g45.grown (fun e=>(p12.own.ne_cell p12.cell) e.symm)
   obtain⟨w46,r46,g46,k46⟩:=gj (P:=Tryz.prog) (t:=28) (v:=v45) cq (by obtain⟨A,n,c,rfl,_⟩:=id o45.bts;rfl) kc45
   refine aq Ll Ll (r46) ?_
   have p46:=p12.grew g45 o45 g46 k46 (o45.ne_cell kc45)
   have x46:=p46.fnd.ext
   refine ag (ab (af (aa (ae Ll Ll (ae Ll Ll (ai (r:=I (((cZ d i).1-4:Nat):Int)) Ll Ll Ll (by have e:(((cZ d i).1-4:Nat):Int)=((cZ d i).1:Int)-4:=(by omega);rw[e];exact bg (by omega) (by omega)) ?_))))))
   refine pq Ll pS Ll Ll ((pT p46 (by simp only[List.length_append];omega) (by omega))) ?_
   rintro v49 w49 ⟨Y2,v2,p49⟩
   have x49:=p49.fnd.ext
   refine ag (ab (af (aa (ae Ll Ll (ae Ll Ll (ai (r:=I (((cZ d i).2-1:Nat):Int)) Ll Ll Ll (by have e:(((cZ d i).2-1:Nat):Int)=((cZ d i).2:Int)-1:=(by omega);rw[e];exact bg (by omega) (by omega)) ?_))))))
   refine pq Ll pS Ll Ll ((pT p49 (by simp only[List.length_append];omega) (by omega))) ?_
   rintro v53 w53 p53
   have x53:=(p53.elim fun _ h=>h.elim fun _ h=>h.fnd.ext)
   refine ag (ab (af (aa (ae Ll Ll (ae Ll Ll (ai (r:=I ((i+(cZ d i).1:Nat):Int)) Ll Ll Ll (by have e:((i+(cZ d i).1:Nat):Int)=(i:Int)+((cZ d i).1:Int):=(by omega);rw[e];exact aK (by omega) (by omega)) ?_))))))
   refine ac Ll Ll (ag (ab (aa (ac Ll Ll (ag (aJ ?_))))))
   refine dA (i+(cZ d i).1) (0) (O++uv run++L++uv ((cZ d i).1-4)++uv ((cZ d i).2-1)) ⟨rfl,rfl,rfl,rfl,rfl,rfl,trivial⟩ ⟨h5,by omega,⟨nx',by omega,p53⟩,by rw[←hq];simp only[List.append_assoc]⟩ (by omega)
 ·have hie:i=d.length:=by omega
  rw[j4 (by omega)] at hq
  refine aY (aB (aB (aX (ab (af (af (aa (ae Ll Ll (ai Ll Ll Ll (ck) (ag (ab ?_)))))))))))
  refine bi Ll (fun h58=>?_) (fun h58=>?_)
  ·rw[if_pos (by omega)] at hq
   have u1:=ft (n:=run) (by omega)
   refine af (aa (ae Ll Ll (ae Ll Ll (pq Ll pS Ll Ll ((pT hp (by omega) (by omega))) ?_))))
   rintro v61 w61 ⟨Y1,v1,p61⟩
   have x61:=p61.fnd.ext
   refine ag (ab ?_)
   have kc:=p61.cell
   refine bz 7 [4,62,68] (by kernel_rfl) (by kernel_rfl) ?_
   refine aE Ll Ll (fun w hw=>aj KQ Ll (hw.cell_some kc.c0)) (ap Ll Ll (ap Ll Ll (mh (vs:=[.slice A n c0]) Ll Ll (fun w hw=>bC ((hv.ext x61).ext hw)) ?_)))
   refine ap Ll Ll (aS (r:=I ((d.length-run:Nat):Int)) Ll Ll Ll (fun w _=>by have e:((d.length-run:Nat):Int)=(d.length:Int)-(run:Int):=(by omega);rw[e];exact bg (by omega) (by omega)) ?_)
   obtain⟨v68,p68,b68⟩:=fp (hv.ext x61) (lo:=d.length-run) (by omega) .i64
   refine ia Ll Ll Ll Ll (fun w _=>p68 w) (bF ?_)
   intro wg19 xg19
   rintro _ rfl
   rintro _ hq62
   obtain rfl:=Eq.symm hq62
   rintro _ hq68
   obtain rfl:=Eq.symm hq68
   have p19:=p61.xt xg19
   obtain⟨v69,w69,r69,o69,g69⟩:=dn (ty:=28) p19.own (b68.ext xg19) (by simp only[List.length_append,List.length_drop];omega) p19.fnd.ext.size
   refine bc Ll Ll r69 ?_
   have kc69:=p19.cell.other g69.grown (fun e=>(p19.own.ne_cell p19.cell) e.symm)
   obtain⟨w70,r70,g70,k70⟩:=gj (P:=Tryz.prog) (t:=28) (v:=v69) cq (by obtain⟨A,n,c,rfl,_⟩:=id o69.bts;rfl) kc69
   refine aq Ll Ll (r70) ?_
   have p70:=p19.grew g69 o69 g70 k70 (o69.ne_cell kc69)
   refine ag (ab (af (aa (am Ll Ll (aj KQ Ll k70.c0) (ac Ll Ll (ag (ab (av (aG Ll Ll ?_)))))))))
   exact⟨_,rfl,p70.fnd.ext,by rw[←hq,←List.append_assoc];exact p70.own.bts⟩
  ·rw[if_neg (by omega),List.append_nil] at hq
   refine ar (ab (af ?_))
   have kc:=hp.cell
   refine aa (am Ll Ll (aj KQ Ll kc.c0) (ac Ll Ll (ag (ab (av (aG Ll Ll ?_))))))
   exact⟨_,rfl,hp.fnd.ext,by rw[←hq];exact hp.own.bts⟩
end Go.Rl
namespace Go.Rl
open Go.RowKit Go.Proofs
theorem EH:ay Tryz.prog 53:=⟨_,Tryz.func53,by kernel_rfl,rfl⟩
theorem yk {total:Nat}:∀(f:Nat) (l O out:List UInt8),O.length≤total→rK total f l O=some out→out.length≤total
 |0,_,_,_,_,h=>by cases h
 |f+1,l,O,out,hO,h=>by
  unfold rK at h
  split at h
  ·cases hU:db l with
   |none=>rw[hU] at h;cases h
   |some p=>
    obtain⟨n,t⟩:=p
    rw[hU] at h
    simp only[Option.bind_some] at h
    split at h
    ·cases h
    ·rename_i hn
     split at h
     ·split at h
      ·obtain rfl:=Option.some.inj h
       rw[List.length_append,List.length_take];omega
      ·cases h
     ·cases hV:db (t.drop n) with
      |none=>rw[hV] at h;cases h
      |some q=>
       obtain⟨m,t2⟩:=q
       rw[hV] at h
       simp only[Option.bind_some] at h
       split at h
       ·cases h
       ·cases hW:db t2 with
        |none=>rw[hW] at h;cases h
        |some r=>
         obtain⟨k,t3⟩:=r
         rw[hW] at h
         simp only[Option.bind_some] at h
         split at h
         ·cases h
         ·refine yk f _ _ _ ?_ h
          rw[yc,List.length_append,List.length_take]
          omega
  ·split at h
   ·obtain rfl:=Option.some.inj h
    exact hO
   ·cases h
theorem IX {l t O:List UInt8} {n:Nat} (h:rK n (n+1) t []=some O):vp l t n=if bS O=l then some O else none:=by
 unfold vp;rw[h];rfl
theorem Kw {l t:List UInt8} {n:Nat} (h:rK n (n+1) t []=none):vp l t n=none:=by
 unfold vp;rw[h];rfl
section
variable {w:World} {rest:List UInt8} {v:Value} {total:Nat}
theorem EI (hv:cm rest v w) (hl:rest.length≤549755813888) (ht:total≤549755813888) (h:rK total (total+1) rest []=none):Calls Tryz.prog 107 #[v,bj (UInt64.ofNat total)] w (bE fun r w'=>aI w w'∧∃u,r=.tuple #[u,B false]):=
 bE.mono (vZ hv hl ht) fun _ _ h2=>⟨h2.1,by have:=h2.2;rw[h] at this;exact this⟩
theorem EJ {out:List UInt8} (hv:cm rest v w) (hl:rest.length≤549755813888) (ht:total≤549755813888) (h:rK total (total+1) rest []=some out):Calls Tryz.prog 107 #[v,bj (UInt64.ofNat total)] w (bE fun r w'=>aI w w'∧∃u,r=.tuple #[u,B true]∧cm out u w'):=
 bE.mono (vZ hv hl ht) fun _ _ h2=>⟨h2.1,by have:=h2.2;rw[h] at this;exact this⟩
end
theorem EK {w:World} {l:List UInt8} {v:Value} {max:Int} (hv:cm l v w) (hl:l.length≤4294967296) (h1: -9223372036854775808≤max) (h2:max≤9223372036854775807) (h3:∀n t,db l=some (n,t)→(n:Int)≤max→n≤4294967296):
 Calls Tryz.prog 53 #[v,I max] w (bE fun r w'=>aI w w'∧oS l max (vp l) r w'):=by
 refine enter (vs:=[v,I max]) Tryz.func53 Ll Ll Ll ?_
 refine af (aa (ac Ll Ll (ac Ll Ll (ag (ab (af (af (aa (ae Ll Ll (ai Ll Ll Ll (aW) (ag (ab ?_))))))))))))
 refine bi Ll (fun h11=>?_) (fun h11=>?_)
 ·have hm:max<0:=h11
  refine af (aa (ac Ll Ll (ac Ll Ll (ag (ab (av (au (aM Ll Ll Ll ?_))))))))
  exact⟨_,rfl,aI.refl _,by unfold oS;rw[if_pos (by omega)];rfl⟩
 ·obtain⟨M,rfl⟩:∃M:Nat,max=(M:Int):=⟨max.toNat,by omega⟩
  refine ar (ab (af ?_))
  rcases hU:db l with _|⟨n,t⟩
  ·refine aa (ae Ll Ll (an gX Ll Ll ((nI hv (by omega) hU)) ?_))
   rintro v14 w14 ⟨x14,rfl⟩
   refine ae Ll Ll (ak Ll Ll (ep) (ak Ll Ll (eq) (ak Ll Ll (er) (ac Ll Ll (ac Ll Ll (ac Ll Ll (ag ?_)))))))
   refine ab (af (af (aa (ae Ll Ll (bI Ll Ll bK (ag (ab (bB Ll (af (aa (ac Ll Ll (ac Ll Ll (ag (ab (av (au (aM Ll Ll Ll ?_)))))))))))))))))
   exact⟨_,rfl,x14,by unfold oS;rw[if_neg (by omega),hU];rfl⟩
  ·obtain⟨hU1,hU2⟩:=ee hU
   have htl:=jK hU
   refine aa (ae Ll Ll (an gX Ll Ll ((nJ hv hv (by omega) hU)) ?_))
   rintro v14 w14 ⟨x14,u1,rfl,b1⟩
   refine ae Ll Ll (ak Ll Ll (ep) (ak Ll Ll (eq) (ak Ll Ll (er) (ac Ll Ll (ac Ll Ll (ac Ll Ll (ag ?_)))))))
   refine ab (af (af (aa (ae Ll Ll (bI Ll Ll bK (ag (ab (cp Ll (ar (ab (af (af (aa (ae Ll Ll (ae Ll Ll (aR Ll Ll (cN KO KN) ?_))))))))))))))))
   refine ai Ll Ll Ll (cu) (ag (ab ?_))
   refine bi Ll (fun h23=>?_) (fun h23=>?_)
   ·have hbig:M<n:=(iu hU2 (by omega)).1 h23
    refine af (aa (ac Ll Ll (ac Ll Ll (ag (ab (av (au (aM Ll Ll Ll ?_))))))))
    exact⟨_,rfl,x14,by
     unfold oS
     rw[if_neg (by omega),hU]
     show(if (M:Int)<(n:Int) then _ else _)
     rw[if_pos (by omega)];rfl⟩
   ·have hnM:n≤M:=Nat.le_of_not_lt (mt (iu hU2 (by omega)).2 h23)
    have hn3:=h3 n t hU (by omega)
    refine ar (ab (af ?_))
    rcases hE:rK n (n+1) t [] with _|out
    ·refine aa (ae Ll Ll (ae Ll Ll (an vY Ll Ll ((EI (b1.ext x14) (by omega) (by omega) hE)) ?_)))
     rintro v27 w27 ⟨x27,u2,rfl⟩
     refine ae Ll Ll (ak Ll Ll (aT) (ak Ll Ll (aU) (ac Ll Ll (ac Ll Ll (ag (ab (af (af (aa (ae Ll Ll (bI Ll Ll bK ?_)))))))))))
     refine ae Ll Ll (ao Ll Ll Ll (ao Ll Ll Ll (ao Ll Ll Ll (ao Ll Ll Ll (ao Ll Ll Ll (aw Ll Ll Ll (ag (ab (bB Ll (af (aa (ac Ll Ll ?_))))))))))))
     refine ac Ll Ll (ag (ab (av (au (aM Ll Ll Ll ?_)))))
     exact⟨_,rfl,(x14.trans x27),nK (by omega) hU (by omega) (Kw hE)⟩
    ·have hol:=yk _ _ _ _ (by simp) hE
     refine aa (ae Ll Ll (ae Ll Ll (an vY Ll Ll ((EJ (b1.ext x14) (by omega) (by omega) hE)) ?_)))
     rintro v27 w27 ⟨x27,u2,rfl,b2⟩
     refine ae Ll Ll (ak Ll Ll (aT) (ak Ll Ll (aU) (ac Ll Ll (ac Ll Ll (ag (ab (af (af (aa (ae Ll Ll (bI Ll Ll bK ?_)))))))))))
     refine ae Ll Ll (al Ll (ae Ll Ll (al Ll (an uj Ll Ll ((um b2 (by omega))) ?_))))
     rintro v34 w34 ⟨x34,b34⟩
     refine al Ll (ae Ll Ll (al Ll (an GT Ll Ll ((GU b34 (hv.ext ((x14.trans x27).trans x34)))) ?_)))
     rintro v36 w36 ⟨x36,rfl⟩
     refine al Ll (bI Ll Ll bK (aC Ll Ll Ll (ag (ab ?_))))
     refine fS Ll (fun h38=>?_) (fun h38=>?_)
     ·have hne:¬bS out=l:=by simpa using h38
      refine af (aa (ac Ll Ll (ac Ll Ll (ag (ab (av (au (aM Ll Ll Ll ?_))))))))
      exact⟨_,rfl,(((x14.trans x27).trans x34).trans x36),nK (by omega) hU (by omega) (by rw[IX hE,if_neg hne])⟩
     ·have heq:bS out=l:=by simpa using h38
      refine ar (ab (af (aa (ae Ll Ll (ac Ll Ll (ac Ll Ll (ag (ab (av (aM Ll Ll Ll ?_))))))))))
      exact⟨_,rfl,(((x14.trans x27).trans x34).trans x36),uh (by omega) hU (by omega) (by rw[IX hE,if_pos heq]) (b2.ext (x34.trans x36))⟩
end Go.Rl
namespace Go.Rl
end Go.Rl
namespace Go.Rl
open Go.RowKit Go.Proofs
section
variable {l t:List UInt8} {max:Int} {n:Nat} {f:List UInt8→Nat→Option (List UInt8)} {r:Value} {w:World}
end
end Go.Rl
namespace Go.Rl
open Go.RowKit Go.Proofs
section
variable {l:List UInt8} {max:Int} {f:List UInt8→Nat→Option (List UInt8)} {r:Value} {w:World}
def jd (l:List UInt8) (max:Int) (f:List UInt8→Nat→Option (List UInt8)):List UInt8×Int:=
 if max<0 then([],8) else match db l with
  |none=>([],5)
  |some (n,t)=>if max<(n:Int) then([],8) else match f t n with
   |some out=>(out,0)
   |none=>([],5)
theorem z9 (h:oS l max f r w):∃v,r=.tuple #[v,I (jd l max f).2]∧cm (jd l max f).1 v w:=by
 unfold oS at h
 unfold jd
 split at h
 ·rename_i hm
  rw[if_pos hm]
  exact⟨_,h,cm.nil _⟩
 ·rename_i hm
  rw[if_neg hm]
  cases hU:db l with
  |none=>
   rw[hU] at h
   exact⟨_,h,cm.nil _⟩
  |some p=>
   obtain⟨n,t⟩:=p
   rw[hU] at h
   have h:(if max<(n:Int) then r=.tuple #[.slice none 0 0,I 8] else match f t n with
    |some out=>∃v,r=.tuple #[v,I 0]∧cm out v w
    |none=>r=.tuple #[.slice none 0 0,I 5]):=h
   show ∃v,r=.tuple #[v,I (if max<(n:Int) then([],8) else match f t n with
    |some out=>(out,0)
    |none=>([],5):List UInt8×Int).2]∧cm (if max<(n:Int) then([],8) else match f t n with
    |some out=>(out,0)
    |none=>([],5):List UInt8×Int).1 v w
   split at h
   ·rename_i hn
    rw[if_pos hn]
    exact⟨_,h,cm.nil _⟩
   ·rename_i hn
    rw[if_neg hn]
    cases hf:f t n with
    |none=>
     rw[hf] at h
     exact⟨_,h,cm.nil _⟩
    |some out=>
     rw[hf] at h
     exact h
end
theorem yl {total B:Nat}:∀(f:Nat) (l O out r:List UInt8),O.length≤total+B→l.length≤B→uQ total f l O=some (out,r)→out.length≤total+B
 |0,_,_,_,_,_,_,h=>by cases h
 |f+1,l,O,out,r,hO,hl,h=>by
  unfold uQ at h
  split at h
  ·cases hB:yA l with
   |none=>rw[hB] at h;cases h
   |some p=>
    obtain⟨a,t⟩:=p
    have hab:=GX hB
    rw[hB] at h
    simp only[Option.bind_some] at h
    split at h
    ·rename_i hlt
     cases hU:db t with
     |none=>rw[hU] at h;cases h
     |some q=>
      obtain⟨m,t2⟩:=q
      rw[hU] at h
      simp only[Option.bind_some] at h
      have h1:=jK hU
      cases hV:db t2 with
      |none=>rw[hV] at h;cases h
      |some s=>
       obtain⟨k,t3⟩:=s
       rw[hV] at h
       simp only[Option.bind_some] at h
       have h2:=jK hV
       split at h
       ·cases h
       ·refine yl f _ _ _ _ ?_ (by omega) h
        rw[yc]
        omega
    ·simp only[Option.some.injEq,Prod.mk.injEq] at h
     rw[←h.1,List.length_append];omega
  ·simp only[Option.some.injEq,Prod.mk.injEq] at h
   rw[←h.1];exact hO
theorem G5 {l:List UInt8} {max:Int} (hl:l.length≤4294967296) (h2:max≤4294967296):jd l max (vr l)=jd l max (vp l):=by
 unfold jd
 split
 ·rfl
 ·cases hU:db l with
  |none=>rfl
  |some p=>
   obtain⟨n,t⟩:=p
   simp only[]
   split
   ·rfl
   ·have htl:=jK hU
    rw[Ko hU (fun out h=>by have:=yk _ _ _ _ (by simp) h;omega) (fun p h=>by have:=yl (B:=t.length) _ _ _ p.1 p.2 (by simp) (Nat.le_refl _) h;omega)]
end Go.Rl
namespace Go.Rl
open Go.RowKit Go.Proofs
theorem uo:(Tryz.prog.info? 183).map (·.zero)=some (some (.agg (List.replicate 64 (bA 0)).toArray)):=by kernel_rfl
theorem uq:(Tryz.prog.info? 183).map (·.size)=some 64:=by kernel_rfl
theorem fb:ay Tryz.prog 159:=⟨_,Tryz.func159,by kernel_rfl,rfl⟩
theorem ur:ay Tryz.prog 160:=⟨_,Tryz.func160,by kernel_rfl,rfl⟩
theorem fc {w:World} {x:UInt32} (n:Nat) (h0:0<n) (h1:n<32):
 Calls Tryz.prog 159 #[bA x,I (n:Int)] w (bE fun r w'=>aI w w'∧r=bA (iq x n)):=by
 refine enter (vs:=[bA x,I (n:Int)]) Tryz.func159 Ll Ll Ll ?_
 refine af (aa (ac Ll Ll (ag (ab (af ?_)))))
 have e:(32:Int)-(n:Int)=((32-n:Nat):Int):=by omega
 refine bz 8 [12] (by kernel_rfl) (by kernel_rfl) ?_
 refine ap Ll Ll (ap Ll Ll ?_)
 refine aS Ll Ll Ll (fun w _=>dh n h1) ?_
 refine ap Ll Ll (ap Ll Ll ?_)
 refine aS (r:=I ((32-n:Nat):Int)) Ll Ll Ll (fun w _=>by rw[←e];exact bg (by omega) (by omega)) ?_
 refine aS Ll Ll Ll (fun w _=>eK (32-n) (by omega)) ?_
 refine aS Ll Ll Ll (fun w _=>fm) ?_
 refine bF ?_
 intro w' hw
 rintro _ rfl
 refine ac Ll Ll (ag (ab (av ?_)))
 refine aG Ll Ll ?_
 exact⟨_,rfl,hw,rfl⟩
theorem ut (w:World):
 Calls Tryz.prog 160 #[] w (bE fun r w'=>aI w w'∧r=.agg (kc.map bA).toArray):=by
 refine enter (vs:=[]) Tryz.func160 Ll Ll Ll ?_
 refine af (aa (bf Ll (xf uo) (ag (ab (af (aa ?_))))))
 refine bm Ll Ll (run_build _ _ _ (kc.map bA).toArray (by kernel_rfl)) ?_
 have hb:=cd.new (w:=w) (T:=183) (.agg (List.replicate 64 (bA 0)).toArray) rfl
 refine aq Ll Ll (it hb Ll uq (jA _)) ?_
 refine ag (ab (av ?_))
 refine dR Ll Ll (hb.row _) Lk Ll uq ?_
 refine⟨_,rfl,?_,rfl⟩
 exact(aI.new w _).of_grown (bp _ _ _) fun k hk=>by
  obtain rfl:=Option.some.inj hk
  exact Nat.le_refl _
theorem eh:ay Tryz.prog 122:=⟨_,Tryz.func122,by kernel_rfl,rfl⟩
theorem rW:ay Tryz.prog 121:=⟨_,Tryz.func121,by kernel_rfl,rfl⟩
theorem ei {w:World} {x:UInt32} (n:Nat) (h0:0<n) (h1:n<32):
 Calls Tryz.prog 122 #[bA x,I (n:Int)] w (bE fun r w'=>aI w w'∧r=bA (iq x n)):=by
 refine enter (vs:=[bA x,I (n:Int)]) Tryz.func122 Ll Ll Ll ?_
 refine af (aa (ac Ll Ll (ag (ab (af ?_)))))
 have e:(32:Int)-(n:Int)=((32-n:Nat):Int):=by omega
 refine bz 8 [12] (by kernel_rfl) (by kernel_rfl) ?_
 refine ap Ll Ll (ap Ll Ll ?_)
 refine aS Ll Ll Ll (fun w _=>dh n h1) ?_
 refine ap Ll Ll (ap Ll Ll ?_)
 refine aS (r:=I ((32-n:Nat):Int)) Ll Ll Ll (fun w _=>by rw[←e];exact bg (by omega) (by omega)) ?_
 refine aS Ll Ll Ll (fun w _=>eK (32-n) (by omega)) ?_
 refine aS Ll Ll Ll (fun w _=>fm) ?_
 refine bF ?_
 intro w' hw
 rintro _ rfl
 refine ac Ll Ll (ag (ab (av ?_)))
 refine aG Ll Ll ?_
 exact⟨_,rfl,hw,rfl⟩
theorem rX (w:World):
 Calls Tryz.prog 121 #[] w (bE fun r w'=>aI w w'∧r=.agg (kc.map bA).toArray):=by
 refine enter (vs:=[]) Tryz.func121 Ll Ll Ll ?_
 refine af (aa (bf Ll (xf uo) (ag (ab (af (aa ?_))))))
 refine bm Ll Ll (run_build _ _ _ (kc.map bA).toArray (by kernel_rfl)) ?_
 have hb:=cd.new (w:=w) (T:=183) (.agg (List.replicate 64 (bA 0)).toArray) rfl
 refine aq Ll Ll (it hb Ll uq (jA _)) ?_
 refine ag (ab (av ?_))
 refine dR Ll Ll (hb.row _) Lk Ll uq ?_
 refine⟨_,rfl,?_,rfl⟩
 exact(aI.new w _).of_grown (bp _ _ _) fun k hk=>by
  obtain rfl:=Option.some.inj hk
  exact Nat.le_refl _
end Go.Rl
namespace Go.Rl
open Go.RowKit Go.Proofs
theorem Da:(Tryz.prog.info? 112).map (·.zero)=some (some (.agg (List.replicate 8 (bA 0)).toArray)):=by kernel_rfl
theorem mZ:(Tryz.prog.info? 112).map (·.size)=some 8:=by kernel_rfl
section
variable {w:World} {g o:Nat} {T:TypeId}
theorem dP (i:Nat) (hi:i<8):(Instr.indexAt 112 (.pointer (some ⟨g,0,none⟩)) (I (i:Int))).run Tryz.prog w=.ok (.pointer (some ⟨g,i,none⟩)) w:=by
 have:=yI (P:=Tryz.prog) (w:=w) (g:=g) (o:=0) Lc d6 hi .i64
 rwa [Nat.zero_add] at this
theorem gF (i:Nat) (hi:i<64):(Instr.indexAt 183 (.pointer (some ⟨g,0,none⟩)) (I (i:Int))).run Tryz.prog w=.ok (.pointer (some ⟨g,i,none⟩)) w:=by
 have:=yI (P:=Tryz.prog) (w:=w) (g:=g) (o:=0) Lk d6 hi .i64
 rwa [Nat.zero_add] at this
theorem de {m:List UInt32} (h:cd g T (m.map bA) w) (i:Nat) (hi:i<m.length):(Instr.loadAt 111 (.pointer (some ⟨g,i,none⟩))).run Tryz.prog w=.ok (bA (m.getD i 0)) w:=
 aj Tryz.underlying111 rfl (h.cell (by simp[hi]))
theorem Aa {m:List UInt32} {x:UInt32} (h:cd g T (m.map bA) w) (i:Nat) (hi:i<m.length):(Instr.storeAt 111 (.pointer (some ⟨g,i,none⟩)) (bA x)).run Tryz.prog w=.ok () (w.setCell ⟨g,i,none⟩ (bA x)):=
 dv d6 rfl h (by simpa using hi)
theorem cd.setU {m:List UInt32} (h:cd g T (m.map bA) w) (i:Nat) (x:UInt32):cd g T ((m.set i x).map bA) (w.setCell ⟨g,i,none⟩ (bA x)):=by
 have:=h.set i (bA x)
 rwa [←List.map_set] at this
end
def dt (l:List UInt32):List UInt32:=l++List.replicate (64-l.length) 0
theorem lO {l:List UInt32} (h:l.length≤64):(dt l).length=64:=by simp[dt];omega
theorem fY {l:List UInt32} {i:Nat} (h:i<l.length):(dt l).getD i 0=l.getD i 0:=by
 simp[dt,List.getD,List.getElem?_append_left h]
theorem lP {l:List UInt32} (x:UInt32) (h:l.length<64):(dt l).set l.length x=dt (l++[x]):=by
 unfold dt
 rw[List.set_append_right _ _ (Nat.le_refl _),Nat.sub_self]
 have:64-l.length=(64-(l++[x]).length)+1:=by simp;omega
 rw[this,List.replicate_succ,List.set_cons_zero,List.append_assoc]
 rfl
theorem uu (b:List UInt8) (k:Nat):iY b (k+1)=iY b k++[pB b k]:=by simp[iY,List.range_succ]
theorem jv (b:List UInt8) (k:Nat):(iY b k).length=k:=by simp[iY]
def i7 (s v:List UInt32) (i:Nat):List UInt32:=List.zipWith (· + ·) (s.take i) (v.take i)++s.drop i
theorem EL {s v:List UInt32} (hs:s.length=8) (hv:v.length=8) {i:Nat} (hi:i≤8):(i7 s v i).length=8:=by
 simp[i7,hs,hv];omega
theorem wh {s v:List UInt32} (hs:s.length=8) (hv:v.length=8) {i:Nat} (hi:i<8):(i7 s v i).getD i 0=s.getD i 0:=by
 have h:(List.zipWith (· + ·) (s.take i) (v.take i)).length=i:=by simp[hs,hv];omega
 simp only[i7,List.getD_eq_getElem?_getD]
 rw[List.getElem?_append_right (by omega),h]
 simp
theorem wi {s v:List UInt32} (hs:s.length=8) (hv:v.length=8) {i:Nat} (hi:i<8):(i7 s v i).set i (s.getD i 0+v.getD i 0)=i7 s v (i+1):=by
 have h:(List.zipWith (· + ·) (s.take i) (v.take i)).length=i:=by simp[hs,hv];omega
 have h1:s.getD i 0=s[i]:=by simp[List.getD,hs,hi]
 have h2:v.getD i 0=v[i]:=by simp[List.getD,hv,hi]
 unfold i7
 rw[List.set_append_right _ _ (by omega),h,Nat.sub_self,h1,h2]
 rw[List.drop_eq_getElem_cons (by omega:i<s.length),List.set_cons_zero,List.take_succ_eq_append_getElem (by omega:i<s.length),List.take_succ_eq_append_getElem (by omega:i<v.length)]
 rw[List.zipWith_append (by simp[hs,hv])]
 simp
theorem wj {s v:List UInt32} (hs:s.length=8) (hv:v.length=8):i7 s v 8=List.zipWith (· + ·) s v:=by
 have h1:s.take 8=s:=List.take_of_length_le (by omega)
 have h2:v.take 8=v:=List.take_of_length_le (by omega)
 have h3:s.drop 8=[]:=List.drop_eq_nil_of_le (by omega)
 unfold i7
 rw[h1,h2,h3,List.append_nil]
end Go.Rl
namespace Go.Rl
open Go.RowKit Go.Proofs
theorem Ab:ay Tryz.prog 62:=⟨_,Tryz.func62,by kernel_rfl,rfl⟩
theorem G6 {P:Program} {w:World} {t:TypeId} {v:Value} {l:List Value} (hv:v.cells=l.toArray):∃g w',(Instr.box t v).run P w=.ok (.pointer (some ⟨g,0,none⟩)) w'∧w.heap.size≤g∧aI w w'∧cd g t l w':=
 ⟨_,_,nU,Nat.le_refl _,aI.new w _,cd.new v hv⟩
theorem cm.reads {b:List UInt8} {v:Value} {w:World} (h:cm b v w):∃ad:Nat→Addr,∀i,i<b.length→
 (∀w':World,(Instr.indexAt 28 v (I (i:Int))).run Tryz.prog w'=.ok (.pointer (some (ad i))) w')∧∀w',aI w w'→(Instr.loadAt 5 (.pointer (some (ad i)))).run Tryz.prog w'=.ok (U8 (b.getD i 0)) w':=by
 have hall:∀i:Nat,∃ad:Addr,i<b.length→(∀w':World,(Instr.indexAt 28 v (I (i:Int))).run Tryz.prog w'=.ok (.pointer (some ad)) w')∧∀w',aI w w'→(Instr.loadAt 5 (.pointer (some ad))).run Tryz.prog w'=.ok (U8 (b.getD i 0)) w':=fun i=>by
  by_cases hi:i<b.length
  ·obtain⟨ad,had,hcell⟩:=eD h hi .i64
   refine⟨ad,fun _=>⟨had,fun w' hw'=>?_⟩⟩
   obtain⟨ad',had',hcell'⟩:=eD (h.ext hw') hi .i64
   have:=(had w').symm.trans (had' w')
   simp only[Result.ok.injEq,Value.pointer.injEq,Option.some.injEq,and_true] at this
   subst this
   have e:b.getD i 0=b[i]:=by simp[List.getD,hi]
   rw[e]
   exact IB hcell'
  ·exact⟨⟨0,0,none⟩,fun h=>absurd h hi⟩
 exact⟨fun i=>Classical.choose (hall i),fun i hi=>Classical.choose_spec (hall i) hi⟩
theorem Ac {w:World} {s:List UInt32} {b:List UInt8} {v:Value} (hs:s.length=8) (hbl:b.length=64) (hv:cm b v w):
 Calls Tryz.prog 62 #[.agg (s.map bA).toArray,v] w (bE fun r w'=>aI w w'∧r=.agg ((uU s b).map bA).toArray):=by
 refine enter (vs:=[.agg (s.map bA).toArray,v]) Tryz.func62 Ll Ll Ll ?_
 obtain⟨g2,w1,hr,n2,x1,b2⟩:=G6 (P:=Tryz.prog) (w:=w) (t:=112) (v:=.agg (s.map bA).toArray) (l:=s.map bA) rfl
 refine af (aa (cL Ll Ll hr ?_))
 obtain⟨g4,w2,hr,n4,x2,b4⟩:=be (P:=Tryz.prog) (w:=w1) (l:=(List.replicate 8 0).map bA) Da rfl
 refine bf Ll hr (ag (ab (af (aa ?_))))
 refine an (vs:=[]) rW Ll Ll (rX w2) ?_
 rintro _ w3 ⟨x3,rfl⟩
 obtain⟨g5,w4,hr,n5,x4,b5⟩:=be (P:=Tryz.prog) (w:=w3) (l:=List.replicate 64 (bA 0)) uo rfl
 refine bf Ll hr ?_
 refine aq Ll Ll (it b5 Ll uq (jA _)) ?_
 have b5':=b5.row (kc.map bA)
 have q5:=bp w4 g5 (kc.map bA).toArray
 revert b5' q5
 generalize w4.setRow g5 (kc.map bA).toArray=w5
 intro b5' q5
 refine ag (ab (af (aa ?_)))
 obtain⟨g6,w6,hr,n6,x6,b6⟩:=be (P:=Tryz.prog) (w:=w5) (l:=(dt []).map bA) uo rfl
 refine bf Ll hr (ag (ab ?_))
 have l24:g2<g4:=Nat.lt_of_lt_of_le b2.lt n4
 have l45:g4<g5:=Nat.lt_of_lt_of_le b4.lt (Nat.le_trans x3.size n5)
 have l56:g5<g6:=Nat.lt_of_lt_of_le b5'.lt n6
 have ne4:some g4≠some g5:=fun h=>by cases h;omega
 have ne2:some g2≠some g5:=fun h=>by cases h;omega
 have B2:cd g2 _ _ w6:=((((b2.ext x2).ext x3).ext x4).other q5 ne2).ext x6
 have B4:cd g4 _ _ w6:=(((b4.ext x3).ext x4).other q5 ne4).ext x6
 have B5:cd g5 _ _ w6:=b5'.ext x6
 have E6:aI w w6:=((((x1.trans x2).trans x3).trans x4).of_new q5 (by omega)).trans x6
 have hw6:w.heap.size≤g6:=by omega
 obtain⟨ad,had⟩:=hv.reads
 refine af (fj (fun _:Unit=>[(2,.pointer (some ⟨g2,0,none⟩)),(4,.pointer (some ⟨g4,0,none⟩)),(5,.pointer (some ⟨g5,0,none⟩)),(6,.pointer (some ⟨g6,0,none⟩))]) (fun _ w'=>w6.grownBy w' (some g6)∧cd g6 183 ((dt (bG b 0)).map bA) w') ?_ ?_)
 ·refine af (aa (ac Ll Ll (ag (ab (ax ?_)))))
  refine bZ (α:=Nat) (fun k=>[(1,v),(2,.pointer (some ⟨g2,0,none⟩)),(4,.pointer (some ⟨g4,0,none⟩)),(5,.pointer (some ⟨g5,0,none⟩)),(6,.pointer (some ⟨g6,0,none⟩)),(7,I (k:Int))])
   (fun k w'=>w6.grownBy w' (some g6)∧cd g6 183 ((dt (iY b k)).map bA) w'∧k≤16) (fun k=>16-k) 0 ⟨rfl,rfl,rfl,rfl,rfl,rfl,trivial⟩
   ⟨dq (aI.refl _),b6,by omega⟩ ?_
  rintro k w7 ⟨q7,b7,hk⟩
  refine af (af (aa (ae Ll Ll ?_)))
  refine ai Ll Ll Ll (aW) ?_
  refine ag (ab ?_)
  refine bi Ll (fun h=>?_) (fun h=>?_)
  ·have hk16:k<16:=by omega
   have E7:aI w w7:=E6.of_new q7 hw6
   refine ar (ab (af (ax ?_)))
   have e0:(4:Int)*(k:Int)=((4*k:Nat):Int):=by omega
   have e1:((4*k:Nat):Int)+1=((4*k+1:Nat):Int):=by omega
   have e2:((4*k:Nat):Int)+2=((4*k+2:Nat):Int):=by omega
   have e3:((4*k:Nat):Int)+3=((4*k+3:Nat):Int):=by omega
   refine bz 35 [1,2,4,5,6,7,58,59] (by kernel_rfl) (by kernel_rfl) ?_
   refine ap Ll Ll (ap Ll Ll (ap Ll Ll ?_))
   refine aS (r:=I ((4*k:Nat):Int)) Ll Ll Ll (fun w _=>by rw[←e0];exact fh (by omega) (by omega)) ?_
   refine az Ll Ll Ll (fun w _=>(had (4*k) (by omega)).1 w) ?_
   refine aE Ll Ll (fun w' hw=>(had (4*k) (by omega)).2 w' (E7.trans hw)) ?_
   refine dm Ll Ll (fun w _=>dZ KS KL) ?_
   refine aS Ll Ll Ll (fun w _=>eK 24 (by omega)) ?_
   refine ap Ll Ll (ap Ll Ll ?_)
   refine aS (r:=I ((4*k:Nat):Int)) Ll Ll Ll (fun w _=>by rw[←e0];exact fh (by omega) (by omega)) ?_
   refine aS (r:=I ((4*k+1:Nat):Int)) Ll Ll Ll (fun w _=>by rw[←e1];exact aK (by omega) (by omega)) ?_
   refine az Ll Ll Ll (fun w _=>(had (4*k+1) (by omega)).1 w) ?_
   refine aE Ll Ll (fun w' hw=>(had (4*k+1) (by omega)).2 w' (E7.trans hw)) ?_
   refine dm Ll Ll (fun w _=>dZ KS KL) ?_
   refine aS Ll Ll Ll (fun w _=>eK 16 (by omega)) ?_
   refine aS Ll Ll Ll (fun w _=>fm) ?_
   refine ap Ll Ll (ap Ll Ll ?_)
   refine aS (r:=I ((4*k:Nat):Int)) Ll Ll Ll (fun w _=>by rw[←e0];exact fh (by omega) (by omega)) ?_
   refine aS (r:=I ((4*k+2:Nat):Int)) Ll Ll Ll (fun w _=>by rw[←e2];exact aK (by omega) (by omega)) ?_
   refine az Ll Ll Ll (fun w _=>(had (4*k+2) (by omega)).1 w) ?_
   refine aE Ll Ll (fun w' hw=>(had (4*k+2) (by omega)).2 w' (E7.trans hw)) ?_
   refine dm Ll Ll (fun w _=>dZ KS KL) ?_
   refine aS Ll Ll Ll (fun w _=>eK 8 (by omega)) ?_
   refine aS Ll Ll Ll (fun w _=>fm) ?_
   refine ap Ll Ll (ap Ll Ll ?_)
   refine aS (r:=I ((4*k:Nat):Int)) Ll Ll Ll (fun w _=>by rw[←e0];exact fh (by omega) (by omega)) ?_
   refine aS (r:=I ((4*k+3:Nat):Int)) Ll Ll Ll (fun w _=>by rw[←e3];exact aK (by omega) (by omega)) ?_
   refine az Ll Ll Ll (fun w _=>(had (4*k+3) (by omega)).1 w) ?_
   refine aE Ll Ll (fun w' hw=>(had (4*k+3) (by omega)).2 w' (E7.trans hw)) ?_
   refine dm Ll Ll (fun w _=>dZ KS KL) ?_
   refine aS Ll Ll Ll (fun w _=>fm) ?_
   refine az Ll Ll Ll (fun w _=>gF k (by omega)) ?_
   refine bF ?_
   intro w8 hx8
   rintro _ rfl _ rfl _ rfl _ rfl _ rfl _ rfl _ rfl _ rfl
   have hlen:(dt (iY b k)).length=64:=lO (by rw[jv];omega)
   refine aq Ll Ll (Aa (x:=pB b k) (b7.ext hx8) k (by omega)) ?_
   have b8:=(b7.ext hx8).setU k (pB b k)
   have q8:=(q7.trans (dq hx8)).trans (ba w8 g6 k (bA (pB b k)))
   have hset:(dt (iY b k)).set k (pB b k)=dt (iY b (k+1)):=by
    have:=lP (l:=iY b k) (pB b k) (by rw[jv];omega)
    rw[jv] at this
    rw[this,uu]
   rw[hset] at b8
   refine ag (aJ (ab (aa (ae Ll Ll ?_))))
   refine ai Ll Ll Ll (aK (by omega) (by omega)) ?_
   refine ac Ll Ll (ag ?_)
   exact bQ (k+1) ⟨rfl,rfl,rfl,rfl,rfl,rfl,trivial⟩ ⟨q8,b8,by omega⟩ (by omega)
  ·have hk':k=16:=by omega
   subst hk'
   exact aY (aB (aB (aX (cz () ⟨rfl,rfl,rfl,rfl,trivial⟩ ⟨q7,b7⟩))))
 rintro _ w7 ⟨q7,b7⟩
 refine ab ?_
 refine af (fj (fun _:Unit=>[(2,.pointer (some ⟨g2,0,none⟩)),(4,.pointer (some ⟨g4,0,none⟩)),(5,.pointer (some ⟨g5,0,none⟩)),(6,.pointer (some ⟨g6,0,none⟩))]) (fun _ w'=>w6.grownBy w' (some g6)∧cd g6 183 ((bG b 48).map bA) w') ?_ ?_)
 ·refine af (aa (ac Ll Ll (ag (ab (ax ?_)))))
  refine bZ (α:=Nat) (fun k=>[(2,.pointer (some ⟨g2,0,none⟩)),(4,.pointer (some ⟨g4,0,none⟩)),(5,.pointer (some ⟨g5,0,none⟩)),(6,.pointer (some ⟨g6,0,none⟩)),(8,I ((16+k:Nat):Int))])
   (fun k w'=>w6.grownBy w' (some g6)∧cd g6 183 ((dt (bG b k)).map bA) w'∧k≤48) (fun k=>48-k) 0 ⟨rfl,rfl,rfl,rfl,rfl,trivial⟩
   ⟨q7,b7,by omega⟩ ?_
  clear q7 b7
  rintro k w7 ⟨q7,b7,hk⟩
  have hL:=kz b k
  refine af (af (aa (ae Ll Ll ?_)))
  refine ai Ll Ll Ll (aW) ?_
  refine ag (ab ?_)
  refine bi Ll (fun h=>?_) (fun h=>?_)
  ·have hk48:k<48:=by omega
   refine ar (ab (af (ax (af ?_))))
   have e15:((16+k:Nat):Int)-15=(((bG b k).length-15:Nat):Int):=by omega
   have e2:((16+k:Nat):Int)-2=(((bG b k).length-2:Nat):Int):=by omega
   have e16:((16+k:Nat):Int)-16=(((bG b k).length-16:Nat):Int):=by omega
   have e7:((16+k:Nat):Int)-7=(((bG b k).length-7:Nat):Int):=by omega
   have f15:=fY (l:=bG b k) (i:=(bG b k).length-15) (by omega)
   have f2:=fY (l:=bG b k) (i:=(bG b k).length-2) (by omega)
   have f16:=fY (l:=bG b k) (i:=(bG b k).length-16) (by omega)
   have f7:=fY (l:=bG b k) (i:=(bG b k).length-7) (by omega)
   have hlen:(dt (bG b k)).length=64:=lO (by omega)
   refine bz 9 [2,4,5,6,8,9,71] (by kernel_rfl) (by kernel_rfl) ?_
   refine ap Ll Ll ?_
   refine aS (r:=I (((bG b k).length-15:Nat):Int)) Ll Ll Ll (fun w _=>by rw[←e15];exact bg (by omega) (by omega)) ?_
   refine az Ll Ll Ll (fun w _=>gF _ (by omega)) ?_
   refine aE (r:=bA ((bG b k).getD ((bG b k).length-15) 0)) Ll Ll (fun w' hw=>by rw[←f15];exact de (b7.ext hw) _ (by omega)) ?_
   refine ap Ll Ll ?_
   refine aS (r:=I (((bG b k).length-2:Nat):Int)) Ll Ll Ll (fun w _=>by rw[←e2];exact bg (by omega) (by omega)) ?_
   refine az Ll Ll Ll (fun w _=>gF _ (by omega)) ?_
   refine aE (r:=bA ((bG b k).getD ((bG b k).length-2) 0)) Ll Ll (fun w' hw=>by rw[←f2];exact de (b7.ext hw) _ (by omega)) ?_
   refine eo Ll Ll (bF ?_)
   intro w8 hx8
   rintro _ rfl _ rfl _ rfl _ rfl _ rfl _ rfl _ rfl
   refine ac Ll Ll (ag (ab (af (aa (ae Ll Ll ?_)))))
   refine an eh Ll Ll (ei 7 (by omega) (by omega)) ?_
   rintro _ w9 ⟨hx9,rfl⟩
   refine ae Ll Ll ?_
   refine an eh Ll Ll (ei 18 (by omega) (by omega)) ?_
   rintro _ w10 ⟨hx10,rfl⟩
   refine ai Ll Ll Ll (cH) ?_
   refine ae Ll Ll ?_
   refine ai Ll Ll Ll (dh 3 (by omega)) ?_
   refine ai Ll Ll Ll (cH) ?_
   refine ac Ll Ll (ag (ab (af (aa (ae Ll Ll ?_)))))
   refine an eh Ll Ll (ei 17 (by omega) (by omega)) ?_
   rintro _ w11 ⟨hx11,rfl⟩
   refine ae Ll Ll ?_
   refine an eh Ll Ll (ei 19 (by omega) (by omega)) ?_
   rintro _ w12 ⟨hx12,rfl⟩
   refine ai Ll Ll Ll (cH) ?_
   refine ae Ll Ll ?_
   refine ai Ll Ll Ll (dh 10 (by omega)) ?_
   refine ai Ll Ll Ll (cH) ?_
   refine ac Ll Ll (ag (ab ?_))
   have x12:=(((hx8.trans hx9).trans hx10).trans hx11).trans hx12
   have b12:=b7.ext x12
   refine bz 15 [2,4,5,6,8,101,102] (by kernel_rfl) (by kernel_rfl) ?_
   refine ap Ll Ll (ap Ll Ll ?_)
   refine aS (r:=I (((bG b k).length-16:Nat):Int)) Ll Ll Ll (fun w _=>by rw[←e16];exact bg (by omega) (by omega)) ?_
   refine az Ll Ll Ll (fun w _=>gF _ (by omega)) ?_
   refine aE (r:=bA ((bG b k).getD ((bG b k).length-16) 0)) Ll Ll (fun w' hw=>by rw[←f16];exact de (b12.ext hw) _ (by omega)) ?_
   refine ap Ll Ll ?_
   refine aS Ll Ll Ll (fun w _=>cl) ?_
   refine ap Ll Ll ?_
   refine aS (r:=I (((bG b k).length-7:Nat):Int)) Ll Ll Ll (fun w _=>by rw[←e7];exact bg (by omega) (by omega)) ?_
   refine az Ll Ll Ll (fun w _=>gF _ (by omega)) ?_
   refine aE (r:=bA ((bG b k).getD ((bG b k).length-7) 0)) Ll Ll (fun w' hw=>by rw[←f7];exact de (b12.ext hw) _ (by omega)) ?_
   refine aS Ll Ll Ll (fun w _=>cl) ?_
   refine ap Ll Ll ?_
   refine aS Ll Ll Ll (fun w _=>cl) ?_
   refine az Ll Ll Ll (fun w _=>gF (16+k) (by omega)) ?_
   refine bF ?_
   intro w13 hx13
   rintro _ rfl _ rfl _ rfl _ rfl _ rfl _ rfl _ rfl
   refine aq Ll Ll (Aa (x:=mO (bG b k)) (b12.ext hx13) (16+k) (by omega)) ?_
   have b13:=(b12.ext hx13).setU (16+k) (mO (bG b k))
   have q13:=((q7.trans (dq x12)).trans (dq hx13)).trans (ba w13 g6 (16+k) (bA (mO (bG b k))))
   have hset:(dt (bG b k)).set (16+k) (mO (bG b k))=dt (bG b (k+1)):=by
    have:=lP (l:=bG b k) (mO (bG b k)) (by omega)
    rw[hL] at this
    exact this
   rw[hset] at b13
   refine ag (aJ (ab (aa (ae Ll Ll ?_))))
   refine ai Ll Ll Ll (aK (by omega) (by omega)) ?_
   refine ac Ll Ll (ag ?_)
   exact bQ (k+1) ⟨rfl,rfl,rfl,rfl,rfl,trivial⟩ ⟨q13,b13,by omega⟩ (by omega)
  ·have hk':k=48:=by omega
   subst hk'
   have hf:dt (bG b 48)=bG b 48:=by
    unfold dt
    rw[hL]
    exact List.append_nil _
   rw[hf] at b7
   exact aY (aB (aB (aX (cz () ⟨rfl,rfl,rfl,rfl,trivial⟩ ⟨q7,b7⟩))))
 clear q7 b7
 rintro _ w7 ⟨q7,b7⟩
 refine ab ?_
 have E7:aI w w7:=E6.of_new q7 hw6
 have ne26:some g2≠some g6:=fun h=>by cases h;omega
 have ne46:some g4≠some g6:=fun h=>by cases h;omega
 have ne56:some g5≠some g6:=fun h=>by cases h;omega
 have C2:=B2.other q7 ne26
 have C4:=B4.other q7 ne46
 have C5:=B5.other q7 ne56
 have hlen8:(Tryz.prog.info? 112).map (·.size)=some (s.map bA).length:=by rw[List.length_map,hs];exact mZ
 refine af (aa ?_)
 refine am Ll Ll (mi (m:=s.map bA) C2 (fun j v h=>by rwa [Nat.zero_add]) Lc Ll hlen8) ?_
 obtain⟨g13,w8,hr,n13,x8,b13⟩:=be (P:=Tryz.prog) (w:=w7) (l:=(List.replicate 8 0).map bA) Da rfl
 refine bf Ll hr ?_
 refine aq Ll Ll (it b13 (by simp[hs]) hlen8 (jA _)) ?_
 have b13':=b13.row (s.map bA)
 have q13:=bp w8 g13 (s.map bA).toArray
 have l13:g6<g13:=Nat.lt_of_lt_of_le b7.lt n13
 have ne213:some g2≠some g13:=fun h=>by cases h;omega
 have ne413:some g4≠some g13:=fun h=>by cases h;omega
 have ne513:some g5≠some g13:=fun h=>by cases h;omega
 have ne613:some g6≠some g13:=fun h=>by cases h;omega
 have D2:=(C2.ext x8).other q13 ne213
 have D4:=(C4.ext x8).other q13 ne413
 have D5:=(C5.ext x8).other q13 ne513
 have D6:=(b7.ext x8).other q13 ne613
 have E8:aI w (w8.setRow g13 (s.map bA).toArray):=(E7.trans x8).of_new q13 (by omega)
 revert b13' D2 D4 D5 D6 E8
 generalize w8.setRow g13 (s.map bA).toArray=w9
 intro b13' D2 D4 D5 D6 E9
 refine ag (ab ?_)
 refine af (fj (fun _:Unit=>[(2,.pointer (some ⟨g2,0,none⟩)),(4,.pointer (some ⟨g4,0,none⟩)),(13,.pointer (some ⟨g13,0,none⟩))]) (fun _ w'=>w9.grownBy w' (some g13)∧cd g13 112 ((dU b s 64).map bA) w') ?_ ?_)
 ·refine af (aa (ac Ll Ll (ag (ab (ax ?_)))))
  refine bZ (α:=Nat) (fun i=>[(2,.pointer (some ⟨g2,0,none⟩)),(4,.pointer (some ⟨g4,0,none⟩)),(5,.pointer (some ⟨g5,0,none⟩)),(6,.pointer (some ⟨g6,0,none⟩)),(13,.pointer (some ⟨g13,0,none⟩)),(14,I (i:Int))])
   (fun i w'=>w9.grownBy w' (some g13)∧cd g13 112 ((dU b s i).map bA) w'∧i≤64) (fun i=>64-i) 0 ⟨rfl,rfl,rfl,rfl,rfl,rfl,trivial⟩
   ⟨dq (aI.refl _),b13',by omega⟩ ?_
  rintro i w10 ⟨q10,b10,hi⟩
  have hv8:=gy b s hs i
  refine af (af (aa (ae Ll Ll ?_)))
  refine ai Ll Ll Ll (aW) ?_
  refine ag (ab ?_)
  refine bi Ll (fun h=>?_) (fun h=>?_)
  ·have hi64:i<64:=by omega
   refine ar (ab (af (ax (af ?_))))
   have V:=b10
   have K5:=D5.other q10 ne513
   have K6:=D6.other q10 ne613
   have hkc:kc.length=64:=rfl
   have hsl:(bG b 48).length=64:=kz b 48
   refine bz 5 [2,4,5,6,13,14,15,111] (by kernel_rfl) (by kernel_rfl) ?_
   refine az Ll Ll Ll (fun w _=>dP 0 (by omega)) ?_
   refine aE Ll Ll (fun w' hw=>de (V.ext hw) 0 (by omega)) ?_
   refine az Ll Ll Ll (fun w _=>dP 4 (by omega)) ?_
   refine aE Ll Ll (fun w' hw=>de (V.ext hw) 4 (by omega)) ?_
   refine eo Ll Ll (bF ?_)
   intro w11 hx11
   rintro _ rfl _ rfl _ rfl _ rfl _ rfl _ rfl _ rfl _ rfl
   refine ac Ll Ll (ag (ab (af ?_)))
   replace V:=V.ext hx11
   replace K5:=K5.ext hx11
   replace K6:=K6.ext hx11
   refine bz 30 [2,4,5,6,13,14,15,16,141] (by kernel_rfl) (by kernel_rfl) ?_
   refine az Ll Ll Ll (fun w _=>dP 7 (by omega)) ?_
   refine aE Ll Ll (fun w' hw=>de (V.ext hw) 7 (by omega)) ?_
   refine ap Ll Ll ?_
   refine ce (S:=Is (bA (iq _ 6))) eh (bt.is _) Ll (fun w' _=>by
    rintro _ rfl _ rfl
    exact bE.mono (ei 6 (by omega) (by omega)) fun v w'' h=>⟨h.1,h.2⟩) ?_
   refine ap Ll Ll ?_
   refine ce (S:=Is (bA (iq _ 11))) eh (bt.is _) Ll (fun w' _=>by
    rintro _ rfl _ rfl
    exact bE.mono (ei 11 (by omega) (by omega)) fun v w'' h=>⟨h.1,h.2⟩) ?_
   refine aS Ll Ll Ll (fun w _=>cH) ?_
   refine ap Ll Ll ?_
   refine ce (S:=Is (bA (iq _ 25))) eh (bt.is _) Ll (fun w' _=>by
    rintro _ rfl _ rfl
    exact bE.mono (ei 25 (by omega) (by omega)) fun v w'' h=>⟨h.1,h.2⟩) ?_
   refine aS Ll Ll Ll (fun w _=>cH) ?_
   refine aS Ll Ll Ll (fun w _=>cl) ?_
   refine ap Ll Ll ?_
   refine az Ll Ll Ll (fun w _=>dP 5 (by omega)) ?_
   refine aE Ll Ll (fun w' hw=>de (V.ext hw) 5 (by omega)) ?_
   refine aS Ll Ll Ll (fun w _=>fk) ?_
   refine ap Ll Ll ?_
   refine yE Ll Ll (fun w _=>rg) ?_
   refine az Ll Ll Ll (fun w _=>dP 6 (by omega)) ?_
   refine aE Ll Ll (fun w' hw=>de (V.ext hw) 6 (by omega)) ?_
   refine aS Ll Ll Ll (fun w _=>fk) ?_
   refine aS Ll Ll Ll (fun w _=>cH) ?_
   refine aS Ll Ll Ll (fun w _=>cl) ?_
   refine ap Ll Ll ?_
   refine az Ll Ll Ll (fun w _=>gF i (by omega)) ?_
   refine aE Ll Ll (fun w' hw=>de (K5.ext hw) i (by omega)) ?_
   refine aS Ll Ll Ll (fun w _=>cl) ?_
   refine ap Ll Ll ?_
   refine az Ll Ll Ll (fun w _=>gF i (by omega)) ?_
   refine aE Ll Ll (fun w' hw=>de (K6.ext hw) i (by omega)) ?_
   refine aS Ll Ll Ll (fun w _=>cl) ?_
   refine bF ?_
   intro w12 hx12
   rintro _ rfl _ rfl _ rfl _ rfl _ rfl _ rfl _ rfl _ rfl _ rfl
   refine ac Ll Ll (ag (ab (af ?_)))
   replace V:=V.ext hx12
   refine bz 24 [2,4,5,6,13,14,15,16,17,165] (by kernel_rfl) (by kernel_rfl) ?_
   refine ap Ll Ll ?_
   refine ce (S:=Is (bA (iq _ 2))) eh (bt.is _) Ll (fun w' _=>by
    rintro _ rfl _ rfl
    exact bE.mono (ei 2 (by omega) (by omega)) fun v w'' h=>⟨h.1,h.2⟩) ?_
   refine ap Ll Ll ?_
   refine ce (S:=Is (bA (iq _ 13))) eh (bt.is _) Ll (fun w' _=>by
    rintro _ rfl _ rfl
    exact bE.mono (ei 13 (by omega) (by omega)) fun v w'' h=>⟨h.1,h.2⟩) ?_
   refine aS Ll Ll Ll (fun w _=>cH) ?_
   refine ap Ll Ll ?_
   refine ce (S:=Is (bA (iq _ 22))) eh (bt.is _) Ll (fun w' _=>by
    rintro _ rfl _ rfl
    exact bE.mono (ei 22 (by omega) (by omega)) fun v w'' h=>⟨h.1,h.2⟩) ?_
   refine aS Ll Ll Ll (fun w _=>cH) ?_
   refine ap Ll Ll ?_
   refine az Ll Ll Ll (fun w _=>dP 1 (by omega)) ?_
   refine aE Ll Ll (fun w' hw=>de (V.ext hw) 1 (by omega)) ?_
   refine aS Ll Ll Ll (fun w _=>fk) ?_
   refine ap Ll Ll ?_
   refine az Ll Ll Ll (fun w _=>dP 2 (by omega)) ?_
   refine aE Ll Ll (fun w' hw=>de (V.ext hw) 2 (by omega)) ?_
   refine aS Ll Ll Ll (fun w _=>fk) ?_
   refine aS Ll Ll Ll (fun w _=>cH) ?_
   refine az Ll Ll Ll (fun w _=>dP 1 (by omega)) ?_
   refine aE Ll Ll (fun w' hw=>de (V.ext hw) 1 (by omega)) ?_
   refine az Ll Ll Ll (fun w _=>dP 2 (by omega)) ?_
   refine aE Ll Ll (fun w' hw=>de (V.ext hw) 2 (by omega)) ?_
   refine aS Ll Ll Ll (fun w _=>fk) ?_
   refine aS Ll Ll Ll (fun w _=>cH) ?_
   refine aS Ll Ll Ll (fun w _=>cl) ?_
   refine bF ?_
   intro w13 hx13
   rintro _ rfl _ rfl _ rfl _ rfl _ rfl _ rfl _ rfl _ rfl _ rfl _ rfl
   refine ac Ll Ll (ag (ab (aa (ae Ll Ll (ae Ll Ll ?_)))))
   replace V:=V.ext hx13
   refine ai Ll Ll Ll (cl) ?_
   refine ae Ll Ll ?_
   refine aA Ll Ll Ll (dP 1 (by omega)) ?_
   refine am Ll Ll (de V 1 (by omega)) ?_
   refine aA Ll Ll Ll (dP 2 (by omega)) ?_
   refine am Ll Ll (de V 2 (by omega)) ?_
   refine aA Ll Ll Ll (dP 3 (by omega)) ?_
   refine am Ll Ll (de V 3 (by omega)) ?_
   refine ae Ll Ll ?_
   refine ai Ll Ll Ll (cl) ?_
   refine ae Ll Ll ?_
   refine aA Ll Ll Ll (dP 5 (by omega)) ?_
   refine am Ll Ll (de V 5 (by omega)) ?_
   refine aA Ll Ll Ll (dP 6 (by omega)) ?_
   refine am Ll Ll (de V 6 (by omega)) ?_
   refine bm Ll Ll (run_build _ _ _ ((dU b s (i+1)).map bA).toArray (by kernel_rfl)) ?_
   have hn8:=gy b s hs (i+1)
   refine aq Ll Ll (it V (by simp[hv8,hn8]) (by rw[List.length_map,hn8];exact mZ) (jA _)) ?_
   have V':=V.row ((dU b s (i+1)).map bA)
   have q14:=(q10.trans (dq ((hx11.trans hx12).trans hx13))).trans (bp w13 g13 ((dU b s (i+1)).map bA).toArray)
   refine ag (aJ (ab (aa (ae Ll Ll ?_))))
   refine ai Ll Ll Ll (aK (by omega) (by omega)) ?_
   refine ac Ll Ll (ag ?_)
   exact bQ (i+1) ⟨rfl,rfl,rfl,rfl,rfl,rfl,trivial⟩ ⟨q14,V',by omega⟩ (by omega)
  ·have hi':i=64:=by omega
   subst hi'
   exact aY (aB (aB (aX (cz () ⟨rfl,rfl,rfl,trivial⟩ ⟨q10,b10⟩))))
 rintro _ w10 ⟨q10,b10⟩
 refine ab ?_
 have hv8:=gy b s hs 64
 have F2:=D2.other q10 ne213
 have F4:=D4.other q10 ne413
 have E10:aI w w10:=E9.of_new q10 (by omega)
 have ha0:i7 s (dU b s 64) 0=s:=by simp[i7]
 refine af (fj (fun _:Unit=>[(2,.pointer (some ⟨g2,0,none⟩)),(4,.pointer (some ⟨g4,0,none⟩))]) (fun _ w'=>w10.grownBy w' (some g2)∧cd g2 112 ((i7 s (dU b s 64) 8).map bA) w') ?_ ?_)
 ·refine af (aa (ac Ll Ll (ag (ab (ax ?_)))))
  refine bZ (α:=Nat) (fun i=>[(2,.pointer (some ⟨g2,0,none⟩)),(4,.pointer (some ⟨g4,0,none⟩)),(13,.pointer (some ⟨g13,0,none⟩)),(19,I (i:Int))])
   (fun i w'=>w10.grownBy w' (some g2)∧cd g2 112 ((i7 s (dU b s 64) i).map bA) w'∧i≤8) (fun i=>8-i) 0 ⟨rfl,rfl,rfl,rfl,trivial⟩
   ⟨dq (aI.refl _),by rw[ha0];exact F2,by omega⟩ ?_
  rintro i w11 ⟨q11,b11,hi⟩
  refine af (af (aa (ae Ll Ll ?_)))
  refine ai Ll Ll Ll (aW) ?_
  refine ag (ab ?_)
  refine bi Ll (fun h=>?_) (fun h=>?_)
  ·have hi8:i<8:=by omega
   have hal:=EL hs hv8 hi
   have hag:=wh hs hv8 hi8
   have K13:=b10.other q11 (fun h=>by cases h;omega)
   refine ar (ab (af (ax ?_)))
   refine bz 8 [2,4,13,19,194,195] (by kernel_rfl) (by kernel_rfl) ?_
   refine ap Ll Ll ?_
   refine az Ll Ll Ll (fun w _=>dP i (by omega)) ?_
   refine aE (r:=bA (s.getD i 0)) Ll Ll (fun w' hw=>by rw[←hag];exact de (b11.ext hw) i (by omega)) ?_
   refine ap Ll Ll ?_
   refine az Ll Ll Ll (fun w _=>dP i (by omega)) ?_
   refine aE Ll Ll (fun w' hw=>de (K13.ext hw) i (by omega)) ?_
   refine aS Ll Ll Ll (fun w _=>cl) ?_
   refine az Ll Ll Ll (fun w _=>dP i (by omega)) ?_
   refine bF ?_
   intro w12 hx12
   rintro _ rfl _ rfl _ rfl _ rfl _ rfl _ rfl
   refine aq Ll Ll (Aa (b11.ext hx12) i (by omega)) ?_
   have b12:=(b11.ext hx12).setU i (s.getD i 0+(dU b s 64).getD i 0)
   rw[wi hs hv8 hi8] at b12
   have q12:=(q11.trans (dq hx12)).trans (ba w12 g2 i (bA (s.getD i 0+(dU b s 64).getD i 0)))
   refine ag (aJ (ab (aa (ae Ll Ll ?_))))
   refine ai Ll Ll Ll (aK (by omega) (by omega)) ?_
   refine ac Ll Ll (ag ?_)
   exact bQ (i+1) ⟨rfl,rfl,rfl,rfl,trivial⟩ ⟨q12,b12,by omega⟩ (by omega)
  ·have hi':i=8:=by omega
   subst hi'
   exact aY (aB (aB (aX (cz () ⟨rfl,rfl,trivial⟩ ⟨q11,b11⟩))))
 rintro _ w11 ⟨q11,b11⟩
 rw[wj hs hv8] at b11
 have hc8:=zn s b hs
 have hlen8':(Tryz.prog.info? 112).map (·.size)=some ((uU s b).map bA).length:=by rw[List.length_map,hc8];exact mZ
 have G4:=F4.other q11 (fun h=>by cases h;omega)
 refine ab (af (aa ?_))
 refine am Ll Ll (mi (m:=(uU s b).map bA) b11 (fun j v h=>by rw[Nat.zero_add];exact h) Lc Ll hlen8') ?_
 refine aq Ll Ll (it G4 (by simp[hc8]) hlen8' (jA _)) ?_
 refine ag (ab (av ?_))
 refine dR Ll Ll (G4.row _) Lc Ll hlen8' ?_
 exact⟨_,rfl,(E10.of_new q11 (by omega)).of_new (bp _ _ _) (by omega),rfl⟩
end Go.Rl
namespace Go.Rl
open Go.RowKit Go.Proofs
theorem m0:(Tryz.prog.info? 22).map (·.zero)=some (some (.agg (List.replicate 32 (U8 0)).toArray)):=by kernel_rfl
theorem j5:(Tryz.prog.info? 22).map (·.size)=some 32:=by kernel_rfl
section
variable {w:World} {g o:Nat} {T:TypeId}
theorem qV (i:Nat) (hi:i<32):(Instr.indexAt 22 (.pointer (some ⟨g,0,none⟩)) (I (i:Int))).run Tryz.prog w=.ok (.pointer (some ⟨g,i,none⟩)) w:=by
 have:=yI (P:=Tryz.prog) (w:=w) (g:=g) (o:=0) La fO hi .i64
 rwa [Nat.zero_add] at this
theorem wm {m:List UInt8} {x:UInt8} (h:cd g T (m.map U8) w) (i:Nat) (hi:i<m.length):(Instr.storeAt 5 (.pointer (some ⟨g,i,none⟩)) (U8 x)).run Tryz.prog w=.ok () (w.setCell ⟨g,i,none⟩ (U8 x)):=
 dv fO rfl h (by simpa using hi)
theorem cd.setB {m:List UInt8} (h:cd g T (m.map U8) w) (i:Nat) (x:UInt8):cd g T ((m.set i x).map U8) (w.setCell ⟨g,i,none⟩ (U8 x)):=by
 have:=h.set i (U8 x)
 rwa [←List.map_set] at this
end
theorem pV (m:List UInt8):∀v∈m.map U8,v.oneCell'=true:=by
 intro u hu
 obtain⟨b,_,rfl⟩:=List.mem_map.1 hu
 rfl
def fx (d:List UInt8) (n j:Nat):List UInt8:=d.take j++List.replicate (n-j) 0
theorem jw {d:List UInt8} {n j:Nat} (hd:d.length=n) (hj:j≤n):(fx d n j).length=n:=by simp[fx,hd];omega
theorem jx {d:List UInt8} {n j:Nat} (hd:d.length=n) (hj:j<n):(fx d n j).set j (d.getD j 0)=fx d n (j+1):=by
 have h:(d.take j).length=j:=by simp[hd];omega
 have h1:d.getD j 0=d[j]:=by simp[List.getD,hd,hj]
 unfold fx
 rw[List.set_append_right _ _ (by omega),h,Nat.sub_self,h1,List.take_succ_eq_append_getElem (by omega:j<d.length)]
 have:n-j=(n-(j+1))+1:=by omega
 rw[this,List.replicate_succ,List.set_cons_zero,List.append_assoc]
 rfl
theorem qW {d:List UInt8} {n:Nat} (hd:d.length=n):fx d n n=d:=by
 simp[fx,←hd]
theorem Ad (s:List UInt32):(s.flatMap uM).length=4*s.length:=by
 induction s with
 |nil=>rfl
 |cons x s ih=>
  have:(x::s).flatMap uM=uM x++s.flatMap uM:=by simp
  rw[this,List.length_append,ih]
  simp[uM];omega
theorem kP:∀(s:List UInt32) (i k:Nat),i<s.length→k<4→(s.flatMap uM).getD (4*i+k) 0=(s.getD i 0>>>UInt32.ofNat (24-8*k)).toUInt8
 |[],_,_,h,_=>by simp at h
 |x::s,0,k,_,hk=>by
  have e:(x::s).flatMap uM=uM x++s.flatMap uM:=by simp
  rw[e]
  match k,hk with
  |0,_=>rfl
  |1,_=>rfl
  |2,_=>rfl
  |3,_=>
   show x.toUInt8=(x>>>UInt32.ofNat 0).toUInt8
   rw[show UInt32.ofNat 0=0 from rfl,UInt32.shiftRight_zero]
 |x::s,i+1,k,h,hk=>by
  have e:(x::s).flatMap uM=uM x++s.flatMap uM:=by simp
  rw[e]
  have h4:(uM x).length=4:=rfl
  have:=kP s i k (by simpa using h) hk
  rw[List.getD_eq_getElem?_getD,List.getElem?_append_right (by omega),h4,show 4*(i+1)+k-4=4*i+k by omega,←List.getD_eq_getElem?_getD,this]
  rfl
theorem dF (m:List UInt8):(je m).length=32:=by
 unfold je
 rw[Ad,Gg]
theorem ym (n:UInt64):(zo n).length=8:=by simp[zo]
theorem G7 (n:UInt64) {j:Nat} (hj:j<8):(zo n).take (j+1)=(zo n).take j++[(n>>>UInt64.ofNat (56-8*j)).toUInt8]:=by
 rw[List.take_succ_eq_append_getElem (by rw[ym];exact hj)]
 simp[zo]
theorem G8 (M:List UInt8) (k:Nat):vH M (k+1)=uU (vH M k) ((M.take (64*k+64)).drop (64*k)):=by
 rw[vH,List.drop_take,Nat.add_sub_cancel_left]
end Go.Rl
namespace Go.Rl
open Go.RowKit Go.Proofs
theorem wo:ay Tryz.prog 26:=⟨_,Tryz.func26,by kernel_rfl,rfl⟩
theorem wq {w:World} {l:List UInt8} {v:Value} (hv:cm l v w) (hl:l.length≤1099511627776):
 Calls Tryz.prog 26 #[v] w (bE fun r w'=>aI w w'∧r=.agg ((je l).map U8).toArray):=by
 refine enter (vs:=[v]) Tryz.func26 Ll Ll Ll ?_
 obtain⟨g2,w1,hr,n2,x1,b2⟩:=be (P:=Tryz.prog) (w:=w) (l:=(List.replicate 32 0).map U8) m0 rfl
 refine af (aa (bf Ll hr (ag (ab (af (aa ?_))))))
 obtain⟨r3,w3,hr,x3,o3,_⟩:=fE (w:=w1) w1.heap.size [] (by simp) (Nat.le_refl _)
 refine aO (vs:=[]) Ll Ll hr ?_
 refine ae Ll Ll ?_
 have e3:=x1.trans x3
 obtain⟨r4,w4,hr,o4,g4⟩:=dn (ty:=28) o3 (hv.ext e3) (by simp only[List.length_nil];omega) x3.size
 have x4:=x3.of_grew g4 o3.ge
 refine bc Ll Ll hr ?_
 obtain⟨r5,w5,hr,x5,o5,_⟩:=fE (w:=w4) w4.heap.size [128] (by simp) (Nat.le_refl _)
 refine aO (vs:=[(0,U8 128)]) Ll Ll hr ?_
 obtain⟨r6,w6,hr,o6,g6⟩:=dn (ty:=28) (o4.ext x5) o5.bts (by simp only[List.nil_append,List.length_cons,List.length_nil];omega) (x4.trans x5).size
 have x6:=(x4.trans x5).of_grew g6 o4.ge
 refine bc Ll Ll hr ?_
 rw[List.nil_append] at o6
 have B2:=b2.ext x6
 refine ac Ll Ll (ag (ab ?_))
 refine af (fj (fun m:Value=>[(0,v),(2,.pointer (some ⟨g2,0,none⟩)),(3,m)]) (fun m w'=>cG w1.heap.size (l++[128]++List.replicate (gz l.length) 0) m w'∧aI w1 w') ?_ ?_)
 ·refine ax ?_
  refine bZ (α:=Nat×Value) (fun x=>[(0,v),(2,.pointer (some ⟨g2,0,none⟩)),(3,x.2)])
   (fun x w'=>cG w1.heap.size (l++[128]++List.replicate x.1 0) x.2 w'∧aI w1 w'∧x.1≤gz l.length) (fun x=>gz l.length-x.1) (0,r6) ⟨rfl,rfl,rfl,trivial⟩
   ⟨by simpa using o6,x6,by simp⟩ ?_
  rintro⟨k,m⟩ w7 ⟨o7,x7,hk⟩
  dsimp only at o7 x7 hk
  have hp:gz l.length<64:=by unfold gz;omega
  have hm:(l++[128]++List.replicate k 0).length=l.length+1+k:=by simp;omega
  refine af (af (aa (ae Ll Ll ?_)))
  refine aQ Ll Ll (bC o7.bts) ?_
  refine ai Ll Ll Ll (nu (by omega) (by omega)) ?_
  refine ai Ll Ll Ll (bL) ?_
  refine ag (ab ?_)
  rw[hm]
  refine bi Ll (fun h=>?_) (fun h=>?_)
  ·have hlt:k<gz l.length:=by
    rcases Nat.lt_or_ge k (gz l.length) with h1|h1
    ·exact h1
    ·have:k=gz l.length:=by omega
     subst this
     exfalso
     unfold gz at h
     omega
   refine ar (ab (ax (aa (ae Ll Ll ?_))))
   obtain⟨r8,w8,hr,x8,o8,_⟩:=fE (w:=w7) w7.heap.size [0] (by simp) (Nat.le_refl _)
   refine aO (vs:=[(0,U8 0)]) Ll Ll hr ?_
   obtain⟨r9,w9,hr,o9,g9⟩:=dn (ty:=28) (o7.ext x8) o8.bts (by rw[hm];simp only[List.length_cons,List.length_nil];omega) (x7.trans x8).size
   refine bc Ll Ll hr ?_
   refine ac Ll Ll (ag (aJ ?_))
   refine bQ (k+1,r9) ⟨rfl,rfl,rfl,trivial⟩ ⟨?_,(x7.trans x8).of_grew g9 o7.ge,hlt⟩ (by show gz l.length-(k+1)<gz l.length-k;omega)
   show cG _ (l++[128]++List.replicate (k+1) 0) r9 w9
   rw[List.replicate_succ',←List.append_assoc]
   exact o9
  ·have hk':k=gz l.length:=by
    unfold gz at hk hp⊢
    omega
   subst hk'
   exact aY (aB (aB (aX (cz m ⟨rfl,rfl,rfl,trivial⟩ ⟨o7,x7⟩))))
 rintro m7 w7 ⟨o7,x7⟩
 refine ab (af (aa (ae Ll Ll ?_)))
 refine aQ Ll Ll (bC (hv.ext (x1.trans x7))) ?_
 refine aR Ll Ll (cN KO KN) ?_
 refine ai (u:=bj 8) Ll Ll Ll (fZ) ?_
 rw[UInt64.mul_comm]
 refine ac Ll Ll (ag (ab ?_))
 have hp:gz l.length<64:=by unfold gz;omega
 have hb8:=ym (UInt64.ofNat l.length*8)
 refine af (fj (fun m:Value=>[(2,.pointer (some ⟨g2,0,none⟩)),(3,m)]) (fun m w'=>cG w1.heap.size (eu l) m w'∧aI w1 w') ?_ ?_)
 ·refine af (aa (ac Ll Ll (ag (ab (ax ?_)))))
  refine bZ (α:=Nat×Value) (fun x=>[(2,.pointer (some ⟨g2,0,none⟩)),(3,x.2),(4,bj (UInt64.ofNat l.length*8)),(5,I (7-(x.1:Int)))])
   (fun x w'=>cG w1.heap.size (l++[128]++List.replicate (gz l.length) 0++(zo (UInt64.ofNat l.length*8)).take x.1) x.2 w'∧aI w1 w'∧x.1≤8) (fun x=>8-x.1) (0,m7) ⟨rfl,rfl,rfl,rfl,trivial⟩
   ⟨by simpa using o7,x7,by simp⟩ ?_
  rintro⟨j,m⟩ w8 ⟨o8,x8,hj⟩
  dsimp only at o8 x8 hj
  refine af (af (aa (ae Ll Ll ?_)))
  refine ai Ll Ll Ll (iP) ?_
  refine ag (ab ?_)
  refine bi Ll (fun h=>?_) (fun h=>?_)
  ·have hj8:j<8:=by omega
   refine ar (ab (af (ax (aa (ae Ll Ll (ae Ll Ll (ae Ll Ll ?_)))))))
   have e8:(8:Int)*(7-(j:Int))=((56-8*j:Nat):Int):=by omega
   refine ai (r:=I ((56-8*j:Nat):Int)) Ll Ll Ll (by rw[←e8];exact fh (by omega) (by omega)) ?_
   refine ai Ll Ll Ll (dz (56-8*j) (by omega)) ?_
   refine aR Ll Ll (ko KN KS) ?_
   obtain⟨r9,w9,hr,x9,o9,_⟩:=fE (w:=w8) w8.heap.size [((UInt64.ofNat l.length*8)>>>UInt64.ofNat (56-8*j)).toUInt8] (by simp) (Nat.le_refl _)
   refine aO (vs:=[(0,U8 ((UInt64.ofNat l.length*8)>>>UInt64.ofNat (56-8*j)).toUInt8)]) Ll Ll hr ?_
   obtain⟨r10,w10,hr,o10,g10⟩:=dn (ty:=28) (o8.ext x9) o9.bts (by simp only[List.length_append,List.length_cons,List.length_nil,List.length_replicate,List.length_take];omega) (x8.trans x9).size
   refine bc Ll Ll hr ?_
   refine ac Ll Ll (ag (aJ (ab (aa (ae Ll Ll ?_)))))
   refine ai Ll Ll Ll (bg (by omega) (by omega)) ?_
   refine ac Ll Ll (ag ?_)
   have e1:(7:Int)-(j:Int)-1=7-((j+1:Nat):Int):=by omega
   rw[e1]
   refine bQ (j+1,r10) ⟨rfl,rfl,rfl,rfl,trivial⟩ ⟨?_,(x8.trans x9).of_grew g10 o8.ge,hj8⟩ (by show 8-(j+1)<8-j;omega)
   show cG _ (l++[128]++List.replicate (gz l.length) 0++(zo (UInt64.ofNat l.length*8)).take (j+1)) r10 w10
   rw[G7 _ hj8,←List.append_assoc]
   exact o10
  ·have hj':j=8:=by omega
   subst hj'
   rw[List.take_of_length_le (by omega)] at o8
   exact aY (aB (aB (aX (cz m ⟨rfl,rfl,trivial⟩ ⟨o8,x8⟩))))
 clear o7 x7
 rintro m8 w8 ⟨o8,x8⟩
 have hM:=Be l
 have hMl:(eu l).length≤1099511627776+80:=by
  simp only[eu,List.length_append,List.length_cons,List.length_nil,List.length_replicate];omega
 generalize hMM:eu l=M at o8 hM hMl
 refine ab (af (aa ?_))
 refine bm Ll Ll (run_build _ _ _ (iv.map bA).toArray (by kernel_rfl)) ?_
 obtain⟨g6',w9,hr,n9,x9,b9⟩:=be (P:=Tryz.prog) (w:=w8) (l:=(List.replicate 8 0).map bA) Da rfl
 refine bf Ll hr ?_
 refine aq Ll Ll (it b9 Ll mZ (jA _)) ?_
 have b9':=b9.row (iv.map bA)
 have q9:=bp w9 g6' (iv.map bA).toArray
 have l26:g2<g6':=Nat.lt_of_lt_of_le b2.lt (Nat.le_trans x8.size n9)
 have hw6:w1.heap.size≤g6':=Nat.le_trans x8.size n9
 have E9:aI w1 (w9.setRow g6' (iv.map bA).toArray):=(x8.trans x9).of_new q9 hw6
 have ne2:some g2≠some g6':=fun h=>by cases h;omega
 have hm9:cG w1.heap.size M m8 (w9.setRow g6' (iv.map bA).toArray):=by
  obtain⟨n,h⟩:=o8.ext x9
  exact⟨n,World.ownsRow.kept h q9 (.inr fun he=>by have:=o8.lt g6' he;omega)⟩
 have C9:=((b2.ext x8).ext x9).other q9 ne2
 revert b9' E9 hm9 C9
 generalize w9.setRow g6' (iv.map bA).toArray=w10
 intro b10 E10 o10 C10
 refine ag (ab ?_)
 have l28:∀k,m8.ownBlock=some k→k<w8.heap.size:=o8.lt
 refine af (fj (fun _:Unit=>[(2,.pointer (some ⟨g2,0,none⟩)),(6,.pointer (some ⟨g6',0,none⟩))]) (fun _ w'=>w10.grownBy w' (some g6')∧cd g6' 112 ((vH M (M.length/64)).map bA) w') ?_ ?_)
 ·refine af (aa (ac Ll Ll (ag (ab (ax ?_)))))
  refine bZ (α:=Nat) (fun k=>[(2,.pointer (some ⟨g2,0,none⟩)),(3,m8),(6,.pointer (some ⟨g6',0,none⟩)),(7,I ((64*k:Nat):Int))])
   (fun k w'=>w10.grownBy w' (some g6')∧cd g6' 112 ((vH M k).map bA) w'∧k≤M.length/64) (fun k=>M.length/64-k) 0 ⟨rfl,rfl,rfl,rfl,trivial⟩
   ⟨dq (aI.refl _),b10,by omega⟩ ?_
  rintro k w11 ⟨q11,b11,hk⟩
  have o11:cG w1.heap.size M m8 w11:=by
   obtain⟨n,h⟩:=o10
   exact⟨n,World.ownsRow.kept h q11 (.inr fun he=>by have:=l28 g6' he;omega)⟩
  have hs8:=nD M k
  refine af (af (aa (ae Ll Ll (ae Ll Ll ?_))))
  refine aQ Ll Ll (bC o11.bts) ?_
  refine ai Ll Ll Ll (aW) ?_
  refine ag (ab ?_)
  refine bi Ll (fun h=>?_) (fun h=>?_)
  ·have hlt:64*k+64≤M.length:=by omega
   have e64:((64*k:Nat):Int)+64=((64*k+64:Nat):Int):=by omega
   have hbl:((M.take (64*k+64)).drop (64*k)).length=64:=by simp;omega
   obtain⟨r12,hr12,bt12⟩:=ri o11.bts (lo:=64*k) (hi:=64*k+64) (by omega) hlt .i64 .i64
   have hszk:(Tryz.prog.info? 112).map (·.size)=some ((vH M k).map bA).length:=by rw[List.length_map,hs8];exact mZ
   have hszk':(Tryz.prog.info? 112).map (·.size)=some ((vH M (k+1)).map bA).length:=by rw[List.length_map,nD];exact mZ
   refine ar (ab (af (ax ?_)))
   refine bz 7 [2,3,6,7,52] (by kernel_rfl) (by kernel_rfl) ?_
   refine aE Ll Ll (fun w' hw=>mi (m:=(vH M k).map bA) (b11.ext hw) (fun j v h=>by rwa [Nat.zero_add]) Lc Ll hszk) ?_
   refine ap Ll Ll (ap Ll Ll (ap Ll Ll ?_))
   refine aS (r:=I ((64*k+64:Nat):Int)) Ll Ll Ll (fun w _=>by rw[←e64];exact aK (by omega) (by omega)) ?_
   refine ia (a:=some (I ((64*k:Nat):Int))) (b:=some (I ((64*k+64:Nat):Int))) Ll Ll Ll Ll (fun w _=>hr12 w) ?_
   refine ce (S:=Is (.agg ((vH M (k+1)).map bA).toArray)) Ab (bt.is _) Ll (fun w' hw=>by
    rintro _ rfl _ rfl
    exact bE.mono (Ac hs8 hbl (bt12.ext hw)) fun v w'' h=>⟨h.1,by rw[G8];exact h.2⟩) ?_
   refine bF ?_
   intro w12 hx12
   rintro _ rfl _ rfl _ rfl _ rfl _ rfl
   refine aq Ll Ll (it (b11.ext hx12) (by simp[nD]) hszk' (jA _)) ?_
   have b12:=(b11.ext hx12).row ((vH M (k+1)).map bA)
   have q12:=(q11.trans (dq hx12)).trans (bp w12 g6' ((vH M (k+1)).map bA).toArray)
   refine ag (aJ (ab (aa (ae Ll Ll ?_))))
   refine ai Ll Ll Ll (aK (by omega) (by omega)) ?_
   refine ac Ll Ll (ag ?_)
   exact bQ (k+1) ⟨rfl,rfl,rfl,rfl,trivial⟩ ⟨q12,b12,by omega⟩ (by omega)
  ·have hk':k=M.length/64:=by omega
   subst hk'
   exact aY (aB (aB (aX (cz () ⟨rfl,rfl,trivial⟩ ⟨q11,b11⟩))))
 rintro _ w11 ⟨q11,b11⟩
 have C2:=C10.other q11 ne2
 have E11:aI w1 w11:=E10.of_new q11 hw6
 have hs8:=nD M (M.length/64)
 generalize hst:vH M (M.length/64)=st at b11 hs8
 have hD:(st.flatMap uM).length=32:=by rw[Ad,hs8]
 refine ab (af (aa ?_))
 obtain⟨g8,w12,hr,n12,x12,b12⟩:=be (P:=Tryz.prog) (w:=w11) (l:=(fx (st.flatMap uM) 32 0).map U8) m0 rfl
 refine bf Ll hr (ag (ab ?_))
 have l68:g6'<g8:=Nat.lt_of_lt_of_le b11.lt n12
 have ne68:some g6'≠some g8:=fun h=>by cases h;omega
 have ne28:some g2≠some g8:=fun h=>by cases h;omega
 have c11:=b11.ext x12
 have D2:=C2.ext x12
 refine af (fj (fun _:Unit=>[(2,.pointer (some ⟨g2,0,none⟩)),(8,.pointer (some ⟨g8,0,none⟩))]) (fun _ w'=>w12.grownBy w' (some g8)∧cd g8 22 ((st.flatMap uM).map U8) w') ?_ ?_)
 ·refine af (aa (ac Ll Ll (ag (ab (ax ?_)))))
  refine bZ (α:=Nat) (fun i=>[(2,.pointer (some ⟨g2,0,none⟩)),(6,.pointer (some ⟨g6',0,none⟩)),(8,.pointer (some ⟨g8,0,none⟩)),(9,I (i:Int))])
   (fun i w'=>w12.grownBy w' (some g8)∧cd g8 22 ((fx (st.flatMap uM) 32 (4*i)).map U8) w'∧i≤8) (fun i=>8-i) 0 ⟨rfl,rfl,rfl,rfl,trivial⟩
   ⟨dq (aI.refl _),b12,by omega⟩ ?_
  rintro i w13 ⟨q13,b13,hi⟩
  refine af (af (aa (ae Ll Ll ?_)))
  refine ai Ll Ll Ll (aW) ?_
  refine ag (ab ?_)
  refine bi Ll (fun h=>?_) (fun h=>?_)
  ·have hi8:i<8:=by omega
   refine ar (ab (af (ax (af (aa (ac Ll Ll (ag (ab (ax ?_)))))))))
   refine bZ (α:=Nat) (fun k=>[(2,.pointer (some ⟨g2,0,none⟩)),(6,.pointer (some ⟨g6',0,none⟩)),(8,.pointer (some ⟨g8,0,none⟩)),(9,I (i:Int)),(10,I (k:Int))])
    (fun k w'=>w12.grownBy w' (some g8)∧cd g8 22 ((fx (st.flatMap uM) 32 (4*i+k)).map U8) w'∧k≤4) (fun k=>4-k) 0 ⟨rfl,rfl,rfl,rfl,rfl,trivial⟩
    ⟨q13,b13,by omega⟩ ?_
   rintro k w14 ⟨q14,b14,hk⟩
   refine af (af (aa (ae Ll Ll ?_)))
   refine ai Ll Ll Ll (aW) ?_
   refine ag (ab ?_)
   refine bi Ll (fun h=>?_) (fun h=>?_)
   ·have hk4:k<4:=by omega
    have c14:=c11.other q14 ne68
    have hfl:=jw (j:=4*i+k) hD (by omega)
    have e4:(4:Int)*(i:Int)=((4*i:Nat):Int):=by omega
    have e5:((4*i:Nat):Int)+(k:Int)=((4*i+k:Nat):Int):=by omega
    have e6:(24:Int)-8*(k:Int)=((24-8*k:Nat):Int):=by omega
    refine ar (ab (af (ax (aa (ae Ll Ll ?_)))))
    refine ai (r:=I ((4*i:Nat):Int)) Ll Ll Ll (by rw[←e4];exact fh (by omega) (by omega)) ?_
    refine ae Ll Ll ?_
    refine ai (r:=I ((4*i+k:Nat):Int)) Ll Ll Ll (by rw[←e5];exact aK (by omega) (by omega)) ?_
    refine ae Ll Ll ?_
    refine aA Ll Ll Ll (dP i (by omega)) ?_
    refine am Ll Ll (de c14 i (by omega)) ?_
    refine ae Ll Ll ?_
    refine ai Ll Ll Ll (fh (by omega) (by omega)) ?_
    refine ai (r:=I ((24-8*k:Nat):Int)) Ll Ll Ll (by rw[←e6];exact bg (by omega) (by omega)) ?_
    refine ai Ll Ll Ll (dh (24-8*k) (by omega)) ?_
    refine aR Ll Ll (fo KL KS) ?_
    refine aA Ll Ll Ll (qV (4*i+k) (by omega)) ?_
    refine aq Ll Ll (wm b14 (4*i+k) (by omega)) ?_
    have b15:=b14.setB (4*i+k) (st.getD i 0>>>UInt32.ofNat (24-8*k)).toUInt8
    have hset:(fx (st.flatMap uM) 32 (4*i+k)).set (4*i+k) (st.getD i 0>>>UInt32.ofNat (24-8*k)).toUInt8=fx (st.flatMap uM) 32 (4*i+(k+1)):=by
     rw[←kP st i k (by omega) hk4]
     exact jx hD (by omega)
    rw[hset] at b15
    refine ag (aJ (ab (aa (ae Ll Ll ?_))))
    refine ai Ll Ll Ll (aK (by omega) (by omega)) ?_
    refine ac Ll Ll (ag ?_)
    exact bQ (k+1) ⟨rfl,rfl,rfl,rfl,rfl,trivial⟩ ⟨q14.trans (ba w14 g8 _ _),b15,by omega⟩ (by omega)
   ·have hk':k=4:=by omega
    subst hk'
    refine aY (aB (aB (aX (aJ (ab (aa (ae Ll Ll ?_)))))))
    refine ai Ll Ll Ll (aK (by omega) (by omega)) ?_
    refine ac Ll Ll (ag ?_)
    exact bQ (i+1) ⟨rfl,rfl,rfl,rfl,trivial⟩ ⟨q14,b14,by omega⟩ (by omega)
  ·have hi':i=8:=by omega
   subst hi'
   rw[show 4*8=32 from rfl,qW hD] at b13
   exact aY (aB (aB (aX (cz () ⟨rfl,rfl,trivial⟩ ⟨q13,b13⟩))))
 rintro _ w13 ⟨q13,b13⟩
 have hdig:st.flatMap uM=je l:=by
  unfold je sh
  rw[hMM,hst]
 rw[hdig] at b13
 have hsz:(Tryz.prog.info? 22).map (·.size)=some ((je l).map U8).length:=by rw[List.length_map,dF];exact j5
 have F2:=D2.other q13 ne28
 refine ab (af (aa ?_))
 refine am Ll Ll (mi (m:=(je l).map U8) b13 (fun j v h=>by rwa [Nat.zero_add]) La Ll hsz) ?_
 refine aq Ll Ll (it F2 (by simp[dF]) hsz (pV _)) ?_
 refine ag (ab (av ?_))
 refine dR Ll Ll (F2.row _) La Ll hsz ?_
 have E13:aI w w13:=(x1.trans (E11.trans x12)).of_new q13 (by have:=x1.size;omega)
 exact⟨_,rfl,E13.of_new (bp _ _ _) n2,rfl⟩
end Go.Rl
namespace Go.Rl
open Go.RowKit Go.Proofs
def da (st:List UInt32) (blk:List UInt8) (u:Int) (tot:UInt64):List Value:=st.map bA++(blk.map U8++[I u,bj tot])
structure HC (g:Nat) (st:List UInt32) (blk:List UInt8) (u:Int) (tot:UInt64) (w:World):Prop where
 hb:cd g 202 (da st blk u tot) w
 ls:st.length=8
 lb:blk.length=64
section
variable {w w':World} {g:Nat} {st:List UInt32} {blk:List UInt8} {u:Int} {tot:UInt64}
theorem gG (hs:st.length=8) (hb:blk.length=64):(da st blk u tot).length=74:=by simp[da,hs,hb]
theorem HC.ext (h:HC g st blk u tot w) (hx:aI w w'):HC g st blk u tot w':=⟨h.hb.ext hx,h.ls,h.lb⟩
theorem HC.other {row:Option Nat} (h:HC g st blk u tot w) (hg:w.grownBy w' row) (hne:some g≠row):HC g st blk u tot w':=⟨h.hb.other hg hne,h.ls,h.lb⟩
theorem HC.lt (h:HC g st blk u tot w):g<w.heap.size:=h.hb.lt
theorem HC.cellS (h:HC g st blk u tot w) {i:Nat} (hi:i<8):w.cell? ⟨g,i,none⟩=some (bA (st.getD i 0)):=
 h.hb.cell (by simp[da,List.getElem?_append,h.ls,hi])
theorem HC.cellU (h:HC g st blk u tot w):w.cell? ⟨g,72,none⟩=some (I u):=
 h.hb.cell (by unfold da;rw[List.getElem?_append_right (by simp[h.ls]),List.length_map,h.ls,List.getElem?_append_right (by simp[h.lb]),List.length_map,h.lb];rfl)
theorem HC.cellT (h:HC g st blk u tot w):w.cell? ⟨g,73,none⟩=some (bj tot):=
 h.hb.cell (by unfold da;rw[List.getElem?_append_right (by simp[h.ls]),List.length_map,h.ls,List.getElem?_append_right (by simp[h.lb]),List.length_map,h.lb];rfl)
theorem HC.setS (h:HC g st blk u tot w) (i:Nat) (hi:i<8) (x:UInt32):HC g (st.set i x) blk u tot (w.setCell ⟨g,i,none⟩ (bA x)):=by
 refine⟨?_,by simp[h.ls],h.lb⟩
 have:=h.hb.set i (bA x)
 unfold da at this
 rw[List.set_append_left _ _ (by simpa [h.ls] using hi),←List.map_set] at this
 exact this
theorem HC.setU (h:HC g st blk u tot w) (x:Int):HC g st blk x tot (w.setCell ⟨g,72,none⟩ (I x)):=by
 refine⟨?_,h.ls,h.lb⟩
 have:=h.hb.set 72 (I x)
 unfold da at this
 rw[List.set_append_right _ _ (by simp[h.ls]),List.length_map,h.ls,List.set_append_right _ _ (by simp[h.lb]),List.length_map,h.lb] at this
 exact this
theorem HC.setT (h:HC g st blk u tot w) (x:UInt64):HC g st blk u x (w.setCell ⟨g,73,none⟩ (bj x)):=by
 refine⟨?_,h.ls,h.lb⟩
 have:=h.hb.set 73 (bj x)
 unfold da at this
 rw[List.set_append_right _ _ (by simp[h.ls]),List.length_map,h.ls,List.set_append_right _ _ (by simp[h.lb]),List.length_map,h.lb] at this
 exact this
theorem Ae:(Tryz.prog.info? 41).map (·.size)=some 1:=by kernel_rfl
theorem G9:(Tryz.prog.info? 200).map (·.size)=some 64:=by kernel_rfl
theorem wr:(Tryz.prog.info? 202).map (·.size)=some 74:=by kernel_rfl
theorem EM:(Tryz.prog.info? 202).map (·.zero)=some (some (.agg (da (List.replicate 8 0) (List.replicate 64 0) 0 0).toArray)):=by kernel_rfl
theorem Ie:(Instr.fieldAt 202 (.pointer (some ⟨g,0,none⟩)) 0).run Tryz.prog w=.ok (.pointer (some ⟨g,0,none⟩)) w:=by
 have h:=cB (P:=Tryz.prog) (w:=w) (n:=0) (a:=⟨g,0,none⟩) Lh rfl mZ (Nat.succ_ne_zero 7)
 exact h
theorem Kx:(Instr.fieldAt 202 (.pointer (some ⟨g,0,none⟩)) 1).run Tryz.prog w=.ok (.pointer (some ⟨g,8,none⟩)) w:=by
 have h:=cB (P:=Tryz.prog) (w:=w) (n:=1) (a:=⟨g,0,none⟩) Lh rfl G9 (Nat.succ_ne_zero 63)
 exact h
theorem EN:(Instr.fieldAt 202 (.pointer (some ⟨g,0,none⟩)) 2).run Tryz.prog w=.ok (.pointer (some ⟨g,72,none⟩)) w:=by
 have h:=cB (P:=Tryz.prog) (w:=w) (n:=2) (a:=⟨g,0,none⟩) Lh rfl dD (Nat.succ_ne_zero 0)
 exact h
theorem JG:(Instr.fieldAt 202 (.pointer (some ⟨g,0,none⟩)) 3).run Tryz.prog w=.ok (.pointer (some ⟨g,73,none⟩)) w:=by
 have h:=cB (P:=Tryz.prog) (w:=w) (n:=3) (a:=⟨g,0,none⟩) Lh rfl Ae (Nat.succ_ne_zero 0)
 exact h
theorem HC.bts (h:HC g st blk u tot w) {lo:Nat} (hlo:lo<64):cm (blk.drop lo) (.slice (some ⟨g,8+lo,none⟩) (64-lo) (64-lo)) w:=by
 refine⟨_,_,_,rfl,Nat.le_refl _,by unfold maxLen;omega,by simp[h.lb],fun _=>⟨_,rfl,fun j v hj=>?_⟩,fun h=>by cases h⟩
 rw[Addr.add_mid]
 refine h.hb.cell ?_
 unfold da
 rw[List.getElem?_append_right (by simp[h.ls];omega),List.length_map,h.ls,show 8+lo+j-8=lo+j by omega]
 have hjl:lo+j<(blk.map U8).length:=by
  have:=(List.getElem?_eq_some_iff.1 hj).1
  simp only[List.length_map,List.length_drop] at this⊢
  omega
 rw[List.getElem?_append_left hjl]
 rw[List.map_drop,List.getElem?_drop] at hj
 exact hj
theorem IY {lo:Nat} (hlo:lo<64):(Instr.sliceAt 200 (.pointer (some ⟨g,8,none⟩)) (some (I (lo:Int))) none none).run Tryz.prog w=.ok (.slice (some ⟨g,8+lo,none⟩) (64-lo) (64-lo)) w:=
 FB Tryz.underlying200 fO hlo .i64
theorem HC.ldS (h:HC g st blk u tot w):(Instr.loadAt 112 (.pointer (some ⟨g,0,none⟩))).run Tryz.prog w=.ok (.agg (st.map bA).toArray) w:=
 mi (m:=st.map bA) h.hb (fun j v hj=>by
  rw[Nat.zero_add]
  unfold da
  rw[List.getElem?_append_left (List.getElem?_eq_some_iff.1 hj).1]
  exact hj) Lc rfl (by rw[List.length_map,h.ls];exact mZ)
end
theorem EO (b:List UInt8) (i j:Nat):(b.drop i).getD j 0=b.getD (i+j) 0:=by simp[List.getD]
end Go.Rl
namespace Go.Rl
open Go.RowKit Go.Proofs
theorem yn:ay Tryz.prog 128:=⟨_,Tryz.func128,by kernel_rfl,rfl⟩
theorem EP (b:List UInt8) (k:Nat):pB b k=((((b.drop (4*k)).getD 0 0).toUInt32<<<UInt32.ofNat 24|||((b.drop (4*k)).getD 1 0).toUInt32<<<UInt32.ofNat 16)|||((b.drop (4*k)).getD 2 0).toUInt32<<<UInt32.ofNat 8)|||((b.drop (4*k)).getD 3 0).toUInt32:=by
 simp only[EO,pB,Nat.add_zero]
theorem uw {m:List UInt32} {i:Nat} (h:i<m.length):(m.map bA)[i]? =some (bA (m.getD i 0)):=by simp[h]
theorem yo {w:World} {g:Nat} {s:List UInt32} {b:List UInt8} {u:Int} {tot:UInt64} (hc:HC g s b u tot w):
 Calls Tryz.prog 128 #[.pointer (some ⟨g,0,none⟩)] w (bE fun _ w'=>w.grownBy w' (some g)∧HC g (uU s b) b 0 tot w'):=by
 have hs:=hc.ls
 have hbl:=hc.lb
 refine enter (vs:=[.pointer (some ⟨g,0,none⟩)]) Tryz.func128 Ll Ll Ll ?_
 obtain⟨g2,w1,hr,n2,x1,b2⟩:=be (P:=Tryz.prog) (w:=w) (l:=(dt []).map bA) uo rfl
 refine af (aa (bf Ll hr (ag (ab ?_))))
 have lg:=hc.lt
 have hc1:=hc.ext x1
 have neg:some g≠some g2:=fun h=>by cases h;omega
 refine af (fj (fun _:Unit=>[(0,.pointer (some ⟨g,0,none⟩)),(2,.pointer (some ⟨g2,0,none⟩))]) (fun _ w'=>w1.grownBy w' (some g2)∧cd g2 183 ((dt (bG b 0)).map bA) w') ?_ ?_)
 ·refine af (aa (ae Ll Ll (ag (ab (ax ?_)))))
  refine bZ (α:=Nat) (fun k=>[(0,.pointer (some ⟨g,0,none⟩)),(2,.pointer (some ⟨g2,0,none⟩)),(17,I (k:Int))])
   (fun k w'=>w1.grownBy w' (some g2)∧cd g2 183 ((dt (iY b k)).map bA) w'∧k≤16) (fun k=>16-k) 0 ⟨rfl,rfl,rfl,trivial⟩
   ⟨dq (aI.refl _),b2,by omega⟩ ?_
  rintro k w7 ⟨q7,b7,hk⟩
  refine af (aa ?_)
  refine ai Ll Ll Ll (aW) ?_
  refine ag (ab (af ?_))
  refine bi Ll (fun h=>?_) (fun h=>?_)
  ·have hk16:k<16:=by omega
   have e0:(4:Int)*(k:Int)=((4*k:Nat):Int):=by omega
   refine ar (ab (af (ax (af (aa (ae Ll Ll (ac Ll Ll (ag (ab (af (aa (ae Ll Ll ?_))))))))))))
   refine aH Ll Ll ?_
   refine ah Ll Ll Kx ?_
   refine ae Ll Ll ?_
   refine ai (r:=I ((4*k:Nat):Int)) Ll Ll Ll (by rw[←e0];exact fh (by omega) (by omega)) ?_
   refine cw (a:=some (I ((4*k:Nat):Int))) Ll Ll Ll Ll Ll (IY (by omega)) ?_
   refine ac Ll Ll (ag (ab ?_))
   have hbt:=(hc1.other q7 neg).bts (lo:=4*k) (by omega)
   obtain⟨ad,had⟩:=hbt.reads
   rw[List.length_drop,hbl] at had
   refine bz 24 [0,2,17,48,49] (by kernel_rfl) (by kernel_rfl) ?_
   refine ap Ll Ll (ap Ll Ll ?_)
   refine az Ll Ll Ll (fun w _=>(had 0 (by omega)).1 w) ?_
   refine aE Ll Ll (fun w' hw=>(had 0 (by omega)).2 w' hw) ?_
   refine dm Ll Ll (fun w _=>dZ KS KL) ?_
   refine aS Ll Ll Ll (fun w _=>eK 24 (by omega)) ?_
   refine ap Ll Ll ?_
   refine az Ll Ll Ll (fun w _=>(had 1 (by omega)).1 w) ?_
   refine aE Ll Ll (fun w' hw=>(had 1 (by omega)).2 w' hw) ?_
   refine dm Ll Ll (fun w _=>dZ KS KL) ?_
   refine aS Ll Ll Ll (fun w _=>eK 16 (by omega)) ?_
   refine aS Ll Ll Ll (fun w _=>fm) ?_
   refine ap Ll Ll ?_
   refine az Ll Ll Ll (fun w _=>(had 2 (by omega)).1 w) ?_
   refine aE Ll Ll (fun w' hw=>(had 2 (by omega)).2 w' hw) ?_
   refine dm Ll Ll (fun w _=>dZ KS KL) ?_
   refine aS Ll Ll Ll (fun w _=>eK 8 (by omega)) ?_
   refine aS Ll Ll Ll (fun w _=>fm) ?_
   refine ap Ll Ll ?_
   refine az Ll Ll Ll (fun w _=>(had 3 (by omega)).1 w) ?_
   refine aE Ll Ll (fun w' hw=>(had 3 (by omega)).2 w' hw) ?_
   refine dm Ll Ll (fun w _=>dZ KS KL) ?_
   refine aS Ll Ll Ll (fun w _=>fm) ?_
   refine az Ll Ll Ll (fun w _=>gF k (by omega)) ?_
   refine bF ?_
   intro w8 hx8
   rintro _ rfl _ rfl _ rfl _ rfl _ rfl
   have hlen:(dt (iY b k)).length=64:=lO (by rw[jv];omega)
   rw[←EP]
   refine aq Ll Ll (Aa (x:=pB b k) (b7.ext hx8) k (by omega)) ?_
   have b8:=(b7.ext hx8).setU k (pB b k)
   have q8:=(q7.trans (dq hx8)).trans (ba w8 g2 k (bA (pB b k)))
   have hset:(dt (iY b k)).set k (pB b k)=dt (iY b (k+1)):=by
    have:=lP (l:=iY b k) (pB b k) (by rw[jv];omega)
    rw[jv] at this
    rw[this,uu]
   rw[hset] at b8
   refine ag (aJ (ab (aa ?_)))
   refine ai Ll Ll Ll (aK (by omega) (by omega)) ?_
   refine ae Ll Ll (ag ?_)
   exact bQ (k+1) ⟨rfl,rfl,rfl,trivial⟩ ⟨q8,b8,by omega⟩ (by omega)
  ·have hk':k=16:=by omega
   subst hk'
   exact aY (aB (aB (aX (cz () ⟨rfl,rfl,trivial⟩ ⟨q7,b7⟩))))
 rintro _ w7 ⟨q7,b7⟩
 refine ab ?_
 refine af (fj (fun _:Unit=>[(0,.pointer (some ⟨g,0,none⟩)),(2,.pointer (some ⟨g2,0,none⟩))]) (fun _ w'=>w1.grownBy w' (some g2)∧cd g2 183 ((bG b 48).map bA) w') ?_ ?_)
 ·refine af (aa (ac Ll Ll (ag (ab (ax ?_)))))
  refine bZ (α:=Nat) (fun k=>[(0,.pointer (some ⟨g,0,none⟩)),(2,.pointer (some ⟨g2,0,none⟩)),(5,I ((16+k:Nat):Int))])
   (fun k w'=>w1.grownBy w' (some g2)∧cd g2 183 ((dt (bG b k)).map bA) w'∧k≤48) (fun k=>48-k) 0 ⟨rfl,rfl,rfl,trivial⟩
   ⟨q7,b7,by omega⟩ ?_
  clear q7 b7
  rintro k w7 ⟨q7,b7,hk⟩
  have hL:=kz b k
  refine af (af (aa (ae Ll Ll ?_)))
  refine ai Ll Ll Ll (aW) ?_
  refine ag (ab ?_)
  refine bi Ll (fun h=>?_) (fun h=>?_)
  ·have hk48:k<48:=by omega
   refine ar (ab (af (ax (af ?_))))
   have e15:((16+k:Nat):Int)-15=(((bG b k).length-15:Nat):Int):=by omega
   have f15:=fY (l:=bG b k) (i:=(bG b k).length-15) (by omega)
   have e2:((16+k:Nat):Int)-2=(((bG b k).length-2:Nat):Int):=by omega
   have f2:=fY (l:=bG b k) (i:=(bG b k).length-2) (by omega)
   have e16:((16+k:Nat):Int)-16=(((bG b k).length-16:Nat):Int):=by omega
   have f16:=fY (l:=bG b k) (i:=(bG b k).length-16) (by omega)
   have e7:((16+k:Nat):Int)-7=(((bG b k).length-7:Nat):Int):=by omega
   have f7:=fY (l:=bG b k) (i:=(bG b k).length-7) (by omega)
   have hlen:(dt (bG b k)).length=64:=lO (by omega)
   refine bz 9 [0,2,5,6,62] (by kernel_rfl) (by kernel_rfl) ?_
   refine ap Ll Ll ?_
   refine aS (r:=I (((bG b k).length-15:Nat):Int)) Ll Ll Ll (fun w _=>by rw[←e15];exact bg (by omega) (by omega)) ?_
   refine az Ll Ll Ll (fun w _=>gF _ (by omega)) ?_
   refine aE (r:=bA ((bG b k).getD ((bG b k).length-15) 0)) Ll Ll (fun w' hw=>by rw[←f15];exact de (b7.ext hw) _ (by omega)) ?_
   refine ap Ll Ll ?_
   refine aS (r:=I (((bG b k).length-2:Nat):Int)) Ll Ll Ll (fun w _=>by rw[←e2];exact bg (by omega) (by omega)) ?_
   refine az Ll Ll Ll (fun w _=>gF _ (by omega)) ?_
   refine aE (r:=bA ((bG b k).getD ((bG b k).length-2) 0)) Ll Ll (fun w' hw=>by rw[←f2];exact de (b7.ext hw) _ (by omega)) ?_
   refine eo Ll Ll (bF ?_)
   intro w8 hx8
   rintro _ rfl _ rfl _ rfl _ rfl _ rfl
   refine ac Ll Ll (ag (ab ?_))
   have b12:=b7.ext hx8
   refine bz 29 [0,2,5,90,91] (by kernel_rfl) (by kernel_rfl) ?_
   refine ap Ll Ll (ap Ll Ll ?_)
   refine aS (r:=I (((bG b k).length-16:Nat):Int)) Ll Ll Ll (fun w _=>by rw[←e16];exact bg (by omega) (by omega)) ?_
   refine az Ll Ll Ll (fun w _=>gF _ (by omega)) ?_
   refine aE (r:=bA ((bG b k).getD ((bG b k).length-16) 0)) Ll Ll (fun w' hw=>by rw[←f16];exact de (b12.ext hw) _ (by omega)) ?_
   refine ap Ll Ll ?_
   refine ce (S:=Is (bA (iq _ 7))) fb (bt.is _) Ll (fun w' _=>by
    rintro _ rfl _ rfl
    exact bE.mono (fc 7 (by omega) (by omega)) fun v w'' h=>⟨h.1,h.2⟩) ?_
   refine ap Ll Ll ?_
   refine ce (S:=Is (bA (iq _ 18))) fb (bt.is _) Ll (fun w' _=>by
    rintro _ rfl _ rfl
    exact bE.mono (fc 18 (by omega) (by omega)) fun v w'' h=>⟨h.1,h.2⟩) ?_
   refine aS Ll Ll Ll (fun w _=>cH) ?_
   refine ap Ll Ll ?_
   refine aS Ll Ll Ll (fun w _=>dh 3 (by omega)) ?_
   refine aS Ll Ll Ll (fun w _=>cH) ?_
   refine aS Ll Ll Ll (fun w _=>cl) ?_
   refine ap Ll Ll ?_
   refine aS (r:=I (((bG b k).length-7:Nat):Int)) Ll Ll Ll (fun w _=>by rw[←e7];exact bg (by omega) (by omega)) ?_
   refine az Ll Ll Ll (fun w _=>gF _ (by omega)) ?_
   refine aE (r:=bA ((bG b k).getD ((bG b k).length-7) 0)) Ll Ll (fun w' hw=>by rw[←f7];exact de (b12.ext hw) _ (by omega)) ?_
   refine aS Ll Ll Ll (fun w _=>cl) ?_
   refine ap Ll Ll ?_
   refine ce (S:=Is (bA (iq _ 17))) fb (bt.is _) Ll (fun w' _=>by
    rintro _ rfl _ rfl
    exact bE.mono (fc 17 (by omega) (by omega)) fun v w'' h=>⟨h.1,h.2⟩) ?_
   refine ap Ll Ll ?_
   refine ce (S:=Is (bA (iq _ 19))) fb (bt.is _) Ll (fun w' _=>by
    rintro _ rfl _ rfl
    exact bE.mono (fc 19 (by omega) (by omega)) fun v w'' h=>⟨h.1,h.2⟩) ?_
   refine aS Ll Ll Ll (fun w _=>cH) ?_
   refine ap Ll Ll ?_
   refine aS Ll Ll Ll (fun w _=>dh 10 (by omega)) ?_
   refine aS Ll Ll Ll (fun w _=>cH) ?_
   refine aS Ll Ll Ll (fun w _=>cl) ?_
   refine az Ll Ll Ll (fun w _=>gF (16+k) (by omega)) ?_
   refine bF ?_
   intro w13 hx13
   rintro _ rfl _ rfl _ rfl _ rfl _ rfl
   refine aq Ll Ll (Aa (x:=mO (bG b k)) (b12.ext hx13) (16+k) (by omega)) ?_
   have b13:=(b12.ext hx13).setU (16+k) (mO (bG b k))
   have q13:=((q7.trans (dq hx8)).trans (dq hx13)).trans (ba w13 g2 (16+k) (bA (mO (bG b k))))
   have hset:(dt (bG b k)).set (16+k) (mO (bG b k))=dt (bG b (k+1)):=by
    have:=lP (l:=bG b k) (mO (bG b k)) (by omega)
    rw[hL] at this
    exact this
   rw[hset] at b13
   refine ag (aJ (ab (aa (ae Ll Ll ?_))))
   refine ai Ll Ll Ll (aK (by omega) (by omega)) ?_
   refine ac Ll Ll (ag ?_)
   exact bQ (k+1) ⟨rfl,rfl,rfl,trivial⟩ ⟨q13,b13,by omega⟩ (by omega)
  ·have hk':k=48:=by omega
   subst hk'
   have hf:dt (bG b 48)=bG b 48:=by
    unfold dt
    rw[hL]
    exact List.append_nil _
   rw[hf] at b7
   exact aY (aB (aB (aX (cz () ⟨rfl,rfl,trivial⟩ ⟨q7,b7⟩))))
 clear q7 b7
 rintro _ w7 ⟨q7,b7⟩
 have hc7:=hc1.other q7 neg
 refine ab (af (aa (ae Ll Ll ?_)))
 refine aH Ll Ll ?_
 refine ah Ll Ll Ie ?_
 refine am Ll Ll hc7.ldS ?_
 have hlen8:(Tryz.prog.info? 112).map (·.size)=some (s.map bA).length:=by rw[List.length_map,hs];exact mZ
 obtain⟨g8,w8,hr,n8,x8,b8⟩:=be (P:=Tryz.prog) (w:=w7) (l:=(List.replicate 8 0).map bA) Da rfl
 refine bf Ll hr ?_
 refine aq Ll Ll (it b8 (by simp[hs]) hlen8 (jA _)) ?_
 have b8':=b8.row (s.map bA)
 have q8:=bp w8 g8 (s.map bA).toArray
 have l28:g2<g8:=Nat.lt_of_lt_of_le b7.lt n8
 have lg7:=hc7.lt
 have ne28:some g2≠some g8:=fun h=>by cases h;omega
 have neg8:some g≠some g8:=fun h=>by cases h;omega
 have D2:=(b7.ext x8).other q8 ne28
 have hc8:=(hc7.ext x8).other q8 neg8
 have Q8:w.grownBy (w8.setRow g8 (s.map bA).toArray) (some g):=by
  have h1:aI w w7:=x1.of_new q7 n2
  exact dq ((h1.trans x8).of_new q8 (by have:=h1.size;omega))
 revert b8' D2 hc8 Q8
 generalize w8.setRow g8 (s.map bA).toArray=w9
 intro b9 D2 hc9 Q9
 refine ag (ab ?_)
 refine af (fj (fun _:Unit=>[(0,.pointer (some ⟨g,0,none⟩)),(8,.pointer (some ⟨g8,0,none⟩))]) (fun _ w'=>w9.grownBy w' (some g8)∧cd g8 112 ((dU b s 64).map bA) w') ?_ ?_)
 ·refine af (aa ?_)
  refine an (vs:=[]) ur Ll Ll (ut w9) ?_
  rintro _ w10 ⟨x10,rfl⟩
  refine ae Ll Ll (ag (ab (ax ?_)))
  refine bZ (α:=Nat) (fun i=>[(0,.pointer (some ⟨g,0,none⟩)),(2,.pointer (some ⟨g2,0,none⟩)),(8,.pointer (some ⟨g8,0,none⟩)),(96,.agg (kc.map bA).toArray),(97,I (i:Int))])
   (fun i w'=>w9.grownBy w' (some g8)∧cd g8 112 ((dU b s i).map bA) w'∧i≤64) (fun i=>64-i) 0 ⟨rfl,rfl,rfl,rfl,rfl,trivial⟩
   ⟨dq x10,b9.ext x10,by omega⟩ ?_
  clear x10 w10
  rintro i w10 ⟨q10,b10,hi⟩
  have hv8:=gy b s hs i
  refine af (aa ?_)
  refine ai Ll Ll Ll (aW) ?_
  refine ag (ab (af ?_))
  refine bi Ll (fun h=>?_) (fun h=>?_)
  ·have hi64:i<64:=by omega
   have hkc:kc.length=64:=rfl
   have hsl:(bG b 48).length=64:=kz b 48
   refine ar (ab (af (ax (af (aa (ae Ll Ll ?_))))))
   refine kV Ll Ll Ll (FA (l:=kc.map bA) Lk d6 KL hi64 .i64 (uw (by omega))) ?_
   refine ac Ll Ll (ac Ll Ll (ag (ab (af ?_))))
   have V:=b10
   have K6:=D2.other q10 ne28
   refine bz 5 [0,2,8,9,10,11,96,97,104] (by kernel_rfl) (by kernel_rfl) ?_
   refine az Ll Ll Ll (fun w _=>dP 0 (by omega)) ?_
   refine aE Ll Ll (fun w' hw=>de (V.ext hw) 0 (by omega)) ?_
   refine az Ll Ll Ll (fun w _=>dP 4 (by omega)) ?_
   refine aE Ll Ll (fun w' hw=>de (V.ext hw) 4 (by omega)) ?_
   refine eo Ll Ll (bF ?_)
   intro w11 hx11
   rintro _ rfl _ rfl _ rfl _ rfl _ rfl _ rfl _ rfl _ rfl _ rfl
   refine ac Ll Ll (ag (ab (af ?_)))
   replace V:=V.ext hx11
   replace K6:=K6.ext hx11
   refine bz 28 [0,2,8,11,96,97,132] (by kernel_rfl) (by kernel_rfl) ?_
   refine az Ll Ll Ll (fun w _=>dP 7 (by omega)) ?_
   refine aE Ll Ll (fun w' hw=>de (V.ext hw) 7 (by omega)) ?_
   refine ap Ll Ll ?_
   refine ce (S:=Is (bA (iq _ 6))) fb (bt.is _) Ll (fun w' _=>by
    rintro _ rfl _ rfl
    exact bE.mono (fc 6 (by omega) (by omega)) fun v w'' h=>⟨h.1,h.2⟩) ?_
   refine ap Ll Ll ?_
   refine ce (S:=Is (bA (iq _ 11))) fb (bt.is _) Ll (fun w' _=>by
    rintro _ rfl _ rfl
    exact bE.mono (fc 11 (by omega) (by omega)) fun v w'' h=>⟨h.1,h.2⟩) ?_
   refine aS Ll Ll Ll (fun w _=>cH) ?_
   refine ap Ll Ll ?_
   refine ce (S:=Is (bA (iq _ 25))) fb (bt.is _) Ll (fun w' _=>by
    rintro _ rfl _ rfl
    exact bE.mono (fc 25 (by omega) (by omega)) fun v w'' h=>⟨h.1,h.2⟩) ?_
   refine aS Ll Ll Ll (fun w _=>cH) ?_
   refine aS Ll Ll Ll (fun w _=>cl) ?_
   refine ap Ll Ll ?_
   refine az Ll Ll Ll (fun w _=>dP 5 (by omega)) ?_
   refine aE Ll Ll (fun w' hw=>de (V.ext hw) 5 (by omega)) ?_
   refine aS Ll Ll Ll (fun w _=>fk) ?_
   refine ap Ll Ll ?_
   refine yE Ll Ll (fun w _=>rg) ?_
   refine az Ll Ll Ll (fun w _=>dP 6 (by omega)) ?_
   refine aE Ll Ll (fun w' hw=>de (V.ext hw) 6 (by omega)) ?_
   refine aS Ll Ll Ll (fun w _=>fk) ?_
   refine aS Ll Ll Ll (fun w _=>cH) ?_
   refine aS Ll Ll Ll (fun w _=>cl) ?_
   refine ap Ll Ll ?_
   refine aS Ll Ll Ll (fun w _=>cl) ?_
   refine ap Ll Ll ?_
   refine az Ll Ll Ll (fun w _=>gF i (by omega)) ?_
   refine aE Ll Ll (fun w' hw=>de (K6.ext hw) i (by omega)) ?_
   refine aS Ll Ll Ll (fun w _=>cl) ?_
   refine bF ?_
   intro w12 hx12
   rintro _ rfl _ rfl _ rfl _ rfl _ rfl _ rfl _ rfl
   refine ac Ll Ll (ag (ab (af ?_)))
   replace V:=V.ext hx12
   refine bz 24 [0,2,8,13,96,97,156] (by kernel_rfl) (by kernel_rfl) ?_
   refine ap Ll Ll ?_
   refine ce (S:=Is (bA (iq _ 2))) fb (bt.is _) Ll (fun w' _=>by
    rintro _ rfl _ rfl
    exact bE.mono (fc 2 (by omega) (by omega)) fun v w'' h=>⟨h.1,h.2⟩) ?_
   refine ap Ll Ll ?_
   refine ce (S:=Is (bA (iq _ 13))) fb (bt.is _) Ll (fun w' _=>by
    rintro _ rfl _ rfl
    exact bE.mono (fc 13 (by omega) (by omega)) fun v w'' h=>⟨h.1,h.2⟩) ?_
   refine aS Ll Ll Ll (fun w _=>cH) ?_
   refine ap Ll Ll ?_
   refine ce (S:=Is (bA (iq _ 22))) fb (bt.is _) Ll (fun w' _=>by
    rintro _ rfl _ rfl
    exact bE.mono (fc 22 (by omega) (by omega)) fun v w'' h=>⟨h.1,h.2⟩) ?_
   refine aS Ll Ll Ll (fun w _=>cH) ?_
   refine ap Ll Ll ?_
   refine az Ll Ll Ll (fun w _=>dP 1 (by omega)) ?_
   refine aE Ll Ll (fun w' hw=>de (V.ext hw) 1 (by omega)) ?_
   refine aS Ll Ll Ll (fun w _=>fk) ?_
   refine ap Ll Ll ?_
   refine az Ll Ll Ll (fun w _=>dP 2 (by omega)) ?_
   refine aE Ll Ll (fun w' hw=>de (V.ext hw) 2 (by omega)) ?_
   refine aS Ll Ll Ll (fun w _=>fk) ?_
   refine aS Ll Ll Ll (fun w _=>cH) ?_
   refine az Ll Ll Ll (fun w _=>dP 1 (by omega)) ?_
   refine aE Ll Ll (fun w' hw=>de (V.ext hw) 1 (by omega)) ?_
   refine az Ll Ll Ll (fun w _=>dP 2 (by omega)) ?_
   refine aE Ll Ll (fun w' hw=>de (V.ext hw) 2 (by omega)) ?_
   refine aS Ll Ll Ll (fun w _=>fk) ?_
   refine aS Ll Ll Ll (fun w _=>cH) ?_
   refine aS Ll Ll Ll (fun w _=>cl) ?_
   refine bF ?_
   intro w13 hx13
   rintro _ rfl _ rfl _ rfl _ rfl _ rfl _ rfl _ rfl
   refine ac Ll Ll (ag (ab (aa (ae Ll Ll (ae Ll Ll ?_)))))
   replace V:=V.ext hx13
   refine ai Ll Ll Ll (cl) ?_
   refine aA Ll Ll Ll (dP 0 (by omega)) ?_
   refine am Ll Ll (de V 0 (by omega)) ?_
   refine aA Ll Ll Ll (dP 1 (by omega)) ?_
   refine am Ll Ll (de V 1 (by omega)) ?_
   refine aA Ll Ll Ll (dP 2 (by omega)) ?_
   refine am Ll Ll (de V 2 (by omega)) ?_
   refine aA Ll Ll Ll (dP 3 (by omega)) ?_
   refine am Ll Ll (de V 3 (by omega)) ?_
   refine ae Ll Ll ?_
   refine ai Ll Ll Ll (cl) ?_
   refine aA Ll Ll Ll (dP 4 (by omega)) ?_
   refine am Ll Ll (de V 4 (by omega)) ?_
   refine aA Ll Ll Ll (dP 5 (by omega)) ?_
   refine am Ll Ll (de V 5 (by omega)) ?_
   refine aA Ll Ll Ll (dP 6 (by omega)) ?_
   refine am Ll Ll (de V 6 (by omega)) ?_
   refine bm Ll Ll (run_build _ _ _ ((dU b s (i+1)).map bA).toArray (by kernel_rfl)) ?_
   have hn8:=gy b s hs (i+1)
   refine aq Ll Ll (it V (by simp[hv8,hn8]) (by rw[List.length_map,hn8];exact mZ) (jA _)) ?_
   have V':=V.row ((dU b s (i+1)).map bA)
   have q14:=(q10.trans (dq ((hx11.trans hx12).trans hx13))).trans (bp w13 g8 ((dU b s (i+1)).map bA).toArray)
   refine ag (aJ (ab (aa ?_)))
   refine ai Ll Ll Ll (aK (by omega) (by omega)) ?_
   refine ae Ll Ll (ag ?_)
   exact bQ (i+1) ⟨rfl,rfl,rfl,rfl,rfl,trivial⟩ ⟨q14,V',by omega⟩ (by omega)
  ·have hi':i=64:=by omega
   subst hi'
   exact aY (aB (aB (aX (cz () ⟨rfl,rfl,trivial⟩ ⟨q10,b10⟩))))
 rintro _ w10 ⟨q10,b10⟩
 refine ab ?_
 have hv8:=gy b s hs 64
 have hc10:=hc9.other q10 neg8
 have ha0:i7 s (dU b s 64) 0=s:=by simp[i7]
 refine af (fj (fun _:Unit=>[(0,.pointer (some ⟨g,0,none⟩))]) (fun _ w'=>w10.grownBy w' (some g)∧HC g (i7 s (dU b s 64) 8) b u tot w') ?_ ?_)
 ·refine af (aa ?_)
  refine am Ll Ll (mi (m:=(dU b s 64).map bA) b10 (fun j v h=>by rwa [Nat.zero_add]) Lc Ll (by rw[List.length_map,hv8];exact mZ)) ?_
  refine ae Ll Ll (ag (ab (ax ?_)))
  refine bZ (α:=Nat) (fun i=>[(0,.pointer (some ⟨g,0,none⟩)),(178,.agg ((dU b s 64).map bA).toArray),(179,I (i:Int))])
   (fun i w'=>w10.grownBy w' (some g)∧HC g (i7 s (dU b s 64) i) b u tot w'∧i≤8) (fun i=>8-i) 0 ⟨rfl,rfl,rfl,trivial⟩
   ⟨dq (aI.refl _),by rw[ha0];exact hc10,by omega⟩ ?_
  rintro i w11 ⟨q11,c11,hi⟩
  refine af (aa ?_)
  refine ai Ll Ll Ll (aW) ?_
  refine ag (ab (af ?_))
  refine bi Ll (fun h=>?_) (fun h=>?_)
  ·have hi8:i<8:=by omega
   have hag:=wh hs hv8 hi8
   refine ar (ab (af (ax (af (aa (ae Ll Ll ?_))))))
   refine kV Ll Ll Ll (FA (l:=(dU b s 64).map bA) Lc d6 KL hi8 .i64 (uw (by omega))) ?_
   refine ac Ll Ll (ac Ll Ll (ag (ab ?_)))
   refine bz 11 [0,178,179,190,193] (by kernel_rfl) (by kernel_rfl) ?_
   refine ap Ll Ll (ap Ll Ll ?_)
   refine cc Ll Ll ?_
   refine aN Ll Ll (fun w _=>Ie) ?_
   refine az Ll Ll Ll (fun w _=>dP i (by omega)) ?_
   refine aE (r:=bA (s.getD i 0)) Ll Ll (fun w' hw=>by rw[←hag];exact aj KL Ll ((c11.ext hw).cellS hi8)) ?_
   refine ap Ll Ll ?_
   refine aS Ll Ll Ll (fun w _=>cl) ?_
   refine cc Ll Ll ?_
   refine aN Ll Ll (fun w _=>Ie) ?_
   refine az Ll Ll Ll (fun w _=>dP i (by omega)) ?_
   refine bF ?_
   intro w12 hx12
   rintro _ rfl _ rfl _ rfl _ rfl _ rfl
   have hcl:=gG (u:=u) (tot:=tot) c11.ls c11.lb
   refine aq Ll Ll (dv d6 Ll (c11.ext hx12).hb (by rw[List.size_toArray,hcl];omega)) ?_
   have c12:=(c11.ext hx12).setS i hi8 (s.getD i 0+(dU b s 64).getD i 0)
   rw[wi hs hv8 hi8] at c12
   have q12:=(q11.trans (dq hx12)).trans (ba w12 g i (bA (s.getD i 0+(dU b s 64).getD i 0)))
   refine ag (aJ (ab (aa ?_)))
   refine ai Ll Ll Ll (aK (by omega) (by omega)) ?_
   refine ae Ll Ll (ag ?_)
   exact bQ (i+1) ⟨rfl,rfl,rfl,trivial⟩ ⟨q12,c12,by omega⟩ (by omega)
  ·have hi':i=8:=by omega
   subst hi'
   exact aY (aB (aB (aX (cz () ⟨rfl,trivial⟩ ⟨q11,c11⟩))))
 rintro _ w11 ⟨q11,c11⟩
 rw[wj hs hv8] at c11
 have hcl:=gG (u:=u) (tot:=tot) c11.ls c11.lb
 refine ab (aa (ae Ll Ll ?_))
 refine aH Ll Ll ?_
 refine ah Ll Ll EN ?_
 refine aq Ll Ll (dv (i:=72) dD Ll c11.hb (by rw[List.size_toArray,hcl];omega)) ?_
 have c12:=c11.setU 0
 refine ag ?_
 refine gq Ll ?_
 refine⟨_,rfl,?_,c12⟩
 have Q10:w.grownBy w10 (some g):=by
  have h:w.grownBy w9 (some g):=Q9
  refine⟨q10.os.trans h.os,q10.tape.trans h.tape,q10.output.trans h.output,Nat.le_trans h.size q10.size,fun k hk hne=>?_⟩
  exact(q10.block k (Nat.lt_of_lt_of_le hk h.size) (fun he=>by cases he;omega)).trans (h.block k hk hne)
 exact(Q10.trans q11).trans (ba w11 g 72 (I 0))
end Go.Rl
namespace Go.Rl
open Go.RowKit Go.Proofs
def HA (g:Nat) (m:List UInt8) (tot:UInt64) (w:World):Prop:=∃blk,HC g (sh m) blk ((m.length%64:Nat):Int) tot w∧blk.take (m.length%64)=m.drop (64*(m.length/64))
theorem HA.ext {g:Nat} {m:List UInt8} {tot:UInt64} {w w':World} (h:HA g m tot w) (hx:aI w w'):HA g m tot w':=by
 obtain⟨blk,h1,h2⟩:=h
 exact⟨blk,h1.ext hx,h2⟩
theorem HA.other {g:Nat} {m:List UInt8} {tot:UInt64} {w w':World} {row:Option Nat} (h:HA g m tot w) (hg:w.grownBy w' row) (hne:some g≠row):HA g m tot w':=by
 obtain⟨blk,h1,h2⟩:=h
 exact⟨blk,h1.other hg hne,h2⟩
theorem HA.lt {g:Nat} {m:List UInt8} {tot:UInt64} {w:World} (h:HA g m tot w):g<w.heap.size:=by
 obtain⟨blk,h1,h2⟩:=h
 exact h1.lt
theorem If (m y:List UInt8) (h:m.length%64+y.length<64):sh (m++y)=sh m:=by
 have hm:m=m.take (64*(m.length/64))++m.drop (64*(m.length/64)):=(List.take_append_drop _ _).symm
 have hl:(m.take (64*(m.length/64))).length=64*(m.length/64):=by simp;omega
 have hd:(m.drop (64*(m.length/64))).length=m.length%64:=by simp;omega
 rw[hm,List.append_assoc,xC _ _ (by omega) (by rw[List.length_append,hd];exact h),xC _ _ (by omega) (by omega)]
theorem Ig (m y:List UInt8) (h:m.length%64+y.length=64):sh (m++y)=uU (sh m) (m.drop (64*(m.length/64))++y):=by
 have hm:m=m.take (64*(m.length/64))++m.drop (64*(m.length/64)):=(List.take_append_drop _ _).symm
 have hl:(m.take (64*(m.length/64))).length=64*(m.length/64):=by simp;omega
 have hd:(m.drop (64*(m.length/64))).length=m.length%64:=by simp;omega
 have e1:sh (m++y)=sh (m.take (64*(m.length/64))++(m.drop (64*(m.length/64))++y)):=by
  rw[←List.append_assoc,List.take_append_drop]
 have e2:sh m=sh (m.take (64*(m.length/64))):=by
  conv=>lhs;rw[hm]
  exact xC _ _ (by omega) (by omega)
 rw[e1,e2,Gh _ _ (by omega) (by rw[List.length_append,hd];exact h)]
def BP (g:Nat) (v:Value):Prop:=∀a n c,v=.slice (some a) n c→a.block≠g
theorem cm.away {l:List UInt8} {v:Value} {g:Nat} {w w':World} (h:cm l v w) (ha:0<l.length→BP g v) (hg:w.grownBy w' (some g)):cm l v w':=by
 obtain⟨A,n,c,rfl,h1,h2,h3,h4,h5⟩:=h
 refine⟨A,n,c,rfl,h1,h2,h3,fun hn=>?_,h5⟩
 obtain⟨ad,rfl,hc⟩:=h4 hn
 have hlen:0<l.length:=by
  have:l.length=n:=by simpa using h3
  omega
 refine⟨ad,rfl,fun j u hu=>?_⟩
 have hb:(ad.add j).block=ad.block:=by unfold Addr.add;split<;>rfl
 exact hg.cell (hc j u hu) (by rw[hb];intro he;exact ha hlen ad n c rfl (Option.some.inj he))
theorem BQ {l:List UInt8} {v:Value} {g:Nat} {w:World} (h:cm l v w) {lo:Nat} (hlo:lo≤l.length) (ha:BP g v):
 ∃r,(∀w':World,(Instr.sliceAt 28 v (some (I (lo:Int))) none none).run Tryz.prog w'=.ok r w')∧cm (l.drop lo) r w∧BP g r:=by
 obtain⟨r,hr,hb⟩:=fp h hlo .i64
 refine⟨r,hr,hb,?_⟩
 obtain⟨A,n,c,rfl,h1,h2,h3,h4,h5⟩:=h
 have hln:lo≤n:=by
  have:l.length=n:=by simpa using h3
  omega
 have hbd:(Instr.sliceBounds true n c (some (.int .i64 (lo:Int))) none none).run Tryz.prog w=.ok (lo,n,c) w:=by
  have a2:=run_sliceBound (P:=Tryz.prog) (w:=w) .i64 (lo:Int) n .sliceB (by omega) (by omega)
  simp only[Int.toNat_natCast] at a2
  simp[Instr.sliceBounds,a2]
 have hrun:(Instr.sliceAt 28 (.slice A n c) (some (.int .i64 (lo:Int))) none none).run Tryz.prog w=.ok (.slice (if c=lo then A else A.map (·.add (lo*1))) (n-lo) (c-lo)) w:=by
  simp[Instr.sliceAt,Instr.slice,run_underlying Tryz.underlying28,hbd,dJ fO]
 have e:=(hr w).symm.trans hrun
 simp only[Result.ok.injEq,and_true] at e
 subst e
 intro a n' c' he
 simp only[Value.slice.injEq] at he
 obtain⟨he,_,_⟩:=he
 split at he
 ·exact ha a n c (by rw[he])
 ·obtain⟨a0,h0,rfl⟩:=Option.map_eq_some_iff.1 he
  have:(a0.add (lo*1)).block=a0.block:=by unfold Addr.add;split<;>rfl
  rw[this]
  exact ha a0 n c (by rw[h0])
theorem Ih {g:Nat} {st:List UInt32} {blk x:List UInt8} {u:Int} {tot:UInt64} {w:World} {v:Value} {ty:TypeId} {o:Nat} (h:HC g st blk u tot w) (ho:o<64) (hx:cm x v w) (hne:0<x.length):
 ∃w',(Builtin.copy_ #[28,28] ty #[.slice (some ⟨g,8+o,none⟩) (64-o) (64-o),v]).run Tryz.prog w=.ok (I ((min x.length (64-o):Nat):Int)) w'∧w.grownBy w' (some g)∧
  HC g st (blk.take o++x.take (64-o)++blk.drop (o+min x.length (64-o))) u tot w':=by
 obtain⟨A,n,c,rfl,h1,h2,h3,h4,h5⟩:=hx
 have hxn:x.length=n:=by simpa using h3
 obtain⟨ad,rfl,hc⟩:=h4 (by omega)
 have hcs:((x.take (64-o)).map U8).length=min n (64-o):=by simp[hxn,Nat.min_comm]
 have hr:=run_copy_row (P:=Tryz.prog) w 28 28 ty 5 g (8+o) (64-o) (64-o) ad n c _ 202 ((x.take (64-o)).map U8) KQ fO h.hb hcs
  (fun j u hj=>hc j u (by
    rw[List.map_take,List.getElem?_take] at hj
    split at hj
    ·exact hj
    ·cases hj)) (by rw[hcs,List.size_toArray,gG h.ls h.lb];omega) (pV _)
 rw[hcs] at hr
 refine⟨_,by rw[hxn];exact hr,bp _ _ _,?_,h.ls,?_⟩
 ·have:=h.hb.row (da st (blk.take o++x.take (64-o)++blk.drop (o+min n (64-o))) u tot)
  rw[hxn]
  have e:((da st blk u tot).toArray.toList.take (8+o)++(x.take (64-o)).map U8++(da st blk u tot).toArray.toList.drop (8+o+min n (64-o)))=da st (blk.take o++x.take (64-o)++blk.drop (o+min n (64-o))) u tot:=by
   have l8:(st.map bA).length=8:=by simp[h.ls]
   have l64:(blk.map U8).length=64:=by simp[h.lb]
   unfold da
   rw[List.take_append,l8,List.drop_append,l8,show 8+o-8=o by omega,show 8+o+min n (64-o)-8=o+min n (64-o) by omega]
   rw[List.take_of_length_le (by omega),List.drop_eq_nil_of_le (by omega),List.nil_append]
   rw[List.take_append,l64,show o-64=0 by omega,List.take_zero,List.append_nil,List.drop_append,l64,show o+min n (64-o)-64=0 by omega,List.drop_zero]
   simp only[List.map_append,List.map_take,List.map_drop,List.append_assoc]
  rw[e]
  exact this
 ·simp only[List.length_append,List.length_take,List.length_drop,h.lb];omega
end Go.Rl
namespace Go.Rl
open Go.RowKit Go.Proofs
theorem lQ:ay Tryz.prog 74:=⟨_,Tryz.func74,by kernel_rfl,rfl⟩
theorem EQ:ay Tryz.prog 73:=⟨_,Tryz.func73,by kernel_rfl,rfl⟩
theorem lR {w:World} {g:Nat} {m x:List UInt8} {tot:UInt64} {v:Value} (hh:HA g m tot w) (hx:cm x v w) (ha:0<x.length→BP g v):
 Calls Tryz.prog 74 #[.pointer (some ⟨g,0,none⟩),v] w (bE fun _ w'=>w.grownBy w' (some g)∧HA g (m++x) (tot+UInt64.ofNat x.length) w'):=by
 refine enter (vs:=[.pointer (some ⟨g,0,none⟩),v]) Tryz.func74 Ll Ll Ll ?_
 refine af (af (aa (ae Ll Ll ?_)))
 refine ai Ll Ll Ll (mA Tryz.underlying129) ?_
 refine ag (ab ?_)
 refine cp Ll ?_
 refine ar (ab (af (aa (ae Ll Ll ?_))))
 obtain⟨blk0,hc0,ht0⟩:=hh
 refine aH Ll Ll ?_
 refine ah Ll Ll JG ?_
 refine am Ll Ll (aj KN Ll hc0.cellT) ?_
 refine ae Ll Ll ?_
 refine aQ Ll Ll (bC hx) ?_
 refine aR Ll Ll (cN KO KN) ?_
 refine ai Ll Ll Ll (dw) ?_
 refine aH Ll Ll ?_
 refine ah Ll Ll JG ?_
 have hcl0:=gG (u:=((m.length%64:Nat):Int)) (tot:=tot) hc0.ls hc0.lb
 refine aq Ll Ll (dv (i:=73) Ae Ll hc0.hb (by rw[List.size_toArray,hcl0];omega)) ?_
 have hc1:=hc0.setT (tot+UInt64.ofNat x.length)
 have q1:=ba w g 73 (bj (tot+UInt64.ofNat x.length))
 have hx1:=hx.away ha q1
 revert hc1 q1 hx1
 generalize w.setCell ⟨g,73,none⟩ (bj (tot+UInt64.ofNat x.length))=w1
 intro hc1 q1 hx1
 refine ag (ab (ax ?_))
 refine bZ (α:=Nat×Value) (fun p=>[(0,.pointer (some ⟨g,0,none⟩)),(1,p.2)])
  (fun p w'=>HA g (m++x.take p.1) (tot+UInt64.ofNat x.length) w'∧cm (x.drop p.1) p.2 w'∧(0<(x.drop p.1).length→BP g p.2)∧w.grownBy w' (some g)∧p.1≤x.length) (fun p=>x.length-p.1) (0,v) ⟨rfl,rfl,trivial⟩
  ⟨by simpa using⟨blk0,hc1,ht0⟩,by simpa using hx1,by simpa using ha,q1,by simp⟩ ?_
 rintro⟨k,b⟩ w2 ⟨⟨blk,hc2,ht2⟩,hb2,ha2,q2,hk⟩
 dsimp only at hc2 ht2 hb2 ha2 q2 hk
 have hm':∃m',m'=m++x.take k:=⟨_,rfl⟩
 obtain⟨m',hm'⟩:=hm'
 rw[←hm'] at hc2 ht2
 refine af (af (aa (ae Ll Ll ?_)))
 refine aQ Ll Ll (bC hb2) ?_
 refine ai Ll Ll Ll (ck) ?_
 refine ag (ab ?_)
 refine bi Ll (fun h=>?_) (fun h=>?_)
 ·have hlt:0<(x.drop k).length:=by omega
  have hu:m'.length%64<64:=Nat.mod_lt _ (by omega)
  refine ar (ab (ax (af ?_)))
  refine bz 9 [0,1,27,28] (by kernel_rfl) (by kernel_rfl) ?_
  refine ap Ll Ll ?_
  refine cc Ll Ll ?_
  refine aN Ll Ll (fun w _=>Kx) ?_
  refine ap Ll Ll ?_
  refine cc Ll Ll ?_
  refine aN Ll Ll (fun w _=>EN) ?_
  refine aE Ll Ll (fun w' hw=>aj KO Ll (hc2.ext hw).cellU) ?_
  refine ia (a:=some (I ((m'.length%64:Nat):Int))) (b:=none) Ll Ll Ll Ll (fun w _=>IY hu) ?_
  refine ap Ll Ll (bF ?_)
  intro w3 hx3
  rintro _ rfl _ rfl _ rfl _ rfl
  have hc3:=hc2.ext hx3
  obtain⟨w4,hr,q4,hc4⟩:=Ih (ty:=3) hc3 hu (hb2.ext hx3) hlt
  obtain⟨n,hn⟩:∃n,n=min (x.drop k).length (64-m'.length%64):=⟨_,rfl⟩
  rw[←hn] at hr hc4
  have hxk:(x.drop k).length=x.length-k:=List.length_drop
  have hn1:n≤x.length-k:=by omega
  have hn2:m'.length%64+n≤64:=by omega
  have hn0:0<n:=by omega
  refine I6 Ll Ll hr ?_
  refine ac Ll Ll (ag (ab (af (aa (ae Ll Ll ?_)))))
  refine aH Ll Ll ?_
  refine ah Ll Ll EN ?_
  refine am Ll Ll (aj KO Ll hc4.cellU) ?_
  refine ae Ll Ll ?_
  have e1:((m'.length%64:Nat):Int)+(n:Int)=((m'.length%64+n:Nat):Int):=by omega
  refine ai (r:=I ((m'.length%64+n:Nat):Int)) Ll Ll Ll (by rw[←e1];exact aK (by omega) (by omega)) ?_
  refine aH Ll Ll ?_
  refine ah Ll Ll EN ?_
  have hcl4:=gG (u:=((m'.length%64:Nat):Int)) (tot:=tot+UInt64.ofNat x.length) hc4.ls hc4.lb
  refine aq Ll Ll (dv (i:=72) dD Ll hc4.hb (by rw[List.size_toArray,hcl4];omega)) ?_
  have hc5:=hc4.setU ((m'.length%64+n:Nat):Int)
  have q5:=q4.trans (ba w4 g 72 (I ((m'.length%64+n:Nat):Int)))
  revert hc5 q5
  generalize w4.setCell ⟨g,72,none⟩ (I ((m'.length%64+n:Nat):Int))=w5
  intro hc5 q5
  have hb5:=(hb2.ext hx3).away ha2 q5
  have q25:=(q2.trans (dq hx3)).trans q5
  refine ag (ab (af (aa (ae Ll Ll (ae Ll Ll ?_)))))
  obtain⟨b6,hr6,hb6,ha6⟩:=BQ hb5 (lo:=n) (by omega) (ha2 hlt)
  rw[List.drop_drop] at hb6
  refine cw (a:=some (I (n:Int))) (b:=none) Ll Ll Ll Ll Ll (hr6 _) ?_
  refine ac Ll Ll (ag (ab (af (aa (ae Ll Ll ?_)))))
  refine aH Ll Ll ?_
  refine ah Ll Ll EN ?_
  refine am Ll Ll (aj KO Ll hc5.cellU) ?_
  refine ai Ll Ll Ll (aZ) ?_
  refine ag (ab ?_)
  have hyl:((x.drop k).take (64-m'.length%64)).length=n:=by rw[List.length_take,hn,Nat.min_comm]
  have hyn:(x.drop k).take (64-m'.length%64)=(x.drop k).take n:=by
   rw[hn]
   rcases Nat.le_total (x.drop k).length (64-m'.length%64) with h1|h1
   ·rw[Nat.min_eq_left h1,List.take_of_length_le h1,List.take_length]
   ·rw[Nat.min_eq_right h1]
  have hmy:m++x.take (k+n)=m'++(x.drop k).take (64-m'.length%64):=by
   rw[hyn,hm',List.append_assoc,←List.take_add]
  obtain⟨y,hy⟩:∃y,y=(x.drop k).take (64-m'.length%64):=⟨_,rfl⟩
  rw[←hy] at hc5 hyl hmy
  have hmd:(m'.drop (64*(m'.length/64))).length=m'.length%64:=by rw[List.length_drop];omega
  have hml:(m'++y).length=m'.length+n:=by rw[List.length_append,hyl]
  refine bi Ll (fun h=>?_) (fun h=>?_)
  ·have hfull:m'.length%64+n=64:=by omega
   refine aa (ae Ll Ll ?_)
   refine an yn Ll Ll (yo hc5) ?_
   rintro _ w6 ⟨q6,hc6⟩
   refine ag (aJ ?_)
   refine bQ (k+n,b6) ⟨rfl,rfl,trivial⟩ ⟨?_,hb6.away (fun _=>ha6) q6,fun _=>ha6,q25.trans q6,by show k+n≤x.length;omega⟩ (by show x.length-(k+n)<x.length-k;omega)
   show HA g (m++x.take (k+n)) _ w6
   rw[hmy]
   have e0:(m'++y).length%64=0:=by rw[hml];omega
   have hd0:blk.drop (m'.length%64+n)=[]:=List.drop_eq_nil_of_le (by rw[hc2.lb];omega)
   rw[hd0,List.append_nil] at hc6
   have hdd:(m'++y).drop (64*((m'++y).length/64))=[]:=List.drop_eq_nil_of_le (by omega)
   refine⟨blk.take (m'.length%64)++y,?_,by rw[e0,hdd,List.take_zero]⟩
   rw[e0,Ig m' y (by omega),←ht2]
   exact hc6
  ·have hpart:m'.length%64+n<64:=by omega
   refine ar (aJ ?_)
   refine bQ (k+n,b6) ⟨rfl,rfl,trivial⟩ ⟨?_,hb6,fun _=>ha6,q25,by show k+n≤x.length;omega⟩ (by show x.length-(k+n)<x.length-k;omega)
   show HA g (m++x.take (k+n)) _ w5
   rw[hmy]
   have e0:(m'++y).length%64=m'.length%64+n:=by rw[hml];omega
   have e2:(m'++y).length/64=m'.length/64:=by rw[hml];omega
   refine⟨_,by rw[e0,If m' y (by omega)];exact hc5,?_⟩
   rw[e0,e2,List.drop_append_of_le_length (by omega),←ht2]
   rw[List.take_append_of_le_length (by rw[List.length_append,List.length_take,hc2.lb,hyl];omega)]
   exact List.take_of_length_le (by rw[List.length_append,List.length_take,hc2.lb,hyl];omega)
 ·have hk':k=x.length:=by
   have:(x.drop k).length=x.length-k:=List.length_drop
   omega
  refine aY (aB (aB (aX ?_)))
  refine gq Ll ?_
  refine⟨_,rfl,q2,?_⟩
  rw[hk',List.take_length] at hm'
  rw[hm'] at hc2 ht2
  exact⟨blk,hc2,ht2⟩
theorem ER (w:World):Calls Tryz.prog 73 #[] w (bE fun r w'=>aI w w'∧∃g,w.heap.size≤g∧r=.pointer (some ⟨g,0,none⟩)∧HA g [] 0 w'):=by
 refine enter (vs:=[]) Tryz.func73 Ll Ll Ll ?_
 refine af (aa (ac Ll Ll (ag (ab (af (aa ?_))))))
 refine bm Ll Ll (run_build _ _ _ (iv.map bA).toArray (by kernel_rfl)) ?_
 refine bm Ll Ll (run_build _ _ _ (da iv (List.replicate 64 0) 0 0).toArray (by kernel_rfl)) ?_
 obtain⟨g,w1,hr,n1,x1,b1⟩:=G6 (P:=Tryz.prog) (w:=w) (t:=202) (v:=.agg (da iv (List.replicate 64 0) 0 0).toArray) (l:=da iv (List.replicate 64 0) 0 0) rfl
 refine cL Ll Ll hr ?_
 refine ac Ll Ll (ag (ab (av ?_)))
 refine aG Ll Ll ?_
 exact⟨_,rfl,x1,g,n1,rfl,List.replicate 64 0,⟨b1,rfl,by simp⟩,rfl⟩
theorem HC.ldH {g:Nat} {st:List UInt32} {blk:List UInt8} {u:Int} {tot:UInt64} {w:World} (h:HC g st blk u tot w):(Instr.loadAt 202 (.pointer (some ⟨g,0,none⟩))).run Tryz.prog w=.ok (.agg (da st blk u tot).toArray) w:=
 mi (m:=da st blk u tot) h.hb (fun j v hj=>by rwa [Nat.zero_add]) Lh rfl (by rw[gG h.ls h.lb];exact wr)
theorem Ky {st:List UInt32} {blk:List UInt8} {u:Int} {tot:UInt64}:∀v∈da st blk u tot,v.oneCell'=true:=by
 intro v hv
 unfold da at hv
 rcases List.mem_append.1 hv with h|h
 ·exact jA _ v h
 ·rcases List.mem_append.1 h with h|h
  ·exact pV _ v h
  ·simp only[List.mem_cons,List.not_mem_nil,or_false] at h
   rcases h with rfl|rfl<;>rfl
end Go.Rl

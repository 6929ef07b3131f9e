/- Part 3 of a proof: plain facts and walks of functions, merged by a program. Conditions: each lemma names its own. -/
import Derived.Test.YtaajaakbcelmfaaGreatDoorCs2
namespace Go.Rl
open Go.RowKit Go.Proofs
theorem CM {l t:List UInt8} {b:Bool} {n m:List UInt32} (h:j6 l=some ((b,n,m),t)):l=tz b n m++t∧rv b n m=true∧4*(n.length+m.length)≤l.length:=by
 cases l with
 |nil=>cases h
 |cons c l=>
  by_cases hc:1<c.toNat
  ·rw[xz hc] at h;cases h
  ·cases hN:qB l with
   |none=>rw[Bc hN] at h;cases h
   |some p=>
    obtain⟨n',u⟩:=p
    rw[tF hc hN] at h
    cases hM:qB u with
    |none=>rw[hM] at h;cases h
    |some q=>
     obtain⟨m',u'⟩:=q
     rw[hM] at h
     have h:(if rv (decide (c.toNat=1)) n' m'=true then some ((decide (c.toNat=1),n',m'),u') else none)=some ((b,n,m),t):=h
     split at h
     ·rename_i hv
      simp only[Option.some.injEq,Prod.mk.injEq] at h
      obtain⟨⟨rfl,rfl,rfl⟩,rfl⟩:=h
      have hcs:c=IM (decide (c.toNat=1)):=by
       by_cases h1:c.toNat=1
       ·rw[decide_eq_true h1,tG.1 h1];rfl
       ·rw[decide_eq_false h1]
        exact UInt8.toNat_inj.1 (show c.toNat=(0:UInt8).toNat by rw[show(0:UInt8).toNat=0 from rfl];omega)
      have e:c::l=tz (decide (c.toNat=1)) n' m'++u':=by
       rw[tz,←hcs,(fA hN).1,(fA hM).1]
       simp
      refine⟨e,hv,?_⟩
      rw[e]
      simp only[tz,lu,List.length_append,fu]
      omega
     ·cases h
section
variable {w:World} {g:Nat} {st:Option (List UInt8)}
theorem IP (hr:bb g st w) (h:st.bind db=none):Calls Tryz.prog 111 #[.pointer (some ⟨g,0,none⟩)] w (bE fun r w'=>w.grownBy w' (some g)∧r=.tuple #[bj 0,I 5]∧bb g none w'):=by
 have:=nC hr
 rw[h] at this
 exact this
theorem IQ {n:Nat} {t:List UInt8} (hr:bb g st w) (h:st.bind db=some (n,t)):Calls Tryz.prog 111 #[.pointer (some ⟨g,0,none⟩)] w (bE fun r w'=>w.grownBy w' (some g)∧r=.tuple #[bj (UInt64.ofNat n),I 0]∧bb g (some t) w'):=by
 have:=nC hr
 rw[h] at this
 exact this
theorem Kh (hr:bb g st w) (h:st.bind db=none):Calls Tryz.prog 177 #[.pointer (some ⟨g,0,none⟩)] w (bE fun r w'=>w.grownBy w' (some g)∧r=.tuple #[I 0,I 5]∧bb g none w'):=by
 have:=vB hr
 rw[h] at this
 exact this
theorem Ki {n:Nat} {t:List UInt8} (hr:bb g st w) (h:st.bind db=some (n,t)):Calls Tryz.prog 177 #[.pointer (some ⟨g,0,none⟩)] w (bE fun r w'=>w.grownBy w' (some g)∧r=.tuple #[I (uz n),I 0]∧bb g (some t) w'):=by
 have:=vB hr
 rw[h] at this
 exact this
end
end Go.Rl
namespace Go.Rl
def iq (x:UInt32) (n:Nat):UInt32:=(x>>>UInt32.ofNat n)|||(x<<<UInt32.ofNat (32-n))
def kc:List UInt32:=[0x428a2f98,0x71374491,0xb5c0fbcf,0xe9b5dba5,0x3956c25b,0x59f111f1,0x923f82a4,0xab1c5ed5,0xd807aa98,0x12835b01,0x243185be,0x550c7dc3,0x72be5d74,0x80deb1fe,0x9bdc06a7,0xc19bf174,0xe49b69c1,0xefbe4786,0x0fc19dc6,0x240ca1cc,0x2de92c6f,0x4a7484aa,0x5cb0a9dc,0x76f988da,0x983e5152,0xa831c66d,0xb00327c8,0xbf597fc7,0xc6e00bf3,0xd5a79147,0x06ca6351,0x14292967,0x27b70a85,0x2e1b2138,0x4d2c6dfc,0x53380d13,0x650a7354,0x766a0abb,0x81c2c92e,0x92722c85,0xa2bfe8a1,0xa81a664b,0xc24b8b70,0xc76c51a3,0xd192e819,0xd6990624,0xf40e3585,0x106aa070,0x19a4c116,0x1e376c08,0x2748774c,0x34b0bcb5,0x391c0cb3,0x4ed8aa4a,0x5b9cca4f,0x682e6ff3,0x748f82ee,0x78a5636f,0x84c87814,0x8cc70208,0x90befffa,0xa4506ceb,0xbef9a3f7,0xc67178f2]
def iv:List UInt32:=[0x6a09e667,0xbb67ae85,0x3c6ef372,0xa54ff53a,0x510e527f,0x9b05688c,0x1f83d9ab,0x5be0cd19]
def pB (b:List UInt8) (t:Nat):UInt32:=((((b.getD (4*t) 0).toUInt32<<<UInt32.ofNat 24)|||((b.getD (4*t+1) 0).toUInt32<<<UInt32.ofNat 16))|||((b.getD (4*t+2) 0).toUInt32<<<UInt32.ofNat 8))|||(b.getD (4*t+3) 0).toUInt32
def mO (l:List UInt32):UInt32:=
 let t:=l.length
 let x:=l.getD (t-15) 0
 let y:=l.getD (t-2) 0
 l.getD (t-16) 0+(iq x 7^^^iq x 18^^^x>>>UInt32.ofNat 3)+l.getD (t-7) 0+(iq y 17^^^iq y 19^^^y>>>UInt32.ofNat 10)
def iY (b:List UInt8) (k:Nat):List UInt32:=(List.range k).map (pB b)
def bG (b:List UInt8):Nat→List UInt32
 |0=>iY b 16
 |k+1=>bG b k++[mO (bG b k)]
theorem kz (b:List UInt8):∀k,(bG b k).length=16+k
 |0=>by simp[bG,iY]
 |k+1=>by simp[bG,kz b k];omega
def t1 (s:List UInt32) (k w:UInt32):UInt32:=
 let e:=s.getD 4 0
 s.getD 7 0+(iq e 6^^^iq e 11^^^iq e 25)+(e&&&s.getD 5 0^^^ ~~~e&&&s.getD 6 0)+k+w
def t2 (s:List UInt32):UInt32:=
 let a:=s.getD 0 0
 (iq a 2^^^iq a 13^^^iq a 22)+(a&&&s.getD 1 0^^^a&&&s.getD 2 0^^^s.getD 1 0&&&s.getD 2 0)
def rnd (s:List UInt32) (k w:UInt32):List UInt32:=[t1 s k w+t2 s,s.getD 0 0,s.getD 1 0,s.getD 2 0,s.getD 3 0+t1 s k w,s.getD 4 0,s.getD 5 0,s.getD 6 0]
def dU (b:List UInt8) (s:List UInt32):Nat→List UInt32
 |0=>s
 |i+1=>rnd (dU b s i) (kc.getD i 0) ((bG b 48).getD i 0)
theorem gy (b:List UInt8) (s:List UInt32) (hs:s.length=8):∀i,(dU b s i).length=8
 |0=>hs
 |_+1=>rfl
def uU (s:List UInt32) (b:List UInt8):List UInt32:=List.zipWith (· + ·) s (dU b s 64)
theorem zn (s:List UInt32) (b:List UInt8) (hs:s.length=8):(uU s b).length=8:=by
 simp[uU,hs,gy b s hs]
def vH (m:List UInt8):Nat→List UInt32
 |0=>iv
 |k+1=>uU (vH m k) ((m.drop (64*k)).take 64)
theorem nD (m:List UInt8):∀k,(vH m k).length=8
 |0=>rfl
 |k+1=>zn _ _ (nD m k)
theorem oA (m x:List UInt8):∀k,64*k≤m.length→vH (m++x) k=vH m k
 |0,_=>rfl
 |k+1,h=>by
  have h0:64*k≤m.length:=by omega
  have h1:64≤(m.drop (64*k)).length:=by simp;omega
  rw[vH,vH,oA m x k h0,List.drop_append_of_le_length h0,List.take_append_of_le_length h1]
def sh (m:List UInt8):List UInt32:=vH m (m.length/64)
theorem Gg (m:List UInt8):(sh m).length=8:=nD m _
theorem xC (p t:List UInt8) (hp:p.length%64=0) (ht:t.length<64):sh (p++t)=sh p:=by
 have:(p++t).length/64=p.length/64:=by simp only[List.length_append];omega
 unfold sh
 rw[this,oA p t _ (by omega)]
theorem Gh (p b:List UInt8) (hp:p.length%64=0) (hb:b.length=64):sh (p++b)=uU (sh p) b:=by
 have h1:(p++b).length/64=p.length/64+1:=by simp only[List.length_append];omega
 unfold sh
 rw[h1,vH,oA p b _ (by omega)]
 have h2:64*(p.length/64)=p.length:=by omega
 rw[h2,List.drop_left,←hb,List.take_length]
def uM (x:UInt32):List UInt8:=[(x>>>UInt32.ofNat 24).toUInt8,(x>>>UInt32.ofNat 16).toUInt8,(x>>>UInt32.ofNat 8).toUInt8,x.toUInt8]
def zo (n:UInt64):List UInt8:=(List.range 8).map fun i=>(n>>>UInt64.ofNat (56-8*i)).toUInt8
def gz (n:Nat):Nat:=(119-n%64)%64
def eu (m:List UInt8):List UInt8:=m++[128]++List.replicate (gz m.length) 0++zo (UInt64.ofNat m.length*8)
theorem Be (m:List UInt8):(eu m).length%64=0:=by
 simp only[eu,gz,zo,List.length_append,List.length_cons,List.length_nil,List.length_replicate,List.length_map,List.length_range];omega
def je (m:List UInt8):List UInt8:=(sh (eu m)).flatMap uM
end Go.Rl
namespace Go.Rl
open Go.RowKit
abbrev fQ:=Bool×List UInt32×List UInt32
def sq (n:Int):Dt:=.int .i64 n
def gi (q:fQ):Dt:=.st [.bool q.1,jC q.2.1,jC q.2.2]
structure qI where
 kd:Int
 fr:Int
 ou:Int
 kh:Int
 kw:Int
 sr:Int
 pd:Int
 ws:List fQ
 bs:List fQ
structure Gi where
 inp:List Int
 lays:List qI
theorem qI.eq_iff {a b:qI}:a=b↔a.kd=b.kd∧a.fr=b.fr∧a.ou=b.ou∧a.kh=b.kh∧a.kw=b.kw∧a.sr=b.sr∧a.pd=b.pd∧a.ws=b.ws∧a.bs=b.bs:=by
 constructor
 ·rintro rfl;exact⟨rfl,rfl,rfl,rfl,rfl,rfl,rfl,rfl,rfl⟩
 ·rintro⟨h1,h2,h3,h4,h5,h6,h7,h8,h9⟩
  cases a;cases b;simp_all
theorem Gi.eq_iff {a b:Gi}:a=b↔a.inp=b.inp∧a.lays=b.lays:=by
 constructor
 ·rintro rfl;exact⟨rfl,rfl⟩
 ·rintro⟨h1,h2⟩
  cases a;cases b;simp_all
instance:DecidableEq qI:=fun _ _=>decidable_of_iff _ qI.eq_iff.symm
instance:DecidableEq Gi:=fun _ _=>decidable_of_iff _ Gi.eq_iff.symm
def IR (l:List Int):Dt:=.sl (l.map sq)
def nE (n:Int):Prop:= -9223372036854775808≤n∧n≤9223372036854775807
def gA (n:Int):List UInt8:=uv (II n)
def mR (q:fQ):List UInt8:=tz q.1 q.2.1 q.2.2
def mm (l:List UInt8):Option (Int×List UInt8):=(db l).map fun p=>(uz p.1,p.2)
def cr {α:Type} (f:List UInt8→Option (α×List UInt8)):Nat→List UInt8→Option (List α×List UInt8)
 |0,l=>some ([],l)
 |n+1,l=>(f l).bind fun p=>(cr f n p.2).map fun q=>(p.1::q.1,q.2)
def gC {α:Type} (f:List UInt8→Option (α×List UInt8)) (l:List UInt8):Option (List α×List UInt8):=(db l).bind fun p=>cr f p.1 p.2
def Kj:List UInt8→Option (List fQ×List UInt8):=gC j6
def rdL (l:List UInt8):Option (qI×List UInt8):=
 (mm l).bind fun a=>(mm a.2).bind fun b=>(mm b.2).bind fun c=>(mm c.2).bind fun d=>(mm d.2).bind fun e=>(mm e.2).bind fun f=>(mm f.2).bind fun g=>
   (Kj g.2).bind fun x=>(Kj x.2).bind fun y=>some (⟨a.1,b.1,c.1,d.1,e.1,f.1,g.1,x.1,y.1⟩,y.2)
def rdM (l:List UInt8):Option (Gi×List UInt8):=(gC mm l).bind fun a=>(gC rdL a.2).bind fun b=>some (⟨a.1,b.1⟩,b.2)
end Go.Rl
namespace Go.Rl
open Go.RowKit Go.Proofs
section
variable {α:Type} {f:α→Dt} {l:List α} {v:Value} {w w':World}
def df (f:α→Dt) (l:List α) (v:Value) (w:World):Prop:=Rp w (.sl (l.map f)) [v]
theorem df.ext (h:df f l v w) (hx:aI w w'):df f l v w':=Rp.ext hx h
theorem df.stable (f:α→Dt) (l:List α):bt (df f l):=fun _ _ _ h hx=>h.ext hx
theorem df.isS (h:df f l v w):∃A n c,v=.slice A n c:=by
 unfold df at h
 simp only[Rp] at h
 obtain⟨A,n,c,hv,_⟩:=h
 exact⟨A,n,c,by simpa using hv⟩
theorem df.one (h:df f l v w):v.oneCell'=true:=by obtain⟨A,n,c,rfl⟩:=h.isS;rfl
theorem bo.one {l:List UInt32} (h:bo l v w):v.oneCell'=true:=by obtain⟨A,n,c,rfl⟩:=h.isS;rfl
theorem df.nil (f:α→Dt) (w:World):df f [] (.slice none 0 0) w:=Rp.nilSl
theorem df.len (h:df f l v w):l.length≤9223372036854775807:=by
 have:=Rp.slLen h
 simpa using this
theorem bR {P:Program} {t e:TypeId} {ty:TypeId} (ht:P.underlying t=some (.slice e)) (h:df f l v w):(Builtin.len_ #[t] ty #[v]).run P w=.ok (I l.length) w:=by
 have:=I8 (ty:=ty) ht h
 simpa using this
theorem dN {P:Program} {t e:TypeId} {sz:Nat} (ht:P.underlying t=some (.slice e)) (hz:(P.info? e).map (·.size)=some sz) (hs:∀x,(f x).size=sz) (h0:0<sz) (h:df f l v w) {i:Nat} (hi:i<l.length) (k:IntKind):
 ∃ad cs,(∀w':World,(Instr.indexAt t v (.int k i)).run P w'=.ok (.pointer (some ad)) w')∧dG w ad cs∧Rp w (f l[i]) cs:=by
 obtain⟨ad,cs,h1,h2,h3⟩:=J1 ht hz h (by simp[hs]) h0 (i:=i) (by simpa using hi) k
 exact⟨ad,cs,h1,h2,by simpa using h3⟩
theorem dG.at {ad:Addr} {xs:List Value} (h:dG w ad xs) {j:Nat} {u:Value} (hj:xs[j]? =some u):w.cell? (ad.add j)=some u:=h j u hj
theorem rT {P:Program} {s:TypeId} {fs:Array Field} {fd:Field} {n o:Nat} {a:Addr} (hs:P.underlying s=some (.struct fs)) (hf:fs[n]? =some fd) (hk:(P.cellsOf fd.type==0)=false) (ho:fd.offset=o):
 (Instr.fieldAt s (.pointer (some a)) n).run P w=.ok (.pointer (some (a.add o))) w:=by
 have hk':P.cellsOf fd.type≠0:=by simpa using hk
 obtain⟨k,hk1⟩:∃k,(P.info? fd.type).map (·.size)=some k:=by
  cases hi:(P.info? fd.type).map (·.size) with
  |none=>exact absurd (by simp[Program.cellsOf,hi]) hk'
  |some k=>exact⟨k,rfl⟩
 have hk0:k≠0:=by
  intro h
  apply hk'
  simp[Program.cellsOf,hk1,h]
 rw[cB hs hf hk1 hk0,ho]
theorem dG.ld {P:Program} {t:TypeId} {d:TypeDesc} {ad:Addr} {cs:List Value} (h:dG w ad cs) (ht:P.underlying t=some d) (hd:d.isRow=true) (hz:(P.info? t).map (·.size)=some cs.length):(Instr.loadAt t (.pointer (some ad))).run P w=.ok (.agg cs.toArray) w:=J2 h ht hd hz
theorem cd.ld {P:Program} {t T:TypeId} {d:TypeDesc} {g:Nat} {cs:List Value} (h:cd g T cs w) (ht:P.underlying t=some d) (hd:d.isRow=true) (hz:(P.info? t).map (·.size)=some cs.length):(Instr.loadAt t (.pointer (some ⟨g,0,none⟩))).run P w=.ok (.agg cs.toArray) w:=
 mi h (fun j v hj=>by simpa using hj) ht hd hz
theorem cd.ldO {P:Program} {t T:TypeId} {d:TypeDesc} {g o:Nat} {cs ms:List Value} (h:cd g T cs w) (hm:∀j v,ms[j]? =some v→cs[o+j]? =some v) (ht:P.underlying t=some d) (hd:d.isRow=true) (hz:(P.info? t).map (·.size)=some ms.length):(Instr.loadAt t (.pointer (some ⟨g,o,none⟩))).run P w=.ok (.agg ms.toArray) w:=
 mi h hm ht hd hz
theorem dc {P:Program} {T:TypeId} {cs:List Value}:∃g w',(Instr.box T (.agg cs.toArray)).run P w=.ok (.pointer (some ⟨g,0,none⟩)) w'∧w.heap.size≤g∧aI w w'∧cd g T cs w':=
 ⟨_,_,nU,Nat.le_refl _,aI.new w _,cd.new (T:=T) (.agg cs.toArray) rfl⟩
def aD (l:List Value):Prop:=∀v∈l,v.oneCell'=true
theorem aD.nil:aD []:=fun _ h=>by simp at h
theorem aD.cons {v:Value} {l:List Value} (h:v.oneCell'=true) (h':aD l):aD (v::l):=fun u hu=>by
 rcases List.mem_cons.1 hu with rfl|hu
 ·exact h
 ·exact h' u hu
theorem cd.stS {P:Program} {t T:TypeId} {g:Nat} {l m:List Value} (h:cd g T l w) (hl:l.length=m.length) (hi:(P.info? t).map (·.size)=some m.length) (h1:aD m):
 ∃w',(Instr.storeAt t (.pointer (some ⟨g,0,none⟩)) (.agg m.toArray)).run P w=.ok () w'∧w.grownBy w' (some g)∧cd g T m w':=
 ⟨_,it h hl hi h1,bp w g _,h.row m⟩
theorem cd.stC {P:Program} {t T:TypeId} {g i:Nat} {l:List Value} {v:Value} (h:cd g T l w) (hs:(P.info? t).map (·.size)=some 1) (hv:v.oneCell'=true) (hi:i<l.length):
 ∃w',(Instr.storeAt t (.pointer (some ⟨g,i,none⟩)) v).run P w=.ok () w'∧w.grownBy w' (some g)∧cd g T (l.set i v) w':=by
 have h':=h
 unfold cd at h'
 obtain h2:=dv (P:=P) (t:=t) (v:=v) hs hv h' (by simpa using hi)
 exact⟨_,h2,ba w g i v,h.set i v⟩
end
end Go.Rl
namespace Go.Rl
open Go.RowKit
section
variable {w:World} {cs:List Value}
theorem zp (n:Int):(sq n).size=1:=rfl
theorem HZ {n:Int} (h:Rp w (sq n) cs):cs=[I n]:=by simp only[sq,Rp] at h;exact h
theorem mS {q:fQ} (h:Rp w (gi q) cs):∃x y,cs=[B q.1,x,y]∧bo q.2.1 x w∧bo q.2.2 y w:=by
 simp only[gi,Rp,bw] at h
 obtain⟨_,_,rfl,rfl,_,_,rfl,h1,_,_,rfl,h2,rfl⟩:=h
 obtain⟨x,rfl,hx,_⟩:=Rp.isSlice h1
 obtain⟨y,rfl,hy,_⟩:=Rp.isSlice h2
 exact⟨x,y,rfl,Rp.wds.1 hx,Rp.wds.1 hy⟩
end
end Go.Rl
namespace Go.Rl
open Go.RowKit
section
variable {α β:Type} {f:List UInt8→Option (α×List UInt8)} {st s1 s2 so:Option (List UInt8)} {a:α}
def eE (f:List UInt8→Option (α×List UInt8)) (st:Option (List UInt8)) (a:α) (s1:Option (List UInt8)):Prop:=st.bind f=s1.map fun t=>(a,t)
theorem eE.some {t:List UInt8} (h:eE f st a (some t)):∃l,st=.some l∧f l=.some (a,t):=by
 cases st with
 |none=>cases h
 |some l=>exact⟨l,rfl,h⟩
def Le (f:List UInt8→Option (α×List UInt8)):Prop:=∀l a t,f l=some (a,t)→t.length≤l.length
def Lt (f:List UInt8→Option (α×List UInt8)):Prop:=∀l a t,f l=some (a,t)→t.length+1≤l.length
theorem Lt.le (h:Lt f):Le f:=fun l a t e=>by have:=h l a t e;omega
def yB (n:Nat) (st:Option (List UInt8)):Prop:=∀l,st=some l→l.length≤n
theorem eE.atM {n:Nat} (h:eE f st a s1) (hf:Le f) (hn:yB n st):yB n s1:=fun t e=>by
 subst e
 obtain⟨l,h1,h2⟩:=h.some
 exact Nat.le_trans (hf l a t h2) (hn l h1)
theorem iJ {N:Nat}:so.bind (cr f N)=so.bind (fun l=>(cr f N l).map fun p=>([]++p.1,p.2)):=by
 cases so with
 |none=>rfl
 |some l=>simp
theorem jr {X:Option (List α×List UInt8)} {k:Nat} {done:List α} (hR:X=so.bind (fun l=>(cr f (k+1) l).map fun p=>(done++p.1,p.2))) (hq:eE f so a s2):
 X=s2.bind (fun l=>(cr f k l).map fun p=>((done++[a])++p.1,p.2)):=by
 rw[hR]
 cases so with
 |none=>
  cases s2 with
  |none=>rfl
  |some t=>cases hq
 |some l=>
  have hq:f l=s2.map fun t=>(a,t):=hq
  show(cr f (k+1) l).map _=_
  simp only[cr]
  rw[hq]
  cases s2 with
  |none=>rfl
  |some t=>
   simp only[Option.map_some,Option.bind_some,Option.map_map]
   cases cr f k t<;>simp
theorem Ek {X:Option (List α×List UInt8)} {done:List α} (hR:X=so.bind (fun l=>(cr f 0 l).map fun p=>(done++p.1,p.2))):X=so.map fun t=>(done,t):=by
 rw[hR]
 cases so with
 |none=>rfl
 |some l=>simp[cr]
theorem vI (hf:Le f):∀(n:Nat) (l:List UInt8) (a:List α) (t:List UInt8),cr f n l=some (a,t)→t.length≤l.length
 |0,l,a,t,h=>by simp only[cr,Option.some.injEq,Prod.mk.injEq] at h;rw[←h.2];exact Nat.le_refl _
 |n+1,l,a,t,h=>by
  simp only[cr] at h
  obtain⟨p,h1,h2⟩:=Option.bind_eq_some_iff.1 h
  obtain⟨q,h3,h4⟩:=Option.map_eq_some_iff.1 h2
  simp only[Prod.mk.injEq] at h4
  have:=vI hf n p.2 q.1 q.2 h3
  have:=hf l p.1 p.2 h1
  rw[←h4.2]
  omega
theorem jc:Lt db:=fun l a t h=>by
 have h1:=(ee h).1
 have h2:=xq a
 rw[h1,List.length_append]
 omega
theorem dI:Lt mm:=fun l a t h=>by
 unfold mm at h
 obtain⟨p,h1,h2⟩:=Option.map_eq_some_iff.1 h
 have:=jc l p.1 p.2 h1
 simp only[Prod.mk.injEq] at h2
 rw[←h2.2]
 exact this
theorem qJ:Lt j6:=fun l q t h=>by
 obtain⟨b,n,m⟩:=q
 have:=(CM h).1
 rw[this,List.length_append]
 have h1:1≤(tz b n m).length:=by simp only[tz,List.length_append,List.length_cons,List.length_nil];omega
 omega
theorem xD {st:Option (List UInt8)} {n:Int} {t:List UInt8} (h:eE mm st n (some t)):nE n:=by
 obtain⟨l,_,h⟩:=h.some
 unfold mm at h
 obtain⟨p,h1,h2⟩:=Option.map_eq_some_iff.1 h
 have:=(ee h1).2
 simp only[Prod.mk.injEq] at h2
 rw[←h2.1]
 unfold uz nE
 split<;>omega
end
end Go.Rl
namespace Go.Rl
open Go.RowKit
structure dl where
 kd:Int
 ix:Int
 lo:Int
 hi:Int
 co:fQ
structure fB where
 un:Int
 up:Bool
 va:fQ
 pf:List dl
structure ew where
 kd:Int
 ix:Int
 at_:fQ
inductive aP where
 |mk (lems:List fB) (split:ew) (kids:List aP) (empty:Bool) (pf:List dl)
def Kk:fQ:=(false,[],[])
def uN:ew:=⟨0,0,Kk⟩
def aP.lems:aP→List fB|.mk l _ _ _ _=>l
def aP.split:aP→ew|.mk _ s _ _ _=>s
def aP.kids:aP→List aP|.mk _ _ k _ _=>k
def aP.empty:aP→Bool|.mk _ _ _ e _=>e
def aP.pf:aP→List dl|.mk _ _ _ _ p=>p
def dk (m:dl):Dt:=.st [.st [sq m.kd,sq m.ix,sq m.lo,sq m.hi],gi m.co]
def mU (l:List dl):Dt:=.sl (l.map dk)
def eI (l:fB):Dt:=.st [sq l.un,.bool l.up,gi l.va,mU l.pf]
def gD (d:ew):Dt:=.st [sq d.kd,sq d.ix,gi d.at_]
mutual
def bM:aP→Dt
 |.mk lems sp kids em pf=>.st [.sl (lems.map eI),gD sp,.sl (xE kids),.bool em,mU pf]
def xE:List aP→List Dt
 |[]=>[]
 |n::l=>bM n::xE l
end
theorem oB:∀l:List aP,xE l=l.map bM
 |[]=>rfl
 |n::l=>by simp only[xE,List.map_cons,oB l]
def tJ (d:ew):List UInt8:=gA d.kd++gA d.ix++mR d.at_
def rB (m:dl):List UInt8:=gA m.kd++gA m.ix++gA m.lo++gA m.hi++mR m.co
def tK (l:List dl):List UInt8:=uv l.length++l.flatMap rB
def Gj (b:Bool):List UInt8:=if b=true then[1] else[0]
def mV (l:fB):List UInt8:=gA l.un++Gj l.up++mR l.va++tK l.pf
def iK (l:List fB):List UInt8:=uv l.length++l.flatMap mV
mutual
def dO:aP→List UInt8
 |.mk lems _ [] em pf=>Gj em++iK lems++tK pf
 |.mk lems sp (k::ks) _ _=>[2]++iK lems++tJ sp++tL (k::ks)
def tL:List aP→List UInt8
 |[]=>[]
 |n::l=>dO n++tL l
end
theorem tM:∀l:List aP,tL l=l.flatMap dO
 |[]=>rfl
 |n::l=>by simp only[tL,List.flatMap_cons,tM l]
def eF (l:List aP):List UInt8:=uv l.length++l.flatMap dO
def pC (most:Nat) (l:List UInt8):Option (Nat×List UInt8):=(db l).bind fun p=>if p.1≤most then some p else none
def xG (l:List UInt8):Option (ew×List UInt8):=(mm l).bind fun a=>(mm a.2).bind fun b=>(j6 b.2).bind fun c=>some (⟨a.1,b.1,c.1⟩,c.2)
def qK (l:List UInt8):Option (dl×List UInt8):=(mm l).bind fun a=>(mm a.2).bind fun b=>(mm b.2).bind fun c=>(mm c.2).bind fun d=>(j6 d.2).bind fun e=>some (⟨a.1,b.1,c.1,d.1,e.1⟩,e.2)
def uO:List UInt8→Option (List dl×List UInt8):=gC qK
def gT (n:Nat):Bool:=decide (n=1)
def mq (l:List UInt8):Option (fB×List UInt8):=(mm l).bind fun a=>(pC 1 a.2).bind fun b=>(j6 b.2).bind fun c=>(uO c.2).bind fun d=>some (⟨a.1,gT b.1,c.1,d.1⟩,d.2)
def fW:List UInt8→Option (List fB×List UInt8):=gC mq
def nR:Nat→List UInt8→Option (aP×List UInt8)
 |0,_=>none
 |n+1,l=>(pC 2 l).bind fun a=>(fW a.2).bind fun b=>
   if a.1<2 then(uO b.2).bind fun c=>some (.mk b.1 uN [] (decide (a.1=1)) c.1,c.2)
   else(xG b.2).bind fun c=>(nR n c.2).bind fun d=>(nR n d.2).bind fun e=>some (.mk b.1 c.1 [d.1,e.1] false [],e.2)
def eC (l:List UInt8):Option (aP×List UInt8):=nR l.length l
def mr:List UInt8→Option (List aP×List UInt8):=gC eC
section
variable {α β:Type}
theorem Le.bind {f:List UInt8→Option (α×List UInt8)} {g:α×List UInt8→Option (β×List UInt8)} (hf:Le f) (hg:∀p b t,g p=some (b,t)→t.length≤p.2.length):Le (fun l=>(f l).bind g):=fun l b t h=>by
 obtain⟨p,h1,h2⟩:=Option.bind_eq_some_iff.1 h
 exact Nat.le_trans (hg p b t h2) (hf l p.1 p.2 h1)
theorem Lt.bind {f:List UInt8→Option (α×List UInt8)} {g:α×List UInt8→Option (β×List UInt8)} (hf:Lt f) (hg:∀p b t,g p=some (b,t)→t.length≤p.2.length):Lt (fun l=>(f l).bind g):=fun l b t h=>by
 obtain⟨p,h1,h2⟩:=Option.bind_eq_some_iff.1 h
 have:=hg p b t h2
 have:=hf l p.1 p.2 h1
 omega
end
theorem fP {α β:Type} {f:List UInt8→Option (α×List UInt8)} (hf:Le f) {l:List UInt8} {g:α×List UInt8→Option (β×List UInt8)} {b:β} {t:List UInt8} (h:(f l).bind g=some (b,t)) (hg:∀p b t,g p=some (b,t)→t.length≤p.2.length):t.length≤l.length:=Le.bind hf hg l b t h
theorem pD {β:Type} {b b':β} {t t':List UInt8} (h:some (b',t')=some (b,t)):t.length≤t'.length:=by
 simp only[Option.some.injEq,Prod.mk.injEq] at h
 rw[h.2]
 exact Nat.le_refl _
theorem j0 (k:Nat):Lt (pC k):=fun l a t h=>by
 unfold pC at h
 obtain⟨p,h1,h2⟩:=Option.bind_eq_some_iff.1 h
 split at h2
 ·simp only[Option.some.injEq] at h2
  subst h2
  exact jc l _ _ h1
 ·cases h2
theorem mX:Lt xG:=Lt.bind dI fun _ _ _ h=>fP dI.le h fun _ _ _ h=>fP qJ.le h fun _ _ _ h=>pD h
theorem su:Lt qK:=Lt.bind dI fun _ _ _ h=>fP dI.le h fun _ _ _ h=>fP dI.le h fun _ _ _ h=>fP dI.le h fun _ _ _ h=>fP qJ.le h fun _ _ _ h=>pD h
theorem vJ {α:Type} {f:List UInt8→Option (α×List UInt8)} (hf:Le f):Lt (gC f):=fun l a t h=>by
 unfold gC at h
 obtain⟨p,h1,h2⟩:=Option.bind_eq_some_iff.1 h
 have:=vI hf p.1 p.2 a t h2
 have:=jc l p.1 p.2 h1
 omega
theorem Gk:Lt uO:=vJ su.le
theorem sv:Lt mq:=Lt.bind dI fun _ _ _ h=>fP (j0 1).le h fun _ _ _ h=>fP qJ.le h fun _ _ _ h=>fP Gk.le h fun _ _ _ h=>pD h
theorem kB:Lt fW:=vJ sv.le
theorem nG:∀n,Lt (nR n)
 |0=>fun l a t h=>by simp[nR] at h
 |n+1=>fun l a t h=>by
  refine(Lt.bind (j0 2) fun p b t h=>?_) l a t (show((pC 2 l).bind _)=_ from h)
  refine fP kB.le h fun q b t h=>?_
  split at h
  ·exact fP Gk.le h fun _ _ _ h=>pD h
  ·exact fP mX.le h fun _ _ _ h=>fP (nG n).le h fun _ _ _ h=>fP (nG n).le h fun _ _ _ h=>pD h
theorem nH:∀(n m:Nat) (l:List UInt8),l.length≤n→n≤m→nR m l=nR n l
 |0,0,_,_,_=>rfl
 |0,m+1,l,hl,_=>by
  have:l=[]:=List.eq_nil_of_length_eq_zero (by omega)
  subst this
  rfl
 |n+1,0,_,_,h=>by omega
 |n+1,m+1,l,hl,hm=>by
  simp only[nR]
  cases h1:pC 2 l with
  |none=>rfl
  |some a=>
   simp only[Option.bind_some]
   cases h2:fW a.2 with
   |none=>rfl
   |some b=>
    simp only[Option.bind_some]
    split
    ·rfl
    ·cases h3:xG b.2 with
     |none=>rfl
     |some c=>
      simp only[Option.bind_some]
      have a1:=j0 2 l _ _ h1
      have a2:=kB _ _ _ h2
      have a3:=mX _ _ _ h3
      rw[nH n m c.2 (by omega) (by omega)]
      cases h4:nR n c.2 with
      |none=>rfl
      |some d=>
       simp only[Option.bind_some]
       have a4:=nG n _ _ _ h4
       rw[nH n m d.2 (by omega) (by omega)]
theorem lz:Lt eC:=fun l a t h=>nG l.length l a t h
theorem El (l:List UInt8):eC l=(pC 2 l).bind fun a=>(fW a.2).bind fun b=>
 if a.1<2 then(uO b.2).bind fun c=>some (.mk b.1 uN [] (decide (a.1=1)) c.1,c.2)
 else(xG b.2).bind fun c=>(eC c.2).bind fun d=>(eC d.2).bind fun e=>some (.mk b.1 c.1 [d.1,e.1] false [],e.2):=by
 unfold eC
 cases l with
 |nil=>rfl
 |cons x l=>
  show nR (l.length+1) (x::l)=_
  simp only[nR]
  cases h1:pC 2 (x::l) with
  |none=>rfl
  |some a=>
   simp only[Option.bind_some]
   cases h2:fW a.2 with
   |none=>rfl
   |some b=>
    simp only[Option.bind_some]
    split
    ·rfl
    ·cases h3:xG b.2 with
     |none=>rfl
     |some c=>
      simp only[Option.bind_some]
      have a1:=j0 2 _ _ _ h1
      have a2:=kB _ _ _ h2
      have a3:=mX _ _ _ h3
      simp only[List.length_cons] at a1
      rw[nH c.2.length l.length c.2 (Nat.le_refl _) (by omega)]
      cases h4:nR c.2.length c.2 with
      |none=>rfl
      |some d=>
       simp only[Option.bind_some]
       have a4:=nG _ _ _ _ h4
       rw[nH d.2.length l.length d.2 (Nat.le_refl _) (by omega)]
end Go.Rl
namespace Go.Rl
open Go.RowKit
theorem eE.bindE {α β:Type} {f:List UInt8→Option (α×List UInt8)} {st s1:Option (List UInt8)} {a:α} (h:eE f st a s1) (F:α×List UInt8→Option (β×List UInt8)):st.bind (fun l=>(f l).bind F)=s1.bind fun t=>F (a,t):=by
 cases st with
 |none=>
  cases s1 with
  |none=>rfl
  |some t=>cases h
 |some l=>
  have h:f l=s1.map fun t=>(a,t):=h
  show(f l).bind F=_
  rw[h]
  cases s1<;>rfl
theorem kC {β:Type} {s:Option (List UInt8)} {b:β}:(s.bind fun t=>some (b,t))=s.map fun t=>(b,t):=by cases s<;>rfl
section
variable {st s1 s2 s3 s4 s5:Option (List UInt8)}
theorem vK {a b:Int} {q:fQ} (h1:eE mm st a s1) (h2:eE mm s1 b s2) (h3:eE j6 s2 q s3):eE xG st ⟨a,b,q⟩ s3:=by
 refine(h1.bindE _).trans ?_
 dsimp only
 refine(h2.bindE _).trans ?_
 dsimp only
 refine(h3.bindE _).trans ?_
 dsimp only
 exact kC
theorem oC {a b c d:Int} {q:fQ} (h1:eE mm st a s1) (h2:eE mm s1 b s2) (h3:eE mm s2 c s3) (h4:eE mm s3 d s4) (h5:eE j6 s4 q s5):eE qK st ⟨a,b,c,d,q⟩ s5:=by
 refine(h1.bindE _).trans ?_
 dsimp only
 refine(h2.bindE _).trans ?_
 dsimp only
 refine(h3.bindE _).trans ?_
 dsimp only
 refine(h4.bindE _).trans ?_
 dsimp only
 refine(h5.bindE _).trans ?_
 dsimp only
 exact kC
theorem tN {a:Int} {n:Nat} {q:fQ} {ps:List dl} (h1:eE mm st a s1) (h2:eE (pC 1) s1 n s2) (h3:eE j6 s2 q s3) (h4:eE uO s3 ps s4):eE mq st ⟨a,gT n,q,ps⟩ s4:=by
 refine(h1.bindE _).trans ?_
 dsimp only
 refine(h2.bindE _).trans ?_
 dsimp only
 refine(h3.bindE _).trans ?_
 dsimp only
 refine(h4.bindE _).trans ?_
 dsimp only
 exact kC
def lA (k:Nat) (ls:List fB) (l:List UInt8):Option (aP×List UInt8):=
 if k<2 then(uO l).bind fun c=>some (.mk ls uN [] (decide (k=1)) c.1,c.2)
 else(xG l).bind fun c=>(eC c.2).bind fun d=>(eC d.2).bind fun e=>some (.mk ls c.1 [d.1,e.1] false [],e.2)
theorem iZ:eC=fun l=>(pC 2 l).bind fun a=>(fW a.2).bind fun b=>lA a.1 b.1 b.2:=funext El
theorem rC {k:Nat} (h:k<2) (ls:List fB):lA k ls=fun l=>(uO l).bind fun c=>some (.mk ls uN [] (decide (k=1)) c.1,c.2):=funext fun _=>if_pos h
theorem jj {k:Nat} (h:¬k<2) (ls:List fB):lA k ls=fun l=>(xG l).bind fun c=>(eC c.2).bind fun d=>(eC d.2).bind fun e=>some (.mk ls c.1 [d.1,e.1] false [],e.2):=funext fun _=>if_neg h
theorem vL {n:Nat} {ls:List fB} {ps:List dl} (hn:n<2) (h1:eE (pC 2) st n s1) (h2:eE fW s1 ls s2) (h3:eE uO s2 ps s3):eE eC st (.mk ls uN [] (decide (n=1)) ps) s3:=by
 unfold eE
 rw[iZ]
 refine(h1.bindE _).trans ?_
 dsimp only
 refine(h2.bindE _).trans ?_
 dsimp only
 show Option.bind s2 (lA _ _)=_
 rw[rC hn]
 refine(h3.bindE _).trans ?_
 dsimp only
 exact kC
theorem tO {n:Nat} {ls:List fB} {d:ew} {a b:aP} (hn:¬n<2) (h1:eE (pC 2) st n s1) (h2:eE fW s1 ls s2) (h3:eE xG s2 d s3) (h4:eE eC s3 a s4) (h5:eE eC s4 b s5):eE eC st (.mk ls d [a,b] false []) s5:=by
 unfold eE
 rw[iZ]
 refine(h1.bindE _).trans ?_
 dsimp only
 refine(h2.bindE _).trans ?_
 dsimp only
 show Option.bind s2 (lA _ _)=_
 rw[jj hn]
 refine(h3.bindE _).trans ?_
 dsimp only
 refine(h4.bindE _).trans ?_
 dsimp only
 refine(h5.bindE _).trans ?_
 dsimp only
 exact kC
variable {α:Type} {f:List UInt8→Option (α×List UInt8)} {a:α}
theorem iR {β:Type} {g:List UInt8→Option (β×List UInt8)} {F:β×List UInt8→Option (α×List UInt8)} (h:st.bind g=none):st.bind (fun l=>(g l).bind F)=none:=by
 cases st with
 |none=>rfl
 |some l=>have h:g l=none:=h;show(g l).bind F=none;rw[h];rfl
theorem zq (h:st.bind (pC 2)=none):st.bind eC=none:=by rw[iZ];exact iR h
theorem pE {n:Nat} (h1:eE (pC 2) st n s1) (h:s1.bind fW=none):st.bind eC=none:=by
 rw[iZ]
 refine(h1.bindE _).trans ?_
 dsimp only
 exact iR h
theorem zr {n:Nat} {ls:List fB} (hn:n<2) (h1:eE (pC 2) st n s1) (h2:eE fW s1 ls s2) (h:s2.bind uO=none):st.bind eC=none:=by
 rw[iZ]
 refine(h1.bindE _).trans ?_
 dsimp only
 refine(h2.bindE _).trans ?_
 dsimp only
 show Option.bind s2 (lA _ _)=_
 rw[rC hn]
 exact iR h
theorem zt {n:Nat} {ls:List fB} (hn:¬n<2) (h1:eE (pC 2) st n s1) (h2:eE fW s1 ls s2) (h:s2.bind xG=none):st.bind eC=none:=by
 rw[iZ]
 refine(h1.bindE _).trans ?_
 dsimp only
 refine(h2.bindE _).trans ?_
 dsimp only
 show Option.bind s2 (lA _ _)=_
 rw[jj hn]
 exact iR h
theorem zu {n:Nat} {ls:List fB} {d:ew} (hn:¬n<2) (h1:eE (pC 2) st n s1) (h2:eE fW s1 ls s2) (h3:eE xG s2 d s3) (h:s3.bind eC=none):st.bind eC=none:=by
 rw[iZ]
 refine(h1.bindE _).trans ?_
 dsimp only
 refine(h2.bindE _).trans ?_
 dsimp only
 show Option.bind s2 (lA _ _)=_
 rw[jj hn]
 refine(h3.bindE _).trans ?_
 dsimp only
 exact iR h
theorem zv {n:Nat} {ls:List fB} {d:ew} {x:aP} (hn:¬n<2) (h1:eE (pC 2) st n s1) (h2:eE fW s1 ls s2) (h3:eE xG s2 d s3) (h4:eE eC s3 x s4) (h:s4.bind eC=none):st.bind eC=none:=by
 rw[iZ]
 refine(h1.bindE _).trans ?_
 dsimp only
 refine(h2.bindE _).trans ?_
 dsimp only
 show Option.bind s2 (lA _ _)=_
 rw[jj hn]
 refine(h3.bindE _).trans ?_
 dsimp only
 refine(h4.bindE _).trans ?_
 dsimp only
 exact iR h
theorem Gl (h:st.bind mm=none):st.bind mq=none:=iR h
theorem zw {n:Int} (h1:eE mm st n s1) (h:s1.bind (pC 1)=none):st.bind mq=none:=by
 refine(h1.bindE _).trans ?_
 dsimp only
 exact iR h
theorem Gm {n:Int} {k:Nat} (h1:eE mm st n s1) (h2:eE (pC 1) s1 k s2) (h:s2.bind j6=none):st.bind mq=none:=by
 refine(h1.bindE _).trans ?_
 dsimp only
 refine(h2.bindE _).trans ?_
 dsimp only
 exact iR h
theorem zx {n:Int} {k:Nat} {q:fQ} (h1:eE mm st n s1) (h2:eE (pC 1) s1 k s2) (h3:eE j6 s2 q s3) (h:s3.bind uO=none):st.bind mq=none:=by
 refine(h1.bindE _).trans ?_
 dsimp only
 refine(h2.bindE _).trans ?_
 dsimp only
 refine(h3.bindE _).trans ?_
 dsimp only
 exact iR h
theorem Em {X:Option (List α×List UInt8)} {so:Option (List UInt8)} {k:Nat} {done:List α} (hR:X=so.bind (fun l=>(cr f (k+1) l).map fun p=>(done++p.1,p.2))) (h:so.bind f=none):X=none:=by
 rw[hR]
 cases so with
 |none=>rfl
 |some l=>
  have h:f l=none:=h
  show(cr f (k+1) l).map _=none
  simp only[cr,h]
  rfl
theorem Bf {n:Nat} {most:Nat} (h:eE db st n s1) (hn:n≤most):eE (pC most) st n s1:=by
 refine(h.bindE _).trans ?_
 cases s1 with
 |none=>rfl
 |some t=>exact if_pos hn
theorem Gn {n:Nat} {most:Nat} (h:eE db st n s1) (hn:¬n≤most):st.bind (pC most)=none:=by
 refine(h.bindE _).trans ?_
 cases s1 with
 |none=>rfl
 |some t=>exact if_neg hn
end
end Go.Rl
namespace Go.Rl
open Go.RowKit Go.Proofs
end Go.Rl
namespace Go.Rl
open Go.RowKit Go.Proofs
section
variable {w0 w:World} {l m:List UInt8} {v x:Value} {ty:TypeId}
def IS (base:Nat) (l:List UInt8) (v:Value) (w:World):Prop:=cG base l v w∨(cm l v w∧∃ad,v=.slice (some ad) l.length l.length)
theorem IS.ext {base:Nat} {w':World} (h:IS base l v w) (hx:aI w w'):IS base l v w':=h.imp (·.ext hx) fun h=>⟨h.1.ext hx,h.2⟩
theorem xH (h0:aI w0 w) (hv:IS w0.heap.size l v w) (hx:cm m x w) (hm:0<m.length) (hb:l.length+m.length≤140737488355328):
 ∃r w',(Builtin.append_ #[28,28] ty #[v,x]).run Tryz.prog w=.ok r w'∧cG w0.heap.size (l++m) r w'∧aI w0 w':=by
 rcases hv with hv|⟨hv,ad,rfl⟩
 ·obtain⟨r,w',h1,h2,h3⟩:=dn (ty:=ty) hv hx hb h0.size
  exact⟨r,w',h1,h2,aI.of_grew h0 h3 hv.ge⟩
 ·obtain⟨i,hi,hz,hsize,hby⟩:=info_parts pn
  obtain⟨A,n,c,hA,hnc,hcm,hl,hc,_⟩:=hv
  injection hA with hA hn hc'
  subst hA hn hc'
  obtain⟨A',n',c',rfl,hnc',hcm',hl',hcl',_⟩:=hx
  have hn':n'=m.length:=by simpa using hl'.symm
  obtain⟨ad',hA',hcl2⟩:=hcl' (by omega)
  subst hA'
  have hold:∀j u,(l.map U8)[j]? =some u→w.cell? (ad.add j)=some u:=fun j u hu=>by
   have hj:j<l.length:=by
    have:=(List.getElem?_eq_some_iff.1 hu).1
    simpa using this
   obtain⟨ad2,h2,h3⟩:=hc (by omega)
   cases h2
   exact h3 j u hu
  obtain⟨r,w',h1,h2,h3⟩:=run_append_arg_grows (P:=Tryz.prog) w 28 ty 5 i (.int .u8 0) 1 1 Tryz.underlying28 hi hz hsize hby rfl (by omega) ad l.length l.length (l.map U8) (by simp) hold ad' n' c' (m.map U8) hl' hcl2 (by omega) (by unfold maxLen;omega) (by omega)
  refine⟨r,w',h1,⟨l.length+n',?_⟩,h0.of_grown h3 (fun k hk=>by cases hk)⟩
  rw[List.map_append]
  exact ib h2 (fun k hk=>Nat.le_trans h0.size (World.ownsRow.lt h2 k hk).1)
end
end Go.Rl
namespace Go.Rl
open Go.RowKit Go.Proofs
open Go.Maps (Keyed)
section ops
variable {P:Program} {ops:Array Oper} {Q:fe} {N:Nat} {D:List Deferred} {l:Fr} {w w':World} {rest:List Oper} {d:Nat} {ty:TypeId} {pos:String} {aft:Array Edge}
end ops
section
variable {P:Program} {w:World} {t k e:TypeId} {m:Nat} {es:List MapEntry} {clock:Nat} {x:Value}
end
section
variable {w:World} {m:Nat} {l:List Value} {t e:TypeId}
end
theorem cd.k0 {w:World} {g:Nat} {T:TypeId} {v:Value} {l:List Value} (h:cd g T (v::l) w):w.cell? ⟨g,0,none⟩=some v:=h.cell (i:=0) rfl
end Go.Rl
namespace Go.Rl
open Go.RowKit Go.Proofs
section
variable {w0 w w':World} {l m:List UInt8} {v x:Value} {ty t t2 T:TypeId} {g base:Nat}
theorem Bg (ht:Tryz.prog.underlying t=some (.slice 5)) (ht2:Tryz.prog.underlying t2=some (.slice 5)) (a b:Value):(Builtin.append_ #[t,t2] ty #[a,b]).run Tryz.prog w=(Builtin.append_ #[28,28] ty #[a,b]).run Tryz.prog w:=by
 unfold Builtin.append_
 cases a<;>simp[Sem.run_bind,run_underlying ht,run_underlying ht2,run_underlying Tryz.underlying28]
structure fH (T:TypeId) (base g:Nat) (l:List UInt8) (v:Value) (w:World):Prop where
 ge:base≤g
 blk:cd g T [v] w
 row:IS base l v w
 new:∀k,v.ownBlock=some k→base≤k
 off:v.ownBlock≠some g
 lt:∀k,v.ownBlock=some k→k<w.heap.size
theorem IS.bts (h:IS base l v w):cm l v w:=h.elim (·.bts) (·.1)
theorem fH.ext (h:fH T base g l v w) (hx:aI w w'):fH T base g l v w':=⟨h.ge,h.blk.ext hx,h.row.ext hx,h.new,h.off,fun k hk=>Nat.lt_of_lt_of_le (h.lt k hk) hx.size⟩
theorem fH.off_new {k:Nat} (h:fH T base g l v w) (hk:w.heap.size≤k):¬(k=g∨v.ownBlock=some k):=by
 rintro(rfl|h1)
 ·have:=h.blk.lt;omega
 ·have:=h.lt k h1;omega
structure cY (g:Nat) (v:Value) (w:World) (v':Value) (w':World):Prop where
 mv:Mv (fun k=>k=g∨v.ownBlock=some k) w w'
 own:∀k,v'.ownBlock=some k→v.ownBlock=some k∨w.heap.size≤k
theorem cY.of_ext (h:aI w w'):cY g v w v w':=⟨Mv.of_ext h,fun _ h=>.inl h⟩
theorem cY.refl:cY g v w v w:=cY.of_ext (aI.refl w)
theorem cY.trans {v1 v2:Value} {w1 w2:World} (h:cY g v w v1 w1) (k:cY g v1 w1 v2 w2):cY g v w v2 w2:=by
 refine⟨h.mv.trans k.mv fun n hn hlt=>?_,fun n hn=>?_⟩
 ·rcases hn with hn|hn
  ·exact .inl hn
  ·rcases h.own n hn with h1|h1
   ·exact .inr h1
   ·omega
 ·rcases k.own n hn with h1|h1
  ·exact h.own n h1
  ·exact .inr (Nat.le_trans h.mv.size h1)
theorem cY.off {k:Nat} {v1:Value} {w1:World} (h:cY g v w v1 w1) (hn:¬(k=g∨v.ownBlock=some k)) (hk:k<w.heap.size):¬(k=g∨v1.ownBlock=some k):=by
 rintro(h1|h1)
 ·exact hn (.inl h1)
 ·rcases h.own k h1 with h2|h2
  ·exact hn (.inr h2)
  ·omega
theorem cY.ext {v1:Value} {w1:World} (h:cY g v w v1 w1) (h0:aI w0 w) (hg:w0.heap.size≤g) (hv:∀k,v.ownBlock=some k→w0.heap.size≤k):aI w0 w1:=
 h.mv.ext_from h0 fun k hk=>by
  rcases hk with rfl|hk
  ·exact hg
  ·exact hv k hk
def WrX (g:Nat) (v:Value):Nat→Prop:=fun k=>k=g∨v.ownBlock=some k
theorem cK.step {v1:Value} {w1:World} {d:Dt} {cs:List Value} (h:cK (WrX g v) w d cs) (k:cY g v w v1 w1):cK (WrX g v1) w1 d cs:=h.mv k.mv fun n hn=>by
 rcases hn with hn|hn
 ·exact .inl (.inl hn)
 ·rcases k.own n hn with h1|h1
  ·exact .inl (.inr h1)
  ·exact .inr h1
theorem fH.put (ht:Tryz.prog.underlying t=some (.slice 5)) (hs:(Tryz.prog.info? t).map (·.size)=some 1) (ht2:Tryz.prog.underlying t2=some (.slice 5)) (h:fH T base g l v w) (h0:base≤w.heap.size) (hx:cm m x w) (hm:0<m.length) (hb:l.length+m.length≤140737488355328):
 ∃r w1 w2,(Builtin.append_ #[t,t2] ty #[v,x]).run Tryz.prog w=.ok r w1∧(Instr.storeAt t (.pointer (some ⟨g,0,none⟩)) r).run Tryz.prog w1=.ok () w2∧fH T base g (l++m) r w2∧cY g v w r w2:=by
 have key:∃r w1,(Builtin.append_ #[28,28] ty #[v,x]).run Tryz.prog w=.ok r w1∧cG base (l++m) r w1∧cY g v w r w1∧cd g T [v] w1∧r.ownBlock≠some g:=by
  rcases h.row with hv|⟨hv,hfull⟩
  ·obtain⟨r,w1,h1,h2,h3⟩:=dn (ty:=ty) hv hx hb h0
   refine⟨r,w1,h1,h2,⟨Mv.of_grown h3.grown fun k hk _=>.inr hk,fun k hk=>?_⟩,h.blk.other h3.grown (Ne.symm h.off),?_⟩
   ·rcases h3.own with h4|h4
    ·rw[h4] at hk;exact .inl hk
    ·exact .inr (h4 k hk)
   ·rcases h3.own with h4|h4
    ·rw[h4];exact h.off
    ·intro h5
     have:=h4 g h5
     have:=h.blk.lt
     omega
  ·obtain⟨r,w1,h1,h2,h3⟩:=xH (ty:=ty) (w0:=w) (aI.refl w) (.inr ⟨hv,hfull⟩) hx hm hb
   refine⟨r,w1,h1,h2.low h0,⟨Mv.of_ext h3,fun k hk=>.inr (h2.ge k hk)⟩,h.blk.ext h3,fun h5=>?_⟩
   have:=h2.ge g h5
   have:=h.blk.lt
   omega
 obtain⟨r,w1,h1,h2,h3,h4,h5⟩:=key
 have hr1:r.oneCell'=true:=by
  obtain⟨A,n,c,rfl,_⟩:=h2.bts
  rfl
 obtain⟨w2,h6,h7,h8⟩:=h4.stC (P:=Tryz.prog) (t:=t) (i:=0) (v:=r) hs hr1 (by simp)
 refine⟨r,w1,w2,(Bg ht ht2 v x).trans h1,h6,⟨h.ge,h8,.inl ?_,h2.ge,h5,fun k hk=>Nat.lt_of_lt_of_le (h2.lt k hk) h7.size⟩,h3.trans ⟨Mv.of_grown h7 fun k hk _=>.inl (Option.some.inj hk).symm,fun k hk=>.inl hk⟩⟩
 obtain⟨n,h9⟩:=h2
 exact⟨n,World.ownsRow.kept h9 h7 (.inr h5)⟩
theorem Gp (ht:Tryz.prog.underlying t=some (.slice 5)) (l:List UInt8) (hl:l.length≤16777216) (h0:0<l.length):∃v w1 w2,(Instr.buildSlice t l.length (dT 0 (l.map U8)).toArray).run Tryz.prog w=.ok v w1∧(convert t t v).run Tryz.prog w1=.ok v w2∧aI w w2∧cm l v w2∧∃ad,v=.slice (some ad) l.length l.length∧w.heap.size≤ad.block∧ad.block<w2.heap.size:=by
 obtain⟨i,hi,hz0,hs,_⟩:=info_parts pn
 have hf:∀Z:Array Value,Z.size=(l.map U8).length→Instr.fill (fun i=>some (i*1,1)) Z (dT 0 (l.map U8))=some (l.map U8).toArray:=fun Z hZ=>by
  have:=rh (l.map U8) [] Z.toList (fun v hv=>u9 (kY l v hv)) (by simpa using hZ)
  simpa using this
 have hle:¬(l.length*1>2^24):=by omega
 have hinfo:(typeInfo 5).run Tryz.prog w=.ok i w:=by simp[typeInfo,hi]
 have hsz:(sizeOf 5).run Tryz.prog w=.ok 1 w:=by simp[sizeOf,hinfo,hs]
 have hzv:(zeroValue 5).run Tryz.prog w=.ok (.int .u8 0) w:=by simp[zeroValue,hinfo,hz0]
 have hrun:(Instr.buildSlice t l.length (dT 0 (l.map U8)).toArray).run Tryz.prog w=.ok (.slice (some ⟨w.heap.size,0,none⟩) l.length l.length) (w.alloc (.cells (l.map U8).toArray 5)):=by
  simp only[Instr.buildSlice,Sem.run_bind,run_underlying ht,Result.andThen_ok,hsz,if_neg hle]
  rw[if_neg (by omega)]
  simp only[Sem.run_bind,Sem.run_pure,Result.andThen_ok,hzv]
  rw[hf _ (by simp[Value.cells])]
  simp[newRow]
 refine⟨_,_,_,hrun,Go.Lib.run_convert_bytes_const w t 5 _ _ _ ht Tryz.underlying5,aI.new w _,?_,⟨_,rfl,Nat.le_refl _,by simp⟩⟩
 have hg:=heap_alloc_new w (.cells (l.map U8).toArray 5 ((l.map U8).toArray.size,(l.map U8).toArray.size+1))
 refine⟨_,_,_,rfl,Nat.le_refl _,by unfold maxLen;omega,by simp,fun _=>⟨_,rfl,fun j u hu=>?_⟩,fun h=>by cases h⟩
 rw[Addr.add_mid,Nat.zero_add,cell_of_row _ _ j _ _ _ hg]
 simpa using hu
end
end Go.Rl
namespace Go.Rl
open Go.RowKit Go.Proofs
section
variable {w w':World} {g h:Nat} {T:TypeId} {st:Option (List UInt8)} {p:Option Addr} {b:Bool}
theorem dS.mv {X:Nat→Prop} (h:dS T g st w) (hm:Mv X w w') (hX:∀k,X k→g<k):dS T g st w':=by
 obtain⟨A,n,c,h1,h2,h3⟩:=h
 refine⟨A,n,c,hm.blk h1 fun hx=>Nat.lt_irrefl _ (hX g hx),?_,h3⟩
 obtain⟨A',n',c',he,h4,h5,h6,h7,h8⟩:=h2
 cases he
 refine⟨_,_,_,rfl,h4,h5,h6,fun hn=>?_,h8⟩
 obtain⟨ad,rfl,hc⟩:=h7 hn
 refine⟨ad,rfl,hm.cells hc fun _ hx=>?_⟩
 have:=hX _ hx
 have:=h3 ad rfl
 omega
end
end Go.Rl
namespace Go.Rl
open Go.RowKit Go.Proofs
theorem tP (off:Nat):∀(cs:List Value) (k:Nat) (p q r:List Value),p.length=off+k→q.length=cs.length→
 (cs.zipIdx k).foldl (fun(a:Array Value) (x:Value×Nat)=>a.setIfInBounds (off+x.2) x.1) (p++q++r).toArray=(p++cs++r).toArray
 |[],k,p,q,r,_,hq=>by
  have:q=[]:=List.eq_nil_of_length_eq_zero (by simpa using hq)
  subst this
  rfl
 |c::cs,k,p,q,r,hp,hq=>by
  cases q with
  |nil=>simp at hq
  |cons q0 q=>
   simp only[List.zipIdx_cons,List.foldl_cons]
   have e:((p++q0::q++r).toArray).setIfInBounds (off+k) c=((p++[c])++q++r).toArray:=by
    simp[←hp]
   rw[e,tP off cs (k+1) (p++[c]) q r (by simp;omega) (by simpa using hq)]
   simp
theorem pG {sz:Nat}:∀(vs:List (List Value)) (k:Nat) (a b:List Value),(∀v∈vs,v.length=sz)→a.length=k*sz→b.length=vs.length*sz→
 Instr.fill (fun i=>some (i*sz,sz)) (a++b).toArray (dT k (vs.map fun v=>Value.agg v.toArray))=some (a++vs.flatten).toArray
 |[],k,a,b,_,_,hb=>by
  have:b=[]:=List.eq_nil_of_length_eq_zero (by simpa using hb)
  subst this
  rfl
 |v::vs,k,a,b,hv,ha,hb=>by
  have hvl:=hv v (by simp)
  have hbl:b.length=sz+vs.length*sz:=by rw[hb,List.length_cons,Nat.add_mul];omega
  have hc:((Value.agg v.toArray).cells.size≠sz||decide (k*sz+(Value.agg v.toArray).cells.size>(a++b).toArray.size))=false:=by
   simp[Value.cells,hvl,ha,hbl]
  have hz:(Value.agg v.toArray).cells.zipIdx.foldl (fun(cs:Array Value) (x:Value×Nat)=>cs.setIfInBounds (k*sz+x.2) x.1) (a++b).toArray=((a++v)++b.drop sz).toArray:=by
   have h:=tP (k*sz) v 0 a (b.take sz) (b.drop sz) (by omega) (by rw[List.length_take];omega)
   rw[List.append_assoc,List.take_append_drop] at h
   rw[←h]
   simp[Value.cells]
  simp only[List.map_cons,dT,Instr.fill]
  rw[hc]
  have ih:=pG vs (k+1) (a++v) (b.drop sz) (fun u hu=>hv u (by simp[hu])) (by rw[List.length_append,ha,hvl,Nat.add_mul];omega) (by rw[List.length_drop,hbl];omega)
  simp only[Bool.false_eq_true,if_false]
  rw[hz,ih]
  simp
theorem CN {P:Program} {w:World} {t e:TypeId} {z:Value} {sz:Nat} (ht:P.underlying t=some (.slice e)) (hi:(P.info? e).map (fun i=>(i.zero,i.size))=some (some z,sz)) (hz:z.cells.size=sz) (h0:0<sz)
 (vs:List (List Value)) (hv:∀v∈vs,v.length=sz) (hn:0<vs.length) (hl:vs.length*sz≤16777216):
 ∃r w',(Instr.buildSlice t vs.length (dT 0 (vs.map fun v=>Value.agg v.toArray)).toArray).run P w=.ok r w'∧aI w w'∧Sl sz vs.flatten r w'∧r.ownBlock=some w.heap.size:=by
 obtain⟨i,hi',h2⟩:=Option.map_eq_some_iff.1 hi
 simp only[Prod.mk.injEq] at h2
 obtain⟨hz0,hs⟩:=h2
 have hfl:vs.flatten.length=vs.length*sz:=by
  rw[List.length_flatten]
  have:∀l:List (List Value),(∀v∈l,v.length=sz)→(l.map List.length).sum=l.length*sz:=by
   intro l
   induction l with
   |nil=>intro _;simp
   |cons a l ih=>intro h;simp only[List.map_cons,List.sum_cons,List.length_cons,h a (by simp),ih fun v hv=>h v (by simp[hv]),Nat.add_mul];omega
  exact this vs hv
 have hf:∀Z:Array Value,Z.size=vs.length*sz→Instr.fill (fun i=>some (i*sz,sz)) Z (dT 0 (vs.map fun v=>Value.agg v.toArray))=some vs.flatten.toArray:=fun Z hZ=>by
  have:=pG vs 0 [] Z.toList hv (by simp) (by simpa using hZ)
  simpa using this
 have hle:¬(vs.length*sz>2^24):=by omega
 have hinfo:(typeInfo e).run P w=.ok i w:=by simp[typeInfo,hi']
 have hsz:(sizeOf e).run P w=.ok sz w:=by simp[sizeOf,hinfo,hs]
 have hzv:(zeroValue e).run P w=.ok z w:=by simp[zeroValue,hinfo,hz0]
 have hpos:0<vs.length*sz:=Nat.mul_pos hn h0
 refine⟨.slice (some ⟨w.heap.size,0,none⟩) vs.length vs.length,w.alloc (.cells vs.flatten.toArray e),?_,aI.new w _,?_,rfl⟩
 ·simp only[Instr.buildSlice,Sem.run_bind,run_underlying ht,Result.andThen_ok,hsz,if_neg hle]
  rw[if_neg (by omega)]
  simp only[Sem.run_bind,Sem.run_pure,Result.andThen_ok,hzv]
  rw[hf _ (by simp[hz,Nat.mul_comm])]
  simp[newRow]
 ·have hg:=heap_alloc_new w (.cells vs.flatten.toArray e)
  refine⟨_,_,_,rfl,Nat.le_refl _,by unfold maxLen;have:vs.length≤vs.length*sz:=Nat.le_mul_of_pos_right _ h0;omega,hfl,fun _=>⟨_,rfl,fun j u hu=>?_⟩,fun h=>by cases h⟩
  rw[Addr.add_mid,Nat.zero_add,cell_of_row _ _ j _ _ _ hg]
  simpa using hu
end Go.Rl
namespace Go.Rl
open Go.RowKit Go.Proofs
section
variable {α:Type} {f:α→Dt} {l:List α} {v x:Value} {w w':World} {e t ty:TypeId} {sz base:Nat}
def fI (e:TypeId) (sz base:Nat) (f:α→Dt) (l:List α) (v:Value) (w:World):Prop:=∃n xs,w.ownsRow base e sz v n xs∧aL (fun k=>k<base∨v.ownBlock=some k) w (l.map f) xs
theorem fI.nil (w:World):fI e sz base f ([]:List α) (.slice none 0 0) w:=⟨0,[],World.ownsRow_nil _ _ _ _,aL.nil⟩
theorem fI.lt (h:fI e sz base f l v w):∀k,v.ownBlock=some k→base≤k∧k<w.heap.size:=fun k hk=>by
 obtain⟨n,xs,h,_⟩:=h
 exact World.ownsRow.lt h k hk
theorem fI.isS (h:fI e sz base f l v w):∃A n c,v=.slice A n c:=by
 obtain⟨n,xs,⟨_,h|⟨g,cap,cur,rfl,_⟩⟩,_⟩:=h
 ·exact⟨_,_,_,h.1⟩
 ·exact⟨_,_,_,rfl⟩
theorem fI.rpx (h:fI e sz base f l v w) (hs:∀a,(f a).size=sz) (h0:0<sz):cK (fun k=>k<base) w (.sl (l.map f)) [v]:=by
 obtain⟨n,xs,h1,h2⟩:=h
 exact cK.ofOwn h1 (h2.weak fun k hk=>.inl (.inl hk)) (by simp[hs]) h0 fun k hk=>Nat.not_lt.2 (World.ownsRow.lt h1 k hk).1
theorem fI.mv {X:Nat→Prop} (h:fI e sz base f l v w) (hm:Mv X w w') (hX:∀k,X k→k<base):fI e sz base f l v w':=by
 obtain⟨n,xs,h1,h2⟩:=h
 refine⟨n,xs,⟨h1.1,?_⟩,aL.mv (hm.weak fun k hk _=>.inl (hX k hk)) (fun k hk=>.inl hk) h2⟩
 rcases h1.2 with h3|⟨g,cap,cur,rfl,h3,h4,h5⟩
 ·exact .inl h3
 ·refine .inr ⟨g,cap,cur,rfl,h3,?_,h5⟩
  rw[hm.keep g (Array.getElem?_eq_some_iff.1 h4).1 fun hx=>by have:=hX g hx;omega]
  exact h4
theorem fI.app {P:Program} {z:Value} {bytes:Nat} (ht:P.underlying t=some (.slice e)) (hi:(P.info? e).map (fun i=>(i.zero,i.size,i.bytes))=some (some z,sz,bytes)) (hzs:z.cells.size=sz) (hsz:0<sz) (hb0:0<bytes)
 (h:fI e sz base f l v w) {a:α} {cs:List Value} (hx:Sl sz cs x w) (h1:aD cs) (ha:cK (fun k=>k<base∨v.ownBlock=some k) w (f a) cs) (hs:∀a,(f a).size=sz) (hb:(l.length+1)*bytes≤140737488355328) (hbase:base≤w.heap.size):
 ∃r w1,(Builtin.append_ #[t,t] ty #[v,x]).run P w=.ok r w1∧fI e sz base f (l++[a]) r w1∧gw w w1 v r:=by
 obtain⟨n,xs,h2,h3⟩:=h
 have hxl:xs.length=l.length*sz:=by rw[h3.len,cJ (sz:=sz) (by simp[hs]),List.length_map]
 have hcl:cs.length=sz:=by rw[ha.len,hs]
 obtain⟨r,w1,n',h4,h5,h6⟩:=mz (P:=P) (ty:=ty) ht hi hzs hsz h2 hx h1 (by
  rw[hxl,hcl,show l.length*sz+sz=(l.length+1)*sz by rw[Nat.add_mul,Nat.one_mul],Nat.mul_right_comm]
  exact Nat.mul_le_mul_right _ hb) hb0 hbase
 refine⟨r,w1,h4,⟨n',_,h5,?_⟩,h6⟩
 have hm:Mv (fun k=>k<base∨v.ownBlock=some k) w w1:=Mv.of_grown h6.grown fun k hk _=>.inr hk
 have hY:∀k,(k<base∨r.ownBlock=some k)→(k<base∨v.ownBlock=some k)∨w.heap.size≤k:=fun k hk=>by
  rcases hk with hk|hk
  ·exact .inl (.inl hk)
  ·rcases h6.own with h7|h7
   ·rw[h7] at hk;exact .inl (.inr hk)
   ·exact .inr (h7 k hk)
 rw[List.map_append]
 exact aL.append (aL.mv hm hY h3) (by simpa using aL.cons (cK.mv hm hY ha) aL.nil)
theorem fI.push {P:Program} {z:Value} {bytes:Nat} (ht:P.underlying t=some (.slice e)) (hi:(P.info? e).map (fun i=>(i.zero,i.size,i.bytes))=some (some z,sz,bytes)) (hzs:z.cells.size=sz) (hsz:0<sz) (hsb:sz≤16777216) (hb0:0<bytes)
 (h:fI e sz base f l v w) {a:α} {cs:List Value} (h1:aD cs) (ha:cK (fun k=>k<base∨v.ownBlock=some k) w (f a) cs) (hs:∀a,(f a).size=sz) (hb:(l.length+1)*bytes≤140737488355328) (hbase:base≤w.heap.size):
 ∃x w0 r w1,(Instr.buildSlice t 1 (dT 0 [Value.agg cs.toArray]).toArray).run P w=.ok x w0∧(Builtin.append_ #[t,t] ty #[v,x]).run P w0=.ok r w1∧fI e sz base f (l++[a]) r w1∧Mv (fun k=>v.ownBlock=some k) w w1∧∀k,r.ownBlock=some k→v.ownBlock=some k∨w.heap.size≤k:=by
 have hcl:cs.length=sz:=by rw[ha.len,hs]
 have hi2:(P.info? e).map (fun i=>(i.zero,i.size))=some (some z,sz):=by
  obtain⟨i,hi',h2⟩:=Option.map_eq_some_iff.1 hi
  simp only[Prod.mk.injEq] at h2
  rw[hi']
  simp[h2.1,h2.2.1]
 obtain⟨x,w0,h3,h4,h5,_⟩:=CN (w:=w) ht hi2 hzs hsz [cs] (by simp[hcl]) (by simp) (by simpa using hsb)
 have h':fI e sz base f l v w0:=by
  obtain⟨n,xs,h6,h7⟩:=h
  exact⟨n,xs,iV h6 h4,h7.ext h4⟩
 obtain⟨r,w1,h6,h7,h8⟩:=h'.app (ty:=ty) ht hi hzs hsz hb0 (by simpa using h5) h1 (ha.ext h4) hs hb (Nat.le_trans hbase h4.size)
 refine⟨x,w0,r,w1,by simpa using h3,h6,h7,(Mv.of_ext h4).trans (Mv.of_grown h8.grown fun k hk _=>hk) fun _ hn _=>hn,fun k hk=>?_⟩
 rcases h8.own with h9|h9
 ·rw[h9] at hk;exact .inl hk
 ·exact .inr (Nat.le_trans h4.size (h9 k hk))
end
end Go.Rl
namespace Go.Rl
open Go.RowKit
section
variable {P:Program} {ops:Array Oper} {Env:World→Prop} {Rl:World→World→Prop} {mo:Bool} {Pn:List PanicEntry→World→Prop} {N:Nat}
def j1 (ops:Array Oper) (n:Nat):Bool:=
 (List.range ops.size).all fun t=>decide (t≤n)||(List.range t).any fun j=>decide (n≤j)&&Region.waitsFor .any ops t j
theorem zy {n:Nat} {listed:Array Bool} (hs:Region.sinkB .any ops n=true) (hc:j1 ops n=true) (inv:HeadInv .any ops n listed):
 ∀(d i:Nat),n-i=d→i<n→listed.getD i true=false→∀t,n≤t→t∉Region.ready .any ops listed:=by
 intro d
 induction d using Nat.strongRecOn with
 |_ d ih=>
  intro i hd hi hun t ht hr
  obtain⟨_,ot,hot,hall⟩:=mem_ready.1 hr
  have htlt:t<ops.size:=(Array.getElem?_eq_some_iff.1 hot).1
  by_cases htn:t=n
  ·subst htn
   have h1:=List.all_eq_true.1 hs i (List.mem_range.2 hi)
   obtain⟨j,hj,hj2⟩:=List.any_eq_true.1 h1
   simp only[Bool.and_eq_true,decide_eq_true_eq] at hj2
   obtain⟨oj,hoj,e,he,hb,hon⟩:=Region.waitsFor_spec hj2.2
   have hjle:j≤t:=by have:=List.mem_range.1 hj;omega
   by_cases hjt:j=t
   ·subst hjt
    have:oj=ot:=Option.some.inj (hoj.symm.trans hot)
    subst this
    have h2:=hall e he hb
    rw[hon,getD_both hun] at h2
    cases h2
   ·cases hl:listed.getD j false with
    |true=>
     have h2:=inv.closed j oj hoj hl e he hb
     rw[hon,getD_both hun] at h2
     cases h2
    |false=>
     have hjs:j<listed.size:=by rw[inv.size];omega
     exact ih (t-j) (by omega) j rfl (by omega) (getD_in hjs hl) t (Nat.le_refl _) hr
  ·have h1:=List.all_eq_true.1 hc t (List.mem_range.2 htlt)
   simp only[Bool.or_eq_true,decide_eq_true_eq] at h1
   rcases h1 with h1|h1
   ·omega
   ·obtain⟨j,hj,hj2⟩:=List.any_eq_true.1 h1
    simp only[Bool.and_eq_true,decide_eq_true_eq] at hj2
    have hjt:=List.mem_range.1 hj
    obtain⟨o',ho',e,he,hb,hon⟩:=Region.waitsFor_spec hj2.2
    have:o'=ot:=Option.some.inj (ho'.symm.trans hot)
    subst this
    have h2:=hall e he hb
    rw[hon,getD_both (inv.tail j hj2.1 (by omega))] at h2
    cases h2
def tQ (o:Oper):Bool:=o.guard.isNone&&o.dst.isSome&&match o.op with|.extract .. |.move _|.assign _=>true|_=>false
theorem En {o:Oper} (h:tQ o=true) (ρ:Operand→Value):(∃v,∀w,(execOp ρ o).run P w=.ok (.value v) w)∨∃x,(∀v,x≠.panic v)∧∀w,(execOp ρ o).run P w=.halt x w:=by
 obtain⟨dst,op,ty,pos,aft,g⟩:=o
 unfold tQ at h
 simp only[Bool.and_eq_true] at h
 have h2:=h.2
 cases op<;>simp only[] at h2
 case move x=>exact .inl ⟨ρ x,fun w=>by simp[execOp]⟩
 case assign x=>exact .inl ⟨ρ x,fun w=>by simp[execOp]⟩
 case extract x n=>
  have e:execOp ρ ⟨dst,.extract x n,ty,pos,aft,g⟩=(do pure (Next.value (←Instr.extract (ρ x) n)):Sem Next):=rfl
  rw[e]
  cases hx:ρ x with
  |tuple vs=>
   cases hv:vs[n]? with
   |some v=>exact .inl ⟨v,fun w=>by simp[Instr.extract,hv]⟩
   |none=>exact .inr ⟨.stuck "Extract: no such component",fun v=>by simp,fun w=>by simp[Instr.extract,hv,stuck,Sem.run]⟩
  |_=>exact .inr ⟨.stuck "Extract: tuple expected",fun v=>by simp,fun w=>by simp[Instr.extract,stuck,Sem.run]⟩
 all_goals cases h2
def oD (ops:Array Oper):List Nat→Array Bool→Bool
 |[],listed=>(Region.ready .any ops listed).isEmpty
 |i::rest,listed=>(decide (Region.ready .any ops listed=[i])||((match ops[i]? with|some o=>tQ o|none=>false)&&Region.free .any ops listed i&&(Region.ready .any ops listed).contains i))&&oD ops rest (listed.setIfInBounds i true)
theorem iS {Q:fe} (hsel:Region.noSelect ops=true):∀(perm:List Nat) (os:List Oper) (listed:Array Bool) (a:Act) (w:World),(perm.map fun i=>ops[i]?)=os.map some→oD ops perm listed=true→wpList P ops (ip Q) os a w→wpAny P .any ops (ip Q) perm.length listed a w
 |[],os,listed,a,w,ho,hB,h=>by
  have:os=[]:=by cases os with|nil=>rfl|cons o os=>simp at ho
  subst this
  exact⟨by simpa [oD] using hB,h⟩
 |i::perm,os,listed,a,w,ho,hB,h=>by
  cases os with
  |nil=>simp at ho
  |cons o os=>
   simp only[List.map_cons,List.cons.injEq] at ho
   obtain⟨h0,ho⟩:=ho
   simp only[oD,Bool.and_eq_true,Bool.or_eq_true,decide_eq_true_eq] at hB
   obtain⟨hB1,hB2⟩:=hB
   have nolet:¬LetsOut (ip Q):=fun⟨_,_,hq⟩=>by obtain⟨hq,_⟩:=hq;cases hq
   rcases hB1 with hr|⟨⟨hq,hf⟩,hr⟩
   ·refine⟨fun h1=>(by rw[hr] at h1;cases h1),fun k hk=>?_⟩
    rw[hr] at hk
    have hik:k=i:=by simpa using hk
    subst hik
    have hw:wpOp P ops (ip Q) k (wpList P ops (ip Q) os) a w:=by unfold wpOp;simp only[h0];exact h
    exact wpOp_mono (fun a' w' h'=>iS hsel perm os _ a' w' ho hB2 h') hw
   ·rw[h0] at hq
    have hq:tQ o=true:=hq
    have hwant:Region.wanted o (yielded ops a.tmps)=true:=by
     unfold tQ at hq
     simp only[Bool.and_eq_true,Option.isNone_iff_eq_none] at hq
     unfold Region.wanted
     rw[hq.1.1]
    unfold wpList at h
    rw[if_pos hwant] at h
    have h:=h.resolve_right fun h=>nolet h.2
    unfold Oper.wp at h
    rcases En (P:=P) hq a.eval with⟨v,hv⟩|⟨x,hx,hv⟩
    ·rw[hv w] at h
     exact wpAny_take h0 hsel hf hr (fun c a w hp=>by obtain⟨hp,_⟩:=hp;cases hp) (.inl ⟨hwant,hv⟩) (iS hsel perm os _ _ w ho hB2 h)
    ·rw[hv w] at h
     cases x<;>first|exact absurd rfl (hx _)|exact h.elim
theorem nY {n i:Nat} {oi:Oper} {S:dC} {L:Array Bool→cn→iN→Prop} (hi:ops[i]? =some oi) (hcalls:mo=true→gh .any ops=true)
 (hs:Region.sinkB .any ops n=true) (hc:j1 ops n=true) (hin:i<n)
 (hdone:∀listed F Z,L listed F Z→∀j∈Region.ready .any ops listed,n≤j):
 ∀(f:Nat) (listed:Array Bool) (F:cn) (Z Z':iN),HeadInv .any ops n listed→
  (∀j oj,ops[j]? =some oj→j≠i→listed.getD j true=false→(∀e∈oj.after,Region.binds .any e=true→e.on≠i)→oi.apart ops oj=true)→
  i∈Region.ready .any ops listed→fD P ops Env Rl mo Pn N F Z oi S Z'→
  gu P .any ops Env Rl mo Pn N n L f (listed.setIfInBounds i true) (iU F oi.dst S) Z'→gu P .any ops Env Rl mo Pn N n L (f+1) listed F Z:=
 jW hi hcalls hin (fun _ inv hun t ht=>zy hs hc inv _ i rfl hin hun t ht) hdone
def ik (ops:Array Oper) (n:Nat) (perm:List Nat):Nat→Nat→Array Bool→Bool
 |0,_,listed=>oD ops perm listed&&(Region.ready .any ops listed).all fun j=>decide (n≤j)
 |f+1,k,listed=>(Region.ready .any ops listed).contains k&&Region.free .any ops listed k&&ik ops n perm f (k+1) (listed.setIfInBounds k true)
theorem rD {n:Nat} {perm:List Nat} {Lq:cn→iN→Prop} (hcalls:mo=true→gh .any ops=true) (hs:Region.sinkB .any ops n=true) (hc:j1 ops n=true):
 ∀(l:List Oper) (k:Nat) (listed:Array Bool) (F:cn) (Z:iN),(∀j,j<l.length→l[j]? =ops[k+j]?)→k+l.length=n→HeadInv .any ops n listed→
 ik ops n perm l.length k listed=true→(∀t,bT Rl (F t))→cE Z→fg P ops Env Rl mo Pn N l F Z Lq→
 gu P .any ops Env Rl mo Pn N n (fun listed' F' Z'=>(oD ops perm listed'=true∧(Region.ready .any ops listed').all (fun j=>decide (n≤j))=true)∧Lq F' Z') l.length listed F Z
 |[],k,listed,F,Z,_,hk,_,hB,_,_,h=>by
  simp only[List.length_nil,ik,Bool.and_eq_true] at hB
  exact⟨hB,h⟩
 |o::l,k,listed,F,Z,hl,hk,inv,hB,hF,hZ,h=>by
  have h0:ops[k]? =some o:=by simpa using(hl 0 (by simp)).symm
  simp only[List.length_cons,ik,Bool.and_eq_true] at hB
  obtain⟨⟨hr,hf⟩,hB'⟩:=hB
  have hkn:k<n:=by simp only[List.length_cons] at hk;omega
  have hr':k∈Region.ready .any ops listed:=by simpa using hr
  obtain⟨S,Z',hspec,hrest⟩:=h hF hZ
  exact nY h0 hcalls hs hc hkn (fun listed' F' Z' hL j hj=>by simpa using List.all_eq_true.1 hL.1.2 j hj) l.length listed F Z Z' inv (Region.free_spec h0 hf) hr' hspec
   (rD hcalls hs hc l (k+1) _ _ _ (fun j hj=>by have:=hl (j+1) (by simp;omega);simpa [Nat.add_assoc,Nat.add_comm 1 j] using this) (by simp only[List.length_cons] at hk;omega) (inv.set hr' hkn) hB' (iy hF hspec.stable) (hspec.zst hZ) hrest)
def CO (ops:Array Oper) (n:Nat) (perm:List Nat):Bool:=
 Region.noSelect ops&&decide (n<ops.size)&&Region.sinkB .any ops n&&j1 ops n&&decide (n+perm.length=ops.size)&&ik ops n perm n 0 (Array.replicate ops.size false)
def qL (os:List Oper):List Nat→List Oper
 |[]=>[]
 |i::is=>match os[i]? with|some o=>o::qL os is|none=>qL os is
theorem xI {Q:fe} {a:Act} {D:List Deferred} {F:cn} {Z:iN} {w:World} {l:List Oper} {n:Nat} {perm:List Nat} (hE:fC Env Rl) (hP:∀c w,¬Pn c w) (hcalls:mo=true→gh .any l.toArray=true) (hB:CO l.toArray n perm=true) (hp:(perm.all fun i=>decide (i<l.length))=true)
 (hF:∀t,bT Rl (F t)) (hZ:cE Z) (hz:Z w) (he:Env w) (hsat:uR N D F a {w with drawn:=w.drawn+1})
 (h:fg P l.toArray Env Rl mo Pn N (l.take n) F Z (fun F Z=>∀a' w',Env w'→uR N D F a' w'→Z w'→wpList P l.toArray (ip Q) (qL l perm) a' w')):wpAny P .any l.toArray (ip Q) l.toArray.size (Array.replicate l.toArray.size false) a {w with drawn:=w.drawn+1}:=by
 have hdr:aI w {w with drawn:=w.drawn+1}:=⟨rfl,rfl,rfl,Nat.le_refl _,fun _ _=>rfl⟩
 simp only[CO,Bool.and_eq_true,decide_eq_true_eq] at hB
 obtain⟨⟨⟨⟨⟨hsel,hn⟩,hs⟩,hc⟩,hlen⟩,hlex⟩:=hB
 have hn':n<l.length:=by simpa using hn
 have htl:(l.take n).length=n:=by simp;omega
 have inv0:HeadInv .any l.toArray n (Array.replicate l.toArray.size false):=
  ⟨by simp,fun j oj _ hl=>(by rw[getD_replicate_false] at hl;cases hl),fun t _ ht=>getD_in (by simpa using ht) (getD_replicate_false _ _)⟩
 have H:=rD (perm:=perm) hcalls hs hc (l.take n) 0 _ _ _ (fun j hj=>by
  have hj':j<n:=by rw[htl] at hj;exact hj
  simp[hj']) (by simpa using htl) inv0 (by rw[htl];exact hlex) hF hZ h
 have hpick:∀(perm:List Nat),(perm.all fun i=>decide (i<l.length))=true→(perm.map fun i=>l.toArray[i]?)=(qL l perm).map some:=by
  intro perm
  induction perm with
  |nil=>intro _;rfl
  |cons i is ih=>
   intro hp
   simp only[List.all_cons,Bool.and_eq_true,decide_eq_true_eq] at hp
   have e:l[i]? =some l[i]:=List.getElem?_eq_getElem hp.1
   simp only[List.map_cons,qL,e,List.getElem?_toArray]
   rw[←ih hp.2]
   simp
 have:=fi (D:=D) (Q':=ip Q) (l0:=[]) (g:=perm.length) hE (fun c _ w _ _ _ h=>absurd h (hP c w)) (fun _ _ _ _ _ _ _ hp=>by cases hp) (fun listed F Z hL hF hZ a' w' he hsat hz=>iS hsel perm (qL l perm) listed a' w' (hpick perm hp) hL.1.1 (hL.2 a' w' he hsat hz)) _ _ _ _ H hF hZ a {w with drawn:=w.drawn+1} (hE.keep _ _ he (hE.ext _ _ hdr)) hsat (fun _ hp=>by cases hp) (hZ _ _ hz hdr)
 rw[htl,hlen] at this
 exact this
theorem Gq {D:List Deferred} {l:Fr} {a:Act} {w:World} (ha:At N D l a):uR N D (pi l) a w:=⟨ha.size,ha.defers,fun t=>by
 show pi l t (a.tmps.getD t undef) _
 unfold pi
 cases hv:lk l t with
 |some v=>exact ha.at_ t v hv
 |none=>trivial⟩
theorem Gr {Q:fe} {D:List Deferred} {l:Fr} {w:World} {id:Nat} {os:List Oper} (n:Nat) (perm:List Nat) (ts:List Nat) (Env:World→Prop) (Rl:World→World→Prop) (mo:Bool) (Z:iN) (hE:fC Env Rl) (he:Env w) (hZ:cE Z) (hz:Z w) (hcalls:mo=true→gh .any os.toArray=true) (hm:P.follows .mixedOrders=true) (hB:CO os.toArray n perm=true) (hp:(perm.all fun i=>decide (i<os.length))=true)
 (h:fg P os.toArray Env Rl mo HB N (os.take n) (pi l) Z (fun F Z=>∀w',Env w'→Z w'→gK F w' ts (fun l'=>bW P os.toArray (ip Q) N D l' w' (qL os perm)))):cM P Q N D l w (.region id os.toArray true):=fun a ha=>by
 refine wp_mono (wp_region_any (Q:=ip Q) hm (xI (D:=D) hE (fun _ _ h=>h) hcalls hB hp (eV l) hZ hz he (Gq ha) (gZ _ _ _ (fun F Z hK a' w' he hs hz=>?_) h))) fun e a w he=>by obtain⟨rfl,h⟩:=he;exact h
 obtain⟨l',hl',hk⟩:=gK.use hs (hK w' he hz)
 exact hk a' hl'
theorem H0 {Q:fe} {D:List Deferred} {l:Fr} {w:World} {id:Nat} {os:List Oper} (n:Nat) (perm:List Nat) (ts:List Nat) (hm:P.follows .mixedOrders=true) (hB:CO os.toArray n perm=true) (hp:(perm.all fun i=>decide (i<os.length))=true)
 (h:fg P os.toArray (aI w) aI false HB N (os.take n) (pi l) (fun _=>True) (fun F _=>∀w',aI w w'→gK F w' ts (fun l'=>bW P os.toArray (ip Q) N D l' w' (qL os perm)))):cM P Q N D l w (.region id os.toArray true):=
 Gr n perm ts (aI w) aI false (fun _=>True) (fC.plain w) (aI.refl w) cE.triv trivial (fun h=>by cases h) hm hB hp (gZ _ _ _ (fun _ _ h w' he _=>h w' he) h)
theorem xJ {Q:fe} {D:List Deferred} {l:Fr} {w:World} (h:fN Q N D l w):fN (ip Q) N D l w:=fun a ha=>⟨rfl,h a ha⟩
theorem tR {Q:fe}:¬LetsOut (ip Q):=fun⟨_,_,hq⟩=>by
 obtain⟨hq,_⟩:=hq
 cases hq
theorem I.Ji {Q:fe} {D:List Deferred} {l:Fr} {w:World} {rd:Option Nat} {id:Nat} {os:List Oper} (S:World→Prop) (n:Nat) (hn:os.toArray.size=n) (hm:P.follows .mixedOrders=true) (hd:kZ os=true)
 (h:fG P os.toArray Q N D S n (Array.replicate n false) l w.drew):eP rd P Q N D l w (.region id os.toArray true):=fun a ha=>by
 subst hn
 refine wpIn_mono (wpIn_region_draw (Q:=ip Q) fun t=>pp tR (.inr hd) _ _ _ ?_) fun e a w he=>by obtain⟨rfl,h⟩:=he;exact h
 simp only[Region.schedule,hm,Bool.true_or,if_true]
 exact wpAny_sound os.toArray.size t _ a _ (wpAny_of_held _ _ _ _ (h a ha))
end
end Go.Rl
namespace Go.Rl
open Go.RowKit
def lB (T:Value→World→Prop) (Pn:List PanicEntry→World→Prop):Ending→World→Prop:=fun e w'=>(∃v,e=.returned v∧T v w')∨∃c,e=.panicked c∧Pn c w'
theorem lB.mono {P:Program} {f:FuncId} {args:Array Value} {w:World} {T T':Value→World→Prop} {Pn Pn':List PanicEntry→World→Prop} (h:Calls P f args w (lB T Pn)) (hT:∀v w',T v w'→T' v w') (hP:∀c w',Pn c w'→Pn' c w'):Calls P f args w (lB T' Pn'):=
 Calls.mono h fun _ _ he=>he.imp (fun⟨v,h,hv⟩=>⟨v,h,hT _ _ hv⟩) fun⟨c,h,hc⟩=>⟨c,h,hP _ _ hc⟩
section
variable {P:Program} {ops:Array Oper} {Q:fe} {N:Nat} {D:List Deferred} {l:Fr} {w:World} {rest:List Oper} {d:Nat} {ty:TypeId} {pos:String} {aft:Array Edge}
theorem jk {f:FuncId} {xs:List Operand} {vs:List Value} {ts:Array TypeId} {T:Value→World→Prop} {Pn:List PanicEntry→World→Prop} (hf:ay P f) (hp:sJ l xs=some vs) (hd:Nat.blt d N=true) (hc:Calls P f vs.toArray w (lB T Pn))
 (hP:∀c a w',At N D l a→Pn c w'→Q (.panic c) a w')
 (k:∀v w',T v w'→bW P ops Q N D ((d,v)::l) w' rest):bW P ops Q N D l w (⟨some d,.call {callee:=.value (.func f),args:=xs.toArray,argTypes:=ts},ty,pos,aft,none⟩::rest):=fun a ha=>by
 have hr:(execOp a.eval ⟨some d,.call {callee:=.value (.func f),args:=xs.toArray,argTypes:=ts},ty,pos,aft,none⟩).run P w=.ok (.enter f vs.toArray) w:=by
  have hρ:nS l a.eval:=fun x v hx=>ha.ev hx
  simp only[execOp,resolve,List.map_toArray,iz hρ hp,Act.eval,Deferred.ofValue,Sem.run_bind,Sem.run_pure,Result.andThen_ok,invoke,Array.append_empty,eN hf,Array.empty_append]
 unfold wpList
 rw[if_pos (by rfl)]
 refine .inl ?_
 unfold Oper.wp
 rw[hr]
 refine hc.mono ?_
 rintro e w' (⟨v,rfl,hv⟩|⟨c,rfl,hp⟩)
 ·exact k v w' hv _ (ha.put hd v)
 ·exact hP c a w' ha hp
theorem sw {x:Operand} {u:TypeId} {v:Value} (hx:ev l x=some (.iface u v)) (hP:∀a,At N D l a→Q (.panic [{v:=.iface u v,recovered:=false}]) a w):bW P ops Q N D l w (⟨none,.panic x,ty,pos,aft,none⟩::rest):=fun a ha=>by
 have hr:(execOp a.eval ⟨none,.panic x,ty,pos,aft,none⟩).run P w=.halt (.panic (.iface u v)) w:=by
  have e:a.eval x=.iface u v:=ha.ev hx
  simp[execOp,e,Instr.panic,goPanic,Sem.run]
 unfold wpList
 rw[if_pos (by rfl)]
 refine .inl ?_
 unfold Oper.wp
 rw[hr]
 exact hP a ha
theorem jR {t:TypeId} {x:Operand} {u r:Value} (hx:ev l x=some u) (hd:Nat.blt d N=true) (hrun:(Instr.makeInterface t u).run P w=.ok r w)
 (k:bW P ops Q N D ((d,r)::l) w rest):bW P ops Q N D l w (⟨some d,.makeInterface t x,ty,pos,aft,none⟩::rest):=wR (f:=Instr.makeInterface t) (fun _=>rfl) hx hd hrun k
end
end Go.Rl
namespace Go.Rl
open Go.RowKit Go.Proofs
def CP (l:List Value) (o:Nat) (m:List Value):List Value:=l.take o++m++l.drop (o+m.length)
section
variable {P:Program} {w w1 w':World} {T TB t:TypeId} {g gB i o:Nat} {l m cs:List Value} {v:Value} {st s1:Option (List UInt8)}
theorem cd.stO (h:cd g T l w) (o:Nat) (hl:o+m.length≤l.length) (hi:(P.info? t).map (·.size)=some m.length) (h1:aD m):
 ∃w',(Instr.storeAt t (.pointer (some ⟨g,o,none⟩)) (.agg m.toArray)).run P w=.ok () w'∧w.grownBy w' (some g)∧cd g T (CP l o m) w':=by
 have h':w.heap[g]? =some (.cells l.toArray T (0,0)):=h
 have hr:=run_storeCells_at (P:=P) g o T m 0 l.toArray w h' (by simpa using hl) h1
 refine⟨_,?_,bp w g _,h.row (CP l o m)⟩
 simp only[Instr.storeAt,Instr.sureAddr,storeVar,Sem.run_bind,Sem.run_pure,Result.andThen_ok,dJ hi]
 rw[if_neg (by simp[Value.cells])]
 simpa [CP,Value.cells] using hr
theorem dS.put (hB:cd gB TB cs w) (hg:w.grownBy w1 (some g)) (hr:dS T g s1 w1) (hne:g<gB) {i:Nat} (hs:(P.info? t).map (·.size)=some 1) (hv:v.oneCell'=true) (hi:i<cs.length):
 ∃w2,(Instr.storeAt t (.pointer (some ⟨gB,i,none⟩)) v).run P w1=.ok () w2∧Mv (fun k=>k=g∨k=gB) w w2∧cd gB TB (cs.set i v) w2∧dS T g s1 w2∧w1.grownBy w2 (some gB):=by
 have h1:=hB.other hg (fun e=>by have:=Option.some.inj e;omega)
 obtain⟨w2,h2,h3,h4⟩:=h1.stC (P:=P) (t:=t) (i:=i) (v:=v) hs hv hi
 have m2:Mv (fun k=>k=gB) w1 w2:=Mv.of_grown h3 fun k hk _=>(Option.some.inj hk).symm
 exact⟨w2,h2,(Mv.of_grown hg fun k hk _=>.inl (Option.some.inj hk).symm).trans m2 fun _ hn _=>.inr hn,h4,hr.mv m2 fun k hk=>by omega,h3⟩
theorem dS.putO (hB:cd gB TB cs w) (hg:w.grownBy w1 (some g)) (hr:dS T g s1 w1) (hne:g<gB) (o:Nat) (hl:o+m.length≤cs.length) (hi:(P.info? t).map (·.size)=some m.length) (h1:aD m):
 ∃w2,(Instr.storeAt t (.pointer (some ⟨gB,o,none⟩)) (.agg m.toArray)).run P w1=.ok () w2∧Mv (fun k=>k=g∨k=gB) w w2∧cd gB TB (CP cs o m) w2∧dS T g s1 w2∧w1.grownBy w2 (some gB):=by
 have hB1:=hB.other hg (fun e=>by have:=Option.some.inj e;omega)
 obtain⟨w2,h2,h3,h4⟩:=hB1.stO (P:=P) (t:=t) o hl hi h1
 have m2:Mv (fun k=>k=gB) w1 w2:=Mv.of_grown h3 fun k hk _=>(Option.some.inj hk).symm
 exact⟨w2,h2,(Mv.of_grown hg fun k hk _=>.inl (Option.some.inj hk).symm).trans m2 fun _ hn _=>.inr hn,h4,hr.mv m2 fun k hk=>by omega,h3⟩
end
end Go.Rl
namespace Go.Rl
open Go.RowKit Go.Proofs
theorem tS:(Tryz.prog.info? 4).map (·.size)=some 1:=by kernel_rfl
theorem om.rpx {w:World} {b:Nat} {l:List UInt32} {v:Value} (h:bo l v w) (hn:om b v):cK (fun k=>k<b) w (jC l) [v]:=by
 have h':Rp w (jC l) [v]:=Rp.wds.2 h
 unfold jC at h'⊢
 simp only[Rp] at h'
 obtain⟨A,n,c,hv,h2,h3,h4,h5,h6⟩:=h'
 obtain rfl:v=.slice A n c:=by simpa using hv
 simp only[cK]
 refine⟨A,n,c,rfl,h2,h3,h4,h5,fun hp=>?_⟩
 obtain⟨ad,xs,rfl,h8,h9⟩:=h6 hp
 refine⟨ad,xs,rfl,fun _ hb=>?_,h8,?_⟩
 ·have:=hn ad.block rfl
  omega
 ·have:∀(l:List UInt32) (ys:List Value),bw w (l.map uS) ys→aL (fun k=>k<b) w (l.map uS) ys:=by
   intro l
   induction l with
   |nil=>intro ys h;simpa only[List.map_nil,bw,aL] using h
   |cons a l ih=>
    intro ys h
    simp only[List.map_cons,bw,aL] at h⊢
    obtain⟨c1,c2,h1,h2,h3⟩:=h
    exact⟨c1,c2,h1,by simpa only[uS,Rp,cK] using h2,ih _ h3⟩
  exact this l xs h9
theorem om.rpx' {w:World} {b:Nat} {l:List UInt32} {v:Value} (hn:om b v) (h:bo l v w):cK (fun k=>k<b) w (jC l) [v]:=om.rpx h hn
theorem fC.mv (X:Nat→Prop) (w:World):fC (Mv X w) (Mv X):=⟨fun _ _ h=>Mv.of_ext h,fun _ _ h k=>h.trans k fun _ hn _=>hn⟩
theorem cK.isS {X:Nat→Prop} {w:World} {l:List Dt} {v:Value} (h:cK X w (.sl l) [v]):∃A n c,v=.slice A n c:=by
 simp only[cK] at h
 obtain⟨A,n,c,hv,_⟩:=h
 exact⟨A,n,c,by simpa using hv⟩
theorem lC {X:Nat→Prop} {w:World} (n:Int):cK X w (sq n) [I n]:=by simp only[sq,cK,I]
end Go.Rl
namespace Go.Rl
open Go.RowKit Go.Proofs
theorem tT:ay Tryz.prog 151:=⟨_,Tryz.func151,by kernel_rfl,rfl⟩
theorem Eo:ay Tryz.prog 131:=⟨_,Tryz.func131,by kernel_rfl,rfl⟩
theorem rE:ay Tryz.prog 154:=⟨_,Tryz.func154,by kernel_rfl,rfl⟩
theorem tW:ay Tryz.prog 116:=⟨_,Tryz.func116,by kernel_rfl,rfl⟩
theorem zz:ay Tryz.prog 57:=⟨_,Tryz.func57,by kernel_rfl,rfl⟩
def RX (g:Nat):Nat→Prop:=fun k=>k=g
abbrev dH (st:Option (List UInt8)):Prop:=yB 549755813888 st
theorem xK (st:Option (List UInt8)):∃n s1,eE db st n s1∧n<18446744073709551616∧∀{w:World} {g:Nat},ci g st w→Calls Tryz.prog 25 #[.pointer (some ⟨g,0,none⟩)] w (bE fun r w'=>w.grownBy w' (some g)∧r=.tuple #[bj (UInt64.ofNat n),I (if s1.isSome=true then 0 else 5)]∧ci g s1 w'):=by
 cases hU:st.bind db with
 |none=>exact⟨0,none,hU,by omega,fun hr=>ox hr hU⟩
 |some p=>
  obtain⟨n,t⟩:=p
  refine⟨n,some t,hU,?_,fun hr=>oy hr hU⟩
  cases st with
  |none=>cases hU
  |some l=>exact(ee (show db l=some (n,t) from hU)).2
theorem oF (st:Option (List UInt8)):∃n s1,eE mm st n s1∧nE n∧∀{w:World} {g:Nat},ci g st w→Calls Tryz.prog 152 #[.pointer (some ⟨g,0,none⟩)] w (bE fun r w'=>w.grownBy w' (some g)∧r=.tuple #[I n,I (if s1.isSome=true then 0 else 5)]∧ci g s1 w'):=by
 cases hU:st.bind db with
 |none=>
  refine⟨0,none,?_,by unfold nE;omega,fun hr=>bE.mono (vF hr) fun r w' h=>by rw[hU] at h;exact h⟩
  cases st with
  |none=>rfl
  |some l=>show(db l).map _=none;rw[show db l=none from hU];rfl
 |some p=>
  obtain⟨n,t⟩:=p
  have hI:eE mm st (uz n) (some t):=by
   cases st with
   |none=>cases hU
   |some l=>show(db l).map _=_;rw[show db l=some (n,t) from hU];rfl
  exact⟨uz n,some t,hI,xD hI,fun hr=>bE.mono (vF hr) fun r w' h=>by rw[hU] at h;exact h⟩
theorem Bh {w:World} {g:Nat} {st:Option (List UInt8)} (hr:ci g st w) (hl:dH st):
 Calls Tryz.prog 153 #[.pointer (some ⟨g,0,none⟩)] w (bE fun r w'=>w.grownBy w' (some g)∧∃(q:fQ) (x y:Value) (s1:Option (List UInt8)),r=.tuple #[.agg #[B q.1,x,y],I (if s1.isSome=true then 0 else 5)]∧bo q.2.1 x w'∧bo q.2.2 y w'∧cK (fun k=>k<w.heap.size) w' (gi q) [B q.1,x,y]∧ci g s1 w'∧eE j6 st q s1):=by
 refine bE.mono (Bd hr hl) fun r w' hR=>⟨hR.1,?_⟩
 have h2:=hR.2
 have key:∀{q:fQ} {x y:Value},cK (fun k=>k<w.heap.size) w' (jC q.2.1) [x]→cK (fun k=>k<w.heap.size) w' (jC q.2.2) [y]→cK (fun k=>k<w.heap.size) w' (gi q) [B q.1,x,y]:=fun {q x y} h1 h2=>by
  simp only[gi,cK]
  exact aL.cons (a:=[B q.1]) (by simp only[cK,B]) (aL.cons h1 (aL.cons (b:=[]) h2 aL.nil))
 cases hq:st.bind j6 with
 |none=>
  rw[hq] at h2
  obtain⟨v,h3,⟨x,y,rfl,hx,hy⟩,h4⟩:=h2
  have hn:∀{z:Value},bo [] z w'→cK (fun k=>k<w.heap.size) w' (jC []) [z]:=fun {z} hz=>by
   obtain⟨A,n,c,rfl,h5,h6,h7,h8,h9⟩:=hz
   simp only[jC,List.map_nil,cK]
   have:n=0:=by simp at h7;omega
   subst this
   exact⟨A,0,c,rfl,rfl,h5,h6,h9,fun h=>by omega⟩
  exact⟨(false,[],[]),x,y,none,h3,hx,hy,key (hn hx) (hn hy),h4,hq⟩
 |some p=>
  obtain⟨q,t⟩:=p
  rw[hq] at h2
  obtain⟨x,y,h3,hx,hy,h4,n1,n2⟩:=h2
  exact⟨q,x,y,some t,h3,hx,hy,key (om.rpx hx n1) (om.rpx hy n2),h4,hq⟩
theorem Kl {n m:Nat} (hn:n<18446744073709551616) (hm:m<18446744073709551616):UInt64.ofNat n≤UInt64.ofNat m↔n≤m:=by
 rw[UInt64.le_iff_toNat_le,UInt64.toNat_ofNat',UInt64.toNat_ofNat']
 omega
theorem Bi {w:World} {g n most:Nat} {st s1:Option (List UInt8)} (hn:n<18446744073709551616) (hm:most<18446744073709551616) (hr:ci g st w)
 (hc:Calls Tryz.prog 25 #[.pointer (some ⟨g,0,none⟩)] w (bE fun r w'=>w.grownBy w' (some g)∧r=.tuple #[bj (UInt64.ofNat n),I (if s1.isSome=true then 0 else 5)]∧ci g s1 w')):
 Calls Tryz.prog 151 #[.pointer (some ⟨g,0,none⟩),bj (UInt64.ofNat most)] w (bE fun r w'=>w.grownBy w' (some g)∧r=.tuple #[bj (UInt64.ofNat n),B (s1.isSome&&decide (n≤most))]∧ci g s1 w'):=by
 refine enter (vs:=[.pointer (some ⟨g,0,none⟩),bj (UInt64.ofNat most)]) Tryz.func151 Ll Ll Ll ?_
 refine af (aa (ac Ll Ll (ac Ll Ll (ag (ab (af (aa (ae Ll Ll (an cI Ll Ll (hc) ?_)))))))))
 rintro v10 w10 ⟨g10,rfl,hr1⟩
 have m10:=dS.kp hr g10
 refine ae Ll Ll (ak Ll Ll (aT) (ak Ll Ll (aU) (ac Ll Ll (ac Ll Ll (ag (ab (af ?_)))))))
 rcases s1 with _|t
 rotate_left
 by_cases hnm:n≤most
 ·refine aa (ae Ll Ll (ae Ll Ll (ai Ll Ll Ll (cg Ll aZ) (ae Ll Ll (al Ll (ae Ll Ll (al Ll (ae Ll Ll (al Ll (ai Ll Ll Ll (cg ((Kl hn hm).2 hnm) u6) ?_))))))))))
  refine aw Ll Ll Ll (ac Ll Ll (ac Ll Ll (ag (ab (av (aM Ll Ll Ll ?_))))))
  exact⟨_,rfl,g10,by rw[decide_eq_true hnm];rfl,hr1⟩
 ·refine aa (ae Ll Ll (ae Ll Ll (ai Ll Ll Ll (cg Ll aZ) (ae Ll Ll (al Ll (ae Ll Ll (al Ll (ae Ll Ll (al Ll (ai Ll Ll Ll (cf (mt (Kl hn hm).1 hnm) u6) ?_))))))))))
  refine aw Ll Ll Ll (ac Ll Ll (ac Ll Ll (ag (ab (av (aM Ll Ll Ll ?_))))))
  exact⟨_,rfl,g10,by rw[decide_eq_false hnm];rfl,hr1⟩
 ·refine aa (ae Ll Ll (ae Ll Ll (ai Ll Ll Ll (cf (by simp) aZ) (ae Ll Ll (ao Ll Ll Ll (ao Ll Ll Ll (ao Ll Ll Ll (aC Ll Ll Ll ?_))))))))
  refine ac Ll Ll (ac Ll Ll (ag (ab (av (aM Ll Ll Ll ?_)))))
  exact⟨_,rfl,g10,rfl,hr1⟩
theorem vM (st:Option (List UInt8)) {most:Nat} (hm:most<18446744073709551616):∃(n:Nat) (s1:Option (List UInt8)) (ok:Bool),(ok=true→eE (pC most) st n s1∧s1≠none)∧(ok=false→st.bind (pC most)=none)∧n<18446744073709551616∧(∀k,yB k st→yB k s1)∧∀{w:World} {g:Nat},ci g st w→
 Calls Tryz.prog 151 #[.pointer (some ⟨g,0,none⟩),bj (UInt64.ofNat most)] w (bE fun r w'=>w.grownBy w' (some g)∧r=.tuple #[bj (UInt64.ofNat n),B ok]∧ci g s1 w'):=by
 obtain⟨n,s1,h1,h2,h3⟩:=xK st
 refine⟨n,s1,s1.isSome&&decide (n≤most),fun h=>?_,fun h=>?_,h2,fun k hk=>h1.atM jc.le hk,fun hr=>Bi h2 hm hr (h3 hr)⟩
 ·simp only[Bool.and_eq_true,decide_eq_true_eq] at h
  exact⟨Bf h1 h.2,fun e=>by rw[e] at h;cases h.1⟩
 ·rcases Nat.lt_or_ge most n with hn|hn
  ·exact Gn h1 (by omega)
  ·rw[decide_eq_true hn,Bool.and_true] at h
   have:s1=none:=by cases s1 with|none=>rfl|some t=>cases h
   subst this
   exact(Bf h1 hn)
theorem tX {X:Nat→Prop} {w:World} {d:ew} {x y:Value} (h:cK X w (gi d.at_) [B d.at_.1,x,y]):cK X w (gD d) [I d.kd,I d.ix,B d.at_.1,x,y]:=by
 unfold gD
 simp only[cK.eq_5]
 exact aL.cons (a:=[I d.kd]) (lC _) (aL.cons (a:=[I d.ix]) (lC _) (aL.cons (b:=[]) h aL.nil))
theorem Gs {P:Program} {w:World} {t:TypeId} {x y:Operand} {s:Option (List UInt8)}:(bin .eql t x y (I (if s.isSome=true then 0 else 5)) (I 0)).run P w=.ok (B s.isSome) w:=by
 cases s<;>exact aZ
theorem Ep {w:World} {g:Nat} {st:Option (List UInt8)} (hr:ci g st w) (hl:dH st):
 Calls Tryz.prog 131 #[.pointer (some ⟨g,0,none⟩)] w (bE fun r w'=>Mv (RX g) w w'∧∃(d:ew) (x y:Value) (s1:Option (List UInt8)),r=.tuple #[.agg #[I d.kd,I d.ix,B d.at_.1,x,y],B s1.isSome]∧cK (fun k=>k<w.heap.size) w' (gD d) [I d.kd,I d.ix,B d.at_.1,x,y]∧x.oneCell'=true∧y.oneCell'=true∧ci g s1 w'∧eE xG st d s1):=by
 refine enter (vs:=[.pointer (some ⟨g,0,none⟩)]) Tryz.func131 Ll Ll Ll ?_
 have hlt:=ci.lt hr
 obtain⟨n1,s1,q1,i1,c1⟩:=oF st
 obtain⟨n2,s2,q2,i2,c2⟩:=oF s1
 refine af (aa ?_)
 obtain⟨g2,w2,hr2,l2,x2,k2⟩:=be (P:=Tryz.prog) (w:=w) (t:=80) (z:=.agg #[I 0,I 0,B false,.slice none 0 0,.slice none 0 0]) (l:=[I 0,I 0,B false,.slice none 0 0,.slice none 0 0]) (by kernel_rfl) rfl
 refine bf Ll hr2 (ac Ll Ll (ag (ab (af (aa ?_)))))
 obtain⟨g4,w4,hr4,l4,x4,k4⟩:=be (P:=Tryz.prog) (w:=w2) (t:=80) (z:=.agg #[I 0,I 0,B false,.slice none 0 0,.slice none 0 0]) (l:=[I 0,I 0,B false,.slice none 0 0,.slice none 0 0]) (by kernel_rfl) rfl
 refine bf Ll hr4 ?_
 have hr4:=ci.ext hr (x2.trans x4)
 have g42:g2<g4:=by have:=k2.lt;omega
 have hg4:g<g4:=by have:=x2.size;omega
 have lt4:=k4.lt
 have sz4:=((x2.trans x4)).size
 have k24:=k2.ext x4
 refine ag (ab (af (aa (ae Ll Ll (an iI Ll Ll ((c1 hr4)) ?_)))))
 rintro v9 w9 ⟨g9,rfl,hr9⟩
 have m9:=dS.kp hr4 g9
 obtain⟨wa,sa,ma,ka,ra,_⟩:=dS.put (P:=Tryz.prog) (t:=3) (v:=I n1) k4 g9 hr9 hg4 (i:=0) dD rfl (by simp)
 refine ae Ll Ll (ak Ll Ll (aT) (ak Ll Ll aU ?_))
 refine ah Ll Ll (aF (o:=0) KT Ll (by kernel_rfl) Ll) ?_
 refine aq Ll Ll sa ?_
 refine ag (ab (af (aa (ae Ll Ll (an iI Ll Ll ((c2 ra)) ?_)))))
 rintro v15 w15 ⟨g15,rfl,hr15⟩
 have m15:=dS.kp ra g15
 obtain⟨wb,sb,mb,kb,rb,_⟩:=dS.put (P:=Tryz.prog) (t:=3) (v:=I n2) ka g15 hr15 hg4 (i:=1) dD rfl (by simp)
 refine ae Ll Ll (ak Ll Ll (aT) (ak Ll Ll aU ?_))
 refine ah Ll Ll (aF (o:=1) KT Ll (by kernel_rfl) Ll) ?_
 refine aq Ll Ll sb ?_
 refine ag (ab (af (aa (ae Ll Ll (an qE Ll Ll ((Bh rb (q2.atM dI.le (q1.atM dI.le hl)))) ?_)))))
 rintro v21 w21 ⟨g21,q,x,y,s3,rfl,hx,hy,rq,hr21,q3⟩
 have m21:=dS.kp rb g21
 refine ae Ll Ll (ak Ll Ll (aT) (ak Ll Ll (aU) ?_))
 obtain⟨g5,w5,hr5,l5,x5,k5⟩:=be (P:=Tryz.prog) (w:=w21) (t:=55) (z:=.agg #[B false,.slice none 0 0,.slice none 0 0]) (l:=[B false,.slice none 0 0,.slice none 0 0]) (by kernel_rfl) rfl
 refine bf Ll hr5 ?_
 obtain⟨w4_6,s4_6,q4_6,k4_6⟩:=k5.stS (P:=Tryz.prog) (t:=55) (m:=[B q.1,x,y]) rfl (by kernel_rfl) (aD.cons rfl (aD.cons hx.one (aD.cons hy.one aD.nil)))
 refine aq Ll Ll s4_6 ?_
 have x4_6:=aI.of_new (x5) q4_6 l5
 refine ac Ll Ll (ag (ab (af (aa (am Ll Ll (k4_6.ld KP Ll (by kernel_rfl)) (ah Ll Ll (aF (o:=2) KT Ll (by kernel_rfl) Ll) ?_))))))
 have ex:=x4_6
 obtain⟨wc,sc,mc,kc,rc,qc⟩:=dS.putO (P:=Tryz.prog) (t:=55) (m:=[B q.1,x,y]) kb (g21.trans (dE ex)) (ci.ext hr21 ex) hg4 2 (by simp) (by kernel_rfl) (aD.cons rfl (aD.cons hx.one (aD.cons hy.one aD.nil)))
 have lb:w4.heap.size≤wb.heap.size:=Nat.le_trans ma.size mb.size
 have rqc:=rq.mv ((Mv.of_ext ex).trans (Mv.of_grown qc fun k hk _=>by obtain rfl:=Option.some.inj hk;show g4<wb.heap.size;omega) fun _ hn _=>hn) fun _ hk=>.inl hk
 refine aq Ll Ll sc ?_
 have mT:Mv (fun k=>k=g∨k=g4) w4 wc:=(ma.trans mb fun _ hn _=>hn).trans mc fun _ hn _=>hn
 have k2c:=mT.blk k24 (by rintro(h|h)<;>omega)
 have kc:cd g4 80 [I n1,I n2,B q.1,x,y] wc:=kc
 refine ag (ab (af (aa (am Ll Ll (kc.ld KT Ll (by kernel_rfl)) (ae Ll Ll (ai (r:=B s3.isSome) Ll Ll Ll (Gs) ?_))))))
 obtain⟨wd,sd,qd,kd⟩:=k2c.stS (P:=Tryz.prog) (t:=80) (m:=[I n1,I n2,B q.1,x,y]) rfl (by kernel_rfl) (aD.cons rfl (aD.cons rfl (aD.cons rfl (aD.cons hx.one (aD.cons hy.one aD.nil)))))
 have md:Mv (fun k=>k=g2) wc wd:=Mv.of_grown qd fun k hk _=>(Option.some.inj hk).symm
 refine aq Ll Ll sd ?_
 refine ac Ll Ll (ag (ab (av ?_)))
 refine bJ Ll Ll Ll kd KT Ll (by kernel_rfl) ?_
 exact⟨_,rfl,((Mv.of_ext (x2.trans x4)).trans mT fun j hj hlt=>by
  rcases hj with hj|hj
  ·exact hj
  ·omega).trans md fun j hj hlt=>by omega,⟨n1,n2,q⟩,x,y,s3,rfl,tX (d:=⟨n1,n2,q⟩) (rqc.mv (md.weak fun j hj _=>by show j<wb.heap.size;omega) fun j hj=>.inl (by omega)),hx.one,hy.one,rc.mv md fun j hj=>by omega,vK q1 q2 q3⟩
theorem Fj {n m:Nat} (hn:n<18446744073709551616) (hm:m<18446744073709551616):UInt64.ofNat n<UInt64.ofNat m↔n<m:=by
 rw[UInt64.lt_iff_toNat_lt,UInt64.toNat_ofNat',UInt64.toNat_ofNat']
 omega
theorem kD {P:Program} {w:World} {s d:TypeId} {k:IntKind} (hs:P.underlying s=some (.int k)) {n:Nat} (hd:P.underlying d=some (.int .u64)):(convert s d (I (n:Int))).run P w=.ok (bj (UInt64.ofNat n)) w:=by
 rw[xc hs hd]
 have:UInt64.ofInt (n:Int)=UInt64.ofNat n:=UInt64.toNat_inj.1 (by rw[ro,UInt64.toNat_ofNat'];omega)
 rw[this]
theorem iL {α:Type} {f:List UInt8→Option (α×List UInt8)} {st s1 so:Option (List UInt8)} {N:Nat} {done:List α} (hU:eE db st N s1) (hR:s1.bind (cr f N)=so.bind (fun l=>(cr f 0 l).map fun p=>(done++p.1,p.2))):eE (gC f) st done so:=
 (hU.bindE (fun p=>cr f p.1 p.2)).trans (Ek hR)
theorem js {α:Type} {f:List UInt8→Option (α×List UInt8)} {st s1:Option (List UInt8)} {N:Nat} {done:List α} (hU:eE db st N s1) (hR:s1.bind (cr f N)=none):eE (gC f) st done none:=
 (hU.bindE (fun p=>cr f p.1 p.2)).trans hR
theorem qO:(Tryz.prog.info? 216).map (fun i=>(i.zero,i.size,i.bytes))=some (some (.agg #[I 0,I 0,I 0,I 0,B false,.slice none 0 0,.slice none 0 0]),7,88):=by kernel_rfl
theorem ey (m:dl):(dk m).size=7:=by simp[dk,sq,gi,jC,Dt.size,Dt.sizeAll]
theorem vN {X:Nat→Prop} {w:World} {m:dl} {x y:Value} (h:cK X w (gi m.co) [B m.co.1,x,y]):cK X w (dk m) [I m.kd,I m.ix,I m.lo,I m.hi,B m.co.1,x,y]:=by
 unfold dk
 simp only[cK.eq_5]
 exact aL.cons (a:=[I m.kd,I m.ix,I m.lo,I m.hi]) (by
  simp only[cK.eq_5]
  exact aL.cons (a:=[I m.kd]) (lC _) (aL.cons (a:=[I m.ix]) (lC _) (aL.cons (a:=[I m.lo]) (lC _) (aL.cons (a:=[I m.hi]) (b:=[]) (lC _) aL.nil)))) (aL.cons (b:=[]) h aL.nil)
theorem rF {w:World} {g:Nat} {st:Option (List UInt8)} (hr:ci g st w) (hl:dH st):
 Calls Tryz.prog 154 #[.pointer (some ⟨g,0,none⟩)] w (bE fun r w'=>Mv (RX g) w w'∧∃(ps:List dl) (v:Value) (s1:Option (List UInt8)),r=.tuple #[v,B s1.isSome]∧cK (fun k=>k<w.heap.size) w' (mU ps) [v]∧v.oneCell'=true∧ci g s1 w'∧eE uO st ps s1):=by
 refine enter (vs:=[.pointer (some ⟨g,0,none⟩)]) Tryz.func154 Ll Ll Ll ?_
 have hlt:=ci.lt hr
 obtain⟨N,s1,qU,hN,cU⟩:=xK st
 refine af (aa (ac Ll Ll (ac Ll Ll (ag (ab (af (aa (ae Ll Ll (an cI Ll Ll ((cU hr)) ?_)))))))))
 rintro v10 w10 ⟨g10,rfl,hr10⟩
 have m10:=dS.kp hr g10
 have hl1:dH s1:=qU.atM jc.le hl
 refine ae Ll Ll (ak Ll Ll (aT) (ak Ll Ll (aU) (ac Ll Ll (ac Ll Ll (ag (ab (af (aa (ac Ll Ll (ag (ab (af ?_))))))))))))
 refine ax ?_
 refine ig (fun(k:Nat) (v:Value) (so:Option (List UInt8)) (ps:List dl)=>[(0,.pointer (some ⟨g,0,none⟩)),(4,bj (UInt64.ofNat N)),(5,I (if so.isSome=true then 0 else 5)),(6,v)]) (fun(k:Nat) (v:Value) (so:Option (List UInt8)) (ps:List dl) w'=>Mv (RX g) w w'∧ci g so w'∧fI 216 7 w.heap.size dk ps v w'∧k+ps.length=N∧s1.bind (cr qK N)=so.bind (fun l=>(cr qK k l).map fun p=>(ps++p.1,p.2))∧ps.length≤549755813890∧∀l,so=some l→l.length+ps.length≤549755813888) (fun(k:Nat) (v:Value) (so:Option (List UInt8)) (ps:List dl)=>k) (N) (.slice none 0 0) (s1) ([]) ⟨rfl,rfl,rfl,rfl,trivial⟩ ⟨Mv.of_grown g10 fun k hk _=>(Option.some.inj hk).symm,hr10,fI.nil _,by simp,iJ,by simp,fun l e=>by have:=hl1 l e;simpa using this⟩ ?_
 rintro k v so ps wL ⟨mL,hrL,oL,hk,hR,hql,hsl⟩
 refine af (af ?_)
 have rL:=oL.rpx ey (by omega)
 have hvo:v.oneCell'=true:=by obtain⟨_,_,_,rfl⟩:=oL.isS;rfl
 have hnl:ps.length<18446744073709551616:=by omega
 rcases so with _|l
 rotate_left
 rcases Nat.eq_zero_or_pos k with h0|h0
 rotate_left
 ·refine aa (ae Ll Ll (ai Ll Ll Ll (cg Ll aZ) (ae Ll Ll (al Ll (ae Ll Ll (al Ll (aQ (r:=I ps.length) Ll Ll ((bR (f:=dk) KW rL.rp)) ?_)))))))
  refine al Ll (aR Ll Ll (kD KO KN) (al Ll (ae Ll Ll (al Ll (ai Ll Ll Ll (cg ((Fj hnl hN).2 (by omega)) dy) ?_)))))
  refine aw Ll Ll Ll (ag (ab (bB Ll (ar (ab (ax (af ?_)))))))
  obtain⟨n1,s2,q1,i1,c1⟩:=oF (some l)
  obtain⟨n2,s3,q2,i2,c2⟩:=oF s2
  obtain⟨n3,s4,q3,i3,c3⟩:=oF s3
  obtain⟨n4,s5,q4,i4,c4⟩:=oF s4
  have hll:dH (some l):=fun l' e=>by cases e;have:=hsl l rfl;omega
  have at5:dH s5:=q4.atM dI.le (q3.atM dI.le (q2.atM dI.le (q1.atM dI.le hll)))
  refine aa ?_
  obtain⟨g7,w7,hr7,l7,x7,k7⟩:=be (P:=Tryz.prog) (w:=wL) (t:=216) (z:=.agg #[I 0,I 0,I 0,I 0,B false,.slice none 0 0,.slice none 0 0]) (l:=[I 0,I 0,I 0,I 0,B false,.slice none 0 0,.slice none 0 0]) (by kernel_rfl) rfl
  refine bf Ll hr7 (ag (ab (af ?_)))
  have hr7:=ci.ext hrL x7
  have e7:=x7
  have hgL:g<wL.heap.size:=Nat.lt_of_lt_of_le hlt mL.size
  have hg7:g<g7:=by omega
  have lt7:=k7.lt
  refine aa (ae Ll Ll (an iI Ll Ll ((c1 hr7)) ?_))
  rintro v24 w24 ⟨g24,rfl,hr24⟩
  have m24:=dS.kp hr7 g24
  obtain⟨wa,sa,ma,ka,ra,_⟩:=dS.put (P:=Tryz.prog) (t:=3) (v:=I n1) k7 g24 hr24 hg7 (i:=0) dD rfl (by simp)
  refine ae Ll Ll (ak Ll Ll (aT) (ak Ll Ll aU ?_))
  refine ah Ll Ll (aF (o:=0) K3 Ll (by kernel_rfl) Ll) ?_
  refine ah Ll Ll (aF (o:=0) Lb Ll (by kernel_rfl) Ll) ?_
  refine aq Ll Ll sa ?_
  refine ag (ab (af (aa (ae Ll Ll (an iI Ll Ll ((c2 ra)) ?_)))))
  rintro v31 w31 ⟨g31,rfl,hr31⟩
  have m31:=dS.kp ra g31
  obtain⟨wb,sb,mb,kb,rb,_⟩:=dS.put (P:=Tryz.prog) (t:=3) (v:=I n2) ka g31 hr31 hg7 (i:=1) dD rfl (by simp)
  refine ae Ll Ll (ak Ll Ll (aT) (ak Ll Ll aU ?_))
  refine ah Ll Ll (aF (o:=0) K3 Ll (by kernel_rfl) Ll) ?_
  refine ah Ll Ll (aF (o:=1) Lb Ll (by kernel_rfl) Ll) ?_
  refine aq Ll Ll sb ?_
  refine ag (ab (af (aa (ae Ll Ll (an iI Ll Ll ((c3 rb)) ?_)))))
  rintro v38 w38 ⟨g38,rfl,hr38⟩
  have m38:=dS.kp rb g38
  obtain⟨wc,sc,mc,kc,rc,_⟩:=dS.put (P:=Tryz.prog) (t:=3) (v:=I n3) kb g38 hr38 hg7 (i:=2) dD rfl (by simp)
  refine ae Ll Ll (ak Ll Ll (aT) (ak Ll Ll aU ?_))
  refine ah Ll Ll (aF (o:=0) K3 Ll (by kernel_rfl) Ll) ?_
  refine ah Ll Ll (aF (o:=2) Lb Ll (by kernel_rfl) Ll) ?_
  refine aq Ll Ll sc ?_
  refine ag (ab (af (aa (ae Ll Ll (an iI Ll Ll ((c4 rc)) ?_)))))
  rintro v45 w45 ⟨g45,rfl,hr45⟩
  have m45:=dS.kp rc g45
  obtain⟨wd,sd,md,kd,rd,_⟩:=dS.put (P:=Tryz.prog) (t:=3) (v:=I n4) kc g45 hr45 hg7 (i:=3) dD rfl (by simp)
  refine ae Ll Ll (ak Ll Ll (aT) (ak Ll Ll aU ?_))
  refine ah Ll Ll (aF (o:=0) K3 Ll (by kernel_rfl) Ll) ?_
  refine ah Ll Ll (aF (o:=3) Lb Ll (by kernel_rfl) Ll) ?_
  refine aq Ll Ll sd ?_
  refine ag (ab (af (aa (ae Ll Ll (an qE Ll Ll ((Bh rd at5)) ?_)))))
  rintro v52 w52 ⟨g52,q,x,y,s6,rfl,hx,hy,rq,hr52,q5⟩
  have m52:=dS.kp rd g52
  obtain⟨we,se,me,ke,re,qe⟩:=dS.putO (P:=Tryz.prog) (t:=55) (m:=[B q.1,x,y]) kd g52 hr52 hg7 4 (by simp) (by kernel_rfl) (aD.cons rfl (aD.cons hx.one (aD.cons hy.one aD.nil)))
  have ke:cd g7 216 [I n1,I n2,I n3,I n4,B q.1,x,y] we:=ke
  have mAll:Mv (RX g) wL we:=(Mv.of_ext e7).trans ((((ma.trans mb fun _ hn _=>hn).trans mc fun _ hn _=>hn).trans md fun _ hn _=>hn).trans me fun _ hn _=>hn) fun j hj hlt=>by
   rcases hj with hj|hj
   ·exact hj
   ·omega
  have sd7:w7.heap.size≤wd.heap.size:=Nat.le_trans (Nat.le_trans ma.size mb.size) (Nat.le_trans mc.size md.size)
  have szL:wL.heap.size≤w7.heap.size:=e7.size
  have hXL:∀j,RX g j→j<w.heap.size:=fun j hj=>by have:j=g:=hj;omega
  have oE:=oL.mv mAll hXL
  have own:∀j,v.ownBlock=some j→w.heap.size≤j∧j<wL.heap.size:=oL.lt
  have rqe:=rq.mv (Mv.of_grown qe fun k hk _=>by obtain rfl:=Option.some.inj hk;show g7<wd.heap.size;omega) fun _ hk=>.inl hk
  have hM:=vN (m:=⟨n1,n2,n3,n4,q⟩) (rqe.weak (Y:=fun k=>k<w.heap.size∨v.ownBlock=some k) fun j hj=>.inl (by
   rcases hj with hj|hj
   ·have:=mL.size;show j<wd.heap.size;omega
   ·have:=(own j hj).2;show j<wd.heap.size;omega))
  obtain⟨x58,w58,v59,w59,hr58,hr59,o59,m59,n59⟩:=oE.push (ty:=81) (t:=81) KW qO rfl (by omega) (by omega) (by omega) (aD.cons rfl (aD.cons rfl (aD.cons rfl (aD.cons rfl (aD.cons rfl (aD.cons hx.one (aD.cons hy.one aD.nil))))))) hM ey (by have:=hsl l rfl;omega) (Nat.le_trans mL.size mAll.size)
  have h59:=re.mv m59 fun j hj=>by have:=own j hj;omega
  refine ae Ll Ll (ak Ll Ll (aT) (ak Ll Ll (aU) ?_))
  refine ah Ll Ll (aF (o:=4) K3 Ll (by kernel_rfl) Ll) ?_
  refine aq Ll Ll se ?_
  refine ac Ll Ll (ag (ab (aa (ae Ll Ll (am Ll Ll (ke.ld K3 Ll (by kernel_rfl)) ?_)))))
  refine aO (vs:=[(0,.agg #[I n1,I n2,I n3,I n4,B q.1,x,y])]) Ll Ll hr58 ?_
  refine bc Ll Ll hr59 ?_
  obtain⟨k',rfl⟩:∃k',k=k'+1:=⟨k-1,by omega⟩
  refine ac Ll Ll (ag (aJ ?_))
  refine fq (k') (v59) (s6) (ps++[⟨n1,n2,n3,n4,q⟩]) ⟨rfl,rfl,rfl,rfl,trivial⟩ ⟨(mL.trans mAll fun _ hn _=>hn).trans m59 fun j hj hlt=>by have:=(own j hj).1;omega,h59,o59,by simp;omega,jr hR (oC q1 q2 q3 q4 q5),by have:=hsl l rfl;simp;omega,(fun l' e=>by
   subst e
   have:=hsl l rfl
   have:=su _ _ _ (show qK l=some (_,l') from oC (st:=some l) q1 q2 q3 q4 q5)
   simp
   omega)⟩ (by omega)
 ·refine aa (ae Ll Ll (ai Ll Ll Ll (cf (by simp) aZ) (ae Ll Ll (ao Ll Ll Ll (ao Ll Ll Ll (ao Ll Ll Ll (ao Ll Ll Ll (ao Ll Ll Ll ?_))))))))
  refine aC Ll Ll Ll (ag (ab (cp Ll (aY (aB (aB (aX (ab (af (aa (ae Ll Ll (ae Ll Ll (ai Ll Ll Ll (cf (by simp) aZ) ?_)))))))))))))
  refine ac Ll Ll (ac Ll Ll (ag (ab (av (aM Ll Ll Ll ?_)))))
  exact⟨_,rfl,mL,ps,v,none,rfl,rL,hvo,hrL,js qU hR⟩
 ·refine aa (ae Ll Ll (ai Ll Ll Ll (cg Ll aZ) (ae Ll Ll (al Ll (ae Ll Ll (al Ll (aQ (r:=I ps.length) Ll Ll ((bR (f:=dk) KW rL.rp)) ?_)))))))
  refine al Ll (aR Ll Ll (kD KO KN) (al Ll (ae Ll Ll (al Ll (ai Ll Ll Ll (cf (mt (Fj hnl hN).1 (by omega)) dy) ?_)))))
  refine aw Ll Ll Ll (ag (ab (cp Ll (aY (aB (aB (aX (ab (af (aa (ae Ll Ll (ae Ll Ll (ai Ll Ll Ll (cg Ll aZ) (ac Ll Ll ?_))))))))))))))
  refine ac Ll Ll (ag (ab (av (aM Ll Ll Ll ?_))))
  exact⟨_,rfl,mL,ps,v,some l,rfl,rL,hvo,hrL,iL qU (by subst h0;exact hR)⟩
end Go.Rl
namespace Go.Rl
open Go.RowKit Go.Proofs
theorem zA:(Tryz.prog.info? 147).map (fun i=>(i.zero,i.size,i.bytes))=some (some (.agg #[I 0,B false,B false,.slice none 0 0,.slice none 0 0,.slice none 0 0]),6,96):=by kernel_rfl
theorem kH:(Tryz.prog.info? 83).map (fun i=>(i.zero,i.size,i.bytes))=some (some (.agg #[.slice none 0 0,I 0,I 0,B false,.slice none 0 0,.slice none 0 0,.slice none 0 0,B false,.slice none 0 0]),9,152):=by kernel_rfl
theorem dX (l:fB):(eI l).size=6:=by simp[eI,sq,gi,jC,mU,Dt.size,Dt.sizeAll]
theorem bD (n:aP):(bM n).size=9:=by cases n;simp[bM,gD,sq,gi,jC,mU,Dt.size,Dt.sizeAll]
theorem kI {X:Nat→Prop} {w:World}:cK X w (.sl []) [.slice none 0 0]:=by
 simp only[cK]
 exact⟨none,0,0,rfl,rfl,Nat.le_refl _,Nat.zero_le _,fun _=>rfl,fun h=>absurd h (by omega)⟩
theorem bX {X:Nat→Prop} {w:World} (b:Bool):cK X w (.bool b) [B b]:=by simp only[cK,B]
theorem zB {X:Nat→Prop} {w:World} {l:fB} {x y v:Value} (h:cK X w (gi l.va) [B l.va.1,x,y]) (hp:cK X w (mU l.pf) [v]):cK X w (eI l) [I l.un,B l.up,B l.va.1,x,y,v]:=by
 unfold eI
 simp only[cK.eq_5]
 exact aL.cons (a:=[I l.un]) (lC _) (aL.cons (a:=[B l.up]) (bX _) (aL.cons (a:=[B l.va.1,x,y]) h (aL.cons (b:=[]) hp aL.nil)))
theorem fM {X:Nat→Prop} {w:World} {ls:List fB} {d:ew} {ks:List aP} {em:Bool} {ps:List dl} {vl vk vp x y:Value} (hl:cK X w (.sl (ls.map eI)) [vl]) (hd:cK X w (gD d) [I d.kd,I d.ix,B d.at_.1,x,y]) (hk:cK X w (.sl (ks.map bM)) [vk]) (hp:cK X w (mU ps) [vp]):
 cK X w (bM (.mk ls d ks em ps)) [vl,I d.kd,I d.ix,B d.at_.1,x,y,vk,B em,vp]:=by
 unfold bM
 simp only[cK.eq_5]
 exact aL.cons (a:=[vl]) hl (aL.cons (a:=[I d.kd,I d.ix,B d.at_.1,x,y]) hd (aL.cons (a:=[vk]) (by rw[oB];exact hk) (aL.cons (a:=[B em]) (bX _) (aL.cons (b:=[]) hp aL.nil))))
theorem lF {X:Nat→Prop} {w:World}:cK X w (gD uN) [I 0,I 0,B false,.slice none 0 0,.slice none 0 0]:=
 tX (d:=uN) (by
  simp only[gi,uN,Kk,cK.eq_5]
  exact aL.cons (a:=[B false]) (bX _) (aL.cons (a:=[.slice none 0 0]) kI (aL.cons (b:=[]) kI aL.nil)))
theorem CQ {P:Program} {w:World} {t:TypeId} {x y:Operand} {n:Nat} (hn:n<18446744073709551616):(bin .eql t x y (bj (UInt64.ofNat n)) (bj 1)).run P w=.ok (B (decide (n=1))) w:=by
 have e:(decide (UInt64.ofNat n=1))=decide (n=1):=by
  by_cases h:n=1
  ·subst h;rfl
  ·have:UInt64.ofNat n≠1:=fun e=>h (by have:=congrArg UInt64.toNat e;rw[UInt64.toNat_ofNat',show(1:UInt64).toNat=1 from rfl] at this;omega)
   rw[decide_eq_false h,decide_eq_false this]
 rw[←e]
 exact fK
def JS (st:Option (List UInt8)) (nd:aP) (s1:Option (List UInt8)) (ok:Bool):Prop:=(ok=true→eE eC st nd s1∧s1≠none)∧(ok=false→st.bind eC=none)
def CR (g:Nat) (w:World) (st:Option (List UInt8)) (r:Value) (w':World):Prop:=
 Mv (RX g) w w'∧∃(nd:aP) (cs:List Value) (s1:Option (List UInt8)) (ok:Bool),r=.tuple #[.agg cs.toArray,B ok]∧cK (fun k=>k<w.heap.size) w' (bM nd) cs∧aD cs∧ci g s1 w'∧JS st nd s1 ok
def vO (s3:Option (List UInt8)):Nat→List aP→Option (List UInt8)→Bool→Prop
 |0,ks,so,ok=>ks=[]∧so=s3∧ok=s3.isSome
 |1,ks,so,ok=>∃a,ks=[a]∧JS s3 a so ok
 |_+2,ks,so,ok=>∃a b s4,ks=[a,b]∧eE eC s3 a s4∧s4≠none∧JS s4 b so ok
theorem vO.step {s3 so s6:Option (List UInt8)} {ks:List aP} {nd:aP} {ok6:Bool}:∀{i:Nat},vO s3 i ks so true→i<2→JS so nd s6 ok6→vO s3 (i+1) (ks++[nd]) s6 ok6
 |0,⟨h1,h2,_⟩,_,hN=>⟨nd,by rw[h1];rfl,h2▸hN⟩
 |1,⟨a,h1,h2⟩,_,hN=>⟨a,nd,so,by rw[h1];rfl,(h2.1 rfl).1,(h2.1 rfl).2,hN⟩
 |i+2,_,h,_=>by omega
theorem vO.done {st s1 s2 s3 so:Option (List UInt8)} {ks:List aP} {ls:List fB} {d:ew} {tag:Nat} {ok:Bool} {i:Nat} (h:vO s3 i ks so ok) (hx:ok=false∨2≤i) (hn:¬tag<2) (q1:eE (pC 2) st tag s1) (q2:eE fW s1 ls s2) (q3:eE xG s2 d s3):JS st (.mk ls d ks false []) so ok:=by
 refine⟨fun e=>?_,fun e=>?_⟩
 ·subst e
  have h2i:2≤i:=by
   rcases hx with hx|hx
   ·cases hx
   ·exact hx
  obtain⟨i,rfl⟩:∃j,i=j+2:=⟨i-2,by omega⟩
  obtain⟨a,b,s4,rfl,h2,h3,h4⟩:=h
  exact⟨tO hn q1 q2 q3 h2 (h4.1 rfl).1,(h4.1 rfl).2⟩
 ·subst e
  match i,h with
  |0,⟨h1,h2,h3⟩=>
   have:s3=none:=by cases s3 with|none=>rfl|some t=>cases h3
   subst this
   exact zt hn q1 q2 q3
  |1,⟨a,h1,h2⟩=>exact zu hn q1 q2 q3 (h2.2 rfl)
  |i+2,⟨a,b,s4,h1,h2,h3,h4⟩=>exact zv hn q1 q2 q3 h2 (h4.2 rfl)
theorem jt {α:Type} {f:List UInt8→Option (α×List UInt8)} {st s1 so:Option (List UInt8)} {N k:Nat} {done:List α} (hU:eE db st N s1) (hR:s1.bind (cr f N)=so.bind (fun l=>(cr f (k+1) l).map fun p=>(done++p.1,p.2))) (h:so.bind f=none):st.bind (gC f)=none:=
 (hU.bindE (fun p=>cr f p.1 p.2)).trans (Em hR h)
theorem lG {w w4 wA:World} {g g2 g4:Nat} {z cs:List Value} {nd:aP} {st s1:Option (List UInt8)} (hg:g<w.heap.size) (l2:w.heap.size≤g2) (g42:g2<g4) (ex4:aI w w4) (k24:cd g2 83 z w4) (hz:z.length=9) (mT:Mv (fun k=>RX g k∨k=g4) w4 wA) (h1:aD cs) (rp:cK (fun k=>k<w4.heap.size) wA (bM nd) cs) (hr:ci g s1 wA):
 ∃wd,(Instr.storeAt 83 (.pointer (some ⟨g2,0,none⟩)) (.agg cs.toArray)).run Tryz.prog wA=.ok () wd∧cd g2 83 cs wd∧∀ok,JS st nd s1 ok→CR g w st (.tuple #[.agg cs.toArray,B ok]) wd:=by
 have lt2:=k24.lt
 have hgg:g<g2:=by omega
 have k2A:=mT.blk k24 (by
  rintro(h|h)
  ·have:g2=g:=h
   omega
  ·omega)
 have hc:cs.length=9:=rp.len.trans (bD nd)
 obtain⟨wd,sd,qd,kd⟩:=k2A.stS (P:=Tryz.prog) (t:=83) (m:=cs) (by omega) (by rw[hc];kernel_rfl) h1
 have md:Mv (fun k=>k=g2) wA wd:=Mv.of_grown qd fun k hk _=>(Option.some.inj hk).symm
 refine⟨wd,sd,kd,fun ok hN=>⟨((Mv.of_ext ex4).trans mT fun j hj hlt=>?_).trans md fun j hj hlt=>by omega,nd,cs,s1,ok,rfl,rp.mv (md.weak fun j hj _=>by show j<w4.heap.size;omega) fun j hj=>.inl (by have:=ex4.size;show j<w4.heap.size;omega),h1,hr.mv md fun j hj=>by omega,hN⟩⟩
 rcases hj with hj|hj
 ·exact hj
 ·omega
theorem Bj {w:World} {g:Nat} {st:Option (List UInt8)} {n:Nat} (ih:∀{w:World} {g:Nat} {st:Option (List UInt8)} {m:Nat},m<n→ci g st w→dH st→yB m st→Calls Tryz.prog 116 #[.pointer (some ⟨g,0,none⟩)] w (bE (CR g w st))) (hr:ci g st w) (hl:dH st) (hn:yB n st):
 Calls Tryz.prog 116 #[.pointer (some ⟨g,0,none⟩)] w (bE (CR g w st)):=by
 refine enter (vs:=[.pointer (some ⟨g,0,none⟩)]) Tryz.func116 Ll Ll Ll ?_
 have hlt:=ci.lt hr
 obtain⟨tag,s1,ok1,hok1,hno1,htag,hat1,cF⟩:=vM st (most:=2) (by omega)
 obtain⟨N,s2,qU,hN,cU⟩:=xK s1
 refine af (aa ?_)
 obtain⟨g2,w2,hr2,l2,x2,k2⟩:=be (P:=Tryz.prog) (w:=w) (t:=83) (z:=.agg #[.slice none 0 0,I 0,I 0,B false,.slice none 0 0,.slice none 0 0,.slice none 0 0,B false,.slice none 0 0]) (l:=[.slice none 0 0,I 0,I 0,B false,.slice none 0 0,.slice none 0 0,.slice none 0 0,B false,.slice none 0 0]) (by kernel_rfl) rfl
 refine bf Ll hr2 (ac Ll Ll (ag (ab (af (aa ?_)))))
 obtain⟨g4,w4,hr4,l4,x4,k4⟩:=be (P:=Tryz.prog) (w:=w2) (t:=83) (z:=.agg #[.slice none 0 0,I 0,I 0,B false,.slice none 0 0,.slice none 0 0,.slice none 0 0,B false,.slice none 0 0]) (l:=[.slice none 0 0,I 0,I 0,B false,.slice none 0 0,.slice none 0 0,.slice none 0 0,B false,.slice none 0 0]) (by kernel_rfl) rfl
 refine bf Ll hr4 ?_
 have hr4:=ci.ext hr (x2.trans x4)
 have ex4:=(x2.trans x4)
 have lt4:=k4.lt
 have lt2:=k2.lt
 have g42:g2<g4:=by omega
 have hg4:g<g4:=by omega
 have k24:=k2.ext x4
 have sz4:=ex4.size
 refine ag (ab (af (aa (ae Ll Ll (an tT Ll Ll ((cF hr4)) ?_)))))
 rintro v16 w16 ⟨g16,rfl,hr16⟩
 have m16:=dS.kp hr4 g16
 have mF:Mv (fun k=>RX g k∨k=g4) w4 w16:=Mv.of_grown g16 fun k hk _=>.inl (Option.some.inj hk).symm
 have k16:=k4.other g16 (fun e=>by have:=Option.some.inj e;omega)
 refine ae Ll Ll (ak Ll Ll (aT) (ak Ll Ll (aU) (ac Ll Ll (ac Ll Ll (ag (ab (af (af ?_))))))))
 rcases ok1 with _|_
 ·refine aa (ae Ll Ll (bI Ll Ll bK (ag (ab (bB Ll (af ?_))))))
  obtain⟨wd,sd,kd,fin⟩:=lG (st:=st) (nd:=.mk [] uN [] false []) hlt l2 g42 ex4 k24 rfl mF (aD.cons rfl (aD.cons rfl (aD.cons rfl (aD.cons rfl (aD.cons rfl (aD.cons rfl (aD.cons rfl (aD.cons rfl (aD.cons rfl aD.nil))))))))) (fM kI lF kI kI) hr16
  refine aa (am Ll Ll (k16.ld KM Ll (by kernel_rfl)) ?_)
  refine aq Ll Ll sd ?_
  refine ac Ll Ll (ag (ab (av (au ?_))))
  refine bJ Ll Ll Ll kd KM Ll (by kernel_rfl) ?_
  exact⟨_,rfl,fin false ⟨(fun e=>nomatch e),fun _=>zq (hno1 rfl)⟩⟩
 ·refine aa (ae Ll Ll (bI Ll Ll bK (ag (ab (cp Ll (ar (ab (af ?_))))))))
  obtain⟨qF,nF⟩:=hok1 rfl
  obtain⟨l1,rfl⟩:∃l1,s1=some l1:=by
   cases s1 with
   |none=>exact absurd rfl nF
   |some l1=>exact⟨l1,rfl⟩
  have hl1:dH (some l1):=hat1 _ hl
  have hn1:l1.length+1≤n:=by
   obtain⟨l0,e0,q0⟩:=qF.some
   have:=j0 2 l0 _ _ q0
   have:=hn l0 e0
   omega
  have an1:yB (n-1) (some l1):=fun l' e=>by cases e;omega
  obtain⟨w5,s5,q5,k5⟩:=k16.stC (P:=Tryz.prog) (t:=4) (i:=7) (v:=B (decide (tag=1))) tS rfl (by simp)
  have k5:cd g4 83 [.slice none 0 0,I 0,I 0,B false,.slice none 0 0,.slice none 0 0,.slice none 0 0,B (decide (tag=1)),.slice none 0 0] w5:=k5
  have m5:Mv (fun k=>k=g4) w16 w5:=Mv.of_grown q5 fun k hk _=>(Option.some.inj hk).symm
  have r5:ci g (some l1) w5:=hr16.mv m5 fun j hj=>by omega
  have mE:Mv (fun k=>RX g k∨k=g4) w4 w5:=mF.trans m5 fun _ hj _=>.inr hj
  refine aa (ae Ll Ll (ai (v:=bj 1) (r:=B (decide (tag=1))) Ll Ll Ll ((CQ htag)) ?_))
  refine ah Ll Ll (aF (o:=7) KM Ll (by kernel_rfl) Ll) ?_
  refine aq Ll Ll s5 ?_
  refine ag (ab (af (aa (ae Ll Ll (an cI Ll Ll ((cU r5)) ?_)))))
  rintro v27 w27 ⟨g27,rfl,hr27⟩
  have m27:=dS.kp r5 g27
  have mG:Mv (fun k=>RX g k∨k=g4) w4 w27:=mE.trans (Mv.of_grown g27 fun k hk _=>(Option.some.inj hk).symm:Mv (RX g) w5 w27) fun _ hj _=>.inl hj
  have k27:=k5.other g27 (fun e=>by have:=Option.some.inj e;omega)
  refine ae Ll Ll (ak Ll Ll (aT) (ak Ll Ll (aU) (ac Ll Ll (ac Ll Ll (ag (ab (af (af ?_))))))))
  rcases s2 with _|lc
  ·refine aa (ae Ll Ll (ai Ll Ll Ll (cg (by simp) bL) (ag (ab (bB Ll (af ?_))))))
   obtain⟨wd,sd,kd,fin⟩:=lG (st:=st) (nd:=.mk [] uN [] (decide (tag=1)) []) hlt l2 g42 ex4 k24 rfl mG (aD.cons rfl (aD.cons rfl (aD.cons rfl (aD.cons rfl (aD.cons rfl (aD.cons rfl (aD.cons rfl (aD.cons rfl (aD.cons rfl aD.nil))))))))) (fM kI lF kI kI) hr27
   refine aa (am Ll Ll (k27.ld KM Ll (by kernel_rfl)) ?_)
   refine aq Ll Ll sd ?_
   refine ac Ll Ll (ag (ab (av (au ?_))))
   refine bJ Ll Ll Ll kd KM Ll (by kernel_rfl) ?_
   exact⟨_,rfl,fin false ⟨(fun e=>nomatch e),fun _=>pE qF (js (done:=([]:List fB)) qU rfl)⟩⟩
  ·refine aa (ae Ll Ll (ai Ll Ll Ll (cf (by simp) bL) (ag (ab (cp Ll (ar (ab (af (ax ?_)))))))))
   refine ig (fun(k:Nat) (v:Value) (l:List UInt8) (ls:List fB)=>[(0,.pointer (some ⟨g,0,none⟩)),(2,.pointer (some ⟨g2,0,none⟩)),(4,.pointer (some ⟨g4,0,none⟩)),(5,bj (UInt64.ofNat tag)),(7,bj (UInt64.ofNat N))]) (fun(k:Nat) (v:Value) (l:List UInt8) (ls:List fB) w'=>Mv (fun k=>RX g k∨k=g4) w4 w'∧ci g (some l) w'∧cd g4 83 [v,I 0,I 0,B false,.slice none 0 0,.slice none 0 0,.slice none 0 0,B (decide (tag=1)),.slice none 0 0] w'∧fI 147 6 w4.heap.size eI ls v w'∧k+ls.length=N∧(some lc).bind (cr mq N)=(some l).bind (fun l=>(cr mq k l).map fun p=>(ls++p.1,p.2))∧l.length+ls.length≤549755813888∧l.length≤n-1) (fun(k:Nat) (v:Value) (l:List UInt8) (ls:List fB)=>k) (N) (.slice none 0 0) (lc) ([]) ⟨rfl,rfl,rfl,rfl,rfl,trivial⟩ ⟨mG,hr27,k27,fI.nil _,by simp,iJ,by have:=qU.atM jc.le hl1 lc rfl;simpa using this,qU.atM jc.le an1 lc rfl⟩ ?_
   rintro k v l ls wL ⟨mL,hrL,kL,oL,hk,hR,hql,hnl⟩
   refine af (af ?_)
   have rL:=oL.rpx dX (by omega)
   have hvo:v.oneCell'=true:=by obtain⟨_,_,_,rfl⟩:=oL.isS;rfl
   have hll:ls.length<18446744073709551616:=by omega
   have hgL:g<wL.heap.size:=by have:=mL.size;omega
   have hg4L:g4<wL.heap.size:=by have:=mL.size;omega
   have hlL:dH (some l):=fun l' e=>by cases e;omega
   rcases Nat.eq_zero_or_pos k with h0|h0
   rotate_left
   ·refine aa (ah Ll Ll (aF (o:=0) KM Ll (by kernel_rfl) Ll) (am Ll Ll (aj KZ Ll (kL.cell (i:=0) Ll)) ?_))
    refine aQ (r:=I ls.length) Ll Ll ((bR (f:=eI) KZ rL.rp)) (aR Ll Ll (kD KO KN) ?_)
    refine ae Ll Ll (ai Ll Ll Ll (cg ((Fj hll hN).2 (by omega)) dy) (ag (ab (bB Ll (ar (ab (ax (af ?_))))))))
    obtain⟨n1,sA,q1,i1,c1⟩:=oF (some l)
    obtain⟨up,sB,ok2,hok2,hno2,hup,hat2,c2⟩:=vM sA (most:=1) (by omega)
    have atB:dH sB:=hat2 _ (q1.atM dI.le hlL)
    refine aa ?_
    obtain⟨g9,w9,hr9,l9,x9,k9⟩:=be (P:=Tryz.prog) (w:=wL) (t:=147) (z:=.agg #[I 0,B false,B false,.slice none 0 0,.slice none 0 0,.slice none 0 0]) (l:=[I 0,B false,B false,.slice none 0 0,.slice none 0 0,.slice none 0 0]) (by kernel_rfl) rfl
    refine bf Ll hr9 (ag (ab (af ?_)))
    have hr9:=ci.ext hrL x9
    have e9:=x9
    have hg9:g<g9:=by omega
    have lt9:=k9.lt
    have h49:g4<g9:=by omega
    refine aa (ae Ll Ll (an iI Ll Ll ((c1 hr9)) ?_))
    rintro v41 w41 ⟨g41,rfl,hr41⟩
    have m41:=dS.kp hr9 g41
    obtain⟨wa,sa,ma,ka,ra,_⟩:=dS.put (P:=Tryz.prog) (t:=3) (v:=I n1) k9 g41 hr41 hg9 (i:=0) dD rfl (by simp)
    refine ae Ll Ll (ak Ll Ll (aT) (ak Ll Ll aU ?_))
    refine ah Ll Ll (aF (o:=0) KX Ll (by kernel_rfl) Ll) ?_
    refine aq Ll Ll sa ?_
    refine ag (ab (af (aa (ae Ll Ll (an tT Ll Ll ((c2 ra)) ?_)))))
    rintro v47 w47 ⟨g47,rfl,hr47⟩
    have m47:=dS.kp ra g47
    obtain⟨wb,sb,mb,kb,rb,_⟩:=dS.put (P:=Tryz.prog) (t:=4) (v:=B (gT up)) ka g47 hr47 hg9 (i:=1) tS rfl (by simp)
    refine ae Ll Ll (ak Ll Ll (aT) (ak Ll Ll (aU) (ac Ll Ll (ac Ll Ll (ag (ab (af (aa (ae Ll Ll (ai (v:=bj 1) (r:=B (gT up)) Ll Ll Ll ((CQ hup)) ?_))))))))))
    refine ah Ll Ll (aF (o:=1) KX Ll (by kernel_rfl) Ll) ?_
    refine aq Ll Ll sb ?_
    refine ag (ab (af (aa (ae Ll Ll (an qE Ll Ll ((Bh rb atB)) ?_)))))
    rintro v55 w55 ⟨g55,q,x,y,sC,rfl,hx,hy,rq,hr55,q3⟩
    have m55:=dS.kp rb g55
    obtain⟨wc,sc,mc,kc,rc,qc⟩:=dS.putO (P:=Tryz.prog) (t:=55) (m:=[B q.1,x,y]) kb g55 hr55 hg9 2 (by simp) (by kernel_rfl) (aD.cons rfl (aD.cons hx.one (aD.cons hy.one aD.nil)))
    have kc:cd g9 147 [I n1,B (gT up),B q.1,x,y,.slice none 0 0] wc:=kc
    refine ae Ll Ll (ak Ll Ll (aT) (ak Ll Ll aU ?_))
    refine ah Ll Ll (aF (o:=2) KX Ll (by kernel_rfl) Ll) ?_
    refine aq Ll Ll sc ?_
    refine ag (ab (af (aa (ae Ll Ll (an rE Ll Ll ((rF rc (q3.atM qJ.le atB))) ?_)))))
    rintro v61 w61 ⟨m61,ps,vp,sD,rfl,rp61,hvp,hr61,q4⟩
    have m61:=m61
    have k61:=m61.blk kc (fun e=>by have:g9=g:=e;omega)
    obtain⟨we,se,qe,ke⟩:=k61.stC (P:=Tryz.prog) (t:=81) (i:=5) (v:=vp) (by kernel_rfl) hvp (by simp)
    have ke:cd g9 147 [I n1,B (gT up),B q.1,x,y,vp] we:=ke
    have me:Mv (fun k=>k=g9) w61 we:=Mv.of_grown qe fun k hk _=>(Option.some.inj hk).symm
    have re:ci g sD we:=hr61.mv me fun j hj=>by omega
    have mAll:Mv (RX g) wL we:=((Mv.of_ext e9).trans (((ma.trans mb fun _ hn _=>hn).trans mc fun _ hn _=>hn).trans m61 fun _ hn _=>.inl hn) fun j hj hlt=>by
     rcases hj with hj|hj
     ·exact hj
     ·omega).trans me fun j hj hlt=>by omega
    have hXL:∀j,RX g j→j<w4.heap.size:=fun j hj=>by have:j=g:=hj;omega
    have oE:=oL.mv mAll hXL
    have kE:=mAll.blk kL (fun e=>by have:g4=g:=e;omega)
    have mLE:Mv (fun k=>RX g k∨k=g4) w4 we:=mL.trans mAll fun _ hj _=>.inl hj
    have sb9:w9.heap.size≤wb.heap.size:=Nat.le_trans ma.size mb.size
    have sc9:wb.heap.size≤w55.heap.size:=g55.size
    have sc10:w55.heap.size≤wc.heap.size:=qc.size
    have szL:wL.heap.size≤w9.heap.size:=e9.size
    have rqe:=rq.mv (((Mv.of_grown qc fun k hk _=>by obtain rfl:=Option.some.inj hk;show g9<wb.heap.size;omega:Mv (fun k=>k<wb.heap.size) w55 wc).trans m61 fun j hj _=>by have:j=g:=hj;show j<wb.heap.size;omega).trans me fun j hj _=>by show j<wb.heap.size;omega) fun _ hk=>.inl hk
    have rpe:=rp61.mv (me.weak fun j hj _=>by show j<wc.heap.size;omega) fun _ hk=>.inl hk
    refine ae Ll Ll (ak Ll Ll (aT) (ak Ll Ll (aU) ?_))
    refine ah Ll Ll (aF (o:=5) KX Ll (by kernel_rfl) Ll) ?_
    refine aq Ll Ll se ?_
    refine ac Ll Ll (ag (ab (af (af ?_))))
    obtain⟨k',rfl⟩:∃k',k=k'+1:=⟨k-1,by omega⟩
    rcases ok2 with _|_
    rotate_left
    rcases sD with _|lD
    ·refine aa (ae Ll Ll (bI Ll Ll bK (ae Ll Ll (al Ll (ae Ll Ll (al Ll (bI Ll Ll bK (aC Ll Ll Ll (ag (ab (bB Ll (af ?_))))))))))))
     obtain⟨wd,sd,kd,fin⟩:=lG (st:=st) (nd:=.mk ls uN [] (decide (tag=1)) []) hlt l2 g42 ex4 k24 rfl mLE (aD.cons hvo (aD.cons rfl (aD.cons rfl (aD.cons rfl (aD.cons rfl (aD.cons rfl (aD.cons rfl (aD.cons rfl (aD.cons rfl aD.nil))))))))) (fM (oE.rpx dX (by omega)) lF kI kI) re
     refine aa (am Ll Ll (kE.ld KM Ll (by kernel_rfl)) ?_)
     refine aq Ll Ll sd ?_
     refine ac Ll Ll (ag (ab (av (au (aV (au (aV (au ?_))))))))
     refine bJ Ll Ll Ll kd KM Ll (by kernel_rfl) ?_
     exact⟨_,rfl,fin false ⟨(fun e=>nomatch e),fun _=>pE qF (jt qU hR (zx q1 (hok2 rfl).1 q3 q4))⟩⟩
    ·refine aa (ae Ll Ll (bI Ll Ll bK (ae Ll Ll (al Ll (ae Ll Ll (al Ll (bI Ll Ll bK (aC Ll Ll Ll (ag (ab (cp Ll (ar ?_))))))))))))
     refine ab ?_
     have own:∀j,v.ownBlock=some j→w4.heap.size≤j∧j<wL.heap.size:=oL.lt
     have qLm:eE mq (some l) ⟨n1,gT up,q,ps⟩ (some lD):=tN q1 (hok2 rfl).1 q3 q4
     have hlD:=sv l _ lD qLm
     have hY:∀j,(j<w4.heap.size∨v.ownBlock=some j)→j<wL.heap.size:=fun j hj=>by
      rcases hj with hj|hj
      ·have:=mL.size;omega
      ·exact(own j hj).2
     have hM:=zB (l:=⟨n1,gT up,q,ps⟩) (rqe.weak (Y:=fun k=>k<w4.heap.size∨v.ownBlock=some k) fun j hj=>.inl (by have:=hY j hj;show j<wb.heap.size;omega)) (rpe.weak fun j hj=>.inl (by have:=hY j hj;show j<wc.heap.size;omega))
     obtain⟨x75,w75,v76,w76,hr75,hr76,o76,m76,n76⟩:=oE.push (ty:=78) (t:=78) KZ zA rfl (by omega) (by omega) (by omega) (aD.cons rfl (aD.cons rfl (aD.cons rfl (aD.cons hx.one (aD.cons hy.one (aD.cons hvp aD.nil)))))) hM dX (by omega) mLE.size
     have h76:ci g (some lD) w76:=re.mv m76 fun j hj=>by have:=own j hj;omega
     have k76:=m76.blk kE (fun hh=>by have:=own g4 hh;omega)
     obtain⟨A76,n76',c76,rfl⟩:=o76.isS
     obtain⟨wf,sf,qf,kf⟩:=k76.stC (P:=Tryz.prog) (t:=78) (i:=0) (v:=.slice A76 n76' c76) (by kernel_rfl) rfl (by simp)
     have kf:cd g4 83 [.slice A76 n76' c76,I 0,I 0,B false,.slice none 0 0,.slice none 0 0,.slice none 0 0,B (decide (tag=1)),.slice none 0 0] wf:=kf
     have mf:Mv (fun k=>k=g4) w76 wf:=Mv.of_grown qf fun k hk _=>(Option.some.inj hk).symm
     have hf:ci g (some lD) wf:=h76.mv mf fun j hj=>by omega
     have of':=o76.mv mf fun j hj=>by omega
     refine aa (ah Ll Ll (aF (o:=0) KM Ll (by kernel_rfl) Ll) (am Ll Ll (aj KZ Ll (kE.cell (i:=0) Ll)) ?_))
     refine am Ll Ll (ke.ld KX Ll (by kernel_rfl)) ?_
     refine aO (vs:=[(0,.agg #[I n1,B (gT up),B q.1,x,y,vp])]) Ll Ll hr75 ?_
     refine bc Ll Ll hr76 ?_
     refine ah Ll Ll (aF (o:=0) KM Ll (by kernel_rfl) Ll) ?_
     refine aq Ll Ll sf ?_
     refine ag (aJ ?_)
     refine fq (k') (.slice A76 n76' c76) (lD) (ls++[⟨n1,gT up,q,ps⟩]) ⟨rfl,rfl,rfl,rfl,rfl,trivial⟩ ⟨(mLE.trans m76 fun j hj hlt=>by have:=(own j hj).1;omega).trans mf fun _ hj _=>.inr hj,hf,kf,of',by simp;omega,jr hR qLm,by simp;omega,by omega⟩ (by omega)
    ·refine aa (ae Ll Ll (bI Ll Ll bK (ae Ll Ll (ao Ll Ll Ll (ao Ll Ll Ll (aw Ll Ll Ll (ag (ab (bB Ll (af ?_))))))))))
     obtain⟨wd,sd,kd,fin⟩:=lG (st:=st) (nd:=.mk ls uN [] (decide (tag=1)) []) hlt l2 g42 ex4 k24 rfl mLE (aD.cons hvo (aD.cons rfl (aD.cons rfl (aD.cons rfl (aD.cons rfl (aD.cons rfl (aD.cons rfl (aD.cons rfl (aD.cons rfl aD.nil))))))))) (fM (oE.rpx dX (by omega)) lF kI kI) re
     refine aa (am Ll Ll (kE.ld KM Ll (by kernel_rfl)) ?_)
     refine aq Ll Ll sd ?_
     refine ac Ll Ll (ag (ab (av (au (aV (au (aV (au ?_))))))))
     refine bJ Ll Ll Ll kd KM Ll (by kernel_rfl) ?_
     exact⟨_,rfl,fin false ⟨(fun e=>nomatch e),fun _=>pE qF (jt qU hR (zw q1 (hno2 rfl)))⟩⟩
   ·refine aa (ah Ll Ll (aF (o:=0) KM Ll (by kernel_rfl) Ll) (am Ll Ll (aj KZ Ll (kL.cell (i:=0) Ll)) ?_))
    refine aQ (r:=I ls.length) Ll Ll ((bR (f:=eI) KZ rL.rp)) (aR Ll Ll (kD KO KN) ?_)
    refine ae Ll Ll (ai Ll Ll Ll (cf (mt (Fj hll hN).1 (by omega)) dy) (ag (ab (cp Ll (aY (aB (aB (aX (ab (af (af ?_)))))))))))
    have qLs:eE fW (some l1) ls (some l):=iL qU (by subst h0;exact hR)
    have anL:yB (n-1) (some l):=fun l' e=>by cases e;exact hnl
    by_cases ht:tag<2
    ·refine aa (ae Ll Ll (ai (v:=bj 2) Ll Ll Ll (cg ((Fj htag (by omega)).2 ht) dy) (ag (ab (bB Ll (af (aa (ae Ll Ll (an rE Ll Ll ((rF hrL hlL)) ?_)))))))))
     rintro v82 w82 ⟨m82,ps,vp,s3,rfl,rp82,hvp,hr82,qP⟩
     have m82:=m82
     have k82:=m82.blk kL (fun e=>by have:g4=g:=e;omega)
     obtain⟨we,se,qe,ke⟩:=k82.stC (P:=Tryz.prog) (t:=81) (i:=8) (v:=vp) (by kernel_rfl) hvp (by simp)
     have ke:cd g4 83 [v,I 0,I 0,B false,.slice none 0 0,.slice none 0 0,.slice none 0 0,B (decide (tag=1)),vp] we:=ke
     have me:Mv (fun k=>k=g4) w82 we:=Mv.of_grown qe fun k hk _=>(Option.some.inj hk).symm
     have re:ci g s3 we:=hr82.mv me fun j hj=>by omega
     have hXL:∀j,RX g j→j<w4.heap.size:=fun j hj=>by have:j=g:=hj;omega
     have oE:=(oL.mv m82 hXL).mv me fun j hj=>by omega
     have mLE:Mv (fun k=>RX g k∨k=g4) w4 we:=(mL.trans m82 fun _ hj _=>.inl hj).trans me fun _ hj _=>.inr hj
     have rpe:=rp82.mv (me.weak fun j hj _=>by show j<wL.heap.size;omega) fun _ hk=>.inl hk
     obtain⟨wd,sd,kd,fin⟩:=lG (st:=st) (nd:=.mk ls uN [] (decide (tag=1)) ps) hlt l2 g42 ex4 k24 rfl mLE (aD.cons hvo (aD.cons rfl (aD.cons rfl (aD.cons rfl (aD.cons rfl (aD.cons rfl (aD.cons rfl (aD.cons rfl (aD.cons hvp aD.nil))))))))) (fM (oE.rpx dX (by omega)) lF kI (rpe.weak fun j hj=>.inl (by have:=mL.size;show j<wL.heap.size;omega))) re
     refine ae Ll Ll (ak Ll Ll (aT) (ak Ll Ll (aU) ?_))
     refine ah Ll Ll (aF (o:=8) KM Ll (by kernel_rfl) Ll) ?_
     refine aq Ll Ll se ?_
     refine ac Ll Ll (ag (ab (af (aa (am Ll Ll (ke.ld KM Ll (by kernel_rfl)) (ae Ll Ll ?_))))))
     refine aq Ll Ll sd ?_
     refine ac Ll Ll (ag (ab (av (au ?_))))
     refine bJ Ll Ll Ll kd KM Ll (by kernel_rfl) ?_
     exact⟨_,rfl,fin _ ⟨fun e=>⟨vL ht qF qLs qP,fun e3=>by rw[e3] at e;cases e⟩,fun e=>zr ht qF qLs (by
      cases s3 with
      |none=>exact qP
      |some t=>cases e)⟩⟩
    ·refine aa (ae Ll Ll (ai (v:=bj 2) Ll Ll Ll (cf (mt (Fj htag (by omega)).1 ht) dy) (ag (ab (cp Ll (ar (ab (af (aa (ae Ll Ll ?_))))))))))
     refine an Eo Ll Ll ((Ep hrL hlL)) ?_
     rintro v90 w90 ⟨m90,d,x,y,s3,rfl,rd90,hx,hy,hr90,qD⟩
     have m90:=m90
     have k90:=m90.blk kL (fun e=>by have:g4=g:=e;omega)
     obtain⟨we,se,qe,ke⟩:=k90.stO (P:=Tryz.prog) (t:=80) (m:=[I d.kd,I d.ix,B d.at_.1,x,y]) 1 (by simp) (by kernel_rfl) (aD.cons rfl (aD.cons rfl (aD.cons rfl (aD.cons hx (aD.cons hy aD.nil)))))
     have ke:cd g4 83 [v,I d.kd,I d.ix,B d.at_.1,x,y,.slice none 0 0,B (decide (tag=1)),.slice none 0 0] we:=ke
     have me:Mv (fun k=>k=g4) w90 we:=Mv.of_grown qe fun k hk _=>(Option.some.inj hk).symm
     have re:ci g s3 we:=hr90.mv me fun j hj=>by omega
     have hXL:∀j,RX g j→j<w4.heap.size:=fun j hj=>by have:j=g:=hj;omega
     have oE:=(oL.mv m90 hXL).mv me fun j hj=>by omega
     have mLE:Mv (fun k=>RX g k∨k=g4) w4 we:=(mL.trans m90 fun _ hj _=>.inl hj).trans me fun _ hj _=>.inr hj
     have rdE:=rd90.mv (me.weak fun j hj _=>by show j<wL.heap.size;omega) fun _ hk=>.inl hk
     have mm:cK (fun k=>k<w4.heap.size∨we.heap.size≤k) we (gD d) [I d.kd,I d.ix,B d.at_.1,x,y]:=rdE.weak fun j hj=>by
      rcases hj with hj|hj
      ·exact .inl (by have:=mL.size;show j<wL.heap.size;omega)
      ·exact .inr hj
     have rLI:cK (fun k=>k<w4.heap.size∨we.heap.size≤k) we (.sl (ls.map eI)) [v]:=(oE.rpx dX (by omega)).weak fun j hj=>hj
     have eT:decide (tag=1)=false:=decide_eq_false (by omega)
     refine ae Ll Ll (ak Ll Ll (aT) (ak Ll Ll (aU) ?_))
     refine ah Ll Ll (aF (o:=1) KM Ll (by kernel_rfl) Ll) ?_
     refine aq Ll Ll se ?_
     refine ac Ll Ll (ag (ab (af (af (aa (ac Ll Ll (ag (ab (ax ?_)))))))))
     refine si (fun(i:Nat) (vk:Value) (so:Option (List UInt8)) (ks:List aP) (ok:Bool)=>[(0,.pointer (some ⟨g,0,none⟩)),(2,.pointer (some ⟨g2,0,none⟩)),(4,.pointer (some ⟨g4,0,none⟩)),(6,B ok),(12,I i)]) (fun(i:Nat) (vk:Value) (so:Option (List UInt8)) (ks:List aP) (ok:Bool) w'=>Mv (fun k=>RX g k∨k=g4) w4 w'∧ci g so w'∧cd g4 83 [v,I d.kd,I d.ix,B d.at_.1,x,y,vk,B (decide (tag=1)),.slice none 0 0] w'∧fI 83 9 we.heap.size bM ks vk w'∧vO s3 i ks so ok∧ks.length=i∧i≤2∧cK (fun k=>k<w4.heap.size∨we.heap.size≤k) w' (.sl (ls.map eI)) [v]∧cK (fun k=>k<w4.heap.size∨we.heap.size≤k) w' (gD d) [I d.kd,I d.ix,B d.at_.1,x,y]∧we.heap.size≤w'.heap.size∧(ok=true→yB (n-1) so∧dH so)) (fun(i:Nat) (vk:Value) (so:Option (List UInt8)) (ks:List aP) (ok:Bool)=>2-i) (0) (.slice none 0 0) (s3) ([]) (s3.isSome) ⟨rfl,rfl,rfl,rfl,rfl,trivial⟩ ⟨mLE,re,ke,fI.nil _,⟨rfl,rfl,rfl⟩,rfl,by omega,rLI,mm,Nat.le_refl _,fun _=>⟨qD.atM mX.le anL,qD.atM mX.le hlL⟩⟩ ?_
     rintro i vk so ks ok wM ⟨mM,hrM,kM,oM,hK,hki,hi2,rLM,rdM,szM,hAt⟩
     refine af (af ?_)
     rcases ok with _|_
     rotate_left
     by_cases hi:i<2
     ·refine aa (ae Ll Ll (ae Ll Ll (al Ll (ae Ll Ll (al Ll (ai Ll Ll Ll (cg (by omega) aW) (aw Ll Ll Ll (ag (ab (bB Ll ?_))))))))))
      refine ar (ab (af (ax (af (aa ?_)))))
      obtain⟨g13,w13,hr13,l13,x13,k13⟩:=be (P:=Tryz.prog) (w:=wM) (t:=83) (z:=.agg #[.slice none 0 0,I 0,I 0,B false,.slice none 0 0,.slice none 0 0,.slice none 0 0,B false,.slice none 0 0]) (l:=[.slice none 0 0,I 0,I 0,B false,.slice none 0 0,.slice none 0 0,.slice none 0 0,B false,.slice none 0 0]) (by kernel_rfl) rfl
      refine bf Ll hr13 (ag (ab (af ?_)))
      have hrM13:=ci.ext hrM x13
      have e13:=x13
      have lt13:=k13.lt
      have szM13:=e13.size
      have hg13:g<g13:=by have:=mM.size;omega
      refine aa (ae Ll Ll (an tW Ll Ll ((ih (m:=n-1) (by omega) hrM13 (hAt Ll).2 (hAt Ll).1)) ?_))
      rintro v103 w103 ⟨m103,nd,cs,s6,ok6,rfl,rp103,h1cs,hr103,hNd⟩
      have m103:=m103
      have hcs:cs.length=9:=rp103.len.trans (bD nd)
      have k103:=m103.blk k13 (fun e=>by have:g13=g:=e;omega)
      obtain⟨wn,sn,qn,kn⟩:=k103.stS (P:=Tryz.prog) (t:=83) (m:=cs) (by rw[hcs];rfl) (by rw[hcs];kernel_rfl) h1cs
      have mn:Mv (fun k=>k=g13) w103 wn:=Mv.of_grown qn fun k hk _=>(Option.some.inj hk).symm
      have rn:ci g s6 wn:=hr103.mv mn fun j hj=>by omega
      have mAll:Mv (RX g) wM wn:=((Mv.of_ext e13).trans m103 fun _ hj _=>hj).trans mn fun j hj hlt=>by omega
      have hXE:∀j,RX g j→j<we.heap.size:=fun j hj=>by have:j=g:=hj;have:=mLE.size;omega
      have oN:=oM.mv mAll hXE
      have kN:=mAll.blk kM (fun e=>by have:g4=g:=e;omega)
      have mN:Mv (fun k=>RX g k∨k=g4) w4 wn:=mM.trans mAll fun _ hj _=>.inl hj
      have rpn:=rp103.mv (mn.weak fun j hj _=>by show j<w13.heap.size;omega) fun _ hk=>.inl hk
      have own:∀j,vk.ownBlock=some j→we.heap.size≤j∧j<wM.heap.size:=oM.lt
      have hY:∀j,(j<we.heap.size∨vk.ownBlock=some j)→j<w13.heap.size:=fun j hj=>by
       rcases hj with hj|hj
       ·omega
       ·have:=(own j hj).2;omega
      obtain⟨x109,w109,v110,w110,hr109,hr110,o110,m110,n110⟩:=oN.push (ty:=23) (t:=23) KR kH rfl (by omega) (by omega) (by omega) h1cs (rpn.weak fun j hj=>.inl (hY j hj)) bD (by omega) (Nat.le_trans szM mAll.size)
      have h110:ci g s6 w110:=rn.mv m110 fun j hj=>by have:=own j hj;have:=mLE.size;omega
      have k110:=m110.blk kN (fun hh=>by have:=own g4 hh;have:=mLE.size;omega)
      obtain⟨A110,n110',c110,rfl⟩:=o110.isS
      obtain⟨wf,sf,qf,kf⟩:=k110.stC (P:=Tryz.prog) (t:=23) (i:=6) (v:=.slice A110 n110' c110) (by kernel_rfl) rfl (by simp)
      have kf:cd g4 83 [v,I d.kd,I d.ix,B d.at_.1,x,y,.slice A110 n110' c110,B (decide (tag=1)),.slice none 0 0] wf:=kf
      have mf:Mv (fun k=>k=g4) w110 wf:=Mv.of_grown qf fun k hk _=>(Option.some.inj hk).symm
      have hf:ci g s6 wf:=h110.mv mf fun j hj=>by omega
      have of':=o110.mv mf fun j hj=>by have:=mLE.size;omega
      have mI:Mv (fun k=>k<w4.heap.size∨we.heap.size≤k) wM wf:=((mAll.weak fun j hj _=>.inl (by have:j=g:=hj;omega)).trans m110 fun j hj _=>.inr (own j hj).1).trans mf fun j hj _=>.inl (by omega)
      have rLf:=rLM.mv mI fun _ hk=>.inl hk
      have rdf:=rdM.mv mI fun _ hk=>.inl hk
      refine ae Ll Ll (ak Ll Ll (aT) (ak Ll Ll (aU) ?_))
      refine aq Ll Ll sn ?_
      refine ac Ll Ll (ag (ab (aa (ah Ll Ll (aF (o:=6) KM Ll (by kernel_rfl) Ll) (am Ll Ll (aj KR Ll (kN.cell (i:=6) Ll)) ?_)))))
      refine am Ll Ll (kn.ld KM Ll (by rw[hcs];kernel_rfl)) ?_
      refine aO (vs:=[(0,.agg cs.toArray)]) Ll Ll hr109 ?_
      refine bc Ll Ll hr110 ?_
      refine ah Ll Ll (aF (o:=6) KM Ll (by kernel_rfl) Ll) ?_
      refine aq Ll Ll sf ?_
      refine ag (aJ (ab (aa (ae Ll Ll (ai Ll Ll Ll (aK (by omega) (by omega)) (ac Ll Ll (ag ?_)))))))
      refine fT (i+1) (.slice A110 n110' c110) (s6) (ks++[nd]) (ok6) ⟨rfl,rfl,rfl,rfl,rfl,trivial⟩ ⟨(mN.trans m110 fun j hj hlt=>by have:=(own j hj).1;have:=mLE.size;omega).trans mf fun _ hj _=>.inr hj,hf,kf,of',hK.step hi hNd,by simp;omega,by omega,rLf,rdf,Nat.le_trans szM (Nat.le_trans mAll.size (Nat.le_trans m110.size mf.size)),fun e=>⟨(hNd.1 e).1.atM lz.le (hAt Ll).1,(hNd.1 e).1.atM lz.le (hAt Ll).2⟩⟩ (by omega)
     ·refine aa (ae Ll Ll (ae Ll Ll (al Ll (ae Ll Ll (al Ll (ai Ll Ll Ll (cf (by omega) aW) (aw Ll Ll Ll (ag (ab (cp Ll ?_))))))))))
      refine aY (aB (aB (aX (ab (af ?_)))))
      have hvk:vk.oneCell'=true:=by obtain⟨_,_,_,rfl⟩:=oM.isS;rfl
      obtain⟨wd,sd,kd,fin⟩:=lG (st:=st) (nd:=.mk ls d ks (decide (tag=1)) []) hlt l2 g42 ex4 k24 rfl mM (aD.cons hvo (aD.cons rfl (aD.cons rfl (aD.cons rfl (aD.cons hx (aD.cons hy (aD.cons hvk (aD.cons rfl (aD.cons rfl aD.nil))))))))) (fM (rLM.weak fun j hj=>.inl (.inl hj)) (rdM.weak fun j hj=>.inl (.inl hj)) ((oM.rpx bD (by omega)).weak fun j hj=>.inl (by have:=mLE.size;show j<we.heap.size;omega)) kI) hrM
      refine aa (am Ll Ll (kM.ld KM Ll (by kernel_rfl)) (ae Ll Ll ?_))
      refine aq Ll Ll sd ?_
      refine ac Ll Ll (ag (ab (av ?_)))
      refine bJ Ll Ll Ll kd KM Ll (by kernel_rfl) ?_
      exact⟨_,rfl,fin true (by rw[eT];exact hK.done (.inr (by omega)) ht qF qLs qD)⟩
     ·refine aa (ae Ll Ll (ae Ll Ll (ao Ll Ll Ll (ao Ll Ll Ll (aC Ll Ll Ll (ag (ab (cp Ll (aY (aB (aB (aX (ab (af ?_))))))))))))))
      have hvk:vk.oneCell'=true:=by obtain⟨_,_,_,rfl⟩:=oM.isS;rfl
      obtain⟨wd,sd,kd,fin⟩:=lG (st:=st) (nd:=.mk ls d ks (decide (tag=1)) []) hlt l2 g42 ex4 k24 rfl mM (aD.cons hvo (aD.cons rfl (aD.cons rfl (aD.cons rfl (aD.cons hx (aD.cons hy (aD.cons hvk (aD.cons rfl (aD.cons rfl aD.nil))))))))) (fM (rLM.weak fun j hj=>.inl (.inl hj)) (rdM.weak fun j hj=>.inl (.inl hj)) ((oM.rpx bD (by omega)).weak fun j hj=>.inl (by have:=mLE.size;show j<we.heap.size;omega)) kI) hrM
      refine aa (am Ll Ll (kM.ld KM Ll (by kernel_rfl)) (ae Ll Ll ?_))
      refine aq Ll Ll sd ?_
      refine ac Ll Ll (ag (ab (av ?_)))
      refine bJ Ll Ll Ll kd KM Ll (by kernel_rfl) ?_
      exact⟨_,rfl,fin false (by rw[eT];exact hK.done (.inl rfl) ht qF qLs qD)⟩
theorem Bk:∀(n:Nat) {w:World} {g:Nat} {st:Option (List UInt8)},ci g st w→dH st→yB n st→Calls Tryz.prog 116 #[.pointer (some ⟨g,0,none⟩)] w (bE (CR g w st)):=by
 intro n
 induction n using Nat.strongRecOn with
 |_ n ih=>exact fun hr hl hn=>Bj (n:=n) (fun {w g st m} hm h1 h2 h3=>ih m hm h1 h2 h3) hr hl hn
end Go.Rl
namespace Go.Rl
open Go.RowKit Go.Proofs
theorem H1 {w:World} {g:Nat} {st:Option (List UInt8)} (hr:ci g st w):Calls Tryz.prog 115 #[.pointer (some ⟨g,0,none⟩)] w (bE fun r w'=>w=w'∧r=I (if st=some [] then 0 else 5)):=(ow hr).mono fun _ _ ⟨v,h,h1,h2⟩=>⟨v,h,h2.symm,h1⟩
theorem Js {P:Program} {w:World} {t:TypeId} {x y:Operand} {l:List UInt8}:(bin .eql t x y (I (if some l=some [] then 0 else 5)) (I 0)).run P w=.ok (B (decide (l=[]))) w:=by
 by_cases h:l=[]
 ·subst h
  exact aZ
 ·rw[if_neg (fun e=>h (Option.some.inj e)),decide_eq_false h]
  exact aZ
theorem zC {w:World} {b:List UInt8} {v:Value} (hv:cm b v w) (hl:b.length≤549755813888):
 Calls Tryz.prog 57 #[v] w (bE fun r w'=>aI w w'∧∃(ts:List aP) (vt:Value) (ok:Bool),r=.tuple #[vt,B ok]∧cK (fun k=>k<w.heap.size) w' (.sl (ts.map bM)) [vt]∧vt.oneCell'=true∧(ok=true→mr b=some (ts,[]))∧(ok=false→∀ts',mr b≠some (ts',[]))):=by
 refine enter (vs:=[v]) Tryz.func57 Ll Ll Ll ?_
 obtain⟨N,s1,qU,hN,cU⟩:=xK (some b)
 have hb:dH (some b):=fun l e=>by cases e;exact hl
 refine af (aa (ac Ll Ll (ac Ll Ll (ag (ab (af (aa (ae Ll Ll (an vC Ll Ll ((vD hv (by omega))) ?_)))))))))
 rintro v11 w11 ⟨x11,g,lg,rfl,hr11⟩
 refine ac Ll Ll (ag (ab (af (aa (ae Ll Ll (an cI Ll Ll ((cU hr11)) ?_))))))
 rintro v14 w14 ⟨g14,rfl,hr14⟩
 have m14:=dS.kp hr11 g14
 have hl1:dH s1:=qU.atM jc.le hb
 have hgl:=ci.lt hr11
 refine ae Ll Ll (ak Ll Ll (aT) (ak Ll Ll (aU) (ac Ll Ll (ac Ll Ll (ag (ab (af (aa (ac Ll Ll (ag (ab (af ?_))))))))))))
 refine aa (ae Ll Ll (ai (r:=B s1.isSome) Ll Ll Ll (Gs) (ac Ll Ll (ag (ab (af (ax ?_)))))))
 refine si (fun(k:Nat) (v:Value) (so:Option (List UInt8)) (ts:List aP) (ok:Bool)=>[(4,.pointer (some ⟨g,0,none⟩)),(5,bj (UInt64.ofNat N)),(7,v),(8,B ok)]) (fun(k:Nat) (v:Value) (so:Option (List UInt8)) (ts:List aP) (ok:Bool) w'=>Mv (RX g) w11 w'∧ci g so w'∧fI 83 9 w11.heap.size bM ts v w'∧k+ts.length=N∧ts.length≤549755813890∧(ok=true→∃l,so=some l∧s1.bind (cr eC N)=(some l).bind (fun l=>(cr eC k l).map fun p=>(ts++p.1,p.2))∧l.length+ts.length≤549755813888)∧(ok=false→(some b).bind mr=none)) (fun(k:Nat) (v:Value) (so:Option (List UInt8)) (ts:List aP) (ok:Bool)=>k) (N) (.slice none 0 0) (s1) ([]) (s1.isSome) ⟨rfl,rfl,rfl,rfl,trivial⟩ ⟨Mv.of_grown g14 fun k hk _=>(Option.some.inj hk).symm,hr14,fI.nil _,by simp,by simp,(fun e=>by
  cases s1 with
  |none=>cases e
  |some l=>exact⟨l,rfl,iJ,by have:=hl1 l rfl;simpa using this⟩),fun e=>by
  cases s1 with
  |none=>exact js (done:=([]:List aP)) qU rfl
  |some l=>cases e⟩ ?_
 rintro k v so ts ok wL ⟨mL,hrL,oL,hk,htl,hT,hF⟩
 refine af (af ?_)
 have rL:=oL.rpx bD (by omega)
 have hvo:v.oneCell'=true:=by obtain⟨_,_,_,rfl⟩:=oL.isS;rfl
 have hnl:ts.length<18446744073709551616:=by omega
 have hgL:g<wL.heap.size:=by have:=mL.size;omega
 have exL:aI w wL:=Mv.ext_from mL x11 fun j hj=>by have:j=g:=hj;omega
 rcases ok with _|_
 rotate_left
 obtain⟨l,rfl,hR,hql⟩:=hT rfl
 rcases Nat.eq_zero_or_pos k with h0|h0
 rotate_left
 ·refine aa (ae Ll Ll (ae Ll Ll (al Ll (ae Ll Ll (al Ll (aQ (r:=I ts.length) Ll Ll ((bR (f:=bM) KR rL.rp)) ?_))))))
  refine al Ll (aR Ll Ll (kD KO KN) (al Ll (ae Ll Ll (al Ll (ai Ll Ll Ll (cg ((Fj hnl hN).2 (by omega)) dy) ?_)))))
  refine aw Ll Ll Ll (ag (ab (bB Ll (ar (ab (ax (af (aa ?_))))))))
  obtain⟨g9,w9,hr9,l9,x9,k9⟩:=be (P:=Tryz.prog) (w:=wL) (t:=83) (z:=.agg #[.slice none 0 0,I 0,I 0,B false,.slice none 0 0,.slice none 0 0,.slice none 0 0,B false,.slice none 0 0]) (l:=[.slice none 0 0,I 0,I 0,B false,.slice none 0 0,.slice none 0 0,.slice none 0 0,B false,.slice none 0 0]) (by kernel_rfl) rfl
  refine bf Ll hr9 (ag (ab (af ?_)))
  have hrM9:=ci.ext hrL x9
  have e9:=x9
  have lt9:=k9.lt
  have szM9:=e9.size
  have hg9:g<g9:=by omega
  have hll:dH (some l):=fun l' e=>by cases e;omega
  refine aa (ae rfl rfl (an tW rfl rfl ((Bk l.length hrM9 hll (fun l' e=>by cases e;exact Nat.le_refl _))) ?_))
  rintro v29 w29 ⟨m29,nd,cs,s6,ok6,rfl,rp29,h1cs,hr29,hNd⟩
  have m29:=m29
  have hcs:cs.length=9:=rp29.len.trans (bD nd)
  have k29:=m29.blk k9 (fun e=>by have:g9=g:=e;omega)
  obtain⟨wn,sn,qn,kn⟩:=k29.stS (P:=Tryz.prog) (t:=83) (m:=cs) (by rw[hcs];rfl) (by rw[hcs];kernel_rfl) h1cs
  have mn:Mv (fun k=>k=g9) w29 wn:=Mv.of_grown qn fun k hk _=>(Option.some.inj hk).symm
  have rn:ci g s6 wn:=hr29.mv mn fun j hj=>by omega
  have mAll:Mv (RX g) wL wn:=((Mv.of_ext e9).trans m29 fun _ hj _=>hj).trans mn fun j hj hlt=>by omega
  have hXE:∀j,RX g j→j<w11.heap.size:=fun j hj=>by have:j=g:=hj;omega
  have oN:=oL.mv mAll hXE
  have rpn:=rp29.mv (mn.weak fun j hj _=>by show j<w9.heap.size;omega) fun _ hk=>.inl hk
  have own:∀j,v.ownBlock=some j→w11.heap.size≤j∧j<wL.heap.size:=oL.lt
  have hY:∀j,(j<w11.heap.size∨v.ownBlock=some j)→j<w9.heap.size:=fun j hj=>by
   rcases hj with hj|hj
   ·have:=mL.size;omega
   ·have:=(own j hj).2;omega
  obtain⟨x34,w34,v35,w35,hr34,hr35,o35,m35,n35⟩:=oN.push (ty:=23) (t:=23) KR kH rfl (by omega) (by omega) (by omega) h1cs (rpn.weak fun j hj=>.inl (hY j hj)) bD (by omega) (Nat.le_trans mL.size mAll.size)
  have h35:ci g s6 w35:=rn.mv m35 fun j hj=>by have:=own j hj;omega
  refine ae Ll Ll (ak Ll Ll (aT) (ak Ll Ll (aU) ?_))
  refine aq Ll Ll sn ?_
  refine ac Ll Ll (ag (ab (aa (ae Ll Ll ?_))))
  refine am Ll Ll (kn.ld KM Ll (by rw[hcs];kernel_rfl)) ?_
  refine aO (vs:=[(0,.agg cs.toArray)]) Ll Ll hr34 ?_
  refine bc Ll Ll hr35 ?_
  obtain⟨k',rfl⟩:∃k',k=k'+1:=⟨k-1,by omega⟩
  refine ac Ll Ll (ag (aJ ?_))
  refine fT (k') (v35) (s6) (ts++[nd]) (ok6) ⟨rfl,rfl,rfl,rfl,trivial⟩ ⟨(mL.trans mAll fun _ hj _=>hj).trans m35 fun j hj hlt=>by have:=(own j hj).1;omega,h35,o35,by simp;omega,by simp;omega,(fun e=>by
   obtain⟨h6,h7⟩:=hNd.1 e
   obtain⟨l6,rfl⟩:∃l6,s6=some l6:=by
    cases s6 with
    |none=>exact absurd rfl h7
    |some l6=>exact⟨l6,rfl⟩
   have:=lz l _ l6 h6
   exact⟨l6,rfl,jr hR h6,by simp;omega⟩),fun e=>jt qU hR (hNd.2 e)⟩ (by omega)
 ·refine aa (ae Ll Ll (ae Ll Ll (ao Ll Ll Ll (ao Ll Ll Ll (ao Ll Ll Ll (ao Ll Ll Ll (ao Ll Ll Ll (aC Ll Ll Ll (ag (ab (cp Ll ?_)))))))))))
  refine aY (aB (aB (aX (ab (af (aa (ae Ll Ll (ae Ll Ll (ae Ll Ll (ao Ll Ll Ll (ao Ll Ll Ll (ao Ll Ll Ll (aC Ll Ll Ll ?_)))))))))))))
  refine ac Ll Ll (ac Ll Ll (ag (ab (av (aM Ll Ll Ll ?_)))))
  exact⟨_,rfl,exL,ts,v,false,rfl,rL.weak fun j hj=>.inl (by have:=x11.size;show j<w11.heap.size;omega),hvo,(fun e=>nomatch e),fun _ ts' e=>by
   have h:mr b=none:=hF rfl
   rw[h] at e
   cases e⟩
 ·refine aa (ae Ll Ll (ae Ll Ll (al Ll (ae Ll Ll (al Ll (aQ (r:=I ts.length) Ll Ll ((bR (f:=bM) KR rL.rp)) ?_))))))
  refine al Ll (aR Ll Ll (kD KO KN) (al Ll (ae Ll Ll (al Ll (ai Ll Ll Ll (cf (mt (Fj hnl hN).1 (by omega)) dy) ?_)))))
  refine aw Ll Ll Ll (ag (ab (cp Ll (aY (aB (aB (aX (ab (af (aa (ae Ll Ll (ae Ll Ll (ae Ll Ll (al Ll (ae Ll Ll (al Ll ?_))))))))))))))))
  refine an ov Ll Ll ((H1 hrL)) ?_
  rintro v40 _ ⟨rfl,rfl⟩
  refine al Ll (ai (r:=B (decide (l=[]))) Ll Ll Ll (Js) (aw Ll Ll Ll (ac Ll Ll (ac Ll Ll (ag (ab (av (aM Ll Ll Ll ?_))))))))
  exact⟨_,rfl,exL,ts,v,decide (l=[]),rfl,rL.weak fun j hj=>.inl (by have:=x11.size;show j<w11.heap.size;omega),hvo,(fun e=>by
   subst h0
   have h:mr b=some (ts,l):=iL qU hR
   rw[h,of_decide_eq_true e]),fun e ts' e2=>by
   subst h0
   have h:mr b=some (ts,l):=iL qU hR
   rw[h] at e2
   simp only[Option.some.injEq,Prod.mk.injEq] at e2
   exact of_decide_eq_false e e2.2⟩
end Go.Rl
namespace Go.Rl
open Go.RowKit Go.Proofs
theorem lH:ay Tryz.prog 110:=⟨_,Tryz.func110,by kernel_rfl,rfl⟩
theorem gE:ay Tryz.prog 176:=⟨_,Tryz.func176,by kernel_rfl,rfl⟩
theorem oH:ay Tryz.prog 178:=⟨_,Tryz.func178,by kernel_rfl,rfl⟩
theorem pH:ay Tryz.prog 146:=⟨_,Tryz.func146,by kernel_rfl,rfl⟩
theorem Er:ay Tryz.prog 149:=⟨_,Tryz.func149,by kernel_rfl,rfl⟩
theorem rG:ay Tryz.prog 148:=⟨_,Tryz.func148,by kernel_rfl,rfl⟩
theorem Bl:ay Tryz.prog 147:=⟨_,Tryz.func147,by kernel_rfl,rfl⟩
theorem oI:ay Tryz.prog 112:=⟨_,Tryz.func112,by kernel_rfl,rfl⟩
def JT:Value:=.iface 167 (.agg #[])
def uP (c:List PanicEntry):Prop:=c=[{v:=JT,recovered:=false}]
theorem xL {P:Program} {w:World} {t:TypeId} {fs:Array Field} {v:Value} (h:P.underlying t=some (.struct fs)):(Instr.makeInterface t v).run P w=.ok (.iface t v) w:=by
 simp[Instr.makeInterface,run_underlying h]
theorem xM (st:Option (List UInt8)):∃n s1,eE db st n s1∧n<18446744073709551616∧∀{w:World} {g:Nat},bb g st w→Calls Tryz.prog 111 #[.pointer (some ⟨g,0,none⟩)] w (bE fun r w'=>w.grownBy w' (some g)∧r=.tuple #[bj (UInt64.ofNat n),I (if s1.isSome=true then 0 else 5)]∧bb g s1 w'):=by
 cases hU:st.bind db with
 |none=>exact⟨0,none,hU,by omega,fun hr=>IP hr hU⟩
 |some p=>
  obtain⟨n,t⟩:=p
  refine⟨n,some t,hU,?_,fun hr=>IQ hr hU⟩
  cases st with
  |none=>cases hU
  |some l=>exact(ee (show db l=some (n,t) from hU)).2
theorem oJ (st:Option (List UInt8)):∃n s1,eE mm st n s1∧nE n∧∀{w:World} {g:Nat},bb g st w→Calls Tryz.prog 177 #[.pointer (some ⟨g,0,none⟩)] w (bE fun r w'=>w.grownBy w' (some g)∧r=.tuple #[I n,I (if s1.isSome=true then 0 else 5)]∧bb g s1 w'):=by
 cases hU:st.bind db with
 |none=>
  refine⟨0,none,?_,by unfold nE;omega,fun hr=>Kh hr hU⟩
  cases st with
  |none=>rfl
  |some l=>show(db l).map _=none;rw[show db l=none from hU];rfl
 |some p=>
  obtain⟨n,t⟩:=p
  have hI:eE mm st (uz n) (some t):=by
   cases st with
   |none=>cases hU
   |some l=>show(db l).map _=_;rw[show db l=some (n,t) from hU];rfl
  exact⟨uz n,some t,hI,xD hI,fun hr=>Ki hr hU⟩
def rU (b:Nat) (q:fQ):dC:=fun v w=>∃x y,v=.agg #[B q.1,x,y]∧cK (fun k=>k<b) w (gi q) [B q.1,x,y]
def pI (b:Nat) (q:fQ) (e:Int):dC:=fun v w=>∃x y,v=.tuple #[.agg #[B q.1,x,y],I e]∧cK (fun k=>k<b) w (gi q) [B q.1,x,y]
theorem rU.stable {b g:Nat} {q:fQ} (hg:g<b):bT (Mv (RX g)) (rU b q):=fun _ _ _ ⟨x,y,h,h2⟩ hm=>⟨x,y,h,h2.mv (hm.weak fun j hj _=>by have:j=g:=hj;show j<b;omega) fun _ hk=>.inl hk⟩
theorem pI.stable {b g:Nat} {q:fQ} {e:Int} (hg:g<b):bT (Mv (RX g)) (pI b q e):=fun _ _ _ ⟨x,y,h,h2⟩ hm=>⟨x,y,h,h2.mv (hm.weak fun j hj _=>by have:j=g:=hj;show j<b;omega) fun _ hk=>.inl hk⟩
theorem pI.up {b c:Nat} {q:fQ} {e:Int} {v:Value} {w:World} (hc:b≤c) (h:pI c q e v w):pI b q e v w:=by
 obtain⟨x,y,h1,h2⟩:=h
 exact⟨x,y,h1,h2.weak fun j hj=>.inl (Nat.lt_of_lt_of_le hj hc)⟩
theorem gU {X:Nat→Prop} {w:World} {q:fQ} {x y:Value} (h:cK X w (gi q) [B q.1,x,y]):x.oneCell'=true∧y.oneCell'=true:=by
 obtain⟨x',y',he,hx,hy⟩:=mS h.rp
 simp only[List.cons.injEq] at he
 obtain⟨_,rfl,rfl,_⟩:=he
 obtain⟨_,_,_,rfl⟩:=hx.isS
 obtain⟨_,_,_,rfl⟩:=hy.isS
 exact⟨rfl,rfl⟩
theorem Bm (st:Option (List UInt8)):∃q s1,eE j6 st q s1∧(dH st→∀{w:World} {g:Nat},bb g st w→Calls Tryz.prog 179 #[.pointer (some ⟨g,0,none⟩)] w (bE fun r w'=>w.grownBy w' (some g)∧pI w.heap.size q (if s1.isSome=true then 0 else 5) r w'∧bb g s1 w')):=by
 cases hR:st.bind j6 with
 |none=>
  refine⟨(false,[],[]),none,hR,fun hl w g hr=>(tH hr hl).mono fun r w' ⟨r',he,h1,h2⟩=>⟨r',he,h1,?_⟩⟩
  rw[hR] at h2
  obtain⟨v,h3,⟨x,y,rfl,hx,hy⟩,h4⟩:=h2
  have hn:∀{z:Value},bo [] z w'→cK (fun k=>k<w.heap.size) w' (jC []) [z]:=fun {z} hz=>by
   obtain⟨A,n,c,rfl,h5,h6,h7,h8,h9⟩:=hz
   simp only[jC,List.map_nil,cK]
   have:n=0:=by simp at h7;omega
   subst this
   exact⟨A,0,c,rfl,rfl,h5,h6,h9,fun h=>by omega⟩
  refine⟨⟨x,y,h3,?_⟩,h4⟩
  simp only[gi,cK]
  exact aL.cons (a:=[B false]) (by simp only[cK,B]) (aL.cons (hn hx) (aL.cons (b:=[]) (hn hy) aL.nil))
 |some p=>
  obtain⟨q,t⟩:=p
  refine⟨q,some t,hR,fun hl w g hr=>(tH hr hl).mono fun r w' ⟨r',he,h1,h2⟩=>⟨r',he,h1,?_⟩⟩
  rw[hR] at h2
  obtain⟨x,y,h3,hx,hy,h4,n1,n2⟩:=h2
  refine⟨⟨x,y,h3,?_⟩,h4⟩
  simp only[gi,cK]
  exact aL.cons (a:=[B q.1]) (by simp only[cK,B]) (aL.cons (n1.rpx' hx) (aL.cons (b:=[]) (n2.rpx' hy) aL.nil))
theorem bb.stableZ {g:Nat} {st:Option (List UInt8)}:cE (bb g st):=fun _ _ h hx=>h.ext hx
theorem gV {Z:iN} {p:Prop} (h:cE Z):cE (fun w=>Z w∧p):=fun _ _ hz hx=>⟨h _ _ hz.1 hx,hz.2⟩
theorem bb.mv {g:Nat} {st:Option (List UInt8)} {X:Nat→Prop} {w w':World} (h:bb g st w) (hm:Mv X w w') (hX:∀k,X k→g<k):bb g st w':=dS.mv h.rdT hm hX
theorem eE.none_of {α:Type} {f:List UInt8→Option (α×List UInt8)} {st s1:Option (List UInt8)} {a:α} (h:eE f st a s1) (e:st=none):s1=none:=by
 subst e
 cases s1 with
 |none=>rfl
 |some t=>cases h
theorem lI {w:World} {n:UInt64} {s:Option (List UInt8)}:Calls Tryz.prog 110 #[bj n,I (if s.isSome=true then 0 else 5)] w (lB (fun r w'=>w=w'∧r=bj n∧s≠none) (fun c w'=>w=w'∧uP c∧s=none)):=by
 refine enter (vs:=[bj n,I (if s.isSome=true then 0 else 5)]) Tryz.func110 Ll Ll Ll ?_
 refine af (aa (ac Ll Ll (ag (ab (af (af ?_))))))
 rcases s with _|t
 ·refine aa (ae Ll Ll (ai Ll Ll Ll (cg (by simp) bL) (ag (ab (bB Ll (aa (bm (vs:=[]) (r:=.agg #[]) Ll Ll (run_build _ _ _ _ (by kernel_rfl)) ?_)))))))
  refine jR (r:=.iface 167 (.agg #[])) Ll Ll (xL Lg) ?_
  exact sw rfl fun a ha=>⟨ha.defers,.inr ⟨_,rfl,rfl,rfl,rfl⟩⟩
 ·refine aa (ae Ll Ll (ai Ll Ll Ll (cf (by simp) bL) (ag (ab (cp Ll (ar (ab (af (aa (ae Ll Ll (ac Ll Ll (ag (ab (av ?_))))))))))))))
  refine aG Ll Ll ?_
  exact .inl ⟨_,rfl,rfl,rfl,by simp⟩
theorem Bo {w:World} {n:Int} {s:Option (List UInt8)}:Calls Tryz.prog 176 #[I n,I (if s.isSome=true then 0 else 5)] w (lB (fun r w'=>w=w'∧r=I n∧s≠none) (fun c w'=>w=w'∧uP c∧s=none)):=by
 refine enter (vs:=[I n,I (if s.isSome=true then 0 else 5)]) Tryz.func176 Ll Ll Ll ?_
 refine af (aa (ac Ll Ll (ag (ab (af (af ?_))))))
 rcases s with _|t
 ·refine aa (ae Ll Ll (ai Ll Ll Ll (cg (by simp) bL) (ag (ab (bB Ll (aa (bm (vs:=[]) (r:=.agg #[]) Ll Ll (run_build _ _ _ _ (by kernel_rfl)) ?_)))))))
  refine jR (r:=.iface 167 (.agg #[])) Ll Ll (xL Lg) ?_
  exact sw rfl fun a ha=>⟨ha.defers,.inr ⟨_,rfl,rfl,rfl,rfl⟩⟩
 ·refine aa (ae Ll Ll (ai Ll Ll Ll (cf (by simp) bL) (ag (ab (cp Ll (ar (ab (af (aa (ae Ll Ll (ac Ll Ll (ag (ab (av ?_))))))))))))))
  refine aG Ll Ll ?_
  exact .inl ⟨_,rfl,rfl,rfl,by simp⟩
theorem Bp {w:World} {q:fQ} {X:Nat→Prop} {x y:Value} {s:Option (List UInt8)} (hq:cK X w (gi q) [B q.1,x,y]):Calls Tryz.prog 178 #[.agg #[B q.1,x,y],I (if s.isSome=true then 0 else 5)] w (lB (fun r w'=>aI w w'∧r=.agg #[B q.1,x,y]∧s≠none) (fun c w'=>aI w w'∧uP c∧s=none)):=by
 refine enter (vs:=[.agg #[B q.1,x,y],I (if s.isSome=true then 0 else 5)]) Tryz.func178 Ll Ll Ll ?_
 have h1:=(gU hq).1
 have h2:=(gU hq).2
 obtain⟨x',y',he,hx,hy⟩:=mS hq.rp
 simp only[List.cons.injEq] at he
 obtain⟨_,rfl,rfl,_⟩:=he
 refine af (aa ?_)
 obtain⟨g2,w2,hr2,l2,x2,k2⟩:=dc (P:=Tryz.prog) (w:=w) (T:=55) (cs:=[B q.1,x,y])
 refine cL Ll Ll hr2 ?_
 obtain⟨g4,w4,hr4,l4,x4,k4⟩:=be (P:=Tryz.prog) (w:=w2) (t:=55) (z:=.agg #[B false,.slice none 0 0,.slice none 0 0]) (l:=[B false,.slice none 0 0,.slice none 0 0]) (by kernel_rfl) rfl
 refine bf Ll hr4 (ag (ab (af (af ?_))))
 rcases s with _|t
 ·refine aa (ae Ll Ll (ai Ll Ll Ll (cg (by simp) bL) (ag (ab (bB Ll (aa (bm (vs:=[]) (r:=.agg #[]) Ll Ll (run_build _ _ _ _ (by kernel_rfl)) ?_)))))))
  refine jR (r:=.iface 167 (.agg #[])) Ll Ll (xL Lg) ?_
  exact sw rfl fun a ha=>⟨ha.defers,.inr ⟨_,rfl,(x2.trans x4),rfl,rfl⟩⟩
 ·refine aa (ae Ll Ll (ai Ll Ll Ll (cf (by simp) bL) (ag (ab (cp Ll (ar (ab (af (aa (am Ll Ll ((k2.ext x4).ld Tryz.underlying55 Ll (by kernel_rfl)) ?_))))))))))
  obtain⟨w3_1,s3_1,q3_1,k3_1⟩:=k4.stS (P:=Tryz.prog) (t:=55) (m:=[B q.1,x,y]) rfl (by kernel_rfl) (aD.cons rfl (aD.cons hx.one (aD.cons hy.one aD.nil)))
  refine aq Ll Ll s3_1 ?_
  have x3_1:=aI.of_new (x4) q3_1 l4
  refine ag (ab (av ?_))
  refine dR Ll Ll k3_1 KP Ll (by kernel_rfl) ?_
  exact .inl ⟨_,rfl,(x2.trans x3_1),rfl,by simp⟩
section
variable {w0 w:World} {g b:Nat} {s1:Option (List UInt8)} {n:Int} {q:fQ} {E:Prop} {f:FuncId} {args:Array Value} {Pn:List PanicEntry→World→Prop}
theorem tY {v:Value} (h:Calls Tryz.prog f args w (bE fun r w'=>w.grownBy w' (some g)∧r=v∧bb g s1 w')):Calls Tryz.prog f args w (fun e w'=>(∃r,e=.returned r∧Mv (RX g) w w'∧Is v r w'∧bb g s1 w')∨∃c,e=.panicked c∧Pn c w'):=
 Calls.mono h fun _ _ ⟨r,he,h1,h2,h3⟩=>.inl ⟨r,he,Mv.of_grown h1 fun _ hk _=>(Option.some.inj hk).symm,h2,h3⟩
theorem oK (hw:Mv (RX g) w0 w) (hz:bb g s1 w) (hp:s1=none→E):Calls Tryz.prog 176 #[I n,I (if s1.isSome=true then 0 else 5)] w (fun e w'=>(∃r,e=.returned r∧Mv (RX g) w w'∧Is (I n) r w'∧bb g s1 w')∨∃c,e=.panicked c∧Mv (RX g) w0 w'∧uP c∧E):=by
 refine Calls.mono (Bo (n:=n) (s:=s1)) fun _ _ he=>?_
 rcases he with⟨r,he,h1,h2,h3⟩|⟨c,he,h1,h2,h3⟩
 ·subst h1;exact .inl ⟨r,he,Mv.refl _ _,h2,hz⟩
 ·subst h1;exact .inr ⟨c,he,hw,h2,hp h3⟩
theorem Bq {e:Int} (hb:b≤w.heap.size) (h:Calls Tryz.prog f args w (bE fun r w'=>w.grownBy w' (some g)∧pI w.heap.size q e r w'∧bb g s1 w')):Calls Tryz.prog f args w (fun e' w'=>(∃r,e'=.returned r∧Mv (RX g) w w'∧pI b q e r w'∧bb g s1 w')∨∃c,e'=.panicked c∧Pn c w'):=
 Calls.mono h fun _ _ ⟨r,he,h1,h2,h3⟩=>.inl ⟨r,he,Mv.of_grown h1 fun _ hk _=>(Option.some.inj hk).symm,h2.up hb,h3⟩
theorem Br {x y:Value} (hw:Mv (RX g) w0 w) (hz:bb g s1 w) (h:cK (fun k=>k<b) w (gi q) [B q.1,x,y]) (hp:s1=none→E):Calls Tryz.prog 178 #[.agg #[B q.1,x,y],I (if s1.isSome=true then 0 else 5)] w (fun e w'=>(∃r,e=.returned r∧Mv (RX g) w w'∧rU b q r w'∧bb g s1 w'∧s1≠none)∨∃c,e=.panicked c∧Mv (RX g) w0 w'∧uP c∧E):=by
 refine Calls.mono (Bp (q:=q) (s:=s1) h) fun _ _ he=>?_
 rcases he with⟨r,he,h1,h2,h3⟩|⟨c,he,h1,h2,h3⟩
 ·exact .inl ⟨r,he,Mv.of_ext h1,⟨x,y,h2,h.ext h1⟩,hz.ext h1,h3⟩
 ·exact .inr ⟨c,he,hw.trans (Mv.of_ext h1) fun _ hn _=>hn,h2,hp h3⟩
end
theorem CS {w:World} {g n most:Nat} {st s1:Option (List UInt8)} (hn:n<18446744073709551616) (hm:most<18446744073709551616) (hr:bb g st w)
 (cU:∀{w:World} {g:Nat},bb g st w→Calls Tryz.prog 111 #[.pointer (some ⟨g,0,none⟩)] w (bE fun r w'=>w.grownBy w' (some g)∧r=.tuple #[bj (UInt64.ofNat n),I (if s1.isSome=true then 0 else 5)]∧bb g s1 w')):
 Calls Tryz.prog 146 #[.agg #[.pointer (some ⟨g,0,none⟩)],bj (UInt64.ofNat most)] w (lB (fun r w'=>Mv (RX g) w w'∧r=bj (UInt64.ofNat n)∧bb g s1 w'∧s1≠none∧n≤most) (fun c w'=>Mv (RX g) w w'∧uP c∧(s1=none∨¬n≤most))):=by
 refine enter (vs:=[.agg #[.pointer (some ⟨g,0,none⟩)],bj (UInt64.ofNat most)]) Tryz.func146 Ll Ll Ll ?_
 refine af (aa ?_)
 obtain⟨g2,w2,hr2,l2,x2,k2⟩:=dc (P:=Tryz.prog) (w:=w) (T:=172) (cs:=[.pointer (some ⟨g,0,none⟩)])
 refine cL Ll Ll hr2 ?_
 have hr2:=hr.ext x2
 have e2:=x2
 refine ac Ll Ll (ag (ab (af (aa (ah Ll Ll (aF (o:=0) K0 Ll (by kernel_rfl) Ll) (am Ll Ll (aj K1 Ll (k2.cell (i:=0) Ll)) ?_))))))
 refine an gP Ll Ll ((cU hr2)) ?_
 rintro v8 w8 ⟨g8,rfl,hr8⟩
 have m8:=hr2.rdT.kp g8
 have mv8:Mv (RX g) w w8:=(Mv.of_ext e2).trans (Mv.of_grown g8 fun k hk _=>(Option.some.inj hk).symm) fun _ hj _=>hj
 refine ak rfl rfl (aT) (ak rfl rfl (aU) (jk lH rfl rfl ((lI (n:=UInt64.ofNat n) (s:=s1))) (fun c a w1 ha hp=>⟨ha.defers,.inr ⟨c,rfl,by obtain⟨rfl,h2,h3⟩:=hp;exact⟨mv8,h2,.inl h3⟩⟩⟩) ?_))
 rintro v11 _ ⟨rfl,rfl,hs1⟩
 refine ac Ll Ll (ag (ab (af (af ?_))))
 by_cases hnm:n≤most
 ·refine aa (ae Ll Ll (ae Ll Ll (ai Ll Ll Ll (cf (fun h=>by have:=(Fj hm hn).1 h;omega) cu) (ag (ab (cp Ll (ar (ab (af ?_)))))))))
  refine aa (ae Ll Ll (ac Ll Ll (ag (ab (av (aG Ll Ll ?_))))))
  exact .inl ⟨_,rfl,mv8,rfl,hr8,hs1,hnm⟩
 ·refine aa (ae Ll Ll (ae Ll Ll (ai Ll Ll Ll (cg ((Fj hm hn).2 (by omega)) cu) (ag (ab (bB Ll (aa (bm (vs:=[]) (r:=.agg #[]) Ll Ll (run_build _ _ _ _ (by kernel_rfl)) ?_))))))))
  refine jR (r:=.iface 167 (.agg #[])) Ll Ll (xL Lg) ?_
  exact sw rfl fun a ha=>⟨ha.defers,.inr ⟨_,rfl,mv8,rfl,.inr hnm⟩⟩
theorem Gt (st:Option (List UInt8)) {most:Nat} (hm:most<18446744073709551616):∃(n:Nat) (s1:Option (List UInt8)),eE (pC most) st n s1∧n<18446744073709551616∧∀{w:World} {g:Nat},bb g st w→
 Calls Tryz.prog 146 #[.agg #[.pointer (some ⟨g,0,none⟩)],bj (UInt64.ofNat most)] w (lB (fun r w'=>Mv (RX g) w w'∧r=bj (UInt64.ofNat n)∧bb g s1 w'∧s1≠none∧n≤most) (fun c w'=>Mv (RX g) w w'∧uP c∧s1=none)):=by
 obtain⟨n,s1,h1,h2,h3⟩:=xM st
 by_cases hn:n≤most
 ·exact⟨n,s1,Bf h1 hn,h2,fun hr=>lB.mono (CS h2 hm hr h3) (fun _ _ h=>h) fun _ _ ⟨a,b,c⟩=>⟨a,b,c.resolve_right fun h=>h hn⟩⟩
 ·exact⟨n,none,Gn h1 hn,h2,fun hr=>lB.mono (CS h2 hm hr h3) (fun _ _ h=>absurd h.2.2.2.2 hn) fun _ _ ⟨a,b,_⟩=>⟨a,b,rfl⟩⟩
theorem Es {w:World} {g:Nat} {st:Option (List UInt8)} (hr:bb g st w) (hl:dH st):
 Calls Tryz.prog 149 #[.agg #[.pointer (some ⟨g,0,none⟩)]] w (lB (fun r w'=>Mv (RX g) w w'∧∃(d:ew) (x y:Value) (s1:Option (List UInt8)),r=.agg #[I d.kd,I d.ix,B d.at_.1,x,y]∧cK (fun k=>k<w.heap.size) w' (gD d) [I d.kd,I d.ix,B d.at_.1,x,y]∧x.oneCell'=true∧y.oneCell'=true∧bb g s1 w'∧eE xG st d s1∧s1≠none) (fun c w'=>Mv (RX g) w w'∧uP c∧st.bind xG=none)):=by
 refine enter (vs:=[.agg #[.pointer (some ⟨g,0,none⟩)]]) Tryz.func149 Ll Ll Ll ?_
 have hlt:g<w.heap.size:=bb.lt hr
 obtain⟨n1,s1,q1,i1,c1⟩:=oJ st
 obtain⟨n2,s2,q2,i2,c2⟩:=oJ s1
 obtain⟨q,s3,q3,cR⟩:=Bm s2
 have few2:dH s2:=q2.atM dI.le (q1.atM dI.le hl)
 have hp1:s1=none→s3=none:=fun e=>q3.none_of (q2.none_of e)
 have hp2:s2=none→s3=none:=fun e=>q3.none_of e
 have qA:=vK q1 q2 q3
 refine af (aa ?_)
 obtain⟨g1,w1,hr1,l1,x1,k1⟩:=dc (P:=Tryz.prog) (w:=w) (T:=172) (cs:=[.pointer (some ⟨g,0,none⟩)])
 refine cL Ll Ll hr1 ?_
 obtain⟨g2,w2,hr2,l2,x2,k2⟩:=be (P:=Tryz.prog) (w:=w1) (t:=80) (z:=.agg #[I 0,I 0,B false,.slice none 0 0,.slice none 0 0]) (l:=[I 0,I 0,B false,.slice none 0 0,.slice none 0 0]) (by kernel_rfl) rfl
 refine bf Ll hr2 ?_
 have hr2:=hr.ext (x1.trans x2)
 have e2:=(x1.trans x2)
 have k12:=k1.ext x2
 have nX1:¬RX g g1:=fun h=>by have:g1=g:=h;omega
 have nX2:¬RX g g2:=fun h=>by have:g2=g:=h;have:=x1.size;omega
 have hgs:w2.heap.size≤w2.heap.size:=Nat.le_refl _
 have hgb:g<w2.heap.size:=by have:=e2.size;omega
 have sz1:=x1.size
 have lt2:=k2.lt
 refine ag (ab (af (jP 19 [2,21] (Mv (RX g) w2) (Mv (RX g)) true (fun c w'=>Mv (RX g) w2 w'∧uP c∧s3=none) (bb g st) (fC.mv _ _) (Mv.refl _ _) bb.stableZ hr2 (fun c a w1 hd hp=>⟨hd,.inr ⟨c,rfl,(Mv.of_ext e2).trans hp.1 fun _ hj _=>hj,hp.2.1,by have:=qA;rw[hp.2.2] at this;exact this⟩⟩) (fun _=>by kernel_rfl) (by kernel_rfl) (by kernel_rfl) ?_)))
 refine aN Ll Ll (fun w hw=>aF (o:=0) K0 Ll (by kernel_rfl) Ll) (aE Ll Ll (fun w hw=>aj K1 Ll ((hw.blk k12 nX1).k0)) ?_)
 refine dB (S:=Is (.tuple #[I n1,I (if s1.isSome=true then 0 else 5)])) (Z':=bb g s1) iH rfl (bt.is _) (bb.stableZ) rfl (fun w hw hz=>by rintro _ rfl;exact tY (c1 hz)) ?_
 refine dV rfl rfl (fun w _=>aT) (dV rfl rfl (fun w _=>aU) (dB (S:=Is (I n1)) (Z':=bb g s1) gE rfl (bt.is _) (bb.stableZ) rfl (fun w hw hz=>by rintro _ rfl _ rfl;exact oK hw hz hp1) ?_))
 refine aN Ll Ll (fun w hw=>aF (o:=0) K0 Ll (by kernel_rfl) Ll) (aE Ll Ll (fun w hw=>aj K1 Ll ((hw.blk k12 nX1).k0)) ?_)
 refine dB (S:=Is (.tuple #[I n2,I (if s2.isSome=true then 0 else 5)])) (Z':=bb g s2) iH rfl (bt.is _) (bb.stableZ) rfl (fun w hw hz=>by rintro _ rfl;exact tY (c2 hz)) ?_
 refine dV rfl rfl (fun w _=>aT) (dV rfl rfl (fun w _=>aU) (dB (S:=Is (I n2)) (Z':=bb g s2) gE rfl (bt.is _) (bb.stableZ) rfl (fun w hw hz=>by rintro _ rfl _ rfl;exact oK hw hz hp2) ?_))
 refine aN Ll Ll (fun w hw=>aF (o:=0) K0 Ll (by kernel_rfl) Ll) (aE Ll Ll (fun w hw=>aj K1 Ll ((hw.blk k12 nX1).k0)) ?_)
 refine dB (S:=pI w2.heap.size q (if s3.isSome=true then 0 else 5)) (Z':=bb g s3) qC rfl (pI.stable hgb) (bb.stableZ) rfl (fun w hw hz=>by rintro _ rfl;exact Bq (Nat.le_trans hgs hw.size) (cR few2 hz)) ?_
 refine iA rfl (rU.stable hgb) rfl (fun w v hw hv=>by obtain⟨x,y,rfl,h⟩:=hv;exact⟨_,aT,x,y,rfl,h⟩) (iA rfl (bt.is (I (if s3.isSome=true then 0 else 5))) rfl (fun w v hw hv=>by obtain⟨x,y,rfl,h⟩:=hv;exact⟨_,aU,rfl⟩) ?_)
 refine dB (S:=rU w2.heap.size q) (Z':=(fun w=>bb g s3 w∧s3≠none)) oH rfl (rU.stable hgb) (gV bb.stableZ) rfl (fun w hw hz=>by rintro _ ⟨x,y,rfl,h⟩ _ rfl;exact Br hw hz h id) ?_
 refine rY (S:=fun v w'=>∃x y,v=.agg #[I n1,I n2,B q.1,x,y]∧cK (fun k=>k<w2.heap.size) w' (gi q) [B q.1,x,y]) (fun _ _ _ ⟨x,y,h,h2⟩ hm=>⟨x,y,h,h2.mv (hm.weak fun j hj _=>by have:j=g:=hj;show j<w2.heap.size;omega) fun _ hk=>.inl hk⟩) Ll (fun w' hw=>by
 rintro _ rfl _ rfl _ ⟨x,y,rfl,h⟩
 exact⟨_,w',run_build _ _ _ _ (by kernel_rfl),aI.refl _,x,y,rfl,h⟩) ?_
 refine bF ?_
 intro wg1 xg1 zg1
 rintro _ rfl
 intro vg21 b20
 obtain⟨x,y,rfl,hq⟩:=b20
 obtain⟨hrG,hs3⟩:=zg1
 have hx1:=(gU hq).1
 have hy1:=(gU hq).2
 have kG:=xg1.blk k2 nX2
 obtain⟨wd,sd,qd,kd⟩:=kG.stS (P:=Tryz.prog) (t:=80) (m:=[I n1,I n2,B q.1,x,y]) rfl (by kernel_rfl) (aD.cons rfl (aD.cons rfl (aD.cons rfl (aD.cons hx1 (aD.cons hy1 aD.nil)))))
 have md:Mv (fun k=>k=g2) wg1 wd:=Mv.of_grown qd fun k hk _=>(Option.some.inj hk).symm
 refine aq Ll Ll sd ?_
 refine ag (ab (av ?_))
 refine dR Ll Ll kd KT Ll (by kernel_rfl) ?_
 exact .inl ⟨_,rfl,((Mv.of_ext e2).trans xg1 fun _ hj _=>hj).trans md fun j hj hlt=>by omega,⟨n1,n2,q⟩,x,y,s3,rfl,tX (d:=⟨n1,n2,q⟩) (hq.mv (md.weak fun j hj _=>by show j<w2.heap.size;omega) fun j hj=>.inl (by have:=e2.size;show j<w2.heap.size;omega)),hx1,hy1,hrG.mv md fun j hj=>by omega,qA,hs3⟩
end Go.Rl
namespace Go.Rl
open Go.RowKit Go.Proofs
theorem Sl.mv {X:Nat→Prop} {w w':World} {sz:Nat} {xs:List Value} {v:Value} (h:Sl sz xs v w) (hm:Mv X w w') (hx:∀k,v.ownBlock=some k→¬X k):Sl sz xs v w':=by
 obtain⟨A,n,c,rfl,h2,h3,h4,h5,h6⟩:=h
 exact⟨A,n,c,rfl,h2,h3,h4,fun hn=>(h5 hn).imp fun ad h=>⟨h.1,hm.cells h.2 fun _=>hx ad.block (by rw[h.1];rfl)⟩,h6⟩
def jS {α:Type} (b sz:Nat) (f:α→Dt) (l:List α):dC:=fun v w=>∃cs,Sl sz cs v w∧(∀k,v.ownBlock=some k→b≤k)∧aD cs∧aL (fun k=>k<b) w (l.map f) cs
theorem jS.stable {α:Type} {b sz g:Nat} {f:α→Dt} {l:List α} (hg:g<b):bT (Mv (RX g)) (jS b sz f l):=fun _ _ _ ⟨cs,h1,h2,h3,h4⟩ hm=>
 ⟨cs,h1.mv hm fun k hk hX=>by have:k=g:=hX;have:=h2 k hk;omega,h2,h3,aL.mv (hm.weak fun j hj _=>by have:j=g:=hj;show j<b;omega) (fun _ hk=>.inl hk) h4⟩
theorem aL.one {X:Nat→Prop} {w:World} {d:Dt} {cs:List Value} (h:aL X w [d] cs):cK X w d cs:=by
 simp only[aL] at h
 obtain⟨c1,c2,rfl,h1,rfl⟩:=h
 simpa using h1
theorem Gu {α:Type} {P:Program} {w:World} {t e:TypeId} {z:Value} {sz bytes b:Nat} {f:α→Dt} {a:α} {cs:List Value} (ht:P.underlying t=some (.slice e)) (hi:(P.info? e).map (fun i=>(i.zero,i.size,i.bytes))=some (some z,sz,bytes)) (hzs:z.cells.size=sz) (h0:0<sz) (hsb:sz≤16777216)
 (hb:b≤w.heap.size) (h1:aD cs) (ha:cK (fun k=>k<b) w (f a) cs) (hs:(f a).size=sz):∃r w',(Instr.buildSlice t 1 (dT 0 [Value.agg cs.toArray]).toArray).run P w=.ok r w'∧aI w w'∧jS b sz f [a] r w':=by
 have hcl:cs.length=sz:=by rw[ha.len,hs]
 have hi2:(P.info? e).map (fun i=>(i.zero,i.size))=some (some z,sz):=by
  obtain⟨i,hi',h2⟩:=Option.map_eq_some_iff.1 hi
  simp only[Prod.mk.injEq] at h2
  rw[hi']
  simp[h2.1,h2.2.1]
 obtain⟨x,w0,h3,h4,h5,h6⟩:=CN (w:=w) ht hi2 hzs h0 [cs] (by simp[hcl]) (by simp) (by simpa using hsb)
 refine⟨x,w0,by simpa using h3,h4,cs,by simpa using h5,fun k hk=>?_,h1,?_⟩
 ·rw[h6] at hk
  obtain rfl:=Option.some.inj hk
  exact hb
 ·simpa using aL.cons (b:=[]) (ha.ext h4) aL.nil
def Bt (b:Nat) (T:TypeId) (l:List Value):dC:=fun v w=>∃g5,v=.pointer (some ⟨g5,0,none⟩)∧b≤g5∧cd g5 T l w
theorem Bt.stable {b g:Nat} {T:TypeId} {l:List Value} (hg:g<b):bT (Mv (RX g)) (Bt b T l):=fun _ _ _ ⟨g5,h1,h2,h3⟩ hm=>⟨g5,h1,h2,hm.blk h3 fun h=>by have:g5=g:=h;omega⟩
theorem Gv {P:Program} {w:World} {t:TypeId} {z:Value} {l:List Value} {b:Nat} (h:(P.info? t).map (·.zero)=some (some z)) (hv:z.cells=l.toArray) (hb:b≤w.heap.size):∃r w',(Instr.alloc t true (.tuple #[])).run P w=.ok r w'∧aI w w'∧Bt b t l r w':=by
 obtain⟨g,w',h1,h2,h3,h4⟩:=be (w:=w) h hv
 exact⟨_,w',h1,h3,g,rfl,Nat.le_trans hb h2,h4⟩
theorem jT {s:Option (List UInt8)} (h:s≠none):∃l,s=some l:=by
 cases s with
 |none=>exact absurd rfl h
 |some l=>exact⟨l,rfl⟩
theorem rH {w:World} {g:Nat} {st:Option (List UInt8)} (hr:bb g st w) (hl:dH st):
 Calls Tryz.prog 148 #[.agg #[.pointer (some ⟨g,0,none⟩)]] w (lB (fun r w'=>Mv (RX g) w w'∧∃(ps:List dl) (s1:Option (List UInt8)),cK (fun k=>k<w.heap.size) w' (mU ps) [r]∧r.oneCell'=true∧bb g s1 w'∧eE uO st ps s1∧s1≠none) (fun c w'=>Mv (RX g) w w'∧uP c∧st.bind uO=none)):=by
 refine enter (vs:=[.agg #[.pointer (some ⟨g,0,none⟩)]]) Tryz.func148 Ll Ll Ll ?_
 have hlt:g<w.heap.size:=bb.lt hr
 obtain⟨N,s0,qU,hN,cU⟩:=xM st
 refine af (aa ?_)
 obtain⟨g1,w1,hr1,l1,x1,k1⟩:=dc (P:=Tryz.prog) (w:=w) (T:=172) (cs:=[.pointer (some ⟨g,0,none⟩)])
 refine cL Ll Ll hr1 ?_
 have hr1:=hr.ext x1
 have e1:=x1
 have nX1:¬RX g g1:=fun h=>by have:g1=g:=h;omega
 have lt1:=k1.lt
 refine ac Ll Ll (ag (ab (af (aa (ac Ll Ll (ag (ab (af (af (aa (ah Ll Ll (aF (o:=0) K0 Ll (by kernel_rfl) Ll) ?_)))))))))))
 refine am Ll Ll (aj K1 Ll (k1.cell (i:=0) Ll)) (an gP Ll Ll ((cU hr1)) ?_)
 rintro v8 w8 ⟨g8,rfl,hr8⟩
 have m8:=hr1.rdT.kp g8
 have mv8:Mv (RX g) w1 w8:=Mv.of_grown g8 fun k hk _=>(Option.some.inj hk).symm
 have k18:=mv8.blk k1 nX1
 have hl0:dH s0:=qU.atM jc.le hl
 refine ak rfl rfl (aT) (ak rfl rfl (aU) (jk lH rfl rfl ((lI (n:=UInt64.ofNat N) (s:=s0))) (fun c a w1 ha hp=>⟨ha.defers,.inr ⟨c,rfl,by obtain⟨rfl,h2,h3⟩:=hp;exact⟨(Mv.of_ext e1).trans mv8 fun _ hj _=>hj,h2,js (done:=([]:List dl)) (f:=qK) qU (by rw[h3];rfl)⟩⟩⟩) ?_))
 rintro v11 _ ⟨rfl,rfl,hs0⟩
 obtain⟨l0,rfl⟩:=jT hs0
 refine ac Ll Ll (ag (ab (ax ?_)))
 refine ig (fun(k:Nat) (v:Value) (l:List UInt8) (ps:List dl)=>[(1,.pointer (some ⟨g1,0,none⟩)),(3,v),(4,bj (UInt64.ofNat k))]) (fun(k:Nat) (v:Value) (l:List UInt8) (ps:List dl) w'=>Mv (RX g) w1 w'∧bb g (some l) w'∧fI 216 7 w1.heap.size dk ps v w'∧k<18446744073709551616∧(some l0).bind (cr qK N)=(some l).bind (fun l=>(cr qK k l).map fun p=>(ps++p.1,p.2))∧l.length+ps.length≤549755813888) (fun(k:Nat) (v:Value) (l:List UInt8) (ps:List dl)=>k) (N) (.slice none 0 0) (l0) ([]) ⟨rfl,rfl,rfl,trivial⟩ ⟨mv8,hr8,fI.nil _,hN,iJ,by have:=hl0 l0 rfl;simpa using this⟩ ?_
 rintro k v l ps wL ⟨mL,hrL,oL,hk,hR,hql⟩
 refine af (af ?_)
 have hkn:(UInt64.ofNat k).toNat=k:=by rw[UInt64.toNat_ofNat'];omega
 have kL:=mL.blk k1 nX1
 have szL:=mL.size
 have hvo:v.oneCell'=true:=by obtain⟨_,_,_,rfl⟩:=oL.isS;rfl
 rcases Nat.eq_zero_or_pos k with h0|h0
 rotate_left
 ·refine aa (ae Ll Ll (ai (v:=bj 0) Ll Ll Ll (cg (UInt64.lt_iff_toNat_lt.2 (by rw[hkn];exact h0)) cu) (ag (ab (bB Ll (ar (ab ?_)))))))
  refine af (ax (af ?_))
  obtain⟨k',rfl⟩:∃k',k=k'+1:=⟨k-1,by omega⟩
  obtain⟨n1,sA,q1,i1,c1⟩:=oJ (some l)
  obtain⟨n2,sB,q2,i2,c2⟩:=oJ sA
  obtain⟨n3,sC,q3,i3,c3⟩:=oJ sB
  obtain⟨n4,sD,q4,i4,c4⟩:=oJ sC
  obtain⟨q,sE,q5,cR⟩:=Bm sD
  have hll:dH (some l):=fun l' e=>by cases e;omega
  have fewD:dH sD:=q4.atM dI.le (q3.atM dI.le (q2.atM dI.le (q1.atM dI.le hll)))
  have qM:=oC q1 q2 q3 q4 q5
  have hpE:sE=none→st.bind uO=none:=fun e=>jt qU hR (by have h:=qM;rw[e] at h;exact h)
  have hpD:sD=none→st.bind uO=none:=fun e=>hpE (q5.none_of e)
  have hpC:sC=none→st.bind uO=none:=fun e=>hpD (q4.none_of e)
  have hpB:sB=none→st.bind uO=none:=fun e=>hpC (q3.none_of e)
  have hpA:sA=none→st.bind uO=none:=fun e=>hpB (q2.none_of e)
  have hgL:g<wL.heap.size:=by omega
  have mWL:Mv (RX g) w wL:=(Mv.of_ext e1).trans mL fun _ hj _=>hj
  refine jP 26 [1,3,4,5,40] (Mv (RX g) wL) (Mv (RX g)) true (fun c w'=>Mv (RX g) wL w'∧uP c∧st.bind uO=none) (bb g (some l)) (fC.mv _ _) (Mv.refl _ _) bb.stableZ hrL (fun c a w1 hd hp=>⟨hd,.inr ⟨c,rfl,mWL.trans hp.1 fun _ hj _=>hj,hp.2⟩⟩) (fun _=>by kernel_rfl) (by kernel_rfl) (by kernel_rfl) ?_
  refine aN Ll Ll (fun w hw=>aF (o:=0) K0 Ll (by kernel_rfl) Ll) (aE Ll Ll (fun w hw=>aj K1 Ll ((hw.blk kL nX1).k0)) ?_)
  refine dB (S:=Is (.tuple #[I n1,I (if sA.isSome=true then 0 else 5)])) (Z':=bb g sA) iH rfl (bt.is _) (bb.stableZ) rfl (fun w hw hz=>by rintro _ rfl;exact tY (c1 hz)) ?_
  refine dV rfl rfl (fun w _=>aT) (dV rfl rfl (fun w _=>aU) (dB (S:=Is (I n1)) (Z':=bb g sA) gE rfl (bt.is _) (bb.stableZ) rfl (fun w hw hz=>by rintro _ rfl _ rfl;exact oK hw hz hpA) ?_))
  refine aN Ll Ll (fun w hw=>aF (o:=0) K0 Ll (by kernel_rfl) Ll) (aE Ll Ll (fun w hw=>aj K1 Ll ((hw.blk kL nX1).k0)) ?_)
  refine dB (S:=Is (.tuple #[I n2,I (if sB.isSome=true then 0 else 5)])) (Z':=bb g sB) iH rfl (bt.is _) (bb.stableZ) rfl (fun w hw hz=>by rintro _ rfl;exact tY (c2 hz)) ?_
  refine dV rfl rfl (fun w _=>aT) (dV rfl rfl (fun w _=>aU) (dB (S:=Is (I n2)) (Z':=bb g sB) gE rfl (bt.is _) (bb.stableZ) rfl (fun w hw hz=>by rintro _ rfl _ rfl;exact oK hw hz hpB) ?_))
  refine aN Ll Ll (fun w hw=>aF (o:=0) K0 Ll (by kernel_rfl) Ll) (aE Ll Ll (fun w hw=>aj K1 Ll ((hw.blk kL nX1).k0)) ?_)
  refine dB (S:=Is (.tuple #[I n3,I (if sC.isSome=true then 0 else 5)])) (Z':=bb g sC) iH rfl (bt.is _) (bb.stableZ) rfl (fun w hw hz=>by rintro _ rfl;exact tY (c3 hz)) ?_
  refine dV rfl rfl (fun w _=>aT) (dV rfl rfl (fun w _=>aU) (dB (S:=Is (I n3)) (Z':=bb g sC) gE rfl (bt.is _) (bb.stableZ) rfl (fun w hw hz=>by rintro _ rfl _ rfl;exact oK hw hz hpC) ?_))
  refine aN Ll Ll (fun w hw=>aF (o:=0) K0 Ll (by kernel_rfl) Ll) (aE Ll Ll (fun w hw=>aj K1 Ll ((hw.blk kL nX1).k0)) ?_)
  refine dB (S:=Is (.tuple #[I n4,I (if sD.isSome=true then 0 else 5)])) (Z':=bb g sD) iH rfl (bt.is _) (bb.stableZ) rfl (fun w hw hz=>by rintro _ rfl;exact tY (c4 hz)) ?_
  refine dV rfl rfl (fun w _=>aT) (dV rfl rfl (fun w _=>aU) (dB (S:=Is (I n4)) (Z':=bb g sD) gE rfl (bt.is _) (bb.stableZ) rfl (fun w hw hz=>by rintro _ rfl _ rfl;exact oK hw hz hpD) ?_))
  refine rY (S:=Is (.agg #[I n1,I n2,I n3,I n4])) (bt.is _) rfl (fun w' hw=>by rintro _ rfl _ rfl _ rfl _ rfl;exact⟨_,w',run_build _ _ _ _ (by kernel_rfl),aI.refl _,rfl⟩) ?_
  refine wT (S:=Bt wL.heap.size 214 [I 0,I 0,I 0,I 0]) (Bt.stable hgL) Ll (fun w' hw=>Gv (z:=.agg #[I 0,I 0,I 0,I 0]) (by kernel_rfl) Ll hw.size) ?_
  refine bF ?_
  intro wg5 xg5 zg5
  rintro _ rfl
  rintro _ hq3
  obtain rfl:=Eq.symm hq3
  rintro _ rfl
  intro vg5 b5
  rintro _ rfl
  obtain⟨g5,rfl,hg5,kG5⟩:=b5
  obtain⟨wd,sd,qd,kd⟩:=kG5.stS (P:=Tryz.prog) (t:=214) (m:=[I n1,I n2,I n3,I n4]) rfl (by kernel_rfl) (aD.cons rfl (aD.cons rfl (aD.cons rfl (aD.cons rfl aD.nil))))
  have md:Mv (fun k=>k=g5) wg5 wd:=Mv.of_grown qd fun k hk _=>(Option.some.inj hk).symm
  have hrd:bb g sD wd:=zg5.mv md fun j hj=>by omega
  have mLd:Mv (RX g) wL wd:=xg5.trans md fun j hj hlt=>by omega
  have kLd:=mLd.blk kL nX1
  have nX5:¬RX g g5:=fun h=>by have:g5=g:=h;omega
  have hgb:g<wd.heap.size:=by have:=mLd.size;omega
  have hgs:wd.heap.size≤wd.heap.size:=Nat.le_refl _
  have mWd:Mv (RX g) w wd:=mWL.trans mLd fun _ hj _=>hj
  refine aq Ll Ll sd ?_
  refine ag (ab (jP 10 [1,4,41,50] (Mv (RX g) wd) (Mv (RX g)) true (fun c w'=>Mv (RX g) wd w'∧uP c∧st.bind uO=none) (bb g sD) (fC.mv _ _) (Mv.refl _ _) bb.stableZ hrd (fun c a w1 hd hp=>⟨hd,.inr ⟨c,rfl,mWd.trans hp.1 fun _ hj _=>hj,hp.2⟩⟩) (fun _=>by kernel_rfl) (by kernel_rfl) (by kernel_rfl) ?_))
  refine ap Ll Ll (aE Ll Ll (fun w hw=>(hw.blk kd nX5).ld Lb Ll (by kernel_rfl)) (aN Ll Ll (fun w hw=>aF (o:=0) K0 Ll (by kernel_rfl) Ll) ?_))
  refine aE rfl rfl (fun w hw=>aj K1 rfl ((hw.blk kLd nX1).k0)) (dB (S:=pI wd.heap.size q (if sE.isSome=true then 0 else 5)) (Z':=bb g sE) qC rfl (pI.stable hgb) (bb.stableZ) rfl (fun w hw hz=>by rintro _ rfl;exact Bq (Nat.le_trans hgs hw.size) (cR fewD hz)) ?_)
  refine iA rfl (rU.stable hgb) rfl (fun w v hw hv=>by obtain⟨x,y,rfl,h⟩:=hv;exact⟨_,aT,x,y,rfl,h⟩) (iA rfl (bt.is (I (if sE.isSome=true then 0 else 5))) rfl (fun w v hw hv=>by obtain⟨x,y,rfl,h⟩:=hv;exact⟨_,aU,rfl⟩) ?_)
  refine dB (S:=rU wd.heap.size q) (Z':=(fun w=>bb g sE w∧sE≠none)) oH rfl (rU.stable hgb) (gV bb.stableZ) rfl (fun w hw hz=>by rintro _ ⟨x,y,rfl,h⟩ _ rfl;exact Br hw hz h hpE) ?_
  refine rY (S:=fun v w'=>∃x y,v=.agg #[I n1,I n2,I n3,I n4,B q.1,x,y]∧cK (fun k=>k<wd.heap.size) w' (gi q) [B q.1,x,y]) (fun _ _ _ ⟨x,y,h,h2⟩ hm=>⟨x,y,h,h2.mv (hm.weak fun j hj _=>by have:j=g:=hj;show j<wd.heap.size;omega) fun _ hk=>.inl hk⟩) Ll (fun w' hw=>by
 rintro _ rfl _ ⟨x,y,rfl,h⟩
 exact⟨_,w',run_build _ _ _ _ (by kernel_rfl),aI.refl _,x,y,rfl,h⟩) ?_
  refine eO (S:=jS wd.heap.size 7 dk [⟨n1,n2,n3,n4,q⟩]) (jS.stable hgb) Ll (fun w' hw=>by
 rintro _ ⟨x,y,rfl,h⟩
 exact Gu (cs:=[I n1,I n2,I n3,I n4,B q.1,x,y]) KW qO rfl (by omega) (by omega) hw.size (aD.cons rfl (aD.cons rfl (aD.cons rfl (aD.cons rfl (aD.cons rfl (aD.cons (gU h).1 (aD.cons (gU h).2 aD.nil))))))) (vN (m:=⟨n1,n2,n3,n4,q⟩) h) (ey _)) ?_
  refine bF ?_
  intro wg6 xg6 zg6
  rintro _ rfl
  rintro _ rfl
  rintro _ hq41
  obtain rfl:=Eq.symm hq41
  intro vg50 b50
  obtain⟨hrG,hsE⟩:=zg6
  obtain⟨lE,rfl⟩:=jT hsE
  obtain⟨cs,hcs,hown,h1cs,hall⟩:=b50
  have mAll:Mv (RX g) wL wg6:=mLd.trans xg6 fun _ hj _=>hj
  have hX1:∀j,RX g j→j<w1.heap.size:=fun j hj=>by have:j=g:=hj;have:=e1.size;omega
  have oG:=oL.mv mAll hX1
  have own:∀j,v.ownBlock=some j→w1.heap.size≤j∧j<wL.heap.size:=oL.lt
  have hM:=(aL.one hall).weak (Y:=fun k=>k<w1.heap.size∨v.ownBlock=some k) fun j hj=>.inl (by
   have:=mLd.size
   rcases hj with hj|hj
   ·show j<wd.heap.size;omega
   ·have:=(own j hj).2;show j<wd.heap.size;omega)
  obtain⟨v51,w51,hr51,o51,g51⟩:=oG.app (t:=81) (ty:=81) KW qO rfl (by omega) (by omega) hcs h1cs hM ey (by omega) (Nat.le_trans szL mAll.size)
  have m51:Mv (fun k=>v.ownBlock=some k) wg6 w51:=Mv.of_grown g51.grown fun k hk _=>hk
  have h51:bb g (some lE) w51:=hrG.mv m51 fun j hj=>by have:=own j hj;have:=e1.size;omega
  have hlE:=su l _ lE qM
  refine bc Ll Ll hr51 ?_
  refine ac Ll Ll (ag (aJ (ab (aa (ae Ll Ll ?_)))))
  have ek:UInt64.ofNat (k'+1)-1=UInt64.ofNat k':=by
   refine UInt64.toNat_inj.1 ?_
   rw[UInt64.toNat_sub_of_le _ _ (UInt64.le_iff_toNat_le.2 (by rw[hkn];show 1≤_;omega)),hkn,UInt64.toNat_ofNat',show(1:UInt64).toNat=1 from rfl]
   omega
  refine ai (v:=bj 1) (r:=bj (UInt64.ofNat k')) Ll Ll Ll ((by rw[←ek];exact dx)) (ac Ll Ll (ag ?_))
  refine fq (k') (v51) (lE) (ps++[⟨n1,n2,n3,n4,q⟩]) ⟨rfl,rfl,rfl,trivial⟩ ⟨(mL.trans mAll fun _ hj _=>hj).trans m51 fun j hj hlt=>by have:=(own j hj).1;omega,h51,o51,by omega,jr hR qM,by simp;omega⟩ (by omega)
 ·refine aa (ae Ll Ll (ai (v:=bj 0) Ll Ll Ll (cf (fun hh=>by have:=UInt64.lt_iff_toNat_lt.1 hh;rw[hkn,h0] at this;exact absurd this (by decide)) cu) ?_))
  refine ag (ab (cp Ll (aY (aB (aB (aX (ab (af (aa (ae Ll Ll (ac Ll Ll (ag (ab (av (aG Ll Ll ?_)))))))))))))))
  exact .inl ⟨_,rfl,(Mv.of_ext e1).trans mL fun _ hj _=>hj,ps,some l,(oL.rpx ey (by omega)).weak fun j hj=>.inl (by have:=e1.size;show j<w1.heap.size;omega),hvo,hrL,iL qU (by subst h0;exact hR),by simp⟩
end Go.Rl
namespace Go.Rl
open Go.RowKit Go.Proofs
section
variable {w0 w:World} {g:Nat} {s1:Option (List UInt8)} {E:Prop} {f:FuncId} {args:Array Value}
theorem chM {v:Value} {G:Prop} (hw:Mv (RX g) w0 w) (h:Calls Tryz.prog f args w (lB (fun r w'=>Mv (RX g) w w'∧r=v∧bb g s1 w'∧s1≠none∧G) (fun c w'=>Mv (RX g) w w'∧uP c∧s1=none))) (hp:s1=none→E):Calls Tryz.prog f args w (fun e w'=>(∃r,e=.returned r∧Mv (RX g) w w'∧Is v r w'∧bb g s1 w')∨∃c,e=.panicked c∧Mv (RX g) w0 w'∧uP c∧E):=by
 refine Calls.mono h fun _ _ he=>?_
 rcases he with⟨r,he,h1,h2,h3,_⟩|⟨c,he,h1,h2,h3⟩
 ·exact .inl ⟨r,he,h1,h2,h3⟩
 ·exact .inr ⟨c,he,hw.trans h1 fun _ hn _=>hn,h2,hp h3⟩
end
theorem Gw {w:World} {ad:Addr} {xs cs:List Value} {g5:Nat} {T:TypeId} (hc:dG w ad xs) (hn:xs≠[]) (hb:cd g5 T cs w) (hcs:∀u∈xs,u∉cs):ad.block≠g5:=fun he=>by
 cases xs with
 |nil=>exact hn rfl
 |cons u xs=>
  have hcell:=hc 0 u rfl
  have he:(ad.add 0).block=g5:=by rw[jo];exact he
  have:w.cell? (ad.add 0)=cs.toArray[(ad.add 0).off]? :=by
   have hs:(ad.add 0).spot=none:=World.cell?_spot hcell
   have e:ad.add 0=⟨g5,(ad.add 0).off,none⟩:=by
    cases hx:ad.add 0 with
    |mk b o s=>
     rw[hx] at hs he
     simp only at hs he
     rw[hs,he]
   rw[e]
   exact cell_of_row w g5 _ cs.toArray T (0,0) hb
  rw[hcell] at this
  have h2:cs[(ad.add 0).off]? =some u:=by simpa using this.symm
  exact hcs u (by simp) (List.mem_of_getElem? h2)
theorem zD {X:Nat→Prop} {w:World} {l:List UInt32} {v:Value} {g5:Nat} {T:TypeId} {cs:List Value} (h:cK X w (jC l) [v]) (hb:cd g5 T cs w) (hcs:∀n:UInt32,bA n∉cs):cK (fun k=>X k∨k=g5) w (jC l) [v]:=by
 unfold jC at h⊢
 simp only[cK] at h⊢
 obtain⟨A,n,c,hv,h2,h3,h4,h5,h6⟩:=h
 refine⟨A,n,c,hv,h2,h3,h4,h5,fun hp=>?_⟩
 obtain⟨ad,xs,hA,hX,hC,hall⟩:=h6 hp
 have hall2:∀(l:List UInt32) (ys:List Value),aL X w (l.map uS) ys→(∀u∈ys,∃n:UInt32,u=bA n)∧aL (fun k=>X k∨k=g5) w (l.map uS) ys:=by
  intro l
  induction l with
  |nil=>intro ys h;simp only[List.map_nil,aL] at h⊢;subst h;exact⟨fun _ h=>by simp at h,rfl⟩
  |cons a l ih=>
   intro ys h
   simp only[List.map_cons,aL] at h⊢
   obtain⟨c1,c2,rfl,h1,h2⟩:=h
   have h1':c1=[bA a]:=by simp only[uS,cK] at h1;exact h1
   refine⟨fun u hu=>?_,c1,c2,rfl,by simpa only[uS,cK] using h1,(ih _ h2).2⟩
   rcases List.mem_append.1 hu with hu|hu
   ·rw[h1'] at hu;exact⟨a,by simpa using hu⟩
   ·exact(ih _ h2).1 u hu
 obtain⟨hu,ha⟩:=hall2 l xs hall
 refine⟨ad,xs,hA,fun hn hx=>?_,hC,ha⟩
 rcases hx with hx|hx
 ·exact hX hn hx
 ·exact Gw hC hn hb (fun u hm=>by obtain⟨n,rfl⟩:=hu u hm;exact hcs n) hx
theorem Gx {X:Nat→Prop} {w:World} {q:fQ} {x y:Value} {g5:Nat} {T:TypeId} {cs:List Value} (h:cK X w (gi q) [B q.1,x,y]) (hb:cd g5 T cs w) (hcs:∀n:UInt32,bA n∉cs):cK (fun k=>X k∨k=g5) w (gi q) [B q.1,x,y]:=by
 have key:∀{ms:List Value},cK X w (gi q) ms→∃x y,ms=[B q.1,x,y]∧cK X w (jC q.2.1) [x]∧cK X w (jC q.2.2) [y]:=fun {ms} h=>by
  have isS:∀{l:List UInt32} {c:List Value},cK X w (jC l) c→∃v,c=[v]:=fun {l c} h=>by
   unfold jC at h
   simp only[cK] at h
   obtain⟨A,n,c,rfl,_⟩:=h
   exact⟨_,rfl⟩
  simp only[gi,cK,aL] at h
  obtain⟨_,_,rfl,rfl,c1,_,rfl,h1,c2,_,rfl,h2,rfl⟩:=h
  obtain⟨x,rfl⟩:=isS h1
  obtain⟨y,rfl⟩:=isS h2
  exact⟨x,y,rfl,h1,h2⟩
 obtain⟨x',y',he,h1,h2⟩:=key h
 simp only[List.cons.injEq,and_true] at he
 obtain⟨_,rfl,rfl⟩:=he
 simp only[gi,cK.eq_5]
 exact aL.cons (a:=[B q.1]) (bX _) (aL.cons (zD h1 hb hcs) (aL.cons (b:=[]) (zD h2 hb hcs) aL.nil))
theorem Bu {w:World} {g:Nat} {st:Option (List UInt8)} (hr:bb g st w) (hl:dH st):
 Calls Tryz.prog 147 #[.agg #[.pointer (some ⟨g,0,none⟩)]] w (lB (fun r w'=>Mv (RX g) w w'∧∃(ls:List fB) (s1:Option (List UInt8)),cK (fun k=>k<w.heap.size) w' (.sl (ls.map eI)) [r]∧r.oneCell'=true∧bb g s1 w'∧eE fW st ls s1∧s1≠none) (fun c w'=>Mv (RX g) w w'∧uP c∧st.bind fW=none)):=by
 refine enter (vs:=[.agg #[.pointer (some ⟨g,0,none⟩)]]) Tryz.func147 Ll Ll Ll ?_
 have hlt:g<w.heap.size:=bb.lt hr
 obtain⟨N,s0,qU,hN,cU⟩:=xM st
 refine af (aa ?_)
 obtain⟨g1,w1,hr1,l1,x1,k1⟩:=dc (P:=Tryz.prog) (w:=w) (T:=172) (cs:=[.pointer (some ⟨g,0,none⟩)])
 refine cL Ll Ll hr1 ?_
 have hr1:=hr.ext x1
 have e1:=x1
 have nX1:¬RX g g1:=fun h=>by have:g1=g:=h;omega
 have lt1:=k1.lt
 refine ac Ll Ll (ag (ab (af (aa (ac Ll Ll (ag (ab (af (af (aa (ah Ll Ll (aF (o:=0) K0 Ll (by kernel_rfl) Ll) ?_)))))))))))
 refine am Ll Ll (aj K1 Ll (k1.cell (i:=0) Ll)) (an gP Ll Ll ((cU hr1)) ?_)
 rintro v8 w8 ⟨g8,rfl,hr8⟩
 have m8:=hr1.rdT.kp g8
 have mv8:Mv (RX g) w1 w8:=Mv.of_grown g8 fun k hk _=>(Option.some.inj hk).symm
 have k18:=mv8.blk k1 nX1
 have hl0:dH s0:=qU.atM jc.le hl
 refine ak rfl rfl (aT) (ak rfl rfl (aU) (jk lH rfl rfl ((lI (n:=UInt64.ofNat N) (s:=s0))) (fun c a w1 ha hp=>⟨ha.defers,.inr ⟨c,rfl,by obtain⟨rfl,h2,h3⟩:=hp;exact⟨(Mv.of_ext e1).trans mv8 fun _ hj _=>hj,h2,js (done:=([]:List fB)) (f:=mq) qU (by rw[h3];rfl)⟩⟩⟩) ?_))
 rintro v11 _ ⟨rfl,rfl,hs0⟩
 obtain⟨l0,rfl⟩:=jT hs0
 refine ac Ll Ll (ag (ab (ax ?_)))
 refine ig (fun(k:Nat) (v:Value) (l:List UInt8) (ls:List fB)=>[(1,.pointer (some ⟨g1,0,none⟩)),(3,v),(4,bj (UInt64.ofNat k))]) (fun(k:Nat) (v:Value) (l:List UInt8) (ls:List fB) w'=>Mv (RX g) w1 w'∧bb g (some l) w'∧fI 147 6 w1.heap.size eI ls v w'∧k<18446744073709551616∧(some l0).bind (cr mq N)=(some l).bind (fun l=>(cr mq k l).map fun p=>(ls++p.1,p.2))∧l.length+ls.length≤549755813888) (fun(k:Nat) (v:Value) (l:List UInt8) (ls:List fB)=>k) (N) (.slice none 0 0) (l0) ([]) ⟨rfl,rfl,rfl,trivial⟩ ⟨mv8,hr8,fI.nil _,hN,iJ,by have:=hl0 l0 rfl;simpa using this⟩ ?_
 rintro k v l ls wL ⟨mL,hrL,oL,hk,hR,hql⟩
 refine af (af ?_)
 have hkn:(UInt64.ofNat k).toNat=k:=by rw[UInt64.toNat_ofNat'];omega
 have kL:=mL.blk k1 nX1
 have szL:=mL.size
 have hvo:v.oneCell'=true:=by obtain⟨_,_,_,rfl⟩:=oL.isS;rfl
 rcases Nat.eq_zero_or_pos k with h0|h0
 rotate_left
 ·refine aa (ae Ll Ll (ai (v:=bj 0) Ll Ll Ll (cg (UInt64.lt_iff_toNat_lt.2 (by rw[hkn];exact h0)) cu) (ag (ab (bB Ll (ar (ab ?_)))))))
  refine af (ax (af ?_))
  obtain⟨k',rfl⟩:∃k',k=k'+1:=⟨k-1,by omega⟩
  obtain⟨n1,sA,q1,i1,c1⟩:=oJ (some l)
  obtain⟨up,sB,q2,hup,cC⟩:=Gt sA (most:=1) (by omega)
  obtain⟨q,sC,q3,cR⟩:=Bm sB
  have hll:dH (some l):=fun l' e=>by cases e;omega
  have fewB:dH sB:=q2.atM (j0 1).le (q1.atM dI.le hll)
  have fewC:dH sC:=q3.atM qJ.le fewB
  have hE:(some l).bind mq=none→st.bind fW=none:=fun h=>jt qU hR h
  have hpA:sA=none→st.bind fW=none:=fun e=>hE (Gl (by have h:=q1;rw[e] at h;exact h))
  have hpB:sB=none→st.bind fW=none:=fun e=>hE (zw q1 (by have h:=q2;rw[e] at h;exact h))
  have hpC:sC=none→st.bind fW=none:=fun e=>hE (Gm q1 q2 (by have h:=q3;rw[e] at h;exact h))
  have hgL:g<wL.heap.size:=by omega
  have hgb:g<wL.heap.size:=hgL
  have hgs:wL.heap.size≤wL.heap.size:=Nat.le_refl _
  have mWL:Mv (RX g) w wL:=(Mv.of_ext e1).trans mL fun _ hj _=>hj
  refine jP 17 [1,3,4,5,31] (Mv (RX g) wL) (Mv (RX g)) true (fun c w'=>Mv (RX g) wL w'∧uP c∧st.bind fW=none) (bb g (some l)) (fC.mv _ _) (Mv.refl _ _) bb.stableZ hrL (fun c a w1 hd hp=>⟨hd,.inr ⟨c,rfl,mWL.trans hp.1 fun _ hj _=>hj,hp.2⟩⟩) (fun _=>by kernel_rfl) (by kernel_rfl) (by kernel_rfl) ?_
  refine aN Ll Ll (fun w hw=>aF (o:=0) K0 Ll (by kernel_rfl) Ll) (aE Ll Ll (fun w hw=>aj K1 Ll ((hw.blk kL nX1).k0)) ?_)
  refine dB (S:=Is (.tuple #[I n1,I (if sA.isSome=true then 0 else 5)])) (Z':=bb g sA) iH rfl (bt.is _) (bb.stableZ) rfl (fun w hw hz=>by rintro _ rfl;exact tY (c1 hz)) ?_
  refine dV rfl rfl (fun w _=>aT) (dV rfl rfl (fun w _=>aU) (dB (S:=Is (I n1)) (Z':=bb g sA) gE rfl (bt.is _) (bb.stableZ) rfl (fun w hw hz=>by rintro _ rfl _ rfl;exact oK hw hz hpA) ?_))
  refine aE rfl rfl (fun w hw=>(hw.blk kL nX1).ld K0 rfl (by kernel_rfl)) (dB (S:=Is (bj (UInt64.ofNat up))) (Z':=bb g sB) pH rfl (bt.is _) (bb.stableZ) rfl (fun w hw hz=>by rintro _ rfl _ rfl;exact chM hw (cC hz) hpB) ?_)
  refine aS (u:=bj (UInt64.ofNat up)) (r:=B (gT up)) Ll Ll Ll (fun w _=>CQ hup) (aN Ll Ll (fun w hw=>aF (o:=0) K0 Ll (by kernel_rfl) Ll) ?_)
  refine aE rfl rfl (fun w hw=>aj K1 rfl ((hw.blk kL nX1).k0)) (dB (S:=pI wL.heap.size q (if sC.isSome=true then 0 else 5)) (Z':=bb g sC) qC rfl (pI.stable hgb) (bb.stableZ) rfl (fun w hw hz=>by rintro _ rfl;exact Bq (Nat.le_trans hgs hw.size) (cR fewB hz)) ?_)
  refine iA rfl (rU.stable hgb) rfl (fun w v hw hv=>by obtain⟨x,y,rfl,h⟩:=hv;exact⟨_,aT,x,y,rfl,h⟩) (iA rfl (bt.is (I (if sC.isSome=true then 0 else 5))) rfl (fun w v hw hv=>by obtain⟨x,y,rfl,h⟩:=hv;exact⟨_,aU,rfl⟩) ?_)
  refine dB (S:=rU wL.heap.size q) (Z':=(fun w=>bb g sC w∧sC≠none)) oH rfl (rU.stable hgb) (gV bb.stableZ) rfl (fun w hw hz=>by rintro _ ⟨x,y,rfl,h⟩ _ rfl;exact Br hw hz h hpC) ?_
  refine rY (S:=fun v w'=>∃x y,v=.agg #[I n1,B (gT up),B q.1,x,y,.slice none 0 0]∧cK (fun k=>k<wL.heap.size) w' (gi q) [B q.1,x,y]) (fun _ _ _ ⟨x,y,h,h2⟩ hm=>⟨x,y,h,h2.mv (hm.weak fun j hj _=>by have:j=g:=hj;show j<wL.heap.size;omega) fun _ hk=>.inl hk⟩) Ll (fun w' hw=>by
 rintro _ rfl _ rfl _ ⟨x,y,rfl,h⟩
 exact⟨_,w',run_build _ _ _ _ (by kernel_rfl),aI.refl _,x,y,rfl,h⟩) ?_
  refine wT (S:=Bt wL.heap.size 147 [I 0,B false,B false,.slice none 0 0,.slice none 0 0,.slice none 0 0]) (Bt.stable hgL) Ll (fun w' hw=>Gv (z:=.agg #[I 0,B false,B false,.slice none 0 0,.slice none 0 0,.slice none 0 0]) (by kernel_rfl) Ll hw.size) ?_
  refine bF ?_
  intro wg5 xg5 zg5
  rintro _ rfl
  rintro _ hq3
  obtain rfl:=Eq.symm hq3
  rintro _ rfl
  intro vg5 b5
  intro vg31 b31
  obtain⟨hrG,hsC⟩:=zg5
  obtain⟨g5,rfl,hg5,kG5⟩:=b5
  obtain⟨x,y,rfl,hq⟩:=b31
  have hx1:=(gU hq).1
  have hy1:=(gU hq).2
  obtain⟨wd,sd,qd,kd⟩:=kG5.stS (P:=Tryz.prog) (t:=147) (m:=[I n1,B (gT up),B q.1,x,y,.slice none 0 0]) rfl (by kernel_rfl) (aD.cons rfl (aD.cons rfl (aD.cons rfl (aD.cons hx1 (aD.cons hy1 (aD.cons rfl aD.nil))))))
  have md:Mv (fun k=>k=g5) wg5 wd:=Mv.of_grown qd fun k hk _=>(Option.some.inj hk).symm
  have hrd:bb g sC wd:=hrG.mv md fun j hj=>by omega
  have mLd:Mv (RX g) wL wd:=xg5.trans md fun j hj hlt=>by omega
  have kLd:=mLd.blk kL nX1
  have nX5:¬RX g g5:=fun h=>by have:g5=g:=h;omega
  have mWd:Mv (RX g) w wd:=mWL.trans mLd fun _ hj _=>hj
  have lt5:=kd.lt
  refine aq Ll Ll sd ?_
  refine ag (ab (af (aa ?_)))
  refine am Ll Ll (kLd.ld K0 Ll (by kernel_rfl)) ?_
  refine jk rG Ll Ll ((rH hrd fewC)) (fun c a w1 ha hp=>⟨ha.defers,.inr ⟨c,rfl,⟨mWd.trans hp.1 fun _ hj _=>hj,hp.2.1,hE (zx q1 q2 q3 hp.2.2)⟩⟩⟩) ?_
  rintro v33 w33 ⟨m33,ps,sE,rp33,hv33,hr33,q4,hsE⟩
  have m33:=m33
  obtain⟨lE,rfl⟩:=jT hsE
  have k33:=m33.blk kd nX5
  obtain⟨we,se,qe,ke⟩:=k33.stC (P:=Tryz.prog) (t:=81) (i:=5) (v:=v33) (by kernel_rfl) hv33 (by simp)
  have ke:cd g5 147 [I n1,B (gT up),B q.1,x,y,v33] we:=ke
  have me:Mv (fun k=>k=g5) w33 we:=Mv.of_grown qe fun k hk _=>(Option.some.inj hk).symm
  have hre:bb g (some lE) we:=hr33.mv me fun j hj=>by omega
  have mAll:Mv (RX g) wL we:=(mLd.trans m33 fun _ hj _=>hj).trans me fun j hj hlt=>by omega
  have hX1:∀j,RX g j→j<w1.heap.size:=fun j hj=>by have:j=g:=hj;have:=e1.size;omega
  have oE:=oL.mv mAll hX1
  have own:∀j,v.ownBlock=some j→w1.heap.size≤j∧j<wL.heap.size:=oL.lt
  have hY:∀j,(j<w1.heap.size∨v.ownBlock=some j)→j<wL.heap.size:=fun j hj=>by
   rcases hj with hj|hj
   ·omega
   ·exact(own j hj).2
  have szd:=mLd.size
  have rqe:=((Gx hq kG5 (fun n h=>by simp[bA,I,B] at h)).mv (((md.weak (Y:=fun k=>k<wL.heap.size∨k=g5) fun j hj _=>.inr hj).trans m33 fun j hj _=>.inl (by have:j=g:=hj;omega)).trans me fun j hj _=>.inr hj) fun _ hk=>.inl hk:cK (fun k=>k<wL.heap.size∨k=g5) we (gi q) [B q.1,x,y])
  have rpe:=rp33.mv (me.weak fun j hj _=>by show j<wd.heap.size;omega) fun _ hk=>.inl hk
  have hM:=zB (l:=⟨n1,gT up,q,ps⟩) (rqe.weak (Y:=fun k=>k<w1.heap.size∨v.ownBlock=some k) fun j hj=>.inl (.inl (hY j hj))) (rpe.weak fun j hj=>.inl (by have:=hY j hj;show j<wd.heap.size;omega))
  have qLm:=tN q1 q2 q3 q4
  have hlE:=sv l _ lE qLm
  obtain⟨x37,w37,v38,w38,hr37,hr38,o38,m38,n38⟩:=oE.push (ty:=78) (t:=78) KZ zA rfl (by omega) (by omega) (by omega) (aD.cons rfl (aD.cons rfl (aD.cons rfl (aD.cons hx1 (aD.cons hy1 (aD.cons hv33 aD.nil)))))) hM dX (by omega) (Nat.le_trans szL mAll.size)
  have h38:bb g (some lE) w38:=hre.mv m38 fun j hj=>by have:=own j hj;have:=e1.size;omega
  refine ah Ll Ll (aF (o:=5) KX Ll (by kernel_rfl) Ll) ?_
  refine aq Ll Ll se ?_
  refine ag (ab (aa (ae Ll Ll ?_)))
  refine am Ll Ll (ke.ld KX Ll (by kernel_rfl)) ?_
  refine aO (vs:=[(0,.agg #[I n1,B (gT up),B q.1,x,y,v33])]) Ll Ll hr37 ?_
  refine bc Ll Ll hr38 ?_
  refine ac Ll Ll (ag (aJ (ab (aa (ae Ll Ll ?_)))))
  have ek:UInt64.ofNat (k'+1)-1=UInt64.ofNat k':=by
   refine UInt64.toNat_inj.1 ?_
   rw[UInt64.toNat_sub_of_le _ _ (UInt64.le_iff_toNat_le.2 (by rw[hkn];show 1≤_;omega)),hkn,UInt64.toNat_ofNat',show(1:UInt64).toNat=1 from rfl]
   omega
  refine ai (v:=bj 1) (r:=bj (UInt64.ofNat k')) Ll Ll Ll ((by rw[←ek];exact dx)) (ac Ll Ll (ag ?_))
  refine fq (k') (v38) (lE) (ls++[⟨n1,gT up,q,ps⟩]) ⟨rfl,rfl,rfl,trivial⟩ ⟨(mL.trans mAll fun _ hj _=>hj).trans m38 fun j hj hlt=>by have:=(own j hj).1;omega,h38,o38,by omega,jr hR qLm,by simp;omega⟩ (by omega)
 ·refine aa (ae Ll Ll (ai (v:=bj 0) Ll Ll Ll (cf (fun hh=>by have:=UInt64.lt_iff_toNat_lt.1 hh;rw[hkn,h0] at this;exact absurd this (by decide)) cu) ?_))
  refine ag (ab (cp Ll (aY (aB (aB (aX (ab (af (aa (ae Ll Ll (ac Ll Ll (ag (ab (av (aG Ll Ll ?_)))))))))))))))
  exact .inl ⟨_,rfl,(Mv.of_ext e1).trans mL fun _ hj _=>hj,ls,some l,(oL.rpx dX (by omega)).weak fun j hj=>.inl (by have:=e1.size;show j<w1.heap.size;omega),hvo,hrL,iL qU (by subst h0;exact hR),by simp⟩
end Go.Rl
namespace Go.Rl
open Go.RowKit Go.Proofs
theorem eE.det {α:Type} {f:List UInt8→Option (α×List UInt8)} {st s s':Option (List UInt8)} {a a':α} (h:eE f st a s) (h':eE f st a' s') (hn:s≠none):a=a'∧s=s':=by
 have e:s.map (fun t=>(a,t))=s'.map fun t=>(a',t):=h.symm.trans h'
 cases s with
 |none=>exact absurd rfl hn
 |some t=>
  cases s' with
  |none=>cases e
  |some t'=>
   simp only[Option.map_some,Option.some.injEq,Prod.mk.injEq] at e
   exact⟨e.1,by rw[e.2]⟩
theorem xN (st:Option (List UInt8)):∃nd s1,eE eC st nd s1:=by
 cases h:st.bind eC with
 |none=>exact⟨.mk [] uN [] false [],none,h⟩
 |some p=>exact⟨p.1,some p.2,h⟩
theorem jS.isS {α:Type} {b sz:Nat} {f:α→Dt} {l:List α} {v:Value} {w:World} (h:jS b sz f l v w):∃A n c,v=.slice A n c:=by
 obtain⟨cs,⟨A,n,c,rfl,_⟩,_⟩:=h
 exact⟨A,n,c,rfl⟩
theorem jS.rpx {α:Type} {b sz:Nat} {f:α→Dt} {l:List α} {v:Value} {w:World} (h:jS b sz f l v w) (hs:∀a,(f a).size=sz) (h0:0<sz):cK (fun k=>k<b) w (.sl (l.map f)) [v]:=by
 obtain⟨cs,⟨A,n,c,rfl,h2,h3,h4,h5,h6⟩,hown,h1,hall⟩:=h
 have hl:cs.length=l.length*sz:=by rw[hall.len,cJ (sz:=sz) (by simp[hs]),List.length_map]
 have hn:n=l.length:=Nat.eq_of_mul_eq_mul_right h0 (h4.symm.trans hl)
 simp only[cK]
 refine⟨A,n,c,rfl,by rw[List.length_map,hn],h2,h3,h6,fun hp=>?_⟩
 obtain⟨ad,rfl,hC⟩:=h5 hp
 exact⟨ad,cs,rfl,fun _ hb=>by have:=hown ad.block rfl;omega,hC,hall⟩
theorem Jt {α:Type} {P:Program} {w:World} {t e:TypeId} {z:Value} {sz bytes b:Nat} {f:α→Dt} {a1 a2:α} {c1 c2:List Value} (ht:P.underlying t=some (.slice e)) (hi:(P.info? e).map (fun i=>(i.zero,i.size,i.bytes))=some (some z,sz,bytes)) (hzs:z.cells.size=sz) (h0:0<sz) (hsb:2*sz≤16777216)
 (hb:b≤w.heap.size) (h1:aD c1) (h2:aD c2) (ha1:cK (fun k=>k<b) w (f a1) c1) (ha2:cK (fun k=>k<b) w (f a2) c2) (hs:∀a,(f a).size=sz):∃r w',(Instr.buildSlice t 2 (dT 0 [Value.agg c1.toArray,Value.agg c2.toArray]).toArray).run P w=.ok r w'∧aI w w'∧jS b sz f [a1,a2] r w':=by
 have hl1:c1.length=sz:=by rw[ha1.len,hs]
 have hl2:c2.length=sz:=by rw[ha2.len,hs]
 have hi2:(P.info? e).map (fun i=>(i.zero,i.size))=some (some z,sz):=by
  obtain⟨i,hi',h2⟩:=Option.map_eq_some_iff.1 hi
  simp only[Prod.mk.injEq] at h2
  rw[hi']
  simp[h2.1,h2.2.1]
 obtain⟨x,w0,h3,h4,h5,h6⟩:=CN (w:=w) ht hi2 hzs h0 [c1,c2] (by simp[hl1,hl2]) (by simp) (by simpa using hsb)
 refine⟨x,w0,by simpa using h3,h4,c1++c2,by simpa using h5,fun k hk=>?_,fun u hu=>(List.mem_append.1 hu).elim (h1 u) (h2 u),?_⟩
 ·rw[h6] at hk
  obtain rfl:=Option.some.inj hk
  exact hb
 ·simpa using aL.cons (ha1.ext h4) (aL.cons (b:=[]) (ha2.ext h4) aL.nil)
def xO (b:Nat) (nd:aP):dC:=fun v w=>∃cs,v=.agg cs.toArray∧aD cs∧cK (fun k=>k<b) w (bM nd) cs
theorem xO.stable {b g:Nat} {nd:aP} (hg:g<b):bT (Mv (RX g)) (xO b nd):=fun _ _ _ ⟨cs,h,h1,h2⟩ hm=>⟨cs,h,h1,h2.mv (hm.weak fun j hj _=>by have:j=g:=hj;show j<b;omega) fun _ hk=>.inl hk⟩
def Gy (g:Nat) (w:World) (st:Option (List UInt8)) (r:Value) (w':World):Prop:=
 Mv (RX g) w w'∧∃(nd:aP) (cs:List Value) (s1:Option (List UInt8)),r=.agg cs.toArray∧cK (fun k=>k<w.heap.size) w' (bM nd) cs∧aD cs∧bb g s1 w'∧eE eC st nd s1∧s1≠none
def H2 (g:Nat) (w:World) (st:Option (List UInt8)) (c:List PanicEntry) (w':World):Prop:=Mv (RX g) w w'∧uP c∧st.bind eC=none
theorem ndM {w0 w:World} {g b:Nat} {st s1:Option (List UInt8)} {nd:aP} {E:Prop} {f:FuncId} {args:Array Value} (hw:Mv (RX g) w0 w) (hb:b≤w.heap.size) (h:Calls Tryz.prog f args w (lB (Gy g w st) (H2 g w st))) (q:eE eC st nd s1) (hp:st.bind eC=none→E):
 Calls Tryz.prog f args w (fun e w'=>(∃r,e=.returned r∧Mv (RX g) w w'∧xO b nd r w'∧bb g s1 w'∧s1≠none)∨∃c,e=.panicked c∧Mv (RX g) w0 w'∧uP c∧E):=by
 refine Calls.mono h fun _ _ he=>?_
 rcases he with⟨r,he,h1,nd',cs,s',h2,h3,h4,h5,h6,h7⟩|⟨c,he,h1,h2,h3⟩
 ·obtain⟨rfl,rfl⟩:=h6.det q h7
  exact .inl ⟨r,he,h1,⟨cs,h2,h4,h3.weak fun j hj=>.inl (Nat.lt_of_lt_of_le hj hb)⟩,h5,h7⟩
 ·exact .inr ⟨c,he,hw.trans h1 fun _ hn _=>hn,h2,hp h3⟩
theorem zE {w w2 wA:World} {g g2:Nat} {z cs:List Value} {nd:aP} {st s1:Option (List UInt8)} (hg:g<w.heap.size) (l2:w.heap.size≤g2) (e2:aI w w2) (k2:cd g2 83 z w2) (hz:z.length=9) (mT:Mv (RX g) w2 wA) (h1:aD cs) (rp:cK (fun k=>k<w2.heap.size) wA (bM nd) cs) (hr:bb g s1 wA) (q:eE eC st nd s1) (hs:s1≠none):
 ∃wd,(Instr.storeAt 83 (.pointer (some ⟨g2,0,none⟩)) (.agg cs.toArray)).run Tryz.prog wA=.ok () wd∧cd g2 83 cs wd∧Gy g w st (.agg cs.toArray) wd:=by
 have lt2:=k2.lt
 have k2A:=mT.blk k2 (fun h=>by have:g2=g:=h;omega)
 have hc:cs.length=9:=rp.len.trans (bD nd)
 obtain⟨wd,sd,qd,kd⟩:=k2A.stS (P:=Tryz.prog) (t:=83) (m:=cs) (by omega) (by rw[hc];kernel_rfl) h1
 have md:Mv (fun k=>k=g2) wA wd:=Mv.of_grown qd fun k hk _=>(Option.some.inj hk).symm
 exact⟨wd,sd,kd,((Mv.of_ext e2).trans mT fun _ hj _=>hj).trans md fun j hj hlt=>by omega,nd,cs,s1,rfl,rp.mv (md.weak fun j hj _=>by show j<w2.heap.size;omega) fun j hj=>.inl (by have:=e2.size;show j<w2.heap.size;omega),h1,hr.mv md fun j hj=>by omega,q,hs⟩
theorem Bv {w:World} {g:Nat} {st:Option (List UInt8)} {n:Nat} (ih:∀{w:World} {g:Nat} {st:Option (List UInt8)} {m:Nat},m<n→bb g st w→dH st→yB m st→Calls Tryz.prog 112 #[.agg #[.pointer (some ⟨g,0,none⟩)]] w (lB (Gy g w st) (H2 g w st))) (hr:bb g st w) (hl:dH st) (hn:yB n st):
 Calls Tryz.prog 112 #[.agg #[.pointer (some ⟨g,0,none⟩)]] w (lB (Gy g w st) (H2 g w st)):=by
 refine enter (vs:=[.agg #[.pointer (some ⟨g,0,none⟩)]]) Tryz.func112 Ll Ll Ll ?_
 have hlt:g<w.heap.size:=bb.lt hr
 obtain⟨tag,s1,qF,htag,cC⟩:=Gt st (most:=2) (by omega)
 refine af (aa ?_)
 obtain⟨g1,w1,hr1,l1,x1,k1⟩:=dc (P:=Tryz.prog) (w:=w) (T:=172) (cs:=[.pointer (some ⟨g,0,none⟩)])
 refine cL Ll Ll hr1 ?_
 obtain⟨g2,w2,hr2,l2,x2,k2⟩:=be (P:=Tryz.prog) (w:=w1) (t:=83) (z:=.agg #[.slice none 0 0,I 0,I 0,B false,.slice none 0 0,.slice none 0 0,.slice none 0 0,B false,.slice none 0 0]) (l:=[.slice none 0 0,I 0,I 0,B false,.slice none 0 0,.slice none 0 0,.slice none 0 0,B false,.slice none 0 0]) (by kernel_rfl) rfl
 refine bf Ll hr2 ?_
 have hr2:=hr.ext (x1.trans x2)
 have e2:=(x1.trans x2)
 have k12:=k1.ext x2
 have sz1:=x1.size
 have sz2:=e2.size
 have lt2:=k2.lt
 have nX1:¬RX g g1:=fun h=>by have:g1=g:=h;omega
 have nX2:¬RX g g2:=fun h=>by have:g2=g:=h;omega
 refine ag (ab (af (aa ?_)))
 refine am Ll Ll (k12.ld K0 Ll (by kernel_rfl)) ?_
 refine jk pH Ll Ll ((cC hr2)) (fun c a w1 ha hp=>⟨ha.defers,.inr ⟨c,rfl,⟨(Mv.of_ext e2).trans hp.1 fun _ hj _=>hj,hp.2.1,zq (by have h:=qF;rw[hp.2.2] at h;exact h)⟩⟩⟩) ?_
 rintro v6 w6 ⟨m6,rfl,hr6,hs1,hle⟩
 have m6:=m6
 obtain⟨l1,rfl⟩:=jT hs1
 have hl1:dH (some l1):=qF.atM (j0 2).le hl
 have hn1:l1.length+1≤n:=by
  obtain⟨l0,e0,q0⟩:=qF.some
  have:=j0 2 l0 _ _ q0
  have:=hn l0 e0
  omega
 have an1:yB (n-1) (some l1):=fun l' e=>by cases e;omega
 have k16:=m6.blk k12 nX1
 refine ac Ll Ll (ag (ab (af (aa (ae Ll Ll (ai (v:=bj 1) (r:=B (decide (tag=1))) Ll Ll Ll ((CQ htag)) ?_))))))
 refine am Ll Ll (k16.ld K0 Ll (by kernel_rfl)) ?_
 refine jk Bl Ll Ll ((Bu hr6 hl1)) (fun c a w1 ha hp=>⟨ha.defers,.inr ⟨c,rfl,⟨((Mv.of_ext e2).trans m6 fun _ hj _=>hj).trans hp.1 fun _ hj _=>hj,hp.2.1,pE qF hp.2.2⟩⟩⟩) ?_
 rintro v10 w10 ⟨m10,ls,s2,rl10,hv10,hr10,qLs,hs2⟩
 have m10:=m10
 obtain⟨lc,rfl⟩:=jT hs2
 have hl2:dH (some lc):=qLs.atM kB.le hl1
 have an2:yB (n-1) (some lc):=qLs.atM kB.le an1
 have m210:Mv (RX g) w2 w10:=m6.trans m10 fun _ hj _=>hj
 refine bm (vs:=[(3,B (decide (tag=1))),(0,v10)]) (r:=.agg #[v10,I 0,I 0,B false,.slice none 0 0,.slice none 0 0,.slice none 0 0,B (decide (tag=1)),.slice none 0 0]) rfl rfl (by obtain⟨_,_,_,rfl⟩:=rl10.isS;exact run_build _ _ _ _ (by kernel_rfl)) ?_
 obtain⟨g4,w4,hr4,l4,x4,k4⟩:=be (P:=Tryz.prog) (w:=w10) (t:=83) (z:=.agg #[.slice none 0 0,I 0,I 0,B false,.slice none 0 0,.slice none 0 0,.slice none 0 0,B false,.slice none 0 0]) (l:=[.slice none 0 0,I 0,I 0,B false,.slice none 0 0,.slice none 0 0,.slice none 0 0,B false,.slice none 0 0]) (by kernel_rfl) rfl
 refine bf Ll hr4 ?_
 obtain⟨w5,s5,q5,k5⟩:=k4.stS (P:=Tryz.prog) (t:=83) (m:=[v10,I 0,I 0,B false,.slice none 0 0,.slice none 0 0,.slice none 0 0,B (decide (tag=1)),.slice none 0 0]) rfl (by kernel_rfl) (aD.cons hv10 (aD.cons rfl (aD.cons rfl (aD.cons rfl (aD.cons rfl (aD.cons rfl (aD.cons rfl (aD.cons rfl (aD.cons rfl aD.nil)))))))))
 have x410:=x4
 have m5:Mv (fun k=>k=g4) w4 w5:=Mv.of_grown q5 fun k hk _=>(Option.some.inj hk).symm
 have sz210:=m210.size
 have sz4:=x4.size
 have lt4:=k4.lt
 have lt5:=k5.lt
 have m105:Mv (RX g) w10 w5:=(Mv.of_ext x4).trans m5 fun j hj hlt=>by omega
 have m25:Mv (RX g) w2 w5:=m210.trans m105 fun _ hj _=>hj
 have hr5:bb g (some lc) w5:=(hr10.ext x4).mv m5 fun j hj=>by omega
 have nX4:¬RX g g4:=fun h=>by have:g4=g:=h;omega
 have rl5:cK (fun k=>k<w2.heap.size∨k=g4) w5 (.sl (ls.map eI)) [v10]:=(((rl10.weak (Y:=fun k=>k<w2.heap.size∨k=g4) fun j hj=>by
  rcases hj with hj|hj
  ·exact .inl (by have:=m6.size;show j<w6.heap.size;omega)
  ·exact .inr (by omega)).ext x4).mv (m5.weak fun j hj _=>.inr hj) fun _ hk=>.inl hk)
 have k15:=m25.blk k12 nX1
 refine aq Ll Ll s5 ?_
 refine ag (ab (af (af ?_)))
 by_cases ht:tag<2
 ·refine aa (ae Ll Ll (ai (v:=bj 2) Ll Ll Ll (cg ((Fj htag (by omega)).2 ht) dy) (ag (ab (bB Ll (af (aa ?_)))))))
  refine am Ll Ll (k15.ld K0 Ll (by kernel_rfl)) ?_
  refine jk rG Ll Ll ((rH hr5 hl2)) (fun c a w1 ha hp=>⟨ha.defers,.inr ⟨c,rfl,⟨((Mv.of_ext e2).trans m25 fun _ hj _=>hj).trans hp.1 fun _ hj _=>hj,hp.2.1,zr ht qF qLs hp.2.2⟩⟩⟩) ?_
  rintro v15 w15 ⟨m15,ps,s3,rp15,hv15,hr15,qP,hs3⟩
  have m15:=m15
  have k415:=m15.blk k5 nX4
  obtain⟨we,se,qe,ke⟩:=k415.stC (P:=Tryz.prog) (t:=81) (i:=8) (v:=v15) (by kernel_rfl) hv15 (by simp)
  have ke:cd g4 83 [v10,I 0,I 0,B false,.slice none 0 0,.slice none 0 0,.slice none 0 0,B (decide (tag=1)),v15] we:=ke
  have me:Mv (fun k=>k=g4) w15 we:=Mv.of_grown qe fun k hk _=>(Option.some.inj hk).symm
  have hre:bb g s3 we:=hr15.mv me fun j hj=>by omega
  have mT:Mv (RX g) w2 we:=(m25.trans m15 fun _ hj _=>hj).trans me fun j hj hlt=>by omega
  have rle:=rl5.mv ((m15.weak (Y:=fun k=>k<w2.heap.size∨k=g4) fun j hj _=>.inl (by have:j=g:=hj;omega)).trans me fun j hj _=>.inr hj) fun _ hk=>.inl hk
  have rpe:=rp15.mv (me.weak fun j hj _=>by show j<w5.heap.size;omega) fun _ hk=>.inl hk
  obtain⟨wd,sd,kd,fin⟩:=zE (st:=st) (nd:=.mk ls uN [] (decide (tag=1)) ps) hlt (Nat.le_trans sz1 l2) e2 k2 rfl mT (aD.cons hv10 (aD.cons rfl (aD.cons rfl (aD.cons rfl (aD.cons rfl (aD.cons rfl (aD.cons rfl (aD.cons rfl (aD.cons hv15 aD.nil))))))))) (fM (rle.weak fun j hj=>.inl (.inl hj)) lF kI (rpe.weak fun j hj=>.inl (by have:=m25.size;show j<w5.heap.size;omega))) hre (vL ht qF qLs qP) hs3
  refine ah Ll Ll (aF (o:=8) KM Ll (by kernel_rfl) Ll) ?_
  refine aq Ll Ll se ?_
  refine ag (ab (af (aa ?_)))
  refine am Ll Ll (ke.ld KM Ll (by kernel_rfl)) ?_
  refine aq Ll Ll sd ?_
  refine ag (ab (av (au ?_)))
  refine dR Ll Ll kd KM Ll (by kernel_rfl) ?_
  exact .inl ⟨_,rfl,fin⟩
 ·refine aa (ae Ll Ll (ai (v:=bj 2) Ll Ll Ll (cf (mt (Fj htag (by omega)).1 ht) dy) (ag (ab (cp Ll (ar (ab (af (aa ?_)))))))))
  refine am Ll Ll (k15.ld K0 Ll (by kernel_rfl)) ?_
  refine jk Er Ll Ll ((Es hr5 hl2)) (fun c a w1 ha hp=>⟨ha.defers,.inr ⟨c,rfl,⟨((Mv.of_ext e2).trans m25 fun _ hj _=>hj).trans hp.1 fun _ hj _=>hj,hp.2.1,zt ht qF qLs hp.2.2⟩⟩⟩) ?_
  rintro v19 w19 ⟨m19,d,x,y,s3,rfl,rd19,hx,hy,hr19,qD,hs3⟩
  have m19:=m19
  have k419:=m19.blk k5 nX4
  obtain⟨we,se,qe,ke⟩:=k419.stO (P:=Tryz.prog) (t:=80) (m:=[I d.kd,I d.ix,B d.at_.1,x,y]) 1 (by simp) (by kernel_rfl) (aD.cons rfl (aD.cons rfl (aD.cons rfl (aD.cons hx (aD.cons hy aD.nil)))))
  have ke:cd g4 83 [v10,I d.kd,I d.ix,B d.at_.1,x,y,.slice none 0 0,B (decide (tag=1)),.slice none 0 0] we:=ke
  have me:Mv (fun k=>k=g4) w19 we:=Mv.of_grown qe fun k hk _=>(Option.some.inj hk).symm
  have hre:bb g s3 we:=hr19.mv me fun j hj=>by omega
  have mT:Mv (RX g) w2 we:=(m25.trans m19 fun _ hj _=>hj).trans me fun j hj hlt=>by omega
  have rle:=rl5.mv ((m19.weak (Y:=fun k=>k<w2.heap.size∨k=g4) fun j hj _=>.inl (by have:j=g:=hj;omega)).trans me fun j hj _=>.inr hj) fun _ hk=>.inl hk
  have rde:=rd19.mv (me.weak fun j hj _=>by show j<w5.heap.size;omega) fun _ hk=>.inl hk
  have rde:cK (fun k=>k<w2.heap.size∨k=g4) we (gD d) [I d.kd,I d.ix,B d.at_.1,x,y]:=rde.weak fun j hj=>.inl (by
   have:=m25.size
   rcases hj with hj|hj
   ·show j<w5.heap.size;omega
   ·show j<w5.heap.size;omega)
  have eT:decide (tag=1)=false:=decide_eq_false (by omega)
  have k1e:=mT.blk k12 nX1
  obtain⟨na,s4,qa⟩:=xN s3
  obtain⟨nb,s6,qb⟩:=xN s4
  have hl3:dH s3:=qD.atM mX.le hl2
  have an3:yB (n-1) s3:=qD.atM mX.le an2
  have hl4:dH s4:=qa.atM lz.le hl3
  have an4:yB (n-1) s4:=qa.atM lz.le an3
  have hgb:g<we.heap.size:=by have:=mT.size;omega
  have hpa:s3.bind eC=none→st.bind eC=none:=fun e=>zu ht qF qLs qD e
  have hpb:s4.bind eC=none→st.bind eC=none:=fun e=>zv ht qF qLs qD qa e
  refine ah Ll Ll (aF (o:=1) KM Ll (by kernel_rfl) Ll) ?_
  refine aq Ll Ll se ?_
  refine ag (ab (af (jP 6 [2,4,25,26] (Mv (RX g) we) (Mv (RX g)) true (fun c w'=>Mv (RX g) we w'∧uP c∧st.bind eC=none) (bb g s3) (fC.mv _ _) (Mv.refl _ _) bb.stableZ hre (fun c a w1 hd hp=>⟨hd,.inr ⟨c,rfl,((Mv.of_ext e2).trans mT fun _ hj _=>hj).trans hp.1 fun _ hj _=>hj,hp.2⟩⟩) (fun _=>by kernel_rfl) (by kernel_rfl) (by kernel_rfl) ?_)))
  refine aE rfl rfl (fun w hw=>(hw.blk k1e nX1).ld K0 rfl (by kernel_rfl)) (dB (S:=xO we.heap.size na) (Z':=(fun w=>bb g s4 w∧s4≠none)) oI rfl (xO.stable hgb) (gV bb.stableZ) rfl (fun w hw hz=>by rintro _ rfl;exact ndM hw hw.size (ih (m:=n-1) (by omega) hz hl3 an3) qa hpa) ?_)
  refine aE rfl rfl (fun w hw=>(hw.blk k1e nX1).ld K0 rfl (by kernel_rfl)) (dB (S:=xO we.heap.size nb) (Z':=(fun w=>bb g s6 w∧s6≠none)) oI rfl (xO.stable hgb) (gV bb.stableZ) rfl (fun w hw hz=>by rintro _ rfl;exact ndM hw hw.size (ih (m:=n-1) (by omega) hz.1 hl4 an4) qb hpb) ?_)
  refine eO (S:=jS we.heap.size 9 bM [na,nb]) (jS.stable hgb) Ll (fun w' hw=>by
 rintro _ ⟨ca,rfl,ha1,ha2⟩ _ ⟨cb,rfl,hb1,hb2⟩
 exact Jt KR kH rfl (by omega) (by omega) hw.size ha1 hb1 ha2 hb2 bD) ?_
  refine aN Ll Ll (fun w hw=>aF (o:=6) KM Ll (by kernel_rfl) Ll) (bF ?_)
  intro wg7 xg7 zg7
  rintro _ rfl
  rintro _ rfl
  intro vg25 b25
  rintro _ rfl
  obtain⟨hrG,hs6⟩:=zg7
  have hv25:vg25.oneCell'=true:=by obtain⟨_,_,_,rfl⟩:=b25.isS;rfl
  have kG:=xg7.blk ke nX4
  obtain⟨wf,sf,qf,kf⟩:=kG.stC (P:=Tryz.prog) (t:=23) (i:=6) (v:=vg25) (by kernel_rfl) hv25 (by simp)
  have kf:cd g4 83 [v10,I d.kd,I d.ix,B d.at_.1,x,y,vg25,B (decide (tag=1)),.slice none 0 0] wf:=kf
  have mf:Mv (fun k=>k=g4) wg7 wf:=Mv.of_grown qf fun k hk _=>(Option.some.inj hk).symm
  have hrf:bb g s6 wf:=hrG.mv mf fun j hj=>by omega
  have mW:Mv (RX g) w2 wf:=(mT.trans xg7 fun _ hj _=>hj).trans mf fun j hj hlt=>by omega
  have mK:Mv (fun k=>k<w2.heap.size∨k=g4) we wf:=(xg7.weak fun j hj _=>.inl (by have:j=g:=hj;omega)).trans mf fun j hj _=>.inr hj
  have rlf:=rle.mv mK fun _ hk=>.inl hk
  have rdf:=rde.mv mK fun _ hk=>.inl hk
  have lte:=ke.lt
  have rkf:=(b25.rpx bD (by omega)).mv (mf.weak fun j hj _=>by show j<we.heap.size;omega) fun _ hk=>.inl hk
  obtain⟨wd,sd,kd,fin⟩:=zE (st:=st) (nd:=.mk ls d [na,nb] (decide (tag=1)) []) hlt (Nat.le_trans sz1 l2) e2 k2 rfl mW (aD.cons hv10 (aD.cons rfl (aD.cons rfl (aD.cons rfl (aD.cons hx (aD.cons hy (aD.cons hv25 (aD.cons rfl (aD.cons rfl aD.nil))))))))) (fM (rlf.weak fun j hj=>.inl (.inl hj)) (rdf.weak fun j hj=>.inl (.inl hj)) (rkf.weak fun j hj=>.inl (by have:=mT.size;show j<we.heap.size;omega)) kI) hrf (by rw[eT];exact tO ht qF qLs qD qa qb) hs6
  refine aq Ll Ll sf ?_
  refine ag (ab (af (aa ?_)))
  refine am Ll Ll (kf.ld KM Ll (by kernel_rfl)) ?_
  refine aq Ll Ll sd ?_
  refine ag (ab (av ?_))
  refine dR Ll Ll kd KM Ll (by kernel_rfl) ?_
  exact .inl ⟨_,rfl,fin⟩
theorem Bw:∀(n:Nat) {w:World} {g:Nat} {st:Option (List UInt8)},bb g st w→dH st→yB n st→Calls Tryz.prog 112 #[.agg #[.pointer (some ⟨g,0,none⟩)]] w (lB (Gy g w st) (H2 g w st)):=by
 intro n
 induction n using Nat.strongRecOn with
 |_ n ih=>exact fun hr hl hn=>Bv (n:=n) (fun {w g st m} hm h1 h2 h3=>ih m hm h1 h2 h3) hr hl hn
end Go.Rl
namespace Go.Rl
open Go.RowKit Go.Proofs
theorem H3 {P:Program} {Q:fe} {N:Nat} {D:List Deferred} {l:Fr} {w:World} {c:Code} {a:Act} (ha:At N D l a) (h:cM P Q N D l w c):c.wp P Q a w:=h a ha
theorem Gz {P:Program} {w:World} {t u:TypeId} {ms} {x y:Operand} {v:Value} (ht:P.underlying t=some (.interface ms)):(bin .neq t x y (.iface u v) .nilIface).run P w=.ok (B true) w:=by
 have h:(Op.equal t (.iface u v) .nilIface).run P w=.ok false w:=by
  show(Op.equalIn (9999+1) t (.iface u v) .nilIface).run P w=_
  unfold Op.equalIn
  simp[run_underlying ht]
 show(do pure (Value.bool (!(←Op.equal t (.iface u v) .nilIface))):Sem Value).run P w=_
 rw[Sem.run_bind,h];rfl
theorem Km {P:Program} {w:World} {t T:TypeId} {fs:Array Field} {v:Value} (h:P.underlying T=some (.struct fs)):(Instr.typeAssert (.iface T v) t T true).run P w=.ok (.tuple #[v,B true]) w:=by
 simp[Instr.typeAssert,run_underlying h,B]
theorem Bx {w:World} {g2 g3:Nat}:
 CallsD Tryz.prog 108 #[.pointer (some ⟨g2,0,none⟩),.pointer (some ⟨g3,0,none⟩)] .returning w fun e u' w'=>e=.returned (.tuple #[])∧u'=.returning∧w'=w:=by
 refine callsD_of_wpS Tryz.func108 Ll fun c₀ cs hu=>?_
 apply wpS_seq
 apply wpS_region
 simp[wpOpsS,go_sem,recoverD,hu,Exit.thenS]
 apply wpS_seq
 apply wpS_region
 simp[wpOpsS,go_sem,Exit.thenS]
 refine wpS_cond (t:=false) (by simp[Act.eval,Array.replicate]) ?_
 simp only[Bool.false_eq_true,if_false]
 refine wpS_of_wp (wp_skip ?_)
 cases c₀
 simp_all [bodyPostS,results]
theorem Et {w:World} {g2 g3:Nat} {v2 v3:Value} (k2:cd g2 23 [v2] w) (k3:cd g3 29 [v3] w) (hne:g2≠g3):
 CallsD Tryz.prog 108 #[.pointer (some ⟨g2,0,none⟩),.pointer (some ⟨g3,0,none⟩)] (.panicking [{v:=JT,recovered:=false}]) w fun e u' w'=>e=.returned (.tuple #[])∧u'=.panicking [{v:=JT,recovered:=true}]∧Mv (fun k=>k=g2∨k=g3) w w'∧cd g2 23 [.slice none 0 0] w'∧cd g3 29 [I 5] w':=by
 refine callsD_of_wpS Tryz.func108 Ll fun c₀ cs hu=>?_
 apply wpS_seq
 apply wpS_region
 simp[wpOpsS,go_sem,recoverD,hu,Exit.thenS,JT]
 refine wpS_of_wp ?_
 refine H3 (N:=16) (D:=[]) (l:=[(0,.pointer (some ⟨g2,0,none⟩)),(1,.pointer (some ⟨g3,0,none⟩)),(2,.iface 167 (.agg #[]))]) ⟨by simp,rfl,fun t v h=>?_⟩ ?_
 ·rcases t with _|_|_|t
  ·simpa [lk] using h
  ·simpa [lk] using h
  ·simpa [lk] using h
  ·simp[lk,Nat.beq] at h
 obtain⟨g5,w5,hr5,l5,x5,k5⟩:=be (P:=Tryz.prog) (w:=w) (t:=167) (z:=.agg #[]) (l:=[]) (by kernel_rfl) rfl
 obtain⟨w6,s6,q6,k6⟩:=k5.stS (P:=Tryz.prog) (t:=167) (m:=[]) rfl (by kernel_rfl) aD.nil
 have x6:aI w w6:=aI.of_new x5 q6 l5
 obtain⟨w7,s7,q7,k7⟩:=(k2.ext x6).stC (P:=Tryz.prog) (t:=23) (i:=0) (v:=.slice none 0 0) (by kernel_rfl) rfl (by simp)
 obtain⟨w8,s8,q8,k8⟩:=((k3.ext x6).other q7 (fun e=>hne (Option.some.inj e).symm)).stC (P:=Tryz.prog) (t:=29) (i:=0) (v:=I 5) (by kernel_rfl) rfl (by simp)
 have k78:=k7.other q8 (fun e=>hne (Option.some.inj e))
 have m7:Mv (fun k=>k=g2∨k=g3) w w7:=(Mv.of_ext x6).trans (Mv.of_grown q7 fun k hk _=>.inl (Option.some.inj hk).symm) fun _ hj _=>hj
 have m8:Mv (fun k=>k=g2∨k=g3) w w8:=m7.trans (Mv.of_grown q8 fun k hk _=>.inr (Option.some.inj hk).symm) fun _ hj _=>hj
 refine af (aa (ae Ll Ll (ai (r:=B true) Ll Ll Ll (Gz Tryz.underlying20) (ag (ab (bB Ll ?_))))))
 refine af (af (aa (ae Ll Ll (wR (r:=.tuple #[.agg #[],B true]) (f:=fun v=>Instr.typeAssert v 20 167 true) (fun _=>rfl) Ll Ll (Km Lg) (ae Ll Ll (ak Ll Ll aT (ak Ll Ll aU (bf Ll hr5 ?_))))))))
 refine aq Ll Ll s6 (ac Ll Ll (ag (ab (af (aa (ae Ll Ll (bI Ll Ll bK (ag (ab (cp Ll (ar (ab ?_))))))))))))
 refine aa (aq Ll Ll s7 (aq Ll Ll s8 (ag fun a ha=>?_)))
 exact⟨ha.defers,.panicking [{v:=JT,recovered:=true}],rfl,.tuple #[],by simp[results],rfl,rfl,m8,k78,k8⟩
end Go.Rl
namespace Go.Rl
open Go.RowKit Go.Proofs
section
variable {P:Program} {Q:fe} {N:Nat} {D:List Deferred} {l:Fr} {w:World} {ops:Array Oper} {rest:List Oper} {ty:TypeId} {pos:String} {aft:Array Edge}
theorem Ju {f:FuncId} {fn:Func} {c:Code} {vs:List Value} {R:Ending→World→Prop} (hf:P.funcs[f]? =some fn) (hb:fn.body=some c) (hN:fn.ntmps=N) (hle:Nat.ble vs.length N=true)
 (h:cM P (bodyPostD P fn R) N [] (dT 0 vs) w c):Calls P f vs.toArray w R:=by
 have hle':vs.length≤N:=by simpa using hle
 refine calls_of_wp_defers hf hb (h _ ⟨?_,rfl,fun t v ht=>?_⟩)
 ·simp[hN];omega
 ·obtain⟨_,h2⟩:=nq vs 0 t v ht
  have h2':vs[t]? =some v:=by simpa using h2
  have hlt:t<vs.length:=by
   rcases Nat.lt_or_ge t vs.length with h|h
   ·exact h
   ·rw[List.getElem?_eq_none h] at h2';cases h2'
  rw[List.getElem?_eq_getElem hlt] at h2'
  simpa [Array.getElem?_append,hlt] using h2'
theorem H4 {x:Operand} {fn:Fn} {fs cap:Array Value} (hx:ev l x=some (.func fn fs cap)) (k:bW P ops Q N (⟨.fn fn cap,fs⟩::D) l w rest):
 bW P ops Q N D l w (⟨none,.defer {callee:=.value x,args:=#[],argTypes:=#[]},ty,pos,aft,none⟩::rest):=fun a ha=>by
 have hr:(execOp a.eval ⟨none,.defer {callee:=.value x,args:=#[],argTypes:=#[]},ty,pos,aft,none⟩).run P w=.ok (.defer ⟨.fn fn cap,fs⟩) w:=by
  have e:a.eval x=.func fn fs cap:=ha.ev hx
  simp[execOp,resolve,e,Deferred.ofValue]
 unfold wpList
 rw[if_pos (by rfl)]
 refine .inl ?_
 unfold Oper.wp
 rw[hr]
 refine k _ ⟨ha.size,?_,ha.at_⟩
 show _::a.defers=_
 rw[ha.defers]
theorem pJ {t:TypeId} {d:TypeDesc} {a:Addr} {v:Value} (ht:P.underlying t=some d) (hd:(match d with|.struct _|.array _ _=>true|_=>false)=false) (hc:w.cell? a=some v):(loadVar t a).run P w=.ok v w:=by
 have:=aj (P:=P) (t:=t) ht hd hc
 simpa [Instr.loadAt,Instr.sureAddr] using this
theorem uV {fn:Func} {p q:Tmp} {t u:TypeId} {tmps:Array Value} {a b:Addr} {v v2:Value} (h:fn.results= #[.cell p t,.cell q u]) (hp:tmps.getD p undef=.pointer (some a)) (hq:tmps.getD q undef=.pointer (some b))
 (l1:(loadVar t a).run P w=.ok v w) (l2:(loadVar u b).run P w=.ok v2 w):(results fn tmps).run P w=.ok (.tuple #[v,v2]) w:=by
 simp only[results,h]
 simp only[Array.getD_eq_getD_getElem?] at hp hq
 simp[Sem.run_bind,Result.andThen,hp,hq,l1,l2,asAddr]
end
theorem By:ay Tryz.prog 108:=⟨_,Tryz.func108,by kernel_rfl,rfl⟩
def sx (g2 g3:Nat):Deferred:=⟨.fn (.func 108) #[.pointer (some ⟨g2,0,none⟩),.pointer (some ⟨g3,0,none⟩)],#[]⟩
theorem rI {w:World} {g2 g3:Nat}:(invoke (.fn (.func 108) #[.pointer (some ⟨g2,0,none⟩),.pointer (some ⟨g3,0,none⟩)]) #[]).run Tryz.prog w=.ok (.enter 108 #[.pointer (some ⟨g2,0,none⟩),.pointer (some ⟨g3,0,none⟩)]) w:=by
 simp only[invoke,eN By,Array.empty_append]
section
variable {fn:Func} {R:Ending→World→Prop} {tmps:Array Value} {w:World} {g2 g3:Nat} {v2 v3:Value}
theorem vP (hr:fn.results= #[.cell 2 23,.cell 3 29]) (h2:tmps.getD 2 undef=.pointer (some ⟨g2,0,none⟩)) (h3:tmps.getD 3 undef=.pointer (some ⟨g3,0,none⟩)) (k2:cd g2 23 [v2] w) (k3:cd g3 29 [v3] w):(results fn tmps).run Tryz.prog w=.ok (.tuple #[v2,v3]) w:=
 uV hr h2 h3 (pJ KR rfl k2.k0) (pJ Tryz.underlying29 rfl k3.k0)
theorem Eu (hr:fn.results= #[.cell 2 23,.cell 3 29]) (h2:tmps.getD 2 undef=.pointer (some ⟨g2,0,none⟩)) (h3:tmps.getD 3 undef=.pointer (some ⟨g3,0,none⟩)) (k2:cd g2 23 [v2] w) (k3:cd g3 29 [v3] w) (h:R (.returned (.tuple #[v2,v3])) w):
 Leaves Tryz.prog fn tmps R [sx g2 g3] .returning w:=by
 refine leaves_cons (f:=108) (by simp) rI (CallsD.mono Bx ?_)
 rintro e u' w' ⟨rfl,rfl,rfl⟩
 exact⟨_,vP hr h2 h3 k2 k3,h⟩
theorem Ev {c:List PanicEntry} (hc:uP c) (hne:g2≠g3) (hr:fn.results= #[.cell 2 23,.cell 3 29]) (h2:tmps.getD 2 undef=.pointer (some ⟨g2,0,none⟩)) (h3:tmps.getD 3 undef=.pointer (some ⟨g3,0,none⟩)) (k2:cd g2 23 [v2] w) (k3:cd g3 29 [v3] w)
 (h:∀w',Mv (fun k=>k=g2∨k=g3) w w'→R (.returned (.tuple #[.slice none 0 0,I 5])) w'):Leaves Tryz.prog fn tmps R [sx g2 g3] (.panicking c) w:=by
 have hc:c=[{v:=JT,recovered:=false}]:=hc
 subst hc
 refine leaves_cons (f:=108) (by simp) rI (CallsD.mono (Et k2 k3 hne) ?_)
 rintro e u' w' ⟨rfl,rfl,h5,h6,h7⟩
 exact⟨_,vP hr h2 h3 h6 h7,h w' h5⟩
end
end Go.Rl
namespace Go.Rl
open Go.RowKit
section
variable {P:Program} {ops:Array Oper} {Q:fe} {N:Nat} {D:List Deferred} {Env:World→Prop} {Rl:World→World→Prop} {mo:Bool} {Pn:List PanicEntry→World→Prop}
theorem H5 {o:Oper} {a:Act} {w:World} {K:Act→World→Prop} (h:o.wp P a w K (ip Q)):o.wp P a w K Q:=by
 unfold Oper.wp at*
 generalize (execOp a.eval o).run P w=r at*
 cases r with
 |ok n w'=>
  cases n<;>simp only[Oper.upon] at h⊢ <;>try exact h
  case enter f args=>
   refine Calls.mono h fun e w'' he=>?_
   cases e with
   |returned u=>exact he
   |panicked c=>obtain⟨he,_⟩:=he;cases he
   |outgrown=>obtain⟨_,_,he,_⟩:=he;cases he
 |halt x w'=>
  cases x<;>simp only[Oper.upon] at h⊢
  case panic u=>obtain⟨he,_⟩:=h;cases he
theorem H6 {i:Nat} {a:Act} {w:World} {K:Act→World→Prop} (h:wpOp P ops (ip Q) i K a w):wpOp P ops Q i K a w:=by
 unfold wpOp at*
 split
 ·simpa [*] using h
 ·rename_i o ho
  simp only[ho] at h
  split
  ·rename_i hw
   rw[if_pos hw] at h
   rcases h with h|h
   ·exact .inl (H5 h)
   ·exact absurd h.2 tR
  ·rename_i hw
   rw[if_neg hw] at h
   exact h
theorem zF:∀(g:Nat) (listed:Array Bool) (a:Act) (w:World),wpAny P .any ops (ip Q) g listed a w→wpAny P .any ops Q g listed a w
 |0,_,_,_,h=>⟨h.1,h.2.2⟩
 |g+1,_,_,_,h=>⟨fun e=>(h.1 e).2,fun i hi=>H6 (wpOp_mono (fun a' w' h'=>zF g _ a' w' h') (h.2 i hi))⟩
def zG (ops:Array Oper) (n:Nat) (E:Array Bool):Nat→Nat→Array Bool→Bool
 |0,_,listed=>decide (listed=E)&&(Region.ready .any ops listed).all fun j=>decide (n≤j)
 |f+1,k,listed=>(Region.ready .any ops listed).contains k&&Region.free .any ops listed k&&zG ops n E f (k+1) (listed.setIfInBounds k true)
theorem rJ {n:Nat} {E:Array Bool} {Lq:cn→iN→Prop} (hcalls:mo=true→gh .any ops=true) (hs:Region.sinkB .any ops n=true) (hc:j1 ops n=true):
 ∀(l:List Oper) (k:Nat) (listed:Array Bool) (F:cn) (Z:iN),(∀j,j<l.length→l[j]? =ops[k+j]?)→k+l.length=n→HeadInv .any ops n listed→
 zG ops n E l.length k listed=true→(∀t,bT Rl (F t))→cE Z→fg P ops Env Rl mo Pn N l F Z Lq→
 gu P .any ops Env Rl mo Pn N n (fun listed' F' Z'=>(listed'=E∧(Region.ready .any ops listed').all (fun j=>decide (n≤j))=true)∧Lq F' Z') l.length listed F Z
 |[],k,listed,F,Z,_,hk,_,hB,_,_,h=>by
  simp only[List.length_nil,zG,Bool.and_eq_true,decide_eq_true_eq] at hB
  exact⟨hB,h⟩
 |o::l,k,listed,F,Z,hl,hk,inv,hB,hF,hZ,h=>by
  have h0:ops[k]? =some o:=by simpa using(hl 0 (by simp)).symm
  simp only[List.length_cons,zG,Bool.and_eq_true] at hB
  obtain⟨⟨hr,hf⟩,hB'⟩:=hB
  have hkn:k<n:=by simp only[List.length_cons] at hk;omega
  have hr':k∈Region.ready .any ops listed:=by simpa using hr
  obtain⟨S,Z',hspec,hrest⟩:=h hF hZ
  exact nY h0 hcalls hs hc hkn (fun listed' F' Z' hL j hj=>by simpa using List.all_eq_true.1 hL.1.2 j hj) l.length listed F Z Z' inv (Region.free_spec h0 hf) hr' hspec
   (rJ hcalls hs hc l (k+1) _ _ _ (fun j hj=>by have:=hl (j+1) (by simp;omega);simpa [Nat.add_assoc,Nat.add_comm 1 j] using this) (by simp only[List.length_cons] at hk;omega) (inv.set hr' hkn) hB' (iy hF hspec.stable) (hspec.zst hZ) hrest)
def GA (ops:Array Oper) (n:Nat) (E:Array Bool):Bool:=
 decide (n<ops.size)&&Region.sinkB .any ops n&&j1 ops n&&zG ops n E n 0 (Array.replicate ops.size false)
theorem H7 {l:Fr} {w:World} {id:Nat} {os:List Oper} (n:Nat) (ts:List Nat) (l0:List (Nat×Value)) (E:Array Bool) (Env:World→Prop) (Rl:World→World→Prop) (mo:Bool) (Pn:List PanicEntry→World→Prop) (Z:iN) (hE:fC Env Rl) (he:Env w) (hZ:cE Z) (hz:Z w) (hsub:HE l0 l) (hkb:Cj (os.take n) l0=true) (hP:∀c a w,a.tmps.size=N→a.defers=D→g0 l0 a→Pn c w→Q (.panic c) a w) (hcalls:mo=true→gh .any os.toArray=true) (hm:P.follows .mixedOrders=true) (hB:GA os.toArray n E=true)
 (h:fg P os.toArray Env Rl mo Pn N (os.take n) (pi l) Z (fun F Z=>∀w',Env w'→Z w'→gK F w' ts (fun l'=>fG P os.toArray Q N D (fun _=>True) (os.length-n) E l' w'))):cM P Q N D l w (.region id os.toArray true):=fun a ha=>by
 have hdr:aI w {w with drawn:=w.drawn+1}:=⟨rfl,rfl,rfl,Nat.le_refl _,fun _ _=>rfl⟩
 simp only[GA,Bool.and_eq_true,decide_eq_true_eq] at hB
 obtain⟨⟨⟨hn,hs⟩,hc⟩,hlex⟩:=hB
 have hn':n<os.length:=by simpa using hn
 have htl:(os.take n).length=n:=by simp;omega
 have inv0:HeadInv .any os.toArray n (Array.replicate os.toArray.size false):=
  ⟨by simp,fun j oj _ hl=>(by rw[getD_replicate_false] at hl;cases hl),fun t _ ht=>getD_in (by simpa using ht) (getD_replicate_false _ _)⟩
 have H:=rJ (E:=E) hcalls hs hc (os.take n) 0 _ _ _ (fun j hj=>by
  have hj':j<n:=by rw[htl] at hj;exact hj
  simp[hj']) (by simpa using htl) inv0 (by rw[htl];exact hlex) (eV l) hZ h
 refine wp_region_any hm ?_
 have hd0:=sK hkb
 have:=fi (D:=D) (Q':=Q) (l0:=l0) (g:=os.length-n) hE hP (fun i o hin ho=>hd0 o (List.mem_of_getElem? (i:=i) (by rw[List.getElem?_take_of_lt hin];simpa using ho))) (fun listed F Z hL hF hZ a' w' he hsat hz=>by
  obtain⟨⟨rfl,_⟩,hK⟩:=hL
  obtain⟨l',hl',hk⟩:=gK.use hsat (hK w' he hz)
  exact zF _ _ _ _ (wpAny_of_held _ _ _ _ (hk a' hl'))) _ _ _ _ H (eV l) hZ a {w with drawn:=w.drawn+1} (hE.keep _ _ he (hE.ext _ _ hdr)) (Gq ha) (g0.of hsub ha) (hZ _ _ hz hdr)
 rw[htl,show n+(os.length-n)=os.toArray.size by simp;omega] at this
 exact this
end
end Go.Rl
namespace Go.Rl
open Go.RowKit
theorem aL.split {X:Nat→Prop} {w:World}:∀{l m:List Dt} {cs:List Value},aL X w (l++m) cs→∃a b,cs=a++b∧aL X w l a∧aL X w m b
 |[],m,cs,h=>⟨[],cs,rfl,aL.nil,h⟩
 |d::l,m,cs,h=>by
  simp only[List.cons_append,aL] at h
  obtain⟨c1,c2,rfl,h1,h2⟩:=h
  obtain⟨a,b,rfl,h3,h4⟩:=aL.split (l:=l) h2
  exact⟨c1++a,b,by simp,aL.cons h1 h3,h4⟩
theorem fI.stLast {α:Type} {P:Program} {t e:TypeId} {sz base:Nat} {f:α→Dt} {l:List α} {z:α} {v:Value} {w:World} (ht:P.underlying t=some (.slice e)) (hi:(P.info? e).map (·.size)=some sz) (h0:0<sz) (hs:∀a,(f a).size=sz)
 (h:fI e sz base f (l++[z]) v w) {a:α} {cs:List Value} (h1:aD cs) (ha:cK (fun k=>k<base∨v.ownBlock=some k) w (f a) cs):
 ∃p,(∀w':World,(Instr.indexAt t v (I (l.length:Int))).run P w'=.ok p w')∧∃w1,(Instr.storeAt e p (.agg cs.toArray)).run P w=.ok () w1∧Mv (fun k=>v.ownBlock=some k) w w1∧fI e sz base f (l++[a]) v w1:=by
 obtain⟨n,xs,hO,hX⟩:=h
 rw[List.map_append] at hX
 obtain⟨x1,x2,rfl,hx1,hx2⟩:=aL.split hX
 have hl1:x1.length=l.length*sz:=by rw[hx1.len,cJ (sz:=sz) (by simp[hs]),List.length_map]
 have hl2:x2.length=sz:=by
  have:=hx2.len
  rw[this,cJ (sz:=sz) (by simp[hs])]
  simp
 have hcl:cs.length=sz:=by rw[ha.len,hs]
 have hn:n=l.length+1:=Nat.eq_of_mul_eq_mul_right h0 (by
  have:=hO.1
  rw[List.length_append,hl1,hl2] at this
  rw[Nat.add_mul,Nat.one_mul]
  exact this.symm)
 subst hn
 rcases hO.2 with⟨_,h3⟩|⟨g,cap,cur,rfl,hb,hg,hle,hm,hsz,htk⟩
 ·omega
 have hcap:(l.length+1)*sz≤cap*sz:=Nat.mul_le_mul_right _ hle
 have hbnd:l.length*sz+sz≤cur.size:=by rw[hsz];rw[Nat.add_mul,Nat.one_mul] at hcap;exact hcap
 have htk1:cur.toList.take (l.length*sz)=x1:=by
  have h2:=congrArg (List.take (l.length*sz)) htk
  rw[List.take_take,Nat.min_eq_left (by rw[Nat.add_mul];omega),List.take_left' hl1] at h2
  exact h2
 have md:Mv (fun k=>(Value.slice (some ⟨g,0,none⟩) (l.length+1) cap).ownBlock=some k) w (w.setRow g (cur.toList.take (l.length*sz)++cs++cur.toList.drop (l.length*sz+cs.length)).toArray):=Mv.of_grown (bp w g _) fun k hk _=>by rw[←hk];rfl
 refine⟨.pointer (some ⟨g,l.length*sz,none⟩),fun w'=>?_,w.setRow g (cur.toList.take (l.length*sz)++cs++cur.toList.drop (l.length*sz+cs.length)).toArray,?_,md,l.length+1,x1++cs,⟨?_,.inr ⟨g,cap,_,rfl,hb,setRow_heap w g _ _ e (0,0) hg,hle,hm,?_,?_⟩⟩,?_⟩
 ·obtain⟨ti,hi',hs'⟩:=Option.map_eq_some_iff.1 hi
  simp[Instr.indexAt,I,asIntOf,run_underlying ht,sizeOf,typeInfo,hi',hs',Addr.add]
  omega
 ·have hr:=run_storeCells_at (P:=P) g (l.length*sz) e cs 0 cur w hg (by omega) h1
  simp only[Instr.storeAt,Instr.sureAddr,storeVar,Sem.run_bind,Sem.run_pure,Result.andThen_ok,dJ hi]
  rw[if_neg (by simp[Value.cells,hcl])]
  simpa [Value.cells] using hr
 ·rw[List.length_append,hl1,hcl,Nat.add_mul,Nat.one_mul]
 ·have hlen:cur.toList.length=cur.size:=by simp
  simp only[List.size_toArray,List.length_append,List.length_take,List.length_drop,hlen]
  omega
 ·rw[htk1,List.append_assoc,←List.append_assoc]
  exact List.take_left' (by rw[List.length_append,hl1,hcl,Nat.add_mul,Nat.one_mul])
 ·rw[List.map_append]
  exact aL.append (aL.mv (md.weak fun _ h _=>.inr h) (fun _ h=>.inl h) hx1) (by simpa using aL.cons (ha.mv (md.weak fun _ h _=>.inr h) fun _ h=>.inl h) aL.nil)
end Go.Rl
namespace Go.Rl
open Go.RowKit Go.Proofs
theorem zH:ay Tryz.prog 54:=⟨_,Tryz.func54,by kernel_rfl,rfl⟩
def GB (w:World) (b:List UInt8) (r:Value) (w':World):Prop:=
 aI w w'∧∃(vt:Value),vt.oneCell'=true∧((r=.tuple #[vt,I 0]∧∃ts:List aP,mr b=some (ts,[])∧cK (fun k=>k<w.heap.size) w' (.sl (ts.map bM)) [vt])∨(r=.tuple #[vt,I 5]∧∀ts',mr b≠some (ts',[])))
theorem tZ {fn:Func} {b:List UInt8} {a:Act} {w wS:World} {g2 g3:Nat} {v2 v3:Value} {X:Nat→Prop} {c:List PanicEntry} {w0:World} (hr:fn.results= #[.cell 2 23,.cell 3 29]) (hd:a.defers=[sx g2 g3]) (h2:a.tmps.getD 2 undef=.pointer (some ⟨g2,0,none⟩)) (h3:a.tmps.getD 3 undef=.pointer (some ⟨g3,0,none⟩))
 (hne:g2≠g3) (l2:w0.heap.size≤g2) (l3:w0.heap.size≤g3) (k2:cd g2 23 [v2] wS) (k3:cd g3 29 [v3] wS) (hX2:¬X g2) (hX3:¬X g3) (hX:∀k,X k→w0.heap.size≤k) (e0:aI w0 wS) (hw:Mv X wS w) (hc:uP c) (hno:mr b=none):
 Leaves Tryz.prog fn a.tmps (bE (GB w0 b)) a.defers (.panicking c) w:=by
 rw[hd]
 refine Ev hc hne hr h2 h3 (hw.blk k2 hX2) (hw.blk k3 hX3) fun w' hm=>⟨_,rfl,Mv.ext_from hm (Mv.ext_from hw e0 hX) ?_,.slice none 0 0,rfl,.inr ⟨rfl,fun ts' e=>by rw[hno] at e;cases e⟩⟩
 rintro k (rfl|rfl)<;>assumption
theorem bb.sto {g g2:Nat} {st:Option (List UInt8)} {w w':World} {T:TypeId} {u:Value} (h:bb g st w) (hb:cd g2 T [u] w) (hu:∃A n c,u=.slice A n c) (hw:w.grownBy w' (some g2)) (hne:g≠g2):bb g st w':=by
 obtain⟨A,n,c,h1,h2,h3⟩:=h
 refine⟨A,n,c,cd.other h1 hw (fun e=>hne (Option.some.inj e)),Sl.keep h2 hb (fun j x hx=>?_) hw,h3⟩
 obtain⟨y,_,rfl⟩:=List.mem_map.1 hx
 obtain⟨A',n',c',rfl⟩:=hu
 intro e
 have:=List.mem_of_getElem? (l:=[Value.slice A' n' c']) (by simpa using e)
 simp[U8] at this
theorem Bz {fn:Func} {a:Act} {R:Ending→World→Prop} {w:World} {g2 g3:Nat} {v2 v3:Value} (hr:fn.results= #[.cell 2 23,.cell 3 29]) (hd:a.defers=[sx g2 g3]) (h2:a.tmps.getD 2 undef=.pointer (some ⟨g2,0,none⟩)) (h3:a.tmps.getD 3 undef=.pointer (some ⟨g3,0,none⟩))
 (k2:cd g2 23 [v2] w) (k3:cd g3 29 [v3] w) (h:R (.returned (.tuple #[v2,v3])) w):Leaves Tryz.prog fn a.tmps R a.defers .returning w:=by
 rw[hd]
 exact Eu hr h2 h3 k2 k3 h
theorem zI {w:World} {b:List UInt8} {v:Value} (hv:cm b v w) (hl:b.length≤549755813888):
 Calls Tryz.prog 54 #[v] w (bE (GB w b)):=by
 refine Ju (vs:=[v]) Tryz.func54 Ll Ll Ll ?_
 obtain⟨N,s1,qU,hN,cU⟩:=xM (some b)
 have hb:dH (some b):=fun l e=>by cases e;exact hl
 have fres:(Tryz.f54).results= #[.cell 2 23,.cell 3 29]:=rfl
 refine af (aa ?_)
 obtain⟨g2,w2,hr2,l2,x2,k2⟩:=be (P:=Tryz.prog) (w:=w) (t:=23) (z:=.slice none 0 0) (l:=[.slice none 0 0]) (by kernel_rfl) rfl
 refine bf Ll hr2 ?_
 obtain⟨g3,w3,hr3,l3,x3,k3⟩:=be (P:=Tryz.prog) (w:=w2) (t:=29) (z:=I 0) (l:=[I 0]) (by kernel_rfl) rfl
 refine bf Ll hr3 ?_
 have e3:=x2.trans x3
 have lt2:=k2.lt
 have lt3:=k3.lt
 have sz2:=x2.size
 have hne:g2≠g3:=by omega
 have lw2:w.heap.size≤g2:=l2
 have lw3:w.heap.size≤g3:=by omega
 refine ag (ab (af (aa ?_)))
 refine la (us:=[]) (vs:=[.pointer (some ⟨g2,0,none⟩),.pointer (some ⟨g3,0,none⟩)]) Ll Ll Ll ?_
 refine H4 Ll ?_
 refine ag (ab (af (aa (ae Ll Ll (an y5 Ll Ll ((y7 (hv.ext e3) (by omega))) ?_)))))
 rintro v8 w8 ⟨x8,g,lg,rfl,hr8⟩
 refine bm (vs:=[(0,.pointer (some ⟨g,0,none⟩))]) (r:=.agg #[.pointer (some ⟨g,0,none⟩)]) Ll Ll (run_build _ _ _ _ (by kernel_rfl)) ?_
 obtain⟨g4,w4,hr4,l4,x4,k4⟩:=be (P:=Tryz.prog) (w:=w8) (t:=172) (z:=.agg #[.pointer none]) (l:=[.pointer none]) (by kernel_rfl) rfl
 obtain⟨w5,s5,q5,k5⟩:=k4.stS (P:=Tryz.prog) (t:=172) (m:=[.pointer (some ⟨g,0,none⟩)]) rfl (by kernel_rfl) (aD.cons rfl aD.nil)
 have x5:aI w8 w5:=aI.of_new x4 q5 l4
 have e5:=(e3.trans x8).trans x5
 have sz3:=e3.size
 have sz8:=x8.size
 have sz5:=x5.size
 have hgl:g<w8.heap.size:=bb.lt hr8
 have lt5:=k5.lt
 have k25:=(((k2.ext x3).ext x8).ext x5)
 have k35:=((k3.ext x8).ext x5)
 have hr5:=hr8.ext x5
 have nX2:¬RX g g2:=fun h=>by have:g2=g:=h;omega
 have nX3:¬RX g g3:=fun h=>by have:g3=g:=h;omega
 have nX4:¬RX g g4:=fun h=>by have:g4=g:=h;omega
 have hgw:∀k,RX g k→w.heap.size≤k:=fun k hk=>by have:k=g:=hk;omega
 refine bf Ll hr4 ?_
 refine aq Ll Ll s5 ?_
 refine ag (ab (af (af (aa ?_))))
 refine ah Ll Ll (aF (o:=0) K0 Ll (by kernel_rfl) Ll) ?_
 refine am Ll Ll (aj K1 Ll k5.k0) ?_
 refine an gP Ll Ll ((cU hr5)) ?_
 rintro v12 w12 ⟨g12,rfl,hr12⟩
 have m12:=hr5.rdT.kp g12
 have m12:Mv (RX g) w5 w12:=Mv.of_grown g12 fun k hk _=>(Option.some.inj hk).symm
 have hl1:dH s1:=qU.atM jc.le hb
 refine ak rfl rfl (aT) (ak rfl rfl (aU) (jk lH rfl rfl ((lI (n:=UInt64.ofNat N) (s:=s1))) (fun c a w1 ha hp=>by obtain⟨rfl,hp2,hp3⟩:=hp;exact tZ fres ha.defers (ha.at_ 2 _ rfl) (ha.at_ 3 _ rfl) hne lw2 lw3 k25 k35 nX2 nX3 hgw e5 m12 hp2 (js (f:=eC) (done:=[]) qU (by rw[hp3];rfl))) ?_))
 rintro v15 _ ⟨rfl,rfl,hs1⟩
 obtain⟨l1,rfl⟩:=jT hs1
 refine ac Ll Ll (ag (ab (ax ?_)))
 refine ig (fun(k:Nat) (v2:Value) (l:List UInt8) (ts:List aP)=>[(2,.pointer (some ⟨g2,0,none⟩)),(3,.pointer (some ⟨g3,0,none⟩)),(4,.pointer (some ⟨g4,0,none⟩)),(5,bj (UInt64.ofNat k))]) (fun(k:Nat) (v2:Value) (l:List UInt8) (ts:List aP) w'=>Mv (fun k=>RX g k∨k=g2) w5 w'∧bb g (some l) w'∧cd g2 23 [v2] w'∧fI 83 9 w5.heap.size bM ts v2 w'∧k<18446744073709551616∧(some l1).bind (cr eC N)=(some l).bind (fun l=>(cr eC k l).map fun p=>(ts++p.1,p.2))∧l.length+ts.length≤549755813888) (fun(k:Nat) (v2:Value) (l:List UInt8) (ts:List aP)=>k) (N) (.slice none 0 0) (l1) ([]) ⟨rfl,rfl,rfl,rfl,trivial⟩ ⟨m12.weak fun _ hk _=>.inl hk,hr12,m12.blk k25 nX2,fI.nil _,hN,iJ,by have:=hl1 l1 rfl;simpa using this⟩ ?_
 rintro k v2 l ts wL ⟨mL,hrL,kL,oL,hk,hR,hql⟩
 refine af (af ?_)
 have hkn:(UInt64.ofNat k).toNat=k:=by rw[UInt64.toNat_ofNat'];omega
 have szL:=mL.size
 have k3L:=mL.blk k35 (by
  rintro(h|h)
  ·exact nX3 h
  ·exact hne h.symm)
 have k4L:=mL.blk k5 (by
  rintro(h|h)
  ·exact nX4 h
  ·omega)
 have hvo:v2.oneCell'=true:=by obtain⟨_,_,_,rfl⟩:=oL.isS;rfl
 have eL:aI w wL:=Mv.ext_from mL e5 (by
  rintro j (h|h)
  ·exact hgw j h
  ·omega)
 rcases Nat.eq_zero_or_pos k with h0|h0
 rotate_left
 ·refine aa (ae Ll Ll (ai (v:=bj 0) Ll Ll Ll (cg (UInt64.lt_iff_toNat_lt.2 (by rw[hkn];exact h0)) cu) (ag (ab (bB Ll (ar (ab ?_)))))))
  refine af (ax ?_)
  obtain⟨k',rfl⟩:∃k',k=k'+1:=⟨k-1,by omega⟩
  obtain⟨nd,s6,qN⟩:=xN (some l)
  have hll:dH (some l):=fun l' e=>by cases e;omega
  have hgL:g<wL.heap.size:=by omega
  have hE:(some l).bind eC=none→mr b=none:=fun h=>jt qU hR h
  have hX5:∀j,RX g j→j<w5.heap.size:=fun j hj=>by have:j=g:=hj;omega
  refine H7 5 [2,3,4,5,20,22,23,24] [(2,.pointer (some ⟨g2,0,none⟩)),(3,.pointer (some ⟨g3,0,none⟩))] #[true,true,true,true,true,false,false,false,false] (Mv (RX g) wL) (Mv (RX g)) true (fun c w'=>Mv (RX g) wL w'∧uP c∧mr b=none) (bb g (some l)) (fC.mv _ _) (Mv.refl _ _) bb.stableZ hrL ⟨rfl,rfl,trivial⟩ (by kernel_rfl) (fun c a w1 _ hd hk hp=>tZ fres hd (hk (2,_) (by simp)) (hk (3,_) (by simp)) hne lw2 lw3 kL k3L nX2 nX3 hgw eL hp.1 hp.2.1 hp.2.2) (fun _=>by kernel_rfl) (by kernel_rfl) (by kernel_rfl) ?_
  refine aE Ll Ll (fun w' hw=>aj KR Ll ((hw.blk kL nX2).k0)) ?_
  refine aE Ll Ll (fun w' hw=>(hw.blk k4L nX4).ld K0 Ll (by kernel_rfl)) ?_
  refine dB (S:=xO wL.heap.size nd) (Z':=fun w=>bb g s6 w∧s6≠none) oI rfl (xO.stable hgL) (gV bb.stableZ) rfl (fun w hw hz=>by rintro _ rfl;exact ndM hw hw.size (Bw l.length hz hll (fun l' e=>by cases e;exact Nat.le_refl _)) qN hE) ?_
  refine mh (vs:=[v2]) (r:=I ts.length) Ll Ll (fun w' hw=>bR (f:=bM) KR ((oL.mv hw hX5).rpx bD (by omega)).rp) ?_
  refine eO (S:=jS wL.heap.size 9 bM [.mk [] uN [] false []]) (jS.stable hgL) Ll (fun w' hw=>by
   rintro _ rfl
   exact Gu (cs:=[.slice none 0 0,I 0,I 0,B false,.slice none 0 0,.slice none 0 0,.slice none 0 0,B false,.slice none 0 0]) KR kH rfl (by omega) (by omega) hw.size (aD.cons rfl (aD.cons rfl (aD.cons rfl (aD.cons rfl (aD.cons rfl (aD.cons rfl (aD.cons rfl (aD.cons rfl (aD.cons rfl aD.nil))))))))) (fM kI lF kI kI) (bD _)) ?_
  refine bF ?_
  intro wg xg zg
  rintro _ rfl
  rintro _ rfl
  rintro _ rfl
  rintro _ rfl
  rintro _ hq20
  obtain rfl:=Eq.symm hq20
  intro vg22 b22
  rintro _ rfl
  intro vg24 b24
  obtain⟨hr6,hs6⟩:=zg
  obtain⟨l6,rfl⟩:=jT hs6
  obtain⟨cs,rfl,h1cs,hcs⟩:=b22
  obtain⟨zs,hzs,hzo,h1z,hza⟩:=b24
  have oG:=oL.mv xg hX5
  have own2:∀j,v2.ownBlock=some j→w5.heap.size≤j∧j<wL.heap.size:=oL.lt
  have hlN:=lz l _ l6 qN
  obtain⟨v25,w25,hr25,o25,g25⟩:=oG.app (t:=23) (ty:=23) KR kH rfl (by omega) (by omega) hzs h1z ((aL.one hza).weak fun j hj=>.inl (by
   rcases hj with hj|hj
   ·omega
   ·exact(own2 j hj).2)) bD (by omega) (Nat.le_trans szL xg.size)
  have m25:Mv (fun k=>v2.ownBlock=some k) wg w25:=Mv.of_grown g25.grown fun k hk _=>hk
  have own25:∀j,v25.ownBlock=some j→w5.heap.size≤j∧(j<wL.heap.size∨wg.heap.size≤j):=fun j hj=>⟨(o25.lt j hj).1,by
   rcases g25.own with h|h
   ·rw[h] at hj;exact .inl (own2 j hj).2
   ·exact .inr (h j hj)⟩
  have hc25:cK (fun k=>k<w5.heap.size∨v25.ownBlock=some k) w25 (bM nd) cs:=hcs.mv (m25.weak fun j hj _=>(own2 j hj).2) fun j hj=>by
   rcases hj with hj|hj
   ·exact .inl (by omega)
   ·exact(own25 j hj).2
  have mB:Mv (fun k=>RX g k∨k=g2) w5 w25:=(mL.trans xg fun _ hj _=>.inl hj).trans m25 fun j hj hlt=>by have:=(own2 j hj).1;omega
  have k25':=m25.blk (xg.blk kL nX2) (fun h=>by have:=(own2 g2 h).1;omega)
  have hr25':bb g (some l6) w25:=hr6.mv m25 fun j hj=>by have:=(own2 j hj).1;omega
  have hsz:(Tryz.prog.info? 83).map (·.size)=some 9:=by kernel_rfl
  obtain⟨p,hp,w26,s26,m26,o26⟩:=o25.stLast KR hsz (by omega) bD h1cs hc25
  have hv25:v25.oneCell'=true:=by obtain⟨_,_,_,rfl⟩:=o25.isS;rfl
  obtain⟨w27,s27,q27,k27⟩:=k25'.stC (P:=Tryz.prog) (t:=23) (i:=0) (v:=v25) (by kernel_rfl) hv25 (by simp)
  have m27:Mv (fun k=>k=g2) w25 w27:=Mv.of_grown q27 fun k hk _=>(Option.some.inj hk).symm
  have k26:=m26.blk k25' (fun h=>by have:=(own25 g2 h).1;omega)
  obtain⟨w28,s28,q28,k28⟩:=k26.stC (P:=Tryz.prog) (t:=23) (i:=0) (v:=v25) (by kernel_rfl) hv25 (by simp)
  have m28:Mv (fun k=>k=g2) w26 w28:=Mv.of_grown q28 fun k hk _=>(Option.some.inj hk).symm
  have o27:=o25.mv m27 fun j hj=>by omega
  obtain⟨p',hp',w29,s29,m29,o29⟩:=o27.stLast KR hsz (by omega) bD h1cs (hc25.mv (m27.weak fun j hj _=>.inl (by omega)) fun _ h=>.inl h)
  obtain rfl:p=p':=by
   have h:=(hp w25).symm.trans (hp' w25)
   injection h
  have k29:=m29.blk k27 (fun h=>by have:=(own25 g2 h).1;omega)
  have o28:=o26.mv m28 fun j hj=>by omega
  refine jG 5 (by kernel_rfl) Ll (bc Ll Ll hr25 (fa trivial ?_))
  refine F3 (α:=Unit) (fun _=>[(2,.pointer (some ⟨g2,0,none⟩)),(3,.pointer (some ⟨g3,0,none⟩)),(4,.pointer (some ⟨g4,0,none⟩)),(5,bj (UInt64.ofNat (k'+1)))]) (fun _ w'=>Mv (fun k=>RX g k∨k=g2) w5 w'∧bb g (some l6) w'∧cd g2 23 [v25] w'∧fI 83 9 w5.heap.size bM (ts++[nd]) v25 w') #[true,true,true,true,true,true,true,true,true] 0 ?_ (fun hk=>?_)
  rotate_left
  ·have A:Mv (fun k=>RX g k∨k=g2) w5 w28∧bb g (some l6) w28∧cd g2 23 [v25] w28∧fI 83 9 w5.heap.size bM (ts++[nd]) v25 w28:=⟨((mB.trans m26 fun j hj hlt=>by have:=(own25 j hj).1;omega).trans m28 fun _ hj _=>.inr hj),(hr25'.mv m26 fun j hj=>by have:=(own25 j hj).1;omega).sto k26 oL.isS q28 (by omega),k28,o28⟩
   have B':Mv (fun k=>RX g k∨k=g2) w5 w29∧bb g (some l6) w29∧cd g2 23 [v25] w29∧fI 83 9 w5.heap.size bM (ts++[nd]) v25 w29:=⟨((mB.trans m27 fun _ hj _=>.inr hj).trans m29 fun j hj hlt=>by have:=(own25 j hj).1;omega),(hr25'.sto k25' oL.isS q27 (by omega)).mv m29 fun j hj=>by have:=(own25 j hj).1;omega,k29,o29⟩
   refine F1 6 8 (by kernel_rfl) Ll Ll (aA Ll Ll Ll (hp _) (fa trivial ?_)) (aq Ll Ll s27 (fa trivial ?_))
   ·refine F1 7 8 (by kernel_rfl) Ll Ll (aq Ll Ll s26 (fa trivial ?_)) (aq Ll Ll s27 (fa trivial ?_))
    ·refine jG 8 (by kernel_rfl) Ll (aq Ll Ll s28 (fa trivial ?_))
     exact hk _ _ ⟨(),⟨rfl,rfl,rfl,rfl,trivial⟩,A⟩
    ·refine jG 7 (by kernel_rfl) Ll (aq Ll Ll s29 (fa trivial ?_))
     exact hk _ _ ⟨(),⟨rfl,rfl,rfl,rfl,trivial⟩,B'⟩
   ·refine jG 6 (by kernel_rfl) Ll (aA Ll Ll Ll (hp _) (fa trivial ?_))
    refine jG 7 (by kernel_rfl) Ll (aq Ll Ll s29 (fa trivial ?_))
    exact hk _ _ ⟨(),⟨rfl,rfl,rfl,rfl,trivial⟩,B'⟩
  rintro _ w30 ⟨m30,hr30,k30,o30⟩
  refine xu (by kernel_rfl) ?_
  refine aJ (ab (aa (ae Ll Ll ?_)))
  have ek:UInt64.ofNat (k'+1)-1=UInt64.ofNat k':=by
   refine UInt64.toNat_inj.1 ?_
   rw[UInt64.toNat_sub_of_le _ _ (UInt64.le_iff_toNat_le.2 (by rw[hkn];show 1≤_;omega)),hkn,UInt64.toNat_ofNat',show(1:UInt64).toNat=1 from rfl]
   omega
  refine ai (v:=bj 1) (r:=bj (UInt64.ofNat k')) Ll Ll Ll ((by rw[←ek];exact dx)) (ac Ll Ll (ag ?_))
  refine fq (k') (v25) (l6) (ts++[nd]) ⟨rfl,rfl,rfl,rfl,trivial⟩ ⟨m30,hr30,k30,o30,by omega,jr hR qN,by simp;omega⟩ (by omega)
 ·refine aa (ae Ll Ll (ai (v:=bj 0) Ll Ll Ll (cf (fun hh=>by have:=UInt64.lt_iff_toNat_lt.1 hh;rw[hkn,h0] at this;exact absurd this (by decide)) cu) ?_))
  refine ag (ab (cp Ll (aY (aB (aB (aX (ab (af (bz 4 [2,3,27,30] (by kernel_rfl) (by kernel_rfl) ?_)))))))))
  refine aE Ll Ll (fun w' hw=>aj KR Ll (kL.ext hw).k0) (aN Ll Ll (fun w' hw=>aF (o:=0) K0 Ll (by kernel_rfl) Ll) ?_)
  refine aE rfl rfl (fun w' hw=>aj K1 rfl (k4L.ext hw).k0) (ce (S:=Is (I (if some l=some [] then 0 else 5))) Eb (bt.is _) rfl (fun w hw=>by rintro _ rfl;exact bE.mono (Ee (hrL.ext hw)) fun v w' h=>⟨h.2▸aI.refl _,h.1⟩) ?_)
  refine bF ?_
  intro wg7 xg7
  rintro _ rfl
  rintro _ rfl
  rintro _ hq27
  obtain rfl:=Eq.symm hq27
  rintro _ rfl
  obtain⟨wa,sa,qa,ka⟩:=(kL.ext xg7).stC (P:=Tryz.prog) (t:=23) (i:=0) (v:=v2) (by kernel_rfl) hvo (by simp)
  obtain⟨wb,sb,qb,kb⟩:=((k3L.ext xg7).other qa (fun e=>hne (Option.some.inj e).symm)).stC (P:=Tryz.prog) (t:=29) (i:=0) (v:=I (if some l=some [] then 0 else 5)) (by kernel_rfl) rfl (by simp)
  have kab:=ka.other qb (fun e=>hne (Option.some.inj e))
  have mab:Mv (fun k=>k=g2∨k=g3) wg7 wb:=(Mv.of_grown qa fun k hk _=>.inl (Option.some.inj hk).symm:Mv (fun k=>k=g2∨k=g3) wg7 wa).trans (Mv.of_grown qb fun k hk _=>(Option.some.inj hk).symm:Mv (fun k=>k=g3) wa wb) fun _ hj _=>.inr hj
  refine aq Ll Ll sa ?_
  refine aq Ll Ll sb ?_
  refine ag (ab (av ?_))
  refine fun a ha=>Bz fres ha.defers (ha.at_ 2 _ rfl) (ha.at_ 3 _ rfl) kab kb ⟨_,rfl,Mv.ext_from mab (eL.trans xg7) (by rintro j (rfl|rfl)<;>assumption),v2,hvo,?_⟩
  subst h0
  have hd:mr b=some (ts,l):=iL qU hR
  by_cases hnil:l=[]
  ·subst hnil
   exact .inl ⟨rfl,ts,hd,(((oL.rpx bD (by omega)).ext xg7).mv (mab.weak (Y:=fun k=>k<w5.heap.size) fun j hj _=>by rcases hj with rfl|rfl<;>(show _<w5.heap.size;omega)) fun _ h=>.inl h).weak fun j hj=>.inl (by show j<w5.heap.size;omega)⟩
  ·rw[if_neg (fun e=>hnil (Option.some.inj e))]
   exact .inr ⟨rfl,fun ts' e=>by rw[hd] at e;simp only[Option.some.injEq,Prod.mk.injEq] at e;exact hnil e.2⟩
end Go.Rl
namespace Go.Rl
def xP (d:ew):Bool:=decide (d.kd=0)&&decide (d.ix=0)&&decide (d.at_=Kk)
def mY (n:aP):Bool:=decide (1≤n.split.kd)&&decide (n.split.kd≤4)&& !n.empty&&decide (n.pf.length=0)
def jL:Nat→aP→Bool×Nat
 |0,_=>(false,0)
 |l+1,n=>match n.kids with
  |[]=>(xP n.split,1)
  |[x,y]=>if mY n=true then
    (if (jL l x).1=false∨65536<(jL l x).2 then(false,0) else((jL l y).1,1+(jL l x).2+(jL l y).2))
   else(false,0)
  |_=>(false,0)
def j2:Nat→Int→aP→Int×Bool
 |d,most,n=>if most<1 then(0,false) else match n.kids with
  |[]=>(1,xP n.split)
  |[x,y]=>if mY n=true then(match d with
    |0=>(0,false)
    |d+1=>if (j2 d (most-1) x).2=false then(0,false) else(1+(j2 d (most-1) x).1+(j2 d (most-1-(j2 d (most-1) x).1) y).1,(j2 d (most-1-(j2 d (most-1) x).1) y).2))
   else(0,false)
  |_=>(0,false)
def yC:Nat→aP→Bool
 |d,n=>match n.kids with
  |[]=>xP n.split
  |[x,y]=>mY n&&(match d with
    |0=>false
    |d+1=>yC d x&&yC d y)
  |_=>false
def qQ:Nat→aP→Nat
 |d,n=>match n.kids with
  |[x,y]=>(match d with
    |0=>1
    |d+1=>1+qQ d x+qQ d y)
  |_=>1
theorem zJ (d:Nat) (n:aP):1≤qQ d n:=by
 unfold qQ
 split
 ·split<;>omega
 ·omega
theorem xQ:∀(d:Nat) (n:aP),(jL (d+1) n).1=true→yC d n=true∧(jL (d+1) n).2=qQ d n
 |d,n,h=>by
  unfold jL at h⊢
  unfold yC qQ
  split at h
  ·rename_i e
   simp only[e]
   exact⟨h,trivial⟩
  ·rename_i x y e
   simp only[e]
   split at h
   ·rename_i hi
    rw[if_pos hi]
    split at h
    ·cases h
    ·rename_i hx
     rw[if_neg hx]
     simp only[not_or,Bool.not_eq_false,Nat.not_lt] at hx
     cases d with
     |zero=>simp[jL] at hx
     |succ d=>
      obtain⟨a1,a2⟩:=xQ d x hx.1
      obtain⟨b1,b2⟩:=xQ d y h
      exact⟨by simp[hi,a1,b1],by simp[a2,b2]⟩
   ·cases h
  ·cases h
theorem BA:∀(d:Nat) (n:aP),yC d n=true→qQ d n≤65536→(jL (d+1) n).1=true
 |d,n,h,hc=>by
  unfold yC at h
  unfold qQ at hc
  unfold jL
  split at h
  ·exact h
  ·rename_i x y e
   simp only[e,Bool.and_eq_true] at h hc⊢
   rw[if_pos h.1]
   cases d with
   |zero=>simp at h
   |succ d=>
    simp only[Bool.and_eq_true] at h hc
    have a:=BA d x h.2.1 (by omega)
    have b:=BA d y h.2.2 (by omega)
    have a2:=(xQ d x a).2
    rw[if_neg (by rw[a2,a];simp;omega)]
    exact b
  ·cases h
theorem xR:∀(d:Nat) (most:Int) (n:aP),(j2 d most n).2=(yC d n&&decide ((qQ d n:Int)≤most))∧((j2 d most n).2=true→(j2 d most n).1=qQ d n)
 |d,most,n=>by
  have hp:=zJ d n
  unfold j2
  by_cases hm:most<1
  ·rw[if_pos hm,decide_eq_false (by omega)]
   simp
  ·rw[if_neg hm]
   unfold yC qQ
   generalize n.kids=ks
   rcases ks with _|⟨x,_|⟨y,_|⟨z,t⟩⟩⟩
   ·refine⟨?_,fun _=>rfl⟩
    show xP n.split=(xP n.split&&decide (((1:Nat):Int)≤most))
    rw[decide_eq_true (by omega),Bool.and_true]
   ·simp
   ·by_cases hi:mY n=true
    ·show(if mY n=true then _ else _:Int×Bool).2=(mY n&&_&&_)∧_
     rw[if_pos hi,hi]
     cases d with
     |zero=>simp
     |succ d=>
      obtain⟨a1,a2⟩:=xR d (most-1) x
      simp only[Bool.true_and]
      by_cases hx:(j2 d (most-1) x).2=false
      ·rw[if_pos hx]
       rw[hx] at a1
       refine⟨?_,fun h=>by cases h⟩
       have hpy:=zJ d y
       cases hk:yC d x with
       |false=>simp
       |true=>
        rw[hk,Bool.true_and] at a1
        have:=of_decide_eq_false a1.symm
        rw[decide_eq_false (by omega)]
        simp
      ·rw[if_neg hx]
       have hx':(j2 d (most-1) x).2=true:=by simpa using hx
       have e1:=a2 hx'
       rw[hx'] at a1
       simp only[Bool.true_eq,Bool.and_eq_true,decide_eq_true_eq] at a1
       rw[e1]
       obtain⟨b1,b2⟩:=xR d (most-1-(qQ d x:Int)) y
       refine⟨?_,fun h=>?_⟩
       ·rw[b1,a1.1,Bool.true_and]
        congr 1
        exact decide_eq_decide.2 (by omega)
       ·rw[b2 (by simpa using h)]
        simp only[if_true]
        omega
    ·have hi':mY n=false:=by simpa using hi
     simp[hi']
   ·simp
def fv (n:aP):Bool:=yC 2048 n&&decide (qQ 2048 n≤65536)
theorem GC (n:aP):(j2 2048 65536 n).2=fv n:=by
 rw[(xR 2048 65536 n).1]
 unfold fv
 congr 1
 exact decide_eq_decide.2 (by omega)
theorem GD (n:aP):((jL 2049 n).1&&decide ((jL 2049 n).2≤65536))=fv n:=by
 unfold fv
 cases h:(jL 2049 n).1 with
 |true=>
  obtain⟨a,b⟩:=xQ 2048 n h
  rw[a,b]
 |false=>
  rw[Bool.false_and]
  cases hk:yC 2048 n with
  |false=>rfl
  |true=>
   rw[Bool.true_and]
   refine(decide_eq_false fun hc=>?_).symm
   have:=BA 2048 n hk hc
   rw[h] at this
   cases this
end Go.Rl
namespace Go.Rl
open Go.RowKit Go.Proofs
end Go.Rl
namespace Go.Rl
open Go.RowKit Go.Proofs
theorem zK:ay Tryz.prog 194:=⟨_,Tryz.func194,by kernel_rfl,rfl⟩
theorem zL {w:World} {l m:List UInt32} {v u:Value} (hv:bo l v w) (hu:bo m u w):
 Calls Tryz.prog 194 #[v,u] w (bE fun r w'=>aI w w'∧r=B (decide (l=m))):=by
 refine enter (vs:=[v,u]) Tryz.func194 Ll Ll Ll ?_
 have hll:=hv.len
 refine af (aa (ac Ll Ll (ag (ab (af (af (aa (ae Ll Ll (aQ Ll Ll (bu KK hv) (ae Ll Ll (aQ Ll Ll (bu KK hu) ?_)))))))))))
 refine ai Ll Ll Ll (bL) (ag (ab ?_))
 refine bi Ll (fun h10=>?_) (fun h10=>?_)
 ·have hne:l≠m:=fun h=>h10 (by rw[h])
  refine af (aa (ac Ll Ll (ag (ab (av (au (aG Ll Ll ?_)))))))
  exact⟨_,rfl,aI.refl _,congrArg B (decide_eq_false hne).symm⟩
 ·have hlen:l.length=m.length:=by omega
  refine ar (ab (af (af (aa (ae Ll Ll (aQ Ll Ll (bu KK hv) (ae Ll Ll (ag (ab (ax ?_))))))))))
  refine bZ (α:=Nat) (fun x=>[(0,v),(1,u),(12,I (l.length:Int)),(13,I (x:Int))]) (fun x w'=>aI w w'∧x≤l.length∧l.take x=m.take x) (fun x=>l.length-x) (0) ⟨rfl,rfl,rfl,rfl,trivial⟩ ⟨aI.refl _,by omega,rfl⟩ ?_
  rintro i w4 ⟨e4,hi,ht⟩
  refine af (aa (ai Ll Ll Ll (aW) (ag (ab (af ?_)))))
  refine bi Ll (fun h14=>?_) (fun h14=>?_)
  ·refine ar (ab (af (ax (af (aa (ae Ll Ll (ac Ll Ll (ag (ab (af (bz 8 [0,1,12,13,19,23] (by kernel_rfl) (by kernel_rfl) ?_)))))))))))
   refine ap Ll Ll (ap Ll Ll ?_)
   obtain⟨a18,p18,q18⟩:=cP KK (hv.ext e4) (i:=i) (by omega) .i64
   refine az Ll Ll Ll (fun w _=>p18 w) (aE Ll Ll (fun w hw=>aj KL Ll (hw.cell_some q18)) (ap Ll Ll (ap Ll Ll ?_)))
   obtain⟨a22,p22,q22⟩:=cP KK (hu.ext e4) (i:=i) (by omega) .i64
   refine az Ll Ll Ll (fun w _=>p22 w) (aE Ll Ll (fun w hw=>aj KL Ll (hw.cell_some q22)) (bF ?_))
   intro wg6 xg6
   rintro _ hq0
   obtain rfl:=Eq.symm hq0
   rintro _ hq1
   obtain rfl:=Eq.symm hq1
   rintro _ rfl
   rintro _ rfl
   rintro _ rfl
   rintro _ rfl
   refine ai Ll Ll Ll (km) (ag (ab ?_))
   refine bi Ll (fun h24=>?_) (fun h24=>?_)
   ·have hne:l≠m:=fun h=>h24 (by subst h;rfl)
    refine af (aa (ac Ll Ll (ag (ab (av (aV (au (au (aV (au (aG Ll Ll ?_)))))))))))
    exact⟨_,rfl,(e4.trans xg6),congrArg B (decide_eq_false hne).symm⟩
   ·have he:l[i]'(by omega)=m[i]'(by omega):=Classical.byContradiction fun h=>h24 h
    refine ar (aJ (ab (aa (ai (r:=I ((i+1:Nat):Int)) Ll Ll Ll (by have e:((i+1:Nat):Int)=(i:Int)+1:=(by omega);rw[e];exact aK (by omega) (by omega)) ?_))))
    refine ae Ll Ll (ag ?_)
    refine bQ (i+1) ⟨rfl,rfl,rfl,rfl,trivial⟩ ⟨(e4.trans xg6),by omega,by rw[List.take_succ_eq_append_getElem (by omega),List.take_succ_eq_append_getElem (by omega),ht,he]⟩ (by omega)
  ·refine aY (aB (aB (aX (ab (af (aa (ac Ll Ll (ag (ab (av (aG Ll Ll ?_)))))))))))
   exact⟨_,rfl,e4,by
    rw[List.take_of_length_le (by omega),List.take_of_length_le (by omega)] at ht
    rw[decide_eq_true ht];rfl⟩
end Go.Rl
namespace Go.Rl
open Go.RowKit Go.Proofs
theorem xS:ay Tryz.prog 180:=⟨_,Tryz.func180,by kernel_rfl,rfl⟩
theorem xT:ay Tryz.prog 150:=⟨_,Tryz.func150,by kernel_rfl,rfl⟩
theorem j3:ay Tryz.prog 114:=⟨_,Tryz.func114,by kernel_rfl,rfl⟩
theorem jH:ay Tryz.prog 55:=⟨_,Tryz.func55,by kernel_rfl,rfl⟩
theorem vQ:ay Tryz.prog 117:=⟨_,Tryz.func117,by kernel_rfl,rfl⟩
theorem oP:ay Tryz.prog 104:=⟨_,Tryz.func104,by kernel_rfl,rfl⟩
theorem zM:ay Tryz.prog 50:=⟨_,Tryz.func50,by kernel_rfl,rfl⟩
theorem xU {w:World} {a b:fQ} {x y p q:Value} (ha:bo a.2.1 x w) (ha':bo a.2.2 y w) (hb:bo b.2.1 p w) (hb':bo b.2.2 q w):
 Calls Tryz.prog 180 #[.agg #[B a.1,x,y],.agg #[B b.1,p,q]] w (bE fun r w'=>aI w w'∧r=B (decide (a=b))):=by
 refine enter (vs:=[.agg #[B a.1,x,y],.agg #[B b.1,p,q]]) Tryz.func180 Ll Ll Ll ?_
 refine af (aa ?_)
 obtain⟨g2,w2,hr2,l2,x2,k2⟩:=dc (P:=Tryz.prog) (w:=w) (T:=55) (cs:=[B a.1,x,y])
 refine cL Ll Ll hr2 ?_
 obtain⟨g3,w3,hr3,l3,x3,k3⟩:=dc (P:=Tryz.prog) (w:=w2) (T:=55) (cs:=[B b.1,p,q])
 refine cL Ll Ll hr3 (ac Ll Ll (ag (ab (af (aa (ah Ll Ll (aF (o:=0) KP Ll (by kernel_rfl) Ll) ?_))))))
 refine am Ll Ll (aj KU Ll (x3.cell_some (k2.cell (i:=0) Ll))) (ah Ll Ll (aF (o:=0) KP Ll (by kernel_rfl) Ll) ?_)
 refine am Ll Ll (aj KU Ll (k3.cell (i:=0) Ll)) (ai Ll Ll Ll (xv KU) (ae Ll Ll ?_))
 refine cO (fun h10=>?_) (fun h10=>?_)
 ·refine al Ll (ah Ll Ll (aF (o:=1) KP Ll (by kernel_rfl) Ll) (al Ll (am Ll Ll (aj KK Ll (x3.cell_some (k2.cell (i:=1) Ll))) ?_)))
  refine al Ll (ah Ll Ll (aF (o:=1) KP Ll (by kernel_rfl) Ll) (al Ll (am Ll Ll (aj KK Ll (k3.cell (i:=1) Ll)) ?_)))
  refine al Ll (an zK Ll Ll (zL (ha.ext (x2.trans x3)) (hb.ext (x2.trans x3))) ?_)
  rintro v15 w15 ⟨x15,rfl⟩
  refine aw Ll Ll Ll (ae Ll Ll ?_)
  refine cO (fun h17=>?_) (fun h17=>?_)
  ·refine al Ll (ah Ll Ll (aF (o:=2) KP Ll (by kernel_rfl) Ll) (al Ll (am Ll Ll (aj KK Ll ((x3.trans x15).cell_some (k2.cell (i:=2) Ll))) ?_)))
   refine al Ll (ah Ll Ll (aF (o:=2) KP Ll (by kernel_rfl) Ll) (al Ll (am Ll Ll (aj KK Ll (x15.cell_some (k3.cell (i:=2) Ll))) ?_)))
   refine al Ll (an zK Ll Ll (zL (ha'.ext ((x2.trans x3).trans x15)) (hb'.ext ((x2.trans x3).trans x15))) ?_)
   rintro v22 w22 ⟨x22,rfl⟩
   refine aw Ll Ll Ll (ac Ll Ll (ag (ab (av (aG Ll Ll ?_)))))
   exact⟨_,rfl,(((x2.trans x3).trans x15).trans x22),by
    first
    |exact congrArg B (decide_eq_decide.2 ⟨fun h=>Prod.ext h10 (Prod.ext h17 h),fun h=>by rw[h]⟩)
    |exact congrArg B (decide_eq_false fun h=>h17 (by rw[h])).symm
    |exact congrArg B (decide_eq_false fun h=>h10 (by rw[h])).symm⟩
  ·refine ao Ll Ll Ll (ao Ll Ll Ll (ao Ll Ll Ll (ao Ll Ll Ll (ao Ll Ll Ll (aC Ll Ll Ll (ac Ll Ll (ag (ab (av (aG Ll Ll ?_))))))))))
   exact⟨_,rfl,((x2.trans x3).trans x15),by
    first
    |exact congrArg B (decide_eq_decide.2 ⟨fun h=>Prod.ext h10 (Prod.ext h17 h),fun h=>by rw[h]⟩)
    |exact congrArg B (decide_eq_false fun h=>h17 (by rw[h])).symm
    |exact congrArg B (decide_eq_false fun h=>h10 (by rw[h])).symm⟩
 ·refine ao Ll Ll Ll (ao Ll Ll Ll (ao Ll Ll Ll (ao Ll Ll Ll (ao Ll Ll Ll (aC Ll Ll Ll (ae Ll Ll (ao Ll Ll Ll (ao Ll Ll Ll (ao Ll Ll Ll ?_)))))))))
  refine ao Ll Ll Ll (ao Ll Ll Ll (aC Ll Ll Ll (ac Ll Ll (ag (ab (av (aG Ll Ll ?_)))))))
  exact⟨_,rfl,(x2.trans x3),by
   first
   |exact congrArg B (decide_eq_decide.2 ⟨fun h=>Prod.ext h10 (Prod.ext h17 h),fun h=>by rw[h]⟩)
   |exact congrArg B (decide_eq_false fun h=>h17 (by rw[h])).symm
   |exact congrArg B (decide_eq_false fun h=>h10 (by rw[h])).symm⟩
theorem BB {w:World} {a b:fQ} {x y p q:Value} (ha:bo a.2.1 x w) (ha':bo a.2.2 y w) (hb:bo b.2.1 p w) (hb':bo b.2.2 q w):
 Calls Tryz.prog 134 #[.agg #[B a.1,x,y],.agg #[B b.1,p,q]] w (bE fun r w'=>aI w w'∧r=B (decide (a=b))):=by
 refine bE.mono (tC (a:=a.1) (b:=b.1) ⟨x,y,rfl,ha,ha'⟩ ⟨p,q,rfl,hb,hb'⟩) fun r w' h=>⟨h.1,h.2.trans (congrArg B (decide_eq_decide.2 ⟨fun h=>Prod.ext h.1 (Prod.ext h.2.1 h.2.2),fun h=>by rw[h];exact⟨rfl,rfl,rfl⟩⟩))⟩
deriving instance DecidableEq for ew
theorem ew.ext' {a b:ew} (h1:a.kd=b.kd) (h2:a.ix=b.ix) (h3:a.at_=b.at_):a=b:=by
 cases a;cases b
 simp only at h1 h2 h3
 rw[h1,h2,h3]
theorem xV {w:World} {a b:ew} {x y p q:Value} (ha:bo a.at_.2.1 x w) (ha':bo a.at_.2.2 y w) (hb:bo b.at_.2.1 p w) (hb':bo b.at_.2.2 q w):
 Calls Tryz.prog 150 #[.agg #[I a.kd,I a.ix,B a.at_.1,x,y],.agg #[I b.kd,I b.ix,B b.at_.1,p,q]] w (bE fun r w'=>aI w w'∧r=B (decide (a=b))):=by
 refine enter (vs:=[.agg #[I a.kd,I a.ix,B a.at_.1,x,y],.agg #[I b.kd,I b.ix,B b.at_.1,p,q]]) Tryz.func150 Ll Ll Ll ?_
 refine af (aa ?_)
 obtain⟨g2,w2,hr2,l2,x2,k2⟩:=dc (P:=Tryz.prog) (w:=w) (T:=80) (cs:=[I a.kd,I a.ix,B a.at_.1,x,y])
 refine cL Ll Ll hr2 ?_
 obtain⟨g3,w3,hr3,l3,x3,k3⟩:=dc (P:=Tryz.prog) (w:=w2) (T:=80) (cs:=[I b.kd,I b.ix,B b.at_.1,p,q])
 refine cL Ll Ll hr3 (ac Ll Ll (ag (ab (af (aa (ah Ll Ll (aF (o:=0) KT Ll (by kernel_rfl) Ll) ?_))))))
 refine am Ll Ll (aj KO Ll (x3.cell_some (k2.cell (i:=0) Ll))) (ah Ll Ll (aF (o:=0) KT Ll (by kernel_rfl) Ll) ?_)
 refine am Ll Ll (aj KO Ll (k3.cell (i:=0) Ll)) (ai Ll Ll Ll (aZ) (ae Ll Ll ?_))
 refine cO (fun h10=>?_) (fun h10=>?_)
 ·refine al Ll (ah Ll Ll (aF (o:=1) KT Ll (by kernel_rfl) Ll) (al Ll (am Ll Ll (aj KO Ll (x3.cell_some (k2.cell (i:=1) Ll))) ?_)))
  refine al Ll (ah Ll Ll (aF (o:=1) KT Ll (by kernel_rfl) Ll) (al Ll (am Ll Ll (aj KO Ll (k3.cell (i:=1) Ll)) ?_)))
  refine al Ll (ai Ll Ll Ll (aZ) (aw Ll Ll Ll (ae Ll Ll ?_)))
  refine cO (fun h17=>?_) (fun h17=>?_)
  ·refine al rfl (ah rfl rfl (aF (o:=2) Tryz.underlying80 rfl (by kernel_rfl) rfl) (al rfl (am rfl rfl ((k2.ext x3).ldO (ms:=[B a.at_.1,x,y]) (o:=2) (fun j v hj=>by rcases j with _|_|_|_|_|_|_|_|_|j<;>simp_all) Tryz.underlying55 rfl (by kernel_rfl)) ?_)))
   refine al rfl (ah rfl rfl (aF (o:=2) Tryz.underlying80 rfl (by kernel_rfl) rfl) (al rfl (am rfl rfl (k3.ldO (ms:=[B b.at_.1,p,q]) (o:=2) (fun j v hj=>by rcases j with _|_|_|_|_|_|_|_|_|j<;>simp_all) Tryz.underlying55 rfl (by kernel_rfl)) ?_)))
   refine al Ll (an xS Ll Ll ((xU (a:=a.at_) (b:=b.at_) (ha.ext (x2.trans x3)) (ha'.ext (x2.trans x3)) (hb.ext (x2.trans x3)) (hb'.ext (x2.trans x3)))) ?_)
   rintro v22 w22 ⟨x22,rfl⟩
   refine aw Ll Ll Ll (ac Ll Ll (ag (ab (av (aG Ll Ll ?_)))))
   exact⟨_,rfl,((x2.trans x3).trans x22),by
    first
    |exact congrArg B (decide_eq_decide.2 ⟨fun h=>ew.ext' h10 h17 h,fun h=>by rw[h]⟩)
    |exact congrArg B (decide_eq_false fun h=>h17 (by rw[h])).symm
    |exact congrArg B (decide_eq_false fun h=>h10 (by rw[h])).symm⟩
  ·refine ao Ll Ll Ll (ao Ll Ll Ll (ao Ll Ll Ll (ao Ll Ll Ll (ao Ll Ll Ll (aC Ll Ll Ll (ac Ll Ll (ag (ab (av (aG Ll Ll ?_))))))))))
   exact⟨_,rfl,(x2.trans x3),by
    first
    |exact congrArg B (decide_eq_decide.2 ⟨fun h=>ew.ext' h10 h17 h,fun h=>by rw[h]⟩)
    |exact congrArg B (decide_eq_false fun h=>h17 (by rw[h])).symm
    |exact congrArg B (decide_eq_false fun h=>h10 (by rw[h])).symm⟩
 ·refine ao Ll Ll Ll (ao Ll Ll Ll (ao Ll Ll Ll (ao Ll Ll Ll (ao Ll Ll Ll (aC Ll Ll Ll (ae Ll Ll (ao Ll Ll Ll (ao Ll Ll Ll (ao Ll Ll Ll ?_)))))))))
  refine ao Ll Ll Ll (ao Ll Ll Ll (aC Ll Ll Ll (ac Ll Ll (ag (ab (av (aG Ll Ll ?_)))))))
  exact⟨_,rfl,(x2.trans x3),by
   first
   |exact congrArg B (decide_eq_decide.2 ⟨fun h=>ew.ext' h10 h17 h,fun h=>by rw[h]⟩)
   |exact congrArg B (decide_eq_false fun h=>h17 (by rw[h])).symm
   |exact congrArg B (decide_eq_false fun h=>h10 (by rw[h])).symm⟩
theorem vR {w:World} {a b:ew} {x y p q:Value} (ha:bo a.at_.2.1 x w) (ha':bo a.at_.2.2 y w) (hb:bo b.at_.2.1 p w) (hb':bo b.at_.2.2 q w):
 Calls Tryz.prog 117 #[.agg #[I a.kd,I a.ix,B a.at_.1,x,y],.agg #[I b.kd,I b.ix,B b.at_.1,p,q]] w (bE fun r w'=>aI w w'∧r=B (decide (a=b))):=by
 refine enter (vs:=[.agg #[I a.kd,I a.ix,B a.at_.1,x,y],.agg #[I b.kd,I b.ix,B b.at_.1,p,q]]) Tryz.func117 Ll Ll Ll ?_
 refine af (aa ?_)
 obtain⟨g2,w2,hr2,l2,x2,k2⟩:=dc (P:=Tryz.prog) (w:=w) (T:=80) (cs:=[I a.kd,I a.ix,B a.at_.1,x,y])
 refine cL Ll Ll hr2 ?_
 obtain⟨g3,w3,hr3,l3,x3,k3⟩:=dc (P:=Tryz.prog) (w:=w2) (T:=80) (cs:=[I b.kd,I b.ix,B b.at_.1,p,q])
 refine cL Ll Ll hr3 (ac Ll Ll (ag (ab (af (aa (ah Ll Ll (aF (o:=0) KT Ll (by kernel_rfl) Ll) ?_))))))
 refine am Ll Ll (aj KO Ll (x3.cell_some (k2.cell (i:=0) Ll))) (ah Ll Ll (aF (o:=0) KT Ll (by kernel_rfl) Ll) ?_)
 refine am Ll Ll (aj KO Ll (k3.cell (i:=0) Ll)) (ai Ll Ll Ll (aZ) (ae Ll Ll ?_))
 refine cO (fun h10=>?_) (fun h10=>?_)
 ·refine al Ll (ah Ll Ll (aF (o:=1) KT Ll (by kernel_rfl) Ll) (al Ll (am Ll Ll (aj KO Ll (x3.cell_some (k2.cell (i:=1) Ll))) ?_)))
  refine al Ll (ah Ll Ll (aF (o:=1) KT Ll (by kernel_rfl) Ll) (al Ll (am Ll Ll (aj KO Ll (k3.cell (i:=1) Ll)) ?_)))
  refine al Ll (ai Ll Ll Ll (aZ) (aw Ll Ll Ll (ae Ll Ll ?_)))
  refine cO (fun h17=>?_) (fun h17=>?_)
  ·refine al rfl (ah rfl rfl (aF (o:=2) Tryz.underlying80 rfl (by kernel_rfl) rfl) (al rfl (am rfl rfl ((k2.ext x3).ldO (ms:=[B a.at_.1,x,y]) (o:=2) (fun j v hj=>by rcases j with _|_|_|_|_|_|_|_|_|j<;>simp_all) Tryz.underlying55 rfl (by kernel_rfl)) ?_)))
   refine al rfl (ah rfl rfl (aF (o:=2) Tryz.underlying80 rfl (by kernel_rfl) rfl) (al rfl (am rfl rfl (k3.ldO (ms:=[B b.at_.1,p,q]) (o:=2) (fun j v hj=>by rcases j with _|_|_|_|_|_|_|_|_|j<;>simp_all) Tryz.underlying55 rfl (by kernel_rfl)) ?_)))
   refine al Ll (an ly Ll Ll ((BB (a:=a.at_) (b:=b.at_) (ha.ext (x2.trans x3)) (ha'.ext (x2.trans x3)) (hb.ext (x2.trans x3)) (hb'.ext (x2.trans x3)))) ?_)
   rintro v22 w22 ⟨x22,rfl⟩
   refine aw Ll Ll Ll (ac Ll Ll (ag (ab (av (aG Ll Ll ?_)))))
   exact⟨_,rfl,((x2.trans x3).trans x22),by
    first
    |exact congrArg B (decide_eq_decide.2 ⟨fun h=>ew.ext' h10 h17 h,fun h=>by rw[h]⟩)
    |exact congrArg B (decide_eq_false fun h=>h17 (by rw[h])).symm
    |exact congrArg B (decide_eq_false fun h=>h10 (by rw[h])).symm⟩
  ·refine ao Ll Ll Ll (ao Ll Ll Ll (ao Ll Ll Ll (ao Ll Ll Ll (ao Ll Ll Ll (aC Ll Ll Ll (ac Ll Ll (ag (ab (av (aG Ll Ll ?_))))))))))
   exact⟨_,rfl,(x2.trans x3),by
    first
    |exact congrArg B (decide_eq_decide.2 ⟨fun h=>ew.ext' h10 h17 h,fun h=>by rw[h]⟩)
    |exact congrArg B (decide_eq_false fun h=>h17 (by rw[h])).symm
    |exact congrArg B (decide_eq_false fun h=>h10 (by rw[h])).symm⟩
 ·refine ao Ll Ll Ll (ao Ll Ll Ll (ao Ll Ll Ll (ao Ll Ll Ll (ao Ll Ll Ll (aC Ll Ll Ll (ae Ll Ll (ao Ll Ll Ll (ao Ll Ll Ll (ao Ll Ll Ll ?_)))))))))
  refine ao Ll Ll Ll (ao Ll Ll Ll (aC Ll Ll Ll (ac Ll Ll (ag (ab (av (aG Ll Ll ?_)))))))
  exact⟨_,rfl,(x2.trans x3),by
   first
   |exact congrArg B (decide_eq_decide.2 ⟨fun h=>ew.ext' h10 h17 h,fun h=>by rw[h]⟩)
   |exact congrArg B (decide_eq_false fun h=>h17 (by rw[h])).symm
   |exact congrArg B (decide_eq_false fun h=>h10 (by rw[h])).symm⟩
end Go.Rl
namespace Go.Rl
open Go.RowKit Go.Proofs
section
variable {w:World} {cs:List Value}
theorem ju {m:dl} (h:Rp w (dk m) cs):∃x y,cs=[I m.kd,I m.ix,I m.lo,I m.hi,B m.co.1,x,y]∧bo m.co.2.1 x w∧bo m.co.2.2 y w:=by
 simp only[dk,sq,bw,Rp.eq_5,Rp.eq_1] at h
 obtain⟨_,_,rfl,⟨_,_,rfl,rfl,_,_,rfl,rfl,_,_,rfl,rfl,_,_,rfl,rfl,rfl⟩,_,_,rfl,h1,rfl⟩:=h
 obtain⟨x,y,rfl,hx,hy⟩:=mS h1
 exact⟨x,y,rfl,hx,hy⟩
theorem GE {d:ew} (h:Rp w (gD d) cs):∃x y,cs=[I d.kd,I d.ix,B d.at_.1,x,y]∧bo d.at_.2.1 x w∧bo d.at_.2.2 y w:=by
 simp only[gD,sq,bw,Rp.eq_5,Rp.eq_1] at h
 obtain⟨_,_,rfl,rfl,_,_,rfl,rfl,_,_,rfl,h1,rfl⟩:=h
 obtain⟨x,y,rfl,hx,hy⟩:=mS h1
 exact⟨x,y,rfl,hx,hy⟩
theorem kJ {l:fB} (h:Rp w (eI l) cs):∃x y v,cs=[I l.un,B l.up,B l.va.1,x,y,v]∧bo l.va.2.1 x w∧bo l.va.2.2 y w∧df dk l.pf v w:=by
 simp only[eI,sq,bw,Rp.eq_5,Rp.eq_1,Rp.eq_2] at h
 obtain⟨_,_,rfl,rfl,_,_,rfl,rfl,_,_,rfl,h1,_,_,rfl,h2,rfl⟩:=h
 obtain⟨x,y,rfl,hx,hy⟩:=mS h1
 obtain⟨v,rfl,hv,_⟩:=Rp.isSlice h2
 exact⟨x,y,v,rfl,hx,hy,hv⟩
theorem dY {n:aP} (h:Rp w (bM n) cs):∃vl x y vk vp,cs=[vl,I n.split.kd,I n.split.ix,B n.split.at_.1,x,y,vk,B n.empty,vp]∧df eI n.lems vl w∧bo n.split.at_.2.1 x w∧bo n.split.at_.2.2 y w∧df bM n.kids vk w∧df dk n.pf vp w:=by
 cases n with
 |mk lems sp ks em pf=>
  simp only[bM,bw,Rp.eq_5,Rp.eq_2,oB] at h
  obtain⟨_,_,rfl,h1,_,_,rfl,h2,_,_,rfl,h3,_,_,rfl,rfl,_,_,rfl,h4,rfl⟩:=h
  obtain⟨vl,rfl,hl,_⟩:=Rp.isSlice h1
  obtain⟨x,y,rfl,hx,hy⟩:=GE h2
  obtain⟨vk,rfl,hk,_⟩:=Rp.isSlice h3
  obtain⟨vp,rfl,hp,_⟩:=Rp.isSlice h4
  exact⟨vl,x,y,vk,vp,rfl,hl,hx,hy,hk,hp⟩
theorem CT (d:ew):xP d=decide (d=uN):=by
 cases d with
 |mk a b c=>
  unfold xP uN
  simp only[ew.mk.injEq]
  by_cases h1:a=0<;>by_cases h2:b=0<;>by_cases h3:c=Kk<;>simp[h1,h2,h3]
end
end Go.Rl
namespace Go.Rl
open Go.RowKit Go.Proofs
theorem xX {L:Nat} {n x y:aP} (hk:n.kids=[x,y]) (hi:mY n=true):jL (L+1) n=if (jL L x).1=false∨65536<(jL L x).2 then(false,0) else((jL L y).1,1+(jL L x).2+(jL L y).2):=by
 rw[jL];simp only[hk,if_pos hi]
theorem jU {L:Nat} {n:aP} (h0:n.kids.length≠0) (h:n.kids.length≠2∨mY n=false):jL (L+1) n=(false,0):=by
 rw[jL]
 generalize n.kids=ks at h0 h
 rcases ks with _|⟨x,_|⟨y,_|⟨z,t⟩⟩⟩
 ·exact absurd rfl h0
 ·rfl
 ·rcases h with h|h
  ·exact absurd rfl h
  ·simp[h]
 ·rfl
theorem jI {P:Program} {w:World} {s:TypeId} {fs:Array Field} {f:Field} {n g o b:Nat} (hs:P.underlying s=some (.struct fs)) (hf:fs[n]? =some f) (hk:(P.cellsOf f.type==0)=false) (ho:f.offset=o):
 (Instr.fieldAt s (.pointer (some ⟨g,b,none⟩)) n).run P w=.ok (.pointer (some ⟨g,b+o,none⟩)) w:=by
 have hk':P.cellsOf f.type≠0:=by simpa using hk
 obtain⟨k,hk1⟩:∃k,(P.info? f.type).map (·.size)=some k:=by
  cases hi:(P.info? f.type).map (·.size) with
  |none=>exact absurd (by simp[Program.cellsOf,hi]) hk'
  |some k=>exact⟨k,rfl⟩
 have hk0:k≠0:=by
  intro h
  apply hk'
  simp[Program.cellsOf,hk1,h]
 rw[cB hs hf hk1 hk0,ho,ql]
theorem GF {L:Nat} {n:aP} (h0:n.kids.length=0):jL (L+1) n=(xP n.split,1):=by
 rw[jL]
 have:n.kids=[]:=List.eq_nil_of_length_eq_zero h0
 simp only[this]
theorem fX {n:aP} (h:¬(1≤n.split.kd∧n.split.kd≤4∧n.empty=false∧n.pf.length=0)):mY n=false:=by
 unfold mY
 by_cases h1:1≤n.split.kd<;>by_cases h2:n.split.kd≤4<;>by_cases h3:n.pf.length=0<;>cases h4:n.empty<;>simp_all
theorem CU {n:aP} (h1:1≤n.split.kd) (h2:n.split.kd≤4) (h3:n.empty=false) (h4:n.pf.length=0):mY n=true:=by
 unfold mY
 simp[h1,h2,h3,h4]
theorem BC:∀(L:Nat) (n:aP),(jL L n).2≤65537*L
 |0,_=>Nat.le_refl _
 |L+1,n=>by
  rw[jL]
  generalize n.kids=ks
  rcases ks with _|⟨x,_|⟨y,_|⟨z,t⟩⟩⟩
  ·show 1≤_;omega
  ·show 0≤_;omega
  ·have:=BC L y
   by_cases hi:mY n=true
   ·simp only[if_pos hi]
    split
    ·show 0≤_;omega
    ·rename_i h
     simp only[not_or,Nat.not_lt] at h
     have:=h.2
     show 1+(jL L x).2+(jL L y).2≤_
     omega
   ·simp only[if_neg hi]
    show 0≤_;omega
  ·show 0≤_;omega
theorem t0 {ks:List aP} (h:ks.length=2):ks=[ks[0]'(by omega),ks[1]'(by omega)]:=by
 rcases ks with _|⟨x,_|⟨y,_|⟨z,t⟩⟩⟩
 ·simp at h
 ·simp at h
 ·rfl
 ·simp at h
theorem t5 {w:World} {n:aP} {L d:Nat} {vl x y vk vp:Value} (ih:∀L',L=L'+1→∀{w:World} {n:aP} {vl x y vk vp:Value},df eI n.lems vl w→bo n.split.at_.2.1 x w→bo n.split.at_.2.2 y w→df bM n.kids vk w→df dk n.pf vp w→
 Calls Tryz.prog 104 #[.agg #[vl,I n.split.kd,I n.split.ix,B n.split.at_.1,x,y,vk,B n.empty,vp],I ((d+1:Nat):Int)] w (bE fun r w'=>aI w w'∧r=.tuple #[B (jL L' n).1,I ((jL L' n).2:Int)]))
 (hl:df eI n.lems vl w) (hx:bo n.split.at_.2.1 x w) (hy:bo n.split.at_.2.2 y w) (hk:df bM n.kids vk w) (hp:df dk n.pf vp w) (hd:d+L=2049):
 Calls Tryz.prog 104 #[.agg #[vl,I n.split.kd,I n.split.ix,B n.split.at_.1,x,y,vk,B n.empty,vp],I (d:Int)] w (bE fun r w'=>aI w w'∧r=.tuple #[B (jL L n).1,I ((jL L n).2:Int)]):=by
 refine enter (vs:=[.agg #[vl,I n.split.kd,I n.split.ix,B n.split.at_.1,x,y,vk,B n.empty,vp],I (d:Int)]) Tryz.func104 Ll Ll Ll ?_
 refine af (aa ?_)
 obtain⟨g2,w2,hr2,l2,x2,k2⟩:=dc (P:=Tryz.prog) (w:=w) (T:=83) (cs:=[vl,I n.split.kd,I n.split.ix,B n.split.at_.1,x,y,vk,B n.empty,vp])
 refine cL Ll Ll hr2 (ac Ll Ll (ac Ll Ll (ag (ab (af (af (aa (ae Ll Ll (ai Ll Ll Ll (ck) (ag (ab ?_)))))))))))
 refine bi Ll (fun h11=>?_) (fun h11=>?_)
 ·obtain rfl:L=0:=by omega
  refine af (aa (ac Ll Ll (ac Ll Ll (ag (ab (av (au (aM Ll Ll Ll ?_))))))))
  exact⟨_,rfl,x2,rfl⟩
 ·obtain⟨L',rfl⟩:∃L',L=L'+1:=⟨L-1,by omega⟩
  refine ar (ab (af (af (aa (ah Ll Ll (aF (o:=6) KM Ll (by kernel_rfl) Ll) (am Ll Ll (aj KR Ll (k2.cell (i:=6) Ll)) ?_))))))
  refine aQ Ll Ll (bR KR (hk.ext x2)) (ai Ll Ll Ll (aZ) (ag (ab ?_)))
  refine bi Ll (fun h15=>?_) (fun h15=>?_)
  ·have h0:n.kids.length=0:=by omega
   refine af (aa (ah rfl rfl (aF (o:=1) Tryz.underlying83 rfl (by kernel_rfl) rfl) (am rfl rfl (k2.ldO (ms:=[I n.split.kd,I n.split.ix,B n.split.at_.1,x,y]) (o:=1) (fun j v hj=>by rcases j with _|_|_|_|_|_|_|_|_|j<;>simp_all) Tryz.underlying80 rfl (by kernel_rfl)) ?_)))
   refine bm (vs:=[]) (r:=.agg #[I 0,I 0,B false,.slice none 0 0,.slice none 0 0]) Ll Ll (by exact run_build _ _ _ _ (by kernel_rfl)) (an vQ Ll Ll ((vR (a:=n.split) (b:=uN) (hx.ext x2) (hy.ext x2) (Sl.nil _ _) (Sl.nil _ _))) ?_)
   rintro v19 w19 ⟨x19,rfl⟩
   refine ac Ll Ll (ac Ll Ll (ag (ab (av (au (aM Ll Ll Ll ?_))))))
   exact⟨_,rfl,(x2.trans x19),by rw[GF h0,CT];rfl⟩
  ·have h0:n.kids.length≠0:=by omega
   refine ar (ab (af (af ?_)))
   have hl2:=hl.ext x2
   have hx2:=hx.ext x2
   have hy2:=hy.ext x2
   have hk2:=hk.ext x2
   have hp2:=hp.ext x2
   rcases hem:n.empty with _|_
   ·have kf:=k2
    rw[hem] at kf
    refine aa (ah Ll Ll (aF (o:=6) KM Ll (by kernel_rfl) Ll) (am Ll Ll (aj KR Ll (kf.cell (i:=6) Ll)) ?_))
    refine aQ Ll Ll (bR KR hk2) (ai Ll Ll Ll (bL) (ae Ll Ll ?_))
    refine cO (fun h24=>?_) (fun h24=>?_)
    ·refine ao Ll Ll Ll (ao Ll Ll Ll (ao Ll Ll Ll (ao Ll Ll Ll (aw Ll Ll Ll (ae Ll Ll (ao Ll Ll Ll (ao Ll Ll Ll (ao Ll Ll Ll (ao Ll Ll Ll ?_)))))))))
     refine aw Ll Ll Ll (ae Ll Ll (ao Ll Ll Ll (ao Ll Ll Ll (aw Ll Ll Ll (ae Ll Ll (ao Ll Ll Ll (ao Ll Ll Ll (ao Ll Ll Ll (ao Ll Ll Ll ?_)))))))))
     refine aw Ll Ll Ll (ag (ab (bB Ll (af (aa (ac Ll Ll (ac Ll Ll (ag (ab (av (au (aM Ll Ll Ll ?_))))))))))))
     exact⟨_,rfl,x2,by
      rw[jU h0 (by
       first
       |exact .inl (by omega)
       |exact .inr (fX fun⟨a1,a2,a3,a4⟩=>by
         first
         |omega
         |(rw[hem] at a3;cases a3)))]
      rfl⟩
    ·refine al Ll (ah Ll Ll (aF (o:=1) KM Ll (by kernel_rfl) Ll) (al Ll (ah Ll Ll (jI (b:=1) (o:=0) KT Ll (by kernel_rfl) Ll) ?_)))
     refine al Ll (am Ll Ll (aj KO Ll (kf.cell (i:=1) Ll)) (al Ll (ai Ll Ll Ll (aW) (aC Ll Ll Ll (ae Ll Ll ?_)))))
     refine cO (fun h30=>?_) (fun h30=>?_)
     ·refine ao Ll Ll Ll (ao Ll Ll Ll (ao Ll Ll Ll (ao Ll Ll Ll (aw Ll Ll Ll (ae Ll Ll (ao Ll Ll Ll (ao Ll Ll Ll (aw Ll Ll Ll (ae Ll Ll ?_)))))))))
      refine ao Ll Ll Ll (ao Ll Ll Ll (ao Ll Ll Ll (ao Ll Ll Ll (aw Ll Ll Ll (ag (ab (bB Ll (af (aa (ac Ll Ll (ac Ll Ll (ag ?_))))))))))))
      refine ab (av (au (aM Ll Ll Ll ?_)))
      exact⟨_,rfl,x2,by
       rw[jU h0 (by
        first
        |exact .inl (by omega)
        |exact .inr (fX fun⟨a1,a2,a3,a4⟩=>by
          first
          |omega
          |(rw[hem] at a3;cases a3)))]
       rfl⟩
     ·refine al Ll (ah Ll Ll (aF (o:=1) KM Ll (by kernel_rfl) Ll) (al Ll (ah Ll Ll (jI (b:=1) (o:=0) KT Ll (by kernel_rfl) Ll) ?_)))
      refine al Ll (am Ll Ll (aj KO Ll (kf.cell (i:=1) Ll)) (al Ll (ai Ll Ll Ll (ck) (aC Ll Ll Ll (ae Ll Ll ?_)))))
      refine cO (fun h36=>?_) (fun h36=>?_)
      ·refine ao Ll Ll Ll (ao Ll Ll Ll (aw Ll Ll Ll (ae Ll Ll (ao Ll Ll Ll (ao Ll Ll Ll (ao Ll Ll Ll (ao Ll Ll Ll (aw Ll Ll Ll (ag ?_)))))))))
       refine ab (bB Ll (af (aa (ac Ll Ll (ac Ll Ll (ag (ab (av (au (aM Ll Ll Ll ?_))))))))))
       exact⟨_,rfl,x2,by
        rw[jU h0 (by
         first
         |exact .inl (by omega)
         |exact .inr (fX fun⟨a1,a2,a3,a4⟩=>by
           first
           |omega
           |(rw[hem] at a3;cases a3)))]
        rfl⟩
      ·refine al Ll (ah Ll Ll (aF (o:=7) KM Ll (by kernel_rfl) Ll) (al Ll (am Ll Ll (aj KU Ll (kf.cell (i:=7) Ll)) ?_)))
       refine aC Ll Ll Ll (ae Ll Ll (al Ll (ah Ll Ll (aF (o:=8) KM Ll (by kernel_rfl) Ll) (al Ll (am Ll Ll (aj KW Ll (kf.cell (i:=8) Ll)) ?_)))))
       refine al Ll (aQ Ll Ll (bR KW hp2) (al Ll (ai Ll Ll Ll (ck) (aC Ll Ll Ll (ag (ab ?_))))))
       refine bi Ll (fun h45=>?_) (fun h45=>?_)
       ·refine af (aa (ac Ll Ll (ac Ll Ll (ag (ab (av (au (aM Ll Ll Ll ?_))))))))
        exact⟨_,rfl,x2,by
         rw[jU h0 (by
          first
          |exact .inl (by omega)
          |exact .inr (fX fun⟨a1,a2,a3,a4⟩=>by
            first
            |omega
            |(rw[hem] at a3;cases a3)))]
         rfl⟩
       ·refine ar (ab (af ?_))
        have hk2n:n.kids.length=2:=by omega
        have hks:=t0 hk2n
        have hi:=CU (n:=n) (by omega) (by omega) hem (by omega)
        refine aa (ah Ll Ll (aF (o:=6) KM Ll (by kernel_rfl) Ll) (am Ll Ll (aj KR Ll (kf.cell (i:=6) Ll)) ?_))
        obtain⟨a49,c49,p49,q49,h49⟩:=dN (P:=Tryz.prog) (sz:=9) KR (by kernel_rfl) bD (by omega) hk2 (i:=0) (by omega) .i64
        obtain⟨e49,he49⟩:∃e,e=n.kids[0]'(by omega):=⟨_,rfl⟩
        rw[←he49] at h49
        obtain⟨x49_0,x49_1,x49_2,x49_3,x49_4,rfl,f49_0,f49_1,f49_2,f49_3,f49_4⟩:=dY h49
        refine aA Ll Ll Ll (p49 _) (am Ll Ll (q49.ld KM Ll (by kernel_rfl)) (ae Ll Ll (ai (r:=I ((d+1:Nat):Int)) Ll Ll Ll (by have e:((d+1:Nat):Int)=(d:Int)+1:=(by omega);rw[e];exact aK (by omega) (by omega)) ?_)))
        refine an oP Ll Ll ((ih L' Ll f49_0 f49_1 f49_2 f49_3 f49_4)) ?_
        rintro v53 w53 ⟨x53,rfl⟩
        refine ae Ll Ll (ak Ll Ll (aT) (ak Ll Ll (aU) (ac Ll Ll (ac Ll Ll (ag (ab (af (af ?_))))))))
        have he:=BC L' e49
        rcases hb:(jL L' e49).1 with _|_
        ·refine aa (ae Ll Ll (bI Ll Ll bK (ae Ll Ll (ao Ll Ll Ll (ao Ll Ll Ll (aw Ll Ll Ll (ag (ab (bB Ll (af (aa (ac Ll Ll ?_))))))))))))
         refine ac Ll Ll (ag (ab (av (au (aM Ll Ll Ll ?_)))))
         exact⟨_,rfl,(x2.trans x53),by
          rw[xX hks hi,←he49,if_pos (by first|exact .inl hb|exact .inr (by omega))]
          rfl⟩
        ·refine aa (ae Ll Ll (bI Ll Ll bK (ae Ll Ll (al Ll (ae Ll Ll (al Ll (ai Ll Ll Ll (ck) (aC Ll Ll Ll (ag (ab ?_))))))))))
         refine bi Ll (fun h61=>?_) (fun h61=>?_)
         ·refine af (aa (ac Ll Ll (ac Ll Ll (ag (ab (av (au (aM Ll Ll Ll ?_))))))))
          exact⟨_,rfl,(x2.trans x53),by
           rw[xX hks hi,←he49,if_pos (by first|exact .inl hb|exact .inr (by omega))]
           rfl⟩
         ·refine ar (ab (af (aa (ah Ll Ll (aF (o:=6) KM Ll (by kernel_rfl) Ll) (am Ll Ll (aj KR Ll (x53.cell_some (kf.cell (i:=6) Ll))) ?_)))))
          obtain⟨a65,c65,p65,q65,h65⟩:=dN (P:=Tryz.prog) (sz:=9) KR (by kernel_rfl) bD (by omega) (hk2.ext x53) (i:=1) (by omega) .i64
          obtain⟨e65,he65⟩:∃e,e=n.kids[1]'(by omega):=⟨_,rfl⟩
          rw[←he65] at h65
          obtain⟨x65_0,x65_1,x65_2,x65_3,x65_4,rfl,f65_0,f65_1,f65_2,f65_3,f65_4⟩:=dY h65
          refine aA Ll Ll Ll (p65 _) (am Ll Ll (q65.ld KM Ll (by kernel_rfl)) (ae Ll Ll (ai (r:=I ((d+1:Nat):Int)) Ll Ll Ll (by have e:((d+1:Nat):Int)=(d:Int)+1:=(by omega);rw[e];exact aK (by omega) (by omega)) ?_)))
          refine an oP Ll Ll ((ih L' Ll f65_0 f65_1 f65_2 f65_3 f65_4)) ?_
          rintro v69 w69 ⟨x69,rfl⟩
          have hf:=BC L' e65
          refine ae Ll Ll (ak Ll Ll (aT) (ak Ll Ll (aU) (ac Ll Ll (ac Ll Ll (ag (ab (af (aa (ae Ll Ll (ae Ll Ll (ai (r:=I ((1+(jL L' e49).2:Nat):Int)) Ll Ll Ll (by have e:((1+(jL L' e49).2:Nat):Int)=1+((jL L' e49).2:Int):=(by omega);rw[e];exact aK (by omega) (by omega)) ?_)))))))))))
          refine ae Ll Ll (ai (r:=I ((((1+(jL L' e49).2:Nat))+(jL L' e65).2:Nat):Int)) Ll Ll Ll (by have e:((((1+(jL L' e49).2:Nat))+(jL L' e65).2:Nat):Int)=((1+(jL L' e49).2:Nat):Int)+((jL L' e65).2:Int):=(by omega);rw[e];exact aK (by omega) (by omega)) ?_)
          refine ac Ll Ll (ac Ll Ll (ag (ab (av (aM Ll Ll Ll ?_)))))
          exact⟨_,rfl,((x2.trans x53).trans x69),by
           rw[xX hks hi,←he49,←he65,if_neg (by rw[hb];simp;omega)]⟩
   ·have kf:=k2
    rw[hem] at kf
    refine aa (ah Ll Ll (aF (o:=6) KM Ll (by kernel_rfl) Ll) (am Ll Ll (aj KR Ll (kf.cell (i:=6) Ll)) ?_))
    refine aQ Ll Ll (bR KR hk2) (ai Ll Ll Ll (bL) (ae Ll Ll ?_))
    refine cO (fun h24=>?_) (fun h24=>?_)
    ·refine ao Ll Ll Ll (ao Ll Ll Ll (ao Ll Ll Ll (ao Ll Ll Ll (aw Ll Ll Ll (ae Ll Ll (ao Ll Ll Ll (ao Ll Ll Ll (ao Ll Ll Ll (ao Ll Ll Ll ?_)))))))))
     refine aw Ll Ll Ll (ae Ll Ll (ao Ll Ll Ll (ao Ll Ll Ll (aw Ll Ll Ll (ae Ll Ll (ao Ll Ll Ll (ao Ll Ll Ll (ao Ll Ll Ll (ao Ll Ll Ll ?_)))))))))
     refine aw Ll Ll Ll (ag (ab (bB Ll (af (aa (ac Ll Ll (ac Ll Ll (ag (ab (av (au (aM Ll Ll Ll ?_))))))))))))
     exact⟨_,rfl,x2,by
      rw[jU h0 (by
       first
       |exact .inl (by omega)
       |exact .inr (fX fun⟨a1,a2,a3,a4⟩=>by
         first
         |omega
         |(rw[hem] at a3;cases a3)))]
      rfl⟩
    ·refine al Ll (ah Ll Ll (aF (o:=1) KM Ll (by kernel_rfl) Ll) (al Ll (ah Ll Ll (jI (b:=1) (o:=0) KT Ll (by kernel_rfl) Ll) ?_)))
     refine al Ll (am Ll Ll (aj KO Ll (kf.cell (i:=1) Ll)) (al Ll (ai Ll Ll Ll (aW) (aC Ll Ll Ll (ae Ll Ll ?_)))))
     refine cO (fun h30=>?_) (fun h30=>?_)
     ·refine ao Ll Ll Ll (ao Ll Ll Ll (ao Ll Ll Ll (ao Ll Ll Ll (aw Ll Ll Ll (ae Ll Ll (ao Ll Ll Ll (ao Ll Ll Ll (aw Ll Ll Ll (ae Ll Ll ?_)))))))))
      refine ao Ll Ll Ll (ao Ll Ll Ll (ao Ll Ll Ll (ao Ll Ll Ll (aw Ll Ll Ll (ag (ab (bB Ll (af (aa (ac Ll Ll (ac Ll Ll (ag ?_))))))))))))
      refine ab (av (au (aM Ll Ll Ll ?_)))
      exact⟨_,rfl,x2,by
       rw[jU h0 (by
        first
        |exact .inl (by omega)
        |exact .inr (fX fun⟨a1,a2,a3,a4⟩=>by
          first
          |omega
          |(rw[hem] at a3;cases a3)))]
       rfl⟩
     ·refine al Ll (ah Ll Ll (aF (o:=1) KM Ll (by kernel_rfl) Ll) (al Ll (ah Ll Ll (jI (b:=1) (o:=0) KT Ll (by kernel_rfl) Ll) ?_)))
      refine al Ll (am Ll Ll (aj KO Ll (kf.cell (i:=1) Ll)) (al Ll (ai Ll Ll Ll (ck) (aC Ll Ll Ll (ae Ll Ll ?_)))))
      refine cO (fun h36=>?_) (fun h36=>?_)
      ·refine ao Ll Ll Ll (ao Ll Ll Ll (aw Ll Ll Ll (ae Ll Ll (ao Ll Ll Ll (ao Ll Ll Ll (ao Ll Ll Ll (ao Ll Ll Ll (aw Ll Ll Ll (ag ?_)))))))))
       refine ab (bB Ll (af (aa (ac Ll Ll (ac Ll Ll (ag (ab (av (au (aM Ll Ll Ll ?_))))))))))
       exact⟨_,rfl,x2,by
        rw[jU h0 (by
         first
         |exact .inl (by omega)
         |exact .inr (fX fun⟨a1,a2,a3,a4⟩=>by
           first
           |omega
           |(rw[hem] at a3;cases a3)))]
        rfl⟩
      ·refine al Ll (ah Ll Ll (aF (o:=7) KM Ll (by kernel_rfl) Ll) (al Ll (am Ll Ll (aj KU Ll (kf.cell (i:=7) Ll)) ?_)))
       refine aC Ll Ll Ll (ae Ll Ll (ao Ll Ll Ll (ao Ll Ll Ll (ao Ll Ll Ll (ao Ll Ll Ll (aw Ll Ll Ll (ag (ab (bB Ll (af (aa ?_)))))))))))
       refine ac Ll Ll (ac Ll Ll (ag (ab (av (au (aM Ll Ll Ll ?_))))))
       exact⟨_,rfl,x2,by
        rw[jU h0 (by
         first
         |exact .inl (by omega)
         |exact .inr (fX fun⟨a1,a2,a3,a4⟩=>by
           first
           |omega
           |(rw[hem] at a3;cases a3)))]
        rfl⟩
theorem t6:∀(L d:Nat),d+L=2049→∀{w:World} {n:aP} {vl x y vk vp:Value},df eI n.lems vl w→bo n.split.at_.2.1 x w→bo n.split.at_.2.2 y w→df bM n.kids vk w→df dk n.pf vp w→
 Calls Tryz.prog 104 #[.agg #[vl,I n.split.kd,I n.split.ix,B n.split.at_.1,x,y,vk,B n.empty,vp],I (d:Int)] w (bE fun r w'=>aI w w'∧r=.tuple #[B (jL L n).1,I ((jL L n).2:Int)])
 |0,_,hd,_,_,_,_,_,_,_,hl,hx,hy,hk,hp=>t5 (fun _ e=>by cases e) hl hx hy hk hp hd
 |L+1,d,hd,_,_,_,_,_,_,_,hl,hx,hy,hk,hp=>t5 (fun L' e _ _ _ _ _ _ _ h1 h2 h3 h4 h5=>by
   cases e
   exact t6 L (d+1) (by omega) h1 h2 h3 h4 h5) hl hx hy hk hp hd
theorem zN {w:World} {n:aP} {vl x y vk vp:Value} (hl:df eI n.lems vl w) (hx:bo n.split.at_.2.1 x w) (hy:bo n.split.at_.2.2 y w) (hk:df bM n.kids vk w) (hp:df dk n.pf vp w):
 Calls Tryz.prog 50 #[.agg #[vl,I n.split.kd,I n.split.ix,B n.split.at_.1,x,y,vk,B n.empty,vp]] w (bE fun r w'=>aI w w'∧r=B (fv n)):=by
 refine enter (vs:=[.agg #[vl,I n.split.kd,I n.split.ix,B n.split.at_.1,x,y,vk,B n.empty,vp]]) Tryz.func50 Ll Ll Ll ?_
 refine af (aa ?_)
 obtain⟨g1,w1,hr1,l1,x1,k1⟩:=dc (P:=Tryz.prog) (w:=w) (T:=83) (cs:=[vl,I n.split.kd,I n.split.ix,B n.split.at_.1,x,y,vk,B n.empty,vp])
 refine cL Ll Ll hr1 (ac Ll Ll (ag (ab (af (aa (am Ll Ll (k1.ld KM Ll (by kernel_rfl)) (an oP Ll Ll ((t6 2049 0 Ll (hl.ext x1) (hx.ext x1) (hy.ext x1) (hk.ext x1) (hp.ext x1))) ?_)))))))
 rintro v7 w7 ⟨x7,rfl⟩
 refine ae Ll Ll (ak Ll Ll (aT) (ak Ll Ll (aU) (ac Ll Ll (ac Ll Ll (ag (ab (af ?_)))))))
 have hv:=GD n
 rcases hb:(jL 2049 n).1 with _|_
 ·refine aa (ae Ll Ll (ae Ll Ll (ao Ll Ll Ll (ao Ll Ll Ll (aC Ll Ll Ll (ac Ll Ll (ag (ab (av (aG Ll Ll ?_))))))))))
  exact⟨_,rfl,(x1.trans x7),by rw[←hv,hb];rfl⟩
 ·refine aa (ae Ll Ll (ae Ll Ll (al Ll (ae Ll Ll (al Ll (ai Ll Ll Ll (wV) (aw Ll Ll Ll (ac Ll Ll (ag (ab (av (aG Ll Ll ?_))))))))))))
  exact⟨_,rfl,(x1.trans x7),by rw[←hv,hb,Bool.true_and];exact congrArg B (decide_eq_decide.2 (by omega))⟩
end Go.Rl
namespace Go.Rl
open Go.RowKit Go.Proofs
theorem vS {d:Nat} {m:Int} {n:aP} (h:m<1):j2 d m n=(0,false):=by rw[j2.eq_def];exact if_pos h
theorem zO {d:Nat} {m:Int} {n:aP} (h:¬m<1) (h0:n.kids.length=0):j2 d m n=(1,xP n.split):=by
 have:n.kids=[]:=List.eq_nil_of_length_eq_zero h0
 rw[j2.eq_def]
 simp only[if_neg h,this]
theorem iT {d:Nat} {m:Int} {n:aP} (hm:¬m<1) (h0:n.kids.length≠0) (h:n.kids.length≠2∨mY n=false∨d=0):j2 d m n=(0,false):=by
 rw[j2.eq_def]
 simp only[if_neg hm]
 generalize n.kids=ks at h0 h
 rcases ks with _|⟨x,_|⟨y,_|⟨z,t⟩⟩⟩
 ·exact absurd rfl h0
 ·rfl
 ·rcases h with h|h|h
  ·exact absurd rfl h
  ·simp[h]
  ·subst h
   simp
 ·rfl
theorem xY {d:Nat} {m:Int} {n x y:aP} (hm:¬m<1) (hk:n.kids=[x,y]) (hi:mY n=true):j2 (d+1) m n=if (j2 d (m-1) x).2=false then(0,false) else(1+(j2 d (m-1) x).1+(j2 d (m-1-(j2 d (m-1) x).1) y).1,(j2 d (m-1-(j2 d (m-1) x).1) y).2):=by
 rw[j2.eq_def]
 simp only[if_neg hm,hk,if_pos hi]
theorem GG {m A C:Int} (hm:¬m<1) (a:0≤A∧A≤max 0 (m-1)) (b:0≤C∧C≤max 0 (m-1-A)):0≤1+A+C∧1+A+C≤max 0 m:=by omega
theorem xZ:∀(d:Nat) (m:Int) (n:aP),0≤(j2 d m n).1∧(j2 d m n).1≤max 0 m
 |d,m,n=>by
  by_cases hm:m<1
  ·rw[vS hm];exact⟨Int.le_refl _,by show(0:Int)≤_;omega⟩
  ·by_cases h0:n.kids.length=0
   ·rw[zO hm h0];exact⟨by show(0:Int)≤1;omega,by show(1:Int)≤_;omega⟩
   ·by_cases hb:n.kids.length≠2∨mY n=false∨d=0
    ·rw[iT hm h0 hb];exact⟨Int.le_refl _,by show(0:Int)≤_;omega⟩
    ·simp only[not_or,Bool.not_eq_false] at hb
     obtain⟨h2,hi,hd⟩:=hb
     obtain⟨d',rfl⟩:∃d',d=d'+1:=⟨d-1,by omega⟩
     rw[xY hm (t0 (by omega)) hi]
     split
     ·exact⟨Int.le_refl _,by show(0:Int)≤_;omega⟩
     ·have a:=xZ d' (m-1) (n.kids[0]'(by omega))
      have b:=xZ d' (m-1-(j2 d' (m-1) (n.kids[0]'(by omega))).1) (n.kids[1]'(by omega))
      exact GG hm a b
theorem t7 {w:World} {n:aP} {d:Nat} {m:Int} {vl x y vk vp:Value} (ih:∀d',d=d'+1→∀{w:World} {n:aP} {m:Int} {vl x y vk vp:Value},0≤m→m≤65536→df eI n.lems vl w→bo n.split.at_.2.1 x w→bo n.split.at_.2.2 y w→df bM n.kids vk w→df dk n.pf vp w→
 Calls Tryz.prog 114 #[.agg #[vl,I n.split.kd,I n.split.ix,B n.split.at_.1,x,y,vk,B n.empty,vp],I (d':Int),I m] w (bE fun r w'=>aI w w'∧r=.tuple #[I (j2 d' m n).1,B (j2 d' m n).2]))
 (hd:d≤2048) (hm0:0≤m) (hm1:m≤65536) (hl:df eI n.lems vl w) (hx:bo n.split.at_.2.1 x w) (hy:bo n.split.at_.2.2 y w) (hk:df bM n.kids vk w) (hp:df dk n.pf vp w):
 Calls Tryz.prog 114 #[.agg #[vl,I n.split.kd,I n.split.ix,B n.split.at_.1,x,y,vk,B n.empty,vp],I (d:Int),I m] w (bE fun r w'=>aI w w'∧r=.tuple #[I (j2 d m n).1,B (j2 d m n).2]):=by
 refine enter (vs:=[.agg #[vl,I n.split.kd,I n.split.ix,B n.split.at_.1,x,y,vk,B n.empty,vp],I (d:Int),I m]) Tryz.func114 Ll Ll Ll ?_
 have hl2:=hl
 refine af (aa ?_)
 obtain⟨g3,w3,hr3,l3,x3,k3⟩:=dc (P:=Tryz.prog) (w:=w) (T:=83) (cs:=[vl,I n.split.kd,I n.split.ix,B n.split.at_.1,x,y,vk,B n.empty,vp])
 refine cL Ll Ll hr3 (ac Ll Ll (ac Ll Ll (ag (ab (af (af (aa (ae Ll Ll (ai Ll Ll Ll (aW) (ag (ab ?_)))))))))))
 refine bi Ll (fun h12=>?_) (fun h12=>?_)
 ·have hm:m<1:=h12
  refine af (aa (ac Ll Ll (ac Ll Ll (ag (ab (av (au (aM Ll Ll Ll ?_))))))))
  exact⟨_,rfl,x3,by rw[vS hm]<;>rfl⟩
 ·have hm:¬m<1:=h12
  refine ar (ab (af (af (aa (ah Ll Ll (aF (o:=6) KM Ll (by kernel_rfl) Ll) (am Ll Ll (aj KR Ll (k3.cell (i:=6) Ll)) ?_))))))
  refine aQ Ll Ll (bR KR (hk.ext x3)) (ai Ll Ll Ll (aZ) (ag (ab ?_)))
  refine bi Ll (fun h16=>?_) (fun h16=>?_)
  ·have h0:n.kids.length=0:=by omega
   refine af (aa (ah rfl rfl (aF (o:=1) Tryz.underlying83 rfl (by kernel_rfl) rfl) (am rfl rfl (k3.ldO (ms:=[I n.split.kd,I n.split.ix,B n.split.at_.1,x,y]) (o:=1) (fun j v hj=>by rcases j with _|_|_|_|_|_|_|_|_|j<;>simp_all) Tryz.underlying80 rfl (by kernel_rfl)) ?_)))
   refine bm (vs:=[]) (r:=.agg #[I 0,I 0,B false,.slice none 0 0,.slice none 0 0]) Ll Ll (by exact run_build _ _ _ _ (by kernel_rfl)) (an xT Ll Ll ((xV (a:=n.split) (b:=uN) (hx.ext x3) (hy.ext x3) (Sl.nil _ _) (Sl.nil _ _))) ?_)
   rintro v20 w20 ⟨x20,rfl⟩
   refine ac Ll Ll (ac Ll Ll (ag (ab (av (au (aM Ll Ll Ll ?_))))))
   exact⟨_,rfl,(x3.trans x20),by rw[zO hm h0,CT];rfl⟩
  ·have h0:n.kids.length≠0:=by omega
   refine ar (ab (af (af ?_)))
   have hl2:=hl.ext x3
   have hx2:=hx.ext x3
   have hy2:=hy.ext x3
   have hk2:=hk.ext x3
   have hp2:=hp.ext x3
   rcases hem:n.empty with _|_
   ·have kf:=k3
    rw[hem] at kf
    refine aa (ah Ll Ll (aF (o:=6) KM Ll (by kernel_rfl) Ll) (am Ll Ll (aj KR Ll (kf.cell (i:=6) Ll)) ?_))
    refine aQ Ll Ll (bR KR hk2) (ai Ll Ll Ll (bL) (ae Ll Ll ?_))
    refine cO (fun h25=>?_) (fun h25=>?_)
    ·refine ao Ll Ll Ll (ao Ll Ll Ll (ao Ll Ll Ll (ao Ll Ll Ll (aw Ll Ll Ll (ae Ll Ll (ao Ll Ll Ll (ao Ll Ll Ll (ao Ll Ll Ll (ao Ll Ll Ll ?_)))))))))
     refine aw Ll Ll Ll (ae Ll Ll (ao Ll Ll Ll (ao Ll Ll Ll (aw Ll Ll Ll (ae Ll Ll (ao Ll Ll Ll (ao Ll Ll Ll (ao Ll Ll Ll (ao Ll Ll Ll ?_)))))))))
     refine aw Ll Ll Ll (ae Ll Ll (ao Ll Ll Ll (ao Ll Ll Ll (aw Ll Ll Ll (ag (ab (bB Ll (af (aa (ac Ll Ll (ac Ll Ll ?_)))))))))))
     refine ag (ab (av (au (aM Ll Ll Ll ?_))))
     exact⟨_,rfl,x3,by
      rw[iT hm h0 (by
       first
       |exact .inl (by omega)
       |exact .inr (.inr (by omega))
       |exact .inr (.inl (fX fun⟨a1,a2,a3,a4⟩=>by
         first
         |omega
         |(rw[hem] at a3;cases a3))))]<;>rfl⟩
    ·refine al Ll (ah Ll Ll (aF (o:=1) KM Ll (by kernel_rfl) Ll) (al Ll (ah Ll Ll (jI (b:=1) (o:=0) KT Ll (by kernel_rfl) Ll) ?_)))
     refine al Ll (am Ll Ll (aj KO Ll (kf.cell (i:=1) Ll)) (al Ll (ai Ll Ll Ll (aW) (aC Ll Ll Ll (ae Ll Ll ?_)))))
     refine cO (fun h31=>?_) (fun h31=>?_)
     ·refine ao Ll Ll Ll (ao Ll Ll Ll (ao Ll Ll Ll (ao Ll Ll Ll (aw Ll Ll Ll (ae Ll Ll (ao Ll Ll Ll (ao Ll Ll Ll (aw Ll Ll Ll (ae Ll Ll ?_)))))))))
      refine ao Ll Ll Ll (ao Ll Ll Ll (ao Ll Ll Ll (ao Ll Ll Ll (aw Ll Ll Ll (ae Ll Ll (ao Ll Ll Ll (ao Ll Ll Ll (aw Ll Ll Ll (ag ?_)))))))))
      refine ab (bB Ll (af (aa (ac Ll Ll (ac Ll Ll (ag (ab (av (au (aM Ll Ll Ll ?_))))))))))
      exact⟨_,rfl,x3,by
       rw[iT hm h0 (by
        first
        |exact .inl (by omega)
        |exact .inr (.inr (by omega))
        |exact .inr (.inl (fX fun⟨a1,a2,a3,a4⟩=>by
          first
          |omega
          |(rw[hem] at a3;cases a3))))]<;>rfl⟩
     ·refine al Ll (ah Ll Ll (aF (o:=1) KM Ll (by kernel_rfl) Ll) (al Ll (ah Ll Ll (jI (b:=1) (o:=0) KT Ll (by kernel_rfl) Ll) ?_)))
      refine al Ll (am Ll Ll (aj KO Ll (kf.cell (i:=1) Ll)) (al Ll (ai Ll Ll Ll (ck) (aC Ll Ll Ll (ae Ll Ll ?_)))))
      refine cO (fun h37=>?_) (fun h37=>?_)
      ·refine ao Ll Ll Ll (ao Ll Ll Ll (aw Ll Ll Ll (ae Ll Ll (ao Ll Ll Ll (ao Ll Ll Ll (ao Ll Ll Ll (ao Ll Ll Ll (aw Ll Ll Ll (ae Ll Ll ?_)))))))))
       refine ao Ll Ll Ll (ao Ll Ll Ll (aw Ll Ll Ll (ag (ab (bB Ll (af (aa (ac Ll Ll (ac Ll Ll (ag (ab (av (au (aM Ll Ll Ll ?_))))))))))))))
       exact⟨_,rfl,x3,by
        rw[iT hm h0 (by
         first
         |exact .inl (by omega)
         |exact .inr (.inr (by omega))
         |exact .inr (.inl (fX fun⟨a1,a2,a3,a4⟩=>by
           first
           |omega
           |(rw[hem] at a3;cases a3))))]<;>rfl⟩
      ·refine al Ll (ah Ll Ll (aF (o:=7) KM Ll (by kernel_rfl) Ll) (al Ll (am Ll Ll (aj KU Ll (kf.cell (i:=7) Ll)) ?_)))
       refine aC Ll Ll Ll (ae Ll Ll (al Ll (ah Ll Ll (aF (o:=8) KM Ll (by kernel_rfl) Ll) (al Ll (am Ll Ll (aj KW Ll (kf.cell (i:=8) Ll)) ?_)))))
       refine al Ll (aQ Ll Ll (bR KW hp2) (al Ll (ai Ll Ll Ll (ck) (aC Ll Ll Ll (ae Ll Ll ?_)))))
       refine cO (fun h47=>?_) (fun h47=>?_)
       ·refine ao Ll Ll Ll (ao Ll Ll Ll (aw Ll Ll Ll (ag (ab (bB Ll (af (aa (ac Ll Ll (ac Ll Ll (ag (ab (av (au (aM Ll Ll Ll ?_))))))))))))))
        exact⟨_,rfl,x3,by
         rw[iT hm h0 (by
          first
          |exact .inl (by omega)
          |exact .inr (.inr (by omega))
          |exact .inr (.inl (fX fun⟨a1,a2,a3,a4⟩=>by
            first
            |omega
            |(rw[hem] at a3;cases a3))))]<;>rfl⟩
       ·refine al Ll (ae Ll Ll (al Ll (ai Ll Ll Ll (aZ) (aC Ll Ll Ll (ag (ab ?_))))))
        refine bi Ll (fun h50=>?_) (fun h50=>?_)
        ·refine af (aa (ac Ll Ll (ac Ll Ll (ag (ab (av (au (aM Ll Ll Ll ?_))))))))
         exact⟨_,rfl,x3,by
          rw[iT hm h0 (by
           first
           |exact .inl (by omega)
           |exact .inr (.inr (by omega))
           |exact .inr (.inl (fX fun⟨a1,a2,a3,a4⟩=>by
             first
             |omega
             |(rw[hem] at a3;cases a3))))]<;>rfl⟩
        ·refine ar (ab (af ?_))
         have hk2n:n.kids.length=2:=by omega
         have hks:=t0 hk2n
         have hi:=CU (n:=n) (by omega) (by omega) hem (by omega)
         obtain⟨d',rfl⟩:∃d',d=d'+1:=⟨d-1,by omega⟩
         refine aa (ah Ll Ll (aF (o:=6) KM Ll (by kernel_rfl) Ll) (am Ll Ll (aj KR Ll (kf.cell (i:=6) Ll)) ?_))
         obtain⟨a54,c54,p54,q54,h54⟩:=dN (P:=Tryz.prog) (sz:=9) KR (by kernel_rfl) bD (by omega) hk2 (i:=0) (by omega) .i64
         obtain⟨e54,he54⟩:∃e,e=n.kids[0]'(by omega):=⟨_,rfl⟩
         rw[←he54] at h54
         obtain⟨x54_0,x54_1,x54_2,x54_3,x54_4,rfl,f54_0,f54_1,f54_2,f54_3,f54_4⟩:=dY h54
         refine aA Ll Ll Ll (p54 _) (am Ll Ll (q54.ld KM Ll (by kernel_rfl)) (ae Ll Ll (ai (r:=I (d':Int)) Ll Ll Ll ((by have e:((d':Nat):Int)=((d'+1:Nat):Int)-1:=(by omega);rw[e];exact bg (by omega) (by omega))) ?_)))
         refine ae Ll Ll (ai (r:=I (m-1)) Ll Ll Ll (bg (by omega) (by omega)) (an j3 Ll Ll ((ih d' Ll (by omega) (by omega) f54_0 f54_1 f54_2 f54_3 f54_4)) ?_))
         rintro v60 w60 ⟨x60,rfl⟩
         have hb1:=xZ d' (m-1) e54
         refine ae Ll Ll (ak Ll Ll (aT) (ak Ll Ll (aU) (ac Ll Ll (ac Ll Ll (ag (ab (af (af ?_))))))))
         have hz:=xR d' (m-1) e54
         rcases hb:(j2 d' (m-1) e54).2 with _|_
         ·refine aa (ae Ll Ll (bI Ll Ll bK (ag (ab (bB Ll (af (aa (ac Ll Ll (ac Ll Ll (ag (ab (av (au (aM Ll Ll Ll ?_))))))))))))))
          exact⟨_,rfl,(x3.trans x60),by rw[xY hm hks hi,←he54,if_pos hb]<;>rfl⟩
         ·refine aa (ae Ll Ll (bI Ll Ll bK (ag (ab (cp Ll (ar (ab (af (aa (ah Ll Ll (aF (o:=6) KM Ll (by kernel_rfl) Ll) ?_))))))))))
          refine am Ll Ll (aj KR Ll (x60.cell_some (kf.cell (i:=6) Ll))) ?_
          obtain⟨a68,c68,p68,q68,h68⟩:=dN (P:=Tryz.prog) (sz:=9) KR (by kernel_rfl) bD (by omega) (hk2.ext x60) (i:=1) (by omega) .i64
          obtain⟨e68,he68⟩:∃e,e=n.kids[1]'(by omega):=⟨_,rfl⟩
          rw[←he68] at h68
          obtain⟨x68_0,x68_1,x68_2,x68_3,x68_4,rfl,f68_0,f68_1,f68_2,f68_3,f68_4⟩:=dY h68
          refine aA Ll Ll Ll (p68 _) (am Ll Ll (q68.ld KM Ll (by kernel_rfl)) (ae Ll Ll (ai (r:=I (d':Int)) Ll Ll Ll ((by have e:((d':Nat):Int)=((d'+1:Nat):Int)-1:=(by omega);rw[e];exact bg (by omega) (by omega))) ?_)))
          refine ae Ll Ll (ai (r:=I (m-1)) Ll Ll Ll (bg (by omega) (by omega)) (ae Ll Ll (ai (r:=I (m-1-(j2 d' (m-1) e54).1)) Ll Ll Ll (bg (by omega) (by omega)) ?_)))
          refine an j3 Ll Ll ((ih d' Ll (by omega) (by omega) f68_0 f68_1 f68_2 f68_3 f68_4)) ?_
          rintro v76 w76 ⟨x76,rfl⟩
          have hb2:=xZ d' (m-1-(j2 d' (m-1) e54).1) e68
          refine ae Ll Ll (ak Ll Ll (aT) (ak Ll Ll (aU) (ac Ll Ll (ac Ll Ll (ag (ab (af (aa (ae Ll Ll (ai (r:=I (1+(j2 d' (m-1) e54).1)) Ll Ll Ll (aK (by omega) (by omega)) ?_))))))))))
          refine ae Ll Ll (ai (r:=I (1+(j2 d' (m-1) e54).1+(j2 d' (m-1-(j2 d' (m-1) e54).1) e68).1)) Ll Ll Ll (aK (by omega) (by omega)) ?_)
          refine ae Ll Ll (ac Ll Ll (ac Ll Ll (ag (ab (av (aM Ll Ll Ll ?_))))))
          exact⟨_,rfl,((x3.trans x60).trans x76),by rw[xY hm hks hi,←he54,←he68,if_neg (by rw[hb];simp)]⟩
   ·have kf:=k3
    rw[hem] at kf
    refine aa (ah Ll Ll (aF (o:=6) KM Ll (by kernel_rfl) Ll) (am Ll Ll (aj KR Ll (kf.cell (i:=6) Ll)) ?_))
    refine aQ Ll Ll (bR KR hk2) (ai Ll Ll Ll (bL) (ae Ll Ll ?_))
    refine cO (fun h25=>?_) (fun h25=>?_)
    ·refine ao Ll Ll Ll (ao Ll Ll Ll (ao Ll Ll Ll (ao Ll Ll Ll (aw Ll Ll Ll (ae Ll Ll (ao Ll Ll Ll (ao Ll Ll Ll (ao Ll Ll Ll (ao Ll Ll Ll ?_)))))))))
     refine aw Ll Ll Ll (ae Ll Ll (ao Ll Ll Ll (ao Ll Ll Ll (aw Ll Ll Ll (ae Ll Ll (ao Ll Ll Ll (ao Ll Ll Ll (ao Ll Ll Ll (ao Ll Ll Ll ?_)))))))))
     refine aw Ll Ll Ll (ae Ll Ll (ao Ll Ll Ll (ao Ll Ll Ll (aw Ll Ll Ll (ag (ab (bB Ll (af (aa (ac Ll Ll (ac Ll Ll ?_)))))))))))
     refine ag (ab (av (au (aM Ll Ll Ll ?_))))
     exact⟨_,rfl,x3,by
      rw[iT hm h0 (by
       first
       |exact .inl (by omega)
       |exact .inr (.inr (by omega))
       |exact .inr (.inl (fX fun⟨a1,a2,a3,a4⟩=>by
         first
         |omega
         |(rw[hem] at a3;cases a3))))]<;>rfl⟩
    ·refine al Ll (ah Ll Ll (aF (o:=1) KM Ll (by kernel_rfl) Ll) (al Ll (ah Ll Ll (jI (b:=1) (o:=0) KT Ll (by kernel_rfl) Ll) ?_)))
     refine al Ll (am Ll Ll (aj KO Ll (kf.cell (i:=1) Ll)) (al Ll (ai Ll Ll Ll (aW) (aC Ll Ll Ll (ae Ll Ll ?_)))))
     refine cO (fun h31=>?_) (fun h31=>?_)
     ·refine ao Ll Ll Ll (ao Ll Ll Ll (ao Ll Ll Ll (ao Ll Ll Ll (aw Ll Ll Ll (ae Ll Ll (ao Ll Ll Ll (ao Ll Ll Ll (aw Ll Ll Ll (ae Ll Ll ?_)))))))))
      refine ao Ll Ll Ll (ao Ll Ll Ll (ao Ll Ll Ll (ao Ll Ll Ll (aw Ll Ll Ll (ae Ll Ll (ao Ll Ll Ll (ao Ll Ll Ll (aw Ll Ll Ll (ag ?_)))))))))
      refine ab (bB Ll (af (aa (ac Ll Ll (ac Ll Ll (ag (ab (av (au (aM Ll Ll Ll ?_))))))))))
      exact⟨_,rfl,x3,by
       rw[iT hm h0 (by
        first
        |exact .inl (by omega)
        |exact .inr (.inr (by omega))
        |exact .inr (.inl (fX fun⟨a1,a2,a3,a4⟩=>by
          first
          |omega
          |(rw[hem] at a3;cases a3))))]<;>rfl⟩
     ·refine al Ll (ah Ll Ll (aF (o:=1) KM Ll (by kernel_rfl) Ll) (al Ll (ah Ll Ll (jI (b:=1) (o:=0) KT Ll (by kernel_rfl) Ll) ?_)))
      refine al Ll (am Ll Ll (aj KO Ll (kf.cell (i:=1) Ll)) (al Ll (ai Ll Ll Ll (ck) (aC Ll Ll Ll (ae Ll Ll ?_)))))
      refine cO (fun h37=>?_) (fun h37=>?_)
      ·refine ao Ll Ll Ll (ao Ll Ll Ll (aw Ll Ll Ll (ae Ll Ll (ao Ll Ll Ll (ao Ll Ll Ll (ao Ll Ll Ll (ao Ll Ll Ll (aw Ll Ll Ll (ae Ll Ll ?_)))))))))
       refine ao Ll Ll Ll (ao Ll Ll Ll (aw Ll Ll Ll (ag (ab (bB Ll (af (aa (ac Ll Ll (ac Ll Ll (ag (ab (av (au (aM Ll Ll Ll ?_))))))))))))))
       exact⟨_,rfl,x3,by
        rw[iT hm h0 (by
         first
         |exact .inl (by omega)
         |exact .inr (.inr (by omega))
         |exact .inr (.inl (fX fun⟨a1,a2,a3,a4⟩=>by
           first
           |omega
           |(rw[hem] at a3;cases a3))))]<;>rfl⟩
      ·refine al Ll (ah Ll Ll (aF (o:=7) KM Ll (by kernel_rfl) Ll) (al Ll (am Ll Ll (aj KU Ll (kf.cell (i:=7) Ll)) ?_)))
       refine aC Ll Ll Ll (ae Ll Ll (ao Ll Ll Ll (ao Ll Ll Ll (ao Ll Ll Ll (ao Ll Ll Ll (aw Ll Ll Ll (ae Ll Ll (ao Ll Ll Ll (ao Ll Ll Ll ?_)))))))))
       refine aw Ll Ll Ll (ag (ab (bB Ll (af (aa (ac Ll Ll (ac Ll Ll (ag (ab (av (au (aM Ll Ll Ll ?_))))))))))))
       exact⟨_,rfl,x3,by
        rw[iT hm h0 (by
         first
         |exact .inl (by omega)
         |exact .inr (.inr (by omega))
         |exact .inr (.inl (fX fun⟨a1,a2,a3,a4⟩=>by
           first
           |omega
           |(rw[hem] at a3;cases a3))))]<;>rfl⟩
theorem t8:∀(d:Nat),d≤2048→∀{w:World} {n:aP} {m:Int} {vl x y vk vp:Value},0≤m→m≤65536→df eI n.lems vl w→bo n.split.at_.2.1 x w→bo n.split.at_.2.2 y w→df bM n.kids vk w→df dk n.pf vp w→
 Calls Tryz.prog 114 #[.agg #[vl,I n.split.kd,I n.split.ix,B n.split.at_.1,x,y,vk,B n.empty,vp],I (d:Int),I m] w (bE fun r w'=>aI w w'∧r=.tuple #[I (j2 d m n).1,B (j2 d m n).2])
 |0,hd,_,_,_,_,_,_,_,_,h0,h1,hl,hx,hy,hk,hp=>t7 (fun _ e=>by cases e) hd h0 h1 hl hx hy hk hp
 |d+1,hd,_,_,_,_,_,_,_,_,h0,h1,hl,hx,hy,hk,hp=>t7 (fun d' e _ _ _ _ _ _ _ _ a0 a1 b1 b2 b3 b4 b5=>by
   cases e
   exact t8 d (by omega) a0 a1 b1 b2 b3 b4 b5) hd h0 h1 hl hx hy hk hp
theorem qR {w:World} {n:aP} {vl x y vk vp:Value} (hl:df eI n.lems vl w) (hx:bo n.split.at_.2.1 x w) (hy:bo n.split.at_.2.2 y w) (hk:df bM n.kids vk w) (hp:df dk n.pf vp w):
 Calls Tryz.prog 55 #[.agg #[vl,I n.split.kd,I n.split.ix,B n.split.at_.1,x,y,vk,B n.empty,vp]] w (bE fun r w'=>aI w w'∧r=B (fv n)):=by
 refine enter (vs:=[.agg #[vl,I n.split.kd,I n.split.ix,B n.split.at_.1,x,y,vk,B n.empty,vp]]) Tryz.func55 Ll Ll Ll ?_
 refine af (aa ?_)
 obtain⟨g1,w1,hr1,l1,x1,k1⟩:=dc (P:=Tryz.prog) (w:=w) (T:=83) (cs:=[vl,I n.split.kd,I n.split.ix,B n.split.at_.1,x,y,vk,B n.empty,vp])
 refine cL Ll Ll hr1 (ac Ll Ll (ag (ab (af (aa (am Ll Ll (k1.ld KM Ll (by kernel_rfl)) (an j3 Ll Ll ((t8 2048 (Nat.le_refl _) (m:=65536) (by omega) (by omega) (hl.ext x1) (hx.ext x1) (hy.ext x1) (hk.ext x1) (hp.ext x1))) ?_)))))))
 rintro v7 w7 ⟨x7,rfl⟩
 refine ae Ll Ll (ak Ll Ll (aT) (ak Ll Ll (aU) (ac Ll Ll (ac Ll Ll (ag (ab (af (aa (ae Ll Ll (ac Ll Ll ?_))))))))))
 refine ag (ab (av (aG Ll Ll ?_)))
 exact⟨_,rfl,(x1.trans x7),by rw[GC n]⟩
end Go.Rl
namespace Go.Rl
open Go.RowKit
def lJ (q:fQ):Bool:=rv q.1 q.2.1 q.2.2
def ya (l:List dl):Bool:=l.all fun m=>lJ m.co
def oQ (l:fB):Bool:=lJ l.va&&ya l.pf
mutual
def i0:aP→Bool
 |.mk lems sp kids _ pf=>ya pf&&lJ sp.at_&&lems.all oQ&&pL kids
def pL:List aP→Bool
 |[]=>true
 |n::l=>i0 n&&pL l
end
theorem Ew:∀l:List aP,pL l=l.all i0
 |[]=>rfl
 |n::l=>by simp only[pL,List.all_cons,Ew l]
def wMu (m:dl):Prop:=nE m.kd∧nE m.ix∧nE m.lo∧nE m.hi
def wP (l:List dl):Prop:=∀m∈l,wMu m
def Kn (l:fB):Prop:=nE l.un∧wP l.pf
def wD (d:ew):Prop:=nE d.kd∧nE d.ix
mutual
def wN:aP→Prop
 |.mk lems sp kids _ pf=>(∀l∈lems,Kn l)∧wD sp∧wP pf∧IT kids
def IT:List aP→Prop
 |[]=>True
 |n::l=>wN n∧IT l
end
theorem CV:∀l:List aP,IT l↔∀n∈l,wN n
 |[]=>by simp[IT]
 |n::l=>by simp only[IT,CV l,List.mem_cons,forall_eq_or_imp]
theorem Jv (n:aP):wN n↔(∀l∈n.lems,Kn l)∧wD n.split∧wP n.pf∧∀k∈n.kids,wN k:=by
 cases n with
 |mk l s k e p=>simp only[wN,CV];rfl
theorem GH (n:aP):dO n=if n.kids.length=0 then Gj n.empty++iK n.lems++tK n.pf else[2]++iK n.lems++tJ n.split++n.kids.flatMap dO:=by
 cases n with
 |mk l s k e p=>
  cases k with
  |nil=>simp[dO,aP.kids,aP.empty,aP.lems,aP.pf]
  |cons k ks=>simp[dO,aP.kids,aP.lems,aP.split,tM]
theorem lK {l t:List UInt8} {n:Int} (h:mm l=some (n,t)):l=gA n++t∧nE n:=by
 refine⟨?_,xD (st:=some l) (t:=t) h⟩
 unfold mm at h
 obtain⟨p,h1,h2⟩:=Option.map_eq_some_iff.1 h
 simp only[Prod.mk.injEq] at h2
 obtain⟨h3,h4⟩:=ee h1
 rw[←h2.1,←h2.2,gA,Jk]
 exact h3
theorem sy {l t:List UInt8} {q:fQ} (h:j6 l=some (q,t)):l=mR q++t∧lJ q=true:=by
 obtain⟨b,n,m⟩:=q
 have:=CM h
 exact⟨this.1,this.2.1⟩
section
variable {α:Type} {f:List UInt8→Option (α×List UInt8)} {e:α→List UInt8} {Q:α→Prop}
theorem t9 (hf:∀l a t,f l=some (a,t)→l=e a++t∧Q a):∀(n:Nat) (l:List UInt8) (xs:List α) (t:List UInt8),cr f n l=some (xs,t)→l=xs.flatMap e++t∧xs.length=n∧∀x∈xs,Q x
 |0,l,xs,t,h=>by
  simp only[cr,Option.some.injEq,Prod.mk.injEq] at h
  obtain⟨rfl,rfl⟩:=h
  exact⟨rfl,rfl,fun _ h=>by simp at h⟩
 |n+1,l,xs,t,h=>by
  simp only[cr] at h
  obtain⟨p,h1,h2⟩:=Option.bind_eq_some_iff.1 h
  obtain⟨q,h3,h4⟩:=Option.map_eq_some_iff.1 h2
  simp only[Prod.mk.injEq] at h4
  obtain⟨rfl,rfl⟩:=h4
  obtain⟨a1,a2⟩:=hf l p.1 p.2 h1
  obtain⟨b1,b2,b3⟩:=t9 hf n p.2 q.1 q.2 h3
  refine⟨?_,by simp[b2],fun x hx=>?_⟩
  ·rw[List.flatMap_cons,List.append_assoc,←b1];exact a1
  ·rcases List.mem_cons.1 hx with rfl|hx
   ·exact a2
   ·exact b3 x hx
theorem oR (hf:∀l a t,f l=some (a,t)→l=e a++t∧Q a) {l t:List UInt8} {xs:List α} (h:gC f l=some (xs,t)):l=uv xs.length++xs.flatMap e++t∧xs.length<18446744073709551616∧∀x∈xs,Q x:=by
 unfold gC at h
 obtain⟨p,h1,h2⟩:=Option.bind_eq_some_iff.1 h
 obtain⟨a1,a2⟩:=ee (l:=l) (n:=p.1) (t:=p.2) h1
 obtain⟨b1,b2,b3⟩:=t9 hf _ _ _ _ h2
 refine⟨?_,by omega,b3⟩
 rw[b2,List.append_assoc,←b1]
 exact a1
end
theorem CW {k n:Nat} {l t:List UInt8} (h:pC k l=some (n,t)):l=uv n++t∧n≤k:=by
 unfold pC at h
 obtain⟨p,h1,h2⟩:=Option.bind_eq_some_iff.1 h
 split at h2
 ·simp only[Option.some.injEq] at h2
  subst h2
  exact⟨(ee h1).1,by assumption⟩
 ·cases h2
theorem zP {n:Nat} (h:n≤1):uv n=Gj (gT n):=by
 rw[ii (by omega)]
 rcases Nat.le_one_iff_eq_zero_or_eq_one.1 h with rfl|rfl<;>rfl
theorem H8 {l t:List UInt8} {d:ew} (h:xG l=some (d,t)):l=tJ d++t∧(lJ d.at_=true∧wD d):=by
 unfold xG at h
 obtain⟨p1,h1,h⟩:=Option.bind_eq_some_iff.1 h
 obtain⟨p2,h2,h⟩:=Option.bind_eq_some_iff.1 h
 obtain⟨p3,h3,h⟩:=Option.bind_eq_some_iff.1 h
 simp only[Option.some.injEq,Prod.mk.injEq] at h
 obtain⟨rfl,rfl⟩:=h
 have a1:=lK (n:=p1.1) (t:=p1.2) h1
 have a2:=lK (n:=p2.1) (t:=p2.2) h2
 have a3:=sy (q:=p3.1) (t:=p3.2) h3
 refine⟨?_,a3.2,a1.2,a2.2⟩
 show l=gA p1.1++gA p2.1++mR p3.1++p3.2
 rw[List.append_assoc,List.append_assoc,←a3.1,←a2.1,←a1.1]
theorem GI {l t:List UInt8} {d:dl} (h:qK l=some (d,t)):l=rB d++t∧(lJ d.co=true∧wMu d):=by
 unfold qK at h
 obtain⟨p1,h1,h⟩:=Option.bind_eq_some_iff.1 h
 obtain⟨p2,h2,h⟩:=Option.bind_eq_some_iff.1 h
 obtain⟨p3,h3,h⟩:=Option.bind_eq_some_iff.1 h
 obtain⟨p4,h4,h⟩:=Option.bind_eq_some_iff.1 h
 obtain⟨p5,h5,h⟩:=Option.bind_eq_some_iff.1 h
 simp only[Option.some.injEq,Prod.mk.injEq] at h
 obtain⟨rfl,rfl⟩:=h
 have a1:=lK (n:=p1.1) (t:=p1.2) h1
 have a2:=lK (n:=p2.1) (t:=p2.2) h2
 have a3:=lK (n:=p3.1) (t:=p3.2) h3
 have a4:=lK (n:=p4.1) (t:=p4.2) h4
 have a5:=sy (q:=p5.1) (t:=p5.2) h5
 refine⟨?_,a5.2,a1.2,a2.2,a3.2,a4.2⟩
 show l=gA p1.1++gA p2.1++gA p3.1++gA p4.1++mR p5.1++p5.2
 rw[List.append_assoc,List.append_assoc,List.append_assoc,List.append_assoc,←a5.1,←a4.1,←a3.1,←a2.1,←a1.1]
theorem CX {l t:List UInt8} {xs:List dl} (h:uO l=some (xs,t)):l=tK xs++t∧xs.length<18446744073709551616∧ya xs=true∧wP xs:=by
 obtain⟨h1,h2,h3⟩:=oR (fun l a t h=>GI h) h
 exact⟨h1,h2,List.all_eq_true.2 fun m hm=>(h3 m hm).1,fun m hm=>(h3 m hm).2⟩
theorem GJ {l t:List UInt8} {m:fB} (h:mq l=some (m,t)):l=mV m++t∧(oQ m=true∧Kn m∧m.pf.length<18446744073709551616):=by
 unfold mq at h
 obtain⟨p1,h1,h⟩:=Option.bind_eq_some_iff.1 h
 obtain⟨p2,h2,h⟩:=Option.bind_eq_some_iff.1 h
 obtain⟨p3,h3,h⟩:=Option.bind_eq_some_iff.1 h
 obtain⟨p4,h4,h⟩:=Option.bind_eq_some_iff.1 h
 simp only[Option.some.injEq,Prod.mk.injEq] at h
 obtain⟨rfl,rfl⟩:=h
 have a1:=lK (n:=p1.1) (t:=p1.2) h1
 have a2:=CW (n:=p2.1) (t:=p2.2) h2
 have a3:=sy (q:=p3.1) (t:=p3.2) h3
 have a4:=CX (xs:=p4.1) (t:=p4.2) h4
 refine⟨?_,by simp only[oQ,Bool.and_eq_true];exact⟨a3.2,a4.2.2.1⟩,⟨a1.2,a4.2.2.2⟩,a4.2.1⟩
 show l=gA p1.1++Gj (gT p2.1)++mR p3.1++tK p4.1++p4.2
 rw[List.append_assoc,List.append_assoc,List.append_assoc,←a4.1,←a3.1,←zP a2.2,←a2.1,←a1.1]
theorem Ex {l t:List UInt8} {xs:List fB} (h:fW l=some (xs,t)):l=iK xs++t∧xs.length<18446744073709551616∧xs.all oQ=true∧(∀m∈xs,Kn m):=by
 obtain⟨h1,h2,h3⟩:=oR (fun l a t h=>GJ h) h
 exact⟨h1,h2,List.all_eq_true.2 fun m hm=>(h3 m hm).1,fun m hm=>(h3 m hm).2.1⟩
theorem ua:∀(k:Nat) (l t:List UInt8) (n:aP),nR k l=some (n,t)→l=dO n++t∧(i0 n=true∧wN n∧(n.kids.length=0∨n.kids.length=2))
 |0,_,_,_,h=>by cases h
 |k+1,l,t,n,h=>by
  simp only[nR] at h
  obtain⟨p1,h1,h⟩:=Option.bind_eq_some_iff.1 h
  obtain⟨p2,h2,h⟩:=Option.bind_eq_some_iff.1 h
  have a1:=CW (n:=p1.1) (t:=p1.2) h1
  have a2:=Ex (xs:=p2.1) (t:=p2.2) h2
  split at h
  ·rename_i hk
   obtain⟨p3,h3,h⟩:=Option.bind_eq_some_iff.1 h
   simp only[Option.some.injEq,Prod.mk.injEq] at h
   obtain⟨rfl,rfl⟩:=h
   have a3:=CX (xs:=p3.1) (t:=p3.2) h3
   refine⟨?_,?_,?_,.inl rfl⟩
   ·simp only[dO]
    rw[List.append_assoc,List.append_assoc,←a3.1,←a2.1,show decide (p1.1=1)=gT p1.1 from rfl,←zP (by omega),←a1.1]
   ·simp only[i0,pL,a3.2.2.1,a2.2.2.1,uN,Kk]
    decide
   ·simp only[wN,IT,and_true]
    exact⟨a2.2.2.2,⟨by show nE 0;unfold nE;omega,by show nE 0;unfold nE;omega⟩,a3.2.2.2⟩
  ·rename_i hk
   obtain⟨p3,h3,h⟩:=Option.bind_eq_some_iff.1 h
   obtain⟨p4,h4,h⟩:=Option.bind_eq_some_iff.1 h
   obtain⟨p5,h5,h⟩:=Option.bind_eq_some_iff.1 h
   simp only[Option.some.injEq,Prod.mk.injEq] at h
   obtain⟨rfl,rfl⟩:=h
   have a3:=H8 (d:=p3.1) (t:=p3.2) h3
   have a4:=ua k _ p4.2 p4.1 h4
   have a5:=ua k _ p5.2 p5.1 h5
   have h2:p1.1=2:=by omega
   refine⟨?_,?_,?_,.inr rfl⟩
   ·have u2:uv 2=[2]:=ii (by omega)
    rw[h2,u2] at a1
    simp only[dO,tL,List.append_assoc,List.nil_append]
    rw[←a5.1,←a4.1,←a3.1,←a2.1,←a1.1]
   ·simp only[i0,pL,a2.2.2.1,a3.2.1,a4.2.1,a5.2.1]
    decide
   ·simp only[wN,IT,and_true]
    exact⟨a2.2.2.2,a3.2.2,fun _ h=>by simp at h,a4.2.2.1,a5.2.2.1⟩
theorem GK {l t:List UInt8} {n:aP} (h:eC l=some (n,t)):l=dO n++t∧(i0 n=true∧wN n∧(n.kids.length=0∨n.kids.length=2)):=ua l.length l t n h
theorem zQ {l t:List UInt8} {ts:List aP} (h:mr l=some (ts,t)):l=eF ts++t∧ts.length<18446744073709551616∧∀n∈ts,i0 n=true∧wN n:=by
 obtain⟨h1,h2,h3⟩:=oR (fun l a t h=>GK h) h
 exact⟨h1,h2,fun n hn=>⟨(h3 n hn).1,(h3 n hn).2.1⟩⟩
theorem zR (q:fQ):4*(q.2.1.length+q.2.2.length)≤(mR q).length:=by
 have h:∀n:List UInt32,4*n.length≤(lu n).length:=fun n=>by simp only[lu,List.length_append,fu];omega
 have h1:=h q.2.1
 have h2:=h q.2.2
 simp only[mR,tz,List.length_append,List.length_cons,List.length_nil]
 omega
end Go.Rl

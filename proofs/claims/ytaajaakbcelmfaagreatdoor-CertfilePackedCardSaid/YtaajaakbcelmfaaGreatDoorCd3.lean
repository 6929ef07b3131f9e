/- Part 3 of a proof: plain facts and walks of functions, merged by a program. Conditions: each lemma names its own. -/
import Derived.Test.YtaajaakbcelmfaaGreatDoorCd2
namespace Go.Rl
open Go.RowKit Go.Proofs
theorem F9 {l t:List UInt8} {b:Bool} {n m:List UInt32} (h:kB l=some ((b,n,m),t)):l=si b n m++t∧rv b n m=true∧4*(n.length+m.length)≤l.length:=by
 cases l with
 |nil=>cases h
 |cons c l=>
  by_cases hc:1<c.toNat
  ·rw[vJ hc] at h;cases h
  ·cases hN:pz l with
   |none=>rw[zI hN] at h;cases h
   |some p=>
    obtain⟨n',u⟩:=p
    rw[su hc hN] at h
    cases hM:pz u with
    |none=>rw[hM] at h;cases h
    |some q=>
     obtain⟨m',u'⟩:=q
     rw[hM] at h
     have h:(if rv (decide (c.toNat=1)) n' m'=true then some ((decide (c.toNat=1),n',m'),u') else none)=some ((b,n,m),t):=h
     split at h
     ·rename_i hv
      simp only[Option.some.injEq,Prod.mk.injEq] at h
      obtain⟨⟨rfl,rfl,rfl⟩,rfl⟩:=h
      have hcs:c=GP (decide (c.toNat=1)):=by
       by_cases h1:c.toNat=1
       ·rw[decide_eq_true h1,sv.1 h1];rfl
       ·rw[decide_eq_false h1]
        exact UInt8.toNat_inj.1 (show c.toNat=(0:UInt8).toNat by rw[show(0:UInt8).toNat=0 from rfl];omega)
      have e:c::l=si (decide (c.toNat=1)) n' m'++u':=by
       rw[si,←hcs,(fl hN).1,(fl hM).1]
       simp
      refine⟨e,hv,?_⟩
      rw[e]
      simp only[si,kY,List.length_append,fe]
      omega
     ·cases h
section
variable {w:World} {g:Nat} {st:Option (List UInt8)}
theorem GR (hr:aZ g st w) (h:st.bind cZ=none):Calls Tryz.prog 111 #[.pointer (some ⟨g,0,none⟩)] w (bF fun r w'=>w.grownBy w' (some g)∧r=.tuple #[bj 0,I 5]∧aZ g none w'):=by
 have:=mP hr
 rw[h] at this
 exact this
theorem GS {n:Nat} {t:List UInt8} (hr:aZ g st w) (h:st.bind cZ=some (n,t)):Calls Tryz.prog 111 #[.pointer (some ⟨g,0,none⟩)] w (bF fun r w'=>w.grownBy w' (some g)∧r=.tuple #[bj (UInt64.ofNat n),I 0]∧aZ g (some t) w'):=by
 have:=mP hr
 rw[h] at this
 exact this
theorem Ij (hr:aZ g st w) (h:st.bind cZ=none):Calls Tryz.prog 177 #[.pointer (some ⟨g,0,none⟩)] w (bF fun r w'=>w.grownBy w' (some g)∧r=.tuple #[I 0,I 5]∧aZ g none w'):=by
 have:=ui hr
 rw[h] at this
 exact this
theorem Ik {n:Nat} {t:List UInt8} (hr:aZ g st w) (h:st.bind cZ=some (n,t)):Calls Tryz.prog 177 #[.pointer (some ⟨g,0,none⟩)] w (bF fun r w'=>w.grownBy w' (some g)∧r=.tuple #[I (uz n),I 0]∧aZ g (some t) w'):=by
 have:=ui hr
 rw[h] at this
 exact this
end
end Go.Rl
namespace Go.Rl
def gT (x:UInt32) (n:Nat):UInt32:=(x>>>UInt32.ofNat n)|||(x<<<UInt32.ofNat (32-n))
def kc:List UInt32:=[0x428a2f98,0x71374491,0xb5c0fbcf,0xe9b5dba5,0x3956c25b,0x59f111f1,0x923f82a4,0xab1c5ed5,0xd807aa98,0x12835b01,0x243185be,0x550c7dc3,0x72be5d74,0x80deb1fe,0x9bdc06a7,0xc19bf174,0xe49b69c1,0xefbe4786,0x0fc19dc6,0x240ca1cc,0x2de92c6f,0x4a7484aa,0x5cb0a9dc,0x76f988da,0x983e5152,0xa831c66d,0xb00327c8,0xbf597fc7,0xc6e00bf3,0xd5a79147,0x06ca6351,0x14292967,0x27b70a85,0x2e1b2138,0x4d2c6dfc,0x53380d13,0x650a7354,0x766a0abb,0x81c2c92e,0x92722c85,0xa2bfe8a1,0xa81a664b,0xc24b8b70,0xc76c51a3,0xd192e819,0xd6990624,0xf40e3585,0x106aa070,0x19a4c116,0x1e376c08,0x2748774c,0x34b0bcb5,0x391c0cb3,0x4ed8aa4a,0x5b9cca4f,0x682e6ff3,0x748f82ee,0x78a5636f,0x84c87814,0x8cc70208,0x90befffa,0xa4506ceb,0xbef9a3f7,0xc67178f2]
def iv:List UInt32:=[0x6a09e667,0xbb67ae85,0x3c6ef372,0xa54ff53a,0x510e527f,0x9b05688c,0x1f83d9ab,0x5be0cd19]
def oI (b:List UInt8) (t:Nat):UInt32:=((((b.getD (4*t) 0).toUInt32<<<UInt32.ofNat 24)|||((b.getD (4*t+1) 0).toUInt32<<<UInt32.ofNat 16))|||((b.getD (4*t+2) 0).toUInt32<<<UInt32.ofNat 8))|||(b.getD (4*t+3) 0).toUInt32
def lT (l:List UInt32):UInt32:=
 let t:=l.length
 let x:=l.getD (t-15) 0
 let y:=l.getD (t-2) 0
 l.getD (t-16) 0+(gT x 7^^^gT x 18^^^x>>>UInt32.ofNat 3)+l.getD (t-7) 0+(gT y 17^^^gT y 19^^^y>>>UInt32.ofNat 10)
def iG (b:List UInt8) (k:Nat):List UInt32:=(List.range k).map (oI b)
def bC (b:List UInt8):Nat→List UInt32
 |0=>iG b 16
 |k+1=>bC b k++[lT (bC b k)]
theorem kj (b:List UInt8):∀k,(bC b k).length=16+k
 |0=>by simp[bC,iG]
 |k+1=>by simp[bC,kj b k];omega
def t1 (s:List UInt32) (k w:UInt32):UInt32:=
 let e:=s.getD 4 0
 s.getD 7 0+(gT e 6^^^gT e 11^^^gT e 25)+(e&&&s.getD 5 0^^^ ~~~e&&&s.getD 6 0)+k+w
def t2 (s:List UInt32):UInt32:=
 let a:=s.getD 0 0
 (gT a 2^^^gT a 13^^^gT a 22)+(a&&&s.getD 1 0^^^a&&&s.getD 2 0^^^s.getD 1 0&&&s.getD 2 0)
def rnd (s:List UInt32) (k w:UInt32):List UInt32:=[t1 s k w+t2 s,s.getD 0 0,s.getD 1 0,s.getD 2 0,s.getD 3 0+t1 s k w,s.getD 4 0,s.getD 5 0,s.getD 6 0]
def dN (b:List UInt8) (s:List UInt32):Nat→List UInt32
 |0=>s
 |i+1=>rnd (dN b s i) (kc.getD i 0) ((bC b 48).getD i 0)
theorem gd (b:List UInt8) (s:List UInt32) (hs:s.length=8):∀i,(dN b s i).length=8
 |0=>hs
 |_+1=>rfl
def tI (s:List UInt32) (b:List UInt8):List UInt32:=List.zipWith (· + ·) s (dN b s 64)
theorem xY (s:List UInt32) (b:List UInt8) (hs:s.length=8):(tI s b).length=8:=by
 simp[tI,hs,gd b s hs]
def uq (m:List UInt8):Nat→List UInt32
 |0=>iv
 |k+1=>tI (uq m k) ((m.drop (64*k)).take 64)
theorem mQ (m:List UInt8):∀k,(uq m k).length=8
 |0=>rfl
 |k+1=>xY _ _ (mQ m k)
theorem nK (m x:List UInt8):∀k,64*k≤m.length→uq (m++x) k=uq m k
 |0,_=>rfl
 |k+1,h=>by
  have h0:64*k≤m.length:=by omega
  have h1:64≤(m.drop (64*k)).length:=by simp;omega
  rw[uq,uq,nK m x k h0,List.drop_append_of_le_length h0,List.take_append_of_le_length h1]
def sh (m:List UInt8):List UInt32:=uq m (m.length/64)
theorem Eu (m:List UInt8):(sh m).length=8:=mQ m _
theorem vL (p t:List UInt8) (hp:p.length%64=0) (ht:t.length<64):sh (p++t)=sh p:=by
 have:(p++t).length/64=p.length/64:=by simp only[List.length_append];omega
 unfold sh
 rw[this,nK p t _ (by omega)]
theorem Ev (p b:List UInt8) (hp:p.length%64=0) (hb:b.length=64):sh (p++b)=tI (sh p) b:=by
 have h1:(p++b).length/64=p.length/64+1:=by simp only[List.length_append];omega
 unfold sh
 rw[h1,uq,nK p b _ (by omega)]
 have h2:64*(p.length/64)=p.length:=by omega
 rw[h2,List.drop_left,←hb,List.take_length]
def tD (x:UInt32):List UInt8:=[(x>>>UInt32.ofNat 24).toUInt8,(x>>>UInt32.ofNat 16).toUInt8,(x>>>UInt32.ofNat 8).toUInt8,x.toUInt8]
def xZ (n:UInt64):List UInt8:=(List.range 8).map fun i=>(n>>>UInt64.ofNat (56-8*i)).toUInt8
def gh (n:Nat):Nat:=(119-n%64)%64
def eo (m:List UInt8):List UInt8:=m++[128]++List.replicate (gh m.length) 0++xZ (UInt64.ofNat m.length*8)
theorem zK (m:List UInt8):(eo m).length%64=0:=by
 simp only[eo,gh,xZ,List.length_append,List.length_cons,List.length_nil,List.length_replicate,List.length_map,List.length_range];omega
def iV (m:List UInt8):List UInt8:=(sh (eo m)).flatMap tD
end Go.Rl
namespace Go.Rl
open Go.RowKit
abbrev f5:=Bool×List UInt32×List UInt32
def sy (n:Int):Dt:=.int .i64 n
def gi (q:f5):Dt:=.st [.bool q.1,js q.2.1,js q.2.2]
structure pH where
 kd:Int
 fr:Int
 ou:Int
 kh:Int
 kw:Int
 sr:Int
 pd:Int
 ws:List f5
 bs:List f5
structure Ew where
 inp:List Int
 lays:List pH
theorem pH.eq_iff {a b:pH}:a=b↔a.kd=b.kd∧a.fr=b.fr∧a.ou=b.ou∧a.kh=b.kh∧a.kw=b.kw∧a.sr=b.sr∧a.pd=b.pd∧a.ws=b.ws∧a.bs=b.bs:=by
 constructor
 ·rintro rfl;exact⟨rfl,rfl,rfl,rfl,rfl,rfl,rfl,rfl,rfl⟩
 ·rintro⟨h1,h2,h3,h4,h5,h6,h7,h8,h9⟩
  cases a;cases b;simp_all
theorem Ew.eq_iff {a b:Ew}:a=b↔a.inp=b.inp∧a.lays=b.lays:=by
 constructor
 ·rintro rfl;exact⟨rfl,rfl⟩
 ·rintro⟨h1,h2⟩
  cases a;cases b;simp_all
instance:DecidableEq pH:=fun _ _=>decidable_of_iff _ pH.eq_iff.symm
instance:DecidableEq Ew:=fun _ _=>decidable_of_iff _ Ew.eq_iff.symm
def GT (l:List Int):Dt:=.sl (l.map sy)
def oJ (n:Int):Prop:= -9223372036854775808≤n∧n≤9223372036854775807
def jE (n:Int):List UInt8:=uv (HU n)
def pI (q:f5):List UInt8:=si q.1 q.2.1 q.2.2
def lM (l:List UInt8):Option (Int×List UInt8):=(cZ l).map fun p=>(uz p.1,p.2)
def cG {α:Type} (f:List UInt8→Option (α×List UInt8)):Nat→List UInt8→Option (List α×List UInt8)
 |0,l=>some ([],l)
 |n+1,l=>(f l).bind fun p=>(cG f n p.2).map fun q=>(p.1::q.1,q.2)
def jy {α:Type} (f:List UInt8→Option (α×List UInt8)) (l:List UInt8):Option (List α×List UInt8):=(cZ l).bind fun p=>cG f p.1 p.2
def Il:List UInt8→Option (List f5×List UInt8):=jy kB
def rdL (l:List UInt8):Option (pH×List UInt8):=
 (lM l).bind fun a=>(lM a.2).bind fun b=>(lM b.2).bind fun c=>(lM c.2).bind fun d=>(lM d.2).bind fun e=>(lM e.2).bind fun f=>(lM f.2).bind fun g=>
   (Il g.2).bind fun x=>(Il x.2).bind fun y=>some (⟨a.1,b.1,c.1,d.1,e.1,f.1,g.1,x.1,y.1⟩,y.2)
def rdM (l:List UInt8):Option (Ew×List UInt8):=(jy lM l).bind fun a=>(jy rdL a.2).bind fun b=>some (⟨a.1,b.1⟩,b.2)
end Go.Rl
namespace Go.Rl
open Go.RowKit Go.Proofs
section
variable {α:Type} {f:α→Dt} {l:List α} {v:Value} {w w':World}
def dV (f:α→Dt) (l:List α) (v:Value) (w:World):Prop:=Rp w (.sl (l.map f)) [v]
theorem dV.ext (h:dV f l v w) (hx:aM w w'):dV f l v w':=Rp.ext hx h
theorem dV.isS (h:dV f l v w):∃A n c,v=.slice A n c:=by
 unfold dV at h
 simp only[Rp] at h
 obtain⟨A,n,c,hv,_⟩:=h
 exact⟨A,n,c,by simpa using hv⟩
theorem dV.one (h:dV f l v w):v.oneCell'=true:=by obtain⟨A,n,c,rfl⟩:=h.isS;rfl
theorem bt.one {l:List UInt32} (h:bt l v w):v.oneCell'=true:=by obtain⟨A,n,c,rfl⟩:=h.isS;rfl
theorem dV.nil (f:α→Dt) (w:World):dV f [] (.slice none 0 0) w:=Rp.nilSl
theorem dV.len (h:dV f l v w):l.length≤9223372036854775807:=by
 have:=Rp.slLen h
 simpa using this
theorem bT {P:Program} {t e:TypeId} {ty:TypeId} (ht:P.underlying t=some (.slice e)) (h:dV f l v w):(Builtin.len_ #[t] ty #[v]).run P w=.ok (I l.length) w:=by
 have:=Hb (ty:=ty) ht h
 simpa using this
theorem ey {P:Program} {t e:TypeId} {sz:Nat} (ht:P.underlying t=some (.slice e)) (hz:(P.info? e).map (·.size)=some sz) (hs:∀x,(f x).size=sz) (h0:0<sz) (h:dV f l v w) {i:Nat} (hi:i<l.length) (k:IntKind):
 ∃ad cs,(∀w':World,(Instr.indexAt t v (.int k i)).run P w'=.ok (.pointer (some ad)) w')∧dM w ad cs∧Rp w (f l[i]) cs:=by
 obtain⟨ad,cs,h1,h2,h3⟩:=H5 ht hz h (by simp[hs]) h0 (i:=i) (by simpa using hi) k
 exact⟨ad,cs,h1,h2,by simpa using h3⟩
theorem dM.at {ad:Addr} {xs:List Value} (h:dM w ad xs) {j:Nat} {u:Value} (hj:xs[j]? =some u):w.cell? (ad.add j)=some u:=h j u hj
theorem qK {P:Program} {s:TypeId} {fs:Array Field} {fd:Field} {n o:Nat} {a:Addr} (hs:P.underlying s=some (.struct fs)) (hf:fs[n]? =some fd) (hk:(P.cellsOf fd.type==0)=false) (ho:fd.offset=o):
 (Instr.fieldAt s (.pointer (some a)) n).run P w=.ok (.pointer (some (a.add o))) w:=by
 have hk':P.cellsOf fd.type≠0:=by simpa using hk
 obtain⟨k,hk1⟩:∃k,(P.info? fd.type).map (·.size)=some k:=by
  cases hi:(P.info? fd.type).map (·.size) with
  |none=>exact absurd (by simp[Program.cellsOf,hi]) hk'
  |some k=>exact⟨k,rfl⟩
 have hk0:k≠0:=by
  intro h
  apply hk'
  simp[Program.cellsOf,hk1,h]
 rw[cz hs hf hk1 hk0,ho]
theorem dM.ld {P:Program} {t:TypeId} {d:TypeDesc} {ad:Addr} {cs:List Value} (h:dM w ad cs) (ht:P.underlying t=some d) (hd:d.isRow=true) (hz:(P.info? t).map (·.size)=some cs.length):(Instr.loadAt t (.pointer (some ad))).run P w=.ok (.agg cs.toArray) w:=H6 h ht hd hz
theorem cd.ld {P:Program} {t T:TypeId} {d:TypeDesc} {g:Nat} {cs:List Value} (h:cd g T cs w) (ht:P.underlying t=some d) (hd:d.isRow=true) (hz:(P.info? t).map (·.size)=some cs.length):(Instr.loadAt t (.pointer (some ⟨g,0,none⟩))).run P w=.ok (.agg cs.toArray) w:=
 lJ h (fun j v hj=>by simpa using hj) ht hd hz
theorem cd.ldO {P:Program} {t T:TypeId} {d:TypeDesc} {g o:Nat} {cs ms:List Value} (h:cd g T cs w) (hm:∀j v,ms[j]? =some v→cs[o+j]? =some v) (ht:P.underlying t=some d) (hd:d.isRow=true) (hz:(P.info? t).map (·.size)=some ms.length):(Instr.loadAt t (.pointer (some ⟨g,o,none⟩))).run P w=.ok (.agg ms.toArray) w:=
 lJ h hm ht hd hz
theorem dB {P:Program} {T:TypeId} {cs:List Value}:∃g w',(Instr.box T (.agg cs.toArray)).run P w=.ok (.pointer (some ⟨g,0,none⟩)) w'∧w.heap.size≤g∧aM w w'∧cd g T cs w':=
 ⟨_,_,ov,Nat.le_refl _,aM.new w _,cd.new (T:=T) (.agg cs.toArray) rfl⟩
def aI (l:List Value):Prop:=∀v∈l,v.oneCell'=true
theorem aI.nil:aI []:=fun _ h=>by simp at h
theorem aI.cons {v:Value} {l:List Value} (h:v.oneCell'=true) (h':aI l):aI (v::l):=fun u hu=>by
 rcases List.mem_cons.1 hu with rfl|hu
 ·exact h
 ·exact h' u hu
theorem cd.stS {P:Program} {t T:TypeId} {g:Nat} {l m:List Value} (h:cd g T l w) (hl:l.length=m.length) (hi:(P.info? t).map (·.size)=some m.length) (h1:aI m):
 ∃w',(Instr.storeAt t (.pointer (some ⟨g,0,none⟩)) (.agg m.toArray)).run P w=.ok () w'∧w.grownBy w' (some g)∧cd g T m w':=
 ⟨_,gW h hl hi h1,bo w g _,h.row m⟩
theorem cd.stC {P:Program} {t T:TypeId} {g i:Nat} {l:List Value} {v:Value} (h:cd g T l w) (hs:(P.info? t).map (·.size)=some 1) (hv:v.oneCell'=true) (hi:i<l.length):
 ∃w',(Instr.storeAt t (.pointer (some ⟨g,i,none⟩)) v).run P w=.ok () w'∧w.grownBy w' (some g)∧cd g T (l.set i v) w':=by
 have h':=h
 unfold cd at h'
 obtain h2:=dm (P:=P) (t:=t) (v:=v) hs hv h' (by simpa using hi)
 exact⟨_,h2,aY w g i v,h.set i v⟩
end
end Go.Rl
namespace Go.Rl
open Go.RowKit
section
variable {w:World} {cs:List Value}
theorem ya (n:Int):(sy n).size=1:=rfl
theorem Ga {n:Int} (h:Rp w (sy n) cs):cs=[I n]:=by simp only[sy,Rp] at h;exact h
theorem lU {q:f5} (h:Rp w (gi q) cs):∃x y,cs=[B q.1,x,y]∧bt q.2.1 x w∧bt q.2.2 y w:=by
 simp only[gi,Rp,bL] at h
 obtain⟨_,_,rfl,rfl,_,_,rfl,h1,_,_,rfl,h2,rfl⟩:=h
 obtain⟨x,rfl,hx,_⟩:=Rp.isSlice h1
 obtain⟨y,rfl,hy,_⟩:=Rp.isSlice h2
 exact⟨x,y,rfl,Rp.wds.1 hx,Rp.wds.1 hy⟩
end
end Go.Rl
namespace Go.Rl
open Go.RowKit
section
variable {α β:Type} {f:List UInt8→Option (α×List UInt8)} {st s1 s2 so:Option (List UInt8)} {a:α}
def et (f:List UInt8→Option (α×List UInt8)) (st:Option (List UInt8)) (a:α) (s1:Option (List UInt8)):Prop:=st.bind f=s1.map fun t=>(a,t)
theorem et.some {t:List UInt8} (h:et f st a (some t)):∃l,st=.some l∧f l=.some (a,t):=by
 cases st with
 |none=>cases h
 |some l=>exact⟨l,rfl,h⟩
def Le (f:List UInt8→Option (α×List UInt8)):Prop:=∀l a t,f l=some (a,t)→t.length≤l.length
def Lt (f:List UInt8→Option (α×List UInt8)):Prop:=∀l a t,f l=some (a,t)→t.length+1≤l.length
theorem Lt.le (h:Lt f):Le f:=fun l a t e=>by have:=h l a t e;omega
def xa (n:Nat) (st:Option (List UInt8)):Prop:=∀l,st=some l→l.length≤n
theorem et.atM {n:Nat} (h:et f st a s1) (hf:Le f) (hn:xa n st):xa n s1:=fun t e=>by
 subst e
 obtain⟨l,h1,h2⟩:=h.some
 exact Nat.le_trans (hf l a t h2) (hn l h1)
theorem im {N:Nat}:so.bind (cG f N)=so.bind (fun l=>(cG f N l).map fun p=>([]++p.1,p.2)):=by
 cases so with
 |none=>rfl
 |some l=>simp
theorem jg {X:Option (List α×List UInt8)} {k:Nat} {done:List α} (hR:X=so.bind (fun l=>(cG f (k+1) l).map fun p=>(done++p.1,p.2))) (hq:et f so a s2):
 X=s2.bind (fun l=>(cG f k l).map fun p=>((done++[a])++p.1,p.2)):=by
 rw[hR]
 cases so with
 |none=>
  cases s2 with
  |none=>rfl
  |some t=>cases hq
 |some l=>
  have hq:f l=s2.map fun t=>(a,t):=hq
  show(cG f (k+1) l).map _=_
  simp only[cG]
  rw[hq]
  cases s2 with
  |none=>rfl
  |some t=>
   simp only[Option.map_some,Option.bind_some,Option.map_map]
   cases cG f k t<;>simp
theorem CI {X:Option (List α×List UInt8)} {done:List α} (hR:X=so.bind (fun l=>(cG f 0 l).map fun p=>(done++p.1,p.2))):X=so.map fun t=>(done,t):=by
 rw[hR]
 cases so with
 |none=>rfl
 |some l=>simp[cG]
theorem ur (hf:Le f):∀(n:Nat) (l:List UInt8) (a:List α) (t:List UInt8),cG f n l=some (a,t)→t.length≤l.length
 |0,l,a,t,h=>by simp only[cG,Option.some.injEq,Prod.mk.injEq] at h;rw[←h.2];exact Nat.le_refl _
 |n+1,l,a,t,h=>by
  simp only[cG] at h
  obtain⟨p,h1,h2⟩:=Option.bind_eq_some_iff.1 h
  obtain⟨q,h3,h4⟩:=Option.map_eq_some_iff.1 h2
  simp only[Prod.mk.injEq] at h4
  have:=ur hf n p.2 q.1 q.2 h3
  have:=hf l p.1 p.2 h1
  rw[←h4.2]
  omega
theorem jz:Lt cZ:=fun l a t h=>by
 have h1:=(eS h).1
 have h2:=vC a
 rw[h1,List.length_append]
 omega
theorem eJ:Lt lM:=fun l a t h=>by
 unfold lM at h
 obtain⟨p,h1,h2⟩:=Option.map_eq_some_iff.1 h
 have:=jz l p.1 p.2 h1
 simp only[Prod.mk.injEq] at h2
 rw[←h2.2]
 exact this
theorem sG:Lt kB:=fun l q t h=>by
 obtain⟨b,n,m⟩:=q
 have:=(F9 h).1
 rw[this,List.length_append]
 have h1:1≤(si b n m).length:=by simp only[si,List.length_append,List.length_cons,List.length_nil];omega
 omega
theorem Bh {st:Option (List UInt8)} {n:Int} {t:List UInt8} (h:et lM st n (some t)):oJ n:=by
 obtain⟨l,_,h⟩:=h.some
 unfold lM at h
 obtain⟨p,h1,h2⟩:=Option.map_eq_some_iff.1 h
 have:=(eS h1).2
 simp only[Prod.mk.injEq] at h2
 rw[←h2.1]
 unfold uz oJ
 split<;>omega
end
end Go.Rl
namespace Go.Rl
open Go.RowKit
structure eE where
 kd:Int
 ix:Int
 lo:Int
 hi:Int
 co:f5
structure fQ where
 un:Int
 up:Bool
 va:f5
 pf:List eE
structure f9 where
 kd:Int
 ix:Int
 at_:f5
inductive ba where
 |mk (lems:List fQ) (split:f9) (kids:List ba) (empty:Bool) (pf:List eE)
def z0Q:f5:=(false,[],[])
def tJ:f9:=⟨0,0,z0Q⟩
def ba.lems:ba→List fQ|.mk l _ _ _ _=>l
def ba.split:ba→f9|.mk _ s _ _ _=>s
def ba.kids:ba→List ba|.mk _ _ k _ _=>k
def ba.empty:ba→Bool|.mk _ _ _ e _=>e
def ba.pf:ba→List eE|.mk _ _ _ _ p=>p
def dI (m:eE):Dt:=.st [.st [sy m.kd,sy m.ix,sy m.lo,sy m.hi],gi m.co]
def lV (l:List eE):Dt:=.sl (l.map dI)
def fm (l:fQ):Dt:=.st [sy l.un,.bool l.up,gi l.va,lV l.pf]
def pJ (d:f9):Dt:=.st [sy d.kd,sy d.ix,gi d.at_]
mutual
def bK:ba→Dt
 |.mk lems sp kids em pf=>.st [.sl (lems.map fm),pJ sp,.sl (vM kids),.bool em,lV pf]
def vM:List ba→List Dt
 |[]=>[]
 |n::l=>bK n::vM l
end
theorem nL:∀l:List ba,vM l=l.map bK
 |[]=>rfl
 |n::l=>by simp only[vM,List.map_cons,nL l]
def tK (d:f9):List UInt8:=jE d.kd++jE d.ix++pI d.at_
def sH (m:eE):List UInt8:=jE m.kd++jE m.ix++jE m.lo++jE m.hi++pI m.co
def vN (l:List eE):List UInt8:=uv l.length++l.flatMap sH
def Gb (b:Bool):List UInt8:=if b=true then[1] else[0]
def nj (l:fQ):List UInt8:=jE l.un++Gb l.up++pI l.va++vN l.pf
def iS (l:List fQ):List UInt8:=uv l.length++l.flatMap nj
mutual
def dX:ba→List UInt8
 |.mk lems _ [] em pf=>Gb em++iS lems++vN pf
 |.mk lems sp (k::ks) _ _=>[2]++iS lems++tK sp++vO (k::ks)
def vO:List ba→List UInt8
 |[]=>[]
 |n::l=>dX n++vO l
end
theorem sI:∀l:List ba,vO l=l.flatMap dX
 |[]=>rfl
 |n::l=>by simp only[vO,List.flatMap_cons,sI l]
def eP (l:List ba):List UInt8:=uv l.length++l.flatMap dX
def pL (most:Nat) (l:List UInt8):Option (Nat×List UInt8):=(cZ l).bind fun p=>if p.1≤most then some p else none
def zb (l:List UInt8):Option (f9×List UInt8):=(lM l).bind fun a=>(lM a.2).bind fun b=>(kB b.2).bind fun c=>some (⟨a.1,b.1,c.1⟩,c.2)
def vP (l:List UInt8):Option (eE×List UInt8):=(lM l).bind fun a=>(lM a.2).bind fun b=>(lM b.2).bind fun c=>(lM c.2).bind fun d=>(kB d.2).bind fun e=>some (⟨a.1,b.1,c.1,d.1,e.1⟩,e.2)
def ut:List UInt8→Option (List eE×List UInt8):=jy vP
def iH (n:Nat):Bool:=decide (n=1)
def oK (l:List UInt8):Option (fQ×List UInt8):=(lM l).bind fun a=>(pL 1 a.2).bind fun b=>(kB b.2).bind fun c=>(ut c.2).bind fun d=>some (⟨a.1,iH b.1,c.1,d.1⟩,d.2)
def fU:List UInt8→Option (List fQ×List UInt8):=jy oK
def qL:Nat→List UInt8→Option (ba×List UInt8)
 |0,_=>none
 |n+1,l=>(pL 2 l).bind fun a=>(fU a.2).bind fun b=>
   if a.1<2 then(ut b.2).bind fun c=>some (.mk b.1 tJ [] (decide (a.1=1)) c.1,c.2)
   else(zb b.2).bind fun c=>(qL n c.2).bind fun d=>(qL n d.2).bind fun e=>some (.mk b.1 c.1 [d.1,e.1] false [],e.2)
def eB (l:List UInt8):Option (ba×List UInt8):=qL l.length l
def nN:List UInt8→Option (List ba×List UInt8):=jy eB
section
variable {α β:Type}
theorem Le.bind {f:List UInt8→Option (α×List UInt8)} {g:α×List UInt8→Option (β×List UInt8)} (hf:Le f) (hg:∀p b t,g p=some (b,t)→t.length≤p.2.length):Le (fun l=>(f l).bind g):=fun l b t h=>by
 obtain⟨p,h1,h2⟩:=Option.bind_eq_some_iff.1 h
 exact Nat.le_trans (hg p b t h2) (hf l p.1 p.2 h1)
theorem Lt.bind {f:List UInt8→Option (α×List UInt8)} {g:α×List UInt8→Option (β×List UInt8)} (hf:Lt f) (hg:∀p b t,g p=some (b,t)→t.length≤p.2.length):Lt (fun l=>(f l).bind g):=fun l b t h=>by
 obtain⟨p,h1,h2⟩:=Option.bind_eq_some_iff.1 h
 have:=hg p b t h2
 have:=hf l p.1 p.2 h1
 omega
end
theorem fD {α β:Type} {f:List UInt8→Option (α×List UInt8)} (hf:Le f) {l:List UInt8} {g:α×List UInt8→Option (β×List UInt8)} {b:β} {t:List UInt8} (h:(f l).bind g=some (b,t)) (hg:∀p b t,g p=some (b,t)→t.length≤p.2.length):t.length≤l.length:=Le.bind hf hg l b t h
theorem oP {β:Type} {b b':β} {t t':List UInt8} (h:some (b',t')=some (b,t)):t.length≤t'.length:=by
 simp only[Option.some.injEq,Prod.mk.injEq] at h
 rw[h.2]
 exact Nat.le_refl _
theorem lW (k:Nat):Lt (pL k):=fun l a t h=>by
 unfold pL at h
 obtain⟨p,h1,h2⟩:=Option.bind_eq_some_iff.1 h
 split at h2
 ·simp only[Option.some.injEq] at h2
  subst h2
  exact jz l _ _ h1
 ·cases h2
theorem nO:Lt zb:=Lt.bind eJ fun _ _ _ h=>fD eJ.le h fun _ _ _ h=>fD sG.le h fun _ _ _ h=>oP h
theorem vQ:Lt vP:=Lt.bind eJ fun _ _ _ h=>fD eJ.le h fun _ _ _ h=>fD eJ.le h fun _ _ _ h=>fD eJ.le h fun _ _ _ h=>fD sG.le h fun _ _ _ h=>oP h
theorem uu {α:Type} {f:List UInt8→Option (α×List UInt8)} (hf:Le f):Lt (jy f):=fun l a t h=>by
 unfold jy at h
 obtain⟨p,h1,h2⟩:=Option.bind_eq_some_iff.1 h
 have:=ur hf p.1 p.2 a t h2
 have:=jz l p.1 p.2 h1
 omega
theorem Ex:Lt ut:=uu vQ.le
theorem vR:Lt oK:=Lt.bind eJ fun _ _ _ h=>fD (lW 1).le h fun _ _ _ h=>fD sG.le h fun _ _ _ h=>fD Ex.le h fun _ _ _ h=>oP h
theorem lX:Lt fU:=uu vR.le
theorem oQ:∀n,Lt (qL n)
 |0=>fun l a t h=>by simp[qL] at h
 |n+1=>fun l a t h=>by
  refine(Lt.bind (lW 2) fun p b t h=>?_) l a t (show((pL 2 l).bind _)=_ from h)
  refine fD lX.le h fun q b t h=>?_
  split at h
  ·exact fD Ex.le h fun _ _ _ h=>oP h
  ·exact fD nO.le h fun _ _ _ h=>fD (oQ n).le h fun _ _ _ h=>fD (oQ n).le h fun _ _ _ h=>oP h
theorem mR:∀(n m:Nat) (l:List UInt8),l.length≤n→n≤m→qL m l=qL n l
 |0,0,_,_,_=>rfl
 |0,m+1,l,hl,_=>by
  have:l=[]:=List.eq_nil_of_length_eq_zero (by omega)
  subst this
  rfl
 |n+1,0,_,_,h=>by omega
 |n+1,m+1,l,hl,hm=>by
  simp only[qL]
  cases h1:pL 2 l with
  |none=>rfl
  |some a=>
   simp only[Option.bind_some]
   cases h2:fU a.2 with
   |none=>rfl
   |some b=>
    simp only[Option.bind_some]
    split
    ·rfl
    ·cases h3:zb b.2 with
     |none=>rfl
     |some c=>
      simp only[Option.bind_some]
      have a1:=lW 2 l _ _ h1
      have a2:=lX _ _ _ h2
      have a3:=nO _ _ _ h3
      rw[mR n m c.2 (by omega) (by omega)]
      cases h4:qL n c.2 with
      |none=>rfl
      |some d=>
       simp only[Option.bind_some]
       have a4:=oQ n _ _ _ h4
       rw[mR n m d.2 (by omega) (by omega)]
theorem mS:Lt eB:=fun l a t h=>oQ l.length l a t h
theorem CJ (l:List UInt8):eB l=(pL 2 l).bind fun a=>(fU a.2).bind fun b=>
 if a.1<2 then(ut b.2).bind fun c=>some (.mk b.1 tJ [] (decide (a.1=1)) c.1,c.2)
 else(zb b.2).bind fun c=>(eB c.2).bind fun d=>(eB d.2).bind fun e=>some (.mk b.1 c.1 [d.1,e.1] false [],e.2):=by
 unfold eB
 cases l with
 |nil=>rfl
 |cons x l=>
  show qL (l.length+1) (x::l)=_
  simp only[qL]
  cases h1:pL 2 (x::l) with
  |none=>rfl
  |some a=>
   simp only[Option.bind_some]
   cases h2:fU a.2 with
   |none=>rfl
   |some b=>
    simp only[Option.bind_some]
    split
    ·rfl
    ·cases h3:zb b.2 with
     |none=>rfl
     |some c=>
      simp only[Option.bind_some]
      have a1:=lW 2 _ _ _ h1
      have a2:=lX _ _ _ h2
      have a3:=nO _ _ _ h3
      simp only[List.length_cons] at a1
      rw[mR c.2.length l.length c.2 (Nat.le_refl _) (by omega)]
      cases h4:qL c.2.length c.2 with
      |none=>rfl
      |some d=>
       simp only[Option.bind_some]
       have a4:=oQ _ _ _ _ h4
       rw[mR d.2.length l.length d.2 (Nat.le_refl _) (by omega)]
end Go.Rl
namespace Go.Rl
open Go.RowKit
theorem et.bindE {α β:Type} {f:List UInt8→Option (α×List UInt8)} {st s1:Option (List UInt8)} {a:α} (h:et f st a s1) (F:α×List UInt8→Option (β×List UInt8)):st.bind (fun l=>(f l).bind F)=s1.bind fun t=>F (a,t):=by
 cases st with
 |none=>
  cases s1 with
  |none=>rfl
  |some t=>cases h
 |some l=>
  have h:f l=s1.map fun t=>(a,t):=h
  show(f l).bind F=_
  rw[h]
  cases s1<;>rfl
theorem km {β:Type} {s:Option (List UInt8)} {b:β}:(s.bind fun t=>some (b,t))=s.map fun t=>(b,t):=by cases s<;>rfl
section
variable {st s1 s2 s3 s4 s5:Option (List UInt8)}
theorem uw {a b:Int} {q:f5} (h1:et lM st a s1) (h2:et lM s1 b s2) (h3:et kB s2 q s3):et zb st ⟨a,b,q⟩ s3:=by
 refine(h1.bindE _).trans ?_
 dsimp only
 refine(h2.bindE _).trans ?_
 dsimp only
 refine(h3.bindE _).trans ?_
 dsimp only
 exact km
theorem nP {a b c d:Int} {q:f5} (h1:et lM st a s1) (h2:et lM s1 b s2) (h3:et lM s2 c s3) (h4:et lM s3 d s4) (h5:et kB s4 q s5):et vP st ⟨a,b,c,d,q⟩ s5:=by
 refine(h1.bindE _).trans ?_
 dsimp only
 refine(h2.bindE _).trans ?_
 dsimp only
 refine(h3.bindE _).trans ?_
 dsimp only
 refine(h4.bindE _).trans ?_
 dsimp only
 refine(h5.bindE _).trans ?_
 dsimp only
 exact km
theorem sJ {a:Int} {n:Nat} {q:f5} {ps:List eE} (h1:et lM st a s1) (h2:et (pL 1) s1 n s2) (h3:et kB s2 q s3) (h4:et ut s3 ps s4):et oK st ⟨a,iH n,q,ps⟩ s4:=by
 refine(h1.bindE _).trans ?_
 dsimp only
 refine(h2.bindE _).trans ?_
 dsimp only
 refine(h3.bindE _).trans ?_
 dsimp only
 refine(h4.bindE _).trans ?_
 dsimp only
 exact km
def lf (k:Nat) (ls:List fQ) (l:List UInt8):Option (ba×List UInt8):=
 if k<2 then(ut l).bind fun c=>some (.mk ls tJ [] (decide (k=1)) c.1,c.2)
 else(zb l).bind fun c=>(eB c.2).bind fun d=>(eB d.2).bind fun e=>some (.mk ls c.1 [d.1,e.1] false [],e.2)
theorem iI:eB=fun l=>(pL 2 l).bind fun a=>(fU a.2).bind fun b=>lf a.1 b.1 b.2:=funext CJ
theorem qr {k:Nat} (h:k<2) (ls:List fQ):lf k ls=fun l=>(ut l).bind fun c=>some (.mk ls tJ [] (decide (k=1)) c.1,c.2):=funext fun _=>if_pos h
theorem i5 {k:Nat} (h:¬k<2) (ls:List fQ):lf k ls=fun l=>(zb l).bind fun c=>(eB c.2).bind fun d=>(eB d.2).bind fun e=>some (.mk ls c.1 [d.1,e.1] false [],e.2):=funext fun _=>if_neg h
theorem ux {n:Nat} {ls:List fQ} {ps:List eE} (hn:n<2) (h1:et (pL 2) st n s1) (h2:et fU s1 ls s2) (h3:et ut s2 ps s3):et eB st (.mk ls tJ [] (decide (n=1)) ps) s3:=by
 unfold et
 rw[iI]
 refine(h1.bindE _).trans ?_
 dsimp only
 refine(h2.bindE _).trans ?_
 dsimp only
 show Option.bind s2 (lf _ _)=_
 rw[qr hn]
 refine(h3.bindE _).trans ?_
 dsimp only
 exact km
theorem sK {n:Nat} {ls:List fQ} {d:f9} {a b:ba} (hn:¬n<2) (h1:et (pL 2) st n s1) (h2:et fU s1 ls s2) (h3:et zb s2 d s3) (h4:et eB s3 a s4) (h5:et eB s4 b s5):et eB st (.mk ls d [a,b] false []) s5:=by
 unfold et
 rw[iI]
 refine(h1.bindE _).trans ?_
 dsimp only
 refine(h2.bindE _).trans ?_
 dsimp only
 show Option.bind s2 (lf _ _)=_
 rw[i5 hn]
 refine(h3.bindE _).trans ?_
 dsimp only
 refine(h4.bindE _).trans ?_
 dsimp only
 refine(h5.bindE _).trans ?_
 dsimp only
 exact km
variable {α:Type} {f:List UInt8→Option (α×List UInt8)} {a:α}
theorem iu {β:Type} {g:List UInt8→Option (β×List UInt8)} {F:β×List UInt8→Option (α×List UInt8)} (h:st.bind g=none):st.bind (fun l=>(g l).bind F)=none:=by
 cases st with
 |none=>rfl
 |some l=>have h:g l=none:=h;show(g l).bind F=none;rw[h];rfl
theorem yb (h:st.bind (pL 2)=none):st.bind eB=none:=by rw[iI];exact iu h
theorem oR {n:Nat} (h1:et (pL 2) st n s1) (h:s1.bind fU=none):st.bind eB=none:=by
 rw[iI]
 refine(h1.bindE _).trans ?_
 dsimp only
 exact iu h
theorem yc {n:Nat} {ls:List fQ} (hn:n<2) (h1:et (pL 2) st n s1) (h2:et fU s1 ls s2) (h:s2.bind ut=none):st.bind eB=none:=by
 rw[iI]
 refine(h1.bindE _).trans ?_
 dsimp only
 refine(h2.bindE _).trans ?_
 dsimp only
 show Option.bind s2 (lf _ _)=_
 rw[qr hn]
 exact iu h
theorem yd {n:Nat} {ls:List fQ} (hn:¬n<2) (h1:et (pL 2) st n s1) (h2:et fU s1 ls s2) (h:s2.bind zb=none):st.bind eB=none:=by
 rw[iI]
 refine(h1.bindE _).trans ?_
 dsimp only
 refine(h2.bindE _).trans ?_
 dsimp only
 show Option.bind s2 (lf _ _)=_
 rw[i5 hn]
 exact iu h
theorem ye {n:Nat} {ls:List fQ} {d:f9} (hn:¬n<2) (h1:et (pL 2) st n s1) (h2:et fU s1 ls s2) (h3:et zb s2 d s3) (h:s3.bind eB=none):st.bind eB=none:=by
 rw[iI]
 refine(h1.bindE _).trans ?_
 dsimp only
 refine(h2.bindE _).trans ?_
 dsimp only
 show Option.bind s2 (lf _ _)=_
 rw[i5 hn]
 refine(h3.bindE _).trans ?_
 dsimp only
 exact iu h
theorem yf {n:Nat} {ls:List fQ} {d:f9} {x:ba} (hn:¬n<2) (h1:et (pL 2) st n s1) (h2:et fU s1 ls s2) (h3:et zb s2 d s3) (h4:et eB s3 x s4) (h:s4.bind eB=none):st.bind eB=none:=by
 rw[iI]
 refine(h1.bindE _).trans ?_
 dsimp only
 refine(h2.bindE _).trans ?_
 dsimp only
 show Option.bind s2 (lf _ _)=_
 rw[i5 hn]
 refine(h3.bindE _).trans ?_
 dsimp only
 refine(h4.bindE _).trans ?_
 dsimp only
 exact iu h
theorem Ey (h:st.bind lM=none):st.bind oK=none:=iu h
theorem yg {n:Int} (h1:et lM st n s1) (h:s1.bind (pL 1)=none):st.bind oK=none:=by
 refine(h1.bindE _).trans ?_
 dsimp only
 exact iu h
theorem Ez {n:Int} {k:Nat} (h1:et lM st n s1) (h2:et (pL 1) s1 k s2) (h:s2.bind kB=none):st.bind oK=none:=by
 refine(h1.bindE _).trans ?_
 dsimp only
 refine(h2.bindE _).trans ?_
 dsimp only
 exact iu h
theorem yh {n:Int} {k:Nat} {q:f5} (h1:et lM st n s1) (h2:et (pL 1) s1 k s2) (h3:et kB s2 q s3) (h:s3.bind ut=none):st.bind oK=none:=by
 refine(h1.bindE _).trans ?_
 dsimp only
 refine(h2.bindE _).trans ?_
 dsimp only
 refine(h3.bindE _).trans ?_
 dsimp only
 exact iu h
theorem CK {X:Option (List α×List UInt8)} {so:Option (List UInt8)} {k:Nat} {done:List α} (hR:X=so.bind (fun l=>(cG f (k+1) l).map fun p=>(done++p.1,p.2))) (h:so.bind f=none):X=none:=by
 rw[hR]
 cases so with
 |none=>rfl
 |some l=>
  have h:f l=none:=h
  show(cG f (k+1) l).map _=none
  simp only[cG,h]
  rfl
theorem zL {n:Nat} {most:Nat} (h:et cZ st n s1) (hn:n≤most):et (pL most) st n s1:=by
 refine(h.bindE _).trans ?_
 cases s1 with
 |none=>rfl
 |some t=>exact if_pos hn
theorem EA {n:Nat} {most:Nat} (h:et cZ st n s1) (hn:¬n≤most):st.bind (pL most)=none:=by
 refine(h.bindE _).trans ?_
 cases s1 with
 |none=>rfl
 |some t=>exact if_neg hn
end
end Go.Rl
namespace Go.Rl
open Go.RowKit Go.Proofs
end Go.Rl
namespace Go.Rl
open Go.RowKit Go.Proofs
section
variable {w0 w:World} {l m:List UInt8} {v x:Value} {ty:TypeId}
def GU (base:Nat) (l:List UInt8) (v:Value) (w:World):Prop:=cD base l v w∨(cm l v w∧∃ad,v=.slice (some ad) l.length l.length)
theorem GU.ext {base:Nat} {w':World} (h:GU base l v w) (hx:aM w w'):GU base l v w':=h.imp (·.ext hx) fun h=>⟨h.1.ext hx,h.2⟩
theorem vS (h0:aM w0 w) (hv:GU w0.heap.size l v w) (hx:cm m x w) (hm:0<m.length) (hb:l.length+m.length≤140737488355328):
 ∃r w',(Builtin.append_ #[28,28] ty #[v,x]).run Tryz.prog w=.ok r w'∧cD w0.heap.size (l++m) r w'∧aM w0 w':=by
 rcases hv with hv|⟨hv,ad,rfl⟩
 ·obtain⟨r,w',h1,h2,h3⟩:=di (ty:=ty) hv hx hb h0.size
  exact⟨r,w',h1,h2,aM.of_grew h0 h3 hv.ge⟩
 ·obtain⟨i,hi,hz,hsize,hby⟩:=info_parts oo
  obtain⟨A,n,c,hA,hnc,hcm,hl,hc,_⟩:=hv
  injection hA with hA hn hc'
  subst hA hn hc'
  obtain⟨A',n',c',rfl,hnc',hcm',hl',hcl',_⟩:=hx
  have hn':n'=m.length:=by simpa using hl'.symm
  obtain⟨ad',hA',hcl2⟩:=hcl' (by omega)
  subst hA'
  have hold:∀j u,(l.map U8)[j]? =some u→w.cell? (ad.add j)=some u:=fun j u hu=>by
   have hj:j<l.length:=by
    have:=(List.getElem?_eq_some_iff.1 hu).1
    simpa using this
   obtain⟨ad2,h2,h3⟩:=hc (by omega)
   cases h2
   exact h3 j u hu
  obtain⟨r,w',h1,h2,h3⟩:=run_append_arg_grows (P:=Tryz.prog) w 28 ty 5 i (.int .u8 0) 1 1 Tryz.underlying28 hi hz hsize hby rfl (by omega) ad l.length l.length (l.map U8) (by simp) hold ad' n' c' (m.map U8) hl' hcl2 (by omega) (by unfold maxLen;omega) (by omega)
  refine⟨r,w',h1,⟨l.length+n',?_⟩,h0.of_grown h3 (fun k hk=>by cases hk)⟩
  rw[List.map_append]
  exact iX h2 (fun k hk=>Nat.le_trans h0.size (World.ownsRow.lt h2 k hk).1)
end
end Go.Rl
namespace Go.Rl
open Go.RowKit Go.Proofs
open Go.Maps (Keyed)
section ops
variable {P:Program} {ops:Array Oper} {Q:fB} {N:Nat} {D:List Deferred} {l:Fr} {w w':World} {rest:List Oper} {d:Nat} {ty:TypeId} {pos:String} {aft:Array Edge}
end ops
section
variable {P:Program} {w:World} {t k e:TypeId} {m:Nat} {es:List MapEntry} {clock:Nat} {x:Value}
end
section
variable {w:World} {m:Nat} {l:List Value} {t e:TypeId}
end
theorem cd.k0 {w:World} {g:Nat} {T:TypeId} {v:Value} {l:List Value} (h:cd g T (v::l) w):w.cell? ⟨g,0,none⟩=some v:=h.cell (i:=0) rfl
end Go.Rl
namespace Go.Rl
open Go.RowKit Go.Proofs
section
variable {w0 w w':World} {l m:List UInt8} {v x:Value} {ty t t2 T:TypeId} {g base:Nat}
theorem zM (ht:Tryz.prog.underlying t=some (.slice 5)) (ht2:Tryz.prog.underlying t2=some (.slice 5)) (a b:Value):(Builtin.append_ #[t,t2] ty #[a,b]).run Tryz.prog w=(Builtin.append_ #[28,28] ty #[a,b]).run Tryz.prog w:=by
 unfold Builtin.append_
 cases a<;>simp[Sem.run_bind,run_underlying ht,run_underlying ht2,run_underlying Tryz.underlying28]
structure fv (T:TypeId) (base g:Nat) (l:List UInt8) (v:Value) (w:World):Prop where
 ge:base≤g
 blk:cd g T [v] w
 row:GU base l v w
 new:∀k,v.ownBlock=some k→base≤k
 off:v.ownBlock≠some g
 lt:∀k,v.ownBlock=some k→k<w.heap.size
theorem GU.bts (h:GU base l v w):cm l v w:=h.elim (·.bts) (·.1)
theorem fv.ext (h:fv T base g l v w) (hx:aM w w'):fv T base g l v w':=⟨h.ge,h.blk.ext hx,h.row.ext hx,h.new,h.off,fun k hk=>Nat.lt_of_lt_of_le (h.lt k hk) hx.size⟩
theorem fv.off_new {k:Nat} (h:fv T base g l v w) (hk:w.heap.size≤k):¬(k=g∨v.ownBlock=some k):=by
 rintro(rfl|h1)
 ·have:=h.blk.lt;omega
 ·have:=h.lt k h1;omega
structure cT (g:Nat) (v:Value) (w:World) (v':Value) (w':World):Prop where
 mv:Mv (fun k=>k=g∨v.ownBlock=some k) w w'
 own:∀k,v'.ownBlock=some k→v.ownBlock=some k∨w.heap.size≤k
theorem cT.of_ext (h:aM w w'):cT g v w v w':=⟨Mv.of_ext h,fun _ h=>.inl h⟩
theorem cT.refl:cT g v w v w:=cT.of_ext (aM.refl w)
theorem cT.trans {v1 v2:Value} {w1 w2:World} (h:cT g v w v1 w1) (k:cT g v1 w1 v2 w2):cT g v w v2 w2:=by
 refine⟨h.mv.trans k.mv fun n hn hlt=>?_,fun n hn=>?_⟩
 ·rcases hn with hn|hn
  ·exact .inl hn
  ·rcases h.own n hn with h1|h1
   ·exact .inr h1
   ·omega
 ·rcases k.own n hn with h1|h1
  ·exact h.own n h1
  ·exact .inr (Nat.le_trans h.mv.size h1)
theorem cT.off {k:Nat} {v1:Value} {w1:World} (h:cT g v w v1 w1) (hn:¬(k=g∨v.ownBlock=some k)) (hk:k<w.heap.size):¬(k=g∨v1.ownBlock=some k):=by
 rintro(h1|h1)
 ·exact hn (.inl h1)
 ·rcases h.own k h1 with h2|h2
  ·exact hn (.inr h2)
  ·omega
theorem cT.ext {v1:Value} {w1:World} (h:cT g v w v1 w1) (h0:aM w0 w) (hg:w0.heap.size≤g) (hv:∀k,v.ownBlock=some k→w0.heap.size≤k):aM w0 w1:=
 h.mv.ext_from h0 fun k hk=>by
  rcases hk with rfl|hk
  ·exact hg
  ·exact hv k hk
def WrX (g:Nat) (v:Value):Nat→Prop:=fun k=>k=g∨v.ownBlock=some k
theorem cK.step {v1:Value} {w1:World} {d:Dt} {cs:List Value} (h:cK (WrX g v) w d cs) (k:cT g v w v1 w1):cK (WrX g v1) w1 d cs:=h.mv k.mv fun n hn=>by
 rcases hn with hn|hn
 ·exact .inl (.inl hn)
 ·rcases k.own n hn with h1|h1
  ·exact .inl (.inr h1)
  ·exact .inr h1
theorem fv.put (ht:Tryz.prog.underlying t=some (.slice 5)) (hs:(Tryz.prog.info? t).map (·.size)=some 1) (ht2:Tryz.prog.underlying t2=some (.slice 5)) (h:fv T base g l v w) (h0:base≤w.heap.size) (hx:cm m x w) (hm:0<m.length) (hb:l.length+m.length≤140737488355328):
 ∃r w1 w2,(Builtin.append_ #[t,t2] ty #[v,x]).run Tryz.prog w=.ok r w1∧(Instr.storeAt t (.pointer (some ⟨g,0,none⟩)) r).run Tryz.prog w1=.ok () w2∧fv T base g (l++m) r w2∧cT g v w r w2:=by
 have key:∃r w1,(Builtin.append_ #[28,28] ty #[v,x]).run Tryz.prog w=.ok r w1∧cD base (l++m) r w1∧cT g v w r w1∧cd g T [v] w1∧r.ownBlock≠some g:=by
  rcases h.row with hv|⟨hv,hfull⟩
  ·obtain⟨r,w1,h1,h2,h3⟩:=di (ty:=ty) hv hx hb h0
   refine⟨r,w1,h1,h2,⟨Mv.of_grown h3.grown fun k hk _=>.inr hk,fun k hk=>?_⟩,h.blk.other h3.grown (Ne.symm h.off),?_⟩
   ·rcases h3.own with h4|h4
    ·rw[h4] at hk;exact .inl hk
    ·exact .inr (h4 k hk)
   ·rcases h3.own with h4|h4
    ·rw[h4];exact h.off
    ·intro h5
     have:=h4 g h5
     have:=h.blk.lt
     omega
  ·obtain⟨r,w1,h1,h2,h3⟩:=vS (ty:=ty) (w0:=w) (aM.refl w) (.inr ⟨hv,hfull⟩) hx hm hb
   refine⟨r,w1,h1,h2.low h0,⟨Mv.of_ext h3,fun k hk=>.inr (h2.ge k hk)⟩,h.blk.ext h3,fun h5=>?_⟩
   have:=h2.ge g h5
   have:=h.blk.lt
   omega
 obtain⟨r,w1,h1,h2,h3,h4,h5⟩:=key
 have hr1:r.oneCell'=true:=by
  obtain⟨A,n,c,rfl,_⟩:=h2.bts
  rfl
 obtain⟨w2,h6,h7,h8⟩:=h4.stC (P:=Tryz.prog) (t:=t) (i:=0) (v:=r) hs hr1 (by simp)
 refine⟨r,w1,w2,(zM ht ht2 v x).trans h1,h6,⟨h.ge,h8,.inl ?_,h2.ge,h5,fun k hk=>Nat.lt_of_lt_of_le (h2.lt k hk) h7.size⟩,h3.trans ⟨Mv.of_grown h7 fun k hk _=>.inl (Option.some.inj hk).symm,fun k hk=>.inl hk⟩⟩
 obtain⟨n,h9⟩:=h2
 exact⟨n,World.ownsRow.kept h9 h7 (.inr h5)⟩
theorem EB (ht:Tryz.prog.underlying t=some (.slice 5)) (l:List UInt8) (hl:l.length≤16777216) (h0:0<l.length):∃v w1 w2,(Instr.buildSlice t l.length (dS 0 (l.map U8)).toArray).run Tryz.prog w=.ok v w1∧(convert t t v).run Tryz.prog w1=.ok v w2∧aM w w2∧cm l v w2∧∃ad,v=.slice (some ad) l.length l.length∧w.heap.size≤ad.block∧ad.block<w2.heap.size:=by
 obtain⟨i,hi,hz0,hs,_⟩:=info_parts oo
 have hf:∀Z:Array Value,Z.size=(l.map U8).length→Instr.fill (fun i=>some (i*1,1)) Z (dS 0 (l.map U8))=some (l.map U8).toArray:=fun Z hZ=>by
  have:=p3 (l.map U8) [] Z.toList (fun v hv=>tT (kK l v hv)) (by simpa using hZ)
  simpa using this
 have hle:¬(l.length*1>2^24):=by omega
 have hinfo:(typeInfo 5).run Tryz.prog w=.ok i w:=by simp[typeInfo,hi]
 have hsz:(sizeOf 5).run Tryz.prog w=.ok 1 w:=by simp[sizeOf,hinfo,hs]
 have hzv:(zeroValue 5).run Tryz.prog w=.ok (.int .u8 0) w:=by simp[zeroValue,hinfo,hz0]
 have hrun:(Instr.buildSlice t l.length (dS 0 (l.map U8)).toArray).run Tryz.prog w=.ok (.slice (some ⟨w.heap.size,0,none⟩) l.length l.length) (w.alloc (.cells (l.map U8).toArray 5)):=by
  simp only[Instr.buildSlice,Sem.run_bind,run_underlying ht,Result.andThen_ok,hsz,if_neg hle]
  rw[if_neg (by omega)]
  simp only[Sem.run_bind,Sem.run_pure,Result.andThen_ok,hzv]
  rw[hf _ (by simp[Value.cells])]
  simp[newRow]
 refine⟨_,_,_,hrun,Go.Lib.run_convert_bytes_const w t 5 _ _ _ ht Tryz.underlying5,aM.new w _,?_,⟨_,rfl,Nat.le_refl _,by simp⟩⟩
 have hg:=heap_alloc_new w (.cells (l.map U8).toArray 5 ((l.map U8).toArray.size,(l.map U8).toArray.size+1))
 refine⟨_,_,_,rfl,Nat.le_refl _,by unfold maxLen;omega,by simp,fun _=>⟨_,rfl,fun j u hu=>?_⟩,fun h=>by cases h⟩
 rw[Addr.add_mid,Nat.zero_add,cell_of_row _ _ j _ _ _ hg]
 simpa using hu
end
end Go.Rl
namespace Go.Rl
open Go.RowKit Go.Proofs
section
variable {w w':World} {g h:Nat} {T:TypeId} {st:Option (List UInt8)} {p:Option Addr} {b:Bool}
theorem dL.mv {X:Nat→Prop} (h:dL T g st w) (hm:Mv X w w') (hX:∀k,X k→g<k):dL T g st w':=by
 obtain⟨A,n,c,h1,h2,h3⟩:=h
 refine⟨A,n,c,hm.blk h1 fun hx=>Nat.lt_irrefl _ (hX g hx),?_,h3⟩
 obtain⟨A',n',c',he,h4,h5,h6,h7,h8⟩:=h2
 cases he
 refine⟨_,_,_,rfl,h4,h5,h6,fun hn=>?_,h8⟩
 obtain⟨ad,rfl,hc⟩:=h7 hn
 refine⟨ad,rfl,hm.cells hc fun _ hx=>?_⟩
 have:=hX _ hx
 have:=h3 ad rfl
 omega
end
end Go.Rl
namespace Go.Rl
open Go.RowKit Go.Proofs
theorem sM (off:Nat):∀(cs:List Value) (k:Nat) (p q r:List Value),p.length=off+k→q.length=cs.length→
 (cs.zipIdx k).foldl (fun(a:Array Value) (x:Value×Nat)=>a.setIfInBounds (off+x.2) x.1) (p++q++r).toArray=(p++cs++r).toArray
 |[],k,p,q,r,_,hq=>by
  have:q=[]:=List.eq_nil_of_length_eq_zero (by simpa using hq)
  subst this
  rfl
 |c::cs,k,p,q,r,hp,hq=>by
  cases q with
  |nil=>simp at hq
  |cons q0 q=>
   simp only[List.zipIdx_cons,List.foldl_cons]
   have e:((p++q0::q++r).toArray).setIfInBounds (off+k) c=((p++[c])++q++r).toArray:=by
    simp[←hp]
   rw[e,sM off cs (k+1) (p++[c]) q r (by simp;omega) (by simpa using hq)]
   simp
theorem oS {sz:Nat}:∀(vs:List (List Value)) (k:Nat) (a b:List Value),(∀v∈vs,v.length=sz)→a.length=k*sz→b.length=vs.length*sz→
 Instr.fill (fun i=>some (i*sz,sz)) (a++b).toArray (dS k (vs.map fun v=>Value.agg v.toArray))=some (a++vs.flatten).toArray
 |[],k,a,b,_,_,hb=>by
  have:b=[]:=List.eq_nil_of_length_eq_zero (by simpa using hb)
  subst this
  rfl
 |v::vs,k,a,b,hv,ha,hb=>by
  have hvl:=hv v (by simp)
  have hbl:b.length=sz+vs.length*sz:=by rw[hb,List.length_cons,Nat.add_mul];omega
  have hc:((Value.agg v.toArray).cells.size≠sz||decide (k*sz+(Value.agg v.toArray).cells.size>(a++b).toArray.size))=false:=by
   simp[Value.cells,hvl,ha,hbl]
  have hz:(Value.agg v.toArray).cells.zipIdx.foldl (fun(cs:Array Value) (x:Value×Nat)=>cs.setIfInBounds (k*sz+x.2) x.1) (a++b).toArray=((a++v)++b.drop sz).toArray:=by
   have h:=sM (k*sz) v 0 a (b.take sz) (b.drop sz) (by omega) (by rw[List.length_take];omega)
   rw[List.append_assoc,List.take_append_drop] at h
   rw[←h]
   simp[Value.cells]
  simp only[List.map_cons,dS,Instr.fill]
  rw[hc]
  have ih:=oS vs (k+1) (a++v) (b.drop sz) (fun u hu=>hv u (by simp[hu])) (by rw[List.length_append,ha,hvl,Nat.add_mul];omega) (by rw[List.length_drop,hbl];omega)
  simp only[Bool.false_eq_true,if_false]
  rw[hz,ih]
  simp
theorem EC {P:Program} {w:World} {t e:TypeId} {z:Value} {sz:Nat} (ht:P.underlying t=some (.slice e)) (hi:(P.info? e).map (fun i=>(i.zero,i.size))=some (some z,sz)) (hz:z.cells.size=sz) (h0:0<sz)
 (vs:List (List Value)) (hv:∀v∈vs,v.length=sz) (hn:0<vs.length) (hl:vs.length*sz≤16777216):
 ∃r w',(Instr.buildSlice t vs.length (dS 0 (vs.map fun v=>Value.agg v.toArray)).toArray).run P w=.ok r w'∧aM w w'∧Sl sz vs.flatten r w'∧r.ownBlock=some w.heap.size:=by
 obtain⟨i,hi',h2⟩:=Option.map_eq_some_iff.1 hi
 simp only[Prod.mk.injEq] at h2
 obtain⟨hz0,hs⟩:=h2
 have hfl:vs.flatten.length=vs.length*sz:=by
  rw[List.length_flatten]
  have:∀l:List (List Value),(∀v∈l,v.length=sz)→(l.map List.length).sum=l.length*sz:=by
   intro l
   induction l with
   |nil=>intro _;simp
   |cons a l ih=>intro h;simp only[List.map_cons,List.sum_cons,List.length_cons,h a (by simp),ih fun v hv=>h v (by simp[hv]),Nat.add_mul];omega
  exact this vs hv
 have hf:∀Z:Array Value,Z.size=vs.length*sz→Instr.fill (fun i=>some (i*sz,sz)) Z (dS 0 (vs.map fun v=>Value.agg v.toArray))=some vs.flatten.toArray:=fun Z hZ=>by
  have:=oS vs 0 [] Z.toList hv (by simp) (by simpa using hZ)
  simpa using this
 have hle:¬(vs.length*sz>2^24):=by omega
 have hinfo:(typeInfo e).run P w=.ok i w:=by simp[typeInfo,hi']
 have hsz:(sizeOf e).run P w=.ok sz w:=by simp[sizeOf,hinfo,hs]
 have hzv:(zeroValue e).run P w=.ok z w:=by simp[zeroValue,hinfo,hz0]
 have hpos:0<vs.length*sz:=Nat.mul_pos hn h0
 refine⟨.slice (some ⟨w.heap.size,0,none⟩) vs.length vs.length,w.alloc (.cells vs.flatten.toArray e),?_,aM.new w _,?_,rfl⟩
 ·simp only[Instr.buildSlice,Sem.run_bind,run_underlying ht,Result.andThen_ok,hsz,if_neg hle]
  rw[if_neg (by omega)]
  simp only[Sem.run_bind,Sem.run_pure,Result.andThen_ok,hzv]
  rw[hf _ (by simp[hz,Nat.mul_comm])]
  simp[newRow]
 ·have hg:=heap_alloc_new w (.cells vs.flatten.toArray e)
  refine⟨_,_,_,rfl,Nat.le_refl _,by unfold maxLen;have:vs.length≤vs.length*sz:=Nat.le_mul_of_pos_right _ h0;omega,hfl,fun _=>⟨_,rfl,fun j u hu=>?_⟩,fun h=>by cases h⟩
  rw[Addr.add_mid,Nat.zero_add,cell_of_row _ _ j _ _ _ hg]
  simpa using hu
end Go.Rl
namespace Go.Rl
open Go.RowKit Go.Proofs
section
variable {α:Type} {f:α→Dt} {l:List α} {v x:Value} {w w':World} {e t ty:TypeId} {sz base:Nat}
def fw (e:TypeId) (sz base:Nat) (f:α→Dt) (l:List α) (v:Value) (w:World):Prop:=∃n xs,w.ownsRow base e sz v n xs∧aO (fun k=>k<base∨v.ownBlock=some k) w (l.map f) xs
theorem fw.nil (w:World):fw e sz base f ([]:List α) (.slice none 0 0) w:=⟨0,[],World.ownsRow_nil _ _ _ _,aO.nil⟩
theorem fw.lt (h:fw e sz base f l v w):∀k,v.ownBlock=some k→base≤k∧k<w.heap.size:=fun k hk=>by
 obtain⟨n,xs,h,_⟩:=h
 exact World.ownsRow.lt h k hk
theorem fw.isS (h:fw e sz base f l v w):∃A n c,v=.slice A n c:=by
 obtain⟨n,xs,⟨_,h|⟨g,cap,cur,rfl,_⟩⟩,_⟩:=h
 ·exact⟨_,_,_,h.1⟩
 ·exact⟨_,_,_,rfl⟩
theorem fw.rpx (h:fw e sz base f l v w) (hs:∀a,(f a).size=sz) (h0:0<sz):cK (fun k=>k<base) w (.sl (l.map f)) [v]:=by
 obtain⟨n,xs,h1,h2⟩:=h
 exact cK.ofOwn h1 (h2.weak fun k hk=>.inl (.inl hk)) (by simp[hs]) h0 fun k hk=>Nat.not_lt.2 (World.ownsRow.lt h1 k hk).1
theorem fw.mv {X:Nat→Prop} (h:fw e sz base f l v w) (hm:Mv X w w') (hX:∀k,X k→k<base):fw e sz base f l v w':=by
 obtain⟨n,xs,h1,h2⟩:=h
 refine⟨n,xs,⟨h1.1,?_⟩,aO.mv (hm.weak fun k hk _=>.inl (hX k hk)) (fun k hk=>.inl hk) h2⟩
 rcases h1.2 with h3|⟨g,cap,cur,rfl,h3,h4,h5⟩
 ·exact .inl h3
 ·refine .inr ⟨g,cap,cur,rfl,h3,?_,h5⟩
  rw[hm.keep g (Array.getElem?_eq_some_iff.1 h4).1 fun hx=>by have:=hX g hx;omega]
  exact h4
theorem fw.app {P:Program} {z:Value} {bytes:Nat} (ht:P.underlying t=some (.slice e)) (hi:(P.info? e).map (fun i=>(i.zero,i.size,i.bytes))=some (some z,sz,bytes)) (hzs:z.cells.size=sz) (hsz:0<sz) (hb0:0<bytes)
 (h:fw e sz base f l v w) {a:α} {cs:List Value} (hx:Sl sz cs x w) (h1:aI cs) (ha:cK (fun k=>k<base∨v.ownBlock=some k) w (f a) cs) (hs:∀a,(f a).size=sz) (hb:(l.length+1)*bytes≤140737488355328) (hbase:base≤w.heap.size):
 ∃r w1,(Builtin.append_ #[t,t] ty #[v,x]).run P w=.ok r w1∧fw e sz base f (l++[a]) r w1∧gJ w w1 v r:=by
 obtain⟨n,xs,h2,h3⟩:=h
 have hxl:xs.length=l.length*sz:=by rw[h3.len,df (sz:=sz) (by simp[hs]),List.length_map]
 have hcl:cs.length=sz:=by rw[ha.len,hs]
 obtain⟨r,w1,n',h4,h5,h6⟩:=og (P:=P) (ty:=ty) ht hi hzs hsz h2 hx h1 (by
  rw[hxl,hcl,show l.length*sz+sz=(l.length+1)*sz by rw[Nat.add_mul,Nat.one_mul],Nat.mul_right_comm]
  exact Nat.mul_le_mul_right _ hb) hb0 hbase
 refine⟨r,w1,h4,⟨n',_,h5,?_⟩,h6⟩
 have hm:Mv (fun k=>k<base∨v.ownBlock=some k) w w1:=Mv.of_grown h6.grown fun k hk _=>.inr hk
 have hY:∀k,(k<base∨r.ownBlock=some k)→(k<base∨v.ownBlock=some k)∨w.heap.size≤k:=fun k hk=>by
  rcases hk with hk|hk
  ·exact .inl (.inl hk)
  ·rcases h6.own with h7|h7
   ·rw[h7] at hk;exact .inl (.inr hk)
   ·exact .inr (h7 k hk)
 rw[List.map_append]
 exact aO.append (aO.mv hm hY h3) (by simpa using aO.cons (cK.mv hm hY ha) aO.nil)
theorem fw.push {P:Program} {z:Value} {bytes:Nat} (ht:P.underlying t=some (.slice e)) (hi:(P.info? e).map (fun i=>(i.zero,i.size,i.bytes))=some (some z,sz,bytes)) (hzs:z.cells.size=sz) (hsz:0<sz) (hsb:sz≤16777216) (hb0:0<bytes)
 (h:fw e sz base f l v w) {a:α} {cs:List Value} (h1:aI cs) (ha:cK (fun k=>k<base∨v.ownBlock=some k) w (f a) cs) (hs:∀a,(f a).size=sz) (hb:(l.length+1)*bytes≤140737488355328) (hbase:base≤w.heap.size):
 ∃x w0 r w1,(Instr.buildSlice t 1 (dS 0 [Value.agg cs.toArray]).toArray).run P w=.ok x w0∧(Builtin.append_ #[t,t] ty #[v,x]).run P w0=.ok r w1∧fw e sz base f (l++[a]) r w1∧Mv (fun k=>v.ownBlock=some k) w w1∧∀k,r.ownBlock=some k→v.ownBlock=some k∨w.heap.size≤k:=by
 have hcl:cs.length=sz:=by rw[ha.len,hs]
 have hi2:(P.info? e).map (fun i=>(i.zero,i.size))=some (some z,sz):=by
  obtain⟨i,hi',h2⟩:=Option.map_eq_some_iff.1 hi
  simp only[Prod.mk.injEq] at h2
  rw[hi']
  simp[h2.1,h2.2.1]
 obtain⟨x,w0,h3,h4,h5,_⟩:=EC (w:=w) ht hi2 hzs hsz [cs] (by simp[hcl]) (by simp) (by simpa using hsb)
 have h':fw e sz base f l v w0:=by
  obtain⟨n,xs,h6,h7⟩:=h
  exact⟨n,xs,jI h6 h4,h7.ext h4⟩
 obtain⟨r,w1,h6,h7,h8⟩:=h'.app (ty:=ty) ht hi hzs hsz hb0 (by simpa using h5) h1 (ha.ext h4) hs hb (Nat.le_trans hbase h4.size)
 refine⟨x,w0,r,w1,by simpa using h3,h6,h7,(Mv.of_ext h4).trans (Mv.of_grown h8.grown fun k hk _=>hk) fun _ hn _=>hn,fun k hk=>?_⟩
 rcases h8.own with h9|h9
 ·rw[h9] at hk;exact .inl hk
 ·exact .inr (Nat.le_trans h4.size (h9 k hk))
end
end Go.Rl
namespace Go.Rl
open Go.RowKit
section
variable {P:Program} {ops:Array Oper} {Env:World→Prop} {Rl:World→World→Prop} {mo:Bool} {Pn:List PanicEntry→World→Prop} {N:Nat}
def jT (ops:Array Oper) (n:Nat):Bool:=
 (List.range ops.size).all fun t=>decide (t≤n)||(List.range t).any fun j=>decide (n≤j)&&Region.waitsFor .any ops t j
theorem yi {n:Nat} {listed:Array Bool} (hs:Region.sinkB .any ops n=true) (hc:jT ops n=true) (inv:HeadInv .any ops n listed):
 ∀(d i:Nat),n-i=d→i<n→listed.getD i true=false→∀t,n≤t→t∉Region.ready .any ops listed:=by
 intro d
 induction d using Nat.strongRecOn with
 |_ d ih=>
  intro i hd hi hun t ht hr
  obtain⟨_,ot,hot,hall⟩:=mem_ready.1 hr
  have htlt:t<ops.size:=(Array.getElem?_eq_some_iff.1 hot).1
  by_cases htn:t=n
  ·subst htn
   have h1:=List.all_eq_true.1 hs i (List.mem_range.2 hi)
   obtain⟨j,hj,hj2⟩:=List.any_eq_true.1 h1
   simp only[Bool.and_eq_true,decide_eq_true_eq] at hj2
   obtain⟨oj,hoj,e,he,hb,hon⟩:=Region.waitsFor_spec hj2.2
   have hjle:j≤t:=by have:=List.mem_range.1 hj;omega
   by_cases hjt:j=t
   ·subst hjt
    have:oj=ot:=Option.some.inj (hoj.symm.trans hot)
    subst this
    have h2:=hall e he hb
    rw[hon,getD_both hun] at h2
    cases h2
   ·cases hl:listed.getD j false with
    |true=>
     have h2:=inv.closed j oj hoj hl e he hb
     rw[hon,getD_both hun] at h2
     cases h2
    |false=>
     have hjs:j<listed.size:=by rw[inv.size];omega
     exact ih (t-j) (by omega) j rfl (by omega) (getD_in hjs hl) t (Nat.le_refl _) hr
  ·have h1:=List.all_eq_true.1 hc t (List.mem_range.2 htlt)
   simp only[Bool.or_eq_true,decide_eq_true_eq] at h1
   rcases h1 with h1|h1
   ·omega
   ·obtain⟨j,hj,hj2⟩:=List.any_eq_true.1 h1
    simp only[Bool.and_eq_true,decide_eq_true_eq] at hj2
    have hjt:=List.mem_range.1 hj
    obtain⟨o',ho',e,he,hb,hon⟩:=Region.waitsFor_spec hj2.2
    have:o'=ot:=Option.some.inj (ho'.symm.trans hot)
    subst this
    have h2:=hall e he hb
    rw[hon,getD_both (inv.tail j hj2.1 (by omega))] at h2
    cases h2
def sO (o:Oper):Bool:=o.guard.isNone&&o.dst.isSome&&match o.op with|.extract .. |.move _|.assign _=>true|_=>false
theorem CL {o:Oper} (h:sO o=true) (ρ:Operand→Value):(∃v,∀w,(execOp ρ o).run P w=.ok (.value v) w)∨∃x,(∀v,x≠.panic v)∧∀w,(execOp ρ o).run P w=.halt x w:=by
 obtain⟨dst,op,ty,pos,aft,g⟩:=o
 unfold sO at h
 simp only[Bool.and_eq_true] at h
 have h2:=h.2
 cases op<;>simp only[] at h2
 case move x=>exact .inl ⟨ρ x,fun w=>by simp[execOp]⟩
 case assign x=>exact .inl ⟨ρ x,fun w=>by simp[execOp]⟩
 case extract x n=>
  have e:execOp ρ ⟨dst,.extract x n,ty,pos,aft,g⟩=(do pure (Next.value (←Instr.extract (ρ x) n)):Sem Next):=rfl
  rw[e]
  cases hx:ρ x with
  |tuple vs=>
   cases hv:vs[n]? with
   |some v=>exact .inl ⟨v,fun w=>by simp[Instr.extract,hv]⟩
   |none=>exact .inr ⟨.stuck "Extract: no such component",fun v=>by simp,fun w=>by simp[Instr.extract,hv,stuck,Sem.run]⟩
  |_=>exact .inr ⟨.stuck "Extract: tuple expected",fun v=>by simp,fun w=>by simp[Instr.extract,stuck,Sem.run]⟩
 all_goals cases h2
def nQ (ops:Array Oper):List Nat→Array Bool→Bool
 |[],listed=>(Region.ready .any ops listed).isEmpty
 |i::rest,listed=>(decide (Region.ready .any ops listed=[i])||((match ops[i]? with|some o=>sO o|none=>false)&&Region.free .any ops listed i&&(Region.ready .any ops listed).contains i))&&nQ ops rest (listed.setIfInBounds i true)
theorem iw {Q:fB} (hsel:Region.noSelect ops=true):∀(perm:List Nat) (os:List Oper) (listed:Array Bool) (a:Act) (w:World),(perm.map fun i=>ops[i]?)=os.map some→nQ ops perm listed=true→wpList P ops (gS Q) os a w→wpAny P .any ops (gS Q) perm.length listed a w
 |[],os,listed,a,w,ho,hB,h=>by
  have:os=[]:=by cases os with|nil=>rfl|cons o os=>simp at ho
  subst this
  exact⟨by simpa [nQ] using hB,h⟩
 |i::perm,os,listed,a,w,ho,hB,h=>by
  cases os with
  |nil=>simp at ho
  |cons o os=>
   simp only[List.map_cons,List.cons.injEq] at ho
   obtain⟨h0,ho⟩:=ho
   simp only[nQ,Bool.and_eq_true,Bool.or_eq_true,decide_eq_true_eq] at hB
   obtain⟨hB1,hB2⟩:=hB
   have nolet:¬LetsOut (gS Q):=fun⟨_,_,hq⟩=>by obtain⟨hq,_⟩:=hq;cases hq
   rcases hB1 with hr|⟨⟨hq,hf⟩,hr⟩
   ·refine⟨fun h1=>(by rw[hr] at h1;cases h1),fun k hk=>?_⟩
    rw[hr] at hk
    have hik:k=i:=by simpa using hk
    subst hik
    have hw:wpOp P ops (gS Q) k (wpList P ops (gS Q) os) a w:=by unfold wpOp;simp only[h0];exact h
    exact wpOp_mono (fun a' w' h'=>iw hsel perm os _ a' w' ho hB2 h') hw
   ·rw[h0] at hq
    have hq:sO o=true:=hq
    have hwant:Region.wanted o (yielded ops a.tmps)=true:=by
     unfold sO at hq
     simp only[Bool.and_eq_true,Option.isNone_iff_eq_none] at hq
     unfold Region.wanted
     rw[hq.1.1]
    unfold wpList at h
    rw[if_pos hwant] at h
    have h:=h.resolve_right fun h=>nolet h.2
    unfold Oper.wp at h
    rcases CL (P:=P) hq a.eval with⟨v,hv⟩|⟨x,hx,hv⟩
    ·rw[hv w] at h
     exact wpAny_take h0 hsel hf hr (fun c a w hp=>by obtain⟨hp,_⟩:=hp;cases hp) (.inl ⟨hwant,hv⟩) (iw hsel perm os _ _ w ho hB2 h)
    ·rw[hv w] at h
     cases x<;>first|exact absurd rfl (hx _)|exact h.elim
theorem nk {n i:Nat} {oi:Oper} {S:dx} {L:Array Bool→cp→iN→Prop} (hi:ops[i]? =some oi) (hcalls:mo=true→fW .any ops=true)
 (hs:Region.sinkB .any ops n=true) (hc:jT ops n=true) (hin:i<n)
 (hdone:∀listed F Z,L listed F Z→∀j∈Region.ready .any ops listed,n≤j):
 ∀(f:Nat) (listed:Array Bool) (F:cp) (Z Z':iN),HeadInv .any ops n listed→
  (∀j oj,ops[j]? =some oj→j≠i→listed.getD j true=false→(∀e∈oj.after,Region.binds .any e=true→e.on≠i)→oi.apart ops oj=true)→
  i∈Region.ready .any ops listed→fp P ops Env Rl mo Pn N F Z oi S Z'→
  gG P .any ops Env Rl mo Pn N n L f (listed.setIfInBounds i true) (iz F oi.dst S) Z'→gG P .any ops Env Rl mo Pn N n L (f+1) listed F Z:=
 jP hi hcalls hin (fun _ inv hun t ht=>yi hs hc inv _ i rfl hin hun t ht) hdone
def gO (ops:Array Oper) (n:Nat) (perm:List Nat):Nat→Nat→Array Bool→Bool
 |0,_,listed=>nQ ops perm listed&&(Region.ready .any ops listed).all fun j=>decide (n≤j)
 |f+1,k,listed=>(Region.ready .any ops listed).contains k&&Region.free .any ops listed k&&gO ops n perm f (k+1) (listed.setIfInBounds k true)
theorem qs {n:Nat} {perm:List Nat} {Lq:cp→iN→Prop} (hcalls:mo=true→fW .any ops=true) (hs:Region.sinkB .any ops n=true) (hc:jT ops n=true):
 ∀(l:List Oper) (k:Nat) (listed:Array Bool) (F:cp) (Z:iN),(∀j,j<l.length→l[j]? =ops[k+j]?)→k+l.length=n→HeadInv .any ops n listed→
 gO ops n perm l.length k listed=true→(∀t,bR Rl (F t))→cH Z→fg P ops Env Rl mo Pn N l F Z Lq→
 gG P .any ops Env Rl mo Pn N n (fun listed' F' Z'=>(nQ ops perm listed'=true∧(Region.ready .any ops listed').all (fun j=>decide (n≤j))=true)∧Lq F' Z') l.length listed F Z
 |[],k,listed,F,Z,_,hk,_,hB,_,_,h=>by
  simp only[List.length_nil,gO,Bool.and_eq_true] at hB
  exact⟨hB,h⟩
 |o::l,k,listed,F,Z,hl,hk,inv,hB,hF,hZ,h=>by
  have h0:ops[k]? =some o:=by simpa using(hl 0 (by simp)).symm
  simp only[List.length_cons,gO,Bool.and_eq_true] at hB
  obtain⟨⟨hr,hf⟩,hB'⟩:=hB
  have hkn:k<n:=by simp only[List.length_cons] at hk;omega
  have hr':k∈Region.ready .any ops listed:=by simpa using hr
  obtain⟨S,Z',hspec,hrest⟩:=h hF hZ
  exact nk h0 hcalls hs hc hkn (fun listed' F' Z' hL j hj=>by simpa using List.all_eq_true.1 hL.1.2 j hj) l.length listed F Z Z' inv (Region.free_spec h0 hf) hr' hspec
   (qs hcalls hs hc l (k+1) _ _ _ (fun j hj=>by have:=hl (j+1) (by simp;omega);simpa [Nat.add_assoc,Nat.add_comm 1 j] using this) (by simp only[List.length_cons] at hk;omega) (inv.set hr' hkn) hB' (jm hF hspec.stable) (hspec.zst hZ) hrest)
def Bi (ops:Array Oper) (n:Nat) (perm:List Nat):Bool:=
 Region.noSelect ops&&decide (n<ops.size)&&Region.sinkB .any ops n&&jT ops n&&decide (n+perm.length=ops.size)&&gO ops n perm n 0 (Array.replicate ops.size false)
def pO (os:List Oper):List Nat→List Oper
 |[]=>[]
 |i::is=>match os[i]? with|some o=>o::pO os is|none=>pO os is
theorem vT {Q:fB} {a:Act} {D:List Deferred} {F:cp} {Z:iN} {w:World} {l:List Oper} {n:Nat} {perm:List Nat} (hE:fE Env Rl) (hP:∀c w,¬Pn c w) (hcalls:mo=true→fW .any l.toArray=true) (hB:Bi l.toArray n perm=true) (hp:(perm.all fun i=>decide (i<l.length))=true)
 (hF:∀t,bR Rl (F t)) (hZ:cH Z) (hz:Z w) (he:Env w) (hsat:xd N D F a {w with drawn:=w.drawn+1})
 (h:fg P l.toArray Env Rl mo Pn N (l.take n) F Z (fun F Z=>∀a' w',Env w'→xd N D F a' w'→Z w'→wpList P l.toArray (gS Q) (pO l perm) a' w')):wpAny P .any l.toArray (gS Q) l.toArray.size (Array.replicate l.toArray.size false) a {w with drawn:=w.drawn+1}:=by
 have hdr:aM w {w with drawn:=w.drawn+1}:=⟨rfl,rfl,rfl,Nat.le_refl _,fun _ _=>rfl⟩
 simp only[Bi,Bool.and_eq_true,decide_eq_true_eq] at hB
 obtain⟨⟨⟨⟨⟨hsel,hn⟩,hs⟩,hc⟩,hlen⟩,hlex⟩:=hB
 have hn':n<l.length:=by simpa using hn
 have htl:(l.take n).length=n:=by simp;omega
 have inv0:HeadInv .any l.toArray n (Array.replicate l.toArray.size false):=
  ⟨by simp,fun j oj _ hl=>(by rw[getD_replicate_false] at hl;cases hl),fun t _ ht=>getD_in (by simpa using ht) (getD_replicate_false _ _)⟩
 have H:=qs (perm:=perm) hcalls hs hc (l.take n) 0 _ _ _ (fun j hj=>by
  have hj':j<n:=by rw[htl] at hj;exact hj
  simp[hj']) (by simpa using htl) inv0 (by rw[htl];exact hlex) hF hZ h
 have hpick:∀(perm:List Nat),(perm.all fun i=>decide (i<l.length))=true→(perm.map fun i=>l.toArray[i]?)=(pO l perm).map some:=by
  intro perm
  induction perm with
  |nil=>intro _;rfl
  |cons i is ih=>
   intro hp
   simp only[List.all_cons,Bool.and_eq_true,decide_eq_true_eq] at hp
   have e:l[i]? =some l[i]:=List.getElem?_eq_getElem hp.1
   simp only[List.map_cons,pO,e,List.getElem?_toArray]
   rw[←ih hp.2]
   simp
 have:=eU (D:=D) (Q':=gS Q) (l0:=[]) (g:=perm.length) hE (fun c _ w _ _ _ h=>absurd h (hP c w)) (fun _ _ _ _ _ _ _ hp=>by cases hp) (fun listed F Z hL hF hZ a' w' he hsat hz=>iw hsel perm (pO l perm) listed a' w' (hpick perm hp) hL.1.1 (hL.2 a' w' he hsat hz)) _ _ _ _ H hF hZ a {w with drawn:=w.drawn+1} (hE.keep _ _ he (hE.ext _ _ hdr)) hsat (fun _ hp=>by cases hp) (hZ _ _ hz hdr)
 rw[htl,hlen] at this
 exact this
theorem ED {D:List Deferred} {l:Fr} {a:Act} {w:World} (ha:At N D l a):xd N D (qT l) a w:=⟨ha.size,ha.defers,fun t=>by
 show qT l t (a.tmps.getD t undef) _
 unfold qT
 cases hv:lk l t with
 |some v=>exact ha.at_ t v hv
 |none=>trivial⟩
theorem EE {Q:fB} {D:List Deferred} {l:Fr} {w:World} {id:Nat} {os:List Oper} (n:Nat) (perm:List Nat) (ts:List Nat) (Env:World→Prop) (Rl:World→World→Prop) (mo:Bool) (Z:iN) (hE:fE Env Rl) (he:Env w) (hZ:cH Z) (hz:Z w) (hcalls:mo=true→fW .any os.toArray=true) (hm:P.follows .mixedOrders=true) (hB:Bi os.toArray n perm=true) (hp:(perm.all fun i=>decide (i<os.length))=true)
 (h:fg P os.toArray Env Rl mo G7 N (os.take n) (qT l) Z (fun F Z=>∀w',Env w'→Z w'→gU F w' ts (fun l'=>bP P os.toArray (gS Q) N D l' w' (pO os perm)))):cW P Q N D l w (.region id os.toArray true):=fun a ha=>by
 refine wp_mono (wp_region_any (Q:=gS Q) hm (vT (D:=D) hE (fun _ _ h=>h) hcalls hB hp (fF l) hZ hz he (ED ha) (iA _ _ _ (fun F Z hK a' w' he hs hz=>?_) h))) fun e a w he=>by obtain⟨rfl,h⟩:=he;exact h
 obtain⟨l',hl',hk⟩:=gU.use hs (hK w' he hz)
 exact hk a' hl'
theorem Gc {Q:fB} {D:List Deferred} {l:Fr} {w:World} {id:Nat} {os:List Oper} (n:Nat) (perm:List Nat) (ts:List Nat) (hm:P.follows .mixedOrders=true) (hB:Bi os.toArray n perm=true) (hp:(perm.all fun i=>decide (i<os.length))=true)
 (h:fg P os.toArray (aM w) aM false G7 N (os.take n) (qT l) (fun _=>True) (fun F _=>∀w',aM w w'→gU F w' ts (fun l'=>bP P os.toArray (gS Q) N D l' w' (pO os perm)))):cW P Q N D l w (.region id os.toArray true):=
 EE n perm ts (aM w) aM false (fun _=>True) (fE.plain w) (aM.refl w) cH.triv trivial (fun h=>by cases h) hm hB hp (iA _ _ _ (fun _ _ h w' he _=>h w' he) h)
theorem vU {Q:fB} {D:List Deferred} {l:Fr} {w:World} (h:fS Q N D l w):fS (gS Q) N D l w:=fun a ha=>⟨rfl,h a ha⟩
theorem sP {Q:fB}:¬LetsOut (gS Q):=fun⟨_,_,hq⟩=>by
 obtain⟨hq,_⟩:=hq
 cases hq
theorem I.Hm {Q:fB} {D:List Deferred} {l:Fr} {w:World} {rd:Option Nat} {id:Nat} {os:List Oper} (S:World→Prop) (n:Nat) (hn:os.toArray.size=n) (hm:P.follows .mixedOrders=true) (hd:kO os=true)
 (h:fu P os.toArray Q N D S n (Array.replicate n false) l w.drew):fb rd P Q N D l w (.region id os.toArray true):=fun a ha=>by
 subst hn
 refine wpIn_mono (wpIn_region_draw (Q:=gS Q) fun t=>ox sP (.inr hd) _ _ _ ?_) fun e a w he=>by obtain⟨rfl,h⟩:=he;exact h
 simp only[Region.schedule,hm,Bool.true_or,if_true]
 exact wpAny_sound os.toArray.size t _ a _ (wpAny_of_held _ _ _ _ (h a ha))
end
end Go.Rl
namespace Go.Rl
open Go.RowKit
def lh (T:Value→World→Prop) (Pn:List PanicEntry→World→Prop):Ending→World→Prop:=fun e w'=>(∃v,e=.returned v∧T v w')∨∃c,e=.panicked c∧Pn c w'
theorem lh.mono {P:Program} {f:FuncId} {args:Array Value} {w:World} {T T':Value→World→Prop} {Pn Pn':List PanicEntry→World→Prop} (h:Calls P f args w (lh T Pn)) (hT:∀v w',T v w'→T' v w') (hP:∀c w',Pn c w'→Pn' c w'):Calls P f args w (lh T' Pn'):=
 Calls.mono h fun _ _ he=>he.imp (fun⟨v,h,hv⟩=>⟨v,h,hT _ _ hv⟩) fun⟨c,h,hc⟩=>⟨c,h,hP _ _ hc⟩
section
variable {P:Program} {ops:Array Oper} {Q:fB} {N:Nat} {D:List Deferred} {l:Fr} {w:World} {rest:List Oper} {d:Nat} {ty:TypeId} {pos:String} {aft:Array Edge}
theorem i6 {f:FuncId} {xs:List Operand} {vs:List Value} {ts:Array TypeId} {T:Value→World→Prop} {Pn:List PanicEntry→World→Prop} (hf:az P f) (hp:rt l xs=some vs) (hd:Nat.blt d N=true) (hc:Calls P f vs.toArray w (lh T Pn))
 (hP:∀c a w',At N D l a→Pn c w'→Q (.panic c) a w')
 (k:∀v w',T v w'→bP P ops Q N D ((d,v)::l) w' rest):bP P ops Q N D l w (⟨some d,.call {callee:=.value (.func f),args:=xs.toArray,argTypes:=ts},ty,pos,aft,none⟩::rest):=fun a ha=>by
 have hr:(execOp a.eval ⟨some d,.call {callee:=.value (.func f),args:=xs.toArray,argTypes:=ts},ty,pos,aft,none⟩).run P w=.ok (.enter f vs.toArray) w:=by
  have hρ:nf l a.eval:=fun x v hx=>ha.ev hx
  simp only[execOp,resolve,List.map_toArray,g0 hρ hp,Act.eval,Deferred.ofValue,Sem.run_bind,Sem.run_pure,Result.andThen_ok,invoke,Array.append_empty,fi hf,Array.empty_append]
 unfold wpList
 rw[if_pos (by rfl)]
 refine .inl ?_
 unfold Oper.wp
 rw[hr]
 refine hc.mono ?_
 rintro e w' (⟨v,rfl,hv⟩|⟨c,rfl,hp⟩)
 ·exact k v w' hv _ (ha.put hd v)
 ·exact hP c a w' ha hp
theorem rh {x:Operand} {u:TypeId} {v:Value} (hx:ev l x=some (.iface u v)) (hP:∀a,At N D l a→Q (.panic [{v:=.iface u v,recovered:=false}]) a w):bP P ops Q N D l w (⟨none,.panic x,ty,pos,aft,none⟩::rest):=fun a ha=>by
 have hr:(execOp a.eval ⟨none,.panic x,ty,pos,aft,none⟩).run P w=.halt (.panic (.iface u v)) w:=by
  have e:a.eval x=.iface u v:=ha.ev hx
  simp[execOp,e,Instr.panic,goPanic,Sem.run]
 unfold wpList
 rw[if_pos (by rfl)]
 refine .inl ?_
 unfold Oper.wp
 rw[hr]
 exact hP a ha
theorem jK {t:TypeId} {x:Operand} {u r:Value} (hx:ev l x=some u) (hd:Nat.blt d N=true) (hrun:(Instr.makeInterface t u).run P w=.ok r w)
 (k:bP P ops Q N D ((d,r)::l) w rest):bP P ops Q N D l w (⟨some d,.makeInterface t x,ty,pos,aft,none⟩::rest):=u7 (f:=Instr.makeInterface t) (fun _=>rfl) hx hd hrun k
end
end Go.Rl
namespace Go.Rl
open Go.RowKit Go.Proofs
def Bj (l:List Value) (o:Nat) (m:List Value):List Value:=l.take o++m++l.drop (o+m.length)
section
variable {P:Program} {w w1 w':World} {T TB t:TypeId} {g gB i o:Nat} {l m cs:List Value} {v:Value} {st s1:Option (List UInt8)}
theorem cd.stO (h:cd g T l w) (o:Nat) (hl:o+m.length≤l.length) (hi:(P.info? t).map (·.size)=some m.length) (h1:aI m):
 ∃w',(Instr.storeAt t (.pointer (some ⟨g,o,none⟩)) (.agg m.toArray)).run P w=.ok () w'∧w.grownBy w' (some g)∧cd g T (Bj l o m) w':=by
 have h':w.heap[g]? =some (.cells l.toArray T (0,0)):=h
 have hr:=run_storeCells_at (P:=P) g o T m 0 l.toArray w h' (by simpa using hl) h1
 refine⟨_,?_,bo w g _,h.row (Bj l o m)⟩
 simp only[Instr.storeAt,Instr.sureAddr,storeVar,Sem.run_bind,Sem.run_pure,Result.andThen_ok,dE hi]
 rw[if_neg (by simp[Value.cells])]
 simpa [Bj,Value.cells] using hr
theorem dL.put (hB:cd gB TB cs w) (hg:w.grownBy w1 (some g)) (hr:dL T g s1 w1) (hne:g<gB) {i:Nat} (hs:(P.info? t).map (·.size)=some 1) (hv:v.oneCell'=true) (hi:i<cs.length):
 ∃w2,(Instr.storeAt t (.pointer (some ⟨gB,i,none⟩)) v).run P w1=.ok () w2∧Mv (fun k=>k=g∨k=gB) w w2∧cd gB TB (cs.set i v) w2∧dL T g s1 w2∧w1.grownBy w2 (some gB):=by
 have h1:=hB.other hg (fun e=>by have:=Option.some.inj e;omega)
 obtain⟨w2,h2,h3,h4⟩:=h1.stC (P:=P) (t:=t) (i:=i) (v:=v) hs hv hi
 have m2:Mv (fun k=>k=gB) w1 w2:=Mv.of_grown h3 fun k hk _=>(Option.some.inj hk).symm
 exact⟨w2,h2,(Mv.of_grown hg fun k hk _=>.inl (Option.some.inj hk).symm).trans m2 fun _ hn _=>.inr hn,h4,hr.mv m2 fun k hk=>by omega,h3⟩
theorem dL.putO (hB:cd gB TB cs w) (hg:w.grownBy w1 (some g)) (hr:dL T g s1 w1) (hne:g<gB) (o:Nat) (hl:o+m.length≤cs.length) (hi:(P.info? t).map (·.size)=some m.length) (h1:aI m):
 ∃w2,(Instr.storeAt t (.pointer (some ⟨gB,o,none⟩)) (.agg m.toArray)).run P w1=.ok () w2∧Mv (fun k=>k=g∨k=gB) w w2∧cd gB TB (Bj cs o m) w2∧dL T g s1 w2∧w1.grownBy w2 (some gB):=by
 have hB1:=hB.other hg (fun e=>by have:=Option.some.inj e;omega)
 obtain⟨w2,h2,h3,h4⟩:=hB1.stO (P:=P) (t:=t) o hl hi h1
 have m2:Mv (fun k=>k=gB) w1 w2:=Mv.of_grown h3 fun k hk _=>(Option.some.inj hk).symm
 exact⟨w2,h2,(Mv.of_grown hg fun k hk _=>.inl (Option.some.inj hk).symm).trans m2 fun _ hn _=>.inr hn,h4,hr.mv m2 fun k hk=>by omega,h3⟩
end
end Go.Rl
namespace Go.Rl
open Go.RowKit Go.Proofs
theorem sQ:(Tryz.prog.info? 4).map (·.size)=some 1:=by kernel_rfl
theorem nC.rpx {w:World} {b:Nat} {l:List UInt32} {v:Value} (h:bt l v w) (hn:nC b v):cK (fun k=>k<b) w (js l) [v]:=by
 have h':Rp w (js l) [v]:=Rp.wds.2 h
 unfold js at h'⊢
 simp only[Rp] at h'
 obtain⟨A,n,c,hv,h2,h3,h4,h5,h6⟩:=h'
 obtain rfl:v=.slice A n c:=by simpa using hv
 simp only[cK]
 refine⟨A,n,c,rfl,h2,h3,h4,h5,fun hp=>?_⟩
 obtain⟨ad,xs,rfl,h8,h9⟩:=h6 hp
 refine⟨ad,xs,rfl,fun _ hb=>?_,h8,?_⟩
 ·have:=hn ad.block rfl
  omega
 ·have:∀(l:List UInt32) (ys:List Value),bL w (l.map tG) ys→aO (fun k=>k<b) w (l.map tG) ys:=by
   intro l
   induction l with
   |nil=>intro ys h;simpa only[List.map_nil,bL,aO] using h
   |cons a l ih=>
    intro ys h
    simp only[List.map_cons,bL,aO] at h⊢
    obtain⟨c1,c2,h1,h2,h3⟩:=h
    exact⟨c1,c2,h1,by simpa only[tG,Rp,cK] using h2,ih _ h3⟩
  exact this l xs h9
theorem nC.rpx' {w:World} {b:Nat} {l:List UInt32} {v:Value} (hn:nC b v) (h:bt l v w):cK (fun k=>k<b) w (js l) [v]:=nC.rpx h hn
theorem fE.mv (X:Nat→Prop) (w:World):fE (Mv X w) (Mv X):=⟨fun _ _ h=>Mv.of_ext h,fun _ _ h k=>h.trans k fun _ hn _=>hn⟩
theorem cK.isS {X:Nat→Prop} {w:World} {l:List Dt} {v:Value} (h:cK X w (.sl l) [v]):∃A n c,v=.slice A n c:=by
 simp only[cK] at h
 obtain⟨A,n,c,hv,_⟩:=h
 exact⟨A,n,c,by simpa using hv⟩
theorem li {X:Nat→Prop} {w:World} (n:Int):cK X w (sy n) [I n]:=by simp only[sy,cK,I]
end Go.Rl
namespace Go.Rl
open Go.RowKit Go.Proofs
theorem sR:az Tryz.prog 151:=⟨_,Tryz.func151,by kernel_rfl,rfl⟩
theorem CM:az Tryz.prog 131:=⟨_,Tryz.func131,by kernel_rfl,rfl⟩
theorem qt:az Tryz.prog 154:=⟨_,Tryz.func154,by kernel_rfl,rfl⟩
theorem sS:az Tryz.prog 116:=⟨_,Tryz.func116,by kernel_rfl,rfl⟩
theorem yj:az Tryz.prog 57:=⟨_,Tryz.func57,by kernel_rfl,rfl⟩
def RX (g:Nat):Nat→Prop:=fun k=>k=g
abbrev dD (st:Option (List UInt8)):Prop:=xa 549755813888 st
theorem sT (st:Option (List UInt8)):∃n s1,et cZ st n s1∧n<18446744073709551616∧∀{w:World} {g:Nat},cc g st w→Calls Tryz.prog 25 #[.pointer (some ⟨g,0,none⟩)] w (bF fun r w'=>w.grownBy w' (some g)∧r=.tuple #[bj (UInt64.ofNat n),I (if s1.isSome=true then 0 else 5)]∧cc g s1 w'):=by
 cases hU:st.bind cZ with
 |none=>exact⟨0,none,hU,by omega,fun hr=>nH hr hU⟩
 |some p=>
  obtain⟨n,t⟩:=p
  refine⟨n,some t,hU,?_,fun hr=>nI hr hU⟩
  cases st with
  |none=>cases hU
  |some l=>exact(eS (show cZ l=some (n,t) from hU)).2
theorem nR (st:Option (List UInt8)):∃n s1,et lM st n s1∧oJ n∧∀{w:World} {g:Nat},cc g st w→Calls Tryz.prog 152 #[.pointer (some ⟨g,0,none⟩)] w (bF fun r w'=>w.grownBy w' (some g)∧r=.tuple #[I n,I (if s1.isSome=true then 0 else 5)]∧cc g s1 w'):=by
 cases hU:st.bind cZ with
 |none=>
  refine⟨0,none,?_,by unfold oJ;omega,fun hr=>bF.mono (um hr) fun r w' h=>by rw[hU] at h;exact h⟩
  cases st with
  |none=>rfl
  |some l=>show(cZ l).map _=none;rw[show cZ l=none from hU];rfl
 |some p=>
  obtain⟨n,t⟩:=p
  have hI:et lM st (uz n) (some t):=by
   cases st with
   |none=>cases hU
   |some l=>show(cZ l).map _=_;rw[show cZ l=some (n,t) from hU];rfl
  exact⟨uz n,some t,hI,Bh hI,fun hr=>bF.mono (um hr) fun r w' h=>by rw[hU] at h;exact h⟩
theorem zN {w:World} {g:Nat} {st:Option (List UInt8)} (hr:cc g st w) (hl:dD st):
 Calls Tryz.prog 153 #[.pointer (some ⟨g,0,none⟩)] w (bF fun r w'=>w.grownBy w' (some g)∧∃(q:f5) (x y:Value) (s1:Option (List UInt8)),r=.tuple #[.agg #[B q.1,x,y],I (if s1.isSome=true then 0 else 5)]∧bt q.2.1 x w'∧bt q.2.2 y w'∧cK (fun k=>k<w.heap.size) w' (gi q) [B q.1,x,y]∧cc g s1 w'∧et kB st q s1):=by
 refine bF.mono (zJ hr hl) fun r w' hR=>⟨hR.1,?_⟩
 have h2:=hR.2
 have key:∀{q:f5} {x y:Value},cK (fun k=>k<w.heap.size) w' (js q.2.1) [x]→cK (fun k=>k<w.heap.size) w' (js q.2.2) [y]→cK (fun k=>k<w.heap.size) w' (gi q) [B q.1,x,y]:=fun {q x y} h1 h2=>by
  simp only[gi,cK]
  exact aO.cons (a:=[B q.1]) (by simp only[cK,B]) (aO.cons h1 (aO.cons (b:=[]) h2 aO.nil))
 cases hq:st.bind kB with
 |none=>
  rw[hq] at h2
  obtain⟨v,h3,⟨x,y,rfl,hx,hy⟩,h4⟩:=h2
  have hn:∀{z:Value},bt [] z w'→cK (fun k=>k<w.heap.size) w' (js []) [z]:=fun {z} hz=>by
   obtain⟨A,n,c,rfl,h5,h6,h7,h8,h9⟩:=hz
   simp only[js,List.map_nil,cK]
   have:n=0:=by simp at h7;omega
   subst this
   exact⟨A,0,c,rfl,rfl,h5,h6,h9,fun h=>by omega⟩
  exact⟨(false,[],[]),x,y,none,h3,hx,hy,key (hn hx) (hn hy),h4,hq⟩
 |some p=>
  obtain⟨q,t⟩:=p
  rw[hq] at h2
  obtain⟨x,y,h3,hx,hy,h4,n1,n2⟩:=h2
  exact⟨q,x,y,some t,h3,hx,hy,key (nC.rpx hx n1) (nC.rpx hy n2),h4,hq⟩
theorem Im {n m:Nat} (hn:n<18446744073709551616) (hm:m<18446744073709551616):UInt64.ofNat n≤UInt64.ofNat m↔n≤m:=by
 rw[UInt64.le_iff_toNat_le,UInt64.toNat_ofNat',UInt64.toNat_ofNat']
 omega
theorem zO {w:World} {g n most:Nat} {st s1:Option (List UInt8)} (hn:n<18446744073709551616) (hm:most<18446744073709551616) (hr:cc g st w)
 (hc:Calls Tryz.prog 25 #[.pointer (some ⟨g,0,none⟩)] w (bF fun r w'=>w.grownBy w' (some g)∧r=.tuple #[bj (UInt64.ofNat n),I (if s1.isSome=true then 0 else 5)]∧cc g s1 w')):
 Calls Tryz.prog 151 #[.pointer (some ⟨g,0,none⟩),bj (UInt64.ofNat most)] w (bF fun r w'=>w.grownBy w' (some g)∧r=.tuple #[bj (UInt64.ofNat n),B (s1.isSome&&decide (n≤most))]∧cc g s1 w'):=by
 refine enter (vs:=[.pointer (some ⟨g,0,none⟩),bj (UInt64.ofNat most)]) Tryz.func151 Jg Jg Jg ?_
 refine af (aa (ab Jg Jg (ab Jg Jg (ag (ac (af (aa (ae Jg Jg (an cA Jg Jg (hc) ?_)))))))))
 rintro v10 w10 ⟨g10,rfl,hr1⟩
 have m10:=dL.kp hr g10
 refine ae Jg Jg (aj Jg Jg (aS) (aj Jg Jg (aT) (ab Jg Jg (ab Jg Jg (ag (ac (af ?_)))))))
 rcases s1 with _|t
 rotate_left
 by_cases hnm:n≤most
 ·refine aa (ae Jg Jg (ae Jg Jg (ai Jg Jg Jg (cf Jg aV) (ae Jg Jg (al Jg (ae Jg Jg (al Jg (ae Jg Jg (al Jg (ai Jg Jg Jg (cf ((Im hn hm).2 hnm) pl) ?_))))))))))
  refine aw Jg Jg Jg (ab Jg Jg (ab Jg Jg (ag (ac (au (aH Jg Jg Jg ?_))))))
  exact⟨_,rfl,g10,by rw[decide_eq_true hnm];rfl,hr1⟩
 ·refine aa (ae Jg Jg (ae Jg Jg (ai Jg Jg Jg (cf Jg aV) (ae Jg Jg (al Jg (ae Jg Jg (al Jg (ae Jg Jg (al Jg (ai Jg Jg Jg (bZ (mt (Im hn hm).1 hnm) pl) ?_))))))))))
  refine aw Jg Jg Jg (ab Jg Jg (ab Jg Jg (ag (ac (au (aH Jg Jg Jg ?_))))))
  exact⟨_,rfl,g10,by rw[decide_eq_false hnm];rfl,hr1⟩
 ·refine aa (ae Jg Jg (ae Jg Jg (ai Jg Jg Jg (bZ (by simp) aV) (ae Jg Jg (ao Jg Jg Jg (ao Jg Jg Jg (ao Jg Jg Jg (aC Jg Jg Jg ?_))))))))
  refine ab Jg Jg (ab Jg Jg (ag (ac (au (aH Jg Jg Jg ?_)))))
  exact⟨_,rfl,g10,rfl,hr1⟩
theorem uy (st:Option (List UInt8)) {most:Nat} (hm:most<18446744073709551616):∃(n:Nat) (s1:Option (List UInt8)) (ok:Bool),(ok=true→et (pL most) st n s1∧s1≠none)∧(ok=false→st.bind (pL most)=none)∧n<18446744073709551616∧(∀k,xa k st→xa k s1)∧∀{w:World} {g:Nat},cc g st w→
 Calls Tryz.prog 151 #[.pointer (some ⟨g,0,none⟩),bj (UInt64.ofNat most)] w (bF fun r w'=>w.grownBy w' (some g)∧r=.tuple #[bj (UInt64.ofNat n),B ok]∧cc g s1 w'):=by
 obtain⟨n,s1,h1,h2,h3⟩:=sT st
 refine⟨n,s1,s1.isSome&&decide (n≤most),fun h=>?_,fun h=>?_,h2,fun k hk=>h1.atM jz.le hk,fun hr=>zO h2 hm hr (h3 hr)⟩
 ·simp only[Bool.and_eq_true,decide_eq_true_eq] at h
  exact⟨zL h1 h.2,fun e=>by rw[e] at h;cases h.1⟩
 ·rcases Nat.lt_or_ge most n with hn|hn
  ·exact EA h1 (by omega)
  ·rw[decide_eq_true hn,Bool.and_true] at h
   have:s1=none:=by cases s1 with|none=>rfl|some t=>cases h
   subst this
   exact(zL h1 hn)
theorem sU {X:Nat→Prop} {w:World} {d:f9} {x y:Value} (h:cK X w (gi d.at_) [B d.at_.1,x,y]):cK X w (pJ d) [I d.kd,I d.ix,B d.at_.1,x,y]:=by
 unfold pJ
 simp only[cK.eq_5]
 exact aO.cons (a:=[I d.kd]) (li _) (aO.cons (a:=[I d.ix]) (li _) (aO.cons (b:=[]) h aO.nil))
theorem EF {P:Program} {w:World} {t:TypeId} {x y:Operand} {s:Option (List UInt8)}:(bin .eql t x y (I (if s.isSome=true then 0 else 5)) (I 0)).run P w=.ok (B s.isSome) w:=by
 cases s<;>exact aV
theorem CN {w:World} {g:Nat} {st:Option (List UInt8)} (hr:cc g st w) (hl:dD st):
 Calls Tryz.prog 131 #[.pointer (some ⟨g,0,none⟩)] w (bF fun r w'=>Mv (RX g) w w'∧∃(d:f9) (x y:Value) (s1:Option (List UInt8)),r=.tuple #[.agg #[I d.kd,I d.ix,B d.at_.1,x,y],B s1.isSome]∧cK (fun k=>k<w.heap.size) w' (pJ d) [I d.kd,I d.ix,B d.at_.1,x,y]∧x.oneCell'=true∧y.oneCell'=true∧cc g s1 w'∧et zb st d s1):=by
 refine enter (vs:=[.pointer (some ⟨g,0,none⟩)]) Tryz.func131 Jg Jg Jg ?_
 have hlt:=cc.lt hr
 obtain⟨n1,s1,q1,i1,c1⟩:=nR st
 obtain⟨n2,s2,q2,i2,c2⟩:=nR s1
 refine af (aa ?_)
 obtain⟨g2,w2,hr2,l2,x2,k2⟩:=bf (P:=Tryz.prog) (w:=w) (t:=80) (z:=.agg #[I 0,I 0,B false,.slice none 0 0,.slice none 0 0]) (l:=[I 0,I 0,B false,.slice none 0 0,.slice none 0 0]) (by kernel_rfl) rfl
 refine bh Jg hr2 (ab Jg Jg (ag (ac (af (aa ?_)))))
 obtain⟨g4,w4,hr4,l4,x4,k4⟩:=bf (P:=Tryz.prog) (w:=w2) (t:=80) (z:=.agg #[I 0,I 0,B false,.slice none 0 0,.slice none 0 0]) (l:=[I 0,I 0,B false,.slice none 0 0,.slice none 0 0]) (by kernel_rfl) rfl
 refine bh Jg hr4 ?_
 have hr4:=cc.ext hr (x2.trans x4)
 have g42:g2<g4:=by have:=k2.lt;omega
 have hg4:g<g4:=by have:=x2.size;omega
 have lt4:=k4.lt
 have sz4:=((x2.trans x4)).size
 have k24:=k2.ext x4
 refine ag (ac (af (aa (ae Jg Jg (an il Jg Jg ((c1 hr4)) ?_)))))
 rintro v9 w9 ⟨g9,rfl,hr9⟩
 have m9:=dL.kp hr4 g9
 obtain⟨wa,sa,ma,ka,ra,_⟩:=dL.put (P:=Tryz.prog) (t:=3) (v:=I n1) k4 g9 hr9 hg4 (i:=0) dz rfl (by simp)
 refine ae Jg Jg (aj Jg Jg (aS) (aj Jg Jg aT ?_))
 refine ah Jg Jg (aE (o:=0) IV Jg (by kernel_rfl) Jg) ?_
 refine ar Jg Jg sa ?_
 refine ag (ac (af (aa (ae Jg Jg (an il Jg Jg ((c2 ra)) ?_)))))
 rintro v15 w15 ⟨g15,rfl,hr15⟩
 have m15:=dL.kp ra g15
 obtain⟨wb,sb,mb,kb,rb,_⟩:=dL.put (P:=Tryz.prog) (t:=3) (v:=I n2) ka g15 hr15 hg4 (i:=1) dz rfl (by simp)
 refine ae Jg Jg (aj Jg Jg (aS) (aj Jg Jg aT ?_))
 refine ah Jg Jg (aE (o:=1) IV Jg (by kernel_rfl) Jg) ?_
 refine ar Jg Jg sb ?_
 refine ag (ac (af (aa (ae Jg Jg (an pC Jg Jg ((zN rb (q2.atM eJ.le (q1.atM eJ.le hl)))) ?_)))))
 rintro v21 w21 ⟨g21,q,x,y,s3,rfl,hx,hy,rq,hr21,q3⟩
 have m21:=dL.kp rb g21
 refine ae Jg Jg (aj Jg Jg (aS) (aj Jg Jg (aT) ?_))
 obtain⟨g5,w5,hr5,l5,x5,k5⟩:=bf (P:=Tryz.prog) (w:=w21) (t:=55) (z:=.agg #[B false,.slice none 0 0,.slice none 0 0]) (l:=[B false,.slice none 0 0,.slice none 0 0]) (by kernel_rfl) rfl
 refine bh Jg hr5 ?_
 obtain⟨w4_6,s4_6,q4_6,k4_6⟩:=k5.stS (P:=Tryz.prog) (t:=55) (m:=[B q.1,x,y]) rfl (by kernel_rfl) (aI.cons rfl (aI.cons hx.one (aI.cons hy.one aI.nil)))
 refine ar Jg Jg s4_6 ?_
 have x4_6:=aM.of_new (x5) q4_6 l5
 refine ab Jg Jg (ag (ac (af (aa (am Jg Jg (k4_6.ld IQ Jg (by kernel_rfl)) (ah Jg Jg (aE (o:=2) IV Jg (by kernel_rfl) Jg) ?_))))))
 have ex:=x4_6
 obtain⟨wc,sc,mc,kc,rc,qc⟩:=dL.putO (P:=Tryz.prog) (t:=55) (m:=[B q.1,x,y]) kb (g21.trans (dA ex)) (cc.ext hr21 ex) hg4 2 (by simp) (by kernel_rfl) (aI.cons rfl (aI.cons hx.one (aI.cons hy.one aI.nil)))
 have lb:w4.heap.size≤wb.heap.size:=Nat.le_trans ma.size mb.size
 have rqc:=rq.mv ((Mv.of_ext ex).trans (Mv.of_grown qc fun k hk _=>by obtain rfl:=Option.some.inj hk;show g4<wb.heap.size;omega) fun _ hn _=>hn) fun _ hk=>.inl hk
 refine ar Jg Jg sc ?_
 have mT:Mv (fun k=>k=g∨k=g4) w4 wc:=(ma.trans mb fun _ hn _=>hn).trans mc fun _ hn _=>hn
 have k2c:=mT.blk k24 (by rintro(h|h)<;>omega)
 have kc:cd g4 80 [I n1,I n2,B q.1,x,y] wc:=kc
 refine ag (ac (af (aa (am Jg Jg (kc.ld IV Jg (by kernel_rfl)) (ae Jg Jg (ai (r:=B s3.isSome) Jg Jg Jg (EF) ?_))))))
 obtain⟨wd,sd,qd,kd⟩:=k2c.stS (P:=Tryz.prog) (t:=80) (m:=[I n1,I n2,B q.1,x,y]) rfl (by kernel_rfl) (aI.cons rfl (aI.cons rfl (aI.cons rfl (aI.cons hx.one (aI.cons hy.one aI.nil)))))
 have md:Mv (fun k=>k=g2) wc wd:=Mv.of_grown qd fun k hk _=>(Option.some.inj hk).symm
 refine ar Jg Jg sd ?_
 refine ab Jg Jg (ag (ac (au ?_)))
 refine bH Jg Jg Jg kd IV Jg (by kernel_rfl) ?_
 exact⟨_,rfl,((Mv.of_ext (x2.trans x4)).trans mT fun j hj hlt=>by
  rcases hj with hj|hj
  ·exact hj
  ·omega).trans md fun j hj hlt=>by omega,⟨n1,n2,q⟩,x,y,s3,rfl,sU (d:=⟨n1,n2,q⟩) (rqc.mv (md.weak fun j hj _=>by show j<wb.heap.size;omega) fun j hj=>.inl (by omega)),hx.one,hy.one,rc.mv md fun j hj=>by omega,uw q1 q2 q3⟩
theorem Dv {n m:Nat} (hn:n<18446744073709551616) (hm:m<18446744073709551616):UInt64.ofNat n<UInt64.ofNat m↔n<m:=by
 rw[UInt64.lt_iff_toNat_lt,UInt64.toNat_ofNat',UInt64.toNat_ofNat']
 omega
theorem ko {P:Program} {w:World} {s d:TypeId} {k:IntKind} (hs:P.underlying s=some (.int k)) {n:Nat} (hd:P.underlying d=some (.int .u64)):(convert s d (I (n:Int))).run P w=.ok (bj (UInt64.ofNat n)) w:=by
 rw[vm hs hd]
 have:UInt64.ofInt (n:Int)=UInt64.ofNat n:=UInt64.toNat_inj.1 (by rw[qh,UInt64.toNat_ofNat'];omega)
 rw[this]
theorem ip {α:Type} {f:List UInt8→Option (α×List UInt8)} {st s1 so:Option (List UInt8)} {N:Nat} {done:List α} (hU:et cZ st N s1) (hR:s1.bind (cG f N)=so.bind (fun l=>(cG f 0 l).map fun p=>(done++p.1,p.2))):et (jy f) st done so:=
 (hU.bindE (fun p=>cG f p.1 p.2)).trans (CI hR)
theorem jh {α:Type} {f:List UInt8→Option (α×List UInt8)} {st s1:Option (List UInt8)} {N:Nat} {done:List α} (hU:et cZ st N s1) (hR:s1.bind (cG f N)=none):et (jy f) st done none:=
 (hU.bindE (fun p=>cG f p.1 p.2)).trans hR
theorem pQ:(Tryz.prog.info? 216).map (fun i=>(i.zero,i.size,i.bytes))=some (some (.agg #[I 0,I 0,I 0,I 0,B false,.slice none 0 0,.slice none 0 0]),7,88):=by kernel_rfl
theorem eK (m:eE):(dI m).size=7:=by simp[dI,sy,gi,js,Dt.size,Dt.sizeAll]
theorem uA {X:Nat→Prop} {w:World} {m:eE} {x y:Value} (h:cK X w (gi m.co) [B m.co.1,x,y]):cK X w (dI m) [I m.kd,I m.ix,I m.lo,I m.hi,B m.co.1,x,y]:=by
 unfold dI
 simp only[cK.eq_5]
 exact aO.cons (a:=[I m.kd,I m.ix,I m.lo,I m.hi]) (by
  simp only[cK.eq_5]
  exact aO.cons (a:=[I m.kd]) (li _) (aO.cons (a:=[I m.ix]) (li _) (aO.cons (a:=[I m.lo]) (li _) (aO.cons (a:=[I m.hi]) (b:=[]) (li _) aO.nil)))) (aO.cons (b:=[]) h aO.nil)
theorem qu {w:World} {g:Nat} {st:Option (List UInt8)} (hr:cc g st w) (hl:dD st):
 Calls Tryz.prog 154 #[.pointer (some ⟨g,0,none⟩)] w (bF fun r w'=>Mv (RX g) w w'∧∃(ps:List eE) (v:Value) (s1:Option (List UInt8)),r=.tuple #[v,B s1.isSome]∧cK (fun k=>k<w.heap.size) w' (lV ps) [v]∧v.oneCell'=true∧cc g s1 w'∧et ut st ps s1):=by
 refine enter (vs:=[.pointer (some ⟨g,0,none⟩)]) Tryz.func154 Jg Jg Jg ?_
 have hlt:=cc.lt hr
 obtain⟨N,s1,qU,hN,cU⟩:=sT st
 refine af (aa (ab Jg Jg (ab Jg Jg (ag (ac (af (aa (ae Jg Jg (an cA Jg Jg ((cU hr)) ?_)))))))))
 rintro v10 w10 ⟨g10,rfl,hr10⟩
 have m10:=dL.kp hr g10
 have hl1:dD s1:=qU.atM jz.le hl
 refine ae Jg Jg (aj Jg Jg (aS) (aj Jg Jg (aT) (ab Jg Jg (ab Jg Jg (ag (ac (af (aa (ab Jg Jg (ag (ac (af ?_))))))))))))
 refine ax ?_
 refine gM (fun(k:Nat) (v:Value) (so:Option (List UInt8)) (ps:List eE)=>[(0,.pointer (some ⟨g,0,none⟩)),(4,bj (UInt64.ofNat N)),(5,I (if so.isSome=true then 0 else 5)),(6,v)]) (fun(k:Nat) (v:Value) (so:Option (List UInt8)) (ps:List eE) w'=>Mv (RX g) w w'∧cc g so w'∧fw 216 7 w.heap.size dI ps v w'∧k+ps.length=N∧s1.bind (cG vP N)=so.bind (fun l=>(cG vP k l).map fun p=>(ps++p.1,p.2))∧ps.length≤549755813890∧∀l,so=some l→l.length+ps.length≤549755813888) (fun(k:Nat) (v:Value) (so:Option (List UInt8)) (ps:List eE)=>k) (N) (.slice none 0 0) (s1) ([]) ⟨rfl,rfl,rfl,rfl,trivial⟩ ⟨Mv.of_grown g10 fun k hk _=>(Option.some.inj hk).symm,hr10,fw.nil _,by simp,im,by simp,fun l e=>by have:=hl1 l e;simpa using this⟩ ?_
 rintro k v so ps wL ⟨mL,hrL,oL,hk,hR,hql,hsl⟩
 refine af (af ?_)
 have rL:=oL.rpx eK (by omega)
 have hvo:v.oneCell'=true:=by obtain⟨_,_,_,rfl⟩:=oL.isS;rfl
 have hnl:ps.length<18446744073709551616:=by omega
 rcases so with _|l
 rotate_left
 rcases Nat.eq_zero_or_pos k with h0|h0
 rotate_left
 ·refine aa (ae Jg Jg (ai Jg Jg Jg (cf Jg aV) (ae Jg Jg (al Jg (ae Jg Jg (al Jg (aP (r:=I ps.length) Jg Jg ((bT (f:=dI) IW rL.rp)) ?_)))))))
  refine al Jg (aQ Jg Jg (ko IM IL) (al Jg (ae Jg Jg (al Jg (ai Jg Jg Jg (cf ((Dv hnl hN).2 (by omega)) dt) ?_)))))
  refine aw Jg Jg Jg (ag (ac (bB Jg (aq (ac (ax (af ?_)))))))
  obtain⟨n1,s2,q1,i1,c1⟩:=nR (some l)
  obtain⟨n2,s3,q2,i2,c2⟩:=nR s2
  obtain⟨n3,s4,q3,i3,c3⟩:=nR s3
  obtain⟨n4,s5,q4,i4,c4⟩:=nR s4
  have hll:dD (some l):=fun l' e=>by cases e;have:=hsl l rfl;omega
  have at5:dD s5:=q4.atM eJ.le (q3.atM eJ.le (q2.atM eJ.le (q1.atM eJ.le hll)))
  refine aa ?_
  obtain⟨g7,w7,hr7,l7,x7,k7⟩:=bf (P:=Tryz.prog) (w:=wL) (t:=216) (z:=.agg #[I 0,I 0,I 0,I 0,B false,.slice none 0 0,.slice none 0 0]) (l:=[I 0,I 0,I 0,I 0,B false,.slice none 0 0,.slice none 0 0]) (by kernel_rfl) rfl
  refine bh Jg hr7 (ag (ac (af ?_)))
  have hr7:=cc.ext hrL x7
  have e7:=x7
  have hgL:g<wL.heap.size:=Nat.lt_of_lt_of_le hlt mL.size
  have hg7:g<g7:=by omega
  have lt7:=k7.lt
  refine aa (ae Jg Jg (an il Jg Jg ((c1 hr7)) ?_))
  rintro v24 w24 ⟨g24,rfl,hr24⟩
  have m24:=dL.kp hr7 g24
  obtain⟨wa,sa,ma,ka,ra,_⟩:=dL.put (P:=Tryz.prog) (t:=3) (v:=I n1) k7 g24 hr24 hg7 (i:=0) dz rfl (by simp)
  refine ae Jg Jg (aj Jg Jg (aS) (aj Jg Jg aT ?_))
  refine ah Jg Jg (aE (o:=0) I5 Jg (by kernel_rfl) Jg) ?_
  refine ah Jg Jg (aE (o:=0) I8 Jg (by kernel_rfl) Jg) ?_
  refine ar Jg Jg sa ?_
  refine ag (ac (af (aa (ae Jg Jg (an il Jg Jg ((c2 ra)) ?_)))))
  rintro v31 w31 ⟨g31,rfl,hr31⟩
  have m31:=dL.kp ra g31
  obtain⟨wb,sb,mb,kb,rb,_⟩:=dL.put (P:=Tryz.prog) (t:=3) (v:=I n2) ka g31 hr31 hg7 (i:=1) dz rfl (by simp)
  refine ae Jg Jg (aj Jg Jg (aS) (aj Jg Jg aT ?_))
  refine ah Jg Jg (aE (o:=0) I5 Jg (by kernel_rfl) Jg) ?_
  refine ah Jg Jg (aE (o:=1) I8 Jg (by kernel_rfl) Jg) ?_
  refine ar Jg Jg sb ?_
  refine ag (ac (af (aa (ae Jg Jg (an il Jg Jg ((c3 rb)) ?_)))))
  rintro v38 w38 ⟨g38,rfl,hr38⟩
  have m38:=dL.kp rb g38
  obtain⟨wc,sc,mc,kc,rc,_⟩:=dL.put (P:=Tryz.prog) (t:=3) (v:=I n3) kb g38 hr38 hg7 (i:=2) dz rfl (by simp)
  refine ae Jg Jg (aj Jg Jg (aS) (aj Jg Jg aT ?_))
  refine ah Jg Jg (aE (o:=0) I5 Jg (by kernel_rfl) Jg) ?_
  refine ah Jg Jg (aE (o:=2) I8 Jg (by kernel_rfl) Jg) ?_
  refine ar Jg Jg sc ?_
  refine ag (ac (af (aa (ae Jg Jg (an il Jg Jg ((c4 rc)) ?_)))))
  rintro v45 w45 ⟨g45,rfl,hr45⟩
  have m45:=dL.kp rc g45
  obtain⟨wd,sd,md,kd,rd,_⟩:=dL.put (P:=Tryz.prog) (t:=3) (v:=I n4) kc g45 hr45 hg7 (i:=3) dz rfl (by simp)
  refine ae Jg Jg (aj Jg Jg (aS) (aj Jg Jg aT ?_))
  refine ah Jg Jg (aE (o:=0) I5 Jg (by kernel_rfl) Jg) ?_
  refine ah Jg Jg (aE (o:=3) I8 Jg (by kernel_rfl) Jg) ?_
  refine ar Jg Jg sd ?_
  refine ag (ac (af (aa (ae Jg Jg (an pC Jg Jg ((zN rd at5)) ?_)))))
  rintro v52 w52 ⟨g52,q,x,y,s6,rfl,hx,hy,rq,hr52,q5⟩
  have m52:=dL.kp rd g52
  obtain⟨we,se,me,ke,re,qe⟩:=dL.putO (P:=Tryz.prog) (t:=55) (m:=[B q.1,x,y]) kd g52 hr52 hg7 4 (by simp) (by kernel_rfl) (aI.cons rfl (aI.cons hx.one (aI.cons hy.one aI.nil)))
  have ke:cd g7 216 [I n1,I n2,I n3,I n4,B q.1,x,y] we:=ke
  have mAll:Mv (RX g) wL we:=(Mv.of_ext e7).trans ((((ma.trans mb fun _ hn _=>hn).trans mc fun _ hn _=>hn).trans md fun _ hn _=>hn).trans me fun _ hn _=>hn) fun j hj hlt=>by
   rcases hj with hj|hj
   ·exact hj
   ·omega
  have sd7:w7.heap.size≤wd.heap.size:=Nat.le_trans (Nat.le_trans ma.size mb.size) (Nat.le_trans mc.size md.size)
  have szL:wL.heap.size≤w7.heap.size:=e7.size
  have hXL:∀j,RX g j→j<w.heap.size:=fun j hj=>by have:j=g:=hj;omega
  have oE:=oL.mv mAll hXL
  have own:∀j,v.ownBlock=some j→w.heap.size≤j∧j<wL.heap.size:=oL.lt
  have rqe:=rq.mv (Mv.of_grown qe fun k hk _=>by obtain rfl:=Option.some.inj hk;show g7<wd.heap.size;omega) fun _ hk=>.inl hk
  have hM:=uA (m:=⟨n1,n2,n3,n4,q⟩) (rqe.weak (Y:=fun k=>k<w.heap.size∨v.ownBlock=some k) fun j hj=>.inl (by
   rcases hj with hj|hj
   ·have:=mL.size;show j<wd.heap.size;omega
   ·have:=(own j hj).2;show j<wd.heap.size;omega))
  obtain⟨x58,w58,v59,w59,hr58,hr59,o59,m59,n59⟩:=oE.push (ty:=81) (t:=81) IW pQ rfl (by omega) (by omega) (by omega) (aI.cons rfl (aI.cons rfl (aI.cons rfl (aI.cons rfl (aI.cons rfl (aI.cons hx.one (aI.cons hy.one aI.nil))))))) hM eK (by have:=hsl l rfl;omega) (Nat.le_trans mL.size mAll.size)
  have h59:=re.mv m59 fun j hj=>by have:=own j hj;omega
  refine ae Jg Jg (aj Jg Jg (aS) (aj Jg Jg (aT) ?_))
  refine ah Jg Jg (aE (o:=4) I5 Jg (by kernel_rfl) Jg) ?_
  refine ar Jg Jg se ?_
  refine ab Jg Jg (ag (ac (aa (ae Jg Jg (am Jg Jg (ke.ld I5 Jg (by kernel_rfl)) ?_)))))
  refine aN (vs:=[(0,.agg #[I n1,I n2,I n3,I n4,B q.1,x,y])]) Jg Jg hr58 ?_
  refine be Jg Jg hr59 ?_
  obtain⟨k',rfl⟩:∃k',k=k'+1:=⟨k-1,by omega⟩
  refine ab Jg Jg (ag (aJ ?_))
  refine fa (k') (v59) (s6) (ps++[⟨n1,n2,n3,n4,q⟩]) ⟨rfl,rfl,rfl,rfl,trivial⟩ ⟨(mL.trans mAll fun _ hn _=>hn).trans m59 fun j hj hlt=>by have:=(own j hj).1;omega,h59,o59,by simp;omega,jg hR (nP q1 q2 q3 q4 q5),by have:=hsl l rfl;simp;omega,(fun l' e=>by
   subst e
   have:=hsl l rfl
   have:=vQ _ _ _ (show vP l=some (_,l') from nP (st:=some l) q1 q2 q3 q4 q5)
   simp
   omega)⟩ (by omega)
 ·refine aa (ae Jg Jg (ai Jg Jg Jg (bZ (by simp) aV) (ae Jg Jg (ao Jg Jg Jg (ao Jg Jg Jg (ao Jg Jg Jg (ao Jg Jg Jg (ao Jg Jg Jg ?_))))))))
  refine aC Jg Jg Jg (ag (ac (cq Jg (aW (aA (aA (aU (ac (af (aa (ae Jg Jg (ae Jg Jg (ai Jg Jg Jg (bZ (by simp) aV) ?_)))))))))))))
  refine ab Jg Jg (ab Jg Jg (ag (ac (au (aH Jg Jg Jg ?_)))))
  exact⟨_,rfl,mL,ps,v,none,rfl,rL,hvo,hrL,jh qU hR⟩
 ·refine aa (ae Jg Jg (ai Jg Jg Jg (cf Jg aV) (ae Jg Jg (al Jg (ae Jg Jg (al Jg (aP (r:=I ps.length) Jg Jg ((bT (f:=dI) IW rL.rp)) ?_)))))))
  refine al Jg (aQ Jg Jg (ko IM IL) (al Jg (ae Jg Jg (al Jg (ai Jg Jg Jg (bZ (mt (Dv hnl hN).1 (by omega)) dt) ?_)))))
  refine aw Jg Jg Jg (ag (ac (cq Jg (aW (aA (aA (aU (ac (af (aa (ae Jg Jg (ae Jg Jg (ai Jg Jg Jg (cf Jg aV) (ab Jg Jg ?_))))))))))))))
  refine ab Jg Jg (ag (ac (au (aH Jg Jg Jg ?_))))
  exact⟨_,rfl,mL,ps,v,some l,rfl,rL,hvo,hrL,ip qU (by subst h0;exact hR)⟩
end Go.Rl
namespace Go.Rl
open Go.RowKit Go.Proofs
theorem yk:(Tryz.prog.info? 147).map (fun i=>(i.zero,i.size,i.bytes))=some (some (.agg #[I 0,B false,B false,.slice none 0 0,.slice none 0 0,.slice none 0 0]),6,96):=by kernel_rfl
theorem kq:(Tryz.prog.info? 83).map (fun i=>(i.zero,i.size,i.bytes))=some (some (.agg #[.slice none 0 0,I 0,I 0,B false,.slice none 0 0,.slice none 0 0,.slice none 0 0,B false,.slice none 0 0]),9,152):=by kernel_rfl
theorem ff (l:fQ):(fm l).size=6:=by simp[fm,sy,gi,js,lV,Dt.size,Dt.sizeAll]
theorem bD (n:ba):(bK n).size=9:=by cases n;simp[bK,pJ,sy,gi,js,lV,Dt.size,Dt.sizeAll]
theorem kt {X:Nat→Prop} {w:World}:cK X w (.sl []) [.slice none 0 0]:=by
 simp only[cK]
 exact⟨none,0,0,rfl,rfl,Nat.le_refl _,Nat.zero_le _,fun _=>rfl,fun h=>absurd h (by omega)⟩
theorem bX {X:Nat→Prop} {w:World} (b:Bool):cK X w (.bool b) [B b]:=by simp only[cK,B]
theorem yl {X:Nat→Prop} {w:World} {l:fQ} {x y v:Value} (h:cK X w (gi l.va) [B l.va.1,x,y]) (hp:cK X w (lV l.pf) [v]):cK X w (fm l) [I l.un,B l.up,B l.va.1,x,y,v]:=by
 unfold fm
 simp only[cK.eq_5]
 exact aO.cons (a:=[I l.un]) (li _) (aO.cons (a:=[B l.up]) (bX _) (aO.cons (a:=[B l.va.1,x,y]) h (aO.cons (b:=[]) hp aO.nil)))
theorem fA {X:Nat→Prop} {w:World} {ls:List fQ} {d:f9} {ks:List ba} {em:Bool} {ps:List eE} {vl vk vp x y:Value} (hl:cK X w (.sl (ls.map fm)) [vl]) (hd:cK X w (pJ d) [I d.kd,I d.ix,B d.at_.1,x,y]) (hk:cK X w (.sl (ks.map bK)) [vk]) (hp:cK X w (lV ps) [vp]):
 cK X w (bK (.mk ls d ks em ps)) [vl,I d.kd,I d.ix,B d.at_.1,x,y,vk,B em,vp]:=by
 unfold bK
 simp only[cK.eq_5]
 exact aO.cons (a:=[vl]) hl (aO.cons (a:=[I d.kd,I d.ix,B d.at_.1,x,y]) hd (aO.cons (a:=[vk]) (by rw[nL];exact hk) (aO.cons (a:=[B em]) (bX _) (aO.cons (b:=[]) hp aO.nil))))
theorem lj {X:Nat→Prop} {w:World}:cK X w (pJ tJ) [I 0,I 0,B false,.slice none 0 0,.slice none 0 0]:=
 sU (d:=tJ) (by
  simp only[gi,tJ,z0Q,cK.eq_5]
  exact aO.cons (a:=[B false]) (bX _) (aO.cons (a:=[.slice none 0 0]) kt (aO.cons (b:=[]) kt aO.nil)))
theorem Bk {P:Program} {w:World} {t:TypeId} {x y:Operand} {n:Nat} (hn:n<18446744073709551616):(bin .eql t x y (bj (UInt64.ofNat n)) (bj 1)).run P w=.ok (B (decide (n=1))) w:=by
 have e:(decide (UInt64.ofNat n=1))=decide (n=1):=by
  by_cases h:n=1
  ·subst h;rfl
  ·have:UInt64.ofNat n≠1:=fun e=>h (by have:=congrArg UInt64.toNat e;rw[UInt64.toNat_ofNat',show(1:UInt64).toNat=1 from rfl] at this;omega)
   rw[decide_eq_false h,decide_eq_false this]
 rw[←e]
 exact fy
def HV (st:Option (List UInt8)) (nd:ba) (s1:Option (List UInt8)) (ok:Bool):Prop:=(ok=true→et eB st nd s1∧s1≠none)∧(ok=false→st.bind eB=none)
def Bl (g:Nat) (w:World) (st:Option (List UInt8)) (r:Value) (w':World):Prop:=
 Mv (RX g) w w'∧∃(nd:ba) (cs:List Value) (s1:Option (List UInt8)) (ok:Bool),r=.tuple #[.agg cs.toArray,B ok]∧cK (fun k=>k<w.heap.size) w' (bK nd) cs∧aI cs∧cc g s1 w'∧HV st nd s1 ok
def uB (s3:Option (List UInt8)):Nat→List ba→Option (List UInt8)→Bool→Prop
 |0,ks,so,ok=>ks=[]∧so=s3∧ok=s3.isSome
 |1,ks,so,ok=>∃a,ks=[a]∧HV s3 a so ok
 |_+2,ks,so,ok=>∃a b s4,ks=[a,b]∧et eB s3 a s4∧s4≠none∧HV s4 b so ok
theorem uB.step {s3 so s6:Option (List UInt8)} {ks:List ba} {nd:ba} {ok6:Bool}:∀{i:Nat},uB s3 i ks so true→i<2→HV so nd s6 ok6→uB s3 (i+1) (ks++[nd]) s6 ok6
 |0,⟨h1,h2,_⟩,_,hN=>⟨nd,by rw[h1];rfl,h2▸hN⟩
 |1,⟨a,h1,h2⟩,_,hN=>⟨a,nd,so,by rw[h1];rfl,(h2.1 rfl).1,(h2.1 rfl).2,hN⟩
 |i+2,_,h,_=>by omega
theorem uB.done {st s1 s2 s3 so:Option (List UInt8)} {ks:List ba} {ls:List fQ} {d:f9} {tag:Nat} {ok:Bool} {i:Nat} (h:uB s3 i ks so ok) (hx:ok=false∨2≤i) (hn:¬tag<2) (q1:et (pL 2) st tag s1) (q2:et fU s1 ls s2) (q3:et zb s2 d s3):HV st (.mk ls d ks false []) so ok:=by
 refine⟨fun e=>?_,fun e=>?_⟩
 ·subst e
  have h2i:2≤i:=by
   rcases hx with hx|hx
   ·cases hx
   ·exact hx
  obtain⟨i,rfl⟩:∃j,i=j+2:=⟨i-2,by omega⟩
  obtain⟨a,b,s4,rfl,h2,h3,h4⟩:=h
  exact⟨sK hn q1 q2 q3 h2 (h4.1 rfl).1,(h4.1 rfl).2⟩
 ·subst e
  match i,h with
  |0,⟨h1,h2,h3⟩=>
   have:s3=none:=by cases s3 with|none=>rfl|some t=>cases h3
   subst this
   exact yd hn q1 q2 q3
  |1,⟨a,h1,h2⟩=>exact ye hn q1 q2 q3 (h2.2 rfl)
  |i+2,⟨a,b,s4,h1,h2,h3,h4⟩=>exact yf hn q1 q2 q3 h2 (h4.2 rfl)
theorem ji {α:Type} {f:List UInt8→Option (α×List UInt8)} {st s1 so:Option (List UInt8)} {N k:Nat} {done:List α} (hU:et cZ st N s1) (hR:s1.bind (cG f N)=so.bind (fun l=>(cG f (k+1) l).map fun p=>(done++p.1,p.2))) (h:so.bind f=none):st.bind (jy f)=none:=
 (hU.bindE (fun p=>cG f p.1 p.2)).trans (CK hR h)
theorem ll {w w4 wA:World} {g g2 g4:Nat} {z cs:List Value} {nd:ba} {st s1:Option (List UInt8)} (hg:g<w.heap.size) (l2:w.heap.size≤g2) (g42:g2<g4) (ex4:aM w w4) (k24:cd g2 83 z w4) (hz:z.length=9) (mT:Mv (fun k=>RX g k∨k=g4) w4 wA) (h1:aI cs) (rp:cK (fun k=>k<w4.heap.size) wA (bK nd) cs) (hr:cc g s1 wA):
 ∃wd,(Instr.storeAt 83 (.pointer (some ⟨g2,0,none⟩)) (.agg cs.toArray)).run Tryz.prog wA=.ok () wd∧cd g2 83 cs wd∧∀ok,HV st nd s1 ok→Bl g w st (.tuple #[.agg cs.toArray,B ok]) wd:=by
 have lt2:=k24.lt
 have hgg:g<g2:=by omega
 have k2A:=mT.blk k24 (by
  rintro(h|h)
  ·have:g2=g:=h
   omega
  ·omega)
 have hc:cs.length=9:=rp.len.trans (bD nd)
 obtain⟨wd,sd,qd,kd⟩:=k2A.stS (P:=Tryz.prog) (t:=83) (m:=cs) (by omega) (by rw[hc];kernel_rfl) h1
 have md:Mv (fun k=>k=g2) wA wd:=Mv.of_grown qd fun k hk _=>(Option.some.inj hk).symm
 refine⟨wd,sd,kd,fun ok hN=>⟨((Mv.of_ext ex4).trans mT fun j hj hlt=>?_).trans md fun j hj hlt=>by omega,nd,cs,s1,ok,rfl,rp.mv (md.weak fun j hj _=>by show j<w4.heap.size;omega) fun j hj=>.inl (by have:=ex4.size;show j<w4.heap.size;omega),h1,hr.mv md fun j hj=>by omega,hN⟩⟩
 rcases hj with hj|hj
 ·exact hj
 ·omega
theorem zP {w:World} {g:Nat} {st:Option (List UInt8)} {n:Nat} (ih:∀{w:World} {g:Nat} {st:Option (List UInt8)} {m:Nat},m<n→cc g st w→dD st→xa m st→Calls Tryz.prog 116 #[.pointer (some ⟨g,0,none⟩)] w (bF (Bl g w st))) (hr:cc g st w) (hl:dD st) (hn:xa n st):
 Calls Tryz.prog 116 #[.pointer (some ⟨g,0,none⟩)] w (bF (Bl g w st)):=by
 refine enter (vs:=[.pointer (some ⟨g,0,none⟩)]) Tryz.func116 Jg Jg Jg ?_
 have hlt:=cc.lt hr
 obtain⟨tag,s1,ok1,hok1,hno1,htag,hat1,cF⟩:=uy st (most:=2) (by omega)
 obtain⟨N,s2,qU,hN,cU⟩:=sT s1
 refine af (aa ?_)
 obtain⟨g2,w2,hr2,l2,x2,k2⟩:=bf (P:=Tryz.prog) (w:=w) (t:=83) (z:=.agg #[.slice none 0 0,I 0,I 0,B false,.slice none 0 0,.slice none 0 0,.slice none 0 0,B false,.slice none 0 0]) (l:=[.slice none 0 0,I 0,I 0,B false,.slice none 0 0,.slice none 0 0,.slice none 0 0,B false,.slice none 0 0]) (by kernel_rfl) rfl
 refine bh Jg hr2 (ab Jg Jg (ag (ac (af (aa ?_)))))
 obtain⟨g4,w4,hr4,l4,x4,k4⟩:=bf (P:=Tryz.prog) (w:=w2) (t:=83) (z:=.agg #[.slice none 0 0,I 0,I 0,B false,.slice none 0 0,.slice none 0 0,.slice none 0 0,B false,.slice none 0 0]) (l:=[.slice none 0 0,I 0,I 0,B false,.slice none 0 0,.slice none 0 0,.slice none 0 0,B false,.slice none 0 0]) (by kernel_rfl) rfl
 refine bh Jg hr4 ?_
 have hr4:=cc.ext hr (x2.trans x4)
 have ex4:=(x2.trans x4)
 have lt4:=k4.lt
 have lt2:=k2.lt
 have g42:g2<g4:=by omega
 have hg4:g<g4:=by omega
 have k24:=k2.ext x4
 have sz4:=ex4.size
 refine ag (ac (af (aa (ae Jg Jg (an sR Jg Jg ((cF hr4)) ?_)))))
 rintro v16 w16 ⟨g16,rfl,hr16⟩
 have m16:=dL.kp hr4 g16
 have mF:Mv (fun k=>RX g k∨k=g4) w4 w16:=Mv.of_grown g16 fun k hk _=>.inl (Option.some.inj hk).symm
 have k16:=k4.other g16 (fun e=>by have:=Option.some.inj e;omega)
 refine ae Jg Jg (aj Jg Jg (aS) (aj Jg Jg (aT) (ab Jg Jg (ab Jg Jg (ag (ac (af (af ?_))))))))
 rcases ok1 with _|_
 ·refine aa (ae Jg Jg (ci Jg Jg cj (ag (ac (bB Jg (af ?_))))))
  obtain⟨wd,sd,kd,fin⟩:=ll (st:=st) (nd:=.mk [] tJ [] false []) hlt l2 g42 ex4 k24 rfl mF (aI.cons rfl (aI.cons rfl (aI.cons rfl (aI.cons rfl (aI.cons rfl (aI.cons rfl (aI.cons rfl (aI.cons rfl (aI.cons rfl aI.nil))))))))) (fA kt lj kt kt) hr16
  refine aa (am Jg Jg (k16.ld IN Jg (by kernel_rfl)) ?_)
  refine ar Jg Jg sd ?_
  refine ab Jg Jg (ag (ac (au (av ?_))))
  refine bH Jg Jg Jg kd IN Jg (by kernel_rfl) ?_
  exact⟨_,rfl,fin false ⟨(fun e=>nomatch e),fun _=>yb (hno1 rfl)⟩⟩
 ·refine aa (ae Jg Jg (ci Jg Jg cj (ag (ac (cq Jg (aq (ac (af ?_))))))))
  obtain⟨qF,nF⟩:=hok1 rfl
  obtain⟨l1,rfl⟩:∃l1,s1=some l1:=by
   cases s1 with
   |none=>exact absurd rfl nF
   |some l1=>exact⟨l1,rfl⟩
  have hl1:dD (some l1):=hat1 _ hl
  have hn1:l1.length+1≤n:=by
   obtain⟨l0,e0,q0⟩:=qF.some
   have:=lW 2 l0 _ _ q0
   have:=hn l0 e0
   omega
  have an1:xa (n-1) (some l1):=fun l' e=>by cases e;omega
  obtain⟨w5,s5,q5,k5⟩:=k16.stC (P:=Tryz.prog) (t:=4) (i:=7) (v:=B (decide (tag=1))) sQ rfl (by simp)
  have k5:cd g4 83 [.slice none 0 0,I 0,I 0,B false,.slice none 0 0,.slice none 0 0,.slice none 0 0,B (decide (tag=1)),.slice none 0 0] w5:=k5
  have m5:Mv (fun k=>k=g4) w16 w5:=Mv.of_grown q5 fun k hk _=>(Option.some.inj hk).symm
  have r5:cc g (some l1) w5:=hr16.mv m5 fun j hj=>by omega
  have mE:Mv (fun k=>RX g k∨k=g4) w4 w5:=mF.trans m5 fun _ hj _=>.inr hj
  refine aa (ae Jg Jg (ai (v:=bj 1) (r:=B (decide (tag=1))) Jg Jg Jg ((Bk htag)) ?_))
  refine ah Jg Jg (aE (o:=7) IN Jg (by kernel_rfl) Jg) ?_
  refine ar Jg Jg s5 ?_
  refine ag (ac (af (aa (ae Jg Jg (an cA Jg Jg ((cU r5)) ?_)))))
  rintro v27 w27 ⟨g27,rfl,hr27⟩
  have m27:=dL.kp r5 g27
  have mG:Mv (fun k=>RX g k∨k=g4) w4 w27:=mE.trans (Mv.of_grown g27 fun k hk _=>(Option.some.inj hk).symm:Mv (RX g) w5 w27) fun _ hj _=>.inl hj
  have k27:=k5.other g27 (fun e=>by have:=Option.some.inj e;omega)
  refine ae Jg Jg (aj Jg Jg (aS) (aj Jg Jg (aT) (ab Jg Jg (ab Jg Jg (ag (ac (af (af ?_))))))))
  rcases s2 with _|lc
  ·refine aa (ae Jg Jg (ai Jg Jg Jg (cf (by simp) bS) (ag (ac (bB Jg (af ?_))))))
   obtain⟨wd,sd,kd,fin⟩:=ll (st:=st) (nd:=.mk [] tJ [] (decide (tag=1)) []) hlt l2 g42 ex4 k24 rfl mG (aI.cons rfl (aI.cons rfl (aI.cons rfl (aI.cons rfl (aI.cons rfl (aI.cons rfl (aI.cons rfl (aI.cons rfl (aI.cons rfl aI.nil))))))))) (fA kt lj kt kt) hr27
   refine aa (am Jg Jg (k27.ld IN Jg (by kernel_rfl)) ?_)
   refine ar Jg Jg sd ?_
   refine ab Jg Jg (ag (ac (au (av ?_))))
   refine bH Jg Jg Jg kd IN Jg (by kernel_rfl) ?_
   exact⟨_,rfl,fin false ⟨(fun e=>nomatch e),fun _=>oR qF (jh (done:=([]:List fQ)) qU rfl)⟩⟩
  ·refine aa (ae Jg Jg (ai Jg Jg Jg (bZ (by simp) bS) (ag (ac (cq Jg (aq (ac (af (ax ?_)))))))))
   refine gM (fun(k:Nat) (v:Value) (l:List UInt8) (ls:List fQ)=>[(0,.pointer (some ⟨g,0,none⟩)),(2,.pointer (some ⟨g2,0,none⟩)),(4,.pointer (some ⟨g4,0,none⟩)),(5,bj (UInt64.ofNat tag)),(7,bj (UInt64.ofNat N))]) (fun(k:Nat) (v:Value) (l:List UInt8) (ls:List fQ) w'=>Mv (fun k=>RX g k∨k=g4) w4 w'∧cc g (some l) w'∧cd g4 83 [v,I 0,I 0,B false,.slice none 0 0,.slice none 0 0,.slice none 0 0,B (decide (tag=1)),.slice none 0 0] w'∧fw 147 6 w4.heap.size fm ls v w'∧k+ls.length=N∧(some lc).bind (cG oK N)=(some l).bind (fun l=>(cG oK k l).map fun p=>(ls++p.1,p.2))∧l.length+ls.length≤549755813888∧l.length≤n-1) (fun(k:Nat) (v:Value) (l:List UInt8) (ls:List fQ)=>k) (N) (.slice none 0 0) (lc) ([]) ⟨rfl,rfl,rfl,rfl,rfl,trivial⟩ ⟨mG,hr27,k27,fw.nil _,by simp,im,by have:=qU.atM jz.le hl1 lc rfl;simpa using this,qU.atM jz.le an1 lc rfl⟩ ?_
   rintro k v l ls wL ⟨mL,hrL,kL,oL,hk,hR,hql,hnl⟩
   refine af (af ?_)
   have rL:=oL.rpx ff (by omega)
   have hvo:v.oneCell'=true:=by obtain⟨_,_,_,rfl⟩:=oL.isS;rfl
   have hll:ls.length<18446744073709551616:=by omega
   have hgL:g<wL.heap.size:=by have:=mL.size;omega
   have hg4L:g4<wL.heap.size:=by have:=mL.size;omega
   have hlL:dD (some l):=fun l' e=>by cases e;omega
   rcases Nat.eq_zero_or_pos k with h0|h0
   rotate_left
   ·refine aa (ah Jg Jg (aE (o:=0) IN Jg (by kernel_rfl) Jg) (am Jg Jg (ak I0 Jg (kL.cell (i:=0) Jg)) ?_))
    refine aP (r:=I ls.length) Jg Jg ((bT (f:=fm) I0 rL.rp)) (aQ Jg Jg (ko IM IL) ?_)
    refine ae Jg Jg (ai Jg Jg Jg (cf ((Dv hll hN).2 (by omega)) dt) (ag (ac (bB Jg (aq (ac (ax (af ?_))))))))
    obtain⟨n1,sA,q1,i1,c1⟩:=nR (some l)
    obtain⟨up,sB,ok2,hok2,hno2,hup,hat2,c2⟩:=uy sA (most:=1) (by omega)
    have atB:dD sB:=hat2 _ (q1.atM eJ.le hlL)
    refine aa ?_
    obtain⟨g9,w9,hr9,l9,x9,k9⟩:=bf (P:=Tryz.prog) (w:=wL) (t:=147) (z:=.agg #[I 0,B false,B false,.slice none 0 0,.slice none 0 0,.slice none 0 0]) (l:=[I 0,B false,B false,.slice none 0 0,.slice none 0 0,.slice none 0 0]) (by kernel_rfl) rfl
    refine bh Jg hr9 (ag (ac (af ?_)))
    have hr9:=cc.ext hrL x9
    have e9:=x9
    have hg9:g<g9:=by omega
    have lt9:=k9.lt
    have h49:g4<g9:=by omega
    refine aa (ae Jg Jg (an il Jg Jg ((c1 hr9)) ?_))
    rintro v41 w41 ⟨g41,rfl,hr41⟩
    have m41:=dL.kp hr9 g41
    obtain⟨wa,sa,ma,ka,ra,_⟩:=dL.put (P:=Tryz.prog) (t:=3) (v:=I n1) k9 g41 hr41 hg9 (i:=0) dz rfl (by simp)
    refine ae Jg Jg (aj Jg Jg (aS) (aj Jg Jg aT ?_))
    refine ah Jg Jg (aE (o:=0) IZ Jg (by kernel_rfl) Jg) ?_
    refine ar Jg Jg sa ?_
    refine ag (ac (af (aa (ae Jg Jg (an sR Jg Jg ((c2 ra)) ?_)))))
    rintro v47 w47 ⟨g47,rfl,hr47⟩
    have m47:=dL.kp ra g47
    obtain⟨wb,sb,mb,kb,rb,_⟩:=dL.put (P:=Tryz.prog) (t:=4) (v:=B (iH up)) ka g47 hr47 hg9 (i:=1) sQ rfl (by simp)
    refine ae Jg Jg (aj Jg Jg (aS) (aj Jg Jg (aT) (ab Jg Jg (ab Jg Jg (ag (ac (af (aa (ae Jg Jg (ai (v:=bj 1) (r:=B (iH up)) Jg Jg Jg ((Bk hup)) ?_))))))))))
    refine ah Jg Jg (aE (o:=1) IZ Jg (by kernel_rfl) Jg) ?_
    refine ar Jg Jg sb ?_
    refine ag (ac (af (aa (ae Jg Jg (an pC Jg Jg ((zN rb atB)) ?_)))))
    rintro v55 w55 ⟨g55,q,x,y,sC,rfl,hx,hy,rq,hr55,q3⟩
    have m55:=dL.kp rb g55
    obtain⟨wc,sc,mc,kc,rc,qc⟩:=dL.putO (P:=Tryz.prog) (t:=55) (m:=[B q.1,x,y]) kb g55 hr55 hg9 2 (by simp) (by kernel_rfl) (aI.cons rfl (aI.cons hx.one (aI.cons hy.one aI.nil)))
    have kc:cd g9 147 [I n1,B (iH up),B q.1,x,y,.slice none 0 0] wc:=kc
    refine ae Jg Jg (aj Jg Jg (aS) (aj Jg Jg aT ?_))
    refine ah Jg Jg (aE (o:=2) IZ Jg (by kernel_rfl) Jg) ?_
    refine ar Jg Jg sc ?_
    refine ag (ac (af (aa (ae Jg Jg (an qt Jg Jg ((qu rc (q3.atM sG.le atB))) ?_)))))
    rintro v61 w61 ⟨m61,ps,vp,sD,rfl,rp61,hvp,hr61,q4⟩
    have m61:=m61
    have k61:=m61.blk kc (fun e=>by have:g9=g:=e;omega)
    obtain⟨we,se,qe,ke⟩:=k61.stC (P:=Tryz.prog) (t:=81) (i:=5) (v:=vp) (by kernel_rfl) hvp (by simp)
    have ke:cd g9 147 [I n1,B (iH up),B q.1,x,y,vp] we:=ke
    have me:Mv (fun k=>k=g9) w61 we:=Mv.of_grown qe fun k hk _=>(Option.some.inj hk).symm
    have re:cc g sD we:=hr61.mv me fun j hj=>by omega
    have mAll:Mv (RX g) wL we:=((Mv.of_ext e9).trans (((ma.trans mb fun _ hn _=>hn).trans mc fun _ hn _=>hn).trans m61 fun _ hn _=>.inl hn) fun j hj hlt=>by
     rcases hj with hj|hj
     ·exact hj
     ·omega).trans me fun j hj hlt=>by omega
    have hXL:∀j,RX g j→j<w4.heap.size:=fun j hj=>by have:j=g:=hj;omega
    have oE:=oL.mv mAll hXL
    have kE:=mAll.blk kL (fun e=>by have:g4=g:=e;omega)
    have mLE:Mv (fun k=>RX g k∨k=g4) w4 we:=mL.trans mAll fun _ hj _=>.inl hj
    have sb9:w9.heap.size≤wb.heap.size:=Nat.le_trans ma.size mb.size
    have sc9:wb.heap.size≤w55.heap.size:=g55.size
    have sc10:w55.heap.size≤wc.heap.size:=qc.size
    have szL:wL.heap.size≤w9.heap.size:=e9.size
    have rqe:=rq.mv (((Mv.of_grown qc fun k hk _=>by obtain rfl:=Option.some.inj hk;show g9<wb.heap.size;omega:Mv (fun k=>k<wb.heap.size) w55 wc).trans m61 fun j hj _=>by have:j=g:=hj;show j<wb.heap.size;omega).trans me fun j hj _=>by show j<wb.heap.size;omega) fun _ hk=>.inl hk
    have rpe:=rp61.mv (me.weak fun j hj _=>by show j<wc.heap.size;omega) fun _ hk=>.inl hk
    refine ae Jg Jg (aj Jg Jg (aS) (aj Jg Jg (aT) ?_))
    refine ah Jg Jg (aE (o:=5) IZ Jg (by kernel_rfl) Jg) ?_
    refine ar Jg Jg se ?_
    refine ab Jg Jg (ag (ac (af (af ?_))))
    obtain⟨k',rfl⟩:∃k',k=k'+1:=⟨k-1,by omega⟩
    rcases ok2 with _|_
    rotate_left
    rcases sD with _|lD
    ·refine aa (ae Jg Jg (ci Jg Jg cj (ae Jg Jg (al Jg (ae Jg Jg (al Jg (ci Jg Jg cj (aC Jg Jg Jg (ag (ac (bB Jg (af ?_))))))))))))
     obtain⟨wd,sd,kd,fin⟩:=ll (st:=st) (nd:=.mk ls tJ [] (decide (tag=1)) []) hlt l2 g42 ex4 k24 rfl mLE (aI.cons hvo (aI.cons rfl (aI.cons rfl (aI.cons rfl (aI.cons rfl (aI.cons rfl (aI.cons rfl (aI.cons rfl (aI.cons rfl aI.nil))))))))) (fA (oE.rpx ff (by omega)) lj kt kt) re
     refine aa (am Jg Jg (kE.ld IN Jg (by kernel_rfl)) ?_)
     refine ar Jg Jg sd ?_
     refine ab Jg Jg (ag (ac (au (av (bc (av (bc (av ?_))))))))
     refine bH Jg Jg Jg kd IN Jg (by kernel_rfl) ?_
     exact⟨_,rfl,fin false ⟨(fun e=>nomatch e),fun _=>oR qF (ji qU hR (yh q1 (hok2 rfl).1 q3 q4))⟩⟩
    ·refine aa (ae Jg Jg (ci Jg Jg cj (ae Jg Jg (al Jg (ae Jg Jg (al Jg (ci Jg Jg cj (aC Jg Jg Jg (ag (ac (cq Jg (aq ?_))))))))))))
     refine ac ?_
     have own:∀j,v.ownBlock=some j→w4.heap.size≤j∧j<wL.heap.size:=oL.lt
     have qLm:et oK (some l) ⟨n1,iH up,q,ps⟩ (some lD):=sJ q1 (hok2 rfl).1 q3 q4
     have hlD:=vR l _ lD qLm
     have hY:∀j,(j<w4.heap.size∨v.ownBlock=some j)→j<wL.heap.size:=fun j hj=>by
      rcases hj with hj|hj
      ·have:=mL.size;omega
      ·exact(own j hj).2
     have hM:=yl (l:=⟨n1,iH up,q,ps⟩) (rqe.weak (Y:=fun k=>k<w4.heap.size∨v.ownBlock=some k) fun j hj=>.inl (by have:=hY j hj;show j<wb.heap.size;omega)) (rpe.weak fun j hj=>.inl (by have:=hY j hj;show j<wc.heap.size;omega))
     obtain⟨x75,w75,v76,w76,hr75,hr76,o76,m76,n76⟩:=oE.push (ty:=78) (t:=78) I0 yk rfl (by omega) (by omega) (by omega) (aI.cons rfl (aI.cons rfl (aI.cons rfl (aI.cons hx.one (aI.cons hy.one (aI.cons hvp aI.nil)))))) hM ff (by omega) mLE.size
     have h76:cc g (some lD) w76:=re.mv m76 fun j hj=>by have:=own j hj;omega
     have k76:=m76.blk kE (fun hh=>by have:=own g4 hh;omega)
     obtain⟨A76,n76',c76,rfl⟩:=o76.isS
     obtain⟨wf,sf,qf,kf⟩:=k76.stC (P:=Tryz.prog) (t:=78) (i:=0) (v:=.slice A76 n76' c76) (by kernel_rfl) rfl (by simp)
     have kf:cd g4 83 [.slice A76 n76' c76,I 0,I 0,B false,.slice none 0 0,.slice none 0 0,.slice none 0 0,B (decide (tag=1)),.slice none 0 0] wf:=kf
     have mf:Mv (fun k=>k=g4) w76 wf:=Mv.of_grown qf fun k hk _=>(Option.some.inj hk).symm
     have hf:cc g (some lD) wf:=h76.mv mf fun j hj=>by omega
     have of':=o76.mv mf fun j hj=>by omega
     refine aa (ah Jg Jg (aE (o:=0) IN Jg (by kernel_rfl) Jg) (am Jg Jg (ak I0 Jg (kE.cell (i:=0) Jg)) ?_))
     refine am Jg Jg (ke.ld IZ Jg (by kernel_rfl)) ?_
     refine aN (vs:=[(0,.agg #[I n1,B (iH up),B q.1,x,y,vp])]) Jg Jg hr75 ?_
     refine be Jg Jg hr76 ?_
     refine ah Jg Jg (aE (o:=0) IN Jg (by kernel_rfl) Jg) ?_
     refine ar Jg Jg sf ?_
     refine ag (aJ ?_)
     refine fa (k') (.slice A76 n76' c76) (lD) (ls++[⟨n1,iH up,q,ps⟩]) ⟨rfl,rfl,rfl,rfl,rfl,trivial⟩ ⟨(mLE.trans m76 fun j hj hlt=>by have:=(own j hj).1;omega).trans mf fun _ hj _=>.inr hj,hf,kf,of',by simp;omega,jg hR qLm,by simp;omega,by omega⟩ (by omega)
    ·refine aa (ae Jg Jg (ci Jg Jg cj (ae Jg Jg (ao Jg Jg Jg (ao Jg Jg Jg (aw Jg Jg Jg (ag (ac (bB Jg (af ?_))))))))))
     obtain⟨wd,sd,kd,fin⟩:=ll (st:=st) (nd:=.mk ls tJ [] (decide (tag=1)) []) hlt l2 g42 ex4 k24 rfl mLE (aI.cons hvo (aI.cons rfl (aI.cons rfl (aI.cons rfl (aI.cons rfl (aI.cons rfl (aI.cons rfl (aI.cons rfl (aI.cons rfl aI.nil))))))))) (fA (oE.rpx ff (by omega)) lj kt kt) re
     refine aa (am Jg Jg (kE.ld IN Jg (by kernel_rfl)) ?_)
     refine ar Jg Jg sd ?_
     refine ab Jg Jg (ag (ac (au (av (bc (av (bc (av ?_))))))))
     refine bH Jg Jg Jg kd IN Jg (by kernel_rfl) ?_
     exact⟨_,rfl,fin false ⟨(fun e=>nomatch e),fun _=>oR qF (ji qU hR (yg q1 (hno2 rfl)))⟩⟩
   ·refine aa (ah Jg Jg (aE (o:=0) IN Jg (by kernel_rfl) Jg) (am Jg Jg (ak I0 Jg (kL.cell (i:=0) Jg)) ?_))
    refine aP (r:=I ls.length) Jg Jg ((bT (f:=fm) I0 rL.rp)) (aQ Jg Jg (ko IM IL) ?_)
    refine ae Jg Jg (ai Jg Jg Jg (bZ (mt (Dv hll hN).1 (by omega)) dt) (ag (ac (cq Jg (aW (aA (aA (aU (ac (af (af ?_)))))))))))
    have qLs:et fU (some l1) ls (some l):=ip qU (by subst h0;exact hR)
    have anL:xa (n-1) (some l):=fun l' e=>by cases e;exact hnl
    by_cases ht:tag<2
    ·refine aa (ae Jg Jg (ai (v:=bj 2) Jg Jg Jg (cf ((Dv htag (by omega)).2 ht) dt) (ag (ac (bB Jg (af (aa (ae Jg Jg (an qt Jg Jg ((qu hrL hlL)) ?_)))))))))
     rintro v82 w82 ⟨m82,ps,vp,s3,rfl,rp82,hvp,hr82,qP⟩
     have m82:=m82
     have k82:=m82.blk kL (fun e=>by have:g4=g:=e;omega)
     obtain⟨we,se,qe,ke⟩:=k82.stC (P:=Tryz.prog) (t:=81) (i:=8) (v:=vp) (by kernel_rfl) hvp (by simp)
     have ke:cd g4 83 [v,I 0,I 0,B false,.slice none 0 0,.slice none 0 0,.slice none 0 0,B (decide (tag=1)),vp] we:=ke
     have me:Mv (fun k=>k=g4) w82 we:=Mv.of_grown qe fun k hk _=>(Option.some.inj hk).symm
     have re:cc g s3 we:=hr82.mv me fun j hj=>by omega
     have hXL:∀j,RX g j→j<w4.heap.size:=fun j hj=>by have:j=g:=hj;omega
     have oE:=(oL.mv m82 hXL).mv me fun j hj=>by omega
     have mLE:Mv (fun k=>RX g k∨k=g4) w4 we:=(mL.trans m82 fun _ hj _=>.inl hj).trans me fun _ hj _=>.inr hj
     have rpe:=rp82.mv (me.weak fun j hj _=>by show j<wL.heap.size;omega) fun _ hk=>.inl hk
     obtain⟨wd,sd,kd,fin⟩:=ll (st:=st) (nd:=.mk ls tJ [] (decide (tag=1)) ps) hlt l2 g42 ex4 k24 rfl mLE (aI.cons hvo (aI.cons rfl (aI.cons rfl (aI.cons rfl (aI.cons rfl (aI.cons rfl (aI.cons rfl (aI.cons rfl (aI.cons hvp aI.nil))))))))) (fA (oE.rpx ff (by omega)) lj kt (rpe.weak fun j hj=>.inl (by have:=mL.size;show j<wL.heap.size;omega))) re
     refine ae Jg Jg (aj Jg Jg (aS) (aj Jg Jg (aT) ?_))
     refine ah Jg Jg (aE (o:=8) IN Jg (by kernel_rfl) Jg) ?_
     refine ar Jg Jg se ?_
     refine ab Jg Jg (ag (ac (af (aa (am Jg Jg (ke.ld IN Jg (by kernel_rfl)) (ae Jg Jg ?_))))))
     refine ar Jg Jg sd ?_
     refine ab Jg Jg (ag (ac (au (av ?_))))
     refine bH Jg Jg Jg kd IN Jg (by kernel_rfl) ?_
     exact⟨_,rfl,fin _ ⟨fun e=>⟨ux ht qF qLs qP,fun e3=>by rw[e3] at e;cases e⟩,fun e=>yc ht qF qLs (by
      cases s3 with
      |none=>exact qP
      |some t=>cases e)⟩⟩
    ·refine aa (ae Jg Jg (ai (v:=bj 2) Jg Jg Jg (bZ (mt (Dv htag (by omega)).1 ht) dt) (ag (ac (cq Jg (aq (ac (af (aa (ae Jg Jg ?_))))))))))
     refine an CM Jg Jg ((CN hrL hlL)) ?_
     rintro v90 w90 ⟨m90,d,x,y,s3,rfl,rd90,hx,hy,hr90,qD⟩
     have m90:=m90
     have k90:=m90.blk kL (fun e=>by have:g4=g:=e;omega)
     obtain⟨we,se,qe,ke⟩:=k90.stO (P:=Tryz.prog) (t:=80) (m:=[I d.kd,I d.ix,B d.at_.1,x,y]) 1 (by simp) (by kernel_rfl) (aI.cons rfl (aI.cons rfl (aI.cons rfl (aI.cons hx (aI.cons hy aI.nil)))))
     have ke:cd g4 83 [v,I d.kd,I d.ix,B d.at_.1,x,y,.slice none 0 0,B (decide (tag=1)),.slice none 0 0] we:=ke
     have me:Mv (fun k=>k=g4) w90 we:=Mv.of_grown qe fun k hk _=>(Option.some.inj hk).symm
     have re:cc g s3 we:=hr90.mv me fun j hj=>by omega
     have hXL:∀j,RX g j→j<w4.heap.size:=fun j hj=>by have:j=g:=hj;omega
     have oE:=(oL.mv m90 hXL).mv me fun j hj=>by omega
     have mLE:Mv (fun k=>RX g k∨k=g4) w4 we:=(mL.trans m90 fun _ hj _=>.inl hj).trans me fun _ hj _=>.inr hj
     have rdE:=rd90.mv (me.weak fun j hj _=>by show j<wL.heap.size;omega) fun _ hk=>.inl hk
     have lM:cK (fun k=>k<w4.heap.size∨we.heap.size≤k) we (pJ d) [I d.kd,I d.ix,B d.at_.1,x,y]:=rdE.weak fun j hj=>by
      rcases hj with hj|hj
      ·exact .inl (by have:=mL.size;show j<wL.heap.size;omega)
      ·exact .inr hj
     have rLI:cK (fun k=>k<w4.heap.size∨we.heap.size≤k) we (.sl (ls.map fm)) [v]:=(oE.rpx ff (by omega)).weak fun j hj=>hj
     have eT:decide (tag=1)=false:=decide_eq_false (by omega)
     refine ae Jg Jg (aj Jg Jg (aS) (aj Jg Jg (aT) ?_))
     refine ah Jg Jg (aE (o:=1) IN Jg (by kernel_rfl) Jg) ?_
     refine ar Jg Jg se ?_
     refine ab Jg Jg (ag (ac (af (af (aa (ab Jg Jg (ag (ac (ax ?_)))))))))
     refine qY (fun(i:Nat) (vk:Value) (so:Option (List UInt8)) (ks:List ba) (ok:Bool)=>[(0,.pointer (some ⟨g,0,none⟩)),(2,.pointer (some ⟨g2,0,none⟩)),(4,.pointer (some ⟨g4,0,none⟩)),(6,B ok),(12,I i)]) (fun(i:Nat) (vk:Value) (so:Option (List UInt8)) (ks:List ba) (ok:Bool) w'=>Mv (fun k=>RX g k∨k=g4) w4 w'∧cc g so w'∧cd g4 83 [v,I d.kd,I d.ix,B d.at_.1,x,y,vk,B (decide (tag=1)),.slice none 0 0] w'∧fw 83 9 we.heap.size bK ks vk w'∧uB s3 i ks so ok∧ks.length=i∧i≤2∧cK (fun k=>k<w4.heap.size∨we.heap.size≤k) w' (.sl (ls.map fm)) [v]∧cK (fun k=>k<w4.heap.size∨we.heap.size≤k) w' (pJ d) [I d.kd,I d.ix,B d.at_.1,x,y]∧we.heap.size≤w'.heap.size∧(ok=true→xa (n-1) so∧dD so)) (fun(i:Nat) (vk:Value) (so:Option (List UInt8)) (ks:List ba) (ok:Bool)=>2-i) (0) (.slice none 0 0) (s3) ([]) (s3.isSome) ⟨rfl,rfl,rfl,rfl,rfl,trivial⟩ ⟨mLE,re,ke,fw.nil _,⟨rfl,rfl,rfl⟩,rfl,by omega,rLI,lM,Nat.le_refl _,fun _=>⟨qD.atM nO.le anL,qD.atM nO.le hlL⟩⟩ ?_
     rintro i vk so ks ok wM ⟨mM,hrM,kM,oM,hK,hki,hi2,rLM,rdM,szM,hAt⟩
     refine af (af ?_)
     rcases ok with _|_
     rotate_left
     by_cases hi:i<2
     ·refine aa (ae Jg Jg (ae Jg Jg (al Jg (ae Jg Jg (al Jg (ai Jg Jg Jg (cf (by omega) aX) (aw Jg Jg Jg (ag (ac (bB Jg ?_))))))))))
      refine aq (ac (af (ax (af (aa ?_)))))
      obtain⟨g13,w13,hr13,l13,x13,k13⟩:=bf (P:=Tryz.prog) (w:=wM) (t:=83) (z:=.agg #[.slice none 0 0,I 0,I 0,B false,.slice none 0 0,.slice none 0 0,.slice none 0 0,B false,.slice none 0 0]) (l:=[.slice none 0 0,I 0,I 0,B false,.slice none 0 0,.slice none 0 0,.slice none 0 0,B false,.slice none 0 0]) (by kernel_rfl) rfl
      refine bh Jg hr13 (ag (ac (af ?_)))
      have hrM13:=cc.ext hrM x13
      have e13:=x13
      have lt13:=k13.lt
      have szM13:=e13.size
      have hg13:g<g13:=by have:=mM.size;omega
      refine aa (ae Jg Jg (an sS Jg Jg ((ih (m:=n-1) (by omega) hrM13 (hAt Jg).2 (hAt Jg).1)) ?_))
      rintro v103 w103 ⟨m103,nd,cs,s6,ok6,rfl,rp103,h1cs,hr103,hNd⟩
      have m103:=m103
      have hcs:cs.length=9:=rp103.len.trans (bD nd)
      have k103:=m103.blk k13 (fun e=>by have:g13=g:=e;omega)
      obtain⟨wn,sn,qn,kn⟩:=k103.stS (P:=Tryz.prog) (t:=83) (m:=cs) (by rw[hcs];rfl) (by rw[hcs];kernel_rfl) h1cs
      have mn:Mv (fun k=>k=g13) w103 wn:=Mv.of_grown qn fun k hk _=>(Option.some.inj hk).symm
      have rn:cc g s6 wn:=hr103.mv mn fun j hj=>by omega
      have mAll:Mv (RX g) wM wn:=((Mv.of_ext e13).trans m103 fun _ hj _=>hj).trans mn fun j hj hlt=>by omega
      have hXE:∀j,RX g j→j<we.heap.size:=fun j hj=>by have:j=g:=hj;have:=mLE.size;omega
      have oN:=oM.mv mAll hXE
      have kN:=mAll.blk kM (fun e=>by have:g4=g:=e;omega)
      have mN:Mv (fun k=>RX g k∨k=g4) w4 wn:=mM.trans mAll fun _ hj _=>.inl hj
      have rpn:=rp103.mv (mn.weak fun j hj _=>by show j<w13.heap.size;omega) fun _ hk=>.inl hk
      have own:∀j,vk.ownBlock=some j→we.heap.size≤j∧j<wM.heap.size:=oM.lt
      have hY:∀j,(j<we.heap.size∨vk.ownBlock=some j)→j<w13.heap.size:=fun j hj=>by
       rcases hj with hj|hj
       ·omega
       ·have:=(own j hj).2;omega
      obtain⟨x109,w109,v110,w110,hr109,hr110,o110,m110,n110⟩:=oN.push (ty:=23) (t:=23) IS kq rfl (by omega) (by omega) (by omega) h1cs (rpn.weak fun j hj=>.inl (hY j hj)) bD (by omega) (Nat.le_trans szM mAll.size)
      have h110:cc g s6 w110:=rn.mv m110 fun j hj=>by have:=own j hj;have:=mLE.size;omega
      have k110:=m110.blk kN (fun hh=>by have:=own g4 hh;have:=mLE.size;omega)
      obtain⟨A110,n110',c110,rfl⟩:=o110.isS
      obtain⟨wf,sf,qf,kf⟩:=k110.stC (P:=Tryz.prog) (t:=23) (i:=6) (v:=.slice A110 n110' c110) (by kernel_rfl) rfl (by simp)
      have kf:cd g4 83 [v,I d.kd,I d.ix,B d.at_.1,x,y,.slice A110 n110' c110,B (decide (tag=1)),.slice none 0 0] wf:=kf
      have mf:Mv (fun k=>k=g4) w110 wf:=Mv.of_grown qf fun k hk _=>(Option.some.inj hk).symm
      have hf:cc g s6 wf:=h110.mv mf fun j hj=>by omega
      have of':=o110.mv mf fun j hj=>by have:=mLE.size;omega
      have mI:Mv (fun k=>k<w4.heap.size∨we.heap.size≤k) wM wf:=((mAll.weak fun j hj _=>.inl (by have:j=g:=hj;omega)).trans m110 fun j hj _=>.inr (own j hj).1).trans mf fun j hj _=>.inl (by omega)
      have rLf:=rLM.mv mI fun _ hk=>.inl hk
      have rdf:=rdM.mv mI fun _ hk=>.inl hk
      refine ae Jg Jg (aj Jg Jg (aS) (aj Jg Jg (aT) ?_))
      refine ar Jg Jg sn ?_
      refine ab Jg Jg (ag (ac (aa (ah Jg Jg (aE (o:=6) IN Jg (by kernel_rfl) Jg) (am Jg Jg (ak IS Jg (kN.cell (i:=6) Jg)) ?_)))))
      refine am Jg Jg (kn.ld IN Jg (by rw[hcs];kernel_rfl)) ?_
      refine aN (vs:=[(0,.agg cs.toArray)]) Jg Jg hr109 ?_
      refine be Jg Jg hr110 ?_
      refine ah Jg Jg (aE (o:=6) IN Jg (by kernel_rfl) Jg) ?_
      refine ar Jg Jg sf ?_
      refine ag (aJ (ac (aa (ae Jg Jg (ai Jg Jg Jg (aK (by omega) (by omega)) (ab Jg Jg (ag ?_)))))))
      refine fG (i+1) (.slice A110 n110' c110) (s6) (ks++[nd]) (ok6) ⟨rfl,rfl,rfl,rfl,rfl,trivial⟩ ⟨(mN.trans m110 fun j hj hlt=>by have:=(own j hj).1;have:=mLE.size;omega).trans mf fun _ hj _=>.inr hj,hf,kf,of',hK.step hi hNd,by simp;omega,by omega,rLf,rdf,Nat.le_trans szM (Nat.le_trans mAll.size (Nat.le_trans m110.size mf.size)),fun e=>⟨(hNd.1 e).1.atM mS.le (hAt Jg).1,(hNd.1 e).1.atM mS.le (hAt Jg).2⟩⟩ (by omega)
     ·refine aa (ae Jg Jg (ae Jg Jg (al Jg (ae Jg Jg (al Jg (ai Jg Jg Jg (bZ (by omega) aX) (aw Jg Jg Jg (ag (ac (cq Jg ?_))))))))))
      refine aW (aA (aA (aU (ac (af ?_)))))
      have hvk:vk.oneCell'=true:=by obtain⟨_,_,_,rfl⟩:=oM.isS;rfl
      obtain⟨wd,sd,kd,fin⟩:=ll (st:=st) (nd:=.mk ls d ks (decide (tag=1)) []) hlt l2 g42 ex4 k24 rfl mM (aI.cons hvo (aI.cons rfl (aI.cons rfl (aI.cons rfl (aI.cons hx (aI.cons hy (aI.cons hvk (aI.cons rfl (aI.cons rfl aI.nil))))))))) (fA (rLM.weak fun j hj=>.inl (.inl hj)) (rdM.weak fun j hj=>.inl (.inl hj)) ((oM.rpx bD (by omega)).weak fun j hj=>.inl (by have:=mLE.size;show j<we.heap.size;omega)) kt) hrM
      refine aa (am Jg Jg (kM.ld IN Jg (by kernel_rfl)) (ae Jg Jg ?_))
      refine ar Jg Jg sd ?_
      refine ab Jg Jg (ag (ac (au ?_)))
      refine bH Jg Jg Jg kd IN Jg (by kernel_rfl) ?_
      exact⟨_,rfl,fin true (by rw[eT];exact hK.done (.inr (by omega)) ht qF qLs qD)⟩
     ·refine aa (ae Jg Jg (ae Jg Jg (ao Jg Jg Jg (ao Jg Jg Jg (aC Jg Jg Jg (ag (ac (cq Jg (aW (aA (aA (aU (ac (af ?_))))))))))))))
      have hvk:vk.oneCell'=true:=by obtain⟨_,_,_,rfl⟩:=oM.isS;rfl
      obtain⟨wd,sd,kd,fin⟩:=ll (st:=st) (nd:=.mk ls d ks (decide (tag=1)) []) hlt l2 g42 ex4 k24 rfl mM (aI.cons hvo (aI.cons rfl (aI.cons rfl (aI.cons rfl (aI.cons hx (aI.cons hy (aI.cons hvk (aI.cons rfl (aI.cons rfl aI.nil))))))))) (fA (rLM.weak fun j hj=>.inl (.inl hj)) (rdM.weak fun j hj=>.inl (.inl hj)) ((oM.rpx bD (by omega)).weak fun j hj=>.inl (by have:=mLE.size;show j<we.heap.size;omega)) kt) hrM
      refine aa (am Jg Jg (kM.ld IN Jg (by kernel_rfl)) (ae Jg Jg ?_))
      refine ar Jg Jg sd ?_
      refine ab Jg Jg (ag (ac (au ?_)))
      refine bH Jg Jg Jg kd IN Jg (by kernel_rfl) ?_
      exact⟨_,rfl,fin false (by rw[eT];exact hK.done (.inl rfl) ht qF qLs qD)⟩
theorem zQ:∀(n:Nat) {w:World} {g:Nat} {st:Option (List UInt8)},cc g st w→dD st→xa n st→Calls Tryz.prog 116 #[.pointer (some ⟨g,0,none⟩)] w (bF (Bl g w st)):=by
 intro n
 induction n using Nat.strongRecOn with
 |_ n ih=>exact fun hr hl hn=>zP (n:=n) (fun {w g st m} hm h1 h2 h3=>ih m hm h1 h2 h3) hr hl hn
end Go.Rl
namespace Go.Rl
open Go.RowKit Go.Proofs
theorem Gd {w:World} {g:Nat} {st:Option (List UInt8)} (hr:cc g st w):Calls Tryz.prog 115 #[.pointer (some ⟨g,0,none⟩)] w (bF fun r w'=>w=w'∧r=I (if st=some [] then 0 else 5)):=(nG hr).mono fun _ _ ⟨v,h,h1,h2⟩=>⟨v,h,h2.symm,h1⟩
theorem Hv {P:Program} {w:World} {t:TypeId} {x y:Operand} {l:List UInt8}:(bin .eql t x y (I (if some l=some [] then 0 else 5)) (I 0)).run P w=.ok (B (decide (l=[]))) w:=by
 by_cases h:l=[]
 ·subst h
  exact aV
 ·rw[if_neg (fun e=>h (Option.some.inj e)),decide_eq_false h]
  exact aV
theorem ym {w:World} {b:List UInt8} {v:Value} (hv:cm b v w) (hl:b.length≤549755813888):
 Calls Tryz.prog 57 #[v] w (bF fun r w'=>aM w w'∧∃(ts:List ba) (vt:Value) (ok:Bool),r=.tuple #[vt,B ok]∧cK (fun k=>k<w.heap.size) w' (.sl (ts.map bK)) [vt]∧vt.oneCell'=true∧(ok=true→nN b=some (ts,[]))∧(ok=false→∀ts',nN b≠some (ts',[]))):=by
 refine enter (vs:=[v]) Tryz.func57 Jg Jg Jg ?_
 obtain⟨N,s1,qU,hN,cU⟩:=sT (some b)
 have hb:dD (some b):=fun l e=>by cases e;exact hl
 refine af (aa (ab Jg Jg (ab Jg Jg (ag (ac (af (aa (ae Jg Jg (an pB Jg Jg ((pD hv (by omega))) ?_)))))))))
 rintro v11 w11 ⟨x11,g,lg,rfl,hr11⟩
 refine ab Jg Jg (ag (ac (af (aa (ae Jg Jg (an cA Jg Jg ((cU hr11)) ?_))))))
 rintro v14 w14 ⟨g14,rfl,hr14⟩
 have m14:=dL.kp hr11 g14
 have hl1:dD s1:=qU.atM jz.le hb
 have hgl:=cc.lt hr11
 refine ae Jg Jg (aj Jg Jg (aS) (aj Jg Jg (aT) (ab Jg Jg (ab Jg Jg (ag (ac (af (aa (ab Jg Jg (ag (ac (af ?_))))))))))))
 refine aa (ae Jg Jg (ai (r:=B s1.isSome) Jg Jg Jg (EF) (ab Jg Jg (ag (ac (af (ax ?_)))))))
 refine qY (fun(k:Nat) (v:Value) (so:Option (List UInt8)) (ts:List ba) (ok:Bool)=>[(4,.pointer (some ⟨g,0,none⟩)),(5,bj (UInt64.ofNat N)),(7,v),(8,B ok)]) (fun(k:Nat) (v:Value) (so:Option (List UInt8)) (ts:List ba) (ok:Bool) w'=>Mv (RX g) w11 w'∧cc g so w'∧fw 83 9 w11.heap.size bK ts v w'∧k+ts.length=N∧ts.length≤549755813890∧(ok=true→∃l,so=some l∧s1.bind (cG eB N)=(some l).bind (fun l=>(cG eB k l).map fun p=>(ts++p.1,p.2))∧l.length+ts.length≤549755813888)∧(ok=false→(some b).bind nN=none)) (fun(k:Nat) (v:Value) (so:Option (List UInt8)) (ts:List ba) (ok:Bool)=>k) (N) (.slice none 0 0) (s1) ([]) (s1.isSome) ⟨rfl,rfl,rfl,rfl,trivial⟩ ⟨Mv.of_grown g14 fun k hk _=>(Option.some.inj hk).symm,hr14,fw.nil _,by simp,by simp,(fun e=>by
  cases s1 with
  |none=>cases e
  |some l=>exact⟨l,rfl,im,by have:=hl1 l rfl;simpa using this⟩),fun e=>by
  cases s1 with
  |none=>exact jh (done:=([]:List ba)) qU rfl
  |some l=>cases e⟩ ?_
 rintro k v so ts ok wL ⟨mL,hrL,oL,hk,htl,hT,hF⟩
 refine af (af ?_)
 have rL:=oL.rpx bD (by omega)
 have hvo:v.oneCell'=true:=by obtain⟨_,_,_,rfl⟩:=oL.isS;rfl
 have hnl:ts.length<18446744073709551616:=by omega
 have hgL:g<wL.heap.size:=by have:=mL.size;omega
 have exL:aM w wL:=Mv.ext_from mL x11 fun j hj=>by have:j=g:=hj;omega
 rcases ok with _|_
 rotate_left
 obtain⟨l,rfl,hR,hql⟩:=hT rfl
 rcases Nat.eq_zero_or_pos k with h0|h0
 rotate_left
 ·refine aa (ae Jg Jg (ae Jg Jg (al Jg (ae Jg Jg (al Jg (aP (r:=I ts.length) Jg Jg ((bT (f:=bK) IS rL.rp)) ?_))))))
  refine al Jg (aQ Jg Jg (ko IM IL) (al Jg (ae Jg Jg (al Jg (ai Jg Jg Jg (cf ((Dv hnl hN).2 (by omega)) dt) ?_)))))
  refine aw Jg Jg Jg (ag (ac (bB Jg (aq (ac (ax (af (aa ?_))))))))
  obtain⟨g9,w9,hr9,l9,x9,k9⟩:=bf (P:=Tryz.prog) (w:=wL) (t:=83) (z:=.agg #[.slice none 0 0,I 0,I 0,B false,.slice none 0 0,.slice none 0 0,.slice none 0 0,B false,.slice none 0 0]) (l:=[.slice none 0 0,I 0,I 0,B false,.slice none 0 0,.slice none 0 0,.slice none 0 0,B false,.slice none 0 0]) (by kernel_rfl) rfl
  refine bh Jg hr9 (ag (ac (af ?_)))
  have hrM9:=cc.ext hrL x9
  have e9:=x9
  have lt9:=k9.lt
  have szM9:=e9.size
  have hg9:g<g9:=by omega
  have hll:dD (some l):=fun l' e=>by cases e;omega
  refine aa (ae rfl rfl (an sS rfl rfl ((zQ l.length hrM9 hll (fun l' e=>by cases e;exact Nat.le_refl _))) ?_))
  rintro v29 w29 ⟨m29,nd,cs,s6,ok6,rfl,rp29,h1cs,hr29,hNd⟩
  have m29:=m29
  have hcs:cs.length=9:=rp29.len.trans (bD nd)
  have k29:=m29.blk k9 (fun e=>by have:g9=g:=e;omega)
  obtain⟨wn,sn,qn,kn⟩:=k29.stS (P:=Tryz.prog) (t:=83) (m:=cs) (by rw[hcs];rfl) (by rw[hcs];kernel_rfl) h1cs
  have mn:Mv (fun k=>k=g9) w29 wn:=Mv.of_grown qn fun k hk _=>(Option.some.inj hk).symm
  have rn:cc g s6 wn:=hr29.mv mn fun j hj=>by omega
  have mAll:Mv (RX g) wL wn:=((Mv.of_ext e9).trans m29 fun _ hj _=>hj).trans mn fun j hj hlt=>by omega
  have hXE:∀j,RX g j→j<w11.heap.size:=fun j hj=>by have:j=g:=hj;omega
  have oN:=oL.mv mAll hXE
  have rpn:=rp29.mv (mn.weak fun j hj _=>by show j<w9.heap.size;omega) fun _ hk=>.inl hk
  have own:∀j,v.ownBlock=some j→w11.heap.size≤j∧j<wL.heap.size:=oL.lt
  have hY:∀j,(j<w11.heap.size∨v.ownBlock=some j)→j<w9.heap.size:=fun j hj=>by
   rcases hj with hj|hj
   ·have:=mL.size;omega
   ·have:=(own j hj).2;omega
  obtain⟨x34,w34,v35,w35,hr34,hr35,o35,m35,n35⟩:=oN.push (ty:=23) (t:=23) IS kq rfl (by omega) (by omega) (by omega) h1cs (rpn.weak fun j hj=>.inl (hY j hj)) bD (by omega) (Nat.le_trans mL.size mAll.size)
  have h35:cc g s6 w35:=rn.mv m35 fun j hj=>by have:=own j hj;omega
  refine ae Jg Jg (aj Jg Jg (aS) (aj Jg Jg (aT) ?_))
  refine ar Jg Jg sn ?_
  refine ab Jg Jg (ag (ac (aa (ae Jg Jg ?_))))
  refine am Jg Jg (kn.ld IN Jg (by rw[hcs];kernel_rfl)) ?_
  refine aN (vs:=[(0,.agg cs.toArray)]) Jg Jg hr34 ?_
  refine be Jg Jg hr35 ?_
  obtain⟨k',rfl⟩:∃k',k=k'+1:=⟨k-1,by omega⟩
  refine ab Jg Jg (ag (aJ ?_))
  refine fG (k') (v35) (s6) (ts++[nd]) (ok6) ⟨rfl,rfl,rfl,rfl,trivial⟩ ⟨(mL.trans mAll fun _ hj _=>hj).trans m35 fun j hj hlt=>by have:=(own j hj).1;omega,h35,o35,by simp;omega,by simp;omega,(fun e=>by
   obtain⟨h6,h7⟩:=hNd.1 e
   obtain⟨l6,rfl⟩:∃l6,s6=some l6:=by
    cases s6 with
    |none=>exact absurd rfl h7
    |some l6=>exact⟨l6,rfl⟩
   have:=mS l _ l6 h6
   exact⟨l6,rfl,jg hR h6,by simp;omega⟩),fun e=>ji qU hR (hNd.2 e)⟩ (by omega)
 ·refine aa (ae Jg Jg (ae Jg Jg (ao Jg Jg Jg (ao Jg Jg Jg (ao Jg Jg Jg (ao Jg Jg Jg (ao Jg Jg Jg (aC Jg Jg Jg (ag (ac (cq Jg ?_)))))))))))
  refine aW (aA (aA (aU (ac (af (aa (ae Jg Jg (ae Jg Jg (ae Jg Jg (ao Jg Jg Jg (ao Jg Jg Jg (ao Jg Jg Jg (aC Jg Jg Jg ?_)))))))))))))
  refine ab Jg Jg (ab Jg Jg (ag (ac (au (aH Jg Jg Jg ?_)))))
  exact⟨_,rfl,exL,ts,v,false,rfl,rL.weak fun j hj=>.inl (by have:=x11.size;show j<w11.heap.size;omega),hvo,(fun e=>nomatch e),fun _ ts' e=>by
   have h:nN b=none:=hF rfl
   rw[h] at e
   cases e⟩
 ·refine aa (ae Jg Jg (ae Jg Jg (al Jg (ae Jg Jg (al Jg (aP (r:=I ts.length) Jg Jg ((bT (f:=bK) IS rL.rp)) ?_))))))
  refine al Jg (aQ Jg Jg (ko IM IL) (al Jg (ae Jg Jg (al Jg (ai Jg Jg Jg (bZ (mt (Dv hnl hN).1 (by omega)) dt) ?_)))))
  refine aw Jg Jg Jg (ag (ac (cq Jg (aW (aA (aA (aU (ac (af (aa (ae Jg Jg (ae Jg Jg (ae Jg Jg (al Jg (ae Jg Jg (al Jg ?_))))))))))))))))
  refine an nE Jg Jg ((Gd hrL)) ?_
  rintro v40 _ ⟨rfl,rfl⟩
  refine al Jg (ai (r:=B (decide (l=[]))) Jg Jg Jg (Hv) (aw Jg Jg Jg (ab Jg Jg (ab Jg Jg (ag (ac (au (aH Jg Jg Jg ?_))))))))
  exact⟨_,rfl,exL,ts,v,decide (l=[]),rfl,rL.weak fun j hj=>.inl (by have:=x11.size;show j<w11.heap.size;omega),hvo,(fun e=>by
   subst h0
   have h:nN b=some (ts,l):=ip qU hR
   rw[h,of_decide_eq_true e]),fun e ts' e2=>by
   subst h0
   have h:nN b=some (ts,l):=ip qU hR
   rw[h] at e2
   simp only[Option.some.injEq,Prod.mk.injEq] at e2
   exact of_decide_eq_false e e2.2⟩
end Go.Rl
namespace Go.Rl
open Go.RowKit Go.Proofs
theorem lm:az Tryz.prog 110:=⟨_,Tryz.func110,by kernel_rfl,rfl⟩
theorem gj:az Tryz.prog 176:=⟨_,Tryz.func176,by kernel_rfl,rfl⟩
theorem nS:az Tryz.prog 178:=⟨_,Tryz.func178,by kernel_rfl,rfl⟩
theorem oT:az Tryz.prog 146:=⟨_,Tryz.func146,by kernel_rfl,rfl⟩
theorem CO:az Tryz.prog 149:=⟨_,Tryz.func149,by kernel_rfl,rfl⟩
theorem qv:az Tryz.prog 148:=⟨_,Tryz.func148,by kernel_rfl,rfl⟩
theorem zR:az Tryz.prog 147:=⟨_,Tryz.func147,by kernel_rfl,rfl⟩
theorem nT:az Tryz.prog 112:=⟨_,Tryz.func112,by kernel_rfl,rfl⟩
def HW:Value:=.iface 167 (.agg #[])
def tE (c:List PanicEntry):Prop:=c=[{v:=HW,recovered:=false}]
theorem vV {P:Program} {w:World} {t:TypeId} {fs:Array Field} {v:Value} (h:P.underlying t=some (.struct fs)):(Instr.makeInterface t v).run P w=.ok (.iface t v) w:=by
 simp[Instr.makeInterface,run_underlying h]
theorem vW (st:Option (List UInt8)):∃n s1,et cZ st n s1∧n<18446744073709551616∧∀{w:World} {g:Nat},aZ g st w→Calls Tryz.prog 111 #[.pointer (some ⟨g,0,none⟩)] w (bF fun r w'=>w.grownBy w' (some g)∧r=.tuple #[bj (UInt64.ofNat n),I (if s1.isSome=true then 0 else 5)]∧aZ g s1 w'):=by
 cases hU:st.bind cZ with
 |none=>exact⟨0,none,hU,by omega,fun hr=>GR hr hU⟩
 |some p=>
  obtain⟨n,t⟩:=p
  refine⟨n,some t,hU,?_,fun hr=>GS hr hU⟩
  cases st with
  |none=>cases hU
  |some l=>exact(eS (show cZ l=some (n,t) from hU)).2
theorem nU (st:Option (List UInt8)):∃n s1,et lM st n s1∧oJ n∧∀{w:World} {g:Nat},aZ g st w→Calls Tryz.prog 177 #[.pointer (some ⟨g,0,none⟩)] w (bF fun r w'=>w.grownBy w' (some g)∧r=.tuple #[I n,I (if s1.isSome=true then 0 else 5)]∧aZ g s1 w'):=by
 cases hU:st.bind cZ with
 |none=>
  refine⟨0,none,?_,by unfold oJ;omega,fun hr=>Ij hr hU⟩
  cases st with
  |none=>rfl
  |some l=>show(cZ l).map _=none;rw[show cZ l=none from hU];rfl
 |some p=>
  obtain⟨n,t⟩:=p
  have hI:et lM st (uz n) (some t):=by
   cases st with
   |none=>cases hU
   |some l=>show(cZ l).map _=_;rw[show cZ l=some (n,t) from hU];rfl
  exact⟨uz n,some t,hI,Bh hI,fun hr=>Ik hr hU⟩
def qO (b:Nat) (q:f5):dx:=fun v w=>∃x y,v=.agg #[B q.1,x,y]∧cK (fun k=>k<b) w (gi q) [B q.1,x,y]
def oW (b:Nat) (q:f5) (e:Int):dx:=fun v w=>∃x y,v=.tuple #[.agg #[B q.1,x,y],I e]∧cK (fun k=>k<b) w (gi q) [B q.1,x,y]
theorem qO.stable {b g:Nat} {q:f5} (hg:g<b):bR (Mv (RX g)) (qO b q):=fun _ _ _ ⟨x,y,h,h2⟩ hm=>⟨x,y,h,h2.mv (hm.weak fun j hj _=>by have:j=g:=hj;show j<b;omega) fun _ hk=>.inl hk⟩
theorem oW.stable {b g:Nat} {q:f5} {e:Int} (hg:g<b):bR (Mv (RX g)) (oW b q e):=fun _ _ _ ⟨x,y,h,h2⟩ hm=>⟨x,y,h,h2.mv (hm.weak fun j hj _=>by have:j=g:=hj;show j<b;omega) fun _ hk=>.inl hk⟩
theorem oW.up {b c:Nat} {q:f5} {e:Int} {v:Value} {w:World} (hc:b≤c) (h:oW c q e v w):oW b q e v w:=by
 obtain⟨x,y,h1,h2⟩:=h
 exact⟨x,y,h1,h2.weak fun j hj=>.inl (Nat.lt_of_lt_of_le hj hc)⟩
theorem gA {X:Nat→Prop} {w:World} {q:f5} {x y:Value} (h:cK X w (gi q) [B q.1,x,y]):x.oneCell'=true∧y.oneCell'=true:=by
 obtain⟨x',y',he,hx,hy⟩:=lU h.rp
 simp only[List.cons.injEq] at he
 obtain⟨_,rfl,rfl,_⟩:=he
 obtain⟨_,_,_,rfl⟩:=hx.isS
 obtain⟨_,_,_,rfl⟩:=hy.isS
 exact⟨rfl,rfl⟩
theorem zS (st:Option (List UInt8)):∃q s1,et kB st q s1∧(dD st→∀{w:World} {g:Nat},aZ g st w→Calls Tryz.prog 179 #[.pointer (some ⟨g,0,none⟩)] w (bF fun r w'=>w.grownBy w' (some g)∧oW w.heap.size q (if s1.isSome=true then 0 else 5) r w'∧aZ g s1 w')):=by
 cases hR:st.bind kB with
 |none=>
  refine⟨(false,[],[]),none,hR,fun hl w g hr=>(sw hr hl).mono fun r w' ⟨r',he,h1,h2⟩=>⟨r',he,h1,?_⟩⟩
  rw[hR] at h2
  obtain⟨v,h3,⟨x,y,rfl,hx,hy⟩,h4⟩:=h2
  have hn:∀{z:Value},bt [] z w'→cK (fun k=>k<w.heap.size) w' (js []) [z]:=fun {z} hz=>by
   obtain⟨A,n,c,rfl,h5,h6,h7,h8,h9⟩:=hz
   simp only[js,List.map_nil,cK]
   have:n=0:=by simp at h7;omega
   subst this
   exact⟨A,0,c,rfl,rfl,h5,h6,h9,fun h=>by omega⟩
  refine⟨⟨x,y,h3,?_⟩,h4⟩
  simp only[gi,cK]
  exact aO.cons (a:=[B false]) (by simp only[cK,B]) (aO.cons (hn hx) (aO.cons (b:=[]) (hn hy) aO.nil))
 |some p=>
  obtain⟨q,t⟩:=p
  refine⟨q,some t,hR,fun hl w g hr=>(sw hr hl).mono fun r w' ⟨r',he,h1,h2⟩=>⟨r',he,h1,?_⟩⟩
  rw[hR] at h2
  obtain⟨x,y,h3,hx,hy,h4,n1,n2⟩:=h2
  refine⟨⟨x,y,h3,?_⟩,h4⟩
  simp only[gi,cK]
  exact aO.cons (a:=[B q.1]) (by simp only[cK,B]) (aO.cons (n1.rpx' hx) (aO.cons (b:=[]) (n2.rpx' hy) aO.nil))
theorem aZ.stableZ {g:Nat} {st:Option (List UInt8)}:cH (aZ g st):=fun _ _ h hx=>h.ext hx
theorem gC {Z:iN} {p:Prop} (h:cH Z):cH (fun w=>Z w∧p):=fun _ _ hz hx=>⟨h _ _ hz.1 hx,hz.2⟩
theorem aZ.mv {g:Nat} {st:Option (List UInt8)} {X:Nat→Prop} {w w':World} (h:aZ g st w) (hm:Mv X w w') (hX:∀k,X k→g<k):aZ g st w':=dL.mv h.rdT hm hX
theorem et.none_of {α:Type} {f:List UInt8→Option (α×List UInt8)} {st s1:Option (List UInt8)} {a:α} (h:et f st a s1) (e:st=none):s1=none:=by
 subst e
 cases s1 with
 |none=>rfl
 |some t=>cases h
theorem ln {w:World} {n:UInt64} {s:Option (List UInt8)}:Calls Tryz.prog 110 #[bj n,I (if s.isSome=true then 0 else 5)] w (lh (fun r w'=>w=w'∧r=bj n∧s≠none) (fun c w'=>w=w'∧tE c∧s=none)):=by
 refine enter (vs:=[bj n,I (if s.isSome=true then 0 else 5)]) Tryz.func110 Jg Jg Jg ?_
 refine af (aa (ab Jg Jg (ag (ac (af (af ?_))))))
 rcases s with _|t
 ·refine aa (ae Jg Jg (ai Jg Jg Jg (cf (by simp) bS) (ag (ac (bB Jg (aa (bm (vs:=[]) (r:=.agg #[]) Jg Jg (run_build _ _ _ _ (by kernel_rfl)) ?_)))))))
  refine jK (r:=.iface 167 (.agg #[])) Jg Jg (vV Jc) ?_
  exact rh rfl fun a ha=>⟨ha.defers,.inr ⟨_,rfl,rfl,rfl,rfl⟩⟩
 ·refine aa (ae Jg Jg (ai Jg Jg Jg (bZ (by simp) bS) (ag (ac (cq Jg (aq (ac (af (aa (ae Jg Jg (ab Jg Jg (ag (ac (au ?_))))))))))))))
  refine aF Jg Jg ?_
  exact .inl ⟨_,rfl,rfl,rfl,by simp⟩
theorem zT {w:World} {n:Int} {s:Option (List UInt8)}:Calls Tryz.prog 176 #[I n,I (if s.isSome=true then 0 else 5)] w (lh (fun r w'=>w=w'∧r=I n∧s≠none) (fun c w'=>w=w'∧tE c∧s=none)):=by
 refine enter (vs:=[I n,I (if s.isSome=true then 0 else 5)]) Tryz.func176 Jg Jg Jg ?_
 refine af (aa (ab Jg Jg (ag (ac (af (af ?_))))))
 rcases s with _|t
 ·refine aa (ae Jg Jg (ai Jg Jg Jg (cf (by simp) bS) (ag (ac (bB Jg (aa (bm (vs:=[]) (r:=.agg #[]) Jg Jg (run_build _ _ _ _ (by kernel_rfl)) ?_)))))))
  refine jK (r:=.iface 167 (.agg #[])) Jg Jg (vV Jc) ?_
  exact rh rfl fun a ha=>⟨ha.defers,.inr ⟨_,rfl,rfl,rfl,rfl⟩⟩
 ·refine aa (ae Jg Jg (ai Jg Jg Jg (bZ (by simp) bS) (ag (ac (cq Jg (aq (ac (af (aa (ae Jg Jg (ab Jg Jg (ag (ac (au ?_))))))))))))))
  refine aF Jg Jg ?_
  exact .inl ⟨_,rfl,rfl,rfl,by simp⟩
theorem zU {w:World} {q:f5} {X:Nat→Prop} {x y:Value} {s:Option (List UInt8)} (hq:cK X w (gi q) [B q.1,x,y]):Calls Tryz.prog 178 #[.agg #[B q.1,x,y],I (if s.isSome=true then 0 else 5)] w (lh (fun r w'=>aM w w'∧r=.agg #[B q.1,x,y]∧s≠none) (fun c w'=>aM w w'∧tE c∧s=none)):=by
 refine enter (vs:=[.agg #[B q.1,x,y],I (if s.isSome=true then 0 else 5)]) Tryz.func178 Jg Jg Jg ?_
 have h1:=(gA hq).1
 have h2:=(gA hq).2
 obtain⟨x',y',he,hx,hy⟩:=lU hq.rp
 simp only[List.cons.injEq] at he
 obtain⟨_,rfl,rfl,_⟩:=he
 refine af (aa ?_)
 obtain⟨g2,w2,hr2,l2,x2,k2⟩:=dB (P:=Tryz.prog) (w:=w) (T:=55) (cs:=[B q.1,x,y])
 refine cY Jg Jg hr2 ?_
 obtain⟨g4,w4,hr4,l4,x4,k4⟩:=bf (P:=Tryz.prog) (w:=w2) (t:=55) (z:=.agg #[B false,.slice none 0 0,.slice none 0 0]) (l:=[B false,.slice none 0 0,.slice none 0 0]) (by kernel_rfl) rfl
 refine bh Jg hr4 (ag (ac (af (af ?_))))
 rcases s with _|t
 ·refine aa (ae Jg Jg (ai Jg Jg Jg (cf (by simp) bS) (ag (ac (bB Jg (aa (bm (vs:=[]) (r:=.agg #[]) Jg Jg (run_build _ _ _ _ (by kernel_rfl)) ?_)))))))
  refine jK (r:=.iface 167 (.agg #[])) Jg Jg (vV Jc) ?_
  exact rh rfl fun a ha=>⟨ha.defers,.inr ⟨_,rfl,(x2.trans x4),rfl,rfl⟩⟩
 ·refine aa (ae Jg Jg (ai Jg Jg Jg (bZ (by simp) bS) (ag (ac (cq Jg (aq (ac (af (aa (am Jg Jg ((k2.ext x4).ld Tryz.underlying55 Jg (by kernel_rfl)) ?_))))))))))
  obtain⟨w3_1,s3_1,q3_1,k3_1⟩:=k4.stS (P:=Tryz.prog) (t:=55) (m:=[B q.1,x,y]) rfl (by kernel_rfl) (aI.cons rfl (aI.cons hx.one (aI.cons hy.one aI.nil)))
  refine ar Jg Jg s3_1 ?_
  have x3_1:=aM.of_new (x4) q3_1 l4
  refine ag (ac (au ?_))
  refine ep Jg Jg k3_1 IQ Jg (by kernel_rfl) ?_
  exact .inl ⟨_,rfl,(x2.trans x3_1),rfl,by simp⟩
section
variable {w0 w:World} {g b:Nat} {s1:Option (List UInt8)} {n:Int} {q:f5} {E:Prop} {f:FuncId} {args:Array Value} {Pn:List PanicEntry→World→Prop}
theorem sV {v:Value} (h:Calls Tryz.prog f args w (bF fun r w'=>w.grownBy w' (some g)∧r=v∧aZ g s1 w')):Calls Tryz.prog f args w (fun e w'=>(∃r,e=.returned r∧Mv (RX g) w w'∧Is v r w'∧aZ g s1 w')∨∃c,e=.panicked c∧Pn c w'):=
 Calls.mono h fun _ _ ⟨r,he,h1,h2,h3⟩=>.inl ⟨r,he,Mv.of_grown h1 fun _ hk _=>(Option.some.inj hk).symm,h2,h3⟩
theorem nV (hw:Mv (RX g) w0 w) (hz:aZ g s1 w) (hp:s1=none→E):Calls Tryz.prog 176 #[I n,I (if s1.isSome=true then 0 else 5)] w (fun e w'=>(∃r,e=.returned r∧Mv (RX g) w w'∧Is (I n) r w'∧aZ g s1 w')∨∃c,e=.panicked c∧Mv (RX g) w0 w'∧tE c∧E):=by
 refine Calls.mono (zT (n:=n) (s:=s1)) fun _ _ he=>?_
 rcases he with⟨r,he,h1,h2,h3⟩|⟨c,he,h1,h2,h3⟩
 ·subst h1;exact .inl ⟨r,he,Mv.refl _ _,h2,hz⟩
 ·subst h1;exact .inr ⟨c,he,hw,h2,hp h3⟩
theorem zV {e:Int} (hb:b≤w.heap.size) (h:Calls Tryz.prog f args w (bF fun r w'=>w.grownBy w' (some g)∧oW w.heap.size q e r w'∧aZ g s1 w')):Calls Tryz.prog f args w (fun e' w'=>(∃r,e'=.returned r∧Mv (RX g) w w'∧oW b q e r w'∧aZ g s1 w')∨∃c,e'=.panicked c∧Pn c w'):=
 Calls.mono h fun _ _ ⟨r,he,h1,h2,h3⟩=>.inl ⟨r,he,Mv.of_grown h1 fun _ hk _=>(Option.some.inj hk).symm,h2.up hb,h3⟩
theorem zW {x y:Value} (hw:Mv (RX g) w0 w) (hz:aZ g s1 w) (h:cK (fun k=>k<b) w (gi q) [B q.1,x,y]) (hp:s1=none→E):Calls Tryz.prog 178 #[.agg #[B q.1,x,y],I (if s1.isSome=true then 0 else 5)] w (fun e w'=>(∃r,e=.returned r∧Mv (RX g) w w'∧qO b q r w'∧aZ g s1 w'∧s1≠none)∨∃c,e=.panicked c∧Mv (RX g) w0 w'∧tE c∧E):=by
 refine Calls.mono (zU (q:=q) (s:=s1) h) fun _ _ he=>?_
 rcases he with⟨r,he,h1,h2,h3⟩|⟨c,he,h1,h2,h3⟩
 ·exact .inl ⟨r,he,Mv.of_ext h1,⟨x,y,h2,h.ext h1⟩,hz.ext h1,h3⟩
 ·exact .inr ⟨c,he,hw.trans (Mv.of_ext h1) fun _ hn _=>hn,h2,hp h3⟩
end
theorem Bm {w:World} {g n most:Nat} {st s1:Option (List UInt8)} (hn:n<18446744073709551616) (hm:most<18446744073709551616) (hr:aZ g st w)
 (cU:∀{w:World} {g:Nat},aZ g st w→Calls Tryz.prog 111 #[.pointer (some ⟨g,0,none⟩)] w (bF fun r w'=>w.grownBy w' (some g)∧r=.tuple #[bj (UInt64.ofNat n),I (if s1.isSome=true then 0 else 5)]∧aZ g s1 w')):
 Calls Tryz.prog 146 #[.agg #[.pointer (some ⟨g,0,none⟩)],bj (UInt64.ofNat most)] w (lh (fun r w'=>Mv (RX g) w w'∧r=bj (UInt64.ofNat n)∧aZ g s1 w'∧s1≠none∧n≤most) (fun c w'=>Mv (RX g) w w'∧tE c∧(s1=none∨¬n≤most))):=by
 refine enter (vs:=[.agg #[.pointer (some ⟨g,0,none⟩)],bj (UInt64.ofNat most)]) Tryz.func146 Jg Jg Jg ?_
 refine af (aa ?_)
 obtain⟨g2,w2,hr2,l2,x2,k2⟩:=dB (P:=Tryz.prog) (w:=w) (T:=172) (cs:=[.pointer (some ⟨g,0,none⟩)])
 refine cY Jg Jg hr2 ?_
 have hr2:=hr.ext x2
 have e2:=x2
 refine ab Jg Jg (ag (ac (af (aa (ah Jg Jg (aE (o:=0) IY Jg (by kernel_rfl) Jg) (am Jg Jg (ak I1 Jg (k2.cell (i:=0) Jg)) ?_))))))
 refine an gw Jg Jg ((cU hr2)) ?_
 rintro v8 w8 ⟨g8,rfl,hr8⟩
 have m8:=hr2.rdT.kp g8
 have mv8:Mv (RX g) w w8:=(Mv.of_ext e2).trans (Mv.of_grown g8 fun k hk _=>(Option.some.inj hk).symm) fun _ hj _=>hj
 refine aj rfl rfl (aS) (aj rfl rfl (aT) (i6 lm rfl rfl ((ln (n:=UInt64.ofNat n) (s:=s1))) (fun c a w1 ha hp=>⟨ha.defers,.inr ⟨c,rfl,by obtain⟨rfl,h2,h3⟩:=hp;exact⟨mv8,h2,.inl h3⟩⟩⟩) ?_))
 rintro v11 _ ⟨rfl,rfl,hs1⟩
 refine ab Jg Jg (ag (ac (af (af ?_))))
 by_cases hnm:n≤most
 ·refine aa (ae Jg Jg (ae Jg Jg (ai Jg Jg Jg (bZ (fun h=>by have:=(Dv hm hn).1 h;omega) ck) (ag (ac (cq Jg (aq (ac (af ?_)))))))))
  refine aa (ae Jg Jg (ab Jg Jg (ag (ac (au (aF Jg Jg ?_))))))
  exact .inl ⟨_,rfl,mv8,rfl,hr8,hs1,hnm⟩
 ·refine aa (ae Jg Jg (ae Jg Jg (ai Jg Jg Jg (cf ((Dv hm hn).2 (by omega)) ck) (ag (ac (bB Jg (aa (bm (vs:=[]) (r:=.agg #[]) Jg Jg (run_build _ _ _ _ (by kernel_rfl)) ?_))))))))
  refine jK (r:=.iface 167 (.agg #[])) Jg Jg (vV Jc) ?_
  exact rh rfl fun a ha=>⟨ha.defers,.inr ⟨_,rfl,mv8,rfl,.inr hnm⟩⟩
theorem EG (st:Option (List UInt8)) {most:Nat} (hm:most<18446744073709551616):∃(n:Nat) (s1:Option (List UInt8)),et (pL most) st n s1∧n<18446744073709551616∧∀{w:World} {g:Nat},aZ g st w→
 Calls Tryz.prog 146 #[.agg #[.pointer (some ⟨g,0,none⟩)],bj (UInt64.ofNat most)] w (lh (fun r w'=>Mv (RX g) w w'∧r=bj (UInt64.ofNat n)∧aZ g s1 w'∧s1≠none∧n≤most) (fun c w'=>Mv (RX g) w w'∧tE c∧s1=none)):=by
 obtain⟨n,s1,h1,h2,h3⟩:=vW st
 by_cases hn:n≤most
 ·exact⟨n,s1,zL h1 hn,h2,fun hr=>lh.mono (Bm h2 hm hr h3) (fun _ _ h=>h) fun _ _ ⟨a,b,c⟩=>⟨a,b,c.resolve_right fun h=>h hn⟩⟩
 ·exact⟨n,none,EA h1 hn,h2,fun hr=>lh.mono (Bm h2 hm hr h3) (fun _ _ h=>absurd h.2.2.2.2 hn) fun _ _ ⟨a,b,_⟩=>⟨a,b,rfl⟩⟩
theorem CP {w:World} {g:Nat} {st:Option (List UInt8)} (hr:aZ g st w) (hl:dD st):
 Calls Tryz.prog 149 #[.agg #[.pointer (some ⟨g,0,none⟩)]] w (lh (fun r w'=>Mv (RX g) w w'∧∃(d:f9) (x y:Value) (s1:Option (List UInt8)),r=.agg #[I d.kd,I d.ix,B d.at_.1,x,y]∧cK (fun k=>k<w.heap.size) w' (pJ d) [I d.kd,I d.ix,B d.at_.1,x,y]∧x.oneCell'=true∧y.oneCell'=true∧aZ g s1 w'∧et zb st d s1∧s1≠none) (fun c w'=>Mv (RX g) w w'∧tE c∧st.bind zb=none)):=by
 refine enter (vs:=[.agg #[.pointer (some ⟨g,0,none⟩)]]) Tryz.func149 Jg Jg Jg ?_
 have hlt:g<w.heap.size:=aZ.lt hr
 obtain⟨n1,s1,q1,i1,c1⟩:=nU st
 obtain⟨n2,s2,q2,i2,c2⟩:=nU s1
 obtain⟨q,s3,q3,cR⟩:=zS s2
 have few2:dD s2:=q2.atM eJ.le (q1.atM eJ.le hl)
 have hp1:s1=none→s3=none:=fun e=>q3.none_of (q2.none_of e)
 have hp2:s2=none→s3=none:=fun e=>q3.none_of e
 have qA:=uw q1 q2 q3
 refine af (aa ?_)
 obtain⟨g1,w1,hr1,l1,x1,k1⟩:=dB (P:=Tryz.prog) (w:=w) (T:=172) (cs:=[.pointer (some ⟨g,0,none⟩)])
 refine cY Jg Jg hr1 ?_
 obtain⟨g2,w2,hr2,l2,x2,k2⟩:=bf (P:=Tryz.prog) (w:=w1) (t:=80) (z:=.agg #[I 0,I 0,B false,.slice none 0 0,.slice none 0 0]) (l:=[I 0,I 0,B false,.slice none 0 0,.slice none 0 0]) (by kernel_rfl) rfl
 refine bh Jg hr2 ?_
 have hr2:=hr.ext (x1.trans x2)
 have e2:=(x1.trans x2)
 have k12:=k1.ext x2
 have nX1:¬RX g g1:=fun h=>by have:g1=g:=h;omega
 have nX2:¬RX g g2:=fun h=>by have:g2=g:=h;have:=x1.size;omega
 have hgs:w2.heap.size≤w2.heap.size:=Nat.le_refl _
 have hgb:g<w2.heap.size:=by have:=e2.size;omega
 have sz1:=x1.size
 have lt2:=k2.lt
 refine ag (ac (af (jH 19 [2,21] (Mv (RX g) w2) (Mv (RX g)) true (fun c w'=>Mv (RX g) w2 w'∧tE c∧s3=none) (aZ g st) (fE.mv _ _) (Mv.refl _ _) aZ.stableZ hr2 (fun c a w1 hd hp=>⟨hd,.inr ⟨c,rfl,(Mv.of_ext e2).trans hp.1 fun _ hj _=>hj,hp.2.1,by have:=qA;rw[hp.2.2] at this;exact this⟩⟩) (fun _=>by kernel_rfl) (by kernel_rfl) (by kernel_rfl) ?_)))
 refine aL Jg Jg (fun w hw=>aE (o:=0) IY Jg (by kernel_rfl) Jg) (aD Jg Jg (fun w hw=>ak I1 Jg ((hw.blk k12 nX1).k0)) ?_)
 refine dw (S:=Is (.tuple #[I n1,I (if s1.isSome=true then 0 else 5)])) (Z':=aZ g s1) ik rfl (bu.is _) (aZ.stableZ) rfl (fun w hw hz=>by rintro _ rfl;exact sV (c1 hz)) ?_
 refine dP rfl rfl (fun w _=>aS) (dP rfl rfl (fun w _=>aT) (dw (S:=Is (I n1)) (Z':=aZ g s1) gj rfl (bu.is _) (aZ.stableZ) rfl (fun w hw hz=>by rintro _ rfl _ rfl;exact nV hw hz hp1) ?_))
 refine aL Jg Jg (fun w hw=>aE (o:=0) IY Jg (by kernel_rfl) Jg) (aD Jg Jg (fun w hw=>ak I1 Jg ((hw.blk k12 nX1).k0)) ?_)
 refine dw (S:=Is (.tuple #[I n2,I (if s2.isSome=true then 0 else 5)])) (Z':=aZ g s2) ik rfl (bu.is _) (aZ.stableZ) rfl (fun w hw hz=>by rintro _ rfl;exact sV (c2 hz)) ?_
 refine dP rfl rfl (fun w _=>aS) (dP rfl rfl (fun w _=>aT) (dw (S:=Is (I n2)) (Z':=aZ g s2) gj rfl (bu.is _) (aZ.stableZ) rfl (fun w hw hz=>by rintro _ rfl _ rfl;exact nV hw hz hp2) ?_))
 refine aL Jg Jg (fun w hw=>aE (o:=0) IY Jg (by kernel_rfl) Jg) (aD Jg Jg (fun w hw=>ak I1 Jg ((hw.blk k12 nX1).k0)) ?_)
 refine dw (S:=oW w2.heap.size q (if s3.isSome=true then 0 else 5)) (Z':=aZ g s3) pA rfl (oW.stable hgb) (aZ.stableZ) rfl (fun w hw hz=>by rintro _ rfl;exact zV (Nat.le_trans hgs hw.size) (cR few2 hz)) ?_
 refine ia rfl (qO.stable hgb) rfl (fun w v hw hv=>by obtain⟨x,y,rfl,h⟩:=hv;exact⟨_,aS,x,y,rfl,h⟩) (ia rfl (bu.is (I (if s3.isSome=true then 0 else 5))) rfl (fun w v hw hv=>by obtain⟨x,y,rfl,h⟩:=hv;exact⟨_,aT,rfl⟩) ?_)
 refine dw (S:=qO w2.heap.size q) (Z':=(fun w=>aZ g s3 w∧s3≠none)) nS rfl (qO.stable hgb) (gC aZ.stableZ) rfl (fun w hw hz=>by rintro _ ⟨x,y,rfl,h⟩ _ rfl;exact zW hw hz h id) ?_
 refine qV (S:=fun v w'=>∃x y,v=.agg #[I n1,I n2,B q.1,x,y]∧cK (fun k=>k<w2.heap.size) w' (gi q) [B q.1,x,y]) (fun _ _ _ ⟨x,y,h,h2⟩ hm=>⟨x,y,h,h2.mv (hm.weak fun j hj _=>by have:j=g:=hj;show j<w2.heap.size;omega) fun _ hk=>.inl hk⟩) Jg (fun w' hw=>by
 rintro _ rfl _ rfl _ ⟨x,y,rfl,h⟩
 exact⟨_,w',run_build _ _ _ _ (by kernel_rfl),aM.refl _,x,y,rfl,h⟩) ?_
 refine bG ?_
 intro wg1 xg1 zg1
 rintro _ rfl
 intro vg21 b20
 obtain⟨x,y,rfl,hq⟩:=b20
 obtain⟨hrG,hs3⟩:=zg1
 have hx1:=(gA hq).1
 have hy1:=(gA hq).2
 have kG:=xg1.blk k2 nX2
 obtain⟨wd,sd,qd,kd⟩:=kG.stS (P:=Tryz.prog) (t:=80) (m:=[I n1,I n2,B q.1,x,y]) rfl (by kernel_rfl) (aI.cons rfl (aI.cons rfl (aI.cons rfl (aI.cons hx1 (aI.cons hy1 aI.nil)))))
 have md:Mv (fun k=>k=g2) wg1 wd:=Mv.of_grown qd fun k hk _=>(Option.some.inj hk).symm
 refine ar Jg Jg sd ?_
 refine ag (ac (au ?_))
 refine ep Jg Jg kd IV Jg (by kernel_rfl) ?_
 exact .inl ⟨_,rfl,((Mv.of_ext e2).trans xg1 fun _ hj _=>hj).trans md fun j hj hlt=>by omega,⟨n1,n2,q⟩,x,y,s3,rfl,sU (d:=⟨n1,n2,q⟩) (hq.mv (md.weak fun j hj _=>by show j<w2.heap.size;omega) fun j hj=>.inl (by have:=e2.size;show j<w2.heap.size;omega)),hx1,hy1,hrG.mv md fun j hj=>by omega,qA,hs3⟩
end Go.Rl
namespace Go.Rl
open Go.RowKit Go.Proofs
theorem Sl.mv {X:Nat→Prop} {w w':World} {sz:Nat} {xs:List Value} {v:Value} (h:Sl sz xs v w) (hm:Mv X w w') (hx:∀k,v.ownBlock=some k→¬X k):Sl sz xs v w':=by
 obtain⟨A,n,c,rfl,h2,h3,h4,h5,h6⟩:=h
 exact⟨A,n,c,rfl,h2,h3,h4,fun hn=>(h5 hn).imp fun ad h=>⟨h.1,hm.cells h.2 fun _=>hx ad.block (by rw[h.1];rfl)⟩,h6⟩
def jL {α:Type} (b sz:Nat) (f:α→Dt) (l:List α):dx:=fun v w=>∃cs,Sl sz cs v w∧(∀k,v.ownBlock=some k→b≤k)∧aI cs∧aO (fun k=>k<b) w (l.map f) cs
theorem jL.stable {α:Type} {b sz g:Nat} {f:α→Dt} {l:List α} (hg:g<b):bR (Mv (RX g)) (jL b sz f l):=fun _ _ _ ⟨cs,h1,h2,h3,h4⟩ hm=>
 ⟨cs,h1.mv hm fun k hk hX=>by have:k=g:=hX;have:=h2 k hk;omega,h2,h3,aO.mv (hm.weak fun j hj _=>by have:j=g:=hj;show j<b;omega) (fun _ hk=>.inl hk) h4⟩
theorem aO.one {X:Nat→Prop} {w:World} {d:Dt} {cs:List Value} (h:aO X w [d] cs):cK X w d cs:=by
 simp only[aO] at h
 obtain⟨c1,c2,rfl,h1,rfl⟩:=h
 simpa using h1
theorem EH {α:Type} {P:Program} {w:World} {t e:TypeId} {z:Value} {sz bytes b:Nat} {f:α→Dt} {a:α} {cs:List Value} (ht:P.underlying t=some (.slice e)) (hi:(P.info? e).map (fun i=>(i.zero,i.size,i.bytes))=some (some z,sz,bytes)) (hzs:z.cells.size=sz) (h0:0<sz) (hsb:sz≤16777216)
 (hb:b≤w.heap.size) (h1:aI cs) (ha:cK (fun k=>k<b) w (f a) cs) (hs:(f a).size=sz):∃r w',(Instr.buildSlice t 1 (dS 0 [Value.agg cs.toArray]).toArray).run P w=.ok r w'∧aM w w'∧jL b sz f [a] r w':=by
 have hcl:cs.length=sz:=by rw[ha.len,hs]
 have hi2:(P.info? e).map (fun i=>(i.zero,i.size))=some (some z,sz):=by
  obtain⟨i,hi',h2⟩:=Option.map_eq_some_iff.1 hi
  simp only[Prod.mk.injEq] at h2
  rw[hi']
  simp[h2.1,h2.2.1]
 obtain⟨x,w0,h3,h4,h5,h6⟩:=EC (w:=w) ht hi2 hzs h0 [cs] (by simp[hcl]) (by simp) (by simpa using hsb)
 refine⟨x,w0,by simpa using h3,h4,cs,by simpa using h5,fun k hk=>?_,h1,?_⟩
 ·rw[h6] at hk
  obtain rfl:=Option.some.inj hk
  exact hb
 ·simpa using aO.cons (b:=[]) (ha.ext h4) aO.nil
def zX (b:Nat) (T:TypeId) (l:List Value):dx:=fun v w=>∃g5,v=.pointer (some ⟨g5,0,none⟩)∧b≤g5∧cd g5 T l w
theorem zX.stable {b g:Nat} {T:TypeId} {l:List Value} (hg:g<b):bR (Mv (RX g)) (zX b T l):=fun _ _ _ ⟨g5,h1,h2,h3⟩ hm=>⟨g5,h1,h2,hm.blk h3 fun h=>by have:g5=g:=h;omega⟩
theorem EI {P:Program} {w:World} {t:TypeId} {z:Value} {l:List Value} {b:Nat} (h:(P.info? t).map (·.zero)=some (some z)) (hv:z.cells=l.toArray) (hb:b≤w.heap.size):∃r w',(Instr.alloc t true (.tuple #[])).run P w=.ok r w'∧aM w w'∧zX b t l r w':=by
 obtain⟨g,w',h1,h2,h3,h4⟩:=bf (w:=w) h hv
 exact⟨_,w',h1,h3,g,rfl,Nat.le_trans hb h2,h4⟩
theorem jM {s:Option (List UInt8)} (h:s≠none):∃l,s=some l:=by
 cases s with
 |none=>exact absurd rfl h
 |some l=>exact⟨l,rfl⟩
theorem qw {w:World} {g:Nat} {st:Option (List UInt8)} (hr:aZ g st w) (hl:dD st):
 Calls Tryz.prog 148 #[.agg #[.pointer (some ⟨g,0,none⟩)]] w (lh (fun r w'=>Mv (RX g) w w'∧∃(ps:List eE) (s1:Option (List UInt8)),cK (fun k=>k<w.heap.size) w' (lV ps) [r]∧r.oneCell'=true∧aZ g s1 w'∧et ut st ps s1∧s1≠none) (fun c w'=>Mv (RX g) w w'∧tE c∧st.bind ut=none)):=by
 refine enter (vs:=[.agg #[.pointer (some ⟨g,0,none⟩)]]) Tryz.func148 Jg Jg Jg ?_
 have hlt:g<w.heap.size:=aZ.lt hr
 obtain⟨N,s0,qU,hN,cU⟩:=vW st
 refine af (aa ?_)
 obtain⟨g1,w1,hr1,l1,x1,k1⟩:=dB (P:=Tryz.prog) (w:=w) (T:=172) (cs:=[.pointer (some ⟨g,0,none⟩)])
 refine cY Jg Jg hr1 ?_
 have hr1:=hr.ext x1
 have e1:=x1
 have nX1:¬RX g g1:=fun h=>by have:g1=g:=h;omega
 have lt1:=k1.lt
 refine ab Jg Jg (ag (ac (af (aa (ab Jg Jg (ag (ac (af (af (aa (ah Jg Jg (aE (o:=0) IY Jg (by kernel_rfl) Jg) ?_)))))))))))
 refine am Jg Jg (ak I1 Jg (k1.cell (i:=0) Jg)) (an gw Jg Jg ((cU hr1)) ?_)
 rintro v8 w8 ⟨g8,rfl,hr8⟩
 have m8:=hr1.rdT.kp g8
 have mv8:Mv (RX g) w1 w8:=Mv.of_grown g8 fun k hk _=>(Option.some.inj hk).symm
 have k18:=mv8.blk k1 nX1
 have hl0:dD s0:=qU.atM jz.le hl
 refine aj rfl rfl (aS) (aj rfl rfl (aT) (i6 lm rfl rfl ((ln (n:=UInt64.ofNat N) (s:=s0))) (fun c a w1 ha hp=>⟨ha.defers,.inr ⟨c,rfl,by obtain⟨rfl,h2,h3⟩:=hp;exact⟨(Mv.of_ext e1).trans mv8 fun _ hj _=>hj,h2,jh (done:=([]:List eE)) (f:=vP) qU (by rw[h3];rfl)⟩⟩⟩) ?_))
 rintro v11 _ ⟨rfl,rfl,hs0⟩
 obtain⟨l0,rfl⟩:=jM hs0
 refine ab Jg Jg (ag (ac (ax ?_)))
 refine gM (fun(k:Nat) (v:Value) (l:List UInt8) (ps:List eE)=>[(1,.pointer (some ⟨g1,0,none⟩)),(3,v),(4,bj (UInt64.ofNat k))]) (fun(k:Nat) (v:Value) (l:List UInt8) (ps:List eE) w'=>Mv (RX g) w1 w'∧aZ g (some l) w'∧fw 216 7 w1.heap.size dI ps v w'∧k<18446744073709551616∧(some l0).bind (cG vP N)=(some l).bind (fun l=>(cG vP k l).map fun p=>(ps++p.1,p.2))∧l.length+ps.length≤549755813888) (fun(k:Nat) (v:Value) (l:List UInt8) (ps:List eE)=>k) (N) (.slice none 0 0) (l0) ([]) ⟨rfl,rfl,rfl,trivial⟩ ⟨mv8,hr8,fw.nil _,hN,im,by have:=hl0 l0 rfl;simpa using this⟩ ?_
 rintro k v l ps wL ⟨mL,hrL,oL,hk,hR,hql⟩
 refine af (af ?_)
 have hkn:(UInt64.ofNat k).toNat=k:=by rw[UInt64.toNat_ofNat'];omega
 have kL:=mL.blk k1 nX1
 have szL:=mL.size
 have hvo:v.oneCell'=true:=by obtain⟨_,_,_,rfl⟩:=oL.isS;rfl
 rcases Nat.eq_zero_or_pos k with h0|h0
 rotate_left
 ·refine aa (ae Jg Jg (ai (v:=bj 0) Jg Jg Jg (cf (UInt64.lt_iff_toNat_lt.2 (by rw[hkn];exact h0)) ck) (ag (ac (bB Jg (aq (ac ?_)))))))
  refine af (ax (af ?_))
  obtain⟨k',rfl⟩:∃k',k=k'+1:=⟨k-1,by omega⟩
  obtain⟨n1,sA,q1,i1,c1⟩:=nU (some l)
  obtain⟨n2,sB,q2,i2,c2⟩:=nU sA
  obtain⟨n3,sC,q3,i3,c3⟩:=nU sB
  obtain⟨n4,sD,q4,i4,c4⟩:=nU sC
  obtain⟨q,sE,q5,cR⟩:=zS sD
  have hll:dD (some l):=fun l' e=>by cases e;omega
  have fewD:dD sD:=q4.atM eJ.le (q3.atM eJ.le (q2.atM eJ.le (q1.atM eJ.le hll)))
  have qM:=nP q1 q2 q3 q4 q5
  have hpE:sE=none→st.bind ut=none:=fun e=>ji qU hR (by have h:=qM;rw[e] at h;exact h)
  have hpD:sD=none→st.bind ut=none:=fun e=>hpE (q5.none_of e)
  have hpC:sC=none→st.bind ut=none:=fun e=>hpD (q4.none_of e)
  have hpB:sB=none→st.bind ut=none:=fun e=>hpC (q3.none_of e)
  have hpA:sA=none→st.bind ut=none:=fun e=>hpB (q2.none_of e)
  have hgL:g<wL.heap.size:=by omega
  have mWL:Mv (RX g) w wL:=(Mv.of_ext e1).trans mL fun _ hj _=>hj
  refine jH 26 [1,3,4,5,40] (Mv (RX g) wL) (Mv (RX g)) true (fun c w'=>Mv (RX g) wL w'∧tE c∧st.bind ut=none) (aZ g (some l)) (fE.mv _ _) (Mv.refl _ _) aZ.stableZ hrL (fun c a w1 hd hp=>⟨hd,.inr ⟨c,rfl,mWL.trans hp.1 fun _ hj _=>hj,hp.2⟩⟩) (fun _=>by kernel_rfl) (by kernel_rfl) (by kernel_rfl) ?_
  refine aL Jg Jg (fun w hw=>aE (o:=0) IY Jg (by kernel_rfl) Jg) (aD Jg Jg (fun w hw=>ak I1 Jg ((hw.blk kL nX1).k0)) ?_)
  refine dw (S:=Is (.tuple #[I n1,I (if sA.isSome=true then 0 else 5)])) (Z':=aZ g sA) ik rfl (bu.is _) (aZ.stableZ) rfl (fun w hw hz=>by rintro _ rfl;exact sV (c1 hz)) ?_
  refine dP rfl rfl (fun w _=>aS) (dP rfl rfl (fun w _=>aT) (dw (S:=Is (I n1)) (Z':=aZ g sA) gj rfl (bu.is _) (aZ.stableZ) rfl (fun w hw hz=>by rintro _ rfl _ rfl;exact nV hw hz hpA) ?_))
  refine aL Jg Jg (fun w hw=>aE (o:=0) IY Jg (by kernel_rfl) Jg) (aD Jg Jg (fun w hw=>ak I1 Jg ((hw.blk kL nX1).k0)) ?_)
  refine dw (S:=Is (.tuple #[I n2,I (if sB.isSome=true then 0 else 5)])) (Z':=aZ g sB) ik rfl (bu.is _) (aZ.stableZ) rfl (fun w hw hz=>by rintro _ rfl;exact sV (c2 hz)) ?_
  refine dP rfl rfl (fun w _=>aS) (dP rfl rfl (fun w _=>aT) (dw (S:=Is (I n2)) (Z':=aZ g sB) gj rfl (bu.is _) (aZ.stableZ) rfl (fun w hw hz=>by rintro _ rfl _ rfl;exact nV hw hz hpB) ?_))
  refine aL Jg Jg (fun w hw=>aE (o:=0) IY Jg (by kernel_rfl) Jg) (aD Jg Jg (fun w hw=>ak I1 Jg ((hw.blk kL nX1).k0)) ?_)
  refine dw (S:=Is (.tuple #[I n3,I (if sC.isSome=true then 0 else 5)])) (Z':=aZ g sC) ik rfl (bu.is _) (aZ.stableZ) rfl (fun w hw hz=>by rintro _ rfl;exact sV (c3 hz)) ?_
  refine dP rfl rfl (fun w _=>aS) (dP rfl rfl (fun w _=>aT) (dw (S:=Is (I n3)) (Z':=aZ g sC) gj rfl (bu.is _) (aZ.stableZ) rfl (fun w hw hz=>by rintro _ rfl _ rfl;exact nV hw hz hpC) ?_))
  refine aL Jg Jg (fun w hw=>aE (o:=0) IY Jg (by kernel_rfl) Jg) (aD Jg Jg (fun w hw=>ak I1 Jg ((hw.blk kL nX1).k0)) ?_)
  refine dw (S:=Is (.tuple #[I n4,I (if sD.isSome=true then 0 else 5)])) (Z':=aZ g sD) ik rfl (bu.is _) (aZ.stableZ) rfl (fun w hw hz=>by rintro _ rfl;exact sV (c4 hz)) ?_
  refine dP rfl rfl (fun w _=>aS) (dP rfl rfl (fun w _=>aT) (dw (S:=Is (I n4)) (Z':=aZ g sD) gj rfl (bu.is _) (aZ.stableZ) rfl (fun w hw hz=>by rintro _ rfl _ rfl;exact nV hw hz hpD) ?_))
  refine qV (S:=Is (.agg #[I n1,I n2,I n3,I n4])) (bu.is _) rfl (fun w' hw=>by rintro _ rfl _ rfl _ rfl _ rfl;exact⟨_,w',run_build _ _ _ _ (by kernel_rfl),aM.refl _,rfl⟩) ?_
  refine u9 (S:=zX wL.heap.size 214 [I 0,I 0,I 0,I 0]) (zX.stable hgL) Jg (fun w' hw=>EI (z:=.agg #[I 0,I 0,I 0,I 0]) (by kernel_rfl) Jg hw.size) ?_
  refine bG ?_
  intro wg5 xg5 zg5
  rintro _ rfl
  rintro _ hq3
  obtain rfl:=Eq.symm hq3
  rintro _ rfl
  intro vg5 b5
  rintro _ rfl
  obtain⟨g5,rfl,hg5,kG5⟩:=b5
  obtain⟨wd,sd,qd,kd⟩:=kG5.stS (P:=Tryz.prog) (t:=214) (m:=[I n1,I n2,I n3,I n4]) rfl (by kernel_rfl) (aI.cons rfl (aI.cons rfl (aI.cons rfl (aI.cons rfl aI.nil))))
  have md:Mv (fun k=>k=g5) wg5 wd:=Mv.of_grown qd fun k hk _=>(Option.some.inj hk).symm
  have hrd:aZ g sD wd:=zg5.mv md fun j hj=>by omega
  have mLd:Mv (RX g) wL wd:=xg5.trans md fun j hj hlt=>by omega
  have kLd:=mLd.blk kL nX1
  have nX5:¬RX g g5:=fun h=>by have:g5=g:=h;omega
  have hgb:g<wd.heap.size:=by have:=mLd.size;omega
  have hgs:wd.heap.size≤wd.heap.size:=Nat.le_refl _
  have mWd:Mv (RX g) w wd:=mWL.trans mLd fun _ hj _=>hj
  refine ar Jg Jg sd ?_
  refine ag (ac (jH 10 [1,4,41,50] (Mv (RX g) wd) (Mv (RX g)) true (fun c w'=>Mv (RX g) wd w'∧tE c∧st.bind ut=none) (aZ g sD) (fE.mv _ _) (Mv.refl _ _) aZ.stableZ hrd (fun c a w1 hd hp=>⟨hd,.inr ⟨c,rfl,mWd.trans hp.1 fun _ hj _=>hj,hp.2⟩⟩) (fun _=>by kernel_rfl) (by kernel_rfl) (by kernel_rfl) ?_))
  refine ap Jg Jg (aD Jg Jg (fun w hw=>(hw.blk kd nX5).ld I8 Jg (by kernel_rfl)) (aL Jg Jg (fun w hw=>aE (o:=0) IY Jg (by kernel_rfl) Jg) ?_))
  refine aD rfl rfl (fun w hw=>ak I1 rfl ((hw.blk kLd nX1).k0)) (dw (S:=oW wd.heap.size q (if sE.isSome=true then 0 else 5)) (Z':=aZ g sE) pA rfl (oW.stable hgb) (aZ.stableZ) rfl (fun w hw hz=>by rintro _ rfl;exact zV (Nat.le_trans hgs hw.size) (cR fewD hz)) ?_)
  refine ia rfl (qO.stable hgb) rfl (fun w v hw hv=>by obtain⟨x,y,rfl,h⟩:=hv;exact⟨_,aS,x,y,rfl,h⟩) (ia rfl (bu.is (I (if sE.isSome=true then 0 else 5))) rfl (fun w v hw hv=>by obtain⟨x,y,rfl,h⟩:=hv;exact⟨_,aT,rfl⟩) ?_)
  refine dw (S:=qO wd.heap.size q) (Z':=(fun w=>aZ g sE w∧sE≠none)) nS rfl (qO.stable hgb) (gC aZ.stableZ) rfl (fun w hw hz=>by rintro _ ⟨x,y,rfl,h⟩ _ rfl;exact zW hw hz h hpE) ?_
  refine qV (S:=fun v w'=>∃x y,v=.agg #[I n1,I n2,I n3,I n4,B q.1,x,y]∧cK (fun k=>k<wd.heap.size) w' (gi q) [B q.1,x,y]) (fun _ _ _ ⟨x,y,h,h2⟩ hm=>⟨x,y,h,h2.mv (hm.weak fun j hj _=>by have:j=g:=hj;show j<wd.heap.size;omega) fun _ hk=>.inl hk⟩) Jg (fun w' hw=>by
 rintro _ rfl _ ⟨x,y,rfl,h⟩
 exact⟨_,w',run_build _ _ _ _ (by kernel_rfl),aM.refl _,x,y,rfl,h⟩) ?_
  refine fL (S:=jL wd.heap.size 7 dI [⟨n1,n2,n3,n4,q⟩]) (jL.stable hgb) Jg (fun w' hw=>by
 rintro _ ⟨x,y,rfl,h⟩
 exact EH (cs:=[I n1,I n2,I n3,I n4,B q.1,x,y]) IW pQ rfl (by omega) (by omega) hw.size (aI.cons rfl (aI.cons rfl (aI.cons rfl (aI.cons rfl (aI.cons rfl (aI.cons (gA h).1 (aI.cons (gA h).2 aI.nil))))))) (uA (m:=⟨n1,n2,n3,n4,q⟩) h) (eK _)) ?_
  refine bG ?_
  intro wg6 xg6 zg6
  rintro _ rfl
  rintro _ rfl
  rintro _ hq41
  obtain rfl:=Eq.symm hq41
  intro vg50 b50
  obtain⟨hrG,hsE⟩:=zg6
  obtain⟨lE,rfl⟩:=jM hsE
  obtain⟨cs,hcs,hown,h1cs,hall⟩:=b50
  have mAll:Mv (RX g) wL wg6:=mLd.trans xg6 fun _ hj _=>hj
  have hX1:∀j,RX g j→j<w1.heap.size:=fun j hj=>by have:j=g:=hj;have:=e1.size;omega
  have oG:=oL.mv mAll hX1
  have own:∀j,v.ownBlock=some j→w1.heap.size≤j∧j<wL.heap.size:=oL.lt
  have hM:=(aO.one hall).weak (Y:=fun k=>k<w1.heap.size∨v.ownBlock=some k) fun j hj=>.inl (by
   have:=mLd.size
   rcases hj with hj|hj
   ·show j<wd.heap.size;omega
   ·have:=(own j hj).2;show j<wd.heap.size;omega)
  obtain⟨v51,w51,hr51,o51,g51⟩:=oG.app (t:=81) (ty:=81) IW pQ rfl (by omega) (by omega) hcs h1cs hM eK (by omega) (Nat.le_trans szL mAll.size)
  have m51:Mv (fun k=>v.ownBlock=some k) wg6 w51:=Mv.of_grown g51.grown fun k hk _=>hk
  have h51:aZ g (some lE) w51:=hrG.mv m51 fun j hj=>by have:=own j hj;have:=e1.size;omega
  have hlE:=vQ l _ lE qM
  refine be Jg Jg hr51 ?_
  refine ab Jg Jg (ag (aJ (ac (aa (ae Jg Jg ?_)))))
  have ek:UInt64.ofNat (k'+1)-1=UInt64.ofNat k':=by
   refine UInt64.toNat_inj.1 ?_
   rw[UInt64.toNat_sub_of_le _ _ (UInt64.le_iff_toNat_le.2 (by rw[hkn];show 1≤_;omega)),hkn,UInt64.toNat_ofNat',show(1:UInt64).toNat=1 from rfl]
   omega
  refine ai (v:=bj 1) (r:=bj (UInt64.ofNat k')) Jg Jg Jg ((by rw[←ek];exact dq)) (ab Jg Jg (ag ?_))
  refine fa (k') (v51) (lE) (ps++[⟨n1,n2,n3,n4,q⟩]) ⟨rfl,rfl,rfl,trivial⟩ ⟨(mL.trans mAll fun _ hj _=>hj).trans m51 fun j hj hlt=>by have:=(own j hj).1;omega,h51,o51,by omega,jg hR qM,by simp;omega⟩ (by omega)
 ·refine aa (ae Jg Jg (ai (v:=bj 0) Jg Jg Jg (bZ (fun hh=>by have:=UInt64.lt_iff_toNat_lt.1 hh;rw[hkn,h0] at this;exact absurd this (by decide)) ck) ?_))
  refine ag (ac (cq Jg (aW (aA (aA (aU (ac (af (aa (ae Jg Jg (ab Jg Jg (ag (ac (au (aF Jg Jg ?_)))))))))))))))
  exact .inl ⟨_,rfl,(Mv.of_ext e1).trans mL fun _ hj _=>hj,ps,some l,(oL.rpx eK (by omega)).weak fun j hj=>.inl (by have:=e1.size;show j<w1.heap.size;omega),hvo,hrL,ip qU (by subst h0;exact hR),by simp⟩
end Go.Rl
namespace Go.Rl
open Go.RowKit Go.Proofs
section
variable {w0 w:World} {g:Nat} {s1:Option (List UInt8)} {E:Prop} {f:FuncId} {args:Array Value}
theorem chM {v:Value} {G:Prop} (hw:Mv (RX g) w0 w) (h:Calls Tryz.prog f args w (lh (fun r w'=>Mv (RX g) w w'∧r=v∧aZ g s1 w'∧s1≠none∧G) (fun c w'=>Mv (RX g) w w'∧tE c∧s1=none))) (hp:s1=none→E):Calls Tryz.prog f args w (fun e w'=>(∃r,e=.returned r∧Mv (RX g) w w'∧Is v r w'∧aZ g s1 w')∨∃c,e=.panicked c∧Mv (RX g) w0 w'∧tE c∧E):=by
 refine Calls.mono h fun _ _ he=>?_
 rcases he with⟨r,he,h1,h2,h3,_⟩|⟨c,he,h1,h2,h3⟩
 ·exact .inl ⟨r,he,h1,h2,h3⟩
 ·exact .inr ⟨c,he,hw.trans h1 fun _ hn _=>hn,h2,hp h3⟩
end
theorem EJ {w:World} {ad:Addr} {xs cs:List Value} {g5:Nat} {T:TypeId} (hc:dM w ad xs) (hn:xs≠[]) (hb:cd g5 T cs w) (hcs:∀u∈xs,u∉cs):ad.block≠g5:=fun he=>by
 cases xs with
 |nil=>exact hn rfl
 |cons u xs=>
  have hcell:=hc 0 u rfl
  have he:(ad.add 0).block=g5:=by rw[je];exact he
  have:w.cell? (ad.add 0)=cs.toArray[(ad.add 0).off]? :=by
   have hs:(ad.add 0).spot=none:=World.cell?_spot hcell
   have e:ad.add 0=⟨g5,(ad.add 0).off,none⟩:=by
    cases hx:ad.add 0 with
    |mk b o s=>
     rw[hx] at hs he
     simp only at hs he
     rw[hs,he]
   rw[e]
   exact cell_of_row w g5 _ cs.toArray T (0,0) hb
  rw[hcell] at this
  have h2:cs[(ad.add 0).off]? =some u:=by simpa using this.symm
  exact hcs u (by simp) (List.mem_of_getElem? h2)
theorem yn {X:Nat→Prop} {w:World} {l:List UInt32} {v:Value} {g5:Nat} {T:TypeId} {cs:List Value} (h:cK X w (js l) [v]) (hb:cd g5 T cs w) (hcs:∀n:UInt32,bw n∉cs):cK (fun k=>X k∨k=g5) w (js l) [v]:=by
 unfold js at h⊢
 simp only[cK] at h⊢
 obtain⟨A,n,c,hv,h2,h3,h4,h5,h6⟩:=h
 refine⟨A,n,c,hv,h2,h3,h4,h5,fun hp=>?_⟩
 obtain⟨ad,xs,hA,hX,hC,hall⟩:=h6 hp
 have hall2:∀(l:List UInt32) (ys:List Value),aO X w (l.map tG) ys→(∀u∈ys,∃n:UInt32,u=bw n)∧aO (fun k=>X k∨k=g5) w (l.map tG) ys:=by
  intro l
  induction l with
  |nil=>intro ys h;simp only[List.map_nil,aO] at h⊢;subst h;exact⟨fun _ h=>by simp at h,rfl⟩
  |cons a l ih=>
   intro ys h
   simp only[List.map_cons,aO] at h⊢
   obtain⟨c1,c2,rfl,h1,h2⟩:=h
   have h1':c1=[bw a]:=by simp only[tG,cK] at h1;exact h1
   refine⟨fun u hu=>?_,c1,c2,rfl,by simpa only[tG,cK] using h1,(ih _ h2).2⟩
   rcases List.mem_append.1 hu with hu|hu
   ·rw[h1'] at hu;exact⟨a,by simpa using hu⟩
   ·exact(ih _ h2).1 u hu
 obtain⟨hu,ha⟩:=hall2 l xs hall
 refine⟨ad,xs,hA,fun hn hx=>?_,hC,ha⟩
 rcases hx with hx|hx
 ·exact hX hn hx
 ·exact EJ hC hn hb (fun u hm=>by obtain⟨n,rfl⟩:=hu u hm;exact hcs n) hx
theorem EK {X:Nat→Prop} {w:World} {q:f5} {x y:Value} {g5:Nat} {T:TypeId} {cs:List Value} (h:cK X w (gi q) [B q.1,x,y]) (hb:cd g5 T cs w) (hcs:∀n:UInt32,bw n∉cs):cK (fun k=>X k∨k=g5) w (gi q) [B q.1,x,y]:=by
 have key:∀{ms:List Value},cK X w (gi q) ms→∃x y,ms=[B q.1,x,y]∧cK X w (js q.2.1) [x]∧cK X w (js q.2.2) [y]:=fun {ms} h=>by
  have isS:∀{l:List UInt32} {c:List Value},cK X w (js l) c→∃v,c=[v]:=fun {l c} h=>by
   unfold js at h
   simp only[cK] at h
   obtain⟨A,n,c,rfl,_⟩:=h
   exact⟨_,rfl⟩
  simp only[gi,cK,aO] at h
  obtain⟨_,_,rfl,rfl,c1,_,rfl,h1,c2,_,rfl,h2,rfl⟩:=h
  obtain⟨x,rfl⟩:=isS h1
  obtain⟨y,rfl⟩:=isS h2
  exact⟨x,y,rfl,h1,h2⟩
 obtain⟨x',y',he,h1,h2⟩:=key h
 simp only[List.cons.injEq,and_true] at he
 obtain⟨_,rfl,rfl⟩:=he
 simp only[gi,cK.eq_5]
 exact aO.cons (a:=[B q.1]) (bX _) (aO.cons (yn h1 hb hcs) (aO.cons (b:=[]) (yn h2 hb hcs) aO.nil))
theorem zY {w:World} {g:Nat} {st:Option (List UInt8)} (hr:aZ g st w) (hl:dD st):
 Calls Tryz.prog 147 #[.agg #[.pointer (some ⟨g,0,none⟩)]] w (lh (fun r w'=>Mv (RX g) w w'∧∃(ls:List fQ) (s1:Option (List UInt8)),cK (fun k=>k<w.heap.size) w' (.sl (ls.map fm)) [r]∧r.oneCell'=true∧aZ g s1 w'∧et fU st ls s1∧s1≠none) (fun c w'=>Mv (RX g) w w'∧tE c∧st.bind fU=none)):=by
 refine enter (vs:=[.agg #[.pointer (some ⟨g,0,none⟩)]]) Tryz.func147 Jg Jg Jg ?_
 have hlt:g<w.heap.size:=aZ.lt hr
 obtain⟨N,s0,qU,hN,cU⟩:=vW st
 refine af (aa ?_)
 obtain⟨g1,w1,hr1,l1,x1,k1⟩:=dB (P:=Tryz.prog) (w:=w) (T:=172) (cs:=[.pointer (some ⟨g,0,none⟩)])
 refine cY Jg Jg hr1 ?_
 have hr1:=hr.ext x1
 have e1:=x1
 have nX1:¬RX g g1:=fun h=>by have:g1=g:=h;omega
 have lt1:=k1.lt
 refine ab Jg Jg (ag (ac (af (aa (ab Jg Jg (ag (ac (af (af (aa (ah Jg Jg (aE (o:=0) IY Jg (by kernel_rfl) Jg) ?_)))))))))))
 refine am Jg Jg (ak I1 Jg (k1.cell (i:=0) Jg)) (an gw Jg Jg ((cU hr1)) ?_)
 rintro v8 w8 ⟨g8,rfl,hr8⟩
 have m8:=hr1.rdT.kp g8
 have mv8:Mv (RX g) w1 w8:=Mv.of_grown g8 fun k hk _=>(Option.some.inj hk).symm
 have k18:=mv8.blk k1 nX1
 have hl0:dD s0:=qU.atM jz.le hl
 refine aj rfl rfl (aS) (aj rfl rfl (aT) (i6 lm rfl rfl ((ln (n:=UInt64.ofNat N) (s:=s0))) (fun c a w1 ha hp=>⟨ha.defers,.inr ⟨c,rfl,by obtain⟨rfl,h2,h3⟩:=hp;exact⟨(Mv.of_ext e1).trans mv8 fun _ hj _=>hj,h2,jh (done:=([]:List fQ)) (f:=oK) qU (by rw[h3];rfl)⟩⟩⟩) ?_))
 rintro v11 _ ⟨rfl,rfl,hs0⟩
 obtain⟨l0,rfl⟩:=jM hs0
 refine ab Jg Jg (ag (ac (ax ?_)))
 refine gM (fun(k:Nat) (v:Value) (l:List UInt8) (ls:List fQ)=>[(1,.pointer (some ⟨g1,0,none⟩)),(3,v),(4,bj (UInt64.ofNat k))]) (fun(k:Nat) (v:Value) (l:List UInt8) (ls:List fQ) w'=>Mv (RX g) w1 w'∧aZ g (some l) w'∧fw 147 6 w1.heap.size fm ls v w'∧k<18446744073709551616∧(some l0).bind (cG oK N)=(some l).bind (fun l=>(cG oK k l).map fun p=>(ls++p.1,p.2))∧l.length+ls.length≤549755813888) (fun(k:Nat) (v:Value) (l:List UInt8) (ls:List fQ)=>k) (N) (.slice none 0 0) (l0) ([]) ⟨rfl,rfl,rfl,trivial⟩ ⟨mv8,hr8,fw.nil _,hN,im,by have:=hl0 l0 rfl;simpa using this⟩ ?_
 rintro k v l ls wL ⟨mL,hrL,oL,hk,hR,hql⟩
 refine af (af ?_)
 have hkn:(UInt64.ofNat k).toNat=k:=by rw[UInt64.toNat_ofNat'];omega
 have kL:=mL.blk k1 nX1
 have szL:=mL.size
 have hvo:v.oneCell'=true:=by obtain⟨_,_,_,rfl⟩:=oL.isS;rfl
 rcases Nat.eq_zero_or_pos k with h0|h0
 rotate_left
 ·refine aa (ae Jg Jg (ai (v:=bj 0) Jg Jg Jg (cf (UInt64.lt_iff_toNat_lt.2 (by rw[hkn];exact h0)) ck) (ag (ac (bB Jg (aq (ac ?_)))))))
  refine af (ax (af ?_))
  obtain⟨k',rfl⟩:∃k',k=k'+1:=⟨k-1,by omega⟩
  obtain⟨n1,sA,q1,i1,c1⟩:=nU (some l)
  obtain⟨up,sB,q2,hup,cC⟩:=EG sA (most:=1) (by omega)
  obtain⟨q,sC,q3,cR⟩:=zS sB
  have hll:dD (some l):=fun l' e=>by cases e;omega
  have fewB:dD sB:=q2.atM (lW 1).le (q1.atM eJ.le hll)
  have fewC:dD sC:=q3.atM sG.le fewB
  have hE:(some l).bind oK=none→st.bind fU=none:=fun h=>ji qU hR h
  have hpA:sA=none→st.bind fU=none:=fun e=>hE (Ey (by have h:=q1;rw[e] at h;exact h))
  have hpB:sB=none→st.bind fU=none:=fun e=>hE (yg q1 (by have h:=q2;rw[e] at h;exact h))
  have hpC:sC=none→st.bind fU=none:=fun e=>hE (Ez q1 q2 (by have h:=q3;rw[e] at h;exact h))
  have hgL:g<wL.heap.size:=by omega
  have hgb:g<wL.heap.size:=hgL
  have hgs:wL.heap.size≤wL.heap.size:=Nat.le_refl _
  have mWL:Mv (RX g) w wL:=(Mv.of_ext e1).trans mL fun _ hj _=>hj
  refine jH 17 [1,3,4,5,31] (Mv (RX g) wL) (Mv (RX g)) true (fun c w'=>Mv (RX g) wL w'∧tE c∧st.bind fU=none) (aZ g (some l)) (fE.mv _ _) (Mv.refl _ _) aZ.stableZ hrL (fun c a w1 hd hp=>⟨hd,.inr ⟨c,rfl,mWL.trans hp.1 fun _ hj _=>hj,hp.2⟩⟩) (fun _=>by kernel_rfl) (by kernel_rfl) (by kernel_rfl) ?_
  refine aL Jg Jg (fun w hw=>aE (o:=0) IY Jg (by kernel_rfl) Jg) (aD Jg Jg (fun w hw=>ak I1 Jg ((hw.blk kL nX1).k0)) ?_)
  refine dw (S:=Is (.tuple #[I n1,I (if sA.isSome=true then 0 else 5)])) (Z':=aZ g sA) ik rfl (bu.is _) (aZ.stableZ) rfl (fun w hw hz=>by rintro _ rfl;exact sV (c1 hz)) ?_
  refine dP rfl rfl (fun w _=>aS) (dP rfl rfl (fun w _=>aT) (dw (S:=Is (I n1)) (Z':=aZ g sA) gj rfl (bu.is _) (aZ.stableZ) rfl (fun w hw hz=>by rintro _ rfl _ rfl;exact nV hw hz hpA) ?_))
  refine aD rfl rfl (fun w hw=>(hw.blk kL nX1).ld IY rfl (by kernel_rfl)) (dw (S:=Is (bj (UInt64.ofNat up))) (Z':=aZ g sB) oT rfl (bu.is _) (aZ.stableZ) rfl (fun w hw hz=>by rintro _ rfl _ rfl;exact chM hw (cC hz) hpB) ?_)
  refine aR (u:=bj (UInt64.ofNat up)) (r:=B (iH up)) Jg Jg Jg (fun w _=>Bk hup) (aL Jg Jg (fun w hw=>aE (o:=0) IY Jg (by kernel_rfl) Jg) ?_)
  refine aD rfl rfl (fun w hw=>ak I1 rfl ((hw.blk kL nX1).k0)) (dw (S:=oW wL.heap.size q (if sC.isSome=true then 0 else 5)) (Z':=aZ g sC) pA rfl (oW.stable hgb) (aZ.stableZ) rfl (fun w hw hz=>by rintro _ rfl;exact zV (Nat.le_trans hgs hw.size) (cR fewB hz)) ?_)
  refine ia rfl (qO.stable hgb) rfl (fun w v hw hv=>by obtain⟨x,y,rfl,h⟩:=hv;exact⟨_,aS,x,y,rfl,h⟩) (ia rfl (bu.is (I (if sC.isSome=true then 0 else 5))) rfl (fun w v hw hv=>by obtain⟨x,y,rfl,h⟩:=hv;exact⟨_,aT,rfl⟩) ?_)
  refine dw (S:=qO wL.heap.size q) (Z':=(fun w=>aZ g sC w∧sC≠none)) nS rfl (qO.stable hgb) (gC aZ.stableZ) rfl (fun w hw hz=>by rintro _ ⟨x,y,rfl,h⟩ _ rfl;exact zW hw hz h hpC) ?_
  refine qV (S:=fun v w'=>∃x y,v=.agg #[I n1,B (iH up),B q.1,x,y,.slice none 0 0]∧cK (fun k=>k<wL.heap.size) w' (gi q) [B q.1,x,y]) (fun _ _ _ ⟨x,y,h,h2⟩ hm=>⟨x,y,h,h2.mv (hm.weak fun j hj _=>by have:j=g:=hj;show j<wL.heap.size;omega) fun _ hk=>.inl hk⟩) Jg (fun w' hw=>by
 rintro _ rfl _ rfl _ ⟨x,y,rfl,h⟩
 exact⟨_,w',run_build _ _ _ _ (by kernel_rfl),aM.refl _,x,y,rfl,h⟩) ?_
  refine u9 (S:=zX wL.heap.size 147 [I 0,B false,B false,.slice none 0 0,.slice none 0 0,.slice none 0 0]) (zX.stable hgL) Jg (fun w' hw=>EI (z:=.agg #[I 0,B false,B false,.slice none 0 0,.slice none 0 0,.slice none 0 0]) (by kernel_rfl) Jg hw.size) ?_
  refine bG ?_
  intro wg5 xg5 zg5
  rintro _ rfl
  rintro _ hq3
  obtain rfl:=Eq.symm hq3
  rintro _ rfl
  intro vg5 b5
  intro vg31 b31
  obtain⟨hrG,hsC⟩:=zg5
  obtain⟨g5,rfl,hg5,kG5⟩:=b5
  obtain⟨x,y,rfl,hq⟩:=b31
  have hx1:=(gA hq).1
  have hy1:=(gA hq).2
  obtain⟨wd,sd,qd,kd⟩:=kG5.stS (P:=Tryz.prog) (t:=147) (m:=[I n1,B (iH up),B q.1,x,y,.slice none 0 0]) rfl (by kernel_rfl) (aI.cons rfl (aI.cons rfl (aI.cons rfl (aI.cons hx1 (aI.cons hy1 (aI.cons rfl aI.nil))))))
  have md:Mv (fun k=>k=g5) wg5 wd:=Mv.of_grown qd fun k hk _=>(Option.some.inj hk).symm
  have hrd:aZ g sC wd:=hrG.mv md fun j hj=>by omega
  have mLd:Mv (RX g) wL wd:=xg5.trans md fun j hj hlt=>by omega
  have kLd:=mLd.blk kL nX1
  have nX5:¬RX g g5:=fun h=>by have:g5=g:=h;omega
  have mWd:Mv (RX g) w wd:=mWL.trans mLd fun _ hj _=>hj
  have lt5:=kd.lt
  refine ar Jg Jg sd ?_
  refine ag (ac (af (aa ?_)))
  refine am Jg Jg (kLd.ld IY Jg (by kernel_rfl)) ?_
  refine i6 qv Jg Jg ((qw hrd fewC)) (fun c a w1 ha hp=>⟨ha.defers,.inr ⟨c,rfl,⟨mWd.trans hp.1 fun _ hj _=>hj,hp.2.1,hE (yh q1 q2 q3 hp.2.2)⟩⟩⟩) ?_
  rintro v33 w33 ⟨m33,ps,sE,rp33,hv33,hr33,q4,hsE⟩
  have m33:=m33
  obtain⟨lE,rfl⟩:=jM hsE
  have k33:=m33.blk kd nX5
  obtain⟨we,se,qe,ke⟩:=k33.stC (P:=Tryz.prog) (t:=81) (i:=5) (v:=v33) (by kernel_rfl) hv33 (by simp)
  have ke:cd g5 147 [I n1,B (iH up),B q.1,x,y,v33] we:=ke
  have me:Mv (fun k=>k=g5) w33 we:=Mv.of_grown qe fun k hk _=>(Option.some.inj hk).symm
  have hre:aZ g (some lE) we:=hr33.mv me fun j hj=>by omega
  have mAll:Mv (RX g) wL we:=(mLd.trans m33 fun _ hj _=>hj).trans me fun j hj hlt=>by omega
  have hX1:∀j,RX g j→j<w1.heap.size:=fun j hj=>by have:j=g:=hj;have:=e1.size;omega
  have oE:=oL.mv mAll hX1
  have own:∀j,v.ownBlock=some j→w1.heap.size≤j∧j<wL.heap.size:=oL.lt
  have hY:∀j,(j<w1.heap.size∨v.ownBlock=some j)→j<wL.heap.size:=fun j hj=>by
   rcases hj with hj|hj
   ·omega
   ·exact(own j hj).2
  have szd:=mLd.size
  have rqe:=((EK hq kG5 (fun n h=>by simp[bw,I,B] at h)).mv (((md.weak (Y:=fun k=>k<wL.heap.size∨k=g5) fun j hj _=>.inr hj).trans m33 fun j hj _=>.inl (by have:j=g:=hj;omega)).trans me fun j hj _=>.inr hj) fun _ hk=>.inl hk:cK (fun k=>k<wL.heap.size∨k=g5) we (gi q) [B q.1,x,y])
  have rpe:=rp33.mv (me.weak fun j hj _=>by show j<wd.heap.size;omega) fun _ hk=>.inl hk
  have hM:=yl (l:=⟨n1,iH up,q,ps⟩) (rqe.weak (Y:=fun k=>k<w1.heap.size∨v.ownBlock=some k) fun j hj=>.inl (.inl (hY j hj))) (rpe.weak fun j hj=>.inl (by have:=hY j hj;show j<wd.heap.size;omega))
  have qLm:=sJ q1 q2 q3 q4
  have hlE:=vR l _ lE qLm
  obtain⟨x37,w37,v38,w38,hr37,hr38,o38,m38,n38⟩:=oE.push (ty:=78) (t:=78) I0 yk rfl (by omega) (by omega) (by omega) (aI.cons rfl (aI.cons rfl (aI.cons rfl (aI.cons hx1 (aI.cons hy1 (aI.cons hv33 aI.nil)))))) hM ff (by omega) (Nat.le_trans szL mAll.size)
  have h38:aZ g (some lE) w38:=hre.mv m38 fun j hj=>by have:=own j hj;have:=e1.size;omega
  refine ah Jg Jg (aE (o:=5) IZ Jg (by kernel_rfl) Jg) ?_
  refine ar Jg Jg se ?_
  refine ag (ac (aa (ae Jg Jg ?_)))
  refine am Jg Jg (ke.ld IZ Jg (by kernel_rfl)) ?_
  refine aN (vs:=[(0,.agg #[I n1,B (iH up),B q.1,x,y,v33])]) Jg Jg hr37 ?_
  refine be Jg Jg hr38 ?_
  refine ab Jg Jg (ag (aJ (ac (aa (ae Jg Jg ?_)))))
  have ek:UInt64.ofNat (k'+1)-1=UInt64.ofNat k':=by
   refine UInt64.toNat_inj.1 ?_
   rw[UInt64.toNat_sub_of_le _ _ (UInt64.le_iff_toNat_le.2 (by rw[hkn];show 1≤_;omega)),hkn,UInt64.toNat_ofNat',show(1:UInt64).toNat=1 from rfl]
   omega
  refine ai (v:=bj 1) (r:=bj (UInt64.ofNat k')) Jg Jg Jg ((by rw[←ek];exact dq)) (ab Jg Jg (ag ?_))
  refine fa (k') (v38) (lE) (ls++[⟨n1,iH up,q,ps⟩]) ⟨rfl,rfl,rfl,trivial⟩ ⟨(mL.trans mAll fun _ hj _=>hj).trans m38 fun j hj hlt=>by have:=(own j hj).1;omega,h38,o38,by omega,jg hR qLm,by simp;omega⟩ (by omega)
 ·refine aa (ae Jg Jg (ai (v:=bj 0) Jg Jg Jg (bZ (fun hh=>by have:=UInt64.lt_iff_toNat_lt.1 hh;rw[hkn,h0] at this;exact absurd this (by decide)) ck) ?_))
  refine ag (ac (cq Jg (aW (aA (aA (aU (ac (af (aa (ae Jg Jg (ab Jg Jg (ag (ac (au (aF Jg Jg ?_)))))))))))))))
  exact .inl ⟨_,rfl,(Mv.of_ext e1).trans mL fun _ hj _=>hj,ls,some l,(oL.rpx ff (by omega)).weak fun j hj=>.inl (by have:=e1.size;show j<w1.heap.size;omega),hvo,hrL,ip qU (by subst h0;exact hR),by simp⟩
end Go.Rl
namespace Go.Rl
open Go.RowKit Go.Proofs
theorem et.det {α:Type} {f:List UInt8→Option (α×List UInt8)} {st s s':Option (List UInt8)} {a a':α} (h:et f st a s) (h':et f st a' s') (hn:s≠none):a=a'∧s=s':=by
 have e:s.map (fun t=>(a,t))=s'.map fun t=>(a',t):=h.symm.trans h'
 cases s with
 |none=>exact absurd rfl hn
 |some t=>
  cases s' with
  |none=>cases e
  |some t'=>
   simp only[Option.map_some,Option.some.injEq,Prod.mk.injEq] at e
   exact⟨e.1,by rw[e.2]⟩
theorem vX (st:Option (List UInt8)):∃nd s1,et eB st nd s1:=by
 cases h:st.bind eB with
 |none=>exact⟨.mk [] tJ [] false [],none,h⟩
 |some p=>exact⟨p.1,some p.2,h⟩
theorem jL.isS {α:Type} {b sz:Nat} {f:α→Dt} {l:List α} {v:Value} {w:World} (h:jL b sz f l v w):∃A n c,v=.slice A n c:=by
 obtain⟨cs,⟨A,n,c,rfl,_⟩,_⟩:=h
 exact⟨A,n,c,rfl⟩
theorem jL.rpx {α:Type} {b sz:Nat} {f:α→Dt} {l:List α} {v:Value} {w:World} (h:jL b sz f l v w) (hs:∀a,(f a).size=sz) (h0:0<sz):cK (fun k=>k<b) w (.sl (l.map f)) [v]:=by
 obtain⟨cs,⟨A,n,c,rfl,h2,h3,h4,h5,h6⟩,hown,h1,hall⟩:=h
 have hl:cs.length=l.length*sz:=by rw[hall.len,df (sz:=sz) (by simp[hs]),List.length_map]
 have hn:n=l.length:=Nat.eq_of_mul_eq_mul_right h0 (h4.symm.trans hl)
 simp only[cK]
 refine⟨A,n,c,rfl,by rw[List.length_map,hn],h2,h3,h6,fun hp=>?_⟩
 obtain⟨ad,rfl,hC⟩:=h5 hp
 exact⟨ad,cs,rfl,fun _ hb=>by have:=hown ad.block rfl;omega,hC,hall⟩
theorem Hw {α:Type} {P:Program} {w:World} {t e:TypeId} {z:Value} {sz bytes b:Nat} {f:α→Dt} {a1 a2:α} {c1 c2:List Value} (ht:P.underlying t=some (.slice e)) (hi:(P.info? e).map (fun i=>(i.zero,i.size,i.bytes))=some (some z,sz,bytes)) (hzs:z.cells.size=sz) (h0:0<sz) (hsb:2*sz≤16777216)
 (hb:b≤w.heap.size) (h1:aI c1) (h2:aI c2) (ha1:cK (fun k=>k<b) w (f a1) c1) (ha2:cK (fun k=>k<b) w (f a2) c2) (hs:∀a,(f a).size=sz):∃r w',(Instr.buildSlice t 2 (dS 0 [Value.agg c1.toArray,Value.agg c2.toArray]).toArray).run P w=.ok r w'∧aM w w'∧jL b sz f [a1,a2] r w':=by
 have hl1:c1.length=sz:=by rw[ha1.len,hs]
 have hl2:c2.length=sz:=by rw[ha2.len,hs]
 have hi2:(P.info? e).map (fun i=>(i.zero,i.size))=some (some z,sz):=by
  obtain⟨i,hi',h2⟩:=Option.map_eq_some_iff.1 hi
  simp only[Prod.mk.injEq] at h2
  rw[hi']
  simp[h2.1,h2.2.1]
 obtain⟨x,w0,h3,h4,h5,h6⟩:=EC (w:=w) ht hi2 hzs h0 [c1,c2] (by simp[hl1,hl2]) (by simp) (by simpa using hsb)
 refine⟨x,w0,by simpa using h3,h4,c1++c2,by simpa using h5,fun k hk=>?_,fun u hu=>(List.mem_append.1 hu).elim (h1 u) (h2 u),?_⟩
 ·rw[h6] at hk
  obtain rfl:=Option.some.inj hk
  exact hb
 ·simpa using aO.cons (ha1.ext h4) (aO.cons (b:=[]) (ha2.ext h4) aO.nil)
def vY (b:Nat) (nd:ba):dx:=fun v w=>∃cs,v=.agg cs.toArray∧aI cs∧cK (fun k=>k<b) w (bK nd) cs
theorem vY.stable {b g:Nat} {nd:ba} (hg:g<b):bR (Mv (RX g)) (vY b nd):=fun _ _ _ ⟨cs,h,h1,h2⟩ hm=>⟨cs,h,h1,h2.mv (hm.weak fun j hj _=>by have:j=g:=hj;show j<b;omega) fun _ hk=>.inl hk⟩
def EL (g:Nat) (w:World) (st:Option (List UInt8)) (r:Value) (w':World):Prop:=
 Mv (RX g) w w'∧∃(nd:ba) (cs:List Value) (s1:Option (List UInt8)),r=.agg cs.toArray∧cK (fun k=>k<w.heap.size) w' (bK nd) cs∧aI cs∧aZ g s1 w'∧et eB st nd s1∧s1≠none
def Ge (g:Nat) (w:World) (st:Option (List UInt8)) (c:List PanicEntry) (w':World):Prop:=Mv (RX g) w w'∧tE c∧st.bind eB=none
theorem ndM {w0 w:World} {g b:Nat} {st s1:Option (List UInt8)} {nd:ba} {E:Prop} {f:FuncId} {args:Array Value} (hw:Mv (RX g) w0 w) (hb:b≤w.heap.size) (h:Calls Tryz.prog f args w (lh (EL g w st) (Ge g w st))) (q:et eB st nd s1) (hp:st.bind eB=none→E):
 Calls Tryz.prog f args w (fun e w'=>(∃r,e=.returned r∧Mv (RX g) w w'∧vY b nd r w'∧aZ g s1 w'∧s1≠none)∨∃c,e=.panicked c∧Mv (RX g) w0 w'∧tE c∧E):=by
 refine Calls.mono h fun _ _ he=>?_
 rcases he with⟨r,he,h1,nd',cs,s',h2,h3,h4,h5,h6,h7⟩|⟨c,he,h1,h2,h3⟩
 ·obtain⟨rfl,rfl⟩:=h6.det q h7
  exact .inl ⟨r,he,h1,⟨cs,h2,h4,h3.weak fun j hj=>.inl (Nat.lt_of_lt_of_le hj hb)⟩,h5,h7⟩
 ·exact .inr ⟨c,he,hw.trans h1 fun _ hn _=>hn,h2,hp h3⟩
theorem yo {w w2 wA:World} {g g2:Nat} {z cs:List Value} {nd:ba} {st s1:Option (List UInt8)} (hg:g<w.heap.size) (l2:w.heap.size≤g2) (e2:aM w w2) (k2:cd g2 83 z w2) (hz:z.length=9) (mT:Mv (RX g) w2 wA) (h1:aI cs) (rp:cK (fun k=>k<w2.heap.size) wA (bK nd) cs) (hr:aZ g s1 wA) (q:et eB st nd s1) (hs:s1≠none):
 ∃wd,(Instr.storeAt 83 (.pointer (some ⟨g2,0,none⟩)) (.agg cs.toArray)).run Tryz.prog wA=.ok () wd∧cd g2 83 cs wd∧EL g w st (.agg cs.toArray) wd:=by
 have lt2:=k2.lt
 have k2A:=mT.blk k2 (fun h=>by have:g2=g:=h;omega)
 have hc:cs.length=9:=rp.len.trans (bD nd)
 obtain⟨wd,sd,qd,kd⟩:=k2A.stS (P:=Tryz.prog) (t:=83) (m:=cs) (by omega) (by rw[hc];kernel_rfl) h1
 have md:Mv (fun k=>k=g2) wA wd:=Mv.of_grown qd fun k hk _=>(Option.some.inj hk).symm
 exact⟨wd,sd,kd,((Mv.of_ext e2).trans mT fun _ hj _=>hj).trans md fun j hj hlt=>by omega,nd,cs,s1,rfl,rp.mv (md.weak fun j hj _=>by show j<w2.heap.size;omega) fun j hj=>.inl (by have:=e2.size;show j<w2.heap.size;omega),h1,hr.mv md fun j hj=>by omega,q,hs⟩
theorem zZ {w:World} {g:Nat} {st:Option (List UInt8)} {n:Nat} (ih:∀{w:World} {g:Nat} {st:Option (List UInt8)} {m:Nat},m<n→aZ g st w→dD st→xa m st→Calls Tryz.prog 112 #[.agg #[.pointer (some ⟨g,0,none⟩)]] w (lh (EL g w st) (Ge g w st))) (hr:aZ g st w) (hl:dD st) (hn:xa n st):
 Calls Tryz.prog 112 #[.agg #[.pointer (some ⟨g,0,none⟩)]] w (lh (EL g w st) (Ge g w st)):=by
 refine enter (vs:=[.agg #[.pointer (some ⟨g,0,none⟩)]]) Tryz.func112 Jg Jg Jg ?_
 have hlt:g<w.heap.size:=aZ.lt hr
 obtain⟨tag,s1,qF,htag,cC⟩:=EG st (most:=2) (by omega)
 refine af (aa ?_)
 obtain⟨g1,w1,hr1,l1,x1,k1⟩:=dB (P:=Tryz.prog) (w:=w) (T:=172) (cs:=[.pointer (some ⟨g,0,none⟩)])
 refine cY Jg Jg hr1 ?_
 obtain⟨g2,w2,hr2,l2,x2,k2⟩:=bf (P:=Tryz.prog) (w:=w1) (t:=83) (z:=.agg #[.slice none 0 0,I 0,I 0,B false,.slice none 0 0,.slice none 0 0,.slice none 0 0,B false,.slice none 0 0]) (l:=[.slice none 0 0,I 0,I 0,B false,.slice none 0 0,.slice none 0 0,.slice none 0 0,B false,.slice none 0 0]) (by kernel_rfl) rfl
 refine bh Jg hr2 ?_
 have hr2:=hr.ext (x1.trans x2)
 have e2:=(x1.trans x2)
 have k12:=k1.ext x2
 have sz1:=x1.size
 have sz2:=e2.size
 have lt2:=k2.lt
 have nX1:¬RX g g1:=fun h=>by have:g1=g:=h;omega
 have nX2:¬RX g g2:=fun h=>by have:g2=g:=h;omega
 refine ag (ac (af (aa ?_)))
 refine am Jg Jg (k12.ld IY Jg (by kernel_rfl)) ?_
 refine i6 oT Jg Jg ((cC hr2)) (fun c a w1 ha hp=>⟨ha.defers,.inr ⟨c,rfl,⟨(Mv.of_ext e2).trans hp.1 fun _ hj _=>hj,hp.2.1,yb (by have h:=qF;rw[hp.2.2] at h;exact h)⟩⟩⟩) ?_
 rintro v6 w6 ⟨m6,rfl,hr6,hs1,hle⟩
 have m6:=m6
 obtain⟨l1,rfl⟩:=jM hs1
 have hl1:dD (some l1):=qF.atM (lW 2).le hl
 have hn1:l1.length+1≤n:=by
  obtain⟨l0,e0,q0⟩:=qF.some
  have:=lW 2 l0 _ _ q0
  have:=hn l0 e0
  omega
 have an1:xa (n-1) (some l1):=fun l' e=>by cases e;omega
 have k16:=m6.blk k12 nX1
 refine ab Jg Jg (ag (ac (af (aa (ae Jg Jg (ai (v:=bj 1) (r:=B (decide (tag=1))) Jg Jg Jg ((Bk htag)) ?_))))))
 refine am Jg Jg (k16.ld IY Jg (by kernel_rfl)) ?_
 refine i6 zR Jg Jg ((zY hr6 hl1)) (fun c a w1 ha hp=>⟨ha.defers,.inr ⟨c,rfl,⟨((Mv.of_ext e2).trans m6 fun _ hj _=>hj).trans hp.1 fun _ hj _=>hj,hp.2.1,oR qF hp.2.2⟩⟩⟩) ?_
 rintro v10 w10 ⟨m10,ls,s2,rl10,hv10,hr10,qLs,hs2⟩
 have m10:=m10
 obtain⟨lc,rfl⟩:=jM hs2
 have hl2:dD (some lc):=qLs.atM lX.le hl1
 have an2:xa (n-1) (some lc):=qLs.atM lX.le an1
 have m210:Mv (RX g) w2 w10:=m6.trans m10 fun _ hj _=>hj
 refine bm (vs:=[(3,B (decide (tag=1))),(0,v10)]) (r:=.agg #[v10,I 0,I 0,B false,.slice none 0 0,.slice none 0 0,.slice none 0 0,B (decide (tag=1)),.slice none 0 0]) rfl rfl (by obtain⟨_,_,_,rfl⟩:=rl10.isS;exact run_build _ _ _ _ (by kernel_rfl)) ?_
 obtain⟨g4,w4,hr4,l4,x4,k4⟩:=bf (P:=Tryz.prog) (w:=w10) (t:=83) (z:=.agg #[.slice none 0 0,I 0,I 0,B false,.slice none 0 0,.slice none 0 0,.slice none 0 0,B false,.slice none 0 0]) (l:=[.slice none 0 0,I 0,I 0,B false,.slice none 0 0,.slice none 0 0,.slice none 0 0,B false,.slice none 0 0]) (by kernel_rfl) rfl
 refine bh Jg hr4 ?_
 obtain⟨w5,s5,q5,k5⟩:=k4.stS (P:=Tryz.prog) (t:=83) (m:=[v10,I 0,I 0,B false,.slice none 0 0,.slice none 0 0,.slice none 0 0,B (decide (tag=1)),.slice none 0 0]) rfl (by kernel_rfl) (aI.cons hv10 (aI.cons rfl (aI.cons rfl (aI.cons rfl (aI.cons rfl (aI.cons rfl (aI.cons rfl (aI.cons rfl (aI.cons rfl aI.nil)))))))))
 have x410:=x4
 have m5:Mv (fun k=>k=g4) w4 w5:=Mv.of_grown q5 fun k hk _=>(Option.some.inj hk).symm
 have sz210:=m210.size
 have sz4:=x4.size
 have lt4:=k4.lt
 have lt5:=k5.lt
 have m105:Mv (RX g) w10 w5:=(Mv.of_ext x4).trans m5 fun j hj hlt=>by omega
 have m25:Mv (RX g) w2 w5:=m210.trans m105 fun _ hj _=>hj
 have hr5:aZ g (some lc) w5:=(hr10.ext x4).mv m5 fun j hj=>by omega
 have nX4:¬RX g g4:=fun h=>by have:g4=g:=h;omega
 have rl5:cK (fun k=>k<w2.heap.size∨k=g4) w5 (.sl (ls.map fm)) [v10]:=(((rl10.weak (Y:=fun k=>k<w2.heap.size∨k=g4) fun j hj=>by
  rcases hj with hj|hj
  ·exact .inl (by have:=m6.size;show j<w6.heap.size;omega)
  ·exact .inr (by omega)).ext x4).mv (m5.weak fun j hj _=>.inr hj) fun _ hk=>.inl hk)
 have k15:=m25.blk k12 nX1
 refine ar Jg Jg s5 ?_
 refine ag (ac (af (af ?_)))
 by_cases ht:tag<2
 ·refine aa (ae Jg Jg (ai (v:=bj 2) Jg Jg Jg (cf ((Dv htag (by omega)).2 ht) dt) (ag (ac (bB Jg (af (aa ?_)))))))
  refine am Jg Jg (k15.ld IY Jg (by kernel_rfl)) ?_
  refine i6 qv Jg Jg ((qw hr5 hl2)) (fun c a w1 ha hp=>⟨ha.defers,.inr ⟨c,rfl,⟨((Mv.of_ext e2).trans m25 fun _ hj _=>hj).trans hp.1 fun _ hj _=>hj,hp.2.1,yc ht qF qLs hp.2.2⟩⟩⟩) ?_
  rintro v15 w15 ⟨m15,ps,s3,rp15,hv15,hr15,qP,hs3⟩
  have m15:=m15
  have k415:=m15.blk k5 nX4
  obtain⟨we,se,qe,ke⟩:=k415.stC (P:=Tryz.prog) (t:=81) (i:=8) (v:=v15) (by kernel_rfl) hv15 (by simp)
  have ke:cd g4 83 [v10,I 0,I 0,B false,.slice none 0 0,.slice none 0 0,.slice none 0 0,B (decide (tag=1)),v15] we:=ke
  have me:Mv (fun k=>k=g4) w15 we:=Mv.of_grown qe fun k hk _=>(Option.some.inj hk).symm
  have hre:aZ g s3 we:=hr15.mv me fun j hj=>by omega
  have mT:Mv (RX g) w2 we:=(m25.trans m15 fun _ hj _=>hj).trans me fun j hj hlt=>by omega
  have rle:=rl5.mv ((m15.weak (Y:=fun k=>k<w2.heap.size∨k=g4) fun j hj _=>.inl (by have:j=g:=hj;omega)).trans me fun j hj _=>.inr hj) fun _ hk=>.inl hk
  have rpe:=rp15.mv (me.weak fun j hj _=>by show j<w5.heap.size;omega) fun _ hk=>.inl hk
  obtain⟨wd,sd,kd,fin⟩:=yo (st:=st) (nd:=.mk ls tJ [] (decide (tag=1)) ps) hlt (Nat.le_trans sz1 l2) e2 k2 rfl mT (aI.cons hv10 (aI.cons rfl (aI.cons rfl (aI.cons rfl (aI.cons rfl (aI.cons rfl (aI.cons rfl (aI.cons rfl (aI.cons hv15 aI.nil))))))))) (fA (rle.weak fun j hj=>.inl (.inl hj)) lj kt (rpe.weak fun j hj=>.inl (by have:=m25.size;show j<w5.heap.size;omega))) hre (ux ht qF qLs qP) hs3
  refine ah Jg Jg (aE (o:=8) IN Jg (by kernel_rfl) Jg) ?_
  refine ar Jg Jg se ?_
  refine ag (ac (af (aa ?_)))
  refine am Jg Jg (ke.ld IN Jg (by kernel_rfl)) ?_
  refine ar Jg Jg sd ?_
  refine ag (ac (au (av ?_)))
  refine ep Jg Jg kd IN Jg (by kernel_rfl) ?_
  exact .inl ⟨_,rfl,fin⟩
 ·refine aa (ae Jg Jg (ai (v:=bj 2) Jg Jg Jg (bZ (mt (Dv htag (by omega)).1 ht) dt) (ag (ac (cq Jg (aq (ac (af (aa ?_)))))))))
  refine am Jg Jg (k15.ld IY Jg (by kernel_rfl)) ?_
  refine i6 CO Jg Jg ((CP hr5 hl2)) (fun c a w1 ha hp=>⟨ha.defers,.inr ⟨c,rfl,⟨((Mv.of_ext e2).trans m25 fun _ hj _=>hj).trans hp.1 fun _ hj _=>hj,hp.2.1,yd ht qF qLs hp.2.2⟩⟩⟩) ?_
  rintro v19 w19 ⟨m19,d,x,y,s3,rfl,rd19,hx,hy,hr19,qD,hs3⟩
  have m19:=m19
  have k419:=m19.blk k5 nX4
  obtain⟨we,se,qe,ke⟩:=k419.stO (P:=Tryz.prog) (t:=80) (m:=[I d.kd,I d.ix,B d.at_.1,x,y]) 1 (by simp) (by kernel_rfl) (aI.cons rfl (aI.cons rfl (aI.cons rfl (aI.cons hx (aI.cons hy aI.nil)))))
  have ke:cd g4 83 [v10,I d.kd,I d.ix,B d.at_.1,x,y,.slice none 0 0,B (decide (tag=1)),.slice none 0 0] we:=ke
  have me:Mv (fun k=>k=g4) w19 we:=Mv.of_grown qe fun k hk _=>(Option.some.inj hk).symm
  have hre:aZ g s3 we:=hr19.mv me fun j hj=>by omega
  have mT:Mv (RX g) w2 we:=(m25.trans m19 fun _ hj _=>hj).trans me fun j hj hlt=>by omega
  have rle:=rl5.mv ((m19.weak (Y:=fun k=>k<w2.heap.size∨k=g4) fun j hj _=>.inl (by have:j=g:=hj;omega)).trans me fun j hj _=>.inr hj) fun _ hk=>.inl hk
  have rde:=rd19.mv (me.weak fun j hj _=>by show j<w5.heap.size;omega) fun _ hk=>.inl hk
  have rde:cK (fun k=>k<w2.heap.size∨k=g4) we (pJ d) [I d.kd,I d.ix,B d.at_.1,x,y]:=rde.weak fun j hj=>.inl (by
   have:=m25.size
   rcases hj with hj|hj
   ·show j<w5.heap.size;omega
   ·show j<w5.heap.size;omega)
  have eT:decide (tag=1)=false:=decide_eq_false (by omega)
  have k1e:=mT.blk k12 nX1
  obtain⟨na,s4,qa⟩:=vX s3
  obtain⟨nb,s6,qb⟩:=vX s4
  have hl3:dD s3:=qD.atM nO.le hl2
  have an3:xa (n-1) s3:=qD.atM nO.le an2
  have hl4:dD s4:=qa.atM mS.le hl3
  have an4:xa (n-1) s4:=qa.atM mS.le an3
  have hgb:g<we.heap.size:=by have:=mT.size;omega
  have hpa:s3.bind eB=none→st.bind eB=none:=fun e=>ye ht qF qLs qD e
  have hpb:s4.bind eB=none→st.bind eB=none:=fun e=>yf ht qF qLs qD qa e
  refine ah Jg Jg (aE (o:=1) IN Jg (by kernel_rfl) Jg) ?_
  refine ar Jg Jg se ?_
  refine ag (ac (af (jH 6 [2,4,25,26] (Mv (RX g) we) (Mv (RX g)) true (fun c w'=>Mv (RX g) we w'∧tE c∧st.bind eB=none) (aZ g s3) (fE.mv _ _) (Mv.refl _ _) aZ.stableZ hre (fun c a w1 hd hp=>⟨hd,.inr ⟨c,rfl,((Mv.of_ext e2).trans mT fun _ hj _=>hj).trans hp.1 fun _ hj _=>hj,hp.2⟩⟩) (fun _=>by kernel_rfl) (by kernel_rfl) (by kernel_rfl) ?_)))
  refine aD rfl rfl (fun w hw=>(hw.blk k1e nX1).ld IY rfl (by kernel_rfl)) (dw (S:=vY we.heap.size na) (Z':=(fun w=>aZ g s4 w∧s4≠none)) nT rfl (vY.stable hgb) (gC aZ.stableZ) rfl (fun w hw hz=>by rintro _ rfl;exact ndM hw hw.size (ih (m:=n-1) (by omega) hz hl3 an3) qa hpa) ?_)
  refine aD rfl rfl (fun w hw=>(hw.blk k1e nX1).ld IY rfl (by kernel_rfl)) (dw (S:=vY we.heap.size nb) (Z':=(fun w=>aZ g s6 w∧s6≠none)) nT rfl (vY.stable hgb) (gC aZ.stableZ) rfl (fun w hw hz=>by rintro _ rfl;exact ndM hw hw.size (ih (m:=n-1) (by omega) hz.1 hl4 an4) qb hpb) ?_)
  refine fL (S:=jL we.heap.size 9 bK [na,nb]) (jL.stable hgb) Jg (fun w' hw=>by
 rintro _ ⟨ca,rfl,ha1,ha2⟩ _ ⟨cb,rfl,hb1,hb2⟩
 exact Hw IS kq rfl (by omega) (by omega) hw.size ha1 hb1 ha2 hb2 bD) ?_
  refine aL Jg Jg (fun w hw=>aE (o:=6) IN Jg (by kernel_rfl) Jg) (bG ?_)
  intro wg7 xg7 zg7
  rintro _ rfl
  rintro _ rfl
  intro vg25 b25
  rintro _ rfl
  obtain⟨hrG,hs6⟩:=zg7
  have hv25:vg25.oneCell'=true:=by obtain⟨_,_,_,rfl⟩:=b25.isS;rfl
  have kG:=xg7.blk ke nX4
  obtain⟨wf,sf,qf,kf⟩:=kG.stC (P:=Tryz.prog) (t:=23) (i:=6) (v:=vg25) (by kernel_rfl) hv25 (by simp)
  have kf:cd g4 83 [v10,I d.kd,I d.ix,B d.at_.1,x,y,vg25,B (decide (tag=1)),.slice none 0 0] wf:=kf
  have mf:Mv (fun k=>k=g4) wg7 wf:=Mv.of_grown qf fun k hk _=>(Option.some.inj hk).symm
  have hrf:aZ g s6 wf:=hrG.mv mf fun j hj=>by omega
  have mW:Mv (RX g) w2 wf:=(mT.trans xg7 fun _ hj _=>hj).trans mf fun j hj hlt=>by omega
  have mK:Mv (fun k=>k<w2.heap.size∨k=g4) we wf:=(xg7.weak fun j hj _=>.inl (by have:j=g:=hj;omega)).trans mf fun j hj _=>.inr hj
  have rlf:=rle.mv mK fun _ hk=>.inl hk
  have rdf:=rde.mv mK fun _ hk=>.inl hk
  have lte:=ke.lt
  have rkf:=(b25.rpx bD (by omega)).mv (mf.weak fun j hj _=>by show j<we.heap.size;omega) fun _ hk=>.inl hk
  obtain⟨wd,sd,kd,fin⟩:=yo (st:=st) (nd:=.mk ls d [na,nb] (decide (tag=1)) []) hlt (Nat.le_trans sz1 l2) e2 k2 rfl mW (aI.cons hv10 (aI.cons rfl (aI.cons rfl (aI.cons rfl (aI.cons hx (aI.cons hy (aI.cons hv25 (aI.cons rfl (aI.cons rfl aI.nil))))))))) (fA (rlf.weak fun j hj=>.inl (.inl hj)) (rdf.weak fun j hj=>.inl (.inl hj)) (rkf.weak fun j hj=>.inl (by have:=mT.size;show j<we.heap.size;omega)) kt) hrf (by rw[eT];exact sK ht qF qLs qD qa qb) hs6
  refine ar Jg Jg sf ?_
  refine ag (ac (af (aa ?_)))
  refine am Jg Jg (kf.ld IN Jg (by kernel_rfl)) ?_
  refine ar Jg Jg sd ?_
  refine ag (ac (au ?_))
  refine ep Jg Jg kd IN Jg (by kernel_rfl) ?_
  exact .inl ⟨_,rfl,fin⟩
theorem z4:∀(n:Nat) {w:World} {g:Nat} {st:Option (List UInt8)},aZ g st w→dD st→xa n st→Calls Tryz.prog 112 #[.agg #[.pointer (some ⟨g,0,none⟩)]] w (lh (EL g w st) (Ge g w st)):=by
 intro n
 induction n using Nat.strongRecOn with
 |_ n ih=>exact fun hr hl hn=>zZ (n:=n) (fun {w g st m} hm h1 h2 h3=>ih m hm h1 h2 h3) hr hl hn
end Go.Rl
namespace Go.Rl
open Go.RowKit Go.Proofs
theorem Gf {P:Program} {Q:fB} {N:Nat} {D:List Deferred} {l:Fr} {w:World} {c:Code} {a:Act} (ha:At N D l a) (h:cW P Q N D l w c):c.wp P Q a w:=h a ha
theorem EM {P:Program} {w:World} {t u:TypeId} {ms} {x y:Operand} {v:Value} (ht:P.underlying t=some (.interface ms)):(bin .neq t x y (.iface u v) .nilIface).run P w=.ok (B true) w:=by
 have h:(Op.equal t (.iface u v) .nilIface).run P w=.ok false w:=by
  show(Op.equalIn (9999+1) t (.iface u v) .nilIface).run P w=_
  unfold Op.equalIn
  simp[run_underlying ht]
 show(do pure (Value.bool (!(←Op.equal t (.iface u v) .nilIface))):Sem Value).run P w=_
 rw[Sem.run_bind,h];rfl
theorem In {P:Program} {w:World} {t T:TypeId} {fs:Array Field} {v:Value} (h:P.underlying T=some (.struct fs)):(Instr.typeAssert (.iface T v) t T true).run P w=.ok (.tuple #[v,B true]) w:=by
 simp[Instr.typeAssert,run_underlying h,B]
theorem z5 {w:World} {g2 g3:Nat}:
 CallsD Tryz.prog 108 #[.pointer (some ⟨g2,0,none⟩),.pointer (some ⟨g3,0,none⟩)] .returning w fun e u' w'=>e=.returned (.tuple #[])∧u'=.returning∧w'=w:=by
 refine callsD_of_wpS Tryz.func108 Jg fun c₀ cs hu=>?_
 apply wpS_seq
 apply wpS_region
 simp[wpOpsS,go_sem,recoverD,hu,Exit.thenS]
 apply wpS_seq
 apply wpS_region
 simp[wpOpsS,go_sem,Exit.thenS]
 refine wpS_cond (t:=false) (by simp[Act.eval,Array.replicate]) ?_
 simp only[Bool.false_eq_true,if_false]
 refine wpS_of_wp (wp_skip ?_)
 cases c₀
 simp_all [bodyPostS,results]
theorem CQ {w:World} {g2 g3:Nat} {v2 v3:Value} (k2:cd g2 23 [v2] w) (k3:cd g3 29 [v3] w) (hne:g2≠g3):
 CallsD Tryz.prog 108 #[.pointer (some ⟨g2,0,none⟩),.pointer (some ⟨g3,0,none⟩)] (.panicking [{v:=HW,recovered:=false}]) w fun e u' w'=>e=.returned (.tuple #[])∧u'=.panicking [{v:=HW,recovered:=true}]∧Mv (fun k=>k=g2∨k=g3) w w'∧cd g2 23 [.slice none 0 0] w'∧cd g3 29 [I 5] w':=by
 refine callsD_of_wpS Tryz.func108 Jg fun c₀ cs hu=>?_
 apply wpS_seq
 apply wpS_region
 simp[wpOpsS,go_sem,recoverD,hu,Exit.thenS,HW]
 refine wpS_of_wp ?_
 refine Gf (N:=16) (D:=[]) (l:=[(0,.pointer (some ⟨g2,0,none⟩)),(1,.pointer (some ⟨g3,0,none⟩)),(2,.iface 167 (.agg #[]))]) ⟨by simp,rfl,fun t v h=>?_⟩ ?_
 ·rcases t with _|_|_|t
  ·simpa [lk] using h
  ·simpa [lk] using h
  ·simpa [lk] using h
  ·simp[lk,Nat.beq] at h
 obtain⟨g5,w5,hr5,l5,x5,k5⟩:=bf (P:=Tryz.prog) (w:=w) (t:=167) (z:=.agg #[]) (l:=[]) (by kernel_rfl) rfl
 obtain⟨w6,s6,q6,k6⟩:=k5.stS (P:=Tryz.prog) (t:=167) (m:=[]) rfl (by kernel_rfl) aI.nil
 have x6:aM w w6:=aM.of_new x5 q6 l5
 obtain⟨w7,s7,q7,k7⟩:=(k2.ext x6).stC (P:=Tryz.prog) (t:=23) (i:=0) (v:=.slice none 0 0) (by kernel_rfl) rfl (by simp)
 obtain⟨w8,s8,q8,k8⟩:=((k3.ext x6).other q7 (fun e=>hne (Option.some.inj e).symm)).stC (P:=Tryz.prog) (t:=29) (i:=0) (v:=I 5) (by kernel_rfl) rfl (by simp)
 have k78:=k7.other q8 (fun e=>hne (Option.some.inj e))
 have m7:Mv (fun k=>k=g2∨k=g3) w w7:=(Mv.of_ext x6).trans (Mv.of_grown q7 fun k hk _=>.inl (Option.some.inj hk).symm) fun _ hj _=>hj
 have m8:Mv (fun k=>k=g2∨k=g3) w w8:=m7.trans (Mv.of_grown q8 fun k hk _=>.inr (Option.some.inj hk).symm) fun _ hj _=>hj
 refine af (aa (ae Jg Jg (ai (r:=B true) Jg Jg Jg (EM Tryz.underlying20) (ag (ac (bB Jg ?_))))))
 refine af (af (aa (ae Jg Jg (u7 (r:=.tuple #[.agg #[],B true]) (f:=fun v=>Instr.typeAssert v 20 167 true) (fun _=>rfl) Jg Jg (In Jc) (ae Jg Jg (aj Jg Jg aS (aj Jg Jg aT (bh Jg hr5 ?_))))))))
 refine ar Jg Jg s6 (ab Jg Jg (ag (ac (af (aa (ae Jg Jg (ci Jg Jg cj (ag (ac (cq Jg (aq (ac ?_))))))))))))
 refine aa (ar Jg Jg s7 (ar Jg Jg s8 (ag fun a ha=>?_)))
 exact⟨ha.defers,.panicking [{v:=HW,recovered:=true}],rfl,.tuple #[],by simp[results],rfl,rfl,m8,k78,k8⟩
end Go.Rl
namespace Go.Rl
open Go.RowKit Go.Proofs
section
variable {P:Program} {Q:fB} {N:Nat} {D:List Deferred} {l:Fr} {w:World} {ops:Array Oper} {rest:List Oper} {ty:TypeId} {pos:String} {aft:Array Edge}
theorem Hx {f:FuncId} {fn:Func} {c:Code} {vs:List Value} {R:Ending→World→Prop} (hf:P.funcs[f]? =some fn) (hb:fn.body=some c) (hN:fn.ntmps=N) (hle:Nat.ble vs.length N=true)
 (h:cW P (bodyPostD P fn R) N [] (dS 0 vs) w c):Calls P f vs.toArray w R:=by
 have hle':vs.length≤N:=by simpa using hle
 refine calls_of_wp_defers hf hb (h _ ⟨?_,rfl,fun t v ht=>?_⟩)
 ·simp[hN];omega
 ·obtain⟨_,h2⟩:=my vs 0 t v ht
  have h2':vs[t]? =some v:=by simpa using h2
  have hlt:t<vs.length:=by
   rcases Nat.lt_or_ge t vs.length with h|h
   ·exact h
   ·rw[List.getElem?_eq_none h] at h2';cases h2'
  rw[List.getElem?_eq_getElem hlt] at h2'
  simpa [Array.getElem?_append,hlt] using h2'
theorem Gg {x:Operand} {fn:Fn} {fs cap:Array Value} (hx:ev l x=some (.func fn fs cap)) (k:bP P ops Q N (⟨.fn fn cap,fs⟩::D) l w rest):
 bP P ops Q N D l w (⟨none,.defer {callee:=.value x,args:=#[],argTypes:=#[]},ty,pos,aft,none⟩::rest):=fun a ha=>by
 have hr:(execOp a.eval ⟨none,.defer {callee:=.value x,args:=#[],argTypes:=#[]},ty,pos,aft,none⟩).run P w=.ok (.defer ⟨.fn fn cap,fs⟩) w:=by
  have e:a.eval x=.func fn fs cap:=ha.ev hx
  simp[execOp,resolve,e,Deferred.ofValue]
 unfold wpList
 rw[if_pos (by rfl)]
 refine .inl ?_
 unfold Oper.wp
 rw[hr]
 refine k _ ⟨ha.size,?_,ha.at_⟩
 show _::a.defers=_
 rw[ha.defers]
theorem yp {t:TypeId} {d:TypeDesc} {a:Addr} {v:Value} (ht:P.underlying t=some d) (hd:(match d with|.struct _|.array _ _=>true|_=>false)=false) (hc:w.cell? a=some v):(loadVar t a).run P w=.ok v w:=by
 have:=ak (P:=P) (t:=t) ht hd hc
 simpa [Instr.loadAt,Instr.sureAddr] using this
theorem tL {fn:Func} {p q:Tmp} {t u:TypeId} {tmps:Array Value} {a b:Addr} {v v2:Value} (h:fn.results= #[.cell p t,.cell q u]) (hp:tmps.getD p undef=.pointer (some a)) (hq:tmps.getD q undef=.pointer (some b))
 (l1:(loadVar t a).run P w=.ok v w) (l2:(loadVar u b).run P w=.ok v2 w):(results fn tmps).run P w=.ok (.tuple #[v,v2]) w:=by
 simp only[results,h]
 simp only[Array.getD_eq_getD_getElem?] at hp hq
 simp[Sem.run_bind,Result.andThen,hp,hq,l1,l2,asAddr]
end
theorem z6:az Tryz.prog 108:=⟨_,Tryz.func108,by kernel_rfl,rfl⟩
def ri (g2 g3:Nat):Deferred:=⟨.fn (.func 108) #[.pointer (some ⟨g2,0,none⟩),.pointer (some ⟨g3,0,none⟩)],#[]⟩
theorem qx {w:World} {g2 g3:Nat}:(invoke (.fn (.func 108) #[.pointer (some ⟨g2,0,none⟩),.pointer (some ⟨g3,0,none⟩)]) #[]).run Tryz.prog w=.ok (.enter 108 #[.pointer (some ⟨g2,0,none⟩),.pointer (some ⟨g3,0,none⟩)]) w:=by
 simp only[invoke,fi z6,Array.empty_append]
section
variable {fn:Func} {R:Ending→World→Prop} {tmps:Array Value} {w:World} {g2 g3:Nat} {v2 v3:Value}
theorem uC (hr:fn.results= #[.cell 2 23,.cell 3 29]) (h2:tmps.getD 2 undef=.pointer (some ⟨g2,0,none⟩)) (h3:tmps.getD 3 undef=.pointer (some ⟨g3,0,none⟩)) (k2:cd g2 23 [v2] w) (k3:cd g3 29 [v3] w):(results fn tmps).run Tryz.prog w=.ok (.tuple #[v2,v3]) w:=
 tL hr h2 h3 (yp IS rfl k2.k0) (yp Tryz.underlying29 rfl k3.k0)
theorem CR (hr:fn.results= #[.cell 2 23,.cell 3 29]) (h2:tmps.getD 2 undef=.pointer (some ⟨g2,0,none⟩)) (h3:tmps.getD 3 undef=.pointer (some ⟨g3,0,none⟩)) (k2:cd g2 23 [v2] w) (k3:cd g3 29 [v3] w) (h:R (.returned (.tuple #[v2,v3])) w):
 Leaves Tryz.prog fn tmps R [ri g2 g3] .returning w:=by
 refine leaves_cons (f:=108) (by simp) qx (CallsD.mono z5 ?_)
 rintro e u' w' ⟨rfl,rfl,rfl⟩
 exact⟨_,uC hr h2 h3 k2 k3,h⟩
theorem CS {c:List PanicEntry} (hc:tE c) (hne:g2≠g3) (hr:fn.results= #[.cell 2 23,.cell 3 29]) (h2:tmps.getD 2 undef=.pointer (some ⟨g2,0,none⟩)) (h3:tmps.getD 3 undef=.pointer (some ⟨g3,0,none⟩)) (k2:cd g2 23 [v2] w) (k3:cd g3 29 [v3] w)
 (h:∀w',Mv (fun k=>k=g2∨k=g3) w w'→R (.returned (.tuple #[.slice none 0 0,I 5])) w'):Leaves Tryz.prog fn tmps R [ri g2 g3] (.panicking c) w:=by
 have hc:c=[{v:=HW,recovered:=false}]:=hc
 subst hc
 refine leaves_cons (f:=108) (by simp) qx (CallsD.mono (CQ k2 k3 hne) ?_)
 rintro e u' w' ⟨rfl,rfl,h5,h6,h7⟩
 exact⟨_,uC hr h2 h3 h6 h7,h w' h5⟩
end
end Go.Rl
namespace Go.Rl
open Go.RowKit
section
variable {P:Program} {ops:Array Oper} {Q:fB} {N:Nat} {D:List Deferred} {Env:World→Prop} {Rl:World→World→Prop} {mo:Bool} {Pn:List PanicEntry→World→Prop}
theorem Gh {o:Oper} {a:Act} {w:World} {K:Act→World→Prop} (h:o.wp P a w K (gS Q)):o.wp P a w K Q:=by
 unfold Oper.wp at*
 generalize (execOp a.eval o).run P w=r at*
 cases r with
 |ok n w'=>
  cases n<;>simp only[Oper.upon] at h⊢ <;>try exact h
  case enter f args=>
   refine Calls.mono h fun e w'' he=>?_
   cases e with
   |returned u=>exact he
   |panicked c=>obtain⟨he,_⟩:=he;cases he
   |outgrown=>obtain⟨_,_,he,_⟩:=he;cases he
 |halt x w'=>
  cases x<;>simp only[Oper.upon] at h⊢
  case panic u=>obtain⟨he,_⟩:=h;cases he
theorem Gi {i:Nat} {a:Act} {w:World} {K:Act→World→Prop} (h:wpOp P ops (gS Q) i K a w):wpOp P ops Q i K a w:=by
 unfold wpOp at*
 split
 ·simpa [*] using h
 ·rename_i o ho
  simp only[ho] at h
  split
  ·rename_i hw
   rw[if_pos hw] at h
   rcases h with h|h
   ·exact .inl (Gh h)
   ·exact absurd h.2 sP
  ·rename_i hw
   rw[if_neg hw] at h
   exact h
theorem yq:∀(g:Nat) (listed:Array Bool) (a:Act) (w:World),wpAny P .any ops (gS Q) g listed a w→wpAny P .any ops Q g listed a w
 |0,_,_,_,h=>⟨h.1,h.2.2⟩
 |g+1,_,_,_,h=>⟨fun e=>(h.1 e).2,fun i hi=>Gi (wpOp_mono (fun a' w' h'=>yq g _ a' w' h') (h.2 i hi))⟩
def yr (ops:Array Oper) (n:Nat) (E:Array Bool):Nat→Nat→Array Bool→Bool
 |0,_,listed=>decide (listed=E)&&(Region.ready .any ops listed).all fun j=>decide (n≤j)
 |f+1,k,listed=>(Region.ready .any ops listed).contains k&&Region.free .any ops listed k&&yr ops n E f (k+1) (listed.setIfInBounds k true)
theorem qy {n:Nat} {E:Array Bool} {Lq:cp→iN→Prop} (hcalls:mo=true→fW .any ops=true) (hs:Region.sinkB .any ops n=true) (hc:jT ops n=true):
 ∀(l:List Oper) (k:Nat) (listed:Array Bool) (F:cp) (Z:iN),(∀j,j<l.length→l[j]? =ops[k+j]?)→k+l.length=n→HeadInv .any ops n listed→
 yr ops n E l.length k listed=true→(∀t,bR Rl (F t))→cH Z→fg P ops Env Rl mo Pn N l F Z Lq→
 gG P .any ops Env Rl mo Pn N n (fun listed' F' Z'=>(listed'=E∧(Region.ready .any ops listed').all (fun j=>decide (n≤j))=true)∧Lq F' Z') l.length listed F Z
 |[],k,listed,F,Z,_,hk,_,hB,_,_,h=>by
  simp only[List.length_nil,yr,Bool.and_eq_true,decide_eq_true_eq] at hB
  exact⟨hB,h⟩
 |o::l,k,listed,F,Z,hl,hk,inv,hB,hF,hZ,h=>by
  have h0:ops[k]? =some o:=by simpa using(hl 0 (by simp)).symm
  simp only[List.length_cons,yr,Bool.and_eq_true] at hB
  obtain⟨⟨hr,hf⟩,hB'⟩:=hB
  have hkn:k<n:=by simp only[List.length_cons] at hk;omega
  have hr':k∈Region.ready .any ops listed:=by simpa using hr
  obtain⟨S,Z',hspec,hrest⟩:=h hF hZ
  exact nk h0 hcalls hs hc hkn (fun listed' F' Z' hL j hj=>by simpa using List.all_eq_true.1 hL.1.2 j hj) l.length listed F Z Z' inv (Region.free_spec h0 hf) hr' hspec
   (qy hcalls hs hc l (k+1) _ _ _ (fun j hj=>by have:=hl (j+1) (by simp;omega);simpa [Nat.add_assoc,Nat.add_comm 1 j] using this) (by simp only[List.length_cons] at hk;omega) (inv.set hr' hkn) hB' (jm hF hspec.stable) (hspec.zst hZ) hrest)
def EN (ops:Array Oper) (n:Nat) (E:Array Bool):Bool:=
 decide (n<ops.size)&&Region.sinkB .any ops n&&jT ops n&&yr ops n E n 0 (Array.replicate ops.size false)
theorem Gj {l:Fr} {w:World} {id:Nat} {os:List Oper} (n:Nat) (ts:List Nat) (l0:List (Nat×Value)) (E:Array Bool) (Env:World→Prop) (Rl:World→World→Prop) (mo:Bool) (Pn:List PanicEntry→World→Prop) (Z:iN) (hE:fE Env Rl) (he:Env w) (hZ:cH Z) (hz:Z w) (hsub:FK l0 l) (hkb:AI (os.take n) l0=true) (hP:∀c a w,a.tmps.size=N→a.defers=D→iB l0 a→Pn c w→Q (.panic c) a w) (hcalls:mo=true→fW .any os.toArray=true) (hm:P.follows .mixedOrders=true) (hB:EN os.toArray n E=true)
 (h:fg P os.toArray Env Rl mo Pn N (os.take n) (qT l) Z (fun F Z=>∀w',Env w'→Z w'→gU F w' ts (fun l'=>fu P os.toArray Q N D (fun _=>True) (os.length-n) E l' w'))):cW P Q N D l w (.region id os.toArray true):=fun a ha=>by
 have hdr:aM w {w with drawn:=w.drawn+1}:=⟨rfl,rfl,rfl,Nat.le_refl _,fun _ _=>rfl⟩
 simp only[EN,Bool.and_eq_true,decide_eq_true_eq] at hB
 obtain⟨⟨⟨hn,hs⟩,hc⟩,hlex⟩:=hB
 have hn':n<os.length:=by simpa using hn
 have htl:(os.take n).length=n:=by simp;omega
 have inv0:HeadInv .any os.toArray n (Array.replicate os.toArray.size false):=
  ⟨by simp,fun j oj _ hl=>(by rw[getD_replicate_false] at hl;cases hl),fun t _ ht=>getD_in (by simpa using ht) (getD_replicate_false _ _)⟩
 have H:=qy (E:=E) hcalls hs hc (os.take n) 0 _ _ _ (fun j hj=>by
  have hj':j<n:=by rw[htl] at hj;exact hj
  simp[hj']) (by simpa using htl) inv0 (by rw[htl];exact hlex) (fF l) hZ h
 refine wp_region_any hm ?_
 have hd0:=ru hkb
 have:=eU (D:=D) (Q':=Q) (l0:=l0) (g:=os.length-n) hE hP (fun i o hin ho=>hd0 o (List.mem_of_getElem? (i:=i) (by rw[List.getElem?_take_of_lt hin];simpa using ho))) (fun listed F Z hL hF hZ a' w' he hsat hz=>by
  obtain⟨⟨rfl,_⟩,hK⟩:=hL
  obtain⟨l',hl',hk⟩:=gU.use hsat (hK w' he hz)
  exact yq _ _ _ _ (wpAny_of_held _ _ _ _ (hk a' hl'))) _ _ _ _ H (fF l) hZ a {w with drawn:=w.drawn+1} (hE.keep _ _ he (hE.ext _ _ hdr)) (ED ha) (iB.of hsub ha) (hZ _ _ hz hdr)
 rw[htl,show n+(os.length-n)=os.toArray.size by simp;omega] at this
 exact this
end
end Go.Rl
namespace Go.Rl
open Go.RowKit
theorem aO.split {X:Nat→Prop} {w:World}:∀{l m:List Dt} {cs:List Value},aO X w (l++m) cs→∃a b,cs=a++b∧aO X w l a∧aO X w m b
 |[],m,cs,h=>⟨[],cs,rfl,aO.nil,h⟩
 |d::l,m,cs,h=>by
  simp only[List.cons_append,aO] at h
  obtain⟨c1,c2,rfl,h1,h2⟩:=h
  obtain⟨a,b,rfl,h3,h4⟩:=aO.split (l:=l) h2
  exact⟨c1++a,b,by simp,aO.cons h1 h3,h4⟩
theorem fw.stLast {α:Type} {P:Program} {t e:TypeId} {sz base:Nat} {f:α→Dt} {l:List α} {z:α} {v:Value} {w:World} (ht:P.underlying t=some (.slice e)) (hi:(P.info? e).map (·.size)=some sz) (h0:0<sz) (hs:∀a,(f a).size=sz)
 (h:fw e sz base f (l++[z]) v w) {a:α} {cs:List Value} (h1:aI cs) (ha:cK (fun k=>k<base∨v.ownBlock=some k) w (f a) cs):
 ∃p,(∀w':World,(Instr.indexAt t v (I (l.length:Int))).run P w'=.ok p w')∧∃w1,(Instr.storeAt e p (.agg cs.toArray)).run P w=.ok () w1∧Mv (fun k=>v.ownBlock=some k) w w1∧fw e sz base f (l++[a]) v w1:=by
 obtain⟨n,xs,hO,hX⟩:=h
 rw[List.map_append] at hX
 obtain⟨x1,x2,rfl,hx1,hx2⟩:=aO.split hX
 have hl1:x1.length=l.length*sz:=by rw[hx1.len,df (sz:=sz) (by simp[hs]),List.length_map]
 have hl2:x2.length=sz:=by
  have:=hx2.len
  rw[this,df (sz:=sz) (by simp[hs])]
  simp
 have hcl:cs.length=sz:=by rw[ha.len,hs]
 have hn:n=l.length+1:=Nat.eq_of_mul_eq_mul_right h0 (by
  have:=hO.1
  rw[List.length_append,hl1,hl2] at this
  rw[Nat.add_mul,Nat.one_mul]
  exact this.symm)
 subst hn
 rcases hO.2 with⟨_,h3⟩|⟨g,cap,cur,rfl,hb,hg,hle,hm,hsz,htk⟩
 ·omega
 have hcap:(l.length+1)*sz≤cap*sz:=Nat.mul_le_mul_right _ hle
 have hbnd:l.length*sz+sz≤cur.size:=by rw[hsz];rw[Nat.add_mul,Nat.one_mul] at hcap;exact hcap
 have htk1:cur.toList.take (l.length*sz)=x1:=by
  have h2:=congrArg (List.take (l.length*sz)) htk
  rw[List.take_take,Nat.min_eq_left (by rw[Nat.add_mul];omega),List.take_left' hl1] at h2
  exact h2
 have md:Mv (fun k=>(Value.slice (some ⟨g,0,none⟩) (l.length+1) cap).ownBlock=some k) w (w.setRow g (cur.toList.take (l.length*sz)++cs++cur.toList.drop (l.length*sz+cs.length)).toArray):=Mv.of_grown (bo w g _) fun k hk _=>by rw[←hk];rfl
 refine⟨.pointer (some ⟨g,l.length*sz,none⟩),fun w'=>?_,w.setRow g (cur.toList.take (l.length*sz)++cs++cur.toList.drop (l.length*sz+cs.length)).toArray,?_,md,l.length+1,x1++cs,⟨?_,.inr ⟨g,cap,_,rfl,hb,setRow_heap w g _ _ e (0,0) hg,hle,hm,?_,?_⟩⟩,?_⟩
 ·obtain⟨ti,hi',hs'⟩:=Option.map_eq_some_iff.1 hi
  simp[Instr.indexAt,I,asIntOf,run_underlying ht,sizeOf,typeInfo,hi',hs',Addr.add]
  omega
 ·have hr:=run_storeCells_at (P:=P) g (l.length*sz) e cs 0 cur w hg (by omega) h1
  simp only[Instr.storeAt,Instr.sureAddr,storeVar,Sem.run_bind,Sem.run_pure,Result.andThen_ok,dE hi]
  rw[if_neg (by simp[Value.cells,hcl])]
  simpa [Value.cells] using hr
 ·rw[List.length_append,hl1,hcl,Nat.add_mul,Nat.one_mul]
 ·have hlen:cur.toList.length=cur.size:=by simp
  simp only[List.size_toArray,List.length_append,List.length_take,List.length_drop,hlen]
  omega
 ·rw[htk1,List.append_assoc,←List.append_assoc]
  exact List.take_left' (by rw[List.length_append,hl1,hcl,Nat.add_mul,Nat.one_mul])
 ·rw[List.map_append]
  exact aO.append (aO.mv (md.weak fun _ h _=>.inr h) (fun _ h=>.inl h) hx1) (by simpa using aO.cons (ha.mv (md.weak fun _ h _=>.inr h) fun _ h=>.inl h) aO.nil)
end Go.Rl
namespace Go.Rl
open Go.RowKit Go.Proofs
theorem yt:az Tryz.prog 54:=⟨_,Tryz.func54,by kernel_rfl,rfl⟩
def EO (w:World) (b:List UInt8) (r:Value) (w':World):Prop:=
 aM w w'∧∃(vt:Value),vt.oneCell'=true∧((r=.tuple #[vt,I 0]∧∃ts:List ba,nN b=some (ts,[])∧cK (fun k=>k<w.heap.size) w' (.sl (ts.map bK)) [vt])∨(r=.tuple #[vt,I 5]∧∀ts',nN b≠some (ts',[])))
theorem sW {fn:Func} {b:List UInt8} {a:Act} {w wS:World} {g2 g3:Nat} {v2 v3:Value} {X:Nat→Prop} {c:List PanicEntry} {w0:World} (hr:fn.results= #[.cell 2 23,.cell 3 29]) (hd:a.defers=[ri g2 g3]) (h2:a.tmps.getD 2 undef=.pointer (some ⟨g2,0,none⟩)) (h3:a.tmps.getD 3 undef=.pointer (some ⟨g3,0,none⟩))
 (hne:g2≠g3) (l2:w0.heap.size≤g2) (l3:w0.heap.size≤g3) (k2:cd g2 23 [v2] wS) (k3:cd g3 29 [v3] wS) (hX2:¬X g2) (hX3:¬X g3) (hX:∀k,X k→w0.heap.size≤k) (e0:aM w0 wS) (hw:Mv X wS w) (hc:tE c) (hno:nN b=none):
 Leaves Tryz.prog fn a.tmps (bF (EO w0 b)) a.defers (.panicking c) w:=by
 rw[hd]
 refine CS hc hne hr h2 h3 (hw.blk k2 hX2) (hw.blk k3 hX3) fun w' hm=>⟨_,rfl,Mv.ext_from hm (Mv.ext_from hw e0 hX) ?_,.slice none 0 0,rfl,.inr ⟨rfl,fun ts' e=>by rw[hno] at e;cases e⟩⟩
 rintro k (rfl|rfl)<;>assumption
theorem aZ.sto {g g2:Nat} {st:Option (List UInt8)} {w w':World} {T:TypeId} {u:Value} (h:aZ g st w) (hb:cd g2 T [u] w) (hu:∃A n c,u=.slice A n c) (hw:w.grownBy w' (some g2)) (hne:g≠g2):aZ g st w':=by
 obtain⟨A,n,c,h1,h2,h3⟩:=h
 refine⟨A,n,c,cd.other h1 hw (fun e=>hne (Option.some.inj e)),Sl.keep h2 hb (fun j x hx=>?_) hw,h3⟩
 obtain⟨y,_,rfl⟩:=List.mem_map.1 hx
 obtain⟨A',n',c',rfl⟩:=hu
 intro e
 have:=List.mem_of_getElem? (l:=[Value.slice A' n' c']) (by simpa using e)
 simp[U8] at this
theorem z7 {fn:Func} {a:Act} {R:Ending→World→Prop} {w:World} {g2 g3:Nat} {v2 v3:Value} (hr:fn.results= #[.cell 2 23,.cell 3 29]) (hd:a.defers=[ri g2 g3]) (h2:a.tmps.getD 2 undef=.pointer (some ⟨g2,0,none⟩)) (h3:a.tmps.getD 3 undef=.pointer (some ⟨g3,0,none⟩))
 (k2:cd g2 23 [v2] w) (k3:cd g3 29 [v3] w) (h:R (.returned (.tuple #[v2,v3])) w):Leaves Tryz.prog fn a.tmps R a.defers .returning w:=by
 rw[hd]
 exact CR hr h2 h3 k2 k3 h
theorem yu {w:World} {b:List UInt8} {v:Value} (hv:cm b v w) (hl:b.length≤549755813888):
 Calls Tryz.prog 54 #[v] w (bF (EO w b)):=by
 refine Hx (vs:=[v]) Tryz.func54 Jg Jg Jg ?_
 obtain⟨N,s1,qU,hN,cU⟩:=vW (some b)
 have hb:dD (some b):=fun l e=>by cases e;exact hl
 have fres:(Tryz.f54).results= #[.cell 2 23,.cell 3 29]:=rfl
 refine af (aa ?_)
 obtain⟨g2,w2,hr2,l2,x2,k2⟩:=bf (P:=Tryz.prog) (w:=w) (t:=23) (z:=.slice none 0 0) (l:=[.slice none 0 0]) (by kernel_rfl) rfl
 refine bh Jg hr2 ?_
 obtain⟨g3,w3,hr3,l3,x3,k3⟩:=bf (P:=Tryz.prog) (w:=w2) (t:=29) (z:=I 0) (l:=[I 0]) (by kernel_rfl) rfl
 refine bh Jg hr3 ?_
 have e3:=x2.trans x3
 have lt2:=k2.lt
 have lt3:=k3.lt
 have sz2:=x2.size
 have hne:g2≠g3:=by omega
 have lw2:w.heap.size≤g2:=l2
 have lw3:w.heap.size≤g3:=by omega
 refine ag (ac (af (aa ?_)))
 refine nr (us:=[]) (vs:=[.pointer (some ⟨g2,0,none⟩),.pointer (some ⟨g3,0,none⟩)]) Jg Jg Jg ?_
 refine Gg Jg ?_
 refine ag (ac (af (aa (ae Jg Jg (an xH Jg Jg ((xJ (hv.ext e3) (by omega))) ?_)))))
 rintro v8 w8 ⟨x8,g,lg,rfl,hr8⟩
 refine bm (vs:=[(0,.pointer (some ⟨g,0,none⟩))]) (r:=.agg #[.pointer (some ⟨g,0,none⟩)]) Jg Jg (run_build _ _ _ _ (by kernel_rfl)) ?_
 obtain⟨g4,w4,hr4,l4,x4,k4⟩:=bf (P:=Tryz.prog) (w:=w8) (t:=172) (z:=.agg #[.pointer none]) (l:=[.pointer none]) (by kernel_rfl) rfl
 obtain⟨w5,s5,q5,k5⟩:=k4.stS (P:=Tryz.prog) (t:=172) (m:=[.pointer (some ⟨g,0,none⟩)]) rfl (by kernel_rfl) (aI.cons rfl aI.nil)
 have x5:aM w8 w5:=aM.of_new x4 q5 l4
 have e5:=(e3.trans x8).trans x5
 have sz3:=e3.size
 have sz8:=x8.size
 have sz5:=x5.size
 have hgl:g<w8.heap.size:=aZ.lt hr8
 have lt5:=k5.lt
 have k25:=(((k2.ext x3).ext x8).ext x5)
 have k35:=((k3.ext x8).ext x5)
 have hr5:=hr8.ext x5
 have nX2:¬RX g g2:=fun h=>by have:g2=g:=h;omega
 have nX3:¬RX g g3:=fun h=>by have:g3=g:=h;omega
 have nX4:¬RX g g4:=fun h=>by have:g4=g:=h;omega
 have hgw:∀k,RX g k→w.heap.size≤k:=fun k hk=>by have:k=g:=hk;omega
 refine bh Jg hr4 ?_
 refine ar Jg Jg s5 ?_
 refine ag (ac (af (af (aa ?_))))
 refine ah Jg Jg (aE (o:=0) IY Jg (by kernel_rfl) Jg) ?_
 refine am Jg Jg (ak I1 Jg k5.k0) ?_
 refine an gw Jg Jg ((cU hr5)) ?_
 rintro v12 w12 ⟨g12,rfl,hr12⟩
 have m12:=hr5.rdT.kp g12
 have m12:Mv (RX g) w5 w12:=Mv.of_grown g12 fun k hk _=>(Option.some.inj hk).symm
 have hl1:dD s1:=qU.atM jz.le hb
 refine aj rfl rfl (aS) (aj rfl rfl (aT) (i6 lm rfl rfl ((ln (n:=UInt64.ofNat N) (s:=s1))) (fun c a w1 ha hp=>by obtain⟨rfl,hp2,hp3⟩:=hp;exact sW fres ha.defers (ha.at_ 2 _ rfl) (ha.at_ 3 _ rfl) hne lw2 lw3 k25 k35 nX2 nX3 hgw e5 m12 hp2 (jh (f:=eB) (done:=[]) qU (by rw[hp3];rfl))) ?_))
 rintro v15 _ ⟨rfl,rfl,hs1⟩
 obtain⟨l1,rfl⟩:=jM hs1
 refine ab Jg Jg (ag (ac (ax ?_)))
 refine gM (fun(k:Nat) (v2:Value) (l:List UInt8) (ts:List ba)=>[(2,.pointer (some ⟨g2,0,none⟩)),(3,.pointer (some ⟨g3,0,none⟩)),(4,.pointer (some ⟨g4,0,none⟩)),(5,bj (UInt64.ofNat k))]) (fun(k:Nat) (v2:Value) (l:List UInt8) (ts:List ba) w'=>Mv (fun k=>RX g k∨k=g2) w5 w'∧aZ g (some l) w'∧cd g2 23 [v2] w'∧fw 83 9 w5.heap.size bK ts v2 w'∧k<18446744073709551616∧(some l1).bind (cG eB N)=(some l).bind (fun l=>(cG eB k l).map fun p=>(ts++p.1,p.2))∧l.length+ts.length≤549755813888) (fun(k:Nat) (v2:Value) (l:List UInt8) (ts:List ba)=>k) (N) (.slice none 0 0) (l1) ([]) ⟨rfl,rfl,rfl,rfl,trivial⟩ ⟨m12.weak fun _ hk _=>.inl hk,hr12,m12.blk k25 nX2,fw.nil _,hN,im,by have:=hl1 l1 rfl;simpa using this⟩ ?_
 rintro k v2 l ts wL ⟨mL,hrL,kL,oL,hk,hR,hql⟩
 refine af (af ?_)
 have hkn:(UInt64.ofNat k).toNat=k:=by rw[UInt64.toNat_ofNat'];omega
 have szL:=mL.size
 have k3L:=mL.blk k35 (by
  rintro(h|h)
  ·exact nX3 h
  ·exact hne h.symm)
 have k4L:=mL.blk k5 (by
  rintro(h|h)
  ·exact nX4 h
  ·omega)
 have hvo:v2.oneCell'=true:=by obtain⟨_,_,_,rfl⟩:=oL.isS;rfl
 have eL:aM w wL:=Mv.ext_from mL e5 (by
  rintro j (h|h)
  ·exact hgw j h
  ·omega)
 rcases Nat.eq_zero_or_pos k with h0|h0
 rotate_left
 ·refine aa (ae Jg Jg (ai (v:=bj 0) Jg Jg Jg (cf (UInt64.lt_iff_toNat_lt.2 (by rw[hkn];exact h0)) ck) (ag (ac (bB Jg (aq (ac ?_)))))))
  refine af (ax ?_)
  obtain⟨k',rfl⟩:∃k',k=k'+1:=⟨k-1,by omega⟩
  obtain⟨nd,s6,qN⟩:=vX (some l)
  have hll:dD (some l):=fun l' e=>by cases e;omega
  have hgL:g<wL.heap.size:=by omega
  have hE:(some l).bind eB=none→nN b=none:=fun h=>ji qU hR h
  have hX5:∀j,RX g j→j<w5.heap.size:=fun j hj=>by have:j=g:=hj;omega
  refine Gj 5 [2,3,4,5,20,22,23,24] [(2,.pointer (some ⟨g2,0,none⟩)),(3,.pointer (some ⟨g3,0,none⟩))] #[true,true,true,true,true,false,false,false,false] (Mv (RX g) wL) (Mv (RX g)) true (fun c w'=>Mv (RX g) wL w'∧tE c∧nN b=none) (aZ g (some l)) (fE.mv _ _) (Mv.refl _ _) aZ.stableZ hrL ⟨rfl,rfl,trivial⟩ (by kernel_rfl) (fun c a w1 _ hd hk hp=>sW fres hd (hk (2,_) (by simp)) (hk (3,_) (by simp)) hne lw2 lw3 kL k3L nX2 nX3 hgw eL hp.1 hp.2.1 hp.2.2) (fun _=>by kernel_rfl) (by kernel_rfl) (by kernel_rfl) ?_
  refine aD Jg Jg (fun w' hw=>ak IS Jg ((hw.blk kL nX2).k0)) ?_
  refine aD Jg Jg (fun w' hw=>(hw.blk k4L nX4).ld IY Jg (by kernel_rfl)) ?_
  refine dw (S:=vY wL.heap.size nd) (Z':=fun w=>aZ g s6 w∧s6≠none) nT rfl (vY.stable hgL) (gC aZ.stableZ) rfl (fun w hw hz=>by rintro _ rfl;exact ndM hw hw.size (z4 l.length hz hll (fun l' e=>by cases e;exact Nat.le_refl _)) qN hE) ?_
  refine lI (vs:=[v2]) (r:=I ts.length) Jg Jg (fun w' hw=>bT (f:=bK) IS ((oL.mv hw hX5).rpx bD (by omega)).rp) ?_
  refine fL (S:=jL wL.heap.size 9 bK [.mk [] tJ [] false []]) (jL.stable hgL) Jg (fun w' hw=>by
   rintro _ rfl
   exact EH (cs:=[.slice none 0 0,I 0,I 0,B false,.slice none 0 0,.slice none 0 0,.slice none 0 0,B false,.slice none 0 0]) IS kq rfl (by omega) (by omega) hw.size (aI.cons rfl (aI.cons rfl (aI.cons rfl (aI.cons rfl (aI.cons rfl (aI.cons rfl (aI.cons rfl (aI.cons rfl (aI.cons rfl aI.nil))))))))) (fA kt lj kt kt) (bD _)) ?_
  refine bG ?_
  intro wg xg zg
  rintro _ rfl
  rintro _ rfl
  rintro _ rfl
  rintro _ rfl
  rintro _ hq20
  obtain rfl:=Eq.symm hq20
  intro vg22 b22
  rintro _ rfl
  intro vg24 b24
  obtain⟨hr6,hs6⟩:=zg
  obtain⟨l6,rfl⟩:=jM hs6
  obtain⟨cs,rfl,h1cs,hcs⟩:=b22
  obtain⟨zs,hzs,hzo,h1z,hza⟩:=b24
  have oG:=oL.mv xg hX5
  have own2:∀j,v2.ownBlock=some j→w5.heap.size≤j∧j<wL.heap.size:=oL.lt
  have hlN:=mS l _ l6 qN
  obtain⟨v25,w25,hr25,o25,g25⟩:=oG.app (t:=23) (ty:=23) IS kq rfl (by omega) (by omega) hzs h1z ((aO.one hza).weak fun j hj=>.inl (by
   rcases hj with hj|hj
   ·omega
   ·exact(own2 j hj).2)) bD (by omega) (Nat.le_trans szL xg.size)
  have m25:Mv (fun k=>v2.ownBlock=some k) wg w25:=Mv.of_grown g25.grown fun k hk _=>hk
  have own25:∀j,v25.ownBlock=some j→w5.heap.size≤j∧(j<wL.heap.size∨wg.heap.size≤j):=fun j hj=>⟨(o25.lt j hj).1,by
   rcases g25.own with h|h
   ·rw[h] at hj;exact .inl (own2 j hj).2
   ·exact .inr (h j hj)⟩
  have hc25:cK (fun k=>k<w5.heap.size∨v25.ownBlock=some k) w25 (bK nd) cs:=hcs.mv (m25.weak fun j hj _=>(own2 j hj).2) fun j hj=>by
   rcases hj with hj|hj
   ·exact .inl (by omega)
   ·exact(own25 j hj).2
  have mB:Mv (fun k=>RX g k∨k=g2) w5 w25:=(mL.trans xg fun _ hj _=>.inl hj).trans m25 fun j hj hlt=>by have:=(own2 j hj).1;omega
  have k25':=m25.blk (xg.blk kL nX2) (fun h=>by have:=(own2 g2 h).1;omega)
  have hr25':aZ g (some l6) w25:=hr6.mv m25 fun j hj=>by have:=(own2 j hj).1;omega
  have hsz:(Tryz.prog.info? 83).map (·.size)=some 9:=by kernel_rfl
  obtain⟨p,hp,w26,s26,m26,o26⟩:=o25.stLast IS hsz (by omega) bD h1cs hc25
  have hv25:v25.oneCell'=true:=by obtain⟨_,_,_,rfl⟩:=o25.isS;rfl
  obtain⟨w27,s27,q27,k27⟩:=k25'.stC (P:=Tryz.prog) (t:=23) (i:=0) (v:=v25) (by kernel_rfl) hv25 (by simp)
  have m27:Mv (fun k=>k=g2) w25 w27:=Mv.of_grown q27 fun k hk _=>(Option.some.inj hk).symm
  have k26:=m26.blk k25' (fun h=>by have:=(own25 g2 h).1;omega)
  obtain⟨w28,s28,q28,k28⟩:=k26.stC (P:=Tryz.prog) (t:=23) (i:=0) (v:=v25) (by kernel_rfl) hv25 (by simp)
  have m28:Mv (fun k=>k=g2) w26 w28:=Mv.of_grown q28 fun k hk _=>(Option.some.inj hk).symm
  have o27:=o25.mv m27 fun j hj=>by omega
  obtain⟨p',hp',w29,s29,m29,o29⟩:=o27.stLast IS hsz (by omega) bD h1cs (hc25.mv (m27.weak fun j hj _=>.inl (by omega)) fun _ h=>.inl h)
  obtain rfl:p=p':=by
   have h:=(hp w25).symm.trans (hp' w25)
   injection h
  have k29:=m29.blk k27 (fun h=>by have:=(own25 g2 h).1;omega)
  have o28:=o26.mv m28 fun j hj=>by omega
  refine jx 5 (by kernel_rfl) Jg (be Jg Jg hr25 (eI trivial ?_))
  refine Eh (α:=Unit) (fun _=>[(2,.pointer (some ⟨g2,0,none⟩)),(3,.pointer (some ⟨g3,0,none⟩)),(4,.pointer (some ⟨g4,0,none⟩)),(5,bj (UInt64.ofNat (k'+1)))]) (fun _ w'=>Mv (fun k=>RX g k∨k=g2) w5 w'∧aZ g (some l6) w'∧cd g2 23 [v25] w'∧fw 83 9 w5.heap.size bK (ts++[nd]) v25 w') #[true,true,true,true,true,true,true,true,true] 0 ?_ (fun hk=>?_)
  rotate_left
  ·have A:Mv (fun k=>RX g k∨k=g2) w5 w28∧aZ g (some l6) w28∧cd g2 23 [v25] w28∧fw 83 9 w5.heap.size bK (ts++[nd]) v25 w28:=⟨((mB.trans m26 fun j hj hlt=>by have:=(own25 j hj).1;omega).trans m28 fun _ hj _=>.inr hj),(hr25'.mv m26 fun j hj=>by have:=(own25 j hj).1;omega).sto k26 oL.isS q28 (by omega),k28,o28⟩
   have B':Mv (fun k=>RX g k∨k=g2) w5 w29∧aZ g (some l6) w29∧cd g2 23 [v25] w29∧fw 83 9 w5.heap.size bK (ts++[nd]) v25 w29:=⟨((mB.trans m27 fun _ hj _=>.inr hj).trans m29 fun j hj hlt=>by have:=(own25 j hj).1;omega),(hr25'.sto k25' oL.isS q27 (by omega)).mv m29 fun j hj=>by have:=(own25 j hj).1;omega,k29,o29⟩
   refine Eg 6 8 (by kernel_rfl) Jg Jg (aB Jg Jg Jg (hp _) (eI trivial ?_)) (ar Jg Jg s27 (eI trivial ?_))
   ·refine Eg 7 8 (by kernel_rfl) Jg Jg (ar Jg Jg s26 (eI trivial ?_)) (ar Jg Jg s27 (eI trivial ?_))
    ·refine jx 8 (by kernel_rfl) Jg (ar Jg Jg s28 (eI trivial ?_))
     exact hk _ _ ⟨(),⟨rfl,rfl,rfl,rfl,trivial⟩,A⟩
    ·refine jx 7 (by kernel_rfl) Jg (ar Jg Jg s29 (eI trivial ?_))
     exact hk _ _ ⟨(),⟨rfl,rfl,rfl,rfl,trivial⟩,B'⟩
   ·refine jx 6 (by kernel_rfl) Jg (aB Jg Jg Jg (hp _) (eI trivial ?_))
    refine jx 7 (by kernel_rfl) Jg (ar Jg Jg s29 (eI trivial ?_))
    exact hk _ _ ⟨(),⟨rfl,rfl,rfl,rfl,trivial⟩,B'⟩
  rintro _ w30 ⟨m30,hr30,k30,o30⟩
  refine vE (by kernel_rfl) ?_
  refine aJ (ac (aa (ae Jg Jg ?_)))
  have ek:UInt64.ofNat (k'+1)-1=UInt64.ofNat k':=by
   refine UInt64.toNat_inj.1 ?_
   rw[UInt64.toNat_sub_of_le _ _ (UInt64.le_iff_toNat_le.2 (by rw[hkn];show 1≤_;omega)),hkn,UInt64.toNat_ofNat',show(1:UInt64).toNat=1 from rfl]
   omega
  refine ai (v:=bj 1) (r:=bj (UInt64.ofNat k')) Jg Jg Jg ((by rw[←ek];exact dq)) (ab Jg Jg (ag ?_))
  refine fa (k') (v25) (l6) (ts++[nd]) ⟨rfl,rfl,rfl,rfl,trivial⟩ ⟨m30,hr30,k30,o30,by omega,jg hR qN,by simp;omega⟩ (by omega)
 ·refine aa (ae Jg Jg (ai (v:=bj 0) Jg Jg Jg (bZ (fun hh=>by have:=UInt64.lt_iff_toNat_lt.1 hh;rw[hkn,h0] at this;exact absurd this (by decide)) ck) ?_))
  refine ag (ac (cq Jg (aW (aA (aA (aU (ac (af (bA 4 [2,3,27,30] (by kernel_rfl) (by kernel_rfl) ?_)))))))))
  refine aD Jg Jg (fun w' hw=>ak IS Jg (kL.ext hw).k0) (aL Jg Jg (fun w' hw=>aE (o:=0) IY Jg (by kernel_rfl) Jg) ?_)
  refine aD rfl rfl (fun w' hw=>ak I1 rfl (k4L.ext hw).k0) (cl (S:=Is (I (if some l=some [] then 0 else 5))) Cz (bu.is _) rfl (fun w hw=>by rintro _ rfl;exact bF.mono (CC (hrL.ext hw)) fun v w' h=>⟨h.2▸aM.refl _,h.1⟩) ?_)
  refine bG ?_
  intro wg7 xg7
  rintro _ rfl
  rintro _ rfl
  rintro _ hq27
  obtain rfl:=Eq.symm hq27
  rintro _ rfl
  obtain⟨wa,sa,qa,ka⟩:=(kL.ext xg7).stC (P:=Tryz.prog) (t:=23) (i:=0) (v:=v2) (by kernel_rfl) hvo (by simp)
  obtain⟨wb,sb,qb,kb⟩:=((k3L.ext xg7).other qa (fun e=>hne (Option.some.inj e).symm)).stC (P:=Tryz.prog) (t:=29) (i:=0) (v:=I (if some l=some [] then 0 else 5)) (by kernel_rfl) rfl (by simp)
  have kab:=ka.other qb (fun e=>hne (Option.some.inj e))
  have mab:Mv (fun k=>k=g2∨k=g3) wg7 wb:=(Mv.of_grown qa fun k hk _=>.inl (Option.some.inj hk).symm:Mv (fun k=>k=g2∨k=g3) wg7 wa).trans (Mv.of_grown qb fun k hk _=>(Option.some.inj hk).symm:Mv (fun k=>k=g3) wa wb) fun _ hj _=>.inr hj
  refine ar Jg Jg sa ?_
  refine ar Jg Jg sb ?_
  refine ag (ac (au ?_))
  refine fun a ha=>z7 fres ha.defers (ha.at_ 2 _ rfl) (ha.at_ 3 _ rfl) kab kb ⟨_,rfl,Mv.ext_from mab (eL.trans xg7) (by rintro j (rfl|rfl)<;>assumption),v2,hvo,?_⟩
  subst h0
  have hd:nN b=some (ts,l):=ip qU hR
  by_cases hnil:l=[]
  ·subst hnil
   exact .inl ⟨rfl,ts,hd,(((oL.rpx bD (by omega)).ext xg7).mv (mab.weak (Y:=fun k=>k<w5.heap.size) fun j hj _=>by rcases hj with rfl|rfl<;>(show _<w5.heap.size;omega)) fun _ h=>.inl h).weak fun j hj=>.inl (by show j<w5.heap.size;omega)⟩
  ·rw[if_neg (fun e=>hnil (Option.some.inj e))]
   exact .inr ⟨rfl,fun ts' e=>by rw[hd] at e;simp only[Option.some.injEq,Prod.mk.injEq] at e;exact hnil e.2⟩
end Go.Rl
namespace Go.Rl
def vZ (d:f9):Bool:=decide (d.kd=0)&&decide (d.ix=0)&&decide (d.at_=z0Q)
def lY (n:ba):Bool:=decide (1≤n.split.kd)&&decide (n.split.kd≤4)&& !n.empty&&decide (n.pf.length=0)
def jD:Nat→ba→Bool×Nat
 |0,_=>(false,0)
 |l+1,n=>match n.kids with
  |[]=>(vZ n.split,1)
  |[x,y]=>if lY n=true then
    (if (jD l x).1=false∨65536<(jD l x).2 then(false,0) else((jD l y).1,1+(jD l x).2+(jD l y).2))
   else(false,0)
  |_=>(false,0)
def jU:Nat→Int→ba→Int×Bool
 |d,most,n=>if most<1 then(0,false) else match n.kids with
  |[]=>(1,vZ n.split)
  |[x,y]=>if lY n=true then(match d with
    |0=>(0,false)
    |d+1=>if (jU d (most-1) x).2=false then(0,false) else(1+(jU d (most-1) x).1+(jU d (most-1-(jU d (most-1) x).1) y).1,(jU d (most-1-(jU d (most-1) x).1) y).2))
   else(0,false)
  |_=>(0,false)
def EP:Nat→ba→Bool
 |d,n=>match n.kids with
  |[]=>vZ n.split
  |[x,y]=>lY n&&(match d with
    |0=>false
    |d+1=>EP d x&&EP d y)
  |_=>false
def pR:Nat→ba→Nat
 |d,n=>match n.kids with
  |[x,y]=>(match d with
    |0=>1
    |d+1=>1+pR d x+pR d y)
  |_=>1
theorem yv (d:Nat) (n:ba):1≤pR d n:=by
 unfold pR
 split
 ·split<;>omega
 ·omega
theorem wh:∀(d:Nat) (n:ba),(jD (d+1) n).1=true→EP d n=true∧(jD (d+1) n).2=pR d n
 |d,n,h=>by
  unfold jD at h⊢
  unfold EP pR
  split at h
  ·rename_i e
   simp only[e]
   exact⟨h,trivial⟩
  ·rename_i x y e
   simp only[e]
   split at h
   ·rename_i hi
    rw[if_pos hi]
    split at h
    ·cases h
    ·rename_i hx
     rw[if_neg hx]
     simp only[not_or,Bool.not_eq_false,Nat.not_lt] at hx
     cases d with
     |zero=>simp[jD] at hx
     |succ d=>
      obtain⟨a1,a2⟩:=wh d x hx.1
      obtain⟨b1,b2⟩:=wh d y h
      exact⟨by simp[hi,a1,b1],by simp[a2,b2]⟩
   ·cases h
  ·cases h
theorem z8:∀(d:Nat) (n:ba),EP d n=true→pR d n≤65536→(jD (d+1) n).1=true
 |d,n,h,hc=>by
  unfold EP at h
  unfold pR at hc
  unfold jD
  split at h
  ·exact h
  ·rename_i x y e
   simp only[e,Bool.and_eq_true] at h hc⊢
   rw[if_pos h.1]
   cases d with
   |zero=>simp at h
   |succ d=>
    simp only[Bool.and_eq_true] at h hc
    have a:=z8 d x h.2.1 (by omega)
    have b:=z8 d y h.2.2 (by omega)
    have a2:=(wh d x a).2
    rw[if_neg (by rw[a2,a];simp;omega)]
    exact b
  ·cases h
theorem wi:∀(d:Nat) (most:Int) (n:ba),(jU d most n).2=(EP d n&&decide ((pR d n:Int)≤most))∧((jU d most n).2=true→(jU d most n).1=pR d n)
 |d,most,n=>by
  have hp:=yv d n
  unfold jU
  by_cases hm:most<1
  ·rw[if_pos hm,decide_eq_false (by omega)]
   simp
  ·rw[if_neg hm]
   unfold EP pR
   generalize n.kids=ks
   rcases ks with _|⟨x,_|⟨y,_|⟨z,t⟩⟩⟩
   ·refine⟨?_,fun _=>rfl⟩
    show vZ n.split=(vZ n.split&&decide (((1:Nat):Int)≤most))
    rw[decide_eq_true (by omega),Bool.and_true]
   ·simp
   ·by_cases hi:lY n=true
    ·show(if lY n=true then _ else _:Int×Bool).2=(lY n&&_&&_)∧_
     rw[if_pos hi,hi]
     cases d with
     |zero=>simp
     |succ d=>
      obtain⟨a1,a2⟩:=wi d (most-1) x
      simp only[Bool.true_and]
      by_cases hx:(jU d (most-1) x).2=false
      ·rw[if_pos hx]
       rw[hx] at a1
       refine⟨?_,fun h=>by cases h⟩
       have hpy:=yv d y
       cases hk:EP d x with
       |false=>simp
       |true=>
        rw[hk,Bool.true_and] at a1
        have:=of_decide_eq_false a1.symm
        rw[decide_eq_false (by omega)]
        simp
      ·rw[if_neg hx]
       have hx':(jU d (most-1) x).2=true:=by simpa using hx
       have e1:=a2 hx'
       rw[hx'] at a1
       simp only[Bool.true_eq,Bool.and_eq_true,decide_eq_true_eq] at a1
       rw[e1]
       obtain⟨b1,b2⟩:=wi d (most-1-(pR d x:Int)) y
       refine⟨?_,fun h=>?_⟩
       ·rw[b1,a1.1,Bool.true_and]
        congr 1
        exact decide_eq_decide.2 (by omega)
       ·rw[b2 (by simpa using h)]
        simp only[if_true]
        omega
    ·have hi':lY n=false:=by simpa using hi
     simp[hi']
   ·simp
def gk (n:ba):Bool:=EP 2048 n&&decide (pR 2048 n≤65536)
theorem EQ (n:ba):(jU 2048 65536 n).2=gk n:=by
 rw[(wi 2048 65536 n).1]
 unfold gk
 congr 1
 exact decide_eq_decide.2 (by omega)
theorem ER (n:ba):((jD 2049 n).1&&decide ((jD 2049 n).2≤65536))=gk n:=by
 unfold gk
 cases h:(jD 2049 n).1 with
 |true=>
  obtain⟨a,b⟩:=wh 2048 n h
  rw[a,b]
 |false=>
  rw[Bool.false_and]
  cases hk:EP 2048 n with
  |false=>rfl
  |true=>
   rw[Bool.true_and]
   refine(decide_eq_false fun hc=>?_).symm
   have:=z8 2048 n hk hc
   rw[h] at this
   cases this
end Go.Rl
namespace Go.Rl
open Go.RowKit Go.Proofs
end Go.Rl
namespace Go.Rl
open Go.RowKit Go.Proofs
theorem yw:az Tryz.prog 194:=⟨_,Tryz.func194,by kernel_rfl,rfl⟩
theorem yx {w:World} {l m:List UInt32} {v u:Value} (hv:bt l v w) (hu:bt m u w):
 Calls Tryz.prog 194 #[v,u] w (bF fun r w'=>aM w w'∧r=B (decide (l=m))):=by
 refine enter (vs:=[v,u]) Tryz.func194 Jg Jg Jg ?_
 have hll:=hv.len
 refine af (aa (ab Jg Jg (ag (ac (af (af (aa (ae Jg Jg (aP Jg Jg (bp IJ hv) (ae Jg Jg (aP Jg Jg (bp IJ hu) ?_)))))))))))
 refine ai Jg Jg Jg (bS) (ag (ac ?_))
 refine bi Jg (fun h10=>?_) (fun h10=>?_)
 ·have hne:l≠m:=fun h=>h10 (by rw[h])
  refine af (aa (ab Jg Jg (ag (ac (au (av (aF Jg Jg ?_)))))))
  exact⟨_,rfl,aM.refl _,congrArg B (decide_eq_false hne).symm⟩
 ·have hlen:l.length=m.length:=by omega
  refine aq (ac (af (af (aa (ae Jg Jg (aP Jg Jg (bp IJ hv) (ae Jg Jg (ag (ac (ax ?_))))))))))
  refine bV (α:=Nat) (fun x=>[(0,v),(1,u),(12,I (l.length:Int)),(13,I (x:Int))]) (fun x w'=>aM w w'∧x≤l.length∧l.take x=m.take x) (fun x=>l.length-x) (0) ⟨rfl,rfl,rfl,rfl,trivial⟩ ⟨aM.refl _,by omega,rfl⟩ ?_
  rintro i w4 ⟨e4,hi,ht⟩
  refine af (aa (ai Jg Jg Jg (aX) (ag (ac (af ?_)))))
  refine bi Jg (fun h14=>?_) (fun h14=>?_)
  ·refine aq (ac (af (ax (af (aa (ae Jg Jg (ab Jg Jg (ag (ac (af (bA 8 [0,1,12,13,19,23] (by kernel_rfl) (by kernel_rfl) ?_)))))))))))
   refine ap Jg Jg (ap Jg Jg ?_)
   obtain⟨a18,p18,q18⟩:=cL IJ (hv.ext e4) (i:=i) (by omega) .i64
   refine ay Jg Jg Jg (fun w _=>p18 w) (aD Jg Jg (fun w hw=>ak IK Jg (hw.cell_some q18)) (ap Jg Jg (ap Jg Jg ?_)))
   obtain⟨a22,p22,q22⟩:=cL IJ (hu.ext e4) (i:=i) (by omega) .i64
   refine ay Jg Jg Jg (fun w _=>p22 w) (aD Jg Jg (fun w hw=>ak IK Jg (hw.cell_some q22)) (bG ?_))
   intro wg6 xg6
   rintro _ hq0
   obtain rfl:=Eq.symm hq0
   rintro _ hq1
   obtain rfl:=Eq.symm hq1
   rintro _ rfl
   rintro _ rfl
   rintro _ rfl
   rintro _ rfl
   refine ai Jg Jg Jg (j3) (ag (ac ?_))
   refine bi Jg (fun h24=>?_) (fun h24=>?_)
   ·have hne:l≠m:=fun h=>h24 (by subst h;rfl)
    refine af (aa (ab Jg Jg (ag (ac (au (bc (av (av (bc (av (aF Jg Jg ?_)))))))))))
    exact⟨_,rfl,(e4.trans xg6),congrArg B (decide_eq_false hne).symm⟩
   ·have he:l[i]'(by omega)=m[i]'(by omega):=Classical.byContradiction fun h=>h24 h
    refine aq (aJ (ac (aa (ai (r:=I ((i+1:Nat):Int)) Jg Jg Jg (by have e:((i+1:Nat):Int)=(i:Int)+1:=(by omega);rw[e];exact aK (by omega) (by omega)) ?_))))
    refine ae Jg Jg (ag ?_)
    refine bM (i+1) ⟨rfl,rfl,rfl,rfl,trivial⟩ ⟨(e4.trans xg6),by omega,by rw[List.take_succ_eq_append_getElem (by omega),List.take_succ_eq_append_getElem (by omega),ht,he]⟩ (by omega)
  ·refine aW (aA (aA (aU (ac (af (aa (ab Jg Jg (ag (ac (au (aF Jg Jg ?_)))))))))))
   exact⟨_,rfl,e4,by
    rw[List.take_of_length_le (by omega),List.take_of_length_le (by omega)] at ht
    rw[decide_eq_true ht];rfl⟩
end Go.Rl
namespace Go.Rl
open Go.RowKit Go.Proofs
theorem wj:az Tryz.prog 180:=⟨_,Tryz.func180,by kernel_rfl,rfl⟩
theorem wm:az Tryz.prog 150:=⟨_,Tryz.func150,by kernel_rfl,rfl⟩
theorem jV:az Tryz.prog 114:=⟨_,Tryz.func114,by kernel_rfl,rfl⟩
theorem sX:az Tryz.prog 55:=⟨_,Tryz.func55,by kernel_rfl,rfl⟩
theorem uD:az Tryz.prog 117:=⟨_,Tryz.func117,by kernel_rfl,rfl⟩
theorem nW:az Tryz.prog 104:=⟨_,Tryz.func104,by kernel_rfl,rfl⟩
theorem yy:az Tryz.prog 50:=⟨_,Tryz.func50,by kernel_rfl,rfl⟩
theorem wo {w:World} {a b:f5} {x y p q:Value} (ha:bt a.2.1 x w) (ha':bt a.2.2 y w) (hb:bt b.2.1 p w) (hb':bt b.2.2 q w):
 Calls Tryz.prog 180 #[.agg #[B a.1,x,y],.agg #[B b.1,p,q]] w (bF fun r w'=>aM w w'∧r=B (decide (a=b))):=by
 refine enter (vs:=[.agg #[B a.1,x,y],.agg #[B b.1,p,q]]) Tryz.func180 Jg Jg Jg ?_
 refine af (aa ?_)
 obtain⟨g2,w2,hr2,l2,x2,k2⟩:=dB (P:=Tryz.prog) (w:=w) (T:=55) (cs:=[B a.1,x,y])
 refine cY Jg Jg hr2 ?_
 obtain⟨g3,w3,hr3,l3,x3,k3⟩:=dB (P:=Tryz.prog) (w:=w2) (T:=55) (cs:=[B b.1,p,q])
 refine cY Jg Jg hr3 (ab Jg Jg (ag (ac (af (aa (ah Jg Jg (aE (o:=0) IQ Jg (by kernel_rfl) Jg) ?_))))))
 refine am Jg Jg (ak IU Jg (x3.cell_some (k2.cell (i:=0) Jg))) (ah Jg Jg (aE (o:=0) IQ Jg (by kernel_rfl) Jg) ?_)
 refine am Jg Jg (ak IU Jg (k3.cell (i:=0) Jg)) (ai Jg Jg Jg (vF IU) (ae Jg Jg ?_))
 refine cJ (fun h10=>?_) (fun h10=>?_)
 ·refine al Jg (ah Jg Jg (aE (o:=1) IQ Jg (by kernel_rfl) Jg) (al Jg (am Jg Jg (ak IJ Jg (x3.cell_some (k2.cell (i:=1) Jg))) ?_)))
  refine al Jg (ah Jg Jg (aE (o:=1) IQ Jg (by kernel_rfl) Jg) (al Jg (am Jg Jg (ak IJ Jg (k3.cell (i:=1) Jg)) ?_)))
  refine al Jg (an yw Jg Jg (yx (ha.ext (x2.trans x3)) (hb.ext (x2.trans x3))) ?_)
  rintro v15 w15 ⟨x15,rfl⟩
  refine aw Jg Jg Jg (ae Jg Jg ?_)
  refine cJ (fun h17=>?_) (fun h17=>?_)
  ·refine al Jg (ah Jg Jg (aE (o:=2) IQ Jg (by kernel_rfl) Jg) (al Jg (am Jg Jg (ak IJ Jg ((x3.trans x15).cell_some (k2.cell (i:=2) Jg))) ?_)))
   refine al Jg (ah Jg Jg (aE (o:=2) IQ Jg (by kernel_rfl) Jg) (al Jg (am Jg Jg (ak IJ Jg (x15.cell_some (k3.cell (i:=2) Jg))) ?_)))
   refine al Jg (an yw Jg Jg (yx (ha'.ext ((x2.trans x3).trans x15)) (hb'.ext ((x2.trans x3).trans x15))) ?_)
   rintro v22 w22 ⟨x22,rfl⟩
   refine aw Jg Jg Jg (ab Jg Jg (ag (ac (au (aF Jg Jg ?_)))))
   exact⟨_,rfl,(((x2.trans x3).trans x15).trans x22),by
    first
    |exact congrArg B (decide_eq_decide.2 ⟨fun h=>Prod.ext h10 (Prod.ext h17 h),fun h=>by rw[h]⟩)
    |exact congrArg B (decide_eq_false fun h=>h17 (by rw[h])).symm
    |exact congrArg B (decide_eq_false fun h=>h10 (by rw[h])).symm⟩
  ·refine ao Jg Jg Jg (ao Jg Jg Jg (ao Jg Jg Jg (ao Jg Jg Jg (ao Jg Jg Jg (aC Jg Jg Jg (ab Jg Jg (ag (ac (au (aF Jg Jg ?_))))))))))
   exact⟨_,rfl,((x2.trans x3).trans x15),by
    first
    |exact congrArg B (decide_eq_decide.2 ⟨fun h=>Prod.ext h10 (Prod.ext h17 h),fun h=>by rw[h]⟩)
    |exact congrArg B (decide_eq_false fun h=>h17 (by rw[h])).symm
    |exact congrArg B (decide_eq_false fun h=>h10 (by rw[h])).symm⟩
 ·refine ao Jg Jg Jg (ao Jg Jg Jg (ao Jg Jg Jg (ao Jg Jg Jg (ao Jg Jg Jg (aC Jg Jg Jg (ae Jg Jg (ao Jg Jg Jg (ao Jg Jg Jg (ao Jg Jg Jg ?_)))))))))
  refine ao Jg Jg Jg (ao Jg Jg Jg (aC Jg Jg Jg (ab Jg Jg (ag (ac (au (aF Jg Jg ?_)))))))
  exact⟨_,rfl,(x2.trans x3),by
   first
   |exact congrArg B (decide_eq_decide.2 ⟨fun h=>Prod.ext h10 (Prod.ext h17 h),fun h=>by rw[h]⟩)
   |exact congrArg B (decide_eq_false fun h=>h17 (by rw[h])).symm
   |exact congrArg B (decide_eq_false fun h=>h10 (by rw[h])).symm⟩
theorem z9 {w:World} {a b:f5} {x y p q:Value} (ha:bt a.2.1 x w) (ha':bt a.2.2 y w) (hb:bt b.2.1 p w) (hb':bt b.2.2 q w):
 Calls Tryz.prog 134 #[.agg #[B a.1,x,y],.agg #[B b.1,p,q]] w (bF fun r w'=>aM w w'∧r=B (decide (a=b))):=by
 refine bF.mono (sm (a:=a.1) (b:=b.1) ⟨x,y,rfl,ha,ha'⟩ ⟨p,q,rfl,hb,hb'⟩) fun r w' h=>⟨h.1,h.2.trans (congrArg B (decide_eq_decide.2 ⟨fun h=>Prod.ext h.1 (Prod.ext h.2.1 h.2.2),fun h=>by rw[h];exact⟨rfl,rfl,rfl⟩⟩))⟩
deriving instance DecidableEq for f9
theorem f9.ext' {a b:f9} (h1:a.kd=b.kd) (h2:a.ix=b.ix) (h3:a.at_=b.at_):a=b:=by
 cases a;cases b
 simp only at h1 h2 h3
 rw[h1,h2,h3]
theorem wq {w:World} {a b:f9} {x y p q:Value} (ha:bt a.at_.2.1 x w) (ha':bt a.at_.2.2 y w) (hb:bt b.at_.2.1 p w) (hb':bt b.at_.2.2 q w):
 Calls Tryz.prog 150 #[.agg #[I a.kd,I a.ix,B a.at_.1,x,y],.agg #[I b.kd,I b.ix,B b.at_.1,p,q]] w (bF fun r w'=>aM w w'∧r=B (decide (a=b))):=by
 refine enter (vs:=[.agg #[I a.kd,I a.ix,B a.at_.1,x,y],.agg #[I b.kd,I b.ix,B b.at_.1,p,q]]) Tryz.func150 Jg Jg Jg ?_
 refine af (aa ?_)
 obtain⟨g2,w2,hr2,l2,x2,k2⟩:=dB (P:=Tryz.prog) (w:=w) (T:=80) (cs:=[I a.kd,I a.ix,B a.at_.1,x,y])
 refine cY Jg Jg hr2 ?_
 obtain⟨g3,w3,hr3,l3,x3,k3⟩:=dB (P:=Tryz.prog) (w:=w2) (T:=80) (cs:=[I b.kd,I b.ix,B b.at_.1,p,q])
 refine cY Jg Jg hr3 (ab Jg Jg (ag (ac (af (aa (ah Jg Jg (aE (o:=0) IV Jg (by kernel_rfl) Jg) ?_))))))
 refine am Jg Jg (ak IM Jg (x3.cell_some (k2.cell (i:=0) Jg))) (ah Jg Jg (aE (o:=0) IV Jg (by kernel_rfl) Jg) ?_)
 refine am Jg Jg (ak IM Jg (k3.cell (i:=0) Jg)) (ai Jg Jg Jg (aV) (ae Jg Jg ?_))
 refine cJ (fun h10=>?_) (fun h10=>?_)
 ·refine al Jg (ah Jg Jg (aE (o:=1) IV Jg (by kernel_rfl) Jg) (al Jg (am Jg Jg (ak IM Jg (x3.cell_some (k2.cell (i:=1) Jg))) ?_)))
  refine al Jg (ah Jg Jg (aE (o:=1) IV Jg (by kernel_rfl) Jg) (al Jg (am Jg Jg (ak IM Jg (k3.cell (i:=1) Jg)) ?_)))
  refine al Jg (ai Jg Jg Jg (aV) (aw Jg Jg Jg (ae Jg Jg ?_)))
  refine cJ (fun h17=>?_) (fun h17=>?_)
  ·refine al rfl (ah rfl rfl (aE (o:=2) Tryz.underlying80 rfl (by kernel_rfl) rfl) (al rfl (am rfl rfl ((k2.ext x3).ldO (ms:=[B a.at_.1,x,y]) (o:=2) (fun j v hj=>by rcases j with _|_|_|_|_|_|_|_|_|j<;>simp_all) Tryz.underlying55 rfl (by kernel_rfl)) ?_)))
   refine al rfl (ah rfl rfl (aE (o:=2) Tryz.underlying80 rfl (by kernel_rfl) rfl) (al rfl (am rfl rfl (k3.ldO (ms:=[B b.at_.1,p,q]) (o:=2) (fun j v hj=>by rcases j with _|_|_|_|_|_|_|_|_|j<;>simp_all) Tryz.underlying55 rfl (by kernel_rfl)) ?_)))
   refine al Jg (an wj Jg Jg ((wo (a:=a.at_) (b:=b.at_) (ha.ext (x2.trans x3)) (ha'.ext (x2.trans x3)) (hb.ext (x2.trans x3)) (hb'.ext (x2.trans x3)))) ?_)
   rintro v22 w22 ⟨x22,rfl⟩
   refine aw Jg Jg Jg (ab Jg Jg (ag (ac (au (aF Jg Jg ?_)))))
   exact⟨_,rfl,((x2.trans x3).trans x22),by
    first
    |exact congrArg B (decide_eq_decide.2 ⟨fun h=>f9.ext' h10 h17 h,fun h=>by rw[h]⟩)
    |exact congrArg B (decide_eq_false fun h=>h17 (by rw[h])).symm
    |exact congrArg B (decide_eq_false fun h=>h10 (by rw[h])).symm⟩
  ·refine ao Jg Jg Jg (ao Jg Jg Jg (ao Jg Jg Jg (ao Jg Jg Jg (ao Jg Jg Jg (aC Jg Jg Jg (ab Jg Jg (ag (ac (au (aF Jg Jg ?_))))))))))
   exact⟨_,rfl,(x2.trans x3),by
    first
    |exact congrArg B (decide_eq_decide.2 ⟨fun h=>f9.ext' h10 h17 h,fun h=>by rw[h]⟩)
    |exact congrArg B (decide_eq_false fun h=>h17 (by rw[h])).symm
    |exact congrArg B (decide_eq_false fun h=>h10 (by rw[h])).symm⟩
 ·refine ao Jg Jg Jg (ao Jg Jg Jg (ao Jg Jg Jg (ao Jg Jg Jg (ao Jg Jg Jg (aC Jg Jg Jg (ae Jg Jg (ao Jg Jg Jg (ao Jg Jg Jg (ao Jg Jg Jg ?_)))))))))
  refine ao Jg Jg Jg (ao Jg Jg Jg (aC Jg Jg Jg (ab Jg Jg (ag (ac (au (aF Jg Jg ?_)))))))
  exact⟨_,rfl,(x2.trans x3),by
   first
   |exact congrArg B (decide_eq_decide.2 ⟨fun h=>f9.ext' h10 h17 h,fun h=>by rw[h]⟩)
   |exact congrArg B (decide_eq_false fun h=>h17 (by rw[h])).symm
   |exact congrArg B (decide_eq_false fun h=>h10 (by rw[h])).symm⟩
theorem uE {w:World} {a b:f9} {x y p q:Value} (ha:bt a.at_.2.1 x w) (ha':bt a.at_.2.2 y w) (hb:bt b.at_.2.1 p w) (hb':bt b.at_.2.2 q w):
 Calls Tryz.prog 117 #[.agg #[I a.kd,I a.ix,B a.at_.1,x,y],.agg #[I b.kd,I b.ix,B b.at_.1,p,q]] w (bF fun r w'=>aM w w'∧r=B (decide (a=b))):=by
 refine enter (vs:=[.agg #[I a.kd,I a.ix,B a.at_.1,x,y],.agg #[I b.kd,I b.ix,B b.at_.1,p,q]]) Tryz.func117 Jg Jg Jg ?_
 refine af (aa ?_)
 obtain⟨g2,w2,hr2,l2,x2,k2⟩:=dB (P:=Tryz.prog) (w:=w) (T:=80) (cs:=[I a.kd,I a.ix,B a.at_.1,x,y])
 refine cY Jg Jg hr2 ?_
 obtain⟨g3,w3,hr3,l3,x3,k3⟩:=dB (P:=Tryz.prog) (w:=w2) (T:=80) (cs:=[I b.kd,I b.ix,B b.at_.1,p,q])
 refine cY Jg Jg hr3 (ab Jg Jg (ag (ac (af (aa (ah Jg Jg (aE (o:=0) IV Jg (by kernel_rfl) Jg) ?_))))))
 refine am Jg Jg (ak IM Jg (x3.cell_some (k2.cell (i:=0) Jg))) (ah Jg Jg (aE (o:=0) IV Jg (by kernel_rfl) Jg) ?_)
 refine am Jg Jg (ak IM Jg (k3.cell (i:=0) Jg)) (ai Jg Jg Jg (aV) (ae Jg Jg ?_))
 refine cJ (fun h10=>?_) (fun h10=>?_)
 ·refine al Jg (ah Jg Jg (aE (o:=1) IV Jg (by kernel_rfl) Jg) (al Jg (am Jg Jg (ak IM Jg (x3.cell_some (k2.cell (i:=1) Jg))) ?_)))
  refine al Jg (ah Jg Jg (aE (o:=1) IV Jg (by kernel_rfl) Jg) (al Jg (am Jg Jg (ak IM Jg (k3.cell (i:=1) Jg)) ?_)))
  refine al Jg (ai Jg Jg Jg (aV) (aw Jg Jg Jg (ae Jg Jg ?_)))
  refine cJ (fun h17=>?_) (fun h17=>?_)
  ·refine al rfl (ah rfl rfl (aE (o:=2) Tryz.underlying80 rfl (by kernel_rfl) rfl) (al rfl (am rfl rfl ((k2.ext x3).ldO (ms:=[B a.at_.1,x,y]) (o:=2) (fun j v hj=>by rcases j with _|_|_|_|_|_|_|_|_|j<;>simp_all) Tryz.underlying55 rfl (by kernel_rfl)) ?_)))
   refine al rfl (ah rfl rfl (aE (o:=2) Tryz.underlying80 rfl (by kernel_rfl) rfl) (al rfl (am rfl rfl (k3.ldO (ms:=[B b.at_.1,p,q]) (o:=2) (fun j v hj=>by rcases j with _|_|_|_|_|_|_|_|_|j<;>simp_all) Tryz.underlying55 rfl (by kernel_rfl)) ?_)))
   refine al Jg (an la Jg Jg ((z9 (a:=a.at_) (b:=b.at_) (ha.ext (x2.trans x3)) (ha'.ext (x2.trans x3)) (hb.ext (x2.trans x3)) (hb'.ext (x2.trans x3)))) ?_)
   rintro v22 w22 ⟨x22,rfl⟩
   refine aw Jg Jg Jg (ab Jg Jg (ag (ac (au (aF Jg Jg ?_)))))
   exact⟨_,rfl,((x2.trans x3).trans x22),by
    first
    |exact congrArg B (decide_eq_decide.2 ⟨fun h=>f9.ext' h10 h17 h,fun h=>by rw[h]⟩)
    |exact congrArg B (decide_eq_false fun h=>h17 (by rw[h])).symm
    |exact congrArg B (decide_eq_false fun h=>h10 (by rw[h])).symm⟩
  ·refine ao Jg Jg Jg (ao Jg Jg Jg (ao Jg Jg Jg (ao Jg Jg Jg (ao Jg Jg Jg (aC Jg Jg Jg (ab Jg Jg (ag (ac (au (aF Jg Jg ?_))))))))))
   exact⟨_,rfl,(x2.trans x3),by
    first
    |exact congrArg B (decide_eq_decide.2 ⟨fun h=>f9.ext' h10 h17 h,fun h=>by rw[h]⟩)
    |exact congrArg B (decide_eq_false fun h=>h17 (by rw[h])).symm
    |exact congrArg B (decide_eq_false fun h=>h10 (by rw[h])).symm⟩
 ·refine ao Jg Jg Jg (ao Jg Jg Jg (ao Jg Jg Jg (ao Jg Jg Jg (ao Jg Jg Jg (aC Jg Jg Jg (ae Jg Jg (ao Jg Jg Jg (ao Jg Jg Jg (ao Jg Jg Jg ?_)))))))))
  refine ao Jg Jg Jg (ao Jg Jg Jg (aC Jg Jg Jg (ab Jg Jg (ag (ac (au (aF Jg Jg ?_)))))))
  exact⟨_,rfl,(x2.trans x3),by
   first
   |exact congrArg B (decide_eq_decide.2 ⟨fun h=>f9.ext' h10 h17 h,fun h=>by rw[h]⟩)
   |exact congrArg B (decide_eq_false fun h=>h17 (by rw[h])).symm
   |exact congrArg B (decide_eq_false fun h=>h10 (by rw[h])).symm⟩
end Go.Rl
namespace Go.Rl
open Go.RowKit Go.Proofs
section
variable {w:World} {cs:List Value}
theorem ku {m:eE} (h:Rp w (dI m) cs):∃x y,cs=[I m.kd,I m.ix,I m.lo,I m.hi,B m.co.1,x,y]∧bt m.co.2.1 x w∧bt m.co.2.2 y w:=by
 simp only[dI,sy,bL,Rp.eq_5,Rp.eq_1] at h
 obtain⟨_,_,rfl,⟨_,_,rfl,rfl,_,_,rfl,rfl,_,_,rfl,rfl,_,_,rfl,rfl,rfl⟩,_,_,rfl,h1,rfl⟩:=h
 obtain⟨x,y,rfl,hx,hy⟩:=lU h1
 exact⟨x,y,rfl,hx,hy⟩
theorem ES {d:f9} (h:Rp w (pJ d) cs):∃x y,cs=[I d.kd,I d.ix,B d.at_.1,x,y]∧bt d.at_.2.1 x w∧bt d.at_.2.2 y w:=by
 simp only[pJ,sy,bL,Rp.eq_5,Rp.eq_1] at h
 obtain⟨_,_,rfl,rfl,_,_,rfl,rfl,_,_,rfl,h1,rfl⟩:=h
 obtain⟨x,y,rfl,hx,hy⟩:=lU h1
 exact⟨x,y,rfl,hx,hy⟩
theorem sY {l:fQ} (h:Rp w (fm l) cs):∃x y v,cs=[I l.un,B l.up,B l.va.1,x,y,v]∧bt l.va.2.1 x w∧bt l.va.2.2 y w∧dV dI l.pf v w:=by
 simp only[fm,sy,bL,Rp.eq_5,Rp.eq_1,Rp.eq_2] at h
 obtain⟨_,_,rfl,rfl,_,_,rfl,rfl,_,_,rfl,h1,_,_,rfl,h2,rfl⟩:=h
 obtain⟨x,y,rfl,hx,hy⟩:=lU h1
 obtain⟨v,rfl,hv,_⟩:=Rp.isSlice h2
 exact⟨x,y,v,rfl,hx,hy,hv⟩
theorem ee {n:ba} (h:Rp w (bK n) cs):∃vl x y vk vp,cs=[vl,I n.split.kd,I n.split.ix,B n.split.at_.1,x,y,vk,B n.empty,vp]∧dV fm n.lems vl w∧bt n.split.at_.2.1 x w∧bt n.split.at_.2.2 y w∧dV bK n.kids vk w∧dV dI n.pf vp w:=by
 cases n with
 |mk lems sp ks em pf=>
  simp only[bK,bL,Rp.eq_5,Rp.eq_2,nL] at h
  obtain⟨_,_,rfl,h1,_,_,rfl,h2,_,_,rfl,h3,_,_,rfl,rfl,_,_,rfl,h4,rfl⟩:=h
  obtain⟨vl,rfl,hl,_⟩:=Rp.isSlice h1
  obtain⟨x,y,rfl,hx,hy⟩:=ES h2
  obtain⟨vk,rfl,hk,_⟩:=Rp.isSlice h3
  obtain⟨vp,rfl,hp,_⟩:=Rp.isSlice h4
  exact⟨vl,x,y,vk,vp,rfl,hl,hx,hy,hk,hp⟩
theorem Bn (d:f9):vZ d=decide (d=tJ):=by
 cases d with
 |mk a b c=>
  unfold vZ tJ
  simp only[f9.mk.injEq]
  by_cases h1:a=0<;>by_cases h2:b=0<;>by_cases h3:c=z0Q<;>simp[h1,h2,h3]
end
end Go.Rl
namespace Go.Rl
open Go.RowKit Go.Proofs
theorem wr {L:Nat} {n x y:ba} (hk:n.kids=[x,y]) (hi:lY n=true):jD (L+1) n=if (jD L x).1=false∨65536<(jD L x).2 then(false,0) else((jD L y).1,1+(jD L x).2+(jD L y).2):=by
 rw[jD];simp only[hk,if_pos hi]
theorem jN {L:Nat} {n:ba} (h0:n.kids.length≠0) (h:n.kids.length≠2∨lY n=false):jD (L+1) n=(false,0):=by
 rw[jD]
 generalize n.kids=ks at h0 h
 rcases ks with _|⟨x,_|⟨y,_|⟨z,t⟩⟩⟩
 ·exact absurd rfl h0
 ·rfl
 ·rcases h with h|h
  ·exact absurd rfl h
  ·simp[h]
 ·rfl
theorem lZ {P:Program} {w:World} {s:TypeId} {fs:Array Field} {f:Field} {n g o b:Nat} (hs:P.underlying s=some (.struct fs)) (hf:fs[n]? =some f) (hk:(P.cellsOf f.type==0)=false) (ho:f.offset=o):
 (Instr.fieldAt s (.pointer (some ⟨g,b,none⟩)) n).run P w=.ok (.pointer (some ⟨g,b+o,none⟩)) w:=by
 have hk':P.cellsOf f.type≠0:=by simpa using hk
 obtain⟨k,hk1⟩:∃k,(P.info? f.type).map (·.size)=some k:=by
  cases hi:(P.info? f.type).map (·.size) with
  |none=>exact absurd (by simp[Program.cellsOf,hi]) hk'
  |some k=>exact⟨k,rfl⟩
 have hk0:k≠0:=by
  intro h
  apply hk'
  simp[Program.cellsOf,hk1,h]
 rw[cz hs hf hk1 hk0,ho,ph]
theorem ET {L:Nat} {n:ba} (h0:n.kids.length=0):jD (L+1) n=(vZ n.split,1):=by
 rw[jD]
 have:n.kids=[]:=List.eq_nil_of_length_eq_zero h0
 simp only[this]
theorem fI {n:ba} (h:¬(1≤n.split.kd∧n.split.kd≤4∧n.empty=false∧n.pf.length=0)):lY n=false:=by
 unfold lY
 by_cases h1:1≤n.split.kd<;>by_cases h2:n.split.kd≤4<;>by_cases h3:n.pf.length=0<;>cases h4:n.empty<;>simp_all
theorem Bo {n:ba} (h1:1≤n.split.kd) (h2:n.split.kd≤4) (h3:n.empty=false) (h4:n.pf.length=0):lY n=true:=by
 unfold lY
 simp[h1,h2,h3,h4]
theorem Aa:∀(L:Nat) (n:ba),(jD L n).2≤65537*L
 |0,_=>Nat.le_refl _
 |L+1,n=>by
  rw[jD]
  generalize n.kids=ks
  rcases ks with _|⟨x,_|⟨y,_|⟨z,t⟩⟩⟩
  ·show 1≤_;omega
  ·show 0≤_;omega
  ·have:=Aa L y
   by_cases hi:lY n=true
   ·simp only[if_pos hi]
    split
    ·show 0≤_;omega
    ·rename_i h
     simp only[not_or,Nat.not_lt] at h
     have:=h.2
     show 1+(jD L x).2+(jD L y).2≤_
     omega
   ·simp only[if_neg hi]
    show 0≤_;omega
  ·show 0≤_;omega
theorem sZ {ks:List ba} (h:ks.length=2):ks=[ks[0]'(by omega),ks[1]'(by omega)]:=by
 rcases ks with _|⟨x,_|⟨y,_|⟨z,t⟩⟩⟩
 ·simp at h
 ·simp at h
 ·rfl
 ·simp at h
theorem s9 {w:World} {n:ba} {L d:Nat} {vl x y vk vp:Value} (ih:∀L',L=L'+1→∀{w:World} {n:ba} {vl x y vk vp:Value},dV fm n.lems vl w→bt n.split.at_.2.1 x w→bt n.split.at_.2.2 y w→dV bK n.kids vk w→dV dI n.pf vp w→
 Calls Tryz.prog 104 #[.agg #[vl,I n.split.kd,I n.split.ix,B n.split.at_.1,x,y,vk,B n.empty,vp],I ((d+1:Nat):Int)] w (bF fun r w'=>aM w w'∧r=.tuple #[B (jD L' n).1,I ((jD L' n).2:Int)]))
 (hl:dV fm n.lems vl w) (hx:bt n.split.at_.2.1 x w) (hy:bt n.split.at_.2.2 y w) (hk:dV bK n.kids vk w) (hp:dV dI n.pf vp w) (hd:d+L=2049):
 Calls Tryz.prog 104 #[.agg #[vl,I n.split.kd,I n.split.ix,B n.split.at_.1,x,y,vk,B n.empty,vp],I (d:Int)] w (bF fun r w'=>aM w w'∧r=.tuple #[B (jD L n).1,I ((jD L n).2:Int)]):=by
 refine enter (vs:=[.agg #[vl,I n.split.kd,I n.split.ix,B n.split.at_.1,x,y,vk,B n.empty,vp],I (d:Int)]) Tryz.func104 Jg Jg Jg ?_
 refine af (aa ?_)
 obtain⟨g2,w2,hr2,l2,x2,k2⟩:=dB (P:=Tryz.prog) (w:=w) (T:=83) (cs:=[vl,I n.split.kd,I n.split.ix,B n.split.at_.1,x,y,vk,B n.empty,vp])
 refine cY Jg Jg hr2 (ab Jg Jg (ab Jg Jg (ag (ac (af (af (aa (ae Jg Jg (ai Jg Jg Jg (ce) (ag (ac ?_)))))))))))
 refine bi Jg (fun h11=>?_) (fun h11=>?_)
 ·obtain rfl:L=0:=by omega
  refine af (aa (ab Jg Jg (ab Jg Jg (ag (ac (au (av (aH Jg Jg Jg ?_))))))))
  exact⟨_,rfl,x2,rfl⟩
 ·obtain⟨L',rfl⟩:∃L',L=L'+1:=⟨L-1,by omega⟩
  refine aq (ac (af (af (aa (ah Jg Jg (aE (o:=6) IN Jg (by kernel_rfl) Jg) (am Jg Jg (ak IS Jg (k2.cell (i:=6) Jg)) ?_))))))
  refine aP Jg Jg (bT IS (hk.ext x2)) (ai Jg Jg Jg (aV) (ag (ac ?_)))
  refine bi Jg (fun h15=>?_) (fun h15=>?_)
  ·have h0:n.kids.length=0:=by omega
   refine af (aa (ah rfl rfl (aE (o:=1) Tryz.underlying83 rfl (by kernel_rfl) rfl) (am rfl rfl (k2.ldO (ms:=[I n.split.kd,I n.split.ix,B n.split.at_.1,x,y]) (o:=1) (fun j v hj=>by rcases j with _|_|_|_|_|_|_|_|_|j<;>simp_all) Tryz.underlying80 rfl (by kernel_rfl)) ?_)))
   refine bm (vs:=[]) (r:=.agg #[I 0,I 0,B false,.slice none 0 0,.slice none 0 0]) Jg Jg (by exact run_build _ _ _ _ (by kernel_rfl)) (an uD Jg Jg ((uE (a:=n.split) (b:=tJ) (hx.ext x2) (hy.ext x2) (Sl.nil _ _) (Sl.nil _ _))) ?_)
   rintro v19 w19 ⟨x19,rfl⟩
   refine ab Jg Jg (ab Jg Jg (ag (ac (au (av (aH Jg Jg Jg ?_))))))
   exact⟨_,rfl,(x2.trans x19),by rw[ET h0,Bn];rfl⟩
  ·have h0:n.kids.length≠0:=by omega
   refine aq (ac (af (af ?_)))
   have hl2:=hl.ext x2
   have hx2:=hx.ext x2
   have hy2:=hy.ext x2
   have hk2:=hk.ext x2
   have hp2:=hp.ext x2
   rcases hem:n.empty with _|_
   ·have kf:=k2
    rw[hem] at kf
    refine aa (ah Jg Jg (aE (o:=6) IN Jg (by kernel_rfl) Jg) (am Jg Jg (ak IS Jg (kf.cell (i:=6) Jg)) ?_))
    refine aP Jg Jg (bT IS hk2) (ai Jg Jg Jg (bS) (ae Jg Jg ?_))
    refine cJ (fun h24=>?_) (fun h24=>?_)
    ·refine ao Jg Jg Jg (ao Jg Jg Jg (ao Jg Jg Jg (ao Jg Jg Jg (aw Jg Jg Jg (ae Jg Jg (ao Jg Jg Jg (ao Jg Jg Jg (ao Jg Jg Jg (ao Jg Jg Jg ?_)))))))))
     refine aw Jg Jg Jg (ae Jg Jg (ao Jg Jg Jg (ao Jg Jg Jg (aw Jg Jg Jg (ae Jg Jg (ao Jg Jg Jg (ao Jg Jg Jg (ao Jg Jg Jg (ao Jg Jg Jg ?_)))))))))
     refine aw Jg Jg Jg (ag (ac (bB Jg (af (aa (ab Jg Jg (ab Jg Jg (ag (ac (au (av (aH Jg Jg Jg ?_))))))))))))
     exact⟨_,rfl,x2,by
      rw[jN h0 (by
       first
       |exact .inl (by omega)
       |exact .inr (fI fun⟨a1,a2,a3,a4⟩=>by
         first
         |omega
         |(rw[hem] at a3;cases a3)))]
      rfl⟩
    ·refine al Jg (ah Jg Jg (aE (o:=1) IN Jg (by kernel_rfl) Jg) (al Jg (ah Jg Jg (lZ (b:=1) (o:=0) IV Jg (by kernel_rfl) Jg) ?_)))
     refine al Jg (am Jg Jg (ak IM Jg (kf.cell (i:=1) Jg)) (al Jg (ai Jg Jg Jg (aX) (aC Jg Jg Jg (ae Jg Jg ?_)))))
     refine cJ (fun h30=>?_) (fun h30=>?_)
     ·refine ao Jg Jg Jg (ao Jg Jg Jg (ao Jg Jg Jg (ao Jg Jg Jg (aw Jg Jg Jg (ae Jg Jg (ao Jg Jg Jg (ao Jg Jg Jg (aw Jg Jg Jg (ae Jg Jg ?_)))))))))
      refine ao Jg Jg Jg (ao Jg Jg Jg (ao Jg Jg Jg (ao Jg Jg Jg (aw Jg Jg Jg (ag (ac (bB Jg (af (aa (ab Jg Jg (ab Jg Jg (ag ?_))))))))))))
      refine ac (au (av (aH Jg Jg Jg ?_)))
      exact⟨_,rfl,x2,by
       rw[jN h0 (by
        first
        |exact .inl (by omega)
        |exact .inr (fI fun⟨a1,a2,a3,a4⟩=>by
          first
          |omega
          |(rw[hem] at a3;cases a3)))]
       rfl⟩
     ·refine al Jg (ah Jg Jg (aE (o:=1) IN Jg (by kernel_rfl) Jg) (al Jg (ah Jg Jg (lZ (b:=1) (o:=0) IV Jg (by kernel_rfl) Jg) ?_)))
      refine al Jg (am Jg Jg (ak IM Jg (kf.cell (i:=1) Jg)) (al Jg (ai Jg Jg Jg (ce) (aC Jg Jg Jg (ae Jg Jg ?_)))))
      refine cJ (fun h36=>?_) (fun h36=>?_)
      ·refine ao Jg Jg Jg (ao Jg Jg Jg (aw Jg Jg Jg (ae Jg Jg (ao Jg Jg Jg (ao Jg Jg Jg (ao Jg Jg Jg (ao Jg Jg Jg (aw Jg Jg Jg (ag ?_)))))))))
       refine ac (bB Jg (af (aa (ab Jg Jg (ab Jg Jg (ag (ac (au (av (aH Jg Jg Jg ?_))))))))))
       exact⟨_,rfl,x2,by
        rw[jN h0 (by
         first
         |exact .inl (by omega)
         |exact .inr (fI fun⟨a1,a2,a3,a4⟩=>by
           first
           |omega
           |(rw[hem] at a3;cases a3)))]
        rfl⟩
      ·refine al Jg (ah Jg Jg (aE (o:=7) IN Jg (by kernel_rfl) Jg) (al Jg (am Jg Jg (ak IU Jg (kf.cell (i:=7) Jg)) ?_)))
       refine aC Jg Jg Jg (ae Jg Jg (al Jg (ah Jg Jg (aE (o:=8) IN Jg (by kernel_rfl) Jg) (al Jg (am Jg Jg (ak IW Jg (kf.cell (i:=8) Jg)) ?_)))))
       refine al Jg (aP Jg Jg (bT IW hp2) (al Jg (ai Jg Jg Jg (ce) (aC Jg Jg Jg (ag (ac ?_))))))
       refine bi Jg (fun h45=>?_) (fun h45=>?_)
       ·refine af (aa (ab Jg Jg (ab Jg Jg (ag (ac (au (av (aH Jg Jg Jg ?_))))))))
        exact⟨_,rfl,x2,by
         rw[jN h0 (by
          first
          |exact .inl (by omega)
          |exact .inr (fI fun⟨a1,a2,a3,a4⟩=>by
            first
            |omega
            |(rw[hem] at a3;cases a3)))]
         rfl⟩
       ·refine aq (ac (af ?_))
        have hk2n:n.kids.length=2:=by omega
        have hks:=sZ hk2n
        have hi:=Bo (n:=n) (by omega) (by omega) hem (by omega)
        refine aa (ah Jg Jg (aE (o:=6) IN Jg (by kernel_rfl) Jg) (am Jg Jg (ak IS Jg (kf.cell (i:=6) Jg)) ?_))
        obtain⟨a49,c49,p49,q49,h49⟩:=ey (P:=Tryz.prog) (sz:=9) IS (by kernel_rfl) bD (by omega) hk2 (i:=0) (by omega) .i64
        obtain⟨e49,he49⟩:∃e,e=n.kids[0]'(by omega):=⟨_,rfl⟩
        rw[←he49] at h49
        obtain⟨x49_0,x49_1,x49_2,x49_3,x49_4,rfl,f49_0,f49_1,f49_2,f49_3,f49_4⟩:=ee h49
        refine aB Jg Jg Jg (p49 _) (am Jg Jg (q49.ld IN Jg (by kernel_rfl)) (ae Jg Jg (ai (r:=I ((d+1:Nat):Int)) Jg Jg Jg (by have e:((d+1:Nat):Int)=(d:Int)+1:=(by omega);rw[e];exact aK (by omega) (by omega)) ?_)))
        refine an nW Jg Jg ((ih L' Jg f49_0 f49_1 f49_2 f49_3 f49_4)) ?_
        rintro v53 w53 ⟨x53,rfl⟩
        refine ae Jg Jg (aj Jg Jg (aS) (aj Jg Jg (aT) (ab Jg Jg (ab Jg Jg (ag (ac (af (af ?_))))))))
        have he:=Aa L' e49
        rcases hb:(jD L' e49).1 with _|_
        ·refine aa (ae Jg Jg (ci Jg Jg cj (ae Jg Jg (ao Jg Jg Jg (ao Jg Jg Jg (aw Jg Jg Jg (ag (ac (bB Jg (af (aa (ab Jg Jg ?_))))))))))))
         refine ab Jg Jg (ag (ac (au (av (aH Jg Jg Jg ?_)))))
         exact⟨_,rfl,(x2.trans x53),by
          rw[wr hks hi,←he49,if_pos (by first|exact .inl hb|exact .inr (by omega))]
          rfl⟩
        ·refine aa (ae Jg Jg (ci Jg Jg cj (ae Jg Jg (al Jg (ae Jg Jg (al Jg (ai Jg Jg Jg (ce) (aC Jg Jg Jg (ag (ac ?_))))))))))
         refine bi Jg (fun h61=>?_) (fun h61=>?_)
         ·refine af (aa (ab Jg Jg (ab Jg Jg (ag (ac (au (av (aH Jg Jg Jg ?_))))))))
          exact⟨_,rfl,(x2.trans x53),by
           rw[wr hks hi,←he49,if_pos (by first|exact .inl hb|exact .inr (by omega))]
           rfl⟩
         ·refine aq (ac (af (aa (ah Jg Jg (aE (o:=6) IN Jg (by kernel_rfl) Jg) (am Jg Jg (ak IS Jg (x53.cell_some (kf.cell (i:=6) Jg))) ?_)))))
          obtain⟨a65,c65,p65,q65,h65⟩:=ey (P:=Tryz.prog) (sz:=9) IS (by kernel_rfl) bD (by omega) (hk2.ext x53) (i:=1) (by omega) .i64
          obtain⟨e65,he65⟩:∃e,e=n.kids[1]'(by omega):=⟨_,rfl⟩
          rw[←he65] at h65
          obtain⟨x65_0,x65_1,x65_2,x65_3,x65_4,rfl,f65_0,f65_1,f65_2,f65_3,f65_4⟩:=ee h65
          refine aB Jg Jg Jg (p65 _) (am Jg Jg (q65.ld IN Jg (by kernel_rfl)) (ae Jg Jg (ai (r:=I ((d+1:Nat):Int)) Jg Jg Jg (by have e:((d+1:Nat):Int)=(d:Int)+1:=(by omega);rw[e];exact aK (by omega) (by omega)) ?_)))
          refine an nW Jg Jg ((ih L' Jg f65_0 f65_1 f65_2 f65_3 f65_4)) ?_
          rintro v69 w69 ⟨x69,rfl⟩
          have hf:=Aa L' e65
          refine ae Jg Jg (aj Jg Jg (aS) (aj Jg Jg (aT) (ab Jg Jg (ab Jg Jg (ag (ac (af (aa (ae Jg Jg (ae Jg Jg (ai (r:=I ((1+(jD L' e49).2:Nat):Int)) Jg Jg Jg (by have e:((1+(jD L' e49).2:Nat):Int)=1+((jD L' e49).2:Int):=(by omega);rw[e];exact aK (by omega) (by omega)) ?_)))))))))))
          refine ae Jg Jg (ai (r:=I ((((1+(jD L' e49).2:Nat))+(jD L' e65).2:Nat):Int)) Jg Jg Jg (by have e:((((1+(jD L' e49).2:Nat))+(jD L' e65).2:Nat):Int)=((1+(jD L' e49).2:Nat):Int)+((jD L' e65).2:Int):=(by omega);rw[e];exact aK (by omega) (by omega)) ?_)
          refine ab Jg Jg (ab Jg Jg (ag (ac (au (aH Jg Jg Jg ?_)))))
          exact⟨_,rfl,((x2.trans x53).trans x69),by
           rw[wr hks hi,←he49,←he65,if_neg (by rw[hb];simp;omega)]⟩
   ·have kf:=k2
    rw[hem] at kf
    refine aa (ah Jg Jg (aE (o:=6) IN Jg (by kernel_rfl) Jg) (am Jg Jg (ak IS Jg (kf.cell (i:=6) Jg)) ?_))
    refine aP Jg Jg (bT IS hk2) (ai Jg Jg Jg (bS) (ae Jg Jg ?_))
    refine cJ (fun h24=>?_) (fun h24=>?_)
    ·refine ao Jg Jg Jg (ao Jg Jg Jg (ao Jg Jg Jg (ao Jg Jg Jg (aw Jg Jg Jg (ae Jg Jg (ao Jg Jg Jg (ao Jg Jg Jg (ao Jg Jg Jg (ao Jg Jg Jg ?_)))))))))
     refine aw Jg Jg Jg (ae Jg Jg (ao Jg Jg Jg (ao Jg Jg Jg (aw Jg Jg Jg (ae Jg Jg (ao Jg Jg Jg (ao Jg Jg Jg (ao Jg Jg Jg (ao Jg Jg Jg ?_)))))))))
     refine aw Jg Jg Jg (ag (ac (bB Jg (af (aa (ab Jg Jg (ab Jg Jg (ag (ac (au (av (aH Jg Jg Jg ?_))))))))))))
     exact⟨_,rfl,x2,by
      rw[jN h0 (by
       first
       |exact .inl (by omega)
       |exact .inr (fI fun⟨a1,a2,a3,a4⟩=>by
         first
         |omega
         |(rw[hem] at a3;cases a3)))]
      rfl⟩
    ·refine al Jg (ah Jg Jg (aE (o:=1) IN Jg (by kernel_rfl) Jg) (al Jg (ah Jg Jg (lZ (b:=1) (o:=0) IV Jg (by kernel_rfl) Jg) ?_)))
     refine al Jg (am Jg Jg (ak IM Jg (kf.cell (i:=1) Jg)) (al Jg (ai Jg Jg Jg (aX) (aC Jg Jg Jg (ae Jg Jg ?_)))))
     refine cJ (fun h30=>?_) (fun h30=>?_)
     ·refine ao Jg Jg Jg (ao Jg Jg Jg (ao Jg Jg Jg (ao Jg Jg Jg (aw Jg Jg Jg (ae Jg Jg (ao Jg Jg Jg (ao Jg Jg Jg (aw Jg Jg Jg (ae Jg Jg ?_)))))))))
      refine ao Jg Jg Jg (ao Jg Jg Jg (ao Jg Jg Jg (ao Jg Jg Jg (aw Jg Jg Jg (ag (ac (bB Jg (af (aa (ab Jg Jg (ab Jg Jg (ag ?_))))))))))))
      refine ac (au (av (aH Jg Jg Jg ?_)))
      exact⟨_,rfl,x2,by
       rw[jN h0 (by
        first
        |exact .inl (by omega)
        |exact .inr (fI fun⟨a1,a2,a3,a4⟩=>by
          first
          |omega
          |(rw[hem] at a3;cases a3)))]
       rfl⟩
     ·refine al Jg (ah Jg Jg (aE (o:=1) IN Jg (by kernel_rfl) Jg) (al Jg (ah Jg Jg (lZ (b:=1) (o:=0) IV Jg (by kernel_rfl) Jg) ?_)))
      refine al Jg (am Jg Jg (ak IM Jg (kf.cell (i:=1) Jg)) (al Jg (ai Jg Jg Jg (ce) (aC Jg Jg Jg (ae Jg Jg ?_)))))
      refine cJ (fun h36=>?_) (fun h36=>?_)
      ·refine ao Jg Jg Jg (ao Jg Jg Jg (aw Jg Jg Jg (ae Jg Jg (ao Jg Jg Jg (ao Jg Jg Jg (ao Jg Jg Jg (ao Jg Jg Jg (aw Jg Jg Jg (ag ?_)))))))))
       refine ac (bB Jg (af (aa (ab Jg Jg (ab Jg Jg (ag (ac (au (av (aH Jg Jg Jg ?_))))))))))
       exact⟨_,rfl,x2,by
        rw[jN h0 (by
         first
         |exact .inl (by omega)
         |exact .inr (fI fun⟨a1,a2,a3,a4⟩=>by
           first
           |omega
           |(rw[hem] at a3;cases a3)))]
        rfl⟩
      ·refine al Jg (ah Jg Jg (aE (o:=7) IN Jg (by kernel_rfl) Jg) (al Jg (am Jg Jg (ak IU Jg (kf.cell (i:=7) Jg)) ?_)))
       refine aC Jg Jg Jg (ae Jg Jg (ao Jg Jg Jg (ao Jg Jg Jg (ao Jg Jg Jg (ao Jg Jg Jg (aw Jg Jg Jg (ag (ac (bB Jg (af (aa ?_)))))))))))
       refine ab Jg Jg (ab Jg Jg (ag (ac (au (av (aH Jg Jg Jg ?_))))))
       exact⟨_,rfl,x2,by
        rw[jN h0 (by
         first
         |exact .inl (by omega)
         |exact .inr (fI fun⟨a1,a2,a3,a4⟩=>by
           first
           |omega
           |(rw[hem] at a3;cases a3)))]
        rfl⟩
theorem ta:∀(L d:Nat),d+L=2049→∀{w:World} {n:ba} {vl x y vk vp:Value},dV fm n.lems vl w→bt n.split.at_.2.1 x w→bt n.split.at_.2.2 y w→dV bK n.kids vk w→dV dI n.pf vp w→
 Calls Tryz.prog 104 #[.agg #[vl,I n.split.kd,I n.split.ix,B n.split.at_.1,x,y,vk,B n.empty,vp],I (d:Int)] w (bF fun r w'=>aM w w'∧r=.tuple #[B (jD L n).1,I ((jD L n).2:Int)])
 |0,_,hd,_,_,_,_,_,_,_,hl,hx,hy,hk,hp=>s9 (fun _ e=>by cases e) hl hx hy hk hp hd
 |L+1,d,hd,_,_,_,_,_,_,_,hl,hx,hy,hk,hp=>s9 (fun L' e _ _ _ _ _ _ _ h1 h2 h3 h4 h5=>by
   cases e
   exact ta L (d+1) (by omega) h1 h2 h3 h4 h5) hl hx hy hk hp hd
theorem yz {w:World} {n:ba} {vl x y vk vp:Value} (hl:dV fm n.lems vl w) (hx:bt n.split.at_.2.1 x w) (hy:bt n.split.at_.2.2 y w) (hk:dV bK n.kids vk w) (hp:dV dI n.pf vp w):
 Calls Tryz.prog 50 #[.agg #[vl,I n.split.kd,I n.split.ix,B n.split.at_.1,x,y,vk,B n.empty,vp]] w (bF fun r w'=>aM w w'∧r=B (gk n)):=by
 refine enter (vs:=[.agg #[vl,I n.split.kd,I n.split.ix,B n.split.at_.1,x,y,vk,B n.empty,vp]]) Tryz.func50 Jg Jg Jg ?_
 refine af (aa ?_)
 obtain⟨g1,w1,hr1,l1,x1,k1⟩:=dB (P:=Tryz.prog) (w:=w) (T:=83) (cs:=[vl,I n.split.kd,I n.split.ix,B n.split.at_.1,x,y,vk,B n.empty,vp])
 refine cY Jg Jg hr1 (ab Jg Jg (ag (ac (af (aa (am Jg Jg (k1.ld IN Jg (by kernel_rfl)) (an nW Jg Jg ((ta 2049 0 Jg (hl.ext x1) (hx.ext x1) (hy.ext x1) (hk.ext x1) (hp.ext x1))) ?_)))))))
 rintro v7 w7 ⟨x7,rfl⟩
 refine ae Jg Jg (aj Jg Jg (aS) (aj Jg Jg (aT) (ab Jg Jg (ab Jg Jg (ag (ac (af ?_)))))))
 have hv:=ER n
 rcases hb:(jD 2049 n).1 with _|_
 ·refine aa (ae Jg Jg (ae Jg Jg (ao Jg Jg Jg (ao Jg Jg Jg (aC Jg Jg Jg (ab Jg Jg (ag (ac (au (aF Jg Jg ?_))))))))))
  exact⟨_,rfl,(x1.trans x7),by rw[←hv,hb];rfl⟩
 ·refine aa (ae Jg Jg (ae Jg Jg (al Jg (ae Jg Jg (al Jg (ai Jg Jg Jg (vd) (aw Jg Jg Jg (ab Jg Jg (ag (ac (au (aF Jg Jg ?_))))))))))))
  exact⟨_,rfl,(x1.trans x7),by rw[←hv,hb,Bool.true_and];exact congrArg B (decide_eq_decide.2 (by omega))⟩
end Go.Rl
namespace Go.Rl
open Go.RowKit Go.Proofs
theorem uF {d:Nat} {m:Int} {n:ba} (h:m<1):jU d m n=(0,false):=by rw[jU.eq_def];exact if_pos h
theorem yA {d:Nat} {m:Int} {n:ba} (h:¬m<1) (h0:n.kids.length=0):jU d m n=(1,vZ n.split):=by
 have:n.kids=[]:=List.eq_nil_of_length_eq_zero h0
 rw[jU.eq_def]
 simp only[if_neg h,this]
theorem iy {d:Nat} {m:Int} {n:ba} (hm:¬m<1) (h0:n.kids.length≠0) (h:n.kids.length≠2∨lY n=false∨d=0):jU d m n=(0,false):=by
 rw[jU.eq_def]
 simp only[if_neg hm]
 generalize n.kids=ks at h0 h
 rcases ks with _|⟨x,_|⟨y,_|⟨z,t⟩⟩⟩
 ·exact absurd rfl h0
 ·rfl
 ·rcases h with h|h|h
  ·exact absurd rfl h
  ·simp[h]
  ·subst h
   simp
 ·rfl
theorem wt {d:Nat} {m:Int} {n x y:ba} (hm:¬m<1) (hk:n.kids=[x,y]) (hi:lY n=true):jU (d+1) m n=if (jU d (m-1) x).2=false then(0,false) else(1+(jU d (m-1) x).1+(jU d (m-1-(jU d (m-1) x).1) y).1,(jU d (m-1-(jU d (m-1) x).1) y).2):=by
 rw[jU.eq_def]
 simp only[if_neg hm,hk,if_pos hi]
theorem EU {m A C:Int} (hm:¬m<1) (a:0≤A∧A≤max 0 (m-1)) (b:0≤C∧C≤max 0 (m-1-A)):0≤1+A+C∧1+A+C≤max 0 m:=by omega
theorem wu:∀(d:Nat) (m:Int) (n:ba),0≤(jU d m n).1∧(jU d m n).1≤max 0 m
 |d,m,n=>by
  by_cases hm:m<1
  ·rw[uF hm];exact⟨Int.le_refl _,by show(0:Int)≤_;omega⟩
  ·by_cases h0:n.kids.length=0
   ·rw[yA hm h0];exact⟨by show(0:Int)≤1;omega,by show(1:Int)≤_;omega⟩
   ·by_cases hb:n.kids.length≠2∨lY n=false∨d=0
    ·rw[iy hm h0 hb];exact⟨Int.le_refl _,by show(0:Int)≤_;omega⟩
    ·simp only[not_or,Bool.not_eq_false] at hb
     obtain⟨h2,hi,hd⟩:=hb
     obtain⟨d',rfl⟩:∃d',d=d'+1:=⟨d-1,by omega⟩
     rw[wt hm (sZ (by omega)) hi]
     split
     ·exact⟨Int.le_refl _,by show(0:Int)≤_;omega⟩
     ·have a:=wu d' (m-1) (n.kids[0]'(by omega))
      have b:=wu d' (m-1-(jU d' (m-1) (n.kids[0]'(by omega))).1) (n.kids[1]'(by omega))
      exact EU hm a b
theorem tb {w:World} {n:ba} {d:Nat} {m:Int} {vl x y vk vp:Value} (ih:∀d',d=d'+1→∀{w:World} {n:ba} {m:Int} {vl x y vk vp:Value},0≤m→m≤65536→dV fm n.lems vl w→bt n.split.at_.2.1 x w→bt n.split.at_.2.2 y w→dV bK n.kids vk w→dV dI n.pf vp w→
 Calls Tryz.prog 114 #[.agg #[vl,I n.split.kd,I n.split.ix,B n.split.at_.1,x,y,vk,B n.empty,vp],I (d':Int),I m] w (bF fun r w'=>aM w w'∧r=.tuple #[I (jU d' m n).1,B (jU d' m n).2]))
 (hd:d≤2048) (hm0:0≤m) (hm1:m≤65536) (hl:dV fm n.lems vl w) (hx:bt n.split.at_.2.1 x w) (hy:bt n.split.at_.2.2 y w) (hk:dV bK n.kids vk w) (hp:dV dI n.pf vp w):
 Calls Tryz.prog 114 #[.agg #[vl,I n.split.kd,I n.split.ix,B n.split.at_.1,x,y,vk,B n.empty,vp],I (d:Int),I m] w (bF fun r w'=>aM w w'∧r=.tuple #[I (jU d m n).1,B (jU d m n).2]):=by
 refine enter (vs:=[.agg #[vl,I n.split.kd,I n.split.ix,B n.split.at_.1,x,y,vk,B n.empty,vp],I (d:Int),I m]) Tryz.func114 Jg Jg Jg ?_
 have hl2:=hl
 refine af (aa ?_)
 obtain⟨g3,w3,hr3,l3,x3,k3⟩:=dB (P:=Tryz.prog) (w:=w) (T:=83) (cs:=[vl,I n.split.kd,I n.split.ix,B n.split.at_.1,x,y,vk,B n.empty,vp])
 refine cY Jg Jg hr3 (ab Jg Jg (ab Jg Jg (ag (ac (af (af (aa (ae Jg Jg (ai Jg Jg Jg (aX) (ag (ac ?_)))))))))))
 refine bi Jg (fun h12=>?_) (fun h12=>?_)
 ·have hm:m<1:=h12
  refine af (aa (ab Jg Jg (ab Jg Jg (ag (ac (au (av (aH Jg Jg Jg ?_))))))))
  exact⟨_,rfl,x3,by rw[uF hm]<;>rfl⟩
 ·have hm:¬m<1:=h12
  refine aq (ac (af (af (aa (ah Jg Jg (aE (o:=6) IN Jg (by kernel_rfl) Jg) (am Jg Jg (ak IS Jg (k3.cell (i:=6) Jg)) ?_))))))
  refine aP Jg Jg (bT IS (hk.ext x3)) (ai Jg Jg Jg (aV) (ag (ac ?_)))
  refine bi Jg (fun h16=>?_) (fun h16=>?_)
  ·have h0:n.kids.length=0:=by omega
   refine af (aa (ah rfl rfl (aE (o:=1) Tryz.underlying83 rfl (by kernel_rfl) rfl) (am rfl rfl (k3.ldO (ms:=[I n.split.kd,I n.split.ix,B n.split.at_.1,x,y]) (o:=1) (fun j v hj=>by rcases j with _|_|_|_|_|_|_|_|_|j<;>simp_all) Tryz.underlying80 rfl (by kernel_rfl)) ?_)))
   refine bm (vs:=[]) (r:=.agg #[I 0,I 0,B false,.slice none 0 0,.slice none 0 0]) Jg Jg (by exact run_build _ _ _ _ (by kernel_rfl)) (an wm Jg Jg ((wq (a:=n.split) (b:=tJ) (hx.ext x3) (hy.ext x3) (Sl.nil _ _) (Sl.nil _ _))) ?_)
   rintro v20 w20 ⟨x20,rfl⟩
   refine ab Jg Jg (ab Jg Jg (ag (ac (au (av (aH Jg Jg Jg ?_))))))
   exact⟨_,rfl,(x3.trans x20),by rw[yA hm h0,Bn];rfl⟩
  ·have h0:n.kids.length≠0:=by omega
   refine aq (ac (af (af ?_)))
   have hl2:=hl.ext x3
   have hx2:=hx.ext x3
   have hy2:=hy.ext x3
   have hk2:=hk.ext x3
   have hp2:=hp.ext x3
   rcases hem:n.empty with _|_
   ·have kf:=k3
    rw[hem] at kf
    refine aa (ah Jg Jg (aE (o:=6) IN Jg (by kernel_rfl) Jg) (am Jg Jg (ak IS Jg (kf.cell (i:=6) Jg)) ?_))
    refine aP Jg Jg (bT IS hk2) (ai Jg Jg Jg (bS) (ae Jg Jg ?_))
    refine cJ (fun h25=>?_) (fun h25=>?_)
    ·refine ao Jg Jg Jg (ao Jg Jg Jg (ao Jg Jg Jg (ao Jg Jg Jg (aw Jg Jg Jg (ae Jg Jg (ao Jg Jg Jg (ao Jg Jg Jg (ao Jg Jg Jg (ao Jg Jg Jg ?_)))))))))
     refine aw Jg Jg Jg (ae Jg Jg (ao Jg Jg Jg (ao Jg Jg Jg (aw Jg Jg Jg (ae Jg Jg (ao Jg Jg Jg (ao Jg Jg Jg (ao Jg Jg Jg (ao Jg Jg Jg ?_)))))))))
     refine aw Jg Jg Jg (ae Jg Jg (ao Jg Jg Jg (ao Jg Jg Jg (aw Jg Jg Jg (ag (ac (bB Jg (af (aa (ab Jg Jg (ab Jg Jg ?_)))))))))))
     refine ag (ac (au (av (aH Jg Jg Jg ?_))))
     exact⟨_,rfl,x3,by
      rw[iy hm h0 (by
       first
       |exact .inl (by omega)
       |exact .inr (.inr (by omega))
       |exact .inr (.inl (fI fun⟨a1,a2,a3,a4⟩=>by
         first
         |omega
         |(rw[hem] at a3;cases a3))))]<;>rfl⟩
    ·refine al Jg (ah Jg Jg (aE (o:=1) IN Jg (by kernel_rfl) Jg) (al Jg (ah Jg Jg (lZ (b:=1) (o:=0) IV Jg (by kernel_rfl) Jg) ?_)))
     refine al Jg (am Jg Jg (ak IM Jg (kf.cell (i:=1) Jg)) (al Jg (ai Jg Jg Jg (aX) (aC Jg Jg Jg (ae Jg Jg ?_)))))
     refine cJ (fun h31=>?_) (fun h31=>?_)
     ·refine ao Jg Jg Jg (ao Jg Jg Jg (ao Jg Jg Jg (ao Jg Jg Jg (aw Jg Jg Jg (ae Jg Jg (ao Jg Jg Jg (ao Jg Jg Jg (aw Jg Jg Jg (ae Jg Jg ?_)))))))))
      refine ao Jg Jg Jg (ao Jg Jg Jg (ao Jg Jg Jg (ao Jg Jg Jg (aw Jg Jg Jg (ae Jg Jg (ao Jg Jg Jg (ao Jg Jg Jg (aw Jg Jg Jg (ag ?_)))))))))
      refine ac (bB Jg (af (aa (ab Jg Jg (ab Jg Jg (ag (ac (au (av (aH Jg Jg Jg ?_))))))))))
      exact⟨_,rfl,x3,by
       rw[iy hm h0 (by
        first
        |exact .inl (by omega)
        |exact .inr (.inr (by omega))
        |exact .inr (.inl (fI fun⟨a1,a2,a3,a4⟩=>by
          first
          |omega
          |(rw[hem] at a3;cases a3))))]<;>rfl⟩
     ·refine al Jg (ah Jg Jg (aE (o:=1) IN Jg (by kernel_rfl) Jg) (al Jg (ah Jg Jg (lZ (b:=1) (o:=0) IV Jg (by kernel_rfl) Jg) ?_)))
      refine al Jg (am Jg Jg (ak IM Jg (kf.cell (i:=1) Jg)) (al Jg (ai Jg Jg Jg (ce) (aC Jg Jg Jg (ae Jg Jg ?_)))))
      refine cJ (fun h37=>?_) (fun h37=>?_)
      ·refine ao Jg Jg Jg (ao Jg Jg Jg (aw Jg Jg Jg (ae Jg Jg (ao Jg Jg Jg (ao Jg Jg Jg (ao Jg Jg Jg (ao Jg Jg Jg (aw Jg Jg Jg (ae Jg Jg ?_)))))))))
       refine ao Jg Jg Jg (ao Jg Jg Jg (aw Jg Jg Jg (ag (ac (bB Jg (af (aa (ab Jg Jg (ab Jg Jg (ag (ac (au (av (aH Jg Jg Jg ?_))))))))))))))
       exact⟨_,rfl,x3,by
        rw[iy hm h0 (by
         first
         |exact .inl (by omega)
         |exact .inr (.inr (by omega))
         |exact .inr (.inl (fI fun⟨a1,a2,a3,a4⟩=>by
           first
           |omega
           |(rw[hem] at a3;cases a3))))]<;>rfl⟩
      ·refine al Jg (ah Jg Jg (aE (o:=7) IN Jg (by kernel_rfl) Jg) (al Jg (am Jg Jg (ak IU Jg (kf.cell (i:=7) Jg)) ?_)))
       refine aC Jg Jg Jg (ae Jg Jg (al Jg (ah Jg Jg (aE (o:=8) IN Jg (by kernel_rfl) Jg) (al Jg (am Jg Jg (ak IW Jg (kf.cell (i:=8) Jg)) ?_)))))
       refine al Jg (aP Jg Jg (bT IW hp2) (al Jg (ai Jg Jg Jg (ce) (aC Jg Jg Jg (ae Jg Jg ?_)))))
       refine cJ (fun h47=>?_) (fun h47=>?_)
       ·refine ao Jg Jg Jg (ao Jg Jg Jg (aw Jg Jg Jg (ag (ac (bB Jg (af (aa (ab Jg Jg (ab Jg Jg (ag (ac (au (av (aH Jg Jg Jg ?_))))))))))))))
        exact⟨_,rfl,x3,by
         rw[iy hm h0 (by
          first
          |exact .inl (by omega)
          |exact .inr (.inr (by omega))
          |exact .inr (.inl (fI fun⟨a1,a2,a3,a4⟩=>by
            first
            |omega
            |(rw[hem] at a3;cases a3))))]<;>rfl⟩
       ·refine al Jg (ae Jg Jg (al Jg (ai Jg Jg Jg (aV) (aC Jg Jg Jg (ag (ac ?_))))))
        refine bi Jg (fun h50=>?_) (fun h50=>?_)
        ·refine af (aa (ab Jg Jg (ab Jg Jg (ag (ac (au (av (aH Jg Jg Jg ?_))))))))
         exact⟨_,rfl,x3,by
          rw[iy hm h0 (by
           first
           |exact .inl (by omega)
           |exact .inr (.inr (by omega))
           |exact .inr (.inl (fI fun⟨a1,a2,a3,a4⟩=>by
             first
             |omega
             |(rw[hem] at a3;cases a3))))]<;>rfl⟩
        ·refine aq (ac (af ?_))
         have hk2n:n.kids.length=2:=by omega
         have hks:=sZ hk2n
         have hi:=Bo (n:=n) (by omega) (by omega) hem (by omega)
         obtain⟨d',rfl⟩:∃d',d=d'+1:=⟨d-1,by omega⟩
         refine aa (ah Jg Jg (aE (o:=6) IN Jg (by kernel_rfl) Jg) (am Jg Jg (ak IS Jg (kf.cell (i:=6) Jg)) ?_))
         obtain⟨a54,c54,p54,q54,h54⟩:=ey (P:=Tryz.prog) (sz:=9) IS (by kernel_rfl) bD (by omega) hk2 (i:=0) (by omega) .i64
         obtain⟨e54,he54⟩:∃e,e=n.kids[0]'(by omega):=⟨_,rfl⟩
         rw[←he54] at h54
         obtain⟨x54_0,x54_1,x54_2,x54_3,x54_4,rfl,f54_0,f54_1,f54_2,f54_3,f54_4⟩:=ee h54
         refine aB Jg Jg Jg (p54 _) (am Jg Jg (q54.ld IN Jg (by kernel_rfl)) (ae Jg Jg (ai (r:=I (d':Int)) Jg Jg Jg ((by have e:((d':Nat):Int)=((d'+1:Nat):Int)-1:=(by omega);rw[e];exact bb (by omega) (by omega))) ?_)))
         refine ae Jg Jg (ai (r:=I (m-1)) Jg Jg Jg (bb (by omega) (by omega)) (an jV Jg Jg ((ih d' Jg (by omega) (by omega) f54_0 f54_1 f54_2 f54_3 f54_4)) ?_))
         rintro v60 w60 ⟨x60,rfl⟩
         have hb1:=wu d' (m-1) e54
         refine ae Jg Jg (aj Jg Jg (aS) (aj Jg Jg (aT) (ab Jg Jg (ab Jg Jg (ag (ac (af (af ?_))))))))
         have hz:=wi d' (m-1) e54
         rcases hb:(jU d' (m-1) e54).2 with _|_
         ·refine aa (ae Jg Jg (ci Jg Jg cj (ag (ac (bB Jg (af (aa (ab Jg Jg (ab Jg Jg (ag (ac (au (av (aH Jg Jg Jg ?_))))))))))))))
          exact⟨_,rfl,(x3.trans x60),by rw[wt hm hks hi,←he54,if_pos hb]<;>rfl⟩
         ·refine aa (ae Jg Jg (ci Jg Jg cj (ag (ac (cq Jg (aq (ac (af (aa (ah Jg Jg (aE (o:=6) IN Jg (by kernel_rfl) Jg) ?_))))))))))
          refine am Jg Jg (ak IS Jg (x60.cell_some (kf.cell (i:=6) Jg))) ?_
          obtain⟨a68,c68,p68,q68,h68⟩:=ey (P:=Tryz.prog) (sz:=9) IS (by kernel_rfl) bD (by omega) (hk2.ext x60) (i:=1) (by omega) .i64
          obtain⟨e68,he68⟩:∃e,e=n.kids[1]'(by omega):=⟨_,rfl⟩
          rw[←he68] at h68
          obtain⟨x68_0,x68_1,x68_2,x68_3,x68_4,rfl,f68_0,f68_1,f68_2,f68_3,f68_4⟩:=ee h68
          refine aB Jg Jg Jg (p68 _) (am Jg Jg (q68.ld IN Jg (by kernel_rfl)) (ae Jg Jg (ai (r:=I (d':Int)) Jg Jg Jg ((by have e:((d':Nat):Int)=((d'+1:Nat):Int)-1:=(by omega);rw[e];exact bb (by omega) (by omega))) ?_)))
          refine ae Jg Jg (ai (r:=I (m-1)) Jg Jg Jg (bb (by omega) (by omega)) (ae Jg Jg (ai (r:=I (m-1-(jU d' (m-1) e54).1)) Jg Jg Jg (bb (by omega) (by omega)) ?_)))
          refine an jV Jg Jg ((ih d' Jg (by omega) (by omega) f68_0 f68_1 f68_2 f68_3 f68_4)) ?_
          rintro v76 w76 ⟨x76,rfl⟩
          have hb2:=wu d' (m-1-(jU d' (m-1) e54).1) e68
          refine ae Jg Jg (aj Jg Jg (aS) (aj Jg Jg (aT) (ab Jg Jg (ab Jg Jg (ag (ac (af (aa (ae Jg Jg (ai (r:=I (1+(jU d' (m-1) e54).1)) Jg Jg Jg (aK (by omega) (by omega)) ?_))))))))))
          refine ae Jg Jg (ai (r:=I (1+(jU d' (m-1) e54).1+(jU d' (m-1-(jU d' (m-1) e54).1) e68).1)) Jg Jg Jg (aK (by omega) (by omega)) ?_)
          refine ae Jg Jg (ab Jg Jg (ab Jg Jg (ag (ac (au (aH Jg Jg Jg ?_))))))
          exact⟨_,rfl,((x3.trans x60).trans x76),by rw[wt hm hks hi,←he54,←he68,if_neg (by rw[hb];simp)]⟩
   ·have kf:=k3
    rw[hem] at kf
    refine aa (ah Jg Jg (aE (o:=6) IN Jg (by kernel_rfl) Jg) (am Jg Jg (ak IS Jg (kf.cell (i:=6) Jg)) ?_))
    refine aP Jg Jg (bT IS hk2) (ai Jg Jg Jg (bS) (ae Jg Jg ?_))
    refine cJ (fun h25=>?_) (fun h25=>?_)
    ·refine ao Jg Jg Jg (ao Jg Jg Jg (ao Jg Jg Jg (ao Jg Jg Jg (aw Jg Jg Jg (ae Jg Jg (ao Jg Jg Jg (ao Jg Jg Jg (ao Jg Jg Jg (ao Jg Jg Jg ?_)))))))))
     refine aw Jg Jg Jg (ae Jg Jg (ao Jg Jg Jg (ao Jg Jg Jg (aw Jg Jg Jg (ae Jg Jg (ao Jg Jg Jg (ao Jg Jg Jg (ao Jg Jg Jg (ao Jg Jg Jg ?_)))))))))
     refine aw Jg Jg Jg (ae Jg Jg (ao Jg Jg Jg (ao Jg Jg Jg (aw Jg Jg Jg (ag (ac (bB Jg (af (aa (ab Jg Jg (ab Jg Jg ?_)))))))))))
     refine ag (ac (au (av (aH Jg Jg Jg ?_))))
     exact⟨_,rfl,x3,by
      rw[iy hm h0 (by
       first
       |exact .inl (by omega)
       |exact .inr (.inr (by omega))
       |exact .inr (.inl (fI fun⟨a1,a2,a3,a4⟩=>by
         first
         |omega
         |(rw[hem] at a3;cases a3))))]<;>rfl⟩
    ·refine al Jg (ah Jg Jg (aE (o:=1) IN Jg (by kernel_rfl) Jg) (al Jg (ah Jg Jg (lZ (b:=1) (o:=0) IV Jg (by kernel_rfl) Jg) ?_)))
     refine al Jg (am Jg Jg (ak IM Jg (kf.cell (i:=1) Jg)) (al Jg (ai Jg Jg Jg (aX) (aC Jg Jg Jg (ae Jg Jg ?_)))))
     refine cJ (fun h31=>?_) (fun h31=>?_)
     ·refine ao Jg Jg Jg (ao Jg Jg Jg (ao Jg Jg Jg (ao Jg Jg Jg (aw Jg Jg Jg (ae Jg Jg (ao Jg Jg Jg (ao Jg Jg Jg (aw Jg Jg Jg (ae Jg Jg ?_)))))))))
      refine ao Jg Jg Jg (ao Jg Jg Jg (ao Jg Jg Jg (ao Jg Jg Jg (aw Jg Jg Jg (ae Jg Jg (ao Jg Jg Jg (ao Jg Jg Jg (aw Jg Jg Jg (ag ?_)))))))))
      refine ac (bB Jg (af (aa (ab Jg Jg (ab Jg Jg (ag (ac (au (av (aH Jg Jg Jg ?_))))))))))
      exact⟨_,rfl,x3,by
       rw[iy hm h0 (by
        first
        |exact .inl (by omega)
        |exact .inr (.inr (by omega))
        |exact .inr (.inl (fI fun⟨a1,a2,a3,a4⟩=>by
          first
          |omega
          |(rw[hem] at a3;cases a3))))]<;>rfl⟩
     ·refine al Jg (ah Jg Jg (aE (o:=1) IN Jg (by kernel_rfl) Jg) (al Jg (ah Jg Jg (lZ (b:=1) (o:=0) IV Jg (by kernel_rfl) Jg) ?_)))
      refine al Jg (am Jg Jg (ak IM Jg (kf.cell (i:=1) Jg)) (al Jg (ai Jg Jg Jg (ce) (aC Jg Jg Jg (ae Jg Jg ?_)))))
      refine cJ (fun h37=>?_) (fun h37=>?_)
      ·refine ao Jg Jg Jg (ao Jg Jg Jg (aw Jg Jg Jg (ae Jg Jg (ao Jg Jg Jg (ao Jg Jg Jg (ao Jg Jg Jg (ao Jg Jg Jg (aw Jg Jg Jg (ae Jg Jg ?_)))))))))
       refine ao Jg Jg Jg (ao Jg Jg Jg (aw Jg Jg Jg (ag (ac (bB Jg (af (aa (ab Jg Jg (ab Jg Jg (ag (ac (au (av (aH Jg Jg Jg ?_))))))))))))))
       exact⟨_,rfl,x3,by
        rw[iy hm h0 (by
         first
         |exact .inl (by omega)
         |exact .inr (.inr (by omega))
         |exact .inr (.inl (fI fun⟨a1,a2,a3,a4⟩=>by
           first
           |omega
           |(rw[hem] at a3;cases a3))))]<;>rfl⟩
      ·refine al Jg (ah Jg Jg (aE (o:=7) IN Jg (by kernel_rfl) Jg) (al Jg (am Jg Jg (ak IU Jg (kf.cell (i:=7) Jg)) ?_)))
       refine aC Jg Jg Jg (ae Jg Jg (ao Jg Jg Jg (ao Jg Jg Jg (ao Jg Jg Jg (ao Jg Jg Jg (aw Jg Jg Jg (ae Jg Jg (ao Jg Jg Jg (ao Jg Jg Jg ?_)))))))))
       refine aw Jg Jg Jg (ag (ac (bB Jg (af (aa (ab Jg Jg (ab Jg Jg (ag (ac (au (av (aH Jg Jg Jg ?_))))))))))))
       exact⟨_,rfl,x3,by
        rw[iy hm h0 (by
         first
         |exact .inl (by omega)
         |exact .inr (.inr (by omega))
         |exact .inr (.inl (fI fun⟨a1,a2,a3,a4⟩=>by
           first
           |omega
           |(rw[hem] at a3;cases a3))))]<;>rfl⟩
theorem tc:∀(d:Nat),d≤2048→∀{w:World} {n:ba} {m:Int} {vl x y vk vp:Value},0≤m→m≤65536→dV fm n.lems vl w→bt n.split.at_.2.1 x w→bt n.split.at_.2.2 y w→dV bK n.kids vk w→dV dI n.pf vp w→
 Calls Tryz.prog 114 #[.agg #[vl,I n.split.kd,I n.split.ix,B n.split.at_.1,x,y,vk,B n.empty,vp],I (d:Int),I m] w (bF fun r w'=>aM w w'∧r=.tuple #[I (jU d m n).1,B (jU d m n).2])
 |0,hd,_,_,_,_,_,_,_,_,h0,h1,hl,hx,hy,hk,hp=>tb (fun _ e=>by cases e) hd h0 h1 hl hx hy hk hp
 |d+1,hd,_,_,_,_,_,_,_,_,h0,h1,hl,hx,hy,hk,hp=>tb (fun d' e _ _ _ _ _ _ _ _ a0 a1 b1 b2 b3 b4 b5=>by
   cases e
   exact tc d (by omega) a0 a1 b1 b2 b3 b4 b5) hd h0 h1 hl hx hy hk hp
theorem CT {w:World} {n:ba} {vl x y vk vp:Value} (hl:dV fm n.lems vl w) (hx:bt n.split.at_.2.1 x w) (hy:bt n.split.at_.2.2 y w) (hk:dV bK n.kids vk w) (hp:dV dI n.pf vp w):
 Calls Tryz.prog 55 #[.agg #[vl,I n.split.kd,I n.split.ix,B n.split.at_.1,x,y,vk,B n.empty,vp]] w (bF fun r w'=>aM w w'∧r=B (gk n)):=by
 refine enter (vs:=[.agg #[vl,I n.split.kd,I n.split.ix,B n.split.at_.1,x,y,vk,B n.empty,vp]]) Tryz.func55 Jg Jg Jg ?_
 refine af (aa ?_)
 obtain⟨g1,w1,hr1,l1,x1,k1⟩:=dB (P:=Tryz.prog) (w:=w) (T:=83) (cs:=[vl,I n.split.kd,I n.split.ix,B n.split.at_.1,x,y,vk,B n.empty,vp])
 refine cY Jg Jg hr1 (ab Jg Jg (ag (ac (af (aa (am Jg Jg (k1.ld IN Jg (by kernel_rfl)) (an jV Jg Jg ((tc 2048 (Nat.le_refl _) (m:=65536) (by omega) (by omega) (hl.ext x1) (hx.ext x1) (hy.ext x1) (hk.ext x1) (hp.ext x1))) ?_)))))))
 rintro v7 w7 ⟨x7,rfl⟩
 refine ae Jg Jg (aj Jg Jg (aS) (aj Jg Jg (aT) (ab Jg Jg (ab Jg Jg (ag (ac (af (aa (ae Jg Jg (ab Jg Jg ?_))))))))))
 refine ag (ac (au (aF Jg Jg ?_)))
 exact⟨_,rfl,(x1.trans x7),by rw[EQ n]⟩
end Go.Rl
namespace Go.Rl
open Go.RowKit
def Hy (q:f5):Bool:=rv q.1 q.2.1 q.2.2
def Ip (l:List eE):Bool:=l.all fun m=>Hy m.co
def canL (l:fQ):Bool:=Hy l.va&&Ip l.pf
mutual
def nY:ba→Bool
 |.mk lems sp kids _ pf=>Ip pf&&Hy sp.at_&&lems.all canL&&Bp kids
def Bp:List ba→Bool
 |[]=>true
 |n::l=>nY n&&Bp l
end
theorem CU:∀l:List ba,Bp l=l.all nY
 |[]=>rfl
 |n::l=>by simp only[Bp,List.all_cons,CU l]
def wMu (m:eE):Prop:=oJ m.kd∧oJ m.ix∧oJ m.lo∧oJ m.hi
def wP (l:List eE):Prop:=∀m∈l,wMu m
def wLm (l:fQ):Prop:=oJ l.un∧wP l.pf
def wD (d:f9):Prop:=oJ d.kd∧oJ d.ix
mutual
def wN:ba→Prop
 |.mk lems sp kids _ pf=>(∀l∈lems,wLm l)∧wD sp∧wP pf∧HX kids
def HX:List ba→Prop
 |[]=>True
 |n::l=>wN n∧HX l
end
theorem Bq:∀l:List ba,HX l↔∀n∈l,wN n
 |[]=>by simp[HX]
 |n::l=>by simp only[HX,Bq l,List.mem_cons,forall_eq_or_imp]
theorem Hz (n:ba):wN n↔(∀l∈n.lems,wLm l)∧wD n.split∧wP n.pf∧∀k∈n.kids,wN k:=by
 cases n with
 |mk l s k e p=>simp only[wN,Bq];rfl
theorem EV (n:ba):dX n=if n.kids.length=0 then Gb n.empty++iS n.lems++vN n.pf else[2]++iS n.lems++tK n.split++n.kids.flatMap dX:=by
 cases n with
 |mk l s k e p=>
  cases k with
  |nil=>simp[dX,ba.kids,ba.empty,ba.lems,ba.pf]
  |cons k ks=>simp[dX,ba.kids,ba.lems,ba.split,sI]
section
variable {α:Type} {f:List UInt8→Option (α×List UInt8)} {e:α→List UInt8} {Q:α→Prop}
end
theorem EW (q:f5):4*(q.2.1.length+q.2.2.length)≤(pI q).length:=by
 have h:∀n:List UInt32,4*n.length≤(kY n).length:=fun n=>by simp only[kY,List.length_append,fe];omega
 have h1:=h q.2.1
 have h2:=h q.2.2
 simp only[pI,si,List.length_append,List.length_cons,List.length_nil]
 omega
end Go.Rl
namespace Go.Rl
def jY:List UInt8→List UInt8→Nat
 |a::l,b::m=>if a=b then jY l m+1 else 0
 |_,_=>0
theorem wv (l:List UInt8):jY l []=0:=by cases l<;>rfl
theorem EX:∀(l m:List UInt8),jY l m≤l.length
 |[],m=>by simp[jY]
 |a::l,[]=>by simp[jY]
 |a::l,b::m=>by
  have:=EX l m
  unfold jY
  split<;>simp<;>omega
theorem Br:∀(l m:List UInt8) (j:Nat),j<jY l m→l[j]? =m[j]? ∧j<l.length
 |[],m,j,h=>by simp[jY] at h
 |a::l,[],j,h=>by simp[jY] at h
 |a::l,b::m,j,h=>by
  unfold jY at h
  split at h
  ·rename_i e
   subst e
   match j with
   |0=>simp
   |j+1=>
    have:=Br l m j (by omega)
    simpa using this
  ·omega
def ml (d:List UInt8) (i k:Nat):Nat:=jY (d.drop i) (d.drop (i-k))
theorem GV (d:List UInt8) (i k:Nat):ml d i k≤d.length-i:=by
 have:=EX (d.drop i) (d.drop (i-k))
 rw[List.length_drop] at this
 exact this
theorem HB {d:List UInt8} {i k j:Nat} (h:j<ml d i k):d[i+j]? =d[i-k+j]? ∧i+j<d.length:=by
 have:=Br (d.drop i) (d.drop (i-k)) j h
 rw[List.getElem?_drop,List.getElem?_drop,List.length_drop] at this
 exact⟨this.1,by omega⟩
def qQ (d:List UInt8) (i:Nat):Nat→Nat×Nat
 |0=>(0,0)
 |j+1=>if 4≤ml d i (j+1)∧(qQ d i j).1<ml d i (j+1) then(ml d i (j+1),j+1) else qQ d i j
theorem Ab (d:List UInt8) (i:Nat):∀j,(qQ d i j=(0,0))∨(4≤(qQ d i j).1∧1≤(qQ d i j).2∧(qQ d i j).2≤j∧ml d i (qQ d i j).2=(qQ d i j).1)
 |0=>.inl rfl
 |j+1=>by
  unfold qQ
  split
  ·rename_i h
   exact .inr ⟨h.1,by simp,by simp,rfl⟩
  ·rcases Ab d i j with h|h
   ·exact .inl h
   ·exact .inr ⟨h.1,h.2.1,by omega,h.2.2.2⟩
def cV (d:List UInt8) (i:Nat):Nat×Nat:=qQ d i (min i 4096)
theorem lq {d:List UInt8} {i:Nat} (h:(cV d i).1≠0):4≤(cV d i).1∧1≤(cV d i).2∧(cV d i).2≤i∧(cV d i).2≤4096∧ml d i (cV d i).2=(cV d i).1∧i+(cV d i).1≤d.length:=by
 rcases Ab d i (min i 4096) with e|e
 ·exact absurd (show(cV d i).1=0 by unfold cV;rw[e]) h
 ·have hl:=GV d i (cV d i).2
  unfold cV at h hl⊢
  refine⟨e.1,e.2.1,by omega,by omega,e.2.2.2,?_⟩
  rw[e.2.2.2] at hl
  omega
def pk (d:List UInt8) (i run:Nat):List UInt8:=
 if _h:i<d.length then
  if hn:(cV d i).1=0 then pk d (i+1) (run+1)
  else uv run++(d.drop (i-run)).take run++uv ((cV d i).1-4)++uv ((cV d i).2-1)++pk d (i+(cV d i).1) 0
 else if 0<run then uv run++d.drop (d.length-run) else[]
termination_by d.length-i
decreasing_by all_goals omega
theorem pS {d:List UInt8} {i run:Nat} (h:i<d.length) (hn:(cV d i).1=0):pk d i run=pk d (i+1) (run+1):=by
 rw[pk,dif_pos h,dif_pos hn]
theorem kv {d:List UInt8} {i run:Nat} (h:i<d.length) (hn:(cV d i).1≠0):pk d i run=uv run++(d.drop (i-run)).take run++uv ((cV d i).1-4)++uv ((cV d i).2-1)++pk d (i+(cV d i).1) 0:=by
 rw[pk,dif_pos h,dif_neg hn]
theorem jW {d:List UInt8} {i run:Nat} (h:¬i<d.length):pk d i run=if 0<run then uv run++d.drop (d.length-run) else[]:=by
 rw[pk,dif_neg h]
def bW (d:List UInt8):List UInt8:=uv d.length++pk d 0 0
def zc (k:Nat):Nat→List UInt8→List UInt8
 |0,out=>out
 |m+1,out=>zc k m (out++[out.getD (out.length-k) 0])
theorem Ac {d:List UInt8} {i k:Nat} (hk:1≤k) (hki:k≤i):∀(m j:Nat),j+m≤ml d i k→zc k m (d.take (i+j))=d.take (i+j+m)
 |0,j,_=>rfl
 |m+1,j,h=>by
  obtain⟨h1,h2⟩:=HB (d:=d) (i:=i) (k:=k) (j:=j) (by omega)
  have hl:(d.take (i+j)).length=i+j:=by rw[List.length_take];omega
  have e:d.take (i+j)++[(d.take (i+j)).getD ((d.take (i+j)).length-k) 0]=d.take (i+(j+1)):=by
   rw[hl,←Nat.add_assoc,List.take_succ_eq_append_getElem h2]
   congr 2
   rw[List.getD_eq_getElem?_getD,List.getElem?_take_of_lt (by omega),show i+j-k=i-k+j by omega,←h1,List.getElem?_eq_getElem h2]
   rfl
  rw[zc,e,Ac hk hki m (j+1) (by omega)]
  congr 1
  omega
def qz (total:Nat):Nat→List UInt8→List UInt8→Option (List UInt8)
 |0,_,_=>none
 |f+1,rest,out=>
  if out.length<total then
   (cZ rest).bind fun p=>
     if total-out.length<p.1∨p.2.length<p.1 then none
     else if total-out.length=p.1 then(if p.2.drop p.1=[] then some (out++p.2.take p.1) else none)
     else(cZ (p.2.drop p.1)).bind fun q=>
      if total-out.length-p.1<4∨total-out.length-p.1-4<q.1 then none
      else(cZ q.2).bind fun r=>
       if 4096≤r.1∨(out++p.2.take p.1).length≤r.1 then none
       else qz total f r.2 (zc (r.1+1) (q.1+4) (out++p.2.take p.1))
  else if rest=[] then some out else none
theorem ww (k:Nat):∀(m:Nat) (out:List UInt8),(zc k m out).length=out.length+m
 |0,out=>rfl
 |m+1,out=>by rw[zc,ww k m];simp;omega
theorem uG {d:List UInt8} {i run:Nat} (hr:run≤i):d.take (i-run)++(d.drop (i-run)).take run=d.take i:=by
 have:d.take i=d.take (i-run+run):=by rw[Nat.sub_add_cancel hr]
 rw[this,List.take_add]
theorem HD {d:List UInt8} (hd:d.length<18446744073709551616):∀(c i run f:Nat),d.length-i=c→run≤i→i≤d.length→d.length-i+1≤f→
 qz d.length f (pk d i run) (d.take (i-run))=some d:=by
 intro c
 induction c using Nat.strongRecOn with
 |ind c ih=>
  intro i run f hc hr hid hf
  obtain⟨f,rfl⟩:∃g,f=g+1:=⟨f-1,by omega⟩
  have hlo:(d.take (i-run)).length=i-run:=by rw[List.length_take];omega
  by_cases hi:i<d.length
  ·by_cases hn:(cV d i).1=0
   ·rw[pS hi hn]
    have:=ih (d.length-(i+1)) (by omega) (i+1) (run+1) (f+1) rfl (by omega) (by omega) (by omega)
    rw[show i+1-(run+1)=i-run by omega] at this
    exact this
   ·obtain⟨h4,h1,h2,h3,hml,h5⟩:=lq hn
    obtain⟨n,hnn⟩:∃n,n=(cV d i).1:=⟨_,rfl⟩
    obtain⟨k,hkk⟩:∃k,k=(cV d i).2:=⟨_,rfl⟩
    rw[kv hi hn]
    rw[←hnn] at h4 h5 hml⊢
    rw[←hkk] at h1 h2 h3 hml⊢
    have hlr:((d.drop (i-run)).take run).length=run:=by rw[List.length_take,List.length_drop];omega
    have hsub:d.length-(d.take (i-run)).length=d.length-i+run:=by rw[hlo];omega
    unfold qz
    rw[if_pos (by rw[hlo];omega)]
    simp only[List.append_assoc]
    rw[ju (by omega)]
    simp only[Option.bind_some,hsub]
    have e1:((d.drop (i-run)).take run++(uv (n-4)++(uv (k-1)++pk d (i+n) 0))).take run=(d.drop (i-run)).take run:=by rw[List.take_left' hlr]
    have e2:((d.drop (i-run)).take run++(uv (n-4)++(uv (k-1)++pk d (i+n) 0))).drop run=uv (n-4)++(uv (k-1)++pk d (i+n) 0):=by rw[List.drop_left' hlr]
    rw[e1,e2,if_neg (by rw[List.length_append,hlr];omega),if_neg (by omega),ju (by omega)]
    simp only[Option.bind_some]
    rw[if_neg (by omega),ju (by omega)]
    simp only[Option.bind_some]
    rw[uG hr,if_neg (by rw[List.length_take];omega),show k-1+1=k by omega,show n-4+4=n by omega]
    have hc0:=Ac (d:=d) (i:=i) (k:=k) h1 h2 n 0 (by omega)
    rw[Nat.add_zero] at hc0
    rw[hc0]
    have:=ih (d.length-(i+n)) (by omega) (i+n) 0 f rfl (by omega) h5 (by omega)
    rw[Nat.sub_zero] at this
    exact this
  ·have hie:i=d.length:=by omega
   rw[jW hi]
   unfold qz
   by_cases hr0:0<run
   ·rw[if_pos hr0,if_pos (by rw[hlo];omega),ju (by omega)]
    have hsub:d.length-(d.take (i-run)).length=run:=by rw[hlo];omega
    have hdl:(d.drop (d.length-run)).length=run:=by rw[List.length_drop];omega
    simp only[Option.bind_some,hsub]
    rw[if_neg (by omega),if_pos trivial,List.take_of_length_le (l:=d.drop (d.length-run)) (by omega),List.drop_of_length_le (by omega),if_pos rfl,hie,List.take_append_drop]
   ·have:run=0:=by omega
    subst this
    rw[if_neg (show ¬0<0 by omega),if_neg (by rw[hlo];omega),if_pos rfl,hie,Nat.sub_zero,List.take_length]
end Go.Rl

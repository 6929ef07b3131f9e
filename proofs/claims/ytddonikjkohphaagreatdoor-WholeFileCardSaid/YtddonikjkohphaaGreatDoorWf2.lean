/- Part 2 of a proof: plain facts and walks of functions, merged by a program. Conditions: each lemma names its own. -/
import Derived.Test.YtddonikjkohphaaGreatDoorWf1
def Rat.sg (x:Rat):Bool:=decide (x.num<0)
def Rat.nl (x:Rat):List UInt32:=Go.Rl.lb x.num.natAbs
def Rat.dl (x:Rat):List UInt32:=if x.den=1 then[] else Go.Rl.lb x.den
namespace Go.Rl
open Go.RowKit Go.Proofs
variable {a ad:Addr} {w w' w0 w1 w2:World} {R i n g j N sz k o q g' BB g1 kw ch kh C nn:Nat} {v y u z v1 x0 x1 fv sv xv tv:Value} {l m:List UInt32} {fn:Func} {vs xs sp cs cs' zs:List Value} {s ty T':TypeId} {P:Program} {A ns:List Int} {p ks:List Nat} {ts:List TypeId} {rd:Option Nat} {h:Int}
theorem UJ:aY Tryz.prog 39:=⟨_,Tryz.func39,am,rfl⟩
theorem we:aY Tryz.prog 266:=⟨_,Tryz.func266,am,rfl⟩
theorem wc:aY Tryz.prog 265:=⟨_,Tryz.func265,am,rfl⟩
theorem F6:aY Tryz.prog 264:=⟨_,Tryz.func264,am,rfl⟩
theorem An:aY Tryz.prog 191:=⟨_,Tryz.func191,am,rfl⟩
theorem aaW:(Tryz.prog.info? 184).map (·.zero)=some (some (.agg #[.slice none 0 0,.bool false])):=by kernel_rfl
theorem tk:(Tryz.prog.info? 28).map (·.size)=some 1:=by kernel_rfl
theorem xt:(Tryz.prog.info? 4).map (·.size)=some 1:=by kernel_rfl
def vy (A:Option Addr) (g:Nat):Prop:=∀ad,A=some ad→ad.block<g
theorem vy.none (g:Nat):vy none g:=λ_ h=>by cases h
theorem aae {A:Option Addr} {c:Nat} {lo hi i:Option Value} {r:Value} (a:(Instr.sliceAt 28 (.slice A n c) lo hi i).run Tryz.prog w=.ok r w'):∃b k j,r=.slice b k j∧∀g,vy A g→vy b g:=by
 simp only[Instr.sliceAt,Instr.slice,Sem.run_bind,run_underlying Tryz.underlying28,Result.andThen_ok] at a
 cases e:(Instr.sliceBounds true n c lo hi i).run Tryz.prog w with
 |halt x w1=>rw[e] at a;simp[Result.andThen] at a
 |ok p w1=>
  obtain⟨l,h,m⟩:=p
  rw[e] at a
  simp only[Result.andThen_ok,pY pi] at a
  simp at a
  obtain⟨rfl,rfl⟩:=a
  refine⟨_,_,_,H,λg f=>?_⟩
  split
  ·exact f
  ·intro ad d
   cases A with
   |none=>cases d
   |some a0=>
    obtain rfl:=cC d
    show(a0.add _).block<g
    rw[vN]
    exact f a0 H
def dv (g:Nat) (st:Option (List UInt8)) (w:World):Prop:=
 ∃A n c,w.heap[g]? =some (.cells #[.slice A n c,.bool st.isNone] 184 (0,0))∧cV (st.getD []) (.slice A n c) w∧vy A g
theorem dv.aL {g:Nat} {st:Option (List UInt8)} {w w':World} (h:dv g st w) (a:ao w w'):dv g st w':=by
 obtain⟨A,n,c,b,d,e⟩:=h
 exact⟨A,n,c,a.bM b,d.aL a,e⟩
theorem OH (A:Option Addr) (n c:Nat) (b:Bool) (l:List UInt8):∀(j:Nat) (u:Value),u∈l.map U8→(#[.slice A n c,.bool b]:Array Value)[j]? ≠some u:=by
 intro j u a
 obtain⟨x,_,rfl⟩:=fF.1 a
 match j with
 |0=>simp[U8]
 |1=>simp[U8]
 |j+2=>simp
theorem cV.reader {l:List UInt8} {st:Option (List UInt8)} (h:cV l v w) (b:dv g st w) (d:w.grownBy w' (some g)):cV l v w':=by
 obtain⟨A,n,c,a,_⟩:=b
 exact Sl.keep h a (OH A n c _ l) d
section
variable {w:World} {g:Nat} {l:List UInt8}
theorem sH {a:Option Nat} (h:ao w w'):w.grownBy w' a:=⟨h.os,h.tape,h.output,h.size,λ_ hi _=>h.heap hi⟩
theorem Gw (w:World) (a:Option Nat):w.grownBy w a:=World.grownBy.refl w a
theorem RM (i:cV l v w) (e:l.length≤140737488355328):
 Calls Tryz.prog 39 #[v] w (aJ λr w'=>ao w w'∧∃g,w.heap.size≤g∧r=.pointer (some ⟨g,0,none⟩)∧dv g (some l) w'):=by
 refine enter Tryz.func39 H H H (ah (ap (Z H (f (al (ah (ap (J H (aC Aa H H (zk i e) ?_)))))))))
 rintro j w1 ⟨b,a⟩
 obtain⟨A,n,c,rfl,_⟩:=id a.b8
 refine dY H (r:=.agg #[.slice A n c,.bool false]) (by simp[Instr.build,run_underlying Tryz.underlying184,Hu aaW,pY tk,pY xt,Instr.fill,Value.cells]) (nL H uQ (Z H (f (al (aA (aM H ?_))))))
 exact⟨_,H,b.ai (ao.new _ _),w1.heap.size,b.size,H,A,n,c,heap_alloc_new _ _,a.b8.aL (ao.new _ _),λad d=>a.elim λ_ h=>(World.ownsRow.lt h ad.block (by rw[d];rfl)).2⟩
theorem wu {st:Option (List UInt8)} (e:dv g st w):
 Calls Tryz.prog 265 #[.pointer (some ⟨g,0,none⟩)] w (aJ λr w'=>r=I 5∧dv g none w'∧w.grownBy w' (some g)):=by
 obtain⟨A,n,c,a,_⟩:=e
 refine enter Tryz.func265 H H H (ah (ap (Z H (f (al (ah (ap (J H (J H (dq H (az H (jR oR H tk G) (cZ H (pZ tk H a aj) (dq H (az H (jR oR H xt G) ?_))))))))))))))
 have b:=yC a 0 (.slice none 0 0)
 refine cZ H (pZ (i:=1) xt H b aj) ?_
 have d:=yC b 1 (.bool true)
 refine f (al (ah (ap (Z H (f (al (aA (aM H ?_))))))))
 exact⟨_,H,H,⟨none,0,0,d,cV.nil _,vy.none g⟩,(mF w g 0 _).ai (mF _ g 1 _)⟩
theorem Po {n:UInt64} (b:dv g none w):
 Calls Tryz.prog 266 #[.pointer (some ⟨g,0,none⟩),bk n] w (aJ λr w'=>r=.tuple #[.slice none 0 0,B false]∧w'=w):=by
 obtain⟨A,m,c,a,_⟩:=b
 refine enter Tryz.func266 H H H (ah (ap (Z H (Z H (f (al (ah (ah (ap (J H (dq H (az H (jR oR H xt G) (Y H (D dw H (qR (i:=1) a H)) (J H (L H (L H (L H (L H (L H ?_)))))))))))))))))))
 refine L H (L H (L H (bA H (f (al (bT H (ah (ap (Z H (Z H (f (al (aA (aI (dt H ?_)))))))))))))))
 exact⟨_,H,H,H⟩
theorem Pu (h:l.length≤9223372036854775807):(UInt64.ofNat l.length).toNat=l.length:=by rw[jo];omega
theorem Pp {n:UInt64} (h:dv g (some l) w) (e:l.length<n.toNat):
 Calls Tryz.prog 266 #[.pointer (some ⟨g,0,none⟩),bk n] w (aJ λr w'=>r=.tuple #[.slice none 0 0,B false]∧w'=w):=by
 obtain⟨A,m,c,a,d,_⟩:=h
 have b:cV l (.slice A m c) w:=d
 refine enter Tryz.func266 H H H (ah (ap (Z H (Z H (f (al (ah (ah (ap (J H (dq H (az H (jR oR H xt G) (Y H (D dw H (qR (i:=1) a H)) (J H (V H (J H (V H (J H (V H (dq H (V H (az H (jR oR H tk G) (V H (Y H (D iB H (qR (i:=0) a H)) (V H (aW H (ro b) ?_))))))))))))))))))))))))))
 refine V H (cJ H (yX aE cU) (V H (U H (cu (by show _<n;rw[kW,Pu b.len];exact e) oy) (t H (f (al (bT H (ah (ap (Z H (Z H (f (al (aA (aI (dt H ?_))))))))))))))))
 exact⟨_,H,H,H⟩
theorem HZ {n:UInt64} (h:dv g (some l) w) (u:n.toNat≤l.length):
 Calls Tryz.prog 266 #[.pointer (some ⟨g,0,none⟩),bk n] w
  (aJ λr w'=>∃b,r=.tuple #[b,B true]∧cV (l.take n.toNat) b w'∧dv g (some (l.drop n.toNat)) w'∧w.grownBy w' (some g)):=by
 obtain⟨A,m,c,d,q,s⟩:=h
 have e:cV l (.slice A m c) w:=q
 refine enter Tryz.func266 H H H (ah (ap (Z H (Z H (f (al (ah (ah (ap (J H (dq H (az H (jR oR H xt G) (Y H (D dw H (qR (i:=1) d H)) (J H (V H (J H (V H (J H (V H (dq H (V H (az H (jR oR H tk G) (V H (Y H (D iB H (qR (i:=0) d H)) (V H (aW H (ro e) ?_))))))))))))))))))))))))))
 refine V H (cJ H (yX aE cU) (V H (U H (aX (by show ¬_<n;rw[kW,Pu e.len];omega) oy) (t H (f (al (be H (aH (al (ah (ap (J H (dq H (az H (jR oR H tk G) (Y H (D iB H (qR (i:=0) d H)) (J H ?_))))))))))))))))
 obtain⟨b,z,C⟩:=Ho e u .u64
 refine jx (b:=some (bk n)) H H H H H (z _) (Z H (f (al (ah (ap (J H (J H (dq H (az H (jR oR H tk G) (Y H (D iB H (qR (i:=0) d H)) (J H ?_)))))))))))
 obtain⟨r,h,F⟩:=DB e u .u64
 refine jx (a:=some (bk n)) H H H H H (h _) (dq H (az H (jR oR H tk G) ?_))
 obtain⟨j,p,k,rfl,y⟩:=aae (h w)
 refine cZ H (pZ (i:=0) tk H d aj) ?_
 have x:=yC d 0 (.slice j p k)
 have o:=mF w g 0 (.slice j p k)
 refine f (al (ah (ap (J H (Z H (Z H (f (al (aA (dt H ?_))))))))))
 have v:dv g (some l) w:=⟨A,m,c,d,q,s⟩
 exact⟨_,H,b,H,C.reader v o,⟨j,p,k,x,F.reader v o,y g s⟩,o⟩
def UvR (g:Nat) (w:World) (o:Option (Nat×List UInt8)) (r:Value) (w':World):Prop:=
 w.grownBy w' (some g)∧match o with
  |some (n,t)=>r=.tuple #[bk (UInt64.ofNat n),B true]∧dv g (some t) w'
  |none=>r=.tuple #[bk 0,B false]∧∃l',dv g (some l') w'
theorem OU (R:dv g (some l) w):
 Calls Tryz.prog 264 #[.pointer (some ⟨g,0,none⟩)] w (aJ (UvR g w (eY l))):=by
 refine enter Tryz.func264 H H H (ah (ap (Z H (Z H (f (al (ah (ah (ap (Z H (f (al (aR ?_)))))))))))))
 refine eg (α:=Nat×List UInt8×UInt64) (λx=>[(0,.pointer (some ⟨g,0,none⟩)),(4,I ((7*x.1:Nat):Int)),(2,bk x.2.2)])
  (λx w'=>dv g (some x.2.1) w'∧w.grownBy w' (some g)∧x.1≤9∧x.2.2.toNat<128^x.1∧eY l=(oE (10-x.1) x.1 x.2.1).map λp=>(p.1+x.2.2.toNat,p.2)) (λx=>10-x.1)
  (0,l,0) ⟨rfl,rfl,rfl,trivial⟩ ⟨R,Gw _ _,aj,aj,by simp[eY]⟩ ?_
 rintro⟨k,rest,acc⟩ w1 ⟨m,s,C,A,a⟩
 dsimp only at m s C A a
 have P:10-k=(9-k)+1:=G
 rw[P] at a
 refine ah (ah (ap (J H (U H (cu G bO) (f (al (bT H (aH (al (ah (aR (ah (ap (J H ?_))))))))))))))
 cases rest with
 |nil=>
  refine aC (vs:=[_,bk 1]) we H H (Pp m aF) ?_
  rintro T w2 ⟨rfl,rfl⟩
  refine J H (aZ H (dm) (aZ H (dn) (Z H (Z H (f (al (ah (ah (ap (J H (cP H (cW) (f (al (bT H (ah (ap (Z H (Z H (f (al (aA (aI (bD (aI (aI (bD (aI (dt H (⟨_,H,s,?_⟩)))))))))))))))))))))))))))))
  rw[a,Zt]
  exact⟨H,[],m⟩
 |cons c t=>
  refine aC (vs:=[_,bk 1]) we H H (HZ m aj) ?_
  rintro T w2 ⟨b,rfl,M,S,Q⟩
  have N:cV [c] b w2:=M
  have u:dv g (some t) w2:=S
  have r:=s.ai Q
  refine J H (aZ H (dm) (aZ H (dn) (Z H (Z H (f (al (ah (ah (ap (J H (cP H (cW) (f (al (be H (aH (al (ah (ap (J H ?_)))))))))))))))))))
  obtain⟨ad,K,O⟩:=rn N (i:=0) aj .i64
  refine bF H (K _) (Y H (N9 O) (Z H (f (al (ah (ah (iS (λ_:Unit=>[(0,.pointer (some ⟨g,0,none⟩)),(4,I ((7*k:Nat):Int)),(2,bk acc),(7,U8 c),(35,B (decide ((k=9∧1<c.toNat)∨(0<k∧c.toNat=0))))]) (λ_ w'=>w'=w2) ?_ ?_)))))))
  ·refine ap (J H ?_)
   have z:c>1↔1<c.toNat:=by show 1<c↔_;rw[yb];rfl
   have y:c=0↔c.toNat=0:=by rw[←UInt8.toNat_inj];rfl
   by_cases n:k=9
   ·refine U H (cu G aV) ?_
    refine J H (V H (J H ?_))
    by_cases q:1<c.toNat
    ·refine V H (U (v:=U8 1) H (cu (z.2 q) Hh) ?_)
     refine bA H (J H (L H (L H (L H (sG H (sG H (L H (bA H (f ?_)))))))))
     exact eu () ⟨H,H,H,H,by rw[dH (Or.inl ⟨n,q⟩)];rfl,trivial⟩ H
    ·refine V H (U (v:=U8 1) H (aX (λh=>q (z.1 h)) Hh) ?_)
     refine bA H (J H (V H (J H (V H (U H (cu G cY) (V H (J H (V H (J H (V H (U (v:=U8 0) H Bb (V H (bA H (aK H (f (eu () ⟨H,H,H,H,?_,trivial⟩ H))))))))))))))))
     show some (B (decide (c=0)))=_
     rw[cA.2 (show c=0↔((k=9∧1<c.toNat)∨(0<k∧c.toNat=0)) from by rw[y];omega)]
   ·refine U H (aX G aV) ?_
    refine J H (L H (L H (aK H (J H ?_))))
    by_cases W:0<k
    ·refine V H (J H (V H (U H (cu G cY) ?_)))
     refine V H (J H (V H (J H (V H (U (v:=U8 0) H Bb (V H (bA H (aK H (f (eu () ⟨H,H,H,H,?_,trivial⟩ H))))))))))
     show some (B (decide (c=0)))=_
     rw[cA.2 (show c=0↔((k=9∧1<c.toNat)∨(0<k∧c.toNat=0)) from by rw[y];omega)]
    ·refine V H (J H (V H (U H (aX G cY) ?_)))
     refine V H (J H (L H (L H (V H (aK H (aK H (f (eu () ⟨H,H,H,H,?_,trivial⟩ H))))))))
     show some (B false)=_
     rw[bi G]
  ·rintro _ X rfl
   refine al (bc H (λh=>?_) (λh=>?_))
   ·refine ah (ap (Z H (Z H (f (al (aA (aI (bD (aI (aI (bD (aI ?_))))))))))))
    refine dt H (⟨_,H,r,?_⟩)
    rw[a]
    simp only[oE]
    rw[if_pos h]
    exact⟨H,t,u⟩
   ·have j:=Yi (acc:=acc) (c:=c) A C (λn=>by
     have:¬1<c.toNat:=λo=>h (Or.inl ⟨n,o⟩)
     omega)
    refine aH (al (ah (ap (J H (J H (U (v:=U8 127) H (Yz) (cJ H (Zg fo cU) (J H (U H (tg (7*k) G) (U H (uU) (Z H (f (al (ah (ap (J H (U (v:=U8 128) H (YZ) (f (al (bc H (λd=>?_) (λd=>?_)))))))))))))))))))))
    ·have e:c.toNat<128:=by rw[yb] at d;exact d
     refine ah (ap (J H (Z H (Z H (f (al (aA (bD (aI (aI (bD (aI (dt H (⟨_,H,r,?_⟩))))))))))))))
     rw[a]
     simp only[oE]
     rw[if_neg h,if_pos e]
     refine⟨?_,u⟩
     rw[eN e] at j
     have:UInt64.ofNat (c.toNat*128^k+acc.toNat)=acc|||((c&&&127).toUInt64<<<UInt64.ofNat (7*k)):=by
      rw[rP,←j,UInt64.ofNat_toNat]
     rw[this];rfl
    ·have e:¬c.toNat<128:=λo=>d (by rw[yb];exact o)
     have D:k≠9:=λD=>h (Or.inl ⟨D,G⟩)
     refine aH (bE (al (ap (J H (U H (dB G G) (Z H (f (ew (k+1,t,acc|||((c&&&127).toUInt64<<<UInt64.ofNat (7*k))) ⟨H,?_,H,trivial⟩ ⟨u,r,by show k+1≤9;omega,?_,?_⟩ (by show 10-(k+1)<10-k;omega)))))))))
     ·show some (I (((7*k:Nat):Int)+7))=some (I ((7*(k+1):Nat):Int))
      rw[show((7*k:Nat):Int)+7=((7*(k+1):Nat):Int) by omega]
     ·show(acc|||((c&&&127).toUInt64<<<UInt64.ofNat (7*k))).toNat<128^(k+1)
      rw[j,gj]
      have:(c.toNat%128)*128^k≤127*128^k:=fH _ G
      omega
     ·show eY l=(oE (10-(k+1)) (k+1) t).map λp=>(p.1+(acc|||((c&&&127).toUInt64<<<UInt64.ofNat (7*k))).toNat,p.2)
      rw[a,j]
      simp only[oE]
      rw[if_neg h,if_neg e,Option.map_map]
      have:10-(k+1)=9-k:=G
      rw[this]
      have F:((λp:Nat×List UInt8=>(p.1+acc.toNat,p.2))∘λp:Nat×List UInt8=>(p.1+c.toNat%128*128^k,p.2))=λp=>(p.1+(acc.toNat+c.toNat%128*128^k),p.2):=by
       funext p
       simp only[Function.comp,Prod.mk.injEq,vP]
       omega
      rw[F]
theorem OT (a:dv g none w):
 Calls Tryz.prog 264 #[.pointer (some ⟨g,0,none⟩)] w (aJ λr w'=>r=.tuple #[bk 0,B false]∧w'=w):=by
 refine enter Tryz.func264 H H H (ah (ap (Z H (Z H (f (al (ah (ah (ap (Z H (f (al (aR (eg (α:=Unit) (λ_=>[(0,.pointer (some ⟨g,0,none⟩)),(4,I 0),(2,bk 0)]) (λ_ w'=>w'=w) (λ_=>0) () (aP H) H ?_))))))))))))))
 rintro _ w1 rfl
 refine ah (ah (ap (J H (U H (cu G bO) (f (al (bT H (aH (al (ah (aR (ah (ap (J H (aC (vs:=[_,bk 1]) we H H (Po a) ?_)))))))))))))))
 rintro b w2 ⟨rfl,rfl⟩
 refine J H (aZ H (dm) (aZ H (dn) (Z H (Z H (f (al (ah (ah (ap (J H (cP H (cW) (f (al (bT H (ah (ap (Z H (Z H (f (al (aA (aI (bD (aI (aI (bD (aI (dt H ?_))))))))))))))))))))))))))))
 exact⟨_,H,H,H⟩
def JZ (g:Nat) (w:World) (o:Option (Nat×List UInt8)) (r:Value) (w':World):Prop:=
 w.grownBy w' (some g)∧match o with
  |some (n,t)=>r=.tuple #[bk (UInt64.ofNat n),I 0]∧dv g (some t) w'
  |none=>r=.tuple #[bk 0,I 5]∧dv g none w'
theorem J1 {st:Option (List UInt8)} (i:dv g st w):
 Calls Tryz.prog 191 #[.pointer (some ⟨g,0,none⟩)] w (aJ (JZ g w (st.bind eY))):=by
 refine enter Tryz.func191 H H H (ah (ap (Z H (Z H (f (al (ah (ah (ap (J H (U H (Du qH) (f (al (be H (aH (al (ah (ap (J H ?_)))))))))))))))))))
 have m:Calls Tryz.prog 264 #[.pointer (some ⟨g,0,none⟩)] w (aJ λr w'=>w.grownBy w' (some g)∧match st.bind eY with
  |some (n,t)=>r=.tuple #[bk (UInt64.ofNat n),B true]∧dv g (some t) w'
  |none=>r=.tuple #[bk 0,B false]∧∃l',dv g l' w'):=by
  cases st with
  |none=>exact(OT i).mono λe w' ⟨v,d,a,u⟩=>⟨v,d,by subst u;exact⟨Gw _ _,a,none,i⟩⟩
  |some l=>
   refine(OU i).mono λe w' ⟨v,d,o,a⟩=>⟨v,d,o,?_⟩
   show match eY l with|some (n,t)=>_|none=>_
   cases b:eY l with
   |none=>rw[b] at a;exact⟨a.1,a.2.imp' some λ_ h=>h⟩
   |some p=>rw[b] at a;exact a
 refine aC F6 H H m ?_
 rintro x w1 ⟨k,c⟩
 unfold JZ
 cases b:st.bind eY with
 |some p=>
  obtain⟨n,t⟩:=p
  rw[b] at c
  obtain⟨rfl,j⟩:=c
  refine J H (aZ H (dm) (aZ H (dn) (Z H (Z H (f (al (ah (ah (ap (J H (cP H (cW) (f (al (be H (aH (al (ah (ap (J H (Z H (Z H (f (al (aA (dt H ?_)))))))))))))))))))))))))
  exact⟨_,H,k,H,j⟩
 |none=>
  rw[b] at c
  obtain⟨rfl,l',j⟩:=c
  refine J H (aZ H (dm) (aZ H (dn) (Z H (Z H (f (al (ah (ah (ap (J H (cP H (cW) (f (al (bT H (ah (ap (J H (aC wc H H (wu j) ?_))))))))))))))))))
  rintro y w2 ⟨rfl,s,q⟩
  refine Z H (Z H (f (al (aA (aI (dt H ?_))))))
  exact⟨_,H,k.ai q,H,s⟩
end
theorem Lh:aY Tryz.prog 189:=⟨_,Tryz.func189,am,rfl⟩
def pI (x:UInt32):List UInt8:=[x.toUInt8,(x>>>UInt32.ofNat 8).toUInt8,(x>>>UInt32.ofNat 16).toUInt8,(x>>>UInt32.ofNat 24).toUInt8]
def gW (l:List UInt32):List UInt8:=l.flatMap pI
theorem Xk (l:List UInt32) (k:Nat) (h:k<l.length):gW (l.take (k+1))=gW (l.take k)++pI l[k]:=by
 unfold gW
 rw[fi h,IT]
 simp
theorem tO (l:List UInt32):(gW l).length=4*l.length:=by
 induction l with
 |nil=>rfl
 |cons x l a=>
  have:gW (x::l)=pI x++gW l:=by simp[gW]
  rw[this,cr,a]
  simp[pI];omega
def mn (l:List UInt32):List UInt8:=uv l.length++gW l
theorem Gh (l:List UInt32) (h:l.length<18446744073709551616):(mn l).length≤10+4*l.length:=by
 have:=rD h
 simp only[mn,cr,tO];omega
section
variable {w0 w:World} {l:List UInt8} {ns:List UInt32} {v nv:Value}
theorem Nu (j:ao w0 w) (q:eH w0.heap.size l v w) (a:aO ns nv w0) (O:l.length+4*ns.length≤35184372088832):
 Calls Tryz.prog 189 #[v,nv] w (aJ λr w'=>eH w0.heap.size (l++mn ns) r w'∧ao w0 w'∧d9 w w' v r):=by
 refine enter Tryz.func189 H H H (ah (ap (Z H (f (al (ah (ap (J H (J H (aW H (cI aT (a.aL j)) (cJ H (yX aE cU) (aC F7 H H (H8 q G j.size) ?_))))))))))))
 rintro u w1 ⟨m,o⟩
 have D:(UInt64.ofNat ns.length).toNat=ns.length:=by rw[jo];have:=a.len;omega
 rw[D] at m
 have s:ao w0 w1:=j.a6 o q.ge
 have Q:=rD (n:=ns.length) (by have:=a.len;omega)
 refine Z H (f (al (ah (ah (ap (J H (aW H (cI aT (a.aL s)) (J H (f (al (aR ?_)))))))))))
 refine eg (α:=Nat×Value) (λx=>[(0,x.2),(12,nv),(13,I (ns.length:Int)),(14,I (x.1:Int))])
  (λx w'=>eH w0.heap.size (l++uv ns.length++gW (ns.take x.1)) x.2 w'∧ao w0 w'∧d9 w w' v x.2∧x.1≤ns.length) (λx=>ns.length-x.1) (0,u) ⟨rfl,rfl,rfl,rfl,trivial⟩
  ⟨by simpa [gW] using m,s,o,aj⟩ ?_
 rintro⟨k,b⟩ w2 ⟨c,d,g,A⟩
 dsimp only at c d g A
 have P:=a.len
 have N:(l++uv ns.length++gW (ns.take k)).length≤35184372088832+10:=by
  simp only[cr,tO,eS];omega
 refine ah (ap (U H (bO) (f (al (ah (bc H (λh=>?_) (λh=>?_)))))))
 ·have i:k<ns.length:=G
  refine aH (al (ah (aR (ah (ap ?_)))))
  obtain⟨ad,y,z⟩:=ei aT (a.aL d) i .i64
  refine bF H (y _) (Y H (YQ z) (Z H (f (al (ap (J H (J H (cJ H (qe bN fo) (J H (U H (oz 8 G) (cJ H (qe bN fo) (J H (U H (oz 16 G) (cJ H (qe bN fo) (J H ?_)))))))))))))))
  refine U H (oz 24 G) (cJ H (qe bN fo) ?_)
  obtain⟨R,S,L,e,F,_⟩:=uR (w:=w2) w2.heap.size (pI ns[k]) (by simp[pI]) (bV _)
  refine dJ H L ?_
  obtain⟨t,w4,M,K,p⟩:=uP (ty:=28) (c.aL e) F.b8 (by simp only[pI,cw,c8];omega) (cf d.size e.size)
  refine dW H M (Z H (f (bE (al (ap (U H (dB G G) (J H (f (ew (k+1,t) (aP H) ⟨?_,(d.ai e).a6 p c.ge,g.ai (d9.before e p),i⟩ (by show ns.length-(k+1)<ns.length-k;omega))))))))))
  show eH _ (l++uv ns.length++gW (ns.take (k+1))) t w4
  rw[Xk ns k i,←fh]
  exact K
 ·have C:k=ns.length:=G
  refine ce (aU (aU (cg (al (ah (ap (J H (Z H (f (al (aA (aM H (⟨_,H,?_,d,g⟩)))))))))))))
  rw[C,fL,fh] at c
  exact c
end
section
variable {P:Program} {ops:Array Oper} {Q:eV} {N:Nat} {D:List Deferred} {S:World→Prop} {fuel:Nat} {listed:Array Bool} {l:Fr} {w:World} {d:Nat} {op:Op} {ty:TypeId} {pos:String} {aft:Array Edge}
def gn (Q:eV):eV:=λe a w=>e=.normal∧Q .normal a w
def jS (P:Program) (ops:Array Oper) (Q:eV) (N:Nat) (D:List Deferred) (S:World→Prop) (fuel:Nat) (listed:Array Bool) (l:Fr) (w:World):Prop:=∀a,At N D l a→wpAnyH P .any ops (gn Q) S fuel listed a w
def zm (P:Program) (ops:Array Oper) (Q:eV) (S:World→Prop) (fuel:Nat) (listed:Array Bool):eV:=λe a w=>e=.normal∧S w∧wpAnyH P .any ops (gn Q) S fuel listed a w
theorem Tt {id:Nat} {os:List Oper} (S:World→Prop) (n:Nat) (d:os.toArray.size=n) (hm:P.follows .mixedOrders=true)
 (h:jS P os.toArray Q N D S n (Array.replicate n false) l w.drew):dS P Q N D l w (.region id os.toArray true):=λa b=>by
 subst d
 exact wp_mono (wp_region_held (Q:=gn Q) (S:=S) hm (h a b)) λe a w c=>by obtain⟨rfl,h⟩:=c;exact h
def uL (ops:Array Oper) (listed:Array Bool) (i:Nat):Bool:=Region.noSelect ops&&Region.free .any ops listed i&&(Region.ready .any ops listed).contains i
theorem My (i:Nat) (hi:ops[i]? =some ⟨some d,op,ty,pos,aft,none⟩) (b:uL ops listed i=true) (g:Nat.blt d N=true) (f:S w)
 (j:∀ρ w',rH l ρ→S w'→(execOp ρ ⟨some d,op,ty,pos,aft,none⟩).run P w'=.ok (.value v) w')
 (k:jS P ops Q N D S fuel (listed.setIfInBounds i true) ((d,v)::l) w):jS P ops Q N D S (fuel+1) listed l w:=λa e=>by
 simp only[uL,ex] at b
 exact wpAnyH_take hi b.1.1 b.1.2 b.2 (λc a w h=>by obtain⟨h,_⟩:=h;cases h) (.inl ⟨H,λw' m=>j a.eval w' (λx v n=>e.ev n) m⟩) f (k _ (e.put g v))
theorem Mx (i:Nat) {xs:List Operand} {r:Value} {f:List Value→Sem Value} (hi:ops[i]? =some ⟨some d,op,ty,pos,aft,none⟩) (e:∀ρ,execOp ρ ⟨some d,op,ty,pos,aft,none⟩=(do pure (Next.value (←f (xs.map ρ))):Sem Next))
 (g:jY l xs=some vs) (a:uL ops listed i=true) (c:Nat.blt d N=true) (b:S w) (h:∀w',S w'→(f vs).run P w'=.ok r w')
 (k:jS P ops Q N D S fuel (listed.setIfInBounds i true) ((d,r)::l) w):jS P ops Q N D S (fuel+1) listed l w:=
 My i hi a c b (λρ w' m j=>by rw[e,qX m g,Sem.run_bind,h w' j];rfl) k
theorem LZ {x:Operand} (h:ev l x=some v):jY l [x]=some [v]:=by simp[jY,h]
theorem Mw (i:Nat) {x:Operand} (hi:ops[i]? =some ⟨some d,.move x,ty,pos,aft,none⟩) (e:ev l x=some v) (a:uL ops listed i=true) (c:Nat.blt d N=true) (b:S w)
 (k:jS P ops Q N D S fuel (listed.setIfInBounds i true) ((d,v)::l) w):jS P ops Q N D S (fuel+1) listed l w:=
 My i hi a c b (λρ w' f _=>by simp[execOp,f x _ e]) k
theorem Mu (i:Nat) {t:TypeId} {x:Operand} {r:Value} (hi:ops[i]? =some ⟨some d,.load t x,ty,pos,aft,none⟩) (h:ev l x=some u) (b:uL ops listed i=true) (e:Nat.blt d N=true) (c:S w) (g:∀w',S w'→(Instr.loadAt t u).run P w'=.ok r w')
 (k:jS P ops Q N D S fuel (listed.setIfInBounds i true) ((d,r)::l) w):jS P ops Q N D S (fuel+1) listed l w:=
 Mx i (xs:=[x]) (f:=λ|[a]=>Instr.loadAt t a|_=>stuck "") hi (λ_=>rfl) (LZ h) b e c g k
theorem Mt (i:Nat) {x:Operand} {r:Value} (hi:ops[i]? =some ⟨some d,.fieldAddr s x n,ty,pos,aft,none⟩) (h:ev l x=some u) (b:uL ops listed i=true) (e:Nat.blt d N=true) (c:S w) (g:∀w',S w'→(Instr.fieldAt s u n).run P w'=.ok r w')
 (k:jS P ops Q N D S fuel (listed.setIfInBounds i true) ((d,r)::l) w):jS P ops Q N D S (fuel+1) listed l w:=
 Mx i (xs:=[x]) (f:=λ|[a]=>Instr.fieldAt s a n|_=>stuck "") hi (λ_=>rfl) (LZ h) b e c g k
theorem Ik {o:Oper} {g:Array Bool} {a:Act} (hi:ops[i]? =some o) (h:wpList P ops (zm P ops Q S fuel g) [o] a w):
 wpOp P ops (gn Q) i (λj w'=>S w'∧wpAnyH P .any ops (gn Q) S fuel g j w') a w:=by
 unfold wpOp
 simp only[hi]
 unfold wpList at h
 split
 ·rename_i d
  rw[if_pos d] at h
  rcases h with h|⟨_,_,_,h,_⟩
  ·refine .inl ?_
   unfold Oper.wp at*
   generalize (execOp a.eval o).run P w=r at*
   cases r with
   |ok n w'=>
    cases n<;>simp only[Oper.upon] at h⊢
    case value u=>exact h.2
    case skip=>exact h.2
    case defer dd=>exact h.2
    case enter f args=>
     refine Calls.mono h λe k b=>?_
     cases e with
     |returned u=>exact b.2
     |panicked c=>obtain⟨b,_⟩:=b;cases b
     |outgrown=>obtain⟨_,_,b,_⟩:=b;cases b
    case row row args=>exact Rows.mono h λu k b=>b.2
   |halt x w'=>
    cases x<;>simp only[Oper.upon] at h⊢
    case panic u=>obtain⟨b,_⟩:=h;cases b
  ·cases h
 ·rename_i d
  rw[if_neg d] at h
  exact h.2
theorem yB (i:Nat) {o:Oper} (d:Region.ready .any ops listed=[i]) (hi:ops[i]? =some o) (h:bK P ops (zm P ops Q S fuel (listed.setIfInBounds i true)) N D l w [o]):jS P ops Q N D S (fuel+1) listed l w:=λa b=>
 wpAnyH_all d aj λj c=>by
  obtain rfl:j=i:=by simpa using c
  exact Ik hi (h a b)
theorem WD (i j:Nat) {o u:Oper} (f:Region.ready .any ops listed=[i,j]) (hi:ops[i]? =some o) (d:ops[j]? =some u) (h:bK P ops (zm P ops Q S fuel (listed.setIfInBounds i true)) N D l w [o])
 (c:bK P ops (zm P ops Q S fuel (listed.setIfInBounds j true)) N D l w [u]):jS P ops Q N D S (fuel+1) listed l w:=λa b=>
 wpAnyH_all f aj λk e=>by
  rcases(by simpa using e:k=i∨k=j) with rfl|rfl
  ·exact Ik hi (h a b)
  ·exact Ik d (c a b)
theorem uG (b:S w) (k:jS P ops Q N D S fuel listed l w):bK P ops (zm P ops Q S fuel listed) N D l w []:=λa c=>⟨rfl,b,k a c⟩
theorem WC {α:Type} (fr:α→Fr) (H:α→World→Prop) (c:Array Bool) (b:Nat) (k:∀x w',H x w'→jS P ops Q N D S b c (fr x) w')
 (h:(∀l' w',(∃x,Sub (fr x) l'∧H x w')→jS P ops Q N D S b c l' w')→jS P ops Q N D S fuel listed l w):jS P ops Q N D S fuel listed l w:=
 h λ_ w' ⟨x,hs,d⟩ a e=>k x w' d a (e.bd hs)
theorem Ms {a:Array Bool} (b:listed=a) (h:jS P ops Q N D S fuel a l w):jS P ops Q N D S fuel listed l w:=b▸h
theorem WB (c:Region.ready .any ops listed=[]) (h:ie Q N D l w):jS P ops Q N D S fuel listed l w:=λa b=>wpAnyH_done c ⟨rfl,h a b⟩ _
end
theorem TE:aY Tryz.prog 99:=⟨_,Tryz.func99,am,rfl⟩
theorem ao.at (a:ao w w') {o:Obj} (h:w.heap[g]? =some o):w'.heap[g]? =some o:=by
 rw[a.block g (by obtain⟨h,_⟩:=jB.1 h;exact h)]
 exact h
theorem eH.low {base a:Nat} {l:List UInt8} (h:eH base l v w) (b:a≤base):eH a l v w:=by
 have c:=h.ge
 obtain⟨n,h⟩:=h
 exact⟨n,Hb h λk d=>cf b (c k d)⟩
theorem eH.grown {base:Nat} {l:List UInt8} {u v r:Value} {w w':World} (h:eH base l u w) (a:d9 w w' v r) (b:u.ownBlock=none∨u.ownBlock≠v.ownBlock):eH base l u w':=by
 obtain⟨n,h⟩:=h
 exact⟨n,World.ownsRow.kept h a.grown b⟩
theorem eH.lt {base:Nat} {l:List UInt8} {v:Value} {w:World} (h:eH base l v w):∀k,v.ownBlock=some k→k<w.heap.size:=by
 obtain⟨n,h⟩:=h
 exact λk a=>(World.ownsRow.lt h k a).2
def bQ (b:Bool) (n m:List UInt32):cT:=λv w=>∃x y,v=.agg #[B b,x,y]∧aO n x w∧aO m y w
theorem bQ.aL {b:Bool} {n m:List UInt32} {v:Value} {w w':World} (h:bQ b n m v w) (a:ao w w'):bQ b n m v w':=by
 obtain⟨x,y,rfl,c,d⟩:=h
 exact⟨x,y,H,c.aL a,d.aL a⟩
def ru (b:Bool):UInt8:=if b then 1 else 0
def oW (b:Bool) (n m:List UInt32):List UInt8:=[ru b]++mn n++mn m
theorem aad:(Tryz.prog.info? 4).map (·.size)=some 1:=by kernel_rfl
theorem Pg:(Tryz.prog.info? 47).map (·.size)=some 1:=by kernel_rfl
theorem nr:(Tryz.prog.info? 49).map (·.size)=some 3:=by kernel_rfl
section
variable {w:World} {l:List UInt8} {ns:List UInt32} {v nv:Value}
theorem Qm {b:Bool} {n:List UInt32} {rv:Value} (F:cV l v w) (P:bQ b n m rv w) (T:l.length+4*n.length+4*m.length≤8796093022208):
 Calls Tryz.prog 99 #[v,rv] w (aJ λr w'=>ao w w'∧eH w.heap.size (l++oW b n m) r w'):=by
 obtain⟨x,y,rfl,J,S⟩:=P
 have U:=Gh n (by have:=J.len;omega)
 refine enter (vs:=[v,.agg #[B b,x,y]]) Tryz.func99 H H H (ah (ap (nL H uQ ?_)))
 have g:ao w (w.alloc (.cells (Value.agg #[B b,x,y]).cells 49)):=ao.new w _
 have z:=heap_alloc_new w (.cells (Value.agg #[B b,x,y]).cells 49)
 revert g z
 generalize w.alloc (.cells (Value.agg #[B b,x,y]).cells 49)=w1
 intro g z
 have t:∀(i:Nat) (u:Value),(#[B b,x,y]:Array Value)[i]? =some u→∀w',ao w1 w'→w'.cell? ⟨w.heap.size,i,none⟩=some u:=λi u R w' k=>qR (k.at z) R
 refine Z H (f (al (ah (ap (Z H (f (al (ah (iS (λ_:Unit=>[(0,v),(3,.pointer (some ⟨w.heap.size,0,none⟩)),(5,U8 (ru b))]) (λ_ w'=>w'=w1) ?_ ?_)))))))))
 ·refine ah (ap ?_)
  refine c H (jR bI H aad G) (Y H (D dw H (t 0 _ H _ (ao.refl _))) (f (al ?_)))
  cases b with
  |true=>exact bT rfl (ap (Z rfl (f (eu () (aP rfl) rfl))))
  |false=>exact be rfl (aH (eu () (aP rfl) rfl))
 rintro _ w2 rfl
 refine al (ah (Tt (ao w2) 12 H am ?_))
 have a:ao w2 w2.drew:=(ao.refl w2).drew
 refine Mw 0 H H am H a (Mw 2 H H am H a (Mt 5 H H am H a (λw' _=>jR bI H Pg G) (Mu 6 H H am H a (λw' k=>D aT H (t 1 _ H _ k)) (Mt 8 H H am H a (λw' _=>jR bI H Pg G) (Mu 9 H H am H a (λw' k=>D aT H (t 2 _ H _ k)) (WC (λp:Value×Value=>[(9,p.1),(11,p.2),(14,x),(17,y)]) (λp w'=>ao w2 w'∧eH w2.heap.size l p.1 w'∧cV [ru b] p.2 w') #[true,true,true,true,false,true,true,false,true,true,false,false] 4 ?_ (λjoin=>WD 1 3 am H H ?_ ?_)))))))
 ·rintro⟨q,o⟩ s ⟨d,h,j⟩
  dsimp only at h j
  refine yB 4 am H ?_
  obtain⟨V,w4,Q,M,L⟩:=uP (ty:=28) h j fZ d.size
  have e:=d.a6 L h.ge
  refine dW H Q (uG e (yB 7 am H (aC Lh H H (Nu e M (J.aL g) mQ) ?_)))
  rintro W w5 ⟨N,K,_⟩
  refine uG K (yB 10 am H (aC Lh H H (Nu K N (S.aL g) mQ) ?_))
  rintro X w6 ⟨O,C,_⟩
  refine uG C (yB 11 am H (Z H (uG C (WB am (al (aA (aM H (⟨_,H,g.ai C,?_⟩))))))))
  have:=O.low g.size
  simpa only[oW,fh] using this
 ·refine aC Aa H H (zk ((F.aL g).aL a) G) ?_
  rintro q s ⟨d,h⟩
  obtain⟨o,w4,A,e,j,_⟩:=uR (w:=s) s.heap.size [ru b] aj (bV _)
  refine uG (a.ai d) (yB 3 am H (dJ (vs:=[(0,U8 (ru b))]) H A (uG ((a.ai d).ai e) (Ms am (join _ _ ⟨(q,o),⟨H,H,H,H,trivial⟩,(a.ai d).ai e,?_,j.b8⟩)))))
  exact(h.aL e).low a.size
 ·obtain⟨o,s,A,d,j,_⟩:=uR (w:=w2.drew) w2.heap.size [ru b] aj a.size
  refine dJ (vs:=[(0,U8 (ru b))]) H A (uG (a.ai d) (yB 1 am H (aC Aa H H (zk (((F.aL g).aL a).aL d) G) ?_)))
  rintro q w4 ⟨e,h⟩
  refine uG ((a.ai d).ai e) (Ms am (join _ _ ⟨(q,o),⟨H,H,H,H,trivial⟩,(a.ai d).ai e,?_,j.b8.aL e⟩))
  exact h.low (a.ai d).size
end
section
variable {P:Program} {w w':World}
theorem c9 {fs:Array Field} {f:Field} (hs:P.underlying s=some (.struct fs)) (c:fs[n]? =some f) (d:(P.cellsOf f.type==0)=false) (i:f.offset=o):
 (Instr.fieldAt s (.pointer (some ⟨g,0,none⟩)) n).run P w=.ok (.pointer (some ⟨g,o,none⟩)) w:=by
 have a:P.cellsOf f.type≠0:=by simpa using d
 obtain⟨k,b⟩:∃k,(P.info? f.type).map (·.size)=some k:=by
  cases hi:(P.info? f.type).map (·.size) with
  |none=>exact absurd (by simp[Program.cellsOf,hi]) a
  |some k=>exact⟨k,rfl⟩
 have e:k≠0:=by
  intro h
  apply a
  simp[Program.cellsOf,b,h]
 rw[jR hs c b e,i,vO,gB]
end
section
variable {w w':World}
theorem bQ.a3 (b:Bool) (n m:List UInt32):cN (bQ b n m):=λ_ _ _ h a=>h.aL a
theorem bQ.mk {b:Bool} {n:List UInt32} {x:Value} (a:aO n x w) (c:aO m y w):bQ b n m (.agg #[B b,x,y]) w:=⟨x,y,rfl,a,c⟩
theorem bm.d6 {T:TypeId} {a b c:Value} (h:bm g T [a,b,c] w):(Instr.loadAt 49 (.pointer (some ⟨g,0,none⟩))).run Tryz.prog w=.ok (.agg #[a,b,c]) w:=
 xn h (λj v d=>by simpa using d) Tryz.underlying49 rfl nr
theorem xg {b:Bool} {n:List UInt32} (h:bQ b n m v w):
 ∃g x y w',(Instr.box 49 v).run Tryz.prog w=.ok (.pointer (some ⟨g,0,none⟩)) w'∧ao w w'∧bm g 49 [B b,x,y] w'∧aO n x w'∧aO m y w':=by
 obtain⟨x,y,rfl,a,c⟩:=h
 exact⟨_,x,y,_,uQ,ao.new w _,bm.new (T:=49) (.agg #[B b,x,y]) H,a.aL (ao.new w _),c.aL (ao.new w _)⟩
theorem aaV:(Tryz.prog.info? 49).map (·.zero)=some (some (.agg #[B false,.slice none 0 0,.slice none 0 0])):=by kernel_rfl
theorem tW:∃g w',(Instr.alloc 49 true (.tuple #[])).run Tryz.prog w=.ok (.pointer (some ⟨g,0,none⟩)) w'∧w.heap.size≤g∧ao w w'∧bm g 49 [B false,.slice none 0 0,.slice none 0 0] w':=
 iW aaV rfl
theorem Om (b:Bool) (A C:Option Addr) (n c m d:Nat) (l:List UInt32):∀(j:Nat) (u:Value),u∈l.map bz→(#[.bool b,.slice A n c,.slice C m d]:Array Value)[j]? ≠some u:=by
 intro j u a
 obtain⟨x,_,rfl⟩:=fF.1 a
 match j with
 |0=>simp[bz]
 |1=>simp[bz]
 |2=>simp[bz]
 |j+3=>simp
theorem aO.f7 {T:TypeId} {b:Bool} {x:Value} (h:aO l v w) (a:bm g T [B b,x,y] w) (f:∃A n c,x=.slice A n c) (i:∃A n c,y=.slice A n c) (e:w.grownBy w' (some g)):aO l v w':=by
 obtain⟨A,n,c,rfl⟩:=f
 obtain⟨C,m,d,rfl⟩:=i
 exact Sl.keep h a (Om b A C n c m d l) e
theorem aO.a9 (h:aO l v w):∃A n c,v=.slice A n c:=by
 obtain⟨A,n,c,rfl,_⟩:=h
 exact⟨A,n,c,H⟩
theorem bm.cv {b c:Bool} {x:Value} {n:List UInt32} (h:bm g 49 [B b,x,y] w) (f:∃A n c,x=.slice A n c) (i:∃A n c,y=.slice A n c) (l:bQ c n m v w):
 ∃p q w',v=.agg #[B c,p,q]∧(Instr.storeAt 49 (.pointer (some ⟨g,0,none⟩)) v).run Tryz.prog w=.ok () w'∧w.grownBy w' (some g)∧bm g 49 [B c,p,q] w'∧aO n p w'∧aO m q w':=by
 obtain⟨p,q,rfl,a,d⟩:=l
 obtain⟨A,o,j,rfl⟩:=a.a9
 obtain⟨C,r,k,rfl⟩:=d.a9
 refine⟨_,_,_,H,uW (m:=[B c,.slice A o j,.slice C r k]) h H nr ?_,pD w g _,h.row _,a.f7 h f i (pD w g _),d.f7 h f i (pD w g _)⟩
 intro u e
 simp only[lF,vw,xe] at e
 rcases e with rfl|rfl|rfl<;>rfl
theorem yT {x y:Operand} {t:TypeId} (c:P.underlying t=some .bool) {a b:Bool}:(bin .eql t x y (B a) (B b)).run P w=.ok (B (decide (a=b))) w:=by
 have h:(Op.equal t (B a) (B b)).run P w=.ok (decide (a=b)) w:=by
  show(Op.equalIn (9999+1) t (.bool a) (.bool b)).run P w=_
  unfold Op.equalIn
  cases a<;>cases b<;>simp[run_underlying c]
 show(do pure (Value.bool (←Op.equal t (B a) (B b))):Sem Value).run P w=_
 rw[Sem.run_bind,h];rfl
theorem yS {c:Bool} {p q:Value} (a:∃A n c,p=.slice A n c) (b:∃A n c,q=.slice A n c):(Instr.build 49 #[(0,B c),(1,p),(2,q)]).run Tryz.prog w=.ok (.agg #[B c,p,q]) w:=by
 obtain⟨A,n,d,rfl⟩:=a
 obtain⟨C,m,e,rfl⟩:=b
 exact run_build _ _ _ #[B c,.slice A n d,.slice C m e] am
theorem YH {c:Bool} {p:Value} (a:∃A n c,p=.slice A n c):(Instr.build 49 #[(0,B c),(1,p)]).run Tryz.prog w=.ok (.agg #[B c,p,.slice none 0 0]) w:=by
 obtain⟨A,n,d,rfl⟩:=a
 exact run_build _ _ _ #[B c,.slice A n d,.slice none 0 0] am
theorem xh:(Instr.build 49 #[]).run Tryz.prog w=.ok (.agg #[B false,.slice none 0 0,.slice none 0 0]) w:=
 run_build _ _ _ #[B false,.slice none 0 0,.slice none 0 0] am
end
theorem rF:∀{l m:List UInt32},l.length=m.length→val l=val m→l=m
 |[],[],_,_=>rfl
 |[],_::_,h,_=>by simp at h
 |_::_,[],h,_=>by simp at h
 |x::l,y::m,h,hv=>by
  have c:=ep x
  have d:=ep y
  rw[val,val] at hv
  have a:x.toNat=y.toNat:=G
  have b:val l=val m:=G
  rw[ve a,rF (by simpa using h) b]
def ud (m:List UInt32):List UInt32:=if val m=0 then[1] else m
theorem H9:val [1]=1:=rfl
theorem CQ:lb 1=[1]:=rfl
theorem Bp (m:List UInt32):val (ud m)=if val m=0 then 1 else val m:=by unfold ud;split<;>simp_all [H9]
theorem DZ (m:List UInt32):0<val (ud m):=by rw[Bp];split<;>omega
def jg (s:Bool) (n:Nat):Bool:=s&&decide (0<n)
def jq (n d:Nat):List UInt32:=if d/Nat.gcd n d=1 then[] else lb (d/Nat.gcd n d)
def rv (s:Bool) (n m:List UInt32):Bool:=decide (s=jg s (val n)∧n=lb (val n/Nat.gcd (val n) (val (ud m)))∧m=jq (val n) (val (ud m)))
theorem Mq {d:Nat} (h:0<d):0<Nat.gcd n d:=Jj n h
theorem MU {x:Nat}:lb x=[1]↔x=1:=⟨λh=>MS (h.ai CQ.symm),λh=>by rw[h,CQ]⟩
theorem VK {d:Nat} (h:0<d):jq 0 d=[]:=by unfold jq;rw[Nat.gcd_zero_left,Nat.div_self h,if_pos rfl]
theorem Lo:jq n 1=[]:=by unfold jq;rw[Ji];rfl
def dC (s:Bool) (n:Nat):Int:=if s=true then-(n:Int) else n
def rq (s:Bool) (n m:List UInt32):Rat:=mkRat (dC s (val n)) (val (ud m))
theorem tZ (s:Bool) (n:Nat):(dC s n).natAbs=n:=by unfold dC;split<;>omega
theorem Z0 (s:Bool) (n:Nat): -dC s n=dC (!s) n:=by cases s<;>simp[dC]
theorem O1 (s t:Bool) (n m:Nat):dC s n*dC t m=dC (s !=t) (n*m):=by
 cases s<;>cases t<;>simp[dC,Int.neg_mul,Int.mul_neg]
theorem Z2 (s:Bool):dC s 0=0:=by cases s<;>rfl
theorem qg (i:Int):dC (decide (i<0)) i.natAbs=i:=by unfold dC;split<;>simp_all<;>omega
theorem HO (s:Bool) (n:Nat):dC s n<0↔s=true∧0<n:=by cases s<;>simp[dC]<;>omega
theorem G4 {i:Int} {d:Nat} (h:0<d):(mkRat i d).num=i/(Nat.gcd i.natAbs d:Int)∧(mkRat i d).den=d/Nat.gcd i.natAbs d:=by
 rw[Rat.mkRat_def,dif_neg G,Rat.normalize_eq]
 exact⟨H,H⟩
theorem O0 (s:Bool) (h:g∣n):dC s n/(g:Int)=dC s (n/g):=by
 cases s
 ·simp[dC]
 ·simp only[dC,if_true]
  rw[Int.neg_ediv_of_dvd (by exact Int.natCast_dvd_natCast.2 h)]
  simp
theorem Ln (s:Bool) {d:Nat} (h:0<d):jg s n=(mkRat (dC s n) d).sg∧lb (n/Nat.gcd n d)=(mkRat (dC s n) d).nl∧jq n d=(mkRat (dC s n) d).dl:=by
 obtain⟨a,b⟩:=G4 (i:=dC s n) h
 rw[tZ] at a b
 have c:Nat.gcd n d∣n:=Jh n d
 have g:0<Nat.gcd n d:=Jj n h
 rw[O0 s c] at a
 refine⟨?_,?_,?_⟩
 ·unfold Rat.sg
  rw[a]
  have e:0<n/Nat.gcd n d↔0<n:=by
   constructor
   ·intro h;exact eT h (EQ _ _)
   ·intro h;exact Nat.div_pos (Nat.le_of_dvd h c) g
  have f:=HO s (n/Nat.gcd n d)
  rw[e] at f
  unfold jg
  cases s<;>simp_all
 ·unfold Rat.nl
  rw[a,tZ]
 ·unfold Rat.dl jq
  rw[b]
theorem PJ (x:Rat):val x.nl=x.num.natAbs:=cH _
theorem PH (x:Rat):val (ud x.dl)=x.den:=by
 have:=x.den_pos
 unfold Rat.dl
 rw[Bp]
 split
 ·rename_i h
  rw[if_pos (by rw[←nh,cH]),h]
 ·rw[cH,if_neg G]
theorem DK (x:Rat):rq x.sg x.nl x.dl=x:=by
 unfold rq
 rw[PJ,PH]
 unfold Rat.sg
 rw[qg,zK]
theorem Lp (s:Bool) (n m:List UInt32):jg s (val n)=(rq s n m).sg∧lb (val n/Nat.gcd (val n) (val (ud m)))=(rq s n m).nl∧jq (val n) (val (ud m))=(rq s n m).dl:=Ln s (DZ m)
theorem OW {s:Bool} {n:List UInt32}:rv s n m=true↔s=(rq s n m).sg∧n=(rq s n m).nl∧m=(rq s n m).dl:=by
 obtain⟨a,b,c⟩:=Lp s n m
 unfold rv
 rw[gI,a,b,c]
theorem ZL (x:Rat):rv x.sg x.nl x.dl=true:=OW.2 (by rw[DK];exact⟨rfl,rfl,rfl⟩)
theorem Yw {x y:Rat} (a:x.sg=y.sg) (b:x.nl=y.nl) (c:x.dl=y.dl):x=y:=by rw[←DK x,←DK y,a,b,c]
theorem ZE (s t:Bool) (a b c d:List UInt32):rq s a b*rq t c d=mkRat (dC (s !=t) (val a*val c)) (val (ud b)*val (ud d)):=by
 unfold rq
 rw[Rat.mkRat_mul_mkRat,O1]
theorem ZF (s:Bool) (n m:List UInt32):rq (!s) n m= -rq s n m:=by
 unfold rq
 rw[Rat.neg_mkRat,Z0]
theorem Xz {i:Int} {d:Nat} (h:0<d):(mkRat i d<0↔i<0)∧(mkRat i d=0↔i=0)∧(0<mkRat i d↔0<i):=by
 have c:mkRat i d=0↔i=0:=Rat.mkRat_eq_zero G
 have g:=G4 (i:=i) h
 have j:0<Nat.gcd i.natAbs d:=Jj _ h
 have b:mkRat i d<0↔i<0:=by
  rw[←Rat.not_le,←Rat.num_nonneg,g.1,Int.ediv_nonneg_iff_of_pos G]
  omega
 refine⟨b,c,?_⟩
 rw[←Rat.not_le]
 constructor
 ·intro e
  have:¬i<0:=λa=>e (Rat.le_of_lt (b.2 a))
  have:i≠0:=λa=>e (by rw[c.2 a];exact Rat.le_refl)
  omega
 ·intro e a
  rcases Ek (mkRat i d=0) with f|f
  ·have:=c.1 f;omega
  ·have:=b.1 (Rat.lt_of_le_of_ne a f);omega
def j8 (x:Rat):Int:=if x<0 then-1 else if x=0 then 0 else 1
def sj (x y:Rat):Int:=if x<y then-1 else if x=y then 0 else 1
theorem Z3 {i:Int} {d:Nat} (h:0<d):j8 (mkRat i d)=if i<0 then-1 else if i=0 then 0 else 1:=by
 obtain⟨a,b,_⟩:=Xz (i:=i) h
 unfold j8
 simp only[a,b]
theorem aai (x y:Rat):x-y<0↔x<y:=by constructor<;>intro h<;>grind
theorem Vz (x y:Rat):j8 (x-y)=sj x y:=by
 have a:x-y=0↔x=y:=by constructor<;>intro h<;>grind
 unfold j8 sj
 simp only[aai,a]
def bt (x:Rat):Nat:=1+max (bl x.num.natAbs) (bl x.den)
theorem ux (n:Nat):n<2^bl n:=by
 rcases fm n with rfl|h
 ·exact Nat.two_pow_pos _
 ·exact(yc h).2
theorem FC {m:Nat} (h:n≤m):bl n≤bl m:=nD (nA h (ux m))
theorem zX (n m:Nat):bl (n*m)≤bl n+bl m:=by
 refine nD ?_
 rw[jF]
 rcases fm m with rfl|h
 ·rw[xR];exact oN (Nat.two_pow_pos _) (Nat.two_pow_pos _)
 ·exact eT (BO (ux n) h) (nY _ (zE (ux m)))
theorem Xy {i:Int} {d:Nat} (h:0<d):(mkRat i d).num.natAbs≤i.natAbs∧(mkRat i d).den≤d:=by
 obtain⟨a,b⟩:=G4 (i:=i) h
 rw[a,b]
 refine⟨?_,EQ _ _⟩
 have:=qg i
 rw[←this,tZ,O0 _ (Jh _ _),tZ]
 exact EQ _ _
theorem Cd {i:Int} {d:Nat} (h:0<d) (c:bl i.natAbs≤k) (e:bl d≤k):bt (mkRat i d)≤1+k:=by
 obtain⟨a,b⟩:=Xy (i:=i) h
 have:=FC a
 have:=FC b
 unfold bt
 omega
theorem vV (x:Rat):bl x.num.natAbs<bt x:=by unfold bt;omega
theorem vU (x:Rat):bl x.den<bt x:=by unfold bt;omega
theorem qK (x y:Rat):bt (x*y)≤bt x+bt y:=by
 have e:x*y=mkRat (x.num*y.num) (x.den*y.den):=by
  rw[←Rat.mkRat_mul_mkRat,zK,zK]
 rw[e]
 have a:=vV x
 have b:=vV y
 have c:=vU x
 have d:=vU y
 have f:=zX x.num.natAbs y.num.natAbs
 have g:=zX x.den y.den
 refine cf (Cd (k:=bt x+bt y-1) (oN x.den_pos y.den_pos) (by rw[Bz];omega) G) G
theorem vT (x y:Rat):bt (x+y)≤bt x+bt y:=by
 have e:x+y=mkRat (x.num*y.den+y.num*x.den) (x.den*y.den):=by
  rw[←JC _ _ x.den_nz y.den_nz,zK,zK]
 rw[e]
 have d:=vV x
 have g:=vV y
 have h:=vU x
 have i:=vU y
 have j:=zX x.num.natAbs y.den
 have l:=zX y.num.natAbs x.den
 have m:=zX x.den y.den
 refine cf (Cd (k:=bt x+bt y-1) (oN x.den_pos y.den_pos) ?_ G) G
 refine nD ?_
 have n:(x.num*(y.den:Int)+y.num*(x.den:Int)).natAbs≤x.num.natAbs*y.den+y.num.natAbs*x.den:=by
  refine cf (II _ _) ?_
  rw[Bz,Bz,Et,Et]
  exact bV _
 have o:=ux (x.num.natAbs*y.den)
 have f:=ux (y.num.natAbs*x.den)
 have a:2^bl (x.num.natAbs*y.den)≤2^(bt x+bt y-2):=lH G G
 have b:2^bl (y.num.natAbs*x.den)≤2^(bt x+bt y-2):=lH G G
 have c:2^(bt x+bt y-1)=2^(bt x+bt y-2)*2:=by rw[←gj];congr 1;omega
 omega
theorem To (x:Rat):2≤bt x:=by
 have:=vQ x.den_pos
 unfold bt
 omega
theorem CO (n:Nat):(lb n).length≤bl n:=gw (eT (ux n) (by
 have:∀k:Nat,2^k≤4294967296^k:=λk=>Nat.pow_le_pow_left G k
 exact this _))
theorem XG (x:Rat):x.nl.length<bt x:=nA (CO _) (vV x)
theorem V6 (x:Rat):x.dl.length<bt x:=by
 unfold Rat.dl
 split
 ·have:=To x;simp;omega
 ·exact nA (CO _) (vU x)
section
open Go.Lib
section
variable {w w0:World} {l m:List UInt8} {v x:Value}
def LO (m:List UInt8):List UInt8:=uv m.length++m
end
end
section
variable {w0 w:World} {l m:List UInt8} {v x:Value} {ty:TypeId}
def vq (base:Nat) (l:List UInt8) (v:Value) (w:World):Prop:=eH base l v w∨(cV l v w∧∃ad,v=.slice (some ad) l.length l.length)
theorem vq.aL {base:Nat} {w':World} (h:vq base l v w) (a:ao w w'):vq base l v w':=h.imp (·.aL a) λh=>⟨h.1.aL a,h.2⟩
theorem NW (e:ao w0 w) (b:vq w0.heap.size l v w) (s:cV m x w) (hm:0<m.length) (C:l.length+m.length≤140737488355328):
 ∃r w',(Builtin.append_ #[28,28] ty #[v,x]).run Tryz.prog w=.ok r w'∧eH w0.heap.size (l++m) r w'∧ao w0 w':=by
 rcases b with b|⟨b,ad,rfl⟩
 ·obtain⟨r,w',f,a,d⟩:=uP (ty:=ty) b s C e.size
  exact⟨r,w',f,a,ao.a6 e d b.ge⟩
 ·obtain⟨i,hi,M,L,D⟩:=info_parts AC
  obtain⟨A,n,c,g,V,Q,T,F,_⟩:=b
  injection g with g hn hc'
  subst g hn hc'
  obtain⟨N,o,y,rfl,W,R,p,H,_⟩:=s
  have U:o=m.length:=by simpa using p.symm
  obtain⟨t,z,J⟩:=H G
  subst z
  have K:∀j u,(l.map U8)[j]? =some u→w.cell? (ad.add j)=some u:=λj u q=>by
   have S:j<l.length:=by
    have:=(pl.1 q).1
    simpa using this
   obtain⟨O,a,d⟩:=F G
   cases a
   exact d j u q
  obtain⟨r,w',f,a,d⟩:=run_append_arg_grows (P:=Tryz.prog) w 28 ty 5 i (.int .u8 0) 1 1 iB hi M L D rfl G ad l.length l.length (l.map U8) aj K t o y (m.map U8) p J G (by unfold maxLen;omega) G
  refine⟨r,w',f,⟨l.length+o,?_⟩,e.a7 d (λk h=>by cases h)⟩
  rw[mg]
  exact Hb a (λk h=>cf e.size (World.ownsRow.lt a k h).1)
end
inductive Dt where
 |int (k:IntKind) (n:Int)
 |bool (b:Bool)
 |str (l:List UInt8)
 |sl (l:List Dt)
 |st (l:List Dt)
mutual
def Dt.size:Dt→Nat
 |.int _ _=>1
 |.bool _=>1
 |.str _=>1
 |.sl _=>1
 |.st l=>Dt.bS l
def Dt.bS:List Dt→Nat
 |[]=>0
 |d::l=>d.size+Dt.bS l
end
mutual
def Rp (w:World):Dt→List Value→Prop
 |.int k n,cs=>cs=[.int k n]
 |.bool b,cs=>cs=[.bool b]
 |.str l,cs=>cs=[S l]
 |.sl l,cs=>∃A n c,cs=[.slice A n c]∧l.length=n∧n≤c∧c≤maxLen∧(A=none→c=0)∧(0<n→∃ad xs,A=some ad∧ez w ad xs∧bG w l xs)
 |.st l,cs=>bG w l cs
def bG (w:World):List Dt→List Value→Prop
 |[],cs=>cs=[]
 |d::ds,cs=>∃c1 c2,cs=c1++c2∧Rp w d c1∧bG w ds c2
end
mutual
theorem Rp.len {w:World}:∀{d:Dt} {cs:List Value},Rp w d cs→cs.length=d.size
 |.int k n,cs,h=>by simp only[Rp] at h;subst h;rfl
 |.bool b,cs,h=>by simp only[Rp] at h;subst h;rfl
 |.str l,cs,h=>by simp only[Rp] at h;subst h;rfl
 |.sl l,cs,h=>by simp only[Rp] at h;obtain⟨A,n,c,rfl,_⟩:=h;rfl
 |.st l,cs,h=>by simp only[Rp] at h;simpa [Dt.size] using bG.len h
theorem bG.len {w:World}:∀{l:List Dt} {cs:List Value},bG w l cs→cs.length=Dt.bS l
 |[],cs,h=>by simp only[bG] at h;subst h;rfl
 |d::l,cs,h=>by
  simp only[bG] at h
  obtain⟨c,e,rfl,a,b⟩:=h
  simp[Dt.bS,Rp.len a,bG.len b]
end
mutual
theorem Rp.aL {w w':World} (a:ao w w'):∀{d:Dt} {cs:List Value},Rp w d cs→Rp w' d cs
 |.int k n,cs,h=>by simpa only[Rp] using h
 |.bool b,cs,h=>by simpa only[Rp] using h
 |.str l,cs,h=>by simpa only[Rp] using h
 |.sl l,cs,h=>by
  simp only[Rp] at h⊢
  obtain⟨A,n,c,e,f,g,i,j,m⟩:=h
  refine⟨A,n,c,e,f,g,i,j,λr=>?_⟩
  obtain⟨ad,xs,o,p,q⟩:=m r
  exact⟨ad,xs,o,p.aL a,bG.aL a q⟩
 |.st l,cs,h=>by simp only[Rp] at h⊢;exact bG.aL a h
theorem bG.aL {w w':World} (a:ao w w'):∀{l:List Dt} {cs:List Value},bG w l cs→bG w' l cs
 |[],cs,h=>by simpa only[bG] using h
 |d::l,cs,h=>by
  simp only[bG] at h⊢
  obtain⟨b,c,e,f,g⟩:=h
  exact⟨b,c,e,Rp.aL a f,bG.aL a g⟩
end
section
variable {w:World}
theorem bG.nil:bG w [] []:=by simp only[bG]
theorem bG.a1 {d:Dt} {l:List Dt} {a b:List Value} (h:Rp w d a) (c:bG w l b):bG w (d::l) (a++b):=by simp only[bG];exact⟨a,b,rfl,h,c⟩
theorem oH {sz:Nat}:∀{l:List Dt},(∀d∈l,d.size=sz)→Dt.bS l=l.length*sz
 |[],_=>by simp[Dt.bS]
 |d::l,h=>by
  rw[Dt.bS,h d aj,oH λe a=>h e (by simp[a]),cw,fk]
  omega
theorem bG.split {sz:Nat}:∀{l:List Dt} {xs:List Value} (k:Nat),bG w l xs→(∀d∈l,d.size=sz)→k≤l.length→bG w (l.take k) (xs.take (k*sz))∧bG w (l.drop k) (xs.drop (k*sz))
 |l,xs,0,h,_,_=>by simp[bG.nil,h]
 |[],xs,k+1,h,_,hk=>by simp at hk
 |d::l,xs,k+1,h,hs,hk=>by
  simp only[bG] at h
  obtain⟨a,m,rfl,b,c⟩:=h
  have i:a.length=sz:=by rw[b.len];exact hs d aj
  obtain⟨f,g⟩:=bG.split k c (λe j=>hs e (by simp[j])) (by simpa using hk)
  have e:(k+1)*sz=a.length+k*sz:=by rw[i,fk];omega
  rw[e,List.take_length_add_append,List.drop_length_add_append]
  exact⟨bG.a1 b f,g⟩
theorem bG.at {sz:Nat} {l:List Dt} {xs:List Value} {i:Nat} (h:bG w l xs) (hs:∀d∈l,d.size=sz) (hi:i<l.length):Rp w l[i] ((xs.drop (i*sz)).take sz):=by
 obtain⟨_,a⟩:=bG.split i h hs G
 rw[lE hi] at a
 simp only[bG] at a
 obtain⟨c,g,f,b,_⟩:=a
 have e:c.length=sz:=by rw[b.len];exact hs _ (eK hi)
 rw[f,←e,EK]
 ·exact b
 ·rfl
theorem Rp.c5 {l:List Dt} (h:Rp w (.sl l) [v]) (hs:∀d∈l,d.size=sz):∃xs,Sl sz xs v w∧bG w l xs:=by
 simp only[Rp] at h
 obtain⟨A,n,c,m,i,b,e,f,j⟩:=h
 obtain rfl:v=.slice A n c:=by simpa using m
 rcases fm n with a|a
 ·have:l=[]:=gT G
  subst this
  exact⟨[],⟨A,n,c,aa,b,e,by subst a;simp,λh=>by omega,f⟩,bG.nil⟩
 ·obtain⟨ad,xs,rfl,k,g⟩:=j a
  exact⟨xs,⟨_,n,c,aa,b,e,by rw[g.len,oH hs,i],λ_=>⟨ad,rfl,k⟩,f⟩,g⟩
theorem Rp.cc {l:List Dt} (h:Sl sz xs v w) (a:bG w l xs) (hs:∀d∈l,d.size=sz) (b:0<sz):Rp w (.sl l) [v]:=by
 obtain⟨A,n,c,rfl,e,f,g,i,j⟩:=h
 simp only[Rp]
 refine⟨A,n,c,aa,?_,e,f,j,λm=>?_⟩
 ·have:=a.len
  rw[oH hs,g] at this
  exact(ER b this).symm
 ·obtain⟨ad,rfl,k⟩:=i m
  exact⟨ad,xs,aa,k,a⟩
theorem Rp.isSlice {l:List Dt} (h:Rp w (.sl l) cs):∃v,cs=[v]∧Rp w (.sl l) [v]∧v.oneCell'=true:=by
 have a:=h
 simp only[Rp] at h
 obtain⟨A,n,c,rfl,_⟩:=h
 exact⟨_,aa,a,aa⟩
theorem Rp.da:Rp w (.sl []) [.slice none 0 0]:=by
 simp only[Rp]
 exact⟨none,0,0,aa,aa,bV _,pq _,λ_=>rfl,λh=>by omega⟩
theorem Rp.e8 {l:List Dt} (h:Rp w (.sl l) [v]):l.length≤9223372036854775807:=by
 simp only[Rp] at h
 obtain⟨A,n,c,_,b,d,a,_⟩:=h
 unfold maxLen at a
 omega
theorem bG.cx {α:Type} {f:α→Dt} {g:α→Value} (a:∀x cs,Rp w (f x) cs↔cs=[g x]):∀{l:List α} {xs:List Value},bG w (l.map f) xs↔xs=l.map g
 |[],xs=>by simp only[nW,bG]
 |x::l,xs=>by
  simp only[iy,bG,a]
  constructor
  ·rintro⟨b,c,rfl,rfl,h⟩
   rw[(bG.cx a).1 h];rfl
  ·rintro rfl
   exact⟨[g x],l.map g,aa,aa,(bG.cx a).2 aa⟩
theorem Rp.ek {α:Type} {f:α→Dt} {g:α→Value} (b:∀x cs,Rp w (f x) cs↔cs=[g x]) (c:∀x,(f x).size=1) {l:List α}:Rp w (.sl (l.map f)) [v]↔Sl 1 (l.map g) v w:=by
 have hs:∀d∈l.map f,d.size=1:=by
  intro d i
  obtain⟨x,_,rfl⟩:=fF.1 i
  exact c x
 constructor
 ·intro h
  obtain⟨xs,a,e⟩:=h.c5 hs
  rw[(bG.cx b).1 e] at a
  exact a
 ·intro h
  exact Rp.cc h ((bG.cx b).2 aa) hs G
def nf (x:UInt32):Dt:=.int .u32 (x.toNat:Int)
def dI (x:Int64):Dt:=.int .i64 x.toInt
theorem Rp.words:Rp w (.sl (l.map nf)) [v]↔Sl 1 (l.map bz) v w:=Rp.ek (λx cs=>by simp only[nf,Rp,bz]) λ_=>rfl
end
section
variable {P:Program} {w:World} {t e:TypeId}
theorem YR {l:List Dt} (b:P.underlying t=some (.slice e)) (h:Rp w (.sl l) [v]):(Builtin.len_ #[t] ty #[v]).run P w=.ok (I l.length) w:=by
 simp only[Rp] at h
 obtain⟨A,n,c,d,a,_⟩:=h
 obtain rfl:v=.slice A n c:=by simpa using d
 simp[Builtin.len_,run_underlying b,goInt,I,a]
theorem YN {l:List Dt} (m:P.underlying t=some (.slice e)) (n:(P.info? e).map (·.size)=some sz) (h:Rp w (.sl l) [v]) (hs:∀d∈l,d.size=sz) (b:0<sz) (hi:i<l.length) (k:IntKind):
 ∃ad cs,(∀w':World,(Instr.indexAt t v (.int k i)).run P w'=.ok (.pointer (some ad)) w')∧ez w ad cs∧Rp w l[i] cs:=by
 obtain⟨xs,c,a⟩:=h.c5 hs
 have j:(i+1)*sz≤xs.length:=by
  rw[a.len,oH hs]
  exact fH _ hi
 obtain⟨ad,f,g⟩:=Dx m n c j b k
 exact⟨ad,_,f,g,a.at hs hi⟩
theorem ez.cell0 (h:ez w ad [v]):w.cell? ad=some v:=by
 have:=h 0 v rfl
 rwa [tD] at this
theorem ez.cell {ad:Addr} {xs:List Value} (h:ez w ad xs) (j:Nat) {v:Value} (a:xs[j]? =some v):w.cell? (ad.add j)=some v:=h j v a
theorem YP {d:TypeDesc} (h:ez w ad cs) (c:P.underlying t=some d) (f:d.isRow=true) (e:(P.info? t).map (·.size)=some cs.length):(Instr.loadAt t (.pointer (some ad))).run P w=.ok (.agg cs.toArray) w:=by
 have a:(isAgg t).run P w=.ok true w:=by
  unfold isAgg
  simp only[Sem.run_bind,run_underlying c,Result.andThen_ok]
  cases d<;>simp_all [TypeDesc.isRow]
 have b:=run_loadCells_list (P:=P) (w:=w) ad cs h
 simp[Instr.loadAt,Instr.sureAddr,loadVar,Sem.run_bind,a,pY e,b]
end
section
variable {P:Program} {H:Type} {enc:TypeId×Value→H} {W:World} {base:Nat} {spare:Nat→Bool} {held:Bool}
def u7 (P:Program) (ts:List TypeId):List Field→Nat→Nat→Bool
 |[],o,n=>o==n
 |f::fs,o,n=>f.offset==o&&ts.contains f.type&&u7 P ts fs (o+P.cellsOf f.type) n
def F9 (P:Program) (ts:List TypeId):Bool:=ts.all λt=>
 match P.underlying t with
 |some (.int _)=>P.cellsOf t==1
 |some .bool=>P.cellsOf t==1
 |some .string=>P.cellsOf t==1
 |some (.slice e)=>P.cellsOf t==1&&ts.contains e
 |some (.struct fs)=>u7 P ts fs.toList 0 (P.cellsOf t)
 |some (.array n e)=>P.cellsOf t==n*P.cellsOf e&&ts.contains e
 |_=>false
mutual
def gk:DataW H→Dt
 |.lit (.int k n)=>.int k n
 |.lit (.bool b)=>.bool b
 |.lit (.string l)=>.str l
 |.slice elems _=>.sl (tH elems)
 |.agg parts=>.st (tH parts)
 |_=>.sl []
def tH:List (DataW H)→List Dt
 |[]=>[]
 |d::l=>gk d::tH l
end
theorem Cv:∀(l:List (DataW H)),tH l=l.map gk
 |[]=>by simp[tH]
 |d::l=>by simp[tH,Cv l]
inductive Ty (P:Program):TypeId→Dt→Prop
 |int {t k n}:P.underlying t=some (.int k)→(Lit.int k n).wf=true→Ty P t (.int k n)
 |bool {t b}:P.underlying t=some .bool→Ty P t (.bool b)
 |str {t l}:P.underlying t=some .string→l.length≤maxLen→Ty P t (.str l)
 |sl {t e l}:P.underlying t=some (.slice e)→(∀d∈l,Ty P e d)→Ty P t (.sl l)
 |st {t fs l}:P.underlying t=some (.struct fs)→l.length=fs.size→(∀(i:Nat) (f:Field) (d:Dt),fs[i]? =some f→l[i]? =some d→Ty P f.type d)→Ty P t (.st l)
 |arr {t e n l}:P.underlying t=some (.array n e)→l.length=n→(∀d∈l,Ty P e d)→Ty P t (.st l)
theorem ON {sz:Nat} {a:Addr}:∀(ds:List Dt) (k:Nat),(∀(i:Nat) (d:Dt),ds[i]? =some d→∃c:List Value,c.length=sz∧(∀j u,c[j]? =some u→W.cell? (a.add ((k+i)*sz+j))=some u)∧Rp W d c)→
 ∃xs,bG W ds xs∧∀j u,xs[j]? =some u→W.cell? (a.add (k*sz+j))=some u
 |[],k,_=>⟨[],bG.nil,aj⟩
 |d::ds,k,h=>by
  obtain⟨c,l,f,g⟩:=h 0 d rfl
  obtain⟨xs,m,n⟩:=ON ds (k+1) λi e o=>by
   obtain⟨c,l,f,g⟩:=h (i+1) e o
   exact⟨c,l,λj u b=>by rw[←f j u b];congr 2;congr 2;omega,g⟩
  refine⟨c++xs,bG.a1 g m,λj u b=>?_⟩
  rw[List.getElem?_append] at b
  split at b
  ·have:=f j u b
   rwa [lG] at this
  ·rename_i p
   have:=n _ u b
   rw[←this]
   congr 2
   rw[l] at p⊢
   rw[fk]
   omega
theorem Mj {ts:List TypeId} {n:Nat} {cs:List Value} (l:∀(t:TypeId) (cs:List Value) (x:DataW H×List MemPlace),t∈ts→DataW.trod enc P W base spare held n t cs=some x→Rp W (gk x.1) cs∧Ty P t (gk x.1)):
 ∀(fs:List Field) (o:Nat) (xs:List (DataW H×List MemPlace)),xs.length=fs.length→u7 P ts fs o cs.length=true→o≤cs.length→
  (∀(i:Nat) (f:Field),fs[i]? =some f→DataW.trod enc P W base spare held n f.type ((cs.drop f.offset).take (P.cellsOf f.type))=xs[i]?)→
  bG W (xs.map λx=>gk x.1) (cs.drop o)∧∀(i:Nat) (f:Field) (d:Dt),fs[i]? =some f→(xs.map λx=>gk x.1)[i]? =some d→Ty P f.type d
 |[],o,xs,hl,hs,ho,_=>by
  have:xs=[]:=gT (by simpa using hl)
  subst this
  have:o=cs.length:=by simpa [u7] using hs
  subst this
  simp[bG.nil]
 |f::fs,o,xs,hl,hs,ho,h=>by
  cases xs with
  |nil=>simp at hl
  |cons x xs=>
   simp only[u7,ex,beq_iff_eq] at hs
   obtain⟨⟨m,p⟩,j⟩:=hs
   have c:=h 0 f rfl
   simp only[IU] at c
   obtain⟨k,q⟩:=l f.type _ x (by simpa using p) c
   have u:∀(fs:List Field) (o:Nat),u7 P ts fs o cs.length=true→o≤cs.length:=by
    intro fs
    induction fs with
    |nil=>intro o h;have:o=cs.length:=by simpa [u7] using h
          omega
    |cons g fs v=>intro o h;simp only[u7,ex] at h;have:=v _ h.2;omega
   obtain⟨r,s⟩:=Mj l fs (o+P.cellsOf f.type) xs (by simpa using hl) j (u _ _ j) λi g a=>by simpa using h (i+1) g (by simpa using a)
   refine⟨?_,λi g d a b=>?_⟩
   ·rw[m] at k
    have e:cs.drop o=(cs.drop o).take (P.cellsOf f.type)++cs.drop (o+P.cellsOf f.type):=by
     rw[←tq,nz]
    rw[e]
    exact bG.a1 k r
   ·cases i with
    |zero=>
     simp only[IU,Option.some.injEq] at a
     subst a
     simp only[iy,IU,Option.some.injEq] at b
     subst b
     exact q
    |succ i=>exact s i g d (by simpa using a) (by simpa using b)
theorem NF {ts:List TypeId} (Q:F9 P ts=true):∀(fuel:Nat) (t:TypeId) (cs:List Value) (x:DataW H×List MemPlace),t∈ts→DataW.trod enc P W base spare held fuel t cs=some x→Rp W (gk x.1) cs∧Ty P t (gk x.1)
 |0,t,cs,x,_,h=>by simp[DataW.trod] at h
 |fuel+1,t,cs,x,M,h=>by
  have N:=NF Q fuel
  have v:=kR.1 Q t M
  split at v
  ·rename_i k g
   obtain⟨n,rfl,rfl,hw⟩:=DataW.trod_int g h
   exact⟨by simp only[gk,Rp],Ty.int g hw⟩
  ·rename_i g
   obtain⟨b,rfl,rfl⟩:=DataW.trod_bool g h
   exact⟨by simp only[gk,Rp],Ty.bool g⟩
  ·rename_i g
   obtain⟨s,rfl,rfl,hs⟩:=DataW.trod_string g h
   exact⟨by simp only[gk,Rp,S,Array.toArray_toList],Ty.str g (by simpa using hs)⟩
  ·rename_i e g
   simp only[ex,beq_iff_eq] at v
   have L:e∈ts:=by simpa using v.2
   rcases DataW.trod_slice g h with⟨rfl,rfl⟩|⟨a,R,T,F,rest,n,z,rfl,rfl,hb,D,hm,A,Z,_,_⟩
   ·exact⟨by simp only[gk];exact Rp.da,by simp only[gk];exact Ty.sl g aj⟩
   ·obtain rfl:fuel=n:=by omega
    have C:∀(i:Nat) (y:DataW H×List MemPlace),F[i]? =some y→∃c:List Value,c.length=P.cellsOf e∧(∀j u,c[j]? =some u→W.cell? (a.add (i*P.cellsOf e+j))=some u)∧Rp W (gk y.1) c∧Ty P e (gk y.1):=by
     intro i y o
     have hi:i<R:=by
      have:=(pl.1 o).1
      omega
     have l:=Z i hi
     rw[o,i8] at l
     obtain⟨c,p,J⟩:=l
     obtain⟨_,O,V⟩:=World.cells?_some p
     obtain⟨X,Y⟩:=N e c y L J
     refine⟨c,O,λj u g=>?_,X,Y⟩
     have hj:j<P.cellsOf e:=by rw[←O];exact(pl.1 g).1
     have:=V j hj
     rw[Fy,g] at this
     exact this
    obtain⟨xs,l,p⟩:=ON (W:=W) (sz:=P.cellsOf e) (a:=a) (F.map λy=>gk y.1) 0 λi d w=>by
     rw[tu,gU] at w
     obtain⟨y,o,rfl⟩:=w
     obtain⟨c,l,p,J,_⟩:=C i y o
     exact⟨c,l,by rw[gB];exact p,J⟩
    have r:tH (F.map (·.1))=F.map λy=>gk y.1:=by rw[Cv,tz];rfl
    refine⟨?_,?_⟩
    ·simp only[gk,Rp]
     rw[r]
     exact⟨some a,R,T,aa,by simpa using A,D,hm,(λh=>by cases h),λ_=>⟨a,xs,aa,λj u g=>by have:=p j u g;rwa [EZ,gB] at this,l⟩⟩
    ·simp only[gk]
     rw[r]
     refine Ty.sl g λd w=>?_
     obtain⟨y,o,rfl⟩:=fF.1 w
     obtain⟨i,hi,rfl⟩:=BF o
     obtain⟨_,_,_,_,U⟩:=C i _ (fy hi)
     exact U
  ·rename_i fs g
   obtain⟨xs,n,z,rfl,D,A,K⟩:=DataW.trod_struct g h
   obtain rfl:fuel=n:=by omega
   obtain⟨l,p⟩:=Mj (cs:=cs) (λt cs x M h=>N t cs x M h) fs.toList 0 xs (by simpa using A) (by rw[D];exact v) (pq _) λi f z=>K i f (by simpa using z)
   have r:tH (xs.map (·.1))=xs.map λy=>gk y.1:=by rw[Cv,tz];rfl
   refine⟨?_,?_⟩
   ·simp only[gk,Rp]
    rw[r]
    simpa using l
   ·simp only[gk]
    rw[r]
    exact Ty.st g (by simpa using A) λi f d z w=>p i f d (by simpa using z) w
  ·rename_i m e g
   simp only[ex,beq_iff_eq] at v
   have L:e∈ts:=by simpa using v.2
   obtain⟨xs,n,z,rfl,D,A,K⟩:=DataW.trod_array g h
   obtain rfl:fuel=n:=by omega
   have r:tH (xs.map (·.1))=xs.map λy=>gk y.1:=by rw[Cv,tz];rfl
   have C:∀(i:Nat) (y:DataW H×List MemPlace),xs[i]? =some y→Rp W (gk y.1) ((cs.drop (i*P.cellsOf e)).take (P.cellsOf e))∧Ty P e (gk y.1):=λi y o=>by
    have hi:i<m:=by
     have:=(pl.1 o).1
     omega
    have l:=K i hi
    rw[o] at l
    exact N e _ y L l
   have all:∀(k:Nat),k≤m→bG W ((xs.map λy=>gk y.1).drop k) (cs.drop (k*P.cellsOf e)):=by
    intro k hk
    induction hq:m-k generalizing k with
    |zero=>
     have:k=m:=G
     subst this
     rw[kT dT,kT (by rw[D,v.1];exact bV _)]
     exact bG.nil
    |succ q ae=>
     have ab:k<(xs.map λy=>gk y.1).length:=dT
     have l:=ae (k+1) G G
     have ad:k<xs.length:=G
     obtain⟨p,_⟩:=C k _ (fy ad)
     rw[lE ab]
     have e:cs.drop (k*P.cellsOf e)=(cs.drop (k*P.cellsOf e)).take (P.cellsOf e)++cs.drop ((k+1)*P.cellsOf e):=by
      rw[fk,nC,←tq,nz]
     rw[e]
     refine bG.a1 ?_ l
     simpa using p
   refine⟨?_,?_⟩
   ·simp only[gk,Rp]
    rw[r]
    simpa using all 0 (pq _)
   ·simp only[gk]
    rw[r]
    refine Ty.arr g (by simpa using A) λd w=>?_
    obtain⟨y,o,rfl⟩:=fF.1 w
    obtain⟨i,hi,rfl⟩:=BF o
    exact(C i _ (fy hi)).2
  ·cases v
end
def FR (rd:Option Nat):Fence:={Fence.wide with round:=rd}
theorem Em (rd:Option Nat):¬(FR rd).depth.isSome=true:=by simp[FR,Fence.wide]
theorem Vn {f:FuncId} {args:Array Value} {R:Ending→World→Prop} (h:Calls P f args w R):CallsIn (FR rd) n P f args w R:=
 (callsIn_wide (n:=n)).2 h
theorem ZB {a:String} {args:Array Value} {R:Value→World→Prop} (h:Rows P a args w R):RowsIn (FR rd) n P a args w R:=
 λc cs _=>let ⟨v,w',r,s⟩:=h c cs;⟨v,w',r,stepsIn_wide.2 s⟩
theorem aav {o:Oper} {a:Act} {K j:Act→World→Prop} {Q:Exit→Act→World→Prop} {r:Result Next} (g:∀a w,K a w→j a w) (h:o.upon P a K Q r):o.uponIn (FR rd) n P a j Q r:=by
 cases r with
 |ok x w'=>
  cases x with
  |value v=>exact g _ _ h
  |skip=>exact g _ _ h
  |defer d=>exact g _ _ h
  |enter f args=>
   refine⟨λi=>absurd i (Em rd),Vn (Calls.mono h ?_)⟩
   intro e k b
   cases e with
   |returned v=>exact g _ _ b
   |panicked c=>exact b
   |outgrown=>exact b
  |row s args=>
   refine⟨λi=>absurd i (Em rd),ZB (Rows.mono h ?_)⟩
   intro v k b
   exact g _ _ b
  |_=>exact h.elim
 |halt x w'=>
  cases x with
  |panic v=>exact h
  |_=>exact h.elim
theorem pQ {K:Act→World→Prop} {Q:Exit→Act→World→Prop} (h:¬LetsOut Q):¬LetsOut (Exit.then K Q):=λ⟨a,w,b⟩=>h ⟨a,w,b⟩
theorem AT {id:Nat} {Q:Exit→Act→World→Prop} (h:¬LetsOut Q):¬LetsOut (Exit.inBlock id Q):=λ⟨a,w,b⟩=>h ⟨a,w,b⟩
theorem AW {α:Type} {B:Nat} {Kp:World→World→Prop} {I:List α→World→Prop} {a:Code→List α→World→Prop} {xs:List α} {W:World}:¬LetsOut (ownPostG B Kp I a xs W):=λ⟨_,_,b⟩=>b
theorem AU {T:Value→World→Prop}:¬LetsOut (bodyPost P fn (aJ T)):=λ⟨_,_,b⟩=>by
 obtain⟨v,a,_⟩:=b
 cases a
theorem AV {T:Value→World→Prop}:¬LetsOut (bodyPostM Fence.wide 0 P fn (aJ T)):=λ⟨_,_,b⟩=>by
 obtain⟨v,a,_⟩:=b
 cases a
def AS (os:List Oper):Bool:=os.all λo=>match o.op with|.defer _=>false|_=>true
theorem XH {os:List Oper} (h:AS os=true) {o:Oper} (b:os[i]? =some o):∀c,o.op≠.defer c:=λc a=>by
 have:=kR.1 h o (tA b)
 rw[a] at this
 cases this
theorem ZW {o:Oper} (h:rd=none∨∀c,o.op≠.defer c) (ρ:Operand→Value):o.semAt (FR rd).round ρ=execOp ρ o:=by
 rcases h with rfl|h
 ·exact Oper.semAt_none ρ o
 ·exact Oper.semAt_eq _ ρ o h
theorem NG {o:Oper} {a:Act} {K b:Act→World→Prop} {Q:Exit→Act→World→Prop} (d:rd=none∨∀c,o.op≠.defer c) (e:∀a w,K a w→b a w) (h:o.wp P a w K Q):o.wpIn (FR rd) n P a w b Q:=
 ⟨λ_ _=>trivial,by rw[ZW d];exact aav e h⟩
theorem NH {os:List Oper} {Q:Exit→Act→World→Prop} (hQ:¬LetsOut Q) (b:rd=none∨AS os=true):∀(l:List Nat) (a:Act) (w:World),wpOps P os.toArray Q l a w→wpOpsIn (FR rd) n P os.toArray Q l a w:=by
 intro l
 induction l with
 |nil=>intro a w h;exact h
 |cons i l e=>
  intro a w h
  unfold wpOps at h
  unfold wpOpsIn
  cases c:os.toArray[i]? with
  |none=>
   simp only[c] at h⊢
   exact e a w h
  |some o=>
   simp only[c] at h⊢
   split
   ·rename_i d
    rw[if_pos d] at h
    exact NG (b.imp_right λb=>XH b (by simpa using c)) e (h.resolve_right λh=>hQ h.2)
   ·rename_i d
    rw[if_neg d] at h
    exact⟨λ_ _=>trivial,e _ _ h⟩
section
variable {P:Program} {ops:Array Oper} {Q:eV} {N:Nat} {D:List Deferred} {rd:Option Nat}
def gN (rd:Option Nat) (P:Program) (Q:eV) (N:Nat) (D:List Deferred) (l:Fr) (w:World) (c:Code):Prop:=∀a,At N D l a→c.wpIn (FR rd) 0 P Q a w
theorem gN.of {l:Fr} {c:Code} (h:dS P Q N D l w c):gN none P Q N D l w c:=λa b=>wpIn_wide.2 (h a b)
namespace I
section code
variable {l l':Fr} {w:World}
theorem ah {x y:Code} (h:gN rd P (Exit.then (y.wpIn (FR rd) 0 P Q) Q) N D l w x):gN rd P Q N D l w (.seq x y):=λa b=>wpIn_seq (h a b)
theorem aH (h:ie Q N D l w):gN rd P Q N D l w .skip:=λa b=>wpIn_skip (h a b)
theorem al {y:Code} {Q':eV} (h:gN rd P Q N D l w y):ie (Exit.then (y.wpIn (FR rd) 0 P Q) Q') N D l w:=λa b=>h a b
theorem aR {id:Nat} {c:Code} (h:gN rd P (Exit.inBlock id Q) N D l w c):gN rd P Q N D l w (.block id c):=λa b=>wpIn_block (h a b)
theorem ce {id:Nat} (h:gZ Q N D l w (.exit id)):gN rd P Q N D l w (.exit id):=λa b=>wpIn_exit (h a b)
theorem aA (h:gZ Q N D l w .ret):gN rd P Q N D l w .ret:=λa b=>wpIn_ret (h a b)
theorem lQ {c:Operand} {x y:Code} {b:Bool} (e:ev l c=some (.bool b)) (g:b=true→gN rd P Q N D l w x) (f:b=false→gN rd P Q N D l w y):gN rd P Q N D l w (.cond c x y):=λa d=>
 wpIn_cond_split (d.ev e) (λh=>g h a d) (λh=>f h a d)
theorem bc {c:Operand} {x y:Code} {p:Prop} {a:Decidable p} (b:ev l c=some (.bool (@decide p a))) (e:p→gN rd P Q N D l w x) (d:¬p→gN rd P Q N D l w y):gN rd P Q N D l w (.cond c x y):=
 I.lQ b (λh=>e (ip h)) (λh=>d (G9 h))
theorem bT {c:Operand} {x y:Code} (a:ev l c=some (.bool true)) (b:gN rd P Q N D l w x):gN rd P Q N D l w (.cond c x y):=I.lQ a (λ_=>b) (λh=>by cases h)
theorem be {c:Operand} {x y:Code} (a:ev l c=some (.bool false)) (b:gN rd P Q N D l w y):gN rd P Q N D l w (.cond c x y):=I.lQ a (λh=>by cases h) (λ_=>b)
theorem iS {c:Code} {α:Type} (fr:α→Fr) (H:α→World→Prop) (h:gN rd P (Exit.then (λa w'=>∃x,At N D (fr x) a∧H x w') Q) N D l w c) (k:∀x w',H x w'→ie Q N D (fr x) w'):gN rd P Q N D l w c:=λa g=>
 wpIn_mono (h a g) λe d w' b=>by
  cases e with
  |normal=>
   obtain⟨x,i,f⟩:=b
   exact k x w' f d i
  |_=>exact b
theorem eg {c:Code} {α:Type} (fr:α→Fr) (H:α→World→Prop) (i:α→Nat) (x0:α) (hs:Sub (fr x0) l) (q:H x0 w)
 (round:∀x w',H x w'→gN rd P (Exit.then (λa K=>∃y,At N D (fr y) a∧H y K∧i y<i x) Q) N D (fr x) w' c):gN rd P Q N D l w (.loop c):=λa t=>by
 intro b k cs C j m
 have p:∀(n:Nat) (x:α) (a:Act) (w:World),i x<n→At N D (fr x) a→H x w→
  ∃e h w',Q e h w'∧ArrivesIn (Machine.fenced P (FR rd)) P (lone (b.atR a (.code c::.inLoop c::k)) cs w) b k cs e h w':=by
  intro n
  induction n with
  |zero=>intro x a w z;omega
  |succ n J=>
   intro x a w z v r
   obtain⟨e,g,w1,f,d⟩:=round x w r a v b (.inLoop c::k) cs C j m
   cases e with
   |normal=>
    obtain⟨y,F,s,hm⟩:=f
    obtain⟨o,a2,w2,A,u⟩:=J y g w1 G F s
    exact⟨o,a2,w2,A,.of_steps (StepsIn.trans d (.one (fenced_calm j m aa) stepR_inLoop)) u⟩
   |exit id=>exact⟨_,g,w1,f,.pass (x:=.inLoop c) rfl (λ_ _=>.inl aj) d⟩
   |goto l=>exact⟨_,g,w1,f,.pass (x:=.inLoop c) rfl (λ_ _=>.inl aj) d⟩
   |ret=>exact⟨_,g,w1,f,.pass (x:=.inLoop c) rfl (λ_ _=>.inl aj) d⟩
   |panic ch=>exact⟨_,g,w1,f,.pass (x:=.inLoop c) rfl (λ_ _=>.inl aj) d⟩
   |outgrown=>exact⟨_,g,w1,f,.pass (x:=.inLoop c) rfl (λ_ _=>.inl aj) d⟩
 obtain⟨e,h,w',f,d⟩:=p (i x0+1) x0 a w G (t.bd hs) q
 exact⟨e,h,w',f,.of_steps (.one (fenced_calm j m aa) stepR_loop) d⟩
theorem ap {id:Nat} {os:List Oper} (c:AS os=true) (h:bK P os.toArray Q N D l w os)
 (hQ:¬LetsOut Q:=by repeat with_reducible first|exact AW|exact AU|exact AV|apply pQ|apply AT):gN rd P Q N D l w (.region id os.toArray false):=λa b=>by
 refine wpIn_region (NH hQ (.inr c) _ _ _ ?_)
 have:=wpOps_eq_wpList (P:=P) (Q:=Q) (ops:=os.toArray) os 0 aj
 rw[List.range_eq_range']
 simp only[zz]
 rw[this]
 exact h a b
theorem Ce {id:Nat} {os:List Oper} (n:Nat) (ts:List Nat) (Env:World→Prop) (Rl:World→World→Prop) (mo:Bool) (Pn:List PanicEntry→World→Prop) (Z:ee) (m:ki Env Rl) (d:Env w) (i:ig Z) (f:Z w) (J:∀c a w,a.defers=D→Pn c w→Q (.panic c) a w) (L:mo=true→nE .any os.toArray=true) (hm:P.follows .mixedOrders=true) (r:Region.lexTailB .any os.toArray n=true) (p:AS os=true)
 (h:cj P os.toArray Env Rl mo Pn N (os.take n) (iU l) Z (λF Z=>∀w',Env w'→Z w'→kU F w' ts (λl'=>bK P os.toArray Q N D l' w' (os.drop n))))
 (hQ:¬LetsOut Q:=by repeat with_reducible first|exact AW|exact AU|exact AV|apply pQ|apply AT):gN rd P Q N D l w (.region id os.toArray true):=λa o=>by
 refine wpIn_region_draw λt=>NH hQ (.inr p) _ _ _ ?_
 have x:ao w {w with drawn:=w.drawn+1}:=⟨rfl,rfl,rfl,bV _,λ_ _=>rfl⟩
 have key:wpAny P .any os.toArray Q os.toArray.size (Array.replicate os.toArray.size false) a {w with drawn:=w.drawn+1}:=by
  simp only[Region.lexTailB,ex,gI] at r
  obtain⟨⟨⟨⟨_,A⟩,hs⟩,K⟩,S⟩:=r
  have X:n<os.length:=by simpa using A
  have k:(os.take n).length=n:=dT
  have u:(os.drop n).length=os.toArray.size-n:=aj
  have V:HeadInv .any os.toArray n (Array.replicate os.toArray.size false):=
   ⟨aj,λj Y _ z=>(by rw[getD_replicate_false] at z;cases z),λt _ T=>getD_in (by simpa using T) (getD_replicate_false _ _)⟩
  have C:cj P os.toArray Env Rl mo Pn N (os.take n) (iU l) Z (λF Z=>∀b w',Env w'→lL N D F b w'→Z w'→wpList P os.toArray Q (os.drop n) b w'):=tm _ _ _ (λF Z G b w' d hs f=>by
   obtain⟨l',R,O⟩:=kU.use hs (G w' d f)
   exact O b R) h
  have H:=Ih (md:=.any) (g:=os.toArray.size-n) L hs K A (os.take n) 0 _ _ _ (λj y=>by
   have M:j<n:=by rw[k] at y;exact y
   simp[M]) (by simpa using k) V (by rw[k];exact S) (ww l) i C
  have q:lL N D (iU l) a {w with drawn:=w.drawn+1}:=⟨o.size,o.defers,λt=>by
   show iU l t (a.tmps.getD t undef) _
   unfold iU
   cases U:lk l t with
   |some v=>exact o.at_ t v U
   |none=>trivial⟩
  have:=Br (D:=D) (Q':=Q) (l0:=[]) (g:=os.toArray.size-n) m (λc a w _ p _ e=>J c a w p e) (λ_ _ _ _ _ _ _ e=>by cases e) (λlisted F Z s W i b w' d q f=>by
   have:=wpAny_of_seq (md:=.any) (Q':=Q) (os.drop n) n listed b w' (λj=>by simp[rO]) (by rw[u];exact s.1) (s.2 b w' d q f)
   rwa [u] at this) _ _ _ _ H (ww l) i a {w with drawn:=w.drawn+1} (m.keep _ _ d (m.aL _ _ x)) q (λ_ e=>by cases e) (i _ _ f x)
  rw[k,show n+(os.toArray.size-n)=os.toArray.size by omega] at this
  exact this
 simp only[Region.schedule,hm,Bool.true_or,if_true]
 exact wpAny_sound os.toArray.size t _ a _ key
theorem cz {id:Nat} {os:List Oper} (n:Nat) (ts:List Nat) (hm:P.follows .mixedOrders=true) (a:Region.lexTailB .any os.toArray n=true) (b:AS os=true)
 (h:cj P os.toArray (ao w) ao false rV N (os.take n) (iU l) (λ_=>True) (λF _=>∀w',ao w w'→kU F w' ts (λl'=>bK P os.toArray Q N D l' w' (os.drop n))))
 (hQ:¬LetsOut Q:=by repeat with_reducible first|exact AW|exact AU|exact AV|apply pQ|apply AT):gN rd P Q N D l w (.region id os.toArray true):=
 Ce n ts (ao w) ao false rV (λ_=>True) (ki.plain w) (ao.refl w) ig.dg trivial (λ_ _ _ _ h=>h.elim) (λh=>by cases h) hm a b (tm _ _ _ (λ_ _ h w' c _=>h w' c) h) hQ
end code
end I
def psF:List (Tmp×Value)→Fr→Fr
 |[],l=>l
 |(p,v)::ps,l=>psF ps ((p,v)::l)
theorem NR {N:Nat}:∀{ps:List (Tmp×Value)} {l:Fr} {t:Array Value},(ps.all λp=>Nat.blt p.1 N)=true→At N [] l ⟨t,[]⟩→At N [] (psF ps l) ⟨ps.foldl (λt (p,v)=>t.setIfInBounds p v) t,[]⟩
 |[],_,_,_,h=>h
 |(p,v)::ps,l,t,hp,h=>by
  simp only[xI,ex] at hp
  exact NR (ps:=ps) hp.2 (h.put hp.1 v)
theorem V8 {f:FuncId} {c:Code} {R:Ending→World→Prop} (i:P.funcs[f]? =some fn) (g:fn.body=some c) (e:fn.ntmps=N) (j:Nat.ble vs.length N=true)
 (h:dS P (bodyPostM Fence.wide 0 P fn R) N [] (gO 0 vs) w c):Calls P f vs.toArray w R:=by
 have l:vs.length≤N:=by simpa using j
 refine callsIn_wide.1 (callsIn_of_wp_marks (F:=Fence.wide) (n:=0) i g trivial (wpIn_wide.2 (h _ ⟨?_,H,λt v k=>?_⟩)) H)
 ·simp[e];omega
 ·obtain⟨_,d⟩:=GV vs 0 t v k
  have a:vs[t]? =some v:=by simpa using d
  have b:t<vs.length:=by
   rcases jn t vs.length with h|h
   ·exact h
   ·rw[zt h] at a;cases a
  rw[fy b] at a
  simpa [Array.getElem?_append,b] using a
def xU (P:Program) (ops:Array Oper) (Q:eV) (N:Nat) (D:List Deferred) (l:Fr) (w:World) (os:List Oper):Prop:=∀a,At N D l a→wpListIn Fence.wide 0 P ops Q os a w
theorem P7 {id:Nat} {os:List Oper} {l:Fr} (h:xU P os.toArray Q N D l w os):dS P Q N D l w (.region id os.toArray false):=λa b=>wpIn_wide.1 (wpIn_region_lit (h a b))
theorem CS (hQ:¬LetsOut Q):∀{xs ys:List Oper} {a:Act} {w:World},wpList P ops (Exit.then (λa w=>wpListIn Fence.wide 0 P ops Q ys a w) Q) xs a w→wpListIn Fence.wide 0 P ops Q (xs++ys) a w
 |[],_,_,_,h=>h
 |o::xs,ys,a,w,h=>by
  unfold wpList at h
  rw[nU]
  unfold wpListIn
  split
  ·rename_i i
   rw[if_pos i] at h
   have j:=NG (P:=P) (rd:=none) (n:=0) (o:=o) (.inl rfl) (λa w h=>CS hQ (xs:=xs) (ys:=ys) h) (h.resolve_right λh=>hQ (oJ λk=>pQ k h.2))
   refine⟨j.1,?_⟩
   have b:o.uponIn Fence.wide 0 P a (λa w=>wpListIn Fence.wide 0 P ops Q (xs++ys) a w) (Exit.then (λa w=>wpListIn Fence.wide 0 P ops Q ys a w) Q) ((o.semAt Fence.wide.round a.eval).run P w):=j.2
   generalize (o.semAt Fence.wide.round a.eval).run P w=r at b⊢
   cases r with
   |ok x w'=>
    cases x with
    |value v=>exact b
    |skip=>exact b
    |defer d=>exact b
    |enter f args=>
     refine⟨b.1,CallsIn.mono b.2 ?_⟩
     intro e l g
     cases e with
     |returned v=>exact g
     |panicked c=>exact g
     |outgrown=>exact g
    |row s args=>exact b
    |round _ _ _ _ _=>
     refine⟨b.1,RoundIn.mono b.2 ?_⟩
     intro e l g
     cases e with
     |returned v=>exact g
     |panicked c=>exact g
     |outgrown=>exact g
    |_=>exact b
   |halt x w'=>
    cases x with
    |panic v=>exact b
    |_=>exact b
  ·rename_i i
   rw[if_neg i] at h
   exact⟨λ_ _=>trivial,CS hQ h⟩
theorem P8 (k:Nat) {os:List Oper} {l:Fr} (h:bK P ops (Exit.then (λa w=>wpListIn Fence.wide 0 P ops Q (os.drop k) a w) Q) N D l w (os.take k))
 (hQ:¬LetsOut Q:=by repeat with_reducible first|exact AW|exact AU|exact AV|apply pQ|apply AT):xU P ops Q N D l w os:=λa b=>by
 have:=CS hQ (h a b)
 rwa [nz] at this
theorem n_y {os:List Oper} {l:Fr} {Q':eV} (h:xU P ops Q N D l w os):ie (Exit.then (λa w=>wpListIn Fence.wide 0 P ops Q os a w) Q') N D l w:=λa b=>h a b
theorem Ea {os:List Oper} {l:Fr} (h:bK P ops Q N D l w os)
 (hQ:¬LetsOut Q:=by repeat with_reducible first|exact AW|exact AU|exact AV|apply pQ|apply AT):xU P ops Q N D l w os:=λa b=>by
 have:=CS hQ (ys:=[]) (P:=P) (ops:=ops) (Q:=Q) (xs:=os) (a:=a) (w:=w) ?_
 ·rwa [jU] at this
 ·have c:∀(os:List Oper) (a:Act) (w:World),wpList P ops Q os a w→wpList P ops (Exit.then (λa w=>wpListIn Fence.wide 0 P ops Q [] a w) Q) os a w:=by
   intro os a w h
   have e:(Exit.then (λa w=>wpListIn Fence.wide 0 P ops Q [] a w) Q)=Q:=by
    funext e a w
    cases e<;>rfl
   rw[e];exact h
  exact c _ _ _ (h a b)
theorem P9 {x:Operand} {xs:List Operand} {ts:Array TypeId} {g d:Nat} {pos:String} {aft:Array Edge} {rest:List Oper} {l:Fr} {R:Ending→World→Prop} (f:ev l x=some (.func (.yield g) #[] #[])) (q:jY l xs=some vs) (b:Nat.blt d N=true)
 (m:YieldAt Fence.wide 0 P g vs.toArray w R) (k:∀e w',R e w'→∃v,e=.returned v∧xU P ops Q N D ((d,v)::l) w' rest):xU P ops Q N D l w (⟨some d,.call {callee:=.value x,args:=xs.toArray,argTypes:=ts},ty,pos,aft,none⟩::rest):=λa h=>by
 obtain⟨fn,tmps,assign,body,s,j⟩:=m
 unfold wpListIn
 rw[if_pos (by rfl)]
 refine⟨λ_ _=>trivial,?_⟩
 have r:(Oper.semAt Fence.wide.round a.eval ⟨some d,.call {callee:=.value x,args:=xs.toArray,argTypes:=ts},ty,pos,aft,none⟩).run P w=.ok (.round g fn tmps assign body) w:=by
  rw[Oper.semAt_eq _ _ _ (by intro c n;cases n)]
  have i:rH l a.eval:=λx v f=>h.ev f
  simp only[execOp,resolve,nX,qX i q,i x _ f,Deferred.ofValue,Sem.run_bind,Sem.run_pure,Result.andThen_ok,invoke,Eh,s]
 rw[r]
 refine⟨λb=>absurd b (Em none),RoundIn.mono j ?_⟩
 intro e w' o
 obtain⟨v,rfl,p⟩:=k e w' o
 exact p _ (h.put b v)
end
section ops
variable {P:Program} {ops:Array Oper} {Q:eV} {N:Nat} {D:List Deferred} {l:Fr} {w w':World} {rest:List Oper} {d:Nat} {ty:TypeId} {pos:String} {aft:Array Edge}
theorem lq {fn:Fn} {fs cs:List Operand} {us:List Value} (e:jY l fs=some us) (b:jY l cs=some vs) (c:Nat.blt d N=true) (k:bK P ops Q N D ((d,.func fn us.toArray vs.toArray)::l) w rest):bK P ops Q N D l w (⟨some d,.makeFunc fn fs.toArray cs.toArray,ty,pos,aft,none⟩::rest):=
 j4 c (λρ a=>by
  have:execOp ρ ⟨some d,.makeFunc fn fs.toArray cs.toArray,ty,pos,aft,none⟩=(do pure (Next.value (←Instr.makeFunc fn (fs.toArray.map ρ) (cs.toArray.map ρ))):Sem Next):=rfl
  rw[this,nX,nX,qX a e,qX a b];rfl) k
theorem im {f:FuncId} {x:Operand} {fs lb:Array Value} {xs:List Operand} {ts:Array TypeId} {T:Value→World→Prop} (b:ev l x=some (.func (.func f) fs lb)) (m:aY P f) (n:jY l xs=some vs) (j:Nat.blt d N=true) (i:Calls P f (fs++vs.toArray++lb) w (aJ T))
 (k:∀v w',T v w'→bK P ops Q N D ((d,v)::l) w' rest):bK P ops Q N D l w (⟨some d,.call {callee:=.value x,args:=xs.toArray,argTypes:=ts},ty,pos,aft,none⟩::rest):=λa c=>by
 refine wpList_plain H λK h=>?_
 unfold Oper.wp
 have o:(execOp a.eval ⟨some d,.call {callee:=.value x,args:=xs.toArray,argTypes:=ts},ty,pos,aft,none⟩).run P w=.ok (.enter f (fs++vs.toArray++lb)) w:=by
  have g:rH l a.eval:=λx v b=>c.ev b
  simp only[execOp,resolve,nX,qX g n,g x _ b,Deferred.ofValue,Sem.run_bind,Sem.run_pure,Result.andThen_ok,invoke,Bh m]
 rw[o]
 refine i.mono ?_
 rintro e w' ⟨v,rfl,p⟩
 exact h _ _ (k v w' p _ (c.put j v))
theorem NB {t:TypeId} (a:Nat.blt d N=true) (k:bK P ops Q N D ((d,.map (some w.heap.size))::l) (w.alloc (.map #[] 0)) rest):bK P ops Q N D l w (⟨some d,.makeMap t none,ty,pos,aft,none⟩::rest):=
 j4 a (λρ _=>by
  have:execOp ρ ⟨some d,.makeMap t none,ty,pos,aft,none⟩=(do pure (Next.value (←Instr.makeMap t none)):Sem Next):=rfl
  rw[this]
  rfl) k
theorem G8 {t:TypeId} {x y:Operand} {r:Value} {ok:Bool} (e:ev l x=some u) (f:ev l y=some v) (b:Nat.blt d N=true) (c:(Instr.lookup t u v ok).run P w=.ok r w) (k:bK P ops Q N D ((d,r)::l) w rest):bK P ops Q N D l w (⟨some d,.lookup t x y ok,ty,pos,aft,none⟩::rest):=
 j4 b (λρ a=>by
  have:execOp ρ ⟨some d,.lookup t x y ok,ty,pos,aft,none⟩=(do pure (Next.value (←Instr.lookup t (ρ x) (ρ y) ok)):Sem Next):=rfl
  rw[this,a x _ e,a y _ f,Sem.run_bind,c];rfl) k
end ops
section fops
variable {P:Program} {ops:Array Oper} {Env:World→Prop} {Rl:World→World→Prop} {mo:Bool} {Pn:List PanicEntry→World→Prop} {Z:ee} {N:Nat} {F:dO} {K:dO→ee→Prop} {rest:List Oper} {d:Nat} {ty:TypeId} {pos:String} {aft:Array Edge}
end fops
theorem WO:(Tryz.prog.info? 3).map (λi=>(i.zero,i.size,i.bytes))=some (some (.int .i64 0),1,8):=by kernel_rfl
section
variable {w w':World} {base:Nat}
def Its (l:List Int):cT:=Sl 1 (l.map I)
def jd (base:Nat) (l:List Int):cT:=λv w=>∃n,w.ownsRow base 3 1 v n (l.map I)
theorem jd.gg {l:List Int} (h:jd base l v w):Its l v w:=h.elim λ_ h=>Sl.b2 h
theorem jd.aL {l:List Int} (h:jd base l v w) (a:ao w w'):jd base l v w':=h.elim λn h=>⟨n,uN h a⟩
theorem jd.nil (base:Nat) (w:World):jd base [] (.slice none 0 0) w:=⟨0,World.ownsRow_nil _ _ _ _⟩
theorem jd.lt {l:List Int} {v:Value} (h:jd base l v w):∀k,v.ownBlock=some k→base≤k∧k<w.heap.size:=λk a=>h.elim λ_ h=>World.ownsRow.lt h k a
theorem jd.kept {l:List Int} {v:Value} (h:jd base l v w) {a:Option Nat} (b:w.grownBy w' a) (c:v.ownBlock=none∨v.ownBlock≠a):jd base l v w':=
 h.elim λn h=>⟨n,World.ownsRow.kept h b c⟩
theorem jd.same {l:List Int} (h:jd base l v w) (i:∀k,v.ownBlock=some k→w'.heap[k]? =w.heap[k]?):jd base l v w':=by
 obtain⟨n,c,a⟩:=h
 refine⟨n,c,?_⟩
 rcases a with a|⟨g,b,cur,rfl,d,e,f⟩
 ·exact .inl a
 ·exact .inr ⟨g,b,cur,H,d,(i g H).ai e,f⟩
theorem Yf (l:List Int):∀u∈l.map I,u.oneCell'=true:=by
 intro u a
 obtain⟨b,_,rfl⟩:=fF.1 a
 rfl
theorem NZ (base:Nat) (l:List Int) (f:l.length≤16777216) (e:base≤w.heap.size):
 ∃r w',(Instr.buildSlice 22 l.length (gO 0 (l.map I)).toArray).run Tryz.prog w=.ok r w'∧ao w w'∧jd base l r w'∧r.ownBlock=some w.heap.size:=by
 have:=sX (P:=Tryz.prog) (w:=w) Tryz.underlying22 WO (l.map I) (Yf l) (by simpa using f) e
 simp only[dN] at this
 obtain⟨r,w',a,b,c,d⟩:=this
 exact⟨r,w',a,b,⟨_,c⟩,d⟩
end
structure Mv (X:Nat→Prop) (w w':World):Prop where
 os:w'.os=w.os
 tape:w'.tape=w.tape
 output:w'.output=w.output
 size:w.heap.size≤w'.heap.size
 keep:∀k,k<w.heap.size→¬X k→w'.heap[k]? =w.heap[k]?
section
variable {X Y:Nat→Prop} {w w1 w2:World}
theorem Mv.refl (X:Nat→Prop) (w:World):Mv X w w:=⟨rfl,rfl,rfl,bV _,λ_ _ _=>rfl⟩
theorem Mv.ai (h:Mv X w w1) (k:Mv Y w1 w2) (c:∀n,Y n→n<w.heap.size→X n):Mv X w w2:=
 ⟨k.os.ai h.os,k.tape.ai h.tape,k.output.ai h.output,cf h.size k.size,λn a b=>(k.keep n (eT a h.size) (λd=>b (c n d a))).ai (h.keep n a b)⟩
theorem Mv.a8 (h:ao w w1):Mv X w w1:=⟨h.os,h.tape,h.output,h.size,λ_ a _=>h.heap a⟩
theorem Mv.a7 {b:Option Nat} (h:w.grownBy w1 b) (c:∀k,b=some k→k<w.heap.size→X k):Mv X w w1:=
 ⟨h.os,h.tape,h.output,h.size,λn a d=>h.block n a (λe=>d (c n e.symm a))⟩
theorem Mv.aL (h:Mv X w w1) (a:∀k,X k→w.heap.size≤k):ao w w1:=⟨h.os,h.tape,h.output,h.size,λn b=>h.keep n b λc=>by have:=a n c;omega⟩
theorem Mv.b5 (h:Mv X w w1) (a:ao w0 w) (c:∀k,X k→w0.heap.size≤k):ao w0 w1:=
 ⟨xH h.os a.os,xH h.tape a.tape,xH h.output a.output,cf a.size h.size,λn b=>(h.keep n (eT b a.size) λd=>by have:=c n d;omega).ai (a.heap b)⟩
theorem Mv.bd (h:Mv X w w1) (b:∀k,X k→k<w.heap.size→Y k):Mv Y w w1:=⟨h.os,h.tape,h.output,h.size,λn a d=>h.keep n a λc=>d (b n c a)⟩
theorem Mv.blk {T:TypeId} {l:List Value} (h:Mv X w w1) (a:bm g T l w) (b:¬X g):bm g T l w1:=(h.keep g a.lt b).ai a
theorem Mv.fO {base:Nat} {l:List Int} (h:Mv X w w1) (b:jd base l v w) (c:∀k,v.ownBlock=some k→¬X k):jd base l v w1:=
 b.same λk a=>h.keep k (b.lt k a).2 (c k a)
end
section
variable {P:Program} {w:World} {t k e:TypeId} {m:Nat} {es:List MapEntry} {clock:Nat} {x:Value}
open Go.Maps (Keyed)
def BC (P:Program) (k:TypeId) (es:List MapEntry):Prop:=∀e∈es,∃l,keyOf P k e.key=some l
theorem Oa (K:Keyed P k) (d:P.underlying t=some (.map k e)) (n:(P.info? e).map (·.zero)=some (some z)) (hm:w.heap[m]? =some (.map es.toArray clock)) (l:BC P k es) {o:Lit} (f:keyOf P k x=some o):
 ((Instr.lookup t (.map (some m)) x false).run P w=.ok z w∧(Instr.lookup t (.map (some m)) x true).run P w=.ok (.tuple #[z,.bool false]) w∧∀e∈es,e.key≠x)∨
 ∃(j:Nat) (e:MapEntry),(Instr.lookup t (.map (some m)) x false).run P w=.ok e.val w∧(Instr.lookup t (.map (some m)) x true).run P w=.ok (.tuple #[e.val,.bool true]) w∧es[j]? =some e∧e.key=x:=by
 have c:=λh=>K.check w h f
 rcases K.find w f es l with⟨a,b⟩|⟨j,g,a,b,i⟩
 ·refine .inl ⟨?_,?_,b⟩<;>simp[Instr.lookup,run_underlying d,MapKept.run_getObj_map hm,c,a,Hu n,Result.andThen]
 ·refine .inr ⟨j,g,?_,?_,b,i⟩<;>simp[Instr.lookup,run_underlying d,MapKept.run_getObj_map hm,c,a,Result.andThen]
theorem Yv {w:World} {m:Nat} {o o':Obj} (h:w.heap[m]? =some o):(w.putObj m o').heap[m]? =some o':=World.putObj_heap_same (jB.1 h).1
theorem ZI {o':Obj} (hm:w.heap[m]? =some (.map es.toArray clock)):(setObj m o').run P w=.ok () (w.putObj m o'):=by
 simp[setObj,Sem.run,hm,World.putObj]
end
section
mutual
def ck (X:Nat→Prop) (w:World):Dt→List Value→Prop
 |.int k n,cs=>cs=[.int k n]
 |.bool b,cs=>cs=[.bool b]
 |.str l,cs=>cs=[S l]
 |.sl l,cs=>∃A n c,cs=[.slice A n c]∧l.length=n∧n≤c∧c≤maxLen∧(A=none→c=0)∧(0<n→∃ad xs,A=some ad∧(xs≠[]→¬X ad.block)∧ez w ad xs∧cB X w l xs)
 |.st l,cs=>cB X w l cs
def cB (X:Nat→Prop) (w:World):List Dt→List Value→Prop
 |[],cs=>cs=[]
 |d::ds,cs=>∃c1 c2,cs=c1++c2∧ck X w d c1∧cB X w ds c2
end
theorem ez.dk (h:ez w ad xs) (a:xs≠[]):ad.block<w.heap.size:=by
 cases xs with
 |nil=>exact absurd rfl a
 |cons x xs=>
  have:=World.block_lt_of_cell? w _ (h 0 x rfl)
  rwa [vN] at this
theorem Mv.cells {X:Nat→Prop} (hm:Mv X w w') (h:ez w ad xs) (d:xs≠[]→¬X ad.block):ez w' ad xs:=λj u b=>by
 have c:xs≠[]:=by rintro rfl;simp at b
 have a:=h j u b
 rw[World.cell?_of_block (hm.keep _ (World.block_lt_of_cell? w _ a) (by rw[vN];exact d c))]
 exact a
section
variable {X Y:Nat→Prop} {w w':World}
mutual
theorem ck.rp:∀{d:Dt} {cs:List Value},ck X w d cs→Rp w d cs
 |.int k n,cs,h=>by simpa only[ck,Rp] using h
 |.bool b,cs,h=>by simpa only[ck,Rp] using h
 |.str l,cs,h=>by simpa only[ck,Rp] using h
 |.sl l,cs,h=>by
  simp only[ck,Rp] at h⊢
  obtain⟨A,n,c,a,e,f,g,i,j⟩:=h
  refine⟨A,n,c,a,e,f,g,i,λq=>?_⟩
  obtain⟨ad,xs,m,_,o,p⟩:=j q
  exact⟨ad,xs,m,o,cB.rp p⟩
 |.st l,cs,h=>by simp only[ck,Rp] at h⊢;exact cB.rp h
theorem cB.rp:∀{l:List Dt} {cs:List Value},cB X w l cs→bG w l cs
 |[],cs,h=>by simpa only[cB,bG] using h
 |d::l,cs,h=>by
  simp only[cB,bG] at h⊢
  obtain⟨a,b,c,e,f⟩:=h
  exact⟨a,b,c,ck.rp e,cB.rp f⟩
end
mutual
theorem Rp.x:∀{d:Dt} {cs:List Value},Rp w d cs→ck (λk=>w.heap.size≤k) w d cs
 |.int k n,cs,h=>by simpa only[ck,Rp] using h
 |.bool b,cs,h=>by simpa only[ck,Rp] using h
 |.str l,cs,h=>by simpa only[ck,Rp] using h
 |.sl l,cs,h=>by
  simp only[ck,Rp] at h⊢
  obtain⟨A,n,c,f,g,i,j,m,o⟩:=h
  refine⟨A,n,c,f,g,i,j,m,λr=>?_⟩
  obtain⟨ad,xs,p,a,q⟩:=o r
  exact⟨ad,xs,p,λe=>Nat.not_le.2 (a.dk e),a,bG.x q⟩
 |.st l,cs,h=>by simp only[ck,Rp] at h⊢;exact bG.x h
theorem bG.x:∀{l:List Dt} {cs:List Value},bG w l cs→cB (λk=>w.heap.size≤k) w l cs
 |[],cs,h=>by simpa only[cB,bG] using h
 |d::l,cs,h=>by
  simp only[cB,bG] at h⊢
  obtain⟨a,b,c,e,f⟩:=h
  exact⟨a,b,c,Rp.x e,bG.x f⟩
end
mutual
theorem ck.mv (hm:Mv X w w') (a:∀k,Y k→X k∨w.heap.size≤k):∀{d:Dt} {cs:List Value},ck X w d cs→ck Y w' d cs
 |.int k n,cs,h=>by simpa only[ck] using h
 |.bool b,cs,h=>by simpa only[ck] using h
 |.str l,cs,h=>by simpa only[ck] using h
 |.sl l,cs,h=>by
  simp only[ck] at h⊢
  obtain⟨A,n,c,j,o,p,q,r,s⟩:=h
  refine⟨A,n,c,j,o,p,q,r,λu=>?_⟩
  obtain⟨ad,xs,t,f,g,m⟩:=s u
  refine⟨ad,xs,t,λe v=>?_,hm.cells g f,cB.mv hm a m⟩
  rcases a _ v with i|i
  ·exact f e i
  ·have:=g.dk e;omega
 |.st l,cs,h=>by simp only[ck] at h⊢;exact cB.mv hm a h
theorem cB.mv (hm:Mv X w w') (a:∀k,Y k→X k∨w.heap.size≤k):∀{l:List Dt} {cs:List Value},cB X w l cs→cB Y w' l cs
 |[],cs,h=>by simpa only[cB] using h
 |d::l,cs,h=>by
  simp only[cB] at h⊢
  obtain⟨b,c,e,f,g⟩:=h
  exact⟨b,c,e,ck.mv hm a f,cB.mv hm a g⟩
end
theorem ck.bd {d:Dt} (h:ck X w d cs) (a:∀k,Y k→X k∨w.heap.size≤k):ck Y w d cs:=h.mv (Mv.refl X w) a
theorem cB.bd {d:List Dt} (h:cB X w d cs) (a:∀k,Y k→X k∨w.heap.size≤k):cB Y w d cs:=h.mv (Mv.refl X w) a
theorem ck.aL {d:Dt} (h:ck X w d cs) (a:ao w w'):ck X w' d cs:=ck.mv (Mv.a8 a) (λ_ h=>.inl h) h
theorem cB.aL {d:List Dt} (h:cB X w d cs) (a:ao w w'):cB X w' d cs:=cB.mv (Mv.a8 a) (λ_ h=>.inl h) h
theorem ck.len {d:Dt} {cs:List Value} (h:ck X w d cs):cs.length=d.size:=h.rp.len
theorem cB.len {l:List Dt} {cs:List Value} (h:cB X w l cs):cs.length=Dt.bS l:=h.rp.len
theorem cB.nil:cB X w [] []:=by simp only[cB]
theorem cB.a1 {d:Dt} {l:List Dt} {a b:List Value} (h:ck X w d a) (c:cB X w l b):cB X w (d::l) (a++b):=by simp only[cB];exact⟨a,b,rfl,h,c⟩
theorem cB.append {l m:List Dt}:∀{a b:List Value},cB X w l a→cB X w m b→cB X w (l++m) (a++b):=by
 induction l with
 |nil=>intro a b h c;simp only[cB] at h;subst h;exact c
 |cons d l g=>
  intro a b h c
  simp only[cB] at h
  obtain⟨i,j,rfl,e,f⟩:=h
  rw[fh]
  exact cB.a1 e (g f c)
theorem ck.da:ck X w (.sl []) [.slice none 0 0]:=by
 simp only[ck]
 exact⟨none,0,0,H,H,bV _,pq _,λ_=>rfl,λh=>by omega⟩
theorem ck.d5 {base:Nat} {e:TypeId} {l:List Dt} (h:w.ownsRow base e sz v n xs) (b:cB X w l xs) (hs:∀d∈l,d.size=sz) (a:0<sz) (q:∀k,v.ownBlock=some k→¬X k):ck X w (.sl l) [v]:=by
 have f:=b.len
 rw[oH hs,h.1] at f
 have s:=ER a f
 obtain⟨A,g,c,rfl,i,j,m,o,p⟩:=Sl.b2 h
 simp only[ck]
 have t:g=n:=ER a (m.symm.ai h.1)
 subst t
 refine⟨A,g,c,H,s.symm,i,j,p,λu=>?_⟩
 obtain⟨ad,rfl,r⟩:=o u
 exact⟨ad,xs,H,λ_=>q _ H,r,b⟩
end
end
section
open Go.ChangeShapes Go.WideShapes Go.ChangeAt
open Go.ChangeMaps (open_string shut_string)
section
variable {P:Program} {H:Type} {enc:TypeId×Value→H} {W:World} {base:Nat} {spare:Nat→Bool} {held:Bool} {r:Reach} {b0:Nat} {v:Value} {d:DataW H} {ps:List MemPlace}
theorem aaE {n:Int} (h:(Lit.int .u32 n).wf=true):∃x:UInt32,n=(x.toNat:Int):=by
 have a:0≤n∧n≤4294967295:=by simpa [Lit.wf,IntKind.min,IntKind.max,IntKind.signed,IntKind.bits] using h
 exact⟨UInt32.ofNat n.toNat,by rw[vL];omega⟩
theorem wf_I {n:Int} (h:(Lit.int .i64 n).wf=true): -9223372036854775808≤n∧n≤9223372036854775807:=by
 simpa [Lit.wf,IntKind.min,IntKind.max,IntKind.signed,IntKind.bits] using h
end
end
section
open Go.ChangeShapes Go.WideShapes Go.ChangeAt
section
variable {P:Program} {t e:TypeId} {d:Dt}
theorem Ty.d3 {k:IntKind} (a:P.underlying t=some (.int k)) (h:Ty P t d):∃n,d=.int k n∧(Lit.int k n).wf=true:=by
 cases h with
 |int h b=>rw[a] at h;cases h;exact⟨_,rfl,b⟩
 |bool h=>rw[a] at h;cases h
 |str h=>rw[a] at h;cases h
 |sl h=>rw[a] at h;cases h
 |st h=>rw[a] at h;cases h
 |arr h=>rw[a] at h;cases h
theorem Ty.eL (a:P.underlying t=some (.int .u32)) (h:Ty P t d):∃x,d=nf x:=by
 obtain⟨n,rfl,b⟩:=h.d3 a
 obtain⟨x,rfl⟩:=aaE b
 exact⟨x,aa⟩
theorem Ty.eB (a:P.underlying t=some .bool) (h:Ty P t d):∃x,d=.bool x:=by
 cases h with
 |int h b=>rw[a] at h;cases h
 |bool h=>exact⟨_,rfl⟩
 |str h=>rw[a] at h;cases h
 |sl h=>rw[a] at h;cases h
 |st h=>rw[a] at h;cases h
 |arr h=>rw[a] at h;cases h
theorem M4 {α:Type} {f:α→Dt}:∀(l:List Dt),(∀d∈l,∃x,d=f x)→∃m:List α,l=m.map f
 |[],_=>⟨[],rfl⟩
 |d::l,h=>by
  obtain⟨x,rfl⟩:=h d aj
  obtain⟨m,rfl⟩:=M4 l λe a=>h e (by simp[a])
  exact⟨x::m,aa⟩
theorem Ty.dX (a:P.underlying t=some (.slice e)) (h:Ty P t d):∃l,d=.sl l∧∀x∈l,Ty P e x:=by
 cases h with
 |int h c=>rw[a] at h;cases h
 |bool h=>rw[a] at h;cases h
 |str h=>rw[a] at h;cases h
 |sl h b=>rw[a] at h;cases h;exact⟨_,rfl,b⟩
 |st h=>rw[a] at h;cases h
 |arr h=>rw[a] at h;cases h
theorem Ty.ef {α:Type} {f:α→Dt} (c:P.underlying t=some (.slice e)) (b:∀x,Ty P e x→∃y,x=f y) (h:Ty P t d):∃l:List α,d=.sl (l.map f):=by
 obtain⟨l,rfl,a⟩:=h.dX c
 obtain⟨m,rfl⟩:=M4 l λx g=>b x (a x g)
 exact⟨m,aa⟩
theorem Ty.dr {fs:Array Field} (a:P.underlying t=some (.struct fs)) (h:Ty P t d):∃l,d=.st l∧l.length=fs.size∧∀(i:Nat) (f:Field) (x:Dt),fs[i]? =some f→l[i]? =some x→Ty P f.type x:=by
 cases h with
 |int h e=>rw[a] at h;cases h
 |bool h=>rw[a] at h;cases h
 |str h=>rw[a] at h;cases h
 |sl h=>rw[a] at h;cases h
 |st h b c=>rw[a] at h;cases h;exact⟨_,rfl,b,c⟩
 |arr h=>rw[a] at h;cases h
def mj (l:List UInt32):Dt:=.sl (l.map nf)
theorem Rp.bL:Rp w (mj l) [v]↔aO l v w:=Rp.words
theorem Ty.d2 (b:P.underlying t=some (.slice e)) (a:P.underlying e=some (.int .u32)) (h:Ty P t d):∃l,d=mj l:=h.ef b λ_ c=>c.eL a
end
section
variable {P:Program} {H:Type} {enc:TypeId×Value→H} {W:World} {base:Nat} {spare:Nat→Bool} {held:Bool} {r:Reach} {b0:Nat} {v:Value} {d:DataW H} {ps:List MemPlace} {t e:TypeId}
theorem Yh (a:F9 P ts=true) (c:ts.contains t=true) (h:DataW.Trod enc P W base spare held t v d ps):Rp W (gk d) v.cells.toList∧Ty P t (gk d):=by
 obtain⟨fuel,b⟩:=h
 exact NF a fuel t _ (d,ps) (by simpa using c) b
theorem aa1 {fs:Array Field} (c:F9 P ts=true) (f:ts.contains t=true) (g:P.underlying t=some (.struct fs)) (e:Value.okWide P W r b0 t v) (h:DataW.Trod enc P W base spare held t v d ps):∃cs:List Value,v=.agg cs.toArray∧Rp W (gk d) cs∧Ty P t (gk d):=by
 obtain⟨cs,rfl,_⟩:=okWide_struct g e
 obtain⟨a,b⟩:=Yh c f h
 exact⟨cs.toList,aa,a,b⟩
end
end
section
variable {α:Type} {f:α→Dt} {l:List α} {v:Value} {w w':World}
def aD (f:α→Dt) (l:List α) (v:Value) (w:World):Prop:=Rp w (.sl (l.map f)) [v]
theorem aD.aL (h:aD f l v w) (a:ao w w'):aD f l v w':=Rp.aL a h
theorem aD.a3 (f:α→Dt) (l:List α):cN (aD f l):=λ_ _ _ h a=>h.aL a
theorem aD.a9 (h:aD f l v w):∃A n c,v=.slice A n c:=by
 unfold aD at h
 simp only[Rp] at h
 obtain⟨A,n,c,a,_⟩:=h
 exact⟨A,n,c,by simpa using a⟩
theorem aD.one (h:aD f l v w):v.oneCell'=true:=by obtain⟨A,n,c,rfl⟩:=h.a9;rfl
theorem aO.one {l:List UInt32} (h:aO l v w):v.oneCell'=true:=by obtain⟨A,n,c,rfl⟩:=h.a9;rfl
theorem aD.nil (f:α→Dt) (w:World):aD f [] (.slice none 0 0) w:=Rp.da
theorem aD.len (h:aD f l v w):l.length≤9223372036854775807:=by
 have:=Rp.e8 h
 simpa using this
theorem bP {t e:TypeId} (a:P.underlying t=some (.slice e)) (h:aD f l v w):(Builtin.len_ #[t] ty #[v]).run P w=.ok (I l.length) w:=by
 have:=YR (ty:=ty) a h
 simpa using this
theorem bX {t e:TypeId} (g:P.underlying t=some (.slice e)) (j:(P.info? e).map (·.size)=some sz) (hs:∀x,(f x).size=sz) (a:0<sz) (h:aD f l v w) (hi:i<l.length) (k:IntKind):
 ∃ad cs,(∀w':World,(Instr.indexAt t v (.int k i)).run P w'=.ok (.pointer (some ad)) w')∧ez w ad cs∧Rp w (f l[i]) cs:=by
 obtain⟨ad,cs,b,c,d⟩:=YN g j h (by simp[hs]) a (i:=i) (by simpa using hi) k
 exact⟨ad,cs,b,c,by simpa using d⟩
theorem ez.at (h:ez w ad xs) (a:xs[j]? =some u):w.cell? (ad.add j)=some u:=h j u a
theorem Dv {fs:Array Field} {b:Field} (hs:P.underlying s=some (.struct fs)) (e:fs[n]? =some b) (f:(P.cellsOf b.type==0)=false) (i:b.offset=o):
 (Instr.fieldAt s (.pointer (some a)) n).run P w=.ok (.pointer (some (a.add o))) w:=by
 have c:P.cellsOf b.type≠0:=by simpa using f
 obtain⟨k,d⟩:∃k,(P.info? b.type).map (·.size)=some k:=by
  cases hi:(P.info? b.type).map (·.size) with
  |none=>exact absurd (by simp[Program.cellsOf,hi]) c
  |some k=>exact⟨k,rfl⟩
 have g:k≠0:=by
  intro h
  apply c
  simp[Program.cellsOf,d,h]
 rw[jR hs e d g,i]
theorem ez.ld {t:TypeId} {d:TypeDesc} (h:ez w ad cs) (b:P.underlying t=some d) (a:d.isRow=true) (c:(P.info? t).map (·.size)=some cs.length):(Instr.loadAt t (.pointer (some ad))).run P w=.ok (.agg cs.toArray) w:=YP h b a c
theorem bm.ld {t T:TypeId} {d:TypeDesc} (h:bm g T cs w) (c:P.underlying t=some d) (a:d.isRow=true) (e:(P.info? t).map (·.size)=some cs.length):(Instr.loadAt t (.pointer (some ⟨g,0,none⟩))).run P w=.ok (.agg cs.toArray) w:=
 xn h (λj v b=>by simpa using b) c a e
theorem bm.b7 {t T:TypeId} {d:TypeDesc} {ms:List Value} (h:bm g T cs w) (hm:∀j v,ms[j]? =some v→cs[o+j]? =some v) (b:P.underlying t=some d) (a:d.isRow=true) (c:(P.info? t).map (·.size)=some ms.length):(Instr.loadAt t (.pointer (some ⟨g,o,none⟩))).run P w=.ok (.agg ms.toArray) w:=
 xn h hm b a c
theorem Hd {T:TypeId}:∃g w',(Instr.box T (.agg cs.toArray)).run P w=.ok (.pointer (some ⟨g,0,none⟩)) w'∧w.heap.size≤g∧ao w w'∧bm g T cs w':=
 ⟨_,_,uQ,bV _,ao.new w _,bm.new (T:=T) (.agg cs.toArray) rfl⟩
def ay (l:List Value):Prop:=∀v∈l,v.oneCell'=true
theorem ay.nil:ay []:=λ_ h=>by simp at h
theorem ay.a1 {v:Value} {l:List Value} (h:v.oneCell'=true) (b:ay l):ay (v::l):=λu a=>by
 rcases lF.1 a with rfl|a
 ·exact h
 ·exact b u a
theorem bm.c0 {t T:TypeId} {l m:List Value} (h:bm g T l w) (b:l.length=m.length) (hi:(P.info? t).map (·.size)=some m.length) (a:ay m):
 ∃w',(Instr.storeAt t (.pointer (some ⟨g,0,none⟩)) (.agg m.toArray)).run P w=.ok () w'∧w.grownBy w' (some g)∧bm g T m w':=
 ⟨_,uW h b hi a,pD w g _,h.row m⟩
theorem bm.dp {t T:TypeId} {l:List Value} {v:Value} (h:bm g T l w) (hs:(P.info? t).map (·.size)=some 1) (c:v.oneCell'=true) (hi:i<l.length):
 ∃w',(Instr.storeAt t (.pointer (some ⟨g,i,none⟩)) v).run P w=.ok () w'∧w.grownBy w' (some g)∧bm g T (l.set i v) w':=by
 have a:=h
 unfold bm at a
 obtain b:=pZ (P:=P) (t:=t) (v:=v) hs c a (by simpa using hi)
 exact⟨_,b,mF w g i v,h.set i v⟩
end
section
open Go.Maps (Keyed)
section ops
variable {P:Program} {ops:Array Oper} {Q:eV} {N:Nat} {D:List Deferred} {l:Fr} {w w':World} {rest:List Oper} {d:Nat} {ty:TypeId} {pos:String} {aft:Array Edge}
theorem wX {t:TypeId} {x y z:Operand} {r:Value} (c:ev l x=some u) (d:ev l y=some v) (e:ev l z=some r) (b:(Instr.mapUpdate t u v r).run P w=.ok () w') (k:bK P ops Q N D l w' rest):bK P ops Q N D l w (⟨none,.insert t x y z,ty,pos,aft,none⟩::rest):=
 G6 (λρ a=>by
  have:execOp ρ ⟨none,.insert t x y z,ty,pos,aft,none⟩=(do Instr.mapUpdate t (ρ x) (ρ y) (ρ z);pure Next.skip:Sem Next):=rfl
  rw[this,a x _ c,a y _ d,a z _ e,Sem.run_bind,b];rfl) k
end ops
section
variable {P:Program} {w:World} {t k e:TypeId} {m:Nat} {es:List MapEntry} {clock:Nat} {x:Value}
theorem N7 (K:Keyed P k) (i:P.underlying t=some (.map k e)) (hm:w.heap[m]? =some (.map es.toArray clock)) (g:BC P k es) {l:Lit} (c:keyOf P k x=some l) (h:∀e∈es,e.key≠x) (v:Value):
 ∃w',(Instr.mapUpdate t (.map (some m)) x v).run P w=.ok () w'∧w.grownBy w' (some m)∧w'.heap[m]? =some (.map (es++[({key:=x,val:=v,born:=clock}:MapEntry)]).toArray (clock+1)):=by
 rcases K.find w c es g with⟨a,b⟩|⟨j,d,a,b,f⟩
 ·refine⟨_,?_,grownBy_putObj' w m (.map (es++[({key:=x,val:=v,born:=clock}:MapEntry)]).toArray (clock+1)),Yv hm⟩
  have hs:=ZI (P:=P) (o':=.map (es++[({key:=x,val:=v,born:=clock}:MapEntry)]).toArray (clock+1)) hm
  simp[Instr.mapUpdate,run_underlying i,MapKept.run_getObj_map hm,K.check w false c,a,Result.andThen] at hs⊢
  simp[hs]
 ·exact absurd f (h d (tA b))
end
theorem MK:Keyed Tryz.prog 3:=Go.Maps.int_keyed aE
theorem GG {n:Int} (a: -9223372036854775808≤n) (b:n≤9223372036854775807):keyOf Tryz.prog 3 (I n)=some (.int .i64 n):=Go.Maps.keyOf_int_mk aE (by
 have: -9223372036854775808≤n∧n≤9223372036854775807:=⟨a,b⟩
 simpa [Lit.wf,IntKind.min,IntKind.max,IntKind.signed,IntKind.bits] using this)
def og:Nat→List Value→List MapEntry
 |_,[]=>[]
 |i,v::l=>({key:=I ((i+1:Nat):Int),val:=v,born:=i}:MapEntry)::og (i+1) l
theorem LV:∀(i:Nat) (l:List Value) (v:Value),og i (l++[v])=og i l++[({key:=I ((i+l.length+1:Nat):Int),val:=v,born:=i+l.length}:MapEntry)]
 |i,[],v=>by simp[og]
 |i,u::l,v=>by
  simp only[nU,og,LV (i+1) l v,cw]
  have a:i+1+l.length+1=i+(l.length+1)+1:=G
  have b:i+1+l.length=i+(l.length+1):=G
  rw[a,b]
theorem Cx:∀(i:Nat) (l:List Value) (e:MapEntry),e∈og i l→∃j v,l[j]? =some v∧e.key=I ((i+j+1:Nat):Int)∧e.val=v
 |i,[],e,h=>by simp[og] at h
 |i,v::l,e,h=>by
  rcases lF.1 h with rfl|h
  ·exact⟨0,v,H,H,H⟩
  ·obtain⟨j,u,a,b,c⟩:=Cx (i+1) l e h
   exact⟨j+1,u,a,by rw[b,show i+1+j+1=i+(j+1)+1 by omega],c⟩
theorem IG {a b:Int} (h:I a=I b):a=b:=by
 unfold I at h
 injection h
theorem LS:∀(i:Nat) (l:List Value) (j:Nat) (v:Value),l[j]? =some v→∃e∈og i l,e.key=I ((i+j+1:Nat):Int)
 |i,[],j,v,h=>by simp at h
 |i,u::l,0,v,h=>⟨_,EH ..,rfl⟩
 |i,u::l,j+1,v,h=>by
  obtain⟨e,a,b⟩:=LS (i+1) l j v (by simpa using h)
  exact⟨e,EG _ a,by rw[b,show i+1+j+1=i+(j+1)+1 by omega]⟩
section
variable {w:World} {m:Nat} {l:List Value} {t e:TypeId}
theorem LU (d:l.length≤1000):BC Tryz.prog 3 (og 0 l):=λx c=>by
 obtain⟨j,v,a,b,_⟩:=Cx 0 l x c
 have:=(pl.1 a).1
 exact⟨_,by rw[b];exact GG G G⟩
theorem xj (g:Tryz.prog.underlying t=some (.map 3 e)) (d:l.length≤1000) (hm:w.heap[m]? =some (.map (og 0 l).toArray l.length)) (n:Int) (f:n=((l.length+1:Nat):Int)) (v:Value):
 ∃w',(Instr.mapUpdate t (.map (some m)) (I n) v).run Tryz.prog w=.ok () w'∧w.grownBy w' (some m)∧w'.heap[m]? =some (.map (og 0 (l++[v])).toArray (l++[v]).length):=by
 subst f
 obtain⟨w',a,b,c⟩:=N7 MK g hm (LU d) (GG (n:=((l.length+1:Nat):Int)) G G) (λx i h=>by
  obtain⟨j,u,a,b,_⟩:=Cx 0 l x i
  have:=(pl.1 a).1
  have:=IG (b.symm.ai h)
  omega) v
 refine⟨w',a,b,?_⟩
 rw[c,LV]
 simp
theorem YW (q:Tryz.prog.underlying t=some (.map 3 e)) (r:(Tryz.prog.info? e).map (·.zero)=some (some z)) (p:l.length≤1000) {c:Nat} (hm:w.heap[m]? =some (.map (og 0 l).toArray c)) {n:Int} (g: -9223372036854775808≤n) (h:n≤9223372036854775807):
 ((Instr.lookup t (.map (some m)) (I n) true).run Tryz.prog w=.ok (.tuple #[z,B false]) w∧¬(1≤n∧n≤(l.length:Int)))∨
 ∃(j:Nat) (v:Value),(Instr.lookup t (.map (some m)) (I n) true).run Tryz.prog w=.ok (.tuple #[v,B true]) w∧l[j]? =some v∧n=((j+1:Nat):Int):=by
 rcases Oa (P:=Tryz.prog) MK q r hm (LU p) (GG g h) with⟨_,a,b⟩|⟨j,x,_,a,b,d⟩
 ·refine .inl ⟨a,λs=>?_⟩
  obtain⟨x,d,f⟩:=LS 0 l (n-1).toNat (l[(n-1).toNat]'G) (fy G)
  refine b x d (f.ai ?_)
  have e:((0+(n-1).toNat+1:Nat):Int)=n:=G
  rw[e]
 ·obtain⟨i,v,f,k,o⟩:=Cx 0 l x (tA b)
  refine .inr ⟨i,v,by rw[←o];exact a,f,?_⟩
  have:=IG (d.symm.ai k)
  omega
end
theorem bm.k0 {T:TypeId} {l:List Value} (h:bm g T (v::l) w):w.cell? ⟨g,0,none⟩=some v:=h.cell (i:=0) rfl
end
section
variable {w0 w w':World} {l m:List UInt8} {v x:Value} {ty t t2 T:TypeId} {g base:Nat}
theorem Fz (c:Tryz.prog.underlying t=some (.slice 5)) (d:Tryz.prog.underlying t2=some (.slice 5)) (a b:Value):(Builtin.append_ #[t,t2] ty #[a,b]).run Tryz.prog w=(Builtin.append_ #[28,28] ty #[a,b]).run Tryz.prog w:=by
 unfold Builtin.append_
 cases a<;>simp[Sem.run_bind,run_underlying c,run_underlying d,run_underlying Tryz.underlying28]
structure jI (T:TypeId) (base g:Nat) (l:List UInt8) (v:Value) (w:World):Prop where
 ge:base≤g
 blk:bm g T [v] w
 row:vq base l v w
 new:∀k,v.ownBlock=some k→base≤k
 off:v.ownBlock≠some g
 lt:∀k,v.ownBlock=some k→k<w.heap.size
theorem vq.b8 (h:vq base l v w):cV l v w:=h.elim (·.b8) (·.1)
theorem jI.aL (h:jI T base g l v w) (a:ao w w'):jI T base g l v w':=⟨h.ge,h.blk.aL a,h.row.aL a,h.new,h.off,λk b=>eT (h.lt k b) a.size⟩
theorem jI.c7 (h:jI T base g l v w) (b:w.heap.size≤k):¬(k=g∨v.ownBlock=some k):=by
 rintro(rfl|a)
 ·have:=h.blk.lt;omega
 ·have:=h.lt k a;omega
structure iQ (g:Nat) (v:Value) (w:World) (v':Value) (w':World):Prop where
 mv:Mv (λk=>k=g∨v.ownBlock=some k) w w'
 own:∀k,v'.ownBlock=some k→v.ownBlock=some k∨w.heap.size≤k
theorem iQ.a8 (h:ao w w'):iQ g v w v w':=⟨Mv.a8 h,λ_ h=>.inl h⟩
theorem iQ.refl:iQ g v w v w:=iQ.a8 (ao.refl w)
theorem iQ.ai {v1 v2:Value} {w1 w2:World} (h:iQ g v w v1 w1) (k:iQ g v1 w1 v2 w2):iQ g v w v2 w2:=by
 refine⟨h.mv.ai k.mv λn a c=>?_,λn a=>?_⟩
 ·rcases a with a|a
  ·exact .inl a
  ·rcases h.own n a with b|b
   ·exact .inr b
   ·omega
 ·rcases k.own n a with b|b
  ·exact h.own n b
  ·exact .inr (cf h.mv.size b)
theorem iQ.off (h:iQ g v w v1 w1) (c:¬(k=g∨v.ownBlock=some k)) (d:k<w.heap.size):¬(k=g∨v1.ownBlock=some k):=by
 rintro(a|a)
 ·exact c (.inl a)
 ·rcases h.own k a with b|b
  ·exact c (.inr b)
  ·omega
theorem iQ.aL (h:iQ g v w v1 w1) (b:ao w0 w) (c:w0.heap.size≤g) (d:∀k,v.ownBlock=some k→w0.heap.size≤k):ao w0 w1:=
 h.mv.b5 b λk a=>by
  rcases a with rfl|a
  ·exact c
  ·exact d k a
def zQ (g:Nat) (v:Value):Nat→Prop:=λk=>k=g∨v.ownBlock=some k
theorem ck.step {d:Dt} (h:ck (zQ g v) w d cs) (k:iQ g v w v1 w1):ck (zQ g v1) w1 d cs:=h.mv k.mv λn a=>by
 rcases a with a|a
 ·exact .inl (.inl a)
 ·rcases k.own n a with b|b
  ·exact .inl (.inr b)
  ·exact .inr b
theorem Rp.e7 {d:Dt} (h:Rp w0 d cs) (e:ao w0 w) (b:w0.heap.size≤g) (c:∀k,v.ownBlock=some k→w0.heap.size≤k):ck (zQ g v) w d cs:=(h.x.aL e).bd λk a=>by
 rcases a with rfl|a
 ·exact .inl b
 ·exact .inl (c k a)
theorem jI.app (n:Tryz.prog.underlying t=some (.slice 5)) (o:Tryz.prog.underlying t2=some (.slice 5)) (h:jI T base g l v w) (i:base≤w.heap.size) (p:cV m x w) (hm:0<m.length) (j:l.length+m.length≤140737488355328):
 ∃r w1,(Builtin.append_ #[t,t2] ty #[v,x]).run Tryz.prog w=.ok r w1∧eH base (l++m) r w1∧iQ g v w r w1:=by
 rcases h.row with f|⟨f,q⟩
 ·obtain⟨r,w1,d,b,c⟩:=uP (ty:=ty) f p j i
  refine⟨r,w1,(Fz n o v x).ai d,b,⟨Mv.a7 c.grown λk a _=>.inr a,λk a=>?_⟩⟩
  rcases c.own with e|e
  ·rw[e] at a;exact .inl a
  ·exact .inr (e k a)
 ·obtain⟨r,w1,d,b,c⟩:=NW (ty:=ty) (w0:=w) (ao.refl w) (.inr ⟨f,q⟩) p hm j
  exact⟨r,w1,(Fz n o v x).ai d,b.low i,⟨Mv.a8 c,λk a=>.inr (b.ge k a)⟩⟩
theorem jI.put (G:Tryz.prog.underlying t=some (.slice 5)) (hs:(Tryz.prog.info? t).map (·.size)=some 1) (H:Tryz.prog.underlying t2=some (.slice 5)) (h:jI T base g l v w) (q:base≤w.heap.size) (u:cV m x w) (hm:0<m.length) (s:l.length+m.length≤140737488355328):
 ∃r w1 w2,(Builtin.append_ #[t,t2] ty #[v,x]).run Tryz.prog w=.ok r w1∧(Instr.storeAt t (.pointer (some ⟨g,0,none⟩)) r).run Tryz.prog w1=.ok () w2∧jI T base g (l++m) r w2∧iQ g v w r w2:=by
 have key:∃r w1,(Builtin.append_ #[28,28] ty #[v,x]).run Tryz.prog w=.ok r w1∧eH base (l++m) r w1∧iQ g v w r w1∧bm g T [v] w1∧r.ownBlock≠some g:=by
  rcases h.row with p|⟨p,D⟩
  ·obtain⟨r,w1,j,b,d⟩:=uP (ty:=ty) p u s q
   refine⟨r,w1,j,b,⟨Mv.a7 d.grown λk a _=>.inr a,λk a=>?_⟩,h.blk.a4 d.grown (uj h.off),?_⟩
   ·rcases d.own with e|e
    ·rw[e] at a;exact .inl a
    ·exact .inr (e k a)
   ·rcases d.own with e|e
    ·rw[e];exact h.off
    ·intro f
     have:=e g f
     have:=h.blk.lt
     omega
  ·obtain⟨r,w1,j,b,d⟩:=NW (ty:=ty) (w0:=w) (ao.refl w) (.inr ⟨p,D⟩) u hm s
   refine⟨r,w1,j,b.low q,⟨Mv.a8 d,λk a=>.inr (b.ge k a)⟩,h.blk.aL d,λf=>?_⟩
   have:=b.ge g f
   have:=h.blk.lt
   omega
 obtain⟨r,w1,j,b,d,e,f⟩:=key
 have F:r.oneCell'=true:=by
  obtain⟨A,n,c,rfl,_⟩:=b.b8
  rfl
 obtain⟨w2,y,o,z⟩:=e.dp (P:=Tryz.prog) (t:=t) (i:=0) (v:=r) hs F aj
 refine⟨r,w1,w2,(Fz G H v x).ai j,y,⟨h.ge,z,.inl ?_,b.ge,f,λk a=>eT (b.lt k a) o.size⟩,d.ai ⟨Mv.a7 o λk a _=>.inl (cC a).symm,λk a=>.inl a⟩⟩
 obtain⟨n,C⟩:=b
 exact⟨n,World.ownsRow.kept C o (.inr f)⟩
theorem YV (b:Tryz.prog.underlying t=some (.slice 5)) (l:List UInt8) (r:l.length≤16777216) (q:0<l.length):∃v w1 w2,(Instr.buildSlice t l.length (gO 0 (l.map U8)).toArray).run Tryz.prog w=.ok v w1∧(convert t t v).run Tryz.prog w1=.ok v w2∧ao w w2∧cV l v w2∧∃ad,v=.slice (some ad) l.length l.length∧w.heap.size≤ad.block∧ad.block<w2.heap.size:=by
 obtain⟨i,hi,o,hs,_⟩:=info_parts AC
 have d:∀Z:Array Value,Z.size=(l.map U8).length→Instr.fill (λi=>some (i*1,1)) Z (gO 0 (l.map U8))=some (l.map U8).toArray:=λZ c=>by
  have:=Gs (l.map U8) [] Z.toList (λv n=>Ha (Dd l v n)) (by simpa using c)
  simpa using this
 have f:¬(l.length*1>2^24):=G
 have a:(typeInfo 5).run Tryz.prog w=.ok i w:=by simp[typeInfo,hi]
 have k:(sizeOf 5).run Tryz.prog w=.ok 1 w:=by simp[sizeOf,a,hs]
 have p:(zeroValue 5).run Tryz.prog w=.ok (.int .u8 0) w:=by simp[zeroValue,a,o]
 have g:(Instr.buildSlice t l.length (gO 0 (l.map U8)).toArray).run Tryz.prog w=.ok (.slice (some ⟨w.heap.size,0,none⟩) l.length l.length) (w.alloc (.cells (l.map U8).toArray 5)):=by
  simp only[Instr.buildSlice,Sem.run_bind,run_underlying b,Result.andThen_ok,k,if_neg f]
  rw[if_neg G]
  simp only[Sem.run_bind,Sem.run_pure,Result.andThen_ok,p]
  rw[d _ (by simp[Value.cells])]
  simp[newRow]
 refine⟨_,_,_,g,Go.Lib.run_convert_bytes_const w t 5 _ _ _ b fo,ao.new w _,?_,⟨_,H,bV _,aj⟩⟩
 have e:=heap_alloc_new w (.cells (l.map U8).toArray 5 ((l.map U8).toArray.size,(l.map U8).toArray.size+1))
 refine⟨_,_,_,H,bV _,by unfold maxLen;omega,aj,λ_=>⟨_,H,λj u m=>?_⟩,λh=>by cases h⟩
 rw[Addr.add_mid,gB,cell_of_row _ _ j _ _ _ e]
 simpa using m
theorem Y4 (y:(Tryz.prog.info? T).map (·.zero)=some (some z)) (A:z.cells=[z].toArray) (hs:(Tryz.prog.info? t).map (·.size)=some 1) (e:ao w0 w) (x:cV l v w) (q:v=.slice (some ad) l.length l.length) (u:w0.heap.size≤ad.block) (s:ad.block<w.heap.size):
 ∃g c a,(Instr.alloc T true (.tuple #[])).run Tryz.prog w=.ok (.pointer (some ⟨g,0,none⟩)) c∧(Instr.storeAt t (.pointer (some ⟨g,0,none⟩)) v).run Tryz.prog c=.ok () a∧ao w0 a∧jI T w0.heap.size g l v a:=by
 subst q
 obtain⟨g,c,h,f,j,m⟩:=iW (P:=Tryz.prog) (w:=w) (t:=T) (l:=[z]) y A
 obtain⟨a,n,o,p⟩:=m.dp (P:=Tryz.prog) (t:=t) (i:=0) (v:=.slice (some ad) l.length l.length) hs rfl aj
 have d:ao w a:=j.a2 o f
 have r:w0.heap.size≤g:=cf e.size f
 refine⟨g,c,a,h,n,e.ai d,⟨r,p,.inr ⟨x.aL d,_,H⟩,λk b=>?_,λb=>?_,λk b=>?_⟩⟩
 ·cases b;exact u
 ·cases b;omega
 ·cases b;exact eT s d.size
end
theorem KU:aY Tryz.prog 273:=⟨_,Tryz.func273,am,rfl⟩
theorem FX:aY Tryz.prog 306:=⟨_,Tryz.func306,am,rfl⟩
theorem vZ:aY Tryz.prog 249:=⟨_,Tryz.func249,am,rfl⟩
theorem Aj:aY Tryz.prog 248:=⟨_,Tryz.func248,am,rfl⟩
theorem vX:aY Tryz.prog 163:=⟨_,Tryz.func163,am,rfl⟩
theorem yg:aY Tryz.prog 96:=⟨_,Tryz.func96,am,rfl⟩
theorem Js:
 Calls Tryz.prog 273 #[] w (aJ λr w'=>ao w w'∧aO [1] r w'):=by
 refine enter Tryz.func273 H H H (ah (ap (Z H (f (al (ah (ap ?_)))))))
 obtain⟨v1,w1,a,x1,o1,b⟩:=mK aT (w:=w) w.heap.size [1] aj (bV _)
 refine dJ (vs:=[(0,bz (1))]) H a (Z H (f (al (aA (aM H ?_)))))
 exact⟨_,H,x1,o1.bL⟩
theorem Fe {x:Nat} (c:aO (lb x) v w):
 Calls Tryz.prog 306 #[v] w (aJ λr w'=>w=w'∧r=B (decide (x=1))):=by
 refine enter Tryz.func306 H H H ?_
 obtain⟨t,d⟩:∃t,t=lb x:=⟨_,rfl⟩
 rw[←d] at c
 have a:x=1↔t=[1]:=by rw[d];exact MU.symm
 refine ah (ap (Z H (f (al (ah (ap (J H (aW H (cI aT c) (U H (aV) (J H (cK (λb=>?_) (λb=>?_))))))))))))
 ·refine V H (J H (V H ?_))
  obtain⟨j,e,g⟩:=ei aT c (i:=0) G .i64
  refine bF H (e _) (V H (Y H (D bN H g) (V H (U (v:=bz 1) H (Dq) (bA H (Z H (f (al (aA (aM H ?_))))))))))
  exact⟨_,H,H,by
   first
   |exact aB B (bi λh=>b (by rw[a.1 h];rfl)).symm
   |exact aB B (cA.2 (by
     rw[a]
     obtain⟨y,rfl⟩:=zv.1 (show t.length=1 by omega)
     simp))⟩
 ·refine L H (L H (L H (L H (aK H (Z H (f (al (aA (aM H ?_)))))))))
  exact⟨_,H,H,by
   first
   |exact aB B (bi λh=>b (by rw[a.1 h];rfl)).symm
   |exact aB B (cA.2 (by
     rw[a]
     obtain⟨y,rfl⟩:=zv.1 (show t.length=1 by omega)
     simp))⟩
theorem vF {b:Bool} {n:List UInt32} (l:bQ b n m v w) (j:m.length≤1099511627776):
 Calls Tryz.prog 249 #[v] w (aJ λr w'=>ao w w'∧aO (ud m) r w'):=by
 refine enter Tryz.func249 H H H (ah (ap ?_))
 obtain⟨g1,u,x,w1,k,x1,e,q,d1⟩:=xg l
 refine nL H k (Z H (f (al (ah (ah (ap (c H (c9 (o:=2) bI H am H) (Y H (D aT H (e.cell (i:=2) H)) (aC KO H H (Jd d1 j) ?_)))))))))
 rintro v5 _ ⟨rfl,rfl⟩
 refine U H (aV) (f (al (bc H (λd=>?_) (λd=>?_))))
 ·have a:val m=0:=by
   rcases fm (val m) with h|h
   ·exact h
   ·have:=vQ h
    omega
  refine ah (ap (aC (vs:=[]) KU H H (Js) ?_))
  rintro s t ⟨p,g⟩
  refine Z H (f (al (aA (aI (aM H ?_)))))
  exact⟨_,H,(x1.ai p),by unfold ud;rw[if_pos a];exact g⟩
 ·have a:val m≠0:=λh=>d (by rw[h];rfl)
  refine aH (al (ah (ap (c H (c9 (o:=2) bI H am H) (Y H (D aT H (e.cell (i:=2) H)) (Z H (f (al (aA (aM H ?_))))))))))
  exact⟨_,H,x1,by unfold ud;rw[if_neg a];exact d1⟩
theorem Jt {s:Bool} {n d:List UInt32} {x:Value} (hn:aO n x w) (hd:aO d y w) (ak:n.length≤274877906944) (ai:d.length≤274877906944) (L:0<val d):
 Calls Tryz.prog 248 #[B s,x,y] w (aJ λr w'=>ao w w'∧bQ (jg s (val n)) (lb (val n/Nat.gcd (val n) (val d))) (jq (val n) (val d)) r w'):=by
 refine enter Tryz.func248 H H H ?_
 have am:=gw (en n)
 have ab:=gw (en d)
 have M:=Mq (n:=val n) L
 refine ah (ap ?_)
 obtain⟨W,w6,ad,O,A,N⟩:=tW (w:=w)
 refine fY H ad (f (al (ah (ap (J H (aC Ag H H (zC (hn.aL A) G) ?_))))))
 rintro v9 w9 ⟨i,e⟩
 refine Z H (f (al (ah (ah (ap (J H (oo (r:=I ((lb (val n)).length:Int)) H H (cI aT e) (U H (aV) (f (al (bc H (λF=>?_) (λF=>?_))))))))))))
 ·have t:val n=0:=lh.1 G
  refine ah (ap (dY (vs:=[]) H xh ?_))
  obtain⟨p,q,Y,X,hs,z,u,v,k⟩:=(N.aL (i)).cv ⟨_,_,_,rfl⟩ ⟨_,_,_,rfl⟩ (bQ.mk (b:=false) (aO.nil _) (aO.nil _))
  refine cZ H (hs) (f (al (aA (aI (pW H H u bI H nr ?_)))))
  exact⟨_,H,((A.ai i)).a2 z O,p,q,by rw[t];unfold jg;simp,by rw[t,Nat.zero_div];exact v,by rw[t,VK L];exact k⟩
 ·have t:0<val n:=by
   rcases fm (val n) with h|h
   ·rw[h] at F;simp[nh] at F
   ·exact h
  have aa:jg s (val n)=s:=by unfold jg;rw[dH t,Bool.and_true]
  rw[aa]
  refine aH (al (ah (ap (J H (aC Ag H H (zC (hd.aL (A.ai i)) G) ?_)))))
  rintro ae ag ⟨a,j⟩
  refine Z H (f (al (ah (ah (ap (J H (aC FX H H (Fe j) ?_)))))))
  rintro an _ ⟨rfl,rfl⟩
  refine f (al (bc H (λK=>?_) (λK=>?_)))
  ·refine ah (ap (J H (J H ?_)))
   refine dY (vs:=[(0,B s),(1,v9)]) H (YH e.a9) ?_
   obtain⟨p,q,Y,X,hs,z,u,v,k⟩:=(N.aL ((i.ai a))).cv ⟨_,_,_,rfl⟩ ⟨_,_,_,rfl⟩ (bQ.mk (b:=s) (e.aL (a)) (aO.nil _))
   refine cZ H (hs) (f (al (aA (aI (pW H H u bI H nr ?_)))))
   exact⟨_,H,(((A.ai i).ai a)).a2 z O,p,q,H,by rw[K,Ji,vC];exact v,by rw[K,Lo];exact k⟩
  ·obtain⟨g,o⟩:∃g,g=Nat.gcd (val n) (val d):=⟨_,rfl⟩
   rw[←o] at M⊢
   have aj:(lb g).length≤d.length:=cf (wQ (by rw[o];exact Nat.gcd_le_right _ L)) ab
   refine aH (al (ah (iS (λp:Value×Value=>[(0,B s),(1,p.1),(2,p.2),(6,.pointer (some ⟨W,0,none⟩))]) (λp w'=>ao ag w'∧aO (lb (val n/g)) p.1 w'∧aO (lb (val d/g)) p.2 w') ?_ ?_)))
   ·refine ah (ap (J H (J H (aC UD H H ((by have:=RD (e.aL a) j G G;rw[cH,cH] at this;exact this)) ?_))))
    rintro aq aw ⟨c,C⟩
    rw[←o] at C
    refine Z H (f (al (ah (ap (J H (aC FX H H (Fe C) ?_))))))
    rintro ar _ ⟨rfl,rfl⟩
    refine cP H Bf (f (al (bc H (λl=>?_) (λl=>?_))))
    ·refine ah (ap (J H (J H (aC Af H H ((by have:=zB (e.aL (a.ai c)) C G G (by rw[cH];exact M);rw[cH,cH] at this;exact this)) ?_))))
     rintro au ax ⟨P,q1,s1,rfl,T,e1⟩
     refine J H (aZ H (ov) (aZ H ow (aZ H ox (Z H (f (al (ap (J H (J H (aC Af H H ((by have:=zB (j.aL (c.ai P)) (C.aL P) G G (by rw[cH];exact M);rw[cH,cH] at this;exact this)) ?_))))))))))
     rintro v37 ay ⟨Q,q2,s2,rfl,V,e2⟩
     refine J H (aZ H (ov) (aZ H ow (aZ H ox (Z H (f ?_)))))
     exact eu (q1,q2) (aP H) ⟨((c.ai P).ai Q),by first|exact(T.aL Q)|(rw[show g=1 from oJ λh=>l h,vC];exact(T.aL Q)),by first|exact V|(rw[show g=1 from oJ λh=>l h,vC];exact V)⟩
    ·refine aH ?_
     exact eu (v9,ae) (aP H) ⟨c,by first|exact(e.aL (a.ai c))|(rw[show g=1 from oJ λh=>l h,vC];exact(e.aL (a.ai c))),by first|exact(j.aL c)|(rw[show g=1 from oJ λh=>l h,vC];exact(j.aL c))⟩
   rintro⟨v1,v2⟩ w8 ⟨x8,R,D⟩
   refine al (ah (iS (λp:Value=>[(0,B s),(1,v1),(2,p),(6,.pointer (some ⟨W,0,none⟩))]) (λp w'=>w8=w'∧aO (jq (val n) (val d)) p w') ?_ ?_))
   ·refine ah (ap (J H (aC FX H H (Fe D) ?_)))
    rintro av _ ⟨rfl,rfl⟩
    refine f (al (bc H (λm=>?_) (λm=>?_)))
    ·refine ap (Z H (f ?_))
     exact eu (.slice none 0 0) (aP H) ⟨H,by unfold jq;rw[←o];first|(rw[if_pos m];exact aO.nil _)|(rw[if_neg m];exact D)⟩
    ·refine aH ?_
     exact eu (v2) (aP H) ⟨H,by unfold jq;rw[←o];first|(rw[if_pos m];exact aO.nil _)|(rw[if_neg m];exact D)⟩
   rintro af _ ⟨rfl,S⟩
   refine al (ah (ap (J H (J H (J H (dY (vs:=[(0,B s),(1,v1),(2,af)]) H (yS R.a9 S.a9) ?_))))))
   obtain⟨p,q,Y,X,hs,z,u,v,k⟩:=(N.aL (((i.ai a).ai x8))).cv ⟨_,_,_,rfl⟩ ⟨_,_,_,rfl⟩ (bQ.mk (b:=s) R S)
   refine cZ H (hs) (f (al (aA (pW H H u bI H nr ?_))))
   exact⟨_,H,((((A.ai i).ai a).ai x8)).a2 z O,p,q,H,v,k⟩
theorem Pz (h:m.length≤137438953472):(ud m).length≤137438953472:=by
 unfold ud
 split
 ·simp
 ·exact h
theorem Jo {b:Bool} {n:List UInt32} (t:bQ b n m v w) (K:n.length≤137438953472) (k:m.length≤137438953472):
 Calls Tryz.prog 163 #[v] w (aJ λr w'=>ao w w'∧bQ (jg b (val n)) (lb (val n/Nat.gcd (val n) (val (ud m)))) (jq (val n) (val (ud m))) r w'):=by
 refine enter Tryz.func163 H H H (ah (ap ?_))
 obtain⟨g1,P,Q,w1,l,x1,d,e,d1⟩:=xg t
 refine nL H l ?_
 obtain⟨J,w2,s,A,c,x⟩:=tW (w:=w1)
 refine fY H s (f (al (ah (cz 7 [2,9] am am (bH H (λw a=>c9 (o:=0) bI H am H) (aQ H (λw a=>D dw H (a.a0 (c.a0 (d.cell (i:=0) H)))) (bH H (λw a=>c9 (o:=1) bI H am H) (aQ H (λw a=>D aT H (a.a0 (c.a0 (d.cell (i:=1) H)))) (aQ H (λw a=>((d.aL c).aL a).d6) (eh (S:=aO (ud m)) vZ (aO.a3 _) H (λw a=>by rintro _ rfl;exact vF (((bQ.mk e d1).aL c).aL a) G) (eh (S:=bQ (jg b (val n)) (lb (val n/Nat.gcd (val n) (val (ud m)))) (jq (val n) (val (ud m)))) Aj (bQ.a3 _ _ _) H (λw a=>by rintro _ rfl _ rfl z u;exact Jt ((e.aL c).aL a) u G (by have:=Pz k;omega) (DZ m)) (cq ?_))))))))))))
 rintro O g _ rfl M h
 obtain⟨p,q,N,L,hs,F,y,C,j⟩:=(x.aL g).cv ⟨_,_,_,rfl⟩ ⟨_,_,_,rfl⟩ h
 refine cZ H (hs) (f (al (aA (pW H H y bI H nr ?_))))
 exact⟨_,H,(((x1.ai c).ai g)).a2 F (cf x1.size A),p,q,H,C,j⟩
theorem ko {x y:Nat}:mY x y=0↔x=y:=by
 unfold mY
 split
 ·omega
 ·split<;>omega
theorem DM {b:Bool} {n:List UInt32}:rv b n []=decide (b=jg b (val n)∧n=lb (val n)):=by
 unfold rv
 rw[show val (ud [])=1 from rfl,Ji,vC,Lo]
 simp
theorem BS {b:Bool} {n:List UInt32} (hv:bQ b n m v w) (X:n.length≤137438953472) (W:m.length≤137438953472):
 Calls Tryz.prog 96 #[v] w (aJ λr w'=>ao w w'∧r=B (rv b n m)):=by
 refine enter Tryz.func96 H H H ?_
 obtain⟨b',M⟩:∃b',b'=jg b (val n):=⟨_,rfl⟩
 obtain⟨C,O⟩:∃C,C=lb (val n/Nat.gcd (val n) (val (ud m))):=⟨_,rfl⟩
 obtain⟨A,N⟩:∃A,A=jq (val n) (val (ud m)):=⟨_,rfl⟩
 have y:rv b n m=decide (b=b'∧n=C∧m=A):=by rw[M,O,N];rfl
 refine ah (ap ?_)
 obtain⟨g1,y1,z1,w1,aa,x1,g,u,d1⟩:=xg hv
 refine nL H aa (Z H (f (al (ah (ah (ap (c H (c9 (o:=2) bI H am H) (Y H (D aT H (g.cell (i:=2) H)) (aW H (cI aT d1) (U H (aV) (f (al (bc H (λS=>?_) (λS=>?_))))))))))))))
 ·have T:m=[]:=gT G
  subst T
  refine ah ?_
  cases b
  ·refine ap (c H (c9 (o:=1) bI H am H) (Y H (D aT H (g.cell (i:=1) H)) ?_))
   refine aC KR H H (Jg u) ?_
   rintro ad _ ⟨rfl,rfl⟩
   refine J H (cK (λa=>?_) (λa=>?_))
   ·refine V H (c H (c9 (o:=0) bI H am H) (V H (Y H (D dw H (g.cell (i:=0) H)) ?_)))
    refine V H (cP H cW (V H (J H (L H (L H (L H (L H (V H (bA H (bA H (Z H (f (al (aA (aI (aM H ?_))))))))))))))))
    exact⟨_,H,x1,by
     rw[DM]
     first
     |exact aB B (dH ⟨rfl,a.symm⟩).symm
     |exact aB B (bi λh=>a h.2.symm).symm
     |(have e:=@lh (val n)
       rw[a] at e
       refine aB B (cA.2 ⟨λh=>⟨(dH (show 0<val n by omega)).symm,a.symm⟩,λh=>?_⟩)
       have:0<val n:=ip h.1.symm
       omega)⟩
   ·refine L H (L H (L H (L H (sG H (sG H (sG H (sG H (L H ?_))))))))
    refine t H (Z H (f (al (aA (aI (aM H ?_))))))
    exact⟨_,H,x1,by
     rw[DM]
     first
     |exact aB B (dH ⟨rfl,a.symm⟩).symm
     |exact aB B (bi λh=>a h.2.symm).symm
     |(have e:=@lh (val n)
       rw[a] at e
       refine aB B (cA.2 ⟨λh=>⟨(dH (show 0<val n by omega)).symm,a.symm⟩,λh=>?_⟩)
       have:0<val n:=ip h.1.symm
       omega)⟩
  ·refine ap (c H (c9 (o:=1) bI H am H) (Y H (D aT H (g.cell (i:=1) H)) ?_))
   refine aC KR H H (Jg u) ?_
   rintro ad _ ⟨rfl,rfl⟩
   refine J H (cK (λa=>?_) (λa=>?_))
   ·refine V H (c H (c9 (o:=0) bI H am H) (V H (Y H (D dw H (g.cell (i:=0) H)) ?_)))
    refine V H (cP H cW (V H (J H (V H (c H (c9 (o:=1) bI H am H) (V H (Y H (D aT H (g.cell (i:=1) H)) (V H (aW H (cI aT u) (V H (U H (cY) (V H (t H (bA H (Z H (f (al (aA (aI (aM H ?_))))))))))))))))))))
    exact⟨_,H,x1,by
     rw[DM]
     first
     |exact aB B (dH ⟨rfl,a.symm⟩).symm
     |exact aB B (bi λh=>a h.2.symm).symm
     |(have e:=@lh (val n)
       rw[a] at e
       refine aB B (cA.2 ⟨λh=>⟨(dH (show 0<val n by omega)).symm,a.symm⟩,λh=>?_⟩)
       have:0<val n:=ip h.1.symm
       omega)⟩
   ·refine L H (L H (L H (L H (sG H (sG H (sG H (sG H (L H ?_))))))))
    refine t H (Z H (f (al (aA (aI (aM H ?_))))))
    exact⟨_,H,x1,by
     rw[DM]
     first
     |exact aB B (dH ⟨rfl,a.symm⟩).symm
     |exact aB B (bi λh=>a h.2.symm).symm
     |(have e:=@lh (val n)
       rw[a] at e
       refine aB B (cA.2 ⟨λh=>⟨(dH (show 0<val n by omega)).symm,a.symm⟩,λh=>?_⟩)
       have:0<val n:=ip h.1.symm
       omega)⟩
 ·refine aH (al (ah (ap (Y H (g.d6) (aC vX H H (Jo (bQ.mk u d1) X W) ?_)))))
  rintro ag ae ⟨Q,F⟩
  rw[←M,←O,←N] at F
  obtain⟨g3,w3,ab,l3,R,k3⟩:=tW (w:=ae)
  refine fY H ab ?_
  obtain⟨p,q,w4,hp,hs,q4,z,P,K⟩:=k3.cv ⟨_,_,_,rfl⟩ ⟨_,_,_,rfl⟩ (F.aL R)
  refine cZ H (hs) ?_
  have d:=(Q.ai R).a2 q4 (cf Q.size l3)
  refine f (al (ah (ap (c H (c9 (o:=0) bI H am H) (Y H (D dw H (d.a0 (g.cell (i:=0) H))) (c H (c9 (o:=0) bI H am H) (Y H (D dw H (z.cell (i:=0) H)) (U H (yT dw) (J H (cK (λj=>?_) (λj=>?_)))))))))))
  ·refine V H (c H (c9 (o:=1) bI H am H) (V H (Y H (D aT H (d.a0 (g.cell (i:=1) H))) ?_)))
   refine V H (aW H (cI aT (u.aL d)) (V H (c H (c9 (o:=1) bI H am H) (V H (Y H (D aT H (z.cell (i:=1) H)) (V H (aW H (cI aT P) (V H (U H (aV) (bA H (J H (cK (λl=>?_) (λl=>?_)))))))))))))
   ·refine V H (c H (c9 (o:=2) bI H am H) (V H (Y H (D aT H (d.a0 (g.cell (i:=2) H))) ?_)))
    refine V H (aW H (cI aT (d1.aL d)) (V H (c H (c9 (o:=2) bI H am H) (V H (Y H (D aT H (z.cell (i:=2) H)) (V H (aW H (cI aT K) (V H (U H (aV) (bA H (J H (cK (λs=>?_) (λs=>?_)))))))))))))
    ·refine V H (c H (c9 (o:=1) bI H am H) (V H (Y H (D aT H (d.a0 (g.cell (i:=1) H))) ?_)))
     refine V H (c H (c9 (o:=1) bI H am H) (V H (Y H (D aT H (z.cell (i:=1) H)) (V H (aC vW H H (vz (u.aL d) P) ?_)))))
     rintro ai ak ⟨x,rfl⟩
     refine V H (U H (aV) (bA H (J H (cK (λk=>?_) (λk=>?_)))))
     ·refine V H (c H (c9 (o:=2) bI H am H) (V H (Y H (D aT H ((d.ai x).a0 (g.cell (i:=2) H))) ?_)))
      refine V H (c H (c9 (o:=2) bI H am H) (V H (Y H (D aT H (x.a0 (z.cell (i:=2) H))) (V H (aC vW H H (vz (d1.aL (d.ai x)) (K.aL x)) ?_)))))
      rintro aj an ⟨af,rfl⟩
      refine V H (U H (aV) (bA H (Z H (f (al (aA (aM H ?_)))))))
      exact⟨_,H,(((x1.ai d).ai x).ai af),by
       rw[y]
       first
       |exact aB B (cA.2 ⟨λh=>⟨j,rF G (ko.1 k),rF G (ko.1 h)⟩,λh=>ko.2 (by rw[h.2.2])⟩)
       |exact aB B (bi λh=>k (ko.2 (by rw[h.2.1]))).symm
       |exact aB B (bi λh=>s (by rw[h.2.2])).symm
       |exact aB B (bi λh=>l (by rw[h.2.1])).symm
       |exact aB B (bi λh=>j h.1).symm⟩
     ·refine L H (L H (L H (L H (L H (L H (t H (Z H (f (al (aA (aM H ?_)))))))))))
      exact⟨_,H,((x1.ai d).ai x),by
       rw[y]
       first
       |exact aB B (cA.2 ⟨λh=>⟨j,rF G (ko.1 k),rF G (ko.1 h)⟩,λh=>ko.2 (by rw[h.2.2])⟩)
       |exact aB B (bi λh=>k (ko.2 (by rw[h.2.1]))).symm
       |exact aB B (bi λh=>s (by rw[h.2.2])).symm
       |exact aB B (bi λh=>l (by rw[h.2.1])).symm
       |exact aB B (bi λh=>j h.1).symm⟩
    ·refine L H (L H (L H (L H (L H (L H (t H (J H (L H (L H ?_)))))))))
     refine L H (L H (L H (L H (t H (Z H (f (al (aA (aM H ?_)))))))))
     exact⟨_,H,(x1.ai d),by
      rw[y]
      first
      |exact aB B (cA.2 ⟨λh=>⟨j,rF G (ko.1 k),rF G (ko.1 h)⟩,λh=>ko.2 (by rw[h.2.2])⟩)
      |exact aB B (bi λh=>k (ko.2 (by rw[h.2.1]))).symm
      |exact aB B (bi λh=>s (by rw[h.2.2])).symm
      |exact aB B (bi λh=>l (by rw[h.2.1])).symm
      |exact aB B (bi λh=>j h.1).symm⟩
   ·refine L H (L H (L H (L H (L H (L H (L H (t H (J H (L H ?_)))))))))
    refine L H (L H (L H (L H (L H (t H (J H (L H (L H (L H (L H (L H (L H (t H (Z H (f (al (aA (aM H ?_))))))))))))))))))
    exact⟨_,H,(x1.ai d),by
     rw[y]
     first
     |exact aB B (cA.2 ⟨λh=>⟨j,rF G (ko.1 k),rF G (ko.1 h)⟩,λh=>ko.2 (by rw[h.2.2])⟩)
     |exact aB B (bi λh=>k (ko.2 (by rw[h.2.1]))).symm
     |exact aB B (bi λh=>s (by rw[h.2.2])).symm
     |exact aB B (bi λh=>l (by rw[h.2.1])).symm
     |exact aB B (bi λh=>j h.1).symm⟩
  ·refine L H (L H (L H (L H (L H (L H (L H (t H (J H (L H ?_)))))))))
   refine L H (L H (L H (L H (L H (L H (t H (J H (L H (L H (L H (L H (L H (L H (t H (J H (L H (L H (L H (L H (L H (L H (t H (Z H (f (al (aA (aM H ?_)))))))))))))))))))))))))))
   exact⟨_,H,(x1.ai d),by
    rw[y]
    first
    |exact aB B (cA.2 ⟨λh=>⟨j,rF G (ko.1 k),rF G (ko.1 h)⟩,λh=>ko.2 (by rw[h.2.2])⟩)
    |exact aB B (bi λh=>k (ko.2 (by rw[h.2.1]))).symm
    |exact aB B (bi λh=>s (by rw[h.2.2])).symm
    |exact aB B (bi λh=>l (by rw[h.2.1])).symm
    |exact aB B (bi λh=>j h.1).symm⟩
theorem U3:aY Tryz.prog 145:=⟨_,Tryz.func145,am,rfl⟩
theorem U4:aY Tryz.prog 147:=⟨_,Tryz.func147,am,rfl⟩
theorem U2:aY Tryz.prog 227:=⟨_,Tryz.func227,am,rfl⟩
theorem KZ:aY Tryz.prog 60:=⟨_,Tryz.func60,am,rfl⟩
theorem U5:aY Tryz.prog 215:=⟨_,Tryz.func215,am,rfl⟩
theorem Sv (j:aO m v w) (n:m.length≤137438953472):
 Calls Tryz.prog 145 #[v] w (aJ λr w'=>ao w w'∧aO (lb (val (ud m))) r w'):=by
 refine enter Tryz.func145 H H H ?_
 obtain⟨t,a⟩:∃t,t=lb (val m):=⟨_,rfl⟩
 refine ah (ap (Z H (f (al (ah (ap (J H (aC qP H H (rX j G) ?_))))))))
 rintro v5 e ⟨g,b⟩
 rw[←a] at b
 refine Z H (f (al (ah (ah (ap (J H (aW H (cI aT b) (U H (aV) (f (al (bc H (λd=>?_) (λd=>?_))))))))))))
 ·have c:val m=0:=lh.1 (by rw[←a];omega)
  refine ah (ap ?_)
  obtain⟨v9,p,i,l,k,o⟩:=mK aT (w:=e) e.heap.size [1] aj (bV _)
  refine dJ (vs:=[(0,bz (1))]) H i (Z H (f (al (aA (aI (aM H ?_))))))
  exact⟨_,H,(g.ai l),by rw[Bp,if_pos c,CQ];exact k.bL⟩
 ·have c:val m≠0:=λh=>d (by rw[a,h];rfl)
  refine aH (al (ah (ap (J H (Z H (f (al (aA (aM H ?_)))))))))
  exact⟨_,H,g,by rw[Bp,if_neg c,←a];exact b⟩
theorem Sw {s:Bool} {n d:List UInt32} {x:Value} (hn:aO n x w) (T:aO d y w) (aa:n.length≤274877906944) (X:d.length≤274877906944) (W:0<val d):
 Calls Tryz.prog 147 #[B s,x,y] w (aJ λr w'=>ao w w'∧bQ (jg s (val n)) (lb (val n/Nat.gcd (val n) (val d))) (jq (val n) (val d)) r w'):=by
 refine enter Tryz.func147 H H H ?_
 have N:=Mq (n:=val n) W
 obtain⟨g,o⟩:∃g,g=Nat.gcd (val n) (val d):=⟨_,rfl⟩
 have aj:(lb g).length≤d.length:=cf (wQ (by rw[o];exact Nat.gcd_le_right _ W)) (gw (en d))
 obtain⟨e,C⟩:∃e,e=lb (val d/g):=⟨_,rfl⟩
 obtain⟨a,M⟩:∃a,a=lb (val n/g):=⟨_,rfl⟩
 have hc:decide ((a.length:Int)>0)=decide (0<val n):=by
  have e0:=@lh (val n/g)
  have e1:val n/g=0↔val n=0:=by
   rw[o]
   constructor
   ·intro h
    have:=Nat.div_mul_cancel (Jh (val n) (val d))
    rw[h] at this;omega
   ·intro h
    rw[h,Nat.zero_div]
  rw[←M] at e0
  exact cA.2 G
 have O:jq (val n) (val d)=if e=[1] then[] else e:=by
  unfold jq
  rw[←o]
  by_cases z:val d/g=1
  ·rw[if_pos z,if_pos (by rw[C,z,CQ])]
  ·rw[if_neg z,if_neg (λh=>z (MU.1 (C▸h))),C]
 rw[←o] at N⊢
 rw[←M]
 refine ah (ap ?_)
 obtain⟨g6,w6,ad,l6,m,k6⟩:=tW (w:=w)
 refine fY H ad (f (al (ah (ap (J H (J H (aC UV H H (Sd (hn.aL m) (T.aL m) aa X) ?_)))))))
 rintro ak an ⟨k,F⟩
 rw[←o] at F
 refine Z H (f (al (ah (ap (J H (J H (aC FY H H ((by have:=Ff (hn.aL (m.ai k)) F aa G (by rw[cH];exact N);rw[cH,←M] at this;exact this)) ?_)))))))
 rintro v20 aq ⟨l,R,r1,rfl,s1,u1⟩
 refine J H (aZ H (ov) (aZ H ow (aZ H ox (Z H (Z H (Z H (f (al (ah (ap (J H (J H (aC FY H H ((by have:=Ff (T.aL ((m.ai k).ai l)) (F.aL l) X G (by rw[cH];exact N);rw[cH,←C] at this;exact this)) ?_)))))))))))))
 rintro am ag ⟨j,q2,r2,rfl,s2,u2⟩
 refine J H (aZ H (ov) (aZ H ow (aZ H ox (Z H (Z H (Z H (f (al (ah (iS (λp:Value=>[(0,B s),(8,R),(11,p),(6,.pointer (some ⟨g6,0,none⟩))]) (λp w'=>ag=w'∧aO (jq (val n) (val d)) p w') ?_ ?_))))))))))
 ·refine ah (ap (J H (aW H (cI aT s2) (U H (aV) (J H ?_)))))
  refine cK (λA=>?_) (λA=>?_)
  ·refine V H (J H (V H ?_))
   obtain⟨ai,ae,af⟩:=ei aT s2 (i:=0) G .i64
   refine bF H (ae _) (V H (Y H (D bN H af) (V H (U (v:=bz 1) H (Dq) (bA H (f (al (bc H (λc=>?_) (λc=>?_)))))))))
   ·refine ap (Z H (f ?_))
    exact eu (.slice none 0 0) (aP H) ⟨H,by
     rw[O]
     first
     |(rw[if_pos (by
        obtain⟨y,rfl⟩:=zv.1 (show e.length=1 by omega)
        simpa using c)];exact aO.nil _)
     |(rw[if_neg (λh=>by subst h;exact c rfl)];exact s2)
     |(rw[if_neg (λh=>by subst h;exact A rfl)];exact s2)⟩
   ·refine aH ?_
    exact eu (q2) (aP H) ⟨H,by
     rw[O]
     first
     |(rw[if_pos (by
        obtain⟨y,rfl⟩:=zv.1 (show e.length=1 by omega)
        simpa using c)];exact aO.nil _)
     |(rw[if_neg (λh=>by subst h;exact c rfl)];exact s2)
     |(rw[if_neg (λh=>by subst h;exact A rfl)];exact s2)⟩
  ·refine L H (L H (L H (L H (t H (f (al (be H (aH ?_))))))))
   exact eu (q2) (aP H) ⟨H,by
    rw[O]
    first
    |(rw[if_pos (by
       obtain⟨y,rfl⟩:=zv.1 (show e.length=1 by omega)
       simpa using c)];exact aO.nil _)
    |(rw[if_neg (λh=>by subst h;exact c rfl)];exact s2)
    |(rw[if_neg (λh=>by subst h;exact A rfl)];exact s2)⟩
 rintro ab _ ⟨rfl,u⟩
 refine al (ah ?_)
 cases s
 ·refine ap (J H (J H (L H (L H (L H (t H (J H (J H ?_))))))))
  refine AY (vs:=[(0,B (jg false (val n))),(1,R),(2,ab)]) H H (yS s1.a9 u.a9) ?_
  obtain⟨p,q,w3,hp,hs,S,P,Q,K⟩:=(k6.aL (((k.ai l).ai j))).cv ⟨_,_,_,rfl⟩ ⟨_,_,_,rfl⟩ (bQ.mk (b:=jg false (val n)) (s1.aL j) u)
  refine cZ H (hs) (f (al (aA (pW H H P bI H nr ?_))))
  exact⟨_,H,((((m.ai k).ai l).ai j)).a2 S l6,p,q,H,Q,K⟩
 ·refine ap (J H (J H (V H (J H (V H (aW H (cI aT (s1.aL j)) (V H (U H (cY) ?_))))))))
  rw[hc]
  refine bA H (J H (J H (AY (vs:=[(0,B (jg true (val n))),(1,R),(2,ab)]) H H (yS s1.a9 u.a9) ?_)))
  obtain⟨p,q,w3,hp,hs,S,P,Q,K⟩:=(k6.aL (((k.ai l).ai j))).cv ⟨_,_,_,rfl⟩ ⟨_,_,_,rfl⟩ (bQ.mk (b:=jg true (val n)) (s1.aL j) u)
  refine cZ H (hs) (f (al (aA (pW H H P bI H nr ?_))))
  exact⟨_,H,((((m.ai k).ai l).ai j)).a2 S l6,p,q,H,Q,K⟩
theorem Sq {b:Bool} {n:List UInt32} (t:bQ b n m v w) (L:n.length≤137438953472) (e:m.length≤137438953472):
 Calls Tryz.prog 227 #[v] w (aJ λr w'=>ao w w'∧bQ (jg b (val n)) (lb (val n/Nat.gcd (val n) (val (ud m)))) (jq (val n) (val (ud m))) r w'):=by
 refine enter Tryz.func227 H H H ?_
 have N:(lb (val (ud m))).length≤137438953472:=cf (gw (en _)) (Pz e)
 refine ah (ap ?_)
 obtain⟨g1,R,T,w1,k,x1,d,C,d1⟩:=xg t
 refine nL H k ?_
 obtain⟨K,w2,l,A,c,x⟩:=tW (w:=w1)
 refine fY H l (f (al (ah (cz 8 [2,10] am am (bH H (λw a=>c9 (o:=0) bI H am H) (aQ H (λw a=>D dw H (a.a0 (c.a0 (d.cell (i:=0) H)))) (bH H (λw a=>c9 (o:=1) bI H am H) (aQ H (λw a=>D aT H (a.a0 (c.a0 (d.cell (i:=1) H)))) (bH H (λw a=>c9 (o:=2) bI H am H) (aQ H (λw a=>D aT H (a.a0 (c.a0 (d.cell (i:=2) H)))) (eh (S:=aO (lb (val (ud m)))) U3 (aO.a3 _) H (λw a=>by rintro _ rfl;exact Sv ((d1.aL c).aL a) e) (eh (S:=bQ (jg b (val n)) (lb (val n/Nat.gcd (val n) (val (ud m)))) (jq (val n) (val (ud m)))) U4 (bQ.a3 _ _ _) H (λw a=>by rintro _ rfl _ rfl z u;have:=Sw (s:=b) ((C.aL c).aL a) u G G (by rw[cH];exact DZ m);rw[cH] at this;exact this) (cq ?_)))))))))))))
 rintro Q g _ rfl O h
 obtain⟨p,q,P,M,hs,J,y,F,j⟩:=(x.aL g).cv ⟨_,_,_,rfl⟩ ⟨_,_,_,rfl⟩ h
 refine cZ H (hs) (f (al (aA (pW H H y bI H nr ?_))))
 exact⟨_,H,(((x1.ai c).ai g)).a2 J (cf x1.size A),p,q,H,F,j⟩
theorem JG {a b:Bool} {n p q:List UInt32} (F:bQ a n m v w) (C:bQ b p q u w):
 Calls Tryz.prog 60 #[v,u] w (aJ λr w'=>ao w w'∧r=B (decide (a=b∧n=p∧m=q))):=by
 refine enter Tryz.func60 H H H (ah (ap ?_))
 obtain⟨N,W,z2,w2,z,k,l,G,x⟩:=xg F
 refine nL H z ?_
 obtain⟨O,X,z3,T,A,d,s,K,y⟩:=xg (C.aL k)
 refine nL H A (Z H (f (al (ah (ap (c H (c9 (o:=0) bI H am H) (Y H (D dw H (d.a0 (l.cell (i:=0) H))) (c H (c9 (o:=0) bI H am H) (Y H (D dw H (s.cell (i:=0) H)) (U H (yT dw) (J H (cK (λe=>?_) (λe=>?_)))))))))))))
 ·refine V H (c H (c9 (o:=1) bI H am H) (V H (Y H (D aT H (d.a0 (l.cell (i:=1) H))) ?_)))
  refine V H (c H (c9 (o:=1) bI H am H) (V H (Y H (D aT H (s.cell (i:=1) H)) (V H (aC KX H H (Jz (G.aL d) K) ?_)))))
  rintro P R ⟨j,rfl⟩
  refine bA H (J H (cK (λg=>?_) (λg=>?_)))
  ·refine V H (c H (c9 (o:=2) bI H am H) (V H (Y H (D aT H ((d.ai j).a0 (l.cell (i:=2) H))) ?_)))
   refine V H (c H (c9 (o:=2) bI H am H) (V H (Y H (D aT H (j.a0 (s.cell (i:=2) H))) (V H (aC KX H H (Jz (x.aL (d.ai j)) (y.aL j)) ?_)))))
   rintro Q S ⟨M,rfl⟩
   refine bA H (Z H (f (al (aA (aM H ?_)))))
   exact⟨_,H,(((k.ai d).ai j).ai M),by
    first
    |exact aB B (cA.2 ⟨λh=>⟨e,g,h⟩,λh=>h.2.2⟩)
    |exact aB B (bi λh=>g h.2.1).symm
    |exact aB B (bi λh=>e h.1).symm⟩
  ·refine L H (L H (L H (L H (L H (t H (Z H (f (al (aA (aM H ?_))))))))))
   exact⟨_,H,((k.ai d).ai j),by
    first
    |exact aB B (cA.2 ⟨λh=>⟨e,g,h⟩,λh=>h.2.2⟩)
    |exact aB B (bi λh=>g h.2.1).symm
    |exact aB B (bi λh=>e h.1).symm⟩
 ·refine L H (L H (L H (L H (L H (t H (J H (L H (L H (L H ?_)))))))))
  refine L H (L H (t H (Z H (f (al (aA (aM H ?_)))))))
  exact⟨_,H,(k.ai d),by
   first
   |exact aB B (cA.2 ⟨λh=>⟨e,g,h⟩,λh=>h.2.2⟩)
   |exact aB B (bi λh=>g h.2.1).symm
   |exact aB B (bi λh=>e h.1).symm⟩
theorem Sx {b:Bool} {n:List UInt32} (i:bQ b n m v w) (g:n.length≤137438953472) (e:m.length≤137438953472):
 Calls Tryz.prog 215 #[v] w (aJ λr w'=>ao w w'∧r=B (rv b n m)):=by
 refine enter Tryz.func215 H H H (ah (ap ?_))
 obtain⟨g1,o,p,w1,h,x1,c,d,d1⟩:=xg i
 refine nL H h (Z H (f (al (ah (cz 4 [6] am am (aQ H (λw a=>(c.aL a).d6) (aQ H (λw a=>(c.aL a).d6) (eh (S:=bQ (jg b (val n)) (lb (val n/Nat.gcd (val n) (val (ud m)))) (jq (val n) (val (ud m)))) U2 (bQ.a3 _ _ _) H (λw a=>by rintro _ rfl;exact Sq ((bQ.mk d d1).aL a) g e) (eh (S:=Is (B (rv b n m))) KZ (cN.is _) H (λw a=>by rintro _ rfl z j;exact JG ((bQ.mk d d1).aL a) j) (cq ?_))))))))))
 rintro l k _ rfl
 refine Z H (f (al (aA (aM H ?_))))
 exact⟨_,H,(x1.ai k),H⟩
theorem Kx:aY Tryz.prog 41:=⟨_,Tryz.func41,am,rfl⟩
def rdB (l:List UInt8):Option (List UInt8×List UInt8):=(eY l).bind λp=>if p.1≤p.2.length then some (p.2.take p.1,p.2.drop p.1) else none
section
variable {w:World} {g:Nat}
theorem OR {st:Option (List UInt8)} (c:dv g st w):Calls Tryz.prog 264 #[.pointer (some ⟨g,0,none⟩)] w (aJ λr w'=>w.grownBy w' (some g)∧match st.bind eY with
 |some (n,t)=>r=.tuple #[bk (UInt64.ofNat n),B true]∧dv g (some t) w'
 |none=>r=.tuple #[bk 0,B false]∧∃l',dv g l' w'):=by
 cases st with
 |none=>exact(OT c).mono λe w' ⟨v,b,a,i⟩=>⟨v,b,by subst i;exact⟨Gw _ _,a,none,c⟩⟩
 |some l=>
  refine(OU c).mono λe w' ⟨v,b,f,a⟩=>⟨v,b,f,?_⟩
  show match eY l with|some (n,t)=>_|none=>_
  cases d:eY l with
  |none=>rw[d] at a;exact⟨a.1,a.2.imp' some λ_ h=>h⟩
  |some p=>rw[d] at a;exact a
theorem QC {st:Option (List UInt8)} (e:dv g st w):
 Calls Tryz.prog 41 #[.pointer (some ⟨g,0,none⟩)] w (aJ λr w'=>r=I (if st=some [] then 0 else 5)∧w'=w):=by
 obtain⟨A,n,c,a,b,_⟩:=e
 refine enter Tryz.func41 H H H (ah (ap (Z H (f (al (ah (ah (ap (J H (U H (Y3 qH) (J H (V H (J H (V H (dq H (V H (az H (jR oR H xt G) (V H (Y H (D dw H (qR (i:=1) a H)) ?_)))))))))))))))))))
 cases st with
 |none=>
  refine V H (J H ?_)
  iterate 6 refine L rfl ?_
  refine V H (bA H (bA H (f (al (bT H (ah (ap (Z H (f (al (aA (aI (aM H ?_)))))))))))))
  exact⟨_,H,H,H⟩
 |some l=>
  have d:cV l (.slice A n c) w:=b
  refine V H (J H (V H (J H (V H (dq H (V H (az H (jR oR H tk G) (V H (Y H (D iB H (qR (i:=0) a H)) (V H (aW H (ro d) (V H (U H cY (V H (t H (bA H (f (al (bc H (λh=>?_) (λh=>?_))))))))))))))))))))
  ·refine ah (ap (Z H (f (al (aA (aI ?_))))))
   refine aM H ?_
   have:some l≠some []:=by rintro⟨⟩;simp at h
   rw[if_neg this]
   exact⟨_,H,H,H⟩
  ·refine aH (al (ah (ap (Z H (f (al (aA ?_)))))))
   refine aM H ?_
   have:l=[]:=gT G
   subst this
   exact⟨_,H,H,H⟩
end
structure Kp (w w':World):Prop where
 size:w.heap.size≤w'.heap.size
 b8:∀{l:List UInt8} {v:Value},cV l v w→cV l v w'
 bL:∀{l:List UInt32} {v:Value},aO l v w→aO l v w'
theorem Kp.a8 (h:ao w w'):Kp w w':=⟨h.size,λb=>b.aL h,λb=>b.aL h⟩
theorem Kp.refl (w:World):Kp w w:=.a8 (ao.refl w)
theorem Kp.ai {a b c:World} (h:Kp a b) (k:Kp b c):Kp a c:=⟨cf h.size k.size,λx=>k.b8 (h.b8 x),λx=>k.bL (h.bL x)⟩
theorem cV.kp {l:List UInt8} (h:cV l v w) (k:Kp w w'):cV l v w':=k.b8 h
theorem aO.kp (h:aO l v w) (k:Kp w w'):aO l v w':=k.bL h
theorem bQ.kp {w w':World} {b:Bool} {n m:List UInt32} {v:Value} (h:bQ b n m v w) (k:Kp w w'):bQ b n m v w':=by
 obtain⟨x,y,rfl,a,c⟩:=h
 exact⟨x,y,H,a.kp k,c.kp k⟩
def lK (T:TypeId) (g:Nat) (st:Option (List UInt8)) (w:World):Prop:=∃A n c,bm g T [.slice A n c,B st.isNone] w∧cV (st.getD []) (.slice A n c) w∧vy A g
theorem dv.b6 {st:Option (List UInt8)} (h:dv g st w):lK 184 g st w:=h
theorem lK.c1 {st:Option (List UInt8)} (h:lK 184 g st w):dv g st w:=h
section
variable {T:TypeId} {g:Nat} {st:Option (List UInt8)} {w w':World}
theorem lK.aL (h:lK T g st w) (a:ao w w'):lK T g st w':=by
 obtain⟨A,n,c,b,d,e⟩:=h
 exact⟨A,n,c,b.aL a,d.aL a,e⟩
theorem Zu (A:Option Addr) (n c:Nat) (b:Bool) (l:List UInt32):∀(j:Nat) (u:Value),u∈l.map bz→(#[.slice A n c,.bool b]:Array Value)[j]? ≠some u:=by
 intro j u a
 obtain⟨x,_,rfl⟩:=fF.1 a
 match j with
 |0=>simp[bz]
 |1=>simp[bz]
 |j+2=>simp
theorem lK.kp (d:lK T g st w) (a:w.grownBy w' (some g)):Kp w w':=by
 obtain⟨A,n,c,b,_⟩:=d
 exact⟨a.size,λh=>Sl.keep h b (OH A n c _ _) a,λh=>Sl.keep h b (Zu A n c _ _) a⟩
theorem lK.a4 {T':TypeId} {g':Nat} {s:Option (List UInt8)} (h:lK T' g' s w) (j:lK T g st w) (a:w.grownBy w' (some g)) (i:g'≠g):lK T' g' s w':=by
 obtain⟨A,n,c,b,d,f⟩:=h
 exact⟨A,n,c,b.a4 a (λe=>i (cC e)),d.kp (j.kp a),f⟩
end
theorem Zl (b:Bool) (A C:Option Addr) (n c m d:Nat) (l:List UInt8):∀(j:Nat) (u:Value),u∈l.map U8→(#[.bool b,.slice A n c,.slice C m d]:Array Value)[j]? ≠some u:=by
 intro j u a
 obtain⟨x,_,rfl⟩:=fF.1 a
 match j with
 |0=>simp[U8]
 |1=>simp[U8]
 |2=>simp[U8]
 |j+3=>simp
theorem bm.d7 {T:TypeId} {b:Bool} {x:Value} (h:bm g T [B b,x,y] w) (e:∃A n c,x=.slice A n c) (f:∃A n c,y=.slice A n c) (a:w.grownBy w' (some g)):Kp w w':=by
 obtain⟨A,n,c,rfl⟩:=e
 obtain⟨C,m,d,rfl⟩:=f
 exact⟨a.size,λk=>Sl.keep k h (Zl b A C n c m d _) a,λk=>Sl.keep k h (Om b A C n c m d _) a⟩
theorem lK.off {T:TypeId} {st:Option (List UInt8)} (h:lK T g st w) (k:Kp w w') (i:w.grownBy w' (some g')) (f:g≠g'):lK T g st w':=by
 obtain⟨A,n,c,a,b,d⟩:=h
 exact⟨A,n,c,a.a4 i (λe=>f (cC e)),b.kp k,d⟩
theorem wG {a:Option Nat} (h:w.grownBy w1 a) (q:w1.grownBy w2 (some g)) (c:w.heap.size≤g):w.grownBy w2 a:=
 ⟨q.os.ai h.os,q.tape.ai h.tape,q.output.ai h.output,cf h.size q.size,λi hi b=>(q.block i (eT hi h.size) (λe=>by have:=cC e;omega)).ai (h.block i hi b)⟩
theorem nN {R:Ending→World→Prop} {fr:Fr} {p s:Tmp} {t T:TypeId} {l:List Value} {d:TypeDesc} (m:fn.results= #[.cell p t,.tmp s]) (o:lk fr p=some (.pointer (some ⟨g,0,none⟩))) (hs:lk fr s=some u) (c:bm g T l w) (n:P.underlying t=some d) (e:d.isRow=true) (hi:(P.info? t).map (·.size)=some l.length)
 (h:R (.returned (.tuple #[.agg l.toArray,u])) w):gZ (bodyPost P fn R) N [] fr w .ret:=λa b=>by
 refine⟨b.defers,.tuple #[.agg l.toArray,u],?_,h⟩
 have i:=b.at_ p _ o
 have j:a.tmps[p]?.getD undef=.pointer (some ⟨g,0,none⟩):=by simpa using i
 have k:=b.at_ s _ hs
 have f:=run_loadVar_row w g T t l.toArray (0,0) d c n (by cases d<;>first|rfl|exact e) (by simpa using hi)
 simp[results,m,j,asAddr,f,←k]
def uz (n:Nat):Int:=if n%2=0 then((n/2:Nat):Int) else-((n/2:Nat):Int)-1
theorem aaw (n:Int):uz (vm n)=n:=by
 unfold uz vm
 split<;>split<;>omega
theorem Zh {t:TypeId} {x y:Operand} (c:q<9223372036854775808):(bin .xor t x y (I (q:Int)) (I 0)).run P w=.ok (I (q:Int)) w:=by
 have h:=Ok (P:=P) (w:=w) (t:=t) (x:=x) (y:=y) (a:=Int64.ofInt q) (b:=Int64.ofInt 0)
 rw[Ev aj dT] at h
 have e:(Int64.ofInt q^^^Int64.ofInt 0).toInt=q:=by
  rw[show Int64.ofInt 0=0 from rfl,Int64.xor_zero,Ev aj dT]
 rw[e] at h
 exact h
theorem Zi {t:TypeId} {x y:Operand} (c:q<9223372036854775808):(bin .xor t x y (I (q:Int)) (I (-1))).run P w=.ok (I (-(q:Int)-1)) w:=by
 have h:=Ok (P:=P) (w:=w) (t:=t) (x:=x) (y:=y) (a:=Int64.ofInt q) (b:=Int64.ofInt (-1))
 rw[Ev aj dT] at h
 have e:(Int64.ofInt q^^^Int64.ofInt (-1)).toInt= -(q:Int)-1:=by
  have:Int64.ofInt q^^^Int64.ofInt (-1)= ~~~(Int64.ofInt q):=by
   apply Int64.toBitVec_inj.1
   rw[Int64.toBitVec_xor,Int64.toBitVec_not]
   have:(Int64.ofInt (-1)).toBitVec=BitVec.allOnes 64:=aF
   rw[this,BitVec.xor_allOnes]
  rw[this,Int64.toInt_not,Ev aj dT]
  exact Int.bmod_eq_of_le dT dT
 rw[e] at h
 exact h
def w4 (a b c d:UInt8):UInt32:=UInt32.ofNat (a.toNat+256*b.toNat+65536*c.toNat+16777216*d.toNat)
theorem Ib (a b c d:UInt8):(w4 a b c d).toNat=a.toNat+256*b.toNat+65536*c.toNat+16777216*d.toNat:=by
 have:=a.toNat_lt;have:=b.toNat_lt;have:=c.toNat_lt;have:=d.toNat_lt
 unfold w4
 rw[vL]
 omega
theorem aaC (x:UInt32):w4 x.toUInt8 (x>>>UInt32.ofNat 8).toUInt8 (x>>>UInt32.ofNat 16).toUInt8 (x>>>UInt32.ofNat 24).toUInt8=x:=by
 have:=ep x
 refine ve ?_
 rw[Ib]
 simp only[zP,zO,show(UInt32.ofNat 8).toNat=8 from rfl,show(UInt32.ofNat 16).toNat=16 from rfl,show(UInt32.ofNat 24).toNat=24 from rfl,rU,Nat.reduceMod,Nat.reducePow]
 omega
theorem Xj (a b c d:UInt8):pI (w4 a b c d)=[a,b,c,d]:=by
 have f:=a.toNat_lt;have g:=b.toNat_lt;have i:=c.toNat_lt;have j:=d.toNat_lt
 have e:∀x y:UInt8,x.toNat=y.toNat→x=y:=λx y h=>UInt8.toNat_inj.1 h
 have h:=Ib a b c d
 unfold pI
 congr 1
 ·refine e _ _ ?_
  rw[zP,h];omega
 congr 1
 ·refine e _ _ ?_
  rw[zP,zO,h,show(UInt32.ofNat 8).toNat%32=8 from rfl,rU];omega
 congr 1
 ·refine e _ _ ?_
  rw[zP,zO,h,show(UInt32.ofNat 16).toNat%32=16 from rfl,rU];omega
 congr 1
 ·refine e _ _ ?_
  rw[zP,zO,h,show(UInt32.ofNat 24).toNat%32=24 from rfl,rU];omega
theorem Py (a:UInt8):a.toUInt32.toNat=a.toNat:=by simp
theorem aaD (a b c d:UInt8):((a.toUInt32|||(b.toUInt32<<<UInt32.ofNat 8))|||(c.toUInt32<<<UInt32.ofNat 16))|||(d.toUInt32<<<UInt32.ofNat 24)=w4 a b c d:=by
 have f:=a.toNat_lt;have g:=b.toNat_lt;have h:=c.toNat_lt;have i:=d.toNat_lt
 have sh:∀(x:UInt8) (k:Nat),k≤24→(x.toUInt32<<<UInt32.ofNat k).toNat=x.toNat<<<k:=λx k e=>by
  have j:=x.toNat_lt
  rw[JW,Py]
  have:(UInt32.ofNat k).toNat%32=k:=by rw[vL];omega
  rw[this,rT]
  have:2^k≤2^24:=lH G e
  have:x.toNat*2^k≤255*2^24:=gi G this
  omega
 refine ve ?_
 rw[Ib]
 simp only[UInt32.toNat_or,sh _ 8 G,sh _ 16 G,sh _ 24 G,Py]
 rw[xT a.toNat,←EX G,xT _ (c.toNat<<<16),←EX (by rw[rT];omega),xT _ (d.toNat<<<24),←EX (by simp only[rT];omega)]
 simp only[rT]
 omega
def fx:List UInt8→List UInt32
 |a::b::c::d::l=>w4 a b c d::fx l
 |_=>[]
theorem zc:∀(n:Nat) (l:List UInt8),l.length=4*n→(fx l).length=n
 |0,[],_=>rfl
 |n+1,a::b::c::d::l,h=>by
  have:=zc n l (by simp at h;omega)
  simp[fx,this]
 |n+1,[],h=>by simp at h
 |n+1,[_],h=>by simp at h;omega
 |n+1,[_,_],h=>by simp at h;omega
 |n+1,[_,_,_],h=>by simp at h;omega
theorem PB:∀(l:List UInt32),fx (gW l)=l
 |[]=>rfl
 |x::l=>by
  have e:gW (x::l)=pI x++gW l:=by simp[gW]
  rw[e,pI,nU,nU,nU,nU,qB,fx,aaC,PB l]
theorem MV:∀(n:Nat) (l:List UInt8),l.length=4*n→gW (fx l)=l
 |0,[],_=>rfl
 |n+1,a::b::c::d::l,h=>by
  have:=MV n l (by simp at h;omega)
  have e:∀x (l:List UInt32),gW (x::l)=pI x++gW l:=λx l=>by simp[gW]
  rw[fx,e,this,Xj];rfl
 |n+1,[],h=>by simp at h
 |n+1,[_],h=>by simp at h;omega
 |n+1,[_,_],h=>by simp at h;omega
 |n+1,[_,_,_],h=>by simp at h;omega
theorem PC:∀(i:Nat) (l:List UInt8) (h:4*(i+1)≤l.length),fx (l.take (4*(i+1)))=fx (l.take (4*i))++[w4 (l[4*i]) (l[4*i+1]) (l[4*i+2]) (l[4*i+3])]
 |0,a::b::c::d::l,_=>by simp[fx]
 |i+1,a::b::c::d::l,h=>by
  have:=PC i l (by simp at h;omega)
  have e:4*(i+1+1)=4*(i+1)+4:=G
  have f:4*(i+1)=4*i+4:=G
  simp only[e,List.take_succ_cons,fx,this]
  simp only[f,List.take_succ_cons,fx,nU]
  rfl
 |i,[],h=>by simp at h
 |i,[_],h=>by simp at h;omega
 |i,[_,_],h=>by simp at h;omega
 |i,[_,_,_],h=>by simp at h;omega
def jy (l:List UInt8):Option (List UInt32×List UInt8):=(eY l).bind λp=>
 if p.1≤p.2.length/4∧lb (val (fx (p.2.take (4*p.1))))=fx (p.2.take (4*p.1)) then some (fx (p.2.take (4*p.1)),p.2.drop (4*p.1)) else none
theorem Oz (h:m.length<18446744073709551616) (hm:lb (val m)=m) (t:List UInt8):jy (mn m++t)=some (m,t):=by
 have a:=tO m
 have b:(gW m++t).take (4*m.length)=gW m:=by rw[←a,EK];rfl
 have c:(gW m++t).drop (4*m.length)=t:=by rw[←a,List.drop_left'];rfl
 unfold jy mn
 rw[fh,HE h]
 show(if m.length≤(gW m++t).length/4∧lb (val (fx ((gW m++t).take (4*m.length))))=fx ((gW m++t).take (4*m.length)) then some (fx ((gW m++t).take (4*m.length)),(gW m++t).drop (4*m.length)) else none)=_
 rw[b,c,PB,if_pos ⟨by simp only[cr,a];omega,hm⟩]
theorem u4 {l t:List UInt8} (h:jy l=some (m,t)):l=mn m++t∧lb (val m)=m∧m.length<18446744073709551616:=by
 unfold jy at h
 cases a:eY l with
 |none=>rw[a] at h;cases h
 |some p=>
  obtain⟨n,u⟩:=p
  rw[a] at h
  have h:(if n≤u.length/4∧lb (val (fx (u.take (4*n))))=fx (u.take (4*n)) then some (fx (u.take (4*n)),u.drop (4*n)) else none)=some (m,t):=h
  split at h
  ·rename_i d
   simp only[Option.some.injEq,Prod.mk.injEq] at h
   have b:(u.take (4*n)).length=4*n:=by rw[eS];omega
   have e:=zc n _ b
   obtain⟨c,f⟩:=yZ a
   rw[←h.1,←h.2]
   refine⟨?_,d.2,G⟩
   unfold mn
   rw[e,MV n _ b,fh,nz]
   exact c
  ·cases h
def gM:List UInt8→Option ((Bool×List UInt32×List UInt32)×List UInt8)
 |[]=>none
 |c::l=>if 1<c.toNat then none else(jy l).bind λp=>(jy p.2).bind λq=>if rv (decide (c.toNat=1)) p.1 q.1=true then some ((decide (c.toNat=1),p.1,q.1),q.2) else none
theorem Ao:aY Tryz.prog 267:=⟨_,Tryz.func267,am,rfl⟩
theorem UX:aY Tryz.prog 193:=⟨_,Tryz.func193,am,rfl⟩
theorem FZ:aY Tryz.prog 192:=⟨_,Tryz.func192,am,rfl⟩
section
variable {w:World} {g:Nat}
theorem ZJ {st:Option (List UInt8)} (a:dv g st w) (h:st.bind eY=none):Calls Tryz.prog 264 #[.pointer (some ⟨g,0,none⟩)] w (aJ λr w'=>w.grownBy w' (some g)∧r=.tuple #[bk 0,B false]∧∃l',dv g l' w'):=by
 have:=OR a
 rw[h] at this
 exact this
theorem ZK {st:Option (List UInt8)} {t:List UInt8} (a:dv g st w) (h:st.bind eY=some (n,t)):Calls Tryz.prog 264 #[.pointer (some ⟨g,0,none⟩)] w (aJ λr w'=>w.grownBy w' (some g)∧r=.tuple #[bk (UInt64.ofNat n),B true]∧dv g (some t) w'):=by
 have:=OR a
 rw[h] at this
 exact this
end
theorem Zq {st:Option (List UInt8)} (h:st.bind eY=none):st.bind jy=none:=by
 cases st with
 |none=>rfl
 |some l=>
  have h:eY l=none:=h
  show jy l=none
  unfold jy
  rw[h];rfl
theorem Hx {st:Option (List UInt8)} {t:List UInt8} (h:st.bind eY=some (n,t)):st.bind jy=if n≤t.length/4∧lb (val (fx (t.take (4*n))))=fx (t.take (4*n)) then some (fx (t.take (4*n)),t.drop (4*n)) else none:=by
 cases st with
 |none=>cases h
 |some l=>
  have h:eY l=some (n,t):=h
  show jy l=_
  unfold jy
  rw[h];rfl
theorem OE {st:Option (List UInt8)} {t:List UInt8} (h:st.bind eY=some (n,t)) (c:∀l,st=some l→l.length≤k):t.length≤k∧n<18446744073709551616:=by
 cases st with
 |none=>cases h
 |some l=>
  obtain⟨a,b⟩:=yZ (show eY l=some (n,t) from h)
  have:=c l rfl
  rw[a,cr] at this
  exact⟨G,b⟩
def tB (b:Nat) (v:Value):Prop:=∀k,v.ownBlock=some k→b≤k
theorem Kd {s t:Bool} {a b c d:Value} (h:(Value.agg #[B s,a,b])=.agg #[B t,c,d]):a=c∧b=d:=by
 injection h with h
 have:=aB Array.toList h
 simp only[List.cons.injEq] at this
 exact⟨this.2.1,this.2.2.1⟩
def NatR (g:Nat) (w:World) (o:Option (List UInt32×List UInt8)) (r:Value) (w':World):Prop:=
 w.grownBy w' (some g)∧match o with
  |some (m,t)=>∃v,r=.tuple #[v,B true]∧aO m v w'∧dv g (some t) w'∧tB w.heap.size v
  |none=>∃v,r=.tuple #[v,B false]∧(∃m,aO m v w')∧∃l',dv g l' w'
theorem OL {st:Option (List UInt8)} (hr:dv g st w) (hl:∀l,st=some l→l.length≤549755813888):
 Calls Tryz.prog 267 #[.pointer (some ⟨g,0,none⟩)] w (aJ (NatR g w (st.bind jy))):=by
 refine enter Tryz.func267 H H H (ah (ap (Z H (Z H (f (al (ah ?_)))))))
 rcases hU:st.bind eY with _|⟨n,t⟩
 ·refine ap (J H (aC F6 H H (ZJ hr hU) ?_))
  rintro a9 aq ⟨j,rfl,l',Q⟩
  have aS:=(hr.b6).kp j
  refine J H (aZ H (dm) (aZ H (dn) (Z H (Z H (f (al (ah (ah (ap (J H (cP H cW (J H (L H (L H (L H (L H (L H (L H (L H (L H (L H (bA H (f (al (bT H (ah (ap (Z H (Z H (f (al (aA (aI (dt H ?_))))))))))))))))))))))))))))))))))
  exact⟨_,H,j,by rw[Zq hU];exact⟨_,H,⟨_,aO.nil _⟩,l',Q⟩⟩
 ·obtain⟨ht,hn⟩:=OE hU hl
  have y:(UInt64.ofNat n).toNat=n:=by rw[jo];omega
  refine ap (J H (aC F6 H H (ZK hr hU) ?_))
  rintro a9 aq ⟨j,rfl,Q⟩
  have aS:=(hr.b6).kp j
  refine J H (aZ H (dm) (aZ H (dn) ?_))
  obtain⟨A,n',c,k,b,_⟩:=Q.b6
  have b:cV t (.slice A n' c) aq:=b
  refine Z H (Z H (f (al (ah (ah (ap (J H (cP H cW (J H (V H (J H (V H (J H (V H (dq H (V H (az H (c9 (o:=0) oR H am H) (V H (Y H (D iB H (k.cell (i:=0) H)) (V H (aW H (ro b) (V H (cJ H (yX aE cU) (V H (U (v:=bk 4) H (Dz aF) (V H (U H (oy) (aK H (f (al (bc H (λK=>?_) (λK=>?_))))))))))))))))))))))))))))))))
  ·have bm:t.length/4<n:=by
    have K:=kW.1 K
    rw[xZ,y,jo,show(4:UInt64).toNat=4 from rfl] at K
    omega
   refine ah (ap (Z H (Z H (f (al (aA (aI (dt H ?_))))))))
   exact⟨_,H,j,by rw[Hx hU,if_neg G];exact⟨_,H,⟨_,aO.nil _⟩,_,Q⟩⟩
  ·have ab:n≤t.length/4:=by
    refine vE λhh=>K (kW.2 ?_)
    rw[xZ,y,jo,show(4:UInt64).toNat=4 from rfl]
    omega
   have ak:(4*UInt64.ofNat n).toNat=4*n:=by
    rw[JX,y,show(4:UInt64).toNat=4 from rfl]
    omega
   obtain⟨a,aa⟩:∃a,a=t.take (4*n):=⟨_,rfl⟩
   have P:a.length=4*n:=by rw[aa,eS];omega
   refine aH (al (ah (ap (J H (J H (U (u:=bk 4) H (Be) (aC we H H ((by have:=HZ (n:=4*UInt64.ofNat n) Q (by rw[ak];omega);rw[ak,←aa] at this;exact this)) ?_)))))))
   rintro v31 ag ⟨ar,rfl,ax,F,z⟩
   refine J H (aZ H (dm) (aZ H (dn) (Z H (Z H (f (al (ah (ap (Z H (f (al (ah (aR (ob (λ(i:Nat) (v:Value) (u:Value)=>[(4,bk (UInt64.ofNat n)),(6,v),(8,u)]) (λ(i:Nat) (v:Value) (u:Value) w'=>ao ag w'∧cV (a.drop (4*i)) v ag∧ej ag.heap.size (fx (a.take (4*i))) u w'∧i≤n) (λ(i:Nat) (v:Value) (u:Value)=>n-i) (0) (ar) (.slice none 0 0) (aP H) ⟨ao.refl _,by simpa using ax,by simpa [fx] using ej.nil _ _,G⟩ ?_))))))))))))))
   rintro i v u w6 ⟨p,C,d,hi⟩
   refine ah (ah ?_)
   have aD:(a.drop (4*i)).length=4*n-4*i:=by rw[gA,P]
   refine ap (J H (aW H (ro (C.aL p)) (U H (cY) (f (al (bc H (λaw=>?_) (λaw=>?_)))))))
   ·refine aH (al (ah (aR ?_)))
    have aD:(a.drop (4*i)).length=4*n-4*i:=by rw[gA,P]
    refine cz 24 [4,6,39,62] am am (W H (W H ?_))
    obtain⟨bf,aY,a4⟩:=rn (C.aL p) (i:=0) G .i64
    refine cF H (λw _=>aY w) (aQ H (λw m=>D fo H (m.a0 a4)) (mD H H (λw _=>uX fo bN) (W H ?_)))
    obtain⟨bg,a0,a5⟩:=rn (C.aL p) (i:=1) G .i64
    refine cF H (λw _=>a0 w) (aQ H (λw m=>D fo H (m.a0 a5)) (mD H H (λw _=>uX fo bN) (bn (v:=bk 8) H (λw _=>uV 8 G) (bn H (λw _=>tY) (W H ?_)))))
    obtain⟨a51,a1,a6⟩:=rn (C.aL p) (i:=2) G .i64
    refine cF H (λw _=>a1 w) (aQ H (λw m=>D fo H (m.a0 a6)) (mD H H (λw _=>uX fo bN) (bn (v:=bk 16) H (λw _=>uV 16 G) (bn H (λw _=>tY) (W H ?_)))))
    obtain⟨bh,a2,a7⟩:=rn (C.aL p) (i:=3) G .i64
    refine cF H (λw _=>a2 w) (aQ H (λw m=>D fo H (m.a0 a7)) (mD H H (λw _=>uX fo bN) (bn (v:=bk 24) H (λw _=>uV 24 G) (bn H (λw _=>tY) (wr (S:=aO [((((((((((a.drop (4*i))[0])).toUInt32)|||((((((a.drop (4*i))[1])).toUInt32)<<<UInt32.ofNat 8))))|||((((((a.drop (4*i))[2])).toUInt32)<<<UInt32.ofNat 16))))|||((((((a.drop (4*i))[3])).toUInt32)<<<UInt32.ofNat 24))))]) (aO.a3 _) H (λw' _=>by rintro _ rfl;obtain⟨r,w2,h1,h2,h3,_⟩:=mK aT (w:=w') w'.heap.size [((((((((((a.drop (4*i))[0])).toUInt32)|||((((((a.drop (4*i))[1])).toUInt32)<<<UInt32.ofNat 8))))|||((((((a.drop (4*i))[2])).toUInt32)<<<UInt32.ofNat 16))))|||((((((a.drop (4*i))[3])).toUInt32)<<<UInt32.ofNat 24))))] aj (bV _);exact⟨r,w2,h1,h2,h3.bL⟩) (cq ?_))))))
    rintro bt ad _ rfl _ aM
    obtain rfl:=bU aM
    rintro _ aL
    obtain rfl:=bU aL
    intro bq au
    obtain⟨bb,br,aN,an,av⟩:=sU Tryz.underlying47 (ty:=47) (d.aL ad) au (by have:=zc i (a.take (4*i)) (by rw[eS];omega);simp;omega) ((p.ai ad)).size
    have be:=ao.a6 ((p.ai ad)) av (d.aL ad).ge
    refine dW H aN (Z H (f (bE (al (ap (J H ?_))))))
    obtain⟨ba,aV,ai⟩:=DB C (lo:=4) G .i64
    refine jx H H H H H (aV _) (Z H (f ?_))
    refine lj (i+1) (ba) (bb) (aP H) ⟨be,by rw[tq] at ai;exact ai,by
     rw[PC i a G]
     have e:=aaD ((a.drop (4*i))[0]) ((a.drop (4*i))[1]) ((a.drop (4*i))[2]) ((a.drop (4*i))[3])
     simp only[List.getElem_drop,lG] at e
     simp only[List.getElem_drop,lG,e] at an
     exact an,G⟩ G
   ·refine ce (aU (aU (cg (al (ah ?_)))))
    by_cases N:UInt64.ofNat n=0
    ·refine cz 12 [2,74] am am ?_
     refine W H (W H (bn (v:=bk 0) H (λw _=>cu N Dr) (W H (M H (M H (M H (M H (M H (M H (jN H (gK H (cq ?_))))))))))))
     rintro bd s _ af
     obtain rfl:=bU af
     rintro _ rfl
     refine Z H (f (al (aA (dt H ?_))))
     have T:=p.ai s
     exact⟨_,H,(j.ai z).ai (sH T),by
      rw[Hx hU,←aa]
      first
      |(have R:(fx a)[(UInt64.ofNat n-1).toNat]≠0↔lb (val (fx a))=fx a:=by
         have e:(UInt64.ofNat n-1).toNat=(fx a).length-1:=G
         simp only[e]
         exact Cp G
        by_cases q:lb (val (fx a))=fx a
        ·rw[if_pos ⟨ab,q⟩,dH (R.2 q)]
         exact⟨u,H,d.bL.aL s,F.aL T,λk x=>cf (j.ai z).size (d.ge k x)⟩
        ·rw[if_neg λh=>q h.2,bi λh=>q (R.1 h)]
         exact⟨u,H,⟨_,d.bL.aL s⟩,_,F.aL T⟩)
      |(have h0:n=0:=by
         have:=aB UInt64.toNat N
         rw[y] at this
         exact this
        have O:fx a=[]:=gT (by rw[zc n a P];exact h0)
        have ae:a.take (4*i)=a:=fG G
        rw[ae,O] at d
        rw[O,if_pos ⟨ab,rfl⟩]
        exact⟨u,H,d.bL.aL s,F.aL T,λk x=>cf (j.ai z).size (d.ge k x)⟩)⟩
    ·refine cz 12 [2,74] am am ?_
     refine W H (W H (bn (v:=bk 0) H (λw _=>aX N Dr) (W H (X H (W H (X H (W H (X H (bn (v:=bk 1) H (λw _=>nO) (X H ?_))))))))))
     have aG:0<n:=by
      rcases fm n with h|h
      ·exact absurd (by rw[h];rfl) N
      ·exact h
     have bp:=zc n a P
     have bl:i=n:=G
     have ay:a.take (4*i)=a:=fG G
     rw[ay] at d
     have bo:(UInt64.ofNat n-1).toNat=n-1:=by
      rw[Fs _ _ (vM.2 (by rw[y];exact aG)),y];rfl
     obtain⟨bj,a3,a8⟩:=ei aT d.bL (i:=(UInt64.ofNat n-1).toNat) G .u64
     refine cF H (λw m=>a3 _) (X H (aQ H (λw m=>D bN H (m.a0 a8)) (X H (bn (v:=bz 0) H (λw _=>yY) (gV H (gK H (cq ?_)))))))
     rintro bd s _ af
     obtain rfl:=bU af
     rintro _ rfl
     refine Z H (f (al (aA (dt H ?_))))
     have e2:=p.ai s
     exact⟨_,H,(j.ai z).ai (sH e2),by
      rw[Hx hU,←aa]
      first
      |(have R:(fx a)[(UInt64.ofNat n-1).toNat]≠0↔lb (val (fx a))=fx a:=by
         have e:(UInt64.ofNat n-1).toNat=(fx a).length-1:=G
         simp only[e]
         exact Cp G
        by_cases q:lb (val (fx a))=fx a
        ·rw[if_pos ⟨ab,q⟩,dH (R.2 q)]
         exact⟨u,H,d.bL.aL s,F.aL e2,λk x=>cf (j.ai z).size (d.ge k x)⟩
        ·rw[if_neg λh=>q h.2,bi λh=>q (R.1 h)]
         exact⟨u,H,⟨_,d.bL.aL s⟩,_,F.aL e2⟩)
      |(have h0:n=0:=by
         have:=aB UInt64.toNat N
         rw[y] at this
         exact this
        have O:fx a=[]:=gT (by rw[zc n a P];exact h0)
        have ae:a.take (4*i)=a:=fG G
        rw[ae,O] at d
        rw[O,if_pos ⟨ab,rfl⟩]
        exact⟨u,H,d.bL.aL s,F.aL e2,λk x=>cf (j.ai z).size (d.ge k x)⟩)⟩
section
variable {w:World} {g:Nat}
theorem OK {st:Option (List UInt8)} (b:dv g st w) (a:∀l,st=some l→l.length≤549755813888) (h:st.bind jy=none):Calls Tryz.prog 267 #[.pointer (some ⟨g,0,none⟩)] w (aJ λr w'=>w.grownBy w' (some g)∧∃v,r=.tuple #[v,B false]∧(∃m,aO m v w')∧∃l',dv g l' w'):=by
 have:=OL b a
 rw[h] at this
 exact this
theorem HF {st:Option (List UInt8)} {t:List UInt8} (b:dv g st w) (a:∀l,st=some l→l.length≤549755813888) (h:st.bind jy=some (m,t)):Calls Tryz.prog 267 #[.pointer (some ⟨g,0,none⟩)] w (aJ λr w'=>w.grownBy w' (some g)∧∃v,r=.tuple #[v,B true]∧aO m v w'∧dv g (some t) w'∧tB w.heap.size v):=by
 have:=OL b a
 rw[h] at this
 exact this
theorem Zz {st:Option (List UInt8)} {t:List UInt8} (i:dv g st w) (f:∀l,st=some l→l.length≤549755813888) (h:st.bind jy=some (m,t)):Calls Tryz.prog 267 #[.pointer (some ⟨g,0,none⟩)] w (aJ λr w'=>w.grownBy w' (some g)∧∃v,r=.tuple #[v,B true]∧aO m v w'∧dv g (some t) w'):=by
 exact(HF i f h).mono λ_ _ ⟨r,a,b,v,c,d,e,_⟩=>⟨r,a,b,v,c,d,e⟩
theorem Fu {st:Option (List UInt8)} (a:dv g st w) (h:st.bind eY=none):Calls Tryz.prog 191 #[.pointer (some ⟨g,0,none⟩)] w (aJ λr w'=>w.grownBy w' (some g)∧r=.tuple #[bk 0,I 5]∧dv g none w'):=by
 have:=J1 a
 rw[h] at this
 exact this
theorem J0 {st:Option (List UInt8)} {t:List UInt8} (a:dv g st w) (h:st.bind eY=some (n,t)):Calls Tryz.prog 191 #[.pointer (some ⟨g,0,none⟩)] w (aJ λr w'=>w.grownBy w' (some g)∧r=.tuple #[bk (UInt64.ofNat n),I 0]∧dv g (some t) w'):=by
 have:=J1 a
 rw[h] at this
 exact this
end
def IntR (g:Nat) (w:World) (o:Option (Nat×List UInt8)) (r:Value) (w':World):Prop:=
 w.grownBy w' (some g)∧match o with
  |some (n,t)=>r=.tuple #[I (uz n),I 0]∧dv g (some t) w'
  |none=>r=.tuple #[I 0,I 5]∧dv g none w'
theorem N6 {d:TypeId} (hs:P.underlying s=some (.int .u64)) (b:P.underlying d=some (.int .i64)) (c:n<18446744073709551616):(convert s d (bk (UInt64.ofNat n>>>UInt64.ofNat 1))).run P w=.ok (I ((n/2:Nat):Int)) w:=by
 have e:(UInt64.ofNat n>>>UInt64.ofNat 1).toNat=n/2:=by
  rw[BZ,jo,show(UInt64.ofNat 1).toNat%64=1 from rfl,rU];omega
 have:=DD (P:=P) (w:=w) hs b (a:=UInt64.ofNat n>>>UInt64.ofNat 1) G
 rwa [e] at this
theorem CY:(UInt64.ofNat n&&&1).toNat=n%2:=by
 rw[UInt64.toNat_and,jo,show(1:UInt64).toNat=1 from rfl,Nat.and_one_is_mod];omega
theorem YX {d:TypeId} (hs:P.underlying s=some (.int .u64)) (b:P.underlying d=some (.int .i64)) (h:n%2=0):(convert s d (bk (UInt64.ofNat n&&&1))).run P w=.ok (I 0) w:=by
 have:=DD (P:=P) (w:=w) hs b (a:=UInt64.ofNat n&&&1) (by rw[CY];omega)
 rw[CY,h] at this
 exact this
theorem YY {d:TypeId} (hs:P.underlying s=some (.int .u64)) (b:P.underlying d=some (.int .i64)) (h:n%2=1):(convert s d (bk (UInt64.ofNat n&&&1))).run P w=.ok (I 1) w:=by
 have:=DD (P:=P) (w:=w) hs b (a:=UInt64.ofNat n&&&1) (by rw[CY];omega)
 rw[CY,h] at this
 exact this
theorem Jv {st:Option (List UInt8)} (b:dv g st w):
 Calls Tryz.prog 192 #[.pointer (some ⟨g,0,none⟩)] w (aJ (IntR g w (st.bind eY))):=by
 refine enter Tryz.func192 H H H (ah (ap (Z H (Z H (f (al (ah ?_)))))))
 rcases hN:st.bind eY with _|⟨n,t⟩
 ·refine ap (J H (aC An H H (Fu b hN) ?_))
  rintro h i ⟨a,rfl,c⟩
  have e:=(b.b6).kp a
  refine J H (aZ H (dm) (aZ H (dn) (Z H (Z H (f (al (ah (ah (ap (J H (U H (cu aF dZ) (f (al (bT H (ah (ap (J H (Z H (Z H (f (al (aA (aI (dt H ?_))))))))))))))))))))))))
  exact⟨_,H,a,H,c⟩
 ·refine ap (J H (aC An H H (J0 b hN) ?_))
  rintro h i ⟨a,rfl,c⟩
  have e:=(b.b6).kp a
  refine J H (aZ H (dm) (aZ H (dn) (Z H (Z H (f (al (ah (ah (ap (J H (U H (aX aF dZ) ?_)))))))))))
  have d:=(OE (k:=(st.getD []).length) hN (by rintro l rfl;exact bV _)).2
  refine f (al (be H (aH (al (ah ?_)))))
  rcases Nat.mod_two_eq_zero_or_one n with hm|hm
  ·refine ap (J H (U H (j6 1 G) (cJ H (N6 cU aE d) (J H ?_))))
   refine U (v:=bk 1) H (NV) (cJ H (YX cU aE hm) (cP H (Od G G) (U H (Zh G) (Z H (Z H (f (al (aA (dt H ?_)))))))))
   exact⟨_,H,a,aB (λz=>Value.tuple #[I z,I 0]) (show _=uz n by unfold uz;rw[if_pos hm]),c⟩
  ·refine ap (J H (U H (j6 1 G) (cJ H (N6 cU aE d) (J H ?_))))
   refine U (v:=bk 1) H (NV) (cJ H (YY cU aE hm) (cP H (Od G G) (U H (Zi G) (Z H (Z H (f (al (aA (dt H ?_)))))))))
   exact⟨_,H,a,aB (λz=>Value.tuple #[I z,I 0]) (show _=uz n by unfold uz;rw[if_neg G]),c⟩
theorem OC {c:UInt8} {l:List UInt8} (h:1<c.toNat):gM (c::l)=none:=if_pos h
theorem OD {c:UInt8} {l:List UInt8} (h:jy l=none):gM (c::l)=none:=by
 show(if 1<c.toNat then none else _)=none
 split
 ·rfl
 ·rw[h];rfl
theorem HB {c:UInt8} {l t:List UInt8} (a:¬1<c.toNat) (h:jy l=some (m,t)):gM (c::l)=(jy t).bind λq=>if rv (decide (c.toNat=1)) m q.1=true then some ((decide (c.toNat=1),m,q.1),q.2) else none:=by
 show(if 1<c.toNat then none else _)=_
 rw[if_neg a,h];rfl
def RatE (g:Nat) (w:World) (o:Option ((Bool×List UInt32×List UInt32)×List UInt8)) (r:Value) (w':World):Prop:=
 w.grownBy w' (some g)∧match o with
  |some (q,t)=>∃v,r=.tuple #[v,I 0]∧bQ q.1 q.2.1 q.2.2 v w'∧dv g (some t) w'
  |none=>∃v,r=.tuple #[v,I 5]∧bQ false [] [] v w'∧dv g none w'
def Fg (g:Nat) (w:World) (o:Option ((Bool×List UInt32×List UInt32)×List UInt8)) (r:Value) (w':World):Prop:=
 w.grownBy w' (some g)∧match o with
  |some (q,t)=>∃x y,r=.tuple #[.agg #[B q.1,x,y],I 0]∧aO q.2.1 x w'∧aO q.2.2 y w'∧dv g (some t) w'∧tB w.heap.size x∧tB w.heap.size y
  |none=>∃v,r=.tuple #[v,I 5]∧bQ false [] [] v w'∧dv g none w'
theorem Fg.e {o:Option ((Bool×List UInt32×List UInt32)×List UInt8)} {r:Value} (h:Fg g w o r w'):RatE g w o r w':=by
 refine⟨h.1,?_⟩
 have a:=h.2
 cases o with
 |none=>exact a
 |some p=>
  obtain⟨q,t⟩:=p
  obtain⟨x,y,b,c,d,e,_⟩:=a
  exact⟨_,b,⟨x,y,H,c,d⟩,e⟩
theorem dv.lt {w:World} {g:Nat} {st:Option (List UInt8)} (h:dv g st w):g<w.heap.size:=by
 obtain⟨A,n,c,a,_⟩:=h
 exact bm.lt a
theorem H6 {c:UInt8}:c.toNat=1↔c=1:=by
 rw[←UInt8.toNat_inj,show(1:UInt8).toNat=1 from rfl]
theorem Sg {st:Option (List UInt8)} (hr:dv g st w) (hl:∀l,st=some l→l.length≤549755813888):
 Calls Tryz.prog 193 #[.pointer (some ⟨g,0,none⟩)] w (aJ (Fg g w (st.bind gM))):=by
 refine enter Tryz.func193 H H H ?_
 have a0:=hr.lt
 refine ah (ap ?_)
 obtain⟨g2,w2,aM,l2,x2,k2⟩:=tW (w:=w)
 refine fY H aM (Z H (f (al (ah (ah (ap (J H (U H (Du qH) (f (al (be H (aH (al (ah ?_))))))))))))))
 have a:=hr.aL x2
 have d:=k2
 have j:w.grownBy w2 (some g):=sH x2
 have F:some g2≠some g:=λh=>by have:=cC h;omega
 have X:g≠g2:=G
 rcases st with _|(_|⟨c,l⟩)
 ·have y:(none:Option (List UInt8)).bind gM=none:=rfl
  refine ap (J H (aC we H H ((Po (n:=1) a)) ?_))
  rintro az _ ⟨rfl,rfl⟩
  refine J H (aZ H (dm) (aZ H (dn) (Z H (Z H (f (al (ah (ah (ap (J H (cP H cW (J H (L H (L H (L H (L H (bA H (f (al (bT H (ah (ap (dY (vs:=[]) H xh (J H (aC wc H H (wu a) ?_)))))))))))))))))))))))))
  rintro aB aG ⟨rfl,u,K⟩
  have ay:=(a.b6).kp K
  have j:=j.ai K
  have d:=d.a4 K F
  have a:=u
  obtain⟨p,q,w3,N,z,o,A,C,x⟩:=d.cv ⟨_,_,_,rfl⟩ ⟨_,_,_,rfl⟩ (bQ.mk (b:=false) (aO.nil _) (aO.nil _))
  refine cZ H (z) (Z H (f (al (aA (aI (nN H H H A bI H nr ?_))))))
  exact⟨_,H,wG j o l2,by rw[y];exact⟨_,H,⟨p,q,H,C,x⟩,(a.b6.off (d.d7 ⟨_,_,_,H⟩ ⟨_,_,_,H⟩ o) o X).c1⟩⟩
 ·have y:(some []).bind gM=none:=rfl
  refine ap (J H (aC we H H ((Pp (n:=1) a aF)) ?_))
  rintro az _ ⟨rfl,rfl⟩
  refine J H (aZ H (dm) (aZ H (dn) (Z H (Z H (f (al (ah (ah (ap (J H (cP H cW (J H (L H (L H (L H (L H (bA H (f (al (bT H (ah (ap (dY (vs:=[]) H xh (J H (aC wc H H (wu a) ?_)))))))))))))))))))))))))
  rintro aB aG ⟨rfl,u,K⟩
  have ay:=(a.b6).kp K
  have j:=j.ai K
  have d:=d.a4 K F
  have a:=u
  obtain⟨p,q,w3,N,z,o,A,C,x⟩:=d.cv ⟨_,_,_,rfl⟩ ⟨_,_,_,rfl⟩ (bQ.mk (b:=false) (aO.nil _) (aO.nil _))
  refine cZ H (z) (Z H (f (al (aA (aI (nN H H H A bI H nr ?_))))))
  exact⟨_,H,wG j o l2,by rw[y];exact⟨_,H,⟨p,q,H,C,x⟩,(a.b6.off (d.d7 ⟨_,_,_,H⟩ ⟨_,_,_,H⟩ o) o X).c1⟩⟩
 ·refine ap (J H (aC we H H ((HZ (n:=1) a aj)) ?_))
  rintro az aE ⟨aL,rfl,hb,u,av⟩
  have j:=j.ai av
  have aN:=j.size
  have d:=d.a4 av F
  have a:dv g (some l) aE:=u
  have hb:cV [c] aL aE:=hb
  refine J H (aZ H (dm) (aZ H (dn) (Z H (Z H (f (al (ah (ah (ap (J H (cP H cW (J H (V H (J H (V H ?_)))))))))))))))
  obtain⟨aY,aQ,aR⟩:=rn hb (i:=0) aj .i64
  refine bF H (aQ _) (V H (Y H (D fo H aR) (V H (U (v:=U8 1) H (Hh) (aK H (f (al (bc H (λao=>?_) (λao=>?_)))))))))
  ·have hc:1<c.toNat:=by have:=yb.1 ao;simpa using this
   have y:(some (c::l)).bind gM=none:=OC hc
   refine ah (ap (dY (vs:=[]) H xh (J H (aC wc H H (wu a) ?_))))
   rintro aB aG ⟨rfl,u,K⟩
   have ay:=(a.b6).kp K
   have j:=j.ai K
   have d:=d.a4 K F
   have a:=u
   obtain⟨p,q,w3,N,z,o,A,C,x⟩:=d.cv ⟨_,_,_,rfl⟩ ⟨_,_,_,rfl⟩ (bQ.mk (b:=false) (aO.nil _) (aO.nil _))
   refine cZ H (z) (Z H (f (al (aA (aI (nN H H H A bI H nr ?_))))))
   exact⟨_,H,wG j o l2,by rw[y];exact⟨_,H,⟨p,q,H,C,x⟩,(a.b6.off (d.d7 ⟨_,_,_,H⟩ ⟨_,_,_,H⟩ o) o X).c1⟩⟩
  ·have hc:¬1<c.toNat:=λhh=>ao (yb.2 (by simpa using hh))
   have aa:∀l',some l=some l'→l'.length≤549755813888:=λl' e=>by
    have:=hl _ rfl
    cases e
    simp at this;omega
   refine aH (al (ah ?_))
   rcases hN:jy l with _|⟨m,t⟩
   ·have y:(some (c::l)).bind gM=none:=OD hN
    refine ap (J H (aC Ao H H ((OK (st:=some l) a aa hN)) ?_))
    rintro aS aV ⟨T,v0,rfl,_,_,u⟩
    have an:=(a.b6).kp T
    have j:=j.ai T
    have ax:=j.size
    have d:=d.a4 T F
    have a:=u
    refine J H (aZ H (dm) (aZ H (dn) (Z H (Z H (f (al (ah (ah (ap (J H (cP H cW (f (al (bT H (ah (ap (dY (vs:=[]) H xh (J H (aC wc H H (wu a) ?_)))))))))))))))))))
    rintro v37 a1 ⟨rfl,u,aw⟩
    have j:=j.ai aw
    have d:=d.a4 aw F
    have a:=u
    obtain⟨p,q,w3,N,z,o,A,C,x⟩:=d.cv ⟨_,_,_,rfl⟩ ⟨_,_,_,rfl⟩ (bQ.mk (b:=false) (aO.nil _) (aO.nil _))
    refine cZ H (z) (Z H (f (al (aA (aI (nN H H H A bI H nr ?_))))))
    exact⟨_,H,wG j o l2,by rw[y];exact⟨_,H,⟨p,q,H,C,x⟩,(a.b6.off (d.d7 ⟨_,_,_,H⟩ ⟨_,_,_,H⟩ o) o X).c1⟩⟩
   ·refine ap (J H (aC Ao H H ((HF (st:=some l) a aa hN)) ?_))
    rintro aS aV ⟨T,v0,rfl,h0,u,f0⟩
    have an:=(a.b6).kp T
    have j:=j.ai T
    have ax:=j.size
    have d:=d.a4 T F
    have a:=u
    refine J H (aZ H (dm) (aZ H (dn) (Z H (Z H (f (al (ah (ah (ap (J H (cP H cW (f (al (be H (aH (al (ah ?_)))))))))))))))))
    have ab:∀l',some t=some l'→l'.length≤549755813888:=λl' e=>by
     cases e
     have Q:=(u4 hN).1
     have:=aa _ rfl
     rw[Q,cr] at this
     omega
    obtain⟨s,hs⟩:∃s,s=decide (c.toNat=1):=⟨_,rfl⟩
    have aq:s=decide (([c]:List UInt8)[0]'(Nat.zero_lt_one)=(1:UInt8)):=by
     rw[hs]
     exact cA.2 ⟨λh=>H6.1 h,λh=>H6.2 h⟩
    have ak:=HB hc hN
    rw[←hs] at ak
    rcases hM:jy t with _|⟨m',t'⟩
    rotate_left
    rcases hV:rv s m m'
    ·have y:(some (c::l)).bind gM=none:=by
      show gM (c::l)=none
      rw[ak,hM]
      exact if_neg (by rw[hV];simp)
     refine ap (J H (aC Ao H H ((Zz (st:=some t) a ab hM)) ?_))
     rintro aD ai ⟨M,v1,rfl,Q,u⟩
     have S:=(a.b6).kp M
     have j:=j.ai M
     have d:=d.a4 M F
     have a:=u
     refine J H (aZ H (dm) (aZ H (dn) (Z H (Z H (f (al (ah (ap (J H ?_)))))))))
     obtain⟨au,af,ag⟩:=rn (hb.kp (an.ai S)) (i:=0) aj .i64
     refine bF H (af _) (Y H (D fo H ag) (U (v:=U8 1) (r:=B s) H ((by rw[aq];exact Bb)) (J H (J H (dY (vs:=[(0,B s),(1,v0),(2,v1)]) H (yS h0.a9 Q.a9) ?_)))))
     obtain⟨g8,w8,ad,l8,P,k8⟩:=tW (w:=ai)
     refine fY H ad ?_
     obtain⟨p,q,w4,N,ae,q4,k4,n4,d4⟩:=k8.cv ⟨_,_,_,rfl⟩ ⟨_,_,_,rfl⟩ (bQ.mk (b:=s) ((h0.kp S).aL P) (Q.aL P))
     refine cZ H (ae) ?_
     have O:=P.a2 q4 l8
     have a:=a.aL O
     have d:=d.aL O
     have j:=j.ai (sH O)
     have am:m.length≤137438953472:=by
      have:=aa _ rfl
      rw[(u4 hN).1,cr,mn,cr,tO] at this
      omega
     refine f (al (ah (ah (ap (J H (cP H cW (J H (V H (Y H (k4.d6) (V H ?_))))))))))
     have ar:m'.length≤137438953472:=by
      have:=ab _ rfl
      rw[(u4 hM).1,cr,mn,cr,tO] at this
      omega
     refine aC yg H H ((by have:=BS (b:=s) (bQ.mk n4 d4) am ar;rw[hV] at this;exact this)) ?_
     rintro aT aW ⟨R,rfl⟩
     have a:=a.aL R
     have d:=d.aL R
     have j:=j.ai (sH R)
     refine V H (cP H cW (aK H (f (al (bT H (ah (ap (dY (vs:=[]) H xh (J H (aC wc H H (wu a) ?_))))))))))
     rintro aU aX ⟨rfl,u,W⟩
     have aP:=(a.b6).kp W
     have j:=j.ai W
     have d:=d.a4 W F
     have a:=u
     obtain⟨p,q,w3,N,z,o,A,C,x⟩:=d.cv ⟨_,_,_,rfl⟩ ⟨_,_,_,rfl⟩ (bQ.mk (b:=false) (aO.nil _) (aO.nil _))
     refine cZ H (z) (Z H (f (al (aA (aI (nN H H H A bI H nr ?_))))))
     exact⟨_,H,wG j o l2,by rw[y];exact⟨_,H,⟨p,q,H,C,x⟩,(a.b6.off (d.d7 ⟨_,_,_,H⟩ ⟨_,_,_,H⟩ o) o X).c1⟩⟩
    ·have y:(some (c::l)).bind gM=some ((s,m,m'),t'):=by
      show gM (c::l)=_
      rw[ak,hM]
      exact if_pos hV
     refine ap (J H (aC Ao H H ((HF (st:=some t) a ab hM)) ?_))
     rintro aD ai ⟨M,v1,rfl,Q,u,f1⟩
     have S:=(a.b6).kp M
     have j:=j.ai M
     have d:=d.a4 M F
     have a:=u
     refine J H (aZ H (dm) (aZ H (dn) (Z H (Z H (f (al (ah (ap (J H ?_)))))))))
     obtain⟨au,af,ag⟩:=rn (hb.kp (an.ai S)) (i:=0) aj .i64
     refine bF H (af _) (Y H (D fo H ag) (U (v:=U8 1) (r:=B s) H ((by rw[aq];exact Bb)) (J H (J H (dY (vs:=[(0,B s),(1,v0),(2,v1)]) H (yS h0.a9 Q.a9) ?_)))))
     obtain⟨g8,w8,ad,l8,P,k8⟩:=tW (w:=ai)
     refine fY H ad ?_
     obtain⟨p,q,w4,N,ae,q4,k4,n4,d4⟩:=k8.cv ⟨_,_,_,rfl⟩ ⟨_,_,_,rfl⟩ (bQ.mk (b:=s) ((h0.kp S).aL P) (Q.aL P))
     refine cZ H (ae) ?_
     have O:=P.a2 q4 l8
     have a:=a.aL O
     have d:=d.aL O
     have j:=j.ai (sH O)
     have am:m.length≤137438953472:=by
      have:=aa _ rfl
      rw[(u4 hN).1,cr,mn,cr,tO] at this
      omega
     refine f (al (ah (ah (ap (J H (cP H cW (J H (V H (Y H (k4.d6) (V H ?_))))))))))
     have ar:m'.length≤137438953472:=by
      have:=ab _ rfl
      rw[(u4 hM).1,cr,mn,cr,tO] at this
      omega
     refine aC yg H H ((by have:=BS (b:=s) (bQ.mk n4 d4) am ar;rw[hV] at this;exact this)) ?_
     rintro aT aW ⟨R,rfl⟩
     have a:=a.aL R
     have d:=d.aL R
     have j:=j.ai (sH R)
     refine V H (cP H cW (aK H (f (al (be H (aH (al (ah (ap (Y H ((k4.aL R).d6) ?_))))))))))
     obtain⟨ea,eb⟩:=Kd N
     obtain⟨p,q,w3,N,z,o,A,C,x⟩:=d.cv ⟨_,_,_,rfl⟩ ⟨_,_,_,rfl⟩ ((bQ.mk n4 d4).aL R)
     refine cZ H (z) (Z H (f (al (aA (nN H H H A bI H nr ?_)))))
     exact⟨_,H,wG j o l2,by
      rw[y]
      obtain⟨ec,ed⟩:=Kd N
      exact⟨p,q,H,C,x,(a.b6.off (d.d7 ⟨_,_,_,H⟩ ⟨_,_,_,H⟩ o) o X).c1,ec▸ea▸(λk hk=>cf aN (f0 k hk)),ed▸eb▸(λk hk=>cf ax (f1 k hk))⟩⟩
    ·have y:(some (c::l)).bind gM=none:=by
      show gM (c::l)=none
      rw[ak,hM];rfl
     refine ap (J H (aC Ao H H ((OK (st:=some t) a ab hM)) ?_))
     rintro aD ai ⟨M,v1,rfl,⟨m',Q⟩,_,u⟩
     have S:=(a.b6).kp M
     have j:=j.ai M
     have d:=d.a4 M F
     have a:=u
     refine J H (aZ H (dm) (aZ H (dn) (Z H (Z H (f (al (ah (ap (J H ?_)))))))))
     obtain⟨au,af,ag⟩:=rn (hb.kp (an.ai S)) (i:=0) aj .i64
     refine bF H (af _) (Y H (D fo H ag) (U (v:=U8 1) (r:=B s) H ((by rw[aq];exact Bb)) (J H (J H (dY (vs:=[(0,B s),(1,v0),(2,v1)]) H (yS h0.a9 Q.a9) ?_)))))
     obtain⟨g8,w8,ad,l8,P,k8⟩:=tW (w:=ai)
     refine fY H ad ?_
     obtain⟨p,q,w4,N,ae,q4,k4,n4,d4⟩:=k8.cv ⟨_,_,_,rfl⟩ ⟨_,_,_,rfl⟩ (bQ.mk (b:=s) ((h0.kp S).aL P) (Q.aL P))
     refine cZ H (ae) ?_
     have O:=P.a2 q4 l8
     have a:=a.aL O
     have d:=d.aL O
     have j:=j.ai (sH O)
     have am:m.length≤137438953472:=by
      have:=aa _ rfl
      rw[(u4 hN).1,cr,mn,cr,tO] at this
      omega
     refine f (al (ah (ah (ap (J H (cP H cW (J H (L H (L H (L H (bA H (f (al (bT H (ah (ap (dY (vs:=[]) H xh (J H (aC wc H H (wu a) ?_)))))))))))))))))))
     rintro aU aX ⟨rfl,u,W⟩
     have aP:=(a.b6).kp W
     have j:=j.ai W
     have d:=d.a4 W F
     have a:=u
     obtain⟨p,q,w3,N,z,o,A,C,x⟩:=d.cv ⟨_,_,_,rfl⟩ ⟨_,_,_,rfl⟩ (bQ.mk (b:=false) (aO.nil _) (aO.nil _))
     refine cZ H (z) (Z H (f (al (aA (aI (nN H H H A bI H nr ?_))))))
     exact⟨_,H,wG j o l2,by rw[y];exact⟨_,H,⟨p,q,H,C,x⟩,(a.b6.off (d.d7 ⟨_,_,_,H⟩ ⟨_,_,_,H⟩ o) o X).c1⟩⟩
section
variable {w w':World} {g h:Nat} {T:TypeId} {st:Option (List UInt8)} {p:Option Addr} {b:Bool}
theorem Ys (p:Option Addr) (b:Bool) (l:List UInt8):∀(j:Nat) (u:Value),u∈l.map U8→(#[.pointer p,.bool b]:Array Value)[j]? ≠some u:=by
 intro j u a
 obtain⟨x,_,rfl⟩:=fF.1 a
 match j with
 |0=>simp[U8]
 |1=>simp[U8]
 |j+2=>simp
theorem Yt (p:Option Addr) (b:Bool) (l:List UInt32):∀(j:Nat) (u:Value),u∈l.map bz→(#[.pointer p,.bool b]:Array Value)[j]? ≠some u:=by
 intro j u a
 obtain⟨x,_,rfl⟩:=fF.1 a
 match j with
 |0=>simp[bz]
 |1=>simp[bz]
 |j+2=>simp
theorem bm.gf (c:bm h T [.pointer p,B b] w) (a:w.grownBy w' (some h)):Kp w w':=⟨a.size,λx=>Sl.keep x c (Ys p b _) a,λx=>Sl.keep x c (Yt p b _) a⟩
structure km (T:TypeId) (h g:Nat) (st:Option (List UInt8)) (w:World):Prop where
 blk:bm h T [.pointer (some ⟨g,0,none⟩),B st.isSome] w
 rd:dv g st w
 ne:h≠g
theorem lK.mv {X:Nat→Prop} (h:lK T g st w) (hm:Mv X w w') (d:∀k,X k→g<k):lK T g st w':=by
 obtain⟨A,n,c,e,f,b⟩:=h
 refine⟨A,n,c,hm.blk e λa=>Nat.lt_irrefl _ (d g a),?_,b⟩
 obtain⟨s,u,t,q,i,j,l,m,o⟩:=f
 cases q
 refine⟨_,_,_,H,i,j,l,λr=>?_,o⟩
 obtain⟨ad,rfl,p⟩:=m r
 refine⟨ad,H,hm.cells p λ_ a=>?_⟩
 have:=d _ a
 have:=b ad rfl
 omega
theorem km.mv {X:Nat→Prop} (hm:km T h g st w) (b:Mv X w w') (a:∀k,X k→g<k∧h<k):km T h g st w':=
 ⟨b.blk hm.blk λd=>Nat.lt_irrefl _ (a h d).2,(hm.rd.b6.mv b λk c=>(a k c).1).c1,hm.ne⟩
def gh (h g:Nat):Nat→Prop:=λk=>k=h∨k=g
theorem km.aL (hm:km T h g st w) (a:ao w w'):km T h g st w':=⟨hm.blk.aL a,hm.rd.aL a,hm.ne⟩
theorem km.flag {c:Option (List UInt8)} (o:bm h T [.pointer (some ⟨g,0,none⟩),B b] w) (f:h≠g) (l:w.grownBy w1 (some g)) (q:dv g c w1) {t:TypeId} (hs:(Tryz.prog.info? t).map (·.size)=some 1):
 ∃w2,(Instr.storeAt t (.pointer (some ⟨h,1,none⟩)) (B c.isSome)).run Tryz.prog w1=.ok () w2∧Mv (gh h g) w w2∧km T h g c w2∧w1.grownBy w2 (some h):=by
 have j:=o.a4 l (λe=>f (cC e))
 obtain⟨w2,m,a,n⟩:=j.dp (P:=Tryz.prog) (t:=t) (i:=1) (v:=B c.isSome) hs rfl aj
 have m1:Mv (gh h g) w w1:=Mv.a7 l λk d _=>.inr (cC d).symm
 have m2:Mv (gh h g) w1 w2:=Mv.a7 a λk d _=>.inl (cC d).symm
 exact⟨w2,m,m1.ai m2 λ_ p _=>p,⟨n,(q.b6.off (j.gf a) a (uj f)).c1,f⟩,a⟩
end
theorem Mo (b:Nat):∀(cs:List Value) (k:Nat) (p q r:List Value),p.length=b+k→q.length=cs.length→
 (cs.zipIdx k).foldl (λ(a:Array Value) (x:Value×Nat)=>a.setIfInBounds (b+x.2) x.1) (p++q++r).toArray=(p++cs++r).toArray
 |[],k,p,q,r,_,hq=>by
  have:q=[]:=gT (by simpa using hq)
  subst this
  rfl
 |c::cs,k,p,q,r,hp,hq=>by
  cases q with
  |nil=>simp at hq
  |cons d q=>
   simp only[List.zipIdx_cons,BE]
   have e:((p++d::q++r).toArray).setIfInBounds (b+k) c=((p++[c])++q++r).toArray:=by
    simp[←hp]
   rw[e,Mo b cs (k+1) (p++[c]) q r dT (by simpa using hq)]
   simp
theorem Ml {sz:Nat}:∀(vs:List (List Value)) (k:Nat) (a b:List Value),(∀v∈vs,v.length=sz)→a.length=k*sz→b.length=vs.length*sz→
 Instr.fill (λi=>some (i*sz,sz)) (a++b).toArray (gO k (vs.map λv=>Value.agg v.toArray))=some (a++vs.flatten).toArray
 |[],k,a,b,_,_,hb=>by
  have:b=[]:=gT (by simpa using hb)
  subst this
  rfl
 |v::vs,k,a,b,hv,ha,hb=>by
  have d:=hv v aj
  have c:b.length=sz+vs.length*sz:=by rw[hb,cw,fk];omega
  have e:((Value.agg v.toArray).cells.size≠sz||decide (k*sz+(Value.agg v.toArray).cells.size>(a++b).toArray.size))=false:=by
   simp[Value.cells,d,ha,c]
  have g:(Value.agg v.toArray).cells.zipIdx.foldl (λ(cs:Array Value) (x:Value×Nat)=>cs.setIfInBounds (k*sz+x.2) x.1) (a++b).toArray=((a++v)++b.drop sz).toArray:=by
   have h:=Mo (k*sz) v 0 a (b.take sz) (b.drop sz) G (by rw[eS];omega)
   rw[fh,nz] at h
   rw[←h]
   simp[Value.cells]
  simp only[iy,gO,Instr.fill]
  rw[e]
  have j:=Ml vs (k+1) (a++v) (b.drop sz) (λu f=>hv u (by simp[f])) (by rw[cr,ha,d,fk];omega) (by rw[gA,c];omega)
  simp only[Bool.false_eq_true,if_false]
  rw[g,j]
  simp
theorem N0 {t e:TypeId} (x:P.underlying t=some (.slice e)) (hi:(P.info? e).map (λi=>(i.zero,i.size))=some (some z,sz)) (A:z.cells.size=sz) (c:0<sz)
 (vs:List (List Value)) (b:∀v∈vs,v.length=sz) (q:0<vs.length) (J:vs.length*sz≤16777216):
 ∃r w',(Instr.buildSlice t vs.length (gO 0 (vs.map λv=>Value.agg v.toArray)).toArray).run P w=.ok r w'∧ao w w'∧Sl sz vs.flatten r w'∧r.ownBlock=some w.heap.size:=by
 obtain⟨i,o,d⟩:=gU.1 hi
 simp only[Prod.mk.injEq] at d
 obtain⟨C,hs⟩:=d
 have m:vs.flatten.length=vs.length*sz:=by
  rw[List.length_flatten]
  have:∀l:List (List Value),(∀v∈l,v.length=sz)→(l.map List.length).sum=l.length*sz:=by
   intro l
   induction l with
   |nil=>intro _;simp
   |cons a l F=>intro h;simp only[iy,List.sum_cons,cw,h a aj,F λv b=>h v (by simp[b]),fk];omega
  exact this vs b
 have k:∀Z:Array Value,Z.size=vs.length*sz→Instr.fill (λi=>some (i*sz,sz)) Z (gO 0 (vs.map λv=>Value.agg v.toArray))=some vs.flatten.toArray:=λZ g=>by
  have:=Ml vs 0 [] Z.toList b aj (by simpa using g)
  simpa using this
 have p:¬(vs.length*sz>2^24):=G
 have f:(typeInfo e).run P w=.ok i w:=by simp[typeInfo,o]
 have s:(sizeOf e).run P w=.ok sz w:=by simp[sizeOf,f,hs]
 have D:(zeroValue e).run P w=.ok z w:=by simp[zeroValue,f,C]
 have K:0<vs.length*sz:=oN q c
 refine⟨.slice (some ⟨w.heap.size,0,none⟩) vs.length vs.length,w.alloc (.cells vs.flatten.toArray e),?_,ao.new w _,?_,H⟩
 ·simp only[Instr.buildSlice,Sem.run_bind,run_underlying x,Result.andThen_ok,s,if_neg p]
  rw[if_neg G]
  simp only[Sem.run_bind,Sem.run_pure,Result.andThen_ok,D]
  rw[k _ (by simp[A,fw])]
  simp[newRow]
 ·have n:=heap_alloc_new w (.cells vs.flatten.toArray e)
  refine⟨_,_,_,H,bV _,by unfold maxLen;have:vs.length≤vs.length*sz:=qD _ c;omega,m,λ_=>⟨_,H,λj u y=>?_⟩,λh=>by cases h⟩
  rw[Addr.add_mid,gB,cell_of_row _ _ j _ _ _ n]
  simpa using y
section
variable {α:Type} {f:α→Dt} {l:List α} {v x:Value} {w w':World} {e t ty:TypeId} {sz base:Nat}
def iK (e:TypeId) (sz base:Nat) (f:α→Dt) (l:List α) (v:Value) (w:World):Prop:=∃n xs,w.ownsRow base e sz v n xs∧cB (λk=>k<base∨v.ownBlock=some k) w (l.map f) xs
theorem iK.nil (w:World):iK e sz base f ([]:List α) (.slice none 0 0) w:=⟨0,[],World.ownsRow_nil _ _ _ _,cB.nil⟩
theorem iK.lt (h:iK e sz base f l v w):∀k,v.ownBlock=some k→base≤k∧k<w.heap.size:=λk a=>by
 obtain⟨n,xs,h,_⟩:=h
 exact World.ownsRow.lt h k a
theorem iK.a9 (h:iK e sz base f l v w):∃A n c,v=.slice A n c:=by
 obtain⟨n,xs,⟨_,h|⟨g,a,cur,rfl,_⟩⟩,_⟩:=h
 ·exact⟨_,_,_,h.1⟩
 ·exact⟨_,_,_,H⟩
theorem iK.c6 (h:iK e sz base f l v w) (hs:∀a,(f a).size=sz) (d:0<sz):ck (λk=>k<base) w (.sl (l.map f)) [v]:=by
 obtain⟨n,xs,c,g⟩:=h
 exact ck.d5 c (g.bd λk b=>.inl (.inl b)) (by simp[hs]) d λk b=>Nat.not_lt.2 (World.ownsRow.lt c k b).1
theorem iK.mv {X:Nat→Prop} (h:iK e sz base f l v w) (hm:Mv X w w') (i:∀k,X k→k<base):iK e sz base f l v w':=by
 obtain⟨n,xs,c,m⟩:=h
 refine⟨n,xs,⟨c.1,?_⟩,cB.mv (hm.bd λk b _=>.inl (i k b)) (λk b=>.inl b) m⟩
 rcases c.2 with a|⟨g,j,cur,rfl,a,d,o⟩
 ·exact .inl a
 ·refine .inr ⟨g,j,cur,H,a,?_,o⟩
  rw[hm.keep g (jB.1 d).1 λp=>by have:=i g p;omega]
  exact d
theorem iK.app {bytes:Nat} (F:P.underlying t=some (.slice e)) (hi:(P.info? e).map (λi=>(i.zero,i.size,i.bytes))=some (some z,sz,bytes)) (J:z.cells.size=sz) (D:0<sz) (y:0<bytes)
 (h:iK e sz base f l v w) {a:α} (G:Sl sz cs x w) (o:ay cs) (m:ck (λk=>k<base∨v.ownBlock=some k) w (f a) cs) (hs:∀a,(f a).size=sz) (u:(l.length+1)*bytes≤140737488355328) (A:base≤w.heap.size):
 ∃r w1,(Builtin.append_ #[t,t] ty #[v,x]).run P w=.ok r w1∧iK e sz base f (l++[a]) r w1∧d9 w w1 v r:=by
 obtain⟨n,xs,p,g⟩:=h
 have H:xs.length=l.length*sz:=by rw[g.len,oH (sz:=sz) (by simp[hs]),dN]
 have C:cs.length=sz:=by rw[m.len,hs]
 obtain⟨r,w1,K,q,s,c⟩:=Do (P:=P) (ty:=ty) F hi J D p G o (by
  rw[H,C,show l.length*sz+sz=(l.length+1)*sz by rw[fk,nC],zH]
  exact fH _ u) y A
 refine⟨r,w1,q,⟨K,_,s,?_⟩,c⟩
 have hm:Mv (λk=>k<base∨v.ownBlock=some k) w w1:=Mv.a7 c.grown λk b _=>.inr b
 have j:∀k,(k<base∨r.ownBlock=some k)→(k<base∨v.ownBlock=some k)∨w.heap.size≤k:=λk b=>by
  rcases b with b|b
  ·exact .inl (.inl b)
  ·rcases c.own with d|d
   ·rw[d] at b;exact .inl (.inr b)
   ·exact .inr (d k b)
 rw[mg]
 exact cB.append (cB.mv hm j g) (by simpa using cB.a1 (ck.mv hm j m) cB.nil)
theorem iK.push {bytes:Nat} (s:P.underlying t=some (.slice e)) (hi:(P.info? e).map (λi=>(i.zero,i.size,i.bytes))=some (some z,sz,bytes)) (u:z.cells.size=sz) (q:0<sz) (N:sz≤16777216) (G:0<bytes)
 (h:iK e sz base f l v w) {a:α} (A:ay cs) (p:ck (λk=>k<base∨v.ownBlock=some k) w (f a) cs) (hs:∀a,(f a).size=sz) (F:(l.length+1)*bytes≤140737488355328) (H:base≤w.heap.size):
 ∃x w0 r w1,(Instr.buildSlice t 1 (gO 0 [Value.agg cs.toArray]).toArray).run P w=.ok x w0∧(Builtin.append_ #[t,t] ty #[v,x]).run P w0=.ok r w1∧iK e sz base f (l++[a]) r w1∧Mv (λk=>v.ownBlock=some k) w w1∧∀k,r.ownBlock=some k→v.ownBlock=some k∨w.heap.size≤k:=by
 have J:cs.length=sz:=by rw[p.len,hs]
 have L:(P.info? e).map (λi=>(i.zero,i.size))=some (some z,sz):=by
  obtain⟨i,K,d⟩:=gU.1 hi
  simp only[Prod.mk.injEq] at d
  rw[K]
  simp[d.1,d.2.1]
 obtain⟨x,w0,C,b,D,_⟩:=N0 (w:=w) s L u q [cs] (by simp[J]) aj (by simpa using N)
 have y:iK e sz base f l v w0:=by
  obtain⟨n,xs,g,j⟩:=h
  exact⟨n,xs,uN g b,j.aL b⟩
 obtain⟨r,w1,g,j,o⟩:=y.app (ty:=ty) s hi u q G (by simpa using D) A (p.aL b) hs F (cf H b.size)
 refine⟨x,w0,r,w1,by simpa using C,g,j,(Mv.a8 b).ai (Mv.a7 o.grown λk c _=>c) λ_ M _=>M,λk c=>?_⟩
 rcases o.own with m|m
 ·rw[m] at c;exact .inl c
 ·exact .inr (cf b.size (m k c))
end
section
theorem ay.append {a b:List Value} (h:ay a) (k:ay b):ay (a++b):=λv c=>(oK.1 c).elim (h v) (k v)
mutual
theorem ZD {w:World}:∀{d:Dt} {cs:List Value},Rp w d cs→ay cs
 |.int k n,cs,h=>by simp only[Rp] at h;subst h;exact ay.a1 rfl ay.nil
 |.bool b,cs,h=>by simp only[Rp] at h;subst h;exact ay.a1 rfl ay.nil
 |.str l,cs,h=>by simp only[Rp] at h;subst h;exact ay.a1 rfl ay.nil
 |.sl l,cs,h=>by
  simp only[Rp] at h
  obtain⟨A,n,c,rfl,_⟩:=h
  exact ay.a1 H ay.nil
 |.st l,cs,h=>by simp only[Rp] at h;exact HL h
theorem HL {w:World}:∀{l:List Dt} {cs:List Value},bG w l cs→ay cs
 |[],cs,h=>by simp only[bG] at h;subst h;exact ay.nil
 |d::l,cs,h=>by
  simp only[bG] at h
  obtain⟨c,e,rfl,a,b⟩:=h
  exact(ZD a).append (HL b)
end
section
variable {α:Type} {f:α→Dt} {l m:List α} {v x:Value} {w w0 w':World} {e t ty:TypeId} {sz base:Nat}
def tC (e:TypeId) (sz base:Nat) (f:α→Dt) (l:List α) (v:Value) (w:World):Prop:=∃n xs,w.ownsRow base e sz v n xs∧cB (λk=>v.ownBlock=some k) w (l.map f) xs
theorem tC.nil (w:World):tC e sz base f ([]:List α) (.slice none 0 0) w:=⟨0,[],World.ownsRow_nil _ _ _ _,cB.nil⟩
theorem tC.lt (h:tC e sz base f l v w):∀k,v.ownBlock=some k→base≤k∧k<w.heap.size:=λk a=>by
 obtain⟨n,xs,h,_⟩:=h
 exact World.ownsRow.lt h k a
theorem tC.ds (h:tC e sz base f l v w) (hs:∀a,(f a).size=sz) (b:0<sz):aD f l v w:=by
 obtain⟨n,xs,c,d⟩:=h
 exact Rp.cc (Sl.b2 c) d.rp (by simp[hs]) b
theorem tC.aL (h:tC e sz base f l v w) (a:ao w w'):tC e sz base f l v w':=by
 obtain⟨n,xs,b,c⟩:=h
 exact⟨n,xs,uN b a,c.aL a⟩
end
end
section
variable {α:Type} {f:α→Dt} {l m:List α} {v x:Value} {w w0 w':World} {e t ty:TypeId} {sz base:Nat} {X Y Z:Nat→Prop}
theorem ck.cc {sz:Nat} {l:List Dt} {v:Value} (h:Sl sz xs v w) (a:cB X w l xs) (hs:∀d∈l,d.size=sz) (b:0<sz) (m:∀k,v.ownBlock=some k→¬X k):ck X w (.sl l) [v]:=by
 obtain⟨A,n,c,rfl,e,f,g,i,j⟩:=h
 simp only[ck]
 refine⟨A,n,c,H,?_,e,f,j,λp=>?_⟩
 ·have:=a.len
  rw[oH hs,g] at this
  exact(ER b this).symm
 ·obtain⟨ad,rfl,o⟩:=i p
  exact⟨ad,xs,H,λ_=>m _ H,o,a⟩
def iz (e:TypeId) (sz base:Nat) (X:Nat→Prop) (f:α→Dt) (l:List α) (v:Value) (w:World):Prop:=∃n xs,w.ownsRow base e sz v n xs∧cB (λk=>X k∨v.ownBlock=some k) w (l.map f) xs
theorem iz.nil (w:World):iz e sz base X f ([]:List α) (.slice none 0 0) w:=⟨0,[],World.ownsRow_nil _ _ _ _,cB.nil⟩
theorem iz.lt (h:iz e sz base X f l v w):∀k,v.ownBlock=some k→base≤k∧k<w.heap.size:=λk a=>by
 obtain⟨n,xs,h,_⟩:=h
 exact World.ownsRow.lt h k a
theorem iz.a9 (h:iz e sz base X f l v w):∃A n c,v=.slice A n c:=by
 obtain⟨n,xs,⟨_,h|⟨g,a,cur,rfl,_⟩⟩,_⟩:=h
 ·exact⟨_,_,_,h.1⟩
 ·exact⟨_,_,_,H⟩
theorem iz.one (h:iz e sz base X f l v w):v.oneCell'=true:=by obtain⟨_,_,_,rfl⟩:=h.a9;rfl
theorem iz.c6 (h:iz e sz base X f l v w) (hs:∀a,(f a).size=sz) (b:0<sz) (g:∀k,Y k→X k) (j:∀k,v.ownBlock=some k→¬Y k):ck Y w (.sl (l.map f)) [v]:=by
 obtain⟨n,xs,c,d⟩:=h
 exact ck.d5 c (d.bd λk i=>.inl (.inl (g k i))) (by simp[hs]) b j
theorem iz.aL (h:iz e sz base X f l v w) (a:ao w w'):iz e sz base X f l v w':=by
 obtain⟨n,xs,b,c⟩:=h
 exact⟨n,xs,uN b a,c.aL a⟩
theorem iz.mv (h:iz e sz base X f l v w) (hm:Mv Z w w') (o:∀k,Z k→X k) (p:∀k,v.ownBlock=some k→¬Z k):iz e sz base X f l v w':=by
 obtain⟨n,xs,c,j⟩:=h
 refine⟨n,xs,⟨c.1,?_⟩,cB.mv (hm.bd λk b _=>.inl (o k b)) (λk b=>.inl b) j⟩
 rcases c.2 with a|⟨g,i,cur,rfl,a,d,m⟩
 ·exact .inl a
 ·refine .inr ⟨g,i,cur,H,a,?_,m⟩
  rw[hm.keep g (jB.1 d).1 (p g rfl)]
  exact d
theorem iz.bd (h:iz e sz base X f l v w) (c:∀k,Y k→X k∨w.heap.size≤k):iz e sz base Y f l v w:=by
 obtain⟨n,xs,a,b⟩:=h
 exact⟨n,xs,a,b.bd λk d=>d.elim (λh=>(c k h).imp .inl id) λh=>.inl (.inr h)⟩
theorem iz.app {bytes:Nat} (G:P.underlying t=some (.slice e)) (hi:(P.info? e).map (λi=>(i.zero,i.size,i.bytes))=some (some z,sz,bytes)) (K:z.cells.size=sz) (F:0<sz) (A:0<bytes)
 (h:iz e sz base X f l v w) (H:Sl sz cs x w) (p:ay cs) (o:cB (λk=>X k∨v.ownBlock=some k) w (m.map f) cs) (hs:∀a,(f a).size=sz) (y:(l.length+m.length)*bytes≤140737488355328) (C:base≤w.heap.size):
 ∃r w1,(Builtin.append_ #[t,t] ty #[v,x]).run P w=.ok r w1∧iz e sz base X f (l++m) r w1∧d9 w w1 v r:=by
 obtain⟨n,xs,q,g⟩:=h
 have J:xs.length=l.length*sz:=by rw[g.len,oH (sz:=sz) (by simp[hs]),dN]
 have D:cs.length=m.length*sz:=by rw[o.len,oH (sz:=sz) (by simp[hs]),dN]
 obtain⟨r,w1,L,s,u,c⟩:=Do (P:=P) (ty:=ty) G hi K F q H p (by
  rw[J,D,←fk,zH]
  exact fH _ y) A C
 refine⟨r,w1,s,⟨L,_,u,?_⟩,c⟩
 have hm:Mv (λk=>X k∨v.ownBlock=some k) w w1:=Mv.a7 c.grown λk b _=>.inr b
 have j:∀k,(X k∨r.ownBlock=some k)→(X k∨v.ownBlock=some k)∨w.heap.size≤k:=λk b=>by
  rcases b with b|b
  ·exact .inl (.inl b)
  ·rcases c.own with d|d
   ·rw[d] at b;exact .inl (.inr b)
   ·exact .inr (d k b)
 rw[mg]
 exact cB.append (cB.mv hm j g) (cB.mv hm j o)
end
def pc:IntKind→Nat
 |.u32=>1
 |.i64=>2
 |.u8=>6
 |_=>7
def kd:Value→Nat
 |.bool _=>0
 |.int k _=>pc k
 |.slice _ _ _=>3
 |.string _=>4
 |.pointer _=>5
 |_=>8
mutual
def jv:Dt→List Nat
 |.int k _=>[pc k]
 |.bool _=>[0]
 |.str _=>[4]
 |.sl _=>[3]
 |.st l=>pb l
def pb:List Dt→List Nat
 |[]=>[]
 |d::l=>jv d++pb l
end
mutual
theorem Rp.ci {w:World}:∀{d:Dt} {cs:List Value},Rp w d cs→cs.map kd=jv d
 |.int k n,cs,h=>by simp only[Rp] at h;subst h;rfl
 |.bool b,cs,h=>by simp only[Rp] at h;subst h;rfl
 |.str l,cs,h=>by simp only[Rp] at h;subst h;rfl
 |.sl l,cs,h=>by simp only[Rp] at h;obtain⟨A,n,c,rfl,_⟩:=h;rfl
 |.st l,cs,h=>by simp only[Rp] at h;simpa [jv] using bG.ci h
theorem bG.ci {w:World}:∀{l:List Dt} {cs:List Value},bG w l cs→cs.map kd=pb l
 |[],cs,h=>by simp only[bG] at h;subst h;rfl
 |d::l,cs,h=>by
  simp only[bG] at h
  obtain⟨c,e,rfl,a,b⟩:=h
  rw[mg,Rp.ci a,bG.ci b,pb]
end
def Kn (p:List Nat) (xs:List Value):Prop:=∀(i:Nat) (u:Value),xs[i]? =some u→p[i%p.length]? =some (kd u)
theorem Kn.nil (p:List Nat):Kn p []:=λi u h=>by simp at h
theorem Kn.one (h:xs.map kd=p):Kn p xs:=λi u a=>by
 have b:xs.length=p.length:=by rw[←h,dN]
 obtain⟨hi,_⟩:=pl.1 a
 rw[eN G,←h,tu,a]
 rfl
theorem Kn.append {ys:List Value} (h:Kn p xs) (k:Kn p ys) (d:xs.length=n*p.length):Kn p (xs++ys):=λi u a=>by
 rcases jn i xs.length with b|b
 ·rw[vu b] at a
  exact h i u a
 ·rw[rN b] at a
  have:=k _ u a
  rw[d] at this
  rwa [show i%p.length=(i-n*p.length)%p.length by
   have c:i=i-n*p.length+n*p.length:=G
   rw[c,Nat.add_mul_mod_self_right]
   simp]
theorem Kn.take {p:List Nat} {xs:List Value} (h:Kn p xs) (n:Nat):Kn p (xs.take n):=λi u a=>by
 rw[EF] at a
 split at a
 ·exact h i u a
 ·cases a
theorem Kn.drop {p:List Nat} {xs:List Value} (h:Kn p xs) (n:Nat):Kn p (xs.drop (n*p.length)):=λi u a=>by
 rw[rO] at a
 have:=h _ u a
 rwa [Nat.mul_add_mod_self_right] at this
theorem Kn.all {w:World} {α:Type} {f:α→Dt} {p:List Nat} (c:∀a,jv (f a)=p):∀{l:List α} {xs:List Value},bG w (l.map f) xs→Kn p xs
 |[],xs,h=>by simp only[nW,bG] at h;subst h;exact Kn.nil p
 |a::l,xs,h=>by
  simp only[iy,bG] at h
  obtain⟨g,i,rfl,d,e⟩:=h
  have b:=Rp.ci d
  rw[c] at b
  exact(Kn.one b).append (n:=1) (Kn.all c e) (by rw[←b,dN];omega)
theorem Kn.zero {z:Array Value} (h:Kn p z.toList) (d:z.size=p.length) (n:Nat):Kn p (Builtin.zeroCells z n).toList:=λi u b=>by
 unfold Builtin.zeroCells at b
 simp only[Array.toList_map,Array.toList_range,tu,gU] at b
 obtain⟨j,a,rfl⟩:=b
 obtain⟨hi,a⟩:=pl.1 a
 simp only[List.getElem_range] at a
 subst a
 simp only[uh] at hi
 have c:0<z.size:=by
  rcases fm z.size with h|h
  ·rw[h] at hi;omega
  ·exact h
 have hm:i%z.size<z.size:=jV _ c
 have:=h (i%z.size) z[i%z.size] (by simp[hm])
 rw[←d] at this⊢
 rw[Nat.mod_mod] at this
 rw[getElem!_pos z (i%z.size) hm]
 exact this
def pk (p ks:List Nat):Prop:=∀o:Nat,∃(j k:Nat),ks[j]? =some k∧p[(o+j)%p.length]? ≠some k
theorem pk.not (h:k∉p) (ks:List Nat):pk p (k::ks):=λ_=>⟨0,k,rfl,λa=>h (tA a)⟩
mutual
def fe (p:List Nat):Dt→Prop
 |.int _ _=>True
 |.bool _=>True
 |.str _=>True
 |.sl l=>(l≠[]→pk p (pb l))∧eF p l
 |.st l=>eF p l
def eF (p:List Nat):List Dt→Prop
 |[]=>True
 |d::l=>fe p d∧eF p l
end
theorem eF.of {p:List Nat} {α:Type} {f:α→Dt}:∀{l:List α},(∀a∈l,fe p (f a))→eF p (l.map f)
 |[],_=>by simp only[nW,eF]
 |a::l,h=>by
  simp only[iy,eF]
  exact⟨h a aj,eF.of λb c=>h b (by simp[c])⟩
section
variable {X Y:Nat→Prop} {w w':World} {g:Nat} {cur:Array Value} {e:TypeId} {p:List Nat}
theorem Vv (i:w.heap[g]? =some (.cells cur e (0,0))) (n:Kn p cur.toList) (l:ez w ad xs) (h:pk p (xs.map kd)):ad.block≠g:=λm=>by
 obtain⟨j,k,b,f⟩:=h ad.off
 rw[tu,gU] at b
 obtain⟨u,o,rfl⟩:=b
 have a:=l j u o
 have hs:(ad.add j).spot=none:=World.cell?_spot a
 have c:ad.add j=⟨g,ad.off+j,none⟩:=by
  unfold Addr.add at hs⊢
  split
  ·rename_i d
   subst d
   rw[if_pos rfl] at hs
   cases ad
   simp_all
  ·rw[m]
 rw[c,cell_of_row w g _ cur e (0,0) i] at a
 exact f (n _ u (by simpa using a))
mutual
theorem fe.rp (f:w.heap[g]? =some (.cells cur e (0,0))) (i:Kn p cur.toList):∀{d:Dt} {cs:List Value},fe p d→ck X w d cs→ck (λk=>X k∨k=g) w d cs
 |.int k n,cs,_,h=>by simpa only[ck] using h
 |.bool b,cs,_,h=>by simpa only[ck] using h
 |.str l,cs,_,h=>by simpa only[ck] using h
 |.sl l,cs,ho,h=>by
  simp only[fe] at ho
  simp only[ck] at h⊢
  obtain⟨A,n,c,r,m,s,t,u,v⟩:=h
  refine⟨A,n,c,r,m,s,t,u,λz=>?_⟩
  obtain⟨ad,xs,x,y,o,j⟩:=v z
  refine⟨ad,xs,x,λC=>?_,o,eF.rp f i ho.2 j⟩
  rintro(a|a)
  ·exact y C a
  ·have q:=ho.1 (λh=>by subst h;simp at m;omega)
   rw[←bG.ci j.rp] at q
   exact Vv f i o q a
 |.st l,cs,ho,h=>by simp only[fe] at ho;simp only[ck] at h⊢;exact eF.rp f i ho h
theorem eF.rp (a:w.heap[g]? =some (.cells cur e (0,0))) (b:Kn p cur.toList):∀{l:List Dt} {cs:List Value},eF p l→cB X w l cs→cB (λk=>X k∨k=g) w l cs
 |[],cs,_,h=>by simpa only[cB] using h
 |d::l,cs,ho,h=>by
  simp only[eF] at ho
  simp only[cB] at h⊢
  obtain⟨c,f,i,j,m⟩:=h
  exact⟨c,f,i,fe.rp a b ho.1 j,eF.rp a b ho.2 m⟩
end
end
def vt (p:List Nat) (v:Value) (w:World):Prop:=∀(g:Nat) (cur:Array Value) (ty:TypeId) (fr:Nat×Nat),v.ownBlock=some g→w.heap[g]? =some (.cells cur ty fr)→Kn p cur.toList
section
variable {P:Program} {w w1:World} {p:List Nat}
theorem Ta {base:Nat} {t e:TypeId} {bytes:Nat} (C:P.underlying t=some (.slice e)) (hi:(P.info? e).map (λi=>(i.zero,i.size,i.bytes))=some (some z,p.length,bytes)) (aa:z.cells.size=p.length) (ak:0<p.length)
 (J:w.ownsRow base e p.length v n xs) {x:Value} {d:List Value} (hx:Sl p.length d x w) (h1:∀u∈d,u.oneCell'=true)
   (K:(xs.length+d.length)*bytes≤140737488355328*p.length) (af:0<bytes) (M:vt p v w) (hz:Kn p z.cells.toList) (T:Kn p d) {r:Value}
   (l:(Builtin.append_ #[t,t] ty #[v,x]).run P w=.ok r w1):vt p r w1:=by
  obtain⟨i,hi,ab,y,X⟩:=info_parts hi
  obtain⟨A,m,c,rfl,ap,an,k,fV,aq⟩:=hx
  have Y:(n+m)*bytes≤140737488355328:=by
   have b:xs.length+d.length=(n+m)*p.length:=by rw[J.1,k,fk]
   rw[b] at K
   have:(n+m)*bytes*p.length≤140737488355328*p.length:=by rw[zH];exact K
   exact zG this ak
  have ae:n+m≤maxLen:=by
   have:n+m≤(n+m)*bytes:=qD _ af
   unfold maxLen;omega
  have ar:n+m≤9223372036854775807:=by simp only[maxLen] at ae;omega
  rcases fm m with rfl|hm
  ·have ag:d=[]:=gT (by simpa using k)
   subst ag
   have ai:(Builtin.append_ #[t,t] ty #[v,.slice A 0 c]).run P w=.ok v w∨∃g f cur,v=.slice (some ⟨g,0,none⟩) n f∧w.heap[g]? =some (.cells cur e (0,0))∧r=v∧w1=w.setRow g cur:=by
    rcases J.2 with⟨rfl,rfl⟩|⟨g,f,cur,rfl,_,h,U,_,S,_⟩
    ·left
     cases A with
     |none=>simp[Builtin.append_,run_underlying C,sizeOf,typeInfo,hi,Builtin.lenOf,Builtin.firstCells]
     |some ad=>simp[Builtin.append_,run_underlying C,sizeOf,typeInfo,hi,Builtin.lenOf,Builtin.firstCells,loadCells,loadCellsFrom]
    ·cases A with
     |none=>left;simp[Builtin.append_,run_underlying C,sizeOf,typeInfo,hi,Builtin.lenOf,Builtin.firstCells,U,storeCells]
     |some ad=>
      have q:=run_append_room (P:=P) (ty:=ty) w t e i C hi g n f cur h ad 0 c [] aj aj aj G (by simp only[c8,lG,y,S];exact fH _ U)
      rw[q] at l
      injection l with b o
      subst b o
      exact .inr ⟨g,f,cur,H,h,H,aj⟩
   rcases ai with q|⟨g,f,cur,rfl,h,rfl,rfl⟩
   ·rw[q] at l
    injection l with b o
    subst b o
    exact M
   ·intro g' N W O s a
    obtain rfl:g=g':=by simpa [Value.ownBlock] using s
    rw[setRow_heap w g cur cur e _ h] at a
    injection a with a
    injection a with a
    subst a
    exact M g _ _ _ H h
  ·obtain⟨ad,rfl,R⟩:=fV hm
   have F:xs.length=n*p.length:=J.1
   rcases J.2 with⟨rfl,rfl⟩|⟨g,f,cur,rfl,am,h,U,ao,S,V⟩
   ·have q:=run_append_nil (P:=P) (ty:=ty) w t e i z C hi ab ad m c d (by rw[k,y]) R G G (by rw[X];have K:=Y;simp only[gB] at K;omega)
    rw[q] at l
    injection l with b o
    subst b o
    intro g' N W O s a
    obtain rfl:w.heap.size=g':=by simpa [Value.ownBlock] using s
    have D:=heap_alloc_new w.drew (.cells (d.toArray++Builtin.zeroCells z.cells (grownCap w m 0 e-m)) e)
    have Q:w.drew.heap.size=w.heap.size:=rfl
    rw[Q] at D
    rw[D] at a
    injection a with a
    injection a with a
    subst a
    simp only[Array.toList_append]
    exact T.append (Kn.zero hz aa _) k
   ·by_cases Z:n+m≤f
    ·have q:=run_append_room (P:=P) (ty:=ty) w t e i C hi g n f cur h ad m c d (by rw[k,y]) R h1 Z (by rw[k,S,y,←fk];exact fH _ Z)
     rw[q] at l
     injection l with b o
     subst b o
     intro g' N W O s a
     obtain rfl:g=g':=by simpa [Value.ownBlock] using s
     rw[setRow_heap w g cur _ e _ h] at a
     injection a with a
     injection a with a
     subst a
     have L:=M g _ _ _ rfl h
     rw[y]
     refine((L.take (n*p.length)).append (n:=n) T ?_).append (n:=n+m) ?_ ?_
     ·rw[V,F]
     ·have:=L.drop (n+m)
      rwa [fk,←k] at this
     ·rw[cr,V,F,k,fk]
    ·have ah:∀j u,xs[j]? =some u→w.cell? ((⟨g,0,none⟩:Addr).add j)=some u:=J.cells (g:=g) rfl
     have q:=run_append_grow (P:=P) (ty:=ty) w t e i z C hi ab ⟨g,0,none⟩ n f xs (by rw[F,y]) ah ad m c d (by rw[k,y]) R G G (growslice_fits G (by rw[X];exact Y))
     rw[q] at l
     injection l with b o
     subst b o
     intro g' N W O s a
     obtain rfl:w.heap.size=g':=by simpa [Value.ownBlock] using s
     have D:=heap_alloc_new w.drew (.cells (xs.toArray++d.toArray++Builtin.zeroCells z.cells (grownCap w (n+m) f e-(n+m))) e)
     have Q:w.drew.heap.size=w.heap.size:=rfl
     rw[Q] at D
     rw[D] at a
     injection a with a
     injection a with a
     subst a
     simp only[Array.toList_append]
     have L:=M g _ _ _ rfl h
     have al:Kn p xs:=by rw[←V];exact L.take _
     exact(al.append (n:=n) T F).append (n:=n+m) (Kn.zero hz aa _) (by rw[cr,F,k,fk])
end
section
variable {α:Type} {f:α→Dt} {l m:List α} {v x:Value} {w w' w0:World} {e t ty:TypeId} {p:List Nat} {base:Nat}
def bC (e:TypeId) (p:List Nat) (base:Nat) (f:α→Dt) (l:List α) (v:Value) (w:World):Prop:=iz e p.length base (λ_=>False) f l v w∧vt p v w
theorem bC.nil (w:World):bC e p base f ([]:List α) (.slice none 0 0) w:=⟨iz.nil w,λ_ _ _ _ h _=>by simp[Value.ownBlock] at h⟩
theorem bC.lt (h:bC e p base f l v w):∀k,v.ownBlock=some k→base≤k∧k<w.heap.size:=h.1.lt
theorem bC.a9 (h:bC e p base f l v w):∃A n c,v=.slice A n c:=h.1.a9
theorem bC.one (h:bC e p base f l v w):v.oneCell'=true:=h.1.one
theorem bC.aL (h:bC e p base f l v w) (b:ao w w'):bC e p base f l v w':=⟨h.1.aL b,λg cur ty fr a c=>h.2 g cur ty fr a (by rw[←b.heap (h.1.lt g a).2];exact c)⟩
theorem bC.ds (h:bC e p base f l v w) (hs:∀a,(f a).size=p.length) (b:0<p.length):aD f l v w:=(h.1.c6 hs b (Y:=λ_=>False) (λ_ h=>h) λ_ _ h=>h).rp
theorem bC.off (h:bC e p base f l v w) {X:Nat→Prop} {d:List Dt} (m:eF p d) (c:cB X w d cs):cB (λk=>X k∨v.ownBlock=some k) w d cs:=by
 obtain⟨⟨n,xs,⟨_,i|⟨g,o,cur,rfl,_,b,_⟩⟩,_⟩,j⟩:=h
 ·rw[i.1]
  exact c.bd λk a=>a.elim .inl λh=>by simp[Value.ownBlock] at h
 ·refine(eF.rp b (j g cur _ _ H b) m c).bd λk a=>.inl ?_
  exact a.imp id λh=>(by simpa [Value.ownBlock] using h.symm)
theorem bC.app {P:Program} {z:Value} {bytes:Nat} (A:P.underlying t=some (.slice e)) (hi:(P.info? e).map (λi=>(i.zero,i.size,i.bytes))=some (some z,p.length,bytes)) (D:z.cells.size=p.length) (O:Kn p z.cells.toList) (y:0<p.length) (q:0<bytes)
 (h:bC e p base f l v w) {cs:List Value} (C:Sl p.length cs x w) (b:bG w (m.map f) cs) (L:∀a∈m,fe p (f a)) (c:∀a,jv (f a)=p) (o:(l.length+m.length)*bytes≤140737488355328) (J:base≤w.heap.size):
 ∃r w1,(Builtin.append_ #[t,t] ty #[v,x]).run P w=.ok r w1∧bC e p base f (l++m) r w1∧d9 w w1 v r:=by
 have hs:∀a,(f a).size=p.length:=λa=>by
  have g:∀d:Dt,(jv d).length=d.size:=λd=>by
   have key:(∀d:Dt,(jv d).length=d.size):=λd=>Dt.rec (motive_1:=λd=>(jv d).length=d.size) (motive_2:=λl=>(pb l).length=Dt.bS l)
    (λ_ _=>rfl) (λ_=>rfl) (λ_=>rfl) (λ_ _=>rfl) (λl Q=>by simpa only[jv,Dt.size] using Q) rfl (λd l g j=>by simp only[pb,Dt.bS,cr,g,j]) d
   exact key d
  rw[←g,c]
 have s:=HL b
 have M:=h.off (eF.of L) (bG.x b)
 obtain⟨n,xs,j,F⟩:=h.1
 have N:xs.length=l.length*p.length:=by rw[F.len,oH (sz:=p.length) (by simp[hs]),dN]
 have K:cs.length=m.length*p.length:=by rw[b.len,oH (sz:=p.length) (by simp[hs]),dN]
 obtain⟨r,w1,u,G,H⟩:=h.1.app (P:=P) (ty:=ty) A hi D y q C s (M.bd λk c=>.inl (c.elim (λh=>h.elim) .inr)) hs o J
 refine⟨r,w1,u,⟨G,Ta A hi D y j C s ?_ q h.2 O (Kn.all c b) u⟩,H⟩
 rw[N,K,←fk,zH]
 exact fH _ o
end
section
variable {P:Program} {ops:Array Oper} {Env:World→Prop} {Rl:World→World→Prop} {mo:Bool} {Pn:List PanicEntry→World→Prop} {N:Nat}
def uC (ops:Array Oper) (n:Nat):Bool:=
 (List.range ops.size).all λt=>decide (t≤n)||(List.range t).any λj=>decide (n≤j)&&Region.waitsFor .any ops t j
theorem aal {listed:Array Bool} (hs:Region.sinkB .any ops n=true) (x:uC ops n=true) (m:HeadInv .any ops n listed):
 ∀(d i:Nat),n-i=d→i<n→listed.getD i true=false→∀t,n≤t→t∉Region.ready .any ops listed:=by
 intro d
 induction d using Nat.strongRecOn with
 |_ d D=>
  intro i F hi u t K s
  obtain⟨_,w,l,o⟩:=mem_ready.1 s
  have A:t<ops.size:=(jB.1 l).1
  by_cases C:t=n
  ·subst C
   have b:=kR.1 hs i (jD.2 hi)
   obtain⟨j,k,c⟩:=zp.1 b
   simp only[ex,gI] at c
   obtain⟨v,r,e,g,f,h⟩:=Region.waitsFor_spec c.2
   have J:j≤t:=by have:=jD.1 k;omega
   by_cases p:j=t
   ·subst p
    have:v=w:=cC (r.symm.ai l)
    subst this
    have a:=o e g f
    rw[h,getD_both u] at a
    cases a
   ·cases q:listed.getD j false with
    |true=>
     have a:=m.closed j v r q e g f
     rw[h,getD_both u] at a
     cases a
    |false=>
     have y:j<listed.size:=by rw[m.size];omega
     exact D (t-j) G j H G (getD_in y q) t (bV _) s
  ·have b:=kR.1 x t (jD.2 A)
   simp only[xG,gI] at b
   rcases b with b|b
   ·omega
   ·obtain⟨j,k,c⟩:=zp.1 b
    simp only[ex,gI] at c
    have p:=jD.1 k
    obtain⟨o',z,e,g,f,h⟩:=Region.waitsFor_spec c.2
    have:o'=w:=cC (z.symm.ai l)
    subst this
    have a:=o e g f
    rw[h,getD_both (m.tail j c.1 G)] at a
    cases a
def uO (o:Oper):Bool:=o.guard.isNone&&o.dst.isSome&&match o.op with|.extract .. |.move _|.assign _=>true|_=>false
theorem NU {o:Oper} (h:uO o=true) (ρ:Operand→Value):(∃v,∀w,(execOp ρ o).run P w=.ok (.value v) w)∨∃x,(∀v,x≠.panic v)∧∀w,(execOp ρ o).run P w=.halt x w:=by
 obtain⟨c,op,ty,pos,aft,g⟩:=o
 unfold uO at h
 simp only[ex] at h
 have a:=h.2
 cases op<;>simp only[] at a
 case move x=>exact .inl ⟨ρ x,λw=>by simp[execOp]⟩
 case assign x=>exact .inl ⟨ρ x,λw=>by simp[execOp]⟩
 case extract x n=>
  have e:execOp ρ ⟨c,.extract x n,ty,pos,aft,g⟩=(do pure (Next.value (←Instr.extract (ρ x) n)):Sem Next):=rfl
  rw[e]
  cases d:ρ x with
  |tuple vs=>
   cases b:vs[n]? with
   |some v=>exact .inl ⟨v,λw=>by simp[Instr.extract,b]⟩
   |none=>exact .inr ⟨.stuck "Extract: no such component",λv=>by simp,λw=>by simp[Instr.extract,b,stuck,Sem.run]⟩
  |_=>exact .inr ⟨.stuck "Extract: tuple expected",λv=>by simp,λw=>by simp[Instr.extract,stuck,Sem.run]⟩
 all_goals cases a
def xc (ops:Array Oper):List Nat→Array Bool→Bool
 |[],listed=>(Region.ready .any ops listed).isEmpty
 |i::rest,listed=>(decide (Region.ready .any ops listed=[i])||((match ops[i]? with|some o=>uO o|none=>false)&&Region.free .any ops listed i&&(Region.ready .any ops listed).contains i))&&xc ops rest (listed.setIfInBounds i true)
theorem D8 {Q:eV} (l:Region.noSelect ops=true):∀(perm:List Nat) (os:List Oper) (listed:Array Bool) (a:Act) (w:World),(perm.map λi=>ops[i]?)=os.map some→xc ops perm listed=true→wpList P ops (gn Q) os a w→wpAny P .any ops (gn Q) perm.length listed a w
 |[],os,listed,a,w,d,hB,h=>by
  have:os=[]:=by cases os with|nil=>rfl|cons o os=>simp at d
  subst this
  exact⟨by simpa [xc] using hB,h⟩
 |i::perm,os,listed,a,w,d,hB,h=>by
  cases os with
  |nil=>simp at d
  |cons o os=>
   simp only[iy,List.cons.injEq] at d
   obtain⟨g,d⟩:=d
   simp only[xc,ex,xG,gI] at hB
   obtain⟨t,n⟩:=hB
   have C:¬LetsOut (gn Q):=λ⟨_,_,b⟩=>by obtain⟨b,_⟩:=b;cases b
   rcases t with e|⟨⟨b,u⟩,e⟩
   ·refine⟨λm=>(by rw[e] at m;cases m),λk p=>?_⟩
    rw[e] at p
    have y:k=i:=by simpa using p
    subst y
    have z:wpOp P ops (gn Q) k (wpList P ops (gn Q) os) a w:=by unfold wpOp;simp only[g];exact h
    exact wpOp_mono (λr w' s=>D8 l perm os _ r w' d n s) z
   ·rw[g] at b
    have b:uO o=true:=b
    have q:Region.wanted o (yielded ops a.tmps)=true:=by
     unfold uO at b
     simp only[ex,Option.isNone_iff_eq_none] at b
     unfold Region.wanted
     rw[b.1.1]
    unfold wpList at h
    rw[if_pos q] at h
    have h:=h.resolve_right λh=>C h.2
    unfold Oper.wp at h
    rcases NU (P:=P) b a.eval with⟨v,f⟩|⟨x,A,f⟩
    ·rw[f w] at h
     exact wpAny_take g l u e (λc a w j=>by obtain⟨j,_⟩:=j;cases j) (.inl ⟨q,f⟩) (D8 l perm os _ _ w d n h)
    ·rw[f w] at h
     cases x<;>first|exact absurd rfl (A _)|exact h.elim
theorem aaK {a:Oper} {S:cT} {L:Array Bool→dO→ee→Prop} (hi:ops[i]? =some a) (g:mo=true→nE .any ops=true)
 (hs:Region.sinkB .any ops n=true) (d:uC ops n=true) (c:i<n)
 (h:∀listed F Z,L listed F Z→∀j∈Region.ready .any ops listed,n≤j):
 ∀(f:Nat) (listed:Array Bool) (F:dO) (Z Z':ee),HeadInv .any ops n listed→
  (∀j b,ops[j]? =some b→j≠i→listed.getD j true=false→(∀e∈b.after,Region.binds .any e=true→e.on≠i)→a.apart ops b=true)→
  i∈Region.ready .any ops listed→GStep P ops Env Rl mo Pn N F Z a S Z'→
  pj P .any ops Env Rl mo Pn N n L f (listed.setIfInBounds i true) (di F a.dst S) Z'→pj P .any ops Env Rl mo Pn N n L (f+1) listed F Z:=
 Ig hi g c (λ_ m l t k=>aal hs d m _ i rfl c l t k) h
def tS (ops:Array Oper) (n:Nat) (perm:List Nat):Nat→Nat→Array Bool→Bool
 |0,_,listed=>xc ops perm listed&&(Region.ready .any ops listed).all λj=>decide (n≤j)
 |f+1,k,listed=>(Region.ready .any ops listed).contains k&&Region.free .any ops listed k&&tS ops n perm f (k+1) (listed.setIfInBounds k true)
theorem P3 {n:Nat} {perm:List Nat} {Lq:dO→ee→Prop} (f:mo=true→nE .any ops=true) (hs:Region.sinkB .any ops n=true) (e:uC ops n=true):
 ∀(l:List Oper) (k:Nat) (listed:Array Bool) (F:dO) (Z:ee),(∀j,j<l.length→l[j]? =ops[k+j]?)→k+l.length=n→HeadInv .any ops n listed→
 tS ops n perm l.length k listed=true→(∀t,eG Rl (F t))→ig Z→cj P ops Env Rl mo Pn N l F Z Lq→
 pj P .any ops Env Rl mo Pn N n (λb c Z'=>(xc ops perm b=true∧(Region.ready .any ops b).all (λj=>decide (n≤j))=true)∧Lq c Z') l.length listed F Z
 |[],k,listed,F,Z,_,hk,_,hB,_,_,h=>by
  simp only[c8,tS,ex] at hB
  exact⟨hB,h⟩
 |o::l,k,listed,F,Z,hl,hk,inv,hB,hF,hZ,h=>by
  have d:ops[k]? =some o:=by simpa using(hl 0 aj).symm
  simp only[cw,tS,ex] at hB
  obtain⟨⟨s,r⟩,p⟩:=hB
  have i:k<n:=by simp only[cw] at hk;omega
  have m:k∈Region.ready .any ops listed:=by simpa using s
  obtain⟨S,Z',a,u⟩:=h hF hZ
  exact aaK d f hs e i (λb c Z' q j g=>by simpa using kR.1 q.1.2 j g) l.length listed F Z Z' inv (Region.free_spec d r) m a
   (P3 f hs e l (k+1) _ _ _ (λj g=>by have:=hl (j+1) dT;simpa [pm,rP 1 j] using this) (by simp only[cw] at hk;omega) (inv.set m i) p (DW hF a.a3) (a.dz hZ) u)
def yA (ops:Array Oper) (n:Nat) (perm:List Nat):Bool:=
 Region.noSelect ops&&decide (n<ops.size)&&Region.sinkB .any ops n&&uC ops n&&decide (n+perm.length=ops.size)&&tS ops n perm n 0 (Array.replicate ops.size false)
def nk (os:List Oper):List Nat→List Oper
 |[]=>[]
 |i::is=>match os[i]? with|some o=>o::nk os is|none=>nk os is
theorem P6 {Q:eV} {a:Act} {D:List Deferred} {F:dO} {Z:ee} {l:List Oper} {perm:List Nat} (m:ki Env Rl) (z:∀c w,¬Pn c w) (C:mo=true→nE .any l.toArray=true) (s:yA l.toArray n perm=true) (b:(perm.all λi=>decide (i<l.length))=true)
 (o:∀t,eG Rl (F t)) (f:ig Z) (r:Z w) (p:Env w) (q:lL N D F a {w with drawn:=w.drawn+1})
 (h:cj P l.toArray Env Rl mo Pn N (l.take n) F Z (λF Z=>∀d w',Env w'→lL N D F d w'→Z w'→wpList P l.toArray (gn Q) (nk l perm) d w')):wpAny P .any l.toArray (gn Q) l.toArray.size (Array.replicate l.toArray.size false) a {w with drawn:=w.drawn+1}:=by
 have v:ao w {w with drawn:=w.drawn+1}:=⟨rfl,rfl,rfl,bV _,λ_ _=>rfl⟩
 simp only[yA,ex,gI] at s
 obtain⟨⟨⟨⟨⟨O,L⟩,hs⟩,A⟩,J⟩,K⟩:=s
 have U:n<l.length:=by simpa using L
 have k:(l.take n).length=n:=dT
 have T:HeadInv .any l.toArray n (Array.replicate l.toArray.size false):=
  ⟨aj,λj V _ y=>(by rw[getD_replicate_false] at y;cases y),λt _ R=>getD_in (by simpa using R) (getD_replicate_false _ _)⟩
 have H:=P3 (perm:=perm) C hs A (l.take n) 0 _ _ _ (λj x=>by
  have G:j<n:=by rw[k] at x;exact x
  simp[G]) (by simpa using k) T (by rw[k];exact K) o f h
 have M:∀(perm:List Nat),(perm.all λi=>decide (i<l.length))=true→(perm.map λi=>l.toArray[i]?)=(nk l perm).map some:=by
  intro perm
  induction perm with
  |nil=>intro _;rfl
  |cons i is S=>
   intro b
   simp only[xI,ex,gI] at b
   have e:l[i]? =some l[i]:=fy b.1
   simp only[iy,nk,e,nV]
   rw[←S b.2]
   simp
 have:=Br (D:=D) (Q':=gn Q) (l0:=[]) (g:=perm.length) m (λc _ w _ _ _ h=>absurd h (z c w)) (λ_ _ _ _ _ _ _ b=>by cases b) (λlisted F Z u o f d w' p q r=>D8 O perm (nk l perm) listed d w' (M perm b) u.1.1 (u.2 d w' p q r)) _ _ _ _ H o f a {w with drawn:=w.drawn+1} (m.keep _ _ p (m.aL _ _ v)) q (λ_ b=>by cases b) (f _ _ r v)
 rw[k,J] at this
 exact this
theorem OZ {D:List Deferred} {l:Fr} {a:Act} (b:At N D l a):lL N D (iU l) a w:=⟨b.size,b.defers,λt=>by
 show iU l t (a.tmps.getD t undef) _
 unfold iU
 cases c:lk l t with
 |some v=>exact b.at_ t v c
 |none=>trivial⟩
theorem Tq {Q:eV} {D:List Deferred} {l:Fr} {id:Nat} {os:List Oper} (n:Nat) (perm:List Nat) (ts:List Nat) (Env:World→Prop) (Rl:World→World→Prop) (mo:Bool) (Z:ee) (g:ki Env Rl) (b:Env w) (k:ig Z) (c:Z w) (o:mo=true→nE .any os.toArray=true) (hm:P.follows .mixedOrders=true) (f:yA os.toArray n perm=true) (r:(perm.all λi=>decide (i<os.length))=true)
 (h:cj P os.toArray Env Rl mo rV N (os.take n) (iU l) Z (λF Z=>∀w',Env w'→Z w'→kU F w' ts (λl'=>bK P os.toArray (gn Q) N D l' w' (nk os perm)))):dS P Q N D l w (.region id os.toArray true):=λa m=>by
 refine wp_mono (wp_region_any (Q:=gn Q) hm (P6 (D:=D) g (λ_ _ h=>h) o f r (ww l) k c b (OZ m) (tm _ _ _ (λF Z j d w' b hs c=>?_) h))) λe a w b=>by obtain⟨rfl,h⟩:=b;exact h
 obtain⟨l',q,p⟩:=kU.use hs (j w' b c)
 exact p d q
theorem Tp {Q:eV} {D:List Deferred} {l:Fr} {id:Nat} {os:List Oper} (n:Nat) (perm:List Nat) (ts:List Nat) (hm:P.follows .mixedOrders=true) (a:yA os.toArray n perm=true) (c:(perm.all λi=>decide (i<os.length))=true)
 (h:cj P os.toArray (ao w) ao false rV N (os.take n) (iU l) (λ_=>True) (λF _=>∀w',ao w w'→kU F w' ts (λl'=>bK P os.toArray (gn Q) N D l' w' (nk os perm)))):dS P Q N D l w (.region id os.toArray true):=
 Tq n perm ts (ao w) ao false (λ_=>True) (ki.plain w) (ao.refl w) ig.dg trivial (λh=>by cases h) hm a c (tm _ _ _ (λ_ _ h w' b _=>h w' b) h)
theorem wU {Q:eV} {D:List Deferred} {l:Fr} (h:ie Q N D l w):ie (gn Q) N D l w:=λa b=>⟨rfl,h a b⟩
theorem Nw {Q:eV}:¬LetsOut (gn Q):=λ⟨_,_,a⟩=>by
 obtain⟨a,_⟩:=a
 cases a
end
section
variable {α:Type} {f:α→Dt} {a:α} {l m:List α} {v x:Value} {w w':World} {P:Program}
def bR (f:α→Dt) (a:α):cT:=λv w=>∃cs:List Value,v=.agg cs.toArray∧Rp w (f a) cs
theorem bR.mk (h:Rp w (f a) cs):bR f a (.agg cs.toArray) w:=⟨cs,rfl,h⟩
theorem bR.aL (h:bR f a v w) (d:ao w w'):bR f a v w':=by
 obtain⟨cs,b,c⟩:=h
 exact⟨cs,b,c.aL d⟩
theorem bR.a3 (f:α→Dt) (a:α):cN (bR f a):=λ_ _ _ h b=>h.aL b
theorem W7:∀d:Dt,(jv d).length=d.size:=λd=>Dt.rec (motive_1:=λd=>(jv d).length=d.size) (motive_2:=λl=>(pb l).length=Dt.bS l)
 (λ_ _=>rfl) (λ_=>rfl) (λ_=>rfl) (λ_ _=>rfl) (λl c=>by simpa only[jv,Dt.size] using c) rfl (λd l a b=>by simp only[pb,Dt.bS,cr,a,b]) d
theorem Ph (b:∀a,jv (f a)=p) (a:α):(f a).size=p.length:=by rw[←W7,b]
theorem He {t e:TypeId} (y:P.underlying t=some (.slice e)) (hi:(P.info? e).map (λi=>(i.zero,i.size))=some (some z,p.length)) (A:z.cells.size=p.length) (k:0<p.length) (x:∀a,jv (f a)=p)
 {vs:List (List Value)} (h:∀(i:Nat) (c:List Value),vs[i]? =some c→∃a,l[i]? =some a∧Rp w (f a) c) (g:vs.length=l.length) (m:0<vs.length) (hs:vs.length*p.length≤16777216):
 ∃r w',(Instr.buildSlice t vs.length (gO 0 (vs.map λv=>Value.agg v.toArray)).toArray).run P w=.ok r w'∧ao w w'∧aD f l r w':=by
 have n:=Ph x
 have s:bG w (l.map f) vs.flatten:=by
  clear m hs
  induction vs generalizing l with
  |nil=>obtain rfl:l=[]:=gT g.symm;simp only[nW,List.flatten_nil,bG]
  |cons c vs C=>
   cases l with
   |nil=>simp at g
   |cons a l=>
    obtain⟨o,d,b⟩:=h 0 c rfl
    obtain rfl:a=o:=by simpa using d
    rw[List.flatten_cons,iy]
    exact bG.a1 b (C (λi c u=>by simpa using h (i+1) c (by simpa using u)) (by simpa using g))
 have j:∀v∈vs,v.length=p.length:=λv j=>by
  obtain⟨i,hi,rfl⟩:=BF j
  obtain⟨a,_,b⟩:=h i vs[i] (by simp[hi])
  rw[b.len,n]
 obtain⟨r,w',d,b,q,_⟩:=N0 (w:=w) y hi A k vs j m hs
 exact⟨r,w',d,b,Rp.cc q (s.aL b) (by simp[n]) k⟩
theorem Dp {t e:TypeId} (n:P.underlying t=some (.slice e)) (hi:(P.info? e).map (λi=>(i.zero,i.size))=some (some z,p.length)) (o:z.cells.size=p.length) (g:0<p.length) (m:∀a,jv (f a)=p) (hs:p.length≤16777216)
 {c:List Value} (h:Rp w (f a) c):∃r w',(Instr.buildSlice t 1 #[(0,.agg c.toArray)]).run P w=.ok r w'∧ao w w'∧aD f [a] r w':=by
 obtain⟨r,w',j,k⟩:=He (w:=w) (f:=f) (l:=[a]) (vs:=[c]) n hi o g m (λi d b=>by
  match i with
  |0=>obtain rfl:c=d:=by simpa using b
      exact⟨a,H,h⟩
  |i+1=>simp at b) rfl aj (by simpa using hs)
 exact⟨r,w',by simpa [gO] using j,k⟩
theorem bC.c4 {base:Nat} {e t:TypeId} {bytes:Nat} (q:P.underlying t=some (.slice e)) (hi:(P.info? e).map (λi=>(i.zero,i.size,i.bytes))=some (some z,p.length,bytes)) (y:z.cells.size=p.length) (u:z.cells.toList.map kd=p) (o:0<p.length) (j:0<bytes) (b:∀a,jv (f a)=p) (n:∀a,fe p (f a))
 (h:bC e p base f l v w) (s:aD f m x w) (g:(l.length+m.length)*bytes≤140737488355328) (k:base≤w.heap.size):
 ∃r w1,(Builtin.append_ #[t,t] ty #[v,x]).run P w=.ok r w1∧bC e p base f (l++m) r w1∧d9 w w1 v r:=by
 obtain⟨xs,c,d⟩:=Rp.c5 (sz:=p.length) s (by simp[Ph b])
 exact h.app q hi y (Kn.one u) o j c d (λa _=>n a) b g k
end
def je (S T:cT):cT:=λv w=>∃a b:Value,v=.tuple #[a,b]∧S a w∧T b w
def Fp (S T U:cT):cT:=λv w=>∃a b c:Value,v=.tuple #[a,b,c]∧S a w∧T b w∧U c w
def pt (S T U X:cT):cT:=λv w=>∃a b c d:Value,v=.tuple #[a,b,c,d]∧S a w∧T b w∧U c w∧X d w
theorem je.a3 {S T:cT} (f:cN S) (g:cN T):cN (je S T):=λ_ _ _ ⟨a,b,h,d,e⟩ c=>⟨a,b,h,f _ _ _ d c,g _ _ _ e c⟩
theorem pt.a3 {S T U X:cT} (k:cN S) (l:cN T) (m:cN U) (n:cN X):cN (pt S T U X):=λ_ _ _ ⟨a,b,c,d,h,f,g,i,j⟩ e=>⟨a,b,c,d,h,k _ _ _ f e,l _ _ _ g e,m _ _ _ i e,n _ _ _ j e⟩
section
variable {P:Program} {ops:Array Oper} {Env:World→Prop} {Rl:World→World→Prop} {mo:Bool} {Pn:List PanicEntry→World→Prop} {Z:ee} {N:Nat} {F:dO} {K:dO→ee→Prop} {rest:List Oper} {d:Nat} {ty:TypeId} {pos:String} {aft:Array Edge} {S T U X:cT} {x:Operand}
theorem Md (g:look F x=je S T) (f:eG Rl S) (e:Nat.blt d N=true) (k:cj P ops Env Rl mo Pn N rest (di F (some d) S) Z K):cj P ops Env Rl mo Pn N (⟨some d,.extract x 0,ty,pos,aft,none⟩::rest) F Z K:=
 yv g f e (λ_ _ _ ⟨a,b,h,c,i⟩=>by subst h;exact⟨_,rfl,c⟩) k
theorem Me (g:look F x=je S T) (f:eG Rl T) (e:Nat.blt d N=true) (k:cj P ops Env Rl mo Pn N rest (di F (some d) T) Z K):cj P ops Env Rl mo Pn N (⟨some d,.extract x 1,ty,pos,aft,none⟩::rest) F Z K:=
 yv g f e (λ_ _ _ ⟨a,b,h,i,c⟩=>by subst h;exact⟨_,rfl,c⟩) k
theorem Mf (i:look F x=pt S T U X) (g:eG Rl S) (e:Nat.blt d N=true) (k:cj P ops Env Rl mo Pn N rest (di F (some d) S) Z K):cj P ops Env Rl mo Pn N (⟨some d,.extract x 0,ty,pos,aft,none⟩::rest) F Z K:=
 yv i g e (λ_ _ _ ⟨a,b,c,d,h,f,j,l,e⟩=>by subst h;exact⟨_,rfl,f⟩) k
theorem Mg (i:look F x=pt S T U X) (g:eG Rl T) (e:Nat.blt d N=true) (k:cj P ops Env Rl mo Pn N rest (di F (some d) T) Z K):cj P ops Env Rl mo Pn N (⟨some d,.extract x 1,ty,pos,aft,none⟩::rest) F Z K:=
 yv i g e (λ_ _ _ ⟨a,b,c,d,h,j,f,l,e⟩=>by subst h;exact⟨_,rfl,f⟩) k
theorem Mh (i:look F x=pt S T U X) (g:eG Rl U) (e:Nat.blt d N=true) (k:cj P ops Env Rl mo Pn N rest (di F (some d) U) Z K):cj P ops Env Rl mo Pn N (⟨some d,.extract x 2,ty,pos,aft,none⟩::rest) F Z K:=
 yv i g e (λ_ _ _ ⟨a,b,c,d,h,j,l,f,e⟩=>by subst h;exact⟨_,rfl,f⟩) k
theorem Mi (g:look F x=pt S T U X) (f:eG Rl X) (e:Nat.blt d N=true) (k:cj P ops Env Rl mo Pn N rest (di F (some d) X) Z K):cj P ops Env Rl mo Pn N (⟨some d,.extract x 3,ty,pos,aft,none⟩::rest) F Z K:=
 yv g f e (λ_ _ _ ⟨a,b,c,d,h,i,j,l,e⟩=>by subst h;exact⟨_,rfl,e⟩) k
end
def ft (s:Bool) (n:List UInt32):cT:=λv w=>∃x:Value,v=.agg #[B s,x]∧aO n x w
abbrev IZ (z:Int):cT:=ft (decide (z<0)) (lb z.natAbs)
theorem ft.a3 (s:Bool) (n:List UInt32):cN (ft s n):=λ_ _ _ ⟨x,h,a⟩ b=>⟨x,h,a.aL b⟩
theorem IZ.a3 (z:Int):cN (IZ z):=ft.a3 _ _
theorem ft.mk {s:Bool} {n:List UInt32} {x:Value} (h:aO n x w):ft s n (.agg #[B s,x]) w:=⟨x,rfl,h⟩
theorem ft.aL {s:Bool} {n:List UInt32} (h:ft s n v w) (a:ao w w'):ft s n v w':=ft.a3 _ _ _ _ _ h a
theorem IZ.of {z:Int} {b:Bool} {x:Value} (a:b=decide (z<0)) (c:aO (lb z.natAbs) x w):IZ z (.agg #[B b,x]) w:=⟨x,by rw[a],c⟩
def zj (T:TypeId) (cs:List Value) (b:Nat):cT:=λv w=>∃g:Nat,v=.pointer (some ⟨g,0,none⟩)∧b≤g∧bm g T cs w
theorem zj.a3 (T:TypeId) (cs:List Value) (b:Nat):cN (zj T cs b):=λ_ _ _ ⟨g,h,a,c⟩ d=>⟨g,h,a,c.aL d⟩
inductive uo (P:Program) (fr:Fr) (w:World):List ResultVar→List Value→Prop
 |nil:uo P fr w [] []
 |tmp {s:Tmp} {u:Value} {rs:List ResultVar} {us:List Value} (h:lk fr s=some u) (k:uo P fr w rs us):uo P fr w (.tmp s::rs) (u::us)
 |cell {p:Tmp} {t:TypeId} {a:Addr} {v:Value} {rs:List ResultVar} {us:List Value} (h:lk fr p=some (.pointer (some a))) (hl:(Instr.loadAt t (.pointer (some a))).run P w=.ok v w) (k:uo P fr w rs us):uo P fr w (.cell p t::rs) (v::us)
def NJ:List Value→Value
 |[v]=>v
 |vs=>.tuple vs.toArray
theorem uo.run {P:Program} {fr:Fr} {w:World} {N:Nat} {D:List Deferred} {a:Act} (f:At N D fr a) {g:ResultVar→Sem Value} (g1:∀s,g (.tmp s)=pure (a.tmps.getD s undef)) (i:∀b t,g (.cell b t)=(do loadVar t (←asAddr (a.tmps.getD b undef)):Sem Value)) {c:List ResultVar} {us:List Value} (h:uo P fr w c us):
 (c.mapM g).run P w=.ok us w:=by
 induction h with
 |nil=>rfl
 | @tmp s u c us h _ e=>
   have d:=f.at_ s u h
   rw[List.mapM_cons,g1]
   simp only[Sem.run_bind,Sem.run_pure,Result.andThen_ok,e,d]
 | @cell p t ad v c us h l _ e=>
   have d:=f.at_ p _ h
   have j:(loadVar t ad).run P w=.ok v w:=by
    simpa [Instr.loadAt,Instr.sureAddr] using l
   have k:asAddr (Value.pointer (some ad))=(pure ad:Sem Addr):=rfl
   rw[List.mapM_cons,i]
   simp only[Sem.run_bind,Sem.run_pure,Result.andThen_ok,e,d,k,j]
theorem ff {R:Ending→World→Prop} {fr:Fr} {c:List ResultVar} {us:List Value} (e:fn.results=c.toArray) (d:uo P fr w c us)
 (h:R (.returned (NJ us)) w):gZ (bodyPost P fn R) N [] fr w .ret:=λa b=>by
 refine⟨b.defers,NJ us,?_,h⟩
 unfold results
 rw[e,List.mapM_toArray,map_eq_pure_bind]
 simp only[bind_assoc,pure_bind]
 rw[Sem.run_bind,d.run b (λ_=>rfl) (λ_ _=>rfl),Result.andThen_ok,Sem.run_pure]
 congr 1
 match us with
 |[]=>rfl
 |[v]=>rfl
 |v::u::us=>rfl
theorem Zm {l a t:List UInt8} (h:rdB l=some (a,t)):l=LO a++t:=by
 unfold rdB at h
 cases b:eY l with
 |none=>rw[b] at h;cases h
 |some p=>
  obtain⟨n,u⟩:=p
  rw[b] at h
  have h:(if n≤u.length then some (u.take n,u.drop n) else none)=some (a,t):=h
  split at h
  ·simp only[Option.some.injEq,Prod.mk.injEq] at h
   have e:=(yZ b).1
   have c:(u.take n).length=n:=by rw[eS];omega
   rw[e,←h.1,←h.2,LO,c,fh,nz]
  ·cases h
theorem Hy {l t:List UInt8} {b:Bool} {n:List UInt32} (h:gM l=some ((b,n,m),t)):l=oW b n m++t∧rv b n m=true∧4*(n.length+m.length)≤l.length:=by
 cases l with
 |nil=>cases h
 |cons c l=>
  by_cases j:1<c.toNat
  ·rw[OC j] at h;cases h
  ·cases f:jy l with
   |none=>rw[OD f] at h;cases h
   |some p=>
    obtain⟨i,u⟩:=p
    rw[HB j f] at h
    cases d:jy u with
    |none=>rw[d] at h;cases h
    |some q=>
     obtain⟨g,u'⟩:=q
     rw[d] at h
     have h:(if rv (decide (c.toNat=1)) i g=true then some ((decide (c.toNat=1),i,g),u') else none)=some ((b,n,m),t):=h
     split at h
     ·rename_i o
      simp only[Option.some.injEq,Prod.mk.injEq] at h
      obtain⟨⟨rfl,rfl,rfl⟩,rfl⟩:=h
      have k:c=ru (decide (c.toNat=1)):=by
       by_cases a:c.toNat=1
       ·rw[dH a,H6.1 a];rfl
       ·rw[bi a]
        exact UInt8.toNat_inj.1 (show c.toNat=(0:UInt8).toNat by rw[show(0:UInt8).toNat=0 from rfl];omega)
      have e:c::l=oW (decide (c.toNat=1)) i g++u':=by
       rw[oW,←k,(u4 f).1,(u4 d).1]
       simp
      refine⟨e,o,?_⟩
      rw[e]
      simp only[oW,mn,cr,tO]
      omega
     ·cases h
theorem OV {b:Bool} {n:List UInt32} (h:rv b n m=true):lb (val n)=n∧lb (val m)=m:=by
 obtain⟨_,d,a⟩:=ip h
 constructor
 ·obtain⟨x,c⟩:∃x,x=val n/Nat.gcd (val n) (val (ud m)):=⟨_,rfl⟩
  rw[←c] at d
  rw[d,cH]
 ·unfold jq at a
  split at a
  ·rw[a];rfl
  ·obtain⟨x,c⟩:∃x,x=val (ud m)/Nat.gcd (val n) (val (ud m)):=⟨_,rfl⟩
   rw[←c] at a
   rw[a,cH]
theorem Zs {b:Bool} {n:List UInt32} (h:rv b n m=true) (c:n.length<18446744073709551616) (hm:m.length<18446744073709551616) (t:List UInt8):gM (oW b n m++t)=some ((b,n,m),t):=by
 have hs:¬1<(ru b).toNat:=by cases b<;>decide
 have a:decide ((ru b).toNat=1)=b:=by cases b<;>decide
 have e:oW b n m++t=ru b::(mn n++(mn m++t)):=by simp[oW]
 rw[e,HB hs (Oz c (OV h).1 _),a,Oz hm (OV h).2]
 exact if_pos h
def qp (st:Option (List UInt8)):Prop:=∀l,st=some l→l.length≤549755813888
theorem qp.none:qp none:=λ_ h=>by cases h
theorem qp.of {st:Option (List UInt8)} {l t p:List UInt8} (h:qp st) (e:st=some l) (a:l=p++t):qp (some t):=λx b=>by
 cases b
 have:=h l e
 rw[a,cr] at this
 omega
theorem Kf {α:Type} {st:Option (List UInt8)} {f:List UInt8→Option α} {y:α} (h:st.bind f=some y):∃l,st=some l∧f l=some y:=by
 cases st with
 |none=>cases h
 |some l=>exact⟨l,rfl,h⟩
theorem qp.r {st:Option (List UInt8)} {q:Bool×List UInt32×List UInt32} {t:List UInt8} (h:qp st) (c:st.bind gM=some (q,t)):qp (some t):=by
 obtain⟨l,e,a⟩:=Kf c
 obtain⟨b,n,m⟩:=q
 exact h.of e (Hy a).1
theorem qp.b {st:Option (List UInt8)} {a t:List UInt8} (h:qp st) (c:st.bind rdB=some (a,t)):qp (some t):=by
 obtain⟨l,e,b⟩:=Kf c
 exact h.of e (Zm b)
def j7 (x:UInt32) (n:Nat):UInt32:=(x>>>UInt32.ofNat n)|||(x<<<UInt32.ofNat (32-n))
def kc:List UInt32:=[0x428a2f98,0x71374491,0xb5c0fbcf,0xe9b5dba5,0x3956c25b,0x59f111f1,0x923f82a4,0xab1c5ed5,0xd807aa98,0x12835b01,0x243185be,0x550c7dc3,0x72be5d74,0x80deb1fe,0x9bdc06a7,0xc19bf174,0xe49b69c1,0xefbe4786,0x0fc19dc6,0x240ca1cc,0x2de92c6f,0x4a7484aa,0x5cb0a9dc,0x76f988da,0x983e5152,0xa831c66d,0xb00327c8,0xbf597fc7,0xc6e00bf3,0xd5a79147,0x06ca6351,0x14292967,0x27b70a85,0x2e1b2138,0x4d2c6dfc,0x53380d13,0x650a7354,0x766a0abb,0x81c2c92e,0x92722c85,0xa2bfe8a1,0xa81a664b,0xc24b8b70,0xc76c51a3,0xd192e819,0xd6990624,0xf40e3585,0x106aa070,0x19a4c116,0x1e376c08,0x2748774c,0x34b0bcb5,0x391c0cb3,0x4ed8aa4a,0x5b9cca4f,0x682e6ff3,0x748f82ee,0x78a5636f,0x84c87814,0x8cc70208,0x90befffa,0xa4506ceb,0xbef9a3f7,0xc67178f2]
def iv:List UInt32:=[0x6a09e667,0xbb67ae85,0x3c6ef372,0xa54ff53a,0x510e527f,0x9b05688c,0x1f83d9ab,0x5be0cd19]
def uc (b:List UInt8) (t:Nat):UInt32:=((((b.getD (4*t) 0).toUInt32<<<UInt32.ofNat 24)|||((b.getD (4*t+1) 0).toUInt32<<<UInt32.ofNat 16))|||((b.getD (4*t+2) 0).toUInt32<<<UInt32.ofNat 8))|||(b.getD (4*t+3) 0).toUInt32
def yJ (l:List UInt32):UInt32:=
 let t:=l.length
 let x:=l.getD (t-15) 0
 let y:=l.getD (t-2) 0
 l.getD (t-16) 0+(j7 x 7^^^j7 x 18^^^x>>>UInt32.ofNat 3)+l.getD (t-7) 0+(j7 y 17^^^j7 y 19^^^y>>>UInt32.ofNat 10)
def qj (b:List UInt8) (k:Nat):List UInt32:=(List.range k).map (uc b)
def eZ (b:List UInt8):Nat→List UInt32
 |0=>qj b 16
 |k+1=>eZ b k++[yJ (eZ b k)]
theorem HM (b:List UInt8):∀k,(eZ b k).length=16+k
 |0=>by simp[eZ,qj]
 |k+1=>by simp[eZ,HM b k];omega
def t1 (s:List UInt32) (k w:UInt32):UInt32:=
 let e:=s.getD 4 0
 s.getD 7 0+(j7 e 6^^^j7 e 11^^^j7 e 25)+(e&&&s.getD 5 0^^^ ~~~e&&&s.getD 6 0)+k+w
def t2 (s:List UInt32):UInt32:=
 let a:=s.getD 0 0
 (j7 a 2^^^j7 a 13^^^j7 a 22)+(a&&&s.getD 1 0^^^a&&&s.getD 2 0^^^s.getD 1 0&&&s.getD 2 0)
def rnd (s:List UInt32) (k w:UInt32):List UInt32:=[t1 s k w+t2 s,s.getD 0 0,s.getD 1 0,s.getD 2 0,s.getD 3 0+t1 s k w,s.getD 4 0,s.getD 5 0,s.getD 6 0]
def nq (b:List UInt8) (s:List UInt32):Nat→List UInt32
 |0=>s
 |i+1=>rnd (nq b s i) (kc.getD i 0) ((eZ b 48).getD i 0)
theorem DI (b:List UInt8) (s:List UInt32) (hs:s.length=8):∀i,(nq b s i).length=8
 |0=>hs
 |_+1=>rfl
def yj (s:List UInt32) (b:List UInt8):List UInt32:=List.zipWith (· + ·) s (nq b s 64)
theorem VC (s:List UInt32) (b:List UInt8) (hs:s.length=8):(yj s b).length=8:=by
 simp[yj,hs,DI b s hs]
def u9 (m:List UInt8):Nat→List UInt32
 |0=>iv
 |k+1=>yj (u9 m k) ((m.drop (64*k)).take 64)
theorem O3 (m:List UInt8):∀k,(u9 m k).length=8
 |0=>rfl
 |k+1=>VC _ _ (O3 m k)
theorem HR (m x:List UInt8):∀k,64*k≤m.length→u9 (m++x) k=u9 m k
 |0,_=>rfl
 |k+1,h=>by
  have a:64*k≤m.length:=G
  have b:64≤(m.drop (64*k)).length:=dT
  rw[u9,u9,HR m x k a,Re a,Rf b]
def sh (m:List UInt8):List UInt32:=u9 m (m.length/64)
theorem O4 (m:List UInt8):(sh m).length=8:=O3 m _
theorem HU (p t:List UInt8) (a:p.length%64=0) (b:t.length<64):sh (p++t)=sh p:=by
 have:(p++t).length/64=p.length/64:=by simp only[cr];omega
 unfold sh
 rw[this,HR p t _ G]
theorem Z6 (p b:List UInt8) (e:p.length%64=0) (d:b.length=64):sh (p++b)=yj (sh p) b:=by
 have a:(p++b).length/64=p.length/64+1:=by simp only[cr];omega
 unfold sh
 rw[a,u9,HR p b _ G]
 have c:64*(p.length/64)=p.length:=G
 rw[c,List.drop_left,←d,fL]
def oa (x:UInt32):List UInt8:=[(x>>>UInt32.ofNat 24).toUInt8,(x>>>UInt32.ofNat 16).toUInt8,(x>>>UInt32.ofNat 8).toUInt8,x.toUInt8]
def qJ (n:UInt64):List UInt8:=(List.range 8).map λi=>(n>>>UInt64.ofNat (56-8*i)).toUInt8
def ph (n:Nat):Nat:=(119-n%64)%64
def mJ (m:List UInt8):List UInt8:=m++[128]++List.replicate (ph m.length) 0++qJ (UInt64.ofNat m.length*8)
def fT (m:List UInt8):List UInt8:=(sh (mJ m)).flatMap oa
abbrev df:=Bool×List UInt32×List UInt32
def bJ (n:Int):Dt:=.int .i64 n
def dK (q:df):Dt:=.st [.bool q.1,mj q.2.1,mj q.2.2]
structure cG where
 kd:Int
 fr:Int
 ou:Int
 kh:Int
 kw:Int
 sr:Int
 pd:Int
 ws:List df
 bs:List df
structure fj where
 inp:List Int
 lays:List cG
theorem cG.eq_iff {a b:cG}:a=b↔a.kd=b.kd∧a.fr=b.fr∧a.ou=b.ou∧a.kh=b.kh∧a.kw=b.kw∧a.sr=b.sr∧a.pd=b.pd∧a.ws=b.ws∧a.bs=b.bs:=by
 constructor
 ·rintro rfl;exact⟨rfl,rfl,rfl,rfl,rfl,rfl,rfl,rfl,rfl⟩
 ·rintro⟨c,d,e,f,g,h,i,j,k⟩
  cases a;cases b;simp_all
theorem fj.eq_iff {a b:fj}:a=b↔a.inp=b.inp∧a.lays=b.lays:=by
 constructor
 ·rintro rfl;exact⟨rfl,rfl⟩
 ·rintro⟨c,d⟩
  cases a;cases b;simp_all
instance:DecidableEq cG:=λ_ _=>decidable_of_iff _ cG.eq_iff.symm
instance:DecidableEq fj:=λ_ _=>decidable_of_iff _ fj.eq_iff.symm
def nb (l:List df):Dt:=.sl (l.map dK)
def gp (l:cG):Dt:=.st [bJ l.kd,bJ l.fr,bJ l.ou,bJ l.kh,bJ l.kw,bJ l.sr,bJ l.pd,nb l.ws,nb l.bs]
def sk (l:List Int):Dt:=.sl (l.map bJ)
def oS (m:fj):Dt:=.st [sk m.inp,.sl (m.lays.map gp)]
def j1 (n:Int):Prop:= -9223372036854775808≤n∧n≤9223372036854775807
def cG.ints (l:cG):List Int:=[l.kd,l.fr,l.ou,l.kh,l.kw,l.sr,l.pd]
def cG.wf (l:cG):Prop:=∀n∈l.ints,j1 n
def fj.wf (m:fj):Prop:=(∀n∈m.inp,j1 n)∧∀l∈m.lays,l.wf
def encI (n:Int):List UInt8:=uv (vm n)
def tJ (q:df):List UInt8:=oW q.1 q.2.1 q.2.2
def yr (l:List df):List UInt8:=uv l.length++l.flatMap tJ
def pz (l:cG):List UInt8:=l.ints.flatMap encI++yr l.ws++yr l.bs
def iT (m:fj):List UInt8:=uv m.inp.length++m.inp.flatMap encI++uv m.lays.length++m.lays.flatMap pz
def gR:List UInt8:=[82,76,85,77]
def jO (m:fj):List UInt8:=gR++iT m++fT (gR++iT m)
def fQ (l:List UInt8):Option (Int×List UInt8):=(eY l).map λp=>(uz p.1,p.2)
def gQ {α:Type} (f:List UInt8→Option (α×List UInt8)):Nat→List UInt8→Option (List α×List UInt8)
 |0,l=>some ([],l)
 |n+1,l=>(f l).bind λp=>(gQ f n p.2).map λq=>(p.1::q.1,q.2)
def lu {α:Type} (f:List UInt8→Option (α×List UInt8)) (l:List UInt8):Option (List α×List UInt8):=(eY l).bind λp=>gQ f p.1 p.2
def u5:List UInt8→Option (List df×List UInt8):=lu gM
def kK (l:List UInt8):Option (cG×List UInt8):=
 (fQ l).bind λa=>(fQ a.2).bind λb=>(fQ b.2).bind λc=>(fQ c.2).bind λd=>(fQ d.2).bind λe=>(fQ e.2).bind λf=>(fQ f.2).bind λg=>
   (u5 g.2).bind λx=>(u5 x.2).bind λy=>some (⟨a.1,b.1,c.1,d.1,e.1,f.1,g.1,x.1,y.1⟩,y.2)
def oD (l:List UInt8):Option (fj×List UInt8):=(lu fQ l).bind λa=>(lu kK a.2).bind λb=>some (⟨a.1,b.1⟩,b.2)
theorem uZ {n:Int} (h:j1 n) (t:List UInt8):fQ (encI n++t)=some (n,t):=by
 unfold fQ encI
 rw[HE (Qc h.1 h.2)]
 simp[aaw]
theorem Ow {α:Type} {f:List UInt8→Option (α×List UInt8)} {e:α→List UInt8}:∀(l:List α) (t:List UInt8),(∀x∈l,∀t,f (e x++t)=some (x,t))→gQ f l.length (l.flatMap e++t)=some (l,t)
 |[],t,_=>rfl
 |x::l,t,h=>by
  simp only[zr,fh,cw,gQ]
  rw[h x aj]
  simp only[iJ]
  rw[Ow l t λy a=>h y (by simp[a])]
  rfl
theorem Hw {α:Type} {f:List UInt8→Option (α×List UInt8)} {e:α→List UInt8} {l:List α} (a:l.length<18446744073709551616) (h:∀x∈l,∀t,f (e x++t)=some (x,t)) (t:List UInt8):lu f (uv l.length++l.flatMap e++t)=some (l,t):=by
 unfold lu
 rw[fh,HE a]
 exact Ow l t h
def A4 (q:df):Prop:=rv q.1 q.2.1 q.2.2=true∧q.2.1.length<18446744073709551616∧q.2.2.length<18446744073709551616
theorem Zr {q:df} (h:A4 q) (t:List UInt8):gM (tJ q++t)=some (q,t):=Zs h.1 h.2.1 h.2.2 t
theorem OA {l:List df} (a:l.length<18446744073709551616) (h:∀q∈l,A4 q) (t:List UInt8):u5 (yr l++t)=some (l,t):=Hw a (λq b=>Zr (h q b)) t
structure cG.ok (l:cG):Prop where
 wf:l.wf
 wl:l.ws.length<18446744073709551616
 bl:l.bs.length<18446744073709551616
 wq:∀q∈l.ws,A4 q
 bq:∀q∈l.bs,A4 q
theorem Zn {l:cG} (h:l.ok) (t:List UInt8):kK (pz l++t)=some (l,t):=by
 obtain⟨kd,fr,k,kh,kw,n,m,o,j⟩:=l
 have a:=h.wf
 simp only[cG.wf,cG.ints,lF,vw,xe,Gu,forall_eq] at a
 obtain⟨b,c,d,e,f,g,i⟩:=a
 simp only[pz,cG.ints,zr,List.flatMap_nil,jU,fh,kK]
 rw[uZ b];simp only[iJ]
 rw[uZ c];simp only[iJ]
 rw[uZ d];simp only[iJ]
 rw[uZ e];simp only[iJ]
 rw[uZ f];simp only[iJ]
 rw[uZ g];simp only[iJ]
 rw[uZ i];simp only[iJ]
 rw[OA h.wl h.wq];simp only[iJ]
 rw[OA h.bl h.bq];simp only[iJ]
structure fj.ok (m:fj):Prop where
 il:m.inp.length<18446744073709551616
 ll:m.lays.length<18446744073709551616
 iw:∀n∈m.inp,j1 n
 lo:∀l∈m.lays,l.ok
theorem Zo {m:fj} (h:m.ok) (t:List UInt8):oD (iT m++t)=some (m,t):=by
 obtain⟨inp,lays⟩:=m
 unfold oD iT
 have e:uv inp.length++inp.flatMap encI++uv lays.length++lays.flatMap pz++t=uv inp.length++inp.flatMap encI++(uv lays.length++lays.flatMap pz++t):=by simp only[fh]
 simp only[]
 rw[e,Hw h.il (λn b=>uZ (h.iw n b))]
 simp only[iJ]
 rw[Hw h.ll (λl a=>Zn (h.lo l a))]
 rfl
section
variable {w:World} {cs:List Value}
theorem el (n:Int):(bJ n).size=1:=rfl
theorem py (q:df):(dK q).size=3:=by simp[dK,Dt.size,Dt.bS,mj]
theorem Lx (l:List df):(nb l).size=1:=rfl
theorem tF (l:cG):(gp l).size=9:=by simp[gp,bJ,nb,Dt.size,Dt.bS]
theorem er {n:Int} (h:Rp w (bJ n) cs):cs=[I n]:=by simp only[bJ,Rp] at h;exact h
theorem Ge {l:List df} (h:Rp w (nb l) cs):∃v,cs=[v]∧aD dK l v w:=by
 obtain⟨v,rfl,h,_⟩:=Rp.isSlice h
 exact⟨v,H,h⟩
theorem su {q:df} (h:Rp w (dK q) cs):∃x y,cs=[B q.1,x,y]∧aO q.2.1 x w∧aO q.2.2 y w:=by
 simp only[dK,Rp,bG] at h
 obtain⟨_,_,rfl,rfl,_,_,rfl,a,_,_,rfl,b,rfl⟩:=h
 obtain⟨x,rfl,c,_⟩:=Rp.isSlice a
 obtain⟨y,rfl,d,_⟩:=Rp.isSlice b
 exact⟨x,y,H,Rp.bL.1 c,Rp.bL.1 d⟩
theorem VW {q:df} {x:Value} (a:aO q.2.1 x w) (b:aO q.2.2 y w):Rp w (dK q) [B q.1,x,y]:=by
 simp only[dK,Rp,bG]
 exact⟨_,_,H,H,_,_,H,Rp.bL.2 a,_,_,H,Rp.bL.2 b,H⟩
theorem wi {l:cG} (h:Rp w (gp l) cs):∃x y,cs=[I l.kd,I l.fr,I l.ou,I l.kh,I l.kw,I l.sr,I l.pd,x,y]∧aD dK l.ws x w∧aD dK l.bs y w:=by
 simp only[gp,bJ,Rp,bG] at h
 obtain⟨_,_,rfl,rfl,_,_,rfl,rfl,_,_,rfl,rfl,_,_,rfl,rfl,_,_,rfl,rfl,_,_,rfl,rfl,_,_,rfl,rfl,_,_,rfl,a,_,_,rfl,b,rfl⟩:=h
 obtain⟨x,rfl,c⟩:=Ge a
 obtain⟨y,rfl,d⟩:=Ge b
 exact⟨x,y,H,c,d⟩
theorem VP {l:cG} {x:Value} (a:aD dK l.ws x w) (b:aD dK l.bs y w):Rp w (gp l) [I l.kd,I l.fr,I l.ou,I l.kh,I l.kw,I l.sr,I l.pd,x,y]:=by
 simp only[gp,bJ,Rp,bG]
 exact⟨_,_,H,H,_,_,H,H,_,_,H,H,_,_,H,H,_,_,H,H,_,_,H,H,_,_,H,H,_,_,H,a,_,_,H,b,H⟩
theorem Ct {m:fj} (h:Rp w (oS m) cs):∃x y,cs=[x,y]∧aD bJ m.inp x w∧aD gp m.lays y w:=by
 simp only[oS,bG,Rp.eq_5] at h
 obtain⟨_,_,rfl,a,_,_,rfl,b,rfl⟩:=h
 obtain⟨x,rfl,c,_⟩:=Rp.isSlice a
 obtain⟨y,rfl,d,_⟩:=Rp.isSlice b
 exact⟨x,y,H,c,d⟩
theorem VT {m:fj} {x:Value} (a:aD bJ m.inp x w) (b:aD gp m.lays y w):Rp w (oS m) [x,y]:=by
 simp only[oS,bG,Rp.eq_5]
 exact⟨_,_,H,a,_,_,H,b,H⟩
def EB (l:cG) (v:Value) (w:World):Prop:=∃x y,v=.agg #[I l.kd,I l.fr,I l.ou,I l.kh,I l.kw,I l.sr,I l.pd,x,y]∧aD dK l.ws x w∧aD dK l.bs y w
def EO (m:fj) (v:Value) (w:World):Prop:=∃x y,v=.agg #[x,y]∧aD bJ m.inp x w∧aD gp m.lays y w
theorem EB.aL {l:cG} {v:Value} {w w':World} (h:EB l v w) (a:ao w w'):EB l v w':=by
 obtain⟨x,y,b,c,d⟩:=h
 exact⟨x,y,b,c.aL a,d.aL a⟩
theorem EO.aL {m:fj} {v:Value} {w w':World} (h:EO m v w) (a:ao w w'):EO m v w':=by
 obtain⟨x,y,b,c,d⟩:=h
 exact⟨x,y,b,c.aL a,d.aL a⟩
end
abbrev QV (x:Rat):cT:=bQ x.sg x.nl x.dl
def dQ (x:Rat):Dt:=.st [.bool x.sg,mj x.nl,mj x.dl]
structure cX where
 va:Int
 co:Rat
 deriving DecidableEq
structure bj where
 ts:List cX
 ct:Rat
 deriving DecidableEq
structure RwR where
 kd:Int
 ix:Int
 lo:Int
 hi:Int
 deriving DecidableEq
structure MuR where
 row:RwR
 co:Rat
 deriving DecidableEq
structure LmR where
 un:Int
 up:Bool
 va:Rat
 pf:List MuR
 deriving DecidableEq
structure DcR where
 kd:Int
 ix:Int
 at_:Rat
 deriving DecidableEq
structure gm where
 inp:Int
 us:List bj
 os:List bj
 deriving DecidableEq
structure RgR where
 lo:List Rat
 hi:List Rat
 rs:List bj
 deriving DecidableEq
structure QyR where
 g:gm
 r:RgR
 go:bj
 deriving DecidableEq
structure ScR where
 q:QyR
 pa:List DcR
 lm:List LmR
 deriving DecidableEq
def iD (a:cX):Dt:=.st [bJ a.va,dQ a.co]
def cy (a:bj):Dt:=.st [.sl (a.ts.map iD),dQ a.ct]
def dRw (a:RwR):Dt:=.st [bJ a.kd,bJ a.ix,bJ a.lo,bJ a.hi]
def dMu (a:MuR):Dt:=.st [dRw a.row,dQ a.co]
def dLm (a:LmR):Dt:=.st [bJ a.un,.bool a.up,dQ a.va,.sl (a.pf.map dMu)]
def dDc (a:DcR):Dt:=.st [bJ a.kd,bJ a.ix,dQ a.at_]
def iC (a:gm):Dt:=.st [bJ a.inp,.sl (a.us.map cy),.sl (a.os.map cy)]
def dRg (a:RgR):Dt:=.st [.sl (a.lo.map dQ),.sl (a.hi.map dQ),.sl (a.rs.map cy)]
def dQy (a:QyR):Dt:=.st [iC a.g,dRg a.r,cy a.go]
def dSc (a:ScR):Dt:=.st [dQy a.q,.sl (a.pa.map dDc),.sl (a.lm.map dLm)]
section
variable {w:World} {cs:List Value}
theorem HY {l:List Dt} (h:bG w l cs):Rp w (.st l) cs:=by rw[Rp];exact h
theorem wJ (n:Int):Rp w (bJ n) [I n]:=by rw[bJ,Rp];rfl
theorem y7 {α:Type} {f:α→Dt} {l:List α} (h:Rp w (.sl (l.map f)) cs):∃v,cs=[v]∧aD f l v w:=by
 obtain⟨v,rfl,h,_⟩:=Rp.isSlice h
 exact⟨v,H,h⟩
theorem od {a:Rat} (h:Rp w (dQ a) cs):∃x y,cs=[B a.sg,x,y]∧aO a.nl x w∧aO a.dl y w:=su (q:=(a.sg,a.nl,a.dl)) h
theorem lS {a:Rat} {x:Value} (b:aO a.nl x w) (c:aO a.dl y w):Rp w (dQ a) [B a.sg,x,y]:=VW (q:=(a.sg,a.nl,a.dl)) b c
def sn (l:List Rat):Dt:=.sl (l.map dQ)
theorem VU {l:List Rat} (h:Rp w (sn l) cs):∃v,cs=[v]∧aD dQ l v w:=y7 h
theorem QV.a3 (x:Rat):cN (QV x):=bQ.a3 _ _ _
theorem jh {a:cX} (h:Rp w (iD a) cs):∃x0 x1,cs=[I a.va,B a.co.sg,x0,x1]∧aO a.co.nl x0 w∧aO a.co.dl x1 w:=by
 simp only[iD,bG,Rp.eq_5] at h
 obtain⟨_,_,rfl,b,_,_,rfl,c,rfl⟩:=h
 obtain rfl:=er b
 obtain⟨x0,x1,rfl,k0,d⟩:=od c
 exact⟨x0,x1,H,k0,d⟩
theorem Lz {a:cX} (k0:aO a.co.nl x0 w) (b:aO a.co.dl x1 w):Rp w (iD a) [I a.va,B a.co.sg,x0,x1]:=
 HY (bG.a1 (a:=[I a.va]) (wJ _) (bG.a1 (a:=[B a.co.sg,x0,x1]) (lS k0 b) bG.nil))
theorem ey {a:bj} (h:Rp w (cy a) cs):∃x0 x1 b,cs=[x0,B a.ct.sg,x1,b]∧aD iD a.ts x0 w∧aO a.ct.nl x1 w∧aO a.ct.dl b w:=by
 simp only[cy,bG,Rp.eq_5] at h
 obtain⟨_,_,rfl,c,_,_,rfl,d,rfl⟩:=h
 obtain⟨x0,rfl,k0⟩:=y7 c
 obtain⟨x1,b,rfl,e,f⟩:=od d
 exact⟨x0,x1,b,H,k0,e,f⟩
theorem eX {a:bj} {b:Value} (k0:aD iD a.ts x0 w) (c:aO a.ct.nl x1 w) (d:aO a.ct.dl b w):Rp w (cy a) [x0,B a.ct.sg,x1,b]:=
 HY (bG.a1 (a:=[x0]) k0 (bG.a1 (a:=[B a.ct.sg,x1,b]) (lS c d) bG.nil))
theorem jX {a:gm} (h:Rp w (iC a) cs):∃x0 x1,cs=[I a.inp,x0,x1]∧aD cy a.us x0 w∧aD cy a.os x1 w:=by
 simp only[iC,bG,Rp.eq_5] at h
 obtain⟨_,_,rfl,b,_,_,rfl,c,_,_,rfl,d,rfl⟩:=h
 obtain rfl:=er b
 obtain⟨x0,rfl,k0⟩:=y7 c
 obtain⟨x1,rfl,e⟩:=y7 d
 exact⟨x0,x1,H,k0,e⟩
theorem jK {a:gm} (k0:aD cy a.us x0 w) (b:aD cy a.os x1 w):Rp w (iC a) [I a.inp,x0,x1]:=
 HY (bG.a1 (a:=[I a.inp]) (wJ _) (bG.a1 (a:=[x0]) k0 (bG.a1 (a:=[x1]) b bG.nil)))
end
theorem px (a:Rat):(dQ a).size=3:=rfl
theorem nc (a:cX):(iD a).size=4:=rfl
theorem gD (a:bj):(cy a).size=4:=rfl
theorem yM {α:Type} {f:α→Dt} {l:List α} (c:∀a,fe p (f a)) (b:∀a r,pk p (jv (f a)++r)):fe p (.sl (l.map f)):=by
 simp only[fe]
 refine⟨λd=>?_,eF.of λa _=>c a⟩
 cases l with
 |nil=>exact absurd rfl d
 |cons a l=>exact b a _
theorem NC (h:1∉p) (l:List UInt32):fe p (mj l):=yM (f:=nf) (λ_=>by simp only[nf,fe]) λ_ _=>pk.not h _
theorem wZ (h:1∉p) (x:Rat):fe p (dQ x):=by
 simp only[dQ,fe,eF]
 exact⟨trivial,NC h _,NC h _,trivial⟩
theorem Db {l:List Dt} (h:eF p l):fe p (.st l):=by rw[fe];exact h
theorem rj (n:Int):fe p (bJ n):=by simp only[bJ,fe]
theorem nM {d:Dt} {l:List Dt} (h:fe p d) (k:eF p l):eF p (d::l):=by simp only[eF];exact⟨h,k⟩
theorem Da:eF p []:=by simp only[eF]
theorem WM:(Tryz.prog.info? 49).map (λi=>(i.zero,i.size,i.bytes))=some (some (.agg #[B false,.slice none 0 0,.slice none 0 0]),[0,3,3].length,56):=by kernel_rfl
theorem Gx:(Tryz.prog.info? 49).map (λi=>(i.zero,i.size))=some (some (.agg #[B false,.slice none 0 0,.slice none 0 0]),[0,3,3].length):=by kernel_rfl
abbrev jG (base:Nat) (l:List Rat):cT:=bC 49 [0,3,3] base dQ l
theorem wY (a:Rat):fe [0,3,3] (dQ a):=(wZ aF _)
theorem xf {base:Nat} {l m:List Rat} {x:Value} (h:jG base l v w) (b:aD dQ m x w) (c:l.length+m.length≤1099511627776) (a:base≤w.heap.size):
 ∃r w1,(Builtin.append_ #[42,42] ty #[v,x]).run Tryz.prog w=.ok r w1∧jG base (l++m) r w1∧d9 w w1 v r:=
 bC.c4 cn WM rfl rfl aF G (λ_=>rfl) wY h b G a
theorem sK {a:Rat} {c:List Value} (h:Rp w (dQ a) c):∃r w',(Instr.buildSlice 42 1 #[(0,.agg c.toArray)]).run Tryz.prog w=.ok r w'∧ao w w'∧aD dQ [a] r w':=
 Dp cn Gx rfl aF (λ_=>rfl) aF h
theorem jG.bY {base:Nat} {l:List Rat} (h:jG base l v w):aD dQ l v w:=h.ds (λ_=>rfl) aF
theorem WN:(Tryz.prog.info? 189).map (λi=>(i.zero,i.size,i.bytes))=some (some (.agg #[I 0,B false,.slice none 0 0,.slice none 0 0]),[2,0,3,3].length,64):=by kernel_rfl
theorem WI:(Tryz.prog.info? 189).map (λi=>(i.zero,i.size))=some (some (.agg #[I 0,B false,.slice none 0 0,.slice none 0 0]),[2,0,3,3].length):=by kernel_rfl
abbrev um (base:Nat) (l:List cX):cT:=bC 189 [2,0,3,3] base iD l
theorem pS (a:cX):fe [2,0,3,3] (iD a):=(Db (nM (rj _) (nM (wZ aF _) Da)))
theorem Yl {base:Nat} {l m:List cX} {x:Value} (h:um base l v w) (b:aD iD m x w) (c:l.length+m.length≤1099511627776) (a:base≤w.heap.size):
 ∃r w1,(Builtin.append_ #[45,45] ty #[v,x]).run Tryz.prog w=.ok r w1∧um base (l++m) r w1∧d9 w w1 v r:=
 bC.c4 eo WN rfl rfl aF G (λ_=>rfl) pS h b G a
theorem M8 {a:cX} {c:List Value} (h:Rp w (iD a) c):∃r w',(Instr.buildSlice 45 1 #[(0,.agg c.toArray)]).run Tryz.prog w=.ok r w'∧ao w w'∧aD iD [a] r w':=
 Dp eo WI rfl aF (λ_=>rfl) aF h
theorem um.bY {base:Nat} {l:List cX} (h:um base l v w):aD iD l v w:=h.ds (λ_=>rfl) aF
theorem WJ:(Tryz.prog.info? 51).map (λi=>(i.zero,i.size,i.bytes))=some (some (.agg #[.slice none 0 0,B false,.slice none 0 0,.slice none 0 0]),[3,0,3,3].length,80):=by kernel_rfl
theorem MC:(Tryz.prog.info? 51).map (λi=>(i.zero,i.size))=some (some (.agg #[.slice none 0 0,B false,.slice none 0 0,.slice none 0 0]),[3,0,3,3].length):=by kernel_rfl
abbrev gG (base:Nat) (l:List bj):cT:=bC 51 [3,0,3,3] base cy l
theorem pR (a:bj):fe [3,0,3,3] (cy a):=(Db (nM (yM (λ_=>(Db (nM (rj _) (nM (wZ aF _) Da)))) (λ_ _=>pk.not aF _)) (nM (wZ aF _) Da)))
theorem sR {base:Nat} {l m:List bj} {x:Value} (h:gG base l v w) (b:aD cy m x w) (c:l.length+m.length≤1099511627776) (a:base≤w.heap.size):
 ∃r w1,(Builtin.append_ #[34,34] ty #[v,x]).run Tryz.prog w=.ok r w1∧gG base (l++m) r w1∧d9 w w1 v r:=
 bC.c4 cO WJ rfl rfl aF G (λ_=>rfl) pR h b G a
theorem uI {a:bj} {c:List Value} (h:Rp w (cy a) c):∃r w',(Instr.buildSlice 34 1 #[(0,.agg c.toArray)]).run Tryz.prog w=.ok r w'∧ao w w'∧aD cy [a] r w':=
 Dp cO MC rfl aF (λ_=>rfl) aF h
theorem gG.bY {base:Nat} {l:List bj} (h:gG base l v w):aD cy l v w:=h.ds (λ_=>rfl) aF
inductive Sh where
 |c (k:Nat)
 |sl (s:Sh)
 |st (l:List Sh)
mutual
def Sh.ci:Sh→List Nat
 |.c k=>[k]
 |.sl _=>[3]
 |.st l=>Sh.c2 l
def Sh.c2:List Sh→List Nat
 |[]=>[]
 |s::l=>s.ci++Sh.c2 l
end
mutual
def de:Sh→Dt→Prop
 |.c k,.int i _=>pc i=k
 |.c k,.bool _=>0=k
 |.c k,.str _=>4=k
 |.sl s,.sl l=>∀d∈l,de s d
 |.st ss,.st l=>gS ss l
 |_,_=>False
def gS:List Sh→List Dt→Prop
 |[],[]=>True
 |s::ss,d::l=>de s d∧gS ss l
 |_,_=>False
end
def F8 (p ks:List Nat):Bool:=(List.range p.length).all λo=>(List.range ks.length).any λj=>match ks[j]? with
 |some k=>decide (p[(o+j)%p.length]? ≠some k)
 |none=>false
mutual
def gP (p:List Nat):Sh→Bool
 |.c _=>true
 |.sl s=>F8 p s.ci&&gP p s
 |.st l=>C9 p l
def C9 (p:List Nat):List Sh→Bool
 |[]=>true
 |s::l=>gP p s&&C9 p l
end
mutual
theorem de.ci:∀{s:Sh} {d:Dt},de s d→jv d=s.ci
 |.c k,.int i n,h=>by simp only[de] at h;rw[jv,Sh.ci,h]
 |.c k,.bool b,h=>by simp only[de] at h;rw[jv,Sh.ci,h]
 |.c k,.str l,h=>by simp only[de] at h;rw[jv,Sh.ci,h]
 |.sl s,.sl l,_=>by rw[jv,Sh.ci]
 |.st ss,.st l,h=>by simp only[de] at h;rw[jv,Sh.ci];exact gS.ci h
 |.c k,.sl l,h=>by simp only[de] at h
 |.c k,.st l,h=>by simp only[de] at h
 |.sl s,.int i n,h=>by simp only[de] at h
 |.sl s,.bool b,h=>by simp only[de] at h
 |.sl s,.str l,h=>by simp only[de] at h
 |.sl s,.st l,h=>by simp only[de] at h
 |.st ss,.int i n,h=>by simp only[de] at h
 |.st ss,.bool b,h=>by simp only[de] at h
 |.st ss,.str l,h=>by simp only[de] at h
 |.st ss,.sl l,h=>by simp only[de] at h
theorem gS.ci:∀{ss:List Sh} {l:List Dt},gS ss l→pb l=Sh.c2 ss
 |[],[],_=>by rw[pb,Sh.c2]
 |s::ss,d::l,h=>by simp only[gS] at h;rw[pb,Sh.c2,de.ci h.1,gS.ci h.2]
 |[],d::l,h=>by simp only[gS] at h
 |s::ss,[],h=>by simp only[gS] at h
end
theorem Vw {r:List Nat} (h:F8 p ks=true) (d:0<p.length):pk p (ks++r):=λo=>by
 unfold F8 at h
 rw[kR] at h
 have c:=h (o%p.length) (jD.2 (jV _ d))
 rw[zp] at c
 obtain⟨j,a,b⟩:=c
 have a:=jD.1 a
 refine⟨j,ks[j],by rw[vu a];simp[a],?_⟩
 rw[fy a] at b
 simp only[gI] at b
 rwa [Nat.mod_add_mod] at b
mutual
theorem de.off {p:List Nat} (a:0<p.length):∀{s:Sh} {d:Dt},gP p s=true→de s d→fe p d
 |.c k,.int i n,_,_=>by simp only[fe]
 |.c k,.bool b,_,_=>by simp only[fe]
 |.c k,.str l,_,_=>by simp only[fe]
 |.sl s,.sl l,ho,h=>by
  simp only[gP,ex] at ho
  simp only[de] at h
  simp only[fe]
  refine⟨λe=>?_,?_⟩
  ·cases l with
   |nil=>exact absurd rfl e
   |cons d l=>rw[pb,de.ci (h d aj)];exact Vw ho.1 a
  ·have:eF p (l.map id):=eF.of λd c=>de.off a ho.2 (h d c)
   rwa [List.map_id] at this
 |.st ss,.st l,ho,h=>by
  simp only[gP] at ho
  simp only[de] at h
  simp only[fe]
  exact gS.off a ho h
 |.c k,.sl l,_,h=>by simp only[de] at h
 |.c k,.st l,_,h=>by simp only[de] at h
 |.sl s,.int i n,_,h=>by simp only[de] at h
 |.sl s,.bool b,_,h=>by simp only[de] at h
 |.sl s,.str l,_,h=>by simp only[de] at h
 |.sl s,.st l,_,h=>by simp only[de] at h
 |.st ss,.int i n,_,h=>by simp only[de] at h
 |.st ss,.bool b,_,h=>by simp only[de] at h
 |.st ss,.str l,_,h=>by simp only[de] at h
 |.st ss,.sl l,_,h=>by simp only[de] at h
theorem gS.off {p:List Nat} (a:0<p.length):∀{ss:List Sh} {l:List Dt},C9 p ss=true→gS ss l→eF p l
 |[],[],_,_=>by simp only[eF]
 |s::ss,d::l,ho,h=>by
  simp only[C9,ex] at ho
  simp only[gS] at h
  simp only[eF]
  exact⟨de.off a ho.1 h.1,gS.off a ho.2 h.2⟩
 |[],d::l,_,h=>by simp only[gS] at h
 |s::ss,[],_,h=>by simp only[gS] at h
end
class eO {α:Type} (f:α→Dt) where
 sh:Sh
 ok:∀a,de sh (f a)
structure Kq (p:List Nat) (w w':World):Prop where
 pos:0<p.length
 keep:∀(d:Dt) (cs:List Value),fe p d→Rp w d cs→Rp w' d cs
section
variable {α:Type} {f:α→Dt} {l:List α} {v:Value} {w w':World} {p:List Nat} {g:Nat} {T:TypeId} {cs:List Value}
theorem Kq.of (e:bm g T cs w) (a:cs.map kd=p) (b:0<p.length) (i:w.grownBy w' (some g)):Kq p w w':=by
 refine⟨b,λd ds f h=>?_⟩
 have c:=fe.rp e (Kn.one a) f (Rp.x h)
 have hm:Mv (λk=>w.heap.size≤k∨k=g) w w':=Mv.a7 i λk a _=>.inr (cC a).symm
 exact(ck.mv (Y:=λ_=>False) hm (λ_ h=>h.elim) c).rp
theorem dj:([]:List Value).map kd=[]:=rfl
theorem aS (h:kd v=k) (a:vs.map kd=ks):(v::vs).map kd=k::ks:=by rw[iy,h,a]
theorem aO.kd {l:List UInt32} (h:aO l v w):Go.Rl.kd v=3:=by obtain⟨_,_,_,rfl⟩:=h.a9;rfl
theorem aD.kd (h:aD f l v w):Go.Rl.kd v=3:=by obtain⟨_,_,_,rfl⟩:=h.a9;rfl
theorem aD.kq [s:eO f] (h:aD f l v w) (m:Kq p w w') (c:gP p (.sl s.sh)=true:=by decide):aD f l v w':=
 m.keep _ _ (de.off m.pos c (by
  simp only[de]
  intro d b
  obtain⟨a,_,rfl⟩:=fF.1 b
  exact s.ok a)) h
theorem aO.kq {l:List UInt32} (h:aO l v w) (m:Kq p w w') (c:gP p (.sl (.c 1))=true:=by decide):aO l v w':=
 Rp.bL.1 (m.keep _ _ (de.off (s:=.sl (.c 1)) m.pos c (by
  unfold mj
  simp only[de]
  intro d b
  obtain⟨a,_,rfl⟩:=fF.1 b
  simp only[nf,de,pc])) (Rp.bL.2 h))
end
instance:eO nf:=⟨.c 1,λ_=>by simp only[nf,de,pc]⟩
instance:eO bJ:=⟨.c 2,λ_=>by simp only[bJ,de,pc]⟩
theorem kX {α:Type} {f:α→Dt} [s:eO f] (l:List α):de (.sl s.sh) (.sl (l.map f)):=by
 simp only[de]
 intro d b
 obtain⟨a,_,rfl⟩:=fF.1 b
 exact s.ok a
instance:eO dQ:=⟨.st [.c 0,.sl (.c 1),.sl (.c 1)],λa=>by
 simp only[dQ,de,gS]
 exact⟨trivial,kX (f:=nf) _,kX (f:=nf) _,trivial⟩⟩
instance:eO iD:=⟨.st [.c 2,.st [.c 0,.sl (.c 1),.sl (.c 1)]],λa=>by
 simp only[iD,bJ,de,gS,pc]
 exact⟨trivial,eO.ok (f:=dQ) _,trivial⟩⟩
instance:eO cy:=⟨.st [.sl (.st [.c 2,.st [.c 0,.sl (.c 1),.sl (.c 1)]]),.st [.c 0,.sl (.c 1),.sl (.c 1)]],λa=>by
 simp only[cy,de,gS]
 exact⟨kX (f:=iD) _,eO.ok (f:=dQ) _,trivial⟩⟩
instance:eO dRw:=⟨.st [.c 2,.c 2,.c 2,.c 2],λa=>by
 simp only[dRw,bJ,de,gS,pc]
 exact⟨trivial,trivial,trivial,trivial,trivial⟩⟩
instance:eO dMu:=⟨.st [.st [.c 2,.c 2,.c 2,.c 2],.st [.c 0,.sl (.c 1),.sl (.c 1)]],λa=>by
 simp only[dMu,de,gS]
 exact⟨eO.ok (f:=dRw) _,eO.ok (f:=dQ) _,trivial⟩⟩
instance:eO dLm:=⟨.st [.c 2,.c 0,.st [.c 0,.sl (.c 1),.sl (.c 1)],.sl (.st [.st [.c 2,.c 2,.c 2,.c 2],.st [.c 0,.sl (.c 1),.sl (.c 1)]])],λa=>by
 simp only[dLm,bJ,de,gS,pc]
 exact⟨trivial,trivial,eO.ok (f:=dQ) _,kX (f:=dMu) _,trivial⟩⟩
instance:eO dDc:=⟨.st [.c 2,.c 2,.st [.c 0,.sl (.c 1),.sl (.c 1)]],λa=>by
 simp only[dDc,bJ,de,gS,pc]
 exact⟨trivial,trivial,eO.ok (f:=dQ) _,trivial⟩⟩
instance:eO iC:=⟨.st [.c 2,.sl (.st [.sl (.st [.c 2,.st [.c 0,.sl (.c 1),.sl (.c 1)]]),.st [.c 0,.sl (.c 1),.sl (.c 1)]]),.sl (.st [.sl (.st [.c 2,.st [.c 0,.sl (.c 1),.sl (.c 1)]]),.st [.c 0,.sl (.c 1),.sl (.c 1)]])],λa=>by
 simp only[iC,bJ,de,gS,pc]
 exact⟨trivial,kX (f:=cy) _,kX (f:=cy) _,trivial⟩⟩
instance:eO dRg:=⟨.st [.sl (.st [.c 0,.sl (.c 1),.sl (.c 1)]),.sl (.st [.c 0,.sl (.c 1),.sl (.c 1)]),.sl (.st [.sl (.st [.c 2,.st [.c 0,.sl (.c 1),.sl (.c 1)]]),.st [.c 0,.sl (.c 1),.sl (.c 1)]])],λa=>by
 simp only[dRg,de,gS]
 exact⟨kX (f:=dQ) _,kX (f:=dQ) _,kX (f:=cy) _,trivial⟩⟩
instance:eO dQy:=⟨.st [.st [.c 2,.sl (.st [.sl (.st [.c 2,.st [.c 0,.sl (.c 1),.sl (.c 1)]]),.st [.c 0,.sl (.c 1),.sl (.c 1)]]),.sl (.st [.sl (.st [.c 2,.st [.c 0,.sl (.c 1),.sl (.c 1)]]),.st [.c 0,.sl (.c 1),.sl (.c 1)]])],.st [.sl (.st [.c 0,.sl (.c 1),.sl (.c 1)]),.sl (.st [.c 0,.sl (.c 1),.sl (.c 1)]),.sl (.st [.sl (.st [.c 2,.st [.c 0,.sl (.c 1),.sl (.c 1)]]),.st [.c 0,.sl (.c 1),.sl (.c 1)]])],.st [.sl (.st [.c 2,.st [.c 0,.sl (.c 1),.sl (.c 1)]]),.st [.c 0,.sl (.c 1),.sl (.c 1)]]],λa=>by
 simp only[dQy,de,gS]
 exact⟨eO.ok (f:=iC) _,eO.ok (f:=dRg) _,eO.ok (f:=cy) _,trivial⟩⟩
instance:eO dSc:=⟨.st [.st [.st [.c 2,.sl (.st [.sl (.st [.c 2,.st [.c 0,.sl (.c 1),.sl (.c 1)]]),.st [.c 0,.sl (.c 1),.sl (.c 1)]]),.sl (.st [.sl (.st [.c 2,.st [.c 0,.sl (.c 1),.sl (.c 1)]]),.st [.c 0,.sl (.c 1),.sl (.c 1)]])],.st [.sl (.st [.c 0,.sl (.c 1),.sl (.c 1)]),.sl (.st [.c 0,.sl (.c 1),.sl (.c 1)]),.sl (.st [.sl (.st [.c 2,.st [.c 0,.sl (.c 1),.sl (.c 1)]]),.st [.c 0,.sl (.c 1),.sl (.c 1)]])],.st [.sl (.st [.c 2,.st [.c 0,.sl (.c 1),.sl (.c 1)]]),.st [.c 0,.sl (.c 1),.sl (.c 1)]]],.sl (.st [.c 2,.c 2,.st [.c 0,.sl (.c 1),.sl (.c 1)]]),.sl (.st [.c 2,.c 0,.st [.c 0,.sl (.c 1),.sl (.c 1)],.sl (.st [.st [.c 2,.c 2,.c 2,.c 2],.st [.c 0,.sl (.c 1),.sl (.c 1)]])])],λa=>by
 simp only[dSc,de,gS]
 exact⟨eO.ok (f:=dQy) _,kX (f:=dDc) _,kX (f:=dLm) _,trivial⟩⟩
section
variable {α:Type} {f:α→Dt} {l:List α} {v:Value} {w w':World} {e T:TypeId} {p:List Nat} {base:Nat}
theorem bC.ge (h:bC e p base f l v w):∀k,v.ownBlock=some k→base≤k:=λk a=>(h.lt k a).1
theorem bC.kd (h:bC e p base f l v w):Go.Rl.kd v=3:=by obtain⟨_,_,_,rfl⟩:=h.a9;rfl
theorem bC.b3 (h:bC e p base f l v w) (i:d9 w w' v u) (b:0<p.length):Kq p w w':=by
 refine⟨b,λd cs m n=>?_⟩
 have a:=h.off (d:=[d]) (cs:=cs) (X:=λk=>w.heap.size≤k) (by simp only[eF];exact⟨m,trivial⟩) (by simpa using cB.a1 (Rp.x n) cB.nil)
 have c:ck (λk=>w.heap.size≤k∨v.ownBlock=some k) w d cs:=by
  simp only[cB] at a
  obtain⟨o,q,rfl,g,rfl⟩:=a
  simpa using g
 exact(ck.mv (Y:=λ_=>False) (Mv.a7 i.grown λk j _=>.inr j) (λ_ h=>h.elim) c).rp
theorem cQ (a:bm g T cs w) (h:bC e p base f l v w) (d:T≠e:=by decide):some g≠v.ownBlock:=λb=>by
 obtain⟨⟨n,xs,⟨_,c|⟨g',j,cur,rfl,_,i,_⟩⟩,_⟩,_⟩:=h
 ·rw[c.1] at b;simp[Value.ownBlock] at b
 ·obtain rfl:g=g':=by simpa [Value.ownBlock] using b
  unfold bm at a
  rw[i] at a
  injection a with a
  injection a with _ a
  exact d a.symm
theorem Di (h:bC e p base f l v w) (b:w.heap.size≤g):some g≠v.ownBlock:=λa=>by
 have:=(h.lt g a.symm).2
 omega
theorem bC.st [s:eO f] {q:List Nat} (G:∀a,fe p (f a)) (h:bC e p base f l v w) (m:Kq q w w') (t:w.grownBy w' (some g)) (r:v.ownBlock≠some g) (F:gP q s.sh=true):bC e p base f l v w':=by
 obtain⟨⟨n,xs,i,z⟩,A⟩:=h
 have j:w'.ownsRow base e p.length v n xs:=World.ownsRow.kept i t (.inr r)
 have b:vt p v w':=λk cur ty fr b D=>A k cur ty fr b (by
  rw[←t.block k (World.ownsRow.lt i k b).2 (λe=>r (b.ai e))];exact D)
 have C:∀{l:List α} {xs:List Value},bG w (l.map f) xs→bG w' (l.map f) xs:=by
  intro l
  induction l with
  |nil=>intro xs h;simpa only[nW,bG] using h
  |cons a l J=>
   intro xs h
   simp only[iy,bG] at h⊢
   obtain⟨u,x,y,c,d⟩:=h
   exact⟨u,x,y,m.keep _ _ (de.off m.pos F (s.ok a)) c,J d⟩
 have c:=bG.x (C z.rp)
 refine⟨⟨n,xs,j,?_⟩,b⟩
 rcases j.2 with d|⟨g',K,cur,rfl,_,o,_⟩
 ·rw[d.1]
  exact c.bd λk b=>b.elim (λh=>h.elim) λh=>by simp[Value.ownBlock] at h
 ·refine(eF.rp o (b g' cur _ _ H o) (eF.of λa _=>G a) c).bd λk b=>.inl ?_
  exact b.elim (λh=>h.elim) λh=>.inr (by simpa [Value.ownBlock] using h.symm)
theorem d9.st (h:d9 w w1 v u) (q:w1.grownBy w2 (some g)) (b:w.heap.size≤g):d9 w w2 v u:=
 ⟨⟨q.os.ai h.grown.os,q.tape.ai h.grown.tape,q.output.ai h.grown.output,cf h.grown.size q.size,λi hi a=>(q.block i (eT hi h.grown.size) (λe=>by have:=cC e;omega)).ai (h.grown.block i hi a)⟩,h.own⟩
theorem d9.one (h:ao w w1) (q:w1.grownBy w2 (some g)) (a:w.heap.size≤g):d9 w w2 v v:=(d9.a8 h (.inl rfl)).st q a
theorem bm.fA {t:TypeId} {m:List Value} (h:bm g T cs w) (c:o+m.length≤cs.length) (hi:(P.info? t).map (·.size)=some m.length) (b:ay m) (d:cs.take o++m++cs.drop (o+m.length)=cs'):
 ∃w',(Instr.storeAt t (.pointer (some ⟨g,o,none⟩)) (.agg m.toArray)).run P w=.ok () w'∧w.grownBy w' (some g)∧bm g T cs' w':=by
 have a:w.heap[g]? =some (.cells cs.toArray T (0,0)):=h
 have e:=run_storeCells_at (P:=P) g o T m 0 cs.toArray w a (by simpa using c) b
 subst d
 refine⟨_,?_,pD w g _,h.row _⟩
 simp only[Instr.storeAt,Instr.sureAddr,storeVar,Sem.run_bind,Sem.run_pure,Result.andThen_ok,pY hi]
 rw[if_neg (by simp[Value.cells])]
 simpa [Value.cells] using e
theorem Cc {t:TypeId} (m:P.underlying t=some (.slice e)) (hi:(P.info? e).map (λi=>(i.zero,i.size))=some (some z,p.length)):
 ∃r w1,(Instr.buildSlice t 0 #[]).run P w=.ok r w1∧ao w w1∧bC e p w.heap.size f ([]:List α) r w1:=by
 obtain⟨i,d,b⟩:=gU.1 hi
 simp only[Prod.mk.injEq] at b
 obtain⟨n,hs⟩:=b
 have h:(typeInfo e).run P w=.ok i w:=by simp[typeInfo,d]
 have l:(sizeOf e).run P w=.ok p.length w:=by simp[sizeOf,h,hs]
 refine⟨.slice (some ⟨w.heap.size,0,none⟩) 0 0,w.alloc (.cells #[] e),?_,ao.new w _,⟨⟨0,[],⟨aj,.inr ⟨_,0,#[],H,bV _,heap_alloc_new _ _,bV _,pq _,aj,aj⟩⟩,cB.nil⟩,λg cur ty fr c a=>?_⟩⟩
 ·have j:¬(0*p.length>2^24):=G
  simp only[Instr.buildSlice,Sem.run_bind,run_underlying m,Result.andThen_ok,l,if_neg j]
  rw[if_pos aj]
  have k:Array.map (λ_:Nat=>(default:Value)) (Array.range 0)= #[]:=Array.eq_empty_of_size_eq_zero aj
  simp[Instr.fill,newRow,k]
 ·obtain rfl:w.heap.size=g:=by simpa [Value.ownBlock] using c
  rw[heap_alloc_new w] at a
  injection a with a
  injection a with a
  subst a
  exact Kn.nil _
theorem ez.b7 {t:TypeId} {d:TypeDesc} {ms:List Value} (h:ez w ad cs) (hm:∀j v,ms[j]? =some v→cs[o+j]? =some v) (b:P.underlying t=some d) (a:d.isRow=true) (e:(P.info? t).map (·.size)=some ms.length):(Instr.loadAt t (.pointer (some (ad.add o)))).run P w=.ok (.agg ms.toArray) w:=
 ez.ld (ad:=ad.add o) (λj u c=>by rw[Fy];exact h (o+j) u (hm j u c)) b a e
theorem uS {t e:TypeId} (o:P.underlying t=some (.slice e)) (q:(P.info? e).map (·.size)=some sz) (hs:∀x,(f x).size=sz) (b:0<sz) (h:aD f l v w) {lo:Nat} (c:lo≤l.length):
 ∃v',(∀w':World,(Instr.sliceAt t v (some (I (lo:Int))) none none).run P w'=.ok v' w')∧aD f (l.drop lo) v' w:=by
 have hm:∀(m:List α),∀d∈m.map f,d.size=sz:=λm d n=>by obtain⟨a,_,rfl⟩:=fF.1 n;exact hs a
 obtain⟨xs,i,g⟩:=Rp.c5 (sz:=sz) (l:=l.map f) h (hm l)
 have p:xs.length=l.length*sz:=by rw[g.len,oH (sz:=sz) (hm l),dN]
 obtain⟨v',j,k⟩:=Hs (P:=P) o q i (lo:=lo) (by rw[p];exact fH _ c) b .i64
 refine⟨v',j,Rp.cc (l:=(l.drop lo).map f) k ?_ (hm _) b⟩
 rw[xK]
 exact(bG.split lo g (hm l) (by simpa using c)).2
theorem N1 {t e:TypeId} (o:P.underlying t=some (.slice e)) (q:(P.info? e).map (·.size)=some sz) (hs:∀x,(f x).size=sz) (b:0<sz) (h:aD f l v w) {hi:Nat} (c:hi≤l.length):
 ∃v',(∀w':World,(Instr.sliceAt t v none (some (I (hi:Int))) none).run P w'=.ok v' w')∧aD f (l.take hi) v' w:=by
 have hm:∀(m:List α),∀d∈m.map f,d.size=sz:=λm d n=>by obtain⟨a,_,rfl⟩:=fF.1 n;exact hs a
 obtain⟨xs,i,g⟩:=Rp.c5 (sz:=sz) (l:=l.map f) h (hm l)
 have p:xs.length=l.length*sz:=by rw[g.len,oH (sz:=sz) (hm l),dN]
 obtain⟨v',j,k⟩:=Hr (P:=P) o q i (hi:=hi) (by rw[p];exact fH _ c) b .i64
 refine⟨v',j,Rp.cc (l:=(l.take hi).map f) k ?_ (hm _) b⟩
 rw[xL]
 exact(bG.split hi g (hm l) (by simpa using c)).1
end
section
variable {P:Program} {ops:Array Oper} {Q:eV} {N:Nat} {D:List Deferred} {l:Fr} {w:World} {rest:List Oper} {d:Nat} {ty:TypeId} {pos:String} {aft:Array Edge}
theorem T {id:Nat} {os:List Oper} {y:Code} (h:bK P os.toArray (Exit.then (y.wp P Q) Q) N D l w os):dS P Q N D l w (.seq (.region id os.toArray false) y):=ah (ap h)
abbrev ar:=@T
theorem O {y:Code} {Q':eV} (h:dS P Q N D l w y):bK P ops (Exit.then (y.wp P Q) Q') N D l w []:=f (al h)
theorem bB {id:Nat} {os:List Oper} {y:Code} {Q':eV} (h:bK P os.toArray (Exit.then (y.wp P Q) Q) N D l w os):bK P ops (Exit.then ((Code.seq (.region id os.toArray false) y).wp P Q) Q') N D l w []:=f (al (ah (ap h)))
theorem cM {t:TypeId} (h:(P.info? t).map (·.zero)=some (some (.agg zs.toArray))) (f:Nat.blt d N=true) (k:∀g w',w.heap.size≤g→ao w w'→bm g t zs w'→bK P ops Q N D ((d,.pointer (some ⟨g,0,none⟩))::l) w' rest):bK P ops Q N D l w (⟨some d,.alloc t,ty,pos,aft,none⟩::rest):=by
 obtain⟨g,w',a,b,c,e⟩:=iW (P:=P) (w:=w) (t:=t) (z:=.agg zs.toArray) (l:=zs) h rfl
 exact fY f a (k g w' b c e)
theorem cE {t:TypeId} {x:Operand} (h:ev l x=some (.agg cs.toArray)) (f:Nat.blt d N=true) (k:∀g w',w.heap.size≤g→ao w w'→bm g t cs w'→bK P ops Q N D ((d,.pointer (some ⟨g,0,none⟩))::l) w' rest):bK P ops Q N D l w (⟨some d,.box t x,ty,pos,aft,none⟩::rest):=by
 obtain⟨g,w',a,b,c,e⟩:=Hd (P:=P) (w:=w) (T:=t) (cs:=cs)
 exact NA h f a (k g w' b c e)
theorem cl {t T:TypeId} {x y:Operand} {m:List Value} (h:ev l x=some (.pointer (some ⟨g,0,none⟩))) (i:ev l y=some (.agg m.toArray)) (e:bm g T cs w) (f:cs.length=m.length) (hi:(P.info? t).map (·.size)=some m.length) (a:ay m) (k:∀w',w.grownBy w' (some g)→bm g T m w'→bK P ops Q N D l w' rest):bK P ops Q N D l w (⟨none,.store t x y,ty,pos,aft,none⟩::rest):=by
 obtain⟨w',b,c,d⟩:=e.c0 (P:=P) (t:=t) f hi a
 exact C8 h i b (k w' c d)
theorem jQ {t T:TypeId} {x y:Operand} (h:ev l x=some (.pointer (some ⟨g,i,none⟩))) (j:ev l y=some v) (e:bm g T cs w) (hi:(P.info? t).map (·.size)=some 1) (a:v.oneCell'=true) (f:Nat.blt i cs.length=true) (k:∀w',w.grownBy w' (some g)→bm g T (cs.set i v) w'→bK P ops Q N D l w' rest):bK P ops Q N D l w (⟨none,.store t x y,ty,pos,aft,none⟩::rest):=by
 obtain⟨w',b,c,d⟩:=e.dp (P:=P) (t:=t) hi a (by simpa [BL] using f)
 exact C8 h j b (k w' c d)
theorem o_sP {t T:TypeId} {x y:Operand} {m:List Value} (i:ev l x=some (.pointer (some ⟨g,o,none⟩))) (j:ev l y=some (.agg m.toArray)) (e:bm g T cs w) (f:Nat.ble (o+m.length) cs.length=true) (hi:(P.info? t).map (·.size)=some m.length) (a:ay m) (h:cs.take o++m++cs.drop (o+m.length)=cs') (k:∀w',w.grownBy w' (some g)→bm g T cs' w'→bK P ops Q N D l w' rest):bK P ops Q N D l w (⟨none,.store t x y,ty,pos,aft,none⟩::rest):=by
 obtain⟨w',b,c,d⟩:=e.fA (P:=P) (t:=t) (Nat.le_of_ble_eq_true f) hi a h
 exact C8 i j b (k w' c d)
theorem N3 {fs:Array Field} {f:Field} {b:Nat} (hs:P.underlying s=some (.struct fs)) (d:fs[n]? =some f) (e:(P.cellsOf f.type==0)=false) (j:f.offset=o):
 (Instr.fieldAt s (.pointer (some ⟨g,b,none⟩)) n).run P w=.ok (.pointer (some ⟨g,b+o,none⟩)) w:=by
 have a:P.cellsOf f.type≠0:=by simpa using e
 obtain⟨k,c⟩:∃k,(P.info? f.type).map (·.size)=some k:=by
  cases hi:(P.info? f.type).map (·.size) with
  |none=>exact absurd (by simp[Program.cellsOf,hi]) a
  |some k=>exact⟨k,rfl⟩
 have i:k≠0:=by
  intro h
  apply a
  simp[Program.cellsOf,c,h]
 rw[jR hs d c i,j,vO]
theorem jj {ms:List Value} (h:(cs.drop o).take ms.length=ms):∀j v,ms[j]? =some v→cs[o+j]? =some v:=λj v a=>by
 rw[←h,EF] at a
 split at a
 ·simpa using a
 ·cases a
end
theorem Kq.br {T:TypeId} (b:bm g T cs w) (c:cs.map kd=p) (d:w.grownBy w' (some g)) (a:0<p.length:=by decide):Kq p w w':=Kq.of b c a d
theorem N8 {α:Type} {f:α→Dt} {L:List α} {t e:TypeId} (g:P.underlying t=some (.slice e)) (j:(P.info? e).map (·.size)=some sz) (hs:∀x,(f x).size=sz) (a:0<sz) (h:aD f L v w) (hi:i<L.length:=by omega):
 ∃ad cs x,x=L[i]∧(∀w':World,(Instr.indexAt t v (.int .i64 i)).run P w'=.ok (.pointer (some ad)) w')∧ez w ad cs∧Rp w (f x) cs:=by
 obtain⟨ad,cs,b,c,d⟩:=bX g j hs a h hi .i64
 exact⟨ad,cs,_,H,b,c,d⟩
section
variable {P:Program} {ops:Array Oper} {Env:World→Prop} {Rl:World→World→Prop} {mo:Bool} {Pn:List PanicEntry→World→Prop} {N:Nat} {rest:List Oper} {F:dO} {Z:ee} {K:dO→ee→Prop} {ty:TypeId} {pos:String} {aft:Array Edge} {d:Nat}
theorem f_al {t:TypeId} {b:Nat} (j:eG Rl (zj t zs b)) (n:(P.info? t).map (·.zero)=some (some (.agg zs.toArray))) (i:Nat.blt d N=true) (h:∀w,Env w→b≤w.heap.size) (k:cj P ops Env Rl mo Pn N rest (di F (some d) (zj t zs b)) Z K):cj P ops Env Rl mo Pn N (⟨some d,.alloc t,ty,pos,aft,none⟩::rest) F Z K:=
 Wi j i (λw m=>by
  obtain⟨g,w',a,c,e,f⟩:=iW (P:=P) (w:=w) (t:=t) (z:=.agg zs.toArray) (l:=zs) n rfl
  exact⟨_,w',a,e,g,H,cf (h w m) c,f⟩) k
theorem fP {f:FuncId} {x:Operand} {ts:Array TypeId} {S:cT} (c:aY P f) (e:eG Rl S) (h:look F x=Is u) (b:Nat.blt d N=true)
 (a:∀w,Env w→Calls P f #[u] w (aJ λr w'=>ao w w'∧S r w'))
 (k:cj P ops Env Rl mo Pn N rest (di F (some d) S) Z K):cj P ops Env Rl mo Pn N (⟨some d,.call {callee:=.value (.func f),args:=#[x],argTypes:=ts},ty,pos,aft,none⟩::rest) F Z K:=
 eh (xs:=[x]) (S:=S) c e b (λw g=>by show ∀v,look F x v w→_;rw[h];rintro _ rfl;exact a w g) k
theorem my {f:FuncId} {x y:Operand} {ts:Array TypeId} {S:cT} (c:aY P f) (e:eG Rl S) (h:look F x=Is u) (i:look F y=Is v) (b:Nat.blt d N=true)
 (a:∀w,Env w→Calls P f #[u,v] w (aJ λr w'=>ao w w'∧S r w'))
 (k:cj P ops Env Rl mo Pn N rest (di F (some d) S) Z K):cj P ops Env Rl mo Pn N (⟨some d,.call {callee:=.value (.func f),args:=#[x,y],argTypes:=ts},ty,pos,aft,none⟩::rest) F Z K:=
 eh (xs:=[x,y]) (S:=S) c e b (λw g=>by show ∀u',look F x u' w→∀v',look F y v' w→_;rw[h,i];rintro _ rfl _ rfl;exact a w g) k
end
theorem mp:(Instr.fieldAt 51 (.pointer (some ⟨g,0,none⟩)) 0).run Tryz.prog w=.ok (.pointer (some ⟨g,0,none⟩)) w:=c9 (o:=0) dx rfl am rfl
theorem oX:(Instr.fieldAt 51 (.pointer (some ⟨g,0,none⟩)) 1).run Tryz.prog w=.ok (.pointer (some ⟨g,1,none⟩)) w:=c9 (o:=1) dx rfl am rfl
theorem oh:(Instr.fieldAt 36 (.pointer (some ⟨g,0,none⟩)) 0).run Tryz.prog w=.ok (.pointer (some ⟨g,0,none⟩)) w:=c9 (o:=0) ij rfl am rfl
theorem kZ:(Instr.fieldAt 36 (.pointer (some ⟨g,0,none⟩)) 1).run Tryz.prog w=.ok (.pointer (some ⟨g,1,none⟩)) w:=c9 (o:=1) ij rfl am rfl
theorem qY:(Instr.fieldAt 36 (.pointer (some ⟨g,0,none⟩)) 2).run Tryz.prog w=.ok (.pointer (some ⟨g,2,none⟩)) w:=c9 (o:=2) ij rfl am rfl
theorem ol:(Instr.fieldAt 155 (.pointer (some ⟨g,0,none⟩)) 0).run Tryz.prog w=.ok (.pointer (some ⟨g,0,none⟩)) w:=c9 (o:=0) iM rfl am rfl
theorem ku:(Instr.fieldAt 155 (.pointer (some ⟨g,0,none⟩)) 1).run Tryz.prog w=.ok (.pointer (some ⟨g,1,none⟩)) w:=c9 (o:=1) iM rfl am rfl
theorem et:(Instr.fieldAt 78 (.pointer (some ⟨g,0,none⟩)) 0).run Tryz.prog w=.ok (.pointer (some ⟨g,0,none⟩)) w:=c9 (o:=0) dG rfl am rfl
theorem jr:(Instr.fieldAt 78 (.pointer (some ⟨g,0,none⟩)) 1).run Tryz.prog w=.ok (.pointer (some ⟨g,1,none⟩)) w:=c9 (o:=1) dG rfl am rfl
theorem f9:(Instr.fieldAt 78 (.pointer (some ⟨g,0,none⟩)) 2).run Tryz.prog w=.ok (.pointer (some ⟨g,2,none⟩)) w:=c9 (o:=2) dG rfl am rfl
theorem gq:(Instr.fieldAt 78 (.pointer (some ⟨g,0,none⟩)) 3).run Tryz.prog w=.ok (.pointer (some ⟨g,3,none⟩)) w:=c9 (o:=3) dG rfl am rfl
theorem gt:(Instr.fieldAt 78 (.pointer (some ⟨g,0,none⟩)) 4).run Tryz.prog w=.ok (.pointer (some ⟨g,4,none⟩)) w:=c9 (o:=4) dG rfl am rfl
theorem js:(Instr.fieldAt 78 (.pointer (some ⟨g,0,none⟩)) 5).run Tryz.prog w=.ok (.pointer (some ⟨g,5,none⟩)) w:=c9 (o:=5) dG rfl am rfl
theorem ik:(Instr.fieldAt 78 (.pointer (some ⟨g,0,none⟩)) 6).run Tryz.prog w=.ok (.pointer (some ⟨g,6,none⟩)) w:=c9 (o:=6) dG rfl am rfl
theorem gJ:(Instr.fieldAt 78 (.pointer (some ⟨g,0,none⟩)) 7).run Tryz.prog w=.ok (.pointer (some ⟨g,7,none⟩)) w:=c9 (o:=7) dG rfl am rfl
theorem lc:(Instr.fieldAt 78 (.pointer (some ⟨g,0,none⟩)) 8).run Tryz.prog w=.ok (.pointer (some ⟨g,8,none⟩)) w:=c9 (o:=8) dG rfl am rfl
theorem jt:(Instr.fieldAt 25 (.pointer (some ⟨g,0,none⟩)) 0).run Tryz.prog w=.ok (.pointer (some ⟨g,0,none⟩)) w:=c9 (o:=0) fz rfl am rfl
theorem gE:(Instr.fieldAt 25 (.pointer (some ⟨g,0,none⟩)) 1).run Tryz.prog w=.ok (.pointer (some ⟨g,1,none⟩)) w:=c9 (o:=1) fz rfl am rfl
theorem qZ:(Instr.fieldAt 49 (.pointer (some ⟨g,0,none⟩)) 0).run Tryz.prog w=.ok (.pointer (some ⟨g,0,none⟩)) w:=c9 (o:=0) bI rfl am rfl
theorem sE:(Instr.fieldAt 49 (.pointer (some ⟨g,0,none⟩)) 1).run Tryz.prog w=.ok (.pointer (some ⟨g,1,none⟩)) w:=c9 (o:=1) bI rfl am rfl
theorem tK:(Instr.fieldAt 49 (.pointer (some ⟨g,0,none⟩)) 2).run Tryz.prog w=.ok (.pointer (some ⟨g,2,none⟩)) w:=c9 (o:=2) bI rfl am rfl
theorem ju:(Instr.fieldAt 189 (.pointer (some ⟨g,0,none⟩)) 0).run Tryz.prog w=.ok (.pointer (some ⟨g,0,none⟩)) w:=c9 (o:=0) ur rfl am rfl
theorem rc:(Instr.fieldAt 189 (.pointer (some ⟨g,0,none⟩)) 1).run Tryz.prog w=.ok (.pointer (some ⟨g,1,none⟩)) w:=c9 (o:=1) ur rfl am rfl
theorem As:(Instr.fieldAt 230 (.pointer (some ⟨g,0,none⟩)) 0).run Tryz.prog w=.ok (.pointer (some ⟨g,0,none⟩)) w:=c9 (o:=0) ut rfl am rfl
theorem Au:(Instr.fieldAt 230 (.pointer (some ⟨g,0,none⟩)) 2).run Tryz.prog w=.ok (.pointer (some ⟨g,10,none⟩)) w:=c9 (o:=10) ut rfl am rfl
theorem We:(Instr.fieldAt 230 (.pointer (some ⟨g,0,none⟩)) 4).run Tryz.prog w=.ok (.pointer (some ⟨g,12,none⟩)) w:=c9 (o:=12) ut rfl am rfl
theorem Wf:(Instr.fieldAt 230 (.pointer (some ⟨g,0,none⟩)) 1).run Tryz.prog w=.ok (.pointer (some ⟨g,9,none⟩)) w:=c9 (o:=9) ut rfl am rfl
theorem re {w:World} {g:Nat}:(Instr.fieldAt 103 (.pointer (some ⟨g,0,none⟩)) 0).run Tryz.prog w=.ok (.pointer (some ⟨g,0,none⟩)) w:=c9 (o:=0) vH rfl am rfl
theorem pB:(Instr.fieldAt 103 (.pointer (some ⟨g,0,none⟩)) 2).run Tryz.prog w=.ok (.pointer (some ⟨g,10,none⟩)) w:=c9 (o:=10) vH rfl am rfl
theorem Cy:(Instr.fieldAt 103 (.pointer (some ⟨g,0,none⟩)) 3).run Tryz.prog w=.ok (.pointer (some ⟨g,11,none⟩)) w:=c9 (o:=11) vH rfl am rfl
theorem Gl:(Instr.fieldAt 103 (.pointer (some ⟨g,0,none⟩)) 4).run Tryz.prog w=.ok (.pointer (some ⟨g,12,none⟩)) w:=c9 (o:=12) vH rfl am rfl
theorem Gm:(Instr.fieldAt 103 (.pointer (some ⟨g,0,none⟩)) 1).run Tryz.prog w=.ok (.pointer (some ⟨g,9,none⟩)) w:=c9 (o:=9) vH rfl am rfl
theorem tL:(Instr.fieldAt 96 (.pointer (some ⟨g,0,none⟩)) 0).run Tryz.prog w=.ok (.pointer (some ⟨g,0,none⟩)) w:=c9 (o:=0) Tryz.underlying96 rfl am rfl
theorem jM:(Instr.fieldAt 96 (.pointer (some ⟨g,0,none⟩)) 1).run Tryz.prog w=.ok (.pointer (some ⟨g,1,none⟩)) w:=c9 (o:=1) Tryz.underlying96 rfl am rfl
theorem Ma:(Instr.fieldAt 265 (.pointer (some ⟨g,0,none⟩)) 0).run Tryz.prog w=.ok (.pointer (some ⟨g,0,none⟩)) w:=c9 (o:=0) lN rfl am rfl
theorem Gn:(Instr.fieldAt 265 (.pointer (some ⟨g,0,none⟩)) 1).run Tryz.prog w=.ok (.pointer (some ⟨g,1,none⟩)) w:=c9 (o:=1) lN rfl am rfl
theorem Wg:(Instr.fieldAt 49 (.pointer (some a)) 1).run Tryz.prog w=.ok (.pointer (some (a.add 1))) w:=Dv (o:=1) bI rfl am rfl
theorem Wh:(Instr.fieldAt 49 (.pointer (some a)) 2).run Tryz.prog w=.ok (.pointer (some (a.add 2))) w:=Dv (o:=2) bI rfl am rfl
theorem mr:(Instr.fieldAt 189 (.pointer (some a)) 0).run Tryz.prog w=.ok (.pointer (some (a.add 0))) w:=Dv (o:=0) ur rfl am rfl
theorem wo:(Instr.fieldAt 189 (.pointer (some a)) 1).run Tryz.prog w=.ok (.pointer (some (a.add 1))) w:=Dv (o:=1) ur rfl am rfl
theorem Cz {b:Nat}:(Instr.fieldAt 49 (.pointer (some ⟨g,b,none⟩)) 0).run Tryz.prog w=.ok (.pointer (some ⟨g,b+0,none⟩)) w:=N3 (o:=0) bI rfl am rfl
theorem Gp {b:Nat}:(Instr.fieldAt 49 (.pointer (some ⟨g,b,none⟩)) 1).run Tryz.prog w=.ok (.pointer (some ⟨g,b+1,none⟩)) w:=N3 (o:=1) bI rfl am rfl
theorem MI {l:List _} (h:aD cy l v w) (hi:i<l.length:=by omega):∃ad cs x,x=l[i]∧(∀w':World,(Instr.indexAt 34 v (.int .i64 i)).run Tryz.prog w'=.ok (.pointer (some ad)) w')∧ez w ad cs∧Rp w (cy x) cs:=N8 (sz:=4) cO am gD G h hi
theorem nG {l:List _} (h:aD iD l v w) (hi:i<l.length:=by omega):∃ad cs x,x=l[i]∧(∀w':World,(Instr.indexAt 45 v (.int .i64 i)).run Tryz.prog w'=.ok (.pointer (some ad)) w')∧ez w ad cs∧Rp w (iD x) cs:=N8 (sz:=4) eo am nc G h hi
theorem OX:(Tryz.prog.info? 100).map (·.size)=some 1:=by kernel_rfl
theorem ZM:(Tryz.prog.info? 156).map (·.size)=some 1:=by kernel_rfl
theorem DN:(Tryz.prog.info? 34).map (·.size)=some 1:=by kernel_rfl
theorem DO:(Tryz.prog.info? 23).map (·.size)=some 1:=by kernel_rfl
theorem ZN:(Tryz.prog.info? 42).map (·.size)=some 1:=by kernel_rfl
theorem ZO:(Tryz.prog.info? 45).map (·.size)=some 1:=by kernel_rfl
theorem ZP:(Tryz.prog.info? 237).map (·.size)=some 1:=by kernel_rfl
theorem OY:(Tryz.prog.info? 22).map (·.size)=some 1:=by kernel_rfl
theorem cL:(Tryz.prog.info? 51).map (·.size)=some 4:=by kernel_rfl
theorem fE:(Tryz.prog.info? 36).map (·.size)=some 3:=by kernel_rfl
theorem eQ:(Tryz.prog.info? 155).map (·.size)=some 2:=by kernel_rfl
theorem eJ:(Tryz.prog.info? 78).map (·.size)=some 9:=by kernel_rfl
theorem eR:(Tryz.prog.info? 25).map (·.size)=some 2:=by kernel_rfl
theorem bW:(Tryz.prog.info? 49).map (·.size)=some 3:=by kernel_rfl
theorem tj:(Tryz.prog.info? 189).map (·.size)=some 4:=by kernel_rfl
theorem ZQ:(Tryz.prog.info? 4).map (·.size)=some 1:=by kernel_rfl
theorem y5:(Tryz.prog.info? 230).map (·.size)=some 13:=by kernel_rfl
theorem ZR:(Tryz.prog.info? 238).map (·.size)=some 1:=by kernel_rfl
theorem ZS:(Tryz.prog.info? 101).map (·.size)=some 1:=by kernel_rfl
theorem ZT:(Tryz.prog.info? 107).map (·.size)=some 1:=by kernel_rfl
theorem ZU:(Tryz.prog.info? 248).map (·.size)=some 1:=by kernel_rfl
theorem ZV:(Tryz.prog.info? 3).map (·.size)=some 1:=by kernel_rfl
theorem mO:(Tryz.prog.info? 265).map (·.size)=some 2:=by kernel_rfl
theorem iX:(Tryz.prog.info? 51).map (·.zero)=some (some (.agg #[.slice none 0 0,B false,.slice none 0 0,.slice none 0 0])):=by kernel_rfl
theorem rG:(Tryz.prog.info? 36).map (·.zero)=some (some (.agg #[I 0,.slice none 0 0,.slice none 0 0])):=by kernel_rfl
theorem nS:(Tryz.prog.info? 155).map (·.zero)=some (some (.agg #[B false,.slice none 0 0])):=by kernel_rfl
theorem xC:(Tryz.prog.info? 78).map (·.zero)=some (some (.agg #[I 0,I 0,I 0,I 0,I 0,I 0,I 0,.slice none 0 0,.slice none 0 0])):=by kernel_rfl
theorem vl:(Tryz.prog.info? 25).map (·.zero)=some (some (.agg #[.slice none 0 0,.slice none 0 0])):=by kernel_rfl
theorem iH:(Tryz.prog.info? 49).map (·.zero)=some (some (.agg #[B false,.slice none 0 0,.slice none 0 0])):=by kernel_rfl
theorem Bt:(Tryz.prog.info? 189).map (·.zero)=some (some (.agg #[I 0,B false,.slice none 0 0,.slice none 0 0])):=by kernel_rfl
theorem aaR:(Tryz.prog.info? 230).map (·.zero)=some (some (.agg #[I 0,I 0,I 0,I 0,I 0,I 0,I 0,.slice none 0 0,.slice none 0 0,.slice none 0 0,.slice none 0 0,.slice none 0 0,.slice none 0 0])):=by kernel_rfl
theorem Al:aY Tryz.prog 48:=⟨_,Tryz.func48,am,rfl⟩
theorem K3:aY Tryz.prog 278:=⟨_,Tryz.func278,am,rfl⟩
theorem Ve:aY Tryz.prog 203:=⟨_,Tryz.func203,am,rfl⟩
theorem K7:aY Tryz.prog 115:=⟨_,Tryz.func115,am,rfl⟩
theorem Vf:aY Tryz.prog 49:=⟨_,Tryz.func49,am,rfl⟩
theorem Va:aY Tryz.prog 11:=⟨_,Tryz.func11,am,rfl⟩
theorem zL {l m:List Int} (b:aD bJ l v w) (s:aD bJ m u w):
 Calls Tryz.prog 48 #[v,u] w (aJ λr w'=>ao w w'∧r=B (decide (l=m))):=by
 refine enter Tryz.func48 H H H ?_
 have aa:=b.len
 refine T (Z H (O (ah (T (J H (aW H (bP cd b) (J H (aW H (bP cd s) (U H (dZ) (O (bc H (λo=>?_) (λo=>?_))))))))))))
 ·have j:l≠m:=λh=>o (by rw[h])
  refine T (Z H (O (aA (aI (aM H ?_)))))
  exact⟨_,H,ao.refl _,aB B (bi j).symm⟩
 ·have Y:l.length=m.length:=G
  refine aH (al (ah (T (Z H (O (aR (eg (α:=Nat) (λx=>[(0,v),(1,u),(5,I (x:Int))]) (λx w'=>ao w w'∧x≤l.length∧l.take x=m.take x) (λx=>l.length-x) (0) (aP H) ⟨ao.refl _,G,H⟩ ?_)))))))
  rintro i w4 ⟨a,hi,k⟩
  refine ah (T (J H (J H (aW H (bP cd (b.aL a)) (U H (bO) (O (bc H (λy=>?_) (λy=>?_))))))))
  ·refine aH (al (ah (aR (ah (cz 8 [0,1,5,20,24] am am ?_)))))
   refine W H (W H ?_)
   obtain⟨N,R,F,L,p⟩:=bX (P:=Tryz.prog) (sz:=1) cd am el G (b.aL a) (i:=i) G .i64
   obtain⟨V,d⟩:∃e,e=l[i]'G:=⟨_,rfl⟩
   rw[←d] at p
   obtain rfl:=er p
   refine cF H (λw _=>F w) (aQ H (λw n=>D aE H (n.a0 L.cell0)) (W H (W H ?_)))
   obtain⟨Q,S,K,M,q⟩:=bX (P:=Tryz.prog) (sz:=1) cd am el G (s.aL a) (i:=i) G .i64
   obtain⟨X,g⟩:∃e,e=m[i]'G:=⟨_,rfl⟩
   rw[←g] at q
   obtain rfl:=er q
   refine cF H (λw _=>K w) (aQ H (λw n=>D aE H (n.a0 M.cell0)) (cq ?_))
   rintro ab t _ A
   obtain rfl:=bU A
   rintro _ C
   obtain rfl:=bU C
   rintro _ rfl _ rfl _ rfl
   refine U H (dZ) (O (bc H (λc=>?_) (λc=>?_)))
   ·have j:l≠m:=λh=>c (by subst h;rw[d,g])
    refine T (Z H (O (aA (bD (aI (aI (bD (aI (aM H ?_)))))))))
    exact⟨_,H,(a.ai t),aB B (bi j).symm⟩
   ·have z:l[i]'G=m[i]'G:=by rw[←d,←g];exact oJ λh=>c h
    refine aH (bE (al (ap (J H (U H cD (Z H (f (ew (i+1) (aP H) ⟨(a.ai t),G,by rw[fi G,fi G,k,z]⟩ G))))))))
  ·refine ce (aU (aU (cg (al (T (Z H (O (aA (aM H ?_)))))))))
   exact⟨_,H,a,by
    rw[fG G,fG G] at k
    rw[dH k];rfl⟩
theorem JK (b:aO l v w) (k:aO m u w):
 Calls Tryz.prog 278 #[v,u] w (aJ λr w'=>ao w w'∧r=B (decide (l=m))):=by
 refine enter Tryz.func278 H H H ?_
 have L:=b.len
 refine T (Z H (O (ah (T (J H (aW H (cI aT b) (J H (aW H (cI aT k) (U H (dZ) (O (bc H (λj=>?_) (λj=>?_))))))))))))
 ·have d:l≠m:=λh=>j (by rw[h])
  refine T (Z H (O (aA (aI (aM H ?_)))))
  exact⟨_,H,ao.refl _,aB B (bi d).symm⟩
 ·have K:l.length=m.length:=G
  refine aH (al (ah (T (Z H (O (aR (eg (α:=Nat) (λx=>[(0,v),(1,u),(5,I (x:Int))]) (λx w'=>ao w w'∧x≤l.length∧l.take x=m.take x) (λx=>l.length-x) (0) (aP H) ⟨ao.refl _,G,H⟩ ?_)))))))
  rintro i w4 ⟨a,hi,e⟩
  refine ah (T (J H (J H (aW H (cI aT (b.aL a)) (U H (bO) (O (bc H (λo=>?_) (λo=>?_))))))))
  ·refine aH (al (ah (aR (ah (cz 8 [0,1,5,20,24] am am ?_)))))
   refine W H (W H ?_)
   obtain⟨C,t,z⟩:=ei aT (b.aL a) (i:=i) G .i64
   refine cF H (λw _=>t w) (aQ H (λw g=>D bN H (g.a0 z)) (W H (W H ?_)))
   obtain⟨F,y,A⟩:=ei aT (k.aL a) (i:=i) G .i64
   refine cF H (λw _=>y w) (aQ H (λw g=>D bN H (g.a0 A)) (cq ?_))
   rintro M n _ q
   obtain rfl:=bU q
   rintro _ s
   obtain rfl:=bU s
   rintro _ rfl _ rfl _ rfl
   refine U H (yY) (O (bc H (λc=>?_) (λc=>?_)))
   ·have d:l≠m:=λh=>c (by subst h;rfl)
    refine T (Z H (O (aA (bD (aI (aI (bD (aI (aM H ?_)))))))))
    exact⟨_,H,(a.ai n),aB B (bi d).symm⟩
   ·have p:l[i]'G=m[i]'G:=oJ λh=>c h
    refine aH (bE (al (ap (J H (U H cD (Z H (f (ew (i+1) (aP H) ⟨(a.ai n),G,by rw[fi G,fi G,e,p]⟩ G))))))))
  ·refine ce (aU (aU (cg (al (T (Z H (O (aA (aM H ?_)))))))))
   exact⟨_,H,a,by
    rw[fG G,fG G] at e
    rw[dH e];rfl⟩
theorem SK {a b:df} {x p q:Value} (n:aO a.2.1 x w) (o:aO a.2.2 y w) (s:aO b.2.1 p w) (u:aO b.2.2 q w):
 Calls Tryz.prog 203 #[.agg #[B a.1,x,y],.agg #[B b.1,p,q]] w (aJ λr w'=>ao w w'∧r=B (decide (a=b))):=by
 refine enter (vs:=[.agg #[B a.1,x,y],.agg #[B b.1,p,q]]) Tryz.func203 H H H (T (cE H H λz w2 C g l=>cE H H λA P F d m=>(Z H (bB (c H (qZ) (Y H (D dw H (d.a0 (l.cell (i:=0) H))) (c H (qZ) (Y H (D dw H (m.cell (i:=0) H)) (U H (yT dw) (J H (cK (λe=>?_) (λe=>?_))))))))))))
 ·refine V H (c H (sE) (V H (Y H (D aT H (d.a0 (l.cell (i:=1) H))) ?_)))
  refine V H (c H (sE) (V H (Y H (D aT H (m.cell (i:=1) H)) (V H (aC K3 H H (JK (n.aL (g.ai d)) (s.aL (g.ai d))) ?_)))))
  rintro G M ⟨j,rfl⟩
  refine bA H (J H (cK (λf=>?_) (λf=>?_)))
  ·refine V H (c H (tK) (V H (Y H (D aT H ((d.ai j).a0 (l.cell (i:=2) H))) ?_)))
   refine V H (c H (tK) (V H (Y H (D aT H (j.a0 (m.cell (i:=2) H))) ?_)))
   have k:=(g.ai d).ai j
   refine V H (aC K3 H H (JK (o.aL k) (u.aL k)) ?_)
   rintro K N ⟨v,rfl⟩
   refine bA H (Z H (O (aA (aM H ?_))))
   exact⟨_,H,(k.ai v),by
    first
    |exact aB B (cA.2 ⟨λh=>oP e (oP f h),λh=>by rw[h]⟩)
    |exact aB B (bi λh=>f (by rw[h])).symm
    |exact aB B (bi λh=>e (by rw[h])).symm⟩
  ·refine L H (L H (L H (L H (L H (t H (Z H (O (aA (aM H ?_)))))))))
   exact⟨_,H,((g.ai d).ai j),by
    first
    |exact aB B (cA.2 ⟨λh=>oP e (oP f h),λh=>by rw[h]⟩)
    |exact aB B (bi λh=>f (by rw[h])).symm
    |exact aB B (bi λh=>e (by rw[h])).symm⟩
 ·refine L H (L H (L H (L H (L H (t H (J H (L H (L H (L H ?_)))))))))
  refine L H (L H (t H (Z H (O (aA (aM H ?_))))))
  exact⟨_,H,(g.ai d),by
   first
   |exact aB B (cA.2 ⟨λh=>oP e (oP f h),λh=>by rw[h]⟩)
   |exact aB B (bi λh=>f (by rw[h])).symm
   |exact aB B (bi λh=>e (by rw[h])).symm⟩
theorem JO {l m:List df} (c:aD dK l v w) (y:aD dK m u w):
 Calls Tryz.prog 115 #[v,u] w (aJ λr w'=>ao w w'∧r=B (decide (l=m))):=by
 refine enter Tryz.func115 H H H ?_
 have af:=c.len
 refine T (Z H (O (ah (T (J H (aW H (bP cn c) (J H (aW H (bP cn y) (U H (dZ) (O (bc H (λq=>?_) (λq=>?_))))))))))))
 ·have k:l≠m:=λh=>q (by rw[h])
  refine T (Z H (O (aA (aI (aM H ?_)))))
  exact⟨_,H,ao.refl _,aB B (bi k).symm⟩
 ·have ae:l.length=m.length:=G
  refine aH (al (ah (T (Z H (O (aR (eg (α:=Nat) (λx=>[(0,v),(1,u),(5,I (x:Int))]) (λx w'=>ao w w'∧x≤l.length∧l.take x=m.take x) (λx=>l.length-x) (0) (aP H) ⟨ao.refl _,G,H⟩ ?_)))))))
  rintro i w4 ⟨b,hi,n⟩
  refine ah (T (J H (J H (aW H (bP cn (c.aL b)) (U H (bO) (O (bc H (λK=>?_) (λK=>?_))))))))
  ·refine aH (al (ah (aR (ah (cz 9 [0,1,5,25] am am ?_)))))
   refine W H (W H ?_)
   obtain⟨Y,ab,Q,V,s⟩:=bX (P:=Tryz.prog) (sz:=3) cn am py G (c.aL b) (i:=i) G .i64
   obtain⟨o,g⟩:∃e,e=l[i]'G:=⟨_,rfl⟩
   rw[←g] at s
   obtain⟨ai,aj,rfl,A,C⟩:=su s
   refine cF H (λw _=>Q w) (aQ H (λw a=>(V.aL a).ld bI H bW) (W H (W H ?_)))
   obtain⟨aa,ad,R,X,t⟩:=bX (P:=Tryz.prog) (sz:=3) cn am py G (y.aL b) (i:=i) G .i64
   obtain⟨p,j⟩:∃e,e=m[i]'G:=⟨_,rfl⟩
   rw[←j] at t
   obtain⟨ak,an,rfl,D,F⟩:=su t
   refine cF H (λw _=>R w) (aQ H (λw a=>(X.aL a).ld bI H bW) (my (S:=Is (B (decide (o=p)))) Ve (cN.is _) H H H (λw a=>aJ.mono (SK (A.aL a) (C.aL a) (D.aL a) (F.aL a)) λv w' h=>h) (cq ?_)))
   rintro ag z _ M
   obtain rfl:=bU M
   rintro _ N
   obtain rfl:=bU N
   rintro _ rfl _ rfl
   refine cP H cW (O (lQ H (λd=>?_) (λd=>?_)))
   ·have k:l≠m:=λh=>absurd (show o=p by subst h;rw[g,j]) (by simpa using d)
    refine T (Z H (O (aA (bD (aI (aI (bD (aI (aM H ?_)))))))))
    exact⟨_,H,(b.ai z),aB B (bi k).symm⟩
   ·have L:l[i]'G=m[i]'G:=by rw[←g,←j];simpa using d
    refine aH (bE (al (ap (J H (U H cD (Z H (f (ew (i+1) (aP H) ⟨(b.ai z),G,by rw[fi G,fi G,n,L]⟩ G))))))))
  ·refine ce (aU (aU (cg (al (T (Z H (O (aA (aM H ?_)))))))))
   exact⟨_,H,b,by
    rw[fG G,fG G] at n
    rw[dH n];rfl⟩
theorem SL {a b:cG} {x p q:Value} (C:aD dK a.ws x w) (F:aD dK a.bs y w) (G:aD dK b.ws p w) (K:aD dK b.bs q w):
 Calls Tryz.prog 49 #[.agg #[I a.kd,I a.fr,I a.ou,I a.kh,I a.kw,I a.sr,I a.pd,x,y],.agg #[I b.kd,I b.fr,I b.ou,I b.kh,I b.kw,I b.sr,I b.pd,p,q]] w (aJ λr w'=>ao w w'∧r=B (decide (a=b))):=by
 refine enter (vs:=[.agg #[I a.kd,I a.fr,I a.ou,I a.kh,I a.kw,I a.sr,I a.pd,x,y],.agg #[I b.kd,I b.fr,I b.ou,I b.kh,I b.kw,I b.sr,I b.pd,p,q]]) Tryz.func49 H H H (T (cE H H λN w2 Q s u=>cE H H λP X R d v=>(Z H (bB (c H (et) (Y H (D aE H (d.a0 (u.cell (i:=0) H))) (c H (et) (Y H (D aE H (v.cell (i:=0) H)) (U H (aV) (J H (cK (λe=>?_) (λe=>?_))))))))))))
 ·refine V H (c H (jr) (V H (Y H (D aE H (d.a0 (u.cell (i:=1) H))) ?_)))
  refine V H (c H (jr) (V H (Y H (D aE H (v.cell (i:=1) H)) (V H (U H (aV) (bA H (J H (cK (λg=>?_) (λg=>?_)))))))))
  ·refine V H (c H (f9) (V H (Y H (D aE H (d.a0 (u.cell (i:=2) H))) ?_)))
   refine V H (c H (f9) (V H (Y H (D aE H (v.cell (i:=2) H)) (V H (U H (aV) (bA H (J H (cK (λj=>?_) (λj=>?_)))))))))
   ·refine V H (c H (gq) (V H (Y H (D aE H (d.a0 (u.cell (i:=3) H))) ?_)))
    refine V H (c H (gq) (V H (Y H (D aE H (v.cell (i:=3) H)) (V H (U H (aV) (bA H (J H (cK (λk=>?_) (λk=>?_)))))))))
    ·refine V H (c H (gt) (V H (Y H (D aE H (d.a0 (u.cell (i:=4) H))) ?_)))
     refine V H (c H (gt) (V H (Y H (D aE H (v.cell (i:=4) H)) (V H (U H (aV) (bA H (J H (cK (λl=>?_) (λl=>?_)))))))))
     ·refine V H (c H (js) (V H (Y H (D aE H (d.a0 (u.cell (i:=5) H))) ?_)))
      refine V H (c H (js) (V H (Y H (D aE H (v.cell (i:=5) H)) (V H (U H (aV) (bA H (J H (cK (λm=>?_) (λm=>?_)))))))))
      ·refine V H (c H (ik) (V H (Y H (D aE H (d.a0 (u.cell (i:=6) H))) ?_)))
       refine V H (c H (ik) (V H (Y H (D aE H (v.cell (i:=6) H)) (V H (U H (aV) (bA H (J H (cK (λn=>?_) (λn=>?_)))))))))
       ·refine V H (c H (gJ) (V H (Y H (D cn H (d.a0 (u.cell (i:=7) H))) ?_)))
        refine V H (c H (gJ) (V H (Y H (D cn H (v.cell (i:=7) H)) (V H (aC K7 H H (JO (C.aL (s.ai d)) (G.aL (s.ai d))) ?_)))))
        rintro S aa ⟨z,rfl⟩
        refine bA H (J H (cK (λo=>?_) (λo=>?_)))
        ·refine V H (c H (lc) (V H (Y H (D cn H ((d.ai z).a0 (u.cell (i:=8) H))) ?_)))
         refine V H (c H (lc) (V H (Y H (D cn H (z.a0 (v.cell (i:=8) H))) ?_)))
         have A:=(s.ai d).ai z
         refine V H (aC K7 H H (JO (F.aL A) (K.aL A)) ?_)
         rintro W ab ⟨M,rfl⟩
         refine bA H (Z H (O (aA (aM H ?_))))
         exact⟨_,H,(A.ai M),by
          first
          |exact aB B (cA.2 (by rw[cG.eq_iff];exact⟨λh=>⟨e,g,j,k,l,m,n,o,h⟩,λh=>h.2.2.2.2.2.2.2.2⟩))
          |exact aB B (bi λh=>by subst h;first|exact o rfl|exact n rfl|exact m rfl|exact l rfl|exact k rfl|exact j rfl|exact g rfl|exact e rfl).symm⟩
        ·refine L H (L H (L H (L H (L H (t H (Z H (O (aA (aM H ?_)))))))))
         exact⟨_,H,((s.ai d).ai z),by
          first
          |exact aB B (cA.2 (by rw[cG.eq_iff];exact⟨λh=>⟨e,g,j,k,l,m,n,o,h⟩,λh=>h.2.2.2.2.2.2.2.2⟩))
          |exact aB B (bi λh=>by subst h;first|exact o rfl|exact n rfl|exact m rfl|exact l rfl|exact k rfl|exact j rfl|exact g rfl|exact e rfl).symm⟩
       ·refine L H (L H (L H (L H (L H (t H (J H (L H (L H (L H ?_)))))))))
        refine L H (L H (t H (Z H (O (aA (aM H ?_))))))
        exact⟨_,H,(s.ai d),by
         first
         |exact aB B (cA.2 (by rw[cG.eq_iff];exact⟨λh=>⟨e,g,j,k,l,m,n,o,h⟩,λh=>h.2.2.2.2.2.2.2.2⟩))
         |exact aB B (bi λh=>by subst h;first|exact o rfl|exact n rfl|exact m rfl|exact l rfl|exact k rfl|exact j rfl|exact g rfl|exact e rfl).symm⟩
      ·refine L H (L H (L H (L H (L H (t H (J H (L H (L H (L H ?_)))))))))
       refine L H (L H (t H (J H (L H (L H (L H (L H (L H (t H (Z H (O (aA (aM H ?_)))))))))))))
       exact⟨_,H,(s.ai d),by
        first
        |exact aB B (cA.2 (by rw[cG.eq_iff];exact⟨λh=>⟨e,g,j,k,l,m,n,o,h⟩,λh=>h.2.2.2.2.2.2.2.2⟩))
        |exact aB B (bi λh=>by subst h;first|exact o rfl|exact n rfl|exact m rfl|exact l rfl|exact k rfl|exact j rfl|exact g rfl|exact e rfl).symm⟩
     ·refine L H (L H (L H (L H (L H (t H (J H (L H (L H (L H ?_)))))))))
      refine L H (L H (t H (J H (L H (L H (L H (L H (L H (t H (J H (L H (L H (L H (L H (L H (t H (Z H (O (aA (aM H ?_))))))))))))))))))))
      exact⟨_,H,(s.ai d),by
       first
       |exact aB B (cA.2 (by rw[cG.eq_iff];exact⟨λh=>⟨e,g,j,k,l,m,n,o,h⟩,λh=>h.2.2.2.2.2.2.2.2⟩))
       |exact aB B (bi λh=>by subst h;first|exact o rfl|exact n rfl|exact m rfl|exact l rfl|exact k rfl|exact j rfl|exact g rfl|exact e rfl).symm⟩
    ·refine L H (L H (L H (L H (L H (t H (J H (L H (L H (L H ?_)))))))))
     refine L H (L H (t H (J H (L H (L H (L H (L H (L H (t H (J H (L H (L H (L H (L H (L H (t H (J H (L H (L H (L H (L H (L H (t H (Z H (O (aA (aM H ?_)))))))))))))))))))))))))))
     exact⟨_,H,(s.ai d),by
      first
      |exact aB B (cA.2 (by rw[cG.eq_iff];exact⟨λh=>⟨e,g,j,k,l,m,n,o,h⟩,λh=>h.2.2.2.2.2.2.2.2⟩))
      |exact aB B (bi λh=>by subst h;first|exact o rfl|exact n rfl|exact m rfl|exact l rfl|exact k rfl|exact j rfl|exact g rfl|exact e rfl).symm⟩
   ·refine L H (L H (L H (L H (L H (t H (J H (L H (L H (L H ?_)))))))))
    refine L H (L H (t H (J H (L H (L H (L H (L H (L H (t H (J H (L H (L H (L H (L H (L H (t H (J H (L H (L H (L H (L H (L H (t H (J H (L H (L H (L H (L H (L H (t H (Z H (O (aA (aM H ?_))))))))))))))))))))))))))))))))))
    exact⟨_,H,(s.ai d),by
     first
     |exact aB B (cA.2 (by rw[cG.eq_iff];exact⟨λh=>⟨e,g,j,k,l,m,n,o,h⟩,λh=>h.2.2.2.2.2.2.2.2⟩))
     |exact aB B (bi λh=>by subst h;first|exact o rfl|exact n rfl|exact m rfl|exact l rfl|exact k rfl|exact j rfl|exact g rfl|exact e rfl).symm⟩
  ·refine L H (L H (L H (L H (L H (t H (J H (L H (L H (L H ?_)))))))))
   refine L H (L H (t H (J H (L H (L H (L H (L H (L H (t H (J H (L H (L H (L H (L H (L H (t H (J H (L H (L H (L H (L H (L H (t H (J H (L H (L H (L H (L H (L H (t H (J H (L H (L H (L H (L H (L H (t H (Z H (f (al (aA (aM H ?_))))))))))))))))))))))))))))))))))))))))))
   exact⟨_,H,(s.ai d),by
    first
    |exact aB B (cA.2 (by rw[cG.eq_iff];exact⟨λh=>⟨e,g,j,k,l,m,n,o,h⟩,λh=>h.2.2.2.2.2.2.2.2⟩))
    |exact aB B (bi λh=>by subst h;first|exact o rfl|exact n rfl|exact m rfl|exact l rfl|exact k rfl|exact j rfl|exact g rfl|exact e rfl).symm⟩
 ·refine L H (L H (L H (L H (L H (t H (J H (L H (L H (L H ?_)))))))))
  refine L H (L H (t H (J H (L H (L H (L H (L H (L H (t H (J H (L H (L H (L H (L H (L H (t H (J H (L H (L H (L H (L H (L H (t H (J H (L H (L H (L H (L H (L H (t H (J H (L H (L H (L H (L H (L H (t H (J H (L H (L H (L H (L H (L H (t H (Z H (O (aA (aM H ?_))))))))))))))))))))))))))))))))))))))))))))))))
  exact⟨_,H,(s.ai d),by
   first
   |exact aB B (cA.2 (by rw[cG.eq_iff];exact⟨λh=>⟨e,g,j,k,l,m,n,o,h⟩,λh=>h.2.2.2.2.2.2.2.2⟩))
   |exact aB B (bi λh=>by subst h;first|exact o rfl|exact n rfl|exact m rfl|exact l rfl|exact k rfl|exact j rfl|exact g rfl|exact e rfl).symm⟩
theorem SC {a b:fj} {x p q:Value} (ha:aD bJ a.inp x w) (o:aD gp a.lays y w) (hb:aD bJ b.inp p w) (ab:aD gp b.lays q w):
 Calls Tryz.prog 11 #[.agg #[x,y],.agg #[p,q]] w (aJ λr w'=>ao w w'∧r=B (decide (a=b))):=by
 refine enter (vs:=[.agg #[x,y],.agg #[p,q]]) Tryz.func11 H H H ?_
 have ay:=o.len
 refine T (cE H H λg2 w2 l2 k s=>cE H H λg3 w3 l3 g M=>(Z H (O (ah (T (c H (jt) (Y H (D cd H (g.a0 (s.cell (i:=0) H))) (c H (jt) (Y H (D cd H (M.cell (i:=0) H)) (aC Al H H (zL (ha.aL (k.ai g)) (hb.aL (k.ai g))) ?_))))))))))
 rintro az ar ⟨j,rfl⟩
 refine cP H Bf (J H (cK (λn=>?_) (λn=>?_)))
 ·refine L H (L H (L H (L H (L H (L H (L H (bA H (O (bT H ?_)))))))))
  refine T (Z H (O (aA (aI (aM H ?_)))))
  exact⟨_,H,((k.ai g).ai j),aB B (bi (λh=>by subst h;first|exact n rfl|exact u rfl)).symm⟩
 ·refine V H (c H (gE) (V H (Y H (D dP H ((g.ai j).a0 (s.cell (i:=1) H))) ?_)))
  refine V H (aW H (bP dP (o.aL ((k.ai g).ai j))) (V H (c H (gE) (V H (Y H (D dP H (j.a0 (M.cell (i:=1) H))) (V H (aW H (bP dP (ab.aL ((k.ai g).ai j))) (V H (U H (dZ) (t H (O (bc H (λu=>?_) (λu=>?_)))))))))))))
  ·refine T (Z H (O (aA (aI (aM H ?_)))))
   exact⟨_,H,((k.ai g).ai j),aB B (bi (λh=>by subst h;first|exact n rfl|exact u rfl)).symm⟩
  ·have ax:a.lays.length=b.lays.length:=G
   refine aH (al (ah (T (Z H (O (aR (eg (α:=Nat) (λx=>[(2,.pointer (some ⟨g2,0,none⟩)),(3,.pointer (some ⟨g3,0,none⟩)),(5,I (x:Int))]) (λx w'=>ao w w'∧ao ar w'∧x≤a.lays.length∧a.lays.take x=b.lays.take x) (λx=>a.lays.length-x) (0) (aP H) ⟨((k.ai g).ai j),ao.refl _,G,H⟩ ?_)))))))
   rintro i w4 ⟨l,m,hi,K⟩
   refine ah (T (J H (c H (gE) (Y H (D dP H (((g.ai j).ai m).a0 (s.cell (i:=1) H))) (aW H (bP dP (o.aL l)) (U H (bO) (O (bc H (λai=>?_) (λai=>?_)))))))))
   ·refine aH (al (ah (aR (ah (cz 11 [2,3,5,38] am am ?_)))))
    refine bH H (λw d=>gE) (aQ H (λw d=>D dP H (d.a0 (((g.ai j).ai m).a0 (s.cell (i:=1) H)))) (W H ?_))
    obtain⟨a31,av,aj,an,X⟩:=bX (P:=Tryz.prog) (sz:=9) dP am tF G (o.aL l) (i:=i) G .i64
    obtain⟨Q,C⟩:∃e,e=a.lays[i]'G:=⟨_,rfl⟩
    rw[←C] at X
    obtain⟨aF,aG,rfl,ad,ae⟩:=wi X
    refine cF H (λw _=>aj w) (aQ H (λw d=>(an.aL d).ld dG H eJ) (bH H (λw d=>gE) (aQ H (λw d=>D dP H (d.a0 ((j.ai m).a0 (M.cell (i:=1) H)))) (W H ?_))))
    obtain⟨au,aw,ak,aq,aa⟩:=bX (P:=Tryz.prog) (sz:=9) dP am tF G (ab.aL l) (i:=i) G .i64
    obtain⟨R,F⟩:∃e,e=b.lays[i]'G:=⟨_,rfl⟩
    rw[←F] at aa
    obtain⟨aK,aL,rfl,af,ag⟩:=wi aa
    refine cF H (λw _=>ak w) (aQ H (λw d=>(aq.aL d).ld dG H eJ) (my (S:=Is (B (decide (Q=R)))) Vf (cN.is _) H H H (λw d=>aJ.mono (SL (ad.aL d) (ae.aL d) (af.aL d) (ag.aL d)) λv w' h=>h) (cq ?_)))
    rintro aE N _ rfl _ rfl _ rfl _ rfl
    refine cP H cW (O (lQ H (λz=>?_) (λz=>?_)))
    ·refine T (Z H (O (aA (bD (aI (aI (bD (aI (aM H ?_)))))))))
     exact⟨_,H,(l.ai N),aB B (bi (λh=>absurd (show Q=R by subst h;rw[C,F]) (by simpa using z))).symm⟩
    ·have A:a.lays[i]'G=b.lays[i]'G:=by rw[←C,←F];simpa using z
     refine aH (bE (al (ap (J H (U H cD (Z H (f (ew (i+1) (aP H) ⟨(l.ai N),(m.ai N),G,by rw[fi G,fi G,K,A]⟩ G))))))))
   ·refine ce (aU (aU (cg (al (T (Z H (O (aA (aM H ?_)))))))))
    exact⟨_,H,l,by
     rw[fG G,fG G] at K
     have A:a=b:=fj.eq_iff.2 ⟨oJ n,K⟩
     rw[dH A];rfl⟩
end Go.Rl

/- Part 3 of a proof: plain facts and walks of functions, merged by a program. Conditions: each lemma names its own. -/
import Derived.Test.YtddonikjkohphaaGreatDoorWf2
namespace Go.Rl
open Go.RowKit Go.Proofs
variable {a ad:Addr} {w w' w0 w1 w2:World} {R i n g j N sz k o q g' BB g1 kw ch kh C nn:Nat} {v y u z v1 x0 x1 fv sv xv tv:Value} {l m:List UInt32} {fn:Func} {vs xs sp cs cs' zs:List Value} {s ty T':TypeId} {P:Program} {A ns:List Int} {p ks:List Nat} {ts:List TypeId} {rd:Option Nat} {h:Int}
theorem sd:aY Tryz.prog 93:=⟨_,Tryz.func93,am,rfl⟩
theorem ye:aY Tryz.prog 94:=⟨_,Tryz.func94,am,rfl⟩
theorem yi:aY Tryz.prog 255:=⟨_,Tryz.func255,am,rfl⟩
theorem K5:aY Tryz.prog 257:=⟨_,Tryz.func257,am,rfl⟩
theorem yh:aY Tryz.prog 256:=⟨_,Tryz.func256,am,rfl⟩
theorem Vb:aY Tryz.prog 172:=⟨_,Tryz.func172,am,rfl⟩
theorem F1:aY Tryz.prog 91:=⟨_,Tryz.func91,am,rfl⟩
theorem sN {a b m n:Int} (c:1≤a) (d:a≤m) (e:1≤b) (f:b≤n):1≤a*b∧a*b≤m*n:=
 ⟨by have:=gz c e G G;omega,gz d f G G⟩
def iG:Int→List Int→Bool
 |_,[]=>true
 |s,d::l=>decide (1≤d∧d≤16384∧s*d≤16384)&&iG (s*d) l
def dF (l:List Int):Bool:=decide (1≤l.length∧l.length≤4)&&iG 1 l
theorem HW {s:Int} {l:List Int} (hi:i<l.length):iG s (l.drop i)=(decide (1≤l[i]∧l[i]≤16384∧s*l[i]≤16384)&&iG (s*l[i]) (l.drop (i+1))):=by
 rw[lE hi];rfl
theorem y6 {l:List Int} {s:Int} (hi:i<l.length) (a:iG 1 l=iG s (l.drop i)) (h:¬(1≤l[i]∧l[i]≤16384∧s*l[i]≤16384)):false=dF l:=by
 unfold dF
 rw[a,HW hi,bi h]
 simp
theorem DR {l:List Int} (h:¬(1≤l.length∧l.length≤4)):false=dF l:=by
 unfold dF
 rw[bi h]
 rfl
theorem O5 {l:List Int} {s:Int} (h:1≤l.length∧l.length≤4) (a:iG 1 l=iG s (l.drop l.length)):true=dF l:=by
 unfold dF
 rw[a,ED,dH h]
 rfl
theorem O6 {l:List Int} {s:Int} (hi:i<l.length) (a:iG 1 l=iG s (l.drop i)) (h:1≤l[i]∧l[i]≤16384∧s*l[i]≤16384):iG 1 l=iG (s*l[i]) (l.drop (i+1)):=by
 rw[a,HW hi,dH h]
 rfl
theorem rY {l:List Int} (c:aD bJ l v w):
 Calls Tryz.prog 93 #[v] w (aJ λr w'=>ao w w'∧r=B (dF l)):=by
 refine enter Tryz.func93 H H H ?_
 have aa:=c.len
 refine T (Z H (O (ah (T (J H (aW H (bP cd c) (U H (bO) (J H (cK (λu=>?_) (λu=>?_))))))))))
 ·refine L H (L H (L H (bA H (O (bT H (T (Z H (O (aA (aI (aM H ?_)))))))))))
  exact⟨_,H,ao.refl _,aB B (DR G)⟩
 ·refine V H (J H (V H (aW H (bP cd c) (V H (U H (cY) (t H (O ?_)))))))
  refine bc H (λm=>?_) (λm=>?_)
  ·refine T (Z H (O (aA (aI (aM H ?_)))))
   exact⟨_,H,ao.refl _,aB B (DR G)⟩
  ·refine aH (al (T (Z H (O (ah (T (Z H (O (aR ?_)))))))))
   refine fp (λ(i:Nat) (s:Int)=>[(0,v),(3,I s),(4,I (i:Int))]) (λ(i:Nat) (s:Int) w'=>ao w w'∧i≤l.length∧1≤s∧s≤16384∧iG 1 l=iG s (l.drop i)) (λ(i:Nat) (s:Int)=>l.length-i) (0) (1) (aP H) ⟨ao.refl _,G,G,G,H⟩ ?_
   rintro i s w4 ⟨a,hi,x,y,d⟩
   refine ah (T (J H (J H (aW H (bP cd (c.aL a)) (U H (bO) (O (bc H (λn=>?_) (λn=>?_))))))))
   ·refine aH (al (ah (aR (ah (T (J H (J H ?_)))))))
    obtain⟨N,S,z,F,h⟩:=bX (P:=Tryz.prog) (sz:=1) cd am el G (c.aL a) (i:=i) G .i64
    obtain⟨g,b⟩:∃e,e=l[i]'G:=⟨_,rfl⟩
    rw[←b] at h
    obtain rfl:=er h
    refine bF H (z _) (Y H (D aE H F.cell0) (U H (bO) (J H (cK (λo=>?_) (λo=>?_)))))
    ·refine L H (L H (L H (L H (L H (bA H (O (bT H (T (Z H (f ?_))))))))))
     refine al (aA (aI (bD (aI (aI (bD (aI (aM H ?_))))))))
     exact⟨_,H,a,aB B (y6 G d (by rw[←b];omega))⟩
    ·refine V H (J H (V H (J H (V H ?_))))
     obtain⟨Q,W,A,K,j⟩:=bX (P:=Tryz.prog) (sz:=1) cd am el G (c.aL a) (i:=i) G .i64
     rw[←b] at j
     obtain rfl:=er j
     refine bF H (A _) (V H (Y H (D aE H K.cell0) (V H (U H (cY) (t H (O (bc H (λp=>?_) (λp=>?_))))))))
     ·refine T (Z H (O (aA (aI (bD (aI (aI (bD (aI (aM H ?_))))))))))
      exact⟨_,H,a,aB B (y6 G d (by rw[←b];omega))⟩
     ·refine aH (al (T (J H (J H (J H ?_)))))
      obtain⟨R,X,C,M,k⟩:=bX (P:=Tryz.prog) (sz:=1) cd am el G (c.aL a) (i:=i) G .i64
      rw[←b] at k
      obtain rfl:=er k
      refine bF H (C _) (Y H (D aE H M.cell0) ?_)
      have hb:=sN x y (show 1≤g by omega) (show g≤16384 by omega)
      refine U H (dh G G) (Z H (bB (J H (U H (cY) (O (bc H (λq=>?_) (λq=>?_)))))))
      ·refine T (Z H (O (aA (bD (aI (aI (bD (aI (aM H ?_)))))))))
       exact⟨_,H,a,aB B (y6 G d (by rw[←b];omega))⟩
      ·refine aH (bE (al (ap (J H (U H cD ?_)))))
       refine Z H (f (eI (i+1) (s*g) (aP H) ⟨a,G,G,G,by have:=O6 G d (by rw[←b];omega);rwa [←b] at this⟩ G))
   ·refine ce (aU (aU (cg (al (T (Z H (O (aA (aM H ?_)))))))))
    exact⟨_,H,a,aB B (O5 G (by rw[show l.length=i by omega];exact d))⟩
theorem xD {l:List Int} (g:aD bJ l v w):
 Calls Tryz.prog 94 #[v] w (aJ λr w'=>ao w w'∧r=B (dF l)):=by
 refine enter Tryz.func94 H H H ?_
 have F:=g.len
 refine T (Z H (O (ah (T (J H (aW H (bP cd g) (U H (bO) (J H (cK (λu=>?_) (λu=>?_))))))))))
 ·refine L H (L H (L H (bA H (O (bT H (T (Z H (O (aA (aI (aM H ?_)))))))))))
  exact⟨_,H,ao.refl _,aB B (DR G)⟩
 ·refine V H (J H (V H (aW H (bP cd g) (V H (U H (cY) (t H (O ?_)))))))
  refine bc H (λm=>?_) (λm=>?_)
  ·refine T (Z H (O (aA (aI (aM H ?_)))))
   exact⟨_,H,ao.refl _,aB B (DR G)⟩
  ·refine aH (al (T (Z H (O (ah (T (J H (aW H (bP cd g) (J H (f ?_))))))))))
   refine al (aR (fp (λ(i:Nat) (s:Int)=>[(3,I s),(14,v),(15,I (l.length:Int)),(16,I (i:Int))]) (λ(i:Nat) (s:Int) w'=>ao w w'∧i≤l.length∧1≤s∧s≤16384∧iG 1 l=iG s (l.drop i)) (λ(i:Nat) (s:Int)=>l.length-i) (0) (1) (aP H) ⟨ao.refl _,G,G,G,H⟩ ?_))
   rintro i s w4 ⟨a,hi,j,k,d⟩
   refine T (U H (bO) (O (ah (bc H (λn=>?_) (λn=>?_)))))
   ·refine aH (al (ah (aR (T ?_))))
    obtain⟨A,C,y,z,h⟩:=bX (P:=Tryz.prog) (sz:=1) cd am el G (g.aL a) (i:=i) G .i64
    obtain⟨c,b⟩:∃e,e=l[i]'G:=⟨_,rfl⟩
    rw[←b] at h
    obtain rfl:=er h
    refine bF H (y _) (Y H (D aE H z.cell0) (Z H (O (ah (T (J H (U H (bO) (J H (cK (λo=>?_) (λo=>?_))))))))))
    ·refine L H (L H (bA H (J H (L H (L H (L H (L H (bA H (f ?_)))))))))
     refine al (bT H (T (Z H (O (aA (aI (bD (aI (aI (bD (aI (aM H ?_))))))))))))
     exact⟨_,H,a,aB B (y6 G d (by rw[←b];omega))⟩
    ·refine V H (J H (V H (U H (cY) (t H (J H ?_)))))
     refine cK (λp=>?_) (λp=>?_)
     ·refine L H (L H (L H (L H (bA H (O (bT H (T (Z H (O (aA (aI ?_)))))))))))
      refine bD (aI (aI (bD (aI (aM H ?_)))))
      exact⟨_,H,a,aB B (y6 G d (by rw[←b];omega))⟩
     ·refine V H (J H (V H (J H (V H ?_))))
      have x:=sN j k (show 1≤c by omega) (show c≤16384 by omega)
      refine U H (dh G G) (V H (U H (cY) (t H (O (bc H (λq=>?_) (λq=>?_))))))
      ·refine T (Z H (O (aA (aI (bD (aI (aI (bD (aI (aM H ?_))))))))))
       exact⟨_,H,a,aB B (y6 G d (by rw[←b];omega))⟩
      ·refine aH (al (ap (J H (J H ?_))))
       have x:=sN j k (show 1≤c by omega) (show c≤16384 by omega)
       refine U H (dh G G) (Z H (f (bE (al (ap (U H cD (J H (f (eI (i+1) (s*c) (aP H) ⟨a,G,G,G,by have:=O6 G d (by rw[←b];omega);rwa [←b] at this⟩ G)))))))))
   ·refine ce (aU (aU (cg (al (T (Z H (O (aA (aM H ?_)))))))))
    exact⟨_,H,a,aB B (O5 G (by rw[show l.length=i by omega];exact d))⟩
theorem xY {n a b:Int}:
 Calls Tryz.prog 255 #[I n,I a,I b] w (aJ λr w'=>w=w'∧r=B (decide (a≤n∧n≤b))):=by
 refine enter Tryz.func255 H H H (T (Z H (bB (J H (J H (U H (eU) (J H (cK (λc=>?_) (λc=>?_)))))))))
 ·refine V H (J H (V H (J H (V H (U H (uT) (bA H (Z H (O (aA (aM H ?_))))))))))
  exact⟨_,H,H,by
   first
   |exact aB B (cA.2 ⟨λh=>⟨G,h⟩,λh=>h.2⟩)
   |exact aB B (bi G).symm⟩
 ·refine L H (L H (L H (t H (Z H (O (aA (aM H ?_)))))))
  exact⟨_,H,H,by
   first
   |exact aB B (cA.2 ⟨λh=>⟨G,h⟩,λh=>h.2⟩)
   |exact aB B (bi G).symm⟩
def mH (n d:Int):Bool:=decide (0<n∧n≤16384∧n%d=0)
theorem JM {n d:Int} (e:0≤n) (c:1≤d):
 Calls Tryz.prog 257 #[I n,I d] w (aJ λr w'=>w=w'∧r=B (mH n d)):=by
 refine enter Tryz.func257 H H H (T (Z H (bB (J H (U H (cY) (J H (cK (λb=>?_) (λb=>?_))))))))
 ·refine V H (J H (V H (U H (uT) (bA H (J H ?_)))))
  refine cK (λa=>?_) (λa=>?_)
  ·refine V H (J H (V H (J H (V H (U H (xo G G) (V H (U H (aV) (bA H ?_))))))))
   refine Z H (O (aA (aM H ?_)))
   exact⟨_,H,H,by
    unfold mH
    first
    |exact aB B (cA.2 ⟨λh=>⟨G,G,h⟩,λh=>h.2.2⟩)
    |exact aB B (bi G).symm⟩
  ·refine L H (L H (L H (L H (t H (Z H (O (aA (aM H ?_))))))))
   exact⟨_,H,H,by
    unfold mH
    first
    |exact aB B (cA.2 ⟨λh=>⟨G,G,h⟩,λh=>h.2.2⟩)
    |exact aB B (bi G).symm⟩
 ·refine L H (L H (t H (J H (L H (L H (L H (L H (t H (Z H ?_)))))))))
  refine O (aA (aM H ?_))
  exact⟨_,H,H,by
   unfold mH
   first
   |exact aB B (cA.2 ⟨λh=>⟨G,G,h⟩,λh=>h.2.2⟩)
   |exact aB B (bi G).symm⟩
def fI (l:List df):Bool:=l.all λq=>rv q.1 q.2.1 q.2.2
def lB (l:List df):Prop:=∀q∈l,q.2.1.length≤1073741824∧q.2.2.length≤1073741824
theorem Co {l:List df} (hi:i<l.length):fI (l.drop i)=(rv l[i].1 l[i].2.1 l[i].2.2&&fI (l.drop (i+1))):=by
 rw[lE hi];rfl
theorem xX {l:List df} (h:aD dK l v w) (hs:lB l):
 Calls Tryz.prog 256 #[v] w (aJ λr w'=>ao w w'∧r=B (fI l)):=by
 refine enter Tryz.func256 H H H ?_
 have u:=h.len
 refine T (Z H (O (ah (T (Z H (O (aR (eg (α:=Nat) (λx=>[(0,v),(3,I (x:Int))]) (λx w'=>ao w w'∧x≤l.length∧fI l=fI (l.drop x)) (λx=>l.length-x) (0) (aP H) ⟨ao.refl _,G,H⟩ ?_))))))))
 rintro i w4 ⟨c,hi,g⟩
 refine ah (T (J H (J H (aW H (bP cn (h.aL c)) (U H (bO) (O (bc H (λo=>?_) (λo=>?_))))))))
 ·refine aH (al (ah (aR (T (J H (J H ?_))))))
  obtain⟨s,t,p,q,j⟩:=bX (P:=Tryz.prog) (sz:=3) cn am py G (h.aL c) (i:=i) G .i64
  obtain⟨a,d⟩:∃e,e=l[i]'G:=⟨_,rfl⟩
  rw[←d] at j
  obtain⟨C,D,rfl,m,n⟩:=su j
  refine bF H (p _) ?_
  have y:=hs a (by rw[d];exact eK _)
  refine Y H (q.ld bI H bW) (aC U5 H H ((Sx (bQ.mk m n) G G)) ?_)
  rintro z A ⟨k,rfl⟩
  refine cP H cW (O (lQ H (λb=>?_) (λb=>?_)))
  ·have b:rv a.1 a.2.1 a.2.2=false:=by simpa using b
   refine T (Z H (O (aA (bD (aI (aI (bD (aI (aM H ?_)))))))))
   exact⟨_,H,(c.ai k),by rw[g,Co G,←d,b];rfl⟩
  ·have b:rv a.1 a.2.1 a.2.2=true:=by simpa using b
   refine aH (bE (al (ap (J H (U H cD (Z H (f (ew (i+1) (aP H) ⟨(c.ai k),G,by rw[g,Co G,←d,b];rfl⟩ G))))))))
 ·refine ce (aU (aU (cg (al (T (Z H (O (aA (aM H ?_)))))))))
  exact⟨_,H,c,by rw[g,kT G];rfl⟩
def lU (l:cG):Bool:=decide ((1≤l.kh∧l.kh≤64)∧(1≤l.kw∧l.kw≤64)∧(1≤l.sr∧l.sr≤64))
def ri (l:cG):Bool:=decide ((l.ws.length:Int)=0∧(l.bs.length:Int)=0)
def oY (l:cG):Bool:=decide (l.kh=0∧l.kw=0∧l.sr=0∧l.pd=0)
def iE (l:cG) (i:Int):Prop:=
 if l.kd=1 then oY l=true∧l.fr=0∧(1≤l.ou∧l.ou≤16384)∧(l.bs.length:Int)=l.ou∧mH l.ws.length l.ou=true
 else if l.kd=2 then lU l=true∧l.fr=0∧l.pd≥0∧l.pd<l.kh∧l.pd<l.kw∧(1≤l.ou∧l.ou≤16384)∧(l.bs.length:Int)=l.ou∧mH l.ws.length (l.ou*l.kh*l.kw)=true
 else if l.kd=3∨l.kd=4 then lU l=true∧l.fr=0∧l.pd=0∧l.ou=0∧ri l=true
 else if l.kd=5∨l.kd=6 then oY l=true∧l.fr=0∧l.ou=0∧ri l=true
 else if l.kd=7 then oY l=true∧(-1≤l.fr∧l.fr≤i-1)∧l.ou=0∧ri l=true
 else False
instance (l:cG) (i:Int):Decidable (iE l i):=by unfold iE;infer_instance
def fJ (l:cG) (i:Int):Bool:=fI l.ws&&fI l.bs&&decide (iE l i)
section
variable {l:cG} {i:Int}
theorem wO (h:l.kd=1):iE l i↔oY l=true∧l.fr=0∧(1≤l.ou∧l.ou≤16384)∧(l.bs.length:Int)=l.ou∧mH l.ws.length l.ou=true:=by unfold iE;rw[if_pos h]
theorem sJ (h:l.kd=2):iE l i↔lU l=true∧l.fr=0∧l.pd≥0∧l.pd<l.kh∧l.pd<l.kw∧(1≤l.ou∧l.ou≤16384)∧(l.bs.length:Int)=l.ou∧mH l.ws.length (l.ou*l.kh*l.kw)=true:=by unfold iE;rw[if_neg G,if_pos h]
theorem wP (h:l.kd=3∨l.kd=4):iE l i↔lU l=true∧l.fr=0∧l.pd=0∧l.ou=0∧ri l=true:=by unfold iE;rw[if_neg G,if_neg G,if_pos h]
theorem yE (h:l.kd=5∨l.kd=6):iE l i↔oY l=true∧l.fr=0∧l.ou=0∧ri l=true:=by unfold iE;rw[if_neg G,if_neg G,if_neg G,if_pos h]
theorem yF (h:l.kd=7):iE l i↔oY l=true∧(-1≤l.fr∧l.fr≤i-1)∧l.ou=0∧ri l=true:=by unfold iE;rw[if_neg G,if_neg G,if_neg G,if_neg G,if_pos h]
theorem CK (h:¬(1≤l.kd∧l.kd≤7)):¬iE l i:=by unfold iE;rw[if_neg G,if_neg G,if_neg G,if_neg G,if_neg G];exact id
theorem CM (a:fI l.ws=true) (b:fI l.bs=true):fJ l i=decide (iE l i):=by unfold fJ;rw[a,b];rfl
theorem cp {c:Prop} (a:fI l.ws=true) (b:fI l.bs=true) (h:iE l i↔c) (d:¬c):false=fJ l i:=by rw[CM a b];exact(bi λx=>d (h.1 x)).symm
theorem iF {c:Prop} {b:Bool} (a:fI l.ws=true) (d:fI l.bs=true) (h:iE l i↔c) (e:c↔b=true):b=fJ l i:=by
 rw[CM a d,Bool.eq_iff_iff,qU,h,e]
end
theorem SE {a:cG} {x:Value} {i:Int} (ha:aD dK a.ws x w) (aq:aD dK a.bs y w) (hs:lB a.ws) (aw:lB a.bs) (hi:0≤i) (aG:i≤1073741824):
 Calls Tryz.prog 172 #[.agg #[I a.kd,I a.fr,I a.ou,I a.kh,I a.kw,I a.sr,I a.pd,x,y],I i] w (aJ λr w'=>ao w w'∧r=B (fJ a i)):=by
 refine enter (vs:=[.agg #[I a.kd,I a.fr,I a.ou,I a.kh,I a.kw,I a.sr,I a.pd,x,y],I i]) Tryz.func172 H H H (T (cE H H λg2 w2 l2 m l=>(Z H (O (ah (iS (λb:Bool=>[(1,I i),(2,.pointer (some ⟨g2,0,none⟩)),(5,B b)]) (λb w'=>w2=w'∧b=lU a) ?_ ?_))))))
 ·refine ap (c H (gq) (Y H (D aE H (l.cell (i:=3) H)) ?_))
  refine aC yi H H (xY) ?_
  rintro aK _ ⟨rfl,rfl⟩
  refine J H (cK (λag=>?_) (λag=>?_))
  ·refine V H (c H (gt) (V H (Y H (D aE H (l.cell (i:=4) H)) ?_)))
   refine V H (aC yi H H (xY) ?_)
   rintro aN _ ⟨rfl,rfl⟩
   refine bA H (J H (cK (λai=>?_) (λai=>?_)))
   ·refine V H (c H (js) (V H (Y H (D aE H (l.cell (i:=5) H)) ?_)))
    refine V H (aC yi H H (xY) ?_)
    rintro aQ _ ⟨rfl,rfl⟩
    refine bA H (Z H (f ?_))
    exact eu ((decide (1≤a.sr∧a.sr≤64))) (aP H) ⟨H,by
     unfold lU
     first
     |exact cA.2 ⟨λh=>⟨ag,ai,h⟩,λh=>h.2.2⟩
     |exact(bi (λh=>ai h.2.1)).symm
     |exact(bi (λh=>ag h.1)).symm⟩
   ·refine L H (L H (L H (t H (Z H (f ?_)))))
    exact eu (false) (aP H) ⟨H,by
     unfold lU
     first
     |exact cA.2 ⟨λh=>⟨ag,ai,h⟩,λh=>h.2.2⟩
     |exact(bi (λh=>ai h.2.1)).symm
     |exact(bi (λh=>ag h.1)).symm⟩
  ·refine L H (L H (L H (t H (J H (L H (L H (L H (t H (Z H ?_)))))))))
   refine f ?_
   exact eu (false) (aP H) ⟨H,by
    unfold lU
    first
    |exact cA.2 ⟨λh=>⟨ag,ai,h⟩,λh=>h.2.2⟩
    |exact(bi (λh=>ai h.2.1)).symm
    |exact(bi (λh=>ag h.1)).symm⟩
 rintro b5 _ ⟨rfl,n⟩
 refine al (ah (iS (λb:Bool=>[(1,I i),(2,.pointer (some ⟨g2,0,none⟩)),(5,B b5),(6,B b)]) (λb w'=>w2=w'∧b=ri a) ?_ ?_))
 ·refine ap (c H (gJ) (Y H (D cn H (l.cell (i:=7) H)) ?_))
  refine aW H (bP cn (ha.aL m)) (U H (aV) (J H (cK (λan=>?_) (λan=>?_))))
  ·refine V H (c H (lc) (V H (Y H (D cn H (l.cell (i:=8) H)) ?_)))
   refine V H (aW H (bP cn (aq.aL m)) (V H (U H (aV) (bA H (Z H (f ?_))))))
   exact eu ((decide ((a.bs.length:Int)=0))) (aP H) ⟨H,by
    unfold ri
    first
    |exact cA.2 ⟨λh=>⟨an,h⟩,λh=>h.2⟩
    |exact(bi (λh=>an h.1)).symm⟩
  ·refine L H (L H (L H (L H (t H (Z H (f ?_))))))
   exact eu (false) (aP H) ⟨H,by
    unfold ri
    first
    |exact cA.2 ⟨λh=>⟨an,h⟩,λh=>h.2⟩
    |exact(bi (λh=>an h.1)).symm⟩
 rintro b6 _ ⟨rfl,o⟩
 refine al (ah (iS (λb:Bool=>[(1,I i),(2,.pointer (some ⟨g2,0,none⟩)),(5,B b5),(6,B b6),(7,B b)]) (λb w'=>w2=w'∧b=oY a) ?_ ?_))
 ·refine ap (c H (gq) (Y H (D aE H (l.cell (i:=3) H)) ?_))
  refine U H (aV) (J H (cK (λaa=>?_) (λaa=>?_)))
  ·refine V H (c H (gt) (V H (Y H (D aE H (l.cell (i:=4) H)) ?_)))
   refine V H (U H (aV) (bA H (J H (cK (λab=>?_) (λab=>?_)))))
   ·refine V H (c H (js) (V H (Y H (D aE H (l.cell (i:=5) H)) ?_)))
    refine V H (U H (aV) (bA H (J H (cK (λad=>?_) (λad=>?_)))))
    ·refine V H (c H (ik) (V H (Y H (D aE H (l.cell (i:=6) H)) ?_)))
     refine V H (U H (aV) (bA H (Z H (f ?_))))
     exact eu ((decide (a.pd=0))) (aP H) ⟨H,by
      unfold oY
      first
      |exact cA.2 ⟨λh=>⟨aa,ab,ad,h⟩,λh=>h.2.2.2⟩
      |exact(bi (λh=>ad h.2.2.1)).symm
      |exact(bi (λh=>ab h.2.1)).symm
      |exact(bi (λh=>aa h.1)).symm⟩
    ·refine L H (L H (L H (t H (Z H (f ?_)))))
     exact eu (false) (aP H) ⟨H,by
      unfold oY
      first
      |exact cA.2 ⟨λh=>⟨aa,ab,ad,h⟩,λh=>h.2.2.2⟩
      |exact(bi (λh=>ad h.2.2.1)).symm
      |exact(bi (λh=>ab h.2.1)).symm
      |exact(bi (λh=>aa h.1)).symm⟩
   ·refine L H (L H (L H (t H (J H (L H (L H (L H (t H (Z H ?_)))))))))
    refine f ?_
    exact eu (false) (aP H) ⟨H,by
     unfold oY
     first
     |exact cA.2 ⟨λh=>⟨aa,ab,ad,h⟩,λh=>h.2.2.2⟩
     |exact(bi (λh=>ad h.2.2.1)).symm
     |exact(bi (λh=>ab h.2.1)).symm
     |exact(bi (λh=>aa h.1)).symm⟩
  ·refine L H (L H (L H (t H (J H (L H (L H (L H (t H (J H ?_)))))))))
   refine L H (L H (L H (t H (Z H (f ?_)))))
   exact eu (false) (aP H) ⟨H,by
    unfold oY
    first
    |exact cA.2 ⟨λh=>⟨aa,ab,ad,h⟩,λh=>h.2.2.2⟩
    |exact(bi (λh=>ad h.2.2.1)).symm
    |exact(bi (λh=>ab h.2.1)).symm
    |exact(bi (λh=>aa h.1)).symm⟩
 rintro b7 _ ⟨rfl,p⟩
 refine al (ah (ah ?_))
 rcases e:fI a.ws<;>rcases g:fI a.bs
 ·refine ap (c H (gJ) (Y H (D cn H (l.cell (i:=7) H)) ?_))
  refine aC yh H H ((by have:=xX (ha.aL m) hs;rw[e] at this;exact this)) ?_
  rintro v51 au ⟨j,rfl⟩
  refine cP H cW (J H (L H (L H (L H (L H (bA H (O (bT H (T (Z H (O (aA (aI (aM H ?_))))))))))))))
  exact⟨_,H,(m.ai j),aB B (by unfold fJ;rw[e];first|rfl|(rw[g];rfl))⟩
 ·refine ap (c H (gJ) (Y H (D cn H (l.cell (i:=7) H)) ?_))
  refine aC yh H H ((by have:=xX (ha.aL m) hs;rw[e] at this;exact this)) ?_
  rintro v51 au ⟨j,rfl⟩
  refine cP H cW (J H (L H (L H (L H (L H (bA H (O (bT H (T (Z H (O (aA (aI (aM H ?_))))))))))))))
  exact⟨_,H,(m.ai j),aB B (by unfold fJ;rw[e];first|rfl|(rw[g];rfl))⟩
 ·refine ap (c H (gJ) (Y H (D cn H (l.cell (i:=7) H)) ?_))
  refine aC yh H H ((by have:=xX (ha.aL m) hs;rw[e] at this;exact this)) ?_
  rintro v51 au ⟨j,rfl⟩
  refine cP H cW (J H (V H (c H (lc) (V H (Y H (D cn H (j.a0 (l.cell (i:=8) H))) (V H (aC yh H H ((by have:=xX (aq.aL (m.ai j)) aw;rw[g] at this;exact this)) ?_)))))))
  rintro ax av ⟨k,rfl⟩
  refine V H (cP H cW (t H (O (bT H (T (Z H (O (aA (aI (aM H ?_))))))))))
  exact⟨_,H,((m.ai j).ai k),aB B (by unfold fJ;rw[e];first|rfl|(rw[g];rfl))⟩
 ·refine ap (c H (gJ) (Y H (D cn H (l.cell (i:=7) H)) ?_))
  refine aC yh H H ((by have:=xX (ha.aL m) hs;rw[e] at this;exact this)) ?_
  rintro v51 au ⟨j,rfl⟩
  refine cP H cW (J H (V H (c H (lc) (V H (Y H (D cn H (j.a0 (l.cell (i:=8) H))) (V H (aC yh H H ((by have:=xX (aq.aL (m.ai j)) aw;rw[g] at this;exact this)) ?_)))))))
  rintro ax av ⟨k,rfl⟩
  refine V H (cP H cW (t H (O (be H (aH (al (ah (T (c H (et) (Y H (D aE H ((j.ai k).a0 (l.cell (i:=0) H))) (O (aR (T (U H (aV) (Z H (O (bc H (λaj=>?_) (λaj=>?_))))))))))))))))))
  ·refine ah ?_
   cases b7
   ·refine ap (J H (J H (L H (L H (L H (t H (J H (L H (L H (L H ?_))))))))))
    refine t H (J H (L H (L H (L H (L H (L H (L H (t H (J H (L H (L H (L H (L H (L H (L H (t H (Z H (O (aA (bD (aI (aM H ?_))))))))))))))))))))))
    exact⟨_,H,((m.ai j).ai k),by
     have d:=wO (i:=i) aj
     first
     |exact aB B (iF e g d ⟨λh=>h.2.2.2.2,λh=>⟨p.symm,N,C,P,h⟩⟩)
     |exact aB B (cp e g d λh=>P h.2.2.2.1)
     |exact aB B (cp e g d λh=>C h.2.2.1)
     |exact aB B (cp e g d λh=>N h.2.1)
     |exact aB B (cp e g d λh=>by rw[←p] at h;exact absurd h.1 aF)⟩
   ·refine ap (J H (J H (V H (c H (jr) (V H ?_)))))
    refine Y H (D aE H ((j.ai k).a0 (l.cell (i:=1) H))) (V H (U H (aV) (bA H (J H (cK (λN=>?_) (λN=>?_))))))
    ·refine V H (c H (f9) (V H (Y H (D aE H ((j.ai k).a0 (l.cell (i:=2) H))) ?_)))
     refine V H (aC yi H H (xY) ?_)
     rintro v72 _ ⟨rfl,rfl⟩
     refine bA H (J H (cK (λC=>?_) (λC=>?_)))
     ·refine V H (c H (lc) (V H (Y H (D cn H ((j.ai k).a0 (l.cell (i:=8) H))) ?_)))
      refine V H (aW H (bP cn (aq.aL ((m.ai j).ai k))) (V H (c H (f9) (V H (Y H (D aE H ((j.ai k).a0 (l.cell (i:=2) H))) (V H (U H (aV) (bA H (J H (cK (λP=>?_) (λP=>?_)))))))))))
      ·refine V H (c H (gJ) (V H (Y H (D cn H ((j.ai k).a0 (l.cell (i:=7) H))) ?_)))
       refine V H (aW H (bP cn (ha.aL ((m.ai j).ai k))) (V H (c H (f9) (V H (Y H (D aE H ((j.ai k).a0 (l.cell (i:=2) H))) (V H (aC K5 H H ((JM G C.1)) ?_)))))))
       rintro aT _ ⟨rfl,rfl⟩
       refine bA H (Z H (O (aA (bD (aI (aM H ?_))))))
       exact⟨_,H,((m.ai j).ai k),by
        have d:=wO (i:=i) aj
        first
        |exact aB B (iF e g d ⟨λh=>h.2.2.2.2,λh=>⟨p.symm,N,C,P,h⟩⟩)
        |exact aB B (cp e g d λh=>P h.2.2.2.1)
        |exact aB B (cp e g d λh=>C h.2.2.1)
        |exact aB B (cp e g d λh=>N h.2.1)
        |exact aB B (cp e g d λh=>by rw[←p] at h;exact absurd h.1 aF)⟩
      ·refine L H (L H (L H (L H (L H (L H (t H (Z H (O (aA (bD ?_))))))))))
       refine aI (aM H ?_)
       exact⟨_,H,((m.ai j).ai k),by
        have d:=wO (i:=i) aj
        first
        |exact aB B (iF e g d ⟨λh=>h.2.2.2.2,λh=>⟨p.symm,N,C,P,h⟩⟩)
        |exact aB B (cp e g d λh=>P h.2.2.2.1)
        |exact aB B (cp e g d λh=>C h.2.2.1)
        |exact aB B (cp e g d λh=>N h.2.1)
        |exact aB B (cp e g d λh=>by rw[←p] at h;exact absurd h.1 aF)⟩
     ·refine L H (L H (L H (L H (L H (L H (t H (J H (L H (L H ?_)))))))))
      refine L H (L H (L H (L H (t H (Z H (O (aA (bD (aI (aM H ?_))))))))))
      exact⟨_,H,((m.ai j).ai k),by
       have d:=wO (i:=i) aj
       first
       |exact aB B (iF e g d ⟨λh=>h.2.2.2.2,λh=>⟨p.symm,N,C,P,h⟩⟩)
       |exact aB B (cp e g d λh=>P h.2.2.2.1)
       |exact aB B (cp e g d λh=>C h.2.2.1)
       |exact aB B (cp e g d λh=>N h.2.1)
       |exact aB B (cp e g d λh=>by rw[←p] at h;exact absurd h.1 aF)⟩
    ·refine L H (L H (L H (t H (J H (L H (L H (L H (L H (L H ?_)))))))))
     refine L H (t H (J H (L H (L H (L H (L H (L H (L H (t H (Z H (O (aA (bD (aI (aM H ?_)))))))))))))))
     exact⟨_,H,((m.ai j).ai k),by
      have d:=wO (i:=i) aj
      first
      |exact aB B (iF e g d ⟨λh=>h.2.2.2.2,λh=>⟨p.symm,N,C,P,h⟩⟩)
      |exact aB B (cp e g d λh=>P h.2.2.2.1)
      |exact aB B (cp e g d λh=>C h.2.2.1)
      |exact aB B (cp e g d λh=>N h.2.1)
      |exact aB B (cp e g d λh=>by rw[←p] at h;exact absurd h.1 aF)⟩
  ·refine T (U H (aV) (Z H (O ?_)))
   refine bc H (λae=>?_) (λae=>?_)
   ·refine ah ?_
    cases b5
    ·refine ap (J H (J H (L H (L H (L H (t H (J H (L H (L H (L H ?_))))))))))
     refine t H (J H (L H (L H (L H (L H (L H (t H (J H (L H (L H (L H (L H (L H (t H (J H (L H (L H (L H (t H (J H (L H (L H (L H (L H (L H (L H (t H (J H (L H (L H (L H (L H (L H (L H (L H (L H (L H (L H (L H (L H (t H (Z H (O (aA (bD (aI (aM H ?_)))))))))))))))))))))))))))))))))))))))))))))))
     exact⟨_,H,((m.ai j).ai k),by
      have d:=sJ (i:=i) ae
      first
      |exact aB B (iF e g d ⟨λh=>h.2.2.2.2.2.2.2,λh=>⟨n.symm,A,s,u,v,q,z,h⟩⟩)
      |exact aB B (cp e g d λh=>z h.2.2.2.2.2.2.1)
      |exact aB B (cp e g d λh=>q h.2.2.2.2.2.1)
      |exact aB B (cp e g d λh=>v h.2.2.2.2.1)
      |exact aB B (cp e g d λh=>u h.2.2.2.1)
      |exact aB B (cp e g d λh=>s h.2.2.1)
      |exact aB B (cp e g d λh=>A h.2.1)
      |exact aB B (cp e g d λh=>by rw[←n] at h;exact absurd h.1 aF)⟩
    ·refine ap (J H (J H (V H (c H (jr) (V H ?_)))))
     refine Y H (D aE H ((j.ai k).a0 (l.cell (i:=1) H))) (V H (U H (aV) (bA H (J H (cK (λA=>?_) (λA=>?_))))))
     ·refine V H (c H (ik) (V H (Y H (D aE H ((j.ai k).a0 (l.cell (i:=6) H))) ?_)))
      refine V H (U H (eU) (bA H (J H (cK (λs=>?_) (λs=>?_)))))
      ·refine V H (c H (ik) (V H (Y H (D aE H ((j.ai k).a0 (l.cell (i:=6) H))) ?_)))
       refine V H (c H (gq) (V H (Y H (D aE H ((j.ai k).a0 (l.cell (i:=3) H))) (V H (U H (bO) (bA H (J H (cK (λu=>?_) (λu=>?_)))))))))
       ·refine V H (c H (ik) (V H (Y H (D aE H ((j.ai k).a0 (l.cell (i:=6) H))) ?_)))
        refine V H (c H (gt) (V H (Y H (D aE H ((j.ai k).a0 (l.cell (i:=4) H))) (V H (U H (bO) (bA H (J H (cK (λv=>?_) (λv=>?_)))))))))
        ·refine V H (c H (f9) (V H (Y H (D aE H ((j.ai k).a0 (l.cell (i:=2) H))) ?_)))
         refine V H (aC yi H H (xY) ?_)
         rintro aL _ ⟨rfl,rfl⟩
         refine bA H (J H (cK (λq=>?_) (λq=>?_)))
         ·refine V H (c H (lc) (V H (Y H (D cn H ((j.ai k).a0 (l.cell (i:=8) H))) ?_)))
          refine V H (aW H (bP cn (aq.aL ((m.ai j).ai k))) (V H (c H (f9) (V H (Y H (D aE H ((j.ai k).a0 (l.cell (i:=2) H))) (V H (U H (aV) (bA H (J H (cK (λz=>?_) (λz=>?_)))))))))))
          ·refine V H (c H (gJ) (V H (Y H (D cn H ((j.ai k).a0 (l.cell (i:=7) H))) ?_)))
           refine V H (aW H (bP cn (ha.aL ((m.ai j).ai k))) (V H (c H (f9) (V H (Y H (D aE H ((j.ai k).a0 (l.cell (i:=2) H))) (V H (c H (gq) (V H (Y H (D aE H ((j.ai k).a0 (l.cell (i:=3) H))) (V H ?_))))))))))
           have hk:=ip n.symm
           have m1:=sN q.1 q.2 hk.1.1 hk.1.2
           refine U H (dh G G) (V H (c H (gt) (V H (Y H (D aE H ((j.ai k).a0 (l.cell (i:=4) H))) (V H ?_)))))
           have m2:=sN m1.1 m1.2 hk.2.1.1 hk.2.1.2
           refine U H (dh G G) (V H (aC K5 H H ((JM G m2.1)) ?_))
           rintro aO _ ⟨rfl,rfl⟩
           refine bA H (Z H (O (aA (bD (aI (aM H ?_))))))
           exact⟨_,H,((m.ai j).ai k),by
            have d:=sJ (i:=i) ae
            first
            |exact aB B (iF e g d ⟨λh=>h.2.2.2.2.2.2.2,λh=>⟨n.symm,A,s,u,v,q,z,h⟩⟩)
            |exact aB B (cp e g d λh=>z h.2.2.2.2.2.2.1)
            |exact aB B (cp e g d λh=>q h.2.2.2.2.2.1)
            |exact aB B (cp e g d λh=>v h.2.2.2.2.1)
            |exact aB B (cp e g d λh=>u h.2.2.2.1)
            |exact aB B (cp e g d λh=>s h.2.2.1)
            |exact aB B (cp e g d λh=>A h.2.1)
            |exact aB B (cp e g d λh=>by rw[←n] at h;exact absurd h.1 aF)⟩
          ·refine L H (L H (L H (L H (L H (L H (L H (L H (L H (L H ?_)))))))))
           refine L H (L H (t H (Z H (O (aA (bD (aI (aM H ?_))))))))
           exact⟨_,H,((m.ai j).ai k),by
            have d:=sJ (i:=i) ae
            first
            |exact aB B (iF e g d ⟨λh=>h.2.2.2.2.2.2.2,λh=>⟨n.symm,A,s,u,v,q,z,h⟩⟩)
            |exact aB B (cp e g d λh=>z h.2.2.2.2.2.2.1)
            |exact aB B (cp e g d λh=>q h.2.2.2.2.2.1)
            |exact aB B (cp e g d λh=>v h.2.2.2.2.1)
            |exact aB B (cp e g d λh=>u h.2.2.2.1)
            |exact aB B (cp e g d λh=>s h.2.2.1)
            |exact aB B (cp e g d λh=>A h.2.1)
            |exact aB B (cp e g d λh=>by rw[←n] at h;exact absurd h.1 aF)⟩
         ·refine L H (L H (L H (L H (L H (L H (t H (J H (L H (L H ?_)))))))))
          refine L H (L H (L H (L H (L H (L H (L H (L H (L H (L H (t H (Z H (O (aA (bD (aI (aM H ?_))))))))))))))))
          exact⟨_,H,((m.ai j).ai k),by
           have d:=sJ (i:=i) ae
           first
           |exact aB B (iF e g d ⟨λh=>h.2.2.2.2.2.2.2,λh=>⟨n.symm,A,s,u,v,q,z,h⟩⟩)
           |exact aB B (cp e g d λh=>z h.2.2.2.2.2.2.1)
           |exact aB B (cp e g d λh=>q h.2.2.2.2.2.1)
           |exact aB B (cp e g d λh=>v h.2.2.2.2.1)
           |exact aB B (cp e g d λh=>u h.2.2.2.1)
           |exact aB B (cp e g d λh=>s h.2.2.1)
           |exact aB B (cp e g d λh=>A h.2.1)
           |exact aB B (cp e g d λh=>by rw[←n] at h;exact absurd h.1 aF)⟩
        ·refine L H (L H (L H (t H (J H (L H (L H (L H (L H (L H ?_)))))))))
         refine L H (t H (J H (L H (L H (L H (L H (L H (L H (L H (L H (L H (L H (L H (L H (t H (Z H (O (aA (bD (aI (aM H ?_)))))))))))))))))))))
         exact⟨_,H,((m.ai j).ai k),by
          have d:=sJ (i:=i) ae
          first
          |exact aB B (iF e g d ⟨λh=>h.2.2.2.2.2.2.2,λh=>⟨n.symm,A,s,u,v,q,z,h⟩⟩)
          |exact aB B (cp e g d λh=>z h.2.2.2.2.2.2.1)
          |exact aB B (cp e g d λh=>q h.2.2.2.2.2.1)
          |exact aB B (cp e g d λh=>v h.2.2.2.2.1)
          |exact aB B (cp e g d λh=>u h.2.2.2.1)
          |exact aB B (cp e g d λh=>s h.2.2.1)
          |exact aB B (cp e g d λh=>A h.2.1)
          |exact aB B (cp e g d λh=>by rw[←n] at h;exact absurd h.1 aF)⟩
       ·refine L H (L H (L H (L H (L H (t H (J H (L H (L H (L H ?_)))))))))
        refine t H (J H (L H (L H (L H (L H (L H (L H (t H (J H (L H (L H (L H (L H (L H (L H (L H (L H (L H (L H (L H (L H (t H (Z H (O (aA (bD (aI (aM H ?_))))))))))))))))))))))))))))
        exact⟨_,H,((m.ai j).ai k),by
         have d:=sJ (i:=i) ae
         first
         |exact aB B (iF e g d ⟨λh=>h.2.2.2.2.2.2.2,λh=>⟨n.symm,A,s,u,v,q,z,h⟩⟩)
         |exact aB B (cp e g d λh=>z h.2.2.2.2.2.2.1)
         |exact aB B (cp e g d λh=>q h.2.2.2.2.2.1)
         |exact aB B (cp e g d λh=>v h.2.2.2.2.1)
         |exact aB B (cp e g d λh=>u h.2.2.2.1)
         |exact aB B (cp e g d λh=>s h.2.2.1)
         |exact aB B (cp e g d λh=>A h.2.1)
         |exact aB B (cp e g d λh=>by rw[←n] at h;exact absurd h.1 aF)⟩
      ·refine L H (L H (L H (L H (L H (t H (J H (L H (L H (L H ?_)))))))))
       refine L H (L H (t H (J H (L H (L H (L H (t H (J H (L H (L H (L H (L H (L H (L H (t H (J H (L H (L H (L H (L H (L H (L H (L H (L H (L H (L H (L H (L H (t H (Z H (O (aA (bD (aI (aM H ?_)))))))))))))))))))))))))))))))))))
       exact⟨_,H,((m.ai j).ai k),by
        have d:=sJ (i:=i) ae
        first
        |exact aB B (iF e g d ⟨λh=>h.2.2.2.2.2.2.2,λh=>⟨n.symm,A,s,u,v,q,z,h⟩⟩)
        |exact aB B (cp e g d λh=>z h.2.2.2.2.2.2.1)
        |exact aB B (cp e g d λh=>q h.2.2.2.2.2.1)
        |exact aB B (cp e g d λh=>v h.2.2.2.2.1)
        |exact aB B (cp e g d λh=>u h.2.2.2.1)
        |exact aB B (cp e g d λh=>s h.2.2.1)
        |exact aB B (cp e g d λh=>A h.2.1)
        |exact aB B (cp e g d λh=>by rw[←n] at h;exact absurd h.1 aF)⟩
     ·refine L H (L H (L H (t H (J H (L H (L H (L H (L H (L H ?_)))))))))
      refine t H (J H (L H (L H (L H (L H (L H (t H (J H (L H (L H (L H (t H (J H (L H (L H (L H (L H (L H (L H (t H (J H (L H (L H (L H (L H (L H (L H (L H (L H (L H (L H (L H (L H (t H (Z H (O (aA (bD (aI (aM H ?_))))))))))))))))))))))))))))))))))))))))
      exact⟨_,H,((m.ai j).ai k),by
       have d:=sJ (i:=i) ae
       first
       |exact aB B (iF e g d ⟨λh=>h.2.2.2.2.2.2.2,λh=>⟨n.symm,A,s,u,v,q,z,h⟩⟩)
       |exact aB B (cp e g d λh=>z h.2.2.2.2.2.2.1)
       |exact aB B (cp e g d λh=>q h.2.2.2.2.2.1)
       |exact aB B (cp e g d λh=>v h.2.2.2.2.1)
       |exact aB B (cp e g d λh=>u h.2.2.2.1)
       |exact aB B (cp e g d λh=>s h.2.2.1)
       |exact aB B (cp e g d λh=>A h.2.1)
       |exact aB B (cp e g d λh=>by rw[←n] at h;exact absurd h.1 aF)⟩
   ·refine ah ?_
    refine iS (λb:Bool=>[(1,I i),(2,.pointer (some ⟨g2,0,none⟩)),(5,B b5),(6,B b6),(7,B b7),(60,I a.kd),(144,B b)]) (λb w'=>av=w'∧b=decide (a.kd=3∨a.kd=4)) ?_ ?_
    ·refine T (U H (aV) (Z H (O ?_)))
     refine bc H (λQ=>?_) (λQ=>?_)
     ·refine aH ?_
      exact eu ((decide (a.kd=3))) (aP H) ⟨H,by first|exact cA.2 G⟩
     ·refine ap (U H (aV) (Z H (f ?_)))
      exact eu ((decide (a.kd=4))) (aP H) ⟨H,by first|exact cA.2 G⟩
    rintro ay _ ⟨rfl,ak⟩
    refine al (lQ H (λQ=>?_) (λQ=>?_))
    ·refine ah ?_
     cases b5
     ·refine ap (J H (J H (L H (L H (L H (t H (J H (L H (L H (L H ?_))))))))))
      refine t H (J H (L H (L H (L H (t H (J H (L H (t H (Z H (O (aA (bD (aI (aM H ?_))))))))))))))
      exact⟨_,H,((m.ai j).ai k),by
       have d:=wP (i:=i) (ip (ak.symm.ai Q))
       first
       |exact aB B (iF e g d ⟨λh=>o.ai h.2.2.2.2,λh=>⟨n.symm,F,K,M,o.symm.ai h⟩⟩)
       |exact aB B (cp e g d λh=>M h.2.2.2.1)
       |exact aB B (cp e g d λh=>K h.2.2.1)
       |exact aB B (cp e g d λh=>F h.2.1)
       |exact aB B (cp e g d λh=>by rw[←n] at h;exact absurd h.1 aF)⟩
     ·refine ap (J H (J H (V H (c H (jr) (V H ?_)))))
      refine Y H (D aE H ((j.ai k).a0 (l.cell (i:=1) H))) (V H (U H (aV) (bA H (J H (cK (λF=>?_) (λF=>?_))))))
      ·refine V H (c H (ik) (V H (Y H (D aE H ((j.ai k).a0 (l.cell (i:=6) H))) ?_)))
       refine V H (U H (aV) (bA H (J H (cK (λK=>?_) (λK=>?_)))))
       ·refine V H (c H (f9) (V H (Y H (D aE H ((j.ai k).a0 (l.cell (i:=2) H))) ?_)))
        refine V H (U H (aV) (bA H (J H (cK (λM=>?_) (λM=>?_)))))
        ·refine V H (J H (bA H (Z H (O (aA (bD (aI (aM H ?_))))))))
         exact⟨_,H,((m.ai j).ai k),by
          have d:=wP (i:=i) (ip (ak.symm.ai Q))
          first
          |exact aB B (iF e g d ⟨λh=>o.ai h.2.2.2.2,λh=>⟨n.symm,F,K,M,o.symm.ai h⟩⟩)
          |exact aB B (cp e g d λh=>M h.2.2.2.1)
          |exact aB B (cp e g d λh=>K h.2.2.1)
          |exact aB B (cp e g d λh=>F h.2.1)
          |exact aB B (cp e g d λh=>by rw[←n] at h;exact absurd h.1 aF)⟩
        ·refine L H (t H (Z H (O (aA (bD (aI (aM H ?_)))))))
         exact⟨_,H,((m.ai j).ai k),by
          have d:=wP (i:=i) (ip (ak.symm.ai Q))
          first
          |exact aB B (iF e g d ⟨λh=>o.ai h.2.2.2.2,λh=>⟨n.symm,F,K,M,o.symm.ai h⟩⟩)
          |exact aB B (cp e g d λh=>M h.2.2.2.1)
          |exact aB B (cp e g d λh=>K h.2.2.1)
          |exact aB B (cp e g d λh=>F h.2.1)
          |exact aB B (cp e g d λh=>by rw[←n] at h;exact absurd h.1 aF)⟩
       ·refine L H (L H (L H (t H (J H (L H (t H (Z H (O (aA (bD ?_))))))))))
        refine aI (aM H ?_)
        exact⟨_,H,((m.ai j).ai k),by
         have d:=wP (i:=i) (ip (ak.symm.ai Q))
         first
         |exact aB B (iF e g d ⟨λh=>o.ai h.2.2.2.2,λh=>⟨n.symm,F,K,M,o.symm.ai h⟩⟩)
         |exact aB B (cp e g d λh=>M h.2.2.2.1)
         |exact aB B (cp e g d λh=>K h.2.2.1)
         |exact aB B (cp e g d λh=>F h.2.1)
         |exact aB B (cp e g d λh=>by rw[←n] at h;exact absurd h.1 aF)⟩
      ·refine L H (L H (L H (t H (J H (L H (L H (L H (t H (J H ?_)))))))))
       refine L H (t H (Z H (O (aA (bD (aI (aM H ?_)))))))
       exact⟨_,H,((m.ai j).ai k),by
        have d:=wP (i:=i) (ip (ak.symm.ai Q))
        first
        |exact aB B (iF e g d ⟨λh=>o.ai h.2.2.2.2,λh=>⟨n.symm,F,K,M,o.symm.ai h⟩⟩)
        |exact aB B (cp e g d λh=>M h.2.2.2.1)
        |exact aB B (cp e g d λh=>K h.2.2.1)
        |exact aB B (cp e g d λh=>F h.2.1)
        |exact aB B (cp e g d λh=>by rw[←n] at h;exact absurd h.1 aF)⟩
    ·refine ah ?_
     refine iS (λb:Bool=>[(1,I i),(2,.pointer (some ⟨g2,0,none⟩)),(5,B b5),(6,B b6),(7,B b7),(60,I a.kd),(166,B b)]) (λb w'=>av=w'∧b=decide (a.kd=5∨a.kd=6)) ?_ ?_
     ·refine T (U H (aV) (Z H (O ?_)))
      refine bc H (λaf=>?_) (λaf=>?_)
      ·refine aH ?_
       exact eu ((decide (a.kd=5))) (aP H) ⟨H,by first|exact cA.2 G⟩
      ·refine ap (U H (aV) (Z H (f ?_)))
       exact eu ((decide (a.kd=6))) (aP H) ⟨H,by first|exact cA.2 G⟩
     rintro az _ ⟨rfl,ar⟩
     refine al (lQ H (λaf=>?_) (λaf=>?_))
     ·refine ah ?_
      cases b7
      ·refine ap (J H (J H (L H (L H (L H (t H (J H (L H (L H (L H ?_))))))))))
       refine t H (J H (L H (t H (Z H (O (aA (bD (aI (aM H ?_)))))))))
       exact⟨_,H,((m.ai j).ai k),by
        have d:=yE (i:=i) (ip (ar.symm.ai af))
        first
        |exact aB B (iF e g d ⟨λh=>o.ai h.2.2.2,λh=>⟨p.symm,R,S,o.symm.ai h⟩⟩)
        |exact aB B (cp e g d λh=>S h.2.2.1)
        |exact aB B (cp e g d λh=>R h.2.1)
        |exact aB B (cp e g d λh=>by rw[←p] at h;exact absurd h.1 aF)⟩
      ·refine ap (J H (J H (V H (c H (jr) (V H ?_)))))
       refine Y H (D aE H ((j.ai k).a0 (l.cell (i:=1) H))) (V H (U H (aV) (bA H (J H (cK (λR=>?_) (λR=>?_))))))
       ·refine V H (c H (f9) (V H (Y H (D aE H ((j.ai k).a0 (l.cell (i:=2) H))) ?_)))
        refine V H (U H (aV) (bA H (J H (cK (λS=>?_) (λS=>?_)))))
        ·refine V H (J H (bA H (Z H (O (aA (bD (aI (aM H ?_))))))))
         exact⟨_,H,((m.ai j).ai k),by
          have d:=yE (i:=i) (ip (ar.symm.ai af))
          first
          |exact aB B (iF e g d ⟨λh=>o.ai h.2.2.2,λh=>⟨p.symm,R,S,o.symm.ai h⟩⟩)
          |exact aB B (cp e g d λh=>S h.2.2.1)
          |exact aB B (cp e g d λh=>R h.2.1)
          |exact aB B (cp e g d λh=>by rw[←p] at h;exact absurd h.1 aF)⟩
        ·refine L H (t H (Z H (O (aA (bD (aI (aM H ?_)))))))
         exact⟨_,H,((m.ai j).ai k),by
          have d:=yE (i:=i) (ip (ar.symm.ai af))
          first
          |exact aB B (iF e g d ⟨λh=>o.ai h.2.2.2,λh=>⟨p.symm,R,S,o.symm.ai h⟩⟩)
          |exact aB B (cp e g d λh=>S h.2.2.1)
          |exact aB B (cp e g d λh=>R h.2.1)
          |exact aB B (cp e g d λh=>by rw[←p] at h;exact absurd h.1 aF)⟩
       ·refine L H (L H (L H (t H (J H (L H (t H (Z H (O (aA (bD ?_))))))))))
        refine aI (aM H ?_)
        exact⟨_,H,((m.ai j).ai k),by
         have d:=yE (i:=i) (ip (ar.symm.ai af))
         first
         |exact aB B (iF e g d ⟨λh=>o.ai h.2.2.2,λh=>⟨p.symm,R,S,o.symm.ai h⟩⟩)
         |exact aB B (cp e g d λh=>S h.2.2.1)
         |exact aB B (cp e g d λh=>R h.2.1)
         |exact aB B (cp e g d λh=>by rw[←p] at h;exact absurd h.1 aF)⟩
     ·refine T (U H (aV) (Z H (O ?_)))
      refine bc H (λam=>?_) (λam=>?_)
      ·refine ah ?_
       cases b7
       ·refine ap (J H (J H (L H (L H (L H (L H (L H (t H (J H (L H ?_))))))))))
        refine L H (L H (t H (J H (L H (t H (Z H (O (aA (bD (aI (aM H ?_)))))))))))
        exact⟨_,H,((m.ai j).ai k),by
         have d:=yF (i:=i) am
         first
         |exact aB B (iF e g d ⟨λh=>o.ai h.2.2.2,λh=>⟨p.symm,W,X,o.symm.ai h⟩⟩)
         |exact aB B (cp e g d λh=>X h.2.2.1)
         |exact aB B (cp e g d λh=>W h.2.1)
         |exact aB B (cp e g d λh=>by rw[←p] at h;exact absurd h.1 aF)⟩
       ·refine ap (J H (J H (V H (c H (jr) (V H ?_)))))
        refine Y H (D aE H ((j.ai k).a0 (l.cell (i:=1) H))) (V H (J H (V H (U H dM (V H (aC yi H H (xY) ?_))))))
        rintro aS _ ⟨rfl,rfl⟩
        refine bA H (J H (cK (λW=>?_) (λW=>?_)))
        ·refine V H (c H (f9) (V H (Y H (D aE H ((j.ai k).a0 (l.cell (i:=2) H))) ?_)))
         refine V H (U H (aV) (bA H (J H (cK (λX=>?_) (λX=>?_)))))
         ·refine V H (J H (bA H (Z H (O (aA (bD (aI (aM H ?_))))))))
          exact⟨_,H,((m.ai j).ai k),by
           have d:=yF (i:=i) am
           first
           |exact aB B (iF e g d ⟨λh=>o.ai h.2.2.2,λh=>⟨p.symm,W,X,o.symm.ai h⟩⟩)
           |exact aB B (cp e g d λh=>X h.2.2.1)
           |exact aB B (cp e g d λh=>W h.2.1)
           |exact aB B (cp e g d λh=>by rw[←p] at h;exact absurd h.1 aF)⟩
         ·refine L H (t H (Z H (O (aA (bD (aI (aM H ?_)))))))
          exact⟨_,H,((m.ai j).ai k),by
           have d:=yF (i:=i) am
           first
           |exact aB B (iF e g d ⟨λh=>o.ai h.2.2.2,λh=>⟨p.symm,W,X,o.symm.ai h⟩⟩)
           |exact aB B (cp e g d λh=>X h.2.2.1)
           |exact aB B (cp e g d λh=>W h.2.1)
           |exact aB B (cp e g d λh=>by rw[←p] at h;exact absurd h.1 aF)⟩
        ·refine L H (L H (L H (t H (J H (L H (t H (Z H (O (aA (bD ?_))))))))))
         refine aI (aM H ?_)
         exact⟨_,H,((m.ai j).ai k),by
          have d:=yF (i:=i) am
          first
          |exact aB B (iF e g d ⟨λh=>o.ai h.2.2.2,λh=>⟨p.symm,W,X,o.symm.ai h⟩⟩)
          |exact aB B (cp e g d λh=>X h.2.2.1)
          |exact aB B (cp e g d λh=>W h.2.1)
          |exact aB B (cp e g d λh=>by rw[←p] at h;exact absurd h.1 aF)⟩
      ·refine aH (bE (al (T (Z H (O (aA (aM H ?_)))))))
       exact⟨_,H,((m.ai j).ai k),by
        have k1:=G9 (ak.symm.ai Q)
        have l:=G9 (ar.symm.ai af)
        rw[CM e g];exact aB B (bi (CK G)).symm⟩
def lV:Nat→List cG→Bool
 |_,[]=>true
 |i,l::t=>fJ l i&&lV (i+1) t
def gl (m:fj):Bool:=dF m.inp&&decide (m.lays.length≤64)&&lV 0 m.lays
def qh (m:fj):Prop:=∀l∈m.lays,lB l.ws∧lB l.bs
theorem CN {l:List cG} (hi:i<l.length):lV i (l.drop i)=(fJ l[i] i&&lV (i+1) (l.drop (i+1))):=by
 rw[lE hi];rfl
theorem Fk {m:fj} {x:Value} (q:aD bJ m.inp x w) (h:aD gp m.lays y w) (hs:qh m):
 Calls Tryz.prog 91 #[.agg #[x,y]] w (aJ λr w'=>ao w w'∧r=B (gl m)):=by
 refine enter (vs:=[.agg #[x,y]]) Tryz.func91 H H H ?_
 have Q:=h.len
 refine T (cE H H λg1 w1 R x1 g=>(Z H (O (ah (ah ?_)))))
 rcases hc:dF m.inp
 ·refine ap (c H (jt) (Y H (D cd H (g.cell (i:=0) H)) ?_))
  refine aC sd H H ((by have:=rY (q.aL x1);rw[hc] at this;exact this)) ?_
  rintro K M ⟨b,rfl⟩
  refine cP H cW (J H (L H (L H (L H (L H (bA H (O (bT H (T (Z H (O (aA (aI (aM H ?_))))))))))))))
  exact⟨_,H,(x1.ai b),aB B (by unfold gl;rw[hc];first|rfl|(rw[bi G];rfl))⟩
 ·refine ap (c H (jt) (Y H (D cd H (g.cell (i:=0) H)) ?_))
  refine aC sd H H ((by have:=rY (q.aL x1);rw[hc] at this;exact this)) ?_
  rintro K M ⟨b,rfl⟩
  refine cP H cW (J H (V H (c H (gE) (V H (Y H (D dP H (b.a0 (g.cell (i:=1) H))) (V H (aW H (bP dP (h.aL (x1.ai b))) (V H (U H (cY) (t H (O (bc H (λz=>?_) (λz=>?_)))))))))))))
  ·refine T (Z H (O (aA (aI (aM H ?_)))))
   exact⟨_,H,(x1.ai b),aB B (by unfold gl;rw[hc];first|rfl|(rw[bi G];rfl))⟩
  ·refine aH (al (ah (T (Z H (O (aR ?_))))))
   refine eg (α:=Nat) (λx=>[(1,.pointer (some ⟨g1,0,none⟩)),(3,I (x:Int))]) (λx w'=>ao w w'∧ao w1 w'∧x≤m.lays.length∧lV 0 m.lays=lV x (m.lays.drop x)) (λx=>m.lays.length-x) (0) (aP H) ⟨(x1.ai b),b,G,H⟩ ?_
   rintro i w4 ⟨d,k,hi,n⟩
   refine ah (T (J H (c H (gE) (Y H (D dP H (k.a0 (g.cell (i:=1) H))) (aW H (bP dP (h.aL d)) (U H (bO) (O (bc H (λA=>?_) (λA=>?_)))))))))
   ·refine aH (al (ah (aR (T (c H (gE) (Y H (D dP H (k.a0 (g.cell (i:=1) H))) ?_))))))
    refine J H ?_
    obtain⟨a24,N,C,F,p⟩:=bX (P:=Tryz.prog) (sz:=9) dP am tF G (h.aL d) (i:=i) G .i64
    obtain⟨l,j⟩:∃e,e=m.lays[i]'G:=⟨_,rfl⟩
    rw[←j] at p
    obtain⟨X,aa,rfl,u,v⟩:=wi p
    refine bF H (C _) ?_
    have s:=hs l (by rw[j];exact eK _)
    refine Y H (F.ld dG H eJ) (J H (aC Vb H H ((SE u v s.1 s.2 G G)) ?_))
    rintro S W ⟨o,rfl⟩
    refine cP H cW (O (lQ H (λa=>?_) (λa=>?_)))
    ·have a:fJ l i=false:=by simpa using a
     refine T (Z H (O (aA (bD (aI (aI (bD (aI (aM H ?_)))))))))
     exact⟨_,H,(d.ai o),aB B (by unfold gl;rw[n,CN G,←j,a];simp)⟩
    ·have a:fJ l i=true:=by simpa using a
     refine aH (bE (al (ap (J H (U H cD (Z H (f (ew (i+1) (aP H) ⟨(d.ai o),(k.ai o),G,by rw[n,CN G,←j,a];rfl⟩ G))))))))
   ·refine ce (aU (aU (cg (al (T (Z H (O (aA (aM H ?_)))))))))
    exact⟨_,H,d,aB B (by unfold gl;rw[hc,n,kT G,dH G];rfl)⟩
theorem uy:aY Tryz.prog 43:=⟨_,Tryz.func43,am,rfl⟩
theorem Am:aY Tryz.prog 32:=⟨_,Tryz.func32,am,rfl⟩
theorem FJ:aY Tryz.prog 315:=⟨_,Tryz.func315,am,rfl⟩
def cS (l:List Int):Int:=l.foldl (· * ·) 1
theorem NQ {l:List Int} (h:i<l.length):cS (l.take (i+1))=cS (l.take i)*l[i]:=by
 unfold cS
 rw[fi h,xJ];rfl
theorem vd {l:List Int} (h:dF l=true):(1≤l.length∧l.length≤4)∧iG 1 l=true:=by
 unfold dF at h
 rwa [ex,gI] at h
theorem HV {l:List Int} {s:Int} (hi:i<l.length) (h:iG s (l.drop i)=true):(1≤l[i]∧l[i]≤16384∧s*l[i]≤16384)∧iG (s*l[i]) (l.drop (i+1))=true:=by
 rwa [HW hi,ex,gI] at h
theorem uf {l:List Int} (a:aD bJ l v w) (hs:dF l=true):
 Calls Tryz.prog 43 #[v] w (aJ λr w'=>ao w w'∧r=I (cS l)):=by
 refine enter Tryz.func43 H H H ?_
 obtain⟨⟨L,M⟩,y⟩:=vd hs
 have N:=a.len
 refine T (Z H (O (ah (T (J H (aC ye H H ((by have h:=xD (l:=l) a;rw[hs] at h;exact h)) ?_))))))
 rintro Q R ⟨n,rfl⟩
 refine cP H cW (O (be H (aH (al (T (Z H (O (ah (T (J H (aW H (bP cd (a.aL n)) (J H (O (aR (fp (λ(i:Nat) (s:Int)=>[(3,I s),(9,v),(10,I (l.length:Int)),(11,I (i:Int))]) (λ(i:Nat) (s:Int) w'=>ao w w'∧i≤l.length∧s=cS (l.take i)∧1≤s∧s≤16384∧iG s (l.drop i)=true) (λ(i:Nat) (s:Int)=>l.length-i) (0) (1) (aP H) ⟨n,G,H,G,G,y⟩ ?_)))))))))))))))
 rintro i s w4 ⟨b,hi,m,u,x,q⟩
 refine T (U H (bO) (O (ah (bc H (λp=>?_) (λp=>?_)))))
 ·refine aH (al (ah (aR (T ?_))))
  obtain⟨C,F,z,A,d⟩:=bX (P:=Tryz.prog) (sz:=1) cd am el G (a.aL b) (i:=i) G .i64
  obtain⟨o,c⟩:∃e,e=l[i]'G:=⟨_,rfl⟩
  rw[←c] at d
  obtain rfl:=er d
  refine bF H (z _) ?_
  obtain⟨⟨g,j,t⟩,k⟩:=HV G q
  rw[←c] at g j t k
  have K:=sN u x g j
  refine Y H (D aE H A.cell0) (Z H (O (ap (J H (J H (U H (dh G G) (Z H (f (bE (al (ap (U H cD (J H (f (eI (i+1) (s*o) (aP H) ⟨b,G,by rw[m,c];exact(NQ G).symm,G,G,k⟩ G)))))))))))))))
 ·refine ce (aU (aU (cg (al (T (J H (Z H (O (aA (aM H ?_))))))))))
  exact⟨_,H,b,by rw[m,show i=l.length by omega,fL]⟩
theorem zM {l:List Int} (b:aD bJ l v w) (hs:dF l=true):
 Calls Tryz.prog 32 #[v] w (aJ λr w'=>ao w w'∧r=I (cS l)):=by
 refine enter Tryz.func32 H H H ?_
 obtain⟨⟨L,M⟩,x⟩:=vd hs
 have N:=b.len
 refine T (Z H (O (ah (T (J H (aC sd H H ((by have h:=rY (l:=l) b;rw[hs] at h;exact h)) ?_))))))
 rintro Q R ⟨A,rfl⟩
 refine cP H cW (O (be H (aH (al (T (Z H (O (ah (T (Z H (O (aR (fp (λ(i:Nat) (s:Int)=>[(0,v),(3,I s),(4,I (i:Int))]) (λ(i:Nat) (s:Int) w'=>ao w w'∧i≤l.length∧s=cS (l.take i)∧1≤s∧s≤16384∧iG s (l.drop i)=true) (λ(i:Nat) (s:Int)=>l.length-i) (0) (1) (aP H) ⟨A,G,H,G,G,x⟩ ?_)))))))))))))
 rintro i s w4 ⟨a,hi,m,t,u,p⟩
 refine ah (T (J H (J H (aW H (bP cd (b.aL a)) (U H (bO) (O (bc H (λo=>?_) (λo=>?_))))))))
 ·refine aH (al (ah (aR (ap (J H (J H (J H ?_)))))))
  obtain⟨C,F,y,z,d⟩:=bX (P:=Tryz.prog) (sz:=1) cd am el G (b.aL a) (i:=i) G .i64
  obtain⟨n,c⟩:∃e,e=l[i]'G:=⟨_,rfl⟩
  rw[←c] at d
  obtain rfl:=er d
  refine bF H (y _) ?_
  obtain⟨⟨g,j,q⟩,k⟩:=HV G p
  rw[←c] at g j q k
  have K:=sN t u g j
  refine Y H (D aE H z.cell0) (U H (dh G G) (Z H (f (bE (al (ap (J H (U H cD (Z H (f (eI (i+1) (s*n) (aP H) ⟨a,G,by rw[m,c];exact(NQ G).symm,G,G,k⟩ G)))))))))))
 ·refine ce (aU (aU (cg (al (T (J H (Z H (O (aA (aM H ?_))))))))))
  exact⟨_,H,a,by rw[m,show i=l.length by omega,fL]⟩
theorem Ed {n:Int}:Calls Tryz.prog 315 #[I n] w (aJ λr w'=>ao w w'∧r=B (decide (1≤n)&&decide (n≤64))):=by
 refine enter Tryz.func315 H H H (T (Z H (O (ah ?_))))
 rcases(show(1≤n∧n≤64)∨(1≤n∧¬n≤64)∨¬1≤n by omega) with a|a|a
 ·refine ap (J H (U H (cu G eU) (J H (V H (J H (V H (U H (cu G uT) ?_)))))))
  refine bA H (Z H (O (aA (aM H ?_))))
  exact⟨_,H,ao.refl _,by rw[dH a.1,dH a.2];rfl⟩
 ·refine ap (J H (U H (cu G eU) (J H (V H (J H (V H (U H (aX G uT) ?_)))))))
  refine bA H (Z H (O (aA (aM H ?_))))
  exact⟨_,H,ao.refl _,by rw[dH a.1,bi a.2];rfl⟩
 ·refine ap (J H (U H (aX G eU) (J H (L H (L H (t H (Z H (f ?_))))))))
  refine al (aA (aM H ?_))
  exact⟨_,H,ao.refl _,by rw[bi a];rfl⟩
section
variable {P:Program} {Q:eV} {N:Nat} {D:List Deferred}
def jW:List Oper→Nat→Nat→List Oper
 |[],_,_=>[]
 |o::os,0,q=>⟨o.dst,o.op,o.type,o.pos,o.after.push ⟨q,.phase⟩,o.guard⟩::os
 |o::os,m+1,q=>o::jW os m q
theorem zV:∀(os:List Oper) (m q:Nat),(jW os m q).length=os.length
 |[],_,_=>rfl
 |_::_,0,_=>rfl
 |o::os,m+1,q=>by simp only[jW,cw,zV os m q]
theorem B1:∀(os:List Oper) (m q i:Nat),i≠m→(jW os m q)[i]? =os[i]?
 |[],_,_,_,_=>rfl
 |_::_,0,_,0,h=>absurd rfl h
 |_::_,0,_,i+1,_=>by simp[jW]
 |_::_,m+1,_,0,_=>by simp[jW]
 |o::os,m+1,q,i+1,h=>by simpa [jW] using B1 os m q i G
theorem zU:∀(os:List Oper) (m q:Nat) (o:Oper),os[m]? =some o→(jW os m q)[m]? =some ⟨o.dst,o.op,o.type,o.pos,o.after.push ⟨q,.phase⟩,o.guard⟩
 |[],_,_,_,h=>by simp at h
 |o::os,0,q,o',h=>by
  obtain rfl:o=o':=by simpa using h
  simp[jW]
 |o::os,m+1,q,o',h=>by simpa [jW] using zU os m q o' (by simpa using h)
theorem AL {os:List Oper} {m:Nat} {listed:Array Bool}:i∈Region.ready .any (jW os m q).toArray listed↔i∈Region.ready .any os.toArray listed∧(i=m→listed.getD q false=true):=by
 rw[mem_ready,mem_ready]
 by_cases j:i=m
 ·subst j
  constructor
  ·rintro⟨f,o',k,c⟩
   have d:(jW os i q)[i]? =some o':=by simpa using k
   cases b:os[i]? with
   |none=>
    have:os.length≤i:=zu.1 b
    rw[zu.2 (by rw[zV];exact this)] at d
    cases d
   |some o=>
    rw[zU os i q o b] at d
    obtain rfl:=cC d
    exact⟨⟨f,o,by simpa using b,λe a g=>c e (Array.mem_push_of_mem _ a) g⟩,λ_=>c ⟨q,.phase⟩ Array.mem_push_self H⟩
  ·rintro⟨⟨f,o,b,c⟩,n⟩
   have k:os[i]? =some o:=by simpa using b
   refine⟨f,_,by simpa using zU os i q o k,λe a g=>?_⟩
   rcases Array.mem_push.1 a with a|rfl
   ·exact c e a g
   ·exact n H
 ·have e:(jW os m q).toArray[i]? =os.toArray[i]? :=by simpa using B1 os m q i j
  rw[e]
  exact⟨λh=>⟨h,λl=>absurd l j⟩,λh=>h.1⟩
theorem aaP (os:List Oper) (m q:Nat) (ts:Array Value):yielded (jW os m q).toArray ts=yielded os.toArray ts:=by
 funext j
 unfold yielded
 by_cases b:j=m
 ·subst b
  cases a:os[j]? with
  |none=>
   have:os.length≤j:=zu.1 a
   rw[nV,nV,a,zu.2 (by rw[zV];exact this)]
  |some o=>rw[nV,nV,a,zU os j q o a];rfl
 ·rw[nV,nV,B1 os m q j b]
theorem P5 {os:List Oper} {m:Nat} {K:Act→World→Prop} {a:Act}:wpOp P (jW os m q).toArray Q i K a w↔wpOp P os.toArray Q i K a w:=by
 unfold wpOp
 rw[aaP]
 by_cases c:i=m
 ·subst c
  cases b:os[i]? with
  |none=>
   have:os.length≤i:=zu.1 b
   rw[nV,nV,b,zu.2 (by rw[zV];exact this)]
  |some o=>rw[nV,nV,b,zU os i q o b];exact Iff.rfl
 ·rw[nV,nV,B1 os m q i c]
def LM (os:List Oper) (m q:Nat):Bool:=match os[q]?,os[m]? with
 |some oq,some om=>oq.after.all λe=> !Region.binds .any e||om.after.any λe'=>Region.binds .any e'&&decide (e'.on=e.on)
 |_,_=>false
def LN (os:List Oper) (q:Nat):Array Bool:=match os[q]? with
 |some oq=>Array.ofFn λj:Fin os.length=>oq.after.any λe=>Region.binds .any e&&decide (e.on=j.val)
 |none=>#[]
def DX (os:List Oper) (m q:Nat):Bool:=
 decide (m≠q)&&decide (q<os.length)&&(match os[q]? with|some o=>uO o|none=>false)&&Region.noSelect os.toArray&&Region.free .any os.toArray (LN os q) q&&LM os m q
theorem aaM {os:List Oper} {m:Nat} (F:DX os m q=true) (hQ:∀c a w,¬Q (.panic c) a w) (Y:¬LetsOut Q):∀(fuel:Nat) (listed:Array Bool) (a:Act) (w:World),q<listed.size→wpAny P .any (jW os m q).toArray Q fuel listed a w→wpAny P .any os.toArray Q fuel listed a w:=by
 simp only[DX,ex,gI] at F
 obtain⟨⟨⟨⟨⟨J,ae⟩,g⟩,ag⟩,T⟩,y⟩:=F
 obtain⟨n,p⟩:∃o,os[q]? =some o:=⟨_,fy ae⟩
 rw[p] at g
 have g:uO n=true:=g
 have l:os.toArray[q]? =some n:=by simpa using p
 have S:=Region.free_spec l T
 have key:∀listed:Array Bool,q<listed.size→m∈Region.ready .any os.toArray listed→¬listed.getD q false=true→q∈Region.ready .any os.toArray listed:=by
  intro listed k hm d
  obtain⟨_,om,Z,t⟩:=mem_ready.1 hm
  refine mem_ready.2 ⟨?_,n,l,λe z O=>?_⟩
  ·cases H:listed.getD q true with
   |false=>rfl
   |true=>
    refine absurd ?_ d
    simp only[Array.getD,k,wm] at H⊢
    exact H
  ·unfold LM at y
   have aa:os[m]? =some om:=by simpa using Z
   rw[p,aa] at y
   have b:=(Array.all_eq_true'.1 y) e z
   simp only[xG,Bool.not_eq_true'] at b
   rcases b with b|b
   ·rw[O] at b;cases b
   ·obtain⟨M,R,f⟩:=Array.any_eq_true'.1 b
    simp only[ex,gI] at f
    rw[←f.2]
    exact t M R f.1
 have K:∀a:Act,Region.wanted n (yielded os.toArray a.tmps)=true:=λa=>by
  unfold uO at g
  simp only[ex,Option.isNone_iff_eq_none] at g
  unfold Region.wanted
  rw[g.1.1]
 intro fuel
 induction fuel with
 |zero=>
  intro listed a w k h
  refine⟨?_,h.2⟩
  cases C:Region.ready .any os.toArray listed with
  |nil=>rfl
  |cons i is=>
   exfalso
   have hi:i∈Region.ready .any os.toArray listed:=by rw[C];simp
   by_cases u:i=m→listed.getD q false=true
   ·have:=AL (q:=q)|>.2 ⟨hi,u⟩
    rw[h.1] at this;cases this
   ·have V:i=m:=Decidable.byContradiction λh=>u λs=>absurd s h
    subst V
    have d:¬listed.getD q false=true:=λh=>u λ_=>h
    have:=AL (m:=i) (q:=q)|>.2 ⟨key listed k hi d,λe=>absurd e.symm J⟩
    rw[h.1] at this;cases this
 |succ fuel L=>
  intro listed a w k h
  by_cases d:q∈Region.ready .any os.toArray listed
  ·have ad:q∈Region.ready .any (jW os m q).toArray listed:=AL.2 ⟨d,λe=>absurd e.symm J⟩
   have b:=P5.1 (h.2 q ad)
   unfold wpOp at b
   rw[l] at b
   dsimp only at b
   rw[if_pos (K a)] at b
   have b:=b.resolve_right λh=>Y h.2
   unfold Oper.wp at b
   rcases NU (P:=P) g a.eval with⟨v,r⟩|⟨x,hx,r⟩
   ·rw[r w] at b
    exact wpAny_first l (Region.noSelect_spec ag) (λc a w hp=>absurd hp (hQ _ _ _)) fuel listed a w (λj oj G X ah A=>S j oj G X (by
     have W:j<os.length:=by simpa using(jB.1 G).1
     unfold LN
     rw[p]
     dsimp only
     simp only[Array.getD,Array.size_ofFn,W,wm]
     show(Array.ofFn _)[j]'_=false
     rw[Array.getElem_ofFn]
     refine Bool.eq_false_iff.2 λN=>?_
     obtain⟨e,z,f⟩:=Array.any_eq_true'.1 N
     simp only[ex,gI] at f
     obtain⟨_,ai,ab,t⟩:=mem_ready.1 d
     obtain rfl:n=ai:=cC (l.symm.ai ab)
     have D:=t e z f.1
     rw[f.2,getD_both ah] at D
     cases D) A) d (.inl ⟨K a,r⟩) (L _ _ _ (by simpa using k) b)
   ·rw[r w] at b
    cases x<;>first|exact absurd rfl (hx _)|exact b.elim
  ·refine⟨λC=>h.1 ?_,λi hi=>?_⟩
   ·cases af:Region.ready .any (jW os m q).toArray listed with
    |nil=>rfl
    |cons i is=>
     have hi:i∈Region.ready .any (jW os m q).toArray listed:=by rw[af];simp
     have:=(AL.1 hi).1
     rw[C] at this;cases this
   ·have U:i∈Region.ready .any (jW os m q).toArray listed:=by
     refine AL.2 ⟨hi,λe=>?_⟩
     subst e
     exact Decidable.byContradiction λA=>d (key listed k hi A)
    exact wpOp_mono (λa' w' s=>L _ _ _ (by simpa using k) s) (P5.1 (h.2 i U))
def jp (os:List Oper):List (Nat×Nat)→List Oper
 |[]=>os
 |p::ps=>jW (jp os ps) p.1 p.2
def yq (os:List Oper):List (Nat×Nat)→Bool
 |[]=>true
 |p::ps=>yq os ps&&DX (jp os ps) p.1 p.2
theorem B7 (os:List Oper):∀ps,(jp os ps).length=os.length
 |[]=>rfl
 |p::ps=>by rw[jp,zV,B7 os ps]
theorem Ii {os:List Oper} (hQ:∀c a w,¬Q (.panic c) a w) (d:¬LetsOut Q):∀(ps:List (Nat×Nat)),yq os ps=true→∀(fuel:Nat) (listed:Array Bool) (a:Act) (w:World),listed.size=os.length→wpAny P .any (jp os ps).toArray Q fuel listed a w→wpAny P .any os.toArray Q fuel listed a w
 |[],_,_,_,_,_,_,h=>h
 |p::ps,hB,fuel,listed,a,w,hsz,h=>by
  simp only[yq,ex] at hB
  refine Ii hQ d ps hB.1 fuel listed a w hsz (aaM hB.2 hQ d fuel listed a w ?_ h)
  have b:=hB.2
  simp only[DX,ex,gI] at b
  have:=b.1.1.1.1.2
  rw[B7] at this
  omega
theorem Ts {l:Fr} {id:Nat} {os:List Oper} (n:Nat) (ps:List (Nat×Nat)) (perm:List Nat) (ts:List Nat) (Env:World→Prop) (Rl:World→World→Prop) (mo:Bool) (Z:ee) (m:ki Env Rl) (b:Env w) (q:ig Z) (g:Z w) (s:mo=true→nE .any (jp os ps).toArray=true) (hm:P.follows .mixedOrders=true) (o:yq os ps=true) (k:yA (jp os ps).toArray n perm=true) (d:(perm.all λi=>decide (i<(jp os ps).length))=true)
 (h:cj P (jp os ps).toArray Env Rl mo rV N ((jp os ps).take n) (iU l) Z (λF Z=>∀w',Env w'→Z w'→kU F w' ts (λl'=>bK P (jp os ps).toArray (gn Q) N D l' w' (nk (jp os ps) perm)))):dS P Q N D l w (.region id os.toArray true):=λa r=>by
 refine wp_mono (wp_region_any (Q:=gn Q) hm ?_) λe a w b=>by obtain⟨rfl,h⟩:=b;exact h
 have j:=P6 (D:=D) (Q:=Q) m (λ_ _ h=>h) s k d (ww l) q g b (OZ (w:={w with drawn:=w.drawn+1}) r) (tm _ _ _ (λF Z p f w' b hs g=>by
  obtain⟨l',u,t⟩:=kU.use hs (p w' b g)
  exact t f u:∀F (Z:ee),_→(∀f w',Env w'→lL N D F f w'→Z w'→wpList P (jp os ps).toArray (gn Q) (nk (jp os ps) perm) f w')) h)
 have e:(jp os ps).toArray.size=os.toArray.size:=by simpa using B7 os ps
 rw[e] at j
 exact Ii (λc a w d=>by obtain⟨d,_⟩:=d;cases d) Nw ps o _ _ a _ aj j
theorem FE {l:Fr} {id:Nat} {os:List Oper} (n:Nat) (ps:List (Nat×Nat)) (perm:List Nat) (ts:List Nat) (hm:P.follows .mixedOrders=true) (b:yq os ps=true) (a:yA (jp os ps).toArray n perm=true) (d:(perm.all λi=>decide (i<(jp os ps).length))=true)
 (h:cj P (jp os ps).toArray (ao w) ao false rV N ((jp os ps).take n) (iU l) (λ_=>True) (λF _=>∀w',ao w w'→kU F w' ts (λl'=>bK P (jp os ps).toArray (gn Q) N D l' w' (nk (jp os ps) perm)))):dS P Q N D l w (.region id os.toArray true):=
 Ts n ps perm ts (ao w) ao false (λ_=>True) (ki.plain w) (ao.refl w) ig.dg trivial (λh=>by cases h) hm b a d (tm _ _ _ (λ_ _ h w' c _=>h w' c) h)
end
theorem PK (h:i<l.length) (x:UInt32):val (l.set i x)+4294967296^i*l[i].toNat=val l+4294967296^i*x.toNat:=by
 have a:=nR l i G
 have b:=nR (l.set i x) i dT
 rw[Ia h,List.take_set_of_le (bV _)] at b
 rw[nQ h] at a
 rw[a,b]
 simp only[f6];omega
theorem XE {x y o:UInt32} {c:UInt64} (b:c.toNat<4294967296):(c+(x.toUInt64*y.toUInt64+o.toUInt64)).toNat=c.toNat+(x.toNat*y.toNat+o.toNat):=by
 have e:=ep x
 have f:=ep y
 have d:=ep o
 have a:x.toNat*y.toNat≤4294967295*4294967295:=gi G G
 rw[nJ,nJ,wV,eP,eP,eP]
 omega
theorem XD {L:List UInt32} {V:Nat} {x y:UInt32} {c t:UInt64} (f:j<L.length) (e:c.toNat<4294967296) (g:t=c+(x.toUInt64*y.toUInt64+L[j].toUInt64)) (l:val L+4294967296^j*c.toNat=V):
 val (L.set j t.toUInt32)+4294967296^(j+1)*(t>>>UInt64.ofNat 32).toNat=V+4294967296^j*(x.toNat*y.toNat)∧(t>>>UInt64.ofNat 32).toNat<4294967296:=by
 have b:=XE (x:=x) (y:=y) (o:=L[j]) e
 rw[←g] at b
 have a:=rh t (s:=32) G
 have d:=PK f t.toUInt32
 rw[iV] at d
 have n:=ep x
 have p:=ep y
 have m:=ep L[j]
 have h:x.toNat*y.toNat≤4294967295*4294967295:=gi G G
 have i:t.toNat<18446744073709551616:=Bn t
 simp only[Nat.reducePow] at a
 refine⟨?_,G⟩
 rw[a,gj,fu]
 have k:4294967296^j*(t.toNat%4294967296)+4294967296^j*(4294967296*(t.toNat/4294967296))=4294967296^j*c.toNat+4294967296^j*(x.toNat*y.toNat)+4294967296^j*L[j].toNat:=by
  rw[←f6,←f6,←f6]
  congr 1
  omega
 omega
theorem Nt {p q:UInt32} {c:UInt64} (a:c.toNat≤1):(c+p.toUInt64+q.toUInt64).toNat=c.toNat+p.toNat+q.toNat:=by
 have:=ep p
 have:=ep q
 rw[nJ,nJ,eP,eP];omega
theorem Ns {p:UInt32} {c:UInt64} (a:c.toNat≤1):(c+p.toUInt64).toNat=c.toNat+p.toNat:=by
 have:=ep p
 rw[nJ,eP];omega
theorem Nr {a b L:List UInt32} {c x:UInt64} (hi:i<L.length) (h:c.toNat≤1) (j:val (L.take i)+4294967296^i*c.toNat=val (a.take i)+val (b.take i)) (k:x.toNat=c.toNat+(a.getD i 0).toNat+(b.getD i 0).toNat):
 val ((L.set i x.toUInt32).take (i+1))+4294967296^(i+1)*(x>>>UInt64.ofNat 32).toNat=val (a.take (i+1))+val (b.take (i+1))∧(x>>>UInt64.ofNat 32).toNat≤1:=by
 have f:=ep (a.getD i 0)
 have g:=ep (b.getD i 0)
 have d:=rh x (s:=32) G
 simp only[Nat.reducePow] at d
 refine⟨?_,G⟩
 rw[ua hi,iV,d,vh,vh,gj,fu]
 have e:4294967296^i*(x.toNat%4294967296)+4294967296^i*(4294967296*(x.toNat/4294967296))=4294967296^i*c.toNat+4294967296^i*(a.getD i 0).toNat+4294967296^i*(b.getD i 0).toNat:=by
  rw[←f6,←f6,←f6]
  congr 1
  omega
 omega
theorem Nz {p q:UInt32} {d:UInt64} (a:d.toNat≤1):(p.toUInt64-d-q.toUInt64).toNat=(18446744073709551616+p.toNat-d.toNat-q.toNat)%18446744073709551616:=by
 have:=ep p
 have:=ep q
 rw[pO,pO,eP,eP];omega
theorem Ny {p:UInt32} {d:UInt64} (a:d.toNat≤1):(p.toUInt64-d).toNat=(18446744073709551616+p.toNat-d.toNat-0)%18446744073709551616:=by
 have:=ep p
 rw[pO,eP];omega
theorem Nx {a b L:List UInt32} {d x:UInt64} (hi:i<L.length) (h:d.toNat≤1) (j:val (a.take i)+4294967296^i*d.toNat=val (L.take i)+val (b.take i)) (k:x.toNat=(18446744073709551616+(a.getD i 0).toNat-d.toNat-(b.getD i 0).toNat)%18446744073709551616):
 val (a.take (i+1))+4294967296^(i+1)*(x>>>UInt64.ofNat 63).toNat=val ((L.set i x.toUInt32).take (i+1))+val (b.take (i+1))∧(x>>>UInt64.ofNat 63).toNat≤1:=by
 have f:=ep (a.getD i 0)
 have g:=ep (b.getD i 0)
 have c:=rh x (s:=63) G
 simp only[Nat.reducePow] at c
 refine⟨?_,G⟩
 rw[ua hi,iV,c,vh,vh,gj,fu]
 have e:4294967296^i*(a.getD i 0).toNat+4294967296^i*(4294967296*(x.toNat/9223372036854775808))=4294967296^i*(x.toNat%4294967296)+4294967296^i*d.toNat+4294967296^i*(b.getD i 0).toNat:=by
  rw[←f6,←f6,←f6]
  congr 1
  omega
 omega
theorem pC (h:i<l.length):l.getD i 0=l[i]:=by simp[List.getD,fy h]
theorem CE (h:l.length≤i):l.getD i 0=0:=by simp[List.getD,zt h]
theorem Ck:aY Tryz.prog 251:=⟨_,Tryz.func251,am,rfl⟩
theorem UB:aY Tryz.prog 308:=⟨_,Tryz.func308,am,rfl⟩
theorem KQ:aY Tryz.prog 309:=⟨_,Tryz.func309,am,rfl⟩
theorem BJ (hv:aO l v w) (hu:aO m u w) (hl:l.length≤1099511627776) (hm:m.length≤1099511627776):
 Calls Tryz.prog 251 #[v,u] w (aJ λr w'=>ao w w'∧aO (lb (val l*val m)) r w'):=by
 refine enter Tryz.func251 H H H ?_
 obtain⟨a,y⟩:∃a,a=lb (val l):=⟨_,rfl⟩
 obtain⟨b,z⟩:∃b,b=lb (val m):=⟨_,rfl⟩
 have C:val a=val l:=by rw[y,cH]
 have K:val b=val m:=by rw[z,cH]
 have a7:a.length≤1099511627776:=by rw[y];exact cf (gw (en l)) hl
 have a8:b.length≤1099511627776:=by rw[z];exact cf (gw (en m)) hm
 refine T (Z H (bB (J H (aC jf H H (jz hv) ?_))))
 rintro aa _ ⟨rfl,h⟩
 rw[←y] at h
 refine J H (aC jf H H (jz hu) ?_)
 rintro P _ ⟨rfl,g⟩
 rw[←z] at g
 refine Z H (Z H (O (ah (T (J H (aW H (cI aT h) (U H (aV) (J H (cK (λae=>?_) (λae=>?_))))))))))
 ·refine ag H (ag H (ag H (bA H (O (bT H (T (Z H (O (aA (aI (aM H ?_)))))))))))
  exact⟨_,H,ao.refl _,by
   have s:val l*val m=0:=by
    first
    |(have d:a=[]:=gT G
      rw[←C,d];simp[val])
    |(have d:b=[]:=gT G
      rw[←K,d];simp[val])
   rw[s,nh];exact aO.nil _⟩
 ·refine V H (J H (V H (aW H (cI aT g) (V H (U H (aV) (aK H (f ?_)))))))
  refine al (bc H (λaf=>?_) (λaf=>?_))
  ·refine T (Z H (O (aA (aI (aM H ?_)))))
   exact⟨_,H,ao.refl _,by
    have s:val l*val m=0:=by
     first
     |(have d:a=[]:=gT G
       rw[←C,d];simp[val])
     |(have d:b=[]:=gT G
       rw[←K,d];simp[val])
    rw[s,nh];exact aO.nil _⟩
  ·refine aH (al (T (J H (aW H (cI aT h) (J H (aW H (cI aT g) ?_))))))
   refine jP (r:=I (((a.length)+b.length:Nat):Int)) H H H (by have e:(((a.length)+b.length:Nat):Int)=(a.length:Int)+(b.length:Int):=G;rw[e];exact dB) ?_
   obtain⟨q,bf,au,ab,av,a9⟩:=tX aT (w:=w) w.heap.size (n:=a.length+b.length) G (bV _)
   refine sQ H au (Z H (O (ah (T (J H (aW H (cI Tryz.underlying47 (h.aL ab)) (J H (O (aR (fp (λ(i:Nat) (L:List UInt32)=>[(1,P),(5,q),(29,aa),(30,I (a.length:Int)),(31,I (i:Int))]) (λ(i:Nat) (L:List UInt32) w'=>ej w.heap.size L q w'∧ao w w'∧i≤a.length∧L.length=a.length+b.length∧val L=val (a.take i)*val b∧L.drop (i+b.length)=(List.replicate (a.length+b.length) 0).drop (i+b.length)) (λ(i:Nat) (L:List UInt32)=>a.length-i) (0) (List.replicate (a.length+b.length) 0) (aP H) ⟨av,ab,aj,aj,by simp[val,D5],rfl⟩ ?_))))))))))
   rintro i L w6 ⟨oL,p,hi,hL,F,X⟩
   refine T (U H (bO) (O (ah (bc H (λai=>?_) (λai=>?_)))))
   ·refine aH (al (ah (aR (T (J H ?_)))))
    obtain⟨a1,ay,aG⟩:=ei aT (h.aL p) (i:=i) G .i64
    refine bF H (ay _) (Y H (D Tryz.underlying253 H aG) (Z H (Z H (bB (Z H (O (ah (T (J H (aW H (cI Tryz.underlying47 (g.aL p)) (J H (O (aR (ob (λ(k:Nat) (M:List UInt32) (c:UInt64)=>[(1,P),(5,q),(6,I (i:Int)),(7,bz (a[i]'G)),(8,bk c),(29,aa),(30,I (a.length:Int)),(31,I (i:Int)),(36,P),(37,I (b.length:Int)),(38,I (k:Int))]) (λ(k:Nat) (M:List UInt32) (c:UInt64) w'=>ej w.heap.size M q w'∧ao w w'∧k≤b.length∧M.length=a.length+b.length∧c.toNat<4294967296∧val M+4294967296^(i+k)*c.toNat=val L+4294967296^i*((a[i]'G).toNat*val (b.take k))∧M.drop (i+b.length)=L.drop (i+b.length)) (λ(k:Nat) (M:List UInt32) (c:UInt64)=>b.length-k) (0) (L) (0) (aP H) ⟨oL,p,aj,hL,aj,by simp[val],rfl⟩ ?_))))))))))))))
    rintro k M c be ⟨N,o,hk,Q,R,A,x⟩
    refine T (U H (bO) (O (ah (bc H (λak=>?_) (λak=>?_)))))
    ·refine aH (al (ah (aR (T (J H ?_)))))
     obtain⟨a2,az,aL⟩:=ei aT (g.aL o) (i:=k) G .i64
     refine bF H (az _) (Y H (D bN H aL) (Z H (Z H (bB (J H (J H (cJ H (fK bN cU) (J H (cJ H (fK bN cU) (U H (Be) (J H (J H (J H (U (r:=I ((i+k:Nat):Int)) H (by have e:((i+k:Nat):Int)=(i:Int)+(k:Int):=G;rw[e];exact dB) ?_))))))))))))))
     have ar:i+k<M.length:=G
     obtain⟨a53,aD,aN⟩:=ei aT N.bL (i:=(i+k:Nat)) G .i64
     refine bF H (aD _) (Y H (D bN H aN) (cJ H (fK bN cU) (U H (np) (U H (np) (Z H (O (ah ?_)))))))
     obtain⟨t,W⟩:∃t,t=c+((a[i]'G).toUInt64*(b[k]'G).toUInt64+(M[i+k]'G).toUInt64):=⟨_,rfl⟩
     refine ap (J H (J H (J H (U (r:=I ((i+k:Nat):Int)) H (by have e:((i+k:Nat):Int)=(i:Int)+(k:Int):=G;rw[e];exact dB) (J H (cJ H (gL cU bN) ?_))))))
     obtain⟨a5,bg,aE,aX,aw,aQ,an,a3,ba⟩:=(N).b9 aT (i:=(i+k)) G ((c+((a[i]'G).toUInt64*(b[k]'G).toUInt64+(M[i+k]'G).toUInt64)).toUInt32)
     refine bF H (aE _) (cZ H aX ?_)
     have aZ:=ao.a2 (o) aQ an
     refine O (ap (J H (U H (j6 32 G) (Z H (f (bE (al (ap (U H cD (J H (f ?_)))))))))))
     have st:=XD (L:=M) (j:=i+k) ar R W A
     rw[W] at st
     refine lj (k+1) (_) (_) (aP H) ⟨aw,aZ,G,by simpa using Q,st.2,by rw[←pm,st.1,kO G,f6,f6,pm,jF,fu,xQ (4294967296^k)],by rw[zq G];exact x⟩ G
    ·refine ce (aU (aU (cg (al ?_))))
     obtain rfl:k=b.length:=by omega
     rw[fL] at A
     refine ap (J H (J H (J H (aW H (cI aT (g.aL o)) (U (r:=I ((i+b.length:Nat):Int)) H (by have e:((i+b.length:Nat):Int)=(i:Int)+(b.length:Int):=G;rw[e];exact dB) (J H (cJ H (gL cU bN) ?_)))))))
     obtain⟨a6,bh,aF,aY,ax,aS,aq,a4,bb⟩:=(N).b9 aT (i:=(i+b.length)) G (c.toUInt32)
     refine bF H (aF _) (cZ H aY ?_)
     have a0:=ao.a2 (o) aS aq
     refine f (bE (al (ap (U H cD (J H (f ?_))))))
     have am:M[i+b.length]'G=0:=by
      have d:=Gg (x.ai X) G dT
      rw[d];simp
     have hs:=PK (l:=M) (i:=i+b.length) G c.toUInt32
     rw[am,iV,eN R] at hs
     simp only[UInt32.toNat_zero,xR,lG] at hs
     have S:=aB (List.drop 1) (x.ai X)
     rw[tq,tq] at S
     refine eI (i+1) (_) (aP H) ⟨ax,a0,G,by simpa using Q,by rw[hs,A,F,kO G,fk,fu],by rw[zq G,show i+1+b.length=i+b.length+1 by omega];exact S⟩ G
   ·refine ce (aU (aU (cg (al (T (J H ?_))))))
    obtain rfl:i=a.length:=by omega
    rw[fL] at F
    refine aC jf H H (jz oL.bL) ?_
    rintro bd _ ⟨rfl,ad⟩
    refine Z H (O (aA (aM H ?_)))
    exact⟨_,H,p,by rw[←C,←K,←F];exact ad⟩
theorem Ry (hv:aO l v w) (hu:aO m u w) (hl:l.length≤1099511627776) (hm:m.length≤1099511627776):
 Calls Tryz.prog 308 #[v,u] w (aJ λr w'=>ao w w'∧aO (lb (val l+val m)) r w'):=by
 refine enter Tryz.func308 H H H ?_
 have af:=cf (gw (en l)) hl
 have ai:=cf (gw (en m)) hm
 refine T (Z H (bB (J H (aC jf H H (jz hv) ?_))))
 rintro Q _ ⟨rfl,k⟩
 refine J H (aC jf H H (jz hu) ?_)
 rintro R _ ⟨rfl,o⟩
 refine Z H (Z H (O (ah (iS (λp:List UInt32×List UInt32×Value×Value=>[(0,p.2.2.1),(1,p.2.2.2)]) (λp w'=>w=w'∧aO p.1 p.2.2.1 w'∧aO p.2.1 p.2.2.2 w'∧p.2.1.length≤p.1.length∧p.1.length≤1099511627776∧val p.1+val p.2.1=val l+val m) ?_ ?_))))
 ·refine T (J H (aW H (cI aT k) (J H (aW H (cI aT o) ?_))))
  refine U H (bO) (O (bc H (λab=>?_) (λab=>?_)))
  ·refine ap (J H (J H (Z H (Z H (f ?_)))))
   exact eu (lb (val m),lb (val l),R,Q) (aP H) ⟨H,o,k,by show(lb (val l)).length≤(lb (val m)).length;omega,ai,by show val (lb (val m))+val (lb (val l))=_;rw[cH,cH,rP]⟩
  ·refine aH ?_
   exact eu (lb (val l),lb (val m),Q,R) (aP H) ⟨H,k,o,by show(lb (val m)).length≤(lb (val l)).length;omega,af,by show val (lb (val l))+val (lb (val m))=_;rw[cH,cH]⟩
 rintro⟨a,b,va,vb⟩ _ ⟨rfl,h,q,N,ak,P⟩
 refine al (T ?_)
 dsimp only at h q N ak P
 refine J H (aW H (cI aT h) (jP (r:=I (((a.length)+1:Nat):Int)) H H H (by have e:(((a.length)+1:Nat):Int)=(a.length:Int)+1:=G;rw[e];exact dB) ?_))
 obtain⟨S,aS,am,V,an,aL⟩:=tX aT (w:=w) w.heap.size (n:=a.length+1) G (bV _)
 refine sQ H am (Z H (bB (Z H (O (ah (T (J H (aW H (cI Tryz.underlying47 (h.aL V)) (J H (O (aR (ob (λ(i:Nat) (L:List UInt32) (c:UInt64)=>[(0,va),(1,vb),(5,S),(6,bk c),(24,va),(25,I (a.length:Int)),(26,I (i:Int))]) (λ(i:Nat) (L:List UInt32) (c:UInt64) w'=>ej w.heap.size L S w'∧ao w w'∧i≤a.length∧L.length=a.length+1∧c.toNat≤1∧val (L.take i)+4294967296^i*c.toNat=val (a.take i)+val (b.take i)) (λ(i:Nat) (L:List UInt32) (c:UInt64)=>a.length-i) (0) (List.replicate (a.length+1) 0) (0) (aP H) ⟨an,V,aj,aj,aj,by simp[val]⟩ ?_))))))))))))
 rintro i L c w7 ⟨z,d,hi,s,g,j⟩
 refine T (U H (bO) (O (ah (bc H (λad=>?_) (λad=>?_)))))
 ·refine aH (al (ah (aR (T (J H ?_)))))
  obtain⟨aF,au,ax⟩:=ei aT (h.aL d) (i:=i) G .i64
  refine bF H (au _) (Y H (D bN H ax) (Z H (Z H (bB (J H (J H (cJ H (fK bN cU) (U H (np) (Z H (O (ah (T (J H (J H (aW H (cI aT (q.aL d)) (U H (bO) (O (bc H (λae=>?_) (λae=>?_)))))))))))))))))))
  ·refine ap (J H (J H (J H ?_)))
   obtain⟨aG,av,ay⟩:=ei aT (q.aL d) (i:=i) G .i64
   refine bF H (av _) (Y H (D bN H ay) (cJ H (fK bN cU) (U H (np) (Z H (bB (J H (J H (J H (cJ H (gL cU bN) ?_)))))))))
   obtain⟨aa,aD,A,F,y,C,t,X,ar⟩:=(z).b9 aT (i:=i) G (((((((c)+(((a[i])).toUInt64)))+(((b[i])).toUInt64)))).toUInt32)
   refine bF H (A _) (cZ H F ?_)
   have K:=ao.a2 (d) C t
   refine O (ap (J H (U H (j6 32 G) (Z H (f (bE (al (ap (U H cD (J H (f ?_)))))))))))
   have st:=Nr (a:=a) (b:=b) (L:=L) (i:=i) (c:=c) (x:=(((((c)+(((a[i])).toUInt64)))+(((b[i])).toUInt64)))) G g j (by
    first
    |rw[pC (show i<a.length by omega),pC (show i<b.length by omega),Nt g]
    |(rw[pC (show i<a.length by omega),CE (show b.length≤i by omega),Ns g];rfl))
   refine lj (i+1) (_) (_) (aP H) ⟨y,K,G,by simpa using s,st.2,st.1⟩ G
  ·refine aH (al (T (J H (J H (J H (cJ H (gL cU bN) ?_))))))
   obtain⟨aa,aD,A,F,y,C,t,X,ar⟩:=(z).b9 aT (i:=i) G (((((c)+(((a[i])).toUInt64)))).toUInt32)
   refine bF H (A _) (cZ H F ?_)
   have K:=ao.a2 (d) C t
   refine O (ap (J H (U H (j6 32 G) (Z H (f (bE (al (ap (U H cD (J H (f ?_)))))))))))
   have st:=Nr (a:=a) (b:=b) (L:=L) (i:=i) (c:=c) (x:=(((c)+(((a[i])).toUInt64)))) G g j (by
    first
    |rw[pC (show i<a.length by omega),pC (show i<b.length by omega),Nt g]
    |(rw[pC (show i<a.length by omega),CE (show b.length≤i by omega),Ns g];rfl))
   refine lj (i+1) (_) (_) (aP H) ⟨y,K,G,by simpa using s,st.2,st.1⟩ G
 ·refine ce (aU (aU (cg (al (ah ?_)))))
  obtain rfl:i=a.length:=by omega
  rw[vg a (bV _),vg b N] at j
  refine ap (J H (J H (aW H (cI aT (h.aL d)) (J H (cJ H (gL cU bN) ?_)))))
  obtain⟨aK,aV,aw,aB,aq,az,ag,aI,aN⟩:=(z).b9 aT (i:=a.length) G (c.toUInt32)
  refine bF H (aw _) (cZ H aB ?_)
  have aE:=ao.a2 (d) az ag
  refine bB (J H (aC jf H H (jz aq.bL) ?_))
  rintro aQ _ ⟨rfl,W⟩
  refine Z H (O (aA (aM H ?_)))
  exact⟨_,H,aE,by
   rw[←P,←j]
   have hs:=HN (M:=L) (n:=a.length) s c.toUInt32
   rw[iV,eN G] at hs
   rw[←hs];exact W⟩
theorem RI (hv:aO l v w) (hu:aO m u w) (hl:l.length≤1099511627776) (ad:val m≤val l):
 Calls Tryz.prog 309 #[v,u] w (aJ λr w'=>ao w w'∧∃d,r=.tuple #[d,I 0]∧aO (lb (val l-val m)) d w'):=by
 refine enter Tryz.func309 H H H ?_
 obtain⟨a,p⟩:∃a,a=lb (val l):=⟨_,rfl⟩
 obtain⟨b,t⟩:∃b,b=lb (val m):=⟨_,rfl⟩
 have af:val a=val l:=by rw[p,cH]
 have ag:val b=val m:=by rw[t,cH]
 have az:a.length≤1099511627776:=by rw[p];exact cf (gw (en l)) hl
 have aa:b.length≤a.length:=by rw[p,t];exact wQ ad
 refine T (Z H (Z H (bB (J H (aC jf H H (jz hv) ?_)))))
 rintro au _ ⟨rfl,j⟩
 rw[←p] at j
 refine J H (aC jf H H (jz hu) ?_)
 rintro av _ ⟨rfl,o⟩
 rw[←t] at o
 refine Z H (Z H (O (ah (T (J H (J H (aC vW H H (vz j o) ?_)))))))
 rintro aD q ⟨g,rfl⟩
 refine U H (aX (λh=>by have:=uD.1 h;omega) bO) (O (be H (aH (al (T (J H (aW H (cI aT (j.aL g)) ?_)))))))
 obtain⟨N,aE,ae,P,ai,aB⟩:=tX aT (w:=q) q.heap.size (n:=a.length) G (bV _)
 refine sQ H ae (Z H (bB (Z H (O (ah (T (J H (aW H (cI Tryz.underlying47 (j.aL (g.ai P))) (J H (O (aR (ob (λ(i:Nat) (L:List UInt32) (d:UInt64)=>[(1,av),(6,N),(7,bk d),(22,au),(23,I (a.length:Int)),(24,I (i:Int))]) (λ(i:Nat) (L:List UInt32) (d:UInt64) w'=>ej q.heap.size L N w'∧ao q w'∧i≤a.length∧L.length=a.length∧d.toNat≤1∧val (a.take i)+4294967296^i*d.toNat=val (L.take i)+val (b.take i)) (λ(i:Nat) (L:List UInt32) (d:UInt64)=>a.length-i) (0) (List.replicate a.length 0) (0) (aP H) ⟨ai,P,aj,aj,aj,by simp[val]⟩ ?_))))))))))))
 rintro i L d w7 ⟨A,c,hi,s,e,k⟩
 refine T (U H (bO) (O (ah (bc H (λV=>?_) (λV=>?_)))))
 ·refine aH (al (ah (aR (T (J H ?_)))))
  obtain⟨ax,am,aq⟩:=ei aT (j.aL (g.ai c)) (i:=i) G .i64
  refine bF H (am _) (Y H (D bN H aq) (Z H (Z H (bB (J H (cJ H (fK bN cU) (J H (U H (nO) (Z H (O (ah (T (J H (J H (aW H (cI aT (o.aL (g.ai c))) (U H (bO) (O (bc H (λW=>?_) (λW=>?_)))))))))))))))))))
  ·refine ap (J H (J H (J H ?_)))
   obtain⟨ay,an,ar⟩:=ei aT (o.aL (g.ai c)) (i:=i) G .i64
   refine bF H (an _) (Y H (D bN H ar) (cJ H (fK bN cU) (U H (nO) (Z H (bB (J H (J H (J H (cJ H (gL cU bN) ?_)))))))))
   obtain⟨S,aw,C,K,z,F,y,R,ak⟩:=(A).b9 aT (i:=i) G (((((((((a[i])).toUInt64)-(d)))-(((b[i])).toUInt64)))).toUInt32)
   refine bF H (C _) (cZ H K ?_)
   have M:=ao.a2 (c) F y
   refine O (ap (J H (U H (j6 63 G) (Z H (f (bE (al (ap (U H cD (J H (f ?_)))))))))))
   have st:=Nx (a:=a) (b:=b) (L:=L) (i:=i) (d:=d) (x:=(((((((a[i])).toUInt64)-(d)))-(((b[i])).toUInt64)))) G e k (by
    first
    |rw[pC (show i<a.length by omega),pC (show i<b.length by omega),Nz e]
    |(rw[pC (show i<a.length by omega),CE (show b.length≤i by omega),Ny e];rfl))
   refine lj (i+1) (_) (_) (aP H) ⟨z,M,G,by simpa using s,st.2,st.1⟩ G
  ·refine aH (al (T (J H (J H (J H (cJ H (gL cU bN) ?_))))))
   obtain⟨S,aw,C,K,z,F,y,R,ak⟩:=(A).b9 aT (i:=i) G (((((((a[i])).toUInt64)-(d)))).toUInt32)
   refine bF H (C _) (cZ H K ?_)
   have M:=ao.a2 (c) F y
   refine O (ap (J H (U H (j6 63 G) (Z H (f (bE (al (ap (U H cD (J H (f ?_)))))))))))
   have st:=Nx (a:=a) (b:=b) (L:=L) (i:=i) (d:=d) (x:=(((((a[i])).toUInt64)-(d)))) G e k (by
    first
    |rw[pC (show i<a.length by omega),pC (show i<b.length by omega),Nz e]
    |(rw[pC (show i<a.length by omega),CE (show b.length≤i by omega),Ny e];rfl))
   refine lj (i+1) (_) (_) (aP H) ⟨z,M,G,by simpa using s,st.2,st.1⟩ G
 ·refine ce (aU (aU (cg (al (ah ?_)))))
  obtain rfl:i=a.length:=by omega
  rw[vg a (bV _),vg b aa,vg L G] at k
  have X:=en L
  rw[s] at X
  have ab:d.toNat=0:=by
   rcases(show d.toNat=0∨d.toNat=1 by omega) with h|h
   ·exact h
   ·rw[h,rR] at k;omega
  refine ap (J H (aC jf H H (jz A.bL) ?_))
  rintro v53 _ ⟨rfl,Q⟩
  refine Z H (Z H (O (aA (dt H ?_))))
  exact⟨_,H,(g.ai c),_,H,by
   rw[←af,←ag,show val a-val b=val L by rw[ab] at k;omega];exact Q⟩
theorem Ab:aY Tryz.prog 300:=⟨_,Tryz.func300,am,rfl⟩
theorem FL:aY Tryz.prog 197:=⟨_,Tryz.func197,am,rfl⟩
theorem Ch:aY Tryz.prog 233:=⟨_,Tryz.func233,am,rfl⟩
theorem Ug:aY Tryz.prog 220:=⟨_,Tryz.func220,am,rfl⟩
theorem Uf:aY Tryz.prog 250:=⟨_,Tryz.func250,am,rfl⟩
theorem KB:aY Tryz.prog 294:=⟨_,Tryz.func294,am,rfl⟩
theorem FW:aY Tryz.prog 234:=⟨_,Tryz.func234,am,rfl⟩
theorem KS:aY Tryz.prog 219:=⟨_,Tryz.func219,am,rfl⟩
theorem vY:aY Tryz.prog 159:=⟨_,Tryz.func159,am,rfl⟩
theorem UP:aY Tryz.prog 142:=⟨_,Tryz.func142,am,rfl⟩
theorem Cl:aY Tryz.prog 165:=⟨_,Tryz.func165,am,rfl⟩
theorem yf:aY Tryz.prog 166:=⟨_,Tryz.func166,am,rfl⟩
theorem KT:aY Tryz.prog 164:=⟨_,Tryz.func164,am,rfl⟩
theorem FV:aY Tryz.prog 108:=⟨_,Tryz.func108,am,rfl⟩
theorem US:aY Tryz.prog 196:=⟨_,Tryz.func196,am,rfl⟩
theorem pg (h:l.length≤k):(lb (val l)).length≤k:=cf (gw (en l)) h
theorem AF {a b x y:Nat} (h:(lb a).length≤x) (k:(lb b).length≤y):(lb (a*b)).length≤x+y:=by
 have c:=en (lb a)
 have d:=en (lb b)
 rw[cH] at c d
 refine cf (gw (k:=(lb a).length+(lb b).length) ?_) G
 rw[jF]
 rcases fm b with rfl|e
 ·rw[xR];exact oN (Cb _) (Cb _)
 ·exact eT (BO c e) (nY _ (zE d))
theorem Cr (s:Bool) (n:Nat):jg s n=decide (dC s n<0):=by
 unfold jg
 have:=HO s n
 cases s<;>simp_all
theorem NP {n:Nat}:0<(lb n).length↔0<n:=by
 have:=@lh n
 omega
def oF (z:Int):Int:=if z<0 then-1 else if z=0 then 0 else 1
theorem aab {z:Int} (h:z<0):oF z= -1:=by unfold oF;rw[if_pos h]
theorem Pc {z:Int} (h:0<z):oF z=1:=by unfold oF;rw[if_neg G,if_neg G]
theorem Oe {x:UInt64}:(Op.unary .neg (bk x)).run P w=.ok (bk (-x)) w:=by
 have:IntKind.u64.wrap (0-(x.toNat:Int))=((-x).toNat:Int):=by
  rw[IntKind.wrap_u64,UInt64.toNat_neg]
  have:=x.toNat_lt
  simp only[UInt64.size]
  omega
 simp only[bk,Op.unary,Op.intArith,this];rfl
theorem Pw {x:Int} (a:0≤x) (b:x≤9223372036854775807):(UInt64.ofInt x).toNat=x.natAbs:=by
 show(UInt64.ofNat (x%2^64).toNat).toNat=_
 rw[jo];omega
theorem Pv {x:Int} (h:x<0) (a: -9223372036854775808≤x):(-UInt64.ofInt x).toNat=x.natAbs:=by
 have e:(UInt64.ofInt x).toNat=(x%18446744073709551616).toNat:=by
  show(UInt64.ofNat (x%2^64).toNat).toNat=_
  rw[jo];omega
 rw[UInt64.toNat_neg,e]
 simp only[UInt64.size]
 omega
theorem Hm {x y:Operand} {t:TypeId} (c:P.underlying t=some .bool) {a b:Bool}:(bin .neq t x y (B a) (B b)).run P w=.ok (B (a !=b)) w:=by
 have h:(Op.equal t (B a) (B b)).run P w=.ok (decide (a=b)) w:=by
  show(Op.equalIn (9999+1) t (.bool a) (.bool b)).run P w=_
  unfold Op.equalIn
  cases a<;>cases b<;>simp[run_underlying c]
 show(do pure (Value.bool (!(←Op.equal t (B a) (B b)))):Sem Value).run P w=_
 rw[Sem.run_bind,h]
 cases a<;>cases b<;>rfl
theorem zn {s:Bool} {n:List UInt32} (k:aO n v w) (o:n.length≤549755813888):
 Calls Tryz.prog 300 #[B s,v] w (aJ λr w'=>ao w w'∧IZ (dC s (val n)) r w'):=by
 refine enter Tryz.func300 H H H (T (cM nS H λm w4 i h d=>(bB (J H (aC Ag H H (zC (k.aL h) G) ?_)))))
 rintro j q ⟨b,a⟩
 refine Z H (O (ah ?_))
 cases s
 ·refine ap (J H (J H (L H (L H (L H (t H (J H (dY (r:=.agg #[B false,j]) H (by obtain⟨_,_,_,rfl⟩:=a.a9;exact run_build _ _ _ _ am) ?_))))))))
  refine cl H H (d.aL b) H eQ (ay.a1 H (ay.a1 a.one ay.nil)) λl c e=>?_
  have g:=ao.a2 ((h.ai b)) c i
  have f:=Kq.br (p:=[0,3]) (d.aL b) (aS rfl (aS rfl dj)) c
  refine O (aA (ff H (.cell H (e.ld iM H eQ) .nil) ?_))
  exact⟨_,H,g,IZ.of (by rw[←Cr];rfl) (by rw[tZ];exact(a.kq f))⟩
 ·refine ap (J H (J H (V H (J H (V H (aW H (cI aT a) (V H (U H (cY) ?_))))))))
  refine bA H (J H (AY (r:=.agg #[B (decide (((lb (val n)).length:Int)>0)),j]) H H (by obtain⟨_,_,_,rfl⟩:=a.a9;exact run_build _ _ _ _ am) (cl H H (d.aL b) H eQ (ay.a1 H (ay.a1 a.one ay.nil)) λl c e=>?_)))
  have g:=ao.a2 ((h.ai b)) c i
  have f:=Kq.br (p:=[0,3]) (d.aL b) (aS rfl (aS rfl dj)) c
  refine O (aA (ff H (.cell H (e.ld iM H eQ) .nil) ?_))
  exact⟨_,H,g,IZ.of (by rw[←Cr];unfold jg;rw[Bw];exact cA.2 (by have:=@NP (val n);omega)) (by rw[tZ];exact(a.kq f))⟩
theorem Eo {x:Int} (l: -9223372036854775808≤x) (m:x≤9223372036854775807):
 Calls Tryz.prog 197 #[I x] w (aJ λr w'=>ao w w'∧IZ x r w'):=by
 refine enter Tryz.func197 H H H (T (cM nS H λz w2 h k b=>(O (ah (T (J H (U H (bO) (O (bc H (λa=>?_) (λa=>?_))))))))))
 ·refine T (J H (cJ H (yV aE cU) ?_))
  refine cP (r:=bk (-UInt64.ofInt x)) H Oe (aC Ah H H (zD) ?_)
  rintro u F ⟨g,d⟩
  refine dY (r:=.agg #[B true,u]) H (by obtain⟨_,_,_,rfl⟩:=d.a9;exact run_build _ _ _ _ am) (cl H H (b.aL g) H eQ (ay.a1 H (ay.a1 d.one ay.nil)) λC i n=>?_)
  have v:=ao.a2 ((k.ai g)) i h
  have q:=Kq.br (p:=[0,3]) (b.aL g) (aS rfl (aS rfl dj)) i
  refine O (aA (aI (ff H (.cell H (n.ld iM H eQ) .nil) ?_)))
  exact⟨_,H,v,IZ.of (dH a).symm (by
   have e:(-UInt64.ofInt x).toNat=x.natAbs:=Pv a l
   rw[←e];exact(d.kq q))⟩
 ·refine aH (al (T (J H (cJ H (yV aE cU) (aC Ah H H (zD) ?_)))))
  rintro t A ⟨f,c⟩
  refine dY (r:=.agg #[B false,t]) H (by obtain⟨_,_,_,rfl⟩:=c.a9;exact run_build _ _ _ _ am) (cl H H (b.aL f) H eQ (ay.a1 H (ay.a1 c.one ay.nil)) λD j o=>?_)
  have y:=ao.a2 ((k.ai f)) j h
  have s:=Kq.br (p:=[0,3]) (b.aL f) (aS rfl (aS rfl dj)) j
  refine O (aA (ff H (.cell H (o.ld iM H eQ) .nil) ?_))
  exact⟨_,H,y,IZ.of (bi a).symm (by
   have e:(UInt64.ofInt x).toNat=x.natAbs:=Pw G m
   rw[←e];exact(c.kq s))⟩
theorem By {s:Bool} {n:List UInt32} (e:ft s n v w) (g:n.length≤549755813888):
 Calls Tryz.prog 233 #[v] w (aJ λr w'=>ao w w'∧Is (I (oF (dC s (val n)))) r w'):=by
 obtain⟨x,rfl,f⟩:=e
 refine enter (vs:=[.agg #[B s,x]]) Tryz.func233 H H H (T (cE H H λg1 w1 j x1 b=>(Z H (O (ah (aR (T (c H (ku) (Y H (D aT H (b.cell (i:=1) H)) (aC KO H H (Jd (f.aL x1) G) ?_))))))))))
 rintro k _ ⟨rfl,rfl⟩
 refine U H (aV) (Z H (O (bc H (λd=>?_) (λd=>?_))))
 ·have a:val n=0:=by
   rcases fm (val n) with h|h
   ·exact h
   ·have:=vQ h;omega
  refine T (Z H (O (aA (bD (aI (aM H ?_))))))
  exact⟨_,H,x1,by rw[a,Z2];rfl⟩
 ·have a:0<val n:=by
   rcases fm (val n) with h|h
   ·exact absurd (by rw[h];rfl) d
   ·exact h
  refine ah ?_
  cases s
  ·refine ap (c H (ol) (Y H (D dw H (b.cell (i:=0) H)) ?_))
   refine Z H (O (be H (aH (bE (al (T (Z H (O (aA (aM H ?_))))))))))
   exact⟨_,H,x1,by rw[Pc (show 0<dC false (val n) by show(0:Int)<(val n:Int);omega)];rfl⟩
  ·refine ap (c H (ol) (Y H (D dw H (b.cell (i:=0) H)) ?_))
   refine Z H (O (bT H (T (Z H (O (aA (bD (aI (aM H ?_)))))))))
   exact⟨_,H,x1,by rw[aab ((HO true (val n)).2 ⟨rfl,a⟩)];rfl⟩
theorem Q2 {s t:Bool} {n:List UInt32} (z:ft s n v w) (q:ft t m u w) (o:n.length≤274877906944) (hm:m.length≤274877906944):
 Calls Tryz.prog 294 #[v,u] w (aJ λr w'=>ao w w'∧IZ (dC s (val n)*dC t (val m)) r w'):=by
 obtain⟨x,rfl,A⟩:=z
 obtain⟨y,rfl,C⟩:=q
 have Q:=AF (pg o) (pg hm)
 refine enter (vs:=[.agg #[B s,x],.agg #[B t,y]]) Tryz.func294 H H H (T (cE H H λM w2 R d g=>cE H H λN X U c h=>cM nS H λP w4 J b j=>(O (ah (cz 11 [4,15] am am (bH H (λw a=>ol) (aQ H (λw a=>D dw H (a.a0 ((c.ai b).a0 (g.cell (i:=0) H)))) (bH H (λw a=>ol) (aQ H (λw a=>D dw H (a.a0 (b.a0 (h.cell (i:=0) H)))) (bn H (λw _=>Hm dw) (bH H (λw a=>ku) (aQ H (λw a=>D aT H (a.a0 ((c.ai b).a0 (g.cell (i:=1) H)))) (bH H (λw a=>ku) (aQ H (λw a=>D aT H (a.a0 (b.a0 (h.cell (i:=1) H)))) (eh (S:=aO (lb (val n*val m))) Ck (aO.a3 _) H (λw a=>by rintro _ rfl _ rfl;exact BJ ((A.aL ((d.ai c).ai b)).aL a) ((C.aL ((d.ai c).ai b)).aL a) G G) ?_)))))))))))))))
 refine eh (S:=IZ (dC s (val n)*dC t (val m))) Ab (IZ.a3 _) H (λw a=>by rintro _ rfl V l;exact(by have:=zn (s:=s !=t) l G;rw[cH,←O1] at this;exact this)) (cq ?_)
 rintro Y e _ rfl _ ⟨Z,rfl,f⟩
 refine cl H H (j.aL e) H eQ (ay.a1 H (ay.a1 f.one ay.nil)) λW k F=>?_
 have L:=ao.a2 ((b.ai e)) k J
 have K:=Kq.br (p:=[0,3]) (j.aL e) (aS rfl (aS rfl dj)) k
 refine O (aA (ff H (.cell H (F.ld iM H eQ) .nil) ?_))
 exact⟨_,H,((d.ai c).ai L),(ft.mk (f.kq K))⟩
theorem Jf (i:aO l v w) (h:aO m u w) (f:l.length≤1099511627776) (g:val m≤val l):
 Calls Tryz.prog 309 #[v,u] w (aJ λr w'=>ao w w'∧je (aO (lb (val l-val m))) (Is (I 0)) r w'):=
 (RI i h f g).mono λ_ _ ⟨r,e,a,d,b,c⟩=>⟨r,e,a,d,_,b,c,rfl⟩
theorem WH {s:Bool} {m:Nat}:dC s n+dC s m=dC s (n+m):=by unfold dC;split<;>omega
theorem MA {s t:Bool} {m:Nat} (h:¬s=t) (a:m≤n):dC s n+dC t m=dC s (n-m):=by
 cases s<;>cases t<;>simp_all [dC]<;>omega
theorem MB {s t:Bool} {m:Nat} (h:¬s=t) (a:n<m):dC s n+dC t m=dC t (m-n):=by
 cases s<;>cases t<;>simp_all [dC]<;>omega
theorem MQ {a b x y:Nat} (h:(lb a).length≤x) (k:(lb b).length≤y):(lb (a+b)).length≤x+y+1:=by
 have c:=en (lb a)
 have d:=en (lb b)
 rw[cH] at c d
 have e:4294967296^(lb a).length≤4294967296^(x+y):=lH G G
 have f:4294967296^(lb b).length≤4294967296^(x+y):=lH G G
 refine gw ?_
 rw[gj]
 omega
theorem GO {a b x:Nat} (h:a≤b) (k:(lb b).length≤x):(lb a).length≤x:=cf (wQ h) k
theorem Q0 {s t:Bool} {n:List UInt32} (hv:ft s n v w) (hu:ft t m u w) (hl:n.length≤274877906943) (hm:m.length≤274877906943):
 Calls Tryz.prog 250 #[v,u] w (aJ λr w'=>ao w w'∧IZ (dC s (val n)+dC t (val m)) r w'):=by
 obtain⟨x,rfl,C⟩:=hv
 obtain⟨y,rfl,F⟩:=hu
 have aj:=pg hl
 have ai:=pg hm
 have aP:=MQ aj ai
 refine enter (vs:=[.agg #[B s,x],.agg #[B t,y]]) Tryz.func250 H H H (T (cE H H λg2 w2 l2 j g=>cE H H λg3 w3 l3 b o=>cM nS H λg4 w4 L a K=>(O (ah (T (c H (ol) (Y H (D dw H ((b.ai a).a0 (g.cell (i:=0) H))) (c H (ol) (Y H (D dw H (a.a0 (o.cell (i:=0) H))) (U H (yT dw) (O (bc H (λq=>?_) (λq=>?_)))))))))))))
 ·subst q
  refine ah (cz 8 [4,19] am am (bH H (λw f=>ol) (aQ H (λw f=>D dw H (f.a0 ((b.ai a).a0 (g.cell (i:=0) H)))) (bH H (λw f=>ku) (aQ H (λw f=>D aT H (f.a0 ((b.ai a).a0 (g.cell (i:=1) H)))) (bH H (λw f=>ku) (aQ H (λw f=>D aT H (f.a0 (a.a0 (o.cell (i:=1) H)))) (eh (S:=aO (lb (val n+val m))) UB (aO.a3 _) H (λw f=>by rintro _ rfl _ rfl;exact Ry ((C.aL ((j.ai b).ai a)).aL f) ((F.aL ((j.ai b).ai a)).aL f) G G) (eh (S:=IZ (dC s (val n)+dC s (val m))) Ab (IZ.a3 _) H (λw f=>by rintro _ rfl aR ar;exact(by have:=zn (s:=s) ar G;rw[cH,←WH] at this;exact this)) (cq ?_))))))))))
  rintro aY af _ rfl _ ⟨a0,rfl,ag⟩
  refine cl H H (K.aL af) H eQ (ay.a1 H (ay.a1 ag.one ay.nil)) λaV aq av=>?_
  have aL:=ao.a2 ((a.ai af)) aq L
  have az:=Kq.br (p:=[0,3]) (K.aL af) (aS rfl (aS rfl dj)) aq
  refine O (aA (aI (ff H (.cell H (av.ld iM H eQ) .nil) ?_)))
  exact⟨_,H,((j.ai b).ai aL),(ft.mk (ag.kq az))⟩
 ·refine aH (al (ah (T (c H (ku) (Y H (D aT H ((b.ai a).a0 (g.cell (i:=1) H))) ?_)))))
  refine c H (ku) (Y H (D aT H (a.a0 (o.cell (i:=1) H))) (aC vW H H (vz (C.aL ((j.ai b).ai a)) (F.aL ((j.ai b).ai a))) ?_))
  rintro v24 aU ⟨d,rfl⟩
  refine U H (bO) (O (bc H (λV=>?_) (λV=>?_)))
  ·have A:=uD.1 V
   have hq:=GO (Nat.sub_le (val m) (val n)) ai
   refine ap (Y H ((o.aL (a.ai d)).ld iM H eQ) (Y H ((g.aL ((b.ai a).ai d)).ld iM H eQ) (cl H H (g.aL ((b.ai a).ai d)) H eQ (ay.a1 H (ay.a1 F.one ay.nil)) λaW aa aw=>?_)))
   have aN:=ao.a2 ((((j.ai b).ai a).ai d)) aa l2
   have au:=(((o.aL a).aL d).a4 aa λe=>by have Q:=g.lt;have R:=l3;have W:=cC e;omega)
   refine cl H H au H eQ (ay.a1 H (ay.a1 C.one ay.nil)) λaX ab ax=>?_
   have ad:=ao.a2 (aN) ab (cf (j).size l3)
   refine bB ?_
   have ak:=(aw.a4 ab λe=>by have Q:=g.lt;have R:=l3;have W:=cC e;omega)
   refine c H (ku) (Y H (D aT H (ak.cell (i:=1) H)) (c H (ku) (Y H (D aT H (ax.cell (i:=1) H)) (aC KQ H H (Jf (F.aL ad) (C.aL ad) G G) ?_))))
   rintro aD aF ⟨k,⟨aB,_,rfl,P,rfl⟩⟩
   refine J H (aZ H dm (aZ H dn (Z H (Z H (bB (c H (ol) (Y H (D dw H (k.a0 (ak.cell (i:=0) H))) (J H (aC Ab H H ((by have:=zn (s:=t) P G;rw[cH] at this;exact this)) ?_)))))))))
   rintro aE aG ⟨z,⟨aM,rfl,l⟩⟩
   have an:=(((((K.aL d).a4 aa λe=>by have Q:=g.lt;have R:=L;have h3:=(b).size;have W:=cC e;omega).a4 ab λe=>by have Q:=o.lt;have R:=L;have W:=cC e;omega).aL k).aL z)
   refine cl H H an H eQ (ay.a1 H (ay.a1 l.one ay.nil)) λaK N X=>?_
   have ae:=ao.a2 (((ad.ai k).ai z)) N (cf ((j.ai b)).size L)
   have M:=Kq.br (p:=[0,3]) an (aS rfl (aS rfl dj)) N
   refine O (aA (ff H (.cell H (X.ld iM H eQ) .nil) ?_))
   exact⟨_,H,ae,by first|(rw[MA q A];exact(ft.mk (l.kq M)))|(rw[MB q A];exact(ft.mk (l.kq M)))⟩
  ·have A:val m≤val n:=vE λh=>V (uD.2 h)
   have hq:=GO (Nat.sub_le (val n) (val m)) aj
   refine aH (al (T (c H (ku) (Y H (D aT H (((b.ai a).ai d).a0 (g.cell (i:=1) H))) (c H (ku) (Y H (D aT H ((a.ai d).a0 (o.cell (i:=1) H))) (aC KQ H H (Jf (C.aL (((j.ai b).ai a).ai d)) (F.aL (((j.ai b).ai a).ai d)) G G) ?_)))))))
   rintro aD aF ⟨k,⟨aB,_,rfl,P,rfl⟩⟩
   refine J H (aZ H dm (aZ H dn (Z H (Z H (bB (c H (ol) (Y H (D dw H ((((b.ai a).ai d).ai k).a0 (g.cell (i:=0) H))) (J H (aC Ab H H ((by have:=zn (s:=s) P G;rw[cH] at this;exact this)) ?_)))))))))
   rintro aE aG ⟨z,⟨aM,rfl,l⟩⟩
   refine cl H H (K.aL ((d.ai k).ai z)) H eQ (ay.a1 H (ay.a1 l.one ay.nil)) λaK N X=>?_
   have ae:=ao.a2 ((((a.ai d).ai k).ai z)) N L
   have M:=Kq.br (p:=[0,3]) (K.aL ((d.ai k).ai z)) (aS rfl (aS rfl dj)) N
   refine O (aA (ff H (.cell H (X.ld iM H eQ) .nil) ?_))
   exact⟨_,H,((j.ai b).ai ae),by first|(rw[MA q A];exact(ft.mk (l.kq M)))|(rw[MB q A];exact(ft.mk (l.kq M)))⟩
def tE (x y:Int):Int:=if x<y then-1 else if x=y then 0 else 1
theorem VB {x y:Int} (h:x<y):tE x y= -1:=by unfold tE;rw[if_pos h]
theorem VA {x y:Int} (h:y<x):tE x y=1:=by unfold tE;rw[if_neg G,if_neg G]
theorem Pb (x:Int):oF x= -1∧x<0∨oF x=0∧x=0∨oF x=1∧0<x:=by unfold oF;split<;>(try split)<;>omega
theorem Li {s:Bool} {n m:Nat}:tE (dC s n) (dC s m)=if s=true then mY m n else mY n m:=by
 unfold tE mY dC
 rcases Nat.lt_trichotomy n m with h|h|h
 ·cases s
  ·rw[if_pos dT];simp;omega
  ·rw[if_neg dT,if_neg dT];simp;omega
 ·subst h;cases s<;>simp
 ·cases s
  ·rw[if_neg dT,if_neg dT];simp;omega
  ·rw[if_pos dT];simp;omega
theorem Q1 {x y:Int} (z:IZ x v w) (t:IZ y u w) (L:(lb x.natAbs).length≤274877906944) (hm:(lb y.natAbs).length≤274877906944):
 Calls Tryz.prog 220 #[v,u] w (aJ λr w'=>ao w w'∧Is (I (tE x y)) r w'):=by
 obtain⟨p,rfl,g⟩:=z
 obtain⟨q,rfl,h⟩:=t
 have P:=Pb x
 have Q:=Pb y
 refine enter (vs:=[.agg #[B (decide (x<0)),p],.agg #[B (decide (y<0)),q]]) Tryz.func220 H H H (T (cE H H λF w2 M d j=>cE H H λK W N a k=>(Z H (O (ah (cz 5 [2,3,5,10] am am (aQ H (λw f=>((j.aL a).aL f).ld iM H eQ) (fP (S:=Is (I (oF x))) Ch (cN.is _) H H (λw f=>by have:=By (w:=w) (s:=decide (x<0)) (n:=lb x.natAbs) ((ft.mk (g.aL (d.ai a))).aL f) G;rw[cH,qg] at this;exact this) (aQ H (λw f=>(k.aL f).ld iM H eQ) (fP (S:=Is (I (oF y))) Ch (cN.is _) H H (λw f=>by have:=By (w:=w) (s:=decide (y<0)) (n:=lb y.natAbs) ((ft.mk (h.aL (d.ai a))).aL f) G;rw[cH,qg] at this;exact this) (gK H (cq ?_))))))))))))
 rintro aa b _ rfl _ rfl _ rfl _ rfl
 refine Z H (O (ah (aR (T (J H (J H (U H (bO) (Z H (O (bc H (λl=>?_) (λl=>?_)))))))))))
 ·refine T (Z H (O (aA (bD (aI (aM H ?_))))))
  exact⟨_,H,((d.ai a).ai b),by rw[VB G];rfl⟩
 ·refine T (J H (J H (U H (cY) (Z H (O ?_)))))
  refine bc H (λm=>?_) (λm=>?_)
  ·refine T (Z H (O (aA (bD (aI (aM H ?_))))))
   exact⟨_,H,((d.ai a).ai b),by rw[VA G];rfl⟩
  ·refine T (J H (U H (bO) (Z H (O ?_))))
   refine bc H (λo=>?_) (λo=>?_)
   ·refine T (c H (ku) (Y H (D aT H (b.a0 (k.cell (i:=1) H))) ?_))
    refine c H (ku) (Y H (D aT H ((a.ai b).a0 (j.cell (i:=1) H))) (aC vW H H (vz (h.aL ((d.ai a).ai b)) (g.aL ((d.ai a).ai b))) ?_))
    rintro R V ⟨A,rfl⟩
    refine Z H (O (aA (bD (aI (aM H ?_)))))
    exact⟨_,H,(((d.ai a).ai b).ai A),by
     have e:=@Li true x.natAbs y.natAbs
     rw[if_pos rfl,show dC true x.natAbs=x by unfold dC;rw[if_pos rfl];omega,show dC true y.natAbs=y by unfold dC;rw[if_pos rfl];omega] at e
     rw[e,cH,cH];rfl⟩
   ·refine aH (bE (al (T (c H (ku) (Y H (D aT H ((a.ai b).a0 (j.cell (i:=1) H))) ?_)))))
    refine c H (ku) (Y H (D aT H (b.a0 (k.cell (i:=1) H))) (aC vW H H (vz (g.aL ((d.ai a).ai b)) (h.aL ((d.ai a).ai b))) ?_))
    rintro v31 X ⟨C,rfl⟩
    refine Z H (O (aA (aM H ?_)))
    exact⟨_,H,(((d.ai a).ai b).ai C),by
     have e:=@Li false x.natAbs y.natAbs
     rw[if_neg aj,show dC false x.natAbs=x by unfold dC;rw[if_neg aj];omega,show dC false y.natAbs=y by unfold dC;rw[if_neg aj];omega] at e
     rw[e,cH,cH];rfl⟩
def qr (a:df):Rat:=rq a.1 a.2.1 a.2.2
def qn (a:df):Int:=dC a.1 (val a.2.1)
def qd (a:df):Nat:=val (ud a.2.2)
def Lq (k:Nat) (a:df):Prop:=a.2.1.length≤k∧a.2.2.length≤k
def RV (a:df):cT:=bQ a.1 a.2.1 a.2.2
theorem Ba (a:df):qr a=mkRat (qn a) (qd a):=rfl
theorem rl (a:df):0<qd a:=DZ _
theorem xx (h:m.length≤k) (a:0<k):(ud m).length≤k:=by
 unfold ud
 split
 ·show 1≤k;omega
 ·exact h
theorem BR {s:Bool} {n d:List UInt32} {x:Value} (i:aO n x w) (f:aO d y w) (j:n.length≤274877906944) (g:d.length≤274877906944) (a:0<val d):
 Calls Tryz.prog 248 #[B s,x,y] w (aJ λr w'=>ao w w'∧QV (mkRat (dC s (val n)) (val d)) r w'):=by
 have h:=Jt (s:=s) i f j g a
 obtain⟨b,c,e⟩:=Ln s (n:=val n) a
 rw[b,c,e] at h
 exact h
theorem BQ {a:df} (e:RV a v w) (h:Lq 137438953472 a):
 Calls Tryz.prog 163 #[v] w (aJ λr w'=>ao w w'∧QV (qr a) r w'):=by
 have h:=Jo e h.1 h.2
 obtain⟨b,c,d⟩:=Lp a.1 a.2.1 a.2.2
 rw[b,c,d] at h
 exact h
theorem IF {x:Int} (c:IZ x v w) (b:ft false m u w) (a:(lb x.natAbs).length≤274877906944) (hm:m.length≤274877906944):
 Calls Tryz.prog 294 #[v,u] w (aJ λr w'=>ao w w'∧IZ (x*(val m:Int)) r w'):=by
 have h:=Q2 c b a hm
 rw[cH,qg] at h
 exact h
theorem QZ {x y:Int} (c:IZ x v w) (b:IZ y u w) (a:(lb x.natAbs).length≤274877906943) (hm:(lb y.natAbs).length≤274877906943):
 Calls Tryz.prog 250 #[v,u] w (aJ λr w'=>ao w w'∧IZ (x+y) r w'):=by
 have h:=Q0 c b a hm
 rw[cH,cH,qg,qg] at h
 exact h
theorem Q3 {x:Int} (b:IZ x v w) (a:(lb x.natAbs).length≤549755813888):
 Calls Tryz.prog 233 #[v] w (aJ λr w'=>ao w w'∧Is (I (oF x)) r w'):=by
 have h:=By b a
 rw[cH,qg] at h
 exact h
theorem NT (a:df):(qn a).natAbs=val a.2.1:=tZ _ _
theorem Hc {a:df} (h:a.2.1.length≤k):(lb (qn a).natAbs).length≤k:=by rw[NT];exact pg h
theorem Cs {a b:df} (d:Lq k a) (e:Lq k b) (c:0<k):(lb (qn a*(qd b:Int)).natAbs).length≤k+k:=by
 rw[Bz,Et,NT]
 exact AF (pg d.1) (pg (xx e.2 c))
theorem Pa {i:Int} {d:Nat} (h:0<d):j8 (mkRat i d)=oF i:=Z3 h
theorem VL {a b:df}:tE (qn a*(qd b:Int)) (qn b*(qd a:Int))=sj (qr a) (qr b):=by
 have c:qr a-qr b=mkRat (qn a*(qd b:Int)-qn b*(qd a:Int)) (qd a*qd b):=by
  rw[Rat.sub_eq_add_neg,Ba,Ba,Rat.neg_mkRat,JC _ _ (by have:=rl a;omega) (by have:=rl b;omega),Int.neg_mul,Int.sub_eq_add_neg]
 rw[←Vz,c,Pa (oN (rl a) (rl b))]
 unfold oF tE
 split<;>split<;>(try split)<;>(try split)<;>omega
theorem Yx (a b:df):qr a+qr b=mkRat (qn a*(qd b:Int)+qn b*(qd a:Int)) (qd a*qd b):=by
 rw[Ba,Ba,JC _ _ (by have:=rl a;omega) (by have:=rl b;omega)]
theorem Fc {a:df} (k:RV a v w) (j:a.2.1.length≤549755813888):
 Calls Tryz.prog 234 #[v] w (aJ λr w'=>ao w w'∧IZ (qn a) r w'):=by
 obtain⟨x,y,rfl,l,t⟩:=k
 refine enter (vs:=[.agg #[B a.1,x,y]]) Tryz.func234 H H H (T (cE H H λg1 w1 u x1 f=>cM nS H λs w2 n b g=>(bB (c H (qZ) (Y H (D dw H (b.a0 (f.cell (i:=0) H))) (c H (sE) (Y H (D aT H (b.a0 (f.cell (i:=1) H))) (aC Ab H H (zn (l.aL (x1.ai b)) j) ?_))))))))
 rintro z C ⟨d,⟨F,rfl,e⟩⟩
 refine cl H H (g.aL d) H eQ (ay.a1 H (ay.a1 e.one ay.nil)) λA h m=>?_
 have q:=ao.a2 ((b.ai d)) h n
 have o:=Kq.br (p:=[0,3]) (g.aL d) (aS rfl (aS rfl dj)) h
 refine O (aA (ff H (.cell H (m.ld iM H eQ) .nil) ?_))
 exact⟨_,H,(x1.ai q),(ft.mk (e.kq o))⟩
theorem Jp {a b:df} (hv:RV a v w) (hu:RV b u w) (j:Lq 34359738368 a) (k:Lq 34359738368 b):
 Calls Tryz.prog 219 #[v,u] w (aJ λr w'=>ao w w'∧je (IZ (qn a*(qd b:Int))) (IZ (qn b*(qd a:Int))) r w'):=by
 obtain⟨x,y,rfl,K,L⟩:=hv
 obtain⟨p,q,rfl,F,J⟩:=hu
 have ar:=Hc j.1
 have au:=Hc k.1
 have ap:=xx j.2 G
 have aq:=xx k.2 G
 have aj:=j.1
 have ak:=j.2
 have al:=k.1
 have an:=k.2
 refine enter (vs:=[.agg #[B a.1,x,y],.agg #[B b.1,p,q]]) Tryz.func219 H H H (T (cE H H λg2 w2 l2 U N=>cE H H λg3 w3 l3 m P=>cM nS H λg4 w4 l4 f l=>cM nS H λg5 w5 o d k5=>(O (ah (cz 5 [2,3,4,5,6,11] am am ?_)))))
 have h:=((U.ai m).ai f).ai d
 refine aQ H (λw c=>((N.aL ((m.ai f).ai d)).aL c).ld bI H bW) (eh (S:=aO (ud a.2.2)) vZ (aO.a3 _) H (λw c=>by rintro _ rfl;exact vF ((bQ.mk (K.aL h) (L.aL h)).aL c) G) (aQ H (λw c=>((P.aL (f.ai d)).aL c).ld bI H bW) (fP (S:=aO (ud b.2.2)) vZ (aO.a3 _) H H (λw c=>vF ((bQ.mk (F.aL h) (J.aL h)).aL c) G) (gK H (cq ?_)))))
 rintro aB g _ rfl _ rfl _ rfl _ rfl af A ae z
 refine Z H (O (ah (cz 10 [4,5,16,21] am am ?_)))
 have i:=h.ai g
 refine aQ H (λw c=>((N.aL (((m.ai f).ai d).ai g)).aL c).ld bI H bW) (eh (S:=IZ (qn a)) FW (IZ.a3 _) H (λw c=>by rintro _ rfl;exact Fc ((bQ.mk (K.aL i) (L.aL i)).aL c) G) (W H (Aw (S:=Is (.agg #[B false,ae])) (cN.is _) H (λw _=>by rintro _ rfl;obtain⟨_,_,_,rfl⟩:=z.a9;exact⟨_,w,run_build _ _ _ _ am,ao.refl _,H⟩) (eh (S:=IZ (qn a*(qd b:Int))) KB (IZ.a3 _) H (λw c=>by rintro av X _ rfl;exact IF X ((ft.mk z).aL c) G G) (aQ H (λw c=>((P.aL ((f.ai d).ai g)).aL c).ld bI H bW) (fP (S:=IZ (qn b)) FW (IZ.a3 _) H H (λw c=>Fc ((bQ.mk (F.aL i) (J.aL i)).aL c) G) (W H (Aw (S:=Is (.agg #[B false,af])) (cN.is _) H (λw _=>by rintro _ rfl;obtain⟨_,_,_,rfl⟩:=A.a9;exact⟨_,w,run_build _ _ _ _ am,ao.refl _,H⟩) (eh (S:=IZ (qn b*(qd a:Int))) KB (IZ.a3 _) H (λw c=>by rintro aw Y _ rfl;exact IF Y ((ft.mk A).aL c) G G) (cq ?_))))))))))
 rintro aC n _ rfl _ rfl _ ⟨aD,rfl,C⟩ _ ⟨aE,rfl,D⟩
 refine cl H H (l.aL ((d.ai g).ai n)) H eQ (ay.a1 H (ay.a1 C.one ay.nil)) λax s ab=>?_
 have ag:=ao.a2 ((((f.ai d).ai g).ai n)) s l4
 have Q:=Kq.br (p:=[0,3]) (l.aL ((d.ai g).ai n)) (aS rfl (aS rfl dj)) s
 have M:=(((k5.aL g).aL n).a4 s λe=>by have V:=l.lt;have h2:=o;have h4:=cC e;omega)
 refine cl H H M H eQ (ay.a1 H (ay.a1 D.one ay.nil)) λaz t ad=>?_
 have ai:=ao.a2 (ag) t (cf (f).size o)
 have R:=Kq.br (p:=[0,3]) M (aS rfl (aS rfl dj)) t
 refine O (aA ?_)
 have aa:=(ab.a4 t λe=>by have V:=l.lt;have h2:=o;have h4:=cC e;omega)
 refine ff H (.cell H (aa.ld iM H eQ) (.cell H (ad.ld iM H eQ) .nil)) ?_
 exact⟨_,H,((U.ai m).ai ai),_,_,H,(ft.mk ((C.kq Q).kq R)),(ft.mk ((D.kq Q).kq R))⟩
theorem Fb {a:df} (d:RV a v w) (b:a.2.1.length≤549755813888):
 Calls Tryz.prog 159 #[v] w (aJ λr w'=>ao w w'∧Is (I (j8 (qr a))) r w'):=by
 obtain⟨x,y,rfl,e,f⟩:=d
 rw[Ba,Pa (rl a)]
 have j:=Hc b
 refine enter (vs:=[.agg #[B a.1,x,y]]) Tryz.func159 H H H (T (cE H H λg1 w1 k x1 g=>(Z H (bB (Y H (g.ld bI H bW) (aC FW H H (Fc (bQ.mk (e.aL x1) (f.aL x1)) b) ?_))))))
 rintro v4 w4 ⟨h,⟨m,rfl,c⟩⟩
 refine aC Ch H H (Q3 (ft.mk c) G) ?_
 rintro v5 l ⟨i,rfl⟩
 refine Z H (O (aA (aM H ?_)))
 exact⟨_,H,((x1.ai h).ai i),H⟩
theorem HP (x:Rat):j8 x= -1∧x<0∨j8 x=0∧x=0∨j8 x=1∧0<x:=by
 unfold j8
 split
 ·exact .inl ⟨H,by assumption⟩
 ·split
  ·exact .inr (.inl ⟨H,by assumption⟩)
  ·exact .inr (.inr ⟨H,by grind⟩)
theorem Vy {x y:Rat} (h:x<y):sj x y= -1:=by unfold sj;rw[if_pos h]
theorem Vx {x y:Rat} (h:y<x):sj x y=1:=by unfold sj;rw[if_neg (by grind),if_neg (by grind)]
theorem O2 {x y:Rat} (h:j8 x<j8 y):x<y:=by
 rcases HP x with⟨a,c⟩|⟨a,c⟩|⟨a,c⟩<;>rcases HP y with⟨b,d⟩|⟨b,d⟩|⟨b,d⟩<;>rw[a,b] at h<;>first|omega|grind
theorem RW {a b:df} (X:RV a v w) (W:RV b u w) (i:Lq 34359738368 a) (j:Lq 34359738368 b):
 Calls Tryz.prog 142 #[v,u] w (aJ λr w'=>ao w w'∧Is (I (sj (qr a) (qr b))) r w'):=by
 obtain⟨x,y,rfl,A,C⟩:=X
 obtain⟨p,q,rfl,t,z⟩:=W
 have aj:=i.1
 have ak:=j.1
 have c1:=Cs i j G
 have c2:=Cs j i G
 refine enter (vs:=[.agg #[B a.1,x,y],.agg #[B b.1,p,q]]) Tryz.func142 H H H (T (cE H H λg2 w2 l2 f D=>cE H H λg3 w3 l3 c F=>(Z H (O (ah (ah (cz 5 [2,3,5,12] am am ?_)))))))
 have h:=f.ai c
 refine aQ H (λw g=>((D.aL c).aL g).ld bI H bW) (eh (S:=Is (I (j8 (qr a)))) vY (cN.is _) H (λw g=>by rintro _ rfl;exact Fb ((bQ.mk (A.aL h) (C.aL h)).aL g) G) (aQ H (λw g=>(F.aL g).ld bI H bW) (fP (S:=Is (I (j8 (qr b)))) vY (cN.is _) H H (λw g=>Fb ((bQ.mk (t.aL h) (z.aL h)).aL g) G) (gK H (cq ?_)))))
 rintro aw d _ rfl _ rfl _ rfl _ rfl
 refine Z H (bB (J H (J H (U H (dZ) (O (bc H (λQ=>?_) (λQ=>?_)))))))
 ·refine ah (T (J H (J H (U H (bO) (O ?_)))))
  refine bc H (λs=>?_) (λs=>?_)
  ·refine T (Z H (O (aA (aI (aI (aM H ?_))))))
   exact⟨_,H,((f.ai c).ai d),by rw[Vy (O2 s)];rfl⟩
  ·refine aH (al (T (Z H (O (aA (aI (aM H ?_)))))))
   exact⟨_,H,((f.ai c).ai d),by rw[Vx (O2 G)];rfl⟩
 ·refine aH (al (T (Y H ((D.aL (c.ai d)).ld bI H bW) (Y H ((F.aL d).ld bI H bW) ?_))))
  refine aC KS H H (Jp (bQ.mk (A.aL ((f.ai c).ai d)) (C.aL ((f.ai c).ai d))) (bQ.mk (t.aL ((f.ai c).ai d)) (z.aL ((f.ai c).ai d))) i j) ?_
  rintro an aq ⟨af,⟨_,_,rfl,⟨ax,rfl,n⟩,⟨az,rfl,o⟩⟩⟩
  refine J H (aZ H dm (aZ H dn (cM nS H λg7 w7 l7 M k=>cM nS H λg8 w8 l N k8=>cl H H (k.aL N) H eQ (ay.a1 H (ay.a1 n.one ay.nil)) λau K ad=>?_)))
  have ai:=ao.a2 ((M.ai N)) K l7
  have aa:=(k8.a4 K λe=>by have P:=k.lt;have R:=l;have V:=cC e;omega)
  refine cl H H aa H eQ (ay.a1 H (ay.a1 o.one ay.nil)) λav L ae=>?_
  have m:=ao.a2 (ai) L (cf (M).size l)
  refine bB ?_
  have ab:=(ad.a4 L λe=>by have P:=k.lt;have R:=l;have V:=cC e;omega)
  refine Y H (ab.ld iM H eQ) (Y H (ae.ld iM H eQ) (aC Ug H H (Q1 (ft.mk (n.aL m)) (ft.mk (o.aL m)) G G) ?_))
  rintro ap ar ⟨ag,rfl⟩
  refine Z H (O (aA (aM H ?_)))
  exact⟨_,H,(((((f.ai c).ai d).ai af).ai m).ai ag),by rw[←VL];rfl⟩
theorem R8 {a:df} (s:RV a v w) (q:Lq 137438953472 a):
 Calls Tryz.prog 140 #[v] w (aJ λr w'=>ao w w'∧QV (-qr a) r w'):=by
 obtain⟨x,y,rfl,t,u⟩:=s
 have e: -qr a=qr (!a.1,a.2.1,a.2.2):=(ZF _ _ _).symm
 rw[e]
 refine enter (vs:=[.agg #[B a.1,x,y]]) Tryz.func140 H H H (T (cE H H λg1 w1 F x1 b=>cM iH H λJ w2 k f A=>(bB (c H (qZ) (Y H (D dw H (f.a0 (b.cell (i:=0) H))) (cP H cW (c H (qZ) (jQ H H (b.aL f) ZQ H H λP m z=>?_))))))))
 have d:=ao.a2 ((x1.ai f)) m F
 refine bB (Y H (z.ld bI H bW) (aC vX H H ((BQ (a:=(!a.1,a.2.1,a.2.2)) (bQ.mk (t.aL d) (u.aL d)) q)) ?_))
 rintro N R ⟨o,⟨S,U,rfl,g,h⟩⟩
 have j:=((A.a4 m λe=>by have K:=b.lt;have L:=k;have M:=cC e;omega).aL o)
 refine cl H H j H bW (ay.a1 H (ay.a1 g.one (ay.a1 h.one ay.nil))) λQ n C=>?_
 have G:=ao.a2 ((d.ai o)) n (cf (x1).size k)
 have l:=Kq.br (p:=[0,3,3]) j (aS rfl (aS rfl (aS rfl dj))) n
 refine O (aA (ff H (.cell H (C.ld bI H bW) .nil) ?_))
 exact⟨_,H,G,(bQ.mk (g.kq l) (h.kq l))⟩
theorem RU {a b:df} (hv:RV a v w) (hu:RV b u w) (g:Lq 34359738368 a) (h:Lq 34359738368 b):
 Calls Tryz.prog 165 #[v,u] w (aJ λr w'=>ao w w'∧QV (qr a+qr b) r w'):=by
 obtain⟨x,y,rfl,U,V⟩:=hv
 obtain⟨p,q,rfl,Q,R⟩:=hu
 have aB:=g.2
 have aD:=h.2
 have ak:=xx g.2 G
 have al:=xx h.2 G
 have c1:=Cs g h G
 have c2:=Cs h g G
 have c3:(lb (qn a*(qd b:Int)+qn b*(qd a:Int)).natAbs).length≤68719476736+68719476736+1:=by
  have t:(qn a*(qd b:Int)+qn b*(qd a:Int)).natAbs≤(qn a*(qd b:Int)).natAbs+(qn b*(qd a:Int)).natAbs:=II _ _
  have:=GO t (MQ c1 c2)
  omega
 have c4:(lb (qd a*qd b)).length≤34359738368+34359738368:=AF (pg ak) (pg al)
 have an:=oN (rl a) (rl b)
 refine enter (vs:=[.agg #[B a.1,x,y],.agg #[B b.1,p,q]]) Tryz.func165 H H H (T (cE H H λg2 w2 l2 x2 W=>cE H H λg3 w3 l3 o Z=>cM iH H λg4 w4 l4 k k4=>(bB (Y H ((W.aL (o.ai k)).ld bI H bW) (Y H ((Z.aL k).ld bI H bW) ?_)))))
 have f:=(x2.ai o).ai k
 refine aC KS H H (Jp (bQ.mk (U.aL f) (V.aL f)) (bQ.mk (Q.aL f) (R.aL f)) g h) ?_
 rintro aE aI ⟨m,⟨_,_,rfl,⟨aU,rfl,K⟩,⟨aV,rfl,L⟩⟩⟩
 refine J H (aZ H dm (aZ H dn (cM nS H λg5 w5 l5 x5 z=>cM nS H λg6 w6 A x6 k6=>cl H H (z.aL x6) H eQ (ay.a1 H (ay.a1 K.one ay.nil)) λaL ab ar=>?_)))
 have ax:=ao.a2 ((x5.ai x6)) ab l5
 have ap:=(k6.a4 ab λe=>by have t:=z.lt;have h2:=A;have h4:=cC e;omega)
 refine cl H H ap H eQ (ay.a1 H (ay.a1 L.one ay.nil)) λaM ad au=>?_
 have d:=ao.a2 (ax) ad (cf (x5).size A)
 refine bB ?_
 have aq:=(ar.a4 ad λe=>by have t:=z.lt;have h2:=A;have h4:=cC e;omega)
 refine Y H (aq.ld iM H eQ) (Y H (au.ld iM H eQ) (aC Uf H H (QZ (ft.mk (K.aL d)) (ft.mk (L.aL d)) G G) ?_))
 rintro aF aK ⟨n,⟨aW,rfl,M⟩⟩
 refine cM nS H λg7 w7 l7 x7 k7=>cl H H k7 H eQ (ay.a1 H (ay.a1 M.one ay.nil)) λaN aw X=>?_
 have j:=ao.a2 (x7) aw l7
 refine O (ah (cz 10 [4,26] am am (bH H (λw c=>ol) (aQ H (λw c=>D dw H (c.a0 (X.cell (i:=0) H))) (bH H (λw c=>ku) (aQ H (λw c=>D aT H (c.a0 (X.cell (i:=1) H))) (aQ H (λw c=>((W.aL (((((o.ai k).ai m).ai d).ai n).ai j)).aL c).ld bI H bW) ?_)))))))
 have l:=(((f.ai m).ai d).ai n).ai j
 refine eh (S:=aO (ud a.2.2)) vZ (aO.a3 _) H (λw c=>by rintro _ rfl;exact vF ((bQ.mk (U.aL l) (V.aL l)).aL c) G) ?_
 have F:=(((k.ai m).ai d).ai n).ai j
 refine aQ H (λw c=>((Z.aL F).aL c).ld bI H bW) (fP (S:=aO (ud b.2.2)) vZ (aO.a3 _) H H (λw c=>vF ((bQ.mk (Q.aL l) (R.aL l)).aL c) G) (eh (S:=aO (lb (qd a*qd b))) Ck (aO.a3 _) H (λw c=>by rintro aG ag v24 ai;exact BJ ag ai G G) (eh (S:=QV (qr a+qr b)) Aj (QV.a3 _) H (λw c=>by rintro _ rfl _ rfl aH aj;exact(by have:=BR (w:=w) (s:=decide (qn a*(qd b:Int)+qn b*(qd a:Int)<0)) ((M.aL j).aL c) aj G G (by rw[cH];exact an);rw[cH,cH,qg,←Yx] at this;exact this)) (cq ?_))))
 rintro aR af _ rfl _ ⟨aX,aY,rfl,N,P⟩
 have C:=(((m.ai d).ai n).ai j).ai af
 refine cl H H (k4.aL C) H bW (ay.a1 H (ay.a1 N.one (ay.a1 P.one ay.nil))) λaP ae av=>?_
 have az:=ao.a2 ((F.ai af)) ae l4
 have aa:=Kq.br (p:=[0,3,3]) (k4.aL C) (aS rfl (aS rfl (aS rfl dj))) ae
 refine O (aA (ff H (.cell H (av.ld bI H bW) .nil) ?_))
 exact⟨_,H,((x2.ai o).ai az),(bQ.mk (N.kq aa) (P.kq aa))⟩
theorem Yy (a b:df):qr a*qr b=mkRat (dC (a.1 !=b.1) (val a.2.1*val b.2.1)) (qd a*qd b):=ZE _ _ _ _ _ _
theorem R0 {a b:df} (X:RV a v w) (W:RV b u w) (g:Lq 34359738368 a) (h:Lq 34359738368 b):
 Calls Tryz.prog 166 #[v,u] w (aJ λr w'=>ao w w'∧QV (qr a*qr b) r w'):=by
 obtain⟨x,y,rfl,t,Y⟩:=X
 obtain⟨p,q,rfl,o,V⟩:=W
 have N:=g.1
 have P:=h.1
 have ab:=g.2
 have ad:=h.2
 have Q:=xx g.2 G
 have R:=xx h.2 G
 have c3:(lb (val a.2.1*val b.2.1)).length≤34359738368+34359738368:=AF (pg N) (pg P)
 have c4:(lb (qd a*qd b)).length≤34359738368+34359738368:=AF (pg Q) (pg R)
 have U:=oN (rl a) (rl b)
 refine enter (vs:=[.agg #[B a.1,x,y],.agg #[B b.1,p,q]]) Tryz.func166 H H H (T (cE H H λg2 w2 l2 F j=>cE H H λg3 w3 l3 f k=>cM iH H λg4 w4 l4 d z=>(O (ah (cz 16 [4,20] am am (bH H (λw c=>qZ) (aQ H (λw c=>D dw H (c.a0 ((f.ai d).a0 (j.cell (i:=0) H)))) (bH H (λw c=>qZ) (aQ H (λw c=>D dw H (c.a0 (d.a0 (k.cell (i:=0) H)))) (bn H (λw _=>Hm dw) (bH H (λw c=>sE) (aQ H (λw c=>D aT H (c.a0 ((f.ai d).a0 (j.cell (i:=1) H)))) (bH H (λw c=>sE) ?_)))))))))))))
 have e:=(F.ai f).ai d
 refine aQ H (λw c=>D aT H (c.a0 (d.a0 (k.cell (i:=1) H)))) (eh (S:=aO (lb (val a.2.1*val b.2.1))) Ck (aO.a3 _) H (λw c=>by rintro _ rfl _ rfl;exact BJ ((t.aL e).aL c) ((o.aL e).aL c) G G) (aQ H (λw c=>((j.aL (f.ai d)).aL c).ld bI H bW) (eh (S:=aO (ud a.2.2)) vZ (aO.a3 _) H (λw c=>by rintro _ rfl;exact vF ((bQ.mk (t.aL e) (Y.aL e)).aL c) G) (aQ H (λw c=>((k.aL d).aL c).ld bI H bW) (fP (S:=aO (ud b.2.2)) vZ (aO.a3 _) H H (λw c=>vF ((bQ.mk (o.aL e) (V.aL e)).aL c) G) (eh (S:=aO (lb (qd a*qd b))) Ck (aO.a3 _) H (λw c=>by rintro af K ag L;exact BJ K L G G) (eh (S:=QV (qr a*qr b)) Aj (QV.a3 _) H (λw c=>by rintro _ rfl ae J ai M;exact(by have:=BR (w:=w) (s:=a.1 !=b.1) J M G G (by rw[cH];exact U);rw[cH,cH,←Yy] at this;exact this)) (cq ?_))))))))
 rintro ak l _ rfl _ ⟨al,an,rfl,m,n⟩
 refine cl H H (z.aL l) H bW (ay.a1 H (ay.a1 m.one (ay.a1 n.one ay.nil))) λaj C Z=>?_
 have aa:=ao.a2 ((d.ai l)) C l4
 have A:=Kq.br (p:=[0,3,3]) (z.aL l) (aS rfl (aS rfl (aS rfl dj))) C
 refine O (aA (ff H (.cell H (Z.ld bI H bW) .nil) ?_))
 exact⟨_,H,((F.ai f).ai aa),(bQ.mk (m.kq A) (n.kq A))⟩
theorem Lk {x y:Rat}:sj x y≥0↔y≤x:=by
 unfold sj
 split
 ·constructor<;>intro h<;>grind
 ·split
  ·constructor<;>intro h<;>grind
  ·constructor<;>intro h<;>grind
theorem RZ {a b:df} (V:RV a v w) (S:RV b u w) (j:Lq 34359738368 a) (k:Lq 34359738368 b):
 Calls Tryz.prog 164 #[v,u] w (aJ λr w'=>ao w w'∧QV (max (qr a) (qr b)) r w'):=by
 obtain⟨x,y,rfl,C,D⟩:=V
 obtain⟨p,q,rfl,z,A⟩:=S
 have Q:Lq 137438953472 a:=⟨cf j.1 G,cf j.2 G⟩
 have R:Lq 137438953472 b:=⟨cf k.1 G,cf k.2 G⟩
 refine enter (vs:=[.agg #[B a.1,x,y],.agg #[B b.1,p,q]]) Tryz.func164 H H H (T (cE H H λg2 w2 l2 f F=>cE H H λg3 w3 l3 e J=>cM iH H λg4 w4 K d h=>(O (ah (T (Y H ((F.aL (e.ai d)).ld bI H bW) (Y H ((J.aL d).ld bI H bW) ?_)))))))
 have g:=(f.ai e).ai d
 refine aC UP H H (RW (bQ.mk (C.aL g) (D.aL g)) (bQ.mk (z.aL g) (A.aL g)) j k) ?_
 rintro v7 w7 ⟨c,rfl⟩
 refine U H (eU) (O (bc H (λi=>?_) (λi=>?_)))
 ·refine T (Y H ((F.aL ((e.ai d).ai c)).ld bI H bW) (aC vX H H (BQ (bQ.mk (C.aL (((f.ai e).ai d).ai c)) (D.aL (((f.ai e).ai d).ai c))) Q) ?_))
  rintro ab ae ⟨l,⟨aj,ak,rfl,n,o⟩⟩
  refine cl H H (h.aL (c.ai l)) H bW (ay.a1 H (ay.a1 n.one (ay.a1 o.one ay.nil))) λag N W=>?_
  have Z:=ao.a2 (((d.ai c).ai l)) N K
  have L:=Kq.br (p:=[0,3,3]) (h.aL (c.ai l)) (aS rfl (aS rfl (aS rfl dj))) N
  refine O (aA (aI (ff H (.cell H (W.ld bI H bW) .nil) ?_)))
  exact⟨_,H,((f.ai e).ai Z),by
   have:=Lk.1 i
   rw[show max (qr a) (qr b)=qr a by rw[Rat.max_def];split<;>grind];exact(bQ.mk (n.kq L) (o.kq L))⟩
 ·refine aH (al (T (Y H ((J.aL (d.ai c)).ld bI H bW) (aC vX H H (BQ (bQ.mk (z.aL (((f.ai e).ai d).ai c)) (A.aL (((f.ai e).ai d).ai c))) R) ?_))))
  rintro ad af ⟨m,⟨am,an,rfl,s,t⟩⟩
  refine cl H H (h.aL (c.ai m)) H bW (ay.a1 H (ay.a1 s.one (ay.a1 t.one ay.nil))) λai P X=>?_
  have aa:=ao.a2 (((d.ai c).ai m)) P K
  have M:=Kq.br (p:=[0,3,3]) (h.aL (c.ai m)) (aS rfl (aS rfl (aS rfl dj))) P
  refine O (aA (ff H (.cell H (X.ld bI H bW) .nil) ?_))
  exact⟨_,H,((f.ai e).ai aa),by
   have:=mt Lk.2 i
   rw[show max (qr a) (qr b)=qr b by rw[Rat.max_def];split<;>grind];exact(bQ.mk (s.kq M) (t.kq M))⟩
theorem Sa {x:Int} (m:IZ x v w) (u:(lb x.natAbs).length≤274877906944):
 Calls Tryz.prog 196 #[v] w (aJ λr w'=>ao w w'∧QV (x:Rat) r w'):=by
 obtain⟨p,rfl,l⟩:=m
 refine enter (vs:=[.agg #[B (decide (x<0)),p]]) Tryz.func196 H H H (T (cE H H λg1 w1 y x1 f=>cM iH H λt w2 o b g=>(O (ah (cz 6 [2,8] am am (bH H (λw a=>ol) (aQ H (λw a=>D dw H (a.a0 (b.a0 (f.cell (i:=0) H)))) (bH H (λw a=>ku) (aQ H (λw a=>D aT H (a.a0 (b.a0 (f.cell (i:=1) H)))) (eh (S:=aO ([1])) KU (aO.a3 _) H (λw a=>by exact Js) (eh (S:=QV ((x:Rat))) Aj (QV.a3 _) H (λw a=>by rintro _ rfl _ rfl z k;exact(by have:=BR (w:=w) (s:=decide (x<0)) ((l.aL (x1.ai b)).aL a) k G aj (by rw[H9];omega);rw[cH,H9,qg,Rat.mkRat_one] at this;exact this)) (cq ?_))))))))))))
 rintro C c _ rfl _ ⟨F,J,rfl,d,e⟩
 refine cl H H (g.aL c) H bW (ay.a1 H (ay.a1 d.one (ay.a1 e.one ay.nil))) λA j n=>?_
 have q:=ao.a2 ((b.ai c)) j o
 have h:=Kq.br (p:=[0,3,3]) (g.aL c) (aS rfl (aS rfl (aS rfl dj))) j
 refine O (aA (ff H (.cell H (n.ld bI H bW) .nil) ?_))
 exact⟨_,H,(x1.ai q),(bQ.mk (d.kq h) (e.kq h))⟩
theorem Jr {x:Int} (i: -9223372036854775808≤x) (j:x≤9223372036854775807):
 Calls Tryz.prog 108 #[I x] w (aJ λr w'=>ao w w'∧QV (x:Rat) r w'):=by
 have q:(lb x.natAbs).length≤2:=gw G
 refine enter Tryz.func108 H H H (T (cM iH H λo w2 l n e=>(bB (J H (aC FL H H ((Eo i j)) ?_)))))
 rintro v4 w4 ⟨a,⟨u,rfl,h⟩⟩
 refine aC US H H (Sa (ft.mk h) G) ?_
 rintro v5 t ⟨b,⟨v,y,rfl,c,d⟩⟩
 refine cl H H (e.aL (a.ai b)) H bW (ay.a1 H (ay.a1 c.one (ay.a1 d.one ay.nil))) λs g k=>?_
 have m:=ao.a2 (((n.ai a).ai b)) g l
 have f:=Kq.br (p:=[0,3,3]) (e.aL (a.ai b)) (aS rfl (aS rfl (aS rfl dj))) g
 refine O (aA (ff H (.cell H (k.ld bI H bW) .nil) ?_))
 exact⟨_,H,m,(bQ.mk (c.kq f) (d.kq f))⟩
theorem UW:aY Tryz.prog 83:=⟨_,Tryz.func83,am,rfl⟩
theorem KW:aY Tryz.prog 160:=⟨_,Tryz.func160,am,rfl⟩
theorem Ak:aY Tryz.prog 26:=⟨_,Tryz.func26,am,rfl⟩
theorem Jw {s:Bool} {n:List UInt32} (k:aO n v w) (o:n.length≤549755813888):
 Calls Tryz.prog 160 #[B s,v] w (aJ λr w'=>ao w w'∧IZ (dC s (val n)) r w'):=by
 refine enter Tryz.func160 H H H (T (cM nS H λm w4 i h d=>(bB (J H (aC qP H H (rX (k.aL h) G) ?_)))))
 rintro j q ⟨b,a⟩
 refine Z H (O (ah ?_))
 cases s
 ·refine ap (J H (J H (L H (L H (L H (t H (J H (dY (r:=.agg #[B false,j]) H (by obtain⟨_,_,_,rfl⟩:=a.a9;exact run_build _ _ _ _ am) ?_))))))))
  refine cl H H (d.aL b) H eQ (ay.a1 H (ay.a1 a.one ay.nil)) λl c e=>?_
  have g:=ao.a2 ((h.ai b)) c i
  have f:=Kq.br (p:=[0,3]) (d.aL b) (aS rfl (aS rfl dj)) c
  refine O (aA (ff H (.cell H (e.ld iM H eQ) .nil) ?_))
  exact⟨_,H,g,IZ.of (by rw[←Cr];rfl) (by rw[tZ];exact(a.kq f))⟩
 ·refine ap (J H (J H (V H (J H (V H (aW H (cI aT a) (V H (U H (cY) ?_))))))))
  refine bA H (J H (AY (r:=.agg #[B (decide (((lb (val n)).length:Int)>0)),j]) H H (by obtain⟨_,_,_,rfl⟩:=a.a9;exact run_build _ _ _ _ am) (cl H H (d.aL b) H eQ (ay.a1 H (ay.a1 a.one ay.nil)) λl c e=>?_)))
  have g:=ao.a2 ((h.ai b)) c i
  have f:=Kq.br (p:=[0,3]) (d.aL b) (aS rfl (aS rfl dj)) c
  refine O (aA (ff H (.cell H (e.ld iM H eQ) .nil) ?_))
  exact⟨_,H,g,IZ.of (by rw[←Cr];unfold jg;rw[Bw];exact cA.2 (by have:=@NP (val n);omega)) (by rw[tZ];exact(a.kq f))⟩
theorem Se {x:Int} (q: -9223372036854775808≤x) (t:x≤9223372036854775807):
 Calls Tryz.prog 83 #[I x] w (aJ λr w'=>ao w w'∧IZ x r w'):=by
 have i:∀y:UInt64,(lb y.toNat).length≤2:=λy=>gw (by have:=Bn y;omega)
 refine enter Tryz.func83 H H H (T (cM nS H λF w2 j m a=>(O (ah (T (J H (U H (bO) (O (bc H (λh=>?_) (λh=>?_))))))))))
 ·refine T (J H (cJ H (yV aE cU) ?_))
  refine cP (r:=bk (-UInt64.ofInt x)) H Oe (aC Cm H H (BT) ?_)
  rintro M S ⟨d,o⟩
  refine aC KW H H ((by
 have:=Jw (s:=true) o (cf (i _) G)
 rw[cH,Pv h q,show dC true x.natAbs=x by unfold dC;rw[if_pos rfl];omega] at this
 exact this)) ?_
  rintro v9 V ⟨e,⟨X,rfl,g⟩⟩
  refine cl H H (a.aL (d.ai e)) H eQ (ay.a1 H (ay.a1 g.one ay.nil)) λQ k u=>?_
  have C:=ao.a2 (((m.ai d).ai e)) k j
  have z:=Kq.br (p:=[0,3]) (a.aL (d.ai e)) (aS rfl (aS rfl dj)) k
  refine O (aA (aI (ff H (.cell H (u.ld iM H eQ) .nil) ?_)))
  exact⟨_,H,C,(ft.mk (g.kq z))⟩
 ·refine aH (al (T (J H (cJ H (yV aE cU) (aC Cm H H (BT) ?_)))))
  rintro K N ⟨b,n⟩
  refine aC KW H H ((by
 have:=Jw (s:=false) n (cf (i _) G)
 rw[cH,Pw G t,show dC false x.natAbs=x by unfold dC;rw[if_neg aj];omega] at this
 exact this)) ?_
  rintro L P ⟨c,⟨W,rfl,f⟩⟩
  refine cl H H (a.aL (b.ai c)) H eQ (ay.a1 H (ay.a1 f.one ay.nil)) λR l v=>?_
  have D:=ao.a2 (((m.ai b).ai c)) l j
  have A:=Kq.br (p:=[0,3]) (a.aL (b.ai c)) (aS rfl (aS rfl dj)) l
  refine O (aA (ff H (.cell H (v.ld iM H eQ) .nil) ?_))
  exact⟨_,H,D,(ft.mk (f.kq A))⟩
def cR (x:Rat):df:=(x.sg,x.nl,x.dl)
theorem tT (x:Rat):qr (cR x)=x:=DK x
theorem qC {x:Rat} (h:bt x≤k):Lq k (cR x):=⟨by have:=XG x;show x.nl.length≤k;omega,by have:=V6 x;show x.dl.length≤k;omega⟩
section
variable {w:World} {x y:Rat} {v u:Value}
theorem Bu (d:QV x v w) (c:QV y u w) (h:bt x+bt y≤34359738368):Calls Tryz.prog 165 #[v,u] w (aJ λr w'=>ao w w'∧QV (x+y) r w'):=by
 have:=RU (a:=cR x) (b:=cR y) d c (qC G) (qC G)
 rwa [tT,tT] at this
theorem xE (d:QV x v w) (c:QV y u w) (h:bt x+bt y≤34359738368):Calls Tryz.prog 166 #[v,u] w (aJ λr w'=>ao w w'∧QV (x*y) r w'):=by
 have:=R0 (a:=cR x) (b:=cR y) d c (qC G) (qC G)
 rwa [tT,tT] at this
theorem Ip (d:QV x v w) (c:QV y u w) (h:bt x+bt y≤34359738368):Calls Tryz.prog 164 #[v,u] w (aJ λr w'=>ao w w'∧QV (max x y) r w'):=by
 have:=RZ (a:=cR x) (b:=cR y) d c (qC G) (qC G)
 rwa [tT,tT] at this
theorem A_neg (b:QV x v w) (h:bt x≤34359738368):Calls Tryz.prog 140 #[v] w (aJ λr w'=>ao w w'∧QV (-x) r w'):=by
 have:=R8 (a:=cR x) b (qC G)
 rwa [tT] at this
theorem Ef (b:QV x v w) (h:bt x≤34359738368):Calls Tryz.prog 163 #[v] w (aJ λr w'=>ao w w'∧QV x r w'):=by
 have:=BQ (a:=cR x) b (qC G)
 rwa [tT] at this
theorem zi (b:QV x v w) (h:bt x≤34359738368):Calls Tryz.prog 159 #[v] w (aJ λr w'=>ao w w'∧Is (I (j8 x)) r w'):=by
 have:=Fb (a:=cR x) b (by have:=(qC h).1;omega)
 rwa [tT] at this
theorem Eg (a:QV x v w) (h:bt x≤34359738368):Calls Tryz.prog 96 #[v] w (aJ λr w'=>ao w w'∧Is (B true) r w'):=by
 have:=BS a (cf (qC (k:=34359738368) G).1 G) (cf (qC (k:=34359738368) G).2 G)
 rwa [ZL] at this
end
theorem BV {x:Int} (h: -9223372036854775808≤x) (j:x≤9223372036854775807):
 Calls Tryz.prog 26 #[I x] w (aJ λr w'=>ao w w'∧QV (x:Rat) r w'):=by
 refine enter Tryz.func26 H H H (T (cM iH H λy w2 m s f=>(bB (J H (aC UW H H ((Se h j)) ?_)))))
 rintro v5 G ⟨d,⟨v,rfl,a⟩⟩
 refine cM nS H λz F n u l=>cl H H l H eQ (ay.a1 H (ay.a1 a.one ay.nil)) λA q e=>?_
 have b:=ao.a2 (u) q n
 refine bB (c H (ol) (Y H (D dw H (e.cell (i:=0) H)) (c H (ku) (Y H (D aT H (e.cell (i:=1) H)) (dY (r:=.agg #[B (decide (x<0)),v,.slice none 0 0]) H (by obtain⟨_,_,_,rfl⟩:=a.a9;exact run_build _ _ _ _ am) (cl H H (f.aL (d.ai b)) H bW (ay.a1 H (ay.a1 a.one (ay.a1 H ay.nil))) λC g k=>?_))))))
 have t:=ao.a2 (((s.ai d).ai b)) g m
 have o:=Kq.br (p:=[0,3,3]) (f.aL (d.ai b)) (aS rfl (aS rfl (aS rfl dj))) g
 refine O (aA (ff H (.cell H (k.ld bI H bW) .nil) ?_))
 exact⟨_,H,t,(bQ.mk ((a.aL b).kq o) (aO.nil _))⟩
def gd (v:Int) (c:Rat):List cX:=if c=0 then[] else[⟨v,c⟩]
def Nk (t:cX) (rec:List cX→List cX) (c:Rat):List cX→List cX
 |[]=>gd t.va t.co++rec []
 |u::b=>if t.va<u.va then gd t.va t.co++rec (u::b) else if u.va<t.va then gd u.va (u.co*c)++Nk t rec c b else gd t.va (t.co+u.co*c)++rec b
def fX (c:Rat):List cX→List cX→List cX
 |[],b=>b.flatMap λu=>gd u.va (u.co*c)
 |t::a,b=>Nk t (λb=>fX c a b) c b
def pJ (f g:bj) (c:Rat):bj:=⟨fX c f.ts g.ts,f.ct+g.ct*c⟩
def iR (f g:bj):bj:=pJ f g 1
def y9 (f g:bj):bj:=pJ f g (-1)
def zF:bj:=⟨[],0⟩
def mP (f:bj) (c:Rat):bj:=pJ zF f c
theorem C3 (c:Rat) (u:cX) (b:List cX):fX c [] (u::b)=gd u.va (u.co*c)++fX c [] b:=rfl
theorem C2 (c:Rat) (t:cX) (a:List cX):fX c (t::a) []=gd t.va t.co++fX c a []:=rfl
theorem AO {c:Rat} {t u:cX} {a b:List cX} (h:t.va<u.va):fX c (t::a) (u::b)=gd t.va t.co++fX c a (u::b):=if_pos h
theorem AN {c:Rat} {t u:cX} {a b:List cX} (h:u.va<t.va):fX c (t::a) (u::b)=gd u.va (u.co*c)++fX c (t::a) b:=(if_neg G).ai (if_pos h)
theorem AM {c:Rat} {t u:cX} {a b:List cX} (h:¬t.va<u.va) (d:¬u.va<t.va):fX c (t::a) (u::b)=gd t.va (t.co+u.co*c)++fX c a b:=(if_neg h).ai (if_neg d)
theorem tR {P:List cX→List cX→Prop} (c:P [] []) (d:∀t a,P a []→P (t::a) []) (e:∀u b,P [] b→P [] (u::b)) (f:∀t a u b,P a (u::b)→P (t::a) b→P a b→P (t::a) (u::b)):∀a b,P a b
 |[],[]=>c
 |t::a,[]=>d t a (tR c d e f a [])
 |[],u::b=>e u b (tR c d e f [] b)
 |t::a,u::b=>f t a u b (tR c d e f a (u::b)) (tR c d e f (t::a) b) (tR c d e f a b)
 termination_by a b=>a.length+b.length
def yu (x:Int→Rat):List cX→Rat
 |[]=>0
 |t::l=>t.co*x t.va+yu x l
theorem Wb (x:Int→Rat):∀a b:List cX,yu x (a++b)=yu x a+yu x b
 |[],b=>by simp only[qB,yu];grind
 |t::a,b=>by simp only[nU,yu,Wb x a b];grind
def lr (n:Int):Int→List cX→Bool
 |_,[]=>true
 |lo,t::l=>decide (lo≤t.va)&&decide (t.va<n)&&decide (t.co≠0)&&lr n (t.va+1) l
def jk (f:bj) (n:Int):Bool:=lr n 0 f.ts
theorem pT {n lo:Int} {t:cX} {l:List cX}:lr n lo (t::l)=true↔(lo≤t.va∧t.va<n∧t.co≠0)∧lr n (t.va+1) l=true:=by
 simp only[lr,ex,gI,and_assoc]
theorem Yd {n lo a:Int} {l:List cX} (h:lr n lo l=true) (b:a≤lo):lr n a l=true:=by
 cases l with
 |nil=>rfl
 |cons t l=>
  rw[pT] at h⊢
  exact⟨⟨G,h.1.2⟩,h.2⟩
theorem Dc {n m:Int} (a:n≤m):∀{lo:Int} {l:List cX},lr n lo l=true→lr m lo l=true
 |_,[],_=>rfl
 |lo,t::l,h=>by
  rw[pT] at h⊢
  exact⟨⟨h.1.1,G,h.1.2.2⟩,Dc a h.2⟩
theorem A6 {n lo v:Int} {c:Rat} {l:List cX} (a:lo≤v) (b:v<n) (h:lr n (v+1) l=true):lr n lo (gd v c++l)=true:=by
 unfold gd
 split
 ·exact Yd h G
 ·rename_i d
  exact pT.2 ⟨⟨a,b,d⟩,h⟩
theorem Yc {n:Int} (c:Rat):∀a b:List cX,∀lo,lr n lo a=true→lr n lo b=true→lr n lo (fX c a b)=true:=by
 refine tR ?_ ?_ ?_ ?_
 ·intro lo _ _;rfl
 ·intro t a f lo h _
  rw[pT] at h
  rw[C2]
  exact A6 h.1.1 h.1.2.1 (f _ h.2 H)
 ·intro u b f lo _ h
  rw[pT] at h
  rw[C3]
  exact A6 h.1.1 h.1.2.1 (f _ H h.2)
 ·intro t a u b g i j lo k l
  have d:=pT.1 k
  have e:=pT.1 l
  rcases Ep t.va u.va with h|h|h
  ·rw[AO h]
   exact A6 d.1.1 d.1.2.1 (g _ d.2 (pT.2 ⟨⟨G,e.1.2⟩,e.2⟩))
  ·rw[AM G G]
   exact A6 d.1.1 d.1.2.1 (j _ d.2 (by rw[h];exact e.2))
  ·rw[AN h]
   exact A6 e.1.1 e.1.2.1 (i _ (pT.2 ⟨⟨G,d.1.2⟩,d.2⟩) e.2)
theorem X9 {n:Int} {f g:bj} {c:Rat} (a:jk f n=true) (b:jk g n=true):jk (pJ f g c) n=true:=Yc c _ _ _ a b
theorem ND {n:Int}:∀{lo:Int} {l:List cX},lr n lo l=true→0≤n-lo→(l.length:Int)≤n-lo
 |_,[],_,h=>by simpa using h
 |lo,t::l,h,_=>by
  rw[pT] at h
  have:=ND h.2 G
  rw[cw]
  omega
theorem A5 {n:Int}:∀{lo:Int} {l:List cX},lr n lo l=true→∀t∈l,lo≤t.va∧t.va<n∧t.co≠0
 |_,[],_,_,h=>by simp at h
 |lo,u::l,h,t,a=>by
  rw[pT] at h
  rcases lF.1 a with rfl|a
  ·exact h.1
  ·have:=A5 h.2 t a
   exact⟨G,this.2⟩
def fM:List cX→Nat
 |[]=>0
 |t::l=>bt t.co+fM l
def fR (f:bj):Nat:=bt f.ct+fM f.ts
theorem vS:∀a b:List cX,fM (a++b)=fM a+fM b
 |[],b=>by simp[fM]
 |t::a,b=>by simp only[nU,fM,vS a b];omega
theorem z7 (v:Int) (c:Rat):fM (gd v c)≤bt c:=by
 unfold gd
 split
 ·simp[fM]
 ·simp[fM]
theorem z6:∀{l:List cX} {t:cX},t∈l→bt t.co≤fM l
 |u::l,t,h=>by
  rcases lF.1 h with rfl|h
  ·simp only[fM];omega
  ·have:=z6 h;simp only[fM];omega
theorem Tl (c:Rat):∀a b:List cX,fM (fX c a b)≤fM a+fM b+b.length*bt c:=by
 refine tR ?_ ?_ ?_ ?_
 ·show fM []≤_;simp[fM]
 ·intro t a h
  rw[C2,vS]
  have:=z7 t.va t.co
  simp only[fM,c8,EZ] at h⊢;omega
 ·intro u b h
  rw[C3,vS]
  have:=z7 u.va (u.co*c)
  have:=qK u.co c
  simp only[fM,cw,fk,nC] at h⊢;omega
 ·intro t a u b d e f
  rcases Ep t.va u.va with h|h|h
  ·rw[AO h,vS]
   have:=z7 t.va t.co
   simp only[fM,cw,fk,nC] at d⊢;omega
  ·rw[AM G G,vS]
   have:=z7 t.va (t.co+u.co*c)
   have:=qK u.co c
   have:=vT t.co (u.co*c)
   simp only[fM,cw,fk,nC] at f⊢;omega
  ·rw[AN h,vS]
   have:=z7 u.va (u.co*c)
   have:=qK u.co c
   simp only[fM,cw,fk,nC] at e⊢;omega
theorem Tj (f g:bj) (c:Rat):fR (pJ f g c)≤fR f+fR g+(g.ts.length+1)*bt c:=by
 have a:=Tl c f.ts g.ts
 have b:=qK g.ct c
 have d:=vT f.ct (g.ct*c)
 unfold fR pJ
 rw[fk,nC]
 simp only
 omega
theorem sP (v:Int) (c:Rat):(gd v c).length≤1:=by unfold gd;split<;>simp
theorem Xx (c:Rat):∀a b:List cX,(fX c a b).length≤a.length+b.length:=by
 refine tR ?_ ?_ ?_ ?_
 ·show[].length≤_;simp
 ·intro t a h
  rw[C2,cr]
  have:=sP t.va t.co
  simp only[cw,c8] at h⊢;omega
 ·intro u b h
  rw[C3,cr]
  have:=sP u.va (u.co*c)
  simp only[cw,c8] at h⊢;omega
 ·intro t a u b d e f
  rcases Ep t.va u.va with h|h|h
  ·rw[AO h,cr]
   have:=sP t.va t.co
   simp only[cw] at d⊢;omega
  ·rw[AM G G,cr]
   have:=sP t.va (t.co+u.co*c)
   simp only[cw] at f⊢;omega
  ·rw[AN h,cr]
   have:=sP u.va (u.co*c)
   simp only[cw] at e⊢;omega
section
variable {P:Program} {Q:eV} {N:Nat} {D:List Deferred} {l:Fr} {w:World}
theorem Tx {c:Code} {α β γ δ ε ζ:Type} (fr:α→β→γ→δ→ε→ζ→Fr) (H:α→β→γ→δ→ε→ζ→World→Prop) (i:α→β→γ→δ→ε→ζ→Nat) (x0:α) (k:β) (z0:γ) (j:δ) (v0:ε) (s0:ζ) (hs:Sub (fr x0 k z0 j v0 s0) l) (o:H x0 k z0 j v0 s0 w)
 (round:∀x y z u v s w',H x y z u v s w'→dS P (Exit.then (λa n=>∃d f g u' v' b,At N D (fr d f g u' v' b) a∧H d f g u' v' b n∧i d f g u' v' b<i x y z u v s) Q) N D (fr x y z u v s) w' c):dS P Q N D l w (.loop c):=
 eg (α:=α×β×γ×δ×ε×ζ) (λp=>fr p.1 p.2.1 p.2.2.1 p.2.2.2.1 p.2.2.2.2.1 p.2.2.2.2.2) (λp=>H p.1 p.2.1 p.2.2.1 p.2.2.2.1 p.2.2.2.2.1 p.2.2.2.2.2) (λp=>i p.1 p.2.1 p.2.2.1 p.2.2.2.1 p.2.2.2.2.1 p.2.2.2.2.2) (x0,k,z0,j,v0,s0) hs o λp w' h a A=>
  wp_mono (round p.1 p.2.1 p.2.2.1 p.2.2.2.1 p.2.2.2.2.1 p.2.2.2.2.2 w' h a A) λe C n m=>by
   cases e with
   |normal=>
    obtain⟨d,f,g,u',v',b,q,r,t⟩:=m
    exact⟨(d,f,g,u',v',b),q,r,t⟩
   |_=>exact m
theorem AP {α β γ δ ε ζ:Type} {fr:α→β→γ→δ→ε→ζ→Fr} {H:α→β→γ→δ→ε→ζ→World→Prop} {f:α→β→γ→δ→ε→ζ→Nat} {m:Nat} (x:α) (y:β) (z:γ) (u:δ) (v:ε) (s:ζ) (hs:Sub (fr x y z u v s) l) (g:H x y z u v s w) (hm:f x y z u v s<m):ie (Exit.then (λa i=>∃c d e u' v' b,At N D (fr c d e u' v' b) a∧H c d e u' v' b i∧f c d e u' v' b<m) Q) N D l w:=
 λ_ h=>⟨x,y,z,u,v,s,h.bd hs,g,hm⟩
theorem Kr {c:Code} {α β γ δ ε ζ η θ:Type} (fr:α→β→γ→δ→ε→ζ→η→θ→Fr) (H:α→β→γ→δ→ε→ζ→η→θ→World→Prop) (k:α→β→γ→δ→ε→ζ→η→θ→Nat) (x0:α) (o:β) (z0:γ) (n:δ) (v0:ε) (s0:ζ) (t0:η) (m:θ) (hs:Sub (fr x0 o z0 n v0 s0 t0 m) l) (C:H x0 o z0 n v0 s0 t0 m w)
 (round:∀x y z u v s t r w',H x y z u v s t r w'→dS P (Exit.then (λa A=>∃g i j u' v' d f b,At N D (fr g i j u' v' d f b) a∧H g i j u' v' d f b A∧k g i j u' v' d f b<k x y z u v s t r) Q) N D (fr x y z u v s t r) w' c):dS P Q N D l w (.loop c):=
 eg (α:=α×β×γ×δ×ε×ζ×η×θ) (λp=>fr p.1 p.2.1 p.2.2.1 p.2.2.2.1 p.2.2.2.2.1 p.2.2.2.2.2.1 p.2.2.2.2.2.2.1 p.2.2.2.2.2.2.2) (λp=>H p.1 p.2.1 p.2.2.1 p.2.2.2.1 p.2.2.2.2.1 p.2.2.2.2.2.1 p.2.2.2.2.2.2.1 p.2.2.2.2.2.2.2) (λp=>k p.1 p.2.1 p.2.2.1 p.2.2.2.1 p.2.2.2.2.1 p.2.2.2.2.2.1 p.2.2.2.2.2.2.1 p.2.2.2.2.2.2.2) (x0,o,z0,n,v0,s0,t0,m) hs C λp w' h a K=>
  wp_mono (round p.1 p.2.1 p.2.2.1 p.2.2.2.1 p.2.2.2.2.1 p.2.2.2.2.2.1 p.2.2.2.2.2.2.1 p.2.2.2.2.2.2.2 w' h a K) λe L A q=>by
   cases e with
   |normal=>
    obtain⟨g,i,j,u',v',d,f,b,F,G,J⟩:=q
    exact⟨(g,i,j,u',v',d,f,b),F,G,J⟩
   |_=>exact q
theorem Nq {α β γ δ ε ζ η θ:Type} {fr:α→β→γ→δ→ε→ζ→η→θ→Fr} {H:α→β→γ→δ→ε→ζ→η→θ→World→Prop} {h:α→β→γ→δ→ε→ζ→η→θ→Nat} {m:Nat} (x:α) (y:β) (z:γ) (u:δ) (v:ε) (s:ζ) (t:η) (r:θ) (hs:Sub (fr x y z u v s t r) l) (i:H x y z u v s t r w) (hm:h x y z u v s t r<m):ie (Exit.then (λa k=>∃e f g u' v' c d b,At N D (fr e f g u' v' c d b) a∧H e f g u' v' c d b k∧h e f g u' v' c d b<m) Q) N D l w:=
 λ_ j=>⟨x,y,z,u,v,s,t,r,j.bd hs,i,hm⟩
end
theorem Ad:aY Tryz.prog 277:=⟨_,Tryz.func277,am,rfl⟩
theorem FM:aY Tryz.prog 202:=⟨_,Tryz.func202,am,rfl⟩
theorem Ac:aY Tryz.prog 114:=⟨_,Tryz.func114,am,rfl⟩
theorem Uk:aY Tryz.prog 200:=⟨_,Tryz.func200,am,rfl⟩
theorem FN:aY Tryz.prog 139:=⟨_,Tryz.func139,am,rfl⟩
theorem KF:aY Tryz.prog 117:=⟨_,Tryz.func117,am,rfl⟩
theorem HQ {x:Rat}:j8 x≠0↔x≠0:=by
 rcases HP x with⟨a,b⟩|⟨a,b⟩|⟨a,b⟩<;>rw[a]<;>constructor<;>intro h<;>first|omega|grind
theorem XK {v:Int} {c:Rat} (h:c≠0):gd v c=[⟨v,c⟩]:=if_neg h
theorem XJ {v:Int} {c:Rat} (h:c=0):gd v c=[]:=if_pos h
theorem zJ {ts:List cX} {q c:Rat} {n:Int} {x:Value} (J:ao w0 w) (a:um w0.heap.size ts x w) (P:aO q.nl y w) (Q:aO q.dl z w) (hc:QV c u w) (hb:bt c≤34359738368) (hl:ts.length≤549755813888):
 Calls Tryz.prog 277 #[.agg #[x,B q.sg,y,z],I n,u] w (aJ λr w'=>∃Z,r=.agg #[Z,B q.sg,y,z]∧um w0.heap.size (ts++gd n c) Z w'∧d9 w w' x Z):=by
 obtain⟨u1,u2,rfl,ad,ae⟩:=hc
 refine enter (vs:=[.agg #[x,B q.sg,y,z],I n,.agg #[B c.sg,u1,u2]]) Tryz.func277 H H H (T (cE H H λg3 w3 l3 k A=>cE H H λg5 w5 l5 b k5=>cM iX H λg6 w6 s f C=>(O (ah (T (Y H ((k5.aL f).ld bI H bW) (aC vY H H (zi (bQ.mk (ad.aL ((k.ai b).ai f)) (ae.aL ((k.ai b).ai f))) G) ?_)))))))
 rintro v8 w8 ⟨d,rfl⟩
 refine U H (dZ) (O (bc H (λM=>?_) (λM=>?_)))
 ·have N:c≠0:=HQ.1 M
  refine cz 7 [3,6,11,16] am am (bH H (λw j=>mp) (aQ H (λw j=>D eo H (j.a0 (((b.ai f).ai d).a0 (A.cell (i:=0) H)))) ?_))
  have K:=((k.ai b).ai f).ai d
  refine W H (aQ H (λw j=>((k5.aL (f.ai d)).aL j).ld bI H bW) (fP (S:=QV c) vX (QV.a3 _) H H (λw j=>Ef ((bQ.mk (ad.aL K) (ae.aL K)).aL j) G) (Aw (S:=λv w=>∃aa ab:Value,v=.agg #[I n,B c.sg,aa,ab]∧aO c.nl aa w∧aO c.dl ab w) (λ_ _ _ ⟨_,_,e,g0,g1⟩ a=>⟨_,_,e,g0.aL a,g1.aL a⟩) H (λw j=>by rintro _ rfl aI ap;obtain⟨aa,ab,rfl,ai,aj⟩:=ap;obtain⟨_,_,_,rfl⟩:=ai.a9;obtain⟨_,_,_,rfl⟩:=aj.a9;exact⟨_,w,run_build _ _ _ _ am,ao.refl _,_,_,H,ai,aj⟩) (wr (S:=aD iD [((⟨n,c⟩:cX))]) (aD.a3 _ _) H (λw j=>by rintro _ ⟨aR,aT,rfl,av,aw⟩;exact M8 (Lz av aw)) (cq ?_)))))
  rintro aP F _ rfl _ rfl _ aq
  obtain rfl:=bU aq
  intro aL an
  have l:=K.ai F
  have e4:=(((((J.ai k).ai b).ai f).ai d).ai F)
  obtain⟨aK,aM,ar,m,g17⟩:=Yl (ty:=45) (a.aL l) an fZ e4.size
  refine dW H ar ?_
  have aB:=ao.a6 e4 g17 ((a.aL l)).ge
  have m17:=((a.aL l)).b3 g17 aF
  have af:=((((A.aL b).aL f).aL d).aL F)
  have t:=(af.a4 g17.grown (cQ af (a.aL l)))
  refine az H (mp) (jQ H H t ZO m.one H λaN o au=>?_)
  have aE:=ao.a2 (aB) o (cf (J).size l3)
  have ak:=Kq.br (p:=[3,0,3,3]) t (aS a.kd (aS rfl (aS P.kd (aS Q.kd dj)))) o
  refine bB (Y H (au.ld dx H cL) ?_)
  have ag:=((C.aL d).aL F)
  have R:=((ag.a4 g17.grown (cQ ag (a.aL l))).a4 o λe=>by have h1:=A.lt;have h2:=s;have h3:=(b).size;have h4:=cC e;omega)
  refine cl H H R H cL (ay.a1 m.one (ay.a1 H (ay.a1 P.one (ay.a1 Q.one ay.nil)))) λax g V=>?_
  have aG:=ao.a2 (aE) g (cf (((J.ai k).ai b)).size s)
  have X:=Kq.br (p:=[3,0,3,3]) R (aS rfl (aS rfl (aS rfl (aS rfl dj)))) g
  refine O (aA (ff H (.cell H (V.ld dx H cL) .nil) ?_))
  exact⟨_,H,_,H,by rw[XK N];exact(bC.st pS (bC.st pS m ak o (cQ t m).symm aF) X g (cQ R (bC.st pS m ak o (cQ t m).symm aF)).symm aF),((d9.before l g17).st o l3).st g (cf (k.ai b).size s)⟩
 ·have N:c=0:=oJ λh=>M (HQ.2 h)
  refine aH (al (T (Y H ((A.aL ((b.ai f).ai d)).ld dx H cL) (cl H H (C.aL d) H cL (ay.a1 a.one (ay.a1 H (ay.a1 P.one (ay.a1 Q.one ay.nil)))) λax g V=>?_))))
  have aG:=ao.a2 ((f.ai d)) g s
  have X:=Kq.br (p:=[3,0,3,3]) (C.aL d) (aS rfl (aS rfl (aS rfl (aS rfl dj)))) g
  refine O (aA (ff H (.cell H (V.ld dx H cL) .nil) ?_))
  have L:=((k.ai b).ai f).ai d
  exact⟨_,H,_,H,by rw[XJ N,jU];exact(bC.st pS (a.aL L) X g (cQ (C.aL d) (a.aL L)).symm aF),d9.one L g (cf (k.ai b).size s)⟩
theorem C4 {c:Rat} {a b:List cX} (d:0<a.length) (h:b.length=0∨∃e:0<b.length,a[0].va<b[0].va):fX c a b=gd a[0].va a[0].co++fX c (a.drop 1) b:=by
 match a,b,d,h with
 |t::a,[],_,_=>rfl
 |t::a,u::b,_,h=>
  obtain h|⟨_,h⟩:=h
  ·simp at h
  ·exact AO h
theorem C5 {c:Rat} {a b:List cX} (d:0<b.length) (h:a.length=0∨∃e:0<a.length,b[0].va<a[0].va):fX c a b=gd b[0].va (b[0].co*c)++fX c a (b.drop 1):=by
 match a,b,d,h with
 |[],u::b,_,_=>rfl
 |t::a,u::b,_,h=>
  obtain h|⟨_,h⟩:=h
  ·simp at h
  ·exact AN h
theorem XB {c:Rat} {a b:List cX} (f:0<a.length) (g:0<b.length) (d:¬a[0].va<b[0].va) (e:¬b[0].va<a[0].va):fX c a b=gd a[0].va (a[0].co+b[0].co*c)++fX c (a.drop 1) (b.drop 1):=by
 match a,b,f,g with
 |t::a,u::b,_,_=>exact AM d e
theorem yd {a:List cX} (b:0<a.length):fM a=bt a[0].co+fM (a.drop 1):=by
 match a,b with
 |t::a,_=>rfl
theorem Xu (a b:List cX):b.length=0∨(0<b.length∧a.length=0)∨(∃(d:0<a.length) (c:0<b.length),a[0].va<b[0].va)∨∃(d:0<a.length) (c:0<b.length),¬a[0].va<b[0].va:=by
 by_cases c:0<b.length
 ·by_cases d:0<a.length
  ·by_cases h:a[0].va<b[0].va
   ·exact .inr (.inr (.inl ⟨d,c,h⟩))
   ·exact .inr (.inr (.inr ⟨d,c,h⟩))
  ·exact .inr (.inl ⟨c,G⟩)
 ·exact .inl G
def qm (b:Nat) (f:bj):cT:=λv w=>∃a x y:Value,v=.agg #[a,B f.ct.sg,x,y]∧aD iD f.ts a w∧aO f.ct.nl x w∧aO f.ct.dl y w∧∀k,a.ownBlock=some k→b≤k
theorem qm.st {b:Nat} {f:bj} (h:qm b f v w):bR cy f v w:=by
 obtain⟨a,x,y,rfl,c,d,e,_⟩:=h
 exact bR.mk (eX c d e)
theorem qm.low {b b':Nat} {f:bj} (h:qm b f v w) (i:b'≤b):qm b' f v w:=by
 obtain⟨a,x,y,rfl,c,d,e,g⟩:=h
 exact⟨a,x,y,H,c,d,e,λk j=>cf i (g k j)⟩
theorem qm.a3 (b:Nat) (f:bj):cN (qm b f):=λ_ _ _ ⟨a,x,y,e,d,g,h,i⟩ c=>⟨a,x,y,e,d.aL c,g.aL c,h.aL c,i⟩
theorem Jb {f g:bj} {c:Rat} {t:Value} (hv:bR cy f v w) (hu:bR cy g u w) (hc:QV c t w) (hB:fR f+fR g+bt c≤17179869184) (hl:f.ts.length+g.ts.length≤549755813887):
 Calls Tryz.prog 202 #[v,u,t] w (aJ λr w'=>ao w w'∧qm w.heap.size (pJ f g c) r w'):=by
 obtain⟨_,rfl,r1⟩:=hv
 obtain⟨fa,fb,fc,rfl,ia,ib,ic⟩:=ey r1
 obtain⟨_,rfl,r2⟩:=hu
 obtain⟨ga,gb,gc,rfl,ja,jb,jc⟩:=ey r2
 obtain⟨ca,cb,rfl,la,a2⟩:=hc
 unfold fR at hB
 obtain⟨C,hC⟩:∃C,C=f.ct+g.ct*c:=⟨_,rfl⟩
 refine enter (vs:=[.agg #[fa,B f.ct.sg,fb,fc],.agg #[ga,B g.ct.sg,gb,gc],.agg #[B c.sg,ca,cb]]) Tryz.func202 H H H (T (cE H H λg3 w3 l3 x3 k3=>cE H H λg4 w4 l4 x4 k4=>cE H H λg5 w5 l5 x5 k5=>cM iX H λg6 w6 l6 R k6=>(O (ah (cz 9 [3,4,5,6,7,17] am am (bH H (λw d=>oX) (aQ H (λw d=>((k3.aL ((x4.ai x5).ai R)).aL d).b7 (ms:=[B f.ct.sg,fb,fc]) (o:=1) (jj H) bI H bW) ?_)))))))
 have a1:=x5.ai R
 refine bH H (λw d=>oX) (aQ H (λw d=>((k4.aL a1).aL d).b7 (ms:=[B g.ct.sg,gb,gc]) (o:=1) (jj H) bI H bW) (aQ H (λw d=>((k5.aL R).aL d).ld bI H bW) ?_))
 have eQ:=qK g.ct c
 have e5:=((x3.ai x4).ai x5).ai R
 refine my (S:=QV (g.ct*c)) yf (QV.a3 _) H H H (λw d=>xE ((bQ.mk (jb.aL e5) (jc.aL e5)).aL d) ((bQ.mk (la.aL e5) (a2.aL e5)).aL d) G) ?_
 have eR:=vT f.ct (g.ct*c)
 refine eh (S:=QV (f.ct+(g.ct*c))) Cl (QV.a3 _) H (λw d=>by rintro _ rfl eA dE;exact Bu ((bQ.mk (ib.aL e5) (ic.aL e5)).aL d) dE G) (Aw (S:=λv w=>∃cw cx:Value,v=.agg #[.slice none 0 0,B (f.ct+(g.ct*c)).sg,cw,cx]∧aO (f.ct+(g.ct*c)).nl cw w∧aO (f.ct+(g.ct*c)).dl cx w) (λ_ _ _ ⟨_,_,e,g0,g1⟩ hx=>⟨_,_,e,g0.aL hx,g1.aL hx⟩) H (λw d=>by rintro eB dF;obtain⟨cw,cx,rfl,cS,cT⟩:=dF;obtain⟨_,_,_,rfl⟩:=cS.a9;obtain⟨_,_,_,rfl⟩:=cT.a9;exact⟨_,w,run_build _ _ _ _ am,ao.refl _,_,_,H,cS,cT⟩) (f_al (b:=w6.heap.size) (zj.a3 _ _ _) iX H (λw d=>d.size) (cq ?_)))
 rintro eH eq _ rfl _ rfl _ rfl _ rfl _ ⟨g7,rfl,l7,k7⟩ _ ⟨c2,c3,rfl,cP,cR⟩
 refine cl H H k7 H cL (ay.a1 H (ay.a1 H (ay.a1 cP.one (ay.a1 cR.one ay.nil)))) λeE cZ dP=>?_
 have co:=ao.a2 (eq) cZ l7
 have cU:=Kq.br (p:=[3,0,3,3]) k7 (aS rfl (aS rfl (aS rfl (aS rfl dj)))) cZ
 refine O (ah (cz 5 [5,6,7,8,21] am am (bH H (λw d=>mp) (aQ H (λw d=>D eo H (d.a0 ((((x4.ai x5).ai R).ai co).a0 (k3.cell (i:=0) H)))) (bH H (λw d=>mp) (aQ H (λw d=>D eo H (d.a0 ((a1.ai co).a0 (k4.cell (i:=0) H)))) (gK H (cq ?_))))))))
 rintro eI a5 _ rfl _ rfl _ rfl _ q
 obtain rfl:=bU q
 rintro _ dM
 obtain rfl:=bU dM
 refine Z H (O (ah (aR (Tx (λ(ts:List cX) (x:Value) (a:List cX) (va:Value) (b:List cX) (vb:Value)=>[(5,.pointer (some ⟨g5,0,none⟩)),(6,.pointer (some ⟨g6,0,none⟩)),(7,.pointer (some ⟨g7,0,none⟩)),(8,va),(9,vb)]) (λ(ts:List cX) (x:Value) (a:List cX) (va:Value) (b:List cX) (vb:Value) w'=>ao w6 w'∧bm g7 51 [x,B C.sg,c2,c3] w'∧um w6.heap.size ts x w'∧aO C.nl c2 w'∧aO C.dl c3 w'∧aD iD a va w6∧aD iD b vb w6∧ts++fX c a b=fX c f.ts g.ts∧fM a≤fM f.ts∧fM b≤fM g.ts∧ts.length+a.length+b.length≤f.ts.length+g.ts.length) (λ(ts:List cX) (x:Value) (a:List cX) (va:Value) (b:List cX) (vb:Value)=>a.length+b.length) ([]) (.slice none 0 0) (f.ts) (fa) (g.ts) (ga) (aP H) ⟨(co.ai a5),by rw[hC];exact dP.aL a5,bC.nil _,by rw[hC];exact((cP.kq cU).aL a5),by rw[hC];exact((cR.kq cU).aL a5),ia.aL (x3.ai (x4.ai a1)),ja.aL (x3.ai (x4.ai a1)),H,bV _,bV _,aj⟩ ?_))))
 rintro ts x a va b vb wL ⟨h,kL,m,z,A,N,Q,hm,ba,bb,ex⟩
 refine ah (iS (λ_:Unit=>[(5,.pointer (some ⟨g5,0,none⟩)),(6,.pointer (some ⟨g6,0,none⟩)),(7,.pointer (some ⟨g7,0,none⟩)),(8,va),(9,vb)]) (λ_ w'=>wL=w'∧0<a.length+b.length) ?_ ?_)
 ·refine T (J H (aW H (bP eo (N.aL h)) (U H (cY) (J H ?_))))
  refine cK (λdG=>?_) (λdG=>?_)
  ·refine L H (L H (L H (bA H (O (bT H (aH ?_))))))
   exact eu () (aP H) ⟨H,G⟩
  ·refine V H (J H (V H (aW H (bP eo (Q.aL h)) (V H (U H (cY) (aK H ?_))))))
   refine O (bc H (λdH=>?_) (λdH=>?_))
   ·refine aH ?_
    exact eu () (aP H) ⟨H,G⟩
   ·refine ce (aU (aU (aU (cg (al (T (Y H (kL.ld dx H cL) ?_)))))))
    refine cl H H (k6.aL h) H cL (ay.a1 m.one (ay.a1 H (ay.a1 z.one (ay.a1 A.one ay.nil)))) λeD a4 dO=>?_
    have d7:=ao.a2 ((R.ai h)) a4 l6
    have a3:=Kq.br (p:=[3,0,3,3]) (k6.aL h) (aS rfl (aS rfl (aS rfl (aS rfl dj)))) a4
    refine O (aA (ff H (.cell H (dO.ld dx H cL) .nil) ?_))
    have hE:pJ f g c=⟨ts,C⟩:=by
     have ea:a=[]:=gT G
     have eb:b=[]:=gT G
     rw[ea,eb] at hm
     have e1:fX c f.ts g.ts=ts:=by rw[←hm];exact jU ts
     unfold pJ
     rw[e1,←hC]
    exact⟨_,H,(((x3.ai x4).ai x5).ai d7),by rw[hE];exact⟨_,_,_,H,um.bY (bC.st pS m a3 a4 (cQ (k6.aL h) m).symm aF),(z.kq a3),(A.kq a3),λk hk=>cf ((((x3.ai x4).ai x5).ai R)).size (((bC.st pS m a3 a4 (cQ (k6.aL h) m).symm aF)).ge k hk)⟩⟩
 rintro _ _ ⟨rfl,ez⟩
 refine al (aR (aR (ah ?_)))
 rcases Xu a b with hA|⟨ak,hA⟩|⟨az,ak,hA⟩|⟨az,ak,hA⟩
 ·refine cz 19 [5,6,7,8,9,70] am am ?_
  refine W H (mE (vs:=[vb]) H (λw d=>bP eo ((Q.aL h).aL d)) (bn H (λw _=>cu G aV) (W H (M H (M H (M H (M H (dc H (dc H (dc H (dc H (dc H (dc H (dc H (dc H (dc H (M H (jN H (cq ?_)))))))))))))))))))
  rintro ci l _ rfl _ rfl _ rfl _ q
  obtain rfl:=bU q
  rintro _ y
  obtain rfl:=bU y
  rintro _ rfl
  refine Z H (O (bT H (ah (cz 9 [5,6,7,8,9,71,75,79] am am (aQ H (λw d=>((kL.aL l).aL d).ld dx H cL) (W H ?_))))))
  obtain⟨c7,dg,K,aG,aN,aY,bs⟩:=nG (N.aL (h.ai l)) (i:=0)
  obtain⟨cp,cs,rfl,bk,bl⟩:=jh bs
  refine cF H (λw _=>aN w) ?_
  have ae:=yd (a:=a) G
  rw[←aG] at ae
  refine bH H (λw d=>mr) (aQ H (λw d=>D aE H (d.a0 (aY.at (j:=0) H))) (W H (cF H (λw _=>aN w) (bH H (λw d=>wo) (aQ H (λw d=>(aY.aL d).b7 (ms:=[B K.co.sg,cp,cs]) (o:=1) (jj H) bI H bW) (cq ?_))))))
  rintro d4 ab _ rfl _ rfl _ rfl _ q
  obtain rfl:=bU q
  rintro _ y
  obtain rfl:=bU y
  rintro _ rfl _ rfl _ rfl
  have e6:=l.ai ab
  have cB:=((h.ai l).ai ab)
  refine aC Ad H H ((zJ (w0:=w6) (n:=K.va) (c:=K.co) cB (m.aL e6) (z.aL e6) (A.aL e6) (bQ.mk (bk.aL ab) (bl.aL ab)) G G)) ?_
  rintro dY d2 ⟨cc,rfl,au,ai⟩
  have cv:=ao.a6 cB ai ((m.aL e6)).ge
  have aL:=((m.aL e6)).b3 ai aF
  have cH:=((kL.aL l).aL ab)
  have bG:=(cH.a4 ai.grown (cQ cH (m.aL e6)))
  refine cl H H bG H cL (ay.a1 au.one (ay.a1 H (ay.a1 z.one (ay.a1 A.one ay.nil)))) λd1 aw bN=>?_
  have ct:=ao.a2 (cv) aw l7
  have aq:=Kq.br (p:=[3,0,3,3]) bG (aS m.kd (aS rfl (aS z.kd (aS A.kd dj)))) aw
  refine O (ap (J H ?_))
  obtain⟨ch,b1,a8⟩:=uS (P:=Tryz.prog) (sz:=4) Tryz.underlying45 am nc G N (lo:=1) (by first|omega|(simp;omega))
  refine jx H H H H H (b1 _) (Z H (ax (bE (bE ?_))))
  have hs:fX c a b=gd K.va K.co++fX c (a.drop 1) b:=by
   rw[aG]
   first
   |exact C4 G (.inl hA)
   |exact C4 az (.inr ⟨ak,hA⟩)
  have hn:=sP K.va K.co
  refine AP (ts++gd K.va K.co) (cc) (a.drop 1) (ch) (b) (vb) (aP H) ⟨ct,bN,(bC.st pS au aq aw (cQ bG au).symm aF),(((z.aL e6).kq aL).kq aq),(((A.aL e6).kq aL).kq aq),a8,Q,by rw[fh,←hs];exact hm,G,bb,by simp only[cr,gA];omega⟩ (by simp only[gA];omega)
 ·refine cz 19 [5,6,7,8,9,70] am am ?_
  refine W H (mE (vs:=[vb]) H (λw d=>bP eo ((Q.aL h).aL d)) (bn H (λw _=>aX G aV) (W H (X H (W H (X H (mE (vs:=[va]) H (λw d=>bP eo ((N.aL h).aL d)) (X H (bn H (λw _=>aX G cY) (X H (W H (M H (M H (M H (M H (M H (M H (M H (M H (M H (X H (gV H (gV H (cq ?_))))))))))))))))))))))))
  rintro ci l _ rfl _ rfl _ rfl _ q
  obtain rfl:=bU q
  rintro _ y
  obtain rfl:=bU y
  rintro _ rfl
  refine Z H (O (be H (ah (cz 14 [5,6,7,8,9,97] am am (W H (mE (vs:=[va]) H (λw d=>bP eo ((N.aL (h.ai l)).aL d)) (bn H (λw _=>cu G aV) (W H (M H (M H (M H (M H (M H (M H (M H (M H (M H (jN H (cq ?_)))))))))))))))))))
  rintro c1 F _ rfl _ rfl _ rfl _ q
  obtain rfl:=bU q
  rintro _ y
  obtain rfl:=bU y
  rintro _ rfl
  refine Z H (O (bT H (ah (cz 11 [5,6,7,8,9,98,102,108] am am (aQ H (λw d=>((kL.aL (l.ai F)).aL d).ld dx H cL) (W H ?_))))))
  have a9:=(h.ai l).ai F
  obtain⟨c4,dd,s,aB,aM,aT,bp⟩:=nG (Q.aL a9) (i:=0)
  obtain⟨cj,ck,rfl,bf,bg⟩:=jh bp
  refine cF H (λw _=>aM w) ?_
  have ae:=yd (a:=b) G
  rw[←aB] at ae
  refine bH H (λw d=>mr) (aQ H (λw d=>D aE H (d.a0 (aT.at (j:=0) H))) (W H (cF H (λw _=>aM w) (bH H (λw d=>wo) (aQ H (λw d=>(aT.aL d).b7 (ms:=[B s.co.sg,cj,ck]) (o:=1) (jj H) bI H bW) (aQ H (λw d=>((k5.aL (((R.ai h).ai l).ai F)).aL d).ld bI H bW) ?_))))))
  have eO:=qK s.co c
  have e8:=(((((x3.ai x4).ai x5).ai R).ai h).ai l).ai F
  refine my (S:=QV (s.co*c)) yf (QV.a3 _) H H H (λw d=>xE ((bQ.mk bf bg).aL d) ((bQ.mk (la.aL e8) (a2.aL e8)).aL d) G) (cq ?_)
  rintro d3 af _ rfl _ rfl _ rfl _ q
  obtain rfl:=bU q
  rintro _ y
  obtain rfl:=bU y
  rintro _ rfl _ rfl _ ⟨d5,d6,rfl,bh,bi⟩
  have e2:=(l.ai F).ai af
  refine aC Ad H H ((zJ (w0:=w6) (n:=s.va) (c:=s.co*c) ((a9.ai af)) (m.aL e2) (z.aL e2) (A.aL e2) (bQ.mk bh bi) G G)) ?_
  rintro v109 dZ ⟨b9,rfl,ar,ag⟩
  have cm:=ao.a6 ((a9.ai af)) ag ((m.aL e2)).ge
  have aI:=((m.aL e2)).b3 ag aF
  have cI:=(((kL.aL l).aL F).aL af)
  have bJ:=(cI.a4 ag.grown (cQ cI (m.aL e2)))
  refine cl H H bJ H cL (ay.a1 ar.one (ay.a1 H (ay.a1 z.one (ay.a1 A.one ay.nil)))) λd0 av bM=>?_
  have cn:=ao.a2 (cm) av l7
  have an:=Kq.br (p:=[3,0,3,3]) bJ (aS m.kd (aS rfl (aS z.kd (aS A.kd dj)))) av
  refine O (ap (J H ?_))
  obtain⟨cd,bY,a7⟩:=uS (P:=Tryz.prog) (sz:=4) Tryz.underlying45 am nc G Q (lo:=1) (by first|omega|(simp;omega))
  refine jx H H H H H (bY _) (Z H (ax (bE (bE ?_))))
  have hs:fX c a b=gd s.va (s.co*c)++fX c a (b.drop 1):=by
   rw[aB]
   first
   |exact C5 G (.inl hA)
   |exact C5 ak (.inr ⟨az,hG⟩)
  have hn:=sP s.va (s.co*c)
  refine AP (ts++gd s.va (s.co*c)) (b9) (a) (va) (b.drop 1) (cd) (aP H) ⟨cn,bM,(bC.st pS ar an av (cQ bJ ar).symm aF),(((z.aL e2).kq aI).kq an),(((A.aL e2).kq aI).kq an),N,a7,by rw[fh,←hs];exact hm,ba,G,by simp only[cr,gA];omega⟩ (by simp only[gA];omega)
 ·refine cz 19 [5,6,7,8,9,70] am am ?_
  refine W H (mE (vs:=[vb]) H (λw d=>bP eo ((Q.aL h).aL d)) (bn H (λw _=>aX G aV) (W H (X H (W H (X H (mE (vs:=[va]) H (λw d=>bP eo ((N.aL h).aL d)) (X H (bn H (λw _=>cu G cY) (X H (W H (X H (W H (X H ?_))))))))))))))
  obtain⟨c5,de,dk,bx,bZ,b5,bq⟩:=nG (N.aL h) (i:=0)
  obtain⟨eg,ei,rfl,dv,dw⟩:=jh bq
  refine cF H (λw _=>bZ w) (X H (bH H (λw d=>mr) (X H (aQ H (λw d=>D aE H (d.a0 (b5.at (j:=0) H))) (X H (W H (X H ?_)))))))
  obtain⟨c6,df,dl,bz,b0,b6,br⟩:=nG (Q.aL h) (i:=0)
  obtain⟨ej,ek,rfl,dy,dz⟩:=jh br
  refine cF H (λw _=>b0 w) (X H (bH H (λw d=>mr) (X H (aQ H (λw d=>D aE H (d.a0 (b6.at (j:=0) H))) (X H (bn H (λw _=>cu (by rw[bx,bz];exact hA) bO) (X H (jN H (gV H (cq ?_))))))))))
  rintro ci l _ rfl _ rfl _ rfl _ q
  obtain rfl:=bU q
  rintro _ y
  obtain rfl:=bU y
  rintro _ rfl
  refine Z H (O (bT H (ah (cz 9 [5,6,7,8,9,71,75,79] am am (aQ H (λw d=>((kL.aL l).aL d).ld dx H cL) (W H ?_))))))
  obtain⟨c7,dg,K,aG,aN,aY,bs⟩:=nG (N.aL (h.ai l)) (i:=0)
  obtain⟨cp,cs,rfl,bk,bl⟩:=jh bs
  refine cF H (λw _=>aN w) ?_
  have ae:=yd (a:=a) G
  rw[←aG] at ae
  refine bH H (λw d=>mr) (aQ H (λw d=>D aE H (d.a0 (aY.at (j:=0) H))) (W H (cF H (λw _=>aN w) (bH H (λw d=>wo) (aQ H (λw d=>(aY.aL d).b7 (ms:=[B K.co.sg,cp,cs]) (o:=1) (jj H) bI H bW) (cq ?_))))))
  rintro d4 ab _ rfl _ rfl _ rfl _ q
  obtain rfl:=bU q
  rintro _ y
  obtain rfl:=bU y
  rintro _ rfl _ rfl _ rfl
  have e7:=l.ai ab
  have cC:=((h.ai l).ai ab)
  refine aC Ad H H ((zJ (w0:=w6) (n:=K.va) (c:=K.co) cC (m.aL e7) (z.aL e7) (A.aL e7) (bQ.mk (bk.aL ab) (bl.aL ab)) G G)) ?_
  rintro dY d2 ⟨cc,rfl,au,ai⟩
  have cv:=ao.a6 cC ai ((m.aL e7)).ge
  have aL:=((m.aL e7)).b3 ai aF
  have cJ:=((kL.aL l).aL ab)
  have bK:=(cJ.a4 ai.grown (cQ cJ (m.aL e7)))
  refine cl H H bK H cL (ay.a1 au.one (ay.a1 H (ay.a1 z.one (ay.a1 A.one ay.nil)))) λd1 aw bN=>?_
  have ct:=ao.a2 (cv) aw l7
  have aq:=Kq.br (p:=[3,0,3,3]) bK (aS m.kd (aS rfl (aS z.kd (aS A.kd dj)))) aw
  refine O (ap (J H ?_))
  obtain⟨ch,b1,a8⟩:=uS (P:=Tryz.prog) (sz:=4) Tryz.underlying45 am nc G N (lo:=1) (by first|omega|(simp;omega))
  refine jx H H H H H (b1 _) (Z H (ax (bE (bE ?_))))
  have hs:fX c a b=gd K.va K.co++fX c (a.drop 1) b:=by
   rw[aG]
   first
   |exact C4 G (.inl hA)
   |exact C4 az (.inr ⟨ak,hA⟩)
  have hn:=sP K.va K.co
  refine AP (ts++gd K.va K.co) (cc) (a.drop 1) (ch) (b) (vb) (aP H) ⟨ct,bN,(bC.st pS au aq aw (cQ bK au).symm aF),(((z.aL e7).kq aL).kq aq),(((A.aL e7).kq aL).kq aq),a8,Q,by rw[fh,←hs];exact hm,G,bb,by simp only[cr,gA];omega⟩ (by simp only[gA];omega)
 ·refine cz 19 [5,6,7,8,9,70] am am ?_
  refine W H (mE (vs:=[vb]) H (λw d=>bP eo ((Q.aL h).aL d)) (bn H (λw _=>aX G aV) (W H (X H (W H (X H (mE (vs:=[va]) H (λw d=>bP eo ((N.aL h).aL d)) (X H (bn H (λw _=>cu G cY) (X H (W H (X H (W H (X H ?_))))))))))))))
  obtain⟨c5,de,dk,bx,bZ,b5,bq⟩:=nG (N.aL h) (i:=0)
  obtain⟨eg,ei,rfl,dv,dw⟩:=jh bq
  refine cF H (λw _=>bZ w) (X H (bH H (λw d=>mr) (X H (aQ H (λw d=>D aE H (d.a0 (b5.at (j:=0) H))) (X H (W H (X H ?_)))))))
  obtain⟨c6,df,dl,bz,b0,b6,br⟩:=nG (Q.aL h) (i:=0)
  obtain⟨ej,ek,rfl,dy,dz⟩:=jh br
  refine cF H (λw _=>b0 w) (X H (bH H (λw d=>mr) (X H (aQ H (λw d=>D aE H (d.a0 (b6.at (j:=0) H))) (X H (bn H (λw _=>aX (by rw[bx,bz];exact hA) bO) (X H (jN H (gV H (cq ?_))))))))))
  rintro ci l _ rfl _ rfl _ rfl _ q
  obtain rfl:=bU q
  rintro _ y
  obtain rfl:=bU y
  rintro _ rfl
  refine Z H (O (be H (ah ?_)))
  rcases Int.lt_or_le (b[0].va) (a[0].va) with hG|hG
  ·refine cz 14 [5,6,7,8,9,97] am am ?_
   refine W H (mE (vs:=[va]) H (λw d=>bP eo ((N.aL (h.ai l)).aL d)) (bn H (λw _=>aX G aV) (W H (X H (W H (X H ?_))))))
   obtain⟨c8,dh,dm,bB,b2,b7,bu⟩:=nG (Q.aL (h.ai l)) (i:=0)
   obtain⟨el,em,rfl,dA,dB⟩:=jh bu
   refine cF H (λw _=>b2 w) (X H (bH H (λw d=>mr) (X H (aQ H (λw d=>D aE H (d.a0 (b7.at (j:=0) H))) (X H (W H (X H ?_)))))))
   obtain⟨c9,di,dn,bD,b3,b8,bw⟩:=nG (N.aL (h.ai l)) (i:=0)
   obtain⟨en,ep,rfl,dC,dD⟩:=jh bw
   refine cF H (λw _=>b3 w) (X H (bH H (λw d=>mr) (X H (aQ H (λw d=>D aE H (d.a0 (b8.at (j:=0) H))) (X H (bn H (λw _=>cu (by rw[bB,bD];exact hG) bO) (gV H (cq ?_))))))))
   rintro c1 F _ rfl _ rfl _ rfl _ q
   obtain rfl:=bU q
   rintro _ y
   obtain rfl:=bU y
   rintro _ rfl
   refine Z H (O (bT H (ah (cz 11 [5,6,7,8,9,98,102,108] am am (aQ H (λw d=>((kL.aL (l.ai F)).aL d).ld dx H cL) (W H ?_))))))
   have bd:=(h.ai l).ai F
   obtain⟨c4,dd,s,aB,aM,aT,bp⟩:=nG (Q.aL bd) (i:=0)
   obtain⟨cj,ck,rfl,bf,bg⟩:=jh bp
   refine cF H (λw _=>aM w) ?_
   have ae:=yd (a:=b) G
   rw[←aB] at ae
   refine bH H (λw d=>mr) (aQ H (λw d=>D aE H (d.a0 (aT.at (j:=0) H))) (W H (cF H (λw _=>aM w) (bH H (λw d=>wo) (aQ H (λw d=>(aT.aL d).b7 (ms:=[B s.co.sg,cj,ck]) (o:=1) (jj H) bI H bW) (aQ H (λw d=>((k5.aL (((R.ai h).ai l).ai F)).aL d).ld bI H bW) ?_))))))
   have eP:=qK s.co c
   have e9:=(((((x3.ai x4).ai x5).ai R).ai h).ai l).ai F
   refine my (S:=QV (s.co*c)) yf (QV.a3 _) H H H (λw d=>xE ((bQ.mk bf bg).aL d) ((bQ.mk (la.aL e9) (a2.aL e9)).aL d) G) (cq ?_)
   rintro d3 af _ rfl _ rfl _ rfl _ q
   obtain rfl:=bU q
   rintro _ y
   obtain rfl:=bU y
   rintro _ rfl _ rfl _ ⟨d5,d6,rfl,bh,bi⟩
   have e3:=(l.ai F).ai af
   refine aC Ad H H ((zJ (w0:=w6) (n:=s.va) (c:=s.co*c) ((bd.ai af)) (m.aL e3) (z.aL e3) (A.aL e3) (bQ.mk bh bi) G G)) ?_
   rintro v109 dZ ⟨b9,rfl,ar,ag⟩
   have cm:=ao.a6 ((bd.ai af)) ag ((m.aL e3)).ge
   have aI:=((m.aL e3)).b3 ag aF
   have cN:=(((kL.aL l).aL F).aL af)
   have bL:=(cN.a4 ag.grown (cQ cN (m.aL e3)))
   refine cl H H bL H cL (ay.a1 ar.one (ay.a1 H (ay.a1 z.one (ay.a1 A.one ay.nil)))) λd0 av bM=>?_
   have cn:=ao.a2 (cm) av l7
   have an:=Kq.br (p:=[3,0,3,3]) bL (aS m.kd (aS rfl (aS z.kd (aS A.kd dj)))) av
   refine O (ap (J H ?_))
   obtain⟨cd,bY,a7⟩:=uS (P:=Tryz.prog) (sz:=4) Tryz.underlying45 am nc G Q (lo:=1) (by first|omega|(simp;omega))
   refine jx H H H H H (bY _) (Z H (ax (bE (bE ?_))))
   have hs:fX c a b=gd s.va (s.co*c)++fX c a (b.drop 1):=by
    rw[aB]
    first
    |exact C5 G (.inl hA)
    |exact C5 ak (.inr ⟨az,hG⟩)
   have hn:=sP s.va (s.co*c)
   refine AP (ts++gd s.va (s.co*c)) (b9) (a) (va) (b.drop 1) (cd) (aP H) ⟨cn,bM,(bC.st pS ar an av (cQ bL ar).symm aF),(((z.aL e3).kq aI).kq an),(((A.aL e3).kq aI).kq an),N,a7,by rw[fh,←hs];exact hm,ba,G,by simp only[cr,gA];omega⟩ (by simp only[gA];omega)
  ·refine cz 14 [5,6,7,8,9,97] am am ?_
   refine W H (mE (vs:=[va]) H (λw d=>bP eo ((N.aL (h.ai l)).aL d)) (bn H (λw _=>aX G aV) (W H (X H (W H (X H ?_))))))
   obtain⟨c8,dh,dm,bB,b2,b7,bu⟩:=nG (Q.aL (h.ai l)) (i:=0)
   obtain⟨el,em,rfl,dA,dB⟩:=jh bu
   refine cF H (λw _=>b2 w) (X H (bH H (λw d=>mr) (X H (aQ H (λw d=>D aE H (d.a0 (b7.at (j:=0) H))) (X H (W H (X H ?_)))))))
   obtain⟨c9,di,dn,bD,b3,b8,bw⟩:=nG (N.aL (h.ai l)) (i:=0)
   obtain⟨en,ep,rfl,dC,dD⟩:=jh bw
   refine cF H (λw _=>b3 w) (X H (bH H (λw d=>mr) (X H (aQ H (λw d=>D aE H (d.a0 (b8.at (j:=0) H))) (X H (bn H (λw _=>aX (by rw[bB,bD];omega) bO) (gV H (cq ?_))))))))
   rintro c1 F _ rfl _ rfl _ rfl _ q
   obtain rfl:=bU q
   rintro _ y
   obtain rfl:=bU y
   rintro _ rfl
   refine Z H (O (be H (ah (cz 16 [5,6,7,8,9,30,34,45] am am (aQ H (λw d=>((kL.aL (l.ai F)).aL d).ld dx H cL) (W H ?_))))))
   have a0:=(h.ai l).ai F
   obtain⟨er,et,aa,cD,cW,c0,dI⟩:=nG (N.aL a0) (i:=0)
   obtain⟨d8,d9,rfl,dp,dq⟩:=jh dI
   refine cF H (λw _=>cW w) ?_
   have ae:=yd (a:=a) G
   rw[←cD] at ae
   refine bH H (λw d=>mr) (aQ H (λw d=>D aE H (d.a0 (c0.at (j:=0) H))) (W H (cF H (λw _=>cW w) (bH H (λw d=>wo) (aQ H (λw d=>(c0.aL d).b7 (ms:=[B aa.co.sg,d8,d9]) (o:=1) (jj H) bI H bW) (W H ?_))))))
   obtain⟨es,ew,ad,cG,dR,dU,dJ⟩:=nG (Q.aL a0) (i:=0)
   obtain⟨ec,ed,rfl,dr,ds⟩:=jh dJ
   refine cF H (λw _=>dR w) ?_
   have dL:=yd (a:=b) G
   rw[←cG] at dL
   refine bH H (λw d=>wo) (aQ H (λw d=>(dU.aL d).b7 (ms:=[B ad.co.sg,ec,ed]) (o:=1) (jj H) bI H bW) (aQ H (λw d=>((k5.aL (((R.ai h).ai l).ai F)).aL d).ld bI H bW) ?_))
   have eS:=qK ad.co c
   have cA:=(((((x3.ai x4).ai x5).ai R).ai h).ai l).ai F
   refine my (S:=QV (ad.co*c)) yf (QV.a3 _) H H H (λw d=>xE ((bQ.mk dr ds).aL d) ((bQ.mk (la.aL cA) (a2.aL cA)).aL d) G) ?_
   have eT:=vT aa.co (ad.co*c)
   refine eh (S:=QV (aa.co+(ad.co*c))) Cl (QV.a3 _) H (λw d=>by rintro _ rfl eC dK;exact Bu ((bQ.mk dp dq).aL d) dK G) (cq ?_)
   rintro eJ a6 _ rfl _ rfl _ rfl _ q
   obtain rfl:=bU q
   rintro _ y
   obtain rfl:=bU y
   rintro _ rfl _ rfl _ ⟨eM,eN,rfl,dt,du⟩
   have e4:=(l.ai F).ai a6
   refine aC Ad H H ((zJ (w0:=w6) (n:=aa.va) (c:=aa.co+ad.co*c) ((a0.ai a6)) (m.aL e4) (z.aL e4) (A.aL e4) (bQ.mk dt du) G G)) ?_
   rintro v46 eF ⟨dV,rfl,bX,bo⟩
   have ee:=ao.a6 ((a0.ai a6)) bo ((m.aL e4)).ge
   have cV:=((m.aL e4)).b3 bo aF
   have cO:=(((kL.aL l).aL F).aL a6)
   have bF:=(cO.a4 bo.grown (cQ cO (m.aL e4)))
   refine cl H H bF H cL (ay.a1 bX.one (ay.a1 H (ay.a1 z.one (ay.a1 A.one ay.nil)))) λeG b4 dQ=>?_
   have ef:=ao.a2 (ee) b4 l7
   have bS:=Kq.br (p:=[3,0,3,3]) bF (aS m.kd (aS rfl (aS z.kd (aS A.kd dj)))) b4
   refine O (cz 5 [5,6,7,8,50] am am (W H ?_))
   obtain⟨dW,dS,da⟩:=uS (P:=Tryz.prog) (sz:=4) Tryz.underlying45 am nc G N (lo:=1) (by first|omega|(simp;omega))
   refine yw H H H H (λw _=>dS w) (W H ?_)
   obtain⟨dX,dT,db⟩:=uS (P:=Tryz.prog) (sz:=4) Tryz.underlying45 am nc G Q (lo:=1) (by first|omega|(simp;omega))
   refine yw H H H H (λw _=>dT w) (gK H (cq ?_))
   rintro eK aZ _ rfl _ rfl _ rfl _ q
   obtain rfl:=bU q
   rintro _ dN
   obtain rfl:=bU dN
   refine Z H (ax (bE (bE ?_)))
   have hs:fX c a b=gd aa.va (aa.co+ad.co*c)++fX c (a.drop 1) (b.drop 1):=by
    rw[cD,cG]
    exact XB az ak hA G
   have hn:=sP aa.va (aa.co+ad.co*c)
   refine AP (ts++gd aa.va (aa.co+ad.co*c)) (dV) (a.drop 1) (dW) (b.drop 1) (dX) (aP H) ⟨(ef.ai aZ),dQ.aL aZ,((bC.st pS bX bS b4 (cQ bF bX).symm aF).aL aZ),((((z.aL e4).kq cV).kq bS).aL aZ),((((A.aL e4).kq cV).kq bS).aL aZ),da,db,by rw[fh,←hs];exact hm,G,G,by simp only[cr,gA];omega⟩ (by simp only[gA];omega)
theorem Jc {f g:bj} {c:Rat} {t:Value} (k:bR cy f v w) (j:bR cy g u w) (h:QV c t w) (d:fR f+fR g+bt c≤17179869184) (i:f.ts.length+g.ts.length≤549755813887):
 Calls Tryz.prog 202 #[v,u,t] w (aJ λr w'=>ao w w'∧bR cy (pJ f g c) r w'):=(Jb k j h d i).mono λ_ _ ⟨v,e,a,b⟩=>⟨v,e,a,b.st⟩
theorem Jq:Calls Tryz.prog 108 #[I 1] w (aJ λr w'=>ao w w'∧QV 1 r w'):=Jr (x:=1) G G
theorem R9:Calls Tryz.prog 108 #[I (-1)] w (aJ λr w'=>ao w w'∧QV (-1) r w'):=Jr (x:= -1) G G
theorem bt_1:bt 1=2:=by decide
theorem Tn:bt (-1)=2:=by decide
theorem bt_0:bt 0=2:=by decide
theorem Ra {f g:bj} (J:bR cy f v w) (F:bR cy g u w) (hB:fR f+fR g≤17179869180∧f.ts.length+g.ts.length≤549755813887):
 Calls Tryz.prog 114 #[v,u] w (aJ λr w'=>ao w w'∧qm w.heap.size (iR f g) r w'):=by
 obtain⟨_,rfl,Y⟩:=J
 obtain⟨s,t,x,rfl,K,L,M⟩:=ey Y
 obtain⟨_,rfl,Z⟩:=F
 obtain⟨y,z,A,rfl,N,P,Q⟩:=ey Z
 have h1:=bt_1
 refine enter (vs:=[.agg #[s,B f.ct.sg,t,x],.agg #[y,B g.ct.sg,z,A]]) Tryz.func114 H H H (T (cE H H λg2 w2 l2 o U=>cE H H λg3 w3 l3 h V=>cM iX H λg4 w4 W c m=>(O (ah (cz 4 [4,8] am am (aQ H (λw a=>((U.aL (h.ai c)).aL a).ld dx H cL) (aQ H (λw a=>((V.aL c).aL a).ld dx H cL) ?_)))))))
 have b:=(o.ai h).ai c
 refine fP (S:=QV 1) FV (QV.a3 _) H H (λw a=>Jq) (eh (S:=qm w.heap.size (iR f g)) FM (qm.a3 _ _) H (λw1 a=>by rintro _ rfl _ rfl v7 C;exact(Jb (bR.aL (bR.mk (eX (K.aL b) (L.aL b) (M.aL b))) a) (bR.aL (bR.mk (eX (N.aL b) (P.aL b) (Q.aL b))) a) C G G).mono λ_ _ ⟨v,e,q,a2⟩=>⟨v,e,q,a2.low (cf (b).size a.size)⟩) (cq ?_))
 rintro ae i _ rfl ab D
 obtain⟨af,ag,ai,rfl,j,k,l,X⟩:=D
 refine cl H H (m.aL i) H cL (ay.a1 j.one (ay.a1 H (ay.a1 k.one (ay.a1 l.one ay.nil)))) λad n R=>?_
 have aa:=ao.a2 ((c.ai i)) n W
 have d:=Kq.br (p:=[3,0,3,3]) (m.aL i) (aS rfl (aS rfl (aS rfl (aS rfl dj)))) n
 refine O (aA (ff H (.cell H (R.ld dx H cL) .nil) ?_))
 exact⟨_,H,((o.ai h).ai aa),_,_,_,H,(j.kq d),(k.kq d),(l.kq d),X⟩
theorem zo {f g:bj} (h:bR cy f v w) (d:bR cy g u w) (c:fR f+fR g≤17179869180∧f.ts.length+g.ts.length≤549755813887):
 Calls Tryz.prog 114 #[v,u] w (aJ λr w'=>ao w w'∧bR cy (iR f g) r w'):=(Ra h d c).mono λ_ _ ⟨v,e,a,b⟩=>⟨v,e,a,b.st⟩
theorem Rc {f g:bj} (C:bR cy f v w) (A:bR cy g u w) (hB:fR f+fR g≤17179869180∧f.ts.length+g.ts.length≤549755813887):
 Calls Tryz.prog 200 #[v,u] w (aJ λr w'=>ao w w'∧bR cy (y9 f g) r w'):=by
 obtain⟨_,rfl,V⟩:=C
 obtain⟨o,q,s,rfl,D,F,J⟩:=ey V
 obtain⟨_,rfl,W⟩:=A
 obtain⟨t,x,y,rfl,K,L,M⟩:=ey W
 have h1:=Tn
 refine enter (vs:=[.agg #[o,B f.ct.sg,q,s],.agg #[t,B g.ct.sg,x,y]]) Tryz.func200 H H H (T (cE H H λY w2 l2 n P=>cE H H λZ w3 l3 e Q=>cM iX H λg4 w4 R c l=>(O (ah (cz 4 [4,8] am am (aQ H (λw a=>((P.aL (e.ai c)).aL a).ld dx H cL) (aQ H (λw a=>((Q.aL c).aL a).ld dx H cL) ?_)))))))
 have b:=(n.ai e).ai c
 refine fP (S:=QV (-1)) FV (QV.a3 _) H H (λw a=>R9) (eh (S:=bR cy (y9 f g)) FM (bR.a3 _ _) H (λw a=>by rintro _ rfl _ rfl v7 z;exact Jc ((bR.mk (eX (D.aL b) (F.aL b) (J.aL b))).aL a) ((bR.mk (eX (K.aL b) (L.aL b) (M.aL b))).aL a) z G G) (cq ?_))
 rintro ab h _ rfl _ ⟨_,rfl,U⟩
 obtain⟨ad,ae,af,rfl,i,j,k⟩:=ey U
 refine cl H H (l.aL h) H cL (ay.a1 i.one (ay.a1 H (ay.a1 j.one (ay.a1 k.one ay.nil)))) λaa m N=>?_
 have X:=ao.a2 ((c.ai h)) m R
 have d:=Kq.br (p:=[3,0,3,3]) (l.aL h) (aS rfl (aS rfl (aS rfl (aS rfl dj)))) m
 refine O (aA (ff H (.cell H (N.ld dx H cL) .nil) ?_))
 exact⟨_,H,((n.ai e).ai X),(bR.mk (eX (i.kq d) (j.kq d) (k.kq d)))⟩
theorem aaQ:bR cy zF (.agg #[.slice none 0 0,B false,.slice none 0 0,.slice none 0 0]) w:=bR.mk (eX (a:=zF) (aD.nil _ _) (aO.nil _) (aO.nil _))
theorem Ey {f:bj} {c:Rat} (z:bR cy f v w) (y:QV c u w) (X:fR f+bt c≤17179869180∧f.ts.length≤549755813887):
 Calls Tryz.prog 139 #[v,u] w (aJ λr w'=>ao w w'∧bR cy (mP f c) r w'):=by
 obtain⟨_,rfl,Q⟩:=z
 obtain⟨s,t,x,rfl,A,C,D⟩:=ey Q
 obtain⟨o,q,rfl,M,N⟩:=y
 have W:fR zF=2:=aF
 refine enter (vs:=[.agg #[s,B f.ct.sg,t,x],.agg #[B c.sg,o,q]]) Tryz.func139 H H H (T (cE H H λS w2 Z n J=>cE H H λU w3 l3 e K=>cM iX H λV w4 L b l=>(bB (dY (r:=.agg #[.slice none 0 0,B false,.slice none 0 0,.slice none 0 0]) H (by exact run_build _ _ _ _ am) (Y H ((J.aL (e.ai b)).ld dx H cL) (Y H ((K.aL b).ld bI H bW) ?_))))))
 have a:=(n.ai e).ai b
 refine aC FM H H ((Jc (f:=zF) (g:=f) (c:=c) aaQ (bR.mk (eX (A.aL a) (C.aL a) (D.aL a))) (bQ.mk (M.aL a) (N.aL a)) G (by show 0+_≤_;omega))) ?_
 rintro v8 w8 ⟨h,⟨_,rfl,P⟩⟩
 obtain⟨ab,ad,ae,rfl,i,j,k⟩:=ey P
 refine cl H H (l.aL h) H cL (ay.a1 i.one (ay.a1 H (ay.a1 j.one (ay.a1 k.one ay.nil)))) λaa m F=>?_
 have R:=ao.a2 ((b.ai h)) m L
 have d:=Kq.br (p:=[3,0,3,3]) (l.aL h) (aS rfl (aS rfl (aS rfl (aS rfl dj)))) m
 refine O (aA (ff H (.cell H (F.ld dx H cL) .nil) ?_))
 exact⟨_,H,((n.ai e).ai R),(bR.mk (eX (i.kq d) (j.kq d) (k.kq d)))⟩
def nj (l:List cX) (i:Nat):Int:=if h:0<i∧i-1<l.length then l[i-1].va+1 else 0
theorem Na {l:List cX} (h:i<l.length):nj l (i+1)=l[i].va+1:=by unfold nj;rw[wm ⟨G,by simpa using h⟩];rfl
theorem DP {x:Rat}:j8 x=0↔x=0:=by have:=@HQ x;constructor<;>intro h<;>grind
theorem aaB (l:List cX) (i:Nat) (hi:i<l.length) (n:Int):
 l[i].va<0∨(0≤l[i].va∧n≤l[i].va)∨(∃_:0<i,0≤l[i].va∧l[i].va<n∧l[i].va≤l[i-1].va)∨((0≤l[i].va∧l[i].va<n∧nj l i≤l[i].va)∧i=0∧l[i].co=0)∨((0≤l[i].va∧l[i].va<n∧nj l i≤l[i].va)∧i=0∧l[i].co≠0)∨
  ((0≤l[i].va∧l[i].va<n∧nj l i≤l[i].va)∧(∃_:0<i,l[i-1].va<l[i].va)∧l[i].co=0)∨((0≤l[i].va∧l[i].va<n∧nj l i≤l[i].va)∧(∃_:0<i,l[i-1].va<l[i].va)∧l[i].co≠0):=by
 by_cases d:l[i].va<0
 ·exact .inl d
 by_cases e:n≤l[i].va
 ·exact .inr (.inl ⟨G,e⟩)
 by_cases c:i=0
 ·have b:0≤l[i].va∧l[i].va<n∧nj l i≤l[i].va:=⟨G,G,by unfold nj;rw[dif_neg G];omega⟩
  by_cases a:l[i].co=0
  ·exact .inr (.inr (.inr (.inl ⟨b,c,a⟩)))
  ·exact .inr (.inr (.inr (.inr (.inl ⟨b,c,a⟩))))
 have b:nj l i=l[i-1].va+1:=by unfold nj;rw[wm ⟨G,G⟩]
 by_cases f:l[i].va≤l[i-1].va
 ·exact .inr (.inr (.inl ⟨G,G,G,f⟩))
 ·by_cases a:l[i].co=0
  ·exact .inr (.inr (.inr (.inr (.inr (.inl ⟨⟨G,G,G⟩,⟨G,G⟩,a⟩)))))
  ·exact .inr (.inr (.inr (.inr (.inr (.inr ⟨⟨G,G,G⟩,⟨G,G⟩,a⟩)))))
theorem Yb {n lo:Int} {l:List cX} (hi:i<l.length):lr n lo (l.drop i)=(decide (lo≤l[i].va)&&decide (l[i].va<n)&&decide (l[i].co≠0)&&lr n (l[i].va+1) (l.drop (i+1))):=by
 rw[lE hi];rfl
theorem IP {f:bj} {n:Int} (hv:bR cy f v w) (hB:fR f≤17179869180):
 Calls Tryz.prog 117 #[v,I n] w (aJ λr w'=>ao w w'∧Is (B (jk f n)) r w'):=by
 obtain⟨_,rfl,ra⟩:=hv
 obtain⟨fa,fb,fc,rfl,N,ib,ic⟩:=ey ra
 unfold fR at hB
 have aD:=N.len
 refine enter (vs:=[.agg #[fa,B f.ct.sg,fb,fc],I n]) Tryz.func117 H H H (T (cE H H λg2 w2 l2 p k2=>(Z H (O (ah (T (c H (mp) (Y H (D eo H (k2.cell (i:=0) H)) (aW H (bP eo (N.aL p)) (J H (O (aR (eg (α:=Nat) (λi=>[(1,I n),(2,.pointer (some ⟨g2,0,none⟩)),(8,fa),(9,I (f.ts.length:Int)),(10,I (i:Int))]) (λi w'=>ao w2 w'∧i≤f.ts.length∧lr n (nj f.ts i) (f.ts.drop i)=jk f n∧0≤nj f.ts i) (λi=>f.ts.length-i) (0) (aP H) ⟨ao.refl _,G,H,me _⟩ ?_)))))))))))))
 rintro i wL ⟨g,hi,hk,h0⟩
 refine T (U H (bO) (O (ah (bc H (λan=>?_) (λan=>?_)))))
 ·refine aH (al (ah (aR (T (J H ?_)))))
  obtain⟨az,aB,k,u,ar,au,aq⟩:=nG (N.aL (p.ai g)) (i:=i)
  obtain⟨R,V,rfl,F,K⟩:=jh aq
  refine bF H (ar _) ?_
  have hm:=z6 (l:=f.ts) (t:=k) (by rw[u];exact eK _)
  have A:=Yb (n:=n) (lo:=nj f.ts i) (l:=f.ts) (i:=i) G
  rw[hk,←u] at A
  refine Y H (au.ld ur H tj) (cM Bt H λg6 w6 l6 x6 k6=>(Z H (cl H H k6 H tj (ay.a1 H (ay.a1 H (ay.a1 F.one (ay.a1 K.one ay.nil)))) λaG av d=>?_)))
  have b:=ao.a2 (x6) av l6
  refine O (ah ?_)
  rcases aaB f.ts i G n with L|⟨L,y⟩|⟨hp,L,y,z⟩|⟨⟨L,y,z⟩,hD,s⟩|⟨⟨L,y,z⟩,hD,s⟩|⟨⟨L,y,z⟩,⟨hp,hD⟩,s⟩|⟨⟨L,y,z⟩,⟨hp,hD⟩,s⟩<;>rw[←u] at L<;>(try rw[←u] at y)<;>(try rw[←u] at z)<;>(try rw[←u] at s)
  ·refine cz 36 [1,2,8,9,10,46,50] am am ?_
   refine bH H (λw a=>ju) (aQ H (λw a=>D aE H (a.a0 (d.cell (i:=0) H))) (bn H (λw _=>cu G bO) (W (S:=Is (B true)) H (M H (M H (M H (M H (jN (S:=Is (B true)) H (W (S:=Is (B true)) H (M H (M H (M H (dc H (dc H (dc H (dc H (dc H (dc H (dc H (dc H (dc H (dc H (M H (jN (S:=Is (B true)) H (W (S:=Is (B true)) H (M H (M H (M H (M H (jN (S:=Is (B true)) H (W (S:=Is (B true)) H (M H (M H (M H (M H (cq ?_))))))))))))))))))))))))))))))))))))
   rintro Q q _ rfl _ rfl _ m
   obtain rfl:=bU m
   rintro _ rfl _ rfl _ rfl _ rfl
   refine bA H (O (bT H (T (Z H (O (aA (bD (aI (aI (bD (aI (aM H ?_))))))))))))
   exact⟨_,H,(((p.ai g).ai b).ai q),by rw[A,bi (show ¬nj f.ts i≤k.va by omega)];rfl⟩
  ·refine cz 36 [1,2,8,9,10,46,50] am am ?_
   refine bH H (λw a=>ju) (aQ H (λw a=>D aE H (a.a0 (d.cell (i:=0) H))) (bn H (λw _=>aX G bO) (W (S:=Is (B false)) H (X H (bH H (λw a=>ju) (X H (aQ H (λw a=>D aE H (a.a0 (d.cell (i:=0) H))) (X H (W (S:=Is (I n)) H (X H (bn H (λw _=>cu G eU) (gV (S:=Is (B true)) H (W (S:=Is (B true)) H (M H (M H (M H (dc H (dc H (dc H (dc H (dc H (dc H (dc H (dc H (dc H (dc H (M H (jN (S:=Is (B true)) H (W (S:=Is (B true)) H (M H (M H (M H (M H (jN (S:=Is (B true)) H (W (S:=Is (B true)) H (M H (M H (M H (M H (cq ?_))))))))))))))))))))))))))))))))))))))))
   rintro Q q _ rfl _ rfl _ m
   obtain rfl:=bU m
   rintro _ rfl _ rfl _ rfl _ rfl
   refine bA H (O (bT H (T (Z H (O (aA (bD (aI (aI (bD (aI (aM H ?_))))))))))))
   exact⟨_,H,(((p.ai g).ai b).ai q),by rw[A,bi (show ¬k.va<n by omega),Bool.and_false];rfl⟩
  ·refine cz 36 [1,2,8,9,10,46,50] am am ?_
   refine bH H (λw a=>ju) (aQ H (λw a=>D aE H (a.a0 (d.cell (i:=0) H))) (bn H (λw _=>aX G bO) (W (S:=Is (B false)) H (X H (bH H (λw a=>ju) (X H (aQ H (λw a=>D aE H (a.a0 (d.cell (i:=0) H))) (X H (W (S:=Is (I n)) H (X H (bn H (λw _=>aX G eU) (gV (S:=Is (B false)) H (W (S:=Is (B false)) H (X H (W (S:=Is (I (i:Int))) H (X H (bn H (λw _=>cu G cY) (X H (W (S:=Is (B true)) H (X H (bH H (λw a=>mp) (X H (aQ H (λw a=>D eo H (a.a0 ((g.ai b).a0 (k2.cell (i:=0) H)))) (X H (W (S:=Is (I (i:Int))) H (X H (bn (r:=I ((i-1:Nat):Int)) H (λw _=>by have e:((i-1:Nat):Int)=(i:Int)-1:=G;rw[e];exact dM) (X H ?_))))))))))))))))))))))))))))
   obtain⟨ad,ae,aa,ab,x⟩:=bX (P:=Tryz.prog) (sz:=4) eo am nc G (N.aL ((p.ai g).ai b)) (i:=(i-1:Nat)) G .i64
   obtain⟨af,C⟩:∃e,e=f.ts[(i-1:Nat)]'G:=⟨_,rfl⟩
   rw[←C] at x
   obtain⟨aj,ak,rfl,ag,ai⟩:=jh x
   refine cF H (λw _=>aa w) (X H (bH H (λw a=>mr) (X H (aQ H (λw a=>D aE H (a.a0 (ab.at (j:=0) H))) (X H (bH H (λw a=>ju) (X H (aQ H (λw a=>D aE H (a.a0 (d.cell (i:=0) H))) (X H (bn H (λw _=>cu (by rw[C];exact z) eU) (X H (jN (S:=Is (B true)) H (gV (S:=Is (B true)) H (W (S:=Is (B true)) H (M H (M H (M H (M H (jN (S:=Is (B true)) H (W (S:=Is (B true)) H (M H (M H (M H (M H (cq ?_)))))))))))))))))))))))))
   rintro Q q _ rfl _ rfl _ m
   obtain rfl:=bU m
   rintro _ rfl _ rfl _ rfl _ rfl
   refine bA H (O (bT H (T (Z H (O (aA (bD (aI (aI (bD (aI (aM H ?_))))))))))))
   exact⟨_,H,(((p.ai g).ai b).ai q),by
    rw[A,bi (show ¬nj f.ts i≤k.va by unfold nj;rw[wm ⟨G,G⟩];omega)];rfl⟩
  ·refine cz 36 [1,2,8,9,10,46,50] am am ?_
   refine bH H (λw a=>ju) (aQ H (λw a=>D aE H (a.a0 (d.cell (i:=0) H))) (bn H (λw _=>aX G bO) (W (S:=Is (B false)) H (X H (bH H (λw a=>ju) (X H (aQ H (λw a=>D aE H (a.a0 (d.cell (i:=0) H))) (X H (W (S:=Is (I n)) H (X H (bn H (λw _=>aX G eU) (gV (S:=Is (B false)) H (W (S:=Is (B false)) H (X H (W (S:=Is (I (i:Int))) H (X H (bn H (λw _=>aX G cY) (X H (W (S:=Is (B false)) H (M H (M H (M H (M H (M H (M H (M H (M H (M H (M H (X H (gV (S:=Is (B false)) H (gV (S:=Is (B false)) H (W (S:=Is (B false)) H (X H (bH H (λw a=>rc) ?_)))))))))))))))))))))))))))))))))))
   refine X H (aQ H (λw a=>(d.aL a).b7 (ms:=[B k.co.sg,R,V]) (o:=1) (jj H) bI H bW) (X H (fP (S:=Is (I (j8 k.co))) vY (cN.is _) H H (λw a=>zi ((bQ.mk (F.aL b) (K.aL b)).aL a) G) (X H (bn H (λw _=>cu (DP.2 s) aV) (gV (S:=Is (B true)) H (W (S:=Is (B true)) H (M H (M H (M H (M H (cq ?_))))))))))))
   rintro Q q _ rfl _ rfl _ m
   obtain rfl:=bU m
   rintro _ rfl _ rfl _ rfl _ rfl
   refine bA H (O (bT H (T (Z H (O (aA (bD (aI (aI (bD (aI (aM H ?_))))))))))))
   exact⟨_,H,(((p.ai g).ai b).ai q),by rw[A,bi (show ¬k.co≠0 from λh=>h s),Bool.and_false];rfl⟩
  ·refine cz 36 [1,2,8,9,10,46,50] am am ?_
   refine bH H (λw a=>ju) (aQ H (λw a=>D aE H (a.a0 (d.cell (i:=0) H))) (bn H (λw _=>aX G bO) (W (S:=Is (B false)) H (X H (bH H (λw a=>ju) (X H (aQ H (λw a=>D aE H (a.a0 (d.cell (i:=0) H))) (X H (W (S:=Is (I n)) H (X H (bn H (λw _=>aX G eU) (gV (S:=Is (B false)) H (W (S:=Is (B false)) H (X H (W (S:=Is (I (i:Int))) H (X H (bn H (λw _=>aX G cY) (X H (W (S:=Is (B false)) H (M H (M H (M H (M H (M H (M H (M H (M H (M H (M H (X H (gV (S:=Is (B false)) H (gV (S:=Is (B false)) H (W (S:=Is (B false)) H (X H (bH H (λw a=>rc) ?_)))))))))))))))))))))))))))))))))))
   refine X H (aQ H (λw a=>(d.aL a).b7 (ms:=[B k.co.sg,R,V]) (o:=1) (jj H) bI H bW) (X H (fP (S:=Is (I (j8 k.co))) vY (cN.is _) H H (λw a=>zi ((bQ.mk (F.aL b) (K.aL b)).aL a) G) (X H (bn H (λw _=>aX (λh=>s (DP.1 h)) aV) (gV (S:=Is (B false)) H (W (S:=Is (B false)) H (X H (bH H (λw a=>rc) (X H (aQ H (λw a=>(d.aL a).b7 (ms:=[B k.co.sg,R,V]) (o:=1) (jj H) bI H bW) (X H (fP (S:=Is (B true)) yg (cN.is _) H H (λw a=>Eg ((bQ.mk (F.aL b) (K.aL b)).aL a) G) (X H (CA H (λw _=>cW) (cq ?_))))))))))))))))
   rintro Q q _ rfl _ rfl _ m
   obtain rfl:=bU m
   rintro _ rfl _ rfl _ rfl _ rfl
   refine aK H (O (be H (aH (bE (al (ap (U H cD (J H (ax ?_)))))))))
   have hs:=Na (l:=f.ts) (i:=i) G
   rw[←u] at hs
   refine ew (i+1) (aP H) ⟨((g.ai b).ai q),G,by rw[A,dH z,dH y,dH s,hs];rfl,G⟩ G
  ·rw[←u] at hD
   refine cz 36 [1,2,8,9,10,46,50] am am (bH H (λw a=>ju) (aQ H (λw a=>D aE H (a.a0 (d.cell (i:=0) H))) (bn H (λw _=>aX G bO) (W (S:=Is (B false)) H (X H (bH H (λw a=>ju) (X H (aQ H (λw a=>D aE H (a.a0 (d.cell (i:=0) H))) (X H (W (S:=Is (I n)) H (X H (bn H (λw _=>aX G eU) (gV (S:=Is (B false)) H (W (S:=Is (B false)) H (X H (W (S:=Is (I (i:Int))) H (X H (bn H (λw _=>cu G cY) (X H (W (S:=Is (B true)) H (X H (bH H (λw a=>mp) (X H (aQ H (λw a=>D eo H (a.a0 ((g.ai b).a0 (k2.cell (i:=0) H)))) (X H (W (S:=Is (I (i:Int))) H (X H (bn (r:=I ((i-1:Nat):Int)) H (λw _=>by have e:((i-1:Nat):Int)=(i:Int)-1:=G;rw[e];exact dM) (X H ?_)))))))))))))))))))))))))))))
   obtain⟨ad,ae,aa,ab,x⟩:=bX (P:=Tryz.prog) (sz:=4) eo am nc G (N.aL ((p.ai g).ai b)) (i:=(i-1:Nat)) G .i64
   obtain⟨af,C⟩:∃e,e=f.ts[(i-1:Nat)]'G:=⟨_,rfl⟩
   rw[←C] at x
   obtain⟨aj,ak,rfl,ag,ai⟩:=jh x
   refine cF H (λw _=>aa w) (X H (bH H (λw a=>mr) (X H (aQ H (λw a=>D aE H (a.a0 (ab.at (j:=0) H))) (X H (bH H (λw a=>ju) (X H (aQ H (λw a=>D aE H (a.a0 (d.cell (i:=0) H))) (X H (bn H (λw _=>aX (by rw[C];omega) eU) (X H (jN (S:=Is (B false)) H (gV (S:=Is (B false)) H (W (S:=Is (B false)) H (X H (bH H (λw a=>rc) (X H (aQ H (λw a=>(d.aL a).b7 (ms:=[B k.co.sg,R,V]) (o:=1) (jj H) bI H bW) (X H (fP (S:=Is (I (j8 k.co))) vY (cN.is _) H H (λw a=>zi ((bQ.mk (F.aL b) (K.aL b)).aL a) G) (X H (bn H (λw _=>cu (DP.2 s) aV) (gV (S:=Is (B true)) H (W (S:=Is (B true)) H (M H (M H (M H (M H (cq ?_)))))))))))))))))))))))))))))
   rintro Q q _ rfl _ rfl _ m
   obtain rfl:=bU m
   rintro _ rfl _ rfl _ rfl _ rfl
   refine bA H (O (bT H (T (Z H (O (aA (bD (aI (aI (bD (aI (aM H ?_))))))))))))
   exact⟨_,H,(((p.ai g).ai b).ai q),by rw[A,bi (show ¬k.co≠0 from λh=>h s),Bool.and_false];rfl⟩
  ·rw[←u] at hD
   refine cz 36 [1,2,8,9,10,46,50] am am (bH H (λw a=>ju) (aQ H (λw a=>D aE H (a.a0 (d.cell (i:=0) H))) (bn H (λw _=>aX G bO) (W (S:=Is (B false)) H (X H (bH H (λw a=>ju) (X H (aQ H (λw a=>D aE H (a.a0 (d.cell (i:=0) H))) (X H (W (S:=Is (I n)) H (X H (bn H (λw _=>aX G eU) (gV (S:=Is (B false)) H (W (S:=Is (B false)) H (X H (W (S:=Is (I (i:Int))) H (X H (bn H (λw _=>cu G cY) (X H (W (S:=Is (B true)) H (X H (bH H (λw a=>mp) (X H (aQ H (λw a=>D eo H (a.a0 ((g.ai b).a0 (k2.cell (i:=0) H)))) (X H (W (S:=Is (I (i:Int))) H (X H (bn (r:=I ((i-1:Nat):Int)) H (λw _=>by have e:((i-1:Nat):Int)=(i:Int)-1:=G;rw[e];exact dM) (X H ?_)))))))))))))))))))))))))))))
   obtain⟨ad,ae,aa,ab,x⟩:=bX (P:=Tryz.prog) (sz:=4) eo am nc G (N.aL ((p.ai g).ai b)) (i:=(i-1:Nat)) G .i64
   obtain⟨af,C⟩:∃e,e=f.ts[(i-1:Nat)]'G:=⟨_,rfl⟩
   rw[←C] at x
   obtain⟨aj,ak,rfl,ag,ai⟩:=jh x
   refine cF H (λw _=>aa w) (X H (bH H (λw a=>mr) (X H (aQ H (λw a=>D aE H (a.a0 (ab.at (j:=0) H))) (X H (bH H (λw a=>ju) (X H (aQ H (λw a=>D aE H (a.a0 (d.cell (i:=0) H))) (X H (bn H (λw _=>aX (by rw[C];omega) eU) (X H (jN (S:=Is (B false)) H (gV (S:=Is (B false)) H (W (S:=Is (B false)) H (X H (bH H (λw a=>rc) (X H (aQ H (λw a=>(d.aL a).b7 (ms:=[B k.co.sg,R,V]) (o:=1) (jj H) bI H bW) (X H (fP (S:=Is (I (j8 k.co))) vY (cN.is _) H H (λw a=>zi ((bQ.mk (F.aL b) (K.aL b)).aL a) G) (X H (bn H (λw _=>aX (λh=>s (DP.1 h)) aV) (gV (S:=Is (B false)) H (W (S:=Is (B false)) H ?_))))))))))))))))))))))))
   refine X H (bH H (λw a=>rc) (X H (aQ H (λw a=>(d.aL a).b7 (ms:=[B k.co.sg,R,V]) (o:=1) (jj H) bI H bW) (X H (fP (S:=Is (B true)) yg (cN.is _) H H (λw a=>Eg ((bQ.mk (F.aL b) (K.aL b)).aL a) G) (X H (CA H (λw _=>cW) (cq ?_))))))))
   rintro Q q _ rfl _ rfl _ m
   obtain rfl:=bU m
   rintro _ rfl _ rfl _ rfl _ rfl
   refine aK H (O (be H (aH (bE (al (ap (U H cD (J H (ax ?_)))))))))
   have hs:=Na (l:=f.ts) (i:=i) G
   rw[←u] at hs
   refine ew (i+1) (aP H) ⟨((g.ai b).ai q),G,by rw[A,dH z,dH y,dH s,hs];rfl,G⟩ G
 ·refine ce (aU (aU (cg (al (T (c H (oX) (Y H ((k2.aL g).b7 (ms:=[B f.ct.sg,fb,fc]) (o:=1) (jj H) bI H bW) ?_)))))))
  refine aC yg H H (Eg (bQ.mk (ib.aL (p.ai g)) (ic.aL (p.ai g))) G) ?_
  rintro aF aL ⟨aw,rfl⟩
  refine Z H (O (aA (aM H ?_)))
  exact⟨_,H,((p.ai g).ai aw),by
   rw[←hk,kT G];rfl⟩
theorem Tm (l:List cX) (i:Nat):fM (l.take i)≤fM l:=by
 have:=vS (l.take i) (l.drop i)
 rw[nz] at this
 omega
theorem Wx {α β:Type} {F:β→α→β} {s:β} {l:List α} (h:i<l.length):(l.take (i+1)).foldl F s=F ((l.take i).foldl F s) l[i]:=by
 rw[List.take_add_one,fy h,xJ];rfl
theorem ZZ {a b:Int} (h:0<b):dC (decide (a<0) !=decide (b<0)) a.natAbs=a:=by
 rw[bi (show ¬b<0 by omega),show(decide (a<0) !=false)=decide (a<0) by simp];exact qg a
theorem MT {x:Int} (h: -9223372036854775808≤x) (a:x≤9223372036854775807):(lb x.natAbs).length≤4:=cf (gw (k:=2) G) G
def jL (x:List Rat) (l:List cX) (s:Rat):Rat:=l.foldl (λs t=>s+t.co*x.getD t.va.toNat 0) s
theorem Kl {x:List Rat} (c:∀y∈x,bt y≤BB) (a:2≤BB):∀(l:List cX) (s:Rat),bt (jL x l s)≤bt s+fM l+l.length*BB:=by
 intro l
 induction l with
 |nil=>intro s;simp[jL]
 |cons t l d=>
  intro s
  have h:=d (s+t.co*x.getD t.va.toNat 0)
  have f:=vT s (t.co*x.getD t.va.toNat 0)
  have g:=qK t.co (x.getD t.va.toNat 0)
  have i:bt (x.getD t.va.toNat 0)≤BB:=by
   rw[mU]
   cases b:x[t.va.toNat]? with
   |none=>exact a
   |some y=>exact c y (tA b)
  simp only[fM,cw]
  have e:jL x (t::l) s=jL x l (s+t.co*x.getD t.va.toNat 0):=rfl
  rw[e,nZ]
  omega
def Iy {α:Type} (P:Program) (fid:FuncId) (cs:List Value) (F:α→Dt) (l:List α) (g:α→Bool) (w:World):Prop:=
 ∀a∈l,∀(W:World) (v:Value),ao w W→bR F a v W→Calls P fid (#[]++[v].toArray++cs.toArray) W (aJ λr W'=>ao W W'∧Is (B (g a)) r W')
theorem S8 {α:Type} {g:α→Bool} {l:List α} (hi:i<l.length) (h:l.any g=(l.drop i).any g) (a:g l[i]=true):l.any g=true:=by
 rw[h,lE hi,List.any_cons,a,Bool.true_or]
theorem S9 {α:Type} {g:α→Bool} {l:List α} (hi:i<l.length) (h:l.any g=(l.drop i).any g) (a:g l[i]=false):l.any g=(l.drop (i+1)).any g:=by
 rw[h,lE hi,List.any_cons,a,Bool.false_or]
theorem S6 {α:Type} {g:α→Bool} {l:List α} (hi:l.length≤i) (h:l.any g=(l.drop i).any g):l.any g=false:=by
 rw[h,kT hi];rfl
theorem Uh:aY Tryz.prog 279:=⟨_,Tryz.func279,am,rfl⟩
theorem Ue:aY Tryz.prog 205:=⟨_,Tryz.func205,am,rfl⟩
theorem Q4 {l:List bj} {c:FuncId} {g:bj→Bool} (j:aD cy l v w) (x:aY Tryz.prog c) (u:Iy Tryz.prog c cs cy l g w):
 Calls Tryz.prog 279 #[v,.func (.func c) #[] cs.toArray] w (aJ λr w'=>ao w w'∧∃k:Int,r=I k∧ -1≤k∧k≤9223372036854775807∧(0≤k↔l.any g=true)):=by
 have N:=j.len
 refine enter (vs:=[v,.func (.func c) #[] cs.toArray]) Tryz.func279 H H H (T (Z H (O (ah (T (J H (aW H (bP cO j) (J H (O (aR (eg (α:=Nat) (λi=>[(0,v),(1,.func (.func c) #[] cs.toArray),(7,I (l.length:Int)),(8,I (i:Int))]) (λi w'=>ao w w'∧i≤l.length∧l.any g=(l.drop i).any g) (λi=>l.length-i) (0) (aP H) ⟨ao.refl _,G,H⟩ ?_)))))))))))
 rintro i Q ⟨a,hi,p⟩
 refine T (U H (bO) (O (ah (bc H (λC=>?_) (λC=>?_)))))
 ·refine aH (al (ah (aR (T (J H (Z H (O (ah ?_))))))))
  obtain⟨b,e⟩:∃b,b=l[i]'G:=⟨_,rfl⟩
  have y:b∈l:=by rw[e];exact eK _
  rcases hg:g b
  ·refine ap (J H (J H (J H ?_)))
   obtain⟨z,A,q,s,d⟩:=bX (P:=Tryz.prog) (sz:=4) cO am gD G (j.aL a) (i:=i) G .i64
   rw[←e] at d
   obtain⟨K,L,M,rfl,m,n,o⟩:=ey d
   refine bF H (q _) (Y H (s.ld dx H cL) (im H x H H ((by have h:=u b y _ _ (a) (bR.mk (eX m n o));rw[hg] at h;exact h)) ?_))
   rintro D F ⟨t,rfl⟩
   refine O (be H (aH (bE (al (ap (U H cD (J H (f (ew (i+1) (aP H) ⟨(a.ai t),G,S9 G p (by rw[←e];exact hg)⟩ G)))))))))
  ·refine ap (J H (J H (J H ?_)))
   obtain⟨z,A,q,s,d⟩:=bX (P:=Tryz.prog) (sz:=4) cO am gD G (j.aL a) (i:=i) G .i64
   rw[←e] at d
   obtain⟨K,L,M,rfl,m,n,o⟩:=ey d
   refine bF H (q _) (Y H (s.ld dx H cL) (im H x H H ((by have h:=u b y _ _ (a) (bR.mk (eX m n o));rw[hg] at h;exact h)) ?_))
   rintro D F ⟨t,rfl⟩
   refine O (bT H (T (J H (Z H (O (aA (bD (aI (aI (bD (aI (aM H ?_))))))))))))
   exact⟨_,H,(a.ai t),i,H,G,G,⟨λ_=>S8 (i:=i) G p (by rw[←e];exact hg),λ_=>by omega⟩⟩
 ·refine ce (aU (aU (cg (al (T (Z H (O (aA (aM H ?_)))))))))
  exact⟨_,H,a,-1,H,G,G,⟨λh=>absurd h G,λh=>by rw[S6 (i:=i) G p] at h;cases h⟩⟩
theorem QY {l:List bj} {a:FuncId} {g:bj→Bool} (e:aD cy l v w) (d:aY Tryz.prog a) (c:Iy Tryz.prog a cs cy l g w):
 Calls Tryz.prog 205 #[v,.func (.func a) #[] cs.toArray] w (aJ λr w'=>ao w w'∧Is (B (l.any g)) r w'):=by
 refine enter (vs:=[v,.func (.func a) #[] cs.toArray]) Tryz.func205 H H H (T (Z H (bB (J H (J H (aC Uh H H ((Q4 e d c)) ?_))))))
 rintro m n ⟨f,k,rfl,i,j,kc⟩
 refine U H (eU) (Z H (O (aA (aM H ?_))))
 exact⟨_,H,f,by
  show B _=B _
  congr 1
  cases b:l.any g with
  |true=>exact dH (kc.2 b)
  |false=>exact bi λh=>by have:=kc.1 h;rw[b] at this;cases this⟩
theorem YD {t:TypeId} (h:v.cells=[v].toArray):∃g w',(Instr.box t v).run P w=.ok (.pointer (some ⟨g,0,none⟩)) w'∧w.heap.size≤g∧ao w w'∧bm g t [v] w':=
 ⟨_,_,uQ,bV _,ao.new w _,bm.new v h⟩
structure SmG (g:gm):Prop where
 i0:1≤g.inp
 i1:g.inp≤3
 ul:g.us.length≤4
 o0:1≤g.os.length
 o1:g.os.length≤3
 us:∀(j:Nat) (h:j<g.us.length),jk g.us[j] (g.inp+j)=true∧fR g.us[j]≤100
 os:∀f∈g.os,jk f (g.inp+g.us.length)=true∧fR f≤100
theorem Ua:aY Tryz.prog 206:=⟨_,Tryz.func206,am,rfl⟩
theorem Ub:aY Tryz.prog 118:=⟨_,Tryz.func118,am,rfl⟩
theorem FK:aY Tryz.prog 52:=⟨_,Tryz.func52,am,rfl⟩
theorem QU {f:bj} {n:Int} (k:bR cy f v w) (p:bm g1 3 [I n] w) (j:jk f n=true) (g:fR f≤17179869180):
 Calls Tryz.prog 206 #[v,.pointer (some ⟨g1,0,none⟩)] w (aJ λr w'=>ao w w'∧Is (B false) r w'):=by
 obtain⟨_,rfl,s⟩:=k
 obtain⟨c,d,e,rfl,l,m,o⟩:=ey s
 refine enter (vs:=[.agg #[c,B f.ct.sg,d,e],.pointer (some ⟨g1,0,none⟩)]) Tryz.func206 H H H ?_
 have b:=p.cell (i:=0) rfl
 refine T (cE H H λu w2 x a q=>(Z H (bB (Y H (q.ld dx H cL) (Y H (D aE H (a.a0 b)) (aC KF H H ((by have h:=IP (n:=n) (bR.mk (eX (l.aL a) (m.aL a) (o.aL a))) g;rw[j] at h;exact h)) ?_))))))
 rintro y z ⟨t,rfl⟩
 refine cP H cW (Z H (O (aA (aM H ?_))))
 exact⟨_,H,(a.ai t),H⟩
theorem S7 {α:Type} (l:List α):(l.any λ_=>false)=false:=by simp
theorem QW {l:List bj} {n:Int} (a:aD cy l v w) (d:∀f∈l,jk f n=true∧fR f≤17179869180):
 Calls Tryz.prog 118 #[v,I n] w (aJ λr w'=>ao w w'∧Is (B true) r w'):=by
 refine enter Tryz.func118 H H H (T ?_)
 obtain⟨b,q,i,o,e,k⟩:=YD (P:=Tryz.prog) (w:=w) (t:=3) (v:=I n) rfl
 refine nL H i (Z H (bB (J H (lq (us:=[]) (vs:=[.pointer (some ⟨b,0,none⟩)]) H H H (aC Ue H H ((by have h:=QY (g:=λ_=>false) (a.aL e) Ua (cs:=[.pointer (some ⟨b,0,none⟩)]) (λf c W v j a=>QU a (k.aL j) (d f c).1 (d f c).2);rw[S7] at h;exact h)) ?_)))))
 rintro p s ⟨m,rfl⟩
 refine cP H cW (Z H (O (aA (aM H ?_))))
 exact⟨_,H,(e.ai m),H⟩
theorem Sy {x y:Rat} (i:QV x v w) (g:QV y u w):Calls Tryz.prog 60 #[v,u] w (aJ λr w'=>ao w w'∧Is (B (decide (x=y))) r w'):=by
 refine(JG i g).mono λr w' h=>?_
 obtain⟨v,rfl,d,f⟩:=h
 refine⟨v,H,d,f.ai ?_⟩
 congr 1
 refine cA.2 ⟨λ⟨a,b,c⟩=>Yw a b c,λe=>by rw[e];exact⟨H,H,H⟩⟩
structure Kg (p:List Nat) (g:Nat) (w w':World):Prop where
 q:w.grownBy w' (some g)
 m:Kq p w w'
section
variable {p:List Nat} {g:Nat} {w w':World}
theorem Kg.a8 (a:0<p.length) (h:ao w w'):Kg p g w w':=⟨sH h,a,λ_ _ _ r=>r.aL h⟩
theorem Kg.ai {a b c:World} (h:Kg p g a b) (k:Kg p g b c):Kg p g a c:=⟨h.q.ai k.q,h.m.pos,λd cs e r=>k.m.keep d cs e (h.m.keep d cs e r)⟩
theorem Kg.refl (a:0<p.length) (w:World):Kg p g w w:=Kg.a8 a (ao.refl w)
theorem aO.kg (h:aO l v w) (b:Kg p g w w') (a:gP p (.sl (.c 1))=true:=by decide):aO l v w':=h.kq b.m a
theorem aD.kg {α:Type} {f:α→Dt} [s:eO f] {l:List α} (h:aD f l v w) (b:Kg p g w w') (a:gP p (.sl s.sh)=true:=by decide):aD f l v w':=h.kq b.m a
theorem bQ.kg {b:Bool} {n m:List UInt32} {v:Value} (h:bQ b n m v w) (c:Kg p g w w') (a:gP p (.sl (.c 1))=true:=by decide):bQ b n m v w':=by
 obtain⟨x,y,rfl,d,e⟩:=h
 exact⟨x,y,H,d.kg c a,e.kg c a⟩
theorem bR.kg {α:Type} {f:α→Dt} [s:eO f] {a:α} (h:bR f a v w) (b:Kg p g w w') (c:gP p s.sh=true:=by decide):bR f a v w':=by
 obtain⟨cs,rfl,h⟩:=h
 exact⟨cs,H,b.m.keep _ _ (de.off b.m.pos c (s.ok a)) h⟩
theorem bm.kg {b:Nat} {T:TypeId} (k:bm b T cs w) (c:Kg p g w w') (a:b≠g:=by assumption):bm b T cs w':=k.a4 c.q λe=>a (cC e)
theorem Kg.a0 {b:Nat} (d:Kg p g w w') (c:w.cell? ⟨b,i,none⟩=some v) (a:b≠g:=by assumption):w'.cell? ⟨b,i,none⟩=some v:=d.q.cell c λe=>a (cC e)
theorem ez.kg (h:ez w ad cs) (c:Kg p g w w') (a:ad.block≠g:=by assumption):ez w' ad cs:=λj u b=>c.q.cell (h j u b) λe=>a (by rw[vN] at e;exact cC e)
theorem Kgs.ds {α:Type} {f:α→Dt} [s:eO f] {l:List α} (a:gP p (.sl s.sh)=true):eG (Kg p g) (aD f l):=λ_ _ _ h b=>h.kg b a
theorem Kgs.st {α:Type} {f:α→Dt} [s:eO f] {a:α} (b:gP p s.sh=true):eG (Kg p g) (bR f a):=λ_ _ _ h c=>h.kg c b
end
section
variable {α:Type} {f:α→Dt} {l:List α} {v:Value} {w w':World} {e:TypeId} {p:List Nat} {base:Nat} {P:Program}
theorem Kq.all (m:Kq p w w'):∀{l:List Dt} {xs:List Value},eF p l→bG w l xs→bG w' l xs
 |[],xs,_,h=>by simpa only[bG] using h
 |d::l,xs,ho,h=>by
  simp only[bG,eF] at h ho⊢
  obtain⟨a,b,c,e,f⟩:=h
  exact⟨a,b,c,m.keep _ _ ho.1 e,Kq.all m ho.2 f⟩
end
def dBo (b:Bool):Dt:=.bool b
instance:eO dBo:=⟨.c 0,λ_=>by simp only[dBo,de]⟩
section
variable {w w':World} {cs:List Value}
theorem WK:(Tryz.prog.info? 4).map (λi=>(i.zero,i.size,i.bytes))=some (some (B false),[0].length,1):=by kernel_rfl
end
theorem sZ {a b c d:Value}:(Instr.extract (.tuple #[a,b,c,d]) 0).run P w=.ok a w:=rfl
theorem tc {a b c d:Value}:(Instr.extract (.tuple #[a,b,c,d]) 1).run P w=.ok b w:=rfl
theorem td {a b c d:Value}:(Instr.extract (.tuple #[a,b,c,d]) 2).run P w=.ok c w:=rfl
theorem te {a b c d:Value}:(Instr.extract (.tuple #[a,b,c,d]) 3).run P w=.ok d w:=rfl
section
variable {α:Type} {f:α→Dt} {l:List α} {b b':Nat} {v u u':Value} {w w':World} {p:List Nat}
def jC (b:Nat) (f:α→Dt) (l:List α):cT:=λv w=>aD f l v w∧∀k,v.ownBlock=some k→b≤k
theorem jC.aL (h:jC b f l v w) (a:ao w w'):jC b f l v w':=⟨h.1.aL a,h.2⟩
theorem jC.a3 (b:Nat) (f:α→Dt) (l:List α):cN (jC b f l):=λ_ _ _ h a=>h.aL a
theorem jC.kd (h:jC b f l v w):Go.Rl.kd v=3:=h.1.kd
theorem jC.kq [s:eO f] (h:jC b f l v w) (m:Kq p w w') (a:gP p (.sl s.sh)=true:=by decide):jC b f l v w':=⟨h.1.kq m a,h.2⟩
theorem Kgs.fr [s:eO f] (a:gP p (.sl s.sh)=true):eG (Kg p g) (jC b f l):=λ_ _ _ h c=>⟨h.1.kg c a,h.2⟩
theorem jC.st [s:eO f] (h:jC b f l v w) (K:g<b) (q:w.grownBy w' (some g)) (m:Kq p w w') (C:gP p s.sh=true):jC b f l v w':=by
 refine⟨?_,h.2⟩
 have d:=h.1
 unfold aD at d⊢
 simp only[Rp] at d⊢
 obtain⟨A,n,c,F,i,k,o,r,t⟩:=d
 obtain⟨rfl⟩:v=.slice A n c:=by simpa using F
 refine⟨A,n,c,H,i,k,o,r,λz=>?_⟩
 obtain⟨ad,xs,u,x,D⟩:=t z
 subst u
 refine⟨ad,xs,H,λj u' y=>?_,Kq.all m (eF.of λa _=>de.off m.pos C (s.ok a)) D⟩
 exact q.cell (x j u' y) λe=>by
  rw[vN] at e
  have G:=h.2 _ rfl
  have J:=cC e
  omega
end
theorem SmG.up {g:gm} (h:SmG g):∀f∈g.us,jk f (g.inp+g.us.length)=true∧fR f≤100:=λf b=>by
 obtain⟨j,c,rfl⟩:=List.mem_iff_getElem.1 b
 have a:=h.us j c
 exact⟨Dc G a.1,a.2⟩
section
variable {w w':World} {g:Nat} {raw:List UInt8} {va:Value}
theorem Ww (h:cV raw va w):kd va=3:=by obtain⟨A,n,c,rfl,_⟩:=h;rfl
theorem cV.kd (h:cV raw va w):kd va=3:=Ww h
end
section
variable {α:Type} {f:α→Dt} {l:List α} {v u u':Value} {w w':World} {e:TypeId} {p q:List Nat} {base:Nat}
theorem bC.ca [s:eO f] (L:∀a,fe p (f a)) (h:bC e p base f l v w) (g:d9 w w' u u') (m:Kq q w w') (o:∀k,u.ownBlock=some k→v.ownBlock≠some k) (K:gP q s.sh=true):bC e p base f l v w'∧∀k,u'.ownBlock=some k→v.ownBlock≠some k:=by
 obtain⟨⟨n,xs,j,C⟩,D⟩:=h
 have J:v.ownBlock=none∨v.ownBlock≠u.ownBlock:=by
  cases i:v.ownBlock with
  |none=>exact .inl rfl
  |some k=>exact .inr λe=>o k e.symm i
 have r:w'.ownsRow base e p.length v n xs:=World.ownsRow.kept j g.grown J
 have b:vt p v w':=λk cur ty fr b G=>D k cur ty fr b (by
  rw[←g.grown.block k (World.ownsRow.lt j k b).2 (λe=>o k e.symm b)];exact G)
 have F:∀{l:List α} {xs:List Value},bG w (l.map f) xs→bG w' (l.map f) xs:=by
  intro l
  induction l with
  |nil=>intro xs h;simpa only[nW,bG] using h
  |cons a l M=>
   intro xs h
   simp only[iy,bG] at h⊢
   obtain⟨y,z,A,d,c⟩:=h
   exact⟨y,z,A,m.keep _ _ (de.off m.pos K (s.ok a)) d,M c⟩
 have d:=bG.x (F C.rp)
 refine⟨⟨⟨n,xs,r,?_⟩,b⟩,λk x i=>?_⟩
 ·rcases r.2 with c|⟨g',N,cur,rfl,_,t,_⟩
  ·rw[c.1]
   exact d.bd λk b=>b.elim (λh=>h.elim) λh=>by simp[Value.ownBlock] at h
  ·refine(eF.rp t (b g' cur _ _ H t) (eF.of λa _=>L a) d).bd λk b=>.inl ?_
   exact b.elim (λh=>h.elim) λh=>.inr (by simpa [Value.ownBlock] using h.symm)
 ·rcases g.own with c|c
  ·exact o k (c▸x) i
  ·have:=c k x
   have:=(World.ownsRow.lt j k i).2
   omega
theorem bC.fa {b:Nat} (h:bC e p base f l v w) (c:aD f l v w) (a:b≤base):jC b f l v w:=⟨c,λk d=>cf a (h.ge k d)⟩
end
theorem yR {l:Fr} {R:Ending→World→Prop} {t s r q:Tmp} (c:fn.results= #[.tmp t,.tmp s,.tmp r,.tmp q]) (e:lk l t=some v) (d:lk l s=some u) (g:lk l r=some z) (f:lk l q=some y) (h:R (.returned (.tuple #[v,u,z,y])) w):gZ (bodyPost P fn R) N [] l w .ret:=λa b=>
 ⟨b.defers,.tuple #[v,u,z,y],by simp only[results,c];simp[←b.at_ t v e,←b.at_ s u d,←b.at_ r z g,←b.at_ q y f],h⟩
section
variable {w w':World} {cs:List Value}
theorem Gz:(Tryz.prog.info? 3).map (λi=>(i.zero,i.size,i.bytes))=some (some (I 0),[2].length,8):=by kernel_rfl
theorem MD:(Tryz.prog.info? 3).map (λi=>(i.zero,i.size))=some (some (I 0),[2].length):=by kernel_rfl
abbrev pr (base:Nat) (l:List Int):cT:=bC 3 [2] base bJ l
theorem X6 (a:Int):fe [2] (bJ a):=rj a
theorem A7 {base:Nat} {l m:List Int} {x:Value} (h:pr base l v w) (b:aD bJ m x w) (c:l.length+m.length≤1099511627776) (a:base≤w.heap.size):
 ∃r w1,(Builtin.append_ #[22,22] ty #[v,x]).run Tryz.prog w=.ok r w1∧pr base (l++m) r w1∧d9 w w1 v r:=
 bC.c4 cd Gz rfl rfl aF G (λ_=>rfl) X6 h b G a
theorem pr.bY {base:Nat} {l:List Int} (h:pr base l v w):aD bJ l v w:=h.ds (λ_=>rfl) aF
theorem tQ (a:Int):∃r w',(Instr.buildSlice 22 1 #[(0,I a)]).run Tryz.prog w=.ok r w'∧ao w w'∧aD bJ [a] r w':=by
 have e:∀u∈[I a],u.oneCell'=true:=λu f=>by
  obtain rfl:u=I a:=by simpa using f
  rfl
 obtain⟨r,w',b,c,d,_⟩:=sX (P:=Tryz.prog) (w:=w) (base:=w.heap.size) cd Gz [I a] e aj (bV _)
 exact⟨r,w',b,c,Rp.cc (Sl.b2 d) (bG.a1 (wJ a) bG.nil) (by simp[el]) G⟩
theorem tP (a b c:Int):∃r w',(Instr.buildSlice 22 3 #[(0,I a),(1,I b),(2,I c)]).run Tryz.prog w=.ok r w'∧ao w w'∧aD bJ [a,b,c] r w':=by
 have g:∀u∈[I a,I b,I c],u.oneCell'=true:=λu h=>by
  rcases(by simpa using h:u=I a∨u=I b∨u=I c) with rfl|rfl|rfl<;>rfl
 obtain⟨r,w',d,e,f,_⟩:=sX (P:=Tryz.prog) (w:=w) (base:=w.heap.size) cd Gz [I a,I b,I c] g aj (bV _)
 exact⟨r,w',d,e,Rp.cc (Sl.b2 f) (bG.a1 (wJ a) (bG.a1 (wJ b) (bG.a1 (wJ c) bG.nil))) (by simp[el]) G⟩
def fN (l:List Int):Dt:=.sl (l.map bJ)
theorem lR (l:List Int):(fN l).size=1:=rfl
theorem mi {l:List Int} (h:Rp w (fN l) cs):∃v,cs=[v]∧aD bJ l v w:=y7 h
theorem VR {l:List Int} (h:aD bJ l v w):Rp w (fN l) [v]:=h
instance:eO fN:=⟨.sl (.c 2),λa=>by
 simp only[fN,de]
 intro d hd
 obtain⟨x,_,rfl⟩:=fF.1 hd
 simp only[bJ,de,pc]⟩
theorem MF:(Tryz.prog.info? 22).map (λi=>(i.zero,i.size,i.bytes))=some (some (.slice none 0 0),[3].length,24):=by kernel_rfl
abbrev lJ (base:Nat) (l:List (List Int)):cT:=bC 22 [3] base fN l
theorem X7 (a:List Int):fe [3] (fN a):=yM (λ_=>rj _) (λ_ _=>pk.not aF _)
theorem Dg {base:Nat} {l m:List (List Int)} {x:Value} (h:lJ base l v w) (b:aD fN m x w) (c:l.length+m.length≤1099511627776) (a:base≤w.heap.size):
 ∃r w1,(Builtin.append_ #[80,80] ty #[v,x]).run Tryz.prog w=.ok r w1∧lJ base (l++m) r w1∧d9 w w1 v r:=
 bC.c4 gC MF rfl rfl aF G (λ_=>rfl) X7 h b G a
theorem lJ.bY {base:Nat} {l:List (List Int)} (h:lJ base l v w):aD fN l v w:=h.ds (λ_=>rfl) aF
theorem CT {a:List Int} (h:aD bJ a v w):∃r w',(Instr.buildSlice 80 1 #[(0,v)]).run Tryz.prog w=.ok r w'∧ao w w'∧aD fN [a] r w':=by
 obtain⟨A,n,c,rfl⟩:=h.a9
 have f:∀u∈[Value.slice A n c],u.oneCell'=true:=λu g=>by
  obtain rfl:u=.slice A n c:=by simpa using g
  rfl
 obtain⟨r,w',d,b,e,_⟩:=sX (P:=Tryz.prog) (w:=w) (base:=w.heap.size) gC MF [Value.slice A n c] f aj (bV _)
 exact⟨r,w',d,b,Rp.cc (Sl.b2 e) (bG.a1 (VR (h.aL b)) bG.nil) (by simp[lR]) G⟩
end
theorem Ku:aY Tryz.prog 275:=⟨_,Tryz.func275,am,rfl⟩
theorem se:aY Tryz.prog 175:=⟨_,Tryz.func175,am,rfl⟩
def nw (h w:Int) (ch:Nat) (y x:Int):Int:=if 0≤y∧y<h∧0≤x∧x<w then((ch:Int)*h+y)*w+x else-1
def xA (h w:Int) (kw:Nat) (st pad:Int) (r c ch i:Nat):List Int:=(List.range kw).map λk:Nat=>nw h w ch ((r:Int)*st+(i:Int)-pad) ((c:Int)*st+(k:Int)-pad)
def zf (h w:Int) (kh kw:Nat) (st pad:Int) (r c ch:Nat):List Int:=(List.range kh).flatMap (xA h w kw st pad r c ch)
def ub (n:Nat) (h w:Int) (kh kw:Nat) (st pad:Int) (r c:Nat):List Int:=(List.range n).flatMap (zf h w kh kw st pad r c)
def xz (n:Nat) (h w:Int) (kh kw:Nat) (st pad:Int) (cols r:Nat):List (List Int):=(List.range cols).map (ub n h w kh kw st pad r)
def ke (n:Nat) (h w:Int) (kh kw:Nat) (st pad:Int) (rows cols:Nat):List (List Int):=(List.range rows).flatMap (xz n h w kh kw st pad cols)
theorem wv {α:Type} {f:Nat→List α}:(List.range (n+1)).flatMap f=(List.range n).flatMap f++f n:=by
 rw[BI,IT];simp
theorem yH {α:Type} {f:Nat→α}:(List.range (n+1)).map f=(List.range n).map f++[f n]:=by
 rw[BI,mg];rfl
theorem AB {α:Type} {f:Nat→List α} {b:Nat} (h:∀i,(f i).length≤b):∀n,((List.range n).flatMap f).length≤n*b
 |0=>by simp
 |n+1=>by
  rw[wv,cr,nZ]
  have:=AB h n
  have:=h n
  omega
theorem Ie {w:Int} {st pad:Int} {r c:Nat}:(xA h w kw st pad r c ch i).length=kw:=by unfold xA;simp
theorem aaF {w:Int} {st pad:Int} {r c:Nat}:(zf h w kh kw st pad r c ch).length≤kh*kw:=AB (λ_=>xP Ie) kh
def jA (h w:Int) (kh kw:Nat) (st pad:Int) (r c ch i k:Nat):List Int:=(List.range ch).flatMap (zf h w kh kw st pad r c)++((List.range i).flatMap (xA h w kw st pad r c ch)++(List.range k).map λk:Nat=>nw h w ch ((r:Int)*st+(i:Int)-pad) ((c:Int)*st+(k:Int)-pad))
theorem Ic {w:Int} {st pad:Int} {r c:Nat}:jA h w kh kw st pad r c ch i (k+1)=jA h w kh kw st pad r c ch i k++[nw h w ch ((r:Int)*st+(i:Int)-pad) ((c:Int)*st+(k:Int)-pad)]:=by
 unfold jA;rw[yH,fh,fh]
theorem PR {w:Int} {st pad:Int} {r c:Nat}:jA h w kh kw st pad r c ch (i+1) 0=jA h w kh kw st pad r c ch i kw:=by
 unfold jA;rw[wv];simp[xA]
theorem PQ {w:Int} {st pad:Int} {r c:Nat}:jA h w kh kw st pad r c (ch+1) 0 0=jA h w kh kw st pad r c ch kh 0:=by
 unfold jA;rw[wv];simp[zf]
theorem PO {w:Int} {st pad:Int} {r c:Nat}:jA h w kh kw st pad r c 0 0 0=[]:=by unfold jA;simp
theorem PT {w:Int} {st pad:Int} {r c:Nat}:jA h w kh kw st pad r c n 0 0=ub n h w kh kw st pad r c:=by unfold jA ub;simp
theorem PS {w:Int} {st pad:Int} {r c:Nat} (d:kh≤64) (a:kw≤64) (j:ch≤16384) (l:i≤64) (m:k≤64):(jA h w kh kw st pad r c ch i k).length≤70000000:=by
 unfold jA
 rw[cr,cr,dN,uh]
 have e:=AB (f:=zf h w kh kw st pad r c) (b:=4096) (λ_=>cf aaF (gi d a)) ch
 have g:=AB (f:=xA h w kw st pad r c ch) (b:=64) (λ_=>by rw[Ie];exact a) i
 omega
def mc (n:Nat) (h w:Int) (kh kw:Nat) (st pad:Int) (cols r c:Nat):List (List Int):=(List.range r).flatMap (xz n h w kh kw st pad cols)++(List.range c).map (ub n h w kh kw st pad r)
theorem PU {w:Int} {st pad:Int} {a r c:Nat}:mc n h w kh kw st pad a r (c+1)=mc n h w kh kw st pad a r c++[ub n h w kh kw st pad r c]:=by
 unfold mc;rw[yH,fh]
theorem PX {w:Int} {st pad:Int} {a r:Nat}:mc n h w kh kw st pad a (r+1) 0=mc n h w kh kw st pad a r a:=by
 unfold mc;rw[wv];simp[xz]
theorem D6 {w:Int} {st pad:Int} {a r:Nat}:mc n h w kh kw st pad a r 0=ke n h w kh kw st pad r a:=by unfold mc ke;simp
theorem PV {w:Int} {st pad:Int} {a r c:Nat}:(mc n h w kh kw st pad a r c).length≤r*a+c:=by
 unfold mc
 rw[cr,dN,uh]
 have:=AB (f:=xz n h w kh kw st pad a) (b:=a) (λ_=>by unfold xz;simp) r
 omega
theorem Dl {a s i p:Int} (c:0≤a) (b:a≤262144) (j:1≤s) (hs:s≤64) (f:0≤i) (hi:i≤64) (h:0≤p) (g:p≤64): -64≤a*s+i-p∧a*s+i-p≤20000000∧0≤a*s∧a*s≤16777216:=by
 have d:0≤a*s:=iI c G
 have e:a*s≤262144*64:=gz b hs G G
 omega
theorem vc {n d:Int} (hs:dF [n,h,d]=true):(1≤n∧n≤16384)∧(1≤h∧h≤16384)∧(1≤d∧d≤16384):=by
 obtain⟨_,a⟩:=vd hs
 simp only[iG,ex,gI] at a
 omega
theorem Yp {c y d:Int} (f:0≤c) (e:c≤16384) (b:0≤h) (i:h≤16384) (o:0≤y) (n:y≤16384) (a:0≤d) (g:d≤16384):0≤c*h∧c*h≤268435456∧0≤(c*h+y)*d∧(c*h+y)*d≤4398314962944:=by
 have j:0≤c*h:=iI f b
 have k:c*h≤16384*16384:=gz e i b G
 have l:0≤(c*h+y)*d:=iI G a
 have m:(c*h+y)*d≤268451840*16384:=gz G g a G
 omega
theorem Cu {a s:Int} (b:0≤a) (hs:1≤s):0≤a/s∧a/s≤a:=⟨Int.ediv_nonneg b G,Int.ediv_le_self _ b⟩
structure iP (n h d:Int) (kh kw:Nat) (st pad:Int) (R C:Nat):Prop where
 ok:dF [n,h,d]=true
 k1:1≤kh∧kh≤64
 k2:1≤kw∧kw≤64
 s:1≤st∧st≤64
 p:0≤pad∧pad<kh∧pad<kw
 f1:(kh:Int)≤h+2*pad
 f2:(kw:Int)≤d+2*pad
 r:(R:Int)=(h+2*pad-kh)/st+1
 c:(C:Int)=(d+2*pad-kw)/st+1
 l:(R:Int)*C*n*kh*kw≤262144
theorem In {n d st pad:Int} (x:aD bJ [n,h,d] v w) (g:iP n h d kh kw st pad R C):
 Calls Tryz.prog 275 #[v,I (kh:Int),I (kw:Int),I st,I pad] w (aJ λr w'=>ao w w'∧∃u,r=.tuple #[u,I (R:Int),I (C:Int),I 0]∧lJ w.heap.size (ke n.toNat h d kh kw st pad R C) u w'):=by
 obtain⟨o,K⟩:∃o,o=[n,h,d]:=⟨_,rfl⟩
 have b7:o.length=3:=by rw[K];rfl
 have aZ:dF o=true:=by rw[K];exact g.ok
 have hn:n=o[0]'G:=by subst K;rfl
 have hh:h=o[1]'G:=by subst K;rfl
 have hd:d=o[2]'G:=by subst K;rfl
 rw[←K] at x
 obtain⟨⟨b9,aY⟩,⟨b1,b2⟩,⟨bU,bV⟩⟩:=vc g.ok
 obtain⟨b3,b4⟩:=g.k1
 obtain⟨b5,b6⟩:=g.k2
 obtain⟨S,ae⟩:=g.s
 obtain⟨ar,ca,cb⟩:=g.p
 have bZ:=g.f1
 have b0:=g.f2
 have hr:=g.r
 have hc:=g.c
 have b8:=g.l
 have bY:=Cu (a:=h+2*pad-kh) (s:=st) G S
 have bW:=Cu (a:=d+2*pad-kw) (s:=st) G S
 have bR:R≤20000:=G
 have aN:C≤20000:=G
 have m1:0≤(R:Int)*C∧(R:Int)*C≤20000*20000:=⟨iI G G,gz G G G G⟩
 have m2:0≤(R:Int)*C*n∧(R:Int)*C*n≤400000000*16384:=⟨iI m1.1 G,gz m1.2 aY G G⟩
 have m3:0≤(R:Int)*C*n*kh∧(R:Int)*C*n*kh≤6553600000000*64:=⟨iI m2.1 G,gz m2.2 G G G⟩
 have m4:0≤(R:Int)*C*n*kh*kw∧(R:Int)*C*n*kh*kw≤419430400000000*64:=⟨iI m3.1 G,gz m3.2 G G G⟩
 refine enter Tryz.func275 H H H (T (Z H (Z H (Z H (Z H (O (ah (T (J H (aC ye H H ((by have h:=xD (l:=o) x;rw[aZ] at h;exact h)) ?_))))))))))
 rintro co bl ⟨br,rfl⟩
 refine cP H cW (J H (V H (J H (V H (aC FJ H H ((by have h:=Ed (n:=(kh:Int)) (w:=bl);rw[dH (show(1:Int)≤kh by omega),dH (show(kh:Int)≤64 by omega)] at h;exact h)) ?_)))))
 rintro cp bm ⟨bs,rfl⟩
 refine V H (cP H cW (t H (J H (V H (J H (V H (aC FJ H H ((by have h:=Ed (n:=(kw:Int)) (w:=bm);rw[dH (show(1:Int)≤kw by omega),dH (show(kw:Int)≤64 by omega)] at h;exact h)) ?_)))))))
 rintro cr bo ⟨bt,rfl⟩
 refine V H (cP H cW (t H (J H (V H (J H (V H (aC FJ H H ((by have h:=Ed (n:=st) (w:=bo);rw[dH S,dH ae] at h;exact h)) ?_)))))))
 rintro cs cx ⟨bu,rfl⟩
 refine V H (cP H cW (t H (J H (V H (J H (V H (U H (aX G bO) (t H (J H (V H (J H (V H (J H (V H (U H (aX G eU) (t H (J H (V H (J H (V H (J H (V H (U H (aX G eU) (t H (O (be H (aH (al (ah (ah ?_))))))))))))))))))))))))))))))
 have A:=((br.ai bs).ai bt).ai bu
 refine ap (J H (aW H (bP cd (x.aL A)) (U H (aX G dZ) (J H (V H (J H (V H (J H (V H ?_)))))))))
 obtain⟨bz,bK,a9,bg,ai⟩:=bX (P:=Tryz.prog) (sz:=1) cd am el G (x.aL A) (i:=1) (G) .i64
 rw[←hh] at ai
 obtain rfl:=er ai
 refine bF H (a9 _) (V H (au H (D aE H bg.cell0) (V H (J H (V H (U H (dh G G) (V H (U H dB (V H (U H (aX G cY) (t H (J H (V H (J H (V H (J H (V H ?_)))))))))))))))))
 obtain⟨bD,bL,ba,bh,aj⟩:=bX (P:=Tryz.prog) (sz:=1) cd am el G (x.aL A) (i:=2) (G) .i64
 rw[←hd] at aj
 obtain rfl:=er aj
 refine bF H (ba _) (V H (au H (D aE H bh.cell0) (V H (J H (V H (U H (dh G G) (V H (U H dB (V H (U H (aX G cY) (t H (O (be H (aH (al (ah (cz 11 [1,2,3,4,14,15,92] am am (W H ?_))))))))))))))))))
 obtain⟨bG,bM,bb,bi,ak⟩:=bX (P:=Tryz.prog) (sz:=1) cd am el G (x.aL A) (i:=0) (G) .i64
 rw[←hn] at ak
 obtain rfl:=er ak
 refine cF H (λw _=>bb w) (aQ H (λw hw=>D aE H (hw.a0 bi.cell0)) (W H ?_))
 obtain⟨bH,bN,bd,bj,an⟩:=bX (P:=Tryz.prog) (sz:=1) cd am el G (x.aL A) (i:=1) (G) .i64
 rw[←hh] at an
 obtain rfl:=er an
 refine cF H (λw _=>bd w) (aQ H (λw hw=>D aE H (hw.a0 bj.cell0)) (W H ?_))
 obtain⟨bI,bQ,bf,bk,aq⟩:=bX (P:=Tryz.prog) (sz:=1) cd am el G (x.aL A) (i:=2) (G) .i64
 rw[←hd] at aq
 obtain rfl:=er aq
 refine cF H (λw _=>bf w) (aQ H (λw hw=>D aE H (hw.a0 bk.cell0)) (gK H (gK H (cq ?_))))
 rintro cy bw _ rfl _ rfl _ rfl _ rfl _ rfl _ rfl _ rfl
 refine Z H (O (ah (cz 19 [1,2,3,4,14,15,16,17,110] am am (W H (W H (bn (r:=I (2*pad)) H (λw _=>by have e:(2*pad:Int)=2*pad:=G;rw[e];exact dh G G) (bn (r:=I (h+2*pad)) H (λw _=>by have e:(h+2*pad:Int)=h+(2*pad):=G;rw[e];exact dB) (W H (bn (r:=I (h+2*pad-(kh:Int))) H (λw _=>by have e:(h+2*pad-(kh:Int):Int)=(h+2*pad)-(kh:Int):=G;rw[e];exact dM) (W H (sF (r:=I ((h+2*pad-(kh:Int))/st)) H H H (λw _=>by have e:((h+2*pad-(kh:Int))/st:Int)=(h+2*pad-(kh:Int))/st:=G;rw[e];exact tf G G G) (bn (r:=I ((R:Int))) H (λw _=>by have e:((R:Int):Int)=((h+2*pad-(kh:Int))/st)+1:=G;rw[e];exact dB) (W H (W H (bn (r:=I (2*pad)) H (λw _=>by have e:(2*pad:Int)=2*pad:=G;rw[e];exact dh G G) (bn (r:=I (d+2*pad)) H (λw _=>by have e:(d+2*pad:Int)=d+(2*pad):=G;rw[e];exact dB) ?_))))))))))))))))
 refine W H (bn (r:=I (d+2*pad-(kw:Int))) H (λw _=>by have e:(d+2*pad-(kw:Int):Int)=(d+2*pad)-(kw:Int):=G;rw[e];exact dM) (W H (sF (r:=I ((d+2*pad-(kw:Int))/st)) H H H (λw _=>by have e:((d+2*pad-(kw:Int))/st:Int)=(d+2*pad-(kw:Int))/st:=G;rw[e];exact tf G G G) (bn (r:=I ((C:Int))) H (λw _=>by have e:((C:Int):Int)=((d+2*pad-(kw:Int))/st)+1:=G;rw[e];exact dB) (gK H (cq ?_))))))
 rintro cA bx _ rfl _ rfl _ rfl _ rfl _ rfl _ rfl _ rfl _ rfl _ rfl
 refine Z H (O (ah (T (J H (J H (U H (dh G G) (J H (U H (dh G G) (J H (U H (dh G G) (J H (U H (dh G G) (U H (aX G cY) (O (be H (aH (al (T (Z H (O (ah (T (J H (J H (O (aR (fp (λ(r:Nat) (M:Value)=>[(1,I (kh:Int)),(2,I (kw:Int)),(3,I st),(4,I pad),(14,I n),(15,I h),(16,I d),(17,I (R:Int)),(18,I (C:Int)),(19,M),(121,I (R:Int)),(122,I (r:Int))]) (λ(r:Nat) (M:Value) w'=>ao w w'∧r≤R∧lJ w.heap.size (mc n.toNat h d kh kw st pad C r 0) M w') (λ(r:Nat) (M:Value)=>R-r) (0) (.slice none 0 0) (aP H) ⟨((A.ai bw).ai bx),G,by rw[D6];exact bC.nil _⟩ ?_)))))))))))))))))))))))))))
 rintro r M wA ⟨eA,cc,q⟩
 refine T (U H (bO) (O (ah (bc H (λax=>?_) (λax=>?_)))))
 ·refine aH (al (ah (aR (T (J H (Z H (bB (J H (J H (O (aR ?_)))))))))))
  refine fp (λ(c:Nat) (m:Value)=>[(1,I (kh:Int)),(2,I (kw:Int)),(3,I st),(4,I pad),(14,I n),(15,I h),(16,I d),(17,I (R:Int)),(18,I (C:Int)),(19,m),(20,I (r:Int)),(121,I (R:Int)),(122,I (r:Int)),(125,I (C:Int)),(126,I (c:Int))]) (λ(c:Nat) (m:Value) w'=>ao w w'∧c≤C∧lJ w.heap.size (mc n.toNat h d kh kw st pad C r c) m w') (λ(c:Nat) (m:Value)=>C-c) (0) (M) (aP H) ⟨eA,G,q⟩ ?_
  rintro c m N ⟨eB,bS,q⟩
  refine ah ?_
  have a0:(mc n.toNat h d kh kw st pad C r c).length≤400100000:=cf PV (by have:=gi (show r≤20000 by omega) aN;omega)
  obtain⟨QQ,ad⟩:∃QQ,QQ=mc n.toNat h d kh kw st pad C r c:=⟨_,rfl⟩
  rw[←ad] at q a0
  refine ap (U H (bO) (O (ah (bc H (λay=>?_) (λay=>?_)))))
  ·refine aH (al (ah (aR (T (J H (Z H (bB (Z H (O (ah (T (J H (J H ?_)))))))))))))
   refine O (aR (fp (λ(ch:Nat) (v1:Value)=>[(1,I (kh:Int)),(2,I (kw:Int)),(3,I st),(4,I pad),(14,I n),(15,I h),(16,I d),(17,I (R:Int)),(18,I (C:Int)),(19,m),(20,I (r:Int)),(21,I (c:Int)),(22,v1),(121,I (R:Int)),(122,I (r:Int)),(125,I (C:Int)),(126,I (c:Int)),(129,I n),(130,I (ch:Int))]) (λ(ch:Nat) (v1:Value) w'=>ao N w'∧ch≤n.toNat∧pr N.heap.size (jA h d kh kw st pad r c ch 0 0) v1 w') (λ(ch:Nat) (v1:Value)=>n.toNat-ch) (0) (.slice none 0 0) (aP H) ⟨ao.refl _,G,by rw[PO];exact bC.nil _⟩ ?_))
   rintro ch v1 wC ⟨F,bT,b⟩
   refine T (U H (bO) (O (ah (bc H (λaz=>?_) (λaz=>?_)))))
   ·refine aH (al (ah (aR (T (J H (Z H (bB (J H (J H (O (aR ?_)))))))))))
    refine fp (λ(i:Nat) (v2:Value)=>[(1,I (kh:Int)),(2,I (kw:Int)),(3,I st),(4,I pad),(14,I n),(15,I h),(16,I d),(17,I (R:Int)),(18,I (C:Int)),(19,m),(20,I (r:Int)),(21,I (c:Int)),(22,v2),(23,I (ch:Int)),(121,I (R:Int)),(122,I (r:Int)),(125,I (C:Int)),(126,I (c:Int)),(129,I n),(130,I (ch:Int)),(133,I (kh:Int)),(134,I (i:Int))]) (λ(i:Nat) (v2:Value) w'=>ao N w'∧i≤kh∧pr N.heap.size (jA h d kh kw st pad r c ch i 0) v2 w') (λ(i:Nat) (v2:Value)=>kh-i) (0) (v1) (aP H) ⟨F,G,b⟩ ?_
    rintro i v2 wD ⟨eD,hi,b⟩
    refine T (U H (bO) (O (ah (bc H (λaB=>?_) (λaB=>?_)))))
    ·refine aH (al (ah (aR (T (J H (Z H (bB (J H (J H (O (aR ?_)))))))))))
     refine fp (λ(k:Nat) (v3:Value)=>[(1,I (kh:Int)),(2,I (kw:Int)),(3,I st),(4,I pad),(14,I n),(15,I h),(16,I d),(17,I (R:Int)),(18,I (C:Int)),(19,m),(20,I (r:Int)),(21,I (c:Int)),(22,v3),(23,I (ch:Int)),(24,I (i:Int)),(121,I (R:Int)),(122,I (r:Int)),(125,I (C:Int)),(126,I (c:Int)),(129,I n),(130,I (ch:Int)),(133,I (kh:Int)),(134,I (i:Int)),(137,I (kw:Int)),(138,I (k:Int))]) (λ(k:Nat) (v3:Value) w'=>ao N w'∧k≤kw∧pr N.heap.size (jA h d kh kw st pad r c ch i k) v3 w') (λ(k:Nat) (v3:Value)=>kw-k) (0) (v2) (aP H) ⟨eD,G,b⟩ ?_
     rintro k v3 wE ⟨eE,hk,b⟩
     refine ah ?_
     obtain⟨PP,Q⟩:∃PP,PP=jA h d kh kw st pad r c ch i k:=⟨_,rfl⟩
     rw[←Q] at b
     refine ap (U H (bO) (O (ah (bc H (λaG=>?_) (λaG=>?_)))))
     ·refine aH (al (ah (aR (T (J H (Z H (O (ah ?_))))))))
      have hy:=Dl (a:=(r:Int)) (s:=st) (i:=(i:Int)) (p:=pad) G G S ae G G ar G
      have hx:=Dl (a:=(c:Int)) (s:=st) (i:=(k:Int)) (p:=pad) G G S ae G G ar G
      have a6:=PS (h:=h) (w:=d) (kh:=kh) (kw:=kw) (st:=st) (pad:=pad) (r:=r) (c:=c) (ch:=ch) (i:=i) (k:=k) G G G G G
      rw[←Q] at a6
      obtain⟨Y,hY⟩:∃Y,Y=(r:Int)*st+(i:Int)-pad:=⟨_,rfl⟩
      obtain⟨X,hX⟩:∃X,X=(c:Int)*st+(k:Int)-pad:=⟨_,rfl⟩
      refine ap (J H (J H (U H (dh G G) (J H (U H dB (J H (U (r:=I (Y)) H (by have e:(Y:Int)=(((r:Int)*st)+(i:Int))-pad:=G;rw[e];exact dM) (J H (J H (U H (dh G G) (J H (U H dB (J H (U (r:=I (X)) H (by have e:(X:Int)=(((c:Int)*st)+(k:Int))-pad:=G;rw[e];exact dM) (Z H (Z H (bB (Z H (O (ah (iS (λz:Int=>[(1,I (kh:Int)),(2,I (kw:Int)),(3,I st),(4,I pad),(14,I n),(15,I h),(16,I d),(17,I (R:Int)),(18,I (C:Int)),(19,m),(20,I (r:Int)),(21,I (c:Int)),(22,v3),(23,I (ch:Int)),(24,I (i:Int)),(28,I z),(121,I (R:Int)),(122,I (r:Int)),(125,I (C:Int)),(126,I (c:Int)),(129,I n),(130,I (ch:Int)),(133,I (kh:Int)),(134,I (i:Int)),(137,I (kw:Int)),(138,I (k:Int))]) (λz w'=>wE=w'∧z=nw h d ch Y X) ?_ ?_)))))))))))))))))))))
      ·refine T (J H (U H (eU) (J H ?_)))
       refine cK (λaI=>?_) (λaI=>?_)
       ·refine V H (J H (V H (J H (V H (U H (bO) (bA H (J H ?_)))))))
        refine cK (λaK=>?_) (λaK=>?_)
        ·refine V H (J H (V H (U H (eU) (bA H (J H ?_)))))
         refine cK (λaL=>?_) (λaL=>?_)
         ·refine V H (J H (V H (J H (V H (U H (bO) (bA H (O ?_)))))))
          refine bc H (λaM=>?_) (λaM=>?_)
          ·have hq:=Yp (c:=(ch:Int)) (h:=h) (y:=Y) (d:=d) G G G G G G G G
           refine ap (J H (J H (U H (dh G G) (J H (U H dB (J H (U H (dh G G) (J H (jP (r:=I (((ch:Int)*h+Y)*d+X)) H H H (by have e:(((ch:Int)*h+Y)*d+X:Int)=((((ch:Int)*h)+(Y))*d)+(X):=G;rw[e];exact dB) (Z H (f ?_)))))))))))
           exact eu (_) (aP H) ⟨H,by unfold nw;first|rw[if_neg G]|(rw[if_pos ⟨G,G,G,G⟩])⟩
          ·refine aH ?_
           exact eu (_) (aP H) ⟨H,by unfold nw;first|rw[if_neg G]|(rw[if_pos ⟨G,G,G,G⟩])⟩
         ·refine L H (L H (L H (t H (O (be H (aH ?_))))))
          exact eu (_) (aP H) ⟨H,by unfold nw;first|rw[if_neg G]|(rw[if_pos ⟨G,G,G,G⟩])⟩
        ·refine L H (L H (t H (J H (L H (L H (L H (t H (O (be H ?_)))))))))
         refine aH ?_
         exact eu (_) (aP H) ⟨H,by unfold nw;first|rw[if_neg G]|(rw[if_pos ⟨G,G,G,G⟩])⟩
       ·refine L H (L H (L H (t H (J H (L H (L H (t H (J H (L H ?_)))))))))
        refine L H (L H (t H (O (be H (aH ?_)))))
        exact eu (_) (aP H) ⟨H,by unfold nw;first|rw[if_neg G]|(rw[if_pos ⟨G,G,G,G⟩])⟩
      rintro z _ ⟨rfl,hz⟩
      refine al (ap (J H (J H ?_)))
      obtain⟨ck,ct,a1,aa,av⟩:=tQ (w:=wE) (z)
      refine dJ (vs:=[(0,I z)]) H a1 ?_
      obtain⟨cl,cu,a2,a7,af⟩:=A7 (ty:=22) (b.aL aa) av fZ ((eE.ai aa)).size
      refine dW H a2 ?_
      have bp:=ao.a6 ((eE.ai aa)) af ((b.aL aa)).ge
      have ci:=((b.aL aa)).b3 af aF
      refine Z H (f (bE (al (ap (U H cD (J H (f (eI (k+1) (_) (aP H) ⟨bp,G,by rw[Ic,←Q,←hY,←hX,←hz];exact a7⟩ G))))))))
     ·refine ce (aU (aU (cg (bE (al ?_)))))
      have aV:k=kw:=G
      rw[aV] at Q
      refine ap (U H cD (J H (f (eI (i+1) (_) (aP H) ⟨eE,G,by rw[PR,←Q];exact b⟩ G))))
    ·refine ce (aU (aU (cg (bE (al ?_)))))
     have aT:i=kh:=G
     refine ap (U H cD (J H (f (eI (ch+1) (_) (aP H) ⟨eD,G,by rw[PQ];have j:=b;rwa [aT] at j⟩ G))))
   ·refine ce (aU (aU (cg (al ?_))))
    have aS:ch=n.toNat:=G
    refine ap (J H (J H ?_))
    obtain⟨cm,cv,a3,ab,aw⟩:=CT (w:=wC) b.bY
    refine dJ (vs:=[(0,v1)]) H a3 ?_
    obtain⟨cn,cw,a4,a8,ag⟩:=Dg (ty:=80) (q.aL (F.ai ab)) aw fZ (((eB.ai F).ai ab)).size
    refine dW H a4 ?_
    have bq:=ao.a6 (((eB.ai F).ai ab)) ag ((q.aL (F.ai ab))).ge
    have cj:=((q.aL (F.ai ab))).b3 ag aF
    refine Z H (f (bE (al (ap (U H cD (J H (f (eI (c+1) (_) (aP H) ⟨bq,G,by rw[PU,←PT];have j:=a8;rw[ad,aS] at j;exact j⟩ G))))))))
  ·refine ce (aU (aU (cg (bE (al ?_)))))
   have aO:c=C:=G
   refine ap (U H cD (J H (f (eI (r+1) (_) (aP H) ⟨eB,G,by rw[PX];have j:=q;rw[ad,aO] at j;exact j⟩ G))))
 ·refine ce (aU (aU (cg (al (ah ?_)))))
  have a5:r=R:=G
  refine ap (J H (J H (J H (Z H (Z H (Z H (Z H (O (aA (yR H H H H H ?_))))))))))
  exact⟨_,H,eA,_,H,by have j:=q;rw[a5,D6] at j;exact j⟩
theorem Qj {n d st pad:Int} (c:aD bJ [n,h,d] v w) (a:iP n h d kh kw st pad R C):
 Calls Tryz.prog 275 #[v,I (kh:Int),I (kw:Int),I st,I pad] w (aJ λr w'=>ao w w'∧∃u,r=.tuple #[u,I (R:Int),I (C:Int),I 0]∧aD fN (ke n.toNat h d kh kw st pad R C) u w'):=
 aJ.mono (In c a) λ_ _ ⟨x,u,e,b⟩=>⟨x,u,e,lJ.bY b⟩
theorem K2:aY Tryz.prog 258:=⟨_,Tryz.func258,am,rfl⟩
def sI:Int→List Int→List Int→Option Int
 |s,d::l,a::r=>if a<0∨d≤a then none else sI (s*d+a) l r
 |s,_,_=>some s
def ixV (o:Option Int):Int×Int:=match o with
 |some z=>(z,0)
 |none=>(0,2)
theorem WY {s:Int} {l a:List Int} (b:i<l.length) (c:i<a.length):sI s (l.drop i) (a.drop i)=if a[i]<0∨l[i]≤a[i] then none else sI (s*l[i]+a[i]) (l.drop (i+1)) (a.drop (i+1)):=by
 rw[lE b,lE c];rfl
theorem WX {s:Int} {l a:List Int}:sI s (l.drop l.length) a=some s:=by rw[ED];rfl
theorem WZ {s d x p:Int} (a:0≤s) (f:s<p) (g:0≤x) (h:x<d):0≤s*d∧s*d+x<p*d:=by
 have b:0≤s*d:=iI a G
 have c:(s+1)*d≤p*d:=Es G G
 have e:(s+1)*d=s*d+d:=by rw[Int.add_mul,Int.one_mul]
 omega
theorem JJ {l a:List Int} (o:aD bJ l v w) (k:aD bJ a u w) (hs:dF l=true) (aZ:a.length=l.length):
 Calls Tryz.prog 258 #[v,u] w (aJ λr w'=>ao w w'∧r=.tuple #[I (ixV (sI 0 l a)).1,I (ixV (sI 0 l a)).2]):=by
 obtain⟨⟨aV,aY⟩,ax⟩:=vd hs
 refine enter Tryz.func258 H H H (T (Z H (Z H (O (ah (T (J H (aC sd H H ((by have h:=rY (l:=l) o;rw[hs] at h;exact h)) ?_))))))))
 rintro v9 w9 ⟨Y,rfl⟩
 refine cP H cW (J H (V H (J H (V H (aW H (bP cd (k.aL Y)) (V H (J H (V H (aW H (bP cd (o.aL Y)) (V H (U H (aX G dZ) (t H (O (be H (aH (al (T (Z H (O (ah (T (Z H (O (aR (ob (λ(i:Nat) (s:Int) (q:Int)=>[(0,v),(1,u),(6,I s),(7,I (i:Int))]) (λ(i:Nat) (s:Int) (q:Int) w'=>ao w w'∧i≤l.length∧sI 0 l a=sI s (l.drop i) (a.drop i)∧0≤s∧s<q∧1≤q∧q≤16384∧iG q (l.drop i)=true) (λ(i:Nat) (s:Int) (q:Int)=>l.length-i) (0) (0) (1) (aP H) ⟨Y,G,H,G,G,G,G,ax⟩ ?_)))))))))))))))))))))))))
 rintro i s q w4 ⟨c,hi,hG,aw,ay,az,aB,hS⟩
 refine ah (T (J H (J H (aW H (bP cd (o.aL c)) (U H (bO) (O (bc H (λav=>?_) (λav=>?_))))))))
 ·refine aH (al (ah (aR (ah (ah ?_)))))
  obtain⟨x,m⟩:∃x,x=a[i]'G:=⟨_,rfl⟩
  obtain⟨y,A⟩:∃y,y=l[i]'G:=⟨_,rfl⟩
  obtain⟨⟨af,ag,ai⟩,aj⟩:=HV G hS
  have L:=WY (s:=s) (l:=l) (a:=a) (i:=i) G G
  rw[←A] at af ag ai aj
  rw[←m,←A,←hG] at L
  rcases(show x<0∨(0≤x∧y≤x)∨(0≤x∧x<y) by omega) with K|K|K
  ·refine cz 15 [0,1,6,7,29,38] am am ?_
   refine W H (W H ?_)
   obtain⟨aa,ab,C,F,d⟩:=bX (P:=Tryz.prog) (sz:=1) cd am el G (k.aL c) (i:=i) (G) .i64
   rw[←m] at d
   obtain rfl:=er d
   refine cF H (λw _=>C w) (aQ H (λw b=>D aE H (b.a0 F.cell0)) (bn H (λw _=>cu G bO) (W H (M H (M H (M H (M H (M H (M H (M H (M H (M H (cq ?_)))))))))))))
   rintro ak n _ g
   obtain rfl:=bU g
   rintro _ j
   obtain rfl:=bU j
   rintro _ rfl _ rfl _ rfl _ rfl
   refine bA H (O (bT H (T (Z H (Z H (O (aA (aI (bD (aI (aI (bD (aI (dt H ?_))))))))))))))
   exact⟨_,H,(c.ai n),by rw[L,if_pos G];rfl⟩
  ·refine cz 15 [0,1,6,7,29,38] am am ?_
   refine W H (W H ?_)
   obtain⟨aa,ab,C,F,d⟩:=bX (P:=Tryz.prog) (sz:=1) cd am el G (k.aL c) (i:=i) (G) .i64
   rw[←m] at d
   obtain rfl:=er d
   refine cF H (λw _=>C w) (aQ H (λw b=>D aE H (b.a0 F.cell0)) (bn H (λw _=>aX G bO) (W H (X H (W H (X H (W H (X H ?_))))))))
   obtain⟨an,ar,N,R,p⟩:=bX (P:=Tryz.prog) (sz:=1) cd am el G (k.aL c) (i:=i) (G) .i64
   rw[←m] at p
   obtain rfl:=er p
   refine cF H (λw _=>N w) (X H (aQ H (λw b=>D aE H (b.a0 R.cell0)) (X H (W H (X H (W H (X H ?_)))))))
   obtain⟨aq,au,Q,S,z⟩:=bX (P:=Tryz.prog) (sz:=1) cd am el G (o.aL c) (i:=i) (G) .i64
   rw[←A] at z
   obtain rfl:=er z
   refine cF H (λw _=>Q w) (X H (aQ H (λw b=>D aE H (b.a0 S.cell0)) (X H (bn H (λw _=>cu G eU) (cq ?_)))))
   rintro ak n _ g
   obtain rfl:=bU g
   rintro _ j
   obtain rfl:=bU j
   rintro _ rfl _ rfl _ rfl _ rfl
   refine t H (O (bT H (T (Z H (Z H (O (aA (aI (bD (aI (aI (bD (aI (dt H ?_))))))))))))))
   exact⟨_,H,(c.ai n),by rw[L,if_pos G];rfl⟩
  ·refine cz 15 [0,1,6,7,29,38] am am ?_
   refine W H (W H ?_)
   obtain⟨aa,ab,C,F,d⟩:=bX (P:=Tryz.prog) (sz:=1) cd am el G (k.aL c) (i:=i) (G) .i64
   rw[←m] at d
   obtain rfl:=er d
   refine cF H (λw _=>C w) (aQ H (λw b=>D aE H (b.a0 F.cell0)) (bn H (λw _=>aX G bO) (W H (X H (W H (X H (W H (X H ?_))))))))
   obtain⟨an,ar,N,R,p⟩:=bX (P:=Tryz.prog) (sz:=1) cd am el G (k.aL c) (i:=i) (G) .i64
   rw[←m] at p
   obtain rfl:=er p
   refine cF H (λw _=>N w) (X H (aQ H (λw b=>D aE H (b.a0 R.cell0)) (X H (W H (X H (W H (X H ?_)))))))
   obtain⟨aq,au,Q,S,z⟩:=bX (P:=Tryz.prog) (sz:=1) cd am el G (o.aL c) (i:=i) (G) .i64
   rw[←A] at z
   obtain rfl:=er z
   refine cF H (λw _=>Q w) (X H (aQ H (λw b=>D aE H (b.a0 S.cell0)) (X H (bn H (λw _=>aX G eU) (cq ?_)))))
   rintro ak n _ g
   obtain rfl:=bU g
   rintro _ j
   obtain rfl:=bU j
   rintro _ rfl _ rfl _ rfl _ rfl
   refine t H (O (be H (aH (al ?_))))
   have hr:=WZ aw ay K.1 K.2
   refine cz 11 [0,1,7,50] am am (W H (W H (W H ?_)))
   obtain⟨aN,aS,aF,aK,ad⟩:=bX (P:=Tryz.prog) (sz:=1) cd am el G (o.aL (c.ai n)) (i:=i) (G) .i64
   rw[←A] at ad
   obtain rfl:=er ad
   refine cF H (λw _=>aF w) (aQ H (λw b=>D aE H (b.a0 aK.cell0)) (bn (r:=I (s*y)) H (λw _=>by have e:(s*y:Int)=s*y:=G;rw[e];exact dh G G) (W H (W H ?_))))
   obtain⟨aO,aT,aG,aL,ae⟩:=bX (P:=Tryz.prog) (sz:=1) cd am el G (k.aL (c.ai n)) (i:=i) (G) .i64
   rw[←m] at ae
   obtain rfl:=er ae
   refine cF H (λw _=>aG w) (aQ H (λw b=>D aE H (b.a0 aL.cell0)) (bn (r:=I (s*y+x)) H (λw _=>by have e:(s*y+x:Int)=(s*y)+x:=G;rw[e];exact dB) (cq ?_)))
   rintro a0 aM _ g
   obtain rfl:=bU g
   rintro _ j
   obtain rfl:=bU j
   rintro _ rfl _ rfl
   refine Z H (f (bE (al (ap (J H (U H cD (Z H (f (lj (i+1) (s*y+x) (q*y) (aP H) ⟨((c.ai n).ai aM),G,by rw[L,if_neg G],G,G,by have:=sN az aB af ag;omega,ai,aj⟩ G)))))))))
 ·refine ce (aU (aU (cg (al (T (J H (Z H (Z H (O (aA (dt H ?_)))))))))))
  exact⟨_,H,c,by rw[hG,show i=l.length by omega,WX];rfl⟩
theorem yy {l:List Int} (h:i<l.length):l.getD i 0=l[i]:=by simp[h]
theorem GS {l:List Int} (h:l.length=3):l=[l.getD 0 0,l.getD 1 0,l.getD 2 0]:=by
 match l,h with
 |[a,b,c],_=>rfl
theorem ix3 {n d c y x:Int} (e:0≤c) (f:c<n):ixV (sI 0 [n,h,d] [c,y,x])=if 0≤y∧y<h∧0≤x∧x<d then((c*h+y)*d+x,0) else(0,2):=by
 simp only[sI]
 rw[if_neg G]
 by_cases b:y<0∨h≤y
 ·rw[if_pos b,if_neg G];rfl
 ·rw[if_neg b]
  by_cases a:x<0∨d≤x
  ·rw[if_pos a,if_neg G];rfl
  ·rw[if_neg a,if_pos G,Int.zero_mul,Int.zero_add];rfl
theorem JQ {st pad:Int} {l:List Int} (j:aD bJ l v w) (hs:dF l=true) (k1:1≤kh∧kh≤64) (k2:1≤kw∧kw≤64) (k3:1≤st∧st≤64) (k4:0≤pad∧pad<kh∧pad<kw):
 Calls Tryz.prog 175 #[v,I (kh:Int),I (kw:Int),I st,I pad] w (aJ λr w'=>ao w w'∧((∃n h d R C u,l=[n,h,d]∧iP n h d kh kw st pad R C∧r=.tuple #[u,I (R:Int),I (C:Int),I 0]∧aD fN (ke n.toNat h d kh kw st pad R C) u w')∨∃u a b e,r=.tuple #[u,a,b,I e]∧e≠0∧∀n h d R C,l=[n,h,d]→¬iP n h d kh kw st pad R C)):=by
 obtain⟨bx,bz⟩:=k1
 obtain⟨bD,bG⟩:=k2
 obtain⟨an,aO⟩:=k3
 obtain⟨aK,bI,bK⟩:=k4
 obtain⟨n,ak⟩:∃n,n=l.getD 0 0:=⟨_,rfl⟩
 obtain⟨h,A⟩:∃h,h=l.getD 1 0:=⟨_,rfl⟩
 obtain⟨d,F⟩:∃d,d=l.getD 2 0:=⟨_,rfl⟩
 refine enter Tryz.func175 H H H (T (Z H (Z H (Z H (Z H (O (ah (T (J H (aC sd H H ((by have h:=rY (l:=l) j;rw[hs] at h;exact h)) ?_))))))))))
 rintro cx cB ⟨g,rfl⟩
 refine cP H cW (J H (V H (J H (V H (U H (aX G bO) (t H (J H (V H (J H (V H (U H (aX G cY) (t H (J H (V H (J H (V H (U H (aX G bO) (t H (J H (V H (J H (V H (U H (aX G cY) (t H (J H (V H (J H (V H (U H (aX G bO) (t H (J H (V H (J H (V H (U H (aX G cY) (t H (J H (V H (J H (V H (U H (aX G bO) (t H (J H (V H (J H (V H (J H (V H (U H (aX G eU) (t H (J H (V H (J H (V H (J H (V H (U H (aX G eU) (t H (O (be H (aH (al (ah (ah ?_))))))))))))))))))))))))))))))))))))))))))))))))))))))))))))))))
 rcases(show l.length≠3∨(l.length=3∧(kh:Int)>h+2*pad)∨(l.length=3∧(kh:Int)≤h+2*pad∧(kw:Int)>d+2*pad)∨(l.length=3∧(kh:Int)≤h+2*pad∧(kw:Int)≤d+2*pad) by omega) with M|⟨M,hK⟩|⟨M,hK,a8⟩|⟨M,hK,a8⟩
 ·refine ap (J H (aW H (bP cd (j.aL g)) (U H (cu G dZ) (J H (L H ?_)))))
  refine L H (L H (L H (L H (L H (L H (L H (bA H (J H (L H (L H (L H (L H (L H (L H (L H (L H (bA H (O (bT H (T (Z H (Z H (Z H (Z H (O (aA (aI (yR H H H H H ?_))))))))))))))))))))))))))))
  exact⟨_,H,g,.inr ⟨_,_,_,7,H,G,λn1 h1 d1 R1 C1 o z=>by have q1:h=h1:=(by rw[A,o]<;>rfl);have q2:d=d1:=(by rw[F,o]<;>rfl);have q3:l.length=3:=(by rw[o]<;>rfl);have q4:=z.f1;have q5:=z.f2;omega⟩⟩
 ·have hh:h=l[1]'G:=by rw[A,yy G]
  have aa:l=[n,h,d]:=by rw[ak,A,F];exact GS M
  have ae:dF [n,h,d]=true:=by rw[←aa];exact hs
  obtain⟨_,⟨a9,ba⟩,_⟩:=vc ae
  refine ap (J H (aW H (bP cd (j.aL g)) (U H (aX G dZ) (J H (V H (J H (V H (J H (V H ?_)))))))))
  obtain⟨a72,a3,aq,ar,K⟩:=bX (P:=Tryz.prog) (sz:=1) cd am el G (j.aL g) (i:=1) (G) .i64
  rw[←hh] at K
  obtain rfl:=er K
  refine bF H (aq _) (V H (au H (D aE H ar.cell0) (V H (J H (V H (U H (dh G G) (V H (U H dB (V H (U H (cu G cY) (t H (J H (L H (L H (L H (L H (L H (L H (L H (L H (bA H (O (bT H (T (Z H (Z H (Z H (Z H (O (aA (aI (yR H H H H H ?_))))))))))))))))))))))))))))))))
  exact⟨_,H,g,.inr ⟨_,_,_,7,H,G,λn1 h1 d1 R1 C1 o z=>by have q1:h=h1:=(by rw[A,o]<;>rfl);have q2:d=d1:=(by rw[F,o]<;>rfl);have q3:l.length=3:=(by rw[o]<;>rfl);have q4:=z.f1;have q5:=z.f2;omega⟩⟩
 ·have hh:h=l[1]'G:=by rw[A,yy G]
  have hd:d=l[2]'G:=by rw[F,yy G]
  have aa:l=[n,h,d]:=by rw[ak,A,F];exact GS M
  have ae:dF [n,h,d]=true:=by rw[←aa];exact hs
  obtain⟨_,⟨a9,ba⟩,⟨br,bs⟩⟩:=vc ae
  refine ap (J H (aW H (bP cd (j.aL g)) (U H (aX G dZ) (J H (V H (J H (V H (J H (V H ?_)))))))))
  obtain⟨a72,a3,aq,ar,K⟩:=bX (P:=Tryz.prog) (sz:=1) cd am el G (j.aL g) (i:=1) (G) .i64
  rw[←hh] at K
  obtain rfl:=er K
  refine bF H (aq _) (V H (au H (D aE H ar.cell0) (V H (J H (V H (U H (dh G G) (V H (U H dB (V H (U H (aX G cY) (t H (J H (V H (J H (V H (J H (V H ?_)))))))))))))))))
  obtain⟨bd,bh,aV,a0,ai⟩:=bX (P:=Tryz.prog) (sz:=1) cd am el G (j.aL g) (i:=2) (G) .i64
  rw[←hd] at ai
  obtain rfl:=er ai
  refine bF H (aV _) (V H (au H (D aE H a0.cell0) (V H (J H (V H (U H (dh G G) (V H (U H dB (V H (U H (cu G cY) (t H (O (bT H (T (Z H (Z H (Z H (Z H (O (aA (aI (yR H H H H H ?_))))))))))))))))))))))
  exact⟨_,H,g,.inr ⟨_,_,_,7,H,G,λn1 h1 d1 R1 C1 o z=>by have q1:h=h1:=(by rw[A,o]<;>rfl);have q2:d=d1:=(by rw[F,o]<;>rfl);have q3:l.length=3:=(by rw[o]<;>rfl);have q4:=z.f1;have q5:=z.f2;omega⟩⟩
 ·have hn:n=l[0]'G:=by rw[ak,yy G]
  have hh:h=l[1]'G:=by rw[A,yy G]
  have hd:d=l[2]'G:=by rw[F,yy G]
  have aa:l=[n,h,d]:=by rw[ak,A,F];exact GS M
  have ae:dF [n,h,d]=true:=by rw[←aa];exact hs
  obtain⟨⟨cr,bH⟩,⟨a9,ba⟩,⟨br,bs⟩⟩:=vc ae
  have bu:=Cu (a:=h+2*pad-kh) (s:=st) G an
  have bt:=Cu (a:=d+2*pad-kw) (s:=st) G an
  obtain⟨R,hr⟩:∃R:Nat,(R:Int)=(h+2*pad-kh)/st+1:=⟨((h+2*pad-kh)/st+1).toNat,G⟩
  obtain⟨C,hc⟩:∃C:Nat,(C:Int)=(d+2*pad-kw)/st+1:=⟨((d+2*pad-kw)/st+1).toNat,G⟩
  have cn:R≤20000:=G
  have bo:C≤20000:=G
  have m1:0≤(R:Int)*C∧(R:Int)*C≤20000*20000:=⟨iI G G,gz G G G G⟩
  have m2:0≤(R:Int)*C*n∧(R:Int)*C*n≤400000000*16384:=⟨iI m1.1 G,gz m1.2 bH G G⟩
  have m3:0≤(R:Int)*C*n*kh∧(R:Int)*C*n*kh≤6553600000000*64:=⟨iI m2.1 G,gz m2.2 G G G⟩
  have m4:0≤(R:Int)*C*n*kh*kw∧(R:Int)*C*n*kh*kw≤419430400000000*64:=⟨iI m3.1 G,gz m3.2 G G G⟩
  refine ap (J H (aW H (bP cd (j.aL g)) (U H (aX G dZ) (J H (V H (J H (V H (J H (V H ?_)))))))))
  obtain⟨a72,a3,aq,ar,K⟩:=bX (P:=Tryz.prog) (sz:=1) cd am el G (j.aL g) (i:=1) (G) .i64
  rw[←hh] at K
  obtain rfl:=er K
  refine bF H (aq _) (V H (au H (D aE H ar.cell0) (V H (J H (V H (U H (dh G G) (V H (U H dB (V H (U H (aX G cY) (t H (J H (V H (J H (V H (J H (V H ?_)))))))))))))))))
  obtain⟨bd,bh,aV,a0,ai⟩:=bX (P:=Tryz.prog) (sz:=1) cd am el G (j.aL g) (i:=2) (G) .i64
  rw[←hd] at ai
  obtain rfl:=er ai
  refine bF H (aV _) (V H (au H (D aE H a0.cell0) (V H (J H (V H (U H (dh G G) (V H (U H dB (V H (U H (aX G cY) (t H (O (be H (aH (al (ah (cz 23 [0,1,2,3,4,14,110] am am (W H ?_))))))))))))))))))
  obtain⟨cj,cm,b0,b3,a7⟩:=bX (P:=Tryz.prog) (sz:=1) cd am el G (j.aL g) (i:=1) (G) .i64
  rw[←hh] at a7
  obtain rfl:=er a7
  refine cF H (λw _=>b0 w) (aQ H (λw hw=>D aE H (hw.a0 b3.cell0)) (W H (bn (r:=I (2*pad)) H (λw _=>by have e:(2*pad:Int)=2*pad:=G;rw[e];exact dh G G) (bn (r:=I (h+2*pad)) H (λw _=>by have e:(h+2*pad:Int)=h+(2*pad):=G;rw[e];exact dB) (W H (bn (r:=I (h+2*pad-(kh:Int))) H (λw _=>by have e:(h+2*pad-(kh:Int):Int)=(h+2*pad)-(kh:Int):=G;rw[e];exact dM) (W H (sF (r:=I ((h+2*pad-(kh:Int))/st)) H H H (λw _=>by have e:((h+2*pad-(kh:Int))/st:Int)=(h+2*pad-(kh:Int))/st:=G;rw[e];exact tf G G G) (bn (r:=I ((R:Int))) H (λw _=>by have e:((R:Int):Int)=((h+2*pad-(kh:Int))/st)+1:=G;rw[e];exact dB) (W H ?_))))))))))
  obtain⟨cc,ck,bY,b1,a5⟩:=bX (P:=Tryz.prog) (sz:=1) cd am el G (j.aL g) (i:=2) (G) .i64
  rw[←hd] at a5
  obtain rfl:=er a5
  refine cF H (λw _=>bY w) (aQ H (λw hw=>D aE H (hw.a0 b1.cell0)) (W H (bn (r:=I (2*pad)) H (λw _=>by have e:(2*pad:Int)=2*pad:=G;rw[e];exact dh G G) (bn (r:=I (d+2*pad)) H (λw _=>by have e:(d+2*pad:Int)=d+(2*pad):=G;rw[e];exact dB) (W H (bn (r:=I (d+2*pad-(kw:Int))) H (λw _=>by have e:(d+2*pad-(kw:Int):Int)=(d+2*pad)-(kw:Int):=G;rw[e];exact dM) (W H (sF (r:=I ((d+2*pad-(kw:Int))/st)) H H H (λw _=>by have e:((d+2*pad-(kw:Int))/st:Int)=(d+2*pad-(kw:Int))/st:=G;rw[e];exact tf G G G) (bn (r:=I ((C:Int))) H (λw _=>by have e:((C:Int):Int)=((d+2*pad-(kw:Int))/st)+1:=G;rw[e];exact dB) (gK H (cq ?_)))))))))))
  rintro cC ay _ bL
  obtain rfl:=bU bL
  rintro _ rfl _ rfl _ rfl _ rfl _ rfl _ rfl
  refine Z H (O (ah (ah ?_)))
  rcases(show(R:Int)*C*n*kh*kw>262144∨(R:Int)*C*n*kh*kw≤262144 by omega) with hM|hM
  ·refine ap (J H (J H (U H (dh G G) (J H ?_))))
   obtain⟨bb,bg,aT,aY,ag⟩:=bX (P:=Tryz.prog) (sz:=1) cd am el G (j.aL (g.ai ay)) (i:=0) (G) .i64
   rw[←hn] at ag
   obtain rfl:=er ag
   refine bF H (aT _) (au H (D aE H aY.cell0) (U H (dh G G) (J H (U H (dh G G) (J H (U H (dh G G) (U H (cu G cY) (O (bT H (T (Z H (Z H (Z H (Z H (O (aA (aI (yR H H H H H ?_))))))))))))))))))
   exact⟨_,H,(g.ai ay),.inr ⟨_,_,_,8,H,G,λn1 h1 d1 R1 C1 o z=>by have q0:n1=n:=(by rw[ak,o]<;>rfl);have q1:h1=h:=(by rw[A,o]<;>rfl);have q2:d1=d:=(by rw[F,o]<;>rfl);subst q0 q1 q2;obtain rfl:R1=R:=Int.ofNat.inj (z.r.ai hr.symm);obtain rfl:C1=C:=Int.ofNat.inj (z.c.ai hc.symm);have q5:=z.l;omega⟩⟩
  ·have hp:iP n h d kh kw st pad R C:=⟨ae,⟨bx,bz⟩,⟨bD,bG⟩,⟨an,aO⟩,⟨aK,bI,bK⟩,hK,a8,hr,hc,hM⟩
   refine ap (J H (J H (U H (dh G G) (J H ?_))))
   obtain⟨bb,bg,aT,aY,ag⟩:=bX (P:=Tryz.prog) (sz:=1) cd am el G (j.aL (g.ai ay)) (i:=0) (G) .i64
   rw[←hn] at ag
   obtain rfl:=er ag
   refine bF H (aT _) (au H (D aE H aY.cell0) (U H (dh G G) (J H (U H (dh G G) (J H (U H (dh G G) (U H (aX G cY) (O (be H (aH (al (ah ?_))))))))))))
   clear m1 m2 m3 m4 bu bt
   refine ap (Z H (O (ah (T (Z H (O (aR (fp (λ(r:Nat) (vo:Value)=>[(0,v),(1,I (kh:Int)),(2,I (kw:Int)),(3,I st),(4,I pad),(14,I (R:Int)),(15,I (C:Int)),(16,vo),(17,I (r:Int))]) (λ(r:Nat) (vo:Value) w'=>ao w w'∧r≤R∧lJ w.heap.size (mc n.toNat h d kh kw st pad C r 0) vo w') (λ(r:Nat) (vo:Value)=>R-r) (0) (.slice none 0 0) (aP H) ⟨(g.ai ay),G,by rw[D6];exact bC.nil _⟩ ?_))))))))
   rintro r vo wA ⟨eA,cs,N⟩
   refine ah (T (J H (J H (U H (bO) (O (bc H (λbi=>?_) (λbi=>?_)))))))
   ·refine aH (al (ah (aR (T (Z H (O (aR ?_)))))))
    refine fp (λ(c:Nat) (Q:Value)=>[(0,v),(1,I (kh:Int)),(2,I (kw:Int)),(3,I st),(4,I pad),(14,I (R:Int)),(15,I (C:Int)),(16,Q),(17,I (r:Int)),(18,I (c:Int))]) (λ(c:Nat) (Q:Value) w'=>ao w w'∧c≤C∧lJ w.heap.size (mc n.toNat h d kh kw st pad C r c) Q w') (λ(c:Nat) (Q:Value)=>C-c) (0) (vo) (aP H) ⟨eA,G,N⟩ ?_
    rintro c Q wB ⟨eB,co,N⟩
    refine ah (ah ?_)
    have bM:(mc n.toNat h d kh kw st pad C r c).length≤400100000:=cf PV (by have:=gi (show r≤20000 by omega) bo;omega)
    obtain⟨QQ,aG⟩:∃QQ,QQ=mc n.toNat h d kh kw st pad C r c:=⟨_,rfl⟩
    rw[←aG] at N bM
    refine ap (J H (J H (U H (bO) (O (bc H (λbj=>?_) (λbj=>?_))))))
    ·refine aH (al (ah (aR (T (Z H (O (ah (T (Z H (O (aR ?_)))))))))))
     refine fp (λ(ch:Nat) (v1:Value)=>[(0,v),(1,I (kh:Int)),(2,I (kw:Int)),(3,I st),(4,I pad),(14,I (R:Int)),(15,I (C:Int)),(16,Q),(17,I (r:Int)),(18,I (c:Int)),(19,v1),(20,I (ch:Int))]) (λ(ch:Nat) (v1:Value) w'=>ao wB w'∧ch≤n.toNat∧pr wB.heap.size (jA h d kh kw st pad r c ch 0 0) v1 w') (λ(ch:Nat) (v1:Value)=>n.toNat-ch) (0) (.slice none 0 0) (aP H) ⟨ao.refl _,G,by rw[PO];exact bC.nil _⟩ ?_
     rintro ch v1 wC ⟨S,cp,q⟩
     refine ah (T (J H (J H ?_)))
     obtain⟨ci,cl,bZ,b2,a6⟩:=bX (P:=Tryz.prog) (sz:=1) cd am el G (j.aL (eB.ai S)) (i:=0) (G) .i64
     rw[←hn] at a6
     obtain rfl:=er a6
     refine bF H (bZ _) (au H (D aE H b2.cell0) (U H (bO) (O (bc H (λbk=>?_) (λbk=>?_)))))
     ·refine aH (al (ah (aR (T (Z H (O (aR ?_)))))))
      refine fp (λ(i:Nat) (v2:Value)=>[(0,v),(1,I (kh:Int)),(2,I (kw:Int)),(3,I st),(4,I pad),(14,I (R:Int)),(15,I (C:Int)),(16,Q),(17,I (r:Int)),(18,I (c:Int)),(19,v2),(20,I (ch:Int)),(21,I (i:Int))]) (λ(i:Nat) (v2:Value) w'=>ao wB w'∧i≤kh∧pr wB.heap.size (jA h d kh kw st pad r c ch i 0) v2 w') (λ(i:Nat) (v2:Value)=>kh-i) (0) (v1) (aP H) ⟨S,G,q⟩ ?_
      rintro i v2 wD ⟨eD,hi,q⟩
      refine ah (T (J H (J H (U H (bO) (O (bc H (λbl=>?_) (λbl=>?_)))))))
      ·refine aH (al (ah (aR (T (Z H (O (aR ?_)))))))
       refine fp (λ(k:Nat) (v3:Value)=>[(0,v),(1,I (kh:Int)),(2,I (kw:Int)),(3,I st),(4,I pad),(14,I (R:Int)),(15,I (C:Int)),(16,Q),(17,I (r:Int)),(18,I (c:Int)),(19,v3),(20,I (ch:Int)),(21,I (i:Int)),(22,I (k:Int))]) (λ(k:Nat) (v3:Value) w'=>ao wB w'∧k≤kw∧pr wB.heap.size (jA h d kh kw st pad r c ch i k) v3 w') (λ(k:Nat) (v3:Value)=>kw-k) (0) (v2) (aP H) ⟨eD,G,q⟩ ?_
       rintro k v3 wE ⟨eE,hk,q⟩
       refine ah (ah ?_)
       obtain⟨PP,ad⟩:∃PP,PP=jA h d kh kw st pad r c ch i k:=⟨_,rfl⟩
       rw[←ad] at q
       refine ap (J H (J H (U H (bO) (O (bc H (λbm=>?_) (λbm=>?_))))))
       ·refine aH (al (ah (aR (ah ?_))))
        have hy:=Dl (a:=(r:Int)) (s:=st) (i:=(i:Int)) (p:=pad) G G an aO G G aK G
        have hx:=Dl (a:=(c:Int)) (s:=st) (i:=(k:Int)) (p:=pad) G G an aO G G aK G
        have bS:=PS (h:=h) (w:=d) (kh:=kh) (kw:=kw) (st:=st) (pad:=pad) (r:=r) (c:=c) (ch:=ch) (i:=i) (k:=k) G G G G G
        rw[←ad] at bS
        obtain⟨Y,hY⟩:∃Y,Y=(r:Int)*st+(i:Int)-pad:=⟨_,rfl⟩
        obtain⟨X,hX⟩:∃X,X=(c:Int)*st+(k:Int)-pad:=⟨_,rfl⟩
        have aj:=ix3 (n:=n) (h:=h) (d:=d) (c:=(ch:Int)) (y:=Y) (x:=X) G G
        rw[←aa] at aj
        rcases Ek (0≤Y∧Y<h∧0≤X∧X<d) with hW|hW
        ·rw[if_pos hW] at aj
         have hz:nw h d ch Y X=((ch:Int)*h+Y)*d+X:=if_pos hW
         refine ap (J H (J H (J H (J H (U H (dh G G) (J H (U H dB (J H (U (r:=I (Y)) H (by have e:(Y:Int)=(((r:Int)*st)+(i:Int))-pad:=G;rw[e];exact dM) (J H (J H (U H (dh G G) (J H (U H dB (J H (U (r:=I (X)) H (by have e:(X:Int)=(((c:Int)*st)+(k:Int))-pad:=G;rw[e];exact dM) ?_))))))))))))))))
         obtain⟨b4,b8,aL,ab,az⟩:=tP (w:=wE) ((ch:Int)) ((Y)) ((X))
         refine dJ (vs:=[(0,I (ch:Int)),(1,I (Y)),(2,I (X))]) H aL (aC K2 H H ((by have m:=JJ (l:=l) (a:=[(ch:Int),Y,X]) (j.aL ((eB.ai eE).ai ab)) az hs (by simp[M]);rw[aj] at m;exact m)) ?_)
         rintro b5 a1 ⟨av,rfl⟩
         refine J H (aZ H (dm) (aZ H (dn) (Z H (Z H (O (ah (T (J H (U H (aX G dZ) (O (be H (aH (al (ap (J H (J H ?_))))))))))))))))
         obtain⟨b6,b9,aM,aw,aB⟩:=tQ (w:=a1) ((((ch:Int)*h+Y)*d+X))
         refine j3 (vs:=[(0,I (((ch:Int)*h+Y)*d+X))]) H H aM ?_
         have e2:=(ab.ai av).ai aw
         have e4:=(((eE.ai ab).ai av).ai aw)
         obtain⟨b7,ca,aN,aS,af⟩:=A7 (ty:=22) (q.aL e2) aB fZ e4.size
         refine dW H aN ?_
         have a2:=ao.a6 e4 af ((q.aL e2)).ge
         have bV:=((q.aL e2)).b3 af aF
         refine Z H (f (bE (al (ap (J H (U H cD (Z H (f (eI (k+1) (_) (aP H) ⟨a2,G,by rw[Ic,←ad,←hY,←hX,hz];exact aS⟩ G)))))))))
        ·rw[if_neg hW] at aj
         have hz:nw h d ch Y X= -1:=if_neg hW
         refine ap (J H (J H (J H (J H (U H (dh G G) (J H (U H dB (J H (U (r:=I (Y)) H (by have e:(Y:Int)=(((r:Int)*st)+(i:Int))-pad:=G;rw[e];exact dM) (J H (J H (U H (dh G G) (J H (U H dB (J H (U (r:=I (X)) H (by have e:(X:Int)=(((c:Int)*st)+(k:Int))-pad:=G;rw[e];exact dM) ?_))))))))))))))))
         obtain⟨b4,b8,aL,ab,az⟩:=tP (w:=wE) ((ch:Int)) ((Y)) ((X))
         refine dJ (vs:=[(0,I (ch:Int)),(1,I (Y)),(2,I (X))]) H aL (aC K2 H H ((by have m:=JJ (l:=l) (a:=[(ch:Int),Y,X]) (j.aL ((eB.ai eE).ai ab)) az hs (by simp[M]);rw[aj] at m;exact m)) ?_)
         rintro b5 a1 ⟨av,rfl⟩
         refine J H (aZ H (dm) (aZ H (dn) (Z H (Z H (O (ah (T (J H (U H (cu G dZ) (O (bT H (ap (Z H (O (ap (J H (J H ?_)))))))))))))))))
         obtain⟨b6,b9,aM,aw,aB⟩:=tQ (w:=a1) ((-1))
         refine dJ (vs:=[(0,I (-1))]) H aM ?_
         have e3:=(ab.ai av).ai aw
         have e5:=(((eE.ai ab).ai av).ai aw)
         obtain⟨b7,ca,aN,aS,af⟩:=A7 (ty:=22) (q.aL e3) aB fZ e5.size
         refine dW H aN ?_
         have a2:=ao.a6 e5 af ((q.aL e3)).ge
         have bV:=((q.aL e3)).b3 af aF
         refine Z H (f (bE (al (ap (J H (U H cD (Z H (f (eI (k+1) (_) (aP H) ⟨a2,G,by rw[Ic,←ad,←hY,←hX,hz];exact aS⟩ G)))))))))
       ·refine ce (aU (aU (cg (bE (al ?_)))))
        have bB:k=kw:=G
        rw[bB] at ad
        refine ap (J H (U H cD (Z H (f (eI (i+1) (_) (aP H) ⟨eE,G,by rw[PR,←ad];exact q⟩ G)))))
      ·refine ce (aU (aU (cg (bE (al ?_)))))
       have bw:i=kh:=G
       refine ap (J H (U H cD (Z H (f (eI (ch+1) (_) (aP H) ⟨eD,G,by rw[PQ];have m:=q;rwa [bw] at m⟩ G)))))
     ·refine ce (aU (aU (cg (al ?_))))
      have bq:ch=n.toNat:=G
      refine ap (J H (J H ?_))
      obtain⟨cv,cy,bN,ax,bf⟩:=CT (w:=wC) q.bY
      refine dJ (vs:=[(0,v1)]) H bN ?_
      obtain⟨cw,cA,bQ,bW,a4⟩:=Dg (ty:=80) (N.aL (S.ai ax)) bf fZ (((eB.ai S).ai ax)).size
      refine dW H bQ ?_
      have cb:=ao.a6 (((eB.ai S).ai ax)) a4 ((N.aL (S.ai ax))).ge
      have ct:=((N.aL (S.ai ax))).b3 a4 aF
      refine Z H (f (bE (al (ap (J H (U H cD (Z H (f (eI (c+1) (_) (aP H) ⟨cb,G,by rw[PU,←PT];have m:=bW;rw[aG,bq] at m;exact m⟩ G)))))))))
    ·refine ce (aU (aU (cg (bE (al ?_)))))
     have bp:c=C:=G
     refine ap (J H (U H cD (Z H (f (eI (r+1) (_) (aP H) ⟨eB,G,by rw[PX];have m:=N;rw[aG,bp] at m;exact m⟩ G)))))
   ·refine ce (aU (aU (cg (al (ah ?_)))))
    have bR:r=R:=G
    refine ap (J H (J H (J H (Z H (Z H (Z H (Z H (O (aA (yR H H H H H ?_))))))))))
    exact⟨_,H,eA,.inl ⟨n,h,d,R,C,_,aa,hp,H,by have m:=lJ.bY N;rw[bR,D6] at m;exact m⟩⟩
theorem vG {n d st pad:Int} (k:aD bJ [n,h,d] v w) (a:iP n h d kh kw st pad R C):
 Calls Tryz.prog 175 #[v,I (kh:Int),I (kw:Int),I st,I pad] w (aJ λr w'=>ao w w'∧∃u,r=.tuple #[u,I (R:Int),I (C:Int),I 0]∧aD fN (ke n.toNat h d kh kw st pad R C) u w'):=
 aJ.mono (JQ k a.ok a.k1 a.k2 a.s a.p) λr w' h=>by
  obtain⟨x,⟨l,g,d1,e,c,u,f,b,rfl,j⟩|⟨_,_,_,_,_,_,i⟩⟩:=h
  ·obtain⟨rfl,rfl,rfl⟩:n=l∧h=g∧d=d1:=by simpa using f
   obtain rfl:e=R:=Int.ofNat.inj (b.r.ai a.r.symm)
   obtain rfl:c=C:=Int.ofNat.inj (b.c.ai a.c.symm)
   exact⟨x,u,H,j⟩
  ·exact absurd a (i _ _ _ _ _ H)
theorem Fl {st pad:Int} {l:List Int} (o:aD bJ l v w) (hs:dF l=true) (p:1≤kh∧kh≤64) (q:1≤kw∧kw≤64) (s:1≤st∧st≤64) (t:0≤pad∧pad<kh∧pad<kw) (m:¬∃n h d R C,l=[n,h,d]∧iP n h d kh kw st pad R C):
 Calls Tryz.prog 175 #[v,I (kh:Int),I (kw:Int),I st,I pad] w (aJ λr w'=>ao w w'∧∃u a b e,r=.tuple #[u,a,b,I e]∧e≠0):=
 aJ.mono (JQ o hs p q s t) λr w' h=>by
  obtain⟨x,⟨y,j,d1,f,c,u,g,z,_⟩|⟨u,a,b,e,k,i,_⟩⟩:=h
  ·exact absurd ⟨y,j,d1,f,c,g,z⟩ m
  ·exact⟨x,u,a,b,e,k,i⟩
theorem qQ:aY Tryz.prog 174:=⟨_,Tryz.func174,am,rfl⟩
theorem JP {l:List Int} (b:aD bJ l v w):
 Calls Tryz.prog 174 #[v] w (aJ λr w'=>ao w w'∧((dF l=true∧∃u,r=.tuple #[u,I 0]∧aD bJ l u w')∨(dF l=false∧∃u,r=.tuple #[u,I 7]))):=by
 refine enter Tryz.func174 H H H (T (Z H (Z H (O (ah (ah ?_))))))
 rcases hc:dF l
 ·refine ap (J H (aC sd H H ((by have h:=rY (l:=l) b;rw[hc] at h;exact h)) ?_))
  rintro v5 e ⟨a,rfl⟩
  refine cP H cW (O (bT H (T (Z H (Z H (O (aA (aI (dt H ?_)))))))))
  exact⟨_,H,a,.inr ⟨H,_,H⟩⟩
 ·obtain⟨⟨o,p⟩,q⟩:=vd hc
  refine ap (J H (aC sd H H ((by have h:=rY (l:=l) b;rw[hc] at h;exact h)) ?_))
  rintro v5 e ⟨a,rfl⟩
  refine cP H cW (O (be H (aH (al (T ?_)))))
  obtain⟨s,t,j,c,d⟩:=Cc (P:=Tryz.prog) (w:=e) (f:=bJ) cd MD
  refine dJ (vs:=[]) H j (J H ?_)
  obtain⟨v9,x,k,m,g⟩:=A7 (ty:=22) d (b.aL (a.ai c)) (by show 0+l.length≤_;omega) (c).size
  refine dW H k ?_
  have n:=ao.a6 (c) g (d).ge
  refine Z H (Z H (O (aA (dt H ?_))))
  exact⟨_,H,(a.ai n),.inl ⟨H,_,H,by have i:=pr.bY m;exact i⟩⟩
theorem uq {l:List Int} (d:aD bJ l v w) (hs:dF l=true):
 Calls Tryz.prog 174 #[v] w (aJ λr w'=>ao w w'∧∃u,r=.tuple #[u,I 0]∧aD bJ l u w'):=
 aJ.mono (JP d) λr w' h=>by
  obtain⟨x,⟨_,u,b,c⟩|⟨a,_⟩⟩:=h
  ·exact⟨x,u,b,c⟩
  ·rw[hs] at a;exact absurd a aj
theorem Fj {l:List Int} (c:aD bJ l v w) (hs:dF l=false):
 Calls Tryz.prog 174 #[v] w (aJ λr w'=>ao w w'∧∃u,r=.tuple #[u,I 7]):=
 aJ.mono (JP c) λr w' h=>by
  obtain⟨x,⟨a,_⟩|⟨_,u,b⟩⟩:=h
  ·rw[hs] at a;exact absurd a aj
  ·exact⟨x,u,b⟩
structure cm where
 kd:Int
 fr:Int
 ou:Int
 kh:Int
 kw:Int
 sr:Int
 pd:Int
 ws:List Rat
 bs:List Rat
structure gF where
 inp:List Int
 lays:List cm
def qi (x:Rat):df:=(x.sg,x.nl,x.dl)
def cm.ba (l:cm):cG:=⟨l.kd,l.fr,l.ou,l.kh,l.kw,l.sr,l.pd,l.ws.map qi,l.bs.map qi⟩
def gF.ba (m:gF):fj:=⟨m.inp,m.lays.map cm.ba⟩
def fS (a:cm):Dt:=.st [bJ a.kd,bJ a.fr,bJ a.ou,bJ a.kh,bJ a.kw,bJ a.sr,bJ a.pd,.sl (a.ws.map dQ),.sl (a.bs.map dQ)]
def Ap (a:gF):Dt:=.st [.sl (a.inp.map bJ),.sl (a.lays.map fS)]
theorem Lw:dK∘qi=dQ:=rfl
theorem Gc (a:cm):gp a.ba=fS a:=by
 unfold gp fS cm.ba nb
 simp only[tz,Lw]
theorem Lr:gp∘cm.ba=fS:=funext Gc
theorem Lu (a:gF):oS a.ba=Ap a:=by
 unfold oS Ap gF.ba sk
 simp only[tz,Lr]
section
variable {w w':World} {cs:List Value}
theorem aD.lays {l:List cm}:aD gp (l.map cm.ba) v w↔aD fS l v w:=by
 unfold aD
 rw[tz,Lr]
theorem aD.ed {l:List Rat}:aD dK (l.map qi) v w↔aD dQ l v w:=by
 unfold aD
 rw[tz,Lw]
theorem yk {a:cm} (h:Rp w (fS a) cs):∃x0 x1,cs=[I a.kd,I a.fr,I a.ou,I a.kh,I a.kw,I a.sr,I a.pd,x0,x1]∧aD dQ a.ws x0 w∧aD dQ a.bs x1 w:=by
 rw[←Gc] at h
 obtain⟨x,y,e,b,c⟩:=wi h
 exact⟨x,y,e,aD.ed.1 b,aD.ed.1 c⟩
theorem wj {a:cm} (k0:aD dQ a.ws x0 w) (b:aD dQ a.bs x1 w):Rp w (fS a) [I a.kd,I a.fr,I a.ou,I a.kh,I a.kw,I a.sr,I a.pd,x0,x1]:=by
 rw[←Gc]
 exact VP (l:=a.ba) (aD.ed.2 k0) (aD.ed.2 b)
theorem Ls {a:gF} (h:Rp w (Ap a) cs):∃x0 x1,cs=[x0,x1]∧aD bJ a.inp x0 w∧aD fS a.lays x1 w:=by
 rw[←Lu] at h
 obtain⟨x,y,e,b,c⟩:=Ct h
 exact⟨x,y,e,b,aD.lays.1 c⟩
theorem VS {a:gF} (k0:aD bJ a.inp x0 w) (b:aD fS a.lays x1 w):Rp w (Ap a) [x0,x1]:=by
 rw[←Lu]
 exact VT (m:=a.ba) k0 (aD.lays.2 b)
end
theorem ym (a:cm):(fS a).size=9:=rfl
instance:eO fS:=⟨.st [.c 2,.c 2,.c 2,.c 2,.c 2,.c 2,.c 2,.sl (.st [.c 0,.sl (.c 1),.sl (.c 1)]),.sl (.st [.c 0,.sl (.c 1),.sl (.c 1)])],λa=>by
 simp only[fS,bJ,de,gS,pc]
 exact⟨trivial,trivial,trivial,trivial,trivial,trivial,trivial,kX (f:=dQ) _,kX (f:=dQ) _,trivial⟩⟩
theorem WL:(Tryz.prog.info? 78).map (λi=>(i.zero,i.size,i.bytes))=some (some (.agg #[I 0,I 0,I 0,I 0,I 0,I 0,I 0,.slice none 0 0,.slice none 0 0]),[2,2,2,2,2,2,2,3,3].length,104):=by kernel_rfl
theorem ME:(Tryz.prog.info? 78).map (λi=>(i.zero,i.size))=some (some (.agg #[I 0,I 0,I 0,I 0,I 0,I 0,I 0,.slice none 0 0,.slice none 0 0]),[2,2,2,2,2,2,2,3,3].length):=by kernel_rfl
abbrev uk (base:Nat) (l:List cm):cT:=bC 78 [2,2,2,2,2,2,2,3,3] base fS l
theorem A3 (a:cm):fe [2,2,2,2,2,2,2,3,3] (fS a):=Db (nM (rj _) (nM (rj _) (nM (rj _) (nM (rj _) (nM (rj _) (nM (rj _) (nM (rj _) (nM (yM (λ_=>wZ aF _) (λ_ _=>pk.not aF _)) (nM (yM (λ_=>wZ aF _) (λ_ _=>pk.not aF _)) Da)))))))))
theorem Dh {base:Nat} {l m:List cm} {x:Value} (h:uk base l v w) (b:aD fS m x w) (c:l.length+m.length≤1099511627776) (a:base≤w.heap.size):
 ∃r w1,(Builtin.append_ #[23,23] ty #[v,x]).run Tryz.prog w=.ok r w1∧uk base (l++m) r w1∧d9 w w1 v r:=
 bC.c4 dP WL rfl rfl aF G (λ_=>rfl) A3 h b G a
theorem CU {a:cm} {c:List Value} (h:Rp w (fS a) c):∃r w',(Instr.buildSlice 23 1 #[(0,.agg c.toArray)]).run Tryz.prog w=.ok r w'∧ao w w'∧aD fS [a] r w':=
 Dp dP ME rfl aF (λ_=>rfl) aF h
theorem uk.bY {base:Nat} {l:List cm} (h:uk base l v w):aD fS l v w:=h.ds (λ_=>rfl) aF
theorem K4:aY Tryz.prog 173:=⟨_,Tryz.func173,am,rfl⟩
def li:cm:=⟨5,0,0,0,0,0,0,[],[]⟩
theorem Xf (i:Int):fJ li.ba i=true:=by
 rw[CM rfl rfl,qU,yE (.inl rfl)]
 exact⟨H,H,H,H⟩
theorem Xg {l:cm}:lV j ((List.replicate i li++[l]).map cm.ba)=fJ l.ba ((j+i:Nat):Int):=by
 induction i generalizing j with
 |zero=>simp[lV]
 |succ k a=>
  rw[EJ,nU,iy]
  show(fJ li.ba j&&lV (j+1) _)=_
  rw[Xf,a,Bw,show j+1+k=j+(k+1) by omega]
theorem PM {l:cm}:gl (⟨[1],List.replicate i li++[l]⟩:gF).ba=(decide (i≤63)&&fJ l.ba i):=by
 show(dF [1]&&decide (((List.replicate i li++[l]).map cm.ba).length≤64)&&lV 0 ((List.replicate i li++[l]).map cm.ba))=_
 rw[Xg,show dF [1]=true from aF,Bw,gB,dN,cr,zw,qw]
 congr 1
 exact cA.2 G
def ry (l:cm):Prop:=lB (l.ws.map qi)∧lB (l.bs.map qi)
theorem aaf:ry li:=⟨λq h=>by simp[li] at h,λq h=>by simp[li] at h⟩
theorem Pk {l:cm} (h:ry l):qh (⟨[1],List.replicate i li++[l]⟩:gF).ba:=λm hm=>by
 obtain⟨k,a,rfl⟩:=fF.1 hm
 rcases oK.1 a with a|a
 ·rw[List.eq_of_mem_replicate a];exact aaf
 ·obtain rfl:k=l:=by simpa using a
  exact h
theorem JL {l:cm} {x:Value} (hx:aD dQ l.ws x w) (hy:aD dQ l.bs y w) (hs:ry l) (hi:i≤64):
 Calls Tryz.prog 173 #[.agg #[I l.kd,I l.fr,I l.ou,I l.kh,I l.kw,I l.sr,I l.pd,x,y],I (i:Int)] w (aJ λr w'=>ao w w'∧r=B (decide (i≤63)&&fJ l.ba i)):=by
 refine enter (vs:=[.agg #[I l.kd,I l.fr,I l.ou,I l.kh,I l.kw,I l.sr,I l.pd,x,y],I (i:Int)]) Tryz.func173 H H H ?_
 obtain⟨ai,aj⟩:=hs
 refine T (cE H H λg2 w2 l2 L k2=>(Z H (bB ?_)))
 obtain⟨Q,R,ag,o,h⟩:=tQ (w:=w2) (1)
 refine dJ (vs:=[(0,I 1)]) H ag (dY (r:=.agg #[Q,.slice none 0 0]) H (by obtain⟨_,_,_,rfl⟩:=h.a9;exact run_build _ _ _ _ am) (cM vl H λM w5 z x5 k5=>cl H H k5 H eR (ay.a1 h.one (ay.a1 H ay.nil)) λaV av ak=>?_))
 have ax:=ao.a2 (x5) av z
 refine O (ah (T (Z H (O (aR (fp (λ(j:Nat) (u:Value)=>[(1,I (i:Int)),(2,.pointer (some ⟨g2,0,none⟩)),(5,.pointer (some ⟨M,0,none⟩)),(6,I (j:Int))]) (λ(j:Nat) (u:Value) w'=>ao R w'∧j≤i∧bm M 25 [Q,u] w'∧uk R.heap.size (List.replicate j li) u w') (λ(j:Nat) (u:Value)=>i-j) (0) (.slice none 0 0) (aP H) ⟨ax,G,ak,bC.nil _⟩ ?_))))))
 rintro j u S ⟨d,hj,n,b⟩
 refine ah (ah ?_)
 obtain⟨q,k⟩:∃q,q=List.replicate j li:=⟨_,rfl⟩
 rw[←k] at b
 have aG:q.length=j:=by rw[k,zw]
 refine ap (J H (J H (U H (bO) (O (bc H (λaa=>?_) (λaa=>?_))))))
 ·refine aH (al (ah (aR (ap (c H (gE) (Y H (D dP H (n.cell (i:=1) H)) ?_))))))
  refine dY (r:=.agg #[I 5,I 0,I 0,I 0,I 0,I 0,I 0,.slice none 0 0,.slice none 0 0]) H (by exact run_build _ _ _ _ am) ?_
  obtain⟨aK,aQ,ab,e,W⟩:=CU (w:=S) (wj (a:=(⟨5,0,0,0,0,0,0,[],[]⟩:cm)) (aD.nil _ _) (aD.nil _ _))
  refine dJ (vs:=[(0,.agg #[I 5,I 0,I 0,I 0,I 0,I 0,I 0,.slice none 0 0,.slice none 0 0])]) H ab ?_
  obtain⟨aL,aT,ad,A,g18⟩:=Dh (ty:=23) (b.aL e) W fZ ((d.ai e)).size
  refine dW H ad ?_
  have aw:=ao.a6 ((d.ai e)) g18 ((b.aL e)).ge
  have m18:=((b.aL e)).b3 g18 aF
  have N:=(n.aL e)
  have t:=(N.a4 g18.grown (cQ N (b.aL e)))
  refine c H (gE) (jQ H H t DO A.one H λaZ F an=>?_)
  have aE:=ao.a2 (aw) F z
  have ar:=Kq.br (p:=[3,3]) t (aS h.kd (aS b.kd dj)) F
  refine f (bE (al (ap (J H (U H cD (Z H (f (eI (j+1) (_) (aP H) ⟨aE,G,an,by rw[I0,←k];exact(bC.st A3 A ar F (cQ t A).symm aF)⟩ G))))))))
 ·refine ce (aU (aU (cg (al (ah ?_)))))
  obtain rfl:j=i:=by omega
  refine ap (c H (gE) (Y H (D dP H (n.cell (i:=1) H)) (Y H ((k2.aL (o.ai d)).ld dG H eJ) ?_)))
  obtain⟨aN,aW,ae,g,X⟩:=CU (w:=S) (wj (a:=l) (hx.aL ((L.ai o).ai d)) (hy.aL ((L.ai o).ai d)))
  refine dJ (vs:=[(0,.agg #[I l.kd,I l.fr,I l.ou,I l.kh,I l.kw,I l.sr,I l.pd,x,y])]) H ae ?_
  obtain⟨v24,aX,af,C,s⟩:=Dh (ty:=23) (b.aL g) X fZ ((d.ai g)).size
  refine dW H af ?_
  have az:=ao.a6 ((d.ai g)) s ((b.aL g)).ge
  have aI:=((b.aL g)).b3 s aF
  have P:=(n.aL g)
  have v:=(P.a4 s.grown (cQ P (b.aL g)))
  refine c H (gE) (jQ H H v DO C.one H λa0 K aq=>?_)
  have V:=ao.a2 (az) K z
  have au:=Kq.br (p:=[3,3]) v (aS h.kd (aS b.kd dj)) K
  refine bB (Y H (aq.ld fz H eR) (aC F1 H H ((Fk (m:=(⟨[1],List.replicate j li++[l]⟩:gF).ba) (h.aL V) (aD.lays.2 (by have h9:=uk.bY (bC.st A3 C au K (cQ v C).symm aF);rwa [k] at h9)) (Pk ⟨ai,aj⟩))) ?_))
  rintro aO aY ⟨aB,rfl⟩
  refine Z H (O (aA (aM H ?_)))
  exact⟨_,H,(((L.ai o).ai V).ai aB),by rw[PM]⟩
theorem Vd:aY Tryz.prog 92:=⟨_,Tryz.func92,am,rfl⟩
def xV (a f:List Int) (l:cm) (s:List Int):Prop:=
 (l.kd=1∧(l.ws.length:Int)=l.ou*cS a∧s=[l.ou])∨
 (l.kd=2∧∃n h d R C,a=[n,h,d]∧iP n h d l.kh.toNat l.kw.toNat l.sr l.pd R C∧(l.ws.length:Int)=l.ou*n*l.kh*l.kw∧s=[l.ou,(R:Int),(C:Int)])∨
 ((l.kd=3∨l.kd=4)∧∃n h d R C,a=[n,h,d]∧iP n h d l.kh.toNat l.kw.toNat l.sr l.pd R C∧s=[n,(R:Int),(C:Int)])∨
 (l.kd=5∧s=a)∨(l.kd=6∧s=[cS a])∨(l.kd=7∧f=a∧s=a)
structure qE (S:Nat→List Int) (i:Nat) (l:cm) (s:List Int):Prop where
 ok:fJ l.ba i=true
 le:i≤63
 sa:dF (S i)=true
 so:dF s=true
 c:xV (S i) (S (l.fr+1).toNat) l s
abbrev dy (inp:List Int) (shs:List (List Int)):Nat→List Int:=λj=>(inp::shs).getD j []
theorem DQ {n:Int} (a:1≤n) (b:n≤16384):dF [n]=true:=by
 show(decide (1≤[n].length∧[n].length≤4)&&(decide (1≤n∧n≤16384∧1*n≤16384)&&iG (1*n) []))=true
 rw[dH (p:=1≤n∧_) ⟨a,b,G⟩]
 rfl
theorem rk {l:List Int} (h:dF l=true):1≤cS l∧cS l≤16384:=by
 obtain⟨_,hs⟩:=vd h
 suffices ∀(l:List Int) (s:Int),1≤s→s≤16384→iG s l=true→1≤l.foldl (· * ·) s∧l.foldl (· * ·) s≤16384 from this l 1 G G hs
 intro l
 induction l with
 |nil=>intro s a b _;exact⟨a,b⟩
 |cons d l g=>
  intro s a b h
  rw[iG,ex,gI] at h
  obtain⟨⟨c,i,e⟩,f⟩:=h
  exact g (s*d) (by have:=gz a c G G;omega) e f
theorem Xe {l:cG} {i:Int} (h:iE l i):l.kd=1∨l.kd=2∨l.kd=3∨l.kd=4∨l.kd=5∨l.kd=6∨l.kd=7:=by
 by_cases a:1≤l.kd∧l.kd≤7
 ·omega
 ·exact absurd h (CK a)
theorem MJ {l:cG} (h:lU l=true):(1≤l.kh∧l.kh≤64)∧(1≤l.kw∧l.kw≤64)∧(1≤l.sr∧l.sr≤64):=ip h
theorem HS {inp:List Int} {shs:List (List Int)} (a:dF inp=true) (h:∀s∈shs,dF s=true) (b:j≤shs.length):dF (dy inp shs j)=true:=by
 cases j with
 |zero=>exact a
 |succ k=>
  show dF ((inp::shs).getD (k+1) [])=true
  rw[EE,mU,fy (show k<shs.length by omega)]
  exact h _ (eK _)
theorem lY {inp:List Int} {shs:List (List Int)} (a:j<shs.length):dy inp shs (j+1)=shs[j]:=by
 show(inp::shs).getD (j+1) []=_
 rw[EE,mU,fy a]
 rfl
theorem AE {l:cm} {i:Int} (h:fJ l.ba i=true):iE l.ba i:=by
 unfold fJ at h
 rw[ex,gI] at h
 exact h.2
theorem MX {l:List Rat}:(l.map qi).length=l.length:=dN _
theorem GY {l:cm} {i:Int} (h:fJ l.ba i=true) (d:l.kd=1):l.fr=0∧(1≤l.ou∧l.ou≤16384)∧(l.bs.length:Int)=l.ou:=by
 obtain⟨_,a,b,c,_⟩:=(wO (l:=l.ba) d).1 (AE h)
 exact⟨a,b,by rw[←MX (l:=l.bs)];exact c⟩
theorem CZ {l:cm} {i:Int} (h:fJ l.ba i=true) (j:l.kd=2):((1≤l.kh∧l.kh≤64)∧(1≤l.kw∧l.kw≤64)∧(1≤l.sr∧l.sr≤64))∧l.fr=0∧(0≤l.pd∧l.pd<l.kh∧l.pd<l.kw)∧(1≤l.ou∧l.ou≤16384)∧(l.bs.length:Int)=l.ou:=by
 obtain⟨a,b,c,d,e,f,g,_⟩:=(sJ (l:=l.ba) j).1 (AE h)
 exact⟨MJ a,b,⟨c,d,e⟩,f,by rw[←MX (l:=l.bs)];exact g⟩
theorem sL {l:cm} {i:Int} (h:fJ l.ba i=true) (e:l.kd=3∨l.kd=4):((1≤l.kh∧l.kh≤64)∧(1≤l.kw∧l.kw≤64)∧(1≤l.sr∧l.sr≤64))∧l.fr=0∧l.pd=0∧l.ou=0:=by
 obtain⟨a,b,c,d,_⟩:=(wP (l:=l.ba) e).1 (AE h)
 exact⟨MJ a,b,c,d⟩
theorem AI {l:cm} {i:Int} (h:fJ l.ba i=true) (a:l.kd=7): -1≤l.fr∧l.fr≤i-1:=
 ((yF (l:=l.ba) a).1 (AE h)).2.1
theorem C0 {l:cm} {i:Int} (h:fJ l.ba i=true):l.kd=1∨l.kd=2∨l.kd=3∨l.kd=4∨l.kd=5∨l.kd=6∨l.kd=7:=Xe (l:=l.ba) (AE h)
theorem SJ {inp:List Int} {shs:List (List Int)} {l:cm} {x:Value} (hv:aD bJ inp v w) (hu:aD fN shs u w) (hx:aD dQ l.ws x w) (hy:aD dQ l.bs y w) (hs:ry l) (hi:shs.length≤64) (h0:dF inp=true) (bM:∀s∈shs,dF s=true):
 Calls Tryz.prog 92 #[v,u,.agg #[I l.kd,I l.fr,I l.ou,I l.kh,I l.kw,I l.sr,I l.pd,x,y]] w (aJ λr w'=>ao w w'∧((∃z s,r=.tuple #[z,I 0]∧aD bJ s z w'∧qE (dy inp shs) shs.length l s)∨∃z e,r=.tuple #[z,I e]∧e≠0)):=by
 refine enter (vs:=[v,u,.agg #[I l.kd,I l.fr,I l.ou,I l.kh,I l.kw,I l.sr,I l.pd,x,y]]) Tryz.func92 H H H (T (cE H H λg5 w5 l5 x5 k5=>(Z H (Z H (O (ah (ah ?_)))))))
 rcases hL:(decide (shs.length≤63)&&fJ l.ba shs.length)
 ·refine ap (J H (aC sd H H ((by have h:=rY (l:=inp) (hv.aL x5);rw[h0] at h;exact h)) ?_))
  rintro co ct ⟨aG,rfl⟩
  refine cP H cW (J H (V H (Y H ((k5.aL aG).ld dG H eJ) (V H (J H ?_)))))
  have e4:=x5.ai aG
  refine V H (aW H (bP gC (hu.aL e4)) (V H (aC K4 H H ((by have h:=JL (l:=l) (i:=shs.length) (hx.aL e4) (hy.aL e4) hs hi;rw[hL] at h;exact h)) ?_)))
  rintro cp cv ⟨a3,rfl⟩
  refine V H (cP H cW (t H (O (bT H (T (Z H (Z H (O (aA (aI (dt H ?_)))))))))))
  exact⟨_,H,(e4.ai a3),.inr ⟨_,1,H,G⟩⟩
 ·obtain⟨au,ad⟩:shs.length≤63∧fJ l.ba shs.length=true:=by simpa using hL
  refine ap (J H (aC sd H H ((by have h:=rY (l:=inp) (hv.aL x5);rw[h0] at h;exact h)) ?_))
  rintro co ct ⟨aG,rfl⟩
  refine cP H cW (J H (V H (Y H ((k5.aL aG).ld dG H eJ) (V H (J H ?_)))))
  have e5:=x5.ai aG
  refine V H (aW H (bP gC (hu.aL e5)) (V H (aC K4 H H ((by have h:=JL (l:=l) (i:=shs.length) (hx.aL e5) (hy.aL e5) hs hi;rw[hL] at h;exact h)) ?_)))
  rintro cp cv ⟨a3,rfl⟩
  refine V H (cP H cW (t H (O (be H (aH (al (T (J H (Z H (O (ah (T (Z H (O (aR (fp (λ(j:Nat) (v8:Value)=>[(0,v),(1,u),(5,.pointer (some ⟨g5,0,none⟩)),(8,v8),(9,I (j:Int))]) (λ(j:Nat) (v8:Value) w'=>ao w w'∧j≤shs.length∧bm g5 78 [I l.kd,I l.fr,I l.ou,I l.kh,I l.kw,I l.sr,I l.pd,x,y] w'∧aD bJ (dy inp shs j) v8 w') (λ(j:Nat) (v8:Value)=>shs.length-j) (0) (v) (aP H) ⟨(e5.ai a3),G,(k5.aL (aG.ai a3)),(hv.aL (e5.ai a3))⟩ ?_))))))))))))))))
  rintro j v8 wA ⟨o,hj,b,K⟩
  refine ah (ah ?_)
  obtain⟨A,aa⟩:∃A,A=dy inp shs j:=⟨_,rfl⟩
  have Q:dF A=true:=by rw[aa];exact HS h0 bM hj
  rw[←aa] at K
  refine ap (J H (J H (aW H (bP gC (hu.aL o)) (U H (bO) (O (bc H (λb4=>?_) (λb4=>?_)))))))
  ·refine aH (al (ah (aR (ah (T (J H (J H ?_)))))))
   obtain⟨cC,cH,cc,ch,bC⟩:=bX (P:=Tryz.prog) (sz:=1) gC am lR G (hu.aL o) (i:=j) (G) .i64
   obtain⟨bz,bI⟩:∃e,e=shs[j]'G:=⟨_,rfl⟩
   rw[←bI] at bC
   obtain⟨c2,rfl,b2⟩:=mi bC
   refine bF H (cc _) (Y H (D cd H ch.cell0) (aC sd H H ((by have h:=rY (l:=bz) b2;rw[show dF bz=true by rw[bI];exact bM _ (eK _)] at h;exact h)) ?_))
   rintro v37 cZ ⟨br,rfl⟩
   refine cP H cW (O (be H (aH (al (ap (J H (J H ?_)))))))
   obtain⟨cG,cI,cf,ci,bG⟩:=bX (P:=Tryz.prog) (sz:=1) gC am lR G (hu.aL (o.ai br)) (i:=j) G .i64
   obtain⟨cJ,bK⟩:∃e,e=shs[j]'G:=⟨_,rfl⟩
   rw[←bK] at bG
   obtain⟨c3,rfl,b3⟩:=mi bG
   refine bF H (cf _) (Y H (D cd H ci.cell0) (Z H (f (bE (al (ap (J H (U H cD (Z H (f (eI (j+1) (_) (aP H) ⟨(o.ai br),G,(b.aL br),by rw[lY G,←bK];exact b3⟩ G)))))))))))
  ·refine ce (aU (aU (cg (al (ah ?_)))))
   obtain rfl:j=shs.length:=by omega
   have cK:dF A=true:=Q
   obtain⟨bL,a9⟩:=rk Q
   refine ap (J H (aC Am H H ((zM (l:=A) K Q)) ?_))
   rintro cT bV ⟨a,rfl⟩
   refine Z H (O (ah (ah ?_)))
   rcases C0 ad with hk|hk|hk|hk|hk|hk|hk
   ·obtain⟨hf,⟨a8,aN⟩,b5⟩:=GY ad hk
    have cL:0≤l.ou*cS A∧l.ou*cS A≤16384*16384:=⟨iI G G,gz aN a9 G G⟩
    rcases(show(l.ws.length:Int)≠l.ou*cS A∨(l.ws.length:Int)=l.ou*cS A by omega) with hW|hW
    ·refine ap (c H (et) (Y H (D aE H (a.a0 (b.cell (i:=0) H))) ?_))
     refine O (aR (T (U H (cu G aV) (Z H (O (bT H (ah (T (c H (gJ) (Y H (D cn H (a.a0 (b.cell (i:=7) H))) (aW H (bP cn (hx.aL (o.ai a))) (c H (f9) (Y H (D aE H (a.a0 (b.cell (i:=2) H))) (J H (U (r:=I (l.ou*cS A)) H (by have e:(l.ou*cS A:Int)=l.ou*(cS A):=G;rw[e];exact dh G G) (U H (cu G dZ) (O (bT H (T (Z H (Z H (O (aA (aI (bD (aI (dt H ?_)))))))))))))))))))))))))))
     exact⟨_,H,(o.ai a),.inr ⟨_,7,H,G⟩⟩
    ·refine ap (c H (et) (Y H (D aE H (a.a0 (b.cell (i:=0) H))) ?_))
     refine O (aR (T (U H (cu G aV) (Z H (O (bT H (ah (T (c H (gJ) (Y H (D cn H (a.a0 (b.cell (i:=7) H))) (aW H (bP cn (hx.aL (o.ai a))) (c H (f9) (Y H (D aE H (a.a0 (b.cell (i:=2) H))) (J H (U (r:=I (l.ou*cS A)) H (by have e:(l.ou*cS A:Int)=l.ou*(cS A):=G;rw[e];exact dh G G) (U H (aX G dZ) (O (be H (aH (al (T (c H (f9) (Y H (D aE H (a.a0 (b.cell (i:=2) H))) ?_)))))))))))))))))))))))
     obtain⟨cU,c0,b8,cA,bZ⟩:=tQ (w:=bV) (l.ou)
     refine dJ (vs:=[(0,I l.ou)]) H b8 (aC qQ H H ((uq bZ (DQ a8 aN))) ?_)
     rintro cV c1 ⟨cB,cO,rfl,cb⟩
     refine aZ H (dm) (aZ H (dn) (Z H (Z H (O (aA (bD (aI (dt H ?_))))))))
     exact⟨_,H,(((o.ai a).ai cA).ai cB),.inl ⟨_,_,H,cb,ad,au,by rw[←aa];exact Q,DQ a8 aN,by rw[←aa];exact .inl ⟨hk,hW,H⟩⟩⟩
   ·obtain⟨⟨⟨h1,h2⟩,⟨h3,h4⟩,⟨h5,h6⟩⟩,hf,⟨h7,h8,h9⟩,⟨a8,aN⟩,b5⟩:=CZ ad hk
    have ae:((l.kh.toNat:Nat):Int)=l.kh:=G
    have af:((l.kw.toNat:Nat):Int)=l.kw:=G
    rcases Classical.em (∃n h d R C,A=[n,h,d]∧iP n h d l.kh.toNat l.kw.toNat l.sr l.pd R C) with N|N
    ·obtain⟨n,h,d,R,C,L,N⟩:=N
     have hn:n=A[0]'(by rw[L];simp):=by subst L;rfl
     obtain⟨⟨cM,b6⟩,_,_⟩:=vc (by rw[←L];exact Q)
     have m1:0≤l.ou*n∧l.ou*n≤16384*16384:=⟨iI G G,gz aN b6 G G⟩
     have m2:0≤l.ou*n*l.kh∧l.ou*n*l.kh≤268435456*64:=⟨iI m1.1 G,gz m1.2 h2 G G⟩
     have m3:0≤l.ou*n*l.kh*l.kw∧l.ou*n*l.kh*l.kw≤17179869184*64:=⟨iI m2.1 G,gz m2.2 h4 G G⟩
     rcases(show(l.ws.length:Int)≠l.ou*n*l.kh*l.kw∨(l.ws.length:Int)=l.ou*n*l.kh*l.kw by omega) with hW|hW
     ·refine ap (c H (et) (Y H (D aE H (a.a0 (b.cell (i:=0) H))) ?_))
      refine O (aR (T (U H (aX G aV) (Z H (O (be H (ah (T (U H (cu G aV) (Z H (O (bT H (aH (al (bT H (T (J H (c H (gq) (Y H (D aE H (a.a0 (b.cell (i:=3) H))) (c H (gt) (Y H (D aE H (a.a0 (b.cell (i:=4) H))) (c H (js) (Y H (D aE H (a.a0 (b.cell (i:=5) H))) (c H (ik) (Y H (D aE H (a.a0 (b.cell (i:=6) H))) (aC se H H ((by have h:=vG (L▸(K.aL a)) N;rwa [ae,af] at h)) ?_))))))))))))))))))))))))))
      rintro ak an ⟨k,aj,rfl,aF⟩
      refine J H (aZ H (sZ) (aZ H (tc) (aZ H (td) (aZ H (te) (Z H (Z H (Z H (Z H (O (ah (ah (cz 24 [5,8,12,13,84,105] am am (W H (bn H (λw _=>aX G dZ) (W H (X H (bH H (λw g=>et) ?_)))))))))))))))))
      have e1:=a.ai k
      refine X H (aQ H (λw g=>D aE H (g.a0 (e1.a0 (b.cell (i:=0) H)))) (X H (bn H (λw _=>cu G aV) (X H (W H (X H (bH H (λw g=>gJ) (X H (aQ H (λw g=>D cn H (g.a0 (e1.a0 (b.cell (i:=7) H)))) (X H (mE (vs:=[x]) H (λw g=>bP cn ((hx.aL ((o.ai a).ai k)).aL g)) (X H (bH H (λw g=>f9) (X H (aQ H (λw g=>D aE H (g.a0 (e1.a0 (b.cell (i:=2) H)))) (X H (W H (X H ?_))))))))))))))))))
      obtain⟨bt,bx,a0,a1,ar⟩:=bX (P:=Tryz.prog) (sz:=1) Tryz.underlying22 am el G (K.aL e1) (i:=0) ((by rw[L];simp)) .i64
      rw[←hn] at ar
      obtain rfl:=er ar
      refine cF H (λw _=>a0 w) (X H (aQ H (λw g=>D aE H (g.a0 a1.cell0)) (X H (bn (r:=I (l.ou*n)) H (λw _=>by have e:(l.ou*n:Int)=l.ou*n:=G;rw[e];exact dh G G) (X H (bH H (λw g=>gq) (X H (aQ H (λw g=>D aE H (g.a0 (e1.a0 (b.cell (i:=3) H)))) (X H (bn (r:=I (l.ou*n*l.kh)) H (λw _=>by have e:(l.ou*n*l.kh:Int)=(l.ou*n)*l.kh:=G;rw[e];exact dh G G) (X H (bH H (λw g=>gt) (X H (aQ H (λw g=>D aE H (g.a0 (e1.a0 (b.cell (i:=4) H)))) (X H (bn (r:=I (l.ou*n*l.kh*l.kw)) H (λw _=>by have e:(l.ou*n*l.kh*l.kw:Int)=(l.ou*n*l.kh)*l.kw:=G;rw[e];exact dh G G) (X H (bn H (λw _=>cu G dZ) (X H (jN H (cq ?_)))))))))))))))))))))
      rintro ab p _ rfl _ S
      obtain rfl:=bU S
      rintro _ rfl _ rfl _ rfl _ rfl
      refine t H (O (bT H (T (Z H (Z H (O (aA (aI (bD (aI (dt H ?_)))))))))))
      exact⟨_,H,(((o.ai a).ai k).ai p),.inr ⟨_,7,H,G⟩⟩
     ·rcases hS:dF [l.ou,(R:Int),(C:Int)]
      ·refine ap (c H (et) (Y H (D aE H (a.a0 (b.cell (i:=0) H))) ?_))
       refine O (aR (T (U H (aX G aV) (Z H (O (be H (ah (T (U H (cu G aV) (Z H (O (bT H (aH (al (bT H (T (J H (c H (gq) (Y H (D aE H (a.a0 (b.cell (i:=3) H))) (c H (gt) (Y H (D aE H (a.a0 (b.cell (i:=4) H))) (c H (js) (Y H (D aE H (a.a0 (b.cell (i:=5) H))) (c H (ik) (Y H (D aE H (a.a0 (b.cell (i:=6) H))) (aC se H H ((by have h:=vG (L▸(K.aL a)) N;rwa [ae,af] at h)) ?_))))))))))))))))))))))))))
       rintro ak an ⟨k,aj,rfl,aF⟩
       refine J H (aZ H (sZ) (aZ H (tc) (aZ H (td) (aZ H (te) (Z H (Z H (Z H (Z H (O (ah (ah (cz 24 [5,8,12,13,84,105] am am (W H (bn H (λw _=>aX G dZ) (W H (X H (bH H (λw g=>et) ?_)))))))))))))))))
       have e2:=a.ai k
       refine X H (aQ H (λw g=>D aE H (g.a0 (e2.a0 (b.cell (i:=0) H)))) (X H (bn H (λw _=>cu G aV) (X H (W H (X H (bH H (λw g=>gJ) (X H (aQ H (λw g=>D cn H (g.a0 (e2.a0 (b.cell (i:=7) H)))) (X H (mE (vs:=[x]) H (λw g=>bP cn ((hx.aL ((o.ai a).ai k)).aL g)) (X H (bH H (λw g=>f9) (X H (aQ H (λw g=>D aE H (g.a0 (e2.a0 (b.cell (i:=2) H)))) (X H (W H (X H ?_))))))))))))))))))
       obtain⟨bt,bx,a0,a1,ar⟩:=bX (P:=Tryz.prog) (sz:=1) Tryz.underlying22 am el G (K.aL e2) (i:=0) ((by rw[L];simp)) .i64
       rw[←hn] at ar
       obtain rfl:=er ar
       refine cF H (λw _=>a0 w) (X H (aQ H (λw g=>D aE H (g.a0 a1.cell0)) (X H (bn (r:=I (l.ou*n)) H (λw _=>by have e:(l.ou*n:Int)=l.ou*n:=G;rw[e];exact dh G G) (X H (bH H (λw g=>gq) (X H (aQ H (λw g=>D aE H (g.a0 (e2.a0 (b.cell (i:=3) H)))) (X H (bn (r:=I (l.ou*n*l.kh)) H (λw _=>by have e:(l.ou*n*l.kh:Int)=(l.ou*n)*l.kh:=G;rw[e];exact dh G G) (X H (bH H (λw g=>gt) (X H (aQ H (λw g=>D aE H (g.a0 (e2.a0 (b.cell (i:=4) H)))) (X H (bn (r:=I (l.ou*n*l.kh*l.kw)) H (λw _=>by have e:(l.ou*n*l.kh*l.kw:Int)=(l.ou*n*l.kh)*l.kw:=G;rw[e];exact dh G G) (X H (bn H (λw _=>aX G dZ) (X H (jN H (cq ?_)))))))))))))))))))))
       rintro ab p _ rfl _ S
       obtain rfl:=bU S
       rintro _ rfl _ rfl _ rfl _ rfl
       refine t H (O (be H (aH (al (ah (T (c H (et) (Y H (D aE H ((e2.ai p).a0 (b.cell (i:=0) H))) (U H (cu G aV) (O (bT H (T (c H (f9) (Y H (D aE H ((e2.ai p).a0 (b.cell (i:=2) H))) (J H (J H ?_))))))))))))))))
       obtain⟨ck,cr,ba,bp,a5⟩:=tP (w:=ab) (l.ou) ((R:Int)) ((C:Int))
       refine dJ (vs:=[(0,I l.ou),(1,I (R:Int)),(2,I (C:Int))]) H ba (aC qQ H H ((Fj a5 hS)) ?_)
       rintro cl cs ⟨bq,cj,rfl⟩
       refine aZ H (dm) (aZ H (dn) (Z H (Z H (O (aA (aI (bD (aI (dt H ?_)))))))))
       exact⟨_,H,(((((o.ai a).ai k).ai p).ai bp).ai bq),.inr ⟨_,7,H,G⟩⟩
      ·refine ap (c H (et) (Y H (D aE H (a.a0 (b.cell (i:=0) H))) ?_))
       refine O (aR (T (U H (aX G aV) (Z H (O (be H (ah (T (U H (cu G aV) (Z H (O (bT H (aH (al (bT H (T (J H (c H (gq) (Y H (D aE H (a.a0 (b.cell (i:=3) H))) (c H (gt) (Y H (D aE H (a.a0 (b.cell (i:=4) H))) (c H (js) (Y H (D aE H (a.a0 (b.cell (i:=5) H))) (c H (ik) (Y H (D aE H (a.a0 (b.cell (i:=6) H))) (aC se H H ((by have h:=vG (L▸(K.aL a)) N;rwa [ae,af] at h)) ?_))))))))))))))))))))))))))
       rintro ak an ⟨k,aj,rfl,aF⟩
       refine J H (aZ H (sZ) (aZ H (tc) (aZ H (td) (aZ H (te) (Z H (Z H (Z H (Z H (O (ah (ah (cz 24 [5,8,12,13,84,105] am am (W H (bn H (λw _=>aX G dZ) (W H (X H (bH H (λw g=>et) ?_)))))))))))))))))
       have e3:=a.ai k
       refine X H (aQ H (λw g=>D aE H (g.a0 (e3.a0 (b.cell (i:=0) H)))) (X H (bn H (λw _=>cu G aV) (X H (W H (X H (bH H (λw g=>gJ) (X H (aQ H (λw g=>D cn H (g.a0 (e3.a0 (b.cell (i:=7) H)))) (X H (mE (vs:=[x]) H (λw g=>bP cn ((hx.aL ((o.ai a).ai k)).aL g)) (X H (bH H (λw g=>f9) (X H (aQ H (λw g=>D aE H (g.a0 (e3.a0 (b.cell (i:=2) H)))) (X H (W H (X H ?_))))))))))))))))))
       obtain⟨bt,bx,a0,a1,ar⟩:=bX (P:=Tryz.prog) (sz:=1) Tryz.underlying22 am el G (K.aL e3) (i:=0) ((by rw[L];simp)) .i64
       rw[←hn] at ar
       obtain rfl:=er ar
       refine cF H (λw _=>a0 w) (X H (aQ H (λw g=>D aE H (g.a0 a1.cell0)) (X H (bn (r:=I (l.ou*n)) H (λw _=>by have e:(l.ou*n:Int)=l.ou*n:=G;rw[e];exact dh G G) (X H (bH H (λw g=>gq) (X H (aQ H (λw g=>D aE H (g.a0 (e3.a0 (b.cell (i:=3) H)))) (X H (bn (r:=I (l.ou*n*l.kh)) H (λw _=>by have e:(l.ou*n*l.kh:Int)=(l.ou*n)*l.kh:=G;rw[e];exact dh G G) (X H (bH H (λw g=>gt) (X H (aQ H (λw g=>D aE H (g.a0 (e3.a0 (b.cell (i:=4) H)))) (X H (bn (r:=I (l.ou*n*l.kh*l.kw)) H (λw _=>by have e:(l.ou*n*l.kh*l.kw:Int)=(l.ou*n*l.kh)*l.kw:=G;rw[e];exact dh G G) (X H (bn H (λw _=>aX G dZ) (X H (jN H (cq ?_)))))))))))))))))))))
       rintro ab p _ rfl _ S
       obtain rfl:=bU S
       rintro _ rfl _ rfl _ rfl _ rfl
       refine t H (O (be H (aH (al (ah (T (c H (et) (Y H (D aE H ((e3.ai p).a0 (b.cell (i:=0) H))) (U H (cu G aV) (O (bT H (T (c H (f9) (Y H (D aE H ((e3.ai p).a0 (b.cell (i:=2) H))) (J H (J H ?_))))))))))))))))
       obtain⟨ck,cr,ba,bp,a5⟩:=tP (w:=ab) (l.ou) ((R:Int)) ((C:Int))
       refine dJ (vs:=[(0,I l.ou),(1,I (R:Int)),(2,I (C:Int))]) H ba (aC qQ H H ((uq a5 hS)) ?_)
       rintro cl cs ⟨bq,cj,rfl,b9⟩
       refine aZ H (dm) (aZ H (dn) (Z H (Z H (O (aA (aI (bD (aI (dt H ?_)))))))))
       exact⟨_,H,(((((o.ai a).ai k).ai p).ai bp).ai bq),.inl ⟨_,_,H,b9,ad,au,by rw[←aa];exact Q,hS,by rw[←aa];exact .inr (.inl ⟨hk,n,h,d,R,C,L,N,hW,H⟩)⟩⟩
    ·refine ap (c H (et) (Y H (D aE H (a.a0 (b.cell (i:=0) H))) ?_))
     refine O (aR (T (U H (aX G aV) (Z H (O (be H (ah (T (U H (cu G aV) (Z H (O (bT H (aH (al (bT H (T (J H (c H (gq) (Y H (D aE H (a.a0 (b.cell (i:=3) H))) (c H (gt) (Y H (D aE H (a.a0 (b.cell (i:=4) H))) (c H (js) (Y H (D aE H (a.a0 (b.cell (i:=5) H))) (c H (ik) (Y H (D aE H (a.a0 (b.cell (i:=6) H))) (aC se H H ((by have h:=Fl (K.aL a) Q (kh:=l.kh.toNat) (kw:=l.kw.toNat) (st:=l.sr) (pad:=l.pd) G G G G N;rwa [ae,af] at h)) ?_))))))))))))))))))))))))))
     rintro ak an ⟨k,aj,bs,bu,bw,rfl,bN⟩
     refine J H (aZ H (sZ) (aZ H (tc) (aZ H (td) (aZ H (te) (Z H (Z H (Z H (Z H (O (ah (ah (cz 24 [5,8,12,13,84,105] am am (W H (bn H (λw _=>cu G dZ) (W H (M H (M H (M H (M H (dc H (dc H (dc H (dc H (dc H (dc H (dc H (dc H (dc H (dc H (dc H (dc H (dc H (dc H (dc H (dc H (M H (cq ?_)))))))))))))))))))))))))))))))))))))
     rintro ab p _ rfl _ S
     obtain rfl:=bU S
     rintro _ aO
     obtain rfl:=bU aO
     rintro _ aS
     obtain rfl:=bU aS
     rintro _ rfl _ rfl
     refine bA H (O (bT H (T (Z H (Z H (O (aA (aI (bD (aI (dt H ?_)))))))))))
     exact⟨_,H,(((o.ai a).ai k).ai p),.inr ⟨_,7,H,G⟩⟩
   ·obtain⟨⟨⟨h1,h2⟩,⟨h3,h4⟩,⟨h5,h6⟩⟩,hf,h7,h8⟩:=sL ad (.inl hk)
    have ae:((l.kh.toNat:Nat):Int)=l.kh:=G
    have af:((l.kw.toNat:Nat):Int)=l.kw:=G
    rcases Classical.em (∃n h d R C,A=[n,h,d]∧iP n h d l.kh.toNat l.kw.toNat l.sr l.pd R C) with N|N
    ·obtain⟨n,h,d,R,C,L,N⟩:=N
     have hn:n=A[0]'(by rw[L];simp):=by subst L;rfl
     rcases hS:dF [n,(R:Int),(C:Int)]
     ·refine ap (c H (et) (Y H (D aE H (a.a0 (b.cell (i:=0) H))) ?_))
      refine O (aR (T (U H (aX G aV) (Z H (O (be H (ah (T (U H (aX G aV) (Z H (O (be H (T (U H (cu G aV) (Z H (O (bT H (aH (al (bT H (ah (ap (J H (c H (gq) (Y H (D aE H (a.a0 (b.cell (i:=3) H))) (c H (gt) (Y H (D aE H (a.a0 (b.cell (i:=4) H))) (c H (js) (Y H (D aE H (a.a0 (b.cell (i:=5) H))) (c H (ik) (Y H (D aE H (a.a0 (b.cell (i:=6) H))) (aC se H H ((by have h:=vG (L▸(K.aL a)) N;rwa [ae,af] at h)) ?_))))))))))))))))))))))))))))))))
      rintro ak an ⟨k,aj,rfl,aF⟩
      refine J H (aZ H (sZ) (aZ H (tc) (aZ H (td) (aZ H (te) (Z H (Z H (Z H (Z H (O (ah (ah (cz 24 [5,8,12,13,84,105] am am (W H (bn H (λw _=>aX G dZ) (W H (X H (bH H (λw g=>et) (X H (aQ H (λw g=>D aE H (g.a0 ((a.ai k).a0 (b.cell (i:=0) H)))) (X H (bn H (λw _=>aX G aV) (X H (W H (M H (M H (M H (M H (M H (M H (M H (M H (M H (M H (M H (M H (M H (M H (M H (M H (X H (gV H (cq ?_))))))))))))))))))))))))))))))))))))))))))
      rintro ab p _ rfl _ S
      obtain rfl:=bU S
      rintro _ rfl _ rfl _ rfl _ rfl
      refine t H (O (be H (aH (al (ah (T (c H (et) (Y H (D aE H (((a.ai k).ai p).a0 (b.cell (i:=0) H))) (U H (aX G aV) (O (be H (aH (al (T (J H ?_)))))))))))))))
      obtain⟨a4,a6,ax,ay,ag⟩:=bX (P:=Tryz.prog) (sz:=1) Tryz.underlying22 am el G (K.aL ((a.ai k).ai p)) (i:=0) ((by rw[L];simp)) .i64
      rw[←hn] at ag
      obtain rfl:=er ag
      refine bF H (ax _) (Y H (D aE H ay.cell0) (J H (J H ?_)))
      obtain⟨bg,bk,aw,az,av⟩:=tP (w:=ab) (n) ((R:Int)) ((C:Int))
      refine dJ (vs:=[(0,I n),(1,I (R:Int)),(2,I (C:Int))]) H aw (aC qQ H H ((Fj av hS)) ?_)
      rintro bh bl ⟨aB,bf,rfl⟩
      refine aZ H (dm) (aZ H (dn) (Z H (Z H (O (aA (bD (aI (dt H ?_))))))))
      exact⟨_,H,(((((o.ai a).ai k).ai p).ai az).ai aB),.inr ⟨_,7,H,G⟩⟩
     ·refine ap (c H (et) (Y H (D aE H (a.a0 (b.cell (i:=0) H))) ?_))
      refine O (aR (T (U H (aX G aV) (Z H (O (be H (ah (T (U H (aX G aV) (Z H (O (be H (T (U H (cu G aV) (Z H (O (bT H (aH (al (bT H (ah (ap (J H (c H (gq) (Y H (D aE H (a.a0 (b.cell (i:=3) H))) (c H (gt) (Y H (D aE H (a.a0 (b.cell (i:=4) H))) (c H (js) (Y H (D aE H (a.a0 (b.cell (i:=5) H))) (c H (ik) (Y H (D aE H (a.a0 (b.cell (i:=6) H))) (aC se H H ((by have h:=vG (L▸(K.aL a)) N;rwa [ae,af] at h)) ?_))))))))))))))))))))))))))))))))
      rintro ak an ⟨k,aj,rfl,aF⟩
      refine J H (aZ H (sZ) (aZ H (tc) (aZ H (td) (aZ H (te) (Z H (Z H (Z H (Z H (O (ah (ah (cz 24 [5,8,12,13,84,105] am am (W H (bn H (λw _=>aX G dZ) (W H (X H (bH H (λw g=>et) (X H (aQ H (λw g=>D aE H (g.a0 ((a.ai k).a0 (b.cell (i:=0) H)))) (X H (bn H (λw _=>aX G aV) (X H (W H (M H (M H (M H (M H (M H (M H (M H (M H (M H (M H (M H (M H (M H (M H (M H (M H (X H (gV H (cq ?_))))))))))))))))))))))))))))))))))))))))))
      rintro ab p _ rfl _ S
      obtain rfl:=bU S
      rintro _ rfl _ rfl _ rfl _ rfl
      refine t H (O (be H (aH (al (ah (T (c H (et) (Y H (D aE H (((a.ai k).ai p).a0 (b.cell (i:=0) H))) (U H (aX G aV) (O (be H (aH (al (T (J H ?_)))))))))))))))
      obtain⟨a4,a6,ax,ay,ag⟩:=bX (P:=Tryz.prog) (sz:=1) Tryz.underlying22 am el G (K.aL ((a.ai k).ai p)) (i:=0) ((by rw[L];simp)) .i64
      rw[←hn] at ag
      obtain rfl:=er ag
      refine bF H (ax _) (Y H (D aE H ay.cell0) (J H (J H ?_)))
      obtain⟨bg,bk,aw,az,av⟩:=tP (w:=ab) (n) ((R:Int)) ((C:Int))
      refine dJ (vs:=[(0,I n),(1,I (R:Int)),(2,I (C:Int))]) H aw (aC qQ H H ((uq av hS)) ?_)
      rintro bh bl ⟨aB,bf,rfl,bb⟩
      refine aZ H (dm) (aZ H (dn) (Z H (Z H (O (aA (bD (aI (dt H ?_))))))))
      exact⟨_,H,(((((o.ai a).ai k).ai p).ai az).ai aB),.inl ⟨_,_,H,bb,ad,au,by rw[←aa];exact Q,hS,by rw[←aa];exact .inr (.inr (.inl ⟨G,n,h,d,R,C,L,N,H⟩))⟩⟩
    ·refine ap (c H (et) (Y H (D aE H (a.a0 (b.cell (i:=0) H))) ?_))
     refine O (aR (T (U H (aX G aV) (Z H (O (be H (ah (T (U H (aX G aV) (Z H (O (be H (T (U H (cu G aV) (Z H (O (bT H (aH (al (bT H (ah (ap (J H (c H (gq) (Y H (D aE H (a.a0 (b.cell (i:=3) H))) (c H (gt) (Y H (D aE H (a.a0 (b.cell (i:=4) H))) (c H (js) (Y H (D aE H (a.a0 (b.cell (i:=5) H))) (c H (ik) (Y H (D aE H (a.a0 (b.cell (i:=6) H))) (aC se H H ((by have h:=Fl (K.aL a) Q (kh:=l.kh.toNat) (kw:=l.kw.toNat) (st:=l.sr) (pad:=l.pd) G G G G N;rwa [ae,af] at h)) ?_))))))))))))))))))))))))))))))))
     rintro ak an ⟨k,aj,bs,bu,bw,rfl,bN⟩
     refine J H (aZ H (sZ) (aZ H (tc) (aZ H (td) (aZ H (te) (Z H (Z H (Z H (Z H (O (ah (ah (cz 24 [5,8,12,13,84,105] am am (W H (bn H (λw _=>cu G dZ) (W H (M H (M H (M H (M H (dc H (dc H (dc H (dc H (dc H (dc H (dc H (dc H (dc H (dc H (dc H (dc H (dc H (dc H (dc H (dc H (M H (cq ?_)))))))))))))))))))))))))))))))))))))
     rintro ab p _ rfl _ S
     obtain rfl:=bU S
     rintro _ aO
     obtain rfl:=bU aO
     rintro _ aS
     obtain rfl:=bU aS
     rintro _ rfl _ rfl
     refine bA H (O (bT H (T (Z H (Z H (O (aA (aI (bD (aI (dt H ?_)))))))))))
     exact⟨_,H,(((o.ai a).ai k).ai p),.inr ⟨_,7,H,G⟩⟩
   ·obtain⟨⟨⟨h1,h2⟩,⟨h3,h4⟩,⟨h5,h6⟩⟩,hf,h7,h8⟩:=sL ad (.inr hk)
    have ae:((l.kh.toNat:Nat):Int)=l.kh:=G
    have af:((l.kw.toNat:Nat):Int)=l.kw:=G
    rcases Classical.em (∃n h d R C,A=[n,h,d]∧iP n h d l.kh.toNat l.kw.toNat l.sr l.pd R C) with N|N
    ·obtain⟨n,h,d,R,C,L,N⟩:=N
     have hn:n=A[0]'(by rw[L];simp):=by subst L;rfl
     rcases hS:dF [n,(R:Int),(C:Int)]
     ·refine ap (c H (et) (Y H (D aE H (a.a0 (b.cell (i:=0) H))) ?_))
      refine O (aR (T (U H (aX G aV) (Z H (O (be H (ah (T (U H (aX G aV) (Z H (O (be H (T (U H (aX G aV) (Z H (O (be H (ap (U H (cu G aV) (Z H (O (bT H (T (J H (c H (gq) (Y H (D aE H (a.a0 (b.cell (i:=3) H))) (c H (gt) (Y H (D aE H (a.a0 (b.cell (i:=4) H))) (c H (js) (Y H (D aE H (a.a0 (b.cell (i:=5) H))) (c H (ik) (Y H (D aE H (a.a0 (b.cell (i:=6) H))) (aC se H H ((by have h:=vG (L▸(K.aL a)) N;rwa [ae,af] at h)) ?_)))))))))))))))))))))))))))))))))
      rintro ak an ⟨k,aj,rfl,aF⟩
      refine J H (aZ H (sZ) (aZ H (tc) (aZ H (td) (aZ H (te) (Z H (Z H (Z H (Z H (O (ah (ah (cz 24 [5,8,12,13,84,105] am am (W H (bn H (λw _=>aX G dZ) (W H (X H (bH H (λw g=>et) (X H (aQ H (λw g=>D aE H (g.a0 ((a.ai k).a0 (b.cell (i:=0) H)))) (X H (bn H (λw _=>aX G aV) (X H (W H (M H (M H (M H (M H (M H (M H (M H (M H (M H (M H (M H (M H (M H (M H (M H (M H (X H (gV H (cq ?_))))))))))))))))))))))))))))))))))))))))))
      rintro ab p _ rfl _ S
      obtain rfl:=bU S
      rintro _ rfl _ rfl _ rfl _ rfl
      refine t H (O (be H (aH (al (ah (T (c H (et) (Y H (D aE H (((a.ai k).ai p).a0 (b.cell (i:=0) H))) (U H (aX G aV) (O (be H (aH (al (T (J H ?_)))))))))))))))
      obtain⟨a4,a6,ax,ay,ag⟩:=bX (P:=Tryz.prog) (sz:=1) Tryz.underlying22 am el G (K.aL ((a.ai k).ai p)) (i:=0) ((by rw[L];simp)) .i64
      rw[←hn] at ag
      obtain rfl:=er ag
      refine bF H (ax _) (Y H (D aE H ay.cell0) (J H (J H ?_)))
      obtain⟨bg,bk,aw,az,av⟩:=tP (w:=ab) (n) ((R:Int)) ((C:Int))
      refine dJ (vs:=[(0,I n),(1,I (R:Int)),(2,I (C:Int))]) H aw (aC qQ H H ((Fj av hS)) ?_)
      rintro bh bl ⟨aB,bf,rfl⟩
      refine aZ H (dm) (aZ H (dn) (Z H (Z H (O (aA (bD (aI (dt H ?_))))))))
      exact⟨_,H,(((((o.ai a).ai k).ai p).ai az).ai aB),.inr ⟨_,7,H,G⟩⟩
     ·refine ap (c H (et) (Y H (D aE H (a.a0 (b.cell (i:=0) H))) ?_))
      refine O (aR (T (U H (aX G aV) (Z H (O (be H (ah (T (U H (aX G aV) (Z H (O (be H (T (U H (aX G aV) (Z H (O (be H (ap (U H (cu G aV) (Z H (O (bT H (T (J H (c H (gq) (Y H (D aE H (a.a0 (b.cell (i:=3) H))) (c H (gt) (Y H (D aE H (a.a0 (b.cell (i:=4) H))) (c H (js) (Y H (D aE H (a.a0 (b.cell (i:=5) H))) (c H (ik) (Y H (D aE H (a.a0 (b.cell (i:=6) H))) (aC se H H ((by have h:=vG (L▸(K.aL a)) N;rwa [ae,af] at h)) ?_)))))))))))))))))))))))))))))))))
      rintro ak an ⟨k,aj,rfl,aF⟩
      refine J H (aZ H (sZ) (aZ H (tc) (aZ H (td) (aZ H (te) (Z H (Z H (Z H (Z H (O (ah (ah (cz 24 [5,8,12,13,84,105] am am (W H (bn H (λw _=>aX G dZ) (W H (X H (bH H (λw g=>et) (X H (aQ H (λw g=>D aE H (g.a0 ((a.ai k).a0 (b.cell (i:=0) H)))) (X H (bn H (λw _=>aX G aV) (X H (W H (M H (M H (M H (M H (M H (M H (M H (M H (M H (M H (M H (M H (M H (M H (M H (M H (X H (gV H (cq ?_))))))))))))))))))))))))))))))))))))))))))
      rintro ab p _ rfl _ S
      obtain rfl:=bU S
      rintro _ rfl _ rfl _ rfl _ rfl
      refine t H (O (be H (aH (al (ah (T (c H (et) (Y H (D aE H (((a.ai k).ai p).a0 (b.cell (i:=0) H))) (U H (aX G aV) (O (be H (aH (al (T (J H ?_)))))))))))))))
      obtain⟨a4,a6,ax,ay,ag⟩:=bX (P:=Tryz.prog) (sz:=1) Tryz.underlying22 am el G (K.aL ((a.ai k).ai p)) (i:=0) ((by rw[L];simp)) .i64
      rw[←hn] at ag
      obtain rfl:=er ag
      refine bF H (ax _) (Y H (D aE H ay.cell0) (J H (J H ?_)))
      obtain⟨bg,bk,aw,az,av⟩:=tP (w:=ab) (n) ((R:Int)) ((C:Int))
      refine dJ (vs:=[(0,I n),(1,I (R:Int)),(2,I (C:Int))]) H aw (aC qQ H H ((uq av hS)) ?_)
      rintro bh bl ⟨aB,bf,rfl,bb⟩
      refine aZ H (dm) (aZ H (dn) (Z H (Z H (O (aA (bD (aI (dt H ?_))))))))
      exact⟨_,H,(((((o.ai a).ai k).ai p).ai az).ai aB),.inl ⟨_,_,H,bb,ad,au,by rw[←aa];exact Q,hS,by rw[←aa];exact .inr (.inr (.inl ⟨G,n,h,d,R,C,L,N,H⟩))⟩⟩
    ·refine ap (c H (et) (Y H (D aE H (a.a0 (b.cell (i:=0) H))) ?_))
     refine O (aR (T (U H (aX G aV) (Z H (O (be H (ah (T (U H (aX G aV) (Z H (O (be H (T (U H (aX G aV) (Z H (O (be H (ap (U H (cu G aV) (Z H (O (bT H (T (J H (c H (gq) (Y H (D aE H (a.a0 (b.cell (i:=3) H))) (c H (gt) (Y H (D aE H (a.a0 (b.cell (i:=4) H))) (c H (js) (Y H (D aE H (a.a0 (b.cell (i:=5) H))) (c H (ik) (Y H (D aE H (a.a0 (b.cell (i:=6) H))) (aC se H H ((by have h:=Fl (K.aL a) Q (kh:=l.kh.toNat) (kw:=l.kw.toNat) (st:=l.sr) (pad:=l.pd) G G G G N;rwa [ae,af] at h)) ?_)))))))))))))))))))))))))))))))))
     rintro ak an ⟨k,aj,bs,bu,bw,rfl,bN⟩
     refine J H (aZ H (sZ) (aZ H (tc) (aZ H (td) (aZ H (te) (Z H (Z H (Z H (Z H (O (ah (ah (cz 24 [5,8,12,13,84,105] am am (W H (bn H (λw _=>cu G dZ) (W H (M H (M H (M H (M H (dc H (dc H (dc H (dc H (dc H (dc H (dc H (dc H (dc H (dc H (dc H (dc H (dc H (dc H (dc H (dc H (M H (cq ?_)))))))))))))))))))))))))))))))))))))
     rintro ab p _ rfl _ S
     obtain rfl:=bU S
     rintro _ aO
     obtain rfl:=bU aO
     rintro _ aS
     obtain rfl:=bU aS
     rintro _ rfl _ rfl
     refine bA H (O (bT H (T (Z H (Z H (O (aA (aI (bD (aI (dt H ?_)))))))))))
     exact⟨_,H,(((o.ai a).ai k).ai p),.inr ⟨_,7,H,G⟩⟩
   ·refine ap (c H (et) (Y H (D aE H (a.a0 (b.cell (i:=0) H))) ?_))
    refine O (aR (T (U H (aX G aV) (Z H (O (be H (ah (T (U H (aX G aV) (Z H (O (be H (T (U H (aX G aV) (Z H (O (be H (ap (U H (aX G aV) (Z H (O (be H (T (U H (aX G aV) (Z H (O (be H (T (U H (aX G aV) (Z H (O (be H (aH (bE (al (T (J H (aC qQ H H ((uq (K.aL a) Q)) ?_))))))))))))))))))))))))))))))))))))))
    rintro bR bS ⟨a2,bQ,rfl,aT⟩
    refine aZ H (dm) (aZ H (dn) (Z H (Z H (O (aA (dt H ?_))))))
    exact⟨_,H,((o.ai a).ai a2),.inl ⟨_,_,H,aT,ad,au,by rw[←aa];exact Q,Q,by rw[←aa];exact .inr (.inr (.inr (.inl ⟨hk,H⟩)))⟩⟩
   ·refine ap (c H (et) (Y H (D aE H (a.a0 (b.cell (i:=0) H))) ?_))
    refine O (aR (T (U H (aX G aV) (Z H (O (be H (ah (T (U H (aX G aV) (Z H (O (be H (T (U H (aX G aV) (Z H (O (be H (ap (U H (aX G aV) (Z H (O (be H (T (U H (cu G aV) (Z H (O (bT H (T (J H ?_)))))))))))))))))))))))))))))
    obtain⟨cQ,cX,b7,cw,bY⟩:=tQ (w:=bV) ((cS A))
    refine dJ (vs:=[(0,I (cS A))]) H b7 (aC qQ H H ((uq bY (DQ bL a9))) ?_)
    rintro cR cY ⟨cx,cN,rfl,ca⟩
    refine aZ H (dm) (aZ H (dn) (Z H (Z H (O (aA (bD (aI (dt H ?_))))))))
    exact⟨_,H,(((o.ai a).ai cw).ai cx),.inl ⟨_,_,H,ca,ad,au,by rw[←aa];exact Q,DQ bL a9,by rw[←aa];exact .inr (.inr (.inr (.inr (.inl ⟨hk,H⟩))))⟩⟩
   ·obtain⟨h1,h2⟩:=AI ad hk
    obtain⟨F,hF⟩:∃F,F=dy inp shs (l.fr+1).toNat:=⟨_,rfl⟩
    rcases(show l.fr= -1∨0≤l.fr by omega) with hf|hf
    ·have aL:F=inp:=by rw[hF,hf];rfl
     rcases Ek (F=A) with ai|ai
     ·refine ap (c H (et) (Y H (D aE H (a.a0 (b.cell (i:=0) H))) ?_))
      refine O (aR (T (U H (aX G aV) (Z H (O (be H (ah (T (U H (aX G aV) (Z H (O (be H (T (U H (aX G aV) (Z H (O (be H (ap (U H (aX G aV) (Z H (O (be H (T (U H (aX G aV) (Z H (O (be H (T (U H (cu G aV) (Z H (O (bT H (T (J H (Z H (O (ah (T (c H (jr) (Y H (D aE H (a.a0 (b.cell (i:=1) H))) (U H (aX G eU) (O (be H (aH (al (T (J H (J H (aC Al H H ((by have h:=zL (l:=F) (m:=A) (by rw[aL];exact(hv.aL (o.ai a))) (K.aL a);rw[dH ai] at h;exact h)) ?_)))))))))))))))))))))))))))))))))))))))))))))))))
      rintro bj bo ⟨aq,rfl⟩
      refine cP H cW (O (be H (aH (bE (al (T (J H (aC qQ H H ((uq (K.aL (a.ai aq)) Q)) ?_))))))))
      rintro bR bS ⟨a2,bQ,rfl,aT⟩
      refine aZ H (dm) (aZ H (dn) (Z H (Z H (O (aA (dt H ?_))))))
      exact⟨_,H,(((o.ai a).ai aq).ai a2),.inl ⟨_,_,H,aT,ad,au,by rw[←aa];exact Q,Q,by rw[←aa];exact .inr (.inr (.inr (.inr (.inr ⟨hk,by rw[←hF];exact ai,H⟩))))⟩⟩
     ·refine ap (c H (et) (Y H (D aE H (a.a0 (b.cell (i:=0) H))) ?_))
      refine O (aR (T (U H (aX G aV) (Z H (O (be H (ah (T (U H (aX G aV) (Z H (O (be H (T (U H (aX G aV) (Z H (O (be H (ap (U H (aX G aV) (Z H (O (be H (T (U H (aX G aV) (Z H (O (be H (T (U H (cu G aV) (Z H (O (bT H (T (J H (Z H (O (ah (T (c H (jr) (Y H (D aE H (a.a0 (b.cell (i:=1) H))) (U H (aX G eU) (O (be H (aH (al (T (J H (J H (aC Al H H ((by have h:=zL (l:=F) (m:=A) (by rw[aL];exact(hv.aL (o.ai a))) (K.aL a);rw[bi ai] at h;exact h)) ?_)))))))))))))))))))))))))))))))))))))))))))))))))
      rintro bj bo ⟨aq,rfl⟩
      refine cP H cW (O (bT H (T (Z H (Z H (O (aA (bD (aI (dt H ?_))))))))))
      exact⟨_,H,((o.ai a).ai aq),.inr ⟨_,7,H,G⟩⟩
    ·obtain⟨q,hq⟩:∃q:Nat,l.fr=(q:Int):=⟨l.fr.toNat,G⟩
     have aL:F=shs[q]'G:=by rw[hF,show(l.fr+1).toNat=q+1 by omega];exact lY G
     rcases Ek (F=A) with ai|ai
     ·refine ap (c H (et) (Y H (D aE H (a.a0 (b.cell (i:=0) H))) ?_))
      refine O (aR (T (U H (aX G aV) (Z H (O (be H (ah (T (U H (aX G aV) (Z H (O (be H (T (U H (aX G aV) (Z H (O (be H (ap (U H (aX G aV) (Z H (O (be H (T (U H (aX G aV) (Z H (O (be H (T (U H (cu G aV) (Z H (O (bT H (T (J H (Z H (O (ah (T (c H (jr) (Y H (D aE H (a.a0 (b.cell (i:=1) H))) (U H (cu G eU) (O (bT H (ap (J H (c H (jr) (Y H (D aE H (a.a0 (b.cell (i:=1) H))) ?_)))))))))))))))))))))))))))))))))))))))))))))))
      obtain⟨bW,b0,aY,bd,aK⟩:=bX (P:=Tryz.prog) (sz:=1) gC am lR G (hu.aL (o.ai a)) (i:=q) (G) .i64
      rw[←hq] at aY
      obtain⟨b1,aM⟩:∃e,e=shs[q]'G:=⟨_,rfl⟩
      rw[←aM] at aK
      obtain⟨cy,rfl,a7⟩:=mi aK
      refine bF H (aY _) (Y H (D cd H bd.cell0) (Z H (bB (J H (J H (aC Al H H ((by have h:=zL (l:=F) (m:=A) (by rw[aL,←aM];exact a7) (K.aL a);rw[dH ai] at h;exact h)) ?_))))))
      rintro bj bo ⟨aq,rfl⟩
      refine cP H cW (O (be H (aH (bE (al (T (J H (aC qQ H H ((uq (K.aL (a.ai aq)) Q)) ?_))))))))
      rintro bR bS ⟨a2,bQ,rfl,aT⟩
      refine aZ H (dm) (aZ H (dn) (Z H (Z H (O (aA (dt H ?_))))))
      exact⟨_,H,(((o.ai a).ai aq).ai a2),.inl ⟨_,_,H,aT,ad,au,by rw[←aa];exact Q,Q,by rw[←aa];exact .inr (.inr (.inr (.inr (.inr ⟨hk,by rw[←hF];exact ai,H⟩))))⟩⟩
     ·refine ap (c H (et) (Y H (D aE H (a.a0 (b.cell (i:=0) H))) ?_))
      refine O (aR (T (U H (aX G aV) (Z H (O (be H (ah (T (U H (aX G aV) (Z H (O (be H (T (U H (aX G aV) (Z H (O (be H (ap (U H (aX G aV) (Z H (O (be H (T (U H (aX G aV) (Z H (O (be H (T (U H (cu G aV) (Z H (O (bT H (T (J H (Z H (O (ah (T (c H (jr) (Y H (D aE H (a.a0 (b.cell (i:=1) H))) (U H (cu G eU) (O (bT H (ap (J H (c H (jr) (Y H (D aE H (a.a0 (b.cell (i:=1) H))) ?_)))))))))))))))))))))))))))))))))))))))))))))))
      obtain⟨bW,b0,aY,bd,aK⟩:=bX (P:=Tryz.prog) (sz:=1) gC am lR G (hu.aL (o.ai a)) (i:=q) (G) .i64
      rw[←hq] at aY
      obtain⟨b1,aM⟩:∃e,e=shs[q]'G:=⟨_,rfl⟩
      rw[←aM] at aK
      obtain⟨cy,rfl,a7⟩:=mi aK
      refine bF H (aY _) (Y H (D cd H bd.cell0) (Z H (bB (J H (J H (aC Al H H ((by have h:=zL (l:=F) (m:=A) (by rw[aL,←aM];exact a7) (K.aL a);rw[bi ai] at h;exact h)) ?_))))))
      rintro bj bo ⟨aq,rfl⟩
      refine cP H cW (O (bT H (T (Z H (Z H (O (aA (bD (aI (dt H ?_))))))))))
      exact⟨_,H,((o.ai a).ai aq),.inr ⟨_,7,H,G⟩⟩
theorem F0:aY Tryz.prog 31:=⟨_,Tryz.func31,am,rfl⟩
theorem On {l:List df} (h:fI l=true):∃m:List Rat,l=m.map qi:=by
 induction l with
 |nil=>exact⟨[],rfl⟩
 |cons q l g=>
  rw[fI,xI,ex] at h
  obtain⟨m,hm⟩:=g h.2
  obtain⟨d,e,f⟩:=OW.1 h.1
  refine⟨rq q.1 q.2.1 q.2.2::m,?_⟩
  rw[iy,←hm]
  congr 1
  obtain⟨a,b,c⟩:=q
  exact oP d (oP e f)
theorem Xh {l:List cG} (h:lV i l=true):∃m:List cm,l=m.map cm.ba:=by
 induction l generalizing i with
 |nil=>exact⟨[],rfl⟩
 |cons q l j=>
  rw[lV,ex] at h
  obtain⟨m,hm⟩:=j h.2
  have c:=h.1
  unfold fJ at c
  rw[ex,ex] at c
  obtain⟨⟨d,e⟩,_⟩:=c
  obtain⟨a,f⟩:=On d
  obtain⟨b,g⟩:=On e
  obtain⟨k,n,o,p,r,s,t,u,v⟩:=q
  obtain rfl:u=a.map qi:=f
  obtain rfl:v=b.map qi:=g
  exact⟨⟨k,n,o,p,r,s,t,a,b⟩::m,by rw[iy,←hm];rfl⟩
theorem XA {m:fj} (h:gl m=true):∃M:gF,m=M.ba∧dF M.inp=true∧M.lays.length≤64:=by
 unfold gl at h
 rw[ex,ex,gI] at h
 obtain⟨⟨c,d⟩,e⟩:=h
 obtain⟨a,b⟩:=m
 obtain⟨l,rfl⟩:=Xh e
 exact⟨⟨a,l⟩,H,c,by simpa using d⟩
theorem HT {inp:List Int} {shs:List (List Int)} {s:List Int} (a:j≤shs.length):dy inp (shs++[s]) j=dy inp shs j:=by
 cases j with
 |zero=>rfl
 |succ k=>
  show(inp::(shs++[s])).getD (k+1) []=(inp::shs).getD (k+1) []
  rw[EE,EE,mU,mU,vu G]
theorem Z4 {inp:List Int} {shs:List (List Int)} {s:List Int}:dy inp (shs++[s]) (shs.length+1)=s:=by
 rw[lY aj]
 simp
theorem qE.congr {S T:Nat→List Int} {l:cm} {s:List Int} (h:qE S i l s) (e:∀j,j≤i→T j=S j):qE T i l s where
 ok:=h.ok
 le:=h.le
 sa:=by rw[e i (bV _)];exact h.sa
 so:=h.so
 c:=by
  rw[e i (bV _)]
  rcases h.c with c|c|c|c|c|⟨a,c,b⟩
  ·exact .inl c
  ·exact .inr (.inl c)
  ·exact .inr (.inr (.inl c))
  ·exact .inr (.inr (.inr (.inl c)))
  ·exact .inr (.inr (.inr (.inr (.inl c))))
  ·refine .inr (.inr (.inr (.inr (.inr ⟨a,?_,b⟩))))
   have:=AI h.ok a
   rw[e _ G]
   exact c
def lM (inp:List Int) (lays:List cm) (shs:List (List Int)):Prop:=
 shs.length≤lays.length∧∀i l,i<shs.length→lays[i]? =some l→qE (dy inp shs) i l (dy inp shs (i+1))
theorem lM.nil {inp:List Int} {lays:List cm}:lM inp lays []:=⟨pq _,λ_ _ h=>absurd h (Nat.not_lt_zero _)⟩
theorem lM.snoc {inp:List Int} {lays:List cm} {shs:List (List Int)} {s:List Int} (h:lM inp lays shs) (hi:shs.length<lays.length) (e:qE (dy inp shs) shs.length lays[shs.length] s):lM inp lays (shs++[s]):=by
 refine⟨by rw[cr,qw];omega,λi l b a=>?_⟩
 rw[cr,qw] at b
 by_cases c:i<shs.length
 ·rw[HT (j:=i+1) G]
  exact(h.2 i l c a).congr λj d=>HT G
 ·obtain rfl:i=shs.length:=by omega
  rw[fy hi,Option.some.injEq] at a
  subst a
  rw[Z4]
  exact e.congr λj d=>HT G
theorem lM.all {inp:List Int} {lays:List cm} {shs:List (List Int)} (h:lM inp lays shs):∀s∈shs,dF s=true:=λs hs=>by
 obtain⟨i,hi,rfl⟩:=BF hs
 have a:=(h.2 i _ hi (fy (eT hi h.1))).so
 rwa [lY hi] at a
theorem SI {inp:List Int} {shs:List (List Int)} {l:cm} {x:Value} (j:aD bJ inp v w) (i:aD fN shs u w) (k:aD dQ l.ws x w) (m:aD dQ l.bs y w) (hs:ry l) (hi:shs.length≤64) (a:dF inp=true) (g:∀s∈shs,dF s=true):
 Calls Tryz.prog 92 #[v,u,.agg #[I l.kd,I l.fr,I l.ou,I l.kh,I l.kw,I l.sr,I l.pd,x,y]] w (aJ λr w'=>ao w w'∧∃z e,r=.tuple #[z,I e]∧(e=0→∃s,aD bJ s z w'∧qE (dy inp shs) shs.length l s)):=
 aJ.mono (SJ j i k m hs hi a g) λr w' h=>by
  obtain⟨x,⟨z,s,e,n,f⟩|⟨z,e,b,c⟩⟩:=h
  ·exact⟨x,z,0,e,λ_=>⟨s,n,f⟩⟩
  ·exact⟨x,z,e,b,λd=>absurd d c⟩
theorem smM {M:gF} (h:∀l∈M.lays,ry l):qh M.ba:=λm hm=>by
 obtain⟨k,a,rfl⟩:=fF.1 hm
 exact h k a
theorem SH {m:fj} {x:Value} (c:aD bJ m.inp x w) (d:aD gp m.lays y w) (hs:qh m) (hm:gl m=false):
 Calls Tryz.prog 31 #[.agg #[x,y]] w (aJ λr w'=>ao w w'∧∃a b,r=.tuple #[a,b,I 1]):=by
 refine enter (vs:=[.agg #[x,y]]) Tryz.func31 H H H (T (cE H H λg1 w1 g x1 e=>(Z H (Z H (Z H (O (ah (T (Y H (e.ld fz H eR) (aC F1 H H ((by have h:=Fk (c.aL x1) (d.aL x1) hs;rw[hm] at h;exact h)) ?_))))))))))
 rintro i j ⟨f,rfl⟩
 refine cP H cW (O (bT H (T (Z H (Z H (Z H (O (aA (aI (sW H ?_))))))))))
 exact⟨_,H,(x1.ai f),_,_,H⟩
theorem JN {M:gF} {x:Value} (K:aD bJ M.inp x w) (t:aD fS M.lays y w) (hs:∀l∈M.lays,ry l) (hm:gl M.ba=true) (h0:dF M.inp=true) (hl:M.lays.length≤64):
 Calls Tryz.prog 31 #[.agg #[x,y]] w (aJ λr w'=>ao w w'∧∃z i e,r=.tuple #[z,i,I e]∧(e=0→∃shs,aD fN shs z w'∧lM M.inp M.lays shs∧shs.length=M.lays.length)):=by
 refine enter (vs:=[.agg #[x,y]]) Tryz.func31 H H H (T (cE H H λg1 w1 l1 x1 N=>(Z H (Z H (Z H (O (ah (T (Y H (N.ld fz H eR) (aC F1 H H ((by have h:=Fk (m:=M.ba) (K.aL x1) (aD.lays.2 (t.aL x1)) (smM hs);rw[hm] at h;exact h)) ?_))))))))))
 rintro aL aO ⟨Q,rfl⟩
 refine cP H cW (O (be H (aH (al (T (Z H (O (ah (T (Z H (O (aR (fp (λ(shs:List (List Int)) (u:Value)=>[(1,.pointer (some ⟨g1,0,none⟩)),(5,u),(6,I (shs.length:Int))]) (λ(shs:List (List Int)) (u:Value) w'=>ao w w'∧bm g1 25 [x,y] w'∧lM M.inp M.lays shs∧lJ w.heap.size shs u w') (λ(shs:List (List Int)) (u:Value)=>M.lays.length-shs.length) ([]) (.slice none 0 0) (aP H) ⟨(x1.ai Q),(N.aL Q),lM.nil,bC.nil _⟩ ?_)))))))))))))
 rintro shs u wA ⟨d,n,k,g⟩
 refine ah (ah ?_)
 have aE:=k.1
 refine ap (J H (c H (gE) (Y H (D dP H (n.cell (i:=1) H)) (aW H (bP dP (t.aL d)) (U H (bO) (O (bc H (λaa=>?_) (λaa=>?_))))))))
 ·refine aH (al (ah (aR (ah (Tp 8 [8,9,10,11,12,13] [1,5,6,21,22,27] am am H ?_)))))
  refine bH H (λw b=>jt) (aQ H (λw b=>D cd H (b.a0 (n.cell (i:=0) H))) (W H (bH H (λw b=>gE) (aQ H (λw b=>D dP H (b.a0 (n.cell (i:=1) H))) (W H ?_)))))
  obtain⟨ay,az,ar,au,C⟩:=bX (P:=Tryz.prog) (sz:=9) dP am ym G (t.aL d) (i:=shs.length) (G) .i64
  obtain⟨S,q⟩:∃e,e=M.lays[shs.length]'G:=⟨_,rfl⟩
  rw[←q] at C
  obtain⟨aX,aY,rfl,V,X⟩:=yk C
  refine cF H (λw _=>ar w) (aQ H (λw b=>(au.aL b).ld dG H eJ) (cq ?_))
  rintro aV a _ rfl _ ag
  obtain rfl:=bU ag
  rintro _ rfl _ ae
  obtain rfl:=bU ae
  rintro _ af
  obtain rfl:=bU af
  rintro _ rfl
  refine aC Vd H H ((by have h:=SI (l:=S) (K.aL (d.ai a)) (lJ.bY (g.aL a)) (V.aL a) (X.aL a) (hs _ (by rw[q];exact eK _)) G h0 k.all;exact h)) ?_
  rintro aM av ⟨o,ax,aB,rfl,ab⟩
  refine J H (aZ H (dm) (aZ H (dn) (Z H (Z H (f (wU (al (ah (T (J H (U H (dZ) (O (bc H (λad=>?_) (λad=>?_))))))))))))))
  ·refine T (J H (Z H (Z H (Z H (O (aA (aI (bD (aI (aI (bD (aI (sW H ?_)))))))))))))
   exact⟨_,H,((d.ai a).ai o),_,_,7,H,λh=>absurd h G⟩
  ·refine aH (al ?_)
   obtain⟨s,hz,F⟩:=ab G
   have aG:(shs++[s]).length=shs.length+1:=aj
   rw[q] at F
   refine ap (J H (J H ?_))
   obtain⟨aN,aS,ai,v,R⟩:=CT (w:=av) hz
   refine dJ (vs:=[(0,ax)]) H ai ?_
   have j:=(a.ai o).ai v
   have A:=(((d.ai a).ai o).ai v)
   obtain⟨v37,aT,ak,aq,p⟩:=Dg (ty:=80) (g.aL j) R fZ A.size
   refine dW H ak ?_
   have aw:=ao.a6 A p ((g.aL j)).ge
   have aK:=((g.aL j)).b3 p aF
   refine Z H (f (bE (al (ap (J H (jP (r:=I (((shs++[s]).length:Nat):Int)) H H H (by have e:(((shs++[s]).length:Nat):Int)=(shs.length:Int)+1:=G;rw[e];exact dB) (Z H (f ?_))))))))
   have L:=(((n.aL a).aL o).aL v)
   have an:=(L.a4 p.grown (cQ L (g.aL j)))
   refine eI (shs++[s]) (_) (aP H) ⟨aw,an,k.snoc G F,aq⟩ G
 ·refine ce (aU (aU (cg (al (T (J H (Z H (Z H (Z H (O (aA (sW H ?_))))))))))))
  exact⟨_,H,d,_,_,_,H,λ_=>⟨shs,lJ.bY g,k,G⟩⟩
theorem KH:aY Tryz.prog 30:=⟨_,Tryz.func30,am,rfl⟩
def nH (l:List df):Bool:=l.all λq=>decide (q.2.1.length≤1∧q.2.2.length≤1)
theorem GR {l:List df} (hi:i<l.length):nH (l.drop i)=(decide (l[i].2.1.length≤1∧l[i].2.2.length≤1)&&nH (l.drop (i+1))):=by
 rw[lE hi];rfl
theorem IR {l:List df} (h:aD dK l v w):
 Calls Tryz.prog 30 #[v] w (aJ λr w'=>ao w w'∧r=B (nH l)):=by
 refine enter Tryz.func30 H H H ?_
 have W:=h.len
 refine T (Z H (O (ah (T (Z H (O (aR (eg (α:=Nat) (λx=>[(0,v),(3,I (x:Int))]) (λx w'=>ao w w'∧x≤l.length∧nH l=nH (l.drop x)) (λx=>l.length-x) ((0)) (aP H) ⟨ao.refl _,G,H⟩ ?_))))))))
 rintro i X ⟨a,hi,b⟩
 refine ah (T (J H (J H (aW H (bP cn (h.aL a)) (U H (bO) (O (bc H (λu=>?_) (λu=>?_))))))))
 ·refine aH (al (ah (aR (T (J H (J H ?_))))))
  obtain⟨F,K,y,A,k⟩:=bX (P:=Tryz.prog) (sz:=3) cn am py G (h.aL a) (i:=i) G .i64
  obtain⟨N,d⟩:∃e,e=l[i]'G:=⟨_,rfl⟩
  rw[←d] at k
  obtain⟨aa,ab,rfl,n,R⟩:=su k
  refine bF H (y _) (c H (Wg) (Y H (D aT H (A.at (j:=1) H)) (aW H (cI aT n) (U H (cY) (J H (cK (λq=>?_) (λq=>?_)))))))
  ·refine L H (L H (L H (L H (L H (L H (L H (bA H (O (bT H ?_)))))))))
   refine T (Z H (O (aA (bD (aI (aI (bD (aI (aM H ?_)))))))))
   exact⟨_,H,a,aB B (by rw[b,GR G,bi (by first|(rw[←g];omega)|(rw[←d];omega))];rfl)⟩
  ·refine V H (J H (V H (J H (V H ?_))))
   obtain⟨a20,M,z,C,m⟩:=bX (P:=Tryz.prog) (sz:=3) cn am py G (h.aL a) (i:=i) G .i64
   obtain⟨Q,g⟩:∃e,e=l[i]'G:=⟨_,rfl⟩
   rw[←g] at m
   obtain⟨ad,ae,rfl,S,o⟩:=su m
   refine bF H (z _) (V H (c H (Wh) (V H (Y H (D aT H (C.at (j:=2) H)) (V H (aW H (cI aT o) (V H (U H (cY) (t H (O (bc H (λs=>?_) (λs=>?_))))))))))))
   ·refine T (Z H (O (aA (bD (aI (aI (bD (aI (aM H ?_)))))))))
    exact⟨_,H,a,aB B (by rw[b,GR G,bi (by first|(rw[←g];omega)|(rw[←d];omega))];rfl)⟩
   ·refine aH (bE (al (ap (J H (U H cD ?_)))))
    refine Z H (f (ew (i+1) (aP H) ⟨a,G,by rw[b,GR G,dH (p:=_∧_) ⟨by rw[←d];omega,by rw[←g];omega⟩];rfl⟩ G))
 ·refine ce (aU (aU (cg (al (T (Z H (O (aA (aM H ?_)))))))))
  exact⟨_,H,a,aB B (by rw[b,show i=l.length by omega,ED];rfl)⟩
theorem U9:aY Tryz.prog 33:=⟨_,Tryz.func33,am,rfl⟩
def j9 (l:cm) (s:List Int):Int:=if l.kd=5 then cS s else if l.kd=3 then cS s*(l.kh*l.kw-1) else 0
def nP (S:Nat→List Int) (lays:List cm):Nat→Int
 |0=>0
 |k+1=>nP S lays k+(match lays[k]? with|some l=>j9 l (S (k+1))|none=>0)
theorem zb {S:Nat→List Int} {lays:List cm} (h:k<lays.length):nP S lays (k+1)=nP S lays k+j9 lays[k] (S (k+1)):=by
 rw[nP,fy h]
theorem D3 {S:Nat→List Int} {l:cm} (h:qE S i l (S (i+1))):0≤j9 l (S (i+1))∧j9 l (S (i+1))≤16384*4096:=by
 obtain⟨f,c⟩:=rk h.so
 unfold j9
 by_cases b:l.kd=5
 ·rw[if_pos b];omega
 ·rw[if_neg b]
  by_cases a:l.kd=3
  ·rw[if_pos a]
   obtain⟨⟨⟨a,d⟩,⟨b,e⟩,_⟩,_⟩:=sL h.ok (.inl a)
   have m1:=gz d e G G
   have g:=gz a b G G
   exact⟨iI G G,gz c G G G⟩
  ·rw[if_neg a];omega
theorem PA {inp:List Int} {lays:List cm} {shs:List (List Int)} (h:lM inp lays shs):∀k,k≤shs.length→0≤nP (dy inp shs) lays k∧nP (dy inp shs) lays k≤k*67108864:=λk=>by
 induction k with
 |zero=>intro _;simp[nP]
 |succ k c=>
  intro b
  have d:=c G
  have a:k<lays.length:=eT b h.1
  have e:=D3 (h.2 k _ G (fy a))
  rw[zb a]
  omega
theorem SB {M:gF} {x:Value} (hx:aD bJ M.inp x w) (R:aD fS M.lays y w) (hs:∀l∈M.lays,ry l) (hm:gl M.ba=true) (h0:dF M.inp=true) (hl:M.lays.length≤64):
 Calls Tryz.prog 33 #[.agg #[x,y]] w (aJ λr w'=>ao w w'∧∃n e,r=.tuple #[I n,I e]∧(e=0→∃shs,lM M.inp M.lays shs∧shs.length=M.lays.length∧n=nP (dy M.inp shs) M.lays M.lays.length)):=by
 refine enter (vs:=[.agg #[x,y]]) Tryz.func33 H H H ?_
 refine ah (ap ?_)
 obtain⟨g1,w1,az,l1,x1,k1⟩:=Hd (P:=Tryz.prog) (w:=w) (T:=25) (cs:=[x,y])
 refine nL H az (Z H (Z H (f (al (ah (ap (Y H (k1.ld fz H am) ?_)))))))
 refine aC F0 H H ((JN (hx.aL x1) (R.aL x1) hs hm h0 hl)) ?_
 rintro bd a0 ⟨v,a4,ba,ag,rfl,ar⟩
 refine J H (aZ H (ov) (aZ H (ow) (aZ H (ox) (Z H (Z H (Z H (f ?_)))))))
 refine al (ah (ah (ap (J H (U H (dZ) (f (al ?_)))))))
 refine bc H (λau=>?_) (λau=>?_)
 ·refine ah (ap (J H (Z H (Z H (f (al (aA (aI (dt H ?_)))))))))
  exact⟨_,H,(x1.ai v),0,ag,H,λh=>absurd h G⟩
 ·refine aH (al (ah ?_))
  obtain⟨shs,hz,C,aw⟩:=ar G
  refine ap (Z H (f (al (ah (ah (ap (Z H (f (al (aR ?_))))))))))
  refine fp (λ(i:Nat) (n:Int)=>[(1,.pointer (some ⟨g1,0,none⟩)),(4,a4),(7,I n),(8,I (i:Int))]) (λ(i:Nat) (n:Int) w'=>ao a0 w'∧i≤shs.length∧n=nP (dy M.inp shs) M.lays i) (λ(i:Nat) (n:Int)=>shs.length-i) (0) (0) (aP H) ⟨ao.refl _,G,H⟩ ?_
  rintro i n wA ⟨b,hi,N⟩
  refine ah (ah ?_)
  have ad:=(k1.aL (v.ai b))
  have aG:=PA C i hi
  rw[←N] at aG
  refine ap (J H (c H (c9 (o:=1) fz H am H) (Y H (D dP H (ad.cell (i:=1) H)) ?_)))
  refine aW H (bP dP (R.aL ((x1.ai v).ai b))) (U H (bO) (f (al ?_)))
  refine bc H (λav=>?_) (λav=>?_)
  ·refine aH (al (ah (aR (ah (ap (c H (c9 (o:=1) fz H am H) (Y H (D dP H (ad.cell (i:=1) H)) ?_)))))))
   refine J H ?_
   obtain⟨a5,a7,aK,aN,X⟩:=bX (P:=Tryz.prog) (sz:=9) dP am ym G (R.aL ((x1.ai v).ai b)) (i:=i) (G) .i64
   obtain⟨a,F⟩:∃e,e=M.lays[i]'G:=⟨_,rfl⟩
   rw[←F] at X
   obtain⟨a1,a2,rfl,aj,ak⟩:=yk X
   refine bF H (aK _) (Y H (aN.ld dG H am) ?_)
   obtain⟨g9,w9,aB,l9,x9,k9⟩:=iW (P:=Tryz.prog) (w:=wA) (t:=78) (z:=.agg #[I 0,I 0,I 0,I 0,I 0,I 0,I 0,.slice none 0 0,.slice none 0 0]) (l:=[I 0,I 0,I 0,I 0,I 0,I 0,I 0,.slice none 0 0,.slice none 0 0]) am rfl
   refine fY H aB ?_
   obtain⟨bh,aY,ae,j⟩:=k9.c0 (P:=Tryz.prog) (t:=78) (m:=[I a.kd,I a.fr,I a.ou,I a.kh,I a.kw,I a.sr,I a.pd,a1,a2]) rfl am (ay.a1 rfl (ay.a1 rfl (ay.a1 rfl (ay.a1 rfl (ay.a1 rfl (ay.a1 rfl (ay.a1 rfl (ay.a1 aj.one (ay.a1 ak.one ay.nil)))))))))
   refine cZ H aY ?_
   have A:=ao.a2 (x9) ae l9
   have bb:=Kq.of (p:=[2,2,2,2,2,2,2,3,3]) k9 (aS rfl (aS rfl (aS rfl (aS rfl (aS rfl (aS rfl (aS rfl (aS rfl (aS rfl dj))))))))) aF ae
   refine f (al (ah (ah ?_)))
   have s:=C.2 i a G (by rw[F];exact fy _)
   have u:=D3 s
   obtain⟨O,Q⟩:=rk s.so
   rw[lY G] at s u O Q
   have d:=zb (S:=dy M.inp shs) (lays:=M.lays) (k:=i) G
   rw[←N,←F,lY G] at d
   rcases(show a.kd=5∨a.kd=3∨(a.kd≠5∧a.kd≠3) by omega) with q|q|q
   ·rw[show j9 a shs[i]=cS shs[i] from if_pos q] at u d
    refine ap (c H (c9 (o:=0) dG H am H) (Y H (D aE H (j.cell (i:=0) H)) ?_))
    refine U H (cu G aV) (f (al (bT H (ap (J H (J H (J H ?_)))))))
    obtain⟨a37,a8,aL,aO,aa⟩:=bX (P:=Tryz.prog) (sz:=1) gC am lR G (hz.aL (b.ai A)) (i:=i) (G) .i64
    obtain⟨ai,K⟩:∃e,e=shs[i]'G:=⟨_,rfl⟩
    rw[←K] at aa
    obtain⟨bj,rfl,an⟩:=mi aa
    refine bF H (aL _) ?_
    rw[←K] at u d O Q
    refine Y H (D cd H aO.cell0) (aC Am H H ((zM an (by rw[K];exact s.so))) ?_)
    rintro bf bg ⟨af,rfl⟩
    refine U H (dB G G) (Z H (f (al (ah (ap (c H (c9 (o:=0) dG H am H) ?_))))))
    refine Y H (D aE H (af.a0 (j.cell (i:=0) H))) (U H (aX G aV) (f (al (be H ?_))))
    refine aH (bE (al (ap (J H (U H cD ?_)))))
    refine Z H (f ?_)
    refine eI (i+1) (n+cS ai) (aP H) ⟨((b.ai A).ai af),G,d.symm⟩ G
   ·rw[show j9 a shs[i]=cS shs[i]*(a.kh*a.kw-1) from(if_neg G).ai (if_pos q)] at u d
    obtain⟨⟨⟨h3,h4⟩,⟨h5,h6⟩,_⟩,_⟩:=sL s.ok (.inl q)
    have m1:=gz h4 h6 G G
    have m0:=gz h3 h5 G G
    refine ap (c H (c9 (o:=0) dG H am H) (Y H (D aE H (j.cell (i:=0) H)) ?_))
    refine U H (aX G aV) (f (al (be H (aH (al (ah (ap (c H (c9 (o:=0) dG H am H) ?_))))))))
    refine Y H (D aE H (j.cell (i:=0) H)) (U H (cu G aV) (f (al (bT H (cz 14 [1,4,8,57] am am ?_)))))
    refine W H (W H (W H ?_))
    obtain⟨a6,a9,aM,aT,ab⟩:=bX (P:=Tryz.prog) (sz:=1) gC am lR G (hz.aL (b.ai A)) (i:=i) (G) .i64
    obtain⟨V,L⟩:∃e,e=shs[i]'G:=⟨_,rfl⟩
    rw[←L] at ab
    obtain⟨bk,rfl,aq⟩:=mi ab
    refine cF H (λw _=>aM w) ?_
    rw[←L] at u d O Q
    refine aQ H (λw g=>D cd H (g.a0 aT.cell0)) (eh (S:=Is (I (cS V))) Am (cN.is _) H (λw g=>by rintro _ rfl;exact(zM (aq.aL g) (by rw[L];exact s.so))) ?_)
    refine bH H (λw g=>c9 (o:=3) dG H am H) (aQ H (λw g=>D aE H (g.a0 (j.cell (i:=3) H))) ?_)
    refine bH H (λw g=>c9 (o:=4) dG H am H) (aQ H (λw g=>D aE H (g.a0 (j.cell (i:=4) H))) ?_)
    refine bn H (λw _=>dh G G) (bn H (λw _=>dM G G) (bn H (λw _=>dh G G) ?_))
    refine bn H (λw _=>dB G G) (cq ?_)
    intro bi a3
    rintro _ rfl
    rintro _ ax
    obtain rfl:=bU ax
    rintro _ rfl
    rintro _ rfl
    refine Z H (f (bE (al (ap (J H (U H cD ?_))))))
    refine Z H (f ?_)
    refine eI (i+1) (n+cS V*(a.kh*a.kw-1)) (aP H) ⟨((b.ai A).ai a3),G,d.symm⟩ G
   ·rw[show j9 a shs[i]=0 from(if_neg q.1).ai (if_neg q.2)] at u d
    refine ap (c H (c9 (o:=0) dG H am H) (Y H (D aE H (j.cell (i:=0) H)) ?_))
    refine U H (aX G aV) (f (al (be H (aH (al (ah (ap (c H (c9 (o:=0) dG H am H) ?_))))))))
    refine Y H (D aE H (j.cell (i:=0) H)) (U H (aX G aV) (f (al (be H (aH (bE ?_))))))
    refine al (ap (J H (U H cD ?_)))
    refine Z H (f ?_)
    refine eI (i+1) (n) (aP H) ⟨(b.ai A),G,by rw[d];omega⟩ G
  ·refine ce (aU (aU (cg (al (ah (ap (J H (Z H (Z H (f (al (aA (dt H ?_)))))))))))))
   exact⟨_,H,((x1.ai v).ai b),n,0,H,λ_=>⟨shs,C,aw,by rw[N,show i=M.lays.length by omega]⟩⟩
end Go.Rl

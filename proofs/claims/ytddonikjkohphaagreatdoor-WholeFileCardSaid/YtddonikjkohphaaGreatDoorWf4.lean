/- Part 4 of a proof: plain facts and walks of functions, merged by a program. Conditions: each lemma names its own. -/
import Derived.Test.YtddonikjkohphaaGreatDoorWf3
namespace Go.Rl
open Go.RowKit Go.Proofs
variable {a ad:Addr} {w w' w0 w1 w2:World} {R i n g j N sz k o q g' BB g1 kw ch kh C nn:Nat} {v y u z v1 x0 x1 fv sv xv tv:Value} {l m:List UInt32} {fn:Func} {vs xs sp cs cs' zs:List Value} {s ty T':TypeId} {P:Program} {A ns:List Int} {p ks:List Nat} {ts:List TypeId} {rd:Option Nat} {h:Int}
theorem Vc:aY Tryz.prog 7:=⟨_,Tryz.func7,am,rfl⟩
theorem iP.eq {n d st pad c g f:Int} {j i:Nat} (e:[n,h,d]=[c,g,f]) (a:iP n h d kh kw st pad R C) (b:iP c g f kh kw st pad j i):n=c∧R=j∧C=i:=by
 obtain⟨rfl,rfl,rfl⟩:n=c∧h=g∧d=f:=by simpa using e
 exact⟨H,Int.ofNat.inj (a.r.ai b.r.symm),Int.ofNat.inj (a.c.ai b.c.symm)⟩
theorem xV.uniq {a f:List Int} {l:cm} {s t:List Int} (h:xV a f l s) (k:xV a f l t):s=t:=by
 rcases h with⟨b,_,rfl⟩|⟨b,n,p,d,R,C,c,w1,_,rfl⟩|⟨b,n,p,d,R,C,c,w1,rfl⟩|⟨b,rfl⟩|⟨b,rfl⟩|⟨b,_,rfl⟩<;>
 rcases k with⟨k0,_,rfl⟩|⟨k0,m,o,j,i,g,e,w2,_,rfl⟩|⟨k0,m,o,j,i,g,e,w2,rfl⟩|⟨k0,rfl⟩|⟨k0,rfl⟩|⟨k0,_,rfl⟩<;>
 first
 |rfl
 |(exfalso;omega)
 |(obtain⟨rfl,rfl,rfl⟩:=w1.eq (c.symm.ai e) w2;rfl)
theorem lM.uniq {inp:List Int} {lays:List cm} {shs c:List (List Int)} (h:lM inp lays shs) (k:lM inp lays c) (n:shs.length=c.length):shs=c:=by
 have l:∀i,i≤shs.length→∀j,j≤i→dy inp shs j=dy inp c j:=by
  intro i
  induction i with
  |zero=>
   intro _ j d
   obtain rfl:j=0:=by omega
   rfl
  |succ i e=>
   intro hi j d
   by_cases m:j≤i
   ·exact e G j m
   ·obtain rfl:j=i+1:=by omega
    have o:=h.1
    have a:=h.2 i _ G (fy (show i<lays.length by omega))
    have b:=k.2 i _ G (fy (show i<lays.length by omega))
    exact a.c.uniq (b.congr λj d=>e G j d).c
 refine IS n λi f g=>?_
 have:=l (i+1) G (i+1) G
 rwa [lY f,lY g] at this
structure mV (l:cG):Prop where
 ws:l.ws.length≤80
 bs:l.bs.length≤24
 ou:l.ou≤24
 kh:l.kh≤6
 kw:l.kw≤6
 sr:l.sr≤6
 pd:l.pd≤6
 w1:nH l.ws=true
 b1:nH l.bs=true
theorem y8 {l:List df} (h:nH l=true):lB l:=λq a=>by
 have:=ip (kR.1 h q a)
 omega
structure mh (M:gF) (shs:List (List Int)):Prop where
 v:gl M.ba=true
 n:M.lays.length≤6
 b:∀l∈M.lays,mV l.ba
 i0:dF M.inp=true
 p:lM M.inp M.lays shs
 l:shs.length=M.lays.length
 s0:cS M.inp≤24
 ss:∀s∈shs,cS s≤24
 u:nP (dy M.inp shs) M.lays M.lays.length≤20
theorem Nj {α:Type} {l:List α} {P:α→Prop} (hi:i<l.length) (h:∀x∈l.take i,P x) (b:P l[i]):∀x∈l.take (i+1),P x:=λx a=>by
 rw[fi hi] at a
 rcases oK.1 a with a|a
 ·exact h x a
 ·obtain rfl:x=l[i]:=by simpa using a
  exact b
theorem SG {m:fj} {x:Value} (n:aD bJ m.inp x w) (v:aD gp m.lays y w):
 Calls Tryz.prog 7 #[.agg #[x,y]] w (aJ λr w'=>ao w w'∧(r=B false∨(r=B true∧∃M shs,m=M.ba∧mh M shs))):=by
 refine enter (vs:=[.agg #[x,y]]) Tryz.func7 H H H (T (cE H H λg1 w1 l1 x1 k1=>(Z H (O (ah (T (c H (gE) (Y H (D dP H (k1.cell (i:=1) H)) (aW H (bP dP (v.aL x1)) (U H (cY) (J H (cK (λaX=>?_) (λaX=>?_)))))))))))))
 ·refine L H (L H (L H (L H (bA H (O (bT H (T (Z H (O (aA (aI ?_)))))))))))
  refine aM H ?_
  exact⟨_,H,x1,.inl H⟩
 ·refine V H (c H (jt) (V H (Y H (D cd H (k1.cell (i:=0) H)) ?_)))
  refine V H (aW H (bP cd (n.aL x1)) (V H (U H (cY) (t H (O (bc H (λaY=>?_) (λaY=>?_)))))))
  ·refine T (Z H (O (aA (aI (aM H ?_)))))
   exact⟨_,H,x1,.inl H⟩
  ·refine aH (al (ah (T (Z H (O (aR ?_))))))
   refine eg (α:=Nat) (λi=>[(1,.pointer (some ⟨g1,0,none⟩)),(3,I (i:Int))]) (λi w'=>ao w w'∧i≤m.inp.length∧bm g1 25 [x,y] w') (λi=>m.inp.length-i) ((0)) (aP H) ⟨x1,G,k1⟩ ?_
   rintro i wA ⟨o,hi,N⟩
   refine ah (T (J H (c H (jt) (Y H (D cd H (N.cell (i:=0) H)) (aW H (bP cd (n.aL o)) (U H (bO) (O (bc H (λa0=>?_) (λa0=>?_)))))))))
   ·refine aH (al (ah (aR (T (c H (jt) (Y H (D cd H (N.cell (i:=0) H)) ?_))))))
    refine J H ?_
    obtain⟨bu,bz,bh,bo,ai⟩:=bX (P:=Tryz.prog) (sz:=1) cd am el G (n.aL o) (i:=i) (G) .i64
    obtain⟨bL,bd⟩:∃e,e=m.inp[i]'G:=⟨_,rfl⟩
    rw[←bd] at ai
    obtain rfl:=er ai
    refine bF H (bh _) (Y H (D aE H bo.cell0) (U H (bO) (J H (cK (λa1=>?_) (λa1=>?_)))))
    ·refine L H (L H (L H (L H (L H (L H (bA H (O (bT H (T (Z H ?_))))))))))
     refine O (aA (bD (aI (aI (bD (aI (aM H ?_)))))))
     exact⟨_,H,o,.inl H⟩
    ·refine V H (c H (jt) (V H (Y H (D cd H (N.cell (i:=0) H)) ?_)))
     refine V H (J H (V H ?_))
     obtain⟨bw,bC,bj,bp,aj⟩:=bX (P:=Tryz.prog) (sz:=1) cd am el G (n.aL o) (i:=i) (G) .i64
     obtain⟨bM,be⟩:∃e,e=m.inp[i]'G:=⟨_,rfl⟩
     rw[←be] at aj
     obtain rfl:=er aj
     refine bF H (bj _) (V H (Y H (D aE H bp.cell0) (V H (U H (cY) (t H (O (bc H (λa2=>?_) (λa2=>?_))))))))
     ·refine T (Z H (O (aA (bD (aI (aI (bD (aI (aM H ?_)))))))))
      exact⟨_,H,o,.inl H⟩
     ·refine aH (bE (al (ap (J H (U H cD ?_)))))
      refine Z H (f (ew (i+1) (aP H) ⟨o,G,N⟩ G))
   ·refine ce (aU (aU (cg (al (ah (T (Z H (O (aR ?_)))))))))
    refine eg (α:=Nat) (λi=>[(1,.pointer (some ⟨g1,0,none⟩)),(4,I (i:Int))]) (λi w'=>ao w w'∧i≤m.lays.length∧bm g1 25 [x,y] w'∧∀l∈m.lays.take i,mV l) (λi=>m.lays.length-i) ((0)) (aP H) ⟨o,G,N,λl b=>by simp at b⟩ ?_
    rintro i wB ⟨a,hi,p,u⟩
    refine ah (T (J H (c H (gE) (Y H (D dP H (p.cell (i:=1) H)) (aW H (bP dP (v.aL a)) (U H (bO) (O (bc H (λa3=>?_) (λa3=>?_)))))))))
    ·refine aH (al (ah (aR (T (c H (gE) (Y H (D dP H (p.cell (i:=1) H)) ?_))))))
     refine J H ?_
     obtain⟨a53,bG,bk,bq,ak⟩:=bX (P:=Tryz.prog) (sz:=9) dP am tF G (v.aL a) (i:=i) (G) .i64
     obtain⟨q,au⟩:∃e,e=m.lays[i]'G:=⟨_,rfl⟩
     rw[←au] at ak
     obtain⟨b4,b5,rfl,S,W⟩:=wi ak
     refine bF H (bk _) (Y H (bq.ld dG H eJ) (cM xC H λg5 w5 l5 x5 k5=>cl H H k5 H eJ (ay.a1 H (ay.a1 H (ay.a1 H (ay.a1 H (ay.a1 H (ay.a1 H (ay.a1 H (ay.a1 S.one (ay.a1 W.one ay.nil))))))))) λbY bl j=>?_))
     have d:=ao.a2 (x5) bl l5
     refine O (ah (T (c H (gJ) (Y H (D cn H (j.cell (i:=7) H)) (aW H (bP cn (S.aL d)) (U H (cY) (J H (cK (λa4=>?_) (λa4=>?_)))))))))
     ·refine L H (L H (L H (L H (bA H (J H (L H (L H (L H (bA H ?_)))))))))
      refine J H (L H (L H (L H (bA H (J H (L H (L H (L H (bA H (J H (L H (L H (L H (bA H (J H (L H (L H (L H (bA H (O (bT H (T (Z H (O (aA (aI (bD (aI (aI (bD (aI (aM H ?_))))))))))))))))))))))))))))))))
      exact⟨_,H,(a.ai d),.inl H⟩
     ·refine V H (c H (lc) (V H (Y H (D cn H (j.cell (i:=8) H)) ?_)))
      refine V H (aW H (bP cn (W.aL d)) (V H (U H (cY) (t H (J H (cK (λa5=>?_) (λa5=>?_)))))))
      ·refine L H (L H (L H (bA H (J H (L H (L H (L H (bA H (J H ?_)))))))))
       refine L H (L H (L H (bA H (J H (L H (L H (L H (bA H (J H (L H (L H (L H (bA H (O (bT H (T (Z H (O (aA (aI (bD (aI (aI (bD (aI (aM H ?_))))))))))))))))))))))))))
       exact⟨_,H,(a.ai d),.inl H⟩
      ·refine V H (c H (f9) (V H (Y H (D aE H (j.cell (i:=2) H)) ?_)))
       refine V H (U H (cY) (t H (J H (cK (λa6=>?_) (λa6=>?_)))))
       ·refine L H (L H (L H (bA H (J H (L H (L H (L H (bA H (J H ?_)))))))))
        refine L H (L H (L H (bA H (J H (L H (L H (L H (bA H (f (al (bT H (T (Z H (O (aA (aI (bD (aI (aI (bD (aI (aM H ?_))))))))))))))))))))))
        exact⟨_,H,(a.ai d),.inl H⟩
       ·refine V H (c H (gq) (V H (Y H (D aE H (j.cell (i:=3) H)) ?_)))
        refine V H (U H (cY) (t H (J H (cK (λa7=>?_) (λa7=>?_)))))
        ·refine L H (L H (L H (bA H (J H (L H (L H (L H (bA H (J H ?_)))))))))
         refine L H (L H (L H (bA H (O (bT H (T (Z H (O (aA (aI (bD (aI (aI (bD (aI (aM H ?_))))))))))))))))
         exact⟨_,H,(a.ai d),.inl H⟩
        ·refine V H (c H (gt) (V H (Y H (D aE H (j.cell (i:=4) H)) ?_)))
         refine V H (U H (cY) (t H (J H (cK (λa8=>?_) (λa8=>?_)))))
         ·refine L H (L H (L H (bA H (J H (L H (L H (L H (bA H (f ?_)))))))))
          refine al (bT H (T (Z H (O (aA (aI (bD (aI (aI (bD (aI (aM H ?_))))))))))))
          exact⟨_,H,(a.ai d),.inl H⟩
         ·refine V H (c H (js) (V H (Y H (D aE H (j.cell (i:=5) H)) ?_)))
          refine V H (U H (cY) (t H (J H (cK (λa9=>?_) (λa9=>?_)))))
          ·refine L H (L H (L H (bA H (O (bT H (T (Z H (O (aA (aI (bD (aI ?_))))))))))))
           refine aI (bD (aI (aM H ?_)))
           exact⟨_,H,(a.ai d),.inl H⟩
          ·refine V H (c H (ik) (V H (Y H (D aE H (j.cell (i:=6) H)) ?_)))
           refine V H (U H (cY) (t H (O (bc H (λba=>?_) (λba=>?_)))))
           ·refine T (Z H (O (aA (aI (bD (aI (aI (bD (aI (aM H ?_))))))))))
            exact⟨_,H,(a.ai d),.inl H⟩
           ·refine aH (al (T (c H (gJ) (Y H (D cn H (j.cell (i:=7) H)) ?_))))
            refine aC KH H H ((by have h:=IR (l:=q.ws) (S.aL d);rw[show nH q.ws=decide (nH q.ws=true) by simp] at h;exact h)) ?_
            rintro bU b1 ⟨z,rfl⟩
            refine cP H Bf (J H (cK (λan=>?_) (λan=>?_)))
            ·refine L H (L H (L H (L H (bA H (O (bT H (T (Z H (O (aA (bD ?_)))))))))))
             refine aI (aI (bD (aI (aM H ?_))))
             exact⟨_,H,((a.ai d).ai z),.inl H⟩
            ·refine V H (c H (lc) (V H (Y H (D cn H (z.a0 (j.cell (i:=8) H))) ?_)))
             refine V H (aC KH H H ((by have h:=IR (l:=q.bs) (W.aL (d.ai z));rw[show nH q.bs=decide (nH q.bs=true) by simp] at h;exact h)) ?_)
             rintro bV b2 ⟨ae,rfl⟩
             refine V H (cP H Bf (t H (O (bc H (λaq=>?_) (λaq=>?_)))))
             ·refine T (Z H (O (aA (bD (aI (aI (bD (aI (aM H ?_)))))))))
              exact⟨_,H,(((a.ai d).ai z).ai ae),.inl H⟩
             ·refine aH (bE (al (ap (J H (U H cD ?_)))))
              refine Z H (f (ew (i+1) (aP H) ⟨(((a.ai d).ai z).ai ae),G,(p.aL ((d.ai z).ai ae)),Nj G u (by rw[←au];exact⟨G,G,G,G,G,G,G,by simpa using an,by simpa using aq⟩)⟩ G))
    ·refine ce (aU (aU (cg (al (ah ?_)))))
     obtain rfl:i=m.lays.length:=by omega
     rw[fL] at u
     have ax:qh m:=λl b=>⟨y8 (u l b).w1,y8 (u l b).b1⟩
     rcases hV:gl m
     ·refine ap (Y H (p.ld fz H eR) (aC F0 H H ((SH (n.aL a) (v.aL a) ax hV)) ?_))
      rintro bs aB ⟨g,aG,bf,rfl⟩
      refine J H (aZ H (ov) (aZ H (ow) (aZ H (ox) (Z H (Z H (Z H (f (al (ah (T (J H (U H (cu G dZ) (J H (L H (L H (L H (L H (bA H (O (bT H (T (Z H (O (aA (aI (aM H ?_))))))))))))))))))))))))))
      exact⟨_,H,(a.ai g),.inl H⟩
     ·obtain⟨M,rfl,A,b⟩:=XA hV
      have aw:∀l∈M.lays,ry l:=λl b=>ax _ (EI b)
      have bN:(M.ba).lays.length=M.lays.length:=dN _
      refine ap (Y H (p.ld fz H eR) (aC F0 H H ((JN (M:=M) (n.aL a) (aD.lays.1 (v.aL a)) aw hV A b)) ?_))
      rintro bs aB ⟨g,aG,bf,bH,rfl,aL⟩
      refine J H (aZ H (ov) (aZ H (ow) (aZ H (ox) (Z H (Z H (Z H (f (al (ah (T (J H (U H (dZ) (J H (cK (λaN=>?_) (λaN=>?_)))))))))))))))
      ·refine L H (L H (L H (L H (bA H (O (bT H (T (Z H (O (aA (aI ?_)))))))))))
       refine aM H ?_
       exact⟨_,H,(a.ai g),.inl H⟩
      ·refine V H (c H (jt) (V H (Y H (D cd H (g.a0 (p.cell (i:=0) H))) ?_)))
       refine V H (aC Am H H ((zM (l:=M.inp) (n.aL (a.ai g)) A)) ?_)
       rintro bQ bW ⟨ab,rfl⟩
       refine V H (U H (cY) (t H (O (bc H (λaO=>?_) (λaO=>?_)))))
       ·refine T (Z H (O (aA (aI (aM H ?_)))))
        exact⟨_,H,((a.ai g).ai ab),.inl H⟩
       ·refine aH (al (ah (ah ?_)))
        obtain⟨shs,hz,K,ar⟩:=aL G
        refine ap (Z H (O (aR (eg (α:=Nat) (λi=>[(1,.pointer (some ⟨g1,0,none⟩)),(6,aG),(9,I (i:Int))]) (λi w'=>ao aB w'∧i≤shs.length∧bm g1 25 [x,y] w'∧∀s∈shs.take i,cS s≤24) (λi=>shs.length-i) ((0)) (aP H) ⟨ab,G,(p.aL (g.ai ab)),λl b=>by simp at b⟩ ?_))))
        rintro i wC ⟨k,hi,av,F⟩
        refine ah (T (J H (J H (aW H (bP gC (hz.aL k)) (U H (bO) (O (bc H (λaQ=>?_) (λaQ=>?_))))))))
        ·refine aH (al (ah (aR (T (J H (J H ?_))))))
         obtain⟨bt,bx,bg,bn,af⟩:=bX (P:=Tryz.prog) (sz:=1) gC am lR G (hz.aL k) (i:=i) (G) .i64
         obtain⟨bI,aa⟩:∃e,e=shs[i]'G:=⟨_,rfl⟩
         rw[←aa] at af
         obtain⟨b3,rfl,aK⟩:=mi af
         refine bF H (bg _) (Y H (D cd H bn.cell0) (aC Am H H ((zM aK (by rw[aa];exact K.all _ (eK _)))) ?_))
         rintro bR bZ ⟨ad,rfl⟩
         refine U H (cY) (O (bc H (λaS=>?_) (λaS=>?_)))
         ·refine T (Z H (O (aA (bD (aI (aI (bD (aI (aM H ?_)))))))))
          exact⟨_,H,(((a.ai g).ai k).ai ad),.inl H⟩
         ·refine aH (bE (al (ap (J H (U H cD ?_)))))
          refine Z H (f (ew (i+1) (aP H) ⟨(k.ai ad),G,(av.aL ad),Nj G F (by rw[←aa];omega)⟩ G))
        ·refine ce (aU (aU (cg (al (T (Y H (av.ld fz H eR) (aC U9 H H ((SB (M:=M) (n.aL ((a.ai g).ai k)) (aD.lays.1 (v.aL ((a.ai g).ai k))) aw hV A b)) ?_)))))))
         rintro bS b0 ⟨aF,az,bK,rfl,ag⟩
         refine J H (aZ H (dm) (aZ H (dn) (Z H (Z H (bB (J H (U H (aV) (J H (cK (λaT=>?_) (λaT=>?_))))))))))
         ·refine V H (J H (V H (U H (uT) (bA H (Z H (O (aA (aM H ?_))))))))
          have Q:=((a.ai g).ai k).ai aF
          first|exact⟨_,rfl,Q,.inl rfl⟩|exact(if C:az≤20 then by {rw[dH C];obtain⟨br,X,bb,hn⟩:=ag G;obtain rfl:=K.uniq X G;obtain rfl:i=shs.length:=G;rw[fL] at F;exact⟨_,rfl,Q,.inr ⟨rfl,M,shs,rfl,⟨hV,G,λl b=>u _ (EI b),A,K,ar,G,F,G⟩⟩⟩} else by {rw[bi C];exact⟨_,rfl,Q,.inl rfl⟩})
         ·refine L H (L H (t H (Z H (O (aA (aM H ?_))))))
          have R:=((a.ai g).ai k).ai aF
          first|exact⟨_,rfl,R,.inl rfl⟩|exact(if C:az≤20 then by {rw[dH C];obtain⟨br,X,bb,hn⟩:=ag G;obtain rfl:=K.uniq X G;obtain rfl:i=shs.length:=G;rw[fL] at F;exact⟨_,rfl,R,.inr ⟨rfl,M,shs,rfl,⟨hV,G,λl b=>u _ (EI b),A,K,ar,G,F,G⟩⟩⟩} else by {rw[bi C];exact⟨_,rfl,R,.inl rfl⟩})
theorem Cg:aY Tryz.prog 204:=⟨_,Tryz.func204,am,rfl⟩
theorem Kz:aY Tryz.prog 314:=⟨_,Tryz.func314,am,rfl⟩
theorem Uy:aY Tryz.prog 313:=⟨_,Tryz.func313,am,rfl⟩
theorem TW:aY Tryz.prog 312:=⟨_,Tryz.func312,am,rfl⟩
theorem KM:aY Tryz.prog 259:=⟨_,Tryz.func259,am,rfl⟩
theorem Uz:aY Tryz.prog 178:=⟨_,Tryz.func178,am,rfl⟩
theorem Bx (b:aO l v w) (k:aO m u w):
 Calls Tryz.prog 204 #[v,u] w (aJ λr w'=>ao w w'∧r=B (decide (l=m))):=by
 refine enter Tryz.func204 H H H ?_
 have L:=b.len
 refine T (Z H (O (ah (T (J H (aW H (cI aT b) (J H (aW H (cI aT k) (U H (dZ) (O (bc H (λj=>?_) (λj=>?_))))))))))))
 ·have d:l≠m:=λh=>j (by rw[h])
  refine T (Z H (O (aA (aI (aM H ?_)))))
  exact⟨_,H,ao.refl _,aB B (bi d).symm⟩
 ·have K:l.length=m.length:=G
  refine aH (al (ah (T (J H (aW H (cI aT b) (J H (O (aR (eg (α:=Nat) (λx=>[(0,v),(1,u),(12,I (l.length:Int)),(13,I (x:Int))]) (λx w'=>ao w w'∧x≤l.length∧l.take x=m.take x) (λx=>l.length-x) (0) (aP H) ⟨ao.refl _,G,H⟩ ?_)))))))))
  rintro i w4 ⟨a,hi,e⟩
  refine T (U H (bO) (O (ah (bc H (λo=>?_) (λo=>?_)))))
  ·refine aH (al (ah (aR (T (J H (Z H (O (ah (cz 8 [0,1,12,13,19,23] am am ?_)))))))))
   refine W H (W H ?_)
   obtain⟨C,t,z⟩:=ei aT (b.aL a) (i:=i) G .i64
   refine cF H (λw _=>t w) (aQ H (λw g=>D bN H (g.a0 z)) (W H (W H ?_)))
   obtain⟨F,y,A⟩:=ei aT (k.aL a) (i:=i) G .i64
   refine cF H (λw _=>y w) (aQ H (λw g=>D bN H (g.a0 A)) (cq ?_))
   rintro M n _ q
   obtain rfl:=bU q
   rintro _ s
   obtain rfl:=bU s
   rintro _ rfl _ rfl _ rfl _ rfl
   refine U H (yY) (O (bc H (λc=>?_) (λc=>?_)))
   ·have d:l≠m:=λh=>c (by subst h;rfl)
    refine T (Z H (O (aA (bD (aI (aI (bD (aI (aM H ?_)))))))))
    exact⟨_,H,(a.ai n),aB B (bi d).symm⟩
   ·have p:l[i]'G=m[i]'G:=oJ λh=>c h
    refine aH (bE (al (ap (U H cD (J H (f (ew (i+1) (aP H) ⟨(a.ai n),G,by rw[fi G,fi G,e,p]⟩ G)))))))
  ·refine ce (aU (aU (cg (al (T (Z H (O (aA (aM H ?_)))))))))
   exact⟨_,H,a,by
    rw[fG G,fG G] at e
    rw[dH e];rfl⟩
theorem ID {l m:List Int} (b:aD bJ l v w) (s:aD bJ m u w):
 Calls Tryz.prog 314 #[v,u] w (aJ λr w'=>ao w w'∧r=B (decide (l=m))):=by
 refine enter Tryz.func314 H H H ?_
 have aa:=b.len
 refine T (Z H (O (ah (T (J H (aW H (bP cd b) (J H (aW H (bP cd s) (U H (dZ) (O (bc H (λo=>?_) (λo=>?_))))))))))))
 ·have j:l≠m:=λh=>o (by rw[h])
  refine T (Z H (O (aA (aI (aM H ?_)))))
  exact⟨_,H,ao.refl _,aB B (bi j).symm⟩
 ·have Y:l.length=m.length:=G
  refine aH (al (ah (T (J H (aW H (bP cd b) (J H (O (aR (eg (α:=Nat) (λx=>[(0,v),(1,u),(12,I (l.length:Int)),(13,I (x:Int))]) (λx w'=>ao w w'∧x≤l.length∧l.take x=m.take x) (λx=>l.length-x) (0) (aP H) ⟨ao.refl _,G,H⟩ ?_)))))))))
  rintro i w4 ⟨a,hi,k⟩
  refine T (U H (bO) (O (ah (bc H (λy=>?_) (λy=>?_)))))
  ·refine aH (al (ah (aR (T (J H (Z H (O (ah (cz 8 [0,1,12,13,19,23] am am ?_)))))))))
   refine W H (W H ?_)
   obtain⟨N,R,F,L,p⟩:=bX (P:=Tryz.prog) (sz:=1) cd am el G (b.aL a) (i:=i) G .i64
   obtain⟨V,d⟩:∃e,e=l[i]'G:=⟨_,rfl⟩
   rw[←d] at p
   obtain rfl:=er p
   refine cF H (λw _=>F w) (aQ H (λw n=>D aE H (n.a0 L.cell0)) (W H (W H ?_)))
   obtain⟨Q,S,K,M,q⟩:=bX (P:=Tryz.prog) (sz:=1) cd am el G (s.aL a) (i:=i) G .i64
   obtain⟨X,g⟩:∃e,e=m[i]'G:=⟨_,rfl⟩
   rw[←g] at q
   obtain rfl:=er q
   refine cF H (λw _=>K w) (aQ H (λw n=>D aE H (n.a0 M.cell0)) (cq ?_))
   rintro ab t _ A
   obtain rfl:=bU A
   rintro _ C
   obtain rfl:=bU C
   rintro _ rfl _ rfl _ rfl _ rfl
   refine U H (dZ) (O (bc H (λc=>?_) (λc=>?_)))
   ·have j:l≠m:=λh=>c (by subst h;rw[d,g])
    refine T (Z H (O (aA (bD (aI (aI (bD (aI (aM H ?_)))))))))
    exact⟨_,H,(a.ai t),aB B (bi j).symm⟩
   ·have z:l[i]'G=m[i]'G:=by rw[←d,←g];exact oJ λh=>c h
    refine aH (bE (al (ap (U H cD (J H (f (ew (i+1) (aP H) ⟨(a.ai t),G,by rw[fi G,fi G,k,z]⟩ G)))))))
  ·refine ce (aU (aU (cg (al (T (Z H (O (aA (aM H ?_)))))))))
   exact⟨_,H,a,by
    rw[fG G,fG G] at k
    rw[dH k];rfl⟩
theorem Rv {a b:df} {x p q:Value} (n:aO a.2.1 x w) (o:aO a.2.2 y w) (s:aO b.2.1 p w) (u:aO b.2.2 q w):
 Calls Tryz.prog 313 #[.agg #[B a.1,x,y],.agg #[B b.1,p,q]] w (aJ λr w'=>ao w w'∧r=B (decide (a=b))):=by
 refine enter (vs:=[.agg #[B a.1,x,y],.agg #[B b.1,p,q]]) Tryz.func313 H H H (T (cE H H λz w2 C g l=>cE H H λA P F d m=>(Z H (bB (c H (qZ) (Y H (D dw H (d.a0 (l.cell (i:=0) H))) (c H (qZ) (Y H (D dw H (m.cell (i:=0) H)) (U H (yT dw) (J H (cK (λe=>?_) (λe=>?_))))))))))))
 ·refine V H (c H (sE) (V H (Y H (D aT H (d.a0 (l.cell (i:=1) H))) ?_)))
  refine V H (c H (sE) (V H (Y H (D aT H (m.cell (i:=1) H)) (V H (aC Cg H H (Bx (n.aL (g.ai d)) (s.aL (g.ai d))) ?_)))))
  rintro G M ⟨j,rfl⟩
  refine bA H (J H (cK (λf=>?_) (λf=>?_)))
  ·refine V H (c H (tK) (V H (Y H (D aT H ((d.ai j).a0 (l.cell (i:=2) H))) ?_)))
   refine V H (c H (tK) (V H (Y H (D aT H (j.a0 (m.cell (i:=2) H))) ?_)))
   have k:=(g.ai d).ai j
   refine V H (aC Cg H H (Bx (o.aL k) (u.aL k)) ?_)
   rintro K N ⟨v,rfl⟩
   refine bA H (Z H (O (aA (aM H ?_))))
   exact⟨_,H,(k.ai v),by
    first
    |exact aB B (cA.2 ⟨λh=>oP e (oP f h),λh=>by rw[h]⟩)
    |exact aB B (bi λh=>f (by rw[h])).symm
    |exact aB B (bi λh=>e (by rw[h])).symm⟩
  ·refine L H (L H (L H (L H (L H (t H (Z H (O (aA (aM H ?_)))))))))
   exact⟨_,H,((g.ai d).ai j),by
    first
    |exact aB B (cA.2 ⟨λh=>oP e (oP f h),λh=>by rw[h]⟩)
    |exact aB B (bi λh=>f (by rw[h])).symm
    |exact aB B (bi λh=>e (by rw[h])).symm⟩
 ·refine L H (L H (L H (L H (L H (t H (J H (L H (L H (L H ?_)))))))))
  refine L H (L H (t H (Z H (O (aA (aM H ?_))))))
  exact⟨_,H,(g.ai d),by
   first
   |exact aB B (cA.2 ⟨λh=>oP e (oP f h),λh=>by rw[h]⟩)
   |exact aB B (bi λh=>f (by rw[h])).symm
   |exact aB B (bi λh=>e (by rw[h])).symm⟩
theorem QM {l m:List df} (d:aD dK l v w) (C:aD dK m u w):
 Calls Tryz.prog 312 #[v,u,.func (.func 313) #[] #[]] w (aJ λr w'=>ao w w'∧r=B (decide (l=m))):=by
 refine enter (vs:=[v,u,.func (.func 313) #[] #[]]) Tryz.func312 H H H ?_
 have ak:=d.len
 refine T (Z H (O (ah (T (J H (aW H (bP cn d) (J H (aW H (bP cn C) (U H (dZ) (O (bc H (λy=>?_) (λy=>?_))))))))))))
 ·have n:l≠m:=λh=>y (by rw[h])
  refine T (Z H (O (aA (aI (aM H ?_)))))
  exact⟨_,H,ao.refl _,aB B (bi n).symm⟩
 ·have aj:l.length=m.length:=G
  refine aH (al (ah (T (J H (aW H (bP cn d) (J H (O (aR (eg (α:=Nat) (λx=>[(0,v),(1,u),(2,.func (.func 313) #[] #[]),(15,v),(16,I (l.length:Int)),(17,I (x:Int))]) (λx w'=>ao w w'∧x≤l.length∧l.take x=m.take x) (λx=>l.length-x) (0) (aP H) ⟨ao.refl _,G,H⟩ ?_)))))))))
  rintro i w4 ⟨b,hi,o⟩
  refine T (U H (bO) (O (ah (bc H (λL=>?_) (λL=>?_)))))
  ·refine aH (al (ah (aR (T (J H ?_)))))
   obtain⟨a20,ag,X,ab,z⟩:=bX (P:=Tryz.prog) (sz:=3) cn am py G (d.aL b) (i:=i) G .i64
   obtain⟨F,j⟩:∃e,e=l[i]'G:=⟨_,rfl⟩
   rw[←j] at z
   obtain⟨av,aw,rfl,p,q⟩:=su z
   refine bF H (X _) (Y H (ab.ld bI H bW) (cM iH H λg8 w8 V x8 R=>(Z H (cl H H R H bW (ay.a1 H (ay.a1 p.one (ay.a1 q.one ay.nil))) λar ae N=>?_))))
   have c:=ao.a2 (x8) ae V
   refine bB (J H (J H ?_))
   obtain⟨a24,ai,aa,ad,A⟩:=bX (P:=Tryz.prog) (sz:=3) cn am py G (C.aL (b.ai c)) (i:=i) G .i64
   obtain⟨K,k⟩:∃e,e=m[i]'G:=⟨_,rfl⟩
   rw[←k] at A
   obtain⟨ax,az,rfl,s,t⟩:=su A
   refine bF H (aa _) (Y H (ad.ld bI H bW) (cM iH H λg9 w9 W x9 S=>cl H H S H bW (ay.a1 H (ay.a1 s.one (ay.a1 t.one ay.nil))) λau af Q=>?_))
   have a:=ao.a2 (x9) af W
   refine bB (J H (Y H ((N.aL a).ld bI H bW) (Y H (Q.ld bI H bW) (im H Uy H H ((Rv (p.aL (c.ai a)) (q.aL (c.ai a)) (s.aL a) (t.aL a))) ?_))))
   rintro an aq ⟨D,rfl⟩
   refine cP H cW (O (lQ H (λg=>?_) (λg=>?_)))
   ·have n:l≠m:=λh=>absurd (show F=K by subst h;rw[j,k]) (by simpa using g)
    refine T (Z H (O (aA (bD (aI (aI (bD (aI (aM H ?_)))))))))
    exact⟨_,H,(((b.ai c).ai a).ai D),aB B (bi n).symm⟩
   ·have M:l[i]'G=m[i]'G:=by rw[←j,←k];simpa using g
    refine aH (bE (al (ap (U H cD (J H (f (ew (i+1) (aP H) ⟨(((b.ai c).ai a).ai D),G,by rw[fi G,fi G,o,M]⟩ G)))))))
  ·refine ce (aU (aU (cg (al (T (Z H (O (aA (aM H ?_)))))))))
   exact⟨_,H,b,by
    rw[fG G,fG G] at o
    rw[dH o];rfl⟩
theorem Ja {l m:List df} (b:aD dK l v w) (a:aD dK m u w):
 Calls Tryz.prog 259 #[v,u] w (aJ λr w'=>ao w w'∧r=B (decide (l=m))):=by
 refine enter Tryz.func259 H H H (T (Z H (bB (J H (J H (aC TW H H (QM b a) ?_))))))
 rintro d e ⟨c,rfl⟩
 refine Z H (O (aA (aM H ?_)))
 exact⟨_,H,c,H⟩
theorem Rw {a b:cG} {x p q:Value} (C:aD dK a.ws x w) (F:aD dK a.bs y w) (G:aD dK b.ws p w) (K:aD dK b.bs q w):
 Calls Tryz.prog 178 #[.agg #[I a.kd,I a.fr,I a.ou,I a.kh,I a.kw,I a.sr,I a.pd,x,y],.agg #[I b.kd,I b.fr,I b.ou,I b.kh,I b.kw,I b.sr,I b.pd,p,q]] w (aJ λr w'=>ao w w'∧r=B (decide (a=b))):=by
 refine enter (vs:=[.agg #[I a.kd,I a.fr,I a.ou,I a.kh,I a.kw,I a.sr,I a.pd,x,y],.agg #[I b.kd,I b.fr,I b.ou,I b.kh,I b.kw,I b.sr,I b.pd,p,q]]) Tryz.func178 H H H (T (cE H H λN w2 Q s u=>cE H H λP X R d v=>(Z H (bB (c H (et) (Y H (D aE H (d.a0 (u.cell (i:=0) H))) (c H (et) (Y H (D aE H (v.cell (i:=0) H)) (U H (aV) (J H (cK (λe=>?_) (λe=>?_))))))))))))
 ·refine V H (c H (jr) (V H (Y H (D aE H (d.a0 (u.cell (i:=1) H))) ?_)))
  refine V H (c H (jr) (V H (Y H (D aE H (v.cell (i:=1) H)) (V H (U H (aV) (bA H (J H (cK (λg=>?_) (λg=>?_)))))))))
  ·refine V H (c H (f9) (V H (Y H (D aE H (d.a0 (u.cell (i:=2) H))) ?_)))
   refine V H (c H (f9) (V H (Y H (D aE H (v.cell (i:=2) H)) (V H (U H (aV) (bA H (J H (cK (λj=>?_) (λj=>?_)))))))))
   ·refine V H (c H (gq) (V H (Y H (D aE H (d.a0 (u.cell (i:=3) H))) ?_)))
    refine V H (c H (gq) (V H (Y H (D aE H (v.cell (i:=3) H)) (V H (U H (aV) (bA H (J H (cK (λk=>?_) (λk=>?_)))))))))
    ·refine V H (c H (gt) (V H (Y H (D aE H (d.a0 (u.cell (i:=4) H))) ?_)))
     refine V H (c H (gt) (V H (Y H (D aE H (v.cell (i:=4) H)) (V H (U H (aV) (bA H (J H (cK (λl=>?_) (λl=>?_)))))))))
     ·refine V H (c H (js) (V H (Y H (D aE H (d.a0 (u.cell (i:=5) H))) ?_)))
      refine V H (c H (js) (V H (Y H (D aE H (v.cell (i:=5) H)) (V H (U H (aV) (bA H (J H (cK (λm=>?_) (λm=>?_)))))))))
      ·refine V H (c H (ik) (V H (Y H (D aE H (d.a0 (u.cell (i:=6) H))) ?_)))
       refine V H (c H (ik) (V H (Y H (D aE H (v.cell (i:=6) H)) (V H (U H (aV) (bA H (J H (cK (λn=>?_) (λn=>?_)))))))))
       ·refine V H (c H (gJ) (V H (Y H (D cn H (d.a0 (u.cell (i:=7) H))) ?_)))
        refine V H (c H (gJ) (V H (Y H (D cn H (v.cell (i:=7) H)) (V H (aC KM H H (Ja (C.aL (s.ai d)) (G.aL (s.ai d))) ?_)))))
        rintro S aa ⟨z,rfl⟩
        refine bA H (J H (cK (λo=>?_) (λo=>?_)))
        ·refine V H (c H (lc) (V H (Y H (D cn H ((d.ai z).a0 (u.cell (i:=8) H))) ?_)))
         refine V H (c H (lc) (V H (Y H (D cn H (z.a0 (v.cell (i:=8) H))) ?_)))
         have A:=(s.ai d).ai z
         refine V H (aC KM H H (Ja (F.aL A) (K.aL A)) ?_)
         rintro W ab ⟨M,rfl⟩
         refine bA H (Z H (O (aA (aM H ?_))))
         exact⟨_,H,(A.ai M),by
          first
          |exact aB B (cA.2 (by rw[cG.eq_iff];exact⟨λh=>⟨e,g,j,k,l,m,n,o,h⟩,λh=>h.2.2.2.2.2.2.2.2⟩))
          |exact aB B (bi λh=>by subst h;first|exact o rfl|exact n rfl|exact m rfl|exact l rfl|exact k rfl|exact j rfl|exact g rfl|exact e rfl).symm⟩
        ·refine L H (L H (L H (L H (L H (t H (Z H (O (aA (aM H ?_)))))))))
         exact⟨_,H,((s.ai d).ai z),by
          first
          |exact aB B (cA.2 (by rw[cG.eq_iff];exact⟨λh=>⟨e,g,j,k,l,m,n,o,h⟩,λh=>h.2.2.2.2.2.2.2.2⟩))
          |exact aB B (bi λh=>by subst h;first|exact o rfl|exact n rfl|exact m rfl|exact l rfl|exact k rfl|exact j rfl|exact g rfl|exact e rfl).symm⟩
       ·refine L H (L H (L H (L H (L H (t H (J H (L H (L H (L H ?_)))))))))
        refine L H (L H (t H (Z H (O (aA (aM H ?_))))))
        exact⟨_,H,(s.ai d),by
         first
         |exact aB B (cA.2 (by rw[cG.eq_iff];exact⟨λh=>⟨e,g,j,k,l,m,n,o,h⟩,λh=>h.2.2.2.2.2.2.2.2⟩))
         |exact aB B (bi λh=>by subst h;first|exact o rfl|exact n rfl|exact m rfl|exact l rfl|exact k rfl|exact j rfl|exact g rfl|exact e rfl).symm⟩
      ·refine L H (L H (L H (L H (L H (t H (J H (L H (L H (L H ?_)))))))))
       refine L H (L H (t H (J H (L H (L H (L H (L H (L H (t H (Z H (O (aA (aM H ?_)))))))))))))
       exact⟨_,H,(s.ai d),by
        first
        |exact aB B (cA.2 (by rw[cG.eq_iff];exact⟨λh=>⟨e,g,j,k,l,m,n,o,h⟩,λh=>h.2.2.2.2.2.2.2.2⟩))
        |exact aB B (bi λh=>by subst h;first|exact o rfl|exact n rfl|exact m rfl|exact l rfl|exact k rfl|exact j rfl|exact g rfl|exact e rfl).symm⟩
     ·refine L H (L H (L H (L H (L H (t H (J H (L H (L H (L H ?_)))))))))
      refine L H (L H (t H (J H (L H (L H (L H (L H (L H (t H (J H (L H (L H (L H (L H (L H (t H (Z H (O (aA (aM H ?_))))))))))))))))))))
      exact⟨_,H,(s.ai d),by
       first
       |exact aB B (cA.2 (by rw[cG.eq_iff];exact⟨λh=>⟨e,g,j,k,l,m,n,o,h⟩,λh=>h.2.2.2.2.2.2.2.2⟩))
       |exact aB B (bi λh=>by subst h;first|exact o rfl|exact n rfl|exact m rfl|exact l rfl|exact k rfl|exact j rfl|exact g rfl|exact e rfl).symm⟩
    ·refine L H (L H (L H (L H (L H (t H (J H (L H (L H (L H ?_)))))))))
     refine L H (L H (t H (J H (L H (L H (L H (L H (L H (t H (J H (L H (L H (L H (L H (L H (t H (J H (L H (L H (L H (L H (L H (t H (Z H (O (aA (aM H ?_)))))))))))))))))))))))))))
     exact⟨_,H,(s.ai d),by
      first
      |exact aB B (cA.2 (by rw[cG.eq_iff];exact⟨λh=>⟨e,g,j,k,l,m,n,o,h⟩,λh=>h.2.2.2.2.2.2.2.2⟩))
      |exact aB B (bi λh=>by subst h;first|exact o rfl|exact n rfl|exact m rfl|exact l rfl|exact k rfl|exact j rfl|exact g rfl|exact e rfl).symm⟩
   ·refine L H (L H (L H (L H (L H (t H (J H (L H (L H (L H ?_)))))))))
    refine L H (L H (t H (J H (L H (L H (L H (L H (L H (t H (J H (L H (L H (L H (L H (L H (t H (J H (L H (L H (L H (L H (L H (t H (J H (L H (L H (L H (L H (L H (t H (Z H (O (aA (aM H ?_))))))))))))))))))))))))))))))))))
    exact⟨_,H,(s.ai d),by
     first
     |exact aB B (cA.2 (by rw[cG.eq_iff];exact⟨λh=>⟨e,g,j,k,l,m,n,o,h⟩,λh=>h.2.2.2.2.2.2.2.2⟩))
     |exact aB B (bi λh=>by subst h;first|exact o rfl|exact n rfl|exact m rfl|exact l rfl|exact k rfl|exact j rfl|exact g rfl|exact e rfl).symm⟩
  ·refine L H (L H (L H (L H (L H (t H (J H (L H (L H (L H ?_)))))))))
   refine L H (L H (t H (J H (L H (L H (L H (L H (L H (t H (J H (L H (L H (L H (L H (L H (t H (J H (L H (L H (L H (L H (L H (t H (J H (L H (L H (L H (L H (L H (t H (J H (L H (L H (L H (L H (L H (t H (Z H (f (al (aA (aM H ?_))))))))))))))))))))))))))))))))))))))))))
   exact⟨_,H,(s.ai d),by
    first
    |exact aB B (cA.2 (by rw[cG.eq_iff];exact⟨λh=>⟨e,g,j,k,l,m,n,o,h⟩,λh=>h.2.2.2.2.2.2.2.2⟩))
    |exact aB B (bi λh=>by subst h;first|exact o rfl|exact n rfl|exact m rfl|exact l rfl|exact k rfl|exact j rfl|exact g rfl|exact e rfl).symm⟩
 ·refine L H (L H (L H (L H (L H (t H (J H (L H (L H (L H ?_)))))))))
  refine L H (L H (t H (J H (L H (L H (L H (L H (L H (t H (J H (L H (L H (L H (L H (L H (t H (J H (L H (L H (L H (L H (L H (t H (J H (L H (L H (L H (L H (L H (t H (J H (L H (L H (L H (L H (L H (t H (J H (L H (L H (L H (L H (L H (t H (Z H (O (aA (aM H ?_))))))))))))))))))))))))))))))))))))))))))))))))
  exact⟨_,H,(s.ai d),by
   first
   |exact aB B (cA.2 (by rw[cG.eq_iff];exact⟨λh=>⟨e,g,j,k,l,m,n,o,h⟩,λh=>h.2.2.2.2.2.2.2.2⟩))
   |exact aB B (bi λh=>by subst h;first|exact o rfl|exact n rfl|exact m rfl|exact l rfl|exact k rfl|exact j rfl|exact g rfl|exact e rfl).symm⟩
theorem FI:aY Tryz.prog 260:=⟨_,Tryz.func260,am,rfl⟩
theorem FH:aY Tryz.prog 180:=⟨_,Tryz.func180,am,rfl⟩
theorem Kt:aY Tryz.prog 183:=⟨_,Tryz.func183,am,rfl⟩
theorem KK:aY Tryz.prog 176:=⟨_,Tryz.func176,am,rfl⟩
theorem Ae:aY Tryz.prog 177:=⟨_,Tryz.func177,am,rfl⟩
theorem KL:aY Tryz.prog 179:=⟨_,Tryz.func179,am,rfl⟩
theorem KI:aY Tryz.prog 181:=⟨_,Tryz.func181,am,rfl⟩
theorem Uw:aY Tryz.prog 182:=⟨_,Tryz.func182,am,rfl⟩
theorem Ut:aY Tryz.prog 184:=⟨_,Tryz.func184,am,rfl⟩
theorem Uo:aY Tryz.prog 185:=⟨_,Tryz.func185,am,rfl⟩
theorem Ur:aY Tryz.prog 95:=⟨_,Tryz.func95,am,rfl⟩
theorem z8:aY Tryz.prog 34:=⟨_,Tryz.func34,am,rfl⟩
theorem Ee {n:Int}:
 Calls Tryz.prog 260 #[I n] w (aJ λr w'=>w=w'∧r=B (decide (1≤n∧n≤64))):=by
 refine enter Tryz.func260 H H H (T (Z H (bB (J H (U H (eU) (J H (cK (λa=>?_) (λa=>?_))))))))
 ·refine V H (J H (V H (U H (uT) (bA H (Z H (O (aA (aM H ?_))))))))
  exact⟨_,H,H,by
   first
   |exact aB B (cA.2 ⟨λh=>⟨G,h⟩,λh=>h.2⟩)
   |exact aB B (bi G).symm⟩
 ·refine L H (L H (t H (Z H (O (aA (aM H ?_))))))
  exact⟨_,H,H,by
   first
   |exact aB B (cA.2 ⟨λh=>⟨G,h⟩,λh=>h.2⟩)
   |exact aB B (bi G).symm⟩
theorem Ec {a:cG} {x:Value}:
 Calls Tryz.prog 180 #[.agg #[I a.kd,I a.fr,I a.ou,I a.kh,I a.kw,I a.sr,I a.pd,x,y]] w (aJ λr w'=>ao w w'∧r=B (lU a)):=by
 refine enter (vs:=[.agg #[I a.kd,I a.fr,I a.ou,I a.kh,I a.kw,I a.sr,I a.pd,x,y]]) Tryz.func180 H H H (T (cE H H λg1 w1 f x1 e=>(Z H (bB (c H (gq) (Y H (D aE H (e.cell (i:=3) H)) (aC FI H H (Ee) ?_)))))))
 rintro v5 _ ⟨rfl,rfl⟩
 refine J H (cK (λd=>?_) (λd=>?_))
 ·refine V H (c H (gt) (V H (Y H (D aE H (e.cell (i:=4) H)) ?_)))
  refine V H (aC FI H H (Ee) ?_)
  rintro v9 _ ⟨rfl,rfl⟩
  refine bA H (J H (cK (λb=>?_) (λb=>?_)))
  ·refine V H (c H (js) (V H (Y H (D aE H (e.cell (i:=5) H)) ?_)))
   refine V H (aC FI H H (Ee) ?_)
   rintro g _ ⟨rfl,rfl⟩
   refine bA H (Z H (O (aA (aM H ?_))))
   exact⟨_,H,x1,by
    unfold lU
    first
    |exact aB B (cA.2 ⟨λh=>⟨d,b,h⟩,λh=>h.2.2⟩)
    |exact aB B (bi (λh=>b h.2.1)).symm
    |exact aB B (bi (λh=>d h.1)).symm⟩
  ·refine L H (L H (L H (t H (Z H (O (aA (aM H ?_)))))))
   exact⟨_,H,x1,by
    unfold lU
    first
    |exact aB B (cA.2 ⟨λh=>⟨d,b,h⟩,λh=>h.2.2⟩)
    |exact aB B (bi (λh=>b h.2.1)).symm
    |exact aB B (bi (λh=>d h.1)).symm⟩
 ·refine L H (L H (L H (t H (J H (L H (L H (L H (t H (Z H ?_)))))))))
  refine O (aA (aM H ?_))
  exact⟨_,H,x1,by
   unfold lU
   first
   |exact aB B (cA.2 ⟨λh=>⟨d,b,h⟩,λh=>h.2.2⟩)
   |exact aB B (bi (λh=>b h.2.1)).symm
   |exact aB B (bi (λh=>d h.1)).symm⟩
theorem Im {a:cG} {x:Value} {d:Int} (f:aD dK a.ws x w) (k:aD dK a.bs y w) (m:1≤d):
 Calls Tryz.prog 183 #[.agg #[I a.kd,I a.fr,I a.ou,I a.kh,I a.kw,I a.sr,I a.pd,x,y],I d] w (aJ λr w'=>ao w w'∧r=B (decide ((a.bs.length:Int)=a.ou∧mH a.ws.length d=true))):=by
 refine enter (vs:=[.agg #[I a.kd,I a.fr,I a.ou,I a.kh,I a.kw,I a.sr,I a.pd,x,y],I d]) Tryz.func183 H H H ?_
 have n:=f.len
 refine T (cE H H λl w2 o b e=>(Z H (bB (c H (lc) (Y H (D cn H (e.cell (i:=8) H)) (aW H (bP cn (k.aL b)) (c H (f9) (Y H (D aE H (e.cell (i:=2) H)) (U H (aV) (J H (cK (λg=>?_) (λg=>?_))))))))))))
 ·refine V H (c H (gJ) (V H (Y H (D cn H (e.cell (i:=7) H)) ?_)))
  refine V H (aW H (bP cn (f.aL b)) (V H (U H (cY) (bA H (J H (cK (λh=>?_) (λh=>?_)))))))
  ·refine V H (c H (gJ) (V H (Y H (D cn H (e.cell (i:=7) H)) ?_)))
   refine V H (aW H (bP cn (f.aL b)) (V H (U H (uT) (bA H (J H (cK (λj=>?_) (λj=>?_)))))))
   ·refine V H (c H (gJ) (V H (Y H (D cn H (e.cell (i:=7) H)) ?_)))
    refine V H (aW H (bP cn (f.aL b)) (V H (J H (V H (U H (xo G G) (V H (U H (aV) (bA H (Z H (O (aA (aM H ?_))))))))))))
    exact⟨_,H,b,by
     unfold mH
     first
     |exact aB B (cA.2 (by rw[qU];omega))
     |exact aB B (bi (by rw[qU];omega)).symm⟩
   ·refine L H (L H (L H (L H (L H (L H (t H (Z H (O (aA (aM H ?_))))))))))
    exact⟨_,H,b,by
     unfold mH
     first
     |exact aB B (cA.2 (by rw[qU];omega))
     |exact aB B (bi (by rw[qU];omega)).symm⟩
  ·refine L H (L H (L H (L H (t H (J H (L H (L H (L H (L H ?_)))))))))
   refine L H (L H (t H (Z H (O (aA (aM H ?_))))))
   exact⟨_,H,b,by
    unfold mH
    first
    |exact aB B (cA.2 (by rw[qU];omega))
    |exact aB B (bi (by rw[qU];omega)).symm⟩
 ·refine L H (L H (L H (L H (t H (J H (L H (L H (L H (L H ?_)))))))))
  refine t H (J H (L H (L H (L H (L H (L H (L H (t H (Z H (O (aA (aM H ?_))))))))))))
  exact⟨_,H,b,by
   unfold mH
   first
   |exact aB B (cA.2 (by rw[qU];omega))
   |exact aB B (bi (by rw[qU];omega)).symm⟩
theorem I7 {a:cG} {x:Value}:
 Calls Tryz.prog 176 #[.agg #[I a.kd,I a.fr,I a.ou,I a.kh,I a.kw,I a.sr,I a.pd,x,y]] w (aJ λr w'=>ao w w'∧r=B (decide (1≤a.ou∧a.ou≤16384))):=by
 refine enter (vs:=[.agg #[I a.kd,I a.fr,I a.ou,I a.kh,I a.kw,I a.sr,I a.pd,x,y]]) Tryz.func176 H H H (T (cE H H λg1 w1 e x1 b=>(Z H (bB (c H (f9) (Y H (D aE H (b.cell (i:=2) H)) (U H (eU) (J H (cK (λd=>?_) (λd=>?_))))))))))
 ·refine V H (c H (f9) (V H (Y H (D aE H (b.cell (i:=2) H)) ?_)))
  refine V H (U H (uT) (bA H (Z H (O (aA (aM H ?_))))))
  exact⟨_,H,x1,by
   first
   |exact aB B (cA.2 ⟨λh=>⟨G,h⟩,λh=>h.2⟩)
   |exact aB B (bi G).symm⟩
 ·refine L H (L H (L H (t H (Z H (O (aA (aM H ?_)))))))
  exact⟨_,H,x1,by
   first
   |exact aB B (cA.2 ⟨λh=>⟨G,h⟩,λh=>h.2⟩)
   |exact aB B (bi G).symm⟩
theorem zA {a u:cG} {x p q:Value} (h:aD dK a.ws x w) (j:aD dK a.bs y w) (k:aD dK u.ws p w) (l:aD dK u.bs q w):
 Calls Tryz.prog 177 #[.agg #[I a.kd,I a.fr,I a.ou,I a.kh,I a.kw,I a.sr,I a.pd,x,y],.agg #[I u.kd,I u.fr,I u.ou,I u.kh,I u.kw,I u.sr,I u.pd,p,q]] w (aJ λr w'=>ao w w'∧r=B (decide (a={u with kd:=a.kd}))):=by
 refine enter (vs:=[.agg #[I a.kd,I a.fr,I a.ou,I a.kh,I a.kw,I a.sr,I a.pd,x,y],.agg #[I u.kd,I u.fr,I u.ou,I u.kh,I u.kw,I u.sr,I u.pd,p,q]]) Tryz.func177 H H H (T (cE H H λz w2 C v e=>cE H H λA K o g n=>(Z H (bB (c H (et) (Y H (D aE H (g.a0 (e.cell (i:=0) H))) (c H (et) (jQ H H n ZV H H λJ s m=>?_))))))))
 have f:=ao.a2 (g) s o
 refine bB (Y H ((e.aL f).ld dG H eJ) (Y H (m.ld dG H eJ) ?_))
 have d:=v.ai f
 refine aC Uz H H ((Rw (b:={u with kd:=a.kd}) (h.aL d) (j.aL d) (k.aL d) (l.aL d))) ?_
 rintro F G ⟨t,rfl⟩
 refine Z H (O (aA (aM H ?_)))
 exact⟨_,H,(d.ai t),H⟩
abbrev CD:Value:=.func (.func 176) #[] #[]
abbrev wF:Value:=.func (.func 177) #[] #[]
theorem I8 {a:cG} {x:Value} {i:Int} {T:TypeId} (j:aD dK a.ws x w) (k:aD dK a.bs y w) (l:bm g T [wF] w):
 Calls Tryz.prog 179 #[.agg #[I a.kd,I a.fr,I a.ou,I a.kh,I a.kw,I a.sr,I a.pd,x,y],I i,.pointer (some ⟨g,0,none⟩)] w (aJ λr w'=>ao w w'∧r=B (decide (lU a=true∧a=⟨a.kd,0,0,a.kh,a.kw,a.sr,0,[],[]⟩))):=by
 refine enter (vs:=[.agg #[I a.kd,I a.fr,I a.ou,I a.kh,I a.kw,I a.sr,I a.pd,x,y],I i,.pointer (some ⟨g,0,none⟩)]) Tryz.func179 H H H (ar (cE H H λp f q e d=>(Z H (O (ah ?_)))))
 rcases hk:lU a
 ·refine ap (Y H (d.ld dG H eJ) (aC FH H H ((by have:=Ec (w:=f) (a:=a) (x:=x) (y:=y);rw[hk] at this;exact this)) ?_))
  rintro m n ⟨b,rfl⟩
  refine J H (L H (L H (L H (L H (L H (L H (L H (L H (L H (L H (t H (Z H (O (aA (aM H ?_)))))))))))))))
  exact⟨_,H,(e.ai b),by
   first
   |exact aB B (cA.2 ⟨λh=>⟨rfl,h⟩,λh=>h.2⟩)
   |exact aB B (bi (λh=>absurd h.1 aF)).symm⟩
 ·refine ap (Y H (d.ld dG H eJ) (aC FH H H ((by have:=Ec (w:=f) (a:=a) (x:=x) (y:=y);rw[hk] at this;exact this)) ?_))
  rintro m n ⟨b,rfl⟩
  refine J H (V H (Y H (D BW H ((e.ai b).a0 l.k0)) (V H (Y H ((d.aL b).ld dG H eJ) (V H (c H (gq) (V H (Y H (D aE H (b.a0 (d.cell (i:=3) H))) (V H (c H (gt) (V H (Y H (D aE H (b.a0 (d.cell (i:=4) H))) (V H (c H (js) (V H (Y H (D aE H (b.a0 (d.cell (i:=5) H))) (V H (dY (r:=.agg #[I 0,I 0,I 0,I a.kh,I a.kw,I a.sr,I 0,.slice none 0 0,.slice none 0 0]) H (by exact run_build _ _ _ _ am) (V H (im H Ae H H ((zA (u:=⟨0,0,0,a.kh,a.kw,a.sr,0,[],[]⟩) (j.aL (e.ai b)) (k.aL (e.ai b)) (aD.nil _ _) (aD.nil _ _))) ?_))))))))))))))))))))
  rintro s v ⟨o,rfl⟩
  refine bA H (Z H (O (aA (aM H ?_))))
  exact⟨_,H,((e.ai b).ai o),by
   first
   |exact aB B (cA.2 ⟨λh=>⟨rfl,h⟩,λh=>h.2⟩)
   |exact aB B (bi (λh=>absurd h.1 aF)).symm⟩
theorem I3 {a:cG} {x:Value} {i:Int} {T:TypeId} (c:aD dK a.ws x w) (d:aD dK a.bs y w) (e:bm g T [wF] w):
 Calls Tryz.prog 181 #[.agg #[I a.kd,I a.fr,I a.ou,I a.kh,I a.kw,I a.sr,I a.pd,x,y],I i,.pointer (some ⟨g,0,none⟩)] w (aJ λr w'=>ao w w'∧r=B (decide (a=⟨a.kd,0,0,0,0,0,0,[],[]⟩))):=by
 refine enter (vs:=[.agg #[I a.kd,I a.fr,I a.ou,I a.kh,I a.kw,I a.sr,I a.pd,x,y],I i,.pointer (some ⟨g,0,none⟩)]) Tryz.func181 H H H (ar (cE H H λj l k b f=>(Z H (bB (Y H (D BW H (b.a0 e.k0)) (Y H (f.ld dG H eJ) (dY (r:=.agg #[I 0,I 0,I 0,I 0,I 0,I 0,I 0,.slice none 0 0,.slice none 0 0]) H (by exact run_build _ _ _ _ am) (im H Ae H H ((zA (u:=⟨0,0,0,0,0,0,0,[],[]⟩) (c.aL b) (d.aL b) (aD.nil _ _) (aD.nil _ _))) ?_))))))))
 rintro v9 m ⟨h,rfl⟩
 refine Z H (O (aA (aM H ?_)))
 exact⟨_,H,(b.ai h),H⟩
theorem Rs {a:cG} {x:Value} {i:Int} {T1 T:TypeId} (l:aD dK a.ws x w) (m:aD dK a.bs y w) (o:bm g1 T1 [CD] w) (n:bm g T [wF] w):
 Calls Tryz.prog 182 #[.agg #[I a.kd,I a.fr,I a.ou,I a.kh,I a.kw,I a.sr,I a.pd,x,y],I i,.pointer (some ⟨g1,0,none⟩),.pointer (some ⟨g,0,none⟩)] w (aJ λr w'=>ao w w'∧r=B (decide ((1≤a.ou∧a.ou≤16384)∧((a.bs.length:Int)=a.ou∧mH a.ws.length a.ou=true)∧a=⟨a.kd,0,a.ou,0,0,0,0,a.ws,a.bs⟩))):=by
 refine enter (vs:=[.agg #[I a.kd,I a.fr,I a.ou,I a.kh,I a.kw,I a.sr,I a.pd,x,y],I i,.pointer (some ⟨g1,0,none⟩),.pointer (some ⟨g,0,none⟩)]) Tryz.func182 H H H (ar (cE H H λq w4 s e k=>(Z H (bB (Y H (D Tryz.underlying248 H (e.a0 o.k0)) (Y H (k.ld dG H eJ) (im H KK H H ((I7)) ?_)))))))
 rintro v9 F ⟨b,rfl⟩
 refine J H (cK (λf=>?_) (λf=>?_))
 ·refine V H (Y H ((k.aL b).ld dG H eJ) (V H (c H (f9) ?_)))
  refine V H (Y H (D aE H (b.a0 (k.cell (i:=2) H))) (V H (aC Kt H H ((Im (l.aL (e.ai b)) (m.aL (e.ai b)) f.1)) ?_)))
  rintro v A ⟨d,rfl⟩
  refine bA H (J H (cK (λj=>?_) (λj=>?_)))
  ·refine V H (Y H (D BW H (((e.ai b).ai d).a0 n.k0)) (V H (Y H ((k.aL (b.ai d)).ld dG H eJ) ?_)))
   refine V H (c H (f9) (V H (Y H (D aE H ((b.ai d).a0 (k.cell (i:=2) H))) (V H (c H (gJ) (V H (Y H (D cn H ((b.ai d).a0 (k.cell (i:=7) H))) (V H (c H (lc) (V H (Y H (D cn H ((b.ai d).a0 (k.cell (i:=8) H))) (V H (dY (r:=.agg #[I 0,I 0,I a.ou,I 0,I 0,I 0,I 0,x,y]) H (by obtain⟨_,_,_,rfl⟩:=l.a9;obtain⟨_,_,_,rfl⟩:=m.a9;exact run_build _ _ _ _ am) (V H (im H Ae H H ((zA (u:=⟨0,0,a.ou,0,0,0,0,a.ws,a.bs⟩) (l.aL ((e.ai b).ai d)) (m.aL ((e.ai b).ai d)) (l.aL ((e.ai b).ai d)) (m.aL ((e.ai b).ai d)))) ?_)))))))))))))))
   rintro z C ⟨p,rfl⟩
   refine bA H (Z H (O (aA (aM H ?_))))
   exact⟨_,H,(((e.ai b).ai d).ai p),by
    first
    |exact aB B (cA.2 ⟨λh=>⟨f,j,h⟩,λh=>h.2.2⟩)
    |exact aB B (bi (λh=>j h.2.1)).symm
    |exact aB B (bi (λh=>f h.1)).symm⟩
  ·refine L H (L H (L H (L H (L H (L H (L H (L H (L H (L H ?_)))))))))
   refine t H (Z H (O (aA (aM H ?_))))
   exact⟨_,H,((e.ai b).ai d),by
    first
    |exact aB B (cA.2 ⟨λh=>⟨f,j,h⟩,λh=>h.2.2⟩)
    |exact aB B (bi (λh=>j h.2.1)).symm
    |exact aB B (bi (λh=>f h.1)).symm⟩
 ·refine L H (L H (L H (L H (t H (J H (L H (L H (L H (L H ?_)))))))))
  refine L H (L H (L H (L H (L H (L H (t H (Z H (O (aA (aM H ?_))))))))))
  exact⟨_,H,(e.ai b),by
   first
   |exact aB B (cA.2 ⟨λh=>⟨f,j,h⟩,λh=>h.2.2⟩)
   |exact aB B (bi (λh=>j h.2.1)).symm
   |exact aB B (bi (λh=>f h.1)).symm⟩
theorem Rn {a:cG} {x:Value} {i:Int} {T1 T:TypeId} (v:aD dK a.ws x w) (z:aD dK a.bs y w) (C:bm g1 T1 [CD] w) (A:bm g T [wF] w):
 Calls Tryz.prog 184 #[.agg #[I a.kd,I a.fr,I a.ou,I a.kh,I a.kw,I a.sr,I a.pd,x,y],I i,.pointer (some ⟨g1,0,none⟩),.pointer (some ⟨g,0,none⟩)] w (aJ λr w'=>ao w w'∧r=B (decide ((1≤a.ou∧a.ou≤16384)∧lU a=true∧a.pd≥0∧a.pd<a.kh∧a.pd<a.kw∧((a.bs.length:Int)=a.ou∧mH a.ws.length (a.ou*a.kh*a.kw)=true)∧a=⟨a.kd,0,a.ou,a.kh,a.kw,a.sr,a.pd,a.ws,a.bs⟩))):=by
 refine enter (vs:=[.agg #[I a.kd,I a.fr,I a.ou,I a.kh,I a.kw,I a.sr,I a.pd,x,y],I i,.pointer (some ⟨g1,0,none⟩),.pointer (some ⟨g,0,none⟩)]) Tryz.func184 H H H (ar (cE H H λK w4 M p j=>(Z H (bB (Y H (D Tryz.underlying248 H (p.a0 C.k0)) (Y H (j.ld dG H eJ) (im H KK H H ((I7)) ?_)))))))
 rintro v9 X ⟨b,rfl⟩
 refine J H (cK (λk=>?_) (λk=>?_))
 ·refine V H (Y H ((j.aL b).ld dG H eJ) (V H (aC FH H H (Ec) ?_)))
  rintro N R ⟨d,rfl⟩
  refine bA H (J H (cK (λe=>?_) (λe=>?_)))
  ·refine V H (c H (ik) (V H (Y H (D aE H ((b.ai d).a0 (j.cell (i:=6) H))) ?_)))
   refine V H (U H (eU) (bA H (J H (cK (λl=>?_) (λl=>?_)))))
   ·refine V H (c H (ik) (V H (Y H (D aE H ((b.ai d).a0 (j.cell (i:=6) H))) ?_)))
    refine V H (c H (gq) (V H (Y H (D aE H ((b.ai d).a0 (j.cell (i:=3) H))) (V H (U H (bO) (bA H (J H (cK (λm=>?_) (λm=>?_)))))))))
    ·refine V H (c H (ik) (V H (Y H (D aE H ((b.ai d).a0 (j.cell (i:=6) H))) ?_)))
     refine V H (c H (gt) (V H (Y H (D aE H ((b.ai d).a0 (j.cell (i:=4) H))) (V H (U H (bO) (bA H (J H (cK (λn=>?_) (λn=>?_)))))))))
     ·refine V H (Y H ((j.aL (b.ai d)).ld dG H eJ) (V H (c H (f9) ?_)))
      refine V H (Y H (D aE H ((b.ai d).a0 (j.cell (i:=2) H))) (V H (c H (gq) (V H (Y H (D aE H ((b.ai d).a0 (j.cell (i:=3) H))) (V H ?_))))))
      have m1:=sN k.1 k.2 e.1.1 e.1.2
      refine U H (dh G G) (V H (c H (gt) (V H (Y H (D aE H ((b.ai d).a0 (j.cell (i:=4) H))) (V H ?_)))))
      have m2:=sN m1.1 m1.2 e.2.1.1 e.2.1.2
      refine U H (dh G G) (V H (aC Kt H H ((Im (v.aL ((p.ai b).ai d)) (z.aL ((p.ai b).ai d)) m2.1)) ?_))
      rintro P S ⟨s,rfl⟩
      refine bA H (J H (cK (λo=>?_) (λo=>?_)))
      ·refine V H (Y H (D BW H ((((p.ai b).ai d).ai s).a0 A.k0)) (V H ?_))
       have q:=(b.ai d).ai s
       refine Y H ((j.aL q).ld dG H eJ) (V H (c H (f9) (V H (Y H (D aE H (q.a0 (j.cell (i:=2) H))) (V H (c H (gq) (V H (Y H (D aE H (q.a0 (j.cell (i:=3) H))) (V H (c H (gt) (V H (Y H (D aE H (q.a0 (j.cell (i:=4) H))) (V H (c H (js) (V H (Y H (D aE H (q.a0 (j.cell (i:=5) H))) (V H (c H (ik) (V H (Y H (D aE H (q.a0 (j.cell (i:=6) H))) (V H (c H (gJ) (V H (Y H (D cn H (q.a0 (j.cell (i:=7) H))) (V H (c H (lc) ?_))))))))))))))))))))))))))
       refine V H (Y H (D cn H (q.a0 (j.cell (i:=8) H))) (V H (dY (r:=.agg #[I 0,I 0,I a.ou,I a.kh,I a.kw,I a.sr,I a.pd,x,y]) H (by obtain⟨_,_,_,rfl⟩:=v.a9;obtain⟨_,_,_,rfl⟩:=z.a9;exact run_build _ _ _ _ am) (V H (im H Ae H H ((zA (u:=⟨0,0,a.ou,a.kh,a.kw,a.sr,a.pd,a.ws,a.bs⟩) (v.aL (((p.ai b).ai d).ai s)) (z.aL (((p.ai b).ai d).ai s)) (v.aL (((p.ai b).ai d).ai s)) (z.aL (((p.ai b).ai d).ai s)))) ?_)))))
       rintro Q W ⟨F,rfl⟩
       refine bA H (Z H (O (aA (aM H ?_))))
       exact⟨_,H,((((p.ai b).ai d).ai s).ai F),by
        first
        |exact aB B (cA.2 ⟨λh=>⟨k,dH e,l,m,n,o,h⟩,λh=>h.2.2.2.2.2.2⟩)
        |exact aB B (bi (λh=>o h.2.2.2.2.2.1)).symm
        |exact aB B (bi (λh=>n h.2.2.2.2.1)).symm
        |exact aB B (bi (λh=>m h.2.2.2.1)).symm
        |exact aB B (bi (λh=>l h.2.2.1)).symm
        |exact aB B (bi (λh=>e (ip h.2.1))).symm
        |exact aB B (bi (λh=>k h.1)).symm⟩
      ·refine L H (L H (L H (L H (L H (L H (L H (L H (L H (L H ?_)))))))))
       refine L H (L H (L H (L H (L H (L H (L H (L H (t H (Z H (O (aA (aM H ?_))))))))))))
       exact⟨_,H,(((p.ai b).ai d).ai s),by
        first
        |exact aB B (cA.2 ⟨λh=>⟨k,dH e,l,m,n,o,h⟩,λh=>h.2.2.2.2.2.2⟩)
        |exact aB B (bi (λh=>o h.2.2.2.2.2.1)).symm
        |exact aB B (bi (λh=>n h.2.2.2.2.1)).symm
        |exact aB B (bi (λh=>m h.2.2.2.1)).symm
        |exact aB B (bi (λh=>l h.2.2.1)).symm
        |exact aB B (bi (λh=>e (ip h.2.1))).symm
        |exact aB B (bi (λh=>k h.1)).symm⟩
     ·refine L H (L H (L H (L H (L H (L H (L H (L H (L H (L H ?_)))))))))
      refine t H (J H (L H (L H (L H (L H (L H (L H (L H (L H (L H (L H (L H (L H (L H (L H (L H (L H (L H (L H (t H (Z H (O (aA (aM H ?_))))))))))))))))))))))))
      exact⟨_,H,((p.ai b).ai d),by
       first
       |exact aB B (cA.2 ⟨λh=>⟨k,dH e,l,m,n,o,h⟩,λh=>h.2.2.2.2.2.2⟩)
       |exact aB B (bi (λh=>o h.2.2.2.2.2.1)).symm
       |exact aB B (bi (λh=>n h.2.2.2.2.1)).symm
       |exact aB B (bi (λh=>m h.2.2.2.1)).symm
       |exact aB B (bi (λh=>l h.2.2.1)).symm
       |exact aB B (bi (λh=>e (ip h.2.1))).symm
       |exact aB B (bi (λh=>k h.1)).symm⟩
    ·refine L H (L H (L H (L H (L H (t H (J H (L H (L H (L H ?_)))))))))
     refine L H (L H (L H (L H (L H (L H (L H (t H (J H (L H (L H (L H (L H (L H (L H (L H (L H (L H (L H (L H (L H (L H (L H (L H (L H (L H (L H (t H (Z H (f (al (aA (aM H ?_))))))))))))))))))))))))))))))))
     exact⟨_,H,((p.ai b).ai d),by
      first
      |exact aB B (cA.2 ⟨λh=>⟨k,dH e,l,m,n,o,h⟩,λh=>h.2.2.2.2.2.2⟩)
      |exact aB B (bi (λh=>o h.2.2.2.2.2.1)).symm
      |exact aB B (bi (λh=>n h.2.2.2.2.1)).symm
      |exact aB B (bi (λh=>m h.2.2.2.1)).symm
      |exact aB B (bi (λh=>l h.2.2.1)).symm
      |exact aB B (bi (λh=>e (ip h.2.1))).symm
      |exact aB B (bi (λh=>k h.1)).symm⟩
   ·refine L H (L H (L H (L H (L H (t H (J H (L H (L H (L H ?_)))))))))
    refine L H (L H (t H (J H (L H (L H (L H (L H (L H (L H (L H (L H (L H (L H (t H (J H (L H (L H (L H (L H (L H (L H (L H (L H (L H (L H (L H (L H (L H (L H (L H (L H (L H (L H (t H (Z H (O (aA (aM H ?_))))))))))))))))))))))))))))))))))))))
    exact⟨_,H,((p.ai b).ai d),by
     first
     |exact aB B (cA.2 ⟨λh=>⟨k,dH e,l,m,n,o,h⟩,λh=>h.2.2.2.2.2.2⟩)
     |exact aB B (bi (λh=>o h.2.2.2.2.2.1)).symm
     |exact aB B (bi (λh=>n h.2.2.2.2.1)).symm
     |exact aB B (bi (λh=>m h.2.2.2.1)).symm
     |exact aB B (bi (λh=>l h.2.2.1)).symm
     |exact aB B (bi (λh=>e (ip h.2.1))).symm
     |exact aB B (bi (λh=>k h.1)).symm⟩
  ·refine L H (L H (L H (t H (J H (L H (L H (L H (L H (L H ?_)))))))))
   refine t H (J H (L H (L H (L H (L H (L H (t H (J H (L H (L H (L H (L H (L H (L H (L H (L H (L H (L H (t H (J H (L H (L H (L H (L H (L H (L H (L H (L H (L H (L H (L H (L H (L H (L H (L H (L H (L H (L H (t H (Z H (O (aA (aM H ?_)))))))))))))))))))))))))))))))))))))))))))
   exact⟨_,H,((p.ai b).ai d),by
    first
    |exact aB B (cA.2 ⟨λh=>⟨k,dH e,l,m,n,o,h⟩,λh=>h.2.2.2.2.2.2⟩)
    |exact aB B (bi (λh=>o h.2.2.2.2.2.1)).symm
    |exact aB B (bi (λh=>n h.2.2.2.2.1)).symm
    |exact aB B (bi (λh=>m h.2.2.2.1)).symm
    |exact aB B (bi (λh=>l h.2.2.1)).symm
    |exact aB B (bi (λh=>e (ip h.2.1))).symm
    |exact aB B (bi (λh=>k h.1)).symm⟩
 ·refine L H (L H (t H (J H (L H (L H (L H (t H (J H (L H ?_)))))))))
  refine L H (L H (L H (L H (t H (J H (L H (L H (L H (L H (L H (t H (J H (L H (L H (L H (L H (L H (L H (L H (L H (L H (L H (t H (J H (L H (L H (L H (L H (L H (L H (L H (L H (L H (L H (L H (L H (L H (L H (L H (L H (L H (L H (t H (Z H (O (aA (aM H ?_)))))))))))))))))))))))))))))))))))))))))))))))
  exact⟨_,H,(p.ai b),by
   first
   |exact aB B (cA.2 ⟨λh=>⟨k,dH e,l,m,n,o,h⟩,λh=>h.2.2.2.2.2.2⟩)
   |exact aB B (bi (λh=>o h.2.2.2.2.2.1)).symm
   |exact aB B (bi (λh=>n h.2.2.2.2.1)).symm
   |exact aB B (bi (λh=>m h.2.2.2.1)).symm
   |exact aB B (bi (λh=>l h.2.2.1)).symm
   |exact aB B (bi (λh=>e (ip h.2.1))).symm
   |exact aB B (bi (λh=>k h.1)).symm⟩
theorem Rh {a:cG} {x:Value} {i:Int} {T:TypeId} (j:aD dK a.ws x w) (k:aD dK a.bs y w) (l:bm g T [wF] w):
 Calls Tryz.prog 185 #[.agg #[I a.kd,I a.fr,I a.ou,I a.kh,I a.kw,I a.sr,I a.pd,x,y],I i,.pointer (some ⟨g,0,none⟩)] w (aJ λr w'=>ao w w'∧r=B (decide (a.fr≥ -1∧a.fr<i∧a=⟨a.kd,a.fr,0,0,0,0,0,[],[]⟩))):=by
 refine enter (vs:=[.agg #[I a.kd,I a.fr,I a.ou,I a.kh,I a.kw,I a.sr,I a.pd,x,y],I i,.pointer (some ⟨g,0,none⟩)]) Tryz.func185 H H H (ar (cE H H λn s o e f=>(Z H (bB (c H (jr) (Y H (D aE H (f.cell (i:=1) H)) (U H (eU) (J H (cK (λd=>?_) (λd=>?_))))))))))
 ·refine V H (c H (jr) (V H (Y H (D aE H (f.cell (i:=1) H)) ?_)))
  refine V H (J H (V H (U H (bO) (bA H (J H (cK (λb=>?_) (λb=>?_)))))))
  ·refine V H (Y H (D BW H (e.a0 l.k0)) (V H (Y H (f.ld dG H eJ) ?_)))
   refine V H (c H (jr) (V H (Y H (D aE H (f.cell (i:=1) H)) (V H (dY (r:=.agg #[I 0,I a.fr,I 0,I 0,I 0,I 0,I 0,.slice none 0 0,.slice none 0 0]) H (by exact run_build _ _ _ _ am) (V H (im H Ae H H ((zA (u:=⟨0,a.fr,0,0,0,0,0,[],[]⟩) (j.aL e) (k.aL e) (aD.nil _ _) (aD.nil _ _))) ?_)))))))
   rintro p q ⟨m,rfl⟩
   refine bA H (Z H (O (aA (aM H ?_))))
   exact⟨_,H,(e.ai m),by
    first
    |exact aB B (cA.2 ⟨λh=>⟨d,b,h⟩,λh=>h.2.2⟩)
    |exact aB B (bi (λh=>b h.2.1)).symm
    |exact aB B (bi (λh=>d h.1)).symm⟩
  ·refine L H (L H (L H (L H (L H (L H (t H (Z H (O (aA (aM H ?_))))))))))
   exact⟨_,H,e,by
    first
    |exact aB B (cA.2 ⟨λh=>⟨d,b,h⟩,λh=>h.2.2⟩)
    |exact aB B (bi (λh=>b h.2.1)).symm
    |exact aB B (bi (λh=>d h.1)).symm⟩
 ·refine L H (L H (L H (L H (t H (J H (L H (L H (L H (L H ?_)))))))))
  refine L H (L H (t H (Z H (O (aA (aM H ?_))))))
  exact⟨_,H,e,by
   first
   |exact aB B (cA.2 ⟨λh=>⟨d,b,h⟩,λh=>h.2.2⟩)
   |exact aB B (bi (λh=>b h.2.1)).symm
   |exact aB B (bi (λh=>d h.1)).symm⟩
section
variable {a:cG} {i:Int}
theorem G5:ri a=true↔a.ws=[]∧a.bs=[]:=by
 unfold ri
 rw[qU]
 constructor
 ·rintro⟨b,c⟩
  exact⟨gT G,gT G⟩
 ·rintro⟨b,c⟩
  rw[b,c];exact⟨rfl,rfl⟩
theorem Gt:oY a=true↔a.kh=0∧a.kw=0∧a.sr=0∧a.pd=0:=by unfold oY;rw[qU]
theorem Lm (h:a.kd=3∨a.kd=4):(lU a=true∧a=⟨a.kd,0,0,a.kh,a.kw,a.sr,0,[],[]⟩)↔iE a i:=by
 rw[wP h,G5]
 constructor
 ·rintro⟨g,j⟩
  obtain⟨_,b,c,_,_,_,d,e,f⟩:=cG.eq_iff.1 j
  exact⟨g,b,d,c,e,f⟩
 ·rintro⟨g,b,d,c,e,f⟩
  exact⟨g,cG.eq_iff.2 ⟨H,b,c,H,H,H,d,e,f⟩⟩
theorem Ll (h:a.kd=5∨a.kd=6):a=⟨a.kd,0,0,0,0,0,0,[],[]⟩↔iE a i:=by
 rw[yE h,G5,Gt]
 constructor
 ·intro l
  obtain⟨_,b,c,d,e,f,g,j,k⟩:=cG.eq_iff.1 l
  exact⟨⟨d,e,f,g⟩,b,c,j,k⟩
 ·rintro⟨⟨d,e,f,g⟩,b,c,j,k⟩
  exact cG.eq_iff.2 ⟨H,b,c,d,e,f,g,j,k⟩
theorem VI (h:a.kd=1):((1≤a.ou∧a.ou≤16384)∧((a.bs.length:Int)=a.ou∧mH a.ws.length a.ou=true)∧a=⟨a.kd,0,a.ou,0,0,0,0,a.ws,a.bs⟩)↔iE a i:=by
 rw[wO h,Gt]
 constructor
 ·rintro⟨j,⟨g,hm⟩,k⟩
  obtain⟨_,b,_,c,d,e,f,_,_⟩:=cG.eq_iff.1 k
  exact⟨⟨c,d,e,f⟩,b,j,g,hm⟩
 ·rintro⟨⟨c,d,e,f⟩,b,j,g,hm⟩
  exact⟨j,⟨g,hm⟩,cG.eq_iff.2 ⟨H,b,H,c,d,e,f,H,H⟩⟩
theorem VH (h:a.kd=2):((1≤a.ou∧a.ou≤16384)∧lU a=true∧a.pd≥0∧a.pd<a.kh∧a.pd<a.kw∧((a.bs.length:Int)=a.ou∧mH a.ws.length (a.ou*a.kh*a.kw)=true)∧a=⟨a.kd,0,a.ou,a.kh,a.kw,a.sr,a.pd,a.ws,a.bs⟩)↔iE a i:=by
 rw[sJ h]
 constructor
 ·rintro⟨g,f,b,c,d,⟨e,hm⟩,j⟩
  exact⟨f,(cG.eq_iff.1 j).2.1,b,c,d,g,e,hm⟩
 ·rintro⟨f,k,b,c,d,g,e,hm⟩
  exact⟨g,f,b,c,d,⟨e,hm⟩,cG.eq_iff.2 ⟨H,k,H,H,H,H,H,H,H⟩⟩
theorem VF (h:a.kd=7):(a.fr≥ -1∧a.fr<i∧a=⟨a.kd,a.fr,0,0,0,0,0,[],[]⟩)↔iE a i:=by
 rw[yF h,G5,Gt]
 constructor
 ·rintro⟨k,l,m⟩
  obtain⟨_,_,b,c,d,e,f,g,j⟩:=cG.eq_iff.1 m
  exact⟨⟨c,d,e,f⟩,⟨G,G⟩,b,g,j⟩
 ·rintro⟨⟨c,d,e,f⟩,⟨k,l⟩,b,g,j⟩
  exact⟨G,G,cG.eq_iff.2 ⟨H,H,b,c,d,e,f,g,j⟩⟩
end
def QA (g1 g2:Nat) (T1 T2:TypeId) (fv:Value) (kd:Int):Prop:=∃f fs lb,fv=.func (.func f) fs lb∧aY Tryz.prog f∧∀(w:World) (a:cG) (x y:Value) (i:Int),a.kd=kd→aD dK a.ws x w→aD dK a.bs y w→bm g1 T1 [CD] w→bm g2 T2 [wF] w→
 Calls Tryz.prog f (fs++ #[.agg #[I a.kd,I a.fr,I a.ou,I a.kh,I a.kw,I a.sr,I a.pd,x,y],I i]++lb) w (aJ λr w'=>ao w w'∧r=B (decide (iE a i)))
def Cq (g1 g2:Nat):List Value:=[.func (.func 182) #[] #[.pointer (some ⟨g1,0,none⟩),.pointer (some ⟨g2,0,none⟩)],.func (.func 184) #[] #[.pointer (some ⟨g1,0,none⟩),.pointer (some ⟨g2,0,none⟩)],
 .func (.func 179) #[] #[.pointer (some ⟨g2,0,none⟩)],.func (.func 179) #[] #[.pointer (some ⟨g2,0,none⟩)],.func (.func 181) #[] #[.pointer (some ⟨g2,0,none⟩)],.func (.func 181) #[] #[.pointer (some ⟨g2,0,none⟩)],.func (.func 185) #[] #[.pointer (some ⟨g2,0,none⟩)]]
theorem VG {g:Nat} {T1 T2:TypeId} (h:(Cq g1 g)[j]? =some fv):QA g1 g T1 T2 fv ((j+1:Nat):Int):=by
 match j,h with
 |0,h=>
  obtain rfl:=cC h
  exact⟨_,_,_,H,Uw,λw a x y i f c d e b=>aJ.mono (Rs (i:=i) c d e b) λr w' h=>⟨h.1,by rw[h.2];exact aB B (cA.2 (VI G))⟩⟩
 |1,h=>
  obtain rfl:=cC h
  exact⟨_,_,_,H,Ut,λw a x y i f c d e b=>aJ.mono (Rn (i:=i) c d e b) λr w' h=>⟨h.1,by rw[h.2];exact aB B (cA.2 (VH G))⟩⟩
 |2,h=>
  obtain rfl:=cC h
  exact⟨_,_,_,H,KL,λw a x y i f c d e b=>aJ.mono (I8 (i:=i) c d b) λr w' h=>⟨h.1,by rw[h.2];exact aB B (cA.2 (Lm G))⟩⟩
 |3,h=>
  obtain rfl:=cC h
  exact⟨_,_,_,H,KL,λw a x y i f c d e b=>aJ.mono (I8 (i:=i) c d b) λr w' h=>⟨h.1,by rw[h.2];exact aB B (cA.2 (Lm G))⟩⟩
 |4,h=>
  obtain rfl:=cC h
  exact⟨_,_,_,H,KI,λw a x y i f c d e b=>aJ.mono (I3 (i:=i) c d b) λr w' h=>⟨h.1,by rw[h.2];exact aB B (cA.2 (Ll G))⟩⟩
 |5,h=>
  obtain rfl:=cC h
  exact⟨_,_,_,H,KI,λw a x y i f c d e b=>aJ.mono (I3 (i:=i) c d b) λr w' h=>⟨h.1,by rw[h.2];exact aB B (cA.2 (Ll G))⟩⟩
 |6,h=>
  obtain rfl:=cC h
  exact⟨_,_,_,H,Uo,λw a x y i f c d e b=>aJ.mono (Rh (i:=i) c d b) λr w' h=>⟨h.1,by rw[h.2];exact aB B (cA.2 (VF G))⟩⟩
 |j+7,h=>simp[Cq] at h
theorem Rk:
 Calls Tryz.prog 95 #[] w (aJ λr w'=>ao w w'∧∃m g1 b T1 T2,r=.map (some m)∧w'.heap[m]? =some (.map (og 0 (Cq g1 b)).toArray 7)∧bm g1 T1 [CD] w'∧bm b T2 [wF] w'):=by
 refine enter Tryz.func95 H H H (T (Z H (bB ?_)))
 obtain⟨g1,w1,h,p,x1,j⟩:=iW (P:=Tryz.prog) (w:=w) (t:=248) (z:=.nilFunc) (l:=[.nilFunc]) am rfl
 refine fY H h (jQ H H j ZU H H λaa F k=>?_)
 have ab:=ao.a2 x1 F p
 refine bB ?_
 obtain⟨b,w2,i,q,x2,n⟩:=iW (P:=Tryz.prog) (w:=aa) (t:=107) (z:=.nilFunc) (l:=[.nilFunc]) am rfl
 refine fY H i (jQ H H n ZT H H λd G o=>?_)
 have g:=ao.a2 x2 G q
 refine bB (lq (us:=[]) (vs:=[.pointer (some ⟨b,0,none⟩)]) H H H (Z H (bB (lq (us:=[]) (vs:=[.pointer (some ⟨b,0,none⟩)]) H H H (Z H (bB (NB H ?_)))))))
 obtain⟨m,hm⟩:∃m,m=d.heap.size:=⟨_,rfl⟩
 obtain⟨e,f⟩:∃e,e=d.alloc (.map #[] 0):=⟨_,rfl⟩
 rw[←f,←hm]
 have a:ao d e:=by rw[f];exact ao.new _ _
 have D:e.heap[m]? =some (.map (og 0 []).toArray ([]:List Value).length):=by rw[f,hm];exact heap_alloc_new d _
 have c:d.heap.size≤m:=xP hm.symm
 refine lq (us:=[]) (vs:=[.pointer (some ⟨g1,0,none⟩),.pointer (some ⟨b,0,none⟩)]) H H H ?_
 obtain⟨w4,U,K,s⟩:=xj vJ aj D 1 rfl (.func (.func 182) #[] #[.pointer (some ⟨g1,0,none⟩),.pointer (some ⟨b,0,none⟩)])
 refine wX H H H U ?_
 have a:=ao.a2 a K c
 refine lq (us:=[]) (vs:=[.pointer (some ⟨g1,0,none⟩),.pointer (some ⟨b,0,none⟩)]) H H H ?_
 obtain⟨w5,V,L,u⟩:=xj vJ aj s 2 rfl (.func (.func 184) #[] #[.pointer (some ⟨g1,0,none⟩),.pointer (some ⟨b,0,none⟩)])
 refine wX H H H V ?_
 have a:=ao.a2 a L c
 refine J H ?_
 obtain⟨w6,W,M,v⟩:=xj vJ aj u 3 rfl (.func (.func 179) #[] #[.pointer (some ⟨b,0,none⟩)])
 refine wX H H H W ?_
 have a:=ao.a2 a M c
 refine J H ?_
 obtain⟨w7,X,N,x⟩:=xj vJ aj v 4 rfl (.func (.func 179) #[] #[.pointer (some ⟨b,0,none⟩)])
 refine wX H H H X ?_
 have a:=ao.a2 a N c
 refine J H ?_
 obtain⟨w8,Y,Q,y⟩:=xj vJ aj x 5 rfl (.func (.func 181) #[] #[.pointer (some ⟨b,0,none⟩)])
 refine wX H H H Y ?_
 have a:=ao.a2 a Q c
 refine J H ?_
 obtain⟨w9,s9,R,A⟩:=xj vJ aj y 6 rfl (.func (.func 181) #[] #[.pointer (some ⟨b,0,none⟩)])
 refine wX H H H s9 ?_
 have a:=ao.a2 a R c
 refine lq (us:=[]) (vs:=[.pointer (some ⟨b,0,none⟩)]) H H H ?_
 obtain⟨wA,sA,S,C⟩:=xj vJ aj A 7 rfl (.func (.func 185) #[] #[.pointer (some ⟨b,0,none⟩)])
 refine wX H H H sA ?_
 have a:=ao.a2 a S c
 refine J H (Z H (O (aA (aM H ?_))))
 exact⟨_,H,((ab.ai g).ai a),m,g1,b,_,_,H,C,(k.aL g).aL a,o.aL a⟩
theorem WS:(Tryz.prog.info? 42).map (λi=>(i.zero,i.size,i.bytes))=some (some (.slice none 0 0),1,24):=by kernel_rfl
theorem YG {l m:List df} {x:Value} (b:aD dK l x w) (c:aD dK m y w):
 ∃r w',(Instr.buildSlice 156 2 (gO 0 [x,y]).toArray).run Tryz.prog w=.ok r w'∧ao w w'∧aD nb [l,m] r w':=by
 have e:∀u∈[x,y],u.oneCell'=true:=ay.a1 b.one (ay.a1 c.one ay.nil)
 obtain⟨r,w',f,a,g,_⟩:=sX (P:=Tryz.prog) (w:=w) (base:=0) vI WS [x,y] e aj (pq _)
 refine⟨r,w',f,a,Rp.cc (sz:=1) (Sl.b2 g) ?_ (by simp[Lx]) G⟩
 have d:Rp w' (nb l) [x]:=b.aL a
 have a2:Rp w' (nb m) [y]:=c.aL a
 simpa using bG.a1 d (bG.a1 a2 bG.nil)
theorem Vp {l:List df} (hi:i<l.length) (h:fI l=fI (l.drop i)) (a:rv l[i].1 l[i].2.1 l[i].2.2=false):fI l=false:=by
 rw[h,Co hi,a];rfl
theorem Vr {l:List df} (hi:i<l.length) (h:fI l=fI (l.drop i)) (a:rv l[i].1 l[i].2.1 l[i].2.2=true):fI l=fI (l.drop (i+1)):=by
 rw[h,Co hi,a];rfl
theorem Vq {l:List df} (h:fI l=fI (l.drop l.length)):fI l=true:=by
 rw[h,ED];rfl
theorem GM {m:fj} (hi:i<m.lays.length) (a:lV 0 m.lays=lV i (m.lays.drop i)) (h:fJ m.lays[i] i=false):false=gl m:=by
 unfold gl
 rw[a,CN hi,h]
 simp
theorem zh {m:fj} {x:Value} (ha:aD bJ m.inp x w) (R:aD gp m.lays y w) (hs:qh m) (hw:∀l∈m.lays,j1 l.kd):
 Calls Tryz.prog 34 #[.agg #[x,y]] w (aJ λr w'=>ao w w'∧r=B (gl m)):=by
 refine enter (vs:=[.agg #[x,y]]) Tryz.func34 H H H ?_
 have bs:=R.len
 refine T (cE H H λg1 w1 l1 x1 X=>(Z H (O (ah (ah ?_)))))
 rcases hc:dF m.inp
 ·refine ap (c H (jt) (Y H (D cd H (X.cell (i:=0) H)) ?_))
  refine aC ye H H ((by have:=xD (ha.aL x1);rw[hc] at this;exact this)) ?_
  rintro a9 ba ⟨p,rfl⟩
  refine cP H cW (J H (L H (L H (L H (L H (bA H (O (bT H (T (Z H (O (aA (aI (aM H ?_))))))))))))))
  exact⟨_,H,(x1.ai p),aB B (by unfold gl;rw[hc];first|rfl|(rw[bi G];rfl))⟩
 ·refine ap (c H (jt) (Y H (D cd H (X.cell (i:=0) H)) ?_))
  refine aC ye H H ((by have:=xD (ha.aL x1);rw[hc] at this;exact this)) ?_
  rintro a9 ba ⟨p,rfl⟩
  refine cP H cW (J H (V H (c H (gE) (V H (Y H (D dP H (p.a0 (X.cell (i:=1) H))) (V H (aW H (bP dP (R.aL (x1.ai p))) (V H (U H (cY) (t H (O (bc H (λaz=>?_) (λaz=>?_)))))))))))))
  ·refine T (Z H (O (aA (aI (aM H ?_)))))
   exact⟨_,H,(x1.ai p),aB B (by unfold gl;rw[hc];first|rfl|(rw[bi G];rfl))⟩
  ·refine aH (al (T (aC Ur H H (Rk) ?_)))
   rintro bt ae ⟨af,mm,g1,g2,T1,T2,rfl,hm,b1,b2⟩
   refine Z H (O (ah (T (c H (gE) (Y H (D dP H ((p.ai af).a0 (X.cell (i:=1) H))) (aW H (bP dP (R.aL ((x1.ai p).ai af))) (J H (O (aR (eg (α:=Nat) (λx=>[(3,.map (some mm)),(24,y),(25,I (m.lays.length:Int)),(26,I (x:Int))]) (λx w'=>ao w w'∧ao ae w'∧x≤m.lays.length∧lV 0 m.lays=lV x (m.lays.drop x)) (λx=>m.lays.length-x) (0) (aP H) ⟨((x1.ai p).ai af),ao.refl _,G,H⟩ ?_))))))))))
   rintro i wL ⟨b,g,hi,K⟩
   refine T (U H (bO) (O (ah (bc H (λaF=>?_) (λaF=>?_)))))
   ·refine aH (al (ah (aR (T (J H ?_)))))
    obtain⟨bh,bl,a1,a5,ak⟩:=bX (P:=Tryz.prog) (sz:=9) dP am tF G (R.aL b) (i:=i) G .i64
    obtain⟨a,s⟩:∃e,e=m.lays[i]'G:=⟨_,rfl⟩
    rw[←s] at ak
    obtain⟨be,bf,rfl,aa,ab⟩:=wi ak
    refine bF H (a1 _) (Y H (a5.ld dG H eJ) (cM xC H λg5 w5 l5 x5 k5=>(Z H (cl H H k5 H eJ (ay.a1 H (ay.a1 H (ay.a1 H (ay.a1 H (ay.a1 H (ay.a1 H (ay.a1 H (ay.a1 aa.one (ay.a1 ab.one ay.nil))))))))) λbb a8 M=>?_))))
    have d:=ao.a2 (x5) a8 l5
    refine O (ah ?_)
    have hq:=hs a (by rw[s];exact eK _)
    have hk:=hw a (by rw[s];exact eK _)
    rcases YW (w:=bb) (z:=.nilFunc) Tryz.underlying167 am (by simp[Cq]) (((g.ai d)).bM hm) hk.1 hk.2 with⟨hl,v⟩|⟨j,fv,hl,hj,aS⟩
    ·refine ap (J H (c H (et) (Y H (D aE H (M.cell (i:=0) H)) ?_)))
     refine G8 H H H hl (J H (aZ H (dm) (aZ H (dn) (Z H (Z H (O (ah (T (J H (cP H cW (J H (L H (L H (L H (L H (L H (bA H (O (bT H (T (Z H (O (aA (aI (bD (aI (aI (bD (aI (aM H ?_))))))))))))))))))))))))))))))
     exact⟨_,H,(b.ai d),aB B (GM G K (by
      rw[←s]
      unfold fJ
      first
      |(rw[bi (CK v)];simp)
      |(rw[bi Q];simp)))⟩
    ·obtain⟨f,fs,lb,rfl,hf,aQ⟩:=VG (T1:=T1) (T2:=T2) hj
     refine ap (J H (c H (et) (Y H (D aE H (M.cell (i:=0) H)) (G8 H H H hl (J H (aZ H (dm) (aZ H (dn) (Z H (Z H (O (ah (T (J H (cP H cW (J H (V H (J H (V H (Y H (M.ld dG H eJ) (V H (J H (V H (im H hf H H ((aQ _ a _ _ (i:Int) aS (aa.aL d) (ab.aL d) (b1.aL ((g.ai d))) (b2.aL ((g.ai d))))) ?_)))))))))))))))))))))))
     rintro bu bC ⟨C,rfl⟩
     refine V H (cP H Bf (t H (O (bc H (λQ=>?_) (λQ=>?_)))))
     ·refine T (Z H (O (aA (aI (bD (aI (aI (bD (aI (aM H ?_))))))))))
      exact⟨_,H,((b.ai d).ai C),aB B (GM G K (by
       rw[←s]
       unfold fJ
       first
       |(rw[bi (CK v)];simp)
       |(rw[bi Q];simp)))⟩
     ·refine aH (al (T (c H (gJ) (Y H (D cn H (C.a0 (M.cell (i:=7) H))) ?_))))
      refine c H (lc) (Y H (D cn H (C.a0 (M.cell (i:=8) H))) ?_)
      obtain⟨v51,av,aV,aw,ag⟩:=YG (aa.aL (d.ai C)) (ab.aL (d.ai C))
      refine dJ (vs:=[(0,be),(1,bf)]) H aV (aW H (bP vI ag) (J H (O (aR (eg (α:=Nat) (λx=>[(3,.map (some mm)),(24,y),(25,I (m.lays.length:Int)),(26,I (i:Int)),(51,v51),(52,I (2:Int)),(53,I (x:Int))]) (λx w'=>ao w w'∧ao ae w'∧ao av w'∧x≤2∧(1≤x→fI a.ws=true)∧(2≤x→fI a.bs=true)) (λx=>2-x) (0) (aP H) ⟨(((b.ai d).ai C).ai aw),(((g.ai d).ai C).ai aw),ao.refl _,G,λh=>absurd h G,λh=>absurd h G⟩ ?_)))))
      rintro j wM ⟨b,g,F,bp,ar,aL⟩
      refine T (U H (bO) (O (ah (bc H (λaG=>?_) (λaG=>?_)))))
      ·refine aH (al (ah (aR (T ?_))))
       have au:j<[a.ws,a.bs].length:=dT
       obtain⟨bj,bm,a2,a6,an⟩:=bX (P:=Tryz.prog) (sz:=1) vI am Lx G (ag.aL F) (i:=j) (au) .i64
       obtain⟨o,u⟩:∃e,e=([a.ws,a.bs])[j]'au:=⟨_,rfl⟩
       rw[←u] at an
       obtain⟨bg,rfl,ad⟩:=Ge an
       refine bF H (a2 _) ?_
       have br:=ad.len
       refine Y H (D cn H a6.cell0) (Z H (bB (J H (aW H (bP cn ad) (J H (O (aR (eg (α:=Nat) (λx=>[(3,.map (some mm)),(24,y),(25,I (m.lays.length:Int)),(26,I (i:Int)),(51,v51),(52,I (2:Int)),(53,I (j:Int)),(57,bg),(58,I (o.length:Int)),(59,I (x:Int))]) (λx w'=>ao w w'∧ao ae w'∧ao av w'∧ao wM w'∧x≤o.length∧fI o=fI (o.drop x)) (λx=>o.length-x) (0) (aP H) ⟨b,g,F,ao.refl _,G,H⟩ ?_))))))))
       rintro k wN ⟨b,g,F,eM,bq,hC⟩
       refine T (U H (bO) (O (ah (bc H (λaK=>?_) (λaK=>?_)))))
       ·refine aH (al (ah (aR (T ?_))))
        obtain⟨bk,bn,a3,a7,aq⟩:=bX (P:=Tryz.prog) (sz:=3) cn am py G (ad.aL eM) (i:=k) G .i64
        obtain⟨n,S⟩:∃e,e=o[k]'G:=⟨_,rfl⟩
        rw[←S] at aq
        obtain⟨bH,bK,rfl,ai,aj⟩:=su aq
        refine bF H (a3 _) ?_
        have hr:n.2.1.length≤1073741824∧n.2.2.length≤1073741824:=by
         have hm:n∈o:=by rw[S];exact eK _
         rcases(show j=0∨j=1 by omega) with rfl|rfl
         ·exact hq.1 _ (by rw[u] at hm;exact hm)
         ·exact hq.2 _ (by rw[u] at hm;exact hm)
        refine Y H (a7.ld bI H bW) (cM iH H λbo bx a0 bd aX=>cl H H aX H bW (ay.a1 H (ay.a1 ai.one (ay.a1 aj.one ay.nil))) λbz a4 aY=>?_)
        have A:=ao.a2 (bd) a4 a0
        refine bB (Y H (aY.ld bI H bW) (aC yg H H ((BS (bQ.mk (ai.aL A) (aj.aL A)) G G)) ?_))
        rintro bw bG ⟨N,rfl⟩
        refine cP H cW (O (lQ H (λq=>?_) (λq=>?_)))
        ·have q:rv n.1 n.2.1 n.2.2=false:=by simpa using q
         have v:=Vp G hC (by rw[←S];exact q)
         refine T (Z H (O (aA (bD (aI (aI (bD (bD (aI (aI (bD (bD (aI (aI (bD (aI (aM H ?_)))))))))))))))))
         exact⟨_,H,((b.ai A).ai N),aB B (GM G K (by
          rw[←s]
          unfold fJ
          rcases(show j=0∨j=1 by omega) with rfl|rfl
          ·rw[u] at v
           rw[show fI a.ws=false from v];rfl
          ·rw[u] at v
           rw[show fI a.bs=false from v];simp))⟩
        ·have q:rv n.1 n.2.1 n.2.2=true:=by simpa using q
         refine aH (bE (al (ap (U H cD (J H (ax (ew (k+1) (aP H) ⟨((b.ai A).ai N),((g.ai A).ai N),((F.ai A).ai N),((eM.ai A).ai N),G,Vr G hC (by rw[←S];exact q)⟩ G)))))))
       ·refine ce (aU (aU (cg (bE (al ?_)))))
        have W:=Vq (by rw[show o.length=k by omega];exact hC)
        have aN:fI a.ws=true:=by
         rcases(show j=0∨j=1 by omega) with rfl|rfl
         ·rw[u] at W;exact W
         ·exact ar G
        have aO:2≤j+1→fI a.bs=true:=λhj=>by
         obtain rfl:j=1:=by omega
         rw[u] at W;exact W
        refine ap (U H cD (J H (ax (ew (j+1) (aP H) ⟨b,g,F,G,λ_=>aN,aO⟩ G))))
      ·refine ce (aU (aU (cg (bE (al ?_)))))
       have aT:fJ a i=true:=by
        unfold fJ
        rw[ar G,aL G,dH (oJ Q)];rfl
       refine ap (U H cD (J H (ax (ew (i+1) (aP H) ⟨b,g,G,by rw[K,CN G,←s,aT];rfl⟩ G))))
   ·refine ce (aU (aU (cg (al (T (Z H (O (aA (aM H ?_)))))))))
    exact⟨_,H,b,aB B (by unfold gl;rw[hc,K,kT G,dH G];rfl)⟩
def rK (c:Value):cT:=λa w=>∃ad,a=.pointer (some ad)∧w.cell? ad=some c
theorem rK.a3 (c:Value):cN (rK c):=λ_ _ _ ⟨ad,h,a⟩ b=>⟨ad,h,b.a0 a⟩
section
variable {P:Program} {ops:Array Oper} {Env:World→Prop} {Rl:World→World→Prop} {mo:Bool} {Pn:List PanicEntry→World→Prop} {Z:ee} {N:Nat} {F:dO} {K:dO→ee→Prop} {rest:List Oper} {d:Nat} {ty:TypeId} {pos:String} {aft:Array Edge} {S S':cT}
theorem Gq {t:TypeId} {x y:Operand} (l:look F x=S) (m:look F y=Is v) (h:eG Rl S') (e:Nat.blt d N=true) (g:∀w u,Env w→S u w→∃r w',(Instr.indexAt t u v).run P w=.ok r w'∧ao w w'∧S' r w')
 (k:cj P ops Env Rl mo Pn N rest (di F (some d) S') Z K):cj P ops Env Rl mo Pn N (⟨some d,.indexAddr t x y,ty,pos,aft,none⟩::rest) F Z K:=
 Ax (xs:=[x,y]) (f:=λ|[a,c]=>Instr.indexAt t a c|_=>stuck "") (λ_=>rfl) lw h e (λw j u i z b=>by
  subst l
  rw[m] at b
  obtain rfl:z=v:=b
  exact g w u j i) k
theorem Gr {t:TypeId} {x:Operand} (i:look F x=S) (e:eG Rl S') (b:Nat.blt d N=true) (c:∀w u,Env w→S u w→∃r w',(Instr.loadAt t u).run P w=.ok r w'∧ao w w'∧S' r w')
 (k:cj P ops Env Rl mo Pn N rest (di F (some d) S') Z K):cj P ops Env Rl mo Pn N (⟨some d,.load t x,ty,pos,aft,none⟩::rest) F Z K:=
 Ax (xs:=[x]) (f:=λ|[a]=>Instr.loadAt t a|_=>stuck "") (λ_=>rfl) lw e b (λw h u g=>by
  subst i
  exact c w u h g) k
end
theorem GD {n:Int} (h:aD bJ A u w) (hi:i<A.length) (d:n=A[i]):∃r w',(Instr.indexAt 22 u (I (i:Int))).run Tryz.prog w=.ok r w'∧ao w w'∧rK (I n) r w':=by
 obtain⟨ad,cs,b,c,a⟩:=bX (P:=Tryz.prog) (sz:=1) cd am el G h hi .i64
 rw[←d] at a
 obtain rfl:=er a
 exact⟨_,_,b _,ao.refl _,ad,H,c.cell0⟩
theorem GP {n:Int} (h:rK (I n) u w):∃r w',(Instr.loadAt 3 u).run Tryz.prog w=.ok r w'∧ao w w'∧Is (I n) r w':=by
 obtain⟨ad,rfl,a⟩:=h
 exact⟨_,_,D aE H a,ao.refl _,H⟩
theorem qO:aY Tryz.prog 271:=⟨_,Tryz.func271,am,rfl⟩
theorem UN:aY Tryz.prog 268:=⟨_,Tryz.func268,am,rfl⟩
theorem FU:aY Tryz.prog 270:=⟨_,Tryz.func270,am,rfl⟩
theorem UM:aY Tryz.prog 269:=⟨_,Tryz.func269,am,rfl⟩
theorem UL:aY Tryz.prog 272:=⟨_,Tryz.func272,am,rfl⟩
theorem UO:aY Tryz.prog 194:=⟨_,Tryz.func194,am,rfl⟩
theorem Qh {n d st pad a b:Int} (k:aD bJ A v w) (c:A=[n,h,d]) (f:(kh:Int)=a) (g:(kw:Int)=b) (i:iP n h d kh kw st pad R C):
 Calls Tryz.prog 275 #[v,I a,I b,I st,I pad] w (aJ λr w'=>ao w w'∧pt (aD fN (ke n.toNat h d kh kw st pad R C)) (Is (I (R:Int))) (Is (I (C:Int))) (Is (I 0)) r w'):=by
 subst c f g
 exact aJ.mono (Qj k i) λr w' ⟨x,u,e,j⟩=>⟨x,_,_,_,_,e,j,H,H,H⟩
theorem qF {inp:List Int} {shs:List (List Int)} (m:aD bJ inp v w) (b:aD fN shs u w):
 Calls Tryz.prog 271 #[.agg #[v,u]] w (aJ λr w'=>ao w w'∧aD bJ (dy inp shs shs.length) r w'):=by
 refine enter (vs:=[.agg #[v,u]]) Tryz.func271 H H H ?_
 have t:=b.len
 refine T (cE H H λg1 w1 x x1 d=>(Z H (O (ah (T (c H (Gn) (Y H (D gC H (d.cell (i:=1) H)) (aW H (bP gC (b.aL x1)) (Z H (bB (J H (U H (cY) (O (bc H (λl=>?_) (λl=>?_)))))))))))))))
 ·refine T (c H (Gn) (Y H (D gC H (d.cell (i:=1) H)) ?_))
  refine J H (U (r:=I ((shs.length-1:Nat):Int)) H (by have e:((shs.length-1:Nat):Int)=(shs.length:Int)-1:=G;rw[e];exact dM) ?_)
  obtain⟨p,q,n,o,f⟩:=bX (P:=Tryz.prog) (sz:=1) gC am lR G (b.aL x1) (i:=shs.length-1) (G) .i64
  obtain⟨s,g⟩:∃e,e=shs[shs.length-1]'G:=⟨_,rfl⟩
  rw[←g] at f
  obtain⟨y,rfl,j⟩:=mi f
  refine bF H (n _) (Y H (D cd H o.cell0) (Z H (O (aA (aI (aM H ?_))))))
  exact⟨_,H,x1,by have a:=j;rw[g] at a;obtain⟨k,h⟩:∃k,shs.length=k+1:=⟨shs.length-1,G⟩;rw[h,lY G];simp only[h,pn] at a;exact a⟩
 ·refine aH (al (T (c H (Ma) (Y H (D cd H (d.cell (i:=0) H)) ?_))))
  refine Z H (O (aA (aM H ?_)))
  exact⟨_,H,x1,by rw[show shs.length=0 by omega];exact(m.aL x1)⟩
theorem RS {inp:List Int} {shs:List (List Int)} {l:cm} {x:Value} (o:aD bJ inp v w) (n:aD fN shs u w) (p:aD dQ l.ws x w) (j:A=dy inp shs shs.length) (d:dF A=true) (k:1≤l.ou∧l.ou≤16384) (F:(l.ws.length:Int)=l.ou*cS A):
 Calls Tryz.prog 268 #[.agg #[v,u],.agg #[I l.kd,I l.fr,I l.ou,I l.kh,I l.kw,I l.sr,I l.pd,x,y]] w (aJ λr w'=>ao w w'∧je (aD bJ [l.ou]) (Is (B true)) r w'):=by
 refine enter (vs:=[.agg #[v,u],.agg #[I l.kd,I l.fr,I l.ou,I l.kh,I l.kw,I l.sr,I l.pd,x,y]]) Tryz.func268 H H H ?_
 obtain⟨K,m⟩:=rk d
 have J:0≤l.ou*cS A∧l.ou*cS A≤16384*16384:=⟨iI G G,gz k.2 m G G⟩
 refine T (cE H H λz w2 L s q=>cE H H λC Q M e c=>(Z H (Z H (O (ah (cz 14 [4,18] am am (bH H (λw a=>f9) (aQ H (λw a=>D aE H (a.a0 (c.cell (i:=2) H))) (wr (S:=aD bJ [l.ou]) (aD.a3 _ _) H (λw a=>by rintro _ rfl;exact tQ l.ou) (bH H (λw a=>gJ) ?_))))))))))
 have b:=s.ai e
 refine aQ H (λw a=>D cn H (a.a0 (c.cell (i:=7) H))) (mE (vs:=[x]) H (λw a=>bP cn ((p.aL b).aL a)) (bH H (λw a=>f9) (aQ H (λw a=>D aE H (a.a0 (c.cell (i:=2) H))) (aQ H (λw a=>((q.aL e).aL a).ld lN H mO) (fP (S:=aD bJ A) qO (aD.a3 _ _) H H (λw a=>by have h:=qF ((o.aL b).aL a) ((n.aL b).aL a);rw[←j] at h;exact h) (eh (S:=Is (I (cS A))) uy (cN.is _) H (λw a=>by rintro N g;exact(uf g d)) (bn H (λw _=>dh G G) (bn H (λw _=>cu G aV) (gK H (cq ?_))))))))))
 rintro R t P f _ rfl
 refine Z H (O (aA (dt H ?_)))
 exact⟨_,H,(b.ai t),_,_,H,f,H⟩
theorem Fa {inp:List Int} {shs:List (List Int)} {l:cm} {x:Value} {n d c:Int} (s:aD bJ inp v w) (q:aD fN shs u w) (k:A=dy inp shs shs.length) (m:A=[n,h,d]) (N:1≤l.kh∧1≤l.kw) (o:iP n h d l.kh.toNat l.kw.toNat l.sr l.pd R C):
 Calls Tryz.prog 270 #[.agg #[v,u],.agg #[I l.kd,I l.fr,I l.ou,I l.kh,I l.kw,I l.sr,I l.pd,x,y],I c] w (aJ λr w'=>ao w w'∧je (aD bJ [c,(R:Int),(C:Int)]) (Is (B true)) r w'):=by
 refine enter (vs:=[.agg #[v,u],.agg #[I l.kd,I l.fr,I l.ou,I l.kh,I l.kw,I l.sr,I l.pd,x,y],I c]) Tryz.func270 H H H (T (cE H H λL X P f t=>cE H H λM w4 Q e b=>(Z H (Z H (O (ah (cz 19 [2,9,10,27] am am (aQ H (λw a=>((t.aL e).aL a).ld lN H mO) (fP (S:=aD bJ A) qO (aD.a3 _ _) H H (λw a=>by have h:=qF ((s.aL (f.ai e)).aL a) ((q.aL (f.ai e)).aL a);rw[←k] at h;exact h) (bH H (λw a=>gq) (aQ H (λw a=>D aE H (a.a0 (b.cell (i:=3) H))) (bH H (λw a=>gt) (aQ H (λw a=>D aE H (a.a0 (b.cell (i:=4) H))) (bH H (λw a=>js) (aQ H (λw a=>D aE H (a.a0 (b.cell (i:=5) H))) (bH H (λw a=>ik) (aQ H (λw a=>D aE H (a.a0 (b.cell (i:=6) H))) ?_)))))))))))))))))
 refine eh (S:=pt (aD fN (ke n.toNat h d l.kh.toNat l.kw.toNat l.sr l.pd R C)) (Is (I ((R:Int)))) (Is (I ((C:Int)))) (Is (I 0))) Ku (pt.a3 (aD.a3 _ _) (cN.is _) (cN.is _) (cN.is _)) H (λw a=>by rintro V j _ rfl _ rfl _ rfl _ rfl;exact(Qh j m G G o)) (W H (Mf H (aD.a3 _ _) H (Mg H (cN.is _) H (Mh H (cN.is _) H (Mi H (cN.is _) H (gK H (gK H (gK H (cq ?_)))))))))
 rintro z K _ rfl _ rfl _ rfl _ rfl
 refine Z H (bB (J H (J H (J H ?_))))
 obtain⟨v31,Y,p,F,g⟩:=tP (w:=z) (c) ((R:Int)) ((C:Int))
 refine dJ (vs:=[(0,I c),(1,I (R:Int)),(2,I (C:Int))]) H p (J H (U H (cu G aV) (Z H (Z H (O (aA (dt H ?_)))))))
 exact⟨_,H,(((f.ai e).ai K).ai F),_,_,H,g,H⟩
theorem RR {inp:List Int} {shs:List (List Int)} {l:cm} {x:Value} {n d:Int} (p:aD bJ inp v w) (o:aD fN shs u w) (hx:aD dQ l.ws x w) (m:A=dy inp shs shs.length) (M:dF A=true) (f:A=[n,h,d]) (P:(1≤l.kh∧l.kh≤64)∧(1≤l.kw∧l.kw≤64)) (N:iP n h d l.kh.toNat l.kw.toNat l.sr l.pd R C) (V:1≤l.ou∧l.ou≤16384) (hW:(l.ws.length:Int)=l.ou*n*l.kh*l.kw):
 Calls Tryz.prog 269 #[.agg #[v,u],.agg #[I l.kd,I l.fr,I l.ou,I l.kh,I l.kw,I l.sr,I l.pd,x,y]] w (aJ λr w'=>ao w w'∧je (aD bJ [l.ou,(R:Int),(C:Int)]) (Is (B true)) r w'):=by
 refine enter (vs:=[.agg #[v,u],.agg #[I l.kd,I l.fr,I l.ou,I l.kh,I l.kw,I l.sr,I l.pd,x,y]]) Tryz.func269 H H H ?_
 obtain⟨⟨z,F⟩,K,L⟩:=P
 have Q:n=A[0]'(by rw[f];simp):=by subst f;rfl
 obtain⟨⟨ab,U⟩,_,_⟩:=vc (by rw[←f];exact M)
 have m1:0≤l.ou*n∧l.ou*n≤16384*16384:=⟨iI G G,gz V.2 U G G⟩
 have m2:0≤l.ou*n*l.kh∧l.ou*n*l.kh≤268435456*64:=⟨iI m1.1 G,gz m1.2 F G G⟩
 have m3:0≤l.ou*n*l.kh*l.kw∧l.ou*n*l.kh*l.kw≤17179869184*64:=⟨iI m2.1 G,gz m2.2 L G G⟩
 refine T (cE H H λg2 w2 l2 k q=>cE H H λg3 w3 l3 g b=>(Z H (Z H (bB (Y H ((q.aL g).ld lN H mO) (Y H (b.ld dG H eJ) (c H (f9) (Y H (D aE H (b.cell (i:=2) H)) (aC FU H H ((Fa (p.aL (k.ai g)) (o.aL (k.ai g)) m f ⟨z,K⟩ N)) ?_)))))))))
 rintro ae af ⟨e,⟨ad,_,rfl,t,rfl⟩⟩
 refine J H (aZ H dm (aZ H dn (Z H (Z H (O (ah (cz 22 [4,36] am am (W H (W H (W H (X H (bH H (λw a=>gJ) ?_))))))))))))
 have j:=(k.ai g).ai e
 refine X H (aQ H (λw a=>D Tryz.underlying42 H (a.a0 (e.a0 (b.cell (i:=7) H)))) (X H (mE (vs:=[x]) H (λw a=>bP Tryz.underlying42 ((hx.aL j).aL a)) (X H (bH H (λw a=>f9) (X H (aQ H (λw a=>D Tryz.underlying3 H (a.a0 (e.a0 (b.cell (i:=2) H)))) (X H (aQ H (λw a=>((q.aL (g.ai e)).aL a).ld Tryz.underlying265 H mO) (X H (fP (S:=aD bJ A) qO (aD.a3 _ _) H H (λw a=>by have h:=qF ((p.aL j).aL a) ((o.aL j).aL a);rw[←m] at h;exact h) (X H (Gq (S':=rK (I n)) H H (rK.a3 _) H (λw u a h=>GD h (by rw[f];simp) Q) (X H (Gr (S':=Is (I n)) H (cN.is _) H (λw u a h=>GP h) (X H (bn H (λw _=>dh G G) (X H (bH H (λw a=>gq) (X H (aQ H (λw a=>D Tryz.underlying3 H (a.a0 (e.a0 (b.cell (i:=3) H)))) (X H (bn H (λw _=>dh G G) ?_)))))))))))))))))))))))
 refine X H (bH H (λw a=>gt) (X H (aQ H (λw a=>D aE H (a.a0 (e.a0 (b.cell (i:=4) H)))) (X H (bn H (λw _=>dh G G) (X H (bn H (λw _=>cu G aV) (jN H (gK H (cq ?_))))))))))
 rintro ag s _ aa
 obtain rfl:=bU aa
 rintro _ rfl
 refine Z H (O (aA (dt H ?_)))
 exact⟨_,H,(j.ai s),_,_,H,(t.aL s),H⟩
theorem RQ {inp:List Int} {shs:List (List Int)} {l:cm} {x:Value} (k:aD bJ inp v w) (j:aD fN shs u w) (n:A=dy inp shs shs.length) (hf: -1≤l.fr∧l.fr≤(shs.length:Int)-1) (F:dy inp shs (l.fr+1).toNat=A):
 Calls Tryz.prog 272 #[.agg #[v,u],.agg #[I l.kd,I l.fr,I l.ou,I l.kh,I l.kw,I l.sr,I l.pd,x,y]] w (aJ λr w'=>ao w w'∧je (aD bJ A) (Is (B true)) r w'):=by
 refine enter (vs:=[.agg #[v,u],.agg #[I l.kd,I l.fr,I l.ou,I l.kh,I l.kw,I l.sr,I l.pd,x,y]]) Tryz.func272 H H H (T (cE H H λg2 w2 l2 M g=>cE H H λg3 w3 l3 b t=>(Z H (Z H (bB (c H (Ma) (Y H (D cd H (b.a0 (g.cell (i:=0) H))) (Z H (O (ah (ah ?_)))))))))))
 rcases(show l.fr= -1∨0≤l.fr by omega) with K|K
 ·have s:A=inp:=by rw[←F,K];rfl
  refine ap (c H (jr) (Y H (D aE H (t.cell (i:=1) H)) (U H (aX G eU) (O (be H (aH (al (ah (cz 7 [4,23] am am ?_)))))))))
  have d:=M.ai b
  refine aQ H (λw a=>((g.aL b).aL a).ld lN H mO) (fP (S:=aD bJ A) qO (aD.a3 _ _) H H (λw a=>by have h:=qF ((k.aL d).aL a) ((j.aL d).aL a);rw[←n] at h;exact h) (W H (aQ H (λw a=>((g.aL b).aL a).ld lN H mO) (fP (S:=aD bJ A) qO (aD.a3 _ _) H H (λw a=>by have h:=qF ((k.aL d).aL a) ((j.aL d).aL a);rw[←n] at h;exact h) (eh (S:=Is (B true)) Kz (cN.is _) H (λw a=>by rintro _ rfl V p;exact(by have h:=ID (l:=A) (m:=A) (by rw[s];exact((k.aL d).aL a)) p;rw[dH rfl] at h;exact h)) (gK H (cq ?_)))))))
  rintro aa z X o _ rfl
  refine Z H (O (aA (dt H ?_)))
  exact⟨_,H,(d.ai z),_,_,H,o,H⟩
 ·obtain⟨q,Q⟩:∃q:Nat,l.fr=(q:Int):=⟨l.fr.toNat,G⟩
  have s:A=shs[q]'G:=by rw[←F,show(l.fr+1).toNat=q+1 by omega];exact lY G
  refine ap (c H (jr) (Y H (D aE H (t.cell (i:=1) H)) (U H (cu G eU) (O (bT H (ap (c H (Gn) (Y H (D gC H (b.a0 (g.cell (i:=1) H))) (c H (jr) (Y H (D aE H (t.cell (i:=1) H)) ?_))))))))))
  have f:=M.ai b
  obtain⟨ab,ad,L,R,C⟩:=bX (P:=Tryz.prog) (sz:=1) gC am lR G (j.aL f) (i:=q) (G) .i64
  rw[←Q] at L
  obtain⟨ae,J⟩:∃e,e=shs[q]'G:=⟨_,rfl⟩
  rw[←J] at C
  obtain⟨af,rfl,N⟩:=mi C
  refine bF H (L _) (Y H (D cd H R.cell0) (Z H (O (ah (cz 7 [4,23] am am (aQ H (λw a=>((g.aL b).aL a).ld lN H mO) (fP (S:=aD bJ A) qO (aD.a3 _ _) H H (λw a=>by have h:=qF ((k.aL f).aL a) ((j.aL f).aL a);rw[←n] at h;exact h) (W H (aQ H (λw a=>((g.aL b).aL a).ld lN H mO) (fP (S:=aD bJ A) qO (aD.a3 _ _) H H (λw a=>by have h:=qF ((k.aL f).aL a) ((j.aL f).aL a);rw[←n] at h;exact h) (eh (S:=Is (B true)) Kz (cN.is _) H (λw a=>by rintro _ rfl V p;exact(by have h:=ID (l:=A) (m:=A) (by rw[s,←J];exact(N.aL a)) p;rw[dH rfl] at h;exact h)) (gK H (cq ?_)))))))))))))
  rintro aa z X o _ rfl
  refine Z H (O (aA (dt H ?_)))
  exact⟨_,H,(f.ai z),_,_,H,o,H⟩
theorem RT {inp:List Int} {shs:List (List Int)} {l:cm} {x:Value} {s:List Int} (o:aD bJ inp v w) (m:aD fN shs u w) (X:aD dQ l.ws x w) (ho:qE (dy inp shs) shs.length l s):
 Calls Tryz.prog 194 #[.agg #[v,u],.agg #[I l.kd,I l.fr,I l.ou,I l.kh,I l.kw,I l.sr,I l.pd,x,y]] w (aJ λr w'=>ao w w'∧je (aD bJ s) (Is (B true)) r w'):=by
 refine enter (vs:=[.agg #[v,u],.agg #[I l.kd,I l.fr,I l.ou,I l.kh,I l.kw,I l.sr,I l.pd,x,y]]) Tryz.func194 H H H (T (cE H H λg2 w2 l2 e p=>cE H H λg3 w3 l3 b f=>(Z H (Z H (O (ah (ah ?_)))))))
 obtain⟨z,_,K,aG,W⟩:=ho
 obtain⟨A,j⟩:∃A,A=dy inp shs shs.length:=⟨_,rfl⟩
 rw[←j] at K W
 rcases(show xV A (dy inp shs (l.fr+1).toNat) l s from W) with⟨g,N,rfl⟩|⟨g,n,h,d,R,C,k,L,N,rfl⟩|⟨g|g,n,h,d,R,C,k,L,rfl⟩|⟨g,rfl⟩|⟨g,rfl⟩|⟨g,hF,rfl⟩
 ·have ai:=GY z g
  refine ap (c H (et) (Y H (D aE H (f.cell (i:=0) H)) (O (aR (T (U H (cu G aV) (Z H (O (bT H (T (Y H ((p.aL b).ld lN H mO) ?_)))))))))))
  have F:=e.ai b
  refine Y H (f.ld dG H eJ) (aC UN H H ((RS (o.aL F) (m.aL F) (X.aL F) j K ai.2.1 N)) ?_)
  rintro aN aW ⟨av,⟨aK,_,rfl,aa,rfl⟩⟩
  refine aZ H dm (aZ H dn (Z H (Z H (O (aA (bD (aI (dt H ?_))))))))
  exact⟨_,H,(F.ai av),_,_,H,aa,H⟩
 ·have P:=CZ z g
  refine ap (c H (et) (Y H (D aE H (f.cell (i:=0) H)) (O (aR (T (U H (aX G aV) (Z H (O (be H (T (U H (cu G aV) (Z H (O (bT H (T (Y H ((p.aL b).ld lN H mO) (Y H (f.ld dG H eJ) ?_)))))))))))))))))
  have J:=e.ai b
  refine aC UM H H ((RR (o.aL J) (m.aL J) (X.aL J) j K k ⟨P.1.1,P.1.2.1⟩ L P.2.2.2.1 N)) ?_
  rintro aO aY ⟨aw,⟨aL,_,rfl,ab,rfl⟩⟩
  refine aZ H dm (aZ H dn (Z H (Z H (O (aA (bD (aI (dt H ?_))))))))
  exact⟨_,H,(J.ai aw),_,_,H,ab,H⟩
 ·have aj:=sL z (.inl g)
  have Q:n=A[0]'(by rw[k];simp):=by subst k;rfl
  refine ap (c H (et) (Y H (D aE H (f.cell (i:=0) H)) (O (aR (T (U H (aX G aV) (Z H (O (be H (T (U H (aX G aV) (Z H (O (be H (ah (T (U H (cu G aV) (Z H (O (bT H (aH (al (bT H (ah (cz 10 [4,33] am am (aQ H (λw a=>((p.aL b).aL a).ld lN H mO) (aQ H (λw a=>(f.aL a).ld dG H eJ) ?_)))))))))))))))))))))))))))
  have q:=e.ai b
  refine aQ H (λw a=>((p.aL b).aL a).ld Tryz.underlying265 H mO) (fP (S:=aD bJ A) qO (aD.a3 _ _) H H (λw a=>by have h:=qF ((o.aL q).aL a) ((m.aL q).aL a);rw[←j] at h;exact h) (Gq (S':=rK (I n)) H H (rK.a3 _) H (λw u a h=>GD h (by rw[k];simp) Q) (Gr (S':=Is (I n)) H (cN.is _) H (λw u a h=>GP h) (eh (S:=je (aD bJ ([n,(R:Int),(C:Int)])) (Is (B true))) FU (je.a3 (aD.a3 _ _) (cN.is _)) H (λw a=>by rintro _ rfl _ rfl _ rfl;exact(Fa ((o.aL q).aL a) ((m.aL q).aL a) j k ⟨G,G⟩ L)) (Md H (aD.a3 _ _) H (Me H (cN.is _) H (gK H (cq ?_))))))))
  rintro au V aq M _ rfl
  refine Z H (O (aA (bD (aI (dt H ?_)))))
  exact⟨_,H,(q.ai V),_,_,H,M,H⟩
 ·have aj:=sL z (.inr g)
  have Q:n=A[0]'(by rw[k];simp):=by subst k;rfl
  refine ap (c H (et) (Y H (D aE H (f.cell (i:=0) H)) (O (aR (T (U H (aX G aV) (Z H (O (be H (T (U H (aX G aV) (Z H (O (be H (ah (T (U H (aX G aV) (Z H (O (be H (ap (U H (cu G aV) (Z H (O (bT H (ah (cz 10 [4,33] am am (aQ H (λw a=>((p.aL b).aL a).ld lN H mO) (aQ H (λw a=>(f.aL a).ld dG H eJ) ?_)))))))))))))))))))))))))))))
  have t:=e.ai b
  refine aQ H (λw a=>((p.aL b).aL a).ld Tryz.underlying265 H mO) (fP (S:=aD bJ A) qO (aD.a3 _ _) H H (λw a=>by have h:=qF ((o.aL t).aL a) ((m.aL t).aL a);rw[←j] at h;exact h) (Gq (S':=rK (I n)) H H (rK.a3 _) H (λw u a h=>GD h (by rw[k];simp) Q) (Gr (S':=Is (I n)) H (cN.is _) H (λw u a h=>GP h) (eh (S:=je (aD bJ ([n,(R:Int),(C:Int)])) (Is (B true))) FU (je.a3 (aD.a3 _ _) (cN.is _)) H (λw a=>by rintro _ rfl _ rfl _ rfl;exact(Fa ((o.aL t).aL a) ((m.aL t).aL a) j k ⟨G,G⟩ L)) (Md H (aD.a3 _ _) H (Me H (cN.is _) H (gK H (cq ?_))))))))
  rintro au V aq M _ rfl
  refine Z H (O (aA (bD (aI (dt H ?_)))))
  exact⟨_,H,(t.ai V),_,_,H,M,H⟩
 ·refine ap (c H (et) (Y H (D aE H (f.cell (i:=0) H)) ?_))
  refine O (aR (T (U H (aX G aV) (Z H (O (be H (T (U H (aX G aV) (Z H (O (be H (ah (T (U H (aX G aV) (Z H (O (be H (ap (U H (aX G aV) (Z H (O (be H (T (U H (aX G aV) (Z H (O (be H (T (U H (aX G aV) (Z H (O (be H (aH (bE (al (T (Y H ((p.aL b).ld lN H mO) (aC qO H H ((by have h:=qF (o.aL (e.ai b)) (m.aL (e.ai b));rw[←j] at h;exact h)) ?_))))))))))))))))))))))))))))))))))))))
  rintro aU a3 ⟨aF,ag⟩
  refine Z H (Z H (O (aA (dt H ?_))))
  exact⟨_,H,((e.ai b).ai aF),_,_,H,ag,H⟩
 ·refine ap (c H (et) (Y H (D aE H (f.cell (i:=0) H)) ?_))
  refine O (aR (T (U H (aX G aV) (Z H (O (be H (T (U H (aX G aV) (Z H (O (be H (ah (T (U H (aX G aV) (Z H (O (be H (ap (U H (aX G aV) (Z H (O (be H (T (U H (cu G aV) (Z H (O (bT H (T (Y H ((p.aL b).ld lN H mO) (aC qO H H ((by have h:=qF (o.aL (e.ai b)) (m.aL (e.ai b));rw[←j] at h;exact h)) ?_))))))))))))))))))))))))))))))
  rintro v37 a0 ⟨ax,ad⟩
  refine aC uy H H ((uf ad K)) ?_
  rintro aP ar ⟨ay,rfl⟩
  obtain⟨aS,a1,an,az,ae⟩:=tQ (w:=ar) ((cS A))
  refine dJ (vs:=[(0,I (cS A))]) H an (Z H (Z H (O (aA (bD (aI (dt H ?_)))))))
  exact⟨_,H,((((e.ai b).ai ax).ai ay).ai az),_,_,H,ae,H⟩
 ·have ak:=AI z g
  refine ap (c H (et) (Y H (D aE H (f.cell (i:=0) H)) (O (aR (T (U H (aX G aV) (Z H (O (be H (T (U H (aX G aV) (Z H (O (be H (ah (T (U H (aX G aV) (Z H (O (be H (ap (U H (aX G aV) (Z H (O (be H (T (U H (aX G aV) (Z H (O (be H (T (U H (cu G aV) (Z H (O (bT H (T (Y H ((p.aL b).ld lN H mO) (Y H (f.ld dG H eJ) (aC UL H H ((RQ (o.aL (e.ai b)) (m.aL (e.ai b)) j ak hF)) ?_)))))))))))))))))))))))))))))))))))))))
  rintro aT a2 ⟨aB,⟨aM,_,rfl,af,rfl⟩⟩
  refine aZ H dm (aZ H dn (Z H (Z H (O (aA (bD (aI (dt H ?_))))))))
  exact⟨_,H,((e.ai b).ai aB),_,_,H,af,H⟩
theorem TM:aY Tryz.prog 195:=⟨_,Tryz.func195,am,rfl⟩
theorem U6:aY Tryz.prog 107:=⟨_,Tryz.func107,am,rfl⟩
theorem K1:aY Tryz.prog 42:=⟨_,Tryz.func42,am,rfl⟩
theorem Qy {l:List Int} (a:aD bJ l v w) (y:l.length≤1099511627776):
 Calls Tryz.prog 195 #[v] w (aJ λr w'=>ao w w'∧aD bJ l r w'):=by
 have z:=a.len
 obtain⟨A,n,c,rfl⟩:=a.a9
 refine enter Tryz.func195 H H H (T (Z H (O (ah (T (J H (U H (Ds cd) (O (lQ H (λd=>?_) (λd=>?_))))))))))
 ·refine T (Z H (O (aA (aI (aM H ?_)))))
  have m:A=none:=by simpa using d
  have o:l=[]:=by
   have h:=a
   simp only[aD,Rp,List.cons.injEq,Value.slice.injEq,vP] at h
   obtain⟨_,C,u,⟨rfl,rfl,rfl⟩,i,x,_,j,_⟩:=h
   have:=j m
   exact gT (by rw[dN] at i;omega)
  subst o
  exact⟨_,H,ao.refl _,aD.nil _ _⟩
 ·refine aH (al (T ?_))
  obtain⟨v5,F,p,b,e⟩:=Cc (P:=Tryz.prog) (w:=w) (f:=bJ) cd MD
  refine dJ (vs:=[]) H p (J H ?_)
  obtain⟨D,G,q,s,g⟩:=A7 (ty:=22) e (a.aL b) dT (b).size
  refine dW H q ?_
  have t:=ao.a6 (b) g (e).ge
  refine Z H (O (aA (aM H ?_)))
  exact⟨_,H,t,by have k:=pr.bY s;exact k⟩
theorem aaA {inp:List Int} {l:cm} (a:dF inp=true):gl (⟨inp,List.replicate i li++[l]⟩:gF).ba=(decide (i≤63)&&fJ l.ba i):=by
 rw[←PM]
 show(dF inp&&_&&_)=(dF [1]&&_&&_)
 rw[a,show dF [1]=true from aF]
 rfl
theorem WG {inp:List Int} {l:cm} (h:j1 l.kd):∀k∈(⟨inp,List.replicate i li++[l]⟩:gF).ba.lays,j1 k.kd:=λm hm=>by
 obtain⟨k,a,rfl⟩:=fF.1 hm
 rcases oK.1 a with a|a
 ·rw[List.eq_of_mem_replicate a];show j1 5;unfold j1;omega
 ·obtain rfl:k=l:=by simpa using a
  exact h
theorem Nf {l:cm} {i:Int} (h:fJ l.ba i=true):j1 l.kd:=by
 have:=C0 h
 unfold j1
 omega
theorem Sz {inp:List Int} {shs:List (List Int)} {l:cm} {x:Value} {s:List Int} (g:aD bJ inp v w) (F:aD fN shs u w) (hx:aD dQ l.ws x w) (hy:aD dQ l.bs y w) (hs:ry l) (h0:dF inp=true) (aM:∀s∈shs,dF s=true) (n:qE (dy inp shs) shs.length l s):
 Calls Tryz.prog 107 #[v,u,.agg #[I l.kd,I l.fr,I l.ou,I l.kh,I l.kw,I l.sr,I l.pd,x,y]] w (aJ λr w'=>ao w w'∧je (aD bJ s) (Is (I 0)) r w'):=by
 refine enter (vs:=[v,u,.agg #[I l.kd,I l.fr,I l.ou,I l.kh,I l.kw,I l.sr,I l.pd,x,y]]) Tryz.func107 H H H ?_
 have aE:=n.le
 refine T (cE H H λg5 w5 l5 o k5=>(Z H (Z H (bB (J H (dY (r:=.agg #[v,.slice none 0 0]) H (by obtain⟨_,_,_,rfl⟩:=g.a9;exact run_build _ _ _ _ am) (cM vl H λg8 w8 W x8 k8=>cl H H k8 H eR (ay.a1 g.one (ay.a1 H ay.nil)) λbp a0 aN=>?_)))))))
 have ar:=ao.a2 (x8) a0 W
 refine O (ah (T (J H (aW H (bP gC (F.aL (o.ai ar))) (J H (O (aR (fp (λ(j:Nat) (z:Value)=>[(0,v),(1,u),(5,.pointer (some ⟨g5,0,none⟩)),(8,.pointer (some ⟨g8,0,none⟩)),(15,u),(16,I (shs.length:Int)),(17,I (j:Int))]) (λ(j:Nat) (z:Value) w'=>ao w5 w'∧j≤shs.length∧bm g8 25 [v,z] w'∧uk w5.heap.size (List.replicate j li) z w') (λ(j:Nat) (z:Value)=>shs.length-j) (0) (.slice none 0 0) (aP H) ⟨ar,G,aN,bC.nil _⟩ ?_))))))))
 rintro j z wA ⟨d,hj,K,b⟩
 refine ah ?_
 obtain⟨M,C⟩:∃M,M=List.replicate j li:=⟨_,rfl⟩
 rw[←C] at b
 have a9:M.length=j:=by rw[C,zw]
 refine ap (U H (bO) (O (ah (bc H (λaB=>?_) (λaB=>?_)))))
 ·refine aH (al (ah (aR (T ?_))))
  obtain⟨a7,a8,aX,aY,aj⟩:=bX (P:=Tryz.prog) (sz:=1) gC am lR G (F.aL (o.ai d)) (i:=j) (G) .i64
  obtain⟨ai,ak⟩:∃e,e=shs[j]'G:=⟨_,rfl⟩
  rw[←ak] at aj
  obtain⟨bG,rfl,az⟩:=mi aj
  refine bF H (aX _) (Y H (D cd H aY.cell0) (Z H (O (ah (T (J H (aC ye H H ((by have h:=xD (l:=ai) az;rw[show dF ai=true by rw[ak];exact aM _ (eK _)] at h;exact h)) ?_)))))))
  rintro bf a1 ⟨L,rfl⟩
  refine cP H cW (O (be H (aH (al (ap (c H (gE) (Y H (D dP H (L.a0 (K.cell (i:=1) H))) (dY (r:=.agg #[I 5,I 0,I 0,I 0,I 0,I 0,I 0,.slice none 0 0,.slice none 0 0]) H (by exact run_build _ _ _ _ am) ?_))))))))
  obtain⟨bg,bq,aG,ae,aw⟩:=CU (w:=a1) (wj (a:=(⟨5,0,0,0,0,0,0,[],[]⟩:cm)) (aD.nil _ _) (aD.nil _ _))
  refine dJ (vs:=[(0,.agg #[I 5,I 0,I 0,I 0,I 0,I 0,I 0,.slice none 0 0,.slice none 0 0])]) H aG ?_
  have A:=L.ai ae
  have e3:=((d.ai L).ai ae)
  obtain⟨bh,br,aI,X,N⟩:=Dh (ty:=23) (b.aL A) aw fZ e3.size
  refine dW H aI ?_
  have a2:=ao.a6 e3 N ((b.aL A)).ge
  have ba:=((b.aL A)).b3 N aF
  have an:=((K.aL L).aL ae)
  have R:=(an.a4 N.grown (cQ an (b.aL A)))
  refine c H (gE) (jQ H H R DO X.one H λbA ab aO=>?_)
  have a6:=ao.a2 (a2) ab W
  have aT:=Kq.br (p:=[3,3]) R (aS g.kd (aS b.kd dj)) ab
  refine f (bE (al (ap (U H cD (J H (f (eI (j+1) (_) (aP H) ⟨a6,G,aO,by rw[I0,←C];exact(bC.st A3 X aT ab (cQ R X).symm aF)⟩ G)))))))
 ·refine ce (aU (aU (cg (al (ah ?_)))))
  obtain rfl:j=shs.length:=by omega
  refine ap (c H (gE) (Y H (D dP H (K.cell (i:=1) H)) (Y H ((k5.aL d).ld dG H eJ) ?_)))
  obtain⟨bi,bs,aK,k,ax⟩:=CU (w:=wA) (wj (a:=l) (hx.aL (o.ai d)) (hy.aL (o.ai d)))
  refine dJ (vs:=[(0,.agg #[I l.kd,I l.fr,I l.ou,I l.kh,I l.kw,I l.sr,I l.pd,x,y])]) H aK ?_
  obtain⟨bj,bt,aL,aa,Q⟩:=Dh (ty:=23) (b.aL k) ax fZ ((d.ai k)).size
  refine dW H aL ?_
  have a3:=ao.a6 ((d.ai k)) Q ((b.aL k)).ge
  have bb:=((b.aL k)).b3 Q aF
  have aq:=(K.aL k)
  have S:=(aq.a4 Q.grown (cQ aq (b.aL k)))
  refine c H (gE) (jQ H H S DO aa.one H λbD ad aQ=>?_)
  have af:=ao.a2 (a3) ad W
  have aV:=Kq.br (p:=[3,3]) S (aS g.kd (aS b.kd dj)) ad
  refine O (ah (T (Y H (aQ.ld fz H eR) (aC z8 H H ((by have h:=zh (m:=(⟨inp,List.replicate shs.length li++[l]⟩:gF).ba) (g.aL (o.ai af)) (aD.lays.2 (by have h9:=uk.bY (bC.st A3 aa aV ad (cQ S aa).symm aF);rwa [C] at h9)) (Pk hs) (WG (Nf n.ok));rw[aaA h0,n.ok,dH aE] at h;exact h)) ?_))))
  rintro bk bu ⟨au,rfl⟩
  refine cP H cW (O (be H (aH (al (T (J H (J H (dY (r:=.agg #[v,u]) H (by obtain⟨_,_,_,rfl⟩:=F.a9;obtain⟨_,_,_,rfl⟩:=g.a9;exact run_build _ _ _ _ am) ?_))))))))
  have q:=(o.ai af).ai au
  refine Y H ((k5.aL (af.ai au)).ld dG H eJ) (aC UO H H ((RT (g.aL q) (F.aL q) (hx.aL q) n)) ?_)
  rintro bl bw ⟨a4,⟨bd,_,rfl,ag,rfl⟩⟩
  refine J H (aZ H dm (aZ H dn (Z H (Z H (O (ah (T (J H (cP H cW (J H (V H (J H (V H (aC ye H H ((by have h:=xD (l:=s) ag;rw[n.so] at h;exact h)) ?_))))))))))))))
  rintro bn bx ⟨av,rfl⟩
  refine V H (cP H cW (t H (O (be H (aH (al (T (J H (aC TM H H ((Qy (ag.aL av) (by have h9:=(vd n.so).1;omega))) ?_)))))))))
  rintro bo bz ⟨a5,hz⟩
  refine Z H (Z H (O (aA (dt H ?_))))
  exact⟨_,H,(((q.ai a4).ai av).ai a5),_,_,H,hz,H⟩
theorem Z5 {inp:List Int} {shs:List (List Int)} (a:j≤i) (hi:i≤shs.length):dy inp (shs.take i) j=dy inp shs j:=by
 cases j with
 |zero=>rfl
 |succ k=>rw[lY (by rw[eS];omega),lY G,List.getElem_take]
theorem JI {M:gF} {shs:List (List Int)} {x:Value} (W:aD bJ M.inp x w) (A:aD fS M.lays y w) (a:mh M shs):
 Calls Tryz.prog 42 #[.agg #[x,y]] w (aJ λr w'=>ao w w'∧Fp (aD fN shs) (Is (I 0)) (Is (I 0)) r w'):=by
 refine enter (vs:=[.agg #[x,y]]) Tryz.func42 H H H ?_
 have aK:=a.n
 have an:=a.l
 have V:∀l∈M.lays,ry l:=λl S=>⟨y8 (a.b l S).w1,y8 (a.b l S).b1⟩
 have ai:∀k∈M.ba.lays,j1 k.kd:=λm hm=>by
  obtain⟨k,hk,rfl⟩:=fF.1 hm
  obtain⟨i,hi,rfl⟩:=BF hk
  exact Nf (a.p.2 i _ G (fy hi)).ok
 refine T (cE H H λg1 w1 l1 x1 C=>(Z H (Z H (Z H (O (ah (T (Y H (C.ld fz H eR) (aC z8 H H ((by have h:=zh (m:=M.ba) (W.aL x1) (aD.lays.2 (A.aL x1)) (smM V) ai;rw[a.v] at h;exact h)) ?_)))))))))
 rintro aM aS ⟨p,rfl⟩
 refine cP H cW (O (be H (aH (al (T (Z H (O (ah (T (c H (gE) (Y H (D dP H (p.a0 (C.cell (i:=1) H))) (aW H (bP dP (A.aL (x1.ai p))) (J H (O (aR (fp (λ(i:Nat) (u:Value)=>[(1,.pointer (some ⟨g1,0,none⟩)),(5,u),(14,y),(15,I (M.lays.length:Int)),(16,I (i:Int))]) (λ(i:Nat) (u:Value) w'=>ao w w'∧bm g1 25 [x,y] w'∧i≤M.lays.length∧lJ w.heap.size (shs.take i) u w') (λ(i:Nat) (u:Value)=>M.lays.length-i) (0) (.slice none 0 0) (aP H) ⟨(x1.ai p),(C.aL p),G,bC.nil _⟩ ?_))))))))))))))))
 rintro i u wA ⟨o,aa,hi,d⟩
 refine ah ?_
 obtain⟨q,g⟩:∃q,q=shs.take i:=⟨_,rfl⟩
 rw[←g] at d
 have ag:q.length=i:=by rw[g,eS];omega
 refine ap (U H (bO) (O (ah (bc H (λaf=>?_) (λaf=>?_)))))
 ·refine aH (al (ah (aR (T (J H ?_)))))
  obtain⟨aG,aI,av,aw,R⟩:=bX (P:=Tryz.prog) (sz:=9) dP am ym G (A.aL o) (i:=i) (G) .i64
  obtain⟨ae,z⟩:∃e,e=M.lays[i]'G:=⟨_,rfl⟩
  rw[←z] at R
  obtain⟨a0,a1,rfl,N,Q⟩:=yk R
  refine bF H (av _) (Y H (aw.ld dG H eJ) (cM xC H λg7 w7 l7 x7 k7=>(Z H (cl H H k7 H eJ (ay.a1 H (ay.a1 H (ay.a1 H (ay.a1 H (ay.a1 H (ay.a1 H (ay.a1 H (ay.a1 N.one (ay.a1 Q.one ay.nil))))))))) λaY ax ar=>?_))))
  have b:=ao.a2 (x7) ax l7
  refine bB (c H (jt) (Y H (D cd H (b.a0 (aa.cell (i:=0) H))) (J H (Y H (ar.ld dG H eJ) (aC U6 H H ((by have v:=Sz (s:=shs[i]) (l:=ae) (W.aL (o.ai b)) (lJ.bY (d.aL b)) (N.aL b) (Q.aL b) (V _ (by rw[z];exact eK _)) a.i0 (λs hs=>a.p.all s (zy (by rw[g] at hs;exact hs))) (by rw[ag,z,←lY (inp:=M.inp)];exact(a.p.2 i _ G (fy G)).congr λj hj=>by rw[g];exact(Z5 G G));exact v)) ?_)))))
  rintro aN aB ⟨F,⟨az,_,rfl,ab,rfl⟩⟩
  refine J H (aZ H dm (aZ H dn (Z H (Z H (O (ah (T (J H (U H (aX G dZ) (O (be H (aH (al (ap (J H (J H ?_))))))))))))))))
  obtain⟨aO,aT,aj,K,ad⟩:=CT (w:=aB) ab
  refine dJ (vs:=[(0,az)]) H aj ?_
  have n:=(b.ai F).ai K
  have L:=(((o.ai b).ai F).ai K)
  obtain⟨aQ,aV,ak,au,t⟩:=Dg (ty:=80) (d.aL n) ad fZ L.size
  refine dW H ak ?_
  have aE:=ao.a6 L t ((d.aL n)).ge
  have aL:=((d.aL n)).b3 t aF
  refine Z H (f (bE (al (ap (U H cD (J H (f ?_)))))))
  have X:=(((aa.aL b).aL F).aL K)
  have aq:=(X.a4 t.grown (cQ X (d.aL n)))
  refine eI (i+1) (_) (aP H) ⟨aE,aq,G,by rw[fi G,←g];exact au⟩ G
 ·refine ce (aU (aU (cg (al (ah ?_)))))
  obtain rfl:i=M.lays.length:=by omega
  refine ap (J H (Z H (Z H (Z H (O (aA (sW H ?_)))))))
  exact⟨_,H,o,_,_,_,H,by have v:=lJ.bY d;rwa [g,←an,fL] at v,H,H⟩
section
variable {P:Program} {ops:Array Oper} {Env:World→Prop} {Rl:World→World→Prop} {mo:Bool} {Pn:List PanicEntry→World→Prop} {N:Nat}
def DS (ops:Array Oper) (n:Nat):Bool:=
 (List.range n).all λi=>decide (i=0)||(List.range (n+1)).any λj=>decide (i<j)&&Region.waitsFor .any ops j i
theorem aam {listed:Array Bool} (hs:DS ops n=true) (x:uC ops n=true) (m:HeadInv .any ops n listed):
 ∀(d i:Nat),n-i=d→0<i→i<n→listed.getD i true=false→∀t,n≤t→t∉Region.ready .any ops listed:=by
 intro d
 induction d using Nat.strongRecOn with
 |_ d D=>
  intro i J F hi u t L s
  obtain⟨_,w,l,o⟩:=mem_ready.1 s
  have A:t<ops.size:=(jB.1 l).1
  by_cases C:t=n
  ·subst C
   have a:=kR.1 hs i (jD.2 hi)
   simp only[xG,gI] at a
   obtain⟨j,k,c⟩:=zp.1 (a.resolve_left G)
   simp only[ex,gI] at c
   obtain⟨v,r,e,g,f,h⟩:=Region.waitsFor_spec c.2
   have K:j≤t:=by have:=jD.1 k;omega
   by_cases p:j=t
   ·subst p
    have:v=w:=cC (r.symm.ai l)
    subst this
    have b:=o e g f
    rw[h,getD_both u] at b
    cases b
   ·cases q:listed.getD j false with
    |true=>
     have b:=m.closed j v r q e g f
     rw[h,getD_both u] at b
     cases b
    |false=>
     have y:j<listed.size:=by rw[m.size];omega
     exact D (t-j) G j H G G (getD_in y q) t (bV _) s
  ·have a:=kR.1 x t (jD.2 A)
   simp only[xG,gI] at a
   rcases a with a|a
   ·omega
   ·obtain⟨j,k,c⟩:=zp.1 a
    simp only[ex,gI] at c
    have p:=jD.1 k
    obtain⟨o',z,e,g,f,h⟩:=Region.waitsFor_spec c.2
    have:o'=w:=cC (z.symm.ai l)
    subst this
    have b:=o e g f
    rw[h,getD_both (m.tail j c.1 G)] at b
    cases b
theorem aaL {a:Oper} {S:cT} {L:Array Bool→dO→ee→Prop} (hi:ops[i]? =some a) (g:mo=true→nE .any ops=true)
 (hs:DS ops n=true) (d:uC ops n=true) (k:0<i) (c:i<n)
 (h:∀listed F Z,L listed F Z→∀j∈Region.ready .any ops listed,n≤j):
 ∀(f:Nat) (listed:Array Bool) (F:dO) (Z Z':ee),HeadInv .any ops n listed→
  (∀j b,ops[j]? =some b→j≠i→listed.getD j true=false→(∀e∈b.after,Region.binds .any e=true→e.on≠i)→a.apart ops b=true)→
  i∈Region.ready .any ops listed→GStep P ops Env Rl mo Pn N F Z a S Z'→
  pj P .any ops Env Rl mo Pn N n L f (listed.setIfInBounds i true) (di F a.dst S) Z'→pj P .any ops Env Rl mo Pn N n L (f+1) listed F Z:=
 Ig hi g c (λ_ o m t l=>aam hs d o _ i rfl k c m t l) h
theorem P4 {n:Nat} {perm:List Nat} {Lq:dO→ee→Prop} (f:mo=true→nE .any ops=true) (hs:DS ops n=true) (e:uC ops n=true):
 ∀(l:List Oper) (k:Nat) (listed:Array Bool) (F:dO) (Z:ee),0<k→(∀j,j<l.length→l[j]? =ops[k+j]?)→k+l.length=n→HeadInv .any ops n listed→
 tS ops n perm l.length k listed=true→(∀t,eG Rl (F t))→ig Z→cj P ops Env Rl mo Pn N l F Z Lq→
 pj P .any ops Env Rl mo Pn N n (λb c Z'=>(xc ops perm b=true∧(Region.ready .any ops b).all (λj=>decide (n≤j))=true)∧Lq c Z') l.length listed F Z
 |[],k,listed,F,Z,_,_,hk,_,hB,_,_,h=>by
  simp only[c8,tS,ex] at hB
  exact⟨hB,h⟩
 |o::l,k,listed,F,Z,s,hl,hk,inv,hB,hF,hZ,h=>by
  have d:ops[k]? =some o:=by simpa using(hl 0 aj).symm
  simp only[cw,tS,ex] at hB
  obtain⟨⟨u,r⟩,p⟩:=hB
  have i:k<n:=by simp only[cw] at hk;omega
  have m:k∈Region.ready .any ops listed:=by simpa using u
  obtain⟨S,Z',a,v⟩:=h hF hZ
  exact aaL d f hs e s i (λb c Z' q j g=>by simpa using kR.1 q.1.2 j g) l.length listed F Z Z' inv (Region.free_spec d r) m a
   (P4 f hs e l (k+1) _ _ _ G (λj g=>by have:=hl (j+1) dT;simpa [pm,rP 1 j] using this) (by simp only[cw] at hk;omega) (inv.set m i) p (DW hF a.a3) (a.dz hZ) v)
def Mr (ops:Array Oper) (n:Nat) (perm:List Nat):Bool:=
 Region.noSelect ops&&decide (0<n)&&decide (n<ops.size)&&DS ops n&&uC ops n&&decide (n+perm.length=ops.size)&&Region.free .any ops (Array.replicate ops.size false) 0&&(Region.ready .any ops (Array.replicate ops.size false)).contains 0&&tS ops n perm (n-1) 1 ((Array.replicate ops.size false).setIfInBounds 0 true)
theorem FD {Q:eV} {D:List Deferred} {l:Fr} {id d:Nat} {x:Operand} {pos:String} {aft:Array Edge} {os:List Oper} (n:Nat) (perm:List Nat) (ts:List Nat) (hm:P.follows .mixedOrders=true)
 (q:Mr ((⟨some d,.move x,ty,pos,aft,none⟩:Oper)::os).toArray n perm=true) (b:(perm.all λi=>decide (i<os.length+1))=true) (hx:ev l x=some v) (R:Nat.blt d N=true)
 (h:cj P ((⟨some d,.move x,ty,pos,aft,none⟩:Oper)::os).toArray (ao w) ao false rV N (os.take (n-1)) (iU ((d,v)::l)) (λ_=>True) (λF _=>∀w',ao w w'→kU F w' ts (λl'=>bK P ((⟨some d,.move x,ty,pos,aft,none⟩:Oper)::os).toArray (gn Q) N D l' w' (nk ((⟨some d,.move x,ty,pos,aft,none⟩:Oper)::os) perm)))):dS P Q N D l w (.region id ((⟨some d,.move x,ty,pos,aft,none⟩:Oper)::os).toArray true):=λa z=>by
 obtain⟨o,m⟩:∃o:Oper,o=⟨some d,.move x,ty,pos,aft,none⟩:=⟨_,rfl⟩
 rw[←m] at q h⊢
 have r:=z.put R v
 have s:lL N D (iU ((d,v)::l)) (a.put (some d) v) {w with drawn:=w.drawn+1}:=⟨r.size,r.defers,λt=>by
  show iU ((d,v)::l) t ((a.put (some d) v).tmps.getD t undef) _
  unfold iU
  cases u:lk ((d,v)::l) t with
  |some v=>exact r.at_ t v u
  |none=>trivial⟩
 simp only[Mr,ex,gI] at q
 obtain⟨⟨⟨⟨⟨⟨⟨⟨K,ah⟩,hn⟩,hs⟩,O⟩,X⟩,T⟩,J⟩,Y⟩:=q
 have ag:n<os.length+1:=by simpa using hn
 have p:(os.take (n-1)).length=n-1:=dT
 have L:(o::os).toArray[0]? =some o:=aj
 have af:HeadInv .any (o::os).toArray n (Array.replicate (o::os).toArray.size false):=
  ⟨aj,λj oj _ C=>(by rw[getD_replicate_false] at C;cases C),λt _ ht=>getD_in (by simpa using ht) (getD_replicate_false _ _)⟩
 have ab:0∈Region.ready .any (o::os).toArray (Array.replicate (o::os).toArray.size false):=by simpa using J
 have H:=P4 (perm:=perm) (λh=>by cases h) hs O (os.take (n-1)) 1 _ _ _ G (λj A=>by
  have U:j<n-1:=by rw[p] at A;exact A
  simp[U,rP 1 j]) (by rw[p];omega) (af.set ab G) (by rw[p];exact Y) (ww _) ig.dg (tm _ _ _ (λF Z M f w' k hs=>by
   obtain⟨l',W,V⟩:=kU.use hs (M w' k)
   exact V f W:∀F (Z:ee),_→(∀f w',ao w w'→lL N D F f w'→wpList P (o::os).toArray (gn Q) (nk (o::os) perm) f w')) h)
 have aa:∀(perm:List Nat),(perm.all λi=>decide (i<(o::os).length))=true→(perm.map λi=>(o::os).toArray[i]?)=(nk (o::os) perm).map some:=by
  intro perm
  induction perm with
  |nil=>intro _;rfl
  |cons i is ih=>
   intro b
   simp only[xI,ex,gI] at b
   have e:(o::os)[i]? =some (o::os)[i]:=fy b.1
   simp only[iy,nk,e,nV]
   rw[←ih b.2]
   simp
 have rest:=Br (D:=D) (Q':=gn Q) (l0:=[]) (g:=perm.length) (ki.plain w) (λ_ _ _ _ _ _ h=>h.elim) (λ_ _ _ _ _ _ _ b=>by cases b) (λlisted F Z y hF hZ f w' k s hz=>D8 K perm (nk (o::os) perm) listed f w' (aa perm (by simpa using b)) y.1.1 (y.2 f w' k s)) _ _ _ _ H (ww _) ig.dg (a.put (some d) v) {w with drawn:=w.drawn+1} ⟨rfl,rfl,rfl,bV _,λ_ _=>rfl⟩ s (λ_ b=>by cases b) trivial
 rw[p] at rest
 refine wp_mono (wp_region_any (Q:=gn Q) hm ?_) λe a w k=>by obtain⟨rfl,h⟩:=k;exact h
 have ad:(o::os).toArray.size=(n-1+perm.length)+1:=by rw[←X];omega
 rw[show wpAny P .any (o::os).toArray (gn Q) (o::os).toArray.size=wpAny P .any (o::os).toArray (gn Q) ((n-1+perm.length)+1) by rw[ad]]
 have ae:(∀w':World,(execOp a.eval o).run P w'=.ok (.value v) w'):=λw'=>by
  rw[m]
  have u:a.eval x=v:=z.ev hx
  simp[execOp,u]
 have S:o.dst=some d:=by rw[m]
 exact wpAny_take L K T J (λc a w b=>by obtain⟨b,_⟩:=b;cases b) (.inl ⟨by rw[m];rfl,ae⟩) (by rw[S];exact rest)
end
theorem F3:aY Tryz.prog 35:=⟨_,Tryz.func35,am,rfl⟩
theorem K8:aY Tryz.prog 36:=⟨_,Tryz.func36,am,rfl⟩
theorem Lb:aY Tryz.prog 37:=⟨_,Tryz.func37,am,rfl⟩
theorem DV:(Tryz.prog.info? 86).map (·.size)=some 1:=by kernel_rfl
def WrE (base g:Nat) (l:List UInt8) (v:Value) (w:World) (w':World):Prop:=∃v',jI 86 base g l v' w'∧iQ g v w v' w'
theorem tI {n:Int} (h:j1 n):1≤(encI n).length∧(encI n).length≤10:=⟨H7 _,rD (Qc h.1 h.2)⟩
theorem LQ {q:df} (c:q.2.1.length≤1073741824) (d:q.2.2.length≤1073741824):1≤(tJ q).length∧(tJ q).length≤21+4*q.2.1.length+4*q.2.2.length:=by
 have a:=Gh q.2.1 G
 have b:=Gh q.2.2 G
 simp only[tJ,oW,cr,cw,c8]
 omega
def gX:List df→Nat
 |[]=>0
 |q::l=>21+4*q.2.1.length+4*q.2.2.length+gX l
theorem Xn {l:List df} (hi:i<l.length):gX (l.drop i)=21+4*l[i].2.1.length+4*l[i].2.2.length+gX (l.drop (i+1)):=by
 rw[lE hi];rfl
theorem yx {α β:Type} {f:α→List β} {l:List α} (hi:i<l.length):(l.take (i+1)).flatMap f=(l.take i).flatMap f++f l[i]:=by
 rw[fi hi,IT,List.flatMap_singleton]
theorem Fv {b:Nat} {l:List UInt8} (d:jI 86 b g l v w) (i:b≤w.heap.size) (t:l.length≤35184372088832) (u:n≤9223372036854775807):
 Calls Tryz.prog 35 #[.pointer (some ⟨g,0,none⟩),I (n:Int)] w (aJ λ_ w'=>WrE b g (l++uv n) v w w'):=by
 refine enter Tryz.func35 H H H ?_
 have q:=d.blk
 have p:(UInt64.ofNat n).toNat=n:=by rw[jo];omega
 refine FD 7 [7,8,9] [4,7,10] am am H H H (W H (ji H (aQ H (λw a=>D qG H (a.a0 q.k0)) (W H (mD H H (λw a=>yX aE cU) (my (S:=cV (uv n)) TF (cV.a3 _) H H H (λw a=>aJ.mono (Qn (n:=UInt64.ofNat n) (cV.nil _) aj) λv w' h=>⟨h.1,by have:=h.2.b8;rwa [p,qB] at this⟩) (cq ?_)))))))
 rintro F c _ rfl _ k
 obtain rfl:=bU k
 intro z e
 have x:=H7 n
 have y:=rD (n:=n) G
 obtain⟨s,A,C,m,o,j,r⟩:=jI.put (ty:=86) qG DV iB (d.aL c) (cf i c.size) e G G
 refine dW H m (dq H (cZ H (o) (f (wU (pL H ?_)))))
 exact⟨_,H,s,j,(iQ.a8 c).ai r⟩
theorem J2 {b:Nat} {l:List UInt8} {nv:Value} (y:jI 86 b g l v w) (t:b≤w.heap.size) (q:ck (zQ g v) w (sk ns) [nv]) (C:∀n∈ns,j1 n) (hl:l.length+10*ns.length≤35184372088832):
 Calls Tryz.prog 36 #[.pointer (some ⟨g,0,none⟩),nv] w (aJ λ_ w'=>WrE b g (l++ns.flatMap encI) v w w'):=by
 refine enter Tryz.func36 H H H ?_
 have p:aD bJ ns nv w:=q.rp
 have af:=p.len
 refine T (J H (aW H (bP Tryz.underlying22 p) (J H (O (aR (fp (λ(i:Nat) (u:Value)=>[(0,.pointer (some ⟨g,0,none⟩)),(6,nv),(7,I (ns.length:Int)),(8,I (i:Int))]) (λ(i:Nat) (u:Value) w'=>jI 86 b g (l++(ns.take i).flatMap encI) u w'∧iQ g v w u w'∧i≤ns.length∧((ns.take i).flatMap encI).length≤10*i) (λ(i:Nat) (u:Value)=>ns.length-i) (0) (v) (aP H) ⟨by simpa using y,iQ.refl,G,aj⟩ ?_))))))
 rintro i u wL ⟨a,d,hi,ae⟩
 refine T (U H (bO) (O (ah (bc H (λx=>?_) (λx=>?_)))))
 ·have A:aD bJ ns nv wL:=(q.step d).rp
  refine aH (al (ah (aR (T ?_))))
  obtain⟨aa,ab,Q,R,o⟩:=bX (P:=Tryz.prog) (sz:=1) cd am el G A (i:=i) G .i64
  obtain⟨j,c⟩:∃e,e=ns[i]'G:=⟨_,rfl⟩
  rw[←c] at o
  obtain rfl:=er o
  refine bF H (Q _) ?_
  have k:=C j (by rw[c];exact eK _)
  have ad:=tI k
  refine Y H (D aE H R.cell0) (Z H (O ?_))
  have N:=a.blk
  refine FD 6 [6,7,8] [0,6,7,8,12,15,17] am am H H H (W H (ji H (aQ H (λw r=>D qG H (r.a0 N.k0)) (W H (my (S:=cV (encI j)) TD (cV.a3 _) H H H (λw r=>aJ.mono (Ql (n:=j) (cV.nil _) aj k.1 k.2) λv w' h=>⟨h.1,by have:=h.2.b8;rwa [qB] at this⟩) (cq ?_))))))
  rintro an m _ rfl _ K
  obtain rfl:=bU K
  rintro _ rfl _ rfl _ rfl _ F
  obtain rfl:=bU F
  intro ag s
  obtain⟨X,ai,ak,L,M,z,V⟩:=jI.put (ty:=86) Tryz.underlying86 DV Tryz.underlying28 (a.aL m) (cf t (cf d.mv.size m.size)) s G (by simp only[cr];omega)
  refine dW H L (dq H (cZ H (M) (f (wU (bE (al (ap (U H cD (J H (f (eI (i+1) (X) (aP H) ⟨by rw[yx G,←c,←fh];exact z,(d.ai (iQ.a8 m)).ai V,G,by rw[yx G,←c,cr];omega⟩ G)))))))))))
 ·refine ce (aU (aU (cg (pL H ?_))))
  exact⟨_,H,u,by rw[fG G] at a;exact a,d⟩
theorem J5 {b:Nat} {l:List UInt8} {a:List df} {j:Value} (L:jI 86 b g l v w) (x:b≤w.heap.size) (q:ck (zQ g v) w (nb a) [j]) (hs:lB a) (hl:l.length+gX a≤17592186044416):
 Calls Tryz.prog 37 #[.pointer (some ⟨g,0,none⟩),j] w (aJ λ_ w'=>WrE b g (l++yr a) v w w'):=by
 refine enter Tryz.func37 H H H ?_
 have z:aD dK a j w:=q.rp
 have au:=z.len
 refine T (J H (J H (aW H (bP cn z) (aC F3 H H ((Fv L x G G)) ?_))))
 rintro v9 w9 ⟨v9,N,C⟩
 have R:aD dK a j w9:=(q.step C).rp
 refine bB (J H (aW H (bP Tryz.underlying42 R) (J H (O (aR (fp (λ(i:Nat) (u:Value)=>[(0,.pointer (some ⟨g,0,none⟩)),(10,j),(11,I (a.length:Int)),(12,I (i:Int))]) (λ(i:Nat) (u:Value) w'=>jI 86 b g (l++uv a.length++(a.take i).flatMap tJ) u w'∧iQ g v w u w'∧i≤a.length∧((a.take i).flatMap tJ).length+gX (a.drop i)≤gX a) (λ(i:Nat) (u:Value)=>a.length-i) (0) (v9) (aP H) ⟨by simpa using N,C,G,aj⟩ ?_))))))
 rintro i u wL ⟨c,k,hi,ar⟩
 refine T (U H (bO) (O (ah (bc H (λK=>?_) (λK=>?_)))))
 ·have Q:aD dK a j wL:=(q.step k).rp
  refine aH (al (ah (aR (T ?_))))
  obtain⟨ak,an,ad,ae,y⟩:=bX (P:=Tryz.prog) (sz:=3) cn am py G Q (i:=i) G .i64
  obtain⟨o,m⟩:∃e,e=a[i]'G:=⟨_,rfl⟩
  rw[←m] at y
  obtain⟨aF,aG,rfl,s,t⟩:=su y
  refine bF H (ad _) ?_
  have A:=hs o (by rw[m];exact eK _)
  have aq:=LQ A.1 A.2
  have av:gX (a.drop i)=21+4*o.2.1.length+4*o.2.2.length+gX (a.drop (i+1)):=by rw[Xn G,←m]
  refine Y H (ae.ld bI H bW) (cM iH H λg5 w5 l5 x5 k5=>cl H H k5 H bW (ay.a1 H (ay.a1 s.one (ay.a1 t.one ay.nil))) λaB af ab=>?_)
  have p:=ao.a2 (x5) af l5
  refine O ?_
  have c:=c.aL (p)
  have k:=k.ai (iQ.a8 (p))
  have kg:=c.blk
  refine FD 6 [6,7,8] [0,10,11,12,16,19,21] am am H H H (W H (ji H (aQ H (λw d=>D Tryz.underlying86 H (d.a0 kg.k0)) (aQ H (λw d=>(ab.aL d).ld Tryz.underlying49 H bW) (my (S:=cV (tJ o)) TE (cV.a3 _) H H H (λw d=>aJ.mono (Qm (cV.nil _) (bQ.mk ((s.aL p).aL d) ((t.aL p).aL d)) (by simp only[c8];omega)) λv w' h=>⟨h.1,by have:=h.2.b8;rwa [qB] at this⟩) (cq ?_))))))
  rintro aE r _ rfl _ V
  obtain rfl:=bU V
  rintro _ rfl _ rfl _ rfl _ X
  obtain rfl:=bU X
  intro ax F
  have aw:=rD (n:=a.length) G
  obtain⟨ai,az,aA,Z,aa,M,ag⟩:=jI.put (ty:=86) Tryz.underlying86 DV Tryz.underlying28 (c.aL r) (cf x (cf k.mv.size r.size)) F G (by simp only[cr];omega)
  refine dW H Z (dq H (cZ H (aa) (f (wU (bE (al (ap (U H cD (J H (f (eI (i+1) (ai) (aP H) ⟨by rw[yx G,←m,←fh];exact M,(k.ai (iQ.a8 r)).ai ag,G,by rw[yx G,←m,cr];omega⟩ G)))))))))))
 ·refine ce (aU (aU (cg (pL H ?_))))
  exact⟨_,H,u,by rw[fG G,fh] at c;exact c,k⟩
theorem Qb:(Tryz.prog.info? 312).map (·.zero)=some (some (.agg (List.replicate 64 (bz 0)).toArray)):=by kernel_rfl
theorem Pe:(Tryz.prog.info? 312).map (·.size)=some 64:=by kernel_rfl
theorem si:aY Tryz.prog 262:=⟨_,Tryz.func262,am,rfl⟩
theorem Vk:aY Tryz.prog 263:=⟨_,Tryz.func263,am,rfl⟩
theorem th {w:World} {x:UInt32} (n:Nat) (c:0<n) (a:n<32):
 Calls Tryz.prog 262 #[bz x,I (n:Int)] w (aJ λr w'=>ao w w'∧r=bz (j7 x n)):=by
 refine enter Tryz.func262 H H H (T (Z H (O (ah ?_))))
 have e:(32:Int)-(n:Int)=((32-n:Nat):Int):=G
 refine cz 8 [12] am am (W H (W H (bn H (λw _=>oz n a) (W H (W H (bn (r:=I ((32-n:Nat):Int)) H (λw _=>by rw[←e];exact dM) (bn H (λw _=>uV (32-n) G) (bn H (λw _=>tY) (cq ?_)))))))))
 rintro w' b _ rfl
 refine Z H (O (aA (aM H ?_)))
 exact⟨_,H,b,H⟩
theorem VJ (w:World):
 Calls Tryz.prog 263 #[] w (aJ λr w'=>ao w w'∧r=.agg (kc.map bz).toArray):=by
 refine enter Tryz.func263 H H H (ar (fY H (Dn Qb) (bB (dY H (run_build _ _ _ (kc.map bz).toArray am) ?_))))
 have a:=bm.new (w:=w) (T:=312) (.agg (List.replicate 64 (bz 0)).toArray) rfl
 refine cZ H (uW a H Pe (De _)) (O (aA (pW H H (a.row _) JS H Pe (⟨_,H,?_,H⟩))))
 exact(ao.new w _).a7 (pD _ _ _) λk b=>by
  obtain rfl:=cC b
  exact bV _
theorem aaS:(Tryz.prog.info? 254).map (·.zero)=some (some (.agg (List.replicate 8 (bz 0)).toArray)):=by kernel_rfl
theorem Bi:(Tryz.prog.info? 254).map (·.size)=some 8:=by kernel_rfl
section
variable {w:World} {g o:Nat} {T:TypeId}
theorem lW (i:Nat) (hi:i<8):(Instr.indexAt 254 (.pointer (some ⟨g,0,none⟩)) (I (i:Int))).run Tryz.prog w=.ok (.pointer (some ⟨g,i,none⟩)) w:=by
 have:=yW (P:=Tryz.prog) (w:=w) (g:=g) (o:=0) BX nt hi .i64
 rwa [gB] at this
theorem xk (i:Nat) (hi:i<64):(Instr.indexAt 312 (.pointer (some ⟨g,0,none⟩)) (I (i:Int))).run Tryz.prog w=.ok (.pointer (some ⟨g,i,none⟩)) w:=by
 have:=yW (P:=Tryz.prog) (w:=w) (g:=g) (o:=0) JS nt hi .i64
 rwa [gB] at this
theorem j5 (h:bm g T (m.map bz) w) (i:Nat) (hi:i<m.length):(Instr.loadAt 253 (.pointer (some ⟨g,i,none⟩))).run Tryz.prog w=.ok (bz (m.getD i 0)) w:=
 D Tryz.underlying253 rfl (h.cell (by simp[hi]))
theorem Oi {x:UInt32} (h:bm g T (m.map bz) w) (i:Nat) (hi:i<m.length):(Instr.storeAt 253 (.pointer (some ⟨g,i,none⟩)) (bz x)).run Tryz.prog w=.ok () (w.setCell ⟨g,i,none⟩ (bz x)):=
 pZ nt rfl h (by simpa using hi)
theorem bm.dE (h:bm g T (m.map bz) w) (i:Nat) (x:UInt32):bm g T ((m.set i x).map bz) (w.setCell ⟨g,i,none⟩ (bz x)):=by
 have:=h.set i (bz x)
 rwa [←zx] at this
end
def lf (l:List UInt32):List UInt32:=l++List.replicate (64-l.length) 0
theorem Mm (h:l.length≤64):(lf l).length=64:=by simp[lf];omega
theorem CB (h:i<l.length):(lf l).getD i 0=l.getD i 0:=by
 simp[lf,List.getD,vu h]
theorem Mn (x:UInt32) (h:l.length<64):(lf l).set l.length x=lf (l++[x]):=by
 unfold lf
 rw[vx _ _ (bV _),BP]
 have:64-l.length=(64-(l++[x]).length)+1:=dT
 rw[this,EJ,I1,fh]
 rfl
theorem aaI (b:List UInt8) (k:Nat):qj b (k+1)=qj b k++[uc b k]:=by simp[qj,BI]
theorem If (b:List UInt8) (k:Nat):(qj b k).length=k:=by simp[qj]
def qI (s v:List UInt32) (i:Nat):List UInt32:=List.zipWith (· + ·) (s.take i) (v.take i)++s.drop i
theorem S0 {s v:List UInt32} (hs:s.length=8) (a:v.length=8) (hi:i<8):(qI s v i).getD i 0=s.getD i 0:=by
 have h:(List.zipWith (· + ·) (s.take i) (v.take i)).length=i:=by simp[hs,a];omega
 simp only[qI,mU]
 rw[rN G,h]
 simp
theorem S1 {s v:List UInt32} (hs:s.length=8) (a:v.length=8) (hi:i<8):(qI s v i).set i (s.getD i 0+v.getD i 0)=qI s v (i+1):=by
 have h:(List.zipWith (· + ·) (s.take i) (v.take i)).length=i:=by simp[hs,a];omega
 have b:s.getD i 0=s[i]:=by simp[List.getD,hs,hi]
 have c:v.getD i 0=v[i]:=by simp[List.getD,a,hi]
 unfold qI
 rw[vx _ _ G,h,BP,b,c]
 rw[lE (by omega:i<s.length),I1,fi (by omega:i<s.length),fi (by omega:i<v.length)]
 rw[List.zipWith_append (by simp[hs,a])]
 simp
theorem SZ {s v:List UInt32} (hs:s.length=8) (d:v.length=8):qI s v 8=List.zipWith (· + ·) s v:=by
 have a:s.take 8=s:=fG G
 have b:v.take 8=v:=fG G
 have c:s.drop 8=[]:=EC G
 unfold qI
 rw[a,b,c,jU]
theorem YE {t:TypeId} {l:List Value} (a:v.cells=l.toArray):∃g w',(Instr.box t v).run P w=.ok (.pointer (some ⟨g,0,none⟩)) w'∧w.heap.size≤g∧ao w w'∧bm g t l w':=
 ⟨_,_,uQ,bV _,ao.new w _,bm.new v a⟩
theorem cV.reads {b:List UInt8} (h:cV b v w):∃ad:Nat→Addr,∀i,i<b.length→
 (∀w':World,(Instr.indexAt 28 v (I (i:Int))).run Tryz.prog w'=.ok (.pointer (some (ad i))) w')∧∀w',ao w w'→(Instr.loadAt 5 (.pointer (some (ad i)))).run Tryz.prog w'=.ok (U8 (b.getD i 0)) w':=by
 have c:∀i:Nat,∃ad:Addr,i<b.length→(∀w':World,(Instr.indexAt 28 v (I (i:Int))).run Tryz.prog w'=.ok (.pointer (some ad)) w')∧∀w',ao w w'→(Instr.loadAt 5 (.pointer (some ad))).run Tryz.prog w'=.ok (U8 (b.getD i 0)) w':=λi=>by
  by_cases hi:i<b.length
  ·obtain⟨ad,a,k⟩:=rn h hi .i64
   refine⟨ad,λ_=>⟨a,λw' g=>?_⟩⟩
   obtain⟨j,d,f⟩:=rn (h.aL g) hi .i64
   have:=(a w').symm.ai (d w')
   simp only[Result.ok.injEq,Value.pointer.injEq,Option.some.injEq,vP] at this
   subst this
   have e:b.getD i 0=b[i]:=by simp[List.getD,hi]
   rw[e]
   exact N9 f
  ·exact⟨⟨0,0,none⟩,λh=>absurd h hi⟩
 exact⟨λi=>Classical.choose (c i),λi hi=>Classical.choose_spec (c i) hi⟩
theorem Eb:(Tryz.prog.info? 90).map (·.zero)=some (some (.agg (List.replicate 32 (U8 0)).toArray)):=by kernel_rfl
theorem DU:(Tryz.prog.info? 90).map (·.size)=some 32:=by kernel_rfl
section
variable {w:World} {g o:Nat} {T:TypeId}
theorem Dy (i:Nat) (hi:i<32):(Instr.indexAt 90 (.pointer (some ⟨g,0,none⟩)) (I (i:Int))).run Tryz.prog w=.ok (.pointer (some ⟨g,i,none⟩)) w:=by
 have:=yW (P:=Tryz.prog) (w:=w) (g:=g) (o:=0) uw pi hi .i64
 rwa [gB] at this
theorem Bg {m:List UInt8} {x:UInt8} (h:bm g T (m.map U8) w) (i:Nat) (hi:i<m.length):(Instr.storeAt 5 (.pointer (some ⟨g,i,none⟩)) (U8 x)).run Tryz.prog w=.ok () (w.setCell ⟨g,i,none⟩ (U8 x)):=
 pZ pi rfl h (by simpa using hi)
theorem bm.dL {m:List UInt8} (h:bm g T (m.map U8) w) (i:Nat) (x:UInt8):bm g T ((m.set i x).map U8) (w.setCell ⟨g,i,none⟩ (U8 x)):=by
 have:=h.set i (U8 x)
 rwa [←zx] at this
end
theorem Df (m:List UInt8):∀v∈m.map U8,v.oneCell'=true:=by
 intro u a
 obtain⟨b,_,rfl⟩:=fF.1 a
 rfl
def j0 (d:List UInt8) (n j:Nat):List UInt8:=d.take j++List.replicate (n-j) 0
theorem Az {d:List UInt8} (a:d.length=n) (b:j≤n):(j0 d n j).length=n:=by simp[j0,a];omega
theorem AA {d:List UInt8} (a:d.length=n) (c:j<n):(j0 d n j).set j (d.getD j 0)=j0 d n (j+1):=by
 have h:(d.take j).length=j:=by simp[a];omega
 have b:d.getD j 0=d[j]:=by simp[List.getD,a,c]
 unfold j0
 rw[vx _ _ G,h,BP,b,fi (by omega:j<d.length)]
 have:n-j=(n-(j+1))+1:=G
 rw[this,EJ,I1,fh]
 rfl
theorem Mk {d:List UInt8} (a:d.length=n):j0 d n n=d:=by
 simp[j0,←a]
theorem Td (s:List UInt32):(s.flatMap oa).length=4*s.length:=by
 induction s with
 |nil=>rfl
 |cons x s a=>
  have:(x::s).flatMap oa=oa x++s.flatMap oa:=aj
  rw[this,cr,a]
  simp[oa];omega
theorem zW:∀(s:List UInt32) (i k:Nat),i<s.length→k<4→(s.flatMap oa).getD (4*i+k) 0=(s.getD i 0>>>UInt32.ofNat (24-8*k)).toUInt8
 |[],_,_,h,_=>by simp at h
 |x::s,0,k,_,hk=>by
  have e:(x::s).flatMap oa=oa x++s.flatMap oa:=aj
  rw[e]
  match k,hk with
  |0,_=>rfl
  |1,_=>rfl
  |2,_=>rfl
  |3,_=>
   show x.toUInt8=(x>>>UInt32.ofNat 0).toUInt8
   rw[show UInt32.ofNat 0=0 from rfl,UInt32.shiftRight_zero]
 |x::s,i+1,k,h,hk=>by
  have e:(x::s).flatMap oa=oa x++s.flatMap oa:=aj
  rw[e]
  have a:(oa x).length=4:=rfl
  have:=zW s i k (by simpa using h) hk
  rw[mU,rN G,a,show 4*(i+1)+k-4=4*i+k by omega,←mU,this]
  rfl
theorem nF (m:List UInt8):(fT m).length=32:=by
 unfold fT
 rw[Td,O4]
theorem Tf (n:UInt64):(qJ n).length=8:=by simp[qJ]
def fV (st:List UInt32) (blk:List UInt8) (u:Int) (tot:UInt64):List Value:=st.map bz++(blk.map U8++[I u,bk tot])
structure HC (g:Nat) (st:List UInt32) (blk:List UInt8) (u:Int) (tot:UInt64) (w:World):Prop where
 hb:bm g 257 (fV st blk u tot) w
 ls:st.length=8
 lb:blk.length=64
section
variable {w w':World} {g:Nat} {st:List UInt32} {blk:List UInt8} {u:Int} {tot:UInt64}
theorem wI (hs:st.length=8) (a:blk.length=64):(fV st blk u tot).length=74:=by simp[fV,hs,a]
theorem HC.aL (h:HC g st blk u tot w) (a:ao w w'):HC g st blk u tot w':=⟨h.hb.aL a,h.ls,h.lb⟩
theorem HC.a4 {a:Option Nat} (h:HC g st blk u tot w) (b:w.grownBy w' a) (c:some g≠a):HC g st blk u tot w':=⟨h.hb.a4 b c,h.ls,h.lb⟩
theorem HC.lt (h:HC g st blk u tot w):g<w.heap.size:=h.hb.lt
theorem HC.fb (h:HC g st blk u tot w) (hi:i<8):w.cell? ⟨g,i,none⟩=some (bz (st.getD i 0)):=
 h.hb.cell (by simp[fV,List.getElem?_append,h.ls,hi])
theorem HC.du (h:HC g st blk u tot w):w.cell? ⟨g,72,none⟩=some (I u):=
 h.hb.cell (by unfold fV;rw[rN (by simp[h.ls]),dN,h.ls,rN (by simp[h.lb]),dN,h.lb];rfl)
theorem HC.e1 (h:HC g st blk u tot w):w.cell? ⟨g,73,none⟩=some (bk tot):=
 h.hb.cell (by unfold fV;rw[rN (by simp[h.ls]),dN,h.ls,rN (by simp[h.lb]),dN,h.lb];rfl)
theorem HC.fC (h:HC g st blk u tot w) (i:Nat) (hi:i<8) (x:UInt32):HC g (st.set i x) blk u tot (w.setCell ⟨g,i,none⟩ (bz x)):=by
 refine⟨?_,by simp[h.ls],h.lb⟩
 have:=h.hb.set i (bz x)
 unfold fV at this
 rw[List.set_append_left _ _ (by simpa [h.ls] using hi),←zx] at this
 exact this
theorem HC.dE (h:HC g st blk u tot w) (x:Int):HC g st blk x tot (w.setCell ⟨g,72,none⟩ (I x)):=by
 refine⟨?_,h.ls,h.lb⟩
 have:=h.hb.set 72 (I x)
 unfold fV at this
 rw[vx _ _ (by simp[h.ls]),dN,h.ls,vx _ _ (by simp[h.lb]),dN,h.lb] at this
 exact this
theorem HC.fB (h:HC g st blk u tot w) (x:UInt64):HC g st blk u x (w.setCell ⟨g,73,none⟩ (bk x)):=by
 refine⟨?_,h.ls,h.lb⟩
 have:=h.hb.set 73 (bk x)
 unfold fV at this
 rw[vx _ _ (by simp[h.ls]),dN,h.ls,vx _ _ (by simp[h.lb]),dN,h.lb] at this
 exact this
theorem HX:(Tryz.prog.info? 3).map (·.size)=some 1:=by kernel_rfl
theorem Pj:(Tryz.prog.info? 175).map (·.size)=some 1:=by kernel_rfl
theorem aac:(Tryz.prog.info? 255).map (·.size)=some 64:=by kernel_rfl
theorem Pf:(Tryz.prog.info? 257).map (·.size)=some 74:=by kernel_rfl
theorem aaU:(Tryz.prog.info? 257).map (·.zero)=some (some (.agg (fV (List.replicate 8 0) (List.replicate 64 0) 0 0).toArray)):=by kernel_rfl
theorem Dw:(Instr.fieldAt 257 (.pointer (some ⟨g,0,none⟩)) 0).run Tryz.prog w=.ok (.pointer (some ⟨g,0,none⟩)) w:=by
 have h:=jR (P:=Tryz.prog) (w:=w) (n:=0) (a:=⟨g,0,none⟩) BY rfl Bi (EY 7)
 exact h
theorem N4:(Instr.fieldAt 257 (.pointer (some ⟨g,0,none⟩)) 1).run Tryz.prog w=.ok (.pointer (some ⟨g,8,none⟩)) w:=by
 have h:=jR (P:=Tryz.prog) (w:=w) (n:=1) (a:=⟨g,0,none⟩) BY rfl aac (EY 63)
 exact h
theorem yU:(Instr.fieldAt 257 (.pointer (some ⟨g,0,none⟩)) 2).run Tryz.prog w=.ok (.pointer (some ⟨g,72,none⟩)) w:=by
 have h:=jR (P:=Tryz.prog) (w:=w) (n:=2) (a:=⟨g,0,none⟩) BY rfl HX (EY 0)
 exact h
theorem Hf:(Instr.fieldAt 257 (.pointer (some ⟨g,0,none⟩)) 3).run Tryz.prog w=.ok (.pointer (some ⟨g,73,none⟩)) w:=by
 have h:=jR (P:=Tryz.prog) (w:=w) (n:=3) (a:=⟨g,0,none⟩) BY rfl Pj (EY 0)
 exact h
theorem HC.b8 (h:HC g st blk u tot w) {lo:Nat} (c:lo<64):cV (blk.drop lo) (.slice (some ⟨g,8+lo,none⟩) (64-lo) (64-lo)) w:=by
 refine⟨_,_,_,H,bV _,by unfold maxLen;omega,by simp[h.lb],λ_=>⟨_,rfl,λj v a=>?_⟩,λh=>by cases h⟩
 rw[Addr.add_mid]
 refine h.hb.cell ?_
 unfold fV
 rw[rN (by simp[h.ls];omega),dN,h.ls,show 8+lo+j-8=lo+j by omega]
 have b:lo+j<(blk.map U8).length:=by
  have:=(pl.1 a).1
  simp only[dN,gA] at this⊢
  omega
 rw[vu b]
 rw[xK,rO] at a
 exact a
theorem Of {lo:Nat} (a:lo<64):(Instr.sliceAt 255 (.pointer (some ⟨g,8,none⟩)) (some (I (lo:Int))) none none).run Tryz.prog w=.ok (.slice (some ⟨g,8+lo,none⟩) (64-lo) (64-lo)) w:=
 Za Tryz.underlying255 pi a .i64
theorem HC.f3 (h:HC g st blk u tot w):(Instr.loadAt 254 (.pointer (some ⟨g,0,none⟩))).run Tryz.prog w=.ok (.agg (st.map bz).toArray) w:=
 xn (m:=st.map bz) h.hb (λj v a=>by
  rw[gB]
  unfold fV
  rw[vu (pl.1 a).1]
  exact a) BX H (by rw[dN,h.ls];exact Bi)
end
theorem V7 (b:List UInt8) (i j:Nat):(b.drop i).getD j 0=b.getD (i+j) 0:=by simp[List.getD]
theorem Vm:aY Tryz.prog 190:=⟨_,Tryz.func190,am,rfl⟩
theorem aaH (b:List UInt8) (k:Nat):uc b k=((((b.drop (4*k)).getD 0 0).toUInt32<<<UInt32.ofNat 24|||((b.drop (4*k)).getD 1 0).toUInt32<<<UInt32.ofNat 16)|||((b.drop (4*k)).getD 2 0).toUInt32<<<UInt32.ofNat 8)|||((b.drop (4*k)).getD 3 0).toUInt32:=by
 simp only[V7,uc,lG]
theorem G0 (h:i<m.length):(m.map bz)[i]? =some (bz (m.getD i 0)):=by simp[h]
theorem Yr {s:List UInt32} {b:List UInt8} {u:Int} {tot:UInt64} (hc:HC g s b u tot w):
 Calls Tryz.prog 190 #[.pointer (some ⟨g,0,none⟩)] w (aJ λ_ w'=>w.grownBy w' (some g)∧HC g (yj s b) b 0 tot w'):=by
 have hs:=hc.ls
 have aO:=hc.lb
 refine enter Tryz.func190 H H H ?_
 obtain⟨e,w1,hr,n2,x1,b2⟩:=iW (P:=Tryz.prog) (w:=w) (l:=(lf []).map bz) Qb rfl
 refine T (fY H hr (O ?_))
 have lg:=hc.lt
 have ax:=hc.aL x1
 have aA:some g≠some e:=λh=>by cases h;omega
 refine ah (iS (λ_:Unit=>[(0,.pointer (some ⟨g,0,none⟩)),(2,.pointer (some ⟨e,0,none⟩))]) (λ_ w'=>w1.grownBy w' (some e)∧bm e 312 ((lf (eZ b 0)).map bz) w') ?_ ?_)
 ·refine T (J H (O (aR ?_)))
  refine eg (α:=Nat) (λk=>[(0,.pointer (some ⟨g,0,none⟩)),(2,.pointer (some ⟨e,0,none⟩)),(17,I (k:Int))])
   (λk w'=>w1.grownBy w' (some e)∧bm e 312 ((lf (qj b k)).map bz) w'∧k≤16) (λk=>16-k) 0 ⟨rfl,rfl,rfl,trivial⟩
   ⟨oZ (ao.refl _),b2,G⟩ ?_
  rintro k X ⟨p,n,hk⟩
  refine T (U H (bO) (O (ah (bc H (λh=>?_) (λh=>?_)))))
  ·have a4:k<16:=G
   have e0:(4:Int)*(k:Int)=((4*k:Nat):Int):=G
   refine aH (al (ah (aR (T (J H (Z H (bB (J H (dq H (c H N4 (J H (U (r:=I ((4*k:Nat):Int)) H (by rw[←e0];exact dh G G) (jx (a:=some (I ((4*k:Nat):Int))) H H H H H (Of G) (Z H (O ?_)))))))))))))))
   have aS:=(ax.a4 p aA).b8 (lo:=4*k) G
   obtain⟨ad,y⟩:=aS.reads
   rw[gA,aO] at y
   refine cz 24 [0,2,17,48,49] am am (W H (W H (cF H (λw _=>(y 0 G).1 w) (aQ H (λw' d=>(y 0 G).2 w' d) (mD H H (λw _=>uX fo bN) (bn H (λw _=>uV 24 G) (W H (cF H (λw _=>(y 1 G).1 w) (aQ H (λw' d=>(y 1 G).2 w' d) (mD H H (λw _=>uX fo bN) (bn H (λw _=>uV 16 G) ?_)))))))))))
   refine bn H (λw _=>tY) (W H (cF H (λw _=>(y 2 G).1 w) (aQ H (λw' d=>(y 2 G).2 w' d) (mD H H (λw _=>uX fo bN) (bn H (λw _=>uV 8 G) (bn H (λw _=>tY) (W H (cF H (λw _=>(y 3 G).1 w) (aQ H (λw' d=>(y 3 G).2 w' d) (mD H H (λw _=>uX fo bN) ?_))))))))))
   refine bn H (λw _=>tY) (cF H (λw _=>xk k G) (cq ?_))
   rintro M K _ rfl _ rfl _ rfl _ rfl _ rfl
   have aY:(lf (qj b k)).length=64:=Mm (by rw[If];omega)
   rw[←aaH]
   refine cZ H (Oi (x:=uc b k) (n.aL K) k G) ?_
   have N:=(n.aL K).dE k (uc b k)
   have R:=(p.ai (oZ K)).ai (mF M e k (bz (uc b k)))
   have an:(lf (qj b k)).set k (uc b k)=lf (qj b (k+1)):=by
    have:=Mn (l:=qj b k) (uc b k) (by rw[If];omega)
    rw[If] at this
    rw[this,aaI]
   rw[an] at N
   refine f (bE (al (ap (U H dB (J H (f ?_))))))
   exact ew (k+1) (aP H) ⟨R,N,G⟩ G
  ·have ak:k=16:=G
   subst ak
   exact ce (aU (aU (cg (eu () (aP H) ⟨p,n⟩))))
 rintro _ X ⟨p,n⟩
 refine al (ah (iS (λ_:Unit=>[(0,.pointer (some ⟨g,0,none⟩)),(2,.pointer (some ⟨e,0,none⟩))]) (λ_ w'=>w1.grownBy w' (some e)∧bm e 312 ((eZ b 48).map bz) w') ?_ ?_))
 ·refine T (Z H (O (aR ?_)))
  refine eg (α:=Nat) (λk=>[(0,.pointer (some ⟨g,0,none⟩)),(2,.pointer (some ⟨e,0,none⟩)),(5,I ((16+k:Nat):Int))])
   (λk w'=>w1.grownBy w' (some e)∧bm e 312 ((lf (eZ b k)).map bz) w'∧k≤48) (λk=>48-k) 0 ⟨rfl,rfl,rfl,trivial⟩
   ⟨p,n,G⟩ ?_
  clear p n
  rintro k X ⟨p,n,hk⟩
  have hL:=HM b k
  refine ah (T (J H (U H (bO) (O (bc H (λh=>?_) (λh=>?_))))))
  ·have a5:k<48:=G
   refine aH (al (ah (aR (ah ?_))))
   have aG:((16+k:Nat):Int)-15=(((eZ b k).length-15:Nat):Int):=G
   have aK:=CB (l:=eZ b k) (i:=(eZ b k).length-15) G
   have e2:((16+k:Nat):Int)-2=(((eZ b k).length-2:Nat):Int):=G
   have f2:=CB (l:=eZ b k) (i:=(eZ b k).length-2) G
   have aI:((16+k:Nat):Int)-16=(((eZ b k).length-16:Nat):Int):=G
   have aL:=CB (l:=eZ b k) (i:=(eZ b k).length-16) G
   have e7:((16+k:Nat):Int)-7=(((eZ b k).length-7:Nat):Int):=G
   have f7:=CB (l:=eZ b k) (i:=(eZ b k).length-7) G
   have aY:(lf (eZ b k)).length=64:=Mm G
   refine cz 9 [0,2,5,6,62] am am (W H (sF (r:=I (((eZ b k).length-15:Nat):Int)) H H H (λw _=>by rw[←aG];exact dM) (cF H (λw _=>xk _ G) (Ay (r:=bz ((eZ b k).getD ((eZ b k).length-15) 0)) H H (λw' d=>by rw[←aK];exact j5 (n.aL d) _ G) (W H (sF (r:=I (((eZ b k).length-2:Nat):Int)) H H H (λw _=>by rw[←e2];exact dM) (cF H (λw _=>xk _ G) (Ay (r:=bz ((eZ b k).getD ((eZ b k).length-2) 0)) H H (λw' d=>by rw[←f2];exact j5 (n.aL d) _ G) (gK H (cq ?_))))))))))
   rintro M K _ rfl _ rfl _ rfl _ rfl _ rfl
   refine Z H (O ?_)
   have ab:=n.aL K
   refine cz 29 [0,2,5,90,91] am am (W H (W H (sF (r:=I (((eZ b k).length-16:Nat):Int)) H H H (λw _=>by rw[←aI];exact dM) (cF H (λw _=>xk _ G) (Ay (r:=bz ((eZ b k).getD ((eZ b k).length-16) 0)) H H (λw' d=>by rw[←aL];exact j5 (ab.aL d) _ G) (W H ?_))))))
   refine eh (S:=Is (bz (j7 _ 7))) si (cN.is _) H (λw' _=>by
    rintro _ rfl _ rfl
    exact aJ.mono (th 7 G G) λv z h=>⟨h.1,h.2⟩) ?_
   refine W H ?_
   refine eh (S:=Is (bz (j7 _ 18))) si (cN.is _) H (λw' _=>by
    rintro _ rfl _ rfl
    exact aJ.mono (th 18 G G) λv z h=>⟨h.1,h.2⟩) ?_
   refine bn H (λw _=>rt) (W H (bn H (λw _=>oz 3 G) (bn H (λw _=>rt) (bn H (λw _=>pV) (W H (sF (r:=I (((eZ b k).length-7:Nat):Int)) H H H (λw _=>by rw[←e7];exact dM) (cF H (λw _=>xk _ G) (Ay (r:=bz ((eZ b k).getD ((eZ b k).length-7) 0)) H H (λw' d=>by rw[←f7];exact j5 (ab.aL d) _ G) (bn H (λw _=>pV) (W H ?_))))))))))
   refine eh (S:=Is (bz (j7 _ 17))) si (cN.is _) H (λw' _=>by
    rintro _ rfl _ rfl
    exact aJ.mono (th 17 G G) λv z h=>⟨h.1,h.2⟩) ?_
   refine W H ?_
   refine eh (S:=Is (bz (j7 _ 19))) si (cN.is _) H (λw' _=>by
    rintro _ rfl _ rfl
    exact aJ.mono (th 19 G G) λv z h=>⟨h.1,h.2⟩) ?_
   refine bn H (λw _=>rt) (W H (bn H (λw _=>oz 10 G) (bn H (λw _=>rt) (bn H (λw _=>pV) (cF H (λw _=>xk (16+k) G) (cq ?_))))))
   rintro au F _ rfl _ rfl _ rfl _ rfl _ rfl
   refine cZ H (Oi (x:=yJ (eZ b k)) (ab.aL F) (16+k) G) ?_
   have aw:=(ab.aL F).dE (16+k) (yJ (eZ b k))
   have a2:=((p.ai (oZ K)).ai (oZ F)).ai (mF au e (16+k) (bz (yJ (eZ b k))))
   have an:(lf (eZ b k)).set (16+k) (yJ (eZ b k))=lf (eZ b (k+1)):=by
    have:=Mn (l:=eZ b k) (yJ (eZ b k)) G
    rw[hL] at this
    exact this
   rw[an] at aw
   refine f (bE (al (ap (J H (U H dB (Z H (f ?_)))))))
   exact ew (k+1) (aP H) ⟨a2,aw,G⟩ G
  ·have ak:k=48:=G
   subst ak
   have hf:lf (eZ b 48)=eZ b 48:=by
    unfold lf
    rw[hL]
    exact jU _
   rw[hf] at n
   exact ce (aU (aU (cg (eu () (aP H) ⟨p,n⟩))))
 clear p n
 rintro _ X ⟨p,n⟩
 have ag:=ax.a4 p aA
 refine al (T (J H (dq H (c H Dw (Y H ag.f3 ?_)))))
 have aZ:(Tryz.prog.info? 254).map (·.size)=some (s.map bz).length:=by rw[dN,hs];exact Bi
 obtain⟨o,M,hr,n8,x8,N⟩:=iW (P:=Tryz.prog) (w:=X) (l:=(List.replicate 8 0).map bz) aaS rfl
 refine fY H hr (cZ H (uW N (by simp[hs]) aZ (De _)) ?_)
 have aF:=N.row (s.map bz)
 have R:=pD M o (s.map bz).toArray
 have a8:e<o:=eT n.lt n8
 have a9:=ag.lt
 have az:some e≠some o:=λh=>by cases h;omega
 have aB:some g≠some o:=λh=>by cases h;omega
 have D2:=(n.aL x8).a4 R az
 have aV:=(ag.aL x8).a4 R aB
 have Q8:w.grownBy (M.setRow o (s.map bz).toArray) (some g):=by
  have h1:ao w X:=x1.a2 p n2
  exact oZ ((h1.ai x8).a2 R (by have:=h1.size;omega))
 revert aF D2 aV Q8
 generalize M.setRow o (s.map bz).toArray=w9
 intro b9 D2 aW Q9
 refine O (ah (iS (λ_:Unit=>[(0,.pointer (some ⟨g,0,none⟩)),(8,.pointer (some ⟨o,0,none⟩))]) (λ_ w'=>w9.grownBy w' (some o)∧bm o 254 ((nq b s 64).map bz) w') ?_ ?_))
 ·refine T ?_
  refine aC (vs:=[]) Vk H H (VJ w9) ?_
  rintro _ L ⟨av,rfl⟩
  refine J H (O (aR ?_))
  refine eg (α:=Nat) (λi=>[(0,.pointer (some ⟨g,0,none⟩)),(2,.pointer (some ⟨e,0,none⟩)),(8,.pointer (some ⟨o,0,none⟩)),(96,.agg (kc.map bz).toArray),(97,I (i:Int))])
   (λi w'=>w9.grownBy w' (some o)∧bm o 254 ((nq b s i).map bz) w'∧i≤64) (λi=>64-i) 0 ⟨rfl,rfl,rfl,rfl,rfl,trivial⟩
   ⟨oZ av,b9.aL av,G⟩ ?_
  clear av L
  rintro i L ⟨t,aa,hi⟩
  have A:=DI b s hs i
  refine T (U H (bO) (O (ah (bc H (λh=>?_) (λh=>?_)))))
  ·have aX:i<64:=G
   have a6:kc.length=64:=rfl
   have a7:(eZ b 48).length=64:=HM b 48
   refine aH (al (ah (aR (T (J H (G7 H (Hi (l:=kc.map bz) JS nt bN aX .i64 (G0 G)) (Z H (Z H (O (ah ?_))))))))))
   have V:=aa
   have K6:=D2.a4 t az
   refine cz 5 [0,2,8,9,10,11,96,97,104] am am (cF H (λw _=>lW 0 G) (aQ H (λw' d=>j5 (V.aL d) 0 G) (cF H (λw _=>lW 4 G) (aQ H (λw' d=>j5 (V.aL d) 4 G) (gK H (cq ?_))))))
   rintro ar aq _ rfl _ rfl _ rfl _ rfl _ rfl _ rfl _ rfl _ rfl _ rfl
   refine Z H (O (ah ?_))
   replace V:=V.aL aq
   replace K6:=K6.aL aq
   refine cz 28 [0,2,8,11,96,97,132] am am (cF H (λw _=>lW 7 G) (aQ H (λw' d=>j5 (V.aL d) 7 G) (W H ?_)))
   refine eh (S:=Is (bz (j7 _ 6))) si (cN.is _) H (λw' _=>by
    rintro _ rfl _ rfl
    exact aJ.mono (th 6 G G) λv z h=>⟨h.1,h.2⟩) ?_
   refine W H ?_
   refine eh (S:=Is (bz (j7 _ 11))) si (cN.is _) H (λw' _=>by
    rintro _ rfl _ rfl
    exact aJ.mono (th 11 G G) λv z h=>⟨h.1,h.2⟩) ?_
   refine bn H (λw _=>rt) (W H ?_)
   refine eh (S:=Is (bz (j7 _ 25))) si (cN.is _) H (λw' _=>by
    rintro _ rfl _ rfl
    exact aJ.mono (th 25 G G) λv z h=>⟨h.1,h.2⟩) ?_
   refine bn H (λw _=>rt) (bn H (λw _=>pV) (W H (cF H (λw _=>lW 5 G) (aQ H (λw' d=>j5 (V.aL d) 5 G) (bn H (λw _=>yQ) (W H (CA H (λw _=>YI) (cF H (λw _=>lW 6 G) (aQ H (λw' d=>j5 (V.aL d) 6 G) (bn H (λw _=>yQ) ?_))))))))))
   refine bn H (λw _=>rt) (bn H (λw _=>pV) (W H (bn H (λw _=>pV) (W H (cF H (λw _=>xk i G) (aQ H (λw' d=>j5 (K6.aL d) i G) (bn H (λw _=>pV) (cq ?_))))))))
   rintro aD C _ rfl _ rfl _ rfl _ rfl _ rfl _ rfl _ rfl
   refine Z H (O (ah ?_))
   replace V:=V.aL C
   refine cz 24 [0,2,8,13,96,97,156] am am (W H ?_)
   refine eh (S:=Is (bz (j7 _ 2))) si (cN.is _) H (λw' _=>by
    rintro _ rfl _ rfl
    exact aJ.mono (th 2 G G) λv z h=>⟨h.1,h.2⟩) ?_
   refine W H ?_
   refine eh (S:=Is (bz (j7 _ 13))) si (cN.is _) H (λw' _=>by
    rintro _ rfl _ rfl
    exact aJ.mono (th 13 G G) λv z h=>⟨h.1,h.2⟩) ?_
   refine bn H (λw _=>rt) (W H ?_)
   refine eh (S:=Is (bz (j7 _ 22))) si (cN.is _) H (λw' _=>by
    rintro _ rfl _ rfl
    exact aJ.mono (th 22 G G) λv z h=>⟨h.1,h.2⟩) ?_
   refine bn H (λw _=>rt) (W H (cF H (λw _=>lW 1 G) (aQ H (λw' d=>j5 (V.aL d) 1 G) (bn H (λw _=>yQ) (W H (cF H (λw _=>lW 2 G) (aQ H (λw' d=>j5 (V.aL d) 2 G) (bn H (λw _=>yQ) (bn H (λw _=>rt) (cF H (λw _=>lW 1 G) ?_))))))))))
   refine aQ H (λw' d=>j5 (V.aL d) 1 G) (cF H (λw _=>lW 2 G) (aQ H (λw' d=>j5 (V.aL d) 2 G) (bn H (λw _=>yQ) (bn H (λw _=>rt) (bn H (λw _=>pV) (cq ?_))))))
   rintro au F _ rfl _ rfl _ rfl _ rfl _ rfl _ rfl _ rfl
   refine Z H (O (ap (J H (J H ?_))))
   replace V:=V.aL F
   refine U H (pV) (bF H (lW 0 G) (Y H (j5 V 0 G) (bF H (lW 1 G) (Y H (j5 V 1 G) (bF H (lW 2 G) (Y H (j5 V 2 G) (bF H (lW 3 G) (Y H (j5 V 3 G) (J H (U H (pV) ?_))))))))))
   refine bF H (lW 4 G) (Y H (j5 V 4 G) (bF H (lW 5 G) (Y H (j5 V 5 G) (bF H (lW 6 G) (Y H (j5 V 6 G) (dY H (run_build _ _ _ ((nq b s (i+1)).map bz).toArray am) ?_))))))
   have ay:=DI b s hs (i+1)
   refine cZ H (uW V (by simp[A,ay]) (by rw[dN,ay];exact Bi) (De _)) ?_
   have V':=V.row ((nq b s (i+1)).map bz)
   have a3:=(t.ai (oZ ((aq.ai C).ai F))).ai (pD au o ((nq b s (i+1)).map bz).toArray)
   refine f (bE (al (ap (U H dB (J H (f ?_))))))
   exact ew (i+1) (aP H) ⟨a3,V',G⟩ G
  ·have aj:i=64:=G
   subst aj
   exact ce (aU (aU (cg (eu () (aP H) ⟨t,aa⟩))))
 rintro _ L ⟨t,aa⟩
 refine al ?_
 have A:=DI b s hs 64
 have aT:=aW.a4 t aB
 have aM:qI s (nq b s 64) 0=s:=by simp[qI]
 refine ah (iS (λ_:Unit=>[(0,.pointer (some ⟨g,0,none⟩))]) (λ_ w'=>L.grownBy w' (some g)∧HC g (qI s (nq b s 64) 8) b u tot w') ?_ ?_)
 ·refine T ?_
  refine Y H (xn (m:=(nq b s 64).map bz) aa (λj v h=>by rwa [gB]) BX H (by rw[dN,A];exact Bi)) (J H (O (aR ?_)))
  refine eg (α:=Nat) (λi=>[(0,.pointer (some ⟨g,0,none⟩)),(178,.agg ((nq b s 64).map bz).toArray),(179,I (i:Int))])
   (λi w'=>L.grownBy w' (some g)∧HC g (qI s (nq b s 64) i) b u tot w'∧i≤8) (λi=>8-i) 0 ⟨rfl,rfl,rfl,trivial⟩
   ⟨oZ (ao.refl _),by rw[aM];exact aT,G⟩ ?_
  rintro i ar ⟨af,q,hi⟩
  refine T (U H (bO) (O (ah (bc H (λh=>?_) (λh=>?_)))))
  ·have Q:i<8:=G
   have aN:=S0 hs A Q
   refine aH (al (ah (aR (T (J H (G7 H (Hi (l:=(nq b s 64).map bz) BX nt bN Q .i64 (G0 G)) (Z H (Z H (O (cz 11 [0,178,179,190,193] am am (W H (W H (ji H (bH H (λw _=>Dw) (cF H (λw _=>lW i G) (aQ (r:=bz (s.getD i 0)) H (λw' d=>by rw[←aN];exact D bN H ((q.aL d).fb Q)) (W H (bn H (λw _=>pV) ?_))))))))))))))))))
   refine ji H (bH H (λw _=>Dw) (cF H (λw _=>lW i G) (cq ?_)))
   rintro aD C _ rfl _ rfl _ rfl _ rfl _ rfl
   have ai:=wI (u:=u) (tot:=tot) q.ls q.lb
   refine cZ H (pZ nt H (q.aL C).hb (by rw[zz,ai];omega)) ?_
   have ae:=(q.aL C).fC i Q (s.getD i 0+(nq b s 64).getD i 0)
   rw[S1 hs A Q] at ae
   have a1:=(af.ai (oZ C)).ai (mF aD g i (bz (s.getD i 0+(nq b s 64).getD i 0)))
   refine f (bE (al (ap (U H dB (J H (f ?_))))))
   exact ew (i+1) (aP H) ⟨a1,ae,G⟩ G
  ·have aj:i=8:=G
   subst aj
   exact ce (aU (aU (cg (eu () ⟨H,trivial⟩ ⟨af,q⟩))))
 rintro _ ar ⟨af,q⟩
 rw[SZ hs A] at q
 have ai:=wI (u:=u) (tot:=tot) q.ls q.lb
 refine al (ap (J H (dq H (c H yU (cZ H (pZ (i:=72) HX H q.hb (by rw[zz,ai];omega)) ?_)))))
 have ae:=q.dE 0
 refine f (pL H (⟨_,H,?_,ae⟩))
 have aE:w.grownBy L (some g):=by
  have h:w.grownBy w9 (some g):=Q9
  refine⟨t.os.ai h.os,t.tape.ai h.tape,t.output.ai h.output,cf h.size t.size,λk hk a0=>?_⟩
  exact(t.block k (eT hk h.size) (λhe=>by cases he;omega)).ai (h.block k hk a0)
 exact(aE.ai af).ai (mF ar g 72 (I 0))
def HA (g:Nat) (m:List UInt8) (tot:UInt64) (w:World):Prop:=∃blk,HC g (sh m) blk ((m.length%64:Nat):Int) tot w∧blk.take (m.length%64)=m.drop (64*(m.length/64))
theorem HA.aL {g:Nat} {m:List UInt8} {tot:UInt64} {w w':World} (h:HA g m tot w) (c:ao w w'):HA g m tot w':=by
 obtain⟨blk,a,b⟩:=h
 exact⟨blk,a.aL c,b⟩
theorem HA.a4 {g:Nat} {m:List UInt8} {tot:UInt64} {w w':World} {a:Option Nat} (h:HA g m tot w) (d:w.grownBy w' a) (e:some g≠a):HA g m tot w':=by
 obtain⟨blk,b,c⟩:=h
 exact⟨blk,b.a4 d e,c⟩
theorem HA.lt {g:Nat} {m:List UInt8} {tot:UInt64} {w:World} (h:HA g m tot w):g<w.heap.size:=by
 obtain⟨blk,a,b⟩:=h
 exact a.lt
theorem Z8 (m y:List UInt8) (h:m.length%64+y.length<64):sh (m++y)=sh m:=by
 have hm:m=m.take (64*(m.length/64))++m.drop (64*(m.length/64)):=(nz _ _).symm
 have b:(m.take (64*(m.length/64))).length=64*(m.length/64):=dT
 have a:(m.drop (64*(m.length/64))).length=m.length%64:=dT
 rw[hm,fh,HU _ _ G (by rw[cr,a];exact h),HU _ _ G G]
theorem Z7 (m y:List UInt8) (h:m.length%64+y.length=64):sh (m++y)=yj (sh m) (m.drop (64*(m.length/64))++y):=by
 have hm:m=m.take (64*(m.length/64))++m.drop (64*(m.length/64)):=(nz _ _).symm
 have d:(m.take (64*(m.length/64))).length=64*(m.length/64):=dT
 have c:(m.drop (64*(m.length/64))).length=m.length%64:=dT
 have a:sh (m++y)=sh (m.take (64*(m.length/64))++(m.drop (64*(m.length/64))++y)):=by
  rw[←fh,nz]
 have b:sh m=sh (m.take (64*(m.length/64))):=by
  conv=>lhs;rw[hm]
  exact HU _ _ G G
 rw[a,b,Z6 _ _ G (by rw[cr,c];exact h)]
def vn (g:Nat) (v:Value):Prop:=∀a n c,v=.slice (some a) n c→a.block≠g
theorem cV.c3 {l:List UInt8} (h:cV l v w) (i:0<l.length→vn g v) (p:w.grownBy w' (some g)):cV l v w':=by
 obtain⟨A,n,c,rfl,b,d,a,e,f⟩:=h
 refine⟨A,n,c,H,b,d,a,λr=>?_,f⟩
 obtain⟨ad,rfl,m⟩:=e r
 have q:0<l.length:=by
  have:l.length=n:=by simpa using a
  omega
 refine⟨ad,H,λj u s=>?_⟩
 have k:(ad.add j).block=ad.block:=by unfold Addr.add;split<;>rfl
 exact p.cell (m j u s) (by rw[k];intro o;exact i q ad n c H (cC o))
theorem Zc {l:List UInt8} (h:cV l v w) {lo:Nat} (o:lo≤l.length) (d:vn g v):
 ∃r,(∀w':World,(Instr.sliceAt 28 v (some (I (lo:Int))) none none).run Tryz.prog w'=.ok r w')∧cV (l.drop lo) r w∧vn g r:=by
 obtain⟨r,f,k⟩:=DB h o .i64
 refine⟨r,f,k,?_⟩
 obtain⟨A,n,c,rfl,s,t,j,u,x⟩:=h
 have y:lo≤n:=by
  have:l.length=n:=by simpa using j
  omega
 have m:(Instr.sliceBounds true n c (some (.int .i64 (lo:Int))) none none).run Tryz.prog w=.ok (lo,n,c) w:=by
  have a2:=run_sliceBound (P:=Tryz.prog) (w:=w) .i64 (lo:Int) n .sliceB G G
  simp only[kP] at a2
  simp[Instr.sliceBounds,a2]
 have p:(Instr.sliceAt 28 (.slice A n c) (some (.int .i64 (lo:Int))) none none).run Tryz.prog w=.ok (.slice (if c=lo then A else A.map (·.add (lo*1))) (n-lo) (c-lo)) w:=by
  simp[Instr.sliceAt,Instr.slice,run_underlying Tryz.underlying28,m,pY pi]
 have e:=(f w).symm.ai p
 simp only[Result.ok.injEq,vP] at e
 subst e
 intro a z q b
 simp only[Value.slice.injEq] at b
 obtain⟨b,_,_⟩:=b
 split at b
 ·exact d a n c (by rw[b])
 ·obtain⟨a0,i,rfl⟩:=gU.1 b
  have:(a0.add (lo*1)).block=a0.block:=by unfold Addr.add;split<;>rfl
  rw[this]
  exact d a0 n c (by rw[i])
theorem YJ {st:List UInt32} {blk x:List UInt8} {u:Int} {tot:UInt64} (h:HC g st blk u tot w) (z:o<64) (q:cV x v w) (y:0<x.length):
 ∃w',(Builtin.copy_ #[28,28] ty #[.slice (some ⟨g,8+o,none⟩) (64-o) (64-o),v]).run Tryz.prog w=.ok (I ((min x.length (64-o):Nat):Int)) w'∧w.grownBy w' (some g)∧
  HC g st (blk.take o++x.take (64-o)++blk.drop (o+min x.length (64-o))) u tot w':=by
 obtain⟨A,n,c,rfl,r,s,l,m,t⟩:=q
 have d:x.length=n:=by simpa using l
 obtain⟨ad,rfl,p⟩:=m G
 have b:((x.take (64-o)).map U8).length=min n (64-o):=by simp[d,Nat.min_comm]
 have f:=run_copy_row (P:=Tryz.prog) w 28 28 ty 5 g (8+o) (64-o) (64-o) ad n c _ 257 ((x.take (64-o)).map U8) iB pi h.hb b
  (λj u a=>p j u (by
    rw[xL,EF] at a
    split at a
    ·exact a
    ·cases a)) (by rw[b,zz,wI h.ls h.lb];omega) (Df _)
 rw[b] at f
 refine⟨_,by rw[d];exact f,pD _ _ _,?_,h.ls,?_⟩
 ·have:=h.hb.row (fV st (blk.take o++x.take (64-o)++blk.drop (o+min n (64-o))) u tot)
  rw[d]
  have e:((fV st blk u tot).toArray.toList.take (8+o)++(x.take (64-o)).map U8++(fV st blk u tot).toArray.toList.drop (8+o+min n (64-o)))=fV st (blk.take o++x.take (64-o)++blk.drop (o+min n (64-o))) u tot:=by
   have k:(st.map bz).length=8:=by simp[h.ls]
   have i:(blk.map U8).length=64:=by simp[h.lb]
   unfold fV
   rw[List.take_append,k,List.drop_append,k,show 8+o-8=o by omega,show 8+o+min n (64-o)-8=o+min n (64-o) by omega]
   rw[fG G,EC G,qB]
   rw[List.take_append,i,show o-64=0 by omega,EM,jU,List.drop_append,i,show o+min n (64-o)-64=0 by omega,tt]
   simp only[mg,xL,xK,fh]
  rw[e]
  exact this
 ·simp only[cr,eS,gA,h.lb];omega
theorem Cn:aY Tryz.prog 101:=⟨_,Tryz.func101,am,rfl⟩
theorem Uc:aY Tryz.prog 100:=⟨_,Tryz.func100,am,rfl⟩
theorem B0 {m x:List UInt8} {tot:UInt64} (hh:HA g m tot w) (hx:cV x v w) (ha:0<x.length→vn g v):
 Calls Tryz.prog 101 #[.pointer (some ⟨g,0,none⟩),v] w (aJ λ_ w'=>w.grownBy w' (some g)∧HA g (m++x) (tot+UInt64.ofNat x.length) w'):=by
 refine enter Tryz.func101 H H H (ah (T (J H (U H (Du Tryz.underlying178) (O (be H (aH (al (T (J H ?_))))))))))
 obtain⟨ae,t,au⟩:=hh
 refine dq H (c H Hf (Y H (D cU H t.e1) (J H (aW H (ro hx) (cJ H (yX aE cU) (U H (np) (dq H (c H Hf ?_))))))))
 have ai:=wI (u:=((m.length%64:Nat):Int)) (tot:=tot) t.ls t.lb
 refine cZ H (pZ (i:=73) Pj H t.hb (by rw[zz,ai];omega)) ?_
 have Q:=t.fB (tot+UInt64.ofNat x.length)
 have K:=mF w g 73 (bk (tot+UInt64.ofNat x.length))
 have X:=hx.c3 ha K
 revert Q K X
 generalize w.setCell ⟨g,73,none⟩ (bk (tot+UInt64.ofNat x.length))=w1
 intro Q K X
 refine O (aR ?_)
 refine eg (α:=Nat×Value) (λp=>[(0,.pointer (some ⟨g,0,none⟩)),(1,p.2)])
  (λp w'=>HA g (m++x.take p.1) (tot+UInt64.ofNat x.length) w'∧cV (x.drop p.1) p.2 w'∧(0<(x.drop p.1).length→vn g p.2)∧w.grownBy w' (some g)∧p.1≤x.length) (λp=>x.length-p.1) (0,v) ⟨rfl,rfl,trivial⟩
  ⟨by simpa using⟨ae,Q,au⟩,by simpa using X,by simpa using ha,K,aj⟩ ?_
 rintro⟨k,b⟩ w2 ⟨⟨blk,e,q⟩,A,M,q2,hk⟩
 dsimp only at e q A M q2 hk
 have o:∃d,d=m++x.take k:=⟨_,rfl⟩
 obtain⟨d,o⟩:=o
 rw[←o] at e q
 refine ah (T (J H (aW H (ro A) (U H (cY) (O (bc H (λh=>?_) (λh=>?_)))))))
 ·have ab:0<(x.drop k).length:=G
  have hu:d.length%64<64:=jV _ G
  refine aH (al (aR (ah (cz 9 [0,1,27,28] am am (W H (ji H (bH H (λw _=>N4) (W H (ji H (bH H (λw _=>yU) (aQ H (λw' hw=>D aE H (e.aL hw).du) (yw (a:=some (I ((d.length%64:Nat):Int))) (b:=none) H H H H (λw _=>Of hu) (W H (cq ?_))))))))))))))
  rintro w3 C _ rfl _ rfl _ rfl _ rfl
  have ag:=e.aL C
  obtain⟨w4,hr,q4,j⟩:=YJ (ty:=3) ag hu (A.aL C) ab
  obtain⟨n,V⟩:∃n,n=min (x.drop k).length (64-d.length%64):=⟨_,rfl⟩
  rw[←V] at hr j
  have aD:(x.drop k).length=x.length-k:=gA
  have az:n≤x.length-k:=G
  have aA:d.length%64+n≤64:=G
  have ay:0<n:=G
  refine XP H H hr (Z H (bB (J H (dq H (c H yU (Y H (D aE H j.du) (J H ?_)))))))
  have e1:((d.length%64:Nat):Int)+(n:Int)=((d.length%64+n:Nat):Int):=G
  refine U (r:=I ((d.length%64+n:Nat):Int)) H (by rw[←e1];exact dB) (dq H (c H yU ?_))
  have ak:=wI (u:=((d.length%64:Nat):Int)) (tot:=tot+UInt64.ofNat x.length) j.ls j.lb
  refine cZ H (pZ (i:=72) HX H j.hb (by rw[zz,ak];omega)) ?_
  have l:=j.dE ((d.length%64+n:Nat):Int)
  have L:=q4.ai (mF w4 g 72 (I ((d.length%64+n:Nat):Int)))
  revert l L
  generalize w4.setCell ⟨g,72,none⟩ (I ((d.length%64+n:Nat):Int))=w5
  intro l L
  have af:=(A.aL C).c3 M L
  have ad:=(q2.ai (oZ C)).ai L
  refine bB (J H (J H ?_))
  obtain⟨b6,ar,P,N⟩:=Zc af (lo:=n) G (M ab)
  rw[tq] at P
  refine jx (a:=some (I (n:Int))) (b:=none) H H H H H (ar _) (Z H (bB (J H (dq H (c H yU (Y H (D aE H l.du) (U H (aV) (O ?_))))))))
  have F:((x.drop k).take (64-d.length%64)).length=n:=by rw[eS,V,Nat.min_comm]
  have av:(x.drop k).take (64-d.length%64)=(x.drop k).take n:=by
   rw[V]
   rcases Nat.le_total (x.drop k).length (64-d.length%64) with z|z
   ·rw[iZ z,fG z,fL]
   ·rw[Jn z]
  have S:m++x.take (k+n)=d++(x.drop k).take (64-d.length%64):=by
   rw[av,o,fh,←List.take_add]
  obtain⟨y,hy⟩:∃y,y=(x.drop k).take (64-d.length%64):=⟨_,rfl⟩
  rw[←hy] at l F S
  have ax:(d.drop (64*(d.length/64))).length=d.length%64:=by rw[gA];omega
  have R:(d++y).length=d.length+n:=by rw[cr,F]
  refine bc H (λh=>?_) (λh=>?_)
  ·have aw:d.length%64+n=64:=G
   refine ap (J H (aC Vm H H (Yr l) ?_))
   rintro _ w6 ⟨q6,aa⟩
   refine f (bE (ew (k+n,b6) (aP H) ⟨?_,P.c3 (λ_=>N) q6,λ_=>N,ad.ai q6,by show k+n≤x.length;omega⟩ (by show x.length-(k+n)<x.length-k;omega)))
   show HA g (m++x.take (k+n)) _ w6
   rw[S]
   have s:(d++y).length%64=0:=by rw[R];omega
   have an:blk.drop (d.length%64+n)=[]:=EC (by rw[e.lb];omega)
   rw[an,jU] at aa
   have ao:(d++y).drop (64*((d++y).length/64))=[]:=EC G
   refine⟨blk.take (d.length%64)++y,?_,by rw[s,ao,EM]⟩
   rw[s,Z7 d y G,←q]
   exact aa
  ·have aB:d.length%64+n<64:=G
   refine aH (bE (ew (k+n,b6) (aP H) ⟨?_,P,λ_=>N,ad,by show k+n≤x.length;omega⟩ (by show x.length-(k+n)<x.length-k;omega)))
   show HA g (m++x.take (k+n)) _ w5
   rw[S]
   have s:(d++y).length%64=d.length%64+n:=by rw[R];omega
   have e2:(d++y).length/64=d.length/64:=by rw[R];omega
   refine⟨_,by rw[s,Z8 d y G];exact l,?_⟩
   rw[s,e2,Re G,←q]
   rw[Rf (by rw[cr,eS,e.lb,F];omega)]
   exact fG (by rw[cr,eS,e.lb,F];omega)
 ·have aq:k=x.length:=by
   have:(x.drop k).length=x.length-k:=gA
   omega
  refine ce (aU (aU (cg (pL H (⟨_,H,q2,?_⟩)))))
  rw[aq,fL] at o
  rw[o] at e q
  exact⟨blk,e,q⟩
theorem RK (w:World):Calls Tryz.prog 100 #[] w (aJ λr w'=>ao w w'∧∃g,w.heap.size≤g∧r=.pointer (some ⟨g,0,none⟩)∧HA g [] 0 w'):=by
 refine enter Tryz.func100 H H H (T (Z H (bB (dY H (run_build _ _ _ (iv.map bz).toArray am) (dY H (run_build _ _ _ (fV iv (List.replicate 64 0) 0 0).toArray am) ?_)))))
 obtain⟨g,w1,b,c,x1,a⟩:=YE (P:=Tryz.prog) (w:=w) (t:=257) (v:=.agg (fV iv (List.replicate 64 0) 0 0).toArray) (l:=fV iv (List.replicate 64 0) 0 0) rfl
 refine nL H b (Z H (O (aA (aM H ?_))))
 exact⟨_,H,x1,g,c,H,List.replicate 64 0,⟨a,H,aj⟩,H⟩
theorem HC.gc {st:List UInt32} {blk:List UInt8} {u:Int} {tot:UInt64} (h:HC g st blk u tot w):(Instr.loadAt 257 (.pointer (some ⟨g,0,none⟩))).run Tryz.prog w=.ok (.agg (fV st blk u tot).toArray) w:=
 xn (m:=fV st blk u tot) h.hb (λj v a=>by rwa [gB]) BY rfl (by rw[wI h.ls h.lb];exact Pf)
theorem Yg {st:List UInt32} {blk:List UInt8} {u:Int} {tot:UInt64}:∀v∈fV st blk u tot,v.oneCell'=true:=by
 intro v a
 unfold fV at a
 rcases oK.1 a with h|h
 ·exact De _ v h
 ·rcases oK.1 h with h|h
  ·exact Df _ v h
  ·simp only[lF,vw,xe] at h
   rcases h with rfl|rfl<;>rfl
theorem Ud:aY Tryz.prog 102:=⟨_,Tryz.func102,am,rfl⟩
theorem aaT:(Tryz.prog.info? 258).map (·.zero)=some (some (.agg (List.replicate 8 (U8 0)).toArray)):=by kernel_rfl
theorem Ke (h:v.ownBlock=some k) (d:k≠g):vn g v:=by
 rintro a n c rfl b
 have:some a.block=some k:=h
 exact d (by rw[←cC this];exact b)
theorem Te (n:UInt64) (hi:i<8):(qJ n).getD i 0=(n>>>UInt64.ofNat (56-8*i)).toUInt8:=by
 simp[qJ,hi]
section
variable {w:World} {g o:Nat} {T:TypeId}
theorem YM (i:Nat) (hi:i<8):(Instr.indexAt 258 (.pointer (some ⟨g,0,none⟩)) (I (i:Int))).run Tryz.prog w=.ok (.pointer (some ⟨g,i,none⟩)) w:=by
 have:=yW (P:=Tryz.prog) (w:=w) (g:=g) (o:=0) Tryz.underlying258 pi hi .i64
 rwa [gB] at this
theorem Y9:(Instr.sliceAt 258 (.pointer (some ⟨g,0,none⟩)) none none none).run Tryz.prog w=.ok (.slice (some ⟨g,0,none⟩) 8 8) w:=by
 simp[Instr.sliceAt,run_underlying Tryz.underlying258,Instr.sureAddr,Instr.sliceBounds,pY pi,Addr.add_mid]
theorem bm.b8 {m:List UInt8} (h:bm g T (m.map U8) w) (hm:m.length≤64):cV m (.slice (some ⟨g,0,none⟩) m.length m.length) w:=
 ⟨_,_,_,rfl,bV _,by unfold maxLen;omega,aj,λ_=>⟨_,rfl,λj v a=>by rw[Addr.add_mid,gB];exact h.cell a⟩,λh=>by cases h⟩
end
theorem QX {m:List UInt8} (hh:HA g m (UInt64.ofNat m.length) w):
 Calls Tryz.prog 102 #[.pointer (some ⟨g,0,none⟩)] w (aJ λr w'=>ao w w'∧r=.agg ((fT m).map U8).toArray):=by
 obtain⟨blk,F,ht⟩:=hh
 refine enter Tryz.func102 H H H ?_
 obtain⟨e,w1,q,n2,x1,b2⟩:=iW (P:=Tryz.prog) (w:=w) (l:=(List.replicate 32 0).map U8) Eb rfl
 refine ar (fY H q (O (ah (ar (J H (U H (Du Tryz.underlying178) (O (be H (aH (al (ar (J H (dq H (Y H (F.aL x1).gc ?_))))))))))))))
 obtain⟨d,w2,q,n3,x2,b3⟩:=iW (P:=Tryz.prog) (w:=w1) (l:=fV (List.replicate 8 0) (List.replicate 64 0) 0 0) aaU rfl
 refine fY H q ?_
 have hl:=wI (u:=((m.length%64:Nat):Int)) (tot:=UInt64.ofNat m.length) F.ls F.lb
 refine cZ H (uW b3 (by rw[hl];rfl) (by rw[hl];exact Pf) Yg) ?_
 have C:HA d m (UInt64.ofNat m.length) (w2.setRow d (fV (sh m) blk ((m.length%64:Nat):Int) (UInt64.ofNat m.length)).toArray):=⟨blk,⟨b3.row _,F.ls,F.lb⟩,ht⟩
 have q3:=pD w2 d (fV (sh m) blk ((m.length%64:Nat):Int) (UInt64.ofNat m.length)).toArray
 have aY:e<d:=eT b2.lt n3
 have V:some e≠some d:=λh=>by cases h;omega
 have T:w.heap.size≤d:=G
 have B2:=(b2.aL x2).a4 q3 V
 have E3:=(x1.ai x2).a2 q3 T
 revert C B2 E3
 generalize w2.setRow d (fV (sh m) blk ((m.length%64:Nat):Int) (UInt64.ofNat m.length)).toArray=w3
 intro C B2 E3
 refine bB (az H Hf ?_)
 obtain⟨aO,ay,aX⟩:=id C
 refine Y H (D cU H ay.e1) (U (v:=bk 8) H (Be) (Z H (bB ?_)))
 obtain⟨r4,w4,q,x4,o4,aM⟩:=uR (w:=w3) w3.heap.size [128] aj (bV _)
 refine dJ (vs:=[(0,U8 128)]) H q (aC Cn H H (B0 (C.aL x4) o4.b8 (λ_=>Ke aM (by have:=C.lt;omega))) ?_)
 rintro _ w5 ⟨q5,h5⟩
 have B5:=(B2.aL x4).a4 q5 V
 have E5:=(E3.ai x4).a2 q5 T
 refine O ?_
 have hp:ph m.length<64:=by unfold ph;omega
 refine ah (iS (λ_:Unit=>[(2,.pointer (some ⟨e,0,none⟩)),(3,.pointer (some ⟨d,0,none⟩)),(4,bk (UInt64.ofNat m.length*8))]) (λ_ w'=>ao w w'∧bm e 90 ((List.replicate 32 0).map U8) w'∧∃tot,HA d (m++[128]++List.replicate (ph m.length) 0) tot w') ?_ ?_)
 ·refine aR ?_
  refine eg (α:=Nat) (λ_=>[(2,.pointer (some ⟨e,0,none⟩)),(3,.pointer (some ⟨d,0,none⟩)),(4,bk (UInt64.ofNat m.length*8))])
   (λk w'=>ao w w'∧bm e 90 ((List.replicate 32 0).map U8) w'∧(∃tot,HA d (m++[128]++List.replicate k 0) tot w')∧k≤ph m.length) (λk=>ph m.length-k) 0 ⟨rfl,rfl,rfl,trivial⟩
   ⟨E5,B5,⟨_,by simpa using h5⟩,G⟩ ?_
  rintro k W ⟨N,M,⟨tot,x⟩,hk⟩
  obtain⟨aQ,aw,aW⟩:=id x
  have hm:(m++[128]++List.replicate k 0).length=m.length+1+k:=dT
  refine ah (ar (az H yU (Y H (D aE H aw.du) (U H (dZ) (O ?_)))))
  rw[hm]
  refine bc H (λh=>?_) (λh=>?_)
  ·have aD:k<ph m.length:=by
    rcases jn k (ph m.length) with h1|h1
    ·exact h1
    ·have:k=ph m.length:=G
     subst this
     exfalso
     unfold ph at h
     omega
   refine aH (al (aR (ap ?_)))
   obtain⟨r7,w7,q,y,o7,aN⟩:=uR (w:=W) W.heap.size [0] aj (bV _)
   refine dJ (vs:=[(0,U8 0)]) H q (aC Cn H H (B0 (x.aL y) o7.b8 (λ_=>Ke aN (by have:=x.lt;omega))) ?_)
   rintro _ X ⟨t,R⟩
   refine f (bE ?_)
   rw[fh _ (List.replicate k 0) [0],←I0] at R
   exact ew (k+1) (aP H) ⟨(N.ai y).a2 t T,(M.aL y).a4 t V,⟨_,R⟩,aD⟩ G
  ·have aB:k=ph m.length:=by
    unfold ph at hk hp⊢
    omega
   subst aB
   exact ce (aU (aU (cg (eu () (aP H) ⟨N,M,tot,x⟩))))
 rintro _ W ⟨N,M,a1,x⟩
 refine al (ar ?_)
 obtain⟨bits,am⟩:∃b,b=UInt64.ofNat m.length*8:=⟨_,rfl⟩
 rw[←am]
 have S:=Tf bits
 obtain⟨p,w7,q,n5,y,b7⟩:=iW (P:=Tryz.prog) (w:=W) (l:=(j0 (qJ bits) 8 0).map U8) aaT rfl
 refine fY H q (O ?_)
 have aZ:d<p:=eT x.lt n5
 have aI:some e≠some p:=λh=>by cases h;omega
 have aL:some d≠some p:=λh=>by cases h;omega
 refine ah (iS (λ_:Unit=>[(2,.pointer (some ⟨e,0,none⟩)),(3,.pointer (some ⟨d,0,none⟩)),(5,.pointer (some ⟨p,0,none⟩))]) (λ_ w'=>w7.grownBy w' (some p)∧bm p 258 ((qJ bits).map U8) w') ?_ ?_)
 ·refine ar (J H (O (aR ?_)))
  refine eg (α:=Nat) (λi=>[(2,.pointer (some ⟨e,0,none⟩)),(3,.pointer (some ⟨d,0,none⟩)),(4,bk bits),(5,.pointer (some ⟨p,0,none⟩)),(27,I (i:Int))])
   (λi w'=>w7.grownBy w' (some p)∧bm p 258 ((j0 (qJ bits) 8 i).map U8) w'∧i≤8) (λi=>8-i) 0 ⟨rfl,rfl,rfl,rfl,rfl,trivial⟩
   ⟨oZ (ao.refl _),b7,G⟩ ?_
  rintro i X ⟨t,A,hi⟩
  refine ar (U H (bO) (O (ah (bc H (λh=>?_) (λh=>?_)))))
  ·have K:i<8:=G
   have aT:=Az (j:=i) S G
   have e6:(56:Int)-8*(i:Int)=((56-8*i:Nat):Int):=G
   refine aH (al (ah (aR (ar (J H (Z H (O (ap (J H (J H (J H (U H (dh G G) (U (r:=I ((56-8*i:Nat):Int)) H (by rw[←e6];exact dM) (U H (j6 (56-8*i) G) (cJ H (Ht cU fo) (bF H (YM i K) (cZ H (Bg A i G) ?_)))))))))))))))))
   have b9:=A.dL i (bits>>>UInt64.ofNat (56-8*i)).toUInt8
   have aG:(j0 (qJ bits) 8 i).set i (bits>>>UInt64.ofNat (56-8*i)).toUInt8=j0 (qJ bits) 8 (i+1):=by
    rw[←Te bits K]
    exact AA S K
   rw[aG] at b9
   refine f (bE (al (ap (U H dB (J H (f ?_))))))
   exact ew (i+1) (aP H) ⟨t.ai (mF X p i _),b9,G⟩ G
  ·have ae:i=8:=G
   subst ae
   rw[Mk S] at A
   exact ce (aU (aU (cg (eu () (aP H) ⟨t,A⟩))))
 rintro _ X ⟨t,A⟩
 have E8:ao w X:=(N.ai y).a2 t G
 have B8:=(M.aL y).a4 t aI
 have R:=(x.aL y).a4 t aL
 refine al (ar (jx (a:=none) (b:=none) H H H H H Y9 ?_))
 have ak:=A.b8 G
 rw[S] at ak
 refine aC Cn H H (B0 R ak (by rintro _ a n c he;cases he;show p≠d;omega)) ?_
 rintro _ w9 ⟨q9,h9⟩
 have aF:m++[128]++List.replicate (ph m.length) 0++qJ bits=mJ m:=by rw[am];rfl
 rw[aF] at h9
 have E9:=E8.a2 q9 T
 have B9:=B8.a4 q9 V
 refine bB ?_
 obtain⟨o,an,q,n7,ag,av⟩:=iW (P:=Tryz.prog) (w:=w9) (l:=(j0 (fT m) 32 0).map U8) Eb rfl
 refine fY H q (O ?_)
 obtain⟨aS,ax,_⟩:=h9.aL ag
 have a0:d<o:=eT h9.lt n7
 have aK:some e≠some o:=λh=>by cases h;omega
 have aV:=O4 (mJ m)
 have s:=nF m
 refine ah (iS (λ_:Unit=>[(2,.pointer (some ⟨e,0,none⟩)),(7,.pointer (some ⟨o,0,none⟩))]) (λ_ w'=>an.grownBy w' (some o)∧bm o 90 ((fT m).map U8) w') ?_ ?_)
 ·refine ar ?_
  refine az H Dw (Y H ax.f3 (J H (O (aR ?_))))
  refine eg (α:=Nat) (λi=>[(2,.pointer (some ⟨e,0,none⟩)),(7,.pointer (some ⟨o,0,none⟩)),(42,.agg ((sh (mJ m)).map bz).toArray),(43,I (i:Int))])
   (λi w'=>an.grownBy w' (some o)∧bm o 90 ((j0 (fT m) 32 (4*i)).map U8) w'∧i≤8) (λi=>8-i) 0 ⟨rfl,rfl,rfl,rfl,trivial⟩
   ⟨oZ (ao.refl _),av,G⟩ ?_
  rintro i aq ⟨L,z,hi⟩
  refine ar (U H (bO) (O (ah (bc H (λh=>?_) (λh=>?_)))))
  ·have K:i<8:=G
   have Q:(4:Int)*(i:Int)=((4*i:Nat):Int):=G
   have e1:((4*i:Nat):Int)+1=((4*i+1:Nat):Int):=G
   have e2:((4*i:Nat):Int)+2=((4*i+2:Nat):Int):=G
   have e3:((4*i:Nat):Int)+3=((4*i+3:Nat):Int):=G
   have s0:=Az (j:=4*i) s G
   have s1:=Az (j:=4*i+1) s G
   have s2:=Az (j:=4*i+2) s G
   have s3:=Az (j:=4*i+3) s G
   refine aH (al (ah (aR (ar (J H (G7 H (Hi (l:=(sh (mJ m)).map bz) BX nt bN K .i64 (G0 G)) (Z H (Z H (O (ap (J H (U (r:=I ((4*i:Nat):Int)) H (by rw[←Q];exact dh G G) (J H (U (r:=I ((4*i:Nat):Int)) H (by rw[←Q];exact dh G G) (U (r:=I ((4*i+1:Nat):Int)) H (by rw[←e1];exact dB) (J H (U (r:=I ((4*i:Nat):Int)) H (by rw[←Q];exact dh G G) (U (r:=I ((4*i+2:Nat):Int)) H (by rw[←e2];exact dB) (J H ?_)))))))))))))))))))
   refine U (r:=I ((4*i:Nat):Int)) H (by rw[←Q];exact dh G G) (U (r:=I ((4*i+3:Nat):Int)) H (by rw[←e3];exact dB) (J H (U H (oz 24 G) (cJ H (qe bN fo) (J H (U H (oz 16 G) (cJ H (qe bN fo) (J H (U H (oz 8 G) (cJ H (qe bN fo) ?_))))))))))
   refine J H (cJ H (qe bN fo) ?_)
   have d0:(fT m).getD (4*i) 0=((sh (mJ m)).getD i 0>>>UInt32.ofNat 24).toUInt8:=zW (sh (mJ m)) i 0 G G
   have d1:(fT m).getD (4*i+1) 0=((sh (mJ m)).getD i 0>>>UInt32.ofNat 16).toUInt8:=zW (sh (mJ m)) i 1 G G
   have d2:(fT m).getD (4*i+2) 0=((sh (mJ m)).getD i 0>>>UInt32.ofNat 8).toUInt8:=zW (sh (mJ m)) i 2 G G
   have d3:(fT m).getD (4*i+3) 0=((sh (mJ m)).getD i 0).toUInt8:=by
    have:=zW (sh (mJ m)) i 3 G G
    rw[show UInt32.ofNat (24-8*3)=0 from rfl,UInt32.shiftRight_zero] at this
    exact this
   have f0:(j0 (fT m) 32 (4*i)).set (4*i) ((fT m).getD (4*i) 0)=j0 (fT m) 32 (4*i+1):=AA s G
   have f1:(j0 (fT m) 32 (4*i+1)).set (4*i+1) ((fT m).getD (4*i+1) 0)=j0 (fT m) 32 (4*i+2):=AA s G
   have f2:(j0 (fT m) 32 (4*i+2)).set (4*i+2) ((fT m).getD (4*i+2) 0)=j0 (fT m) 32 (4*i+3):=AA s G
   have f3:(j0 (fT m) 32 (4*i+3)).set (4*i+3) ((fT m).getD (4*i+3) 0)=j0 (fT m) 32 (4*(i+1)):=AA s G
   rw[d0] at f0
   rw[d1] at f1
   rw[d2] at f2
   rw[d3] at f3
   refine bF H (Dy (4*i) G) (cZ H (Bg z (4*i) G) ?_)
   have aa:=z.dL (4*i) ((sh (mJ m)).getD i 0>>>UInt32.ofNat 24).toUInt8
   rw[f0] at aa
   refine bF H (Dy (4*i+1) G) (cZ H (Bg aa (4*i+1) G) ?_)
   have ab:=aa.dL (4*i+1) ((sh (mJ m)).getD i 0>>>UInt32.ofNat 16).toUInt8
   rw[f1] at ab
   refine bF H (Dy (4*i+2) G) (cZ H (Bg ab (4*i+2) G) ?_)
   have ad:=ab.dL (4*i+2) ((sh (mJ m)).getD i 0>>>UInt32.ofNat 8).toUInt8
   rw[f2] at ad
   refine bF H (Dy (4*i+3) G) (cZ H (Bg ad (4*i+3) G) ?_)
   have ai:=ad.dL (4*i+3) ((sh (mJ m)).getD i 0).toUInt8
   rw[f3] at ai
   refine f (bE (al (ap (U H dB (J H (f ?_))))))
   exact ew (i+1) (aP H) ⟨(((L.ai (mF _ o (4*i) _)).ai (mF _ o (4*i+1) _)).ai (mF _ o (4*i+2) _)).ai (mF _ o (4*i+3) _),ai,G⟩ G
  ·have ae:i=8:=G
   subst ae
   rw[show 4*8=32 from rfl,Mk s] at z
   exact ce (aU (aU (cg (eu () (aP H) ⟨L,z⟩))))
 rintro _ aq ⟨L,z⟩
 have af:(Tryz.prog.info? 90).map (·.size)=some ((fT m).map U8).length:=by rw[dN,nF];exact DU
 have F2:=(B9.aL ag).a4 L aK
 have au:ao w aq:=(E9.ai ag).a2 L G
 refine al (ar (Y H (xn (m:=(fT m).map U8) z (λj v h=>by rwa [gB]) Tryz.underlying90 H af) (cZ H (uW F2 (by simp[nF]) af (Df _)) (O (aA (pW H H (F2.row _) Tryz.underlying90 H af ?_))))))
 exact⟨_,H,au.a2 (pD _ _ _) n2,H⟩
theorem LW {P:Program} {w:World} {e:TypeId} (b:P.underlying e=some (.int .u8)) (d:Nat) (l m:List UInt8):∀(is:List Nat),(∀i∈is,i<l.length∧i<m.length)→
 (Op.eqItems (d+1) e 1 (l.map U8).toArray (m.map U8).toArray is).run P w=.ok (is.all λi=>decide (l.getD i 0=m.getD i 0)) w
 |[],_=>rfl
 |i::is,h=>by
  obtain⟨hi,a⟩:=h i aj
  have g:(isAgg e).run P w=.ok false w:=by simp[isAgg,run_underlying b]
  have o:(part e (l.map U8).toArray (i*1)).run P w=.ok (U8 l[i]) w:=by simp[part,g,hi]
  have p:(part e (m.map U8).toArray (i*1)).run P w=.ok (U8 m[i]) w:=by simp[part,g,a]
  have n:(Op.equalIn (d+1) e (U8 l[i]) (U8 m[i])).run P w=.ok (decide (l[i]=m[i])) w:=by
   have:(decide ((l[i].toNat:Int)=(m[i].toNat:Int)))=decide (l[i]=m[i]):=by
    rw[cA]
    constructor
    ·intro h;exact UInt8.toNat_inj.1 G
    ·intro h;rw[h]
   rw[←this]
   simp[Op.equalIn,run_underlying b,U8]
   rfl
  have q:=LW (w:=w) b d l m is λj a=>h j (by simp[a])
  unfold Op.eqItems
  simp only[Sem.run_bind,o,p,Result.andThen_ok,n]
  have c:l.getD i 0=l[i]:=by simp[List.getD,hi]
  have f:m.getD i 0=m[i]:=by simp[List.getD,a]
  by_cases k:l[i]=m[i]
  ·simp only[xI,c,f,k,decide_true,Bw]
   simpa using q
  ·simp only[xI,c,f,k,decide_false,Bool.false_and]
   rfl
theorem S4 {l m:List UInt8} (c:l.length=n) (hm:m.length=n):((List.range n).all λi=>decide (l.getD i 0=m.getD i 0))=decide (l=m):=by
 rw[Bool.eq_iff_iff]
 simp only[kR,jD,gI]
 constructor
 ·intro h
  refine IS G λi a b=>?_
  have:=h i G
  simpa [List.getD,a,b] using this
 ·rintro rfl i _;rfl
theorem Tg {t:TypeId} {x y:Operand} {a b:Array Value} (c:P.eqGuardType P.depth t=false):(bin .neq t x y (.agg a) (.agg b)).run P w=(do pure (Value.bool (!(←Op.equal t (.agg a) (.agg b)))):Sem Value).run P w:=by
 show(do eqGuard .neq t x y (.agg a) (.agg b);binOp .neq t (.agg a) (.agg b):Sem Value).run P w=_
 rw[Sem.run_bind,run_eqGuard_agg (hm:=c)]
 rfl
theorem WA:Tryz.prog.eqGuardType Tryz.prog.depth 90=false:=by kernel_rfl
theorem ZH {l m:List UInt8} (a:l.length=32) (hm:m.length=32):(Op.equal 90 (.agg (l.map U8).toArray) (.agg (m.map U8).toArray)).run Tryz.prog w=.ok (decide (l=m)) w:=by
 show(Op.equalIn (9998+1+1) 90 _ _).run Tryz.prog w=_
 obtain⟨i,hi,_⟩:=info_parts AC
 rw[run_equalIn_array _ _ _ _ uw hi]
 have b:Tryz.prog.cellsOf 5=1:=am
 rw[b,LW Tryz.underlying5 9998 l m _ λi hi=>by rw[a,hm];simpa using hi]
 rw[S4 a hm]
theorem Y2 {x y:Operand} {l m:List UInt8} (a:l.length=32) (hm:m.length=32):(bin .neq 90 x y (.agg (l.map U8).toArray) (.agg (m.map U8).toArray)).run Tryz.prog w=.ok (B (decide (l≠m))) w:=by
 rw[Tg WA,Sem.run_bind,ZH a hm]
 show Result.ok (B (!decide (l=m))) w=_
 rw[decide_not]
theorem Lg:aY Tryz.prog 38:=⟨_,Tryz.func38,am,rfl⟩
theorem cV.ga {l:List UInt8} (h:cV l v w) (s:w.heap.size≤g):0<l.length→vn g v:=λf a n c e=>by
 obtain⟨A,m,o,rfl,p,q,i,j,r⟩:=h
 have t:l.length=m:=by simpa using i
 obtain⟨ad,rfl,k⟩:=j G
 simp only[Value.slice.injEq,Option.some.injEq] at e
 obtain⟨rfl,_,_⟩:=e
 have d:=k 0 (U8 l[0]) (by simp[f])
 rw[tD] at d
 have:ad.block<w.heap.size:=by
  rcases jn ad.block w.heap.size with b|b
  ·exact b
  ·simp[World.cell?,Array.getElem?_eq_none b] at d
 omega
theorem Ly {l:List UInt8} (i:cV l v w):
 Calls Tryz.prog 38 #[v] w (aJ λr w'=>ao w w'∧r=.agg ((fT l).map U8).toArray):=by
 refine enter Tryz.func38 H H H ?_
 obtain⟨p,w1,s,u,x1,b⟩:=iW (P:=Tryz.prog) (w:=w) (l:=(List.replicate 32 0).map U8) Eb rfl
 refine T (fY H s (bB (aC (vs:=[]) Uc H H (RK w1) ?_)))
 rintro _ w2 ⟨k,g,e,rfl,q⟩
 refine Z H (bB (J H (J H ?_)))
 have c:=x1.ai k
 refine aC Cn H H (B0 q (i.aL c) (i.ga (cf x1.size e))) ?_
 rintro _ y ⟨j,d⟩
 rw[qB,UInt64.zero_add] at d
 have x:p<g:=eT b.lt e
 have t:w.heap.size≤g:=G
 have o:=c.a2 j t
 have n:=(b.aL k).a4 j (λh=>by cases h;omega)
 refine bB (J H (aC Ud H H (QX d) ?_))
 rintro _ w4 ⟨m,rfl⟩
 have f:(Tryz.prog.info? 90).map (·.size)=some ((fT l).map U8).length:=by rw[dN,nF];exact DU
 have a:=n.aL m
 refine cZ H (uW a (by simp[nF]) f (Df _)) (O (aA (pW H H (a.row _) Tryz.underlying90 H f ?_)))
 exact⟨_,H,(o.ai m).a2 (pD _ _ _) u,H⟩
theorem TC:aY Tryz.prog 8:=⟨_,Tryz.func8,am,rfl⟩
def sD (m:fj):List UInt8×Int:=if gl m=true then(if (jO m).length≤1048576 then(jO m,0) else([],8)) else([],1)
def EncR (base:Nat) (m:fj) (r:Value) (w:World):Prop:=∃v,r=.tuple #[v,I (sD m).2]∧eH base (sD m).1 v w
def j2:List cG→Nat
 |[]=>0
 |l::t=>90+gX l.ws+gX l.bs+j2 t
theorem Xm {l:List cG} (hi:i<l.length):j2 (l.drop i)=90+gX l[i].ws+gX l[i].bs+j2 (l.drop (i+1)):=by
 rw[lE hi];rfl
def wT (m:fj):Nat:=100+10*m.inp.length+j2 m.lays
theorem Cw {l:List df} (hs:lB l) (f:l.length≤9223372036854775807):(yr l).length≤10+gX l:=by
 have g:=rD (n:=l.length) G
 have key:∀l:List df,lB l→(l.flatMap tJ).length≤gX l:=by
  intro l
  induction l with
  |nil=>intro _;simp
  |cons q l c=>
   intro hs
   have a:=hs q aj
   have d:=LQ a.1 a.2
   have e:=c λx b=>hs x (by simp[b])
   simp only[zr,cr,gX]
   omega
 have:=key l hs
 simp only[yr,cr]
 omega
theorem LP {l:cG} (hs:lB l.ws∧lB l.bs) (c:l.wf) (d:l.ws.length≤9223372036854775807) (e:l.bs.length≤9223372036854775807):(pz l).length≤90+gX l.ws+gX l.bs:=by
 have a:=Cw hs.1 d
 have b:=Cw hs.2 e
 simp only[cG.wf,cG.ints,lF,vw,xe,Gu,forall_eq] at c
 obtain⟨f,g,h,i,j,k,m⟩:=c
 have:=tI f
 have:=tI g
 have:=tI h
 have:=tI i
 have:=tI j
 have:=tI k
 have:=tI m
 simp only[pz,cG.ints,zr,List.flatMap_nil,jU,cr]
 omega
theorem GB {l:List Int} (h:∀n∈l,j1 n):(l.flatMap encI).length≤10*l.length:=by
 induction l with
 |nil=>simp
 |cons n l b=>
  have c:=tI (h n aj)
  have d:=b λx a=>h x (by simp[a])
  simp only[zr,cr,cw]
  omega
theorem Y8:(Instr.sliceAt 90 (.pointer (some ⟨g,0,none⟩)) none none none).run Tryz.prog w=.ok (.slice (some ⟨g,0,none⟩) 32 32) w:=by
 simp[Instr.sliceAt,run_underlying Tryz.underlying90,Instr.sureAddr,Instr.sliceBounds,pY pi,Addr.add_mid]
theorem YU {t:TypeId} {l:List UInt8} (c:Tryz.prog.underlying t=some (.slice 5)) (h:cV l v w):(Builtin.len_ #[t] ty #[v]).run Tryz.prog w=.ok (I l.length) w:=by
 obtain⟨n,a,_,b⟩:=Hl (P:=Tryz.prog) (ty:=ty) c h
 have:l.length=n:=by simpa using a
 rw[b,this]
theorem OP {X:Nat→Prop} {w:World}:∀(l:List Int),cB X w (l.map bJ) (l.map I)
 |[]=>cB.nil
 |n::l=>cB.a1 (a:=[I n]) (by simp only[bJ,ck,I]) (OP l)
theorem jd.c6 {X:Nat→Prop} {base:Nat} {l:List Int} (h:jd base l v w) (a:∀k,v.ownBlock=some k→¬X k):ck X w (sk l) [v]:=by
 obtain⟨n,h⟩:=h
 exact ck.d5 h (OP l) (by simp[el]) G a
theorem Qg {m:fj} {x:Value} (L:aD bJ m.inp x w) (p:aD gp m.lays y w) (hs:qh m) (h:m.wf) (q:wT m≤17592186044416):
 Calls Tryz.prog 8 #[.agg #[x,y]] w (aJ λr w'=>ao w w'∧EncR w.heap.size m r w'):=by
 refine enter (vs:=[.agg #[x,y]]) Tryz.func8 H H H ?_
 have bM:=p.len
 have bK:=L.len
 refine ar (cE H H λg1 w1 l1 x1 s=>(Z H (Z H (O (ah (ah ?_))))))
 rcases hc:gl m
 ·refine ap (Y H (s.ld Tryz.underlying25 H eR) (aC z8 H H ((by have:=zh (L.aL x1) (p.aL x1) hs (λl q=>h.2 l q l.kd (by simp[cG.ints]));rw[hc] at this;exact this)) ?_))
  rintro v9 w9 ⟨x9,rfl⟩
  refine cP H cW (O (bT H (ar (Z H (Z H (O (aA (aI (dt H ?_)))))))))
  exact⟨_,H,(x1.ai x9),_,by unfold sD;rw[hc];rfl,by unfold sD;rw[hc];exact eH.nil _ _⟩
 ·refine ap (Y H (s.ld Tryz.underlying25 H eR) (aC z8 H H ((by have:=zh (L.aL x1) (p.aL x1) hs (λl q=>h.2 l q l.kd (by simp[cG.ints]));rw[hc] at this;exact this)) ?_))
  rintro v9 w9 ⟨x9,rfl⟩
  refine cP H cW (O (be H (aH (al (ah ?_)))))
  have aY:Rp w1 (sk m.inp) [x]:=L.aL x1
  have a0:aD gp m.lays y w1:=p.aL x1
  have bY:=rD (n:=m.inp.length) (by unfold wT at q;omega)
  have bZ:=rD (n:=m.lays.length) G
  have bL:=GB h.1
  have bN:100+10*m.inp.length+j2 m.lays≤17592186044416:=q
  refine ap ?_
  obtain⟨b1,b6,b5,a5,a1,bt,aO,ad,bb,aZ,a3⟩:=YV (w:=w9) (t:=86) qG [82,76,85,77] aj aj
  obtain⟨g,wa,wb,a6,ba,x4,hW⟩:=Y4 (T:=86) (t:=86) (z:=.slice none 0 0) (w0:=w1) am rfl DV (x9.ai bt) aO bb (cf x9.size aZ) a3
  refine dJ (vs:=[(0,U8 82),(1,U8 76),(2,U8 85),(3,U8 77)]) H a5 (cJ H a1 (fY H a6 (cZ H ba (bB (c H (jt) (Y H (D cd H (x4.a0 (s.cell (i:=0) H))) (aW H (bP cd (L.aL (x1.ai x4))) (aC F3 H H ((Fv hW x4.size aj G)) ?_))))))))
  rintro bp b7 ⟨bp,C,bk⟩
  have W:=bk.aL (x4) hW.ge hW.new
  refine bB (c H (jt) (Y H (D cd H (W.a0 (s.cell (i:=0) H))) (aC K8 H H ((J2 C (W).size (aY.e7 (W) C.ge C.new) h.1 mQ)) ?_)))
  rintro bq b8 ⟨bq,ab,bl⟩
  have X:=bl.aL (W) C.ge C.new
  refine bB (c H (gE) (Y H (D dP H (X.a0 (s.cell (i:=1) H))) (aW H (bP dP (p.aL (x1.ai X))) (aC F3 H H ((Fv ab (X).size mQ G)) ?_))))
  rintro aK b9 ⟨aK,au,bm⟩
  have ak:=bm.aL (X) ab.ge ab.new
  obtain⟨Q,af⟩:∃Q,Q=[82,76,85,77]++uv m.inp.length++m.inp.flatMap encI++uv m.lays.length:=⟨_,rfl⟩
  rw[←af] at au
  have bR:Q.length≤24+10*m.inp.length:=by rw[af];simp only[cr,cw,c8];omega
  refine O (ah (ar (c H (gE) (Y H (D Tryz.underlying23 H (ak.a0 (s.cell (i:=1) H))) (aW H (bP Tryz.underlying23 (p.aL (x1.ai ak))) (J H (O (aR (fp (λ(i:Nat) (u:Value)=>[(4,.pointer (some ⟨g,0,none⟩)),(25,y),(26,I (m.lays.length:Int)),(27,I (i:Int))]) (λ(i:Nat) (u:Value) w'=>jI 86 w1.heap.size g (Q++(m.lays.take i).flatMap pz) u w'∧ao w1 w'∧i≤m.lays.length∧((m.lays.take i).flatMap pz).length+j2 (m.lays.drop i)≤j2 m.lays) (λ(i:Nat) (u:Value)=>m.lays.length-i) (0) (aK) (aP H) ⟨by simpa using au,ak,G,aj⟩ ?_)))))))))
  rintro i u wL ⟨b,V,hi,a2⟩
  refine ar (U H (bO) (O (ah (bc H (λaT=>?_) (λaT=>?_)))))
  ·refine aH (al (ah (aR (ar ?_))))
   obtain⟨bA,bC,bh,bi,aq⟩:=bX (P:=Tryz.prog) (sz:=9) dP am tF G a0 (i:=i) G .i64
   obtain⟨a,M⟩:∃e,e=m.lays[i]'G:=⟨_,rfl⟩
   rw[←M] at aq
   obtain⟨bu,bw,rfl,j,o⟩:=wi aq
   refine bF H (bh _) ?_
   have az:a∈m.lays:=by rw[M];exact eK _
   have N:=hs a az
   have ag:=h.2 a az
   have bQ:j2 (m.lays.drop i)=90+gX a.ws+gX a.bs+j2 (m.lays.drop (i+1)):=by rw[Xm G,←M]
   have bD:=LP N ag j.len o.len
   have bS:=Cw N.1 j.len
   have bW:=Cw N.2 o.len
   refine Y H ((bi.aL V).ld dG H eJ) (cM xC H λg6 w6 l6 x6 k6=>cl H H k6 H eJ (ay.a1 H (ay.a1 H (ay.a1 H (ay.a1 H (ay.a1 H (ay.a1 H (ay.a1 H (ay.a1 j.one (ay.a1 o.one ay.nil))))))))) λaM bj d=>?_)
   have aN:=ao.a2 (x6) bj l6
   refine bB (c H (et) (Y H (D aE H (d.cell (i:=0) H)) (c H (jr) (Y H (D aE H (d.cell (i:=1) H)) (c H (f9) (Y H (D aE H (d.cell (i:=2) H)) (c H (gq) (Y H (D aE H (d.cell (i:=3) H)) (c H (gt) (Y H (D aE H (d.cell (i:=4) H)) (c H (js) (Y H (D aE H (d.cell (i:=5) H)) (c H (ik) (Y H (D aE H (d.cell (i:=6) H)) ?_))))))))))))))
   obtain⟨b2,ca,a7,aa,aF,b0⟩:=NZ (w:=aM) (aM).heap.size [a.kd,a.fr,a.ou,a.kh,a.kw,a.sr,a.pd] aj (bV _)
   refine dJ (vs:=[(0,I a.kd),(1,I a.fr),(2,I a.ou),(3,I a.kh),(4,I a.kw),(5,I a.sr),(6,I a.pd)]) H a7 ?_
   have av:=(b.aL (aN))
   have ae:=av.aL aa
   have bI:=GB (l:=a.ints) ag
   have e3:=((V.ai aN).ai aa)
   refine aC K8 H H ((J2 (ns:=a.ints) ae e3.size (aF.c6 (λk hk=>av.c7 (aF.lt k hk).1)) ag (by simp only[cr,cG.ints,cw,c8];omega))) ?_
   rintro v46 cb ⟨v46,F,ai⟩
   have R:=ai.aL e3 ae.ge ae.new
   have aB:=ai.mv.blk (d.aL aa) (b.c7 l6)
   have bf:=ai.off (b.c7 l6) (d.aL aa).lt
   have fA:=j.aL (R)
   have fB:=o.aL (R)
   refine bB (c H (gJ) (Y H (D Tryz.underlying42 H (aB.cell (i:=7) H)) (aC Lb H H ((J5 F (R).size ((show Rp w1 (nb a.ws) [bu] from j).e7 (R) F.ge F.new) N.1 (by simp only[cr,cG.ints,cw,c8] at*;omega))) ?_)))
   rintro br cc ⟨br,K,aG⟩
   have S:=aG.aL (R) F.ge F.new
   have bd:=aG.mv.blk aB bf
   have fC:=j.aL (S)
   have fD:=o.aL (S)
   refine O (ap (c H (lc) (Y H (D Tryz.underlying42 H (bd.cell (i:=8) H)) (aC Lb H H ((J5 K (S).size ((show Rp w1 (nb a.bs) [bw] from o).e7 (S) K.ge K.new) N.2 (by simp only[cr,cG.ints,cw,c8] at*;omega))) ?_))))
   rintro aL ch ⟨aL,aX,bn⟩
   have bx:=bn.aL (S) K.ge K.new
   refine f (bE (al (ap (U H cD (J H (f (eI (i+1) (aL) (aP H) ⟨by rw[yx G,←M,pz,←fh,←fh,←fh];exact aX,bx,G,by rw[yx G,←M,cr];omega⟩ G)))))))
  ·refine ce (aU (aU (cg (al (ah ?_)))))
   have ax:Q++m.lays.flatMap pz=gR++iT m:=by rw[af];simp[gR,iT,fh]
   rw[fG G,ax] at b
   have bG:(gR++iT m).length≤17592186044416:=by
    rw[←ax,cr]
    rw[fG G] at a2
    omega
   have kg:=b.blk
   have aw:=b.row.b8
   refine ap (Y H (D qG H kg.k0) (aC Lg H H ((Ly aw)) ?_))
   rintro b3 bs ⟨v,rfl⟩
   obtain⟨g7,w7,a9,l7,x7,k7⟩:=iW (P:=Tryz.prog) (w:=bs) (t:=90) (l:=(List.replicate 32 0).map U8) Eb rfl
   refine fY H a9 ?_
   obtain⟨w8,s8,q8,k8⟩:=k7.c0 (P:=Tryz.prog) (t:=90) (m:=(fT (gR++iT m)).map U8) (by simp[nF]) (by rw[dN,nF];exact DU) (Dd _)
   refine cZ H s8 ?_
   have A:=x7.a2 q8 l7
   have aS:cV (fT (gR++iT m)) (.slice (some ⟨g7,0,none⟩) 32 32) w8:=by
    have:=k8.b8 (by rw[nF];omega)
    rwa [nF] at this
   refine O (ah (ah ?_))
   have bH:(jO m).length=(gR++iT m).length+32:=by unfold jO;rw[cr,nF]
   refine ap (Y H (D qG H ((v.ai A).a0 kg.k0)) (aW (r:=I ((gR++iT m).length:Int)) H ((by exact YU qG (aw.aL (v.ai A)))) (jP (r:=I (((gR++iT m).length+32:Nat):Int)) H H H (by have e:(((gR++iT m).length+32:Nat):Int)=((gR++iT m).length:Int)+32:=G;rw[e];exact dB) (U H (cY) (O (bc H (λaV=>?_) (λaV=>?_)))))))
   ·refine ar (Z H (Z H (O (aA (aI (dt H ?_))))))
    exact⟨_,H,(((x1.ai V).ai v).ai A),_,by unfold sD;rw[if_pos hc,if_neg G];rfl,by unfold sD;rw[if_pos hc,if_neg G];exact eH.nil _ _⟩
   ·refine aH (al (ah (cz 2 [60,61] am am ?_)))
    refine aQ H (λw h=>D qG H (h.a0 ((v.ai A).a0 kg.k0))) (yw H H H H (λw h=>Y8) (cq ?_))
    rintro cj an _ a4
    obtain rfl:=bU a4
    rintro _ rfl
    have e2:=(((V.ai v).ai A).ai an)
    obtain⟨b4,ci,a8,bg,bo⟩:=jI.app (ty:=86) qG iB (b.aL (((v.ai A).ai an))) e2.size (aS.aL (an)) (by rw[nF];omega) (by rw[nF];omega)
    refine dW H a8 ?_
    have bz:=bo.aL e2 b.ge b.new
    refine Z H (Z H (O (aA (dt H ?_))))
    exact⟨_,H,(x1.ai bz),_,by unfold sD;rw[if_pos hc,if_pos G];rfl,by unfold sD;rw[if_pos hc,if_pos G];exact bg.low x1.size⟩
section
variable {α β:Type} {f:List UInt8→Option (α×List UInt8)} {st s1 s2 so:Option (List UInt8)} {a:α}
def iA (f:List UInt8→Option (α×List UInt8)) (st:Option (List UInt8)) (a:α) (s1:Option (List UInt8)):Prop:=st.bind f=s1.map λt=>(a,t)
theorem iA.some {t:List UInt8} (h:iA f st a (some t)):∃l,st=.some l∧f l=.some (a,t):=by
 cases st with
 |none=>cases h
 |some l=>exact⟨l,rfl,h⟩
def Le (f:List UInt8→Option (α×List UInt8)):Prop:=∀l a t,f l=some (a,t)→t.length≤l.length
def Lt (f:List UInt8→Option (α×List UInt8)):Prop:=∀l a t,f l=some (a,t)→t.length+1≤l.length
theorem Lt.le (h:Lt f):Le f:=λl a t e=>by have:=h l a t e;omega
def nx (n:Nat) (st:Option (List UInt8)):Prop:=∀l,st=some l→l.length≤n
theorem nx.none (n:Nat):nx n none:=λ_ h=>by cases h
theorem nx.mono {m:Nat} (h:nx n st) (hm:n≤m):nx m st:=λl e=>cf (h l e) hm
theorem iA.d4 (h:iA f st a s1) (d:Le f) (g:nx n st):nx n s1:=λt e=>by
 subst e
 obtain⟨l,b,c⟩:=h.some
 exact cf (d l a t c) (g l b)
theorem Ng:so.bind (gQ f N)=so.bind (λl=>(gQ f N l).map λp=>([]++p.1,p.2)):=by
 cases so with
 |none=>rfl
 |some l=>simp
theorem Nh {X:Option (List α×List UInt8)} {done:List α} (c:X=so.bind (λl=>(gQ f (k+1) l).map λp=>(done++p.1,p.2))) (b:iA f so a s2):
 X=s2.bind (λl=>(gQ f k l).map λp=>((done++[a])++p.1,p.2)):=by
 rw[c]
 cases so with
 |none=>
  cases s2 with
  |none=>rfl
  |some t=>cases b
 |some l=>
  have b:f l=s2.map λt=>(a,t):=b
  show(gQ f (k+1) l).map _=_
  simp only[gQ]
  rw[b]
  cases s2 with
  |none=>rfl
  |some t=>
   simp only[n9,iJ,Option.map_map]
   cases gQ f k t<;>simp
theorem GZ {X:Option (List α×List UInt8)} {done:List α} (a:X=so.bind (λl=>(gQ f 0 l).map λp=>(done++p.1,p.2))):X=so.map λt=>(done,t):=by
 rw[a]
 cases so with
 |none=>rfl
 |some l=>simp[gQ]
theorem Ox (c:Le f):∀(n:Nat) (l:List UInt8) (a:List α) (t:List UInt8),gQ f n l=some (a,t)→t.length≤l.length
 |0,l,a,t,h=>by simp only[gQ,Option.some.injEq,Prod.mk.injEq] at h;rw[←h.2];exact bV _
 |n+1,l,a,t,h=>by
  simp only[gQ] at h
  obtain⟨p,d,e⟩:=i8.1 h
  obtain⟨q,g,b⟩:=gU.1 e
  simp only[Prod.mk.injEq] at b
  have:=Ox c n p.2 q.1 q.2 g
  have:=c l p.1 p.2 d
  rw[←b.2]
  omega
theorem HD:Lt eY:=λl a t h=>by
 have b:=(yZ h).1
 have c:=H7 a
 rw[b,cr]
 omega
theorem Ou (d:Le f):Le (lu f):=λl a t h=>by
 unfold lu at h
 obtain⟨p,b,c⟩:=i8.1 h
 have:=Ox d p.1 p.2 a t c
 have:=HD l p.1 p.2 b
 omega
theorem jl:Lt fQ:=λl a t h=>by
 unfold fQ at h
 obtain⟨p,c,b⟩:=gU.1 h
 have:=HD l p.1 p.2 c
 simp only[Prod.mk.injEq] at b
 rw[←b.2]
 exact this
theorem Hz:Lt gM:=λl q t h=>by
 obtain⟨b,n,m⟩:=q
 have:=(Hy h).1
 rw[this,cr]
 have a:1≤(oW b n m).length:=by simp only[oW,cr,cw,c8];omega
 omega
theorem DG:Le u5:=Ou Hz.le
theorem Oo {st:Option (List UInt8)} {n:Int} {t:List UInt8} (h:iA fQ st n (some t)):j1 n:=by
 obtain⟨l,_,h⟩:=h.some
 unfold fQ at h
 obtain⟨p,b,a⟩:=gU.1 h
 have:=(yZ b).2
 simp only[Prod.mk.injEq] at a
 rw[←a.1]
 unfold uz j1
 split<;>omega
end
theorem Oq {st s1 s2 v w z A C D q:Option (List UInt8)} {a b c d e f g:Int} {x y:List df} (F:iA fQ st a s1) (u:iA fQ s1 b s2) (r:iA fQ s2 c v) (p:iA fQ v d w) (o:iA fQ w e z) (n:iA fQ z f A) (m:iA fQ A g C)
 (k:iA u5 C x D) (j:iA u5 D y q):iA kK st ⟨a,b,c,d,e,f,g,x,y⟩ q:=by
 have i:∀{α:Type} {f:List UInt8→Option (α×List UInt8)} {a:α} {s:Option (List UInt8)},iA f none a s→s=none:=λ{α f a s} h=>by
  cases s with
  |none=>rfl
  |some t=>cases h
 have J:∀{s:Option (List UInt8)},s=none→(∀l,st=some l→kK l=none)→q=s→iA kK st ⟨a,b,c,d,e,f,g,x,y⟩ q:=λ{s} hs H G=>by
  subst G
  subst hs
  show st.bind kK=none
  cases st with
  |none=>rfl
  |some l=>exact H l rfl
 have step:∀{α:Type} {f:List UInt8→Option (α×List UInt8)} {a:α} {l:List UInt8} {s:Option (List UInt8)},iA f (some l) a s→f l=s.map λt=>(a,t):=λ{α f a l s} h=>h
 cases st with
 |none=>
  obtain rfl:=i F;obtain rfl:=i u;obtain rfl:=i r;obtain rfl:=i p;obtain rfl:=i o;obtain rfl:=i n;obtain rfl:=i m;obtain rfl:=i k;obtain rfl:=i j
  rfl
 |some l=>
  show kK l=_
  unfold kK
  rw[step F]
  cases s1 with
  |none=>obtain rfl:=i u;obtain rfl:=i r;obtain rfl:=i p;obtain rfl:=i o;obtain rfl:=i n;obtain rfl:=i m;obtain rfl:=i k;obtain rfl:=i j;rfl
  |some t1=>
  simp only[n9,iJ]
  rw[step u]
  cases s2 with
  |none=>obtain rfl:=i r;obtain rfl:=i p;obtain rfl:=i o;obtain rfl:=i n;obtain rfl:=i m;obtain rfl:=i k;obtain rfl:=i j;rfl
  |some t2=>
  simp only[n9,iJ]
  rw[step r]
  cases v with
  |none=>obtain rfl:=i p;obtain rfl:=i o;obtain rfl:=i n;obtain rfl:=i m;obtain rfl:=i k;obtain rfl:=i j;rfl
  |some t3=>
  simp only[n9,iJ]
  rw[step p]
  cases w with
  |none=>obtain rfl:=i o;obtain rfl:=i n;obtain rfl:=i m;obtain rfl:=i k;obtain rfl:=i j;rfl
  |some t4=>
  simp only[n9,iJ]
  rw[step o]
  cases z with
  |none=>obtain rfl:=i n;obtain rfl:=i m;obtain rfl:=i k;obtain rfl:=i j;rfl
  |some t5=>
  simp only[n9,iJ]
  rw[step n]
  cases A with
  |none=>obtain rfl:=i m;obtain rfl:=i k;obtain rfl:=i j;rfl
  |some K=>
  simp only[n9,iJ]
  rw[step m]
  cases C with
  |none=>obtain rfl:=i k;obtain rfl:=i j;rfl
  |some L=>
  simp only[n9,iJ]
  rw[step k]
  cases D with
  |none=>obtain rfl:=i j;rfl
  |some M=>
  simp only[n9,iJ]
  rw[step j]
  cases q with
  |none=>rfl
  |some t9=>rfl
theorem Hv:Lt kK:=λl a t h=>by
 unfold kK at h
 obtain⟨b,m,h⟩:=i8.1 h
 obtain⟨c,n,h⟩:=i8.1 h
 obtain⟨d,o,h⟩:=i8.1 h
 obtain⟨e,p,h⟩:=i8.1 h
 obtain⟨f,q,h⟩:=i8.1 h
 obtain⟨g,r,h⟩:=i8.1 h
 obtain⟨i,s,h⟩:=i8.1 h
 obtain⟨j,u,h⟩:=i8.1 h
 obtain⟨k,v,h⟩:=i8.1 h
 have w:=jl _ b.1 b.2 m
 have a2:=jl _ c.1 c.2 n
 have a3:=jl _ d.1 d.2 o
 have a4:=jl _ e.1 e.2 p
 have a5:=jl _ f.1 f.2 q
 have x:=jl _ g.1 g.2 r
 have y:=jl _ i.1 i.2 s
 have z:=DG _ j.1 j.2 u
 have a9:=DG _ k.1 k.2 v
 simp only[Option.some.injEq,Prod.mk.injEq] at h
 rw[←h.2]
 omega
theorem Ov {st s1 s2:Option (List UInt8)} {ls:List cG} (b:iA (lu fQ) st ns s1) (a:iA (lu kK) s1 ls s2):iA oD st ⟨ns,ls⟩ s2:=by
 cases st with
 |none=>
  cases s1 with
  |some t=>cases b
  |none=>
   cases s2 with
   |some t=>cases a
   |none=>rfl
 |some l=>
  show oD l=_
  unfold oD
  rw[show lu fQ l=_ from b]
  cases s1 with
  |none=>
   cases s2 with
   |some t=>cases a
   |none=>rfl
  |some t=>
   simp only[n9,iJ]
   rw[show lu kK t=_ from a]
   cases s2<;>rfl
theorem FQ:aY Tryz.prog 104:=⟨_,Tryz.func104,am,rfl⟩
theorem uA:aY Tryz.prog 105:=⟨_,Tryz.func105,am,rfl⟩
theorem KN:aY Tryz.prog 106:=⟨_,Tryz.func106,am,rfl⟩
theorem Uq:aY Tryz.prog 40:=⟨_,Tryz.func40,am,rfl⟩
abbrev jE:Nat→Nat→Option (List UInt8)→World→Prop:=km 96
def QB (h g:Nat) (w:World) (o:Option (Nat×List UInt8)) (r:Value) (w':World):Prop:=
 Mv (gh h g) w w'∧match o with
  |some (n,t)=>r=bk (UInt64.ofNat n)∧jE h g (some t) w'
  |none=>r=bk 0∧jE h g none w'
theorem xu:(Tryz.prog.info? 4).map (·.size)=some 1:=by kernel_rfl
theorem Rq {h:Nat} {st:Option (List UInt8)} (hm:jE h g st w):
 Calls Tryz.prog 104 #[.pointer (some ⟨h,0,none⟩)] w (aJ (QB h g w (st.bind eY))):=by
 refine enter Tryz.func104 H H H ?_
 have a:=hm.blk
 refine T (Z H (O (ah ?_)))
 rcases hst:st with _|l
 have o:(none:Option (List UInt8)).bind eY=none:=rfl
 have f:dv g none w:=hst▸hm.rd
 have a:bm h 96 [.pointer (some ⟨g,0,none⟩),B false] w:=by subst hst;exact a
 rotate_left
 have f:dv g (some l) w:=hst▸hm.rd
 have a:bm h 96 [.pointer (some ⟨g,0,none⟩),B true] w:=by subst hst;exact a
 rcases o:(some l).bind eY with _|⟨n,t⟩
 ·refine ap (J H (dq H (c H (tL) (Y H (D qH H (a.cell (i:=0) H)) ?_))))
  refine aC An H H ((Fu f o)) ?_
  rintro q r ⟨d,rfl,m⟩
  have p:=(f.b6).kp d
  have k:=a.a4 d (λe=>hm.ne (cC e))
  obtain⟨w2,s2,m2,j,_⟩:=km.flag (b:=true) a hm.ne d m xu
  refine J H (aZ H (dm) (aZ H (dn) (Z H (Z H (bB (J H (J H (dq H (c H (jM) (Y H (D dw H (k.cell (i:=1) H)) (J H (V H (J H (V H (U H (aX aF aV) (bA H (dq H (c H (jM) (cZ H (s2) (bB (J H (Z H (O (aA (aM H ?_)))))))))))))))))))))))))
  exact⟨_,H,m2,H,j⟩
 ·refine ap (J H (dq H (c H (tL) (Y H (D qH H (a.cell (i:=0) H)) ?_))))
  refine aC An H H ((J0 f o)) ?_
  rintro q r ⟨d,rfl,m⟩
  have p:=(f.b6).kp d
  have k:=a.a4 d (λe=>hm.ne (cC e))
  obtain⟨w2,s2,m2,j,_⟩:=km.flag (b:=true) a hm.ne d m xu
  refine J H (aZ H (dm) (aZ H (dn) (Z H (Z H (bB (J H (J H (dq H (c H (jM) (Y H (D dw H (k.cell (i:=1) H)) (J H (V H (J H (V H (U H (cu H aV) (bA H (dq H (c H (jM) (cZ H (s2) (bB (J H (Z H (O (aA (aM H ?_)))))))))))))))))))))))))
  exact⟨_,H,m2,H,j⟩
 ·refine ap (J H (dq H (c H (tL) (Y H (D qH H (a.cell (i:=0) H)) ?_))))
  refine aC An H H ((Fu f o)) ?_
  rintro q r ⟨d,rfl,m⟩
  have p:=(f.b6).kp d
  have k:=a.a4 d (λe=>hm.ne (cC e))
  obtain⟨w2,s2,m2,j,_⟩:=km.flag (b:=false) a hm.ne d m xu
  refine J H (aZ H (dm) (aZ H (dn) (Z H (Z H (bB (J H (J H (dq H (c H (jM) (Y H (D dw H (k.cell (i:=1) H)) (J H (L H (L H (aK H (dq H (c H (jM) (cZ H (s2) (bB (J H (Z H (O (aA (aM H ?_)))))))))))))))))))))))
  exact⟨_,H,m2,H,j⟩
def Ru (h g:Nat) (w:World) (o:Option (Int×List UInt8)) (r:Value) (w':World):Prop:=
 Mv (gh h g) w w'∧match o with
  |some (n,t)=>r=I n∧jE h g (some t) w'
  |none=>r=I 0∧jE h g none w'
theorem IJ {st:Option (List UInt8)} (b:dv g st w) (h:st.bind fQ=none):Calls Tryz.prog 192 #[.pointer (some ⟨g,0,none⟩)] w (aJ λr w'=>w.grownBy w' (some g)∧r=.tuple #[I 0,I 5]∧dv g none w'):=by
 have a:st.bind eY=none:=by
  cases st with
  |none=>rfl
  |some l=>
   have:(eY l).map (λp=>(uz p.1,p.2))=none:=h
   simpa using this
 have:=Jv b
 rw[a] at this
 exact this
theorem Q6 {st:Option (List UInt8)} {n:Int} {t:List UInt8} (d:dv g st w) (h:st.bind fQ=some (n,t)):Calls Tryz.prog 192 #[.pointer (some ⟨g,0,none⟩)] w (aJ λr w'=>w.grownBy w' (some g)∧r=.tuple #[I n,I 0]∧dv g (some t) w'):=by
 obtain⟨k,c,rfl⟩:∃k,st.bind eY=some (k,t)∧n=uz k:=by
  cases st with
  |none=>cases h
  |some l=>
   have h:(eY l).map (λp=>(uz p.1,p.2))=some (n,t):=h
   obtain⟨p,b,a⟩:=gU.1 h
   simp only[Prod.mk.injEq] at a
   exact⟨p.1,by rw[←a.2];exact b,a.1.symm⟩
 have:=Jv d
 rw[c] at this
 exact this
theorem I4 {h:Nat} {st:Option (List UInt8)} (hm:jE h g st w):
 Calls Tryz.prog 105 #[.pointer (some ⟨h,0,none⟩)] w (aJ (Ru h g w (st.bind fQ))):=by
 refine enter Tryz.func105 H H H ?_
 have a:=hm.blk
 refine T (Z H (O (ah ?_)))
 rcases hst:st with _|l
 have o:(none:Option (List UInt8)).bind fQ=none:=rfl
 have f:dv g none w:=hst▸hm.rd
 have a:bm h 96 [.pointer (some ⟨g,0,none⟩),B false] w:=by subst hst;exact a
 rotate_left
 have f:dv g (some l) w:=hst▸hm.rd
 have a:bm h 96 [.pointer (some ⟨g,0,none⟩),B true] w:=by subst hst;exact a
 rcases o:(some l).bind fQ with _|⟨n,t⟩
 ·refine ap (J H (dq H (c H (tL) (Y H (D qH H (a.cell (i:=0) H)) ?_))))
  refine aC FZ H H ((IJ f o)) ?_
  rintro q r ⟨d,rfl,m⟩
  have p:=(f.b6).kp d
  have k:=a.a4 d (λe=>hm.ne (cC e))
  obtain⟨w2,s2,m2,j,_⟩:=km.flag (b:=true) a hm.ne d m xu
  refine J H (aZ H (dm) (aZ H (dn) (Z H (Z H (bB (J H (J H (dq H (c H (jM) (Y H (D dw H (k.cell (i:=1) H)) (J H (V H (J H (V H (U H (aX aF aV) (bA H (dq H (c H (jM) (cZ H (s2) (bB (J H (Z H (O (aA (aM H ?_)))))))))))))))))))))))))
  exact⟨_,H,m2,H,j⟩
 ·refine ap (J H (dq H (c H (tL) (Y H (D qH H (a.cell (i:=0) H)) ?_))))
  refine aC FZ H H ((Q6 f o)) ?_
  rintro q r ⟨d,rfl,m⟩
  have p:=(f.b6).kp d
  have k:=a.a4 d (λe=>hm.ne (cC e))
  obtain⟨w2,s2,m2,j,_⟩:=km.flag (b:=true) a hm.ne d m xu
  refine J H (aZ H (dm) (aZ H (dn) (Z H (Z H (bB (J H (J H (dq H (c H (jM) (Y H (D dw H (k.cell (i:=1) H)) (J H (V H (J H (V H (U H (cu H aV) (bA H (dq H (c H (jM) (cZ H (s2) (bB (J H (Z H (O (aA (aM H ?_)))))))))))))))))))))))))
  exact⟨_,H,m2,H,j⟩
 ·refine ap (J H (dq H (c H (tL) (Y H (D qH H (a.cell (i:=0) H)) ?_))))
  refine aC FZ H H ((IJ f o)) ?_
  rintro q r ⟨d,rfl,m⟩
  have p:=(f.b6).kp d
  have k:=a.a4 d (λe=>hm.ne (cC e))
  obtain⟨w2,s2,m2,j,_⟩:=km.flag (b:=false) a hm.ne d m xu
  refine J H (aZ H (dm) (aZ H (dn) (Z H (Z H (bB (J H (J H (dq H (c H (jM) (Y H (D dw H (k.cell (i:=1) H)) (J H (L H (L H (aK H (dq H (c H (jM) (cZ H (s2) (bB (J H (Z H (O (aA (aM H ?_)))))))))))))))))))))))
  exact⟨_,H,m2,H,j⟩
theorem WR:(Tryz.prog.info? 49).map (λi=>(i.zero,i.size,i.bytes))=some (some (.agg #[B false,.slice none 0 0,.slice none 0 0]),3,56):=by kernel_rfl
theorem tB.c6 {b:Nat} (h:aO l v w) (s:tB b v):ck (λk=>k<b) w (mj l) [v]:=by
 have d:Rp w (mj l) [v]:=Rp.bL.2 h
 unfold mj at d⊢
 simp only[Rp] at d
 obtain⟨A,n,c,u,e,f,m,o,p⟩:=d
 obtain rfl:v=.slice A n c:=by simpa using u
 simp only[ck]
 refine⟨A,n,c,H,e,f,m,o,λt=>?_⟩
 obtain⟨ad,xs,rfl,q,r⟩:=p t
 refine⟨ad,xs,H,λ_ y=>?_,q,?_⟩
 ·have:=s ad.block rfl
  omega
 ·have:∀(l:List UInt32) (ys:List Value),bG w (l.map nf) ys→cB (λk=>k<b) w (l.map nf) ys:=by
   intro l
   induction l with
   |nil=>intro ys h;simpa only[nW,bG,cB] using h
   |cons a l x=>
    intro ys h
    simp only[iy,bG,cB] at h⊢
    obtain⟨g,i,j,e,f⟩:=h
    exact⟨g,i,j,by simpa only[nf,Rp,ck] using e,x _ f⟩
  exact this l xs r
theorem tB.e4 {b:Nat} (a:tB b v) (h:aO l v w):ck (λk=>k<b) w (mj l) [v]:=tB.c6 h a
theorem Sf {st:Option (List UInt8)} (K:dv g st w) (J:∀l,st=some l→l.length≤549755813888):
 Calls Tryz.prog 193 #[.pointer (some ⟨g,0,none⟩)] w (aJ λr w'=>w.grownBy w' (some g)∧∃(q:df) (x y:Value) (s1:Option (List UInt8)),r=.tuple #[.agg #[B q.1,x,y],I (if s1.isSome then 0 else 5)]∧aO q.2.1 x w'∧aO q.2.2 y w'∧ck (λk=>k<w.heap.size) w' (dK q) [B q.1,x,y]∧dv g s1 w'∧st.bind gM=s1.map λt=>(q,t)):=by
 refine aJ.mono (Sg K J) λr w' m=>⟨m.1,?_⟩
 have d:=m.2
 have key:∀{q:df} {x y:Value},ck (λk=>k<w.heap.size) w' (mj q.2.1) [x]→ck (λk=>k<w.heap.size) w' (mj q.2.2) [y]→ck (λk=>k<w.heap.size) w' (dK q) [B q.1,x,y]:=λ{q x y} u d=>by
  simp only[dK,ck]
  exact cB.a1 (a:=[B q.1]) (by simp only[ck,B]) (cB.a1 u (cB.a1 (b:=[]) d cB.nil))
 cases s:st.bind gM with
 |none=>
  rw[s] at d
  obtain⟨v,i,⟨x,y,rfl,e,f⟩,j⟩:=d
  have o:∀{z:Value},aO [] z w'→ck (λk=>k<w.heap.size) w' (mj []) [z]:=λ{z} L=>by
   obtain⟨A,n,c,rfl,C,D,F,O,G⟩:=L
   simp only[mj,nW,ck]
   have:n=0:=by simp at F;omega
   subst this
   exact⟨A,0,c,H,H,C,D,G,λh=>by omega⟩
  exact⟨(false,[],[]),x,y,none,i,e,f,key (o e) (o f),j,H⟩
 |some p=>
  obtain⟨q,t⟩:=p
  rw[s] at d
  obtain⟨x,y,i,e,f,j,M,N⟩:=d
  exact⟨q,x,y,some t,i,e,f,key (M.e4 e) (N.e4 f),j,H⟩
def Sk (h g:Nat) (w:World) (st:Option (List UInt8)) (r:Value) (w':World):Prop:=
 Mv (gh h g) w w'∧∃qs s1,ck (λk=>k<w.heap.size) w' (nb qs) [r]∧jE h g s1 w'∧iA u5 st qs s1
theorem EN {h:Nat} {st:Option (List UInt8)} (hm:jE h g st w):
 Calls Tryz.prog 104 #[.pointer (some ⟨h,0,none⟩)] w (aJ λr w'=>Mv (gh h g) w w'∧∃N s1,r=bk (UInt64.ofNat N)∧N<18446744073709551616∧jE h g s1 w'∧(∀c,s1=some c→∃l,st=some l∧c.length≤l.length)∧∀{α:Type} (f:List UInt8→Option (α×List UInt8)),st.bind (lu f)=s1.bind (gQ f N)):=by
 refine aJ.mono (Rq hm) λr w' d=>⟨d.1,?_⟩
 have a:=d.2
 cases st with
 |none=>exact⟨0,none,a.1,G,a.2,λ_ h=>(by cases h),λ_=>rfl⟩
 |some l=>
  cases b:eY l with
  |none=>
   rw[show(some l).bind eY=none from b] at a
   exact⟨0,none,a.1,G,a.2,λ_ h=>(by cases h),λf=>by show lu f l=none;unfold lu;rw[b];rfl⟩
  |some p=>
   obtain⟨n,t⟩:=p
   rw[show(some l).bind eY=some (n,t) from b] at a
   obtain⟨e,i⟩:=yZ b
   refine⟨n,some t,a.1,i,a.2,λc j=>⟨l,H,?_⟩,λf=>by show lu f l=_;unfold lu;rw[b];rfl⟩
   cases j
   rw[e,cr]
   omega
theorem I9 {h:Nat} {st:Option (List UInt8)} (hm:jE h g st w) (hl:∀l,st=some l→l.length≤549755813888):
 Calls Tryz.prog 106 #[.pointer (some ⟨h,0,none⟩)] w (aJ (Sk h g w st)):=by
 refine enter Tryz.func106 H H H ?_
 have ag:=hm.blk.lt
 have aE:=hm.rd.lt
 have Q:∀k,gh h g k→k<w.heap.size:=λk a=>by rcases a with rfl|rfl<;>assumption
 refine T (Z H (bB (Z H (O (ah (T (J H (aC FQ H H ((EN hm)) ?_))))))))
 rintro v8 w8 ⟨R,N,s1,rfl,hN,ak,af,aa⟩
 have R:=R
 have ae:∀K,s1=some K→K.length≤549755813888:=λK e=>by
  obtain⟨l,h1,h2⟩:=af K e
  exact cf h2 (hl l h1)
 refine Z H (O (aR (pv (λ(k:Nat) (v:Value) (so:Option (List UInt8)) (d:List df)=>[(0,.pointer (some ⟨h,0,none⟩)),(3,v),(4,bk (UInt64.ofNat k))]) (λ(k:Nat) (v:Value) (so:Option (List UInt8)) (d:List df) w'=>Mv (gh h g) w w'∧jE h g so w'∧iK 49 3 w.heap.size dK d v w'∧k<18446744073709551616∧s1.bind (gQ gM N)=so.bind (λl=>(gQ gM k l).map λp=>(d++p.1,p.2))∧d.length≤549755813890∧∀l,so=some l→l.length+d.length≤549755813888) (λ(k:Nat) (v:Value) (so:Option (List UInt8)) (d:List df)=>k) (N) (.slice none 0 0) (s1) ([]) (aP H) ⟨R,ak,iK.nil _,hN,by cases s1<;>simp,aj,λl e=>by have:=ae l e;simpa using this⟩ ?_)))
 rintro k v so d wL ⟨C,j,s,a,P,aG,F⟩
 refine ah (ah ?_)
 have z:(UInt64.ofNat k).toNat=k:=by rw[jo];omega
 have A:=j.blk
 rcases fm k with u|u
 rotate_left
 rcases so with _|l
 ·refine ap (J H (U (v:=bk 0) H (cu (kW.2 (by rw[z];exact u)) oy) (J H (V H (J H ?_)))))
  refine V H (dq H (V H (c H (jM) (V H (Y H (D dw H (A.cell (i:=1) H)) (bA H (O (be H (ce (aU (aU (cg (al (T (J H (Z H (O (aA (aM H ?_)))))))))))))))))))
  exact⟨_,H,C,d,none,s.c6 py G,j,(aa gM).ai P⟩
 ·refine ap (J H (U (v:=bk 0) H (cu (kW.2 (by rw[z];exact u)) oy) (J H (V H (J H ?_)))))
  refine V H (dq H (V H (c H (jM) (V H (Y H (D dw H (A.cell (i:=1) H)) (bA H (O (bT H (aH (al (ah (aR (T (J H (dq H (c H (tL) (Y H (D qH H (A.cell (i:=0) H)) (aC UX H H ((Sf (st:=some l) j.rd (λl' e=>by cases e;have:=F l rfl;omega))) ?_))))))))))))))))))
  rintro v24 aB ⟨M,q,x,y,s2,rfl,hx,hy,an,rs,ab⟩
  have aI:=A.a4 M (λe=>j.ne (cC e))
  refine J H (aZ H (dm) (aZ H (dn) (cM iH H λg5 w5 l5 x5 k5=>cl H H k5 H bW (ay.a1 H (ay.a1 hx.one (ay.a1 hy.one ay.nil))) λaO ax av=>?_)))
  have W:=ao.a2 (x5) ax l5
  refine Z H (bB (J H (J H (U (r:=B s2.isSome) H ((by cases s2<;>exact aV)) (dq H (c H (jM) ?_))))))
  have ga:=M.ai (sH W)
  obtain⟨wf,sf,S,am,X⟩:=km.flag (b:=true) A j.ne ga (rs.aL W) xu
  have h5:g5≠h:=λe=>by have:=j.blk.lt;have:=M.size;omega
  have kf:=av.a4 X (λe=>h5 (cC e))
  have mq:Mv (λk=>k<wL.heap.size) aB wf:=((Mv.a8 W).ai (Mv.a7 X λk a _=>by obtain rfl:=cC a;exact j.blk.lt) λ_ o _=>o)
  have of:=s.mv S (λk a=>Q k a)
  have aq:ck (λk=>k<w.heap.size∨v.ownBlock=some k) wf (dK q) [B q.1,x,y]:=an.mv mq λk a=>by
   rcases a with a|a
   ·exact .inl (eT a C.size)
   ·exact .inl (s.lt k a).2
  refine cZ H (sf) (O (ap (J H (Y H (kf.ld bI H bW) ?_))))
  obtain⟨aQ,aN,az,aD,ar,au,aw,ad,aL⟩:=of.push (ty:=42) (t:=42) cn WR rfl G G G (ay.a1 rfl (ay.a1 hx.one (ay.a1 hy.one ay.nil))) aq py (by have:=F l rfl;omega) (cf C.size S.size)
  refine dJ (vs:=[(0,.agg #[B q.1,x,y])]) H ar (dW H au (Z H (f (bE (al (ap ?_))))))
  obtain⟨m,rfl⟩:∃m,k=m+1:=⟨k-1,G⟩
  have ai:=am.mv ad λn o=>by
   have:=(s.lt n o).1
   have:=Q g (.inr rfl)
   have:=Q h (.inl rfl)
   omega
  have mz:Mv (gh h g) w aD:=(C.ai S λ_ o _=>o).ai ad λn o ag=>by have:=(s.lt n o).1;omega
  have ek:UInt64.ofNat (m+1)-1=UInt64.ofNat m:=by
   refine UInt64.toNat_inj.1 ?_
   rw[Fs _ _ (vM.2 (by rw[z];show 1≤_;omega)),z,jo,show(1:UInt64).toNat=1 from rfl]
   omega
  refine J H (U (v:=bk 1) (r:=bk (UInt64.ofNat m)) H ((by rw[←ek];exact nO)) (Z H (f ?_)))
  refine nK (m) (az) (s2) (d++[q]) (aP H) ⟨mz,ai,aw,G,by
   rw[P]
   show(gQ gM (m+1) l).map _=_
   simp only[gQ]
   rw[show gM l=_ from ab]
   cases s2 with
   |none=>rfl
   |some t=>
    simp only[n9,iJ,Option.map_map]
    cases gQ gM m t<;>simp,by have:=F l rfl;simp;omega,λl' e=>by
   subst e
   have:=F l rfl
   have:=Hz _ _ _ (show gM l=some (q,l') from ab)
   simp
   omega⟩ G
 ·refine ap (J H (U (v:=bk 0) H (aX (λhh=>by have:=kW.1 hh;rw[z,u] at this;exact absurd this aF) oy) ?_))
  refine J H (L H (L H (L H (L H (aK H (O (be H (ce (aU (aU (cg (al (ah (ap (J H (Z H (O (aA (aM H ?_)))))))))))))))))))
  exact⟨_,H,C,d,so,s.c6 py G,j,by subst u;exact(aa gM).ai (GZ P)⟩
theorem ui (st:Option (List UInt8)):∃n s1,iA fQ st n s1∧j1 n∧∀{w:World} {h g:Nat},jE h g st w→Calls Tryz.prog 105 #[.pointer (some ⟨h,0,none⟩)] w (aJ λr w'=>Mv (gh h g) w w'∧r=I n∧jE h g s1 w'):=by
 cases a:st.bind fQ with
 |none=>exact⟨0,none,a,by unfold j1;omega,λhm=>aJ.mono (I4 hm) λr w' b=>by rw[a] at b;exact b⟩
 |some p=>
  obtain⟨n,t⟩:=p
  exact⟨n,some t,a,Oo (st:=st) (t:=t) a,λhm=>aJ.mono (I4 hm) λr w' b=>by rw[a] at b;exact b⟩
theorem ki.mv (X:Nat→Prop) (w:World):ki (Mv X w) (Mv X):=⟨λ_ _ h=>Mv.a8 h,λ_ _ h k=>h.ai k λ_ a _=>a⟩
theorem jd.eC {X:Nat→Prop} {b:Nat} {l:List Int} (a:∀k,X k→k<b):eG (Mv X) (jd b l):=λ_ _ _ h hm=>hm.fO h λk c d=>by
 have:=(h.lt k c).1
 have:=a k d
 omega
theorem km.dA {T:TypeId} {h:Nat} {st:Option (List UInt8)}:ig (km T h g st):=λ_ _ h a=>h.aL a
theorem VQ {X:Nat→Prop} {l:cG} {x:Value} (a:ck X w (nb l.ws) [x]) (c:ck X w (nb l.bs) [y]):ck X w (gp l) [I l.kd,I l.fr,I l.ou,I l.kh,I l.kw,I l.sr,I l.pd,x,y]:=by
 have hi:∀n:Int,ck X w (bJ n) [I n]:=λn=>by simp only[bJ,ck,I]
 unfold gp
 simp only[ck.eq_5]
 exact cB.a1 (hi _) (cB.a1 (hi _) (cB.a1 (hi _) (cB.a1 (hi _) (cB.a1 (hi _) (cB.a1 (hi _) (cB.a1 (hi _) (cB.a1 a (cB.a1 (b:=[]) c cB.nil))))))))
theorem Gd {X:Nat→Prop} {m:fj} {x:Value} (c:ck X w (sk m.inp) [x]) (d:ck X w (.sl (m.lays.map gp)) [y]):ck X w (oS m) [x,y]:=by
 unfold oS
 simp only[ck.eq_5]
 exact cB.a1 (a:=[x]) c (cB.a1 (b:=[]) d cB.nil)
theorem ck.a9 {X:Nat→Prop} {l:List Dt} (h:ck X w (.sl l) [v]):∃A n c,v=.slice A n c:=by
 simp only[ck] at h
 obtain⟨A,n,c,a,_⟩:=h
 exact⟨A,n,c,by simpa using a⟩
theorem ck.one {X:Nat→Prop} {l:List Dt} (h:ck X w (.sl l) [v]):v.oneCell'=true:=by obtain⟨A,n,c,rfl⟩:=h.a9;rfl
theorem WQ:(Tryz.prog.info? 78).map (λi=>(i.zero,i.size,i.bytes))=some (some (.agg #[I 0,I 0,I 0,I 0,I 0,I 0,I 0,.slice none 0 0,.slice none 0 0]),9,104):=by kernel_rfl
theorem WP:(Tryz.prog.info? 3).map (λi=>(i.zero,i.size,i.bytes))=some (some (I 0),1,8):=by kernel_rfl
def Qq (h g:Nat) (w:World) (st:Option (List UInt8)) (r:Value) (w':World):Prop:=
 Mv (gh h g) w w'∧∃m s1 x y,r=.agg #[x,y]∧ck (λk=>k<w.heap.size) w' (oS m) [x,y]∧jE h g s1 w'∧iA oD st m s1
theorem VO {X:Nat→Prop} (n:Int):ck X w (bJ n) [I n]:=by simp only[bJ,ck,I]
theorem Rj {h:Nat} {st:Option (List UInt8)} (hm:jE h g st w) (hl:nx 549755813888 st):
 Calls Tryz.prog 40 #[.pointer (some ⟨h,0,none⟩)] w (aJ (Qq h g w st)):=by
 refine enter Tryz.func40 H H H ?_
 have aa:=hm.blk.lt
 have dc:=hm.rd.lt
 refine T (cM vl H λX w2 l2 x2 k2=>(bB (cM vl H λo q l3 x3 k3=>?_)))
 have R:=(x2.ai x3)
 have A:∀k,gh h g k→k<w.heap.size:=λk b=>by rcases b with rfl|rfl<;>assumption
 have M:∀k,gh h g k→k<q.heap.size:=λk b=>eT (A k b) R.size
 have c9:w.heap.size≤o:=cf x2.size l3
 have an:¬gh h g o:=λu=>by have:=A o u;omega
 have bj:¬gh h g X:=λu=>by have:=A X u;omega
 have b0:=k3.lt
 have dd:=k2.lt
 have a9:X≠o:=G
 have b7:jE h g st q:=hm.aL R
 refine O (ah (iS (λ(x:Value×Option (List UInt8)×List Int)=>[(0,.pointer (some ⟨h,0,none⟩)),(2,.pointer (some ⟨X,0,none⟩)),(3,.pointer (some ⟨o,0,none⟩))]) (λx w'=>Mv (λk=>gh h g k∨k=o) q w'∧jE h g x.2.1 w'∧bm o 25 [x.1,.slice none 0 0] w'∧iK 3 1 q.heap.size bJ x.2.2 x.1 w'∧iA (lu fQ) st x.2.2 x.2.1∧nx 549755813888 x.2.1) ?_ ?_))
 ·refine T (J H (aC FQ H H ((EN b7)) ?_))
  rintro v8 w8 ⟨m8,N,s1,rfl,hN,b6,b3,bc⟩
  have m8:=m8
  have b1:nx 549755813888 s1:=λl1 e=>by
   obtain⟨l,h1,h2⟩:=b3 l1 e
   exact cf h2 (hl l h1)
  have cr:=m8.blk k3 an
  refine Z H (O (aR (pv (λ(k:Nat) (v:Value) (so:Option (List UInt8)) (ns:List Int)=>[(0,.pointer (some ⟨h,0,none⟩)),(2,.pointer (some ⟨X,0,none⟩)),(3,.pointer (some ⟨o,0,none⟩)),(4,bk (UInt64.ofNat k))]) (λ(k:Nat) (v:Value) (so:Option (List UInt8)) (ns:List Int) w'=>Mv (λk=>gh h g k∨k=o) q w'∧jE h g so w'∧bm o 25 [v,.slice none 0 0] w'∧iK 3 1 q.heap.size bJ ns v w'∧k<18446744073709551616∧s1.bind (gQ fQ N)=so.bind (λl=>(gQ fQ k l).map λp=>(ns++p.1,p.2))∧ns.length≤549755813890∧∀l,so=some l→l.length+ns.length≤549755813888) (λ(k:Nat) (v:Value) (so:Option (List UInt8)) (ns:List Int)=>k) (N) (.slice none 0 0) (s1) ([]) (aP H) ⟨m8.bd λ_ b _=>.inl b,b6,cr,iK.nil _,hN,Ng,aj,λl e=>by have:=b1 l e;simpa using this⟩ ?_)))
  rintro k v so ns wL ⟨mL,aq,kL,oL,b,hR,ca,Q⟩
  refine ah (ah ?_)
  have C:(UInt64.ofNat k).toNat=k:=by rw[jo];omega
  have kb:=aq.blk
  have aI:nx 549755813888 so:=λl e=>by have:=Q l e;omega
  rcases fm k with z|z
  rotate_left
  rcases so with _|l
  ·refine ap (J H (U (v:=bk 0) H (cu (kW.2 (by rw[C];exact z)) oy) (J H (V H (J H ?_)))))
   refine V H (dq H (V H (c H (jM) (V H (au H (D dw H (kb.cell (i:=1) H)) (bA H (O (be H (ce (aU (aU (cg ?_))))))))))))
   exact eu (v,none,ns) (aP H) ⟨mL,aq,kL,oL,(bc fQ).ai hR,nx.none _⟩
  ·refine ap (J H (U (v:=bk 0) H (cu (kW.2 (by rw[C];exact z)) oy) (J H (V H (J H ?_)))))
   refine V H (dq H (V H (c H (jM) (V H (au H (D dw H (kb.cell (i:=1) H)) (bA H (O (bT H (aH (al (ah (aR ?_))))))))))))
   obtain⟨n,s2,hq,de,bZ⟩:=ui (some l)
   have bY:∀j,gh h g j→j<wL.heap.size:=λj a=>eT (M j a) mL.size
   have df:=oL.a9
   refine Ce 5 [0,2,3,4,20,23] (Mv (gh h g) wL) (Mv (gh h g)) true rV (jE h g (some l)) (ki.mv _ _) (Mv.refl _ _) km.dA aq (λ_ _ _ _ h=>h.elim) (λ_=>by kernel_rfl) am am (bH H (λw hw=>jt) (aQ H (λw hw=>D cd H ((hw.blk kL an).k0)) (W H (Wk (S:=Is (I n)) (Z':=jE h g s2) uA H (cN.is _) (km.dA) H (λw hw hz=>by rintro _ rfl;exact(bZ hz).mono λ_ _ ⟨r,he,h1,h2,h3⟩=>.inl ⟨r,he,h1,h2,h3⟩) (wr (S:=λv w=>jd wL.heap.size [n] v w) (jd.eC bY) H (λw' hw=>by rintro _ rfl;obtain⟨r,w2,h1,h2,h3,_⟩:=NZ (w:=w') wL.heap.size [n] aj hw.size;exact⟨r,w2,h1,h2,h3⟩) (cq ?_))))))
   rintro c0 aE c8 _ rfl _ rfl _ rfl _ rfl _ b9
   obtain rfl:=bU b9
   intro dt bz
   have oG:=oL.mv aE M
   have kG:=aE.blk kL an
   obtain⟨v24,bw,cb,bn,a8⟩:=oG.app (t:=22) (ty:=22) cd WP rfl G G bz.gg (ay.a1 rfl ay.nil) (VO n) el (by have:=Q l rfl;omega) (cf mL.size aE.size)
   have co:=kG.a4 a8.grown (λe=>by have:=(oG.lt o e.symm).1;omega)
   have bg:Mv (λk=>v.ownBlock=some k) c0 bw:=Mv.a7 a8.grown λk b _=>b
   have bG:=c8.mv bg λj a=>by
    have:=(oG.lt j a).1
    have:=M g (.inr rfl)
    have:=M h (.inl rfl)
    omega
   obtain⟨a3,bh,a6,rfl⟩:=bn.a9
   obtain⟨w5,s5,q5,k5⟩:=co.dp (P:=Tryz.prog) (t:=22) (i:=0) (v:=.slice a3 bh a6) am rfl aj
   have m5:Mv (λk=>k=o) bw w5:=Mv.a7 q5 λk b _=>(cC b).symm
   have h5:=bG.mv m5 λj a=>by
    have:=A g (.inr rfl)
    have:=A h (.inl rfl)
    omega
   have o5:=bn.mv m5 λj a=>by omega
   have F:Mv (λk=>gh h g k∨k=o) q w5:=((mL.ai aE λ_ d _=>.inl d).ai bg λj a aa=>by have:=(oG.lt j a).1;omega).ai m5 λ_ a _=>.inr a
   refine dW H cb (c H (jt) (cZ H s5 (f (bE (al (ap ?_))))))
   obtain⟨y,rfl⟩:∃y,k=y+1:=⟨k-1,G⟩
   have ek:UInt64.ofNat (y+1)-1=UInt64.ofNat y:=by
    refine UInt64.toNat_inj.1 ?_
    rw[Fs _ _ (vM.2 (by rw[C];show 1≤_;omega)),C,jo,show(1:UInt64).toNat=1 from rfl]
    omega
   refine J H (U (v:=bk 1) (r:=bk (UInt64.ofNat y)) H ((by rw[←ek];exact nO)) (Z H (f ?_)))
   refine nK (y) (.slice a3 bh a6) (s2) (ns++[n]) (aP H) ⟨F,h5,k5,o5,G,Nh hR hq,by have:=Q l rfl;simp;omega,λl' e=>by
    subst e
    have:=Q l rfl
    have:=jl _ _ _ (show fQ l=some (n,l') from hq)
    simp
    omega⟩ G
  ·refine ap (J H (U (v:=bk 0) H (aX (λu=>by have:=kW.1 u;rw[C,z] at this;exact absurd this aF) oy) ?_))
   refine J H (L H (L H (L H (L H (aK H (O (be H (ce (aU (aU (cg ?_)))))))))))
   exact eu (v,so,ns) (aP H) ⟨mL,aq,kL,oL,by subst z;exact(bc fQ).ai (GZ hR),aI⟩
 rintro⟨vi,so,ns⟩ wC ⟨mC,b8,kC,oC,bb,aI⟩
 refine al (ah (T (J H (aC FQ H H ((EN b8)) ?_))))
 rintro dj s ⟨af,N2,t1,rfl,bX,b5,b4,bd⟩
 have af:=af
 have b2:nx 549755813888 t1:=λl1 e=>by
  obtain⟨l,h1,h2⟩:=b4 l1 e
  exact cf h2 (aI l h1)
 have cp:=af.blk kC an
 have cz:=oC.mv af M
 have rC:ck (λk=>k<q.heap.size) s (sk ns) [vi]:=oC.mv af M|>.c6 el G
 have lC:∀j,vi.ownBlock=some j→q.heap.size≤j∧j<s.heap.size:=cz.lt
 have ab:Mv (λk=>gh h g k∨k=o) q s:=mC.ai af λ_ d _=>.inl d
 refine Z H (O (aR (pv (λ(k:Nat) (v:Value) (so:Option (List UInt8)) (ls:List cG)=>[(0,.pointer (some ⟨h,0,none⟩)),(2,.pointer (some ⟨X,0,none⟩)),(3,.pointer (some ⟨o,0,none⟩)),(5,bk (UInt64.ofNat k))]) (λ(k:Nat) (v:Value) (so:Option (List UInt8)) (ls:List cG) w'=>Mv (λk=>gh h g k∨k=o) q w'∧jE h g so w'∧bm o 25 [vi,v] w'∧iK 78 9 s.heap.size gp ls v w'∧k<18446744073709551616∧t1.bind (gQ kK N2)=so.bind (λl=>(gQ kK k l).map λp=>(ls++p.1,p.2))∧ls.length≤549755813890∧(∀l,so=some l→l.length+ls.length≤549755813888)∧ck (λk=>k<q.heap.size∨s.heap.size≤k) w' (sk ns) [vi]∧s.heap.size≤w'.heap.size) (λ(k:Nat) (v:Value) (so:Option (List UInt8)) (ls:List cG)=>k) (N2) (.slice none 0 0) (t1) ([]) (aP H) ⟨ab,b5,cp,iK.nil _,bX,Ng,aj,(λl e=>by have:=b2 l e;simpa using this),rC.bd λ_ b=>b,bV _⟩ ?_)))
 rintro k v so ls wM ⟨mM,ar,kM,oM,b,hR,ca,Q,rM,bs⟩
 refine ah (ah ?_)
 have C:(UInt64.ofNat k).toNat=k:=by rw[jo];omega
 have kb:=ar.blk
 rcases fm k with z|z
 rotate_left
 rcases so with _|l
 ·refine ap (J H (U (v:=bk 0) H (cu (kW.2 (by rw[C];exact z)) oy) (J H (V H (J H ?_)))))
  refine V H (dq H (V H (c H (jM) (V H (au H (D dw H (kb.cell (i:=1) H)) (bA H (O (be H (ce (aU (aU (cg (al (ah ?_))))))))))))))
  have aL:=mM.blk (k2.aL x3) (λu=>u.elim bj a9)
  obtain⟨Av,nv,cv,rfl⟩:=oM.a9
  obtain⟨Ai,ni,ci,rfl⟩:=rM.a9
  obtain⟨K,sz,qz,kz⟩:=aL.c0 (P:=Tryz.prog) (t:=25) (m:=[.slice Ai ni ci,.slice Av nv cv]) rfl am (ay.a1 rfl (ay.a1 rfl ay.nil))
  have F:Mv (λk=>k=X) wM K:=Mv.a7 qz λk b _=>(cC b).symm
  have hz:=ar.mv F λj a=>by have:=A g (.inr rfl);have:=A h (.inl rfl);omega
  have mw:Mv (gh h g) w K:=((Mv.a8 R).ai mM λj a aa=>by
   rcases a with a|a
   ·exact a
   ·omega).ai F λj a aa=>by omega
  have rz:ck (λk=>k<q.heap.size) K (sk ns) [.slice Ai ni ci]:=(rM.bd (Y:=λk=>k<q.heap.size) λ_ b=>.inl (.inl b)).mv (F.bd λj a _=>by show j<q.heap.size;omega) λ_ b=>.inl b
  have lz:ck (λk=>k<s.heap.size) K (.sl (ls.map gp)) [.slice Av nv cv]:=(oM.c6 tF G).mv (F.bd λj a _=>by have:=ab.size;show j<s.heap.size;omega) λ_ b=>.inl b
  have dz:ck (λk=>k<w.heap.size) K (oS ⟨ns,ls⟩) [.slice Ai ni ci,.slice Av nv cv]:=Gd (rz.bd λj a=>.inl (eT a R.size)) (lz.bd λj a=>.inl (by have:=R.size;have:=ab.size;omega))
  refine ap (au H (kM.ld fz H eR) (cZ H sz (O (aA (pW H H kz fz H eR ?_)))))
  exact⟨_,H,mw,⟨ns,ls⟩,none,_,_,H,dz,hz,Ov bb ((bd kK).ai hR)⟩
 ·refine ap (J H (U (v:=bk 0) H (cu (kW.2 (by rw[C];exact z)) oy) (J H (V H (J H ?_)))))
  refine V H (dq H (V H (c H (jM) (V H (au H (D dw H (kb.cell (i:=1) H)) (bA H (O (bT H (aH (al (ah (aR (ah ?_)))))))))))))
  obtain⟨n1,cI,q1,i1,c1⟩:=ui (some l)
  obtain⟨n2,cO,q2,i2,c2⟩:=ui cI
  obtain⟨n3,cP,q3,i3,c3⟩:=ui cO
  obtain⟨n4,cQ,q4,i4,c4⟩:=ui cP
  obtain⟨n5,cR,q5,i5,c5⟩:=ui cQ
  obtain⟨n6,cS,q6,i6,c6⟩:=ui cR
  obtain⟨n7,cT,q7,i7,c7⟩:=ui cS
  have a5:nx 549755813888 cT:=((((((((λl' e=>by cases e;have:=Q l rfl;omega:nx 549755813888 (some l)))|>q1.d4 jl.le)|>q2.d4 jl.le)|>q3.d4 jl.le)|>q4.d4 jl.le)|>q5.d4 jl.le)|>q6.d4 jl.le)|>q7.d4 jl.le
  refine ap (J H (aC uA H H ((c1 ar)) ?_))
  rintro dk du ⟨aM,rfl,bI⟩
  have aM:=aM
  refine J H (aC uA H H ((c2 bI)) ?_)
  rintro dl dv ⟨aN,rfl,bK⟩
  have aN:=aN
  refine J H (aC uA H H ((c3 bK)) ?_)
  rintro dm dx ⟨aO,rfl,bL⟩
  have aO:=aO
  refine J H (aC uA H H ((c4 bL)) ?_)
  rintro dn dy ⟨aS,rfl,bM⟩
  have aS:=aS
  refine J H (aC uA H H ((c5 bM)) ?_)
  rintro dp dA ⟨aT,rfl,bN⟩
  have aT:=aT
  refine J H (aC uA H H ((c6 bN)) ?_)
  rintro dr dB ⟨aV,rfl,bO⟩
  have aV:=aV
  refine J H (aC uA H H ((c7 bO)) ?_)
  rintro v51 cV ⟨aW,rfl,bP⟩
  have aW:=aW
  refine dY (r:=.agg #[I n1,I n2,I n3,I n4,I n5,I n6,I n7,.slice none 0 0,.slice none 0 0]) H (by exact run_build _ _ _ _ am) (cM xC H λg6 w6 l6 x6 k6=>cl H H k6 H eJ (ay.a1 H (ay.a1 H (ay.a1 H (ay.a1 H (ay.a1 H (ay.a1 H (ay.a1 H (ay.a1 H (ay.a1 H ay.nil))))))))) λad cD bf=>?_)
  have bx:=ao.a2 (x6) cD l6
  refine O (ah ?_)
  have az:Mv (gh h g) wM cV:=(((((aM.ai aN λ_ d _=>d).ai aO λ_ d _=>d).ai aS λ_ d _=>d).ai aT λ_ d _=>d).ai aV λ_ d _=>d).ai aW λ_ d _=>d
  have ae:∀j,gh h g j→j<wM.heap.size:=λj a=>eT (M j a) mM.size
  have h9:=bP.aL bx
  have x9:=bx
  have dg:wM.heap.size≤g6:=cf az.size l6
  have bl:¬gh h g g6:=λu=>by have:=ae g6 u;omega
  refine ap (J H (aC KN H H ((I9 h9 a5)) ?_))
  rintro bt cW ⟨ag,bq,s8,aZ,bQ,q8⟩
  have ag:=ag
  have cs:=ag.blk bf bl
  obtain⟨aD,cJ,bp,cj⟩:=cs.dp (P:=Tryz.prog) (t:=42) (i:=7) (v:=bt) am aZ.one aj
  have aY:Mv (λk=>k=g6) cW aD:=Mv.a7 bp λk b _=>(cC b).symm
  have bC:=bQ.mv aY λj a=>by have:=ae g (.inr rfl);have:=ae h (.inl rfl);omega
  have db:=bf.lt
  have cE:=aZ.mv (aY.bd λj a _=>by show j<ad.heap.size;omega) λj a=>.inl a
  refine c H (gJ) (cZ H cJ (bB (J H (aC KN H H ((I9 bC (q8.d4 DG a5))) ?_))))
  rintro bu cX ⟨ai,br,s9,a0,bR,q9⟩
  have ai:=ai
  have ct:=ai.blk cj bl
  obtain⟨a1,cK,cA,cm⟩:=ct.dp (P:=Tryz.prog) (t:=42) (i:=8) (v:=bu) am a0.one aj
  have ax:Mv (λk=>k=g6) cX a1:=Mv.a7 cA λk b _=>(cC b).symm
  have bD:=bR.mv ax λj a=>by have:=ae g (.inr rfl);have:=ae h (.inl rfl);omega
  have cU:ad.heap.size≤aD.heap.size:=cf ag.size bp.size
  have cH:=a0.mv (ax.bd λj a _=>by show j<aD.heap.size;omega) λj a=>.inl a
  have cx:Mv (λk=>k<ad.heap.size) aD a1:=(ai.bd λj a _=>by have:=ae j a;show j<ad.heap.size;omega).ai ax λj a _=>by show j<ad.heap.size;omega
  have cF:=cE.mv cx λj a=>.inl a
  have ak:Mv (gh h g) wM a1:=((((az.ai (Mv.a8 x9) λ_ d _=>d).ai ag λ_ d _=>d).ai aY λj a aa=>by omega).ai ai λ_ d _=>d).ai ax λj a aa=>by omega
  have aG:∀j,gh h g j→j<s.heap.size:=λj a=>eT (M j a) ab.size
  have dh:s.heap.size≤ad.heap.size:=by have:=az.size;have:=x9.size;omega
  have oQ:=oM.mv ak aG
  have kQ:=ak.blk kM an
  have ba:∀j,(j<s.heap.size∨v.ownBlock=some j)→j<ad.heap.size:=λj a=>by
   rcases a with a|a
   ·omega
   ·have:=(oM.lt j a).2;have:=az.size;have:=x9.size;omega
  have bW:=VQ (l:=⟨n1,n2,n3,n4,n5,n6,n7,bq,br⟩) (cF.bd λj a=>.inl (ba j a)) (cH.bd λj a=>.inl (eT (ba j a) cU))
  obtain⟨dD,dC,ds,cY,cc,ch,bo,aw,di⟩:=oQ.push (ty:=23) (t:=23) dP WQ rfl G G G (ay.a1 rfl (ay.a1 rfl (ay.a1 rfl (ay.a1 rfl (ay.a1 rfl (ay.a1 rfl (ay.a1 rfl (ay.a1 aZ.one (ay.a1 a0.one ay.nil))))))))) bW tF (by have:=Q l rfl;omega) (cf bs ak.size)
  have aB:∀j,v.ownBlock=some j→s.heap.size≤j:=λj a=>(oM.lt j a).1
  have da:o<s.heap.size:=eT b0 ab.size
  have cw:=aw.blk kQ λu=>by have:=aB o u;omega
  have bS:=bD.mv aw λj a=>by have:=aB j a;have:=aG g (.inr rfl);have:=aG h (.inl rfl);omega
  obtain⟨a4,bi,a7,rfl⟩:=bo.a9
  obtain⟨a2,cL,cB,cn⟩:=cw.dp (P:=Tryz.prog) (t:=23) (i:=1) (v:=.slice a4 bi a7) am rfl aj
  have av:Mv (λk=>k=o) cY a2:=Mv.a7 cB λk b _=>(cC b).symm
  have bF:=bS.mv av λj a=>by have:=A g (.inr rfl);have:=A h (.inl rfl);omega
  have cy:=bo.mv av λj a=>by omega
  have mT:Mv (λk=>gh h g k∨k=o) q a2:=((mM.ai ak λ_ d _=>.inl d).ai aw λj a aa=>by have:=aB j a;have:=ab.size;omega).ai av λ_ a _=>.inr a
  have mI:Mv (λk=>k<q.heap.size∨s.heap.size≤k) wM a2:=((ak.bd λj a _=>.inl (M j a)).ai aw λj a _=>.inr (aB j a)).ai av λj a _=>.inl G
  have rI:=rM.mv mI λ_ b=>.inl b
  refine c H (lc) (cZ H cK (O (ap (c H (gE) (au H (D dP H (kQ.cell (i:=1) H)) (au H (cm.ld dG H eJ) (dJ (vs:=[(0,.agg #[I n1,I n2,I n3,I n4,I n5,I n6,I n7,bt,bu])]) H cc (dW H ch (c H (gE) (cZ H cL (f (bE (al (ap ?_))))))))))))))
  obtain⟨y,rfl⟩:∃y,k=y+1:=⟨k-1,G⟩
  have ek:UInt64.ofNat (y+1)-1=UInt64.ofNat y:=by
   refine UInt64.toNat_inj.1 ?_
   rw[Fs _ _ (vM.2 (by rw[C];show 1≤_;omega)),C,jo,show(1:UInt64).toNat=1 from rfl]
   omega
  refine J H (U (v:=bk 1) (r:=bk (UInt64.ofNat y)) H ((by rw[←ek];exact nO)) (Z H (f ?_)))
  refine nK (y) (.slice a4 bi a7) (s9) (ls++[⟨n1,n2,n3,n4,n5,n6,n7,bq,br⟩]) (aP H) ⟨mT,bF,cn,cy,G,Nh hR (Oq q1 q2 q3 q4 q5 q6 q7 q8 q9),by have:=Q l rfl;simp;omega,(λl' e=>by
   subst e
   have:=Q l rfl
   have:=Hv _ _ _ (show kK l=some (_,l') from Oq (st:=some l) q1 q2 q3 q4 q5 q6 q7 q8 q9)
   simp
   omega),rI,cf bs mI.size⟩ G
 ·refine ap (J H (U (v:=bk 0) H (aX (λu=>by have:=kW.1 u;rw[C,z] at this;exact absurd this aF) oy) ?_))
  refine J H (L H (L H (L H (L H (aK H (O (be H (ce (aU (aU (cg (al (ah ?_)))))))))))))
  have aL:=mM.blk (k2.aL x3) (λu=>u.elim bj a9)
  obtain⟨Av,nv,cv,rfl⟩:=oM.a9
  obtain⟨Ai,ni,ci,rfl⟩:=rM.a9
  obtain⟨K,sz,qz,kz⟩:=aL.c0 (P:=Tryz.prog) (t:=25) (m:=[.slice Ai ni ci,.slice Av nv cv]) rfl am (ay.a1 rfl (ay.a1 rfl ay.nil))
  have F:Mv (λk=>k=X) wM K:=Mv.a7 qz λk b _=>(cC b).symm
  have hz:=ar.mv F λj a=>by have:=A g (.inr rfl);have:=A h (.inl rfl);omega
  have mw:Mv (gh h g) w K:=((Mv.a8 R).ai mM λj a aa=>by
   rcases a with a|a
   ·exact a
   ·omega).ai F λj a aa=>by omega
  have rz:ck (λk=>k<q.heap.size) K (sk ns) [.slice Ai ni ci]:=(rM.bd (Y:=λk=>k<q.heap.size) λ_ b=>.inl (.inl b)).mv (F.bd λj a _=>by show j<q.heap.size;omega) λ_ b=>.inl b
  have lz:ck (λk=>k<s.heap.size) K (.sl (ls.map gp)) [.slice Av nv cv]:=(oM.c6 tF G).mv (F.bd λj a _=>by have:=ab.size;show j<s.heap.size;omega) λ_ b=>.inl b
  have dz:ck (λk=>k<w.heap.size) K (oS ⟨ns,ls⟩) [.slice Ai ni ci,.slice Av nv cv]:=Gd (rz.bd λj a=>.inl (eT a R.size)) (lz.bd λj a=>.inl (by have:=R.size;have:=ab.size;omega))
  refine ap (au H (kM.ld fz H eR) (cZ H sz (O (aA (pW H H kz fz H eR ?_)))))
  exact⟨_,H,mw,⟨ns,ls⟩,so,_,_,H,dz,hz,Ov bb (by subst z;exact(bd kK).ai (GZ hR))⟩
def ml:fj:=⟨[],[]⟩
def ng (l:List UInt8):fj×Int:=
 if 1048576<l.length then(ml,8) else if l.length<36∨l.take 4≠gR then(ml,5) else if fT (l.take (l.length-32))≠l.drop (l.length-32) then(ml,6) else
  match oD ((l.take (l.length-32)).drop 4) with
  |some (m,[])=>if gl m=true then(m,0) else(ml,1)
  |_=>(ml,5)
section
variable {l:List UInt8}
theorem V0 (h:1048576<l.length):ng l=(ml,8):=by unfold ng;rw[if_pos h]
theorem LF (h:¬1048576<l.length) (a:l.length<36∨l.take 4≠gR):ng l=(ml,5):=by unfold ng;rw[if_neg h,if_pos a]
theorem V1 (h:¬1048576<l.length) (a:¬(l.length<36∨l.take 4≠gR)) (b:fT (l.take (l.length-32))≠l.drop (l.length-32)):ng l=(ml,6):=by unfold ng;rw[if_neg h,if_neg a,if_pos b]
theorem LD (h:¬1048576<l.length) (a:¬(l.length<36∨l.take 4≠gR)) (b:¬fT (l.take (l.length-32))≠l.drop (l.length-32)):ng l=match oD ((l.take (l.length-32)).drop 4) with
 |some (m,[])=>if gl m=true then(m,0) else(ml,1)
 |_=>(ml,5):=by unfold ng;rw[if_neg h,if_neg a,if_neg b]
end
theorem Oy {α:Type} {f:List UInt8→Option (α×List UInt8)} (g:Le f):∀(n:Nat) (l:List UInt8) (xs:List α) (t:List UInt8),gQ f n l=some (xs,t)→∀a∈xs,∃l' c,f l'=some (a,c)∧l'.length≤l.length
 |0,l,xs,t,h,a,b=>by simp only[gQ,Option.some.injEq,Prod.mk.injEq] at h;rw[←h.1] at b;simp at b
 |n+1,l,xs,t,h,a,b=>by
  simp only[gQ] at h
  obtain⟨p,d,i⟩:=i8.1 h
  obtain⟨q,j,e⟩:=gU.1 i
  simp only[Prod.mk.injEq] at e
  rw[←e.1] at b
  rcases lF.1 b with rfl|b
  ·exact⟨l,_,d,bV _⟩
  ·obtain⟨l',c,k,m⟩:=Oy g n p.2 q.1 q.2 j a b
   exact⟨l',c,k,cf m (g l p.1 p.2 d)⟩
theorem DF {α:Type} {f:List UInt8→Option (α×List UInt8)} (j:Le f) {l:List UInt8} {xs:List α} {t:List UInt8} (h:lu f l=some (xs,t)):∀a∈xs,∃l' b,f l'=some (a,b)∧l'.length≤l.length:=by
 unfold lu at h
 obtain⟨p,c,d⟩:=i8.1 h
 intro a i
 obtain⟨l',b,e,g⟩:=Oy j p.1 p.2 xs t d a i
 exact⟨l',b,e,cf g (HD.le _ _ _ c)⟩
theorem OB {l t:List UInt8} {a:List df} (h:u5 l=some (a,t)) (f:l.length≤1073741824):lB a:=λq d=>by
 obtain⟨l',g,c,e⟩:=DF Hz.le h q d
 obtain⟨b,n,m⟩:=q
 have:=(Hy c).2.2
 exact⟨by show n.length≤_;omega,by show m.length≤_;omega⟩
theorem uY {l t:List UInt8} {n:Int} (h:fQ l=some (n,t)):j1 n:=Oo (st:=some l) (t:=t) h
theorem Ot {l t:List UInt8} {a:cG} (h:kK l=some (a,t)) (z:l.length≤1073741824):(lB a.ws∧lB a.bs)∧a.wf:=by
 unfold kK at h
 obtain⟨k,b,h⟩:=i8.1 h
 obtain⟨m,c,h⟩:=i8.1 h
 obtain⟨n,d,h⟩:=i8.1 h
 obtain⟨o,e,h⟩:=i8.1 h
 obtain⟨p,f,h⟩:=i8.1 h
 obtain⟨q,g,h⟩:=i8.1 h
 obtain⟨r,i,h⟩:=i8.1 h
 obtain⟨s,j,h⟩:=i8.1 h
 obtain⟨A,u,h⟩:=i8.1 h
 have v:=jl _ k.1 k.2 b
 have a2:=jl _ m.1 m.2 c
 have a3:=jl _ n.1 n.2 d
 have a4:=jl _ o.1 o.2 e
 have a5:=jl _ p.1 p.2 f
 have w:=jl _ q.1 q.2 g
 have x:=jl _ r.1 r.2 i
 have y:=DG _ s.1 s.2 j
 simp only[Option.some.injEq,Prod.mk.injEq] at h
 obtain⟨rfl,_⟩:=h
 refine⟨⟨OB j G,OB u G⟩,?_⟩
 simp only[cG.wf,cG.ints,lF,vw,xe,Gu,forall_eq]
 exact⟨uY b,uY c,uY d,uY e,uY f,uY g,uY i⟩
theorem Zp {l t:List UInt8} {m:fj} (h:oD l=some (m,t)) (o:l.length≤1073741824):qh m∧m.wf:=by
 unfold oD at h
 obtain⟨g,d,h⟩:=i8.1 h
 obtain⟨p,e,h⟩:=i8.1 h
 simp only[Option.some.injEq,Prod.mk.injEq] at h
 obtain⟨rfl,_⟩:=h
 have k:=Ou jl.le _ g.1 g.2 d
 refine⟨λa c=>?_,λn j=>?_,λa c=>?_⟩
 ·obtain⟨l',i,b,f⟩:=DF Hv.le e a c
  exact(Ot b G).1
 ·obtain⟨l',i,b,f⟩:=DF jl.le d n j
  exact uY b
 ·obtain⟨l',i,b,f⟩:=DF Hv.le e a c
  exact(Ot b G).2
theorem MO:∀{ls:List cG} {i:Nat},lV i ls=true→∀l∈ls,fI l.ws=true∧fI l.bs=true
 |[],_,_,l,b=>by simp at b
 |a::ls,i,h,l,b=>by
  simp only[lV,ex] at h
  rcases lF.1 b with rfl|b
  ·have c:=h.1
   simp only[fJ,ex] at c
   exact c.1
  ·exact MO h.2 l b
theorem Ye {m:fj} (n:gl m=true) (hs:qh m) (h:m.wf) (b:wT m≤17592186044416):m.ok:=by
 have g:=n
 simp only[gl,ex,gI] at g
 have d:∀{c:List df},fI c=true→lB c→∀q∈c,A4 q:=λ{c} j hs q d=>by
  refine⟨kR.1 j q d,?_,?_⟩
  ·have:=(hs q d).1;omega
  ·have:=(hs q d).2;omega
 have k:∀l∈m.lays,gX l.ws≤j2 m.lays∧gX l.bs≤j2 m.lays:=by
  have:∀ls:List cG,∀l∈ls,gX l.ws≤j2 ls∧gX l.bs≤j2 ls:=by
   intro ls
   induction ls with
   |nil=>intro l b;simp at b
   |cons a ls i=>
    intro l b
    simp only[j2]
    rcases lF.1 b with rfl|b
    ·exact⟨G,G⟩
    ·have:=i l b
     exact⟨G,G⟩
  exact this m.lays
 have f:∀c:List df,c.length≤gX c:=by
  intro c
  induction c with
  |nil=>simp
  |cons q c i=>simp only[cw,gX];omega
 unfold wT at b
 refine⟨G,G,h.1,λl b=>?_⟩
 have e:=MO g.2 l b
 have o:=k l b
 have p:=f l.ws
 have r:=f l.bs
 exact⟨h.2 l b,G,G,d e.1 (hs l b).1,d e.2 (hs l b).2⟩
theorem VZ {m:fj} (b:gl m=true) (hs:qh m) (j:m.wf) (i:wT m≤17592186044416) (l:(jO m).length≤1048576):ng (jO m)=(m,0):=by
 have f:=nF (gR++iT m)
 have n:(jO m).length=(gR++iT m).length+32:=by unfold jO;rw[cr,f]
 have e:(jO m).length-32=(gR++iT m).length:=G
 have k:(gR++iT m).length=4+(iT m).length:=by rw[cr];rfl
 have a:(jO m).take ((jO m).length-32)=gR++iT m:=by rw[e];unfold jO;rw[EK];rfl
 have g:(jO m).drop ((jO m).length-32)=fT (gR++iT m):=by rw[e];unfold jO;rw[List.drop_left'];rfl
 have c:(jO m).take 4=gR:=by
  unfold jO
  rw[fh]
  exact EK (l₁:=gR) H
 rw[LD G (λh=>h.elim (λh=>by omega) λh=>h c) (by rw[a,g];exact λh=>h rfl),a]
 have d:(gR++iT m).drop 4=iT m:=List.drop_left' (l₁:=gR) rfl
 rw[d]
 have:=Zo (Ye b hs j i) []
 rw[jU] at this
 rw[this]
 show(if gl m=true then(m,(0:Int)) else(ml,1))=_
 rw[if_pos b]
section
variable {P:Program} {ops:Array Oper} {Env:World→Prop} {Rl:World→World→Prop} {mo:Bool} {Pn:List PanicEntry→World→Prop} {Z:ee} {N:Nat} {F:dO} {K:dO→ee→Prop} {rest:List Oper} {d:Nat} {ty:TypeId} {pos:String} {aft:Array Edge}
theorem Wt {t:TypeId} {x:Operand} {r:Value} (e:look F x=Is u) (b:Nat.blt d N=true) (c:∀w,Env w→(Instr.arrayAt t u).run P w=.ok r w)
 (k:cj P ops Env Rl mo Pn N rest (di F (some d) (Is r)) Z K):cj P ops Env Rl mo Pn N (⟨some d,.sliceToArrayPointer t x,ty,pos,aft,none⟩::rest) F Z K:=
 uF (xs:=[x]) (vs:=[u]) (f:=λ|[a]=>Instr.arrayAt t a|_=>stuck "") (λ_=>rfl) lw (by simp[e]) b c k
end
theorem Zf {l:List UInt8} (h:cV l v w) (j:l.length=32):∃ad,(∀w':World,(Instr.arrayAt 90 v).run Tryz.prog w'=.ok (.pointer (some ad)) w')∧ez w ad (l.map U8):=by
 obtain⟨A,n,c,rfl,f,g,a,b,i⟩:=h
 have e:n=32:=by simp at a;omega
 subst e
 obtain⟨ad,rfl,d⟩:=b G
 exact⟨ad,λw'=>by simp[Instr.arrayAt,run_underlying Tryz.underlying90],d⟩
theorem YO {l:List UInt8} (h:ez w ad (l.map U8)) (a:l.length=32):(Instr.loadAt 90 (.pointer (some ad))).run Tryz.prog w=.ok (.agg (l.map U8).toArray) w:=
 h.ld uw rfl (by rw[dN,a];exact DU)
theorem TA:aY Tryz.prog 9:=⟨_,Tryz.func9,am,rfl⟩
theorem IB {st:Option (List UInt8)} (c:dv g st w):Calls Tryz.prog 41 #[.pointer (some ⟨g,0,none⟩)] w (aJ λr w'=>w=w'∧r=I (if st=some [] then 0 else 5)):=(QC c).mono λ_ _ ⟨v,h,a,b⟩=>⟨v,h,b.symm,a⟩
def rL (base:Nat) (l:List UInt8) (r:Value) (w:World):Prop:=∃x y,r=.tuple #[.agg #[x,y],I (ng l).2]∧ck (λk=>k<base) w (oS (ng l).1) [x,y]
theorem rL.err {base:Nat} {l:List UInt8} {n:Int} (h:ng l=(ml,n)):rL base l (.tuple #[.agg #[.slice none 0 0,.slice none 0 0],I n]) w:=⟨_,_,by rw[h],by rw[h];exact Gd ck.da ck.da⟩
theorem Qe {l:List UInt8} (s:cV l v w):
 Calls Tryz.prog 9 #[v] w (aJ λr w'=>ao w w'∧rL w.heap.size l r w'):=by
 refine enter Tryz.func9 H H H ?_
 have bu:=s.len
 refine ar (cM vl H λg2 w2 u d n=>(Z H (O (ah (ar (J H (aW H (ro (s.aL d)) (U H (cY) (O (bc H (λh9=>?_) (λh9=>?_)))))))))))
 ·have A:1048576<l.length:=G
  refine ar (dY (r:=.agg #[.slice none 0 0,.slice none 0 0]) H (by exact run_build _ _ _ _ am) (cl H H n H eR (ay.a1 H (ay.a1 H ay.nil)) λbJ bk a7=>?_))
  have br:=ao.a2 (d) bk u
  refine Z H (O (aA (aI (nN H H H a7 fz H eR ?_))))
  exact⟨_,H,br,rL.err (V0 A)⟩
 ·have A:¬1048576<l.length:=G
  refine aH (al (ah (ah ?_)))
  rcases jn l.length 36 with ab|ab
  ·refine ap (J H (aW H (ro (s.aL d)) (U H (cu G bO) (J H (L H (L H (L H ?_)))))))
   refine L H (bA H (O (bT H (ar (dY (r:=.agg #[.slice none 0 0,.slice none 0 0]) H (by exact run_build _ _ _ _ am) (cl H H n H eR (ay.a1 H (ay.a1 H ay.nil)) λbo av an=>?_))))))
   have ax:=ao.a2 (d) av u
   refine Z H (O (aA (aI (nN H H H an fz H eR ?_))))
   exact⟨_,H,ax,rL.err (LF A (by first|exact .inl ab|exact .inr M))⟩
  ·refine ap (J H (aW H (ro (s.aL d)) (U H (aX G bO) (J H (V H (J H (V H ?_)))))))
   obtain⟨bz,bb,aT⟩:=Ho (s.aL d) (hi:=4) G .i64
   refine jx H H H H H (bb _) (V H (cJ H (Oj aT) (V H (U (v:=S [82,76,85,77]) H (Hn) (aK H (O (bc H (λX=>?_) (λX=>?_))))))))
   ·have M:l.take 4≠gR:=X
    refine ar (dY (r:=.agg #[.slice none 0 0,.slice none 0 0]) H (by exact run_build _ _ _ _ am) (cl H H n H eR (ay.a1 H (ay.a1 H ay.nil)) λbo av an=>?_))
    have ax:=ao.a2 (d) av u
    refine Z H (O (aA (aI (nN H H H an fz H eR ?_))))
    exact⟨_,H,ax,rL.err (LF A (by first|exact .inl ab|exact .inr M))⟩
   ·have M:¬(l.length<36∨l.take 4≠gR):=λhh=>hh.elim (λhh=>by omega) X
    refine aH (al (ar (J H (aW H (ro (s.aL d)) (U (r:=I ((l.length-32:Nat):Int)) H (by have e:((l.length-32:Nat):Int)=(l.length:Int)-32:=G;rw[e];exact dM) (Z H (O (ah (ah (cz 9 [0,2,4,27,32] am am ?_))))))))))
    have aG:=s.aL d
    obtain⟨bC,bf,aU⟩:=Ho aG (hi:=l.length-32) G .i64
    obtain⟨bD,bg,aV⟩:=DB aG (lo:=l.length-32) G .i64
    have aq:(l.drop (l.length-32)).length=32:=by rw[gA];omega
    obtain⟨ad,bh,aY⟩:=Zf aV aq
    refine W H (W H (yw (a:=none) (b:=some (I ((l.length-32:Nat):Int))) H H H H (λw _=>bf w) (fP (S:=Is (.agg ((fT (l.take (l.length-32))).map U8).toArray)) Lg (cN.is _) H H (λw hw=>Ly (aU.aL hw)) (W H (W H (yw (a:=some (I ((l.length-32:Nat):Int))) (b:=none) H H H H (λw _=>bg w) (Wt H H (λw _=>bh w) (aQ H (λw hw=>YO (aY.aL hw) aq) (cq ?_)))))))))
    rintro bP K _ a2
    obtain rfl:=bU a2
    rintro _ rfl _ rfl _ rfl _ rfl
    refine U H ((by exact Y2 (nF _) aq)) (O (bc H (λaa=>?_) (λaa=>?_)))
    ·have h3:fT (l.take (l.length-32))≠l.drop (l.length-32):=aa
     refine ar (dY (r:=.agg #[.slice none 0 0,.slice none 0 0]) H (by exact run_build _ _ _ _ am) (cl H H (n.aL K) H eR (ay.a1 H (ay.a1 H ay.nil)) λbM bl a9=>?_))
     have bs:=ao.a2 ((d.ai K)) bl u
     refine Z H (O (aA (aI (nN H H H a9 fz H eR ?_))))
     exact⟨_,H,bs,rL.err (V1 A M h3)⟩
    ·have h3:¬fT (l.take (l.length-32))≠l.drop (l.length-32):=aa
     obtain⟨o,af⟩:∃o,o=(l.take (l.length-32)).drop 4:=⟨_,rfl⟩
     have bt:o.length≤1048576:=by rw[af,gA,eS];omega
     have N:=LD A M h3
     rw[←af] at N
     refine aH (al (ar (J H (J H ?_))))
     obtain⟨v37,bi,aB⟩:=Zb (s.aL (d.ai K)) (lo:=4) (hi:=l.length-32) G G .i64 .i64
     refine jx H H H H H (bi _) ?_
     rw[←af] at aB
     refine aC UJ H H ((RM aB G)) ?_
     rintro bE aO ⟨aR,g,hg,rfl,rd⟩
     obtain⟨h,aP,a3,bw,aS,a8⟩:=Hd (P:=Tryz.prog) (w:=aO) (T:=96) (cs:=[.pointer (some ⟨g,0,none⟩),B true])
     have a1:jE h g (some o) aP:=⟨a8,rd.aL aS,by have:=rd.lt;omega⟩
     refine dY (r:=.agg #[.pointer (some ⟨g,0,none⟩),B true]) H (run_build _ _ _ _ am) (nL H a3 (Z H (bB (J H ?_))))
     have R:ao w2 aP:=((K.ai aR).ai aS)
     have bx:w2.heap.size≤aO.heap.size:=cf (by have:=K.size;omega) aR.size
     have a0:∀k,gh h g k→w2.heap.size≤k:=λk Q=>by
      rcases Q with rfl|rfl
      ·omega
      ·have:=K.size;omega
     refine aC Uq H H ((Rj a1 (λl' e=>by cases e;omega))) ?_
     rintro bF bK ⟨ba,m,s1,x,y,rfl,rq,aD,C⟩
     have z:=ba.b5 R a0
     obtain⟨xi,yl,a4,dI,dL⟩:=Ct rq.rp
     obtain⟨rfl,rfl⟩:x=xi∧y=yl:=by simpa using a4
     obtain⟨A1,n1,c1,rfl⟩:=dI.a9
     obtain⟨A2,n2,c2,rfl⟩:=dL.a9
     have kh:=aD.blk
     refine cM vl H λg6 w6 l6 x6 k6=>cl H H k6 H eR (ay.a1 H (ay.a1 H ay.nil)) λbN bm aL=>?_
     have j:=ao.a2 (x6) bm l6
     refine O (ah (ah ?_))
     have aN:=aD.rd.aL j
     rcases s1 with _|(_|⟨c,t⟩)
     ·have q:ng l=(ml,5):=by rw[N];cases hx:oD o with
       |none=>rfl
       |some p=>obtain⟨p1,p2⟩:=p;have C:oD o=none:=C;rw[hx] at C;cases C
      have kh:=kh.aL j
      refine ap (J H (dq H (az H (jM) (Y H (D dw H (kh.cell (i:=1) H)) (cP H cW (J H (L H (L H (L H (L H (L H (L H (bA H (f (al (bT H (ar (dY (r:=.agg #[.slice none 0 0,.slice none 0 0]) H (by exact run_build _ _ _ _ am) (cl H H (n.aL (z.ai j)) H eR (ay.a1 H (ay.a1 H ay.nil)) λbn au ak=>?_)))))))))))))))))))
      have aw:=ao.a2 (((d.ai z).ai j)) au u
      refine Z H (O (aA (aI (nN H H H ak fz H eR ?_))))
      exact⟨_,H,aw,rL.err q⟩
     ·have ag:oD o=some (m,[]):=C
      have kh:=kh.aL j
      refine ap (J H (dq H (az H (jM) (Y H (D dw H (kh.cell (i:=1) H)) (cP H cW (J H (V H (J H (V H (dq H (V H (az H (tL) (V H (Y H (D qH H (kh.cell (i:=0) H)) (V H (aC Kx H H ((IB aN)) ?_))))))))))))))))
      rintro v53 _ ⟨rfl,rfl⟩
      refine V H (U H (aX aF dZ) (aK H (O (be H (aH (al (ah (ah ?_))))))))
      have aE:=Zp ag G
      refine ap (Y H (aL.ld Tryz.underlying25 H eR) (aC z8 H H ((zh (dI.aL j) (dL.aL j) aE.1 (λa ha=>aE.2.2 a ha a.kd (by simp[cG.ints])))) ?_))
      rintro bG bL ⟨F,rfl⟩
      have aZ:=(j.ai F)
      refine cP H cW (O (lQ H (λae=>?_) (λae=>?_)))
      ·have ai:gl m=false:=by simpa using ae
       have q:ng l=(ml,1):=by rw[N,ag];show(if gl m=true then(m,(0:Int)) else(ml,1))=_;rw[ai];rfl
       refine ar (dY (r:=.agg #[.slice none 0 0,.slice none 0 0]) H (by exact run_build _ _ _ _ am) (cl H H (n.aL ((z.ai j).ai F)) H eR (ay.a1 H (ay.a1 H ay.nil)) λbH bj a5=>?_))
       have bp:=ao.a2 ((((d.ai z).ai j).ai F)) bj u
       refine Z H (O (aA (aI (nN H H H a5 fz H eR ?_))))
       exact⟨_,H,bp,rL.err q⟩
      ·have ai:gl m=true:=by simpa using ae
       have q:ng l=(m,0):=by rw[N,ag];show(if gl m=true then(m,(0:Int)) else(ml,1))=_;rw[ai];rfl
       refine aH (al (ar (Y H ((aL.aL F).ld fz H eR) (cl H H (n.aL ((z.ai j).ai F)) H eR (ay.a1 H (ay.a1 H ay.nil)) λbI aM a6=>?_))))
       have bq:=ao.a2 ((((d.ai z).ai j).ai F)) aM u
       refine Z H (O (aA (nN H H H a6 fz H eR ?_)))
       exact⟨_,H,bq,.slice A1 n1 c1,.slice A2 n2 c2,by rw[q];rfl,by rw[q];exact rq.mv ((Mv.a8 aZ).ai (Mv.a7 aM λk Q _=>by obtain rfl:=cC Q;exact eT n.lt R.size) λ_ hn _=>hn) λk Q=>.inl (eT Q (by have:=R.size;have:=d.size;omega))⟩
     ·have q:ng l=(ml,5):=by rw[N,show oD o=some (m,c::t) from C]
      have kh:=kh.aL j
      refine ap (J H (dq H (az H (jM) (Y H (D dw H (kh.cell (i:=1) H)) (cP H cW (J H (V H (J H (V H (dq H (V H (az H (tL) (V H (Y H (D qH H (kh.cell (i:=0) H)) (V H (aC Kx H H ((IB aN)) ?_))))))))))))))))
      rintro v53 _ ⟨rfl,rfl⟩
      refine V H (U H (cu aj dZ) (aK H (O (bT H (ar (dY (r:=.agg #[.slice none 0 0,.slice none 0 0]) H (by exact run_build _ _ _ _ am) (cl H H (n.aL (z.ai j)) H eR (ay.a1 H (ay.a1 H ay.nil)) λbn au ak=>?_)))))))
      have aw:=ao.a2 (((d.ai z).ai j)) au u
      refine Z H (O (aA (aI (nN H H H ak fz H eR ?_))))
      exact⟨_,H,aw,rL.err q⟩
def lZ (v:Int):bj:=⟨[⟨v,1⟩],0⟩
def ln (c:Rat):bj:=⟨[],c⟩
def yp (xs:List bj) (c:Nat→Rat) (s:bj):Nat→bj
 |0=>s
 |k+1=>iR (yp xs c s k) (mP (xs.getD k zF) (c k))
def oc (xs:List bj) (win:List Int) (c:Nat→Rat) (s:bj):Nat→bj
 |0=>s
 |k+1=>if 0≤win.getD k (-1) then iR (oc xs win c s k) (mP (xs.getD (win.getD k (-1)).toNat zF) (c k)) else oc xs win c s k
def za (l:List bj):Nat→bj
 |0=>zF
 |k+1=>iR (za l k) (l.getD k zF)
def yG (l:List bj):bj:=mP (za l l.length) (mkRat 1 l.length)
def fq (n:Int) (l us:List bj):bj×List bj:=
 if _h:l.length≤1 then(l.getD 0 zF,us) else
  let p:=fq n (l.take ((l.length+1)/2)) us
  let q:=fq n (l.drop ((l.length+1)/2)) p.2
  (iR p.1 (lZ (n+q.2.length)),q.2++[y9 q.1 p.1])
termination_by l.length
decreasing_by
 ·rw[eS];omega
 ·rw[gA];omega
theorem G3 {n:Int} {l us:List bj} (h:l.length=1):fq n l us=(l.getD 0 zF,us):=by rw[fq,wm G]
theorem G2 {n:Int} {l us:List bj} (h:1<l.length):fq n l us=(iR (fq n (l.take ((l.length+1)/2)) us).1 (lZ (n+(fq n (l.drop ((l.length+1)/2)) (fq n (l.take ((l.length+1)/2)) us).2).2.length)),(fq n (l.drop ((l.length+1)/2)) (fq n (l.take ((l.length+1)/2)) us).2).2++[y9 (fq n (l.drop ((l.length+1)/2)) (fq n (l.take ((l.length+1)/2)) us).2).1 (fq n (l.take ((l.length+1)/2)) us).1]):=by
 rw[fq,dif_neg G]
def Bq (D M:Nat) (c:Rat):Prop:=∃z:Int,c*((D:Int):Rat)=(z:Rat)∧z.natAbs≤M*D
theorem Bq.zero {D M:Nat}:Bq D M 0:=⟨0,by grind,aj⟩
theorem Bq.one {D M:Nat} (h:1≤M):Bq D M 1:=⟨D,by grind,by rw[Et];exact Jm _ h⟩
theorem Bq.mono {D M:Nat} {c:Rat} (h:Bq D M c) (d:M≤N):Bq D N c:=by
 obtain⟨z,a,b⟩:=h
 exact⟨z,a,cf b (fH _ d)⟩
theorem Bq.add {D M:Nat} {a b:Rat} (h:Bq D M a) (k:Bq D N b):Bq D (M+N) (a+b):=by
 obtain⟨z,c,d⟩:=h
 obtain⟨y,e,f⟩:=k
 refine⟨z+y,by rw[Rat.intCast_add];grind,cf (II _ _) ?_⟩
 rw[fk];omega
theorem Bq.mul {D E M:Nat} {a b:Rat} (h:Bq D M a) (k:Bq E N b):Bq (D*E) (M*N) (a*b):=by
 obtain⟨z,c,d⟩:=h
 obtain⟨y,e,f⟩:=k
 refine⟨z*y,by rw[Rat.intCast_mul,←c,←e,qu,Rat.intCast_mul];grind,?_⟩
 rw[Bz]
 exact cf (gi d f) (xP (by rw[Nat.mul_mul_mul_comm]))
theorem Bq.up {D M:Nat} {a:Rat} (h:Bq D M a) (E:Nat):Bq (D*E) M a:=by
 have:=h.mul (Bq.one (D:=E) (M:=1) (bV _))
 rwa [BU,rR] at this
theorem Bq.e2 {D M:Nat} {a:Rat} (h:Bq D M a) (E:Nat):Bq (E*D) M a:=by rw[fw];exact h.up E
theorem Bq.neg {D M:Nat} {a:Rat} (h:Bq D M a):Bq D M (a* -1):=by
 obtain⟨z,b,c⟩:=h
 exact⟨-z,by rw[Rat.intCast_neg];grind,by rwa [Int.natAbs_neg]⟩
theorem Bq.of {x:Rat} {M:Nat} (h:x.num.natAbs≤M):Bq x.den M x:=⟨x.num,by
 have b:x*(x.den:Rat)=(x.num:Rat):=by
  have a:=zK x
  rw[JD] at a
  have c:(x.den:Rat)≠0:=λe=>x.den_nz (Rat.natCast_eq_zero_iff.1 e)
  rw[Rat.div_def] at a
  have d:=Rat.mul_inv_cancel _ c
  grind
 rw[JB]
 exact b,cf h (qD _ x.den_pos)⟩
theorem Bq.bt {D M d m:Nat} {c:Rat} (h:Bq D M c) (b:0<D) (a:D<2^d) (i:M<2^m):bt c≤1+(d+m):=by
 obtain⟨z,f,g⟩:=h
 have j:((D:Int):Rat)≠0:=λh=>by
  have:=Rat.intCast_eq_zero_iff.1 h
  omega
 have e:c=mkRat z D:=by
  rw[JD,←f,Rat.div_def,←JB,Rat.mul_assoc,Rat.mul_inv_cancel _ j,BU]
 rw[e]
 refine Cd b (nD ?_) (nD (eT a (lH G G)))
 rw[rP,jF]
 exact nA g (Nat.mul_lt_mul'' i a)
structure Bd (D M:Nat) (n:Int) (f:bj):Prop where
 ok:jk f n=true
 c:Bq D M f.ct
 t:∀t∈f.ts,Bq D M t.co
theorem Bd.zero {D M:Nat} {n:Int}:Bd D M n zF:=⟨rfl,Bq.zero,λt h=>by simp[zF] at h⟩
theorem Bd.num {D M:Nat} {n:Int} {c:Rat} (h:Bq D M c):Bd D M n (ln c):=⟨rfl,h,λt h=>by simp[ln] at h⟩
theorem Bd.var {D M:Nat} {n v:Int} (h:1≤M) (a:0≤v) (b:v<n):Bd D M n (lZ v):=⟨pT.2 ⟨⟨a,b,aj⟩,rfl⟩,Bq.zero,λt c=>by
 obtain rfl:t=⟨v,1⟩:=by simpa [lZ] using c
 exact Bq.one h⟩
theorem Bd.mono {D M N:Nat} {n m:Int} {f:bj} (h:Bd D M n f) (a:M≤N) (b:n≤m):Bd D N m f:=⟨Dc b h.ok,h.c.mono a,λt c=>(h.t t c).mono a⟩
theorem Bd.up {D M:Nat} {n:Int} {f:bj} (h:Bd D M n f) (E:Nat):Bd (D*E) M n f:=⟨h.ok,h.c.up E,λt a=>(h.t t a).up E⟩
theorem AX {v:Int} {c:Rat} {x:cX} (h:x∈gd v c):x.co=c:=by
 unfold gd at h
 split at h
 ·simp at h
 ·obtain rfl:x=⟨v,c⟩:=by simpa using h
  rfl
theorem Xw {P:Rat→Prop} {c:Rat}:∀a b:List cX,(∀t∈a,P t.co)→(∀u∈b,P (u.co*c))→(∀t∈a,∀u∈b,P (t.co+u.co*c))→∀x∈fX c a b,P x.co:=by
 refine tR ?_ ?_ ?_ ?_
 ·intro _ _ _ x d
  have:x∈([]:List cX):=d
  simp at this
 ·intro t a k f g i x d
  rw[C2] at d
  rcases oK.1 d with d|d
  ·rw[AX d];exact f t aj
  ·exact k (λt e=>f t (by simp[e])) g (λt e=>i t (by simp[e])) x d
 ·intro u b k f g i x d
  rw[C3] at d
  rcases oK.1 d with d|d
  ·rw[AX d];exact g u aj
  ·exact k f (λt e=>g t (by simp[e])) (λt e=>by simp at e) x d
 ·intro t a u b i1 i2 i3 f g i x d
  have l:∀t∈a,P t.co:=λt e=>f t (by simp[e])
  have m:∀u∈b,P (u.co*c):=λt e=>g t (by simp[e])
  rcases Ep t.va u.va with h|h|h
  ·rw[AO h] at d
   rcases oK.1 d with d|d
   ·rw[AX d];exact f t aj
   ·exact i1 l g (λt e=>i t (by simp[e])) x d
  ·rw[AM G G] at d
   rcases oK.1 d with d|d
   ·rw[AX d];exact i t aj u aj
   ·exact i3 l m (λt e u j=>i t (by simp[e]) u (by simp[j])) x d
  ·rw[AN h] at d
   rcases oK.1 d with d|d
   ·rw[AX d];exact g u aj
   ·exact i2 f m (λt e u j=>i t e u (by simp[j])) x d
theorem Bd.merge {D M:Nat} {n:Int} {f g:bj} {c:Rat} (a:Bd D M n f) (i:jk g n=true) (h:Bq D N (g.ct*c)) (e:∀t∈g.ts,Bq D N (t.co*c)):Bd D (M+N) n (pJ f g c):=
 ⟨X9 a.ok i,a.c.add h,Xw _ _ (λt b=>(a.t t b).mono G) (λu d=>(e u d).mono G) (λt b u d=>(a.t t b).add (e u d))⟩
theorem Bd.add {D M:Nat} {n:Int} {f g:bj} (b:Bd D M n f) (a:Bd D N n g):Bd D (M+N) n (iR f g):=b.merge a.ok (by rw[BU];exact a.c) (λt c=>by rw[BU];exact a.t t c)
theorem Bd.sub {D M:Nat} {n:Int} {f g:bj} (b:Bd D M n f) (a:Bd D N n g):Bd D (M+N) n (y9 f g):=b.merge a.ok a.c.neg (λt c=>(a.t t c).neg)
theorem Bd.scale {D E M:Nat} {n:Int} {f:bj} {c:Rat} (a:Bd D M n f) (b:Bq E N c):Bd (D*E) (M*N) n (mP f c):=by
 have:=(Bd.zero (D:=D*E) (M:=0) (n:=n)).merge (f:=zF) (g:=f) (c:=c) (N:=M*N) a.ok (a.c.mul b) (λt d=>(a.t t d).mul b)
 rwa [gB] at this
theorem Bd.getD {D M:Nat} {n:Int} {l:List bj} (h:∀f∈l,Bd D M n f) (k:Nat):Bd D M n (l.getD k zF):=by
 rw[mU]
 cases a:l[k]? with
 |none=>exact Bd.zero
 |some f=>exact h f (tA a)
theorem Bq.getD {D M:Nat} {l:List Rat} (h:∀c∈l,Bq D M c) (k:Nat):Bq D M (l.getD k 0):=by
 rw[mU]
 cases a:l[k]? with
 |none=>exact Bq.zero
 |some f=>exact h f (tA a)
theorem Tk {l:List cX} (h:∀t∈l,bt t.co≤k):fM l≤l.length*k:=by
 induction l with
 |nil=>simp[fM]
 |cons t l b=>
  have:=h t aj
  have:=b λt a=>h t (by simp[a])
  rw[fM,cw,fk,nC]
  omega
def jH (f:bj):Prop:=fR f≤1048576∧f.ts.length≤48
theorem Bd.small {D M:Nat} {n:Int} {f:bj} (h:Bd D M n f) (l:0≤n) (k:n≤48) (a:0<D) (b:D<2^20010) (c:M<2^280):jH f:=by
 have e:=ND h.ok G
 have g:=h.c.bt a b c
 have i:=Tk λt d=>(h.t t d).bt a b c
 have j:f.ts.length*(1+(20010+280))≤48*20291:=gi G G
 refine⟨?_,G⟩
 show bt f.ct+fM f.ts≤_
 omega
section
variable {D E M:Nat} {n:Int} {xs:List bj} {c:Nat→Rat} {s:bj}
theorem Bd.den (b:∀f∈xs,Bd D M n f) (a:∀k,Bq E 4294967296 (c k)) (hs:Bd (D*E) (M*4294967296) n s):∀k,Bd (D*E) ((k+1)*(M*4294967296)) n (yp xs c s k)
 |0=>by rw[gB,nC];exact hs
 |k+1=>by
  have:=(Bd.den b a hs k).add ((Bd.getD b k).scale (a k))
  rw[nZ (k+1)]
  exact this
theorem Bd.e0 {win:List Int} (b:∀f∈xs,Bd D M n f) (a:∀k,Bq E 4294967296 (c k)) (hs:Bd (D*E) (M*4294967296) n s):∀k,Bd (D*E) ((k+1)*(M*4294967296)) n (oc xs win c s k)
 |0=>by rw[gB,nC];exact hs
 |k+1=>by
  have d:=Bd.e0 (win:=win) b a hs k
  rw[nZ (k+1)]
  unfold oc
  split
  ·exact d.add ((Bd.getD b _).scale (a k))
  ·exact d.mono (Jl _ _) (me _)
theorem Bd.sum {l:List bj} (a:∀f∈l,Bd D M n f):∀k,Bd D (k*M) n (za l k)
 |0=>Bd.zero
 |k+1=>by
  rw[nZ]
  exact(Bd.sum a k).add (Bd.getD a k)
end
def lO (D M:Nat) (n:Int) (us:List bj):Prop:=∀j (h:j<us.length),Bd D M (n+j) us[j]
theorem lO.snoc {D M:Nat} {n:Int} {us:List bj} {f:bj} (h:lO D M n us) (b:Bd D M (n+us.length) f):lO D M n (us++[f]):=λj c=>by
 by_cases a:j<us.length
 ·rw[IV a];exact h j a
 ·rw[cr,qw] at c
  obtain rfl:j=us.length:=by omega
  rw[IW (bV _)]
  simpa using b
theorem lO.mono {D M N:Nat} {n:Int} {us:List bj} (h:lO D M n us) (a:M≤N):lO D N n us:=λj b=>(h j b).mono a (me _)
theorem lO.up {D M:Nat} {n:Int} {us:List bj} (h:lO D M n us) (E:Nat):lO (D*E) M n us:=λj a=>(h j a).up E
theorem AJ {n:Int}:∀(k:Nat) {l us:List bj},l.length=k→1≤k→(fq n l us).2.length+1=us.length+k:=λk=>by
 induction k using Nat.strongRecOn with
 |_ k c=>
  intro l us f e
  by_cases d:l.length=1
  ·rw[G3 d];simp only;omega
  ·rw[G2 G]
   simp only[cr,qw]
   have a:=c ((l.length+1)/2) G (l:=l.take ((l.length+1)/2)) (us:=us) (by rw[eS];omega) G
   have b:=c (l.length-(l.length+1)/2) G (l:=l.drop ((l.length+1)/2)) (us:=(fq n (l.take ((l.length+1)/2)) us).2) (by rw[gA]) G
   omega
theorem Bd.max {D M:Nat} {n:Int} (o:0≤n):∀(k:Nat) {l us:List bj},l.length=k→1≤k→(∀f∈l,Bd D M (n+us.length) f)→∀{N:Nat},2*(M+k)≤N→lO D N n us→Bd D (M+k) (n+(fq n l us).2.length) (fq n l us).1∧lO D N n (fq n l us).2:=λk=>by
 induction k using Nat.strongRecOn with
 |_ k e=>
  intro l us r q a N p d
  by_cases m:l.length=1
  ·rw[G3 m]
   exact⟨(Bd.getD a 0).mono G (me _),d⟩
  ·have g:(l.take ((l.length+1)/2)).length=(l.length+1)/2:=by rw[eS];omega
   have h:(l.drop ((l.length+1)/2)).length=l.length-(l.length+1)/2:=by rw[gA]
   have s:=AJ (n:=n) (l:=l.take ((l.length+1)/2)) (us:=us) _ g G
   obtain⟨c,a2⟩:=e _ G (l:=l.take ((l.length+1)/2)) (us:=us) g G (λf b=>a f (zy b)) (N:=N) G d
   have lb:=AJ (n:=n) (l:=l.drop ((l.length+1)/2)) (us:=(fq n (l.take ((l.length+1)/2)) us).2) _ h G
   obtain⟨i,j⟩:=e _ G (l:=l.drop ((l.length+1)/2)) (us:=(fq n (l.take ((l.length+1)/2)) us).2) h G (λf b=>(a f (IY b)).mono (bV _) G) (N:=N) G a2
   rw[G2 G]
   simp only[cr,qw]
   refine⟨((c.mono (bV _) G).add (Bd.var (D:=D) (M:=1) (bV _) G G)).mono G (me _),j.snoc ?_⟩
   exact((i.mono (bV _) (me _)).sub (c.mono (bV _) G)).mono G (me _)
def LL (l:cm) (xs:List bj) (r:Nat):bj:=yp xs (λk=>l.ws.getD (r*xs.length+k) 0) (ln (l.bs.getD r 0)) xs.length
def sw (l:cm) (xs:List bj) (n:Nat):List bj:=(List.range n).map (LL l xs)
def wg (l:cm) (xs:List bj) (o:Nat) (win:List Int):bj:=oc xs win (λk=>l.ws.getD (o*win.length+k) 0) (ln (l.bs.getD o 0)) win.length
def gY (xs:List bj) (n ch:Nat) (win:List Int):List bj:=((win.take ((ch+1)*n)).drop (ch*n)).map λi=>xs.getD i.toNat zF
def iq {α β:Type} (W:List β) (F:Nat→β→α) (o j:Nat):List α:=(List.range o).flatMap (λo=>W.map (F o))++(W.take j).map (F o)
def lX {α β:Type} (W:List β) (F:Nat→β→α) (n:Nat):List α:=(List.range n).flatMap λo=>W.map (F o)
section
variable {α β:Type} {W:List β} {F:Nat→β→α} {o j n:Nat}
theorem V3 {l:cm} {xs:List bj}:sw l xs (n+1)=sw l xs n++[LL l xs n]:=yH
theorem LJ {l:cm} {xs:List bj}:(sw l xs n).length=n:=by unfold sw;simp
theorem HH:iq W F 0 0=[]:=by unfold iq;simp
theorem HI (h:j<W.length):iq W F o (j+1)=iq W F o j++[F o W[j]]:=by
 unfold iq
 rw[fi h,mg,←fh];rfl
theorem HK:iq W F (o+1) 0=iq W F o W.length:=by
 unfold iq
 rw[wv,fL];simp
theorem OM:iq W F n 0=lX W F n:=by unfold iq lX;simp
theorem DJ:(lX W F n).length=n*W.length:=by
 unfold lX
 induction n with
 |zero=>simp
 |succ n a=>rw[wv,cr,a,dN,nZ]
theorem HJ (h:j≤W.length):(iq W F o j).length=o*W.length+j:=by
 have:=DJ (W:=W) (F:=F) (n:=o)
 unfold iq
 rw[cr,dN,eS,iZ h]
 unfold lX at this
 omega
end
def XU (g:Nat) (u:Value):Nat→Prop:=λk=>k=g∨u.ownBlock=some k
def XL (g h:Nat) (u:Value):Nat→Prop:=λk=>(k=g∨k=h)∨u.ownBlock=some k
abbrev pG:List Nat:=[2,3,3]
abbrev pH:List Nat:=[2,2,2,2,2,2,2,3,3,3,3,3,8]
abbrev pA:List Nat:=[3,0,3,3]
structure dV (g h b:Nat) (n:Int) (cs:List Value) (us:List bj) (u:Value) (w:World):Prop where
 bg:bm g 36 [I n,u,.slice none 0 0] w
 bh:bm h 103 cs w
 ou:gG b us u w
 kc:cs.map kd=pH
structure UG (g:Nat) (u u':Value) (w w':World):Prop where
 mv:Mv (XU g u) w w'
 own:u'.ownBlock=u.ownBlock∨∀k,u'.ownBlock=some k→w.heap.size≤k
structure UE (w w':World):Prop where
 keep:∀(d:Dt) (cs:List Value),fe pG d→fe pA d→Rp w d cs→Rp w' d cs
section
variable {α:Type} {f:α→Dt} {l:List α} {g h b k0:Nat} {n:Int} {cs cs':List Value} {us:List bj} {u u' u1 u2 v v':Value} {w w' w1 w2:World} {X:Nat→Prop} {e:TypeId} {p:List Nat} {base:Nat}
theorem UG.refl:UG g u u w w:=⟨Mv.refl _ _,.inl rfl⟩
theorem UG.a8 (x:ao w w'):UG g u u w w':=⟨Mv.a8 x,.inl rfl⟩
theorem UG.ai (m:UG g u u1 w w1) (k:UG g u1 u2 w1 w2):UG g u u2 w w2:=by
 refine⟨m.mv.ai k.mv λn a hs=>?_,?_⟩
 ·rcases a with a|a
  ·exact .inl a
  ·rcases m.own with b|b
   ·exact .inr (b▸a)
   ·have:=b n a;omega
 ·rcases k.own with c|c
  ·rw[c];exact m.own
  ·exact .inr λn a=>cf m.mv.size (c n a)
theorem UG.aL (m:UG g u u1 w w1) (x:ao w1 w2):UG g u u1 w w2:=m.ai (UG.a8 x)
theorem UG.ca (m:UG g u u1 w w1) (a:d9 w1 w2 v v') (b:∀k,v.ownBlock=some k→w.heap.size≤k):UG g u u1 w w2:=
 ⟨m.mv.ai (Mv.a7 (X:=λk=>w.heap.size≤k) a.grown λk c _=>b k c) λn d hs=>by omega,m.own⟩
theorem UG.put (m:UG g u u1 w w1) (q:w1.grownBy w2 (some k)) (a:w.heap.size≤k):UG g u u1 w w2:=
 ⟨m.mv.ai (Mv.a7 (X:=λk=>w.heap.size≤k) q λd b _=>by obtain rfl:=cC b;exact a) λn c hs=>by omega,m.own⟩
theorem UG.b5 {w0:World} (m:UG g u u1 w w1) (x:ao w0 w) (a:w0.heap.size≤g) (c:∀k,u.ownBlock=some k→w0.heap.size≤k):ao w0 w1:=Mv.b5 m.mv x λk b=>b.elim (λe=>e▸a) (c k)
theorem W8 (h:∃A n c,v=.slice A n c):kd v=3:=by obtain⟨_,_,_,rfl⟩:=h;rfl
theorem dV.kg (a:dV g h b n cs us u w):Kn pG [I n,u,.slice none 0 0]:=Kn.one (by simp only[iy,nW,W8 a.ou.a9];rfl)
theorem dV.aL (a:dV g h b n cs us u w) (x:ao w w'):dV g h b n cs us u w':=⟨a.bg.aL x,a.bh.aL x,a.ou.aL x,a.kc⟩
theorem dV.lt (a:dV g h b n cs us u w):∀k,XL g h u k→k<w.heap.size:=λk c=>by
 rcases c with(rfl|rfl)|c
 ·exact a.bg.lt
 ·exact a.bh.lt
 ·exact(a.ou.lt k c).2
theorem dV.ne (a:dV g h b n cs us u w) (c:∀k,v.ownBlock=some k→w.heap.size≤k):∀k,v.ownBlock=some k→¬XL g h u k:=λk d e=>by
 have:=c k d
 have:=a.lt k e
 omega
theorem dV.e5 (c:dV g h b n cs us u w) {l:List Dt} (d:eF pG l) (e:eF pA l) (f:cB X w l xs):cB (λk=>X k∨XU g u k) w l xs:=
 (c.ou.off e (eF.rp c.bg c.kg d f)).bd λk a=>.inl (by
   rcases a with a|a|a
   ·exact .inl (.inl a)
   ·exact .inl (.inr a)
   ·exact .inr a)
theorem dV.ue (i:dV g h b n cs us u w) (m:UG g u u' w w'):UE w w':=⟨λd cs e f o=>by
 have a:=i.e5 (X:=λk=>w.heap.size≤k) (l:=[d]) (xs:=cs) (by simp only[eF];exact⟨e,trivial⟩) (by simp only[eF];exact⟨f,trivial⟩) (by simpa using cB.a1 (Rp.x o) cB.nil)
 have c:=(cB.mv (Y:=λ_=>False) (m.mv.bd λk j _=>.inr j) (λ_ h=>h.elim) a).rp
 simp only[bG] at c
 obtain⟨p,q,rfl,r,rfl⟩:=c
 rwa [jU]⟩
theorem UE.refl:UE w w:=⟨λ_ _ _ _ h=>h⟩
theorem aD.ue [s:eO f] (c:aD f l v w) (m:UE w w') (a:gP pG (.sl s.sh)=true:=by decide) (b:gP pA (.sl s.sh)=true:=by decide):aD f l v w':=
 m.keep _ _ (de.off aF a (kX l)) (de.off aF b (kX l)) c
theorem aO.ue {l:List UInt32} (a:aO l v w) (m:UE w w'):aO l v w':=Rp.bL.1 (m.keep _ _ (de.off (s:=.sl (.c 1)) aF aF (kX (f:=nf) l)) (de.off (s:=.sl (.c 1)) aF aF (kX (f:=nf) l)) (Rp.bL.2 a))
theorem bR.ue [s:eO f] {a:α} (g:bR f a v w) (m:UE w w') (b:gP pG s.sh=true:=by decide) (c:gP pA s.sh=true:=by decide):bR f a v w':=by
 obtain⟨cs,e,d⟩:=g
 exact⟨cs,e,m.keep _ _ (de.off aF b (s.ok a)) (de.off aF c (s.ok a)) d⟩
theorem bm.ug {T:TypeId} (c:bm k T cs w) (m:UG g u u' w w') (a:k≠g) (b:u.ownBlock≠some k):bm k T cs w':=m.mv.blk c λd=>d.elim a b
theorem UG.ne (m:UG g u u' w w') (a:u.ownBlock≠some k) (b:k<w.heap.size):u'.ownBlock≠some k:=λe=>by
 rcases m.own with h|h
 ·exact a (h▸e)
 ·have:=h k e;omega
theorem UG.eD (m:UG g u u' w w') (b:¬XL g h u k) (c:k<w.heap.size):¬XL g h u' k:=λa=>by
 rcases a with a|a
 ·exact b (.inl a)
 ·exact m.ne (λe=>b (.inr e)) c a
theorem bC.gb (G:∀a,fe p (f a)) (F:bC e p base f l v w) (hm:Mv X w w') (r:∀k,v.ownBlock=some k→¬X k) (d:∀a cs,Rp w (f a) cs→Rp w' (f a) cs):bC e p base f l v w':=by
 obtain⟨⟨n,xs,g,y⟩,z⟩:=F
 have m:w'.ownsRow base e p.length v n xs:=⟨g.1,by
  rcases g.2 with b|⟨g',j,cur,u,b,c,A⟩
  ·exact .inl b
  ·subst u
   exact .inr ⟨g',j,cur,H,b,(hm.keep g' (jB.1 c).1 (r g' H)).ai c,A⟩⟩
 have q:vt p v w':=λk cur ty fr i D=>z k cur ty fr i (by
  rw[←hm.keep k (World.ownsRow.lt g k i).2 (r k i)];exact D)
 have C:∀{l:List α} {xs:List Value},bG w (l.map f) xs→bG w' (l.map f) xs:=by
  intro l
  induction l with
  |nil=>intro xs h;simpa only[nW,bG] using h
  |cons a l J=>
   intro xs h
   simp only[iy,bG] at h⊢
   obtain⟨s,t,x,b,c⟩:=h
   exact⟨s,t,x,d a _ b,J c⟩
 have b:=bG.x (C y.rp)
 refine⟨⟨n,xs,m,?_⟩,q⟩
 rcases m.2 with c|⟨g',j,cur,rfl,_,o,_⟩
 ·rw[c.1]
  exact b.bd λk d=>d.elim (λh=>h.elim) λh=>by simp[Value.ownBlock] at h
 ·refine(eF.rp o (q g' cur _ _ H o) (eF.of λa _=>G a) b).bd λk d=>.inl ?_
  exact d.elim (λh=>h.elim) λh=>.inr (by simpa [Value.ownBlock] using h.symm)
def kn (g h:Nat) (u:Value) (base:Nat) (l:List bj):cT:=λv w=>gG base l v w∧∀k,v.ownBlock=some k→¬XL g h u k
theorem kn.nil:kn g h u base [] (.slice none 0 0) w:=⟨bC.nil _,λk a=>by simp[Value.ownBlock] at a⟩
theorem kn.aL {l:List bj} (a:kn g h u base l v w) (x:ao w w'):kn g h u base l v w':=⟨a.1.aL x,a.2⟩
theorem kn.ug {l:List bj} (d:kn g h u base l v w) (i:dV g h b n cs us u w) (m:UG g u u' w w'):kn g h u' base l v w':=by
 refine⟨bC.gb pR d.1 m.mv (λk c o=>d.2 k c (o.elim (λe=>.inl (.inl e)) .inr)) λa cs j=>(i.ue m).keep _ _ (de.off aF aF (eO.ok (f:=cy) a)) (pR a) j,λk c=>m.eD (d.2 k c) (d.1.lt k c).2⟩
theorem dV.ca {l:List bj} (c:dV g h b n cs us u w) (i:kn g h u base l v w) (f:d9 w w' v v'):dV g h b n cs us u w'∧∀k,v'.ownBlock=some k→¬XL g h u k:=by
 have m:=i.1.b3 f aF
 have a:=bC.ca pR c.ou f m (λk d o=>i.2 k d (.inr o)) aF
 have o:∀k,XL g h u k→w.heap.size≤k→False:=λk d j=>by have:=c.lt k d;omega
 refine⟨⟨?_,?_,a.1,c.kc⟩,λk d p=>?_⟩
 ·exact(f.grown.block _ c.bg.lt λe=>i.2 g e.symm (.inl (.inl H))).ai c.bg
 ·exact(f.grown.block _ c.bh.lt λe=>i.2 h e.symm (.inl (.inr H))).ai c.bh
 ·rcases f.own with j|j
  ·exact i.2 k (j▸d) p
  ·exact o k p (j k d)
def iY (g h:Nat) (u:Value) (f:α→Dt) (l:List α):cT:=λv w=>∀w2,Mv (XL g h u) w w2→aD f l v w2
theorem iY.ds (a:iY g h u f l v w):aD f l v w:=a w (Mv.refl _ _)
theorem iY.aL (a:iY g h u f l v w) (x:ao w w'):iY g h u f l v w':=λw2 m=>a w2 ((Mv.a8 x).ai m λ_ h _=>h)
theorem iY.ug (a:iY g h u f l v w) (m:UG g u u' w w'):iY g h u' f l v w':=λw2 k=>a w2 (Mv.ai (X:=XL g h u) (m.mv.bd λk c _=>c.elim (λe=>.inl (.inl e)) .inr) k λn b hs=>by
 rcases b with b|b
 ·exact .inl b
 ·rcases m.own with e|e
  ·exact .inr (e▸b)
  ·have:=e n b;omega)
def f8 (g h:Nat) (u:Value) (f:α→Dt) (l:List α):cT:=λv w=>ck (XL g h u) w (.sl (l.map f)) [v]
theorem f8.av (a:f8 g h u f l v w):iY g h u f l v w:=λ_ m=>(ck.mv (Y:=λ_=>False) m (λ_ h=>h.elim) a).rp
theorem f8.ds (a:f8 g h u f l v w):aD f l v w:=ck.rp a
theorem f8.aL (a:f8 g h u f l v w) (x:ao w w'):f8 g h u f l v w':=ck.aL a x
theorem UG.xl (m:UG g u u' w w'):∀k,XL g h u' k→XL g h u k∨w.heap.size≤k:=λk a=>by
 rcases a with a|a
 ·exact .inl (.inl a)
 ·rcases m.own with e|e
  ·exact .inl (.inr (e▸a))
  ·exact .inr (e k a)
theorem UG.f0 (m:UG g u u' w w'):Mv (XL g h u) w w':=m.mv.bd λ_ a _=>a.elim (λe=>.inl (.inl e)) .inr
theorem f8.ug (a:f8 g h u f l v w) (m:UG g u u' w w'):f8 g h u' f l v w':=ck.mv (X:=XL g h u) m.f0 m.xl a
theorem f8.mv (a:f8 g h u f l v w) (m:Mv (XL g h u) w w'):f8 g h u f l v w':=ck.mv m (λ_ h=>.inl h) a
theorem f8.of [s:eO f] {sz:Nat} (e:dV g h b n cs us u w) (A:aD f l v w) (x:∀k,v.ownBlock=some k→¬XL g h u k) (hs:∀a,(f a).size=sz) (m:0<sz) (o:gP pG s.sh=true:=by decide) (q:gP pA s.sh=true:=by decide) (r:gP pH s.sh=true:=by decide):f8 g h u f l v w:=by
 have hm:∀d∈l.map f,d.size=sz:=λd t=>by obtain⟨a,_,rfl⟩:=fF.1 t;exact hs a
 obtain⟨xs,j,a2⟩:=Rp.c5 (sz:=sz) (l:=l.map f) A hm
 have i:∀{p:List Nat},0<p.length→gP p s.sh=true→eF p (l.map f):=λz y=>eF.of λa _=>de.off z y (s.ok a)
 exact ck.cc (X:=XL g h u) j ((e.e5 (i aF o) (i aF q) (eF.rp e.bh (Kn.one (by simpa using e.kc)) (i aF r) (bG.x a2))).bd λk c=>.inl (by
  rcases c with(c|c)|c
  ·exact .inr (.inl c)
  ·exact .inl (.inr c)
  ·exact .inr (.inr c))) hm m x
theorem iY.of [s:eO f] {sz:Nat} (j:dV g h b n cs us u w) (o:aD f l v w) (m:∀k,v.ownBlock=some k→¬XL g h u k) (hs:∀a,(f a).size=sz) (c:0<sz) (d:gP pG s.sh=true:=by decide) (e:gP pA s.sh=true:=by decide) (i:gP pH s.sh=true:=by decide):iY g h u f l v w:=(f8.of j o m hs c d e i).av
theorem iY.hi {P:Program} {t e:TypeId} {sz:Nat} (d:P.underlying t=some (.slice e)) (i:(P.info? e).map (·.size)=some sz) (hs:∀x,(f x).size=sz) (b:0<sz) (a:iY g h u f l v w) {hi:Nat} (c:hi≤l.length):
 ∃v',(∀w':World,(Instr.sliceAt t v none (some (I (hi:Int))) none).run P w'=.ok v' w')∧iY g h u f (l.take hi) v' w:=by
 obtain⟨v',r,_⟩:=N1 d i hs b a.ds c
 refine⟨v',r,λw2 m=>?_⟩
 obtain⟨v2,j,k⟩:=N1 d i hs b (a w2 m) c
 have e:=(r w).symm.ai (j w)
 injection e with e
 rwa [e]
theorem iY.lo {P:Program} {t e:TypeId} {sz:Nat} (d:P.underlying t=some (.slice e)) (i:(P.info? e).map (·.size)=some sz) (hs:∀x,(f x).size=sz) (b:0<sz) (a:iY g h u f l v w) {lo:Nat} (c:lo≤l.length):
 ∃v',(∀w':World,(Instr.sliceAt t v (some (I (lo:Int))) none none).run P w'=.ok v' w')∧iY g h u f (l.drop lo) v' w:=by
 obtain⟨v',r,_⟩:=uS d i hs b a.ds c
 refine⟨v',r,λw2 m=>?_⟩
 obtain⟨v2,j,k⟩:=uS d i hs b (a w2 m) c
 have e:=(r w).symm.ai (j w)
 injection e with e
 rwa [e]
theorem YK {t e:TypeId} (p:P.underlying t=some (.slice e)) (r:(P.info? e).map (·.size)=some sz) (hs:∀x,(f x).size=sz) (g:0<sz) (b:aD f l v w) {lo hi:Nat} (h:lo≤hi) (i:hi≤l.length):
 ∃v',(∀w':World,(Instr.sliceAt t v (some (I (lo:Int))) (some (I (hi:Int))) none).run P w'=.ok v' w')∧aD f ((l.take hi).drop lo) v' w:=by
 have hm:∀(m:List α),∀d∈m.map f,d.size=sz:=λm d b=>by obtain⟨a,_,rfl⟩:=fF.1 b;exact hs a
 obtain⟨xs,k,j⟩:=Rp.c5 (sz:=sz) (l:=l.map f) b (hm l)
 have q:xs.length=l.length*sz:=by rw[j.len,oH (sz:=sz) (hm l),dN]
 obtain⟨v',n,o⟩:=Oh (P:=P) p r k (lo:=lo) (hi:=hi) h (by rw[q];exact fH _ i) g .i64 .i64
 refine⟨v',n,Rp.cc (l:=((l.take hi).drop lo).map f) o ?_ (hm _) g⟩
 have c:=(bG.split hi j (hm l) (by simpa using i)).1
 rw[←xL] at c
 rw[xK]
 exact(bG.split lo c (hm _) (by simpa using cf h G)).2
theorem UG.unit (a:d9 w w' u u'):UG g u u' w w':=⟨Mv.a7 a.grown λ_ b _=>.inr b,a.own⟩
theorem UG.self (q:w.grownBy w' (some g)):UG g u u w w':=⟨Mv.a7 q λ_ a _=>.inl (cC a).symm,.inl rfl⟩
theorem vR {T:TypeId} {b:Nat} {cs cs':List Value} (a:bm k T cs w) (c:bm b T' cs' w) (d:T≠T'):k≠b:=by
 rintro rfl
 have:=bU (xH (bU a) c)
 injection this with this
 injection this with _ this
 exact d this.symm
theorem dV.step {c:List bj} (a:dV g h b n cs us u w) (m:UG g u u' w w') (d:bm g 36 [I n,u',.slice none 0 0] w') (f:gG b c u' w'):dV g h b n cs c u' w':=
 ⟨d,a.bh.ug m (vR a.bh a.bg aF) λe=>cQ a.bh a.ou aF e.symm,f,a.kc⟩
end
theorem UR:aY Tryz.prog 276:=⟨_,Tryz.func276,am,rfl⟩
theorem UQ:aY Tryz.prog 201:=⟨_,Tryz.func201,am,rfl⟩
theorem Ld:aY Tryz.prog 46:=⟨_,Tryz.func46,am,rfl⟩
theorem K9:aY Tryz.prog 198:=⟨_,Tryz.func198,am,rfl⟩
theorem Vi:aY Tryz.prog 113:=⟨_,Tryz.func113,am,rfl⟩
theorem Lf:aY Tryz.prog 199:=⟨_,Tryz.func199,am,rfl⟩
theorem Vh:aY Tryz.prog 109:=⟨_,Tryz.func109,am,rfl⟩
theorem Vg:aY Tryz.prog 110:=⟨_,Tryz.func110,am,rfl⟩
theorem Un:aY Tryz.prog 44:=⟨_,Tryz.func44,am,rfl⟩
theorem RY {a b:Int} (C:IZ a v w) (A:IZ b u w) (R:(lb a.natAbs).length≤4) (S:(lb b.natAbs).length≤4) (m:0<b):
 Calls Tryz.prog 276 #[v,u] w (aJ λr w'=>ao w w'∧je (QV (mkRat a b.natAbs)) (Is (I 0)) r w'):=by
 obtain⟨x,rfl,F⟩:=C
 obtain⟨y,rfl,n⟩:=A
 refine enter (vs:=[.agg #[B (decide (a<0)),x],.agg #[B (decide (b<0)),y]]) Tryz.func276 H H H (T (cE H H λN w2 V L o=>cE H H λP w3 W j g=>?_))
 have f:=L.ai j
 refine cM iH H λQ w4 K d q=>(Z H (O (ah (T (Y H ((g.aL d).ld iM H eQ) (aC Ch H H ((by have:=By (s:=decide (b<0)) (ft.mk (n.aL (f.ai d))) G;rw[cH,qg] at this;exact this)) ?_))))))
 rintro v7 w7 ⟨e,rfl⟩
 refine U H (aX (by rw[Pc m];decide) aV) (O (be H (aH (al (T (c H (ol) (Y H (D dw H (((j.ai d).ai e).a0 (o.cell (i:=0) H))) (c H (ol) (Y H (D dw H ((d.ai e).a0 (g.cell (i:=0) H))) (U H (Hm dw) (c H (ku) (Y H (D aT H (((j.ai d).ai e).a0 (o.cell (i:=1) H))) (c H (ku) (Y H (D aT H ((d.ai e).a0 (g.cell (i:=1) H))) (aC Aj H H ((by have:=BR (s:=decide (a<0) !=decide (b<0)) (F.aL ((f.ai d).ai e)) (n.aL ((f.ai d).ai e)) G G (by rw[cH];omega);rw[cH,cH,ZZ m] at this;exact this)) ?_)))))))))))))))
 rintro X aa ⟨h,⟨ad,ae,rfl,k,l⟩⟩
 refine cl H H (q.aL (e.ai h)) H bW (ay.a1 H (ay.a1 k.one (ay.a1 l.one ay.nil))) λab z J=>?_
 have M:=ao.a2 (((d.ai e).ai h)) z K
 have t:=Kq.br (p:=[0,3,3]) (q.aL (e.ai h)) (aS rfl (aS rfl (aS rfl dj))) z
 refine Z H (O (aA (ff H (.cell H (J.ld bI H bW) (.tmp H .nil)) ?_)))
 exact⟨_,H,(f.ai M),_,_,H,(bQ.mk (k.kq t) (l.kq t)),H⟩
theorem RX {a b:Int} (h: -9223372036854775808≤a) (i:a≤9223372036854775807) (q:0<b) (j:b≤9223372036854775807):
 Calls Tryz.prog 201 #[I a,I b] w (aJ λr w'=>ao w w'∧je (QV (mkRat a b.natAbs)) (Is (I 0)) r w'):=by
 refine enter Tryz.func201 H H H (T (cM iH H λx w4 t v k=>(Z H (bB (J H (aC FL H H ((Eo h i)) ?_))))))
 rintro z D ⟨e,⟨M,rfl,n⟩⟩
 refine J H (aC FL H H ((Eo G j)) ?_)
 rintro v9 F ⟨c,⟨N,rfl,o⟩⟩
 refine aC UR H H (RY (ft.mk (n.aL c)) (ft.mk o) (MT h i) (MT G j) q) ?_
 rintro y A ⟨d,⟨_,_,rfl,⟨K,L,rfl,f,g⟩,rfl⟩⟩
 refine aZ H dm (aZ H dn (cl H H (k.aL ((e.ai c).ai d)) H bW (ay.a1 H (ay.a1 f.one (ay.a1 g.one ay.nil))) λC m s=>?_))
 have u:=ao.a2 ((((v.ai e).ai c).ai d)) m t
 have l:=Kq.br (p:=[0,3,3]) (k.aL ((e.ai c).ai d)) (aS rfl (aS rfl (aS rfl dj))) m
 refine Z H (O (aA (ff H (.cell H (s.ld bI H bW) (.tmp H .nil)) ?_)))
 exact⟨_,H,u,_,_,H,(bQ.mk (f.kq l) (g.kq l)),H⟩
theorem J7 {n:Int}:
 Calls Tryz.prog 46 #[I n] w (aJ λr w'=>ao w w'∧bR cy (lZ n) r w'):=by
 refine enter Tryz.func46 H H H (T (cM iX H λu w2 m t g=>(bB (J H (aC FV H H (Jq) ?_)))))
 rintro v4 w4 ⟨c,⟨i,j,rfl,e,f⟩⟩
 refine dY (r:=.agg #[I n,B ((1:Rat)).sg,i,j]) H (by obtain⟨_,_,_,rfl⟩:=e.a9;obtain⟨_,_,_,rfl⟩:=f.a9;exact run_build _ _ _ _ am) ?_
 obtain⟨q,x,k,d,b⟩:=M8 (w:=w4) (Lz (a:=(⟨n,(1:Rat)⟩:cX)) e f)
 refine j3 (vs:=[(0,.agg #[I n,B ((1:Rat)).sg,i,j])]) H H k (dY (r:=.agg #[q,B false,.slice none 0 0,.slice none 0 0]) H (by obtain⟨_,_,_,rfl⟩:=b.a9;exact run_build _ _ _ _ am) (cl H H (g.aL (c.ai d)) H cL (ay.a1 b.one (ay.a1 H (ay.a1 H (ay.a1 H ay.nil)))) λv h l=>?_))
 have s:=ao.a2 (((t.ai c).ai d)) h m
 have o:=Kq.br (p:=[3,0,3,3]) (g.aL (c.ai d)) (aS rfl (aS rfl (aS rfl (aS rfl dj)))) h
 refine O (aA (ff H (.cell H (l.ld dx H cL) .nil) ?_))
 exact⟨_,H,s,(bR.mk (eX (b.kq o) (aO.nil _) (aO.nil _)))⟩
theorem J3 {c:Rat} (h:QV c v w):
 Calls Tryz.prog 198 #[v] w (aJ λr w'=>ao w w'∧bR cy (ln c) r w'):=by
 obtain⟨e,f,rfl,b,d⟩:=h
 refine enter (vs:=[.agg #[B c.sg,e,f]]) Tryz.func198 H H H (T (cE H H λg1 w1 p x1 i=>cM iX H λo w2 l g k=>(bB (Y H ((i.aL g).ld bI H bW) (dY (r:=.agg #[.slice none 0 0,B c.sg,e,f]) H (by obtain⟨_,_,_,rfl⟩:=b.a9;obtain⟨_,_,_,rfl⟩:=d.a9;exact run_build _ _ _ _ am) (cl H H k H cL (ay.a1 H (ay.a1 H (ay.a1 b.one (ay.a1 d.one ay.nil)))) λq m j=>?_))))))
 have n:=ao.a2 (g) m l
 refine O (aA (ff H (.cell H (j.ld dx H cL) .nil) ?_))
 have a:=x1.ai n
 exact⟨_,H,a,(bR.mk (eX (aD.nil _ _) (b.aL a) (d.aL a)))⟩
theorem lT {α:Type} {l:List α} {d:α} (h:k<l.length):l.getD k d=l[k]:=by rw[mU,fy h];rfl
theorem jH.scale {f:bj} {c:Rat} (h:jH f) (a:bt c≤80):fR (mP f c)≤1053000∧(mP f c).ts.length≤48:=by
 obtain⟨e,g⟩:=h
 have i:=Tj zF f c
 have j:=Xx c zF.ts f.ts
 have k:(f.ts.length+1)*bt c≤49*80:=gi G a
 have b:fR zF=2:=aF
 have d:zF.ts.length=0:=rfl
 refine⟨?_,?_⟩
 ·show fR (pJ zF f c)≤_;omega
 ·show(fX c zF.ts f.ts).length≤_;omega
theorem SP {l:List bj} (m:aD cy l v w) (h1:1≤l.length∧l.length≤64) (hS:∀f∈l,jH f) (hD:∀k,k≤l.length→jH (za l k)):
 Calls Tryz.prog 113 #[v] w (aJ λr w'=>ao w w'∧bR cy (yG l) r w'):=by
 have aQ:=m.len
 refine enter Tryz.func113 H H H (T (cM iX H λg2 w2 l2 o k2=>(bB (cM iX H λg3 w3 l3 x3 k3=>(O (ah (T (J H (aW H (bP cO (m.aL (o.ai x3))) (J H (ax (al (aR (FF (λ(k:Nat) (F:bj) (c:Value) (d:Value) (g:Value)=>[(2,.pointer (some ⟨g2,0,none⟩)),(3,.pointer (some ⟨g3,0,none⟩)),(0,v),(8,v),(9,I (l.length:Int)),(10,I (k:Int))]) (λ(k:Nat) (F:bj) (c:Value) (d:Value) (g:Value) w'=>ao w2 w'∧k≤l.length∧F=za l k∧bm g3 51 [c,B F.ct.sg,d,g] w'∧aD iD F.ts c w'∧aO F.ct.nl d w'∧aO F.ct.dl g w') (λ(k:Nat) (F:bj) (c:Value) (d:Value) (g:Value)=>l.length-k) (0) (zF) (.slice none 0 0) (.slice none 0 0) (.slice none 0 0) (aP H) ⟨x3,G,H,k3,aD.nil _ _,aO.nil _,aO.nil _⟩ ?_))))))))))))))
 rintro k F c d g wB ⟨b,hk,q,n,x,y,z⟩
 refine ah ?_
 have aj:jH F:=by rw[q];exact hD k hk
 obtain⟨aT,aV⟩:=aj
 refine ap (U H (bO) (O (ah (bc H (λai=>?_) (λai=>?_)))))
 ·refine aH (al (ah (aR (T ?_))))
  obtain⟨aL,aM,av,aw,ad⟩:=bX (P:=Tryz.prog) (sz:=4) cO am gD G (m.aL (o.ai b)) (i:=k) (G) .i64
  obtain⟨D,s⟩:∃e,e=l[k]'G:=⟨_,rfl⟩
  rw[←s] at ad
  obtain⟨ba,bb,bd,rfl,L,M,N⟩:=ey ad
  refine bF H (av _) (Y H (aw.ld dx H cL) ?_)
  have ak:=hS D (by rw[s];exact eK _)
  obtain⟨aX,aY⟩:=ak
  refine cM iX H λg5 w5 l5 x5 k5=>cl H H k5 H cL (ay.a1 L.one (ay.a1 H (ay.a1 M.one (ay.a1 N.one ay.nil)))) λa6 az an=>?_
  have a:=ao.a2 (x5) az l5
  refine O (ap (Y H ((n.aL a).ld dx H cL) (Y H (an.ld dx H cL) (aC Ac H H (zo (bR.mk (eX (x.aL a) (y.aL a) (z.aL a))) (bR.mk (eX (L.aL a) (M.aL a) (N.aL a))) G) ?_))))
  rintro a0 a3 ⟨A,⟨_,rfl,aE⟩⟩
  obtain⟨be,bf,bg,rfl,Q,R,S⟩:=ey aE
  refine cl H H (n.aL (a.ai A)) H cL (ay.a1 Q.one (ay.a1 H (ay.a1 R.one (ay.a1 S.one ay.nil)))) λa7 ae aq=>?_
  have aI:=ao.a2 (((b.ai a).ai A)) ae l3
  have t:=Kq.br (p:=[3,0,3,3]) (n.aL (a.ai A)) (aS x.kd (aS rfl (aS y.kd (aS z.kd dj)))) ae
  refine ax (bE (al (ap (U H cD (J H (ax (C7 (k+1) (iR F D) (_) (_) (_) (aP H) ⟨aI,G,by rw[q,s];show _=iR _ (l.getD k zF);rw[lT],aq,(Q.kq t),(R.kq t),(S.kq t)⟩ G)))))))
 ·refine ce (aU (aU (cg (al (ah ?_)))))
  obtain rfl:k=l.length:=by omega
  refine ap (J H (aW H (bP cO (m.aL (o.ai b))) (aC UQ H H ((RX G G G G)) ?_)))
  rintro a1 a4 ⟨C,⟨_,_,rfl,⟨bh,bi,rfl,V,W⟩,rfl⟩⟩
  refine J H (aZ H dm (aZ H dn (cM iH H λg6 w6 l6 x6 k6=>cl H H k6 H bW (ay.a1 H (ay.a1 V.one (ay.a1 W.one ay.nil))) λa8 aB ar=>?_)))
  have h:=ao.a2 (x6) aB l6
  refine Z H (O (ah ?_))
  have aN:bt (mkRat 1 (l.length:Int).natAbs)≤8:=Cd (k:=7) G aF (nD G)
  have j:=C.ai h
  refine ap (Y H ((n.aL j).ld dx H cL) (Y H (ar.ld bI H bW) (aC FN H H (Ey (bR.mk (eX (x.aL j) (y.aL j) (z.aL j))) (bQ.mk (V.aL h) (W.aL h)) G) ?_)))
  rintro a2 a5 ⟨ag,⟨_,rfl,aG⟩⟩
  obtain⟨bk,bl,bn,rfl,X,aa,ab⟩:=ey aG
  have K:=((b.ai C).ai h).ai ag
  refine cl H H (k2.aL K) H cL (ay.a1 X.one (ay.a1 H (ay.a1 aa.one (ay.a1 ab.one ay.nil)))) λa9 af au=>?_
  have aK:=ao.a2 (((((o.ai b).ai C).ai h).ai ag)) af l2
  have u:=Kq.br (p:=[3,0,3,3]) (k2.aL K) (aS rfl (aS rfl (aS rfl (aS rfl dj)))) af
  refine O (aA (ff H (.cell H (au.ld dx H cL) .nil) ?_))
  exact⟨_,H,aK,by rw[show yG l=mP F (mkRat 1 (l.length:Int).natAbs) by rw[q];rfl];exact(bR.mk (eX (X.kq u) (aa.kq u) (ab.kq u)))⟩
theorem Qi {b:Nat} {n d st pad a c:Int} (j:b≤w.heap.size) (m:aD bJ A v w) (g:A=[n,h,d]) (i:(kh:Int)=a) (k:(kw:Int)=c) (l:iP n h d kh kw st pad R C):
 Calls Tryz.prog 275 #[v,I a,I c,I st,I pad] w (aJ λr w'=>ao w w'∧pt (jC b fN (ke n.toNat h d kh kw st pad R C)) (Is (I (R:Int))) (Is (I (C:Int))) (Is (I 0)) r w'):=by
 subst g i k
 exact aJ.mono (In m l) λ_ _ ⟨x,u,e,f⟩=>⟨x,_,_,_,_,e,bC.fa f (lJ.bY f) j,H,H,H⟩
theorem J8 {h:Nat} {l:cm} {a:List Int} {n e d:Int} {x:Value} (c:bm h 103 [I l.kd,I l.fr,I l.ou,I l.kh,I l.kw,I l.sr,I l.pd,x,y,sv,xv,tv,fv] w) (hs:aD bJ a sv w) (j:a=[n,e,d]) (m:1≤l.kh∧1≤l.kw) (g:iP n e d l.kh.toNat l.kw.toNat l.sr l.pd R C):
 Calls Tryz.prog 199 #[.pointer (some ⟨h,0,none⟩)] w (aJ λr w'=>ao w w'∧jC w.heap.size fN (ke n.toNat e d l.kh.toNat l.kw.toNat l.sr l.pd R C) r w'):=by
 refine enter Tryz.func199 H H H (T (Z H (O (ah (cz 33 [3,36] am am (W (S:=Is (.pointer (some ⟨h,0,none⟩))) H (ji H (bH H (λw b=>Gm) (aQ H (λw b=>D cd H (b.a0 (c.cell (i:=9) H))) (W (S:=Is (.pointer (some ⟨h,0,none⟩))) H (ji H (bH H (λw b=>re) (bH H (λw b=>gq) (aQ H (λw b=>D aE H (b.a0 (c.cell (i:=3) H))) (W (S:=Is (.pointer (some ⟨h,0,none⟩))) H (ji H (bH H (λw b=>re) (bH H (λw b=>gt) (aQ H (λw b=>D aE H (b.a0 (c.cell (i:=4) H))) (W (S:=Is (.pointer (some ⟨h,0,none⟩))) H (ji H (bH H (λw b=>re) (bH H (λw b=>js) (aQ H (λw b=>D aE H (b.a0 (c.cell (i:=5) H))) (W (S:=Is (.pointer (some ⟨h,0,none⟩))) H ?_)))))))))))))))))))))))))
 refine ji H (bH H (λw b=>re) (bH H (λw b=>ik) (aQ H (λw b=>D aE H (b.a0 (c.cell (i:=6) H))) (eh (S:=pt (jC w.heap.size fN (ke n.toNat e d l.kh.toNat l.kw.toNat l.sr l.pd R C)) (Is (I ((R:Int)))) (Is (I ((C:Int)))) (Is (I 0))) Ku (pt.a3 (jC.a3 _ _ _) (cN.is _) (cN.is _) (cN.is _)) H (λw b=>by rintro _ rfl _ rfl _ rfl _ rfl _ rfl;exact(Qi b.size (hs.aL b) j G G g)) (W H (Mf H (jC.a3 _ _ _) H (Mg H (cN.is _) H (Mh H (cN.is _) H (Mi H (cN.is _) H (gK H (gK (S:=Is (I (R:Int))) H (gK (S:=Is (I (C:Int))) H (cq ?_)))))))))))))
 rintro p k o f _ rfl
 refine Z H (bB (J H (Z H (O (aA (aM H ?_))))))
 exact⟨_,H,k,f⟩
theorem SN {h:Nat} {l:cm} {xs:List bj} {x:Value} (N:bm h 103 [I l.kd,I l.fr,I l.ou,I l.kh,I l.kw,I l.sr,I l.pd,x,y,sv,xv,tv,fv] w) (hx:aD dQ l.ws x w) (hy:aD dQ l.bs y w) (R:aD cy xs xv w) (hW:l.ws.length=l.bs.length*xs.length) (hb:l.bs.length≤24) (hn:xs.length≤24) (a2:∀q∈l.ws,bt q≤80) (hS:∀f∈xs,jH f) (hD:∀r k,r<l.bs.length→k≤xs.length→jH (yp xs (λk=>l.ws.getD (r*xs.length+k) 0) (ln (l.bs.getD r 0)) k)):
 Calls Tryz.prog 109 #[.pointer (some ⟨h,0,none⟩)] w (aJ λr w'=>ao w w'∧jC w.heap.size cy (sw l xs l.bs.length) r w'):=by
 have b5:=hy.len
 have bZ:=R.len
 refine enter Tryz.func109 H H H (T (Z H (bB (Z H (O (ah (T (J H (dq H (c H (re) (c H (lc) (Y H (D cn H (N.cell (i:=8) H)) (aW H (bP cn hy) (J H (O (aR (fp (λ(r:Nat) (v:Value)=>[(0,.pointer (some ⟨h,0,none⟩)),(3,v),(13,y),(14,I (l.bs.length:Int)),(15,I (r:Int))]) (λ(r:Nat) (v:Value) w'=>ao w w'∧r≤l.bs.length∧gG w.heap.size (sw l xs r) v w') (λ(r:Nat) (v:Value)=>l.bs.length-r) (0) (.slice none 0 0) (aP H) ⟨ao.refl _,G,bC.nil _⟩ ?_)))))))))))))))))
 rintro r v wA ⟨L,hr,g⟩
 refine ah ?_
 obtain⟨A,Q⟩:∃A,A=sw l xs r:=⟨_,rfl⟩
 have bY:A.length=r:=by rw[Q];exact LJ
 rw[←Q] at g
 refine ap (U H (bO) (O (ah (bc H (λaY=>?_) (λaY=>?_)))))
 ·refine aH (al (ah (aR (T (J H ?_)))))
  obtain⟨bK,bN,bo,br,aG⟩:=bX (P:=Tryz.prog) (sz:=3) cn am px G (hy.aL L) (i:=r) (G) .i64
  obtain⟨aT,aL⟩:∃e,e=l.bs[r]'G:=⟨_,rfl⟩
  rw[←aL] at aG
  obtain⟨cp,cr,rfl,ag,ai⟩:=od aG
  refine bF H (bo _) (Y H (br.ld bI H bW) (cM iH H λg5 w5 l5 x5 k5=>(Z H (cl H H k5 H bW (ay.a1 H (ay.a1 ag.one (ay.a1 ai.one ay.nil))) λcc bw bf=>?_))))
  have o:=ao.a2 (x5) bw l5
  refine bB (Y H (bf.ld bI H bW) (aC K9 H H ((J3 (bQ.mk (ag.aL o) (ai.aL o)))) ?_))
  rintro b7 cb ⟨aa,⟨_,rfl,bA⟩⟩
  obtain⟨cs,ct,cu,rfl,aj,ak,an⟩:=ey bA
  refine cM iX H λg6 w6 l6 x6 k6=>cl H H k6 H cL (ay.a1 aj.one (ay.a1 H (ay.a1 ak.one (ay.a1 an.one ay.nil)))) λci bx bg=>?_
  have z:=ao.a2 (x6) bx l6
  refine O (ah (ah ?_))
  have bk:=Di (g.aL (o.ai aa)) l6
  have e1:=((L.ai o).ai aa).ai z
  refine ap (J H (dq H (c H (pB) (Y H (D cO H (e1.a0 (N.cell (i:=10) H))) (aW H (bP cO (R.aL e1)) (J H (O (aR (FF (λ(k:Nat) (F:bj) (j:Value) (m:Value) (n:Value)=>[(0,.pointer (some ⟨h,0,none⟩)),(3,v),(4,I (r:Int)),(6,.pointer (some ⟨g6,0,none⟩)),(13,y),(14,I (l.bs.length:Int)),(15,I (r:Int)),(25,xv),(26,I (xs.length:Int)),(27,I (k:Int))]) (λ(k:Nat) (F:bj) (j:Value) (m:Value) (n:Value) w'=>ao w w'∧k≤xs.length∧F=yp xs (λk=>l.ws.getD (r*xs.length+k) 0) (ln (l.bs.getD r 0)) k∧bm g6 51 [j,B F.ct.sg,m,n] w'∧aD iD F.ts j w'∧aO F.ct.nl m w'∧aO F.ct.dl n w'∧gG w.heap.size A v w') (λ(k:Nat) (F:bj) (j:Value) (m:Value) (n:Value)=>xs.length-k) (0) (ln aT) (_) (_) (_) (aP H) ⟨e1,G,by rw[aL];show _=ln _;rw[lT],bg,(aj.aL z),(ak.aL z),(an.aL z),(g.aL ((o.ai aa).ai z))⟩ ?_)))))))))
  rintro k F j m n wB ⟨M,hk,hF,V,qa,qb,qc,g⟩
  refine ah ?_
  have be:jH F:=by rw[hF];exact hD r k G hk
  obtain⟨b1,b2⟩:=be
  refine ap (U H (bO) (O (ah (bc H (λaZ=>?_) (λaZ=>?_)))))
  ·refine aH (al (ah (aR (T (J H ?_)))))
   obtain⟨bL,bS,bp,bs,aI⟩:=bX (P:=Tryz.prog) (sz:=4) cO am gD G (R.aL M) (i:=k) (G) .i64
   obtain⟨C,ad⟩:∃e,e=xs[k]'G:=⟨_,rfl⟩
   rw[←ad] at aI
   obtain⟨cv,cw,cx,rfl,aq,ar,au⟩:=ey aI
   refine bF H (bp _) (Y H (bs.ld dx H cL) (cM iX H λg8 w8 l8 x8 k8=>(Z H (cl H H k8 H cL (ay.a1 aq.one (ay.a1 H (ay.a1 ar.one (ay.a1 au.one ay.nil)))) λcj bz bh=>?_))))
   have d:=ao.a2 (x8) bz l8
   refine O (cz 20 [0,3,4,6,13,14,15,25,26,27,51] am am (aQ H (λw b=>((V.aL d).aL b).ld dx H cL) (aQ H (λw b=>(bh.aL b).ld dx H cL) (W H (ji H (bH H (λw b=>re) (bH H (λw b=>gJ) ?_)))))))
   have s:=M.ai d
   refine aQ H (λw b=>D cn H (b.a0 (s.a0 (N.cell (i:=7) H)))) (W H (W H (ji H (bH H (λw b=>pB) (aQ H (λw b=>D cO H (b.a0 (s.a0 (N.cell (i:=10) H)))) (mE (vs:=[xv]) H (λw b=>bP cO ((R.aL s).aL b)) ?_))))))
   have b0:r*xs.length≤24*24:=gi G hn
   have a5:(r+1)*xs.length≤l.bs.length*xs.length:=gi G (bV _)
   rw[nZ] at a5
   refine bn (r:=I ((r*xs.length:Nat):Int)) H (λw _=>by have e:((r*xs.length:Nat):Int)=(r:Int)*(xs.length:Int):=G;rw[e];exact dh G G) (W H (bn (r:=I ((r*xs.length+k:Nat):Int)) H (λw _=>by have e:((r*xs.length+k:Nat):Int)=((r*xs.length:Nat):Int)+(k:Int):=G;rw[e];exact dB) ?_))
   obtain⟨bM,bT,bq,bu,aK⟩:=bX (P:=Tryz.prog) (sz:=3) cn am px G (hx.aL s) (i:=r*xs.length+k) (G) .i64
   obtain⟨K,ae⟩:∃e,e=l.ws[r*xs.length+k]'G:=⟨_,rfl⟩
   rw[←ae] at aK
   obtain⟨cA,cB,rfl,aV,aX⟩:=od aK
   refine cF H (λw _=>bq w) (aQ H (λw b=>(bu.aL b).ld bI H bW) ?_)
   have a4:k<xs.length:=G
   have a3:r*xs.length+k<l.ws.length:=G
   obtain⟨bb,bd⟩:=hS C (by rw[ad];exact eK _)
   have a1:=a2 K (by rw[ae];exact eK _)
   obtain⟨b3,b4⟩:=jH.scale ⟨bb,bd⟩ a1
   refine my (S:=bR cy (mP C K)) FN (bR.a3 _ _) H H H (λw b=>Ey ((bR.mk (eX (aq.aL d) (ar.aL d) (au.aL d))).aL b) ((bQ.mk aV aX).aL b) G) (eh (S:=bR cy (iR F (mP C K))) Ac (bR.a3 _ _) H (λw b=>by rintro _ rfl b8 a0;exact zo ((bR.mk (eX (qa.aL d) (qb.aL d) (qc.aL d))).aL b) a0 G) (cq ?_))
   rintro co ab _ rfl _ a8
   obtain rfl:=bU a8
   rintro _ rfl _ rfl _ a6
   obtain rfl:=bU a6
   rintro _ rfl _ rfl _ a7
   obtain rfl:=bU a7
   rintro _ rfl _ rfl _ ⟨_,rfl,bD⟩
   obtain⟨cC,cE,cG,rfl,av,aw,az⟩:=ey bD
   refine cl H H (V.aL (d.ai ab)) H cL (ay.a1 av.one (ay.a1 H (ay.a1 aw.one (ay.a1 az.one ay.nil)))) λck af bi=>?_
   have bJ:=ao.a2 ((s.ai ab)) af (cf (((L.ai o).ai aa)).size l6)
   have X:=Kq.br (p:=[3,0,3,3]) (V.aL (d.ai ab)) (aS qa.kd (aS rfl (aS qb.kd (aS qc.kd dj)))) af
   refine ax (bE (al (ap (U H cD (J H (ax (C7 (k+1) (iR F (mP C K)) (_) (_) (_) (aP H) ⟨bJ,G,by rw[hF];refine aB (iR _) ?_;show _=mP (xs.getD k zF) (l.ws.getD (r*xs.length+k) 0);rw[ad,ae,lT (l:=xs) a4,lT (l:=l.ws) a3],bi,(av.kq X),(aw.kq X),(az.kq X),(bC.st pR ((g.aL d).aL ab) X af bk.symm aF)⟩ G)))))))
  ·refine ce (aU (aU (cg (al ?_))))
   obtain rfl:k=xs.length:=by omega
   refine ap (J H (Y H (V.ld dx H cL) ?_))
   obtain⟨b9,cd,a9,u,aN⟩:=uI (w:=wB) (eX (a:=F) qa qb qc)
   refine dJ (vs:=[(0,.agg #[j,B F.ct.sg,m,n])]) H a9 ?_
   obtain⟨ca,ch,ba,bl,aE⟩:=sR (ty:=34) (g.aL u) aN fZ ((M.ai u)).size
   refine dW H ba ?_
   have bG:=ao.a6 ((M.ai u)) aE ((g.aL u)).ge
   have b6:=((g.aL u)).b3 aE aF
   refine Z H (ax (bE (al (ap (U H cD (J H (ax (eI (r+1) (_) (aP H) ⟨bG,G,by rw[V3,←Q];have t:=bl;rw[hF] at t;exact t⟩ G))))))))
 ·refine ce (aU (aU (cg (al (ah ?_)))))
  obtain rfl:r=l.bs.length:=by omega
  refine ap (J H (Z H (O (aA (aM H ?_)))))
  exact⟨_,H,L,by rw[←Q];have t:=g;exact bC.fa t (gG.bY t) (bV _)⟩
theorem VE {xs:List bj} {win:List Int} {c:Nat→Rat} {s:bj} (h:k<win.length) (a:0≤win[k]) (b:win[k].toNat<xs.length):oc xs win c s (k+1)=iR (oc xs win c s k) (mP xs[win[k].toNat] (c k)):=by
 rw[oc,lT h,if_pos a,lT b]
theorem VD {xs:List bj} {win:List Int} {c:Nat→Rat} {s:bj} (h:k<win.length) (a:¬0≤win[k]):oc xs win c s (k+1)=oc xs win c s k:=by
 rw[oc,lT h,if_neg a]
theorem SM {h m:Nat} {l:cm} {xs:List bj} {W:List (List Int)} {a:List Int} {n hh d:Int} {x:Value} (hB:bm h 103 [I l.kd,I l.fr,I l.ou,I l.kh,I l.kw,I l.sr,I l.pd,x,y,sv,xv,tv,fv] w) (hx:aD dQ l.ws x w) (hy:aD dQ l.bs y w) (hs:aD bJ a sv w) (hX:aD cy xs xv w) (ha:a=[n,hh,d]) (bM:1≤l.kh∧1≤l.kw) (hP:iP n hh d l.kh.toNat l.kw.toNat l.sr l.pd R C) (bu:ke n.toNat hh d l.kh.toNat l.kw.toNat l.sr l.pd R C=W)
 (hb:l.bs.length≤24) (hm:∀e∈W,e.length=m) (bT:l.ws.length=l.bs.length*m) (c7:m≤80) (bx:W.length≤24) (bz:∀e∈W,∀i∈e,i<(xs.length:Int)) (bB:∀q∈l.ws,bt q≤80) (hS:∀f∈xs,jH f) (hD:∀o k,∀e∈W,o<l.bs.length→k≤e.length→jH (oc xs e (λk=>l.ws.getD (o*e.length+k) 0) (ln (l.bs.getD o 0)) k)):
 Calls Tryz.prog 110 #[.pointer (some ⟨h,0,none⟩)] w (aJ λr w'=>ao w w'∧jC w.heap.size cy (lX W (wg l xs) l.bs.length) r w'):=by
 have de:=hy.len
 have c4:=hX.len
 refine enter Tryz.func110 H H H ?_
 refine ah (ap (Z H (ax (al (ah (ap (Z H (ax (al (ah (ap (J H (aC Lf H H ((by have A:=J8 hB hs ha bM hP;rw[bu] at A;exact A)) ?_)))))))))))))
 rintro ag ad ⟨N,bw⟩
 have hW:=bw.1
 refine Z H (ax (al (ah (ah (ap (J H (dq H (az H (c9 (o:=0) vH H am H) ?_))))))))
 refine az H (c9 (o:=8) dG H am H) (Y H (D cn H (N.a0 (hB.cell (i:=8) H))) ?_)
 refine aW H (bP cn (hy.aL N)) (J H (ax (al (aR ?_))))
 refine fp (λ(o:Nat) (v:Value)=>[(0,.pointer (some ⟨h,0,none⟩)),(3,v),(4,ag),(18,y),(19,I (l.bs.length:Int)),(20,I (o:Int))]) (λ(o:Nat) (v:Value) w'=>ao ad w'∧o≤l.bs.length∧gG ad.heap.size (iq W (wg l xs) o 0) v w') (λ(o:Nat) (v:Value)=>l.bs.length-o) (0) (.slice none 0 0) (aP H) ⟨ao.refl _,G,by rw[HH];exact bC.nil _⟩ ?_
 rintro o v wA ⟨eA,ho,u⟩
 refine ah (ap (U H (bO) (ax (al (ah ?_)))))
 refine bc H (λbo=>?_) (λbo=>?_)
 ·refine aH (al (ah (aR (ah (ap (J H ?_))))))
  obtain⟨cT,cY,co,ct,a2⟩:=bX (P:=Tryz.prog) (sz:=3) cn am px G (hy.aL (N.ai eA)) (i:=o) (G) .i64
  obtain⟨M,a7⟩:∃e,e=l.bs[o]'G:=⟨_,rfl⟩
  rw[←a7] at a2
  obtain⟨ai,aj,rfl,aL,aN⟩:=od a2
  refine bF H (co _) (Y H (ct.ld bI H am) ?_)
  obtain⟨g6,w6,b4,l6,x6,k6⟩:=iW (P:=Tryz.prog) (w:=wA) (t:=49) (z:=.agg #[B false,.slice none 0 0,.slice none 0 0]) (l:=[B false,.slice none 0 0,.slice none 0 0]) am rfl
  refine fY H b4 (Z H ?_)
  obtain⟨dp,cG,bd,ci⟩:=k6.c0 (P:=Tryz.prog) (t:=49) (m:=[B M.sg,ai,aj]) rfl am (ay.a1 rfl (ay.a1 aL.one (ay.a1 aN.one ay.nil)))
  refine cZ H cG ?_
  have ak:=ao.a2 (x6) bd l6
  have df:=Kq.of (p:=[0,3,3]) k6 (aS rfl (aS rfl (aS rfl dj))) aF bd
  refine ax (al (ah (ap (J H (aW H (bP gC (hW.aL (eA.ai ak))) (J H (ax (al (aR ?_)))))))))
  refine fp (λ(j:Nat) (v:Value)=>[(0,.pointer (some ⟨h,0,none⟩)),(3,v),(4,ag),(5,I (o:Int)),(6,.pointer (some ⟨g6,0,none⟩)),(18,y),(19,I (l.bs.length:Int)),(20,I (o:Int)),(25,ag),(26,I (W.length:Int)),(27,I (j:Int))]) (λ(j:Nat) (v:Value) w'=>ao ad w'∧j≤W.length∧gG ad.heap.size (iq W (wg l xs) o j) v w'∧bm g6 49 [B M.sg,ai,aj] w'∧aO M.nl ai w'∧aO M.dl aj w') (λ(j:Nat) (v:Value)=>W.length-j) (0) (v) (aP H) ⟨(eA.ai ak),G,(u.aL ak),ci,(aL.aL ak),(aN.aL ak)⟩ ?_
  rintro j v wB ⟨eB,hj,u,kJ,ja,jb⟩
  refine ah ?_
  have bW:=HJ (W:=W) (F:=wg l xs) (o:=o) (j:=j) hj
  have c8:o*W.length≤24*24:=gi G bx
  obtain⟨OO,av⟩:∃OO,OO=iq W (wg l xs) o j:=⟨_,rfl⟩
  rw[←av] at u bW
  refine ap (U H (bO) (ax (al (ah ?_))))
  refine bc H (λbp=>?_) (λbp=>?_)
  ·refine aH (al (ah (aR (ah (ap ?_)))))
   obtain⟨cU,c0,cp,cu,a3⟩:=bX (P:=Tryz.prog) (sz:=1) gC am lR G (hW.aL eB) (i:=j) (G) .i64
   obtain⟨b,aw⟩:∃e,e=W[j]'G:=⟨_,rfl⟩
   rw[←aw] at a3
   obtain⟨aq,rfl,aT⟩:=mi a3
   refine bF H (cp _) (Y H (D cd H cu.cell0) ?_)
   have aK:b∈W:=by rw[aw];exact eK _
   have a8:=hm b aK
   refine Z H (ax (al (ah (ap (Y H (kJ.ld bI H am) (aC K9 H H ((J3 (bQ.mk ja jb))) ?_))))))
   rintro di cI ⟨K,⟨_,rfl,cA⟩⟩
   obtain⟨cK,cL,cM,rfl,aV,aX,aY⟩:=ey cA
   obtain⟨g9,w9,b7,l9,x9,k9⟩:=iW (P:=Tryz.prog) (w:=cI) (t:=51) (z:=.agg #[.slice none 0 0,B false,.slice none 0 0,.slice none 0 0]) (l:=[.slice none 0 0,B false,.slice none 0 0,.slice none 0 0]) am rfl
   refine fY H b7 ?_
   obtain⟨dt,cH,be,cj⟩:=k9.c0 (P:=Tryz.prog) (t:=51) (m:=[cK,B (ln M).ct.sg,cL,cM]) rfl am (ay.a1 aV.one (ay.a1 rfl (ay.a1 aX.one (ay.a1 aY.one ay.nil))))
   refine cZ H cH ?_
   have L:=ao.a2 (x9) be l9
   have dg:=Kq.of (p:=[3,0,3,3]) k9 (aS rfl (aS rfl (aS rfl (aS rfl dj)))) aF be
   refine ax (al (ah (ah ?_)))
   have ck:=Di (u.aL K) l9
   refine ap (J H (aW H (bP cd (aT.aL (K.ai L))) (J H (ax (al (aR ?_))))))
   refine FF (λ(k:Nat) (F:bj) (V:Value) (X:Value) (fc:Value)=>[(0,.pointer (some ⟨h,0,none⟩)),(3,v),(4,ag),(5,I (o:Int)),(6,.pointer (some ⟨g6,0,none⟩)),(8,aq),(9,.pointer (some ⟨g9,0,none⟩)),(18,y),(19,I (l.bs.length:Int)),(20,I (o:Int)),(25,ag),(26,I (W.length:Int)),(27,I (j:Int)),(33,aq),(34,I (b.length:Int)),(35,I (k:Int))]) (λ(k:Nat) (F:bj) (V:Value) (X:Value) (fc:Value) w'=>ao ad w'∧k≤b.length∧F=oc xs b (λk=>l.ws.getD (o*b.length+k) 0) (ln (l.bs.getD o 0)) k∧bm g9 51 [V,B F.ct.sg,X,fc] w'∧aD iD F.ts V w'∧aO F.ct.nl X w'∧aO F.ct.dl fc w'∧gG ad.heap.size OO v w'∧bm g6 49 [B M.sg,ai,aj] w'∧aO M.nl ai w'∧aO M.dl aj w'∧aD bJ b aq w') (λ(k:Nat) (F:bj) (V:Value) (X:Value) (fc:Value)=>b.length-k) (0) (ln M) (_) (_) (_) (aP H) ⟨((eB.ai K).ai L),G,by rw[a7];show _=ln _;rw[lT],cj,(aV.aL L),(aX.aL L),(aY.aL L),(u.aL (K.ai L)),(kJ.aL (K.ai L)),(ja.aL (K.ai L)),(jb.aL (K.ai L)),(aT.aL (K.ai L))⟩ ?_
   rintro k F V X fc wC ⟨Q,hk,hF,kF,qa,qb,qc,u,kI,ia,ib,jw⟩
   refine ah ?_
   have ca:jH F:=by rw[hF];exact hD o k b aK G hk
   obtain⟨da,db⟩:=ca
   refine ap (U H (bO) (ax (al (ah ?_))))
   refine bc H (λbq=>?_) (λbq=>?_)
   ·refine aH (al (ah (aR (ah (ap (J H ?_))))))
    obtain⟨cV,c1,cr,cv,a4⟩:=bX (P:=Tryz.prog) (sz:=1) cd am el G jw (i:=k) (G) .i64
    obtain⟨ar,ab⟩:∃e,e=b[k]'G:=⟨_,rfl⟩
    rw[←ab] at a4
    obtain rfl:=er a4
    refine bF H (cr _) (Y H (D aE H cv.cell0) ?_)
    have c5:=bz b aK ar (by rw[ab];exact eK _)
    refine Z H (Z H (ax (al (ah (ap (J H (U H (eU) (ax (al ?_)))))))))
    refine bc H (λbr=>?_) (λbr=>?_)
    ·refine cz 23 [0,3,4,5,6,8,9,18,19,20,25,26,27,33,34,35,64] am am ?_
     refine aQ H (λw g=>(kF.aL g).ld dx H am) (aG H (ji H (bH H (λw g=>c9 (o:=10) vH H am H) ?_)))
     refine aQ H (λw g=>D cO H (g.a0 ((N.ai Q).a0 (hB.cell (i:=10) H)))) (aG H ?_)
     obtain⟨cW,c2,bb,cw,a5⟩:=bX (P:=Tryz.prog) (sz:=4) cO am gD G (hX.aL (N.ai Q)) (i:=ar.toNat) (G) .i64
     rw[BA G] at bb
     obtain⟨ae,aB⟩:∃e,e=xs[ar.toNat]'G:=⟨_,rfl⟩
     rw[←aB] at a5
     obtain⟨dv,dw,dy,rfl,bg,bh,bi⟩:=ey a5
     refine cF H (λw _=>bb w) (aQ H (λw g=>(cw.aL g).ld dx H am) (aG H ?_))
     refine ji H (bH H (λw g=>c9 (o:=0) vH H am H) (bH H (λw g=>c9 (o:=7) dG H am H) ?_))
     refine aQ H (λw g=>D cn H (g.a0 ((N.ai Q).a0 (hB.cell (i:=7) H)))) (aG H (aG H ?_))
     have c6:o*b.length≤24*80:=gi G G
     have bS:(o+1)*b.length≤l.bs.length*b.length:=gi G (bV _)
     rw[nZ,a8,←bT,←a8] at bS
     refine mE (vs:=[aq]) H (λw g=>bP cd (jw.aL g)) (bn (r:=I ((o*b.length:Nat):Int)) H (λw _=>by have e:((o*b.length:Nat):Int)=(o:Int)*(b.length:Int):=G;rw[e];exact dh G G) ?_)
     refine aG H (bn (r:=I ((o*b.length+k:Nat):Int)) H (λw _=>by have e:((o*b.length+k:Nat):Int)=((o*b.length:Nat):Int)+(k:Int):=G;rw[e];exact dB G G) ?_)
     obtain⟨cX,c3,cs,cx,a6⟩:=bX (P:=Tryz.prog) (sz:=3) cn am px G (hx.aL (N.ai Q)) (i:=o*b.length+k) (G) .i64
     obtain⟨af,aI⟩:∃e,e=l.ws[o*b.length+k]'G:=⟨_,rfl⟩
     rw[←aI] at a6
     obtain⟨dz,dA,rfl,bk,bl⟩:=od a6
     refine cF H (λw _=>cs w) (aQ H (λw g=>(cx.aL g).ld bI H am) ?_)
     have bK:o*b.length+k<l.ws.length:=G
     obtain⟨b8,b9⟩:=hS ae (by rw[aB];exact eK _)
     have bA:=bB af (by rw[aI];exact eK _)
     obtain⟨dc,dd⟩:=jH.scale ⟨b8,b9⟩ bA
     refine eh (S:=bR cy (mP ae af)) FN (bR.a3 _ _) H (λw g=>by rintro _ rfl _ rfl;exact Ey ((bR.mk (eX bg bh bi)).aL g) ((bQ.mk bk bl).aL g) G) ?_
     refine eh (S:=bR cy (iR F (mP ae af))) Ac (bR.a3 _ _) H (λw g=>by rintro _ rfl dk bs;exact zo ((bR.mk (eX qa qb qc)).aL g) bs G) ?_
     refine cq ?_
     intro du T
     rintro _ rfl
     rintro _ b0
     obtain rfl:=bU b0
     rintro _ b2
     obtain rfl:=bU b2
     rintro _ rfl
     rintro _ rfl
     rintro _ b3
     obtain rfl:=bU b3
     rintro _ rfl
     rintro _ bY
     obtain rfl:=bU bY
     rintro _ rfl
     rintro _ rfl
     rintro _ bZ
     obtain rfl:=bU bZ
     rintro _ rfl
     rintro _ rfl
     rintro _ b1
     obtain rfl:=bU b1
     rintro _ rfl
     rintro _ rfl
     rintro _ ⟨_,rfl,cB⟩
     obtain⟨cN,cP,cR,rfl,aZ,a0,a1⟩:=ey cB
     obtain⟨dn,cE,an,ch⟩:=(kF.aL T).c0 (P:=Tryz.prog) (t:=51) (m:=[cN,B (iR F (mP ae af)).ct.sg,cP,cR]) rfl am (ay.a1 aZ.one (ay.a1 rfl (ay.a1 a0.one (ay.a1 a1.one ay.nil))))
     refine cZ H cE ?_
     have cJ:=ao.a2 ((Q.ai T)) an (cf ((eB.ai K)).size l9)
     have aa:=Kq.of (p:=[3,0,3,3]) (kF.aL T) (aS qa.kd (aS rfl (aS qb.kd (aS qc.kd dj)))) aF an
     refine ax (bE (al (ap (U H cD ?_))))
     refine J H (ax ?_)
     have bD:=VE (xs:=xs) (c:=λk=>l.ws.getD (o*b.length+k) 0) (s:=ln (l.bs.getD o 0)) (show k<b.length by omega) (by rw[←ab];omega) (by rw[←ab];omega)
     have cb:=((kI.aL T).a4 an λe=>by have h1:=kJ.lt;have h2:=l9;have h3:=(K).size;have h4:=cC e;omega)
     refine C7 (k+1) (iR F (mP ae af)) (_) (_) (_) (aP H) ⟨cJ,G,by rw[bD,hF,aB,aI];simp only[←ab];rw[lT (l:=l.ws) bK],ch,(aZ.kq aa aF),(a0.kq aa aF),(a1.kq aa aF),(bC.st pR (u.aL T) aa an ck.symm aF),cb,((ia.aL T).kq aa aF),((ib.aL T).kq aa aF),((jw.aL T).kq aa aF)⟩ G
    ·refine aH (bE (al (ap (U H cD ?_))))
     refine J H (ax ?_)
     have bG:=VD (xs:=xs) (c:=λk=>l.ws.getD (o*b.length+k) 0) (s:=ln (l.bs.getD o 0)) (show k<b.length by omega) (by rw[←ab];omega)
     refine C7 (k+1) (F) (V) (X) (fc) (aP H) ⟨Q,G,by rw[bG];exact hF,kF,qa,qb,qc,u,kI,ia,ib,jw⟩ G
   ·refine ce (aU (aU (cg (al ?_))))
    have bN:k=b.length:=G
    rw[bN] at hF
    refine ap (J H (Y H (kF.ld dx H am) ?_))
    obtain⟨dl,dr,b5,O,bf⟩:=uI (w:=wC) (eX (a:=F) qa qb qc)
    refine dJ (vs:=[(0,.agg #[V,B F.ct.sg,X,fc])]) H b5 ?_
    obtain⟨dm,ds,b6,cl,au⟩:=sR (ty:=34) (u.aL O) bf fZ ((Q.ai O)).size
    refine dW H b6 ?_
    have cS:=ao.a6 ((Q.ai O)) au ((u.aL O)).ge
    have ba:=((u.aL O)).b3 au aF
    refine Z H (ax (bE (al (ap (U H cD ?_)))))
    refine J H (ax ?_)
    have a9:=(kI.aL O)
    have cc:=(a9.a4 au.grown (cQ a9 (u.aL O) aF))
    refine eI (j+1) (_) (aP H) ⟨cS,G,by rw[HI G,←av,←aw];have A:=cl;rw[hF] at A;exact A,cc,((ia.aL O).kq ba aF),((ib.aL O).kq ba aF)⟩ G
  ·refine ce (aU (aU (cg (bE (al ?_)))))
   have bL:j=W.length:=G
   refine ap (U H cD ?_)
   refine J H (ax ?_)
   refine eI (o+1) (_) (aP H) ⟨eB,G,by rw[HK];have A:=u;rw[av,bL] at A;exact A⟩ G
 ·refine ce (aU (aU (cg (al (ah ?_)))))
  obtain rfl:o=l.bs.length:=by omega
  refine ap (J H (Z H (ax (al (aA (aM H ?_))))))
  exact⟨_,H,(N.ai eA),by have A:=u;rw[OM] at A;exact bC.fa A (gG.bY A) (N).size⟩
theorem Rg {inp:List Int} {lays:List cm} {shs:List (List Int)} (V:aD fS lays v w) (T:aD fN shs u w) (R:lM inp lays shs) (hl:shs.length=lays.length) (a0:lays.length≤64):
 Calls Tryz.prog 44 #[v,u] w (aJ λr w'=>ao w w'∧Is (I (nP (dy inp shs) lays lays.length)) r w'):=by
 refine enter Tryz.func44 H H H ?_
 refine ah (ap (Z H (f (al (ah (ap (Z H (f (al (ah (ah (ap (J H (aW H (bP dP V) ?_))))))))))))))
 refine J H (f (al (aR ?_)))
 refine fp (λ(i:Nat) (n:Int)=>[(1,u),(5,I n),(8,v),(9,I (lays.length:Int)),(10,I (i:Int))]) (λ(i:Nat) (n:Int) w'=>ao w w'∧i≤lays.length∧n=nP (dy inp shs) lays i) (λ(i:Nat) (n:Int)=>lays.length-i) (0) (0) (aP H) ⟨ao.refl _,G,H⟩ ?_
 rintro i n wA ⟨g,hi,C⟩
 refine ah ?_
 have aq:=PA R i G
 rw[←C] at aq
 refine ap (U H (bO) (f (al (ah ?_))))
 refine bc H (λai=>?_) (λai=>?_)
 ·refine aH (al (ah (aR (ah (ap (J H ?_))))))
  obtain⟨aN,aT,ar,aw,N⟩:=bX (P:=Tryz.prog) (sz:=9) dP am ym G (V.aL g) (i:=i) (G) .i64
  obtain⟨a,x⟩:∃e,e=lays[i]'G:=⟨_,rfl⟩
  rw[←x] at N
  obtain⟨aG,aI,rfl,ad,ae⟩:=yk N
  refine bF H (ar _) (Y H (aw.ld dG H am) ?_)
  obtain⟨g7,w7,an,l7,x7,X⟩:=iW (P:=Tryz.prog) (w:=wA) (t:=78) (z:=.agg #[I 0,I 0,I 0,I 0,I 0,I 0,I 0,.slice none 0 0,.slice none 0 0]) (l:=[I 0,I 0,I 0,I 0,I 0,I 0,I 0,.slice none 0 0,.slice none 0 0]) am rfl
  refine fY H an (Z H ?_)
  obtain⟨a3,aB,aa,L⟩:=X.c0 (P:=Tryz.prog) (t:=78) (m:=[I a.kd,I a.fr,I a.ou,I a.kh,I a.kw,I a.sr,I a.pd,aG,aI]) rfl am (ay.a1 rfl (ay.a1 rfl (ay.a1 rfl (ay.a1 rfl (ay.a1 rfl (ay.a1 rfl (ay.a1 rfl (ay.a1 ad.one (ay.a1 ae.one ay.nil)))))))))
  refine cZ H aB ?_
  have s:=ao.a2 (x7) aa l7
  have a1:=Kq.of (p:=[2,2,2,2,2,2,2,3,3]) X (aS rfl (aS rfl (aS rfl (aS rfl (aS rfl (aS rfl (aS rfl (aS rfl (aS rfl dj))))))))) aF aa
  refine f (al (ah (ap (c H (c9 (o:=0) dG H am H) (Y H (D aE H (L.cell (i:=0) H)) ?_)))))
  refine f (al (aR (ah ?_)))
  have j:=R.2 i a G (by rw[x];exact fy _)
  have q:=D3 j
  obtain⟨F,K⟩:=rk j.so
  rw[lY G] at j q F K
  have b:=zb (S:=dy inp shs) (lays:=lays) (k:=i) G
  rw[←C,←x,lY G] at b
  rcases(show a.kd=5∨a.kd=3∨(a.kd≠5∧a.kd≠3) by omega) with h|h|h
  ·rw[show j9 a shs[i]=cS shs[i] from if_pos h] at q b
   refine ap (U H (cu G aV) (Z H (f (al (bT H (ap (J H (J H (J H ?_)))))))))
   obtain⟨aO,aY,au,ax,O⟩:=bX (P:=Tryz.prog) (sz:=1) gC am lR G (T.aL (g.ai s)) (i:=i) (G) .i64
   obtain⟨ab,y⟩:∃e,e=shs[i]'G:=⟨_,rfl⟩
   rw[←y] at O
   obtain⟨a5,rfl,af⟩:=mi O
   refine bF H (au _) ?_
   rw[←y] at q b F K
   refine Y H (D cd H ax.cell0) (aC uy H H ((uf af (by rw[y];exact j.so))) ?_)
   rintro v24 a2 ⟨aK,rfl⟩
   refine U H (dB G G) (Z H (f (bE (bE (al (ap (U H cD ?_)))))))
   refine J H (f ?_)
   refine eI (i+1) (n+cS ab) (aP H) ⟨((g.ai s).ai aK),G,b.symm⟩ G
  ·rw[show j9 a shs[i]=cS shs[i]*(a.kh*a.kw-1) from(if_neg G).ai (if_pos h),Int.mul_comm] at q b
   obtain⟨⟨⟨h3,h4⟩,⟨h5,h6⟩,_⟩,_⟩:=sL j.ok (.inl h)
   have m1:=gz h4 h6 G G
   have m0:=gz h3 h5 G G
   refine ap (U H (aX G aV) (Z H (f (al (be H (ah (ap (U H (cu G aV) (Z H ?_)))))))))
   refine f (al (bT H (cz 14 [1,8,9,10,41] am am ?_)))
   refine W H (bH H (λw d=>c9 (o:=3) dG H am H) (aQ H (λw d=>D aE H (d.a0 (L.cell (i:=3) H))) ?_))
   refine bH H (λw d=>c9 (o:=4) dG H am H) (aQ H (λw d=>D aE H (d.a0 (L.cell (i:=4) H))) ?_)
   refine bn H (λw _=>dh G G) (bn H (λw _=>dM G G) (W H (W H ?_)))
   obtain⟨a37,aZ,av,az,Q⟩:=bX (P:=Tryz.prog) (sz:=1) gC am lR G (T.aL (g.ai s)) (i:=i) (G) .i64
   obtain⟨M,A⟩:∃e,e=shs[i]'G:=⟨_,rfl⟩
   rw[←A] at Q
   obtain⟨a6,rfl,ag⟩:=mi Q
   refine cF H (λw _=>av w) ?_
   rw[←A] at q b F K
   refine aQ H (λw d=>D cd H (d.a0 az.cell0)) (eh (S:=Is (I (cS M))) uy (cN.is _) H (λw d=>by rintro _ rfl;exact(uf (ag.aL d) (by rw[A];exact j.so))) ?_)
   refine bn H (λw _=>dh G G) (bn H (λw _=>dB G G) (cq ?_))
   intro a4 aL
   rintro _ aj
   obtain rfl:=bU aj
   rintro _ ak
   obtain rfl:=bU ak
   rintro _ rfl
   rintro _ rfl
   rintro _ rfl
   refine Z H (f (bE (bE (al (ap (U H cD ?_))))))
   refine J H (f ?_)
   refine eI (i+1) (n+(a.kh*a.kw-1)*cS M) (aP H) ⟨((g.ai s).ai aL),G,b.symm⟩ G
  ·rw[show j9 a shs[i]=0 from(if_neg h.1).ai (if_neg h.2)] at q b
   refine ap (U H (aX G aV) (Z H (f (al (be H (ah (ap (U H (aX G aV) (Z H ?_)))))))))
   refine f (al (be H (aH (bE (bE (al (ap (U H cD ?_))))))))
   refine J H (f ?_)
   refine eI (i+1) (n) (aP H) ⟨(g.ai s),G,by rw[b];omega⟩ G
 ·refine ce (aU (aU (cg (al (ah (ap (J H (Z H (f (al (aA (aM H ?_))))))))))))
  exact⟨_,H,g,by rw[C,show i=lays.length by omega];rfl⟩
section
variable {P:Program} {ops:Array Oper} {md:Region.Mode} {S:World→Prop} {m:Nat}
def wpAnyL (P:Program) (md:Region.Mode) (ops:Array Oper) (Q:Exit→Act→World→Prop) (S:World→Prop) (m:Nat):Nat→Array Bool→Act→World→Prop
 |0,listed,a,w=>Region.ready md ops listed=[]∧Q .normal a w
 |fuel+1,listed,a,w=>(Region.ready md ops listed=[]→Q .normal a w)∧
  ∀i∈Region.ready md ops listed,wpOp P ops Q i (λa' w'=>((listed.setIfInBounds i true).getD m true=false→S w')∧wpAnyL P md ops Q S m fuel (listed.setIfInBounds i true) a' w') a w
theorem Ij {Q:Exit→Act→World→Prop}:∀(fuel:Nat) (listed:Array Bool) (a:Act) (w:World),wpAnyL P md ops Q S m fuel listed a w→wpAny P md ops Q fuel listed a w
 |0,_,_,_,h=>h
 |fuel+1,_,_,_,h=>⟨h.1,λi hi=>wpOp_mono (λb w' c=>Ij fuel _ b w' c.2) (h.2 i hi)⟩
theorem wpAnyL_first {Q:Exit→Act→World→Prop} {l:Oper} (hi:ops[i]? =some l) (L:∀(j:Nat) (o:Oper) cs b,ops[j]? =some o→o.op≠.select cs b)
 (hQ:∀c a w,Q (.panic c) (a.put l.dst v) w→Q (.panic c) a w) (K:xp md ops ops.size m i=true) (T:i≠m) (Y:m<ops.size):
 ∀(fuel:Nat) (listed:Array Bool) (a:Act) (w:World),HeadInv md ops ops.size listed→
  (∀j f,ops[j]? =some f→j≠i→listed.getD j true=false→(∀e∈f.after,Region.binds md e=true→e.on≠i)→l.apart ops f=true)→
  i∈Region.ready md ops listed→YieldsIf P ops S l v a→S w→
  wpAnyL P md ops Q S m fuel (listed.setIfInBounds i true) (a.put l.dst v) w→wpAnyL P md ops Q S m (fuel+1) listed a w:=by
 intro fuel
 induction fuel with
 |zero=>
  intro listed a w _ _ g y n H
  refine⟨λh=>(by rw[h] at g;cases g),λj r=>?_⟩
  by_cases d:j=i
  ·subst d;exact y.wpOp hi n ⟨λ_=>n,H⟩
  ·have:=ready_mono r d
   rw[H.1] at this
   cases this
 |succ fuel ih=>
  intro listed a w t D g y n H
  refine⟨λh=>(by rw[h] at g;cases g),λj r=>?_⟩
  by_cases d:j=i
  ·subst d;exact y.wpOp hi n ⟨λ_=>n,H⟩
  ·obtain⟨G,f,s,C⟩:=mem_ready.1 r
   have z:=getD_both (mem_ready.1 g).1
   have V:j<ops.size:=(jB.1 s).1
   have U:j≠m:=λe=>by
    subst e
    have:=DH t _ _ K λo A e q p=>by
     obtain rfl:o=f:=cC (A.symm.ai s)
     exact C e q p
    rw[z] at this
    cases this
   have Z:listed.getD m false=false:=Bool.eq_false_iff.2 λe=>by
    have:=DH t _ _ K λo A N q p=>t.closed m o A e N q p
    rw[z] at this
    cases this
   have J:((listed.setIfInBounds i true).setIfInBounds j true).getD m true=false:=by
    rw[getD_set_ne true U,getD_set_ne true T]
    exact getD_in (by rw[t.size];exact Y) Z
   have u:=H.2 j (ready_mono r d)
   have ab:∀e∈f.after,Region.binds md e=true→e.on≠i:=λe q p R=>by
    have u:=C e q p
    rw[R,z] at u
    cases u
   have O:=wpOp_putIf s (D j f s d G ab) (λcs b=>L i l cs b hi) (λcs b=>L j f cs b s) hQ y u
   refine wpOp_mono (λM w' x=>⟨λ_=>x.2.1 J,ih (listed.setIfInBounds j true) M w' (t.set r V) (λk ok W X ad aa=>?_) (ready_mono g (uj d)) x.1 (x.2.1 J) ?_⟩) O
   ·refine D k ok W X ?_ aa
    by_cases F:j=k
    ·subst F;exact G
    ·rwa [getD_set_ne true F] at ad
   ·rw[Array.setIfInBounds_comm _ _ d]
    exact x.2.2
end
section
variable {P:Program} {ops:Array Oper} {Q:eV} {N:Nat} {D:List Deferred} {S:World→Prop} {m fuel:Nat} {listed:Array Bool} {l:Fr} {w:World} {d:Nat} {op:Op} {ty:TypeId} {pos:String} {aft:Array Edge}
def kj (P:Program) (ops:Array Oper) (Q:eV) (N:Nat) (D:List Deferred) (S:World→Prop) (m fuel:Nat) (listed:Array Bool) (l:Fr) (w:World):Prop:=∀a,At N D l a→wpAnyL P .any ops (gn Q) S m fuel listed a w
def Ex (P:Program) (ops:Array Oper) (Q:eV) (S:World→Prop) (m fuel:Nat) (listed:Array Bool):eV:=λe a w=>e=.normal∧(listed.getD m true=false→S w)∧wpAnyL P .any ops (gn Q) S m fuel listed a w
theorem Tv {id:Nat} {os:List Oper} (S:World→Prop) (m n:Nat) (d:os.toArray.size=n) (hm:P.follows .mixedOrders=true)
 (h:kj P os.toArray Q N D S m n (Array.replicate n false) l w.drew):dS P Q N D l w (.region id os.toArray true):=λa b=>by
 subst d
 exact wp_mono (wp_region_any (Q:=gn Q) hm (Ij _ _ _ _ (h a b))) λe a w c=>by obtain⟨rfl,h⟩:=c;exact h
def GC (ops:Array Oper) (listed:Array Bool):Bool:=decide (listed.size=ops.size)&&(List.range ops.size).all λj=> !listed.getD j false||(match ops[j]? with|some o=>o.after.all λe=> !Region.binds .any e||listed.getD e.on false|none=>true)
theorem WV (h:GC ops listed=true):HeadInv .any ops ops.size listed:=by
 simp only[GC,ex,gI] at h
 refine⟨h.1,λj i c g e f d=>?_,λt a b=>absurd b G⟩
 have a:=kR.1 h.2 j (jD.2 (jB.1 c).1)
 rw[c,g] at a
 simp only[Bool.not_true,Bool.false_or] at a
 have b:=(Array.all_eq_true'.1 a) e f
 rw[d] at b
 simpa using b
def uM (ops:Array Oper) (m:Nat) (listed:Array Bool) (i:Nat):Bool:=uL ops listed i&&GC ops listed&&xp .any ops ops.size m i&&decide (i≠m)&&decide (m<ops.size)
theorem yD (i:Nat) (hi:ops[i]? =some ⟨some d,op,ty,pos,aft,none⟩) (b:uM ops m listed i=true) (s:Nat.blt d N=true) (r:S w)
 (t:∀ρ w',rH l ρ→S w'→(execOp ρ ⟨some d,op,ty,pos,aft,none⟩).run P w'=.ok (.value v) w')
 (k:kj P ops Q N D S m fuel (listed.setIfInBounds i true) ((d,v)::l) w):kj P ops Q N D S m (fuel+1) listed l w:=λa e=>by
 simp only[uM,uL,ex,gI] at b
 obtain⟨⟨⟨⟨⟨⟨f,g⟩,j⟩,n⟩,o⟩,p⟩,q⟩:=b
 exact wpAnyL_first hi (Region.noSelect_spec f) (λc a w h=>by obtain⟨h,_⟩:=h;cases h) o p q fuel listed a w (WV n) (Region.free_spec hi g) (by simpa using j) (.inl ⟨H,λw' u=>t a.eval w' (λx v y=>e.ev y) u⟩) r (k _ (e.put s v))
theorem wK (i:Nat) {t:TypeId} {x:Operand} {r:Value} (hi:ops[i]? =some ⟨some d,.load t x,ty,pos,aft,none⟩) (h:ev l x=some u) (a:uM ops m listed i=true) (c:Nat.blt d N=true) (b:S w) (f:∀w',S w'→(Instr.loadAt t u).run P w'=.ok r w')
 (k:kj P ops Q N D S m fuel (listed.setIfInBounds i true) ((d,r)::l) w):kj P ops Q N D S m (fuel+1) listed l w:=
 yD i hi a c b (λρ w' j g=>by
  have e:execOp ρ ⟨some d,.load t x,ty,pos,aft,none⟩=(do pure (Next.value (←Instr.loadAt t (ρ x))):Sem Next):=rfl
  rw[e,j x _ h,Sem.run_bind,f w' g];rfl) k
theorem CI (i:Nat) {x:Operand} {r:Value} (hi:ops[i]? =some ⟨some d,.fieldAddr s x n,ty,pos,aft,none⟩) (h:ev l x=some u) (a:uM ops m listed i=true) (c:Nat.blt d N=true) (b:S w) (f:∀w',S w'→(Instr.fieldAt s u n).run P w'=.ok r w')
 (k:kj P ops Q N D S m fuel (listed.setIfInBounds i true) ((d,r)::l) w):kj P ops Q N D S m (fuel+1) listed l w:=
 yD i hi a c b (λρ w' j g=>by
  have e:execOp ρ ⟨some d,.fieldAddr s x n,ty,pos,aft,none⟩=(do pure (Next.value (←Instr.fieldAt s (ρ x) n)):Sem Next):=rfl
  rw[e,j x _ h,Sem.run_bind,f w' g];rfl) k
theorem AD (i:Nat) {o:Oper} (k:Region.ready .any ops listed=[i]) (hi:ops[i]? =some o) (h:bK P ops (Ex P ops Q S m fuel (listed.setIfInBounds i true)) N D l w [o]):kj P ops Q N D S m (fuel+1) listed l w:=λa q=>by
 refine⟨λp=>absurd (k▸p) aj,λj g=>?_⟩
 rw[k] at g
 obtain rfl:j=i:=by simpa using g
 have h:=h a q
 unfold wpOp
 simp only[hi]
 unfold wpList at h
 split
 ·rename_i d
  rw[if_pos d] at h
  rcases h with h|⟨_,_,_,h,_⟩
  ·refine .inl ?_
   unfold Oper.wp at*
   generalize (execOp a.eval o).run P w=r at*
   cases r with
   |ok n w'=>
    cases n<;>simp only[Oper.upon] at h⊢
    case value u=>exact h.2
    case skip=>exact h.2
    case defer dd=>exact h.2
    case enter f args=>
     refine Calls.mono h λe s b=>?_
     cases e with
     |returned u=>exact b.2
     |panicked c=>obtain⟨b,_⟩:=b;cases b
     |outgrown=>obtain⟨_,_,b,_⟩:=b;cases b
    case row row args=>exact Rows.mono h λu s b=>b.2
   |halt x w'=>
    cases x<;>simp only[Oper.upon] at h⊢
    case panic u=>obtain⟨b,_⟩:=h;cases b
  ·cases h
 ·rename_i d
  rw[if_neg d] at h
  exact h.2
theorem MN (b:S w) (k:kj P ops Q N D S m fuel listed l w):bK P ops (Ex P ops Q S m fuel listed) N D l w []:=λa c=>⟨rfl,λ_=>b,k a c⟩
theorem GK (hm:listed.getD m true=true) (k:kj P ops Q N D S m fuel listed l w):bK P ops (Ex P ops Q S m fuel listed) N D l w []:=λa b=>⟨rfl,λh=>(by rw[hm] at h;cases h),k a b⟩
theorem MM (c:Region.ready .any ops listed=[]) (h:ie Q N D l w):kj P ops Q N D S m 0 listed l w:=λa b=>⟨c,rfl,h a b⟩
end
end Go.Rl

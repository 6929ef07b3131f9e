/- Part 5 of a proof: plain facts and walks of functions, merged by a program. Conditions: each lemma names its own. -/
import Derived.Test.YtddonikjkohphaaGreatDoorWf4
namespace Go.Rl
open Go.RowKit Go.Proofs
variable {a ad:Addr} {w w' w0 w1 w2:World} {R i n g j N sz k o q g' BB g1 kw ch kh C nn:Nat} {v y u z v1 x0 x1 fv sv xv tv:Value} {l m:List UInt32} {fn:Func} {vs xs sp cs cs' zs:List Value} {s ty T':TypeId} {P:Program} {A ns:List Int} {p ks:List Nat} {ts:List TypeId} {rd:Option Nat} {h:Int}
theorem Lc:aY Tryz.prog 45:=⟨_,Tryz.func45,am,rfl⟩
theorem F5:aY Tryz.prog 112:=⟨_,Tryz.func112,am,rfl⟩
theorem J6 {h b:Nat} {n:Int} {us:List bj} {f:bj} (z:dV g h b n cs us u w) (hb:b≤g) (hv:bR cy f v w) (hn:0≤n∧n≤16384) (hu:us.length≤16384):
 Calls Tryz.prog 45 #[v,.pointer (some ⟨g,0,none⟩)] w (aJ λr w'=>∃u',UG g u u' w w'∧dV g h b n cs (us++[f]) u' w'∧bR cy (lZ (n+us.length)) r w'):=by
 obtain⟨_,rfl,ra⟩:=hv
 obtain⟨N,P,Q,rfl,ia,ib,ic⟩:=ey ra
 have o:=z.bg
 have l:=z.ou
 have ah:=o.lt
 refine enter (vs:=[.agg #[N,B f.ct.sg,P,Q],.pointer (some ⟨g,0,none⟩)]) Tryz.func45 H H H (T (cE H H λg2 w2 l2 d k2=>cM iX H λR w3 l3 j W=>(bB (c H (kZ) (Y H (aw cO H ((d.ai j).a0 (o.cell (i:=1) H))) (Y H ((k2.aL j).ld dx H cL) ?_))))))
 obtain⟨v7,w7,aa,F,b7⟩:=uI (w:=w3) (eX (a:=f) (ia.aL (d.ai j)) (ib.aL (d.ai j)) (ic.aL (d.ai j)))
 refine dJ (vs:=[(0,.agg #[N,B f.ct.sg,P,Q])]) H aa ?_
 have X:=(d.ai j).ai F
 obtain⟨v8,w8,ab,D,m⟩:=sR (ty:=34) (l.aL X) b7 fZ (by have:=X.size;omega)
 refine dW H ab ?_
 have C:=(o.aL X).a4 m.grown (cQ (o.aL X) (l.aL X))
 refine c H (kZ) (jQ H H C DN D.one H λal s A=>?_)
 have ae:=Kq.br (p:=[2,3,3]) C (aS rfl (aS l.kd (aS rfl dj))) s
 have o9:=bC.st pR D ae s (cQ C D).symm aF
 refine bB (c H (oh) (Y H (aw aE H (A.cell (i:=0) H)) (c H (kZ) (Y H (aw cO H (A.cell (i:=1) H)) ?_))))
 have ag:(us++[f]).length=us.length+1:=aj
 refine aW H (bP cO (gG.bY o9)) (U H dB (U (r:=I (n+us.length)) H (by have e:n+(us.length:Int)=n+((us++[f]).length:Int)-1:=G;rw[e];exact dM) (aC Ld H H ((J7 (n:=n+us.length))) ?_)))
 rintro ai ak ⟨x,⟨_,rfl,af⟩⟩
 obtain⟨an,ao,ap,rfl,J,K,L⟩:=ey af
 have S:w.heap.size≤R:=cf d.size l3
 have n3:∀k,v8.ownBlock=some k→k≠R:=λk V e=>by
  rcases m.own with y|y
  ·have:=(l.lt k (y▸V)).2;omega
  ·have:=y k V;have:=W.lt;have:=F.size;omega
 have k4:=((W.aL F).a4 m.grown (Di l S)).a4 s λe=>by have h4:=cC e;omega
 have Z:=k4.aL x
 refine cl H H Z H cL (ay.a1 J.one (ay.a1 H (ay.a1 K.one (ay.a1 L.one ay.nil)))) λam t ad=>?_
 have q:=Kq.br (p:=[3,0,3,3]) Z (aS rfl (aS rfl (aS rfl (aS rfl dj)))) t
 refine O (aA (ff H (.cell H (ad.ld dx H cL) .nil) ?_))
 have M:=((((UG.a8 (g:=g) (u:=u) X).ai (UG.unit m)).ai (UG.self s)).aL x).put t S
 refine⟨_,H,v8,M,z.step M ((A.aL x).a4 t λe=>by have h4:=cC e;omega) (bC.st pR (o9.aL x) q t (λe=>n3 _ e H) aF),bR.mk (eX (J.kq q) (K.kq q) (L.kq q))⟩
section
variable {P:Program} {ops:Array Oper} {Q:eV} {N:Nat} {D:List Deferred} {S:World→Prop} {m fuel:Nat} {listed:Array Bool} {l:Fr} {w:World} {d:Nat} {op:Op} {ty:TypeId} {pos:String} {aft:Array Edge}
theorem CJ (i:Nat) {x:Operand} (hi:ops[i]? =some ⟨some d,.move x,ty,pos,aft,none⟩) (e:ev l x=some v) (a:uM ops m listed i=true) (c:Nat.blt d N=true) (b:S w)
 (k:kj P ops Q N D S m fuel (listed.setIfInBounds i true) ((d,v)::l) w):kj P ops Q N D S m (fuel+1) listed l w:=
 yD i hi a c b (λρ w' f g=>by show Result.ok (Next.value (ρ x)) w'=_;rw[f x v e]) k
theorem GL (i:Nat) {x:Operand} (hi:ops[i]? =some ⟨some d,.nilCheck x,ty,pos,aft,none⟩) (f:ev l x=some (.pointer (some a))) (b:uM ops m listed i=true) (e:Nat.blt d N=true) (c:S w)
 (k:kj P ops Q N D S m fuel (listed.setIfInBounds i true) ((d,.pointer (some a))::l) w):kj P ops Q N D S m (fuel+1) listed l w:=
 yD i hi b e c (λρ w' g h=>by simp[execOp,g x _ f]) k
end
abbrev fvU (g:Nat):Value:=.func (.func 45) #[] #[.pointer (some ⟨g,0,none⟩)]
abbrev jJ (l:cm) (x y sv xv tv:Value) (g:Nat):List Value:=[I l.kd,I l.fr,I l.ou,I l.kh,I l.kw,I l.sr,I l.pd,x,y,sv,xv,tv,fvU g]
theorem dV.put {h b:Nat} {n:Int} {us:List bj} (a:dV g h b n cs us u w) (d:bm k 51 cs' w) (f:cs'.map kd=pA) (q:w.grownBy w' (some k)) (c:¬XL g h u k):dV g h b n cs us u w':=
 ⟨a.bg.a4 q λe=>c (.inl (.inl (cC e).symm)),a.bh.a4 q λe=>c (.inl (.inr (cC e).symm)),bC.st pR a.ou (Kq.of d f aF q) q (λe=>c (.inr e)) aF,a.kc⟩
theorem dV.fresh {h b:Nat} {n:Int} {us:List bj} (a:dV g h b n cs us u w) (d:w.heap.size≤k):¬XL g h u k:=λc=>by
 have:=a.lt k c
 omega
theorem SO {h b:Nat} {n:Int} {ly:cm} {x:Value} {D M:Nat} (hb:b≤g) (hn:0≤n) (h0:0<D) (hD:D<2^20010) (hN:N<2^280) (bW:2*(M+64)≤N):∀(k:Nat) {w:World} {us l:List bj} {u v:Value},l.length=k→1≤k→k≤64→n+us.length+k≤49→(∀f∈l,Bd D M (n+us.length) f)→lO D N n us→dV g h b n (jJ ly x y sv xv tv g) us u w→iY g h u cy l v w→
 Calls Tryz.prog 112 #[.pointer (some ⟨h,0,none⟩),v] w (aJ λr w'=>∃u',UG g u u' w w'∧dV g h b n (jJ ly x y sv xv tv g) (fq n l us).2 u' w'∧bR cy (fq n l us).1 r w'):=by
 intro k
 induction k using Nat.strongRecOn with
 |_ k ih=>
 intro w us l u v b0 bX bY b3 a3 hU hL L
 have bZ:=L.ds.len
 refine enter Tryz.func112 H H H (T ?_)
 obtain⟨g4,w4,bk,l4,d,V⟩:=iW (P:=Tryz.prog) (w:=w) (t:=51) (z:=.agg #[.slice none 0 0,B false,.slice none 0 0,.slice none 0 0]) (l:=[.slice none 0 0,B false,.slice none 0 0,.slice none 0 0]) am rfl
 have n4:=hL.fresh l4
 refine fY H bk (O (ah (T (J H (aW H (bP cO (L.aL d).ds) (U H (aV) (O (bc H (λbe=>?_) (λbe=>?_)))))))))
 ·refine T (J H ?_)
  obtain⟨bQ,bT,bU,bg,bu,bz,bf⟩:=MI (L.aL d).ds (i:=0)
  obtain⟨ck,cn,co,rfl,aL,aM,aN⟩:=ey bf
  refine bF H (bu _) (Y H (bz.ld dx H cL) (cl H H V H cL (ay.a1 aL.one (ay.a1 H (ay.a1 aM.one (ay.a1 aN.one ay.nil)))) λce aD bo=>?_))
  have av:=Kq.br (p:=[3,0,3,3]) V (aS rfl (aS rfl (aS rfl (aS rfl dj)))) aD
  refine O (aA (aI (ff H (.cell H (bo.ld dx H cL) .nil) ?_)))
  rw[G3 G,lT G,←bg]
  exact⟨_,H,u,(UG.a8 d).put aD l4,(hL.aL d).put V H aD n4,bR.mk (eX (aL.kq av) (aM.kq av) (aN.kq av))⟩
 ·have bi:1<l.length:=G
  refine aH (al (T (J H (aW H (bP cO (L.aL d).ds) (jP (r:=I (((l.length+1:Nat):Int))) H H H (by have e:((l.length+1:Nat):Int)=(l.length:Int)+1:=G;rw[e];exact dB) ?_)))))
  obtain⟨a,bh⟩:∃a,a=(l.length+1)/2:=⟨_,rfl⟩
  refine U (r:=I (a:Int)) H (by have e:(a:Int)=((l.length+1:Nat):Int)/2:=G;rw[e];exact tf G G G) (Z H (bB (J H (J H (J H ?_)))))
  obtain⟨b8,bw,bb⟩:=iY.hi (P:=Tryz.prog) (sz:=4) cO am gD G (L.aL d) (hi:=a) G
  have ta:(l.take a).length=a:=by rw[eS];omega
  have tb:(l.drop a).length=l.length-a:=by rw[gA]
  have a1:∀f∈l.take a,Bd D M (n+us.length) f:=λf hx=>a3 f (zy hx)
  have la:=AJ (n:=n) (l:=l.take a) (us:=us) a ta G
  obtain⟨X,b2⟩:=Bd.max hn a ta G a1 (N:=N) G hU
  obtain⟨A,hA⟩:∃A,A=(fq n (l.take a) us).1:=⟨_,rfl⟩
  obtain⟨F,aa⟩:∃F,F=(fq n (l.take a) us).2:=⟨_,rfl⟩
  have a2:∀f∈l.drop a,Bd D M (n+F.length) f:=λf hx=>(a3 f (IY hx)).mono (bV _) (by rw[aa];omega)
  rw[←aa] at la X b2
  have lb:=AJ (n:=n) (l:=l.drop a) (us:=F) (l.length-a) tb G
  obtain⟨d1,d2⟩:=Bd.max hn (l.length-a) tb G a2 (N:=N) G b2
  refine jx H H H H H (bw _) (aC F5 H H (ih a G (l:=l.take a) ta G G G a1 hU (hL.aL d) bb) ?_)
  rintro b9 bK ⟨u1,m1,W,ab⟩
  rw[←hA] at ab X
  rw[←aa] at W
  obtain⟨_,rfl,ab⟩:=ab
  obtain⟨ae,af,ag,rfl,aO,aP,aQ⟩:=ey ab
  obtain⟨g6,w6,bl,l6,x6,k6⟩:=iW (P:=Tryz.prog) (w:=bK) (t:=51) (z:=.agg #[.slice none 0 0,B false,.slice none 0 0,.slice none 0 0]) (l:=[.slice none 0 0,B false,.slice none 0 0,.slice none 0 0]) am rfl
  obtain⟨ci,bG,bA,a6⟩:=k6.c0 (P:=Tryz.prog) (t:=51) (m:=[ae,B A.ct.sg,af,ag]) rfl am (ay.a1 aO.one (ay.a1 rfl (ay.a1 aP.one (ay.a1 aQ.one ay.nil))))
  have j:=ao.a2 x6 bA l6
  refine fY H bl (cZ H bG (bB (J H (J H (J H ?_)))))
  have n6:=W.fresh l6
  have az:=m1.eD n4 V.lt
  have a7:=V.ug m1 (λe=>n4 (.inl (.inl e))) (λe=>n4 (.inr e))
  obtain⟨ca,bx,bd⟩:=iY.lo (P:=Tryz.prog) (sz:=4) cO am gD G (((L.aL d).ug m1).aL j) (lo:=a) G
  refine jx H H H H H (bx _) (aC F5 H H (ih (l.length-a) G (l:=l.drop a) tb G G G a2 b2 (W.aL j) bd) ?_)
  rintro cb bL ⟨u2,m2,L2,ad⟩
  obtain⟨o,a0⟩:∃o,o=(fq n (l.drop a) F).1:=⟨_,rfl⟩
  obtain⟨us2,a4⟩:∃us2,us2=(fq n (l.drop a) F).2:=⟨_,rfl⟩
  rw[←a0] at ad d1
  rw[←a4] at L2 lb d1 d2
  have aG:=(W.aL j).ue m2
  obtain⟨_,rfl,ad⟩:=ad
  obtain⟨ai,aj,ak,rfl,aR,aT,aU⟩:=ey ad
  obtain⟨g7,w7,bn,l7,x7,k7⟩:=iW (P:=Tryz.prog) (w:=bL) (t:=51) (z:=.agg #[.slice none 0 0,B false,.slice none 0 0,.slice none 0 0]) (l:=[.slice none 0 0,B false,.slice none 0 0,.slice none 0 0]) am rfl
  obtain⟨ba,bH,bC,ar⟩:=k7.c0 (P:=Tryz.prog) (t:=51) (m:=[ai,B o.ct.sg,aj,ak]) rfl am (ay.a1 aR.one (ay.a1 rfl (ay.a1 aT.one (ay.a1 aU.one ay.nil))))
  have ap:=ao.a2 x7 bC l7
  have n7:=L2.fresh l7
  have a9:=m2.eD n6 a6.lt
  have aB:=m2.eD az (eT a7.lt j.size)
  have a8:=((a7.aL j).ug m2 (λe=>az (.inl (.inl e))) (λe=>az (.inr e))).aL ap
  have au:=(a6.ug m2 (λe=>n6 (.inl (.inl e))) (λe=>n6 (.inr e))).aL ap
  have L3:=L2.aL ap
  refine fY H bn (cZ H bH (O (ah (Tv (λc=>bm g6 51 [ae,B A.ct.sg,af,ag] c∧bm g7 51 [ai,B o.ct.sg,aj,ak] c∧bm h 103 (jJ ly x y sv xv tv g) c) 9 11 am am ?_))))
  obtain⟨R,a5⟩:∃R,R=ba.drew:=⟨_,rfl⟩
  rw[←a5]
  have S:ao ba R:=by rw[a5];exact(ao.refl _).drew
  have C:(λc=>bm g6 51 [ae,B A.ct.sg,af,ag] c∧bm g7 51 [ai,B o.ct.sg,aj,ak] c∧bm h 103 (jJ ly x y sv xv tv g) c) R:=⟨au.aL S,ar.aL S,(L3.aL S).bh⟩
  refine wK 0 H H am H C (λc s=>s.1.ld dx H cL) (CJ 1 H H am H C (GL 2 H H am H C (CI 3 H H am H C (λc _=>Gl) (wK 4 H H am H C (λc s=>aw Tryz.underlying101 H (s.2.2.cell (i:=12) H)) (wK 5 H H am H C (λc s=>s.2.1.ld dx H cL) (wK 6 H H am H C (λc s=>s.1.ld dx H cL) ?_))))))
  have q:=ap.ai S
  have vA:bR cy A (.agg #[ae,B A.ct.sg,af,ag]) R:=bR.mk (eX (((aO.aL j).ue aG).aL q) (((aP.aL j).ue aG).aL q) (((aQ.aL j).ue aG).aL q))
  have vB:bR cy o (.agg #[ai,B o.ct.sg,aj,ak]) R:=bR.mk (eX (aR.aL q) (aT.aL q) (aU.aL q))
  have sA:=(X.mono (N:=M+64) G (show n+(F.length:Int)≤n+us2.length by omega)).small G G h0 hD G
  have sB:=(d1.mono (N:=M+64) G (me _)).small G G h0 hD G
  have bS:Bd D N (n+us2.length) (y9 o A):=((d1.mono (N:=M+64) G (me _)).sub (X.mono (N:=M+64) G G)).mono G (me _)
  have b4:=sA.1;have b5:=sA.2;have b6:=sB.1;have b7:=sB.2
  refine AD 7 am H (aC Uk H H (Rc vB vA G) ?_)
  rintro cc cf ⟨an,bD⟩
  have L4:=(L3.aL S).aL an
  have K:=S.ai an
  refine MN ⟨au.aL K,ar.aL K,L4.bh⟩ (AD 8 am H (im H Lc H H (J6 L4 hb bD G G) ?_))
  rintro cd cg ⟨u3,Q,L5,bE⟩
  have bJ:=L4.ue Q
  have bq:=(au.aL K).ug Q (λe=>a9 (.inl (.inl e))) (λe=>a9 (.inr e))
  have br:=(ar.aL K).ug Q (λe=>n7 (.inl (.inl e))) (λe=>n7 (.inr e))
  refine MN ⟨bq,br,L5.bh⟩ ?_
  have sV:jH (lZ (n+us2.length)):=by
   refine⟨?_,by show 1≤48;omega⟩
   show bt 0+(bt 1+0)≤_
   decide
  refine AD 9 am H (aC Ac H H (zo ((vA.aL an).ue bJ) bE (by have:=sV.1;have:=sV.2;omega)) ?_)
  rintro v37 ch ⟨aK,aF⟩
  refine GK am ?_
  obtain⟨_,rfl,aF⟩:=aF
  obtain⟨bM,bN,bO,rfl,aX,aY,aZ⟩:=ey aF
  have bs:=Q.eD aB (eT a8.lt K.size)
  have aq:=((a8.aL K).ug Q (λe=>aB (.inl (.inl e))) (λe=>aB (.inr e))).aL aK
  obtain⟨cj,bI,aE,bp⟩:=aq.c0 (P:=Tryz.prog) (t:=51) (m:=[bM,B (iR A (lZ (n+us2.length))).ct.sg,bN,bO]) rfl am (ay.a1 aX.one (ay.a1 rfl (ay.a1 aY.one (ay.a1 aZ.one ay.nil))))
  have ax:=Kq.br (p:=[3,0,3,3]) aq (aS rfl (aS rfl (aS rfl (aS rfl dj)))) aE
  refine AD 10 am H (cZ H bI (GK am (MM am (al (aA (ff H (.cell H (bp.ld dx H cL) .nil) ?_))))))
  have M1:=((((UG.a8 (g:=g) (u:=u) d).ai m1).aL j).ai m2).aL (q.ai an)
  rw[G2 bi,←bh,←aa,←hA,←a4,←a0]
  exact⟨_,H,u3,((M1.ai Q).aL aK).put aE l4,(L5.aL aK).put aq H aE bs,bR.mk (eX (aX.kq ax) (aY.kq ax) (aZ.kq ax))⟩
def gx (F:List bj→List bj→bj×List bj) (rows:List (List bj)) (us:List bj):List bj×List bj:=rows.foldl (λs l=>(s.1++[(F l s.2).1],(F l s.2).2)) ([],us)
theorem NO {F:List bj→List bj→bj×List bj} {us:List bj}:gx F [] us=([],us):=rfl
theorem Dm {F:List bj→List bj→bj×List bj} {a:List (List bj)} {l us:List bj}:gx F (a++[l]) us=((gx F a us).1++[(F l (gx F a us).2).1],(F l (gx F a us).2).2):=by unfold gx;rw[xJ];rfl
theorem NM {F:List bj→List bj→bj×List bj} {us:List bj}:∀a:List (List bj),(gx F a us).1.length=a.length:=λa=>by
 have key:∀(a:List (List bj)) (s:List bj×List bj),(a.foldl (λs l=>(s.1++[(F l s.2).1],(F l s.2).2)) s).1.length=s.1.length+a.length:=by
  intro a
  induction a with
  |nil=>intro s;rfl
  |cons l a b=>intro s;rw[BE,b,cw];simp only[cr,qw];omega
 have h:=key a ([],us)
 rwa [show(([]:List bj),us).1.length=0 from rfl,gB] at h
section
variable {g h b:Nat} {n:Int} {cs:List Value} {us us2:List bj} {u u' u2 v:Value} {w w' w2:World} {W:List (List Int)}
theorem WU (i:dV g h b n cs us u w) (p:dV g h b n cs us2 u2 w2) (m:UG g u u2 w w2) {x:Int} (a:w.cell? ad=some (I x)):w2.cell? ad=some (I x):=by
 have hs:ad.spot=none:=World.cell?_spot a
 obtain⟨blk,o,sp⟩:=ad
 obtain rfl:sp=none:=hs
 by_cases f:XU g u blk
 ·rcases f with rfl|f
  ·rw[cell_of_row w _ _ _ _ _ i.bg] at a
   rw[cell_of_row w2 _ _ _ _ _ p.bg]
   obtain⟨A,c,d,rfl⟩:=i.ou.a9
   rcases o with _|_|_|o
   ·exact a
   ·exact absurd (show some (Value.slice A c d)=some (.int .i64 x) from a) aj
   ·exact absurd (show some (Value.slice none 0 0)=some (.int .i64 x) from a) aj
   ·simp at a
  ·exfalso
   obtain⟨⟨k,xs,⟨_,q|⟨g',s,cur,rfl,_,l,_⟩⟩,_⟩,r⟩:=i.ou
   ·rw[q.1] at f;simp[Value.ownBlock] at f
   ·obtain rfl:g'=blk:=by simpa [Value.ownBlock] using f
    rw[cell_of_row w _ _ _ _ _ l] at a
    have j:=r g' _ _ _ rfl l o (I x) (by simpa using a)
    rw[show kd (I x)=2 from rfl] at j
    rcases(show o%4=0∨o%4=1∨o%4=2∨o%4=3 by omega) with e|e|e|e<;>simp[e] at j
 ·rw[World.cell?_of_block (m.mv.keep _ (World.block_lt_of_cell? w _ a) f)]
  exact a
theorem WT (K:dV g h b n cs us u w) (H:dV g h b n cs us2 u2 w2) (m:UG g u u2 w w2) {l:List Int} (e:Rp w (fN l) xs):Rp w2 (fN l) xs:=by
 unfold fN at e⊢
 simp only[Rp] at e⊢
 obtain⟨A,k,c,q,s,t,v,y,C⟩:=e
 refine⟨A,k,c,q,s,t,v,y,λL=>?_⟩
 obtain⟨ad,ys,D,F,G⟩:=C L
 have key:∀(l:List Int) (ys:List Value),bG w (l.map bJ) ys→ys=l.map I:=by
  intro l
  induction l with
  |nil=>intro ys h;simpa only[nW,bG] using h
  |cons a l i=>
   intro ys h
   simp only[iy,bG] at h
   obtain⟨M,p,rfl,d,J⟩:=h
   obtain rfl:=er d
   rw[i p J];rfl
 have o:=key l ys G
 have r:bG w2 (l.map bJ) ys:=by
  rw[o]
  have:∀l:List Int,bG w2 (l.map bJ) (l.map I):=λl=>by
   induction l with
   |nil=>exact bG.nil
   |cons a l i=>exact bG.a1 (wJ a) i
  exact this l
 refine⟨ad,ys,D,λj z f=>?_,r⟩
 have d:=F j z f
 rw[o,tu,gU] at f
 obtain⟨x,_,rfl⟩:=f
 exact WU K H m d
def AvW (g h b:Nat) (n:Int) (cs:List Value) (u:Value) (W:List (List Int)):cT:=λv w=>∀us2 u2 w2,UG g u u2 w w2→dV g h b n cs us2 u2 w2→aD fN W v w2
theorem AvW.of (D:dV g h b n cs us u w) (d:aD fN W v w) (F:∀k,v.ownBlock=some k→¬XL g h u k):AvW g h b n cs u W v w:=λus2 u2 w2 m j=>by
 unfold aD at d⊢
 simp only[Rp] at d⊢
 obtain⟨A,k,c,i,o,p,q,r,s⟩:=d
 refine⟨A,k,c,i,o,p,q,r,λG=>?_⟩
 obtain⟨ad,ys,rfl,t,x⟩:=s G
 obtain rfl:v=.slice (some ad) k c:=by simpa using i
 refine⟨ad,ys,H,Mv.cells m.mv t λ_ J=>F ad.block H (J.elim (λe=>.inl (.inl e)) .inr),?_⟩
 have key:∀(W:List (List Int)) (ys:List Value),bG w (W.map fN) ys→bG w2 (W.map fN) ys:=by
  intro W
  induction W with
  |nil=>intro ys h;simpa only[nW,bG] using h
  |cons a W K=>
   intro ys h
   simp only[iy,bG] at h⊢
   obtain⟨l,f,y,z,C⟩:=h
   exact⟨l,f,y,WT D j m z,K f C⟩
 exact key W ys x
end
theorem La:aY Tryz.prog 111:=⟨_,Tryz.func111,am,rfl⟩
theorem J4 {h b m t:Nat} {n:Int} {l:cm} {xs us:List bj} {W:List (List Int)} {a:List Int} {na hh d:Int} {x:Value} {fs:Array Value} {F:List bj→List bj→bj×List bj} (hL:dV g h b n (jJ l x y sv xv tv g) us u w) (hs:aD bJ a sv w) (hX:iY g h u cy xs xv w) (ha:a=[na,hh,d]) (bq:1≤l.kh∧1≤l.kw) (hP:iP na hh d l.kh.toNat l.kw.toNat l.sr l.pd R C) (bg:ke na.toNat hh d l.kh.toNat l.kw.toNat l.sr l.pd R C=W)
 (bl:aY Tryz.prog t) (ct:l.kh*l.kw=(nn:Int)) (bs:nn≤64) (br:na=(m:Int)) (bd:m≤24) (bf:W.length≤24) (bh:∀e∈W,e.length=m*nn) (bi:∀e∈W,∀i∈e,0≤i∧i<(xs.length:Int))
 (hf:∀{w1:World} {u1 q:Value} (c j:Nat) (hj:j<W.length),c<m→UG g u u1 w w1→dV g h b n (jJ l x y sv xv tv g) (gx F (iq W (gY xs nn) c j) us).2 u1 w1→iY g h u1 cy (gY xs nn c W[j]) q w1→Calls Tryz.prog t (fs++ #[q]++ #[]) w1 (aJ λr w2=>∃u2,UG g u1 u2 w1 w2∧dV g h b n (jJ l x y sv xv tv g) (F (gY xs nn c W[j]) (gx F (iq W (gY xs nn) c j) us).2).2 u2 w2∧bR cy (F (gY xs nn c W[j]) (gx F (iq W (gY xs nn) c j) us).2).1 r w2)):
 Calls Tryz.prog 111 #[.pointer (some ⟨h,0,none⟩),.func (.func t) fs #[]] w (aJ λr w'=>∃u',UG g u u' w w'∧dV g h b n (jJ l x y sv xv tv g) (gx F (lX W (gY xs nn) m) us).2 u' w'∧f8 g h u' cy (gx F (lX W (gY xs nn) m) us).1 r w'):=by
 have hB:=hL.bh
 have cj:=hX.ds
 have ck:a.length=3:=by rw[ha];rfl
 refine enter (vs:=[.pointer (some ⟨h,0,none⟩),.func (.func t) fs #[]]) Tryz.func111 H H H (T (af H (bB (af H (bB (J H (aC Lf H H ((by have h9:=J8 hB hs ha bq hP;rw[bg] at h9;exact h9)) ?_)))))))
 rintro N S ⟨K,aO⟩
 have aN:AvW g h b n (jJ l x y sv xv tv g) u W N S:=AvW.of (hL.aL K) aO.1 (hL.ne aO.2)
 refine af H (O (ah (cz 11 [0,1,5,6,26] am am (aG H (ji H (bH H (λw z=>re) (bH H (λw z=>gq) (aQ H (λw z=>D aE H (z.a0 (K.a0 (hB.cell (i:=3) H)))) (aG H (ji H (bH H (λw z=>re) (bH H (λw z=>gt) (aQ H (λw z=>D aE H (z.a0 (K.a0 (hB.cell (i:=4) H)))) (bn (r:=I ((nn:Int))) H (λw _=>by have e:((nn:Int):Int)=l.kh*l.kw:=G;rw[e];exact dh G G) (cq ?_)))))))))))))))
 rintro cF aZ _ rfl _ rfl _ rfl _ bu
 obtain rfl:=bU bu
 rintro _ rfl
 refine af H (O (ah (T (J H (dq H (az H (Gm) ?_))))))
 have e1:=K.ai aZ
 refine Y H (D cd H (e1.a0 (hB.cell (i:=9) H))) ?_
 obtain⟨a31,cb,bK,bQ,ay⟩:=bX (P:=Tryz.prog) (sz:=1) cd am el G (hs.aL e1) (i:=0) (G) .i64
 obtain⟨ag,aS⟩:∃e,e=a[0]'G:=⟨_,rfl⟩
 rw[←aS] at ay
 obtain rfl:=er ay
 refine bF H (bK _) (Y H (D aE H bQ.cell0) ?_)
 have hE:ag=(m:Int):=by rw[aS,←br];subst ha;rfl
 refine J H (O (aR (ob (λ(c:Nat) (v:Value) (u1:Value)=>[(0,.pointer (some ⟨h,0,none⟩)),(1,.func (.func t) fs #[]),(5,v),(6,N),(7,I (nn:Int)),(32,I ag),(33,I (c:Int))]) (λ(c:Nat) (v:Value) (u1:Value) w'=>c≤m∧UG g u u1 S w'∧dV g h b n (jJ l x y sv xv tv g) (gx F (iq W (gY xs nn) c 0) us).2 u1 w'∧kn g h u1 S.heap.size (gx F (iq W (gY xs nn) c 0) us).1 v w') (λ(c:Nat) (v:Value) (u1:Value)=>m-c) (0) (.slice none 0 0) (u) (aP H) ⟨G,UG.a8 aZ,by rw[HH];exact hL.aL e1,by rw[HH];exact kn.nil⟩ ?_)))
 rintro c v u1 wA ⟨hc,mA,V,oA⟩
 refine T (U H (bO) (O (ah (bc H (λa9=>?_) (λa9=>?_)))))
 ·refine aH (al (ah (aR (T (J H (af H (O (ah ?_))))))))
  have ar:=aN _ _ _ mA V
  refine ap (J H (aW H (bP gC ar) (J H (O (aR (ob (λ(j:Nat) (A:Value) (s:Value)=>[(0,.pointer (some ⟨h,0,none⟩)),(1,.func (.func t) fs #[]),(5,A),(6,N),(7,I (nn:Int)),(8,I (c:Int)),(32,I ag),(33,I (c:Int)),(36,N),(37,I (W.length:Int)),(38,I (j:Int))]) (λ(j:Nat) (A:Value) (s:Value) w'=>j≤W.length∧UG g u s S w'∧dV g h b n (jJ l x y sv xv tv g) (gx F (iq W (gY xs nn) c j) us).2 s w'∧kn g h s S.heap.size (gx F (iq W (gY xs nn) c j) us).1 A w') (λ(j:Nat) (A:Value) (s:Value)=>W.length-j) (0) (v) (u1) (aP H) ⟨G,mA,V,oA⟩ ?_))))))
  rintro j A s wB ⟨hj,M,X,oB⟩
  refine ah ?_
  have kB:=X.bh
  have ar:=aN _ _ _ M X
  have bk:=((hX.aL K).ug M).ds
  have bt:=NM (F:=F) (us:=us) (iq W (gY xs nn) c j)
  rw[HJ hj] at bt
  have cl:c*W.length≤24*24:=gi G bf
  refine ap (U H (bO) (O (ah (bc H (λba=>?_) (λba=>?_)))))
  ·refine aH (al (ah (aR (T ?_))))
   obtain⟨b8,cc,bL,bS,aB⟩:=bX (P:=Tryz.prog) (sz:=1) gC am lR G ar (i:=j) (G) .i64
   obtain⟨ai,au⟩:∃e,e=W[j]'G:=⟨_,rfl⟩
   rw[←au] at aB
   obtain⟨cG,rfl,a2⟩:=mi aB
   refine bF H (bL _) (Y H (D cd H bS.cell0) ?_)
   have aV:ai∈W:=by rw[au];exact eK _
   have cn:=bh ai aV
   have bp:=bi ai aV
   have cp:(c+1)*nn≤m*nn:=gi G (bV _)
   have cr:m*nn≤24*64:=gi bd bs
   have cs:(c+1)*nn=c*nn+nn:=nZ c nn
   refine af H (bB (af H (O (ah (T (J H (J H (J H (U (r:=I ((c*nn:Nat):Int)) H (by have e:((c*nn:Nat):Int)=(c:Int)*(nn:Int):=G;rw[e];exact dh G G) (J H (U H cD (J H (jP (r:=I (((c+1)*nn:Nat):Int)) H H H (by have e:(((c+1)*nn:Nat):Int)=((c+1:Nat):Int)*(nn:Int):=G;rw[e];exact dh G G) ?_)))))))))))))
   obtain⟨bY,bM,an⟩:=YK (P:=Tryz.prog) (sz:=1) cd am el G a2 (lo:=c*nn) (hi:=(c+1)*nn) G G
   obtain⟨o,aj⟩:∃o,o=(ai.take ((c+1)*nn)).drop (c*nn):=⟨_,rfl⟩
   rw[←aj] at an
   have cu:o.length=nn:=by rw[aj,gA,eS];omega
   refine jx H H H H H (bM _) (aW H (bP cd an) (J H (O (aR (fp (λ(k:Nat) (q:Value)=>[(0,.pointer (some ⟨h,0,none⟩)),(1,.func (.func t) fs #[]),(5,A),(6,N),(7,I (nn:Int)),(8,I (c:Int)),(11,q),(32,I ag),(33,I (c:Int)),(36,N),(37,I (W.length:Int)),(38,I (j:Int)),(50,bY),(51,I (o.length:Int)),(52,I (k:Int))]) (λ(k:Nat) (q:Value) w'=>ao wB w'∧k≤o.length∧gG wB.heap.size ((o.take k).map λi=>xs.getD i.toNat zF) q w') (λ(k:Nat) (q:Value)=>o.length-k) (0) (.slice none 0 0) (aP H) ⟨ao.refl _,G,bC.nil _⟩ ?_)))))
   rintro k q wC ⟨p,hk,L⟩
   refine ah ?_
   obtain⟨OO,ab⟩:∃OO,OO=(o.take k).map λi=>xs.getD i.toNat zF:=⟨_,rfl⟩
   have ci:OO.length=k:=by rw[ab,dN,eS];omega
   rw[←ab] at L
   refine ap (U H (bO) (O (ah (bc H (λbb=>?_) (λbb=>?_)))))
   ·refine aH (al (ah (aR (T ?_))))
    obtain⟨b9,cf,bN,bT,aI⟩:=bX (P:=Tryz.prog) (sz:=1) cd am el G (an.aL p) (i:=k) (G) .i64
    obtain⟨aa,av⟩:∃e,e=o[k]'G:=⟨_,rfl⟩
    rw[←av] at aI
    obtain rfl:=er aI
    refine bF H (bN _) (Y H (D aE H bT.cell0) ?_)
    obtain⟨bo,co⟩:=bp aa (by rw[av];exact zy (IY (by rw[←aj];exact eK _)))
    refine af H (O (ap (J H (J H (dq H (az H (pB) (Y H (D cO H (p.a0 (kB.cell (i:=10) H))) (J H ?_))))))))
    obtain⟨ca,ch,aX,bW,aK⟩:=bX (P:=Tryz.prog) (sz:=4) cO am gD G (bk.aL p) (i:=aa.toNat) (G) .i64
    rw[BA bo] at aX
    obtain⟨aq,aT⟩:∃e,e=xs[aa.toNat]'G:=⟨_,rfl⟩
    rw[←aT] at aK
    obtain⟨b1,b2,b3,rfl,a3,a4,a5⟩:=ey aK
    refine bF H (aX _) (Y H (bW.ld dx H cL) ?_)
    have bm:xs.getD aa.toNat zF=aq:=by rw[aT];exact lT G
    obtain⟨cw,cB,bw,ad,a0⟩:=uI (w:=wC) (eX (a:=aq) a3 a4 a5)
    refine dJ (vs:=[(0,.agg #[b1,B aq.ct.sg,b2,b3])]) H bw ?_
    obtain⟨cx,cC,bx,bG,aw⟩:=sR (ty:=34) (L.aL ad) a0 fZ ((p.ai ad)).size
    refine dW H bx ?_
    have b4:=ao.a6 ((p.ai ad)) aw ((L.aL ad)).ge
    have cv:=((L.aL ad)).b3 aw aF
    refine af H (f (bE (al (ap (U H cD (J H (f (eI (k+1) (_) (aP H) ⟨b4,G,by rw[fi G,mg,←ab,←av];show gG _ (OO++[xs.getD aa.toNat zF]) _ _;rw[bm];exact bG⟩ G))))))))
   ·refine ce (aU (aU (cg (al ?_))))
    obtain rfl:k=o.length:=by omega
    rw[fL] at ab
    have be:OO=gY xs nn c W[j]:=by rw[ab,aj,au];rfl
    obtain⟨Z,hZ⟩:∃Z,Z=gx F (iq W (gY xs nn) c j) us:=⟨_,rfl⟩
    refine ap (J H (J H (J H ?_)))
    have LC:=X.aL p
    have aL:iY g h s cy (gY xs nn c W[j]) q wC:=by rw[←be];exact iY.of LC (gG.bY L) (X.ne λk hk=>(L.lt k hk).1) gD G
    refine im H bl H H (hf c j G G (((UG.a8 K).ai M).aL p) LC aL) ?_
    rw[←hZ]
    rintro v70 bZ ⟨u2,m2,L2,ak⟩
    have oC:=(oB.aL p).ug LC m2
    obtain⟨Q,hQ⟩:∃Q,Q=(F (gY xs nn c W[j]) Z.2).1:=⟨_,rfl⟩
    rw[←hQ] at ak
    obtain⟨_,rfl,ak⟩:=ak
    obtain⟨b5,b6,b7,rfl,a6,a7,a8⟩:=ey ak
    obtain⟨cA,b0,bz,ae,a1⟩:=uI (w:=bZ) (eX (a:=Q) a6 a7 a8)
    refine dJ (vs:=[(0,.agg #[b5,B Q.ct.sg,b6,b7])]) H bz ?_
    have bD:S.heap.size≤b0.heap.size:=by have:=M.mv.size;have:=p.size;have:=m2.mv.size;have:=ae.size;omega
    obtain⟨v72,cE,bA,bI,ax⟩:=sR (ty:=34) (oC.1.aL ae) a1 fZ bD
    refine dW H bA ?_
    have LG:=(L2.aL ae).ca (oC.aL ae) ax
    refine af H (f (bE (al (ap (U H cD (J H (f (lj (j+1) (v72) (u2) (aP H) ⟨G,(((M.aL p).ai m2).aL ae).ca ax λk hk=>(oC.1.lt k hk).1,by rw[HI G,Dm,←hZ];exact LG.1,by rw[HI G,Dm,←hZ,←hQ];exact⟨by rw[hZ];exact bI,LG.2⟩⟩ G))))))))
  ·refine ce (aU (aU (cg (bE (al ?_)))))
   obtain rfl:j=W.length:=by omega
   refine ap (U H cD (J H (f (lj (c+1) (A) (s) (aP H) ⟨G,M,by rw[HK];exact X,by rw[HK];exact oB⟩ G))))
 ·refine ce (aU (aU (cg (al (ah ?_)))))
  obtain rfl:c=m:=by omega
  refine ap (J H (af H (O (aA (aM H ?_)))))
  rw[OM] at V oA
  exact⟨_,H,u1,(UG.a8 K).ai mA,V,f8.of V (gG.bY oA.1) oA.2 gD G⟩
theorem CC {α:Type} {f:Nat→List α} {b:Nat} (h:∀i,(f i).length=b):∀n,((List.range n).flatMap f).length=n*b
 |0=>by simp
 |n+1=>by rw[wv,cr,CC h n,h,nZ]
theorem PY {w:Int} {st pad:Int} {r c:Nat}:(ub n h w kh kw st pad r c).length=n*(kh*kw):=CC (λ_=>CC (λ_=>Ie) _) _
theorem P1 {w:Int} {st pad:Int}:(ke n h w kh kw st pad R C).length=R*C:=CC (λ_=>by unfold xz;simp) _
theorem D7 {w:Int} {st pad:Int} {e:List Int} (b:e∈ke n h w kh kw st pad R C):∃r c,r<R∧c<C∧e=ub n h w kh kw st pad r c:=by
 unfold ke at b
 obtain⟨r,g,a⟩:=BH.1 b
 unfold xz at a
 obtain⟨c,f,d⟩:=fF.1 a
 exact⟨r,c,jD.1 g,jD.1 f,d.symm⟩
theorem PZ {w:Int} {st pad:Int} {r c:Nat} {i:Int} (hi:i∈ub n h w kh kw st pad r c):∃ch a k,ch<n∧a<kh∧k<kw∧i=nw h w ch ((r:Int)*st+(a:Int)-pad) ((c:Int)*st+(k:Int)-pad):=by
 unfold ub at hi
 obtain⟨ch,g,b⟩:=BH.1 hi
 unfold zf at b
 obtain⟨a,f,d⟩:=BH.1 b
 unfold xA at d
 obtain⟨k,j,e⟩:=fF.1 d
 exact⟨ch,a,k,jD.1 g,jD.1 f,jD.1 j,e.symm⟩
theorem A9 (n h d:Int):cS [n,h,d]=n*h*d:=by unfold cS;simp
theorem P2 {w:Int} {y x:Int} (c:ch<n) (b:1≤h) (w0:1≤w):nw h w ch y x<n*h*w:=by
 have a:(ch:Int)*h+h≤n*h:=by
  have:=Es (show(ch:Int)+1≤n by omega) (show 0≤h by omega)
  rwa [Int.add_mul,Int.one_mul] at this
 unfold nw
 split
 ·rename_i d
  have a2:=Es (show(ch:Int)*h+y+1≤n*h by omega) (show 0≤w by omega)
  rw[Int.add_mul,Int.one_mul] at a2
  omega
 ·have a3:0≤(ch:Int)*h:=iI G G
  have a4:=gz (show(1:Int)≤n*h by omega) w0 G G
  omega
theorem aaG {w:Int} {y x:Int} (a:0≤y) (b:y<h) (c:0≤x) (d:x<w):0≤nw h w ch y x:=by
 unfold nw
 rw[if_pos ⟨a,b,c,d⟩]
 have e:0≤(ch:Int)*h:=iI G G
 have a2:0≤((ch:Int)*h+y)*w:=iI G G
 omega
theorem P0 {st:Int} {r a:Nat} (hs:1≤st) (e:r<R) (d:a<kh) (c:(R:Int)=(h-kh)/st+1):0≤(r:Int)*st+a∧(r:Int)*st+a<h:=by
 have b:0≤(r:Int)*st:=iI G G
 have a2:=Es (show(r:Int)≤(h-kh)/st by omega) (show 0≤st by omega)
 have a3:=Int.ediv_mul_le (h-kh) (show st≠0 by omega)
 omega
def ir (a:List Int) (l:cm):List (List Int):=ke (a.getD 0 0).toNat (a.getD 1 0) (a.getD 2 0) l.kh.toNat l.kw.toNat l.sr l.pd ((a.getD 1 0+2*l.pd-l.kh)/l.sr+1).toNat ((a.getD 2 0+2*l.pd-l.kw)/l.sr+1).toNat
theorem PN {n d:Int} {l:cm} (e:1≤l.kh∧1≤l.kw) (c:iP n h d l.kh.toNat l.kw.toNat l.sr l.pd R C):ke n.toNat h d l.kh.toNat l.kw.toNat l.sr l.pd R C=ir [n,h,d] l:=by
 have a:=c.r
 have b:=c.c
 rw[show((l.kh.toNat:Nat):Int)=l.kh by omega] at a
 rw[show((l.kw.toNat:Nat):Int)=l.kw by omega] at b
 show _=ke n.toNat h d l.kh.toNat l.kw.toNat l.sr l.pd ((h+2*l.pd-l.kh)/l.sr+1).toNat ((d+2*l.pd-l.kw)/l.sr+1).toNat
 rw[←a,←b,kP,kP]
def AK (p us:List bj):bj×List bj:=(yG p,us)
def kv (n:Int) (a:List Int) (l:cm) (xs fr us:List bj):List bj×List bj:=
 if l.kd=1 then(sw l xs l.bs.length,us)
 else if l.kd=2 then(lX (ir a l) (wg l xs) l.bs.length,us)
 else if l.kd=3 then gx (fq n) (lX (ir a l) (gY xs (l.kh*l.kw).toNat) (a.getD 0 0).toNat) us
 else if l.kd=4 then gx AK (lX (ir a l) (gY xs (l.kh*l.kw).toNat) (a.getD 0 0).toNat) us
 else if l.kd=5 then((List.range xs.length).map λj=>lZ (n+((us.length+j:Nat):Int)),us++xs)
 else if l.kd=7 then((List.range fr.length).map λj=>iR (xs.getD j zF) (fr.getD j zF),us)
 else(xs,us)
def sC (l:List Rat):Nat:=l.foldr (λq p=>q.den*p) 1
theorem Gf:∀l:List Rat,0<sC l
 |[]=>Nat.one_pos
 |q::l=>oN q.den_pos (Gf l)
theorem LK {l:List Rat} (h:∀q∈l,q.den≤4294967296):sC l≤2^(32*l.length):=by
 induction l with
 |nil=>simp[sC]
 |cons q l d=>
  have a:=d λx c=>h x (by simp[c])
  have b:=h q aj
  have e:2^(32*(q::l).length)=4294967296*2^(32*l.length):=by
   rw[cw,Nat.mul_succ,jF,fw]
  rw[e]
  exact gi b a
theorem Bq.f4 {l:List Rat} {q:Rat} {M:Nat} (a:q∈l) (h:q.num.natAbs≤M):Bq (sC l) M q:=by
 have:∃k,sC l=q.den*k:=by
  induction l with
  |nil=>simp at a
  |cons x l c=>
   rcases lF.1 a with rfl|a
   ·exact⟨_,H⟩
   ·obtain⟨k,b⟩:=c a
    exact⟨x.den*k,by show x.den*sC l=_;rw[b,xQ]⟩
 obtain⟨k,b⟩:=this
 rw[b]
 exact(Bq.of h).up k
def EL (l:cm):Nat:=sC l.ws*(sC l.bs*max 1 (l.kh.toNat*l.kw.toNat))
theorem El (l:cm):0<EL l:=oN (Gf _) (oN (Gf _) G)
theorem M0 {l:List Rat} (h:nH (l.map qi)=true):∀q∈l,q.num.natAbs≤4294967296∧q.den≤4294967296:=λq d=>by
 have a:=ip (kR.1 h (qi q) (EI d))
 have b:q.nl.length≤1:=a.1
 have c:q.dl.length≤1:=a.2
 have p:∀m:List UInt32,m.length≤1→val m≤4294967296:=λm hm=>by
  have:=en m
  have:4294967296^m.length≤4294967296^1:=lH G hm
  omega
 refine⟨by rw[←PJ];exact p _ b,?_⟩
 rw[←PH,Bp]
 split
 ·omega
 ·exact p _ c
theorem mV.wb {l:cm} (h:mV l.ba):∀q∈l.ws,q.num.natAbs≤4294967296∧q.den≤4294967296:=M0 h.w1
theorem mV.bb {l:cm} (h:mV l.ba):∀q∈l.bs,q.num.natAbs≤4294967296∧q.den≤4294967296:=M0 h.b1
theorem Km {q:Rat} (h:q.num.natAbs≤4294967296∧q.den≤4294967296):bt q≤80:=by
 have:=nD (n:=q.num.natAbs) (k:=33) G
 have:=nD (n:=q.den) (k:=33) G
 unfold bt
 omega
theorem mV.fs {l:cm} (h:mV l.ba):l.ws.length≤80:=by have:=h.ws;rwa [show l.ba.ws.length=l.ws.length from dN _] at this
theorem mV.fc {l:cm} (h:mV l.ba):l.bs.length≤24:=by have:=h.bs;rwa [show l.ba.bs.length=l.bs.length from dN _] at this
structure f5 (D M:Nat) (n:Int) (a f s:List Int) (l:cm) (xs fr us:List bj):Prop where
 b:mV l.ba
 ok:∃i,fJ l.ba i=true
 c:xV a f l s
 sa:dF a=true
 so:dF s=true
 a24:cS a≤24
 s24:cS s≤24
 xl:(xs.length:Int)=cS a
 fl:l.kd=7→fr.length=xs.length
 bx:∀f∈xs,Bd D M (n+us.length) f
 bf:l.kd=7→∀f∈fr,Bd D M (n+us.length) f
 bu:lO D M n us
 m1:1≤M
 d0:0<D
 d1:D*EL l<2^20010
 m2:M*549755813888<2^280
 n0:0≤n
 un:n+us.length+j9 l s≤44
theorem XC {D E:Nat} (h:D*E<k) (a:0<E):D<k:=nA (qD _ a) h
section
variable {D M:Nat} {n:Int} {a f s:List Int} {l:cm} {xs fr us:List bj}
theorem aas (hs:dF s=true) (b:l.kd=3→1≤l.kh*l.kw):0≤j9 l s:=by
 obtain⟨c,_⟩:=rk hs
 unfold j9
 split
 ·omega
 ·split
  ·rename_i a
   exact iI G (by have:=b a;omega)
  ·omega
theorem f5.kk (h:f5 D M n a f s l xs fr us) (b:l.kd=2∨l.kd=3∨l.kd=4):(1≤l.kh∧1≤l.kw)∧∃nn:Nat,l.kh*l.kw=(nn:Int)∧1≤nn∧nn≤36∧l.kh.toNat*l.kw.toNat=nn∧1≤l.sr:=by
 obtain⟨i,hi⟩:=h.ok
 have d:(1≤l.kh∧1≤l.kw)∧1≤l.sr:=by
  rcases b with b|b|b
  ·obtain⟨⟨c,a2,a3⟩,_⟩:=CZ hi b;exact⟨⟨c.1,a2.1⟩,a3.1⟩
  ·obtain⟨⟨c,a2,a3⟩,_⟩:=sL hi (.inl b);exact⟨⟨c.1,a2.1⟩,a3.1⟩
  ·obtain⟨⟨c,a2,a3⟩,_⟩:=sL hi (.inr b);exact⟨⟨c.1,a2.1⟩,a3.1⟩
 have g:l.kh≤6:=h.b.kh
 have j:l.kw≤6:=h.b.kw
 have m1:=gz g j G G
 have m2:=gz d.1.1 d.1.2 G G
 refine⟨d.1,(l.kh*l.kw).toNat,G,G,G,?_,d.2⟩
 have e:((l.kh.toNat*l.kw.toNat:Nat):Int)=l.kh*l.kw:=by
  rw[qu,show((l.kh.toNat:Nat):Int)=l.kh by omega,show((l.kw.toNat:Nat):Int)=l.kw by omega]
 omega
theorem f5.u0 (h:f5 D M n a f s l xs fr us):0≤j9 l s:=aas h.so λb=>by
 obtain⟨_,nn,e,c,_⟩:=h.kk (.inr (.inl b))
 omega
theorem f5.fd (h:f5 D M n a f s l xs fr us):xs.length≤24:=by have:=h.xl;have:=h.a24;omega
theorem f5.dD (h:f5 D M n a f s l xs fr us):D<2^20010:=XC h.d1 (El _)
theorem f5.sx (h:f5 D M n a f s l xs fr us):∀g∈xs,jH g:=λg b=>(h.bx g b).small (by have:=h.n0;omega) (by have:=h.un;have:=h.u0;omega) h.d0 h.dD (nA (qD _ G) h.m2)
theorem f5.bw (h:f5 D M n a f s l xs fr us) (k:Nat):Bq (EL l) 4294967296 (l.ws.getD k 0):=Bq.getD (λc b=>(Bq.f4 b (h.b.wb c b).1).up _) k
theorem f5.bb (h:f5 D M n a f s l xs fr us) (k:Nat):Bq (EL l) 4294967296 (l.bs.getD k 0):=Bq.getD (λc b=>((Bq.f4 b (h.b.bb c b).1).up _).e2 _) k
theorem f5.b0 (h:f5 D M n a f s l xs fr us) (k:Nat):Bd (D*EL l) (M*4294967296) (n+us.length) (ln (l.bs.getD k 0)):=Bd.num (((h.bb k).e2 D).mono (Jm _ h.m1))
theorem LR {g:bj} (b:k≤127) (a:Bd (D*EL l) ((k+1)*(M*4294967296)) (n+us.length) g):Bd (D*EL l) (M*549755813888) (n+us.length) g:=a.mono (by
 have:(k+1)*(M*4294967296)≤128*(M*4294967296):=fH _ G
 omega) (me _)
theorem f5.sm (h:f5 D M n a f s l xs fr us) {g:bj} (b:Bd (D*EL l) (M*549755813888) (n+us.length) g):jH g:=b.small (by have:=h.n0;omega) (by have:=h.un;have:=h.u0;omega) (oN h.d0 (El _)) h.d1 h.m2
theorem f5.den (h:f5 D M n a f s l xs fr us) (r:Nat) {k:Nat} (b:k≤127):Bd (D*EL l) (M*549755813888) (n+us.length) (yp xs (λk=>l.ws.getD (r*xs.length+k) 0) (ln (l.bs.getD r 0)) k):=
 LR b (Bd.den h.bx (λ_=>h.bw _) (h.b0 r) k)
theorem f5.e0 (h:f5 D M n a f s l xs fr us) (o:Nat) (e:List Int) {k:Nat} (b:k≤127):Bd (D*EL l) (M*549755813888) (n+us.length) (oc xs e (λk=>l.ws.getD (o*e.length+k) 0) (ln (l.bs.getD o 0)) k):=
 LR b (Bd.e0 h.bx (λ_=>h.bw _) (h.b0 o) k)
theorem f5.k1 (h:f5 D M n a f s l xs fr us) (e:l.kd=1):l.ws.length=l.bs.length*xs.length∧s=[(l.bs.length:Int)]:=by
 obtain⟨i,hi⟩:=h.ok
 obtain⟨_,_,c⟩:=GY hi e
 rcases h.c with⟨_,d,hs⟩|⟨b,_⟩|⟨b,_⟩|⟨b,_⟩|⟨b,_⟩|⟨b,_⟩
 ·refine⟨?_,by rw[hs,c]⟩
  rw[←c,←h.xl,←qu] at d
  omega
 all_goals omega
theorem f5.k2 (h:f5 D M n a f s l xs fr us) (v:l.kd=2):∃b j d R C m,a=[b,j,d]∧(1≤l.kh∧1≤l.kw)∧iP b j d l.kh.toNat l.kw.toNat l.sr l.pd R C∧ke b.toNat j d l.kh.toNat l.kw.toNat l.sr l.pd R C=ir a l∧(∀e∈ir a l,e.length=m)∧l.ws.length=l.bs.length*m∧m≤80∧(ir a l).length≤24∧(∀e∈ir a l,∀i∈e,i<(xs.length:Int))∧((l.bs.length*(ir a l).length:Nat):Int)=cS s:=by
 obtain⟨i,hi⟩:=h.ok
 obtain⟨_,_,_,Z,u⟩:=CZ hi v
 obtain⟨w,nn,L,W,X,N,_⟩:=h.kk (.inl v)
 rcases h.c with⟨p,_⟩|⟨_,b,j,d,R,C,q,t,O,hs⟩|⟨p,_⟩|⟨p,_⟩|⟨p,_⟩|⟨p,_⟩
 ·omega
 ·have H:=h.sa
  rw[q] at H
  obtain⟨⟨n1,n2⟩,⟨U,p2⟩,⟨V,q2⟩⟩:=vc H
  have o:=PN w t
  rw[←q] at o
  have F:=h.xl
  rw[q,A9] at F
  have z:((b.toNat:Nat):Int)=b:=G
  have J:(ir a l).length=R*C:=by rw[←o];exact P1
  have T:((l.bs.length*(R*C):Nat):Int)=cS s:=by rw[hs,A9,qu,u,qu,Er]
  have aa:=h.s24
  have A:1≤l.bs.length:=G
  have P:l.ws.length=l.bs.length*(b.toNat*nn):=by
   rw[Er,L,←u,Er,←z,←qu,←qu] at O
   omega
  have Y:=h.b.fs
  refine⟨b,j,d,R,C,b.toNat*nn,q,w,t,o,λe g=>?_,P,?_,?_,λe g i S=>?_,by rw[J];exact T⟩
  ·rw[←o] at g
   obtain⟨r,c,_,_,rfl⟩:=D7 g
   rw[PY,N]
  ·exact cf (Jm _ A) G
  ·rw[J]
   have:1*(R*C)≤l.bs.length*(R*C):=fH _ A
   omega
  ·rw[←o] at g
   obtain⟨r,c,_,_,rfl⟩:=D7 g
   obtain⟨ch,K,k,Q,_,_,rfl⟩:=PZ S
   rw[F]
   have:=P2 (n:=b.toNat) (y:=(r:Int)*l.sr+(K:Int)-l.pd) (x:=(c:Int)*l.sr+(k:Int)-l.pd) Q U V
   rwa [z] at this
 all_goals omega
theorem f5.k3 (h:f5 D M n a f s l xs fr us) (z:l.kd=3∨l.kd=4):∃b g d R C nn p,a=[b,g,d]∧(1≤l.kh∧1≤l.kw)∧iP b g d l.kh.toNat l.kw.toNat l.sr l.pd R C∧ke b.toNat g d l.kh.toNat l.kw.toNat l.sr l.pd R C=ir a l∧l.kh*l.kw=((nn:Nat):Int)∧(1≤nn∧nn≤36)∧b=((p:Nat):Int)∧p≤24∧(ir a l).length≤24∧(∀e∈ir a l,e.length=p*nn)∧(∀e∈ir a l,∀i∈e,0≤i∧i<(xs.length:Int))∧((p*(ir a l).length:Nat):Int)=cS s:=by
 obtain⟨i,hi⟩:=h.ok
 obtain⟨_,_,aa,_⟩:=sL hi z
 obtain⟨A,nn,P,Q,S,T,v⟩:=h.kk (.inr z)
 rcases h.c with⟨q,_⟩|⟨q,_⟩|⟨_,b,g,d,R,C,j,t,hs⟩|⟨q,_⟩|⟨q,_⟩|⟨q,_⟩
 ·omega
 ·omega
 ·have J:=h.sa
  rw[j] at J
  obtain⟨⟨n1,n2⟩,⟨L,p2⟩,⟨N,q2⟩⟩:=vc J
  have o:=PN A t
  rw[←j] at o
  have F:=h.xl
  rw[j,A9] at F
  have u:((b.toNat:Nat):Int)=b:=G
  have K:(ir a l).length=R*C:=by rw[←o];exact P1
  have ad:((b.toNat*(R*C):Nat):Int)=cS s:=by rw[hs,A9,qu,u,qu,Er]
  have ae:=h.s24
  have U:=h.a24
  rw[j,A9] at U
  have H:=t.r
  have w:=t.c
  rw[aa] at H w
  refine⟨b,g,d,R,C,nn,b.toNat,j,A,t,o,P,⟨Q,S⟩,u.symm,?_,?_,λe m=>?_,λe m i Y=>?_,by rw[K];exact ad⟩
  ·have m1:=Q5 L (show 0≤b by omega)
   have m2:=Q5 N (show 0≤b*g by omega)
   omega
  ·rw[K]
   have:1*(R*C)≤b.toNat*(R*C):=fH _ G
   omega
  ·rw[←o] at m
   obtain⟨r,c,_,_,rfl⟩:=D7 m
   rw[PY,T]
  ·rw[←o] at m
   obtain⟨r,c,ab,W,rfl⟩:=D7 m
   obtain⟨ch,O,k,X,V,Z,rfl⟩:=PZ Y
   rw[F]
   refine⟨?_,?_⟩
   ·obtain⟨y1,y2⟩:=P0 (h:=g) (st:=l.sr) v ab V (by rw[H];congr 2;omega)
    obtain⟨x1,x2⟩:=P0 (h:=d) (st:=l.sr) v W Z (by rw[w];congr 2;omega)
    exact aaG G G G G
   ·have:=P2 (n:=b.toNat) (y:=(r:Int)*l.sr+(O:Int)-l.pd) (x:=(c:Int)*l.sr+(k:Int)-l.pd) X L N
    rwa [u] at this
 all_goals omega
theorem ZC {α β:Type} {W:List β} {F:Nat→β→α} {p:α} (c:p∈iq W F o j):∃ch,ch≤o∧∃e∈W,p=F ch e:=by
 unfold iq at c
 rcases oK.1 c with a|a
 ·obtain⟨ch,f,d⟩:=BH.1 a
  obtain⟨e,b,rfl⟩:=fF.1 d
  exact⟨ch,by have:=jD.1 f;omega,e,b,H⟩
 ·obtain⟨e,b,rfl⟩:=fF.1 a
  exact⟨o,bV _,e,zy b,H⟩
theorem HG {α β:Type} {W:List β} {F:Nat→β→α} {p:α} (a:p∈lX W F o):∃ch,ch<o∧∃e∈W,p=F ch e:=by
 unfold lX at a
 obtain⟨ch,c,b⟩:=BH.1 a
 obtain⟨e,d,rfl⟩:=fF.1 b
 exact⟨ch,jD.1 c,e,d,H⟩
theorem A8 {a:Nat} {e:List Int} (f:e.length=a*nn) (b:ch<a):(gY xs nn ch e).length=nn:=by
 have c:(ch+1)*nn≤a*nn:=fH _ b
 have d:(ch+1)*nn=ch*nn+nn:=nZ ch nn
 unfold gY
 rw[dN,gA,eS]
 omega
theorem yP {m:Int} {e:List Int} (b:∀f∈xs,Bd D M m f):∀f∈gY xs nn ch e,Bd D M m f:=λf a=>by
 obtain⟨i,_,rfl⟩:=fF.1 a
 exact Bd.getD b _
theorem NN {a:List (List bj)} (m:0≤n) (c:1≤nn) (o:∀p∈a,p.length=nn∧∀f∈p,Bd D M (n+us.length) f) (h:2*(M+nn)≤N) (i:lO D N n us):
 (gx (fq n) a us).2.length=us.length+a.length*(nn-1)∧(∀f∈(gx (fq n) a us).1,Bd D (M+nn) (n+(gx (fq n) a us).2.length) f)∧lO D N n (gx (fq n) a us).2:=by
 have key:∀k,k≤a.length→(gx (fq n) (a.take k) us).2.length=us.length+k*(nn-1)∧(∀f∈(gx (fq n) (a.take k) us).1,Bd D (M+nn) (n+(gx (fq n) (a.take k) us).2.length) f)∧lO D N n (gx (fq n) (a.take k) us).2:=by
  intro k
  induction k with
  |zero=>intro _;rw[EM,NO];exact⟨aj,λf b=>by simp at b,i⟩
  |succ k q=>
   intro s
   obtain⟨i1,i2,i3⟩:=q G
   rw[fi G,Dm]
   obtain⟨d,r⟩:=o a[k] (eK _)
   obtain⟨Z,j⟩:∃Z,Z=gx (fq n) (a.take k) us:=⟨_,rfl⟩
   rw[←j] at i1 i2 i3⊢
   have t:=AJ (n:=n) (l:=a[k]) (us:=Z.2) nn d c
   have u:(k+1)*(nn-1)=k*(nn-1)+(nn-1):=nZ k _
   obtain⟨e,g⟩:=Bd.max m nn (us:=Z.2) d c (λf b=>(r f b).mono (bV _) (by rw[i1];omega)) h i3
   refine⟨by simp only;omega,λf b=>?_,g⟩
   rcases oK.1 b with b|b
   ·exact(i2 f b).mono (bV _) (by simp only;omega)
   ·obtain rfl:f=(fq n a[k] Z.2).1:=by simpa using b
    exact e
 have:=key a.length (bV _)
 rwa [fL] at this
theorem Yq:∀a:List (List bj),gx AK a us=(a.map yG,us):=λa=>by
 have key:∀k,k≤a.length→gx AK (a.take k) us=((a.take k).map yG,us):=by
  intro k
  induction k with
  |zero=>intro _;simp[NO]
  |succ k b=>
   intro c
   rw[fi G,Dm,b G,mg]
   rfl
 have:=key a.length (bV _)
 rwa [fL] at this
theorem Bq.inv (a:1≤k):Bq k 1 (mkRat 1 k):=⟨1,by
 have b:((k:Int):Rat)≠0:=λh=>by
  have:=Rat.intCast_eq_zero_iff.1 h
  omega
 rw[JD,Rat.div_def,←JB,Rat.mul_assoc,Rat.inv_mul_cancel _ b,BU],by simpa using a⟩
theorem Xv (c:l.kh.toNat*l.kw.toNat=nn) (a:1≤nn∧nn≤36) {p:List bj} (b:p.length=nn) (d:∀g∈p,Bd D M (n+us.length) g):Bd (D*EL l) (M*549755813888) (n+us.length) (yG p):=by
 have e:Bq (EL l) 1 (mkRat 1 p.length):=by
  unfold EL
  rw[c,Nat.max_eq_right a.1,b]
  exact((Bq.inv a.1).e2 _).e2 _
 have:=(Bd.sum d p.length).scale e
 refine this.mono ?_ (me _)
 rw[rR,b,fw]
 exact nY _ G
theorem f5.sum (h:f5 D M n a f s l xs fr us) {p:List bj} (b:∀g∈p,Bd D M (n+us.length) g) {k:Nat} (c:k≤64):jH (za p k):=by
 have:=(Bd.sum b k).up (EL l)
 exact h.sm (this.mono (by rw[fw];exact nY _ G) (me _))
theorem f5.out (h:f5 D M n a f s l xs fr us):((kv n a l xs fr us).1.length:Int)=cS s∧(∀g∈(kv n a l xs fr us).1,Bd (D*EL l) (M*549755813888) (n+(kv n a l xs fr us).2.length) g)∧lO (D*EL l) (M*549755813888) n (kv n a l xs fr us).2∧((kv n a l xs fr us).2.length:Int)=us.length+j9 l s:=by
 have O:M≤M*549755813888:=qD _ G
 have t:=(h.bu.up (EL l)).mono O
 have Q:∀{g:bj},Bd D M (n+us.length) g→Bd (D*EL l) (M*549755813888) (n+us.length) g:=λb=>(b.up _).mono O (me _)
 obtain⟨i,hi⟩:=h.ok
 have ab:=h.m1
 have X:=h.n0
 have ad:=h.fd
 unfold kv j9
 rcases C0 hi with k|k|k|k|k|k|k
 ·obtain⟨_,hs⟩:=h.k1 k
  rw[if_pos k,if_neg G,if_neg G]
  refine⟨by rw[LJ,hs];simp[cS],λg b=>?_,t,aj⟩
  unfold sw at b
  obtain⟨r,_,rfl⟩:=fF.1 b
  exact h.den r G
 ·obtain⟨_,_,_,_,_,m,_,_,_,_,U,_,aa,_,_,u⟩:=h.k2 k
  rw[if_neg G,if_pos k,if_neg G,if_neg G]
  refine⟨by rw[DJ];exact u,λg b=>?_,t,aj⟩
  obtain⟨o,_,e,v,rfl⟩:=HG b
  exact h.e0 o e (by rw[U e v];omega)
 ·obtain⟨L,W,d,R,C,nn,q,A,_,_,_,x,y,Y,_,_,J,_,u⟩:=h.k3 (.inl k)
  have H:(a.getD 0 0).toNat=q:=by rw[A];show L.toNat=q;omega
  rw[if_neg G,if_neg G,if_pos k,if_neg G,if_pos k,x,kP,H]
  have Z:∀p∈lX (ir a l) (gY xs nn) q,p.length=nn∧∀f∈p,Bd (D*EL l) M (n+us.length) f:=λp K=>by
   obtain⟨ch,z,e,v,rfl⟩:=HG K
   exact⟨A8 (J e v) z,yP λf V=>(h.bx f V).up _⟩
  obtain⟨S,p2,p3⟩:=NN X y.1 Z (N:=M*549755813888) G t
  have w:=NM (F:=fq n) (us:=us) (lX (ir a l) (gY xs nn) q)
  rw[DJ] at w S
  refine⟨by rw[w];exact u,λg b=>(p2 g b).mono G (me _),p3,?_⟩
  rw[S,Eu,qu,u,show((nn-1:Nat):Int)=(nn:Int)-1 by omega]
 ·obtain⟨L,W,d,R,C,nn,q,A,_,_,_,x,y,Y,_,_,J,_,u⟩:=h.k3 (.inr k)
  have H:(a.getD 0 0).toNat=q:=by rw[A];show L.toNat=q;omega
  rw[if_neg G,if_neg G,if_neg G,if_pos k,if_neg G,if_neg G,x,kP,H,Yq]
  refine⟨by rw[dN,DJ];exact u,λg b=>?_,t,aj⟩
  obtain⟨_,n2,f1,_,_,T,_⟩:=h.kk (.inr (.inr k))
  obtain rfl:n2=nn:=by omega
  obtain⟨p,K,rfl⟩:=fF.1 b
  obtain⟨ch,z,e,v,rfl⟩:=HG K
  exact Xv T y (A8 (J e v) z) (yP h.bx)
 ·rw[if_neg G,if_neg G,if_neg G,if_neg G,if_pos k,if_pos k]
  have hs:s=a:=by
   rcases h.c with⟨c,_⟩|⟨c,_⟩|⟨c,_⟩|⟨_,hs⟩|⟨c,_⟩|⟨c,_⟩<;>first|omega|exact hs
  refine⟨by rw[dN,uh,hs];exact h.xl,λg b=>?_,λj P=>?_,by rw[cr,Eu,hs,h.xl]⟩
  ·obtain⟨j,P,rfl⟩:=fF.1 b
   have:=jD.1 P
   exact Bd.var G G (by rw[cr];omega)
  ·by_cases w:j<us.length
   ·rw[IV w];exact t j w
   ·rw[IW G]
    exact(Q (h.bx _ (eK _))).mono (bV _) G
 ·rw[if_neg G,if_neg G,if_neg G,if_neg G,if_neg G,if_neg G,if_neg G,if_neg G]
  have hs:s=[cS a]:=by
   rcases h.c with⟨c,_⟩|⟨c,_⟩|⟨c,_⟩|⟨c,_⟩|⟨_,hs⟩|⟨c,_⟩<;>first|omega|exact hs
  refine⟨by rw[hs];simp only[cS,BE,List.foldl_nil,Int.one_mul];exact h.xl,λg b=>Q (h.bx g b),t,aj⟩
 ·rw[if_neg G,if_neg G,if_neg G,if_neg G,if_neg G,if_pos k,if_neg G,if_neg G]
  have hs:s=a:=by
   rcases h.c with⟨c,_⟩|⟨c,_⟩|⟨c,_⟩|⟨c,_⟩|⟨c,_⟩|⟨_,_,hs⟩<;>first|omega|exact hs
  refine⟨by rw[dN,uh,h.fl k,hs];exact h.xl,λg b=>?_,t,aj⟩
  obtain⟨j,_,rfl⟩:=fF.1 b
  exact(((Bd.getD h.bx j).add (Bd.getD (h.bf k) j)).up _).mono G (me _)
end
section
variable {w:World} {cs:List Value}
def mZ (l:List bj):Dt:=.sl (l.map cy)
theorem VN (l:List bj):(mZ l).size=1:=rfl
theorem VM {l:List bj} (h:Rp w (mZ l) cs):∃v,cs=[v]∧aD cy l v w:=y7 h
end
section
variable {P:Program} {ops:Array Oper} {Q:eV} {N:Nat} {D:List Deferred} {S:World→Prop} {m fuel:Nat} {listed:Array Bool} {l:Fr} {w:World} {d:Nat} {op:Op} {ty:TypeId} {pos:String} {aft:Array Edge}
theorem Tw {id:Nat} {os:List Oper} (ps:List (Nat×Nat)) (S:World→Prop) (m n:Nat) (j:(jp os ps).toArray.size=n) (hm:P.follows .mixedOrders=true) (f:yq os ps=true)
 (h:kj P (jp os ps).toArray Q N D S m n (Array.replicate n false) l w.drew):dS P Q N D l w (.region id os.toArray true):=λa g=>by
 refine wp_mono (wp_region_any (Q:=gn Q) hm ?_) λe a w i=>by obtain⟨rfl,h⟩:=i;exact h
 have e:n=os.toArray.size:=by rw[←j];simpa using B7 os ps
 have d:=Ij _ _ _ _ (h a g)
 rw[e] at d
 exact Ii (λc a w b=>by obtain⟨b,_⟩:=b;cases b) Nw ps f _ _ a _ aj d
theorem Xc (i:Nat) {b:BinOp} {t t2:TypeId} {x y:Operand} {r:Value} (hi:ops[i]? =some ⟨some d,.binOp b t x y t2,ty,pos,aft,none⟩) (n:ev l x=some u) (o:ev l y=some v) (c:uM ops m listed i=true) (g:Nat.blt d N=true) (f:S w) (h:∀w',S w'→(bin b t x y u v).run P w'=.ok r w')
 (k:kj P ops Q N D S m fuel (listed.setIfInBounds i true) ((d,r)::l) w):kj P ops Q N D S m (fuel+1) listed l w:=
 yD i hi c g f (λρ w' a j=>by
  have e:execOp ρ ⟨some d,.binOp b t x y t2,ty,pos,aft,none⟩=(do pure (Next.value (←bin b t x y (ρ x) (ρ y))):Sem Next):=rfl
  rw[e,a x _ n,a y _ o,Sem.run_bind,h w' j];rfl) k
theorem Xd (i:Nat) {t:TypeId} {x y:Operand} {r:Value} (hi:ops[i]? =some ⟨some d,.indexAddr t x y,ty,pos,aft,none⟩) (j:ev l x=some u) (n:ev l y=some v) (b:uM ops m listed i=true) (f:Nat.blt d N=true) (c:S w) (g:∀w',S w'→(Instr.indexAt t u v).run P w'=.ok r w')
 (k:kj P ops Q N D S m fuel (listed.setIfInBounds i true) ((d,r)::l) w):kj P ops Q N D S m (fuel+1) listed l w:=
 yD i hi b f c (λρ w' a h=>by
  have e:execOp ρ ⟨some d,.indexAddr t x y,ty,pos,aft,none⟩=(do pure (Next.value (←Instr.indexAt t (ρ x) (ρ y))):Sem Next):=rfl
  rw[e,a x _ j,a y _ n,Sem.run_bind,g w' h];rfl) k
end
theorem Vj:aY Tryz.prog 47:=⟨_,Tryz.func47,am,rfl⟩
theorem dO1 {n:Int} {a:List Int} {l:cm} {xs fr us:List bj} (k:l.kd=1):kv n a l xs fr us=(sw l xs l.bs.length,us):=if_pos k
theorem dO2 {n:Int} {a:List Int} {l:cm} {xs fr us:List bj} (k:l.kd=2):kv n a l xs fr us=(lX (ir a l) (wg l xs) l.bs.length,us):=(if_neg G).ai (if_pos k)
theorem dO3 {n:Int} {a:List Int} {l:cm} {xs fr us:List bj} (k:l.kd=3):kv n a l xs fr us=gx (fq n) (lX (ir a l) (gY xs (l.kh*l.kw).toNat) (a.getD 0 0).toNat) us:=(if_neg G).ai ((if_neg G).ai (if_pos k))
theorem dO4 {n:Int} {a:List Int} {l:cm} {xs fr us:List bj} (k:l.kd=4):kv n a l xs fr us=gx AK (lX (ir a l) (gY xs (l.kh*l.kw).toNat) (a.getD 0 0).toNat) us:=(if_neg G).ai ((if_neg G).ai ((if_neg G).ai (if_pos k)))
theorem dO5 {n:Int} {a:List Int} {l:cm} {xs fr us:List bj} (k:l.kd=5):kv n a l xs fr us=((List.range xs.length).map λj=>lZ (n+((us.length+j:Nat):Int)),us++xs):=(if_neg G).ai ((if_neg G).ai ((if_neg G).ai ((if_neg G).ai (if_pos k))))
theorem dO7 {n:Int} {a:List Int} {l:cm} {xs fr us:List bj} (k:l.kd=7):kv n a l xs fr us=((List.range fr.length).map λj=>iR (xs.getD j zF) (fr.getD j zF),us):=(if_neg G).ai ((if_neg G).ai ((if_neg G).ai ((if_neg G).ai ((if_neg G).ai (if_pos k)))))
theorem dO6 {n:Int} {a:List Int} {l:cm} {xs fr us:List bj} (k:l.kd=6):kv n a l xs fr us=(xs,us):=(if_neg G).ai ((if_neg G).ai ((if_neg G).ai ((if_neg G).ai ((if_neg G).ai (if_neg G)))))
theorem SQ {h b D M:Nat} {n:Int} {a f s:List Int} {l:cm} {xs fr us:List bj} {tr:List (List bj)} {x:Value} (hb:b≤g) (z:dV g h b n (jJ l x y sv xv tv g) us u w) (hx:aD dQ l.ws x w) (hy:aD dQ l.bs y w) (hs:aD bJ a sv w) (hX:f8 g h u cy xs xv w) (hT:aD mZ tr tv w) (hf:l.kd=7→0≤l.fr+1∧(l.fr+1).toNat<tr.length∧tr.getD (l.fr+1).toNat []=fr) (t:f5 D M n a f s l xs fr us):
 Calls Tryz.prog 47 #[.pointer (some ⟨h,0,none⟩)] w (aJ λr w'=>∃u',UG g u u' w w'∧dV g h b n (jJ l x y sv xv tv g) (kv n a l xs fr us).2 u' w'∧f8 g h u' cy (kv n a l xs fr us).1 r w'):=by
 have hB:=z.bh
 have av:=hX.ds
 obtain⟨iL,b8⟩:=t.ok
 have cx:=t.fd
 have bt:=t.n0
 have df:=t.un
 have dd:=t.u0
 refine enter Tryz.func47 H H H (T (Z H (bB (Z H (O (ah (T (J H (dq H (az H (re) (az H (et) (Y H (aw aE H (hB.cell (i:=0) H)) (O (aR (ah ?_)))))))))))))))
 rcases C0 b8 with k|k|k|k|k|k|k
 ·have b9:=t.k1 k
  refine ap (U H (cu G aV) (Z H (O (bT H (T (J H (aC Vh H H ((SN hB hx hy av b9.1 t.b.fc cx (λq hq=>Km (t.b.wb q hq)) t.sx λr k hr hk=>t.sm (t.den r G))) ?_)))))))
  rintro dm dw ⟨a3,bi⟩
  refine Z H (O (aA (bD (aI (aM H ?_)))))
  rw[dO1 k]
  exact⟨_,H,u,UG.a8 a3,z.aL a3,f8.of (z.aL a3) bi.1 (z.ne bi.2) gD G⟩
 ·obtain⟨na,hh,d,R,C,m,ha,ak,hP,ag,bs,ca,b3,af,ai,_⟩:=t.k2 k
  refine ap (U H (aX G aV) (Z H (O (be H (T (U H (cu G aV) (Z H (O (bT H (T (J H (aC Vg H H ((SM hB hx hy hs av ha ak hP ag t.b.fc bs ca b3 af ai (λq hq=>Km (t.b.wb q hq)) t.sx λo k e he ho hk=>t.sm (t.e0 o e (by rw[bs e he] at hk;omega)))) ?_))))))))))))
  rintro v20 dy ⟨a4,bk⟩
  refine Z H (O (aA (bD (aI (aM H ?_)))))
  rw[dO2 k]
  exact⟨_,H,u,UG.a8 a4,z.aL a4,f8.of (z.aL a4) bk.1 (z.ne bk.2) gD G⟩
 ·obtain⟨na,hh,d,R,C,nn,X,ha,ak,hP,ag,ad,bu,a0,aO,af,ab,ai,bx⟩:=t.k3 (.inl k)
  have aS:(a.getD 0 0).toNat=X:=by rw[ha];show na.toNat=X;omega
  refine ap (U H (aX G aV) (Z H (O (be H (T (U H (aX G aV) (Z H (O (be H (T (U H (cu G aV) (Z H (O (bT H (T (J H (J H (lq (us:=[.pointer (some ⟨h,0,none⟩)]) (vs:=[]) H H H (aC La H H (J4 (F:=fq n) (fs:=#[.pointer (some ⟨h,0,none⟩)]) z hs hX.av ha ak hP ag F5 ad G a0 aO af ab ai ?_) ?_)))))))))))))))))))
  ·intro w1 u1 lv c j hj hc m1 L1 a1
   have cp:∀p∈iq (ir a l) (gY xs nn) c j,p.length=nn∧∀f∈p,Bd D M (n+us.length) f:=λp hp=>by
    obtain⟨ch,h1,e,he,rfl⟩:=ZC hp
    exact⟨A8 (ab e he) G,yP t.bx⟩
   have c9:=t.m1
   obtain⟨p1,p2,p3⟩:=NN (N:=M*549755813888) bt bu.1 cp G (t.bu.mono (qD _ G))
   have co:=HJ (W:=ir a l) (F:=gY xs nn) (o:=c) (j:=j) G
   rw[co] at p1
   have q1:(c*(ir a l).length+j+1)*(nn-1)≤X*(ir a l).length*(nn-1):=fH _ (by
    have:=fH (ir a l).length (show c+1≤X by omega)
    rw[nZ] at this
    omega)
   rw[nZ] at q1
   have q2:j9 l s=((X*(ir a l).length*(nn-1):Nat):Int):=by
    unfold j9
    rw[if_neg G,if_pos k,ad,←bx,show(nn:Int)-1=((nn-1:Nat):Int) by omega,←qu]
   rw[show(#[Value.pointer (some ⟨h,0,none⟩)]++ #[lv]++ #[]:Array Value)= #[.pointer (some ⟨h,0,none⟩),lv] from aj]
   have bw:=A8 (xs:=xs) (ab _ (eK hj)) hc
   exact SO (D:=D) (M:=M) (N:=M*549755813888) hb bt t.d0 t.dD t.m2 G nn bw G G G (λf hf=>(yP t.bx f hf).mono (bV _) G) p3 L1 a1
  rintro dn dA ⟨u2,m2,L2,a2⟩
  refine Z H (O (aA (bD (aI (aM H ?_)))))
  rw[dO3 k,aS,ad,kP]
  exact⟨_,H,u2,m2,L2,a2⟩
 ·obtain⟨na,hh,d,R,C,nn,X,ha,ak,hP,ag,ad,bu,a0,aO,af,ab,ai,bx⟩:=t.k3 (.inr k)
  have aS:(a.getD 0 0).toNat=X:=by rw[ha];show na.toNat=X;omega
  refine ap (U H (aX G aV) (Z H (O (be H (T (U H (aX G aV) (Z H (O (be H (T (U H (aX G aV) (Z H (O (be H (T (U H (cu G aV) (Z H (O (bT H (T (J H (aC La H H (J4 (F:=AK) (fs:=#[]) z hs hX.av ha ak hP ag Vi ad G a0 aO af ab ai ?_) ?_))))))))))))))))))))))
  ·intro w1 u1 lv c j hj hc m1 L1 a1
   rw[show(#[]++ #[lv]++ #[]:Array Value)= #[lv] from aj]
   have bw:=A8 (xs:=xs) (ab _ (eK hj)) hc
   refine(SP a1.ds G (λf hf=>(yP t.bx f hf).small G G t.d0 t.dD (nA (qD _ G) t.m2)) λk hk=>t.sum (yP t.bx) G).mono λe w2 he=>?_
   obtain⟨r,rfl,e2,r2⟩:=he
   exact⟨r,H,u1,UG.a8 e2,L1.aL e2,r2⟩
  rintro dp dC ⟨u2,m2,L2,a2⟩
  refine Z H (O (aA (bD (aI (aM H ?_)))))
  rw[dO4 k,aS,ad,kP]
  exact⟨_,H,u2,m2,L2,a2⟩
 ·have cs:s=a:=by
   rcases t.c with⟨h2,_⟩|⟨h2,_⟩|⟨h2,_⟩|⟨_,hs⟩|⟨h2,_⟩|⟨h2,_⟩<;>first|omega|exact hs
  have de:j9 l s=xs.length:=by unfold j9;rw[if_pos k,cs,t.xl]
  refine ap (U H (aX G aV) (Z H (O (be H (T (U H (aX G aV) (Z H (O (be H (T (U H (aX G aV) (Z H (O (be H (T (U H (aX G aV) (Z H (O (be H (T (U H (cu G aV) (Z H (O (bT H (ah (T (J H (dq H (az H (pB) (Y H (aw cO H (hB.cell (i:=10) H)) (aW H (bP cO av) (J H (O (aR (ob (λ(j:Nat) (L:Value) (uB:Value)=>[(0,.pointer (some ⟨h,0,none⟩)),(3,L),(36,xv),(37,I (xs.length:Int)),(38,I (j:Int))]) (λ(j:Nat) (L:Value) (uB:Value) w'=>j≤xs.length∧UG g u uB w w'∧dV g h b n (jJ l x y sv xv tv g) (us++xs.take j) uB w'∧kn g h uB w.heap.size ((List.range j).map λj=>lZ (n+((us.length+j:Nat):Int))) L w') (λ(j:Nat) (L:Value) (uB:Value)=>xs.length-j) (0) (.slice none 0 0) (u) (aP H) ⟨G,UG.refl,by rw[EM,jU];exact z,kn.nil⟩ ?_)))))))))))))))))))))))))))))))))))
  rintro j L uB wB ⟨hj,mB,LB,oB⟩
  refine ah ?_
  have kB:=LB.bh
  have b4:=(hX.ug mB).ds
  have cv:(us++xs.take j).length=us.length+j:=by rw[cr,eS];omega
  refine ap (U H (bO) (O (ah (bc H (λb1=>?_) (λb1=>?_)))))
  ·refine aH (al (ah (aR (T ?_))))
   obtain⟨c0,c3,cG,cN,bl⟩:=bX (P:=Tryz.prog) (sz:=4) cO am gD G b4 (i:=j) (G) .i64
   obtain⟨c7,bq⟩:∃e,e=xs[j]'G:=⟨_,rfl⟩
   rw[←bq] at bl
   obtain⟨dH,dI,dK,rfl,a8,a9,ba⟩:=ey bl
   refine bF H (cG _) (Y H (cN.ld dx H cL) (cM iX H λg5 w5 l5 x5 k5=>cl H H k5 H cL (ay.a1 a8.one (ay.a1 H (ay.a1 a9.one (ay.a1 ba.one ay.nil)))) λdv cJ cA=>?_))
   have bK:=ao.a2 (x5) cJ l5
   refine O (FE 6 [(6,0)] [6,7,8,9] [0,36,37,38,42,46,47] am am am H (aG H (aG H (ji H (bH H (λw v=>Gl) (aQ H (λw v=>aw Tryz.underlying101 H (v.a0 (bK.a0 (kB.cell (i:=12) H)))) (aQ H (λw v=>(cA.aL v).ld dx H cL) (cq ?_))))))))
   rintro dF cZ _ rfl _ cb
   obtain rfl:=bU cb
   rintro _ rfl _ rfl _ cc
   obtain rfl:=bU cc
   rintro _ rfl _ rfl
   have e1:=bK.ai cZ
   refine im H Lc H H (J6 (LB.aL e1) hb (bR.mk (eX (a8.aL e1) (a9.aL e1) (ba.aL e1))) G G) ?_
   rintro dr cT ⟨u2,m2,L2,an⟩
   have oC:=(oB.aL e1).ug (LB.aL e1) m2
   rw[cv] at an
   obtain⟨Q,hQ⟩:∃Q,Q=lZ (n+((us.length+j:Nat):Int)):=⟨_,rfl⟩
   rw[←hQ] at an
   obtain⟨_,rfl,an⟩:=an
   obtain⟨cV,cW,cX,rfl,bQ,bS,bW⟩:=ey an
   have a7:=e1
   obtain⟨ds,cU,cj,aq,bM⟩:=uI (w:=cT) (eX (a:=Q) bQ bS bW)
   refine dJ (vs:=[(0,.agg #[cV,B Q.ct.sg,cW,cX])]) H cj ?_
   have ct:w.heap.size≤cU.heap.size:=by have:=mB.mv.size;have:=a7.size;have:=m2.mv.size;have:=aq.size;omega
   obtain⟨cS,dD,ck,cC,bg⟩:=sR (ty:=34) (oC.1.aL aq) bM (by simp only[cw,c8,dN,uh];omega) ct
   refine dW H ck ?_
   have LG:=(L2.aL aq).ca (oC.aL aq) bg
   refine Z H (ax (wU (bE (al (ap (U H cD (J H (ax (lj (j+1) (cS) (u2) (aP H) ⟨G,(((mB.aL a7).ai m2).aL aq).ca bg λk hk=>(oC.1.lt k hk).1,by rw[fi G,←bq,←fh];exact LG.1,by rw[yH,←hQ];exact⟨cC,LG.2⟩⟩ G)))))))))
  ·refine ce (aU (aU (cg (al (ah ?_)))))
   obtain rfl:j=xs.length:=by omega
   refine ap (J H (Z H (O (aA (bD (aI (aM H ?_)))))))
   rw[dO5 k]
   rw[fL] at LB
   exact⟨_,H,uB,mB,LB,f8.of LB (gG.bY oB.1) oB.2 gD G⟩
 ·refine ap (U H (aX G aV) (Z H (O (be H (T (U H (aX G aV) (Z H ?_)))))))
  refine O (be H (T (U H (aX G aV) (Z H (O (be H (T (U H (aX G aV) (Z H (O (be H (T (U H (aX G aV) (Z H (O (be H (T (U H (aX G aV) (Z H (O (be H (aH (bE (al (T (J H (dq H (az H (pB) (Y H (aw cO H (hB.cell (i:=10) H)) (Z H (O (aA (aM H ?_)))))))))))))))))))))))))))))))))
  rw[dO6 k]
  exact⟨_,H,u,UG.a8 (ao.refl _),z.aL (ao.refl _),hX.aL (ao.refl _)⟩
 ·obtain⟨b5,aZ,b6⟩:=hf k
  have b7:=t.fl k
  have dc:=hT.len
  refine ap (U H (aX G aV) (Z H (O (be H (T (U H (aX G aV) (Z H (O (be H (T (U H (aX G aV) (Z H (O (be H (T (U H (aX G aV) (Z H (O (be H (T (U H (aX G aV) (Z H (O (be H (T (U H (cu G aV) (Z H (O (bT H (ah (ah ?_)))))))))))))))))))))))))))))))
  obtain⟨a6,c4,bA,cP,bn⟩:=bX (P:=Tryz.prog) (sz:=1) zN am VN G hT (i:=(l.fr+1).toNat) aZ .i64
  rw[BA b5] at bA
  obtain⟨aa,br⟩:∃e,e=tr[(l.fr+1).toNat]'aZ:=⟨_,rfl⟩
  rw[←br] at bn
  obtain⟨a5,rfl,aN⟩:=VM bn
  have aB:aa=fr:=by rw[br,←b6];exact(lT aZ).symm
  have dg:=aN.len
  refine Tw [(12,13)] (λA=>bm h 103 (jJ l x y sv xv tv g) A∧ez A a6 [a5]) 12 14 am am am ?_
  obtain⟨aK,bz⟩:∃wd,wd=w.drew:=⟨_,rfl⟩
  rw[←bz]
  have V:ao w aK:=by rw[bz];exact(ao.refl _).drew
  have K:(λA=>bm h 103 (jJ l x y sv xv tv g) A∧ez A a6 [a5]) aK:=⟨hB.aL V,cP.aL V⟩
  refine CJ 0 H H am H K (GL 1 H H am H K (CI 2 H H am H K (λA _=>Cy) (wK 3 H H am H K (λA h9=>aw zN H (h9.1.cell (i:=11) H)) (CJ 4 H H am H K (GL 5 H H am H K (CI 6 H H am H K (λA _=>re) (CI 7 H H am H K (λA _=>jr) (wK 8 H H am H K (λA h9=>aw aE H (h9.1.cell (i:=1) H)) (Xc 9 H H H am H K (λA _=>dB) (Xd 10 H H H am H K (λA _=>bA A) (wK 11 H H am H K (λA h9=>aw cO H h9.2.cell0) (CJ 13 H H am H K ?_))))))))))))
  refine AD 12 am H (aW H (bP cO (aN.aL V)) (GK am (MM am (al (aR (fp (λ(j:Nat) (L:Value)=>[(0,.pointer (some ⟨h,0,none⟩)),(3,L),(66,a5),(67,I (aa.length:Int)),(68,I (j:Int))]) (λ(j:Nat) (L:Value) w'=>ao aK w'∧j≤aa.length∧gG aK.heap.size ((List.range j).map λj=>iR (xs.getD j zF) (fr.getD j zF)) L w') (λ(j:Nat) (L:Value)=>aa.length-j) (0) (.slice none 0 0) (aP H) ⟨ao.refl _,G,bC.nil _⟩ ?_))))))
  rintro j L wB ⟨eB,hj,hO⟩
  refine ah ?_
  obtain⟨OO,au⟩:∃OO,OO=(List.range j).map λj=>iR (xs.getD j zF) (fr.getD j zF):=⟨_,rfl⟩
  have da:OO.length=j:=by rw[au,dN,uh]
  rw[←au] at hO
  have db:aa.length=xs.length:=by rw[aB];exact b7
  refine ap (U H (bO) (O (ah (bc H (λb2=>?_) (λb2=>?_)))))
  ·refine aH (al (ah (aR (T (J H ?_)))))
   obtain⟨c1,c5,cH,cQ,bo⟩:=bX (P:=Tryz.prog) (sz:=4) cO am gD G (aN.aL (V.ai eB)) (i:=j) (G) .i64
   obtain⟨ar,aT⟩:∃e,e=aa[j]'G:=⟨_,rfl⟩
   rw[←aT] at bo
   obtain⟨dL,dM,dO,rfl,bb,bd,bf⟩:=ey bo
   refine bF H (cH _) (Y H (cQ.ld dx H cL) (cM iX H λg7 w7 l7 x7 k7=>(Z H (cl H H k7 H cL (ay.a1 bb.one (ay.a1 H (ay.a1 bd.one (ay.a1 bf.one ay.nil)))) λdz cK cB=>?_))))
   have ae:=ao.a2 (x7) cK l7
   refine O (cz 11 [0,66,67,68,73,83] am am (aG H (aG H (ji H (bH H (λw v=>pB) ?_)))))
   have e5:=(V.ai eB).ai ae
   refine aQ H (λw v=>aw cO H (v.a0 (e5.a0 (hB.cell (i:=10) H)))) (aG H ?_)
   obtain⟨c2,c6,cI,cR,bp⟩:=bX (P:=Tryz.prog) (sz:=4) cO am gD G (av.aL e5) (i:=j) (G) .i64
   obtain⟨aL,aY⟩:∃e,e=xs[j]'G:=⟨_,rfl⟩
   rw[←aY] at bp
   obtain⟨dP,dR,dS,rfl,bY,bZ,b0⟩:=ey bp
   refine cF H (λw _=>cI w) (aQ H (λw v=>(cR.aL v).ld dx H cL) (aQ H (λw v=>(cB.aL v).ld dx H cL) ?_))
   have bG:=((t.bf k ar (by rw[←aB,aT];exact eK _))).small G G t.d0 t.dD (nA (qD _ G) t.m2)
   have bI:=t.sx aL (by rw[aY];exact eK _)
   have di:=bG.1;have dj:=bG.2;have dk:=bI.1;have dl:=bI.2
   refine my (S:=bR cy (iR aL ar)) Ac (bR.a3 _ _) H H H (λw v=>zo ((bR.mk (eX bY bZ b0)).aL v) ((bR.mk (eX (bb.aL ae) (bd.aL ae) (bf.aL ae))).aL v) G) (wr (S:=aD cy [(iR aL ar)]) (aD.a3 _ _) H (λw v=>by rintro _ ⟨_,rfl,r⟩;exact uI r) (cq ?_))
   rintro dG bL _ rfl _ cd
   obtain rfl:=bU cd
   rintro _ rfl _ rfl _ ci
   obtain rfl:=bU ci
   intro du bN
   have e3:=ae.ai bL
   have e4:=((eB.ai ae).ai bL)
   obtain⟨dt,dE,cn,cE,bh⟩:=sR (ty:=34) (hO.aL e3) bN fZ e4.size
   refine dW H cn ?_
   have cY:=ao.a6 e4 bh ((hO.aL e3)).ge
   have dh:=((hO.aL e3)).b3 bh aF
   refine Z H (ax (bE (al (ap (U H cD (J H (ax (eI (j+1) (_) (aP H) ⟨cY,G,by rw[yH,←au,lT (l:=xs) G,lT (l:=fr) G,←aY,show fr[j]=ar by rw[aT];simp only[aB]];exact cE⟩ G))))))))
  ·refine ce (aU (aU (cg (al (ah ?_)))))
   obtain rfl:j=aa.length:=by omega
   refine ap (J H (Z H (O (aA (bD (aI (aM H ?_)))))))
   rw[dO7 k]
   exact⟨_,H,u,UG.a8 (V.ai eB),z.aL (V.ai eB),f8.of (z.aL (V.ai eB)) (by have h9:=gG.bY hO;rw[au,show aa.length=fr.length by rw[aB]] at h9;exact h9) (z.ne λk hk=>cf (V).size ((hO).lt k hk).1) gD G⟩
def fW (n:Int) (lays:List cm) (S:Nat→List Int):Nat→List (List bj)×List bj
 |0=>([(List.range n.toNat).map λi:Nat=>lZ i],[])
 |i+1=>match lays[i]? with
  |none=>fW n lays S i
  |some l=>((fW n lays S i).1++[(kv n (S i) l ((fW n lays S i).1.getD i []) ((fW n lays S i).1.getD (l.fr+1).toNat []) (fW n lays S i).2).1],(kv n (S i) l ((fW n lays S i).1.getD i []) ((fW n lays S i).1.getD (l.fr+1).toNat []) (fW n lays S i).2).2)
theorem Nc {n:Int} {lays:List cm} {S:Nat→List Int} (h:i<lays.length):fW n lays S (i+1)=((fW n lays S i).1++[(kv n (S i) lays[i] ((fW n lays S i).1.getD i []) ((fW n lays S i).1.getD (lays[i].fr+1).toNat []) (fW n lays S i).2).1],(kv n (S i) lays[i] ((fW n lays S i).1.getD i []) ((fW n lays S i).1.getD (lays[i].fr+1).toNat []) (fW n lays S i).2).2):=by
 rw[fW,fy h]
def rg (M:gF) (shs:List (List Int)):gm:=⟨cS M.inp,(fW (cS M.inp) M.lays (dy M.inp shs) M.lays.length).2,(fW (cS M.inp) M.lays (dy M.inp shs) M.lays.length).1.getD M.lays.length []⟩
def DL:List cm→Nat→Nat
 |_,0=>1
 |lays,i+1=>DL lays i*EL (lays.getD i li)
structure I2 (n:Int) (lays:List cm) (S:Nat→List Int) (i:Nat):Prop where
 l:(fW n lays S i).1.length=i+1
 x:∀j,j≤i→(((fW n lays S i).1.getD j []).length:Int)=cS (S j)
 b:∀j,j≤i→∀f∈(fW n lays S i).1.getD j [],Bd (DL lays i) (549755813888^i) (n+(fW n lays S i).2.length) f
 u:lO (DL lays i) (549755813888^i) n (fW n lays S i).2
 c:((fW n lays S i).2.length:Int)=nP S lays i
theorem pw {a b:Nat} (h:a≤b):2^a≤2^b:=lH G h
theorem NS {a b:Nat} (h:a<b):2^a<2^b:=Nat.pow_lt_pow_right G h
theorem QF {l:cm} {A B:Nat} (a:sC l.ws≤A) (b:sC l.bs≤B) (c:max 1 (l.kh.toNat*l.kw.toNat)≤C):EL l≤A*(B*C):=gi a (gi b c)
theorem QG {l:cm} (h:mV l.ba):EL l≤2^(2560+(768+6)):=by
 have f:=LK λq d=>(h.wb q d).2
 have a2:=LK λq d=>(h.bb q d).2
 have a3:2^(32*l.ws.length)≤2^2560:=pw (b:=2560) (by have:=h.fs;omega)
 have a4:2^(32*l.bs.length)≤2^768:=pw (b:=768) (by have:=h.fc;omega)
 have a5:max 1 (l.kh.toNat*l.kw.toNat)≤2^6:=by
  have g:l.kh≤6:=h.kh
  have i:l.kw≤6:=h.kw
  have:=gi (show l.kh.toNat≤6 by omega) (show l.kw.toNat≤6 by omega)
  omega
 have e:∀a b c:Nat,2^(a+(b+c))=2^a*(2^b*2^c):=λa b c=>by rw[jF,jF]
 exact cf (QF (cf f a3) (cf a2 a4) a5) (xP (e 2560 768 6).symm)
theorem Ej (lays:List cm):∀i,0<DL lays i
 |0=>Nat.one_pos
 |i+1=>oN (Ej lays i) (El _)
theorem Iz {lays:List cm} (h:∀l∈lays,mV l.ba):∀i,i≤lays.length→DL lays i≤2^((2560+(768+6))*i)
 |0,_=>by simp[DL]
 |i+1,hi=>by
  have a:=Iz h i G
  have b:=QG (h _ (eK (show i<lays.length by omega)))
  rw[DL,lT (show i<lays.length by omega),Nat.mul_succ,jF]
  exact gi a b
theorem IA {lays:List cm} (h:∀l∈lays,mV l.ba) (a:lays.length≤6) (hi:i≤lays.length):DL lays i<2^20010:=
 nA (Iz h i hi) (NS (b:=20010) G)
theorem I5 (hi:i≤6):549755813888^i<2^280:=by
 have e:(549755813888:Nat)=2^39:=aF
 rw[e,←rS]
 exact NS (b:=280) G
theorem aat {inp:List Int} {lays:List cm} {shs:List (List Int)} (h:lM inp lays shs):∀m,k≤m→m≤shs.length→nP (dy inp shs) lays k≤nP (dy inp shs) lays m:=λm=>by
 induction m with
 |zero=>
  intro c _
  obtain rfl:k=0:=by omega
  exact me _
 |succ m e=>
  intro c d
  rcases jn m k with a|a
  ·obtain rfl:k=m+1:=by omega
   exact me _
  ·have b:m<lays.length:=eT d h.1
   have:=D3 (h.2 m _ G (fy b))
   have:=e a G
   rw[zb b]
   omega
section
variable {M:gF} {shs:List (List Int)} {i:Nat}
theorem mh.out (a:mh M shs) (hi:i<M.lays.length):qE (dy M.inp shs) i M.lays[i] (dy M.inp shs (i+1)):=a.p.2 i _ (by rw[a.l];exact hi) (fy hi)
theorem mh.s24 (a:mh M shs) (b:j≤shs.length):cS (dy M.inp shs j)≤24:=by
 cases j with
 |zero=>exact a.s0
 |succ k=>rw[lY G];exact a.ss _ (eK _)
theorem Nb (a:mh M shs) (hi:i<M.lays.length) (e:I2 (cS M.inp) M.lays (dy M.inp shs) i):f5 (DL M.lays i) (549755813888^i) (cS M.inp) (dy M.inp shs i) (dy M.inp shs (M.lays[i].fr+1).toNat) (dy M.inp shs (i+1)) M.lays[i] ((fW (cS M.inp) M.lays (dy M.inp shs) i).1.getD i []) ((fW (cS M.inp) M.lays (dy M.inp shs) i).1.getD (M.lays[i].fr+1).toNat []) (fW (cS M.inp) M.lays (dy M.inp shs) i).2:=by
 have f:=a.out hi
 have j:=a.l
 have m:=a.n
 have r:=(rk a.i0).1
 have p:=a.s0
 have h:M.lays[i].kd=7→(M.lays[i].fr+1).toNat≤i∧dy M.inp shs (M.lays[i].fr+1).toNat=dy M.inp shs i:=λk=>by
  have:=AI f.ok k
  refine⟨G,?_⟩
  rcases f.c with⟨d,_⟩|⟨d,_⟩|⟨d,_⟩|⟨d,_⟩|⟨d,_⟩|⟨_,hs,_⟩<;>first|omega|exact hs
 have n:∀k,k≤6→549755813888^k<2^280:=λk o=>I5 o
 exact {
  b:=a.b _ (eK _)
  ok:=⟨_,f.ok⟩
  c:=f.c
  sa:=f.sa
  so:=f.so
  a24:=a.s24 G
  s24:=a.s24 G
  xl:=e.x i (bV _)
  fl:=λk=>by
   obtain⟨g,d⟩:=h k
   have:=e.x i (bV _)
   have:=e.x _ g
   rw[d] at this
   omega
  bx:=e.b i (bV _)
  bf:=λk=>e.b _ (h k).1
  bu:=e.u
  m1:=Nat.one_le_pow _ _ G
  d0:=Ej _ _
  d1:=by
   have:=IA (λl j=>a.b l j) m (show i+1≤M.lays.length by omega)
   rwa [DL,lT hi] at this
  m2:=by
   have:=n (i+1) G
   rwa [gj] at this
  n0:=by omega
  un:=by
   have g:=aat a.p (k:=i+1) M.lays.length G G
   have d:=a.u
   rw[zb hi] at g
   have q:=e.c
   omega}
theorem GW (q:mh M shs):∀i,i≤M.lays.length→I2 (cS M.inp) M.lays (dy M.inp shs) i:=λi=>by
 have F:=(rk q.i0).1
 induction i with
 |zero=>
  intro _
  refine⟨H,λj c=>?_,λj c f b=>?_,λj c=>?_,H⟩
  ·obtain rfl:j=0:=by omega
   show(((List.range (cS M.inp).toNat).map λi:Nat=>lZ i).length:Int)=cS M.inp
   rw[dN,uh];omega
  ·obtain rfl:j=0:=by omega
   obtain⟨k,z,rfl⟩:=fF.1 (show f∈(List.range (cS M.inp).toNat).map λi:Nat=>lZ i from b)
   have:=jD.1 z
   exact Bd.var G G (by show(k:Int)<cS M.inp+((0:Nat):Int);omega)
  ·exact absurd c (by show ¬j<0;omega)
 |succ i A=>
  intro hi
  have e:i<M.lays.length:=G
  have d:=A G
  have o:=Nb q e d
  obtain⟨o1,w,x,C⟩:=o.out
  obtain⟨Z,g⟩:∃Z,Z=fW (cS M.inp) M.lays (dy M.inp shs) i:=⟨_,rfl⟩
  obtain⟨r,v⟩:∃r,r=kv (cS M.inp) (dy M.inp shs i) M.lays[i] (Z.1.getD i []) (Z.1.getD (M.lays[i].fr+1).toNat []) Z.2:=⟨_,rfl⟩
  have hs:=Nc (n:=cS M.inp) (S:=dy M.inp shs) e
  rw[←g,←v] at hs
  rw[←g,←v] at o1 w x C
  have h:=d.l
  have y:=d.c
  have m:=d.x
  have l:=d.b
  rw[←g] at h y m l
  have p:DL M.lays (i+1)=DL M.lays i*EL M.lays[i]:=by rw[DL,lT e]
  have s:549755813888^(i+1)=549755813888^i*549755813888:=gj _ _
  have D:Z.2.length≤r.2.length:=by have:=o.u0;omega
  have t:∀j,j≤i→(Z.1++[r.1]).getD j []=Z.1.getD j []:=λj c=>by
   rw[mU,mU,vu G]
  have u:(Z.1++[r.1]).getD (i+1) []=r.1:=by
   rw[mU,rN G,h,BP];rfl
  refine⟨by rw[hs];simp only[cr,qw];omega,λj c=>?_,λj c f b=>?_,by rw[hs,p,s];exact x,?_⟩
  ·rw[hs]
   rcases jn i j with a|a
   ·obtain rfl:j=i+1:=by omega
    simp only[u];exact o1
   ·simp only[t j a];exact m j a
  ·rw[hs] at b⊢
   rw[p,s]
   rcases jn i j with a|a
   ·obtain rfl:j=i+1:=by omega
    simp only[u] at b;exact w f b
   ·simp only[t j a] at b
    exact((l j a f b).up _).mono (qD _ G) (by simp only;omega)
  ·rw[hs,zb e]
   simp only
   omega
end
instance:eO mZ:=⟨.sl (.st [.sl (.st [.c 2,.st [.c 0,.sl (.c 1),.sl (.c 1)]]),.st [.c 0,.sl (.c 1),.sl (.c 1)]]),λa=>kX (f:=cy) a⟩
theorem Gy:(Tryz.prog.info? 34).map (λi=>(i.zero,i.size,i.bytes))=some (some (.slice none 0 0),[3].length,24):=by kernel_rfl
theorem YF {base:Nat} {t e:TypeId} {bytes:Nat} (j:P.underlying t=some (.slice e)) (hi:(P.info? e).map (λi=>(i.zero,i.size,i.bytes))=some (some z,1,bytes)) (b:v.oneCell'=true) (d:base≤w.heap.size):
 ∃r w',(Instr.buildSlice t 1 #[(0,v)]).run P w=.ok r w'∧ao w w'∧w'.ownsRow base e 1 r 1 [v]∧r.ownBlock=some w.heap.size∧w'.heap[w.heap.size]? =some (.cells #[v] e (0,0)):=by
 obtain⟨i,hi,l,hs,_⟩:=info_parts hi
 refine⟨.slice (some ⟨w.heap.size,0,none⟩) 1 1,w.alloc (.cells #[v] e),?_,ao.new w _,?_,H,heap_alloc_new w _⟩
 ·have f:∀Z:Array Value,Z.size=[v].length→Instr.fill (λi=>some (i*1,1)) Z (gO 0 [v])=some [v].toArray:=λZ c=>by
   have:=Gs [v] [] Z.toList (λu k=>Ha (by obtain rfl:u=v:=(by simpa using k);exact b)) (by simpa using c)
   simpa using this
  have a:(typeInfo e).run P w=.ok i w:=by simp[typeInfo,hi]
  have h:(sizeOf e).run P w=.ok 1 w:=by simp[sizeOf,a,hs]
  have m:(zeroValue e).run P w=.ok z w:=by simp[zeroValue,a,l]
  have g:¬(1*1>2^24):=G
  simp only[Instr.buildSlice,Sem.run_bind,run_underlying j,Result.andThen_ok,h,if_neg g]
  rw[if_neg G]
  simp only[Sem.run_bind,Sem.run_pure,Result.andThen_ok,m]
  rw[show([(0,v)]:List (Nat×Value))=gO 0 [v] from rfl,f _ aj]
  simp[newRow]
 ·exact World.ownsRow_lit w #[v] 1 d (by unfold maxLen;omega) aj
section
variable {g h b base:Nat} {n:Int} {cs cs':List Value} {us l:List bj} {tr:List (List bj)} {u u' v r x:Value} {w w':World} {X Y:Nat→Prop}
theorem dV.cb (a:dV g h b n cs us u w) (q:w.grownBy w' (some h)) (c:bm h 103 cs' w') (kc:cs'.map kd=pH):dV g h b n cs' us u w':=
 ⟨a.bg.a4 q λe=>vR a.bg a.bh aF (cC e),c,bC.st pR a.ou (Kq.of a.bh a.kc aF q) q (cQ a.bh a.ou).symm aF,kc⟩
theorem yI (q:w.grownBy w' (some h)):Mv (XL g h u) w w':=Mv.a7 q λk a _=>by obtain rfl:=cC a;exact .inl (.inr rfl)
theorem wh {i:cm} {a c:Value} (b:kd a=3) (d:kd c=3) (e:kd sv=3) (f:kd xv=3) (h:kd tv=3):(jJ i a c sv xv tv g).map kd=pH:=by
 simp only[jJ,iy,nW,b,d,e,f,h];rfl
theorem kn.cb (a:kn g h u base l v w) (c:dV g h b n cs us u w) (q:w.grownBy w' (some h)):kn g h u base l v w':=
 ⟨bC.st pR a.1 (Kq.of c.bh c.kc aF q) q (λe=>a.2 h e (.inl (.inr rfl))) aF,a.2⟩
def ii (g h:Nat) (u:Value) (base:Nat) (tr:List (List bj)):cT:=λv w=>iz 34 1 base (XL g h u) mZ tr v w∧vt [3] v w∧∀k,v.ownBlock=some k→¬XL g h u k
theorem ii.own (t:ii g h u base tr v w):bC 34 [3] base mZ tr v w:=⟨t.1.bd λ_ h=>h.elim,t.2.1⟩
theorem ii.ds (t:ii g h u base tr v w):aD mZ tr v w:=t.own.ds (λ_=>rfl) aF
theorem ii.aL (t:ii g h u base tr v w) (e:ao w w'):ii g h u base tr v w':=⟨t.1.aL e,(t.own.aL e).2,t.2.2⟩
theorem ii.mv (t:ii g h u base tr v w) (m:Mv (XL g h u) w w') (n:∀k,XL g h u' k→XL g h u k∨w.heap.size≤k):ii g h u' base tr v w':=by
 obtain⟨⟨k,xs,c,i⟩,p,d⟩:=t
 have x:iz 34 1 base (XL g h u) mZ tr v w:=⟨k,xs,c,i⟩
 obtain⟨_,_,y,_⟩:=x.mv m (λ_ h=>h) d
 refine⟨⟨k,xs,⟨c.1,?_⟩,?_⟩,λj cur ty fr a r=>p j cur ty fr a (by rw[←m.keep j (World.ownsRow.lt c j a).2 (d j a)];exact r),λj a f=>?_⟩
 ·rcases c.2 with b|⟨g',o,cur,rfl,b,l,q⟩
  ·exact .inl b
  ·exact .inr ⟨g',o,cur,H,b,(m.keep g' (jB.1 l).1 (d g' H)).ai l,q⟩
 ·exact cB.mv (X:=λk=>XL g h u k∨v.ownBlock=some k) (m.bd λ_ s _=>.inl s) (λj a=>a.elim (λf=>(n j f).imp .inl id) λe=>.inl (.inr e)) i
 ·rcases n j f with b|b
  ·exact d j a b
  ·have:=(World.ownsRow.lt c j a).2;omega
theorem ii.ug (t:ii g h u base tr v w) (m:UG g u u' w w'):ii g h u' base tr v w':=t.mv m.f0 m.xl
theorem ii.cb (t:ii g h u base tr v w) (q:w.grownBy w' (some h)):ii g h u base tr v w':=t.mv (yI q) λ_ h=>.inl h
theorem f8.e6 (a:f8 g h u cy l r w) (t:ii g h u base tr v w):ck (λk=>XL g h u k∨v.ownBlock=some k) w (mZ l) [r]:=by
 have b:=t.own.off (d:=[mZ l]) (cs:=[r]) (X:=XL g h u) (by simp only[eF];exact⟨de.off aF aF (eO.ok (f:=mZ) l),trivial⟩) (by simpa using cB.a1 (show ck (XL g h u) w (mZ l) [r] from a) cB.nil)
 simp only[cB] at b
 obtain⟨c,i,e,j,rfl⟩:=b
 rw[jU] at e
 rwa [e]
theorem f8.ea (a:f8 g h u cy l r w) (t:ii g h u base tr v w) (c:d9 w w' v x):f8 g h u cy l r w':=
 ck.mv (X:=λk=>XL g h u k∨v.ownBlock=some k) (Mv.a7 c.grown λ_ b _=>.inr b) (λ_ b=>.inl (.inl b)) (a.e6 t)
theorem dV.ea (a:dV g h b n cs us u w) (t:ii g h u base tr v w) (c:d9 w w' v x):dV g h b n cs us u w':=
 ⟨(c.grown.block _ a.bg.lt λe=>t.2.2 g e.symm (.inl (.inl rfl))).ai a.bg,(c.grown.block _ a.bh.lt λe=>t.2.2 h e.symm (.inl (.inr rfl))).ai a.bh,(bC.ca pR a.ou c (t.own.b3 c aF) (λk d f=>t.2.2 k d (.inr f)) aF).1,a.kc⟩
theorem M6 (b:aD cy l r w) (a:base≤w.heap.size):∃x w1,(Instr.buildSlice 100 1 #[(0,r)]).run Tryz.prog w=.ok x w1∧ao w w1∧w1.ownsRow base 34 1 x 1 [r]∧x.ownBlock=some w.heap.size∧w1.heap[w.heap.size]? =some (.cells #[r] 34 (0,0)):=
 YF zN Gy b.one a
theorem ii.app {ty:TypeId} (t:ii g h u base tr v w) (A:dV g h b n cs us u w) (a:f8 g h u cy l r w) (q:Sl 1 [r] x w) (F:tr.length≤100) (o:base≤w.heap.size):
 ∃c w1,(Builtin.append_ #[100,100] ty #[v,x]).run Tryz.prog w=.ok c w1∧ii g h u base (tr++[l]) c w1∧d9 w w1 v c:=by
 have C:ay [r]:=ay.a1 a.ds.one ay.nil
 have a0:=a.e6 t
 have s:cB (λk=>XL g h u k∨v.ownBlock=some k) w ([l].map mZ) [r]:=by simpa using cB.a1 a0 cB.nil
 obtain⟨c,w1,e,o1,g1⟩:=t.1.app (P:=Tryz.prog) (ty:=ty) Tryz.underlying100 Gy rfl aF G q C (m:=[l]) s (λ_=>rfl) (by simp only[qw];omega) o
 obtain⟨H,w2,i,D,_⟩:=t.own.app (P:=Tryz.prog) (ty:=ty) Tryz.underlying100 Gy rfl (Kn.one rfl) aF G q (m:=[l]) (by simpa using bG.a1 (show Rp w (mZ l) [r] from a.ds) bG.nil) (λa _=>de.off aF aF (eO.ok (f:=mZ) a)) (λ_=>rfl) (by simp only[qw];omega) o
 rw[e] at i
 injection i with y z
 subst y z
 refine⟨c,w1,e,⟨o1,D.2,λk p j=>?_⟩,g1⟩
 rcases g1.own with d|d
 ·exact t.2.2 k (d▸p) j
 ·have:=A.lt k j;have:=d k p;omega
theorem ii.lit (q:dV g h b n cs us u w) (a:f8 g h u cy l r w) (t:base≤w.heap.size):∃x w1,(Instr.buildSlice 100 1 #[(0,r)]).run Tryz.prog w=.ok x w1∧ao w w1∧ii g h u base [l] x w1:=by
 obtain⟨x,w1,j,i,m,f,o⟩:=M6 a.ds t
 refine⟨x,w1,j,i,⟨1,[r],m,?_⟩,λk cur ty fr c d=>?_,λk c s=>?_⟩
 ·have p:ck (λk=>XL g h u k∨x.ownBlock=some k) w1 (mZ l) [r]:=ck.mv (X:=XL g h u) (Mv.a8 i) (λk c=>c.imp id λe=>by rw[f] at e;exact xP (cC e)) a
  simpa using cB.a1 p cB.nil
 ·rw[f] at c
  obtain rfl:=cC c
  rw[o] at d
  injection d with d
  injection d with d
  subst d
  exact Kn.one (by simp only[iy,nW,a.ds.kd])
 ·rw[f] at c
  obtain rfl:=cC c
  have:=q.lt _ s
  omega
end
theorem F4:aY Tryz.prog 10:=⟨_,Tryz.func10,am,rfl⟩
def mG:cm:=⟨0,0,0,0,0,0,0,[],[]⟩
theorem Fw {M:gF} {shs:List (List Int)} {x:Value} (N:aD bJ M.inp x w) (hy:aD fS M.lays y w) (d:mh M shs):
 Calls Tryz.prog 10 #[.agg #[x,y]] w (aJ λr w'=>ao w w'∧je (bR iC (rg M shs)) (Is (I 0)) r w'):=by
 obtain⟨cp,_⟩:=rk d.i0
 have cr:=d.s0
 have a1:=d.l
 have co:=d.n
 have ct:=d.u
 have bt:dF (dy M.inp shs M.lays.length)=true:=HS d.i0 d.p.all G
 have cs:=d.s24 (j:=M.lays.length) G
 refine enter (vs:=[.agg #[x,y]]) Tryz.func10 H H H (T (cE H H λg1 w1 l1 x1 k1=>cM rG H λg2 w2 l2 q k2=>(Z H (bB (Y H ((k1.aL q).ld fz H eR) (aC K1 H H ((JI (N.aL (x1.ai q)) (hy.aL (x1.ai q)) d)) ?_))))))
 rintro cx b0 ⟨v,⟨az,_,_,rfl,ae,rfl,rfl⟩⟩
 refine J H (aZ H ov (aZ H ow (aZ H ox (Z H (Z H (Z H (O (ah (T (J H (U H (aX G dZ) (O (be H (aH (al (T (c H (jt) (Y H (D cd H ((q.ai v).a0 (k1.cell (i:=0) H))) (Z H (O (ah (iS (λz:Value=>[(1,.pointer (some ⟨g1,0,none⟩)),(2,.pointer (some ⟨g2,0,none⟩)),(4,az),(7,z)]) (λz w'=>b0=w'∧aD bJ (dy M.inp shs M.lays.length) z w') ?_ ?_))))))))))))))))))))))
 ·refine T (J H (aW H (bP gC ae) (U H (cY) (O ?_))))
  refine bc H (λbf=>?_) (λbf=>?_)
  ·refine ap (J H (J H (aW H (bP gC ae) (U (r:=I ((shs.length-1:Nat):Int)) H (by have e:((shs.length-1:Nat):Int)=(shs.length:Int)-1:=G;rw[e];exact dM) ?_))))
   obtain⟨cb,ci,bI,bQ,aO⟩:=bX (P:=Tryz.prog) (sz:=1) gC am lR G ae (i:=shs.length-1) (G) .i64
   obtain⟨ck,a0⟩:∃e,e=shs[shs.length-1]'G:=⟨_,rfl⟩
   rw[←a0] at aO
   obtain⟨c1,rfl,bb⟩:=mi aO
   refine bF H (bI _) (Y H (D cd H bQ.cell0) (Z H (f ?_)))
   exact eu (_) (aP H) ⟨H,by have h9:=bb;rw[a0] at h9;obtain⟨k,hk⟩:∃k,shs.length=k+1:=⟨shs.length-1,G⟩;rw[←a1,hk,lY G];simp only[hk,pn] at h9;exact h9⟩
  ·refine aH ?_
   exact eu (_) (aP H) ⟨H,by rw[←a1,show shs.length=0 by omega];exact(N.aL ((x1.ai q).ai v))⟩
 rintro z _ ⟨rfl,hz⟩
 refine al (ah (T (c H (jt) (Y H (D cd H ((q.ai v).a0 (k1.cell (i:=0) H))) (aC uy H H ((uf (N.aL ((x1.ai q).ai v)) d.i0)) ?_)))))
 rintro cA cP ⟨F,rfl⟩
 refine U H (aX G cY) (J H (V H (c H (gE) ?_)))
 have e5:=(q.ai v).ai F
 refine V H (Y H (D dP H (e5.a0 (k1.cell (i:=1) H))) (V H (J H ?_)))
 have e7:=((x1.ai q).ai v).ai F
 refine V H (aC Un H H ((Rg (hy.aL e7) (ae.aL F) d.p d.l G)) ?_)
 rintro cB cQ ⟨L,rfl⟩
 refine V H (U H (aX G cY) (aK H (J H (V H (J H (V H (aC uy H H ((uf (hz.aL (F.ai L)) bt)) ?_)))))))
 rintro cC cR ⟨Q,rfl⟩
 refine V H (U H (aX G cY) (aK H (O (be H (aH (al (T (c H (jt) (Y H (D cd H (((e5.ai L).ai Q).a0 (k1.cell (i:=0) H))) (aC uy H H ((uf (N.aL ((e7.ai L).ai Q)) d.i0)) ?_))))))))))
 rintro v53 s ⟨aa,rfl⟩
 refine dY (r:=.agg #[I (cS M.inp),.slice none 0 0,.slice none 0 0]) H (by exact run_build _ _ _ _ am) (cM rG H λg w8 l8 x8 k8=>cl H H k8 H fE (ay.a1 H (ay.a1 H (ay.a1 H ay.nil))) λcW bT a2=>?_)
 have aI:=ao.a2 (x8) bT l8
 refine bB (c H (jt) (Y H (D cd H (((((e5.ai L).ai Q).ai aa).ai aI).a0 (k1.cell (i:=0) H))) (dY (r:=.agg #[I 0,I 0,I 0,I 0,I 0,I 0,I 0,.slice none 0 0,.slice none 0 0,x,.slice none 0 0,.slice none 0 0,.nilFunc]) H (by obtain⟨_,_,_,rfl⟩:=N.a9;exact run_build _ _ _ _ am) (cE H H λC cT a3 b6 bA=>(Z H (bB (J H (lq (us:=[]) (vs:=[.pointer (some ⟨g,0,none⟩)]) H H H (dq H (c H (Gl) (jQ H H bA ZS H H λbZ bM bu=>?_)))))))))))
 have aB:=ao.a2 (b6) bM a3
 refine O (ah (ah ?_))
 have aq:s.heap.size≤g:=l8
 have ad:s.heap.size≤C:=cf (aI).size a3
 have L0:dV g C s.heap.size (cS M.inp) (jJ mG (.slice none 0 0) (.slice none 0 0) x (.slice none 0 0) (.slice none 0 0) g) [] (.slice none 0 0) bZ:=⟨(a2.aL aB),bu,bC.nil _,wh rfl rfl N.kd rfl rfl⟩
 refine ap (c H (oh) (Y H (D aE H (aB.a0 (a2.cell (i:=0) H))) (J H (O (aR (fp (λ(i:Nat) (xv:Value)=>[(1,.pointer (some ⟨g1,0,none⟩)),(2,.pointer (some ⟨g2,0,none⟩)),(4,az),(8,.pointer (some ⟨g,0,none⟩)),(9,.pointer (some ⟨C,0,none⟩)),(64,I (cS M.inp)),(65,I (i:Int))]) (λ(i:Nat) (xv:Value) w'=>i≤(cS M.inp).toNat∧ao s w'∧dV g C s.heap.size (cS M.inp) (jJ mG (.slice none 0 0) (.slice none 0 0) x xv (.slice none 0 0) g) [] (.slice none 0 0) w'∧kn g C (.slice none 0 0) s.heap.size ((List.range i).map λi:Nat=>lZ i) xv w') (λ(i:Nat) (xv:Value)=>(cS M.inp).toNat-i) (0) (.slice none 0 0) (aP H) ⟨G,(aI.ai aB),L0,kn.nil⟩ ?_))))))
 rintro i xv wA ⟨hi,eA,LA,oA⟩
 refine ah ?_
 have kA:=LA.bh
 have dA:=gG.bY oA.1
 refine ap (U H (bO) (O (ah (bc H (λbg=>?_) (λbg=>?_)))))
 ·refine aH (al (ah (aR (T (J H (Z H (O (FE 8 [(8,0)] [8,9,10,11] [1,2,4,8,9,64,65,68,72,75] am am am H ?_))))))))
  refine W H (W H (ji H (bH H (λw b=>pB) (aQ H (λw b=>D cO H (b.a0 (kA.cell (i:=10) H))) (W H (fP (S:=bR cy (lZ (i:Int))) Ld (bR.a3 _ _) H H (λw b=>J7 (n:=(i:Int))) (wr (S:=aD cy [(lZ (i:Int))]) (aD.a3 _ _) H (λw b=>by rintro _ ⟨_,rfl,r⟩;exact uI r) (cq ?_))))))))
  rintro cX b7 _ rfl _ rfl _ av
  obtain rfl:=bU av
  rintro _ rfl _ rfl _ rfl _ rfl _ rfl _ bn
  obtain rfl:=bU bn
  intro cG a9
  have ab:=b7
  obtain⟨v76,cU,br,ax,aM⟩:=sR (ty:=34) (oA.1.aL ab) a9 (by simp only[cw,c8,dN,uh];omega) (eA.ai ab).size
  refine dW H br ?_
  have LG:=(LA.aL ab).ca (oA.aL ab) aM
  have kG:=LG.1.bh
  refine dq H (c H (pB) (jQ H H kG DN ax.one H λwq qq kq=>?_))
  have Eq:=ao.a2 (ao.a6 (eA.ai ab) aM (oA.1.aL ab).ge) qq ad
  refine f (wU (bE (al (ap (U H cD (J H (f (eI (i+1) (v76) (aP H) ⟨G,Eq,LG.1.cb qq kq (wh H H N.kd ax.kd H),by rw[yH];exact kn.cb ⟨ax,LG.2⟩ LG.1 qq⟩ G))))))))
 ·refine ce (aU (aU (cg (al (ah ?_)))))
  have bk:i=(cS M.inp).toNat:=G
  have RA:f8 g C (.slice none 0 0) cy ((fW (cS M.inp) M.lays (dy M.inp shs) 0).1.getD 0 []) xv wA:=by
   have h9:=f8.of LA (gG.bY oA.1) oA.2 gD G
   rw[bk] at h9
   exact h9
  refine ap (J H (J H (dq H (c H (pB) (Y H (D cO H (kA.cell (i:=10) H)) ?_)))))
  obtain⟨bY,cV,bs,ak,T0⟩:=ii.lit (base:=s.heap.size) LA RA eA.size
  refine dJ (vs:=[(0,xv)]) H bs (dq H (c H (Cy) (jQ H H (LA.aL ak).bh OX T0.own.one H λwt qt kt=>?_)))
  have L1:=(LA.aL ak).cb qt kt (wh rfl rfl N.kd RA.ds.kd T0.own.kd)
  have R1:=(RA.aL ak).mv (yI qt)
  have T1:=T0.cb qt
  have E1:=ao.a2 (eA.ai ak) qt ad
  refine O (ah (T (c H (gE) (Y H (D dP H (((((((q.ai v).ai F).ai L).ai Q).ai aa).ai E1).a0 (k1.cell (i:=1) H))) ?_))))
  have e2:=(((((x1.ai q).ai v).ai F).ai L).ai Q).ai aa
  refine aW H (bP dP (hy.aL (e2.ai E1))) (J H (O (aR (Kr (λ(j:Nat) (l:cm) (lx:Value) (ly:Value) (sv:Value) (xw:Value) (tw:Value) (u:Value)=>[(2,.pointer (some ⟨g2,0,none⟩)),(4,az),(8,.pointer (some ⟨g,0,none⟩)),(9,.pointer (some ⟨C,0,none⟩)),(89,y),(90,I (M.lays.length:Int)),(91,I (j:Int))]) (λ(j:Nat) (l:cm) (lx:Value) (ly:Value) (sv:Value) (xw:Value) (tw:Value) (u:Value) w'=>j≤M.lays.length∧ao s w'∧dV g C s.heap.size (cS M.inp) (jJ l lx ly sv xw tw g) (fW (cS M.inp) M.lays (dy M.inp shs) j).2 u w'∧f8 g C u cy ((fW (cS M.inp) M.lays (dy M.inp shs) j).1.getD j []) xw w'∧ii g C u s.heap.size (fW (cS M.inp) M.lays (dy M.inp shs) j).1 tw w'∧aD bJ (dy M.inp shs j) sv s) (λ(j:Nat) (l:cm) (lx:Value) (ly:Value) (sv:Value) (xw:Value) (tw:Value) (u:Value)=>M.lays.length-j) (0) (mG) (.slice none 0 0) (.slice none 0 0) (x) (xv) (bY) (.slice none 0 0) (aP H) ⟨G,E1,L1,R1,T1,N.aL (e2)⟩ ?_))))
  rintro j l lx ly sv xw tw u wB ⟨hj,eB,LB,RB,TB,aw⟩
  refine T (U H (bO) (O (ah (bc H (λbh=>?_) (λbh=>?_)))))
  ·refine aH (al (ah (aR (ah ?_))))
   obtain⟨K,hK⟩:∃K,K=fW (cS M.inp) M.lays (dy M.inp shs) j:=⟨_,rfl⟩
   have au:j<M.lays.length:=G
   have hI:=GW d j G
   have hC:=Nb d au hI
   have aV:=hI.l
   have hO:=d.out au
   rw[←hK] at LB RB TB hC aV
   refine ap (J H ?_)
   obtain⟨cc,cj,bK,bS,aT⟩:=bX (P:=Tryz.prog) (sz:=9) dP am ym G hy (i:=j) (G) .i64
   obtain⟨h,ar⟩:∃e,e=M.lays[j]'G:=⟨_,rfl⟩
   rw[←ar] at aT
   obtain⟨aF,aG,rfl,R,X⟩:=yk aT
   have e3:=(((((x1.ai q).ai v).ai F).ai L).ai Q).ai aa
   refine bF H (bK _) (Y H ((bS.aL (e3.ai eB)).ld dG H eJ) ?_)
   rw[←ar] at hC hO
   have bj:h.kd=7→0≤h.fr+1∧(h.fr+1).toNat<K.1.length∧K.1.getD (h.fr+1).toNat []=K.1.getD (h.fr+1).toNat []:=λk=>by
    have:=AI hO.ok k
    exact⟨G,G,H⟩
   refine cM xC H λcn cI bD b2 bw=>(Z H (cl H H bw H eJ (ay.a1 H (ay.a1 H (ay.a1 H (ay.a1 H (ay.a1 H (ay.a1 H (ay.a1 H (ay.a1 R.one (ay.a1 X.one ay.nil))))))))) λcL bN bx=>?_))
   have b4:=ao.a2 (b2) bN bD
   refine bB (J H (Y H (bx.ld dG H eJ) (dq H (c H (re) ?_))))
   have eC:=b4
   obtain⟨wl,sl,ql,kl⟩:=(LB.aL eC).bh.fA (P:=Tryz.prog) (t:=78) (o:=0) (m:=[I h.kd,I h.fr,I h.ou,I h.kh,I h.kw,I h.sr,I h.pd,aF,aG]) (cs':=jJ h aF aG sv xw tw g) aj am (ay.a1 rfl (ay.a1 rfl (ay.a1 rfl (ay.a1 rfl (ay.a1 rfl (ay.a1 rfl (ay.a1 rfl (ay.a1 R.one (ay.a1 X.one ay.nil))))))))) rfl
   refine cZ H sl ?_
   have L2:=(LB.aL eC).cb ql kl (wh R.kd X.kd aw.kd RB.ds.kd TB.own.kd)
   have R2:=(RB.aL eC).mv (yI ql)
   have T2:=(TB.aL eC).cb ql
   have E2:=ao.a2 (eB.ai eC) ql ad
   refine bB (J H (J H ?_))
   have e1:=e3.ai E2
   refine aC Vj H H (SQ aq L2 (R.aL e1) (X.aL e1) (aw.aL E2) R2 T2.ds bj hC) ?_
   rintro a7 cH ⟨u2,m2,L3,R3⟩
   have T3:=T2.ug m2
   have E3:=m2.b5 E2 aq λk hk=>(L2.ou.lt k hk).1
   have kC:=L3.bh
   refine dq H (c H (pB) (jQ H H kC DN R3.ds.one H λwx qx kx=>?_))
   have L4:=L3.cb qx kx (wh R.kd X.kd aw.kd R3.ds.kd TB.own.kd)
   have R4:=R3.mv (yI qx)
   have T4:=T3.cb qx
   have E4:=ao.a2 E3 qx ad
   have kD:=L4.bh
   refine bB (J H (J H (J H ?_)))
   obtain⟨ca,ch,bG,bL,aN⟩:=bX (P:=Tryz.prog) (sz:=1) gC am lR G ae (i:=j) (G) .i64
   obtain⟨ba,aY⟩:∃e,e=shs[j]'G:=⟨_,rfl⟩
   rw[←aY] at aN
   obtain⟨b1,rfl,af⟩:=mi aN
   have e8:=((F.ai L).ai Q).ai aa
   refine bF H (bG _) (Y H (D cd H ((e8.ai E4).a0 bL.cell0)) (dq H (c H (Gm) (jQ H H kD OY af.one H λwy qy ky=>?_))))
   have L5:=L4.cb qy ky (wh R.kd X.kd af.kd R3.ds.kd TB.own.kd)
   have R5:=R4.mv (yI qy)
   have T5:=T4.cb qy
   have E5:=ao.a2 E4 qy ad
   have kE:=L5.bh
   have dE:=R5.ds
   refine O (FE 10 [(10,0)] [10,11,12,13] [2,4,8,9,89,90,91,112,116,121] am am am H (W H (W H (ji H (bH H (λw b=>Cy) (aQ H (λw b=>D zN H (b.a0 (kE.cell (i:=11) H))) (W H (ji H (bH H (λw b=>pB) (aQ H (λw b=>D cO H (b.a0 (kE.cell (i:=10) H))) (wr (S:=Sl 1 [a7]) (Sl.a3 _ _) H (λw b=>by rintro _ rfl;obtain⟨x,w1,h1,h2,h3,_⟩:=M6 (base:=0) (R5.ds.aL b) (pq _);exact⟨x,w1,h1,h2,Sl.b2 h3⟩) (cq ?_))))))))))))
   rintro c0 b8 _ rfl _ av
   obtain rfl:=bU av
   rintro _ rfl _ rfl _ bo
   obtain rfl:=bU bo
   rintro _ rfl _ rfl _ rfl _ bl
   obtain rfl:=bU bl
   intro cF a8
   have A:=b8
   obtain⟨bW,cJ,bp,T6,an⟩:=ii.app (ty:=100) (T5.aL A) (L5.aL A) (R5.aL A) a8 G (E5.ai A).size
   refine dW H bp ?_
   have L6:=(L5.aL A).ea (T5.aL A) an
   have R6:=(R5.aL A).ea (T5.aL A) an
   have E6:=ao.a6 (E5.ai A) an (T5.own.aL A).ge
   have kF:=L6.bh
   refine dq H (c H (Cy) (jQ H H kF OX T6.own.one H λwz qz kz=>?_))
   have L7:=L6.cb qz kz (wh R.kd X.kd af.kd R3.ds.kd T6.own.kd)
   have R7:=R6.mv (yI qz)
   have T7:=T6.cb qz
   have E7:=ao.a2 E6 qz ad
   have bi:dy M.inp shs (j+1)=ba:=by rw[lY G,aY]
   have ag:=Nc (n:=cS M.inp) (S:=dy M.inp shs) au
   rw[←hK,←ar] at ag
   refine f (wU (bE (al (ap (U H cD (J H (f (Nq (j+1) (h) (aF) (aG) (b1) (a7) (bW) (u2) (aP H) ⟨G,E7,by rw[ag];exact L7,by rw[ag,mU,rN G,aV,BP];exact R7,by rw[ag];exact T7,by rw[bi];exact af.aL (e8)⟩ G))))))))
  ·refine ce (aU (aU (cg (al (ah ?_)))))
   obtain rfl:j=M.lays.length:=by omega
   have kG:=LB.bg
   have kH:=LB.bh
   have dX:=RB.ds
   have dU:=gG.bY LB.ou
   have cu:=(GW d M.lays.length (bV _)).x M.lays.length (bV _)
   refine cz 6 [2,8,127,131] am am (bH H (λw b=>qY) (aQ H (λw b=>D cO H (b.a0 (kG.cell (i:=2) H))) (W H (ji H (bH H (λw b=>pB) (aQ H (λw b=>D cO H (b.a0 (kH.cell (i:=10) H))) (cq ?_)))))))
   rintro ai b9 _ rfl _ rfl _ rfl _ bm
   obtain rfl:=bU bm
   have aL:=b9
   obtain⟨cv,cK,bq,a5,bd⟩:=sR (ty:=34) (bC.nil ai:gG (ai).heap.size [] _ _) (dX.aL aL) (by rw[c8];omega) (bV _)
   refine dW H bq ?_
   have b3:=ao.a6 (ao.refl _) bd (bC.nil ai:gG (ai).heap.size [] _ _).ge
   refine c H (qY) ?_
   have e6:=aL.ai b3
   refine jQ H H (kG.aL e6) DN a5.one H λwk qk kk=>?_
   have mk:=Kq.br (p:=[2,3,3]) (kG.aL e6) (aS rfl (aS dU.kd (aS rfl dj))) qk
   have fU:=(dU.aL e6).kq mk
   have fO:=(gG.bY a5).kq mk
   have E8:=ao.a2 (eB.ai e6) qk aq
   refine bB (Y H (kk.ld ij H fE) ?_)
   have e4:=((((v.ai F).ai L).ai Q).ai aa).ai E8
   refine cl H H (k2.aL e4) H fE (ay.a1 H (ay.a1 fU.one (ay.a1 fO.one ay.nil))) λcN a6 bz=>?_
   have b5:=ao.a2 (((((((q.ai v).ai F).ai L).ai Q).ai aa).ai E8)) a6 l2
   have a4:=Kq.br (p:=[2,3,3]) (k2.aL e4) (aS rfl (aS rfl (aS rfl dj))) a6
   refine Z H (O (aA (ff H (.cell H (bz.ld ij H fE) (.tmp H .nil)) ?_)))
   exact⟨_,H,(x1.ai b5),_,_,H,bR.mk (jK (a:=rg M shs) (fU.kq a4) (fO.kq a4)),H⟩
theorem KE:aY Tryz.prog 116:=⟨_,Tryz.func116,am,rfl⟩
theorem Uj:aY Tryz.prog 51:=⟨_,Tryz.func51,am,rfl⟩
theorem Ky:aY Tryz.prog 50:=⟨_,Tryz.func50,am,rfl⟩
theorem TZ:aY Tryz.prog 12:=⟨_,Tryz.func12,am,rfl⟩
theorem KD:aY Tryz.prog 85:=⟨_,Tryz.func85,am,rfl⟩
theorem T9:aY Tryz.prog 84:=⟨_,Tryz.func84,am,rfl⟩
theorem T8:aY Tryz.prog 27:=⟨_,Tryz.func27,am,rfl⟩
theorem K0:aY Tryz.prog 29:=⟨_,Tryz.func29,am,rfl⟩
theorem IN {x:Rat} (o:QV x v w) (n:QV x u w):
 Calls Tryz.prog 116 #[v,u] w (aJ λr w'=>ao w w'∧Is (B true) r w'):=by
 obtain⟨j,k,rfl,p,q⟩:=o
 obtain⟨l,m,rfl,s,t⟩:=n
 refine enter (vs:=[.agg #[B x.sg,j,k],.agg #[B x.sg,l,m]]) Tryz.func116 H H H (T (cE H H λz w2 C g d=>cE H H λA N F a e=>(Z H (bB (c H (qZ) (Y H (D dw H (a.a0 (d.cell (i:=0) H))) (c H (qZ) (Y H (D dw H (e.cell (i:=0) H)) (U H (cu H (yT dw)) (J H (V H (c H (sE) (V H (Y H (D aT H (a.a0 (d.cell (i:=1) H))) (V H (c H (sE) (V H (Y H (D aT H (e.cell (i:=1) H)) (V H (aC Cg H H ((by have h:=Bx (p.aL (g.ai a)) (s.aL (g.ai a));rw[dH rfl] at h;exact h)) ?_))))))))))))))))))))
 rintro G L ⟨f,rfl⟩
 refine bA H (J H (V H (c H (tK) (V H (Y H (D aT H ((a.ai f).a0 (d.cell (i:=2) H))) (V H (c H (tK) (V H (Y H (D aT H (f.a0 (e.cell (i:=2) H))) ?_)))))))))
 have b:=(g.ai a).ai f
 refine V H (aC Cg H H ((by have h:=Bx (q.aL b) (t.aL b);rw[dH rfl] at h;exact h)) ?_)
 rintro K M ⟨y,rfl⟩
 refine bA H (Z H (O (aA (aM H ?_))))
 exact⟨_,H,(b.ai y),H⟩
theorem Rb {f:bj} (hv:bR cy f v w) (hu:bR cy f u w):
 Calls Tryz.prog 51 #[v,u] w (aJ λr w'=>ao w w'∧Is (B true) r w'):=by
 obtain⟨_,rfl,ra⟩:=hv
 obtain⟨F,K,L,rfl,h,ib,ic⟩:=ey ra
 obtain⟨_,rfl,rb⟩:=hu
 obtain⟨ga,M,N,rfl,q,jb,jc⟩:=ey rb
 have aT:=h.len
 refine enter (vs:=[.agg #[F,B f.ct.sg,K,L],.agg #[ga,B f.ct.sg,M,N]]) Tryz.func51 H H H (T (cE H H λg2 w2 l2 y s=>cE H H λg3 w3 l3 d k=>(Z H (O (ah (T (c H (mp) ?_)))))))
 have b:=y.ai d
 refine Y H (D eo H (d.a0 (s.cell (i:=0) H))) (aW H (bP eo (h.aL b)) (c H (mp) (Y H (D eo H (k.cell (i:=0) H)) (aW H (bP eo (q.aL b)) (U H (aX G dZ) (J H (V H (c H (oX) (V H (Y H ((s.aL d).b7 (ms:=[B f.ct.sg,K,L]) (o:=1) (jj H) bI H bW) (V H (c H (oX) (V H (Y H (k.b7 (ms:=[B f.ct.sg,M,N]) (o:=1) (jj H) bI H bW) (V H (aC KE H H ((IN (bQ.mk (ib.aL b) (ic.aL b)) (bQ.mk (jb.aL b) (jc.aL b)))) ?_))))))))))))))))
 rintro aV aY ⟨x,rfl⟩
 refine V H (cP H cW (t H (O (be H (aH (al (ah (T (c H (mp) (Y H (D eo H ((d.ai x).a0 (s.cell (i:=0) H))) (aW H (bP eo (h.aL (b.ai x))) (J H (O (aR (eg (α:=Nat) (λi=>[(3,.pointer (some ⟨g3,0,none⟩)),(23,F),(24,I (f.ts.length:Int)),(25,I (i:Int))]) (λi w'=>ao w3 w'∧i≤f.ts.length) (λi=>f.ts.length-i) (0) (aP H) ⟨x,G⟩ ?_)))))))))))))))
 rintro i wL ⟨n,hi⟩
 refine T (U H (bO) (O (ah (bc H (λaf=>?_) (λaf=>?_)))))
 ·refine aH (al (ah (aR (T (J H ?_)))))
  have l:=(y.ai d).ai n
  obtain⟨aF,aK,ai,an,Q⟩:=bX (P:=Tryz.prog) (sz:=4) eo am nc G (h.aL l) (i:=i) (G) .i64
  obtain⟨z,p⟩:∃e,e=f.ts[i]'G:=⟨_,rfl⟩
  rw[←p] at Q
  obtain⟨av,aw,rfl,A,C⟩:=jh Q
  refine bF H (ai _) (Y H (an.ld ur H tj) (cM Bt H λg6 w6 l6 x6 k6=>(Z H (cl H H k6 H tj (ay.a1 H (ay.a1 H (ay.a1 A.one (ay.a1 C.one ay.nil)))) λaZ au ab=>?_))))
  have g:=ao.a2 (x6) au l6
  refine O (ah (cz 20 [3,23,24,25,39,49] am am (bH H (λw a=>ju) (aQ H (λw a=>D aE H (a.a0 (ab.cell (i:=0) H))) ?_))))
  have m:=n.ai g
  refine bH H (λw a=>mp) (aQ H (λw a=>D eo H (a.a0 (m.a0 (k.cell (i:=0) H)))) (W H ?_))
  obtain⟨aG,aL,aj,aq,R⟩:=bX (P:=Tryz.prog) (sz:=4) eo am nc G (q.aL (l.ai g)) (i:=i) (G) .i64
  rw[←p] at R
  obtain⟨a1,a2,rfl,aO,aS⟩:=jh R
  refine cF H (λw _=>aj w) (bH H (λw a=>mr) (aQ H (λw a=>D aE H (a.a0 (aq.at (j:=0) H))) (bn H (λw _=>aX G dZ) (W H (X H (bH H (λw a=>rc) (X H (aQ H (λw a=>(ab.aL a).b7 (ms:=[B z.co.sg,av,aw]) (o:=1) (jj H) bI H bW) (X H (bH H (λw a=>mp) (X H (aQ H (λw a=>D eo H (a.a0 (m.a0 (k.cell (i:=0) H)))) (X H (W H (X H ?_)))))))))))))))
  obtain⟨aI,aN,ak,ar,aa⟩:=bX (P:=Tryz.prog) (sz:=4) eo am nc G (q.aL (l.ai g)) (i:=i) (G) .i64
  rw[←p] at aa
  obtain⟨az,aB,rfl,ad,ae⟩:=jh aa
  refine cF H (λw _=>ak w) (X H (bH H (λw a=>wo) (X H (aQ H (λw a=>(ar.aL a).b7 (ms:=[B z.co.sg,az,aB]) (o:=1) (jj H) bI H bW) (X H (my (S:=Is (B true)) KE (cN.is _) H H H (λw a=>IN ((bQ.mk (A.aL g) (C.aL g)).aL a) ((bQ.mk ad ae).aL a)) (X H (CA H (λw _=>cW) (cq ?_)))))))))
  rintro a0 aD _ rfl _ ag
  obtain rfl:=bU ag
  rintro _ rfl _ rfl _ rfl _ rfl
  refine t H (O (be H (aH (bE (al (ap (U H cD (J H (ax (ew (i+1) (aP H) ⟨(m.ai aD),G⟩ G))))))))))
 ·refine ce (aU (aU (cg (al (T (Z H (O (aA (aM H ?_)))))))))
  exact⟨_,H,((y.ai d).ai n),H⟩
theorem IC {l:List bj} (c:aD cy l v w) (t:aD cy l u w):
 Calls Tryz.prog 50 #[v,u,.func (.func 51) #[] #[]] w (aJ λr w'=>ao w w'∧Is (B true) r w'):=by
 have ad:=c.len
 refine enter (vs:=[v,u,.func (.func 51) #[] #[]]) Tryz.func50 H H H (T (Z H (O (ah (T (J H (aW H (bP cO c) (J H (aW H (bP cO t) (U H (aX G dZ) (O (be H (aH (al (ah (T (J H (aW H (bP cO c) (J H (O (aR (eg (α:=Nat) (λi=>[(1,u),(2,.func (.func 51) #[] #[]),(15,v),(16,I (l.length:Int)),(17,I (i:Int))]) (λi w'=>ao w w'∧i≤l.length) (λi=>l.length-i) (0) (aP H) ⟨ao.refl _,G⟩ ?_))))))))))))))))))))))
 rintro i wL ⟨b,hi⟩
 refine T (U H (bO) (O (ah (bc H (λx=>?_) (λx=>?_)))))
 ·refine aH (al (ah (aR (T (J H ?_)))))
  obtain⟨a20,X,K,M,p⟩:=bX (P:=Tryz.prog) (sz:=4) cO am gD G (c.aL b) (i:=i) (G) .i64
  obtain⟨ab,s⟩:∃e,e=l[i]'G:=⟨_,rfl⟩
  rw[←s] at p
  obtain⟨aj,ak,an,rfl,h,j,k⟩:=ey p
  refine bF H (K _) (Y H (M.ld dx H cL) (cM iX H λg8 w8 D V A=>(Z H (cl H H A H cL (ay.a1 h.one (ay.a1 H (ay.a1 j.one (ay.a1 k.one ay.nil)))) λag Q y=>?_))))
  have g:=ao.a2 (V) Q D
  refine bB (J H (J H ?_))
  obtain⟨a24,aa,L,N,q⟩:=bX (P:=Tryz.prog) (sz:=4) cO am gD G (t.aL (b.ai g)) (i:=i) (G) .i64
  rw[←s] at q
  obtain⟨aq,ar,au,rfl,m,n,o⟩:=ey q
  refine bF H (L _) (Y H (N.ld dx H cL) (cM iX H λg9 w9 F W C=>cl H H C H cL (ay.a1 m.one (ay.a1 H (ay.a1 n.one (ay.a1 o.one ay.nil)))) λai R z=>?_))
  have a:=ao.a2 (W) R F
  refine bB (J H (Y H ((y.aL a).ld dx H cL) (Y H (z.ld dx H cL) ?_)))
  have d:=g.ai a
  refine im H Uj H H ((Rb (bR.mk (eX (h.aL d) (j.aL d) (k.aL d))) (bR.mk (eX (m.aL a) (n.aL a) (o.aL a))))) ?_
  rintro ae af ⟨S,rfl⟩
  refine cP H cW (O (be H (aH (bE (al (ap (U H cD (J H (f (ew (i+1) (aP H) ⟨(((b.ai g).ai a).ai S),G⟩ G))))))))))
 ·refine ce (aU (aU (cg (al (T (Z H (O (aA (aM H ?_)))))))))
  exact⟨_,H,b,H⟩
theorem QR {g:gm} (o:bR iC g v w) (n:bR iC g u w):
 Calls Tryz.prog 12 #[v,u] w (aJ λr w'=>ao w w'∧Is (B true) r w'):=by
 obtain⟨_,rfl,x⟩:=o
 obtain⟨j,k,rfl,p,q⟩:=jX x
 obtain⟨_,rfl,y⟩:=n
 obtain⟨l,m,rfl,s,t⟩:=jX y
 refine enter (vs:=[.agg #[I g.inp,j,k],.agg #[I g.inp,l,m]]) Tryz.func12 H H H (T (cE H H λA w2 F h d=>cE H H λC P G a e=>(Z H (bB (c H (oh) (Y H (D aE H (a.a0 (d.cell (i:=0) H))) (c H (oh) (Y H (D aE H (e.cell (i:=0) H)) (U H (cu H aV) (J H (V H (c H (kZ) (V H (Y H (D cO H (a.a0 (d.cell (i:=1) H))) (V H (c H (kZ) (V H (Y H (D cO H (e.cell (i:=1) H)) (V H (aC Ky H H ((IC (p.aL (h.ai a)) (s.aL (h.ai a)))) ?_))))))))))))))))))))
 rintro K M ⟨f,rfl⟩
 refine bA H (J H (V H (c H (qY) (V H (Y H (D cO H ((a.ai f).a0 (d.cell (i:=2) H))) (V H (c H (qY) (V H (Y H (D cO H (f.a0 (e.cell (i:=2) H))) ?_)))))))))
 have b:=(h.ai a).ai f
 refine V H (aC Ky H H ((IC (q.aL b) (t.aL b))) ?_)
 rintro L N ⟨z,rfl⟩
 refine bA H (Z H (O (aA (aM H ?_))))
 exact⟨_,H,(b.ai z),H⟩
structure nT (g:gm):Prop where
 i0:1≤g.inp
 i1:g.inp≤256
 ul:g.us.length≤1024
 o0:1≤g.os.length
 o1:g.os.length≤256
 us:∀(j:Nat) (h:j<g.us.length),jk g.us[j] (g.inp+j)=true∧jH g.us[j]
 os:∀f∈g.os,jk f (g.inp+g.us.length)=true∧jH f
theorem En {g:gm} (A:bR iC g v w) (hs:nT g):
 Calls Tryz.prog 52 #[v] w (aJ λr w'=>ao w w'∧Is (B true) r w'):=by
 obtain⟨_,rfl,P⟩:=A
 obtain⟨q,u,rfl,j,l⟩:=jX P
 have h1:=hs.i0
 have h2:=hs.i1
 have h3:=hs.ul
 have h4:=hs.o0
 have h5:=hs.o1
 refine enter (vs:=[.agg #[I g.inp,q,u]]) Tryz.func52 H H H (T (cE H H λg1 w1 l1 x1 a=>(Z H (O (ah (T (c H (oh) (Y H (D aE H (a.cell (i:=0) H)) (U H (aX G bO) (J H (V H (c H (oh) (V H (Y H (D aE H (a.cell (i:=0) H)) (V H (U H (aX G cY) (t H (J H (V H (c H (kZ) (V H (Y H (D cO H (a.cell (i:=1) H)) (V H (aW H (bP cO (j.aL x1)) (V H (U H (aX G cY) (t H (J H (V H (c H (qY) (V H (Y H (D cO H (a.cell (i:=2) H)) (V H (aW H (bP cO (l.aL x1)) (V H (U H (aX G bO) (t H (J H ?_))))))))))))))))))))))))))))))))))))))
 refine V H (c H (qY) (V H (Y H (D cO H (a.cell (i:=2) H)) (V H (aW H (bP cO (l.aL x1)) (V H (U H (aX G cY) (t H (ax (al (be H (aH (al (ah (T (c H (kZ) (Y H (D cO H (a.cell (i:=1) H)) (aW H (bP cO (j.aL x1)) (J H (O (aR (eg (α:=Nat) (λi=>[(1,.pointer (some ⟨g1,0,none⟩)),(32,q),(33,I (g.us.length:Int)),(34,I (i:Int))]) (λi w'=>ao w1 w'∧i≤g.us.length) (λi=>g.us.length-i) (0) (aP H) ⟨ao.refl _,G⟩ ?_))))))))))))))))))))))
 rintro i wL ⟨b,hi⟩
 refine T (U H (bO) (O (ah (bc H (λx=>?_) (λx=>?_)))))
 ·refine aH (al (ah (aR (T (J H ?_)))))
  obtain⟨a37,W,X,z,L,M,y⟩:=MI (j.aL (x1.ai b)) (i:=i)
  obtain⟨ag,ai,aj,rfl,m,o,p⟩:=ey y
  refine bF H (L _) (Y H (M.ld dx H cL) ?_)
  have k:=hs.us i G
  rw[←z] at k
  refine cM iX H λg4 w4 K Q C=>(Z H (cl H H C H cL (ay.a1 m.one (ay.a1 H (ay.a1 o.one (ay.a1 p.one ay.nil)))) λaf N F=>?_))
  have d:=ao.a2 (Q) N K
  refine bB (Y H (F.ld dx H cL) (c H (oh) (Y H (D aE H ((b.ai d).a0 (a.cell (i:=0) H))) (J H (U (r:=I (g.inp+(i:Int))) H (by have e:(g.inp+(i:Int):Int)=g.inp+(i:Int):=G;rw[e];exact dB) (aC KF H H ((by have h:=IP (n:=g.inp+(i:Int)) (bR.mk (eX (m.aL d) (o.aL d) (p.aL d))) (by have:=k.2.1;omega);rw[k.1] at h;exact h)) ?_))))))
  rintro aa ad ⟨R,rfl⟩
  refine cP H cW (O (be H (aH (bE (al (ap (U H cD (J H (ax (ew (i+1) (aP H) ⟨((b.ai d).ai R),G⟩ G))))))))))
 ·refine ce (aU (aU (cg (al (T (c H (qY) (Y H (D cO H (b.a0 (a.cell (i:=2) H))) ?_)))))))
  refine c H (oh) (Y H (D aE H (b.a0 (a.cell (i:=0) H))) (c H (kZ) (Y H (D cO H (b.a0 (a.cell (i:=1) H))) (aW H (bP cO (j.aL (x1.ai b))) (U H dB (aC Ub H H ((QW (l.aL (x1.ai b)) (λf s=>⟨(hs.os f s).1,by have:=(hs.os f s).2.1;omega⟩))) ?_))))))
  rintro ab ae ⟨S,rfl⟩
  refine Z H (O (aA (aM H ?_)))
  exact⟨_,H,((x1.ai b).ai S),H⟩
theorem IM {f:bj} {x:List Rat} (hv:bR cy f v w) (R:aD dQ x u w) (aM:jk f x.length=true) (X:∀y∈x,bt y≤BB) (ar:2≤BB) (hB:fR f+f.ts.length*BB+BB≤17179869180):
 Calls Tryz.prog 85 #[v,u] w (aJ λr w'=>ao w w'∧je (QV (jL x f.ts f.ct)) (Is (I 0)) r w'):=by
 obtain⟨_,rfl,ra⟩:=hv
 obtain⟨fa,C,K,rfl,ia,ib,ic⟩:=ey ra
 have bh:=ia.len
 have bk:=R.len
 unfold fR at hB
 refine enter (vs:=[.agg #[fa,B f.ct.sg,C,K],u]) Tryz.func85 H H H (T (cE H H λg2 w2 l2 x2 k2=>cM iH H λg4 w4 l4 k k4=>(Z H (bB (c H (oX) (Y H ((k2.aL k).b7 (ms:=[B f.ct.sg,C,K]) (o:=1) (jj H) bI H bW) (cM iH H λg6 w6 l6 x6 k6=>cl H H k6 H bW (ay.a1 H (ay.a1 ib.one (ay.a1 ic.one ay.nil))) λbo a2 aV=>?_)))))))
 have aa:=ao.a2 (x6) a2 l6
 refine O (ah (T (c H (mp) (Y H (D eo H ((k.ai aa).a0 (k2.cell (i:=0) H))) ?_))))
 have z:=(x2.ai k).ai aa
 refine aW H (bP eo (ia.aL z)) (J H (O (aR (pv (λ(i:Nat) (s:Rat) (sa:Value) (j:Value)=>[(1,u),(4,.pointer (some ⟨g4,0,none⟩)),(6,.pointer (some ⟨g6,0,none⟩)),(12,fa),(13,I (f.ts.length:Int)),(14,I (i:Int))]) (λ(i:Nat) (s:Rat) (sa:Value) (j:Value) w'=>ao w4 w'∧i≤f.ts.length∧s=jL x (f.ts.take i) f.ct∧bm g6 49 [B s.sg,sa,j] w'∧aO s.nl sa w'∧aO s.dl j w') (λ(i:Nat) (s:Rat) (sa:Value) (j:Value)=>f.ts.length-i) (0) (f.ct) (C) (K) (aP H) ⟨aa,G,H,aV,(ib.aL z),(ic.aL z)⟩ ?_))))
 rintro i s sa j wL ⟨h,hi,hs,q,qa,qb⟩
 refine T (U H (bO) (O (ah (bc H (λaI=>?_) (λaI=>?_)))))
 ·refine aH (al (ah (aR (T ?_))))
  have A:=(x2.ai k).ai h
  obtain⟨a9,bb,a0,a1,an⟩:=bX (P:=Tryz.prog) (sz:=4) eo am nc G (ia.aL A) (i:=i) (G) .i64
  obtain⟨d,M⟩:∃e,e=f.ts[i]'G:=⟨_,rfl⟩
  rw[←M] at an
  obtain⟨a5,a6,rfl,ae,af⟩:=jh an
  refine bF H (a0 _) (Y H (a1.ld ur H tj) ?_)
  have hm:=eK (l:=f.ts) (n:=i) G
  rw[←M] at hm
  have hk:=A5 aM d hm
  have bi:=z6 hm
  have Q:=Wx (F:=λs (t:cX)=>s+t.co*x.getD t.va.toNat 0) (s:=f.ct) (l:=f.ts) (i:=i) G
  rw[←M] at Q
  have L:=Kl X ar (f.ts.take i) f.ct
  rw[←hs,eS] at L
  have bf:=Tm f.ts i
  have bg:min i f.ts.length*BB≤f.ts.length*BB:=fH _ G
  refine cM Bt H λg8 w8 l8 x8 k8=>cl H H k8 H tj (ay.a1 H (ay.a1 H (ay.a1 ae.one (ay.a1 af.one ay.nil)))) λbq a4 m=>?_
  have b:=ao.a2 (x8) a4 l8
  refine O (ah (T (c H (ju) (Y H (D aE H (m.cell (i:=0) H)) (U H (aX G bO) (J H (V H (c H (ju) (V H (Y H (D aE H (m.cell (i:=0) H)) (V H (J H (V H (aW H (bP cn (R.aL (A.ai b))) (V H (U H (aX G eU) (aK H (O (be H (aH (al (cz 10 [1,4,6,12,13,14,38] am am (aQ H (λw a=>((q.aL b).aL a).ld bI H bW) (bH H (λw a=>rc) (aQ H (λw a=>(m.aL a).b7 (ms:=[B d.co.sg,a5,a6]) (o:=1) (jj H) bI H bW) (W H (bH H (λw a=>ju) (aQ H (λw a=>D aE H (a.a0 (m.cell (i:=0) H))) ?_))))))))))))))))))))))))))))
  obtain⟨ba,bd,aw,a3,aq⟩:=bX (P:=Tryz.prog) (sz:=3) cn am px G (R.aL (A.ai b)) (i:=d.va.toNat) G .i64
  rw[BA hk.1] at aw
  obtain⟨g,N⟩:∃e,e=x[d.va.toNat]'G:=⟨_,rfl⟩
  rw[←N] at aq
  obtain⟨bw,bx,rfl,aF,aG⟩:=od aq
  refine cF H (λw _=>aw w) (aQ H (λw a=>(a3.aL a).ld bI H bW) ?_)
  have bl:=X g (by rw[N];exact eK _)
  have hg:x.getD d.va.toNat 0=g:=by rw[N,mU,fy G];rfl
  rw[hg] at Q
  have bG:=qK d.co g
  refine my (S:=QV (d.co*g)) yf (QV.a3 _) H H H (λw a=>xE ((bQ.mk (ae.aL b) (af.aL b)).aL a) ((bQ.mk aF aG).aL a) G) ?_
  have bJ:=vT s (d.co*g)
  refine eh (S:=QV (s+(d.co*g))) Cl (QV.a3 _) H (λw a=>by rintro _ rfl v37 aL;exact Bu ((bQ.mk (qa.aL b) (qb.aL b)).aL a) aL G) (cq ?_)
  rintro bu ad _ aN
  obtain rfl:=bU aN
  rintro _ rfl _ rfl _ aT
  obtain rfl:=bU aT
  rintro _ rfl _ rfl _ ⟨bz,bA,rfl,ag,ai⟩
  refine cl H H (q.aL (b.ai ad)) H bW (ay.a1 H (ay.a1 ag.one (ay.a1 ai.one ay.nil))) λbr az aY=>?_
  have a7:=ao.a2 (((h.ai b).ai ad)) az l6
  have au:=Kq.br (p:=[0,3,3]) (q.aL (b.ai ad)) (aS rfl (aS qa.kd (aS qb.kd dj))) az
  refine ax (bE (al (ap (U H cD (J H (ax (nK (i+1) (_) (_) (_) (aP H) ⟨a7,G,by rw[hs];exact Q.symm,aY,(ag.kq au),(ai.kq au)⟩ G)))))))
 ·refine ce (aU (aU (cg (al (ah ?_)))))
  obtain rfl:i=f.ts.length:=by omega
  rw[fL] at hs
  have L:=Kl X ar f.ts f.ct
  rw[←hs] at L
  refine ap (Y H (q.ld bI H bW) (aC vX H H (Ef (bQ.mk qa qb) G) ?_))
  rintro bn bp ⟨ab,⟨bC,bD,rfl,aj,ak⟩⟩
  refine cl H H (k4.aL (h.ai ab)) H bW (ay.a1 H (ay.a1 aj.one (ay.a1 ak.one ay.nil))) λbs aB aZ=>?_
  have a8:=ao.a2 (((k.ai h).ai ab)) aB l4
  have av:=Kq.br (p:=[0,3,3]) (k4.aL (h.ai ab)) (aS rfl (aS rfl (aS rfl dj))) aB
  refine Z H (O (aA (ff H (.cell H (aZ.ld bI H bW) (.tmp H .nil)) ?_)))
  exact⟨_,H,(x2.ai a8),_,_,H,by rw[←hs];exact(bQ.mk (aj.kq av) (ak.kq av)),H⟩
theorem JF {l:List Rat} (c:aD dQ l v w) (m:aD dQ l u w):
 Calls Tryz.prog 29 #[v,u] w (aJ λr w'=>ao w w'∧Is (B true) r w'):=by
 have R:=c.len
 refine enter Tryz.func29 H H H (T (Z H (O (ah (T (J H (aW H (bP cn c) (J H (aW H (bP cn m) (U H (aX G dZ) (O (be H (aH (al (ah (T (Z H (O (aR (eg (α:=Nat) (λi=>[(0,v),(1,u),(5,I (i:Int))]) (λi w'=>ao w w'∧i≤l.length) (λi=>l.length-i) (0) (aP H) ⟨ao.refl _,G⟩ ?_))))))))))))))))))))
 rintro i V ⟨b,hi⟩
 refine ah (T (J H (J H (aW H (bP cn (c.aL b)) (U H (bO) (O (bc H (λs=>?_) (λs=>?_))))))))
 ·refine aH (al (ah (aR (ah (cz 9 [0,1,5,25] am am ?_)))))
  refine W H (W H ?_)
  obtain⟨L,N,A,D,g⟩:=bX (P:=Tryz.prog) (sz:=3) cn am px G (c.aL b) (i:=i) (G) .i64
  obtain⟨d,k⟩:∃e,e=l[i]'G:=⟨_,rfl⟩
  rw[←k] at g
  obtain⟨Y,aa,rfl,n,o⟩:=od g
  refine cF H (λw _=>A w) (aQ H (λw a=>(D.aL a).ld bI H bW) (W H (W H ?_)))
  obtain⟨M,Q,C,F,j⟩:=bX (P:=Tryz.prog) (sz:=3) cn am px G (m.aL b) (i:=i) (G) .i64
  rw[←k] at j
  obtain⟨ab,ad,rfl,p,q⟩:=od j
  refine cF H (λw _=>C w) (aQ H (λw a=>(F.aL a).ld bI H bW) (my (S:=Is (B true)) KZ (cN.is _) H H H (λw a=>by have h:=Sy (x:=d) (y:=d) ((bQ.mk n o).aL a) ((bQ.mk p q).aL a);rw[dH rfl] at h;exact h) (cq ?_)))
  rintro X K _ t
  obtain rfl:=bU t
  rintro _ z
  obtain rfl:=bU z
  rintro _ rfl _ rfl
  refine cP H cW (O (be H (aH (bE (al (ap (J H (U H cD (Z H (f (ew (i+1) (aP H) ⟨(b.ai K),G⟩ G)))))))))))
 ·refine ce (aU (aU (cg (al (T (Z H (O (aA (aM H ?_)))))))))
  exact⟨_,H,b,H⟩
def gy (x:List Rat) (us:List bj):Nat→List Rat×List Rat
 |0=>(x,[])
 |k+1=>((gy x us k).1++[max 0 (jL (gy x us k).1 (us.getD k zF).ts (us.getD k zF).ct)],(gy x us k).2++[jL (gy x us k).1 (us.getD k zF).ts (us.getD k zF).ct])
theorem D4 {x:List Rat} {us:List bj}:∀k,(gy x us k).1.length=x.length+k∧(gy x us k).2.length=k
 |0=>⟨rfl,rfl⟩
 |k+1=>by
  obtain⟨a,b⟩:=D4 (x:=x) (us:=us) k
  exact⟨by simp only[gy,cr,qw];omega,by simp only[gy,cr,qw];omega⟩
theorem QT {g:gm} {x:List Rat} (hv:bR iC g v w) (X:aD dQ x u w) (W:nT g) (hx:(x.length:Int)=g.inp) (hB:∀k,k≤g.us.length→∀y∈(gy x g.us k).1,bt y≤1000) (hP:∀k,k<g.us.length→bt (jL (gy x g.us k).1 (g.us.getD k zF).ts (g.us.getD k zF).ct)≤1000):
 Calls Tryz.prog 84 #[v,u] w (aJ λr w'=>ao w w'∧Fp (aD dQ (gy x g.us g.us.length).1) (aD dQ (gy x g.us g.us.length).2) (Is (I 0)) r w'):=by
 obtain⟨_,rfl,ra⟩:=hv
 obtain⟨gu,go,rfl,iu,io⟩:=jX ra
 have cd:=X.len
 have R:=W.i1
 have h3:=W.ul
 refine enter (vs:=[.agg #[I g.inp,gu,go],u]) Tryz.func84 H H H (T (cE H H λg2 w2 l2 p k2=>(Z H (Z H (Z H (O (ah (T (au H (k2.ld ij H fE) (aC FK H H ((En (bR.mk (jK (iu.aL p) (io.aL p))) W)) ?_))))))))))
 rintro ch cu ⟨ab,rfl⟩
 refine cP H cW (J H (V H (J H (V H (aW H (bP cn (X.aL (p.ai ab))) (V H (c H (oh) (V H (au H (D aE H (ab.a0 (k2.cell (i:=0) H))) (V H (U H (aX G dZ) (t H (O (be H (aH (al (ah (T (J H (aW H (bP cn (X.aL (p.ai ab))) (J H (O (aR (fp (λ(i:Nat) (F:Value)=>[(2,.pointer (some ⟨g2,0,none⟩)),(4,F),(5,.slice none 0 0),(23,u),(24,I (x.length:Int)),(25,I (i:Int))]) (λ(i:Nat) (F:Value) w'=>ao w2 w'∧i≤x.length∧jG w2.heap.size (x.take i) F w') (λ(i:Nat) (F:Value)=>x.length-i) (0) (.slice none 0 0) (aP H) ⟨ab,G,bC.nil _⟩ ?_))))))))))))))))))))))))
 rintro i F wA ⟨N,hi,b⟩
 refine ah ?_
 obtain⟨n,d⟩:∃n,n=x.take i:=⟨_,rfl⟩
 rw[←d] at b
 have aI:n.length=i:=by rw[d,eS];omega
 refine ap (U H (bO) (O (ah (bc H (λa8=>?_) (λa8=>?_)))))
 ·refine aH (al (ah (aR (T ?_))))
  obtain⟨b3,b5,bw,bD,aB⟩:=bX (P:=Tryz.prog) (sz:=3) cn am px G (X.aL (p.ai N)) (i:=i) (G) .i64
  obtain⟨ae,aj⟩:∃e,e=x[i]'G:=⟨_,rfl⟩
  rw[←aj] at aB
  obtain⟨cF,cG,rfl,aq,ar⟩:=od aB
  refine bF H (bw _) (au H (bD.ld bI H bW) ?_)
  have cb:=hB 0 G ae (by rw[aj];exact eK _)
  refine cM iH H λg8 w8 l8 x8 k8=>cl H H k8 H bW (ay.a1 H (ay.a1 aq.one (ay.a1 ar.one ay.nil))) λcC bH br=>?_
  have ad:=ao.a2 (x8) bH l8
  refine O (ap (J H (au H (br.ld bI H bW) (aC vX H H (Ef (bQ.mk (aq.aL ad) (ar.aL ad)) G) ?_))))
  rintro v31 bK ⟨aY,⟨bS,bT,rfl,a4,a5⟩⟩
  obtain⟨ci,cv,bg,a0,a1⟩:=sK (w:=bK) (lS (a:=ae) a4 a5)
  refine dJ (vs:=[(0,.agg #[B ae.sg,bS,bT])]) H bg ?_
  have e3:=(ad.ai aY).ai a0
  have e4:=(((N.ai ad).ai aY).ai a0)
  obtain⟨cj,cw,bh,bs,az⟩:=xf (ty:=42) (b.aL e3) a1 fZ e4.size
  refine dW H bh ?_
  have bU:=ao.a6 e4 az ((b.aL e3)).ge
  have cf:=((b.aL e3)).b3 az aF
  refine Z H (f (bE (al (ap (U H cD (J H (f (eI (i+1) (_) (aP H) ⟨bU,G,by rw[fi G,←d,←aj];exact bs⟩ G))))))))
 ·refine ce (aU (aU (cg (al (ah (ah ?_))))))
  obtain rfl:i=x.length:=by omega
  rw[fL] at d
  rw[d] at b
  refine ap (c H (kZ) (au H (D Tryz.underlying34 H (N.a0 (k2.cell (i:=1) H))) (aW H (bP Tryz.underlying34 (iu.aL (p.ai N))) (J H (O (aR (ob (λ(j:Nat) (va:Value) (s:Value)=>[(4,va),(5,s),(36,gu),(37,I (g.us.length:Int)),(38,I (j:Int))]) (λ(j:Nat) (va:Value) (s:Value) w'=>ao w2 w'∧j≤g.us.length∧jG w2.heap.size (gy x g.us j).1 va w'∧jG w2.heap.size (gy x g.us j).2 s w'∧∀k,va.ownBlock=some k→s.ownBlock≠some k) (λ(j:Nat) (va:Value) (s:Value)=>g.us.length-j) (0) (F) (.slice none 0 0) (aP H) ⟨N,G,b,bC.nil _,λk _ h=>by simp[Value.ownBlock] at h⟩ ?_)))))))
  rintro j va s wB ⟨eB,hj,b,A,bd⟩
  refine ah ?_
  obtain⟨n,d⟩:∃n,n=(gy x g.us j).1:=⟨_,rfl⟩
  obtain⟨PP,ai⟩:∃PP,PP=(gy x g.us j).2:=⟨_,rfl⟩
  have aI:=(D4 (x:=x) (us:=g.us) j).1
  have ba:=(D4 (x:=x) (us:=g.us) j).2
  have aK:=hB j hj
  rw[←d] at b aI aK
  rw[←ai] at A ba
  refine ap (U H (bO) (O (ah (bc H (λa9=>?_) (λa9=>?_)))))
  ·refine aH (al (ah (aR (T ?_))))
   obtain⟨b4,b6,bx,bG,aG⟩:=bX (P:=Tryz.prog) (sz:=4) cO am gD G (iu.aL (p.ai eB)) (i:=j) (G) .i64
   obtain⟨M,ak⟩:∃e,e=g.us[j]'G:=⟨_,rfl⟩
   rw[←ak] at aG
   obtain⟨cH,cI,cJ,rfl,av,aw,ax⟩:=ey aG
   refine bF H (bx _) (au H (bG.ld dx H cL) ?_)
   obtain⟨aL,bb,aM⟩:=W.us j G
   rw[←ak] at aL bb aM
   have an:g.us.getD j zF=M:=by rw[ak];exact lT G
   have bf:jk M n.length=true:=by rw[show(n.length:Int)=g.inp+j by omega];exact aL
   have cc:M.ts.length*1000≤48*1000:=fH _ aM
   obtain⟨Y,S⟩:∃Y,Y=jL n M.ts M.ct:=⟨_,rfl⟩
   have ca:=bt_0
   have b9:bt Y≤1000:=by
    have h:=hP j G
    rwa [an,←d,←S] at h
   have aa:∀k,s.ownBlock=some k→va.ownBlock≠some k:=λk h1 R=>bd k R h1
   refine cM iX H λb7 cr l10 bM bo=>cl H H bo H cL (ay.a1 av.one (ay.a1 H (ay.a1 aw.one (ay.a1 ax.one ay.nil)))) λcs bz bp=>?_
   have l:=ao.a2 (bM) bz l10
   refine bB (au H (bp.ld dx H cL) (J H (aC KD H H ((by have h:=IM (BB:=1000) (bR.mk (eX (av.aL l) (aw.aL l) (ax.aL l))) (jG.bY (b.aL l)) bf aK G G;rw[←S] at h;exact h)) ?_)))
   rintro ck cx ⟨z,⟨_,_,rfl,⟨bV,bY,rfl,af,ag⟩,rfl⟩⟩
   refine J H (aZ H dm (aZ H dn (cM iH H λb8 ct aQ bN bq=>cl H H bq H bW (ay.a1 H (ay.a1 af.one (ay.a1 ag.one ay.nil))) λbJ bA aN=>?_)))
   have m:=ao.a2 (bN) bA aQ
   refine Z H (bB (J H (au H (aN.ld bI H bW) ?_)))
   obtain⟨cm,cy,bi,o,a2⟩:=sK (w:=bJ) (lS (a:=Y) (af.aL m) (ag.aL m))
   refine dJ (vs:=[(0,.agg #[B Y.sg,bV,bY])]) H bi ?_
   have e1:=((l.ai z).ai m).ai o
   have e2:=((((eB.ai l).ai z).ai m).ai o)
   obtain⟨v51,cz,bj,aV,q⟩:=xf (ty:=42) (A.aL e1) a2 fZ e2.size
   refine dW H bj ?_
   have bZ:=ao.a6 e2 q ((A.aL e1)).ge
   have C:=((A.aL e1)).b3 q aF
   have aT:∀k,va.ownBlock=some k→v51.ownBlock≠some k:=λk h1 R=>(bC.ca wY ((((b.aL l).aL z).aL m).aL o) q C aa aF).2 k R h1
   refine Z H (O (ap (J H (dY (r:=.agg #[B false,.slice none 0 0,.slice none 0 0]) H (by exact run_build _ _ _ _ am) ?_))))
   have bm:=(aN.aL o)
   have bn:=(bm.a4 q.grown (Di (A.aL (l.ai z)) aQ))
   refine au H (bn.ld bI H bW) (aC KT H H ((Ip (x:=0) (y:=Y) (bQ.mk (aO.nil _) (aO.nil _)) (bQ.mk ((af.aL (m.ai o)).kq C) ((ag.aL (m.ai o)).kq C)) G)) ?_)
   rintro co bL ⟨K,⟨b0,b1,rfl,a6,a7⟩⟩
   obtain⟨cp,cA,bk,L,a3⟩:=sK (w:=bL) (lS (a:=((max 0 Y))) a6 a7)
   refine j3 (vs:=[(0,.agg #[B ((max 0 Y)).sg,b0,b1])]) H H bk ?_
   have e5:=((bZ.ai K).ai L)
   obtain⟨cq,cB,bl,bu,Q⟩:=xf (ty:=42) (((bC.ca wY ((((b.aL l).aL z).aL m).aL o) q C aa aF).1.aL K).aL L) a3 fZ e5.size
   refine dW H bl ?_
   have b2:=ao.a6 e5 Q ((((bC.ca wY ((((b.aL l).aL z).aL m).aL o) q C aa aF).1.aL K).aL L)).ge
   have aS:=((((bC.ca wY ((((b.aL l).aL z).aL m).aL o) q C aa aF).1.aL K).aL L)).b3 Q aF
   refine Z H (f (bE (al (ap (U H cD (J H (f (lj (j+1) (_) (_) (aP H) ⟨b2,G,by simp only[gy,←d,an,←S];exact bu,by simp only[gy,←d,←ai,an,←S];exact(bC.ca wY ((aV.aL K).aL L) Q aS aT aF).1,(bC.ca wY ((aV.aL K).aL L) Q aS aT aF).2⟩ G))))))))
  ·refine ce (aU (aU (cg (al (ah ?_)))))
   obtain rfl:j=g.us.length:=by omega
   refine ap (J H (J H (Z H (Z H (Z H (O (aA (sW H ?_))))))))
   exact⟨_,H,(p.ai eB),_,_,_,H,by rw[←d];exact jG.bY b,by rw[←ai];exact jG.bY A,H⟩
theorem Yj {z:List Rat} {l:List bj} (h:i<l.length):((l.take (i+1)).map λf:bj=>jL z f.ts f.ct)=((l.take i).map λf:bj=>jL z f.ts f.ct)++[jL z l[i].ts l[i].ct]:=by
 rw[fi h,mg];rfl
theorem QS {g:gm} {x:List Rat} (hv:bR iC g v w) (hu:aD dQ x u w) (z:nT g) (hx:(x.length:Int)=g.inp) (V:∀k,k≤g.us.length→∀y∈(gy x g.us k).1,bt y≤1000) (hP:∀k,k<g.us.length→bt (jL (gy x g.us k).1 (g.us.getD k zF).ts (g.us.getD k zF).ct)≤1000):
 Calls Tryz.prog 27 #[v,u] w (aJ λr w'=>ao w w'∧je (aD dQ (g.os.map λf:bj=>jL (gy x g.us g.us.length).1 f.ts f.ct)) (Is (I 0)) r w'):=by
 obtain⟨_,rfl,ra⟩:=hv
 obtain⟨gu,R,rfl,iu,A⟩:=jX ra
 have h5:=z.o1
 have a7:=(D4 (x:=x) (us:=g.us) g.us.length).1
 have aq:=V g.us.length (bV _)
 refine enter (vs:=[.agg #[I g.inp,gu,R],u]) Tryz.func27 H H H (T (cE H H λg2 w2 l2 d W=>(Z H (Z H (bB (Y H (W.ld ij H fE) (J H (aC T9 H H ((QT (bR.mk (jK (iu.aL d) (A.aL d))) (hu.aL d) z hx V hP)) ?_))))))))
 rintro ba X ⟨o,⟨aM,a9,_,rfl,ad,a0,rfl⟩⟩
 refine J H (aZ H ov (aZ H ow (aZ H ox (Z H (Z H (Z H (O (ah (T (J H (U H (aX G dZ) (O (be H (aH (al (T (Z H (O (ah (T (c H (qY) (Y H (D cO H (o.a0 (W.cell (i:=2) H))) (aW H (bP cO (A.aL (d.ai o))) (J H (O (aR (fp (λ(i:Nat) (m:Value)=>[(6,aM),(9,m),(25,R),(26,I (g.os.length:Int)),(27,I (i:Int))]) (λ(i:Nat) (m:Value) w'=>ao X w'∧i≤g.os.length∧jG X.heap.size ((g.os.take i).map λf:bj=>jL (gy x g.us g.us.length).1 f.ts f.ct) m w') (λ(i:Nat) (m:Value)=>g.os.length-i) (0) (.slice none 0 0) (aP H) ⟨ao.refl _,G,bC.nil _⟩ ?_)))))))))))))))))))))))))))
 rintro i m wA ⟨n,hi,j⟩
 refine ah ?_
 obtain⟨q,l⟩:∃q,q=(g.os.take i).map λf:bj=>jL (gy x g.us g.us.length).1 f.ts f.ct:=⟨_,rfl⟩
 rw[←l] at j
 have a4:q.length=i:=by rw[l,dN,eS];omega
 refine ap (U H (bO) (O (ah (bc H (λaf=>?_) (λaf=>?_)))))
 ·refine aH (al (ah (aR (T ?_))))
  obtain⟨aY,a1,aG,aI,S⟩:=bX (P:=Tryz.prog) (sz:=4) cO am gD G (A.aL ((d.ai o).ai n)) (i:=i) (G) .i64
  obtain⟨b,t⟩:∃e,e=g.os[i]'G:=⟨_,rfl⟩
  rw[←t] at S
  obtain⟨bn,bo,bp,rfl,F,K,L⟩:=ey S
  refine bF H (aG _) (Y H (aI.ld dx H cL) ?_)
  obtain⟨ag,a5,ai⟩:=z.os b (by rw[t];exact eK _)
  have aj:jk b (gy x g.us g.us.length).1.length=true:=by rw[show((gy x g.us g.us.length).1.length:Int)=g.inp+g.us.length by omega];exact ag
  have a6:b.ts.length*1000≤48*1000:=fH _ ai
  refine cM iX H λa2 bg az aO ar=>cl H H ar H cL (ay.a1 F.one (ay.a1 H (ay.a1 K.one (ay.a1 L.one ay.nil)))) λbm aK av=>?_
  have h:=ao.a2 (aO) aK az
  refine bB (Y H (av.ld dx H cL) (J H (aC KD H H ((IM (BB:=1000) (bR.mk (eX (F.aL h) (K.aL h) (L.aL h))) (ad.aL (n.ai h)) aj aq G G)) ?_)))
  rintro bb bi ⟨aa,⟨_,_,rfl,⟨aS,aT,rfl,M,N⟩,rfl⟩⟩
  refine J H (aZ H dm (aZ H dn (cM iH H λa3 bh aB aQ au=>cl H H au H bW (ay.a1 H (ay.a1 M.one (ay.a1 N.one ay.nil))) λaN aL aw=>?_)))
  have p:=ao.a2 (aQ) aL aB
  refine Z H (O (ap (J H (Y H (aw.ld bI H bW) ?_))))
  obtain⟨bd,bk,ak,ab,ae⟩:=sK (w:=aN) (lS (a:=(jL (gy x g.us g.us.length).1 b.ts b.ct)) (M.aL p) (N.aL p))
  refine j3 (vs:=[(0,.agg #[B (jL (gy x g.us g.us.length).1 b.ts b.ct).sg,aS,aT])]) H H ak ?_
  have s:=((h.ai aa).ai p).ai ab
  have C:=((((n.ai h).ai aa).ai p).ai ab)
  obtain⟨bf,bl,an,aE,Q⟩:=xf (ty:=42) (j.aL s) ae fZ C.size
  refine dW H an ?_
  have aV:=ao.a6 C Q ((j.aL s)).ge
  have a8:=((j.aL s)).b3 Q aF
  refine Z H (ax (bE (al (ap (U H cD (J H (ax (eI (i+1) (_) (aP H) ⟨aV,G,by rw[Yj G,←l,←t];exact aE⟩ G))))))))
 ·refine ce (aU (aU (cg (al (ah ?_)))))
  obtain rfl:i=g.os.length:=by omega
  rw[fL] at l
  refine ap (J H (Z H (Z H (O (aA (dt H ?_))))))
  exact⟨_,H,((d.ai o).ai n),_,_,H,by rw[←l];exact jG.bY j,H⟩
def renI:Go.Shelf.Ren:=⟨λ|171=>54|243=>120|246=>208|283=>280|284=>281|285=>282|286=>283|129=>317|317=>316|318=>318|319=>319|320=>320|337=>340|338=>341|n=>n,λ|3=>3|9=>9|2=>2|4=>4|171=>325|0=>0|53=>175|37=>28|5=>5|173=>328|212=>348|51=>253|20=>20|213=>349|46=>251|232=>90|233=>255|n=>n,λ|17=>0|18=>1|19=>2|n=>n⟩
theorem CL:Go.Proofs.LaysM.n171 Tryz.prog renI where
 mixed:=by kernel_rfl
 f129:=Tryz.func317.ai (aB some am)
 f171:=Tryz.func54.ai (aB some am)
 f243:=Tryz.func120.ai (aB some am)
 f246:=Tryz.func208.ai (aB some am)
 f283:=Tryz.func280.ai (aB some am)
 f284:=Tryz.func281.ai (aB some am)
 f285:=Tryz.func282.ai (aB some am)
 f286:=Tryz.func283.ai (aB some am)
 f317:=Tryz.func316.ai (aB some am)
 f318:=Tryz.func318.ai (aB some am)
 f319:=Tryz.func319.ai (aB some am)
 f320:=Tryz.func320.ai (aB some am)
 f337:=Tryz.func340.ai (aB some am)
 f338:=Tryz.func341.ai (aB some am)
 t0:=Fm
 a0:=Tryz.isAgg0
 z0:=Tryz.sizeOf0
 v0:=Tryz.zeroValue0
 t2:=Tryz.underlying2
 a2:=Tryz.isAgg2
 z2:=Tryz.sizeOf2
 v2:=Tryz.zeroValue2
 t3:=aE
 a3:=Tryz.isAgg3
 z3:=Tryz.sizeOf3
 v3:=Tryz.zeroValue3
 t4:=dw
 a4:=Tryz.isAgg4
 z4:=Tryz.sizeOf4
 v4:=Tryz.zeroValue4
 t5:=fo
 a5:=Tryz.isAgg5
 z5:=Tryz.sizeOf5
 v5:=Tryz.zeroValue5
 t9:=uu
 a9:=Tryz.isAgg9
 z9:=Tryz.sizeOf9
 v9:=Tryz.zeroValue9
 t20:=Tryz.underlying20
 a20:=Tryz.isAgg20
 z20:=Tryz.sizeOf20
 v20:=Tryz.zeroValue20
 t37:=iB
 a37:=Tryz.isAgg28
 z37:=Tryz.sizeOf28
 v37:=Tryz.zeroValue28
 t46:=Tryz.underlying251
 a46:=Tryz.isAgg251
 z46:=Tryz.sizeOf251
 v46:=Tryz.zeroValue251
 t51:=bN
 a51:=Tryz.isAgg253
 z51:=Tryz.sizeOf253
 v51:=Tryz.zeroValue253
 t53:=cU
 a53:=Tryz.isAgg175
 z53:=Tryz.sizeOf175
 v53:=Tryz.zeroValue175
 t171:=JT
 a171:=Tryz.isAgg325
 z171:=Tryz.sizeOf325
 v171:=Tryz.zeroValue325
 t173:=Tryz.underlying328
 a173:=Tryz.isAgg328
 z173:=Tryz.sizeOf328
 v173:=Tryz.zeroValue328
 t212:=Tryz.underlying348
 a212:=Tryz.isAgg348
 z212:=Tryz.sizeOf348
 v212:=Tryz.zeroValue348
 t213:=Tryz.underlying349
 a213:=Tryz.isAgg349
 z213:=Tryz.sizeOf349
 t232:=uw
 a232:=Tryz.isAgg90
 z232:=Tryz.sizeOf90
 v232:=Tryz.zeroValue90
 t233:=Tryz.underlying255
 a233:=Tryz.isAgg255
 z233:=Tryz.sizeOf255
 v233:=Tryz.zeroValue255
 g17:=by kernel_rfl
 g18:=by kernel_rfl
 g19:=by kernel_rfl
 i0:=by kernel_rfl
 i2:=by kernel_rfl
 i3:=by kernel_rfl
 i4:=by kernel_rfl
 i5:=by kernel_rfl
 i9:=by kernel_rfl
 i20:=by kernel_rfl
 i37:=by kernel_rfl
 i46:=by kernel_rfl
 i51:=by kernel_rfl
 i53:=by kernel_rfl
 i171:=by kernel_rfl
 i173:=by kernel_rfl
 i212:=by kernel_rfl
 i232:=by kernel_rfl
 i233:=by kernel_rfl
 m17:=by kernel_rfl
 m18:=by kernel_rfl
 m19:=by kernel_rfl
def OJ:Go.Shelf.Ren:=⟨λ|105=>287|212=>328|99=>329|165=>330|166=>53|170=>122|169=>56|263=>342|264=>343|206=>344|240=>119|241=>345|276=>207|277=>351|n=>n,λ|9=>9|3=>3|4=>4|20=>20|0=>0|46=>251|109=>357|5=>5|72=>113|76=>116|51=>253|146=>370|53=>175|148=>372|70=>111|37=>28|75=>115|127=>196|164=>273|80=>120|n=>n,λ|n=>n⟩
theorem pE:Go.Proofs.Lays.n105 Tryz.prog OJ where
 mixed:=by kernel_rfl
 f99:=Tryz.func329.ai (aB some am)
 f105:=Tryz.func287.ai (aB some am)
 f165:=Tryz.func330.ai (aB some am)
 f166:=Tryz.func53.ai (aB some am)
 f169:=Tryz.func56.ai (aB some am)
 f170:=Tryz.func122.ai (aB some am)
 f206:=Tryz.func344.ai (aB some am)
 f212:=Tryz.func328.ai (aB some am)
 f240:=Tryz.func119.ai (aB some am)
 f241:=Tryz.func345.ai (aB some am)
 f263:=Tryz.func342.ai (aB some am)
 f264:=Tryz.func343.ai (aB some am)
 f276:=Tryz.func207.ai (aB some am)
 f277:=Tryz.func351.ai (aB some am)
 t0:=Fm
 a0:=Tryz.isAgg0
 z0:=Tryz.sizeOf0
 v0:=Tryz.zeroValue0
 t3:=aE
 a3:=Tryz.isAgg3
 z3:=Tryz.sizeOf3
 v3:=Tryz.zeroValue3
 t4:=dw
 a4:=Tryz.isAgg4
 z4:=Tryz.sizeOf4
 v4:=Tryz.zeroValue4
 t5:=fo
 a5:=Tryz.isAgg5
 z5:=Tryz.sizeOf5
 v5:=Tryz.zeroValue5
 t9:=uu
 a9:=Tryz.isAgg9
 z9:=Tryz.sizeOf9
 v9:=Tryz.zeroValue9
 t20:=Tryz.underlying20
 a20:=Tryz.isAgg20
 z20:=Tryz.sizeOf20
 v20:=Tryz.zeroValue20
 t37:=iB
 a37:=Tryz.isAgg28
 z37:=Tryz.sizeOf28
 v37:=Tryz.zeroValue28
 t46:=Tryz.underlying251
 a46:=Tryz.isAgg251
 z46:=Tryz.sizeOf251
 v46:=Tryz.zeroValue251
 t51:=bN
 a51:=Tryz.isAgg253
 z51:=Tryz.sizeOf253
 v51:=Tryz.zeroValue253
 t53:=cU
 a53:=Tryz.isAgg175
 z53:=Tryz.sizeOf175
 v53:=Tryz.zeroValue175
 t70:=Tryz.underlying111
 a70:=Tryz.isAgg111
 z70:=Tryz.sizeOf111
 v70:=Tryz.zeroValue111
 t72:=Tryz.underlying113
 a72:=Tryz.isAgg113
 z72:=Tryz.sizeOf113
 v72:=Tryz.zeroValue113
 t75:=Tryz.underlying115
 a75:=Tryz.isAgg115
 z75:=Tryz.sizeOf115
 v75:=Tryz.zeroValue115
 t76:=Tryz.underlying116
 a76:=Tryz.isAgg116
 z76:=Tryz.sizeOf116
 v76:=Tryz.zeroValue116
 t109:=Tryz.underlying357
 a109:=Tryz.isAgg357
 z109:=Tryz.sizeOf357
 v109:=Tryz.zeroValue357
 t127:=Tryz.underlying196
 a127:=Tryz.isAgg196
 z127:=Tryz.sizeOf196
 v127:=Tryz.zeroValue196
 t146:=Tryz.underlying370
 a146:=Tryz.isAgg370
 z146:=Tryz.sizeOf370
 v146:=Tryz.zeroValue370
 t148:=Tryz.underlying372
 a148:=Tryz.isAgg372
 z148:=Tryz.sizeOf372
 v148:=Tryz.zeroValue372
 t164:=Tryz.underlying273
 a164:=Tryz.isAgg273
 z164:=Tryz.sizeOf273
 v164:=Tryz.zeroValue273
def OI:Go.Shelf.Ren:=⟨λ|156=>289|165=>330|166=>53|169=>56|240=>119|241=>345|276=>207|277=>351|n=>n,λ|31=>330|9=>9|3=>3|4=>4|0=>0|20=>20|72=>113|76=>116|70=>111|37=>28|75=>115|127=>196|164=>273|5=>5|80=>120|n=>n,λ|n=>n⟩
theorem layJ:Go.Proofs.Lays.n156 Tryz.prog OI where
 mixed:=by kernel_rfl
 f156:=Tryz.func289.ai (aB some am)
 f165:=Tryz.func330.ai (aB some am)
 f166:=Tryz.func53.ai (aB some am)
 f169:=Tryz.func56.ai (aB some am)
 f240:=Tryz.func119.ai (aB some am)
 f241:=Tryz.func345.ai (aB some am)
 f276:=Tryz.func207.ai (aB some am)
 f277:=Tryz.func351.ai (aB some am)
 t0:=Fm
 a0:=Tryz.isAgg0
 z0:=Tryz.sizeOf0
 v0:=Tryz.zeroValue0
 t3:=aE
 a3:=Tryz.isAgg3
 z3:=Tryz.sizeOf3
 v3:=Tryz.zeroValue3
 t4:=dw
 a4:=Tryz.isAgg4
 z4:=Tryz.sizeOf4
 v4:=Tryz.zeroValue4
 t9:=uu
 a9:=Tryz.isAgg9
 z9:=Tryz.sizeOf9
 v9:=Tryz.zeroValue9
 t20:=Tryz.underlying20
 a20:=Tryz.isAgg20
 z20:=Tryz.sizeOf20
 v20:=Tryz.zeroValue20
 t31:=Fo
 a31:=Tryz.isAgg330
 z31:=Tryz.sizeOf330
 v31:=Tryz.zeroValue330
 t37:=iB
 a37:=Tryz.isAgg28
 z37:=Tryz.sizeOf28
 v37:=Tryz.zeroValue28
 t70:=Tryz.underlying111
 a70:=Tryz.isAgg111
 z70:=Tryz.sizeOf111
 v70:=Tryz.zeroValue111
 t72:=Tryz.underlying113
 a72:=Tryz.isAgg113
 z72:=Tryz.sizeOf113
 v72:=Tryz.zeroValue113
 t75:=Tryz.underlying115
 a75:=Tryz.isAgg115
 z75:=Tryz.sizeOf115
 v75:=Tryz.zeroValue115
 t76:=Tryz.underlying116
 a76:=Tryz.isAgg116
 z76:=Tryz.sizeOf116
 v76:=Tryz.zeroValue116
 t127:=Tryz.underlying196
 a127:=Tryz.isAgg196
 z127:=Tryz.sizeOf196
 v127:=Tryz.zeroValue196
 t164:=Tryz.underlying273
 a164:=Tryz.isAgg273
 z164:=Tryz.sizeOf273
 v164:=Tryz.zeroValue273
def renV:Go.Shelf.Ren:=⟨λ|17=>288|n=>n,λ|24=>330|9=>9|3=>3|4=>4|0=>0|n=>n,λ|n=>n⟩
theorem layV:Go.Proofs.Lays2.n17 Tryz.prog renV where
 mixed:=by kernel_rfl
 f17:=Tryz.func288.ai (aB some am)
 t0:=Fm
 a0:=Tryz.isAgg0
 z0:=Tryz.sizeOf0
 v0:=Tryz.zeroValue0
 t3:=aE
 a3:=Tryz.isAgg3
 z3:=Tryz.sizeOf3
 v3:=Tryz.zeroValue3
 t4:=dw
 a4:=Tryz.isAgg4
 z4:=Tryz.sizeOf4
 v4:=Tryz.zeroValue4
 t9:=uu
 a9:=Tryz.isAgg9
 z9:=Tryz.sizeOf9
 v9:=Tryz.zeroValue9
 t24:=Fo
 a24:=Tryz.isAgg330
 z24:=Tryz.sizeOf330
 v24:=Tryz.zeroValue330
section
open Go.Sort
theorem Mp:Tryz.prog.globalNamed "internal/strconv.uint64pow10" =some 0:=by kernel_rfl
def kV (w:World):Prop:=Lib.TabIs Tryz.prog w "internal/strconv.uint64pow10" .u64 Lib.pow10Tab
theorem kV.aL (h:kV w) (a:ao w w'):kV w':=Go.Joins.tab_stays Mp h (show Below w.heap.size w w' from a) (bV _)
theorem Ci:aY Tryz.prog 54:=⟨_,Tryz.func54,am,rfl⟩
theorem TX:aY Tryz.prog 286:=⟨_,Tryz.func286,am,rfl⟩
theorem TY:aY Tryz.prog 327:=⟨_,Tryz.func327,am,rfl⟩
theorem U7:aY Tryz.prog 280:=⟨_,Tryz.func280,am,rfl⟩
theorem UK:aY Tryz.prog 281:=⟨_,Tryz.func281,am,rfl⟩
theorem TH:aY Tryz.prog 282:=⟨_,Tryz.func282,am,rfl⟩
theorem U0:aY Tryz.prog 287:=⟨_,Tryz.func287,am,rfl⟩
theorem IK (hi:i<100):
 Calls Tryz.prog 54 #[I i] w (aJ λr w'=>ao w w'∧Is (S (Lib.decDigits i)) r w'):=
 (Any.strconv_Itoa_small {CL with} i hi w).mono λ_ _ ⟨a,b⟩=>⟨_,a,by rw[b];exact⟨ao.refl w,rfl⟩⟩
theorem SA (hi:i<100):
 Calls Tryz.prog 280 #[I i] w (aJ λr w'=>ao w w'∧Is (S (Lib.decDigits i)) r w'):=
 (Any.internal_strconv_small {CL with} i hi w).mono λ_ _ ⟨a,b⟩=>⟨_,a,by rw[b];exact⟨ao.refl w,rfl⟩⟩
theorem RN {u:Nat} (a:1≤u) (b:u<18446744073709551616) (d:kV w):
 Calls Tryz.prog 281 #[.int .u64 u] w (aJ λr w'=>w=w'∧Is (I (Lib.nDigits u)) r w'):=
 (Any.internal_strconv_numDigits {CL with} u a b w d).mono λ_ _ ⟨c,e⟩=>⟨_,c,e.symm,rfl⟩
theorem WF (w:World) (T:TypeId) (a:Nat) (hs:a≤24):Holds (λ(b:UInt8)=>Value.int .u8 (b.toNat:Int)) (w.alloc (.cells Lib.zeros24 T)) w.heap.size 0 (Array.replicate a (0:UInt8)):=λj c=>by
 have d:j<a:=by simpa using c
 refine⟨?_,World.frozen?_alloc_new _ _ _ _⟩
 rw[World.cell?_alloc_new,Lib.zeros24_at _ G,getElem!_pos _ j c]
 simp
theorem Qp {T:TypeId} {u:Nat} (l:u<18446744073709551616) (g:Lib.nDigits u≤24):
 Calls Tryz.prog 282 #[.slice (some ⟨w.heap.size,0,none⟩) (Lib.nDigits u) 24,.int .u64 u] (w.alloc (.cells Lib.zeros24 T))
  (aJ λr w'=>r=.tuple #[]∧ao w w'∧cV (Lib.decDigits u) (.slice (some ⟨w.heap.size,0,none⟩) (Lib.nDigits u) 24) w'):=by
 have f:=WF w T (Lib.nDigits u) g
 have h:=Any.internal_strconv_formatBase10 {CL with} w.heap.size 0 24 u (Array.replicate (Lib.nDigits u) 0) _ f (by rw[Ei];exact Lib.lt_pow_nDigits u) l (by rw[Ei];omega)
 rw[Ei] at h
 refine h.mono ?_
 rintro e w' ⟨rfl,k,v',a,rfl,c⟩
 refine⟨_,H,H,?_,?_⟩
 ·obtain⟨o,_,e⟩:=putRow_grow_new (λ(b:UInt8)=>Value.int .u8 (b.toNat:Int)) w #[.cells Lib.zeros24 T] w.heap.size 0 a (bV _)
  rw[alloc_eq_grow,e]
  exact Lib.below_grow w.heap.size w (bV _) k o
 ·refine⟨_,_,_,H,g,aF,by rw[dN,Lib.decDigits_length,rR],λ_=>⟨_,rfl,λj x i=>?_⟩,λh=>by cases h⟩
  rw[tu,gU] at i
  obtain⟨b,m,rfl⟩:=i
  obtain⟨d,rfl⟩:=pl.1 m
  have n:j<a.size:=by rw[c.size];rw[Lib.decDigits_length] at d;exact d
  rw[vO,World.cell?_drewN,cell?_putRow _ _ _ _ _ a f (by rw[c.size,Ei]) j n,←Lib.row_is_numeral c j d]
  rfl
theorem S5 (w:World):(Instr.alloc 325 true (.tuple #[])).run Tryz.prog w=.ok (.pointer (some ⟨w.heap.size,0,none⟩)) (w.alloc (.cells Lib.zeros24 325)):=by
 have b:(Tryz.prog.info? 325).map (·.zero)=some (some (.agg (List.replicate 24 (U8 0)).toArray)):=am
 have a:(Value.agg (List.replicate 24 (U8 0)).toArray).cells=Lib.zeros24:=am
 have h:=Dn (w:=w) b
 rwa [a] at h
theorem QN {x:UInt64} (i:kV w):
 Calls Tryz.prog 327 #[bk x,I 10] w (aJ λr w'=>ao w w'∧Is (S (Lib.decDigits x.toNat)) r w'):=by
 refine enter Tryz.func327 H H H (ar (Z H (O (ah (ar (J H (U H (cu H aV) (O (bT H (ah (ar (J H (U H (Oc (b:=100)) (O (bc H (λg=>?_) (λf=>?_))))))))))))))))
 ·have a:x.toNat<100:=by simpa using kW.1 g
  refine ar (J H (cJ H (DD cU aE G) (aC U7 H H (SA a) ?_)))
  rintro v1 w1 ⟨x1,rfl⟩
  exact Z H (O (aA (aI (aI (aM H ⟨_,H,x1,H⟩)))))
 ·have a:100≤x.toNat:=by have h:=mt kW.2 f;simpa using h
  have k:Lib.nDigits x.toNat≤20:=by have h:=uK x;have:=Lib.numDigits_eq x.toNat G h;split at this<;>omega
  refine aH (al (ar (fY H (S5 w) (O (ar (J H (aC UK H H (RN G (uK x) (i.aL (ao.new w _))) ?_)))))))
  rintro v1 w1 ⟨rfl,rfl⟩
  refine Z H (O ?_)
  have c:∀W,(Instr.sliceAt 325 (.pointer (some ⟨w.heap.size,0,none⟩)) none (some (.int .i64 (Lib.nDigits x.toNat:Int))) none).run Tryz.prog W=.ok (.slice (some ⟨w.heap.size,0,none⟩) (Lib.nDigits x.toNat) 24) W:=λW=>by
   have e:Tryz.prog.arrayLen 325=24:=by simp[Program.arrayLen,Tryz.underlying325]
   rw[run_sliceAt_array_h W 325 ⟨w.heap.size,0,none⟩ (by simp[Program.arrayLen,Program.elem,Tryz.underlying325]) .i64 (Lib.nDigits x.toNat:Int) G (by rw[e];omega)]
   go_simp
  refine ar (J H (jx H H H H H (c _) (J H (aC TH H H (Qp (w:=w) (T:=325) (u:=x.toNat) (uK x) G) ?_))))
  rintro v2 w2 ⟨rfl,j,d⟩
  refine O (ar (J H (jx H H H H H (c _) (cJ H (Oj d) (Z H (O ?_))))))
  exact aA (aI (aM H ⟨_,H,j,H⟩))
theorem QP {x:UInt64} (a:kV w):
 Calls Tryz.prog 286 #[bk x,I 10] w (aJ λr w'=>ao w w'∧Is (S (Lib.decDigits x.toNat)) r w'):=by
 refine enter Tryz.func286 H H H (T (Z H (O (T (J H (J H (aC TY H H (QN a) ?_)))))))
 rintro v1 w1 ⟨x1,rfl⟩
 exact Z H (O (aA (aM H ⟨_,H,x1,H⟩)))
theorem exB:Builder.Extra Tryz.prog OJ where
 sizeBuilder:=by kernel_rfl
 liesBuilder:=by kernel_rfl
 t5:=pE.t5
 a5:=pE.a5
 z5:=pE.z5
 v5:=pE.v5
 infoByte:=by kernel_rfl
 cellsByte:=by kernel_rfl
 sizeByte:=by kernel_rfl
 neB5:=by decide
theorem exJ:Builder.Extra Tryz.prog OI where
 sizeBuilder:=by kernel_rfl
 liesBuilder:=by kernel_rfl
 t5:=pE.t5
 a5:=pE.a5
 z5:=pE.z5
 v5:=pE.v5
 infoByte:=by kernel_rfl
 cellsByte:=by kernel_rfl
 sizeByte:=by kernel_rfl
 neB5:=by decide
def zg (n:Nat):List UInt8:=Lib.repeatL [48] n
theorem Sm (c:n≤100):
 Calls Tryz.prog 287 #[S [48],I n] w (aJ λr w'=>ao w w'∧Is (S (zg n)) r w'):=
 (Any.strings_Repeat pE exB ⟨#[48]⟩ n w G (by show 1*n≤_;omega)).mono λ_ _ ⟨a,b⟩=>⟨_,a,b,rfl⟩
structure mR (w0:World) (b:Nat) (l:List UInt8) (w:World):Prop where
 aL:ao w0 w
 at_:Lib.IsBuilder 113 5 w0.heap.size b (Lib.byteCells l) w
theorem L8 (h:ao w0 w) (k:Below w0.heap.size w w'):ao w0 w':=Below.trans (show Below w0.heap.size w0 w from h) k
theorem qN:aY Tryz.prog 122:=⟨_,Tryz.func122,am,rfl⟩
theorem rZ:aY Tryz.prog 53:=⟨_,Tryz.func53,am,rfl⟩
theorem Cf:aY Tryz.prog 56:=⟨_,Tryz.func56,am,rfl⟩
theorem mR.mv {b:Nat} {l:List UInt8} (h:mR w0 b l w) (a:ao w w'):mR w0 b l w':=
 ⟨h.aL.ai a,by
  have c:∀{p:Value},Lib.BuilderAt 113 5 w0.heap.size b p (Lib.byteCells l) w→Lib.BuilderAt 113 5 w0.heap.size b p (Lib.byteCells l) w':=
   λ⟨d,v,e,f,g⟩=>⟨d,v,a.bM e,uN f a,g⟩
  exact h.at_.imp c c⟩
theorem mR.new (w:World):mR w w.heap.size [] (w.alloc (.cells #[.pointer none,.slice none 0 0] 113)):=
 ⟨ao.new w _,Or.inl ⟨bV _,_,Go.heap_alloc_new w _,World.ownsRow_nil _ _ _ _,by simp[Value.ownBlock]⟩⟩
theorem qo {b:Nat} {l:List UInt8} (h:mR w0 b l w):
 Calls Tryz.prog 122 #[.pointer (some ⟨b,0,none⟩)] w (aJ λr w'=>w=w'∧Is (I l.length) r w'):=
 (Any.Builder_Len {pE with} w0.heap.size b _ w h.at_).mono λ_ _ ⟨a,c⟩=>⟨_,a,c.symm,by rw[Lib.byteCells_length];rfl⟩
theorem rJ {b:Nat} {l m:List UInt8} (h:mR w0 b l w) (d:l.length+m.length≤140737488355328):
 Calls Tryz.prog 53 #[.pointer (some ⟨b,0,none⟩),S m] w (aJ λ_ w'=>mR w0 b (l++m) w'):=
 (Any.Builder_WriteString {pE with} exB w0.heap.size b _ ⟨m.toArray⟩ w h.at_ (by rw[Lib.byteCells_length];exact d) h.aL.size).mono λ_ _ ⟨c,a,f⟩=>
   ⟨_,c,L8 h.aL f,by
    rw[Lib.byteCells_append]
    have e:Lib.strCells ⟨m.toArray⟩=Lib.byteCells m:=by rw[Lib.strCells_eq]
    rw[←e]
    exact Or.inr a⟩
theorem Bv {b:Nat} {l:List UInt8} (h:mR w0 b l w):
 Calls Tryz.prog 56 #[.pointer (some ⟨b,0,none⟩)] w (aJ λr w'=>ao w0 w'∧Is (S l) r w'):=
 (Any.Builder_String_any {pE with} exB w0.heap.size b l w h.at_ h.aL.size).mono λ_ _ ⟨a,c⟩=>⟨_,a,L8 h.aL c,rfl⟩
end
section
open Go.Sort
theorem KC:aY Tryz.prog 209:=⟨_,Tryz.func209,am,rfl⟩
theorem FO:aY Tryz.prog 123:=⟨_,Tryz.func123,am,rfl⟩
theorem U1:aY Tryz.prog 288:=⟨_,Tryz.func288,am,rfl⟩
theorem Ui:aY Tryz.prog 289:=⟨_,Tryz.func289,am,rfl⟩
def oT (l:List UInt8):Dt:=.str l
theorem VX (b:List UInt8):(oT b).size=1:=rfl
instance:eO oT:=⟨.c 4,λ_=>by simp only[oT,de]⟩
theorem MH:(Tryz.prog.info? 9).map (λi=>(i.zero,i.size,i.bytes))=some (some (S []),[4].length,16):=by kernel_rfl
abbrev zI (base:Nat) (l:List (List UInt8)):cT:=bC 9 [4] base oT l
theorem X8 (a:List UInt8):fe [4] (oT a):=by simp only[oT,fe]
theorem aah {b:List UInt8}:Rp w (oT b) [S b]:=by rw[oT,Rp]
theorem aag {b:List UInt8} (h:Rp w (oT b) cs):cs=[S b]:=by rw[oT,Rp] at h;exact h
theorem NI {base:Nat} {l m:List (List UInt8)} {x:Value} (h:zI base l v w) (b:aD oT m x w) (c:l.length+m.length≤1099511627776) (a:base≤w.heap.size):
 ∃r w1,(Builtin.append_ #[330,330] ty #[v,x]).run Tryz.prog w=.ok r w1∧zI base (l++m) r w1∧d9 w w1 v r:=
 bC.c4 Fo MH rfl aF aF G (λ_=>rfl) X8 h b G a
theorem M7 (b:List UInt8):∃r w',(Instr.buildSlice 330 1 #[(0,S b)]).run Tryz.prog w=.ok r w'∧ao w w'∧aD oT [b] r w':=by
 have e:∀u∈[S b],u.oneCell'=true:=λu f=>by
  obtain rfl:u=S b:=by simpa using f
  rfl
 obtain⟨r,w',a,c,d,_⟩:=sX (P:=Tryz.prog) (w:=w) (base:=w.heap.size) Fo MH [S b] e aj (bV _)
 exact⟨r,w',a,c,Rp.cc (Sl.b2 d) (bG.a1 (aah (b:=b)) bG.nil) (by simp[VX]) G⟩
structure JU (l:List (List UInt8)) (v:Value) (w:World):Prop where
 out:∃g c,v=.slice (some ⟨g,0,none⟩) l.length c∧g<w.heap.size∧l.length≤c∧∀j x,l[j]? =some x→w.cell? ⟨g,j,none⟩=some (S x)
theorem Pl {w:World}:∀{l:List (List UInt8)} {xs:List Value},bG w (l.map oT) xs→xs=l.map S
 |[],xs,h=>by rw[nW,bG] at h;exact h
 |a::l,xs,h=>by
  rw[iy,bG] at h
  obtain⟨d,e,rfl,b,c⟩:=h
  rw[aag b,Pl c];rfl
theorem Ym {base:Nat} {l:List (List UInt8)} (h:zI base l v w) (p:0<l.length):
 ∃g c,v=.slice (some ⟨g,0,none⟩) l.length c∧base≤g∧g<w.heap.size∧l.length≤c∧Holds encStr w g 0 l.toArray:=by
 obtain⟨⟨n,xs,b,e⟩,_⟩:=h
 obtain rfl:=Pl (cB.rp e)
 obtain⟨g,d,rfl,i,j,k,q,m,o⟩:=Lib.holds_of_ownsRow (enc:=encStr) b (by
  rintro rfl
  rcases b.2 with⟨_,a⟩|⟨_,_,_,a,_⟩
  ·have f:=b.1;rw[dN,a,EZ] at f;omega
  ·cases a)
 subst m
 exact⟨g,d,H,i,j,k,o⟩
theorem Sn {l:List (List UInt8)} (h:zI w0.heap.size l v w) (p:ao w0 w) (q:0<l.length) (s:l.length≤1099511627776):
 Calls Tryz.prog 288 #[v] w (aJ λ_ w'=>ao w0 w'∧JU l.reverse v w'):=by
 obtain⟨g,c,rfl,i,k,m,a⟩:=Ym h q
 refine(Any.slices_Reverse_string layV g 0 c l w a G).mono ?_
 rintro e w' ⟨rfl,n,rfl⟩
 refine⟨_,H,?_,g,c,by rw[BG],?_,by rw[BG];exact m,λj x r=>?_⟩
 ·exact Lib.below_putRow (show Below w0.heap.size w0 w from p) i
 ·simpa [putRow,mapBlock,Sort.ahead] using k
 ·have t:=a
  obtain⟨d,rfl⟩:=pl.1 r
  have f:j<l.length:=by rw[BG] at d;exact d
  have o:Holds encStr (Sort.ahead w n) g 0 l.toArray:=a
  have b:=cell?_putRow encStr (Sort.ahead w n) g 0 l.toArray l.reverse.toArray o aj j (by simpa using f)
  rw[gB] at b
  rw[b]
  simp[encStr,S,getElem!_pos,f]
theorem Q7 {l:List (List UInt8)} (h:JU l v w) (p:l.length≤1099511627776) (m:(Lib.join l []).length≤140737488355328):
 Calls Tryz.prog 289 #[v,S []] w (aJ λr w'=>ao w w'∧Is (S (Lib.join l [])) r w'):=by
 obtain⟨g,c,rfl,d,f,i⟩:=h.out
 have e:(l.map λx=>(⟨x.toArray⟩:ByteArray)).map (·.data.toList)=l:=by rw[tz];exact(List.map_congr_left λ_ _=>rfl).ai (List.map_id l)
 have a:=Any.strings_Join layJ exJ g 0 c (l.map λx=>⟨x.toArray⟩) ⟨#[]⟩ w (λj x b=>by
  rw[tu,gU] at b
  obtain⟨y,o,rfl⟩:=b
  rw[gB];exact i j y o) d (by rw[dN];omega) (by rw[dN];exact f) (by rw[e];exact m)
 rw[e,dN] at a
 exact a.mono λ_ _ ⟨k,n⟩=>⟨_,k,n,H⟩
def qT (k:Nat):List UInt8:=if k/1000000000=0 then Lib.decDigits (k%1000000000) else zg (9-(Lib.decDigits (k%1000000000)).length)++Lib.decDigits (k%1000000000)
def oe (k:Nat):List (List UInt8):=if h:k=0 then[] else qT k::oe (k/1000000000)
termination_by k
decreasing_by omega
def kr (k:Nat):List UInt8:=if k=0 then[48] else Lib.join (oe k).reverse []
theorem yo:oe 0=[]:=by rw[oe,wm rfl]
theorem yn (h:0<k):oe k=qT k::oe (k/1000000000):=by rw[oe,dif_neg G]
theorem sO:∀(n u:Nat),u<10^(n+1)→Lib.nDigits u≤n+1
 |0,u,h=>by rw[Lib.nDigits_small G];omega
 |n+1,u,h=>by
  rcases jn u 10 with hs|a
  ·rw[Lib.nDigits_small hs];omega
  ·rw[Lib.nDigits_big G]
   have:=sO n (u/10) (by rw[gj] at h;omega)
   omega
theorem Nn {u:Nat} (h:u<1000000000):Lib.nDigits u≤9:=sO 8 u h
theorem VY:(qT k).length≤9:=by
 have h:=Nn (jV k (show 0<1000000000 by omega))
 unfold qT zg
 split
 ·rw[Lib.decDigits_length];exact h
 ·rw[cr,Lib.repeatL_length,Lib.decDigits_length]
  simp only[cw,c8]
  omega
theorem FB (h:0<k):bl (k/1000000000)+1≤bl k:=by
 have a:=FC (show k/1000000000≤k/2 by omega)
 rw[Ki h];omega
theorem LH:∀(n k:Nat),bl k≤n→(oe k).length≤bl k
 |0,k,h=>by
  have b:=ux k
  obtain rfl:k=0:=by
   rw[Nat.le_zero.1 h] at b;omega
  rw[yo];exact pq _
 |n+1,k,h=>by
  rcases fm k with rfl|a
  ·rw[yo];exact pq _
  ·have c:=FB a
   have d:=LH n (k/1000000000) G
   rw[yn a,cw];omega
theorem MY:∀{l:List (List UInt8)},(∀x∈l,x.length≤9)→Lib.lens l≤9*l.length
 |[],_=>by simp[Lib.lens]
 |x::r,h=>by
  have c:=MY (l:=r) λy b=>h y (EG _ b)
  have d:=h x EH
  have a:Lib.lens (x::r)=x.length+Lib.lens r:=by simp[Lib.lens]
  rw[a,cw];omega
theorem W5:∀{l:List (List UInt8)},(∀x∈l,x.length≤9)→(Lib.join l []).length≤9*l.length:=by
 intro l a
 match l,a with
 |[],_=>simp[Lib.join]
 |x::r,a=>
  rw[Lib.join_length,c8,EZ,gB]
  exact MY a
theorem LI {x:List UInt8}:∀(n k:Nat),bl k≤n→x∈oe k→x.length≤9
 |0,k,h,a=>by
  have c:=ux k
  obtain rfl:k=0:=by
   rw[Nat.le_zero.1 h] at c;omega
  rw[yo] at a;cases a
 |n+1,k,h,a=>by
  rcases fm k with rfl|b
  ·rw[yo] at a;cases a
  ·have d:=FB b
   rw[yn b] at a
   rcases lF.1 a with rfl|a
   ·exact VY
   ·exact LI n _ G a
theorem Aq (k:Nat):(kr k).length≤9*bl k+1:=by
 unfold kr
 split
 ·simp
 ·have a:=W5 (l:=(oe k).reverse) λx b=>LI (bl k) k (bV _) (List.mem_reverse.1 b)
  have c:=LH (bl k) k (bV _)
  rw[BG] at a
  omega
theorem Rz {a b:Nat} (g:aO (lb a) v w) (f:aO (lb b) u w) (i:bl a≤17179869184) (j:bl b≤17179869184) (hm:0<b):
 Calls Tryz.prog 284 #[v,u] w (aJ λr w'=>ao w w'∧Fp (aO (lb (a/b))) (aO (lb (a%b))) (Is (I 0)) r w'):=
 aJ.mono (zB g f (cf (CO a) G) (cf (CO b) G) (by rw[cH];exact hm)) λ_ _ ⟨e,q,s,h,c,d⟩=>⟨e,q,s,_,h,by rw[cH,cH] at c;exact c,by rw[cH,cH] at d;exact d,rfl⟩
theorem RJ (a:aO (lb n) v w) (h:n<18446744073709551616):
 Calls Tryz.prog 285 #[v] w (aJ λr w'=>ao w w'∧je (Is (bk (UInt64.ofNat n))) (Is (B true)) r w'):=
 aJ.mono (EP a) λ_ _ ⟨e,k⟩=>by
  subst e
  rw[cH] at k
  rcases k with⟨c,_⟩|⟨x,b,rfl⟩
  ·omega
  ·refine⟨ao.refl _,_,_,H,?_,H⟩
   rw[←b,UInt64.ofNat_toNat];rfl
theorem QO (a:kV w) (h:n<18446744073709551616):
 Calls Tryz.prog 286 #[bk (UInt64.ofNat n),I 10] w (aJ λr w'=>ao w w'∧Is (S (Lib.decDigits n)) r w'):=by
 have k:=QP (x:=UInt64.ofNat n) a
 rwa [UInt64.toNat_ofNat_of_lt' h] at k
theorem bl9:bl 1000000000≤17179869184:=cf (nD (k:=30) aF) aF
theorem RE:Calls Tryz.prog 274 #[bk 1000000000] w (aJ λr w'=>ao w w'∧aO (lb 1000000000) r w'):=zD (x:=1000000000)
theorem IL (hT:kV w) (z:aO (lb n) v w) (hn:bl n≤1073741824):
 Calls Tryz.prog 209 #[v] w (aJ λr w'=>ao w w'∧Is (S (kr n)) r w'):=by
 refine enter Tryz.func209 H H H (T (Z H (O (ah (ah ?_)))))
 rcases fm n with V|hp
 ·refine ap (J H (aW H (cI aT z) (U H (cu (by subst V;rfl) aV) (O (bT H ?_)))))
  refine T (Z H (O (aA (aI (aM H ?_)))))
  exact⟨_,H,ao.refl _,by rw[show kr n=[48] from if_pos V];rfl⟩
 ·refine ap (J H (aW H (cI aT z) (U H (aX (by have:=lh (n:=n);omega) aV) ?_)))
  refine O (be H (aH (al (T (aC Ah H H (RE) ?_)))))
  rintro af K ⟨L,Y⟩
  refine Z H (bB (Z H (O (ah (aR (pv (λ(k:Nat) (a:Value) (ps:List (List UInt8)) (o:Value)=>[(0,a),(3,af),(4,o)]) (λ(k:Nat) (a:Value) (ps:List (List UInt8)) (o:Value) w'=>ao K w'∧aO (lb k) a w'∧ps++oe k=oe n∧ps.length+bl k≤bl n∧zI K.heap.size ps o w') (λ(k:Nat) (a:Value) (ps:List (List UInt8)) (o:Value)=>k) (n) (v) ([]) (.slice none 0 0) (aP H) ⟨ao.refl _,(z.aL L),H,aj,bC.nil _⟩ ?_))))))
  rintro k a ps o wA ⟨c,Q,h,au,d⟩
  refine ah (T (J H (aW H (cI aT Q) (U H (cY) (O (bc H (λad=>?_) (λad=>?_)))))))
  ·refine aH (al (aR (ah ?_)))
   have u:0<k:=by have:=lh (n:=k);omega
   have ar:=FB u
   have aw:(zg (9-(Lib.decDigits (k%1000000000)).length)).length=9-(Lib.decDigits (k%1000000000)).length:=by unfold zg;rw[Lib.repeatL_length];simp
   have av:(Lib.decDigits (k%1000000000)).length≤9:=by rw[Lib.decDigits_length];exact Nn (jV _ G)
   refine ap (J H (J H (aC Af H H ((Rz Q (Y.aL c) G bl9 G)) ?_)))
   rintro ay aG ⟨M,⟨W,ax,_,rfl,q,aa,rfl⟩⟩
   refine J H (aZ H ov (aZ H ow (aZ H ox (Z H (Z H (Z H (O (T (J H (aC FT H H ((RJ aa G)) ?_))))))))))
   rintro az aK ⟨g,⟨_,_,rfl,rfl,rfl⟩⟩
   refine J H (aZ H dm (aZ H dn (Z H (Z H (bB (J H (aC TX H H ((QO (hT.aL (((L.ai c).ai M).ai g)) G)) ?_)))))))
   rintro v31 ai ⟨i,rfl⟩
   refine Z H (O (ah (ah ?_)))
   rcases fm (k/1000000000) with x|x
   ·have s:Lib.decDigits (k%1000000000)=qT k:=(if_pos x).symm
    refine ap (J H (aW H (cI aT (q.aL (g.ai i))) (U H (aX (by rw[x];decide) cY) (O (be H (aH (al (T (J H (J H ?_))))))))))
    obtain⟨ag,am,m,p,A⟩:=M7 (w:=ai) (qT k)
    rw[←s] at m
    refine dJ H m ?_
    have b:=(((M.ai g).ai i).ai p)
    obtain⟨F,an,y,C,l⟩:=NI (ty:=330) (d.aL b) A fZ (cf c.size b.size)
    refine dW H y ?_
    have D:=aO.kq (q.aL ((g.ai i).ai p)) ((d.aL b).b3 l aF)
    have N:=ao.a7 (c.ai b) l.grown λj t=>(d.lt j t).1
    refine Z H (O (ap (J H (Z H (f (bE (nK (k/1000000000) (W) (ps++[qT k]) (F) (aP H) ⟨N,D,by rw[fh,List.singleton_append,←yn u];exact h,mQ,C⟩ G)))))))
   ·have s:zg (9-(Lib.decDigits (k%1000000000)).length)++Lib.decDigits (k%1000000000)=qT k:=(if_neg G).symm
    refine ap (J H (aW H (cI aT (q.aL (g.ai i))) (U H (cu (by have:=lh (n:=k/1000000000);omega) cY) (O (bT H (ap (J H (aW H (YT) (jP (r:=I (((9-(Lib.decDigits (k%1000000000)).length:Nat):Int))) H H H (by have e:(((9-(Lib.decDigits (k%1000000000)).length:Nat):Int):Int)=9-((Lib.decDigits (k%1000000000)).length:Int):=G;rw[e];exact dM) (aC U0 H H ((Sm (n:=9-(Lib.decDigits (k%1000000000)).length) G)) ?_))))))))))
    rintro aB ak ⟨X,rfl⟩
    refine J H (U H (nm G) (Z H (bB (J H (J H ?_)))))
    obtain⟨ag,am,m,p,A⟩:=M7 (w:=ak) (qT k)
    rw[←s] at m
    refine dJ H m ?_
    have b:=((((M.ai g).ai i).ai X).ai p)
    obtain⟨F,an,y,C,l⟩:=NI (ty:=330) (d.aL b) A fZ (cf c.size b.size)
    refine dW H y ?_
    have D:=aO.kq (q.aL (((g.ai i).ai X).ai p)) ((d.aL b).b3 l aF)
    have N:=ao.a7 (c.ai b) l.grown λj t=>(d.lt j t).1
    refine Z H (O (ap (J H (Z H (f (bE (nK (k/1000000000) (W) (ps++[qT k]) (F) (aP H) ⟨N,D,by rw[fh,List.singleton_append,←yn u];exact h,mQ,C⟩ G)))))))
  ·refine ce (aU (aU (cg (al (ah ?_)))))
   obtain rfl:k=0:=by have:=lh (n:=k);omega
   rw[yo,jU] at h
   have ae:0<ps.length:=by rw[h,yn hp];simp
   have R:ps.length≤1099511627776:=G
   refine ap (J H (aC U1 H H ((Sn (w0:=K) d c ae R)) ?_))
   rintro aD aL ⟨P,ab⟩
   have P:=P
   refine bB (J H (aC Ui H H ((Q7 ab (by rw[BG];exact R) (by rw[h];have h1:=Aq n;rw[show kr n=Lib.join (oe n).reverse [] from if_neg G] at h1;omega))) ?_))
   rintro aE aN ⟨aq,rfl⟩
   refine Z H (O (aA (aM H ?_)))
   exact⟨_,H,((L.ai P).ai aq),by rw[h,show kr n=Lib.join (oe n).reverse [] from if_neg G];rfl⟩
def lA (x:Rat):List UInt8:=kr x.num.natAbs++if x.den=1 then[] else 47::kr x.den
theorem DT {x:Rat} (h:bt x≤N):(lA x).length≤18*N+3:=by
 have a:=Aq x.num.natAbs
 have b:=Aq x.den
 have c:=vV x
 have d:=vU x
 unfold lA
 rw[cr]
 split
 ·rw[c8];omega
 ·rw[cw];omega
theorem Ez {x:Rat} (f:kV w) (h:QV x v w) (o:bt x≤1073741824):
 Calls Tryz.prog 123 #[v] w (aJ λr w'=>ao w w'∧Is (S (lA x)) r w'):=by
 obtain⟨l,m,rfl,j,e⟩:=h
 have q:=vV x
 have p:=vU x
 have s:=Aq x.num.natAbs
 have t:=Aq x.den
 refine enter (vs:=[.agg #[B x.sg,l,m]]) Tryz.func123 H H H (T (cE H H λg1 w1 y x1 d=>(Z H (bB (c H (sE) (Y H (D aT H (d.cell (i:=1) H)) (aC KC H H ((IL (n:=x.num.natAbs) (f.aL x1) (j.aL x1) G)) ?_)))))))
 rintro A F ⟨a,rfl⟩
 refine Z H (O (ah (ah ?_)))
 rcases(show x.den=1∨x.den≠1 by omega) with b|b
 ·refine ap (c H (tK) (Y H (D aT H (a.a0 (d.cell (i:=2) H))) ?_))
  refine aW H (cI aT (e.aL (x1.ai a))) (U H (aX (by rw[show x.dl=[] from if_pos b];decide) cY) (O (be H (aH (al (T (J H (Z H (O (aA (aM H ?_)))))))))))
  exact⟨_,H,(x1.ai a),by first|(rw[show lA x=kr x.num.natAbs from(aB (kr x.num.natAbs++ ·) (if_pos b)).ai (jU _)];rfl)|(rw[show lA x=kr x.num.natAbs++47::kr x.den from aB (kr x.num.natAbs++ ·) (if_neg b)];rfl)⟩
 ·have g:x.dl=lb x.den:=if_neg b
  refine ap (c H (tK) (Y H (D aT H (a.a0 (d.cell (i:=2) H))) (aW H (cI aT (e.aL (x1.ai a))) (U H (cu (by have:=lh (n:=x.den);have:=x.den_pos;rw[g];omega) cY) (O (bT H (ap (J H (c H (tK) (Y H (D aT H (a.a0 (d.cell (i:=2) H))) (aC KC H H ((IL (n:=x.den) (f.aL (x1.ai a)) (by rw[←g];exact(e.aL (x1.ai a))) G)) ?_)))))))))))
  rintro z C ⟨k,rfl⟩
  refine U (u:=S [47]) H (nm fZ) (U H (nm mQ) (Z H (bB (J H (Z H (O (aA (aM H ?_))))))))
  exact⟨_,H,((x1.ai a).ai k),by first|(rw[show lA x=kr x.num.natAbs from(aB (kr x.num.natAbs++ ·) (if_pos b)).ai (jU _)];rfl)|(rw[show lA x=kr x.num.natAbs++47::kr x.den from aB (kr x.num.natAbs++ ·) (if_neg b)];rfl)⟩
end
theorem Cj:aY Tryz.prog 121:=⟨_,Tryz.func121,am,rfl⟩
theorem FP:aY Tryz.prog 55:=⟨_,Tryz.func55,am,rfl⟩
def xr (l:List UInt8) (neg:Bool):List UInt8:=if l.length=0 then(if neg then[45] else[]) else if neg then[32,45,32] else[32,43,32]
def sT (l:List UInt8) (neg:Bool) (s:List UInt8):List UInt8:=l++xr l neg++s
theorem ZX (l:List UInt8) (a:Bool):(xr l a).length≤3:=by
 unfold xr
 split<;>split<;>simp
theorem NL (l:List UInt8) (a:Bool) (s:List UInt8):(sT l a s).length≤l.length+3+s.length:=by
 have:=ZX l a
 unfold sT
 rw[cr,cr];omega
theorem BD {b:Nat} {l s:List UInt8} {c:Bool} (h:mR w0 b l w) (j:l.length+s.length≤140737488355000):
 Calls Tryz.prog 121 #[B c,S s,.pointer (some ⟨b,0,none⟩)] w (aJ λ_ w'=>mR w0 b (sT l c s) w'):=by
 refine enter Tryz.func121 H H H (ah (aR (ah ?_)))
 rcases(show(l.length=0∧c=true)∨(l.length=0∧c=false)∨(0<l.length∧c=true)∨(0<l.length∧c=false) by rcases fm l.length with h|h<;>cases c<;>first|exact .inl ⟨h,rfl⟩|exact .inr (.inl ⟨h,rfl⟩)|exact .inr (.inr (.inl ⟨h,rfl⟩))|exact .inr (.inr (.inr ⟨h,rfl⟩))) with⟨hz,rfl⟩|⟨hz,rfl⟩|⟨hz,rfl⟩|⟨hz,rfl⟩
 ·have hs:xr l true=[45]:=if_pos hz
  refine ap (aC qN H H ((qo h)) ?_)
  rintro e _ ⟨rfl,rfl⟩
  refine U H (cu G aV) (J H (V H (J H (bA H (Z H (O (bT H (ap (aC rZ H H ((rJ (m:=[45]) h fZ)) ?_)))))))))
  rintro k p d
  refine f (bE (al (ap (J H (aC rZ H H ((rJ d mQ)) ?_)))))
  rintro v24 g a
  refine f (pL H ?_)
  exact⟨_,H,by unfold sT;rw[hs];first|exact a|(rw[jU];exact a)⟩
 ·have hs:xr l false=[]:=if_pos hz
  refine ap (aC qN H H ((qo h)) ?_)
  rintro e _ ⟨rfl,rfl⟩
  refine U H (cu G aV) (J H (V H (J H (bA H (Z H (O (be H (T (aC qN H H ((qo h)) ?_)))))))))
  rintro i _ ⟨rfl,rfl⟩
  refine U H (aX G cY) (J H (L H (t H (Z H (O (be H (T (aC qN H H ((qo h)) ?_))))))))
  rintro v20 _ ⟨rfl,rfl⟩
  refine U H (aX G cY) (Z H (O (be H (aH (bE (al (ap (J H (aC rZ H H ((rJ h G)) ?_)))))))))
  rintro v24 g a
  refine f (pL H ?_)
  exact⟨_,H,by unfold sT;rw[hs];first|exact a|(rw[jU];exact a)⟩
 ·have hs:xr l true=[32,45,32]:=if_neg G
  refine ap (aC qN H H ((qo h)) ?_)
  rintro e _ ⟨rfl,rfl⟩
  refine U H (aX G aV) (J H (L H (t H (Z H (O (be H (T (aC qN H H ((qo h)) ?_))))))))
  rintro i _ ⟨rfl,rfl⟩
  refine U H (cu G cY) (J H (V H (J H (bA H (Z H (O (bT H (ap (aC rZ H H ((rJ (m:=[32,45,32]) h fZ)) ?_)))))))))
  rintro n q d
  refine f (bE (al (ap (J H (aC rZ H H ((rJ d mQ)) ?_)))))
  rintro v24 g a
  refine f (pL H ?_)
  exact⟨_,H,by unfold sT;rw[hs];first|exact a|(rw[jU];exact a)⟩
 ·have hs:xr l false=[32,43,32]:=if_neg G
  refine ap (aC qN H H ((qo h)) ?_)
  rintro e _ ⟨rfl,rfl⟩
  refine U H (aX G aV) (J H (L H (t H (Z H (O (be H (T (aC qN H H ((qo h)) ?_))))))))
  rintro i _ ⟨rfl,rfl⟩
  refine U H (cu G cY) (J H (V H (J H (bA H (Z H (O (be H (T (aC qN H H ((qo h)) ?_)))))))))
  rintro v20 _ ⟨rfl,rfl⟩
  refine U H (cu G cY) (Z H (O (bT H (ap (aC rZ H H ((rJ (m:=[32,43,32]) h fZ)) ?_)))))
  rintro o r d
  refine f (bE (al (ap (J H (aC rZ H H ((rJ d mQ)) ?_)))))
  rintro v24 g a
  refine f (pL H ?_)
  exact⟨_,H,by unfold sT;rw[hs];first|exact a|(rw[jU];exact a)⟩
def tl (t:cX):List UInt8:=if lA t.co=[49] then[120]++Lib.decDigits t.va.toNat else lA t.co++[42]++([120]++Lib.decDigits t.va.toNat)
def nu (acc:List UInt8) (t:cX):List UInt8:=sT acc t.co.sg (tl t)
def jm (f:bj):List UInt8:=if f.ct.num≠0∨(f.ts.foldl nu []).length=0 then sT (f.ts.foldl nu []) f.ct.sg (lA f.ct) else f.ts.foldl nu []
theorem H0 {t:cX} (h:bt t.co≤N) (d:t.va.toNat<100):(tl t).length≤18*N+20:=by
 have a:=DT h
 have b:=sO 2 t.va.toNat G
 have c:=Lib.decDigits_length t.va.toNat
 unfold tl
 split
 ·simp only[cr,cw,c8];omega
 ·simp only[cr,cw,c8];omega
theorem H2 {N:Nat}:∀(ts:List cX) (acc:List UInt8),(∀t∈ts,bt t.co≤N∧t.va.toNat<100)→(ts.foldl nu acc).length≤acc.length+ts.length*(18*N+23)
 |[],acc,_=>by simp
 |t::ts,acc,h=>by
  have a:=H2 ts (nu acc t) λx d=>h x (EG _ d)
  obtain⟨b,c⟩:=h t EH
  have e:=NL acc t.co.sg (tl t)
  have f:=H0 b c
  rw[BE,cw,fk]
  unfold nu at a⊢
  omega
theorem Bk {f:bj} {n:Int} (h:jk f n=true) (k:n<100) (e:jH f):(jm f).length≤1500000000:=by
 obtain⟨b,g⟩:=e
 have hm:∀t∈f.ts,bt t.co≤1048576∧t.va.toNat<100:=λt c=>by
  have a:=A5 h t c
  have d:=z6 c
  unfold fR at b
  omega
 have a:=H2 f.ts [] hm
 have d:f.ts.length*(18*1048576+23)≤48*(18*1048576+23):=fH _ g
 have i:=NL (f.ts.foldl nu []) f.ct.sg (lA f.ct)
 have j:(lA f.ct).length≤18*1048576+3:=DT (by unfold fR at b;omega)
 rw[c8] at a
 unfold jm
 split<;>omega
theorem Nv:∃g w',(Instr.alloc 113 true (.tuple #[])).run Tryz.prog w=.ok (.pointer (some ⟨g,0,none⟩)) w'∧mR w g [] w':=
 ⟨_,_,Dn (z:=.agg #[.pointer none,.slice none 0 0]) am,mR.new w⟩
theorem Ew {z:Int} (a:0≤z) (h:z<100):
 Calls Tryz.prog 54 #[I z] w (aJ λr w'=>ao w w'∧Is (S (Lib.decDigits z.toNat)) r w'):=by
 have k:=IK (w:=w) (i:=z.toNat) G
 rwa [BA a] at k
theorem EA {f:bj} {n:Int} (hT:kV w) (hv:bR cy f v w) (aB:jk f n=true) (hn:n<100) (hS:jH f):
 Calls Tryz.prog 55 #[v] w (aJ λr w'=>ao w w'∧Is (S (jm f)) r w'):=by
 obtain⟨hb,hl⟩:=hS
 have hm:∀t∈f.ts,bt t.co≤1048576∧0≤t.va∧t.va<100:=λt p=>by
  have K:=A5 aB t p
  have h2:=z6 p
  unfold fR at hb
  omega
 have ad:∀k,((f.ts.take k).foldl nu []).length≤48*(18*1048576+23):=λk=>by
  have K:=H2 (N:=1048576) (f.ts.take k) [] λt p=>by have:=hm t (zy p);omega
  have h2:(f.ts.take k).length*(18*1048576+23)≤48*(18*1048576+23):=fH _ (by rw[eS];omega)
  rw[c8] at K
  omega
 have av:bt f.ct≤1048576:=by unfold fR at hb;omega
 have a5:=DT av
 obtain⟨_,rfl,ra⟩:=hv
 obtain⟨fa,fb,fc,rfl,ia,A,ic⟩:=ey ra
 have a8:=ia.len
 refine enter (vs:=[.agg #[fa,B f.ct.sg,fb,fc]]) Tryz.func55 H H H (T (cE H H λg1 w1 l1 x1 q=>(Z H (bB ?_))))
 obtain⟨F,w3,aD,b3⟩:=Nv (w:=w1)
 refine fY H aD ?_
 have x3:=b3.aL
 refine bB (lq (us:=[]) (vs:=[.pointer (some ⟨F,0,none⟩)]) H H H (Z H (O (ah (T (c H (mp) (Y H (D eo H (x3.a0 (q.cell (i:=0) H))) (aW H (bP eo (ia.aL (x1.ai x3))) (J H (O (aR (eg (α:=Nat) (λi=>[(1,.pointer (some ⟨g1,0,none⟩)),(3,.pointer (some ⟨F,0,none⟩)),(4,.func (.func 121) #[] #[.pointer (some ⟨F,0,none⟩)]),(11,fa),(12,I (f.ts.length:Int)),(13,I (i:Int))]) (λi w'=>mR w1 F ((f.ts.take i).foldl nu []) w'∧i≤f.ts.length) (λi=>f.ts.length-i) (0) (aP H) ⟨b3,G⟩ ?_))))))))))))
 rintro i wL ⟨m,hi⟩
 refine ah ?_
 have d:=m.aL
 refine ap (U H (bO) (O (ah (bc H (λau=>?_) (λau=>?_)))))
 ·refine aH (al (ah (aR (T ?_))))
  obtain⟨a3,a4,aF,aG,aj⟩:=bX (P:=Tryz.prog) (sz:=4) eo am nc G (ia.aL (x1.ai d)) (i:=i) (G) .i64
  obtain⟨g,Q⟩:∃e,e=f.ts[i]'G:=⟨_,rfl⟩
  rw[←Q] at aj
  obtain⟨aZ,a0,rfl,af,ai⟩:=jh aj
  refine bF H (aF _) (Y H (aG.ld ur H tj) ?_)
  have an:=eK (l:=f.ts) (n:=i) G
  rw[←Q] at an
  obtain⟨ab,aw,az⟩:=hm g an
  have ba:=DT ab
  have a6:=sO 2 g.va.toNat G
  have a7:=Lib.decDigits_length g.va.toNat
  refine cM Bt H λg6 w6 l6 x6 k6=>cl H H k6 H tj (ay.a1 H (ay.a1 H (ay.a1 af.one (ay.a1 ai.one ay.nil)))) λbh aI X=>?_
  have C:=ao.a2 (x6) aI l6
  refine bB (c H (ju) (Y H (D aE H (X.cell (i:=0) H)) (aC Ci H H ((Ew aw az)) ?_)))
  rintro bb bf ⟨s,rfl⟩
  refine U (u:=S [120]) H (nm fZ) (Z H (O (ah (T (c H (rc) (Y H ((X.aL s).b7 (ms:=[B g.co.sg,aZ,a0]) (o:=1) (jj H) bI H bW) (aC FO H H ((Ez (hT.aL (((x1.ai d).ai C).ai s)) (bQ.mk (af.aL (C.ai s)) (ai.aL (C.ai s))) G)) ?_)))))))
  rintro bd bg ⟨aa,rfl⟩
  refine Z H (O (ah ?_))
  by_cases R:lA g.co=[49]
  ·have p:[120]++Lib.decDigits g.va.toNat=tl g:=(if_pos R).symm
   refine ap (J H (U (v:=S [49]) H (aX (not_not_intro R) Hn) (O (be H (aH (al (ap (J H (c H (rc) (c H (Cz) (Y H (D dw H ((s.ai aa).a0 (X.cell (i:=1) H))) (J H (im H Cj H H ((BD (m.mv ((C.ai s).ai aa)) (by rw[p];have K:=ad i;have h2:=H0 ab (show g.va.toNat<100 by omega);omega))) ?_)))))))))))))
   rintro aL aO x
   have a1:=x.aL
   refine ax (bE (al (ap (U H cD (J H (ax (ew (i+1) (aP H) ⟨by rw[fi G,xJ,←Q];rw[p] at x;exact x,G⟩ G)))))))
  ·have p:lA g.co++[42]++([120]++Lib.decDigits g.va.toNat)=tl g:=(if_neg R).symm
   refine ap (J H (U (v:=S [49]) H (cu R Hn) (O (bT H (ap (J H (U (v:=S [42]) H (nm fZ) (J H (U H (nm mQ) (Z H (O (ap (J H (c H (rc) (c H (Cz) (Y H (D dw H ((s.ai aa).a0 (X.cell (i:=1) H))) (J H (im H Cj H H ((BD (m.mv ((C.ai s).ai aa)) (by rw[p];have K:=ad i;have h2:=H0 ab (show g.va.toNat<100 by omega);omega))) ?_))))))))))))))))))
   rintro aL aO x
   have a1:=x.aL
   refine ax (bE (al (ap (U H cD (J H (ax (ew (i+1) (aP H) ⟨by rw[fi G,xJ,←Q];rw[p] at x;exact x,G⟩ G)))))))
 ·refine ce (aU (aU (cg (al (ah (ah ?_))))))
  obtain rfl:i=f.ts.length:=by omega
  rw[fL] at m
  have ak:=ad f.ts.length
  rw[fL] at ak
  obtain⟨L,hL⟩:∃L,L=f.ts.foldl nu []:=⟨_,rfl⟩
  rw[←hL] at m ak
  have y:jm f=if f.ct.num≠0∨L.length=0 then sT L f.ct.sg (lA f.ct) else L:=by rw[hL];rfl
  have a9:=lh (n:=f.ct.num.natAbs)
  rcases(show f.ct.num≠0∨(f.ct.num=0∧L.length=0)∨(f.ct.num=0∧L.length≠0) by omega) with M|⟨M,hz⟩|⟨M,hz⟩
  ·rw[if_pos (.inl M)] at y
   refine ap (c H (oX) (c H (Gp) (Y H (D aT H (d.a0 (q.cell (i:=2) H))) (aW H (cI aT (A.aL (x1.ai d))) (U H (cu (by show((lb f.ct.num.natAbs).length:Int)>0;omega) cY) (J H (ag H (ag H (bA H (O (bT H (cz 7 [3,46,49,52] am am (W H (bH H (λw b=>oX) (bH H (λw b=>Cz) (aQ H (λw b=>D dw H (b.a0 (d.a0 (q.cell (i:=1) H)))) (bH H (λw b=>oX) (aQ H (λw b=>((q.aL d).aL b).b7 (ms:=[B f.ct.sg,fb,fc]) (o:=1) (jj H) bI H bW) (fP (S:=Is (S (lA f.ct))) FO (cN.is _) H H (λw b=>Ez (hT.aL ((x1.ai d).ai b)) ((bQ.mk (A.aL (x1.ai d)) (ic.aL (x1.ai d))).aL b) G) (cq ?_))))))))))))))))))))
   rintro aY ae _ rfl _ rfl _ rfl _ rfl
   refine im H Cj H H ((BD (m.mv ae) G)) ?_
   rintro v53 aS z
   have a2:=z.aL
   refine bB (aC Cf H H ((Bv z)) ?_)
   rintro aq ar ⟨j,rfl⟩
   have j:=j
   refine Z H (O (aA (aM H ?_)))
   exact⟨_,H,(x1.ai j),by rw[y];rfl⟩
  ·rw[if_pos (.inr hz)] at y
   refine ap (c H (oX) (c H (Gp) (Y H (D aT H (d.a0 (q.cell (i:=2) H))) (aW H (cI aT (A.aL (x1.ai d))) (U H (aX (by show ¬((lb f.ct.num.natAbs).length:Int)>0;omega) cY) (J H (V H (aC qN H H ((qo m)) ?_))))))))
   rintro aN _ ⟨rfl,rfl⟩
   refine V H (U H (cu G aV) (aK H (O (bT H (cz 7 [3,46,49,52] am am (W H (bH H (λw b=>oX) (bH H (λw b=>Cz) (aQ H (λw b=>D dw H (b.a0 (d.a0 (q.cell (i:=1) H)))) (bH H (λw b=>oX) (aQ H (λw b=>((q.aL d).aL b).b7 (ms:=[B f.ct.sg,fb,fc]) (o:=1) (jj H) bI H bW) (fP (S:=Is (S (lA f.ct))) FO (cN.is _) H H (λw b=>Ez (hT.aL ((x1.ai d).ai b)) ((bQ.mk (A.aL (x1.ai d)) (ic.aL (x1.ai d))).aL b) G) (cq ?_)))))))))))))
   rintro aY ae _ rfl _ rfl _ rfl _ rfl
   refine im H Cj H H ((BD (m.mv ae) G)) ?_
   rintro v53 aS z
   have a2:=z.aL
   refine bB (aC Cf H H ((Bv z)) ?_)
   rintro aq ar ⟨j,rfl⟩
   have j:=j
   refine Z H (O (aA (aM H ?_)))
   exact⟨_,H,(x1.ai j),by rw[y];rfl⟩
  ·rw[if_neg (λh=>h.elim (λa=>a M) hz)] at y
   refine ap (c H (oX) (c H (Gp) (Y H (D aT H (d.a0 (q.cell (i:=2) H))) (aW H (cI aT (A.aL (x1.ai d))) (U H (aX (by show ¬((lb f.ct.num.natAbs).length:Int)>0;omega) cY) (J H (V H (aC qN H H ((qo m)) ?_))))))))
   rintro aN _ ⟨rfl,rfl⟩
   refine V H (U H (aX G aV) (aK H (O (be H (aH (al (T (aC Cf H H ((Bv m)) ?_))))))))
   rintro aq ar ⟨j,rfl⟩
   have j:=j
   refine Z H (O (aA (aM H ?_)))
   exact⟨_,H,(x1.ai j),by rw[y];rfl⟩
theorem KA:aY Tryz.prog 13:=⟨_,Tryz.func13,am,rfl⟩
theorem getD_in {α:Type} {l:List α} {d:α} (h:i<l.length):l.getD i d=l[i]:=by
 rw[mU,fy h,E0]
def CG (g:gm):List UInt8:=[105,110,112,117,116,115,32]++Lib.decDigits g.inp.toNat++[10]
def AH (g:gm) (j:Nat):List UInt8:=[120]++Lib.decDigits (g.inp+j).toNat++[32,61,32,109,97,120,40,48,44,32]++jm (g.us.getD j zF)++[41,10]
def AG (g:gm) (j:Nat):List UInt8:=[121]++Lib.decDigits j++[32,61,32]++jm (g.os.getD j zF)++[10]
def Bm (g:gm):Nat→List UInt8
 |0=>CG g
 |k+1=>Bm g k++AH g k
def Bl (g:gm):Nat→List UInt8
 |0=>Bm g g.us.length
 |k+1=>Bl g k++AG g k
def H3 (g:gm):List UInt8:=Bl g g.os.length
theorem Mz {g:gm} (a:0≤g.inp) (h:g.inp<100):(CG g).length≤100:=by
 have b:=sO 2 g.inp.toNat G
 have c:=Lib.decDigits_length g.inp.toNat
 unfold CG
 simp only[cr,cw,c8];omega
theorem M3 {g:gm} (a:nT g) (i:g.inp+g.us.length<100) (b:j<g.us.length):(AH g j).length≤1500000100:=by
 obtain⟨c,d⟩:=a.us j b
 have k0:=a.i0
 have e:=Bk c G d
 have f:=sO 2 (g.inp+j).toNat G
 have h:=Lib.decDigits_length (g.inp+j).toNat
 unfold AH
 rw[getD_in b]
 simp only[cr,cw,c8];omega
theorem M2 {g:gm} (a:nT g) (c:g.inp+g.us.length<100) (k:g.os.length<100) (b:j<g.os.length):(AG g j).length≤1500000100:=by
 obtain⟨d,e⟩:=a.os g.os[j] (eK _)
 have f:=Bk d c e
 have h:=sO 2 j G
 have i:=Lib.decDigits_length j
 unfold AG
 rw[getD_in b]
 simp only[cr,cw,c8];omega
theorem H4 {g:gm} (a:nT g) (b:g.inp+g.us.length<100):∀k,k≤g.us.length→(Bm g k).length≤100+k*1500000100
 |0,_=>by have:=a.i0;exact cf (Mz G G) G
 |k+1,h=>by
  have c:=H4 a b k G
  have d:=M3 a b (show k<g.us.length by omega)
  rw[Bm,cr];omega
theorem Pt {g:gm} (a:nT g) (b:g.inp+g.us.length<100) (c:g.os.length<100):∀k,k≤g.os.length→(Bl g k).length≤100+(g.us.length+k)*1500000100
 |0,_=>H4 a b _ (bV _)
 |k+1,h=>by
  have d:=Pt a b c k G
  have e:=M2 a b c (show k<g.os.length by omega)
  rw[Bl,cr];omega
theorem IE {g:gm} (hT:kV w) (hv:bR iC g v w) (d:nT g) (l:g.inp+g.us.length<100) (ho:g.os.length<100):
 Calls Tryz.prog 13 #[v] w (aJ λr w'=>ao w w'∧Is (S (H3 g)) r w'):=by
 have a5:=d.i0
 have hU:=λk C=>H4 d l k C
 have hO:=λk C=>Pt d l ho k C
 have a3:=sO 2 g.inp.toNat G
 have a4:=Lib.decDigits_length g.inp.toNat
 have hH:=Mz (g:=g) G G
 obtain⟨_,rfl,ra⟩:=hv
 obtain⟨gu,go,rfl,K,F⟩:=jX ra
 refine enter (vs:=[.agg #[I g.inp,gu,go]]) Tryz.func13 H H H (T (cE H H λg1 w1 l1 x1 q=>(Z H (O (ah (T (Y H (q.ld ij H fE) (aC FK H H ((En (bR.mk (jK (K.aL x1) (F.aL x1))) d)) ?_))))))))
 rintro v9 L ⟨b,rfl⟩
 refine cP H cW (O (be H (aH (al (T ?_)))))
 obtain⟨t,w3,aD,Q⟩:=Nv (w:=L)
 refine fY H aD ?_
 have x3:=Q.aL
 refine bB (c H (oh) (Y H (D aE H ((b.ai x3).a0 (q.cell (i:=0) H))) (aC Ci H H ((Ew G G)) ?_)))
 rintro a6 bd ⟨aV,rfl⟩
 refine U (u:=S [105,110,112,117,116,115,32]) H (nm fZ) (U (v:=S [10]) H (nm mQ) (aC rZ H H ((rJ (m:=CG g) (Q.mv aV) (by rw[c8];omega))) ?_))
 rintro a7 bf N
 have an:=N.aL
 refine O (ah (T (c H (kZ) (Y H (D cO H ((b.ai an).a0 (q.cell (i:=1) H))) (aW H (bP cO (K.aL ((x1.ai b).ai an))) (J H (O (aR (eg (α:=Nat) (λi=>[(1,.pointer (some ⟨g1,0,none⟩)),(3,.pointer (some ⟨t,0,none⟩)),(18,gu),(19,I (g.us.length:Int)),(20,I (i:Int))]) (λi w'=>mR L t (Bm g i) w'∧i≤g.us.length) (λi=>g.us.length-i) (0) (aP H) ⟨N,G⟩ ?_)))))))))
 rintro i wL ⟨x,hi⟩
 refine ah ?_
 have o:=x.aL
 refine ap (U H (bO) (O (ah (bc H (λaq=>?_) (λaq=>?_)))))
 ·refine aH (al (ah (aR (T (J H ?_)))))
  obtain⟨aZ,a1,aK,aO,aj⟩:=bX (P:=Tryz.prog) (sz:=4) cO am gD G (K.aL ((x1.ai b).ai o)) (i:=i) (G) .i64
  obtain⟨X,z⟩:∃e,e=g.us[i]'G:=⟨_,rfl⟩
  rw[←z] at aj
  obtain⟨bm,bo,bp,rfl,ab,ad,ae⟩:=ey aj
  refine bF H (aK _) ?_
  obtain⟨h,j⟩:=d.us i G
  rw[←z] at h j
  have aF:=Bk h G j
  have au:=sO 2 (g.inp+i).toNat G
  have av:=Lib.decDigits_length (g.inp+i).toNat
  have aw:=hU i hi
  have hm:(g.us.length:Nat)<100:=G
  have ax:i*1500000100≤100*1500000100:=fH _ G
  have p:[120]++Lib.decDigits (g.inp+i).toNat++[32,61,32,109,97,120,40,48,44,32]++jm X++[41,10]=AH g i:=by unfold AH;rw[getD_in (show i<g.us.length by omega),←z]
  refine Y H (aO.ld dx H cL) (cM iX H λg5 w5 l5 x5 k5=>(Z H (cl H H k5 H cL (ay.a1 ab.one (ay.a1 H (ay.a1 ad.one (ay.a1 ae.one ay.nil)))) λbj aT aI=>?_)))
  have n:=ao.a2 (x5) aT l5
  refine O (cz 11 [1,3,18,19,20,35] am am (bH H (λw a=>oh) (aQ H (λw a=>D aE H (a.a0 (((b.ai o).ai n).a0 (q.cell (i:=0) H)))) (W H (bn H (λw _=>dB) (fP (S:=Is (S (Lib.decDigits (g.inp+i).toNat))) Ci (cN.is _) H H (λw a=>Ew G G) (bn (u:=S [120]) H (λw _=>nm fZ) (bn (v:=S [32,61,32,109,97,120,40,48,44,32]) H (λw _=>nm mQ) (aQ H (λw a=>(aI.aL a).ld dx H cL) (fP (S:=Is (S (jm X))) FP (cN.is _) H H (λw a=>EA (hT.aL (((((x1.ai b).ai o).ai n)).ai a)) ((bR.mk (eX (ab.aL n) (ad.aL n) (ae.aL n))).aL a) h G j) (bn H (λw _=>nm mQ) (bn (v:=S [41,10]) H (λw _=>nm mQ) (cq ?_)))))))))))))
  rintro bl aY _ rfl _ rfl _ az
  obtain rfl:=bU az
  rintro _ rfl _ rfl _ rfl
  refine aC rZ H H ((rJ (x.mv (n.ai aY)) (by rw[p];have:=M3 d l (show i<g.us.length by omega);omega))) ?_
  rintro a8 bg R
  refine f (bE (al (ap (U H cD (J H (f (ew (i+1) (aP H) ⟨by rw[p] at R;exact R,G⟩ G)))))))
 ·refine ce (aU (aU (cg (al (ah (ah ?_))))))
  obtain rfl:i=g.us.length:=by omega
  refine ap (c H (qY) (Y H (D cO H ((b.ai o).a0 (q.cell (i:=2) H))) (aW H (bP cO (F.aL ((x1.ai b).ai o))) (J H (O (aR (eg (α:=Nat) (λi=>[(3,.pointer (some ⟨t,0,none⟩)),(39,go),(40,I (g.os.length:Int)),(41,I (i:Int))]) (λi w'=>mR L t (Bl g i) w'∧i≤g.os.length) (λi=>g.os.length-i) (0) (aP H) ⟨x,G⟩ ?_)))))))
  rintro i wM ⟨y,hi⟩
  refine ah ?_
  have eM:=y.aL
  refine ap (U H (bO) (O (ah (bc H (λar=>?_) (λar=>?_)))))
  ·refine aH (al (ah (aR (T (J H ?_)))))
   obtain⟨a0,a2,aL,aS,ak⟩:=bX (P:=Tryz.prog) (sz:=4) cO am gD G (F.aL ((x1.ai b).ai eM)) (i:=i) (G) .i64
   obtain⟨aa,A⟩:∃e,e=g.os[i]'G:=⟨_,rfl⟩
   rw[←A] at ak
   obtain⟨bq,br,bs,rfl,af,ag,ai⟩:=ey ak
   refine bF H (aL _) ?_
   obtain⟨h,j⟩:=d.os g.os[i] (eK _)
   rw[←A] at h j
   have aF:=Bk h l j
   have au:=sO 2 i G
   have av:=Lib.decDigits_length i
   have aw:=hO i hi
   have ax:(g.us.length+i)*1500000100≤200*1500000100:=fH _ G
   have p:[121]++Lib.decDigits i++[32,61,32]++jm aa++[10]=AG g i:=by unfold AG;rw[getD_in (show i<g.os.length by omega),←A]
   refine Y H (aS.ld dx H cL) (cM iX H λg7 w7 l7 x7 k7=>(Z H (cl H H k7 H cL (ay.a1 af.one (ay.a1 H (ay.a1 ag.one (ay.a1 ai.one ay.nil)))) λbb aN aG=>?_)))
   have s:=ao.a2 (x7) aN l7
   refine O (cz 8 [3,39,40,41,53] am am (W H (fP (S:=Is (S (Lib.decDigits i))) Ci (cN.is _) H H (λw a=>IK G) (bn (u:=S [121]) H (λw _=>nm fZ) (bn (v:=S [32,61,32]) H (λw _=>nm mQ) (aQ H (λw a=>(aG.aL a).ld dx H cL) (fP (S:=Is (S (jm aa))) FP (cN.is _) H H (λw a=>EA (hT.aL (((((x1.ai b).ai eM).ai s)).ai a)) ((bR.mk (eX (af.aL s) (ag.aL s) (ai.aL s))).aL a) h l j) (bn H (λw _=>nm mQ) (bn (v:=S [10]) H (λw _=>nm mQ) (cq ?_))))))))))
   rintro bk aX _ rfl _ aB
   obtain rfl:=bU aB
   rintro _ rfl _ rfl _ rfl
   refine aC rZ H H ((rJ (y.mv (s.ai aX)) (by rw[p];have:=M2 d l ho (show i<g.os.length by omega);omega))) ?_
   rintro a9 bh V
   refine f (bE (al (ap (U H cD (J H (f (ew (i+1) (aP H) ⟨by rw[p] at V;exact V,G⟩ G)))))))
  ·refine ce (aU (aU (cg (al (ah ?_)))))
   obtain rfl:i=g.os.length:=by omega
   refine ap (aC Cf H H ((Bv y)) ?_)
   rintro ba bi ⟨M,rfl⟩
   have M:=M
   refine Z H (O (aA (aM H ?_)))
   exact⟨_,H,((x1.ai b).ai M),H⟩
def zR:cm:=⟨1,0,2,0,0,0,0,[1,-1],[0,0]⟩
def zS:cm:=⟨5,0,0,0,0,0,0,[],[]⟩
def zT:cm:=⟨1,0,1,0,0,0,0,[1,1],[0]⟩
def gH:gF:=⟨[1],[zR,zS,zT]⟩
def Fx:List (List Int):=[[2],[2],[1]]
def lP:gm:=⟨1,[⟨[⟨0,1⟩],0⟩,⟨[⟨0,-1⟩],0⟩],[⟨[⟨1,1⟩,⟨2,1⟩],0⟩]⟩
theorem SS:rg gH Fx=lP:=by decide+kernel
theorem SX:gl gH.ba=true:=by decide+kernel
theorem SU:(lP.os.map λf:bj=>jL (gy [-3] lP.us lP.us.length).1 f.ts f.ct)=[3]:=by decide+kernel
theorem Kc:mh gH Fx where
 v:=SX
 n:=by decide
 b:=λl a=>by
  have h:l=zR∨l=zS∨l=zT:=by simpa [gH] using a
  rcases h with rfl|rfl|rfl<;>exact⟨aF,aF,aF,aF,aF,aF,aF,by decide+kernel,by decide+kernel⟩
 i0:=by decide
 p:=⟨aF,λi l hi a=>by
  have c:i<3:=hi
  rcases(show i=0∨i=1∨i=2 by omega) with rfl|rfl|rfl
  ·obtain rfl:zR=l:=by simpa [gH] using a
   exact⟨by decide+kernel,aF,aF,aF,.inl ⟨H,by decide+kernel,H⟩⟩
  ·obtain rfl:zS=l:=by simpa [gH] using a
   exact⟨by decide+kernel,aF,aF,aF,.inr (.inr (.inr (.inl ⟨H,H⟩)))⟩
  ·obtain rfl:zT=l:=by simpa [gH] using a
   exact⟨by decide+kernel,aF,aF,aF,.inl ⟨H,by decide+kernel,H⟩⟩⟩
 l:=rfl
 s0:=by decide
 ss:=λs hs=>by
  have h:s=[2]∨s=[1]:=by simpa [Fx] using hs
  rcases h with rfl|rfl<;>decide
 u:=by decide
theorem Ka:nT lP where
 i0:=by decide
 i1:=by decide
 ul:=by decide
 o0:=by decide
 o1:=by decide
 us:=λj h=>by
  have b:j<2:=h
  rcases(show j=0∨j=1 by omega) with rfl|rfl
  ·show jk ⟨[⟨0,1⟩],0⟩ (1+((0:Nat):Int))=true∧(fR ⟨[⟨0,1⟩],0⟩≤1048576∧1≤48)
   decide+kernel
  ·show jk ⟨[⟨0,-1⟩],0⟩ (1+((1:Nat):Int))=true∧(fR ⟨[⟨0,-1⟩],0⟩≤1048576∧1≤48)
   decide+kernel
 os:=λf a=>by
  obtain rfl:f=⟨[⟨1,1⟩,⟨2,1⟩],0⟩:=by simpa [lP] using a
  exact⟨by decide+kernel,by decide+kernel,aF⟩
theorem SR (k:Nat) (b:k≤lP.us.length) (y:Rat) (c:y∈(gy [-3] lP.us k).1):bt y≤1000:=by
 have a:k≤2:=b
 have h:∀k,k≤2→∀y∈(gy [-3] lP.us k).1,bt y≤1000:=by decide+kernel
 exact h k a y c
theorem SV (k:Nat) (b:k<lP.us.length):bt (jL (gy [-3] lP.us k).1 (lP.us.getD k zF).ts (lP.us.getD k zF).ct)≤1000:=by
 have a:k<2:=b
 have h:∀k,k<2→bt (jL (gy [-3] lP.us k).1 (lP.us.getD k zF).ts (lP.us.getD k zF).ct)≤1000:=by decide+kernel
 exact h k a
theorem V2:kr 1=[49]:=by
 rw[kr,if_neg aF,yn aF,show 1/1000000000=0 from rfl,yo,List.reverse_cons,List.reverse_nil,qB,Lib.join_one,qT,if_pos aF,show 1%1000000000=1 from rfl,Lib.decDigits_one aF]
 rfl
theorem Pd {x:Rat} (a:x.num.natAbs=1) (b:x.den=1):lA x=[49]:=by
 rw[lA,a,V2,if_pos b,jU]
theorem aan:jm ⟨[⟨0,1⟩],0⟩=[120,48]:=by
 have h:tl ⟨0,1⟩=[120,48]:=by
  rw[tl,if_pos (Pd (by decide+kernel) (by decide+kernel))]
  show[120]++Lib.decDigits 0=_
  rw[Lib.decDigits_one aF];rfl
 have a:([⟨0,1⟩]:List cX).foldl nu []=[120,48]:=by
  show nu [] ⟨0,1⟩=_
  rw[nu,h];decide+kernel
 rw[jm,a,if_neg (by decide+kernel)]
theorem aao:jm ⟨[⟨0,-1⟩],0⟩=[45,120,48]:=by
 have h:tl ⟨0,-1⟩=[120,48]:=by
  rw[tl,if_pos (Pd (by decide+kernel) (by decide+kernel))]
  show[120]++Lib.decDigits 0=_
  rw[Lib.decDigits_one aF];rfl
 have a:([⟨0,-1⟩]:List cX).foldl nu []=[45,120,48]:=by
  show nu [] ⟨0,-1⟩=_
  rw[nu,h];decide+kernel
 rw[jm,a,if_neg (by decide+kernel)]
theorem TO:aY Tryz.prog 235:=⟨_,Tryz.func235,am,rfl⟩
theorem TS:aY Tryz.prog 245:=⟨_,Tryz.func245,am,rfl⟩
theorem TP:aY Tryz.prog 244:=⟨_,Tryz.func244,am,rfl⟩
theorem TR:aY Tryz.prog 243:=⟨_,Tryz.func243,am,rfl⟩
def tG (ws xs:List Rat) (b:Rat) (r:Nat):Nat→Rat
 |0=>b
 |k+1=>tG ws xs b r k+ws.getD (r*xs.length+k) 0*xs.getD k 0
def uE (ws bs xs:List Rat) (n:Nat):List Rat:=(List.range n).map λr=>tG ws xs (bs.getD r 0) r xs.length
theorem V4 {b a xs:List Rat}:uE b a xs (n+1)=uE b a xs n++[tG b xs (a.getD n 0) n xs.length]:=by
 unfold uE
 rw[BI,mg];rfl
theorem QD {l:cm} {xs:List Rat} {x iv:Value} (hx:aD dQ l.ws x w) (Q:aD dQ l.bs y w) (z:aD dQ xs xv w) (hB:l.bs.length≤1000000) (hW:l.ws.length=l.bs.length*xs.length) (aZ:∀q∈l.ws,bt q≤1000) (a0:∀q∈xs,bt q≤1000) (aX:∀r k,r<l.bs.length→k≤xs.length→bt (tG l.ws xs (l.bs.getD r 0) r k)≤1000):
 Calls Tryz.prog 235 #[.agg #[I l.kd,I l.fr,I l.ou,I l.kh,I l.kw,I l.sr,I l.pd,x,y,sv,xv,iv,tv]] w (aJ λr w'=>ao w w'∧aD dQ (uE l.ws l.bs xs l.bs.length) r w'):=by
 have bu:=Q.len
 have bx:=z.len
 have bw:=hx.len
 refine enter (vs:=[.agg #[I l.kd,I l.fr,I l.ou,I l.kh,I l.kw,I l.sr,I l.pd,x,y,sv,xv,iv,tv]]) Tryz.func235 H H H (T (cE H H λg1 w1 l1 x1 A=>(Z H (bB (Z H (bB (c H (Au) (Y H (D cn H (A.cell (i:=10) H)) (aW H (bP cn (z.aL x1)) (Z H (O (ah (T (c H (As) (c H (lc) (Y H (D cn H (A.cell (i:=8) H)) (aW H (bP cn (Q.aL x1)) (J H (O (aR (fp (λ(i:Nat) (o:Value)=>[(1,.pointer (some ⟨g1,0,none⟩)),(3,o),(4,I (xs.length:Int)),(14,y),(15,I (l.bs.length:Int)),(16,I (i:Int))]) (λ(i:Nat) (o:Value) w'=>ao w1 w'∧i≤l.bs.length∧jG w1.heap.size (uE l.ws l.bs xs i) o w') (λ(i:Nat) (o:Value)=>l.bs.length-i) (0) (.slice none 0 0) (aP H) ⟨ao.refl _,G,bC.nil _⟩ ?_)))))))))))))))))))))
 rintro i o wA ⟨g,hi,K⟩
 refine ah ?_
 obtain⟨F,v⟩:∃F,F=uE l.ws l.bs xs i:=⟨_,rfl⟩
 rw[←v] at K
 have bq:F.length=i:=by rw[v];simp[uE]
 refine ap (U H (bO) (O (ah (bc H (λaB=>?_) (λaB=>?_)))))
 ·refine aH (al (ah (aR (T (J H ?_)))))
  obtain⟨bi,bl,a5,a8,aj⟩:=bX (P:=Tryz.prog) (sz:=3) cn am px G (Q.aL (x1.ai g)) (i:=i) (G) .i64
  obtain⟨aw,aq⟩:∃e,e=l.bs[i]'G:=⟨_,rfl⟩
  rw[←aq] at aj
  obtain⟨be,bf,rfl,aa,ab⟩:=od aj
  refine bF H (a5 _) (Y H (a8.ld bI H bW) (cM iH H λg6 w6 l6 x6 k6=>(Z H (cl H H k6 H bW (ay.a1 H (ay.a1 aa.one (ay.a1 ab.one ay.nil))) λbK bb a1=>?_))))
  have u:=ao.a2 (x6) bb l6
  refine O (ah (T (c H (Au) (Y H (D cn H ((g.ai u).a0 (A.cell (i:=10) H))) (aW H (bP cn (z.aL ((x1.ai g).ai u))) (J H (O (aR (pv (λ(k:Nat) (s:Rat) (sa:Value) (n:Value)=>[(1,.pointer (some ⟨g1,0,none⟩)),(3,o),(4,I (xs.length:Int)),(5,I (i:Int)),(6,.pointer (some ⟨g6,0,none⟩)),(14,y),(15,I (l.bs.length:Int)),(16,I (i:Int)),(22,xv),(23,I (xs.length:Int)),(24,I (k:Int))]) (λ(k:Nat) (s:Rat) (sa:Value) (n:Value) w'=>ao wA w'∧k≤xs.length∧s=tG l.ws xs (l.bs.getD i 0) i k∧bm g6 49 [B s.sg,sa,n] w'∧aO s.nl sa w'∧aO s.dl n w') (λ(k:Nat) (s:Rat) (sa:Value) (n:Value)=>xs.length-k) (0) (aw) (be) (bf) (aP H) ⟨u,G,by rw[aq];exact(getD_in G).symm,a1,(aa.aL u),(ab.aL u)⟩ ?_)))))))))
  rintro k s sa n wL ⟨h,hk,hs,C,R,V⟩
  refine ah ?_
  have L:=K.aL h
  refine ap (U H (bO) (O (ah (bc H (λaC=>?_) (λaC=>?_)))))
  ·refine aH (al (ah (aR (T (J H ?_)))))
   obtain⟨bj,bo,a6,a9,ak⟩:=bX (P:=Tryz.prog) (sz:=3) cn am px G (z.aL ((x1.ai g).ai h)) (i:=k) (G) .i64
   obtain⟨j,M⟩:∃e,e=xs[k]'G:=⟨_,rfl⟩
   rw[←M] at ak
   obtain⟨bR,bS,rfl,ad,ae⟩:=od ak
   refine bF H (a6 _) ?_
   have aI:i*xs.length+k<l.ws.length:=by rw[hW];exact eT (Nat.add_lt_add_left (show k<xs.length by omega) _) (by rw[←nZ];exact fH _ (show i+1≤l.bs.length by omega))
   have aG:=aX i k G hk
   rw[←hs] at aG
   have br:=a0 j (by rw[M];exact eK _)
   refine Y H (a9.ld bI H bW) (cM iH H λg8 w8 l8 x8 k8=>(Z H (cl H H k8 H bW (ay.a1 H (ay.a1 ad.one (ay.a1 ae.one ay.nil))) λbL bd a2=>?_)))
   have d:=ao.a2 (x8) bd l8
   refine O (cz 14 [1,3,4,5,6,14,15,16,22,23,24,42] am am (aQ H (λw b=>((C.aL d).aL b).ld bI H bW) (bH H (λw b=>As) (bH H (λw b=>gJ) (aQ H (λw b=>D cn H (b.a0 (((g.ai h).ai d).a0 (A.cell (i:=7) H)))) (W H (W H (bn (r:=I ((i*xs.length:Nat):Int)) H (λw _=>by have e:((i*xs.length:Nat):Int)=(i:Int)*(xs.length:Int):=G;rw[e];exact dh G G) (W H (sF (r:=I (((i*xs.length:Nat)+k:Nat):Int)) H H H (λw _=>by have e:(((i*xs.length:Nat)+k:Nat):Int)=((i*xs.length:Nat):Int)+(k:Int):=G;rw[e];exact dB) ?_))))))))))
   obtain⟨bk,bp,a7,ba,an⟩:=bX (P:=Tryz.prog) (sz:=3) cn am px G (hx.aL (((x1.ai g).ai h).ai d)) (i:=((i*xs.length:Nat)+k:Nat)) G .i64
   obtain⟨m,N⟩:∃e,e=l.ws[((i*xs.length:Nat)+k:Nat)]'G:=⟨_,rfl⟩
   rw[←N] at an
   obtain⟨bT,bV,rfl,ax,az⟩:=od an
   refine cF H (λw _=>a7 w) ?_
   have bs:=aZ m (by rw[N];exact eK _)
   have aY:s+m*j=tG l.ws xs (l.bs.getD i 0) i (k+1):=by rw[hs,N,M,tG,getD_in aI,getD_in (show k<xs.length by omega)]
   refine aQ H (λw b=>(ba.aL b).ld bI H bW) (aQ H (λw b=>(a2.aL b).ld bI H bW) ?_)
   have b0:=qK m j
   refine my (S:=QV (m*j)) yf (QV.a3 _) H H H (λw b=>xE ((bQ.mk ax az).aL b) ((bQ.mk (ad.aL d) (ae.aL d)).aL b) G) ?_
   have b1:=vT s (m*j)
   refine eh (S:=QV (s+(m*j))) Cl (QV.a3 _) H (λw b=>by rintro _ rfl bA aE;exact Bu ((bQ.mk (R.aL d) (V.aL d)).aL b) aE G) (cq ?_)
   rintro bN X _ rfl _ aN
   obtain rfl:=bU aN
   rintro _ rfl _ rfl _ rfl _ aK
   obtain rfl:=bU aK
   rintro _ rfl _ rfl _ aL
   obtain rfl:=bU aL
   rintro _ rfl _ rfl _ ⟨bY,bZ,rfl,af,ag⟩
   refine cl H H (C.aL (d.ai X)) H bW (ay.a1 H (ay.a1 af.one (ay.a1 ag.one ay.nil))) λbM au a3=>?_
   have bh:=ao.a2 (((h.ai d).ai X)) au l6
   have ar:=Kq.br (p:=[0,3,3]) (C.aL (d.ai X)) (aS rfl (aS R.kd (aS V.kd dj))) au
   refine f (bE (al (ap (U H cD (J H (f (nK (k+1) (_) (_) (_) (aP H) ⟨bh,G,aY,a3,(af.kq ar),(ag.kq ar)⟩ G)))))))
  ·refine ce (aU (aU (cg (al ?_))))
   obtain rfl:k=xs.length:=by omega
   refine ap (J H (Y H (C.ld bI H bW) ?_))
   obtain⟨v46,bG,aT,t,av⟩:=sK (w:=wL) (lS (a:=s) R V)
   refine dJ (vs:=[(0,.agg #[B s.sg,sa,n])]) H aT ?_
   obtain⟨bD,bJ,aV,a4,ai⟩:=xf (ty:=42) (L.aL t) av fZ (((g.ai h).ai t)).size
   refine dW H aV ?_
   have bg:=ao.a6 (((g.ai h).ai t)) ai ((L.aL t)).ge
   have bz:=((L.aL t)).b3 ai aF
   refine Z H (f (bE (al (ap (U H cD (J H (f (eI (i+1) (_) (aP H) ⟨bg,G,by rw[V4,←v,←hs];exact a4⟩ G))))))))
 ·refine ce (aU (aU (cg (al (ah ?_)))))
  obtain rfl:i=l.bs.length:=by omega
  refine ap (J H (Z H (O (aA (aM H ?_)))))
  exact⟨_,H,(x1.ai g),by rw[←v];exact jG.bY K⟩
def y4 (xs:List Rat):List Rat:=xs.map λx=>max x 0
theorem QI {l:List Rat} {x:Rat} (d:jG w0.heap.size l v w) (m:ao w0 w) (p:QV x u w) (P:bt x≤1000) (N:l.length≤1000000):
 Calls Tryz.prog 245 #[v,u] w (aJ λr w'=>ao w0 w'∧jG w0.heap.size (l++[max x 0]) r w'):=by
 obtain⟨K,L,rfl,q,s⟩:=p
 have Q:bt 0≤10:=by decide+kernel
 refine enter (vs:=[v,.agg #[B x.sg,K,L]]) Tryz.func245 H H H (T (cE H H λM X R b t=>(Z H (bB (J H (Y H (t.ld bI H bW) (dY (r:=.agg #[B false,.slice none 0 0,.slice none 0 0]) H (by exact run_build _ _ _ _ am) (aC KT H H ((Ip (y:=0) (bQ.mk (q.aL b) (s.aL b)) (bQ.mk (aO.nil _) (aO.nil _)) G)) ?_))))))))
 rintro V A ⟨g,⟨D,F,rfl,j,k⟩⟩
 obtain⟨v9,w9,o,h,i⟩:=sK (w:=A) (lS (a:=((max x 0))) j k)
 refine j3 (vs:=[(0,.agg #[B ((max x 0)).sg,D,F])]) H H o ?_
 have c:=(b.ai g).ai h
 have e:=(((m.ai b).ai g).ai h)
 obtain⟨U,W,n,z,f⟩:=xf (ty:=42) (d.aL c) i fZ e.size
 refine dW H n ?_
 have C:=ao.a6 e f ((d.aL c)).ge
 have S:=((d.aL c)).b3 f aF
 refine Z H (O (aA (aM H ?_)))
 exact⟨_,H,C,z⟩
abbrev fR1:FuncId:=245
theorem QE {xs:List Rat} (n:aD dQ xs v w) (t:∀q∈xs,bt q≤1000) (N:xs.length≤1000000):
 Calls Tryz.prog 244 #[.slice none 0 0,v,.func (.func fR1) #[] #[]] w (aJ λr w'=>ao w w'∧jG w.heap.size (y4 xs) r w'):=by
 refine enter (vs:=[.slice none 0 0,v,.func (.func fR1) #[] #[]]) Tryz.func244 H H H (T (Z H (O (ah (T (J H (aW H (bP cn n) (J H (O (aR (fp (λ(i:Nat) (a:Value)=>[(0,a),(2,.func (.func fR1) #[] #[]),(9,v),(10,I (xs.length:Int)),(11,I (i:Int))]) (λ(i:Nat) (a:Value) w'=>ao w w'∧i≤xs.length∧jG w.heap.size (y4 (xs.take i)) a w') (λ(i:Nat) (a:Value)=>xs.length-i) (0) (.slice none 0 0) (aP H) ⟨ao.refl _,G,bC.nil _⟩ ?_)))))))))))
 rintro i a V ⟨c,hi,d⟩
 refine T (U H (bO) (O (ah (bc H (λp=>?_) (λp=>?_)))))
 ·refine aH (al (ah (aR (T ?_))))
  obtain⟨K,L,z,A,m⟩:=bX (P:=Tryz.prog) (sz:=3) cn am px G (n.aL c) (i:=i) (G) .i64
  obtain⟨o,g⟩:∃e,e=xs[i]'G:=⟨_,rfl⟩
  rw[←g] at m
  obtain⟨W,X,rfl,k,l⟩:=od m
  refine bF H (z _) ?_
  have s:=t o (by rw[g];exact eK _)
  refine Y H (A.ld bI H bW) (cM iH H λM S y F x=>cl H H x H bW (ay.a1 H (ay.a1 k.one (ay.a1 l.one ay.nil))) λR C u=>?_)
  have b:=ao.a2 (F) C y
  refine O (ap (J H (J H (Y H (u.ld bI H bW) (im H TS H H ((QI (w0:=w) (d.aL b) (c.ai b) (bQ.mk (k.aL b) (l.aL b)) s (by unfold y4;rw[dN,eS];omega))) ?_)))))
  rintro D Q ⟨h,j⟩
  have h:=h
  refine Z H (f (bE (al (ap (U H cD (J H (f (eI (i+1) (D) (aP H) ⟨h,G,by rw[fi G,←g];unfold y4 at j⊢;rw[mg];exact j⟩ G))))))))
 ·refine ce (aU (aU (cg (al (ah ?_)))))
  obtain rfl:i=xs.length:=by omega
  rw[fL] at d
  refine ap (J H (Z H (O (aA (aM H ?_)))))
  exact⟨_,H,c,d⟩
theorem QJ {xs:List Rat} (d:bm g 230 cs w) (b:cs[10]? =some xv) (f:aD dQ xs xv w) (h:∀q∈xs,bt q≤1000) (e:xs.length≤1000000):
 Calls Tryz.prog 243 #[.pointer (some ⟨g,0,none⟩)] w (aJ λr w'=>ao w w'∧jG w.heap.size (y4 xs) r w'):=by
 refine enter Tryz.func243 H H H (T (Z H (bB (c H (Au) (Y H (D cn H (d.cell (i:=10) b)) (aC TP H H ((QE f h e)) ?_))))))
 rintro v4 w4 ⟨j,a⟩
 refine Z H (O (aA (aM H ?_)))
 exact⟨_,H,j,a⟩
theorem TQ:aY Tryz.prog 161:=⟨_,Tryz.func161,am,rfl⟩
abbrev stA (l:cm) (x y sv xv iv tv:Value):Value:=.agg #[I l.kd,I l.fr,I l.ou,I l.kh,I l.kw,I l.sr,I l.pd,x,y,sv,xv,iv,tv]
abbrev DY (s:Value) (g:Nat):List Value:=[.nilFunc,.func (.func 235) #[s] #[],.func (.func 236) #[s] #[],.func (.func 237) #[] #[.pointer (some ⟨g,0,none⟩)],.func (.func 241) #[] #[.pointer (some ⟨g,0,none⟩)],.func (.func 243) #[] #[.pointer (some ⟨g,0,none⟩)],.func (.func 246) #[s] #[],.func (.func 247) #[s] #[]]
theorem aak (s:Value) (g:Nat):ay (DY s g):=λv a=>by
 simp only[DY,lF,vw,xe] at a
 rcases a with rfl|rfl|rfl|rfl|rfl|rfl|rfl|rfl<;>rfl
def Ar (l:cm) (xs:List Rat):List Rat:=if l.kd=5 then y4 xs else uE l.ws l.bs xs l.bs.length
structure EvO (l:cm) (xs:List Rat):Prop where
 kd:l.kd=1∨l.kd=5
 xb:∀q∈xs,bt q≤1000
 xl:xs.length≤1000000
 bl:l.bs.length≤1000000
 wl:l.kd=1→l.ws.length=l.bs.length*xs.length
 wb:∀q∈l.ws,bt q≤1000
 sb:∀r k,r<l.bs.length→k≤xs.length→bt (tG l.ws xs (l.bs.getD r 0) r k)≤1000
theorem QH {l:cm} {xs:List Rat} {x iv:Value} (p:aD dQ l.ws x w) (q:aD dQ l.bs y w) (j:aD dQ xs xv w) (a:EvO l xs):
 Calls Tryz.prog 161 #[.agg #[I l.kd,I l.fr,I l.ou,I l.kh,I l.kw,I l.sr,I l.pd,x,y,sv,xv,iv,tv]] w (aJ λr w'=>ao w w'∧aD dQ (Ar l xs) r w'):=by
 refine enter (vs:=[.agg #[I l.kd,I l.fr,I l.ou,I l.kh,I l.kw,I l.sr,I l.pd,x,y,sv,xv,iv,tv]]) Tryz.func161 H H H (T (cE H H λg1 w1 L x1 b=>(Z H (bB (Y H (b.ld ut H y5) (lq (us:=[.agg #[I l.kd,I l.fr,I l.ou,I l.kh,I l.kw,I l.sr,I l.pd,x,y,sv,xv,iv,tv]]) (vs:=[]) H H H (Y H (b.ld ut H y5) (lq (us:=[.agg #[I l.kd,I l.fr,I l.ou,I l.kh,I l.kw,I l.sr,I l.pd,x,y,sv,xv,iv,tv]]) (vs:=[]) H H H (lq (us:=[]) (vs:=[.pointer (some ⟨g1,0,none⟩)]) H H H (lq (us:=[]) (vs:=[.pointer (some ⟨g1,0,none⟩)]) H H H (lq (us:=[]) (vs:=[.pointer (some ⟨g1,0,none⟩)]) H H H (Y H (b.ld ut H y5) (lq (us:=[.agg #[I l.kd,I l.fr,I l.ou,I l.kh,I l.kw,I l.sr,I l.pd,x,y,sv,xv,iv,tv]]) (vs:=[]) H H H (Y H (b.ld ut H y5) (lq (us:=[.agg #[I l.kd,I l.fr,I l.ou,I l.kh,I l.kw,I l.sr,I l.pd,x,y,sv,xv,iv,tv]]) (vs:=[]) H H H ?_)))))))))))))))
 refine dY (r:=.agg (DY (stA l x y sv xv iv tv) g1).toArray) H (by exact run_build _ _ _ _ am) ?_
 obtain⟨K,M,n,u,J,s⟩:=iW (P:=Tryz.prog) (w:=w1) (t:=303) (z:=.agg (List.replicate 8 .nilFunc).toArray) (l:=List.replicate 8 .nilFunc) am rfl
 refine fY H n ?_
 obtain⟨N,A,v,k⟩:=s.c0 (P:=Tryz.prog) (t:=303) (m:=DY (stA l x y sv xv iv tv) g1) rfl am (aak _ _)
 refine cZ H A ?_
 have e:=ao.a2 J v u
 refine O (ah ?_)
 rcases a.kd with d|d
 ·refine ap (c H (As) (c H (et) ?_))
  refine Y (r:=I 1) H (D aE H (by rw[←d];exact e.a0 (b.cell (i:=0) H))) (bF H (yW (o:=0) (i:=1) Tryz.underlying303 am aF .i64) (Y H (D Tryz.underlying187 H (k.cell (i:=1) H)) ?_))
  have g:=x1.ai e
  refine im H TO H H ((QD (p.aL g) (q.aL g) (j.aL g) a.bl (a.wl d) a.wb a.xb a.sb)) ?_
  rintro C F ⟨h,f⟩
  refine Z H (O (aA (aM H ?_)))
  exact⟨_,H,(g.ai h),by unfold Ar;first|(rw[if_neg G];exact f)|(rw[if_pos d];exact jG.bY f)⟩
 ·refine ap (c H (As) (c H (et) ?_))
  refine Y (r:=I 5) H (D aE H (by rw[←d];exact e.a0 (b.cell (i:=0) H))) (bF H (yW (o:=0) (i:=5) Tryz.underlying303 am aF .i64) (Y H (D Tryz.underlying187 H (k.cell (i:=5) H)) (im H TR H H ((QJ (b.aL e) H (j.aL (x1.ai e)) a.xb a.xl)) ?_)))
  rintro C F ⟨h,f⟩
  refine Z H (O (aA (aM H ?_)))
  exact⟨_,H,((x1.ai e).ai h),by unfold Ar;first|(rw[if_neg G];exact f)|(rw[if_pos d];exact jG.bY f)⟩
theorem TV:aY Tryz.prog 82:=⟨_,Tryz.func82,am,rfl⟩
theorem TU:aY Tryz.prog 25:=⟨_,Tryz.func25,am,rfl⟩
section
variable {w:World}
instance:eO sn:=⟨.sl (.st [.c 0,.sl (.c 1),.sl (.c 1)]),λa=>kX (f:=dQ) a⟩
theorem Lv (l:List Rat):(sn l).size=1:=rfl
theorem VV {l:List Rat} (h:aD dQ l v w):Rp w (sn l) [v]:=h
theorem MG:(Tryz.prog.info? 42).map (λi=>(i.zero,i.size,i.bytes))=some (some (.slice none 0 0),[3].length,24):=by kernel_rfl
abbrev xW (base:Nat) (l:List (List Rat)):cT:=bC 42 [3] base sn l
theorem dR (a:List Rat):fe [3] (sn a):=yM (λ_=>wZ aF _) (λ_ _=>pk.not aF _)
theorem Yk {base:Nat} {l m:List (List Rat)} {x:Value} (h:xW base l v w) (b:aD sn m x w) (c:l.length+m.length≤1099511627776) (a:base≤w.heap.size):
 ∃r w1,(Builtin.append_ #[156,156] ty #[v,x]).run Tryz.prog w=.ok r w1∧xW base (l++m) r w1∧d9 w w1 v r:=
 bC.c4 vI MG rfl rfl aF G (λ_=>rfl) dR h b G a
theorem xW.bY {base:Nat} {l:List (List Rat)} (h:xW base l v w):aD sn l v w:=h.ds (λ_=>rfl) aF
theorem Xq {a:List Rat} (h:aD dQ a v w):∃r w',(Instr.buildSlice 156 1 #[(0,v)]).run Tryz.prog w=.ok r w'∧ao w w'∧aD sn [a] r w':=by
 obtain⟨A,n,c,rfl⟩:=h.a9
 have f:∀u∈[Value.slice A n c],u.oneCell'=true:=λu g=>by
  obtain rfl:u=.slice A n c:=by simpa using g
  rfl
 obtain⟨r,w',d,b,e,_⟩:=sX (P:=Tryz.prog) (w:=w) (base:=w.heap.size) vI MG [Value.slice A n c] f aj (bV _)
 exact⟨r,w',d,b,Rp.cc (Sl.b2 e) (bG.a1 (VV (h.aL b)) bG.nil) (by simp[Lv]) G⟩
end
structure lD (v:Value) (w:World):Prop where
 a9:∃A n c,v=.slice A n c
 at_:w=w
theorem lD.mk' (h:∃A n c,v=.slice A n c):lD v w:=⟨h,rfl⟩
theorem lD.nil (w:World):lD (.slice none 0 0) w:=⟨⟨_,_,_,rfl⟩,rfl⟩
theorem lD.kd {v:Value} {w:World} (h:lD v w):Go.Rl.kd v=3:=by obtain⟨_,_,_,rfl⟩:=h.a9;rfl
theorem lD.one (h:lD v w):v.oneCell'=true:=by obtain⟨_,_,_,rfl⟩:=h.a9;rfl
theorem lD.aL (h:lD v w) (_:ao w w'):lD v w':=⟨h.a9,rfl⟩
theorem lD.kq (h:lD v w) (_:Kq p w w') (_:True:=trivial):lD v w':=⟨h.a9,rfl⟩
def kY (lays:List cm) (xs:List Rat):Nat→List Rat
 |0=>xs
 |k+1=>Ar (lays.getD k mG) (kY lays xs k)
def qV (lays:List cm) (xs:List Rat) (k:Nat):List (List Rat):=(List.range k).map λi=>kY lays xs (i+1)
theorem Wc {lays:List cm} {xs:List Rat}:qV lays xs (k+1)=qV lays xs k++[kY lays xs (k+1)]:=by
 unfold qV
 rw[BI,mg];rfl
theorem QL {M:gF} {shs:List (List Int)} {xs:List Rat} {x:Value} (V:aD bJ M.inp x w) (hy:aD fS M.lays y w) (z:aD dQ xs u w) (hM:mh M shs) (hl:(xs.length:Int)=cS M.inp) (hE:∀k,k<M.lays.length→EvO (M.lays.getD k mG) (kY M.lays xs k)):
 Calls Tryz.prog 82 #[.agg #[x,y],u] w (aJ λr w'=>ao w w'∧je (aD sn (qV M.lays xs M.lays.length)) (Is (I 0)) r w'):=by
 have bw:=hM.l
 have bu:=hM.n
 refine enter (vs:=[.agg #[x,y],u]) Tryz.func82 H H H (T (cE H H λg2 w2 l2 L k2=>(Z H (Z H (bB (Y H (k2.ld fz H eR) (aC K1 H H ((JI (V.aL L) (hy.aL L) hM)) ?_)))))))
 rintro bx bN ⟨C,⟨bf,_,_,rfl,aL,rfl,rfl⟩⟩
 refine J H (aZ H ov (aZ H ow (aZ H ox (Z H (Z H (Z H (O (ah (T (J H (U H (aX G dZ) (O (be H (aH (al (ah (T (J H (aW H (bP cn (z.aL (L.ai C))) (c H (jt) (Y H (D cd H (C.a0 (k2.cell (i:=0) H))) (aC uy H H ((uf (V.aL (L.ai C)) hM.i0)) ?_))))))))))))))))))))))
 rintro bz aB ⟨R,rfl⟩
 refine U H (aX G dZ) (O (be H (aH (al (T (Z H (bB (c H (jt) (Y H (D cd H ((C.ai R).a0 (k2.cell (i:=0) H))) (J H (J H (dY (r:=.agg #[I 0,I 0,I 0,I 0,I 0,I 0,I 0,.slice none 0 0,.slice none 0 0,x,u,u,.slice none 0 0]) H (by obtain⟨_,_,_,rfl⟩:=z.a9;obtain⟨_,_,_,rfl⟩:=V.a9;exact run_build _ _ _ _ am) (cM aaR H λan bG l10 bh a1=>cl H H a1 H y5 (ay.a1 H (ay.a1 H (ay.a1 H (ay.a1 H (ay.a1 H (ay.a1 H (ay.a1 H (ay.a1 H (ay.a1 H (ay.a1 V.one (ay.a1 z.one (ay.a1 z.one (ay.a1 H ay.nil))))))))))))) λbT bd a4=>?_)))))))))))))
 have aj:=ao.a2 (bh) bd l10
 refine O (ah (T (c H (gE) (Y H (D dP H (((C.ai R).ai aj).a0 (k2.cell (i:=1) H))) ?_))))
 have e1:=((L.ai C).ai R).ai aj
 refine aW H (bP dP (hy.aL e1)) (J H (O (aR (Kr (λ(i:Nat) (l0:cm) (W:Value) (X:Value) (s0:Value) (xv:Value) (tv:Value) (rv:Value)=>[(6,bf),(9,rv),(10,.pointer (some ⟨an,0,none⟩)),(34,y),(35,I (M.lays.length:Int)),(36,I (i:Int))]) (λ(i:Nat) (l0:cm) (W:Value) (X:Value) (s0:Value) (xv:Value) (tv:Value) (rv:Value) w'=>ao aB w'∧i≤M.lays.length∧bm an 230 [I l0.kd,I l0.fr,I l0.ou,I l0.kh,I l0.kw,I l0.sr,I l0.pd,W,X,s0,xv,u,tv] w'∧(lD W w'∧lD X w'∧lD s0 w'∧lD tv w')∧aD dQ (kY M.lays xs i) xv w'∧xW aB.heap.size (qV M.lays xs i) rv w') (λ(i:Nat) (l0:cm) (W:Value) (X:Value) (s0:Value) (xv:Value) (tv:Value) (rv:Value)=>M.lays.length-i) (0) (mG) (.slice none 0 0) (.slice none 0 0) (x) (u) (.slice none 0 0) (.slice none 0 0) (aP H) ⟨aj,G,a4,⟨.nil _,.nil _,.mk' V.a9,.nil _⟩,(z.aL e1),bC.nil _⟩ ?_))))
 rintro i l0 W X s0 xv tv rv wA ⟨eA,hi,g,⟨aQ,aT,ad,av⟩,S,b⟩
 refine ah ?_
 obtain⟨XX,af⟩:∃XX,XX=kY M.lays xs i:=⟨_,rfl⟩
 obtain⟨TT,ab⟩:∃TT,TT=qV M.lays xs i:=⟨_,rfl⟩
 rw[←af] at S
 rw[←ab] at b
 have bt:TT.length=i:=by rw[ab];simp[qV]
 refine ap (U H (bO) (O (ah (bc H (λaN=>?_) (λaN=>?_)))))
 ·refine aH (al (ah (aR (T (J H ?_)))))
  obtain⟨bn,bp,a7,ba,aq⟩:=bX (P:=Tryz.prog) (sz:=9) dP am ym G (hy.aL (((L.ai C).ai R).ai eA)) (i:=i) (G) .i64
  obtain⟨v,ag⟩:∃e,e=M.lays[i]'G:=⟨_,rfl⟩
  rw[←ag] at aq
  obtain⟨aI,aK,rfl,F,K⟩:=yk aq
  refine bF H (a7 _) ?_
  have au:=hE i G
  rw[getD_in (show i<M.lays.length by omega),←ag,←af] at au
  have aw:Ar v XX=kY M.lays xs (i+1):=by rw[kY,getD_in (show i<M.lays.length by omega),←ag,←af]
  refine Y H (ba.ld dG H eJ) (cM xC H λbs bL a5 bk a3=>(Z H (cl H H a3 H eJ (ay.a1 H (ay.a1 H (ay.a1 H (ay.a1 H (ay.a1 H (ay.a1 H (ay.a1 H (ay.a1 F.one (ay.a1 K.one ay.nil))))))))) λbH a9 a2=>?_)))
  have a:=ao.a2 (bk) a9 a5
  refine bB (Y H (a2.ld dG H eJ) (J H (c H (As) (o_sP (cs':=[I v.kd,I v.fr,I v.ou,I v.kh,I v.kw,I v.sr,I v.pd,aI,aK,s0,xv,u,tv]) H H (g.aL a) H eJ (ay.a1 H (ay.a1 H (ay.a1 H (ay.a1 H (ay.a1 H (ay.a1 H (ay.a1 H (ay.a1 F.one (ay.a1 K.one ay.nil))))))))) H λbI h m=>?_))))
  have bi:=ao.a2 ((eA.ai a)) h l10
  have d:=Kq.br (p:=[2,2,2,2,2,2,2,3,3,3,3,3,3]) (g.aL a) (aS rfl (aS rfl (aS rfl (aS rfl (aS rfl (aS rfl (aS rfl (aS aQ.kd (aS aT.kd (aS ad.kd (aS S.kd (aS z.kd (aS av.kd dj))))))))))))) h
  refine c H (We) (jQ H H m ZM b.one H λbK n q=>?_)
  have bj:=ao.a2 (bi) n l10
  have l:=Kq.br (p:=[2,2,2,2,2,2,2,3,3,3,3,3,3]) m (aS rfl (aS rfl (aS rfl (aS rfl (aS rfl (aS rfl (aS rfl (aS F.kd (aS K.kd (aS ad.kd (aS S.kd (aS z.kd (aS av.kd dj))))))))))))) n
  refine bB (Y H (q.ld ut H y5) (aC TQ H H ((QH (((F.aL a).kq d).kq l) (((K.aL a).kq d).kq l) (((S.aL a).kq d).kq l) au)) ?_))
  rintro v46 bQ ⟨j,aa⟩
  refine c H (Au) (jQ H H (q.aL j) ZN aa.one H λbM s N=>?_)
  have aE:=ao.a2 ((bj.ai j)) s l10
  have o:=Kq.br (p:=[2,2,2,2,2,2,2,3,3,3,3,3,3]) (q.aL j) (aS rfl (aS rfl (aS rfl (aS rfl (aS rfl (aS rfl (aS rfl (aS F.kd (aS K.kd (aS ad.kd (aS S.kd (aS z.kd (aS b.kd dj))))))))))))) s
  refine bB (J H (J H ?_))
  obtain⟨bo,bq,a8,bb,ar⟩:=bX (P:=Tryz.prog) (sz:=1) gC am lR G (aL.aL (R.ai aE)) (i:=i) (G) .i64
  obtain⟨br,aO⟩:∃e,e=shs[i]'G:=⟨_,rfl⟩
  rw[←aO] at ar
  obtain⟨bU,rfl,ak⟩:=mi ar
  refine bF H (a8 _) (Y H (D cd H bb.cell0) (c H (Wf) (jQ H H N OY ak.one H λbg Q az=>?_)))
  have aG:=ao.a2 (aE) Q l10
  have A:=Kq.br (p:=[2,2,2,2,2,2,2,3,3,3,3,3,3]) N (aS rfl (aS rfl (aS rfl (aS rfl (aS rfl (aS rfl (aS rfl (aS F.kd (aS K.kd (aS ad.kd (aS aa.kd (aS z.kd (aS b.kd dj))))))))))))) Q
  refine O (ap (J H (c H (Au) (Y H (D cn H (az.cell (i:=10) H)) ?_))))
  obtain⟨bA,bR,aV,t,aM⟩:=Xq (w:=bg) ((aa.kq o).kq A)
  refine dJ (vs:=[(0,v46)]) H aV ?_
  obtain⟨bD,bS,aY,a6,ae⟩:=Yk (ty:=156) ((bC.st dR (bC.st dR ((bC.st dR (bC.st dR (b.aL a) d h (cQ (g.aL a) (b.aL a)).symm aF) l n (cQ m (bC.st dR (b.aL a) d h (cQ (g.aL a) (b.aL a)).symm aF)).symm aF).aL j) o s (cQ (q.aL j) ((bC.st dR (bC.st dR (b.aL a) d h (cQ (g.aL a) (b.aL a)).symm aF) l n (cQ m (bC.st dR (b.aL a) d h (cQ (g.aL a) (b.aL a)).symm aF)).symm aF).aL j)).symm aF) A Q (cQ N (bC.st dR ((bC.st dR (bC.st dR (b.aL a) d h (cQ (g.aL a) (b.aL a)).symm aF) l n (cQ m (bC.st dR (b.aL a) d h (cQ (g.aL a) (b.aL a)).symm aF)).symm aF).aL j) o s (cQ (q.aL j) ((bC.st dR (bC.st dR (b.aL a) d h (cQ (g.aL a) (b.aL a)).symm aF) l n (cQ m (bC.st dR (b.aL a) d h (cQ (g.aL a) (b.aL a)).symm aF)).symm aF).aL j)).symm aF)).symm aF).aL t) aM fZ ((aG.ai t)).size
  refine dW H aY ?_
  have bl:=ao.a6 ((aG.ai t)) ae (((bC.st dR (bC.st dR ((bC.st dR (bC.st dR (b.aL a) d h (cQ (g.aL a) (b.aL a)).symm aF) l n (cQ m (bC.st dR (b.aL a) d h (cQ (g.aL a) (b.aL a)).symm aF)).symm aF).aL j) o s (cQ (q.aL j) ((bC.st dR (bC.st dR (b.aL a) d h (cQ (g.aL a) (b.aL a)).symm aF) l n (cQ m (bC.st dR (b.aL a) d h (cQ (g.aL a) (b.aL a)).symm aF)).symm aF).aL j)).symm aF) A Q (cQ N (bC.st dR ((bC.st dR (bC.st dR (b.aL a) d h (cQ (g.aL a) (b.aL a)).symm aF) l n (cQ m (bC.st dR (b.aL a) d h (cQ (g.aL a) (b.aL a)).symm aF)).symm aF).aL j) o s (cQ (q.aL j) ((bC.st dR (bC.st dR (b.aL a) d h (cQ (g.aL a) (b.aL a)).symm aF) l n (cQ m (bC.st dR (b.aL a) d h (cQ (g.aL a) (b.aL a)).symm aF)).symm aF).aL j)).symm aF)).symm aF).aL t)).ge
  have ai:=(((bC.st dR (bC.st dR ((bC.st dR (bC.st dR (b.aL a) d h (cQ (g.aL a) (b.aL a)).symm aF) l n (cQ m (bC.st dR (b.aL a) d h (cQ (g.aL a) (b.aL a)).symm aF)).symm aF).aL j) o s (cQ (q.aL j) ((bC.st dR (bC.st dR (b.aL a) d h (cQ (g.aL a) (b.aL a)).symm aF) l n (cQ m (bC.st dR (b.aL a) d h (cQ (g.aL a) (b.aL a)).symm aF)).symm aF).aL j)).symm aF) A Q (cQ N (bC.st dR ((bC.st dR (bC.st dR (b.aL a) d h (cQ (g.aL a) (b.aL a)).symm aF) l n (cQ m (bC.st dR (b.aL a) d h (cQ (g.aL a) (b.aL a)).symm aF)).symm aF).aL j) o s (cQ (q.aL j) ((bC.st dR (bC.st dR (b.aL a) d h (cQ (g.aL a) (b.aL a)).symm aF) l n (cQ m (bC.st dR (b.aL a) d h (cQ (g.aL a) (b.aL a)).symm aF)).symm aF).aL j)).symm aF)).symm aF).aL t)).b3 ae aF
  refine Z H (f (bE (al (ap (U H cD (J H (f ?_)))))))
  have ax:=(az.aL t)
  have a0:=(ax.a4 ae.grown (cQ ax ((bC.st dR (bC.st dR ((bC.st dR (bC.st dR (b.aL a) d h (cQ (g.aL a) (b.aL a)).symm aF) l n (cQ m (bC.st dR (b.aL a) d h (cQ (g.aL a) (b.aL a)).symm aF)).symm aF).aL j) o s (cQ (q.aL j) ((bC.st dR (bC.st dR (b.aL a) d h (cQ (g.aL a) (b.aL a)).symm aF) l n (cQ m (bC.st dR (b.aL a) d h (cQ (g.aL a) (b.aL a)).symm aF)).symm aF).aL j)).symm aF) A Q (cQ N (bC.st dR ((bC.st dR (bC.st dR (b.aL a) d h (cQ (g.aL a) (b.aL a)).symm aF) l n (cQ m (bC.st dR (b.aL a) d h (cQ (g.aL a) (b.aL a)).symm aF)).symm aF).aL j) o s (cQ (q.aL j) ((bC.st dR (bC.st dR (b.aL a) d h (cQ (g.aL a) (b.aL a)).symm aF) l n (cQ m (bC.st dR (b.aL a) d h (cQ (g.aL a) (b.aL a)).symm aF)).symm aF).aL j)).symm aF)).symm aF).aL t)))
  refine Nq (i+1) (v) (aI) (aK) (_) (_) (_) (_) (aP H) ⟨bl,G,a0,⟨.mk' ((((((((F.aL a).kq d).kq l).aL j).kq o).kq A).aL t).kq ai).a9,.mk' ((((((((K.aL a).kq d).kq l).aL j).kq o).kq A).aL t).kq ai).a9,.mk' ak.a9,.mk' b.a9⟩,by rw[←aw];exact((((aa.kq o).kq A).aL t).kq ai),by rw[Wc,←ab,←aw];exact a6⟩ G
 ·refine ce (aU (aU (cg (al (ah ?_)))))
  obtain rfl:i=M.lays.length:=by omega
  refine ap (J H (Z H (Z H (O (aA (dt H ?_))))))
  exact⟨_,H,(((L.ai C).ai R).ai eA),_,_,H,by rw[←ab];exact xW.bY b,H⟩
theorem QK {M:gF} {shs:List (List Int)} {xs:List Rat} {x:Value} (N:aD bJ M.inp x w) (Q:aD fS M.lays y w) (L:aD dQ xs u w) (m:mh M shs) (C:(xs.length:Int)=cS M.inp) (t:∀k,k<M.lays.length→EvO (M.lays.getD k mG) (kY M.lays xs k)) (h0:0<M.lays.length) (z:(kY M.lays xs M.lays.length).length≤1000000):
 Calls Tryz.prog 25 #[.agg #[x,y],u] w (aJ λr w'=>ao w w'∧je (aD dQ (kY M.lays xs M.lays.length)) (Is (I 0)) r w'):=by
 have ag:=m.n
 have v:(qV M.lays xs M.lays.length).length=M.lays.length:=by simp[qV]
 obtain⟨a,g⟩:∃a,a=qV M.lays xs M.lays.length:=⟨_,rfl⟩
 rw[←g] at v
 refine enter (vs:=[.agg #[x,y],u]) Tryz.func25 H H H (T (cE H H λg2 w2 l2 b R=>(Z H (Z H (bB (Y H (R.ld fz H eR) (J H (aC TV H H ((by have h:=QL (N.aL b) (Q.aL b) (L.aL b) m C t;rw[←g] at h;exact h)) ?_))))))))
 rintro aj X ⟨aa,⟨ai,_,rfl,d,rfl⟩⟩
 refine J H (aZ H dm (aZ H dn (Z H (Z H (O (ah (T (J H (U H (aX G dZ) (O (be H (aH (al (ah (T (J H (aW H (bP vI d) (U H (aX G aV) (O (be H (aH (al (T ?_)))))))))))))))))))))))
 obtain⟨ak,ap,F,c,p⟩:=Cc (P:=Tryz.prog) (w:=X) (f:=dQ) cn Gx
 refine dJ (vs:=[]) H F (J H (J H (aW H (bP vI (d.aL c)) (U (r:=I ((a.length-1:Nat):Int)) H (by have e:((a.length-1:Nat):Int)=(a.length:Int)-1:=G;rw[e];exact dM) ?_))))
 obtain⟨ad,ae,V,W,l⟩:=bX (P:=Tryz.prog) (sz:=1) vI am Lv G (d.aL c) (i:=a.length-1) (G) .i64
 obtain⟨j,n⟩:∃e,e=a[a.length-1]'G:=⟨_,rfl⟩
 rw[←n] at l
 obtain⟨ar,rfl,q⟩:=VU l
 refine bF H (V _) (Y H (D cn H W.cell0) ?_)
 have o:j=kY M.lays xs M.lays.length:=by
  obtain⟨k,A⟩:∃k,M.lays.length=k+1:=⟨M.lays.length-1,G⟩
  rw[n]
  simp only[g,A,qV]
  simp
 rw[←o] at z
 have af:([]:List Rat).length+j.length≤1099511627776:=by rw[c8];omega
 obtain⟨an,aq,K,S,s⟩:=xf (ty:=42) p q G (c).size
 refine dW H K ?_
 have ab:=ao.a6 (c) s (p).ge
 refine Z H (Z H (O (aA (dt H ?_))))
 exact⟨_,H,((b.ai aa).ai ab),_,_,H,by rw[←o];exact jG.bY S,H⟩
theorem Kw:aY Tryz.prog 167:=⟨_,Tryz.func167,am,rfl⟩
theorem Uu:aY Tryz.prog 87:=⟨_,Tryz.func87,am,rfl⟩
theorem Us:aY Tryz.prog 88:=⟨_,Tryz.func88,am,rfl⟩
theorem Qx {l:List bj} (a:aD cy l v w) (x:l.length≤1099511627776):
 Calls Tryz.prog 167 #[v] w (aJ λr w'=>ao w w'∧gG w.heap.size l r w'):=by
 have y:=a.len
 obtain⟨A,n,c,rfl⟩:=a.a9
 refine enter Tryz.func167 H H H (T (Z H (O (ah (T (J H (U H (Ds cO) (O (lQ H (λd=>?_) (λd=>?_))))))))))
 ·refine T (Z H (O (aA (aI (aM H ?_)))))
  have k:A=none:=by simpa using d
  have m:l=[]:=by
   have h:=a
   simp only[aD,Rp,List.cons.injEq,Value.slice.injEq,vP] at h
   obtain⟨_,z,t,⟨rfl,rfl,rfl⟩,i,u,_,j,_⟩:=h
   have:=j k
   exact gT (by rw[dN] at i;omega)
  subst m
  exact⟨_,H,ao.refl _,bC.nil _⟩
 ·refine aH (al (T ?_))
  obtain⟨v5,D,o,b,e⟩:=Cc (P:=Tryz.prog) (w:=w) (f:=cy) cO MC
  refine dJ (vs:=[]) H o (J H ?_)
  obtain⟨C,F,p,q,g⟩:=sR (ty:=34) e (a.aL b) dT (b).size
  refine dW H p ?_
  have s:=ao.a6 (b) g (e).ge
  refine Z H (O (aA (aM H ?_)))
  exact⟨_,H,s,by simpa using q⟩
theorem Iw {l:List bj} (b:aD cy l v w) (a:l.length≤1099511627776):
 Calls Tryz.prog 167 #[v] w (aJ λr w'=>ao w w'∧aD cy l r w'):=
 aJ.mono (Qx b a) λ_ _ ⟨e,h⟩=>⟨e,gG.bY h⟩
theorem Ro {g:gm} (R:bR iC g v w) (j:nT g):
 Calls Tryz.prog 87 #[v] w (aJ λr w'=>ao w w'∧bR iC g r w'):=by
 have h3:=j.ul
 have h5:=j.o1
 obtain⟨_,rfl,X⟩:=R
 obtain⟨N,M,rfl,n,m⟩:=jX X
 refine enter (vs:=[.agg #[I g.inp,N,M]]) Tryz.func87 H H H (T (cE H H λg1 w1 l1 x1 h=>cM rG H λg2 w2 V c u=>(O (ah (T (Y H ((h.aL c).ld ij H fE) (aC FK H H ((En (bR.mk (jK (n.aL (x1.ai c)) (m.aL (x1.ai c)))) j)) ?_)))))))
 rintro v4 w4 ⟨d,rfl⟩
 refine cP H cW (O (be H (aH (al (ah (cz 9 [2,15] am am ?_))))))
 have f:=c.ai d
 refine bH H (λw b=>oh) (aQ H (λw b=>D aE H (b.a0 (f.a0 (h.cell (i:=0) H)))) (bH H (λw b=>kZ) (aQ H (λw b=>D cO H (b.a0 (f.a0 (h.cell (i:=1) H)))) (fP (S:=aD cy g.us) Kw (aD.a3 _ _) H H (λw b=>Iw ((n.aL ((x1.ai c).ai d)).aL b) G) (bH H (λw b=>qY) (aQ H (λw b=>D cO H (b.a0 (f.a0 (h.cell (i:=2) H)))) (fP (S:=aD cy g.os) Kw (aD.a3 _ _) H H (λw b=>Iw ((m.aL ((x1.ai c).ai d)).aL b) G) (Aw (S:=λv w=>∃z A:Value,v=.agg #[I g.inp,z,A]∧aD cy g.us z w∧aD cy g.os A w) (λ_ _ _ ⟨_,_,e,L,g1⟩ l=>⟨_,_,e,L.aL l,g1.aL l⟩) H (λw b=>by rintro _ rfl aa P ab Q;have s:=P;have t:=Q;obtain⟨C,n0,J,rfl⟩:=s.a9;obtain⟨F,W,K,rfl⟩:=t.a9;exact⟨_,w,run_build _ _ _ _ am,ao.refl _,.slice C n0 J,.slice F W K,H,s,t⟩) (cq ?_)))))))))
 rintro ae k _ rfl _ ⟨af,ag,rfl,o,q⟩
 refine cl H H (u.aL (d.ai k)) H fE (ay.a1 H (ay.a1 o.one (ay.a1 q.one ay.nil))) λad y U=>?_
 have Z:=ao.a2 ((f.ai k)) y V
 have x:=Kq.br (p:=[2,3,3]) (u.aL (d.ai k)) (aS rfl (aS rfl (aS rfl dj))) y
 refine O (aA (ff H (.cell H (U.ld ij H fE) .nil) ?_))
 exact⟨_,H,(x1.ai Z),bR.mk (jK (a:=g) (o.kq x) (q.kq x))⟩
theorem Rm {g:gm} (L:bR iC g v w) (hl:g.us.length≤1024) (K:∀f∈g.us,f.ts≠[]):
 Calls Tryz.prog 88 #[v] w (aJ λr w'=>ao w w'∧bR iC g r w'):=by
 obtain⟨_,rfl,ra⟩:=L
 obtain⟨C,A,rfl,h,o⟩:=jX ra
 refine enter (vs:=[.agg #[I g.inp,C,A]]) Tryz.func88 H H H (T (cE H H λg1 w1 l1 x1 j=>cM rG H λz w2 R d q=>(O (ah (T (Z H (O (aR (eg (α:=Nat) (λi=>[(1,.pointer (some ⟨g1,0,none⟩)),(2,.pointer (some ⟨z,0,none⟩)),(3,I (i:Int))]) (λi w'=>ao w2 w'∧i≤g.us.length) (λi=>g.us.length-i) (0) (aP H) ⟨ao.refl _,G⟩ ?_)))))))))
 rintro i wL ⟨b,hi⟩
 refine ah (T (J H (c H (kZ) (Y H (D cO H ((d.ai b).a0 (j.cell (i:=1) H))) (aW H (bP cO (h.aL ((x1.ai d).ai b))) (U H (bO) (O (bc H (λF=>?_) (λF=>?_)))))))))
 ·refine aH (al (aR (ah (T (c H (kZ) (Y H (D cO H ((d.ai b).a0 (j.cell (i:=1) H))) ?_))))))
  refine J H ?_
  obtain⟨ab,ad,V,W,m⟩:=bX (P:=Tryz.prog) (sz:=4) cO am gD G (h.aL ((x1.ai d).ai b)) (i:=i) (G) .i64
  obtain⟨k,n⟩:∃e,e=g.us[i]'G:=⟨_,rfl⟩
  rw[←n] at m
  obtain⟨ai,aj,ak,rfl,l,x,y⟩:=ey m
  refine bF H (V _) (Y H (W.ld dx H cL) ?_)
  have hm:=K k (by rw[n];exact eK _)
  have ae:0<k.ts.length:=List.length_pos_iff.2 hm
  refine cM iX H λg4 w4 S x4 N=>cl H H N H cL (ay.a1 l.one (ay.a1 H (ay.a1 x.one (ay.a1 y.one ay.nil)))) λaf X M=>?_
  have u:=ao.a2 (x4) X S
  refine bB (c H (mp) (Y H (D eo H (M.cell (i:=0) H)) (aW H (bP eo (l.aL u)) (U H (aX G aV) (O (be H (aH (al (ap (J H (U H cD (Z H (ax (bE (ew (i+1) (aP H) ⟨(b.ai u),G⟩ G)))))))))))))))
 ·refine ce (aU (aU (cg (al (T (Y H ((j.aL (d.ai b)).ld ij H fE) ?_))))))
  refine cl H H (q.aL b) H fE (ay.a1 H (ay.a1 h.one (ay.a1 o.one ay.nil))) λag t Q=>?_
  have aa:=ao.a2 ((d.ai b)) t R
  have s:=Kq.br (p:=[2,3,3]) (q.aL b) (aS rfl (aS rfl (aS rfl dj))) t
  refine O (aA (ff H (.cell H (Q.ld ij H fE) .nil) ?_))
  exact⟨_,H,(x1.ai aa),bR.mk (jK (a:=g) ((h.aL ((x1.ai d).ai b)).kq s) ((o.aL ((x1.ai d).ai b)).kq s))⟩
section
open Go.Maps (Keyed)
section ops
variable {P:Program} {ops:Array Oper} {Q:eV} {N:Nat} {D:List Deferred} {l:Fr} {w w':World} {rest:List Oper} {d:Nat} {ty:TypeId} {pos:String} {aft:Array Edge}
theorem XW {t:TypeId} {x y z:Operand} {r:Value} (c:ev l x=some u) (d:ev l y=some v) (e:ev l z=some r) (b:(Instr.mapUpdate t u v r).run P w=.ok () w') (k:bK P ops Q N D l w' rest):bK P ops Q N D l w (⟨none,.mapUpdate t x y z,ty,pos,aft,none⟩::rest):=
 G6 (λρ a=>by
  have:execOp ρ ⟨none,.mapUpdate t x y z,ty,pos,aft,none⟩=(do Instr.mapUpdate t (ρ x) (ρ y) (ρ z);pure Next.skip:Sem Next):=rfl
  rw[this,a x _ c,a y _ d,a z _ e,Sem.run_bind,b];rfl) k
end ops
theorem ML:Keyed Tryz.prog 9:=Go.Maps.string_keyed uu
theorem GH {l:List UInt8} (h:l.length≤2000000000):∃x,keyOf Tryz.prog 9 (S l)=some x:=by
 refine⟨.string l,?_⟩
 simp only[keyOf,mapKey,S,Tryz.underlying9]
 rw[if_pos]
 exact cf (show l.length≤2000000000 from h) aF
theorem JH {a b:List UInt8} (h:S a=S b):a=b:=by
 unfold S at h
 injection h with h
 injection h with h
 simpa using aB Array.toList h
structure mX (m:Nat) (T:Nat→List UInt8) (i:Nat) (w:World):Prop where
 out:∃(es:List MapEntry) (c:Nat),w.heap[m]? =some (.map es.toArray c)∧∀e∈es,∃j,j<i∧(T j).length≤2000000000∧e.key=S (T j)
section
variable {w w':World} {m i:Nat} {T:Nat→List UInt8}
theorem mX.new:mX w.heap.size T 0 (w.alloc (.map #[] 0)):=⟨[],0,heap_alloc_new w _,λ_ h=>by cases h⟩
theorem mX.aL (h:mX m T i w) (d:ao w w'):mX m T i w':=by
 obtain⟨es,c,a,b⟩:=h.out
 exact⟨es,c,d.bM a,b⟩
theorem mX.keys {es:List MapEntry} (a:∀e∈es,∃j,j<i∧(T j).length≤2000000000∧e.key=S (T j)):BC Tryz.prog 9 es:=λe b=>by
 obtain⟨j,_,c,h⟩:=a e b
 rw[h];exact GH c
theorem mX.look (h:mX m T i w) {x:List UInt8} (n:x.length≤2000000000) (p:∀j,j<i→T j≠x):(Instr.lookup 235 (.map (some m)) (S x) true).run Tryz.prog w=.ok (.tuple #[I 0,.bool false]) w:=by
 obtain⟨es,c,b,a⟩:=h.out
 obtain⟨q,o⟩:=GH n
 rcases Oa (P:=Tryz.prog) ML Tryz.underlying235 (z:=I 0) am b (mX.keys a) o with⟨_,h,_⟩|⟨j,e,_,_,d,f⟩
 ·exact h
 ·obtain⟨k,l,_,g⟩:=a e (tA d)
  exact absurd (JH (g.symm.ai f)) (p k l)
theorem mX.ins (h:mX m T i w) (g:(T i).length≤2000000000) (q:∀j,j<i→T j≠T i) (v:Value):
 ∃w',(Instr.mapUpdate 235 (.map (some m)) (S (T i)) v).run Tryz.prog w=.ok () w'∧w.grownBy w' (some m)∧mX m T (i+1) w':=by
 obtain⟨es,c,l,b⟩:=h.out
 obtain⟨u,p⟩:=GH g
 obtain⟨w',r,s,t⟩:=N7 (P:=Tryz.prog) ML Tryz.underlying235 l (mX.keys b) p (λe a f=>by
  obtain⟨k,o,_,d⟩:=b e a
  exact q k o (JH (d.symm.ai f))) v
 refine⟨w',r,s,_,_,t,λe a=>?_⟩
 rcases oK.1 a with a|a
 ·obtain⟨k,f,n,d⟩:=b e a
  exact⟨k,G,n,d⟩
 ·obtain rfl:e=_:=by simpa using a
  exact⟨i,G,g,H⟩
end
end
theorem Ux:aY Tryz.prog 89:=⟨_,Tryz.func89,am,rfl⟩
theorem Rt {g:gm} (hT:kV w) (hv:bR iC g v w) (x:nT g) (hn:g.inp+g.us.length<100) (z:∀i j,i<j→j<g.us.length→jm (g.us.getD i zF)≠jm (g.us.getD j zF)):
 Calls Tryz.prog 89 #[v] w (aJ λr w'=>ao w w'∧bR iC g r w'):=by
 have hl:=x.ul
 obtain⟨_,rfl,ra⟩:=hv
 obtain⟨gu,X,rfl,h,C⟩:=jX ra
 refine enter (vs:=[.agg #[I g.inp,gu,X]]) Tryz.func89 H H H (T (cE H H λg1 w1 l1 x1 s=>cM rG H λW w2 l2 d F=>(bB (NB H ?_))))
 have y:mX w2.heap.size (λj=>jm (g.us.getD j zF)) 0 (w2.alloc (.map #[] 0)):=mX.new
 have N:=ao.new w2 (.map #[] 0)
 obtain⟨w8,A⟩:∃w',w'=w2.alloc (.map #[] 0):=⟨_,rfl⟩
 rw[←A] at y N
 rw[←A]
 refine Z H (O (ah (T (Z H (O (aR (eg (α:=Nat) (λi=>[(1,.pointer (some ⟨g1,0,none⟩)),(2,.pointer (some ⟨W,0,none⟩)),(3,.map (some w2.heap.size)),(4,I (i:Int))]) (λi w'=>ao w2 w'∧i≤g.us.length∧mX w2.heap.size (λj=>jm (g.us.getD j zF)) i w') (λi=>g.us.length-i) (0) (aP H) ⟨N,G,y⟩ ?_)))))))
 rintro i wL ⟨b,hi,hM⟩
 refine ah (T (J H (c H (kZ) (Y H (D cO H ((d.ai b).a0 (s.cell (i:=1) H))) (aW H (bP cO (h.aL ((x1.ai d).ai b))) (U H (bO) (O (bc H (λaa=>?_) (λaa=>?_)))))))))
 ·refine aH (al (aR (T (c H (kZ) (Y H (D cO H ((d.ai b).a0 (s.cell (i:=1) H))) ?_)))))
  refine J H ?_
  obtain⟨ag,ai,ad,ae,t⟩:=bX (P:=Tryz.prog) (sz:=4) cO am gD G (h.aL ((x1.ai d).ai b)) (i:=i) (G) .i64
  obtain⟨Q,l⟩:∃e,e=g.us[i]'G:=⟨_,rfl⟩
  rw[←l] at t
  obtain⟨ar,au,av,rfl,R,S,V⟩:=ey t
  refine bF H (ad _) (Y H (ae.ld dx H cL) ?_)
  obtain⟨n,o⟩:=x.us i G
  rw[←l] at n o
  have q:jm Q=jm (g.us.getD i zF):=by rw[l,getD_in]
  have aj:=Bk n G o
  refine aC FP H H ((EA (hT.aL ((x1.ai d).ai b)) (bR.mk (eX R S V)) n G o)) ?_
  rintro ak aq ⟨M,rfl⟩
  refine Z H (O (ah (ah ?_)))
  have u:=hM.aL M
  refine ap (J H (J H (G8 H H H (u.look G λj m=>by rw[q];exact z j i m G) (J H (aZ H (dm) (aZ H (dn) (Z H (Z H (bB (J H (O (be H (aH (al (T (J H (J H (J H ?_))))))))))))))))))
  obtain⟨wM,sM,qM,kM⟩:=u.ins (by rw[←q];omega) (λj m=>z j i m G) (I (i:Int))
  rw[q]
  refine XW H H H sM ?_
  have xM:=ao.a7 (b.ai M) qM λk hk=>by obtain rfl:=cC hk;exact bV _
  refine O (ap (J H (U H cD (Z H (f (bE (ew (i+1) (aP H) ⟨xM,G,kM⟩ G)))))))
 ·refine ce (aU (aU (cg (al (T (Y H ((s.aL (d.ai b)).ld ij H fE) ?_))))))
  refine cl H H (F.aL b) H fE (ay.a1 H (ay.a1 h.one (ay.a1 C.one ay.nil))) λan L ab=>?_
  have af:=ao.a2 ((d.ai b)) L l2
  have K:=Kq.br (p:=[2,3,3]) (F.aL b) (aS rfl (aS rfl (aS rfl dj))) L
  refine O (aA (ff H (.cell H (ab.ld ij H fE) .nil) ?_))
  exact⟨_,H,(x1.ai af),bR.mk (jK (a:=g) ((h.aL ((x1.ai d).ai b)).kq K) ((C.aL ((x1.ai d).ai b)).kq K))⟩
section
variable {P:Program} {Q:eV} {N:Nat} {D:List Deferred}
theorem ZA {α:Type} {Kp:World→World→Prop} {I:List α→World→Prop} {x:Code→List α→World→Prop} (F:∀{A B C:World},Kp A B→Kp B C→Kp A C)
 (O:∀(W:World) (l:Nat) (o o':Obj),w.heap.size≤l→W.heap[l]? =some o→o.isCells=false→o.isWalk=false→Kp W (W.putObj l o')) (M:OwnFrom w.heap.size I) (y:∀c,OwnFrom w.heap.size (x c))
 {f:LoopState→Option Code→Loop} (G:∀s c J D,{f s c with state:=J,pending:=D}=f J D) {L D0:Nat} (p:w.heap.size≤L) (K:w.heap.size≤D0) (T:L≠D0)
 {xs:List α} {z u g:World} (N:Kp z u) (S:u.heap[L]? =some (.loop (f .busy none))) (Q:u.heap[D0]? =some (.deferred (some []))) {e:Exit} {a3:Act} (q:ownPostG w.heap.size Kp I x xs u e a3 g):
 ∃a r i,(match e with|.normal=>a=none|.ret=>a=some .ret|.exit id=>a=some (.exit id)|.goto t=>a=some (.goto t)|_=>False)∧(Instr.endRound L a).run P g=.ok r i∧
  ((r=.bool true∧(I xs i∧i.heap[L]? =some (.loop (f .ready none))∧i.heap[D0]? =some (.deferred (some [])))∧Kp z i)∨
   (r=.bool false∧∃c,x c xs i∧i.heap[L]? =some (.loop (f .done (some c)))∧i.heap[D0]? =some (.deferred (some [])))):=by
 have v:∀(a:Option Code),KeepsFrom w.heap.size u g→
  (Instr.endRound L a).run P g=.ok (.bool a.isNone) (g.putObj L (.loop (f (if a.isNone then .ready else .done) a)))∧g.heap[L]? =some (.loop (f .busy none))∧
  (g.putObj L (.loop (f (if a.isNone then .ready else .done) a))).heap[L]? =some (.loop (f (if a.isNone then .ready else .done) a))∧
  (g.putObj L (.loop (f (if a.isNone then .ready else .done) a))).heap[D0]? =some (.deferred (some [])):=λa d=>by
  have b:=d.same _ _ p S rfl
  have h:=run_endRound (P:=P) a (by rw[b,←G .busy none .busy none])
  rw[G] at h
  exact⟨h,b,World.putObj_heap_same (jB.1 b).1,(World.putObj_heap_other (uj T)).ai (d.same _ _ K Q H)⟩
 cases e with
 |normal=>
  obtain⟨d,R,j⟩:=q
  obtain⟨n,b,m,k⟩:=v none d
  exact⟨none,_,_,H,n,.inl ⟨H,⟨M.putObj _ j p b H,m,k⟩,F (F N R) (O _ _ _ _ p b H H)⟩⟩
 |ret=>
  obtain⟨d,j⟩:=q
  obtain⟨n,b,m,k⟩:=v (some .ret) d
  exact⟨some .ret,_,_,H,n,.inr ⟨H,.ret,(y _).putObj _ j p b H,m,k⟩⟩
 |exit id=>
  obtain⟨d,j⟩:=q
  obtain⟨n,b,m,k⟩:=v (some (.exit id)) d
  exact⟨some (.exit id),_,_,H,n,.inr ⟨H,.exit id,(y _).putObj _ j p b H,m,k⟩⟩
 |goto t=>
  obtain⟨d,j⟩:=q
  obtain⟨n,b,m,k⟩:=v (some (.goto t)) d
  exact⟨some (.goto t),_,_,H,n,.inr ⟨H,.goto t,(y _).putObj _ j p b H,m,k⟩⟩
 |panic ch=>exact q.elim
 |outgrown=>exact q.elim
theorem Ks {α:Type} {g:Operand} {ps:List Tmp} {assign body:Code} {l:Fr} {V:Nat} {lb:Array Value} (hg:ev l g=some (.func (.func V) #[] lb)) (hc:aY P V)
 {encs:α→List Value} {Kp:World→World→Prop} {S Sp:List α→Prop} {M:Nat} (aF:SeqStopsK Fence.wide 1 P V lb (λx=>(encs x).toArray) Kp S Sp M w0)
 (ae:∀{A B C:World},Kp A B→Kp B C→Kp A C) (an:∀{A B:World},w.heap.size≤A.heap.size→ao A B→Kp A B) (ad:∀(W:World) (l:Nat) (o o':Obj),w.heap.size≤l→W.heap[l]? =some o→o.isCells=false→o.isWalk=false→Kp W (W.putObj l o')) (ag:Below w0.heap.size w0 w) (aE:∀x,(encs x).length=ps.length)
 (I:List α→World→Prop) (Z:Code→List α→World→Prop) (O:OwnFrom w.heap.size I) (ab:∀c,OwnFrom w.heap.size (Z c)) (h0:I [] w)
 (A:α→Fr→World→Prop) (hA:∀x fr (W:World) (l:Nat) (o o':Obj),A x fr W→W.heap[l]? =some o→o.isCells=false→A x fr (W.putObj l o')) (ai:(ps.all λp=>Nat.blt p N)=true)
 (au:∀(lp:Nat) (x:α) (W:World) (K:Act→World→Prop),(∀fr q,ao W q→A x fr q→ie (Exit.then K λ_ _ _=>False) N [] fr q)→gN (some lp) P (Exit.then K λ_ _ _=>False) N [] (psF (ps.zip (encs x)) l) W assign)
 (aw:∀(lp:Nat) (b:List α) (x:α) (fr:Fr) (W:World),I b W→A x fr W→b.length<M→gN (some lp) P (ownPostG w.heap.size Kp I Z (b++[x]) W) N [] fr W body)
 (ax:∀(D0:Nat) (xs:List α) (W:World),w.heap.size≤D0→S xs→I xs W→W.heap[D0]? =some (.deferred (some []))→ie Q N (⟨.collected D0,#[]⟩::D) l W)
 (aH:∀(D0:Nat) (c:Code) (b:List α) (W:World),w.heap.size≤D0→Sp b→Z c b W→W.heap[D0]? =some (.deferred (some []))→dS P Q N (⟨.collected D0,#[]⟩::D) l W c):
 dS P Q N D l w (.rangeFunc g ps.toArray assign body):=λa y=>by
 refine(wpIn_wide (n:=2)).1 (wpIn_rangeFunc ?_)
 intro fn ay
 obtain⟨f,u⟩:∃f:LoopState→Option Code→Loop,f=λst pe=>{state:=st,pending:=pe,fn,tmps:=a.tmps,params:=ps.toArray,assign,body,defers:=w.heap.size}:=⟨_,rfl⟩
 obtain⟨m,T⟩:∃m,(w.alloc (.deferred (some []))).alloc (.loop (f .ready none))=m:=⟨_,rfl⟩
 have ap:m.heap[w.heap.size+1]? =some (.loop (f .ready none)):=by
  rw[←T];have:=World.alloc_heap_new (w.alloc (.deferred (some []))) (.loop (f .ready none));rwa [World.size_alloc] at this
 have am:m.heap[w.heap.size]? =some (.deferred (some [])):=by
  rw[←T];exact(Below.heap_alloc _ _ _ aj).ai (World.alloc_heap_new w _)
 have al:I [] m:=by rw[←T];exact O.alloc _ (O.alloc _ h0)
 have av:Below w0.heap.size w0 m:=by
  rw[←T];exact ag.ai ((((Below.refl _ w).alloc (bV _) _).alloc aj _).mono ag.size)
 have aG:∀s c s' c',{f s c with state:=s',pending:=c'}=f s' c':=λs c s' c'=>by rw[u]
 refine⟨w.heap.size+1,[{target:=.collected w.heap.size,args:=#[]}],m,{target:=.fn (.func V) lb,args:=#[.func (.yield (w.heap.size+1)) #[] #[]]},m,V,
  #[.func (.yield (w.heap.size+1)) #[] #[]]++lb,m,?_,?_,λ_ _=>trivial,?_,λh=>absurd h (by simp[Fence.wide]),?_⟩
 ·rw[←T,u];exact run_enterLoop_outer _ _ _ _ _
 ·simp only[resolve,y.ev hg]
  simp[Deferred.ofValue,Act.eval]
 ·simp only[invoke,Bh hc]
 ·have ah:∀{A B:World} {U:Option Nat},(∀r,U=some r→m.heap.size≤r∧∃o:Obj,A.heap[r]? =some o∧o.isWalk=true)→(∀r,U=some r→w.heap.size≤r∧∃o:Obj,A.heap[r]? =some o∧o.isCells=false):=
   λi r e=>by obtain⟨hB,o,ho,hw⟩:=i r e;exact⟨by rw[←T] at hB;simp at hB;omega,o,ho,Obj.not_cells_of_walk hw⟩
  refine(aF (w.heap.size+1)
   (λb W=>I b W∧W.heap[w.heap.size+1]? =some (.loop (f .ready none))∧W.heap[w.heap.size]? =some (.deferred (some [])))
   (λb W=>∃c,Z c b W∧W.heap[w.heap.size+1]? =some (.loop (f .done (some c)))∧W.heap[w.heap.size]? =some (.deferred (some [])))
   m av
   (λs A B U hs R i=>⟨O s A B U hs.1 R (ah (B:=B) i),(grownBy_keeps R (λr e=>(i r e).2) hs.2.1 rfl).ai hs.2.1,(grownBy_keeps R (λr e=>(i r e).2) hs.2.2 rfl).ai hs.2.2⟩)
   (λs A B U hs R i=>by
     obtain⟨c,hc,j,z⟩:=hs
     exact⟨c,ab c s A B U hc R (ah (B:=B) i),(grownBy_keeps R (λr e=>(i r e).2) j H).ai j,(grownBy_keeps R (λr e=>(i r e).2) z H).ai z⟩)
   ?_ ⟨al,ap,am⟩).mono ?_
  ·rintro b x W ⟨hi,j,z⟩ aC
   have hy:=run_yield (P:=P) (args:=(encs x).toArray) j (by rw[u];simp[aE x])
   rw[u] at hy
   refine⟨fn,_,assign,body,hy,roundIn_of_wpIn ay ?_⟩
   have e:(ps.toArray.zip (encs x).toArray).foldl (λt (p,v)=>t.setIfInBounds p v) a.tmps=(ps.zip (encs x)).foldl (λt (p,v)=>t.setIfInBounds p v) a.tmps:=aj
   have af:At N [] (psF (ps.zip (encs x)) l) ⟨(ps.zip (encs x)).foldl (λt (p,v)=>t.setIfInBounds p v) a.tmps,[]⟩:=by
    refine NR (N:=N) ?_ ⟨y.size,H,y.at_⟩
    simp only[kR] at ai⊢
    rintro⟨p,v⟩ Y
    exact ai p (List.of_mem_zip Y).1
   refine au (w.heap.size+1) x W _ (λfr q F ak a' ar=>?_) _ (by rw[←e] at af;exact af)
   have X:=F.bM j
   have aD:w.heap.size+1<q.heap.size:=(jB.1 X).1
   have az:I b q:=O b W q none hi ⟨F.os,F.tape,F.output,F.size,λ_ h _=>F.heap h⟩ λr e=>by cases e
   refine⟨_,run_beginRound X (by rw[u]),?_⟩
   have hb:({f .ready none with state:=.busy}:Loop)=f .busy none:=by rw[u]
   rw[hb]
   have aB:(q.putObj (w.heap.size+1) (.loop (f .busy none))).heap[w.heap.size+1]? =some (.loop (f .busy none)):=World.putObj_heap_same aD
   have aA:(q.putObj (w.heap.size+1) (.loop (f .busy none))).heap[w.heap.size]? =some (.deferred (some [])):=(World.putObj_heap_other G).ai (F.bM z)
   have aI:Kp W (q.putObj (w.heap.size+1) (.loop (f .busy none))):=ae (an (by have:=(jB.1 j).1;omega) F) (ad _ _ _ _ G X rfl rfl)
   refine wpIn_mono (aw _ b x fr _ (O.putObj _ az G X H) (hA x fr _ _ _ _ ak X H) aC a' ar) ?_
   rintro e a3 W3 Y
   obtain⟨aJ,r,W4,hj,i,aa⟩:=ZA (P:=P) (Kp:=Kp) (λh k=>ae h k) ad O ab aG (L:=w.heap.size+1) (D0:=w.heap.size) G (bV _) G aI aB aA Y
   cases e with
   |normal=>
    subst hj
    refine⟨_,_,i,?_⟩
    rcases aa with⟨rfl,d,J⟩|⟨rfl,d⟩
    ·exact .inl ⟨H,d,J⟩
    ·exact .inr ⟨H,d⟩
   |ret=>
    subst hj
    refine⟨_,_,i,?_⟩
    rcases aa with⟨rfl,d,J⟩|⟨rfl,d⟩
    ·exact .inl ⟨H,d,J⟩
    ·exact .inr ⟨H,d⟩
   |exit id=>
    subst hj
    refine⟨_,_,i,?_⟩
    rcases aa with⟨rfl,d,J⟩|⟨rfl,d⟩
    ·exact .inl ⟨H,d,J⟩
    ·exact .inr ⟨H,d⟩
   |goto t=>
    subst hj
    refine⟨_,_,i,?_⟩
    rcases aa with⟨rfl,d,J⟩|⟨rfl,d⟩
    ·exact .inl ⟨H,d,J⟩
    ·exact .inr ⟨H,d⟩
   |panic ch=>exact Y.elim
   |outgrown=>exact Y.elim
  ·rintro e W2 ⟨⟨v,rfl⟩,(⟨xs,hS,hi,j,z⟩|⟨b,aq,c,hi,j,z⟩)⟩
   ·exact⟨none,_,by have:=run_endLoop (P:=P) j (by rw[u];simp);rw[u] at this;exact this,ax _ xs _ (bV _) hS (O.putObj _ hi G j H) ((World.putObj_heap_other G).ai z) _ ⟨y.size,by simp[y.defers],y.at_⟩⟩
   ·exact⟨some c,_,by have:=run_endLoop (P:=P) j (by rw[u];simp);rw[u] at this;exact this,wpIn_wide.2 (aH _ c b _ (bV _) aq ((ab c).putObj _ hi G j H) ((World.putObj_heap_other G).ai z) _ ⟨y.size,by simp[y.defers],y.at_⟩)⟩
end
theorem KJ:aY Tryz.prog 169:=⟨_,Tryz.func169,am,rfl⟩
abbrev zZ (g n:Nat):Value:=.slice (some ⟨g,0,none⟩) n n
section
variable {w w':World} {g n:Nat} {T:TypeId} {L:List Bool}
theorem Xb:Kn [0] (L.map B):=λi u h=>by
 rw[tu,gU] at h
 obtain⟨b,_,rfl⟩:=h
 rw[show i% [0].length=0 from Nat.mod_one i];rfl
theorem Kq.bo (b:bm g T (L.map B) w) (f:w.grownBy w' (some g)):Kq [0] w w':=by
 refine⟨aF,λd ds e h=>?_⟩
 have a:=fe.rp b (by simpa using Xb (L:=L)) e (Rp.x h)
 have hm:Mv (λk=>w.heap.size≤k∨k=g) w w':=Mv.a7 f λk c _=>.inr (cC c).symm
 exact(ck.mv (Y:=λ_=>False) hm (λ_ h=>h.elim) a).rp
theorem bm.e9 {c:Array Value} (h:c.toList=cs):bm w.heap.size T cs (w.alloc (.cells c T)):=by
 subst h
 have a:=heap_alloc_new w (.cells c T)
 simpa [bm] using a
theorem Y1 (f:n≤1024):∃w',(Instr.makeSlice 237 (I (n:Int)) (I (n:Int))).run Tryz.prog w=.ok (zZ w.heap.size n) w'∧ao w w'∧bm w.heap.size 4 ((List.replicate n false).map B) w':=by
 obtain⟨i,hi,d,hs,b⟩:=info_parts WK
 have c:=run_make (P:=Tryz.prog) w 237 4 i _ vK hi d .i64 .i64 (n:Int) (n:Int) G G (by rw[b];omega) G
 refine⟨_,c,ao.new _ _,?_⟩
 have e:(madeCells (Value.bool false).cells ((n:Int).toNat*i.size)).toList=(List.replicate n false).map B:=by
  rw[hs]
  have a:=toList_madeCells_one (.bool false) n
  simp only[Value.cells,kP,cw,c8,gB,rR,List.map_replicate] at a⊢
  rw[a];rfl
 exact bm.e9 (by rw[←e];rfl)
theorem GI (h:ao w w'):Kq [0] w w':=⟨aF,λ_ _ _ r=>r.aL h⟩
theorem GJ {b:World} (h:Kq [0] w w') (k:Kq [0] w' b):Kq [0] w b:=⟨h.pos,λd cs a r=>k.keep d cs a (h.keep d cs a r)⟩
theorem Hj {i:Int} (c:0≤i) (hi:i<n):(Instr.indexAt 237 (zZ g n) (I i)).run Tryz.prog w=.ok (.pointer (some ⟨g,i.toNat,none⟩)) w:=by
 obtain⟨k,rfl⟩:∃k:Nat,i=(k:Int):=⟨i.toNat,G⟩
 obtain⟨d,a,hs⟩:=gU.1 (show(Tryz.prog.info? 4).map (·.size)=some 1 by kernel_rfl)
 have b:k<n:=G
 simp[Instr.indexAt,asIntOf,I,run_underlying Tryz.underlying237,b,sizeOf,typeInfo,a,hs,Addr.add]
 exact λh=>h.symm
end
def nI (inp:Int) (L:List Bool) (ts:List cX):List Bool:=ts.foldl (λL t=>if inp≤t.va then L.set (t.va-inp).toNat true else L) L
theorem G1 (inp:Int):∀(ts:List cX) (L:List Bool),(nI inp L ts).length=L.length
 |[],_=>rfl
 |t::ts,L=>by
  show(nI inp (if inp≤t.va then L.set (t.va-inp).toNat true else L) ts).length=_
  rw[G1 inp ts]
  split<;>simp
theorem Xt {inp:Int} {L:List Bool} {ts:List cX} (h:i<ts.length):nI inp L (ts.take (i+1))=if inp≤ts[i].va then(nI inp L (ts.take i)).set (ts[i].va-inp).toNat true else nI inp L (ts.take i):=by
 unfold nI
 rw[fi h,xJ];rfl
theorem I6 {d g b:Nat} {inp:Int} {V T:Value} {L:List Bool} {f:bj} (z:bm d 36 [I inp,V,T] w) (A:bm g 237 [zZ b L.length] w) (r:bm b 4 (L.map B) w) (hv:bR cy f v w) (ab:jk f (inp+L.length)=true) (_:0≤inp) (_:inp≤256) (hL:L.length≤1024):
 Calls Tryz.prog 169 #[v,.pointer (some ⟨d,0,none⟩),.pointer (some ⟨g,0,none⟩)] w (aJ λ_ w'=>Mv (λk=>k=b) w w'∧bm b 4 ((nI inp L f.ts).map B) w'∧Kq [0] w w'):=by
 obtain⟨_,rfl,ra⟩:=hv
 obtain⟨o,R,S,rfl,u,ib,ic⟩:=ey ra
 have an:=u.len
 have n1:d≠b:=vR z r aF
 have n3:g≠b:=vR A r aF
 refine enter (vs:=[.agg #[o,B f.ct.sg,R,S],.pointer (some ⟨d,0,none⟩),.pointer (some ⟨g,0,none⟩)]) Tryz.func169 H H H (ar (cE H H λg3 w3 l3 m k3=>(bB (c H (mp) (Y H (D eo H (k3.cell (i:=0) H)) (aW H (bP eo (u.aL m)) (J H (O (aR (eg (α:=Nat) (λi=>[(1,.pointer (some ⟨d,0,none⟩)),(2,.pointer (some ⟨g,0,none⟩)),(7,o),(8,I (f.ts.length:Int)),(9,I (i:Int))]) (λi w'=>Mv (λk=>k=b) w w'∧i≤f.ts.length∧bm b 4 ((nI inp L (f.ts.take i)).map B) w'∧aD iD f.ts o w'∧Kq [0] w w') (λi=>f.ts.length-i) (0) (aP H) ⟨Mv.a8 m,G,r.aL m,u.aL m,GI m⟩ ?_))))))))))
 rintro i wL ⟨l,hi,j,p,x⟩
 refine ah ?_
 have C:=l.blk z n1
 have ad:=l.blk A n3
 refine ap (U H (bO) (O (ah (bc H (λW=>?_) (λW=>?_)))))
 ·refine aH (al (ah (aR (ar ?_))))
  obtain⟨aj,ak,af,ag,y⟩:=bX (P:=Tryz.prog) (sz:=4) eo am nc G p (i:=i) (G) .i64
  obtain⟨n,q⟩:∃e,e=f.ts[i]'G:=⟨_,rfl⟩
  rw[←q] at y
  obtain⟨aw,az,rfl,N,Q⟩:=jh y
  refine bF H (af _) ?_
  obtain⟨aq,au⟩:0≤n.va∧n.va<inp+L.length:=by
   have h:=A5 ab n (by rw[q];exact eK _)
   omega
  have aa:=G1 inp (f.ts.take i) L
  have s:=Xt (inp:=inp) (L:=L) (ts:=f.ts) (i:=i) G
  rw[←q] at s
  refine Y H (ag.ld ur H tj) (cM Bt H λg5 w5 l5 x5 k5=>cl H H k5 H tj (ay.a1 H (ay.a1 H (ay.a1 N.one (ay.a1 Q.one ay.nil)))) λav ai F=>?_)
  have a:=ao.a2 (x5) ai l5
  refine bB (c H (ju) (Y H (D aE H (F.cell (i:=0) H)) (c H (oh) (Y H (D aE H (a.a0 (C.cell (i:=0) H))) (U H (eU) (O (bc H (λZ=>?_) (λZ=>?_))))))))
  ·refine ap ?_
   refine Y H (D vK H (a.a0 (ad.cell (i:=0) H))) (c H (ju) (Y H (D aE H (F.cell (i:=0) H)) (c H (oh) (Y H (D aE H (a.a0 (C.cell (i:=0) H))) (U H dM (bF H (Hj G G) ?_))))))
   obtain⟨wS,sS,K,kS⟩:=(j.aL a).dp (P:=Tryz.prog) (t:=4) (i:=(n.va-inp).toNat) (v:=B true) am rfl (by rw[dN,aa];omega)
   refine cZ H sS ?_
   have ae:bm b 4 ((nI inp L (f.ts.take (i+1))).map B) wS:=by rw[s,if_pos G,zx];exact kS
   have M:=GJ (GI a) (Kq.bo (j.aL a) K)
   have mS:=(l.ai (Mv.a8 a) (λ_ h _=>h)).ai (Mv.a7 (X:=λk=>k=b) K λk hk _=>(cC hk).symm) (λ_ h _=>h)
   refine ax (bE (al (ap (U H cD (J H (ax (ew (i+1) (aP H) ⟨mS,G,ae,p.kq M,GJ x M⟩ G)))))))
  ·refine aH (bE (al (ap (U H cD ?_))))
   refine J H (ax (ew (i+1) (aP H) ⟨l.ai (Mv.a8 a) (λ_ h _=>h),G,by rw[s,if_neg G];exact j.aL a,p.aL a,GJ x (GI a)⟩ G))
 ·refine ce (aU (aU (cg (pL H ?_))))
  obtain rfl:i=f.ts.length:=by omega
  rw[fL] at j
  exact⟨_,H,l,j,x⟩
theorem TI:aY Tryz.prog 170:=⟨_,Tryz.func170,am,rfl⟩
theorem TK:aY Tryz.prog 171:=⟨_,Tryz.func171,am,rfl⟩
def jT (Kb:Nat→Prop) (W W':World):Prop:=W.heap.size≤W'.heap.size∧∀k,Kb k→W'.heap[k]? =W.heap[k]?
theorem jT.ai {d:Nat→Prop} {a b c:World} (h:jT d a b) (k:jT d b c):jT d a c:=⟨cf h.1 k.1,λn e=>(k.2 n e).ai (h.2 n e)⟩
theorem jT.refl (b:Nat→Prop) (a:World):jT b a a:=⟨bV _,λ_ _=>rfl⟩
theorem jT.a8 {c:Nat→Prop} {a b:World} (h:ao a b) (d:∀k,c k→k<a.heap.size):jT c a b:=⟨h.size,λk e=>h.heap (d k e)⟩
theorem Qt {A:Option Addr} {c:Nat}:
 Calls Tryz.prog 170 #[.slice A n c] w (aJ λr w'=>ao w w'∧r=.func (.func 253) #[] #[.pointer (some ⟨w.heap.size,0,none⟩)]∧w'=w.alloc (.cells #[.slice A n c] 34)):=by
 refine enter Tryz.func170 H H H (T (nL H (uQ) (Z H (bB (lq (us:=[]) (vs:=[.pointer (some ⟨w.heap.size,0,none⟩)]) H H H (Z H (O (aA (aM H ?_)))))))))
 exact⟨_,H,ao.new _ _,H,H⟩
theorem TJ:aY Tryz.prog 253:=⟨_,Tryz.func253,am,rfl⟩
theorem Qr {α:Type} {b:Nat} {ys:List α} {encs:α→List Value} {vj:Nat→Value} {d:Nat→Prop} (l:bm b 34 [v] w) (K:d b) (hn:n≤1024) (af:ys.length=n) (V:∀(k:Nat) (h:k<ys.length),encs ys[k]=[I ((n-1-k:Nat):Int),vj (n-1-k)]) (Q:∀a:World,(Builtin.len_ #[34] 3 #[v]).run Tryz.prog a=.ok (I (n:Int)) a)
 (S:∀(j:Nat),j<n→∃ad,(∀a:World,(Instr.indexAt 34 v (I (j:Int))).run Tryz.prog a=.ok (.pointer (some ad)) a)∧∀t a:World,ao w t→jT d t a→(Instr.loadAt 51 (.pointer (some ad))).run Tryz.prog a=.ok (vj j) a):
 SeqStopsK Fence.wide 1 Tryz.prog 253 #[.pointer (some ⟨b,0,none⟩)] (λx=>(encs x).toArray) (jT d) (λxs=>xs=ys) (λm=>m<+:ys) n w:=by
 intro s J u W g _ _ M z
 have g:ao w W:=g
 refine callsIn_wide.2 (Calls.mono (R:=aJ λr a=>(∃xs,xs=ys∧J xs a)∨(∃m,m<+:ys∧u m a)) ?_ (λe a h=>by obtain⟨r,rfl,h⟩:=h;exact⟨⟨r,H⟩,h⟩))
 have l:=l.aL g
 have y:(#[.func (.yield s) #[] #[]]:Array Value)++ #[.pointer (some ⟨b,0,none⟩)]=[.func (.yield s) #[] #[],.pointer (some ⟨b,0,none⟩)].toArray:=aj
 rw[y]
 refine enter Tryz.func253 H H H (T (Y H (D Tryz.underlying34 H (l.cell (i:=0) H)) (aW H (Q _) (U H dM (Z H (O (aR (eg (α:=Int) (λx=>[(0,.func (.yield s) #[] #[]),(1,.pointer (some ⟨b,0,none⟩)),(3,I x)]) (λx a=>∃k:Nat,k≤ys.length∧x=(n:Int)-1-(k:Int)∧J (ys.take k) a∧jT d W a) (λx=>(x+1).toNat) ((n:Int)-1) (aP H) ⟨0,pq _,G,by simpa using z,jT.refl _ _⟩ ?_))))))))
 rintro x w1 ⟨k,hk,q,o,p⟩
 refine ah (T (ae H (U H eU (O (bc H (λA=>?_) (λA=>?_))))))
 ·have c:k<ys.length:=G
  obtain⟨j,rfl⟩:∃j:Nat,x=(j:Int):=⟨x.toNat,G⟩
  have P:n-1-k=j:=G
  have N:bm b 34 [v] w1:=(p.2 b K).ai l
  refine aH (al (ah (aR (ah (P7 (P8 6 (ae H (ae H (Y H (D cO H (N.cell (i:=0) H)) (ae H ?_))))))))))
  obtain⟨ab,X,aa⟩:=S j G
  refine bF H (X _) (Y H (aa W w1 g p) (f (n_y ?_)))
  have q:=M (ys.take k) ys[k] w1 o (by rw[eS];omega)
  simp only[V k c,P] at q
  refine P9 H H H q ?_
  rintro e w3 (⟨rfl,C,L⟩|⟨rfl,F⟩)
  ·refine⟨_,H,Ea (cP H cW (O (be H (aH (bE (al (ap (ae H (U H dM (Z H (f ?_)))))))))))⟩
   refine ew ((j:Int)-1) (aP H) ⟨k+1,G,G,?_,p.ai L⟩ G
   rw[fi c];exact C
  ·refine⟨_,H,Ea (cP H cW (O (bT H (aA (bD (aI (aI (bD (NY H ?_)))))))))⟩
   exact⟨_,H,.inr ⟨_,⟨ys.drop (k+1),by rw[←fi c,nz]⟩,F⟩⟩
 ·refine ce (aU (aU (cg (pL H ?_))))
  have c:k=ys.length:=G
  exact⟨_,H,.inl ⟨_,H,by rw[c,fL] at o;exact o⟩⟩
theorem Qw {A:Option Addr} {c:Nat}:
 Calls Tryz.prog 171 #[.slice A n c] w (aJ λr w'=>ao w w'∧r=.func (.func 254) #[] #[.pointer (some ⟨w.heap.size,0,none⟩)]∧w'=w.alloc (.cells #[.slice A n c] 237)):=by
 refine enter Tryz.func171 H H H (T (nL H (uQ) (Z H (bB (lq (us:=[]) (vs:=[.pointer (some ⟨w.heap.size,0,none⟩)]) H H H (Z H (O (aA (aM H ?_)))))))))
 exact⟨_,H,ao.new _ _,H,H⟩
theorem TL:aY Tryz.prog 254:=⟨_,Tryz.func254,am,rfl⟩
theorem Qu {α:Type} {b:Nat} {ys:List α} {encs:α→List Value} {vj:Nat→Value} {d:Nat→Prop} (l:bm b 237 [v] w) (K:d b) (hn:n≤1024) (af:ys.length=n) (V:∀(k:Nat) (h:k<ys.length),encs ys[k]=[I ((n-1-k:Nat):Int),vj (n-1-k)]) (Q:∀a:World,(Builtin.len_ #[237] 3 #[v]).run Tryz.prog a=.ok (I (n:Int)) a)
 (S:∀(j:Nat),j<n→∃ad,(∀a:World,(Instr.indexAt 237 v (I (j:Int))).run Tryz.prog a=.ok (.pointer (some ad)) a)∧∀t a:World,ao w t→jT d t a→(Instr.loadAt 4 (.pointer (some ad))).run Tryz.prog a=.ok (vj j) a):
 SeqStopsK Fence.wide 1 Tryz.prog 254 #[.pointer (some ⟨b,0,none⟩)] (λx=>(encs x).toArray) (jT d) (λxs=>xs=ys) (λm=>m<+:ys) n w:=by
 intro s J u W g _ _ M z
 have g:ao w W:=g
 refine callsIn_wide.2 (Calls.mono (R:=aJ λr a=>(∃xs,xs=ys∧J xs a)∨(∃m,m<+:ys∧u m a)) ?_ (λe a h=>by obtain⟨r,rfl,h⟩:=h;exact⟨⟨r,H⟩,h⟩))
 have l:=l.aL g
 have y:(#[.func (.yield s) #[] #[]]:Array Value)++ #[.pointer (some ⟨b,0,none⟩)]=[.func (.yield s) #[] #[],.pointer (some ⟨b,0,none⟩)].toArray:=aj
 rw[y]
 refine enter Tryz.func254 H H H (T (Y H (D Tryz.underlying237 H (l.cell (i:=0) H)) (aW H (Q _) (U H dM (Z H (O (aR (eg (α:=Int) (λx=>[(0,.func (.yield s) #[] #[]),(1,.pointer (some ⟨b,0,none⟩)),(3,I x)]) (λx a=>∃k:Nat,k≤ys.length∧x=(n:Int)-1-(k:Int)∧J (ys.take k) a∧jT d W a) (λx=>(x+1).toNat) ((n:Int)-1) (aP H) ⟨0,pq _,G,by simpa using z,jT.refl _ _⟩ ?_))))))))
 rintro x w1 ⟨k,hk,q,o,p⟩
 refine ah (T (ae H (U H eU (O (bc H (λA=>?_) (λA=>?_))))))
 ·have c:k<ys.length:=G
  obtain⟨j,rfl⟩:∃j:Nat,x=(j:Int):=⟨x.toNat,G⟩
  have P:n-1-k=j:=G
  have N:bm b 237 [v] w1:=(p.2 b K).ai l
  refine aH (al (ah (aR (ah (P7 (P8 6 (ae H (ae H (Y H (D vK H (N.cell (i:=0) H)) (ae H ?_))))))))))
  obtain⟨ab,X,aa⟩:=S j G
  refine bF H (X _) (Y H (aa W w1 g p) (f (n_y ?_)))
  have q:=M (ys.take k) ys[k] w1 o (by rw[eS];omega)
  simp only[V k c,P] at q
  refine P9 H H H q ?_
  rintro e w3 (⟨rfl,C,L⟩|⟨rfl,F⟩)
  ·refine⟨_,H,Ea (cP H cW (O (be H (aH (bE (al (ap (ae H (U H dM (Z H (f ?_)))))))))))⟩
   refine ew ((j:Int)-1) (aP H) ⟨k+1,G,G,?_,p.ai L⟩ G
   rw[fi c];exact C
  ·refine⟨_,H,Ea (cP H cW (O (bT H (aA (bD (aI (aI (bD (NY H ?_)))))))))⟩
   exact⟨_,H,.inr ⟨_,⟨ys.drop (k+1),by rw[←fi c,nz]⟩,F⟩⟩
 ·refine ce (aU (aU (cg (pL H ?_))))
  have c:k=ys.length:=G
  exact⟨_,H,.inl ⟨_,H,by rw[c,fL] at o;exact o⟩⟩
theorem Uv:aY Tryz.prog 90:=⟨_,Tryz.func90,am,rfl⟩
section
variable {P:Program} {fn:Func} {R:Ending→World→Prop} {N:Nat} {l:Fr} {w:World} {p:Tmp} {t T:TypeId} {g D0 D1:Nat} {v:Value} {cs:List Value}
theorem Zy {tmps:Array Value} (h:fn.results= #[.cell p t]) (b:tmps.getD p undef=.pointer (some a)) (c:(loadVar t a).run P w=.ok v w):(results fn tmps).run P w=.ok v w:=by
 simp only[results,h]
 simp only[xF] at b
 simp[b,c,asAddr]
theorem W6 (s:fn.results= #[.cell p t]) (u:lk l p=some (.pointer (some ⟨g,0,none⟩))) (f:bm g T cs w) (q:∀w',bm g T cs w'→(Instr.loadAt t (.pointer (some ⟨g,0,none⟩))).run P w'=.ok v w') (c:w.heap[D1]? =some (.deferred (some []))) (b:w.heap[D0]? =some (.deferred (some []))) (r:D0≠D1)
 (h:∀w1 w2,w.grownBy w1 (some D1)→w1.grownBy w2 (some D0)→R (.returned v) w2):gZ (bodyPostM Fence.wide 0 P fn R) N [⟨.collected D1,#[]⟩,⟨.collected D0,#[]⟩] l w .ret:=λa d=>by
 have i:w.heap[g]? =some (.cells cs.toArray T (0,0)):=f
 have x:g≠D1:=by
  rintro rfl
  rw[i] at c
  cases c
 have n0:g≠D0:=by
  rintro rfl
  rw[i] at b
  cases b
 have k:=grownBy_putObj' w D1 (.deferred none)
 have n:(w.putObj D1 (.deferred none)).heap[D0]? =some (.deferred (some [])):=(World.putObj_heap_other r).ai b
 have j:=grownBy_putObj' (w.putObj D1 (.deferred none)) D0 (.deferred none)
 have o:=(f.a4 k (λe=>x (cC e))).a4 j (λe=>n0 (cC e))
 have m:=q _ o
 show LeavesInM Fence.wide 0 P fn a.tmps R a.defers .returning w
 rw[d.defers]
 exact⟨aj,.inl ⟨D1,_,H,run_takeDeferred c,aj,.inl ⟨D0,_,H,run_takeDeferred n,v,Zy s (d.at_ p _ u) (by simpa [Instr.loadAt,Instr.sureAddr] using m),h _ _ k j⟩⟩⟩
end
abbrev fND:FuncId:=169
abbrev fBA1:FuncId:=253
abbrev fBB1:FuncId:=254
theorem Qs (h:∃A n c,v=.slice A n c):Calls Tryz.prog 170 #[v] w (aJ λr w'=>ao w w'∧r=.func (.func fBA1) #[] #[.pointer (some ⟨w.heap.size,0,none⟩)]∧w'=w.alloc (.cells #[v] 34)):=by
 obtain⟨_,_,_,rfl⟩:=h
 exact Qt
theorem Qv (h:∃A n c,v=.slice A n c):Calls Tryz.prog 171 #[v] w (aJ λr w'=>ao w w'∧r=.func (.func fBB1) #[] #[.pointer (some ⟨w.heap.size,0,none⟩)]∧w'=w.alloc (.cells #[v] 237)):=by
 obtain⟨_,_,_,rfl⟩:=h
 exact Qw
theorem Xo {α:Type} {f:α→Dt} {l:List α} {t e:TypeId} (d:P.underlying t=some (.slice e)) (h:aD f l v w) (a:World):(Builtin.len_ #[t] ty #[v]).run P a=.ok (I (l.length:Int)) a:=by
 obtain⟨A,n,c,rfl⟩:=h.a9
 simp only[aD,Rp,List.cons.injEq,Value.slice.injEq,vP] at h
 obtain⟨_,i,g,⟨rfl,rfl,rfl⟩,b,_⟩:=h
 rw[dN] at b
 simp[Builtin.len_,run_underlying d,goInt,I,b]
theorem Vu {b:World} (h:ez w ad xs) (e:∀k,k<w.heap.size→b.heap[k]? =w.heap[k]?):ez b ad xs:=λj u f=>by
 have a:=h j u f
 have c:=World.block_lt_of_cell? w _ a
 have d:=e _ c
 unfold World.cell? at a⊢
 rw[d];exact a
theorem Ya {f:bj} {n m:Int} (h:jk f n=true) (a:n≤m):jk f m=true:=Dc a h
theorem Ni {inp:Int} {n:Nat}:∀(ts:List cX),nI inp (List.replicate n true) ts=List.replicate n true
 |[]=>rfl
 |t::ts=>by
  show nI inp (if inp≤t.va then(List.replicate n true).set (t.va-inp).toNat true else List.replicate n true) ts=_
  have e:(List.replicate n true).set (t.va-inp).toNat true=List.replicate n true:=by
   apply IS
   ·simp
   ·intro i a b
    rw[List.getElem_set]
    split<;>simp
  rw[e,ite_self]
  exact Ni ts
theorem S2 {l:List bj} (h:aD cy l v w):∃vs:Nat→List Value,∀j (b:j<l.length),∃ad,(∀w':World,(Instr.indexAt 34 v (I (j:Int))).run Tryz.prog w'=.ok (.pointer (some ad)) w')∧ez w ad (vs j)∧Rp w (cy l[j]) (vs j):=by
 have d:∀j:Nat,∃cs:List Value,∀b:j<l.length,∃ad,(∀w':World,(Instr.indexAt 34 v (I (j:Int))).run Tryz.prog w'=.ok (.pointer (some ad)) w')∧ez w ad cs∧Rp w (cy l[j]) cs:=λj=>by
  by_cases b:j<l.length
  ·obtain⟨a,c,p,q,r⟩:=bX (P:=Tryz.prog) (sz:=4) cO am gD G h (i:=j) b .i64
   exact⟨c,λ_=>⟨a,p,q,r⟩⟩
  ·exact⟨[],λh=>absurd h b⟩
 exact⟨λj=>Classical.choose (d j),λj b=>Classical.choose_spec (d j) b⟩
theorem Mv.keeps {B b:Nat} {T:TypeId} (h:Mv (λk=>k=b) w w') (c:bm b T cs w):KeepsFrom B w w':=⟨h.size,λk o _ a f=>by
 have e:k≠b:=by
  rintro rfl
  have d:w.heap[k]? =some (.cells cs.toArray T (0,0)):=c
  rw[d] at a
  cases a
  cases f
 exact(h.keep k (jB.1 a).1 e).ai a⟩
theorem bm.fD {T:TypeId} {W:World} {l:Nat} {o o':Obj} (h:bm g T cs W) (a:W.heap[l]? =some o) (d:o.isCells=false):bm g T cs (W.putObj l o'):=by
 have c:g≠l:=by
  rintro rfl
  have b:W.heap[g]? =some (.cells cs.toArray T (0,0)):=h
  rw[b] at a
  cases a
  cases d
 exact(World.putObj_heap_other c).ai h
theorem Rr {g:gm} (hv:bR iC g v w) (hg:nT g) (bd:g.os.foldl (λL f=>nI g.inp L f.ts) (List.replicate g.us.length false)=List.replicate g.us.length true):
 Calls Tryz.prog 90 #[v] w (aJ λr w'=>ao w w'∧bR iC g r w'):=by
 have bZ:=hg.i0
 have a0:=hg.i1
 have b2:=hg.ul
 have b1:=hg.o1
 obtain⟨_,rfl,ra⟩:=hv
 obtain⟨gu,go,rfl,iu,io⟩:=jX ra
 obtain⟨vs,aE⟩:=S2 iu
 refine V8 (vs:=[.agg #[I g.inp,gu,go]]) Tryz.func90 H H H (ar (cE H H λg1 w1 l1 x1 R=>cM rG H λg2 w2 l2 u k2=>(bB (az H (kZ) (Y H (D cO H (u.a0 (R.cell (i:=1) H))) (aW H (bP cO (iu.aL (x1.ai u))) ?_))))))
 obtain⟨bJ,a1,a8,a4⟩:=Y1 (w:=w2) (n:=g.us.length) G
 obtain⟨d,af⟩:∃d,d=w2.heap.size:=⟨_,rfl⟩
 rw[←af] at a1 a4
 refine sQ H a1 ?_
 obtain⟨g3,w3,bi,l3,x3,k3⟩:=iW (P:=Tryz.prog) (w:=bJ) (t:=237) (z:=.slice none 0 0) (l:=[.slice none 0 0]) am rfl
 refine fY H bi ?_
 have e3:ao w2 w3:=a8.ai x3
 refine jQ H H k3 ZP H H λa7 bG bp=>?_
 have a9:=ao.a2 x3 bG l3
 have bx:=a4.aL a9
 have aN:ao w2 a7:=a8.ai a9
 refine bB (lq (us:=[]) (vs:=[.pointer (some ⟨g1,0,none⟩),.pointer (some ⟨g3,0,none⟩)]) H H H ?_)
 obtain⟨g4,w4,bj,l4,x4,k4⟩:=iW (P:=Tryz.prog) (w:=a7) (t:=238) (z:=.nilFunc) (l:=[.nilFunc]) am rfl
 refine fY H bj ?_
 have e4:ao w2 w4:=aN.ai x4
 refine jQ H H k4 ZR H H λbK bH bu=>?_
 have aK:=ao.a2 x4 bH l4
 have bz:=bx.aL aK
 have bq:=bp.aL aK
 have av:ao w2 bK:=aN.ai aK
 refine O (ah (ar (az H (qY) (Y H (D cO H ((u.ai av).a0 (R.cell (i:=2) H))) (aW H (bP cO (io.aL ((x1.ai u).ai av))) (J H (O (aR (eg (α:=Nat) (λi=>[(1,.pointer (some ⟨g1,0,none⟩)),(2,.pointer (some ⟨g2,0,none⟩)),(3,.pointer (some ⟨g3,0,none⟩)),(4,.pointer (some ⟨g4,0,none⟩)),(17,go),(18,I (g.os.length:Int)),(19,I (i:Int))]) (λi w'=>ao w2 w'∧i≤g.os.length∧(∃L:List Bool,L=(g.os.take i).foldl (λL f=>nI g.inp L f.ts) (List.replicate g.us.length false)∧L.length=g.us.length∧bm d 4 (L.map B) w')∧bm g3 237 [zZ d g.us.length] w'∧bm g4 238 [.func (.func fND) #[] #[.pointer (some ⟨g1,0,none⟩),.pointer (some ⟨g3,0,none⟩)]] w') (λi=>g.os.length-i) (0) (aP H) ⟨av,G,⟨_,H,aj,bz⟩,bq,bu⟩ ?_)))))))))
 rintro i wL ⟨F,hi,⟨L,hL,aB,kB⟩,ai,an⟩
 refine ah ?_
 have n3:g3≠d:=vR ai kB aF
 have n4:g4≠d:=vR an kB aF
 refine ap (U H (bO) (O (ah (bc H (λbb=>?_) (λbb=>?_)))))
 ·refine aH (al (ah (aR (ar ?_))))
  obtain⟨bN,bQ,bC,bD,aT⟩:=bX (P:=Tryz.prog) (sz:=4) cO am gD G (io.aL ((x1.ai u).ai F)) (i:=i) (G) .i64
  obtain⟨aM,aD⟩:∃e,e=g.os[i]'G:=⟨_,rfl⟩
  rw[←aD] at aT
  obtain⟨cc,cd,cf,rfl,aO,aQ,aS⟩:=ey aT
  refine bF H (bC _) (Y H (bD.ld dx H cL) (cM iX H λg6 w6 l6 x6 k6=>cl H H k6 H cL (ay.a1 aO.one (ay.a1 H (ay.a1 aQ.one (ay.a1 aS.one ay.nil)))) λcb bI bw=>?_))
  have y:=ao.a2 (x6) bI l6
  refine O (ap (Y H (D Tryz.underlying238 H (y.a0 (an.cell (i:=0) H))) (Y H (bw.ld dx H cL) (im H KJ H H ((I6 (inp:=g.inp) (L:=L) (R.aL ((u.ai F).ai y)) (by rw[aB];exact ai.aL y) (kB.aL y) (bR.mk (eX (aO.aL y) (aQ.aL y) (aS.aL y))) (by rw[aB];exact(hg.os aM (by rw[aD];exact eK _)).1) G a0 G)) ?_))))
  rintro b5 b9 ⟨A,kN,_⟩
  have bM:=A.b5 (F.ai y) (λk b=>by rw[b,af];exact bV _)
  refine ax (bE (al (ap (U H cD (J H (ax (ew (i+1) (aP H) ⟨bM,G,⟨nI g.inp L aM.ts,by rw[fi G,xJ,←hL,←aD];rfl,by rw[G1];exact aB,kN⟩,A.blk (ai.aL y) n3,A.blk (an.aL y) n4⟩ G)))))))
 ·refine ce (aU (aU (cg (al (ah (ah ?_))))))
  obtain rfl:i=g.os.length:=by omega
  rw[fL,bd] at hL
  subst hL
  refine ap (az H (kZ) (Y H (D cO H ((u.ai F).a0 (R.cell (i:=1) H))) (aC TI H H ((Qs iu.a9)) ?_)))
  rintro b6 aa ⟨ae,rfl,bl⟩
  refine O (aR ?_)
  have bs:bm wL.heap.size 34 [gu] aa:=by rw[bl];exact heap_alloc_new _ _
  have au:ao w2 aa:=(F.ai ae)
  have e0:ao w aa:=(((x1.ai u).ai F).ai ae)
  have aG:=kB.aL ae
  have a2:=ai.aL ae
  have br:=an.aL ae
  have bY:w.heap.size≤d:=by have:=(x1.ai u);rw[af];exact this.size
  have bW:d<aa.heap.size:=aG.lt
  have bA:wL.heap.size≠d:=by have:=kB.lt;omega
  have n1:g1≠d:=vR (R.aL ((u.ai F).ai ae)) aG aF
  refine Ks (α:=Fin g.us.length) (encs:=λj=>[I (j.val:Int),.agg (vs j.val).toArray]) (Kp:=jT λk=>k<aa.heap.size∧k≠d) (S:=λxs=>xs=(List.finRange g.us.length).reverse) (Sp:=λV=>V<+:(List.finRange g.us.length).reverse) (M:=g.us.length) (w0:=aa) H TJ (Qr (vj:=λj=>.agg (vs j).toArray) bs ⟨bs.lt,bA⟩ G aj (λk h=>by simp) (Xo Tryz.underlying34 iu) (λj hj=>?hrd)) (λh k=>h.ai k) (λh x=>jT.a8 x λk b=>eT b.1 h) (λW l o o' be _ _ _=>⟨(grownBy_putObj' W l o').size,λk b=>World.putObj_heap_other (by have:=b.1;omega)⟩) (Below.refl _ _) (λ_=>rfl) (λ_ W=>Mv (λk=>k=d) aa W∧bm d 4 ((List.replicate g.us.length true).map B) W) (λ_ _ _=>False) (λs W W' a5 hs hq hr=>⟨hs.1.ai (Mv.a7 (X:=λk=>a5=some k) hq λk b _=>b) λk b b0=>by have:=(hr k b).1;omega,hs.2.a4 hq λe=>by have:=(hr d e.symm).1;omega⟩) (λ_ _ _ _ _ h _ _=>h.elim) ⟨Mv.refl _ _,aG⟩ (λx fr W=>∃N,fr=[(1,.pointer (some ⟨g1,0,none⟩)),(2,.pointer (some ⟨g2,0,none⟩)),(3,.pointer (some ⟨g3,0,none⟩)),(4,.pointer (some ⟨g4,0,none⟩)),(7,I (x.val:Int)),(8,.pointer (some ⟨N,0,none⟩))]∧bm N 51 (vs x.val) W) (λx fr W l o o' ⟨N,h1,h2⟩ b ho=>⟨N,h1,h2.fD b ho⟩) H ?_ ?_ ?_ ?_
  case hrd=>
   obtain⟨ad,p,q,r⟩:=aE j hj
   refine⟨ad,p,λW0 W' h0 Q=>?_⟩
   have hh:ez W' ad (vs j):=Vu q λk b=>by
    have h1:=e0.size
    rw[Q.2 k ⟨G,G⟩,h0.heap G,e0.heap b]
   exact hh.ld dx H (by rw[r.len,gD];kernel_rfl)
  ·intro lp x W K Q
   obtain⟨ad,_,_,r⟩:=aE x.val x.isLt
   obtain⟨x0,x1,u,e,f0,f1,f2⟩:=ey r
   refine I.ah (I.ap H (Z H (ax (I.al ?_))) (hQ:=pQ (pQ λ⟨_,_,h⟩=>h)))
   refine I.ap H ?_ (hQ:=pQ λ⟨_,_,h⟩=>h)
   obtain⟨N,w8,bk,l8,x8,k8⟩:=iW (P:=Tryz.prog) (w:=W) (t:=51) (z:=.agg #[.slice none 0 0,B false,.slice none 0 0,.slice none 0 0]) (l:=[.slice none 0 0,B false,.slice none 0 0,.slice none 0 0]) am rfl
   obtain⟨w9,s9,q9,k9⟩:=k8.c0 (P:=Tryz.prog) (t:=51) (m:=vs x.val) (by rw[e];rfl) (by rw[e];kernel_rfl) (by rw[e];exact ay.a1 f0.one (ay.a1 rfl (ay.a1 f1.one (ay.a1 f2.one ay.nil))))
   exact fY H bk (cZ H s9 (ax λa ha=>Q _ _ (ao.a2 x8 q9 l8) ⟨N,H,k9⟩ a (ha.bd (aP H))))
  ·rintro lp V x _ W ⟨C,ag⟩ ⟨N,rfl,k8⟩ bf
   have eW:ao w2 W:=C.b5 au λk b=>by rw[b,af];exact bV _
   have ak:=C.blk a2 n3
   have bt:=C.blk br n4
   obtain⟨_,_,_,rx⟩:=aE x.val x.isLt
   have hx:=x.isLt
   refine I.aR (I.ah (I.ap H (Y H (D Tryz.underlying237 H (ak.cell (i:=0) H)) (J H (bF H (Hj G G) (Y (r:=B true) H (D Tryz.underlying4 H (ag.cell (i:=x.val) (by simp[hx]))) (ax (I.al (I.bT H (I.ap H (Y H (D Tryz.underlying238 H (bt.cell (i:=0) H)) (Y H (k8.ld Tryz.underlying51 H (by rw[rx.len,gD];kernel_rfl)) (im H KJ H H ((I6 (inp:=g.inp) (L:=List.replicate g.us.length true) (f:=g.us[x.val]) (R.aL (u.ai eW)) (by rw[zw];exact ak) ag ⟨_,H,rx.aL ((x1.ai u).ai eW)⟩ (by rw[zw];exact Ya (hg.us x.val hx).1 G) G a0 (by rw[zw];omega))) ?_)))))))))))))
   rintro b7 ca ⟨A,kN,_⟩
   refine ax (bE ?_)
   exact λ_ _=>⟨A.keeps ag,⟨A.size,λk b=>A.keep k (eT b.1 C.size) b.2⟩,C.ai A (λ_ h _=>h),by rw[Ni] at kN;exact kN⟩
  ·rintro D0 xs W bT _ ⟨C,ag⟩ aV
   have eW:ao w2 W:=C.b5 au λk b=>by rw[b,af];exact bV _
   have ak:=C.blk a2 n3
   refine bE (al (ah (ar (Y H (D vK H (ak.cell (i:=0) H)) (aC TK H H ((Qv ⟨_,_,_,H⟩)) ?_)))))
   rintro b8 ab ⟨aq,rfl,bn⟩
   refine O (aR ?_)
   have aL:bm W.heap.size 237 [zZ d g.us.length] ab:=by rw[bn];exact heap_alloc_new _ _
   have ba:ao w2 ab:=(eW.ai aq)
   have a3:=ag.aL aq
   have aZ:d<ab.heap.size:=a3.lt
   refine Ks (α:=Fin g.us.length) (encs:=λj=>[I (j.val:Int),B true]) (Kp:=jT λk=>k<ab.heap.size) (S:=λxs=>xs=(List.finRange g.us.length).reverse) (Sp:=λV=>V<+:(List.finRange g.us.length).reverse) (M:=g.us.length) (w0:=ab) H TL (Qu (vj:=λ_=>B true) aL aL.lt G aj (λk h=>by simp) (λW'=>by simp[Builtin.len_,run_underlying Tryz.underlying237,goInt,I]) (λj hj=>⟨⟨d,j,none⟩,λW'=>Hj G G,λW0 W' h0 Q=>D Tryz.underlying4 H (bm.cell (g:=d) (T:=4) (l:=(List.replicate g.us.length true).map B) (i:=j) ((Q.2 d aZ).ai ((h0.heap aZ).ai a3)) (by simp[hj]))⟩)) (λh k=>h.ai k) (λh x=>jT.a8 x λk b=>eT b h) (λW l o o' be _ _ _=>⟨(grownBy_putObj' W l o').size,λk b=>World.putObj_heap_other G⟩) (Below.refl _ _) (λ_=>rfl) (λ_ W=>ao ab W) (λ_ _ _=>False) (λs W W' a5 hs hq hr=>hs.a7 hq λk b=>(hr k b).1) (λ_ _ _ _ _ h _ _=>h.elim) (ao.refl _) (λx fr _=>fr=[(1,.pointer (some ⟨g1,0,none⟩)),(2,.pointer (some ⟨g2,0,none⟩)),(9,I (x.val:Int)),(10,B true)]) (λ_ _ _ _ _ _ h _ _=>h) H ?_ ?_ ?_ ?_
   ·intro lp x W K Q
    refine I.ah (I.ap H (Z H (ax (I.al ?_))) (hQ:=pQ (pQ λ⟨_,_,h⟩=>h)))
    refine I.ap H ?_ (hQ:=pQ λ⟨_,_,h⟩=>h)
    exact Z H (ax λa ha=>Q _ _ (ao.refl _) H a (ha.bd (aP H)))
   ·rintro lp V x _ W2 hI rfl bf
    refine I.aR (I.ah (I.ap H (J H (cP H cW (ax (I.al (I.be H (I.aH (bE ?_)))))))))
    exact λ_ _=>⟨KeepsFrom.refl _ _,jT.refl _ _,hI⟩
   ·rintro D1 xs W2 bU _ hI aY
    have aw:ao w2 W2:=ba.ai hI
    have aX:=(aq.ai hI).bM aV
    have l0:=(jB.1 aV).1
    refine bE (al (ar (Y H ((R.aL (u.ai aw)).ld ij H fE) (cl H H (k2.aL aw) H fE (ay.a1 H (ay.a1 iu.one (ay.a1 io.one ay.nil))) λa6 aI bo=>?_))))
    have bL:=ao.a2 ((u.ai aw)) aI l2
    refine O (aA ?_)
    have bS:g2<w2.heap.size:=k2.lt
    have b3:=au.size
    have b4:=aq.size
    have bh:a6.heap[D1]? =some (.deferred (some [])):=(aI.block D1 (jB.1 aY).1 (λe=>by have:=cC e;omega)).ai aY
    have bg:a6.heap[D0]? =some (.deferred (some [])):=(aI.block D0 (jB.1 aX).1 (λe=>by have:=cC e;omega)).ai aX
    refine W6 H H bo (λw' h=>h.ld ij H fE) bh bg G ?_
    intro wa wb qa qb
    have s0:=e0.size
    have ea:ao w wa:=ao.a7 (x1.ai bL) qa λk b=>by have:=cC b;omega
    have eb:ao w wb:=ao.a7 ea qb λk b=>by have:=cC b;omega
    exact⟨_,H,eb,bR.mk (jK (a:=g) (iu.aL eb) (io.aL eb))⟩
   ·rintro D1 c V W2 _ _ h _
    exact h.elim
  ·rintro D0 c V W _ _ h _
   exact h.elim
section
variable {P:Program} {Q:eV} {N:Nat} {D:List Deferred} {l:Fr} {w:World}
theorem Tu (h:ie Q N D l w):dS P Q N D l w (.label n):=λa b=>wp_label (h a b)
theorem Tz {c:Code} (h:dS P (Exit.noGoto Q) N D l w c):dS P Q N D l w (.scope c):=λa b=>wp_scope_straight (h a b)
theorem Y6 (h:gZ Q N D l w .ret):gZ (Exit.noGoto Q) N D l w .ret:=λa b=>h a b
end
theorem Up:aY Tryz.prog 86:=⟨_,Tryz.func86,am,rfl⟩
theorem UA:aY Tryz.prog 28:=⟨_,Tryz.func28,am,rfl⟩
structure Fh (g:gm):Prop where
 v:nT g
 n:g.inp+g.us.length<100
 ne:∀f∈g.us,f.ts≠[]
 tx:∀i j,i<j→j<g.us.length→jm (g.us.getD i zF)≠jm (g.us.getD j zF)
 all:g.os.foldl (λL f=>nI g.inp L f.ts) (List.replicate g.us.length false)=List.replicate g.us.length true
abbrev yN:List Value:=[.func (.func 88) #[] #[],.func (.func 89) #[] #[],.func (.func 90) #[] #[]]
theorem Hk (h:Sl 1 yN v w) (hi:i<3):∃ad,(∀w':World,(Instr.indexAt 232 v (I (i:Int))).run Tryz.prog w'=.ok (.pointer (some ad)) w')∧ez w ad ((yN.drop i).take 1):=by
 obtain⟨ad,a,b⟩:=Dx (P:=Tryz.prog) JR (by kernel_rfl:(Tryz.prog.info? 75).map (·.size)=some 1) h (i:=i) dT G .i64
 exact⟨ad,a,by simpa using b⟩
theorem YS (h:Sl 1 yN v w) (a:World):(Builtin.len_ #[232] ty #[v]).run Tryz.prog a=.ok (I 3) a:=by
 obtain⟨A,n,c,rfl,_,_,b,_⟩:=h
 obtain rfl:n=3:=by simpa using b.symm
 simp[Builtin.len_,run_underlying Tryz.underlying232,goInt,I]
theorem Ri {g:gm} (hT:kV w) (hv:bR iC g v w) (s:Fh g) (hf:Sl 1 yN fv w):
 Calls Tryz.prog 86 #[v,fv] w (aJ λr w'=>ao w w'∧bR iC g r w'):=by
 have ak:=s.v.ul
 obtain⟨_,rfl,ra⟩:=hv
 obtain⟨gu,go,rfl,iu,io⟩:=jX ra
 refine enter (vs:=[.agg #[I g.inp,gu,go],fv]) Tryz.func86 H H H (T (cE H H λt w2 l2 W C=>cM rG H λu w4 l4 x k4=>(O (Tz (ah (Tu (al (ah (aR (eg (α:=Unit) (λ_=>[(1,fv),(2,.pointer (some ⟨t,0,none⟩)),(4,.pointer (some ⟨u,0,none⟩))]) (λ_ w'=>w4=w') (λ_=>0) (()) (aP H) H ?_))))))))))
 rintro _ _ rfl
 refine aR (T (c H (kZ) (Y H (D cO H (x.a0 (C.cell (i:=1) H))) (aW H (bP cO (iu.aL (W.ai x))) (Z H (O (ah (T (J H (aW (r:=I 3) H (YS hf _) (J H (O (aR (ob (λ(i:Nat) (Q:Value) (P:Value)=>[(2,.pointer (some ⟨t,0,none⟩)),(4,.pointer (some ⟨u,0,none⟩)),(5,I (g.us.length:Int)),(11,fv),(12,I 3),(13,I (i:Int))]) (λ(i:Nat) (Q:Value) (P:Value) w'=>ao w w'∧i≤3∧bm t 36 [I g.inp,Q,P] w'∧aD cy g.us Q w'∧aD cy g.os P w'∧bm u 36 [I 0,.slice none 0 0,.slice none 0 0] w') (λ(i:Nat) (Q:Value) (P:Value)=>3-i) (0) (gu) (go) (aP H) ⟨W.ai x,G,C.aL x,iu.aL (W.ai x),io.aL (W.ai x),k4⟩ ?_))))))))))))))
 rintro i Q P wL ⟨m,hi,d,k,l,F⟩
 refine T (U H (bO) (O (ah (bc H (λag=>?_) (λag=>?_)))))
 ·refine aH (al (ah (aR (ah ?_))))
  rcases(show i=0∨i=1∨i=2 by omega) with A|A|A
  ·refine ap ?_
   obtain⟨aa,N,R⟩:=Hk (hf.aL m) (i:=i) G
   refine bF H (N _) (Y (r:=.func (.func 88) #[] #[]) H (D Tryz.underlying75 H (by have h:=R 0 _ (by rw[A];rfl);rwa [tD] at h)) (Z H (O (ap (J H (Y H (d.ld ij H fE) (im H Us H H ((Rm (bR.mk (jK k l)) G s.ne)) ?_)))))))
   rintro ae af ⟨b,S⟩
   obtain⟨_,rfl,V⟩:=S
   obtain⟨z,y,rfl,o,n⟩:=jX V
   refine cl H H (d.aL b) H fE (ay.a1 H (ay.a1 o.one (ay.a1 n.one ay.nil))) λwS j L=>?_
   have X:=ao.a2 (m.ai b) j l2
   have q:=Kq.br (p:=[2,3,3]) (d.aL b) (aS rfl (aS k.kd (aS l.kd dj))) j
   have M:u≠t:=λe=>by have:=C.lt;omega
   have K:=(F.aL b).a4 j (λe=>M (cC e))
   refine f (bE (al (ap (U H cD (J H (f (lj (i+1) (z) (y) (aP H) ⟨X,G,L,o.kq q,n.kq q,K⟩ G)))))))
  ·refine ap ?_
   obtain⟨aa,N,R⟩:=Hk (hf.aL m) (i:=i) G
   refine bF H (N _) (Y (r:=.func (.func 89) #[] #[]) H (D Tryz.underlying75 H (by have h:=R 0 _ (by rw[A];rfl);rwa [tD] at h)) (Z H (O (ap (J H (Y H (d.ld ij H fE) (im H Ux H H ((Rt (hT.aL m) (bR.mk (jK k l)) s.v s.n s.tx)) ?_)))))))
   rintro ae af ⟨b,S⟩
   obtain⟨_,rfl,V⟩:=S
   obtain⟨z,y,rfl,o,n⟩:=jX V
   refine cl H H (d.aL b) H fE (ay.a1 H (ay.a1 o.one (ay.a1 n.one ay.nil))) λwS j L=>?_
   have X:=ao.a2 (m.ai b) j l2
   have q:=Kq.br (p:=[2,3,3]) (d.aL b) (aS rfl (aS k.kd (aS l.kd dj))) j
   have M:u≠t:=λe=>by have:=C.lt;omega
   have K:=(F.aL b).a4 j (λe=>M (cC e))
   refine f (bE (al (ap (U H cD (J H (f (lj (i+1) (z) (y) (aP H) ⟨X,G,L,o.kq q,n.kq q,K⟩ G)))))))
  ·refine ap ?_
   obtain⟨aa,N,R⟩:=Hk (hf.aL m) (i:=i) G
   refine bF H (N _) (Y (r:=.func (.func 90) #[] #[]) H (D Tryz.underlying75 H (by have h:=R 0 _ (by rw[A];rfl);rwa [tD] at h)) (Z H (O (ap (J H (Y H (d.ld ij H fE) (im H Uv H H ((Rr (bR.mk (jK k l)) s.v s.all)) ?_)))))))
   rintro ae af ⟨b,S⟩
   obtain⟨_,rfl,V⟩:=S
   obtain⟨z,y,rfl,o,n⟩:=jX V
   refine cl H H (d.aL b) H fE (ay.a1 H (ay.a1 o.one (ay.a1 n.one ay.nil))) λwS j L=>?_
   have X:=ao.a2 (m.ai b) j l2
   have q:=Kq.br (p:=[2,3,3]) (d.aL b) (aS rfl (aS k.kd (aS l.kd dj))) j
   have M:u≠t:=λe=>by have:=C.lt;omega
   have K:=(F.aL b).a4 j (λe=>M (cC e))
   refine f (bE (al (ap (U H cD (J H (f (lj (i+1) (z) (y) (aP H) ⟨X,G,L,o.kq q,n.kq q,K⟩ G)))))))
 ·refine ce (aU (aU (cg (al (T (c H (kZ) (Y H (D cO H (d.cell (i:=1) H)) ?_)))))))
  refine aW H (bP cO k) (J H (U H (cu H aV) (O (bT H (ce (Il H (aU (cg (al (T (Y H (d.ld ij H fE) (cl H H F H fE (ay.a1 H (ay.a1 k.one (ay.a1 l.one ay.nil))) λam ad ai=>?_))))))))))))
  have aj:=ao.a2 (m) ad (cf (W).size l4)
  have ab:=Kq.br (p:=[2,3,3]) F (aS rfl (aS rfl (aS rfl dj))) ad
  refine O (aA (Y6 (ff H (.cell H (ai.ld ij H fE) .nil) ?_)))
  exact⟨_,H,aj,bR.mk (jK (a:=g) (k.kq ab) (l.kq ab))⟩
theorem Rx {g:gm} (x:kV w) (A:bR iC g v w) (j:Fh g):
 Calls Tryz.prog 28 #[v] w (aJ λr w'=>ao w w'∧bR iC g r w'):=by
 obtain⟨_,rfl,N⟩:=A
 obtain⟨t,s,rfl,D,C⟩:=jX N
 refine enter (vs:=[.agg #[I g.inp,t,s]]) Tryz.func28 H H H (T (cE H H λg1 w1 S x1 F=>cM rG H λR w2 J c l=>(bB (Y H ((F.aL c).ld ij H fE) (aC Uu H H ((Ro (bR.mk (jK (D.aL (x1.ai c)) (C.aL (x1.ai c)))) j.v)) ?_)))))
 rintro v4 w4 ⟨d,⟨_,rfl,L⟩⟩
 obtain⟨Z,aa,rfl,o,q⟩:=jX L
 obtain⟨v5,W,y,b,K,_⟩:=sX (P:=Tryz.prog) (w:=w4) (base:=w4.heap.size) (z:=.nilFunc) (bytes:=8) Tryz.underlying232 (by kernel_rfl:(Tryz.prog.info? 75).map (λi=>(i.zero,i.size,i.bytes))=some (some .nilFunc,1,8)) yN (λu k=>by simp only[yN,lF,vw,xe] at k;rcases k with rfl|rfl|rfl<;>rfl) aj (bV _)
 refine dJ H y (aC Up H H ((Ri (x.aL (((x1.ai c).ai d).ai b)) (bR.mk (jK (o.aL b) (q.aL b))) j (Sl.b2 K))) ?_)
 rintro U X ⟨e,⟨_,rfl,M⟩⟩
 obtain⟨ab,ad,rfl,f,h⟩:=jX M
 refine cl H H (l.aL ((d.ai b).ai e)) H fE (ay.a1 H (ay.a1 f.one (ay.a1 h.one ay.nil))) λV n G=>?_
 have Q:=ao.a2 ((((c.ai d).ai b).ai e)) n J
 have m:=Kq.br (p:=[2,3,3]) (l.aL ((d.ai b).ai e)) (aS rfl (aS rfl (aS rfl dj))) n
 refine O (aA (ff H (.cell H (G.ld ij H fE) .nil) ?_))
 exact⟨_,H,(x1.ai Q),bR.mk (jK (a:=g) (f.kq m) (h.kq m))⟩
theorem Kv:aY Tryz.prog 24:=⟨_,Tryz.func24,am,rfl⟩
theorem TG:aY Tryz.prog 6:=⟨_,Tryz.func6,am,rfl⟩
theorem SW:Fh lP where
 v:=Ka
 n:=by decide
 ne:=λf b=>by
  have h:f=⟨[⟨0,1⟩],0⟩∨f=⟨[⟨0,-1⟩],0⟩:=by simpa [lP] using b
  rcases h with rfl|rfl<;>simp
 tx:=λi j c a=>by
  have d:j<2:=a
  obtain rfl:j=1:=by omega
  obtain rfl:i=0:=by omega
  show jm ⟨[⟨0,1⟩],0⟩≠jm ⟨[⟨0,-1⟩],0⟩
  rw[aan,aao];decide
 all:=by decide
theorem absE:∀k,k<gH.lays.length→EvO (gH.lays.getD k mG) (kY gH.lays [-3] k):=λk e=>by
 have a:k<3:=e
 have h:∀k,k<3→(∀q∈kY gH.lays [-3] k,bt q≤1000)∧(kY gH.lays [-3] k).length≤1000∧(∀q∈(gH.lays.getD k mG).ws,bt q≤1000):=by decide+kernel
 have hs:∀k,k<3→∀r,r<2→∀j,j<3→bt (tG (gH.lays.getD k mG).ws (kY gH.lays [-3] k) ((gH.lays.getD k mG).bs.getD r 0) r j)≤1000:=by decide+kernel
 have f:∀k,k<3→(kY gH.lays [-3] k).length≤2∧(gH.lays.getD k mG).bs.length≤2∧((gH.lays.getD k mG).kd=1→(gH.lays.getD k mG).ws.length=(gH.lays.getD k mG).bs.length*(kY gH.lays [-3] k).length)∧((gH.lays.getD k mG).kd=1∨(gH.lays.getD k mG).kd=5):=by decide+kernel
 obtain⟨b,a2,a3⟩:=h k a
 obtain⟨g,i,c,d⟩:=f k a
 exact⟨d,b,G,G,c,a3,λr j m l=>hs k a r G j G⟩
theorem J9:kY gH.lays [-3] gH.lays.length=[3]:=by decide+kernel
theorem Sr:Calls Tryz.prog 26 #[I 1] w (aJ λr w'=>ao w w'∧QV 1 r w'):=BV (x:=1) G G
theorem Su:Calls Tryz.prog 26 #[I (-1)] w (aJ λr w'=>ao w w'∧QV (-1) r w'):=BV (x:= -1) G G
theorem St:Calls Tryz.prog 26 #[I 3] w (aJ λr w'=>ao w w'∧QV 3 r w'):=BV (x:=3) G G
theorem JE:Calls Tryz.prog 26 #[I (-3)] w (aJ λr w'=>ao w w'∧QV (-3) r w'):=BV (x:= -3) G G
theorem GU {a b:Rat} {c d:List Value} (h:Rp w (dQ a) c) (k:Rp w (dQ b) d):∃r w',(Instr.buildSlice 42 2 #[(0,.agg c.toArray),(1,.agg d.toArray)]).run Tryz.prog w=.ok r w'∧ao w w'∧aD dQ [a,b] r w':=by
 obtain⟨r,w',j,m⟩:=He (w:=w) (f:=dQ) (l:=[a,b]) (vs:=[c,d]) cn Gx rfl aF (λ_=>rfl) (λi e g=>by
  match i with
  |0=>obtain rfl:c=e:=by simpa using g
      exact⟨a,H,h⟩
  |1=>obtain rfl:d=e:=by simpa using g
      exact⟨b,H,k⟩
  |i+2=>simp at g) rfl aj aj
 exact⟨r,w',by simpa [gO] using j,m⟩
theorem Xp {a b c:cm} {d g h:List Value} (n:Rp w (fS a) d) (o:Rp w (fS b) g) (p:Rp w (fS c) h):∃r w',(Instr.buildSlice 23 3 #[(0,.agg d.toArray),(1,.agg g.toArray),(2,.agg h.toArray)]).run Tryz.prog w=.ok r w'∧ao w w'∧aD fS [a,b,c] r w':=by
 obtain⟨r,w',k,m⟩:=He (w:=w) (f:=fS) (l:=[a,b,c]) (vs:=[d,g,h]) dP ME rfl aF (λ_=>rfl) (λi e j=>by
  match i with
  |0=>obtain rfl:d=e:=by simpa using j
      exact⟨a,H,n⟩
  |1=>obtain rfl:g=e:=by simpa using j
      exact⟨b,H,o⟩
  |2=>obtain rfl:h=e:=by simpa using j
      exact⟨c,H,p⟩
  |i+3=>simp at j) rfl aj aj
 exact⟨r,w',by simpa [gO] using k,m⟩
theorem Qk:
 Calls Tryz.prog 24 #[] w (aJ λr w'=>ao w w'∧∃x y,r=.agg #[x,y]∧aD bJ gH.inp x w'∧aD fS gH.lays y w'):=by
 refine enter Tryz.func24 H H H (T (cM vl H λg0 w0 l0 x0 k0=>(bB (aC Ak H H (Sr) ?_))))
 rintro v3 w3 ⟨Z,⟨z,A,rfl,l,m⟩⟩
 refine aC Ak H H (Su) ?_
 rintro v4 w4 ⟨C,⟨av,aw,rfl,L,M⟩⟩
 refine cM iH H λg1 w1 l1 x1 t=>cM iH H λg2 w2 u X k2=>cl H H (t.aL X) H bW (ay.a1 H (ay.a1 l.one (ay.a1 m.one ay.nil))) λax P ai=>?_
 have ar:=ao.a2 ((x1.ai X)) P l1
 have ah:=(k2.a4 P λe=>by have h1:=t.lt;have h2:=u;have h4:=cC e;omega)
 refine cl H H ah H bW (ay.a1 H (ay.a1 L.one (ay.a1 M.one ay.nil))) λaq Q aj=>?_
 have j:=ao.a2 (ar) Q (cf (x1).size u)
 refine bB ?_
 obtain⟨v5,w5,af,f,o⟩:=tQ (w:=aq) (1)
 refine dJ (vs:=[(0,I 1)]) H af ?_
 have s:=((ai.a4 Q λe=>by have h1:=t.lt;have h2:=u;have h4:=cC e;omega).aL f)
 refine Y H (s.ld bI H bW) (Y H ((aj.aL f).ld bI H bW) ?_)
 have q:=(C.ai j).ai f
 obtain⟨W,w8,ag,h,J⟩:=GU (w:=w5) (lS (a:=(1:Rat)) (l.aL q) (m.aL q)) (lS (a:=(-1:Rat)) (L.aL (j.ai f)) (M.aL (j.ai f)))
 refine j3 (vs:=[(0,.agg #[B ((1:Rat)).sg,z,A]),(1,.agg #[B ((-1:Rat)).sg,av,aw])]) H H ag (dY (r:=.agg #[B false,.slice none 0 0,.slice none 0 0]) H (by exact run_build _ _ _ _ am) (dY (r:=.agg #[B false,.slice none 0 0,.slice none 0 0]) H (by exact run_build _ _ _ _ am) ?_))
 obtain⟨S,al,aa,d,D⟩:=GU (w:=w8) (lS (a:=0) (aO.nil _) (aO.nil _)) (lS (a:=0) (aO.nil _) (aO.nil _))
 refine dJ (vs:=[(0,.agg #[B false,.slice none 0 0,.slice none 0 0]),(1,.agg #[B false,.slice none 0 0,.slice none 0 0])]) H aa (dY (r:=.agg #[I 1,I 0,I 2,I 0,I 0,I 0,I 0,W,S]) H (by obtain⟨_,_,_,rfl⟩:=D.a9;obtain⟨_,_,_,rfl⟩:=J.a9;exact run_build _ _ _ _ am) (dY (r:=.agg #[I 5,I 0,I 0,I 0,I 0,I 0,I 0,.slice none 0 0,.slice none 0 0]) H (by exact run_build _ _ _ _ am) (Y H ((s.aL (h.ai d)).ld bI H bW) (Y H ((s.aL (h.ai d)).ld bI H bW) ?_))))
 have k:=(q.ai h).ai d
 obtain⟨U,an,ab,i,F⟩:=GU (w:=al) (lS (a:=(1:Rat)) (l.aL k) (m.aL k)) (lS (a:=(1:Rat)) (l.aL k) (m.aL k))
 refine j3 (vs:=[(0,.agg #[B ((1:Rat)).sg,z,A]),(1,.agg #[B ((1:Rat)).sg,z,A])]) H H ab (dY (r:=.agg #[B false,.slice none 0 0,.slice none 0 0]) H (by exact run_build _ _ _ _ am) ?_)
 obtain⟨V,ap,ad,g,G⟩:=sK (w:=an) (lS (a:=0) (aO.nil _) (aO.nil _))
 refine dJ (vs:=[(0,.agg #[B false,.slice none 0 0,.slice none 0 0])]) H ad (dY (r:=.agg #[I 1,I 0,I 1,I 0,I 0,I 0,I 0,U,V]) H (by obtain⟨_,_,_,rfl⟩:=F.a9;obtain⟨_,_,_,rfl⟩:=G.a9;exact run_build _ _ _ _ am) ?_)
 obtain⟨v20,az,ae,v,n⟩:=Xp (w:=ap) (a:=zR) (b:=zS) (c:=zT) (wj (a:=zR) (J.aL ((d.ai i).ai g)) (D.aL (i.ai g))) (wj (a:=zS) (aD.nil _ _) (aD.nil _ _)) (wj (a:=zT) (F.aL g) G)
 refine dJ (vs:=[(0,.agg #[I 1,I 0,I 2,I 0,I 0,I 0,I 0,W,S]),(1,.agg #[I 5,I 0,I 0,I 0,I 0,I 0,I 0,.slice none 0 0,.slice none 0 0]),(2,.agg #[I 1,I 0,I 1,I 0,I 0,I 0,I 0,U,V])]) H ae (dY (r:=.agg #[v5,v20]) H (by obtain⟨_,_,_,rfl⟩:=n.a9;obtain⟨_,_,_,rfl⟩:=o.a9;exact run_build _ _ _ _ am) ?_)
 have K:=(((((((Z.ai C).ai j).ai f).ai h).ai d).ai i).ai g).ai v
 refine cl H H (k0.aL K) H eR (ay.a1 o.one (ay.a1 n.one ay.nil)) λaB R ak=>?_
 have au:=ao.a2 ((((((((((x0.ai Z).ai C).ai j).ai f).ai h).ai d).ai i).ai g).ai v)) R l0
 have N:=Kq.br (p:=[3,3]) (k0.aL K) (aS rfl (aS rfl dj)) R
 refine O (aA (ff H (.cell H (ak.ld fz H eR) .nil) ?_))
 exact⟨_,H,au,_,_,H,(o.aL ((((h.ai d).ai i).ai g).ai v)).kq N,n.kq N⟩
theorem Iq:
 Calls Tryz.prog 24 #[] w (aJ λr w'=>ao w w'∧bR Ap gH r w'):=
 aJ.mono Qk λ_ _ ⟨e,_,_,h,b,c⟩=>⟨e,_,h,VS (a:=gH) b c⟩
theorem Qo (S:kV w):
 Calls Tryz.prog 6 #[] w (aJ λr w'=>ao w w'∧Is (B true) r w'):=by
 refine enter Tryz.func6 H H H (T (Z H (bB (aC Kv H H (Iq) ?_))))
 rintro v9 w9 ⟨x9,⟨_,rfl,r9⟩⟩
 obtain⟨a8,a9,rfl,Q,R⟩:=Ls r9
 refine aC F4 H H ((by have h:=Fw Q R Kc;rw[SS] at h;exact h)) ?_
 rintro ax aP ⟨ak,⟨_,_,rfl,⟨_,rfl,ae⟩,rfl⟩⟩
 obtain⟨a2,a3,rfl,o,p⟩:=jX ae
 refine J H (aZ H dm (aZ H dn (cM rG H λg1 w1 l1 x1 k1=>cl H H k1 H fE (ay.a1 H (ay.a1 o.one (ay.a1 p.one ay.nil))) λaT ad ab=>?_)))
 have q:=ao.a2 (x1) ad l1
 refine Z H (bB (aC Kv H H (Iq) ?_))
 rintro az aQ ⟨f,⟨_,rfl,af⟩⟩
 obtain⟨a4,a5,rfl,A,C⟩:=Ls af
 refine aC Ak H H (JE) ?_
 rintro aB ah ⟨b,⟨al,am,rfl,D,F⟩⟩
 obtain⟨aD,aR,W,c,u⟩:=sK (w:=ah) (lS (a:=((-3:Rat))) D F)
 refine j3 (vs:=[(0,.agg #[B ((-3:Rat)).sg,al,am])]) H H W (aC TU H H ((by have h:=QK (xs:=[-3]) (A.aL (b.ai c)) (C.aL (b.ai c)) u Kc aF absE aF (by rw[J9];decide);rw[J9] at h;exact h)) ?_)
 rintro aE aS ⟨g,⟨av,_,rfl,v,rfl⟩⟩
 refine J H (aZ H dm (aZ H dn (Z H (Z H (bB (Y H ((ab.aL (((f.ai b).ai c).ai g)).ld ij H fE) ?_))))))
 have m:=(((((x9.ai ak).ai q).ai f).ai b).ai c).ai g
 have n:=(((q.ai f).ai b).ai c).ai g
 refine aC UA H H ((Rx (S.aL m) (bR.mk (jK (o.aL n) (p.aL n))) SW)) ?_
 rintro aG aU ⟨s,⟨_,rfl,ag⟩⟩
 obtain⟨a6,a7,rfl,G,K⟩:=jX ag
 refine aC Ak H H (JE) ?_
 rintro aH ai ⟨d,⟨an,ap,rfl,L,M⟩⟩
 obtain⟨v24,aW,X,e,y⟩:=sK (w:=ai) (lS (a:=((-3:Rat))) L M)
 refine j3 (vs:=[(0,.agg #[B ((-3:Rat)).sg,an,ap])]) H H X (aC T8 H H ((by have h:=QS (x:=[-3]) (bR.mk (jK (G.aL (d.ai e)) (K.aL (d.ai e)))) y Ka aF SR SV;rw[SU] at h;exact h)) ?_)
 rintro aI aX ⟨t,⟨aw,_,rfl,z,rfl⟩⟩
 refine J H (aZ H dm (aZ H dn (Z H (Z H (bB (aC Ak H H (St) ?_))))))
 rintro aK aj ⟨i,⟨aq,ar,rfl,N,P⟩⟩
 obtain⟨aL,aY,aa,j,l⟩:=sK (w:=aj) (lS (a:=((3:Rat))) N P)
 refine j3 (vs:=[(0,.agg #[B ((3:Rat)).sg,aq,ar])]) H H aa (Z H (bB (J H (U H (cu H aV) (J H (V H (J H (V H (U H (cu H aV) (bA H (J H (V H (J H (V H (U H (cu H aV) (bA H (J H (V H (J H (V H (J H (V H (aC K0 H H ((JF (v.aL (((((s.ai d).ai e).ai t).ai i).ai j)) l)) ?_)))))))))))))))))))))))
 rintro aN a0 ⟨k,rfl⟩
 refine bA H (J H (V H (J H (V H (J H (V H (aC K0 H H ((JF (z.aL ((i.ai j).ai k)) (l.aL k))) ?_)))))))
 rintro aO a1 ⟨au,rfl⟩
 refine bA H (Z H (O (aA (aM H ?_))))
 exact⟨_,H,((((((((m.ai s).ai d).ai e).ai t).ai i).ai j).ai k).ai au),H⟩
theorem GQ:∀{l:List df},nH l=true→gX l≤29*l.length
 |[],_=>by simp[gX]
 |q::l,h=>by
  unfold nH at h
  rw[xI,ex] at h
  have a:=ip h.1
  have b:=GQ (l:=l) h.2
  rw[gX,cw];omega
theorem MW:∀{ls:List cG},(∀l∈ls,mV l)→j2 ls≤3200*ls.length
 |[],_=>by simp[j2]
 |l::ls,h=>by
  have a:=h l EH
  have c:=GQ a.w1
  have d:=GQ a.b1
  have e:=MW (ls:=ls) λx b=>h x (EG _ b)
  have f:=a.ws
  have g:=a.bs
  rw[j2,cw];omega
theorem Nl {M:gF} {shs:List (List Int)} (d:mh M shs) (e:M.ba.wf):qh M.ba∧wT M.ba≤100000∧(jO M.ba).length≤1048576:=by
 have c:∀l∈M.ba.lays,mV l:=λl b=>by
  obtain⟨a,g,rfl⟩:=fF.1 b
  exact d.b a g
 have hs:qh M.ba:=λl b=>⟨y8 (c l b).w1,y8 (c l b).b1⟩
 have r:M.ba.lays.length≤6:=by
  show(M.lays.map cm.ba).length≤6
  rw[dN];exact d.n
 have hi:M.ba.inp.length≤4:=(vd d.i0).1.2
 have j:=MW c
 have k:=rD (n:=M.ba.inp.length) G
 have m:=rD (n:=M.ba.lays.length) G
 have o:=GB e.1
 have key:∀ls:List cG,(∀l∈ls,(lB l.ws∧lB l.bs)∧l.wf∧l.ws.length≤9223372036854775807∧l.bs.length≤9223372036854775807)→(ls.flatMap pz).length≤j2 ls:=by
  intro ls
  induction ls with
  |nil=>intro _;simp[j2]
  |cons a ls i=>
   intro h
   obtain⟨f,a2,a3,a4⟩:=h a aj
   have:=LP f a2 a3 a4
   have:=i λl b=>h l (by simp[b])
   simp only[zr,cr,j2]
   omega
 have p:=key M.ba.lays λl h=>⟨hs l h,e.2 l h,cf (c l h).ws G,cf (c l h).bs G⟩
 have q:(iT M.ba).length≤20+10*M.ba.inp.length+j2 M.ba.lays:=by
  unfold iT
  simp only[cr]
  omega
 refine⟨hs,by unfold wT;omega,?_⟩
 unfold jO
 simp only[cr,nF,show gR.length=4 from rfl]
 omega
theorem Qf {M:gF} {shs:List (List Int)} {x:Value} (f:aD bJ M.inp x w) (g:aD fS M.lays y w) (a:mh M shs) (b:M.ba.wf):
 Calls Tryz.prog 8 #[.agg #[x,y]] w (aJ λr w'=>ao w w'∧∃v,r=.tuple #[v,I 0]∧cV (jO M.ba) v w'):=by
 obtain⟨c,j,d⟩:=Nl a b
 refine aJ.mono (Qg (m:=M.ba) f (aD.lays.2 g) c b G) λ_ _ ⟨e,v,h,k⟩=>?_
 have i:sD M.ba=(jO M.ba,0):=by unfold sD;rw[if_pos a.v,if_pos d]
 rw[i] at h k
 exact⟨e,v,h,k.b8⟩
theorem Qd {M:gF} {shs:List (List Int)} (g:cV (jO M.ba) v w) (a:mh M shs) (c:M.ba.wf):
 Calls Tryz.prog 9 #[v] w (aJ λr w'=>ao w w'∧∃p q,r=.tuple #[.agg #[p,q],I 0]∧aD bJ M.inp p w'∧aD fS M.lays q w'):=by
 obtain⟨d,l,f⟩:=Nl a c
 refine aJ.mono (Qe g) λ_ _ ⟨e,p,q,h,k⟩=>?_
 rw[VZ a.v d c G f] at h k
 obtain⟨m,n,b,i,j⟩:=Ct k.rp
 simp only[List.cons.injEq,vP] at b
 obtain⟨rfl,rfl⟩:=b
 exact⟨e,_,_,h,i,aD.lays.1 j⟩
theorem SF {m:fj} {x:Value} (a:aD bJ m.inp x w) (c:aD gp m.lays y w):
 Calls Tryz.prog 7 #[.agg #[x,y]] w (aJ λr w'=>ao w w'∧∃b,r=B b∧(b=true→∃M shs,m=M.ba∧mh M shs)):=
 aJ.mono (SG a c) λ_ _ ⟨e,h⟩=>⟨e,by
  rcases h with h|⟨h,k⟩
  ·exact⟨false,h,λh=>by cases h⟩
  ·exact⟨true,h,λ_=>k⟩⟩
theorem SD {M:gF} {x p q:Value} (c:aD bJ M.inp x w) (d:aD fS M.lays y w) (f:aD bJ M.inp p w) (g:aD fS M.lays q w):
 Calls Tryz.prog 11 #[.agg #[x,y],.agg #[p,q]] w (aJ λr w'=>ao w w'∧Is (B true) r w'):=
 aJ.mono (SC (a:=M.ba) (b:=M.ba) c (aD.lays.2 d) f (aD.lays.2 g)) λ_ _ ⟨e,h⟩=>⟨e,by rw[h,dH rfl];rfl⟩
theorem M5 {α:Type} {f:α→Dt} {p:α→Prop}:∀(l:List Dt),(∀d∈l,∃x,d=f x∧p x)→∃m:List α,l=m.map f∧∀x∈m,p x
 |[],_=>⟨[],rfl,aj⟩
 |d::l,h=>by
  obtain⟨x,rfl,b⟩:=h d aj
  obtain⟨m,rfl,hm⟩:=M5 l λe a=>h e (by simp[a])
  exact⟨x::m,H,by simpa using⟨b,hm⟩⟩
theorem Ty.dU {t e:TypeId} {d:Dt} {α:Type} {f:α→Dt} {p:α→Prop} (c:P.underlying t=some (.slice e)) (b:∀x,Ty P e x→∃y,x=f y∧p y) (h:Ty P t d):∃l:List α,d=.sl (l.map f)∧∀x∈l,p x:=by
 obtain⟨l,rfl,a⟩:=h.dX c
 obtain⟨m,rfl,hm⟩:=M5 l λx g=>b x (a x g)
 exact⟨m,H,hm⟩
theorem dat2 {α:Type} {l:List α} (h:l.length=2):∃a b,l=[a,b]:=by
 match l,h with
 |[a,b],_=>exact⟨a,b,rfl⟩
theorem dat3 {α:Type} {l:List α} (h:l.length=3):∃a b c,l=[a,b,c]:=by
 match l,h with
 |[a,b,c],_=>exact⟨a,b,c,rfl⟩
theorem dat9 {α:Type} {l:List α} (h:l.length=9):∃a b c d e f g i j,l=[a,b,c,d,e,f,g,i,j]:=by
 match l,h with
 |[a,b,c,d,e,f,g,i,j],_=>exact⟨a,b,c,d,e,f,g,i,j,rfl⟩
theorem Ty.eA {d:Dt} (g:Ty Tryz.prog 49 d):∃q:df,d=dK q:=by
 obtain⟨l,rfl,f,e⟩:=g.dr bI
 obtain⟨a,b,c,rfl⟩:=dat3 (show l.length=3 from f)
 obtain⟨s,rfl⟩:=(e 0 _ a rfl rfl).eB dw
 obtain⟨n,rfl⟩:=(e 1 _ b rfl rfl).d2 aT bN
 obtain⟨m,rfl⟩:=(e 2 _ c rfl rfl).d2 aT bN
 exact⟨(s,n,m),H⟩
theorem Ty.db {d:Dt} (a:Ty Tryz.prog 42 d):∃l:List df,d=nb l:=a.ef cn λ_ b=>Ty.eA b
theorem Ty.b4 {d:Dt} (a:Ty Tryz.prog 3 d):∃n:Int,d=bJ n∧j1 n:=by
 obtain⟨n,rfl,b⟩:=a.d3 aE
 exact⟨n,H,wf_I b⟩
theorem Ty.eM {d:Dt} (m:Ty Tryz.prog 78 d):∃l:cG,d=gp l∧l.wf:=by
 obtain⟨l,rfl,k,a⟩:=m.dr dG
 obtain⟨d0,d1,c,e,f,g,h,i,j,rfl⟩:=dat9 (show l.length=9 from k)
 obtain⟨n0,rfl,w0⟩:=Ty.b4 (a 0 _ d0 rfl rfl)
 obtain⟨n,rfl,w1⟩:=Ty.b4 (a 1 _ d1 rfl rfl)
 obtain⟨o,rfl,w2⟩:=Ty.b4 (a 2 _ c rfl rfl)
 obtain⟨p,rfl,t⟩:=Ty.b4 (a 3 _ e rfl rfl)
 obtain⟨q,rfl,w4⟩:=Ty.b4 (a 4 _ f rfl rfl)
 obtain⟨r,rfl,u⟩:=Ty.b4 (a 5 _ g rfl rfl)
 obtain⟨s,rfl,v⟩:=Ty.b4 (a 6 _ h rfl rfl)
 obtain⟨w,rfl⟩:=Ty.db (a 7 _ i rfl rfl)
 obtain⟨b,rfl⟩:=Ty.db (a 8 _ j rfl rfl)
 refine⟨⟨n0,n,o,p,q,r,s,w,b⟩,H,?_⟩
 simp only[cG.wf,cG.ints,lF,vw,xe,Gu,forall_eq]
 exact⟨w0,w1,w2,t,w4,u,v⟩
theorem aa0 {W:World} {d:Dt} (g:v=.agg cs.toArray) (e:Rp W d cs) (f:Ty Tryz.prog 25 d):
 ∃(m:fj) (x y:Value),v=.agg #[x,y]∧aD bJ m.inp x W∧aD gp m.lays y W∧m.wf∧d=oS m:=by
 obtain⟨l,rfl,c,b⟩:=f.dr fz
 obtain⟨d0,d1,rfl⟩:=dat2 (show l.length=2 from c)
 obtain⟨inp,rfl,hi⟩:=(b 0 _ d0 rfl rfl).dU cd λ_ a=>Ty.b4 a
 obtain⟨lays,rfl,hs⟩:=(b 1 _ d1 rfl rfl).dU dP λ_ a=>Ty.eM a
 obtain⟨x,y,rfl,a,h⟩:=Ct (m:=⟨inp,lays⟩) e
 exact⟨⟨inp,lays⟩,x,y,g,a,h,⟨hi,hs⟩,H⟩
theorem Xr {M:gF} {shs:List (List Int)} (a:mh M shs):nT (rg M shs)∧(rg M shs).inp+(rg M shs).us.length<100∧(rg M shs).os.length<100:=by
 have b:=GW a M.lays.length (bV _)
 have c:=a.n
 have p:=a.l
 obtain⟨q,_⟩:=rk a.i0
 have r:=a.s0
 have n:=b.c
 have v:=a.u
 have m:dF (dy M.inp shs M.lays.length)=true:=HS a.i0 a.p.all G
 obtain⟨t,_⟩:=rk m
 have u:=a.s24 (j:=M.lays.length) G
 have x:=b.x M.lays.length (bV _)
 have w:(rg M shs).us.length=(fW (cS M.inp) M.lays (dy M.inp shs) M.lays.length).2.length:=rfl
 have s:(rg M shs).os.length=((fW (cS M.inp) M.lays (dy M.inp shs) M.lays.length).1.getD M.lays.length []).length:=rfl
 have o:(rg M shs).inp=cS M.inp:=rfl
 have d:=Ej M.lays M.lays.length
 have e:=IA a.b c (i:=M.lays.length) (bV _)
 have g:=I5 (i:=M.lays.length) c
 refine⟨⟨G,G,G,G,G,λj l=>?_,λf k=>?_⟩,G,G⟩
 ·have h:=b.u j l
  exact⟨h.ok,h.small G G d e g⟩
 ·have h:=b.b M.lays.length (bV _) f k
  exact⟨h.ok,h.small G G d e g⟩
theorem aaY {m:fj} {x:Value} (j:aD bJ m.inp x w) (D:aD gp m.lays y w) (ab:m.wf) (C:kV w):
 Calls Tryz.prog 3 #[.agg #[x,y]] w (aJ λr w'=>r=B true∧ao w w'):=by
 have ka:=j.kd
 have kb:=D.kd
 refine enter (vs:=[.agg #[x,y]]) Tryz.func3 H H H (T (cE H H λg1 w1 l1 x1 n=>(Z H (O (ah (T (aC TG H H ((Qo (C.aL x1))) ?_)))))))
 rintro aE aS ⟨c,rfl⟩
 refine cP H cW (O (be H (aH (al (ah (T (Y H ((n.aL c).ld fz H eR) (aC Vc H H ((SF (j.aL (x1.ai c)) (D.aL (x1.ai c)))) ?_))))))))
 rintro aG aT ⟨e,aj,rfl,an⟩
 refine cP H cW (O (lQ H (λaa=>?_) (λaa=>?_)))
 ·refine T (Z H (O (aA (aI (aM H ?_)))))
  exact⟨_,H,H,((x1.ai c).ai e)⟩
 ·have ap:aj=true:=by simpa using aa
  obtain⟨M,shs,rfl,i⟩:=an ap
  have A:aD fS M.lays y w:=aD.lays.1 D
  obtain⟨L,F,K⟩:=Xr i
  obtain⟨G,z⟩:∃G,G=rg M shs:=⟨_,rfl⟩
  rw[←z] at L F K
  refine aH (al (T (Y H ((n.aL (c.ai e)).ld fz H eR) (aC TC H H ((Qf (j.aL ((x1.ai c).ai e)) (A.aL ((x1.ai c).ai e)) i ab)) ?_))))
  rintro aK aU ⟨ag,aL,rfl,ak⟩
  refine J H (aZ H (dm) (aZ H (dn) (Z H (Z H (bB (J H (aC TA H H ((Qd ak i ab)) ?_)))))))
  rintro aN aW ⟨ai,az,aB,rfl,N,P⟩
  refine J H (aZ H (dm) (aZ H (dn) (cM vl H λg5 w5 l5 x5 k5=>cl H H k5 H eR (ay.a1 N.one (ay.a1 P.one ay.nil)) λa1 ar ae=>?_)))
  have Q:=ao.a2 (x5) ar l5
  refine Z H (O (ah (T (J H (U H (aX aF dZ) (J H (V H (J H (V H (U H (aX aF dZ) ?_))))))))))
  have R:=(((c.ai e).ai ag).ai ai).ai Q
  refine t H (O (be H (aH (al (T (Y H ((n.aL R).ld fz H eR) ?_))))))
  have o:=((((x1.ai c).ai e).ai ag).ai ai).ai Q
  refine aC F4 H H ((by have h:=Fw (j.aL o) (A.aL o) i;rw[←z] at h;exact h)) ?_
  rintro aO aY ⟨k,⟨_,_,rfl,⟨_,rfl,av⟩,rfl⟩⟩
  obtain⟨a4,a5,rfl,q,s⟩:=jX av
  refine J H (aZ H dm (aZ H dn (cM rG H λg7 w7 l7 x7 k7=>cl H H k7 H fE (ay.a1 H (ay.a1 q.one (ay.a1 s.one ay.nil))) λa2 au af=>?_)))
  have f:=ao.a2 (x7) au l7
  have p:=(Q.ai k).ai f
  refine Z H (bB (Y H ((ae.aL (k.ai f)).ld fz H eR) (aC F4 H H ((by have h:=Fw (N.aL p) (P.aL p) i;rw[←z] at h;exact h)) ?_)))
  rintro aP a0 ⟨d,⟨_,_,rfl,⟨_,rfl,aw⟩,rfl⟩⟩
  obtain⟨a6,a7,rfl,u,v⟩:=jX aw
  refine J H (aZ H dm (aZ H dn (cM rG H λg9 w9 l9 x9 k9=>cl H H k9 H fE (ay.a1 H (ay.a1 u.one (ay.a1 v.one ay.nil))) λaR aq ad=>?_)))
  have b:=ao.a2 (x9) aq l9
  refine Z H (O (ah (cz 23 [64] am am (W H (bn H (λw _=>cu H aV) (W H (X H (W H (X H (bn H (λw _=>cu H aV) (jN H (W H (X H (aQ H (λw a=>((n.aL ((((R.ai k).ai f).ai d).ai b)).aL a).ld fz H eR) (X H (aQ H (λw a=>((ae.aL (((k.ai f).ai d).ai b)).aL a).ld fz H eR) ?_))))))))))))))))
  have g:=(((o.ai k).ai f).ai d).ai b
  have e6:=(p.ai d).ai b
  refine X H (my (S:=Is (B true)) Va (cN.is _) H H H (λw a=>SD (j.aL ((g).ai a)) (A.aL ((g).ai a)) (((N.aL e6)).aL a) (((P.aL e6)).aL a)) (jN H (W H (X H (aQ H (λw a=>((af.aL (d.ai b)).aL a).ld ij H fE) ?_)))))
  have l:=(f.ai d).ai b
  refine X H (aQ H (λw a=>(ad.aL a).ld ij H fE) (X H (my (S:=Is (B true)) TZ (cN.is _) H H H (λw a=>QR ((bR.mk (jK (q.aL l) (s.aL l))).aL a) ((bR.mk (jK (u.aL b) (v.aL b))).aL a)) (jN H (W H (X H (aQ H (λw a=>((af.aL (d.ai b)).aL a).ld ij H fE) (X H (fP (S:=Is (S (H3 G))) KA (cN.is _) H H (λw a=>IE (C.aL ((g).ai a)) ((bR.mk (jK (q.aL l) (s.aL l))).aL a) L F K) (X H (aQ H (λw a=>(ad.aL a).ld ij H fE) (X H (fP (S:=Is (S (H3 G))) KA (cN.is _) H H (λw a=>IE (C.aL ((g).ai a)) ((bR.mk (jK (u.aL b) (v.aL b))).aL a) L F K) (X H (bn H (λw _=>cu H YL) (jN H (cq ?_)))))))))))))))))
  rintro a3 ax _ rfl
  refine Z H (O (aA (aM H ?_)))
  exact⟨_,H,H,(g.ai ax)⟩
end Go.Rl
namespace Go.Proofs.YtddonikjkohphaaGreatDoor
open Go Go.RowKit Go.Rl
noncomputable def aaZ (os:Os):World:=
 {World.holding Tryz.prog os ⟨#[],#[],[]⟩ with heap:=((((World.holding Tryz.prog os ⟨#[],#[],[]⟩).heap.modify 1 fun
  |.cells _ t frozen=>.cells #[.int .u8 0,.int .u8 1,.int .u8 28,.int .u8 2,.int .u8 29,.int .u8 14,.int .u8 24,.int .u8 3,.int .u8 30,.int .u8 22,.int .u8 20,.int .u8 15,.int .u8 25,.int .u8 17,.int .u8 4,.int .u8 8,.int .u8 31,.int .u8 27,.int .u8 13,.int .u8 23,.int .u8 21,.int .u8 19,.int .u8 16,.int .u8 7,.int .u8 26,.int .u8 12,.int .u8 18,.int .u8 6,.int .u8 11,.int .u8 5,.int .u8 10,.int .u8 9] t frozen
  |o=>o).modify 2 fun
  |.cells _ t frozen=>.cells #[.int .u8 0,.int .u8 1,.int .u8 56,.int .u8 2,.int .u8 57,.int .u8 49,.int .u8 28,.int .u8 3,.int .u8 61,.int .u8 58,.int .u8 42,.int .u8 50,.int .u8 38,.int .u8 29,.int .u8 17,.int .u8 4,.int .u8 62,.int .u8 47,.int .u8 59,.int .u8 36,.int .u8 45,.int .u8 43,.int .u8 51,.int .u8 22,.int .u8 53,.int .u8 39,.int .u8 33,.int .u8 30,.int .u8 24,.int .u8 18,.int .u8 12,.int .u8 5,.int .u8 63,.int .u8 55,.int .u8 48,.int .u8 27,.int .u8 60,.int .u8 41,.int .u8 37,.int .u8 16,.int .u8 46,.int .u8 35,.int .u8 44,.int .u8 21,.int .u8 52,.int .u8 32,.int .u8 23,.int .u8 11,.int .u8 54,.int .u8 26,.int .u8 40,.int .u8 15,.int .u8 34,.int .u8 20,.int .u8 31,.int .u8 10,.int .u8 25,.int .u8 14,.int .u8 19,.int .u8 9,.int .u8 13,.int .u8 8,.int .u8 7,.int .u8 6] t frozen
  |o=>o).modify 0 fun
  |.cells _ t frozen=>.cells #[.int .u64 1,.int .u64 10,.int .u64 100,.int .u64 1000,.int .u64 10000,.int .u64 100000,.int .u64 1000000,.int .u64 10000000,.int .u64 100000000,.int .u64 1000000000,.int .u64 10000000000,.int .u64 100000000000,.int .u64 1000000000000,.int .u64 10000000000000,.int .u64 100000000000000,.int .u64 1000000000000000,.int .u64 10000000000000000,.int .u64 100000000000000000,.int .u64 1000000000000000000,.int .u64 10000000000000000000] t frozen
  |o=>o)}
end Go.Proofs.YtddonikjkohphaaGreatDoor
namespace Go.Rl
open Go.RowKit Go.Proofs Go.Proofs.YtddonikjkohphaaGreatDoor
theorem Wy:(Tryz.prog.globals[0]?).map (·.type)=some 348:=by kernel_rfl
theorem Vs:Tryz.prog.cellsOf 348=20:=by kernel_rfl
theorem Vt:Tryz.prog.cellsOf 175=1:=by kernel_rfl
theorem kV.fU {W:World} (h:laidMetH Tryz.prog [("math/bits.deBruijn32tab",Rows.laid_math_bits_deBruijn32tab),("math/bits.deBruijn64tab",Rows.laid_math_bits_deBruijn64tab),("internal/strconv.uint64pow10",Rows.laid_internal_strconv_uint64pow10)] W):kV W:=by
 obtain⟨ps,a,_⟩:=(show laidMet Tryz.prog _ W from h)
 obtain⟨_,_,_,_,_,_,_,_,_,_,a,_⟩:=a
 obtain⟨_,_,_,_,_,_,_,_,_,_,a,_⟩:=a
 obtain⟨g',g,cs,fuel,p,q,c,d,f,b,_,_⟩:=a
 obtain rfl:=cC (Mp.symm.ai c)
 obtain rfl:=cC (Wy.symm.ai d)
 have e:(Rows.laid_internal_strconv_uint64pow10:DataW Unit)=Lib.tabData .u64 Lib.pow10Tab:=am
 rw[e] at b
 unfold kV Lib.TabIs
 rw[f,←Lib.cells_of_tab Tryz.underlying348 cU Vt Vs b]
end Go.Rl

/- Part 6 of a proof: plain facts and walks of functions, merged by a program. Conditions: each lemma names its own. -/
import Derived.Test.YtpeidnhjcompmaaGreatDoorJc5
namespace Go.Rl
open Go.RowKit Go.Proofs
theorem jG.is {base n:Nat} {b d:List UInt8} {ws:List bZ} {r:Value} {w':World} (h:jG base b r w') (e:iL b=((d,ws,n),0)):∃ve,r=.tuple #[.agg (d.map U8).toArray,ve,I (n:Int),I 0]∧cN (fun k=>k<base) w' (.sl (ws.map i7)) [ve]:=by
 unfold jG at h
 rw[e] at h
 exact h
structure Ke (d:List UInt8) (es:List bZ):Prop where
 short:∀u∈es,KG u
 few:es.length≤1073741824
 enc:(fc (cp d) (es.filter bQ)).length≤7340032
 backs:tC (es.filter bQ)
theorem yb (es:List bZ) (p:bZ→Bool):Dt.bulkAll ((es.filter p).map i7)≤Dt.bulkAll (es.map i7)∧jH (es.filter p)≤jH es:=by
 induction es with
 |nil=>exact⟨Nat.le_refl _,Nat.le_refl _⟩
 |cons a l ih=>
  by_cases h:p a=true
  ·rw[List.filter_cons_of_pos h]
   simp only[List.map_cons,Dt.bulkAll,jH,List.sum_cons] at ih⊢
   omega
  ·rw[List.filter_cons_of_neg h]
   simp only[List.map_cons,Dt.bulkAll,jH,List.sum_cons] at ih⊢
   omega
theorem yc {u:bZ} (h:bQ u=true):u.leaf.kids.length=0:=by
 cases hk:decide (u.leaf.kids.length=0) with
 |true=>exact of_decide_eq_true hk
 |false=>
  have:=cE (u:=u) (.inr (.inl (by have:=of_decide_eq_false hk;omega)))
  rw[h] at this
  cases this
theorem Ke.mk' {d:List UInt8} {es:List bZ} (hd:d.length=32) (hb:Dt.bulkAll (es.map i7)≤1048576) (hw:∀u∈es,A6 u) (hf:jH es≤120):Ke d es:=by
 have hm:∀u∈es,(i7 u).bulk≤1048576:=fun u hu=>Nat.le_trans (pR hu) hb
 obtain⟨f1,f2⟩:=yb es bQ
 have hin:∀u∈es.filter bQ,u∈es∧bQ u=true:=fun u hu=>List.mem_filter.1 hu
 have hj:=I8 (es.filter bQ) (cp d) (fun u hu=>⟨hm u (hin u hu).1,hw u (hin u hu).1,yc (hin u hu).2⟩) (by omega)
 rw[jk hd] at hj
 have hl:=ew (es.map i7)
 rw[List.length_map] at hl
 refine⟨fun u hu=>CG (hm u hu) (hw u hu),by omega,by omega,Ja fun u hu=>⟨(hin u hu).2,hw u (hin u hu).1,?_⟩⟩
 have he:=CF (hm u (hin u hu).1) (hw u (hin u hu).1) (yc (hin u hu).2)
 have:=hm u (hin u hu).1
 have hz:=zH u
 omega
theorem Fi {w:World} {b d:List UInt8} {ws:List bZ} {n:Nat} {v:Value} (hv:cJ b v w) (hl:b.length≤7340032) (e:iL b=((d,ws,n),0)):
 Calls Tryz.prog 13 #[v] w (bE fun r w'=>aK w w'∧∃ve,r=.tuple #[.agg (d.map U8).toArray,ve,I (n:Int),I 0]∧cN (fun k=>k<w.heap.size) w' (.sl (ws.map i7)) [ve]):=
 bE.mono (uF hv hl) fun _ _ h=>⟨h.1,h.2.is e⟩
end Go.Rl
namespace Go.Rl
open Go.RowKit Go.Proofs
def Jb:bU:=⟨2,0,Ld⟩
def Mq:bU:=⟨1,0,Ld⟩
def Eb:bZ:=⟨[Jb],IU⟩
theorem GP:(Tryz.prog.info? 54).map (fun i=>(i.zero,i.size))=some (some (.agg #[.slice none 0 0,.slice none 0 0,I 0,I 0,B false,.slice none 0 0,.slice none 0 0,.slice none 0 0,B false,.slice none 0 0]),10):=by kernel_rfl
theorem Mr:lR 2:=by unfold lR;omega
theorem Jc:lR 0:=by unfold lR;omega
theorem Kf:A6 Eb:=⟨fun d hd=>by
 simp only[Eb,List.mem_singleton] at hd
 subst hd
 exact⟨Mr,Jc⟩,(ur IU).2 ⟨fun m hm=>(nomatch hm),⟨Jc,Jc⟩,fun m hm=>(nomatch hm),fun m hm=>(nomatch hm)⟩⟩
theorem Kg:yl [Eb]=((.mk [] Mq [IU,IU] false [],[[Mq]]),0):=by kernel_rfl
theorem Kh:iL (cp oC)=((oC,[],44),0):=by
 have h:=DK (d:=oC) (es:=[]) rfl fun e he=>by cases he
 rw[show(fc (cp oC) []).length=44 from jk rfl] at h
 exact h
theorem Ec {w:World} {v:Value} (hv:cC i7 [Eb] v w) (ho:Ae w):
 Calls Tryz.prog 25 #[v] w (bE fun r w'=>aK w w'∧∃vl x y vk vp mv,r=.tuple #[.agg #[vl,I 1,I 0,B false,x,y,vk,B false,vp],mv,I 0]∧av [vl,I 1,I 0,B false,x,y,vk,B false,vp]∧cC zB [[Mq]] mv w'):=by
 refine bE.mono (CA hv (fun u hu=>?_) ho (by simp)) fun r w' h=>⟨h.1,?_⟩
 ·simp only[List.mem_singleton] at hu
  subst hu
  exact CG (by decide) Kf
 ·obtain⟨cs,mv,h1,h2,h3,h4⟩:=h.2
  rw[Kg] at h1 h3 h4
  obtain⟨vl,x,y,vk,vp,rfl,_⟩:=d9 h3
  exact⟨vl,x,y,vk,vp,mv,h1,h2,h4⟩
theorem Awake47:A2:=by
 intro w ho
 refine enter (vs:=[]) Tryz.func12 E E E ?_
 refine af (aa (ae E E (ag (ab (af (aa (bA (vs:=[(0,I 2)]) (r:=.agg #[I 2,I 0,B false,.slice none 0 0,.slice none 0 0]) E E (by exact run_build _ _ _ _ (by kernel_rfl)) ?_)))))))
 obtain⟨v11,w11,hr11,x11,b11⟩:=jP (w:=w) (d:=Jb) (x:=.slice none 0 0) (y:=.slice none 0 0)
 have d11:cC dC [Jb] v11 w11:=Rp.ofSl (sz:=5) (xs:=[I 2,I 0,B false,.slice none 0 0,.slice none 0 0]) b11 (by simpa using bw.cons (b:=[]) (show Rp w11 (dC Jb) [I 2,I 0,B false,.slice none 0 0,.slice none 0 0] from AH (d:=Jb) (Sl.nil _ _) (Sl.nil _ _)) bw.nil) (by simp[ck]) (by omega)
 obtain⟨A11,n11,c11,rfl⟩:=d11.isS
 refine aJ (vs:=[(0,.agg #[I 2,I 0,B false,.slice none 0 0,.slice none 0 0])]) E E hr11 ?_
 refine bA (vs:=[(0,.slice A11 n11 c11)]) (r:=.agg #[.slice A11 n11 c11,.slice none 0 0,I 0,I 0,B false,.slice none 0 0,.slice none 0 0,.slice none 0 0,B false,.slice none 0 0]) E E (run_build _ _ _ #[.slice A11 n11 c11,.slice none 0 0,I 0,I 0,B false,.slice none 0 0,.slice none 0 0,.slice none 0 0,B false,.slice none 0 0] (by kernel_rfl)) ?_
 obtain⟨v13,w13,hr13,x13,b13,_⟩:=yR (P:=Tryz.prog) (w:=w11) (t:=25) Tryz.underlying25 GP rfl (by omega) [[.slice A11 n11 c11,.slice none 0 0,I 0,I 0,B false,.slice none 0 0,.slice none 0 0,.slice none 0 0,B false,.slice none 0 0]] (by simp) (by simp) (by simp)
 have r13:cN (fun _=>False) w13 (i7 Eb) [.slice A11 n11 c11,.slice none 0 0,I 0,I 0,B false,.slice none 0 0,.slice none 0 0,.slice none 0 0,B false,.slice none 0 0]:=kJ (u:=Eb) ((Rp.x (d11.ext x13)).weak fun _ h=>h.elim) vI
 have d13:cC i7 [Eb] v13 w13:=Rp.ofSl (sz:=10) b13 (by simpa using bw.cons (b:=[]) r13.rp bw.nil) (by simp[cw]) (by omega)
 refine aJ (vs:=[(0,.agg #[.slice A11 n11 c11,.slice none 0 0,I 0,I 0,B false,.slice none 0 0,.slice none 0 0,.slice none 0 0,B false,.slice none 0 0])]) E E hr13 ?_
 refine am Cx E E ((Ec d13 (ho.ext (x11.trans x13)))) ?_
 rintro v14 w14 ⟨x14,vl,x,y,vk,vp,mv,rfl,h1,hm⟩
 refine ac E E (ao E E (fL) (ao E E (fM) (ao E E (fN) ?_)))
 obtain⟨g1,w1,hr1,l1,x1,k1⟩:=aX (P:=Tryz.prog) (w:=w14) (t:=52) (z:=.agg #[.slice none 0 0,I 0,I 0,B false,.slice none 0 0,.slice none 0 0,.slice none 0 0,B false,.slice none 0 0]) (l:=[.slice none 0 0,I 0,I 0,B false,.slice none 0 0,.slice none 0 0,.slice none 0 0,B false,.slice none 0 0]) (by kernel_rfl) rfl
 refine aT E hr1 ?_
 obtain⟨w2,s2,q2,k2⟩:=k1.stS (P:=Tryz.prog) (t:=52) (m:=[vl,I 1,I 0,B false,x,y,vk,B false,vp]) rfl (by kernel_rfl) h1
 refine au E E s2 ?_
 have x2:=aK.of_new x1 q2 l1
 refine ae E E (ae E E (ag (ab (af (aa ?_)))))
 refine bA (vs:=[]) (r:=.agg (oC.map U8).toArray) E E (run_build _ _ _ (oC.map U8).toArray (by kernel_rfl)) ?_
 refine am DN E E ((DP (d:=oC) E)) ?_
 rintro v19 w19 ⟨x19,o19⟩
 have b19:=o19.bts
 refine ae E E (ag (ab (af (aa (ac E E (am qL E E ((Fi b19 (by rw[jk rfl];omega) Kh)) ?_))))))
 rintro v22 w22 ⟨x22,ve,rfl,rp22⟩
 refine ac E E (ao E E (pJ) (ao E E (pL) (ao E E (pO) (ao E E (pQ) ?_))))
 obtain⟨g5,w5,hr5,l5,x5,k5⟩:=aX (P:=Tryz.prog) (w:=w22) (t:=24) (l:=oC.map U8) ip rfl
 refine aT E hr5 ?_
 obtain⟨w6,s6,q6,k6⟩:=k5.stS (P:=Tryz.prog) (t:=24) (m:=oC.map U8) rfl (by kernel_rfl) (ep _)
 refine au E E s6 ?_
 have x6:=aK.of_new x5 q6 l5
 refine ae E E (ae E E (ae E E (ag (ab (af ?_)))))
 have hmW:=hm.ext ((((x2.trans x19).trans x22).trans x6))
 have hlW:cC i7 [] ve w6:=(rp22.ext x6).rp
 have b19W:=b19.ext ((x22.trans x6))
 obtain⟨a42,c42,p42,q42,h42⟩:=cd (P:=Tryz.prog) (sz:=1) Tryz.underlying59 (by kernel_rfl) sJ (by omega) hmW (i:=0) (by simp) .i64
 obtain⟨v43,rfl,d43,_⟩:=Rp.isSlice h42
 obtain⟨a51,c51,p51,q51,h51⟩:=cd (P:=Tryz.prog) (sz:=5) Tryz.underlying41 (by kernel_rfl) ck (by omega) (show cC dC [Mq] v43 w6 from d43) (i:=0) (by simp) .i64
 obtain⟨x51,y51,rfl,_,_⟩:=gK h51
 refine aa (ac E E (al E E E (ci E bi) (ac E E (ai E (ah E E (ar (o:=1) Mt E (by kernel_rfl) E) ?_)))))
 refine ai E (ah E E (cL (b:=1) (o:=0) My E (by kernel_rfl) E) (ai E (ak E E (aj Mx E (((x19.trans x22).trans x6).cell_some (k2.cell (i:=1) E))) ?_)))
 refine ai E (al E E E (ci E bi) (ap E E E (ac E E (ai E (ac E E (ai E ?_))))))
 refine aO E E (a6 MY hmW) ?_
 refine ai E (al E E E (ci E bi) (ap E E E (ac E E (ai E (ac E E (ai E ?_))))))
 refine aq E E E (p42 _) ?_
 refine ai E ?_
 refine ak E E (aj ME E (by have h:=q42 0 v43 rfl;rwa [jb] at h)) ?_
 refine ai E ?_
 refine aO E E (a6 ME (show cC dC [Mq] v43 w6 from d43)) ?_
 refine ai E (al E E E (ci E bi) (ap E E E (ac E E (ai E (ac E E (ai E ?_))))))
 refine aq E E E (p42 _) ?_
 refine ai E ?_
 refine ak E E (aj ME E (by have h:=q42 0 v43 rfl;rwa [jb] at h)) ?_
 refine ai E ?_
 refine aq E E E (p51 _) ?_
 refine ai E ?_
 refine ah E E (ij (o:=0) My E (by kernel_rfl) E) ?_
 refine ai E (ak E E (aj Mx E (q51.at (j:=0) E)) (ai E (al E E E (ci E bi) (ap E E E (ac E E ?_)))))
 refine ai E (ac E E (ai E ?_))
 refine aO E E (cT b19W) ?_
 refine ai E (al E E E (ci (by rw[jk rfl];rfl) bi) (ap E E E (ac E E (ai E (ac E E (ai E ?_))))))
 refine aO E E (a6 ML hlW) ?_
 refine ai E (al E E E (ci E bi) (ap E E E (ac E E (ai E (ac E E (ai E (al E E E (ci E bi) (ap E E E ?_))))))))
 refine ac E E (ai E (ac E E (ai E (al E E E (ci E bi) (ap E E E (ae E E (ag (ab (aw (az E E ?_))))))))))
 exact⟨_,rfl,((((((x11.trans x13).trans x14).trans x2).trans x19).trans x22).trans x6),rfl⟩
end Go.Rl
namespace Go.Rl
open Go.RowKit Go.Proofs
theorem bw.take {w:World} {sz:Nat}:∀(l:List Dt) (xs:List Value) (i:Nat),(∀d∈l,d.size=sz)→bw w l xs→bw w (l.take i) (xs.take (i*sz))
 |[],xs,i,_,h=>by
  simp only[bw] at h
  subst h
  simp only[List.take_nil,bw]
 |d::l,xs,0,_,h=>by simp only[List.take_zero,Nat.zero_mul,bw]
 |d::l,xs,i+1,hs,h=>by
  simp only[bw] at h
  obtain⟨c1,c2,rfl,h1,h2⟩:=h
  have hl:c1.length=sz:=by rw[h1.len];exact hs d (by simp)
  rw[List.take_succ_cons,Nat.succ_mul,List.take_append,List.take_of_length_le (l:=c1) (by rw[hl];exact Nat.le_add_left _ _),show i*sz+sz-c1.length=i*sz by omega]
  exact bw.cons h1 (bw.take l c2 i (fun d hd=>hs d (by simp[hd])) h2)
theorem yd {P:Program} {α:Type} {f:α→Dt} {l:List α} {v:Value} {w:World} {t e:TypeId} {sz:Nat} (ht:P.underlying t=some (.slice e)) (hz:(P.info? e).map (·.size)=some sz) (hs:∀x,(f x).size=sz) (h0:0<sz) (h:cC f l v w) {hi:Nat} (h1:hi≤l.length):
 ∃v',(∀w':World,(Instr.sliceAt t v none (some (I (hi:Int))) none).run P w'=.ok v' w')∧cC f (l.take hi) v' w:=by
 have hm:∀(m:List α),∀d∈m.map f,d.size=sz:=fun m d hd=>by obtain⟨a,_,rfl⟩:=List.mem_map.1 hd;exact hs a
 obtain⟨xs,h2,h3⟩:=Rp.toSl (sz:=sz) (l:=l.map f) h (hm l)
 have hxl:xs.length=l.length*sz:=by rw[h3.len,cP (sz:=sz) (hm l),List.length_map]
 obtain⟨v',h4,h5⟩:=rk (P:=P) ht hz h2 (hi:=hi) (by rw[hxl];exact Nat.mul_le_mul_right _ h1) h0 .i64
 refine⟨v',h4,Rp.ofSl (l:=(l.take hi).map f) h5 ?_ (hm _) h0⟩
 rw[List.map_take]
 exact bw.take _ _ _ (hm l) h3
theorem Ed {d:List UInt8} {ws:List bZ} {i j:Nat} (h:i≤j):(fc (cp d) (ws.take i)).length≤(fc (cp d) (ws.take j)).length:=by
 have:=CC (cp d) (ws.take i) ((ws.take j).drop i)
 have e:ws.take j=ws.take i++(ws.take j).drop i:=by
  have h1:=(List.take_append_drop i (ws.take j)).symm
  rw[List.take_take,Nat.min_eq_left h] at h1
  exact h1
 rw[←e] at this
 exact this
theorem zJ {d:List UInt8} {ws:List bZ} {at_:Nat} (h:(cp d).length≤at_):∃k,k≤ws.length∧(fc (cp d) (ws.take k)).length≤at_∧(k=ws.length∨at_<(fc (cp d) (ws.take (k+1))).length):=by
 have key:∀n k,n=ws.length-k→k≤ws.length→(fc (cp d) (ws.take k)).length≤at_→∃k,k≤ws.length∧(fc (cp d) (ws.take k)).length≤at_∧(k=ws.length∨at_<(fc (cp d) (ws.take (k+1))).length):=by
  intro n
  induction n with
  |zero=>intro k hn hk hl;exact⟨k,hk,hl,.inl (by omega)⟩
  |succ n ih=>
   intro k hn hk hl
   by_cases h1:(fc (cp d) (ws.take (k+1))).length≤at_
   ·exact ih (k+1) (by omega) (by omega) h1
   ·exact⟨k,hk,hl,.inr (by omega)⟩
 exact key _ 0 rfl (by omega) (by rw[List.take_zero];exact h)
theorem pT {d:List UInt8} {ws:List bZ} {i:Nat} (hi:i≤ws.length):(iq d ws)[i]'(by unfold iq;simp;omega)=((fc (cp d) (ws.take i)).length:Int):=by
 simp[iq]
theorem nj (d:List UInt8) (ws:List bZ):(iq d ws).length=ws.length+1:=by simp[iq]
theorem Ee {w:World} {b:List UInt8} {v:Value} (hv:cJ b v w) (hl:b.length<44):
 Calls Tryz.prog 13 #[v] w (bE fun r w'=>aK w w'∧∃ve,r=.tuple #[.agg (oC.map U8).toArray,ve,I 0,I 5]∧cN (fun k=>k<w.heap.size) w' (.sl (([]:List bZ).map i7)) [ve]):=by
 refine bE.mono (uF hv (by omega)) fun r w' h=>⟨h.1,?_⟩
 have h2:=h.2
 unfold jG at h2
 rw[DL hl] at h2
 exact h2
theorem GT (ha:A2) {w:World} {d:List UInt8} {es:List bZ} {ev:Value} {n:Int} (hd:d.length=32) (hv:cC i7 es ev w) (hw:∀u∈es,A6 u) (hb:Dt.bulkAll (es.map i7)≤1048576) (_h1: -9223372036854775808≤n) (_h2:n≤9223372036854775807) (ho:Ae w):
 Calls Tryz.prog 5 #[.agg (d.map U8).toArray,ev,I n] w (bE fun r w'=>r=B true∧aK w w'):=by
 refine enter (vs:=[.agg (d.map U8).toArray,ev,I n]) Tryz.func5 E E E ?_
 refine af (aa ?_)
 obtain⟨g3,w3,hr3,l3,x3,k3⟩:=cK (P:=Tryz.prog) (w:=w) (T:=24) (cs:=d.map U8)
 refine cM E E hr3 ?_
 have s32:(Tryz.prog.info? 24).map (·.size)=some (d.map U8).length:=by rw[List.length_map,hd];exact jj
 have hzb:=zI es
 refine ae E E (ag (ab (af (af (aa (am jl E E ((ha (ho.ext x3))) ?_))))))
 rintro v15 w15 ⟨x15,rfl⟩
 refine bt E E bu (ac E E (ai E (ac E E (ai E (am tJ E E ((tL (hv.ext (x3.trans x15)) (by omega))) ?_)))))
 rintro v19 w19 ⟨x19,rfl⟩
 refine ai E (bt E E zQ (aD E E E (ag (ab ?_))))
 refine bz E (fun h21=>?_) (fun h21=>?_)
 ·refine af (aa (am jl E E ((ha (ho.ext ((x3.trans x15).trans x19)))) ?_))
  rintro v22 w22 ⟨x22,rfl⟩
  refine ae E E (ag (ab (aw (ay (az E E ?_)))))
  exact⟨_,rfl,rfl,(((x3.trans x15).trans x19).trans x22)⟩
 ·refine aC (ab (af ?_))
  have hE:=Ke.mk' hd hb hw (by simpa using h21)
  refine aa ?_
  refine ak E E ((k3.ext ((x15.trans x19))).ld MK E s32) ?_
  refine ac E E (am rf E E ((ym hd (hv.ext ((x3.trans x15).trans x19)) hE.short hw (Nat.le_trans hE.enc (by omega)) hE.few)) ?_)
  rintro v26 w26 ⟨x26,bv,vv,mv,rfl,bB,dV,iM⟩
  refine ac E E (ao E E (fL) (ao E E (fM) (ao E E (fN) (ae E E (ae E E (ae E E (ag ?_)))))))
  refine ab (af (af (aa (ac E E (al E E E (aV) (ac E E ?_))))))
  refine ce (fun h32=>?_) (fun h32=>?_)
  ·refine an E E E (an E E E (an E E E (an E E E (ap E E E (ag (ab (bg E (af (aa (ae E E (ag (ab (aw (ay ?_))))))))))))))
   refine az E E ?_
   exact⟨_,rfl,rfl,(((x3.trans x15).trans x19).trans x26)⟩
  ·refine ai E (ac E E (ai E (ac E E (ai E ?_))))
   refine aO E E (cT bB) ?_
   refine ai E (al E E E (ca) (aD E E E (ag (ab ?_))))
   refine bz E (fun h37=>?_) (fun h37=>?_)
   ·refine af (aa (ae E E (ag (ab (aw (ay (az E E ?_)))))))
    exact⟨_,rfl,rfl,(((x3.trans x15).trans x19).trans x26)⟩
   ·refine aC (ab (af ?_))
    obtain⟨k,rfl⟩:∃k:Nat,n=(k:Int):=⟨n.toNat,by omega⟩
    have hke:k≤(fc (cp d) (es.filter bQ)).length:=by omega
    obtain⟨v41,p41,b41⟩:=iw bB (hi:=k) hke .i64
    have hl41:((fc (cp d) (es.filter bQ)).take k).length=k:=by rw[List.length_take];omega
    rcases Nat.lt_or_ge k 44 with hk44|hk44
    ·refine aa (ac E E (ac E E ?_))
     refine cx E E E E E (p41 _) ?_
     refine am qL E E ((Ee b41 (by omega))) ?_
     rintro v42 w42 ⟨x42,ve,rfl,rp42⟩
     refine ac E E (ao E E (pJ) (ao E E (pL) (ao E E (pO) (ao E E (pQ) ?_))))
     obtain⟨g10,w10,hr10,l10,x10,k10⟩:=aX (P:=Tryz.prog) (w:=w42) (t:=24) (l:=oC.map U8) ip rfl
     refine aT E hr10 ?_
     obtain⟨w11,s11,q11,k11⟩:=k10.stS (P:=Tryz.prog) (t:=24) (m:=oC.map U8) rfl (by kernel_rfl) (ep _)
     refine au E E s11 ?_
     have x11:=aK.of_new x10 q11 l10
     refine ae E E (ae E E (ae E E (ag (ab (af (af (aa (ac E E (al E E E (ci (by omega) aV) (ag (ab (bg E ?_))))))))))))
     refine af ?_
     have dS:cC i7 [] ve w11:=(rp42.ext x11).rp
     refine aa (ac E E (al E E E (ci E bi) (ac E E (ai E (ac E E (ai E ?_))))))
     refine aO E E (a6 ML dS) ?_
     refine ai E (al E E E (ci E bi) (ap E E E (ac E E (ai E (ac E E (ai E (al E E E (ci E bi) (ap E E E ?_))))))))
     refine ae E E (ag (ab (aw (ay (az E E ?_)))))
     exact⟨_,rfl,rfl,(((((x3.trans x15).trans x19).trans x26).trans x42).trans x11)⟩
    ·obtain⟨m,hm1,hm2,hm3⟩:=zJ (d:=d) (ws:=es.filter bQ) (at_:=k) (by rw[jk hd];exact hk44)
     have hcut:=IT hd hE.backs hm1 hm2 hm3 hke
     refine aa (ac E E (ac E E ?_))
     refine cx E E E E E (p41 _) ?_
     refine am qL E E ((Fi b41 (by have:=hE.enc;omega) hcut)) ?_
     rintro v42 w42 ⟨x42,ve,rfl,rp42⟩
     refine ac E E (ao E E (pJ) (ao E E (pL) (ao E E (pO) (ao E E (pQ) ?_))))
     obtain⟨g10,w10,hr10,l10,x10,k10⟩:=aX (P:=Tryz.prog) (w:=w42) (t:=24) (l:=oC.map U8) ip rfl
     refine aT E hr10 ?_
     obtain⟨w11,s11,q11,k11⟩:=k10.stS (P:=Tryz.prog) (t:=24) (m:=d.map U8) (by rw[List.length_map,List.length_map,hd];rfl) s32 (ep _)
     refine au E E s11 ?_
     have x11:=aK.of_new x10 q11 l10
     refine ae E E (ae E E (ae E E (ag (ab (af (af (aa (ac E E (al E E E (cY (by omega) aV) (ag (ab (cr E ?_))))))))))))
     refine aC (ab (af ?_))
     have dL:cC i7 ((es.filter bQ).take m) ve w11:=(rp42.ext x11).rp
     have dVW:cC i7 (es.filter bQ) vv w11:=cC.ext dV ((x42.trans x11))
     have iMW:KN (iq d (es.filter bQ)) mv w11:=Sl.ext iM ((x42.trans x11))
     have hdl:=dVW.len
     refine aa (ae E E (ag (ab (af (aE ?_)))))
     refine cf (α:=Nat) (fun x=>[(2,I (k:Int)),(8,vv),(9,mv),(11,ve),(12,I (((fc (cp d) ((es.filter bQ).take m)).length:Nat):Int)),(13,I 0),(14,I (x:Int))]) (fun x w'=>aK w11 w'∧x≤m) (fun x=>m-x) (0) ⟨rfl,rfl,rfl,rfl,rfl,rfl,rfl,trivial⟩ ⟨aK.refl _,Nat.zero_le _⟩ ?_
     rintro i wL ⟨eL,hi⟩
     refine af (af ?_)
     rcases Nat.lt_or_ge i m with him|him
     rotate_left
     have hie:i=m:=by omega
     have dLi:cC i7 ((es.filter bQ).take i) ve wL:=by rw[hie];exact dL.ext eL
     obtain⟨a81,p81,c81⟩:=Bq (iMW.ext eL) (i:=i) (by rw[nj];omega) .i64
     rw[pT (by omega)] at c81
     obtain⟨v89,p89,d89⟩:=yd (P:=Tryz.prog) ML (by kernel_rfl) cw (by omega) (dVW.ext eL) (hi:=i) (by omega)
     by_cases hml:m=(es.filter bQ).length
     rotate_right
     ·obtain⟨a68,p68,c68⟩:=Bq (iMW.ext eL) (i:=i+1) (by rw[nj];omega) .i64
      rw[pT (by omega)] at c68
      have hle:=Ed (d:=d) (ws:=(es.filter bQ)) (i:=i+1) (j:=m) (by omega)
      refine aa (ac E E (ac E E ?_))
      refine aO E E (a6 ML (dVW.ext eL)) ?_
      refine al E E E (ci (by omega) aV) (ac E E (ai E (ac E E (ai E (ac E E (ai E (al (r:=I ((i+1:Nat):Int)) E E E (by have e:((i+1:Nat):Int)=(i:Int)+1:=(by omega);rw[e];exact aN (by omega) (by omega)) ?_)))))))
      refine ai E ?_
      refine aq E E E (p68 _) ?_
      refine ai E (ak E E (aj Mx E c68) (ai E (ac E E (ai E (al E E E (ci (by omega) pZ) (ap E E E ?_))))))
      refine ag (ab (bg E (aC (ab (aE (aa (ac E E (al (r:=I ((i+1:Nat):Int)) E E E (by have e:((i+1:Nat):Int)=(i:Int)+1:=(by omega);rw[e];exact aN (by omega) (by omega)) ?_))))))))
      refine ae E E (ag (aS ?_))
      refine bR (i+1) ⟨rfl,rfl,rfl,rfl,rfl,rfl,rfl,trivial⟩ ⟨eL,by omega⟩ (by omega)
     ·refine aa (ac E E (ac E E ?_))
      refine aO E E (a6 ML (dVW.ext eL)) ?_
      refine al E E E (cY (by omega) aV) (ac E E (an E E E (an E E E (an E E E (an E E E (an E E E (an E E E ?_)))))))
      refine an E E E (aD E E E (ag (ab (cr E (bc (aI (aI (be (ab (af (aa (ac E E (al E E E (ci E bi) (ac E E ?_))))))))))))))
      refine ai E (ac E E (ai E (ac E E (ai E (ac E E (ai E ?_))))))
      refine aq E E E (p81 _) ?_
      refine ai E (ak E E (aj Mx E c81) (ai E (al E E E (ci (by rw[hie]) bi) (ap E E E (ac E E ?_)))))
      refine ai E (ac E E (ai E (ac E E (ai E (ac E E (ai E ?_))))))
      refine cx E E E E E (p89 _) ?_
      refine ai E (am jY E E ((jZ dLi d89)) ?_)
      rintro v90 w90 ⟨x90,rfl⟩
      refine ap E E E (ae E E (ag (ab (aw (az E E ?_)))))
      exact⟨_,rfl,rfl,(((((((x3.trans x15).trans x19).trans x26).trans x42).trans x11).trans eL).trans x90)⟩
     ·have hm4:=hm3.resolve_left hml
      obtain⟨a68,p68,c68⟩:=Bq (iMW.ext eL) (i:=i+1) (by rw[nj];omega) .i64
      rw[pT (by omega)] at c68
      rw[←hie] at hm4
      refine aa (ac E E (ac E E ?_))
      refine aO E E (a6 ML (dVW.ext eL)) ?_
      refine al E E E (ci (by omega) aV) (ac E E (ai E (ac E E (ai E (ac E E (ai E (al (r:=I ((i+1:Nat):Int)) E E E (by have e:((i+1:Nat):Int)=(i:Int)+1:=(by omega);rw[e];exact aN (by omega) (by omega)) ?_)))))))
      refine ai E ?_
      refine aq E E E (p68 _) ?_
      refine ai E (ak E E (aj Mx E c68) (ai E (ac E E (ai E (al E E E (cY (by omega) pZ) (ap E E E ?_))))))
      refine ag (ab (cr E (bc (aI (aI (be (ab (af (aa (ac E E (al E E E (ci E bi) (ac E E (ai E (ac E E (ai E ?_)))))))))))))))
      refine ac E E (ai E (ac E E (ai E ?_)))
      refine aq E E E (p81 _) ?_
      refine ai E (ak E E (aj Mx E c81) (ai E (al E E E (ci (by rw[hie]) bi) (ap E E E (ac E E ?_)))))
      refine ai E (ac E E (ai E (ac E E (ai E (ac E E (ai E ?_))))))
      refine cx E E E E E (p89 _) ?_
      refine ai E (am jY E E ((jZ dLi d89)) ?_)
      rintro v90 w90 ⟨x90,rfl⟩
      refine ap E E E (ae E E (ag (ab (aw (az E E ?_)))))
      exact⟨_,rfl,rfl,(((((((x3.trans x15).trans x19).trans x26).trans x42).trans x11).trans eL).trans x90)⟩
end Go.Rl
namespace Go.Rl
open Go.RowKit Go.Proofs
theorem LI {d:Dt} (h:Ty Tryz.prog 54 d):∃u:bZ,d=i7 u∧A6 u:=by
 obtain⟨l,rfl,hl,hf⟩:=h.inv_st Mz
 obtain⟨d0,d1,rfl⟩:=Mi (show l.length=2 from hl)
 obtain⟨ds,rfl,hw⟩:=(hf 0 _ d0 rfl rfl).inv_slP ME fun _ hx=>IE hx
 obtain⟨n,rfl,hn⟩:=EY _ (Nat.le_refl _) (hf 1 _ d1 rfl rfl)
 exact⟨⟨ds,n⟩,rfl,hw,hn⟩
theorem ty_ents {d:Dt} (h:Ty Tryz.prog 25 d):∃es:List bZ,d=.sl (es.map i7)∧∀u∈es,A6 u:=
 h.inv_slP ML fun _ hx=>LI hx
end Go.Rl
namespace Go.Rl
open Go.RowKit Go.Proofs
def d2:List UInt8:=2::List.replicate 31 0
theorem GQ {d:List UInt8} {ws:List bZ} {at_:Nat} (hd:d.length=32):∃k,k≤ws.length∧(k=0∨(fc (cp d) (ws.take k)).length≤at_)∧(k=ws.length∨at_<(fc (cp d) (ws.take (k+1))).length)∧(44≤at_→(fc (cp d) (ws.take k)).length≤at_):=by
 rcases Nat.lt_or_ge at_ 44 with h|h
 ·refine⟨0,Nat.zero_le _,.inl rfl,.inr ?_,fun h'=>by omega⟩
  have h1:=Ed (d:=d) (ws:=ws) (i:=0) (j:=1) (by omega)
  rw[List.take_zero] at h1
  have h2:(fc (cp d) []).length=44:=jk hd
  show at_<(fc (cp d) (ws.take 1)).length
  omega
 ·obtain⟨k,h1,h2,h3⟩:=zJ (d:=d) (ws:=ws) (at_:=at_) (by rw[jk hd];exact h)
  exact⟨k,h1,.inr h2,h3,fun _=>h2⟩
theorem Ef (ha:A2) {w:World} {es:List bZ} {ev:Value} {n:Int} {y:UInt8} (hv:cC i7 es ev w) (hw:∀u∈es,A6 u) (hb:Dt.bulkAll (es.map i7)≤1048576) (_h1: -9223372036854775808≤n) (_h2:n≤9223372036854775807) (ho:Ae w):
 Calls Tryz.prog 6 #[ev,I n,U8 y] w (bE fun r w'=>r=B true∧aK w w'):=by
 have hd:d2.length=32:=rfl
 have hzb:=zI es
 refine enter (vs:=[ev,I n,U8 y]) Tryz.func6 E E E ?_
 refine af (aa (ae E E (ag (ab (af (af (aa (am jl E E ((ha ho)) ?_))))))))
 rintro v19 w19 ⟨x19,rfl⟩
 refine bt E E bu (ac E E (ai E (ac E E (ai E (am tJ E E ((tL (hv.ext x19) (by omega))) ?_)))))
 rintro v23 w23 ⟨x23,rfl⟩
 refine ai E (bt E E zQ (aD E E E (ac E E ?_)))
 refine ce (fun h26=>?_) (fun h26=>?_)
 ·refine an E E E (an E E E (ap E E E (ag (ab (bg E (af (aa (am jl E E ((ha (ho.ext (x19.trans x23)))) ?_))))))))
  rintro v30 w30 ⟨x30,rfl⟩
  refine ae E E (ag (ab (aw (ay (az E E ?_)))))
  exact⟨_,rfl,rfl,((x19.trans x23).trans x30)⟩
 ·refine ai E (ac E E (ai E (al (v:=U8 0) E E E (li) (aD E E E (ag (ab ?_))))))
  refine bz E (fun h29=>?_) (fun h29=>?_)
  ·refine af (aa (am jl E E ((ha (ho.ext (x19.trans x23)))) ?_))
   rintro v30 w30 ⟨x30,rfl⟩
   refine ae E E (ag (ab (aw (ay (az E E ?_)))))
   exact⟨_,rfl,rfl,((x19.trans x23).trans x30)⟩
  ·refine aC (ab (af ?_))
   have hE:=Ke.mk' hd hb hw (by simpa using h26)
   refine aa ?_
   refine bA (vs:=[(0,U8 2)]) (r:=.agg (d2.map U8).toArray) E E (run_build _ _ _ (d2.map U8).toArray (by kernel_rfl)) ?_
   refine ac E E (am rf E E ((tN hd (hv.ext (x19.trans x23)) hE.short hw (Nat.le_trans hE.enc (by omega)) hE.few)) ?_)
   rintro v34 w34 ⟨x34,base,bv,vv,mv,hbase,rfl,bO,oQ,oI,h3⟩
   refine ac E E (ao E E (fL) (ao E E (fM) (ao E E (fN) (ae E E (ae E E (ae E E (ag ?_)))))))
   refine ab (af (af (aa (ac E E (al E E E (aV) (ac E E ?_))))))
   refine ce (fun h40=>?_) (fun h40=>?_)
   ·refine an E E E (an E E E (an E E E (an E E E (ap E E E (ag (ab (bg E (af (aa (ae E E (ag (ab (aw (ay ?_))))))))))))))
    refine az E E ?_
    exact⟨_,rfl,rfl,((x19.trans x23).trans x34)⟩
   ·refine ai E (ac E E (ai E (ac E E (ai E ?_))))
    refine aO E E (cT bO.bts) ?_
    refine ai E (al E E E (gx) (aD E E E (ag (ab ?_))))
    refine bz E (fun h45=>?_) (fun h45=>?_)
    ·refine af (aa (ae E E (ag (ab (aw (ay (az E E ?_)))))))
     exact⟨_,rfl,rfl,((x19.trans x23).trans x34)⟩
    ·refine aC (ab (af ?_))
     obtain⟨k,rfl⟩:∃k:Nat,n=(k:Int):=⟨n.toNat,by omega⟩
     have hk:k<(fc (cp d2) (es.filter bQ)).length:=by omega
     obtain⟨gS,wS,pS,sS,oS,qS,hbS,cS,obS⟩:=bO.setB (i:=k) hk ((fc (cp d2) (es.filter bQ))[k]+y)
     have mS:Mv (fun j=>bv.ownBlock=some j) w34 wS:=Mv.of_grown qS fun j hj _=>obS.trans hj
     have hsz:=(((x19.trans x23).trans x34)).size
     have eS:aK w wS:=mS.ext_from (((x19.trans x23).trans x34)) fun j hj=>by have:=bO.ge j hj;have:=(x19.trans x23).size;omega
     have dVS:cC i7 (es.filter bQ) vv wS:=(oQ.mv mS (fun j hj=>bO.ge j hj) fun j hj hx=>((h3 j).1 hx).1 hj).ds cw (by omega)
     have iMS:KN (iq d2 (es.filter bQ)) mv wS:=(mS.ownI oI fun j hj hx=>((h3 j).1 hx).2 hj).its
     obtain⟨b2,hb2⟩:∃b2,b2=(fc (cp d2) (es.filter bQ)).set k ((fc (cp d2) (es.filter bQ))[k]+y):=⟨_,rfl⟩
     have hl2:b2.length=(fc (cp d2) (es.filter bQ)).length:=by rw[hb2,List.length_set]
     have bS:cJ b2 bv wS:=by rw[hb2];exact oS.bts
     have hEe:=hE.enc
     obtain⟨m,hm1,hm2,hm3,hm4⟩:=GQ (d:=d2) (ws:=(es.filter bQ)) (at_:=k) hd
     refine aa (ac E E (ac E E ?_))
     refine aq E E E (pS _) ?_
     refine ak E E (aj MC E cS) ?_
     refine ac E E (al E E E (G0) ?_)
     refine aq E E E (pS _) ?_
     refine au E E sS ?_
     refine ag (ab (af (aa (ac E E (am qL E E ((uF bS (by omega))) ?_)))))
     rintro v55 w55 ⟨x55,ve,rfl,rp55⟩
     refine ac E E (ao E E (pJ) (ao E E (pL) (ao E E (pO) (ao E E (pQ) ?_))))
     obtain⟨g10,w10,hr10,l10,x10,k10⟩:=aX (P:=Tryz.prog) (w:=w55) (t:=24) (l:=oC.map U8) ip rfl
     refine aT E hr10 ?_
     obtain⟨w11,s11,q11,k11⟩:=k10.stS (P:=Tryz.prog) (t:=24) (m:=(iL b2).1.1.map U8) (by rw[List.length_map,List.length_map,qO];rfl) (by rw[List.length_map,qO];exact jj) (ep _)
     refine au E E s11 ?_
     have x11:=aK.of_new x10 q11 l10
     refine ae E E (ae E E (ae E E (ag (ab (af (aa (ac E E (am GH E E ((GI (bS.ext ((x55.trans x11))) (by omega))) ?_))))))))
     rintro v62 w62 ⟨x62,vf,rfl,rp62⟩
     refine ac E E (ao E E (pJ) (ao E E (pL) (ao E E (pO) (ao E E (pQ) ?_))))
     obtain⟨g14,w14,hr14,l14,x14,k14⟩:=aX (P:=Tryz.prog) (w:=w62) (t:=24) (l:=oC.map U8) ip rfl
     refine aT E hr14 ?_
     obtain⟨w15,s15,q15,k15⟩:=k14.stS (P:=Tryz.prog) (t:=24) (m:=(iL b2).1.1.map U8) (by rw[List.length_map,List.length_map,qO];rfl) (by rw[List.length_map,qO];exact jj) (ep _)
     refine au E E s15 ?_
     have x15:=aK.of_new x14 q15 l14
     refine ae E E (ae E E (ae E E (ag (ab (af (af ?_))))))
     have dv:cC i7 (iL b2).1.2.1 ve w15:=((rp55.ext x11).ext (x62.trans x15)).rp
     have df:cC i7 (iL b2).1.2.1 vf w15:=(rp62.ext x15).rp
     refine aa (ac E E (ac E E (al E E E (cY (fun h=>h E) cX) (ac E E (ai E (ac E E (ai E (ac E E (ai E ?_)))))))))
     refine al E E E (cY (fun h=>h E) cX) (aD E E E (ac E E (ai E (ac E E (ai E (ac E E (ai E (am jY E E ((jZ dv df)) ?_))))))))
     rintro v78 w78 ⟨x78,rfl⟩
     refine ai E (bt E E bu (aD E E E (ag (ab (cr E (aC (ab (af ?_))))))))
     have dvW:=dv.ext x78
     have dVW:cC i7 (es.filter bQ) vv w78:=cC.ext dVS (((((x55.trans x11).trans x62).trans x15).trans x78))
     have iMW:KN (iq d2 (es.filter bQ)) mv w78:=Sl.ext iMS (((((x55.trans x11).trans x62).trans x15).trans x78))
     have hdl:=dVW.len
     refine aa (ae E E (ag (ab (af (aE ?_)))))
     refine cf (α:=Nat) (fun x=>[(1,I (k:Int)),(8,vv),(9,mv),(11,ve),(18,I (x:Int))]) (fun x w'=>aK w78 w'∧x≤m) (fun x=>m-x) (0) ⟨rfl,rfl,rfl,rfl,rfl,trivial⟩ ⟨aK.refl _,Nat.zero_le _⟩ ?_
     rintro i wL ⟨eL,hi⟩
     refine af (af ?_)
     rcases Nat.lt_or_ge i m with him|him
     rotate_left
     have hie:i=m:=by omega
     by_cases hml:m=(es.filter bQ).length
     rotate_right
     ·obtain⟨a89,p89,c89⟩:=Bq (iMW.ext eL) (i:=i+1) (by rw[nj];omega) .i64
      rw[pT (by omega)] at c89
      have hle:=Ed (d:=d2) (ws:=(es.filter bQ)) (i:=i+1) (j:=m) (by omega)
      refine aa (ac E E (ac E E ?_))
      refine aO E E (a6 ML (dVW.ext eL)) ?_
      refine al E E E (ci (by omega) aV) (ac E E (ai E (ac E E (ai E (ac E E (ai E (al (r:=I ((i+1:Nat):Int)) E E E (by have e:((i+1:Nat):Int)=(i:Int)+1:=(by omega);rw[e];exact aN (by omega) (by omega)) ?_)))))))
      refine ai E ?_
      refine aq E E E (p89 _) ?_
      refine ai E (ak E E (aj Mx E c89) (ai E (ac E E (ai E (al E E E (ci (by omega) pZ) (ap E E E ?_))))))
      refine ag (ab (bg E (aC (ab (aE (aa (ac E E (al (r:=I ((i+1:Nat):Int)) E E E (by have e:((i+1:Nat):Int)=(i:Int)+1:=(by omega);rw[e];exact aN (by omega) (by omega)) ?_))))))))
      refine ae E E (ag (aS ?_))
      refine bR (i+1) ⟨rfl,rfl,rfl,rfl,rfl,trivial⟩ ⟨eL,by omega⟩ (by omega)
     ·refine aa (ac E E (ac E E ?_))
      refine aO E E (a6 ML (dVW.ext eL)) ?_
      refine al E E E (cY (by omega) aV) (ac E E (an E E E (an E E E (an E E E (an E E E (an E E E (an E E E ?_)))))))
      refine an E E E (aD E E E (ag (ab (cr E (bc (aI (aI (be (ab (af ?_))))))))))
      have dvL:=dvW.ext eL
      obtain⟨v109,p109,d109⟩:=yd (P:=Tryz.prog) ML (by kernel_rfl) cw (by omega) (dVW.ext eL) (hi:=i) (by omega)
      rcases Nat.lt_or_ge k 44 with hk44|hk44
      ·refine bI 17 [112] (by kernel_rfl) (by kernel_rfl) ?_
       refine aA E E (bb E E E (fun w _=>ci (by omega) aV) (aA E E (gC E E E (gC E E E (gC E E E (gC E E E (gC E E E ?_)))))))
       refine gu E E E (gu E E E (gu E E E (gu E E E (gu E E E (gu E E E (gu E E E (gC E E E (oT E E E ?_))))))))
       refine cq ?_
       intro wg14 xg14
       rintro _ rfl
       refine ae E E (ag (ab (aw (az E E ?_))))
       exact⟨_,rfl,rfl,(((((((eS.trans x55).trans x11).trans x62).trans x15).trans x78).trans eL).trans xg14)⟩
      ·obtain⟨more,nn,hrec⟩:=vh (x:=(fc (cp d2) (es.filter bQ))[k]+y) hd hE.backs (hm4 hk44)
       rw[←hb2] at hrec
       have hre:(iL b2).1.2.1=(es.filter bQ).take m++more:=by rw[hrec]
       have htl:((es.filter bQ).take m).length=m:=by rw[List.length_take];omega
       have hlr:i≤(iL b2).1.2.1.length:=by rw[hre,List.length_append];omega
       obtain⟨v106,p106,d106⟩:=yd (P:=Tryz.prog) ML (by kernel_rfl) cw (by omega) dvL (hi:=i) hlr
       rw[hre,hie,List.take_append_of_le_length (by omega),List.take_of_length_le (by omega),←hie] at d106
       refine bI 17 [112] (by kernel_rfl) (by kernel_rfl) ?_
       refine aA E E (bb E E E (fun w _=>cY (by omega) aV) (aA E E (bo E E (aA E E (bo E E ?_)))))
       refine Ki (vs:=[ve]) (r:=I (((iL b2).1.2.1.length:Nat):Int)) E E (fun w' hw=>a6 ML (dvL.ext hw)) ?_
       refine bo E E (aA E E (bo E E (bb E E E (fun w _=>ci (by omega) gx) (bo E E (aA E E (bo E E (aA E E (bo E E ?_))))))))
       refine aA E E (bo E E ?_)
       refine gw (a:=none) (b:=some (I (i:Int))) E E E E (fun w _=>p106 w) ?_
       refine bo E E (aA E E (bo E E (aA E E (bo E E ?_))))
       refine gw (a:=none) (b:=some (I (i:Int))) E E E E (fun w _=>p109 w) ?_
       refine bo rfl rfl (cn (S:=Is (B true)) jY (cb.is _) rfl (fun w hw=>by rintro _ rfl _ rfl;exact bE.mono (jZ (d106.ext hw) (d109.ext hw)) fun v w' h=>⟨h.1,h.2⟩) ?_)
       refine bo E E (oT E E E (oW E E E (cq ?_)))
       intro wg14 xg14
       rintro _ rfl
       refine ae E E (ag (ab (aw (az E E ?_))))
       exact⟨_,rfl,rfl,(((((((eS.trans x55).trans x11).trans x62).trans x15).trans x78).trans eL).trans xg14)⟩
     ·have hm5:=hm3.resolve_left hml
      obtain⟨a89,p89,c89⟩:=Bq (iMW.ext eL) (i:=i+1) (by rw[nj];omega) .i64
      rw[pT (by omega)] at c89
      rw[←hie] at hm5
      refine aa (ac E E (ac E E ?_))
      refine aO E E (a6 ML (dVW.ext eL)) ?_
      refine al E E E (ci (by omega) aV) (ac E E (ai E (ac E E (ai E (ac E E (ai E (al (r:=I ((i+1:Nat):Int)) E E E (by have e:((i+1:Nat):Int)=(i:Int)+1:=(by omega);rw[e];exact aN (by omega) (by omega)) ?_)))))))
      refine ai E ?_
      refine aq E E E (p89 _) ?_
      refine ai E (ak E E (aj Mx E c89) (ai E (ac E E (ai E (al E E E (cY (by omega) pZ) (ap E E E ?_))))))
      refine ag (ab (cr E (bc (aI (aI (be (ab (af ?_))))))))
      have dvL:=dvW.ext eL
      obtain⟨v109,p109,d109⟩:=yd (P:=Tryz.prog) ML (by kernel_rfl) cw (by omega) (dVW.ext eL) (hi:=i) (by omega)
      rcases Nat.lt_or_ge k 44 with hk44|hk44
      ·refine bI 17 [112] (by kernel_rfl) (by kernel_rfl) ?_
       refine aA E E (bb E E E (fun w _=>ci (by omega) aV) (aA E E (gC E E E (gC E E E (gC E E E (gC E E E (gC E E E ?_)))))))
       refine gu E E E (gu E E E (gu E E E (gu E E E (gu E E E (gu E E E (gu E E E (gC E E E (oT E E E ?_))))))))
       refine cq ?_
       intro wg14 xg14
       rintro _ rfl
       refine ae E E (ag (ab (aw (az E E ?_))))
       exact⟨_,rfl,rfl,(((((((eS.trans x55).trans x11).trans x62).trans x15).trans x78).trans eL).trans xg14)⟩
      ·obtain⟨more,nn,hrec⟩:=vh (x:=(fc (cp d2) (es.filter bQ))[k]+y) hd hE.backs (hm4 hk44)
       rw[←hb2] at hrec
       have hre:(iL b2).1.2.1=(es.filter bQ).take m++more:=by rw[hrec]
       have htl:((es.filter bQ).take m).length=m:=by rw[List.length_take];omega
       have hlr:i≤(iL b2).1.2.1.length:=by rw[hre,List.length_append];omega
       obtain⟨v106,p106,d106⟩:=yd (P:=Tryz.prog) ML (by kernel_rfl) cw (by omega) dvL (hi:=i) hlr
       rw[hre,hie,List.take_append_of_le_length (by omega),List.take_of_length_le (by omega),←hie] at d106
       refine bI 17 [112] (by kernel_rfl) (by kernel_rfl) ?_
       refine aA E E (bb E E E (fun w _=>cY (by omega) aV) (aA E E (bo E E (aA E E (bo E E ?_)))))
       refine Ki (vs:=[ve]) (r:=I (((iL b2).1.2.1.length:Nat):Int)) E E (fun w' hw=>a6 ML (dvL.ext hw)) ?_
       refine bo E E (aA E E (bo E E (bb E E E (fun w _=>ci (by omega) gx) (bo E E (aA E E (bo E E (aA E E (bo E E ?_))))))))
       refine aA E E (bo E E ?_)
       refine gw (a:=none) (b:=some (I (i:Int))) E E E E (fun w _=>p106 w) ?_
       refine bo E E (aA E E (bo E E (aA E E (bo E E ?_))))
       refine gw (a:=none) (b:=some (I (i:Int))) E E E E (fun w _=>p109 w) ?_
       refine bo rfl rfl (cn (S:=Is (B true)) jY (cb.is _) rfl (fun w hw=>by rintro _ rfl _ rfl;exact bE.mono (jZ (d106.ext hw) (d109.ext hw)) fun v w' h=>⟨h.1,h.2⟩) ?_)
       refine bo E E (oT E E E (oW E E E (cq ?_)))
       intro wg14 xg14
       rintro _ rfl
       refine ae E E (ag (ab (aw (az E E ?_))))
       exact⟨_,rfl,rfl,(((((((eS.trans x55).trans x11).trans x62).trans x15).trans x78).trans eL).trans xg14)⟩
end Go.Rl

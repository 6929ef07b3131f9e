/- Part 6 of a proof: plain facts and walks of functions, merged by a program. Conditions: each lemma names its own. -/
import Derived.Test.YtpeidnhjcompmaaGreatDoorJd5
namespace Go.Rl
open Go.RowKit Go.Proofs
def IK:bV:=⟨2,0,KH⟩
def L3:bV:=⟨1,0,KH⟩
def DQ:bR:=⟨[IK],Iq⟩
theorem ug:(Tryz.prog.info? 54).map (fun i=>(i.zero,i.size))=some (some (.agg #[.slice none 0 0,.slice none 0 0,I 0,I 0,B false,.slice none 0 0,.slice none 0 0,.slice none 0 0,B false,.slice none 0 0]),10):=by kernel_rfl
theorem L4:lK 2:=by unfold lK;omega
theorem IL:lK 0:=by unfold lK;omega
theorem JL:xY DQ:=⟨fun d hd=>by
 simp only[DQ,List.mem_singleton] at hd
 subst hd
 exact⟨L4,IL⟩,(tX Iq).2 ⟨fun m hm=>(nomatch hm),⟨IL,IL⟩,fun m hm=>(nomatch hm),fun m hm=>(nomatch hm)⟩⟩
theorem JM:ya [DQ]=((.mk [] L3 [Iq,Iq] false [],[[L3]]),0):=by kernel_rfl
theorem JN:ib (eG oo)=((oo,[],44),0):=by
 have h:=rE (d:=oo) (es:=[]) rfl fun e he=>by cases he
 rw[show(qv (eG oo) []).length=44 from jL rfl] at h
 exact h
theorem DR {w:World} {v:Value} (hv:cu i0 [DQ] v w) (ho:z8 w):
 Calls Tryz.prog 25 #[v] w (bE fun r w'=>aN w w'∧∃vl x y vk vp mv,r=.tuple #[.agg #[vl,I 1,I 0,B false,x,y,vk,B false,vp],mv,I 0]∧aw [vl,I 1,I 0,B false,x,y,vk,B false,vp]∧cu zx [[L3]] mv w'):=by
 refine bE.mono (Cr hv (fun u hu=>?_) ho (by simp)) fun r w' h=>⟨h.1,?_⟩
 ·simp only[List.mem_singleton] at hu
  subst hu
  exact xP (by decide) JL
 ·obtain⟨cs,mv,h1,h2,h3,h4⟩:=h.2
  rw[JM] at h1 h3 h4
  obtain⟨vl,x,y,vk,vp,rfl,_⟩:=dW h3
  exact⟨vl,x,y,vk,vp,mv,h1,h2,h4⟩
theorem Awake47:AU:=by
 intro w ho
 refine enter (vs:=[]) Tryz.func12 E E E ?_
 refine af (aa (ac E E (ag (ab (af (aa (bC (vs:=[(0,I 2)]) (r:=.agg #[I 2,I 0,B false,.slice none 0 0,.slice none 0 0]) E E (by exact run_build _ _ _ _ (by kernel_rfl)) ?_)))))))
 obtain⟨v11,w11,hr11,x11,b11⟩:=jB (w:=w) (d:=IK) (x:=.slice none 0 0) (y:=.slice none 0 0)
 have d11:cu dm [IK] v11 w11:=Rp.ofSl (sz:=5) (xs:=[I 2,I 0,B false,.slice none 0 0,.slice none 0 0]) b11 (by simpa using bD.cons (b:=[]) (show Rp w11 (dm IK) [I 2,I 0,B false,.slice none 0 0,.slice none 0 0] from AB (d:=IK) (Sl.nil _ _) (Sl.nil _ _)) bD.nil) (by simp[ci]) (by omega)
 obtain⟨A11,n11,c11,rfl⟩:=d11.isS
 refine aK (vs:=[(0,.agg #[I 2,I 0,B false,.slice none 0 0,.slice none 0 0])]) E E hr11 ?_
 refine bC (vs:=[(0,.slice A11 n11 c11)]) (r:=.agg #[.slice A11 n11 c11,.slice none 0 0,I 0,I 0,B false,.slice none 0 0,.slice none 0 0,.slice none 0 0,B false,.slice none 0 0]) E E (run_build _ _ _ #[.slice A11 n11 c11,.slice none 0 0,I 0,I 0,B false,.slice none 0 0,.slice none 0 0,.slice none 0 0,B false,.slice none 0 0] (by kernel_rfl)) ?_
 obtain⟨v13,w13,hr13,x13,b13,_⟩:=wo (P:=Tryz.prog) (w:=w11) (t:=25) Tryz.underlying25 ug rfl (by omega) [[.slice A11 n11 c11,.slice none 0 0,I 0,I 0,B false,.slice none 0 0,.slice none 0 0,.slice none 0 0,B false,.slice none 0 0]] (by simp) (by simp) (by simp)
 have r13:cL (fun _=>False) w13 (i0 DQ) [.slice A11 n11 c11,.slice none 0 0,I 0,I 0,B false,.slice none 0 0,.slice none 0 0,.slice none 0 0,B false,.slice none 0 0]:=i5 (u:=DQ) ((Rp.x (d11.ext x13)).weak fun _ h=>h.elim) vh
 have d13:cu i0 [DQ] v13 w13:=Rp.ofSl (sz:=10) b13 (by simpa using bD.cons (b:=[]) r13.rp bD.nil) (by simp[cR]) (by omega)
 refine aK (vs:=[(0,.agg #[.slice A11 n11 c11,.slice none 0 0,I 0,I 0,B false,.slice none 0 0,.slice none 0 0,.slice none 0 0,B false,.slice none 0 0])]) E E hr13 ?_
 refine an Co E E ((DR d13 (ho.ext (x11.trans x13)))) ?_
 rintro v14 w14 ⟨x14,vl,x,y,vk,vp,mv,rfl,h1,hm⟩
 refine ae E E (am E E (gn) (am E E (gp) (am E E (gq) ?_)))
 obtain⟨g1,w1,hr1,l1,x1,k1⟩:=aX (P:=Tryz.prog) (w:=w14) (t:=52) (z:=.agg #[.slice none 0 0,I 0,I 0,B false,.slice none 0 0,.slice none 0 0,.slice none 0 0,B false,.slice none 0 0]) (l:=[.slice none 0 0,I 0,I 0,B false,.slice none 0 0,.slice none 0 0,.slice none 0 0,B false,.slice none 0 0]) (by kernel_rfl) rfl
 refine aV E hr1 ?_
 obtain⟨w2,s2,q2,k2⟩:=k1.stS (P:=Tryz.prog) (t:=52) (m:=[vl,I 1,I 0,B false,x,y,vk,B false,vp]) rfl (by kernel_rfl) h1
 refine aq E E s2 ?_
 have x2:=aN.of_new x1 q2 l1
 refine ac E E (ac E E (ag (ab (af (aa ?_)))))
 refine bC (vs:=[]) (r:=.agg (oo.map U8).toArray) E E (run_build _ _ _ (oo.map U8).toArray (by kernel_rfl)) ?_
 refine an xI E E ((xK (d:=oo) E)) ?_
 rintro v19 w19 ⟨x19,o19⟩
 have b19:=o19.bts
 refine ac E E (ag (ab (af (aa (ae E E (an qi E E ((AW b19 (by rw[jL rfl];omega) JN)) ?_))))))
 rintro v22 w22 ⟨x22,ve,rfl,rp22⟩
 refine ae E E (am E E (lh) (am E E (li) (am E E (lj) (am E E (ll) ?_))))
 obtain⟨g5,w5,hr5,l5,x5,k5⟩:=aX (P:=Tryz.prog) (w:=w22) (t:=24) (l:=oo.map U8) fW rfl
 refine aV E hr5 ?_
 obtain⟨w6,s6,q6,k6⟩:=k5.stS (P:=Tryz.prog) (t:=24) (m:=oo.map U8) rfl (by kernel_rfl) (dJ _)
 refine aq E E s6 ?_
 have x6:=aN.of_new x5 q6 l5
 refine ac E E (ac E E (ac E E (ag (ab (af ?_)))))
 have hmW:=hm.ext ((((x2.trans x19).trans x22).trans x6))
 have hlW:cu i0 [] ve w6:=(rp22.ext x6).rp
 have b19W:=b19.ext ((x22.trans x6))
 obtain⟨a42,c42,p42,q42,h42⟩:=cf (P:=Tryz.prog) (sz:=1) Tryz.underlying59 (by kernel_rfl) rM (by omega) hmW (i:=0) (by simp) .i64
 obtain⟨v43,rfl,d43,_⟩:=Rp.isSlice h42
 obtain⟨a51,c51,p51,q51,h51⟩:=cf (P:=Tryz.prog) (sz:=5) Tryz.underlying41 (by kernel_rfl) ci (by omega) (show cu dm [L3] v43 w6 from d43) (i:=0) (by simp) .i64
 obtain⟨x51,y51,rfl,_,_⟩:=gy h51
 refine aa (ae E E (al E E E (cw E bi) (ae E E (ai E (ah E E (ar (o:=1) L6 E (by kernel_rfl) E) ?_)))))
 refine ai E (ah E E (cK (b:=1) (o:=0) Ma E (by kernel_rfl) E) (ai E (ak E E (aj Mb E (((x19.trans x22).trans x6).cell_some (k2.cell (i:=1) E))) ?_)))
 refine ai E (al E E E (cw E bi) (ap E E E (ae E E (ai E (ae E E (ai E ?_))))))
 refine aQ E E (be MB hmW) ?_
 refine ai E (al E E E (cw E bi) (ap E E E (ae E E (ai E (ae E E (ai E ?_))))))
 refine ax E E E (p42 _) ?_
 refine ai E ?_
 refine ak E E (aj Mg E (by have h:=q42 0 v43 rfl;rwa [jC] at h)) ?_
 refine ai E ?_
 refine aQ E E (be Mg (show cu dm [L3] v43 w6 from d43)) ?_
 refine ai E (al E E E (cw E bi) (ap E E E (ae E E (ai E (ae E E (ai E ?_))))))
 refine ax E E E (p42 _) ?_
 refine ai E ?_
 refine ak E E (aj Mg E (by have h:=q42 0 v43 rfl;rwa [jC] at h)) ?_
 refine ai E ?_
 refine ax E E E (p51 _) ?_
 refine ai E ?_
 refine ah E E (gU (o:=0) Ma E (by kernel_rfl) E) ?_
 refine ai E (ak E E (aj Mb E (q51.at (j:=0) E)) (ai E (al E E E (cw E bi) (ap E E E (ae E E ?_)))))
 refine ai E (ae E E (ai E ?_))
 refine aQ E E (cM b19W) ?_
 refine ai E (al E E E (cw (by rw[jL rfl];rfl) bi) (ap E E E (ae E E (ai E (ae E E (ai E ?_))))))
 refine aQ E E (be Mp hlW) ?_
 refine ai E (al E E E (cw E bi) (ap E E E (ae E E (ai E (ae E E (ai E (al E E E (cw E bi) (ap E E E ?_))))))))
 refine ae E E (ai E (ae E E (ai E (al E E E (cw E bi) (ap E E E (ac E E (ag (ab (au (aA E E ?_))))))))))
 exact⟨_,rfl,((((((x11.trans x13).trans x14).trans x2).trans x19).trans x22).trans x6),rfl⟩
end Go.Rl
namespace Go.Rl
open Go.RowKit Go.Proofs
end Go.Rl
namespace Go.Rl
open Go.RowKit Go.Proofs
def d2:List UInt8:=2::List.replicate 31 0
end Go.Rl
namespace Go.Rl
open Go.RowKit Go.Proofs
theorem JO {d:List UInt8} {ws:List bR} {u:bR} (hd:d.length=32) (hb:xF ws) (hv:cX u=true):nP (qv (eG d) ws) u=(qv (eG d) (ws++[u]),0):=by
 unfold nP
 rw[if_neg (by rw[hv];simp),rE hd hb,if_neg (by simp),IC]
theorem Cu {u:bR} (hb:(i0 u).bulk≤1048576) (hw:xY u):(cc u).length≤10*(i0 u).bulk+10:=by
 rw[vq] at hb⊢
 have h1:=(AG _ (Nat.le_refl _) (n:=u.leaf) (by omega) hw.2).1
 have h2:=pS (f:=dm) (e:=fG) (c:=10) u.path fun a ha=>EL (Nat.le_trans (lm ha) (by omega)) (hw.1 a ha)
 have h3:=dM (u.path.map dm)
 rw[List.length_map] at h3
 have h4:=et (n:=u.path.length) (by omega)
 unfold cc
 simp only[List.length_append]
 omega
theorem JP {b:List UInt8} {u:bR} (hv:cX u=false):nP b u=([],1):=by
 unfold nP
 rw[if_pos hv]
theorem lu.is {b x:List UInt8} {c:Int} {u:bR} {r:Value} {w':World} (h:lu b u r w') (e:nP b u=(x,c)):∃v,r=.tuple #[v,I c]∧cn x v w':=by
 unfold lu at h
 rw[e] at h
 exact h
section
variable {w:World} {b xb:List UInt8} {c:Int} {bv:Value} {u:bR} {vd vl x y vk vp:Value}
theorem vt (e:nP b u=(xb,c)) (hb:cn b bv w) (hd:cu dm u.path vd w) (hl:cu cV u.leaf.lems vl w) (hx:bt u.leaf.split.at_.2.1 x w) (hy:bt u.leaf.split.at_.2.2 y w) (hk:cu bH u.leaf.kids vk w) (hp:cu bK u.leaf.pf vp w) (hs:Ip u) (hw:xY u) (hbl:b.length≤7340032) (hlen:(cc u).length≤4294967296):
 Calls Tryz.prog 20 #[bv,.agg #[vd,vl,I u.leaf.split.kd,I u.leaf.split.ix,B u.leaf.split.at_.1,x,y,vk,B u.leaf.empty,vp]] w (bE fun r w'=>aN w w'∧∃v,r=.tuple #[v,I c]∧cn xb v w'):=
 bE.mono (Gk hb hd hl hx hy hk hp hs hw hbl hlen) fun _ _ h=>⟨h.1,h.2.is e⟩
theorem EU (e:nP b u=(xb,c)) (hb:cn b bv w) (hd:cu dm u.path vd w) (hl:cu cV u.leaf.lems vl w) (hx:bt u.leaf.split.at_.2.1 x w) (hy:bt u.leaf.split.at_.2.2 y w) (hk:cu bH u.leaf.kids vk w) (hp:cu bK u.leaf.pf vp w) (hs:Ip u) (hw:xY u) (hbl:b.length≤4294967296) (hlen:(cc u).length≤4294967296):
 Calls Tryz.prog 21 #[bv,.agg #[vd,vl,I u.leaf.split.kd,I u.leaf.split.ix,B u.leaf.split.at_.1,x,y,vk,B u.leaf.empty,vp]] w (bE fun r w'=>aN w w'∧∃v,r=.tuple #[v,I c]∧cn xb v w'):=
 bE.mono (Gj hb hd hl hx hy hk hp hs hw hbl hlen) fun _ _ h=>⟨h.1,h.2.is e⟩
end
theorem DS (ha:AU) {w:World} {d:List UInt8} {es:List bR} {ev:Value} (hd:d.length=32) (hv:cu i0 es ev w) (hw:∀u∈es,xY u) (hb:Dt.bulkAll (es.map i0)≤1048576) (ho:z8 w):
 Calls Tryz.prog 7 #[.agg (d.map U8).toArray,ev] w (bE fun r w'=>r=B true∧aN w w'):=by
 refine enter (vs:=[.agg (d.map U8).toArray,ev]) Tryz.func7 E E E ?_
 refine af (aa ?_)
 obtain⟨g2,w2,hr2,l2,x2,k2⟩:=cD (P:=Tryz.prog) (w:=w) (T:=24) (cs:=d.map U8)
 refine cI E E hr2 ?_
 have s32:(Tryz.prog.info? 24).map (·.size)=some (d.map U8).length:=by rw[List.length_map,hd];exact iZ
 have hzb:=Gq es
 refine ac E E (ag (ab (af (af (aa (an eP E E ((ha (ho.ext x2))) ?_))))))
 rintro v12 w12 ⟨x12,rfl⟩
 refine bo E E bu (ae E E (ai E (ae E E (ai E (an nU E E ((nW (hv.ext (x2.trans x12)) (by omega))) ?_)))))
 rintro v16 w16 ⟨x16,rfl⟩
 refine ai E (bo E E uU (aE E E E (ag (ab ?_))))
 refine bw E (fun h18=>?_) (fun h18=>?_)
 ·refine af (aa (an eP E E ((ha (ho.ext ((x2.trans x12).trans x16)))) ?_))
  rintro v19 w19 ⟨x19,rfl⟩
  refine ac E E (ag (ab (au (az (aA E E ?_)))))
  exact⟨_,rfl,rfl,(((x2.trans x12).trans x16).trans x19)⟩
 ·refine aC (ab (af ?_))
  have hE:=Ld.mk' hd hb hw (by simpa using h18)
  have k2W:=k2.ext ((x12.trans x16))
  have hEe:=hE.enc
  refine bO 5 [1,5,23] (by kernel_rfl) (by kernel_rfl) ?_
  refine aO E E (fun w' hw=>(k2W.ext hw).ld Mm E s32) ?_
  refine ca (S:=cn (eG d)) xI (cn.stable _) rfl (fun w hw=>by rintro _ rfl;exact bE.mono (xK hd) fun v w' h=>⟨h.1,h.2.bts⟩) ?_
  refine aO E E (fun w' hw=>(k2W.ext hw).ld Mm E s32) ?_
  refine ca (S:=cn (eG d)) xH (cn.stable _) rfl (fun w hw=>by rintro _ rfl;exact bE.mono (xJ hd) fun v w' h=>⟨h.1,h.2.bts⟩) (fY rfl rfl ?_)
  refine cq ?_
  intro wg3 xg3
  rintro _ hq1
  obtain rfl:=Eq.symm hq1
  intro vg5 b21
  intro vg23 b23
  refine ac E E (ag (ab (af (af ?_))))
  have hll:=hv.len
  refine aa (ac E E (ag (ab (aH ?_))))
  refine ju (fun(i:Nat) (av:Value) (bv:Value)=>[(1,ev),(5,av),(6,bv),(7,I (i:Int))]) (fun(i:Nat) (av:Value) (bv:Value) w'=>aN wg3 w'∧i≤es.length∧cn (qv (eG d) ((es.take i).filter cX)) av w'∧cn (qv (eG d) ((es.take i).filter cX)) bv w') (fun(i:Nat) (av:Value) (bv:Value)=>es.length-i) (0) (vg5) (vg23) ⟨rfl,rfl,rfl,rfl,trivial⟩ ⟨aN.refl _,Nat.zero_le _,b21,b23⟩ ?_
  rintro i av bv wL ⟨eL,hi,bA,bB⟩
  refine af (af (aa (ae E E (ae E E (aQ E E (be Mp (hv.ext ((((x2.trans x12).trans x16).trans xg3).trans eL))) ?_)))))
  refine al E E E (bc) (ag (ab ?_))
  refine bw E (fun h27=>?_) (fun h27=>?_)
  ·refine aC (ab (af (aH (af ?_))))
   obtain⟨em,hem⟩:∃em,em=es[i]'(by omega):=⟨_,rfl⟩
   have hmem:em∈es:=by rw[hem];exact List.getElem_mem _
   have hfs:=Cs (l:=es) (i:=i) (by omega) cX
   rw[←hem] at hfs
   obtain⟨vs,hvs⟩:=Ct es i cX
   have hmo:=ID (eG d) ((es.take i).filter cX) vs
   rw[←hvs] at hmo
   have hbk:xF ((es.take i).filter cX):=fun u hu=>hE.backs u (by rw[hvs];exact List.mem_append.2 (.inl hu))
   have hme:(cc em).length≤4294967296:=by
    have h1:=Nat.le_trans (lm hmem) hb
    have:=Cu h1 (hw em hmem)
    omega
   rcases hval:cX em
   ·rw[if_neg (by rw[hval];simp),List.append_nil] at hfs
    have happ:=JP (b:=qv (eG d) ((es.take i).filter cX)) hval
    refine aa (ae E E (ae E E (ae E E ?_)))
    obtain⟨a34,c34,p34,q34,h34⟩:=cf (P:=Tryz.prog) (sz:=10) Mp (by kernel_rfl) cR (by omega) hv (i:=i) (by omega) .i64
    rw[←hem] at h34
    obtain⟨x34_0,x34_1,x34_2,x34_3,x34_4,x34_5,rfl,f34_0,f34_1,f34_2,f34_3,f34_4,f34_5⟩:=gQ h34
    refine ax E E E (p34 _) (ak E E ((q34.ext ((((x2.trans x12).trans x16).trans xg3).trans eL)).ld L8 E (by kernel_rfl)) ?_)
    refine an qj E E ((vt happ (bA.ext (aN.refl _)) (f34_0.ext ((((x2.trans x12).trans x16).trans xg3).trans eL)) (f34_1.ext ((((x2.trans x12).trans x16).trans xg3).trans eL)) (f34_2.ext ((((x2.trans x12).trans x16).trans xg3).trans eL)) (f34_3.ext ((((x2.trans x12).trans x16).trans xg3).trans eL)) (f34_4.ext ((((x2.trans x12).trans x16).trans xg3).trans eL)) (f34_5.ext ((((x2.trans x12).trans x16).trans xg3).trans eL)) (hE.short em hmem) (hw em hmem) (by omega) hme)) ?_
    rintro v36 w36 ⟨x36,v36,rfl,b36⟩
    refine ae E E (am E E (bj) (am E E (bk) (ac E E (ac E E (ag (ab (af (aa (ae E E (ae E E (ae E E ?_)))))))))))
    obtain⟨a43,c43,p43,q43,h43⟩:=cf (P:=Tryz.prog) (sz:=10) Mp (by kernel_rfl) cR (by omega) hv (i:=i) (by omega) .i64
    rw[←hem] at h43
    obtain⟨x43_0,x43_1,x43_2,x43_3,x43_4,x43_5,rfl,f43_0,f43_1,f43_2,f43_3,f43_4,f43_5⟩:=gQ h43
    refine ax E E E (p43 _) (ak E E ((q43.ext (((((x2.trans x12).trans x16).trans xg3).trans eL).trans x36)).ld L8 E (by kernel_rfl)) ?_)
    refine an zv E E ((EU happ (bB.ext (x36)) (f43_0.ext (((((x2.trans x12).trans x16).trans xg3).trans eL).trans x36)) (f43_1.ext (((((x2.trans x12).trans x16).trans xg3).trans eL).trans x36)) (f43_2.ext (((((x2.trans x12).trans x16).trans xg3).trans eL).trans x36)) (f43_3.ext (((((x2.trans x12).trans x16).trans xg3).trans eL).trans x36)) (f43_4.ext (((((x2.trans x12).trans x16).trans xg3).trans eL).trans x36)) (f43_5.ext (((((x2.trans x12).trans x16).trans xg3).trans eL).trans x36)) (hE.short em hmem) (hw em hmem) (by omega) hme)) ?_
    rintro v45 w45 ⟨x45,v45,rfl,b45⟩
    refine ae E E (am E E (bj) (am E E (bk) (ac E E (ac E E (ag (ab (af (af (aa (ae E E (ae E E ?_)))))))))))
    refine al E E E (cW (fun h=>h E) cC) (ae E E (ai E (ae E E (ai E (aY E E (mi (b36.ext x45)) (ai E (ae E E ?_)))))))
    refine ai E (aY E E (mi b45) (ai E (al E E E (cW (fun h=>h E) rY) (aE E E E (ag (ab (cp E (aC (ab (af (aa ?_)))))))))))
    refine ae E E (al E E E (cW (by decide) bi) (ag (ab (cp E (aC (aS (ab (aa (ae E E (al (r:=I ((i+1:Nat):Int)) E E E (by have e:((i+1:Nat):Int)=(i:Int)+1:=(by omega);rw[e];exact aP (by omega) (by omega)) ?_))))))))))
    refine ac E E (ag ?_)
    refine fZ (i+1) (av) (bv) ⟨rfl,rfl,rfl,rfl,trivial⟩ ⟨eL.trans ((x36.trans x45)),by omega,by rw[hfs];exact bA.ext ((x36.trans x45)),by rw[hfs];exact bB.ext ((x36.trans x45))⟩ (by omega)
   ·rw[if_pos hval] at hfs
    have happ:=JO hd hbk hval
    refine aa (ae E E (ae E E (ae E E ?_)))
    obtain⟨a34,c34,p34,q34,h34⟩:=cf (P:=Tryz.prog) (sz:=10) Mp (by kernel_rfl) cR (by omega) hv (i:=i) (by omega) .i64
    rw[←hem] at h34
    obtain⟨x34_0,x34_1,x34_2,x34_3,x34_4,x34_5,rfl,f34_0,f34_1,f34_2,f34_3,f34_4,f34_5⟩:=gQ h34
    refine ax E E E (p34 _) (ak E E ((q34.ext ((((x2.trans x12).trans x16).trans xg3).trans eL)).ld L8 E (by kernel_rfl)) ?_)
    refine an qj E E ((vt happ (bA.ext (aN.refl _)) (f34_0.ext ((((x2.trans x12).trans x16).trans xg3).trans eL)) (f34_1.ext ((((x2.trans x12).trans x16).trans xg3).trans eL)) (f34_2.ext ((((x2.trans x12).trans x16).trans xg3).trans eL)) (f34_3.ext ((((x2.trans x12).trans x16).trans xg3).trans eL)) (f34_4.ext ((((x2.trans x12).trans x16).trans xg3).trans eL)) (f34_5.ext ((((x2.trans x12).trans x16).trans xg3).trans eL)) (hE.short em hmem) (hw em hmem) (by omega) hme)) ?_
    rintro v36 w36 ⟨x36,v36,rfl,b36⟩
    refine ae E E (am E E (bj) (am E E (bk) (ac E E (ac E E (ag (ab (af (aa (ae E E (ae E E (ae E E ?_)))))))))))
    obtain⟨a43,c43,p43,q43,h43⟩:=cf (P:=Tryz.prog) (sz:=10) Mp (by kernel_rfl) cR (by omega) hv (i:=i) (by omega) .i64
    rw[←hem] at h43
    obtain⟨x43_0,x43_1,x43_2,x43_3,x43_4,x43_5,rfl,f43_0,f43_1,f43_2,f43_3,f43_4,f43_5⟩:=gQ h43
    refine ax E E E (p43 _) (ak E E ((q43.ext (((((x2.trans x12).trans x16).trans xg3).trans eL).trans x36)).ld L8 E (by kernel_rfl)) ?_)
    refine an zv E E ((EU happ (bB.ext (x36)) (f43_0.ext (((((x2.trans x12).trans x16).trans xg3).trans eL).trans x36)) (f43_1.ext (((((x2.trans x12).trans x16).trans xg3).trans eL).trans x36)) (f43_2.ext (((((x2.trans x12).trans x16).trans xg3).trans eL).trans x36)) (f43_3.ext (((((x2.trans x12).trans x16).trans xg3).trans eL).trans x36)) (f43_4.ext (((((x2.trans x12).trans x16).trans xg3).trans eL).trans x36)) (f43_5.ext (((((x2.trans x12).trans x16).trans xg3).trans eL).trans x36)) (hE.short em hmem) (hw em hmem) (by omega) hme)) ?_
    rintro v45 w45 ⟨x45,v45,rfl,b45⟩
    refine ae E E (am E E (bj) (am E E (bk) (ac E E (ac E E (ag (ab (af (af (aa (ae E E (ae E E ?_)))))))))))
    refine al E E E (cW (fun h=>h E) cC) (ae E E (ai E (ae E E (ai E (aY E E (mi (b36.ext x45)) (ai E (ae E E ?_)))))))
    refine ai E (aY E E (mi b45) (ai E (al E E E (cW (fun h=>h E) rY) (aE E E E (ag (ab (cp E (aC (ab (af (aa ?_)))))))))))
    refine ae E E (al E E E (cw E bi) (ag (ab (bf E (aa (ae E E (ae E E (ac E E (ac E E (ag (aS ?_)))))))))))
    refine ab (aa (ae E E (al (r:=I ((i+1:Nat):Int)) E E E (by have e:((i+1:Nat):Int)=(i:Int)+1:=(by omega);rw[e];exact aP (by omega) (by omega)) ?_)))
    refine ac E E (ag ?_)
    refine fZ (i+1) (v36) (v45) ⟨rfl,rfl,rfl,rfl,trivial⟩ ⟨eL.trans ((x36.trans x45)),by omega,by rw[hfs];exact b36.ext x45,by rw[hfs];exact b45⟩ (by omega)
  ·refine bg (aJ (aJ (bh (ab (af (aa (ae E E (aY E E (mi bA) (ae E E (aY E E (mi bB) (al E E E (cw E zO) ?_)))))))))))
   refine ac E E (ag (ab (au (aA E E ?_))))
   exact⟨_,rfl,rfl,((((x2.trans x12).trans x16).trans xg3).trans eL)⟩
end Go.Rl
namespace Go.Rl
open Go.RowKit Go.Proofs
theorem Lf {d:Dt} (h:Ty Tryz.prog 54 d):∃u:bR,d=i0 u∧xY u:=by
 obtain⟨l,rfl,hl,hf⟩:=h.inv_st L8
 obtain⟨d0,d1,rfl⟩:=LV (show l.length=2 from hl)
 obtain⟨ds,rfl,hw⟩:=(hf 0 _ d0 rfl rfl).inv_slP Mg fun _ hx=>Ib hx
 obtain⟨n,rfl,hn⟩:=EG _ (Nat.le_refl _) (hf 1 _ d1 rfl rfl)
 exact⟨⟨ds,n⟩,rfl,hw,hn⟩
theorem ty_ents {d:Dt} (h:Ty Tryz.prog 25 d):∃es:List bR,d=.sl (es.map i0)∧∀u∈es,xY u:=
 h.inv_slP Mp fun _ hx=>Lf hx
end Go.Rl
namespace Go.Rl
open Go.RowKit Go.Proofs
theorem JQ {d p:List UInt8} {x e:bR} (hd:d.length=32) (hp:iy p=some x) (hl:p.length<18446744073709551616) (he:iy (cc e)=some e) (hle:(cc e).length<18446744073709551616):
 ib (fA (fA (eG d) p) (cc e))=((d,[x,e],(fA (fA (eG d) p) (cc e)).length),0):=by
 obtain⟨rfl,_,_,_⟩:=xz hp
 exact rE (es:=[x,e]) hd fun u hu=>by
  simp only[List.mem_cons,List.not_mem_nil,or_false] at hu
  rcases hu with rfl|rfl
  ·exact⟨hp,hl⟩
  ·exact⟨he,hle⟩
theorem Lg {d p q:List UInt8} (hd:d.length=32) (hp:iy p=none) (hl:p.length<18446744073709551616):
 ib (fA (fA (eG d) p) q)=((d,[],44),0):=by
 have e1:=s9 (fA (eG d) p) q
 have e2:=s9 (eG d) p
 have hs:=xD (b:=eG d) (p:=p) (fh q++(jx (fA (eG d) p++fh q)).take 8) hl
 rw[hp,Option.map_none] at hs
 rw[←e1,jL hd] at hs
 have e3:fA (fA (eG d) p) q=eG d++((fh p++(jx (eG d++fh p)).take 8)++(fh q++(jx (fA (eG d) p++fh q)).take 8)):=by
  rw[←List.append_assoc (eG d),←e2]
  exact e1
 rw[e3] at hs⊢
 rw[zj _ hd,rD hs]
end Go.Rl
namespace Go.Rl
open Go.RowKit Go.Proofs
def d1:List UInt8:=1::List.replicate 31 0
theorem EV {w:World} {b d:List UInt8} {ws:List bR} {n:Nat} {v:Value} (hv:cn b v w) (hl:b.length≤4294967296) (e:ib b=((d,ws,n),0)):
 Calls Tryz.prog 14 #[v] w (bE fun r w'=>aN w w'∧∃ve,r=.tuple #[.agg (d.map U8).toArray,ve,I (n:Int),I 0]∧cL (fun k=>k<w.heap.size) w' (.sl (ws.map i0)) [ve]):=
 bE.mono (zr hv hl) fun _ _ h=>⟨h.1,h.2.is e⟩
theorem JS {b:List UInt8} {d:List UInt8} {ws:List bR} {u:bR} (hv:cX u=true) (h:ib b=((d,ws,b.length),0)):nP b u=(fA b (cc u),0):=by
 unfold nP
 rw[if_neg (by rw[hv];simp),h,if_neg (by simp)]
theorem Lh {b:List UInt8} {d:List UInt8} {ws:List bR} {u:bR} {n:Nat} (hv:cX u=true) (h:ib b=((d,ws,n),0)) (hn:n≠b.length):nP b u=([],5):=by
 unfold nP
 rw[if_neg (by rw[hv];simp),h,if_pos (.inr hn)]
theorem Cx (ha:AU) {w:World} {p:List UInt8} {pv:Value} {u:bR} {vd vl x y vk vp:Value} (hpv:cn p pv w) (hd:cu dm u.path vd w) (hl:cu cV u.leaf.lems vl w) (hx:bt u.leaf.split.at_.2.1 x w) (hy:bt u.leaf.split.at_.2.2 y w) (hk:cu bH u.leaf.kids vk w) (hp:cu bK u.leaf.pf vp w) (hw:xY u) (hb:(i0 u).bulk≤1048576) (ho:z8 w):
 Calls Tryz.prog 8 #[pv,.agg #[vd,vl,I u.leaf.split.kd,I u.leaf.split.ix,B u.leaf.split.at_.1,x,y,vk,B u.leaf.empty,vp]] w (bE fun r w'=>r=B true∧aN w w'):=by
 have hdl:d1.length=32:=rfl
 have hs:Ip u:=xP hb hw
 have hzb:=uf u
 have hel:=Cu hb hw
 refine enter (vs:=[pv,.agg #[vd,vl,I u.leaf.split.kd,I u.leaf.split.ix,B u.leaf.split.at_.1,x,y,vk,B u.leaf.empty,vp]]) Tryz.func8 E E E ?_
 refine af (aa ?_)
 obtain⟨g3,w3,hr3,l3,x3,k3⟩:=cD (P:=Tryz.prog) (w:=w) (T:=54) (cs:=[vd,vl,I u.leaf.split.kd,I u.leaf.split.ix,B u.leaf.split.at_.1,x,y,vk,B u.leaf.empty,vp])
 refine cI E E hr3 (ac E E (ag (ab (af (af ?_)))))
 rcases hval:cX u
 ·refine aa (an eP E E ((ha (ho.ext x3))) ?_)
  rintro v16 w16 ⟨x16,rfl⟩
  refine bo E E bu (ae E E (ai E (ae E E (ai E (aQ E E (cM (hpv.ext (x3.trans x16))) (ai E (al E E E (bU) (aE E E E ?_))))))))
  refine ae E E ?_
  refine cb (fun h23=>?_) (fun h23=>?_)
  ·refine ao E E E (ao E E E (ao E E E (ao E E E (ap E E E (ae E E (ao E E E (ao E E E (ao E E E (ap E E E ?_)))))))))
   refine ag (ab (bf E (af (aa (an eP E E ((ha (ho.ext (x3.trans x16)))) ?_)))))
   rintro v34 w34 ⟨x34,rfl⟩
   refine ac E E (ag (ab (au (az (aA E E ?_)))))
   exact⟨_,rfl,rfl,((x3.trans x16).trans x34)⟩
  ·refine ai E (ak E E ((k3.ext x16).ld L8 E (by kernel_rfl)) (ai E ?_))
   obtain⟨v25,w25,hr25,x25,b25,_⟩:=wo (P:=Tryz.prog) (w:=w16) (t:=25) Tryz.underlying25 ug rfl (by omega) [[vd,vl,I u.leaf.split.kd,I u.leaf.split.ix,B u.leaf.split.at_.1,x,y,vk,B u.leaf.empty,vp]] (by simp) (by simp) (by simp)
   have e25:=((x3.trans x16)).trans x25
   have r25:Rp w25 (i0 u) [vd,vl,I u.leaf.split.kd,I u.leaf.split.ix,B u.leaf.split.at_.1,x,y,vk,B u.leaf.empty,vp]:=(i5 (u:=u) (X:=fun k=>w25.heap.size≤k) (Rp.x (hd.ext e25)) (Rp.x (AT (hl.ext e25) (hx.ext e25) (hy.ext e25) (hk.ext e25) (hp.ext e25)))).rp
   have dv25:cu i0 [u] v25 w25:=Rp.ofSl (sz:=10) (l:=[u].map i0) b25 (by simpa using bD.cons (b:=[]) r25 bD.nil) (by simp[cR]) (by omega)
   refine aK (vs:=[(0,.agg #[vd,vl,I u.leaf.split.kd,I u.leaf.split.ix,B u.leaf.split.at_.1,x,y,vk,B u.leaf.empty,vp])]) E E hr25 ?_
   refine ai E (an nU E E ((nW dv25 (by show ow u+0≤_;omega))) ?_)
   rintro v26 w26 ⟨x26,rfl⟩
   refine ai E (bo E E uU (aE E E E (ae E E ?_)))
   refine cb (fun h29=>?_) (fun h29=>?_)
   ·refine ao E E E (ao E E E (ao E E E (ap E E E (ag (ab (bf E (af (aa (an eP E E ((ha (ho.ext (((x3.trans x16).trans x25).trans x26)))) ?_)))))))))
    rintro v34 w34 ⟨x34,rfl⟩
    refine ac E E (ag (ab (au (az (aA E E ?_)))))
    exact⟨_,rfl,rfl,((((x3.trans x16).trans x25).trans x26).trans x34)⟩
   ·refine ai E (ak E E ((k3.ext ((x16.trans x25).trans x26)).ld L8 E (by kernel_rfl)) (ai E (an kZ E E ((by have h:=la (u:=u) (hd.ext (((x3.trans x16).trans x25).trans x26)) (hl.ext (((x3.trans x16).trans x25).trans x26)) (hx.ext (((x3.trans x16).trans x25).trans x26)) (hy.ext (((x3.trans x16).trans x25).trans x26)) (hk.ext (((x3.trans x16).trans x25).trans x26)) (hp.ext (((x3.trans x16).trans x25).trans x26)) hs;rw[hval] at h;exact h)) ?_)))
    rintro v31 w31 ⟨x31,rfl⟩
    refine ai E (bo E E bu (aE E E E (ag (ab (bf E (af (aa (an eP E E ((ha (ho.ext ((((x3.trans x16).trans x25).trans x26).trans x31)))) ?_))))))))
    rintro v34 w34 ⟨x34,rfl⟩
    refine ac E E (ag (ab (au (az (aA E E ?_)))))
    exact⟨_,rfl,rfl,(((((x3.trans x16).trans x25).trans x26).trans x31).trans x34)⟩
 ·refine aa (an eP E E ((ha (ho.ext x3))) ?_)
  rintro v16 w16 ⟨x16,rfl⟩
  refine bo E E bu (ae E E (ai E (ae E E (ai E (aQ E E (cM (hpv.ext (x3.trans x16))) (ai E (al E E E (bU) (aE E E E ?_))))))))
  refine ae E E ?_
  refine cb (fun h23=>?_) (fun h23=>?_)
  ·refine ao E E E (ao E E E (ao E E E (ao E E E (ap E E E (ae E E (ao E E E (ao E E E (ao E E E (ap E E E ?_)))))))))
   refine ag (ab (bf E (af (aa (an eP E E ((ha (ho.ext (x3.trans x16)))) ?_)))))
   rintro v34 w34 ⟨x34,rfl⟩
   refine ac E E (ag (ab (au (az (aA E E ?_)))))
   exact⟨_,rfl,rfl,((x3.trans x16).trans x34)⟩
  ·refine ai E (ak E E ((k3.ext x16).ld L8 E (by kernel_rfl)) (ai E ?_))
   obtain⟨v25,w25,hr25,x25,b25,_⟩:=wo (P:=Tryz.prog) (w:=w16) (t:=25) Tryz.underlying25 ug rfl (by omega) [[vd,vl,I u.leaf.split.kd,I u.leaf.split.ix,B u.leaf.split.at_.1,x,y,vk,B u.leaf.empty,vp]] (by simp) (by simp) (by simp)
   have e25:=((x3.trans x16)).trans x25
   have r25:Rp w25 (i0 u) [vd,vl,I u.leaf.split.kd,I u.leaf.split.ix,B u.leaf.split.at_.1,x,y,vk,B u.leaf.empty,vp]:=(i5 (u:=u) (X:=fun k=>w25.heap.size≤k) (Rp.x (hd.ext e25)) (Rp.x (AT (hl.ext e25) (hx.ext e25) (hy.ext e25) (hk.ext e25) (hp.ext e25)))).rp
   have dv25:cu i0 [u] v25 w25:=Rp.ofSl (sz:=10) (l:=[u].map i0) b25 (by simpa using bD.cons (b:=[]) r25 bD.nil) (by simp[cR]) (by omega)
   refine aK (vs:=[(0,.agg #[vd,vl,I u.leaf.split.kd,I u.leaf.split.ix,B u.leaf.split.at_.1,x,y,vk,B u.leaf.empty,vp])]) E E hr25 ?_
   refine ai E (an nU E E ((nW dv25 (by show ow u+0≤_;omega))) ?_)
   rintro v26 w26 ⟨x26,rfl⟩
   refine ai E (bo E E uU (aE E E E (ae E E ?_)))
   refine cb (fun h29=>?_) (fun h29=>?_)
   ·refine ao E E E (ao E E E (ao E E E (ap E E E (ag (ab (bf E (af (aa (an eP E E ((ha (ho.ext (((x3.trans x16).trans x25).trans x26)))) ?_)))))))))
    rintro v34 w34 ⟨x34,rfl⟩
    refine ac E E (ag (ab (au (az (aA E E ?_)))))
    exact⟨_,rfl,rfl,((((x3.trans x16).trans x25).trans x26).trans x34)⟩
   ·refine ai E (ak E E ((k3.ext ((x16.trans x25).trans x26)).ld L8 E (by kernel_rfl)) (ai E (an kZ E E ((by have h:=la (u:=u) (hd.ext (((x3.trans x16).trans x25).trans x26)) (hl.ext (((x3.trans x16).trans x25).trans x26)) (hx.ext (((x3.trans x16).trans x25).trans x26)) (hy.ext (((x3.trans x16).trans x25).trans x26)) (hk.ext (((x3.trans x16).trans x25).trans x26)) (hp.ext (((x3.trans x16).trans x25).trans x26)) hs;rw[hval] at h;exact h)) ?_)))
    rintro v31 w31 ⟨x31,rfl⟩
    refine ai E (bo E E bu (aE E E E (ag (ab (cp E (aC (ab (af ?_))))))))
    have hpl:p.length≤300:=by omega
    have hnl:(eG d1).length=44:=jL hdl
    have heb:(fh p).length≤310:=by unfold fh;rw[List.length_append];have:=et (n:=p.length) (by omega);omega
    have heb2:(fh (cc u)).length≤10485790+10:=by unfold fh;rw[List.length_append];have:=et (n:=(cc u).length) (by omega);omega
    have hb4:=rP hval
    have he4:=xO hb hw hb4
    have heb4:(fh (cc u)).length≤(cc u).length+10:=by unfold fh;rw[List.length_append];have:=et (n:=(cc u).length) (by omega);omega
    have hf0:i9 [u]≤120:=by simpa using h29
    have hfair:ow u≤120:=by have h2:ow u+0≤120:=hf0;omega
    refine aa ?_
    refine bC (vs:=[(0,U8 1)]) (r:=.agg (d1.map U8).toArray) E E (run_build _ _ _ (d1.map U8).toArray (by kernel_rfl)) ?_
    refine an xH E E ((xJ hdl)) ?_
    rintro v36 w36 ⟨x36,o36⟩
    refine ae E E (an nQ E E ((nR o36.bts (hpv.ext (((((x3.trans x16).trans x25).trans x26).trans x31).trans x36)) (by omega))) ?_)
    rintro v38 w38 ⟨x38,o38⟩
    refine ac E E (ag (ab (af ?_)))
    have b38:=o38.bts
    have hl38:=sZ (eG d1) p
    refine aa (ae E E (ak E E ((k3.ext (((((x16.trans x25).trans x26).trans x31).trans x36).trans x38)).ld L8 E (by kernel_rfl)) ?_))
    refine an t7 E E ((t8 (u:=u) (hd.ext ((((((x3.trans x16).trans x25).trans x26).trans x31).trans x36).trans x38)) (hl.ext ((((((x3.trans x16).trans x25).trans x26).trans x31).trans x36).trans x38)) (hx.ext ((((((x3.trans x16).trans x25).trans x26).trans x31).trans x36).trans x38)) (hy.ext ((((((x3.trans x16).trans x25).trans x26).trans x31).trans x36).trans x38)) (hk.ext ((((((x3.trans x16).trans x25).trans x26).trans x31).trans x36).trans x38)) (hp.ext ((((((x3.trans x16).trans x25).trans x26).trans x31).trans x36).trans x38)) hw (by omega))) ?_
    rintro v41 w41 ⟨x41,b41⟩
    refine an nQ E E ((nR (b38.ext (x41)) b41 (by omega))) ?_
    rintro v42 w42 ⟨x42,o42⟩
    have b42:=o42.bts
    obtain⟨b2,hb2⟩:∃b2,b2=fA (fA (eG d1) p) (cc u):=⟨_,rfl⟩
    have hl2:b2.length=(fA (eG d1) p).length+(fh (cc u)).length+8:=by rw[hb2];exact sZ _ _
    rw[←hb2] at b42
    have henc:=Cd hval hw (by omega)
    refine ac E E (ag (ab (af ?_)))
    rcases hent:iy p with _|z
    ·have hrec:ib b2=((d1,[],44),0):=by rw[hb2];exact Lg hdl hent (by omega)
     have happ:=Lh hval hrec (by omega)
     refine aa (ae E E (an qi E E ((AW (b42.ext (aN.refl _)) (by omega) hrec)) ?_))
     rintro v45 w45 ⟨x45,ve,rfl,rp45⟩
     refine ae E E (am E E (lh) (am E E (li) (am E E (lj) (am E E (ll) ?_))))
     obtain⟨g6,w6,hr6,l6,x6,k6⟩:=aX (P:=Tryz.prog) (w:=w45) (t:=24) (l:=oo.map U8) fW rfl
     refine aV E hr6 ?_
     obtain⟨w7,s7,q7,k7⟩:=k6.stS (P:=Tryz.prog) (t:=24) (m:=d1.map U8) rfl (by kernel_rfl) (dJ _)
     refine aq E E s7 ?_
     have x7:=aN.of_new x6 q7 l6
     refine ac E E (ac E E (ac E E (ag (ab (af (aa (ae E E (an ua E E ((EV (b42.ext ((x45.trans x7))) (by omega) hrec)) ?_))))))))
     rintro v52 w52 ⟨x52,vf,rfl,rp52⟩
     refine ae E E (am E E (lh) (am E E (li) (am E E (lj) (am E E (ll) ?_))))
     obtain⟨g10,w10,hr10,l10,x10,k10⟩:=aX (P:=Tryz.prog) (w:=w52) (t:=24) (l:=oo.map U8) fW rfl
     refine aV E hr10 ?_
     obtain⟨w11,s11,q11,k11⟩:=k10.stS (P:=Tryz.prog) (t:=24) (m:=d1.map U8) rfl (by kernel_rfl) (dJ _)
     refine aq E E s11 ?_
     have x11:=aN.of_new x10 q11 l10
     refine ac E E (ac E E (ac E E (ag (ab (af (aa (ae E E (ak E E ((k3.ext (((((((((((x16.trans x25).trans x26).trans x31).trans x36).trans x38).trans x41).trans x42).trans x45).trans x7).trans x52).trans x11)).ld L8 E (by kernel_rfl)) ?_))))))))
     refine an qj E E ((vt happ (b42.ext ((((x45.trans x7).trans x52).trans x11))) (hd.ext ((((((((((((x3.trans x16).trans x25).trans x26).trans x31).trans x36).trans x38).trans x41).trans x42).trans x45).trans x7).trans x52).trans x11)) (hl.ext ((((((((((((x3.trans x16).trans x25).trans x26).trans x31).trans x36).trans x38).trans x41).trans x42).trans x45).trans x7).trans x52).trans x11)) (hx.ext ((((((((((((x3.trans x16).trans x25).trans x26).trans x31).trans x36).trans x38).trans x41).trans x42).trans x45).trans x7).trans x52).trans x11)) (hy.ext ((((((((((((x3.trans x16).trans x25).trans x26).trans x31).trans x36).trans x38).trans x41).trans x42).trans x45).trans x7).trans x52).trans x11)) (hk.ext ((((((((((((x3.trans x16).trans x25).trans x26).trans x31).trans x36).trans x38).trans x41).trans x42).trans x45).trans x7).trans x52).trans x11)) (hp.ext ((((((((((((x3.trans x16).trans x25).trans x26).trans x31).trans x36).trans x38).trans x41).trans x42).trans x45).trans x7).trans x52).trans x11)) hs hw (by omega) (by omega))) ?_
     rintro v60 w60 ⟨x60,v60,rfl,b60⟩
     refine ae E E (am E E (bj) (am E E (bk) (ac E E (ac E E (ag (ab (af (af ?_))))))))
     have dN1:cu i0 [] ve w60:=(rp45.ext ((((x7.trans x52).trans x11).trans x60))).rp
     have dN2:cu i0 [] vf w60:=(rp52.ext ((x11.trans x60))).rp
     ·refine aa (ae E E ?_)
      refine aQ E E (be Mp dN2) ?_
      refine al E E E (cW (by decide) bi) (ag (ab (cp E (aC (ab (af (aa (ae E E (ae E E (al E E E (cw E bi) ?_))))))))))
      refine ae E E (ai E (ae E E (ai E (ae E E (ai E (al E E E (cw E bi) (ap E E E (ae E E (ai E (ae E E ?_))))))))))
      refine ai E (al E E E (cw E bi) (ap E E E (ae E E (ai E (ae E E (ai E ?_))))))
      refine aQ E E (be Mp dN1) ?_
      refine ai E (al E E E (cw E bi) (ap E E E (ae E E (ai E (ae E E (ai E (al E E E (cw E bi) (ap E E E ?_))))))))
      refine ac E E (ag (ab (au (aA E E ?_))))
      exact⟨_,rfl,rfl,(((((((((((((x3.trans x16).trans x25).trans x26).trans x31).trans x36).trans x38).trans x41).trans x42).trans x45).trans x7).trans x52).trans x11).trans x60)⟩
    ·have hrec:ib b2=((d1,[z,u],b2.length),0):=by rw[hb2];exact JQ hdl hent (by omega) henc (by omega)
     have happ:=JS hval hrec
     obtain⟨hzp,hzv,hzw,_⟩:=xz hent
     refine aa (ae E E (an qi E E ((AW (b42.ext (aN.refl _)) (by omega) hrec)) ?_))
     rintro v45 w45 ⟨x45,ve,rfl,rp45⟩
     refine ae E E (am E E (lh) (am E E (li) (am E E (lj) (am E E (ll) ?_))))
     obtain⟨g6,w6,hr6,l6,x6,k6⟩:=aX (P:=Tryz.prog) (w:=w45) (t:=24) (l:=oo.map U8) fW rfl
     refine aV E hr6 ?_
     obtain⟨w7,s7,q7,k7⟩:=k6.stS (P:=Tryz.prog) (t:=24) (m:=d1.map U8) rfl (by kernel_rfl) (dJ _)
     refine aq E E s7 ?_
     have x7:=aN.of_new x6 q7 l6
     refine ac E E (ac E E (ac E E (ag (ab (af (aa (ae E E (an ua E E ((EV (b42.ext ((x45.trans x7))) (by omega) hrec)) ?_))))))))
     rintro v52 w52 ⟨x52,vf,rfl,rp52⟩
     refine ae E E (am E E (lh) (am E E (li) (am E E (lj) (am E E (ll) ?_))))
     obtain⟨g10,w10,hr10,l10,x10,k10⟩:=aX (P:=Tryz.prog) (w:=w52) (t:=24) (l:=oo.map U8) fW rfl
     refine aV E hr10 ?_
     obtain⟨w11,s11,q11,k11⟩:=k10.stS (P:=Tryz.prog) (t:=24) (m:=d1.map U8) rfl (by kernel_rfl) (dJ _)
     refine aq E E s11 ?_
     have x11:=aN.of_new x10 q11 l10
     refine ac E E (ac E E (ac E E (ag (ab (af (aa (ae E E (ak E E ((k3.ext (((((((((((x16.trans x25).trans x26).trans x31).trans x36).trans x38).trans x41).trans x42).trans x45).trans x7).trans x52).trans x11)).ld L8 E (by kernel_rfl)) ?_))))))))
     refine an qj E E ((vt happ (b42.ext ((((x45.trans x7).trans x52).trans x11))) (hd.ext ((((((((((((x3.trans x16).trans x25).trans x26).trans x31).trans x36).trans x38).trans x41).trans x42).trans x45).trans x7).trans x52).trans x11)) (hl.ext ((((((((((((x3.trans x16).trans x25).trans x26).trans x31).trans x36).trans x38).trans x41).trans x42).trans x45).trans x7).trans x52).trans x11)) (hx.ext ((((((((((((x3.trans x16).trans x25).trans x26).trans x31).trans x36).trans x38).trans x41).trans x42).trans x45).trans x7).trans x52).trans x11)) (hy.ext ((((((((((((x3.trans x16).trans x25).trans x26).trans x31).trans x36).trans x38).trans x41).trans x42).trans x45).trans x7).trans x52).trans x11)) (hk.ext ((((((((((((x3.trans x16).trans x25).trans x26).trans x31).trans x36).trans x38).trans x41).trans x42).trans x45).trans x7).trans x52).trans x11)) (hp.ext ((((((((((((x3.trans x16).trans x25).trans x26).trans x31).trans x36).trans x38).trans x41).trans x42).trans x45).trans x7).trans x52).trans x11)) hs hw (by omega) (by omega))) ?_
     rintro v60 w60 ⟨x60,v60,rfl,b60⟩
     refine ae E E (am E E (bj) (am E E (bk) (ac E E (ac E E (ag (ab (af (af ?_))))))))
     have dY1:cu i0 [z,u] ve w60:=(rp45.ext ((((x7.trans x52).trans x11).trans x60))).rp
     have dY2:cu i0 [z,u] vf w60:=(rp52.ext ((x11.trans x60))).rp
     have hpv9:=hpv.ext ((((((((((((((x3.trans x16).trans x25).trans x26).trans x31).trans x36).trans x38).trans x41).trans x42).trans x45).trans x7).trans x52).trans x11).trans x60))
     have hz:z=([z,u])[0]'(by simp):=rfl
     ·refine aa (ae E E ?_)
      refine aQ E E (be Mp dY2) ?_
      refine al E E E (cw E bi) (ag (ab (bf E (af (bO 27 [92] (by kernel_rfl) (by kernel_rfl) ?_)))))
      refine aD (S:=Is (I 0)) E E (aD (S:=Is (I 0)) E E (bb E E E (fun w _=>cw E bi) (aD (S:=Is (B true)) E E (bz E E ?_))))
      refine aD (S:=Is (I ((b2.length:Nat):Int))) E E (bz E E (aD (S:=Is (I ((b2.length:Nat):Int))) E E (bz E E (bb E E E (fun w _=>cw E bi) ?_))))
      refine oz (S:=Is (B true)) E E E (aD (S:=Is (B true)) E E (bz E E (aD (S:=Is (ve)) E E (bz E E (aD (S:=Is (vf)) E E ?_)))))
      refine bz rfl rfl (ca (S:=Is (B true)) Cg (cd.is _) rfl (fun w hw=>by rintro _ rfl _ rfl;exact bE.mono (Ch (dY1.ext hw) (dY2.ext hw)) fun v w' h=>⟨h.1,h.2⟩) ?_)
      refine oz (S:=Is (B true)) E E E (aD (S:=Is (B true)) E E (bz E E (aD (S:=Is (I 0)) E E (bz E E (bb E E E (fun w _=>cw E bi) ?_)))))
      refine oz (S:=Is (B true)) E E E (aD (S:=Is (B true)) E E (bz E E (aD (S:=Is (ve)) E E (bz E E ?_))))
      obtain⟨a85,c85,p85,q85,h85⟩:=cf (P:=Tryz.prog) (sz:=10) Tryz.underlying25 (by kernel_rfl) cR (by omega) dY1 (i:=0) ((by simp)) .i64
      rw[←hz] at h85
      obtain⟨x85_0,x85_1,x85_2,x85_3,x85_4,x85_5,rfl,f85_0,f85_1,f85_2,f85_3,f85_4,f85_5⟩:=gQ h85
      refine aF E E E (fun w _=>p85 w) (bz E E (aO E E (fun w hw=>(q85.ext hw).ld L8 E (by kernel_rfl)) ?_))
      refine bz rfl rfl (ca (S:=cn p) t7 (cn.stable _) rfl (fun w hw=>by rintro _ rfl;exact bE.mono (t8 (u:=z) (f85_0.ext hw) (f85_1.ext hw) (f85_2.ext hw) (f85_3.ext hw) (f85_4.ext hw) (f85_5.ext hw) hzw (by rw[hzp];omega)) fun v w' h=>⟨h.1,by have h2:=h.2;rwa [hzp] at h2⟩) ?_)
      refine bz E E (DW E (cd.is _) E (fun w v hw hv=>⟨_,w,mi hv,aN.refl _,rfl⟩) (bz E E (aD (S:=Is (pv)) E E (bz E E (dy E E (fun w hw=>mi ((hpv.ext (((((((((((((x3.trans x16).trans x25).trans x26).trans x31).trans x36).trans x38).trans x41).trans x42).trans x45).trans x7).trans x52).trans x11).trans x60)).ext hw)) ?_)))))
      refine bz E E (bb E E E (fun w _=>cw E zO) (oz (S:=Is (B true)) E E E (cq ?_)))
      intro wg9 xg9
      rintro _ rfl
      refine ac E E (ag (ab (au (az (aA E E ?_)))))
      exact⟨_,rfl,rfl,((((((((((((((x3.trans x16).trans x25).trans x26).trans x31).trans x36).trans x38).trans x41).trans x42).trans x45).trans x7).trans x52).trans x11).trans x60).trans xg9)⟩
end Go.Rl

/- Part 4 of a proof: plain facts and walks of functions, merged by a program. Conditions: each lemma names its own. -/
import Derived.Test.YtaajaakbcelmfaaGreatDoorCx3
namespace Go.Rl
open Go.RowKit Go.Proofs
theorem zW:aw Tryz.prog 103:=⟨_,Tryz.func103,by kernel_rfl,rfl⟩
section
variable {P:Program} {w w':World}
theorem Fp {t:TypeId} {v:Value} (h:v.cells=[v].toArray):∃g w',(Instr.box t v).run P w=.ok (.pointer (some ⟨g,0,none⟩)) w'∧w.heap.size≤g∧aG w w'∧cl g t [v] w':=
 ⟨_,_,m2,Nat.le_refl _,aG.new w _,cl.new v h⟩
theorem fL {t T:TypeId} {g:Nat} {u v:Value} (hs:(P.info? t).map (·.size)=some 1) (hv:v.oneCell'=true) (h:cl g T [u] w):
 ∃w',(Instr.storeAt t (.pointer (some ⟨g,0,none⟩)) v).run P w=.ok () w'∧w.grownBy w' (some g)∧cl g T [v] w':=
 ⟨_,dY (i:=0) hs hv h (by simp),bb w g 0 v,h.set 0 v⟩
end
theorem yj:(Tryz.prog.info? 3).map (·.zero)=some (some (.int .i64 0)):=by kernel_rfl
theorem zX {d:List UInt8} {x y:Nat} (hx:x<d.length) (hy:y<d.length):jT (d.drop x) (d.drop y)=if d[x]=d[y] then jT (d.drop (x+1)) (d.drop (y+1))+1 else 0:=by
 rw[List.drop_eq_getElem_cons hx,List.drop_eq_getElem_cons hy,jT]
theorem Be {d:List UInt8} {x y:Nat} (hx:d.length≤x):jT (d.drop x) (d.drop y)=0:=by
 rw[List.drop_of_length_le hx];cases d.drop y<;>rfl
theorem cl.c0 {w:World} {g:Nat} {T:TypeId} {v:Value} {l:List Value} (h:cl g T (v::l) w):w.cell? ⟨g,0,none⟩=some v:=h.cell (i:=0) rfl
def GG (b:Nat) (T:TypeId) (l:List Value):dl:=fun v w=>∃g,v=.pointer (some ⟨g,0,none⟩)∧b≤g∧cl g T l w
theorem GG.stable (b:Nat) (T:TypeId) (l:List Value):bo (GG b T l):=fun _ _ _ ⟨g,h1,h2,h3⟩ hx=>⟨g,h1,h2,h3.ext hx⟩
theorem H6 {w:World} {g:Nat} {T:TypeId} {l:List Value} {q:List UInt8} (h:cl g T l w) (hl:l.length=4) (hq:q.length=4):
 ∃w',(Instr.storeAt 221 (.pointer (some ⟨g,0,none⟩)) (K4 q)).run Tryz.prog w=.ok () w'∧w.grownBy w' (some g)∧cl g T (q.map U8) w':=
 ⟨_,gO h (by rw[List.length_map,hl,hq]) (by rw[List.length_map,hq];exact ye) (kD q),bg w g _,h.row _⟩
structure zY (wb:World) (d:List UInt8) (g m nx:Nat) (Y:Nat→Prop) (w:World):Prop where
 ext:aG wb w
 low:∀k,(k=g∨k=m∨Y k)→wb.heap.size≤k∧k<w.heap.size
 ng:¬Y g
 nm:¬Y m
 gm:g≠m
 blk:∃A n c,cl g 158 [.slice A n c,.map (some m),I (nx:Int)] w∧ci d (.slice A n c) wb
 map:gp wb.heap.size d m nx Y w
def kj (g m:Nat) (Y:Nat→Prop):Nat→Prop:=fun k=>k=g∨k=m∨Y k
section
variable {wb w w':World} {d:List UInt8} {g m nx:Nat} {Y:Nat→Prop}
theorem zY.mv {X:Nat→Prop} (h:zY wb d g m nx Y w) (hx:Mv X w w') (hX:∀k,kj g m Y k→¬X k) (hb:∀k,X k→wb.heap.size≤k):zY wb d g m nx Y w':=
 ⟨hx.ext_from h.ext hb,fun k hk=>⟨(h.low k hk).1,Nat.lt_of_lt_of_le (h.low k hk).2 hx.size⟩,h.ng,h.nm,h.gm,by
  obtain⟨A,n,c,h1,h2⟩:=h.blk
  exact⟨A,n,c,hx.blk h1 (hX g (.inl rfl)),h2⟩,h.map.same (hx.keep m h.map.lt (hX m (.inr (.inl rfl)))) fun k hk hl=>hx.keep k hl (hX k (.inr (.inr hk)))⟩
theorem zY.xt (h:zY wb d g m nx Y w) (hx:aG w w'):zY wb d g m nx Y w':=h.mv (X:=fun _=>False) (Mv.of_ext hx) (fun _ _=>id) (fun _ hk=>hk.elim)
end
theorem gp.ne_row {base b:Nat} {d:List UInt8} {m n:Nat} {Y:Nat→Prop} {w:World} (h:gp base d m n Y w) {l:List Int} {v:Value} (hv:eH b l v w):v.ownBlock≠some m:=fun hk=>by
 obtain⟨es,clock,h⟩:=h
 obtain⟨cs,f,hc⟩:=hv.cells hk
 rw[h.at_] at hc
 cases hc
theorem zY.step {wb w:World} {d:List UInt8} {g m x n c:Nat} {A:Option Addr} {Y:Nat→Prop} (h:zY wb d g m x Y w) (hx:x+4≤d.length) (hb:cl g 158 [.slice A n c,.map (some m),I (x:Int)] w) (hd:ci d (.slice A n c) wb):
 ∃v born w1,(Instr.mapEntry 156 (.map (some m)) (K4 ((d.drop x).take 4))).run Tryz.prog w=.ok (.tuple #[v,I (born:Nat)]) w1∧w.grownBy w1 (some m)∧eH wb.heap.size (iZ d ((d.drop x).take 4) x) v w1∧
 ∀v' w2,fM w1 w2 v v'→eH wb.heap.size (iZ d ((d.drop x).take 4) x++[(x:Int)]) v' w2→∃w3,(Instr.entryStore 156 (.map (some m)) (I (born:Nat)) v').run Tryz.prog w2=.ok () w3∧Mv (fun k=>k=m∨Y k) w w3∧cl g 158 [.slice A n c,.map (some m),I (x:Int)] w3∧
  ∀w4,w3.grownBy w4 (some g)→cl g 158 [.slice A n c,.map (some m),I ((x+1:Nat):Int)] w4→∃Y',zY wb d g m (x+1) Y' w4∧Mv (kj g m Y) w w4∧∀k,Y' k→Y k∨w.heap.size≤k:=by
 obtain⟨v,born,w1,r1,g1,o1,hY,nm,fin⟩:=h.map.step hx
 refine⟨v,born,w1,r1,g1,o1,fun v' w2 gr hv=>?_⟩
 obtain⟨w3,r3,g3,m3⟩:=fin v' w2 gr hv
 have mv3:Mv (fun k=>k=m∨Y k) w w3:=
  ((Mv.of_grown (X:=fun k=>k=m∨Y k) g1 (fun k e _=>.inl (Option.some.inj e).symm)).trans (Mv.of_grown (X:=fun k=>k=m∨Y k) gr.grown (fun k e _=>.inr (hY k e))) (fun _ hn _=>hn)).trans (Mv.of_grown (X:=fun k=>k=m∨Y k) g3 (fun k e _=>.inl (Option.some.inj e).symm)) (fun _ hn _=>hn)
 have hbg:=mv3.blk hb (fun hk=>hk.elim h.gm h.ng)
 refine⟨w3,r3,mv3,hbg,fun w4 g4 hb4=>?_⟩
 have mv4:Mv (kj g m Y) w w4:=(mv3.weak (Y:=kj g m Y) (fun k hk _=>.inr hk)).trans (Mv.of_grown (X:=kj g m Y) g4 (fun k e _=>.inl (Option.some.inj e).symm)) (fun _ hn _=>hn)
 have hv':∀k,v'.ownBlock=some k→Y k∨w.heap.size≤k:=fun k hk=>by
  rcases gr.own with e|e
  ·exact .inl (hY k (e▸hk))
  ·exact .inr (Nat.le_trans g1.size (e k hk))
 refine⟨fun k=>Y k∨v'.ownBlock=some k,⟨mv4.ext_from h.ext (fun k hk=>(h.low k hk).1),?_,?_,?_,h.gm,⟨A,n,c,hb4,hd⟩,?_⟩,mv4,fun k hk=>hk.elim .inl (hv' k)⟩
 ·rintro k (hk|hk|hk|hk)
  ·exact⟨(h.low k (.inl hk)).1,Nat.lt_of_lt_of_le (h.low k (.inl hk)).2 mv4.size⟩
  ·exact⟨(h.low k (.inr (.inl hk))).1,Nat.lt_of_lt_of_le (h.low k (.inr (.inl hk))).2 mv4.size⟩
  ·exact⟨(h.low k (.inr (.inr hk))).1,Nat.lt_of_lt_of_le (h.low k (.inr (.inr hk))).2 mv4.size⟩
  ·have:=hv.lt k hk
   exact⟨this.1,Nat.lt_of_lt_of_le this.2 (Nat.le_trans g3.size g4.size)⟩
 ·rintro(hk|hk)
  ·exact h.ng hk
  ·rcases hv' g hk with hk|hk
   ·exact h.ng hk
   ·have:=(h.low g (.inl rfl)).2;omega
 ·rintro(hk|hk)
  ·exact h.nm hk
  ·rcases hv' m hk with hk|hk
   ·exact h.nm hk
   ·have:=(h.low m (.inr (.inl rfl))).2;omega
 ·refine m3.same (g4.block m m3.lt (fun e=>h.gm (Option.some.inj e).symm)) (fun k hk hl=>g4.block k hl (fun e=>?_))
  obtain rfl:=Option.some.inj e
  rcases hk with hk|hk
  ·exact h.ng hk
  ·rcases hv' k hk with hk|hk
   ·exact h.ng hk
   ·have:=(h.low k (.inl rfl)).2;omega
abbrev Pl (d:List UInt8) (i:Nat):Type:={p:Nat×Nat//p.2<i∧(d.drop p.2).take 4=(d.drop i).take 4}
def Pl.enc {d:List UInt8} {i:Nat} (x:Pl d i):List Value:=[I (x.1.1:Int),I (x.1.2:Int)]
def CL (d:List UInt8) (i:Nat):List (Pl d i):=List.ofFn fun k:Fin (pos d ((d.drop i).take 4) i).length=>
 ⟨((pos d ((d.drop i).take 4) i).length-1-k.1,(pos d ((d.drop i).take 4) i)[(pos d ((d.drop i).take 4) i).length-1-k.1]'(by have:=k.2;omega)),A9.1 (List.getElem_mem _)⟩
theorem vW (d:List UInt8) (i:Nat):(CL d i).length=(pos d ((d.drop i).take 4) i).length:=by simp[CL]
theorem Bf (d:List UInt8) (i:Nat):(CL d i).map (·.1.2)=(pos d ((d.drop i).take 4) i).reverse:=by
 apply List.ext_getElem
 ·simp[vW]
 ·intro k h1 h2
  simp[CL,List.getElem_reverse]
theorem GH (d:List UInt8) (i k:Nat) (h:k<(CL d i).length):(CL d i)[k].enc=[I (((iZ d ((d.drop i).take 4) i).length-1-k:Nat):Int),I ((iZ d ((d.drop i).take 4) i)[(iZ d ((d.drop i).take 4) i).length-1-k]'(by rw[vW] at h;simp only[iZ,List.length_map];omega))]:=by
 simp[CL,Pl.enc,iZ]
def tx (d:List UInt8) (i:Nat) (l:List (Pl d i)):Nat×Nat:=(l.map (·.1.2)).foldl (Fa d i) (0,0)
theorem oI (d:List UInt8) (i:Nat) (l:List (Pl d i)) (x:Pl d i):tx d i (l++[x])=Fa d i (tx d i l) x.1.2:=by
 unfold tx
 rw[List.map_append,List.foldl_append];rfl
theorem lj (d:List UInt8) (i:Nat):((CL d i).map (·.1.2)).Pairwise (fun a b=>b<a):=by
 rw[Bf,List.pairwise_reverse]
 exact zR _ _ _
theorem vX (d:List UInt8) (i p:Nat):p∈(CL d i).map (·.1.2)↔p<i∧(d.drop p).take 4=(d.drop i).take 4:=by
 rw[Bf,List.mem_reverse,A9]
theorem zZ {d:List UInt8} {i:Nat} (h:d.length<i+4):cN d i=(0,0):=by
 rcases Nat.eq_zero_or_pos (cN d i).1 with h0|h0
 ·rcases zO d i (min i 4096) with e|e
  ·exact e
  ·unfold cN at h0;omega
 ·have:=lh (d:=d) (i:=i) (by omega)
  omega
structure nQ (wl:World) (g7 g8:Nat) (s:Nat×Nat) (W:World):Prop where
 c7:cl g7 3 [I (s.1:Int)] W
 c8:cl g8 3 [I (s.2:Int)] W
 mv:Mv (fun k=>k=g7∨k=g8) wl W
section
variable {wl W W':World} {g7 g8:Nat} {s:Nat×Nat}
theorem nQ.own (h:nQ wl g7 g8 s W) (h7:g7<wl.heap.size) (h8:g8<wl.heap.size) {row:Option Nat} (hg:W.grownBy W' row) (hr:∀r,row=some r→wl.heap.size≤r):nQ wl g7 g8 s W':=
 ⟨h.c7.other hg (fun e=>by have:=hr g7 e.symm;omega),h.c8.other hg (fun e=>by have:=hr g8 e.symm;omega),h.mv.trans (Mv.of_grown (X:=fun k=>wl.heap.size≤k) hg (fun k hk _=>hr k hk)) (fun n hn hl=>by omega)⟩
theorem nQ.xt (h:nQ wl g7 g8 s W) (hx:aG W W'):nQ wl g7 g8 s W':=⟨h.c7.ext hx,h.c8.ext hx,h.mv.trans (Mv.of_ext (X:=fun _=>False) hx) (fun _ hn _=>hn.elim)⟩
end
theorem nQ.keeps {wl W W':World} {g7 g8:Nat} (h:Mv (fun k=>k=g7∨k=g8) W W') (h7:g7<wl.heap.size) (h8:g8<wl.heap.size):KeepsFrom wl.heap.size W W':=
 ⟨h.size,fun k o hk ho _=>(h.keep k (Array.getElem?_eq_some_iff.1 ho).1 (fun e=>by omega)).trans ho⟩
theorem nQ.keep {wl W W':World} {g7 g8:Nat} (h:Mv (fun k=>k=g7∨k=g8) W W') (hl:wl.heap.size≤W.heap.size):sy (fun k=>k<wl.heap.size∧k≠g7∧k≠g8) W W':=
 ⟨h.size,fun k hk=>h.keep k (Nat.lt_of_lt_of_le hk.1 hl) (fun e=>e.elim hk.2.1 hk.2.2)⟩
theorem z4 {wb w:World} {d:List UInt8} {g m nx i:Nat} {Y:Nat→Prop} (h:zY wb d g m nx Y w) (hni:nx≤i) (hi:i≤d.length) (hl:d.length≤1099511627776):
 Calls Tryz.prog 103 #[.pointer (some ⟨g,0,none⟩),I (i:Int)] w (bD fun r w'=>r=.tuple #[I ((cN d i).1:Int),I ((cN d i).2:Int)]∧∃nx' Y',nx'≤i∧zY wb d g m nx' Y' w'∧Mv (kj g m Y) w w'∧∀k,Y' k→Y k∨w.heap.size≤k):=by
 refine DJ (vs:=[.pointer (some ⟨g,0,none⟩),I (i:Int)]) Tryz.func103 JL JL JL ?_
 obtain⟨A,n,c,k0,hd⟩:=h.blk
 have hf:∀k,kj g m Y k→k<w.heap.size:=fun k hk=>(h.low k hk).2
 have hw0:=h.ext.size
 refine af (aa ?_)
 obtain⟨g2,w2,hr2,l2,x2,k2⟩:=Fp (P:=Tryz.prog) (w:=w) (t:=155) (v:=.pointer (some ⟨g,0,none⟩)) rfl
 refine cx JL JL hr2 ?_
 obtain⟨g3,w3,hr3,l3,x3,k3⟩:=Fp (P:=Tryz.prog) (w:=w2) (t:=3) (v:=I (i:Int)) rfl
 refine cx JL JL hr3 ?_
 have h3:=h.xt (x2.trans x3)
 have x3':=(x2.trans x3)
 have hg2:w.heap.size≤g2:=l2
 have hg3:w.heap.size≤g3:=Nat.le_trans x2.size l3
 have k2:=k2.ext x3
 have b2:=k2.lt
 have b3:=k3.lt
 have nf2:¬kj g m Y g2:=fun hk=>by have:=hf _ hk;omega
 have nf3:¬kj g m Y g3:=fun hk=>by have:=hf _ hk;omega
 refine ac JL JL (ac JL JL (ag (ab (af (af ?_)))))
 have k1:=k0.ext (x2.trans x3)
 have hd1:=hd.ext h3.ext
 refine bm 7 [2,3,13,18] (by kernel_rfl) (by kernel_rfl) ?_
 refine aD JL JL (fun w hw=>ai Jh JL (hw.cell_some k3.c0)) (aO (r:=I ((i+4:Nat):Int)) JL JL JL (fun w _=>by have e:((i+4:Nat):Int)=(i:Int)+4:=(by omega);rw[e];exact aE (by omega) (by omega)) ?_)
 refine aD JL JL (fun w hw=>ai Jw JL (hw.cell_some k2.c0)) (cp JL JL (aF JL JL (fun w hw=>aI (o:=0) Jv JL (by kernel_rfl) JL) ?_))
 refine aD JL JL (fun w hw=>ai Jl JL (hw.cell_some (k1.cell (i:=0) JL))) (gN (vs:=[.slice A n c]) JL JL (fun w hw=>bP (hd1.ext hw)) ?_)
 refine bu ?_
 intro wg1 xg1
 rintro _ rfl
 rintro _ rfl
 rintro _ rfl
 rintro _ rfl
 refine aj JL JL JL (cg) (ag (ab ?_))
 refine ba JL (fun h19=>?_) (fun h19=>?_)
 ·refine af (aa (ac JL JL (ac JL JL (ag (ab (au (ax (Ge JL JL JL ?_))))))))
  exact⟨_,rfl,by rw[zZ (by omega)];rfl,nx,Y,hni,h3.xt xg1,Mv.of_ext ((x2.trans x3).trans xg1),fun k hk=>.inl hk⟩
 ·refine ar (ab (af (av ?_)))
  refine ck (α:=Nat) (fun x=>[(2,.pointer (some ⟨g2,0,none⟩)),(3,.pointer (some ⟨g3,0,none⟩))]) (fun x w'=>x≤i∧∃Y',zY wb d g m x Y' w'∧Mv (kj g m Y) w3 w'∧∀k,Y' k→Y k∨w3.heap.size≤k) (fun x=>i-x) (nx) ⟨rfl,rfl,trivial⟩ ⟨hni,Y,h3.xt xg1,Mv.of_ext xg1,fun k hk=>.inl hk⟩ ?_
  rintro x w4 ⟨hx2,Y',h4,mv4,hY4⟩
  refine af (af ?_)
  obtain⟨A,n,c,k1,hd⟩:=h4.blk
  have k2:=mv4.blk k2 nf2
  have k3:=mv4.blk k3 nf3
  have hd1:=hd.ext h4.ext
  refine bm 5 [2,3,23,24] (by kernel_rfl) (by kernel_rfl) ?_
  refine aD JL JL (fun w hw=>ai Jw JL (hw.cell_some k2.c0)) (cp JL JL (aF JL JL (fun w hw=>aI (o:=2) Jv JL (by kernel_rfl) JL) ?_))
  refine aD JL JL (fun w hw=>ai Jh JL (hw.cell_some (k1.cell (i:=2) JL))) (aD JL JL (fun w hw=>ai Jh JL (hw.cell_some k3.c0)) ?_)
  refine bu ?_
  intro wg3 xg3
  rintro _ rfl
  rintro _ rfl
  rintro _ rfl
  rintro _ rfl
  refine aj JL JL JL (aS) (ag (ab ?_))
  refine ba JL (fun h25=>?_) (fun h25=>?_)
  ·have hlt:x<i:=by omega
   have hq4:((d.drop x).take 4).length=4:=by rw[List.length_take,List.length_drop];omega
   refine ar (ab (af (av (af (bm 7 [2,3,6,38] (by kernel_rfl) (by kernel_rfl) ?_)))))
   refine aD JL JL (fun w hw=>ai Jw JL (hw.cell_some (xg3.cell_some k2.c0))) (aD JL JL (fun w hw=>ai Jw JL (hw.cell_some (xg3.cell_some k2.c0))) ?_)
   refine cp JL JL (aF JL JL (fun w hw=>aI (o:=2) Jv JL (by kernel_rfl) JL) (aD JL JL (fun w hw=>ai Jh JL (hw.cell_some (xg3.cell_some (k1.cell (i:=2) JL)))) ?_))
   refine bW (S:=Is (K4 ((d.drop x).take 4))) yh (bo.is _) rfl (fun w hw=>by rintro _ rfl _ rfl;exact bD.mono (yi (k1.ext (aG.trans xg3 hw)) (hd1.ext (aG.trans xg3 hw)) (by omega) hl) fun v w' h=>h) ?_
   refine qv (S:=GG wg3.heap.size 221 [.int .u8 0,.int .u8 0,.int .u8 0,.int .u8 0]) (GG.stable _ _ _) rfl (fun w' hw=>by obtain⟨g6,w2,h1,h2,h3,h4⟩:=bc (P:=Tryz.prog) (w:=w') (l:=[.int .u8 0,.int .u8 0,.int .u8 0,.int .u8 0]) Bd rfl;exact⟨_,w2,h1,h3,g6,rfl,Nat.le_trans hw.size h2,h4⟩) ?_
   refine bu ?_
   intro wg5 xg5
   rintro _ rfl
   rintro _ rfl
   intro vg6 q6
   rintro _ rfl
   obtain⟨g6,rfl,l6,b6⟩:=q6
   obtain⟨w5,r5,gr5,b5⟩:=H6 b6 rfl hq4
   refine aC JL JL (r5) ?_
   have x5:=aG.of_new (w:=w4) (xg3.trans xg5) gr5 (Nat.le_trans xg3.size l6)
   refine ag (ab (Gx 10 [10,11,13,12,14] [2,3,42,43,49] (by kernel_rfl) (by kernel_rfl) JL ?_))
   refine aD JL JL (fun w hw=>ai Jw JL (hw.cell_some (x5.cell_some k2.c0))) (cp JL JL (aF JL JL (fun w hw=>aI (o:=1) Jv JL (by kernel_rfl) JL) ?_))
   refine aD JL JL (fun w hw=>ai Tryz.underlying156 JL (hw.cell_some (x5.cell_some (k1.cell (i:=1) JL)))) (aD JL JL (fun w hw=>lH (o:=0) (m:=((d.drop x).take 4).map U8) (b5.ext hw) (fun _ _ h=>by simpa using h) Tryz.underlying221 JL (by rw[List.length_map,hq4];exact ye)) ?_)
   refine aD JL JL (fun w hw=>ai Jw JL (hw.cell_some (x5.cell_some k2.c0))) (cp JL JL (aF JL JL (fun w hw=>aI (o:=2) Jv JL (by kernel_rfl) JL) ?_))
   refine aD rfl rfl (fun w hw=>ai Tryz.underlying3 rfl (hw.cell_some (x5.cell_some (k1.cell (i:=2) rfl)))) (ep (S:=eH wb.heap.size [(x:Int)]) (eH.stable _ _) rfl (fun w' hw=>by rintro _ rfl;obtain⟨r,w2,h1,h2,h3,_⟩:=AD (w:=w') wb.heap.size [(x:Int)] (by simp) (Nat.le_trans h4.ext.size (Nat.le_trans x5.size hw.size));exact⟨r,w2,h1,h2,h3⟩) ?_)
   refine bu ?_
   intro wg6 xg6
   rintro _ rfl
   rintro _ rfl
   rintro _ rfl
   rintro _ rfl
   intro vg49 b49
   have h6:=h4.xt (x5.trans xg6)
   obtain⟨v50,q50,w50,r50,g50,o50,fin⟩:=h6.step (by omega) (k1.ext (x5.trans xg6)) hd
   refine y4 JL JL JL r50 ?_
   refine an JL JL (bw) (an JL JL (bz) ?_)
   obtain⟨v51,w51,r51,o51,gr51⟩:=HF (ty:=66) o50 (b49.kept g50 (.inr (h6.map.ne_row b49))).its (by have:=Ba d ((d.drop x).take 4) x;simp only[iZ,List.length_map,List.length_cons,List.length_nil];omega) (Nat.le_trans h6.ext.size g50.size)
   refine aW JL JL r51 ?_
   obtain⟨w6,r6,mv6,k6,fin⟩:=fin v51 w51 gr51 o51
   refine uX JL JL JL r6 ?_
   have sz4:w3.heap.size≤wg6.heap.size:=Nat.le_trans mv4.size (Nat.le_trans x5.size xg6.size)
   have nX:∀k,w.heap.size≤k→k<w3.heap.size→¬(k=m∨Y' k):=fun k h1 h2 hk=>by
    rcases hk with hk|hk
    ·have:=hf m (.inr (.inl rfl));omega
    ·rcases hY4 k hk with h|h
     ·have:=hf k (.inr (.inr h));omega
     ·omega
   have k26:=mv6.blk (k2.ext (aG.trans x5 xg6)) (nX g2 hg2 b2)
   refine ag (vB (aM (ab (aa (ak JL JL (ai Jw JL k26.c0) (aZ JL JL (ah JL JL (aI (o:=2) Jv JL (by kernel_rfl) JL) ?_)))))))
   refine ak JL JL (ai Jh JL (k6.cell (i:=2) JL)) (aj (r:=I ((x+1:Nat):Int)) JL JL JL (by have e:((x+1:Nat):Int)=(x:Int)+1:=(by omega);rw[e];exact aE (by omega) (by omega)) ?_)
   refine aZ JL JL (ah JL JL (aI (o:=2) Jv JL (by kernel_rfl) JL) ?_)
   obtain⟨w7,r7,gr7,k7⟩:∃w7,(Instr.storeAt 3 (.pointer (some ⟨g,2,none⟩)) (I ((x+1:Nat):Int))).run Tryz.prog w6=.ok () w7∧w6.grownBy w7 (some g)∧cl g 158 [.slice A n c,.map (some m),I ((x+1:Nat):Int)] w7:=⟨_,dY (i:=2) fj rfl k6 (by simp),bb _ _ _ _,k6.set 2 _⟩
   obtain⟨Y7,h7,mv7,hY7⟩:=fin w7 gr7 k7
   refine aC JL JL (r7) (ag ?_)
   have mv7':Mv (kj g m Y) w3 w7:=(mv4.trans (Mv.of_ext (X:=fun _=>False) (aG.trans x5 xg6)) (fun _ hn _=>hn.elim)).trans mv7 (fun k hk hl=>by
    rcases hk with hk|hk|hk
    ·exact .inl hk
    ·exact .inr (.inl hk)
    ·rcases hY4 k hk with h|h
     ·exact .inr (.inr h)
     ·omega)
   have hY7':∀k,Y7 k→Y k∨w3.heap.size≤k:=fun k hk=>by
    rcases hY7 k hk with h|h
    ·exact hY4 k h
    ·exact .inr (by omega)
   refine bN (x+1) ⟨rfl,rfl,trivial⟩ ⟨by omega,Y7,h7,mv7',hY7'⟩ (by omega)
  ·have hxi:i=x:=by omega
   subst hxi
   have hi4:i+4≤d.length:=by omega
   have hq4:((d.drop i).take 4).length=4:=by rw[List.length_take,List.length_drop];omega
   refine aX (aA (aA (aV (ab (af (aa ?_))))))
   obtain⟨g7,w7,hr7,l7,x7,k7⟩:=bc (P:=Tryz.prog) (w:=wg3) (l:=[I 0]) yj rfl
   refine bf JL hr7 ?_
   obtain⟨g8,w8,hr8,l8,x8,k8⟩:=bc (P:=Tryz.prog) (w:=w7) (l:=[I 0]) yj rfl
   refine bf JL hr8 ?_
   have hg7:w3.heap.size≤g7:=Nat.le_trans mv4.size (Nat.le_trans xg3.size l7)
   have hg8:w3.heap.size≤g8:=Nat.le_trans mv4.size (Nat.le_trans xg3.size (Nat.le_trans x7.size l8))
   have h78:g7≠g8:=by have:=k7.lt;omega
   have kk7:=k7.ext x8
   obtain⟨w71,r71,gr71,k71⟩:=fL (P:=Tryz.prog) (t:=3) (v:=I 0) fj rfl kk7
   refine aC JL JL (r71) ?_
   have x71:=aG.of_new (w:=w4) ((xg3.trans x7).trans x8) gr71 (Nat.le_trans xg3.size l7)
   have kk8:=k8.other gr71 (fun e=>h78 (Option.some.inj e).symm)
   obtain⟨w72,r72,gr72,k72⟩:=fL (P:=Tryz.prog) (t:=3) (v:=I 0) fj rfl kk8
   refine aC JL JL (r72) ?_
   have x72:=aG.of_new (w:=w4) x71 gr72 (Nat.le_trans xg3.size (Nat.le_trans x7.size l8))
   have k73:=k71.other gr72 (fun e=>h78 (Option.some.inj e))
   refine ag (ab (af (af (bm 8 [2,3,7,8,60] (by kernel_rfl) (by kernel_rfl) ?_))))
   refine aD JL JL (fun w hw=>ai Jw JL (hw.cell_some (x72.cell_some k2.c0))) (cp JL JL (aF JL JL (fun w hw=>aI (o:=1) Jv JL (by kernel_rfl) JL) ?_))
   refine aD JL JL (fun w hw=>ai JJ JL (hw.cell_some (x72.cell_some (k1.cell (i:=1) JL)))) (aD JL JL (fun w hw=>ai Jw JL (hw.cell_some (x72.cell_some k2.c0))) ?_)
   refine aD rfl rfl (fun w hw=>ai Jh rfl (hw.cell_some (x72.cell_some k3.c0))) (bW (S:=Is (K4 ((d.drop i).take 4))) yh (bo.is _) rfl (fun w hw=>by rintro _ rfl _ rfl;exact bD.mono (yi (k1.ext (aG.trans x72 hw)) (hd1.ext (aG.trans x72 hw)) (by omega) hl) fun v w' h=>h) ?_)
   refine BB (S:=Is (.map (some m))) (R:=Is (K4 ((d.drop i).take 4))) (S':=fun v w=>eH wb.heap.size (iZ d ((d.drop i).take 4) i) v w∧∀k,v.ownBlock=some k→Y' k) rfl rfl (fun _ _ _ h hx=>⟨h.1.ext hx,h.2⟩) rfl (fun w u v hw hu hv=>by subst hu;subst hv;exact((h4.map.ext (aG.trans x72 hw)).look hq4).elim fun r h=>⟨r,h.1,h.2⟩) ?_
   refine bu ?_
   intro wg8 xg8
   rintro _ rfl
   rintro _ rfl
   rintro _ rfl
   rintro _ rfl
   intro vg60 q60
   obtain⟨o60,hY60⟩:=q60
   obtain⟨A6,n6,c6,rfl⟩:=o60.isSlice
   refine am Fm JL JL (Fo) ?_
   rintro v61 w61 ⟨x61,rfl,hw61⟩
   refine ag (ab (av ?_))
   have bs:cl wg8.heap.size 66 [.slice A6 n6 c6] w61:=by rw[hw61];exact heap_alloc_new _ _
   have f7:=k73.ext (xg8.trans x61)
   have f8:=k72.ext (xg8.trans x61)
   have l7':g7<w61.heap.size:=f7.lt
   have l8':g8<w61.heap.size:=f8.lt
   have xl:=((x72.trans xg8).trans x61)
   have szl:w3.heap.size≤w61.heap.size:=Nat.le_trans mv4.size xl.size
   have hpl:=vW d i
   have hnY:∀k,Y' k→k≠g7∧k≠g8:=fun k hk=>by have:=(h4.low k (.inr (.inr hk))).2;have:=xg3.size;have:=x7.size;omega
   have hR0:nQ w61 g7 g8 (tx d i []) w61:=⟨f7,f8,Mv.refl _ _⟩
   refine wJ (α:=Pl d i) (encs:=Pl.enc) (Kp:=sy fun k=>k<w61.heap.size∧k≠g7∧k≠g8) (S:=fun xs=>xs=CL d i) (Sp:=fun pre=>pre<+:CL d i) (M:=(CL d i).length) (w0:=w61) JL CJ (zV (o60.ext x61) bs ⟨bs.lt,by have:=xg8.size;have:=kk7.lt;have:=gr71.size;have:=gr72.size;omega,by have:=xg8.size;have:=kk8.lt;have:=gr72.size;omega⟩ (fun k hk=>⟨((o60.ext x61).lt k hk).2,hnY k (hY60 k hk)⟩) (by simp only[hpl,iZ,List.length_map]) (by have:=Ba d ((d.drop i).take 4) i;simp only[iZ,List.length_map];omega) (GH d i)) (fun h k=>h.trans k) ?_ (Below.refl _ _) (fun _=>rfl) (fun pre W=>nQ w61 g7 g8 (tx d i pre) W∧∀p∈pre,i-p.1.2≤4096) (fun c pre W=>c=.exit 2∧∃pre' y,pre=pre'++[y]∧(∀p∈pre',i-p.1.2≤4096)∧((4096<i-y.1.2∧nQ w61 g7 g8 (tx d i pre') W)∨(i-y.1.2≤4096∧i+ml d i (i-y.1.2)=d.length∧nQ w61 g7 g8 (tx d i pre) W))) (fun s W W' row hs hg hr=>⟨hs.1.own l7' l8' hg (fun r e=>(hr r e).1),hs.2⟩) (fun c s W W' row hs hg hr=>hs.elim fun h1 h=>⟨h1,h.elim fun pre' h=>h.elim fun y h=>⟨pre',y,h.1,h.2.1,h.2.2.imp (fun h=>⟨h.1,h.2.own l7' l8' hg (fun r e=>(hr r e).1)⟩) (fun h=>⟨h.1,h.2.1,h.2.2.own l7' l8' hg (fun r e=>(hr r e).1)⟩)⟩⟩) ⟨hR0,by simp⟩ (fun y=>(10,I (y.1.2:Int))::(63,I (y.1.2:Int))::(62,I (y.1.1:Int))::_) (fun _=>rfl) JL JL JL ?_ ?_ ?_
   ·intro W l o o' hl' ho _ _
    exact⟨(grownBy_putObj' W l o').size,fun k hk=>World.putObj_heap_other (by have:=hk.1;omega)⟩
   ·rintro lp pre y W ⟨hI,hpre⟩ hlen
    have hy1:y.1.2<i:=y.2.1
    have hy2:=y.2.2
    have mvW:=hI.mv
    have n78:∀k,k<w3.heap.size→¬(k=g7∨k=g8):=fun k hk e=>by omega
    have k2:=mvW.blk (k2.ext xl) (n78 g2 b2)
    have k3:=mvW.blk (k3.ext xl) (n78 g3 b3)
    have k1:=mvW.blk (k1.ext xl) (n78 g (Nat.lt_of_lt_of_le (hf g (.inl rfl)) (aG.size x3')))
    have hdW:=hd.ext (mvW.ext_from (h4.ext.trans xl) (fun k hk=>by have:=h3.ext.size;omega))
    refine I.av (I.af (I.af (I.aa JL (ak JL JL (ai Jh JL k3.c0) (ae JL JL (aj (r:=I ((i-y.1.2:Nat):Int)) JL JL JL (by have e:((i-y.1.2:Nat):Int)=(i:Int)-(y.1.2:Int):=(by omega);rw[e];exact aY (by omega) (by omega)) ?_))))))
    refine aj JL JL JL (cg) (ag (I.ab ?_))
    refine I.ba JL (fun h67=>?_) (fun h67=>?_)
    ·refine I.aX (aA (pT JL ?_))
     exact fun _ _=>⟨KeepsFrom.refl _ _,rfl,pre,y,rfl,hpre,.inl ⟨by omega,hI⟩⟩
    ·refine I.ar (I.ab (I.af (I.aa JL (ac JL JL (ag (I.ab (I.af (I.av ?_))))))))
     refine I.ck (α:=Nat) (fun n'=>[(2,.pointer (some ⟨g2,0,none⟩)),(3,.pointer (some ⟨g3,0,none⟩)),(7,.pointer (some ⟨g7,0,none⟩)),(8,.pointer (some ⟨g8,0,none⟩)),(10,I (y.1.2:Int)),(11,I (n':Int))]) (fun n' w'=>aG W w'∧4≤n'∧i+n'≤d.length∧ml d i (i-y.1.2)=n'+jT (d.drop (i+n')) (d.drop (y.1.2+n'))) (fun n'=>d.length-n') (4) ⟨rfl,rfl,rfl,rfl,rfl,rfl,trivial⟩ ⟨aG.refl _,by omega,hi4,Fb hi4 hy1 hy2⟩ ?_
     rintro n' w12 ⟨e12,hn4,hnl,hml⟩
     refine I.af (I.af ?_)
     have hdX:=hdW.ext e12
     have k1X:=k1.ext e12
     have k2X:=k2.ext e12
     have k3X:=k3.ext e12
     have c7X:=hI.c7.ext e12
     have c8X:=hI.c8.ext e12
     by_cases h76:((i+n':Nat):Int)<((d.length:Nat):Int)
     ·refine I.bm 29 [2,3,7,8,10,11,77,96] (by kernel_rfl) (by kernel_rfl) JL ?_
      refine aD JL JL (fun w hw=>ai Jh JL (hw.cell_some k3X.c0)) (ao JL JL (aO (r:=I ((i+n':Nat):Int)) JL JL JL (fun w _=>by have e:((i+n':Nat):Int)=(i:Int)+(n':Int):=(by omega);rw[e];exact aE (by omega) (by omega)) ?_))
      refine aD JL JL (fun w hw=>ai Jw JL (hw.cell_some k2X.c0)) (cp JL JL (aF JL JL (fun w hw=>aI (o:=0) Jv JL (by kernel_rfl) JL) ?_))
      refine aD JL JL (fun w hw=>ai Jl JL (hw.cell_some (k1X.cell (i:=0) JL))) (gN (vs:=[.slice A n c]) JL JL (fun w hw=>bP (hdX.ext hw)) ?_)
      refine aO JL JL JL (fun w _=>dv h76 aS) (ao JL JL (bV JL JL (aD JL JL (fun w hw=>ai Jw JL (hw.cell_some k2X.c0)) ?_)))
      refine bV JL JL (cp JL JL (bV JL JL (aF JL JL (fun w hw=>aI (o:=0) Jv JL (by kernel_rfl) JL) ?_)))
      refine bV JL JL (aD JL JL (fun w hw=>ai Jl JL (hw.cell_some (k1X.cell (i:=0) JL))) (bV JL JL (ao JL JL (bV JL JL ?_))))
      refine ao JL JL (bV JL JL (aO (r:=I ((y.1.2+n':Nat):Int)) JL JL JL (fun w _=>by have e:((y.1.2+n':Nat):Int)=(y.1.2:Int)+(n':Int):=(by omega);rw[e];exact aE (by omega) (by omega)) ?_))
      refine bV JL JL ?_
      obtain⟨a85,p85,q85⟩:=gc hdX (i:=(y.1.2+n':Nat)) (by omega) .i64
      refine ay JL JL JL (fun w _=>p85 w) (bV JL JL (aD JL JL (fun w hw=>ai Jm JL (hw.cell_some q85)) (bV JL JL ?_)))
      refine aD JL JL (fun w hw=>ai Jw JL (hw.cell_some k2X.c0)) (bV JL JL (cp JL JL (bV JL JL (aF JL JL (fun w hw=>aI (o:=0) Jv JL (by kernel_rfl) JL) ?_))))
      refine bV JL JL (aD JL JL (fun w hw=>ai Jl JL (hw.cell_some (k1X.cell (i:=0) JL))) (bV JL JL (aD JL JL (fun w hw=>ai Jh JL (hw.cell_some k3X.c0)) ?_)))
      refine bV JL JL (ao JL JL (bV JL JL (aO (r:=I ((i+n':Nat):Int)) JL JL JL (fun w _=>by have e:((i+n':Nat):Int)=(i:Int)+(n':Int):=(by omega);rw[e];exact aE (by omega) (by omega)) ?_)))
      refine bV JL JL ?_
      obtain⟨a94,p94,q94⟩:=gc hdX (i:=(i+n':Nat)) (by omega) .i64
      refine ay JL JL JL (fun w _=>p94 w) (bV JL JL (aD JL JL (fun w hw=>ai Jm JL (hw.cell_some q94)) (bV JL JL ?_)))
      refine aO JL JL JL (fun w _=>iy) (bu ?_)
      intro wg12 xg12
      rintro _ rfl
      rintro _ rfl
      rintro _ rfl
      rintro _ rfl
      rintro _ rfl
      rintro _ rfl
      rintro _ rfl
      rintro _ rfl
      refine aB JL JL JL (ag (I.ab ?_))
      refine I.ba JL (fun h97=>?_) (fun h97=>?_)
      ·refine I.ar (I.ab (I.av (I.aa JL (ae JL JL (aj (r:=I ((n'+1:Nat):Int)) JL JL JL (by have e:((n'+1:Nat):Int)=(n':Int)+1:=(by omega);rw[e];exact aE (by omega) (by omega)) ?_)))))
       refine ac JL JL (ag (aM ?_))
       refine bN (n'+1) ⟨rfl,rfl,rfl,rfl,rfl,rfl,trivial⟩ ⟨(e12.trans xg12),by omega,by omega,by rw[hml,zX (by omega) (by omega),if_pos (show d[i+n']=d[y.1.2+n'] from h97.symm),show i+(n'+1)=i+n'+1 by omega,show y.1.2+(n'+1)=y.1.2+n'+1 by omega];omega⟩ (by omega)
      ·refine I.aX (aA (aA (aV (I.ab (I.af (I.af ?_))))))
       have hnn:ml d i (i-y.1.2)=n':=by
        first
        |(rw[hml,zX (by omega) (by omega),if_neg (fun e=>h97 e.symm)];rfl)
        |(rw[hml,Be (by omega)];rfl)
       refine I.aa JL (ae JL JL (ak JL JL (ai Jh JL (xg12.cell_some c7X.c0)) (aj JL JL JL (cg) (ag (I.ab ?_)))))
       refine I.ba JL (fun h102=>?_) (fun h102=>?_)
       ·have hstp:tx d i (pre++[y])=(n',i-y.1.2):=by rw[oI,Fa,hnn,if_pos (by omega)]
        have hS0:wg12.drew.cell? ⟨g3,0,none⟩=some (I (i:Int)):=(k3.ext (aG.trans e12 xg12).drew).c0
        obtain⟨w15,r15,gr15,k15⟩:=fL (P:=Tryz.prog) (t:=3) (v:=I (n':Int)) fj rfl (hI.c7.ext (aG.trans e12 xg12).drew)
        obtain⟨w16,r16,gr16,k16⟩:=fL (P:=Tryz.prog) (t:=3) (v:=I ((i-y.1.2:Nat):Int)) fj rfl ((hI.c8.ext (aG.trans e12 xg12).drew).other gr15 (fun e=>h78 (Option.some.inj e).symm))
        have h37:g3≠g7∧g3≠g8:=by omega
        have hS1:w15.cell? ⟨g3,0,none⟩=some (I (i:Int)):=((k3.ext (aG.trans e12 xg12).drew).other gr15 (fun e=>h37.1 (Option.some.inj e))).c0
        have hS2:w16.cell? ⟨g3,0,none⟩=some (I (i:Int)):=(((k3.ext (aG.trans e12 xg12).drew).other gr15 (fun e=>h37.1 (Option.some.inj e))).other gr16 (fun e=>h37.2 (Option.some.inj e))).c0
        refine I.zi (fun w'=>w'.cell? ⟨g3,0,none⟩=some (I (i:Int))) 6 JL (by kernel_rfl) JL ?_
        refine jL 0 JL JL (by kernel_rfl) JL hS0 ?_
        refine nu 1 JL JL (by kernel_rfl) JL hS0 (fun w' hS=>ai Jh JL hS) ?_
        refine jL 2 JL JL (by kernel_rfl) JL hS0 ?_
        refine Hj 3 (r:=I ((i-y.1.2:Nat):Int)) JL JL JL (by kernel_rfl) JL hS0 (fun w' _=>by have e:((i-y.1.2:Nat):Int)=(i:Int)-(y.1.2:Int):=(by omega);rw[e];exact aY (by omega) (by omega)) ?_
        refine ei 4 (by kernel_rfl) JL (aC JL JL r15 (cn hS1 ?_))
        refine ei 5 (by kernel_rfl) JL (aC JL JL r16 (cn hS2 ?_))
        refine pq (by kernel_rfl) ?_
        have mv16:Mv (fun k=>k=g7∨k=g8) W w16:=((Mv.of_ext (X:=fun k=>k=g7∨k=g8) (aG.trans e12 xg12).drew).trans (Mv.of_grown (X:=fun k=>k=g7∨k=g8) gr15 (fun k e _=>.inl (Option.some.inj e).symm)) (fun _ hn _=>hn)).trans (Mv.of_grown (X:=fun k=>k=g7∨k=g8) gr16 (fun k e _=>.inr (Option.some.inj e).symm)) (fun _ hn _=>hn)
        have hR:nQ w61 g7 g8 (tx d i (pre++[y])) w16:=by rw[hstp];exact⟨k15.other gr16 (fun e=>h78 (Option.some.inj e)),k16,hI.mv.trans mv16 (fun _ hn _=>hn)⟩
        refine I.ab (I.af ?_)
        have k1:=mv16.blk k1 (n78 g (Nat.lt_of_lt_of_le (hf g (.inl rfl)) (aG.size x3')))
        have k3:=mv16.blk k3 (n78 g3 b3)
        have k2:=mv16.blk k2 (n78 g2 b2)
        have hdX:=hd.ext ((hI.mv.trans mv16 (fun _ hn _=>hn)).ext_from (h4.ext.trans xl) (fun k hk=>by have:=h3.ext.size;omega))
        refine I.bm 8 [109,114] (by kernel_rfl) (by kernel_rfl) JL ?_
        refine aD JL JL (fun w hw=>ai Jh JL (hw.cell_some k3.c0)) (ao JL JL (aO (r:=I ((i+n':Nat):Int)) JL JL JL (fun w _=>by have e:((i+n':Nat):Int)=(i:Int)+(n':Int):=(by omega);rw[e];exact aE (by omega) (by omega)) ?_))
        refine aD JL JL (fun w hw=>ai Jw JL (hw.cell_some k2.c0)) (cp JL JL (aF JL JL (fun w hw=>aI (o:=0) Jv JL (by kernel_rfl) JL) ?_))
        refine aD JL JL (fun w hw=>ai Jl JL (hw.cell_some (k1.cell (i:=0) JL))) (gN (vs:=[.slice A n c]) JL JL (fun w hw=>bP (hdX.ext hw)) ?_)
        refine bu ?_
        intro wg16 xg16
        rintro _ rfl
        rintro _ rfl
        refine aj JL JL JL (bA) (ag (I.ab ?_))
        refine I.ba JL (fun h115=>?_) (fun h115=>?_)
        ·refine I.aX (pT JL ?_)
         exact fun _ _=>⟨nQ.keeps (mv16.trans (Mv.of_ext (X:=fun _=>False) xg16) (fun _ hn _=>hn.elim)) l7' l8',rfl,pre,y,rfl,hpre,.inr ⟨by omega,by omega,hR.xt xg16⟩⟩
        ·refine I.ar (aM ?_)
         exact fun _ _=>⟨nQ.keeps (mv16.trans (Mv.of_ext (X:=fun _=>False) xg16) (fun _ hn _=>hn.elim)) l7' l8',nQ.keep (mv16.trans (Mv.of_ext (X:=fun _=>False) xg16) (fun _ hn _=>hn.elim)) hI.mv.size,hR.xt xg16,fun p hp=>(List.mem_append.1 hp).elim (hpre p) (fun hp=>by rw[List.mem_singleton.1 hp];omega)⟩
       ·have hstp:tx d i (pre++[y])=tx d i pre:=by rw[oI,Fa,hnn,if_neg (by omega)]
        refine I.ar (I.ab (I.af ?_))
        have mv16:Mv (fun k=>k=g7∨k=g8) W wg12:=Mv.of_ext (aG.trans e12 xg12)
        have hR:nQ w61 g7 g8 (tx d i (pre++[y])) wg12:=by rw[hstp];exact hI.xt (aG.trans e12 xg12)
        refine I.bm 8 [109,114] (by kernel_rfl) (by kernel_rfl) JL ?_
        refine aD JL JL (fun w hw=>ai Jh JL (hw.cell_some (xg12.cell_some k3X.c0))) (ao JL JL (aO (r:=I ((i+n':Nat):Int)) JL JL JL (fun w _=>by have e:((i+n':Nat):Int)=(i:Int)+(n':Int):=(by omega);rw[e];exact aE (by omega) (by omega)) ?_))
        refine aD JL JL (fun w hw=>ai Jw JL (hw.cell_some (xg12.cell_some k2X.c0))) (cp JL JL (aF JL JL (fun w hw=>aI (o:=0) Jv JL (by kernel_rfl) JL) ?_))
        refine aD JL JL (fun w hw=>ai Jl JL (hw.cell_some (xg12.cell_some (k1X.cell (i:=0) JL)))) (gN (vs:=[.slice A n c]) JL JL (fun w hw=>bP ((hdX.ext xg12).ext hw)) ?_)
        refine bu ?_
        intro wg16 xg16
        rintro _ rfl
        rintro _ rfl
        refine aj JL JL JL (bA) (ag (I.ab ?_))
        refine I.ba JL (fun h115=>?_) (fun h115=>?_)
        ·refine I.aX (pT JL ?_)
         exact fun _ _=>⟨nQ.keeps (mv16.trans (Mv.of_ext (X:=fun _=>False) xg16) (fun _ hn _=>hn.elim)) l7' l8',rfl,pre,y,rfl,hpre,.inr ⟨by omega,by omega,hR.xt xg16⟩⟩
        ·refine I.ar (aM ?_)
         exact fun _ _=>⟨nQ.keeps (mv16.trans (Mv.of_ext (X:=fun _=>False) xg16) (fun _ hn _=>hn.elim)) l7' l8',nQ.keep (mv16.trans (Mv.of_ext (X:=fun _=>False) xg16) (fun _ hn _=>hn.elim)) hI.mv.size,hR.xt xg16,fun p hp=>(List.mem_append.1 hp).elim (hpre p) (fun hp=>by rw[List.mem_singleton.1 hp];omega)⟩
     ·refine I.bm 29 [2,3,7,8,10,11,77,96] (by kernel_rfl) (by kernel_rfl) JL ?_
      refine aD JL JL (fun w hw=>ai Jh JL (hw.cell_some k3X.c0)) (ao JL JL (aO (r:=I ((i+n':Nat):Int)) JL JL JL (fun w _=>by have e:((i+n':Nat):Int)=(i:Int)+(n':Int):=(by omega);rw[e];exact aE (by omega) (by omega)) ?_))
      refine aD JL JL (fun w hw=>ai Jw JL (hw.cell_some k2X.c0)) (cp JL JL (aF JL JL (fun w hw=>aI (o:=0) Jv JL (by kernel_rfl) JL) ?_))
      refine aD JL JL (fun w hw=>ai Jl JL (hw.cell_some (k1X.cell (i:=0) JL))) (gN (vs:=[.slice A n c]) JL JL (fun w hw=>bP (hdX.ext hw)) ?_)
      refine aO JL JL JL (fun w _=>eF h76 aS) (ao JL JL (cS JL JL JL (cS JL JL JL (cS JL JL JL (cS JL JL JL (cS JL JL JL (cS JL JL JL ?_)))))))
      refine cS JL JL JL (cS JL JL JL (cS JL JL JL (cS JL JL JL (cS JL JL JL (cS JL JL JL (cS JL JL JL (cS JL JL JL (cS JL JL JL (cS JL JL JL ?_)))))))))
      refine cS JL JL JL (cS JL JL JL (cS JL JL JL (bu ?_)))
      intro wg12 xg12
      rintro _ rfl
      rintro _ rfl
      rintro _ rfl
      rintro _ rfl
      rintro _ rfl
      rintro _ rfl
      rintro _ rfl
      rintro _ rfl
      refine aH JL JL JL (ag (I.ab (I.dI JL (I.aX (aA (aA (aV (I.ab (I.af (I.af ?_))))))))))
      have hnn:ml d i (i-y.1.2)=n':=by
       first
       |(rw[hml,zX (by omega) (by omega),if_neg (fun e=>h97 e.symm)];rfl)
       |(rw[hml,Be (by omega)];rfl)
      refine I.aa JL (ae JL JL (ak JL JL (ai Jh JL (xg12.cell_some c7X.c0)) (aj JL JL JL (cg) (ag (I.ab ?_)))))
      refine I.ba JL (fun h102=>?_) (fun h102=>?_)
      ·have hstp:tx d i (pre++[y])=(n',i-y.1.2):=by rw[oI,Fa,hnn,if_pos (by omega)]
       have hS0:wg12.drew.cell? ⟨g3,0,none⟩=some (I (i:Int)):=(k3.ext (aG.trans e12 xg12).drew).c0
       obtain⟨w15,r15,gr15,k15⟩:=fL (P:=Tryz.prog) (t:=3) (v:=I (n':Int)) fj rfl (hI.c7.ext (aG.trans e12 xg12).drew)
       obtain⟨w16,r16,gr16,k16⟩:=fL (P:=Tryz.prog) (t:=3) (v:=I ((i-y.1.2:Nat):Int)) fj rfl ((hI.c8.ext (aG.trans e12 xg12).drew).other gr15 (fun e=>h78 (Option.some.inj e).symm))
       have h37:g3≠g7∧g3≠g8:=by omega
       have hS1:w15.cell? ⟨g3,0,none⟩=some (I (i:Int)):=((k3.ext (aG.trans e12 xg12).drew).other gr15 (fun e=>h37.1 (Option.some.inj e))).c0
       have hS2:w16.cell? ⟨g3,0,none⟩=some (I (i:Int)):=(((k3.ext (aG.trans e12 xg12).drew).other gr15 (fun e=>h37.1 (Option.some.inj e))).other gr16 (fun e=>h37.2 (Option.some.inj e))).c0
       refine I.zi (fun w'=>w'.cell? ⟨g3,0,none⟩=some (I (i:Int))) 6 JL (by kernel_rfl) JL ?_
       refine jL 0 JL JL (by kernel_rfl) JL hS0 ?_
       refine nu 1 JL JL (by kernel_rfl) JL hS0 (fun w' hS=>ai Jh JL hS) ?_
       refine jL 2 JL JL (by kernel_rfl) JL hS0 ?_
       refine Hj 3 (r:=I ((i-y.1.2:Nat):Int)) JL JL JL (by kernel_rfl) JL hS0 (fun w' _=>by have e:((i-y.1.2:Nat):Int)=(i:Int)-(y.1.2:Int):=(by omega);rw[e];exact aY (by omega) (by omega)) ?_
       refine ei 4 (by kernel_rfl) JL (aC JL JL r15 (cn hS1 ?_))
       refine ei 5 (by kernel_rfl) JL (aC JL JL r16 (cn hS2 ?_))
       refine pq (by kernel_rfl) ?_
       have mv16:Mv (fun k=>k=g7∨k=g8) W w16:=((Mv.of_ext (X:=fun k=>k=g7∨k=g8) (aG.trans e12 xg12).drew).trans (Mv.of_grown (X:=fun k=>k=g7∨k=g8) gr15 (fun k e _=>.inl (Option.some.inj e).symm)) (fun _ hn _=>hn)).trans (Mv.of_grown (X:=fun k=>k=g7∨k=g8) gr16 (fun k e _=>.inr (Option.some.inj e).symm)) (fun _ hn _=>hn)
       have hR:nQ w61 g7 g8 (tx d i (pre++[y])) w16:=by rw[hstp];exact⟨k15.other gr16 (fun e=>h78 (Option.some.inj e)),k16,hI.mv.trans mv16 (fun _ hn _=>hn)⟩
       refine I.ab (I.af ?_)
       have k1:=mv16.blk k1 (n78 g (Nat.lt_of_lt_of_le (hf g (.inl rfl)) (aG.size x3')))
       have k3:=mv16.blk k3 (n78 g3 b3)
       have k2:=mv16.blk k2 (n78 g2 b2)
       have hdX:=hd.ext ((hI.mv.trans mv16 (fun _ hn _=>hn)).ext_from (h4.ext.trans xl) (fun k hk=>by have:=h3.ext.size;omega))
       refine I.bm 8 [109,114] (by kernel_rfl) (by kernel_rfl) JL ?_
       refine aD JL JL (fun w hw=>ai Jh JL (hw.cell_some k3.c0)) (ao JL JL (aO (r:=I ((i+n':Nat):Int)) JL JL JL (fun w _=>by have e:((i+n':Nat):Int)=(i:Int)+(n':Int):=(by omega);rw[e];exact aE (by omega) (by omega)) ?_))
       refine aD JL JL (fun w hw=>ai Jw JL (hw.cell_some k2.c0)) (cp JL JL (aF JL JL (fun w hw=>aI (o:=0) Jv JL (by kernel_rfl) JL) ?_))
       refine aD JL JL (fun w hw=>ai Jl JL (hw.cell_some (k1.cell (i:=0) JL))) (gN (vs:=[.slice A n c]) JL JL (fun w hw=>bP (hdX.ext hw)) ?_)
       refine bu ?_
       intro wg16 xg16
       rintro _ rfl
       rintro _ rfl
       refine aj JL JL JL (bA) (ag (I.ab ?_))
       refine I.ba JL (fun h115=>?_) (fun h115=>?_)
       ·refine I.aX (pT JL ?_)
        exact fun _ _=>⟨nQ.keeps (mv16.trans (Mv.of_ext (X:=fun _=>False) xg16) (fun _ hn _=>hn.elim)) l7' l8',rfl,pre,y,rfl,hpre,.inr ⟨by omega,by omega,hR.xt xg16⟩⟩
       ·refine I.ar (aM ?_)
        exact fun _ _=>⟨nQ.keeps (mv16.trans (Mv.of_ext (X:=fun _=>False) xg16) (fun _ hn _=>hn.elim)) l7' l8',nQ.keep (mv16.trans (Mv.of_ext (X:=fun _=>False) xg16) (fun _ hn _=>hn.elim)) hI.mv.size,hR.xt xg16,fun p hp=>(List.mem_append.1 hp).elim (hpre p) (fun hp=>by rw[List.mem_singleton.1 hp];omega)⟩
      ·have hstp:tx d i (pre++[y])=tx d i pre:=by rw[oI,Fa,hnn,if_neg (by omega)]
       refine I.ar (I.ab (I.af ?_))
       have mv16:Mv (fun k=>k=g7∨k=g8) W wg12:=Mv.of_ext (aG.trans e12 xg12)
       have hR:nQ w61 g7 g8 (tx d i (pre++[y])) wg12:=by rw[hstp];exact hI.xt (aG.trans e12 xg12)
       refine I.bm 8 [109,114] (by kernel_rfl) (by kernel_rfl) JL ?_
       refine aD JL JL (fun w hw=>ai Jh JL (hw.cell_some (xg12.cell_some k3X.c0))) (ao JL JL (aO (r:=I ((i+n':Nat):Int)) JL JL JL (fun w _=>by have e:((i+n':Nat):Int)=(i:Int)+(n':Int):=(by omega);rw[e];exact aE (by omega) (by omega)) ?_))
       refine aD JL JL (fun w hw=>ai Jw JL (hw.cell_some (xg12.cell_some k2X.c0))) (cp JL JL (aF JL JL (fun w hw=>aI (o:=0) Jv JL (by kernel_rfl) JL) ?_))
       refine aD JL JL (fun w hw=>ai Jl JL (hw.cell_some (xg12.cell_some (k1X.cell (i:=0) JL)))) (gN (vs:=[.slice A n c]) JL JL (fun w hw=>bP ((hdX.ext xg12).ext hw)) ?_)
       refine bu ?_
       intro wg16 xg16
       rintro _ rfl
       rintro _ rfl
       refine aj JL JL JL (bA) (ag (I.ab ?_))
       refine I.ba JL (fun h115=>?_) (fun h115=>?_)
       ·refine I.aX (pT JL ?_)
        exact fun _ _=>⟨nQ.keeps (mv16.trans (Mv.of_ext (X:=fun _=>False) xg16) (fun _ hn _=>hn.elim)) l7' l8',rfl,pre,y,rfl,hpre,.inr ⟨by omega,by omega,hR.xt xg16⟩⟩
       ·refine I.ar (aM ?_)
        exact fun _ _=>⟨nQ.keeps (mv16.trans (Mv.of_ext (X:=fun _=>False) xg16) (fun _ hn _=>hn.elim)) l7' l8',nQ.keep (mv16.trans (Mv.of_ext (X:=fun _=>False) xg16) (fun _ hn _=>hn.elim)) hI.mv.size,hR.xt xg16,fun p hp=>(List.mem_append.1 hp).elim (hpre p) (fun hp=>by rw[List.mem_singleton.1 hp];omega)⟩
   ·rintro D0 xs W hD rfl ⟨hR,hp⟩ hDe
    have hB:nQ w61 g7 g8 (cN d i) W:=by
     have e:tx d i (CL d i)=cN d i:=yd (suf:=[]) hi4 (lj d i) (fun p=>vX d i p) (by simp) (fun p hq=>by obtain⟨y,hy,rfl⟩:=List.mem_map.1 hq;exact hp y hy) (by simp)
     rw[←e];exact hR
    refine aM (ab (af (bm 3 [4,117] (by kernel_rfl) (by kernel_rfl) ?_)))
    refine aD JL JL (fun w hw=>ai Jh JL (hw.cell_some hB.c7.c0)) (aD JL JL (fun w hw=>ai Jh JL (hw.cell_some hB.c8.c0)) ?_)
    refine dX JL JL (bu ?_)
    intro wg17 xg17
    rintro _ rfl
    rintro _ rfl
    refine ac JL JL (ag (ab (au (AB JL JL JL (xg17.heap_some hDe) ?_))))
    intro w9 hg9
    have mvl:Mv (fun k=>k=g7∨k=g8) w61 w9:=(hB.mv.trans (Mv.of_ext (X:=fun _=>False) xg17) (fun _ hn _=>hn.elim)).trans (Mv.of_grown (X:=fun k=>k=D0) hg9 (fun k e _=>(Option.some.inj e).symm)) (fun k hk hl=>by omega)
    have mva:Mv (kj g m Y) w w9:=(((Mv.of_ext (X:=kj g m Y) x3').trans mv4 (fun _ hn _=>hn)).trans (Mv.of_ext (X:=fun _=>False) xl) (fun _ hn _=>hn.elim)).trans mvl (fun k hk hl=>by have:=x2.size;have:=x3.size;omega)
    exact⟨_,rfl,rfl,i,Y',Nat.le_refl _,(h4.xt xl).mv mvl (fun k hk e=>by
     have:=(h4.low k hk).2
     have:=xg3.size
     have:=x7.size
     omega) (fun k hk=>by have:=h3.ext.size;omega),mva,fun k hk=>(hY4 k hk).imp_right (fun h=>by have:=x2.size;have:=x3.size;omega)⟩
   ·rintro D0 _ pre W hD hSp ⟨rfl,pre',y,rfl,hp,hcase⟩ hDe
    have hB:nQ w61 g7 g8 (cN d i) W:=by
     obtain⟨suf,hs⟩:=hSp
     have hps:∀p∈pre'.map (·.1.2),i-p≤4096:=fun p hq=>by obtain⟨z,hz,rfl⟩:=List.mem_map.1 hq;exact hp z hz
     rcases hcase with⟨hfar,hR⟩|⟨hnear,hfull,hR⟩
     ·have e:tx d i pre'=cN d i:=yd (suf:=y.1.2::suf.map (·.1.2)) hi4 (lj d i) (fun p=>vX d i p) (by rw[←hs];simp) hps (fun p hq=>by
       have hsrt:=lj d i
       rw[←hs] at hsrt
       simp only[List.map_append,List.map_cons,List.append_assoc,List.cons_append,List.nil_append] at hsrt
       rcases List.mem_cons.1 hq with rfl|hq
       ·exact hfar
       ·have:=(List.pairwise_cons.1 (List.pairwise_append.1 hsrt).2.1).1 p hq
        omega)
      rw[←e];exact hR
     ·have e:tx d i (pre'++[y])=cN d i:=by
       have:=CF (pre:=pre'.map (·.1.2)) (x:=y.1.2) (suf:=suf.map (·.1.2)) hi4 (lj d i) (fun p=>vX d i p) (by rw[←hs];simp) (fun p hq=>by
        rcases List.mem_append.1 hq with hq|hq
        ·exact hps p hq
        ·rw[List.mem_singleton.1 hq];exact hnear) hfull
       unfold tx
       rw[List.map_append];exact this
      rw[←e];exact hR
    refine aX (aV (ab (af (bm 3 [4,117] (by kernel_rfl) (by kernel_rfl) ?_))))
    refine aD JL JL (fun w hw=>ai Jh JL (hw.cell_some hB.c7.c0)) (aD JL JL (fun w hw=>ai Jh JL (hw.cell_some hB.c8.c0)) ?_)
    refine dX JL JL (bu ?_)
    intro wg17 xg17
    rintro _ rfl
    rintro _ rfl
    refine ac JL JL (ag (ab (au (AB JL JL JL (xg17.heap_some hDe) ?_))))
    intro w9 hg9
    have mvl:Mv (fun k=>k=g7∨k=g8) w61 w9:=(hB.mv.trans (Mv.of_ext (X:=fun _=>False) xg17) (fun _ hn _=>hn.elim)).trans (Mv.of_grown (X:=fun k=>k=D0) hg9 (fun k e _=>(Option.some.inj e).symm)) (fun k hk hl=>by omega)
    have mva:Mv (kj g m Y) w w9:=(((Mv.of_ext (X:=kj g m Y) x3').trans mv4 (fun _ hn _=>hn)).trans (Mv.of_ext (X:=fun _=>False) xl) (fun _ hn _=>hn.elim)).trans mvl (fun k hk hl=>by have:=x2.size;have:=x3.size;omega)
    exact⟨_,rfl,rfl,i,Y',Nat.le_refl _,(h4.xt xl).mv mvl (fun k hk e=>by
     have:=(h4.low k hk).2
     have:=xg3.size
     have:=x7.size
     omega) (fun k hk=>by have:=h3.ext.size;omega),mva,fun k hk=>(hY4 k hk).imp_right (fun h=>by have:=x2.size;have:=x3.size;omega)⟩
end Go.Rl
namespace Go.Rl
open Go.RowKit Go.Proofs
theorem oJ:aw Tryz.prog 102:=⟨_,Tryz.func102,by kernel_rfl,rfl⟩
theorem sF:aw Tryz.prog 48:=⟨_,Tryz.func48,by kernel_rfl,rfl⟩
structure Bg (wb:World) (d:List UInt8) (g m c nx:Nat) (O:List UInt8) (Y:Nat→Prop) (v:Value) (w:World):Prop where
 fnd:zY wb d g m nx Y w
 cell:cl c 28 [v] w
 own:cf wb.heap.size O v w
 nc:¬kj g m Y c
 nv:∀k,v.ownBlock=some k→¬kj g m Y k
 low:wb.heap.size≤c
def Fq (wb:World) (d:List UInt8) (g m c nx:Nat) (O:List UInt8) (w:World):Prop:=∃Y v,Bg wb d g m c nx O Y v w
section
variable {wb w w':World} {d O O':List UInt8} {g m c nx:Nat} {Y:Nat→Prop} {v v':Value}
theorem Bg.xt (h:Bg wb d g m c nx O Y v w) (hx:aG w w'):Bg wb d g m c nx O Y v w':=⟨h.fnd.xt hx,h.cell.ext hx,h.own.ext hx,h.nc,h.nv,h.low⟩
theorem Bg.outs (h:Bg wb d g m c nx O Y v w) (hm:Mv (fun k=>k=c∨v.ownBlock=some k) w w') (hc:cl c 28 [v'] w') (ho:cf wb.heap.size O' v' w') (hv:v'.ownBlock=v.ownBlock∨∀k,v'.ownBlock=some k→w.heap.size≤k):Bg wb d g m c nx O' Y v' w':=
 ⟨h.fnd.mv hm (fun k hk e=>e.elim (fun e=>h.nc (e▸hk)) (fun e=>h.nv k e hk)) (fun k hk=>hk.elim (fun e=>e▸h.low) (fun e=>h.own.ge k e)),hc,ho,h.nc,fun k hk hf=>by
  rcases hv with e|e
  ·exact h.nv k (e▸hk) hf
  ·have:=(h.fnd.low k hf).2
   have:=e k hk
   omega,h.low⟩
theorem Bg.found {nx':Nat} {Y':Nat→Prop} (h:Bg wb d g m c nx O Y v w) (hf:zY wb d g m nx' Y' w') (hm:Mv (kj g m Y) w w') (hY:∀k,Y' k→Y k∨w.heap.size≤k):Bg wb d g m c nx' O Y' v w':=by
 have hlt:c<w.heap.size:=h.cell.lt
 have key:∀k,k<w.heap.size→¬kj g m Y k→¬kj g m Y' k:=fun k hk hn hf=>hf.elim (fun e=>hn (.inl e)) fun e=>e.elim (fun e=>hn (.inr (.inl e))) fun e=>(hY k e).elim (fun e=>hn (.inr (.inr e))) fun e=>by omega
 refine⟨hf,hm.blk h.cell h.nc,hm.ownB h.own h.nv,key c hlt h.nc,fun k hk=>key k ?_ (h.nv k hk),h.low⟩
 obtain⟨n,ho⟩:=h.own
 exact(World.ownsRow.lt ho k hk).2
end
theorem Bg.grew {wb wa w1 w2:World} {d O O':List UInt8} {g m c nx:Nat} {Y:Nat→Prop} {v v':Value} (h:Bg wb d g m c nx O Y v wa) (hg:fM wa w1 v v') (ho:cf wb.heap.size O' v' w1) (h2:w1.grownBy w2 (some c)) (hc:cl c 28 [v'] w2) (hvc:v'.ownBlock≠some c):Bg wb d g m c nx O' Y v' w2:=
 h.outs ((Mv.of_grown (X:=fun k=>k=c∨v.ownBlock=some k) hg.grown (fun _ e _=>.inr e)).trans (Mv.of_grown (X:=fun k=>k=c∨v.ownBlock=some k) h2 (fun _ e _=>.inl (Option.some.inj e).symm)) (fun _ hn _=>hn)) hc (ho.kept h2 (.inr hvc)) hg.own
theorem cf.cells {base:Nat} {l:List UInt8} {v:Value} {w:World} (h:cf base l v w) {k:Nat} (hk:v.ownBlock=some k):∃cs f,w.heap[k]? =some (.cells cs 5 f):=by
 obtain⟨n,h1,h2⟩:=h
 rcases h2 with⟨rfl,_⟩|⟨g,cap,cur,rfl,h3,h4,h5⟩
 ·cases hk
 ·obtain rfl:g=k:=Option.some.inj hk
  exact⟨_,_,h4⟩
theorem cf.ne_cell {base c:Nat} {l:List UInt8} {v u:Value} {w:World} (h:cf base l v w) (hc:cl c 28 [u] w):v.ownBlock≠some c:=fun hk=>by
 obtain⟨cs,f,h1⟩:=h.cells hk
 rw[hc] at h1
 simp at h1
theorem Fs {wb w:World} {d O:List UInt8} {g m c nx n:Nat} (h:Fq wb d g m c nx O w) (hO:O.length≤70368744177664) (hn:n≤9223372036854775807):
 Calls Tryz.prog 102 #[I (n:Int),.pointer (some ⟨c,0,none⟩)] w (bD fun _ w'=>Fq wb d g m c nx (O++uv n) w'):=by
 refine enter (vs:=[I (n:Int),.pointer (some ⟨c,0,none⟩)]) Tryz.func102 JL JL JL ?_
 obtain⟨Y,v,hp⟩:=h
 have kc:=hp.cell
 refine bm 4 [1,3,6] (by kernel_rfl) (by kernel_rfl) ?_
 refine aD JL JL (fun w hw=>ai Jl JL (hw.cell_some kc.c0)) (ao JL JL (dk JL JL (fun w hw=>cZ Jh Ji) ?_))
 refine bW (S:=ci (uv n)) iM (ci.stable _) rfl (fun w hw=>by rintro _ rfl _ rfl;exact bD.mono (iN (ci.nil _) (by simp)) fun v w' h=>⟨h.1,by have:=h.2.bts;rw[List.nil_append,Ff (by omega)] at this;exact this⟩) ?_
 refine bu ?_
 intro wg0 xg0
 rintro _ rfl
 rintro _ hq3
 obtain rfl:=Eq.symm hq3
 intro vg6 b6
 have hp:=hp.xt xg0
 have hul:=dy (n:=n) (by omega)
 obtain⟨v7,w7,r7,o7,g7⟩:=cH (ty:=28) hp.own b6 (by omega) (Nat.le_trans hp.fnd.ext.size (Nat.le_refl _))
 refine aW JL JL r7 ?_
 have kc7:=hp.cell.other g7.grown (fun e=>(hp.own.ne_cell hp.cell) e.symm)
 obtain⟨w8,r8,g8,k8⟩:=fL (P:=Tryz.prog) (t:=28) (v:=v7) cV (by obtain⟨A,n,c,rfl,_⟩:=id o7.bts;rfl) kc7
 refine aC JL JL (r8) (ag (fP JL ?_))
 exact⟨_,rfl,Y,v7,hp.grew g7 o7 g8 k8 (o7.ne_cell kc7)⟩
theorem oK {wb w:World} {d O:List UInt8} {g m c nx n:Nat} {Y:Nat→Prop} {v:Value} (h:Bg wb d g m c nx O Y v w) (hO:O.length≤70368744177664) (hn:n≤9223372036854775807):
 Calls Tryz.prog 102 ((#[]:Array Value)++[I (n:Int)].toArray++ #[.pointer (some ⟨c,0,none⟩)]) w (bD fun _ w'=>Fq wb d g m c nx (O++uv n) w'):=by
 have:=Fs ⟨Y,v,h⟩ hO hn
 simpa using this
theorem z5:(Tryz.prog.info? 28).map (·.zero)=some (some (.slice none 0 0)):=by kernel_rfl
theorem yk:(Tryz.prog.info? 158).map (·.zero)=some (some (.agg #[.slice none 0 0,.map none,.int .i64 0])):=by kernel_rfl
theorem Ft:(Tryz.prog.info? 156).map (·.size)=some 1:=by kernel_rfl
theorem gp.new {base:Nat} {d:List UInt8} {w:World} {m:Nat} (h:w.heap[m]? =some (.map #[] 0)):gp base d m 0 (fun _=>False) w:=
 ⟨[],0,h,fun e he=>by simp at he,fun i j e f hi=>by simp at hi,fun q hq=>absurd (E4 d q) hq⟩
theorem sG {w:World} {d:List UInt8} {v:Value} (hv:ci d v w) (hl:d.length≤1099511627776):
 Calls Tryz.prog 48 #[v] w (bD fun r w'=>aG w w'∧ci (bQ d) r w'):=by
 refine enter (vs:=[v]) Tryz.func48 JL JL JL ?_
 have hpl:=li (d:=d) (by omega)
 obtain⟨A,n,c0,rfl,_⟩:=id hv
 refine af (aa (ac JL JL (ag (ab (af (aa (ae JL JL ?_)))))))
 refine BA JL ?_
 obtain⟨w1,hw1⟩:∃w1,w1=w.alloc (.map #[] 0):=⟨_,rfl⟩
 have x1:aG w w1:=hw1▸aG.new w _
 have m1:w1.heap[w.heap.size]? =some (.map #[] 0):=by rw[hw1];exact heap_alloc_new w _
 rw[←hw1]
 refine bI (vs:=[(0,.slice A n c0),(1,.map (some w.heap.size))]) JL JL (r:=.agg #[.slice A n c0,.map (some w.heap.size),I 0]) (by simp[Instr.build,run_underlying Tryz.underlying158,re yk,dP cV,dP Ft,Instr.fill,Value.cells,I]) ?_
 refine cx JL JL (m2) ?_
 obtain⟨w2,hw2⟩:∃w2,w2=w1.alloc (.cells (Value.agg #[.slice A n c0,.map (some w.heap.size),I 0]).cells 158):=⟨_,rfl⟩
 have x2:aG w1 w2:=hw2▸aG.new w1 _
 have k2:cl w1.heap.size 158 [.slice A n c0,.map (some w.heap.size),I ((0:Nat):Int)] w2:=by rw[hw2];exact heap_alloc_new w1 _
 rw[←hw2]
 obtain⟨g,hg⟩:∃g,g=w1.heap.size:=⟨_,rfl⟩
 obtain⟨m,hm⟩:∃m,m=w.heap.size:=⟨_,rfl⟩
 rw[←hg,←hm] at k2
 have hmg:m<g:=by have:=(Array.getElem?_eq_some_iff.1 m1).1;omega
 have fnd0:zY w d g m 0 (fun _=>False) w2:=⟨x1.trans x2,fun k hk=>by
  have:=k2.lt
  have:=x1.size
  rcases hk with rfl|rfl|hk
  ·exact⟨by omega,k2.lt⟩
  ·exact⟨by omega,by omega⟩
  ·exact hk.elim,id,id,by omega,⟨A,n,c0,k2,hv⟩,gp.new (by rw[hm];exact x2.heap_some m1)⟩
 rw[←hg]
 refine ac JL JL (ag (ab (af (aa (ae JL JL (aP JL JL (bP (hv.ext (x1.trans x2))) (aQ JL JL (cZ Jh Ji) ?_)))))))
 refine am iM JL JL (iN (ci.nil _) (by simp)) ?_
 rintro v17 w17 ⟨x17,o17⟩
 rw[List.nil_append,Ff (by omega)] at o17
 obtain⟨g4,w4,hr4,l4,x4,k4⟩:=bc (P:=Tryz.prog) (w:=w17) (l:=[.slice none 0 0]) z5 rfl
 refine bf JL hr4 ?_
 obtain⟨w5,r5,g5,k5⟩:=fL (P:=Tryz.prog) (t:=28) (v:=v17) cV (by obtain⟨A,n,c,rfl,_⟩:=id o17.bts;rfl) k4
 refine aC JL JL (r5) ?_
 have x5:aG w2 w5:=aG.of_new (w:=w2) (x17.trans x4) g5 (Nat.le_trans x17.size l4)
 have own5:cf w.heap.size (uv d.length) v17 w5:=by
  obtain⟨n',hn'⟩:=(o17.ext x4).kept g5 (.inr (o17.ext x4|>.ne_cell k4))
  exact⟨n',gy hn' (fun k hk=>Nat.le_trans (x1.trans x2).size (o17.ge k hk))⟩
 have pst0:Fq w d g m g4 0 (uv d.length) w5:=⟨fun _=>False,v17,fnd0.xt x5,k5,own5,fun hf=>by
  rcases hf with rfl|rfl|hf
  ·have:=k2.lt;have:=x17.size;omega
  ·have:=k2.lt;have:=x17.size;omega
  ·exact hf,fun k hk hf=>by
  have:=o17.ge k hk
  rcases hf with rfl|rfl|hf
  ·have:=k2.lt;omega
  ·have:=k2.lt;omega
  ·exact hf,Nat.le_trans (x1.trans x2).size (Nat.le_trans x17.size l4)⟩
 refine ag (ab (af (aa (ac JL JL (ag (ab (af (aa ?_))))))))
 refine kF (us:=[]) (vs:=[.pointer (some ⟨g4,0,none⟩)]) JL JL JL ?_
 refine ac JL JL (ag (ab (af (af (aa (ac JL JL (ag (ab (av ?_)))))))))
 refine il (fun(i:Nat) (run:Nat) (O:List UInt8)=>[(0,.slice A n c0),(3,.pointer (some ⟨g,0,none⟩)),(4,.pointer (some ⟨g4,0,none⟩)),(5,I (run:Int)),(6,.func (.func 102) #[] #[.pointer (some ⟨g4,0,none⟩)]),(7,I (i:Int))]) (fun(i:Nat) (run:Nat) (O:List UInt8) w'=>i≤d.length∧run≤i∧(∃nx,nx≤i∧Fq w d g m g4 nx O w')∧O++pk d i run=bQ d) (fun(i:Nat) (run:Nat) (O:List UInt8)=>d.length-i) (0) (0) (uv d.length) ⟨rfl,rfl,rfl,rfl,rfl,rfl,trivial⟩ ⟨by omega,by omega,⟨0,by omega,pst0⟩,rfl⟩ ?_
 rintro i run O w6 ⟨hi,hri,⟨nx,hnx,Y,vo,hp⟩,hq⟩
 refine af (af ?_)
 have hOl:O.length≤(bQ d).length:=by rw[←hq,List.length_append];omega
 refine aa (ae JL JL (ae JL JL (aP JL JL (bP (hv.ext hp.fnd.ext)) (aj JL JL JL (aS) (ag (ab ?_))))))
 refine ba JL (fun h22=>?_) (fun h22=>?_)
 ·refine ar (ab (av (af (aa (ae JL JL (ae JL JL (am zW JL JL ((z4 hp.fnd hnx hi hl)) ?_)))))))
  rintro v26 w26 ⟨rfl,nx',Y',hnx',f26,mv26,hY26⟩
  have x26:=f26.ext
  have hp26:=hp.found f26 mv26 hY26
  refine ae JL JL (an JL JL (bw) (an JL JL (bz) (ac JL JL (ac JL JL (ag (ab (af (af (aa (ae JL JL (aj JL JL JL (bA) ?_)))))))))))
  refine ag (ab ?_)
  refine ba JL (fun h30=>?_) (fun h30=>?_)
  ·have hb0:(cN d i).1=0:=by omega
   refine af (aa (ae JL JL (aj (r:=I ((i+1:Nat):Int)) JL JL JL (by have e:((i+1:Nat):Int)=(i:Int)+1:=(by omega);rw[e];exact aE (by omega) (by omega)) ?_)))
   refine ac JL JL (ag (ab (af (aa (ae JL JL (aj (r:=I ((run+1:Nat):Int)) JL JL JL (by have e:((run+1:Nat):Int)=(run:Int)+1:=(by omega);rw[e];exact aE (by omega) (by omega)) ?_))))))
   refine ac JL JL (ag (ab (aX (aA (aV ?_)))))
   refine dE (i+1) (run+1) (O) ⟨rfl,rfl,rfl,rfl,rfl,rfl,trivial⟩ ⟨by omega,by omega,⟨nx',by omega,Y',vo,hp26⟩,by rw[pH (by omega) hb0] at hq;exact hq⟩ (by omega)
  ·have hb0:(cN d i).1≠0:=by omega
   obtain⟨h4,h1,h2,h3,_,h5⟩:=lh hb0
   rw[ki (by omega) hb0] at hq
   obtain⟨L,hL⟩:∃L,L=(d.drop (i-run)).take run:=⟨_,rfl⟩
   rw[←hL] at hq
   have hLl:L.length=run:=by rw[hL,List.length_take,List.length_drop];omega
   have u1:=dy (n:=run) (by omega)
   have u2:=dy (n:=(cN d i).1-4) (by omega)
   refine ar (ab (af (aa (ae JL JL (ae JL JL (od JL oJ JL JL ((oK hp26 (by omega) (by omega))) ?_))))))
   rintro v37 w37 ⟨Y1,v1,p37⟩
   have x37:=p37.fnd.ext
   refine ag (ab (af ?_))
   have kc:=p37.cell
   refine bm 7 [0,3,4,6,7,8,9,38,44] (by kernel_rfl) (by kernel_rfl) ?_
   refine aD JL JL (fun w hw=>ai Jl JL (hw.cell_some kc.c0)) (ao JL JL (ao JL JL (ao JL JL (aO (r:=I ((i-run:Nat):Int)) JL JL JL (fun w _=>by have e:((i-run:Nat):Int)=(i:Int)-(run:Int):=(by omega);rw[e];exact aY (by omega) (by omega)) ?_))))
   refine ao JL JL ?_
   obtain⟨v44,p44,b44⟩:=ra (hv.ext x37) (lo:=i-run) (hi:=i) (by omega) (by omega) .i64 .i64
   refine gx JL JL JL JL (fun w _=>p44 w) (bu ?_)
   intro wg12 xg12
   rintro _ rfl
   rintro _ rfl
   rintro _ rfl
   rintro _ rfl
   rintro _ rfl
   rintro _ rfl
   rintro _ rfl
   rintro _ hq38
   obtain rfl:=Eq.symm hq38
   rintro _ hq44
   obtain rfl:=Eq.symm hq44
   have b45:ci L v44 wg12:=by have:=b44;rw[List.drop_take,show i-(i-run)=run by omega,←hL] at this;exact this.ext xg12
   have p12:=p37.xt xg12
   obtain⟨v45,w45,r45,o45,g45⟩:=cH (ty:=28) p12.own b45 (by simp only[List.length_append];omega) p12.fnd.ext.size
   refine aW JL JL r45 ?_
   have kc45:=p12.cell.other g45.grown (fun e=>(p12.own.ne_cell p12.cell) e.symm)
   obtain⟨w46,r46,g46,k46⟩:=fL (P:=Tryz.prog) (t:=28) (v:=v45) cV (by obtain⟨A,n,c,rfl,_⟩:=id o45.bts;rfl) kc45
   refine aC JL JL (r46) ?_
   have p46:=p12.grew g45 o45 g46 k46 (o45.ne_cell kc45)
   have x46:=p46.fnd.ext
   refine ag (ab (af (aa (ae JL JL (ae JL JL (aj (r:=I (((cN d i).1-4:Nat):Int)) JL JL JL (by have e:(((cN d i).1-4:Nat):Int)=((cN d i).1:Int)-4:=(by omega);rw[e];exact aY (by omega) (by omega)) ?_))))))
   refine od JL oJ JL JL ((oK p46 (by simp only[List.length_append];omega) (by omega))) ?_
   rintro v49 w49 ⟨Y2,v2,p49⟩
   have x49:=p49.fnd.ext
   refine ag (ab (af (aa (ae JL JL (ae JL JL (aj (r:=I (((cN d i).2-1:Nat):Int)) JL JL JL (by have e:(((cN d i).2-1:Nat):Int)=((cN d i).2:Int)-1:=(by omega);rw[e];exact aY (by omega) (by omega)) ?_))))))
   refine od JL oJ JL JL ((oK p49 (by simp only[List.length_append];omega) (by omega))) ?_
   rintro v53 w53 p53
   have x53:=(p53.elim fun _ h=>h.elim fun _ h=>h.fnd.ext)
   refine ag (ab (af (aa (ae JL JL (ae JL JL (aj (r:=I ((i+(cN d i).1:Nat):Int)) JL JL JL (by have e:((i+(cN d i).1:Nat):Int)=(i:Int)+((cN d i).1:Int):=(by omega);rw[e];exact aE (by omega) (by omega)) ?_))))))
   refine ac JL JL (ag (ab (aa (ac JL JL (ag (aM ?_))))))
   refine dE (i+(cN d i).1) (0) (O++uv run++L++uv ((cN d i).1-4)++uv ((cN d i).2-1)) ⟨rfl,rfl,rfl,rfl,rfl,rfl,trivial⟩ ⟨h5,by omega,⟨nx',by omega,p53⟩,by rw[←hq];simp only[List.append_assoc]⟩ (by omega)
 ·have hie:i=d.length:=by omega
  rw[jQ (by omega)] at hq
  refine aX (aA (aA (aV (ab (af (af (aa (ae JL JL (aj JL JL JL (cg) (ag (ab ?_)))))))))))
  refine ba JL (fun h58=>?_) (fun h58=>?_)
  ·rw[if_pos (by omega)] at hq
   have u1:=dy (n:=run) (by omega)
   refine af (aa (ae JL JL (ae JL JL (od JL oJ JL JL ((oK hp (by omega) (by omega))) ?_))))
   rintro v61 w61 ⟨Y1,v1,p61⟩
   have x61:=p61.fnd.ext
   refine ag (ab ?_)
   have kc:=p61.cell
   refine bm 7 [4,62,68] (by kernel_rfl) (by kernel_rfl) ?_
   refine aD JL JL (fun w hw=>ai Jl JL (hw.cell_some kc.c0)) (ao JL JL (ao JL JL (gN (vs:=[.slice A n c0]) JL JL (fun w hw=>bP ((hv.ext x61).ext hw)) ?_)))
   refine ao JL JL (aO (r:=I ((d.length-run:Nat):Int)) JL JL JL (fun w _=>by have e:((d.length-run:Nat):Int)=(d.length:Int)-(run:Int):=(by omega);rw[e];exact aY (by omega) (by omega)) ?_)
   obtain⟨v68,p68,b68⟩:=iB (hv.ext x61) (lo:=d.length-run) (by omega) .i64
   refine gx JL JL JL JL (fun w _=>p68 w) (bu ?_)
   intro wg19 xg19
   rintro _ rfl
   rintro _ hq62
   obtain rfl:=Eq.symm hq62
   rintro _ hq68
   obtain rfl:=Eq.symm hq68
   have p19:=p61.xt xg19
   obtain⟨v69,w69,r69,o69,g69⟩:=cH (ty:=28) p19.own (b68.ext xg19) (by simp only[List.length_append,List.length_drop];omega) p19.fnd.ext.size
   refine aW JL JL r69 ?_
   have kc69:=p19.cell.other g69.grown (fun e=>(p19.own.ne_cell p19.cell) e.symm)
   obtain⟨w70,r70,g70,k70⟩:=fL (P:=Tryz.prog) (t:=28) (v:=v69) cV (by obtain⟨A,n,c,rfl,_⟩:=id o69.bts;rfl) kc69
   refine aC JL JL (r70) ?_
   have p70:=p19.grew g69 o69 g70 k70 (o69.ne_cell kc69)
   refine ag (ab (af (aa (ak JL JL (ai Jl JL k70.c0) (ac JL JL (ag (ab (au (az JL JL ?_)))))))))
   exact⟨_,rfl,p70.fnd.ext,by rw[←hq,←List.append_assoc];exact p70.own.bts⟩
  ·rw[if_neg (by omega),List.append_nil] at hq
   refine ar (ab (af ?_))
   have kc:=hp.cell
   refine aa (ak JL JL (ai Jl JL kc.c0) (ac JL JL (ag (ab (au (az JL JL ?_))))))
   exact⟨_,rfl,hp.fnd.ext,by rw[←hq];exact hp.own.bts⟩
end Go.Rl
namespace Go.Rl
open Go.RowKit Go.Proofs
theorem CM:aw Tryz.prog 53:=⟨_,Tryz.func53,by kernel_rfl,rfl⟩
theorem vY {total:Nat}:∀(f:Nat) (l O out:List UInt8),O.length≤total→qj total f l O=some out→out.length≤total
 |0,_,_,_,_,h=>by cases h
 |f+1,l,O,out,hO,h=>by
  unfold qj at h
  split at h
  ·cases hU:eh l with
   |none=>rw[hU] at h;cases h
   |some p=>
    obtain⟨n,t⟩:=p
    rw[hU] at h
    simp only[Option.bind_some] at h
    split at h
    ·cases h
    ·rename_i hn
     split at h
     ·split at h
      ·obtain rfl:=Option.some.inj h
       rw[List.length_append,List.length_take];omega
      ·cases h
     ·cases hV:eh (t.drop n) with
      |none=>rw[hV] at h;cases h
      |some q=>
       obtain⟨m,t2⟩:=q
       rw[hV] at h
       simp only[Option.bind_some] at h
       split at h
       ·cases h
       ·cases hW:eh t2 with
        |none=>rw[hW] at h;cases h
        |some r=>
         obtain⟨k,t3⟩:=r
         rw[hW] at h
         simp only[Option.bind_some] at h
         split at h
         ·cases h
         ·refine vY f _ _ _ ?_ h
          rw[vS,List.length_append,List.length_take]
          omega
  ·split at h
   ·obtain rfl:=Option.some.inj h
    exact hO
   ·cases h
theorem Hr {l t O:List UInt8} {n:Nat} (h:qj n (n+1) t []=some O):vp l t n=if bQ O=l then some O else none:=by
 unfold vp;rw[h];rfl
theorem IY {l t:List UInt8} {n:Nat} (h:qj n (n+1) t []=none):vp l t n=none:=by
 unfold vp;rw[h];rfl
section
variable {w:World} {rest:List UInt8} {v:Value} {total:Nat}
theorem CN (hv:ci rest v w) (hl:rest.length≤549755813888) (ht:total≤549755813888) (h:qj total (total+1) rest []=none):Calls Tryz.prog 107 #[v,bC (UInt64.ofNat total)] w (bD fun r w'=>aG w w'∧∃u,r=.tuple #[u,B false]):=
 bD.mono (ul hv hl ht) fun _ _ h2=>⟨h2.1,by have:=h2.2;rw[h] at this;exact this⟩
theorem CO {out:List UInt8} (hv:ci rest v w) (hl:rest.length≤549755813888) (ht:total≤549755813888) (h:qj total (total+1) rest []=some out):Calls Tryz.prog 107 #[v,bC (UInt64.ofNat total)] w (bD fun r w'=>aG w w'∧∃u,r=.tuple #[u,B true]∧ci out u w'):=
 bD.mono (ul hv hl ht) fun _ _ h2=>⟨h2.1,by have:=h2.2;rw[h] at this;exact this⟩
end
theorem CP {w:World} {l:List UInt8} {v:Value} {max:Int} (hv:ci l v w) (hl:l.length≤4294967296) (h1: -9223372036854775808≤max) (h2:max≤9223372036854775807) (h3:∀n t,eh l=some (n,t)→(n:Int)≤max→n≤4294967296):
 Calls Tryz.prog 53 #[v,I max] w (bD fun r w'=>aG w w'∧tw l max (vp l) r w'):=by
 refine enter (vs:=[v,I max]) Tryz.func53 JL JL JL ?_
 refine af (aa (ac JL JL (ac JL JL (ag (ab (af (af (aa (ae JL JL (aj JL JL JL (aS) (ag (ab ?_))))))))))))
 refine ba JL (fun h11=>?_) (fun h11=>?_)
 ·have hm:max<0:=h11
  refine af (aa (ac JL JL (ac JL JL (ag (ab (au (ax (aR JL JL JL ?_))))))))
  exact⟨_,rfl,aG.refl _,by unfold tw;rw[if_pos (by omega)];rfl⟩
 ·obtain⟨M,rfl⟩:∃M:Nat,max=(M:Int):=⟨max.toNat,by omega⟩
  refine ar (ab (af ?_))
  rcases hU:eh l with _|⟨n,t⟩
  ·refine aa (ae JL JL (am gq JL JL ((mS hv (by omega) hU)) ?_))
   rintro v14 w14 ⟨x14,rfl⟩
   refine ae JL JL (an JL JL (dZ) (an JL JL (d5) (an JL JL (d6) (ac JL JL (ac JL JL (ac JL JL (ag ?_)))))))
   refine ab (af (af (aa (ae JL JL (bB JL JL bF (ag (ab (bJ JL (af (aa (ac JL JL (ac JL JL (ag (ab (au (ax (aR JL JL JL ?_)))))))))))))))))
   exact⟨_,rfl,x14,by unfold tw;rw[if_neg (by omega),hU];rfl⟩
  ·obtain⟨hU1,hU2⟩:=fS hU
   have htl:=pJ hU
   refine aa (ae JL JL (am gq JL JL ((mU hv hv (by omega) hU)) ?_))
   rintro v14 w14 ⟨x14,u1,rfl,b1⟩
   refine ae JL JL (an JL JL (dZ) (an JL JL (d5) (an JL JL (d6) (ac JL JL (ac JL JL (ac JL JL (ag ?_)))))))
   refine ab (af (af (aa (ae JL JL (bB JL JL bF (ag (ab (dI JL (ar (ab (af (af (aa (ae JL JL (ae JL JL (aQ JL JL (cZ Jh Ji) ?_))))))))))))))))
   refine aj JL JL JL (dc) (ag (ab ?_))
   refine ba JL (fun h23=>?_) (fun h23=>?_)
   ·have hbig:M<n:=(lT hU2 (by omega)).1 h23
    refine af (aa (ac JL JL (ac JL JL (ag (ab (au (ax (aR JL JL JL ?_))))))))
    exact⟨_,rfl,x14,by
     unfold tw
     rw[if_neg (by omega),hU]
     show(if (M:Int)<(n:Int) then _ else _)
     rw[if_pos (by omega)];rfl⟩
   ·have hnM:n≤M:=Nat.le_of_not_lt (mt (lT hU2 (by omega)).2 h23)
    have hn3:=h3 n t hU (by omega)
    refine ar (ab (af ?_))
    rcases hE:qj n (n+1) t [] with _|out
    ·refine aa (ae JL JL (ae JL JL (am uj JL JL ((CN (b1.ext x14) (by omega) (by omega) hE)) ?_)))
     rintro v27 w27 ⟨x27,u2,rfl⟩
     refine ae JL JL (an JL JL (bw) (an JL JL (bz) (ac JL JL (ac JL JL (ag (ab (af (af (aa (ae JL JL (bB JL JL bF ?_)))))))))))
     refine ae JL JL (aq JL JL JL (aq JL JL JL (aq JL JL JL (aq JL JL JL (aq JL JL JL (aB JL JL JL (ag (ab (bJ JL (af (aa (ac JL JL ?_))))))))))))
     refine ac JL JL (ag (ab (au (ax (aR JL JL JL ?_)))))
     exact⟨_,rfl,(x14.trans x27),Bc (by omega) hU (by omega) (IY hE)⟩
    ·have hol:=vY _ _ _ _ (by simp) hE
     refine aa (ae JL JL (ae JL JL (am uj JL JL ((CO (b1.ext x14) (by omega) (by omega) hE)) ?_)))
     rintro v27 w27 ⟨x27,u2,rfl,b2⟩
     refine ae JL JL (an JL JL (bw) (an JL JL (bz) (ac JL JL (ac JL JL (ag (ab (af (af (aa (ae JL JL (bB JL JL bF ?_)))))))))))
     refine ae JL JL (al JL (ae JL JL (al JL (am sF JL JL ((sG b2 (by omega))) ?_))))
     rintro v34 w34 ⟨x34,b34⟩
     refine al JL (ae JL JL (al JL (am Fg JL JL ((Fh b34 (hv.ext ((x14.trans x27).trans x34)))) ?_)))
     rintro v36 w36 ⟨x36,rfl⟩
     refine al JL (bB JL JL bF (aH JL JL JL (ag (ab ?_))))
     refine eZ JL (fun h38=>?_) (fun h38=>?_)
     ·have hne:¬bQ out=l:=by simpa using h38
      refine af (aa (ac JL JL (ac JL JL (ag (ab (au (ax (aR JL JL JL ?_))))))))
      exact⟨_,rfl,(((x14.trans x27).trans x34).trans x36),Bc (by omega) hU (by omega) (by rw[Hr hE,if_neg hne])⟩
     ·have heq:bQ out=l:=by simpa using h38
      refine ar (ab (af (aa (ae JL JL (ac JL JL (ac JL JL (ag (ab (au (aR JL JL JL ?_))))))))))
      exact⟨_,rfl,(((x14.trans x27).trans x34).trans x36),Fl (by omega) hU (by omega) (by rw[Hr hE,if_pos heq]) (b2.ext (x34.trans x36))⟩
end Go.Rl
namespace Go.Rl
end Go.Rl
namespace Go.Rl
open Go.RowKit Go.Proofs
section
variable {l t:List UInt8} {max:Int} {n:Nat} {f:List UInt8→Nat→Option (List UInt8)} {r:Value} {w:World}
end
end Go.Rl
namespace Go.Rl
open Go.RowKit Go.Proofs
section
variable {l:List UInt8} {max:Int} {f:List UInt8→Nat→Option (List UInt8)} {r:Value} {w:World}
def iS (l:List UInt8) (max:Int) (f:List UInt8→Nat→Option (List UInt8)):List UInt8×Int:=
 if max<0 then([],8) else match eh l with
  |none=>([],5)
  |some (n,t)=>if max<(n:Int) then([],8) else match f t n with
   |some out=>(out,0)
   |none=>([],5)
theorem Fu (h:tw l max f r w):∃v,r=.tuple #[v,I (iS l max f).2]∧ci (iS l max f).1 v w:=by
 unfold tw at h
 unfold iS
 split at h
 ·rename_i hm
  rw[if_pos hm]
  exact⟨_,h,ci.nil _⟩
 ·rename_i hm
  rw[if_neg hm]
  cases hU:eh l with
  |none=>
   rw[hU] at h
   exact⟨_,h,ci.nil _⟩
  |some p=>
   obtain⟨n,t⟩:=p
   rw[hU] at h
   have h:(if max<(n:Int) then r=.tuple #[.slice none 0 0,I 8] else match f t n with
    |some out=>∃v,r=.tuple #[v,I 0]∧ci out v w
    |none=>r=.tuple #[.slice none 0 0,I 5]):=h
   show ∃v,r=.tuple #[v,I (if max<(n:Int) then([],8) else match f t n with
    |some out=>(out,0)
    |none=>([],5):List UInt8×Int).2]∧ci (if max<(n:Int) then([],8) else match f t n with
    |some out=>(out,0)
    |none=>([],5):List UInt8×Int).1 v w
   split at h
   ·rename_i hn
    rw[if_pos hn]
    exact⟨_,h,ci.nil _⟩
   ·rename_i hn
    rw[if_neg hn]
    cases hf:f t n with
    |none=>
     rw[hf] at h
     exact⟨_,h,ci.nil _⟩
    |some out=>
     rw[hf] at h
     exact h
end
theorem vZ {total B:Nat}:∀(f:Nat) (l O out r:List UInt8),O.length≤total+B→l.length≤B→E2 total f l O=some (out,r)→out.length≤total+B
 |0,_,_,_,_,_,_,h=>by cases h
 |f+1,l,O,out,r,hO,hl,h=>by
  unfold E2 at h
  split at h
  ·cases hB:Ir l with
   |none=>rw[hB] at h;cases h
   |some p=>
    obtain⟨a,t⟩:=p
    have hab:=H5 hB
    rw[hB] at h
    simp only[Option.bind_some] at h
    split at h
    ·rename_i hlt
     cases hU:eh t with
     |none=>rw[hU] at h;cases h
     |some q=>
      obtain⟨m,t2⟩:=q
      rw[hU] at h
      simp only[Option.bind_some] at h
      have h1:=pJ hU
      cases hV:eh t2 with
      |none=>rw[hV] at h;cases h
      |some s=>
       obtain⟨k,t3⟩:=s
       rw[hV] at h
       simp only[Option.bind_some] at h
       have h2:=pJ hV
       split at h
       ·cases h
       ·refine vZ f _ _ _ _ ?_ (by omega) h
        rw[vS]
        omega
    ·simp only[Option.some.injEq,Prod.mk.injEq] at h
     rw[←h.1,List.length_append];omega
  ·simp only[Option.some.injEq,Prod.mk.injEq] at h
   rw[←h.1];exact hO
theorem Fv {l:List UInt8} {max:Int} (hl:l.length≤4294967296) (h2:max≤4294967296):iS l max (vr l)=iS l max (vp l):=by
 unfold iS
 split
 ·rfl
 ·cases hU:eh l with
  |none=>rfl
  |some p=>
   obtain⟨n,t⟩:=p
   simp only[]
   split
   ·rfl
   ·have htl:=pJ hU
    rw[IU hU (fun out h=>by have:=vY _ _ _ _ (by simp) h;omega) (fun p h=>by have:=vZ (B:=t.length) _ _ _ p.1 p.2 (by simp) (Nat.le_refl _) h;omega)]
end Go.Rl
namespace Go.Rl
open Go.RowKit Go.Proofs
theorem sH:(Tryz.prog.info? 183).map (·.zero)=some (some (.agg (List.replicate 64 (bp 0)).toArray)):=by kernel_rfl
theorem sI:(Tryz.prog.info? 183).map (·.size)=some 64:=by kernel_rfl
theorem eD:aw Tryz.prog 159:=⟨_,Tryz.func159,by kernel_rfl,rfl⟩
theorem sJ:aw Tryz.prog 160:=⟨_,Tryz.func160,by kernel_rfl,rfl⟩
theorem eE {w:World} {x:UInt32} (n:Nat) (h0:0<n) (h1:n<32):
 Calls Tryz.prog 159 #[bp x,I (n:Int)] w (bD fun r w'=>aG w w'∧r=bp (gK x n)):=by
 refine enter (vs:=[bp x,I (n:Int)]) Tryz.func159 JL JL JL ?_
 refine af (aa (ac JL JL (ag (ab (af ?_)))))
 have e:(32:Int)-(n:Int)=((32-n:Nat):Int):=by omega
 refine bm 8 [12] (by kernel_rfl) (by kernel_rfl) ?_
 refine ao JL JL (ao JL JL ?_)
 refine aO JL JL JL (fun w _=>cA n h1) ?_
 refine ao JL JL (ao JL JL ?_)
 refine aO (r:=I ((32-n:Nat):Int)) JL JL JL (fun w _=>by rw[←e];exact aY (by omega) (by omega)) ?_
 refine aO JL JL JL (fun w _=>el (32-n) (by omega)) ?_
 refine aO JL JL JL (fun w _=>eO) ?_
 refine bu ?_
 intro w' hw
 rintro _ rfl
 refine ac JL JL (ag (ab (au ?_)))
 refine az JL JL ?_
 exact⟨_,rfl,hw,rfl⟩
theorem sK (w:World):
 Calls Tryz.prog 160 #[] w (bD fun r w'=>aG w w'∧r=.agg (kc.map bp).toArray):=by
 refine enter (vs:=[]) Tryz.func160 JL JL JL ?_
 refine af (aa (bf JL (uU sH) (ag (ab (af (aa ?_))))))
 refine bI JL JL (run_build _ _ _ (kc.map bp).toArray (by kernel_rfl)) ?_
 have hb:=cl.new (w:=w) (T:=183) (.agg (List.replicate 64 (bp 0)).toArray) rfl
 refine aC JL JL (gO hb JL sI (jh _)) ?_
 refine ag (ab (au ?_))
 refine dB JL JL (hb.row _) JK JL sI ?_
 refine⟨_,rfl,?_,rfl⟩
 exact(aG.new w _).of_grown (bg _ _ _) fun k hk=>by
  obtain rfl:=Option.some.inj hk
  exact Nat.le_refl _
theorem dT:aw Tryz.prog 122:=⟨_,Tryz.func122,by kernel_rfl,rfl⟩
theorem qs:aw Tryz.prog 121:=⟨_,Tryz.func121,by kernel_rfl,rfl⟩
theorem dU {w:World} {x:UInt32} (n:Nat) (h0:0<n) (h1:n<32):
 Calls Tryz.prog 122 #[bp x,I (n:Int)] w (bD fun r w'=>aG w w'∧r=bp (gK x n)):=by
 refine enter (vs:=[bp x,I (n:Int)]) Tryz.func122 JL JL JL ?_
 refine af (aa (ac JL JL (ag (ab (af ?_)))))
 have e:(32:Int)-(n:Int)=((32-n:Nat):Int):=by omega
 refine bm 8 [12] (by kernel_rfl) (by kernel_rfl) ?_
 refine ao JL JL (ao JL JL ?_)
 refine aO JL JL JL (fun w _=>cA n h1) ?_
 refine ao JL JL (ao JL JL ?_)
 refine aO (r:=I ((32-n:Nat):Int)) JL JL JL (fun w _=>by rw[←e];exact aY (by omega) (by omega)) ?_
 refine aO JL JL JL (fun w _=>el (32-n) (by omega)) ?_
 refine aO JL JL JL (fun w _=>eO) ?_
 refine bu ?_
 intro w' hw
 rintro _ rfl
 refine ac JL JL (ag (ab (au ?_)))
 refine az JL JL ?_
 exact⟨_,rfl,hw,rfl⟩
theorem qt (w:World):
 Calls Tryz.prog 121 #[] w (bD fun r w'=>aG w w'∧r=.agg (kc.map bp).toArray):=by
 refine enter (vs:=[]) Tryz.func121 JL JL JL ?_
 refine af (aa (bf JL (uU sH) (ag (ab (af (aa ?_))))))
 refine bI JL JL (run_build _ _ _ (kc.map bp).toArray (by kernel_rfl)) ?_
 have hb:=cl.new (w:=w) (T:=183) (.agg (List.replicate 64 (bp 0)).toArray) rfl
 refine aC JL JL (gO hb JL sI (jh _)) ?_
 refine ag (ab (au ?_))
 refine dB JL JL (hb.row _) JK JL sI ?_
 refine⟨_,rfl,?_,rfl⟩
 exact(aG.new w _).of_grown (bg _ _ _) fun k hk=>by
  obtain rfl:=Option.some.inj hk
  exact Nat.le_refl _
end Go.Rl
namespace Go.Rl
open Go.RowKit Go.Proofs
theorem Bh:(Tryz.prog.info? 112).map (·.zero)=some (some (.agg (List.replicate 8 (bp 0)).toArray)):=by kernel_rfl
theorem mb:(Tryz.prog.info? 112).map (·.size)=some 8:=by kernel_rfl
section
variable {w:World} {g o:Nat} {T:TypeId}
theorem dz (i:Nat) (hi:i<8):(Instr.indexAt 112 (.pointer (some ⟨g,0,none⟩)) (I (i:Int))).run Tryz.prog w=.ok (.pointer (some ⟨g,i,none⟩)) w:=by
 have:=tJ (P:=Tryz.prog) (w:=w) (g:=g) (o:=0) JD dO hi .i64
 rwa [Nat.zero_add] at this
theorem fZ (i:Nat) (hi:i<64):(Instr.indexAt 183 (.pointer (some ⟨g,0,none⟩)) (I (i:Int))).run Tryz.prog w=.ok (.pointer (some ⟨g,i,none⟩)) w:=by
 have:=tJ (P:=Tryz.prog) (w:=w) (g:=g) (o:=0) JK dO hi .i64
 rwa [Nat.zero_add] at this
theorem cX {m:List UInt32} (h:cl g T (m.map bp) w) (i:Nat) (hi:i<m.length):(Instr.loadAt 111 (.pointer (some ⟨g,i,none⟩))).run Tryz.prog w=.ok (bp (m.getD i 0)) w:=
 ai Tryz.underlying111 rfl (h.cell (by simp[hi]))
theorem yl {m:List UInt32} {x:UInt32} (h:cl g T (m.map bp) w) (i:Nat) (hi:i<m.length):(Instr.storeAt 111 (.pointer (some ⟨g,i,none⟩)) (bp x)).run Tryz.prog w=.ok () (w.setCell ⟨g,i,none⟩ (bp x)):=
 dY dO rfl h (by simpa using hi)
theorem cl.setU {m:List UInt32} (h:cl g T (m.map bp) w) (i:Nat) (x:UInt32):cl g T ((m.set i x).map bp) (w.setCell ⟨g,i,none⟩ (bp x)):=by
 have:=h.set i (bp x)
 rwa [←List.map_set] at this
end
def db (l:List UInt32):List UInt32:=l++List.replicate (64-l.length) 0
theorem ll {l:List UInt32} (h:l.length≤64):(db l).length=64:=by simp[db];omega
theorem fB {l:List UInt32} {i:Nat} (h:i<l.length):(db l).getD i 0=l.getD i 0:=by
 simp[db,List.getD,List.getElem?_append_left h]
theorem lm {l:List UInt32} (x:UInt32) (h:l.length<64):(db l).set l.length x=db (l++[x]):=by
 unfold db
 rw[List.set_append_right _ _ (Nat.le_refl _),Nat.sub_self]
 have:64-l.length=(64-(l++[x]).length)+1:=by simp;omega
 rw[this,List.replicate_succ,List.set_cons_zero,List.append_assoc]
 rfl
theorem sM (b:List UInt8) (k:Nat):iE b (k+1)=iE b k++[ow b k]:=by simp[iE,List.range_succ]
theorem jb (b:List UInt8) (k:Nat):(iE b k).length=k:=by simp[iE]
def iH (s v:List UInt32) (i:Nat):List UInt32:=List.zipWith (· + ·) (s.take i) (v.take i)++s.drop i
theorem CQ {s v:List UInt32} (hs:s.length=8) (hv:v.length=8) {i:Nat} (hi:i≤8):(iH s v i).length=8:=by
 simp[iH,hs,hv];omega
theorem um {s v:List UInt32} (hs:s.length=8) (hv:v.length=8) {i:Nat} (hi:i<8):(iH s v i).getD i 0=s.getD i 0:=by
 have h:(List.zipWith (· + ·) (s.take i) (v.take i)).length=i:=by simp[hs,hv];omega
 simp only[iH,List.getD_eq_getElem?_getD]
 rw[List.getElem?_append_right (by omega),h]
 simp
theorem uo {s v:List UInt32} (hs:s.length=8) (hv:v.length=8) {i:Nat} (hi:i<8):(iH s v i).set i (s.getD i 0+v.getD i 0)=iH s v (i+1):=by
 have h:(List.zipWith (· + ·) (s.take i) (v.take i)).length=i:=by simp[hs,hv];omega
 have h1:s.getD i 0=s[i]:=by simp[List.getD,hs,hi]
 have h2:v.getD i 0=v[i]:=by simp[List.getD,hv,hi]
 unfold iH
 rw[List.set_append_right _ _ (by omega),h,Nat.sub_self,h1,h2]
 rw[List.drop_eq_getElem_cons (by omega:i<s.length),List.set_cons_zero,List.take_succ_eq_append_getElem (by omega:i<s.length),List.take_succ_eq_append_getElem (by omega:i<v.length)]
 rw[List.zipWith_append (by simp[hs,hv])]
 simp
theorem uq {s v:List UInt32} (hs:s.length=8) (hv:v.length=8):iH s v 8=List.zipWith (· + ·) s v:=by
 have h1:s.take 8=s:=List.take_of_length_le (by omega)
 have h2:v.take 8=v:=List.take_of_length_le (by omega)
 have h3:s.drop 8=[]:=List.drop_eq_nil_of_le (by omega)
 unfold iH
 rw[h1,h2,h3,List.append_nil]
end Go.Rl
namespace Go.Rl
open Go.RowKit Go.Proofs
theorem ym:aw Tryz.prog 62:=⟨_,Tryz.func62,by kernel_rfl,rfl⟩
theorem Fw {P:Program} {w:World} {t:TypeId} {v:Value} {l:List Value} (hv:v.cells=l.toArray):∃g w',(Instr.box t v).run P w=.ok (.pointer (some ⟨g,0,none⟩)) w'∧w.heap.size≤g∧aG w w'∧cl g t l w':=
 ⟨_,_,m2,Nat.le_refl _,aG.new w _,cl.new v hv⟩
theorem ci.reads {b:List UInt8} {v:Value} {w:World} (h:ci b v w):∃ad:Nat→Addr,∀i,i<b.length→
 (∀w':World,(Instr.indexAt 28 v (I (i:Int))).run Tryz.prog w'=.ok (.pointer (some (ad i))) w')∧∀w',aG w w'→(Instr.loadAt 5 (.pointer (some (ad i)))).run Tryz.prog w'=.ok (U8 (b.getD i 0)) w':=by
 have hall:∀i:Nat,∃ad:Addr,i<b.length→(∀w':World,(Instr.indexAt 28 v (I (i:Int))).run Tryz.prog w'=.ok (.pointer (some ad)) w')∧∀w',aG w w'→(Instr.loadAt 5 (.pointer (some ad))).run Tryz.prog w'=.ok (U8 (b.getD i 0)) w':=fun i=>by
  by_cases hi:i<b.length
  ·obtain⟨ad,had,hcell⟩:=gc h hi .i64
   refine⟨ad,fun _=>⟨had,fun w' hw'=>?_⟩⟩
   obtain⟨ad',had',hcell'⟩:=gc (h.ext hw') hi .i64
   have:=(had w').symm.trans (had' w')
   simp only[Result.ok.injEq,Value.pointer.injEq,Option.some.injEq,and_true] at this
   subst this
   have e:b.getD i 0=b[i]:=by simp[List.getD,hi]
   rw[e]
   exact G9 hcell'
  ·exact⟨⟨0,0,none⟩,fun h=>absurd h hi⟩
 exact⟨fun i=>Classical.choose (hall i),fun i hi=>Classical.choose_spec (hall i) hi⟩
theorem yn {w:World} {s:List UInt32} {b:List UInt8} {v:Value} (hs:s.length=8) (hbl:b.length=64) (hv:ci b v w):
 Calls Tryz.prog 62 #[.agg (s.map bp).toArray,v] w (bD fun r w'=>aG w w'∧r=.agg ((tt s b).map bp).toArray):=by
 refine enter (vs:=[.agg (s.map bp).toArray,v]) Tryz.func62 JL JL JL ?_
 obtain⟨g2,w1,hr,n2,x1,b2⟩:=Fw (P:=Tryz.prog) (w:=w) (t:=112) (v:=.agg (s.map bp).toArray) (l:=s.map bp) rfl
 refine af (aa (cx JL JL hr ?_))
 obtain⟨g4,w2,hr,n4,x2,b4⟩:=bc (P:=Tryz.prog) (w:=w1) (l:=(List.replicate 8 0).map bp) Bh rfl
 refine bf JL hr (ag (ab (af (aa ?_))))
 refine am (vs:=[]) qs JL JL (qt w2) ?_
 rintro _ w3 ⟨x3,rfl⟩
 obtain⟨g5,w4,hr,n5,x4,b5⟩:=bc (P:=Tryz.prog) (w:=w3) (l:=List.replicate 64 (bp 0)) sH rfl
 refine bf JL hr ?_
 refine aC JL JL (gO b5 JL sI (jh _)) ?_
 have b5':=b5.row (kc.map bp)
 have q5:=bg w4 g5 (kc.map bp).toArray
 revert b5' q5
 generalize w4.setRow g5 (kc.map bp).toArray=w5
 intro b5' q5
 refine ag (ab (af (aa ?_)))
 obtain⟨g6,w6,hr,n6,x6,b6⟩:=bc (P:=Tryz.prog) (w:=w5) (l:=(db []).map bp) sH rfl
 refine bf JL hr (ag (ab ?_))
 have l24:g2<g4:=Nat.lt_of_lt_of_le b2.lt n4
 have l45:g4<g5:=Nat.lt_of_lt_of_le b4.lt (Nat.le_trans x3.size n5)
 have l56:g5<g6:=Nat.lt_of_lt_of_le b5'.lt n6
 have ne4:some g4≠some g5:=fun h=>by cases h;omega
 have ne2:some g2≠some g5:=fun h=>by cases h;omega
 have B2:cl g2 _ _ w6:=((((b2.ext x2).ext x3).ext x4).other q5 ne2).ext x6
 have B4:cl g4 _ _ w6:=(((b4.ext x3).ext x4).other q5 ne4).ext x6
 have B5:cl g5 _ _ w6:=b5'.ext x6
 have E6:aG w w6:=((((x1.trans x2).trans x3).trans x4).of_new q5 (by omega)).trans x6
 have hw6:w.heap.size≤g6:=by omega
 obtain⟨ad,had⟩:=hv.reads
 refine af (eK (fun _:Unit=>[(2,.pointer (some ⟨g2,0,none⟩)),(4,.pointer (some ⟨g4,0,none⟩)),(5,.pointer (some ⟨g5,0,none⟩)),(6,.pointer (some ⟨g6,0,none⟩))]) (fun _ w'=>w6.grownBy w' (some g6)∧cl g6 183 ((db (bt b 0)).map bp) w') ?_ ?_)
 ·refine af (aa (ac JL JL (ag (ab (av ?_)))))
  refine ck (α:=Nat) (fun k=>[(1,v),(2,.pointer (some ⟨g2,0,none⟩)),(4,.pointer (some ⟨g4,0,none⟩)),(5,.pointer (some ⟨g5,0,none⟩)),(6,.pointer (some ⟨g6,0,none⟩)),(7,I (k:Int))])
   (fun k w'=>w6.grownBy w' (some g6)∧cl g6 183 ((db (iE b k)).map bp) w'∧k≤16) (fun k=>16-k) 0 ⟨rfl,rfl,rfl,rfl,rfl,rfl,trivial⟩
   ⟨dR (aG.refl _),b6,by omega⟩ ?_
  rintro k w7 ⟨q7,b7,hk⟩
  refine af (af (aa (ae JL JL ?_)))
  refine aj JL JL JL (aS) ?_
  refine ag (ab ?_)
  refine ba JL (fun h=>?_) (fun h=>?_)
  ·have hk16:k<16:=by omega
   have E7:aG w w7:=E6.of_new q7 hw6
   refine ar (ab (af (av ?_)))
   have e0:(4:Int)*(k:Int)=((4*k:Nat):Int):=by omega
   have e1:((4*k:Nat):Int)+1=((4*k+1:Nat):Int):=by omega
   have e2:((4*k:Nat):Int)+2=((4*k+2:Nat):Int):=by omega
   have e3:((4*k:Nat):Int)+3=((4*k+3:Nat):Int):=by omega
   refine bm 35 [1,2,4,5,6,7,58,59] (by kernel_rfl) (by kernel_rfl) ?_
   refine ao JL JL (ao JL JL (ao JL JL ?_))
   refine aO (r:=I ((4*k:Nat):Int)) JL JL JL (fun w _=>by rw[←e0];exact eI (by omega) (by omega)) ?_
   refine ay JL JL JL (fun w _=>(had (4*k) (by omega)).1 w) ?_
   refine aD JL JL (fun w' hw=>(had (4*k) (by omega)).2 w' (E7.trans hw)) ?_
   refine dk JL JL (fun w _=>fi Jm Jf) ?_
   refine aO JL JL JL (fun w _=>el 24 (by omega)) ?_
   refine ao JL JL (ao JL JL ?_)
   refine aO (r:=I ((4*k:Nat):Int)) JL JL JL (fun w _=>by rw[←e0];exact eI (by omega) (by omega)) ?_
   refine aO (r:=I ((4*k+1:Nat):Int)) JL JL JL (fun w _=>by rw[←e1];exact aE (by omega) (by omega)) ?_
   refine ay JL JL JL (fun w _=>(had (4*k+1) (by omega)).1 w) ?_
   refine aD JL JL (fun w' hw=>(had (4*k+1) (by omega)).2 w' (E7.trans hw)) ?_
   refine dk JL JL (fun w _=>fi Jm Jf) ?_
   refine aO JL JL JL (fun w _=>el 16 (by omega)) ?_
   refine aO JL JL JL (fun w _=>eO) ?_
   refine ao JL JL (ao JL JL ?_)
   refine aO (r:=I ((4*k:Nat):Int)) JL JL JL (fun w _=>by rw[←e0];exact eI (by omega) (by omega)) ?_
   refine aO (r:=I ((4*k+2:Nat):Int)) JL JL JL (fun w _=>by rw[←e2];exact aE (by omega) (by omega)) ?_
   refine ay JL JL JL (fun w _=>(had (4*k+2) (by omega)).1 w) ?_
   refine aD JL JL (fun w' hw=>(had (4*k+2) (by omega)).2 w' (E7.trans hw)) ?_
   refine dk JL JL (fun w _=>fi Jm Jf) ?_
   refine aO JL JL JL (fun w _=>el 8 (by omega)) ?_
   refine aO JL JL JL (fun w _=>eO) ?_
   refine ao JL JL (ao JL JL ?_)
   refine aO (r:=I ((4*k:Nat):Int)) JL JL JL (fun w _=>by rw[←e0];exact eI (by omega) (by omega)) ?_
   refine aO (r:=I ((4*k+3:Nat):Int)) JL JL JL (fun w _=>by rw[←e3];exact aE (by omega) (by omega)) ?_
   refine ay JL JL JL (fun w _=>(had (4*k+3) (by omega)).1 w) ?_
   refine aD JL JL (fun w' hw=>(had (4*k+3) (by omega)).2 w' (E7.trans hw)) ?_
   refine dk JL JL (fun w _=>fi Jm Jf) ?_
   refine aO JL JL JL (fun w _=>eO) ?_
   refine ay JL JL JL (fun w _=>fZ k (by omega)) ?_
   refine bu ?_
   intro w8 hx8
   rintro _ rfl _ rfl _ rfl _ rfl _ rfl _ rfl _ rfl _ rfl
   have hlen:(db (iE b k)).length=64:=ll (by rw[jb];omega)
   refine aC JL JL (yl (x:=ow b k) (b7.ext hx8) k (by omega)) ?_
   have b8:=(b7.ext hx8).setU k (ow b k)
   have q8:=(q7.trans (dR hx8)).trans (bb w8 g6 k (bp (ow b k)))
   have hset:(db (iE b k)).set k (ow b k)=db (iE b (k+1)):=by
    have:=lm (l:=iE b k) (ow b k) (by rw[jb];omega)
    rw[jb] at this
    rw[this,sM]
   rw[hset] at b8
   refine ag (aM (ab (aa (ae JL JL ?_))))
   refine aj JL JL JL (aE (by omega) (by omega)) ?_
   refine ac JL JL (ag ?_)
   exact bN (k+1) ⟨rfl,rfl,rfl,rfl,rfl,rfl,trivial⟩ ⟨q8,b8,by omega⟩ (by omega)
  ·have hk':k=16:=by omega
   subst hk'
   exact aX (aA (aA (aV (cr () ⟨rfl,rfl,rfl,rfl,trivial⟩ ⟨q7,b7⟩))))
 rintro _ w7 ⟨q7,b7⟩
 refine ab ?_
 refine af (eK (fun _:Unit=>[(2,.pointer (some ⟨g2,0,none⟩)),(4,.pointer (some ⟨g4,0,none⟩)),(5,.pointer (some ⟨g5,0,none⟩)),(6,.pointer (some ⟨g6,0,none⟩))]) (fun _ w'=>w6.grownBy w' (some g6)∧cl g6 183 ((bt b 48).map bp) w') ?_ ?_)
 ·refine af (aa (ac JL JL (ag (ab (av ?_)))))
  refine ck (α:=Nat) (fun k=>[(2,.pointer (some ⟨g2,0,none⟩)),(4,.pointer (some ⟨g4,0,none⟩)),(5,.pointer (some ⟨g5,0,none⟩)),(6,.pointer (some ⟨g6,0,none⟩)),(8,I ((16+k:Nat):Int))])
   (fun k w'=>w6.grownBy w' (some g6)∧cl g6 183 ((db (bt b k)).map bp) w'∧k≤48) (fun k=>48-k) 0 ⟨rfl,rfl,rfl,rfl,rfl,trivial⟩
   ⟨q7,b7,by omega⟩ ?_
  clear q7 b7
  rintro k w7 ⟨q7,b7,hk⟩
  have hL:=j7 b k
  refine af (af (aa (ae JL JL ?_)))
  refine aj JL JL JL (aS) ?_
  refine ag (ab ?_)
  refine ba JL (fun h=>?_) (fun h=>?_)
  ·have hk48:k<48:=by omega
   refine ar (ab (af (av (af ?_))))
   have e15:((16+k:Nat):Int)-15=(((bt b k).length-15:Nat):Int):=by omega
   have e2:((16+k:Nat):Int)-2=(((bt b k).length-2:Nat):Int):=by omega
   have e16:((16+k:Nat):Int)-16=(((bt b k).length-16:Nat):Int):=by omega
   have e7:((16+k:Nat):Int)-7=(((bt b k).length-7:Nat):Int):=by omega
   have f15:=fB (l:=bt b k) (i:=(bt b k).length-15) (by omega)
   have f2:=fB (l:=bt b k) (i:=(bt b k).length-2) (by omega)
   have f16:=fB (l:=bt b k) (i:=(bt b k).length-16) (by omega)
   have f7:=fB (l:=bt b k) (i:=(bt b k).length-7) (by omega)
   have hlen:(db (bt b k)).length=64:=ll (by omega)
   refine bm 9 [2,4,5,6,8,9,71] (by kernel_rfl) (by kernel_rfl) ?_
   refine ao JL JL ?_
   refine aO (r:=I (((bt b k).length-15:Nat):Int)) JL JL JL (fun w _=>by rw[←e15];exact aY (by omega) (by omega)) ?_
   refine ay JL JL JL (fun w _=>fZ _ (by omega)) ?_
   refine aD (r:=bp ((bt b k).getD ((bt b k).length-15) 0)) JL JL (fun w' hw=>by rw[←f15];exact cX (b7.ext hw) _ (by omega)) ?_
   refine ao JL JL ?_
   refine aO (r:=I (((bt b k).length-2:Nat):Int)) JL JL JL (fun w _=>by rw[←e2];exact aY (by omega) (by omega)) ?_
   refine ay JL JL JL (fun w _=>fZ _ (by omega)) ?_
   refine aD (r:=bp ((bt b k).getD ((bt b k).length-2) 0)) JL JL (fun w' hw=>by rw[←f2];exact cX (b7.ext hw) _ (by omega)) ?_
   refine dX JL JL (bu ?_)
   intro w8 hx8
   rintro _ rfl _ rfl _ rfl _ rfl _ rfl _ rfl _ rfl
   refine ac JL JL (ag (ab (af (aa (ae JL JL ?_)))))
   refine am dT JL JL (dU 7 (by omega) (by omega)) ?_
   rintro _ w9 ⟨hx9,rfl⟩
   refine ae JL JL ?_
   refine am dT JL JL (dU 18 (by omega) (by omega)) ?_
   rintro _ w10 ⟨hx10,rfl⟩
   refine aj JL JL JL (cy) ?_
   refine ae JL JL ?_
   refine aj JL JL JL (cA 3 (by omega)) ?_
   refine aj JL JL JL (cy) ?_
   refine ac JL JL (ag (ab (af (aa (ae JL JL ?_)))))
   refine am dT JL JL (dU 17 (by omega) (by omega)) ?_
   rintro _ w11 ⟨hx11,rfl⟩
   refine ae JL JL ?_
   refine am dT JL JL (dU 19 (by omega) (by omega)) ?_
   rintro _ w12 ⟨hx12,rfl⟩
   refine aj JL JL JL (cy) ?_
   refine ae JL JL ?_
   refine aj JL JL JL (cA 10 (by omega)) ?_
   refine aj JL JL JL (cy) ?_
   refine ac JL JL (ag (ab ?_))
   have x12:=(((hx8.trans hx9).trans hx10).trans hx11).trans hx12
   have b12:=b7.ext x12
   refine bm 15 [2,4,5,6,8,101,102] (by kernel_rfl) (by kernel_rfl) ?_
   refine ao JL JL (ao JL JL ?_)
   refine aO (r:=I (((bt b k).length-16:Nat):Int)) JL JL JL (fun w _=>by rw[←e16];exact aY (by omega) (by omega)) ?_
   refine ay JL JL JL (fun w _=>fZ _ (by omega)) ?_
   refine aD (r:=bp ((bt b k).getD ((bt b k).length-16) 0)) JL JL (fun w' hw=>by rw[←f16];exact cX (b12.ext hw) _ (by omega)) ?_
   refine ao JL JL ?_
   refine aO JL JL JL (fun w _=>cu) ?_
   refine ao JL JL ?_
   refine aO (r:=I (((bt b k).length-7:Nat):Int)) JL JL JL (fun w _=>by rw[←e7];exact aY (by omega) (by omega)) ?_
   refine ay JL JL JL (fun w _=>fZ _ (by omega)) ?_
   refine aD (r:=bp ((bt b k).getD ((bt b k).length-7) 0)) JL JL (fun w' hw=>by rw[←f7];exact cX (b12.ext hw) _ (by omega)) ?_
   refine aO JL JL JL (fun w _=>cu) ?_
   refine ao JL JL ?_
   refine aO JL JL JL (fun w _=>cu) ?_
   refine ay JL JL JL (fun w _=>fZ (16+k) (by omega)) ?_
   refine bu ?_
   intro w13 hx13
   rintro _ rfl _ rfl _ rfl _ rfl _ rfl _ rfl _ rfl
   refine aC JL JL (yl (x:=lU (bt b k)) (b12.ext hx13) (16+k) (by omega)) ?_
   have b13:=(b12.ext hx13).setU (16+k) (lU (bt b k))
   have q13:=((q7.trans (dR x12)).trans (dR hx13)).trans (bb w13 g6 (16+k) (bp (lU (bt b k))))
   have hset:(db (bt b k)).set (16+k) (lU (bt b k))=db (bt b (k+1)):=by
    have:=lm (l:=bt b k) (lU (bt b k)) (by omega)
    rw[hL] at this
    exact this
   rw[hset] at b13
   refine ag (aM (ab (aa (ae JL JL ?_))))
   refine aj JL JL JL (aE (by omega) (by omega)) ?_
   refine ac JL JL (ag ?_)
   exact bN (k+1) ⟨rfl,rfl,rfl,rfl,rfl,trivial⟩ ⟨q13,b13,by omega⟩ (by omega)
  ·have hk':k=48:=by omega
   subst hk'
   have hf:db (bt b 48)=bt b 48:=by
    unfold db
    rw[hL]
    exact List.append_nil _
   rw[hf] at b7
   exact aX (aA (aA (aV (cr () ⟨rfl,rfl,rfl,rfl,trivial⟩ ⟨q7,b7⟩))))
 clear q7 b7
 rintro _ w7 ⟨q7,b7⟩
 refine ab ?_
 have E7:aG w w7:=E6.of_new q7 hw6
 have ne26:some g2≠some g6:=fun h=>by cases h;omega
 have ne46:some g4≠some g6:=fun h=>by cases h;omega
 have ne56:some g5≠some g6:=fun h=>by cases h;omega
 have C2:=B2.other q7 ne26
 have C4:=B4.other q7 ne46
 have C5:=B5.other q7 ne56
 have hlen8:(Tryz.prog.info? 112).map (·.size)=some (s.map bp).length:=by rw[List.length_map,hs];exact mb
 refine af (aa ?_)
 refine ak JL JL (lH (m:=s.map bp) C2 (fun j v h=>by rwa [Nat.zero_add]) JD JL hlen8) ?_
 obtain⟨g13,w8,hr,n13,x8,b13⟩:=bc (P:=Tryz.prog) (w:=w7) (l:=(List.replicate 8 0).map bp) Bh rfl
 refine bf JL hr ?_
 refine aC JL JL (gO b13 (by simp[hs]) hlen8 (jh _)) ?_
 have b13':=b13.row (s.map bp)
 have q13:=bg w8 g13 (s.map bp).toArray
 have l13:g6<g13:=Nat.lt_of_lt_of_le b7.lt n13
 have ne213:some g2≠some g13:=fun h=>by cases h;omega
 have ne413:some g4≠some g13:=fun h=>by cases h;omega
 have ne513:some g5≠some g13:=fun h=>by cases h;omega
 have ne613:some g6≠some g13:=fun h=>by cases h;omega
 have D2:=(C2.ext x8).other q13 ne213
 have D4:=(C4.ext x8).other q13 ne413
 have D5:=(C5.ext x8).other q13 ne513
 have D6:=(b7.ext x8).other q13 ne613
 have E8:aG w (w8.setRow g13 (s.map bp).toArray):=(E7.trans x8).of_new q13 (by omega)
 revert b13' D2 D4 D5 D6 E8
 generalize w8.setRow g13 (s.map bp).toArray=w9
 intro b13' D2 D4 D5 D6 E9
 refine ag (ab ?_)
 refine af (eK (fun _:Unit=>[(2,.pointer (some ⟨g2,0,none⟩)),(4,.pointer (some ⟨g4,0,none⟩)),(13,.pointer (some ⟨g13,0,none⟩))]) (fun _ w'=>w9.grownBy w' (some g13)∧cl g13 112 ((dH b s 64).map bp) w') ?_ ?_)
 ·refine af (aa (ac JL JL (ag (ab (av ?_)))))
  refine ck (α:=Nat) (fun i=>[(2,.pointer (some ⟨g2,0,none⟩)),(4,.pointer (some ⟨g4,0,none⟩)),(5,.pointer (some ⟨g5,0,none⟩)),(6,.pointer (some ⟨g6,0,none⟩)),(13,.pointer (some ⟨g13,0,none⟩)),(14,I (i:Int))])
   (fun i w'=>w9.grownBy w' (some g13)∧cl g13 112 ((dH b s i).map bp) w'∧i≤64) (fun i=>64-i) 0 ⟨rfl,rfl,rfl,rfl,rfl,rfl,trivial⟩
   ⟨dR (aG.refl _),b13',by omega⟩ ?_
  rintro i w10 ⟨q10,b10,hi⟩
  have hv8:=fW b s hs i
  refine af (af (aa (ae JL JL ?_)))
  refine aj JL JL JL (aS) ?_
  refine ag (ab ?_)
  refine ba JL (fun h=>?_) (fun h=>?_)
  ·have hi64:i<64:=by omega
   refine ar (ab (af (av (af ?_))))
   have V:=b10
   have K5:=D5.other q10 ne513
   have K6:=D6.other q10 ne613
   have hkc:kc.length=64:=rfl
   have hsl:(bt b 48).length=64:=j7 b 48
   refine bm 5 [2,4,5,6,13,14,15,111] (by kernel_rfl) (by kernel_rfl) ?_
   refine ay JL JL JL (fun w _=>dz 0 (by omega)) ?_
   refine aD JL JL (fun w' hw=>cX (V.ext hw) 0 (by omega)) ?_
   refine ay JL JL JL (fun w _=>dz 4 (by omega)) ?_
   refine aD JL JL (fun w' hw=>cX (V.ext hw) 4 (by omega)) ?_
   refine dX JL JL (bu ?_)
   intro w11 hx11
   rintro _ rfl _ rfl _ rfl _ rfl _ rfl _ rfl _ rfl _ rfl
   refine ac JL JL (ag (ab (af ?_)))
   replace V:=V.ext hx11
   replace K5:=K5.ext hx11
   replace K6:=K6.ext hx11
   refine bm 30 [2,4,5,6,13,14,15,16,141] (by kernel_rfl) (by kernel_rfl) ?_
   refine ay JL JL JL (fun w _=>dz 7 (by omega)) ?_
   refine aD JL JL (fun w' hw=>cX (V.ext hw) 7 (by omega)) ?_
   refine ao JL JL ?_
   refine bW (S:=Is (bp (gK _ 6))) dT (bo.is _) JL (fun w' _=>by
    rintro _ rfl _ rfl
    exact bD.mono (dU 6 (by omega) (by omega)) fun v w'' h=>⟨h.1,h.2⟩) ?_
   refine ao JL JL ?_
   refine bW (S:=Is (bp (gK _ 11))) dT (bo.is _) JL (fun w' _=>by
    rintro _ rfl _ rfl
    exact bD.mono (dU 11 (by omega) (by omega)) fun v w'' h=>⟨h.1,h.2⟩) ?_
   refine aO JL JL JL (fun w _=>cy) ?_
   refine ao JL JL ?_
   refine bW (S:=Is (bp (gK _ 25))) dT (bo.is _) JL (fun w' _=>by
    rintro _ rfl _ rfl
    exact bD.mono (dU 25 (by omega) (by omega)) fun v w'' h=>⟨h.1,h.2⟩) ?_
   refine aO JL JL JL (fun w _=>cy) ?_
   refine aO JL JL JL (fun w _=>cu) ?_
   refine ao JL JL ?_
   refine ay JL JL JL (fun w _=>dz 5 (by omega)) ?_
   refine aD JL JL (fun w' hw=>cX (V.ext hw) 5 (by omega)) ?_
   refine aO JL JL JL (fun w _=>eN) ?_
   refine ao JL JL ?_
   refine G8 JL JL (fun w _=>pV) ?_
   refine ay JL JL JL (fun w _=>dz 6 (by omega)) ?_
   refine aD JL JL (fun w' hw=>cX (V.ext hw) 6 (by omega)) ?_
   refine aO JL JL JL (fun w _=>eN) ?_
   refine aO JL JL JL (fun w _=>cy) ?_
   refine aO JL JL JL (fun w _=>cu) ?_
   refine ao JL JL ?_
   refine ay JL JL JL (fun w _=>fZ i (by omega)) ?_
   refine aD JL JL (fun w' hw=>cX (K5.ext hw) i (by omega)) ?_
   refine aO JL JL JL (fun w _=>cu) ?_
   refine ao JL JL ?_
   refine ay JL JL JL (fun w _=>fZ i (by omega)) ?_
   refine aD JL JL (fun w' hw=>cX (K6.ext hw) i (by omega)) ?_
   refine aO JL JL JL (fun w _=>cu) ?_
   refine bu ?_
   intro w12 hx12
   rintro _ rfl _ rfl _ rfl _ rfl _ rfl _ rfl _ rfl _ rfl _ rfl
   refine ac JL JL (ag (ab (af ?_)))
   replace V:=V.ext hx12
   refine bm 24 [2,4,5,6,13,14,15,16,17,165] (by kernel_rfl) (by kernel_rfl) ?_
   refine ao JL JL ?_
   refine bW (S:=Is (bp (gK _ 2))) dT (bo.is _) JL (fun w' _=>by
    rintro _ rfl _ rfl
    exact bD.mono (dU 2 (by omega) (by omega)) fun v w'' h=>⟨h.1,h.2⟩) ?_
   refine ao JL JL ?_
   refine bW (S:=Is (bp (gK _ 13))) dT (bo.is _) JL (fun w' _=>by
    rintro _ rfl _ rfl
    exact bD.mono (dU 13 (by omega) (by omega)) fun v w'' h=>⟨h.1,h.2⟩) ?_
   refine aO JL JL JL (fun w _=>cy) ?_
   refine ao JL JL ?_
   refine bW (S:=Is (bp (gK _ 22))) dT (bo.is _) JL (fun w' _=>by
    rintro _ rfl _ rfl
    exact bD.mono (dU 22 (by omega) (by omega)) fun v w'' h=>⟨h.1,h.2⟩) ?_
   refine aO JL JL JL (fun w _=>cy) ?_
   refine ao JL JL ?_
   refine ay JL JL JL (fun w _=>dz 1 (by omega)) ?_
   refine aD JL JL (fun w' hw=>cX (V.ext hw) 1 (by omega)) ?_
   refine aO JL JL JL (fun w _=>eN) ?_
   refine ao JL JL ?_
   refine ay JL JL JL (fun w _=>dz 2 (by omega)) ?_
   refine aD JL JL (fun w' hw=>cX (V.ext hw) 2 (by omega)) ?_
   refine aO JL JL JL (fun w _=>eN) ?_
   refine aO JL JL JL (fun w _=>cy) ?_
   refine ay JL JL JL (fun w _=>dz 1 (by omega)) ?_
   refine aD JL JL (fun w' hw=>cX (V.ext hw) 1 (by omega)) ?_
   refine ay JL JL JL (fun w _=>dz 2 (by omega)) ?_
   refine aD JL JL (fun w' hw=>cX (V.ext hw) 2 (by omega)) ?_
   refine aO JL JL JL (fun w _=>eN) ?_
   refine aO JL JL JL (fun w _=>cy) ?_
   refine aO JL JL JL (fun w _=>cu) ?_
   refine bu ?_
   intro w13 hx13
   rintro _ rfl _ rfl _ rfl _ rfl _ rfl _ rfl _ rfl _ rfl _ rfl _ rfl
   refine ac JL JL (ag (ab (aa (ae JL JL (ae JL JL ?_)))))
   replace V:=V.ext hx13
   refine aj JL JL JL (cu) ?_
   refine ae JL JL ?_
   refine ap JL JL JL (dz 1 (by omega)) ?_
   refine ak JL JL (cX V 1 (by omega)) ?_
   refine ap JL JL JL (dz 2 (by omega)) ?_
   refine ak JL JL (cX V 2 (by omega)) ?_
   refine ap JL JL JL (dz 3 (by omega)) ?_
   refine ak JL JL (cX V 3 (by omega)) ?_
   refine ae JL JL ?_
   refine aj JL JL JL (cu) ?_
   refine ae JL JL ?_
   refine ap JL JL JL (dz 5 (by omega)) ?_
   refine ak JL JL (cX V 5 (by omega)) ?_
   refine ap JL JL JL (dz 6 (by omega)) ?_
   refine ak JL JL (cX V 6 (by omega)) ?_
   refine bI JL JL (run_build _ _ _ ((dH b s (i+1)).map bp).toArray (by kernel_rfl)) ?_
   have hn8:=fW b s hs (i+1)
   refine aC JL JL (gO V (by simp[hv8,hn8]) (by rw[List.length_map,hn8];exact mb) (jh _)) ?_
   have V':=V.row ((dH b s (i+1)).map bp)
   have q14:=(q10.trans (dR ((hx11.trans hx12).trans hx13))).trans (bg w13 g13 ((dH b s (i+1)).map bp).toArray)
   refine ag (aM (ab (aa (ae JL JL ?_))))
   refine aj JL JL JL (aE (by omega) (by omega)) ?_
   refine ac JL JL (ag ?_)
   exact bN (i+1) ⟨rfl,rfl,rfl,rfl,rfl,rfl,trivial⟩ ⟨q14,V',by omega⟩ (by omega)
  ·have hi':i=64:=by omega
   subst hi'
   exact aX (aA (aA (aV (cr () ⟨rfl,rfl,rfl,trivial⟩ ⟨q10,b10⟩))))
 rintro _ w10 ⟨q10,b10⟩
 refine ab ?_
 have hv8:=fW b s hs 64
 have F2:=D2.other q10 ne213
 have F4:=D4.other q10 ne413
 have E10:aG w w10:=E9.of_new q10 (by omega)
 have ha0:iH s (dH b s 64) 0=s:=by simp[iH]
 refine af (eK (fun _:Unit=>[(2,.pointer (some ⟨g2,0,none⟩)),(4,.pointer (some ⟨g4,0,none⟩))]) (fun _ w'=>w10.grownBy w' (some g2)∧cl g2 112 ((iH s (dH b s 64) 8).map bp) w') ?_ ?_)
 ·refine af (aa (ac JL JL (ag (ab (av ?_)))))
  refine ck (α:=Nat) (fun i=>[(2,.pointer (some ⟨g2,0,none⟩)),(4,.pointer (some ⟨g4,0,none⟩)),(13,.pointer (some ⟨g13,0,none⟩)),(19,I (i:Int))])
   (fun i w'=>w10.grownBy w' (some g2)∧cl g2 112 ((iH s (dH b s 64) i).map bp) w'∧i≤8) (fun i=>8-i) 0 ⟨rfl,rfl,rfl,rfl,trivial⟩
   ⟨dR (aG.refl _),by rw[ha0];exact F2,by omega⟩ ?_
  rintro i w11 ⟨q11,b11,hi⟩
  refine af (af (aa (ae JL JL ?_)))
  refine aj JL JL JL (aS) ?_
  refine ag (ab ?_)
  refine ba JL (fun h=>?_) (fun h=>?_)
  ·have hi8:i<8:=by omega
   have hal:=CQ hs hv8 hi
   have hag:=um hs hv8 hi8
   have K13:=b10.other q11 (fun h=>by cases h;omega)
   refine ar (ab (af (av ?_)))
   refine bm 8 [2,4,13,19,194,195] (by kernel_rfl) (by kernel_rfl) ?_
   refine ao JL JL ?_
   refine ay JL JL JL (fun w _=>dz i (by omega)) ?_
   refine aD (r:=bp (s.getD i 0)) JL JL (fun w' hw=>by rw[←hag];exact cX (b11.ext hw) i (by omega)) ?_
   refine ao JL JL ?_
   refine ay JL JL JL (fun w _=>dz i (by omega)) ?_
   refine aD JL JL (fun w' hw=>cX (K13.ext hw) i (by omega)) ?_
   refine aO JL JL JL (fun w _=>cu) ?_
   refine ay JL JL JL (fun w _=>dz i (by omega)) ?_
   refine bu ?_
   intro w12 hx12
   rintro _ rfl _ rfl _ rfl _ rfl _ rfl _ rfl
   refine aC JL JL (yl (b11.ext hx12) i (by omega)) ?_
   have b12:=(b11.ext hx12).setU i (s.getD i 0+(dH b s 64).getD i 0)
   rw[uo hs hv8 hi8] at b12
   have q12:=(q11.trans (dR hx12)).trans (bb w12 g2 i (bp (s.getD i 0+(dH b s 64).getD i 0)))
   refine ag (aM (ab (aa (ae JL JL ?_))))
   refine aj JL JL JL (aE (by omega) (by omega)) ?_
   refine ac JL JL (ag ?_)
   exact bN (i+1) ⟨rfl,rfl,rfl,rfl,trivial⟩ ⟨q12,b12,by omega⟩ (by omega)
  ·have hi':i=8:=by omega
   subst hi'
   exact aX (aA (aA (aV (cr () ⟨rfl,rfl,trivial⟩ ⟨q11,b11⟩))))
 rintro _ w11 ⟨q11,b11⟩
 rw[uq hs hv8] at b11
 have hc8:=xI s b hs
 have hlen8':(Tryz.prog.info? 112).map (·.size)=some ((tt s b).map bp).length:=by rw[List.length_map,hc8];exact mb
 have G4:=F4.other q11 (fun h=>by cases h;omega)
 refine ab (af (aa ?_))
 refine ak JL JL (lH (m:=(tt s b).map bp) b11 (fun j v h=>by rw[Nat.zero_add];exact h) JD JL hlen8') ?_
 refine aC JL JL (gO G4 (by simp[hc8]) hlen8' (jh _)) ?_
 refine ag (ab (au ?_))
 refine dB JL JL (G4.row _) JD JL hlen8' ?_
 exact⟨_,rfl,(E10.of_new q11 (by omega)).of_new (bg _ _ _) (by omega),rfl⟩
end Go.Rl
namespace Go.Rl
open Go.RowKit Go.Proofs
theorem mc:(Tryz.prog.info? 22).map (·.zero)=some (some (.agg (List.replicate 32 (U8 0)).toArray)):=by kernel_rfl
theorem mg:(Tryz.prog.info? 22).map (·.size)=some 32:=by kernel_rfl
section
variable {w:World} {g o:Nat} {T:TypeId}
theorem sO (i:Nat) (hi:i<32):(Instr.indexAt 22 (.pointer (some ⟨g,0,none⟩)) (I (i:Int))).run Tryz.prog w=.ok (.pointer (some ⟨g,i,none⟩)) w:=by
 have:=tJ (P:=Tryz.prog) (w:=w) (g:=g) (o:=0) JA fa hi .i64
 rwa [Nat.zero_add] at this
theorem ur {m:List UInt8} {x:UInt8} (h:cl g T (m.map U8) w) (i:Nat) (hi:i<m.length):(Instr.storeAt 5 (.pointer (some ⟨g,i,none⟩)) (U8 x)).run Tryz.prog w=.ok () (w.setCell ⟨g,i,none⟩ (U8 x)):=
 dY fa rfl h (by simpa using hi)
theorem cl.setB {m:List UInt8} (h:cl g T (m.map U8) w) (i:Nat) (x:UInt8):cl g T ((m.set i x).map U8) (w.setCell ⟨g,i,none⟩ (U8 x)):=by
 have:=h.set i (U8 x)
 rwa [←List.map_set] at this
end
theorem oM (m:List UInt8):∀v∈m.map U8,v.oneCell'=true:=by
 intro u hu
 obtain⟨b,_,rfl⟩:=List.mem_map.1 hu
 rfl
def eX (d:List UInt8) (n j:Nat):List UInt8:=d.take j++List.replicate (n-j) 0
theorem jc {d:List UInt8} {n j:Nat} (hd:d.length=n) (hj:j≤n):(eX d n j).length=n:=by simp[eX,hd];omega
theorem jd {d:List UInt8} {n j:Nat} (hd:d.length=n) (hj:j<n):(eX d n j).set j (d.getD j 0)=eX d n (j+1):=by
 have h:(d.take j).length=j:=by simp[hd];omega
 have h1:d.getD j 0=d[j]:=by simp[List.getD,hd,hj]
 unfold eX
 rw[List.set_append_right _ _ (by omega),h,Nat.sub_self,h1,List.take_succ_eq_append_getElem (by omega:j<d.length)]
 have:n-j=(n-(j+1))+1:=by omega
 rw[this,List.replicate_succ,List.set_cons_zero,List.append_assoc]
 rfl
theorem pL {d:List UInt8} {n:Nat} (hd:d.length=n):eX d n n=d:=by
 simp[eX,←hd]
theorem yo (s:List UInt32):(s.flatMap tk).length=4*s.length:=by
 induction s with
 |nil=>rfl
 |cons x s ih=>
  have:(x::s).flatMap tk=tk x++s.flatMap tk:=by simp
  rw[this,List.length_append,ih]
  simp[tk];omega
theorem km:∀(s:List UInt32) (i k:Nat),i<s.length→k<4→(s.flatMap tk).getD (4*i+k) 0=(s.getD i 0>>>UInt32.ofNat (24-8*k)).toUInt8
 |[],_,_,h,_=>by simp at h
 |x::s,0,k,_,hk=>by
  have e:(x::s).flatMap tk=tk x++s.flatMap tk:=by simp
  rw[e]
  match k,hk with
  |0,_=>rfl
  |1,_=>rfl
  |2,_=>rfl
  |3,_=>
   show x.toUInt8=(x>>>UInt32.ofNat 0).toUInt8
   rw[show UInt32.ofNat 0=0 from rfl,UInt32.shiftRight_zero]
 |x::s,i+1,k,h,hk=>by
  have e:(x::s).flatMap tk=tk x++s.flatMap tk:=by simp
  rw[e]
  have h4:(tk x).length=4:=rfl
  have:=km s i k (by simpa using h) hk
  rw[List.getD_eq_getElem?_getD,List.getElem?_append_right (by omega),h4,show 4*(i+1)+k-4=4*i+k by omega,←List.getD_eq_getElem?_getD,this]
  rfl
theorem dn (m:List UInt8):(iL m).length=32:=by
 unfold iL
 rw[yo,Ev]
theorem wc (n:UInt64):(xJ n).length=8:=by simp[xJ]
theorem Fx (n:UInt64) {j:Nat} (hj:j<8):(xJ n).take (j+1)=(xJ n).take j++[(n>>>UInt64.ofNat (56-8*j)).toUInt8]:=by
 rw[List.take_succ_eq_append_getElem (by rw[wc];exact hj)]
 simp[xJ]
theorem Fy (M:List UInt8) (k:Nat):t6 M (k+1)=tt (t6 M k) ((M.take (64*k+64)).drop (64*k)):=by
 rw[t6,List.drop_take,Nat.add_sub_cancel_left]
end Go.Rl
namespace Go.Rl
open Go.RowKit Go.Proofs
theorem ut:aw Tryz.prog 26:=⟨_,Tryz.func26,by kernel_rfl,rfl⟩
theorem uu {w:World} {l:List UInt8} {v:Value} (hv:ci l v w) (hl:l.length≤1099511627776):
 Calls Tryz.prog 26 #[v] w (bD fun r w'=>aG w w'∧r=.agg ((iL l).map U8).toArray):=by
 refine enter (vs:=[v]) Tryz.func26 JL JL JL ?_
 obtain⟨g2,w1,hr,n2,x1,b2⟩:=bc (P:=Tryz.prog) (w:=w) (l:=(List.replicate 32 0).map U8) mc rfl
 refine af (aa (bf JL hr (ag (ab (af (aa ?_))))))
 obtain⟨r3,w3,hr,x3,o3,_⟩:=dL (w:=w1) w1.heap.size [] (by simp) (Nat.le_refl _)
 refine aJ (vs:=[]) JL JL hr ?_
 refine ae JL JL ?_
 have e3:=x1.trans x3
 obtain⟨r4,w4,hr,o4,g4⟩:=cH (ty:=28) o3 (hv.ext e3) (by simp only[List.length_nil];omega) x3.size
 have x4:=x3.of_grew g4 o3.ge
 refine aW JL JL hr ?_
 obtain⟨r5,w5,hr,x5,o5,_⟩:=dL (w:=w4) w4.heap.size [128] (by simp) (Nat.le_refl _)
 refine aJ (vs:=[(0,U8 128)]) JL JL hr ?_
 obtain⟨r6,w6,hr,o6,g6⟩:=cH (ty:=28) (o4.ext x5) o5.bts (by simp only[List.nil_append,List.length_cons,List.length_nil];omega) (x4.trans x5).size
 have x6:=(x4.trans x5).of_grew g6 o4.ge
 refine aW JL JL hr ?_
 rw[List.nil_append] at o6
 have B2:=b2.ext x6
 refine ac JL JL (ag (ab ?_))
 refine af (eK (fun m:Value=>[(0,v),(2,.pointer (some ⟨g2,0,none⟩)),(3,m)]) (fun m w'=>cf w1.heap.size (l++[128]++List.replicate (fX l.length) 0) m w'∧aG w1 w') ?_ ?_)
 ·refine av ?_
  refine ck (α:=Nat×Value) (fun x=>[(0,v),(2,.pointer (some ⟨g2,0,none⟩)),(3,x.2)])
   (fun x w'=>cf w1.heap.size (l++[128]++List.replicate x.1 0) x.2 w'∧aG w1 w'∧x.1≤fX l.length) (fun x=>fX l.length-x.1) (0,r6) ⟨rfl,rfl,rfl,trivial⟩
   ⟨by simpa using o6,x6,by simp⟩ ?_
  rintro⟨k,m⟩ w7 ⟨o7,x7,hk⟩
  dsimp only at o7 x7 hk
  have hp:fX l.length<64:=by unfold fX;omega
  have hm:(l++[128]++List.replicate k 0).length=l.length+1+k:=by simp;omega
  refine af (af (aa (ae JL JL ?_)))
  refine aP JL JL (bP o7.bts) ?_
  refine aj JL JL JL (mE (by omega) (by omega)) ?_
  refine aj JL JL JL (dj) ?_
  refine ag (ab ?_)
  rw[hm]
  refine ba JL (fun h=>?_) (fun h=>?_)
  ·have hlt:k<fX l.length:=by
    rcases Nat.lt_or_ge k (fX l.length) with h1|h1
    ·exact h1
    ·have:k=fX l.length:=by omega
     subst this
     exfalso
     unfold fX at h
     omega
   refine ar (ab (av (aa (ae JL JL ?_))))
   obtain⟨r8,w8,hr,x8,o8,_⟩:=dL (w:=w7) w7.heap.size [0] (by simp) (Nat.le_refl _)
   refine aJ (vs:=[(0,U8 0)]) JL JL hr ?_
   obtain⟨r9,w9,hr,o9,g9⟩:=cH (ty:=28) (o7.ext x8) o8.bts (by rw[hm];simp only[List.length_cons,List.length_nil];omega) (x7.trans x8).size
   refine aW JL JL hr ?_
   refine ac JL JL (ag (aM ?_))
   refine bN (k+1,r9) ⟨rfl,rfl,rfl,trivial⟩ ⟨?_,(x7.trans x8).of_grew g9 o7.ge,hlt⟩ (by show fX l.length-(k+1)<fX l.length-k;omega)
   show cf _ (l++[128]++List.replicate (k+1) 0) r9 w9
   rw[List.replicate_succ',←List.append_assoc]
   exact o9
  ·have hk':k=fX l.length:=by
    unfold fX at hk hp⊢
    omega
   subst hk'
   exact aX (aA (aA (aV (cr m ⟨rfl,rfl,rfl,trivial⟩ ⟨o7,x7⟩))))
 rintro m7 w7 ⟨o7,x7⟩
 refine ab (af (aa (ae JL JL ?_)))
 refine aP JL JL (bP (hv.ext (x1.trans x7))) ?_
 refine aQ JL JL (cZ Jh Ji) ?_
 refine aj (u:=bC 8) JL JL JL (gU) ?_
 rw[UInt64.mul_comm]
 refine ac JL JL (ag (ab ?_))
 have hp:fX l.length<64:=by unfold fX;omega
 have hb8:=wc (UInt64.ofNat l.length*8)
 refine af (eK (fun m:Value=>[(2,.pointer (some ⟨g2,0,none⟩)),(3,m)]) (fun m w'=>cf w1.heap.size (ee l) m w'∧aG w1 w') ?_ ?_)
 ·refine af (aa (ac JL JL (ag (ab (av ?_)))))
  refine ck (α:=Nat×Value) (fun x=>[(2,.pointer (some ⟨g2,0,none⟩)),(3,x.2),(4,bC (UInt64.ofNat l.length*8)),(5,I (7-(x.1:Int)))])
   (fun x w'=>cf w1.heap.size (l++[128]++List.replicate (fX l.length) 0++(xJ (UInt64.ofNat l.length*8)).take x.1) x.2 w'∧aG w1 w'∧x.1≤8) (fun x=>8-x.1) (0,m7) ⟨rfl,rfl,rfl,rfl,trivial⟩
   ⟨by simpa using o7,x7,by simp⟩ ?_
  rintro⟨j,m⟩ w8 ⟨o8,x8,hj⟩
  dsimp only at o8 x8 hj
  refine af (af (aa (ae JL JL ?_)))
  refine aj JL JL JL (fQ) ?_
  refine ag (ab ?_)
  refine ba JL (fun h=>?_) (fun h=>?_)
  ·have hj8:j<8:=by omega
   refine ar (ab (af (av (aa (ae JL JL (ae JL JL (ae JL JL ?_)))))))
   have e8:(8:Int)*(7-(j:Int))=((56-8*j:Nat):Int):=by omega
   refine aj (r:=I ((56-8*j:Nat):Int)) JL JL JL (by rw[←e8];exact eI (by omega) (by omega)) ?_
   refine aj JL JL JL (de (56-8*j) (by omega)) ?_
   refine aQ JL JL (j0 Ji Jm) ?_
   obtain⟨r9,w9,hr,x9,o9,_⟩:=dL (w:=w8) w8.heap.size [((UInt64.ofNat l.length*8)>>>UInt64.ofNat (56-8*j)).toUInt8] (by simp) (Nat.le_refl _)
   refine aJ (vs:=[(0,U8 ((UInt64.ofNat l.length*8)>>>UInt64.ofNat (56-8*j)).toUInt8)]) JL JL hr ?_
   obtain⟨r10,w10,hr,o10,g10⟩:=cH (ty:=28) (o8.ext x9) o9.bts (by simp only[List.length_append,List.length_cons,List.length_nil,List.length_replicate,List.length_take];omega) (x8.trans x9).size
   refine aW JL JL hr ?_
   refine ac JL JL (ag (aM (ab (aa (ae JL JL ?_)))))
   refine aj JL JL JL (aY (by omega) (by omega)) ?_
   refine ac JL JL (ag ?_)
   have e1:(7:Int)-(j:Int)-1=7-((j+1:Nat):Int):=by omega
   rw[e1]
   refine bN (j+1,r10) ⟨rfl,rfl,rfl,rfl,trivial⟩ ⟨?_,(x8.trans x9).of_grew g10 o8.ge,hj8⟩ (by show 8-(j+1)<8-j;omega)
   show cf _ (l++[128]++List.replicate (fX l.length) 0++(xJ (UInt64.ofNat l.length*8)).take (j+1)) r10 w10
   rw[Fx _ hj8,←List.append_assoc]
   exact o10
  ·have hj':j=8:=by omega
   subst hj'
   rw[List.take_of_length_le (by omega)] at o8
   exact aX (aA (aA (aV (cr m ⟨rfl,rfl,trivial⟩ ⟨o8,x8⟩))))
 clear o7 x7
 rintro m8 w8 ⟨o8,x8⟩
 have hM:=zr l
 have hMl:(ee l).length≤1099511627776+80:=by
  simp only[ee,List.length_append,List.length_cons,List.length_nil,List.length_replicate];omega
 generalize hMM:ee l=M at o8 hM hMl
 refine ab (af (aa ?_))
 refine bI JL JL (run_build _ _ _ (iv.map bp).toArray (by kernel_rfl)) ?_
 obtain⟨g6',w9,hr,n9,x9,b9⟩:=bc (P:=Tryz.prog) (w:=w8) (l:=(List.replicate 8 0).map bp) Bh rfl
 refine bf JL hr ?_
 refine aC JL JL (gO b9 JL mb (jh _)) ?_
 have b9':=b9.row (iv.map bp)
 have q9:=bg w9 g6' (iv.map bp).toArray
 have l26:g2<g6':=Nat.lt_of_lt_of_le b2.lt (Nat.le_trans x8.size n9)
 have hw6:w1.heap.size≤g6':=Nat.le_trans x8.size n9
 have E9:aG w1 (w9.setRow g6' (iv.map bp).toArray):=(x8.trans x9).of_new q9 hw6
 have ne2:some g2≠some g6':=fun h=>by cases h;omega
 have hm9:cf w1.heap.size M m8 (w9.setRow g6' (iv.map bp).toArray):=by
  obtain⟨n,h⟩:=o8.ext x9
  exact⟨n,World.ownsRow.kept h q9 (.inr fun he=>by have:=o8.lt g6' he;omega)⟩
 have C9:=((b2.ext x8).ext x9).other q9 ne2
 revert b9' E9 hm9 C9
 generalize w9.setRow g6' (iv.map bp).toArray=w10
 intro b10 E10 o10 C10
 refine ag (ab ?_)
 have l28:∀k,m8.ownBlock=some k→k<w8.heap.size:=o8.lt
 refine af (eK (fun _:Unit=>[(2,.pointer (some ⟨g2,0,none⟩)),(6,.pointer (some ⟨g6',0,none⟩))]) (fun _ w'=>w10.grownBy w' (some g6')∧cl g6' 112 ((t6 M (M.length/64)).map bp) w') ?_ ?_)
 ·refine af (aa (ac JL JL (ag (ab (av ?_)))))
  refine ck (α:=Nat) (fun k=>[(2,.pointer (some ⟨g2,0,none⟩)),(3,m8),(6,.pointer (some ⟨g6',0,none⟩)),(7,I ((64*k:Nat):Int))])
   (fun k w'=>w10.grownBy w' (some g6')∧cl g6' 112 ((t6 M k).map bp) w'∧k≤M.length/64) (fun k=>M.length/64-k) 0 ⟨rfl,rfl,rfl,rfl,trivial⟩
   ⟨dR (aG.refl _),b10,by omega⟩ ?_
  rintro k w11 ⟨q11,b11,hk⟩
  have o11:cf w1.heap.size M m8 w11:=by
   obtain⟨n,h⟩:=o10
   exact⟨n,World.ownsRow.kept h q11 (.inr fun he=>by have:=l28 g6' he;omega)⟩
  have hs8:=mN M k
  refine af (af (aa (ae JL JL (ae JL JL ?_))))
  refine aP JL JL (bP o11.bts) ?_
  refine aj JL JL JL (aS) ?_
  refine ag (ab ?_)
  refine ba JL (fun h=>?_) (fun h=>?_)
  ·have hlt:64*k+64≤M.length:=by omega
   have e64:((64*k:Nat):Int)+64=((64*k+64:Nat):Int):=by omega
   have hbl:((M.take (64*k+64)).drop (64*k)).length=64:=by simp;omega
   obtain⟨r12,hr12,bt12⟩:=ra o11.bts (lo:=64*k) (hi:=64*k+64) (by omega) hlt .i64 .i64
   have hszk:(Tryz.prog.info? 112).map (·.size)=some ((t6 M k).map bp).length:=by rw[List.length_map,hs8];exact mb
   have hszk':(Tryz.prog.info? 112).map (·.size)=some ((t6 M (k+1)).map bp).length:=by rw[List.length_map,mN];exact mb
   refine ar (ab (af (av ?_)))
   refine bm 7 [2,3,6,7,52] (by kernel_rfl) (by kernel_rfl) ?_
   refine aD JL JL (fun w' hw=>lH (m:=(t6 M k).map bp) (b11.ext hw) (fun j v h=>by rwa [Nat.zero_add]) JD JL hszk) ?_
   refine ao JL JL (ao JL JL (ao JL JL ?_))
   refine aO (r:=I ((64*k+64:Nat):Int)) JL JL JL (fun w _=>by rw[←e64];exact aE (by omega) (by omega)) ?_
   refine gx (a:=some (I ((64*k:Nat):Int))) (b:=some (I ((64*k+64:Nat):Int))) JL JL JL JL (fun w _=>hr12 w) ?_
   refine bW (S:=Is (.agg ((t6 M (k+1)).map bp).toArray)) ym (bo.is _) JL (fun w' hw=>by
    rintro _ rfl _ rfl
    exact bD.mono (yn hs8 hbl (bt12.ext hw)) fun v w'' h=>⟨h.1,by rw[Fy];exact h.2⟩) ?_
   refine bu ?_
   intro w12 hx12
   rintro _ rfl _ rfl _ rfl _ rfl _ rfl
   refine aC JL JL (gO (b11.ext hx12) (by simp[mN]) hszk' (jh _)) ?_
   have b12:=(b11.ext hx12).row ((t6 M (k+1)).map bp)
   have q12:=(q11.trans (dR hx12)).trans (bg w12 g6' ((t6 M (k+1)).map bp).toArray)
   refine ag (aM (ab (aa (ae JL JL ?_))))
   refine aj JL JL JL (aE (by omega) (by omega)) ?_
   refine ac JL JL (ag ?_)
   exact bN (k+1) ⟨rfl,rfl,rfl,rfl,trivial⟩ ⟨q12,b12,by omega⟩ (by omega)
  ·have hk':k=M.length/64:=by omega
   subst hk'
   exact aX (aA (aA (aV (cr () ⟨rfl,rfl,trivial⟩ ⟨q11,b11⟩))))
 rintro _ w11 ⟨q11,b11⟩
 have C2:=C10.other q11 ne2
 have E11:aG w1 w11:=E10.of_new q11 hw6
 have hs8:=mN M (M.length/64)
 generalize hst:t6 M (M.length/64)=st at b11 hs8
 have hD:(st.flatMap tk).length=32:=by rw[yo,hs8]
 refine ab (af (aa ?_))
 obtain⟨g8,w12,hr,n12,x12,b12⟩:=bc (P:=Tryz.prog) (w:=w11) (l:=(eX (st.flatMap tk) 32 0).map U8) mc rfl
 refine bf JL hr (ag (ab ?_))
 have l68:g6'<g8:=Nat.lt_of_lt_of_le b11.lt n12
 have ne68:some g6'≠some g8:=fun h=>by cases h;omega
 have ne28:some g2≠some g8:=fun h=>by cases h;omega
 have c11:=b11.ext x12
 have D2:=C2.ext x12
 refine af (eK (fun _:Unit=>[(2,.pointer (some ⟨g2,0,none⟩)),(8,.pointer (some ⟨g8,0,none⟩))]) (fun _ w'=>w12.grownBy w' (some g8)∧cl g8 22 ((st.flatMap tk).map U8) w') ?_ ?_)
 ·refine af (aa (ac JL JL (ag (ab (av ?_)))))
  refine ck (α:=Nat) (fun i=>[(2,.pointer (some ⟨g2,0,none⟩)),(6,.pointer (some ⟨g6',0,none⟩)),(8,.pointer (some ⟨g8,0,none⟩)),(9,I (i:Int))])
   (fun i w'=>w12.grownBy w' (some g8)∧cl g8 22 ((eX (st.flatMap tk) 32 (4*i)).map U8) w'∧i≤8) (fun i=>8-i) 0 ⟨rfl,rfl,rfl,rfl,trivial⟩
   ⟨dR (aG.refl _),b12,by omega⟩ ?_
  rintro i w13 ⟨q13,b13,hi⟩
  refine af (af (aa (ae JL JL ?_)))
  refine aj JL JL JL (aS) ?_
  refine ag (ab ?_)
  refine ba JL (fun h=>?_) (fun h=>?_)
  ·have hi8:i<8:=by omega
   refine ar (ab (af (av (af (aa (ac JL JL (ag (ab (av ?_)))))))))
   refine ck (α:=Nat) (fun k=>[(2,.pointer (some ⟨g2,0,none⟩)),(6,.pointer (some ⟨g6',0,none⟩)),(8,.pointer (some ⟨g8,0,none⟩)),(9,I (i:Int)),(10,I (k:Int))])
    (fun k w'=>w12.grownBy w' (some g8)∧cl g8 22 ((eX (st.flatMap tk) 32 (4*i+k)).map U8) w'∧k≤4) (fun k=>4-k) 0 ⟨rfl,rfl,rfl,rfl,rfl,trivial⟩
    ⟨q13,b13,by omega⟩ ?_
   rintro k w14 ⟨q14,b14,hk⟩
   refine af (af (aa (ae JL JL ?_)))
   refine aj JL JL JL (aS) ?_
   refine ag (ab ?_)
   refine ba JL (fun h=>?_) (fun h=>?_)
   ·have hk4:k<4:=by omega
    have c14:=c11.other q14 ne68
    have hfl:=jc (j:=4*i+k) hD (by omega)
    have e4:(4:Int)*(i:Int)=((4*i:Nat):Int):=by omega
    have e5:((4*i:Nat):Int)+(k:Int)=((4*i+k:Nat):Int):=by omega
    have e6:(24:Int)-8*(k:Int)=((24-8*k:Nat):Int):=by omega
    refine ar (ab (af (av (aa (ae JL JL ?_)))))
    refine aj (r:=I ((4*i:Nat):Int)) JL JL JL (by rw[←e4];exact eI (by omega) (by omega)) ?_
    refine ae JL JL ?_
    refine aj (r:=I ((4*i+k:Nat):Int)) JL JL JL (by rw[←e5];exact aE (by omega) (by omega)) ?_
    refine ae JL JL ?_
    refine ap JL JL JL (dz i (by omega)) ?_
    refine ak JL JL (cX c14 i (by omega)) ?_
    refine ae JL JL ?_
    refine aj JL JL JL (eI (by omega) (by omega)) ?_
    refine aj (r:=I ((24-8*k:Nat):Int)) JL JL JL (by rw[←e6];exact aY (by omega) (by omega)) ?_
    refine aj JL JL JL (cA (24-8*k) (by omega)) ?_
    refine aQ JL JL (dD Jf Jm) ?_
    refine ap JL JL JL (sO (4*i+k) (by omega)) ?_
    refine aC JL JL (ur b14 (4*i+k) (by omega)) ?_
    have b15:=b14.setB (4*i+k) (st.getD i 0>>>UInt32.ofNat (24-8*k)).toUInt8
    have hset:(eX (st.flatMap tk) 32 (4*i+k)).set (4*i+k) (st.getD i 0>>>UInt32.ofNat (24-8*k)).toUInt8=eX (st.flatMap tk) 32 (4*i+(k+1)):=by
     rw[←km st i k (by omega) hk4]
     exact jd hD (by omega)
    rw[hset] at b15
    refine ag (aM (ab (aa (ae JL JL ?_))))
    refine aj JL JL JL (aE (by omega) (by omega)) ?_
    refine ac JL JL (ag ?_)
    exact bN (k+1) ⟨rfl,rfl,rfl,rfl,rfl,trivial⟩ ⟨q14.trans (bb w14 g8 _ _),b15,by omega⟩ (by omega)
   ·have hk':k=4:=by omega
    subst hk'
    refine aX (aA (aA (aV (aM (ab (aa (ae JL JL ?_)))))))
    refine aj JL JL JL (aE (by omega) (by omega)) ?_
    refine ac JL JL (ag ?_)
    exact bN (i+1) ⟨rfl,rfl,rfl,rfl,trivial⟩ ⟨q14,b14,by omega⟩ (by omega)
  ·have hi':i=8:=by omega
   subst hi'
   rw[show 4*8=32 from rfl,pL hD] at b13
   exact aX (aA (aA (aV (cr () ⟨rfl,rfl,trivial⟩ ⟨q13,b13⟩))))
 rintro _ w13 ⟨q13,b13⟩
 have hdig:st.flatMap tk=iL l:=by
  unfold iL sh
  rw[hMM,hst]
 rw[hdig] at b13
 have hsz:(Tryz.prog.info? 22).map (·.size)=some ((iL l).map U8).length:=by rw[List.length_map,dn];exact mg
 have F2:=D2.other q13 ne28
 refine ab (af (aa ?_))
 refine ak JL JL (lH (m:=(iL l).map U8) b13 (fun j v h=>by rwa [Nat.zero_add]) JA JL hsz) ?_
 refine aC JL JL (gO F2 (by simp[dn]) hsz (oM _)) ?_
 refine ag (ab (au ?_))
 refine dB JL JL (F2.row _) JA JL hsz ?_
 have E13:aG w w13:=(x1.trans (E11.trans x12)).of_new q13 (by have:=x1.size;omega)
 exact⟨_,rfl,E13.of_new (bg _ _ _) n2,rfl⟩
end Go.Rl
namespace Go.Rl
open Go.RowKit Go.Proofs
def cP (st:List UInt32) (blk:List UInt8) (u:Int) (tot:UInt64):List Value:=st.map bp++(blk.map U8++[I u,bC tot])
structure HC (g:Nat) (st:List UInt32) (blk:List UInt8) (u:Int) (tot:UInt64) (w:World):Prop where
 hb:cl g 202 (cP st blk u tot) w
 ls:st.length=8
 lb:blk.length=64
section
variable {w w':World} {g:Nat} {st:List UInt32} {blk:List UInt8} {u:Int} {tot:UInt64}
theorem f4 (hs:st.length=8) (hb:blk.length=64):(cP st blk u tot).length=74:=by simp[cP,hs,hb]
theorem HC.ext (h:HC g st blk u tot w) (hx:aG w w'):HC g st blk u tot w':=⟨h.hb.ext hx,h.ls,h.lb⟩
theorem HC.other {row:Option Nat} (h:HC g st blk u tot w) (hg:w.grownBy w' row) (hne:some g≠row):HC g st blk u tot w':=⟨h.hb.other hg hne,h.ls,h.lb⟩
theorem HC.lt (h:HC g st blk u tot w):g<w.heap.size:=h.hb.lt
theorem HC.cellS (h:HC g st blk u tot w) {i:Nat} (hi:i<8):w.cell? ⟨g,i,none⟩=some (bp (st.getD i 0)):=
 h.hb.cell (by simp[cP,List.getElem?_append,h.ls,hi])
theorem HC.cellU (h:HC g st blk u tot w):w.cell? ⟨g,72,none⟩=some (I u):=
 h.hb.cell (by unfold cP;rw[List.getElem?_append_right (by simp[h.ls]),List.length_map,h.ls,List.getElem?_append_right (by simp[h.lb]),List.length_map,h.lb];rfl)
theorem HC.cellT (h:HC g st blk u tot w):w.cell? ⟨g,73,none⟩=some (bC tot):=
 h.hb.cell (by unfold cP;rw[List.getElem?_append_right (by simp[h.ls]),List.length_map,h.ls,List.getElem?_append_right (by simp[h.lb]),List.length_map,h.lb];rfl)
theorem HC.setS (h:HC g st blk u tot w) (i:Nat) (hi:i<8) (x:UInt32):HC g (st.set i x) blk u tot (w.setCell ⟨g,i,none⟩ (bp x)):=by
 refine⟨?_,by simp[h.ls],h.lb⟩
 have:=h.hb.set i (bp x)
 unfold cP at this
 rw[List.set_append_left _ _ (by simpa [h.ls] using hi),←List.map_set] at this
 exact this
theorem HC.setU (h:HC g st blk u tot w) (x:Int):HC g st blk x tot (w.setCell ⟨g,72,none⟩ (I x)):=by
 refine⟨?_,h.ls,h.lb⟩
 have:=h.hb.set 72 (I x)
 unfold cP at this
 rw[List.set_append_right _ _ (by simp[h.ls]),List.length_map,h.ls,List.set_append_right _ _ (by simp[h.lb]),List.length_map,h.lb] at this
 exact this
theorem HC.setT (h:HC g st blk u tot w) (x:UInt64):HC g st blk u x (w.setCell ⟨g,73,none⟩ (bC x)):=by
 refine⟨?_,h.ls,h.lb⟩
 have:=h.hb.set 73 (bC x)
 unfold cP at this
 rw[List.set_append_right _ _ (by simp[h.ls]),List.length_map,h.ls,List.set_append_right _ _ (by simp[h.lb]),List.length_map,h.lb] at this
 exact this
theorem yp:(Tryz.prog.info? 41).map (·.size)=some 1:=by kernel_rfl
theorem Fz:(Tryz.prog.info? 200).map (·.size)=some 64:=by kernel_rfl
theorem uw:(Tryz.prog.info? 202).map (·.size)=some 74:=by kernel_rfl
theorem CR:(Tryz.prog.info? 202).map (·.zero)=some (some (.agg (cP (List.replicate 8 0) (List.replicate 64 0) 0 0).toArray)):=by kernel_rfl
theorem GI:(Instr.fieldAt 202 (.pointer (some ⟨g,0,none⟩)) 0).run Tryz.prog w=.ok (.pointer (some ⟨g,0,none⟩)) w:=by
 have h:=ce (P:=Tryz.prog) (w:=w) (n:=0) (a:=⟨g,0,none⟩) JH rfl mb (Nat.succ_ne_zero 7)
 exact h
theorem IZ:(Instr.fieldAt 202 (.pointer (some ⟨g,0,none⟩)) 1).run Tryz.prog w=.ok (.pointer (some ⟨g,8,none⟩)) w:=by
 have h:=ce (P:=Tryz.prog) (w:=w) (n:=1) (a:=⟨g,0,none⟩) JH rfl Fz (Nat.succ_ne_zero 63)
 exact h
theorem CS:(Instr.fieldAt 202 (.pointer (some ⟨g,0,none⟩)) 2).run Tryz.prog w=.ok (.pointer (some ⟨g,72,none⟩)) w:=by
 have h:=ce (P:=Tryz.prog) (w:=w) (n:=2) (a:=⟨g,0,none⟩) JH rfl fj (Nat.succ_ne_zero 0)
 exact h
theorem H7:(Instr.fieldAt 202 (.pointer (some ⟨g,0,none⟩)) 3).run Tryz.prog w=.ok (.pointer (some ⟨g,73,none⟩)) w:=by
 have h:=ce (P:=Tryz.prog) (w:=w) (n:=3) (a:=⟨g,0,none⟩) JH rfl yp (Nat.succ_ne_zero 0)
 exact h
theorem HC.bts (h:HC g st blk u tot w) {lo:Nat} (hlo:lo<64):ci (blk.drop lo) (.slice (some ⟨g,8+lo,none⟩) (64-lo) (64-lo)) w:=by
 refine⟨_,_,_,rfl,Nat.le_refl _,by unfold maxLen;omega,by simp[h.lb],fun _=>⟨_,rfl,fun j v hj=>?_⟩,fun h=>by cases h⟩
 rw[Addr.add_mid]
 refine h.hb.cell ?_
 unfold cP
 rw[List.getElem?_append_right (by simp[h.ls];omega),List.length_map,h.ls,show 8+lo+j-8=lo+j by omega]
 have hjl:lo+j<(blk.map U8).length:=by
  have:=(List.getElem?_eq_some_iff.1 hj).1
  simp only[List.length_map,List.length_drop] at this⊢
  omega
 rw[List.getElem?_append_left hjl]
 rw[List.map_drop,List.getElem?_drop] at hj
 exact hj
theorem Hs {lo:Nat} (hlo:lo<64):(Instr.sliceAt 200 (.pointer (some ⟨g,8,none⟩)) (some (I (lo:Int))) none none).run Tryz.prog w=.ok (.slice (some ⟨g,8+lo,none⟩) (64-lo) (64-lo)) w:=
 DM Tryz.underlying200 fa hlo .i64
theorem HC.ldS (h:HC g st blk u tot w):(Instr.loadAt 112 (.pointer (some ⟨g,0,none⟩))).run Tryz.prog w=.ok (.agg (st.map bp).toArray) w:=
 lH (m:=st.map bp) h.hb (fun j v hj=>by
  rw[Nat.zero_add]
  unfold cP
  rw[List.getElem?_append_left (List.getElem?_eq_some_iff.1 hj).1]
  exact hj) JD rfl (by rw[List.length_map,h.ls];exact mb)
end
theorem CT (b:List UInt8) (i j:Nat):(b.drop i).getD j 0=b.getD (i+j) 0:=by simp[List.getD]
end Go.Rl
namespace Go.Rl
open Go.RowKit Go.Proofs
theorem wh:aw Tryz.prog 128:=⟨_,Tryz.func128,by kernel_rfl,rfl⟩
theorem CU (b:List UInt8) (k:Nat):ow b k=((((b.drop (4*k)).getD 0 0).toUInt32<<<UInt32.ofNat 24|||((b.drop (4*k)).getD 1 0).toUInt32<<<UInt32.ofNat 16)|||((b.drop (4*k)).getD 2 0).toUInt32<<<UInt32.ofNat 8)|||((b.drop (4*k)).getD 3 0).toUInt32:=by
 simp only[CT,ow,Nat.add_zero]
theorem sR {m:List UInt32} {i:Nat} (h:i<m.length):(m.map bp)[i]? =some (bp (m.getD i 0)):=by simp[h]
theorem wi {w:World} {g:Nat} {s:List UInt32} {b:List UInt8} {u:Int} {tot:UInt64} (hc:HC g s b u tot w):
 Calls Tryz.prog 128 #[.pointer (some ⟨g,0,none⟩)] w (bD fun _ w'=>w.grownBy w' (some g)∧HC g (tt s b) b 0 tot w'):=by
 have hs:=hc.ls
 have hbl:=hc.lb
 refine enter (vs:=[.pointer (some ⟨g,0,none⟩)]) Tryz.func128 JL JL JL ?_
 obtain⟨g2,w1,hr,n2,x1,b2⟩:=bc (P:=Tryz.prog) (w:=w) (l:=(db []).map bp) sH rfl
 refine af (aa (bf JL hr (ag (ab ?_))))
 have lg:=hc.lt
 have hc1:=hc.ext x1
 have neg:some g≠some g2:=fun h=>by cases h;omega
 refine af (eK (fun _:Unit=>[(0,.pointer (some ⟨g,0,none⟩)),(2,.pointer (some ⟨g2,0,none⟩))]) (fun _ w'=>w1.grownBy w' (some g2)∧cl g2 183 ((db (bt b 0)).map bp) w') ?_ ?_)
 ·refine af (aa (ae JL JL (ag (ab (av ?_)))))
  refine ck (α:=Nat) (fun k=>[(0,.pointer (some ⟨g,0,none⟩)),(2,.pointer (some ⟨g2,0,none⟩)),(17,I (k:Int))])
   (fun k w'=>w1.grownBy w' (some g2)∧cl g2 183 ((db (iE b k)).map bp) w'∧k≤16) (fun k=>16-k) 0 ⟨rfl,rfl,rfl,trivial⟩
   ⟨dR (aG.refl _),b2,by omega⟩ ?_
  rintro k w7 ⟨q7,b7,hk⟩
  refine af (aa ?_)
  refine aj JL JL JL (aS) ?_
  refine ag (ab (af ?_))
  refine ba JL (fun h=>?_) (fun h=>?_)
  ·have hk16:k<16:=by omega
   have e0:(4:Int)*(k:Int)=((4*k:Nat):Int):=by omega
   refine ar (ab (af (av (af (aa (ae JL JL (ac JL JL (ag (ab (af (aa (ae JL JL ?_))))))))))))
   refine aZ JL JL ?_
   refine ah JL JL IZ ?_
   refine ae JL JL ?_
   refine aj (r:=I ((4*k:Nat):Int)) JL JL JL (by rw[←e0];exact eI (by omega) (by omega)) ?_
   refine cY (a:=some (I ((4*k:Nat):Int))) JL JL JL JL JL (Hs (by omega)) ?_
   refine ac JL JL (ag (ab ?_))
   have hbt:=(hc1.other q7 neg).bts (lo:=4*k) (by omega)
   obtain⟨ad,had⟩:=hbt.reads
   rw[List.length_drop,hbl] at had
   refine bm 24 [0,2,17,48,49] (by kernel_rfl) (by kernel_rfl) ?_
   refine ao JL JL (ao JL JL ?_)
   refine ay JL JL JL (fun w _=>(had 0 (by omega)).1 w) ?_
   refine aD JL JL (fun w' hw=>(had 0 (by omega)).2 w' hw) ?_
   refine dk JL JL (fun w _=>fi Jm Jf) ?_
   refine aO JL JL JL (fun w _=>el 24 (by omega)) ?_
   refine ao JL JL ?_
   refine ay JL JL JL (fun w _=>(had 1 (by omega)).1 w) ?_
   refine aD JL JL (fun w' hw=>(had 1 (by omega)).2 w' hw) ?_
   refine dk JL JL (fun w _=>fi Jm Jf) ?_
   refine aO JL JL JL (fun w _=>el 16 (by omega)) ?_
   refine aO JL JL JL (fun w _=>eO) ?_
   refine ao JL JL ?_
   refine ay JL JL JL (fun w _=>(had 2 (by omega)).1 w) ?_
   refine aD JL JL (fun w' hw=>(had 2 (by omega)).2 w' hw) ?_
   refine dk JL JL (fun w _=>fi Jm Jf) ?_
   refine aO JL JL JL (fun w _=>el 8 (by omega)) ?_
   refine aO JL JL JL (fun w _=>eO) ?_
   refine ao JL JL ?_
   refine ay JL JL JL (fun w _=>(had 3 (by omega)).1 w) ?_
   refine aD JL JL (fun w' hw=>(had 3 (by omega)).2 w' hw) ?_
   refine dk JL JL (fun w _=>fi Jm Jf) ?_
   refine aO JL JL JL (fun w _=>eO) ?_
   refine ay JL JL JL (fun w _=>fZ k (by omega)) ?_
   refine bu ?_
   intro w8 hx8
   rintro _ rfl _ rfl _ rfl _ rfl _ rfl
   have hlen:(db (iE b k)).length=64:=ll (by rw[jb];omega)
   rw[←CU]
   refine aC JL JL (yl (x:=ow b k) (b7.ext hx8) k (by omega)) ?_
   have b8:=(b7.ext hx8).setU k (ow b k)
   have q8:=(q7.trans (dR hx8)).trans (bb w8 g2 k (bp (ow b k)))
   have hset:(db (iE b k)).set k (ow b k)=db (iE b (k+1)):=by
    have:=lm (l:=iE b k) (ow b k) (by rw[jb];omega)
    rw[jb] at this
    rw[this,sM]
   rw[hset] at b8
   refine ag (aM (ab (aa ?_)))
   refine aj JL JL JL (aE (by omega) (by omega)) ?_
   refine ae JL JL (ag ?_)
   exact bN (k+1) ⟨rfl,rfl,rfl,trivial⟩ ⟨q8,b8,by omega⟩ (by omega)
  ·have hk':k=16:=by omega
   subst hk'
   exact aX (aA (aA (aV (cr () ⟨rfl,rfl,trivial⟩ ⟨q7,b7⟩))))
 rintro _ w7 ⟨q7,b7⟩
 refine ab ?_
 refine af (eK (fun _:Unit=>[(0,.pointer (some ⟨g,0,none⟩)),(2,.pointer (some ⟨g2,0,none⟩))]) (fun _ w'=>w1.grownBy w' (some g2)∧cl g2 183 ((bt b 48).map bp) w') ?_ ?_)
 ·refine af (aa (ac JL JL (ag (ab (av ?_)))))
  refine ck (α:=Nat) (fun k=>[(0,.pointer (some ⟨g,0,none⟩)),(2,.pointer (some ⟨g2,0,none⟩)),(5,I ((16+k:Nat):Int))])
   (fun k w'=>w1.grownBy w' (some g2)∧cl g2 183 ((db (bt b k)).map bp) w'∧k≤48) (fun k=>48-k) 0 ⟨rfl,rfl,rfl,trivial⟩
   ⟨q7,b7,by omega⟩ ?_
  clear q7 b7
  rintro k w7 ⟨q7,b7,hk⟩
  have hL:=j7 b k
  refine af (af (aa (ae JL JL ?_)))
  refine aj JL JL JL (aS) ?_
  refine ag (ab ?_)
  refine ba JL (fun h=>?_) (fun h=>?_)
  ·have hk48:k<48:=by omega
   refine ar (ab (af (av (af ?_))))
   have e15:((16+k:Nat):Int)-15=(((bt b k).length-15:Nat):Int):=by omega
   have f15:=fB (l:=bt b k) (i:=(bt b k).length-15) (by omega)
   have e2:((16+k:Nat):Int)-2=(((bt b k).length-2:Nat):Int):=by omega
   have f2:=fB (l:=bt b k) (i:=(bt b k).length-2) (by omega)
   have e16:((16+k:Nat):Int)-16=(((bt b k).length-16:Nat):Int):=by omega
   have f16:=fB (l:=bt b k) (i:=(bt b k).length-16) (by omega)
   have e7:((16+k:Nat):Int)-7=(((bt b k).length-7:Nat):Int):=by omega
   have f7:=fB (l:=bt b k) (i:=(bt b k).length-7) (by omega)
   have hlen:(db (bt b k)).length=64:=ll (by omega)
   refine bm 9 [0,2,5,6,62] (by kernel_rfl) (by kernel_rfl) ?_
   refine ao JL JL ?_
   refine aO (r:=I (((bt b k).length-15:Nat):Int)) JL JL JL (fun w _=>by rw[←e15];exact aY (by omega) (by omega)) ?_
   refine ay JL JL JL (fun w _=>fZ _ (by omega)) ?_
   refine aD (r:=bp ((bt b k).getD ((bt b k).length-15) 0)) JL JL (fun w' hw=>by rw[←f15];exact cX (b7.ext hw) _ (by omega)) ?_
   refine ao JL JL ?_
   refine aO (r:=I (((bt b k).length-2:Nat):Int)) JL JL JL (fun w _=>by rw[←e2];exact aY (by omega) (by omega)) ?_
   refine ay JL JL JL (fun w _=>fZ _ (by omega)) ?_
   refine aD (r:=bp ((bt b k).getD ((bt b k).length-2) 0)) JL JL (fun w' hw=>by rw[←f2];exact cX (b7.ext hw) _ (by omega)) ?_
   refine dX JL JL (bu ?_)
   intro w8 hx8
   rintro _ rfl _ rfl _ rfl _ rfl _ rfl
   refine ac JL JL (ag (ab ?_))
   have b12:=b7.ext hx8
   refine bm 29 [0,2,5,90,91] (by kernel_rfl) (by kernel_rfl) ?_
   refine ao JL JL (ao JL JL ?_)
   refine aO (r:=I (((bt b k).length-16:Nat):Int)) JL JL JL (fun w _=>by rw[←e16];exact aY (by omega) (by omega)) ?_
   refine ay JL JL JL (fun w _=>fZ _ (by omega)) ?_
   refine aD (r:=bp ((bt b k).getD ((bt b k).length-16) 0)) JL JL (fun w' hw=>by rw[←f16];exact cX (b12.ext hw) _ (by omega)) ?_
   refine ao JL JL ?_
   refine bW (S:=Is (bp (gK _ 7))) eD (bo.is _) JL (fun w' _=>by
    rintro _ rfl _ rfl
    exact bD.mono (eE 7 (by omega) (by omega)) fun v w'' h=>⟨h.1,h.2⟩) ?_
   refine ao JL JL ?_
   refine bW (S:=Is (bp (gK _ 18))) eD (bo.is _) JL (fun w' _=>by
    rintro _ rfl _ rfl
    exact bD.mono (eE 18 (by omega) (by omega)) fun v w'' h=>⟨h.1,h.2⟩) ?_
   refine aO JL JL JL (fun w _=>cy) ?_
   refine ao JL JL ?_
   refine aO JL JL JL (fun w _=>cA 3 (by omega)) ?_
   refine aO JL JL JL (fun w _=>cy) ?_
   refine aO JL JL JL (fun w _=>cu) ?_
   refine ao JL JL ?_
   refine aO (r:=I (((bt b k).length-7:Nat):Int)) JL JL JL (fun w _=>by rw[←e7];exact aY (by omega) (by omega)) ?_
   refine ay JL JL JL (fun w _=>fZ _ (by omega)) ?_
   refine aD (r:=bp ((bt b k).getD ((bt b k).length-7) 0)) JL JL (fun w' hw=>by rw[←f7];exact cX (b12.ext hw) _ (by omega)) ?_
   refine aO JL JL JL (fun w _=>cu) ?_
   refine ao JL JL ?_
   refine bW (S:=Is (bp (gK _ 17))) eD (bo.is _) JL (fun w' _=>by
    rintro _ rfl _ rfl
    exact bD.mono (eE 17 (by omega) (by omega)) fun v w'' h=>⟨h.1,h.2⟩) ?_
   refine ao JL JL ?_
   refine bW (S:=Is (bp (gK _ 19))) eD (bo.is _) JL (fun w' _=>by
    rintro _ rfl _ rfl
    exact bD.mono (eE 19 (by omega) (by omega)) fun v w'' h=>⟨h.1,h.2⟩) ?_
   refine aO JL JL JL (fun w _=>cy) ?_
   refine ao JL JL ?_
   refine aO JL JL JL (fun w _=>cA 10 (by omega)) ?_
   refine aO JL JL JL (fun w _=>cy) ?_
   refine aO JL JL JL (fun w _=>cu) ?_
   refine ay JL JL JL (fun w _=>fZ (16+k) (by omega)) ?_
   refine bu ?_
   intro w13 hx13
   rintro _ rfl _ rfl _ rfl _ rfl _ rfl
   refine aC JL JL (yl (x:=lU (bt b k)) (b12.ext hx13) (16+k) (by omega)) ?_
   have b13:=(b12.ext hx13).setU (16+k) (lU (bt b k))
   have q13:=((q7.trans (dR hx8)).trans (dR hx13)).trans (bb w13 g2 (16+k) (bp (lU (bt b k))))
   have hset:(db (bt b k)).set (16+k) (lU (bt b k))=db (bt b (k+1)):=by
    have:=lm (l:=bt b k) (lU (bt b k)) (by omega)
    rw[hL] at this
    exact this
   rw[hset] at b13
   refine ag (aM (ab (aa (ae JL JL ?_))))
   refine aj JL JL JL (aE (by omega) (by omega)) ?_
   refine ac JL JL (ag ?_)
   exact bN (k+1) ⟨rfl,rfl,rfl,trivial⟩ ⟨q13,b13,by omega⟩ (by omega)
  ·have hk':k=48:=by omega
   subst hk'
   have hf:db (bt b 48)=bt b 48:=by
    unfold db
    rw[hL]
    exact List.append_nil _
   rw[hf] at b7
   exact aX (aA (aA (aV (cr () ⟨rfl,rfl,trivial⟩ ⟨q7,b7⟩))))
 clear q7 b7
 rintro _ w7 ⟨q7,b7⟩
 have hc7:=hc1.other q7 neg
 refine ab (af (aa (ae JL JL ?_)))
 refine aZ JL JL ?_
 refine ah JL JL GI ?_
 refine ak JL JL hc7.ldS ?_
 have hlen8:(Tryz.prog.info? 112).map (·.size)=some (s.map bp).length:=by rw[List.length_map,hs];exact mb
 obtain⟨g8,w8,hr,n8,x8,b8⟩:=bc (P:=Tryz.prog) (w:=w7) (l:=(List.replicate 8 0).map bp) Bh rfl
 refine bf JL hr ?_
 refine aC JL JL (gO b8 (by simp[hs]) hlen8 (jh _)) ?_
 have b8':=b8.row (s.map bp)
 have q8:=bg w8 g8 (s.map bp).toArray
 have l28:g2<g8:=Nat.lt_of_lt_of_le b7.lt n8
 have lg7:=hc7.lt
 have ne28:some g2≠some g8:=fun h=>by cases h;omega
 have neg8:some g≠some g8:=fun h=>by cases h;omega
 have D2:=(b7.ext x8).other q8 ne28
 have hc8:=(hc7.ext x8).other q8 neg8
 have Q8:w.grownBy (w8.setRow g8 (s.map bp).toArray) (some g):=by
  have h1:aG w w7:=x1.of_new q7 n2
  exact dR ((h1.trans x8).of_new q8 (by have:=h1.size;omega))
 revert b8' D2 hc8 Q8
 generalize w8.setRow g8 (s.map bp).toArray=w9
 intro b9 D2 hc9 Q9
 refine ag (ab ?_)
 refine af (eK (fun _:Unit=>[(0,.pointer (some ⟨g,0,none⟩)),(8,.pointer (some ⟨g8,0,none⟩))]) (fun _ w'=>w9.grownBy w' (some g8)∧cl g8 112 ((dH b s 64).map bp) w') ?_ ?_)
 ·refine af (aa ?_)
  refine am (vs:=[]) sJ JL JL (sK w9) ?_
  rintro _ w10 ⟨x10,rfl⟩
  refine ae JL JL (ag (ab (av ?_)))
  refine ck (α:=Nat) (fun i=>[(0,.pointer (some ⟨g,0,none⟩)),(2,.pointer (some ⟨g2,0,none⟩)),(8,.pointer (some ⟨g8,0,none⟩)),(96,.agg (kc.map bp).toArray),(97,I (i:Int))])
   (fun i w'=>w9.grownBy w' (some g8)∧cl g8 112 ((dH b s i).map bp) w'∧i≤64) (fun i=>64-i) 0 ⟨rfl,rfl,rfl,rfl,rfl,trivial⟩
   ⟨dR x10,b9.ext x10,by omega⟩ ?_
  clear x10 w10
  rintro i w10 ⟨q10,b10,hi⟩
  have hv8:=fW b s hs i
  refine af (aa ?_)
  refine aj JL JL JL (aS) ?_
  refine ag (ab (af ?_))
  refine ba JL (fun h=>?_) (fun h=>?_)
  ·have hi64:i<64:=by omega
   have hkc:kc.length=64:=rfl
   have hsl:(bt b 48).length=64:=j7 b 48
   refine ar (ab (af (av (af (aa (ae JL JL ?_))))))
   refine kz JL JL JL (DL (l:=kc.map bp) JK dO Jf hi64 .i64 (sR (by omega))) ?_
   refine ac JL JL (ac JL JL (ag (ab (af ?_))))
   have V:=b10
   have K6:=D2.other q10 ne28
   refine bm 5 [0,2,8,9,10,11,96,97,104] (by kernel_rfl) (by kernel_rfl) ?_
   refine ay JL JL JL (fun w _=>dz 0 (by omega)) ?_
   refine aD JL JL (fun w' hw=>cX (V.ext hw) 0 (by omega)) ?_
   refine ay JL JL JL (fun w _=>dz 4 (by omega)) ?_
   refine aD JL JL (fun w' hw=>cX (V.ext hw) 4 (by omega)) ?_
   refine dX JL JL (bu ?_)
   intro w11 hx11
   rintro _ rfl _ rfl _ rfl _ rfl _ rfl _ rfl _ rfl _ rfl _ rfl
   refine ac JL JL (ag (ab (af ?_)))
   replace V:=V.ext hx11
   replace K6:=K6.ext hx11
   refine bm 28 [0,2,8,11,96,97,132] (by kernel_rfl) (by kernel_rfl) ?_
   refine ay JL JL JL (fun w _=>dz 7 (by omega)) ?_
   refine aD JL JL (fun w' hw=>cX (V.ext hw) 7 (by omega)) ?_
   refine ao JL JL ?_
   refine bW (S:=Is (bp (gK _ 6))) eD (bo.is _) JL (fun w' _=>by
    rintro _ rfl _ rfl
    exact bD.mono (eE 6 (by omega) (by omega)) fun v w'' h=>⟨h.1,h.2⟩) ?_
   refine ao JL JL ?_
   refine bW (S:=Is (bp (gK _ 11))) eD (bo.is _) JL (fun w' _=>by
    rintro _ rfl _ rfl
    exact bD.mono (eE 11 (by omega) (by omega)) fun v w'' h=>⟨h.1,h.2⟩) ?_
   refine aO JL JL JL (fun w _=>cy) ?_
   refine ao JL JL ?_
   refine bW (S:=Is (bp (gK _ 25))) eD (bo.is _) JL (fun w' _=>by
    rintro _ rfl _ rfl
    exact bD.mono (eE 25 (by omega) (by omega)) fun v w'' h=>⟨h.1,h.2⟩) ?_
   refine aO JL JL JL (fun w _=>cy) ?_
   refine aO JL JL JL (fun w _=>cu) ?_
   refine ao JL JL ?_
   refine ay JL JL JL (fun w _=>dz 5 (by omega)) ?_
   refine aD JL JL (fun w' hw=>cX (V.ext hw) 5 (by omega)) ?_
   refine aO JL JL JL (fun w _=>eN) ?_
   refine ao JL JL ?_
   refine G8 JL JL (fun w _=>pV) ?_
   refine ay JL JL JL (fun w _=>dz 6 (by omega)) ?_
   refine aD JL JL (fun w' hw=>cX (V.ext hw) 6 (by omega)) ?_
   refine aO JL JL JL (fun w _=>eN) ?_
   refine aO JL JL JL (fun w _=>cy) ?_
   refine aO JL JL JL (fun w _=>cu) ?_
   refine ao JL JL ?_
   refine aO JL JL JL (fun w _=>cu) ?_
   refine ao JL JL ?_
   refine ay JL JL JL (fun w _=>fZ i (by omega)) ?_
   refine aD JL JL (fun w' hw=>cX (K6.ext hw) i (by omega)) ?_
   refine aO JL JL JL (fun w _=>cu) ?_
   refine bu ?_
   intro w12 hx12
   rintro _ rfl _ rfl _ rfl _ rfl _ rfl _ rfl _ rfl
   refine ac JL JL (ag (ab (af ?_)))
   replace V:=V.ext hx12
   refine bm 24 [0,2,8,13,96,97,156] (by kernel_rfl) (by kernel_rfl) ?_
   refine ao JL JL ?_
   refine bW (S:=Is (bp (gK _ 2))) eD (bo.is _) JL (fun w' _=>by
    rintro _ rfl _ rfl
    exact bD.mono (eE 2 (by omega) (by omega)) fun v w'' h=>⟨h.1,h.2⟩) ?_
   refine ao JL JL ?_
   refine bW (S:=Is (bp (gK _ 13))) eD (bo.is _) JL (fun w' _=>by
    rintro _ rfl _ rfl
    exact bD.mono (eE 13 (by omega) (by omega)) fun v w'' h=>⟨h.1,h.2⟩) ?_
   refine aO JL JL JL (fun w _=>cy) ?_
   refine ao JL JL ?_
   refine bW (S:=Is (bp (gK _ 22))) eD (bo.is _) JL (fun w' _=>by
    rintro _ rfl _ rfl
    exact bD.mono (eE 22 (by omega) (by omega)) fun v w'' h=>⟨h.1,h.2⟩) ?_
   refine aO JL JL JL (fun w _=>cy) ?_
   refine ao JL JL ?_
   refine ay JL JL JL (fun w _=>dz 1 (by omega)) ?_
   refine aD JL JL (fun w' hw=>cX (V.ext hw) 1 (by omega)) ?_
   refine aO JL JL JL (fun w _=>eN) ?_
   refine ao JL JL ?_
   refine ay JL JL JL (fun w _=>dz 2 (by omega)) ?_
   refine aD JL JL (fun w' hw=>cX (V.ext hw) 2 (by omega)) ?_
   refine aO JL JL JL (fun w _=>eN) ?_
   refine aO JL JL JL (fun w _=>cy) ?_
   refine ay JL JL JL (fun w _=>dz 1 (by omega)) ?_
   refine aD JL JL (fun w' hw=>cX (V.ext hw) 1 (by omega)) ?_
   refine ay JL JL JL (fun w _=>dz 2 (by omega)) ?_
   refine aD JL JL (fun w' hw=>cX (V.ext hw) 2 (by omega)) ?_
   refine aO JL JL JL (fun w _=>eN) ?_
   refine aO JL JL JL (fun w _=>cy) ?_
   refine aO JL JL JL (fun w _=>cu) ?_
   refine bu ?_
   intro w13 hx13
   rintro _ rfl _ rfl _ rfl _ rfl _ rfl _ rfl _ rfl
   refine ac JL JL (ag (ab (aa (ae JL JL (ae JL JL ?_)))))
   replace V:=V.ext hx13
   refine aj JL JL JL (cu) ?_
   refine ap JL JL JL (dz 0 (by omega)) ?_
   refine ak JL JL (cX V 0 (by omega)) ?_
   refine ap JL JL JL (dz 1 (by omega)) ?_
   refine ak JL JL (cX V 1 (by omega)) ?_
   refine ap JL JL JL (dz 2 (by omega)) ?_
   refine ak JL JL (cX V 2 (by omega)) ?_
   refine ap JL JL JL (dz 3 (by omega)) ?_
   refine ak JL JL (cX V 3 (by omega)) ?_
   refine ae JL JL ?_
   refine aj JL JL JL (cu) ?_
   refine ap JL JL JL (dz 4 (by omega)) ?_
   refine ak JL JL (cX V 4 (by omega)) ?_
   refine ap JL JL JL (dz 5 (by omega)) ?_
   refine ak JL JL (cX V 5 (by omega)) ?_
   refine ap JL JL JL (dz 6 (by omega)) ?_
   refine ak JL JL (cX V 6 (by omega)) ?_
   refine bI JL JL (run_build _ _ _ ((dH b s (i+1)).map bp).toArray (by kernel_rfl)) ?_
   have hn8:=fW b s hs (i+1)
   refine aC JL JL (gO V (by simp[hv8,hn8]) (by rw[List.length_map,hn8];exact mb) (jh _)) ?_
   have V':=V.row ((dH b s (i+1)).map bp)
   have q14:=(q10.trans (dR ((hx11.trans hx12).trans hx13))).trans (bg w13 g8 ((dH b s (i+1)).map bp).toArray)
   refine ag (aM (ab (aa ?_)))
   refine aj JL JL JL (aE (by omega) (by omega)) ?_
   refine ae JL JL (ag ?_)
   exact bN (i+1) ⟨rfl,rfl,rfl,rfl,rfl,trivial⟩ ⟨q14,V',by omega⟩ (by omega)
  ·have hi':i=64:=by omega
   subst hi'
   exact aX (aA (aA (aV (cr () ⟨rfl,rfl,trivial⟩ ⟨q10,b10⟩))))
 rintro _ w10 ⟨q10,b10⟩
 refine ab ?_
 have hv8:=fW b s hs 64
 have hc10:=hc9.other q10 neg8
 have ha0:iH s (dH b s 64) 0=s:=by simp[iH]
 refine af (eK (fun _:Unit=>[(0,.pointer (some ⟨g,0,none⟩))]) (fun _ w'=>w10.grownBy w' (some g)∧HC g (iH s (dH b s 64) 8) b u tot w') ?_ ?_)
 ·refine af (aa ?_)
  refine ak JL JL (lH (m:=(dH b s 64).map bp) b10 (fun j v h=>by rwa [Nat.zero_add]) JD JL (by rw[List.length_map,hv8];exact mb)) ?_
  refine ae JL JL (ag (ab (av ?_)))
  refine ck (α:=Nat) (fun i=>[(0,.pointer (some ⟨g,0,none⟩)),(178,.agg ((dH b s 64).map bp).toArray),(179,I (i:Int))])
   (fun i w'=>w10.grownBy w' (some g)∧HC g (iH s (dH b s 64) i) b u tot w'∧i≤8) (fun i=>8-i) 0 ⟨rfl,rfl,rfl,trivial⟩
   ⟨dR (aG.refl _),by rw[ha0];exact hc10,by omega⟩ ?_
  rintro i w11 ⟨q11,c11,hi⟩
  refine af (aa ?_)
  refine aj JL JL JL (aS) ?_
  refine ag (ab (af ?_))
  refine ba JL (fun h=>?_) (fun h=>?_)
  ·have hi8:i<8:=by omega
   have hag:=um hs hv8 hi8
   refine ar (ab (af (av (af (aa (ae JL JL ?_))))))
   refine kz JL JL JL (DL (l:=(dH b s 64).map bp) JD dO Jf hi8 .i64 (sR (by omega))) ?_
   refine ac JL JL (ac JL JL (ag (ab ?_)))
   refine bm 11 [0,178,179,190,193] (by kernel_rfl) (by kernel_rfl) ?_
   refine ao JL JL (ao JL JL ?_)
   refine cp JL JL ?_
   refine aF JL JL (fun w _=>GI) ?_
   refine ay JL JL JL (fun w _=>dz i (by omega)) ?_
   refine aD (r:=bp (s.getD i 0)) JL JL (fun w' hw=>by rw[←hag];exact ai Jf JL ((c11.ext hw).cellS hi8)) ?_
   refine ao JL JL ?_
   refine aO JL JL JL (fun w _=>cu) ?_
   refine cp JL JL ?_
   refine aF JL JL (fun w _=>GI) ?_
   refine ay JL JL JL (fun w _=>dz i (by omega)) ?_
   refine bu ?_
   intro w12 hx12
   rintro _ rfl _ rfl _ rfl _ rfl _ rfl
   have hcl:=f4 (u:=u) (tot:=tot) c11.ls c11.lb
   refine aC JL JL (dY dO JL (c11.ext hx12).hb (by rw[List.size_toArray,hcl];omega)) ?_
   have c12:=(c11.ext hx12).setS i hi8 (s.getD i 0+(dH b s 64).getD i 0)
   rw[uo hs hv8 hi8] at c12
   have q12:=(q11.trans (dR hx12)).trans (bb w12 g i (bp (s.getD i 0+(dH b s 64).getD i 0)))
   refine ag (aM (ab (aa ?_)))
   refine aj JL JL JL (aE (by omega) (by omega)) ?_
   refine ae JL JL (ag ?_)
   exact bN (i+1) ⟨rfl,rfl,rfl,trivial⟩ ⟨q12,c12,by omega⟩ (by omega)
  ·have hi':i=8:=by omega
   subst hi'
   exact aX (aA (aA (aV (cr () ⟨rfl,trivial⟩ ⟨q11,c11⟩))))
 rintro _ w11 ⟨q11,c11⟩
 rw[uq hs hv8] at c11
 have hcl:=f4 (u:=u) (tot:=tot) c11.ls c11.lb
 refine ab (aa (ae JL JL ?_))
 refine aZ JL JL ?_
 refine ah JL JL CS ?_
 refine aC JL JL (dY (i:=72) fj JL c11.hb (by rw[List.size_toArray,hcl];omega)) ?_
 have c12:=c11.setU 0
 refine ag ?_
 refine fP JL ?_
 refine⟨_,rfl,?_,c12⟩
 have Q10:w.grownBy w10 (some g):=by
  have h:w.grownBy w9 (some g):=Q9
  refine⟨q10.os.trans h.os,q10.tape.trans h.tape,q10.output.trans h.output,Nat.le_trans h.size q10.size,fun k hk hne=>?_⟩
  exact(q10.block k (Nat.lt_of_lt_of_le hk h.size) (fun he=>by cases he;omega)).trans (h.block k hk hne)
 exact(Q10.trans q11).trans (bb w11 g 72 (I 0))
end Go.Rl
namespace Go.Rl
open Go.RowKit Go.Proofs
def HA (g:Nat) (m:List UInt8) (tot:UInt64) (w:World):Prop:=∃blk,HC g (sh m) blk ((m.length%64:Nat):Int) tot w∧blk.take (m.length%64)=m.drop (64*(m.length/64))
theorem HA.ext {g:Nat} {m:List UInt8} {tot:UInt64} {w w':World} (h:HA g m tot w) (hx:aG w w'):HA g m tot w':=by
 obtain⟨blk,h1,h2⟩:=h
 exact⟨blk,h1.ext hx,h2⟩
theorem HA.other {g:Nat} {m:List UInt8} {tot:UInt64} {w w':World} {row:Option Nat} (h:HA g m tot w) (hg:w.grownBy w' row) (hne:some g≠row):HA g m tot w':=by
 obtain⟨blk,h1,h2⟩:=h
 exact⟨blk,h1.other hg hne,h2⟩
theorem HA.lt {g:Nat} {m:List UInt8} {tot:UInt64} {w:World} (h:HA g m tot w):g<w.heap.size:=by
 obtain⟨blk,h1,h2⟩:=h
 exact h1.lt
theorem GJ (m y:List UInt8) (h:m.length%64+y.length<64):sh (m++y)=sh m:=by
 have hm:m=m.take (64*(m.length/64))++m.drop (64*(m.length/64)):=(List.take_append_drop _ _).symm
 have hl:(m.take (64*(m.length/64))).length=64*(m.length/64):=by simp;omega
 have hd:(m.drop (64*(m.length/64))).length=m.length%64:=by simp;omega
 rw[hm,List.append_assoc,vj _ _ (by omega) (by rw[List.length_append,hd];exact h),vj _ _ (by omega) (by omega)]
theorem GK (m y:List UInt8) (h:m.length%64+y.length=64):sh (m++y)=tt (sh m) (m.drop (64*(m.length/64))++y):=by
 have hm:m=m.take (64*(m.length/64))++m.drop (64*(m.length/64)):=(List.take_append_drop _ _).symm
 have hl:(m.take (64*(m.length/64))).length=64*(m.length/64):=by simp;omega
 have hd:(m.drop (64*(m.length/64))).length=m.length%64:=by simp;omega
 have e1:sh (m++y)=sh (m.take (64*(m.length/64))++(m.drop (64*(m.length/64))++y)):=by
  rw[←List.append_assoc,List.take_append_drop]
 have e2:sh m=sh (m.take (64*(m.length/64))):=by
  conv=>lhs;rw[hm]
  exact vj _ _ (by omega) (by omega)
 rw[e1,e2,Ew _ _ (by omega) (by rw[List.length_append,hd];exact h)]
def z6 (g:Nat) (v:Value):Prop:=∀a n c,v=.slice (some a) n c→a.block≠g
theorem ci.away {l:List UInt8} {v:Value} {g:Nat} {w w':World} (h:ci l v w) (ha:0<l.length→z6 g v) (hg:w.grownBy w' (some g)):ci l v w':=by
 obtain⟨A,n,c,rfl,h1,h2,h3,h4,h5⟩:=h
 refine⟨A,n,c,rfl,h1,h2,h3,fun hn=>?_,h5⟩
 obtain⟨ad,rfl,hc⟩:=h4 hn
 have hlen:0<l.length:=by
  have:l.length=n:=by simpa using h3
  omega
 refine⟨ad,rfl,fun j u hu=>?_⟩
 have hb:(ad.add j).block=ad.block:=by unfold Addr.add;split<;>rfl
 exact hg.cell (hc j u hu) (by rw[hb];intro he;exact ha hlen ad n c rfl (Option.some.inj he))
theorem z7 {l:List UInt8} {v:Value} {g:Nat} {w:World} (h:ci l v w) {lo:Nat} (hlo:lo≤l.length) (ha:z6 g v):
 ∃r,(∀w':World,(Instr.sliceAt 28 v (some (I (lo:Int))) none none).run Tryz.prog w'=.ok r w')∧ci (l.drop lo) r w∧z6 g r:=by
 obtain⟨r,hr,hb⟩:=iB h hlo .i64
 refine⟨r,hr,hb,?_⟩
 obtain⟨A,n,c,rfl,h1,h2,h3,h4,h5⟩:=h
 have hln:lo≤n:=by
  have:l.length=n:=by simpa using h3
  omega
 have hbd:(Instr.sliceBounds true n c (some (.int .i64 (lo:Int))) none none).run Tryz.prog w=.ok (lo,n,c) w:=by
  have a2:=run_sliceBound (P:=Tryz.prog) (w:=w) .i64 (lo:Int) n .sliceB (by omega) (by omega)
  simp only[Int.toNat_natCast] at a2
  simp[Instr.sliceBounds,a2]
 have hrun:(Instr.sliceAt 28 (.slice A n c) (some (.int .i64 (lo:Int))) none none).run Tryz.prog w=.ok (.slice (if c=lo then A else A.map (·.add (lo*1))) (n-lo) (c-lo)) w:=by
  simp[Instr.sliceAt,Instr.slice,run_underlying Tryz.underlying28,hbd,dP fa]
 have e:=(hr w).symm.trans hrun
 simp only[Result.ok.injEq,and_true] at e
 subst e
 intro a n' c' he
 simp only[Value.slice.injEq] at he
 obtain⟨he,_,_⟩:=he
 split at he
 ·exact ha a n c (by rw[he])
 ·obtain⟨a0,h0,rfl⟩:=Option.map_eq_some_iff.1 he
  have:(a0.add (lo*1)).block=a0.block:=by unfold Addr.add;split<;>rfl
  rw[this]
  exact ha a0 n c (by rw[h0])
theorem GL {g:Nat} {st:List UInt32} {blk x:List UInt8} {u:Int} {tot:UInt64} {w:World} {v:Value} {ty:TypeId} {o:Nat} (h:HC g st blk u tot w) (ho:o<64) (hx:ci x v w) (hne:0<x.length):
 ∃w',(Builtin.copy_ #[28,28] ty #[.slice (some ⟨g,8+o,none⟩) (64-o) (64-o),v]).run Tryz.prog w=.ok (I ((min x.length (64-o):Nat):Int)) w'∧w.grownBy w' (some g)∧
  HC g st (blk.take o++x.take (64-o)++blk.drop (o+min x.length (64-o))) u tot w':=by
 obtain⟨A,n,c,rfl,h1,h2,h3,h4,h5⟩:=hx
 have hxn:x.length=n:=by simpa using h3
 obtain⟨ad,rfl,hc⟩:=h4 (by omega)
 have hcs:((x.take (64-o)).map U8).length=min n (64-o):=by simp[hxn,Nat.min_comm]
 have hr:=run_copy_row (P:=Tryz.prog) w 28 28 ty 5 g (8+o) (64-o) (64-o) ad n c _ 202 ((x.take (64-o)).map U8) Jl fa h.hb hcs
  (fun j u hj=>hc j u (by
    rw[List.map_take,List.getElem?_take] at hj
    split at hj
    ·exact hj
    ·cases hj)) (by rw[hcs,List.size_toArray,f4 h.ls h.lb];omega) (oM _)
 rw[hcs] at hr
 refine⟨_,by rw[hxn];exact hr,bg _ _ _,?_,h.ls,?_⟩
 ·have:=h.hb.row (cP st (blk.take o++x.take (64-o)++blk.drop (o+min n (64-o))) u tot)
  rw[hxn]
  have e:((cP st blk u tot).toArray.toList.take (8+o)++(x.take (64-o)).map U8++(cP st blk u tot).toArray.toList.drop (8+o+min n (64-o)))=cP st (blk.take o++x.take (64-o)++blk.drop (o+min n (64-o))) u tot:=by
   have l8:(st.map bp).length=8:=by simp[h.ls]
   have l64:(blk.map U8).length=64:=by simp[h.lb]
   unfold cP
   rw[List.take_append,l8,List.drop_append,l8,show 8+o-8=o by omega,show 8+o+min n (64-o)-8=o+min n (64-o) by omega]
   rw[List.take_of_length_le (by omega),List.drop_eq_nil_of_le (by omega),List.nil_append]
   rw[List.take_append,l64,show o-64=0 by omega,List.take_zero,List.append_nil,List.drop_append,l64,show o+min n (64-o)-64=0 by omega,List.drop_zero]
   simp only[List.map_append,List.map_take,List.map_drop,List.append_assoc]
  rw[e]
  exact this
 ·simp only[List.length_append,List.length_take,List.length_drop,h.lb];omega
end Go.Rl
namespace Go.Rl
open Go.RowKit Go.Proofs
theorem ln:aw Tryz.prog 74:=⟨_,Tryz.func74,by kernel_rfl,rfl⟩
theorem CV:aw Tryz.prog 73:=⟨_,Tryz.func73,by kernel_rfl,rfl⟩
theorem lq {w:World} {g:Nat} {m x:List UInt8} {tot:UInt64} {v:Value} (hh:HA g m tot w) (hx:ci x v w) (ha:0<x.length→z6 g v):
 Calls Tryz.prog 74 #[.pointer (some ⟨g,0,none⟩),v] w (bD fun _ w'=>w.grownBy w' (some g)∧HA g (m++x) (tot+UInt64.ofNat x.length) w'):=by
 refine enter (vs:=[.pointer (some ⟨g,0,none⟩),v]) Tryz.func74 JL JL JL ?_
 refine af (af (aa (ae JL JL ?_)))
 refine aj JL JL JL (lN Tryz.underlying129) ?_
 refine ag (ab ?_)
 refine dI JL ?_
 refine ar (ab (af (aa (ae JL JL ?_))))
 obtain⟨blk0,hc0,ht0⟩:=hh
 refine aZ JL JL ?_
 refine ah JL JL H7 ?_
 refine ak JL JL (ai Ji JL hc0.cellT) ?_
 refine ae JL JL ?_
 refine aP JL JL (bP hx) ?_
 refine aQ JL JL (cZ Jh Ji) ?_
 refine aj JL JL JL (dK) ?_
 refine aZ JL JL ?_
 refine ah JL JL H7 ?_
 have hcl0:=f4 (u:=((m.length%64:Nat):Int)) (tot:=tot) hc0.ls hc0.lb
 refine aC JL JL (dY (i:=73) yp JL hc0.hb (by rw[List.size_toArray,hcl0];omega)) ?_
 have hc1:=hc0.setT (tot+UInt64.ofNat x.length)
 have q1:=bb w g 73 (bC (tot+UInt64.ofNat x.length))
 have hx1:=hx.away ha q1
 revert hc1 q1 hx1
 generalize w.setCell ⟨g,73,none⟩ (bC (tot+UInt64.ofNat x.length))=w1
 intro hc1 q1 hx1
 refine ag (ab (av ?_))
 refine ck (α:=Nat×Value) (fun p=>[(0,.pointer (some ⟨g,0,none⟩)),(1,p.2)])
  (fun p w'=>HA g (m++x.take p.1) (tot+UInt64.ofNat x.length) w'∧ci (x.drop p.1) p.2 w'∧(0<(x.drop p.1).length→z6 g p.2)∧w.grownBy w' (some g)∧p.1≤x.length) (fun p=>x.length-p.1) (0,v) ⟨rfl,rfl,trivial⟩
  ⟨by simpa using⟨blk0,hc1,ht0⟩,by simpa using hx1,by simpa using ha,q1,by simp⟩ ?_
 rintro⟨k,b⟩ w2 ⟨⟨blk,hc2,ht2⟩,hb2,ha2,q2,hk⟩
 dsimp only at hc2 ht2 hb2 ha2 q2 hk
 have hm':∃m',m'=m++x.take k:=⟨_,rfl⟩
 obtain⟨m',hm'⟩:=hm'
 rw[←hm'] at hc2 ht2
 refine af (af (aa (ae JL JL ?_)))
 refine aP JL JL (bP hb2) ?_
 refine aj JL JL JL (cg) ?_
 refine ag (ab ?_)
 refine ba JL (fun h=>?_) (fun h=>?_)
 ·have hlt:0<(x.drop k).length:=by omega
  have hu:m'.length%64<64:=Nat.mod_lt _ (by omega)
  refine ar (ab (av (af ?_)))
  refine bm 9 [0,1,27,28] (by kernel_rfl) (by kernel_rfl) ?_
  refine ao JL JL ?_
  refine cp JL JL ?_
  refine aF JL JL (fun w _=>IZ) ?_
  refine ao JL JL ?_
  refine cp JL JL ?_
  refine aF JL JL (fun w _=>CS) ?_
  refine aD JL JL (fun w' hw=>ai Jh JL (hc2.ext hw).cellU) ?_
  refine gx (a:=some (I ((m'.length%64:Nat):Int))) (b:=none) JL JL JL JL (fun w _=>Hs hu) ?_
  refine ao JL JL (bu ?_)
  intro w3 hx3
  rintro _ rfl _ rfl _ rfl _ rfl
  have hc3:=hc2.ext hx3
  obtain⟨w4,hr,q4,hc4⟩:=GL (ty:=3) hc3 hu (hb2.ext hx3) hlt
  obtain⟨n,hn⟩:∃n,n=min (x.drop k).length (64-m'.length%64):=⟨_,rfl⟩
  rw[←hn] at hr hc4
  have hxk:(x.drop k).length=x.length-k:=List.length_drop
  have hn1:n≤x.length-k:=by omega
  have hn2:m'.length%64+n≤64:=by omega
  have hn0:0<n:=by omega
  refine HB JL JL hr ?_
  refine ac JL JL (ag (ab (af (aa (ae JL JL ?_)))))
  refine aZ JL JL ?_
  refine ah JL JL CS ?_
  refine ak JL JL (ai Jh JL hc4.cellU) ?_
  refine ae JL JL ?_
  have e1:((m'.length%64:Nat):Int)+(n:Int)=((m'.length%64+n:Nat):Int):=by omega
  refine aj (r:=I ((m'.length%64+n:Nat):Int)) JL JL JL (by rw[←e1];exact aE (by omega) (by omega)) ?_
  refine aZ JL JL ?_
  refine ah JL JL CS ?_
  have hcl4:=f4 (u:=((m'.length%64:Nat):Int)) (tot:=tot+UInt64.ofNat x.length) hc4.ls hc4.lb
  refine aC JL JL (dY (i:=72) fj JL hc4.hb (by rw[List.size_toArray,hcl4];omega)) ?_
  have hc5:=hc4.setU ((m'.length%64+n:Nat):Int)
  have q5:=q4.trans (bb w4 g 72 (I ((m'.length%64+n:Nat):Int)))
  revert hc5 q5
  generalize w4.setCell ⟨g,72,none⟩ (I ((m'.length%64+n:Nat):Int))=w5
  intro hc5 q5
  have hb5:=(hb2.ext hx3).away ha2 q5
  have q25:=(q2.trans (dR hx3)).trans q5
  refine ag (ab (af (aa (ae JL JL (ae JL JL ?_)))))
  obtain⟨b6,hr6,hb6,ha6⟩:=z7 hb5 (lo:=n) (by omega) (ha2 hlt)
  rw[List.drop_drop] at hb6
  refine cY (a:=some (I (n:Int))) (b:=none) JL JL JL JL JL (hr6 _) ?_
  refine ac JL JL (ag (ab (af (aa (ae JL JL ?_)))))
  refine aZ JL JL ?_
  refine ah JL JL CS ?_
  refine ak JL JL (ai Jh JL hc5.cellU) ?_
  refine aj JL JL JL (bA) ?_
  refine ag (ab ?_)
  have hyl:((x.drop k).take (64-m'.length%64)).length=n:=by rw[List.length_take,hn,Nat.min_comm]
  have hyn:(x.drop k).take (64-m'.length%64)=(x.drop k).take n:=by
   rw[hn]
   rcases Nat.le_total (x.drop k).length (64-m'.length%64) with h1|h1
   ·rw[Nat.min_eq_left h1,List.take_of_length_le h1,List.take_length]
   ·rw[Nat.min_eq_right h1]
  have hmy:m++x.take (k+n)=m'++(x.drop k).take (64-m'.length%64):=by
   rw[hyn,hm',List.append_assoc,←List.take_add]
  obtain⟨y,hy⟩:∃y,y=(x.drop k).take (64-m'.length%64):=⟨_,rfl⟩
  rw[←hy] at hc5 hyl hmy
  have hmd:(m'.drop (64*(m'.length/64))).length=m'.length%64:=by rw[List.length_drop];omega
  have hml:(m'++y).length=m'.length+n:=by rw[List.length_append,hyl]
  refine ba JL (fun h=>?_) (fun h=>?_)
  ·have hfull:m'.length%64+n=64:=by omega
   refine aa (ae JL JL ?_)
   refine am wh JL JL (wi hc5) ?_
   rintro _ w6 ⟨q6,hc6⟩
   refine ag (aM ?_)
   refine bN (k+n,b6) ⟨rfl,rfl,trivial⟩ ⟨?_,hb6.away (fun _=>ha6) q6,fun _=>ha6,q25.trans q6,by show k+n≤x.length;omega⟩ (by show x.length-(k+n)<x.length-k;omega)
   show HA g (m++x.take (k+n)) _ w6
   rw[hmy]
   have e0:(m'++y).length%64=0:=by rw[hml];omega
   have hd0:blk.drop (m'.length%64+n)=[]:=List.drop_eq_nil_of_le (by rw[hc2.lb];omega)
   rw[hd0,List.append_nil] at hc6
   have hdd:(m'++y).drop (64*((m'++y).length/64))=[]:=List.drop_eq_nil_of_le (by omega)
   refine⟨blk.take (m'.length%64)++y,?_,by rw[e0,hdd,List.take_zero]⟩
   rw[e0,GK m' y (by omega),←ht2]
   exact hc6
  ·have hpart:m'.length%64+n<64:=by omega
   refine ar (aM ?_)
   refine bN (k+n,b6) ⟨rfl,rfl,trivial⟩ ⟨?_,hb6,fun _=>ha6,q25,by show k+n≤x.length;omega⟩ (by show x.length-(k+n)<x.length-k;omega)
   show HA g (m++x.take (k+n)) _ w5
   rw[hmy]
   have e0:(m'++y).length%64=m'.length%64+n:=by rw[hml];omega
   have e2:(m'++y).length/64=m'.length/64:=by rw[hml];omega
   refine⟨_,by rw[e0,GJ m' y (by omega)];exact hc5,?_⟩
   rw[e0,e2,List.drop_append_of_le_length (by omega),←ht2]
   rw[List.take_append_of_le_length (by rw[List.length_append,List.length_take,hc2.lb,hyl];omega)]
   exact List.take_of_length_le (by rw[List.length_append,List.length_take,hc2.lb,hyl];omega)
 ·have hk':k=x.length:=by
   have:(x.drop k).length=x.length-k:=List.length_drop
   omega
  refine aX (aA (aA (aV ?_)))
  refine fP JL ?_
  refine⟨_,rfl,q2,?_⟩
  rw[hk',List.take_length] at hm'
  rw[hm'] at hc2 ht2
  exact⟨blk,hc2,ht2⟩
theorem CW (w:World):Calls Tryz.prog 73 #[] w (bD fun r w'=>aG w w'∧∃g,w.heap.size≤g∧r=.pointer (some ⟨g,0,none⟩)∧HA g [] 0 w'):=by
 refine enter (vs:=[]) Tryz.func73 JL JL JL ?_
 refine af (aa (ac JL JL (ag (ab (af (aa ?_))))))
 refine bI JL JL (run_build _ _ _ (iv.map bp).toArray (by kernel_rfl)) ?_
 refine bI JL JL (run_build _ _ _ (cP iv (List.replicate 64 0) 0 0).toArray (by kernel_rfl)) ?_
 obtain⟨g,w1,hr,n1,x1,b1⟩:=Fw (P:=Tryz.prog) (w:=w) (t:=202) (v:=.agg (cP iv (List.replicate 64 0) 0 0).toArray) (l:=cP iv (List.replicate 64 0) 0 0) rfl
 refine cx JL JL hr ?_
 refine ac JL JL (ag (ab (au ?_)))
 refine az JL JL ?_
 exact⟨_,rfl,x1,g,n1,rfl,List.replicate 64 0,⟨b1,rfl,by simp⟩,rfl⟩
theorem HC.ldH {g:Nat} {st:List UInt32} {blk:List UInt8} {u:Int} {tot:UInt64} {w:World} (h:HC g st blk u tot w):(Instr.loadAt 202 (.pointer (some ⟨g,0,none⟩))).run Tryz.prog w=.ok (.agg (cP st blk u tot).toArray) w:=
 lH (m:=cP st blk u tot) h.hb (fun j v hj=>by rwa [Nat.zero_add]) JH rfl (by rw[f4 h.ls h.lb];exact uw)
theorem I0 {st:List UInt32} {blk:List UInt8} {u:Int} {tot:UInt64}:∀v∈cP st blk u tot,v.oneCell'=true:=by
 intro v hv
 unfold cP at hv
 rcases List.mem_append.1 hv with h|h
 ·exact jh _ v h
 ·rcases List.mem_append.1 h with h|h
  ·exact oM _ v h
  ·simp only[List.mem_cons,List.not_mem_nil,or_false] at h
   rcases h with rfl|rfl<;>rfl
end Go.Rl
namespace Go.Rl
open Go.RowKit Go.Proofs
theorem CX:aw Tryz.prog 76:=⟨_,Tryz.func76,by kernel_rfl,rfl⟩
theorem H8:(Tryz.prog.info? 203).map (·.zero)=some (some (.agg (List.replicate 8 (U8 0)).toArray)):=by kernel_rfl
theorem yq {g k:Nat} {v:Value} (h:v.ownBlock=some k) (hne:k≠g):z6 g v:=by
 rintro a n c rfl
 intro he
 have:some a.block=some k:=h
 exact hne (by rw[←Option.some.inj this];exact he)
theorem GM (n:UInt64) {i:Nat} (hi:i<8):(xJ n).getD i 0=(n>>>UInt64.ofNat (56-8*i)).toUInt8:=by
 simp[xJ,hi]
section
variable {w:World} {g o:Nat} {T:TypeId}
theorem H9 (i:Nat) (hi:i<8):(Instr.indexAt 203 (.pointer (some ⟨g,0,none⟩)) (I (i:Int))).run Tryz.prog w=.ok (.pointer (some ⟨g,i,none⟩)) w:=by
 have:=tJ (P:=Tryz.prog) (w:=w) (g:=g) (o:=0) Tryz.underlying203 fa hi .i64
 rwa [Nat.zero_add] at this
theorem Ia:(Instr.sliceAt 203 (.pointer (some ⟨g,0,none⟩)) none none none).run Tryz.prog w=.ok (.slice (some ⟨g,0,none⟩) 8 8) w:=by
 simp[Instr.sliceAt,run_underlying Tryz.underlying203,Instr.sureAddr,Instr.sliceBounds,dP fa,Addr.add_mid]
theorem cl.bts {m:List UInt8} (h:cl g T (m.map U8) w) (hm:m.length≤64):ci m (.slice (some ⟨g,0,none⟩) m.length m.length) w:=
 ⟨_,_,_,rfl,Nat.le_refl _,by unfold maxLen;omega,by simp,fun _=>⟨_,rfl,fun j v hj=>by rw[Addr.add_mid,Nat.zero_add];exact h.cell hj⟩,fun h=>by cases h⟩
end
theorem CY {w:World} {g:Nat} {m:List UInt8} (hh:HA g m (UInt64.ofNat m.length) w):
 Calls Tryz.prog 76 #[.pointer (some ⟨g,0,none⟩)] w (bD fun r w'=>aG w w'∧r=.agg ((iL m).map U8).toArray):=by
 obtain⟨blk,hc,ht⟩:=hh
 refine enter (vs:=[.pointer (some ⟨g,0,none⟩)]) Tryz.func76 JL JL JL ?_
 obtain⟨g2,w1,hr,n2,x1,b2⟩:=bc (P:=Tryz.prog) (w:=w) (l:=(List.replicate 32 0).map U8) mc rfl
 refine af (aa (bf JL hr (ag (ab (af (af (aa (ae JL JL ?_))))))))
 refine aj JL JL JL (lN Tryz.underlying129) ?_
 refine ag (ab ?_)
 refine dI JL ?_
 refine ar (ab (af (aa (ae JL JL ?_))))
 refine aZ JL JL ?_
 refine ak JL JL (hc.ext x1).ldH ?_
 obtain⟨g3,w2,hr,n3,x2,b3⟩:=bc (P:=Tryz.prog) (w:=w1) (l:=cP (List.replicate 8 0) (List.replicate 64 0) 0 0) CR rfl
 refine bf JL hr ?_
 have hl:=f4 (u:=((m.length%64:Nat):Int)) (tot:=UInt64.ofNat m.length) hc.ls hc.lb
 refine aC JL JL (gO b3 (by rw[hl];rfl) (by rw[hl];exact uw) I0) ?_
 have hA:HA g3 m (UInt64.ofNat m.length) (w2.setRow g3 (cP (sh m) blk ((m.length%64:Nat):Int) (UInt64.ofNat m.length)).toArray):=⟨blk,⟨b3.row _,hc.ls,hc.lb⟩,ht⟩
 have q3:=bg w2 g3 (cP (sh m) blk ((m.length%64:Nat):Int) (UInt64.ofNat m.length)).toArray
 have l23:g2<g3:=Nat.lt_of_lt_of_le b2.lt n3
 have ne23:some g2≠some g3:=fun h=>by cases h;omega
 have hw3:w.heap.size≤g3:=by omega
 have B2:=(b2.ext x2).other q3 ne23
 have E3:=(x1.trans x2).of_new q3 hw3
 revert hA B2 E3
 generalize w2.setRow g3 (cP (sh m) blk ((m.length%64:Nat):Int) (UInt64.ofNat m.length)).toArray=w3
 intro hA B2 E3
 refine ag (ab (af (aa ?_)))
 refine ah JL JL H7 ?_
 obtain⟨blk',hcA,htA⟩:=id hA
 refine ak JL JL (ai Ji JL hcA.cellT) ?_
 refine aj (v:=bC 8) JL JL JL (gU) ?_
 refine ac JL JL (ag (ab (af (aa ?_))))
 obtain⟨r4,w4,hr,x4,o4,ob4⟩:=dL (w:=w3) w3.heap.size [128] (by simp) (Nat.le_refl _)
 refine aJ (vs:=[(0,U8 128)]) JL JL hr ?_
 refine am ln JL JL (lq (hA.ext x4) o4.bts (fun _=>yq ob4 (by have:=hA.lt;omega))) ?_
 rintro _ w5 ⟨q5,h5⟩
 have B5:=(B2.ext x4).other q5 ne23
 have E5:=(E3.trans x4).of_new q5 hw3
 refine ag (ab ?_)
 have hp:fX m.length<64:=by unfold fX;omega
 refine af (eK (fun _:Unit=>[(2,.pointer (some ⟨g2,0,none⟩)),(3,.pointer (some ⟨g3,0,none⟩)),(4,bC (UInt64.ofNat m.length*8))]) (fun _ w'=>aG w w'∧cl g2 22 ((List.replicate 32 0).map U8) w'∧∃tot,HA g3 (m++[128]++List.replicate (fX m.length) 0) tot w') ?_ ?_)
 ·refine av ?_
  refine ck (α:=Nat) (fun _=>[(2,.pointer (some ⟨g2,0,none⟩)),(3,.pointer (some ⟨g3,0,none⟩)),(4,bC (UInt64.ofNat m.length*8))])
   (fun k w'=>aG w w'∧cl g2 22 ((List.replicate 32 0).map U8) w'∧(∃tot,HA g3 (m++[128]++List.replicate k 0) tot w')∧k≤fX m.length) (fun k=>fX m.length-k) 0 ⟨rfl,rfl,rfl,trivial⟩
   ⟨E5,B5,⟨_,by simpa using h5⟩,by omega⟩ ?_
  rintro k w6 ⟨E6,B6,⟨tot,h6⟩,hk⟩
  obtain⟨blk6,hc6,ht6⟩:=id h6
  have hm:(m++[128]++List.replicate k 0).length=m.length+1+k:=by simp;omega
  refine af (af (aa ?_))
  refine ah JL JL CS ?_
  refine ak JL JL (ai Jh JL hc6.cellU) ?_
  refine aj JL JL JL (dj) ?_
  refine ag (ab ?_)
  rw[hm]
  refine ba JL (fun h=>?_) (fun h=>?_)
  ·have hlt:k<fX m.length:=by
    rcases Nat.lt_or_ge k (fX m.length) with h1|h1
    ·exact h1
    ·have:k=fX m.length:=by omega
     subst this
     exfalso
     unfold fX at h
     omega
   refine ar (ab (av (aa ?_)))
   obtain⟨r7,w7,hr,x7,o7,ob7⟩:=dL (w:=w6) w6.heap.size [0] (by simp) (Nat.le_refl _)
   refine aJ (vs:=[(0,U8 0)]) JL JL hr ?_
   refine am ln JL JL (lq (h6.ext x7) o7.bts (fun _=>yq ob7 (by have:=h6.lt;omega))) ?_
   rintro _ w8 ⟨q8,h8⟩
   refine ag (aM ?_)
   rw[List.append_assoc _ (List.replicate k 0) [0],←List.replicate_succ'] at h8
   exact bN (k+1) ⟨rfl,rfl,rfl,trivial⟩ ⟨(E6.trans x7).of_new q8 hw3,(B6.ext x7).other q8 ne23,⟨_,h8⟩,hlt⟩ (by omega)
  ·have hk':k=fX m.length:=by
    unfold fX at hk hp⊢
    omega
   subst hk'
   exact aX (aA (aA (aV (cr () ⟨rfl,rfl,rfl,trivial⟩ ⟨E6,B6,tot,h6⟩))))
 rintro _ w6 ⟨E6,B6,tot6,h6⟩
 refine ab (af (aa ?_))
 obtain⟨bits,hbits⟩:∃b,b=UInt64.ofNat m.length*8:=⟨_,rfl⟩
 rw[←hbits]
 have hb8:=wc bits
 obtain⟨g5,w7,hr,n5,x7,b7⟩:=bc (P:=Tryz.prog) (w:=w6) (l:=(eX (xJ bits) 8 0).map U8) H8 rfl
 refine bf JL hr (ag (ab ?_))
 have l35:g3<g5:=Nat.lt_of_lt_of_le h6.lt n5
 have ne25:some g2≠some g5:=fun h=>by cases h;omega
 have ne35:some g3≠some g5:=fun h=>by cases h;omega
 refine af (eK (fun _:Unit=>[(2,.pointer (some ⟨g2,0,none⟩)),(3,.pointer (some ⟨g3,0,none⟩)),(5,.pointer (some ⟨g5,0,none⟩))]) (fun _ w'=>w7.grownBy w' (some g5)∧cl g5 203 ((xJ bits).map U8) w') ?_ ?_)
 ·refine af (aa (ae JL JL (ag (ab (av ?_)))))
  refine ck (α:=Nat) (fun i=>[(2,.pointer (some ⟨g2,0,none⟩)),(3,.pointer (some ⟨g3,0,none⟩)),(4,bC bits),(5,.pointer (some ⟨g5,0,none⟩)),(27,I (i:Int))])
   (fun i w'=>w7.grownBy w' (some g5)∧cl g5 203 ((eX (xJ bits) 8 i).map U8) w'∧i≤8) (fun i=>8-i) 0 ⟨rfl,rfl,rfl,rfl,rfl,trivial⟩
   ⟨dR (aG.refl _),b7,by omega⟩ ?_
  rintro i w8 ⟨q8,b8,hi⟩
  refine af (aa ?_)
  refine aj JL JL JL (aS) ?_
  refine ag (ab (af ?_))
  refine ba JL (fun h=>?_) (fun h=>?_)
  ·have hi8:i<8:=by omega
   have hfl:=jc (j:=i) hb8 (by omega)
   have e6:(56:Int)-8*(i:Int)=((56-8*i:Nat):Int):=by omega
   refine ar (ab (af (av (af (aa (ae JL JL (ac JL JL (ag (ab (aa (ae JL JL (ae JL JL (ae JL JL ?_)))))))))))))
   refine aj JL JL JL (eI (by omega) (by omega)) ?_
   refine aj (r:=I ((56-8*i:Nat):Int)) JL JL JL (by rw[←e6];exact aY (by omega) (by omega)) ?_
   refine aj JL JL JL (de (56-8*i) (by omega)) ?_
   refine aQ JL JL (j0 Ji Jm) ?_
   refine ap JL JL JL (H9 i hi8) ?_
   refine aC JL JL (ur b8 i (by omega)) ?_
   have b9:=b8.setB i (bits>>>UInt64.ofNat (56-8*i)).toUInt8
   have hset:(eX (xJ bits) 8 i).set i (bits>>>UInt64.ofNat (56-8*i)).toUInt8=eX (xJ bits) 8 (i+1):=by
    rw[←GM bits hi8]
    exact jd hb8 hi8
   rw[hset] at b9
   refine ag (aM (ab (aa ?_)))
   refine aj JL JL JL (aE (by omega) (by omega)) ?_
   refine ae JL JL (ag ?_)
   exact bN (i+1) ⟨rfl,rfl,rfl,rfl,rfl,trivial⟩ ⟨q8.trans (bb w8 g5 i _),b9,by omega⟩ (by omega)
  ·have hi':i=8:=by omega
   subst hi'
   rw[pL hb8] at b8
   exact aX (aA (aA (aV (cr () ⟨rfl,rfl,rfl,trivial⟩ ⟨q8,b8⟩))))
 rintro _ w8 ⟨q8,b8⟩
 have E8:aG w w8:=(E6.trans x7).of_new q8 (by omega)
 have B8:=(B6.ext x7).other q8 ne25
 have h8:=(h6.ext x7).other q8 ne35
 refine ab (af (aa ?_))
 refine cY (a:=none) (b:=none) JL JL JL JL JL Ia ?_
 have bt8:=b8.bts (by omega)
 rw[hb8] at bt8
 refine am ln rfl rfl (lq h8 bt8 (by rintro _ a n c he;cases he;show g5≠g3;omega)) ?_
 rintro _ w9 ⟨q9,h9⟩
 have hpad:m++[128]++List.replicate (fX m.length) 0++xJ bits=ee m:=by rw[hbits];rfl
 rw[hpad] at h9
 have E9:=E8.of_new q9 hw3
 have B9:=B8.other q9 ne23
 refine ag (ab (af (aa ?_)))
 obtain⟨g7,w10,hr,n7,x10,b10⟩:=bc (P:=Tryz.prog) (w:=w9) (l:=(eX (iL m) 32 0).map U8) mc rfl
 refine bf JL hr (ag (ab ?_))
 obtain⟨blk9,hc9,_⟩:=h9.ext x10
 have l37:g3<g7:=Nat.lt_of_lt_of_le h9.lt n7
 have ne27:some g2≠some g7:=fun h=>by cases h;omega
 have hs8:=Ev (ee m)
 have hdl:=dn m
 refine af (eK (fun _:Unit=>[(2,.pointer (some ⟨g2,0,none⟩)),(7,.pointer (some ⟨g7,0,none⟩))]) (fun _ w'=>w10.grownBy w' (some g7)∧cl g7 22 ((iL m).map U8) w') ?_ ?_)
 ·refine af (aa ?_)
  refine ah JL JL GI ?_
  refine ak JL JL hc9.ldS ?_
  refine ae JL JL (ag (ab (av ?_)))
  refine ck (α:=Nat) (fun i=>[(2,.pointer (some ⟨g2,0,none⟩)),(7,.pointer (some ⟨g7,0,none⟩)),(42,.agg ((sh (ee m)).map bp).toArray),(43,I (i:Int))])
   (fun i w'=>w10.grownBy w' (some g7)∧cl g7 22 ((eX (iL m) 32 (4*i)).map U8) w'∧i≤8) (fun i=>8-i) 0 ⟨rfl,rfl,rfl,rfl,trivial⟩
   ⟨dR (aG.refl _),b10,by omega⟩ ?_
  rintro i w11 ⟨q11,b11,hi⟩
  refine af (aa ?_)
  refine aj JL JL JL (aS) ?_
  refine ag (ab (af ?_))
  refine ba JL (fun h=>?_) (fun h=>?_)
  ·have hi8:i<8:=by omega
   have e0:(4:Int)*(i:Int)=((4*i:Nat):Int):=by omega
   have e1:((4*i:Nat):Int)+1=((4*i+1:Nat):Int):=by omega
   have e2:((4*i:Nat):Int)+2=((4*i+2:Nat):Int):=by omega
   have e3:((4*i:Nat):Int)+3=((4*i+3:Nat):Int):=by omega
   have s0:=jc (j:=4*i) hdl (by omega)
   have s1:=jc (j:=4*i+1) hdl (by omega)
   have s2:=jc (j:=4*i+2) hdl (by omega)
   have s3:=jc (j:=4*i+3) hdl (by omega)
   refine ar (ab (af (av (af (aa (ae JL JL ?_))))))
   refine kz JL JL JL (DL (l:=(sh (ee m)).map bp) JD dO Jf hi8 .i64 (sR (by omega))) ?_
   refine ac JL JL (ac JL JL (ag (ab (aa (ae JL JL ?_)))))
   refine aj (r:=I ((4*i:Nat):Int)) JL JL JL (by rw[←e0];exact eI (by omega) (by omega)) ?_
   refine ae JL JL ?_
   refine aj (r:=I ((4*i:Nat):Int)) JL JL JL (by rw[←e0];exact eI (by omega) (by omega)) ?_
   refine aj (r:=I ((4*i+1:Nat):Int)) JL JL JL (by rw[←e1];exact aE (by omega) (by omega)) ?_
   refine ae JL JL ?_
   refine aj (r:=I ((4*i:Nat):Int)) JL JL JL (by rw[←e0];exact eI (by omega) (by omega)) ?_
   refine aj (r:=I ((4*i+2:Nat):Int)) JL JL JL (by rw[←e2];exact aE (by omega) (by omega)) ?_
   refine ae JL JL ?_
   refine aj (r:=I ((4*i:Nat):Int)) JL JL JL (by rw[←e0];exact eI (by omega) (by omega)) ?_
   refine aj (r:=I ((4*i+3:Nat):Int)) JL JL JL (by rw[←e3];exact aE (by omega) (by omega)) ?_
   refine ae JL JL ?_
   refine aj JL JL JL (cA 24 (by omega)) ?_
   refine aQ JL JL (dD Jf Jm) ?_
   refine ae JL JL ?_
   refine aj JL JL JL (cA 16 (by omega)) ?_
   refine aQ JL JL (dD Jf Jm) ?_
   refine ae JL JL ?_
   refine aj JL JL JL (cA 8 (by omega)) ?_
   refine aQ JL JL (dD Jf Jm) ?_
   refine ae JL JL ?_
   refine aQ JL JL (dD Jf Jm) ?_
   have d0:(iL m).getD (4*i) 0=((sh (ee m)).getD i 0>>>UInt32.ofNat 24).toUInt8:=km (sh (ee m)) i 0 (by omega) (by omega)
   have d1:(iL m).getD (4*i+1) 0=((sh (ee m)).getD i 0>>>UInt32.ofNat 16).toUInt8:=km (sh (ee m)) i 1 (by omega) (by omega)
   have d2:(iL m).getD (4*i+2) 0=((sh (ee m)).getD i 0>>>UInt32.ofNat 8).toUInt8:=km (sh (ee m)) i 2 (by omega) (by omega)
   have d3:(iL m).getD (4*i+3) 0=((sh (ee m)).getD i 0).toUInt8:=by
    have:=km (sh (ee m)) i 3 (by omega) (by omega)
    rw[show UInt32.ofNat (24-8*3)=0 from rfl,UInt32.shiftRight_zero] at this
    exact this
   have f0:(eX (iL m) 32 (4*i)).set (4*i) ((iL m).getD (4*i) 0)=eX (iL m) 32 (4*i+1):=jd hdl (by omega)
   have f1:(eX (iL m) 32 (4*i+1)).set (4*i+1) ((iL m).getD (4*i+1) 0)=eX (iL m) 32 (4*i+2):=jd hdl (by omega)
   have f2:(eX (iL m) 32 (4*i+2)).set (4*i+2) ((iL m).getD (4*i+2) 0)=eX (iL m) 32 (4*i+3):=jd hdl (by omega)
   have f3:(eX (iL m) 32 (4*i+3)).set (4*i+3) ((iL m).getD (4*i+3) 0)=eX (iL m) 32 (4*(i+1)):=jd hdl (by omega)
   rw[d0] at f0
   rw[d1] at f1
   rw[d2] at f2
   rw[d3] at f3
   refine ap JL JL JL (sO (4*i) (by omega)) ?_
   refine aC JL JL (ur b11 (4*i) (by omega)) ?_
   have b12:=b11.setB (4*i) ((sh (ee m)).getD i 0>>>UInt32.ofNat 24).toUInt8
   rw[f0] at b12
   refine ap JL JL JL (sO (4*i+1) (by omega)) ?_
   refine aC JL JL (ur b12 (4*i+1) (by omega)) ?_
   have b13:=b12.setB (4*i+1) ((sh (ee m)).getD i 0>>>UInt32.ofNat 16).toUInt8
   rw[f1] at b13
   refine ap JL JL JL (sO (4*i+2) (by omega)) ?_
   refine aC JL JL (ur b13 (4*i+2) (by omega)) ?_
   have b14:=b13.setB (4*i+2) ((sh (ee m)).getD i 0>>>UInt32.ofNat 8).toUInt8
   rw[f2] at b14
   refine ap JL JL JL (sO (4*i+3) (by omega)) ?_
   refine aC JL JL (ur b14 (4*i+3) (by omega)) ?_
   have b15:=b14.setB (4*i+3) ((sh (ee m)).getD i 0).toUInt8
   rw[f3] at b15
   refine ag (aM (ab (aa ?_)))
   refine aj JL JL JL (aE (by omega) (by omega)) ?_
   refine ae JL JL (ag ?_)
   exact bN (i+1) ⟨rfl,rfl,rfl,rfl,trivial⟩ ⟨(((q11.trans (bb _ g7 (4*i) _)).trans (bb _ g7 (4*i+1) _)).trans (bb _ g7 (4*i+2) _)).trans (bb _ g7 (4*i+3) _),b15,by omega⟩ (by omega)
  ·have hi':i=8:=by omega
   subst hi'
   rw[show 4*8=32 from rfl,pL hdl] at b11
   exact aX (aA (aA (aV (cr () ⟨rfl,rfl,trivial⟩ ⟨q11,b11⟩))))
 rintro _ w11 ⟨q11,b11⟩
 have hsz:(Tryz.prog.info? 22).map (·.size)=some ((iL m).map U8).length:=by rw[List.length_map,dn];exact mg
 have F2:=(B9.ext x10).other q11 ne27
 have E11:aG w w11:=(E9.trans x10).of_new q11 (by omega)
 refine ab (af (aa ?_))
 refine ak JL JL (lH (m:=(iL m).map U8) b11 (fun j v h=>by rwa [Nat.zero_add]) JA JL hsz) ?_
 refine aC JL JL (gO F2 (by simp[dn]) hsz (oM _)) ?_
 refine ag (ab (au ?_))
 refine dB JL JL (F2.row _) JA JL hsz ?_
 exact⟨_,rfl,E11.of_new (bg _ _ _) n2,rfl⟩
end Go.Rl
namespace Go.Rl
open Go.RowKit Go.Proofs
theorem sS {P:Program} {w:World} {e:TypeId} (he:P.underlying e=some (.int .u8)) (d:Nat) (l m:List UInt8):∀(is:List Nat),(∀i∈is,i<l.length∧i<m.length)→
 (Op.eqItems (d+1) e 1 (l.map U8).toArray (m.map U8).toArray is).run P w=.ok (is.all fun i=>decide (l.getD i 0=m.getD i 0)) w
 |[],_=>rfl
 |i::is,h=>by
  obtain⟨hi,hj⟩:=h i (by simp)
  have hagg:(isAgg e).run P w=.ok false w:=by simp[isAgg,run_underlying he]
  have hpart:(part e (l.map U8).toArray (i*1)).run P w=.ok (U8 l[i]) w:=by simp[part,hagg,hi]
  have hpart':(part e (m.map U8).toArray (i*1)).run P w=.ok (U8 m[i]) w:=by simp[part,hagg,hj]
  have heq:(Op.equalIn (d+1) e (U8 l[i]) (U8 m[i])).run P w=.ok (decide (l[i]=m[i])) w:=by
   have:(decide ((l[i].toNat:Int)=(m[i].toNat:Int)))=decide (l[i]=m[i]):=by
    rw[decide_eq_decide]
    constructor
    ·intro h;exact UInt8.toNat_inj.1 (by omega)
    ·intro h;rw[h]
   rw[←this]
   simp[Op.equalIn,run_underlying he,U8]
   rfl
  have ih:=sS (w:=w) he d l m is fun j hj=>h j (by simp[hj])
  unfold Op.eqItems
  simp only[Sem.run_bind,hpart,hpart',Result.andThen_ok,heq]
  have e1:l.getD i 0=l[i]:=by simp[List.getD,hi]
  have e2:m.getD i 0=m[i]:=by simp[List.getD,hj]
  by_cases hq:l[i]=m[i]
  ·simp only[List.all_cons,e1,e2,hq,decide_true,Bool.true_and]
   simpa using ih
  ·simp only[List.all_cons,e1,e2,hq,decide_false,Bool.false_and]
   rfl
theorem CZ {l m:List UInt8} {n:Nat} (hl:l.length=n) (hm:m.length=n):((List.range n).all fun i=>decide (l.getD i 0=m.getD i 0))=decide (l=m):=by
 rw[Bool.eq_iff_iff]
 simp only[List.all_eq_true,List.mem_range,decide_eq_true_eq]
 constructor
 ·intro h
  refine List.ext_getElem (by omega) fun i h1 h2=>?_
  have:=h i (by omega)
  simpa [List.getD,h1,h2] using this
 ·rintro rfl i _;rfl
theorem yr {P:Program} {w:World} {t:TypeId} {x y:Operand} {a b:Array Value} (hg:P.eqGuardType P.depth t=false):(bin .neq t x y (.agg a) (.agg b)).run P w=(do pure (Value.bool (!(←Op.equal t (.agg a) (.agg b)))):Sem Value).run P w:=by
 show(do eqGuard .neq t x y (.agg a) (.agg b);binOp .neq t (.agg a) (.agg b):Sem Value).run P w=_
 rw[Sem.run_bind,run_eqGuard_agg (hm:=hg)]
 rfl
theorem GN:Tryz.prog.eqGuardType Tryz.prog.depth 22=false:=by kernel_rfl
theorem GO {w:World} {l m:List UInt8} (hl:l.length=32) (hm:m.length=32):(Op.equal 22 (.agg (l.map U8).toArray) (.agg (m.map U8).toArray)).run Tryz.prog w=.ok (decide (l=m)) w:=by
 show(Op.equalIn (9998+1+1) 22 _ _).run Tryz.prog w=_
 obtain⟨i,hi,_⟩:=info_parts ob
 rw[run_equalIn_array _ _ _ _ JA hi]
 have hc:Tryz.prog.cellsOf 5=1:=by kernel_rfl
 rw[hc,sS Tryz.underlying5 9998 l m _ fun i hi=>by rw[hl,hm];simpa using hi]
 rw[CZ hl hm]
theorem I1 {w:World} {x y:Operand} {l m:List UInt8} (hl:l.length=32) (hm:m.length=32):(bin .neq 22 x y (.agg (l.map U8).toArray) (.agg (m.map U8).toArray)).run Tryz.prog w=.ok (B (decide (l≠m))) w:=by
 rw[yr GN,Sem.run_bind,GO hl hm]
 show Result.ok (B (!decide (l=m))) w=_
 rw[decide_not]
theorem ux:aw Tryz.prog 49:=⟨_,Tryz.func49,by kernel_rfl,rfl⟩
theorem ci.old {l:List UInt8} {v:Value} {w:World} (h:ci l v w) {g:Nat} (hg:w.heap.size≤g):0<l.length→z6 g v:=fun h0 a n c he=>by
 obtain⟨A,n',c',rfl,h1,h2,h3,h4,h5⟩:=h
 have hn:l.length=n':=by simpa using h3
 obtain⟨ad,rfl,hc⟩:=h4 (by omega)
 simp only[Value.slice.injEq,Option.some.injEq] at he
 obtain⟨rfl,_,_⟩:=he
 have h6:=hc 0 (U8 l[0]) (by simp[h0])
 rw[je] at h6
 have:ad.block<w.heap.size:=by
  rcases Nat.lt_or_ge ad.block w.heap.size with h7|h7
  ·exact h7
  ·simp[World.cell?,Array.getElem?_eq_none h7] at h6
 omega
end Go.Rl
namespace Go.Rl
open Go.RowKit Go.Proofs
theorem uy {w:World} {l:List UInt8} {v:Value} (hv:ci l v w):
 Calls Tryz.prog 49 #[v] w (bD fun r w'=>aG w w'∧r=.agg ((iL l).map U8).toArray):=by
 refine enter (vs:=[v]) Tryz.func49 JL JL JL ?_
 obtain⟨g2,w1,hr,n2,x1,b2⟩:=bc (P:=Tryz.prog) (w:=w) (l:=(List.replicate 32 0).map U8) mc rfl
 refine af (aa (bf JL hr (ag (ab (af (aa ?_))))))
 refine am (vs:=[]) CV JL JL (CW w1) ?_
 rintro _ w2 ⟨x2,g,hg,rfl,hA⟩
 refine ac JL JL (ag (ab (af (aa (ae JL JL (ae JL JL ?_))))))
 have e2:=x1.trans x2
 refine am ln JL JL (lq hA (hv.ext e2) (hv.old (Nat.le_trans x1.size hg))) ?_
 rintro _ w3 ⟨q3,h3⟩
 rw[List.nil_append,UInt64.zero_add] at h3
 have l2:g2<g:=Nat.lt_of_lt_of_le b2.lt hg
 have hwg:w.heap.size≤g:=by omega
 have e3:=e2.of_new q3 hwg
 have B3:=(b2.ext x2).other q3 (fun h=>by cases h;omega)
 refine ag (ab (af (aa (ae JL JL ?_))))
 refine am CX JL JL (CY h3) ?_
 rintro _ w4 ⟨x4,rfl⟩
 have hsz:(Tryz.prog.info? 22).map (·.size)=some ((iL l).map U8).length:=by rw[List.length_map,dn];exact mg
 have B4:=B3.ext x4
 refine aC JL JL (gO B4 (by simp[dn]) hsz (oM _)) ?_
 refine ag (ab (au ?_))
 refine dB JL JL (B4.row _) JA JL hsz ?_
 exact⟨_,rfl,(e3.trans x4).of_new (bg _ _ _) n2,rfl⟩
end Go.Rl
namespace Go.Rl
open Go.RowKit
def eV:List UInt8:=[82,76,85,67]
abbrev sT:=List UInt8×List aN
def nj:List UInt8:=List.replicate 32 0
def uA:sT:=(nj,[])
def tm (l:List UInt8):List UInt8×Int:=iS ((l.take (l.length-32)).drop 36) 4194304 (vr ((l.take (l.length-32)).drop 36))
def Bi (b:List UInt8):Option (List aN):=match vw b with
 |some (ts,[])=>some ts
 |_=>none
def iI (l:List UInt8):sT×Int:=
 if 1048576<l.length then(uA,8) else if l.length<68∨l.take 4≠eV then(uA,5) else if iL (l.take (l.length-32))≠l.drop (l.length-32) then(uA,6) else
  if (tm l).2≠0 then(uA,(tm l).2) else match Bi (tm l).1 with
  |some ts=>if ts.all eS=true then(((l.take 36).drop 4,ts),0) else(uA,1)
  |none=>(uA,5)
section
variable {l:List UInt8}
theorem C0 (h:1048576<l.length):iI l=(uA,8):=by unfold iI;rw[if_pos h]
theorem pO (h:¬1048576<l.length) (h2:l.length<68∨l.take 4≠eV):iI l=(uA,5):=by unfold iI;rw[if_neg h,if_pos h2]
theorem yt (h:¬1048576<l.length) (h2:¬(l.length<68∨l.take 4≠eV)) (h3:iL (l.take (l.length-32))≠l.drop (l.length-32)):iI l=(uA,6):=by unfold iI;rw[if_neg h,if_neg h2,if_pos h3]
theorem mV (h:¬1048576<l.length) (h2:¬(l.length<68∨l.take 4≠eV)) (h3:¬iL (l.take (l.length-32))≠l.drop (l.length-32)):iI l=if (tm l).2≠0 then(uA,(tm l).2) else match Bi (tm l).1 with
 |some ts=>if ts.all eS=true then(((l.take 36).drop 4,ts),0) else(uA,1)
 |none=>(uA,5):=by unfold iI;rw[if_neg h,if_neg h2,if_neg h3]
theorem yu {b:List UInt8} {ts:List aN} (h:vw b=some (ts,[])):Bi b=some ts:=by unfold Bi;rw[h]
theorem FA {b:List UInt8} (h:∀ts,vw b≠some (ts,[])):Bi b=none:=by
 unfold Bi
 split
 ·rename_i ts e;exact absurd e (h ts)
 ·rfl
theorem FB {n:Int} (h:¬1048576<l.length) (h2:¬(l.length<68∨l.take 4≠eV)) (h3:¬iL (l.take (l.length-32))≠l.drop (l.length-32)) (h4:(tm l).2=n) (h5:n≠0):iI l=(uA,n):=by rw[mV h h2 h3,h4,if_pos h5]
theorem GP (h:¬1048576<l.length) (h2:¬(l.length<68∨l.take 4≠eV)) (h3:¬iL (l.take (l.length-32))≠l.drop (l.length-32)) (h4:(tm l).2=0) (h5:Bi (tm l).1=none):iI l=(uA,5):=by rw[mV h h2 h3,if_neg (by omega),h5]
theorem GQ {ts:List aN} (h:¬1048576<l.length) (h2:¬(l.length<68∨l.take 4≠eV)) (h3:¬iL (l.take (l.length-32))≠l.drop (l.length-32)) (h4:(tm l).2=0) (h5:Bi (tm l).1=some ts):iI l=if ts.all eS=true then(((l.take 36).drop 4,ts),0) else(uA,1):=by rw[mV h h2 h3,if_neg (by omega),h5]
end
theorem yv {α:Type} {p:α→Bool} {l:List α} {i:Nat} (hi:i<l.length):(l.drop i).all p=(p l[i]&&(l.drop (i+1)).all p):=by
 rw[List.drop_eq_getElem_cons hi];rfl
theorem z8 {m:List UInt8} {k:Nat}:(iS m (k:Int) (vr m)).1.length≤k+m.length:=by
 unfold iS
 split
 ·simp
 ·cases hU:eh m with
  |none=>simp
  |some p=>
   obtain⟨n,t⟩:=p
   simp only[]
   have ht:=pJ hU
   split
   ·simp
   ·rename_i hn
    cases hf:vr m t n with
    |none=>simp
    |some out=>
     unfold vr at hf
     obtain⟨p,h1,h2⟩:=Option.bind_eq_some_iff.1 hf
     split at h2
     ·simp only[Option.some.injEq] at h2
      subst h2
      have:=vZ (B:=t.length) _ _ _ p.1 p.2 (by simp) (Nat.le_refl _) h1
      show p.1.length≤_
      omega
     ·cases h2
theorem GR {l:List UInt8}:(tm l).1.length≤4194304+l.length:=by
 have h:=z8 (m:=(l.take (l.length-32)).drop 36) (k:=4194304)
 have h2:((l.take (l.length-32)).drop 36).length≤l.length:=by rw[List.length_drop,List.length_take];omega
 exact Nat.le_trans h (by omega)
theorem FC {l:List UInt8} (hl:l.length≤1048576):iS ((l.take (l.length-32)).drop 36) 4194304 (vp ((l.take (l.length-32)).drop 36))=tm l:=(Fv (by rw[List.length_drop,List.length_take];omega) (by omega)).symm
end Go.Rl
namespace Go.Rl
open Go.RowKit
def ew (d p:List UInt8):List UInt8:=eV++d++p++iL (eV++d++p)
section
variable {d p body:List UInt8}
theorem kn (hd:d.length=32):(ew d p).length=68+p.length:=by
 unfold ew
 simp only[List.length_append,dn,hd,show eV.length=4 from rfl]
 omega
theorem nL:(ew d p).take 4=eV:=by
 unfold ew
 rw[List.append_assoc,List.append_assoc]
 exact List.take_left' (l₁:=eV) rfl
theorem yw (hd:d.length=32):(ew d p).take ((ew d p).length-32)=eV++d++p:=by
 rw[kn hd]
 unfold ew
 refine List.take_left' ?_
 simp only[List.length_append,hd,show eV.length=4 from rfl]
 omega
theorem C1 (hd:d.length=32):(ew d p).drop ((ew d p).length-32)=iL (eV++d++p):=by
 rw[kn hd]
 unfold ew
 refine List.drop_left' ?_
 simp only[List.length_append,hd,show eV.length=4 from rfl]
 omega
theorem FD (hd:d.length=32):((ew d p).take ((ew d p).length-32)).drop 36=p:=by
 rw[yw hd]
 refine List.drop_left' ?_
 simp only[List.length_append,hd,show eV.length=4 from rfl]
theorem GS (hd:d.length=32):((ew d p).take 36).drop 4=d:=by
 unfold ew
 rw[List.append_assoc,List.append_assoc,←List.append_assoc,List.take_left' (by simp only[List.length_append,hd,show eV.length=4 from rfl])]
 exact List.drop_left' (l₁:=eV) rfl
theorem tz (hb:body.length≤4194304):iS (bQ body) 4194304 (vr (bQ body))=(body,0):=by
 have hu:eh (bQ body)=some (body.length,pk body 0 0):=jk (by omega) _
 unfold iS
 rw[if_neg (by omega),hu]
 simp only[]
 rw[if_neg (by omega)]
 have:vr (bQ body) (pk body 0 0) body.length=some body:=by
  unfold vr
  rw[sv (by omega)]
  exact if_pos ⟨rfl,rfl⟩
 rw[this]
theorem C3 (hd:d.length=32) (hb:body.length≤4194304) (hf:(ew d (bQ body)).length≤1048576):iI (ew d (bQ body))=match Bi body with
 |some ts=>if ts.all eS=true then((d,ts),0) else(uA,1)
 |none=>(uA,5):=by
 have hl:=kn (d:=d) (p:=bQ body) hd
 have hu:tm (ew d (bQ body))=(body,0):=by unfold tm;rw[FD hd];exact tz hb
 rw[mV (by omega) (fun h=>h.elim (fun h=>by omega) fun h=>h nL) (by rw[yw hd,C1 hd];exact fun h=>h rfl),hu,if_neg (by simp),GS hd]
 all_goals rfl
end
def ko (c:sT):List UInt8×Int:=if (c.2.all fun n=>eS n&&eU n)=true then(if 4194304<(df c.2).length then([],8) else if 1048576<(ew c.1 (bQ (df c.2))).length then([],8) else(ew c.1 (bQ (df c.2)),0)) else([],1)
theorem z9 (c:sT):(ko c).2=0∧ko c=(ew c.1 (bQ (df c.2)),0)∧(ew c.1 (bQ (df c.2))).length≤1048576∨(ko c).1=[]∧((ko c).2=1∨(ko c).2=8):=by
 unfold ko
 split
 ·split
  ·exact .inr ⟨rfl,.inr rfl⟩
  ·split
   ·exact .inr ⟨rfl,.inr rfl⟩
   ·exact .inl ⟨rfl,rfl,by omega⟩
 ·exact .inr ⟨rfl,.inl rfl⟩
theorem C6 {a b:UInt8} (hb:b≠0):a+b≠a:=fun h=>by
 apply hb
 have h1:=congrArg UInt8.toNat h
 rw[UInt8.toNat_add] at h1
 have:=a.toNat_lt
 have:=b.toNat_lt
 exact UInt8.toNat_inj.1 (show b.toNat=0 by omega)
theorem Ib {l:List UInt8} {i:Nat} (hi:i<l.length) {x:UInt8} (hx:x≠l[i]):l.set i x≠l:=fun h=>hx (by
 have:(l.set i x)[i]? =l[i]? :=by rw[h]
 simp[hi] at this
 exact this)
theorem tA {l:List UInt8} {i:Nat} {x:UInt8} (h4:l.take 4=eV) (hl:¬1048576<l.length) (hi:i<4) (hil:i<l.length) (hx:x≠l[i]):iI (l.set i x)=(uA,5):=by
 refine pO (by rw[List.length_set];exact hl) (.inr ?_)
 rw[List.take_set,h4]
 have:eV.length=4:=rfl
 refine Ib (l:=eV) (by omega) ?_
 have e:eV[i]'(by omega)=l[i]:=by
  have h5:(l.take 4)[i]'(by rw[List.length_take];omega)=l[i]:=by simp
  rw[←h5]
  simp only[h4]
 rw[e]
 exact hx
theorem wj {l:List UInt8} {i:Nat} {x:UInt8} (h4:l.take 4=eV) (hl:¬1048576<l.length) (h68:68≤l.length) (hi:¬i<4):(iI (l.set i x)).2=6∨iL ((l.set i x).take (l.length-32))=(l.set i x).drop (l.length-32):=by
 by_cases hd:iL ((l.set i x).take (l.length-32))=(l.set i x).drop (l.length-32)
 ·exact .inr hd
 ·refine .inl ?_
  have hlen:(l.set i x).length=l.length:=List.length_set ..
  rw[yt (by rw[hlen];exact hl) (by
   rw[hlen,List.take_set,h4,List.set_eq_of_length_le (by show eV.length≤i;have:eV.length=4:=rfl;omega)]
   rintro(h|h)
   ·omega
   ·exact h rfl) (by rw[hlen];exact hd)]
theorem GT (l:List UInt8):(iI l).1.1.length=32:=by
 unfold iI
 split
 ·rfl
 ·split
  ·rfl
  ·rename_i h
   split
   ·rfl
   ·split
    ·rfl
    ·split
     ·split
      ·show((l.take 36).drop 4).length=32
       rw[List.length_drop,List.length_take]
       have:¬l.length<68:=fun hh=>h (.inl hh)
       omega
      ·rfl
     ·rfl
end Go.Rl
namespace Go.Rl
open Go.RowKit Go.Proofs
section
variable {P:Program} {ops:Array Oper} {Env:World→Prop} {Rl:World→World→Prop} {mo:Bool} {Pn:List PanicEntry→World→Prop} {Z:ij} {N:Nat} {F:cm} {K:cm→ij→Prop} {rest:List Oper} {d:Nat} {ty:TypeId} {pos:String} {aft:Array Edge}
theorem C7 {t:TypeId} {x:Operand} {u r:Value} (hx:eo F x=Is u) (hd:Nat.blt d N=true) (hrun:∀w,Env w→(Instr.arrayAt t u).run P w=.ok r w)
 (k:eQ P ops Env Rl mo Pn N rest (iK F (some d) (Is r)) Z K):eQ P ops Env Rl mo Pn N (⟨some d,.sliceToArrayPointer t x,ty,pos,aft,none⟩::rest) F Z K:=
 jH (xs:=[x]) (vs:=[u]) (f:=fun|[a]=>Instr.arrayAt t a|_=>stuck "") (fun _=>rfl) (by simp[Op.operands]) (by simp[hx]) hd hrun k
end
theorem Ht {w:World} {l:List UInt8} {v:Value} (h:ci l v w) (hl:l.length=32):∃ad,(∀w':World,(Instr.arrayAt 22 v).run Tryz.prog w'=.ok (.pointer (some ad)) w')∧dt w ad (l.map U8):=by
 obtain⟨A,n,c,rfl,h1,h2,h3,h4,h5⟩:=h
 have hn:n=32:=by simp at h3;omega
 subst hn
 obtain⟨ad,rfl,hc⟩:=h4 (by omega)
 exact⟨ad,fun w'=>by simp[Instr.arrayAt,run_underlying Tryz.underlying22],hc⟩
theorem Bj {w:World} {l:List UInt8} {ad:Addr} (h:dt w ad (l.map U8)) (hl:l.length=32):(Instr.loadAt 22 (.pointer (some ad))).run Tryz.prog w=.ok (.agg (l.map U8).toArray) w:=
 h.ld JA rfl (by rw[List.length_map,hl];exact mg)
end Go.Rl
namespace Go.Rl
open Go.RowKit Go.Proofs
section
variable {w:World}
theorem dt.ldO {P:Program} {t:TypeId} {d:TypeDesc} {ad:Addr} {cs ms:List Value} {o:Nat} (h:dt w ad cs) (hm:∀j v,ms[j]? =some v→cs[o+j]? =some v) (ht:P.underlying t=some d) (hd:d.isRow=true) (hz:(P.info? t).map (·.size)=some ms.length):(Instr.loadAt t (.pointer (some (ad.add o)))).run P w=.ok (.agg ms.toArray) w:=
 dt.ld (ad:=ad.add o) (fun j u hu=>by rw[qw];exact h (o+j) u (hm j u hu)) ht hd hz
end
theorem aN.lt_of_mem {n k:aN} (h:k∈n.kids):SizeOf.sizeOf k<SizeOf.sizeOf n:=by
 cases n with
 |mk l s ks e p=>
  have h:k∈ks:=h
  have:=List.sizeOf_lt_of_mem h
  simp only[aN.mk.sizeOf_spec]
  omega
end Go.Rl
namespace Go.Rl
open Go.RowKit Go.Proofs
def Hu (n d:Int):Bool:=decide (0<n∧n≤16384∧n%d=0)
def small (l:List fx):Prop:=∀q∈l,q.2.1.length≤1073741824∧q.2.2.length≤1073741824
def Hv (l:qo):Bool:=decide ((1≤l.kh∧l.kh≤64)∧(1≤l.kw∧l.kw≤64)∧(1≤l.sr∧l.sr≤64))
def FE (l:qo):Bool:=decide ((l.ws.length:Int)=0∧(l.bs.length:Int)=0)
def FF (l:qo):Bool:=decide (l.kh=0∧l.kw=0∧l.sr=0∧l.pd=0)
def I2 (l:qo) (i:Int):Prop:=
 if l.kd=1 then FF l=true∧l.fr=0∧(1≤l.ou∧l.ou≤16384)∧(l.bs.length:Int)=l.ou∧Hu l.ws.length l.ou=true
 else if l.kd=2 then Hv l=true∧l.fr=0∧l.pd≥0∧l.pd<l.kh∧l.pd<l.kw∧(1≤l.ou∧l.ou≤16384)∧(l.bs.length:Int)=l.ou∧Hu l.ws.length (l.ou*l.kh*l.kw)=true
 else if l.kd=3∨l.kd=4 then Hv l=true∧l.fr=0∧l.pd=0∧l.ou=0∧FE l=true
 else if l.kd=5∨l.kd=6 then FF l=true∧l.fr=0∧l.ou=0∧FE l=true
 else if l.kd=7 then FF l=true∧(-1≤l.fr∧l.fr≤i-1)∧l.ou=0∧FE l=true
 else False
instance (l:qo) (i:Int):Decidable (I2 l i):=by unfold I2;infer_instance
section
variable {l:qo} {i:Int}
end
end Go.Rl
namespace Go.Rl
open Go.RowKit Go.Proofs
end Go.Rl
namespace Go.Rl
open Go.RowKit Go.Proofs
section
variable {a:qo} {i:Int}
end
end Go.Rl
namespace Go.Rl
open Go.RowKit
section
variable {P:Program} {ops:Array Oper} {Env:World→Prop} {Rl:World→World→Prop} {mo:Bool} {Pn:List PanicEntry→World→Prop} {N:Nat}
def Bk (ops:Array Oper) (n:Nat):Bool:=
 (List.range n).all fun i=>decide (i=0)||(List.range (n+1)).any fun j=>decide (i<j)&&Region.waitsFor .any ops j i
theorem yx {n:Nat} {listed:Array Bool} (hs:Bk ops n=true) (hc:jN ops n=true) (inv:HeadInv .any ops n listed):
 ∀(d i:Nat),n-i=d→0<i→i<n→listed.getD i true=false→∀t,n≤t→t∉Region.ready .any ops listed:=by
 intro d
 induction d using Nat.strongRecOn with
 |_ d ih=>
  intro i hd h0 hi hun t ht hr
  obtain⟨_,ot,hot,hall⟩:=mem_ready.1 hr
  have htlt:t<ops.size:=(Array.getElem?_eq_some_iff.1 hot).1
  by_cases htn:t=n
  ·subst htn
   have h1:=List.all_eq_true.1 hs i (List.mem_range.2 hi)
   simp only[Bool.or_eq_true,decide_eq_true_eq] at h1
   obtain⟨j,hj,hj2⟩:=List.any_eq_true.1 (h1.resolve_left (by omega))
   simp only[Bool.and_eq_true,decide_eq_true_eq] at hj2
   obtain⟨oj,hoj,e,he,hb,hon⟩:=Region.waitsFor_spec hj2.2
   have hjle:j≤t:=by have:=List.mem_range.1 hj;omega
   by_cases hjt:j=t
   ·subst hjt
    have:oj=ot:=Option.some.inj (hoj.symm.trans hot)
    subst this
    have h2:=hall e he hb
    rw[hon,getD_both hun] at h2
    cases h2
   ·cases hl:listed.getD j false with
    |true=>
     have h2:=inv.closed j oj hoj hl e he hb
     rw[hon,getD_both hun] at h2
     cases h2
    |false=>
     have hjs:j<listed.size:=by rw[inv.size];omega
     exact ih (t-j) (by omega) j rfl (by omega) (by omega) (getD_in hjs hl) t (Nat.le_refl _) hr
  ·have h1:=List.all_eq_true.1 hc t (List.mem_range.2 htlt)
   simp only[Bool.or_eq_true,decide_eq_true_eq] at h1
   rcases h1 with h1|h1
   ·omega
   ·obtain⟨j,hj,hj2⟩:=List.any_eq_true.1 h1
    simp only[Bool.and_eq_true,decide_eq_true_eq] at hj2
    have hjt:=List.mem_range.1 hj
    obtain⟨o',ho',e,he,hb,hon⟩:=Region.waitsFor_spec hj2.2
    have:o'=ot:=Option.some.inj (ho'.symm.trans hot)
    subst this
    have h2:=hall e he hb
    rw[hon,getD_both (inv.tail j hj2.1 (by omega))] at h2
    cases h2
theorem tB {n i:Nat} {oi:Oper} {S:dl} {L:Array Bool→cm→ij→Prop} (hi:ops[i]? =some oi) (hcalls:mo=true→fJ .any ops=true)
 (hs:Bk ops n=true) (hc:jN ops n=true) (hi0:0<i) (hin:i<n)
 (hdone:∀listed F Z,L listed F Z→∀j∈Region.ready .any ops listed,n≤j):
 ∀(f:Nat) (listed:Array Bool) (F:cm) (Z Z':ij),HeadInv .any ops n listed→
  (∀j oj,ops[j]? =some oj→j≠i→listed.getD j true=false→(∀e∈oj.after,Region.binds .any e=true→e.on≠i)→oi.apart ops oj=true)→
  i∈Region.ready .any ops listed→fh P ops Env Rl mo Pn N F Z oi S Z'→
  fV P .any ops Env Rl mo Pn N n L f (listed.setIfInBounds i true) (iK F oi.dst S) Z'→fV P .any ops Env Rl mo Pn N n L (f+1) listed F Z:=
 jG hi hcalls hin (fun _ inv hun t ht=>yx hs hc inv _ i rfl hi0 hin hun t ht) hdone
theorem qk {n:Nat} {perm:List Nat} {Lq:cm→ij→Prop} (hcalls:mo=true→fJ .any ops=true) (hs:Bk ops n=true) (hc:jN ops n=true):
 ∀(l:List Oper) (k:Nat) (listed:Array Bool) (F:cm) (Z:ij),0<k→(∀j,j<l.length→l[j]? =ops[k+j]?)→k+l.length=n→HeadInv .any ops n listed→
 gE ops n perm l.length k listed=true→(∀t,bR Rl (F t))→cw Z→eQ P ops Env Rl mo Pn N l F Z Lq→
 fV P .any ops Env Rl mo Pn N n (fun listed' F' Z'=>(nF ops perm listed'=true∧(Region.ready .any ops listed').all (fun j=>decide (n≤j))=true)∧Lq F' Z') l.length listed F Z
 |[],k,listed,F,Z,_,_,hk,_,hB,_,_,h=>by
  simp only[List.length_nil,gE,Bool.and_eq_true] at hB
  exact⟨hB,h⟩
 |o::l,k,listed,F,Z,hk0,hl,hk,inv,hB,hF,hZ,h=>by
  have h0:ops[k]? =some o:=by simpa using(hl 0 (by simp)).symm
  simp only[List.length_cons,gE,Bool.and_eq_true] at hB
  obtain⟨⟨hr,hf⟩,hB'⟩:=hB
  have hkn:k<n:=by simp only[List.length_cons] at hk;omega
  have hr':k∈Region.ready .any ops listed:=by simpa using hr
  obtain⟨S,Z',hspec,hrest⟩:=h hF hZ
  exact tB h0 hcalls hs hc hk0 hkn (fun listed' F' Z' hL j hj=>by simpa using List.all_eq_true.1 hL.1.2 j hj) l.length listed F Z Z' inv (Region.free_spec h0 hf) hr' hspec
   (qk hcalls hs hc l (k+1) _ _ _ (by omega) (fun j hj=>by have:=hl (j+1) (by simp;omega);simpa [Nat.add_assoc,Nat.add_comm 1 j] using this) (by simp only[List.length_cons] at hk;omega) (inv.set hr' hkn) hB' (gQ hF hspec.stable) (hspec.zst hZ) hrest)
def Hw (ops:Array Oper) (n:Nat) (perm:List Nat):Bool:=
 Region.noSelect ops&&decide (0<n)&&decide (n<ops.size)&&Bk ops n&&jN ops n&&decide (n+perm.length=ops.size)&&Region.free .any ops (Array.replicate ops.size false) 0&&(Region.ready .any ops (Array.replicate ops.size false)).contains 0&&gE ops n perm (n-1) 1 ((Array.replicate ops.size false).setIfInBounds 0 true)
theorem wm {Q:eG} {D:List Deferred} {l:Fr} {w:World} {id d:Nat} {x:Operand} {v:Value} {ty:TypeId} {pos:String} {aft:Array Edge} {os:List Oper} (n:Nat) (perm:List Nat) (ts:List Nat) (hm:P.follows .mixedOrders=true)
 (hB:Hw ((⟨some d,.move x,ty,pos,aft,none⟩:Oper)::os).toArray n perm=true) (hp:(perm.all fun i=>decide (i<os.length+1))=true) (hx:ev l x=some v) (hd:Nat.blt d N=true)
 (h:eQ P ((⟨some d,.move x,ty,pos,aft,none⟩:Oper)::os).toArray (aG w) aG false F5 N (os.take (n-1)) (nV ((d,v)::l)) (fun _=>True) (fun F _=>∀w',aG w w'→ga F w' ts (fun l'=>bT P ((⟨some d,.move x,ty,pos,aft,none⟩:Oper)::os).toArray (gJ Q) N D l' w' (px ((⟨some d,.move x,ty,pos,aft,none⟩:Oper)::os) perm)))):cD P Q N D l w (.region id ((⟨some d,.move x,ty,pos,aft,none⟩:Oper)::os).toArray true):=fun a ha=>by
 obtain⟨o,ho⟩:∃o:Oper,o=⟨some d,.move x,ty,pos,aft,none⟩:=⟨_,rfl⟩
 rw[←ho] at hB h⊢
 have ha':=ha.put hd v
 have hsat:tn N D (nV ((d,v)::l)) (a.put (some d) v) {w with drawn:=w.drawn+1}:=⟨ha'.size,ha'.defers,fun t=>by
  show nV ((d,v)::l) t ((a.put (some d) v).tmps.getD t undef) _
  unfold nV
  cases hv:lk ((d,v)::l) t with
  |some v=>exact ha'.at_ t v hv
  |none=>trivial⟩
 simp only[Hw,Bool.and_eq_true,decide_eq_true_eq] at hB
 obtain⟨⟨⟨⟨⟨⟨⟨⟨hsel,hn0⟩,hn⟩,hs⟩,hc⟩,hlen⟩,hf⟩,hr⟩,hlex⟩:=hB
 have hn':n<os.length+1:=by simpa using hn
 have htl:(os.take (n-1)).length=n-1:=by simp;omega
 have h00:(o::os).toArray[0]? =some o:=by simp
 have inv0:HeadInv .any (o::os).toArray n (Array.replicate (o::os).toArray.size false):=
  ⟨by simp,fun j oj _ hl=>(by rw[getD_replicate_false] at hl;cases hl),fun t _ ht=>getD_in (by simpa using ht) (getD_replicate_false _ _)⟩
 have hr':0∈Region.ready .any (o::os).toArray (Array.replicate (o::os).toArray.size false):=by simpa using hr
 have H:=qk (perm:=perm) (fun h=>by cases h) hs hc (os.take (n-1)) 1 _ _ _ (by omega) (fun j hj=>by
  have hj':j<n-1:=by rw[htl] at hj;exact hj
  simp[hj',Nat.add_comm 1 j]) (by rw[htl];omega) (inv0.set hr' (by omega)) (by rw[htl];exact hlex) (ey _) cw.triv (gu _ _ _ (fun F Z hK a' w' he hs=>by
   obtain⟨l',hl',hk⟩:=ga.use hs (hK w' he)
   exact hk a' hl':∀F (Z:ij),_→(∀a' w',aG w w'→tn N D F a' w'→wpList P (o::os).toArray (gJ Q) (px (o::os) perm) a' w')) h)
 have hpick:∀(perm:List Nat),(perm.all fun i=>decide (i<(o::os).length))=true→(perm.map fun i=>(o::os).toArray[i]?)=(px (o::os) perm).map some:=by
  intro perm
  induction perm with
  |nil=>intro _;rfl
  |cons i is ih=>
   intro hp
   simp only[List.all_cons,Bool.and_eq_true,decide_eq_true_eq] at hp
   have e:(o::os)[i]? =some (o::os)[i]:=List.getElem?_eq_getElem hp.1
   simp only[List.map_cons,px,e,List.getElem?_toArray]
   rw[←ih hp.2]
   simp
 have rest:=eJ (D:=D) (Q':=gJ Q) (l0:=[]) (g:=perm.length) (fg.plain w) (fun _ _ _ _ _ _ h=>h.elim) (fun _ _ _ _ _ _ _ hp=>by cases hp) (fun listed F Z hL hF hZ a' w' he hsat hz=>iq hsel perm (px (o::os) perm) listed a' w' (hpick perm (by simpa using hp)) hL.1.1 (hL.2 a' w' he hsat)) _ _ _ _ H (ey _) cw.triv (a.put (some d) v) {w with drawn:=w.drawn+1} ⟨rfl,rfl,rfl,Nat.le_refl _,fun _ _=>rfl⟩ hsat (fun _ hp=>by cases hp) trivial
 rw[htl] at rest
 refine wp_mono (wp_region_any (Q:=gJ Q) hm ?_) fun e a w he=>by obtain⟨rfl,h⟩:=he;exact h
 have hsz:(o::os).toArray.size=(n-1+perm.length)+1:=by rw[←hlen];omega
 rw[show wpAny P .any (o::os).toArray (gJ Q) (o::os).toArray.size=wpAny P .any (o::os).toArray (gJ Q) ((n-1+perm.length)+1) by rw[hsz]]
 have hval:(∀w':World,(execOp a.eval o).run P w'=.ok (.value v) w'):=fun w'=>by
  rw[ho]
  have hv:a.eval x=v:=ha.ev hx
  simp[execOp,hv]
 have hdst:o.dst=some d:=by rw[ho]
 exact wpAny_take h00 hsel hf hr (fun c a w hp=>by obtain⟨hp,_⟩:=hp;cases hp) (.inl ⟨by rw[ho];rfl,hval⟩) (by rw[hdst];exact rest)
end
end Go.Rl
namespace Go.Rl
open Go.RowKit Go.Proofs
theorem FG {n:Int} (h:mO n):1≤(dS n).length∧(dS n).length≤10:=⟨vc _,dy (Eg h.1 h.2)⟩
theorem cQ {α β:Type} {f:α→List β} {l:List α} {i:Nat} (hi:i<l.length):(l.take (i+1)).flatMap f=(l.take i).flatMap f++f l[i]:=by
 rw[List.take_succ_eq_append_getElem hi,List.flatMap_append,List.flatMap_singleton]
end Go.Rl
namespace Go.Rl
open Go.RowKit Go.Proofs
theorem sU {w:World} {g:Nat}:(Instr.sliceAt 22 (.pointer (some ⟨g,0,none⟩)) none none none).run Tryz.prog w=.ok (.slice (some ⟨g,0,none⟩) 32 32) w:=by
 simp[Instr.sliceAt,run_underlying Tryz.underlying22,Instr.sureAddr,Instr.sliceBounds,dP fa,Addr.add_mid]
theorem yy {X:Nat→Prop} {w:World}:∀(l:List Int),aK X w (l.map nf) (l.map I)
 |[]=>aK.nil
 |n::l=>aK.cons (a:=[I n]) (by simp only[nf,cT,I]) (yy l)
theorem eH.rpx {X:Nat→Prop} {w:World} {base:Nat} {l:List Int} {v:Value} (h:eH base l v w) (hX:∀k,v.ownBlock=some k→¬X k):cT X w (Hm l) [v]:=by
 obtain⟨n,h⟩:=h
 exact cT.ofOwn h (yy l) (by simp[xK]) (by omega) hX
end Go.Rl
namespace Go.Rl
open Go.RowKit Go.Proofs
section
variable {w:World} {g:Nat} {T:TypeId} {d:List UInt8} {v:Value}
def it (d:List UInt8) (v:Value):List Value:=d.map U8++[v]
abbrev gM:Value:=.slice none 0 0
theorem Bl (hd:d.length=32):(it d v).length=33:=by simp[it,hd]
theorem GU:nj.length=32:=rfl
theorem Ic:(Tryz.prog.info? 25).map (·.size)=some 33:=by kernel_rfl
theorem Aa:(Tryz.prog.info? 25).map (·.zero)=some (some (.agg (it nj gM).toArray)):=by kernel_rfl
theorem iu (hd:d.length=32):(Tryz.prog.info? 25).map (·.size)=some (it d v).length:=by rw[Bl hd];exact Ic
theorem FH (hv:v.oneCell'=true):aL (it d v):=fun u hu=>by
 rcases List.mem_append.1 hu with h|h
 ·exact kD d u h
 ·obtain rfl:=List.mem_singleton.1 h;exact hv
theorem FI:(Instr.fieldAt 25 (.pointer (some ⟨g,0,none⟩)) 0).run Tryz.prog w=.ok (.pointer (some ⟨g,0,none⟩)) w:=aI (o:=0) JB rfl (by kernel_rfl) rfl
theorem gF:(Instr.fieldAt 25 (.pointer (some ⟨g,0,none⟩)) 1).run Tryz.prog w=.ok (.pointer (some ⟨g,32,none⟩)) w:=aI (o:=32) JB rfl (by kernel_rfl) rfl
theorem Ie (k:cl g T (it d v) w) (hd:d.length=32):(Instr.loadAt 22 (.pointer (some ⟨g,0,none⟩))).run Tryz.prog w=.ok (.agg (d.map U8).toArray) w:=
 k.ldO (ms:=d.map U8) (o:=0) (fun j u hj=>by
  rw[Nat.zero_add,it,List.getElem?_append_left (by have:=(List.getElem?_eq_some_iff.1 hj).1;simpa using this)]
  exact hj) JA rfl (by rw[List.length_map,hd];exact mg)
theorem sV (k:cl g T (it d v) w) (hd:d.length=32):w.cell? ⟨g,32,none⟩=some v:=
 k.cell (i:=32) (by rw[it,List.getElem?_append_right (by simp[hd])];simp[hd])
theorem sW (k:cl g T (it d v) w) (hd:d.length=32):(Instr.loadAt 25 (.pointer (some ⟨g,0,none⟩))).run Tryz.prog w=.ok (.agg (it d v).toArray) w:=
 k.ld JB rfl (iu hd)
theorem If {l:List UInt8} (h:l.length=32):∃a0 a1 a2 a3 a4 a5 a6 a7 a8 a9 b0 b1 b2 b3 b4 b5 b6 b7 b8 b9 c0 c1 c2 c3 c4 c5 c6 c7 c8 c9 d0 d1,l=[a0,a1,a2,a3,a4,a5,a6,a7,a8,a9,b0,b1,b2,b3,b4,b5,b6,b7,b8,b9,c0,c1,c2,c3,c4,c5,c6,c7,c8,c9,d0,d1]:=by
 match l,h with
 |[a0,a1,a2,a3,a4,a5,a6,a7,a8,a9,b0,b1,b2,b3,b4,b5,b6,b7,b8,b9,c0,c1,c2,c3,c4,c5,c6,c7,c8,c9,d0,d1],_=>exact⟨a0,a1,a2,a3,a4,a5,a6,a7,a8,a9,b0,b1,b2,b3,b4,b5,b6,b7,b8,b9,c0,c1,c2,c3,c4,c5,c6,c7,c8,c9,d0,d1,rfl⟩
theorem C8 (hd:d.length=32) (hv:∃A n c,v=.slice A n c):(Instr.build 25 #[(0,.agg (d.map U8).toArray),(1,v)]).run Tryz.prog w=.ok (.agg (it d v).toArray) w:=by
 obtain⟨a0,a1,a2,a3,a4,a5,a6,a7,a8,a9,b0,b1,b2,b3,b4,b5,b6,b7,b8,b9,c0,c1,c2,c3,c4,c5,c6,c7,c8,c9,d0,d1,rfl⟩:=If hd
 obtain⟨A,n,c,rfl⟩:=hv
 exact run_build _ _ _ _ (by kernel_rfl)
theorem fC:(Instr.build 25 #[]).run Tryz.prog w=.ok (.agg (it nj gM).toArray) w:=run_build _ _ _ _ (by kernel_rfl)
theorem jR {l:List Value} (k:cl g T l w) (hl:l.length=33) (hd:d.length=32) (hv:v.oneCell'=true):∃w',(Instr.storeAt 25 (.pointer (some ⟨g,0,none⟩)) (.agg (it d v).toArray)).run Tryz.prog w=.ok () w'∧w.grownBy w' (some g)∧cl g T (it d v) w':=
 k.stS (m:=it d v) (by rw[hl,Bl hd]) (iu hd) (FH hv)
end
def kq (base:Nat) (l:List UInt8) (r:Value) (w:World):Prop:=∃v,r=.tuple #[.agg (it (iI l).1.1 v).toArray,I (iI l).2]∧cT (fun k=>k<base) w (.sl ((iI l).1.2.map bh)) [v]
theorem kq.err {base:Nat} {l:List UInt8} {w:World} {n:Int} (h:iI l=(uA,n)):kq base l (.tuple #[.agg (it nj gM).toArray,I n]) w:=⟨_,by rw[h];rfl,by rw[h];exact cT.nilSl⟩
theorem kq.ok {base:Nat} {l dg:List UInt8} {ts:List aN} {w:World} {v:Value} (h:iI l=((dg,ts),0)) (hv:cT (fun k=>k<base) w (.sl (ts.map bh)) [v]):kq base l (.tuple #[.agg (it dg v).toArray,I 0]) w:=⟨v,by rw[h],by rw[h];exact hv⟩
theorem Da {w:World} {l:List UInt8} {v:Value} (hl:l.length≤1048576) (hv:ci ((l.take (l.length-32)).drop 36) v w):
 Calls Tryz.prog 53 #[v,I 4194304] w (bD fun r w'=>aG w w'∧∃u,r=.tuple #[u,I (tm l).2]∧ci (tm l).1 u w'):=
 bD.mono (CP hv (by rw[List.length_drop,List.length_take];omega) (by omega) (by omega) (fun n t _ h=>by omega)) fun r w' h=>⟨h.1,by have:=Fu h.2;rwa [FC hl] at this⟩
theorem FJ {w:World} {b:List UInt8} {v:Value} (hv:ci b v w) (hl:b.length≤549755813888):
 Calls Tryz.prog 54 #[v] w (bD fun r w'=>aG w w'∧∃(vt:Value) (e:Int),r=.tuple #[vt,I e]∧vt.oneCell'=true∧((e=0∧∃ts:List aN,Bi b=some ts∧cT (fun k=>k<w.heap.size) w' (.sl (ts.map bh)) [vt])∨(e=5∧Bi b=none))):=
 bD.mono (xT hv hl) fun r w' ⟨h1,vt,h2,h3⟩=>⟨h1,vt,by
  rcases h3 with⟨h3,ts,h4,h5⟩|⟨h3,h4⟩
  ·exact⟨0,h3,h2,.inl ⟨rfl,ts,yu h4,h5⟩⟩
  ·exact⟨5,h3,h2,.inr ⟨rfl,FA h4⟩⟩⟩
theorem mh {α:Type} {p:α→Bool} {l:List α} {i:Nat} (hi:i<l.length) (h:l.all p=(l.drop i).all p) (h1:p l[i]=true):l.all p=(l.drop (i+1)).all p:=by rw[h,yv hi,h1,Bool.true_and]
theorem jp {α:Type} {p:α→Bool} {l:List α} {i:Nat} (hi:i<l.length) (h:l.all p=(l.drop i).all p) (h1:p l[i]=false):l.all p=false:=by rw[h,yv hi,h1,Bool.false_and]
theorem jE {α:Type} {p:α→Bool} {l:List α} {i:Nat} (hi:l.length≤i) (h:l.all p=(l.drop i).all p):l.all p=true:=by rw[h,List.drop_eq_nil_of_le hi];rfl
end Go.Rl
namespace Go.Rl
open Go.RowKit Go.Proofs
theorem oN:aw Tryz.prog 19:=⟨_,Tryz.func19,by kernel_rfl,rfl⟩
theorem oP {w:World} {l:List UInt8} {v:Value} (hv:ci l v w):
 Calls Tryz.prog 19 #[v] w (bD fun r w'=>aG w w'∧kq w.heap.size l r w'):=by
 refine enter (vs:=[v]) Tryz.func19 JL JL JL ?_
 have hll:=hv.len
 refine af (aa ?_)
 obtain⟨g2,w2,hr2,l2,x2,k2⟩:=bc (P:=Tryz.prog) (w:=w) (t:=25) (z:=.agg (it nj gM).toArray) (l:=it nj gM) Aa rfl
 refine bf JL hr2 ?_
 refine ac JL JL (ag (ab (af (af (aa (ae JL JL (aP JL JL (bP (hv.ext x2)) (aj JL JL JL (cg) (ag (ab ?_))))))))))
 refine ba JL (fun h13=>?_) (fun h13=>?_)
 ·have h1:1048576<l.length:=by omega
  refine af (aa ?_)
  refine bI (vs:=[]) (r:=.agg (it nj gM).toArray) JL JL fC ?_
  obtain⟨w2_1,s2_1,q2_1,k2_1⟩:=jR (d:=nj) (v:=gM) (k2.ext (aG.refl _)) rfl rfl rfl
  refine aC JL JL s2_1 ?_
  have x2_1:=aG.of_new (x2) q2_1 l2
  refine ac JL JL (ag (ab (au (ax ?_))))
  refine d9 JL JL JL k2_1 JB JL (iu JL) ?_
  exact⟨_,rfl,x2_1,kq.err (C0 h1)⟩
 ·have h1:¬1048576<l.length:=by omega
  refine ar (ab (af (af ?_)))
  rcases Nat.lt_or_ge l.length 68 with h68|h68
  ·refine aa (ae JL JL (aP JL JL (bP (hv.ext x2)) (aj JL JL JL (dv (by omega) aS) (ae JL JL (aq JL JL JL (aq JL JL JL (aq JL JL JL ?_)))))))
   refine aq JL JL JL (aB JL JL JL (ag (ab (bJ JL (af (aa ?_))))))
   refine bI (vs:=[]) (r:=.agg (it nj gM).toArray) JL JL fC ?_
   obtain⟨w4_1,s4_1,q4_1,k4_1⟩:=jR (d:=nj) (v:=gM) (k2.ext (aG.refl _)) rfl rfl rfl
   refine aC JL JL s4_1 ?_
   have x4_1:=aG.of_new (x2) q4_1 l2
   refine ac JL JL (ag (ab (au (ax ?_))))
   refine d9 JL JL JL k4_1 JB JL (iu JL) ?_
   exact⟨_,rfl,x4_1,kq.err (pO h1 (by first|exact .inl h68|exact .inr h2))⟩
  ·refine aa (ae JL JL (aP JL JL (bP (hv.ext x2)) (aj JL JL JL (eF (by omega) aS) (ae JL JL (al JL (ae JL JL (al JL ?_)))))))
   obtain⟨v20,p20,b20⟩:=jg (hv.ext x2) (hi:=4) (by omega) .i64
   refine cY JL JL JL JL JL (p20 _) (al JL (aQ JL JL (qZ b20) (al JL (aj (v:=S [82,76,85,67]) JL JL JL (Gc) (aH JL JL JL ?_)))))
   refine ag (ab ?_)
   refine ba JL (fun h23=>?_) (fun h23=>?_)
   ·have h2:l.take 4≠eV:=h23
    refine af (aa ?_)
    refine bI (vs:=[]) (r:=.agg (it nj gM).toArray) JL JL fC ?_
    obtain⟨w4_1,s4_1,q4_1,k4_1⟩:=jR (d:=nj) (v:=gM) (k2.ext (aG.refl _)) rfl rfl rfl
    refine aC JL JL s4_1 ?_
    have x4_1:=aG.of_new (x2) q4_1 l2
    refine ac JL JL (ag (ab (au (ax ?_))))
    refine d9 JL JL JL k4_1 JB JL (iu JL) ?_
    exact⟨_,rfl,x4_1,kq.err (pO h1 (by first|exact .inl h68|exact .inr h2))⟩
   ·have h2:¬(l.length<68∨l.take 4≠eV):=fun hh=>hh.elim (fun hh=>by omega) h23
    refine ar (ab (af (aa (ae JL JL (aP JL JL (bP (hv.ext x2)) (aj (r:=I ((l.length-32:Nat):Int)) JL JL JL (by have e:((l.length-32:Nat):Int)=(l.length:Int)-32:=(by omega);rw[e];exact aY (by omega) (by omega)) ?_))))))
    refine ac JL JL (ac JL JL (ag (ab (af (af (bm 9 [0,2,4,5,31,36] (by kernel_rfl) (by kernel_rfl) ?_))))))
    have hvg:=hv.ext x2
    obtain⟨v30,p30,b30⟩:=jg hvg (hi:=l.length-32) (by omega) .i64
    obtain⟨v34,p34,b34⟩:=iB hvg (lo:=l.length-32) (by omega) .i64
    have l34:(l.drop (l.length-32)).length=32:=by rw[List.length_drop];omega
    obtain⟨ad,p35,c35⟩:=Ht b34 l34
    refine ao rfl rfl (ao rfl rfl (gx (a:=none) (b:=some (I ((l.length-32:Nat):Int))) rfl rfl rfl rfl (fun w _=>p30 w) (bW (S:=Is (.agg ((iL (l.take (l.length-32))).map U8).toArray)) ux (bo.is _) rfl (fun w hw=>by rintro _ rfl;exact(uy (b30.ext hw))) ?_)))
    refine ao JL JL (ao JL JL (gx (a:=some (I ((l.length-32:Nat):Int))) (b:=none) JL JL JL JL (fun w _=>p34 w) (C7 JL JL (fun w _=>p35 w) ?_)))
    refine aD JL JL (fun w hw=>Bj (c35.ext hw) l34) (bu ?_)
    intro wg6 xg6
    rintro _ hq0
    obtain rfl:=Eq.symm hq0
    rintro _ rfl
    rintro _ rfl
    rintro _ rfl
    rintro _ rfl
    rintro _ rfl
    refine aj JL JL JL ((by exact I1 (dn _) l34)) (ag (ab ?_))
    refine ba JL (fun h37=>?_) (fun h37=>?_)
    ·have h3:iL (l.take (l.length-32))≠l.drop (l.length-32):=h37
     refine af (aa ?_)
     refine bI (vs:=[]) (r:=.agg (it nj gM).toArray) JL JL fC ?_
     obtain⟨w7_1,s7_1,q7_1,k7_1⟩:=jR (d:=nj) (v:=gM) (k2.ext (xg6)) rfl rfl rfl
     refine aC JL JL s7_1 ?_
     have x7_1:=aG.of_new ((x2.trans xg6)) q7_1 l2
     refine ac JL JL (ag (ab (au (ax ?_))))
     refine d9 JL JL JL k7_1 JB JL (iu JL) ?_
     exact⟨_,rfl,x7_1,kq.err (yt h1 h2 h3)⟩
    ·have h3:¬iL (l.take (l.length-32))≠l.drop (l.length-32):=h37
     refine ar (ab (af (aa (ae JL JL (ae JL JL (ae JL JL ?_))))))
     obtain⟨v43,p43,b43⟩:=ra (hv.ext (x2.trans xg6)) (lo:=36) (hi:=l.length-32) (by omega) (by omega) .i64 .i64
     refine cY JL JL JL JL JL (p43 _) (am CM JL JL ((Da (by omega) b43)) ?_)
     rintro v44 w44 ⟨x44,vu,rfl,bU⟩
     refine ae JL JL (an JL JL (bw) (an JL JL (bz) (ac JL JL (ac JL JL (ag (ab (af (af (aa (ae JL JL (aj JL JL JL (dj) ?_)))))))))))
     refine ag (ab ?_)
     refine ba JL (fun h48=>?_) (fun h48=>?_)
     ·have h4:(tm l).2≠0:=h48
      refine af (aa ?_)
      refine bI (vs:=[]) (r:=.agg (it nj gM).toArray) JL JL fC ?_
      refine ae JL JL ?_
      obtain⟨w10_2,s10_2,q10_2,k10_2⟩:=jR (d:=nj) (v:=gM) (k2.ext ((xg6.trans x44))) rfl rfl rfl
      refine aC JL JL s10_2 ?_
      have x10_2:=aG.of_new (((x2.trans xg6).trans x44)) q10_2 l2
      refine ac JL JL (ag (ab (au (ax ?_))))
      refine d9 JL JL JL k10_2 JB JL (iu JL) ?_
      exact⟨_,rfl,x10_2,kq.err (FB h1 h2 h3 rfl h4)⟩
     ·have h4:(tm l).2=0:=Classical.byContradiction h48
      have hul:=GR (l:=l)
      have e2u:=(xg6.trans x44)
      refine ar (ab (af (aa (ae JL JL (am xS JL JL ((FJ (b:=(tm l).1) bU (by omega))) ?_)))))
      rintro v53 w53 ⟨x53,vt,e5,rfl,h1v,hT⟩
      refine ae JL JL (an JL JL (bw) (an JL JL (bz) (ac JL JL (ac JL JL (ag (ab (af (af (aa (ae JL JL (aj JL JL JL (dj) ?_)))))))))))
      refine ag (ab ?_)
      refine ba JL (fun h57=>?_) (fun h57=>?_)
      ·have he5:e5=5∧Bi (tm l).1=none:=hT.resolve_left (fun h=>h57 h.1)
       refine af (aa ?_)
       refine bI (vs:=[]) (r:=.agg (it nj gM).toArray) JL JL fC ?_
       refine ae JL JL ?_
       obtain⟨w13_2,s13_2,q13_2,k13_2⟩:=jR (d:=nj) (v:=gM) (k2.ext (((xg6.trans x44).trans x53))) rfl rfl rfl
       refine aC JL JL s13_2 ?_
       have x13_2:=aG.of_new ((((x2.trans xg6).trans x44).trans x53)) q13_2 l2
       refine ac JL JL (ag (ab (au (ax ?_))))
       refine d9 JL JL JL k13_2 JB JL (iu JL) ?_
       exact⟨_,rfl,x13_2,kq.err (by rw[he5.1];exact GP h1 h2 h3 h4 he5.2)⟩
      ·have he5:e5=0:=Classical.byContradiction h57
       obtain⟨ts,hts0,rts⟩:∃ts:List aN,Bi (tm l).1=some ts∧cT (fun k=>k<w44.heap.size) w53 (.sl (ts.map bh)) [vt]:=hT.elim (fun h=>h.2) (fun h=>by have:=h.1;omega)
       have hD:=GQ h1 h2 h3 h4 hts0
       have hts:cK bh ts vt w53:=rts.rp
       have htl:=hts.len
       have e53:=(((x2.trans xg6).trans x44).trans x53)
       have e253:=((xg6.trans x44).trans x53)
       refine ar (ab (af (af (aa (ae JL JL (aP JL JL (bO Jk hts) (ae JL JL (ag (ab (av ?_))))))))))
       refine ck (α:=Nat) (fun i=>[(0,v),(2,.pointer (some ⟨g2,0,none⟩)),(4,I 36),(8,vt),(60,vt),(61,I (ts.length:Int)),(62,I (i:Int))]) (fun i w'=>aG w w'∧aG w53 w'∧i≤ts.length∧ts.all eS=(ts.drop i).all eS) (fun i=>ts.length-i) (0) ⟨rfl,rfl,rfl,rfl,rfl,rfl,rfl,trivial⟩ ⟨(((x2.trans xg6).trans x44).trans x53),aG.refl _,by omega,rfl⟩ ?_
       rintro i wL ⟨eL,e5L,hi,hall⟩
       refine af (aa (aj JL JL JL (aS) (ag (ab (af ?_)))))
       refine ba JL (fun h63=>?_) (fun h63=>?_)
       ·refine ar (ab (af (av (af (aa ?_)))))
        obtain⟨a64,c64,p64,q64,h64⟩:=cO (P:=Tryz.prog) (sz:=9) Jk (by kernel_rfl) bK (by omega) (hts.ext e5L) (i:=i) (by omega) .i64
        obtain⟨e64,he64⟩:∃e,e=ts[i]'(by omega):=⟨_,rfl⟩
        rw[←he64] at h64
        obtain⟨x64_0,x64_1,x64_2,x64_3,x64_4,rfl,f64_0,f64_1,f64_2,f64_3,f64_4⟩:=dh h64
        refine ap JL JL JL (p64 _) (ak JL JL (q64.ld Jg JL (by kernel_rfl)) ?_)
        obtain⟨g10,w10,hr10,l10,x10,k10⟩:=bc (P:=Tryz.prog) (w:=wL) (t:=83) (z:=.agg #[.slice none 0 0,I 0,I 0,B false,.slice none 0 0,.slice none 0 0,.slice none 0 0,B false,.slice none 0 0]) (l:=[.slice none 0 0,I 0,I 0,B false,.slice none 0 0,.slice none 0 0,.slice none 0 0,B false,.slice none 0 0]) (by kernel_rfl) rfl
        refine bf JL hr10 ?_
        obtain⟨w16_3,s16_3,q16_3,k16_3⟩:=k10.stS (P:=Tryz.prog) (t:=83) (m:=[x64_0,I e64.split.kd,I e64.split.ix,B e64.split.at_.1,x64_1,x64_2,x64_3,B e64.empty,x64_4]) rfl (by kernel_rfl) (aL.cons f64_0.one (aL.cons rfl (aL.cons rfl (aL.cons rfl (aL.cons f64_1.one (aL.cons f64_2.one (aL.cons f64_3.one (aL.cons rfl (aL.cons f64_4.one aL.nil)))))))))
        refine aC JL JL s16_3 ?_
        have x16_3:=aG.of_new (x10) q16_3 l10
        refine ag (ab (af (aa (ak JL JL (k16_3.ld Jg JL (by kernel_rfl)) (am jo JL JL ((pE (n:=e64) (f64_0.ext x16_3) (f64_1.ext x16_3) (f64_2.ext x16_3) (f64_3.ext x16_3) (f64_4.ext x16_3))) ?_)))))
        rintro v67 w67 ⟨x67,rfl⟩
        refine bB JL JL bF (ag (ab ?_))
        refine eZ JL (fun h68=>?_) (fun h68=>?_)
        ·have hno:eS (ts[i]'(by omega))=false:=by rw[←he64];simpa using h68
         refine af (aa ?_)
         refine bI (vs:=[]) (r:=.agg (it nj gM).toArray) JL JL fC ?_
         obtain⟨w18_1,s18_1,q18_1,k18_1⟩:=jR (d:=nj) (v:=gM) ((k2.ext e253).ext (((e5L.trans x16_3).trans x67))) rfl rfl rfl
         refine aC JL JL s18_1 ?_
         have x18_1:=aG.of_new (((eL.trans x16_3).trans x67)) q18_1 l2
         refine ac JL JL (ag (ab (au (aT (ax (ax (aT (ax ?_))))))))
         refine d9 JL JL JL k18_1 JB JL (iu JL) ?_
         exact⟨_,rfl,x18_1,kq.err (by rw[hD,if_neg (by rw[jp (by omega) hall hno];simp)])⟩
        ·have hyes:eS (ts[i]'(by omega))=true:=by rw[←he64];simpa using h68
         refine ar (aM (ab (aa (aj (r:=I ((i+1:Nat):Int)) JL JL JL (by have e:((i+1:Nat):Int)=(i:Int)+1:=(by omega);rw[e];exact aE (by omega) (by omega)) ?_))))
         refine ae JL JL (ag ?_)
         refine bN (i+1) ⟨rfl,rfl,rfl,rfl,rfl,rfl,rfl,trivial⟩ ⟨((eL.trans x16_3).trans x67),((e5L.trans x16_3).trans x67),by omega,mh (by omega) hall hyes⟩ (by omega)
       ·refine aX (aA (aA (aV (ab (af ?_)))))
        have hav:=jE (by omega) hall
        obtain⟨v73,p73,b73⟩:=ra (hv.ext eL) (lo:=4) (hi:=36) (by omega) (by omega) .i64 .i64
        have l73:((l.take 36).drop 4).length=32:=by rw[List.length_drop,List.length_take];omega
        obtain⟨ad4,p74,c74⟩:=Ht b73 l73
        have hts2:=hts.ext e5L
        obtain⟨At,nt,ct,evt⟩:=hts2.isS
        refine aa (ae JL JL (ae JL JL (cY JL JL JL JL JL (p73 _) (tC JL JL (p74 _) (ak JL JL (Bj c74 l73) (ae JL JL ?_))))))
        refine bI (vs:=[(0,.agg (((l.take 36).drop 4).map U8).toArray),(1,vt)]) (r:=.agg (it ((l.take 36).drop 4) vt).toArray) JL JL (C8 l73 ⟨At,nt,ct,evt⟩) ?_
        obtain⟨w20_7,s20_7,q20_7,k20_7⟩:=jR (d:=(l.take 36).drop 4) (v:=vt) ((k2.ext e253).ext (e5L)) rfl l73 hts2.one
        refine aC JL JL s20_7 ?_
        have x20_7:=aG.of_new (eL) q20_7 l2
        have m20:Mv (fun k=>k=g2) wL w20_7:=Mv.of_grown q20_7 fun k hk _=>(Option.some.inj hk).symm
        have r20:=rts.ext (e5L)
        refine ac JL JL (ag (ab (au ?_)))
        refine d9 JL JL JL k20_7 JB JL (iu l73) ?_
        exact⟨_,rfl,x20_7,kq.ok (by rw[hD,if_pos hav]) (r20.mv (m20.weak (fun k hk hlt=>by have:k=g2:=hk;have:=k2.lt;have:=e2u.size;show k<w44.heap.size;omega)) fun k hk=>.inl (Nat.lt_of_lt_of_le hk (by have:=x2.size;have:=e2u.size;omega)))⟩
end Go.Rl
namespace Go.Rl
open Go.RowKit Go.Proofs
end Go.Rl
namespace Go.Rl
open Go.RowKit Go.Proofs
theorem lr:aw Tryz.prog 46:=⟨_,Tryz.func46,by kernel_rfl,rfl⟩
theorem mi:aw Tryz.prog 67:=⟨_,Tryz.func67,by kernel_rfl,rfl⟩
theorem lu:aw Tryz.prog 70:=⟨_,Tryz.func70,by kernel_rfl,rfl⟩
theorem Ab:aw Tryz.prog 101:=⟨_,Tryz.func101,by kernel_rfl,rfl⟩
theorem i0:aw Tryz.prog 100:=⟨_,Tryz.func100,by kernel_rfl,rfl⟩
theorem mj:aw Tryz.prog 99:=⟨_,Tryz.func99,by kernel_rfl,rfl⟩
theorem mm:aw Tryz.prog 47:=⟨_,Tryz.func47,by kernel_rfl,rfl⟩
theorem Ac:aw Tryz.prog 43:=⟨_,Tryz.func43,by kernel_rfl,rfl⟩
theorem iJ:(Tryz.prog.info? 28).map (·.size)=some 1:=by kernel_rfl
theorem gG {w:World} {g:Nat}:(Instr.fieldAt 95 (.pointer (some ⟨g,0,none⟩)) 0).run Tryz.prog w=.ok (.pointer (some ⟨g,0,none⟩)) w:=aI (o:=0) Tryz.underlying95 rfl (by kernel_rfl) rfl
def GV (T:TypeId) (base g:Nat) (l:List UInt8) (v:Value) (w:World) (w':World):Prop:=∃v',fm T base g l v' w'∧cM g v w v' w'
theorem I3 {a:Int} (ha:mO a):∀n∈[a],mO n:=fun n hn=>by
 simp only[List.mem_cons,List.not_mem_nil,or_false] at hn
 subst hn;exact ha
theorem I4 {a b:Int} (ha:mO a) (hb:mO b):∀n∈[a,b],mO n:=fun n hn=>by
 simp only[List.mem_cons,List.not_mem_nil,or_false] at hn
 rcases hn with rfl|rfl<;>assumption
theorem Hx {a b c d:Int} (ha:mO a) (hb:mO b) (hc:mO c) (hd:mO d):∀n∈[a,b,c,d],mO n:=fun n hn=>by
 simp only[List.mem_cons,List.not_mem_nil,or_false] at hn
 rcases hn with rfl|rfl|rfl|rfl<;>assumption
theorem lw {α:Type} {f:α→List UInt8} (l:List α) (k:Nat):((l.take k).flatMap f).length≤(l.flatMap f).length:=by
 have h:(l.flatMap f)=(l.take k).flatMap f++(l.drop k).flatMap f:=by rw[←List.flatMap_append,List.take_append_drop]
 rw[h,List.length_append]
 omega
theorem eY {α:Type} {f:α→List UInt8} {l:List α} {i:Nat} (hi:i<l.length):((l.take i).flatMap f).length+(f l[i]).length≤(l.flatMap f).length:=by
 have h:=lw (f:=f) l (i+1)
 rw[cQ hi,List.length_append] at h
 exact h
theorem ly {T:TypeId} {w:World} {b g:Nat} {l:List UInt8} {n:Nat} {v:Value} (hW:fm T b g l v w) (h0:b≤w.heap.size) (hl:l.length≤35184372088832) (hn:n≤9223372036854775807):
 Calls Tryz.prog 46 #[.pointer (some ⟨g,0,none⟩),I (n:Int)] w (bD fun _ w'=>GV T b g (l++uv n) v w w'):=by
 refine enter (vs:=[.pointer (some ⟨g,0,none⟩),I (n:Int)]) Tryz.func46 JL JL JL ?_
 have kg:=hW.blk
 have hun:(UInt64.ofNat n).toNat=n:=by rw[UInt64.toNat_ofNat'];omega
 refine wm 8 [8,9,10,11] [4,8,11] (by kernel_rfl) (by kernel_rfl) JL JL JL ?_
 refine ao JL JL (cp JL JL ?_)
 refine aF JL JL (fun w _=>gG) ?_
 refine aD JL JL (fun w hw=>ai Jl JL (hw.cell_some kg.k0)) (ao JL JL (dk JL JL (fun w hw=>cZ Jh Ji) ?_))
 refine bW (S:=ci (uv n)) iM (ci.stable _) rfl (fun w hw=>by rintro _ rfl _ rfl;exact bD.mono (iN (n:=UInt64.ofNat n) (ci.nil _) (by simp)) fun v w' h=>⟨h.1,by have:=h.2.bts;rwa [hun,List.nil_append] at this⟩) ?_
 refine bu ?_
 intro wg0 xg0
 rintro _ rfl
 rintro _ hq8
 obtain rfl:=Eq.symm hq8
 intro vg11 b11
 have hun2:=vc n
 have hun3:=dy (n:=n) (by omega)
 obtain⟨v12,wa,wb,hr12,hs12,hW',st12⟩:=fm.put (t:=28) (t2:=28) (ty:=28) Jl iJ Jl (hW.ext xg0) (Nat.le_trans h0 xg0.size) b11 (by omega) (by omega)
 refine aW JL JL hr12 ?_
 refine aZ JL JL ?_
 refine ah JL JL gG ?_
 refine aC JL JL (hs12) (ag (vB (fP JL ?_)))
 exact⟨_,rfl,v12,hW',(cM.of_ext xg0).trans st12⟩
theorem mn {T:TypeId} {w:World} {b g:Nat} {l:List UInt8} {ns:List Int} {nv v:Value} (hW:fm T b g l v w) (h0:b≤w.heap.size) (hv:cT (WrX g v) w (Hm ns) [nv]) (hi64:∀n∈ns,mO n) (hl:l.length+10*ns.length≤35184372088832):
 Calls Tryz.prog 67 #[.pointer (some ⟨g,0,none⟩),nv] w (bD fun _ w'=>GV T b g (l++ns.flatMap dS) v w w'):=by
 refine enter (vs:=[.pointer (some ⟨g,0,none⟩),nv]) Tryz.func67 JL JL JL ?_
 have hd:cK nf ns nv w:=hv.rp
 have hll:=hd.len
 refine af (aa (ae JL JL (aP JL JL (bO JE hd) (ae JL JL (ag (ab (av ?_)))))))
 refine dA (fun(i:Nat) (u:Value)=>[(0,.pointer (some ⟨g,0,none⟩)),(6,nv),(7,I (ns.length:Int)),(8,I (i:Int))]) (fun(i:Nat) (u:Value) w'=>fm T b g (l++(ns.take i).flatMap dS) u w'∧cM g v w u w'∧i≤ns.length∧((ns.take i).flatMap dS).length≤10*i) (fun(i:Nat) (u:Value)=>ns.length-i) (0) (v) ⟨rfl,rfl,rfl,rfl,trivial⟩ ⟨by simpa using hW,cM.refl,by omega,by simp⟩ ?_
 rintro i u wL ⟨hW1,st1,hi,hle⟩
 refine af (aa (aj JL JL JL (aS) (ag (ab (af ?_)))))
 refine ba JL (fun h9=>?_) (fun h9=>?_)
 ·have hd1:cK nf ns nv wL:=(hv.step st1).rp
  refine ar (ab (af (av (af (aa ?_)))))
  obtain⟨a10,c10,p10,q10,h10⟩:=cO (P:=Tryz.prog) (sz:=1) JE (by kernel_rfl) xK (by omega) hd1 (i:=i) (by omega) .i64
  obtain⟨e10,he10⟩:∃e,e=ns[i]'(by omega):=⟨_,rfl⟩
  rw[←he10] at h10
  obtain rfl:=Gv h10
  refine ap JL JL JL (p10 _) ?_
  have hn:=hi64 e10 (by rw[he10];exact List.getElem_mem _)
  have hen:=FG hn
  refine ak JL JL (ai Jh JL q10.cell0) (ac JL JL (ag (ab ?_)))
  have kg:=hW1.blk
  refine wm 7 [7,8,9,10] [0,6,7,8,12,16,18] (by kernel_rfl) (by kernel_rfl) JL JL JL ?_
  refine ao JL JL (cp JL JL ?_)
  refine aF JL JL (fun w _=>gG) ?_
  refine aD rfl rfl (fun w hw=>ai Tryz.underlying28 rfl (hw.cell_some kg.k0)) (ao rfl rfl (bW (S:=ci (dS e10)) rE (ci.stable _) rfl (fun w hw=>by rintro _ rfl _ rfl;exact bD.mono (rF (n:=e10) (ci.nil _) (by simp) hn.1 hn.2) fun v w' h=>⟨h.1,by have:=h.2.bts;rwa [List.nil_append] at this⟩) ?_))
  refine bu ?_
  intro wg3 xg3
  rintro _ rfl
  rintro _ hq6
  obtain rfl:=Eq.symm hq6
  rintro _ rfl
  rintro _ rfl
  rintro _ rfl
  rintro _ hq16
  obtain rfl:=Eq.symm hq16
  intro vg18 b18
  obtain⟨v19,wa,wb,hr19,hs19,hW2,st19⟩:=fm.put (t:=28) (t2:=28) (ty:=28) Tryz.underlying28 iJ Tryz.underlying28 (hW1.ext xg3) (Nat.le_trans h0 (Nat.le_trans st1.mv.size xg3.size)) b18 (by omega) (by simp only[List.length_append];omega)
  refine aW JL JL hr19 ?_
  refine aZ JL JL ?_
  refine ah JL JL gG ?_
  refine aC JL JL (hs19) (ag (vB (aM (ab (aa (aj (r:=I ((i+1:Nat):Int)) JL JL JL (by have e:((i+1:Nat):Int)=(i:Int)+1:=(by omega);rw[e];exact aE (by omega) (by omega)) ?_))))))
  refine ae JL JL (ag ?_)
  refine cF (i+1) (v19) ⟨rfl,rfl,rfl,rfl,trivial⟩ ⟨by rw[cQ (by omega),←he10,←List.append_assoc];exact hW2,(st1.trans (cM.of_ext xg3)).trans st19,by omega,by rw[cQ (by omega),←he10,List.length_append];omega⟩ (by omega)
 ·refine aX (aA (aA (aV (fP JL ?_))))
  exact⟨_,rfl,u,by rw[List.take_of_length_le (by omega)] at hW1;exact hW1,st1⟩
theorem lz {T:TypeId} {wz w:World} {g:Nat} {l:List UInt8} {q:fx} {x y v:Value} (ez:aG wz w) (hW:fm T wz.heap.size g l v w) (hx:bj q.2.1 x wz) (hy:bj q.2.2 y wz) (hl:l.length+(iR q).length≤4398046511104):
 Calls Tryz.prog 70 #[.pointer (some ⟨g,0,none⟩),.agg #[B q.1,x,y]] w (bD fun _ w'=>GV T wz.heap.size g (l++iR q) v w w'):=by
 refine enter (vs:=[.pointer (some ⟨g,0,none⟩),.agg #[B q.1,x,y]]) Tryz.func70 JL JL JL ?_
 have hqa:=oF q
 have hq1:1≤(iR q).length:=by simp only[iR,oo,List.length_append,List.length_cons,List.length_nil];omega
 refine af (aa ?_)
 obtain⟨g3,w3,hr3,l3,x3,k3⟩:=cI (P:=Tryz.prog) (w:=w) (T:=55) (cs:=[B q.1,x,y])
 refine cx JL JL hr3 (ag (ab ?_))
 have hW3:=hW.ext x3
 have kg:=hW3.blk
 refine wm 7 [7,8,9,10] [4,8,10] (by kernel_rfl) (by kernel_rfl) JL JL JL ?_
 refine ao JL JL (cp JL JL ?_)
 refine aF JL JL (fun w _=>gG) ?_
 refine aD JL JL (fun w hw=>ai Jl JL (hw.cell_some kg.k0)) (aD JL JL (fun w hw=>(k3.ext hw).ld Jj JL (by kernel_rfl)) ?_)
 refine bW (S:=ci (iR q)) rJ (ci.stable _) rfl (fun w hw=>by rintro _ rfl _ rfl;exact bD.mono (rL (ci.nil _) (dw.mk ((hx.ext (ez.trans x3)).ext hw) ((hy.ext (ez.trans x3)).ext hw)) (by simp only[List.length_nil];omega)) fun v w' h=>⟨h.1,by have:=h.2.bts;rwa [List.nil_append] at this⟩) ?_
 refine bu ?_
 intro wg1 xg1
 rintro _ rfl
 rintro _ hq8
 obtain rfl:=Eq.symm hq8
 intro vg10 b10
 obtain⟨v11,wa,wb,hr11,hs11,hW2,st11⟩:=fm.put (t:=28) (t2:=28) (ty:=28) Jl iJ Jl (hW3.ext xg1) (((ez.trans x3).trans xg1)).size b10 (by omega) (by omega)
 refine aW JL JL hr11 ?_
 refine aZ JL JL ?_
 refine ah JL JL gG ?_
 refine aC JL JL (hs11) (ag (vB (fP JL ?_)))
 exact⟨_,rfl,v11,hW2,(cM.of_ext (x3.trans xg1)).trans st11⟩
theorem Ad {T:TypeId} {wz w:World} {g:Nat} {l:List UInt8} {d:eg} {x y v:Value} (ez:aG wz w) (hW:fm T wz.heap.size g l v w) (hx:bj d.at_.2.1 x wz) (hy:bj d.at_.2.2 y wz) (hw:wD d) (hl:l.length+(kV d).length≤4398046511104):
 Calls Tryz.prog 101 #[.pointer (some ⟨g,0,none⟩),.agg #[I d.kd,I d.ix,B d.at_.1,x,y]] w (bD fun _ w'=>GV T wz.heap.size g (l++kV d) v w w'):=by
 refine enter (vs:=[.pointer (some ⟨g,0,none⟩),.agg #[I d.kd,I d.ix,B d.at_.1,x,y]]) Tryz.func101 JL JL JL ?_
 have hdl:(kV d).length=(dS d.kd).length+(dS d.ix).length+(iR d.at_).length:=by simp only[kV,List.length_append]
 refine af (aa ?_)
 obtain⟨g3,w3,hr3,l3,x3,k3⟩:=cI (P:=Tryz.prog) (w:=w) (T:=80) (cs:=[I d.kd,I d.ix,B d.at_.1,x,y])
 refine cx JL JL hr3 (ag (ab (af (aa (ae JL JL (ah JL JL (aI (o:=0) Jn JL (by kernel_rfl) JL) ?_))))))
 refine ak JL JL (ai Jh JL (k3.cell (i:=0) JL)) (ah JL JL (aI (o:=1) Jn JL (by kernel_rfl) JL) ?_)
 refine ak JL JL (ai Jh JL (k3.cell (i:=1) JL)) ?_
 obtain⟨v9,w9,hr9,x9,o9,ob9⟩:=AD (w:=w3) (w3).heap.size [d.kd,d.ix] (by simp) (Nat.le_refl _)
 refine aJ (vs:=[(0,I d.kd),(1,I d.ix)]) JL JL hr9 ?_
 have hW3:=hW.ext x3
 have hW9:=hW3.ext x9
 refine am mi JL JL ((mn (ns:=[d.kd,d.ix]) hW9 (((ez.trans x3).trans x9)).size (o9.rpx (fun k hk=>hW3.off_new (o9.lt k hk).1)) (I4 hw.1 hw.2) (by simp only[List.length_cons,List.length_nil];omega))) ?_
 rintro v10 w10 ⟨v10,hW10,st10⟩
 have x10:=st10.ext (((ez.trans x3).trans x9)) hW9.ge hW9.new
 have k3a:=st10.mv.blk (k3.ext x9) (hW.off_new l3)
 refine ag (ab (aa (ae rfl rfl (ah rfl rfl (aI (o:=2) Tryz.underlying80 rfl (by kernel_rfl) rfl) (ak rfl rfl (k3a.ldO (ms:=[B d.at_.1,x,y]) (o:=2) (fun j v hj=>by rcases j with _|_|_|_|_|_|_|_|_|j<;>simp_all) Tryz.underlying55 rfl (by kernel_rfl)) ?_)))))
 refine am lu JL JL ((lz (q:=d.at_) (x10) hW10 hx hy (by simp only[List.length_append,List.flatMap_cons,List.flatMap_nil,List.append_nil];omega))) ?_
 rintro v14 w14 ⟨v14,hW14,st14⟩
 have x14:=st14.ext (x10) hW10.ge hW10.new
 refine ag (fP JL ?_)
 exact⟨_,rfl,v14,by simpa only[kV,List.flatMap_cons,List.flatMap_nil,List.append_nil,List.append_assoc] using hW14,((cM.of_ext (x3.trans x9)).trans st10).trans st14⟩
theorem i5 {T:TypeId} {wz w:World} {g:Nat} {l:List UInt8} {ps:List cB} {pv v:Value} (ez:aG wz w) (hW:fm T wz.heap.size g l v w) (hd:cK cd ps pv wz) (hw:wP ps) (hl:l.length+(kW ps).length≤4398046511104):
 Calls Tryz.prog 100 #[.pointer (some ⟨g,0,none⟩),pv] w (bD fun _ w'=>GV T wz.heap.size g (l++kW ps) v w w'):=by
 refine enter (vs:=[.pointer (some ⟨g,0,none⟩),pv]) Tryz.func100 JL JL JL ?_
 have hll:=hd.len
 have hpl:(kW ps).length=(uv ps.length).length+(ps.flatMap gD).length:=by simp only[kW,List.length_append]
 refine af (aa (ae JL JL (ae JL JL (aP JL JL (bO Jp (hd.ext ez)) (am lr JL JL ((ly hW ez.size (by omega) (by omega))) ?_)))))
 rintro v9 w9 ⟨v9,hW9,st9⟩
 have x9:=st9.ext ez hW.ge hW.new
 refine ag (ab (af (aa (ae JL JL (aP JL JL (bO Jp (hd.ext x9)) (ae JL JL (ag (ab (av ?_)))))))))
 refine dA (fun(i:Nat) (u:Value)=>[(0,.pointer (some ⟨g,0,none⟩)),(10,pv),(11,I (ps.length:Int)),(12,I (i:Int))]) (fun(i:Nat) (u:Value) w'=>fm T wz.heap.size g (l++uv ps.length++(ps.take i).flatMap gD) u w'∧cM g v w u w'∧aG wz w'∧i≤ps.length) (fun(i:Nat) (u:Value)=>ps.length-i) (0) (v9) ⟨rfl,rfl,rfl,rfl,trivial⟩ ⟨by simpa using hW9,st9,x9,by omega⟩ ?_
 rintro i u wL ⟨hW1,st1,eL,hi⟩
 refine af (aa (aj JL JL JL (aS) (ag (ab (af ?_)))))
 refine ba JL (fun h13=>?_) (fun h13=>?_)
 ·refine ar (ab (af (av (af (aa ?_)))))
  obtain⟨a14,c14,p14,q14,h14⟩:=cO (P:=Tryz.prog) (sz:=7) Jp (by kernel_rfl) fy (by omega) hd (i:=i) (by omega) .i64
  obtain⟨e14,he14⟩:∃e,e=ps[i]'(by omega):=⟨_,rfl⟩
  rw[←he14] at h14
  obtain⟨x14_0,x14_1,rfl,f14_0,f14_1⟩:=j9 h14
  refine ap JL JL JL (p14 _) ?_
  have hm:=hw e14 (by rw[he14];exact List.getElem_mem _)
  have hfl:=eY (f:=gD) (l:=ps) (i:=i) (by omega)
  rw[←he14] at hfl
  have hml:(gD e14).length=(dS e14.kd).length+(dS e14.ix).length+(dS e14.lo).length+(dS e14.hi).length+(iR e14.co).length:=by simp only[gD,List.length_append]
  refine ak JL JL ((q14.ext eL).ld Jy JL (by kernel_rfl)) ?_
  obtain⟨g5,w5,hr5,l5,x5,k5⟩:=bc (P:=Tryz.prog) (w:=wL) (t:=216) (z:=.agg #[I 0,I 0,I 0,I 0,B false,.slice none 0 0,.slice none 0 0]) (l:=[I 0,I 0,I 0,I 0,B false,.slice none 0 0,.slice none 0 0]) (by kernel_rfl) rfl
  refine bf JL hr5 ?_
  obtain⟨w3_3,s3_3,q3_3,k3_3⟩:=k5.stS (P:=Tryz.prog) (t:=216) (m:=[I e14.kd,I e14.ix,I e14.lo,I e14.hi,B e14.co.1,x14_0,x14_1]) rfl (by kernel_rfl) (aL.cons rfl (aL.cons rfl (aL.cons rfl (aL.cons rfl (aL.cons rfl (aL.cons f14_0.one (aL.cons f14_1.one aL.nil)))))))
  refine aC JL JL s3_3 ?_
  have x3_3:=aG.of_new (x5) q3_3 l5
  refine ag (ab (af (aa (ae JL JL (ah JL JL (aI (o:=0) Jy JL (by kernel_rfl) JL) (ah JL JL (aI (o:=0) JC JL (by kernel_rfl) JL) ?_))))))
  refine ak JL JL (ai Jh JL (k3_3.cell (i:=0) JL)) (ah JL JL (aI (o:=0) Jy JL (by kernel_rfl) JL) ?_)
  refine ah JL JL (aI (o:=1) JC JL (by kernel_rfl) JL) (ak JL JL (ai Jh JL (k3_3.cell (i:=1) JL)) ?_)
  refine ah JL JL (aI (o:=0) Jy JL (by kernel_rfl) JL) (ah JL JL (aI (o:=2) JC JL (by kernel_rfl) JL) ?_)
  refine ak JL JL (ai Jh JL (k3_3.cell (i:=2) JL)) (ah JL JL (aI (o:=0) Jy JL (by kernel_rfl) JL) ?_)
  refine ah JL JL (aI (o:=3) JC JL (by kernel_rfl) JL) (ak JL JL (ai Jh JL (k3_3.cell (i:=3) JL)) ?_)
  obtain⟨v29,w29,hr29,x29,o29,ob29⟩:=AD (w:=w3_3) (w3_3).heap.size [e14.kd,e14.ix,e14.lo,e14.hi] (by simp) (Nat.le_refl _)
  refine aJ (vs:=[(0,I e14.kd),(1,I e14.ix),(2,I e14.lo),(3,I e14.hi)]) JL JL hr29 ?_
  have hWb:=hW1.ext x3_3
  have hWc:=hWb.ext x29
  refine am mi JL JL ((mn (ns:=[e14.kd,e14.ix,e14.lo,e14.hi]) hWc (((eL.trans x3_3).trans x29)).size (o29.rpx (fun k hk=>hWb.off_new (o29.lt k hk).1)) (Hx hm.1 hm.2.1 hm.2.2.1 hm.2.2.2) (by simp only[List.length_append,List.length_cons,List.length_nil];omega))) ?_
  rintro v30 w30 ⟨v30,hW30,st30⟩
  have x30:=st30.ext (((eL.trans x3_3).trans x29)) hWc.ge hWc.new
  have k5a:=st30.mv.blk (k3_3.ext x29) (hW1.off_new l5)
  refine ag (ab (aa (ae rfl rfl (ah rfl rfl (aI (o:=4) Tryz.underlying216 rfl (by kernel_rfl) rfl) (ak rfl rfl (k5a.ldO (ms:=[B e14.co.1,x14_0,x14_1]) (o:=4) (fun j v hj=>by rcases j with _|_|_|_|_|_|_|_|_|j<;>simp_all) Tryz.underlying55 rfl (by kernel_rfl)) ?_)))))
  refine am lu JL JL ((lz (q:=e14.co) (x30) hW30 f14_0 f14_1 (by simp only[List.length_append,List.flatMap_cons,List.flatMap_nil,List.append_nil];omega))) ?_
  rintro v34 w34 ⟨v34,hW34,st34⟩
  have x34:=st34.ext (x30) hW30.ge hW30.new
  refine ag (aM (ab (aa (aj (r:=I ((i+1:Nat):Int)) JL JL JL (by have e:((i+1:Nat):Int)=(i:Int)+1:=(by omega);rw[e];exact aE (by omega) (by omega)) ?_))))
  refine ae JL JL (ag ?_)
  refine cF (i+1) (v34) ⟨rfl,rfl,rfl,rfl,trivial⟩ ⟨by
   rw[cQ (by omega),←he14]
   simpa only[gD,List.flatMap_cons,List.flatMap_nil,List.append_nil,List.append_assoc] using hW34,((st1.trans (cM.of_ext (x3_3.trans x29))).trans st30).trans st34,x34,by omega⟩ (by omega)
 ·refine aX (aA (aA (aV (fP JL ?_))))
  exact⟨_,rfl,u,by rw[List.take_of_length_le (by omega),List.append_assoc] at hW1;exact hW1,st1⟩
end Go.Rl
namespace Go.Rl
open Go.RowKit Go.Proofs
theorem qO (b:Bool):(xL b).length=1:=by cases b<;>rfl
theorem mp {T:TypeId} {wz w:World} {g:Nat} {l:List UInt8} {ls:List fE} {lv v:Value} (ez:aG wz w) (hW:fm T wz.heap.size g l v w) (hd:cK dm ls lv wz) (hw:∀m∈ls,Iu m) (hl:l.length+(fe ls).length≤4398046511104):
 Calls Tryz.prog 99 #[.pointer (some ⟨g,0,none⟩),lv] w (bD fun _ w'=>GV T wz.heap.size g (l++fe ls) v w w'):=by
 refine enter (vs:=[.pointer (some ⟨g,0,none⟩),lv]) Tryz.func99 JL JL JL ?_
 have hll:=hd.len
 have hpl:(fe ls).length=(uv ls.length).length+(ls.flatMap fH).length:=by simp only[fe,List.length_append]
 refine af (aa (ae JL JL (ae JL JL (aP JL JL (bO Jo (hd.ext ez)) (am lr JL JL ((ly hW ez.size (by omega) (by omega))) ?_)))))
 rintro v10 w10 ⟨v10,hW10,st10⟩
 have x10:=st10.ext ez hW.ge hW.new
 refine ag (ab (af (aa (ae JL JL (aP JL JL (bO Jo (hd.ext x10)) (ae JL JL (ag (ab (av ?_)))))))))
 refine dA (fun(i:Nat) (u:Value)=>[(0,.pointer (some ⟨g,0,none⟩)),(11,lv),(12,I (ls.length:Int)),(13,I (i:Int))]) (fun(i:Nat) (u:Value) w'=>fm T wz.heap.size g (l++uv ls.length++(ls.take i).flatMap fH) u w'∧cM g v w u w'∧aG wz w'∧i≤ls.length) (fun(i:Nat) (u:Value)=>ls.length-i) (0) (v10) ⟨rfl,rfl,rfl,rfl,trivial⟩ ⟨by simpa using hW10,st10,x10,by omega⟩ ?_
 rintro i u wL ⟨hW1,st1,eL,hi⟩
 refine af (aa (aj JL JL JL (aS) (ag (ab (af ?_)))))
 refine ba JL (fun h14=>?_) (fun h14=>?_)
 ·refine ar (ab (af (av (af (aa ?_)))))
  obtain⟨a15,c15,p15,q15,h15⟩:=cO (P:=Tryz.prog) (sz:=6) Jo (by kernel_rfl) dW (by omega) hd (i:=i) (by omega) .i64
  obtain⟨e15,he15⟩:∃e,e=ls[i]'(by omega):=⟨_,rfl⟩
  rw[←he15] at h15
  obtain⟨x15_0,x15_1,x15_2,rfl,f15_0,f15_1,f15_2⟩:=fz h15
  refine ap JL JL JL (p15 _) ?_
  have hm:=hw e15 (by rw[he15];exact List.getElem_mem _)
  have hfl:=eY (f:=fH) (l:=ls) (i:=i) (by omega)
  rw[←he15] at hfl
  have hbl:=qO e15.up
  have hml:(fH e15).length=(dS e15.un).length+(xL e15.up).length+(iR e15.va).length+(kW e15.pf).length:=by simp only[fH,List.length_append]
  obtain⟨pre,hpre⟩:∃pre,pre=l++uv ls.length++(ls.take i).flatMap fH:=⟨_,rfl⟩
  have hprl:pre.length=l.length+(uv ls.length).length+((ls.take i).flatMap fH).length:=by rw[hpre];simp only[List.length_append]
  rw[←hpre] at hW1
  refine ak JL JL ((q15.ext eL).ld Jr JL (by kernel_rfl)) ?_
  obtain⟨g5,w5,hr5,l5,x5,k5⟩:=bc (P:=Tryz.prog) (w:=wL) (t:=147) (z:=.agg #[I 0,B false,B false,.slice none 0 0,.slice none 0 0,.slice none 0 0]) (l:=[I 0,B false,B false,.slice none 0 0,.slice none 0 0,.slice none 0 0]) (by kernel_rfl) rfl
  refine bf JL hr5 ?_
  obtain⟨w3_3,s3_3,q3_3,k3_3⟩:=k5.stS (P:=Tryz.prog) (t:=147) (m:=[I e15.un,B e15.up,B e15.va.1,x15_0,x15_1,x15_2]) rfl (by kernel_rfl) (aL.cons rfl (aL.cons rfl (aL.cons rfl (aL.cons f15_0.one (aL.cons f15_1.one (aL.cons f15_2.one aL.nil))))))
  refine aC JL JL s3_3 ?_
  have x3_3:=aG.of_new (x5) q3_3 l5
  refine ag (ab (af (aa (ae JL JL (ah JL JL (aI (o:=0) Jr JL (by kernel_rfl) JL) (ak JL JL (ai Jh JL (k3_3.cell (i:=0) JL)) ?_))))))
  obtain⟨v20,w20,hr20,x20,o20,ob20⟩:=AD (w:=w3_3) (w3_3).heap.size [e15.un] (by simp) (Nat.le_refl _)
  refine aJ (vs:=[(0,I e15.un)]) JL JL hr20 ?_
  have hWb:=hW1.ext x3_3
  have hWc:=hWb.ext x20
  refine am mi JL JL ((mn (ns:=[e15.un]) hWc (((eL.trans x3_3).trans x20)).size (o20.rpx (fun k hk=>hWb.off_new (o20.lt k hk).1)) (I3 hm.1) (by simp only[List.length_cons,List.length_nil];omega))) ?_
  rintro v21 w21 ⟨v21,hW21,st21⟩
  have x21:=st21.ext (((eL.trans x3_3).trans x20)) hWc.ge hWc.new
  have n5:=hW1.off_new l5
  have k5a:=st21.mv.blk (k3_3.ext x20) n5
  have n5a:=st21.off n5 (k3_3.ext x20).lt
  have kg:=hW21.blk
  have hc1:[e15.un].flatMap dS=dS e15.un:=by simp only[List.flatMap_cons,List.flatMap_nil,List.append_nil]
  rw[hc1] at hW21
  refine ag (ab (af (aa (ac JL JL (ag (ab (af (af (aa (ah JL JL (aI (o:=1) Jr JL (by kernel_rfl) JL) ?_))))))))))
  refine ak JL JL (ai Jq JL (k5a.cell (i:=1) JL)) (ag (ab ?_))
  refine eZ JL (fun h23=>?_) (fun h23=>?_)
  ·have hbit:xL e15.up=[1]:=by rw[h23];rfl
   refine aa (ac JL JL (ag (ab (af (aa (ae JL JL (ae JL JL (aZ JL JL ?_))))))))
   refine ah JL JL gG ?_
   refine ak JL JL (ai Jl JL kg.k0) (ae JL JL ?_)
   obtain⟨v30,w30,hr30,x30,o30,ob30⟩:=dL (w:=w21) w21.heap.size [1] (by simp) (Nat.le_refl _)
   refine aJ (vs:=[(0,U8 1)]) JL JL hr30 ?_
   obtain⟨v31,wa31,wb31,hr31,hs31,hW31,st31⟩:=fm.put (t:=28) (t2:=28) (ty:=28) Tryz.underlying28 iJ Tryz.underlying28 (hW21.ext x30) ((x21.trans x30)).size o30.bts (by simp) (by simp only[List.length_append,List.length_cons,List.length_nil];omega)
   refine aW JL JL hr31 ?_
   refine aZ JL JL ?_
   refine ah JL JL gG ?_
   refine aC JL JL hs31 ?_
   have x31:=st31.ext ((x21.trans x30)) (hW21.ext x30).ge (hW21.ext x30).new
   have k5b:=st31.mv.blk (k5a.ext x30) n5a
   have n5b:=st31.off n5a (k5a.ext x30).lt
   rw[←hbit] at hW31
   refine ag (ab (af (aa (ae rfl rfl (ah rfl rfl (aI (o:=2) Tryz.underlying147 rfl (by kernel_rfl) rfl) (ak rfl rfl (k5b.ldO (ms:=[B e15.va.1,x15_0,x15_1]) (o:=2) (fun j v hj=>by rcases j with _|_|_|_|_|_|_|_|_|j<;>simp_all) Tryz.underlying55 rfl (by kernel_rfl)) ?_))))))
   refine am lu JL JL ((lz (q:=e15.va) (x31) hW31 f15_0 f15_1 (by simp only[List.length_append];omega))) ?_
   rintro v37 w37 ⟨v37,hW37,st37⟩
   have x37:=st37.ext (x31) hW31.ge hW31.new
   have k5c:=st37.mv.blk k5b n5b
   refine ag (ab (aa (ae JL JL (ah JL JL (aI (o:=5) Jr JL (by kernel_rfl) JL) (ak JL JL (ai Jp JL (k5c.cell (i:=5) JL)) ?_)))))
   refine am i0 JL JL ((i5 (ps:=e15.pf) (x37) hW37 f15_2 hm.2 (by simp only[List.length_append];omega))) ?_
   rintro v41 w41 ⟨v41,hW41,st41⟩
   have x41:=st41.ext (x37) hW37.ge hW37.new
   refine ag (aM (ab (aa (aj (r:=I ((i+1:Nat):Int)) JL JL JL (by have e:((i+1:Nat):Int)=(i:Int)+1:=(by omega);rw[e];exact aE (by omega) (by omega)) ?_))))
   refine ae JL JL (ag ?_)
   refine cF (i+1) (v41) ⟨rfl,rfl,rfl,rfl,trivial⟩ ⟨by
    rw[cQ (by omega),←he15,←List.append_assoc,←hpre]
    simpa only[fH,List.append_assoc] using hW41,((((st1.trans (cM.of_ext (x3_3.trans x20))).trans st21).trans ((cM.of_ext x30).trans st31)).trans st37).trans st41,x41,by omega⟩ (by omega)
  ·have hbit:xL e15.up=[0]:=by rw[h23];rfl
   refine ar (ab (af (aa (ae JL JL (ae JL JL (aZ JL JL ?_))))))
   refine ah JL JL gG ?_
   refine ak JL JL (ai Jl JL kg.k0) (ae JL JL ?_)
   obtain⟨v30,w30,hr30,x30,o30,ob30⟩:=dL (w:=w21) w21.heap.size [0] (by simp) (Nat.le_refl _)
   refine aJ (vs:=[(0,U8 0)]) JL JL hr30 ?_
   obtain⟨v31,wa31,wb31,hr31,hs31,hW31,st31⟩:=fm.put (t:=28) (t2:=28) (ty:=28) Tryz.underlying28 iJ Tryz.underlying28 (hW21.ext x30) ((x21.trans x30)).size o30.bts (by simp) (by simp only[List.length_append,List.length_cons,List.length_nil];omega)
   refine aW JL JL hr31 ?_
   refine aZ JL JL ?_
   refine ah JL JL gG ?_
   refine aC JL JL hs31 ?_
   have x31:=st31.ext ((x21.trans x30)) (hW21.ext x30).ge (hW21.ext x30).new
   have k5b:=st31.mv.blk (k5a.ext x30) n5a
   have n5b:=st31.off n5a (k5a.ext x30).lt
   rw[←hbit] at hW31
   refine ag (ab (af (aa (ae rfl rfl (ah rfl rfl (aI (o:=2) Tryz.underlying147 rfl (by kernel_rfl) rfl) (ak rfl rfl (k5b.ldO (ms:=[B e15.va.1,x15_0,x15_1]) (o:=2) (fun j v hj=>by rcases j with _|_|_|_|_|_|_|_|_|j<;>simp_all) Tryz.underlying55 rfl (by kernel_rfl)) ?_))))))
   refine am lu JL JL ((lz (q:=e15.va) (x31) hW31 f15_0 f15_1 (by simp only[List.length_append];omega))) ?_
   rintro v37 w37 ⟨v37,hW37,st37⟩
   have x37:=st37.ext (x31) hW31.ge hW31.new
   have k5c:=st37.mv.blk k5b n5b
   refine ag (ab (aa (ae JL JL (ah JL JL (aI (o:=5) Jr JL (by kernel_rfl) JL) (ak JL JL (ai Jp JL (k5c.cell (i:=5) JL)) ?_)))))
   refine am i0 JL JL ((i5 (ps:=e15.pf) (x37) hW37 f15_2 hm.2 (by simp only[List.length_append];omega))) ?_
   rintro v41 w41 ⟨v41,hW41,st41⟩
   have x41:=st41.ext (x37) hW37.ge hW37.new
   refine ag (aM (ab (aa (aj (r:=I ((i+1:Nat):Int)) JL JL JL (by have e:((i+1:Nat):Int)=(i:Int)+1:=(by omega);rw[e];exact aE (by omega) (by omega)) ?_))))
   refine ae JL JL (ag ?_)
   refine cF (i+1) (v41) ⟨rfl,rfl,rfl,rfl,trivial⟩ ⟨by
    rw[cQ (by omega),←he15,←List.append_assoc,←hpre]
    simpa only[fH,List.append_assoc] using hW41,((((st1.trans (cM.of_ext (x3_3.trans x20))).trans st21).trans ((cM.of_ext x30).trans st31)).trans st37).trans st41,x41,by omega⟩ (by omega)
 ·refine aX (aA (aA (aV (fP JL ?_))))
  exact⟨_,rfl,u,by rw[List.take_of_length_le (by omega),List.append_assoc] at hW1;exact hW1,st1⟩
theorem yz {T:TypeId} {wz w:World} {g:Nat} {l:List UInt8} {n:aN} {vl x y vk vp v:Value}
 (ih:∀k∈n.kids,∀{w:World} {l:List UInt8} {vl x y vk vp v:Value},aG wz w→fm T wz.heap.size g l v w→cK dm k.lems vl wz→bj k.split.at_.2.1 x wz→bj k.split.at_.2.2 y wz→cK bh k.kids vk wz→cK cd k.pf vp wz→wN k→l.length+(cG k).length≤4398046511104→
   Calls Tryz.prog 47 #[.pointer (some ⟨g,0,none⟩),.agg #[vl,I k.split.kd,I k.split.ix,B k.split.at_.1,x,y,vk,B k.empty,vp]] w (bD fun _ w'=>GV T wz.heap.size g (l++cG k) v w w'))
 (ez:aG wz w) (hW:fm T wz.heap.size g l v w) (hl:cK dm n.lems vl wz) (hx:bj n.split.at_.2.1 x wz) (hy:bj n.split.at_.2.2 y wz) (hk:cK bh n.kids vk wz) (hp:cK cd n.pf vp wz) (hw:wN n) (hb:l.length+(cG n).length≤4398046511104):
 Calls Tryz.prog 47 #[.pointer (some ⟨g,0,none⟩),.agg #[vl,I n.split.kd,I n.split.ix,B n.split.at_.1,x,y,vk,B n.empty,vp]] w (bD fun _ w'=>GV T wz.heap.size g (l++cG n) v w w'):=by
 refine enter (vs:=[.pointer (some ⟨g,0,none⟩),.agg #[vl,I n.split.kd,I n.split.ix,B n.split.at_.1,x,y,vk,B n.empty,vp]]) Tryz.func47 JL JL JL ?_
 have hll:=hk.len
 obtain⟨wl,wd,wp,wk⟩:=(zN n).1 hw
 have hen:=su n
 refine af (aa ?_)
 obtain⟨g3,w3,hr3,l3,x3,k3⟩:=cI (P:=Tryz.prog) (w:=w) (T:=83) (cs:=[vl,I n.split.kd,I n.split.ix,B n.split.at_.1,x,y,vk,B n.empty,vp])
 refine cx JL JL hr3 (ag (ab (af (aa (ac JL JL (ag (ab (af (av (af (aa (ah JL JL (aI (o:=6) Jg JL (by kernel_rfl) JL) ?_))))))))))))
 refine ak JL JL (ai Jk JL (k3.cell (i:=6) JL)) (aP JL JL (bO Jk (hk.ext (ez.trans x3))) ?_)
 refine aj JL JL JL (cg) (ac JL JL (ag (ab ?_)))
 refine ba JL (fun h7=>?_) (fun h7=>?_)
 ·have h0:¬n.kids.length=0:=by omega
  rw[if_neg h0] at hen
  have hel:(cG n).length=1+(fe n.lems).length+(kV n.split).length+(n.kids.flatMap cG).length:=by rw[hen];simp only[List.length_append,List.length_cons,List.length_nil]
  refine aa (ac JL JL (ag (aM (ab (af ?_)))))
  have hW3:=hW.ext x3
  have kg:=hW3.blk
  have n3:=hW.off_new l3
  refine aa (ae JL JL (ae JL JL (aZ JL JL ?_)))
  refine ah JL JL gG ?_
  refine ak JL JL (ai Jl JL kg.k0) (ae JL JL ?_)
  obtain⟨v21,w21,hr21,x21,o21,ob21⟩:=dL (w:=w3) w3.heap.size [2] (by simp) (Nat.le_refl _)
  refine aJ (vs:=[(0,U8 2)]) JL JL hr21 ?_
  obtain⟨v22,wa22,wb22,hr22,hs22,hW22,st22⟩:=fm.put (t:=28) (t2:=28) (ty:=28) Tryz.underlying28 iJ Tryz.underlying28 (hW3.ext x21) (((ez.trans x3).trans x21)).size o21.bts (by simp) (by simp only[List.length_cons,List.length_nil];omega)
  refine aW JL JL hr22 ?_
  refine aZ JL JL ?_
  refine ah JL JL gG ?_
  refine aC JL JL hs22 ?_
  have x22:=st22.ext (((ez.trans x3).trans x21)) (hW3.ext x21).ge (hW3.ext x21).new
  have k3a:=st22.mv.blk (k3.ext x21) n3
  have n3a:=st22.off n3 (k3.ext x21).lt
  refine ag (ab (af (aa (ae JL JL (ah JL JL (aI (o:=0) Jg JL (by kernel_rfl) JL) (ak JL JL (ai Jo JL (k3a.cell (i:=0) JL)) ?_))))))
  refine am mj JL JL ((mp (ls:=n.lems) (x22) hW22 hl wl (by simp only[List.length_append,List.length_cons,List.length_nil];omega))) ?_
  rintro v28 w28 ⟨v28,hW28,st28⟩
  have x28:=st28.ext (x22) hW22.ge hW22.new
  have k3b:=st28.mv.blk k3a n3a
  have n3b:=st28.off n3a k3a.lt
  refine ag (ab (af (af (aa (ae JL JL ?_)))))
  refine aj (u:=U8 2) (v:=U8 2) (r:=B false) JL JL JL (eF (show ¬(2:UInt8)<2 by decide) jV) ?_
  refine ag (ab (dI JL (ar (ab (af (aa (ae JL JL (ah JL JL (aI (o:=1) Jg JL (by kernel_rfl) JL) ?_))))))))
  refine ak rfl rfl (k3b.ldO (ms:=[I n.split.kd,I n.split.ix,B n.split.at_.1,x,y]) (o:=1) (fun j v hj=>by rcases j with _|_|_|_|_|_|_|_|_|j<;>simp_all) Tryz.underlying80 rfl (by kernel_rfl)) ?_
  refine am Ab JL JL ((Ad (d:=n.split) (x28) hW28 hx hy wd (by simp only[List.length_append,List.length_cons,List.length_nil];omega))) ?_
  rintro v38 w38 ⟨v38,hW38,st38⟩
  have x38:=st38.ext (x28) hW28.ge hW28.new
  have k3c:=st38.mv.blk k3b n3b
  obtain⟨pre,hpre⟩:∃pre,pre=l++[2]++fe n.lems++kV n.split:=⟨_,rfl⟩
  have hprl:pre.length=l.length+1+(fe n.lems).length+(kV n.split).length:=by rw[hpre];simp only[List.length_append,List.length_cons,List.length_nil]
  rw[←hpre] at hW38
  refine ag (ab (af (aa (ah JL JL (aI (o:=6) Jg JL (by kernel_rfl) JL) (ak JL JL (ai Jk JL (k3c.cell (i:=6) JL)) ?_)))))
  refine aP JL JL (bO (f:=bh) Jk (hk.ext (x38))) ?_
  refine ae JL JL (ag (ab (av ?_)))
  refine dA (fun(i:Nat) (u:Value)=>[(0,.pointer (some ⟨g,0,none⟩)),(40,vk),(41,I (n.kids.length:Int)),(42,I (i:Int))]) (fun(i:Nat) (u:Value) w'=>fm T wz.heap.size g (pre++(n.kids.take i).flatMap cG) u w'∧cM g v w u w'∧aG wz w'∧i≤n.kids.length) (fun(i:Nat) (u:Value)=>n.kids.length-i) (0) (v38) ⟨rfl,rfl,rfl,rfl,trivial⟩ ⟨by simpa using hW38,(((cM.of_ext (x3.trans x21)).trans st22).trans st28).trans st38,x38,by omega⟩ ?_
  rintro i u wL ⟨hW1,st1,eL,hi⟩
  refine af (aa (aj JL JL JL (aS) (ag (ab (af ?_)))))
  refine ba JL (fun h43=>?_) (fun h43=>?_)
  ·refine ar (ab (af (av (af (aa ?_)))))
   obtain⟨a44,c44,p44,q44,h44⟩:=cO (P:=Tryz.prog) (sz:=9) Jk (by kernel_rfl) bK (by omega) hk (i:=i) (by omega) .i64
   obtain⟨e44,he44⟩:∃e,e=n.kids[i]'(by omega):=⟨_,rfl⟩
   rw[←he44] at h44
   obtain⟨x44_0,x44_1,x44_2,x44_3,x44_4,rfl,f44_0,f44_1,f44_2,f44_3,f44_4⟩:=dh h44
   refine ap JL JL JL (p44 _) ?_
   have hfl:=eY (f:=cG) (l:=n.kids) (i:=i) (by omega)
   rw[←he44] at hfl
   have hmem:e44∈n.kids:=by rw[he44];exact List.getElem_mem _
   refine ak JL JL ((q44.ext eL).ld Jg JL (by kernel_rfl)) ?_
   obtain⟨g6,w6,hr6,l6,x6,k6⟩:=bc (P:=Tryz.prog) (w:=wL) (t:=83) (z:=.agg #[.slice none 0 0,I 0,I 0,B false,.slice none 0 0,.slice none 0 0,.slice none 0 0,B false,.slice none 0 0]) (l:=[.slice none 0 0,I 0,I 0,B false,.slice none 0 0,.slice none 0 0,.slice none 0 0,B false,.slice none 0 0]) (by kernel_rfl) rfl
   refine bf JL hr6 ?_
   obtain⟨w13_3,s13_3,q13_3,k13_3⟩:=k6.stS (P:=Tryz.prog) (t:=83) (m:=[x44_0,I e44.split.kd,I e44.split.ix,B e44.split.at_.1,x44_1,x44_2,x44_3,B e44.empty,x44_4]) rfl (by kernel_rfl) (aL.cons f44_0.one (aL.cons rfl (aL.cons rfl (aL.cons rfl (aL.cons f44_1.one (aL.cons f44_2.one (aL.cons f44_3.one (aL.cons rfl (aL.cons f44_4.one aL.nil)))))))))
   refine aC JL JL s13_3 ?_
   have x13_3:=aG.of_new (x6) q13_3 l6
   refine ag (ab (aa (ae JL JL (ak JL JL (k13_3.ld Tryz.underlying83 JL (by kernel_rfl)) (am mm JL JL ((ih e44 hmem ((eL.trans x13_3)) (hW1.ext x13_3) f44_0 f44_1 f44_2 f44_3 f44_4 (wk e44 hmem) (by simp only[List.length_append];omega))) ?_)))))
   rintro v48 w48 ⟨v48,hW48,st48⟩
   have x48:=st48.ext ((eL.trans x13_3)) hW1.ge hW1.new
   refine ag (aM (ab (aa (aj (r:=I ((i+1:Nat):Int)) JL JL JL (by have e:((i+1:Nat):Int)=(i:Int)+1:=(by omega);rw[e];exact aE (by omega) (by omega)) ?_))))
   refine ae JL JL (ag ?_)
   refine cF (i+1) (v48) ⟨rfl,rfl,rfl,rfl,trivial⟩ ⟨by rw[cQ (by omega),←he44,←List.append_assoc];exact hW48,(st1.trans (cM.of_ext x13_3)).trans st48,x48,by omega⟩ (by omega)
  ·refine aX (aA (aA (aV (fP JL ?_))))
   exact⟨_,rfl,u,by rw[List.take_of_length_le (by omega),hpre] at hW1;rw[hen];simpa only[List.append_assoc] using hW1,st1⟩
 ·have h0:n.kids.length=0:=by omega
  rw[if_pos h0] at hen
  have hel:(cG n).length=1+(fe n.lems).length+(kW n.pf).length:=by rw[hen];simp only[List.length_append,qO]
  refine af (aa (ah JL JL (aI (o:=7) Jg JL (by kernel_rfl) JL) (ak JL JL (ai Jq JL (k3.cell (i:=7) JL)) ?_)))
  refine ac JL JL (ag (ab ?_))
  refine eZ JL (fun h12=>?_) (fun h12=>?_)
  ·have hbit:xL n.empty=[1]:=by rw[h12];rfl
   refine aa (ac JL JL (ag (aM (ab (af ?_)))))
   have hW3:=hW.ext x3
   have kg:=hW3.blk
   have n3:=hW.off_new l3
   refine aa (ae JL JL (ae JL JL (aZ JL JL ?_)))
   refine ah JL JL gG ?_
   refine ak JL JL (ai Jl JL kg.k0) (ae JL JL ?_)
   obtain⟨v21,w21,hr21,x21,o21,ob21⟩:=dL (w:=w3) w3.heap.size [1] (by simp) (Nat.le_refl _)
   refine aJ (vs:=[(0,U8 1)]) JL JL hr21 ?_
   obtain⟨v22,wa22,wb22,hr22,hs22,hW22,st22⟩:=fm.put (t:=28) (t2:=28) (ty:=28) Tryz.underlying28 iJ Tryz.underlying28 (hW3.ext x21) (((ez.trans x3).trans x21)).size o21.bts (by simp) (by simp only[List.length_cons,List.length_nil];omega)
   refine aW JL JL hr22 ?_
   refine aZ JL JL ?_
   refine ah JL JL gG ?_
   refine aC JL JL hs22 ?_
   have x22:=st22.ext (((ez.trans x3).trans x21)) (hW3.ext x21).ge (hW3.ext x21).new
   have k3a:=st22.mv.blk (k3.ext x21) n3
   have n3a:=st22.off n3 (k3.ext x21).lt
   refine ag (ab (af (aa (ae JL JL (ah JL JL (aI (o:=0) Jg JL (by kernel_rfl) JL) (ak JL JL (ai Jo JL (k3a.cell (i:=0) JL)) ?_))))))
   refine am mj JL JL ((mp (ls:=n.lems) (x22) hW22 hl wl (by simp only[List.length_append,List.length_cons,List.length_nil];omega))) ?_
   rintro v28 w28 ⟨v28,hW28,st28⟩
   have x28:=st28.ext (x22) hW22.ge hW22.new
   have k3b:=st28.mv.blk k3a n3a
   have n3b:=st28.off n3a k3a.lt
   refine ag (ab (af (af (aa (ae JL JL ?_)))))
   refine aj (u:=U8 1) (v:=U8 2) (r:=B true) JL JL JL (dv (show(1:UInt8)<2 by decide) jV) ?_
   refine ag (ab (bJ JL (af (aa (ae JL JL (ah JL JL (aI (o:=8) Jg JL (by kernel_rfl) JL) (ak JL JL (ai Jp JL (k3b.cell (i:=8) JL)) ?_)))))))
   refine am i0 JL JL ((i5 (ps:=n.pf) (x28) hW28 hp wp (by simp only[List.length_append,List.length_cons,List.length_nil];omega))) ?_
   rintro v34 w34 ⟨v34,hW34,st34⟩
   have x34:=st34.ext (x28) hW28.ge hW28.new
   refine ag (ab (au (ax (uL JL ?_))))
   exact⟨_,rfl,v34,by rw[hen,hbit];simpa only[List.append_assoc] using hW34,(((cM.of_ext (x3.trans x21)).trans st22).trans st28).trans st34⟩
  ·have hbit:xL n.empty=[0]:=by rw[h12];rfl
   refine ar (aM (ab (af ?_)))
   have hW3:=hW.ext x3
   have kg:=hW3.blk
   have n3:=hW.off_new l3
   refine aa (ae JL JL (ae JL JL (aZ JL JL ?_)))
   refine ah JL JL gG ?_
   refine ak JL JL (ai Jl JL kg.k0) (ae JL JL ?_)
   obtain⟨v21,w21,hr21,x21,o21,ob21⟩:=dL (w:=w3) w3.heap.size [0] (by simp) (Nat.le_refl _)
   refine aJ (vs:=[(0,U8 0)]) JL JL hr21 ?_
   obtain⟨v22,wa22,wb22,hr22,hs22,hW22,st22⟩:=fm.put (t:=28) (t2:=28) (ty:=28) Tryz.underlying28 iJ Tryz.underlying28 (hW3.ext x21) (((ez.trans x3).trans x21)).size o21.bts (by simp) (by simp only[List.length_cons,List.length_nil];omega)
   refine aW JL JL hr22 ?_
   refine aZ JL JL ?_
   refine ah JL JL gG ?_
   refine aC JL JL hs22 ?_
   have x22:=st22.ext (((ez.trans x3).trans x21)) (hW3.ext x21).ge (hW3.ext x21).new
   have k3a:=st22.mv.blk (k3.ext x21) n3
   have n3a:=st22.off n3 (k3.ext x21).lt
   refine ag (ab (af (aa (ae JL JL (ah JL JL (aI (o:=0) Jg JL (by kernel_rfl) JL) (ak JL JL (ai Jo JL (k3a.cell (i:=0) JL)) ?_))))))
   refine am mj JL JL ((mp (ls:=n.lems) (x22) hW22 hl wl (by simp only[List.length_append,List.length_cons,List.length_nil];omega))) ?_
   rintro v28 w28 ⟨v28,hW28,st28⟩
   have x28:=st28.ext (x22) hW22.ge hW22.new
   have k3b:=st28.mv.blk k3a n3a
   have n3b:=st28.off n3a k3a.lt
   refine ag (ab (af (af (aa (ae JL JL ?_)))))
   refine aj (u:=U8 0) (v:=U8 2) (r:=B true) JL JL JL (dv (show(0:UInt8)<2 by decide) jV) ?_
   refine ag (ab (bJ JL (af (aa (ae JL JL (ah JL JL (aI (o:=8) Jg JL (by kernel_rfl) JL) (ak JL JL (ai Jp JL (k3b.cell (i:=8) JL)) ?_)))))))
   refine am i0 JL JL ((i5 (ps:=n.pf) (x28) hW28 hp wp (by simp only[List.length_append,List.length_cons,List.length_nil];omega))) ?_
   rintro v34 w34 ⟨v34,hW34,st34⟩
   have x34:=st34.ext (x28) hW28.ge hW28.new
   refine ag (ab (au (ax (uL JL ?_))))
   exact⟨_,rfl,v34,by rw[hen,hbit];simpa only[List.append_assoc] using hW34,(((cM.of_ext (x3.trans x21)).trans st22).trans st28).trans st34⟩
theorem mq {T:TypeId} {wz:World} {g:Nat}:∀(m:Nat) {n:aN},SizeOf.sizeOf n≤m→∀{w:World} {l:List UInt8} {vl x y vk vp v:Value},aG wz w→fm T wz.heap.size g l v w→cK dm n.lems vl wz→bj n.split.at_.2.1 x wz→bj n.split.at_.2.2 y wz→cK bh n.kids vk wz→cK cd n.pf vp wz→wN n→l.length+(cG n).length≤4398046511104→
 Calls Tryz.prog 47 #[.pointer (some ⟨g,0,none⟩),.agg #[vl,I n.split.kd,I n.split.ix,B n.split.at_.1,x,y,vk,B n.empty,vp]] w (bD fun _ w'=>GV T wz.heap.size g (l++cG n) v w w')
 |0,n,hm=>by cases n;simp at hm
 |m+1,n,hm=>fun h1 h2 h3 h4 h5 h6 h7 h8 h9=>yz (fun k hk _ _ _ _ _ _ _ _=>mq m (by have:=aN.lt_of_mem hk;omega)) h1 h2 h3 h4 h5 h6 h7 h8 h9
theorem fm.mk1 {T:TypeId} {w0 w w':World} {g:Nat} {l:List UInt8} {v:Value} (e:aG w0 w) (ho:cf w0.heap.size l v w) (x:aG w w') (hg:w.heap.size≤g) (k:cl g T [v] w'):fm T w0.heap.size g l v w':=
 ⟨Nat.le_trans e.size hg,k,.inl (ho.ext x),ho.ge,fun h=>by have:=ho.lt g h;omega,fun n hn=>Nat.lt_of_lt_of_le (ho.lt n hn) x.size⟩
theorem Ae {w:World} {b:List UInt8} {bv:Value} {n:aN} {vl x y vk vp:Value} (hbv:ci b bv w) (hl:cK dm n.lems vl w) (hx:bj n.split.at_.2.1 x w) (hy:bj n.split.at_.2.2 y w) (hk:cK bh n.kids vk w) (hp:cK cd n.pf vp w) (hw:wN n) (hb:b.length+(cG n).length≤4398046511104):
 Calls Tryz.prog 43 #[bv,.agg #[vl,I n.split.kd,I n.split.ix,B n.split.at_.1,x,y,vk,B n.empty,vp]] w (bD fun r w'=>aG w w'∧ci (b++cG n) r w'):=by
 refine enter (vs:=[bv,.agg #[vl,I n.split.kd,I n.split.ix,B n.split.at_.1,x,y,vk,B n.empty,vp]]) Tryz.func43 JL JL JL ?_
 refine af (aa ?_)
 obtain⟨g3,w3,hr3,l3,x3,k3⟩:=cI (P:=Tryz.prog) (w:=w) (T:=83) (cs:=[vl,I n.split.kd,I n.split.ix,B n.split.at_.1,x,y,vk,B n.empty,vp])
 refine cx JL JL hr3 (ac JL JL (ag (ab (af (aa ?_)))))
 obtain⟨v6,w6,hr6,x6,o6,ob6⟩:=dL (w:=w3) w3.heap.size [] (by simp) (Nat.le_refl _)
 refine aJ (vs:=[]) JL JL hr6 (ae JL JL ?_)
 obtain⟨v8,w8,hr8,o8,g8⟩:=cH (ty:=28) o6 (hbv.ext (x3.trans x6)) (by simp;omega) (x6).size
 have x8:=aG.of_grew (x6) g8 o6.ge
 refine aW JL JL hr8 ?_
 have o8w:cf w.heap.size b v8 w8:=by have:=o8;rw[List.nil_append] at this;exact this.low x3.size
 obtain⟨A8,n8,c8,e8,_⟩:=o8w.bts
 refine bI (vs:=[(0,v8)]) (r:=.agg #[v8]) JL JL (by rw[e8];exact run_build _ _ _ _ (by kernel_rfl)) ?_
 obtain⟨g10,w10,hr10,l10,x10,k10⟩:=cI (P:=Tryz.prog) (w:=w8) (T:=95) (cs:=[v8])
 refine cx JL JL hr10 ?_
 have hW10:fm 95 w.heap.size g10 b v8 w10:=fm.mk1 ((x3.trans x8)) o8w x10 l10 k10
 refine ac JL JL (ag (ab (af (aa (ae JL JL (ak JL JL ((k3.ext (x8.trans x10)).ld Jg JL (by kernel_rfl)) ?_))))))
 refine am mm JL JL ((mq _ (Nat.le_refl _) (((x3.trans x8).trans x10)) hW10 hl hx hy hk hp hw hb)) ?_
 rintro v13 w13 ⟨v13,hW13,st13⟩
 have x13:=st13.ext (((x3.trans x8).trans x10)) hW10.ge hW10.new
 refine ag (ab (af ?_))
 have kg:=hW13.blk
 refine aa (ae JL JL (aZ JL JL ?_))
 refine ah JL JL gG ?_
 refine ak JL JL (ai Jl JL kg.k0) (ac JL JL (ag (ab (au (az JL JL ?_)))))
 exact⟨_,rfl,x13,hW13.row.bts⟩
end Go.Rl
namespace Go.Rl
open Go.RowKit Go.Proofs
theorem Af:aw Tryz.prog 45:=⟨_,Tryz.func45,by kernel_rfl,rfl⟩
theorem oQ:aw Tryz.prog 17:=⟨_,Tryz.func17,by kernel_rfl,rfl⟩
theorem Bm {w:World} {g:Nat} {T:TypeId} {d:List UInt8} {v:Value} (k:cl g T (it d v) w) (hd:d.length=32):ci d (.slice (some ⟨g,0,none⟩) 32 32) w:=
 ⟨_,32,32,rfl,Nat.le_refl _,by unfold maxLen;omega,by simp[hd],fun _=>⟨_,rfl,fun j u hu=>by
  rw[Addr.add_mid,Nat.zero_add]
  have hj:=(List.getElem?_eq_some_iff.1 hu).1
  exact k.cell (by rw[it,List.getElem?_append_left hj];exact hu)⟩,fun h=>by cases h⟩
def Ig (w0:World) (n:aN):Prop:=∀{w:World} {vl x y vk vp:Value},aG w0 w→cK dm n.lems vl w→bj n.split.at_.2.1 x w→bj n.split.at_.2.2 y w→cK bh n.kids vk w→cK cd n.pf vp w→
 Calls Tryz.prog 45 #[.agg #[vl,I n.split.kd,I n.split.ix,B n.split.at_.1,x,y,vk,B n.empty,vp]] w (bD fun r w'=>aG w w'∧r=B (eS n&&eU n))
def jq (base:Nat) (c:sT) (r:Value) (w:World):Prop:=∃v,r=.tuple #[v,I (ko c).2]∧cf base (ko c).1 v w
theorem jq.err {base:Nat} {c:sT} {w:World} {n:Int} (h:ko c=([],n)):jq base c (.tuple #[.slice none 0 0,I n]) w:=⟨_,by rw[h],by rw[h];exact cf.nil _ _⟩
theorem jq.ok {base:Nat} {c:sT} {w:World} {l:List UInt8} {v:Value} (h:ko c=(l,0)) (o:cf base l v w):jq base c (.tuple #[v,I 0]) w:=⟨v,by rw[h],by rw[h];exact o⟩
theorem wo {d:List UInt8} {ts:List aN} (h:(ts.all fun n=>eS n&&eU n)=false):ko (d,ts)=([],1):=by unfold ko;rw[h];rfl
theorem uB {d:List UInt8} {ts:List aN} (h:(ts.all fun n=>eS n&&eU n)=true) (h2:4194304<(df ts).length):ko (d,ts)=([],8):=by unfold ko;rw[if_pos h,if_pos h2]
theorem yA {d:List UInt8} {ts:List aN} (h:(ts.all fun n=>eS n&&eU n)=true) (h2:¬4194304<(df ts).length) (h3:1048576<(ew d (bQ (df ts))).length):ko (d,ts)=([],8):=by unfold ko;rw[if_pos h,if_neg h2,if_pos h3]
theorem wq {d:List UInt8} {ts:List aN} (h:(ts.all fun n=>eS n&&eU n)=true) (h2:¬4194304<(df ts).length) (h3:¬1048576<(ew d (bQ (df ts))).length):ko (d,ts)=(ew d (bQ (df ts)),0):=by unfold ko;rw[if_pos h,if_neg h2,if_neg h3]
theorem oR {w:World} {d:List UInt8} {ts:List aN} {tv:Value} (hd:d.length=32) (ht:cK bh ts tv w) (hperm:∀n∈ts,Ig w n) (hw:∀n∈ts,wN n) (hb:(df ts).length≤1099511627776):
 Calls Tryz.prog 17 #[.agg (it d tv).toArray] w (bD fun r w'=>aG w w'∧jq w.heap.size (d,ts) r w'):=by
 refine enter (vs:=[.agg (it d tv).toArray]) Tryz.func17 JL JL JL ?_
 have hll:=ht.len
 have hpl:(df ts).length=(uv ts.length).length+(ts.flatMap cG).length:=by simp only[df,List.length_append]
 refine af (aa ?_)
 obtain⟨g1,w1,hr1,l1,x1,k1⟩:=cI (P:=Tryz.prog) (w:=w) (T:=25) (cs:=it d tv)
 refine cx JL JL hr1 ?_
 have c1:=sV k1 hd
 refine ac JL JL (ac JL JL (ag (ab (af (af (aa ?_))))))
 refine ah JL JL gF ?_
 refine ak JL JL (ai Jk JL c1) (aP JL JL (bO Jk (ht.ext x1)) (ae JL JL (ag (ab ?_))))
 refine av ?_
 refine ck (α:=Nat) (fun i=>[(1,.pointer (some ⟨g1,0,none⟩)),(12,tv),(13,I (ts.length:Int)),(14,I (i:Int))]) (fun i w'=>aG w w'∧aG w1 w'∧i≤ts.length∧(ts.all fun n=>eS n&&eU n)=((ts.drop i).all fun n=>eS n&&eU n)) (fun i=>ts.length-i) (0) ⟨rfl,rfl,rfl,rfl,trivial⟩ ⟨x1,aG.refl _,by omega,rfl⟩ ?_
 rintro i wL ⟨eL,e1L,hi,hall⟩
 refine af (aa (aj JL JL JL (aS) (ag (ab (af ?_)))))
 refine ba JL (fun h15=>?_) (fun h15=>?_)
 ·refine ar (ab (af (av (af (aa ?_)))))
  obtain⟨a16,c16,p16,q16,h16⟩:=cO (P:=Tryz.prog) (sz:=9) Jk (by kernel_rfl) bK (by omega) ht (i:=i) (by omega) .i64
  obtain⟨e16,he16⟩:∃e,e=ts[i]'(by omega):=⟨_,rfl⟩
  rw[←he16] at h16
  obtain⟨x16_0,x16_1,x16_2,x16_3,x16_4,rfl,f16_0,f16_1,f16_2,f16_3,f16_4⟩:=dh h16
  refine ap JL JL JL (p16 _) ?_
  have hmem:e16∈ts:=by rw[he16];exact List.getElem_mem _
  refine ak JL JL ((q16.ext eL).ld Jg JL (by kernel_rfl)) ?_
  obtain⟨g5,w5,hr5,l5,x5,k5⟩:=bc (P:=Tryz.prog) (w:=wL) (t:=83) (z:=.agg #[.slice none 0 0,I 0,I 0,B false,.slice none 0 0,.slice none 0 0,.slice none 0 0,B false,.slice none 0 0]) (l:=[.slice none 0 0,I 0,I 0,B false,.slice none 0 0,.slice none 0 0,.slice none 0 0,B false,.slice none 0 0]) (by kernel_rfl) rfl
  refine bf JL hr5 ?_
  obtain⟨w3_3,s3_3,q3_3,k3_3⟩:=k5.stS (P:=Tryz.prog) (t:=83) (m:=[x16_0,I e16.split.kd,I e16.split.ix,B e16.split.at_.1,x16_1,x16_2,x16_3,B e16.empty,x16_4]) rfl (by kernel_rfl) (aL.cons f16_0.one (aL.cons rfl (aL.cons rfl (aL.cons rfl (aL.cons f16_1.one (aL.cons f16_2.one (aL.cons f16_3.one (aL.cons rfl (aL.cons f16_4.one aL.nil)))))))))
  refine aC JL JL s3_3 ?_
  have x3_3:=aG.of_new (x5) q3_3 l5
  refine ag (ab (af (aa (ak JL JL (k3_3.ld Jg JL (by kernel_rfl)) (am Af JL JL ((hperm e16 hmem ((eL.trans x3_3)) (f16_0.ext (eL.trans x3_3)) (f16_1.ext (eL.trans x3_3)) (f16_2.ext (eL.trans x3_3)) (f16_3.ext (eL.trans x3_3)) (f16_4.ext (eL.trans x3_3)))) ?_)))))
  rintro v19 w19 ⟨x19,rfl⟩
  refine bB JL JL bF (ag (ab ?_))
  refine eZ JL (fun h20=>?_) (fun h20=>?_)
  ·have hno:(eS (ts[i]'(by omega))&&eU (ts[i]'(by omega)))=false:=by rw[←he16];rw[Bool.not_eq_true'] at h20;exact h20
   refine af (aa (ac JL JL (ac JL JL (ag (ab (au (aT (ax (ax (aT (ax (aR JL JL JL ?_))))))))))))
   exact⟨_,rfl,((eL.trans x3_3).trans x19),jq.err (wo (jp (p:=fun n=>eS n&&eU n) (by omega) hall hno))⟩
  ·have hyes:(eS (ts[i]'(by omega))&&eU (ts[i]'(by omega)))=true:=by rw[←he16];rw[Bool.not_eq_false'] at h20;exact h20
   refine ar (aM (ab (aa (aj (r:=I ((i+1:Nat):Int)) JL JL JL (by have e:((i+1:Nat):Int)=(i:Int)+1:=(by omega);rw[e];exact aE (by omega) (by omega)) ?_))))
   refine ae JL JL (ag ?_)
   refine bN (i+1) ⟨rfl,rfl,rfl,rfl,trivial⟩ ⟨((eL.trans x3_3).trans x19),((e1L.trans x3_3).trans x19),by omega,mh (p:=fun n=>eS n&&eU n) (by omega) hall hyes⟩ (by omega)
 ·refine aX (aA (aA (aV (ab (af ?_)))))
  have hav:=jE (p:=fun n=>eS n&&eU n) (by omega) hall
  have c1L:=e1L.cell_some c1
  have htL:=ht.ext eL
  refine aa ?_
  refine bI (vs:=[]) (r:=.agg #[gM]) JL JL (run_build _ _ _ _ (by kernel_rfl)) ?_
  obtain⟨g6,w6,hr6,l6,x6,k6⟩:=cI (P:=Tryz.prog) (w:=wL) (T:=95) (cs:=[gM])
  refine cx JL JL hr6 ?_
  have hW6:fm 95 w.heap.size g6 [] gM w6:=fm.mk1 eL (cf.nil _ _) x6 l6 k6
  have c16:=x6.cell_some c1L
  refine ac JL JL (ag (ab (af (aa (ae JL JL ?_)))))
  refine ah JL JL gF ?_
  refine ak JL JL (ai Jk JL c16) ?_
  refine aP JL JL (bO (f:=bh) Jk (ht.ext ((eL.trans x6)))) ?_
  refine am lr JL JL ((ly hW6 ((eL.trans x6)).size (by simp) (by omega))) ?_
  rintro v28 w28 ⟨v28,hW28,st28⟩
  have x28:=st28.ext ((eL.trans x6)) hW6.ge hW6.new
  have n16:¬(g1=g6∨gM.ownBlock=some g1):=by
   rintro(h|h)
   ·have:=k1.lt;have:=e1L.size;omega
   ·cases h
  have k16:=(k1.ext e1L).ext x6
  have k128:=st28.mv.blk k16 n16
  have n128:=st28.off n16 k16.lt
  have c128:=sV k128 hd
  rw[List.nil_append] at hW28
  refine ag (ab (af (af (aa ?_))))
  refine ah JL JL gF ?_
  refine ak JL JL (ai Jk JL c128) ?_
  refine aP JL JL (bO (f:=bh) Jk (ht.ext (x28))) ?_
  refine ae JL JL (ag (ab (av ?_)))
  refine dA (fun(i:Nat) (u:Value)=>[(1,.pointer (some ⟨g1,0,none⟩)),(6,.pointer (some ⟨g6,0,none⟩)),(30,tv),(31,I (ts.length:Int)),(32,I (i:Int))]) (fun(i:Nat) (u:Value) w'=>fm 95 w.heap.size g6 (uv ts.length++(ts.take i).flatMap cG) u w'∧aG w w'∧cl g1 25 (it d tv) w'∧¬(g1=g6∨u.ownBlock=some g1)∧i≤ts.length∧(i=0∨(uv ts.length++(ts.take i).flatMap cG).length≤4194304)) (fun(i:Nat) (u:Value)=>ts.length-i) (0) (v28) ⟨rfl,rfl,rfl,rfl,rfl,trivial⟩ ⟨by simpa using hW28,x28,k128,n128,by omega,.inl rfl⟩ ?_
  rintro i u wM ⟨hW1,eM,kM,nM,hi2,hlim⟩
  refine af (aa (aj JL JL JL (aS) (ag (ab (af ?_)))))
  refine ba JL (fun h33=>?_) (fun h33=>?_)
  ·refine ar (ab (af (av (af (aa ?_)))))
   obtain⟨a34,c34,p34,q34,h34⟩:=cO (P:=Tryz.prog) (sz:=9) Jk (by kernel_rfl) bK (by omega) ht (i:=i) (by omega) .i64
   obtain⟨e34,he34⟩:∃e,e=ts[i]'(by omega):=⟨_,rfl⟩
   rw[←he34] at h34
   obtain⟨x34_0,x34_1,x34_2,x34_3,x34_4,rfl,f34_0,f34_1,f34_2,f34_3,f34_4⟩:=dh h34
   refine ap JL JL JL (p34 _) ?_
   have hfl:=eY (f:=cG) (l:=ts) (i:=i) (by omega)
   rw[←he34] at hfl
   have hmem:e34∈ts:=by rw[he34];exact List.getElem_mem _
   refine ak JL JL ((q34.ext eM).ld Jg JL (by kernel_rfl)) ?_
   obtain⟨g8,w8,hr8,l8,x8,k8⟩:=bc (P:=Tryz.prog) (w:=wM) (t:=83) (z:=.agg #[.slice none 0 0,I 0,I 0,B false,.slice none 0 0,.slice none 0 0,.slice none 0 0,B false,.slice none 0 0]) (l:=[.slice none 0 0,I 0,I 0,B false,.slice none 0 0,.slice none 0 0,.slice none 0 0,B false,.slice none 0 0]) (by kernel_rfl) rfl
   refine bf JL hr8 ?_
   obtain⟨w11_3,s11_3,q11_3,k11_3⟩:=k8.stS (P:=Tryz.prog) (t:=83) (m:=[x34_0,I e34.split.kd,I e34.split.ix,B e34.split.at_.1,x34_1,x34_2,x34_3,B e34.empty,x34_4]) rfl (by kernel_rfl) (aL.cons f34_0.one (aL.cons rfl (aL.cons rfl (aL.cons rfl (aL.cons f34_1.one (aL.cons f34_2.one (aL.cons f34_3.one (aL.cons rfl (aL.cons f34_4.one aL.nil)))))))))
   refine aC JL JL s11_3 ?_
   have x11_3:=aG.of_new (x8) q11_3 l8
   refine ag (ab (af (aa (ae JL JL (ak JL JL (k11_3.ld Tryz.underlying83 JL (by kernel_rfl)) (am mm JL JL ((mq _ (Nat.le_refl _) ((eM.trans x11_3)) (hW1.ext x11_3) f34_0 f34_1 f34_2 f34_3 f34_4 (hw e34 hmem) (by simp only[List.length_append];omega))) ?_))))))
   rintro v38 w38 ⟨v38,hW38,st38⟩
   have x38:=st38.ext ((eM.trans x11_3)) hW1.ge hW1.new
   have kM2:=st38.mv.blk (kM.ext x11_3) nM
   have nM2:=st38.off nM (kM.ext x11_3).lt
   have kg:=hW38.blk
   have hlen:(uv ts.length++(ts.take (i+1)).flatMap cG).length=(uv ts.length++(ts.take i).flatMap cG++cG e34).length:=by rw[cQ (by omega),←he34,←List.append_assoc]
   have hle:(uv ts.length++(ts.take (i+1)).flatMap cG).length≤(df ts).length:=by
    have:=lw (f:=cG) ts (i+1)
    rw[hpl,List.length_append];omega
   have b38:ci (uv ts.length++(ts.take i).flatMap cG++cG e34) v38 w38:=hW38.row.bts
   refine ag (ab (af (aa (ae JL JL (aZ JL JL ?_)))))
   refine ah JL JL gG ?_
   refine ak JL JL (ai Jl JL kg.k0) ?_
   refine aP JL JL (bP b38) ?_
   refine aj JL JL JL (cg) (ag (ab ?_))
   refine ba JL (fun h44=>?_) (fun h44=>?_)
   ·refine af (aa (ac JL JL (ac JL JL (ag (ab (au (aT (ax (ax (aT (ax (aR JL JL JL ?_))))))))))))
    exact⟨_,rfl,x38,jq.err (uB hav (by omega))⟩
   ·refine ar (aM (ab (aa (aj (r:=I ((i+1:Nat):Int)) JL JL JL (by have e:((i+1:Nat):Int)=(i:Int)+1:=(by omega);rw[e];exact aE (by omega) (by omega)) ?_))))
    refine ae JL JL (ag ?_)
    refine cF (i+1) (v38) ⟨rfl,rfl,rfl,rfl,rfl,trivial⟩ ⟨by rw[cQ (by omega),←he34,←List.append_assoc];exact hW38,x38,kM2,nM2,by omega,.inr (by omega)⟩ (by omega)
  ·refine aX (aA (aA (aV (ab (af ?_)))))
   rw[List.take_of_length_le (by omega)] at hW1 hlim
   have hbod:(df ts).length≤4194304:=by
    rcases hlim with h|h
    ·have:ts=[]:=List.eq_nil_of_length_eq_zero (by omega)
     subst this
     decide
    ·exact h
   have hW1:fm 95 w.heap.size g6 (df ts) u wM:=hW1
   obtain⟨v46,w46a,w46,hr46,hc46,x46,b46,ad,hv46,had,hlt⟩:=EI (w:=wM) (t:=28) Tryz.underlying28 [82,76,85,67] (by simp) (by simp)
   refine aa ?_
   refine aJ (vs:=[(0,U8 82),(1,U8 76),(2,U8 85),(3,U8 67)]) JL JL hr46 ?_
   refine aQ JL JL hc46 ?_
   have e46:=eM.trans x46
   have k46:=kM.ext x46
   have row46:Hn w.heap.size [82,76,85,67] v46 w46:=.inr ⟨b46,ad,hv46⟩
   obtain⟨v50,w50,hr50,o50,x50⟩:=vz (ty:=28) e46 row46 (Bm k46 hd) (by omega) (by simp[hd])
   have i50:aG w46 w50:=by
    obtain⟨_,w5,hr5,_,x5⟩:=vz (ty:=28) (aG.refl w46) (.inr ⟨b46,ad,hv46⟩) (Bm k46 hd) (by omega) (by simp[hd])
    have:=hr5.symm.trans hr50
    simp only[Result.ok.injEq] at this
    rw[←this.2];exact x5
   refine ah JL JL FI ?_
   refine cY JL JL JL JL JL sU ?_
   refine aW JL JL hr50 ?_
   have hW50:=hW1.ext (x46.trans i50)
   have kg:=hW50.blk
   have b50:=hW50.row.bts
   refine ac JL JL (ag (ab (af (aa (ae JL JL (ae JL JL (aZ JL JL ?_)))))))
   refine ah JL JL gG ?_
   refine ak JL JL (ai Jl JL kg.k0) (am sF JL JL ((sG b50 (by omega))) ?_)
   rintro v56 w56 ⟨x56,b56⟩
   have hpk:=li (d:=df ts) (by omega)
   have hpp:1≤(bQ (df ts)).length:=by unfold bQ;rw[List.length_append];have:=vc (df ts).length;omega
   obtain⟨v57,w57,hr57,o57,g57⟩:=cH (ty:=28) (o50.ext x56) b56 (by simp only[List.length_append,List.length_cons,List.length_nil];omega) (((e46.trans i50).trans x56)).size
   have x57:=aG.of_grew (((e46.trans i50).trans x56)) g57 (o50.ext x56).ge
   refine aW JL JL hr57 ?_
   have b57:ci (eV++d++bQ (df ts)) v57 w57:=o57.bts
   refine ac JL JL (ag (ab (af (aa (ae JL JL (am ux JL JL ((uy b57)) ?_))))))
   rintro v59 w59 ⟨x59,rfl⟩
   obtain⟨g10,w10,hr10,l10,x10,k10⟩:=bc (P:=Tryz.prog) (w:=w59) (t:=22) (l:=(List.replicate 32 0).map U8) mc rfl
   refine bf JL hr10 ?_
   obtain⟨w11,s11,q11,k11⟩:=k10.stS (P:=Tryz.prog) (t:=22) (m:=(iL (eV++d++bQ (df ts))).map U8) (by simp[dn]) (by rw[List.length_map,dn];exact mg) (kD _)
   refine aC JL JL s11 ?_
   have x11:=x10.of_new q11 l10
   have b32:ci (iL (eV++d++bQ (df ts))) (.slice (some ⟨g10,0,none⟩) 32 32) w11:=by
    have:=k11.bts (by rw[dn];omega)
    rwa [dn] at this
   refine ag (ab (af (af (aa (ae JL JL (cY JL JL JL JL JL (sU) ?_))))))
   have o57':cf w.heap.size (eV++d++bQ (df ts)) v57 w11:=o57.ext ((x59.trans x11))
   have hsl:=kn (d:=d) (p:=bQ (df ts)) hd
   obtain⟨v62,w62,hr62,o62,g62⟩:=cH (ty:=28) o57' b32 (by simp only[List.length_append,hd,dn,show eV.length=4 from rfl];omega) (((x57.trans x59).trans x11)).size
   have x62:=aG.of_grew (((x57.trans x59).trans x11)) g62 o57'.ge
   refine aW JL JL hr62 ?_
   have o62:cf w.heap.size (ew d (bQ (df ts))) v62 w62:=o62
   have b62:=o62.bts
   refine ac JL JL (ag (ab (af (aa (ae JL JL ?_)))))
   refine aP JL JL (bP b62) ?_
   refine aj JL JL JL (cg) (ag (ab ?_))
   refine ba JL (fun h65=>?_) (fun h65=>?_)
   ·refine af (aa (ac JL JL (ac JL JL (ag (ab (au (ax (aR JL JL JL ?_))))))))
    exact⟨_,rfl,x62,jq.err (yA hav (by omega) (by omega))⟩
   ·refine ar (ab (af (aa (ae JL JL (ac JL JL (ac JL JL (ag (ab (au (aR JL JL JL ?_))))))))))
    exact⟨_,rfl,x62,jq.ok (wq hav (by omega) (by omega)) o62⟩
end Go.Rl
namespace Go.Rl
open Go.RowKit Go.Proofs
theorem gH:aw Tryz.prog 15:=⟨_,Tryz.func15,by kernel_rfl,rfl⟩
theorem Ag:aw Tryz.prog 22:=⟨_,Tryz.func22,by kernel_rfl,rfl⟩
def ql:List UInt8:=ew nj (bQ (df []))
theorem pk0:pk [0] 0 0=[1,0]:=by
 rw[pH (by decide) (by rfl),jQ (by decide)]
 rfl
theorem GW:bQ (df [])=[1,1,0]:=by
 show uv 1++pk [0] 0 0=_
 rw[pk0];rfl
theorem mX:ql.length=71:=by unfold ql;rw[kn rfl,GW];rfl
theorem Ah:ql.take 4=[82,76,85,67]:=nL
theorem I5:ko (nj,[])=(ql,0):=wq rfl (by decide) (by show ¬1048576<ql.length;rw[mX];omega)
theorem I6:iI ql=((nj,[]),0):=by
 have h:=C3 (d:=nj) (body:=df []) rfl (by decide) (by show ql.length≤1048576;rw[mX];omega)
 have ht:Bi (df [])=some []:=yu (by rfl)
 rw[ht] at h
 exact h
def Bo:aN:=.mk [] yQ [] true []
theorem uC:cG Bo=[1,0,0]:=by rfl
theorem GX:wN Bo:=by
 simp only[Bo,wN,Iv,and_true]
 exact⟨fun _ h=>(by simp at h),⟨by show mO 0;unfold mO;omega,by show mO 0;unfold mO;omega⟩,fun _ h=>by simp at h⟩
theorem gI {w:World}:Calls Tryz.prog 15 #[] w (bD fun r w'=>aG w w'∧r=B true):=by
 refine enter (vs:=[]) Tryz.func15 JL JL JL ?_
 refine af (aa (ac JL JL (ag (ab (af (aa ?_))))))
 refine bI (vs:=[]) (r:=.agg (it nj gM).toArray) JL JL fC ?_
 refine am oQ JL JL ((oR (d:=nj) (ts:=[]) JL (cK.nil _ _) (fun _ h=>by simp at h) (fun _ h=>by simp at h) (by decide))) ?_
 rintro v7 w7 ⟨x7,v8,rfl,o8⟩
 rw[I5] at o8
 rw[I5]
 have b8:ci ql v8 w7:=o8.bts
 refine ae JL JL (an JL JL (bw) (an JL JL (bz) (ac JL JL (ac JL JL (ag (ab (af (aa (ae JL JL (am oN JL JL ((oP b8)) ?_))))))))))
 rintro v12 w12 ⟨x12,v13,rfl,r13⟩
 rw[I6] at r13
 rw[I6]
 have h13:cK bh [] v13 w12:=r13.rp
 refine ae JL JL (an JL JL (bw) (an JL JL (bz) ?_))
 obtain⟨g3,w3,hr3,l3,x3,k3⟩:=bc (P:=Tryz.prog) (w:=w12) (t:=25) (z:=.agg (it nj gM).toArray) (l:=it nj gM) Aa rfl
 refine bf JL hr3 ?_
 obtain⟨w4,s4,q4,k4⟩:=jR (d:=nj) (v:=v13) k3 rfl rfl h13.one
 refine aC JL JL s4 ?_
 have x4:=aG.of_new x3 q4 l3
 refine ac JL JL (ag (ab (af (aa (bI (vs:=[(3,B true)]) (r:=.agg #[.slice none 0 0,I 0,I 0,B false,.slice none 0 0,.slice none 0 0,.slice none 0 0,B true,.slice none 0 0]) JL JL (by exact run_build _ _ _ _ (by kernel_rfl)) ?_)))))
 refine am Ac JL JL ((Ae (n:=Bo) (b:=[]) (ci.nil _) (cK.nil _ _) (Sl.nil _ _) (Sl.nil _ _) (cK.nil _ _) (cK.nil _ _) GX (by rw[uC];decide))) ?_
 rintro v16 w16 ⟨x16,b16⟩
 rw[uC,List.nil_append] at b16
 refine aQ (r:=S [1,0,0]) JL JL (qZ b16) ?_
 refine aj (v:=S [1,0,0]) JL JL JL (dv JL qB) (ae JL JL (al JL (ae JL JL (al JL (aj JL JL JL (dv JL bA) (aB JL JL JL ?_))))))
 refine ae JL JL (al JL (ae JL JL (al JL (aP (r:=I 71) JL JL ((by have h:=bP (ty:=3) (b8.ext ((x12.trans x4).trans x16));rw[mX] at h;exact h)) ?_))))
 refine al JL (aj JL JL JL (dv JL bA) (aB JL JL JL (ae JL JL (al JL (ae JL JL (al JL ?_))))))
 obtain⟨v30,p30,b30⟩:=jg (b8.ext ((x12.trans x4).trans x16)) (hi:=4) (by rw[mX];omega) .i64
 refine cY JL JL JL JL JL (p30 _) ?_
 rw[Ah] at b30
 refine al JL ?_
 refine aQ (r:=S [82,76,85,67]) JL JL (qZ b30) ?_
 refine al JL (aj (v:=S [82,76,85,67]) JL JL JL (dv JL qB) (aB JL JL JL (ae JL JL (al JL (ae JL JL (al JL (aj JL JL JL (dv JL bA) ?_)))))))
 refine aB JL JL JL ?_
 have c4:=sV (k4.ext x16) GU
 have h4:=h13.ext (x4.trans x16)
 refine ae JL JL (al JL ?_)
 refine ah JL JL gF ?_
 refine al JL (ak JL JL (ai Jk JL c4) (al JL ?_))
 refine aP (r:=I 0) JL JL (bO (f:=bh) (l:=[]) Jk h4) ?_
 refine al JL (aj JL JL JL (dv JL bA) (aB JL JL JL (ac JL JL (ag (ab (au (az JL JL ?_)))))))
 exact⟨_,rfl,(((x7.trans x12).trans x4).trans x16),rfl⟩
theorem Ai {w:World} {d p:List UInt8} {pv:Value} (hd:d.length=32) (hp:ci p pv w) (hl:p.length≤1099511627776-100):
 Calls Tryz.prog 22 #[.agg (d.map U8).toArray,pv] w (bD fun r w'=>aG w w'∧cf w.heap.size (ew d p) r w'):=by
 refine enter (vs:=[.agg (d.map U8).toArray,pv]) Tryz.func22 JL JL JL ?_
 refine af (aa ?_)
 obtain⟨g2,w2,hr2,l2,x2,k2⟩:=cI (P:=Tryz.prog) (w:=w) (T:=22) (cs:=d.map U8)
 refine cx JL JL hr2 ?_
 refine ac JL JL (ag (ab (af (aa ?_))))
 obtain⟨v7,w7a,w7,hr7,hc7,x7,b7,ad,hv7,had,hlt⟩:=EI (w:=w2) (t:=28) Tryz.underlying28 [82,76,85,67] (by simp) (by simp)
 refine aJ (vs:=[(0,U8 82),(1,U8 76),(2,U8 85),(3,U8 67)]) JL JL hr7 ?_
 refine aQ JL JL hc7 ?_
 have e7:=x2.trans x7
 have bd:ci d (.slice (some ⟨g2,0,none⟩) 32 32) w7:=by
  have:=(k2.ext x7).bts (by rw[hd];omega)
  rwa [hd] at this
 obtain⟨v10,w10,hr10,o10,x10⟩:=vz (ty:=28) e7 (.inr ⟨b7,ad,hv7⟩) bd (by omega) (by simp[hd])
 have hp10:=hp.ext x10
 refine cY JL JL JL JL JL (sU) ?_
 refine aW JL JL hr10 ?_
 refine ae JL JL ?_
 obtain⟨v12,w12,hr12,o12,g12⟩:=cH (ty:=28) o10 hp10 (by simp only[List.length_append,List.length_cons,List.length_nil];omega) (x10).size
 have x12:=aG.of_grew (x10) g12 o10.ge
 refine aW JL JL hr12 ?_
 have b12:ci (eV++d++p) v12 w12:=o12.bts
 have hl12:(eV++d++p).length=36+p.length:=by simp only[List.length_append,hd,show eV.length=4 from rfl]
 refine ac JL JL (ag (ab (af (aa (ae JL JL (am ut JL JL ((uu b12 (by omega))) ?_))))))
 rintro v14 w14 ⟨x14,rfl⟩
 obtain⟨g6,w6,hr6,l6,x6,k6⟩:=bc (P:=Tryz.prog) (w:=w14) (t:=22) (l:=(List.replicate 32 0).map U8) mc rfl
 refine bf JL hr6 ?_
 obtain⟨w11,s11,q11,k11⟩:=k6.stS (P:=Tryz.prog) (t:=22) (m:=(iL (eV++d++p)).map U8) (by simp[dn]) (by rw[List.length_map,dn];exact mg) (kD _)
 refine aC JL JL s11 ?_
 have x11:=x6.of_new q11 l6
 have b32:ci (iL (eV++d++p)) (.slice (some ⟨g6,0,none⟩) 32 32) w11:=by
  have:=k11.bts (by rw[dn];omega)
  rwa [dn] at this
 refine ag (ab (af (aa (ae JL JL (cY JL JL JL JL JL (sU) ?_)))))
 have o12':cf w.heap.size (eV++d++p) v12 w11:=o12.ext ((x14.trans x11))
 obtain⟨v17,w17,hr17,o17,g17⟩:=cH (ty:=28) o12' b32 (by rw[hl12,dn];omega) (((x12.trans x14).trans x11)).size
 have x17:=aG.of_grew (((x12.trans x14).trans x11)) g17 o12'.ge
 refine aW JL JL hr17 ?_
 refine ac JL JL (ag (ab (au (az JL JL ?_))))
 exact⟨_,rfl,x17,o17⟩
end Go.Rl
namespace Go.Rl
open Go.RowKit Go.Proofs
theorem jr:aw Tryz.prog 105:=⟨_,Tryz.func105,by kernel_rfl,rfl⟩
theorem pQ:aw Tryz.prog 51:=⟨_,Tryz.func51,by kernel_rfl,rfl⟩
theorem Aj:aw Tryz.prog 92:=⟨_,Tryz.func92,by kernel_rfl,rfl⟩
theorem sX:aw Tryz.prog 136:=⟨_,Tryz.func136,by kernel_rfl,rfl⟩
theorem sY:aw Tryz.prog 93:=⟨_,Tryz.func93,by kernel_rfl,rfl⟩
theorem wr:aw Tryz.prog 52:=⟨_,Tryz.func52,by kernel_rfl,rfl⟩
theorem oS:aw Tryz.prog 18:=⟨_,Tryz.func18,by kernel_rfl,rfl⟩
theorem ie:aw Tryz.prog 90:=⟨_,Tryz.func90,by kernel_rfl,rfl⟩
def sQ (q:fx):Prop:=q.2.1.length≤1073741824∧q.2.2.length≤1073741824
def sP (l:List cB):Prop:=∀m∈l,sQ m.co
def sL (m:fE):Prop:=sQ m.va∧sP m.pf
mutual
def sN:aN→Prop
 |.mk lems sp kids _ pf=>(∀m∈lems,sL m)∧sQ sp.at_∧sP pf∧I7 kids
def I7:List aN→Prop
 |[]=>True
 |n::l=>sN n∧I7 l
end
theorem Bp:∀l:List aN,I7 l↔∀n∈l,sN n
 |[]=>by simp[I7]
 |n::l=>by simp only[I7,Bp l,List.mem_cons,forall_eq_or_imp]
theorem wt (n:aN):sN n↔(∀m∈n.lems,sL m)∧sQ n.split.at_∧sP n.pf∧∀k∈n.kids,sN k:=by
 cases n with
 |mk l s k e p=>simp only[sN,Bp];rfl
theorem sZ {w:World} {q:fx} {x y:Value} (hx:bj q.2.1 x w) (hy:bj q.2.2 y w) (hs:sQ q):
 Calls Tryz.prog 90 #[.agg #[B q.1,x,y]] w (bD fun r w'=>aG w w'∧r=B (gL q)):=
 xE (b:=q.1) ⟨x,y,rfl,hx,hy⟩ (by have:=hs.1;omega) (by have:=hs.2;omega)
theorem mr {w:World} {q:fx} {x y:Value} {b:Bool} (hx:bj q.2.1 x w) (hy:bj q.2.2 y w) (hs:sQ q) (hb:gL q=b):
 Calls Tryz.prog 90 #[.agg #[B q.1,x,y]] w (bD fun r w'=>aG w w'∧r=B b):=hb▸sZ hx hy hs
theorem Ak {w:World} {l:List cB} {v:Value} (hv:cK cd l v w) (hs:sP l):
 Calls Tryz.prog 105 #[v] w (bD fun r w'=>aG w w'∧r=B (pG l)):=by
 refine enter (vs:=[v]) Tryz.func105 JL JL JL ?_
 have hll:=hv.len
 refine af (aa (ac JL JL (ag (ab (af (af (aa (ac JL JL (ag (ab (av ?_)))))))))))
 refine ck (α:=Nat) (fun i=>[(0,v),(3,I (i:Int))]) (fun i w'=>aG w w'∧i≤l.length∧(l.all fun m:cB=>gL m.co)=((l.drop i).all fun m:cB=>gL m.co)) (fun i=>l.length-i) (0) ⟨rfl,rfl,trivial⟩ ⟨aG.refl _,by omega,rfl⟩ ?_
 rintro i wL ⟨eL,hi,hall⟩
 refine af (af (aa (ae JL JL (ae JL JL (aP JL JL (bO Jp (hv.ext eL)) (aj JL JL JL (aS) (ag (ab ?_))))))))
 refine ba JL (fun h7=>?_) (fun h7=>?_)
 ·refine ar (ab (af (av (af (aa (ae JL JL (ae JL JL ?_)))))))
  obtain⟨a12,c12,p12,q12,h12⟩:=cO (P:=Tryz.prog) (sz:=7) Jp (by kernel_rfl) fy (by omega) (hv.ext eL) (i:=i) (by omega) .i64
  obtain⟨e12,he12⟩:∃e,e=l[i]'(by omega):=⟨_,rfl⟩
  rw[←he12] at h12
  obtain⟨x12_0,x12_1,rfl,f12_0,f12_1⟩:=j9 h12
  refine ap rfl rfl rfl (p12 _) (ah rfl rfl (jM (o:=4) Tryz.underlying216 rfl (by kernel_rfl) rfl) (ak rfl rfl (q12.ldO (ms:=[B e12.co.1,x12_0,x12_1]) (o:=4) (fun j v hj=>by rcases j with _|_|_|_|_|_|_|_|_|j<;>simp_all) Tryz.underlying55 rfl (by kernel_rfl)) ?_))
  refine am ie JL JL ((sZ (q:=e12.co) f12_0 f12_1 (hs e12 (by rw[he12];exact List.getElem_mem _)))) ?_
  rintro v15 w15 ⟨x15,rfl⟩
  refine bB JL JL bF (ag (ab ?_))
  refine eZ JL (fun h16=>?_) (fun h16=>?_)
  ·have hno:gL (l[i]'(by omega)).co=false:=by rw[←he12];rw[Bool.not_eq_true'] at h16;exact h16
   refine af (aa (ac JL JL (ag (ab (au (aT (ax (ax (aT (ax (az JL JL ?_)))))))))))
   exact⟨_,rfl,(eL.trans x15),congrArg B (jp (p:=fun m:cB=>gL m.co) (by omega) hall hno).symm⟩
  ·have hyes:gL (l[i]'(by omega)).co=true:=by rw[←he12];rw[Bool.not_eq_false'] at h16;exact h16
   refine ar (aM (ab (aa (ae JL JL (aj (r:=I ((i+1:Nat):Int)) JL JL JL (by have e:((i+1:Nat):Int)=(i:Int)+1:=(by omega);rw[e];exact aE (by omega) (by omega)) ?_)))))
   refine ac JL JL (ag ?_)
   refine bN (i+1) ⟨rfl,rfl,trivial⟩ ⟨(eL.trans x15),by omega,mh (p:=fun m:cB=>gL m.co) (by omega) hall hyes⟩ (by omega)
 ·refine aX (aA (aA (aV (ab (af (aa (ac JL JL (ag (ab (au (az JL JL ?_)))))))))))
  exact⟨_,rfl,eL,congrArg B (jE (p:=fun m:cB=>gL m.co) (by omega) hall).symm⟩
theorem mw {w:World} {l:List cB} {v:Value} {b:Bool} (hv:cK cd l v w) (hs:sP l) (hb:pG l=b):
 Calls Tryz.prog 105 #[v] w (bD fun r w'=>aG w w'∧r=B b):=hb▸Ak hv hs
theorem Db {w:World} {n:aN} {vl x y vk vp:Value} (ih:∀k∈n.kids,∀{w:World} {vl x y vk vp:Value},cK dm k.lems vl w→bj k.split.at_.2.1 x w→bj k.split.at_.2.2 y w→cK bh k.kids vk w→cK cd k.pf vp w→sN k→
 Calls Tryz.prog 51 #[.agg #[vl,I k.split.kd,I k.split.ix,B k.split.at_.1,x,y,vk,B k.empty,vp]] w (bD fun r w'=>aG w w'∧r=B (eU k)))
 (hl:cK dm n.lems vl w) (hx:bj n.split.at_.2.1 x w) (hy:bj n.split.at_.2.2 y w) (hk:cK bh n.kids vk w) (hp:cK cd n.pf vp w) (hs:sN n):
 Calls Tryz.prog 51 #[.agg #[vl,I n.split.kd,I n.split.ix,B n.split.at_.1,x,y,vk,B n.empty,vp]] w (bD fun r w'=>aG w w'∧r=B (eU n)):=by
 refine enter (vs:=[.agg #[vl,I n.split.kd,I n.split.ix,B n.split.at_.1,x,y,vk,B n.empty,vp]]) Tryz.func51 JL JL JL ?_
 obtain⟨sl,ss,sp,sk⟩:=(wt n).1 hs
 have hcn:=GE n
 have hll:=hl.len
 have hkl:=hk.len
 refine af (aa ?_)
 obtain⟨g1,w1,hr1,l1,x1,k1⟩:=cI (P:=Tryz.prog) (w:=w) (T:=83) (cs:=[vl,I n.split.kd,I n.split.ix,B n.split.at_.1,x,y,vk,B n.empty,vp])
 refine cx JL JL hr1 (ac JL JL (ag (ab (af (af ?_)))))
 rcases hc1:pG n.pf
 rotate_left
 rcases hc2:gL n.split.at_
 ·refine aa (ah JL JL (aI (o:=8) Jg JL (by kernel_rfl) JL) (ak JL JL (ai Jp JL (k1.cell (i:=8) JL)) ?_))
  refine am jr JL JL ((mw (hp.ext x1) sp hc1)) ?_
  rintro v7 w7 ⟨x7,rfl⟩
  refine bB JL JL bF (ae JL JL (al JL (ah JL JL (aI (o:=1) Jg JL (by kernel_rfl) JL) (al JL (ah JL JL (ic (b:=1) (o:=2) Jn JL (by kernel_rfl) JL) ?_)))))
  refine al rfl (ak rfl rfl ((k1.ext x7).ldO (ms:=[B n.split.at_.1,x,y]) (o:=3) (fun j v hj=>by rcases j with _|_|_|_|_|_|_|_|_|j<;>simp_all) Tryz.underlying55 rfl (by kernel_rfl)) ?_)
  refine al JL (am ie JL JL ((mr (q:=n.split.at_) (hx.ext (x1.trans x7)) (hy.ext (x1.trans x7)) ss hc2)) ?_)
  rintro v13 w13 ⟨x13,rfl⟩
  refine al JL (bB JL JL bF (aH JL JL JL (ag (ab (bJ JL (af (aa (ac JL JL (ag (ab (au (ax (az JL JL ?_)))))))))))))
  exact⟨_,rfl,((x1.trans x7).trans x13),by rw[hcn,hc1,hc2];rfl⟩
 ·refine aa (ah JL JL (aI (o:=8) Jg JL (by kernel_rfl) JL) (ak JL JL (ai Jp JL (k1.cell (i:=8) JL)) ?_))
  refine am jr JL JL ((mw (hp.ext x1) sp hc1)) ?_
  rintro v7 w7 ⟨x7,rfl⟩
  refine bB JL JL bF (ae JL JL (al JL (ah JL JL (aI (o:=1) Jg JL (by kernel_rfl) JL) (al JL (ah JL JL (ic (b:=1) (o:=2) Jn JL (by kernel_rfl) JL) ?_)))))
  refine al rfl (ak rfl rfl ((k1.ext x7).ldO (ms:=[B n.split.at_.1,x,y]) (o:=3) (fun j v hj=>by rcases j with _|_|_|_|_|_|_|_|_|j<;>simp_all) Tryz.underlying55 rfl (by kernel_rfl)) ?_)
  refine al JL (am ie JL JL ((mr (q:=n.split.at_) (hx.ext (x1.trans x7)) (hy.ext (x1.trans x7)) ss hc2)) ?_)
  rintro v13 w13 ⟨x13,rfl⟩
  refine al JL (bB JL JL bF (aH JL JL JL (ag (ab (dI JL (ar (ab (af (af (aa (ac JL JL (ag (ab (av ?_))))))))))))))
  refine ck (α:=Nat) (fun i=>[(1,.pointer (some ⟨g1,0,none⟩)),(3,I (i:Int))]) (fun i w'=>aG w w'∧aG w1 w'∧i≤n.lems.length∧n.lems.all jv=(n.lems.drop i).all jv) (fun i=>n.lems.length-i) (0) ⟨rfl,rfl,trivial⟩ ⟨((x1.trans x7).trans x13),(x7.trans x13),by omega,rfl⟩ ?_
  rintro i wL ⟨eL,e1L,hi,hall⟩
  refine af (af (aa (ae JL JL (ah JL JL (aI (o:=0) Jg JL (by kernel_rfl) JL) (ak JL JL (ai Jo JL (e1L.cell_some (k1.cell (i:=0) JL))) ?_)))))
  refine aP JL JL (bO Jo (hl.ext eL)) (aj JL JL JL (aS) (ag (ab ?_)))
  refine ba JL (fun h20=>?_) (fun h20=>?_)
  ·refine ar (ab (af (av (af ?_))))
   obtain⟨em,hem⟩:∃em,em=n.lems[i]'(by have:=hl.len;omega):=⟨_,rfl⟩
   have hsm:=sl em (by rw[hem];exact List.getElem_mem _)
   rcases hc3:gL em.va
   rotate_left
   rcases hc4:pG em.pf
   ·refine aa (ah JL JL (aI (o:=0) Jg JL (by kernel_rfl) JL) (ak JL JL (ai Jo JL (e1L.cell_some (k1.cell (i:=0) JL))) ?_))
    refine ae JL JL ?_
    obtain⟨a26,c26,p26,q26,h26⟩:=cO (P:=Tryz.prog) (sz:=6) Jo (by kernel_rfl) dW (by omega) (hl.ext eL) (i:=i) (by omega) .i64
    rw[←hem] at h26
    obtain⟨x26_0,x26_1,x26_2,rfl,f26_0,f26_1,f26_2⟩:=fz h26
    refine ap rfl rfl rfl (p26 _) (ah rfl rfl (jM (o:=2) Tryz.underlying147 rfl (by kernel_rfl) rfl) (ak rfl rfl (q26.ldO (ms:=[B em.va.1,x26_0,x26_1]) (o:=2) (fun j v hj=>by rcases j with _|_|_|_|_|_|_|_|_|j<;>simp_all) Tryz.underlying55 rfl (by kernel_rfl)) ?_))
    refine am ie JL JL ((mr (q:=em.va) f26_0 f26_1 hsm.1 hc3)) ?_
    rintro v29 w29 ⟨x29,rfl⟩
    refine bB JL JL bF (ae JL JL (al JL (ah JL JL (aI (o:=0) Jg JL (by kernel_rfl) JL) (al JL (ak JL JL (ai Jo JL ((e1L.trans x29).cell_some (k1.cell (i:=0) JL))) ?_)))))
    refine al JL (ae JL JL (al JL ?_))
    obtain⟨a35,c35,p35,q35,h35⟩:=cO (P:=Tryz.prog) (sz:=6) Jo (by kernel_rfl) dW (by omega) (hl.ext (eL.trans x29)) (i:=i) (by omega) .i64
    rw[←hem] at h35
    obtain⟨x35_0,x35_1,x35_2,rfl,f35_0,f35_1,f35_2⟩:=fz h35
    refine ap JL JL JL (p35 _) (al JL (ah JL JL (jM (o:=5) Jr JL (by kernel_rfl) JL) (al JL (ak JL JL (ai Jp JL (q35.at (j:=5) JL)) ?_))))
    refine al JL (am jr JL JL ((mw f35_2 hsm.2 hc4)) ?_)
    rintro v38 w38 ⟨x38,rfl⟩
    refine al JL (bB JL JL bF (aH JL JL JL (ag (ab (bJ JL (af (aa (ac JL JL (ag (ab (au (aT (ax (ax (aT (ax (az JL JL ?_)))))))))))))))))
    exact⟨_,rfl,((eL.trans x29).trans x38),by rw[hcn,jp (p:=jv) (i:=i) (by omega) hall (by rw[←hem];unfold jv;rw[hc3,hc4];rfl),Bool.and_false,Bool.false_and];rfl⟩
   ·refine aa (ah JL JL (aI (o:=0) Jg JL (by kernel_rfl) JL) (ak JL JL (ai Jo JL (e1L.cell_some (k1.cell (i:=0) JL))) ?_))
    refine ae JL JL ?_
    obtain⟨a26,c26,p26,q26,h26⟩:=cO (P:=Tryz.prog) (sz:=6) Jo (by kernel_rfl) dW (by omega) (hl.ext eL) (i:=i) (by omega) .i64
    rw[←hem] at h26
    obtain⟨x26_0,x26_1,x26_2,rfl,f26_0,f26_1,f26_2⟩:=fz h26
    refine ap rfl rfl rfl (p26 _) (ah rfl rfl (jM (o:=2) Tryz.underlying147 rfl (by kernel_rfl) rfl) (ak rfl rfl (q26.ldO (ms:=[B em.va.1,x26_0,x26_1]) (o:=2) (fun j v hj=>by rcases j with _|_|_|_|_|_|_|_|_|j<;>simp_all) Tryz.underlying55 rfl (by kernel_rfl)) ?_))
    refine am ie JL JL ((mr (q:=em.va) f26_0 f26_1 hsm.1 hc3)) ?_
    rintro v29 w29 ⟨x29,rfl⟩
    refine bB JL JL bF (ae JL JL (al JL (ah JL JL (aI (o:=0) Jg JL (by kernel_rfl) JL) (al JL (ak JL JL (ai Jo JL ((e1L.trans x29).cell_some (k1.cell (i:=0) JL))) ?_)))))
    refine al JL (ae JL JL (al JL ?_))
    obtain⟨a35,c35,p35,q35,h35⟩:=cO (P:=Tryz.prog) (sz:=6) Jo (by kernel_rfl) dW (by omega) (hl.ext (eL.trans x29)) (i:=i) (by omega) .i64
    rw[←hem] at h35
    obtain⟨x35_0,x35_1,x35_2,rfl,f35_0,f35_1,f35_2⟩:=fz h35
    refine ap JL JL JL (p35 _) (al JL (ah JL JL (jM (o:=5) Jr JL (by kernel_rfl) JL) (al JL (ak JL JL (ai Jp JL (q35.at (j:=5) JL)) ?_))))
    refine al JL (am jr JL JL ((mw f35_2 hsm.2 hc4)) ?_)
    rintro v38 w38 ⟨x38,rfl⟩
    refine al JL (bB JL JL bF (aH JL JL JL (ag (ab (dI JL (ar (aM (ab (aa (ae JL JL (aj (r:=I ((i+1:Nat):Int)) JL JL JL (by have e:((i+1:Nat):Int)=(i:Int)+1:=(by omega);rw[e];exact aE (by omega) (by omega)) ?_)))))))))))
    refine ac JL JL (ag ?_)
    refine bN (i+1) ⟨rfl,rfl,trivial⟩ ⟨((eL.trans x29).trans x38),((e1L.trans x29).trans x38),by omega,mh (p:=jv) (by omega) hall (by rw[←hem];unfold jv;rw[hc3,hc4];rfl)⟩ (by omega)
   ·refine aa (ah JL JL (aI (o:=0) Jg JL (by kernel_rfl) JL) (ak JL JL (ai Jo JL (e1L.cell_some (k1.cell (i:=0) JL))) ?_))
    refine ae JL JL ?_
    obtain⟨a26,c26,p26,q26,h26⟩:=cO (P:=Tryz.prog) (sz:=6) Jo (by kernel_rfl) dW (by omega) (hl.ext eL) (i:=i) (by omega) .i64
    rw[←hem] at h26
    obtain⟨x26_0,x26_1,x26_2,rfl,f26_0,f26_1,f26_2⟩:=fz h26
    refine ap rfl rfl rfl (p26 _) (ah rfl rfl (jM (o:=2) Tryz.underlying147 rfl (by kernel_rfl) rfl) (ak rfl rfl (q26.ldO (ms:=[B em.va.1,x26_0,x26_1]) (o:=2) (fun j v hj=>by rcases j with _|_|_|_|_|_|_|_|_|j<;>simp_all) Tryz.underlying55 rfl (by kernel_rfl)) ?_))
    refine am ie JL JL ((mr (q:=em.va) f26_0 f26_1 hsm.1 hc3)) ?_
    rintro v29 w29 ⟨x29,rfl⟩
    refine bB JL JL bF (ae JL JL (aq JL JL JL (aq JL JL JL (aq JL JL JL (aq JL JL JL (aq JL JL JL (aq JL JL JL (aq JL JL JL (aq JL JL JL ?_)))))))))
    refine aB JL JL JL (ag (ab (bJ JL (af (aa (ac JL JL (ag (ab (au (aT (ax (ax (aT (ax (az JL JL ?_)))))))))))))))
    exact⟨_,rfl,(eL.trans x29),by rw[hcn,jp (p:=jv) (i:=i) (by omega) hall (by rw[←hem];unfold jv;rw[hc3];rfl),Bool.and_false,Bool.false_and];rfl⟩
  ·refine aX (aA (aA (aV (ab (af (af ?_))))))
   have hla:=jE (p:=jv) (by omega) hall
   refine aa (ac JL JL (ag (ab (av ?_))))
   refine ck (α:=Nat) (fun i=>[(1,.pointer (some ⟨g1,0,none⟩)),(4,I (i:Int))]) (fun i w'=>aG w w'∧aG w1 w'∧i≤n.kids.length∧n.kids.all eU=(n.kids.drop i).all eU) (fun i=>n.kids.length-i) (0) ⟨rfl,rfl,trivial⟩ ⟨eL,e1L,by omega,rfl⟩ ?_
   rintro i wM ⟨eM,e1M,hi2,hall2⟩
   refine af (af (aa (ae JL JL (ah JL JL (aI (o:=6) Jg JL (by kernel_rfl) JL) (ak JL JL (ai Jk JL (e1M.cell_some (k1.cell (i:=6) JL))) ?_)))))
   refine aP JL JL (bO Jk (hk.ext eM)) (aj JL JL JL (aS) (ag (ab ?_)))
   refine ba JL (fun h45=>?_) (fun h45=>?_)
   ·refine ar (ab (af (av (af (aa (ah JL JL (aI (o:=6) Jg JL (by kernel_rfl) JL) (ak JL JL (ai Jk JL (e1M.cell_some (k1.cell (i:=6) JL))) ?_)))))))
    refine ae JL JL ?_
    obtain⟨a51,c51,p51,q51,h51⟩:=cO (P:=Tryz.prog) (sz:=9) Jk (by kernel_rfl) bK (by omega) (hk.ext eM) (i:=i) (by omega) .i64
    obtain⟨e51,he51⟩:∃e,e=n.kids[i]'(by omega):=⟨_,rfl⟩
    rw[←he51] at h51
    obtain⟨x51_0,x51_1,x51_2,x51_3,x51_4,rfl,f51_0,f51_1,f51_2,f51_3,f51_4⟩:=dh h51
    refine ap JL JL JL (p51 _) ?_
    have hmem:e51∈n.kids:=by rw[he51];exact List.getElem_mem _
    refine ak JL JL (q51.ld Jg JL (by kernel_rfl)) (am pQ JL JL ((ih e51 hmem f51_0 f51_1 f51_2 f51_3 f51_4 (sk e51 hmem))) ?_)
    rintro v53 w53 ⟨x53,rfl⟩
    refine bB JL JL bF (ag (ab ?_))
    refine eZ JL (fun h54=>?_) (fun h54=>?_)
    ·have hno:eU (n.kids[i]'(by have:=hk.len;omega))=false:=by rw[←he51];rw[Bool.not_eq_true'] at h54;exact h54
     refine af (aa (ac JL JL (ag (ab (au (aT (ax (ax (aT (ax (az JL JL ?_)))))))))))
     exact⟨_,rfl,(eM.trans x53),by rw[hcn,jp (p:=eU) (by omega) hall2 hno,Bool.and_false];rfl⟩
    ·have hyes:eU (n.kids[i]'(by have:=hk.len;omega))=true:=by rw[←he51];rw[Bool.not_eq_false'] at h54;exact h54
     refine ar (aM (ab (aa (ae JL JL (aj (r:=I ((i+1:Nat):Int)) JL JL JL (by have e:((i+1:Nat):Int)=(i:Int)+1:=(by omega);rw[e];exact aE (by omega) (by omega)) ?_)))))
     refine ac JL JL (ag ?_)
     refine bN (i+1) ⟨rfl,rfl,trivial⟩ ⟨(eM.trans x53),(e1M.trans x53),by omega,mh (p:=eU) (by omega) hall2 hyes⟩ (by omega)
   ·refine aX (aA (aA (aV (ab (af (aa (ac JL JL (ag (ab (au (az JL JL ?_)))))))))))
    exact⟨_,rfl,eM,by rw[hcn,hc1,hc2,hla,jE (p:=eU) (by omega) hall2];rfl⟩
 ·refine aa (ah JL JL (aI (o:=8) Jg JL (by kernel_rfl) JL) (ak JL JL (ai Jp JL (k1.cell (i:=8) JL)) ?_))
  refine am jr JL JL ((mw (hp.ext x1) sp hc1)) ?_
  rintro v7 w7 ⟨x7,rfl⟩
  refine bB JL JL bF (ae JL JL (aq JL JL JL (aq JL JL JL (aq JL JL JL (aq JL JL JL (aq JL JL JL (aB JL JL JL (ag (ab (bJ JL ?_))))))))))
  refine af (aa (ac JL JL (ag (ab (au (ax (az JL JL ?_)))))))
  exact⟨_,rfl,(x1.trans x7),by rw[hcn,hc1];rfl⟩
theorem pR:∀(m:Nat) {n:aN},SizeOf.sizeOf n≤m→∀{w:World} {vl x y vk vp:Value},cK dm n.lems vl w→bj n.split.at_.2.1 x w→bj n.split.at_.2.2 y w→cK bh n.kids vk w→cK cd n.pf vp w→sN n→
 Calls Tryz.prog 51 #[.agg #[vl,I n.split.kd,I n.split.ix,B n.split.at_.1,x,y,vk,B n.empty,vp]] w (bD fun r w'=>aG w w'∧r=B (eU n))
 |0,n,hm=>by cases n;simp at hm
 |m+1,n,hm=>fun h1 h2 h3 h4 h5 h6=>Db (fun k hk _ _ _ _ _ _=>pR m (by have:=aN.lt_of_mem hk;omega)) h1 h2 h3 h4 h5 h6
theorem Al {w:World} {b:List UInt8} {bv:Value} {d:eg} {x y:Value} (hb:ci b bv w) (hx:bj d.at_.2.1 x w) (hy:bj d.at_.2.2 y w) (hw:wD d) (hl:b.length+(kV d).length≤4398046511104):
 Calls Tryz.prog 92 #[bv,.agg #[I d.kd,I d.ix,B d.at_.1,x,y]] w (bD fun r w'=>aG w w'∧ci (b++kV d) r w'):=by
 refine enter (vs:=[bv,.agg #[I d.kd,I d.ix,B d.at_.1,x,y]]) Tryz.func92 JL JL JL ?_
 have hdl:(kV d).length=(dS d.kd).length+(dS d.ix).length+(iR d.at_).length:=by simp only[kV,List.length_append]
 have hqa:=oF d.at_
 refine af (aa ?_)
 obtain⟨g3,w3,hr3,l3,x3,k3⟩:=cI (P:=Tryz.prog) (w:=w) (T:=80) (cs:=[I d.kd,I d.ix,B d.at_.1,x,y])
 refine cx JL JL hr3 (ac JL JL (ag (ab (af (bm 10 [14] (by kernel_rfl) (by kernel_rfl) ?_)))))
 refine ao JL JL (aF JL JL (fun w hw=>aI (o:=0) Jn JL (by kernel_rfl) JL) (aD JL JL (fun w hw=>ai Jh JL (hw.cell_some (k3.cell (i:=0) JL))) ?_))
 have hw0:=hw
 refine bW (S:=ci (b++dS d.kd)) fT (ci.stable _) rfl (fun w hw=>by rintro _ rfl _ rfl;exact bD.mono (fU (n:=d.kd) ((hb.ext x3).ext hw) (by omega) hw0.1.1 hw0.1.2) fun v w' h=>⟨h.1,h.2.bts⟩) ?_
 refine aF JL JL (fun w hw=>aI (o:=1) Jn JL (by kernel_rfl) JL) (aD JL JL (fun w hw=>ai Jh JL (hw.cell_some (k3.cell (i:=1) JL))) ?_)
 refine bW (S:=ci (b++dS d.kd++dS d.ix)) fT (ci.stable _) rfl (fun w hw=>by rintro _ h8 _ rfl;exact bD.mono (fU (n:=d.ix) h8 (by simp only[List.length_append];omega) hw0.2.1 hw0.2.2) fun v w' h=>⟨h.1,h.2.bts⟩) ?_
 refine aF rfl rfl (fun w hw=>aI (o:=2) Tryz.underlying80 rfl (by kernel_rfl) rfl) (aD rfl rfl (fun w hw=>(k3.ext hw).ldO (ms:=[B d.at_.1,x,y]) (o:=2) (fun j v hj=>by rcases j with _|_|_|_|_|_|_|_|_|j<;>simp_all) Tryz.underlying55 rfl (by kernel_rfl)) ?_)
 refine bW (S:=ci (b++dS d.kd++dS d.ix++iR d.at_)) iP (ci.stable _) rfl (fun w hw=>by rintro _ h11 _ rfl;exact bD.mono (iQ h11 (dw.mk ((hx.ext x3).ext hw) ((hy.ext x3).ext hw)) (by simp only[List.length_append];omega)) fun v w' h=>⟨h.1,h.2.bts⟩) ?_
 refine bu ?_
 intro wg1 xg1
 intro vg14 b14
 refine ac JL JL (ag (ab (au (az JL JL ?_))))
 exact⟨_,rfl,(x3.trans xg1),by have h:ci (b++dS d.kd++dS d.ix++iR d.at_) _ _:=b14;simpa only[kV,List.append_assoc] using h⟩
end Go.Rl

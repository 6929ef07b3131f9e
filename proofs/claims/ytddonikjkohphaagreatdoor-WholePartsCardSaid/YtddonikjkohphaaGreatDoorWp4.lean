/- Part 4 of a proof: plain facts and walks of functions, merged by a program. Conditions: each lemma names its own. -/
import Derived.Test.YtddonikjkohphaaGreatDoorWp3
namespace Go.Rl
open Go.RowKit Go.Proofs
section
variable {α:Type} {f:α→Dt} {l:List α} {v:Value} {w w':World} {e:TypeId} {p:List Nat} {base:Nat} {P:Program}
theorem bm.cut:∀{a b:List Dt} {xs:List Value},bm w (a++b) xs→∃x y,xs=x++y∧bm w a x∧bm w b y
 |[],_,xs,h=>⟨[],xs,rfl,by simp only[bm],h⟩
 |d::a,b,xs,h=>by
  simp only[List.cons_append,bm] at h
  obtain⟨c1,c2,rfl,h1,h2⟩:=h
  obtain⟨x,y,rfl,h3,h4⟩:=bm.cut h2
  exact⟨c1++x,y,by simp,bm.cons h1 h3,h4⟩
theorem bm.glue:∀{a b:List Dt} {x y:List Value},bm w a x→bm w b y→bm w (a++b) (x++y)
 |[],_,x,y,h,k=>by
  simp only[bm] at h
  subst h
  exact k
 |d::a,b,x,y,h,k=>by
  simp only[bm] at h
  obtain⟨c1,c2,rfl,h1,h2⟩:=h
  rw[List.cons_append,List.append_assoc]
  exact bm.cons h1 (bm.glue h2 k)
theorem Kq.all (m:Kq p w w'):∀{l:List Dt} {xs:List Value},dF p l→bm w l xs→bm w' l xs
 |[],xs,_,h=>by simpa only[bm] using h
 |d::l,xs,ho,h=>by
  simp only[bm,dF] at h ho⊢
  obtain⟨c1,c2,h0,h5,h6⟩:=h
  exact⟨c1,c2,h0,m.keep _ _ ho.1 h5,Kq.all m ho.2 h6⟩
theorem bh.setAt {t:TypeId} (ht:P.underlying t=some (.slice e)) (hi:(P.info? e).map (·.size)=some p.length) (h0:0<p.length) (hk:∀a,uY (f a)=p) (hoff:∀a,nv p (f a)) (h:bh e p base f l v w) {i:Nat} (hil:i<l.length) {a:α} {cs:List Value} (h1:am cs) (hr:Rp w (f a) cs):
 ∃g ad,v.ownBlock=some g∧base≤g∧g<w.heap.size∧(∀w':World,(Instr.indexAt t v (I (i:Int))).run P w'=.ok (.pointer (some ad)) w')∧∃w1,(Instr.storeAt e (.pointer (some ad)) (.agg cs.toArray)).run P w=.ok () w1∧w.grownBy w1 (some g)∧bh e p base f (l.set i a) v w1∧Kq p w w1:=by
 have hsz:∀a,(f a).size=p.length:=fun a=>by rw[←Eu,hk]
 have hcl:cs.length=p.length:=by rw[hr.len,hsz]
 have hO:=h
 obtain⟨⟨n,xs,hown,hx⟩,hkn⟩:=h
 have hxr:=hx.rp
 have hxl:xs.length=l.length*p.length:=by rw[hx.len,dq (sz:=p.length) (by simp[hsz]),List.length_map]
 have hn:n=l.length:=Nat.eq_of_mul_eq_mul_right h0 (by rw[←hown.1,hxl])
 subst hn
 rcases hown.2 with⟨_,hz⟩|⟨g,cap,cur,rfl,hb,hg,hnc,hcm,hcs,htk⟩
 ·omega
 have hcs':cur.toList.length=cap*p.length:=by simpa using hcs
 have hB:dE g e cur.toList w:=by simpa [dE] using hg
 have hic:(i+1)*p.length≤cap*p.length:=Ni _ (by omega)
 have hil2:(i+1)*p.length≤l.length*p.length:=Ni _ (by omega)
 have e1:(i+1)*p.length=i*p.length+p.length:=by rw[Nat.add_mul,Nat.one_mul]
 obtain⟨w1,hs,hq,hB1⟩:=hB.stP (P:=P) (t:=e) (o:=i*p.length) (m:=cs) (by omega) (by rw[hcl];exact hi) h1 rfl
 have hgrew:gi w w1 (.slice (some ⟨g,0,none⟩) l.length cap) (.slice (some ⟨g,0,none⟩) l.length cap):=⟨hq,.inl rfl⟩
 have hKq:=hO.kqG hgrew h0
 have hlt:g<w.heap.size:=(Array.getElem?_eq_some_iff.1 hg).1
 refine⟨g,⟨g,i*p.length,none⟩,J,hb,hlt,fun w'=>?_,w1,hs,hq,?_,hKq⟩
 ·obtain⟨ti,hi',hs'⟩:=Option.map_eq_some_iff.1 hi
  have hin:i<l.length:=hil
  show(Instr.indexAt t (.slice (some ⟨g,0,none⟩) l.length cap) (.int .i64 (i:Int))).run P w'=_
  simp[Instr.indexAt,asIntOf,run_underlying ht,hin,sizeOf,typeInfo,hi',hs',rP]
 have hkc:=hkn g cur e (0,0) rfl hg
 have hkcs:cs.map Go.Rl.kd=p:=by rw[Rp.kds hr,hk]
 have hbl:(cur.toList.take (i*p.length)).length=i*p.length:=by rw[List.length_take];omega
 have hkn1:Kn p (cur.toList.take (i*p.length)++cs++cur.toList.drop (i*p.length+cs.length)):=by
  rw[hcl,←e1]
  exact Kn.append (n:=i+1) (Kn.append (n:=i) (hkc.take _) (Kn.one hkcs) hbl) (hkc.drop (i+1)) (by rw[List.length_append,hbl,hcl];exact e1.symm)
 have hsp:l=l.take i++l[i]::l.drop (i+1):=by rw[List.getElem_cons_drop,List.take_append_drop]
 have hset:l.set i a=l.take i++a::l.drop (i+1):=List.set_eq_take_append_cons_drop.trans (if_pos hil)
 have hxr':bm w ((l.take i).map f++(f l[i]::(l.drop (i+1)).map f)) xs:=by
  have:l.map f=(l.take i).map f++(f l[i]::(l.drop (i+1)).map f):=by rw[←List.map_cons,←List.map_append,←hsp]
  rw[←this];exact hxr
 obtain⟨x,y,rfl,hx1,hy⟩:=bm.cut hxr'
 simp only[bm] at hy
 obtain⟨c1,c2,rfl,hc1,hc2⟩:=hy
 have hxl1:x.length=i*p.length:=by
  rw[hx1.len,dq (sz:=p.length) (fun d hd=>by obtain⟨a,_,rfl⟩:=List.mem_map.1 hd;exact hsz a),List.length_map,List.length_take,Nat.min_eq_left (by omega)]
 have hc1l:c1.length=p.length:=by rw[hc1.len,hsz]
 have hoffA:∀l:List α,dF p (l.map f):=fun l=>dF.of fun a _=>hoff a
 have hnew:bm w1 ((l.set i a).map f) (x++(cs++c2)):=by
  rw[hset,List.map_append,List.map_cons]
  exact bm.glue (Kq.all hKq (hoffA _) hx1) (bm.cons (hKq.keep _ _ (hoff a) hr) (Kq.all hKq (hoffA _) hc2))
 have hcur:cur.toList.take (l.length*p.length)=x++(c1++c2):=htk
 have htk1:cur.toList.take (i*p.length)=x:=by
  have:=congrArg (List.take (i*p.length)) hcur
  rw[List.take_take,Nat.min_eq_left (by omega),←hxl1,List.take_left'] at this
  ·rw[hxl1] at this;exact this
  ·rfl
 have hc2l:c2.length=l.length*p.length-(i+1)*p.length:=by
  have:=congrArg List.length hcur
  rw[List.length_take,List.length_append,List.length_append,hcs'] at this
  have h5:l.length*p.length≤cap*p.length:=Ni _ hnc
  omega
 have hdr:(cur.toList.drop ((i+1)*p.length)).take (l.length*p.length-(i+1)*p.length)=c2:=by
  rw[←List.drop_take,hcur,←List.append_assoc]
  refine List.drop_left' ?_
  rw[List.length_append];omega
 have hown1:w1.ownsRow base e p.length (.slice (some ⟨g,0,none⟩) (l.set i a).length cap) (l.set i a).length (x++(cs++c2)):=by
  refine⟨?_,.inr ⟨g,cap,(cur.toList.take (i*p.length)++cs++cur.toList.drop (i*p.length+cs.length)).toArray,J,hb,by simpa [dE] using hB1,by simpa using hnc,hcm,?_,?_⟩⟩
  ·simp only[List.length_append,List.length_set];omega
  ·rw[List.size_toArray,List.length_append,List.length_append,List.length_drop,hbl];omega
  ·rw[htk1,hcl,←e1,List.length_set]
   show List.take _ (x++cs++_)=_
   rw[List.take_append,List.take_of_length_le (by rw[List.length_append];omega),List.length_append,hxl1,hcl,←e1,hdr,List.append_assoc]
 rw[List.length_set] at hown1
 have hkb1:LU p (.slice (some ⟨g,0,none⟩) l.length cap) w1:=fun k c ty fr hkk hh=>by
  obtain rfl:g=k:=by simpa [Value.ownBlock] using hkk
  have hh':w1.heap[g]? =some (.cells (cur.toList.take (i*p.length)++cs++cur.toList.drop (i*p.length+cs.length)).toArray e (0,0)):=by simpa [dE] using hB1
  rw[hh'] at hh
  injection hh with hh
  injection hh with hh _ _
  rw[←hh]
  simpa using hkn1
 refine⟨⟨l.length,_,hown1,?_⟩,hkb1⟩
 have hh':w1.heap[g]? =some (.cells (cur.toList.take (i*p.length)++cs++cur.toList.drop (i*p.length+cs.length)).toArray e (0,0)):=by simpa [dE] using hB1
 refine(dF.rp hh' (hkb1 g _ _ _ J hh') (hoffA _) (bm.x hnew)).weak fun k hk=>.inl ?_
 exact hk.elim (fun h=>h.elim) fun h=>.inr (by simpa [Value.ownBlock] using h.symm)
end
end Go.Rl
namespace Go.Rl
open Go.RowKit Go.Proofs
theorem qq.stable {α:Type} {Q:α→Prop} {F:α→dn} (h:∀a,bi (F a)):bi (qq Q F):=fun _ _ _ ⟨a,ha,k⟩ hw=>⟨a,ha,h a _ _ _ k hw⟩
theorem JX {w:World}:QV 0 (.agg #[B false,.slice none 0 0,.slice none 0 0]) w:=aU.mk (n:=[]) (m:=[]) (bH.nil _) (bH.nil _)
def Gm (b:Bool):Dt:=.bool b
theorem kT (b:Bool):(Gm b).size=1:=rfl
instance:pg Gm:=⟨.c 0,fun _=>by simp only[Gm,en]⟩
section
variable {w w':World} {cs:List Value}
theorem oZ {b:Bool} (h:Rp w (Gm b) cs):cs=[B b]:=HU h
theorem Lx {b:Bool}:Rp w (Gm b) [B b]:=KC b
theorem ES:(Tryz.prog.info? 4).map (fun i=>(i.zero,i.size,i.bytes))=some (some (B false),[0].length,1):=by kernel_rfl
abbrev yH (base:Nat) (l:List Bool):dn:=bh 4 [0] base Gm l
theorem ET (a:Bool):nv [0] (Gm a):=by simp only[Gm,nv]
theorem Ly {ty:TypeId} {base:Nat} {l m:List Bool} {v x:Value} (h:yH base l v w) (hx:cF Gm m x w) (hb:l.length+m.length≤1099511627776) (hbase:base≤w.heap.size):
 ∃r w1,(Builtin.append_ #[237,237] ty #[v,x]).run Tryz.prog w=.ok r w1∧yH base (l++m) r w1∧gi w w1 v r:=
 bh.appD M0 ES rfl rfl (by decide) (by omega) (fun _=>rfl) ET h hx (by omega) hbase
theorem yH.dsv {base:Nat} {l:List Bool} {v:Value} (h:yH base l v w):cF Gm l v w:=h.ds (fun _=>rfl) (by decide)
theorem Lz (b:Bool):∃r w',(Instr.buildSlice 237 1 #[(0,B b)]).run Tryz.prog w=.ok r w'∧aH w w'∧cF Gm [b] r w':=by
 have hone:∀u∈[B b],u.oneCell'=true:=fun u hu=>by
  obtain rfl:u=B b:=by simpa using hu
  rfl
 obtain⟨r,w',h1,h2,h3,_⟩:=lC (P:=Tryz.prog) (w:=w) (base:=w.heap.size) Tryz.underlying237 ES [B b] hone (by simp) (Ng _)
 exact⟨r,w',h1,h2,Rp.ofSl (Sl.of_own h3) (bm.cons (Lx (b:=b)) bm.nil) (by simp[kT]) (by omega)⟩
theorem LA (a b c d:Int):∃r w',(Instr.buildSlice 22 4 #[(0,I a),(1,I b),(2,I c),(3,I d)]).run Tryz.prog w=.ok r w'∧aH w w'∧cF qQ [a,b,c,d] r w':=by
 obtain⟨r,w',h1,h2,h3,_⟩:=Mc (w:=w) w.heap.size [a,b,c,d] (by simp) (Ng _)
 exact⟨r,w',by simpa [fF] using h1,h2,Rp.ofSl h3.its (bm.cons (nF a) (bm.cons (nF b) (bm.cons (nF c) (bm.cons (nF d) bm.nil)))) (by simp[Bb]) (by omega)⟩
theorem JY {a b:eh} {c d:List Value} (h:Rp w (iI a) c) (k:Rp w (iI b) d):∃r w',(Instr.buildSlice 124 2 #[(0,.agg c.toArray),(1,.agg d.toArray)]).run Tryz.prog w=.ok r w'∧aH w w'∧cF iI [a,b] r w':=by
 obtain⟨r,w',h1,h2⟩:=Ky (w:=w) (f:=iI) (l:=[a,b]) (vs:=[c,d]) MV pV rfl (by decide) (fun _=>rfl) (fun i e he=>by
  match i with
  |0=>obtain rfl:c=e:=by simpa using he
      exact⟨a,J,h⟩
  |1=>obtain rfl:d=e:=by simpa using he
      exact⟨b,J,k⟩
  |i+2=>simp at he) rfl (by simp) (by simp)
 exact⟨r,w',by simpa [fF] using h1,h2⟩
end
theorem Il {P:Program} {w:World} {a b c d:Value}:(Instr.extract (.tuple #[a,b,c,d]) 0).run P w=.ok a w:=rfl
theorem Im {P:Program} {w:World} {a b c d:Value}:(Instr.extract (.tuple #[a,b,c,d]) 1).run P w=.ok b w:=rfl
theorem In {P:Program} {w:World} {a b c d:Value}:(Instr.extract (.tuple #[a,b,c,d]) 2).run P w=.ok c w:=rfl
theorem Ip {P:Program} {w:World} {a b c d:Value}:(Instr.extract (.tuple #[a,b,c,d]) 3).run P w=.ok d w:=rfl
section
variable {α:Type} {f:α→Dt} {l:List α} {b b':Nat} {v u u':Value} {w w':World} {p:List Nat}
def i2 (b:Nat) (f:α→Dt) (l:List α):dn:=fun v w=>cF f l v w∧∀k,v.ownBlock=some k→b≤k
theorem i2.ext (h:i2 b f l v w) (hx:aH w w'):i2 b f l v w':=⟨h.1.ext hx,h.2⟩
theorem i2.stable (b:Nat) (f:α→Dt) (l:List α):bi (i2 b f l):=fun _ _ _ h hx=>h.ext hx
theorem i2.kd (h:i2 b f l v w):Go.Rl.kd v=3:=h.1.kd
theorem i2.kq [s:pg f] (h:i2 b f l v w) (m:Kq p w w') (ho:nk p (.sl s.sh)=true:=by decide):i2 b f l v w':=⟨h.1.kq m ho,h.2⟩
theorem i2.low (h:i2 b f l v w) (hb:b'≤b):i2 b' f l v w:=⟨h.1,fun k hk=>Nb hb (h.2 k hk)⟩
theorem nq.fr {g:Nat} [s:pg f] (ho:nk p (.sl s.sh)=true):cI (Kg p g) (i2 b f l):=fun _ _ _ h hw=>⟨h.1.kg hw ho,h.2⟩
theorem i2.st [s:pg f] {g:Nat} (h:i2 b f l v w) (hg:g<b) (q:w.grownBy w' (some g)) (m:Kq p w w') (ho:nk p s.sh=true):i2 b f l v w':=by
 refine⟨?_,h.2⟩
 have hd:=h.1
 unfold cF at hd⊢
 simp only[Rp] at hd⊢
 obtain⟨A,n,c,hv,h2,h3,h4,h5,h6⟩:=hd
 obtain⟨rfl⟩:v=.slice A n c:=by simpa using hv
 refine⟨A,n,c,J,h2,h3,h4,h5,fun hn=>?_⟩
 obtain⟨ad,xs,hA,hc,hr⟩:=h6 hn
 subst hA
 refine⟨ad,xs,J,fun j u' hj=>?_,Kq.all m (dF.of fun a _=>en.off m.pos ho (s.ok a)) hr⟩
 exact q.cell (hc j u' hj) fun e=>by
  rw[gj] at e
  have h7:=h.2 _ rfl
  have h8:=Nc e
  omega
theorem i2.grew [s:pg f] (hsz:∀a,0<(f a).size) (h:i2 b f l v w) (g:gi w w' u u') (m:Kq p w w') (hne:l≠[]→∀k,u.ownBlock=some k→v.ownBlock≠some k) (ho:nk p s.sh=true):i2 b f l v w'∧(l≠[]→∀k,u'.ownBlock=some k→v.ownBlock≠some k):=by
 have hlt:l≠[]→∀k,v.ownBlock=some k→k<w.heap.size:=fun hl k hk=>by
  have hd:=h.1
  unfold cF at hd
  simp only[Rp] at hd
  obtain⟨A,n,c,hv,h2,h3,h4,h5,h6⟩:=hd
  obtain⟨rfl⟩:v=.slice A n c:=by simpa using hv
  have hn:0<n:=by
   rw[←h2,List.length_map]
   exact List.length_pos_iff.2 hl
  obtain⟨ad,xs,hA,hc,hr⟩:=h6 hn
  subst hA
  have hxl:0<xs.length:=by
   cases l with
   |nil=>exact absurd rfl hl
   |cons a l=>
    simp only[List.map_cons,bm] at hr
    obtain⟨c1,c2,rfl,h7,_⟩:=hr
    have:=h7.len
    have:=hsz a
    rw[List.length_append];omega
  have h9:=hc 0 (xs[0]'hxl) (List.getElem?_eq_getElem hxl)
  have h10:ad.block=k:=by simpa [Value.ownBlock] using hk
  rw[←h10]
  unfold World.cell? at h9
  rw[gj] at h9
  cases hh:w.heap[ad.block]? with
  |none=>rw[hh] at h9;cases h9
  |some o=>exact(Array.getElem?_eq_some_iff.1 hh).1
 refine⟨⟨?_,h.2⟩,fun hl k hk hv=>?_⟩
 ·have hd:=h.1
  unfold cF at hd⊢
  simp only[Rp] at hd⊢
  obtain⟨A,n,c,hv,h2,h3,h4,h5,h6⟩:=hd
  obtain⟨rfl⟩:v=.slice A n c:=by simpa using hv
  refine⟨A,n,c,J,h2,h3,h4,h5,fun hn=>?_⟩
  have hl:l≠[]:=fun e=>by rw[e] at h2;simp at h2;omega
  obtain⟨ad,xs,hA,hc,hr⟩:=h6 hn
  subst hA
  refine⟨ad,xs,J,fun j u' hj=>?_,Kq.all m (dF.of fun a _=>en.off m.pos ho (s.ok a)) hr⟩
  have:=hc j u' hj
  exact g.grown.cell this fun e=>by
   rw[gj] at e
   exact hne hl _ e.symm J
 ·rcases g.own with h1|h1
  ·exact hne hl k (h1▸hk) hv
  ·have:=h1 k hk
   have:=hlt hl k hv
   omega
end
theorem Iq {t e:TypeId} {z r:Value} {sz:Nat} {w w':World} (ht:Tryz.prog.underlying t=some (.slice e)) (hi:(Tryz.prog.info? e).map (fun i=>(i.zero,i.size))=some (some z,sz)) (hz:z.cells.size=sz) (h0:0<sz)
 (vs:List (List Value)) (hv:∀v∈vs,v.length=sz) (hn:0<vs.length) (hl:vs.length*sz≤16777216) (hr:(Instr.buildSlice t vs.length (fF 0 (vs.map fun v=>Value.agg v.toArray)).toArray).run Tryz.prog w=.ok r w'):r.ownBlock=some w.heap.size:=by
 obtain⟨r2,w2,h1,h2,h3,h4⟩:=Kx (w:=w) ht hi hz h0 vs hv hn hl
 rw[hr] at h1
 rw[(Result.ok.inj h1).1]
 exact h4
section
variable {w:World} {b:Nat}
theorem sX {x:eh} {c:List Value} (hb:b≤w.heap.size) (h:Rp w (iI x) c):∃r w',(Instr.buildSlice 124 1 #[(0,.agg c.toArray)]).run Tryz.prog w=.ok r w'∧aH w w'∧i2 b iI [x] r w':=by
 obtain⟨r,w',h1,h2,h3⟩:=wj h
 have h4:=Iq (w:=w) (w':=w') (r:=r) MV pV rfl (by decide) [c] (fun v hv=>by
  obtain rfl:v=c:=by simpa using hv
  rw[h.len];rfl) (by simp) (by simp) (by simpa [fF] using h1)
 exact⟨r,w',h1,h2,h3,fun k hk=>by have e:=Nc (h4.symm.trans hk);omega⟩
theorem sY {x y:eh} {c d:List Value} (hb:b≤w.heap.size) (h:Rp w (iI x) c) (k:Rp w (iI y) d):∃r w',(Instr.buildSlice 124 2 #[(0,.agg c.toArray),(1,.agg d.toArray)]).run Tryz.prog w=.ok r w'∧aH w w'∧i2 b iI [x,y] r w':=by
 obtain⟨r,w',h1,h2,h3⟩:=JY h k
 have h4:=Iq (w:=w) (w':=w') (r:=r) MV pV rfl (by decide) [c,d] (fun v hv=>by
  rcases List.mem_cons.1 hv with rfl|hv
  ·rw[h.len];rfl
  ·obtain rfl:v=d:=by simpa using hv
   rw[k.len];rfl) (by simp) (by simp) (by simpa [fF] using h1)
 exact⟨r,w',h1,h2,h3,fun k hk=>by have e:=Nc (h4.symm.trans hk);omega⟩
end
section
variable {P:Program} {ops:Array Oper} {Q:ie} {N:Nat} {D:List Deferred} {l:Fr} {w:World} {rest:List Oper} {d:Nat} {ty:TypeId} {pos:String} {aft:Array Edge}
theorem Ir {Env:World→Prop} {Rl:World→World→Prop} {mo:Bool} {Pn:List PanicEntry→World→Prop} {Z:kX} {F:dI} {K:dI→kX→Prop} {f:FuncId} {x:Operand} {xs:List Operand} {ts:Array TypeId} {S:dn} (hx:eu F x=Is (.func (.func f) #[] #[])) (hf:az P f) (hst:cI Rl S) (hd:Nat.blt d N=true)
 (hc:∀w,Env w→rn (xs.map (eu F)) w (fun vs=>Calls P f vs.toArray w (cA fun v w'=>aH w w'∧S v w')))
 (k:gf P ops Env Rl mo Pn N rest (jB F (some d) S) Z K):gf P ops Env Rl mo Pn N (⟨some d,.call {callee:=.value x,args:=xs.toArray,argTypes:=ts},ty,pos,aft,none⟩::rest) F Z K:=
 nh (fun _=>hst) hd (fun a w hw h=>by
  have hval:a.eval x=.func (.func f) #[] #[]:=by
   have:=h x (by simp[Op.operands,Call.operands])
   rw[hx] at this
   exact this
  have hall:Fe w (xs.map (eu F)) (xs.map a.eval):=by
   have hm:∀x∈xs,eu F x (a.eval x) w:=fun x hx=>h x (by simp[Op.operands,Call.operands,hx])
   clear hc h
   induction xs with
   |nil=>trivial
   |cons x xs ih=>exact⟨hm x (by simp),ih (fun y hy=>hm y (by simp[hy]))⟩
  have h1:=rn.use (hc w hw) hall
  have hr:(execOp a.eval ⟨some d,.call {callee:=.value x,args:=xs.toArray,argTypes:=ts},ty,pos,aft,none⟩).run P w=.ok (.enter f (xs.map a.eval).toArray) w:=by
   simp only[execOp,resolve,List.map_toArray,hval,Deferred.ofValue,Sem.run_bind,Sem.run_pure,Result.andThen_ok,invoke,Array.append_empty,jE hf,Array.empty_append]
  rw[hr]
  refine⟨aH.refl _,h1.mono ?_⟩
  rintro e w'' ⟨v,rfl,hv⟩
  exact⟨v,J,hv⟩) k
theorem wP {f:FuncId} {x:Operand} {iv:Value} {name:String} {xs:List Operand} {vs:List Value} {av:Array Value} {ts:Array TypeId} {T:Value→World→Prop} (hx:ev l x=some iv) (hp:xq l xs=some vs) (hm:(invoke (.fn (.method name) #[]) (#[iv]++vs.toArray)).run P w=.ok (.enter f av) w) (hd:Nat.blt d N=true) (hc:Calls P f av w (cA T))
 (k:∀v w',T v w'→di P ops Q N D ((d,v)::l) w' rest):di P ops Q N D l w (⟨some d,.call {callee:=.invoke x name,args:=xs.toArray,argTypes:=ts},ty,pos,aft,none⟩::rest):=fun a ha=>by
 refine wpList_plain J fun K hK=>?_
 unfold Oper.wp
 have hr:(execOp a.eval ⟨some d,.call {callee:=.invoke x name,args:=xs.toArray,argTypes:=ts},ty,pos,aft,none⟩).run P w=.ok (.enter f av) w:=by
  have hρ:rC l a.eval:=fun x v hx=>ha.ev hx
  simp only[execOp,resolve,List.map_toArray,lZ hρ hp,hρ x _ hx,Sem.run_bind,Sem.run_pure,Result.andThen_ok]
  exact hm
 rw[hr]
 refine hc.mono ?_
 rintro e w' ⟨v,rfl,hv⟩
 exact hK _ _ (k v w' hv _ (ha.put hd v))
end
end Go.Rl
namespace Go.Rl
open Go.RowKit Go.Proofs
def nV (s:eX) (u:Int) (p:Nat):Bool:=gh s 1 u||(decide (0<p)&&decide (0≤dA s.lm p))
def iB (s:eX) (u:Int) (q:Nat):Bool:=gh s 2 u||(decide (0<q)&&decide (dA s.lm q≤0))
def Cl (s:eX) (u:Int):Int:=if nV s u (cy s.lm u).1=true then 1 else if iB s u (cy s.lm u).2=true then 2 else 0
theorem KI (b:Bool) (p:Nat) (P:Prop) [Decidable P]:b=true∨(b=false∧p=0)∨(b=false∧0<p∧P)∨(b=false∧0<p∧¬P):=by
 cases b
 ·by_cases h:p=0
  ·exact .inr (.inl ⟨J,h⟩)
  ·by_cases h2:P
   ·exact .inr (.inr (.inl ⟨J,by omega,h2⟩))
   ·exact .inr (.inr (.inr ⟨J,by omega,h2⟩))
 ·exact .inl J
theorem z5 {w:World} {s:eX} {u:Int} {p q:Nat} {v:Value} (hv:bQ ro s v w) (hs:SmS s) (hB:∀m∈s.lm,bt m.va≤17179869180) (hp:p≤s.lm.length) (hq:q≤s.lm.length):
 Calls Tryz.prog 80 #[v,I u,I (p:Int),I (q:Int)] w (cA fun r w'=>aH w w'∧gQ (Is (B (nV s u p))) (Is (B (iB s u q))) r w'):=by
 obtain⟨_,rfl,ra⟩:=hv
 obtain⟨su,so,sl,sh,sr,st,sm,sn,sp,sq,rfl,iu,io,il,ih,ir,it,im,jn,ip,iq⟩:=d7 ra
 have hlen:=iq.len
 refine enter (vs:=[.agg #[I s.q.g.inp,su,so,sl,sh,sr,st,B s.q.go.ct.sg,sm,sn,sp,sq],I u,I (p:Int),I (q:Int)]) Tryz.func80 J J J (bc (cj J J fun g4 w4 l4 x4 k4=>(aa J J (aa J J (aI (aj (i3 (fun b:Bool=>[(1,I u),(3,I (q:Int)),(4,.pointer (some ⟨g4,0,none⟩)),(8,B b)]) (fun b w'=>aH w4 w'∧b=nV s u p) ?_ ?_)))))))
 ·rcases KI (gh s 1 u) p (0≤dA s.lm p) with hA|⟨hA,hz⟩|⟨hA,hz,hC⟩|⟨hA,hz,hC⟩
  ·refine ae (ak J J (k4.ld MM J bg) (ab J J (aq fT J J ((by have h:=fU (k:=1) (j:=u) (bQ.mk (dm (iu.ext x4) (io.ext x4) (il.ext x4) (ih.ext x4) (ir.ext x4) (it.ext x4) (im.ext x4) (jn.ext x4) (ip.ext x4) (iq.ext x4))) hs;rw[hA] at h;exact h)) ?_)))
   rintro v12 w12 ⟨x12,rfl⟩
   refine ab J J (bf J J J (bf J J J (bf J J J (dh J J J (dh J J J (dh J J J (dh J J J (dh J J J (dh J J J (dh J J J (dh J J J (dh J J J (bf J J J (aR J J J (aa J J (ar ?_))))))))))))))))
   exact cW true ⟨J,J,J,J,trivial⟩ ⟨x12,by unfold nV;rw[hA];rfl⟩
  ·refine ae (ak J J (k4.ld MM J bg) (ab J J (aq fT J J ((by have h:=fU (k:=1) (j:=u) (bQ.mk (dm (iu.ext x4) (io.ext x4) (il.ext x4) (ih.ext x4) (ir.ext x4) (it.ext x4) (im.ext x4) (jn.ext x4) (ip.ext x4) (iq.ext x4))) hs;rw[hA] at h;exact h)) ?_)))
   rintro v12 w12 ⟨x12,rfl⟩
   refine ab J J (an J (ab J J (an J (ao J J J (be (by omega) bo) (an J (ab J J (bf J J J (bf J J J (bf J J J (bf J J J (bf J J J (bf J J J (bf J J J (bf J J J (bf J J J (an J (aG J J J (aG J J J (aa J J (ar ?_))))))))))))))))))))
   exact cW false ⟨J,J,J,J,trivial⟩ ⟨x12,by unfold nV;rw[hA,hz];rfl⟩
  ·refine ae (ak J J (k4.ld MM J bg) (ab J J (aq fT J J ((by have h:=fU (k:=1) (j:=u) (bQ.mk (dm (iu.ext x4) (io.ext x4) (il.ext x4) (ih.ext x4) (ir.ext x4) (it.ext x4) (im.ext x4) (jn.ext x4) (ip.ext x4) (iq.ext x4))) hs;rw[hA] at h;exact h)) ?_)))
   rintro v12 w12 ⟨x12,rfl⟩
   refine ab J J (an J (ab J J (an J (ao J J J (bF (by omega) bo) (an J (ab J J (an J (af J J (bO) (an J (ak J J (ai MN J (x12.cell_some (k4.cell (i:=11) J))) (an J (ab J J (an J (ao (r:=I ((p-1:Nat):Int)) J J J (by have e:((p-1:Nat):Int)=(p:Int)-1:=(by omega);rw[e];exact bT) (an J ?_)))))))))))))))
   obtain⟨a21,c21,p21,q21,h21⟩:=cP (P:=Tryz.prog) (sz:=6) MN (by kernel_rfl) er (by omega) (iq.ext (x4.trans x12)) (i:=(p-1:Nat)) (by omega) .i64
   obtain⟨e21,he21⟩:∃e,e=s.lm[(p-1:Nat)]'(by omega):=⟨_,rfl⟩
   rw[←he21] at h21
   obtain⟨x21_0,x21_1,x21_2,rfl,f21_0,f21_1,f21_2⟩:=eG h21
   refine aE J J J (p21 _) ?_
   have hl:dA s.lm p=e21.va:=by rw[he21];exact fA (by omega)
   have hm21:=hB e21 (by rw[he21];exact Nh _)
   rw[hl] at hC
   refine an J (af J J (cT) (an J (ak J J (q21.ldO (ms:=[B e21.va.sg,x21_0,x21_1]) (o:=2) (ef J) MC J ag) (an J (aq cw J J (ek (aU.mk f21_0 f21_1) (by omega)) ?_)))))
   rintro v24 w24 ⟨x24,rfl⟩
   refine an J (ao J J J (bF (jZ.2 hC) cz) (an J (aR J J J (aG J J J (aa J J (ar ?_))))))
   exact cW true ⟨J,J,J,J,trivial⟩ ⟨(x12.trans x24),by unfold nV;rw[hA,decide_eq_true hz,hl,decide_eq_true hC];rfl⟩
  ·refine ae (ak J J (k4.ld MM J bg) (ab J J (aq fT J J ((by have h:=fU (k:=1) (j:=u) (bQ.mk (dm (iu.ext x4) (io.ext x4) (il.ext x4) (ih.ext x4) (ir.ext x4) (it.ext x4) (im.ext x4) (jn.ext x4) (ip.ext x4) (iq.ext x4))) hs;rw[hA] at h;exact h)) ?_)))
   rintro v12 w12 ⟨x12,rfl⟩
   refine ab J J (an J (ab J J (an J (ao J J J (bF (by omega) bo) (an J (ab J J (an J (af J J (bO) (an J (ak J J (ai MN J (x12.cell_some (k4.cell (i:=11) J))) (an J (ab J J (an J (ao (r:=I ((p-1:Nat):Int)) J J J (by have e:((p-1:Nat):Int)=(p:Int)-1:=(by omega);rw[e];exact bT) (an J ?_)))))))))))))))
   obtain⟨a21,c21,p21,q21,h21⟩:=cP (P:=Tryz.prog) (sz:=6) MN (by kernel_rfl) er (by omega) (iq.ext (x4.trans x12)) (i:=(p-1:Nat)) (by omega) .i64
   obtain⟨e21,he21⟩:∃e,e=s.lm[(p-1:Nat)]'(by omega):=⟨_,rfl⟩
   rw[←he21] at h21
   obtain⟨x21_0,x21_1,x21_2,rfl,f21_0,f21_1,f21_2⟩:=eG h21
   refine aE J J J (p21 _) ?_
   have hl:dA s.lm p=e21.va:=by rw[he21];exact fA (by omega)
   have hm21:=hB e21 (by rw[he21];exact Nh _)
   rw[hl] at hC
   refine an J (af J J (cT) (an J (ak J J (q21.ldO (ms:=[B e21.va.sg,x21_0,x21_1]) (o:=2) (ef J) MC J ag) (an J (aq cw J J (ek (aU.mk f21_0 f21_1) (by omega)) ?_)))))
   rintro v24 w24 ⟨x24,rfl⟩
   refine an J (ao J J J (be (fun h=>hC (jZ.1 h)) cz) (an J (aR J J J (aG J J J (aa J J (ar ?_))))))
   exact cW false ⟨J,J,J,J,trivial⟩ ⟨(x12.trans x24),by unfold nV;rw[hA,decide_eq_true hz,hl,decide_eq_false hC];rfl⟩
 rintro b wL ⟨eL,hb⟩
 refine ah (aj (i3 (fun d:Bool=>[(8,B b),(9,B d)]) (fun d w'=>aH w4 w'∧d=iB s u q) ?_ ?_))
 ·rcases KI (gh s 2 u) q (dA s.lm q≤0) with hA|⟨hA,hz⟩|⟨hA,hz,hC⟩|⟨hA,hz,hC⟩
  ·refine ae (ak J J ((k4.ext eL).ld MM J bg) (ab J J (aq fT J J ((by have h:=fU (k:=2) (j:=u) (bQ.mk (dm (iu.ext (x4.trans eL)) (io.ext (x4.trans eL)) (il.ext (x4.trans eL)) (ih.ext (x4.trans eL)) (ir.ext (x4.trans eL)) (it.ext (x4.trans eL)) (im.ext (x4.trans eL)) (jn.ext (x4.trans eL)) (ip.ext (x4.trans eL)) (iq.ext (x4.trans eL)))) hs;rw[hA] at h;exact h)) ?_)))
   rintro v30 w30 ⟨x30,rfl⟩
   refine ab J J (bf J J J (bf J J J (bf J J J (dh J J J (dh J J J (dh J J J (dh J J J (dh J J J (dh J J J (dh J J J (dh J J J (dh J J J (bf J J J (aR J J J (aa J J (ar ?_))))))))))))))))
   exact cW true ⟨J,J,trivial⟩ ⟨(eL.trans x30),by unfold iB;rw[hA];rfl⟩
  ·refine ae (ak J J ((k4.ext eL).ld MM J bg) (ab J J (aq fT J J ((by have h:=fU (k:=2) (j:=u) (bQ.mk (dm (iu.ext (x4.trans eL)) (io.ext (x4.trans eL)) (il.ext (x4.trans eL)) (ih.ext (x4.trans eL)) (ir.ext (x4.trans eL)) (it.ext (x4.trans eL)) (im.ext (x4.trans eL)) (jn.ext (x4.trans eL)) (ip.ext (x4.trans eL)) (iq.ext (x4.trans eL)))) hs;rw[hA] at h;exact h)) ?_)))
   rintro v30 w30 ⟨x30,rfl⟩
   refine ab J J (an J (ab J J (an J (ao J J J (be (by omega) bo) (an J (ab J J (bf J J J (bf J J J (bf J J J (bf J J J (bf J J J (bf J J J (bf J J J (bf J J J (bf J J J (an J (aG J J J (aG J J J (aa J J (ar ?_))))))))))))))))))))
   exact cW false ⟨J,J,trivial⟩ ⟨(eL.trans x30),by unfold iB;rw[hA,hz];rfl⟩
  ·refine ae (ak J J ((k4.ext eL).ld MM J bg) (ab J J (aq fT J J ((by have h:=fU (k:=2) (j:=u) (bQ.mk (dm (iu.ext (x4.trans eL)) (io.ext (x4.trans eL)) (il.ext (x4.trans eL)) (ih.ext (x4.trans eL)) (ir.ext (x4.trans eL)) (it.ext (x4.trans eL)) (im.ext (x4.trans eL)) (jn.ext (x4.trans eL)) (ip.ext (x4.trans eL)) (iq.ext (x4.trans eL)))) hs;rw[hA] at h;exact h)) ?_)))
   rintro v30 w30 ⟨x30,rfl⟩
   refine ab J J (an J (ab J J (an J (ao J J J (bF (by omega) bo) (an J (ab J J (an J (af J J (bO) (an J (ak J J (ai MN J ((eL.trans x30).cell_some (k4.cell (i:=11) J))) (an J (ab J J (an J (ao (r:=I ((q-1:Nat):Int)) J J J (by have e:((q-1:Nat):Int)=(q:Int)-1:=(by omega);rw[e];exact bT) (an J ?_)))))))))))))))
   obtain⟨a39,c39,p39,q39,h39⟩:=cP (P:=Tryz.prog) (sz:=6) MN (by kernel_rfl) er (by omega) (iq.ext ((x4.trans eL).trans x30)) (i:=(q-1:Nat)) (by omega) .i64
   obtain⟨e39,he39⟩:∃e,e=s.lm[(q-1:Nat)]'(by omega):=⟨_,rfl⟩
   rw[←he39] at h39
   obtain⟨x39_0,x39_1,x39_2,rfl,f39_0,f39_1,f39_2⟩:=eG h39
   refine aE J J J (p39 _) ?_
   have hl:dA s.lm q=e39.va:=by rw[he39];exact fA (by omega)
   have hm39:=hB e39 (by rw[he39];exact Nh _)
   rw[hl] at hC
   refine an J (af J J (cT) (an J (ak J J (q39.ldO (ms:=[B e39.va.sg,x39_0,x39_1]) (o:=2) (ef J) MC J ag) (an J (aq cw J J (ek (aU.mk f39_0 f39_1) (by omega)) ?_)))))
   rintro v42 w42 ⟨x42,rfl⟩
   refine an J (ao J J J (bF (jY.2 hC) iw) (an J (aR J J J (aG J J J (aa J J (ar ?_))))))
   exact cW true ⟨J,J,trivial⟩ ⟨((eL.trans x30).trans x42),by unfold iB;rw[hA,decide_eq_true hz,hl,decide_eq_true hC];rfl⟩
  ·refine ae (ak J J ((k4.ext eL).ld MM J bg) (ab J J (aq fT J J ((by have h:=fU (k:=2) (j:=u) (bQ.mk (dm (iu.ext (x4.trans eL)) (io.ext (x4.trans eL)) (il.ext (x4.trans eL)) (ih.ext (x4.trans eL)) (ir.ext (x4.trans eL)) (it.ext (x4.trans eL)) (im.ext (x4.trans eL)) (jn.ext (x4.trans eL)) (ip.ext (x4.trans eL)) (iq.ext (x4.trans eL)))) hs;rw[hA] at h;exact h)) ?_)))
   rintro v30 w30 ⟨x30,rfl⟩
   refine ab J J (an J (ab J J (an J (ao J J J (bF (by omega) bo) (an J (ab J J (an J (af J J (bO) (an J (ak J J (ai MN J ((eL.trans x30).cell_some (k4.cell (i:=11) J))) (an J (ab J J (an J (ao (r:=I ((q-1:Nat):Int)) J J J (by have e:((q-1:Nat):Int)=(q:Int)-1:=(by omega);rw[e];exact bT) (an J ?_)))))))))))))))
   obtain⟨a39,c39,p39,q39,h39⟩:=cP (P:=Tryz.prog) (sz:=6) MN (by kernel_rfl) er (by omega) (iq.ext ((x4.trans eL).trans x30)) (i:=(q-1:Nat)) (by omega) .i64
   obtain⟨e39,he39⟩:∃e,e=s.lm[(q-1:Nat)]'(by omega):=⟨_,rfl⟩
   rw[←he39] at h39
   obtain⟨x39_0,x39_1,x39_2,rfl,f39_0,f39_1,f39_2⟩:=eG h39
   refine aE J J J (p39 _) ?_
   have hl:dA s.lm q=e39.va:=by rw[he39];exact fA (by omega)
   have hm39:=hB e39 (by rw[he39];exact Nh _)
   rw[hl] at hC
   refine an J (af J J (cT) (an J (ak J J (q39.ldO (ms:=[B e39.va.sg,x39_0,x39_1]) (o:=2) (ef J) MC J ag) (an J (aq cw J J (ek (aU.mk f39_0 f39_1) (by omega)) ?_)))))
   rintro v42 w42 ⟨x42,rfl⟩
   refine an J (ao J J J (be (fun h=>hC (jY.1 h)) iw) (an J (aR J J J (aG J J J (aa J J (ar ?_))))))
   exact cW false ⟨J,J,trivial⟩ ⟨((eL.trans x30).trans x42),by unfold iB;rw[hA,decide_eq_true hz,hl,decide_eq_false hC];rfl⟩
 rintro d wM ⟨eM,hd⟩
 refine ah (bc (ab J J (ab J J (aa J J (aa J J (aI (aD (dW J J J ?_))))))))
 exact⟨_,J,(x4.trans eM),_,_,J,by rw[←hb];rfl,by rw[←hd];rfl⟩
theorem uK {w:World} {s:eX} {u:Int} {v:Value} (hv:bQ ro s v w) (hs:SmS s) (hB:∀m∈s.lm,bt m.va≤17179869180) (hu0:0≤u) (hu:u<s.q.g.us.length):
 Calls Tryz.prog 22 #[v,I u] w (cA fun r w'=>aH w w'∧Is (I (Cl s u)) r w'):=by
 obtain⟨_,rfl,ra⟩:=hv
 obtain⟨su,so,sl,sh,sr,st,sm,sn,sp,sq,rfl,iu,io,il,ih,ir,it,im,jn,ip,iq⟩:=d7 ra
 refine enter (vs:=[.agg #[I s.q.g.inp,su,so,sl,sh,sr,st,B s.q.go.ct.sg,sm,sn,sp,sq],I u]) Tryz.func22 J J J (bc (cj J J fun g2 w2 l2 x2 k2=>(aa J J (aI (aj (bc (af J J (bz) (ak J J (k2.ldO (ms:=[I s.q.g.inp,su,so,sl,sh,sr,st,B s.q.go.ct.sg,sm,sn]) (o:=0) (ef J) MU J cV) (aq gK J J (gL (bQ.mk (gr (iu.ext x2) (io.ext x2) (il.ext x2) (ih.ext x2) (ir.ext x2) (it.ext x2) (im.ext x2) (jn.ext x2))) hs.q) ?_)))))))))
 rintro v11 w11 ⟨x11,rfl⟩
 refine cC J J cn (ab J J (an J (ab J J (an J (ao J J J (be (by omega) aX) (aG J J J (ab J J (an J (ab J J (an J (af J J (bz) (an J (af J J (bG) (an J (af J J (bX) (an J (ak J J (ai MI J (x11.cell_some (k2.cell (i:=1) J))) ?_)))))))))))))))))
 have e1:=x2.trans x11
 refine an J (bn J J (bB MI (iu.ext e1)) (an J (ao J J J (be (by omega) cz) (aG J J J (aI (bU J (aA (ah (bc (ak J J ((k2.ext x11).ld MM J bg) (ab J J (aq mK J J (mN (bQ.mk (dm (iu.ext e1) (io.ext e1) (il.ext e1) (ih.ext e1) (ir.ext e1) (it.ext e1) (im.ext e1) (jn.ext e1) (ip.ext e1) (iq.ext e1))) hB) ?_))))))))))))
 rintro v29 w29 ⟨x29,⟨_,_,rfl,rfl,rfl⟩⟩
 refine ab J J (aB J J cY (aB J J cZ (aa J J (aa J J (dR (ak J J ((k2.ext (x11.trans x29)).ld MM J bg) ?_))))))
 have e2:=e1.trans x29
 refine ab J J (ab J J (ab J J (aq zZ J J (z5 (bQ.mk (dm (iu.ext e2) (io.ext e2) (il.ext e2) (ih.ext e2) (ir.ext e2) (it.ext e2) (im.ext e2) (jn.ext e2) (ip.ext e2) (iq.ext e2))) hs hB (mJ _ _ _).1 (mJ _ _ _).2) ?_)))
 rintro v37 w37 ⟨x37,⟨_,_,rfl,rfl,rfl⟩⟩
 refine ab J J (aB J J cY (aB J J cZ (aa J J (aa J J (aI (aj (aJ (bc (ab J J (aa J J (aI (j2 J (fun h40=>?_) (fun h40=>?_)))))))))))))
 ·refine bc (aa J J (aI (aD (bK (a0 (aF J J ?_))))))
  exact⟨_,J,(((x2.trans x11).trans x29).trans x37),by show I _=I _;unfold Cl;rw[if_pos h40]⟩
 ·refine bc (ab J J (aa J J (aI ?_)))
  refine j2 J (fun h42=>?_) (fun h42=>?_)
  ·refine bc (aa J J (aI (aD (bK (a0 (aF J J ?_))))))
   exact⟨_,J,(((x2.trans x11).trans x29).trans x37),by show I _=I _;unfold Cl;rw[if_neg (by rw[h40];decide),if_pos h42]⟩
  ·refine aA (aW (ah (bc (aa J J (aI (aD (aF J J ?_)))))))
   exact⟨_,J,(((x2.trans x11).trans x29).trans x37),by show I _=I _;unfold Cl;rw[if_neg (by rw[h40];decide),if_neg (by rw[h42];decide)]⟩
theorem sj {w:World} {s:eX} {u:Int} {v:Value} (hv:bQ ro s v w) (hB:∀m∈s.lm,bt m.va≤17179869180) (hB0:s.lm.length≤9223372036854775800) (h1:0<(cy s.lm u).1) (h2:0<(cy s.lm u).2):
 Calls Tryz.prog 20 #[v,I u] w (cA fun r w'=>aH w w'∧j1 (QV (dA s.lm (cy s.lm u).1)) (QV (dA s.lm (cy s.lm u).2)) (Is (B true)) r w'):=by
 obtain⟨_,rfl,ra⟩:=hv
 obtain⟨su,so,sl,sh,sr,st,sm,sn,sp,sq,rfl,iu,io,il,ih,ir,it,im,jn,ip,iq⟩:=d7 ra
 obtain⟨h3,h4⟩:=mJ s.lm u s.lm.length
 have hlen:=iq.len
 obtain⟨p,hp⟩:∃p,p=(cy s.lm u).1:=⟨_,rfl⟩
 obtain⟨q,hq⟩:∃q,q=(cy s.lm u).2:=⟨_,rfl⟩
 rw[←hp] at h1
 rw[←hq] at h2
 change (cy s.lm u).1≤_ at h3
 change (cy s.lm u).2≤_ at h4
 rw[←hp] at h3
 rw[←hq] at h4
 rw[←hp,←hq]
 refine enter (vs:=[.agg #[I s.q.g.inp,su,so,sl,sh,sr,st,B s.q.go.ct.sg,sm,sn,sp,sq],I u]) Tryz.func20 J J J (bc (cj J J fun g2 w2 l2 x2 k2=>ce bv J fun g4 w4 l4 x4 k4=>ce bv J fun g5 w5 l5 x5 k5=>(aa J J (dR (ak J J ((k2.ext (x4.trans x5)).ld MM J bg) ?_)))))
 have e1:=(x2.trans x4).trans x5
 refine ab J J (aq Dn J J ((by have h:=Do (u:=u) (bQ.mk (dm (iu.ext e1) (io.ext e1) (il.ext e1) (ih.ext e1) (ir.ext e1) (it.ext e1) (im.ext e1) (jn.ext e1) (ip.ext e1) (iq.ext e1))) hB hB0;rw[←hp,←hq] at h;exact h)) ?_)
 rintro v12 w12 ⟨x12,⟨_,_,rfl,rfl,rfl⟩⟩
 refine ab J J (aB J J cY (aB J J cZ (aa J J (aa J J (aI (aj (bc (ab J J (ao J J J (be (by omega) aO) (ab J J (an J (ab J J (an J (ao J J J (be (by omega) aO) (aG J J J (aI (bU J (aA (ah (aj ?_))))))))))))))))))))
 have nM4_g2:g2≠g4:=fun e=>by have h1:=k2.lt;have h2:=l4;omega
 have nM4_g5:g5≠g4:=fun e=>by have h1:=k4.lt;have h2:=l5;omega
 refine ik 15 [4,5,36] (Kg [0,3,3] g4 w12) (Kg [0,3,3] g4) true AD (dE g4 49 [B false,.slice none 0 0,.slice none 0 0]) (Kg.env (by decide) _) (Kg.refl (by decide) _) km (k4.ext (x5.trans x12)) (fun _ _ _ _ h=>h.elim) (fun _=>by kernel_rfl) (by kernel_rfl) (by kernel_rfl) ?_
 have e2:=(x4.trans x5).trans x12
 refine al J J (fun w hw=>bO) (ap J J (fun w hw=>ai MN J (hw.cell_some (e2.cell_some (k2.cell (i:=11) J)))) (ax J J (bC (r:=I ((p-1:Nat):Int)) J J J (fun w _=>by have e:((p-1:Nat):Int)=(p:Int)-1:=(by omega);rw[e];exact bT) ?_)))
 obtain⟨a27,c27,p27,q27,h27⟩:=cP (P:=Tryz.prog) (sz:=6) MN (by kernel_rfl) er (by omega) (iq.ext (e1.trans x12)) (i:=(p-1:Nat)) (by omega) .i64
 obtain⟨e27,he27⟩:∃e,e=s.lm[(p-1:Nat)]'(by omega):=⟨_,rfl⟩
 rw[←he27] at h27
 obtain⟨x27_0,x27_1,x27_2,rfl,f27_0,f27_1,f27_2⟩:=eG h27
 have nM27:=d8.ne q27 (k4.ext (x5.trans x12)) (by simp)
 refine aK J J J (fun w _=>p27 w) ?_
 have hl:dA s.lm p=e27.va:=by rw[he27];exact fA (by omega)
 refine al J J (fun w hw=>cT) (ap J J (fun w hw=>(q27.kg hw).ldO (ms:=[B e27.va.sg,x27_0,x27_1]) (o:=2) (ef J) MC J ag) (al J J (fun w hw=>bO) (ap J J (fun w hw=>ai MN J (hw.cell_some (e2.cell_some (k2.cell (i:=11) J)))) (ax J J (bC (r:=I ((q-1:Nat):Int)) J J J (fun w _=>by have e:((q-1:Nat):Int)=(q:Int)-1:=(by omega);rw[e];exact bT) ?_)))))
 obtain⟨a34,c34,p34,q34,h34⟩:=cP (P:=Tryz.prog) (sz:=6) MN (by kernel_rfl) er (by omega) (iq.ext (e1.trans x12)) (i:=(q-1:Nat)) (by omega) .i64
 obtain⟨e34,he34⟩:∃e,e=s.lm[(q-1:Nat)]'(by omega):=⟨_,rfl⟩
 rw[←he34] at h34
 obtain⟨x34_0,x34_1,x34_2,rfl,f34_0,f34_1,f34_2⟩:=eG h34
 have nM34:=d8.ne q34 (k4.ext (x5.trans x12)) (by simp)
 refine aK J J J (fun w _=>p34 w) ?_
 have hl2:dA s.lm q=e34.va:=by rw[he34];exact fA (by omega)
 refine al J J (fun w hw=>cT) (ap J J (fun w hw=>(q34.kg hw).ldO (ms:=[B e34.va.sg,x34_0,x34_1]) (o:=2) (ef J) MC J ag) (nU J z4.stable (fun w hw hz u v hu hv=>by obtain rfl:=hu;obtain rfl:=hv;exact LV hz ((aU.mk f27_0 f27_1).kg hw)) (bA ?_)))
 intro wg4 xg4 zM4
 obtain⟨yM4,uM4,kM4,fM4_1,fM4_2⟩:=zM4
 have qM4:=xg4.q
 have mM4:=xg4.m
 have xM4:=aH.of_new (e2) qM4 l4
 rintro _ rfl _ rfl _ rfl
 have j1_k5:=((k5.ext x12).other qM4 fun e=>by have h1:=k4.lt;have h2:=l5;have h4:=Nc e;omega)
 refine bD J J j1_k5 J ag (am.cons J (am.cons f34_0.one (am.cons f34_1.one am.nil))) fun w4_15 q4_15 k4_15=>?_
 have x4_15:=aH.of_new (xM4) q4_15 (Nb (x4).size l5)
 have m4_15:=Kq.of1 (p:=[0,3,3]) j1_k5 (ac rfl (ac rfl (ac rfl aT))) q4_15
 refine aa J J (aI (aD ?_))
 have j2_kM4:=(kM4.other q4_15 fun e=>by have h1:=k4.lt;have h2:=l5;have h4:=Nc e;omega)
 refine bp J (.cell J (j2_kM4.ld MC J ag) (.cell J (k4_15.ld MC J ag) (.tmp J .nil))) ?_
 exact⟨_,J,(x2.trans x4_15),_,_,_,J,by rw[hl];exact aU.mk (fM4_1.kq m4_15) (fM4_2.kq m4_15),by rw[hl2];exact aU.mk ((f34_0.kq mM4).kq m4_15) ((f34_1.kq mM4).kq m4_15),J⟩
end Go.Rl
namespace Go.Rl
open Go.RowKit Go.Proofs
theorem Dp:az Tryz.prog 156:=⟨_,Tryz.func156,by kernel_rfl,rfl⟩
theorem BF:az Tryz.prog 76:=⟨_,Tryz.func76,by kernel_rfl,rfl⟩
theorem t6:az Tryz.prog 19:=⟨_,Tryz.func19,by kernel_rfl,rfl⟩
def wQ (out:List Rat) (f:dx):List Rat:=out++[max (sw out f.ts f.ct) 0]
def eZ (us:List dx) (x:List Rat):List Rat:=us.foldl wQ x
theorem z6 (us:List dx):∀x:List Rat,(eZ us x).length=x.length+us.length:=by
 induction us with
 |nil=>intro x;rfl
 |cons f us ih=>intro x;show(eZ us (wQ x f)).length=_;rw[ih];simp[wQ];omega
theorem It {us:List dx} {x:List Rat} {n:Nat} (hx:∀y∈x,bt y≤n) (h0:100≤n) (hu:∀(j:Nat) (h:j<us.length),us[j].ts.length≤7∧ew us[j]≤100):
 ∀j≤us.length,∀y∈eZ (us.take j) x,bt y≤n*10^j:=by
 intro j
 induction j with
 |zero=>intro _ y hy;simpa [eZ] using hx y (by simpa [eZ] using hy)
 |succ j ih=>
  intro hj y hy
  have ih:=ih (by omega)
  unfold eZ at hy ih
  rw[jz (by omega),wQ,List.mem_append] at hy
  have hp:n*10^(j+1)=10*(n*10^j):=by rw[Nat.pow_succ];simp only[Nat.mul_comm,Nat.mul_left_comm]
  have h1:n≤n*10^j:=Nat.le_mul_of_pos_right _ (Nat.pow_pos (by omega))
  rcases hy with hy|hy
  ·have:=ih y hy;omega
  ·obtain rfl:y=_:=by simpa using hy
   obtain⟨h2,h3⟩:=hu j (by omega)
   have h4:=vW (sw ((us.take j).foldl wQ x) us[j].ts us[j].ct) 0
   have h5:=ww ih (by omega) us[j].ts us[j].ct
   have h6:us[j].ts.length*(n*10^j)≤7*(n*10^j):=Ni _ h2
   unfold ew at h3
   have h7:bt 0=2:=tY
   omega
theorem sZ {f:dx} {n:Int} {k:Nat} (h:i8 f n=true) (hn:n≤k):f.ts.length≤k:=by
 by_cases h0:0≤n
 ·have:=jk h (by omega);omega
 ·cases hf:f.ts with
  |nil=>simp
  |cons t l=>
   unfold i8 at h
   rw[hf] at h
   have:=(eg.1 h).1
   omega
theorem zV.len {g:AF} (h:zV g):∀(j:Nat) (hj:j<g.us.length),g.us[j].ts.length≤7∧ew g.us[j]≤100:=fun j hj=>by
 have h1:=h.us j hj
 have h2:=h.i1
 have h3:=h.ul
 exact⟨sZ h1.1 (by omega),h1.2⟩
theorem Dq {w:World} {g:AF} {x:List Rat} {v u:Value} (hv:bQ Ev g v w) (hu:cF dQ x u w) (hs:zV g) (hl:(x.length:Int)=g.inp) (hx:∀y∈x,bt y≤100):
 Calls Tryz.prog 156 #[v,u] w (cA fun r w'=>aH w w'∧gQ (cF dQ (eZ g.us x)) (Is (I 0)) r w'):=by
 obtain⟨_,rfl,ra⟩:=hv
 obtain⟨gu,go,rfl,iu,io⟩:=mZ ra
 have h1:=hs.i1
 have h3:=hs.ul
 have hvb:=It (us:=g.us) (n:=100) hx (by omega) hs.len
 refine enter (vs:=[.agg #[I g.inp,gu,go],u]) Tryz.func156 J J J (bc (cj J J fun g2 w2 l2 x2 k2=>(aa J J (aa J J (aI (aj (bc (ak J J (k2.ld MX J dg) (aq oT J J (oW (bQ.mk (jP (iu.ext x2) (io.ext x2))) hs) ?_)))))))))
 rintro v12 w12 ⟨x12,rfl⟩
 refine cC J J cn (ab J J (an J (ab J J (an J (bn J J (bB MK (hu.ext (x2.trans x12))) (an J (af J J (bS) (an J (ak J J (ai ME J (x12.cell_some (k2.cell (i:=0) J))) (an J (ao J J J (be (by omega) fg) (aG J J J (aI (bU J (aA (ah (bc (aa J J (aI (aj (bc (aa J J (aI (aJ (iy (fun(i:Nat) (vo:Value)=>[(1,u),(2,.pointer (some ⟨g2,0,none⟩)),(6,vo),(7,I (i:Int))]) (fun(i:Nat) (vo:Value) w'=>aH w2 w'∧i≤x.length∧pS w2.heap.size (x.take i) vo w') (fun(i:Nat) (vo:Value)=>x.length-i) (0) (.slice none 0 0) ⟨J,J,J,J,trivial⟩ ⟨x12,by omega,bh.nil _⟩ ?_)))))))))))))))))))))))))
 rintro i vo wL ⟨eL,hi,hO⟩
 refine aj (bc (ab J J (ab J J (bn J J (bB MK (hu.ext (x2.trans eL))) (ao J J J (aX) (ar (ah (ci J (fun h24=>?_) (fun h24=>?_)))))))))
 ·refine aA (ah (aj (aJ (ae (ab J J (ab J J (ab J J ?_)))))))
  obtain⟨a30,c30,e30,he30,p30,q30,h30⟩:=dJ (hu.ext (x2.trans eL)) (i:=i)
  obtain⟨x30_0,x30_1,rfl,f30_0,f30_1⟩:=dO h30
  refine aE J J J (p30 _) (ak J J (q30.ld MC J ag) ?_)
  have hm:=hx e30 (by rw[he30];exact Nh _)
  have ht:=kk (l:=x) (i:=i) (by omega)
  rw[←he30] at ht
  refine aq iH J J (sS (aU.mk f30_0 f30_1) (by omega)) ?_
  rintro v32 w32 ⟨x32,⟨x32_0,x32_1,rfl,f32_0,f32_1⟩⟩
  obtain⟨v33,w33,hr33,x33,b33⟩:=uu (w:=w32) (ly (a:=e30) f32_0 f32_1)
  refine bN (vs:=[(0,.agg #[B e30.sg,x32_0,x32_1])]) J J hr33 ?_
  have e3:=x32.trans x33
  have e4:=((eL.trans x32).trans x33)
  obtain⟨v34,w34,hr34,o34,g34⟩:=yf (ty:=42) (hO.ext e3) b33 (by simp only[List.length_take,List.length_cons,List.length_nil];omega) e4.size
  refine df J J hr34 ?_
  have x34:=aH.of_grew e4 g34 ((hO.ext e3)).ge
  have m34:=((hO.ext e3)).kqG g34 (by decide)
  refine aa J J (ar (aW (ah (ae (ab J J (ao (r:=I ((i+1:Nat):Int)) J J J (by have e:((i+1:Nat):Int)=(i:Int)+1:=(by omega);rw[e];exact aY) (aa J J (ar (fk (i+1) (_) ⟨J,J,J,J,trivial⟩ ⟨x34,by omega,by rw[ht];exact o34⟩ (by omega))))))))))
 ·refine bJ (aV (aV (bP (ah (aj (aj ?_))))))
  obtain rfl:i=x.length:=by omega
  rw[List.take_length] at hO
  refine ae (aa J J (aI (aJ (iy (fun(j:Nat) (vp:Value)=>[(2,.pointer (some ⟨g2,0,none⟩)),(6,vp),(8,I (j:Int))]) (fun(j:Nat) (vp:Value) w'=>aH w2 w'∧j≤g.us.length∧pS w2.heap.size (eZ (g.us.take j) x) vp w') (fun(j:Nat) (vp:Value)=>g.us.length-j) (0) (vo) ⟨J,J,J,trivial⟩ ⟨eL,by omega,hO⟩ ?_))))
  rintro j vp wM ⟨eM,hj,hV⟩
  refine aj (bc (ab J J (af J J (bX) (ak J J (ai MI J (eM.cell_some (k2.cell (i:=1) J))) (bn J J (bB MI (iu.ext (x2.trans eM))) (ao J J J (aX) (aI (ci J (fun h39=>?_) (fun h39=>?_)))))))))
  ·refine aA (ah (aj (aJ (bc (af J J (bX) (ak J J (ai MI J (eM.cell_some (k2.cell (i:=1) J))) ?_))))))
   refine ab J J ?_
   obtain⟨a46,c46,e46,he46,p46,q46,h46⟩:=eN (iu.ext (x2.trans eM)) (i:=j)
   obtain⟨x46_0,x46_1,x46_2,rfl,f46_0,f46_1,f46_2⟩:=cl h46
   refine aE J J J (p46 _) (ak J J (q46.ld MG J ay) ?_)
   have hk:=hs.us j (by omega)
   have hk2:=hs.len j (by omega)
   rw[←he46] at hk hk2
   have hfs:eZ (g.us.take (j+1)) x=wQ (eZ (g.us.take j) x) e46:=by unfold eZ;rw[jz (by omega),←he46]
   have hln:=z6 (g.us.take j) x
   rw[List.length_take] at hln
   have hb:=hvb j (by omega)
   have hb6:∀y∈eZ (g.us.take j) x,bt y≤1000000:=fun y hy=>Nb (hb y hy) (by
    have:10^j≤10^4:=Nj (by omega) (by omega)
    omega)
   have hbe:=ww hb6 (by omega) e46.ts e46.ct
   have hbf:=hk2.2
   unfold ew at hbf
   have hbl:e46.ts.length*1000000≤7*1000000:=Ni _ hk2.1
   refine ab J J (aq r5 J J ((se (x:=eZ (g.us.take j) x) (BB:=1000000) (bQ.mk (cv f46_0 f46_1 f46_2)) (pS.dsv hV) (by rw[show((eZ (g.us.take j) x).length:Int)=g.inp+(j:Int) by omega];exact hk.1) hb6 (by omega) (by unfold ew;omega))) ?_)
   rintro v49 w49 ⟨x49,⟨_,_,rfl,⟨x49_a_0,x49_a_1,rfl,f49_a_0,f49_a_1⟩,rfl⟩⟩
   refine ab J J (aB J J cY (aB J J cZ (ce bv J fun g9 w9 l9 x9 k9=>bD J J k9 J ag (am.cons J (am.cons f49_a_0.one (am.cons f49_a_1.one am.nil))) fun w11_11 q11_11 k11_11=>?_)))
   have x11_11:=aH.of_new (x9) q11_11 l9
   refine aa J J (aI (ae (ab J J (ak J J (k11_11.ld MC J ag) (bV (r:=.agg #[B false,.slice none 0 0,.slice none 0 0]) J J (by exact run_build _ _ _ _ (by kernel_rfl)) ?_)))))
   have z55_1:=vW (sw (eZ (g.us.take j) x) e46.ts e46.ct) 0
   refine aq F8 J J (Mh (aU.mk (f49_a_0.ext x11_11) (f49_a_1.ext x11_11)) (aU.mk (bH.nil _) (bH.nil _)) (by rw[tY];omega)) ?_
   rintro v55 w55 ⟨x55,⟨x55_0,x55_1,rfl,f55_0,f55_1⟩⟩
   obtain⟨v56,w56,hr56,x56,b56⟩:=uu (w:=w55) (ly (a:=(max (sw (eZ (g.us.take j) x) e46.ts e46.ct) 0)) f55_0 f55_1)
   refine bN (vs:=[(0,.agg #[B (max (sw (eZ (g.us.take j) x) e46.ts e46.ct) 0).sg,x55_0,x55_1])]) J J hr56 ?_
   have e1:=((x49.trans x11_11).trans x55).trans x56
   have e2:=((((eM.trans x49).trans x11_11).trans x55).trans x56)
   obtain⟨v57,w57,hr57,o57,g57⟩:=yf (ty:=42) (hV.ext e1) b56 (by simp only[List.length_cons,List.length_nil];omega) e2.size
   refine df J J hr57 ?_
   have x57:=aH.of_grew e2 g57 ((hV.ext e1)).ge
   have m57:=((hV.ext e1)).kqG g57 (by decide)
   refine aa J J (ar (aW (ah (ae (ab J J (ao (r:=I ((j+1:Nat):Int)) J J J (by have e:((j+1:Nat):Int)=(j:Int)+1:=(by omega);rw[e];exact aY) (aa J J (ar (fk (j+1) (_) ⟨J,J,J,trivial⟩ ⟨x57,by omega,by rw[hfs];exact o57⟩ (by omega))))))))))
  ·refine bJ (aV (aV (bP (ah (bc (ab J J (aa J J (aa J J (aI (aD (dW J J J ?_)))))))))))
   obtain rfl:j=g.us.length:=by omega
   rw[List.take_length] at hV
   exact⟨_,J,(x2.trans eM),_,_,J,hV.dsv,J⟩
theorem BG {g:AF} {x:List Rat} (hs:zV g) (hl:(x.length:Int)=g.inp) (hx:∀y∈x,bt y≤100):((eZ g.us x).length:Int)=g.inp+g.us.length∧∀y∈eZ g.us x,bt y≤1000000:=by
 have h1:=z6 g.us x
 refine⟨by omega,fun y hy=>?_⟩
 have h2:=It (us:=g.us) (n:=100) hx (by omega) hs.len g.us.length (by omega) y (by rw[List.take_length];exact hy)
 have h3:=hs.ul
 have:10^g.us.length≤10^4:=Nj (by omega) (by omega)
 omega
def nW (l:List dx) (V:List Rat):List Rat:=l.map fun f=>sw V f.ts f.ct
theorem Iu {l:List dx} {V:List Rat} {i:Nat} (h:i<l.length):nW (l.take (i+1)) V=nW (l.take i) V++[sw V l[i].ts l[i].ct]:=by
 unfold nW;rw[kk h,List.map_append];rfl
theorem BH {w:World} {g:AF} {l:List dx} {x:List Rat} {v z u:Value} (hv:bQ Ev g v w) (hz:cF dZ l z w) (hu:cF dQ x u w) (hs:zV g) (hl:(x.length:Int)=g.inp) (hx:∀y∈x,bt y≤100) (hf:∀f∈l,i8 f (g.inp+g.us.length)=true∧ew f≤100) (hll:l.length≤1000):
 Calls Tryz.prog 76 #[v,z,u] w (cA fun r w'=>aH w w'∧gQ (cF dQ (nW l (eZ g.us x))) (Is (I 0)) r w'):=by
 obtain⟨_,rfl,ra⟩:=hv
 obtain⟨gu,go,rfl,iu,io⟩:=mZ ra
 have h1:=hs.i1
 have h3:=hs.ul
 obtain⟨hvl,hvb⟩:=BG hs hl hx
 obtain⟨V,hV⟩:∃V,V=eZ g.us x:=⟨_,rfl⟩
 rw[←hV] at hvl hvb
 rw[←hV]
 refine enter (vs:=[.agg #[I g.inp,gu,go],z,u]) Tryz.func76 J J J (bc (cj J J fun g3 w3 l3 x3 k3=>(aa J J (aa J J (dR (ak J J (k3.ld MX J dg) (ab J J (aq Dp J J ((by have h:=Dq (bQ.mk (jP (iu.ext x3) (io.ext x3))) (hu.ext x3) hs hl hx;rw[←hV] at h;exact h)) ?_))))))))
 rintro v17 w17 ⟨x17,⟨u17_a,_,rfl,b17_a,rfl⟩⟩
 refine ab J J (aB J J cY (aB J J cZ (aa J J (aa J J (aI (aj (bc (ab J J (ao J J J (be (by decide) fg) (aI (bU J (aA (ah (bc (aa J J (aI (aj (bc (aa J J (aI (aJ (iy (fun(i:Nat) (vo:Value)=>[(1,z),(8,u17_a),(10,vo),(11,I (i:Int))]) (fun(i:Nat) (vo:Value) w'=>aH w17 w'∧i≤l.length∧pS w17.heap.size (nW (l.take i) V) vo w') (fun(i:Nat) (vo:Value)=>l.length-i) (0) (.slice none 0 0) ⟨J,J,J,J,trivial⟩ ⟨aH.refl _,by omega,bh.nil _⟩ ?_))))))))))))))))))))))
 rintro i vo wL ⟨eL,hi,hO⟩
 refine aj (bc (ab J J (ab J J (bn J J (bB MI (hz.ext ((x3.trans x17).trans eL))) (ao J J J (aX) (aI (ci J (fun h26=>?_) (fun h26=>?_))))))))
 ·refine aA (ah (aj (aJ (bc (ab J J (ab J J ?_))))))
  obtain⟨a32,c32,e32,he32,p32,q32,h32⟩:=eN (hz.ext ((x3.trans x17).trans eL)) (i:=i)
  obtain⟨x32_0,x32_1,x32_2,rfl,f32_0,f32_1,f32_2⟩:=cl h32
  refine aE J J J (p32 _) (ak J J (q32.ld MG J ay) ?_)
  have hk:=hf e32 (by rw[he32];exact Nh _)
  have hk2:e32.ts.length≤7:=sZ hk.1 (by omega)
  have ht:=Iu (l:=l) (V:=V) (i:=i) (by omega)
  rw[←he32] at ht
  have hbf:=hk.2
  unfold ew at hbf
  have hbl:e32.ts.length*1000000≤7*1000000:=Ni _ hk2
  have hlf:(nW (l.take i) V).length≤l.length:=by unfold nW;rw[List.length_map,List.length_take];omega
  refine ab J J (aq r5 J J ((se (x:=V) (BB:=1000000) (bQ.mk (cv f32_0 f32_1 f32_2)) (b17_a.ext eL) (by rw[hvl];exact hk.1) hvb (by omega) (by unfold ew;omega))) ?_)
  rintro v35 w35 ⟨x35,⟨_,_,rfl,⟨x35_a_0,x35_a_1,rfl,f35_a_0,f35_a_1⟩,rfl⟩⟩
  refine ab J J (aB J J cY (aB J J cZ (ce bv J fun g12 w12 l12 x12 k12=>bD J J k12 J ag (am.cons J (am.cons f35_a_0.one (am.cons f35_a_1.one am.nil))) fun w8_10 q8_10 k8_10=>?_)))
  have x8_10:=aH.of_new (x12) q8_10 l12
  refine aa J J (aI (ae (ab J J (ak J J (k8_10.ld MC J ag) ?_))))
  obtain⟨v40,w40,hr40,x40,b40⟩:=uu (w:=w8_10) (ly (a:=(sw V e32.ts e32.ct)) (f35_a_0.ext x8_10) (f35_a_1.ext x8_10))
  refine bN (vs:=[(0,.agg #[B (sw V e32.ts e32.ct).sg,x35_a_0,x35_a_1])]) J J hr40 ?_
  have e1:=(x35.trans x8_10).trans x40
  have e2:=(((eL.trans x35).trans x8_10).trans x40)
  obtain⟨v41,w41,hr41,o41,g41⟩:=yf (ty:=42) (hO.ext e1) b40 (by simp only[List.length_cons,List.length_nil];omega) e2.size
  refine df J J hr41 ?_
  have x41:=aH.of_grew e2 g41 ((hO.ext e1)).ge
  have m41:=((hO.ext e1)).kqG g41 (by decide)
  refine aa J J (ar (aW (ah (ae (ab J J (ao (r:=I ((i+1:Nat):Int)) J J J (by have e:((i+1:Nat):Int)=(i:Int)+1:=(by omega);rw[e];exact aY) (aa J J (ar (fk (i+1) (_) ⟨J,J,J,J,trivial⟩ ⟨x41,by omega,by rw[ht];exact o41⟩ (by omega))))))))))
 ·refine bJ (aV (aV (bP (ah (bc (ab J J (aa J J (aa J J (aI (aD (dW J J J ?_)))))))))))
  obtain rfl:i=l.length:=by omega
  rw[List.take_length] at hO
  exact⟨_,J,((x3.trans x17).trans eL),_,_,J,hO.dsv,J⟩
theorem zV.up {g:AF} (h:zV g):∀f∈g.us,i8 f (g.inp+g.us.length)=true∧ew f≤100:=fun f hf=>by
 obtain⟨j,hj,rfl⟩:=List.mem_iff_getElem.1 hf
 have h1:=h.us j hj
 exact⟨qc (by omega) h1.1,h1.2⟩
theorem t8 {w:World} {g:AF} {x:List Rat} {v u:Value} (hv:bQ Ev g v w) (hu:cF dQ x u w) (hs:zV g) (hl:(x.length:Int)=g.inp) (hx:∀y∈x,bt y≤100):
 Calls Tryz.prog 19 #[v,u] w (cA fun r w'=>aH w w'∧gQ (cF dQ (nW g.us (eZ g.us x))) (Is (I 0)) r w'):=by
 obtain⟨_,rfl,ra⟩:=hv
 obtain⟨gu,go,rfl,iu,io⟩:=mZ ra
 have h3:=hs.ul
 refine enter (vs:=[.agg #[I g.inp,gu,go],u]) Tryz.func19 J J J (bc (cj J J fun g2 w2 l2 x2 k2=>(aa J J (aa J J (dR (ak J J (k2.ld MX J dg) (af J J (bX) (ak J J (ai MI J (k2.cell (i:=1) J)) (ab J J (aq BF J J (BH (bQ.mk (jP (iu.ext x2) (io.ext x2))) (iu.ext x2) (hu.ext x2) hs hl hx hs.up (by omega)) ?_))))))))))
 rintro v10 w10 ⟨x10,⟨u10_a,_,rfl,b10_a,rfl⟩⟩
 refine aB J J cY (aB J J cZ (aa J J (aa J J (aI (aD (dW J J J ?_))))))
 exact⟨_,J,(x2.trans x10),_,_,J,b10_a,J⟩
end Go.Rl
namespace Go.Rl
open Go.RowKit Go.Proofs
theorem wR:az Tryz.prog 74:=⟨_,Tryz.func74,by kernel_rfl,rfl⟩
theorem uL:az Tryz.prog 75:=⟨_,Tryz.func75,by kernel_rfl,rfl⟩
theorem s4:az Tryz.prog 18:=⟨_,Tryz.func18,by kernel_rfl,rfl⟩
def Gn (r:CK) (x:List Rat) (i:Nat):Bool:=decide (r.lo.getD i 0≤x.getD i 0)&&decide (x.getD i 0≤r.hi.getD i 0)
def KJ (r:CK) (x:List Rat):Bool:=((List.range x.length).all (Gn r x))&&r.rs.all fun f=>decide (0≤sw x f.ts f.ct)
def kU (q:ur) (d:nw) (x:List Rat):Bool:=
 if d.kd=3 then decide (d.at_≤x.getD d.ix.toNat 0) else if d.kd=4 then decide (x.getD d.ix.toNat 0≤d.at_)
 else if d.kd=1 then decide (0≤(nW q.g.us (eZ q.g.us x)).getD d.ix.toNat 0) else decide ((nW q.g.us (eZ q.g.us x)).getD d.ix.toNat 0≤0)
def z7 (s:eX) (x:List Rat):Bool:=KJ s.q.r x&&s.pa.all fun d=>kU s.q d x
theorem iC {l:List Rat} {i:Nat} (h:i<l.length):l.getD i 0=l[i]:=by rw[List.getD_eq_getElem?_getD,List.getElem?_eq_getElem h];rfl
theorem Dr {P:Nat→Bool} {i:Nat} (h:(List.range i).all P=true) (hP:P i=true):(List.range (i+1)).all P=true:=by
 rw[List.range_succ,List.all_append,h];simp[hP]
theorem BI {P:Nat→Bool} {i n:Nat} (h:i<n) (hP:P i=false):(List.range n).all P=false:=by
 rw[List.all_eq_false];exact⟨i,List.mem_range.2 h,by rw[hP];decide⟩
theorem BJ {α:Type} {P:α→Bool} {l:List α} {i:Nat} (hi:i<l.length) (h:(l.take i).all P=true) (hP:P l[i]=true):(l.take (i+1)).all P=true:=by
 rw[kk hi,List.all_append,h];simp[hP]
theorem EU {α:Type} {P:α→Bool} {l:List α} {i:Nat} (hi:i<l.length) (hP:P l[i]=false):l.all P=false:=by
 rw[List.all_eq_false];exact⟨l[i],List.getElem_mem _,by rw[hP];decide⟩
theorem wS {w:World} {r:CK} {n:Int} {x:List Rat} {v u:Value} (hv:bQ GZ r v w) (hu:cF dQ x u w) (hs:G0 r n) (hl:(x.length:Int)=n) (hx:∀y∈x,bt y≤100):
 Calls Tryz.prog 74 #[v,u] w (cA fun e w'=>aH w w'∧Is (B (KJ r x)) e w'):=by
 obtain⟨_,rfl,ra⟩:=hv
 obtain⟨ga,gb,gc,rfl,ia,ib,ic⟩:=qR ra
 have h1:=hs.n0
 have h2:=hs.n1
 have h3:=hs.ll
 have h4:=hs.hl
 have h5:=hs.rl
 refine enter (vs:=[.agg #[ga,gb,gc],u]) Tryz.func74 J J J (bc (cj J J fun g2 w2 l2 x2 k2=>(aa J J (aI (aj (bc (ak J J (k2.ld M1 J dM) (aq Dh J J (Dl (bQ.mk (pR (ia.ext x2) (ib.ext x2) (ic.ext x2))) hs) ?_))))))))
 rintro v10 w10 ⟨x10,rfl⟩
 refine cC J J cn (ab J J (an J (ab J J (an J (bn J J (bB MK (hu.ext (x2.trans x10))) (an J (af J J (cO) (an J (ak J J (ai MK J (x10.cell_some (k2.cell (i:=0) J))) (an J (bn J J (bB MK (ia.ext (x2.trans x10))) (an J (ao J J J (be (by omega) fg) (aG J J J (aI (bU J (aA (ah (aj (bc (aa J J (aI (aJ (dS (α:=Nat) (fun i=>[(1,u),(2,.pointer (some ⟨g2,0,none⟩)),(5,I (i:Int))]) (fun i w'=>aH w2 w'∧i≤x.length∧(List.range i).all (Gn r x)=true) (fun i=>x.length-i) (0) ⟨J,J,J,trivial⟩ ⟨x10,by omega,J⟩ ?_))))))))))))))))))))))))
 rintro i wL ⟨eL,hi,hall⟩
 refine aj (bc (ab J J (ab J J (bn J J (bB MK (hu.ext (x2.trans eL))) (ao J J J (aX) (ar (ah (ci J (fun h23=>?_) (fun h23=>?_)))))))))
 ·refine aA (ah (aj (aJ (aj ?_))))
  obtain⟨ha,hb,hc⟩:r.lo.getD i 0=r.lo[i]'(by omega)∧r.hi.getD i 0=r.hi[i]'(by omega)∧x.getD i 0=x[i]'(by omega):=⟨iC _,iC _,iC _⟩
  have hlh:=hs.lh i (by omega) (by omega)
  have hxm:=hx (x[i]'(by omega)) (Nh _)
  rcases(show x[i]'(by omega)<r.lo[i]'(by omega)∨(¬x[i]'(by omega)<r.lo[i]'(by omega)∧r.hi[i]'(by omega)<x[i]'(by omega))∨(¬x[i]'(by omega)<r.lo[i]'(by omega)∧¬r.hi[i]'(by omega)<x[i]'(by omega)) by grind) with hA|⟨hA,hB⟩|⟨hA,hB⟩
  ·refine bj 23 [1,2,5,37,48] (by kernel_rfl) (by kernel_rfl) ?_
   refine ax J J (ax J J ?_)
   obtain⟨a28,c28,e28,he28,p28,q28,h28⟩:=dJ (hu.ext (x2.trans eL)) (i:=i)
   obtain⟨x28_0,x28_1,rfl,f28_0,f28_1⟩:=dO h28
   refine aK J J J (fun w _=>p28 w) (ap J J (fun w hw=>(q28.ext hw).ld MC J ag) ?_)
   rw[←he28] at hA hxm hc
   refine al J J (fun w hw=>cO) (ap J J (fun w hw=>ai MK J (hw.cell_some (eL.cell_some (k2.cell (i:=0) J)))) (ax J J ?_))
   obtain⟨a33,c33,e33,he33,p33,q33,h33⟩:=dJ (ia.ext (x2.trans eL)) (i:=i)
   obtain⟨x33_0,x33_1,rfl,f33_0,f33_1⟩:=dO h33
   refine aK J J J (fun w _=>p33 w) (ap J J (fun w hw=>(q33.ext hw).ld MC J ag) ?_)
   rw[←he33] at hA ha hlh
   refine ec (S:=Is (I (f6 e28 e33))) ee (bi.is _) J J J (fun w hw=>jU ((aU.mk f28_0 f28_1).ext hw) ((aU.mk f33_0 f33_1).ext hw) (by omega)) (bC J J J (fun w _=>bF (kQ.2 hA) aX) (ax J J (bu J J J (bu J J J (bu J J J (bu J J J (bu J J J (bu J J J (bu J J J (bu J J J (bu J J J (bu J J J (bu J J J (bA ?_))))))))))))))
   rintro wg6 xg6 _ hq1
   obtain rfl:=Eq.symm hq1
   rintro _ rfl _ rfl _ rfl _ rfl
   refine aR J J J (aI (cg J (bc (aa J J (aI (aD (bK (a0 (a0 (bK (a0 (aF J J ?_))))))))))))
   exact⟨_,J,((x2.trans eL).trans xg6),by show B _=B _;unfold KJ;rw[BI (i:=i) (by omega) (by unfold Gn;rw[ha,hc,decide_eq_false (by grind)];rfl)];rfl⟩
  ·refine bj 23 [1,2,5,37,48] (by kernel_rfl) (by kernel_rfl) ?_
   refine ax J J (ax J J ?_)
   obtain⟨a28,c28,e28,he28,p28,q28,h28⟩:=dJ (hu.ext (x2.trans eL)) (i:=i)
   obtain⟨x28_0,x28_1,rfl,f28_0,f28_1⟩:=dO h28
   refine aK J J J (fun w _=>p28 w) (ap J J (fun w hw=>(q28.ext hw).ld MC J ag) ?_)
   rw[←he28] at hA hxm hc
   refine al J J (fun w hw=>cO) (ap J J (fun w hw=>ai MK J (hw.cell_some (eL.cell_some (k2.cell (i:=0) J)))) (ax J J ?_))
   obtain⟨a33,c33,e33,he33,p33,q33,h33⟩:=dJ (ia.ext (x2.trans eL)) (i:=i)
   obtain⟨x33_0,x33_1,rfl,f33_0,f33_1⟩:=dO h33
   refine aK J J J (fun w _=>p33 w) (ap J J (fun w hw=>(q33.ext hw).ld MC J ag) ?_)
   rw[←he33] at hA ha hlh
   refine ec (S:=Is (I (f6 e28 e33))) ee (bi.is _) J J J (fun w hw=>jU ((aU.mk f28_0 f28_1).ext hw) ((aU.mk f33_0 f33_1).ext hw) (by omega)) (bC J J J (fun w _=>be (fun h=>hA (kQ.1 h)) aX) (ax J J (au J J (ax J J (au J J (ax J J (au J J (aK J J J (fun w _=>p28 w) (au J J (ap J J (fun w hw=>(q28.ext hw).ld MC J ag) (au J J (al J J (fun w hw=>du) (au J J (ap J J (fun w hw=>ai MK J (hw.cell_some (eL.cell_some (k2.cell (i:=1) J)))) (au J J (ax J J (au J J ?_)))))))))))))))))
   obtain⟨a45,c45,e45,he45,p45,q45,h45⟩:=dJ (ib.ext (x2.trans eL)) (i:=i)
   obtain⟨x45_0,x45_1,rfl,f45_0,f45_1⟩:=dO h45
   refine aK J J J (fun w _=>p45 w) (au J J (ap J J (fun w hw=>(q45.ext hw).ld MC J ag) ?_))
   rw[←he28,←he45] at hB
   rw[←he45] at hb hlh
   refine au J J (ec (S:=Is (I (f6 e28 e45))) ee (bi.is _) J J J (fun w hw=>jU ((aU.mk f28_0 f28_1).ext hw) ((aU.mk f45_0 f45_1).ext hw) (by omega)) (au J J (bC J J J (fun w _=>bF (gd.2 hB) bo) (bA ?_))))
   rintro wg6 xg6 _ hq1
   obtain rfl:=Eq.symm hq1
   rintro _ rfl _ rfl _ rfl _ rfl
   refine aG J J J (aI (cg J (bc (aa J J (aI (aD (bK (a0 (a0 (bK (a0 (aF J J ?_))))))))))))
   exact⟨_,J,((x2.trans eL).trans xg6),by show B _=B _;unfold KJ;rw[BI (i:=i) (by omega) (by unfold Gn;rw[hb,hc,decide_eq_false (show ¬e28≤e45 by grind),Bool.and_false])];rfl⟩
  ·refine bj 23 [1,2,5,37,48] (by kernel_rfl) (by kernel_rfl) ?_
   refine ax J J (ax J J ?_)
   obtain⟨a28,c28,e28,he28,p28,q28,h28⟩:=dJ (hu.ext (x2.trans eL)) (i:=i)
   obtain⟨x28_0,x28_1,rfl,f28_0,f28_1⟩:=dO h28
   refine aK J J J (fun w _=>p28 w) (ap J J (fun w hw=>(q28.ext hw).ld MC J ag) ?_)
   rw[←he28] at hA hxm hc
   refine al J J (fun w hw=>cO) (ap J J (fun w hw=>ai MK J (hw.cell_some (eL.cell_some (k2.cell (i:=0) J)))) (ax J J ?_))
   obtain⟨a33,c33,e33,he33,p33,q33,h33⟩:=dJ (ia.ext (x2.trans eL)) (i:=i)
   obtain⟨x33_0,x33_1,rfl,f33_0,f33_1⟩:=dO h33
   refine aK J J J (fun w _=>p33 w) (ap J J (fun w hw=>(q33.ext hw).ld MC J ag) ?_)
   rw[←he33] at hA ha hlh
   refine ec (S:=Is (I (f6 e28 e33))) ee (bi.is _) J J J (fun w hw=>jU ((aU.mk f28_0 f28_1).ext hw) ((aU.mk f33_0 f33_1).ext hw) (by omega)) (bC J J J (fun w _=>be (fun h=>hA (kQ.1 h)) aX) (ax J J (au J J (ax J J (au J J (ax J J (au J J (aK J J J (fun w _=>p28 w) (au J J (ap J J (fun w hw=>(q28.ext hw).ld MC J ag) (au J J (al J J (fun w hw=>du) (au J J (ap J J (fun w hw=>ai MK J (hw.cell_some (eL.cell_some (k2.cell (i:=1) J)))) (au J J (ax J J (au J J ?_)))))))))))))))))
   obtain⟨a45,c45,e45,he45,p45,q45,h45⟩:=dJ (ib.ext (x2.trans eL)) (i:=i)
   obtain⟨x45_0,x45_1,rfl,f45_0,f45_1⟩:=dO h45
   refine aK J J J (fun w _=>p45 w) (au J J (ap J J (fun w hw=>(q45.ext hw).ld MC J ag) ?_))
   rw[←he28,←he45] at hB
   rw[←he45] at hb hlh
   refine au J J (ec (S:=Is (I (f6 e28 e45))) ee (bi.is _) J J J (fun w hw=>jU ((aU.mk f28_0 f28_1).ext hw) ((aU.mk f45_0 f45_1).ext hw) (by omega)) (au J J (bC J J J (fun w _=>be (fun h=>hB (gd.1 h)) bo) (bA ?_))))
   rintro wg6 xg6 _ hq1
   obtain rfl:=Eq.symm hq1
   rintro _ rfl _ rfl _ rfl _ rfl
   refine aG J J J (aI (bU J (aA (aW (ah (ae (ab J J (ao (r:=I ((i+1:Nat):Int)) J J J (by have e:((i+1:Nat):Int)=(i:Int)+1:=(by omega);rw[e];exact aY) (aa J J (ar (dC (i+1) ⟨J,J,J,trivial⟩ ⟨(eL.trans xg6),by omega,Dr hall (by unfold Gn;rw[ha,hb,hc,decide_eq_true (show e33≤e28 by grind),decide_eq_true (show e28≤e45 by grind)];rfl)⟩ (by omega))))))))))))
 ·refine bJ (aV (aV (bP (ah (aj (aj ?_))))))
  obtain rfl:i=x.length:=by omega
  refine ae (aa J J (aI (aJ (dS (α:=Nat) (fun j=>[(1,u),(2,.pointer (some ⟨g2,0,none⟩)),(6,I (j:Int))]) (fun j w'=>aH w2 w'∧j≤r.rs.length∧(r.rs.take j).all (fun f=>decide (0≤sw x f.ts f.ct))=true) (fun j=>r.rs.length-j) (0) ⟨J,J,J,trivial⟩ ⟨eL,by omega,J⟩ ?_))))
  rintro j wM ⟨eM,hj,hrs⟩
  refine aj (bc (ab J J (af J J (eT) (ak J J (ai MI J (eM.cell_some (k2.cell (i:=2) J))) (bn J J (bB MI (ic.ext (x2.trans eM))) (ao J J J (aX) (aI (ci J (fun h54=>?_) (fun h54=>?_)))))))))
  ·refine aA (ah (aj (aJ (bc (af J J (eT) (ak J J (ai MI J (eM.cell_some (k2.cell (i:=2) J))) ?_))))))
   refine ab J J ?_
   obtain⟨a61,c61,e61,he61,p61,q61,h61⟩:=eN (ic.ext (x2.trans eM)) (i:=j)
   obtain⟨x61_0,x61_1,x61_2,rfl,f61_0,f61_1,f61_2⟩:=cl h61
   refine aE J J J (p61 _) (ak J J (q61.ld MG J ay) ?_)
   have hk:=hs.rs e61 (by rw[he61];exact Nh _)
   have hk2:e61.ts.length≤3:=sZ hk.1 (by omega)
   have hbe:=ww hx (by omega) e61.ts e61.ct
   have hbf:=hk.2
   unfold ew at hbf
   have hbl:e61.ts.length*100≤3*100:=Ni _ hk2
   refine ab J J (aq r5 J J ((se (x:=x) (BB:=100) (bQ.mk (cv f61_0 f61_1 f61_2)) (hu.ext (x2.trans eM)) (by rw[hl];exact hk.1) hx (by omega) (by unfold ew;omega))) ?_)
   rintro v64 w64 ⟨x64,⟨_,_,rfl,⟨x64_a_0,x64_a_1,rfl,f64_a_0,f64_a_1⟩,rfl⟩⟩
   refine ab J J (aB J J cY (aB J J cZ (ce bv J fun g7 w7 l7 x7 k7=>bD J J k7 J ag (am.cons J (am.cons f64_a_0.one (am.cons f64_a_1.one am.nil))) fun w11_11 q11_11 k11_11=>?_)))
   have x11_11:=aH.of_new (x7) q11_11 l7
   refine aa J J (dR (ak J J (k11_11.ld MC J ag) (aq f9 J J (mH (aU.mk (f64_a_0.ext x11_11) (f64_a_1.ext x11_11)) (by omega)) ?_)))
   rintro v68 w68 ⟨x68,rfl⟩
   refine ao J J J (aX) (aI (ci J (fun h69=>?_) (fun h69=>?_)))
   ·have hng:decide (0≤sw x (r.rs[j]'(by omega)).ts (r.rs[j]'(by omega)).ct)=false:=decide_eq_false (by rw[←he61];have:=kR.1 h69;grind)
    refine bc (aa J J (aI (aD (bK (a0 (a0 (bK (a0 (aF J J ?_)))))))))
    exact⟨_,J,((((x2.trans eM).trans x64).trans x11_11).trans x68),by show B _=B _;unfold KJ;rw[EU (P:=fun f:dx=>decide (0≤sw x f.ts f.ct)) (i:=j) (by omega) hng,Bool.and_false]⟩
   ·have hng:decide (0≤sw x (r.rs[j]'(by omega)).ts (r.rs[j]'(by omega)).ct)=true:=decide_eq_true (by rw[←he61];have:=mt kR.2 h69;grind)
    refine aA (aW (ah (ae (ab J J (ao (r:=I ((j+1:Nat):Int)) J J J (by have e:((j+1:Nat):Int)=(j:Int)+1:=(by omega);rw[e];exact aY) (aa J J (ar (dC (j+1) ⟨J,J,J,trivial⟩ ⟨(((eM.trans x64).trans x11_11).trans x68),by omega,BJ (by omega) hrs hng⟩ (by omega)))))))))
  ·refine bJ (aV (aV (bP (ah (bc (aa J J (aI (aD (aF J J ?_)))))))))
   obtain rfl:j=r.rs.length:=by omega
   rw[List.take_length] at hrs
   exact⟨_,J,(x2.trans eM),by show B _=B _;unfold KJ;rw[hall,hrs];rfl⟩
theorem EV (g:AF) (V:List Rat):(nW g.us V).length=g.us.length:=by simp[nW]
theorem Iv {g:AF} {x:List Rat} (hs:zV g) (hl:(x.length:Int)=g.inp) (hx:∀y∈x,bt y≤100):∀y∈nW g.us (eZ g.us x),bt y≤10000000:=fun y hy=>by
 obtain⟨f,hf,rfl⟩:=List.mem_map.1 hy
 have h1:=(BG hs hl hx).2
 have h2:=hs.up f hf
 have h3:=hs.i1
 have h4:=hs.ul
 have h5:f.ts.length≤7:=sZ h2.1 (by omega)
 have h6:=ww h1 (by omega) f.ts f.ct
 have h7:f.ts.length*1000000≤7*1000000:=Ni _ h5
 have h8:=h2.2
 unfold ew at h8
 omega
theorem uM {w:World} {q:ur} {d:nw} {x:List Rat} {v u z:Value} (hv:bQ Ew q v w) (hu:bQ pQ d u w) (hz:cF dQ x z w) (hd:i9 q d) (hs:n7 q) (hl:(x.length:Int)=q.g.inp) (hx:∀y∈x,bt y≤100):
 Calls Tryz.prog 75 #[v,u,z] w (cA fun r w'=>aH w w'∧Is (B (kU q d x)) r w'):=by
 obtain⟨_,rfl,ra⟩:=hv
 obtain⟨qu,qo,ql,qh,qr,qt,qm,qn,rfl,iu,io,il,ih,ir,it,im,jn⟩:=m3 ra
 obtain⟨_,rfl,rb⟩:=hu
 obtain⟨da,db,rfl,ja,jb⟩:=gn rb
 have h1:=hs.g.i1
 have hpl:=EV q.g (eZ q.g.us x)
 have hpb:=Iv hs.g hl hx
 obtain⟨V,hV⟩:∃V,V=nW q.g.us (eZ q.g.us x):=⟨_,rfl⟩
 rw[←hV] at hpl hpb
 have hat:bt d.at_≤20:=by rcases hd with⟨_,_,_,h⟩|⟨_,_,_,h⟩; ·rw[h,tY];omega
                          ·exact h
 refine enter (vs:=[.agg #[I q.g.inp,qu,qo,ql,qh,qr,qt,B q.go.ct.sg,qm,qn],.agg #[I d.kd,I d.ix,B d.at_.sg,da,db],z]) Tryz.func75 J J J (bc (cj J J fun g3 w3 l3 x3 k3=>cj J J fun g4 w4 l4 x4 k4=>(aa J J (aI (aj (bc (ak J J ((k3.ext x4).ld MU J cV) ?_)))))))
 have e1:=x3.trans x4
 refine ak J J (k4.ld MW J cH) (aq BC J J (BE (bQ.mk (gr (iu.ext e1) (io.ext e1) (il.ext e1) (ih.ext e1) (ir.ext e1) (it.ext e1) (im.ext e1) (jn.ext e1))) (bQ.mk (lf (ja.ext e1) (jb.ext e1))) hd hs) ?_)
 rintro v11 w11 ⟨x11,rfl⟩
 refine cC J J cn (ab J J (an J (ab J J (an J (bn J J (bB MK (hz.ext (e1.trans x11))) (an J (af J J (bG) (an J (af J J (bS) (an J (ak J J (ai ME J ((x4.trans x11).cell_some (k3.cell (i:=0) J))) (an J (ao J J J (be (by omega) fg) (aG J J J (aI (bU J (aA (ah (aj (bc (af J J (bW) (ak J J (ai ME J (x11.cell_some (k4.cell (i:=0) J))) (aI (aJ (aj ?_)))))))))))))))))))))))))
 rcases(show(0≤d.ix∧d.ix<q.g.inp∧d.kd=3)∨(0≤d.ix∧d.ix<q.g.inp∧d.kd=4)∨(0≤d.ix∧d.ix<q.g.us.length∧d.kd=1)∨(0≤d.ix∧d.ix<q.g.us.length∧d.kd=2) by rcases hd with⟨hA|hA,hB,hC,_⟩|⟨hA|hA,hB,hC,_⟩<;>simp[hA,hB,hC]) with⟨hi0,hi1,hk⟩|⟨hi0,hi1,hk⟩|⟨hi0,hi1,hk⟩|⟨hi0,hi1,hk⟩
 ·refine ae (ao J J J (bF hk aO) (aa J J (aI (cg J (aj ?_)))))
  obtain⟨em,hem⟩:∃em,em=x[d.ix.toNat]'(by omega):=⟨_,rfl⟩
  have hm:=hx em (by rw[hem];exact Nh _)
  have hg:x.getD d.ix.toNat 0=em:=by rw[hem];exact iC _
  rcases Decidable.em (d.at_≤em) with hC|hC
  ·refine bj 9 [33] (by kernel_rfl) (by kernel_rfl) ?_
   refine ax J J (al J J (fun w hw=>bd) (ap J J (fun w hw=>ai ME J (hw.cell_some (x11.cell_some (k4.cell (i:=1) J)))) ?_))
   have e2:=(x3.trans x4).trans x11
   obtain⟨a28,c28,p28,q28,h28⟩:=cP (P:=Tryz.prog) (sz:=3) MK (by kernel_rfl) gy (by omega) (hz.ext e2) (i:=d.ix.toNat) (by omega) .i64
   rw[Int.toNat_of_nonneg hi0] at p28
   rw[←hem] at h28
   obtain⟨x28_0,x28_1,rfl,f28_0,f28_1⟩:=dO h28
   refine aK J J J (fun w _=>p28 w) (ap J J (fun w hw=>(q28.ext hw).ld MC J ag) (al J J (fun w hw=>cE) (ap J J (fun w hw=>((k4.ext x11).ext hw).ldO (ms:=[B d.at_.sg,da,db]) (o:=2) (ef J) MC J ag) (ec (S:=Is (I (f6 em d.at_))) ee (bi.is _) J J J (fun w hw=>jU ((aU.mk f28_0 f28_1).ext hw) ((aU.mk (ja.ext e2) (jb.ext e2)).ext hw) (by omega)) (bC J J J (fun w _=>bF ((qU).2 hC) cz) (bA ?_))))))
   rintro wg5 xg5 _ rfl
   refine aa J J (aI (aD (bK (a0 (aF J J ?_)))))
   exact⟨_,J,(e2.trans xg5),by show B _=B _;unfold kU;rw[if_pos hk,hg,decide_eq_true hC]⟩
  ·refine bj 9 [33] (by kernel_rfl) (by kernel_rfl) ?_
   refine ax J J (al J J (fun w hw=>bd) (ap J J (fun w hw=>ai ME J (hw.cell_some (x11.cell_some (k4.cell (i:=1) J)))) ?_))
   have e3:=(x3.trans x4).trans x11
   obtain⟨a28,c28,p28,q28,h28⟩:=cP (P:=Tryz.prog) (sz:=3) MK (by kernel_rfl) gy (by omega) (hz.ext e3) (i:=d.ix.toNat) (by omega) .i64
   rw[Int.toNat_of_nonneg hi0] at p28
   rw[←hem] at h28
   obtain⟨x28_0,x28_1,rfl,f28_0,f28_1⟩:=dO h28
   refine aK J J J (fun w _=>p28 w) (ap J J (fun w hw=>(q28.ext hw).ld MC J ag) (al J J (fun w hw=>cE) (ap J J (fun w hw=>((k4.ext x11).ext hw).ldO (ms:=[B d.at_.sg,da,db]) (o:=2) (ef J) MC J ag) (ec (S:=Is (I (f6 em d.at_))) ee (bi.is _) J J J (fun w hw=>jU ((aU.mk f28_0 f28_1).ext hw) ((aU.mk (ja.ext e3) (jb.ext e3)).ext hw) (by omega)) (bC J J J (fun w _=>be (fun h=>hC (qU.1 h)) cz) (bA ?_))))))
   rintro wg5 xg5 _ rfl
   refine aa J J (aI (aD (bK (a0 (aF J J ?_)))))
   exact⟨_,J,(e3.trans xg5),by show B _=B _;unfold kU;rw[if_pos hk,hg,decide_eq_false hC]⟩
 ·refine ae (ao J J J (be (by omega) aO) (aa J J (aI (bU J (bc (ao J J J (bF hk aO) (aa J J ?_)))))))
  refine aI (cg J (aj ?_))
  obtain⟨em,hem⟩:∃em,em=x[d.ix.toNat]'(by omega):=⟨_,rfl⟩
  have hm:=hx em (by rw[hem];exact Nh _)
  have hg:x.getD d.ix.toNat 0=em:=by rw[hem];exact iC _
  rcases Decidable.em (em≤d.at_) with hC|hC
  ·refine bj 9 [44] (by kernel_rfl) (by kernel_rfl) ?_
   refine ax J J (al J J (fun w hw=>bd) (ap J J (fun w hw=>ai ME J (hw.cell_some (x11.cell_some (k4.cell (i:=1) J)))) ?_))
   have e4:=(x3.trans x4).trans x11
   obtain⟨a39,c39,p39,q39,h39⟩:=cP (P:=Tryz.prog) (sz:=3) MK (by kernel_rfl) gy (by omega) (hz.ext e4) (i:=d.ix.toNat) (by omega) .i64
   rw[Int.toNat_of_nonneg hi0] at p39
   rw[←hem] at h39
   obtain⟨x39_0,x39_1,rfl,f39_0,f39_1⟩:=dO h39
   refine aK J J J (fun w _=>p39 w) (ap J J (fun w hw=>(q39.ext hw).ld MC J ag) (al J J (fun w hw=>cE) (ap J J (fun w hw=>((k4.ext x11).ext hw).ldO (ms:=[B d.at_.sg,da,db]) (o:=2) (ef J) MC J ag) (ec (S:=Is (I (f6 em d.at_))) ee (bi.is _) J J J (fun w hw=>jU ((aU.mk f39_0 f39_1).ext hw) ((aU.mk (ja.ext e4) (jb.ext e4)).ext hw) (by omega)) (bC J J J (fun w _=>bF (Bx.2 hC) iw) (bA ?_))))))
   rintro wg7 xg7 _ rfl
   refine aa J J (aI (aD (bK (a0 (aF J J ?_)))))
   exact⟨_,J,(e4.trans xg7),by show B _=B _;unfold kU;rw[if_neg (by omega),if_pos hk,hg,decide_eq_true hC]⟩
  ·refine bj 9 [44] (by kernel_rfl) (by kernel_rfl) ?_
   refine ax J J (al J J (fun w hw=>bd) (ap J J (fun w hw=>ai ME J (hw.cell_some (x11.cell_some (k4.cell (i:=1) J)))) ?_))
   have e5:=(x3.trans x4).trans x11
   obtain⟨a39,c39,p39,q39,h39⟩:=cP (P:=Tryz.prog) (sz:=3) MK (by kernel_rfl) gy (by omega) (hz.ext e5) (i:=d.ix.toNat) (by omega) .i64
   rw[Int.toNat_of_nonneg hi0] at p39
   rw[←hem] at h39
   obtain⟨x39_0,x39_1,rfl,f39_0,f39_1⟩:=dO h39
   refine aK J J J (fun w _=>p39 w) (ap J J (fun w hw=>(q39.ext hw).ld MC J ag) (al J J (fun w hw=>cE) (ap J J (fun w hw=>((k4.ext x11).ext hw).ldO (ms:=[B d.at_.sg,da,db]) (o:=2) (ef J) MC J ag) (ec (S:=Is (I (f6 em d.at_))) ee (bi.is _) J J J (fun w hw=>jU ((aU.mk f39_0 f39_1).ext hw) ((aU.mk (ja.ext e5) (jb.ext e5)).ext hw) (by omega)) (bC J J J (fun w _=>be (fun h=>hC (Bx.1 h)) iw) (bA ?_))))))
   rintro wg7 xg7 _ rfl
   refine aa J J (aI (aD (bK (a0 (aF J J ?_)))))
   exact⟨_,J,(e5.trans xg7),by show B _=B _;unfold kU;rw[if_neg (by omega),if_pos hk,hg,decide_eq_false hC]⟩
 ·refine ae (ao J J J (be (by omega) aO) (aa J J (aI (bU J (bc (ao J J J (be (by omega) aO) (aa J J ?_)))))))
  refine aI (bU J (aA (aW (ah (bc (af J J (bG) (ak J J ((k3.ext (x4.trans x11)).ldO (ms:=[I q.g.inp,qu,qo]) (o:=0) (ef J) MX J dg) ?_)))))))
  have e6:=(x3.trans x4).trans x11
  refine ab J J (aq t6 J J ((by have h:=t8 (bQ.mk (jP (iu.ext e6) (io.ext e6))) (hz.ext e6) hs.g hl hx;rw[←hV] at h;exact h)) ?_)
  rintro v49 w49 ⟨x49,⟨u49_a,_,rfl,b49_a,rfl⟩⟩
  refine ab J J (aB J J cY (aB J J cZ (aa J J (aa J J (aI (aj (bc (af J J (bW) (ak J J (ai ME J ((x11.trans x49).cell_some (k4.cell (i:=0) J))) (ao J J J (bF hk aO) (aI (cg J (aj ?_)))))))))))))
  obtain⟨em,hem⟩:∃em,em=V[d.ix.toNat]'(by omega):=⟨_,rfl⟩
  have hm:=hpb em (by rw[hem];exact Nh _)
  have hg:V.getD d.ix.toNat 0=em:=by rw[hem];exact iC _
  rcases Decidable.em (0≤em) with hC|hC
  ·refine ae (ab J J (af J J (bd) (ak J J (ai ME J ((x11.trans x49).cell_some (k4.cell (i:=1) J))) ?_)))
   obtain⟨a58,c58,p58,q58,h58⟩:=cP (P:=Tryz.prog) (sz:=3) MK (by kernel_rfl) gy (by omega) b49_a (i:=d.ix.toNat) (by omega) .i64
   rw[Int.toNat_of_nonneg hi0] at p58
   rw[←hem] at h58
   obtain⟨x58_0,x58_1,rfl,f58_0,f58_1⟩:=dO h58
   refine aE J J J (p58 _) (ak J J (q58.ld MC J ag) (aq f9 J J (mH (aU.mk f58_0 f58_1) (by omega)) ?_))
   rintro v60 w60 ⟨x60,rfl⟩
   refine ao J J J (bF (jZ.2 hC) cz) (aa J J (aI (aD (a0 (aF J J ?_)))))
   exact⟨_,J,((((x3.trans x4).trans x11).trans x49).trans x60),by show B _=B _;unfold kU;rw[if_neg (by omega),if_neg (by omega),if_pos hk,←hV,hg,decide_eq_true hC]⟩
  ·refine ae (ab J J (af J J (bd) (ak J J (ai ME J ((x11.trans x49).cell_some (k4.cell (i:=1) J))) ?_)))
   obtain⟨a58,c58,p58,q58,h58⟩:=cP (P:=Tryz.prog) (sz:=3) MK (by kernel_rfl) gy (by omega) b49_a (i:=d.ix.toNat) (by omega) .i64
   rw[Int.toNat_of_nonneg hi0] at p58
   rw[←hem] at h58
   obtain⟨x58_0,x58_1,rfl,f58_0,f58_1⟩:=dO h58
   refine aE J J J (p58 _) (ak J J (q58.ld MC J ag) (aq f9 J J (mH (aU.mk f58_0 f58_1) (by omega)) ?_))
   rintro v60 w60 ⟨x60,rfl⟩
   refine ao J J J (be (fun h=>hC (jZ.1 h)) cz) (aa J J (aI (aD (a0 (aF J J ?_)))))
   exact⟨_,J,((((x3.trans x4).trans x11).trans x49).trans x60),by show B _=B _;unfold kU;rw[if_neg (by omega),if_neg (by omega),if_pos hk,←hV,hg,decide_eq_false hC]⟩
 ·refine ae (ao J J J (be (by omega) aO) (aa J J (aI (bU J (bc (ao J J J (be (by omega) aO) (aa J J ?_)))))))
  refine aI (bU J (aA (aW (ah (bc (af J J (bG) (ak J J ((k3.ext (x4.trans x11)).ldO (ms:=[I q.g.inp,qu,qo]) (o:=0) (ef J) MX J dg) (ab J J (aq t6 J J ((by have h:=t8 (bQ.mk (jP (iu.ext ((x3.trans x4).trans x11)) (io.ext ((x3.trans x4).trans x11)))) (hz.ext ((x3.trans x4).trans x11)) hs.g hl hx;rw[←hV] at h;exact h)) ?_)))))))))
  rintro v49 w49 ⟨x49,⟨u49_a,_,rfl,b49_a,rfl⟩⟩
  refine ab J J (aB J J cY (aB J J cZ (aa J J (aa J J (aI (aj (bc (af J J (bW) (ak J J (ai ME J ((x11.trans x49).cell_some (k4.cell (i:=0) J))) (ao J J J (be (by omega) aO) (ar (ah (bU J (aA (ah (aj ?_))))))))))))))))
  obtain⟨em,hem⟩:∃em,em=V[d.ix.toNat]'(by omega):=⟨_,rfl⟩
  have hm:=hpb em (by rw[hem];exact Nh _)
  have hg:V.getD d.ix.toNat 0=em:=by rw[hem];exact iC _
  rcases Decidable.em (em≤0) with hC|hC
  ·refine ae (ab J J (af J J (bd) (ak J J (ai ME J ((x11.trans x49).cell_some (k4.cell (i:=1) J))) ?_)))
   obtain⟨a65,c65,p65,q65,h65⟩:=cP (P:=Tryz.prog) (sz:=3) MK (by kernel_rfl) gy (by omega) b49_a (i:=d.ix.toNat) (by omega) .i64
   rw[Int.toNat_of_nonneg hi0] at p65
   rw[←hem] at h65
   obtain⟨x65_0,x65_1,rfl,f65_0,f65_1⟩:=dO h65
   refine aE J J J (p65 _) (ak J J (q65.ld MC J ag) (aq f9 J J (mH (aU.mk f65_0 f65_1) (by omega)) ?_))
   rintro v67 w67 ⟨x67,rfl⟩
   refine ao J J J (bF (jY.2 hC) iw) (aa J J (aI (aD (aF J J ?_))))
   exact⟨_,J,((((x3.trans x4).trans x11).trans x49).trans x67),by show B _=B _;unfold kU;rw[if_neg (by omega),if_neg (by omega),if_neg (by omega),←hV,hg,decide_eq_true hC]⟩
  ·refine ae (ab J J (af J J (bd) (ak J J (ai ME J ((x11.trans x49).cell_some (k4.cell (i:=1) J))) ?_)))
   obtain⟨a65,c65,p65,q65,h65⟩:=cP (P:=Tryz.prog) (sz:=3) MK (by kernel_rfl) gy (by omega) b49_a (i:=d.ix.toNat) (by omega) .i64
   rw[Int.toNat_of_nonneg hi0] at p65
   rw[←hem] at h65
   obtain⟨x65_0,x65_1,rfl,f65_0,f65_1⟩:=dO h65
   refine aE J J J (p65 _) (ak J J (q65.ld MC J ag) (aq f9 J J (mH (aU.mk f65_0 f65_1) (by omega)) ?_))
   rintro v67 w67 ⟨x67,rfl⟩
   refine ao J J J (be (fun h=>hC (jY.1 h)) iw) (aa J J (aI (aD (aF J J ?_))))
   exact⟨_,J,((((x3.trans x4).trans x11).trans x49).trans x67),by show B _=B _;unfold kU;rw[if_neg (by omega),if_neg (by omega),if_neg (by omega),←hV,hg,decide_eq_false hC]⟩
theorem s5 {w:World} {s:eX} {x:List Rat} {v u:Value} (hv:bQ ro s v w) (hu:cF dQ x u w) (hs:n7 s.q) (hp:∀d∈s.pa,i9 s.q d) (hl:(x.length:Int)=s.q.g.inp) (hx:∀y∈x,bt y≤100):
 Calls Tryz.prog 18 #[v,u] w (cA fun r w'=>aH w w'∧Is (B (z7 s x)) r w'):=by
 obtain⟨_,rfl,ra⟩:=hv
 obtain⟨su,so,sl,sh,sr,st,sm,sn,sp,sq,rfl,iu,io,il,ih,ir,it,im,jn,ip,iq⟩:=d7 ra
 have hlen:=ip.len
 refine enter (vs:=[.agg #[I s.q.g.inp,su,so,sl,sh,sr,st,B s.q.go.ct.sg,sm,sn,sp,sq],u]) Tryz.func18 J J J (bc (cj J J fun g2 w2 l2 x2 k2=>(aa J J (aI (aj (aj ?_))))))
 cases hin:KJ s.q.r x
 ·refine ae (af J J (bz) (ak J J (k2.ldO (ms:=[I s.q.g.inp,su,so,sl,sh,sr,st,B s.q.go.ct.sg,sm,sn]) (o:=0) (ef J) MU J cV) ?_))
  refine aq oX J J (oY (bQ.mk (gr (iu.ext x2) (io.ext x2) (il.ext x2) (ih.ext x2) (ir.ext x2) (it.ext x2) (im.ext x2) (jn.ext x2))) hs) ?_
  rintro v8 w8 ⟨x8,rfl⟩
  have e1:=x2.trans x8
  refine cC J J cn (ab J J (an J (ab J J (an J (bn J J (bB MK (hu.ext e1)) (an J (af J J (bz) (an J (af J J (bG) (an J (af J J (bS) (an J (ak J J (ai ME J (x8.cell_some (k2.cell (i:=0) J))) (an J (ao J J J (be (by omega) fg) (aG J J J (ab J J (an J (af J J (bz) (an J (af J J (f8) (an J (ak J J ((k2.ext x8).ldO (ms:=[sl,sh,sr]) (o:=3) (ef J) M1 J dM) (an J (ab J J (an J (aq wR J J ((by have h:=wS (bQ.mk (pR (il.ext e1) (ih.ext e1) (ir.ext e1))) (hu.ext e1) hs.r hl hx;rw[hin] at h;exact h)) ?_)))))))))))))))))))))))))))
  rintro v24 w24 ⟨x24,rfl⟩
  refine an J (cC J J cn (aG J J J (aI (cg J (bc (aa J J (aI (aD (a0 (aF J J ?_))))))))))
  exact⟨_,J,(e1.trans x24),by show B _=B _;unfold z7;rw[hin];rfl⟩
 ·refine ae (af J J (bz) (ak J J (k2.ldO (ms:=[I s.q.g.inp,su,so,sl,sh,sr,st,B s.q.go.ct.sg,sm,sn]) (o:=0) (ef J) MU J cV) ?_))
  refine aq oX J J (oY (bQ.mk (gr (iu.ext x2) (io.ext x2) (il.ext x2) (ih.ext x2) (ir.ext x2) (it.ext x2) (im.ext x2) (jn.ext x2))) hs) ?_
  rintro v8 w8 ⟨x8,rfl⟩
  have e2:=x2.trans x8
  refine cC J J cn (ab J J (an J (ab J J (an J (bn J J (bB MK (hu.ext e2)) (an J (af J J (bz) (an J (af J J (bG) (an J (af J J (bS) (an J (ak J J (ai ME J (x8.cell_some (k2.cell (i:=0) J))) (an J (ao J J J (be (by omega) fg) (aG J J J (ab J J (an J (af J J (bz) (an J (af J J (f8) (an J (ak J J ((k2.ext x8).ldO (ms:=[sl,sh,sr]) (o:=3) (ef J) M1 J dM) (an J (ab J J (an J (aq wR J J ((by have h:=wS (bQ.mk (pR (il.ext e2) (ih.ext e2) (ir.ext e2))) (hu.ext e2) hs.r hl hx;rw[hin] at h;exact h)) ?_)))))))))))))))))))))))))))
  rintro v24 w24 ⟨x24,rfl⟩
  refine an J (cC J J cn (aG J J J (aI (bU J (aA (ah (aj (bc (aa J J (aI (aJ (dS (α:=Nat) (fun i=>[(1,u),(2,.pointer (some ⟨g2,0,none⟩)),(5,I (i:Int))]) (fun i w'=>aH w2 w'∧i≤s.pa.length∧(s.pa.take i).all (fun d=>kU s.q d x)=true) (fun i=>s.pa.length-i) (0) ⟨J,J,J,trivial⟩ ⟨(x8.trans x24),by omega,J⟩ ?_))))))))))))
  rintro i wL ⟨eL,hi,hall⟩
  refine aj (bc (ab J J (af J J (cx) (ak J J (ai MO J (eL.cell_some (k2.cell (i:=10) J))) (bn J J (bB MO (ip.ext (x2.trans eL))) (ao J J J (aX) (aI (ci J (fun h31=>?_) (fun h31=>?_)))))))))
  ·refine aA (ah (aj (aJ (aj ?_))))
   obtain⟨em,hem⟩:∃em,em=s.pa[i]'(by omega):=⟨_,rfl⟩
   have hfm:=hp em (by rw[hem];exact Nh _)
   cases hh:kU s.q em x
   ·refine bj 9 [1,2,5,42] (by kernel_rfl) (by kernel_rfl) ?_
    refine al J J (fun w hw=>bz) (ap J J (fun w hw=>((k2.ext eL).ext hw).ldO (ms:=[I s.q.g.inp,su,so,sl,sh,sr,st,B s.q.go.ct.sg,sm,sn]) (o:=0) (ef J) MU J cV) (al J J (fun w hw=>cx) (ap J J (fun w hw=>ai MO J (hw.cell_some (eL.cell_some (k2.cell (i:=10) J)))) (ax J J ?_))))
    obtain⟨a39,c39,p39,q39,h39⟩:=cP (P:=Tryz.prog) (sz:=5) MO (by kernel_rfl) kI (by omega) (ip.ext (x2.trans eL)) (i:=i) (by omega) .i64
    rw[←hem] at h39
    obtain⟨x39_0,x39_1,rfl,f39_0,f39_1⟩:=gn h39
    refine aK J J J (fun w _=>p39 w) (ap J J (fun w hw=>(q39.ext hw).ld MW J cH) (ax J J (bZ (S:=Is (B false)) uL (bi.is _) J (fun w hw=>by rintro _ rfl _ rfl _ rfl;exact(by have h:=uM ((bQ.mk (gr (iu.ext (x2.trans eL)) (io.ext (x2.trans eL)) (il.ext (x2.trans eL)) (ih.ext (x2.trans eL)) (ir.ext (x2.trans eL)) (it.ext (x2.trans eL)) (im.ext (x2.trans eL)) (jn.ext (x2.trans eL)))).ext hw) ((bQ.mk (lf f39_0 f39_1)).ext hw) ((hu.ext (x2.trans eL)).ext hw) hfm hs hl hx;rw[hh] at h;exact h)) (bA ?_))))
    rintro wg6 xg6 _ hq1
    obtain rfl:=Eq.symm hq1
    rintro _ rfl _ rfl _ rfl
    refine cC J J cn (aI (cg J (bc (aa J J (aI (aD (bK (a0 (a0 (bK (a0 (aF J J ?_))))))))))))
    exact⟨_,J,((x2.trans eL).trans xg6),by show B _=B _;unfold z7;rw[EU (P:=fun d=>kU s.q d x) (i:=i) (by omega) (by rw[←hem];exact hh),Bool.and_false]⟩
   ·refine bj 9 [1,2,5,42] (by kernel_rfl) (by kernel_rfl) ?_
    refine al J J (fun w hw=>bz) (ap J J (fun w hw=>((k2.ext eL).ext hw).ldO (ms:=[I s.q.g.inp,su,so,sl,sh,sr,st,B s.q.go.ct.sg,sm,sn]) (o:=0) (ef J) MU J cV) (al J J (fun w hw=>cx) (ap J J (fun w hw=>ai MO J (hw.cell_some (eL.cell_some (k2.cell (i:=10) J)))) (ax J J ?_))))
    obtain⟨a39,c39,p39,q39,h39⟩:=cP (P:=Tryz.prog) (sz:=5) MO (by kernel_rfl) kI (by omega) (ip.ext (x2.trans eL)) (i:=i) (by omega) .i64
    rw[←hem] at h39
    obtain⟨x39_0,x39_1,rfl,f39_0,f39_1⟩:=gn h39
    refine aK J J J (fun w _=>p39 w) (ap J J (fun w hw=>(q39.ext hw).ld MW J cH) (ax J J (bZ (S:=Is (B true)) uL (bi.is _) J (fun w hw=>by rintro _ rfl _ rfl _ rfl;exact(by have h:=uM ((bQ.mk (gr (iu.ext (x2.trans eL)) (io.ext (x2.trans eL)) (il.ext (x2.trans eL)) (ih.ext (x2.trans eL)) (ir.ext (x2.trans eL)) (it.ext (x2.trans eL)) (im.ext (x2.trans eL)) (jn.ext (x2.trans eL)))).ext hw) ((bQ.mk (lf f39_0 f39_1)).ext hw) ((hu.ext (x2.trans eL)).ext hw) hfm hs hl hx;rw[hh] at h;exact h)) (bA ?_))))
    rintro wg6 xg6 _ hq1
    obtain rfl:=Eq.symm hq1
    rintro _ rfl _ rfl _ rfl
    refine cC J J cn (aI (bU J (aA (aW (ah (ae (ab J J (ao (r:=I ((i+1:Nat):Int)) J J J (by have e:((i+1:Nat):Int)=(i:Int)+1:=(by omega);rw[e];exact aY) (aa J J (ar (dC (i+1) ⟨J,J,J,trivial⟩ ⟨(eL.trans xg6),by omega,BJ (by omega) hall (by rw[←hem];exact hh)⟩ (by omega))))))))))))
  ·refine bJ (aV (aV (bP (ah (bc (aa J J (aI (aD (aF J J ?_)))))))))
   obtain rfl:i=s.pa.length:=by omega
   rw[List.take_length] at hall
   exact⟨_,J,(x2.trans eL),by show B _=B _;unfold z7;rw[hin,hall];rfl⟩
end Go.Rl
namespace Go.Rl
open Go.RowKit Go.Proofs
section
variable {w w':World} {g:Nat} {raw:List UInt8} {va:Value}
theorem eQ {w0 w1 w2:World} {gF:Nat} {row:Option Nat} (h:w0.grownBy w1 (some gF)) (q:w1.grownBy w2 row) (hr:∀k,row=some k→w0.heap.size≤k):w0.grownBy w2 (some gF):=
 ⟨q.os.trans h.os,q.tape.trans h.tape,q.output.trans h.output,Nat.le_trans h.size q.size,fun i hi hne=>
  (q.block i (Nk hi h.size) (fun e=>by have:=hr i e.symm;omega)).trans (h.block i hi hne)⟩
theorem dc {a:Int} (h:lP raw va w) (k:dE g 204 [va,I a] w) (q:w.grownBy w' (some g)):lP raw va w':=by
 have hv:∃A n c,va=.slice A n c:=by obtain⟨A,n,c,rfl,_⟩:=h;exact⟨A,n,c,rfl⟩
 obtain⟨A,n,c,rfl⟩:=hv
 refine Sl.keep h k (fun j u hu=>?_) q
 obtain⟨x,_,rfl⟩:=List.mem_map.1 hu
 match j with
 |0=>simp[U8]
 |1=>simp[U8,I]
 |j+2=>simp
theorem lL (h:lP raw va w):kd va=3:=by obtain⟨A,n,c,rfl,_⟩:=h;rfl
theorem lP.kd (h:lP raw va w):kd va=3:=lL h
def hJ (raw:List UInt8) (va:Value) (g:Nat) (w:World):Prop:=∃a:Nat,dE g 204 [va,I (a:Int)] w∧a≤raw.length
theorem hJ.stable:el (hJ raw va g):=fun _ _ ⟨a,k,h⟩ hx=>⟨a,k.ext hx,h⟩
theorem xy {a:Int} (k:dE g 204 [va,I a] w) (h:lP raw va w) (q:w.grownBy w' (some g)):Kg [3,2] g w w':=⟨q,Kq.of k (ac (lL h) (ac rfl aT)) (by decide) q⟩
theorem qs {P:Program} {f:FuncId} {vs:Array Value} {S:dn} {w0:World} {a:Int} (k:dE g 204 [va,I a] w0) (hb:lP raw va w0) (hw:Kg [3,2] g w0 w)
 (h:∀b:Nat,dE g 204 [va,I (b:Int)] w→lP raw va w→b≤raw.length→Calls P f vs w (cA fun r w'=>w.grownBy w' (some g)∧hJ raw va g w'∧S r w')) (hz:hJ raw va g w):
 Calls P f vs w (fun e w'=>(∃v,e=.returned v∧Kg [3,2] g w w'∧S v w'∧hJ raw va g w')∨∃c,e=.panicked c∧AD c w'):=by
 obtain⟨b,kb,hl⟩:=hz
 have hb':=dc hb k hw.q
 refine(h b kb hb' hl).mono ?_
 rintro e w' ⟨v,rfl,h1,h2,h3⟩
 exact .inl ⟨v,J,xy kb hb' h1,h3,h2⟩
theorem BK {α:Type} {Q:α→Prop} {F:α→dn} {P:Program} {f:FuncId} {vs:Array Value} (a:α) (ha:Q a) (h:Calls P f vs w (cA fun r w'=>aH w w'∧F a r w')):Calls P f vs w (cA fun r w'=>aH w w'∧qq Q F r w'):=
 h.mono fun _ _ ⟨v,e,h1,h2⟩=>⟨v,e,h1,a,ha,h2⟩
end
end Go.Rl
namespace Go.Rl
open Go.RowKit Go.Proofs
theorem eU:az Tryz.prog 64:=⟨_,Tryz.func64,by kernel_rfl,rfl⟩
theorem ko:az Tryz.prog 65:=⟨_,Tryz.func65,by kernel_rfl,rfl⟩
theorem nd:az Tryz.prog 133:=⟨_,Tryz.func133,by kernel_rfl,rfl⟩
theorem z8:az Tryz.prog 131:=⟨_,Tryz.func131,by kernel_rfl,rfl⟩
theorem LB {x:UInt8} {n:Int} (h:0<n):∃k:Nat,((x.toNat:Int)%n)=k∧(k:Int)<n:=by
 have h1:=Int.emod_nonneg (x.toNat:Int) (show n≠0 by omega)
 have h2:=Int.emod_lt_of_pos (x.toNat:Int) h
 exact⟨((x.toNat:Int)%n).toNat,by omega,by omega⟩
theorem eV {w:World} {raw:List UInt8} {va:Value} {gF a:Nat} {n:Int} (k:dE gF 204 [va,I (a:Int)] w) (hb:lP raw va w) (ha:a≤raw.length) (hn:0<n):
 Calls Tryz.prog 64 #[.pointer (some ⟨gF,0,none⟩),I n] w (cA fun r w'=>w.grownBy w' (some gF)∧hJ raw va gF w'∧∃k:Nat,(k:Int)<n∧r=I (k:Int)):=by
 have hlen:=hb.len
 have hka:=lL hb
 refine enter Tryz.func64 J J J (bc (aa J J (aI (aj (aj (bj 9 [0,1,8,13] (by kernel_rfl) (by kernel_rfl) (ax J J (mf J J (al J J (fun w hw=>fq) (ap J J (fun w hw=>ai ME J (hw.cell_some (k.cell (i:=1) J))) (ax J J (mf J J (al J J (fun w hw=>ju) (ap J J (fun w hw=>ai M5 J (hw.cell_some (k.cell (i:=0) J))) (mg (vs:=[va]) J J (fun w hw=>og (hb.ext hw)) (bA ?_))))))))))))))))
 rintro wg1 xg1 _ rfl _ rfl _ rfl _ rfl
 refine ao J J J (cz) (aI (ci J (fun h14=>?_) (fun h14=>?_)))
 ·refine bc (aa J J (aI (aD (a0 (aF J J ?_)))))
  exact⟨_,J,(Nd (Nf _ _) (aZ xg1)),⟨a,(k.ext xg1),by omega⟩,0,by omega,J⟩
 ·refine aA (ah (bc (ab J J (dY J J (af J J (fq) ?_)))))
  refine ak J J (ai ME J (xg1.cell_some (k.cell (i:=1) J))) (ao (r:=I ((a+1:Nat):Int)) J J J (by have e:((a+1:Nat):Int)=(a:Int)+1:=(by omega);rw[e];exact aY) (dY J J (af J J (fq) (iD J J (k.ext xg1) jS J J fun w3_7 q3_7 k3_7=>?_))))
  have hb1:=dc hb k ((Nd (Nd (Nf _ _) (aZ xg1)) q3_7))
  refine aI (aj (bj 14 [35] (by kernel_rfl) (by kernel_rfl) (ax J J (mf J J (al J J (fun w hw=>ju) (ap J J (fun w hw=>ai M5 J (hw.cell_some (k3_7.cell (i:=0) J))) (ax J J (mf J J (al J J (fun w hw=>fq) (ap J J (fun w hw=>ai ME J (hw.cell_some (k3_7.cell (i:=1) J))) (bC (r:=I ((a:Nat):Int)) J J J (fun w _=>by have e:((a:Nat):Int)=((a+1:Nat):Int)-1:=(by omega);rw[e];exact bT) ?_)))))))))))
  obtain⟨a31,p31,q31⟩:=Ko hb1 (i:=(a:Nat)) (by omega) .i64
  refine aK J J J (fun w _=>p31 w) ?_
  obtain⟨kr,hk1,hk2⟩:=LB (x:=raw[a]'(by omega)) hn
  refine ap J J (fun w hw=>ai MZ J (hw.cell_some q31)) (kZ J J (fun w _=>od MZ ME) (ax J J (bC J J J (fun w _=>oc (by omega) (by omega)) (bA ?_))))
  rintro wg4 xg4 _ rfl
  refine aa J J (aI (aD (aF J J ?_)))
  exact⟨_,J,(Nd (Nd (Nd (Nf _ _) (aZ xg1)) q3_7) (aZ xg4)),⟨a+1,k3_7.ext xg4,by omega⟩,kr,hk2,by rw[←hk1]⟩
theorem arr4 {r:Nat} (h:(r:Int)<4):∃d:Int,(d=1∨d=2∨d=4)∧[I 1,I 1,I 2,I 4][r]? =some (I d):=by
 rcases r with _|_|_|_|r
 ·exact⟨1,.inl J,J⟩
 ·exact⟨1,.inl J,J⟩
 ·exact⟨2,.inr (.inl J),J⟩
 ·exact⟨4,.inr (.inr J),J⟩
 ·omega
theorem Iw {a d:Int} (h1: -4≤a) (h2:a≤4) (h3:d=1∨d=2∨d=4):bt (mkRat a d.natAbs)≤4:=by
 have e:bl 4=3:=by decide
 refine xW (k:=3) (by omega) ?_ ?_
 ·rw[←e];exact jg (by omega)
 ·rw[←e];exact jg (by omega)
theorem kt {w:World} {raw:List UInt8} {va:Value} {gF a:Nat} (k:dE gF 204 [va,I (a:Int)] w) (hb:lP raw va w) (ha:a≤raw.length):
 Calls Tryz.prog 65 #[.pointer (some ⟨gF,0,none⟩)] w (cA fun r w'=>w.grownBy w' (some gF)∧hJ raw va gF w'∧∃c:Rat,bt c≤4∧QV c r w'):=by
 have hka:=lL hb
 refine enter Tryz.func65 J J J (bc (ce bv J fun g2 w2 l2 x2 k2=>(dR (ab J J (aq eU J J ((eV (n:=9) (k.ext x2) (dc hb k ((Nd (Nf _ _) (aZ x2)))) ha (by omega))) ?_)))))
 rintro v7 w7 ⟨q7,⟨a7,k7,l7⟩,r7,hr7,rfl⟩
 refine ao (r:=I ((r7:Int)-4)) J J J (by have e:((r7:Int)-4:Int)=(r7:Int)-4:=(by omega);rw[e];exact bT) (bV (vs:=[(0,I 1),(1,I 1),(2,I 2),(3,I 4)]) J J (run_build _ _ _ #[I 1,I 1,I 2,I 4] (by kernel_rfl)) (ab J J (aq eU J J ((eV (n:=4) k7 (dc hb k ((Nd (Nd (Nf _ _) (aZ x2)) q7))) l7 (by omega))) ?_)))
 rintro v11 w11 ⟨q11,⟨a11,k11,l11⟩,r11,hr11,rfl⟩
 obtain⟨d12,hd12,he12⟩:=arr4 hr11
 refine sC J J J (L3 (P:=Tryz.prog) (n:=4) Tryz.underlying207 (by kernel_rfl) ME (l:=[I 1,I 1,I 2,I 4]) (i:=r11) (by omega) .i64 he12) (aq wq J J ((wv (a:=(r7:Int)-4) (b:=d12) (by omega) (by omega) (by omega) (by omega))) ?_)
 rintro v13 w13 ⟨x13,⟨_,_,rfl,⟨x13_a_0,x13_a_1,rfl,f13_a_0,f13_a_1⟩,rfl⟩⟩
 refine ab J J (aB J J cY (aB J J cZ (ce bv J fun g3 w3 l3 x3 k3=>bD J J k3 J ag (am.cons J (am.cons f13_a_0.one (am.cons f13_a_1.one am.nil))) fun w1_12 q1_12 k1_12=>?_)))
 have x1_12:=aH.of_new (x3) q1_12 l3
 refine aa J J (dR (ak J J (k1_12.ld MC J ag) ?_))
 have j1_k2:=((((k2.other q7 fun e=>by have h1:=k.lt;have h2:=l2;have h4:=Nc e;omega).other q11 fun e=>by have h1:=k.lt;have h2:=l2;have h4:=Nc e;omega).ext x13).ext x1_12)
 refine bD J J j1_k2 J ag (am.cons J (am.cons f13_a_0.one (am.cons f13_a_1.one am.nil))) fun w2_1 q2_1 k2_1=>?_
 have m2_1:=Kq.of1 (p:=[0,3,3]) j1_k2 (ac rfl (ac rfl (ac rfl aT))) q2_1
 refine aI (aD (bp J (.cell J (k2_1.ld MC J ag) .nil) ?_))
 have j2_k11:=(((k11.ext x13).ext x1_12).other q2_1 fun e=>by have h1:=k.lt;have h2:=l2;have h4:=Nc e;omega)
 exact⟨_,J,(eQ (Nd (Nd (Nd (Nd (Nd (Nf _ _) (aZ x2)) q7) q11) (aZ x13)) (aZ x1_12)) q2_1 fun k e=>by have h1:=Nc e;have h2:=l2;omega),⟨a11,j2_k11,l11⟩,_,Iw (by omega) (by omega) hd12,(aU.mk ((f13_a_0.ext x1_12).kq m2_1) ((f13_a_1.ext x1_12).kq m2_1))⟩
end Go.Rl
namespace Go.Rl
open Go.RowKit Go.Proofs
section
variable {α:Type} {f:α→Dt} {l:List α} {v u u':Value} {w w':World} {e:TypeId} {p q:List Nat} {base:Nat}
theorem bh.grew [s:pg f] (hoff:∀a,nv p (f a)) (h:bh e p base f l v w) (g:gi w w' u u') (m:Kq q w w') (hne:∀k,u.ownBlock=some k→v.ownBlock≠some k) (ho:nk q s.sh=true):bh e p base f l v w'∧∀k,u'.ownBlock=some k→v.ownBlock≠some k:=by
 obtain⟨⟨n,xs,h1,h2⟩,h3⟩:=h
 have hne':v.ownBlock=none∨v.ownBlock≠u.ownBlock:=by
  cases hv:v.ownBlock with
  |none=>exact .inl rfl
  |some k=>exact .inr fun e=>hne k e.symm hv
 have h4:w'.ownsRow base e p.length v n xs:=World.ownsRow.kept h1 g.grown hne'
 have hk:LU p v w':=fun k cur ty fr hk hh=>h3 k cur ty fr hk (by
  rw[←g.grown.block k (World.ownsRow.lt h1 k hk).2 (fun e=>hne k e.symm hk)];exact hh)
 have hall:∀{l:List α} {xs:List Value},bm w (l.map f) xs→bm w' (l.map f) xs:=by
  intro l
  induction l with
  |nil=>intro xs h;simpa only[List.map_nil,bm] using h
  |cons a l ih=>
   intro xs h
   simp only[List.map_cons,bm] at h⊢
   obtain⟨c1,c2,h0,h5,h6⟩:=h
   exact⟨c1,c2,h0,m.keep _ _ (en.off m.pos ho (s.ok a)) h5,ih h6⟩
 have h5:=bm.x (hall h2.rp)
 refine⟨⟨⟨n,xs,h4,?_⟩,hk⟩,fun k hk' hv=>?_⟩
 ·rcases h4.2 with h6|⟨g',cap,cur,rfl,_,hg,_⟩
  ·rw[h6.1]
   exact h5.weak fun k hk=>hk.elim (fun h=>h.elim) fun h=>by simp[Value.ownBlock] at h
  ·refine(dF.rp hg (hk g' cur _ _ J hg) (dF.of fun a _=>hoff a) h5).weak fun k hk=>.inl ?_
   exact hk.elim (fun h=>h.elim) fun h=>.inr (by simpa [Value.ownBlock] using h.symm)
 ·rcases g.own with h6|h6
  ·exact hne k (h6▸hk') hv
  ·have:=h6 k hk'
   have:=(World.ownsRow.lt h1 k hv).2
   omega
theorem bh.frd {b:Nat} (h:bh e p base f l v w) (hd:cF f l v w) (hb:b≤base):i2 b f l v w:=⟨hd,fun k hk=>Nb hb (h.ge k hk)⟩
theorem Iy {β:Type} {f':β→Dt} {l':List β} {e':TypeId} {b':Nat} (h:bh e p base f l v w) (h':bh e' q b' f' l' u w) (hT:e≠e'):∀k,u.ownBlock=some k→v.ownBlock≠some k:=fun k h1 h2=>by
 obtain⟨⟨n,xs,⟨_,h3|⟨g',cap,cur,rfl,_,hg,_⟩⟩,_⟩,_⟩:=h
 ·rw[h3.1] at h2;simp[Value.ownBlock] at h2
 ·obtain⟨⟨n,ys,⟨_,h4|⟨g2,cap2,cur2,rfl,_,hg2,_⟩⟩,_⟩,_⟩:=h'
  ·rw[h4.1] at h1;simp[Value.ownBlock] at h1
  ·obtain rfl:g'=k:=by simpa [Value.ownBlock] using h2
   obtain rfl:g2=g':=by simpa [Value.ownBlock] using h1
   rw[hg] at hg2
   injection hg2 with hg2
   injection hg2 with _ hg2
   exact hT hg2
end
def GrF (b:Nat) (g:AF):dn:=fun v w=>∃u y,v=.agg #[I g.inp,u,y]∧i2 b dZ g.us u w∧i2 b dZ g.os y w
def RgF (b:Nat) (r:CK):dn:=fun v w=>∃x y z,v=.agg #[x,y,z]∧i2 b dQ r.lo x w∧i2 b dQ r.hi y w∧i2 b dZ r.rs z w
def QyF (b:Nat) (q:ur):dn:=fun v w=>∃a1 a2 a3 a4 a5 a6 a7 a8,v=.agg #[I q.g.inp,a1,a2,a3,a4,a5,a6,B q.go.ct.sg,a7,a8]∧i2 b dZ q.g.us a1 w∧i2 b dZ q.g.os a2 w∧i2 b dQ q.r.lo a3 w∧i2 b dQ q.r.hi a4 w∧i2 b dZ q.r.rs a5 w∧cF kW q.go.ts a6 w∧bH q.go.ct.nl a7 w∧bH q.go.ct.dl a8 w
theorem Iz (x:Rat):∃y:Rat,0≤y∧bt y=bt x∧y.sg=false∧y.nl=x.nl∧y.dl=x.dl:=by
 by_cases h:x.num<0
 ·refine⟨-x,?_,jN x,?_,?_,?_⟩
  ·have h0:¬0≤x:=fun h1=>by have:=Rat.num_nonneg.2 h1;omega
   grind
  ·unfold Rat.sg;rw[Rat.neg_num];simp;omega
  ·unfold Rat.nl;rw[Rat.neg_num,Int.natAbs_neg]
  ·unfold Rat.dl;rw[Rat.neg_den]
 ·refine⟨x,?_,J,?_,J,J⟩
  ·exact Rat.num_nonneg.1 (by omega)
  ·unfold Rat.sg;simpa using h
end Go.Rl
namespace Go.Rl
open Go.RowKit Go.Proofs
theorem Gp {L:List dU} {v:Nat} {k c:Rat} (h:po (v:Int) 0 L=true):Bs ⟨L,k⟩ (ff ⟨[⟨(v:Int),1⟩],0⟩ c)=⟨L++jy (v:Int) (1*c),k⟩:=by
 unfold Bs ff sU JW
 simp only[List.flatMap_cons,List.flatMap_nil,List.append_nil,dx.mk.injEq]
 refine⟨?_,by grind⟩
 by_cases hc:(1:Rat)*c=0
 ·rw[jy,if_pos hc,List.append_nil];rfl
 ·have:jy (v:Int) (1*c)=[⟨(v:Int),1*c⟩]:=if_neg hc
  rw[this,List.foldl_cons,List.foldl_nil]
  show mI (v:Int) (1*c) L=_
  rw[Bu h (Int.le_refl _),this]
theorem JZ {L:List dU} {v:Nat} {k c:Rat} (h:po (v:Int) 0 L=true) (hL:gH L≤4*v) (hv:v≤7) (hk:bt k≤4) (hc:bt c≤4):∀i≤(ff ⟨[⟨(v:Int),1⟩],0⟩ c).ts.length,
 gH (sU L ((ff ⟨[⟨(v:Int),1⟩],0⟩ c).ts.take i))+bt k+ew (ff ⟨[⟨(v:Int),1⟩],0⟩ c)+bt (k+(ff ⟨[⟨(v:Int),1⟩],0⟩ c).ct)≤8589934592∧(sU L ((ff ⟨[⟨(v:Int),1⟩],0⟩ c).ts.take i)).length≤137438953472:=by
 have hl:=jk h (by omega)
 have e1:(1:Rat)*c=c:=by grind
 have hg:(ff ⟨[⟨(v:Int),1⟩],0⟩ c).ts=jy (v:Int) c:=by unfold ff JW;simp[e1]
 have hct:(ff ⟨[⟨(v:Int),1⟩],0⟩ c).ct=0:=by unfold ff;show(0:Rat)*c=0;grind
 have hb:ew (ff ⟨[⟨(v:Int),1⟩],0⟩ c)≤6:=by
  unfold ew
  rw[hg,hct,tY]
  have:=jW (v:Int) c
  omega
 have hk0:k+(0:Rat)=k:=by grind
 rw[hg,hct,hk0]
 intro i hi
 have hn:=eP (v:Int) c
 have key:(jy (v:Int) c).take i=[]∨(jy (v:Int) c).take i=[⟨(v:Int),c⟩]:=by
  unfold jy
  split
  ·exact .inl (by simp)
  ·cases i with
   |zero=>exact .inl rfl
   |succ i=>exact .inr (by simp)
 rcases key with e|e
 ·rw[e]
  show gH L+_+_+_≤_∧L.length≤_
  omega
 ·rw[e]
  have h1:=Ig (v:Int) c L
  have h2:=Gh (v:Int) c L
  have h3:(2*L.length+1)*bt c≤15*4:=Ns (by omega) hc
  show gH (mI (v:Int) c L)+_+_+_≤_∧(mI (v:Int) c L).length≤_
  omega
def G1 (n:Int) (f:dx):Prop:=i8 f n=true∧ew f≤100
theorem nf {w:World} {raw:List UInt8} {va:Value} {gF a n:Nat} (k:dE gF 204 [va,I (a:Int)] w) (hb:lP raw va w) (ha:a≤raw.length) (hn:n≤7):
 Calls Tryz.prog 133 #[.pointer (some ⟨gF,0,none⟩),I (n:Int)] w (cA fun r w'=>w.grownBy w' (some gF)∧hJ raw va gF w'∧qq (G1 n) (fun f=>bQ dZ f) r w'):=by
 have hka:=lL hb
 refine enter Tryz.func133 J J J (bc (ce cd J fun g4 w4 l4 x4 k4=>(dR (ab J J (aq ko J J ((kt (k.ext x4) (dc hb k ((Nd (Nf _ _) (aZ x4)))) ha)) ?_)))))
 rintro v8 w8 ⟨q8,⟨a8,k8,l8⟩,c8,hc8,x8_0,x8_1,rfl,f8_0,f8_1⟩
 refine bV (r:=.agg #[.slice none 0 0,B c8.sg,x8_0,x8_1]) J J (by obtain⟨_,_,_,rfl⟩:=f8_0.isS;obtain⟨_,_,_,rfl⟩:=f8_1.isS;exact run_build _ _ _ _ (by kernel_rfl)) (ce cd J fun g5 w5 l5 x5 k5=>bD J J k5 J ay (am.cons J (am.cons J (am.cons f8_0.one (am.cons f8_1.one am.nil)))) fun w1_4 q1_4 k1_4=>?_)
 have x1_4:=aH.of_new (x5) q1_4 l5
 refine aI (aj (bc (aa J J (aI (aJ ?_)))))
 have j1_k4:=((k4.other q8 fun e=>by have h1:=k.lt;have h2:=l4;have h4:=Nc e;omega).ext x1_4)
 refine sH (fun(v:Nat) (L:List dU) (x:Value) (p:Value) (q:Value)=>[(0,.pointer (some ⟨gF,0,none⟩)),(1,I (n:Int)),(4,.pointer (some ⟨g4,0,none⟩)),(5,.pointer (some ⟨g5,0,none⟩)),(6,I (v:Int))]) (fun(v:Nat) (L:List dU) (x:Value) (p:Value) (q:Value) w'=>Kg [3,2] gF w w'∧hJ raw va gF w'∧dE g4 51 [.slice none 0 0,B false,.slice none 0 0,.slice none 0 0] w'∧v≤n∧po (v:Int) 0 L=true∧gH L≤4*v∧dE g5 51 [x,B c8.sg,p,q] w'∧cF kW L x w'∧bH c8.nl p w'∧bH c8.dl q w') (fun(v:Nat) (L:List dU) (x:Value) (p:Value) (q:Value)=>n-v) (0) ([]) (_) (_) (_) ⟨J,J,J,J,J,trivial⟩ ⟨xy k hb ((Nd (Nd (Nd (Nf _ _) (aZ x4)) q8) (aZ x1_4))),⟨a8,(k8.ext x1_4),l8⟩,j1_k4,by omega,J,by simp[gH],k1_4,cF.nil _ _,(f8_0.ext x1_4),(f8_1.ext x1_4)⟩ ?_
 rintro v L x p q wL ⟨hK,⟨aL,kF,lF⟩,k4L,hv,hok,hbt,kL,qx,qa,qb⟩
 refine aj (aj ?_)
 have mL:=hK.m
 have qL:=hK.q
 refine ae (ab J J (ab J J (ao J J J (aX) (aI (ci J (fun h12=>?_) (fun h12=>?_))))))
 ·refine aA (ah (aj (aJ (bc (ab J J ?_)))))
  refine aq eU J J ((eV (n:=3) kF (dc hb k ((Nd (Nf _ _) qL))) lF (by omega))) ?_
  rintro v16 w16 ⟨q16,⟨a16,k16,l16⟩,r16,hr16,rfl⟩
  have m16:=Kq.of1 (p:=[3,2]) kF (ac hka (ac rfl aT)) q16
  refine ao J J J (bo) (aI (ci J (fun h17=>?_) (fun h17=>?_)))
  ·have nM6_g4:g4≠gF:=fun e=>by have h1:=k.lt;have h2:=l4;omega
   have nM6_g5:g5≠gF:=fun e=>by have h1:=k.lt;have h2:=l5;have h3:=(Nb x4.size q8.size);omega
   refine ik 7 [0,1,4,5,6,24] (Kg [3,2] gF w16) (Kg [3,2] gF) true AD (hJ raw va gF) (Kg.env (by decide) _) (Kg.refl (by decide) _) hJ.stable ⟨_,k16,l16⟩ (fun _ _ _ _ h=>h.elim) (fun _=>by kernel_rfl) (by kernel_rfl) (by kernel_rfl) ?_
   have j2_kL:=(kL.other q16 fun e=>by have h1:=k.lt;have h2:=l5;have h3:=(Nb x4.size q8.size);have h4:=Nc e;omega)
   refine ap J J (fun w hw=>(j2_kL.kg hw).ld Tryz.underlying51 J ay) (ax J J (es (S:=bQ dZ (⟨[⟨(v:Int),1⟩],0⟩)) re (nq.st (by decide)) J J (fun w hw=>rf) (ax J J (sD (S:=qq (fun c=>bt c≤4) (fun c=>QV c)) (Z':=hJ raw va gF) ko J (nq.ex fun _=>nq.rat (by decide)) (hJ.stable) J (fun w hw hz=>by rintro _ rfl;exact qs k16 (dc hb k ((Nd (Nd (Nf _ _) qL) q16))) hw (fun b kb hb hl=>kt kb hb hl) hz) (bZ (S:=qq (fun c=>bt c≤4) (fun c=>bQ dZ (ff ⟨[⟨(v:Int),1⟩],0⟩ c))) uD (nq.ex fun _=>nq.st (by decide)) J (fun w hw=>by rintro _ hu _ ⟨c,hc,hz⟩;exact BK c hc (uE hu hz (by have h1:=tY;have h2:=pp;show bt 0+(bt 1+0)+bt c≤_∧_;simp;omega))) (bZ (S:=qq (fun c=>bt c≤4) (fun c=>bQ dZ (Bs ⟨L,c8⟩ (ff ⟨[⟨(v:Int),1⟩],0⟩ c)))) yF (nq.ex fun _=>nq.st (by decide)) J (fun w hw=>by rintro _ rfl _ ⟨c,hc,hz⟩;exact BK c hc (yG (f:=⟨L,c8⟩) (bQ.kg (bQ.mk (cv (qx.kq m16) (qa.kq m16) (qb.kq m16))) hw) hz (JZ hok hbt (by omega) hc8 hc))) (bA ?_)))))))
   intro wg6 xg6 zF6
   obtain⟨aF6,kF6,lF6⟩:=zF6
   have qF6:=xg6.q
   rintro _ rfl _ rfl _ rfl _ rfl _ rfl _ ⟨c24,hc24,_,rfl,r24⟩
   rw[Gp hok] at r24
   obtain⟨y24_0,y24_1,y24_2,rfl,f24_0,f24_1,f24_2⟩:=cl r24
   have j3_j2_kL:=(j2_kL.other qF6 fun e=>by have h1:=k.lt;have h2:=l5;have h3:=(Nb x4.size q8.size);have h4:=Nc e;omega)
   refine bD J J j3_j2_kL J ay (am.cons f24_0.one (am.cons J (am.cons f24_1.one (am.cons f24_2.one am.nil)))) fun w6_7 q6_7 k6_7=>?_
   have m6_7:=Kq.of1 (p:=[3,0,3,3]) j3_j2_kL (ac qx.kd (ac rfl (ac qa.kd (ac qb.kd aT)))) q6_7
   refine ar (aW (ah (ae (ab J J (ao (r:=I ((v+1:Nat):Int)) J J J (by have e:((v+1:Nat):Int)=(v:Int)+1:=(by omega);rw[e];exact aY) (aa J J (ar ?_)))))))
   have j4_kF6:=(kF6.other q6_7 fun e=>by have h1:=k.lt;have h2:=l5;have h3:=(Nb x4.size q8.size);have h4:=Nc e;omega)
   have j5_k4L:=(((k4L.other q16 fun e=>by have h1:=k.lt;have h2:=l4;have h4:=Nc e;omega).other qF6 fun e=>by have h1:=k.lt;have h2:=l4;have h4:=Nc e;omega).other q6_7 fun e=>by have h1:=k4.lt;have h2:=l5;have h3:=q8.size;have h4:=Nc e;omega)
   refine jH (v+1) (L++jy (v:Int) (1*c24)) (_) (_) (_) ⟨J,J,J,J,J,trivial⟩ ⟨xy k hb ((eQ (Nd (Nd (Nd (Nf _ _) qL) q16) qF6) q6_7 fun k e=>by have h1:=Nc e;have h2:=l5;have h3:=(Nb x4.size q8.size);omega)),⟨aF6,j4_kF6,lF6⟩,j5_k4L,by omega,Bv hok (Int.le_refl _) (by omega),by rw[eo];have:=jW (v:Int) (1*c24);rw[show(1:Rat)*c24=c24 by grind] at this⊢;omega,k6_7,(f24_0.kq m6_7),(f24_1.kq m6_7),(f24_2.kq m6_7)⟩ (by omega)
  ·refine aA (aW (ah (ae (ab J J (ao (r:=I ((v+1:Nat):Int)) J J J (by have e:((v+1:Nat):Int)=(v:Int)+1:=(by omega);rw[e];exact aY) ?_)))))
   refine aa J J (ar ?_)
   have j6_k4L:=(k4L.other q16 fun e=>by have h1:=k.lt;have h2:=l4;have h4:=Nc e;omega)
   have j7_kL:=(kL.other q16 fun e=>by have h1:=k.lt;have h2:=l5;have h3:=(Nb x4.size q8.size);have h4:=Nc e;omega)
   refine jH (v+1) (L) (x) (p) (q) ⟨J,J,J,J,J,trivial⟩ ⟨xy k hb ((Nd (Nd (Nf _ _) qL) q16)),⟨a16,k16,l16⟩,j6_k4L,by omega,qc (by omega) hok,by omega,j7_kL,(qx.kq m16),(qa.kq m16),(qb.kq m16)⟩ (by omega)
 ·refine bJ (aV (aV (bP (ah (aj ?_)))))
  obtain rfl:v=n:=by omega
  refine ae (ak J J (kL.ld MG J ay) (bD J J k4L J ay (am.cons qx.one (am.cons J (am.cons qa.one (am.cons qb.one am.nil)))) fun w7_1 q7_1 k7_1=>?_))
  have m7_1:=Kq.of1 (p:=[3,0,3,3]) k4L (ac rfl (ac rfl (ac rfl (ac rfl aT)))) q7_1
  refine aI (aD (bp J (.cell J (k7_1.ld MG J ay) .nil) ?_))
  have j8_kF:=(kF.other q7_1 fun e=>by have h1:=k.lt;have h2:=l4;have h4:=Nc e;omega)
  exact⟨_,J,(eQ (Nd (Nf _ _) qL) q7_1 fun k e=>by have h1:=Nc e;have h2:=l4;omega),⟨aL,j8_kF,lF⟩,⟨L,c8⟩,⟨hok,by unfold ew;show bt c8+gH L≤100;omega⟩,bQ.mk (cv (a:=⟨L,c8⟩) (qx.kq m7_1) (qa.kq m7_1) (qb.kq m7_1))⟩
end Go.Rl
namespace Go.Rl
open Go.RowKit
section
variable {P:Program} {ops:Array Oper} {md:Region.Mode} {S:World→Prop} {m:Nat}
def t9 (P:Program) (md:Region.Mode) (ops:Array Oper) (Q:Exit→Act→World→Prop) (S:World→Prop) (m:Nat):Nat→Array Bool→Act→World→Prop
 |0,listed,a,w=>Region.ready md ops listed=[]∧Q .normal a w
 |fuel+1,listed,a,w=>(Region.ready md ops listed=[]→Q .normal a w)∧
  ∀i∈Region.ready md ops listed,wpOp P ops Q i (fun a' w'=>((listed.setIfInBounds i true).getD m true=false→S w')∧t9 P md ops Q S m fuel (listed.setIfInBounds i true) a' w') a w
theorem wT {Q:Exit→Act→World→Prop}:∀(fuel:Nat) (listed:Array Bool) (a:Act) (w:World),t9 P md ops Q S m fuel listed a w→wpAny P md ops Q fuel listed a w
 |0,_,_,_,h=>h
 |fuel+1,_,_,_,h=>⟨h.1,fun i hi=>wpOp_mono (fun a' w' h'=>wT fuel _ a' w' h'.2) (h.2 i hi)⟩
theorem z9 {Q:Exit→Act→World→Prop} {i:Nat} {oi:Oper} {v:Value} (hi:ops[i]? =some oi) (hsel:∀(j:Nat) (o:Oper) cs b,ops[j]? =some o→o.op≠.select cs b)
 (hQ:∀c a w,Q (.panic c) (a.put oi.dst v) w→Q (.panic c) a w) (hreach:rM md ops ops.size m i=true) (him:i≠m) (hms:m<ops.size):
 ∀(fuel:Nat) (listed:Array Bool) (a:Act) (w:World),HeadInv md ops ops.size listed→
  (∀j oj,ops[j]? =some oj→j≠i→listed.getD j true=false→(∀e∈oj.after,Region.binds md e=true→e.on≠i)→oi.apart ops oj=true)→
  i∈Region.ready md ops listed→YieldsIf P ops S oi v a→S w→
  t9 P md ops Q S m fuel (listed.setIfInBounds i true) (a.put oi.dst v) w→t9 P md ops Q S m (fuel+1) listed a w:=by
 intro fuel
 induction fuel with
 |zero=>
  intro listed a w _ _ hr hy hS H
  refine⟨fun h=>(by rw[h] at hr;cases hr),fun j hj=>?_⟩
  by_cases hji:j=i
  ·subst hji;exact hy.wpOp hi hS ⟨fun _=>hS,H⟩
  ·have:=ready_mono hj hji
   rw[H.1] at this
   cases this
 |succ fuel ih=>
  intro listed a w inv hfree hr hy hS H
  refine⟨fun h=>(by rw[h] at hr;cases hr),fun j hj=>?_⟩
  by_cases hji:j=i
  ·subst hji;exact hy.wpOp hi hS ⟨fun _=>hS,H⟩
  ·obtain⟨hjun,oj,hoj,hall⟩:=mem_ready.1 hj
   have hiun:=getD_both (mem_ready.1 hr).1
   have hjs:j<ops.size:=(Array.getElem?_eq_some_iff.1 hoj).1
   have hjm:j≠m:=fun e=>by
    subst e
    have:=lA inv _ _ hreach fun o ho e he hb=>by
     obtain rfl:o=oj:=Nc (ho.symm.trans hoj)
     exact hall e he hb
    rw[hiun] at this
    cases this
   have hmu:listed.getD m false=false:=Bool.eq_false_iff.2 fun e=>by
    have:=lA inv _ _ hreach fun o ho e' he hb=>inv.closed m o ho e e' he hb
    rw[hiun] at this
    cases this
   have hmt:((listed.setIfInBounds i true).setIfInBounds j true).getD m true=false:=by
    rw[getD_set_ne true hjm,getD_set_ne true him]
    exact getD_in (by rw[inv.size];exact hms) hmu
   have h1:=H.2 j (ready_mono hj hji)
   have hnot:∀e∈oj.after,Region.binds md e=true→e.on≠i:=fun e he hb heq=>by
    have h1:=hall e he hb
    rw[heq,hiun] at h1
    cases h1
   have h2:=wpOp_putIf hoj (hfree j oj hoj hji hjun hnot) (fun cs b=>hsel i oi cs b hi) (fun cs b=>hsel j oj cs b hoj) hQ hy h1
   refine wpOp_mono (fun a' w' h3=>⟨fun _=>h3.2.1 hmt,ih (listed.setIfInBounds j true) a' w' (inv.set hj hjs) (fun k ok hk hki hun hno=>?_) (ready_mono hr (Ne.symm hji)) h3.1 (h3.2.1 hmt) ?_⟩) h2
   ·refine hfree k ok hk hki ?_ hno
    by_cases hjk:j=k
    ·subst hjk;exact hjun
    ·rwa [getD_set_ne true hjk] at hun
   ·rw[Array.setIfInBounds_comm _ _ hji]
    exact h3.2.2
end
section
variable {P:Program} {ops:Array Oper} {Q:ie} {N:Nat} {D:List Deferred} {S:World→Prop} {m fuel:Nat} {listed:Array Bool} {l:Fr} {w:World} {d:Nat} {op:Op} {ty:TypeId} {pos:String} {aft:Array Edge}
def wU (P:Program) (ops:Array Oper) (Q:ie) (N:Nat) (D:List Deferred) (S:World→Prop) (m fuel:Nat) (listed:Array Bool) (l:Fr) (w:World):Prop:=∀a,At N D l a→t9 P .any ops (mR Q) S m fuel listed a w
def IA (P:Program) (ops:Array Oper) (Q:ie) (S:World→Prop) (m fuel:Nat) (listed:Array Bool):ie:=fun e a w=>e=.normal∧(listed.getD m true=false→S w)∧t9 P .any ops (mR Q) S m fuel listed a w
theorem J0 {id:Nat} {os:List Oper} (S:World→Prop) (m n:Nat) (hn:os.toArray.size=n) (hm:P.follows .mixedOrders=true)
 (h:wU P os.toArray Q N D S m n (Array.replicate n false) l w.drew):d5 P Q N D l w (.region id os.toArray true):=fun a ha=>by
 subst hn
 exact wp_mono (wp_region_any (Q:=mR Q) hm (wT _ _ _ _ (h a ha))) fun e a w he=>by obtain⟨rfl,h⟩:=he;exact h
def LC (ops:Array Oper) (listed:Array Bool):Bool:=decide (listed.size=ops.size)&&(List.range ops.size).all fun j=> !listed.getD j false||(match ops[j]? with|some o=>o.after.all fun e=> !Region.binds .any e||listed.getD e.on false|none=>true)
theorem Gq (h:LC ops listed=true):HeadInv .any ops ops.size listed:=by
 simp only[LC,Bool.and_eq_true,decide_eq_true_eq] at h
 refine⟨h.1,fun j oj hj hl e he hb=>?_,fun t h1 h2=>absurd h2 (by omega)⟩
 have h1:=List.all_eq_true.1 h.2 j (List.mem_range.2 (Array.getElem?_eq_some_iff.1 hj).1)
 rw[hj,hl] at h1
 simp only[Bool.not_true,Bool.false_or] at h1
 have h2:=(Array.all_eq_true'.1 h1) e he
 rw[hb] at h2
 simpa using h2
def okL (ops:Array Oper) (m:Nat) (listed:Array Bool) (i:Nat):Bool:=Jy ops listed i&&LC ops listed&&rM .any ops ops.size m i&&decide (i≠m)&&decide (m<ops.size)
theorem KK (i:Nat) {v:Value} (hi:ops[i]? =some ⟨some d,op,ty,pos,aft,none⟩) (hB:okL ops m listed i=true) (hd:Nat.blt d N=true) (hS:S w)
 (hrun:∀ρ w',rC l ρ→S w'→(execOp ρ ⟨some d,op,ty,pos,aft,none⟩).run P w'=.ok (.value v) w')
 (k:wU P ops Q N D S m fuel (listed.setIfInBounds i true) ((d,v)::l) w):wU P ops Q N D S m (fuel+1) listed l w:=fun a ha=>by
 simp only[okL,Jy,Bool.and_eq_true,decide_eq_true_eq] at hB
 obtain⟨⟨⟨⟨⟨⟨h1,h2⟩,h3⟩,h4⟩,h5⟩,h6⟩,h7⟩:=hB
 exact z9 hi (Region.noSelect_spec h1) (fun c a w h=>by obtain⟨h,_⟩:=h;cases h) h5 h6 h7 fuel listed a w (Gq h4) (Region.free_spec hi h2) (by simpa using h3) (.inl ⟨J,fun w' hw'=>hrun a.eval w' (fun x v hx=>ha.ev hx) hw'⟩) hS (k _ (ha.put hd v))
theorem wV (i:Nat) {t:TypeId} {x:Operand} {u r:Value} (hi:ops[i]? =some ⟨some d,.load t x,ty,pos,aft,none⟩) (hx:ev l x=some u) (hB:okL ops m listed i=true) (hd:Nat.blt d N=true) (hS:S w) (hrun:∀w',S w'→(Instr.loadAt t u).run P w'=.ok r w')
 (k:wU P ops Q N D S m fuel (listed.setIfInBounds i true) ((d,r)::l) w):wU P ops Q N D S m (fuel+1) listed l w:=
 KK i hi hB hd hS (fun ρ w' hρ hw'=>by
  have e:execOp ρ ⟨some d,.load t x,ty,pos,aft,none⟩=(do pure (Next.value (←Instr.loadAt t (ρ x))):Sem Next):=rfl
  rw[e,hρ x _ hx,Sem.run_bind,hrun w' hw'];rfl) k
theorem qv (i:Nat) {s:TypeId} {n:Nat} {x:Operand} {u r:Value} (hi:ops[i]? =some ⟨some d,.fieldAddr s x n,ty,pos,aft,none⟩) (hx:ev l x=some u) (hB:okL ops m listed i=true) (hd:Nat.blt d N=true) (hS:S w) (hrun:∀w',S w'→(Instr.fieldAt s u n).run P w'=.ok r w')
 (k:wU P ops Q N D S m fuel (listed.setIfInBounds i true) ((d,r)::l) w):wU P ops Q N D S m (fuel+1) listed l w:=
 KK i hi hB hd hS (fun ρ w' hρ hw'=>by
  have e:execOp ρ ⟨some d,.fieldAddr s x n,ty,pos,aft,none⟩=(do pure (Next.value (←Instr.fieldAt s (ρ x) n)):Sem Next):=rfl
  rw[e,hρ x _ hx,Sem.run_bind,hrun w' hw'];rfl) k
theorem uN (i:Nat) {o:Oper} (hr:Region.ready .any ops listed=[i]) (hi:ops[i]? =some o) (h:di P ops (IA P ops Q S m fuel (listed.setIfInBounds i true)) N D l w [o]):wU P ops Q N D S m (fuel+1) listed l w:=fun a ha=>by
 refine⟨fun h0=>absurd (hr▸h0) (by simp),fun j hj=>?_⟩
 rw[hr] at hj
 obtain rfl:j=i:=by simpa using hj
 have h:=h a ha
 unfold wpOp
 simp only[hi]
 unfold wpList at h
 split
 ·rename_i hw
  rw[if_pos hw] at h
  rcases h with h|⟨_,_,_,h,_⟩
  ·refine .inl ?_
   unfold Oper.wp at*
   generalize (execOp a.eval o).run P w=r at*
   cases r with
   |ok n w'=>
    cases n<;>simp only[Oper.upon] at h⊢
    case value u=>exact h.2
    case skip=>exact h.2
    case defer dd=>exact h.2
    case enter f args=>
     refine Calls.mono h fun e w'' he=>?_
     cases e with
     |returned u=>exact he.2
     |panicked c=>obtain⟨he,_⟩:=he;cases he
     |outgrown=>obtain⟨_,_,he,_⟩:=he;cases he
    case row row args=>exact Rows.mono h fun u w'' he=>he.2
   |halt x w'=>
    cases x<;>simp only[Oper.upon] at h⊢
    case panic u=>obtain⟨he,_⟩:=h;cases he
  ·cases h
 ·rename_i hw
  rw[if_neg hw] at h
  exact h.2
theorem wW (hS:S w) (k:wU P ops Q N D S m fuel listed l w):di P ops (IA P ops Q S m fuel listed) N D l w []:=fun a ha=>⟨rfl,fun _=>hS,k a ha⟩
theorem Ds (hm:listed.getD m true=true) (k:wU P ops Q N D S m fuel listed l w):di P ops (IA P ops Q S m fuel listed) N D l w []:=fun a ha=>⟨rfl,fun h=>(by rw[hm] at h;cases h),k a ha⟩
theorem LD (hr:Region.ready .any ops listed=[]) (h:iE Q N D l w):wU P ops Q N D S m 0 listed l w:=fun a ha=>⟨hr,rfl,h a ha⟩
end
end Go.Rl
namespace Go.Rl
open Go.RowKit Go.Proofs
theorem Du {w:World} {raw:List UInt8} {v:Value} (hv:lP raw v w) (hl:raw.length≤1000):
 Calls Tryz.prog 62 #[v] w (cA fun r w'=>aH w w'∧∃gF va,r=.pointer (some ⟨gF,0,none⟩)∧w.heap.size≤gF∧dE gF 204 [va,I ((0:Nat):Int)] w'∧lP raw va w'):=by
 refine enter Tryz.func62 J J J (bc (aa J J (dR ?_)))
 obtain⟨v3,w3,hr3,x3,o3,ob3⟩:=L0 (w:=w) w.heap.size [] (by simp) (Ng _)
 refine bN (vs:=[]) J J hr3 (ab J J ?_)
 obtain⟨v5,w5,hr5,o5,g5⟩:=KT (ty:=28) o3 (hv.ext x3) (by simp;omega) (x3).size
 have x5:=aH.of_grew (x3) g5 o3.ge
 refine df J J hr5 ?_
 obtain⟨A5,n5,c5,rfl⟩:∃A n c,v5=.slice A n c:=by obtain⟨A,n,c,h,_⟩:=o5.bts;exact⟨A,n,c,h⟩
 refine bV (r:=.agg #[.slice A5 n5 c5,I 0]) J J (run_build _ _ _ _ (by kernel_rfl)) (cj J J fun g7 w7 l7 x7 k7=>aa J J (aI (aD (aF J J ?_))))
 exact⟨_,J,x5.trans x7,g7,_,J,Nb x5.size l7,k7,by simpa using o5.bts.ext x7⟩
end Go.Rl
namespace Go.Rl
open Go.RowKit Go.Proofs
theorem IB {α:Type} {P:Nat→α→Prop} {L:List α} {c:α} (h:∀(i:Nat) (hi:i<L.length),P i L[i]) (hc:P L.length c):∀(i:Nat) (hi:i<(L++[c]).length),P i (L++[c])[i]:=fun i hi=>by
 rw[List.getElem_append]
 split
 ·exact h i _
 ·rename_i h1
  rw[List.length_append,List.length_singleton] at hi
  obtain rfl:i=L.length:=by omega
  simpa using hc
theorem wX {α:Type} {P:α→Prop} {L:List α} {c:α} (h:∀f∈L,P f) (hc:P c):∀f∈L++[c],P f:=fun f hf=>by
 rcases List.mem_append.1 hf with hf|hf
 ·exact h f hf
 ·obtain rfl:f=c:=by simpa using hf
  exact hc
theorem Aa {w:World} {raw:List UInt8} {va:Value} {gF a:Nat} (k:dE gF 204 [va,I (a:Int)] w) (hb:lP raw va w) (ha:a≤raw.length):
 Calls Tryz.prog 131 #[.pointer (some ⟨gF,0,none⟩)] w (cA fun r w'=>w.grownBy w' (some gF)∧hJ raw va gF w'∧qq zV (fun g=>GrF w.heap.size g) r w'):=by
 have hka:=lL hb
 refine enter Tryz.func131 J J J (bc (ce kK J fun g2 w2 l2 x2 k2=>(dR (ab J J (aq eU J J ((eV (n:=3) (k.ext x2) (dc hb k ((Nd (Nf _ _) (aZ x2)))) ha (by omega))) ?_)))))
 rintro v9 w9 ⟨q9,⟨a9,k9,l9⟩,r9,hr9,rfl⟩
 obtain⟨N,hN⟩:∃N,N=1+r9:=⟨_,rfl⟩
 refine ao (r:=I ((N:Nat):Int)) J J J (by have e:((N:Nat):Int)=1+(r9:Int):=(by omega);rw[e];exact aY) (bV (r:=.agg #[I ((N:Nat):Int),.slice none 0 0,.slice none 0 0]) J J (by exact run_build _ _ _ _ (by kernel_rfl)) (ce kK J fun g3 w3 l3 x3 k3=>bD J J k3 J dg (am.cons J (am.cons J (am.cons J am.nil))) fun w1_5 q1_5 k1_5=>?_))
 have x1_5:=aH.of_new (x3) q1_5 l3
 refine dR (ab J J (aq eU J J ((eV (n:=5) (k9.ext x1_5) (dc hb k ((Nd (Nd (Nd (Nf _ _) (aZ x2)) q9) (aZ x1_5)))) l9 (by omega))) ?_))
 rintro v13 w13 ⟨q13,⟨a13,k13,l13⟩,r13,hr13,rfl⟩
 refine ab J J (aq eU J J ((eV (n:=3) k13 (dc hb k ((Nd (Nd (Nd (Nd (Nf _ _) (aZ x2)) q9) (aZ x1_5)) q13))) l13 (by omega))) ?_)
 rintro v15 w15 ⟨q15,⟨a15,k15,l15⟩,r15,hr15,rfl⟩
 obtain⟨K,hK1⟩:∃K,K=1+r15:=⟨_,rfl⟩
 refine ao (r:=I ((K:Nat):Int)) J J J (by have e:((K:Nat):Int)=1+(r15:Int):=(by omega);rw[e];exact aY) (aa J J (aa J J (aI (aj (bc (aa J J (aI (aJ ?_))))))))
 have j1_k2:=((((k2.other q9 fun e=>by have h1:=k.lt;have h2:=l2;have h4:=Nc e;omega).ext x1_5).other q13 fun e=>by have h1:=k.lt;have h2:=l2;have h4:=Nc e;omega).other q15 fun e=>by have h1:=k.lt;have h2:=l2;have h4:=Nc e;omega)
 have j2_k1_5:=((k1_5.other q13 fun e=>by have h1:=k.lt;have h2:=l3;have h3:=(Nb x2.size q9.size);have h4:=Nc e;omega).other q15 fun e=>by have h1:=k.lt;have h2:=l3;have h3:=(Nb x2.size q9.size);have h4:=Nc e;omega)
 refine fi (fun(j:Nat) (L:List dx) (u:Value)=>[(0,.pointer (some ⟨gF,0,none⟩)),(2,.pointer (some ⟨g2,0,none⟩)),(3,.pointer (some ⟨g3,0,none⟩)),(4,I (r13:Int)),(5,I (K:Int)),(6,I (j:Int))]) (fun(j:Nat) (L:List dx) (u:Value) w'=>Kg [3,2] gF w w'∧hJ raw va gF w'∧dE g2 36 [I 0,.slice none 0 0,.slice none 0 0] w'∧dE g3 36 [I (N:Int),u,.slice none 0 0] w'∧j≤r13∧L.length=j∧(∀(i:Nat) (hi:i<L.length),G1 ((N+i:Nat):Int) L[i])∧pT w.heap.size L u w') (fun(j:Nat) (L:List dx) (u:Value)=>r13-j) (0) ([]) (.slice none 0 0) ⟨J,J,J,J,J,J,trivial⟩ ⟨xy k hb ((Nd (Nd (Nd (Nd (Nd (Nf _ _) (aZ x2)) q9) (aZ x1_5)) q13) q15)),⟨a15,k15,l15⟩,j1_k2,j2_k1_5,by omega,J,fun i hi=>absurd hi (by simp),bh.nil _⟩ ?_
 rintro j L u wL ⟨hK,⟨aL,kF,lF⟩,k2L,k3L,hj,hLl,hLf,hO⟩
 refine aj (aj ?_)
 have mL:=hK.m
 have qL:=hK.q
 refine ae (ab J J (ab J J (ao J J J (aX) (aI (ci J (fun h19=>?_) (fun h19=>?_))))))
 ·refine aA (ah (aj (aJ ?_)))
  have nM6_g2:g2≠gF:=fun e=>by have h1:=k.lt;have h2:=l2;omega
  have nM6_g3:g3≠gF:=fun e=>by have h1:=k.lt;have h2:=l3;have h3:=(Nb x2.size q9.size);omega
  refine ik 9 [0,2,3,4,5,6,23,30] (Kg [3,2] gF wL) (Kg [3,2] gF) true AD (hJ raw va gF) (Kg.env (by decide) _) (Kg.refl (by decide) _) hJ.stable ⟨_,kF,lF⟩ (fun _ _ _ _ h=>h.elim) (fun _=>by kernel_rfl) (by kernel_rfl) (by kernel_rfl) (al J J (fun w hw=>bX) (ap J J (fun w hw=>ai MI J (hw.cell_some (k3L.cell (i:=1) J))) (ax J J (al J J (fun w hw=>bS) (ap J J (fun w hw=>ai ME J (hw.cell_some (k3L.cell (i:=0) J))) (ax J J (bC (r:=I ((N+j:Nat):Int)) J J J (fun w _=>by have e:((N+j:Nat):Int)=(N:Int)+(j:Int):=(by omega);rw[e];exact aY) (sD (S:=qq (G1 ((N+j:Nat):Int)) (fun f=>bQ dZ f)) (Z':=hJ raw va gF) nd J (nq.ex fun _=>nq.st (by decide)) (hJ.stable) J (fun w hw hz=>by rintro _ rfl _ rfl;exact qs kF (dc hb k ((Nd (Nf _ _) qL))) hw (fun b kb hb hl=>nf (n:=N+j) kb hb hl (by omega)) hz) (dv (S:=qq (G1 ((N+j:Nat):Int)) (fun f=>cF dZ [f])) (nq.ex fun _=>nq.ds (by decide)) J (fun w hw=>by rintro _ ⟨f,hf,_,rfl,r⟩;obtain⟨v,w',h1,h2,h3⟩:=wi r;exact⟨v,w',h1,h2,f,hf,h3⟩) (bA ?_))))))))))
  intro wg6 xg6 zF6
  obtain⟨aF6,kF6,lF6⟩:=zF6
  have qF6:=xg6.q
  have mF6:=xg6.m
  rintro _ rfl _ rfl _ rfl _ rfl _ rfl _ rfl _ hq23
  obtain rfl:=Eq.symm hq23
  rintro v30 ⟨f30,hf30,x30⟩
  obtain⟨v31,w31,hr31,o31,g31⟩:=CN (ty:=34) (bh.st dK hO mF6 qF6 (aN kF hO).symm (by decide)) x30 (by simp only[List.length_cons,List.length_nil];omega) (Nb qL.size qF6.size)
  refine df J J hr31 ?_
  have m31:=((bh.st dK hO mF6 qF6 (aN kF hO).symm (by decide))).kqG g31 (by decide)
  have i3_k3L:=(k3L.other qF6 fun e=>by have h1:=k.lt;have h2:=l3;have h3:=(Nb x2.size q9.size);have h4:=Nc e;omega)
  have j4_k3L:=(i3_k3L.other g31.grown (aN i3_k3L (bh.st dK hO mF6 qF6 (aN kF hO).symm (by decide))))
  refine af J J (bX) (iD J J j4_k3L nm o31.one J fun w6_11 q6_11 k6_11=>?_)
  have m6_11:=Kq.of1 (p:=[2,3,3]) j4_k3L (ac rfl (ac hO.kd (ac rfl aT))) q6_11
  refine ar (aW (ah (ae (ab J J (ao (r:=I ((j+1:Nat):Int)) J J J (by have e:((j+1:Nat):Int)=(j:Int)+1:=(by omega);rw[e];exact aY) (aa J J (ar ?_)))))))
  have j5_kF6:=((kF6.other g31.grown (aN kF6 (bh.st dK hO mF6 qF6 (aN kF hO).symm (by decide)))).other q6_11 fun e=>by have h1:=k.lt;have h2:=l3;have h3:=(Nb x2.size q9.size);have h4:=Nc e;omega)
  have i6_k2L:=(k2L.other qF6 fun e=>by have h1:=k.lt;have h2:=l2;have h4:=Nc e;omega)
  have j7_k2L:=((i6_k2L.other g31.grown (aN i6_k2L (bh.st dK hO mF6 qF6 (aN kF hO).symm (by decide)))).other q6_11 fun e=>by have h1:=k2.lt;have h2:=l3;have h3:=q9.size;have h4:=Nc e;omega)
  refine cK (j+1) (L++[f30]) (_) ⟨J,J,J,J,J,J,trivial⟩ ⟨xy k hb ((eQ (eQ (Nd (Nd (Nf _ _) qL) qF6) g31.grown fun k e=>(((bh.st dK hO mF6 qF6 (aN kF hO).symm (by decide))).ge k e)) q6_11 fun k e=>by have h1:=Nc e;have h2:=l3;have h3:=(Nb x2.size q9.size);omega)),⟨aF6,j5_kF6,lF6⟩,j7_k2L,k6_11,by omega,by simp[hLl],IB (P:=fun i f=>G1 ((N+i:Nat):Int) f) hLf (by rw[hLl];exact hf30),(bh.st dK o31 m6_11 q6_11 (aN j4_k3L o31).symm (by decide))⟩ (by omega)
 ·refine bJ (aV (aV (bP (ah (aj (bc (aa J J (aI (aJ ?_)))))))))
  refine fi (fun(i:Nat) (M:List dx) (y:Value)=>[(0,.pointer (some ⟨gF,0,none⟩)),(2,.pointer (some ⟨g2,0,none⟩)),(3,.pointer (some ⟨g3,0,none⟩)),(4,I (r13:Int)),(5,I (K:Int)),(7,I (i:Int))]) (fun(i:Nat) (M:List dx) (y:Value) w'=>Kg [3,2] gF w w'∧hJ raw va gF w'∧dE g2 36 [I 0,.slice none 0 0,.slice none 0 0] w'∧dE g3 36 [I (N:Int),u,y] w'∧i≤K∧M.length=i∧(∀f∈M,G1 ((N+r13:Nat):Int) f)∧pT w.heap.size L u w'∧pT wL.heap.size M y w'∧wL.heap.size≤w'.heap.size) (fun(i:Nat) (M:List dx) (y:Value)=>K-i) (0) ([]) (.slice none 0 0) ⟨J,J,J,J,J,J,trivial⟩ ⟨xy k hb ((Nd (Nf _ _) qL)),⟨aL,kF,lF⟩,k2L,k3L,by omega,J,(fun f hf=>by simp at hf),hO,bh.nil _,Ng _⟩ ?_
  rintro i M y wM ⟨hK2,⟨aM,kF2,lF2⟩,k2M,k3M,hi,hMl,hMf,hU,hV,hsz⟩
  refine aj (aj ?_)
  have mM:=hK2.m
  have qM:=hK2.q
  refine ae (ab J J (ab J J (ao J J J (aX) (aI (ci J (fun h35=>?_) (fun h35=>?_))))))
  ·refine aA (ah (aj (aJ ?_)))
   have nM10_g2:g2≠gF:=fun e=>by have h1:=k.lt;have h2:=l2;omega
   have nM10_g3:g3≠gF:=fun e=>by have h1:=k.lt;have h2:=l3;have h3:=(Nb x2.size q9.size);omega
   refine ik 9 [0,2,3,4,5,7,39,46] (Kg [3,2] gF wM) (Kg [3,2] gF) true AD (hJ raw va gF) (Kg.env (by decide) _) (Kg.refl (by decide) _) hJ.stable ⟨_,kF2,lF2⟩ (fun _ _ _ _ h=>h.elim) (fun _=>by kernel_rfl) (by kernel_rfl) (by kernel_rfl) (al J J (fun w hw=>fm) (ap J J (fun w hw=>ai MI J (hw.cell_some (k3M.cell (i:=2) J))) (ax J J (al J J (fun w hw=>bS) (ap J J (fun w hw=>ai ME J (hw.cell_some (k3M.cell (i:=0) J))) (ax J J (bC (r:=I ((N+r13:Nat):Int)) J J J (fun w _=>by have e:((N+r13:Nat):Int)=(N:Int)+(r13:Int):=(by omega);rw[e];exact aY) (sD (S:=qq (G1 ((N+r13:Nat):Int)) (fun f=>bQ dZ f)) (Z':=hJ raw va gF) nd J (nq.ex fun _=>nq.st (by decide)) (hJ.stable) J (fun w hw hz=>by rintro _ rfl _ rfl;exact qs kF2 (dc hb k ((Nd (Nf _ _) qM))) hw (fun b kb hb hl=>nf (n:=N+r13) kb hb hl (by omega)) hz) ?_))))))))
   refine dv (S:=qq (G1 ((N+r13:Nat):Int)) (fun f=>cF dZ [f])) (nq.ex fun _=>nq.ds (by decide)) J (fun w hw=>by rintro _ ⟨f,hf,_,rfl,r⟩;obtain⟨v,w',h1,h2,h3⟩:=wi r;exact⟨v,w',h1,h2,f,hf,h3⟩) (bA ?_)
   intro wg10 xg10 zF10
   obtain⟨aF10,kF10,lF10⟩:=zF10
   have qF10:=xg10.q
   have mF10:=xg10.m
   rintro _ rfl _ rfl _ rfl _ rfl _ rfl _ rfl _ hq39
   obtain rfl:=Eq.symm hq39
   rintro v46 ⟨f46,hf46,x46⟩
   have ne47_hU:∀k,y.ownBlock=some k→u.ownBlock≠some k:=fun k h1 h2=>by have h3:=hV.ge k h1;have h4:=(hO.lt k h2).2;omega
   obtain⟨v47,w47,hr47,o47,g47⟩:=CN (ty:=34) (bh.st dK hV mF10 qF10 (aN kF2 hV).symm (by decide)) x46 (by simp only[List.length_cons,List.length_nil];omega) (Nb (hsz) qF10.size)
   refine df J J hr47 ?_
   have m47:=((bh.st dK hV mF10 qF10 (aN kF2 hV).symm (by decide))).kqG g47 (by decide)
   have i8_k3M:=(k3M.other qF10 fun e=>by have h1:=k.lt;have h2:=l3;have h3:=(Nb x2.size q9.size);have h4:=Nc e;omega)
   have j9_k3M:=(i8_k3M.other g47.grown (aN i8_k3M (bh.st dK hV mF10 qF10 (aN kF2 hV).symm (by decide))))
   refine af J J (fm) (iD J J j9_k3M nm o47.one J fun w10_11 q10_11 k10_11=>?_)
   have m10_11:=Kq.of1 (p:=[2,3,3]) j9_k3M (ac rfl (ac hU.kd (ac hV.kd aT))) q10_11
   refine ar (aW (ah (ae (ab J J (ao (r:=I ((i+1:Nat):Int)) J J J (by have e:((i+1:Nat):Int)=(i:Int)+1:=(by omega);rw[e];exact aY) (aa J J (ar ?_)))))))
   have j10_kF10:=((kF10.other g47.grown (aN kF10 (bh.st dK hV mF10 qF10 (aN kF2 hV).symm (by decide)))).other q10_11 fun e=>by have h1:=k.lt;have h2:=l3;have h3:=(Nb x2.size q9.size);have h4:=Nc e;omega)
   have i11_k2M:=(k2M.other qF10 fun e=>by have h1:=k.lt;have h2:=l2;have h4:=Nc e;omega)
   have j12_k2M:=((i11_k2M.other g47.grown (aN i11_k2M (bh.st dK hV mF10 qF10 (aN kF2 hV).symm (by decide)))).other q10_11 fun e=>by have h1:=k2.lt;have h2:=l3;have h3:=q9.size;have h4:=Nc e;omega)
   refine cK (i+1) (M++[f46]) (_) ⟨J,J,J,J,J,J,trivial⟩ ⟨xy k hb ((eQ (eQ (Nd (Nd (Nf _ _) qM) qF10) g47.grown fun k e=>Nb qL.size (((bh.st dK hV mF10 qF10 (aN kF2 hV).symm (by decide))).ge k e)) q10_11 fun k e=>by have h1:=Nc e;have h2:=l3;have h3:=(Nb x2.size q9.size);omega)),⟨aF10,j10_kF10,lF10⟩,j12_k2M,k10_11,by omega,by simp[hMl],wX hMf hf46,(bh.st dK (bh.grew dK (bh.st dK hU mF10 qF10 (aN kF2 hU).symm (by decide)) g47 m47 ne47_hU (by decide)).1 m10_11 q10_11 (aN j9_k3M (bh.grew dK (bh.st dK hU mF10 qF10 (aN kF2 hU).symm (by decide)) g47 m47 ne47_hU (by decide)).1 (by decide)).symm (by decide)),(bh.st dK o47 m10_11 q10_11 (aN j9_k3M o47).symm (by decide)),(Nb (Nb (Nb (hsz) qF10.size) g47.grown.size) q10_11.size)⟩ (by omega)
  ·refine bJ (aV (aV (bP (ah (aj ?_)))))
   obtain rfl:j=r13:=by omega
   obtain rfl:i=K:=by omega
   refine ae (ak J J (k3M.ld MX J dg) (bD J J k2M J dg (am.cons J (am.cons hU.one (am.cons hV.one am.nil))) fun w11_1 q11_1 k11_1=>?_))
   have m11_1:=Kq.of1 (p:=[2,3,3]) k2M (ac rfl (ac rfl (ac rfl aT))) q11_1
   refine aI (aD (bp J (.cell J (k11_1.ld MX J dg) .nil) ?_))
   have j13_kF2:=(kF2.other q11_1 fun e=>by have h1:=k.lt;have h2:=l2;have h4:=Nc e;omega)
   exact⟨_,J,(eQ (Nd (Nf _ _) qM) q11_1 fun k e=>by have h1:=Nc e;have h2:=l2;omega),⟨aM,j13_kF2,lF2⟩,⟨N,L,M⟩,⟨by show(1:Int)≤(N:Int);omega,by show(N:Int)≤3;omega,by show L.length≤4;omega,by show 1≤M.length;omega,by show M.length≤3;omega,fun j h=>by have:=hLf j h;exact⟨by simpa using this.1,this.2⟩,fun f hf=>by have:=hMf f hf;refine⟨?_,this.2⟩;have h2:=this.1;show i8 f ((N:Int)+(L.length:Int))=true;rw[hLl];simpa using h2⟩,⟨_,_,J,bh.frd (bh.st dK hU m11_1 q11_1 (aN k2M hU).symm (by decide)) (pT.dsv (bh.st dK hU m11_1 q11_1 (aN k2M hU).symm (by decide))) (Ng _),bh.frd (bh.st dK hV m11_1 q11_1 (aN k2M hV).symm (by decide)) (pT.dsv (bh.st dK hV m11_1 q11_1 (aN k2M hV).symm (by decide))) qL.size⟩⟩
end Go.Rl
namespace Go.Rl
open Go.RowKit Go.Proofs
theorem Ml {α:Type} {P:α→α→Prop} {A B:List α} {c d:α} (hl:A.length=B.length) (h:∀(i:Nat) (h1:i<A.length) (h2:i<B.length),P A[i] B[i]) (hc:P c d):∀(i:Nat) (h1:i<(A++[c]).length) (h2:i<(B++[d]).length),P (A++[c])[i] (B++[d])[i]:=fun i h1 h2=>by
 by_cases hi:i<A.length
 ·rw[List.getElem_append_left hi,List.getElem_append_left (by omega)]
  exact h i hi (by omega)
 ·rw[List.length_append,List.length_singleton] at h1
  obtain rfl:i=A.length:=by omega
  simpa [hl] using hc
theorem LE {x y:Rat} (h1:bt x≤4) (h2:bt y≤4) (h3:0≤y):x≤x+y∧bt x≤20∧bt (x+y)≤20:=by
 have:=gP x y
 refine⟨by grind,by omega,by omega⟩
theorem Ab {w:World} {raw:List UInt8} {va:Value} {gF a n:Nat} (k:dE gF 204 [va,I (a:Int)] w) (hb:lP raw va w) (ha:a≤raw.length) (h1:1≤n) (h3:n≤3):
 Calls Tryz.prog 132 #[.pointer (some ⟨gF,0,none⟩),I (n:Int)] w (cA fun r w'=>w.grownBy w' (some gF)∧hJ raw va gF w'∧qq (fun r=>G0 r (n:Int)) (fun r=>RgF w.heap.size r) r w'):=by
 have hka:=lL hb
 refine enter Tryz.func132 J J J (bc (ce jT J fun g4 w4 l4 x4 k4=>(dR (ce jT J fun g5 w5 l5 x5 k5=>(aI (aj (bc (aa J J (aI (aJ ?_))))))))))
 refine sH (fun(i:Nat) (La:List Rat) (Lb:List Rat) (x:Value) (y:Value)=>[(0,.pointer (some ⟨gF,0,none⟩)),(1,I (n:Int)),(4,.pointer (some ⟨g4,0,none⟩)),(5,.pointer (some ⟨g5,0,none⟩)),(6,I (i:Int))]) (fun(i:Nat) (La:List Rat) (Lb:List Rat) (x:Value) (y:Value) w'=>Kg [3,2] gF w w'∧hJ raw va gF w'∧dE g4 44 [.slice none 0 0,.slice none 0 0,.slice none 0 0] w'∧dE g5 44 [x,y,.slice none 0 0] w'∧i≤n∧La.length=i∧Lb.length=i∧(∀(i:Nat) (h1:i<La.length) (h2:i<Lb.length),La[i]≤Lb[i]∧bt La[i]≤20∧bt Lb[i]≤20)∧pS w.heap.size La x w'∧pS w.heap.size Lb y w'∧∀k,x.ownBlock=some k→y.ownBlock≠some k) (fun(i:Nat) (La:List Rat) (Lb:List Rat) (x:Value) (y:Value)=>n-i) (0) ([]) ([]) (.slice none 0 0) (.slice none 0 0) ⟨J,J,J,J,J,trivial⟩ ⟨xy k hb ((Nd (Nd (Nf _ _) (aZ x4)) (aZ x5))),⟨a,(k.ext (x4.trans x5)),ha⟩,(k4.ext x5),k5,by omega,J,J,(fun i h _=>absurd h (by simp)),bh.nil _,bh.nil _,fun k h=>by simp[Value.ownBlock] at h⟩ ?_
 rintro i La Lb x y wL ⟨hK,⟨aL,kF,lF⟩,k4L,k5L,hi,hAl,hBl,hAB,hA,hB,hne⟩
 refine aj (aj ?_)
 have mL:=hK.m
 have qL:=hK.q
 refine ae (ab J J (ab J J (ao J J J (aX) (aI (ci J (fun h12=>?_) (fun h12=>?_))))))
 ·refine aA (ah (aj (aJ (bc (ab J J ?_)))))
  refine aq ko J J ((kt kF (dc hb k ((Nd (Nf _ _) qL))) lF)) ?_
  rintro v16 w16 ⟨q16,⟨a16,k16,l16⟩,c16,hc16,x16_0,x16_1,rfl,f16_0,f16_1⟩
  have m16:=Kq.of1 (p:=[3,2]) kF (ac hka (ac rfl aT)) q16
  refine ab J J (aq ko J J ((kt k16 (dc hb k ((Nd (Nd (Nf _ _) qL) q16))) l16)) ?_)
  rintro v18 w18 ⟨q18,⟨a18,k18,l18⟩,c18,hc18,x18_0,x18_1,rfl,f18_0,f18_1⟩
  have m18:=Kq.of1 (p:=[3,2]) k16 (ac hka (ac rfl aT)) q18
  obtain⟨d,hd0,hdb,hds,hdn,hdd⟩:=Iz c18
  rw[←hdn] at f18_0
  rw[←hdd] at f18_1
  refine ce bv J fun g7 w7 l7 x7 k7=>ce bv J fun g8 w8 l8 x8 k8=>bD J J (k7.ext x8) J ag (am.cons J (am.cons f16_0.one (am.cons f16_1.one am.nil))) fun w5_6 q5_6 k5_6=>?_
  have x5_6:=aH.of_new ((x7.trans x8)) q5_6 l7
  have j1_k8:=(k8.other q5_6 fun e=>by have h1:=k7.lt;have h2:=l8;have h4:=Nc e;omega)
  refine bD J J j1_k8 J ag (am.cons J (am.cons f18_0.one (am.cons f18_1.one am.nil))) fun w5_7 q5_7 k5_7=>?_
  have x5_7:=aH.of_new (x5_6) q5_7 (Nb (x7).size l8)
  refine dR (af J J (dj) (iD J J k5_7 zG J J fun w6_1 q6_1 k6_1=>?_))
  have x6_1:=aH.of_new (x5_7) q6_1 (Nb (x7).size l8)
  refine aI ?_
  have k8b:dE g8 49 [B d.sg,x18_0,x18_1] w6_1:=by rw[hds];exact k6_1
  have j2_k5L:=(((k5L.other q16 fun e=>by have h1:=k.lt;have h2:=l5;have h3:=(x4).size;have h4:=Nc e;omega).other q18 fun e=>by have h1:=k.lt;have h2:=l5;have h3:=(x4).size;have h4:=Nc e;omega).ext x6_1)
  have j3_k5_6:=((k5_6.other q5_7 fun e=>by have h1:=k7.lt;have h2:=l8;have h4:=Nc e;omega).other q6_1 fun e=>by have h1:=k7.lt;have h2:=l8;have h4:=Nc e;omega)
  refine J0 (fun w9=>dE g5 44 [x,y,.slice none 0 0] w9∧dE g7 49 [B c16.sg,x16_0,x16_1] w9∧dE g8 49 [B d.sg,x18_0,x18_1] w9) 13 16 (by kernel_rfl) (by kernel_rfl) ?_
  obtain⟨wd7,hwd7⟩:∃wd,wd=w6_1.drew:=⟨_,rfl⟩
  rw[←hwd7]
  have xd7:aH w6_1 wd7:=by rw[hwd7];exact(aH.refl _).drew
  have hL7:(fun w9=>dE g5 44 [x,y,.slice none 0 0] w9∧dE g7 49 [B c16.sg,x16_0,x16_1] w9∧dE g8 49 [B d.sg,x18_0,x18_1] w9) wd7:=⟨(j2_k5L.ext xd7),(j3_k5_6.ext xd7),(k8b.ext xd7)⟩
  refine qv 0 J J (by kernel_rfl) J hL7 (fun w9 _=>cO) (wV 1 J J (by kernel_rfl) J hL7 (fun w9 h9=>ai MK J (h9.1.cell (i:=0) J)) (wV 2 J J (by kernel_rfl) J hL7 (fun w9 h9=>h9.2.1.ld MC J ag) (qv 5 J J (by kernel_rfl) J hL7 (fun w9 _=>du) (wV 6 J J (by kernel_rfl) J hL7 (fun w9 h9=>ai MK J (h9.1.cell (i:=1) J)) (wV 7 J J (by kernel_rfl) J hL7 (fun w9 h9=>h9.2.1.ld MC J ag) (wV 8 J J (by kernel_rfl) J hL7 (fun w9 h9=>h9.2.2.ld MC J ag) (uN 3 (by kernel_rfl) J ?_)))))))
  have e3:=x6_1.trans xd7
  obtain⟨v23,w23,hr23,x23,b23⟩:=uu (w:=wd7) (ly (a:=c16) ((f16_0.kq m18).ext e3) ((f16_1.kq m18).ext e3))
  refine bN (vs:=[(0,.agg #[B c16.sg,x16_0,x16_1])]) J J hr23 ?_
  have e4:=xd7.trans x23
  refine wW ⟨(j2_k5L.ext e4),(j3_k5_6.ext e4),(k8b.ext e4)⟩ (uN 4 (by kernel_rfl) J ?_)
  have hv24:pS w.heap.size Lb y w23:=((((bh.st cp (bh.st cp hB m16 q16 (aN kF hB).symm (by decide)) m18 q18 (aN k16 (bh.st cp hB m16 q16 (aN kF hB).symm (by decide))).symm (by decide)).ext x6_1).ext xd7).ext x23)
  have ne24_hB:=hne
  obtain⟨v24,w24,hr24,o24,g24⟩:=yf (ty:=42) ((((bh.st cp (bh.st cp hA m16 q16 (aN kF hA).symm (by decide)) m18 q18 (aN k16 (bh.st cp hA m16 q16 (aN kF hA).symm (by decide))).symm (by decide)).ext x6_1).ext xd7).ext x23) b23 (by simp only[List.length_cons,List.length_nil];omega) (Nb (Nb (Nb (Nb (Nb qL.size q16.size) q18.size) x6_1.size) xd7.size) x23.size)
  refine df J J hr24 ?_
  have m24:=(((((bh.st cp (bh.st cp hA m16 q16 (aN kF hA).symm (by decide)) m18 q18 (aN k16 (bh.st cp hA m16 q16 (aN kF hA).symm (by decide))).symm (by decide)).ext x6_1).ext xd7).ext x23)).kqG g24 (by decide)
  obtain ne24':=(bh.grew cp hv24 g24 m24 ne24_hB (by decide)).2
  have i4_j2_k5L:=((j2_k5L.ext xd7).ext x23)
  have j5_j2_k5L:=(i4_j2_k5L.other g24.grown (aN i4_j2_k5L ((((bh.st cp (bh.st cp hA m16 q16 (aN kF hA).symm (by decide)) m18 q18 (aN k16 (bh.st cp hA m16 q16 (aN kF hA).symm (by decide))).symm (by decide)).ext x6_1).ext xd7).ext x23)))
  have i6_j3_k5_6:=((j3_k5_6.ext xd7).ext x23)
  have j7_j3_k5_6:=(i6_j3_k5_6.other g24.grown (gp hA (Nb (Nb q16.size q18.size) l7)))
  have i8_k8b:=((k8b.ext xd7).ext x23)
  have j9_k8b:=(i8_k8b.other g24.grown (gp hA (Nb (Nb (Nb q16.size q18.size) x7.size) l8)))
  refine wW ⟨j5_j2_k5L,j7_j3_k5_6,j9_k8b⟩ (qv 12 J J (by kernel_rfl) J ⟨j5_j2_k5L,j7_j3_k5_6,j9_k8b⟩ (fun w9 _=>cO) (uN 9 (by kernel_rfl) J ?_))
  have z29_1:=gP c16 d
  have e1:=e3.trans x23
  refine aq ke J J (yz (aU.mk (((f16_0.kq m18).ext e1).kq m24) (((f16_1.kq m18).ext e1).kq m24)) (aU.mk ((f18_0.ext e1).kq m24) ((f18_1.ext e1).kq m24)) (by omega)) ?_
  rintro v29 w29 ⟨x29,⟨x29_0,x29_1,rfl,f29_0,f29_1⟩⟩
  refine wW ⟨(j5_j2_k5L.ext x29),(j7_j3_k5_6.ext x29),(j9_k8b.ext x29)⟩ (uN 10 (by kernel_rfl) J ?_)
  obtain⟨v30,w30,hr30,x30,b30⟩:=uu (w:=w29) (ly (a:=(c16+d)) f29_0 f29_1)
  refine bN (vs:=[(0,.agg #[B (c16+d).sg,x29_0,x29_1])]) J J hr30 ?_
  have e2:=x29.trans x30
  refine wW ⟨(j5_j2_k5L.ext e2),(j7_j3_k5_6.ext e2),(j9_k8b.ext e2)⟩ (uN 11 (by kernel_rfl) J ?_)
  have hv31:pS w.heap.size (La++[c16]) v24 w30:=(o24.ext e2)
  have ne31_o24:∀k,y.ownBlock=some k→v24.ownBlock≠some k:=fun k h1 h2=>ne24' k h2 h1
  obtain⟨v31,w31,hr31,o31,g31⟩:=yf (ty:=42) (((bh.grew cp ((((bh.st cp (bh.st cp hB m16 q16 (aN kF hB).symm (by decide)) m18 q18 (aN k16 (bh.st cp hB m16 q16 (aN kF hB).symm (by decide))).symm (by decide)).ext x6_1).ext xd7).ext x23) g24 m24 ne24_hB (by decide)).1.ext x29).ext x30) b30 (by simp only[List.length_cons,List.length_nil];omega) (Nb (Nb (Nb (Nb (Nb (Nb (Nb (Nb qL.size q16.size) q18.size) x6_1.size) xd7.size) x23.size) g24.grown.size) x29.size) x30.size)
  refine df J J hr31 ?_
  have m31:=((((bh.grew cp ((((bh.st cp (bh.st cp hB m16 q16 (aN kF hB).symm (by decide)) m18 q18 (aN k16 (bh.st cp hB m16 q16 (aN kF hB).symm (by decide))).symm (by decide)).ext x6_1).ext xd7).ext x23) g24 m24 ne24_hB (by decide)).1.ext x29).ext x30)).kqG g31 (by decide)
  obtain ne31':=(bh.grew cp hv31 g31 m31 ne31_o24 (by decide)).2
  have i10_j5_j2_k5L:=((j5_j2_k5L.ext x29).ext x30)
  have j11_j5_j2_k5L:=(i10_j5_j2_k5L.other g31.grown (aN i10_j5_j2_k5L (((bh.grew cp ((((bh.st cp (bh.st cp hB m16 q16 (aN kF hB).symm (by decide)) m18 q18 (aN k16 (bh.st cp hB m16 q16 (aN kF hB).symm (by decide))).symm (by decide)).ext x6_1).ext xd7).ext x23) g24 m24 ne24_hB (by decide)).1.ext x29).ext x30)))
  have i12_j7_j3_k5_6:=((j7_j3_k5_6.ext x29).ext x30)
  have j13_j7_j3_k5_6:=(i12_j7_j3_k5_6.other g31.grown (gp hB (Nb (Nb q16.size q18.size) l7)))
  have i14_j9_k8b:=((j9_k8b.ext x29).ext x30)
  have j15_j9_k8b:=(i14_j9_k8b.other g31.grown (gp hB (Nb (Nb (Nb q16.size q18.size) x7.size) l8)))
  refine wW ⟨j11_j5_j2_k5L,j13_j7_j3_k5_6,j15_j9_k8b⟩ (uN 13 (by kernel_rfl) J (iD J J j11_j5_j2_k5L wl o24.one J fun w7_13 q7_13 k7_13=>?_))
  have m7_13:=Kq.of1 (p:=[3,3,3]) j11_j5_j2_k5L (ac hA.kd (ac hB.kd (ac rfl aT))) q7_13
  refine Ds (by kernel_rfl) (uN 14 (by kernel_rfl) J (af J J (du) (Ds (by kernel_rfl) (uN 15 (by kernel_rfl) J (iD J J k7_13 wl o31.one J fun w7_15 q7_15 k7_15=>?_)))))
  have m7_15:=Kq.of1 (p:=[3,3,3]) k7_13 (ac o24.kd (ac hB.kd (ac rfl aT))) q7_15
  refine Ds (by kernel_rfl) (LD (by kernel_rfl) (aW (ah (ae (ab J J (ao (r:=I ((i+1:Nat):Int)) J J J (by have e:((i+1:Nat):Int)=(i:Int)+1:=(by omega);rw[e];exact aY) (aa J J (ar ?_))))))))
  have i16_k18:=(((k18.ext x6_1).ext xd7).ext x23)
  have i17_k18:=(((i16_k18.other g24.grown (aN i16_k18 ((((bh.st cp (bh.st cp hA m16 q16 (aN kF hA).symm (by decide)) m18 q18 (aN k16 (bh.st cp hA m16 q16 (aN kF hA).symm (by decide))).symm (by decide)).ext x6_1).ext xd7).ext x23))).ext x29).ext x30)
  have j18_k18:=(((i17_k18.other g31.grown (aN i17_k18 (((bh.grew cp ((((bh.st cp (bh.st cp hB m16 q16 (aN kF hB).symm (by decide)) m18 q18 (aN k16 (bh.st cp hB m16 q16 (aN kF hB).symm (by decide))).symm (by decide)).ext x6_1).ext xd7).ext x23) g24 m24 ne24_hB (by decide)).1.ext x29).ext x30))).other q7_13 fun e=>by have h1:=k.lt;have h2:=l5;have h3:=(x4).size;have h4:=Nc e;omega).other q7_15 fun e=>by have h1:=k.lt;have h2:=l5;have h3:=(x4).size;have h4:=Nc e;omega)
  have i19_k4L:=(((((k4L.other q16 fun e=>by have h1:=k.lt;have h2:=l4;have h4:=Nc e;omega).other q18 fun e=>by have h1:=k.lt;have h2:=l4;have h4:=Nc e;omega).ext x6_1).ext xd7).ext x23)
  have i20_k4L:=(((i19_k4L.other g24.grown (aN i19_k4L ((((bh.st cp (bh.st cp hA m16 q16 (aN kF hA).symm (by decide)) m18 q18 (aN k16 (bh.st cp hA m16 q16 (aN kF hA).symm (by decide))).symm (by decide)).ext x6_1).ext xd7).ext x23))).ext x29).ext x30)
  have j21_k4L:=(((i20_k4L.other g31.grown (aN i20_k4L (((bh.grew cp ((((bh.st cp (bh.st cp hB m16 q16 (aN kF hB).symm (by decide)) m18 q18 (aN k16 (bh.st cp hB m16 q16 (aN kF hB).symm (by decide))).symm (by decide)).ext x6_1).ext xd7).ext x23) g24 m24 ne24_hB (by decide)).1.ext x29).ext x30))).other q7_13 fun e=>by have h1:=k4.lt;have h2:=l5;have h4:=Nc e;omega).other q7_15 fun e=>by have h1:=k4.lt;have h2:=l5;have h4:=Nc e;omega)
  refine jH (i+1) (La++[c16]) (Lb++[c16+d]) (_) (_) ⟨J,J,J,J,J,trivial⟩ ⟨xy k hb ((eQ (eQ (eQ (Nd (Nd (eQ (Nd (Nd (Nd (Nd (Nd (Nd (Nf _ _) qL) q16) q18) (aZ x6_1)) (aZ xd7)) (aZ x23)) g24.grown fun k e=>((((((bh.st cp (bh.st cp hA m16 q16 (aN kF hA).symm (by decide)) m18 q18 (aN k16 (bh.st cp hA m16 q16 (aN kF hA).symm (by decide))).symm (by decide)).ext x6_1).ext xd7).ext x23)).ge k e)) (aZ x29)) (aZ x30)) g31.grown fun k e=>(((((bh.grew cp ((((bh.st cp (bh.st cp hB m16 q16 (aN kF hB).symm (by decide)) m18 q18 (aN k16 (bh.st cp hB m16 q16 (aN kF hB).symm (by decide))).symm (by decide)).ext x6_1).ext xd7).ext x23) g24 m24 ne24_hB (by decide)).1.ext x29).ext x30)).ge k e)) q7_13 fun k e=>by have h1:=Nc e;have h2:=l5;have h3:=(x4).size;omega) q7_15 fun k e=>by have h1:=Nc e;have h2:=l5;have h3:=(x4).size;omega)),⟨a18,j18_k18,l18⟩,j21_k4L,k7_15,by omega,by simp[hAl],by simp[hBl],Ml (P:=fun x y=>x≤y∧bt x≤20∧bt y≤20) (by omega) hAB (LE hc16 (by omega) hd0),(bh.st cp (bh.st cp (bh.grew cp ((o24.ext x29).ext x30) g31 m31 ne31_o24 (by decide)).1 m7_13 q7_13 (aN j11_j5_j2_k5L (bh.grew cp ((o24.ext x29).ext x30) g31 m31 ne31_o24 (by decide)).1 (by decide)).symm (by decide)) m7_15 q7_15 (aN k7_13 (bh.st cp (bh.grew cp ((o24.ext x29).ext x30) g31 m31 ne31_o24 (by decide)).1 m7_13 q7_13 (aN j11_j5_j2_k5L (bh.grew cp ((o24.ext x29).ext x30) g31 m31 ne31_o24 (by decide)).1 (by decide)).symm (by decide))).symm (by decide)),(bh.st cp (bh.st cp o31 m7_13 q7_13 (aN j11_j5_j2_k5L o31).symm (by decide)) m7_15 q7_15 (aN k7_13 (bh.st cp o31 m7_13 q7_13 (aN j11_j5_j2_k5L o31).symm (by decide))).symm (by decide)),fun k h1 h2=>ne31' k h2 h1⟩ (by omega)
 ·refine bJ (aV (aV (bP (ah (aj (bc (ab J J ?_)))))))
  refine aq eU J J ((eV (n:=3) kF (dc hb k ((Nd (Nf _ _) qL))) lF (by omega))) ?_
  rintro v35 w35 ⟨q35,⟨a35,k35,l35⟩,r35,hr35,rfl⟩
  have m35:=Kq.of1 (p:=[3,2]) kF (ac hka (ac rfl aT)) q35
  refine aa J J (aI (aJ ?_))
  have j22_k4L:=(k4L.other q35 fun e=>by have h1:=k.lt;have h2:=l4;have h4:=Nc e;omega)
  have j23_k5L:=(k5L.other q35 fun e=>by have h1:=k.lt;have h2:=l5;have h3:=(x4).size;have h4:=Nc e;omega)
  refine fi (fun(r:Nat) (L:List dx) (u:Value)=>[(0,.pointer (some ⟨gF,0,none⟩)),(1,I (n:Int)),(4,.pointer (some ⟨g4,0,none⟩)),(5,.pointer (some ⟨g5,0,none⟩)),(9,I (r:Int))]) (fun(r:Nat) (L:List dx) (u:Value) w'=>Kg [3,2] gF w w'∧hJ raw va gF w'∧dE g4 44 [.slice none 0 0,.slice none 0 0,.slice none 0 0] w'∧dE g5 44 [x,y,u] w'∧L.length+r≤2∧(∀f∈L,G1 (n:Int) f)∧pS w.heap.size La x w'∧pS w.heap.size Lb y w'∧pT w.heap.size L u w') (fun(r:Nat) (L:List dx) (u:Value)=>r) (r35) ([]) (.slice none 0 0) ⟨J,J,J,J,J,trivial⟩ ⟨xy k hb ((Nd (Nd (Nf _ _) qL) q35)),⟨a35,k35,l35⟩,j22_k4L,j23_k5L,by simp;omega,(fun f hf=>by simp at hf),(bh.st cp hA m35 q35 (aN kF hA).symm (by decide)),(bh.st cp hB m35 q35 (aN kF hB).symm (by decide)),bh.nil _⟩ ?_
  rintro r L u wM ⟨hK2,⟨aM,kF2,lF2⟩,k4M,k5M,hr,hLf,hA,hB,hO⟩
  refine aj (aj ?_)
  have mM:=hK2.m
  have qM:=hK2.q
  refine ae (ab J J (ao J J J (bo) (aI (ci J (fun h37=>?_) (fun h37=>?_)))))
  ·refine aA (ah (aj (aJ ?_)))
   have nM11_g4:g4≠gF:=fun e=>by have h1:=k.lt;have h2:=l4;omega
   have nM11_g5:g5≠gF:=fun e=>by have h1:=k.lt;have h2:=l5;have h3:=(x4).size;omega
   refine ik 6 [0,1,4,5,9,41,45] (Kg [3,2] gF wM) (Kg [3,2] gF) true AD (hJ raw va gF) (Kg.env (by decide) _) (Kg.refl (by decide) _) hJ.stable ⟨_,kF2,lF2⟩ (fun _ _ _ _ h=>h.elim) (fun _=>by kernel_rfl) (by kernel_rfl) (by kernel_rfl) (al J J (fun w hw=>eT) (ap J J (fun w hw=>ai MI J (hw.cell_some (k5M.cell (i:=2) J))) (ax J J (ax J J (sD (S:=qq (G1 (n:Int)) (fun f=>bQ dZ f)) (Z':=hJ raw va gF) nd J (nq.ex fun _=>nq.st (by decide)) (hJ.stable) J (fun w hw hz=>by rintro _ rfl _ rfl;exact qs kF2 (dc hb k ((Nd (Nf _ _) qM))) hw (fun b kb hb hl=>nf (n:=n) kb hb hl (by omega)) hz) (dv (S:=qq (G1 (n:Int)) (fun f=>cF dZ [f])) (nq.ex fun _=>nq.ds (by decide)) J (fun w hw=>by rintro _ ⟨f,hf,_,rfl,r⟩;obtain⟨v,w',h1,h2,h3⟩:=wi r;exact⟨v,w',h1,h2,f,hf,h3⟩) (bA ?_)))))))
   intro wg11 xg11 zF11
   obtain⟨aF11,kF11,lF11⟩:=zF11
   have qF11:=xg11.q
   have mF11:=xg11.m
   rintro _ rfl _ rfl _ rfl _ rfl _ rfl _ hq41
   obtain rfl:=Eq.symm hq41
   rintro v45 ⟨f45,hf45,x45⟩
   have ne46_hA:=Iy hA hO (by decide)
   have ne46_hB:=Iy hB hO (by decide)
   obtain⟨v46,w46,hr46,o46,g46⟩:=CN (ty:=34) (bh.st dK hO mF11 qF11 (aN kF2 hO).symm (by decide)) x45 (by simp only[List.length_cons,List.length_nil];omega) (Nb qM.size qF11.size)
   refine df J J hr46 ?_
   have m46:=((bh.st dK hO mF11 qF11 (aN kF2 hO).symm (by decide))).kqG g46 (by decide)
   have i24_k5M:=(k5M.other qF11 fun e=>by have h1:=k.lt;have h2:=l5;have h3:=(x4).size;have h4:=Nc e;omega)
   have j25_k5M:=(i24_k5M.other g46.grown (aN i24_k5M (bh.st dK hO mF11 qF11 (aN kF2 hO).symm (by decide))))
   refine af J J (eT) (iD J J j25_k5M nm o46.one J fun w11_8 q11_8 k11_8=>?_)
   have m11_8:=Kq.of1 (p:=[3,3,3]) j25_k5M (ac hA.kd (ac hB.kd (ac hO.kd aT))) q11_8
   refine ar (aW (ah (ae (ab J J (ao (r:=I ((r-1:Nat):Int)) J J J (by have e:((r-1:Nat):Int)=(r:Int)-1:=(by omega);rw[e];exact bT) (aa J J (ar ?_)))))))
   have j26_kF11:=((kF11.other g46.grown (aN kF11 (bh.st dK hO mF11 qF11 (aN kF2 hO).symm (by decide)))).other q11_8 fun e=>by have h1:=k.lt;have h2:=l5;have h3:=(x4).size;have h4:=Nc e;omega)
   have i27_k4M:=(k4M.other qF11 fun e=>by have h1:=k.lt;have h2:=l4;have h4:=Nc e;omega)
   have j28_k4M:=((i27_k4M.other g46.grown (aN i27_k4M (bh.st dK hO mF11 qF11 (aN kF2 hO).symm (by decide)))).other q11_8 fun e=>by have h1:=k4.lt;have h2:=l5;have h4:=Nc e;omega)
   refine cK (r-1) (L++[f45]) (_) ⟨J,J,J,J,J,trivial⟩ ⟨xy k hb ((eQ (eQ (Nd (Nd (Nf _ _) qM) qF11) g46.grown fun k e=>(((bh.st dK hO mF11 qF11 (aN kF2 hO).symm (by decide))).ge k e)) q11_8 fun k e=>by have h1:=Nc e;have h2:=l5;have h3:=(x4).size;omega)),⟨aF11,j26_kF11,lF11⟩,j28_k4M,k11_8,by rw[List.length_append,List.length_singleton];omega,wX hLf hf45,(bh.st cp (bh.grew cp (bh.st cp hA mF11 qF11 (aN kF2 hA).symm (by decide)) g46 m46 ne46_hA (by decide)).1 m11_8 q11_8 (aN j25_k5M (bh.grew cp (bh.st cp hA mF11 qF11 (aN kF2 hA).symm (by decide)) g46 m46 ne46_hA (by decide)).1 (by decide)).symm (by decide)),(bh.st cp (bh.grew cp (bh.st cp hB mF11 qF11 (aN kF2 hB).symm (by decide)) g46 m46 ne46_hB (by decide)).1 m11_8 q11_8 (aN j25_k5M (bh.grew cp (bh.st cp hB mF11 qF11 (aN kF2 hB).symm (by decide)) g46 m46 ne46_hB (by decide)).1 (by decide)).symm (by decide)),(bh.st dK o46 m11_8 q11_8 (aN j25_k5M o46).symm (by decide))⟩ (by omega)
  ·refine bJ (aV (aV (bP (ah (aj ?_)))))
   obtain rfl:i=n:=by omega
   refine ae (ak J J (k5M.ld M1 J dM) (bD J J k4M J dM (am.cons hA.one (am.cons hB.one (am.cons hO.one am.nil))) fun w12_1 q12_1 k12_1=>?_))
   have m12_1:=Kq.of1 (p:=[3,3,3]) k4M (ac rfl (ac rfl (ac rfl aT))) q12_1
   refine aI (aD (bp J (.cell J (k12_1.ld M1 J dM) .nil) ?_))
   have j29_kF2:=(kF2.other q12_1 fun e=>by have h1:=k.lt;have h2:=l4;have h4:=Nc e;omega)
   exact⟨_,J,(eQ (Nd (Nf _ _) qM) q12_1 fun k e=>by have h1:=Nc e;have h2:=l4;omega),⟨aM,j29_kF2,lF2⟩,⟨La,Lb,L⟩,⟨by omega,by omega,by show(La.length:Int)=_;omega,by show(Lb.length:Int)=_;omega,by show L.length≤2;omega,hAB,hLf⟩,⟨_,_,_,J,bh.frd (bh.st cp hA m12_1 q12_1 (aN k4M hA).symm (by decide)) (pS.dsv (bh.st cp hA m12_1 q12_1 (aN k4M hA).symm (by decide))) (Ng _),bh.frd (bh.st cp hB m12_1 q12_1 (aN k4M hB).symm (by decide)) (pS.dsv (bh.st cp hB m12_1 q12_1 (aN k4M hB).symm (by decide))) (Ng _),bh.frd (bh.st dK hO m12_1 q12_1 (aN k4M hO).symm (by decide)) (pT.dsv (bh.st dK hO m12_1 q12_1 (aN k4M hO).symm (by decide))) (Ng _)⟩⟩
end Go.Rl
namespace Go.Rl
open Go.RowKit Go.Proofs
theorem Ac:az Tryz.prog 132:=⟨_,Tryz.func132,by kernel_rfl,rfl⟩
theorem Ad:az Tryz.prog 63:=⟨_,Tryz.func63,by kernel_rfl,rfl⟩
theorem Dv:az Tryz.prog 62:=⟨_,Tryz.func62,by kernel_rfl,rfl⟩
theorem uO:az Tryz.prog 15:=⟨_,Tryz.func15,by kernel_rfl,rfl⟩
theorem Ae {w:World} {raw:List UInt8} {va:Value} {gF a:Nat} (k:dE gF 204 [va,I (a:Int)] w) (hb:lP raw va w) (ha:a≤raw.length):
 Calls Tryz.prog 63 #[.pointer (some ⟨gF,0,none⟩)] w (cA fun r w'=>w.grownBy w' (some gF)∧hJ raw va gF w'∧qq n7 (fun q=>QyF w.heap.size q) r w'):=by
 have hka:=lL hb
 refine enter Tryz.func63 J J J (bc (ce uv J fun g2 w2 l2 x2 k2=>(dR (ab J J (aq z8 J J ((Aa (k.ext x2) (dc hb k ((Nd (Nf _ _) (aZ x2)))) ha)) ?_)))))
 rintro v6 w6 ⟨q6,⟨a6,k6,l6⟩,g,hg,va6,vb6,rfl,fu,fo⟩
 have ua:=fu.1
 have ub:=fo.1
 obtain⟨N,hN⟩:∃N:Nat,g.inp=N:=⟨g.inp.toNat,by have:=hg.i0;omega⟩
 have hg0:=hg.i0
 have hg1:=hg.i1
 have hg2:=hg.ul
 rw[hN]
 refine ce kK J fun g3 w3 l3 x3 k3=>bD J J k3 J dg (am.cons J (am.cons ua.one (am.cons ub.one am.nil))) fun w1_3 q1_3 k1_3=>?_
 have x1_3:=aH.of_new (x3) q1_3 l3
 refine dR (ab J J (af J J (bS) (ak J J (ai ME J (k1_3.cell (i:=0) J)) (aq Ac J J ((Ab (n:=N) (k6.ext x1_3) (dc hb k ((Nd (Nd (Nd (Nf _ _) (aZ x2)) q6) (aZ x1_3)))) l6 (by omega) (by omega))) ?_))))
 rintro v10 w10 ⟨q10,⟨a10,k10,l10⟩,r,hr,wa,wb,wc,rfl,fl,fh,fr⟩
 have m10:=Kq.of1 (p:=[3,2]) (k6.ext x1_3) (ac hka (ac rfl aT)) q10
 have ra:=fl.1
 have rb:=fh.1
 have rc:=fr.1
 refine ce jT J fun g4 w4 l4 x4 k4=>bD J J k4 J dM (am.cons ra.one (am.cons rb.one (am.cons rc.one am.nil))) fun w2_5 q2_5 k2_5=>?_
 have x2_5:=aH.of_new (x4) q2_5 l4
 refine aI (aj ?_)
 have nM3_g2:g2≠gF:=fun e=>by have h1:=k.lt;have h2:=l2;omega
 have nM3_g3:g3≠gF:=fun e=>by have h1:=k.lt;have h2:=l3;have h3:=(Nb x2.size q6.size);omega
 have nM3_g4:g4≠gF:=fun e=>by have h1:=k.lt;have h2:=l4;have h3:=(Nb (Nb (Nb x2.size q6.size) x1_3.size) q10.size);omega
 refine ik 10 [2,11,12,20] (Kg [3,2] gF w2_5) (Kg [3,2] gF) true AD (hJ raw va gF) (Kg.env (by decide) _) (Kg.refl (by decide) _) hJ.stable ⟨_,(k10.ext x2_5),l10⟩ (fun _ _ _ _ h=>h.elim) (fun _=>by kernel_rfl) (by kernel_rfl) (by kernel_rfl) ?_
 have j1_k1_3:=((k1_3.other q10 fun e=>by have h1:=k.lt;have h2:=l3;have h3:=(Nb x2.size q6.size);have h4:=Nc e;omega).ext x2_5)
 refine ap J J (fun w hw=>(j1_k1_3.kg hw).ld MX J dg) (ap J J (fun w hw=>(k2_5.kg hw).ld M1 J dM) (ax J J (al J J (fun w hw=>bS) (ap J J (fun w hw=>ai ME J (hw.cell_some (j1_k1_3.cell (i:=0) J))) (al J J (fun w hw=>bX) (ap J J (fun w hw=>ai MI J (hw.cell_some (j1_k1_3.cell (i:=1) J))) (mg (vs:=[va6]) J J (fun w hw=>bB MI ((((ua.ext x1_3).kq m10).ext x2_5).kg hw)) (bC (r:=I ((N+g.us.length:Nat):Int)) J J J (fun w _=>by have e:((N+g.us.length:Nat):Int)=(N:Int)+(g.us.length:Int):=(by omega);rw[e];exact aY) ?_))))))))
 refine sD (S:=qq (G1 ((N+g.us.length:Nat):Int)) (fun f=>bQ dZ f)) (Z':=hJ raw va gF) nd J (nq.ex fun _=>nq.st (by decide)) (hJ.stable) J (fun w hw hz=>by rintro _ rfl _ rfl;exact qs (k10.ext x2_5) (dc hb k ((Nd (Nd (Nd (Nd (Nd (Nf _ _) (aZ x2)) q6) (aZ x1_3)) q10) (aZ x2_5)))) hw (fun b kb hb hl=>nf (n:=N+g.us.length) kb hb hl (by omega)) hz) (bA ?_)
 intro wg3 xg3 zF3
 obtain⟨aF3,kF3,lF3⟩:=zF3
 have qF3:=xg3.q
 have mF3:=xg3.m
 rintro _ rfl _ rfl _ rfl _ ⟨f20,hf20,_,rfl,r20⟩
 obtain⟨z0,z1,z2,rfl,y20_0,y20_1,y20_2⟩:=cl r20
 refine bV (r:=.agg #[I (N:Int),va6,vb6,wa,wb,wc,z0,B f20.ct.sg,z1,z2]) J J (by obtain⟨_,_,_,rfl⟩:=ra.isS;obtain⟨_,_,_,rfl⟩:=rb.isS;obtain⟨_,_,_,rfl⟩:=rc.isS;obtain⟨_,_,_,rfl⟩:=ua.isS;obtain⟨_,_,_,rfl⟩:=ub.isS;obtain⟨_,_,_,rfl⟩:=y20_0.isS;obtain⟨_,_,_,rfl⟩:=y20_1.isS;obtain⟨_,_,_,rfl⟩:=y20_2.isS;exact run_build _ _ _ _ (by kernel_rfl)) ?_
 have j2_k2:=(((((k2.other q6 fun e=>by have h1:=k.lt;have h2:=l2;have h4:=Nc e;omega).ext x1_3).other q10 fun e=>by have h1:=k.lt;have h2:=l2;have h4:=Nc e;omega).ext x2_5).other qF3 fun e=>by have h1:=k.lt;have h2:=l2;have h4:=Nc e;omega)
 refine bD J J j2_k2 J cV (am.cons J (am.cons ua.one (am.cons ub.one (am.cons ra.one (am.cons rb.one (am.cons rc.one (am.cons y20_0.one (am.cons J (am.cons y20_1.one (am.cons y20_2.one am.nil)))))))))) fun w3_11 q3_11 k3_11=>?_
 have m3_11:=Kq.of1 (p:=[2,3,3,3,3,3,3,0,3,3]) j2_k2 (ac rfl (ac rfl (ac rfl (ac rfl (ac rfl (ac rfl (ac rfl (ac rfl (ac rfl (ac rfl aT)))))))))) q3_11
 refine aI (aD (bp J (.cell J (k3_11.ld MU J cV) .nil) ?_))
 have hg2:g2<w2.heap.size:=k2.lt
 have hs2:=x2.size
 have hs3:w2.heap.size≤w1_3.heap.size:=Nb q6.size x1_3.size
 have tg:∀{l v},i2 w2.heap.size dZ l v w6→i2 w.heap.size dZ l v w3_11:=fun h=>(i2.st ((((h.ext x1_3).kq m10).ext x2_5).kq mF3) hg2 q3_11 m3_11 (by decide)).low hs2
 have tr:i2 w1_3.heap.size dZ r.rs wc w10→i2 w.heap.size dZ r.rs wc w3_11:=fun h=>(i2.st ((h.ext x2_5).kq mF3) (by omega) q3_11 m3_11 (by decide)).low (by omega)
 have tq:∀{l v},i2 w1_3.heap.size dQ l v w10→i2 w.heap.size dQ l v w3_11:=fun h=>(i2.st ((h.ext x2_5).kq mF3) (by omega) q3_11 m3_11 (by decide)).low (by omega)
 exact⟨_,J,(eQ (Nd (Nd (Nd (Nd (Nd (Nd (Nf _ _) (aZ x2)) q6) (aZ x1_3)) q10) (aZ x2_5)) qF3) q3_11 fun k e=>by have h1:=Nc e;have h2:=l2;omega),⟨_,kF3.other q3_11 (fun e=>by have h1:=k.lt;have h2:=l2;have h4:=Nc e;omega),lF3⟩,⟨g,r,f20⟩,⟨hg,by show G0 r g.inp;rw[hN];exact hr,by show i8 f20 (g.inp+(g.us.length:Int))=true;rw[hN];simpa using hf20.1,hf20.2⟩,va6,vb6,wa,wb,wc,z0,z1,z2,(by show Value.agg #[I (N:Int),va6,vb6,wa,wb,wc,z0,B f20.ct.sg,z1,z2]=Value.agg #[I g.inp,va6,vb6,wa,wb,wc,z0,B f20.ct.sg,z1,z2];rw[hN]),tg fu,tg fo,tq fl,tq fh,tr fr,(y20_0.kq m3_11),(y20_1.kq m3_11),(y20_2.kq m3_11)⟩
theorem uP {w:World} {raw:List UInt8} {v:Value} (hv:lP raw v w) (hl:raw.length≤1000):
 Calls Tryz.prog 15 #[v] w (cA fun r w'=>aH w w'∧qq (fun s:eX=>SmS s∧s.lm=[]) (fun s=>bQ ro s) r w'):=by
 refine enter Tryz.func15 J J J (bc (ce fp J fun g2 w2 l2 x2 k2=>(dR (ab J J (aq Dv J J ((Du (hv.ext x2) hl)) ?_)))))
 rintro v8 w8 ⟨x8,gF,va,rfl,hgF,k8,hb8⟩
 have hka:=lL hb8
 refine aa J J (dR (ab J J (aq Ad J J ((Ae k8 hb8 (by omega))) ?_)))
 rintro v10 w10 ⟨q10,⟨a10,k10,l10⟩,q,hq,a1,a2,a3,a4,a5,a6,a7,a8,rfl,f1,f2,f3,f4,f5,u6,u7,u8⟩
 have u1:=f1.1
 have u2:=f2.1
 have u3:=f3.1
 have u4:=f4.1
 have u5:=f5.1
 have hb10:lP raw va w10:=dc hb8 k8 q10
 refine bV (r:=.agg #[I q.g.inp,a1,a2,a3,a4,a5,a6,B q.go.ct.sg,a7,a8,.slice none 0 0,.slice none 0 0]) J J (by obtain⟨_,_,_,rfl⟩:=u1.isS;obtain⟨_,_,_,rfl⟩:=u2.isS;obtain⟨_,_,_,rfl⟩:=u3.isS;obtain⟨_,_,_,rfl⟩:=u4.isS;obtain⟨_,_,_,rfl⟩:=u5.isS;obtain⟨_,_,_,rfl⟩:=u6.isS;obtain⟨_,_,_,rfl⟩:=u7.isS;obtain⟨_,_,_,rfl⟩:=u8.isS;exact run_build _ _ _ _ (by kernel_rfl)) (ce fp J fun g4 w4 l4 x4 k4=>bD J J k4 J bg (am.cons J (am.cons u1.one (am.cons u2.one (am.cons u3.one (am.cons u4.one (am.cons u5.one (am.cons u6.one (am.cons J (am.cons u7.one (am.cons u8.one (am.cons J (am.cons J am.nil)))))))))))) fun w2_4 q2_4 k2_4=>?_)
 have x2_4:=aH.of_new (x4) q2_4 l4
 refine aI (aj (bc (ab J J (aq eU J J ((eV (n:=4) (k10.ext x2_4) (dc hb10 k10 ((Nd (Nf _ _) (aZ x2_4)))) l10 (by omega))) ?_))))
 rintro v13 w13 ⟨q13,⟨a13,k13,l13⟩,r13,hr13,rfl⟩
 refine aa J J (aI (aJ ?_))
 have j1_k2:=((((k2.ext x8).other q10 fun e=>by have h1:=k2.lt;have h2:=hgF;have h4:=Nc e;omega).ext x2_4).other q13 fun e=>by have h1:=k2.lt;have h2:=hgF;have h4:=Nc e;omega)
 have j2_k2_4:=(k2_4.other q13 fun e=>by have h1:=k8.lt;have h2:=l4;have h3:=q10.size;have h4:=Nc e;omega)
 refine fi (fun(r:Nat) (pa:List nw) (x:Value)=>[(2,.pointer (some ⟨g2,0,none⟩)),(3,.pointer (some ⟨gF,0,none⟩)),(4,.pointer (some ⟨g4,0,none⟩)),(5,I (r:Int))]) (fun(r:Nat) (pa:List nw) (x:Value) w'=>Kg [3,2] gF w10 w'∧hJ raw va gF w'∧dE g2 57 [I 0,.slice none 0 0,.slice none 0 0,.slice none 0 0,.slice none 0 0,.slice none 0 0,.slice none 0 0,B false,.slice none 0 0,.slice none 0 0,.slice none 0 0,.slice none 0 0] w'∧dE g4 57 [I q.g.inp,a1,a2,a3,a4,a5,a6,B q.go.ct.sg,a7,a8,x,.slice none 0 0] w'∧pa.length+r≤3∧(∀d∈pa,i9 q d)∧mB w10.heap.size pa x w'∧w4.heap.size≤w'.heap.size) (fun(r:Nat) (pa:List nw) (x:Value)=>r) (r13) ([]) (.slice none 0 0) ⟨J,J,J,J,trivial⟩ ⟨xy k10 hb10 ((Nd (Nd (Nf _ _) (aZ x2_4)) q13)),⟨a13,k13,l13⟩,j1_k2,j2_k2_4,by simp;omega,(fun d hd=>by simp at hd),bh.nil _,(Nb q2_4.size q13.size)⟩ ?_
 rintro r pa x wL ⟨hK,⟨aL,kF,lF⟩,k2L,k4L,hr,hpa,hP,hsz⟩
 refine aj (aj ?_)
 have mL:=hK.m
 have qL:=hK.q
 refine ae (ab J J (ao J J J (bo) (aI (ci J (fun h15=>?_) (fun h15=>?_)))))
 ·refine aA (ah (aj (aJ (bc (ab J J ?_)))))
  refine aq eU J J ((eV (n:=4) kF (dc hb10 k10 ((Nd (Nf _ _) qL))) lF (by omega))) ?_
  rintro v19 w19 ⟨q19,⟨a19,k19,l19⟩,r19,hr19,rfl⟩
  have m19:=Kq.of1 (p:=[3,2]) kF (ac hka (ac rfl aT)) q19
  obtain⟨kN,hkN⟩:∃kN,kN=1+r19:=⟨_,rfl⟩
  refine ao (r:=I ((kN:Nat):Int)) J J J (by have e:((kN:Nat):Int)=1+(r19:Int):=(by omega);rw[e];exact aY) (bV (r:=.agg #[I ((kN:Nat):Int),I 0,B false,.slice none 0 0,.slice none 0 0]) J J (by exact run_build _ _ _ _ (by kernel_rfl)) (ce iM J fun g6 w6 l6 x6 k6=>bD J J k6 J cH (am.cons J (am.cons J (am.cons J (am.cons J (am.cons J am.nil))))) fun w6_5 q6_5 k6_5=>?_))
  have x6_5:=aH.of_new (x6) q6_5 l6
  refine aI (aj (i3 (fun p:nw×Value×Value=>[(2,.pointer (some ⟨g2,0,none⟩)),(3,.pointer (some ⟨gF,0,none⟩)),(4,.pointer (some ⟨g4,0,none⟩)),(5,I (r:Int)),(6,.pointer (some ⟨g6,0,none⟩))]) (fun p w'=>Kg [3,2] gF w10 w'∧hJ raw va gF w'∧dE g2 57 [I 0,.slice none 0 0,.slice none 0 0,.slice none 0 0,.slice none 0 0,.slice none 0 0,.slice none 0 0,B false,.slice none 0 0,.slice none 0 0,.slice none 0 0,.slice none 0 0] w'∧dE g4 57 [I q.g.inp,a1,a2,a3,a4,a5,a6,B q.go.ct.sg,a7,a8,x,.slice none 0 0] w'∧dE g6 133 [I p.1.kd,I p.1.ix,B p.1.at_.sg,p.2.1,p.2.2] w'∧bH p.1.at_.nl p.2.1 w'∧bH p.1.at_.dl p.2.2 w'∧i9 q p.1∧mB w10.heap.size pa x w'∧w4.heap.size≤w'.heap.size) ?_ ?_))
  ·refine aj ?_
   rcases(show kN=3∨kN=4∨(kN=1∨kN=2) by omega) with hk|hk|hk
   ·refine ae (af J J (bW) (ak J J (ai ME J (k6_5.cell (i:=0) J)) ?_))
    refine ao J J J (bF (by omega) aO) (ab J J (bf J J J (bf J J J (bf J J J (aR J J J (aI (cg J (ae (ab J J ?_)))))))))
    have j3_k4L:=((k4L.other q19 fun e=>by have h1:=k8.lt;have h2:=l4;have h3:=q10.size;have h4:=Nc e;omega).ext x6_5)
    refine af J J (bz) (af J J (bG) (af J J (bS) (ak J J (ai ME J (j3_k4L.cell (i:=0) J)) (aq eU J J ((eV (n:=q.g.inp) (k19.ext x6_5) (dc hb10 k10 ((Nd (Nd (Nd (Nf _ _) qL) q19) (aZ x6_5)))) l19 (by have:=hq.g.i0;omega))) ?_))))
    rintro v35 w35 ⟨q35,⟨a35,k35,l35⟩,r35,hr35,rfl⟩
    have m35:=Kq.of1 (p:=[3,2]) (k19.ext x6_5) (ac hka (ac rfl aT)) q35
    refine ab J J (aq ko J J ((kt k35 (dc hb10 k10 ((Nd (Nd (Nd (Nd (Nf _ _) qL) q19) (aZ x6_5)) q35))) l35)) ?_)
    rintro v37 w37 ⟨q37,⟨a37,k37,l37⟩,c37,hc37,x37_0,x37_1,rfl,f37_0,f37_1⟩
    have m37:=Kq.of1 (p:=[3,2]) k35 (ac hka (ac rfl aT)) q37
    have j4_k6_5:=((k6_5.other q35 fun e=>by have h1:=k8.lt;have h2:=l6;have h3:=(Nb (Nb q10.size qL.size) q19.size);have h4:=Nc e;omega).other q37 fun e=>by have h1:=k8.lt;have h2:=l6;have h3:=(Nb (Nb q10.size qL.size) q19.size);have h4:=Nc e;omega)
    refine af J J (bd) (iD J J j4_k6_5 jS J J fun w8_9 q8_9 k8_9=>?_)
    have m8_9:=Kq.of1 (p:=[2,2,0,3,3]) j4_k6_5 (ac rfl (ac rfl (ac rfl (ac rfl (ac rfl aT))))) q8_9
    refine af J J (cE) (xv (cs':=[I ((kN:Nat):Int),I (r35:Int),B c37.sg,x37_0,x37_1]) J J k8_9 J ag (am.cons J (am.cons f37_0.one (am.cons f37_1.one am.nil))) J fun w8_11 q8_11 k8_11=>?_)
    have m8_11:=Kq.of1 (p:=[2,2,0,3,3]) k8_9 (ac rfl (ac rfl (ac rfl (ac rfl (ac rfl aT))))) q8_11
    refine ar ?_
    have j5_k37:=((k37.other q8_9 fun e=>by have h1:=k8.lt;have h2:=l6;have h3:=(Nb (Nb q10.size qL.size) q19.size);have h4:=Nc e;omega).other q8_11 fun e=>by have h1:=k8.lt;have h2:=l6;have h3:=(Nb (Nb q10.size qL.size) q19.size);have h4:=Nc e;omega)
    have j6_k2L:=((((((k2L.other q19 fun e=>by have h1:=k2.lt;have h2:=hgF;have h4:=Nc e;omega).ext x6_5).other q35 fun e=>by have h1:=k2.lt;have h2:=hgF;have h4:=Nc e;omega).other q37 fun e=>by have h1:=k2.lt;have h2:=hgF;have h4:=Nc e;omega).other q8_9 fun e=>by have h1:=k2.lt;have h2:=l6;have h3:=(Nb (Nb (Nb x8.size q10.size) qL.size) q19.size);have h4:=Nc e;omega).other q8_11 fun e=>by have h1:=k2.lt;have h2:=l6;have h3:=(Nb (Nb (Nb x8.size q10.size) qL.size) q19.size);have h4:=Nc e;omega)
    have j7_j3_k4L:=((((j3_k4L.other q35 fun e=>by have h1:=k8.lt;have h2:=l4;have h3:=q10.size;have h4:=Nc e;omega).other q37 fun e=>by have h1:=k8.lt;have h2:=l4;have h3:=q10.size;have h4:=Nc e;omega).other q8_9 fun e=>by have h1:=k4.lt;have h2:=l6;have h3:=(Nb (hsz) q19.size);have h4:=Nc e;omega).other q8_11 fun e=>by have h1:=k4.lt;have h2:=l6;have h3:=(Nb (hsz) q19.size);have h4:=Nc e;omega)
    exact cW (⟨3,(r35:Int),c37⟩,_,_) ⟨J,J,J,J,J,trivial⟩ ⟨xy k10 hb10 ((eQ (eQ (Nd (Nd (Nd (Nd (Nd (Nf _ _) qL) q19) (aZ x6_5)) q35) q37) q8_9 fun k e=>by have h1:=Nc e;have h2:=l6;have h3:=(Nb qL.size q19.size);omega) q8_11 fun k e=>by have h1:=Nc e;have h2:=l6;have h3:=(Nb qL.size q19.size);omega)),⟨a37,j5_k37,l37⟩,j6_k2L,j7_j3_k4L,by subst hk;exact k8_11,((f37_0.kq m8_9).kq m8_11),((f37_1.kq m8_9).kq m8_11),.inr ⟨.inl J,by show(0:Int)≤(r35:Int);omega,by show(r35:Int)<q.g.inp;omega,by show bt c37≤20;omega⟩,(bh.st cu (bh.st cu (bh.st cu (bh.st cu ((bh.st cu hP m19 q19 (aN kF hP).symm (by decide)).ext x6_5) m35 q35 (aN (k19.ext x6_5) ((bh.st cu hP m19 q19 (aN kF hP).symm (by decide)).ext x6_5)).symm (by decide)) m37 q37 (aN k35 (bh.st cu ((bh.st cu hP m19 q19 (aN kF hP).symm (by decide)).ext x6_5) m35 q35 (aN (k19.ext x6_5) ((bh.st cu hP m19 q19 (aN kF hP).symm (by decide)).ext x6_5)).symm (by decide))).symm (by decide)) m8_9 q8_9 (gp hP (Nb q19.size l6)).symm (by decide)) m8_11 q8_11 (gp hP (Nb q19.size l6)).symm (by decide)),(Nb (Nb (Nb (Nb (Nb (Nb (hsz) q19.size) x6_5.size) q35.size) q37.size) q8_9.size) q8_11.size)⟩
   ·refine ae (af J J (bW) (ak J J (ai ME J (k6_5.cell (i:=0) J)) ?_))
    refine ao J J J (be (by omega) aO) (ab J J (an J (af J J (bW) (an J (ak J J (ai ME J (k6_5.cell (i:=0) J)) (an J (ao J J J (bF (by omega) aO) (aG J J J (aI (cg J (ae (ab J J ?_))))))))))))
    have j8_k4L:=((k4L.other q19 fun e=>by have h1:=k8.lt;have h2:=l4;have h3:=q10.size;have h4:=Nc e;omega).ext x6_5)
    refine af J J (bz) (af J J (bG) (af J J (bS) (ak J J (ai ME J (j8_k4L.cell (i:=0) J)) (aq eU J J ((eV (n:=q.g.inp) (k19.ext x6_5) (dc hb10 k10 ((Nd (Nd (Nd (Nf _ _) qL) q19) (aZ x6_5)))) l19 (by have:=hq.g.i0;omega))) ?_))))
    rintro v35 w35 ⟨q35,⟨a35,k35,l35⟩,r35,hr35,rfl⟩
    have m35:=Kq.of1 (p:=[3,2]) (k19.ext x6_5) (ac hka (ac rfl aT)) q35
    refine ab J J (aq ko J J ((kt k35 (dc hb10 k10 ((Nd (Nd (Nd (Nd (Nf _ _) qL) q19) (aZ x6_5)) q35))) l35)) ?_)
    rintro v37 w37 ⟨q37,⟨a37,k37,l37⟩,c37,hc37,x37_0,x37_1,rfl,f37_0,f37_1⟩
    have m37:=Kq.of1 (p:=[3,2]) k35 (ac hka (ac rfl aT)) q37
    have j9_k6_5:=((k6_5.other q35 fun e=>by have h1:=k8.lt;have h2:=l6;have h3:=(Nb (Nb q10.size qL.size) q19.size);have h4:=Nc e;omega).other q37 fun e=>by have h1:=k8.lt;have h2:=l6;have h3:=(Nb (Nb q10.size qL.size) q19.size);have h4:=Nc e;omega)
    refine af J J (bd) (iD J J j9_k6_5 jS J J fun w8_9 q8_9 k8_9=>?_)
    have m8_9:=Kq.of1 (p:=[2,2,0,3,3]) j9_k6_5 (ac rfl (ac rfl (ac rfl (ac rfl (ac rfl aT))))) q8_9
    refine af J J (cE) (xv (cs':=[I ((kN:Nat):Int),I (r35:Int),B c37.sg,x37_0,x37_1]) J J k8_9 J ag (am.cons J (am.cons f37_0.one (am.cons f37_1.one am.nil))) J fun w8_11 q8_11 k8_11=>?_)
    have m8_11:=Kq.of1 (p:=[2,2,0,3,3]) k8_9 (ac rfl (ac rfl (ac rfl (ac rfl (ac rfl aT))))) q8_11
    refine ar ?_
    have j10_k37:=((k37.other q8_9 fun e=>by have h1:=k8.lt;have h2:=l6;have h3:=(Nb (Nb q10.size qL.size) q19.size);have h4:=Nc e;omega).other q8_11 fun e=>by have h1:=k8.lt;have h2:=l6;have h3:=(Nb (Nb q10.size qL.size) q19.size);have h4:=Nc e;omega)
    have j11_k2L:=((((((k2L.other q19 fun e=>by have h1:=k2.lt;have h2:=hgF;have h4:=Nc e;omega).ext x6_5).other q35 fun e=>by have h1:=k2.lt;have h2:=hgF;have h4:=Nc e;omega).other q37 fun e=>by have h1:=k2.lt;have h2:=hgF;have h4:=Nc e;omega).other q8_9 fun e=>by have h1:=k2.lt;have h2:=l6;have h3:=(Nb (Nb (Nb x8.size q10.size) qL.size) q19.size);have h4:=Nc e;omega).other q8_11 fun e=>by have h1:=k2.lt;have h2:=l6;have h3:=(Nb (Nb (Nb x8.size q10.size) qL.size) q19.size);have h4:=Nc e;omega)
    have j12_j8_k4L:=((((j8_k4L.other q35 fun e=>by have h1:=k8.lt;have h2:=l4;have h3:=q10.size;have h4:=Nc e;omega).other q37 fun e=>by have h1:=k8.lt;have h2:=l4;have h3:=q10.size;have h4:=Nc e;omega).other q8_9 fun e=>by have h1:=k4.lt;have h2:=l6;have h3:=(Nb (hsz) q19.size);have h4:=Nc e;omega).other q8_11 fun e=>by have h1:=k4.lt;have h2:=l6;have h3:=(Nb (hsz) q19.size);have h4:=Nc e;omega)
    exact cW (⟨4,(r35:Int),c37⟩,_,_) ⟨J,J,J,J,J,trivial⟩ ⟨xy k10 hb10 ((eQ (eQ (Nd (Nd (Nd (Nd (Nd (Nf _ _) qL) q19) (aZ x6_5)) q35) q37) q8_9 fun k e=>by have h1:=Nc e;have h2:=l6;have h3:=(Nb qL.size q19.size);omega) q8_11 fun k e=>by have h1:=Nc e;have h2:=l6;have h3:=(Nb qL.size q19.size);omega)),⟨a37,j10_k37,l37⟩,j11_k2L,j12_j8_k4L,by subst hk;exact k8_11,((f37_0.kq m8_9).kq m8_11),((f37_1.kq m8_9).kq m8_11),.inr ⟨.inr J,by show(0:Int)≤(r35:Int);omega,by show(r35:Int)<q.g.inp;omega,by show bt c37≤20;omega⟩,(bh.st cu (bh.st cu (bh.st cu (bh.st cu ((bh.st cu hP m19 q19 (aN kF hP).symm (by decide)).ext x6_5) m35 q35 (aN (k19.ext x6_5) ((bh.st cu hP m19 q19 (aN kF hP).symm (by decide)).ext x6_5)).symm (by decide)) m37 q37 (aN k35 (bh.st cu ((bh.st cu hP m19 q19 (aN kF hP).symm (by decide)).ext x6_5) m35 q35 (aN (k19.ext x6_5) ((bh.st cu hP m19 q19 (aN kF hP).symm (by decide)).ext x6_5)).symm (by decide))).symm (by decide)) m8_9 q8_9 (gp hP (Nb q19.size l6)).symm (by decide)) m8_11 q8_11 (gp hP (Nb q19.size l6)).symm (by decide)),(Nb (Nb (Nb (Nb (Nb (Nb (hsz) q19.size) x6_5.size) q35.size) q37.size) q8_9.size) q8_11.size)⟩
   ·refine ae (af J J (bW) (ak J J (ai ME J (k6_5.cell (i:=0) J)) ?_))
    refine ao J J J (be (by omega) aO) (ab J J (an J (af J J (bW) (an J (ak J J (ai ME J (k6_5.cell (i:=0) J)) (an J (ao J J J (be (by omega) aO) (aG J J J (aI (bU J (aj (bc ?_))))))))))))
    have j13_k4L:=((k4L.other q19 fun e=>by have h1:=k8.lt;have h2:=l4;have h3:=q10.size;have h4:=Nc e;omega).ext x6_5)
    refine af J J (bz) (af J J (bG) (af J J (bX) (ak J J (ai MI J (j13_k4L.cell (i:=1) J)) (bn J J (bB MI (((u1.kq mL).kq m19).ext x6_5)) (ao J J J (aO) (aI (ci J (fun h45=>?_) (fun h45=>?_))))))))
    ·refine bJ (aV (aV (aV (bP (ah (ae (ab J J (ao (r:=I ((r-1:Nat):Int)) J J J (by have e:((r-1:Nat):Int)=(r:Int)-1:=(by omega);rw[e];exact bT) ?_))))))))
     refine aa J J (ar ?_)
     have j14_k2L:=((k2L.other q19 fun e=>by have h1:=k2.lt;have h2:=hgF;have h4:=Nc e;omega).ext x6_5)
     refine cK (r-1) (pa) (x) ⟨J,J,J,J,trivial⟩ ⟨xy k10 hb10 ((Nd (Nd (Nd (Nf _ _) qL) q19) (aZ x6_5))),⟨a19,(k19.ext x6_5),l19⟩,j14_k2L,j13_k4L,by show pa.length+(r-1)≤3;omega,hpa,((bh.st cu hP m19 q19 (aN kF hP).symm (by decide)).ext x6_5),(Nb (Nb (hsz) q19.size) x6_5.size)⟩ (by omega)
    ·refine aA (ah (bc (ab J J (af J J (bz) (af J J (bG) ?_)))))
     refine af J J (bX) (ak J J (ai MI J (j13_k4L.cell (i:=1) J)) (bn J J (bB MI (((u1.kq mL).kq m19).ext x6_5)) (aq eU J J ((eV (n:=(q.g.us.length:Int)) (k19.ext x6_5) (dc hb10 k10 ((Nd (Nd (Nd (Nf _ _) qL) q19) (aZ x6_5)))) l19 (by omega))) ?_)))
     rintro v52 w52 ⟨q52,⟨a52,k52,l52⟩,r52,hr52,rfl⟩
     have m52:=Kq.of1 (p:=[3,2]) (k19.ext x6_5) (ac hka (ac rfl aT)) q52
     have j15_k6_5:=(k6_5.other q52 fun e=>by have h1:=k8.lt;have h2:=l6;have h3:=(Nb (Nb q10.size qL.size) q19.size);have h4:=Nc e;omega)
     refine af J J (bd) (iD J J j15_k6_5 jS J J fun w10_8 q10_8 k10_8=>?_)
     have m10_8:=Kq.of1 (p:=[2,2,0,3,3]) j15_k6_5 (ac rfl (ac rfl (ac rfl (ac rfl (ac rfl aT))))) q10_8
     refine aI (aj ?_)
     have kgD:=xy k10 hb10 ((eQ (Nd (Nd (Nd (Nd (Nf _ _) qL) q19) (aZ x6_5)) q52) q10_8 fun k e=>by have h1:=Nc e;have h2:=l6;have h3:=(Nb qL.size q19.size);omega))
     have qD:=kgD.q
     have mD:=kgD.m
     rcases(show gh ⟨q,pa,[]⟩ 1 (r52:Int)=true∨(gh ⟨q,pa,[]⟩ 1 (r52:Int)=false∧gh ⟨q,pa,[]⟩ 2 (r52:Int)=true)∨(gh ⟨q,pa,[]⟩ 1 (r52:Int)=false∧gh ⟨q,pa,[]⟩ 2 (r52:Int)=false) by cases gh ⟨q,pa,[]⟩ 1 (r52:Int)<;>cases gh ⟨q,pa,[]⟩ 2 (r52:Int)<;>simp) with hD|hD|hD
     ·refine ae ?_
      have j16_j13_k4L:=((j13_k4L.other q52 fun e=>by have h1:=k8.lt;have h2:=l4;have h3:=q10.size;have h4:=Nc e;omega).other q10_8 fun e=>by have h1:=k4.lt;have h2:=l6;have h3:=(Nb (hsz) q19.size);have h4:=Nc e;omega)
      refine ak J J (j16_j13_k4L.ld MM J bg) (af J J (bd) (ak J J (ai ME J (k10_8.cell (i:=1) J)) (aq jd J J ((by have h:=je (s:=⟨q,pa,[]⟩) (k:=1) (j:=(r52:Int)) (bQ.mk (dm (u1.kq mD) (u2.kq mD) (u3.kq mD) (u4.kq mD) (u5.kq mD) (u6.kq mD) (u7.kq mD) (u8.kq mD) (mB.dsv (bh.st cu (bh.st cu ((bh.st cu hP m19 q19 (aN kF hP).symm (by decide)).ext x6_5) m52 q52 (aN (k19.ext x6_5) ((bh.st cu hP m19 q19 (aN kF hP).symm (by decide)).ext x6_5)).symm (by decide)) m10_8 q10_8 (gp hP (Nb q19.size l6)).symm (by decide))) (cF.nil _ _))) hq hpa;rw[hD] at h;exact h)) ?_)))
      rintro v57 w57 ⟨x57,rfl⟩
      refine ab J J (bf J J J (bf J J J (bf J J J (bf J J J (aR J J J (aI (cg J (bJ (aV (aV (bP (ah (ae (ab J J (ao (r:=I ((r-1:Nat):Int)) J J J (by have e:((r-1:Nat):Int)=(r:Int)-1:=(by omega);rw[e];exact bT) (aa J J (ar ?_)))))))))))))))))
      have j17_k52:=((k52.other q10_8 fun e=>by have h1:=k8.lt;have h2:=l6;have h3:=(Nb (Nb q10.size qL.size) q19.size);have h4:=Nc e;omega).ext x57)
      have j18_k2L:=(((((k2L.other q19 fun e=>by have h1:=k2.lt;have h2:=hgF;have h4:=Nc e;omega).ext x6_5).other q52 fun e=>by have h1:=k2.lt;have h2:=hgF;have h4:=Nc e;omega).other q10_8 fun e=>by have h1:=k2.lt;have h2:=l6;have h3:=(Nb (Nb (Nb x8.size q10.size) qL.size) q19.size);have h4:=Nc e;omega).ext x57)
      refine cK (r-1) (pa) (x) ⟨J,J,J,J,trivial⟩ ⟨xy k10 hb10 ((Nd (Nd (Nf _ _) qD) (aZ x57))),⟨a52,j17_k52,l52⟩,j18_k2L,(j16_j13_k4L.ext x57),by show pa.length+(r-1)≤3;omega,hpa,((bh.st cu (bh.st cu ((bh.st cu hP m19 q19 (aN kF hP).symm (by decide)).ext x6_5) m52 q52 (aN (k19.ext x6_5) ((bh.st cu hP m19 q19 (aN kF hP).symm (by decide)).ext x6_5)).symm (by decide)) m10_8 q10_8 (gp hP (Nb q19.size l6)).symm (by decide)).ext x57),(Nb (Nb (Nb (Nb (Nb (hsz) q19.size) x6_5.size) q52.size) q10_8.size) x57.size)⟩ (by omega)
     ·refine ae ?_
      have j19_j13_k4L:=((j13_k4L.other q52 fun e=>by have h1:=k8.lt;have h2:=l4;have h3:=q10.size;have h4:=Nc e;omega).other q10_8 fun e=>by have h1:=k4.lt;have h2:=l6;have h3:=(Nb (hsz) q19.size);have h4:=Nc e;omega)
      refine ak J J (j19_j13_k4L.ld MM J bg) (af J J (bd) (ak J J (ai ME J (k10_8.cell (i:=1) J)) (aq jd J J ((by have h:=je (s:=⟨q,pa,[]⟩) (k:=1) (j:=(r52:Int)) (bQ.mk (dm (u1.kq mD) (u2.kq mD) (u3.kq mD) (u4.kq mD) (u5.kq mD) (u6.kq mD) (u7.kq mD) (u8.kq mD) (mB.dsv (bh.st cu (bh.st cu ((bh.st cu hP m19 q19 (aN kF hP).symm (by decide)).ext x6_5) m52 q52 (aN (k19.ext x6_5) ((bh.st cu hP m19 q19 (aN kF hP).symm (by decide)).ext x6_5)).symm (by decide)) m10_8 q10_8 (gp hP (Nb q19.size l6)).symm (by decide))) (cF.nil _ _))) hq hpa;rw[hD.1] at h;exact h)) ?_)))
      rintro v57 w57 ⟨x57,rfl⟩
      refine ab J J (an J (ak J J ((j19_j13_k4L.ext x57).ld MM J bg) (an J (af J J (bd) (an J (ak J J (ai ME J (x57.cell_some (k10_8.cell (i:=1) J))) (an J (aq jd J J ((by have h:=je (s:=⟨q,pa,[]⟩) (k:=2) (j:=(r52:Int)) (bQ.mk (dm ((u1.kq mD).ext x57) ((u2.kq mD).ext x57) ((u3.kq mD).ext x57) ((u4.kq mD).ext x57) ((u5.kq mD).ext x57) ((u6.kq mD).ext x57) ((u7.kq mD).ext x57) ((u8.kq mD).ext x57) (mB.dsv ((bh.st cu (bh.st cu ((bh.st cu hP m19 q19 (aN kF hP).symm (by decide)).ext x6_5) m52 q52 (aN (k19.ext x6_5) ((bh.st cu hP m19 q19 (aN kF hP).symm (by decide)).ext x6_5)).symm (by decide)) m10_8 q10_8 (gp hP (Nb q19.size l6)).symm (by decide)).ext x57)) (cF.nil _ _))) hq hpa;rw[hD.2] at h;exact h)) ?_))))))))
      rintro v62 w62 ⟨x62,rfl⟩
      refine aG J J J (aI (cg J (bJ (aV (aV (bP (ah (ae (ab J J (ao (r:=I ((r-1:Nat):Int)) J J J (by have e:((r-1:Nat):Int)=(r:Int)-1:=(by omega);rw[e];exact bT) (aa J J (ar ?_))))))))))))
      have j20_k52:=(((k52.other q10_8 fun e=>by have h1:=k8.lt;have h2:=l6;have h3:=(Nb (Nb q10.size qL.size) q19.size);have h4:=Nc e;omega).ext x57).ext x62)
      have j21_k2L:=((((((k2L.other q19 fun e=>by have h1:=k2.lt;have h2:=hgF;have h4:=Nc e;omega).ext x6_5).other q52 fun e=>by have h1:=k2.lt;have h2:=hgF;have h4:=Nc e;omega).other q10_8 fun e=>by have h1:=k2.lt;have h2:=l6;have h3:=(Nb (Nb (Nb x8.size q10.size) qL.size) q19.size);have h4:=Nc e;omega).ext x57).ext x62)
      refine cK (r-1) (pa) (x) ⟨J,J,J,J,trivial⟩ ⟨xy k10 hb10 ((Nd (Nd (Nd (Nf _ _) qD) (aZ x57)) (aZ x62))),⟨a52,j20_k52,l52⟩,j21_k2L,(j19_j13_k4L.ext (x57.trans x62)),by show pa.length+(r-1)≤3;omega,hpa,(((bh.st cu (bh.st cu ((bh.st cu hP m19 q19 (aN kF hP).symm (by decide)).ext x6_5) m52 q52 (aN (k19.ext x6_5) ((bh.st cu hP m19 q19 (aN kF hP).symm (by decide)).ext x6_5)).symm (by decide)) m10_8 q10_8 (gp hP (Nb q19.size l6)).symm (by decide)).ext x57).ext x62),(Nb (Nb (Nb (Nb (Nb (Nb (hsz) q19.size) x6_5.size) q52.size) q10_8.size) x57.size) x62.size)⟩ (by omega)
     ·refine ae ?_
      have j22_j13_k4L:=((j13_k4L.other q52 fun e=>by have h1:=k8.lt;have h2:=l4;have h3:=q10.size;have h4:=Nc e;omega).other q10_8 fun e=>by have h1:=k4.lt;have h2:=l6;have h3:=(Nb (hsz) q19.size);have h4:=Nc e;omega)
      refine ak J J (j22_j13_k4L.ld MM J bg) (af J J (bd) (ak J J (ai ME J (k10_8.cell (i:=1) J)) (aq jd J J ((by have h:=je (s:=⟨q,pa,[]⟩) (k:=1) (j:=(r52:Int)) (bQ.mk (dm (u1.kq mD) (u2.kq mD) (u3.kq mD) (u4.kq mD) (u5.kq mD) (u6.kq mD) (u7.kq mD) (u8.kq mD) (mB.dsv (bh.st cu (bh.st cu ((bh.st cu hP m19 q19 (aN kF hP).symm (by decide)).ext x6_5) m52 q52 (aN (k19.ext x6_5) ((bh.st cu hP m19 q19 (aN kF hP).symm (by decide)).ext x6_5)).symm (by decide)) m10_8 q10_8 (gp hP (Nb q19.size l6)).symm (by decide))) (cF.nil _ _))) hq hpa;rw[hD.1] at h;exact h)) ?_)))
      rintro v57 w57 ⟨x57,rfl⟩
      refine ab J J (an J (ak J J ((j22_j13_k4L.ext x57).ld MM J bg) (an J (af J J (bd) (an J (ak J J (ai ME J (x57.cell_some (k10_8.cell (i:=1) J))) (an J (aq jd J J ((by have h:=je (s:=⟨q,pa,[]⟩) (k:=2) (j:=(r52:Int)) (bQ.mk (dm ((u1.kq mD).ext x57) ((u2.kq mD).ext x57) ((u3.kq mD).ext x57) ((u4.kq mD).ext x57) ((u5.kq mD).ext x57) ((u6.kq mD).ext x57) ((u7.kq mD).ext x57) ((u8.kq mD).ext x57) (mB.dsv ((bh.st cu (bh.st cu ((bh.st cu hP m19 q19 (aN kF hP).symm (by decide)).ext x6_5) m52 q52 (aN (k19.ext x6_5) ((bh.st cu hP m19 q19 (aN kF hP).symm (by decide)).ext x6_5)).symm (by decide)) m10_8 q10_8 (gp hP (Nb q19.size l6)).symm (by decide)).ext x57)) (cF.nil _ _))) hq hpa;rw[hD.2] at h;exact h)) ?_))))))))
      rintro v62 w62 ⟨x62,rfl⟩
      refine aG J J J (aI (bU J (aA ?_)))
      have j23_k52:=(((k52.other q10_8 fun e=>by have h1:=k8.lt;have h2:=l6;have h3:=(Nb (Nb q10.size qL.size) q19.size);have h4:=Nc e;omega).ext x57).ext x62)
      have j24_k2L:=((((((k2L.other q19 fun e=>by have h1:=k2.lt;have h2:=hgF;have h4:=Nc e;omega).ext x6_5).other q52 fun e=>by have h1:=k2.lt;have h2:=hgF;have h4:=Nc e;omega).other q10_8 fun e=>by have h1:=k2.lt;have h2:=l6;have h3:=(Nb (Nb (Nb x8.size q10.size) qL.size) q19.size);have h4:=Nc e;omega).ext x57).ext x62)
      exact cW (⟨(kN:Int),(r52:Int),0⟩,_,_) ⟨J,J,J,J,J,trivial⟩ ⟨xy k10 hb10 ((Nd (Nd (Nd (Nf _ _) qD) (aZ x57)) (aZ x62))),⟨a52,j23_k52,l52⟩,j24_k2L,(j22_j13_k4L.ext (x57.trans x62)),(k10_8.ext (x57.trans x62)),bH.nil _,bH.nil _,.inl ⟨by show(kN:Int)=1∨(kN:Int)=2;omega,by show(0:Int)≤(r52:Int);omega,by show(r52:Int)<(q.g.us.length:Int);omega,J⟩,(((bh.st cu (bh.st cu ((bh.st cu hP m19 q19 (aN kF hP).symm (by decide)).ext x6_5) m52 q52 (aN (k19.ext x6_5) ((bh.st cu hP m19 q19 (aN kF hP).symm (by decide)).ext x6_5)).symm (by decide)) m10_8 q10_8 (gp hP (Nb q19.size l6)).symm (by decide)).ext x57).ext x62),(Nb (Nb (Nb (Nb (Nb (Nb (hsz) q19.size) x6_5.size) q52.size) q10_8.size) x57.size) x62.size)⟩
  rintro⟨d,da,db⟩ wC ⟨hKC,⟨aC,kFC,lFC⟩,k2C,k4C,k6C,d1,d2,hfd,hP,hszC⟩
  refine ah ?_
  have mC:=hKC.m
  have qC:=hKC.q
  refine ae (af J J (cx) (ak J J (ai MO J (k4C.cell (i:=10) J)) (ak J J (k6C.ld MW J cH) ?_)))
  obtain⟨v67,w67,hr67,x67,b67⟩:=Lk (w:=wC) (lf (a:=d) d1 d2)
  refine bN (vs:=[(0,.agg #[I d.kd,I d.ix,B d.at_.sg,da,db])]) J J hr67 ?_
  obtain⟨v68,w68,hr68,o68,g68⟩:=HZ (ty:=54) (hP.ext x67) b67 (by simp only[List.length_cons,List.length_nil];omega) (Nb qC.size x67.size)
  refine df J J hr68 ?_
  have m68:=((hP.ext x67)).kqG g68 (by decide)
  have i25_k4C:=(k4C.ext x67)
  have j26_k4C:=(i25_k4C.other g68.grown (aN i25_k4C (hP.ext x67)))
  refine af J J (cx) (iD J J j26_k4C pj o68.one J fun w12_6 q12_6 k12_6=>?_)
  have m12_6:=Kq.of1 (p:=[2,3,3,3,3,3,3,0,3,3,3,3]) j26_k4C (ac rfl (ac u1.kd (ac u2.kd (ac u3.kd (ac u4.kd (ac u5.kd (ac u6.kd (ac rfl (ac u7.kd (ac u8.kd (ac hP.kd (ac rfl aT)))))))))))) q12_6
  refine ar (aW (ah (ae (ab J J (ao (r:=I ((r-1:Nat):Int)) J J J (by have e:((r-1:Nat):Int)=(r:Int)-1:=(by omega);rw[e];exact bT) (aa J J (ar ?_)))))))
  have i27_kFC:=(kFC.ext x67)
  have j28_kFC:=((i27_kFC.other g68.grown (aN i27_kFC (hP.ext x67))).other q12_6 fun e=>by have h1:=k8.lt;have h2:=l4;have h3:=q10.size;have h4:=Nc e;omega)
  have i29_k2C:=(k2C.ext x67)
  have j30_k2C:=((i29_k2C.other g68.grown (aN i29_k2C (hP.ext x67))).other q12_6 fun e=>by have h1:=k2.lt;have h2:=l4;have h3:=(Nb x8.size q10.size);have h4:=Nc e;omega)
  refine cK (r-1) (pa++[d]) (_) ⟨J,J,J,J,trivial⟩ ⟨xy k10 hb10 ((eQ (eQ (Nd (Nd (Nf _ _) qC) (aZ x67)) g68.grown fun k e=>(((hP.ext x67)).ge k e)) q12_6 fun k e=>by have h1:=Nc e;have h2:=l4;omega)),⟨aC,j28_kFC,lFC⟩,j30_k2C,k12_6,by rw[List.length_append,List.length_singleton];omega,wX hpa hfd,(bh.st cu o68 m12_6 q12_6 (aN j26_k4C o68).symm (by decide)),(Nb (Nb (Nb (hszC) x67.size) g68.grown.size) q12_6.size)⟩ (by omega)
 ·refine bJ (aV (aV (bP (ah (bc (ak J J (k4L.ld MM J bg) ?_))))))
  refine bD J J k2L J bg (am.cons J (am.cons u1.one (am.cons u2.one (am.cons u3.one (am.cons u4.one (am.cons u5.one (am.cons u6.one (am.cons J (am.cons u7.one (am.cons u8.one (am.cons hP.one (am.cons J am.nil)))))))))))) fun w13_1 q13_1 k13_1=>?_
  have x13_1:=aH.of_new ((x2.trans (aH.of_new x8 (q10.trans qL) hgF))) q13_1 l2
  have m13_1:=Kq.of1 (p:=[2,3,3,3,3,3,3,0,3,3,3,3]) k2L (ac rfl (ac rfl (ac rfl (ac rfl (ac rfl (ac rfl (ac rfl (ac rfl (ac rfl (ac rfl (ac rfl (ac rfl aT)))))))))))) q13_1
  refine aI (aD (bp J (.cell J (k13_1.ld MM J bg) .nil) ?_))
  have hg2:g2<w8.heap.size:=Nk k2.lt x8.size
  have t1:∀{l v},i2 w8.heap.size dZ l v w10→cF dZ l v w13_1:=fun h=>(i2.st (h.kq mL) hg2 q13_1 m13_1 (by decide)).1
  have t2:∀{l v},i2 w8.heap.size dQ l v w10→cF dQ l v w13_1:=fun h=>(i2.st (h.kq mL) hg2 q13_1 m13_1 (by decide)).1
  exact⟨_,J,x13_1,⟨q,pa,[]⟩,⟨⟨hq,by show pa.length≤4;omega,hpa,by show 0≤8;omega⟩,J⟩,bQ.mk (dm (a:=⟨q,pa,[]⟩) (t1 f1) (t1 f2) (t2 f3) (t2 f4) (t1 f5) ((u6.kq mL).kq m13_1) ((u7.kq mL).kq m13_1) ((u8.kq mL).kq m13_1) (mB.dsv (bh.st cu hP m13_1 q13_1 (aN k2L hP).symm (by decide))) (cF.nil _ _))⟩
end Go.Rl
namespace Go.Rl
open Go.RowKit Go.Proofs
theorem Af:az Tryz.prog 17:=⟨_,Tryz.func17,by kernel_rfl,rfl⟩
theorem Gr {k:Nat} (h:k≤8):bt (mkRat (k:Int) (8:Int).natAbs)≤5:=by
 have e:bl 8=4:=by decide
 refine xW (k:=4) (by decide) ?_ (by rw[←e];exact Ng _)
 rw[←e];exact jg (by omega)
theorem u8_9 (x:UInt8):(x%9).toNat≤8:=by
 rw[UInt8.toNat_mod]
 have:x.toNat%(9:UInt8).toNat<9:=Nat.mod_lt _ (by decide)
 omega
theorem app1 {L:List Rat} {n:Nat} {c:Rat} (h:∀y∈L,bt y≤n) (hc:bt c≤n):∀y∈L++[c],bt y≤n:=fun y hy=>by
 rcases List.mem_append.1 hy with hy|hy
 ·exact h y hy
 ·obtain rfl:y=c:=by simpa using hy
  exact hc
theorem Ag {w:World} {r:CK} {n:Int} {raw:List UInt8} {v u:Value} (hv:bQ GZ r v w) (hu:lP raw u w) (hs:G0 r n):
 Calls Tryz.prog 17 #[v,u] w (cA fun e w'=>aH w w'∧∃x:List Rat,(x.length:Int)=n∧(∀y∈x,bt y≤100)∧cF dQ x e w'):=by
 obtain⟨_,rfl,ra⟩:=hv
 obtain⟨ga,gb,gc,rfl,ia,ib,ic⟩:=qR ra
 have h1:=hs.n0
 have h2:=hs.n1
 have h3:=hs.ll
 have h4:=hs.hl
 have hrl:=hu.len
 refine enter (vs:=[.agg #[ga,gb,gc],u]) Tryz.func17 J J J (bc (cj J J fun g2 w2 l2 x2 k2=>(aa J J (dR (aa J J (aI (aj (bc (aa J J (aI (aJ (fi (fun(i:Nat) (L:List Rat) (vo:Value)=>[(1,u),(2,.pointer (some ⟨g2,0,none⟩)),(5,vo),(6,I (i:Int))]) (fun(i:Nat) (L:List Rat) (vo:Value) w'=>aH w2 w'∧i≤r.lo.length∧L.length=i∧(∀y∈L,bt y≤100)∧pS w2.heap.size L vo w') (fun(i:Nat) (L:List Rat) (vo:Value)=>r.lo.length-i) (0) ([]) (.slice none 0 0) ⟨J,J,J,J,trivial⟩ ⟨aH.refl _,by omega,J,by simp,bh.nil _⟩ ?_))))))))))))
 rintro i L vo wL ⟨eL,hi,hLl,hLb,hO⟩
 refine aj (bc (ab J J (af J J (cO) (ak J J (ai MK J (eL.cell_some (k2.cell (i:=0) J))) (bn J J (bB MK (ia.ext (x2.trans eL))) (ao J J J (aX) (aI (ci J (fun h14=>?_) (fun h14=>?_)))))))))
 ·refine aA (ah (aj (aJ (bc (aa J J (aI (aj ?_)))))))
  refine i3 (fun k:Nat=>[(1,u),(2,.pointer (some ⟨g2,0,none⟩)),(5,vo),(6,I (i:Int)),(7,I (k:Int))]) (fun k w'=>w'=wL∧k≤8) ?_ ?_
  ·refine bc (ab J J (ab J J (bn J J (og (hu.ext (x2.trans eL))) (ao J J J (aX) (aI ?_)))))
   refine ci J (fun h20=>?_) (fun h20=>?_)
   ·refine ae (ab J J (ab J J ?_))
    obtain⟨a23,p23,q23⟩:=Ko (hu.ext (x2.trans eL)) (i:=i) (by omega) .i64
    refine aE J J J (p23 _) (ak J J (ai MZ J q23) (ao (v:=U8 9) J J J (vA (by decide)) (cm J J (od MZ ME) (aa J J (ar ?_)))))
    exact cW ((raw[i]'(by omega)%9).toNat) ⟨J,J,J,J,J,trivial⟩ ⟨J,u8_9 _⟩
   ·refine aA ?_
    exact cW 0 ⟨J,J,J,J,J,trivial⟩ ⟨J,by omega⟩
  rintro k _ ⟨rfl,hk8⟩
  refine ah (bc (ab J J (aq wq J J ((wv (a:=(k:Int)) (b:=8) (by omega) (by omega) (by omega) (by omega))) ?_)))
  rintro v29 w29 ⟨x29,⟨_,_,rfl,⟨x29_a_0,x29_a_1,rfl,f29_a_0,f29_a_1⟩,rfl⟩⟩
  have hbk:=Gr hk8
  have hlh:=hs.lh i (by omega) (by omega)
  obtain⟨ea,hea⟩:∃ea,ea=r.lo[i]'(by omega):=⟨_,rfl⟩
  obtain⟨eb,heb⟩:∃eb,eb=r.hi[i]'(by omega):=⟨_,rfl⟩
  rw[←hea,←heb] at hlh
  refine ab J J (aB J J cY (aB J J cZ (ce bv J fun g8 w8 l8 x8 k8=>bD J J k8 J ag (am.cons J (am.cons f29_a_0.one (am.cons f29_a_1.one am.nil))) fun w8_6 q8_6 k8_6=>?_)))
  have x8_6:=aH.of_new (x8) q8_6 l8
  refine aa J J (aI (bj 21 [1,2,6,32,52] (by kernel_rfl) (by kernel_rfl) ?_))
  have e1:=(eL.trans x29).trans x8_6
  refine ax J J (al J J (fun w hw=>cO) (ap J J (fun w hw=>ai MK J (hw.cell_some (e1.cell_some (k2.cell (i:=0) J)))) (ax J J ?_)))
  have e3:=((x2.trans eL).trans x29).trans x8_6
  obtain⟨a36,c36,p36,q36,h36⟩:=cP (P:=Tryz.prog) (sz:=3) MK (by kernel_rfl) gy (by omega) (ia.ext e3) (i:=i) (by omega) .i64
  rw[←hea] at h36
  obtain⟨x36_0,x36_1,rfl,f36_0,f36_1⟩:=dO h36
  refine aK J J J (fun w _=>p36 w) (ap J J (fun w hw=>(q36.ext hw).ld MC J ag) (ap J J (fun w hw=>(k8_6.ext hw).ld MC J ag) (al J J (fun w hw=>du) (ap J J (fun w hw=>ai MK J (hw.cell_some (e1.cell_some (k2.cell (i:=1) J)))) (ax J J ?_)))))
  obtain⟨a42,c42,p42,q42,h42⟩:=cP (P:=Tryz.prog) (sz:=3) MK (by kernel_rfl) gy (by omega) (ib.ext e3) (i:=i) (by omega) .i64
  rw[←heb] at h42
  obtain⟨x42_0,x42_1,rfl,f42_0,f42_1⟩:=dO h42
  refine aK J J J (fun w _=>p42 w) (ap J J (fun w hw=>(q42.ext hw).ld MC J ag) (al J J (fun w hw=>cO) (ap J J (fun w hw=>ai MK J (hw.cell_some (e1.cell_some (k2.cell (i:=0) J)))) (ax J J (aK J J J (fun w _=>p36 w) (ap J J (fun w hw=>(q36.ext hw).ld MC J ag) ?_))))))
  have z49_1:=oC eb ea
  refine ec (S:=QV (eb-ea)) yw (QV.stable _) J J J (fun w hw=>KG ((aU.mk f42_0 f42_1).ext hw) ((aU.mk f36_0 f36_1).ext hw) (by omega)) ?_
  have z50_2:=f7 (mkRat (k:Int) (8:Int).natAbs) (eb-ea)
  refine bZ (S:=QV ((mkRat (k:Int) (8:Int).natAbs)*(eb-ea))) qV (QV.stable _) J (fun w hw=>by rintro _ rfl v49 h49;exact EM ((aU.mk (f29_a_0.ext x8_6) (f29_a_1.ext x8_6)).ext hw) h49 (by omega)) ?_
  have z51_3:=gP ea ((mkRat (k:Int) (8:Int).natAbs)*(eb-ea))
  refine bZ (S:=QV (ea+((mkRat (k:Int) (8:Int).natAbs)*(eb-ea)))) ke (QV.stable _) J (fun w hw=>by rintro _ rfl v50 h50;exact yz ((aU.mk f36_0 f36_1).ext hw) h50 (by omega)) (dv (S:=cF dQ [(ea+((mkRat (k:Int) (8:Int).natAbs)*(eb-ea)))]) (cF.stable _ _) J (fun w hw=>by rintro _ ⟨_,_,rfl,p,q⟩;exact uu (ly p q)) (bA ?_))
  rintro wg9 xg9 _ hq1
  obtain rfl:=Eq.symm hq1
  rintro _ rfl _ rfl _ hq32
  obtain rfl:=Eq.symm hq32
  intro vg52 b52
  have e2:=(x29.trans x8_6).trans xg9
  obtain⟨v53,w53,hr53,o53,g53⟩:=yf (ty:=42) (hO.ext e2) b52 (by simp only[List.length_cons,List.length_nil];omega) ((e1.trans xg9)).size
  refine df J J hr53 ?_
  have x53:=aH.of_grew ((e1.trans xg9)) g53 ((hO.ext e2)).ge
  have m53:=((hO.ext e2)).kqG g53 (by decide)
  refine aa J J (ar (aW (ah (ae (ab J J (ao (r:=I ((i+1:Nat):Int)) J J J (by have e:((i+1:Nat):Int)=(i:Int)+1:=(by omega);rw[e];exact aY) (aa J J (ar (cK (i+1) (_) (_) ⟨J,J,J,J,trivial⟩ ⟨x53,by omega,by simp[hLl],app1 hLb (by omega),o53⟩ (by omega))))))))))
 ·refine bJ (aV (aV (bP (ah (bc (ab J J (aa J J (aI (aD (aF J J ?_))))))))))
  exact⟨_,J,(x2.trans eL),L,by omega,hLb,hO.dsv⟩
end Go.Rl
namespace Go.Rl
def xz (kd sg i:Int) (b:Rat) (d:nw):Rat:=if d.kd=kd∧d.ix=i∧f6 d.at_ b=sg then d.at_ else b
def uZ (s:eX) (i:Nat) (up:Bool):Rat:=s.pa.foldl (xz (if up then 4 else 3) (if up then-1 else 1) i) (if up then s.q.r.hi.getD i 0 else s.q.r.lo.getD i 0)
def Ah (s:eX) (j:Int):Rat:=if 0<(cy s.lm j).1∧0<dA s.lm (cy s.lm j).1 then dA s.lm (cy s.lm j).1 else 0
def rG (s:eX) (j:Int):Rat:=if iB s j (cy s.lm j).2=true then 0 else dA s.lm (cy s.lm j).2
def jm (s:eX) (v:Int) (up:Bool):Rat:=if v-s.q.g.inp<0 then uZ s v.toNat up else if up then rG s (v-s.q.g.inp) else Ah s (v-s.q.g.inp)
def uc (s:eX) (c:Rat) (t:dU):Rat:=c+t.co*jm s t.va (decide (t.co<0))
def nr (s:eX) (f:dx):Rat:=f.ts.foldl (uc s) f.ct
def mO (l u:Rat):Int:=if (l<0∧0<u)∧ -l<u then 1 else 0
def ls (l u:Rat):Rat:= -(l*u)/(u-l)
def gw (s:eX) (j:Nat) (p:dx) (c:Rat):dx:=
 if nV s j (cy s.lm j).1=true then p else if iB s j (cy s.lm j).2=true then zF else
 if 0<c then(if mO (dA s.lm (cy s.lm j).1) (dA s.lm (cy s.lm j).2)=1 then p else zF)
 else lj (cN p (dA s.lm (cy s.lm j).2/(dA s.lm (cy s.lm j).2-dA s.lm (cy s.lm j).1))) ⟨[],ls (dA s.lm (cy s.lm j).1) (dA s.lm (cy s.lm j).2)⟩
def iS (s:eX) (f:dx) (j:Nat) (p:dx):dx:=if iz f (s.q.g.inp+j)=0 then f else jV f (s.q.g.inp+j) (gw s j p (iz f (s.q.g.inp+j)))
def fE (s:eX):Nat→dx→dx
 |0,f=>f
 |k+1,f=>match s.q.g.us[k]? with
  |some p=>fE s k (iS s f k p)
  |none=>f
def s6 (s:eX) (f:dx):Rat:=nr s (fE s s.q.g.us.length f)
def nX (s:eX) (f:dx):Rat:=if nr s f<s6 s f then s6 s f else nr s f
structure Gs (s:eX) (X:Int→Rat) (pre:Nat→Rat) (n:Nat):Prop where
 i0:0≤s.q.g.inp
 us:∀(j:Nat) (h:j<s.q.g.us.length),i8 s.q.g.us[j] (s.q.g.inp+j)=true
 inp:∀i:Nat,(i:Int)<s.q.g.inp→uZ s i false≤X i∧X i≤uZ s i true
 un:∀j:Nat,j<s.q.g.us.length→X (s.q.g.inp+j)=max (pre j) 0
 pr:∀(j:Nat) (h:j<s.q.g.us.length),qX X s.q.g.us[j]=pre j
 on:∀j:Nat,j<s.q.g.us.length→gh s 1 j=true→0≤pre j
 off:∀j:Nat,j<s.q.g.us.length→gh s 2 j=true→pre j≤0
 nu:n≤s.q.g.us.length
 kn:∀j:Nat,j<n→0<(cy s.lm j).1∧0<(cy s.lm j).2
 lo:∀j:Nat,j<n→dA s.lm (cy s.lm j).1≤pre j
 hi:∀j:Nat,j<n→pre j≤dA s.lm (cy s.lm j).2
section
variable {s:eX} {X:Int→Rat} {pre:Nat→Rat} {n:Nat}
theorem IC (h:Gs s X pre n) {j:Nat} (hj:j<n) (ho:nV s j (cy s.lm j).1=true):0≤pre j:=by
 unfold nV at ho
 rw[Bool.or_eq_true,Bool.and_eq_true,decide_eq_true_eq,decide_eq_true_eq] at ho
 have h1:=h.lo j hj
 rcases ho with ho|⟨_,ho⟩
 ·exact h.on j (by have:=h.nu;omega) ho
 ·grind
theorem yI (h:Gs s X pre n) {j:Nat} (hj:j<n) (ho:iB s j (cy s.lm j).2=true):pre j≤0:=by
 unfold iB at ho
 rw[Bool.or_eq_true,Bool.and_eq_true,decide_eq_true_eq,decide_eq_true_eq] at ho
 have h1:=h.hi j hj
 rcases ho with ho|⟨_,ho⟩
 ·exact h.off j (by have:=h.nu;omega) ho
 ·grind
theorem J1 (h:Gs s X pre n) {v:Int} (h0:0≤v) (h1:v<s.q.g.inp+n):jm s v false≤X v∧X v≤jm s v true:=by
 unfold jm
 by_cases hi:v-s.q.g.inp<0
 ·rw[if_pos hi,if_pos hi]
  obtain⟨i,rfl⟩:∃i:Nat,v=i:=⟨v.toNat,by omega⟩
  rw[Int.toNat_natCast]
  exact h.inp i (by omega)
 ·rw[if_neg hi,if_neg hi]
  obtain⟨j,rfl⟩:∃j:Nat,v=s.q.g.inp+j:=⟨(v-s.q.g.inp).toNat,by omega⟩
  have hj:j<n:=by omega
  have e:s.q.g.inp+(j:Int)-s.q.g.inp=j:=by omega
  have h2:=h.lo j hj
  have h3:=h.hi j hj
  have h4:=h.un j (by have:=h.nu;omega)
  rw[e,h4]
  refine⟨?_,?_⟩
  ·rw[if_neg (by decide)]
   unfold Ah
   split<;>grind
  ·rw[if_pos rfl]
   unfold rG
   split
   ·rename_i ho
    have:=yI h hj ho
    grind
   ·rename_i ho
    unfold iB at ho
    rw[Bool.or_eq_true,Bool.and_eq_true,decide_eq_true_eq,decide_eq_true_eq] at ho
    have:=(h.kn j hj).2
    have:¬dA s.lm (cy s.lm j).2≤0:=fun hc=>ho (.inr ⟨this,hc⟩)
    grind
theorem s7 {c a b:Rat} (hc:0≤c) (h:a≤b):c*a≤c*b:=by
 have:=Rat.mul_nonneg hc (show 0≤b-a by grind)
 grind
theorem ID (h:Gs s X pre n) {c:Rat} {t:dU} (h0:0≤t.va) (h1:t.va<s.q.g.inp+n):uc s c t≤c+t.co*X t.va:=by
 have h2:=J1 h h0 h1
 unfold uc
 by_cases hc:t.co<0
 ·rw[decide_eq_true hc]
  have:=s7 (show 0≤ -t.co by grind) h2.2
  grind
 ·rw[decide_eq_false hc]
  have:=s7 (show 0≤t.co by grind) h2.1
  grind
theorem BL (h:Gs s X pre n):∀(l:List dU) (c d:Rat),c≤d→(∀t∈l,0≤t.va∧t.va<s.q.g.inp+n)→l.foldl (uc s) c≤d+rx X l
 |[],c,d,hc,_=>by simp only[List.foldl_nil,rx];grind
 |t::l,c,d,hc,hl=>by
  rw[List.foldl_cons,rx]
  have h1:=hl t (by simp)
  have h2:=ID (c:=c) h h1.1 h1.2
  have h3:=BL h l (uc s c t) (d+t.co*X t.va) (by grind) fun u hu=>hl u (List.mem_cons_of_mem _ hu)
  grind
theorem Ai (h:Gs s X pre n) {f:dx} (hf:i8 f (s.q.g.inp+n)=true):nr s f≤qX X f:=
 BL h f.ts f.ct f.ct (Rat.le_refl) fun t ht=>by have:=ft hf t ht;omega
theorem wY {n v:Int} {lo:Int} {l:List dU} (h:po n lo l=true) (hv:n≤v):i7 v l=0:=
 (oR fun t ht=>by have:=ft h t ht;omega).1
theorem BM {v:Int}:∀{l:List dU} {n lo:Int},po n lo l=true→i7 v l=0→∀t∈l,t.va≠v
 |[],_,_,_,_=>by simp
 |t::l,n,lo,h,h0=>by
  rw[eg] at h
  rw[i7] at h0
  intro u hu
  by_cases hv:t.va=v
  ·rw[if_pos hv] at h0;exact absurd h0 h.1.2.2
  ·rw[if_neg hv] at h0
   rcases List.mem_cons.1 hu with rfl|hu
   ·exact hv
   ·exact BM h.2 h0 u hu
theorem Dw {n:Int} {m:Int}:∀{l:List dU} {lo:Int},po n lo l=true→(∀t∈l,t.va<m)→po m lo l=true
 |[],_,_,_=>rfl
 |t::l,lo,h,hm=>by
  rw[eg] at h⊢
  exact⟨⟨h.1.1,hm t (by simp),h.1.2.2⟩,Dw h.2 fun u hu=>hm u (List.mem_cons_of_mem _ hu)⟩
theorem IE {f:dx} {m:Int} (h:i8 f (m+1)=true):po m 0 (iA m f.ts)=true:=by
 have h1:=Bo m h
 refine Dw h1 fun t ht=>?_
 have h2:=ft h1 t ht
 unfold iA at ht
 have h3:=(List.mem_filter.1 ht).2
 have:t.va≠m:=by simpa using h3
 omega
theorem Gt {f g:dx} {m:Int} (h:i8 f (m+1)=true) (hg:i8 g m=true):i8 (jV f m g) m=true:=
 yB _ _ _ _ (IE h) hg
theorem Aj {j:Nat} {p:dx} {c:Rat} {m:Int} (hp:i8 p m=true):i8 (gw s j p c) m=true:=by
 unfold gw
 repeat' split
 all_goals first|exact hp|rfl|exact yC (nR hp) rfl
theorem wZ {f:dx} {j:Nat} {p:dx} (h:i8 f (s.q.g.inp+(j+1:Nat))=true) (hp:i8 p (s.q.g.inp+j)=true):i8 (iS s f j p) (s.q.g.inp+j)=true:=by
 have e:s.q.g.inp+((j+1:Nat):Int)=s.q.g.inp+j+1:=by omega
 rw[e] at h
 unfold iS
 split
 ·rename_i hc
  refine Dw h fun t ht=>?_
  have h1:=ft h t ht
  have h2:=BM h hc t ht
  omega
 ·exact Gt h (Aj hp)
theorem J2 {l u x:Rat} (h1:l<0) (h2:0<u) (h3:l≤x) (h4:x≤u):max x 0≤ls l u+u/(u-l)*x:=by
 have hd:0<u-l:=by grind
 have hi:0<(u-l)⁻¹ :=Rat.inv_pos.2 hd
 have e1:(u-l)*(u-l)⁻¹ =1:=Rat.mul_inv_cancel _ (by grind)
 have e:ls l u+u/(u-l)*x=u*(x-l)*(u-l)⁻¹ :=by unfold ls;rw[Rat.div_def,Rat.div_def];grind
 rw[e]
 have h5:0≤u*(x-l):=Rat.mul_nonneg (by grind) (by grind)
 have h6:=Rat.mul_nonneg h5 (show 0≤(u-l)⁻¹ by grind)
 have h7:x*(u-l)≤u*(x-l):=by
  have:=Rat.mul_nonneg (show 0≤ -l by grind) (show 0≤u-x by grind)
  grind
 have h8:=Rat.mul_nonneg (show 0≤u*(x-l)-x*(u-l) by grind) (show 0≤(u-l)⁻¹ by grind)
 have h9:x≤u*(x-l)*(u-l)⁻¹ :=by
  rw[Rat.sub_eq_add_neg,Rat.add_mul,Rat.neg_mul,Rat.mul_assoc x,e1,Rat.mul_one] at h8
  generalize u*(x-l)*(u-l)⁻¹ =y at h8⊢
  grind
 grind
theorem IF:qX X zF=0:=by unfold qX zF;simp only[rx];grind
theorem LF {c:Rat}:qX X ⟨[],c⟩=c:=by unfold qX;simp only[rx];grind
theorem IG (h:Gs s X pre n) {j:Nat} (hj:j<n) {p:dx} (hp:qX X p=pre j) {c:Rat}:c*(qX X (gw s j p c)-X (s.q.g.inp+j))≤0:=by
 have h4:=h.un j (by have:=h.nu;omega)
 have h2:=h.lo j hj
 have h3:=h.hi j hj
 rw[h4]
 unfold gw
 by_cases h1:nV s j (cy s.lm j).1=true
 ·rw[if_pos h1,hp]
  have:=IC h hj h1
  have e:pre j-max (pre j) 0=0:=by grind
  rw[e];grind
 rw[if_neg h1]
 by_cases h5:iB s j (cy s.lm j).2=true
 ·rw[if_pos h5,IF]
  have:=yI h hj h5
  have e:0-max (pre j) 0=0:=by grind
  rw[e];grind
 rw[if_neg h5]
 by_cases h6:0<c
 ·rw[if_pos h6]
  have:∀y:Rat,y≤max (pre j) 0→c*(y-max (pre j) 0)≤0:=fun y hy=>by
   have:=Rat.mul_nonneg (show 0≤c by grind) (show 0≤max (pre j) 0-y by grind)
   grind
  split
  ·rw[hp];exact this _ (by grind)
  ·rw[IF];exact this _ (by grind)
 ·rw[if_neg h6,JU,yA,LF,hp]
  have hk:=h.kn j hj
  have hl:dA s.lm (cy s.lm j).1<0:=by
   unfold nV at h1
   rw[Bool.or_eq_true,Bool.and_eq_true,decide_eq_true_eq,decide_eq_true_eq] at h1
   have:¬0≤dA s.lm (cy s.lm j).1:=fun hc=>h1 (.inr ⟨hk.1,hc⟩)
   grind
  have hu:0<dA s.lm (cy s.lm j).2:=by
   unfold iB at h5
   rw[Bool.or_eq_true,Bool.and_eq_true,decide_eq_true_eq,decide_eq_true_eq] at h5
   have:¬dA s.lm (cy s.lm j).2≤0:=fun hc=>h5 (.inr ⟨hk.2,hc⟩)
   grind
  have h7:=J2 hl hu h2 h3
  have:=Rat.mul_nonneg (show 0≤ -c by grind) (show 0≤dA s.lm (cy s.lm j).2/(dA s.lm (cy s.lm j).2-dA s.lm (cy s.lm j).1)*pre j+ls (dA s.lm (cy s.lm j).1) (dA s.lm (cy s.lm j).2)-max (pre j) 0 by grind)
  grind
theorem Gu (h:Gs s X pre n) {j:Nat} (hj:j<n) {p:dx} (hp:qX X p=pre j) {f:dx} {m:Int} (hf:i8 f m=true):qX X (iS s f j p)≤qX X f:=by
 unfold iS
 split
 ·exact Rat.le_refl
 ·rw[Gd X hf]
  have:=IG h hj hp (c:=iz f (s.q.g.inp+j))
  grind
theorem IH {f:dx} {j m:Nat} {p:dx} (hf:i8 f (s.q.g.inp+m)=true) (hm:m≤j):iS s f j p=f:=by
 unfold iS
 rw[if_pos]
 exact wY hf (by omega)
theorem Gv (h:Gs s X pre n):∀(k:Nat) (f:dx) (m:Nat),k≤s.q.g.us.length→m≤n→m≤k→i8 f (s.q.g.inp+m)=true→i8 (fE s k f) s.q.g.inp=true∧qX X (fE s k f)≤qX X f:=by
 intro k
 induction k with
 |zero=>
  intro f m _ _ hm hf
  obtain rfl:m=0:=by omega
  exact⟨by simpa [fE] using hf,Rat.le_refl⟩
 |succ k ih=>
  intro f m hk hm hmk hf
  rw[fE,List.getElem?_eq_getElem (by omega)]
  show i8 (fE s k (iS s f k s.q.g.us[k])) _=true∧qX X (fE s k (iS s f k s.q.g.us[k]))≤_
  by_cases hkm:m≤k
  ·rw[IH hf hkm]
   exact ih f m (by omega) hm hkm hf
  ·obtain rfl:m=k+1:=by omega
   have h1:=ih (iS s f k s.q.g.us[k]) k (by omega) (by omega) (Ng _) (wZ hf (h.us k (by omega)))
   have h2:=Gu h (j:=k) (by omega) (h.pr k (by omega)) hf
   exact⟨h1.1,by grind⟩
theorem EW (h:Gs s X pre n) {f:dx} (hf:i8 f (s.q.g.inp+n)=true):s6 s f≤qX X f:=by
 have h1:=Gv h s.q.g.us.length f n (Ng _) (Ng _) h.nu hf
 have h2:=Ai h (f:=fE s s.q.g.us.length f) (qc (by omega) h1.1)
 unfold s6
 grind
theorem II (h:Gs s X pre n) {f:dx} (hf:i8 f (s.q.g.inp+n)=true):nX s f≤qX X f:=by
 unfold nX
 split
 ·exact EW h hf
 ·exact Ai h hf
end
def rH:Nat→eX→dx→Rat
 |0=>nr
 |1=>s6
 |_=>nX
theorem EX {s:eX} {X:Int→Rat} {pre:Nat→Rat} {n d:Nat} (h:Gs s X pre n) {f:dx} (hf:i8 f (s.q.g.inp+n)=true):rH d s f≤qX X f:=by
 unfold rH
 split
 ·exact Ai h hf
 ·exact EW h hf
 ·exact II h hf
def ns (l:List ig):Prop:=∀(i:Nat) (h:i<l.length),l[i].un=((i/2:Nat):Int)∧l[i].up=decide (i%2=1)
theorem ns.bestN {l:List ig} (h:ns l) (u:Nat):∀i,i≤l.length→pk l u i=(if 2*u<i then 2*u+1 else 0,if 2*u+1<i then 2*u+2 else 0)
 |0,_=>by simp[Go.Rl.pk]
 |i+1,hi=>by
  obtain⟨h1,h2⟩:=h i (by omega)
  rw[sf (by omega),ns.bestN h u i (by omega)]
  unfold nT
  rw[h1,h2]
  by_cases hu:i/2=u
  ·rw[if_neg (by simp[hu])]
   by_cases hm:i%2=1
   ·rw[if_pos (by simp[hm]),if_pos (.inl (by show(if 2*u+1<i then 2*u+2 else 0)=0;rw[if_neg (by omega)]))]
    rw[if_pos (show 2*u<i by omega),if_pos (show 2*u<i+1 by omega),if_pos (show 2*u+1<i+1 by omega)]
    congr 1;omega
   ·rw[if_neg (by simp[hm]),if_pos (.inl (by show(if 2*u<i then 2*u+1 else 0)=0;rw[if_neg (by omega)]))]
    rw[if_neg (show ¬2*u+1<i by omega),if_pos (show 2*u<i+1 by omega),if_neg (show ¬2*u+1<i+1 by omega)]
    congr 1;omega
  ·rw[if_pos (by omega)]
   congr 1
   ·by_cases h3:2*u<i
    ·rw[if_pos h3,if_pos (by omega)]
    ·rw[if_neg h3,if_neg (by omega)]
   ·by_cases h3:2*u+1<i
    ·rw[if_pos h3,if_pos (by omega)]
    ·rw[if_neg h3,if_neg (by omega)]
theorem ns.best {l:List ig} (h:ns l) (u:Nat):cy l u=(if 2*u<l.length then 2*u+1 else 0,if 2*u+1<l.length then 2*u+2 else 0):=h.bestN u _ (Ng _)
theorem ns.take {l:List ig} (h:ns l) (n:Nat):ns (l.take n):=fun i hi=>by
 have h1:=h i (by simp at hi;omega)
 rw[List.getElem_take]
 exact h1
theorem ns.nil:ns []:=fun i h=>by simp at h
theorem ns.snoc {l:List ig} (h:ns l) {m:ig} (h1:m.un=((l.length/2:Nat):Int)) (h2:m.up=decide (l.length%2=1)):ns (l++[m]):=fun i hi=>by
 by_cases hl:i<l.length
 ·rw[List.getElem_append_left hl];exact h i hl
 ·obtain rfl:i=l.length:=by simp at hi;omega
  simp[h1,h2]
def xn (q:ur) (pa:List nw) (l:List ig):eX:=⟨q,pa,l⟩
structure xd (d:Nat) (q:ur) (pa:List nw) (ex:Bool) (n:Nat) (l:List ig):Prop where
 len:l.length=2*n
 shp:ns l
 lo:∀(j:Nat) (_:j<n) (hu:j<q.g.us.length) (hl:2*j<l.length),l[2*j].va≤rH d (xn q pa (l.take (2*j))) q.g.us[j]∧(ex=true→l[2*j].va=rH d (xn q pa (l.take (2*j))) q.g.us[j])
 hi:∀(j:Nat) (_:j<n) (hu:j<q.g.us.length) (hl:2*j+1<l.length),-rH d (xn q pa (l.take (2*j+1))) (cN q.g.us[j] (-1))≤l[2*j+1].va∧(ex=true→l[2*j+1].va= -rH d (xn q pa (l.take (2*j+1))) (cN q.g.us[j] (-1)))
structure Gw (q:ur) (pa:List nw) (X:Int→Rat) (pre:Nat→Rat):Prop where
 i0:0≤q.g.inp
 us:∀(j:Nat) (h:j<q.g.us.length),i8 q.g.us[j] (q.g.inp+j)=true
 inp:∀i:Nat,(i:Int)<q.g.inp→uZ (xn q pa []) i false≤X i∧X i≤uZ (xn q pa []) i true
 un:∀j:Nat,j<q.g.us.length→X (q.g.inp+j)=max (pre j) 0
 pr:∀(j:Nat) (h:j<q.g.us.length),qX X q.g.us[j]=pre j
 on:∀j:Nat,j<q.g.us.length→gh (xn q pa []) 1 j=true→0≤pre j
 off:∀j:Nat,j<q.g.us.length→gh (xn q pa []) 2 j=true→pre j≤0
theorem nY {l:List ig} {n k:Nat} (h0:0<k) (h:k≤n):dA (l.take n) k=dA l k:=by
 unfold dA
 rw[List.getElem?_take_of_lt (by omega)]
theorem Gw.tru {q:ur} {pa:List nw} {X:Int→Rat} {pre:Nat→Rat} (h:Gw q pa X pre) {l:List ig} (hs:ns l) {n k:Nat} (hk:k≤l.length) (hn:2*n≤k) (hu:n≤q.g.us.length)
 (hb:∀j,j<n→dA l (2*j+1)≤pre j∧pre j≤dA l (2*j+2)):Gs (xn q pa (l.take k)) X pre n where
 i0:=h.i0
 us:=h.us
 inp:=h.inp
 un:=h.un
 pr:=h.pr
 on:=h.on
 off:=h.off
 nu:=hu
 kn:=fun j hj=>by
  show 0<(cy (l.take k) j).1∧0<(cy (l.take k) j).2
  rw[(hs.take k).best]
  simp only[List.length_take]
  rw[if_pos (by omega),if_pos (by omega)]
  omega
 lo:=fun j hj=>by
  show dA (l.take k) (cy (l.take k) j).1≤_
  rw[(hs.take k).best]
  simp only[List.length_take]
  rw[if_pos (by omega),nY (by omega) (by omega)]
  exact(hb j hj).1
 hi:=fun j hj=>by
  show _≤dA (l.take k) (cy (l.take k) j).2
  rw[(hs.take k).best]
  simp only[List.length_take]
  rw[if_pos (by omega),nY (by omega) (by omega)]
  exact(hb j hj).2
theorem xd.sound {d:Nat} {q:ur} {pa:List nw} {ex:Bool} {l:List ig} {X:Int→Rat} {pre:Nat→Rat} (hr:xd d q pa ex q.g.us.length l) (h:Gw q pa X pre):∀n,n≤q.g.us.length→∀j,j<n→dA l (2*j+1)≤pre j∧pre j≤dA l (2*j+2):=by
 intro n
 induction n with
 |zero=>intro _ j hj;omega
 |succ n ih=>
  intro hn j hj
  have ih:=ih (by omega)
  by_cases hjn:j<n
  ·exact ih j hjn
  obtain rfl:j=n:=by omega
  have hl:=hr.len
  have t1:=h.tru hr.shp (k:=2*j) (n:=j) (by omega) (by omega) (by omega) ih
  have t2:=h.tru hr.shp (k:=2*j+1) (n:=j) (by omega) (by omega) (by omega) ih
  have a1:=(hr.lo j (by omega) (by omega) (by omega)).1
  have a2:=(hr.hi j (by omega) (by omega) (by omega)).1
  have b1:=EX (d:=d) t1 (f:=q.g.us[j]) (h.us j (by omega))
  have b2:=EX (d:=d) t2 (f:=cN q.g.us[j] (-1)) (nR (h.us j (by omega)))
  rw[yA] at b2
  rw[h.pr j (by omega)] at b1 b2
  rw[fA (by omega),fA (by omega)]
  simp only[Nat.add_sub_cancel,show 2*j+2-1=2*j+1 by omega]
  grind
structure Tgt (s t:eX) (n:Nat):Prop where
 q:s.q=t.q
 pa:s.pa=t.pa
 lo:∀j:Nat,j<n→0<(cy s.lm j).1∧0<(cy t.lm j).1∧dA s.lm (cy s.lm j).1≤dA t.lm (cy t.lm j).1
 hi:∀j:Nat,j<n→0<(cy s.lm j).2∧0<(cy t.lm j).2∧dA t.lm (cy t.lm j).2≤dA s.lm (cy s.lm j).2
theorem J3 {s t:eX} {n:Nat} (h:Tgt s t n) {v:Int} (h1:v<s.q.g.inp+n):jm s v false≤jm t v false∧jm t v true≤jm s v true:=by
 unfold jm
 rw[←h.q]
 by_cases hi:v-s.q.g.inp<0
 ·rw[if_pos hi,if_pos hi,if_pos hi,if_pos hi]
  unfold uZ
  rw[←h.q,←h.pa]
  exact⟨Rat.le_refl,Rat.le_refl⟩
 ·rw[if_neg hi,if_neg hi,if_neg hi,if_neg hi]
  obtain⟨j,rfl⟩:∃j:Nat,v=s.q.g.inp+j:=⟨(v-s.q.g.inp).toNat,by omega⟩
  have hj:j<n:=by omega
  have e:s.q.g.inp+(j:Int)-s.q.g.inp=j:=by omega
  have h2:=h.lo j hj
  have h3:=h.hi j hj
  have hd:∀k i,gh t k i=gh s k i:=fun k i=>by unfold gh;rw[h.pa]
  rw[e]
  simp only[if_pos,Bool.false_eq_true,if_false]
  refine⟨?_,?_⟩
  ·unfold Ah
   split<;>split<;>grind
  ·unfold rG iB
   rw[hd]
   split<;>split<;>simp_all<;>grind
theorem BN {s t:eX} {n:Nat} (h:Tgt s t n):∀(l:List dU) (c d:Rat),c≤d→(∀u∈l,u.va<s.q.g.inp+n)→l.foldl (uc s) c≤l.foldl (uc t) d
 |[],c,d,hc,_=>hc
 |u::l,c,d,hc,hl=>by
  rw[List.foldl_cons,List.foldl_cons]
  refine BN h l _ _ ?_ fun x hx=>hl x (List.mem_cons_of_mem _ hx)
  have h1:=J3 h (hl u (by simp))
  unfold uc
  by_cases hn:u.co<0
  ·rw[decide_eq_true hn]
   have:=s7 (show 0≤ -u.co by grind) h1.2
   grind
  ·rw[decide_eq_false hn]
   have:=s7 (show 0≤u.co by grind) h1.1
   grind
theorem EY {s t:eX} {n:Nat} (h:Tgt s t n) {f:dx} (hf:i8 f (s.q.g.inp+n)=true):nr s f≤nX t f:=by
 have h1:nr s f≤nr t f:=BN h f.ts f.ct f.ct (Rat.le_refl) fun u hu=>by have:=ft hf u hu;omega
 unfold nX
 split<;>grind
theorem IJ {q:ur} {pa:List nw} {l m:List ig} (hl:ns l) (hm:ns m) {n k:Nat} (h1:k≤l.length) (h2:k≤m.length) (hk:2*n≤k)
 (hb:∀j,j<n→dA l (2*j+1)≤dA m (2*j+1)∧dA m (2*j+2)≤dA l (2*j+2)):Tgt (xn q pa (l.take k)) (xn q pa (m.take k)) n where
 q:=rfl
 pa:=rfl
 lo:=fun j hj=>by
  show 0<(cy (l.take k) j).1∧0<(cy (m.take k) j).1∧dA (l.take k) (cy (l.take k) j).1≤dA (m.take k) (cy (m.take k) j).1
  rw[(hl.take k).best,(hm.take k).best]
  simp only[List.length_take]
  rw[if_pos (by omega),if_pos (by omega),nY (by omega) (by omega),nY (by omega) (by omega)]
  exact⟨by omega,by omega,(hb j hj).1⟩
 hi:=fun j hj=>by
  show 0<(cy (l.take k) j).2∧0<(cy (m.take k) j).2∧dA (m.take k) (cy (m.take k) j).2≤dA (l.take k) (cy (l.take k) j).2
  rw[(hl.take k).best,(hm.take k).best]
  simp only[List.length_take]
  rw[if_pos (by omega),if_pos (by omega),nY (by omega) (by omega),nY (by omega) (by omega)]
  exact⟨by omega,by omega,(hb j hj).2⟩
theorem xd.tighter {q:ur} {pa:List nw} {l m:List ig} (hl:xd 0 q pa true q.g.us.length l) (hm:xd 2 q pa true q.g.us.length m) (hu:∀(j:Nat) (h:j<q.g.us.length),i8 q.g.us[j] (q.g.inp+j)=true):
 ∀n,n≤q.g.us.length→∀j,j<n→dA l (2*j+1)≤dA m (2*j+1)∧dA m (2*j+2)≤dA l (2*j+2):=by
 intro n
 induction n with
 |zero=>intro _ j hj;omega
 |succ n ih=>
  intro hn j hj
  have ih:=ih (by omega)
  by_cases hjn:j<n
  ·exact ih j hjn
  obtain rfl:j=n:=by omega
  have e1:=hl.len
  have e2:=hm.len
  have t1:=IJ (q:=q) (pa:=pa) hl.shp hm.shp (n:=j) (k:=2*j) (by omega) (by omega) (by omega) ih
  have t2:=IJ (q:=q) (pa:=pa) hl.shp hm.shp (n:=j) (k:=2*j+1) (by omega) (by omega) (by omega) ih
  have a1:=(hl.lo j (by omega) (by omega) (by omega)).2 rfl
  have a2:=(hl.hi j (by omega) (by omega) (by omega)).2 rfl
  have a3:=(hm.lo j (by omega) (by omega) (by omega)).2 rfl
  have a4:=(hm.hi j (by omega) (by omega) (by omega)).2 rfl
  have b1:=EY t1 (f:=q.g.us[j]) (hu j (by omega))
  have b2:=EY t2 (f:=cN q.g.us[j] (-1)) (nR (hu j (by omega)))
  rw[fA (by omega),fA (by omega),fA (by omega),fA (by omega)]
  simp only[Nat.add_sub_cancel,show 2*j+2-1=2*j+1 by omega]
  rw[a1,a2,a3,a4]
  refine⟨b1,?_⟩
  have:nr (xn q pa (l.take (2*j+1))) (cN q.g.us[j] (-1))≤nX (xn q pa (m.take (2*j+1))) (cN q.g.us[j] (-1)):=b2
  show-nX _ _≤ -nr _ _
  grind
end Go.Rl
namespace Go.Rl
open Go.RowKit Go.Proofs
theorem mP:az Tryz.prog 412:=⟨_,Tryz.func412,by kernel_rfl,rfl⟩
theorem yJ:az Tryz.prog 413:=⟨_,Tryz.func413,by kernel_rfl,rfl⟩
theorem qw:az Tryz.prog 410:=⟨_,Tryz.func410,by kernel_rfl,rfl⟩
theorem Gx:az Tryz.prog 414:=⟨_,Tryz.func414,by kernel_rfl,rfl⟩
theorem BO:az Tryz.prog 411:=⟨_,Tryz.func411,by kernel_rfl,rfl⟩
theorem sk {w:World} {x y:Rat} {v u:Value} (hv:QV x v w) (hu:QV y u w) (hB:bt x+bt y≤34359738368):
 Calls Tryz.prog 412 #[v,u] w (cA fun r w'=>aH w w'∧Is (B (decide (x<0∧0<y))) r w'):=by
 obtain⟨xa,xb,rfl,ia,ib⟩:=hv
 obtain⟨ya,yb,rfl,ja,jb⟩:=hu
 refine enter (vs:=[.agg #[B x.sg,xa,xb],.agg #[B y.sg,ya,yb]]) Tryz.func412 J J J (bc (cj J J fun g2 w2 l2 x2 k2=>cj J J fun g3 w3 l3 x3 k3=>(aa J J (aI (aj ?_)))))
 rcases Decidable.em (x<0) with hA|hA
 ·refine ae (ak J J ((k2.ext x3).ld MC J ag) (aq cw J J (ek (aU.mk (ia.ext (x2.trans x3)) (ib.ext (x2.trans x3))) (by omega)) ?_))
  rintro v6 w6 ⟨x6,rfl⟩
  refine ao J J J (bF (kR.2 hA) aX) (ab J J (an J (ak J J ((k3.ext x6).ld MC J ag) ?_)))
  have e1:=(x2.trans x3).trans x6
  refine an J (aq cw J J (ek (aU.mk (ja.ext e1) (jb.ext e1)) (by omega)) ?_)
  rintro v10 w10 ⟨x10,rfl⟩
  refine an J (ao J J J (bo) (aR J J J (aa J J (aI (aD (aF J J ?_))))))
  exact⟨_,J,(e1.trans x10),by show B _=B _;congr 1;exact decide_eq_decide.2 ⟨fun h=>⟨hA,iR.1 h⟩,fun h=>iR.2 h.2⟩⟩
 ·refine ae (ak J J ((k2.ext x3).ld MC J ag) (aq cw J J (ek (aU.mk (ia.ext (x2.trans x3)) (ib.ext (x2.trans x3))) (by omega)) ?_))
  rintro v6 w6 ⟨x6,rfl⟩
  refine ao J J J (be (fun h=>hA (kR.1 h)) aX) (ab J J (bf J J J (bf J J J (bf J J J (aG J J J (aa J J (aI (aD (aF J J ?_)))))))))
  exact⟨_,J,((x2.trans x3).trans x6),by show B _=B _;rw[decide_eq_false (fun h=>hA h.1)]⟩
theorem yK {w:World} {x y:Rat} {v u:Value} (hv:QV x v w) (hu:QV y u w) (hB:bt x+bt y≤34359738368) (h0:y≠0):
 Calls Tryz.prog 413 #[v,u] w (cA fun r w'=>aH w w'∧QV (x/y) r w'):=by
 obtain⟨xa,xb,rfl,ia,ib⟩:=hv
 obtain⟨ya,yb,rfl,ja,jb⟩:=hu
 refine enter (vs:=[.agg #[B x.sg,xa,xb],.agg #[B y.sg,ya,yb]]) Tryz.func413 J J J (bc (cj J J fun g2 w2 l2 x2 k2=>cj J J fun g3 w3 l3 x3 k3=>ce bv J fun g4 w4 l4 x4 k4=>(dR (ak J J ((k2.ext (x3.trans x4)).ld MC J ag) (ak J J ((k3.ext x4).ld MC J ag) ?_)))))
 have e1:=(x2.trans x3).trans x4
 refine aq tP J J (Ia (aU.mk (ia.ext e1) (ib.ext e1)) (aU.mk (ja.ext e1) (jb.ext e1)) (by omega) h0) ?_
 rintro v10 w10 ⟨x10,⟨_,_,rfl,⟨x10_a_0,x10_a_1,rfl,f10_a_0,f10_a_1⟩,rfl⟩⟩
 refine ab J J (aB J J cY (aB J J cZ (ce bv J fun g5 w5 l5 x5 k5=>bD J J k5 J ag (am.cons J (am.cons f10_a_0.one (am.cons f10_a_1.one am.nil))) fun w1_7 q1_7 k1_7=>?_)))
 have x1_7:=aH.of_new (x5) q1_7 l5
 refine aa J J (dR (ak J J (k1_7.ld MC J ag) (bD J J (k4.ext (x10.trans x1_7)) J ag (am.cons J (am.cons f10_a_0.one (am.cons f10_a_1.one am.nil))) fun w2_1 q2_1 k2_1=>?_)))
 have x2_1:=aH.of_new (((x4.trans x10).trans x1_7)) q2_1 l4
 have m2_1:=Kq.of1 (p:=[0,3,3]) (k4.ext (x10.trans x1_7)) (ac rfl (ac rfl (ac rfl aT))) q2_1
 refine aI (aD (bp J (.cell J (k2_1.ld MC J ag) .nil) ?_))
 exact⟨_,J,((x2.trans x3).trans x2_1),aU.mk ((f10_a_0.ext x1_7).kq m2_1) ((f10_a_1.ext x1_7).kq m2_1)⟩
theorem qy {w:World} {x y:Rat} {v u:Value} (hv:QV x v w) (hu:QV y u w) (hB:bt x+bt y≤34359738368):
 Calls Tryz.prog 410 #[v,u] w (cA fun r w'=>aH w w'∧Is (I (mO x y)) r w'):=by
 obtain⟨xa,xb,rfl,ia,ib⟩:=hv
 obtain⟨ya,yb,rfl,ja,jb⟩:=hu
 refine enter (vs:=[.agg #[B x.sg,xa,xb],.agg #[B y.sg,ya,yb]]) Tryz.func410 J J J (bc (cj J J fun g2 w2 l2 x2 k2=>cj J J fun g3 w3 l3 x3 k3=>(aa J J (aI (aj (aj ?_))))))
 have hXU:=fun(w:World) v u (hv:QV x v w) (hu:QV y u w)=>sk hv hu hB
 rcases(show((x<0∧0<y)∧ -x<y)∨((x<0∧0<y)∧¬ -x<y)∨¬(x<0∧0<y) by by_cases h1:x<0∧0<y<;>by_cases h2: -x<y<;>simp[h1,h2]) with⟨hA,hB2⟩|⟨hA,hB2⟩|hA
 ·rw[decide_eq_true hA] at hXU
  refine bj 9 [8,13] (by kernel_rfl) (by kernel_rfl) (ap J J (fun w hw=>((k2.ext x3).ext hw).ld MC J ag) (ap J J (fun w hw=>(k3.ext hw).ld MC J ag) ?_))
  have e1:=x2.trans x3
  refine ec (S:=Is (B true)) mP (bi.is _) J J J (fun w hw=>hXU _ _ _ ((aU.mk (ia.ext e1) (ib.ext e1)).ext hw) ((aU.mk (ja.ext e1) (jb.ext e1)).ext hw)) (ax J J (au J J (ap J J (fun w hw=>(k3.ext hw).ld MC J ag) (au J J (ap J J (fun w hw=>((k2.ext x3).ext hw).ld MC J ag) (au J J ?_))))))
  have z11_1:=jN x
  refine es (S:=QV (-x)) lS (QV.stable _) J J (fun w hw=>yy ((aU.mk (ia.ext e1) (ib.ext e1)).ext hw) (by omega)) (au J J (bZ (S:=Is (I (f6 y (-x)))) gk (bi.is _) J (fun w hw=>by rintro _ rfl v11 h11;exact p7 ((aU.mk (ja.ext e1) (jb.ext e1)).ext hw) h11 (by omega)) (au J J (bC J J J (fun w _=>bF (gd.2 hB2) bo) (bA ?_)))))
  rintro wg1 xg1 _ rfl _ rfl
  refine aR J J J (aI (cg J (bc (aa J J (aI (aD (a0 (aF J J ?_))))))))
  exact⟨_,J,(e1.trans xg1),by show I _=I _;unfold mO;rw[if_pos ⟨hA,hB2⟩]⟩
 ·rw[decide_eq_true hA] at hXU
  refine bj 9 [8,13] (by kernel_rfl) (by kernel_rfl) (ap J J (fun w hw=>((k2.ext x3).ext hw).ld MC J ag) (ap J J (fun w hw=>(k3.ext hw).ld MC J ag) ?_))
  have e2:=x2.trans x3
  refine ec (S:=Is (B true)) mP (bi.is _) J J J (fun w hw=>hXU _ _ _ ((aU.mk (ia.ext e2) (ib.ext e2)).ext hw) ((aU.mk (ja.ext e2) (jb.ext e2)).ext hw)) (ax J J (au J J (ap J J (fun w hw=>(k3.ext hw).ld MC J ag) (au J J (ap J J (fun w hw=>((k2.ext x3).ext hw).ld MC J ag) (au J J ?_))))))
  have z11_2:=jN x
  refine es (S:=QV (-x)) lS (QV.stable _) J J (fun w hw=>yy ((aU.mk (ia.ext e2) (ib.ext e2)).ext hw) (by omega)) (au J J (bZ (S:=Is (I (f6 y (-x)))) gk (bi.is _) J (fun w hw=>by rintro _ rfl v11 h11;exact p7 ((aU.mk (ja.ext e2) (jb.ext e2)).ext hw) h11 (by omega)) (au J J (bC J J J (fun w _=>be (fun h=>hB2 (gd.1 h)) bo) (bA ?_)))))
  rintro wg1 xg1 _ rfl _ rfl
  refine aR J J J (aI (bU J (aA (ah (bc (aa J J (aI (aD (aF J J ?_)))))))))
  exact⟨_,J,(e2.trans xg1),by show I _=I _;unfold mO;rw[if_neg (fun h=>hB2 h.2)]⟩
 ·rw[decide_eq_false hA] at hXU
  refine bj 9 [8,13] (by kernel_rfl) (by kernel_rfl) (ap J J (fun w hw=>((k2.ext x3).ext hw).ld MC J ag) (ap J J (fun w hw=>(k3.ext hw).ld MC J ag) ?_))
  have e3:=x2.trans x3
  refine ec (S:=Is (B false)) mP (bi.is _) J J J (fun w hw=>hXU _ _ _ ((aU.mk (ia.ext e3) (ib.ext e3)).ext hw) ((aU.mk (ja.ext e3) (jb.ext e3)).ext hw)) (ax J J (bu J J J (bu J J J (bu J J J (bu J J J (bu J J J (bA ?_)))))))
  rintro wg1 xg1 _ rfl _ rfl
  refine aG J J J (aI (bU J (aA (ah (bc (aa J J (aI (aD (aF J J ?_)))))))))
  exact⟨_,J,(e3.trans xg1),by show I _=I _;unfold mO;rw[if_neg (fun h=>hA h.1)]⟩
theorem Gy {w:World} {x y:Rat} {v u:Value} (hv:QV x v w) (hu:QV y u w) (hB:bt x+bt y+bt x+bt y≤34359738368) (h1:x<0) (h2:0<y):
 Calls Tryz.prog 414 #[v,u] w (cA fun r w'=>aH w w'∧QV (ls x y) r w'):=by
 obtain⟨xa,xb,rfl,ia,ib⟩:=hv
 obtain⟨ya,yb,rfl,ja,jb⟩:=hu
 have h0:y-x≠0:=by grind
 refine enter (vs:=[.agg #[B x.sg,xa,xb],.agg #[B y.sg,ya,yb]]) Tryz.func414 J J J (bc (cj J J fun g2 w2 l2 x2 k2=>cj J J fun g3 w3 l3 x3 k3=>ce bv J fun g4 w4 l4 x4 k4=>(aI (aj (bc (ak J J ((k2.ext (x3.trans x4)).ld MC J ag) (ak J J ((k3.ext x4).ld MC J ag) ?_)))))))
 have e1:=(x2.trans x3).trans x4
 refine aq mP J J ((by have h:=sk (aU.mk (ia.ext e1) (ib.ext e1)) (aU.mk (ja.ext e1) (jb.ext e1)) (by omega);rw[decide_eq_true ⟨h1,h2⟩] at h;exact h)) ?_
 rintro v7 w7 ⟨x7,rfl⟩
 refine cC J J cn (aI (bU J (aA (ah (aj (bj 8 [4,17] (by kernel_rfl) (by kernel_rfl) (ap J J (fun w hw=>((k2.ext ((x3.trans x4).trans x7)).ext hw).ld MC J ag) (ap J J (fun w hw=>((k3.ext (x4.trans x7)).ext hw).ld MC J ag) ?_))))))))
 have z12_1:=f7 x y
 have e2:=e1.trans x7
 refine ec (S:=QV (x*y)) jv (QV.stable _) J J J (fun w hw=>uC ((aU.mk (ia.ext e2) (ib.ext e2)).ext hw) ((aU.mk (ja.ext e2) (jb.ext e2)).ext hw) (by omega)) ?_
 have z13_2:=jN (x*y)
 refine bZ (S:=QV (-(x*y))) lS (QV.stable _) J (fun w hw=>by rintro v12 h12;exact yy h12 (by omega)) (ap J J (fun w hw=>((k3.ext (x4.trans x7)).ext hw).ld MC J ag) (ap J J (fun w hw=>((k2.ext ((x3.trans x4).trans x7)).ext hw).ld MC J ag) ?_))
 have z16_3:=oC y x
 refine ec (S:=QV (y-x)) qT (QV.stable _) J J J (fun w hw=>EL ((aU.mk (ja.ext e2) (jb.ext e2)).ext hw) ((aU.mk (ia.ext e2) (ib.ext e2)).ext hw) (by omega)) (bZ (S:=QV (-(x*y)/(y-x))) yJ (QV.stable _) J (fun w hw=>by rintro v13 h13 v16 h16;exact yK h13 h16 (by omega) h0) (bA ?_))
 rintro wg3 xg3 _ rfl _ ⟨x17_0,x17_1,rfl,f17_0,f17_1⟩
 refine bD J J (k4.ext (x7.trans xg3)) J ag (am.cons J (am.cons f17_0.one (am.cons f17_1.one am.nil))) fun w3_8 q3_8 k3_8=>?_
 have x3_8:=aH.of_new (((x4.trans x7).trans xg3)) q3_8 l4
 have m3_8:=Kq.of1 (p:=[0,3,3]) (k4.ext (x7.trans xg3)) (ac rfl (ac rfl (ac rfl aT))) q3_8
 refine aI (aD (bp J (.cell J (k3_8.ld MC J ag) .nil) ?_))
 exact⟨_,J,((x2.trans x3).trans x3_8),aU.mk (f17_0.kq m3_8) (f17_1.kq m3_8)⟩
theorem BP {w:World} {x y:Rat} {v u:Value} (hv:QV x v w) (hu:QV y u w) (hB:bt x+bt y+bt x+bt y≤34359738368) (h1:x<0) (h2:0<y):
 Calls Tryz.prog 411 #[v,u] w (cA fun r w'=>aH w w'∧HN (Is (I (mO x y))) (QV (y/(y-x))) (QV (ls x y)) (Is (I 0)) r w'):=by
 obtain⟨xa,xb,rfl,ia,ib⟩:=hv
 obtain⟨ya,yb,rfl,ja,jb⟩:=hu
 have h0:y-x≠0:=by grind
 refine enter (vs:=[.agg #[B x.sg,xa,xb],.agg #[B y.sg,ya,yb]]) Tryz.func411 J J J (bc (cj J J fun g2 w2 l2 x2 k2=>cj J J fun g3 w3 l3 x3 k3=>(aa J J (ce bv J fun g5 w5 l5 x5 k5=>ce bv J fun g6 w6 l6 x6 k6=>(aa J J (aI (aj (bc (ak J J ((k2.ext ((x3.trans x5).trans x6)).ld MC J ag) ?_)))))))))
 have e2:=((x2.trans x3).trans x5).trans x6
 refine ak J J ((k3.ext (x5.trans x6)).ld MC J ag) (aq mP J J ((by have h:=sk (aU.mk (ia.ext e2) (ib.ext e2)) (aU.mk (ja.ext e2) (jb.ext e2)) (by omega);rw[decide_eq_true ⟨h1,h2⟩] at h;exact h)) ?_)
 rintro v10 w10 ⟨x10,rfl⟩
 refine cC J J cn (aI (bU J (aA (ah (aj (bj 12 [4,5,6,21,24] (by kernel_rfl) (by kernel_rfl) ?_))))))
 have e3:=(x5.trans x6).trans x10
 have e4:=((x3.trans x5).trans x6).trans x10
 refine ap J J (fun w hw=>((k2.ext e4).ext hw).ld MC J ag) (ap J J (fun w hw=>((k3.ext e3).ext hw).ld MC J ag) ?_)
 have e1:=e2.trans x10
 refine ec (S:=Is (I (mO x y))) qw (bi.is _) J J J (fun w hw=>qy ((aU.mk (ia.ext e1) (ib.ext e1)).ext hw) ((aU.mk (ja.ext e1) (jb.ext e1)).ext hw) (by omega)) (ap J J (fun w hw=>((k3.ext e3).ext hw).ld MC J ag) (ap J J (fun w hw=>((k3.ext e3).ext hw).ld MC J ag) (ap J J (fun w hw=>((k2.ext e4).ext hw).ld MC J ag) ?_)))
 have z20_1:=oC y x
 refine ec (S:=QV (y-x)) qT (QV.stable _) J J J (fun w hw=>EL ((aU.mk (ja.ext e1) (jb.ext e1)).ext hw) ((aU.mk (ia.ext e1) (ib.ext e1)).ext hw) (by omega)) (bZ (S:=QV (y/(y-x))) yJ (QV.stable _) J (fun w hw=>by rintro _ rfl v20 h20;exact yK ((aU.mk (ja.ext e1) (jb.ext e1)).ext hw) h20 (by omega) h0) (ap J J (fun w hw=>((k2.ext e4).ext hw).ld MC J ag) (ap J J (fun w hw=>((k3.ext e3).ext hw).ld MC J ag) (ec (S:=QV (ls x y)) Gx (QV.stable _) J J J (fun w hw=>Gy ((aU.mk (ia.ext e1) (ib.ext e1)).ext hw) ((aU.mk (ja.ext e1) (jb.ext e1)).ext hw) (by omega) h1 h2) (gA J J (bA ?_))))))
 rintro wg3 xg3 _ rfl _ rfl _ rfl _ ⟨x21_0,x21_1,rfl,f21_0,f21_1⟩ _ ⟨x24_0,x24_1,rfl,f24_0,f24_1⟩
 refine bD J J (k5.ext ((x6.trans x10).trans xg3)) J ag (am.cons J (am.cons f21_0.one (am.cons f21_1.one am.nil))) fun w3_12 q3_12 k3_12=>?_
 have x3_12:=aH.of_new ((e3.trans xg3)) q3_12 l5
 have m3_12:=Kq.of1 (p:=[0,3,3]) (k5.ext ((x6.trans x10).trans xg3)) (ac rfl (ac rfl (ac rfl aT))) q3_12
 have j1_k6:=(((k6.ext x10).ext xg3).other q3_12 fun e=>by have h1:=k5.lt;have h2:=l6;have h4:=Nc e;omega)
 refine bD J J j1_k6 J ag (am.cons J (am.cons f24_0.one (am.cons f24_1.one am.nil))) fun w3_13 q3_13 k3_13=>?_
 have x3_13:=aH.of_new (x3_12) q3_13 (Nb (x5).size l6)
 have m3_13:=Kq.of1 (p:=[0,3,3]) j1_k6 (ac rfl (ac rfl (ac rfl aT))) q3_13
 refine aa J J (aI (aD ?_))
 have j2_k3_12:=(k3_12.other q3_13 fun e=>by have h1:=k5.lt;have h2:=l6;have h4:=Nc e;omega)
 refine bp J (.tmp J (.cell J (j2_k3_12.ld MC J ag) (.cell J (k3_13.ld MC J ag) (.tmp J .nil)))) ?_
 exact⟨_,J,((x2.trans x3).trans x3_13),_,_,_,_,J,J,aU.mk ((f21_0.kq m3_12).kq m3_13) ((f21_1.kq m3_12).kq m3_13),aU.mk ((f24_0.kq m3_12).kq m3_13) ((f24_1.kq m3_12).kq m3_13),J⟩
end Go.Rl
namespace Go.Rl
open Go.RowKit Go.Proofs
theorem eR:az Tryz.prog 385:=⟨_,Tryz.func385,by kernel_rfl,rfl⟩
theorem iX:az Tryz.prog 396:=⟨_,Tryz.func396,by kernel_rfl,rfl⟩
theorem yL:az Tryz.prog 395:=⟨_,Tryz.func395,by kernel_rfl,rfl⟩
theorem IK:az Tryz.prog 387:=⟨_,Tryz.func387,by kernel_rfl,rfl⟩
theorem Gz:az Tryz.prog 389:=⟨_,Tryz.func389,by kernel_rfl,rfl⟩
theorem Dx:az Tryz.prog 388:=⟨_,Tryz.func388,by kernel_rfl,rfl⟩
theorem BQ:az Tryz.prog 384:=⟨_,Tryz.func384,by kernel_rfl,rfl⟩
def lv (s:eX) (g:Nat) (w:World):Prop:=∃(su so sl sh sr st sm sn sp sq fv:Value) (F:List Bool),dE g 404 [I s.q.g.inp,su,so,sl,sh,sr,st,B s.q.go.ct.sg,sm,sn,sp,sq,fv] w∧cF dZ s.q.g.us su w∧cF dZ s.q.g.os so w∧cF dQ s.q.r.lo sl w∧cF dQ s.q.r.hi sh w∧cF dZ s.q.r.rs sr w∧cF kW s.q.go.ts st w∧bH s.q.go.ct.nl sm w∧bH s.q.go.ct.dl sn w∧cF pQ s.pa sp w∧cF vj s.lm sq w∧F.length=s.pa.length∧(∀b∈F,b=true)∧cF Gm F fv w
theorem lv.ext {s:eX} {g:Nat} {w w':World} (h:lv s g w) (hx:aH w w'):lv s g w':=by
 obtain⟨su,so,sl,sh,sr,st,sm,sn,sp,sq,fv,F,kv,iu,io,il,ih,ir,it,im,jn,ip,iq,hFl,hFt,iF⟩:=h
 exact⟨su,so,sl,sh,sr,st,sm,sn,sp,sq,fv,F,kv.ext hx,iu.ext hx,io.ext hx,il.ext hx,ih.ext hx,ir.ext hx,it.ext hx,im.ext hx,jn.ext hx,ip.ext hx,iq.ext hx,hFl,hFt,iF.ext hx⟩
theorem lv.lt {s:eX} {g:Nat} {w:World} (h:lv s g w):g<w.heap.size:=by
 obtain⟨su,so,sl,sh,sr,st,sm,sn,sp,sq,fv,F,kv,_⟩:=h
 exact kv.lt
def MP (n b:Nat) (m:List eh):Prop:=m.length≤n∧∀x∈m,0≤x.co∧bt x.co≤b
theorem MP.one {b:Nat} {r:Bc} {c:Rat} (h0:0≤c) (hb:bt c≤b):MP 2 b [⟨r,c⟩]:=⟨by simp,fun x hx=>by
 obtain rfl:x=⟨r,c⟩:=by simpa using hx
 exact⟨h0,hb⟩⟩
theorem MP.two {b:Nat} {r r':Bc} {c c':Rat} (h0:0≤c) (hb:bt c≤b) (h0':0≤c') (hb':bt c'≤b):MP 2 b [⟨r,c⟩,⟨r',c'⟩]:=⟨by simp,fun x hx=>by
 rcases List.mem_cons.1 hx with rfl|hx
 ·exact⟨h0,hb⟩
 ·obtain rfl:x=⟨r',c'⟩:=by simpa using hx
  exact⟨h0',hb'⟩⟩
theorem mQ:(0:Rat)≤1:=by decide
theorem i9.bt {q:ur} {d:nw} (h:i9 q d):Go.Rl.bt d.at_≤20:=by
 rcases h with⟨_,_,_,h⟩|⟨_,_,_,h⟩
 ·rw[h,tY];omega
 ·exact h
theorem eS {w:World} {r:Bc} {c:Rat} {v u:Value} (hv:bQ Jj r v w) (hu:QV c u w):
 Calls Tryz.prog 385 #[v,u] w (cA fun e w'=>aH w w'∧bQ iI ⟨r,c⟩ e w'):=by
 obtain⟨_,rfl,ra⟩:=hv
 obtain rfl:=vk ra
 obtain⟨ca,cb,rfl,la,lb'⟩:=hu
 refine enter (vs:=[.agg #[I r.kd,I r.ix,I r.lo,I r.hi],.agg #[B c.sg,ca,cb]]) Tryz.func385 J J J (bc (cj J J fun g2 w2 l2 x2 k2=>cj J J fun g3 w3 l3 x3 k3=>ce oH J fun g4 w4 l4 x4 k4=>(dR (ak J J ((k2.ext (x3.trans x4)).ld MS J cX) (ak J J ((k3.ext x4).ld MC J ag) (bV (r:=.agg #[I r.kd,I r.ix,I r.lo,I r.hi,B c.sg,ca,cb]) J J (by obtain⟨_,_,_,rfl⟩:=la.isS;obtain⟨_,_,_,rfl⟩:=lb'.isS;exact run_build _ _ _ _ (by kernel_rfl)) (bD J J k4 J eO (am.cons J (am.cons J (am.cons J (am.cons J (am.cons J (am.cons la.one (am.cons lb'.one am.nil))))))) fun w1_3 q1_3 k1_3=>?_)))))))
 have x1_3:=aH.of_new (x4) q1_3 l4
 refine aI (aD (bp J (.cell J (k1_3.ld M2 J eO) .nil) ?_))
 have e1:=(x2.trans x3).trans x1_3
 exact⟨_,J,e1,bQ.mk (jO (a:=⟨r,c⟩) (la.ext e1) (lb'.ext e1))⟩
theorem iY {w:World} {s:eX} {g p:Nat} (hV:lv s g w) (h1:1≤p) (h2:p≤s.lm.length):
 Calls Tryz.prog 396 #[.pointer (some ⟨g,0,none⟩),I (p:Int)] w (cA fun e w'=>aH w w'∧QV (dA s.lm p) e w'):=by
 obtain⟨su,so,sl,sh,sr,st,sm,sn,sp,sq,fv,F,kv,iu,io,il,ih,ir,it,im,jn,ip,iq,hFl,hFt,iF⟩:=hV
 have hlen:=iq.len
 refine enter Tryz.func396 J J J (bc (ce bv J fun g4 w4 l4 x4 k4=>(dR (ab J J (dY J J (af J J (fQ) (af J J (bO) (ak J J (ai MN J (x4.cell_some (kv.cell (i:=11) J))) (ab J J (ao (r:=I ((p-1:Nat):Int)) J J J (by have e:((p-1:Nat):Int)=(p:Int)-1:=(by omega);rw[e];exact bT) ?_))))))))))
 obtain⟨a12,c12,p12,q12,h12⟩:=cP (P:=Tryz.prog) (sz:=6) MN (by kernel_rfl) er (by omega) (iq.ext x4) (i:=(p-1:Nat)) (by omega) .i64
 obtain⟨e12,he12⟩:∃e,e=s.lm[(p-1:Nat)]'(by omega):=⟨_,rfl⟩
 rw[←he12] at h12
 obtain⟨x12_0,x12_1,x12_2,rfl,f12_0,f12_1,f12_2⟩:=eG h12
 refine aE J J J (p12 _) (af J J (cT) (ak J J (q12.ldO (ms:=[B e12.va.sg,x12_0,x12_1]) (o:=2) (ef J) MC J ag) (bD J J k4 J ag (am.cons J (am.cons f12_0.one (am.cons f12_1.one am.nil))) fun w1_10 q1_10 k1_10=>?_)))
 have x1_10:=aH.of_new (x4) q1_10 l4
 have m1_10:=Kq.of1 (p:=[0,3,3]) k4 (ac rfl (ac rfl (ac rfl aT))) q1_10
 refine aI (aD (bp J (.cell J (k1_10.ld MC J ag) .nil) ?_))
 have hl:dA s.lm p=e12.va:=by rw[he12];exact fA (by omega)
 exact⟨_,J,x1_10,by rw[hl];exact aU.mk (f12_0.kq m1_10) (f12_1.kq m1_10)⟩
theorem yM {w:World} {s:eX} {g:Nat} {k j:Int} (hV:lv s g w):
 Calls Tryz.prog 395 #[.pointer (some ⟨g,0,none⟩),I k,I j] w (cA fun e w'=>aH w w'∧Is (B (gh s k j)) e w'):=by
 obtain⟨su,so,sl,sh,sr,st,sm,sn,sp,sq,fv,F,kv,iu,io,il,ih,ir,it,im,jn,ip,iq,hFl,hFt,iF⟩:=hV
 have hlen:=ip.len
 refine enter Tryz.func395 J J J (bc (aa J J (aI (aj (bc (ab J J (dY J J (af J J (fQ) (af J J (cx) (ak J J (ai MO J (kv.cell (i:=10) J)) (bn J J (bB MO ip) (ab J J (aI (aJ (dS (α:=Nat) (fun i=>[(0,.pointer (some ⟨g,0,none⟩)),(1,I k),(2,I j),(13,sp),(14,I (s.pa.length:Int)),(15,I (i:Int))]) (fun i w'=>aH w w'∧i≤s.pa.length∧s.pa.any (fun d=>decide (d.kd=k)&&decide (d.ix=j))=(s.pa.drop i).any (fun d=>decide (d.kd=k)&&decide (d.ix=j))) (fun i=>s.pa.length-i) (0) ⟨J,J,J,J,J,J,trivial⟩ ⟨aH.refl _,by omega,J⟩ ?_)))))))))))))))
 rintro i wL ⟨eL,hi,hall⟩
 refine bc (ao J J J (aX) (aI (aj (ci J (fun h16=>?_) (fun h16=>?_)))))
 ·refine aA (ah (aj (aJ (bc (ab J J ?_)))))
  obtain⟨a18,c18,e18,he18,p18,q18,h18⟩:=iU (ip.ext eL) (i:=i)
  obtain⟨x18_0,x18_1,rfl,f18_0,f18_1⟩:=gn h18
  refine aE J J J (p18 _) (ak J J (q18.ld MW J cH) (ce iM J fun g8 w8 l8 x8 k8=>(aa J J (bD J J k8 J cH (am.cons J (am.cons J (am.cons J (am.cons f18_0.one (am.cons f18_1.one am.nil))))) fun w3_5 q3_5 k3_5=>?_))))
  have x3_5:=aH.of_new (x8) q3_5 l8
  refine aI (aj ?_)
  rcases(show e18.kd≠k∨(e18.kd=k∧e18.ix≠j)∨(e18.kd=k∧e18.ix=j) by omega) with hA|⟨hA,hB⟩|⟨hA,hB⟩
  ·refine ae (ab J J (dY J J (af J J (eH) (ak J J (ai M0 J ((eL.trans x3_5).cell_some (kv.cell (i:=12) J))) ?_))))
   refine ab J J ?_
   obtain⟨a25,c25,p25,q25,h25⟩:=cP (P:=Tryz.prog) (sz:=1) M0 (by kernel_rfl) kT (by omega) (iF.ext (eL.trans x3_5)) (i:=i) (by omega) .i64
   obtain⟨e25,he25⟩:∃e,e=F[i]'(by omega):=⟨_,rfl⟩
   rw[←he25] at h25
   obtain rfl:=oZ h25
   refine aE J J J (p25 _) ?_
   obtain rfl:e25=true:=hFt e25 (by rw[he25];exact Nh _)
   refine ak J J (ai MH J q25.cell0) (ab J J (an J (af J J (bW) (an J (ak J J (ai ME J (k3_5.cell (i:=0) J)) (an J (ab J J (an J (ao J J J (be hA aO) (aR J J J (ab J J (bf J J J (bf J J J (bf J J J (bf J J J (aG J J J (aI (bU J (aA (aW (ah (ae (ao (r:=I ((i+1:Nat):Int)) J J J (by have e:((i+1:Nat):Int)=(i:Int)+1:=(by omega);rw[e];exact aY) (ab J J (ar (dC (i+1) ⟨J,J,J,J,J,J,trivial⟩ ⟨(eL.trans x3_5),by omega,oS (by omega) hall (by rw[←he18,decide_eq_false hA];rfl)⟩ (by omega)))))))))))))))))))))))))))
  ·refine ae (ab J J (dY J J (af J J (eH) (ak J J (ai M0 J ((eL.trans x3_5).cell_some (kv.cell (i:=12) J))) ?_))))
   refine ab J J ?_
   obtain⟨a25,c25,p25,q25,h25⟩:=cP (P:=Tryz.prog) (sz:=1) M0 (by kernel_rfl) kT (by omega) (iF.ext (eL.trans x3_5)) (i:=i) (by omega) .i64
   obtain⟨e25,he25⟩:∃e,e=F[i]'(by omega):=⟨_,rfl⟩
   rw[←he25] at h25
   obtain rfl:=oZ h25
   refine aE J J J (p25 _) ?_
   obtain rfl:e25=true:=hFt e25 (by rw[he25];exact Nh _)
   refine ak J J (ai MH J q25.cell0) (ab J J (an J (af J J (bW) (an J (ak J J (ai ME J (k3_5.cell (i:=0) J)) (an J (ab J J (an J (ao J J J (bF hA aO) (aR J J J (ab J J (an J (af J J (bd) (an J (ak J J (ai ME J (k3_5.cell (i:=1) J)) (an J (ab J J (an J (ao J J J (be hB aO) (aR J J J (aI (bU J (aA (aW (ah (ae (ao (r:=I ((i+1:Nat):Int)) J J J (by have e:((i+1:Nat):Int)=(i:Int)+1:=(by omega);rw[e];exact aY) (ab J J (ar (dC (i+1) ⟨J,J,J,J,J,J,trivial⟩ ⟨(eL.trans x3_5),by omega,oS (by omega) hall (by rw[←he18,decide_eq_false hB,Bool.and_false])⟩ (by omega)))))))))))))))))))))))))))))))
  ·refine ae (ab J J (dY J J (af J J (eH) (ak J J (ai M0 J ((eL.trans x3_5).cell_some (kv.cell (i:=12) J))) ?_))))
   refine ab J J ?_
   obtain⟨a25,c25,p25,q25,h25⟩:=cP (P:=Tryz.prog) (sz:=1) M0 (by kernel_rfl) kT (by omega) (iF.ext (eL.trans x3_5)) (i:=i) (by omega) .i64
   obtain⟨e25,he25⟩:∃e,e=F[i]'(by omega):=⟨_,rfl⟩
   rw[←he25] at h25
   obtain rfl:=oZ h25
   refine aE J J J (p25 _) ?_
   obtain rfl:e25=true:=hFt e25 (by rw[he25];exact Nh _)
   refine ak J J (ai MH J q25.cell0) (ab J J (an J (af J J (bW) (an J (ak J J (ai ME J (k3_5.cell (i:=0) J)) (an J (ab J J (an J (ao J J J (bF hA aO) (aR J J J (ab J J (an J (af J J (bd) (an J (ak J J (ai ME J (k3_5.cell (i:=1) J)) (an J (ab J J (an J (ao J J J (bF hB aO) (aR J J J (aI (cg J (bc (aa J J (aI (aD (bK (a0 (a0 (bK (a0 (aF J J ?_))))))))))))))))))))))))))))))))
   exact⟨_,J,(eL.trans x3_5),by show B _=B _;unfold gh;rw[tZ (i:=i) (by omega) hall (by rw[←he18,decide_eq_true hA,decide_eq_true hB];rfl)]⟩
 ·refine bJ (aV (aV (bP (ah (bc (aa J J (aI (aD (aF J J ?_)))))))))
  exact⟨_,J,eL,by show B _=B _;unfold gh;rw[rg (i:=i) (by omega) hall]⟩
end Go.Rl
namespace Go.Rl
open Go.RowKit Go.Proofs
def inM (s:eX) (i:Int) (up:Bool) (b:Nat) (m:List eh):Prop:=MP 2 b m∧(s.pa=[]→m=[⟨⟨if up then 2 else 1,i,0,0⟩,1⟩])
theorem Ak {kd sg i:Int} {b:Rat} {d:nw} (h:¬(d.kd=kd∧d.ix=i∧f6 d.at_ b=sg)):xz kd sg i b d=b:=if_neg h
theorem IL {kd sg i:Int} {b:Rat} {d:nw} (h1:d.kd=kd) (h2:d.ix=i) (h3:f6 d.at_ b=sg):xz kd sg i b d=d.at_:=if_pos ⟨h1,h2,h3⟩
theorem IM {w:World} {s:eX} {g i:Nat} {up:Bool} {b0:Nat} (hb0:b0≤w.heap.size) (hV:lv s g w) (hs:n7 s.q) (hp:∀d∈s.pa,i9 s.q d) (hi:(i:Int)<s.q.g.inp):
 Calls Tryz.prog 387 #[.pointer (some ⟨g,0,none⟩),I (i:Int),B up] w (cA fun e w'=>aH w w'∧j1 (QV (uZ s i up)) (qq (inM s i up 4) fun m=>i2 b0 iI m) (Is (B true)) e w'):=by
 obtain⟨su,so,sl,sh,sr,st,sm,sn,sp,sq,fv,F,kv,iu,io,il,ih,ir,it,im,jn,ip,iq,hFl,hFt,iF⟩:=hV
 have hlen:=ip.len
 have h3:=hs.r.ll
 have h4:=hs.r.hl
 have hbl:bt (s.q.r.lo[i]'(by omega))≤20:=hs.r.lb _ (Nh _)
 have hbh:bt (s.q.r.hi[i]'(by omega))≤20:=hs.r.hb _ (Nh _)
 have hgl:s.q.r.lo.getD i 0=s.q.r.lo[i]'(by omega):=iC _
 have hgh:s.q.r.hi.getD i 0=s.q.r.hi[i]'(by omega):=iC _
 refine enter Tryz.func387 J J J (bc (ce bv J fun g6 w6 l6 x6 k6=>(aa J J (aa J J (dR (ab J J (dY J J (af J J (fQ) (af J J (bz) (af J J (f8) (ak J J ((kv.ext x6).ldO (ms:=[sl,sh,sr]) (o:=3) (ef J) M1 J dM) (ce jT J fun g9 w9 l9 x9 k9=>bD J J k9 J dM (am.cons il.one (am.cons ih.one (am.cons ir.one am.nil))) fun w1_7 q1_7 k1_7=>?_))))))))))))
 have x1_7:=aH.of_new (x9) q1_7 l9
 refine dR (af J J (cO) (ak J J (ai MK J (k1_7.cell (i:=0) J)) (ab J J ?_)))
 obtain⟨a25,c25,e25,he25,p25,q25,h25⟩:=dJ (il.ext (x6.trans x1_7)) (i:=i)
 obtain⟨x25_0,x25_1,rfl,f25_0,f25_1⟩:=dO h25
 refine aE J J J (p25 _) (ak J J (q25.ld MC J ag) (ab J J (bV (r:=.agg #[I 1,I (i:Int),I 0,I 0]) J J (by exact run_build _ _ _ _ (by kernel_rfl)) (ce bv J fun g10 w10 l10 x10 k10=>ce j9 J fun g11 w11 l11 x11 k11=>bD J J (k10.ext x11) J ag (am.cons J (am.cons f25_0.one (am.cons f25_1.one am.nil))) fun w2_9 q2_9 k2_9=>?_))))
 have x2_9:=aH.of_new ((x10.trans x11)) q2_9 l10
 have j1_k11:=(k11.other q2_9 fun e=>by have h1:=k10.lt;have h2:=l11;have h4:=Nc e;omega)
 refine bD J J j1_k11 J cX (am.cons J (am.cons J (am.cons J (am.cons J am.nil)))) fun w2_10 q2_10 k2_10=>?_
 have x2_10:=aH.of_new (x2_9) q2_10 (Nb (x10).size l11)
 refine aa J J (aa J J (aI (aj (i3 (fun p:Int×Int×Rat×Value×Value×Bc=>[(0,.pointer (some ⟨g,0,none⟩)),(1,I (i:Int)),(6,.pointer (some ⟨g6,0,none⟩)),(10,.pointer (some ⟨g10,0,none⟩)),(11,.pointer (some ⟨g11,0,none⟩)),(12,I p.1),(13,I p.2.1)]) (fun p w'=>aH w w'∧p.1=(if up then 4 else 3)∧p.2.1=(if up then-1 else 1)∧p.2.2.1=(if up then s.q.r.hi.getD i 0 else s.q.r.lo.getD i 0)∧dE g6 49 [B false,.slice none 0 0,.slice none 0 0] w'∧dE g10 49 [B p.2.2.1.sg,p.2.2.2.1,p.2.2.2.2.1] w'∧bH p.2.2.1.nl p.2.2.2.1 w'∧bH p.2.2.1.dl p.2.2.2.2.1 w'∧dE g11 362 [I p.2.2.2.2.2.kd,I p.2.2.2.2.2.ix,I p.2.2.2.2.2.lo,I p.2.2.2.2.2.hi] w'∧p.2.2.2.2.2=⟨if up then 2 else 1,i,0,0⟩∧bt p.2.2.1≤20) ?_ ?_))))
 ·refine aj ?_
  cases up
  ·refine ae (ab J J (aI (bU J (aA ?_))))
   have j2_k2_9:=(k2_9.other q2_10 fun e=>by have h1:=k10.lt;have h2:=l11;have h4:=Nc e;omega)
   exact cW (3,1,e25,x25_0,x25_1,⟨1,i,0,0⟩) ⟨J,J,J,J,J,J,J,trivial⟩ ⟨((x6.trans x1_7).trans x2_10),J,J,by rw[he25];exact hgl.symm,(k6.ext (x1_7.trans x2_10)),j2_k2_9,(f25_0.ext x2_10),(f25_1.ext x2_10),k2_10,J,by rw[he25];exact hbl⟩
  ·refine ae (ab J J (aI (cg J (ae (af J J (du) (ak J J (ai MK J (x2_10.cell_some (k1_7.cell (i:=1) J))) ?_))))))
   refine ab J J ?_
   obtain⟨a33,c33,e33,he33,p33,q33,h33⟩:=dJ (ih.ext ((x6.trans x1_7).trans x2_10)) (i:=i)
   obtain⟨x33_0,x33_1,rfl,f33_0,f33_1⟩:=dO h33
   refine aE J J J (p33 _) (ak J J (q33.ld MC J ag) (ab J J (bV (r:=.agg #[I 2,I (i:Int),I 0,I 0]) J J (by exact run_build _ _ _ _ (by kernel_rfl)) ?_)))
   have j3_k2_9:=(k2_9.other q2_10 fun e=>by have h1:=k10.lt;have h2:=l11;have h4:=Nc e;omega)
   refine bD J J j3_k2_9 J ag (am.cons J (am.cons f33_0.one (am.cons f33_1.one am.nil))) fun w4_7 q4_7 k4_7=>?_
   have x4_7:=aH.of_new (x2_10) q4_7 l10
   have m4_7:=Kq.of1 (p:=[0,3,3]) j3_k2_9 (ac rfl (ac f25_0.kd (ac f25_1.kd aT))) q4_7
   have j4_k2_10:=(k2_10.other q4_7 fun e=>by have h1:=k10.lt;have h2:=l11;have h4:=Nc e;omega)
   refine bD J J j4_k2_10 J cX (am.cons J (am.cons J (am.cons J (am.cons J am.nil)))) fun w4_8 q4_8 k4_8=>?_
   have x4_8:=aH.of_new (x4_7) q4_8 (Nb (x10).size l11)
   have m4_8:=Kq.of1 (p:=[2,2,2,2]) j4_k2_10 (ac rfl (ac rfl (ac rfl (ac rfl aT)))) q4_8
   refine aa J J (aa J J (ar ?_))
   have j5_k4_7:=(k4_7.other q4_8 fun e=>by have h1:=k10.lt;have h2:=l11;have h4:=Nc e;omega)
   exact cW (4,-1,e33,x33_0,x33_1,⟨2,i,0,0⟩) ⟨J,J,J,J,J,J,J,trivial⟩ ⟨((x6.trans x1_7).trans x4_8),J,J,by rw[he33];exact hgh.symm,(k6.ext (x1_7.trans x4_8)),j5_k4_7,((f33_0.kq m4_7).kq m4_8),((f33_1.kq m4_7).kq m4_8),k4_8,J,by rw[he33];exact hbh⟩
 rintro⟨kd,sg,c0,ua,ub,row0⟩ wC ⟨eC,hkd,hsg,hc0,k6C,k10C,ba,bb,k11C,hrow,hbt0⟩
 refine ah (aj (aj ?_))
 change kd=_ at hkd
 change sg=_ at hsg
 change c0=_ at hc0
 change row0=_ at hrow
 refine ae (ab J J (dY J J (af J J (fQ) (af J J (cx) (ak J J (ai MO J (eC.cell_some (kv.cell (i:=10) J))) (bn J J (bB MO (ip.ext eC)) (ab J J (aI (aJ (sH (fun(n:Nat) (b:Rat) (x:Value) (y:Value) (row:Bc)=>[(0,.pointer (some ⟨g,0,none⟩)),(1,I (i:Int)),(6,.pointer (some ⟨g6,0,none⟩)),(10,.pointer (some ⟨g10,0,none⟩)),(11,.pointer (some ⟨g11,0,none⟩)),(12,I kd),(13,I sg),(41,sp),(42,I (s.pa.length:Int)),(43,I (n:Int))]) (fun(n:Nat) (b:Rat) (x:Value) (y:Value) (row:Bc) w'=>aH w w'∧n≤s.pa.length∧b=(s.pa.take n).foldl (xz kd sg i) c0∧bt b≤20∧(n=0→row=row0)∧dE g6 49 [B false,.slice none 0 0,.slice none 0 0] w'∧dE g10 49 [B b.sg,x,y] w'∧bH b.nl x w'∧bH b.dl y w'∧dE g11 362 [I row.kd,I row.ix,I row.lo,I row.hi] w') (fun(n:Nat) (b:Rat) (x:Value) (y:Value) (row:Bc)=>s.pa.length-n) (0) (c0) (ua) (ub) (row0) ⟨J,J,J,J,J,J,J,J,J,J,trivial⟩ ⟨eC,by omega,J,hbt0,fun _=>rfl,k6C,k10C,ba,bb,k11C⟩ ?_))))))))))
 rintro n b x y row wL ⟨eL,hn,hb,hbt,hr0,k6L,k10L,ba,bb,k11L⟩
 refine bc (ao J J J (aX) (aI (aj (ci J (fun h44=>?_) (fun h44=>?_)))))
 ·refine aA (ah (aj (aJ (bc (ab J J ?_)))))
  obtain⟨a46,c46,e46,he46,p46,q46,h46⟩:=iU (ip.ext eL) (i:=n)
  obtain⟨x46_0,x46_1,rfl,f46_0,f46_1⟩:=gn h46
  refine aE J J J (p46 _) (ak J J (q46.ld MW J cH) (ce iM J fun g15 w15 l15 x15 k15=>(aa J J (bD J J k15 J cH (am.cons J (am.cons J (am.cons J (am.cons f46_0.one (am.cons f46_1.one am.nil))))) fun w7_5 q7_5 k7_5=>?_))))
  have x7_5:=aH.of_new (x15) q7_5 l15
  refine aI (aj ?_)
  have hfd:=(hp e46 (by rw[he46];exact Nh _)).bt
  have hfs:=jz (F:=xz kd sg i) (s:=c0) (l:=s.pa) (i:=n) (by omega)
  rw[←hb,←he46] at hfs
  rcases(show e46.kd≠kd∨(e46.kd=kd∧e46.ix≠(i:Int))∨(e46.kd=kd∧e46.ix=(i:Int)∧f6 e46.at_ b≠sg)∨(e46.kd=kd∧e46.ix=(i:Int)∧f6 e46.at_ b=sg) by omega) with hA|⟨hA,hB⟩|⟨hA,hB,hC⟩|⟨hA,hB,hC⟩
  ·refine ae (ab J J (dY J J (af J J (eH) (ak J J (ai M0 J ((eL.trans x7_5).cell_some (kv.cell (i:=12) J))) ?_))))
   refine ab J J ?_
   obtain⟨a53,c53,p53,q53,h53⟩:=cP (P:=Tryz.prog) (sz:=1) M0 (by kernel_rfl) kT (by omega) (iF.ext (eL.trans x7_5)) (i:=n) (by omega) .i64
   obtain⟨e53,he53⟩:∃e,e=F[n]'(by omega):=⟨_,rfl⟩
   rw[←he53] at h53
   obtain rfl:=oZ h53
   refine aE J J J (p53 _) ?_
   obtain rfl:e53=true:=hFt e53 (by rw[he53];exact Nh _)
   refine ak J J (ai MH J q53.cell0) (ab J J (an J (af J J (bW) (an J (ak J J (ai ME J (k7_5.cell (i:=0) J)) (an J (ab J J (an J (ao J J J (be hA aO) (aR J J J (ab J J (bf J J J (bf J J J (bf J J J (bf J J J (aG J J J (ab J J (bf J J J (bf J J J (bf J J J (bf J J J (bf J J J (bf J J J (aG J J J (aI (bU J (aA (aW (ah (ae (ao (r:=I ((n+1:Nat):Int)) J J J (by have e:((n+1:Nat):Int)=(n:Int)+1:=(by omega);rw[e];exact aY) (ab J J (ar (jH (n+1) (b) (x) (y) (row) ⟨J,J,J,J,J,J,J,J,J,J,trivial⟩ ⟨(eL.trans x7_5),by omega,by rw[hfs,Ak (fun h=>hA h.1)],hbt,fun h=>by omega,(k6L.ext x7_5),(k10L.ext x7_5),(ba.ext x7_5),(bb.ext x7_5),(k11L.ext x7_5)⟩ (by omega)))))))))))))))))))))))))))))))))))
  ·refine ae (ab J J (dY J J (af J J (eH) (ak J J (ai M0 J ((eL.trans x7_5).cell_some (kv.cell (i:=12) J))) ?_))))
   refine ab J J ?_
   obtain⟨a53,c53,p53,q53,h53⟩:=cP (P:=Tryz.prog) (sz:=1) M0 (by kernel_rfl) kT (by omega) (iF.ext (eL.trans x7_5)) (i:=n) (by omega) .i64
   obtain⟨e53,he53⟩:∃e,e=F[n]'(by omega):=⟨_,rfl⟩
   rw[←he53] at h53
   obtain rfl:=oZ h53
   refine aE J J J (p53 _) ?_
   obtain rfl:e53=true:=hFt e53 (by rw[he53];exact Nh _)
   refine ak J J (ai MH J q53.cell0) (ab J J (an J (af J J (bW) (an J (ak J J (ai ME J (k7_5.cell (i:=0) J)) (an J (ab J J (an J (ao J J J (bF hA aO) (aR J J J (ab J J (an J (af J J (bd) (an J (ak J J (ai ME J (k7_5.cell (i:=1) J)) (an J (ab J J (an J (ao J J J (be hB aO) (aR J J J (ab J J (bf J J J (bf J J J (bf J J J (bf J J J (bf J J J (bf J J J (aG J J J (aI (bU J (aA (aW (ah (ae (ao (r:=I ((n+1:Nat):Int)) J J J (by have e:((n+1:Nat):Int)=(n:Int)+1:=(by omega);rw[e];exact aY) (ab J J (ar (jH (n+1) (b) (x) (y) (row) ⟨J,J,J,J,J,J,J,J,J,J,trivial⟩ ⟨(eL.trans x7_5),by omega,by rw[hfs,Ak (fun h=>hB h.2.1)],hbt,fun h=>by omega,(k6L.ext x7_5),(k10L.ext x7_5),(ba.ext x7_5),(bb.ext x7_5),(k11L.ext x7_5)⟩ (by omega)))))))))))))))))))))))))))))))))))))))
  ·refine ae (ab J J (dY J J (af J J (eH) (ak J J (ai M0 J ((eL.trans x7_5).cell_some (kv.cell (i:=12) J))) ?_))))
   refine ab J J ?_
   obtain⟨a53,c53,p53,q53,h53⟩:=cP (P:=Tryz.prog) (sz:=1) M0 (by kernel_rfl) kT (by omega) (iF.ext (eL.trans x7_5)) (i:=n) (by omega) .i64
   obtain⟨e53,he53⟩:∃e,e=F[n]'(by omega):=⟨_,rfl⟩
   rw[←he53] at h53
   obtain rfl:=oZ h53
   refine aE J J J (p53 _) ?_
   obtain rfl:e53=true:=hFt e53 (by rw[he53];exact Nh _)
   refine ak J J (ai MH J q53.cell0) (ab J J (an J (af J J (bW) (an J (ak J J (ai ME J (k7_5.cell (i:=0) J)) (an J (ab J J (an J (ao J J J (bF hA aO) (aR J J J (ab J J (an J (af J J (bd) (an J (ak J J (ai ME J (k7_5.cell (i:=1) J)) (an J (ab J J (an J (ao J J J (bF hB aO) (aR J J J (ab J J (an J (af J J (cE) (an J (ak J J (k7_5.ldO (ms:=[B e46.at_.sg,x46_0,x46_1]) (o:=2) (ef J) MC J ag) (an J (ak J J ((k10L.ext x7_5).ld MC J ag) (an J (aq gk J J (p7 (aU.mk (f46_0.ext x7_5) (f46_1.ext x7_5)) (aU.mk (ba.ext x7_5) (bb.ext x7_5)) (by omega)) ?_)))))))))))))))))))))))))))))
   rintro v71 w71 ⟨x71,rfl⟩
   refine an J (ab J J (an J (ao J J J (be hC aO) (aR J J J (aI (bU J (aA (aW (ah (ae (ao (r:=I ((n+1:Nat):Int)) J J J (by have e:((n+1:Nat):Int)=(n:Int)+1:=(by omega);rw[e];exact aY) (ab J J (ar ?_)))))))))))))
   have e1:=x7_5.trans x71
   refine jH (n+1) (b) (x) (y) (row) ⟨J,J,J,J,J,J,J,J,J,J,trivial⟩ ⟨((eL.trans x7_5).trans x71),by omega,by rw[hfs,Ak (fun h=>hC h.2.2)],hbt,fun h=>by omega,(k6L.ext e1),(k10L.ext e1),(ba.ext e1),(bb.ext e1),(k11L.ext e1)⟩ (by omega)
  ·refine ae (ab J J (dY J J (af J J (eH) (ak J J (ai M0 J ((eL.trans x7_5).cell_some (kv.cell (i:=12) J))) ?_))))
   refine ab J J ?_
   obtain⟨a53,c53,p53,q53,h53⟩:=cP (P:=Tryz.prog) (sz:=1) M0 (by kernel_rfl) kT (by omega) (iF.ext (eL.trans x7_5)) (i:=n) (by omega) .i64
   obtain⟨e53,he53⟩:∃e,e=F[n]'(by omega):=⟨_,rfl⟩
   rw[←he53] at h53
   obtain rfl:=oZ h53
   refine aE J J J (p53 _) ?_
   obtain rfl:e53=true:=hFt e53 (by rw[he53];exact Nh _)
   refine ak J J (ai MH J q53.cell0) (ab J J (an J (af J J (bW) (an J (ak J J (ai ME J (k7_5.cell (i:=0) J)) (an J (ab J J (an J (ao J J J (bF hA aO) (aR J J J (ab J J (an J (af J J (bd) (an J (ak J J (ai ME J (k7_5.cell (i:=1) J)) (an J (ab J J (an J (ao J J J (bF hB aO) (aR J J J (ab J J (an J (af J J (cE) (an J (ak J J (k7_5.ldO (ms:=[B e46.at_.sg,x46_0,x46_1]) (o:=2) (ef J) MC J ag) (an J (ak J J ((k10L.ext x7_5).ld MC J ag) (an J (aq gk J J (p7 (aU.mk (f46_0.ext x7_5) (f46_1.ext x7_5)) (aU.mk (ba.ext x7_5) (bb.ext x7_5)) (by omega)) ?_)))))))))))))))))))))))))))))
   rintro v71 w71 ⟨x71,rfl⟩
   refine an J (ab J J (an J (ao J J J (bF hC aO) (aR J J J (aI (cg J (ae (af J J (cE) (ak J J ((k7_5.ext x71).ldO (ms:=[B e46.at_.sg,x46_0,x46_1]) (o:=2) (ef J) MC J ag) (ab J J (bV (r:=.agg #[I 4,I (n:Int),I 0,I 0]) J J (by exact run_build _ _ _ _ (by kernel_rfl)) ?_)))))))))))
   have e2:=x7_5.trans x71
   refine bD J J (k10L.ext e2) J ag (am.cons J (am.cons f46_0.one (am.cons f46_1.one am.nil))) fun w9_4 q9_4 k9_4=>?_
   have x9_4:=aH.of_new (((eL.trans x7_5).trans x71)) q9_4 (Nb ((x6.trans x1_7)).size l10)
   have m9_4:=Kq.of1 (p:=[0,3,3]) (k10L.ext e2) (ac rfl (ac ba.kd (ac bb.kd aT))) q9_4
   have j6_k11L:=(((k11L.ext x7_5).ext x71).other q9_4 fun e=>by have h1:=k10.lt;have h2:=l11;have h4:=Nc e;omega)
   refine bD J J j6_k11L J cX (am.cons J (am.cons J (am.cons J (am.cons J am.nil)))) fun w9_5 q9_5 k9_5=>?_
   have x9_5:=aH.of_new (x9_4) q9_5 (Nb (((x6.trans x1_7).trans x10)).size l11)
   have m9_5:=Kq.of1 (p:=[2,2,2,2]) j6_k11L (ac rfl (ac rfl (ac rfl (ac rfl aT)))) q9_5
   refine ar (aW (ah (ae (ao (r:=I ((n+1:Nat):Int)) J J J (by have e:((n+1:Nat):Int)=(n:Int)+1:=(by omega);rw[e];exact aY) (ab J J (ar ?_))))))
   have j7_k6L:=((((k6L.ext x7_5).ext x71).other q9_4 fun e=>by have h1:=k6.lt;have h2:=l10;have h3:=(x1_7).size;have h4:=Nc e;omega).other q9_5 fun e=>by have h1:=k6.lt;have h2:=l11;have h3:=((x1_7.trans x10)).size;have h4:=Nc e;omega)
   have j8_k9_4:=(k9_4.other q9_5 fun e=>by have h1:=k10.lt;have h2:=l11;have h4:=Nc e;omega)
   refine jH (n+1) (e46.at_) (_) (_) (⟨4,n,0,0⟩) ⟨J,J,J,J,J,J,J,J,J,J,trivial⟩ ⟨x9_5,by omega,by rw[hfs,IL hA hB hC],hfd,fun h=>by omega,j7_k6L,j8_k9_4,(((f46_0.ext e2).kq m9_4).kq m9_5),(((f46_1.ext e2).kq m9_4).kq m9_5),k9_5⟩ (by omega)
 ·refine bJ (aV (aV (bP (ah (aj ?_)))))
  obtain rfl:n=s.pa.length:=by omega
  rw[List.take_length] at hb
  have nM11_g:g≠g6:=fun e=>by have h1:=kv.lt;have h2:=l6;omega
  have nM11_g10:g10≠g6:=fun e=>by have h1:=k6.lt;have h2:=l10;have h3:=(x1_7).size;omega
  have nM11_g11:g11≠g6:=fun e=>by have h1:=k6.lt;have h2:=l11;have h3:=((x1_7.trans x10)).size;omega
  refine ik 6 [6,84] (Kg [0,3,3] g6 wL) (Kg [0,3,3] g6) true AD (dE g6 49 [B false,.slice none 0 0,.slice none 0 0]) (Kg.env (by decide) _) (Kg.refl (by decide) _) km k6L (fun _ _ _ _ h=>h.elim) (fun _=>by kernel_rfl) (by kernel_rfl) (by kernel_rfl) (ap J J (fun w hw=>(k10L.kg hw).ld MC J ag) (ap J J (fun w hw=>(k11L.kg hw).ld MS J cX) (es (S:=QV ((1:Rat))) kM (nq.rat (by decide)) J J (fun w hw=>mG (x:=1) (by omega) (by omega)) (bZ (S:=bQ iI ((⟨row,1⟩:eh))) eR (nq.st (by decide)) J (fun w hw=>by rintro _ rfl v82 h82;exact(eS (r:=row) (c:=1) ((bQ.mk iJ).kg hw) h82)) (dv (S:=i2 b0 iI [((⟨row,1⟩:eh))]) (nq.fr (by decide)) J (fun w hw=>by rintro _ ⟨_,rfl,r⟩;exact sX (Nb (Nb hb0 (eL).size) hw.q.size) r) (nU J z4.stable (fun w hw hz u v hu hv=>by obtain rfl:=hu;obtain rfl:=hv;exact LV hz ((aU.mk ba bb).kg hw)) (bA ?_)))))))
  intro wg11 xg11 zM11
  obtain⟨yM11,uM11,kM11,fM11_1,fM11_2⟩:=zM11
  have qM11:=xg11.q
  have xM11:=aH.of_new (eL) qM11 l6
  rintro _ rfl vg84 b84
  refine aa J J (aa J J (aI (aD (bp J (.cell J (kM11.ld MC J ag) (.tmp J (.tmp J .nil))) ?_))))
  have hval:uZ s i up=b:=by rw[hb,hkd,hsg,hc0];rfl
  refine⟨_,J,xM11,_,_,_,J,by rw[hval];exact aU.mk fM11_1 fM11_2,⟨[⟨row,1⟩],⟨MP.one mQ (by rw[pp];omega),fun h0=>?_⟩,b84⟩,J⟩
  rw[hr0 (by rw[h0];rfl),hrow]
end Go.Rl
namespace Go.Rl
open Go.RowKit Go.Proofs
theorem xe (l:List ig) (u:Int):(cy l u).1≤l.length∧(cy l u).2≤l.length:=mJ l u l.length
theorem GA {w:World} {s:eX} {g:Nat} {j:Int} {b b0:Nat} (hb0:b0≤w.heap.size) (hV:lv s g w) (hB:∀m∈s.lm,bt m.va≤17179869180) (hb:bt (dA s.lm (cy s.lm j).1)≤b) (hb1:b≤8589934592):
 Calls Tryz.prog 389 #[.pointer (some ⟨g,0,none⟩),I j] w (cA fun e w'=>aH w w'∧j1 (QV (Ah s j)) (qq (MP 2 (3*b+4)) fun m=>i2 b0 iI m) (Is (B true)) e w'):=by
 have hV0:=hV
 obtain⟨su,so,sl,sh,sr,st,sm,sn,sp,sq,fv,F,kv,iu,io,il,ih,ir,it,im,jn,ip,iq,hFl,hFt,iF⟩:=hV
 have hpl:=(xe s.lm j).1
 refine enter Tryz.func389 J J J (bc (ce bv J fun g4 w4 l4 x4 k4=>(aa J J (aa J J (dR (aq kM J J (mG (x:=1) (by omega) (by omega)) ?_))))))
 rintro v10 w10 ⟨x10,⟨x10_0,x10_1,rfl,f10_0,f10_1⟩⟩
 refine ce bv J fun g7 w7 l7 x7 k7=>bD J J k7 J ag (am.cons J (am.cons f10_0.one (am.cons f10_1.one am.nil))) fun w1_2 q1_2 k1_2=>?_
 have x1_2:=aH.of_new (x7) q1_2 l7
 refine dR (ab J J (dY J J (af J J (fQ) ?_)))
 have e1:=(x4.trans x10).trans x1_2
 refine ak J J ((kv.ext e1).ldO (ms:=[I s.q.g.inp,su,so,sl,sh,sr,st,B s.q.go.ct.sg,sm,sn,sp,sq]) (o:=0) (ef J) MM J bg) (ab J J (aq mK J J (mN (bQ.mk (dm (iu.ext e1) (io.ext e1) (il.ext e1) (ih.ext e1) (ir.ext e1) (it.ext e1) (im.ext e1) (jn.ext e1) (ip.ext e1) (iq.ext e1))) hB) ?_))
 rintro v17 w17 ⟨x17,⟨_,_,rfl,rfl,rfl⟩⟩
 refine ab J J (aB J J cY (aB J J cZ (aa J J (aa J J (aI (aj (aj ?_)))))))
 rcases(show(cy s.lm j).1=0∨(0<(cy s.lm j).1∧0<dA s.lm (cy s.lm j).1)∨(0<(cy s.lm j).1∧¬0<dA s.lm (cy s.lm j).1) by by_cases h:(cy s.lm j).1=0<;>by_cases h':0<dA s.lm (cy s.lm j).1<;>simp[h,h',Nat.pos_iff_ne_zero]) with hA|⟨hA,hC⟩|⟨hA,hC⟩
 ·refine ae (ab J J (ao J J J (be (by omega) bo) (ab J J (bf J J J (bf J J J (bf J J J (bf J J J (bf J J J ?_))))))))
  refine aG J J J (aI (bU J (aA (ah (bc (bV (r:=.agg #[B false,.slice none 0 0,.slice none 0 0]) J J (by exact run_build _ _ _ _ (by kernel_rfl)) (ab J J (bV (r:=.agg #[I 5,I j,I 0,I 0]) J J (by exact run_build _ _ _ _ (by kernel_rfl)) (ak J J ((k1_2.ext x17).ld MC J ag) (aq eR J J ((eS (r:=⟨5,j,0,0⟩) (c:=1) (bQ.mk iJ) (aU.mk (f10_0.ext (x1_2.trans x17)) (f10_1.ext (x1_2.trans x17))))) ?_))))))))))
  rintro v46 w46 ⟨x46,⟨_,rfl,r46⟩⟩
  obtain⟨x46_0,x46_1,rfl,f46_0,f46_1⟩:=fJ r46
  have e7:=(((x4.trans x10).trans x1_2).trans x17).trans x46
  obtain⟨v47,w47,hr47,x47,b47⟩:=sX (w:=w46) (Nb hb0 (e7).size) (jO (a:=((⟨⟨5,j,0,0⟩,1⟩:eh))) f46_0 f46_1)
  refine bN (vs:=[(0,.agg #[I ((⟨⟨5,j,0,0⟩,1⟩:eh)).row.kd,I ((⟨⟨5,j,0,0⟩,1⟩:eh)).row.ix,I ((⟨⟨5,j,0,0⟩,1⟩:eh)).row.lo,I ((⟨⟨5,j,0,0⟩,1⟩:eh)).row.hi,B ((⟨⟨5,j,0,0⟩,1⟩:eh)).co.sg,x46_0,x46_1])]) J J hr47 ?_
  have e6:=(((x10.trans x1_2).trans x17).trans x46).trans x47
  refine bD J J (k4.ext e6) J ag (am.cons J (am.cons J (am.cons J am.nil))) fun w5_6 q5_6 k5_6=>?_
  have x5_6:=aH.of_new ((e7.trans x47)) q5_6 l4
  have m5_6:=Kq.of1 (p:=[0,3,3]) (k4.ext e6) (ac rfl (ac rfl (ac rfl aT))) q5_6
  refine aa J J (aa J J (aI (aD (bp J (.cell J (k5_6.ld MC J ag) (.tmp J (.tmp J .nil))) ?_))))
  have hval:Ah s j=0:=if_neg (fun h=>by omega)
  exact⟨_,J,x5_6,_,_,_,J,by rw[hval];exact JX,⟨_,MP.one mQ (by rw[pp];omega),(b47.kq m5_6)⟩,J⟩
 ·refine ae (ab J J (ao J J J (bF (by omega) bo) (ab J J (an J (ab J J (an J (ab J J (an J (aq iX J J ((iY (hV0.ext ((((x4.trans x10).trans x1_2).trans x17))) (by omega) (by omega))) ?_)))))))))
  rintro v25 w25 ⟨x25,⟨x25_0,x25_1,rfl,f25_0,f25_1⟩⟩
  refine an J (aq cw J J (ek (aU.mk f25_0 f25_1) (by omega)) ?_)
  rintro v26 w26 ⟨x26,rfl⟩
  refine an J (ao J J J (bF (iR.2 hC) bo) (aR J J J (aI (cg J (aj ?_)))))
  have nM4_g:g≠g4:=fun e=>by have h1:=kv.lt;have h2:=l4;omega
  have nM4_g7:g7≠g4:=fun e=>by have h1:=k4.lt;have h2:=l7;have h3:=(x10).size;omega
  refine ik 14 [4,41] (Kg [0,3,3] g4 w26) (Kg [0,3,3] g4) true AD (dE g4 49 [B false,.slice none 0 0,.slice none 0 0]) (Kg.env (by decide) _) (Kg.refl (by decide) _) km (k4.ext ((((x10.trans x1_2).trans x17).trans x25).trans x26)) (fun _ _ _ _ h=>h.elim) (fun _=>by kernel_rfl) (by kernel_rfl) (by kernel_rfl) ?_
  have e2:=(((((x4.trans x10).trans x1_2).trans x17).trans x25).trans x26)
  refine ax J J (ax J J (ec (S:=QV (dA s.lm (cy s.lm j).1)) iX (nq.rat (by decide)) J J J (fun w hw=>iY (hV0.ext (aH.of_new e2 hw.q l4)) (by omega) (by omega)) (ax J J (et (S:=Is (.agg #[I 6,I j,I 0,I 0])) (bi.is _) J (fun w _=>by rintro _ rfl _ rfl;exact⟨_,w,run_build _ _ _ _ (by kernel_rfl),aH.refl _,J⟩) ?_))))
  have e3:=((x1_2.trans x17).trans x25).trans x26
  refine ap J J (fun w hw=>((k1_2.ext ((x17.trans x25).trans x26)).kg hw).ld MC J ag) (ec (S:=bQ iI ((⟨⟨6,j,0,0⟩,1⟩:eh))) eR (nq.st (by decide)) J J J (fun w hw=>eS (r:=⟨6,j,0,0⟩) (c:=1) ((bQ.mk iJ).kg hw) ((aU.mk (f10_0.ext e3) (f10_1.ext e3)).kg hw)) (ax J J (ax J J (et (S:=Is (.agg #[I 11,I j,I ((cy s.lm j).1:Int),I 0])) (bi.is _) J (fun w _=>by rintro _ rfl _ rfl _ rfl;exact⟨_,w,run_build _ _ _ _ (by kernel_rfl),aH.refl _,J⟩) (ap J J (fun w hw=>((k1_2.ext ((x17.trans x25).trans x26)).kg hw).ld MC J ag) (ec (S:=bQ iI ((⟨⟨11,j,((cy s.lm j).1:Int),0⟩,1⟩:eh))) eR (nq.st (by decide)) J J J (fun w hw=>eS (r:=⟨11,j,((cy s.lm j).1:Int),0⟩) (c:=1) ((bQ.mk iJ).kg hw) ((aU.mk (f10_0.ext e3) (f10_1.ext e3)).kg hw)) (dv (S:=i2 b0 iI [((⟨⟨6,j,0,0⟩,1⟩:eh)),((⟨⟨11,j,((cy s.lm j).1:Int),0⟩,1⟩:eh))]) (nq.fr (by decide)) J (fun w hw=>by rintro _ ⟨_,rfl,r⟩;rintro _ ⟨_,rfl,r'⟩;exact sY (Nb (Nb hb0 e2.size) hw.q.size) r r') (nU J z4.stable (fun w hw hz u v hu hv=>by obtain rfl:=hu;exact LV hz hv) (bA ?_)))))))))
  intro wg4 xg4 zM4
  obtain⟨yM4,uM4,kM4,fM4_1,fM4_2⟩:=zM4
  have qM4:=xg4.q
  have xM4:=aH.of_new e2 qM4 l4
  rintro _ rfl vg41 b41
  refine aa J J (aa J J (aI (aD (a0 (bp J (.cell J (kM4.ld MC J ag) (.tmp J (.tmp J .nil))) ?_)))))
  have hval:Ah s j=dA s.lm (cy s.lm j).1:=if_pos ⟨hA,hC⟩
  exact⟨_,J,xM4,_,_,_,J,by rw[hval];exact aU.mk fM4_1 fM4_2,⟨_,MP.two mQ (by rw[pp];omega) mQ (by rw[pp];omega),b41⟩,J⟩
 ·refine ae (ab J J (ao J J J (bF (by omega) bo) (ab J J (an J (ab J J (an J (ab J J (an J (aq iX J J ((iY (hV0.ext ((((x4.trans x10).trans x1_2).trans x17))) (by omega) (by omega))) ?_)))))))))
  rintro v25 w25 ⟨x25,⟨x25_0,x25_1,rfl,f25_0,f25_1⟩⟩
  refine an J (aq cw J J (ek (aU.mk f25_0 f25_1) (by omega)) ?_)
  rintro v26 w26 ⟨x26,rfl⟩
  refine an J (ao J J J (be (fun h=>hC (iR.1 h)) bo) (aR J J J (aI (bU J (aA (ah (bc (bV (r:=.agg #[B false,.slice none 0 0,.slice none 0 0]) J J (by exact run_build _ _ _ _ (by kernel_rfl)) (ab J J (bV (r:=.agg #[I 5,I j,I 0,I 0]) J J (by exact run_build _ _ _ _ (by kernel_rfl)) (ak J J ((k1_2.ext ((x17.trans x25).trans x26)).ld MC J ag) ?_)))))))))))
  have e8:=((x1_2.trans x17).trans x25).trans x26
  refine aq eR J J ((eS (r:=⟨5,j,0,0⟩) (c:=1) (bQ.mk iJ) (aU.mk (f10_0.ext e8) (f10_1.ext e8)))) ?_
  rintro v46 w46 ⟨x46,⟨_,rfl,r46⟩⟩
  obtain⟨x46_0,x46_1,rfl,f46_0,f46_1⟩:=fJ r46
  have e5:=(((((x4.trans x10).trans x1_2).trans x17).trans x25).trans x26).trans x46
  obtain⟨v47,w47,hr47,x47,b47⟩:=sX (w:=w46) (Nb hb0 (e5).size) (jO (a:=((⟨⟨5,j,0,0⟩,1⟩:eh))) f46_0 f46_1)
  refine bN (vs:=[(0,.agg #[I ((⟨⟨5,j,0,0⟩,1⟩:eh)).row.kd,I ((⟨⟨5,j,0,0⟩,1⟩:eh)).row.ix,I ((⟨⟨5,j,0,0⟩,1⟩:eh)).row.lo,I ((⟨⟨5,j,0,0⟩,1⟩:eh)).row.hi,B ((⟨⟨5,j,0,0⟩,1⟩:eh)).co.sg,x46_0,x46_1])]) J J hr47 ?_
  have e4:=(((((x10.trans x1_2).trans x17).trans x25).trans x26).trans x46).trans x47
  refine bD J J (k4.ext e4) J ag (am.cons J (am.cons J (am.cons J am.nil))) fun w5_6 q5_6 k5_6=>?_
  have x5_6:=aH.of_new ((e5.trans x47)) q5_6 l4
  have m5_6:=Kq.of1 (p:=[0,3,3]) (k4.ext e4) (ac rfl (ac rfl (ac rfl aT))) q5_6
  refine aa J J (aa J J (aI (aD (bp J (.cell J (k5_6.ld MC J ag) (.tmp J (.tmp J .nil))) ?_))))
  have hval:Ah s j=0:=if_neg (fun h=>hC h.2)
  exact⟨_,J,x5_6,_,_,_,J,by rw[hval];exact JX,⟨_,MP.one mQ (by rw[pp];omega),(b47.kq m5_6)⟩,J⟩
theorem BR (s:eX) (j:Int) (q:Nat) (h0:0<q):(gh s 2 j=true∧iB s j q=true)∨(gh s 2 j=false∧dA s.lm q≤0∧iB s j q=true)∨(gh s 2 j=false∧¬dA s.lm q≤0∧¬iB s j q=true):=by
 unfold iB
 cases gh s 2 j<;>by_cases h:dA s.lm q≤0<;>simp[h,h0]
theorem J4 (s:eX) (j:Int) (p:Nat):gh s 1 j=true∨(gh s 1 j=false∧0≤dA s.lm p)∨(gh s 1 j=false∧¬0≤dA s.lm p):=by
 cases gh s 1 j<;>by_cases h:0≤dA s.lm p<;>simp[h]
theorem Dy {w:World} {s:eX} {g:Nat} {j:Int} {b b0:Nat} (hb0:b0≤w.heap.size) (hV:lv s g w) (hB:∀m∈s.lm,bt m.va≤17179869180) (hb:bt (dA s.lm (cy s.lm j).1)≤b) (hb2:bt (dA s.lm (cy s.lm j).2)≤b) (hb1:b≤8589934592) (hp0:0<(cy s.lm j).1) (hq0:0<(cy s.lm j).2):
 Calls Tryz.prog 388 #[.pointer (some ⟨g,0,none⟩),I j] w (cA fun e w'=>aH w w'∧j1 (QV (rG s j)) (qq (MP 2 (3*b+4)) fun m=>i2 b0 iI m) (Is (B true)) e w'):=by
 have hV0:=hV
 obtain⟨su,so,sl,sh,sr,st,sm,sn,sp,sq,fv,F,kv,iu,io,il,ih,ir,it,im,jn,ip,iq,hFl,hFt,iF⟩:=hV
 obtain⟨hpl,hql⟩:=xe s.lm j
 have hh:rG s j=if iB s j (cy s.lm j).2=true then 0 else dA s.lm (cy s.lm j).2:=rfl
 obtain⟨p,hpd⟩:∃p,p=(cy s.lm j).1:=⟨_,rfl⟩
 obtain⟨q,hqd⟩:∃q,q=(cy s.lm j).2:=⟨_,rfl⟩
 have hBest:∀(W:World) v,bQ ro s v W→Calls Tryz.prog 79 #[v,I j] W (cA fun r w'=>aH W w'∧gQ (Is (I (p:Int))) (Is (I (q:Int))) r w'):=fun W v hv=>by
  have h:=mN (u:=j) hv hB
  rw[←hpd,←hqd] at h
  exact h
 rw[←hqd] at hh hb2 hq0 hql
 rw[←hpd] at hb hp0 hpl
 refine enter Tryz.func388 J J J (bc (ce bv J fun g4 w4 l4 x4 k4=>(aa J J (aa J J (dR (aq kM J J (mG (x:=1) (by omega) (by omega)) ?_))))))
 rintro v18 w18 ⟨x18,⟨x18_0,x18_1,rfl,f18_0,f18_1⟩⟩
 refine ce bv J fun g7 w7 l7 x7 k7=>bD J J k7 J ag (am.cons J (am.cons f18_0.one (am.cons f18_1.one am.nil))) fun w1_2 q1_2 k1_2=>?_
 have x1_2:=aH.of_new (x7) q1_2 l7
 refine dR (ab J J (dY J J (af J J (fQ) ?_)))
 have e3:=(x4.trans x18).trans x1_2
 refine ak J J ((kv.ext e3).ldO (ms:=[I s.q.g.inp,su,so,sl,sh,sr,st,B s.q.go.ct.sg,sm,sn,sp,sq]) (o:=0) (ef J) MM J bg) (ab J J (aq mK J J (hBest _ _ (bQ.mk (dm (iu.ext e3) (io.ext e3) (il.ext e3) (ih.ext e3) (ir.ext e3) (it.ext e3) (im.ext e3) (jn.ext e3) (ip.ext e3) (iq.ext e3)))) ?_))
 rintro v25 w25 ⟨x25,⟨_,_,rfl,rfl,rfl⟩⟩
 refine ab J J (aB J J cY (aB J J cZ (aa J J (aa J J (dR (ab J J (ab J J (aq yL J J ((yM (k:=1) (j:=j) (hV0.ext ((e3.trans x25))))) ?_))))))))
 rintro v30 w30 ⟨x30,rfl⟩
 refine ab J J (ab J J (aq yL J J ((yM (k:=2) (j:=j) (hV0.ext (((e3.trans x25).trans x30))))) ?_))
 rintro v33 w33 ⟨x33,rfl⟩
 refine aa J J (aa J J (aI (aj (aj ?_))))
 rcases BR s j q hq0 with⟨hA,hC⟩|⟨hA,hC,hD⟩|⟨hA,hC,hD⟩
 ·rw[hA]
  refine ae (ab J J (ab J J (bf J J J (bf J J J (bf J J J (dh J J J (dh J J J (dh J J J (dh J J J (dh J J J (bf J J J (aR J J J (aI (cg J (bc (ab J J (bV (r:=.agg #[I 10,I j,I 0,I 0]) J J (by exact run_build _ _ _ _ (by kernel_rfl)) (ce j9 J fun g12 w12 l12 x12 k12=>bD J J k12 J cX (am.cons J (am.cons J (am.cons J (am.cons J am.nil)))) fun w5_3 q5_3 k5_3=>?_))))))))))))))))))
  have x5_3:=aH.of_new (x12) q5_3 l12
  have m5_3:=Kq.of1 (p:=[2,2,2,2]) k12 (ac rfl (ac rfl (ac rfl (ac rfl aT)))) q5_3
  refine aI (aj (bc (ab J J (cC J J cn (aI (bU J (aA (ah (bc (bV (r:=.agg #[B false,.slice none 0 0,.slice none 0 0]) J J (by exact run_build _ _ _ _ (by kernel_rfl)) (ak J J (k5_3.ld MS J cX) (ak J J ((k1_2.ext (((x25.trans x30).trans x33).trans x5_3)).ld MC J ag) ?_))))))))))))
  have e18:=(((x1_2.trans x25).trans x30).trans x33).trans x5_3
  refine aq eR J J ((eS (r:=⟨10,j,0,0⟩) (c:=1) (bQ.mk iJ) (aU.mk (f18_0.ext e18) (f18_1.ext e18)))) ?_
  rintro v55 w55 ⟨x55,⟨_,rfl,r55⟩⟩
  obtain⟨x55_0,x55_1,rfl,f55_0,f55_1⟩:=fJ r55
  have e16:=((((((x4.trans x18).trans x1_2).trans x25).trans x30).trans x33).trans x5_3).trans x55
  obtain⟨v56,w56,hr56,x56,b56⟩:=sX (w:=w55) (Nb hb0 (e16).size) (jO (a:=((⟨⟨10,j,0,0⟩,1⟩:eh))) f55_0 f55_1)
  refine bN (vs:=[(0,.agg #[I ((⟨⟨10,j,0,0⟩,1⟩:eh)).row.kd,I ((⟨⟨10,j,0,0⟩,1⟩:eh)).row.ix,I ((⟨⟨10,j,0,0⟩,1⟩:eh)).row.lo,I ((⟨⟨10,j,0,0⟩,1⟩:eh)).row.hi,B ((⟨⟨10,j,0,0⟩,1⟩:eh)).co.sg,x55_0,x55_1])]) J J hr56 ?_
  have e15:=((((((x18.trans x1_2).trans x25).trans x30).trans x33).trans x5_3).trans x55).trans x56
  refine bD J J (k4.ext e15) J ag (am.cons J (am.cons J (am.cons J am.nil))) fun w8_5 q8_5 k8_5=>?_
  have x8_5:=aH.of_new ((e16.trans x56)) q8_5 l4
  have m8_5:=Kq.of1 (p:=[0,3,3]) (k4.ext e15) (ac rfl (ac rfl (ac rfl aT))) q8_5
  refine aa J J (aa J J (aI (aD (a0 (bp J (.cell J (k8_5.ld MC J ag) (.tmp J (.tmp J .nil))) ?_)))))
  have hval:rG s j=0:=hh.trans (if_pos hC)
  exact⟨_,J,x8_5,_,_,_,J,by rw[hval];exact JX,⟨_,MP.one mQ (by rw[pp];omega),(b56.kq m8_5)⟩,J⟩
 ·rw[hA]
  refine ae (ab J J (ab J J (an J (ab J J (an J (ao J J J (bF (by omega) bo) (an J (ab J J (an J (ab J J (an J (ab J J (an J (aq iX J J ((iY (hV0.ext ((((((x4.trans x18).trans x1_2).trans x25).trans x30).trans x33))) (by omega) (by omega))) ?_))))))))))))))
  rintro v41 w41 ⟨x41,⟨x41_0,x41_1,rfl,f41_0,f41_1⟩⟩
  refine an J (aq cw J J (ek (aU.mk f41_0 f41_1) (by omega)) ?_)
  rintro v42 w42 ⟨x42,rfl⟩
  refine an J (ao J J J (bF (jY.2 hC) iw) (an J (aR J J J (aG J J J (aI (cg J (bc (ab J J (bV (r:=.agg #[I 10,I j,I 0,I 0]) J J (by exact run_build _ _ _ _ (by kernel_rfl)) (ce j9 J fun g12 w12 l12 x12 k12=>bD J J k12 J cX (am.cons J (am.cons J (am.cons J (am.cons J am.nil)))) fun w5_3 q5_3 k5_3=>?_))))))))))
  have x5_3:=aH.of_new (x12) q5_3 l12
  have m5_3:=Kq.of1 (p:=[2,2,2,2]) k12 (ac rfl (ac rfl (ac rfl (ac rfl aT)))) q5_3
  refine aI (aj (bc (ab J J (cC J J cn (aI (cg J (ae (ab J J (af J J (lI) (iD J J k5_3 jS J J fun w7_2 q7_2 k7_2=>?_))))))))))
  have x7_2:=aH.of_new (x5_3) q7_2 l12
  refine dR (bV (r:=.agg #[B false,.slice none 0 0,.slice none 0 0]) J J (by exact run_build _ _ _ _ (by kernel_rfl)) (ak J J (k7_2.ld MS J cX) (ak J J ((k1_2.ext (((((x25.trans x30).trans x33).trans x41).trans x42).trans x7_2)).ld MC J ag) ?_)))
  have e17:=(((((x1_2.trans x25).trans x30).trans x33).trans x41).trans x42).trans x7_2
  refine aq eR J J ((eS (r:=⟨10,j,0,(q:Int)⟩) (c:=1) (bQ.mk iJ) (aU.mk (f18_0.ext e17) (f18_1.ext e17)))) ?_
  rintro v55 w55 ⟨x55,⟨_,rfl,r55⟩⟩
  obtain⟨x55_0,x55_1,rfl,f55_0,f55_1⟩:=fJ r55
  have e13:=((((((((x4.trans x18).trans x1_2).trans x25).trans x30).trans x33).trans x41).trans x42).trans x7_2).trans x55
  obtain⟨v56,w56,hr56,x56,b56⟩:=sX (w:=w55) (Nb hb0 (e13).size) (jO (a:=((⟨⟨10,j,0,(q:Int)⟩,1⟩:eh))) f55_0 f55_1)
  refine bN (vs:=[(0,.agg #[I ((⟨⟨10,j,0,(q:Int)⟩,1⟩:eh)).row.kd,I ((⟨⟨10,j,0,(q:Int)⟩,1⟩:eh)).row.ix,I ((⟨⟨10,j,0,(q:Int)⟩,1⟩:eh)).row.lo,I ((⟨⟨10,j,0,(q:Int)⟩,1⟩:eh)).row.hi,B ((⟨⟨10,j,0,(q:Int)⟩,1⟩:eh)).co.sg,x55_0,x55_1])]) J J hr56 ?_
  have e12:=((((((((x18.trans x1_2).trans x25).trans x30).trans x33).trans x41).trans x42).trans x7_2).trans x55).trans x56
  refine bD J J (k4.ext e12) J ag (am.cons J (am.cons J (am.cons J am.nil))) fun w8_5 q8_5 k8_5=>?_
  have x8_5:=aH.of_new ((e13.trans x56)) q8_5 l4
  have m8_5:=Kq.of1 (p:=[0,3,3]) (k4.ext e12) (ac rfl (ac rfl (ac rfl aT))) q8_5
  refine aa J J (aa J J (aI (aD (a0 (bp J (.cell J (k8_5.ld MC J ag) (.tmp J (.tmp J .nil))) ?_)))))
  have hval:rG s j=0:=hh.trans (if_pos hD)
  exact⟨_,J,x8_5,_,_,_,J,by rw[hval];exact JX,⟨_,MP.one mQ (by rw[pp];omega),(b56.kq m8_5)⟩,J⟩
 ·rw[hA]
  refine ae (ab J J (ab J J (an J (ab J J (an J (ao J J J (bF (by omega) bo) (an J (ab J J (an J (ab J J (an J (ab J J (an J (aq iX J J ((iY (hV0.ext ((((((x4.trans x18).trans x1_2).trans x25).trans x30).trans x33))) (by omega) (by omega))) ?_))))))))))))))
  rintro v41 w41 ⟨x41,⟨x41_0,x41_1,rfl,f41_0,f41_1⟩⟩
  refine an J (aq cw J J (ek (aU.mk f41_0 f41_1) (by omega)) ?_)
  rintro v42 w42 ⟨x42,rfl⟩
  refine an J (ao J J J (be (fun h=>hC (jY.1 h)) iw) (an J (aR J J J (aG J J J (aI (bU J (aA (ah (aj (bc (ab J J (ao J J J (be (by omega) aO) (aI (bU J (aA (ah (bc (ab J J (ab J J (aq iX J J ((iY (hV0.ext ((((((((x4.trans x18).trans x1_2).trans x25).trans x30).trans x33).trans x41).trans x42))) (by omega) (by omega))) ?_))))))))))))))))))))
  rintro v62 w62 ⟨x62,⟨x62_0,x62_1,rfl,f62_0,f62_1⟩⟩
  refine ab J J (ab J J (bV (r:=.agg #[I 12,I j,I 0,I (q:Int)]) J J (by exact run_build _ _ _ _ (by kernel_rfl)) (ce bv J fun g13 w13 l13 x13 k13=>ce j9 J fun g14 w14 l14 x14 k14=>bD J J (k13.ext x14) J ag (am.cons J (am.cons f62_0.one (am.cons f62_1.one am.nil))) fun w11_8 q11_8 k11_8=>?_)))
  have x11_8:=aH.of_new ((x13.trans x14)) q11_8 l13
  have j1_k14:=(k14.other q11_8 fun e=>by have h1:=k13.lt;have h2:=l14;have h4:=Nc e;omega)
  refine bD J J j1_k14 J cX (am.cons J (am.cons J (am.cons J (am.cons J am.nil)))) fun w11_9 q11_9 k11_9=>?_
  have x11_9:=aH.of_new (x11_8) q11_9 (Nb (x13).size l14)
  refine aI (aj (aj ?_))
  have hval:rG s j=dA s.lm q:=hh.trans (if_neg hD)
  rcases J4 s j p with hE|⟨hE,hF⟩|⟨hE,hF⟩
  ·rw[hE]
   refine ae (ab J J (ab J J (bf J J J (bf J J J (bf J J J (dh J J J (dh J J J (dh J J J (dh J J J (dh J J J (bf J J J (aR J J J (aI (cg J (bc (ab J J (bV (r:=.agg #[I 8,I j,I 0,I 0]) J J (by exact run_build _ _ _ _ (by kernel_rfl)) (ce j9 J fun g15 w15 l15 x15 k15=>bD J J k15 J cX (am.cons J (am.cons J (am.cons J (am.cons J am.nil)))) fun w13_3 q13_3 k13_3=>?_))))))))))))))))))
   have x13_3:=aH.of_new (x15) q13_3 l15
   have m13_3:=Kq.of1 (p:=[2,2,2,2]) k15 (ac rfl (ac rfl (ac rfl (ac rfl aT)))) q13_3
   refine aI (aj (bc (ab J J (cC J J cn (aI (bU J (aA (ah (aj ?_)))))))))
   have nM16_g:g≠g4:=fun e=>by have h1:=kv.lt;have h2:=l4;omega
   have nM16_g7:g7≠g4:=fun e=>by have h1:=k4.lt;have h2:=l7;have h3:=(x18).size;omega
   have e4:=((((((x18.trans x1_2).trans x25).trans x30).trans x33).trans x41).trans x42).trans x62
   have nM16_g13:g13≠g4:=fun e=>by have h1:=k4.lt;have h2:=l13;have h3:=(e4).size;omega
   have nM16_g14:g14≠g4:=fun e=>by have h1:=k4.lt;have h2:=l14;have h3:=((e4.trans x13)).size;omega
   have nM16_g15:g15≠g4:=fun e=>by have h1:=k4.lt;have h2:=l15;have h3:=((e4.trans x11_9)).size;omega
   refine ik 9 [4,91] (Kg [0,3,3] g4 w13_3) (Kg [0,3,3] g4) true AD (dE g4 49 [B false,.slice none 0 0,.slice none 0 0]) (Kg.env (by decide) _) (Kg.refl (by decide) _) km (k4.ext ((e4.trans x11_9).trans x13_3)) (fun _ _ _ _ h=>h.elim) (fun _=>by kernel_rfl) (by kernel_rfl) (by kernel_rfl) ?_
   have j2_k11_8:=((k11_8.other q11_9 fun e=>by have h1:=k13.lt;have h2:=l14;have h4:=Nc e;omega).ext x13_3)
   refine ap J J (fun w hw=>(j2_k11_8.kg hw).ld MC J ag) (ap J J (fun w hw=>(k13_3.kg hw).ld MS J cX) ?_)
   have e14:=((((((x25.trans x30).trans x33).trans x41).trans x42).trans x62).trans x11_9).trans x13_3
   refine ap J J (fun w hw=>((k1_2.ext e14).kg hw).ld MC J ag) ?_
   have e2:=(((((((x1_2.trans x25).trans x30).trans x33).trans x41).trans x42).trans x62).trans x11_9).trans x13_3
   refine ec (S:=bQ iI ((⟨⟨8,j,0,0⟩,1⟩:eh))) eR (nq.st (by decide)) J J J (fun w hw=>eS (r:=⟨8,j,0,0⟩) (c:=1) ((bQ.mk iJ).kg hw) ((aU.mk (f18_0.ext e2) (f18_1.ext e2)).kg hw)) (ap J J (fun w hw=>((k11_9.ext x13_3).kg hw).ld MS J cX) (ap J J (fun w hw=>((k1_2.ext e14).kg hw).ld MC J ag) (ec (S:=bQ iI ((⟨⟨12,j,0,(q:Int)⟩,1⟩:eh))) eR (nq.st (by decide)) J J J (fun w hw=>eS (r:=⟨12,j,0,(q:Int)⟩) (c:=1) ((bQ.mk iJ).kg hw) ((aU.mk (f18_0.ext e2) (f18_1.ext e2)).kg hw)) ?_)))
   have e9:=((((((((((x4.trans x18).trans x1_2).trans x25).trans x30).trans x33).trans x41).trans x42).trans x62).trans x11_9).trans x13_3)
   refine dv (S:=i2 b0 iI [((⟨⟨8,j,0,0⟩,1⟩:eh)),((⟨⟨12,j,0,(q:Int)⟩,1⟩:eh))]) (nq.fr (by decide)) J (fun w hw=>by rintro _ ⟨_,rfl,r⟩;rintro _ ⟨_,rfl,r'⟩;exact sY (Nb (Nb hb0 e9.size) hw.q.size) r r') (nU J z4.stable (fun w hw hz u v hu hv=>by obtain rfl:=hu;obtain rfl:=hv;exact LV hz ((aU.mk (f62_0.ext (x11_9.trans x13_3)) (f62_1.ext (x11_9.trans x13_3))).kg hw)) (bA ?_))
   intro wg16 xg16 zM16
   obtain⟨yM16,uM16,kM16,fM16_1,fM16_2⟩:=zM16
   have qM16:=xg16.q
   have mM16:=xg16.m
   have xM16:=aH.of_new e9 qM16 l4
   rintro _ rfl vg91 b91
   refine aa J J (aa J J (aI (aD (a0 (bp J (.cell J (kM16.ld MC J ag) (.tmp J (.tmp J .nil))) ?_)))))
   exact⟨_,J,xM16,_,_,_,J,by rw[hval];exact aU.mk fM16_1 fM16_2,⟨_,MP.two mQ (by rw[pp];omega) mQ (by rw[pp];omega),b91⟩,J⟩
  ·rw[hE]
   refine ae (ab J J (ab J J (an J (ab J J (an J (ao J J J (bF (by omega) bo) (an J (ab J J (an J (ab J J (an J (ab J J (an J (aq iX J J ((iY (hV0.ext ((((((((((x4.trans x18).trans x1_2).trans x25).trans x30).trans x33).trans x41).trans x42).trans x62).trans x11_9))) (by omega) (by omega))) ?_))))))))))))))
   rintro v73 w73 ⟨x73,⟨x73_0,x73_1,rfl,f73_0,f73_1⟩⟩
   refine an J (aq cw J J (ek (aU.mk f73_0 f73_1) (by omega)) ?_)
   rintro v74 w74 ⟨x74,rfl⟩
   refine an J (ao J J J (bF (jZ.2 hF) cz) (an J (aR J J J (aG J J J (aI (cg J (bc (ab J J (bV (r:=.agg #[I 8,I j,I 0,I 0]) J J (by exact run_build _ _ _ _ (by kernel_rfl)) (ce j9 J fun g15 w15 l15 x15 k15=>bD J J k15 J cX (am.cons J (am.cons J (am.cons J (am.cons J am.nil)))) fun w13_3 q13_3 k13_3=>?_))))))))))
   have x13_3:=aH.of_new (x15) q13_3 l15
   have m13_3:=Kq.of1 (p:=[2,2,2,2]) k15 (ac rfl (ac rfl (ac rfl (ac rfl aT)))) q13_3
   refine aI (aj (bc (ab J J (cC J J cn (aI (cg J (ae (ab J J (af J J (lH) (iD J J k13_3 jS J J fun w15_2 q15_2 k15_2=>?_))))))))))
   have x15_2:=aH.of_new (x13_3) q15_2 l15
   refine aI (aj ?_)
   have nM16_g:g≠g4:=fun e=>by have h1:=kv.lt;have h2:=l4;omega
   have nM16_g7:g7≠g4:=fun e=>by have h1:=k4.lt;have h2:=l7;have h3:=(x18).size;omega
   have e5:=((((((x18.trans x1_2).trans x25).trans x30).trans x33).trans x41).trans x42).trans x62
   have nM16_g13:g13≠g4:=fun e=>by have h1:=k4.lt;have h2:=l13;have h3:=(e5).size;omega
   have nM16_g14:g14≠g4:=fun e=>by have h1:=k4.lt;have h2:=l14;have h3:=((e5.trans x13)).size;omega
   have e20:=((e5.trans x11_9).trans x73).trans x74
   have nM16_g15:g15≠g4:=fun e=>by have h1:=k4.lt;have h2:=l15;have h3:=(e20).size;omega
   refine ik 9 [4,91] (Kg [0,3,3] g4 w15_2) (Kg [0,3,3] g4) true AD (dE g4 49 [B false,.slice none 0 0,.slice none 0 0]) (Kg.env (by decide) _) (Kg.refl (by decide) _) km (k4.ext (e20.trans x15_2)) (fun _ _ _ _ h=>h.elim) (fun _=>by kernel_rfl) (by kernel_rfl) (by kernel_rfl) ?_
   have j3_k11_8:=((((k11_8.other q11_9 fun e=>by have h1:=k13.lt;have h2:=l14;have h4:=Nc e;omega).ext x73).ext x74).ext x15_2)
   refine ap J J (fun w hw=>(j3_k11_8.kg hw).ld MC J ag) (ap J J (fun w hw=>(k15_2.kg hw).ld MS J cX) ?_)
   have e11:=((((((((x25.trans x30).trans x33).trans x41).trans x42).trans x62).trans x11_9).trans x73).trans x74).trans x15_2
   refine ap J J (fun w hw=>((k1_2.ext e11).kg hw).ld MC J ag) ?_
   have e1:=(((((((((x1_2.trans x25).trans x30).trans x33).trans x41).trans x42).trans x62).trans x11_9).trans x73).trans x74).trans x15_2
   refine ec (S:=bQ iI ((⟨⟨8,j,(p:Int),0⟩,1⟩:eh))) eR (nq.st (by decide)) J J J (fun w hw=>eS (r:=⟨8,j,(p:Int),0⟩) (c:=1) ((bQ.mk iJ).kg hw) ((aU.mk (f18_0.ext e1) (f18_1.ext e1)).kg hw)) (ap J J (fun w hw=>((k11_9.ext ((x73.trans x74).trans x15_2)).kg hw).ld MS J cX) (ap J J (fun w hw=>((k1_2.ext e11).kg hw).ld MC J ag) (ec (S:=bQ iI ((⟨⟨12,j,0,(q:Int)⟩,1⟩:eh))) eR (nq.st (by decide)) J J J (fun w hw=>eS (r:=⟨12,j,0,(q:Int)⟩) (c:=1) ((bQ.mk iJ).kg hw) ((aU.mk (f18_0.ext e1) (f18_1.ext e1)).kg hw)) ?_)))
   have e8:=((((((((((((x4.trans x18).trans x1_2).trans x25).trans x30).trans x33).trans x41).trans x42).trans x62).trans x11_9).trans x73).trans x74).trans x15_2)
   refine dv (S:=i2 b0 iI [((⟨⟨8,j,(p:Int),0⟩,1⟩:eh)),((⟨⟨12,j,0,(q:Int)⟩,1⟩:eh))]) (nq.fr (by decide)) J (fun w hw=>by rintro _ ⟨_,rfl,r⟩;rintro _ ⟨_,rfl,r'⟩;exact sY (Nb (Nb hb0 e8.size) hw.q.size) r r') ?_
   have e19:=((x11_9.trans x73).trans x74).trans x15_2
   refine nU J z4.stable (fun w hw hz u v hu hv=>by obtain rfl:=hu;obtain rfl:=hv;exact LV hz ((aU.mk (f62_0.ext e19) (f62_1.ext e19)).kg hw)) (bA ?_)
   intro wg16 xg16 zM16
   obtain⟨yM16,uM16,kM16,fM16_1,fM16_2⟩:=zM16
   have qM16:=xg16.q
   have mM16:=xg16.m
   have xM16:=aH.of_new e8 qM16 l4
   rintro _ rfl vg91 b91
   refine aa J J (aa J J (aI (aD (a0 (bp J (.cell J (kM16.ld MC J ag) (.tmp J (.tmp J .nil))) ?_)))))
   exact⟨_,J,xM16,_,_,_,J,by rw[hval];exact aU.mk fM16_1 fM16_2,⟨_,MP.two mQ (by rw[pp];omega) mQ (by rw[pp];omega),b91⟩,J⟩
  ·rw[hE]
   refine ae (ab J J (ab J J (an J (ab J J (an J (ao J J J (bF (by omega) bo) (an J (ab J J (an J (ab J J (an J (ab J J (an J (aq iX J J ((iY (hV0.ext ((((((((((x4.trans x18).trans x1_2).trans x25).trans x30).trans x33).trans x41).trans x42).trans x62).trans x11_9))) (by omega) (by omega))) ?_))))))))))))))
   rintro v73 w73 ⟨x73,⟨x73_0,x73_1,rfl,f73_0,f73_1⟩⟩
   refine an J (aq cw J J (ek (aU.mk f73_0 f73_1) (by omega)) ?_)
   rintro v74 w74 ⟨x74,rfl⟩
   refine an J (ao J J J (be (fun h=>hF (jZ.1 h)) cz) (an J (aR J J J (aG J J J (aI (bU J (aA (ah (aj (bc (ab J J (ao J J J (be (by omega) aO) (aI (bU J (aA (ah (aj ?_)))))))))))))))))
   have hlu:dA s.lm q-dA s.lm p≠0:=by grind
   have hlp:0≤(dA s.lm q-dA s.lm p)⁻¹ :=by have:=Rat.inv_pos.2 (show 0<dA s.lm q-dA s.lm p by grind);grind
   have hbs:=oC (dA s.lm q) (dA s.lm p)
   have hbd:=tE 1 (dA s.lm q-dA s.lm p)
   have hb1':=pp
   refine m5 11 [(11,9)] [11,12] [1,4,8,9,13,14,16,103,104] (by kernel_rfl) (by kernel_rfl) (by kernel_rfl) J (ap J J (fun w hw=>((k1_2.ext ((((((((x25.trans x30).trans x33).trans x41).trans x42).trans x62).trans x11_9).trans x73).trans x74)).ext hw).ld MC J ag) ?_)
   have j4_k11_8:=(((k11_8.other q11_9 fun e=>by have h1:=k13.lt;have h2:=l14;have h4:=Nc e;omega).ext x73).ext x74)
   refine ap J J (fun w hw=>(j4_k11_8.ext hw).ld MC J ag) (ax J J (ax J J (ec (S:=QV (dA s.lm p)) iX (QV.stable _) J J J (fun w hw=>iY ((hV0.ext ((((((((((((x4.trans x18).trans x1_2).trans x25).trans x30).trans x33).trans x41).trans x42).trans x62).trans x11_9).trans x73).trans x74))).ext hw) (by omega) (by omega)) ?_)))
   have z101_1:=oC (dA s.lm q) (dA s.lm p)
   refine bZ (S:=QV ((dA s.lm q)-(dA s.lm p))) qT (QV.stable _) J (fun w hw=>by rintro _ rfl v100 h100;exact EL ((aU.mk (f62_0.ext ((x11_9.trans x73).trans x74)) (f62_1.ext ((x11_9.trans x73).trans x74))).ext hw) h100 (by omega)) (bZ (S:=gQ (QV (1/(dA s.lm q-dA s.lm p))) (Is (I 0))) tP (gQ.stable (QV.stable _) (bi.is _)) J (fun w hw=>by rintro _ rfl v101 h101;exact Ia ((aU.mk (f18_0.ext (((((((((x1_2.trans x25).trans x30).trans x33).trans x41).trans x42).trans x62).trans x11_9).trans x73).trans x74)) (f18_1.ext (((((((((x1_2.trans x25).trans x30).trans x33).trans x41).trans x42).trans x62).trans x11_9).trans x73).trans x74))).ext hw) h101 (by omega) hlu) (ax J J (A7 J (QV.stable _) J (A8 J (bi.is _) J (tL (b:=w74.heap.size) (A9.stable _ _ _) bv J (fun w hw=>hw.size) (bA ?_))))))
   rintro wg19 xg19 _ rfl _ rfl _ rfl _ rfl _ rfl _ rfl _ ⟨g16,rfl,l16,k16⟩ _ ⟨x103_0,x103_1,rfl,f103_0,f103_1⟩ _ rfl
   refine bD J J k16 J ag (am.cons J (am.cons f103_0.one (am.cons f103_1.one am.nil))) fun w19_11 q19_11 k19_11=>?_
   have x19_11:=aH.of_new (xg19) q19_11 l16
   have m19_11:=Kq.of1 (p:=[0,3,3]) k16 (ac rfl (ac rfl (ac rfl aT))) q19_11
   refine aa J J (ar (pO (ah (aj ?_))))
   have e6:=((((((x18.trans x1_2).trans x25).trans x30).trans x33).trans x41).trans x42).trans x62
   have nM20_g13:g13≠g4:=fun e=>by have h1:=k4.lt;have h2:=l13;have h3:=(e6).size;omega
   have nM20_g14:g14≠g4:=fun e=>by have h1:=k4.lt;have h2:=l14;have h3:=((e6.trans x13)).size;omega
   have e21:=((e6.trans x11_9).trans x73).trans x74
   have nM20_g16:g16≠g4:=fun e=>by have h1:=k4.lt;have h2:=l16;have h3:=(e21).size;omega
   refine ik 14 [4,117] (Kg [0,3,3] g4 w19_11) (Kg [0,3,3] g4) true AD (dE g4 49 [B false,.slice none 0 0,.slice none 0 0]) (Kg.env (by decide) _) (Kg.refl (by decide) _) km (k4.ext (e21.trans x19_11)) (fun _ _ _ _ h=>h.elim) (fun _=>by kernel_rfl) (by kernel_rfl) (by kernel_rfl) (ap J J (fun w hw=>((j4_k11_8.ext x19_11).kg hw).ld MC J ag) (ap J J (fun w hw=>((k11_9.ext ((x73.trans x74).trans x19_11)).kg hw).ld MS J cX) (ap J J (fun w hw=>((j4_k11_8.ext x19_11).kg hw).ld MC J ag) (ap J J (fun w hw=>(k19_11.kg hw).ld MC J ag) ?_))))
   have z109_2:=f7 (dA s.lm q) (1/(dA s.lm q-dA s.lm p))
   have e10:=((x11_9.trans x73).trans x74).trans x19_11
   refine ec (S:=QV ((dA s.lm q)*(1/(dA s.lm q-dA s.lm p)))) jv (nq.rat (by decide)) J J J (fun w hw=>uC ((aU.mk (f62_0.ext e10) (f62_1.ext e10)).kg hw) ((aU.mk (f103_0.kq m19_11) (f103_1.kq m19_11)).kg hw) (by omega)) (bZ (S:=bQ iI ((⟨⟨12,j,0,(q:Int)⟩,dA s.lm q*(1/(dA s.lm q-dA s.lm p))⟩:eh))) eR (nq.st (by decide)) J (fun w hw=>by rintro _ rfl v109 h109;exact(eS (r:=⟨12,j,0,(q:Int)⟩) (c:=dA s.lm q*(1/(dA s.lm q-dA s.lm p))) ((bQ.mk iJ).kg hw) h109)) (ax J J (ax J J (ax J J (et (S:=Is (.agg #[I 13,I j,I (p:Int),I (q:Int)])) (bi.is _) J (fun w _=>by rintro _ rfl _ rfl _ rfl _ rfl;exact⟨_,w,run_build _ _ _ _ (by kernel_rfl),aH.refl _,J⟩) (ap J J (fun w hw=>(k19_11.kg hw).ld MC J ag) (ec (S:=bQ iI ((⟨⟨13,j,(p:Int),(q:Int)⟩,1/(dA s.lm q-dA s.lm p)⟩:eh))) eR (nq.st (by decide)) J J J (fun w hw=>eS (r:=⟨13,j,(p:Int),(q:Int)⟩) (c:=1/(dA s.lm q-dA s.lm p)) ((bQ.mk iJ).kg hw) ((aU.mk (f103_0.kq m19_11) (f103_1.kq m19_11)).kg hw)) ?_)))))))
   have e7:=((((((((((((x4.trans x18).trans x1_2).trans x25).trans x30).trans x33).trans x41).trans x42).trans x62).trans x11_9).trans x73).trans x74).trans x19_11)
   refine dv (S:=i2 b0 iI [((⟨⟨12,j,0,(q:Int)⟩,dA s.lm q*(1/(dA s.lm q-dA s.lm p))⟩:eh)),((⟨⟨13,j,(p:Int),(q:Int)⟩,1/(dA s.lm q-dA s.lm p)⟩:eh))]) (nq.fr (by decide)) J (fun w hw=>by rintro _ ⟨_,rfl,r⟩;rintro _ ⟨_,rfl,r'⟩;exact sY (Nb (Nb hb0 e7.size) hw.q.size) r r') (nU J z4.stable (fun w hw hz u v hu hv=>by obtain rfl:=hu;obtain rfl:=hv;exact LV hz ((aU.mk (f62_0.ext e10) (f62_1.ext e10)).kg hw)) (bA ?_))
   intro wg20 xg20 zM20
   obtain⟨yM20,uM20,kM20,fM20_1,fM20_2⟩:=zM20
   have qM20:=xg20.q
   have xM20:=aH.of_new e7 qM20 l4
   rintro _ rfl vg117 b117
   refine aa J J (aa J J (aI (aD (bp J (.cell J (kM20.ld MC J ag) (.tmp J (.tmp J .nil))) ?_))))
   have hdn:0≤1/(dA s.lm q-dA s.lm p):=by rw[Rat.div_def,Rat.one_mul];exact hlp
   have hbm:=f7 (dA s.lm q) (1/(dA s.lm q-dA s.lm p))
   exact⟨_,J,xM20,_,_,_,J,by rw[hval];exact aU.mk fM20_1 fM20_2,⟨_,MP.two (Rat.mul_nonneg (by grind) hdn) (by omega) hdn (by omega),b117⟩,J⟩
end Go.Rl
namespace Go.Rl
open Go.RowKit Go.Proofs
theorem BS:az Tryz.prog 362:=⟨_,Tryz.func362,by kernel_rfl,rfl⟩
theorem rh:az Tryz.prog 353:=⟨_,Tryz.func353,by kernel_rfl,rfl⟩
theorem IN:az Tryz.prog 352:=⟨_,Tryz.func352,by kernel_rfl,rfl⟩
theorem Dz:az Tryz.prog 346:=⟨_,Tryz.func346,by kernel_rfl,rfl⟩
theorem DA:az Tryz.prog 391:=⟨_,Tryz.func391,by kernel_rfl,rfl⟩
theorem DB:az Tryz.prog 394:=⟨_,Tryz.func394,by kernel_rfl,rfl⟩
def ry (a b:Int):Int:=if a<b then-1 else if a>b then 1 else 0
def J5 (l:List Int):Int:=(l.find? fun n=>decide (n≠0)).getD 0
def EZ (a b:Bc):Int:=J5 [ry a.kd b.kd,ry a.ix b.ix,ry a.lo b.lo,ry a.hi b.hi]
theorem BT {w:World} {x:Int}:Calls Tryz.prog 362 #[I x] w (cA fun r w'=>aH w w'∧Is (B false) r w'):=by
 refine enter Tryz.func362 J J J (bc (aa J J (dR (ab J J (ab J J (ao J J J (be (by omega) fg) (aa J J (aI (aD (aF J J ?_))))))))))
 exact⟨_,J,aH.refl _,J⟩
theorem ri {w:World} {x y:Int}:Calls Tryz.prog 353 #[I x,I y] w (cA fun r w'=>aH w w'∧Is (I (ry x y)) r w'):=by
 refine enter Tryz.func353 J J J (bc (aa J J (dR (ab J J (aq BS J J (BT) ?_)))))
 rintro v8 w8 ⟨x8,rfl⟩
 refine aa J J (dR (ab J J (aq BS J J (BT) ?_)))
 rintro v10 w10 ⟨x10,rfl⟩
 refine aa J J (aI (aj (bc (ab J J (aI (bU J (aA (ah (aj (bc (ab J J (aI (bU J (aA (ah (aj (bc (ab J J (ab J J (ao J J J (aX) (aI (ci J (fun h16=>?_) (fun h16=>?_)))))))))))))))))))))))
 ·refine bc (aa J J (aI (aD (a0 (aF J J ?_)))))
  exact⟨_,J,(x8.trans x10),by show I _=I _;unfold ry;rw[if_pos h16]⟩
 ·refine aA (ah (aj (bc (ab J J (ab J J (ao J J J (bo) (aI ?_)))))))
  refine ci J (fun h19=>?_) (fun h19=>?_)
  ·refine bc (aa J J (aI (aD (a0 (aF J J ?_)))))
   exact⟨_,J,(x8.trans x10),by show I _=I _;unfold ry;rw[if_neg h16,if_pos h19]⟩
  ·refine aA (ah (bc (aa J J (aI (aD (aF J J ?_))))))
   exact⟨_,J,(x8.trans x10),by show I _=I _;unfold ry;rw[if_neg h16,if_neg h19]⟩
theorem IP {l:List Int} {i:Nat} (h:i<l.length) (h0:l[i]=0):J5 (l.drop i)=J5 (l.drop (i+1)):=by
 rw[←List.getElem_cons_drop h]
 unfold J5
 rw[List.find?_cons_of_neg (by simp[h0])]
theorem LG {l:List Int} {i:Nat} (h:i<l.length) (h0:l[i]≠0):J5 (l.drop i)=l[i]:=by
 rw[←List.getElem_cons_drop h]
 unfold J5
 rw[List.find?_cons_of_pos (by simp[h0])]
 rfl
theorem IQ {w:World} {l:List Int} {v:Value} (hv:cF qQ l v w) (hl0:l.length≤1000):Calls Tryz.prog 352 #[v] w (cA fun r w'=>aH w w'∧Is (I (J5 l)) r w'):=by
 refine enter Tryz.func352 J J J (bc (aa J J (dR (aa J J (aI (aj (bc (ab J J (bn J J (bB Tryz.underlying22 hv) (ab J J (aI (aJ (dS (α:=Nat) (fun i=>[(3,I 0),(6,v),(7,I (l.length:Int)),(8,I (i:Int))]) (fun i w'=>aH w w'∧i≤l.length∧J5 l=J5 (l.drop i)) (fun i=>l.length-i) (0) ⟨J,J,J,J,trivial⟩ ⟨aH.refl _,by omega,J⟩ ?_)))))))))))))
 rintro i wL ⟨eL,hi,ho⟩
 refine bc (ao J J J (aX) (aI (aj (ci J (fun h9=>?_) (fun h9=>?_)))))
 ·refine aA (ah (aj (aJ (bc ?_))))
  obtain⟨a10,c10,p10,q10,h10⟩:=cP (P:=Tryz.prog) (sz:=1) Tryz.underlying22 (by kernel_rfl) Bb (by omega) (hv.ext eL) (i:=i) (by omega) .i64
  obtain⟨e10,he10⟩:∃e,e=l[i]'(by omega):=⟨_,rfl⟩
  rw[←he10] at h10
  obtain rfl:=kA h10
  refine aE J J J (p10 _) (ak J J (ai ME J q10.cell0) (aa J J (dR (ab J J (ab J J (ao J J J (fg) (aI (ci J (fun h14=>?_) (fun h14=>?_)))))))))
  ·refine bc (ab J J (aa J J (aI (aD (bK (a0 (a0 (bK (a0 (aF J J ?_))))))))))
   exact⟨_,J,eL,by show I _=I _;rw[ho,LG (by omega) (by rw[←he10];omega),←he10]⟩
  ·refine aA (aW (ah (ae (ao (r:=I ((i+1:Nat):Int)) J J J (by have e:((i+1:Nat):Int)=(i:Int)+1:=(by omega);rw[e];exact aY) ?_))))
   refine ab J J (ar (dC (i+1) ⟨J,J,J,J,trivial⟩ ⟨eL,by omega,ho.trans (IP (by omega) (by rw[←he10];omega))⟩ (by omega)))
 ·refine bJ (aV (aV (bP (ah (bc (ab J J (aa J J (aI (aD (aF J J ?_))))))))))
  exact⟨_,J,eL,by show I _=I _;rw[ho,List.drop_of_length_le (by omega)];rfl⟩
theorem DC {w:World} {a b:Bc} {v u:Value} (hv:bQ Jj a v w) (hu:bQ Jj b u w):Calls Tryz.prog 346 #[v,u] w (cA fun r w'=>aH w w'∧Is (I (EZ a b)) r w'):=by
 obtain⟨_,rfl,ra⟩:=hv
 obtain rfl:=vk ra
 obtain⟨_,rfl,rb⟩:=hu
 obtain rfl:=vk rb
 refine enter (vs:=[.agg #[I a.kd,I a.ix,I a.lo,I a.hi],.agg #[I b.kd,I b.ix,I b.lo,I b.hi]]) Tryz.func346 J J J (bc (cj J J fun g2 w2 l2 x2 k2=>cj J J fun g3 w3 l3 x3 k3=>(aa J J (aI (aj (bj 22 [26] (by kernel_rfl) (by kernel_rfl) (al J J (fun w hw=>fK) (ap J J (fun w hw=>ai ME J (hw.cell_some (x3.cell_some (k2.cell (i:=0) J)))) (al J J (fun w hw=>fK) (ap J J (fun w hw=>ai ME J (hw.cell_some (k3.cell (i:=0) J))) (ec (S:=Is (I (ry a.kd b.kd))) rh (bi.is _) J J J (fun w hw=>ri) (al J J (fun w hw=>oG) (ap J J (fun w hw=>ai ME J (hw.cell_some (x3.cell_some (k2.cell (i:=1) J)))) (al J J (fun w hw=>oG) (ap J J (fun w hw=>ai ME J (hw.cell_some (k3.cell (i:=1) J))) (ec (S:=Is (I (ry a.ix b.ix))) rh (bi.is _) J J J (fun w hw=>ri) (al J J (fun w hw=>lH) (ap J J (fun w hw=>ai ME J (hw.cell_some (x3.cell_some (k2.cell (i:=2) J)))) ?_))))))))))))))))))
 refine al J J (fun w hw=>lH) (ap J J (fun w hw=>ai Tryz.underlying3 J (hw.cell_some (k3.cell (i:=2) J))) (ec (S:=Is (I (ry a.lo b.lo))) rh (bi.is _) J J J (fun w hw=>ri) (al J J (fun w hw=>lI) (ap J J (fun w hw=>ai Tryz.underlying3 J (hw.cell_some (x3.cell_some (k2.cell (i:=3) J)))) (al J J (fun w hw=>lI) (ap J J (fun w hw=>ai Tryz.underlying3 J (hw.cell_some (k3.cell (i:=3) J))) (ec (S:=Is (I (ry a.hi b.hi))) rh (bi.is _) J J J (fun w hw=>ri) (dv (S:=cF qQ [ry a.kd b.kd,ry a.ix b.ix,ry a.lo b.lo,ry a.hi b.hi]) (cF.stable _ _) J (fun w hw=>by rintro _ rfl _ rfl _ rfl _ rfl;exact LA _ _ _ _) (bZ (S:=Is (I (EZ a b))) IN (bi.is _) J (fun w hw=>by rintro v25 h25;exact IQ h25 (by simp)) (bA ?_))))))))))
 rintro wg1 xg1 _ rfl
 refine aa J J (aI (aD (aF J J ?_)))
 exact⟨_,J,((x2.trans x3).trans xg1),J⟩
theorem DD {w:World} {m:eh} {v:Value} (hv:bQ iI m v w) (h0:0≤m.co) (hb:bt m.co≤34359738368):Calls Tryz.prog 391 #[v] w (cA fun r w'=>aH w w'∧Is (B false) r w'):=by
 obtain⟨_,rfl,ra⟩:=hv
 obtain⟨ma,mb,rfl,ia,ib⟩:=fJ ra
 refine enter (vs:=[.agg #[I m.row.kd,I m.row.ix,I m.row.lo,I m.row.hi,B m.co.sg,ma,mb]]) Tryz.func391 J J J (bc (cj J J fun g1 w1 l1 x1 k1=>(aa J J (dR (af J J (i5) (ak J J (k1.ldO (ms:=[B m.co.sg,ma,mb]) (o:=4) (ef J) MC J ag) (aq cw J J (ek (aU.mk (ia.ext x1) (ib.ext x1)) (by omega)) ?_)))))))
 rintro v5 w5 ⟨x5,rfl⟩
 refine ao J J J (be (fun h=>by have:=kR.1 h;grind) aX) (aa J J (aI (aD (aF J J ?_))))
 exact⟨_,J,(x1.trans x5),J⟩
theorem DE {w:World} {a b:eh} {v u:Value} (hv:bQ iI a v w) (hu:bQ iI b u w):Calls Tryz.prog 394 #[v,u] w (cA fun r w'=>aH w w'∧Is (I (EZ a.row b.row)) r w'):=by
 obtain⟨_,rfl,ra⟩:=hv
 obtain⟨ma,mb,rfl,ia,ib⟩:=fJ ra
 obtain⟨_,rfl,rb⟩:=hu
 obtain⟨na,nb,rfl,ja,jb⟩:=fJ rb
 refine enter (vs:=[.agg #[I a.row.kd,I a.row.ix,I a.row.lo,I a.row.hi,B a.co.sg,ma,mb],.agg #[I b.row.kd,I b.row.ix,I b.row.lo,I b.row.hi,B b.co.sg,na,nb]]) Tryz.func394 J J J (bc (cj J J fun g2 w2 l2 x2 k2=>cj J J fun g3 w3 l3 x3 k3=>(aa J J (dR (af J J (kE) (ak J J ((k2.ext x3).ldO (ms:=[I a.row.kd,I a.row.ix,I a.row.lo,I a.row.hi]) (o:=0) (ef J) MS J cX) (af J J (kE) (ak J J (k3.ldO (ms:=[I b.row.kd,I b.row.ix,I b.row.lo,I b.row.hi]) (o:=0) (ef J) MS J cX) (aq Dz J J ((DC (a:=a.row) (b:=b.row) (bQ.mk iJ) (bQ.mk iJ))) ?_)))))))))
 rintro v9 w9 ⟨x9,rfl⟩
 refine aa J J (aI (aD (aF J J ?_)))
 exact⟨_,J,((x2.trans x3).trans x9),J⟩
end Go.Rl
namespace Go.Rl
open Go.RowKit Go.Proofs
theorem DF:az Tryz.prog 399:=⟨_,Tryz.func399,by kernel_rfl,rfl⟩
theorem BU:az Tryz.prog 398:=⟨_,Tryz.func398,by kernel_rfl,rfl⟩
theorem BV:az Tryz.prog 393:=⟨_,Tryz.func393,by kernel_rfl,rfl⟩
theorem Al:az Tryz.prog 392:=⟨_,Tryz.func392,by kernel_rfl,rfl⟩
theorem o4:az Tryz.prog 386:=⟨_,Tryz.func386,by kernel_rfl,rfl⟩
theorem E0:(Tryz.prog.info? 364).map (·.size)=some [2,2,2,2,0,3,3].length:=by kernel_rfl
theorem yN {α:Type}:∀{L:List α} {j:Nat} (h:j+1<L.length),((L.set (j+1) L[j]).set j L[j+1]).Perm L
 |[],_,h=>by simp at h
 |[x],_,h=>by simp at h
 |x::y::t,0,_=>by simpa using List.Perm.swap x y t
 |x::t,j+1,h=>by
  have:=yN (L:=t) (j:=j) (by simpa using h)
  simpa using this.cons x
theorem DG {α:Type} {L:List α} {j:Nat} (h0:0<j) (h:j<L.length):((L.set j (L[j-1]'(by omega))).set (j-1) L[j]).Perm L:=by
 obtain⟨k,rfl⟩:∃k,j=k+1:=⟨j-1,by omega⟩
 exact yN h
def Am (base:Nat) (l:List eh) (v:Value) (w w':World):Prop:=w.grownBy w' v.ownBlock∧Kq [2,2,2,2,0,3,3] w w'∧∃L:List eh,L.Perm l∧gI base L v w'
theorem E1 {p:List Nat} {w:World} (h:0<p.length):Kq p w w:=⟨h,fun _ _ _ h=>h⟩
theorem Kq.trans {p:List Nat} {a b c:World} (h:Kq p a b) (k:Kq p b c):Kq p a c:=⟨h.pos,fun d cs ho r=>k.keep d cs ho (h.keep d cs ho r)⟩
theorem Kq.of_ext {p:List Nat} {a b:World} (h0:0<p.length) (h:aH a b):Kq p a b:=⟨h0,fun _ _ _ r=>r.ext h⟩
theorem Am.refl {base:Nat} {l:List eh} {v:Value} {w:World} (h:gI base l v w):Am base l v w w:=⟨Nf _ _,E1 (by decide),l,.refl _,h⟩
theorem Am.trans {base:Nat} {l L:List eh} {v:Value} {a b c:World} (hp:L.Perm l) (hq:a.grownBy b v.ownBlock) (hk:Kq [2,2,2,2,0,3,3] a b) (h:Am base L v b c):Am base l v a c:=by
 obtain⟨h1,h2,M,h3,h4⟩:=h
 exact⟨hq.trans h1,hk.trans h2,M,h3.trans hp,h4⟩
theorem DH {base:Nat} {L:List eh} {v:Value} {w:World} (hO:gI base L v w) {j:Nat} (h0:0<j) (hj:j<L.length):
 ∃(a b:Addr) (va vb:Value) (c d:Addr) (w1 w2:World),
  (∀u:World,(Instr.indexAt 124 v (I ((j-1:Nat):Int))).run Tryz.prog u=.ok (.pointer (some a)) u)∧(∀u:World,(Instr.indexAt 124 v (I (j:Int))).run Tryz.prog u=.ok (.pointer (some b)) u)∧
  (Instr.loadAt 364 (.pointer (some a))).run Tryz.prog w=.ok va w∧(Instr.loadAt 364 (.pointer (some b))).run Tryz.prog w=.ok vb w∧
  (∀u:World,(Instr.indexAt 124 v (I (j:Int))).run Tryz.prog u=.ok (.pointer (some c)) u)∧(Instr.storeAt 364 (.pointer (some c)) va).run Tryz.prog w=.ok () w1∧
  (∀u:World,(Instr.indexAt 124 v (I ((j-1:Nat):Int))).run Tryz.prog u=.ok (.pointer (some d)) u)∧(Instr.storeAt 364 (.pointer (some d)) vb).run Tryz.prog w1=.ok () w2∧
  w.grownBy w2 v.ownBlock∧Kq [2,2,2,2,0,3,3] w w2∧gI base ((L.set j (L[j-1]'(by omega))).set (j-1) (L[j]'(by omega))) v w2:=by
 obtain⟨a,c1,ha,qa,ra⟩:=cP (P:=Tryz.prog) (sz:=7) MV (by kernel_rfl) mA (by omega) hO.dsv (i:=j-1) (by omega) .i64
 obtain⟨b,c2,hb,qb,rb⟩:=cP (P:=Tryz.prog) (sz:=7) MV (by kernel_rfl) mA (by omega) hO.dsv (i:=j) (by omega) .i64
 obtain⟨x,y,rfl,fx,fy⟩:=fJ ra
 obtain⟨x',y',rfl,fx',fy'⟩:=fJ rb
 obtain⟨g,c,ho,_,_,hc,w1,s1,q1,o1,m1⟩:=bh.setAt (P:=Tryz.prog) MV E0 (by decide) (fun _=>rfl) gz hO hj (a:=L[j-1]'(by omega)) (am.cons rfl (am.cons rfl (am.cons rfl (am.cons rfl (am.cons rfl (am.cons fx.one (am.cons fy.one am.nil))))))) (jO fx fy)
 obtain⟨g',d,ho',_,_,hd,w2,s2,q2,o2,m2⟩:=bh.setAt (P:=Tryz.prog) MV E0 (by decide) (fun _=>rfl) gz o1 (i:=j-1) (by rw[List.length_set];omega) (a:=L[j]) (am.cons rfl (am.cons rfl (am.cons rfl (am.cons rfl (am.cons rfl (am.cons fx'.one (am.cons fy'.one am.nil))))))) (jO (fx'.kq m1) (fy'.kq m1))
 have hg:g=g':=Nc (ho.symm.trans ho')
 refine⟨a,b,_,_,c,d,w1,w2,ha,hb,qa.ld M2 J eO,qb.ld M2 J eO,hc,s1,hd,s2,?_,m1.trans m2,o2⟩
 rw[ho];subst hg;exact q1.trans q2
theorem DI {w:World} {base:Nat} {l:List eh} {v:Value} {a b:Nat} (hO:gI base l v w) (hb:b≤l.length) (hl:l.length≤1000) (ha:a≤1000):
 Calls Tryz.prog 399 #[v,I (a:Int),I (b:Int),.func (.func 394) #[] #[]] w (cA fun _ w'=>Am base l v w w'):=by
 refine enter (vs:=[v,I (a:Int),I (b:Int),.func (.func 394) #[] #[]]) Tryz.func399 J J J (bc (ab J J (ao (r:=I ((a+1:Nat):Int)) J J J (by have e:((a+1:Nat):Int)=(a:Int)+1:=(by omega);rw[e];exact aY) (aa J J (aI (aJ (iy (fun(i:Nat) (L:List eh)=>[(0,v),(1,I (a:Int)),(2,I (b:Int)),(3,.func (.func 394) #[] #[]),(8,I (i:Int))]) (fun(i:Nat) (L:List eh) w'=>i≤max b (a+1)∧w.grownBy w' v.ownBlock∧Kq [2,2,2,2,0,3,3] w w'∧L.Perm l∧gI base L v w') (fun(i:Nat) (L:List eh)=>max b (a+1)-i) (a+1) (l) ⟨J,J,J,J,J,trivial⟩ ⟨by omega,Nf _ _,E1 (by decide),.refl _,hO⟩ ?_)))))))
 rintro i L wL ⟨hi,hq,hk,hp,hL⟩
 refine aj (aj ?_)
 have hLl:=hp.length_eq
 refine ae (ab J J (ab J J (ao J J J (aX) (aI (ci J (fun h14=>?_) (fun h14=>?_))))))
 ·refine aA (ah (aj (aJ (aj ?_))))
  have hib:i<b:=by omega
  refine ae (ab J J (aa J J (aI (aJ (iy (fun(j:Nat) (M:List eh)=>[(0,v),(1,I (a:Int)),(2,I (b:Int)),(3,.func (.func 394) #[] #[]),(8,I (i:Int)),(9,I (j:Int))]) (fun(j:Nat) (M:List eh) w'=>j≤i∧w.grownBy w' v.ownBlock∧Kq [2,2,2,2,0,3,3] w w'∧M.Perm l∧gI base M v w') (fun(j:Nat) (M:List eh)=>j) (i) (L) ⟨J,J,J,J,J,J,trivial⟩ ⟨by omega,hq,hk,hp,hL⟩ ?_)))))
  rintro j M wM ⟨hj,hq2,hk2,hp2,hM⟩
  refine aj (aj ?_)
  have hMl:=hp2.length_eq
  rcases Decidable.em (a<j) with hA|hA
  ·refine bj 16 [0,1,2,3,8,9,21,33] (by kernel_rfl) (by kernel_rfl) ?_
   refine ax J J (ax J J (bC J J J (fun w _=>bF (by omega) bo) (ax J J (au J J (ax J J (au J J (ax J J (au J J (ax J J (au J J ?_))))))))))
   obtain⟨a25,c25,e25,he25,p25,q25,h25⟩:=gU hM.dsv (i:=j)
   obtain⟨x25_0,x25_1,rfl,f25_0,f25_1⟩:=fJ h25
   refine aK J J J (fun w _=>p25 w) (au J J (ap J J (fun w hw=>(q25.ext hw).ld M2 J eO) (au J J (ax J J (au J J (ax J J (au J J (bC (r:=I ((j-1:Nat):Int)) J J J (fun w _=>by have e:((j-1:Nat):Int)=(j:Int)-1:=(by omega);rw[e];exact bT) (au J J ?_)))))))))
   obtain⟨a30,c30,p30,q30,h30⟩:=cP (P:=Tryz.prog) (sz:=7) MV (by kernel_rfl) mA (by omega) hM.dsv (i:=(j-1:Nat)) (by omega) .i64
   obtain⟨e30,he30⟩:∃e,e=M[(j-1:Nat)]'(by omega):=⟨_,rfl⟩
   rw[←he30] at h30
   obtain⟨x30_0,x30_1,rfl,f30_0,f30_1⟩:=fJ h30
   refine aK J J J (fun w _=>p30 w) (au J J (ap J J (fun w hw=>(q30.ext hw).ld M2 J eO) (au J J (Ir (S:=Is (I (EZ e25.row e30.row))) J DB (bi.is _) J (fun w hw=>by rintro _ rfl _ rfl;exact DE (a:=e25) (b:=e30) (bQ.ext (bQ.mk (jO f25_0 f25_1)) hw) (bQ.ext (bQ.mk (jO f30_0 f30_1)) hw)) (au J J (bC J J J (fun w _=>aX) (bA ?_)))))))
   rintro wg4 xg4 _ hq0
   obtain rfl:=Eq.symm hq0
   rintro _ rfl _ rfl _ rfl _ rfl _ rfl _ rfl _ rfl
   refine aR J J J (aI (ci J (fun h34=>?_) (fun h34=>?_)))
   ·refine aA (ah (aj (aJ ?_)))
    have hMd:gI base M v wg4.drew:=hM.ext xg4.drew
    obtain⟨a1,b1,va,vb,c1,d1,w1,w2,pa,pb,la,lb',pc,sc,pd,sd,hq6,hk6,hO6⟩:=DH (j:=j) hMd (by omega) (by omega)
    refine K1 (fun _=>True) 18 J (by kernel_rfl) (K2 (fun _:Unit=>[(0,v),(1,I (a:Int)),(2,I (b:Int)),(3,.func (.func 394) #[] #[]),(8,I (i:Int)),(9,I (j:Int)),(37,v),(38,I (j:Int)),(39,v),(41,I ((j-1:Nat):Int)),(46,va),(50,vb)]) (fun _ w'=>w'=wg4.drew) #[true,true,true,true,true,true,true,true,true,true,true,true,true,true,false,false,false,false] 4 ?_ (fun hk=>?_))
    rotate_left
    ·refine pC 0 J J (by kernel_rfl) J trivial ?_
     refine pC 1 J J (by kernel_rfl) J trivial (pC 2 J J (by kernel_rfl) J trivial (pC 3 J J (by kernel_rfl) J trivial (Kv 4 (r:=I ((j-1:Nat):Int)) J J J (by kernel_rfl) J trivial (fun w' _=>by have e:((j-1:Nat):Int)=(j:Int)-1:=(by omega);rw[e];exact bT) (pC 5 J J (by kernel_rfl) J trivial (pC 6 J J (by kernel_rfl) J trivial (Kv 7 (r:=I ((j-1:Nat):Int)) J J J (by kernel_rfl) J trivial (fun w' _=>by have e:((j-1:Nat):Int)=(j:Int)-1:=(by omega);rw[e];exact bT) (uj 8 J J J (by kernel_rfl) J trivial (fun w' _=>pa w') (pC 10 J J (by kernel_rfl) J trivial (pC 11 J J (by kernel_rfl) J trivial (uj 12 J J J (by kernel_rfl) J trivial (fun w' _=>pb w') ?_))))))))))
     refine L6 9 13 (by kernel_rfl) J J ?_ ?_
     ·refine ak J J la (pD trivial ?_)
      refine xV 13 (by kernel_rfl) J (ak J J lb' (pD trivial ?_))
      exact hk _ _ ⟨(),⟨J,J,J,J,J,J,J,J,J,J,J,J,trivial⟩,J⟩
     ·refine ak J J lb' (pD trivial ?_)
      refine xV 9 (by kernel_rfl) J (ak J J la (pD trivial ?_))
      exact hk _ _ ⟨(),⟨J,J,J,J,J,J,J,J,J,J,J,J,trivial⟩,J⟩
    rintro _ _ rfl
    refine xV 14 (by kernel_rfl) J (aE J J J (pc _) (pD trivial (xV 15 (by kernel_rfl) J (dH J J sc (pD trivial (xV 16 (by kernel_rfl) J (aE J J J (pd _) (pD trivial (xV 17 (by kernel_rfl) J (dH J J sd (pD trivial (K3 (by kernel_rfl) (aW (ah (ae (ab J J (ao (r:=I ((j-1:Nat):Int)) J J J (by have e:((j-1:Nat):Int)=(j:Int)-1:=(by omega);rw[e];exact bT) (aa J J (ar (fk (j-1) (_) ⟨J,J,J,J,J,J,trivial⟩ ⟨by omega,(hq2.trans (aZ xg4.drew)).trans hq6,(hk2.trans (Kq.of_ext (by decide) xg4.drew)).trans hk6,(DG (by omega) (by omega)).trans hp2,hO6⟩ (by omega)))))))))))))))))))))
   ·refine bJ (aV (aV (bP (aW (ah (ae (ab J J (ao (r:=I ((i+1:Nat):Int)) J J J (by have e:((i+1:Nat):Int)=(i:Int)+1:=(by omega);rw[e];exact aY) ?_))))))))
    refine aa J J (ar (fk (i+1) (M) ⟨J,J,J,J,J,trivial⟩ ⟨by omega,hq2.trans (aZ xg4),hk2.trans (Kq.of_ext (by decide) xg4),hp2,hM.ext xg4⟩ (by omega)))
  ·refine bj 16 [0,1,2,3,8,9,21,33] (by kernel_rfl) (by kernel_rfl) ?_
   refine ax J J (ax J J (bC J J J (fun w _=>be (by omega) bo) (ax J J (bu J J J (bu J J J (bu J J J (bu J J J (bu J J J (bu J J J (bu J J J (bu J J J (bu J J J (bu J J J (bu J J J (bu J J J (bA ?_))))))))))))))))
   rintro wg4 xg4 _ hq0
   obtain rfl:=Eq.symm hq0
   rintro _ rfl _ rfl _ rfl _ rfl _ rfl _ rfl _ rfl
   refine aG J J J (aI (bU J (bJ (aV (aV (bP (aW (ah (ae (ab J J (ao (r:=I ((i+1:Nat):Int)) J J J (by have e:((i+1:Nat):Int)=(i:Int)+1:=(by omega);rw[e];exact aY) (aa J J (ar (fk (i+1) (M) ⟨J,J,J,J,J,trivial⟩ ⟨by omega,hq2.trans (aZ xg4),hk2.trans (Kq.of_ext (by decide) xg4),hp2,hM.ext xg4⟩ (by omega)))))))))))))))
 ·refine bJ (aV (aV (bP (u9 J ?_))))
  exact⟨_,J,hq,hk,L,hp,hL⟩
end Go.Rl
namespace Go.Rl
open Go.RowKit Go.Proofs
theorem An {w:World} {l:List eh} {v:Value} (hv:cF iI l v w) (hl:l.length≤1099511627776):
 Calls Tryz.prog 392 #[v] w (cA fun r w'=>aH w w'∧gI w.heap.size l r w'):=by
 have hlen:=hv.len
 obtain⟨A,n,c,rfl⟩:=hv.isS
 refine enter Tryz.func392 J J J (bc (aa J J (aI (aj (bc (ab J J (ao J J J (ve MV) (aI (j2 J (fun h4=>?_) (fun h4=>?_))))))))))
 ·refine bc (aa J J (aI (aD (a0 (aF J J ?_)))))
  have hA:A=none:=by simpa using h4
  have hnil:l=[]:=by
   have h:=hv
   simp only[cF,Rp,List.cons.injEq,Value.slice.injEq,and_true] at h
   obtain⟨_,n',c',⟨rfl,rfl,rfl⟩,h1,h2,_,h3,_⟩:=h
   have:=h3 hA
   exact Nm (by rw[List.length_map] at h1;omega)
  subst hnil
  exact⟨_,J,aH.refl _,bh.nil _⟩
 ·refine aA (ah (bc ?_))
  obtain⟨v5,w5,hr5,x5,o5⟩:=Ll (P:=Tryz.prog) (w:=w) (f:=iI) MV pV
  refine bN (vs:=[]) J J hr5 (ab J J ?_)
  obtain⟨v7,w7,hr7,o7,g7⟩:=tJ (ty:=124) o5 (hv.ext x5) (by simp;omega) (x5).size
  refine df J J hr7 ?_
  have x7:=aH.of_grew (x5) g7 (o5).ge
  refine aa J J (aI (aD (aF J J ?_)))
  exact⟨_,J,x7,by simpa using o7⟩
theorem xA:az Tryz.prog 136:=⟨_,Tryz.func136,by kernel_rfl,rfl⟩
theorem Ao {w:World} {l:List nw} {v:Value} (hv:cF pQ l v w) (hl:l.length≤1099511627776):
 Calls Tryz.prog 136 #[v] w (cA fun r w'=>aH w w'∧mB w.heap.size l r w'):=by
 have hlen:=hv.len
 obtain⟨A,n,c,rfl⟩:=hv.isS
 refine enter Tryz.func136 J J J (bc (aa J J (aI (aj (bc (ab J J (ao J J J (ve MO) (aI (j2 J (fun h4=>?_) (fun h4=>?_))))))))))
 ·refine bc (aa J J (aI (aD (a0 (aF J J ?_)))))
  have hA:A=none:=by simpa using h4
  have hnil:l=[]:=by
   have h:=hv
   simp only[cF,Rp,List.cons.injEq,Value.slice.injEq,and_true] at h
   obtain⟨_,n',c',⟨rfl,rfl,rfl⟩,h1,h2,_,h3,_⟩:=h
   have:=h3 hA
   exact Nm (by rw[List.length_map] at h1;omega)
  subst hnil
  exact⟨_,J,aH.refl _,bh.nil _⟩
 ·refine aA (ah (bc ?_))
  obtain⟨v5,w5,hr5,x5,o5⟩:=Ll (P:=Tryz.prog) (w:=w) (f:=pQ) MO Bf
  refine bN (vs:=[]) J J hr5 (ab J J ?_)
  obtain⟨v7,w7,hr7,o7,g7⟩:=HZ (ty:=54) o5 (hv.ext x5) (by simp;omega) (x5).size
  refine df J J hr7 ?_
  have x7:=aH.of_grew (x5) g7 (o5).ge
  refine aa J J (aI (aD (aF J J ?_)))
  exact⟨_,J,x7,by simpa using o7⟩
theorem xB:az Tryz.prog 137:=⟨_,Tryz.func137,by kernel_rfl,rfl⟩
theorem Ap {w:World} {l:List ig} {v:Value} (hv:cF vj l v w) (hl:l.length≤1099511627776):
 Calls Tryz.prog 137 #[v] w (cA fun r w'=>aH w w'∧pW w.heap.size l r w'):=by
 have hlen:=hv.len
 obtain⟨A,n,c,rfl⟩:=hv.isS
 refine enter Tryz.func137 J J J (bc (aa J J (aI (aj (bc (ab J J (ao J J J (ve MN) (aI (j2 J (fun h4=>?_) (fun h4=>?_))))))))))
 ·refine bc (aa J J (aI (aD (a0 (aF J J ?_)))))
  have hA:A=none:=by simpa using h4
  have hnil:l=[]:=by
   have h:=hv
   simp only[cF,Rp,List.cons.injEq,Value.slice.injEq,and_true] at h
   obtain⟨_,n',c',⟨rfl,rfl,rfl⟩,h1,h2,_,h3,_⟩:=h
   have:=h3 hA
   exact Nm (by rw[List.length_map] at h1;omega)
  subst hnil
  exact⟨_,J,aH.refl _,bh.nil _⟩
 ·refine aA (ah (bc ?_))
  obtain⟨v5,w5,hr5,x5,o5⟩:=Ll (P:=Tryz.prog) (w:=w) (f:=vj) MN Be
  refine bN (vs:=[]) J J hr5 (ab J J ?_)
  obtain⟨v7,w7,hr7,o7,g7⟩:=HY (ty:=55) o5 (hv.ext x5) (by simp;omega) (x5).size
  refine df J J hr7 ?_
  have x7:=aH.of_grew (x5) g7 (o5).ge
  refine aa J J (aI (aD (aF J J ?_)))
  exact⟨_,J,x7,by simpa using o7⟩
theorem BW {w:World} {base:Nat} {l:List eh} {v:Value} (hO:gI base l v w) (hl:l.length≤19):
 Calls Tryz.prog 398 #[v,I (l.length:Int),.func (.func 394) #[] #[]] w (cA fun _ w'=>Am base l v w w'):=by
 refine enter (vs:=[v,I (l.length:Int),.func (.func 394) #[] #[]]) Tryz.func398 J J J (bc (aa J J (dR (ab J J (aa J J (aa J J (aI (aj (aJ (dS (α:=Unit) (fun _=>[(0,v),(1,I (l.length:Int)),(2,.func (.func 394) #[] #[]),(6,I 20),(7,I 0),(8,I 20)]) (fun _ w'=>w=w') (fun _=>0) (()) ⟨J,J,J,J,J,J,trivial⟩ J ?_))))))))))
 rintro _ _ rfl
 refine aj (bc (ab J J (ab J J (ao J J J (be (by omega) iw) (aI (bU J (bJ (aV (aV (bP (ah (bc (ab J J (ab J J (ab J J (ab J J (aq DF J J ((DI (a:=0) (b:=l.length) hO (Ng _) (by omega) (by omega))) ?_)))))))))))))))))
 rintro v27 w27 hPm
 refine aI (aJ (dS (α:=Unit) (fun _=>[(6,I 20),(1,I (l.length:Int))]) (fun _ w'=>Am base l v w w') (fun _=>0) (()) ⟨J,J,trivial⟩ hPm ?_))
 rintro _ wL hPm
 refine aj (bc (ab J J (ab J J (ao J J J (be (by omega) aX) (aI (bU J (bJ (aV (aV (bP (u9 J ?_)))))))))))
 exact⟨_,J,hPm⟩
theorem BX {w:World} {base:Nat} {l:List eh} {v:Value} (hO:gI base l v w) (hl:l.length≤19):
 Calls Tryz.prog 393 #[v,.func (.func 394) #[] #[]] w (cA fun _ w'=>Am base l v w w'):=by
 refine enter (vs:=[v,.func (.func 394) #[] #[]]) Tryz.func393 J J J (ae (ab J J (ab J J (bn J J (bB MV hO.dsv) (ab J J (aq BU J J ((BW hO hl)) ?_))))))
 rintro v8 w8 hPm
 refine ar (u9 J ?_)
 exact⟨_,J,hPm⟩
end Go.Rl

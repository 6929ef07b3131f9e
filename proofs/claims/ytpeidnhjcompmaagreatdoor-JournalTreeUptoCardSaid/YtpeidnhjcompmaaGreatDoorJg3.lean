/- Part 3 of a proof: plain facts and walks of functions, merged by a program. Conditions: each lemma names its own. -/
import Derived.Test.YtpeidnhjcompmaaGreatDoorJg2
namespace Go.Rl
open Go.RowKit Go.Proofs
theorem AJ:(Tryz.prog.info? 173).map (fun i=>(i.zero,i.size,i.bytes))=some (some (.agg #[I 0,B false,B false,.slice none 0 0,.slice none 0 0,.slice none 0 0]),6,96):=by kernel_rfl
theorem cY (l:eB):(cP l).size=6:=by simp[cP,kH,fK,jA,fL,Dt.size,Dt.sizeAll]
theorem bF (n:aP):(bh n).size=9:=by cases n;simp[bh,c9,kH,fK,jA,fL,Dt.size,Dt.sizeAll]
theorem nK {X:Nat→Prop} {w:World}:bZ X w (.sl []) [.slice none 0 0]:=by
 simp only[bZ]
 exact⟨none,0,0,rfl,rfl,Nat.le_refl _,Nat.zero_le _,fun _=>rfl,fun h=>absurd h (by omega)⟩
theorem bX {X:Nat→Prop} {w:World} (b:Bool):bZ X w (.bool b) [B b]:=by simp only[bZ,B]
theorem AK {X:Nat→Prop} {w:World} {l:eB} {x y v:Value} (h:bZ X w (fK l.va) [B l.va.1,x,y]) (hp:bZ X w (fL l.pf) [v]):bZ X w (cP l) [I l.un,B l.up,B l.va.1,x,y,v]:=by
 unfold cP
 simp only[bZ.eq_5]
 exact aN.cons (a:=[I l.un]) (mO _) (aN.cons (a:=[B l.up]) (bX _) (aN.cons (a:=[B l.va.1,x,y]) h (aN.cons (b:=[]) hp aN.nil)))
theorem fH {X:Nat→Prop} {w:World} {ls:List eB} {d:bj} {ks:List aP} {em:Bool} {ps:List cp} {vl vk vp x y:Value} (hl:bZ X w (.sl (ls.map cP)) [vl]) (hd:bZ X w (c9 d) [I d.kd,I d.ix,B d.at_.1,x,y]) (hk:bZ X w (.sl (ks.map bh)) [vk]) (hp:bZ X w (fL ps) [vp]):
 bZ X w (bh (.mk ls d ks em ps)) [vl,I d.kd,I d.ix,B d.at_.1,x,y,vk,B em,vp]:=by
 unfold bh
 simp only[bZ.eq_5]
 exact aN.cons (a:=[vl]) hl (aN.cons (a:=[I d.kd,I d.ix,B d.at_.1,x,y]) hd (aN.cons (a:=[vk]) (by rw[iT];exact hk) (aN.cons (a:=[B em]) (bX _) (aN.cons (b:=[]) hp aN.nil))))
theorem rj {X:Nat→Prop} {w:World}:bZ X w (c9 lL) [I 0,I 0,B false,.slice none 0 0,.slice none 0 0]:=
 AI (d:=lL) (by
  simp only[fK,lL,JG,bZ.eq_5]
  exact aN.cons (a:=[B false]) (bX _) (aN.cons (a:=[.slice none 0 0]) nK (aN.cons (b:=[]) nK aN.nil)))
end Go.Rl
namespace Go.Rl
open Go.RowKit Go.Proofs
theorem Gv {P:Program} {w:World} {t:TypeId} {x y:Operand} {l:List UInt8}:(bin .eql t x y (I (if some l=some [] then 0 else 5)) (I 0)).run P w=.ok (B (decide (l=[]))) w:=by
 by_cases h:l=[]
 ·subst h
  exact bo
 ·rw[if_neg (fun e=>h (Option.some.inj e)),decide_eq_false h]
  exact bo
end Go.Rl
namespace Go.Rl
open Go.RowKit Go.Proofs
theorem JI (st:Option (List UInt8)):∃n s1,Gq gx st n s1∧n<18446744073709551616∧∀{w:World} {g:Nat},cD g st w→Calls Tryz.prog 89 #[.pointer (some ⟨g,0,none⟩)] w (bN fun r w'=>w.grownBy w' (some g)∧r=.tuple #[bW (UInt64.ofNat n),I (if s1.isSome=true then 0 else 5)]∧cD g s1 w'):=by
 cases hU:st.bind gx with
 |none=>exact⟨0,none,hU,by omega,fun hr=>I6 hr hU⟩
 |some p=>
  obtain⟨n,t⟩:=p
  refine⟨n,some t,hU,?_,fun hr=>Gm hr hU⟩
  cases st with
  |none=>cases hU
  |some l=>exact(gn (show gx l=some (n,t) from hU)).2
theorem JJ (st:Option (List UInt8)):∃n s1,Gq qh st n s1∧kY n∧∀{w:World} {g:Nat},cD g st w→Calls Tryz.prog 158 #[.pointer (some ⟨g,0,none⟩)] w (bN fun r w'=>w.grownBy w' (some g)∧r=.tuple #[I n,I (if s1.isSome=true then 0 else 5)]∧cD g s1 w'):=by
 cases hU:st.bind gx with
 |none=>
  refine⟨0,none,?_,by unfold kY;omega,fun hr=>KT hr hU⟩
  cases st with
  |none=>rfl
  |some l=>show(gx l).map _=none;rw[show gx l=none from hU];rfl
 |some p=>
  obtain⟨n,t⟩:=p
  have hI:Gq qh st (uz n) (some t):=by
   cases st with
   |none=>cases hU
   |some l=>show(gx l).map _=_;rw[show gx l=some (n,t) from hU];rfl
  exact⟨uz n,some t,hI,Dc hI,fun hr=>KU hr hU⟩
def sm (b:Nat) (q:eW):dv:=fun v w=>∃x y,v=.agg #[B q.1,x,y]∧bZ (fun k=>k<b) w (fK q) [B q.1,x,y]
def BQ (b:Nat) (q:eW) (e:Int):dv:=fun v w=>∃x y,v=.tuple #[.agg #[B q.1,x,y],I e]∧bZ (fun k=>k<b) w (fK q) [B q.1,x,y]
theorem sm.stable {b g:Nat} {q:eW} (hg:g<b):cr (Mv (RX g)) (sm b q):=fun _ _ _ ⟨x,y,h,h2⟩ hm=>⟨x,y,h,h2.mv (hm.weak fun j hj _=>by have:j=g:=hj;show j<b;omega) fun _ hk=>.inl hk⟩
theorem BQ.stable {b g:Nat} {q:eW} {e:Int} (hg:g<b):cr (Mv (RX g)) (BQ b q e):=fun _ _ _ ⟨x,y,h,h2⟩ hm=>⟨x,y,h,h2.mv (hm.weak fun j hj _=>by have:j=g:=hj;show j<b;omega) fun _ hk=>.inl hk⟩
theorem BQ.up {b c:Nat} {q:eW} {e:Int} {v:Value} {w:World} (hc:b≤c) (h:BQ c q e v w):BQ b q e v w:=by
 obtain⟨x,y,h1,h2⟩:=h
 exact⟨x,y,h1,h2.weak fun j hj=>.inl (Nat.lt_of_lt_of_le hj hc)⟩
theorem jL {X:Nat→Prop} {w:World} {q:eW} {x y:Value} (h:bZ X w (fK q) [B q.1,x,y]):x.oneCell'=true∧y.oneCell'=true:=by
 obtain⟨x',y',he,hx,hy⟩:=lK h.rp
 simp only[List.cons.injEq] at he
 obtain⟨_,rfl,rfl,_⟩:=he
 obtain⟨_,_,_,rfl⟩:=hx.isS
 obtain⟨_,_,_,rfl⟩:=hy.isS
 exact⟨rfl,rfl⟩
theorem JK (st:Option (List UInt8)):∃q s1,Gq nQ st q s1∧(Df st→∀{w:World} {g:Nat},cD g st w→Calls Tryz.prog 159 #[.pointer (some ⟨g,0,none⟩)] w (bN fun r w'=>w.grownBy w' (some g)∧BQ w.heap.size q (if s1.isSome=true then 0 else 5) r w'∧cD g s1 w')):=by
 cases hR:st.bind nQ with
 |none=>
  refine⟨(false,[],[]),none,hR,fun hl w g hr=>(uM hr hl).mono fun r w' ⟨r',he,h1,h2⟩=>⟨r',he,h1,?_⟩⟩
  rw[hR] at h2
  obtain⟨v,h3,⟨x,y,rfl,hx,hy⟩,h4⟩:=h2
  have hn:∀{z:Value},bk [] z w'→bZ (fun k=>k<w.heap.size) w' (jA []) [z]:=fun {z} hz=>by
   obtain⟨A,n,c,rfl,h5,h6,h7,h8,h9⟩:=hz
   simp only[jA,List.map_nil,bZ]
   have:n=0:=by simp at h7;omega
   subst this
   exact⟨A,0,c,rfl,rfl,h5,h6,h9,fun h=>by omega⟩
  refine⟨⟨x,y,h3,?_⟩,h4⟩
  simp only[fK,bZ]
  exact aN.cons (a:=[B false]) (by simp only[bZ,B]) (aN.cons (hn hx) (aN.cons (b:=[]) (hn hy) aN.nil))
 |some p=>
  obtain⟨q,t⟩:=p
  refine⟨q,some t,hR,fun hl w g hr=>(uM hr hl).mono fun r w' ⟨r',he,h1,h2⟩=>⟨r',he,h1,?_⟩⟩
  rw[hR] at h2
  obtain⟨x,y,h3,hx,hy,h4,n1,n2⟩:=h2
  refine⟨⟨x,y,h3,?_⟩,h4⟩
  simp only[fK,bZ]
  exact aN.cons (a:=[B q.1]) (by simp only[bZ,B]) (aN.cons (n1.rpx' hx) (aN.cons (b:=[]) (n2.rpx' hy) aN.nil))
theorem cD.mv {g:Nat} {st:Option (List UInt8)} {X:Nat→Prop} {w w':World} (h:cD g st w) (hm:Mv X w w') (hX:∀k,X k→g<k):cD g st w':=qa.mv h.rdT hm hX
end Go.Rl
namespace Go.Rl
open Go.RowKit Go.Proofs
theorem Sl.mv {X:Nat→Prop} {w w':World} {sz:Nat} {xs:List Value} {v:Value} (h:Sl sz xs v w) (hm:Mv X w w') (hx:∀k,v.ownBlock=some k→¬X k):Sl sz xs v w':=by
 obtain⟨A,n,c,rfl,h2,h3,h4,h5,h6⟩:=h
 exact⟨A,n,c,rfl,h2,h3,h4,fun hn=>(h5 hn).imp fun ad h=>⟨h.1,hm.cells h.2 fun _=>hx ad.block (by rw[h.1];rfl)⟩,h6⟩
def oh {α:Type} (b sz:Nat) (f:α→Dt) (l:List α):dv:=fun v w=>∃cs,Sl sz cs v w∧(∀k,v.ownBlock=some k→b≤k)∧ap cs∧aN (fun k=>k<b) w (l.map f) cs
theorem oh.stable {α:Type} {b sz g:Nat} {f:α→Dt} {l:List α} (hg:g<b):cr (Mv (RX g)) (oh b sz f l):=fun _ _ _ ⟨cs,h1,h2,h3,h4⟩ hm=>
 ⟨cs,h1.mv hm fun k hk hX=>by have:k=g:=hX;have:=h2 k hk;omega,h2,h3,aN.mv (hm.weak fun j hj _=>by have:j=g:=hj;show j<b;omega) (fun _ hk=>.inl hk) h4⟩
theorem aN.one {X:Nat→Prop} {w:World} {d:Dt} {cs:List Value} (h:aN X w [d] cs):bZ X w d cs:=by
 simp only[aN] at h
 obtain⟨c1,c2,rfl,h1,rfl⟩:=h
 simpa using h1
theorem Gw {α:Type} {P:Program} {w:World} {t e:TypeId} {z:Value} {sz bytes b:Nat} {f:α→Dt} {a:α} {cs:List Value} (ht:P.underlying t=some (.slice e)) (hi:(P.info? e).map (fun i=>(i.zero,i.size,i.bytes))=some (some z,sz,bytes)) (hzs:z.cells.size=sz) (h0:0<sz) (hsb:sz≤16777216)
 (hb:b≤w.heap.size) (h1:ap cs) (ha:bZ (fun k=>k<b) w (f a) cs) (hs:(f a).size=sz):∃r w',(Instr.buildSlice t 1 (dy 0 [Value.agg cs.toArray]).toArray).run P w=.ok r w'∧aH w w'∧oh b sz f [a] r w':=by
 have hcl:cs.length=sz:=by rw[ha.len,hs]
 have hi2:(P.info? e).map (fun i=>(i.zero,i.size))=some (some z,sz):=by
  obtain⟨i,hi',h2⟩:=Option.map_eq_some_iff.1 hi
  simp only[Prod.mk.injEq] at h2
  rw[hi']
  simp[h2.1,h2.2.1]
 obtain⟨x,w0,h3,h4,h5,h6⟩:=uO (w:=w) ht hi2 hzs h0 [cs] (by simp[hcl]) (by simp) (by simpa using hsb)
 refine⟨x,w0,by simpa using h3,h4,cs,by simpa using h5,fun k hk=>?_,h1,?_⟩
 ·rw[h6] at hk
  obtain rfl:=Option.some.inj hk
  exact hb
 ·simpa using aN.cons (b:=[]) (ha.ext h4) aN.nil
def BR (b:Nat) (T:TypeId) (l:List Value):dv:=fun v w=>∃g5,v=.pointer (some ⟨g5,0,none⟩)∧b≤g5∧bQ g5 T l w
theorem BR.stable {b g:Nat} {T:TypeId} {l:List Value} (hg:g<b):cr (Mv (RX g)) (BR b T l):=fun _ _ _ ⟨g5,h1,h2,h3⟩ hm=>⟨g5,h1,h2,hm.blk h3 fun h=>by have:g5=g:=h;omega⟩
theorem JL {P:Program} {w:World} {t:TypeId} {z:Value} {l:List Value} {b:Nat} (h:(P.info? t).map (·.zero)=some (some z)) (hv:z.cells=l.toArray) (hb:b≤w.heap.size):∃r w',(Instr.alloc t true (.tuple #[])).run P w=.ok r w'∧aH w w'∧BR b t l r w':=by
 obtain⟨g,w',h1,h2,h3,h4⟩:=a9 (w:=w) h hv
 exact⟨_,w',h1,h3,g,rfl,Nat.le_trans hb h2,h4⟩
end Go.Rl
namespace Go.Rl
open Go.RowKit Go.Proofs
theorem Gx {w:World} {ad:Addr} {xs cs:List Value} {g5:Nat} {T:TypeId} (hc:dw w ad xs) (hn:xs≠[]) (hb:bQ g5 T cs w) (hcs:∀u∈xs,u∉cs):ad.block≠g5:=fun he=>by
 cases xs with
 |nil=>exact hn rfl
 |cons u xs=>
  have hcell:=hc 0 u rfl
  have he:(ad.add 0).block=g5:=by rw[iH];exact he
  have:w.cell? (ad.add 0)=cs.toArray[(ad.add 0).off]? :=by
   have hs:(ad.add 0).spot=none:=World.cell?_spot hcell
   have e:ad.add 0=⟨g5,(ad.add 0).off,none⟩:=by
    cases hx:ad.add 0 with
    |mk b o s=>
     rw[hx] at hs he
     simp only at hs he
     rw[hs,he]
   rw[e]
   exact cell_of_row w g5 _ cs.toArray T (0,0) hb
  rw[hcell] at this
  have h2:cs[(ad.add 0).off]? =some u:=by simpa using this.symm
  exact hcs u (by simp) (List.mem_of_getElem? h2)
theorem AL {X:Nat→Prop} {w:World} {l:List UInt32} {v:Value} {g5:Nat} {T:TypeId} {cs:List Value} (h:bZ X w (jA l) [v]) (hb:bQ g5 T cs w) (hcs:∀n:UInt32,bE n∉cs):bZ (fun k=>X k∨k=g5) w (jA l) [v]:=by
 unfold jA at h⊢
 simp only[bZ] at h⊢
 obtain⟨A,n,c,hv,h2,h3,h4,h5,h6⟩:=h
 refine⟨A,n,c,hv,h2,h3,h4,h5,fun hp=>?_⟩
 obtain⟨ad,xs,hA,hX,hC,hall⟩:=h6 hp
 have hall2:∀(l:List UInt32) (ys:List Value),aN X w (l.map rR) ys→(∀u∈ys,∃n:UInt32,u=bE n)∧aN (fun k=>X k∨k=g5) w (l.map rR) ys:=by
  intro l
  induction l with
  |nil=>intro ys h;simp only[List.map_nil,aN] at h⊢;subst h;exact⟨fun _ h=>by simp at h,rfl⟩
  |cons a l ih=>
   intro ys h
   simp only[List.map_cons,aN] at h⊢
   obtain⟨c1,c2,rfl,h1,h2⟩:=h
   have h1':c1=[bE a]:=by simp only[rR,bZ] at h1;exact h1
   refine⟨fun u hu=>?_,c1,c2,rfl,by simpa only[rR,bZ] using h1,(ih _ h2).2⟩
   rcases List.mem_append.1 hu with hu|hu
   ·rw[h1'] at hu;exact⟨a,by simpa using hu⟩
   ·exact(ih _ h2).1 u hu
 obtain⟨hu,ha⟩:=hall2 l xs hall
 refine⟨ad,xs,hA,fun hn hx=>?_,hC,ha⟩
 rcases hx with hx|hx
 ·exact hX hn hx
 ·exact Gx hC hn hb (fun u hm=>by obtain⟨n,rfl⟩:=hu u hm;exact hcs n) hx
theorem Gy {X:Nat→Prop} {w:World} {q:eW} {x y:Value} {g5:Nat} {T:TypeId} {cs:List Value} (h:bZ X w (fK q) [B q.1,x,y]) (hb:bQ g5 T cs w) (hcs:∀n:UInt32,bE n∉cs):bZ (fun k=>X k∨k=g5) w (fK q) [B q.1,x,y]:=by
 have key:∀{ms:List Value},bZ X w (fK q) ms→∃x y,ms=[B q.1,x,y]∧bZ X w (jA q.2.1) [x]∧bZ X w (jA q.2.2) [y]:=fun {ms} h=>by
  have isS:∀{l:List UInt32} {c:List Value},bZ X w (jA l) c→∃v,c=[v]:=fun {l c} h=>by
   unfold jA at h
   simp only[bZ] at h
   obtain⟨A,n,c,rfl,_⟩:=h
   exact⟨_,rfl⟩
  simp only[fK,bZ,aN] at h
  obtain⟨_,_,rfl,rfl,c1,_,rfl,h1,c2,_,rfl,h2,rfl⟩:=h
  obtain⟨x,rfl⟩:=isS h1
  obtain⟨y,rfl⟩:=isS h2
  exact⟨x,y,rfl,h1,h2⟩
 obtain⟨x',y',he,h1,h2⟩:=key h
 simp only[List.cons.injEq,and_true] at he
 obtain⟨_,rfl,rfl⟩:=he
 simp only[fK,bZ.eq_5]
 exact aN.cons (a:=[B q.1]) (bX _) (aN.cons (AL h1 hb hcs) (aN.cons (b:=[]) (AL h2 hb hcs) aN.nil))
end Go.Rl
namespace Go.Rl
open Go.RowKit Go.Proofs
theorem oh.isS {α:Type} {b sz:Nat} {f:α→Dt} {l:List α} {v:Value} {w:World} (h:oh b sz f l v w):∃A n c,v=.slice A n c:=by
 obtain⟨cs,⟨A,n,c,rfl,_⟩,_⟩:=h
 exact⟨A,n,c,rfl⟩
def KV (b:Nat) (nd:aP):dv:=fun v w=>∃cs,v=.agg cs.toArray∧ap cs∧bZ (fun k=>k<b) w (bh nd) cs
theorem KV.stable {b g:Nat} {nd:aP} (hg:g<b):cr (Mv (RX g)) (KV b nd):=fun _ _ _ ⟨cs,h,h1,h2⟩ hm=>⟨cs,h,h1,h2.mv (hm.weak fun j hj _=>by have:j=g:=hj;show j<b;omega) fun _ hk=>.inl hk⟩
end Go.Rl
namespace Go.Rl
open Go.RowKit Go.Proofs
end Go.Rl
namespace Go.Rl
open Go.RowKit Go.Proofs
end Go.Rl
namespace Go.Rl
open Go.RowKit
end Go.Rl
namespace Go.Rl
open Go.RowKit
theorem aN.split {X:Nat→Prop} {w:World}:∀{l m:List Dt} {cs:List Value},aN X w (l++m) cs→∃a b,cs=a++b∧aN X w l a∧aN X w m b
 |[],m,cs,h=>⟨[],cs,rfl,aN.nil,h⟩
 |d::l,m,cs,h=>by
  simp only[List.cons_append,aN] at h
  obtain⟨c1,c2,rfl,h1,h2⟩:=h
  obtain⟨a,b,rfl,h3,h4⟩:=aN.split (l:=l) h2
  exact⟨c1++a,b,by simp,aN.cons h1 h3,h4⟩
end Go.Rl
namespace Go.Rl
open Go.RowKit Go.Proofs
end Go.Rl
namespace Go.Rl
def wj (d:bj):Bool:=decide (d.kd=0)&&decide (d.ix=0)&&decide (d.at_=JG)
def kq (n:aP):Bool:=decide (1≤n.split.kd)&&decide (n.split.kd≤4)&& !n.empty&&decide (n.pf.length=0)
def km:Nat→aP→Bool×Nat
 |0,_=>(false,0)
 |l+1,n=>match n.kids with
  |[]=>(wj n.split,1)
  |[x,y]=>if kq n=true then
    (if (km l x).1=false∨65536<(km l x).2 then(false,0) else((km l y).1,1+(km l x).2+(km l y).2))
   else(false,0)
  |_=>(false,0)
def lc:Nat→Int→aP→Int×Bool
 |d,most,n=>if most<1 then(0,false) else match n.kids with
  |[]=>(1,wj n.split)
  |[x,y]=>if kq n=true then(match d with
    |0=>(0,false)
    |d+1=>if (lc d (most-1) x).2=false then(0,false) else(1+(lc d (most-1) x).1+(lc d (most-1-(lc d (most-1) x).1) y).1,(lc d (most-1-(lc d (most-1) x).1) y).2))
   else(0,false)
  |_=>(0,false)
def kn:Nat→aP→Bool
 |d,n=>match n.kids with
  |[]=>wj n.split
  |[x,y]=>kq n&&(match d with
    |0=>false
    |d+1=>kn d x&&kn d y)
  |_=>false
def fM:Nat→aP→Nat
 |d,n=>match n.kids with
  |[x,y]=>(match d with
    |0=>1
    |d+1=>1+fM d x+fM d y)
  |_=>1
theorem rk (d:Nat) (n:aP):1≤fM d n:=by
 unfold fM
 split
 ·split<;>omega
 ·omega
theorem yL:∀(d:Nat) (n:aP),(km (d+1) n).1=true→kn d n=true∧(km (d+1) n).2=fM d n
 |d,n,h=>by
  unfold km at h⊢
  unfold kn fM
  split at h
  ·rename_i e
   simp only[e]
   exact⟨h,trivial⟩
  ·rename_i x y e
   simp only[e]
   split at h
   ·rename_i hi
    rw[if_pos hi]
    split at h
    ·cases h
    ·rename_i hx
     rw[if_neg hx]
     simp only[not_or,Bool.not_eq_false,Nat.not_lt] at hx
     cases d with
     |zero=>simp[km] at hx
     |succ d=>
      obtain⟨a1,a2⟩:=yL d x hx.1
      obtain⟨b1,b2⟩:=yL d y h
      exact⟨by simp[hi,a1,b1],by simp[a2,b2]⟩
   ·cases h
  ·cases h
theorem BS:∀(d:Nat) (n:aP),kn d n=true→fM d n≤65536→(km (d+1) n).1=true
 |d,n,h,hc=>by
  unfold kn at h
  unfold fM at hc
  unfold km
  split at h
  ·exact h
  ·rename_i x y e
   simp only[e,Bool.and_eq_true] at h hc⊢
   rw[if_pos h.1]
   cases d with
   |zero=>simp at h
   |succ d=>
    simp only[Bool.and_eq_true] at h hc
    have a:=BS d x h.2.1 (by omega)
    have b:=BS d y h.2.2 (by omega)
    have a2:=(yL d x a).2
    rw[if_neg (by rw[a2,a];simp;omega)]
    exact b
  ·cases h
theorem yM:∀(d:Nat) (most:Int) (n:aP),(lc d most n).2=(kn d n&&decide ((fM d n:Int)≤most))∧((lc d most n).2=true→(lc d most n).1=fM d n)
 |d,most,n=>by
  have hp:=rk d n
  unfold lc
  by_cases hm:most<1
  ·rw[if_pos hm,decide_eq_false (by omega)]
   simp
  ·rw[if_neg hm]
   unfold kn fM
   generalize n.kids=ks
   rcases ks with _|⟨x,_|⟨y,_|⟨z,t⟩⟩⟩
   ·refine⟨?_,fun _=>rfl⟩
    show wj n.split=(wj n.split&&decide (((1:Nat):Int)≤most))
    rw[decide_eq_true (by omega),Bool.and_true]
   ·simp
   ·by_cases hi:kq n=true
    ·show(if kq n=true then _ else _:Int×Bool).2=(kq n&&_&&_)∧_
     rw[if_pos hi,hi]
     cases d with
     |zero=>simp
     |succ d=>
      obtain⟨a1,a2⟩:=yM d (most-1) x
      simp only[Bool.true_and]
      by_cases hx:(lc d (most-1) x).2=false
      ·rw[if_pos hx]
       rw[hx] at a1
       refine⟨?_,fun h=>by cases h⟩
       have hpy:=rk d y
       cases hk:kn d x with
       |false=>simp
       |true=>
        rw[hk,Bool.true_and] at a1
        have:=of_decide_eq_false a1.symm
        rw[decide_eq_false (by omega)]
        simp
      ·rw[if_neg hx]
       have hx':(lc d (most-1) x).2=true:=by simpa using hx
       have e1:=a2 hx'
       rw[hx'] at a1
       simp only[Bool.true_eq,Bool.and_eq_true,decide_eq_true_eq] at a1
       rw[e1]
       obtain⟨b1,b2⟩:=yM d (most-1-(fM d x:Int)) y
       refine⟨?_,fun h=>?_⟩
       ·rw[b1,a1.1,Bool.true_and]
        congr 1
        exact decide_eq_decide.2 (by omega)
       ·rw[b2 (by simpa using h)]
        simp only[if_true]
        omega
    ·have hi':kq n=false:=by simpa using hi
     simp[hi']
   ·simp
def iF (n:aP):Bool:=kn 2048 n&&decide (fM 2048 n≤65536)
theorem Gz (n:aP):(lc 2048 65536 n).2=iF n:=by
 rw[(yM 2048 65536 n).1]
 unfold iF
 congr 1
 exact decide_eq_decide.2 (by omega)
theorem GA (n:aP):((km 2049 n).1&&decide ((km 2049 n).2≤65536))=iF n:=by
 unfold iF
 cases h:(km 2049 n).1 with
 |true=>
  obtain⟨a,b⟩:=yL 2048 n h
  rw[a,b]
 |false=>
  rw[Bool.false_and]
  cases hk:kn 2048 n with
  |false=>rfl
  |true=>
   rw[Bool.true_and]
   refine(decide_eq_false fun hc=>?_).symm
   have:=BS 2048 n hk hc
   rw[h] at this
   cases this
end Go.Rl
namespace Go.Rl
open Go.RowKit Go.Proofs
end Go.Rl
namespace Go.Rl
open Go.RowKit Go.Proofs
theorem rl:aJ Tryz.prog 168:=⟨_,Tryz.func168,by kernel_rfl,rfl⟩
theorem rn {w:World} {l m:List UInt32} {v u:Value} (hv:bk l v w) (hu:bk m u w):
 Calls Tryz.prog 168 #[v,u] w (bN fun r w'=>aH w w'∧r=B (decide (l=m))):=by
 refine enter (vs:=[v,u]) Tryz.func168 E E E ?_
 have hll:=hv.len
 refine af (aa (ac E E (ag (ab (af (af (aa (ae E E (aV E E (bz Lj hv) (ae E E (aV E E (bz Lj hu) ?_)))))))))))
 refine al E E E (dn) (ag (ab ?_))
 refine bu E (fun h10=>?_) (fun h10=>?_)
 ·have hne:l≠m:=fun h=>h10 (by rw[h])
  refine af (aa (ac E E (ag (ab (aw (az (au E E ?_)))))))
  exact⟨_,rfl,aH.refl _,congrArg B (decide_eq_false hne).symm⟩
 ·have hlen:l.length=m.length:=by omega
  refine aC (ab (af (af (aa (ae E E (aV E E (bz Lj hv) (ae E E (ag (ab (aG ?_))))))))))
  refine ck (α:=Nat) (fun x=>[(0,v),(1,u),(12,I (l.length:Int)),(13,I (x:Int))]) (fun x w'=>aH w w'∧x≤l.length∧l.take x=m.take x) (fun x=>l.length-x) (0) ⟨rfl,rfl,rfl,rfl,trivial⟩ ⟨aH.refl _,by omega,rfl⟩ ?_
  rintro i w4 ⟨e4,hi,ht⟩
  refine af (aa (al E E E (a6) (ag (ab (af ?_)))))
  refine bu E (fun h14=>?_) (fun h14=>?_)
  ·refine aC (ab (af (aG (af (aa (ae E E (ac E E (ag (ab (af (bP 8 [0,1,12,13,19,23] (by kernel_rfl) (by kernel_rfl) ?_)))))))))))
   refine ax E E (ax E E ?_)
   obtain⟨a18,p18,q18⟩:=cQ Lj (hv.ext e4) (i:=i) (by omega) .i64
   refine aD E E E (fun w _=>p18 w) (aQ E E (fun w hw=>ai Ll E (hw.cell_some q18)) (ax E E (ax E E ?_)))
   obtain⟨a22,p22,q22⟩:=cQ Lj (hu.ext e4) (i:=i) (by omega) .i64
   refine aD E E E (fun w _=>p22 w) (aQ E E (fun w hw=>ai Ll E (hw.cell_some q22)) (cn ?_))
   intro wg6 xg6
   rintro _ hq0
   obtain rfl:=Eq.symm hq0
   rintro _ hq1
   obtain rfl:=Eq.symm hq1
   rintro _ rfl
   rintro _ rfl
   rintro _ rfl
   rintro _ rfl
   refine al E E E (lw) (ag (ab ?_))
   refine bu E (fun h24=>?_) (fun h24=>?_)
   ·have hne:l≠m:=fun h=>h24 (by subst h;rfl)
    refine af (aa (ac E E (ag (ab (aw (ba (az (az (ba (az (au E E ?_)))))))))))
    exact⟨_,rfl,(e4.trans xg6),congrArg B (decide_eq_false hne).symm⟩
   ·have he:l[i]'(by omega)=m[i]'(by omega):=Classical.byContradiction fun h=>h24 h
    refine aC (aW (ab (aa (al (r:=I ((i+1:Nat):Int)) E E E (by have e:((i+1:Nat):Int)=(i:Int)+1:=(by omega);rw[e];exact aR (by omega) (by omega)) ?_))))
    refine ae E E (ag ?_)
    refine bS (i+1) ⟨rfl,rfl,rfl,rfl,trivial⟩ ⟨(e4.trans xg6),by omega,by rw[List.take_succ_eq_append_getElem (by omega),List.take_succ_eq_append_getElem (by omega),ht,he]⟩ (by omega)
  ·refine bc (aK (aK (bf (ab (af (aa (ac E E (ag (ab (aw (au E E ?_)))))))))))
   exact⟨_,rfl,e4,by
    rw[List.take_of_length_le (by omega),List.take_of_length_le (by omega)] at ht
    rw[decide_eq_true ht];rfl⟩
end Go.Rl
namespace Go.Rl
open Go.RowKit Go.Proofs
theorem yN:aJ Tryz.prog 169:=⟨_,Tryz.func169,by kernel_rfl,rfl⟩
theorem yO:aJ Tryz.prog 144:=⟨_,Tryz.func144,by kernel_rfl,rfl⟩
theorem lh:aJ Tryz.prog 111:=⟨_,Tryz.func111,by kernel_rfl,rfl⟩
theorem fX:aJ Tryz.prog 66:=⟨_,Tryz.func66,by kernel_rfl,rfl⟩
theorem sn:aJ Tryz.prog 69:=⟨_,Tryz.func69,by kernel_rfl,rfl⟩
theorem qi:aJ Tryz.prog 72:=⟨_,Tryz.func72,by kernel_rfl,rfl⟩
theorem jg:aJ Tryz.prog 29:=⟨_,Tryz.func29,by kernel_rfl,rfl⟩
theorem yP {w:World} {a b:eW} {x y p q:Value} (ha:bk a.2.1 x w) (ha':bk a.2.2 y w) (hb:bk b.2.1 p w) (hb':bk b.2.2 q w):
 Calls Tryz.prog 169 #[.agg #[B a.1,x,y],.agg #[B b.1,p,q]] w (bN fun r w'=>aH w w'∧r=B (decide (a=b))):=by
 refine enter (vs:=[.agg #[B a.1,x,y],.agg #[B b.1,p,q]]) Tryz.func169 E E E ?_
 refine af (aa ?_)
 obtain⟨g2,w2,hr2,l2,x2,k2⟩:=cq (P:=Tryz.prog) (w:=w) (T:=46) (cs:=[B a.1,x,y])
 refine cw E E hr2 ?_
 obtain⟨g3,w3,hr3,l3,x3,k3⟩:=cq (P:=Tryz.prog) (w:=w2) (T:=46) (cs:=[B b.1,p,q])
 refine cw E E hr3 (ac E E (ag (ab (af (aa (ah E E (av (o:=0) Ln E (by kernel_rfl) E) ?_))))))
 refine aj E E (ai Lw E (x3.cell_some (k2.cell (i:=0) E))) (ah E E (av (o:=0) Ln E (by kernel_rfl) E) ?_)
 refine aj E E (ai Lw E (k3.cell (i:=0) E)) (al E E E (tO Lw) (ae E E ?_))
 refine ci (fun h10=>?_) (fun h10=>?_)
 ·refine ak E (ah E E (av (o:=1) Ln E (by kernel_rfl) E) (ak E (aj E E (ai Lj E (x3.cell_some (k2.cell (i:=1) E))) ?_)))
  refine ak E (ah E E (av (o:=1) Ln E (by kernel_rfl) E) (ak E (aj E E (ai Lj E (k3.cell (i:=1) E)) ?_)))
  refine ak E (an rl E E (rn (ha.ext (x2.trans x3)) (hb.ext (x2.trans x3))) ?_)
  rintro v15 w15 ⟨x15,rfl⟩
  refine aq E E E (ae E E ?_)
  refine ci (fun h17=>?_) (fun h17=>?_)
  ·refine ak E (ah E E (av (o:=2) Ln E (by kernel_rfl) E) (ak E (aj E E (ai Lj E ((x3.trans x15).cell_some (k2.cell (i:=2) E))) ?_)))
   refine ak E (ah E E (av (o:=2) Ln E (by kernel_rfl) E) (ak E (aj E E (ai Lj E (x15.cell_some (k3.cell (i:=2) E))) ?_)))
   refine ak E (an rl E E (rn (ha'.ext ((x2.trans x3).trans x15)) (hb'.ext ((x2.trans x3).trans x15))) ?_)
   rintro v22 w22 ⟨x22,rfl⟩
   refine aq E E E (ac E E (ag (ab (aw (au E E ?_)))))
   exact⟨_,rfl,(((x2.trans x3).trans x15).trans x22),by
    first
    |exact congrArg B (decide_eq_decide.2 ⟨fun h=>Prod.ext h10 (Prod.ext h17 h),fun h=>by rw[h]⟩)
    |exact congrArg B (decide_eq_false fun h=>h17 (by rw[h])).symm
    |exact congrArg B (decide_eq_false fun h=>h10 (by rw[h])).symm⟩
  ·refine am E E E (am E E E (am E E E (am E E E (am E E E (aI E E E (ac E E (ag (ab (aw (au E E ?_))))))))))
   exact⟨_,rfl,((x2.trans x3).trans x15),by
    first
    |exact congrArg B (decide_eq_decide.2 ⟨fun h=>Prod.ext h10 (Prod.ext h17 h),fun h=>by rw[h]⟩)
    |exact congrArg B (decide_eq_false fun h=>h17 (by rw[h])).symm
    |exact congrArg B (decide_eq_false fun h=>h10 (by rw[h])).symm⟩
 ·refine am E E E (am E E E (am E E E (am E E E (am E E E (aI E E E (ae E E (am E E E (am E E E (am E E E ?_)))))))))
  refine am E E E (am E E E (aI E E E (ac E E (ag (ab (aw (au E E ?_)))))))
  exact⟨_,rfl,(x2.trans x3),by
   first
   |exact congrArg B (decide_eq_decide.2 ⟨fun h=>Prod.ext h10 (Prod.ext h17 h),fun h=>by rw[h]⟩)
   |exact congrArg B (decide_eq_false fun h=>h17 (by rw[h])).symm
   |exact congrArg B (decide_eq_false fun h=>h10 (by rw[h])).symm⟩
theorem BT {w:World} {a b:eW} {x y p q:Value} (ha:bk a.2.1 x w) (ha':bk a.2.2 y w) (hb:bk b.2.1 p w) (hb':bk b.2.2 q w):
 Calls Tryz.prog 105 #[.agg #[B a.1,x,y],.agg #[B b.1,p,q]] w (bN fun r w'=>aH w w'∧r=B (decide (a=b))):=by
 refine bN.mono (uI (a:=a.1) (b:=b.1) ⟨x,y,rfl,ha,ha'⟩ ⟨p,q,rfl,hb,hb'⟩) fun r w' h=>⟨h.1,h.2.trans (congrArg B (decide_eq_decide.2 ⟨fun h=>Prod.ext h.1 (Prod.ext h.2.1 h.2.2),fun h=>by rw[h];exact⟨rfl,rfl,rfl⟩⟩))⟩
deriving instance DecidableEq for bj
theorem bj.ext' {a b:bj} (h1:a.kd=b.kd) (h2:a.ix=b.ix) (h3:a.at_=b.at_):a=b:=by
 cases a;cases b
 simp only at h1 h2 h3
 rw[h1,h2,h3]
theorem yQ {w:World} {a b:bj} {x y p q:Value} (ha:bk a.at_.2.1 x w) (ha':bk a.at_.2.2 y w) (hb:bk b.at_.2.1 p w) (hb':bk b.at_.2.2 q w):
 Calls Tryz.prog 144 #[.agg #[I a.kd,I a.ix,B a.at_.1,x,y],.agg #[I b.kd,I b.ix,B b.at_.1,p,q]] w (bN fun r w'=>aH w w'∧r=B (decide (a=b))):=by
 refine enter (vs:=[.agg #[I a.kd,I a.ix,B a.at_.1,x,y],.agg #[I b.kd,I b.ix,B b.at_.1,p,q]]) Tryz.func144 E E E ?_
 refine af (aa ?_)
 obtain⟨g2,w2,hr2,l2,x2,k2⟩:=cq (P:=Tryz.prog) (w:=w) (T:=48) (cs:=[I a.kd,I a.ix,B a.at_.1,x,y])
 refine cw E E hr2 ?_
 obtain⟨g3,w3,hr3,l3,x3,k3⟩:=cq (P:=Tryz.prog) (w:=w2) (T:=48) (cs:=[I b.kd,I b.ix,B b.at_.1,p,q])
 refine cw E E hr3 (ac E E (ag (ab (af (aa (ah E E (av (o:=0) Lm E (by kernel_rfl) E) ?_))))))
 refine aj E E (ai Lo E (x3.cell_some (k2.cell (i:=0) E))) (ah E E (av (o:=0) Lm E (by kernel_rfl) E) ?_)
 refine aj E E (ai Lo E (k3.cell (i:=0) E)) (al E E E (bo) (ae E E ?_))
 refine ci (fun h10=>?_) (fun h10=>?_)
 ·refine ak E (ah E E (av (o:=1) Lm E (by kernel_rfl) E) (ak E (aj E E (ai Lo E (x3.cell_some (k2.cell (i:=1) E))) ?_)))
  refine ak E (ah E E (av (o:=1) Lm E (by kernel_rfl) E) (ak E (aj E E (ai Lo E (k3.cell (i:=1) E)) ?_)))
  refine ak E (al E E E (bo) (aq E E E (ae E E ?_)))
  refine ci (fun h17=>?_) (fun h17=>?_)
  ·refine ak rfl (ah rfl rfl (av (o:=2) Tryz.underlying48 rfl (by kernel_rfl) rfl) (ak rfl (aj rfl rfl ((k2.ext x3).ldO (ms:=[B a.at_.1,x,y]) (o:=2) (fun j v hj=>by rcases j with _|_|_|_|_|_|_|_|_|j<;>simp_all) Tryz.underlying46 rfl (by kernel_rfl)) ?_)))
   refine ak rfl (ah rfl rfl (av (o:=2) Tryz.underlying48 rfl (by kernel_rfl) rfl) (ak rfl (aj rfl rfl (k3.ldO (ms:=[B b.at_.1,p,q]) (o:=2) (fun j v hj=>by rcases j with _|_|_|_|_|_|_|_|_|j<;>simp_all) Tryz.underlying46 rfl (by kernel_rfl)) ?_)))
   refine ak E (an yN E E ((yP (a:=a.at_) (b:=b.at_) (ha.ext (x2.trans x3)) (ha'.ext (x2.trans x3)) (hb.ext (x2.trans x3)) (hb'.ext (x2.trans x3)))) ?_)
   rintro v22 w22 ⟨x22,rfl⟩
   refine aq E E E (ac E E (ag (ab (aw (au E E ?_)))))
   exact⟨_,rfl,((x2.trans x3).trans x22),by
    first
    |exact congrArg B (decide_eq_decide.2 ⟨fun h=>bj.ext' h10 h17 h,fun h=>by rw[h]⟩)
    |exact congrArg B (decide_eq_false fun h=>h17 (by rw[h])).symm
    |exact congrArg B (decide_eq_false fun h=>h10 (by rw[h])).symm⟩
  ·refine am E E E (am E E E (am E E E (am E E E (am E E E (aI E E E (ac E E (ag (ab (aw (au E E ?_))))))))))
   exact⟨_,rfl,(x2.trans x3),by
    first
    |exact congrArg B (decide_eq_decide.2 ⟨fun h=>bj.ext' h10 h17 h,fun h=>by rw[h]⟩)
    |exact congrArg B (decide_eq_false fun h=>h17 (by rw[h])).symm
    |exact congrArg B (decide_eq_false fun h=>h10 (by rw[h])).symm⟩
 ·refine am E E E (am E E E (am E E E (am E E E (am E E E (aI E E E (ae E E (am E E E (am E E E (am E E E ?_)))))))))
  refine am E E E (am E E E (aI E E E (ac E E (ag (ab (aw (au E E ?_)))))))
  exact⟨_,rfl,(x2.trans x3),by
   first
   |exact congrArg B (decide_eq_decide.2 ⟨fun h=>bj.ext' h10 h17 h,fun h=>by rw[h]⟩)
   |exact congrArg B (decide_eq_false fun h=>h17 (by rw[h])).symm
   |exact congrArg B (decide_eq_false fun h=>h10 (by rw[h])).symm⟩
theorem sq {w:World} {a b:bj} {x y p q:Value} (ha:bk a.at_.2.1 x w) (ha':bk a.at_.2.2 y w) (hb:bk b.at_.2.1 p w) (hb':bk b.at_.2.2 q w):
 Calls Tryz.prog 69 #[.agg #[I a.kd,I a.ix,B a.at_.1,x,y],.agg #[I b.kd,I b.ix,B b.at_.1,p,q]] w (bN fun r w'=>aH w w'∧r=B (decide (a=b))):=by
 refine enter (vs:=[.agg #[I a.kd,I a.ix,B a.at_.1,x,y],.agg #[I b.kd,I b.ix,B b.at_.1,p,q]]) Tryz.func69 E E E ?_
 refine af (aa ?_)
 obtain⟨g2,w2,hr2,l2,x2,k2⟩:=cq (P:=Tryz.prog) (w:=w) (T:=48) (cs:=[I a.kd,I a.ix,B a.at_.1,x,y])
 refine cw E E hr2 ?_
 obtain⟨g3,w3,hr3,l3,x3,k3⟩:=cq (P:=Tryz.prog) (w:=w2) (T:=48) (cs:=[I b.kd,I b.ix,B b.at_.1,p,q])
 refine cw E E hr3 (ac E E (ag (ab (af (aa (ah E E (av (o:=0) Lm E (by kernel_rfl) E) ?_))))))
 refine aj E E (ai Lo E (x3.cell_some (k2.cell (i:=0) E))) (ah E E (av (o:=0) Lm E (by kernel_rfl) E) ?_)
 refine aj E E (ai Lo E (k3.cell (i:=0) E)) (al E E E (bo) (ae E E ?_))
 refine ci (fun h10=>?_) (fun h10=>?_)
 ·refine ak E (ah E E (av (o:=1) Lm E (by kernel_rfl) E) (ak E (aj E E (ai Lo E (x3.cell_some (k2.cell (i:=1) E))) ?_)))
  refine ak E (ah E E (av (o:=1) Lm E (by kernel_rfl) E) (ak E (aj E E (ai Lo E (k3.cell (i:=1) E)) ?_)))
  refine ak E (al E E E (bo) (aq E E E (ae E E ?_)))
  refine ci (fun h17=>?_) (fun h17=>?_)
  ·refine ak rfl (ah rfl rfl (av (o:=2) Tryz.underlying48 rfl (by kernel_rfl) rfl) (ak rfl (aj rfl rfl ((k2.ext x3).ldO (ms:=[B a.at_.1,x,y]) (o:=2) (fun j v hj=>by rcases j with _|_|_|_|_|_|_|_|_|j<;>simp_all) Tryz.underlying46 rfl (by kernel_rfl)) ?_)))
   refine ak rfl (ah rfl rfl (av (o:=2) Tryz.underlying48 rfl (by kernel_rfl) rfl) (ak rfl (aj rfl rfl (k3.ldO (ms:=[B b.at_.1,p,q]) (o:=2) (fun j v hj=>by rcases j with _|_|_|_|_|_|_|_|_|j<;>simp_all) Tryz.underlying46 rfl (by kernel_rfl)) ?_)))
   refine ak E (an mI E E ((BT (a:=a.at_) (b:=b.at_) (ha.ext (x2.trans x3)) (ha'.ext (x2.trans x3)) (hb.ext (x2.trans x3)) (hb'.ext (x2.trans x3)))) ?_)
   rintro v22 w22 ⟨x22,rfl⟩
   refine aq E E E (ac E E (ag (ab (aw (au E E ?_)))))
   exact⟨_,rfl,((x2.trans x3).trans x22),by
    first
    |exact congrArg B (decide_eq_decide.2 ⟨fun h=>bj.ext' h10 h17 h,fun h=>by rw[h]⟩)
    |exact congrArg B (decide_eq_false fun h=>h17 (by rw[h])).symm
    |exact congrArg B (decide_eq_false fun h=>h10 (by rw[h])).symm⟩
  ·refine am E E E (am E E E (am E E E (am E E E (am E E E (aI E E E (ac E E (ag (ab (aw (au E E ?_))))))))))
   exact⟨_,rfl,(x2.trans x3),by
    first
    |exact congrArg B (decide_eq_decide.2 ⟨fun h=>bj.ext' h10 h17 h,fun h=>by rw[h]⟩)
    |exact congrArg B (decide_eq_false fun h=>h17 (by rw[h])).symm
    |exact congrArg B (decide_eq_false fun h=>h10 (by rw[h])).symm⟩
 ·refine am E E E (am E E E (am E E E (am E E E (am E E E (aI E E E (ae E E (am E E E (am E E E (am E E E ?_)))))))))
  refine am E E E (am E E E (aI E E E (ac E E (ag (ab (aw (au E E ?_)))))))
  exact⟨_,rfl,(x2.trans x3),by
   first
   |exact congrArg B (decide_eq_decide.2 ⟨fun h=>bj.ext' h10 h17 h,fun h=>by rw[h]⟩)
   |exact congrArg B (decide_eq_false fun h=>h17 (by rw[h])).symm
   |exact congrArg B (decide_eq_false fun h=>h10 (by rw[h])).symm⟩
end Go.Rl
namespace Go.Rl
open Go.RowKit Go.Proofs
section
variable {w:World} {cs:List Value}
theorem fI {m:cp} (h:Rp w (bK m) cs):∃x y,cs=[I m.kd,I m.ix,I m.lo,I m.hi,B m.co.1,x,y]∧bk m.co.2.1 x w∧bk m.co.2.2 y w:=by
 simp only[bK,kH,bn,Rp.eq_5,Rp.eq_1] at h
 obtain⟨_,_,rfl,⟨_,_,rfl,rfl,_,_,rfl,rfl,_,_,rfl,rfl,_,_,rfl,rfl,rfl⟩,_,_,rfl,h1,rfl⟩:=h
 obtain⟨x,y,rfl,hx,hy⟩:=lK h1
 exact⟨x,y,rfl,hx,hy⟩
theorem fY {d:bj} (h:Rp w (c9 d) cs):∃x y,cs=[I d.kd,I d.ix,B d.at_.1,x,y]∧bk d.at_.2.1 x w∧bk d.at_.2.2 y w:=by
 simp only[c9,kH,bn,Rp.eq_5,Rp.eq_1] at h
 obtain⟨_,_,rfl,rfl,_,_,rfl,rfl,_,_,rfl,h1,rfl⟩:=h
 obtain⟨x,y,rfl,hx,hy⟩:=lK h1
 exact⟨x,y,rfl,hx,hy⟩
theorem eK {l:eB} (h:Rp w (cP l) cs):∃x y v,cs=[I l.un,B l.up,B l.va.1,x,y,v]∧bk l.va.2.1 x w∧bk l.va.2.2 y w∧cd bK l.pf v w:=by
 simp only[cP,kH,bn,Rp.eq_5,Rp.eq_1,Rp.eq_2] at h
 obtain⟨_,_,rfl,rfl,_,_,rfl,rfl,_,_,rfl,h1,_,_,rfl,h2,rfl⟩:=h
 obtain⟨x,y,rfl,hx,hy⟩:=lK h1
 obtain⟨v,rfl,hv,_⟩:=Rp.isSlice h2
 exact⟨x,y,v,rfl,hx,hy,hv⟩
theorem dc {n:aP} (h:Rp w (bh n) cs):∃vl x y vk vp,cs=[vl,I n.split.kd,I n.split.ix,B n.split.at_.1,x,y,vk,B n.empty,vp]∧cd cP n.lems vl w∧bk n.split.at_.2.1 x w∧bk n.split.at_.2.2 y w∧cd bh n.kids vk w∧cd bK n.pf vp w:=by
 cases n with
 |mk lems sp ks em pf=>
  simp only[bh,bn,Rp.eq_5,Rp.eq_2,iT] at h
  obtain⟨_,_,rfl,h1,_,_,rfl,h2,_,_,rfl,h3,_,_,rfl,rfl,_,_,rfl,h4,rfl⟩:=h
  obtain⟨vl,rfl,hl,_⟩:=Rp.isSlice h1
  obtain⟨x,y,rfl,hx,hy⟩:=fY h2
  obtain⟨vk,rfl,hk,_⟩:=Rp.isSlice h3
  obtain⟨vp,rfl,hp,_⟩:=Rp.isSlice h4
  exact⟨vl,x,y,vk,vp,rfl,hl,hx,hy,hk,hp⟩
theorem Dg (d:bj):wj d=decide (d=lL):=by
 cases d with
 |mk a b c=>
  unfold wj lL
  simp only[bj.mk.injEq]
  by_cases h1:a=0<;>by_cases h2:b=0<;>by_cases h3:c=JG<;>simp[h1,h2,h3]
end
end Go.Rl
namespace Go.Rl
open Go.RowKit Go.Proofs
theorem yR {L:Nat} {n x y:aP} (hk:n.kids=[x,y]) (hi:kq n=true):km (L+1) n=if (km L x).1=false∨65536<(km L x).2 then(false,0) else((km L y).1,1+(km L x).2+(km L y).2):=by
 rw[km];simp only[hk,if_pos hi]
theorem kI {L:Nat} {n:aP} (h0:n.kids.length≠0) (h:n.kids.length≠2∨kq n=false):km (L+1) n=(false,0):=by
 rw[km]
 generalize n.kids=ks at h0 h
 rcases ks with _|⟨x,_|⟨y,_|⟨z,t⟩⟩⟩
 ·exact absurd rfl h0
 ·rfl
 ·rcases h with h|h
  ·exact absurd rfl h
  ·simp[h]
 ·rfl
theorem cx {P:Program} {w:World} {s:TypeId} {fs:Array Field} {f:Field} {n g o b:Nat} (hs:P.underlying s=some (.struct fs)) (hf:fs[n]? =some f) (hk:(P.cellsOf f.type==0)=false) (ho:f.offset=o):
 (Instr.fieldAt s (.pointer (some ⟨g,b,none⟩)) n).run P w=.ok (.pointer (some ⟨g,b+o,none⟩)) w:=by
 have hk':P.cellsOf f.type≠0:=by simpa using hk
 obtain⟨k,hk1⟩:∃k,(P.info? f.type).map (·.size)=some k:=by
  cases hi:(P.info? f.type).map (·.size) with
  |none=>exact absurd (by simp[Program.cellsOf,hi]) hk'
  |some k=>exact⟨k,rfl⟩
 have hk0:k≠0:=by
  intro h
  apply hk'
  simp[Program.cellsOf,hk1,h]
 rw[ct hs hf hk1 hk0,ho,pJ]
theorem GB {L:Nat} {n:aP} (h0:n.kids.length=0):km (L+1) n=(wj n.split,1):=by
 rw[km]
 have:n.kids=[]:=List.eq_nil_of_length_eq_zero h0
 simp only[this]
theorem fZ {n:aP} (h:¬(1≤n.split.kd∧n.split.kd≤4∧n.empty=false∧n.pf.length=0)):kq n=false:=by
 unfold kq
 by_cases h1:1≤n.split.kd<;>by_cases h2:n.split.kd≤4<;>by_cases h3:n.pf.length=0<;>cases h4:n.empty<;>simp_all
theorem Dh {n:aP} (h1:1≤n.split.kd) (h2:n.split.kd≤4) (h3:n.empty=false) (h4:n.pf.length=0):kq n=true:=by
 unfold kq
 simp[h1,h2,h3,h4]
theorem BU:∀(L:Nat) (n:aP),(km L n).2≤65537*L
 |0,_=>Nat.le_refl _
 |L+1,n=>by
  rw[km]
  generalize n.kids=ks
  rcases ks with _|⟨x,_|⟨y,_|⟨z,t⟩⟩⟩
  ·show 1≤_;omega
  ·show 0≤_;omega
  ·have:=BU L y
   by_cases hi:kq n=true
   ·simp only[if_pos hi]
    split
    ·show 0≤_;omega
    ·rename_i h
     simp only[not_or,Nat.not_lt] at h
     have:=h.2
     show 1+(km L x).2+(km L y).2≤_
     omega
   ·simp only[if_neg hi]
    show 0≤_;omega
  ·show 0≤_;omega
theorem uX {ks:List aP} (h:ks.length=2):ks=[ks[0]'(by omega),ks[1]'(by omega)]:=by
 rcases ks with _|⟨x,_|⟨y,_|⟨z,t⟩⟩⟩
 ·simp at h
 ·simp at h
 ·rfl
 ·simp at h
theorem uY {w:World} {n:aP} {L d:Nat} {vl x y vk vp:Value} (ih:∀L',L=L'+1→∀{w:World} {n:aP} {vl x y vk vp:Value},cd cP n.lems vl w→bk n.split.at_.2.1 x w→bk n.split.at_.2.2 y w→cd bh n.kids vk w→cd bK n.pf vp w→
 Calls Tryz.prog 72 #[.agg #[vl,I n.split.kd,I n.split.ix,B n.split.at_.1,x,y,vk,B n.empty,vp],I ((d+1:Nat):Int)] w (bN fun r w'=>aH w w'∧r=.tuple #[B (km L' n).1,I ((km L' n).2:Int)]))
 (hl:cd cP n.lems vl w) (hx:bk n.split.at_.2.1 x w) (hy:bk n.split.at_.2.2 y w) (hk:cd bh n.kids vk w) (hp:cd bK n.pf vp w) (hd:d+L=2049):
 Calls Tryz.prog 72 #[.agg #[vl,I n.split.kd,I n.split.ix,B n.split.at_.1,x,y,vk,B n.empty,vp],I (d:Int)] w (bN fun r w'=>aH w w'∧r=.tuple #[B (km L n).1,I ((km L n).2:Int)]):=by
 refine enter (vs:=[.agg #[vl,I n.split.kd,I n.split.ix,B n.split.at_.1,x,y,vk,B n.empty,vp],I (d:Int)]) Tryz.func72 E E E ?_
 refine af (aa ?_)
 obtain⟨g2,w2,hr2,l2,x2,k2⟩:=cq (P:=Tryz.prog) (w:=w) (T:=52) (cs:=[vl,I n.split.kd,I n.split.ix,B n.split.at_.1,x,y,vk,B n.empty,vp])
 refine cw E E hr2 (ac E E (ac E E (ag (ab (af (af (aa (ae E E (al E E E (bT) (ag (ab ?_)))))))))))
 refine bu E (fun h11=>?_) (fun h11=>?_)
 ·obtain rfl:L=0:=by omega
  refine af (aa (ac E E (ac E E (ag (ab (aw (az (bt E E E ?_))))))))
  exact⟨_,rfl,x2,rfl⟩
 ·obtain⟨L',rfl⟩:∃L',L=L'+1:=⟨L-1,by omega⟩
  refine aC (ab (af (af (aa (ah E E (av (o:=6) Lk E (by kernel_rfl) E) (aj E E (ai Ls E (k2.cell (i:=6) E)) ?_))))))
  refine aV E E (aY Ls (hk.ext x2)) (al E E E (bo) (ag (ab ?_)))
  refine bu E (fun h15=>?_) (fun h15=>?_)
  ·have h0:n.kids.length=0:=by omega
   refine af (aa (ah rfl rfl (av (o:=1) Tryz.underlying52 rfl (by kernel_rfl) rfl) (aj rfl rfl (k2.ldO (ms:=[I n.split.kd,I n.split.ix,B n.split.at_.1,x,y]) (o:=1) (fun j v hj=>by rcases j with _|_|_|_|_|_|_|_|_|j<;>simp_all) Tryz.underlying48 rfl (by kernel_rfl)) ?_)))
   refine bC (vs:=[]) (r:=.agg #[I 0,I 0,B false,.slice none 0 0,.slice none 0 0]) E E (by exact run_build _ _ _ _ (by kernel_rfl)) (an sn E E ((sq (a:=n.split) (b:=lL) (hx.ext x2) (hy.ext x2) (Sl.nil _ _) (Sl.nil _ _))) ?_)
   rintro v19 w19 ⟨x19,rfl⟩
   refine ac E E (ac E E (ag (ab (aw (az (bt E E E ?_))))))
   exact⟨_,rfl,(x2.trans x19),by rw[GB h0,Dg];rfl⟩
  ·have h0:n.kids.length≠0:=by omega
   refine aC (ab (af (af ?_)))
   have hl2:=hl.ext x2
   have hx2:=hx.ext x2
   have hy2:=hy.ext x2
   have hk2:=hk.ext x2
   have hp2:=hp.ext x2
   rcases hem:n.empty with _|_
   ·have kf:=k2
    rw[hem] at kf
    refine aa (ah E E (av (o:=6) Lk E (by kernel_rfl) E) (aj E E (ai Ls E (kf.cell (i:=6) E)) ?_))
    refine aV E E (aY Ls hk2) (al E E E (dn) (ae E E ?_))
    refine ci (fun h24=>?_) (fun h24=>?_)
    ·refine am E E E (am E E E (am E E E (am E E E (aq E E E (ae E E (am E E E (am E E E (am E E E (am E E E ?_)))))))))
     refine aq E E E (ae E E (am E E E (am E E E (aq E E E (ae E E (am E E E (am E E E (am E E E (am E E E ?_)))))))))
     refine aq E E E (ag (ab (bm E (af (aa (ac E E (ac E E (ag (ab (aw (az (bt E E E ?_))))))))))))
     exact⟨_,rfl,x2,by
      rw[kI h0 (by
       first
       |exact .inl (by omega)
       |exact .inr (fZ fun⟨a1,a2,a3,a4⟩=>by
         first
         |omega
         |(rw[hem] at a3;cases a3)))]
      rfl⟩
    ·refine ak E (ah E E (av (o:=1) Lk E (by kernel_rfl) E) (ak E (ah E E (cx (b:=1) (o:=0) Lm E (by kernel_rfl) E) ?_)))
     refine ak E (aj E E (ai Lo E (kf.cell (i:=1) E)) (ak E (al E E E (a6) (aI E E E (ae E E ?_)))))
     refine ci (fun h30=>?_) (fun h30=>?_)
     ·refine am E E E (am E E E (am E E E (am E E E (aq E E E (ae E E (am E E E (am E E E (aq E E E (ae E E ?_)))))))))
      refine am E E E (am E E E (am E E E (am E E E (aq E E E (ag (ab (bm E (af (aa (ac E E (ac E E (ag ?_))))))))))))
      refine ab (aw (az (bt E E E ?_)))
      exact⟨_,rfl,x2,by
       rw[kI h0 (by
        first
        |exact .inl (by omega)
        |exact .inr (fZ fun⟨a1,a2,a3,a4⟩=>by
          first
          |omega
          |(rw[hem] at a3;cases a3)))]
       rfl⟩
     ·refine ak E (ah E E (av (o:=1) Lk E (by kernel_rfl) E) (ak E (ah E E (cx (b:=1) (o:=0) Lm E (by kernel_rfl) E) ?_)))
      refine ak E (aj E E (ai Lo E (kf.cell (i:=1) E)) (ak E (al E E E (bT) (aI E E E (ae E E ?_)))))
      refine ci (fun h36=>?_) (fun h36=>?_)
      ·refine am E E E (am E E E (aq E E E (ae E E (am E E E (am E E E (am E E E (am E E E (aq E E E (ag ?_)))))))))
       refine ab (bm E (af (aa (ac E E (ac E E (ag (ab (aw (az (bt E E E ?_))))))))))
       exact⟨_,rfl,x2,by
        rw[kI h0 (by
         first
         |exact .inl (by omega)
         |exact .inr (fZ fun⟨a1,a2,a3,a4⟩=>by
           first
           |omega
           |(rw[hem] at a3;cases a3)))]
        rfl⟩
      ·refine ak E (ah E E (av (o:=7) Lk E (by kernel_rfl) E) (ak E (aj E E (ai Lw E (kf.cell (i:=7) E)) ?_)))
       refine aI E E E (ae E E (ak E (ah E E (av (o:=8) Lk E (by kernel_rfl) E) (ak E (aj E E (ai Ly E (kf.cell (i:=8) E)) ?_)))))
       refine ak E (aV E E (aY Ly hp2) (ak E (al E E E (bT) (aI E E E (ag (ab ?_))))))
       refine bu E (fun h45=>?_) (fun h45=>?_)
       ·refine af (aa (ac E E (ac E E (ag (ab (aw (az (bt E E E ?_))))))))
        exact⟨_,rfl,x2,by
         rw[kI h0 (by
          first
          |exact .inl (by omega)
          |exact .inr (fZ fun⟨a1,a2,a3,a4⟩=>by
            first
            |omega
            |(rw[hem] at a3;cases a3)))]
         rfl⟩
       ·refine aC (ab (af ?_))
        have hk2n:n.kids.length=2:=by omega
        have hks:=uX hk2n
        have hi:=Dh (n:=n) (by omega) (by omega) hem (by omega)
        refine aa (ah E E (av (o:=6) Lk E (by kernel_rfl) E) (aj E E (ai Ls E (kf.cell (i:=6) E)) ?_))
        obtain⟨a49,c49,p49,q49,h49⟩:=cb (P:=Tryz.prog) (sz:=9) Ls (by kernel_rfl) bF (by omega) hk2 (i:=0) (by omega) .i64
        obtain⟨e49,he49⟩:∃e,e=n.kids[0]'(by omega):=⟨_,rfl⟩
        rw[←he49] at h49
        obtain⟨x49_0,x49_1,x49_2,x49_3,x49_4,rfl,f49_0,f49_1,f49_2,f49_3,f49_4⟩:=dc h49
        refine ar E E E (p49 _) (aj E E (q49.ld Lk E (by kernel_rfl)) (ae E E (al (r:=I ((d+1:Nat):Int)) E E E (by have e:((d+1:Nat):Int)=(d:Int)+1:=(by omega);rw[e];exact aR (by omega) (by omega)) ?_)))
        refine an qi E E ((ih L' E f49_0 f49_1 f49_2 f49_3 f49_4)) ?_
        rintro v53 w53 ⟨x53,rfl⟩
        refine ae E E (aA E E (cu) (aA E E (cv) (ac E E (ac E E (ag (ab (af (af ?_))))))))
        have he:=BU L' e49
        rcases hb:(km L' e49).1 with _|_
        ·refine aa (ae E E (bw E E bB (ae E E (am E E E (am E E E (aq E E E (ag (ab (bm E (af (aa (ac E E ?_))))))))))))
         refine ac E E (ag (ab (aw (az (bt E E E ?_)))))
         exact⟨_,rfl,(x2.trans x53),by
          rw[yR hks hi,←he49,if_pos (by first|exact .inl hb|exact .inr (by omega))]
          rfl⟩
        ·refine aa (ae E E (bw E E bB (ae E E (ak E (ae E E (ak E (al E E E (bT) (aI E E E (ag (ab ?_))))))))))
         refine bu E (fun h61=>?_) (fun h61=>?_)
         ·refine af (aa (ac E E (ac E E (ag (ab (aw (az (bt E E E ?_))))))))
          exact⟨_,rfl,(x2.trans x53),by
           rw[yR hks hi,←he49,if_pos (by first|exact .inl hb|exact .inr (by omega))]
           rfl⟩
         ·refine aC (ab (af (aa (ah E E (av (o:=6) Lk E (by kernel_rfl) E) (aj E E (ai Ls E (x53.cell_some (kf.cell (i:=6) E))) ?_)))))
          obtain⟨a65,c65,p65,q65,h65⟩:=cb (P:=Tryz.prog) (sz:=9) Ls (by kernel_rfl) bF (by omega) (hk2.ext x53) (i:=1) (by omega) .i64
          obtain⟨e65,he65⟩:∃e,e=n.kids[1]'(by omega):=⟨_,rfl⟩
          rw[←he65] at h65
          obtain⟨x65_0,x65_1,x65_2,x65_3,x65_4,rfl,f65_0,f65_1,f65_2,f65_3,f65_4⟩:=dc h65
          refine ar E E E (p65 _) (aj E E (q65.ld Lk E (by kernel_rfl)) (ae E E (al (r:=I ((d+1:Nat):Int)) E E E (by have e:((d+1:Nat):Int)=(d:Int)+1:=(by omega);rw[e];exact aR (by omega) (by omega)) ?_)))
          refine an qi E E ((ih L' E f65_0 f65_1 f65_2 f65_3 f65_4)) ?_
          rintro v69 w69 ⟨x69,rfl⟩
          have hf:=BU L' e65
          refine ae E E (aA E E (cu) (aA E E (cv) (ac E E (ac E E (ag (ab (af (aa (ae E E (ae E E (al (r:=I ((1+(km L' e49).2:Nat):Int)) E E E (by have e:((1+(km L' e49).2:Nat):Int)=1+((km L' e49).2:Int):=(by omega);rw[e];exact aR (by omega) (by omega)) ?_)))))))))))
          refine ae E E (al (r:=I ((((1+(km L' e49).2:Nat))+(km L' e65).2:Nat):Int)) E E E (by have e:((((1+(km L' e49).2:Nat))+(km L' e65).2:Nat):Int)=((1+(km L' e49).2:Nat):Int)+((km L' e65).2:Int):=(by omega);rw[e];exact aR (by omega) (by omega)) ?_)
          refine ac E E (ac E E (ag (ab (aw (bt E E E ?_)))))
          exact⟨_,rfl,((x2.trans x53).trans x69),by
           rw[yR hks hi,←he49,←he65,if_neg (by rw[hb];simp;omega)]⟩
   ·have kf:=k2
    rw[hem] at kf
    refine aa (ah E E (av (o:=6) Lk E (by kernel_rfl) E) (aj E E (ai Ls E (kf.cell (i:=6) E)) ?_))
    refine aV E E (aY Ls hk2) (al E E E (dn) (ae E E ?_))
    refine ci (fun h24=>?_) (fun h24=>?_)
    ·refine am E E E (am E E E (am E E E (am E E E (aq E E E (ae E E (am E E E (am E E E (am E E E (am E E E ?_)))))))))
     refine aq E E E (ae E E (am E E E (am E E E (aq E E E (ae E E (am E E E (am E E E (am E E E (am E E E ?_)))))))))
     refine aq E E E (ag (ab (bm E (af (aa (ac E E (ac E E (ag (ab (aw (az (bt E E E ?_))))))))))))
     exact⟨_,rfl,x2,by
      rw[kI h0 (by
       first
       |exact .inl (by omega)
       |exact .inr (fZ fun⟨a1,a2,a3,a4⟩=>by
         first
         |omega
         |(rw[hem] at a3;cases a3)))]
      rfl⟩
    ·refine ak E (ah E E (av (o:=1) Lk E (by kernel_rfl) E) (ak E (ah E E (cx (b:=1) (o:=0) Lm E (by kernel_rfl) E) ?_)))
     refine ak E (aj E E (ai Lo E (kf.cell (i:=1) E)) (ak E (al E E E (a6) (aI E E E (ae E E ?_)))))
     refine ci (fun h30=>?_) (fun h30=>?_)
     ·refine am E E E (am E E E (am E E E (am E E E (aq E E E (ae E E (am E E E (am E E E (aq E E E (ae E E ?_)))))))))
      refine am E E E (am E E E (am E E E (am E E E (aq E E E (ag (ab (bm E (af (aa (ac E E (ac E E (ag ?_))))))))))))
      refine ab (aw (az (bt E E E ?_)))
      exact⟨_,rfl,x2,by
       rw[kI h0 (by
        first
        |exact .inl (by omega)
        |exact .inr (fZ fun⟨a1,a2,a3,a4⟩=>by
          first
          |omega
          |(rw[hem] at a3;cases a3)))]
       rfl⟩
     ·refine ak E (ah E E (av (o:=1) Lk E (by kernel_rfl) E) (ak E (ah E E (cx (b:=1) (o:=0) Lm E (by kernel_rfl) E) ?_)))
      refine ak E (aj E E (ai Lo E (kf.cell (i:=1) E)) (ak E (al E E E (bT) (aI E E E (ae E E ?_)))))
      refine ci (fun h36=>?_) (fun h36=>?_)
      ·refine am E E E (am E E E (aq E E E (ae E E (am E E E (am E E E (am E E E (am E E E (aq E E E (ag ?_)))))))))
       refine ab (bm E (af (aa (ac E E (ac E E (ag (ab (aw (az (bt E E E ?_))))))))))
       exact⟨_,rfl,x2,by
        rw[kI h0 (by
         first
         |exact .inl (by omega)
         |exact .inr (fZ fun⟨a1,a2,a3,a4⟩=>by
           first
           |omega
           |(rw[hem] at a3;cases a3)))]
        rfl⟩
      ·refine ak E (ah E E (av (o:=7) Lk E (by kernel_rfl) E) (ak E (aj E E (ai Lw E (kf.cell (i:=7) E)) ?_)))
       refine aI E E E (ae E E (am E E E (am E E E (am E E E (am E E E (aq E E E (ag (ab (bm E (af (aa ?_)))))))))))
       refine ac E E (ac E E (ag (ab (aw (az (bt E E E ?_))))))
       exact⟨_,rfl,x2,by
        rw[kI h0 (by
         first
         |exact .inl (by omega)
         |exact .inr (fZ fun⟨a1,a2,a3,a4⟩=>by
           first
           |omega
           |(rw[hem] at a3;cases a3)))]
        rfl⟩
theorem uZ:∀(L d:Nat),d+L=2049→∀{w:World} {n:aP} {vl x y vk vp:Value},cd cP n.lems vl w→bk n.split.at_.2.1 x w→bk n.split.at_.2.2 y w→cd bh n.kids vk w→cd bK n.pf vp w→
 Calls Tryz.prog 72 #[.agg #[vl,I n.split.kd,I n.split.ix,B n.split.at_.1,x,y,vk,B n.empty,vp],I (d:Int)] w (bN fun r w'=>aH w w'∧r=.tuple #[B (km L n).1,I ((km L n).2:Int)])
 |0,_,hd,_,_,_,_,_,_,_,hl,hx,hy,hk,hp=>uY (fun _ e=>by cases e) hl hx hy hk hp hd
 |L+1,d,hd,_,_,_,_,_,_,_,hl,hx,hy,hk,hp=>uY (fun L' e _ _ _ _ _ _ _ h1 h2 h3 h4 h5=>by
   cases e
   exact uZ L (d+1) (by omega) h1 h2 h3 h4 h5) hl hx hy hk hp hd
theorem jh {w:World} {n:aP} {vl x y vk vp:Value} (hl:cd cP n.lems vl w) (hx:bk n.split.at_.2.1 x w) (hy:bk n.split.at_.2.2 y w) (hk:cd bh n.kids vk w) (hp:cd bK n.pf vp w):
 Calls Tryz.prog 29 #[.agg #[vl,I n.split.kd,I n.split.ix,B n.split.at_.1,x,y,vk,B n.empty,vp]] w (bN fun r w'=>aH w w'∧r=B (iF n)):=by
 refine enter (vs:=[.agg #[vl,I n.split.kd,I n.split.ix,B n.split.at_.1,x,y,vk,B n.empty,vp]]) Tryz.func29 E E E ?_
 refine af (aa ?_)
 obtain⟨g1,w1,hr1,l1,x1,k1⟩:=cq (P:=Tryz.prog) (w:=w) (T:=52) (cs:=[vl,I n.split.kd,I n.split.ix,B n.split.at_.1,x,y,vk,B n.empty,vp])
 refine cw E E hr1 (ac E E (ag (ab (af (aa (aj E E (k1.ld Lk E (by kernel_rfl)) (an qi E E ((uZ 2049 0 E (hl.ext x1) (hx.ext x1) (hy.ext x1) (hk.ext x1) (hp.ext x1))) ?_)))))))
 rintro v7 w7 ⟨x7,rfl⟩
 refine ae E E (aA E E (cu) (aA E E (cv) (ac E E (ac E E (ag (ab (af ?_)))))))
 have hv:=GA n
 rcases hb:(km 2049 n).1 with _|_
 ·refine aa (ae E E (ae E E (am E E E (am E E E (aI E E E (ac E E (ag (ab (aw (au E E ?_))))))))))
  exact⟨_,rfl,(x1.trans x7),by rw[←hv,hb];rfl⟩
 ·refine aa (ae E E (ae E E (ak E (ae E E (ak E (al E E E (CK) (aq E E E (ac E E (ag (ab (aw (au E E ?_))))))))))))
  exact⟨_,rfl,(x1.trans x7),by rw[←hv,hb,Bool.true_and];exact congrArg B (decide_eq_decide.2 (by omega))⟩
end Go.Rl
namespace Go.Rl
open Go.RowKit Go.Proofs
theorem xu {d:Nat} {m:Int} {n:aP} (h:m<1):lc d m n=(0,false):=by rw[lc.eq_def];exact if_pos h
theorem AM {d:Nat} {m:Int} {n:aP} (h:¬m<1) (h0:n.kids.length=0):lc d m n=(1,wj n.split):=by
 have:n.kids=[]:=List.eq_nil_of_length_eq_zero h0
 rw[lc.eq_def]
 simp only[if_neg h,this]
theorem i7 {d:Nat} {m:Int} {n:aP} (hm:¬m<1) (h0:n.kids.length≠0) (h:n.kids.length≠2∨kq n=false∨d=0):lc d m n=(0,false):=by
 rw[lc.eq_def]
 simp only[if_neg hm]
 generalize n.kids=ks at h0 h
 rcases ks with _|⟨x,_|⟨y,_|⟨z,t⟩⟩⟩
 ·exact absurd rfl h0
 ·rfl
 ·rcases h with h|h|h
  ·exact absurd rfl h
  ·simp[h]
  ·subst h
   simp
 ·rfl
theorem yS {d:Nat} {m:Int} {n x y:aP} (hm:¬m<1) (hk:n.kids=[x,y]) (hi:kq n=true):lc (d+1) m n=if (lc d (m-1) x).2=false then(0,false) else(1+(lc d (m-1) x).1+(lc d (m-1-(lc d (m-1) x).1) y).1,(lc d (m-1-(lc d (m-1) x).1) y).2):=by
 rw[lc.eq_def]
 simp only[if_neg hm,hk,if_pos hi]
theorem GC {m A C:Int} (hm:¬m<1) (a:0≤A∧A≤max 0 (m-1)) (b:0≤C∧C≤max 0 (m-1-A)):0≤1+A+C∧1+A+C≤max 0 m:=by omega
theorem yT:∀(d:Nat) (m:Int) (n:aP),0≤(lc d m n).1∧(lc d m n).1≤max 0 m
 |d,m,n=>by
  by_cases hm:m<1
  ·rw[xu hm];exact⟨Int.le_refl _,by show(0:Int)≤_;omega⟩
  ·by_cases h0:n.kids.length=0
   ·rw[AM hm h0];exact⟨by show(0:Int)≤1;omega,by show(1:Int)≤_;omega⟩
   ·by_cases hb:n.kids.length≠2∨kq n=false∨d=0
    ·rw[i7 hm h0 hb];exact⟨Int.le_refl _,by show(0:Int)≤_;omega⟩
    ·simp only[not_or,Bool.not_eq_false] at hb
     obtain⟨h2,hi,hd⟩:=hb
     obtain⟨d',rfl⟩:∃d',d=d'+1:=⟨d-1,by omega⟩
     rw[yS hm (uX (by omega)) hi]
     split
     ·exact⟨Int.le_refl _,by show(0:Int)≤_;omega⟩
     ·have a:=yT d' (m-1) (n.kids[0]'(by omega))
      have b:=yT d' (m-1-(lc d' (m-1) (n.kids[0]'(by omega))).1) (n.kids[1]'(by omega))
      exact GC hm a b
theorem u4 {w:World} {n:aP} {d:Nat} {m:Int} {vl x y vk vp:Value} (ih:∀d',d=d'+1→∀{w:World} {n:aP} {m:Int} {vl x y vk vp:Value},0≤m→m≤65536→cd cP n.lems vl w→bk n.split.at_.2.1 x w→bk n.split.at_.2.2 y w→cd bh n.kids vk w→cd bK n.pf vp w→
 Calls Tryz.prog 111 #[.agg #[vl,I n.split.kd,I n.split.ix,B n.split.at_.1,x,y,vk,B n.empty,vp],I (d':Int),I m] w (bN fun r w'=>aH w w'∧r=.tuple #[I (lc d' m n).1,B (lc d' m n).2]))
 (hd:d≤2048) (hm0:0≤m) (hm1:m≤65536) (hl:cd cP n.lems vl w) (hx:bk n.split.at_.2.1 x w) (hy:bk n.split.at_.2.2 y w) (hk:cd bh n.kids vk w) (hp:cd bK n.pf vp w):
 Calls Tryz.prog 111 #[.agg #[vl,I n.split.kd,I n.split.ix,B n.split.at_.1,x,y,vk,B n.empty,vp],I (d:Int),I m] w (bN fun r w'=>aH w w'∧r=.tuple #[I (lc d m n).1,B (lc d m n).2]):=by
 refine enter (vs:=[.agg #[vl,I n.split.kd,I n.split.ix,B n.split.at_.1,x,y,vk,B n.empty,vp],I (d:Int),I m]) Tryz.func111 E E E ?_
 have hl2:=hl
 refine af (aa ?_)
 obtain⟨g3,w3,hr3,l3,x3,k3⟩:=cq (P:=Tryz.prog) (w:=w) (T:=52) (cs:=[vl,I n.split.kd,I n.split.ix,B n.split.at_.1,x,y,vk,B n.empty,vp])
 refine cw E E hr3 (ac E E (ac E E (ag (ab (af (af (aa (ae E E (al E E E (a6) (ag (ab ?_)))))))))))
 refine bu E (fun h12=>?_) (fun h12=>?_)
 ·have hm:m<1:=h12
  refine af (aa (ac E E (ac E E (ag (ab (aw (az (bt E E E ?_))))))))
  exact⟨_,rfl,x3,by rw[xu hm]<;>rfl⟩
 ·have hm:¬m<1:=h12
  refine aC (ab (af (af (aa (ah E E (av (o:=6) Lk E (by kernel_rfl) E) (aj E E (ai Ls E (k3.cell (i:=6) E)) ?_))))))
  refine aV E E (aY Ls (hk.ext x3)) (al E E E (bo) (ag (ab ?_)))
  refine bu E (fun h16=>?_) (fun h16=>?_)
  ·have h0:n.kids.length=0:=by omega
   refine af (aa (ah rfl rfl (av (o:=1) Tryz.underlying52 rfl (by kernel_rfl) rfl) (aj rfl rfl (k3.ldO (ms:=[I n.split.kd,I n.split.ix,B n.split.at_.1,x,y]) (o:=1) (fun j v hj=>by rcases j with _|_|_|_|_|_|_|_|_|j<;>simp_all) Tryz.underlying48 rfl (by kernel_rfl)) ?_)))
   refine bC (vs:=[]) (r:=.agg #[I 0,I 0,B false,.slice none 0 0,.slice none 0 0]) E E (by exact run_build _ _ _ _ (by kernel_rfl)) (an yO E E ((yQ (a:=n.split) (b:=lL) (hx.ext x3) (hy.ext x3) (Sl.nil _ _) (Sl.nil _ _))) ?_)
   rintro v20 w20 ⟨x20,rfl⟩
   refine ac E E (ac E E (ag (ab (aw (az (bt E E E ?_))))))
   exact⟨_,rfl,(x3.trans x20),by rw[AM hm h0,Dg];rfl⟩
  ·have h0:n.kids.length≠0:=by omega
   refine aC (ab (af (af ?_)))
   have hl2:=hl.ext x3
   have hx2:=hx.ext x3
   have hy2:=hy.ext x3
   have hk2:=hk.ext x3
   have hp2:=hp.ext x3
   rcases hem:n.empty with _|_
   ·have kf:=k3
    rw[hem] at kf
    refine aa (ah E E (av (o:=6) Lk E (by kernel_rfl) E) (aj E E (ai Ls E (kf.cell (i:=6) E)) ?_))
    refine aV E E (aY Ls hk2) (al E E E (dn) (ae E E ?_))
    refine ci (fun h25=>?_) (fun h25=>?_)
    ·refine am E E E (am E E E (am E E E (am E E E (aq E E E (ae E E (am E E E (am E E E (am E E E (am E E E ?_)))))))))
     refine aq E E E (ae E E (am E E E (am E E E (aq E E E (ae E E (am E E E (am E E E (am E E E (am E E E ?_)))))))))
     refine aq E E E (ae E E (am E E E (am E E E (aq E E E (ag (ab (bm E (af (aa (ac E E (ac E E ?_)))))))))))
     refine ag (ab (aw (az (bt E E E ?_))))
     exact⟨_,rfl,x3,by
      rw[i7 hm h0 (by
       first
       |exact .inl (by omega)
       |exact .inr (.inr (by omega))
       |exact .inr (.inl (fZ fun⟨a1,a2,a3,a4⟩=>by
         first
         |omega
         |(rw[hem] at a3;cases a3))))]<;>rfl⟩
    ·refine ak E (ah E E (av (o:=1) Lk E (by kernel_rfl) E) (ak E (ah E E (cx (b:=1) (o:=0) Lm E (by kernel_rfl) E) ?_)))
     refine ak E (aj E E (ai Lo E (kf.cell (i:=1) E)) (ak E (al E E E (a6) (aI E E E (ae E E ?_)))))
     refine ci (fun h31=>?_) (fun h31=>?_)
     ·refine am E E E (am E E E (am E E E (am E E E (aq E E E (ae E E (am E E E (am E E E (aq E E E (ae E E ?_)))))))))
      refine am E E E (am E E E (am E E E (am E E E (aq E E E (ae E E (am E E E (am E E E (aq E E E (ag ?_)))))))))
      refine ab (bm E (af (aa (ac E E (ac E E (ag (ab (aw (az (bt E E E ?_))))))))))
      exact⟨_,rfl,x3,by
       rw[i7 hm h0 (by
        first
        |exact .inl (by omega)
        |exact .inr (.inr (by omega))
        |exact .inr (.inl (fZ fun⟨a1,a2,a3,a4⟩=>by
          first
          |omega
          |(rw[hem] at a3;cases a3))))]<;>rfl⟩
     ·refine ak E (ah E E (av (o:=1) Lk E (by kernel_rfl) E) (ak E (ah E E (cx (b:=1) (o:=0) Lm E (by kernel_rfl) E) ?_)))
      refine ak E (aj E E (ai Lo E (kf.cell (i:=1) E)) (ak E (al E E E (bT) (aI E E E (ae E E ?_)))))
      refine ci (fun h37=>?_) (fun h37=>?_)
      ·refine am E E E (am E E E (aq E E E (ae E E (am E E E (am E E E (am E E E (am E E E (aq E E E (ae E E ?_)))))))))
       refine am E E E (am E E E (aq E E E (ag (ab (bm E (af (aa (ac E E (ac E E (ag (ab (aw (az (bt E E E ?_))))))))))))))
       exact⟨_,rfl,x3,by
        rw[i7 hm h0 (by
         first
         |exact .inl (by omega)
         |exact .inr (.inr (by omega))
         |exact .inr (.inl (fZ fun⟨a1,a2,a3,a4⟩=>by
           first
           |omega
           |(rw[hem] at a3;cases a3))))]<;>rfl⟩
      ·refine ak E (ah E E (av (o:=7) Lk E (by kernel_rfl) E) (ak E (aj E E (ai Lw E (kf.cell (i:=7) E)) ?_)))
       refine aI E E E (ae E E (ak E (ah E E (av (o:=8) Lk E (by kernel_rfl) E) (ak E (aj E E (ai Ly E (kf.cell (i:=8) E)) ?_)))))
       refine ak E (aV E E (aY Ly hp2) (ak E (al E E E (bT) (aI E E E (ae E E ?_)))))
       refine ci (fun h47=>?_) (fun h47=>?_)
       ·refine am E E E (am E E E (aq E E E (ag (ab (bm E (af (aa (ac E E (ac E E (ag (ab (aw (az (bt E E E ?_))))))))))))))
        exact⟨_,rfl,x3,by
         rw[i7 hm h0 (by
          first
          |exact .inl (by omega)
          |exact .inr (.inr (by omega))
          |exact .inr (.inl (fZ fun⟨a1,a2,a3,a4⟩=>by
            first
            |omega
            |(rw[hem] at a3;cases a3))))]<;>rfl⟩
       ·refine ak E (ae E E (ak E (al E E E (bo) (aI E E E (ag (ab ?_))))))
        refine bu E (fun h50=>?_) (fun h50=>?_)
        ·refine af (aa (ac E E (ac E E (ag (ab (aw (az (bt E E E ?_))))))))
         exact⟨_,rfl,x3,by
          rw[i7 hm h0 (by
           first
           |exact .inl (by omega)
           |exact .inr (.inr (by omega))
           |exact .inr (.inl (fZ fun⟨a1,a2,a3,a4⟩=>by
             first
             |omega
             |(rw[hem] at a3;cases a3))))]<;>rfl⟩
        ·refine aC (ab (af ?_))
         have hk2n:n.kids.length=2:=by omega
         have hks:=uX hk2n
         have hi:=Dh (n:=n) (by omega) (by omega) hem (by omega)
         obtain⟨d',rfl⟩:∃d',d=d'+1:=⟨d-1,by omega⟩
         refine aa (ah E E (av (o:=6) Lk E (by kernel_rfl) E) (aj E E (ai Ls E (kf.cell (i:=6) E)) ?_))
         obtain⟨a54,c54,p54,q54,h54⟩:=cb (P:=Tryz.prog) (sz:=9) Ls (by kernel_rfl) bF (by omega) hk2 (i:=0) (by omega) .i64
         obtain⟨e54,he54⟩:∃e,e=n.kids[0]'(by omega):=⟨_,rfl⟩
         rw[←he54] at h54
         obtain⟨x54_0,x54_1,x54_2,x54_3,x54_4,rfl,f54_0,f54_1,f54_2,f54_3,f54_4⟩:=dc h54
         refine ar E E E (p54 _) (aj E E (q54.ld Lk E (by kernel_rfl)) (ae E E (al (r:=I (d':Int)) E E E ((by have e:((d':Nat):Int)=((d'+1:Nat):Int)-1:=(by omega);rw[e];exact bD (by omega) (by omega))) ?_)))
         refine ae E E (al (r:=I (m-1)) E E E (bD (by omega) (by omega)) (an lh E E ((ih d' E (by omega) (by omega) f54_0 f54_1 f54_2 f54_3 f54_4)) ?_))
         rintro v60 w60 ⟨x60,rfl⟩
         have hb1:=yT d' (m-1) e54
         refine ae E E (aA E E (cu) (aA E E (cv) (ac E E (ac E E (ag (ab (af (af ?_))))))))
         have hz:=yM d' (m-1) e54
         rcases hb:(lc d' (m-1) e54).2 with _|_
         ·refine aa (ae E E (bw E E bB (ag (ab (bm E (af (aa (ac E E (ac E E (ag (ab (aw (az (bt E E E ?_))))))))))))))
          exact⟨_,rfl,(x3.trans x60),by rw[yS hm hks hi,←he54,if_pos hb]<;>rfl⟩
         ·refine aa (ae E E (bw E E bB (ag (ab (cN E (aC (ab (af (aa (ah E E (av (o:=6) Lk E (by kernel_rfl) E) ?_))))))))))
          refine aj E E (ai Ls E (x60.cell_some (kf.cell (i:=6) E))) ?_
          obtain⟨a68,c68,p68,q68,h68⟩:=cb (P:=Tryz.prog) (sz:=9) Ls (by kernel_rfl) bF (by omega) (hk2.ext x60) (i:=1) (by omega) .i64
          obtain⟨e68,he68⟩:∃e,e=n.kids[1]'(by omega):=⟨_,rfl⟩
          rw[←he68] at h68
          obtain⟨x68_0,x68_1,x68_2,x68_3,x68_4,rfl,f68_0,f68_1,f68_2,f68_3,f68_4⟩:=dc h68
          refine ar E E E (p68 _) (aj E E (q68.ld Lk E (by kernel_rfl)) (ae E E (al (r:=I (d':Int)) E E E ((by have e:((d':Nat):Int)=((d'+1:Nat):Int)-1:=(by omega);rw[e];exact bD (by omega) (by omega))) ?_)))
          refine ae E E (al (r:=I (m-1)) E E E (bD (by omega) (by omega)) (ae E E (al (r:=I (m-1-(lc d' (m-1) e54).1)) E E E (bD (by omega) (by omega)) ?_)))
          refine an lh E E ((ih d' E (by omega) (by omega) f68_0 f68_1 f68_2 f68_3 f68_4)) ?_
          rintro v76 w76 ⟨x76,rfl⟩
          have hb2:=yT d' (m-1-(lc d' (m-1) e54).1) e68
          refine ae E E (aA E E (cu) (aA E E (cv) (ac E E (ac E E (ag (ab (af (aa (ae E E (al (r:=I (1+(lc d' (m-1) e54).1)) E E E (aR (by omega) (by omega)) ?_))))))))))
          refine ae E E (al (r:=I (1+(lc d' (m-1) e54).1+(lc d' (m-1-(lc d' (m-1) e54).1) e68).1)) E E E (aR (by omega) (by omega)) ?_)
          refine ae E E (ac E E (ac E E (ag (ab (aw (bt E E E ?_))))))
          exact⟨_,rfl,((x3.trans x60).trans x76),by rw[yS hm hks hi,←he54,←he68,if_neg (by rw[hb];simp)]⟩
   ·have kf:=k3
    rw[hem] at kf
    refine aa (ah E E (av (o:=6) Lk E (by kernel_rfl) E) (aj E E (ai Ls E (kf.cell (i:=6) E)) ?_))
    refine aV E E (aY Ls hk2) (al E E E (dn) (ae E E ?_))
    refine ci (fun h25=>?_) (fun h25=>?_)
    ·refine am E E E (am E E E (am E E E (am E E E (aq E E E (ae E E (am E E E (am E E E (am E E E (am E E E ?_)))))))))
     refine aq E E E (ae E E (am E E E (am E E E (aq E E E (ae E E (am E E E (am E E E (am E E E (am E E E ?_)))))))))
     refine aq E E E (ae E E (am E E E (am E E E (aq E E E (ag (ab (bm E (af (aa (ac E E (ac E E ?_)))))))))))
     refine ag (ab (aw (az (bt E E E ?_))))
     exact⟨_,rfl,x3,by
      rw[i7 hm h0 (by
       first
       |exact .inl (by omega)
       |exact .inr (.inr (by omega))
       |exact .inr (.inl (fZ fun⟨a1,a2,a3,a4⟩=>by
         first
         |omega
         |(rw[hem] at a3;cases a3))))]<;>rfl⟩
    ·refine ak E (ah E E (av (o:=1) Lk E (by kernel_rfl) E) (ak E (ah E E (cx (b:=1) (o:=0) Lm E (by kernel_rfl) E) ?_)))
     refine ak E (aj E E (ai Lo E (kf.cell (i:=1) E)) (ak E (al E E E (a6) (aI E E E (ae E E ?_)))))
     refine ci (fun h31=>?_) (fun h31=>?_)
     ·refine am E E E (am E E E (am E E E (am E E E (aq E E E (ae E E (am E E E (am E E E (aq E E E (ae E E ?_)))))))))
      refine am E E E (am E E E (am E E E (am E E E (aq E E E (ae E E (am E E E (am E E E (aq E E E (ag ?_)))))))))
      refine ab (bm E (af (aa (ac E E (ac E E (ag (ab (aw (az (bt E E E ?_))))))))))
      exact⟨_,rfl,x3,by
       rw[i7 hm h0 (by
        first
        |exact .inl (by omega)
        |exact .inr (.inr (by omega))
        |exact .inr (.inl (fZ fun⟨a1,a2,a3,a4⟩=>by
          first
          |omega
          |(rw[hem] at a3;cases a3))))]<;>rfl⟩
     ·refine ak E (ah E E (av (o:=1) Lk E (by kernel_rfl) E) (ak E (ah E E (cx (b:=1) (o:=0) Lm E (by kernel_rfl) E) ?_)))
      refine ak E (aj E E (ai Lo E (kf.cell (i:=1) E)) (ak E (al E E E (bT) (aI E E E (ae E E ?_)))))
      refine ci (fun h37=>?_) (fun h37=>?_)
      ·refine am E E E (am E E E (aq E E E (ae E E (am E E E (am E E E (am E E E (am E E E (aq E E E (ae E E ?_)))))))))
       refine am E E E (am E E E (aq E E E (ag (ab (bm E (af (aa (ac E E (ac E E (ag (ab (aw (az (bt E E E ?_))))))))))))))
       exact⟨_,rfl,x3,by
        rw[i7 hm h0 (by
         first
         |exact .inl (by omega)
         |exact .inr (.inr (by omega))
         |exact .inr (.inl (fZ fun⟨a1,a2,a3,a4⟩=>by
           first
           |omega
           |(rw[hem] at a3;cases a3))))]<;>rfl⟩
      ·refine ak E (ah E E (av (o:=7) Lk E (by kernel_rfl) E) (ak E (aj E E (ai Lw E (kf.cell (i:=7) E)) ?_)))
       refine aI E E E (ae E E (am E E E (am E E E (am E E E (am E E E (aq E E E (ae E E (am E E E (am E E E ?_)))))))))
       refine aq E E E (ag (ab (bm E (af (aa (ac E E (ac E E (ag (ab (aw (az (bt E E E ?_))))))))))))
       exact⟨_,rfl,x3,by
        rw[i7 hm h0 (by
         first
         |exact .inl (by omega)
         |exact .inr (.inr (by omega))
         |exact .inr (.inl (fZ fun⟨a1,a2,a3,a4⟩=>by
           first
           |omega
           |(rw[hem] at a3;cases a3))))]<;>rfl⟩
theorem u5:∀(d:Nat),d≤2048→∀{w:World} {n:aP} {m:Int} {vl x y vk vp:Value},0≤m→m≤65536→cd cP n.lems vl w→bk n.split.at_.2.1 x w→bk n.split.at_.2.2 y w→cd bh n.kids vk w→cd bK n.pf vp w→
 Calls Tryz.prog 111 #[.agg #[vl,I n.split.kd,I n.split.ix,B n.split.at_.1,x,y,vk,B n.empty,vp],I (d:Int),I m] w (bN fun r w'=>aH w w'∧r=.tuple #[I (lc d m n).1,B (lc d m n).2])
 |0,hd,_,_,_,_,_,_,_,_,h0,h1,hl,hx,hy,hk,hp=>u4 (fun _ e=>by cases e) hd h0 h1 hl hx hy hk hp
 |d+1,hd,_,_,_,_,_,_,_,_,h0,h1,hl,hx,hy,hk,hp=>u4 (fun d' e _ _ _ _ _ _ _ _ a0 a1 b1 b2 b3 b4 b5=>by
   cases e
   exact u5 d (by omega) a0 a1 b1 b2 b3 b4 b5) hd h0 h1 hl hx hy hk hp
theorem lN {w:World} {n:aP} {vl x y vk vp:Value} (hl:cd cP n.lems vl w) (hx:bk n.split.at_.2.1 x w) (hy:bk n.split.at_.2.2 y w) (hk:cd bh n.kids vk w) (hp:cd bK n.pf vp w):
 Calls Tryz.prog 66 #[.agg #[vl,I n.split.kd,I n.split.ix,B n.split.at_.1,x,y,vk,B n.empty,vp]] w (bN fun r w'=>aH w w'∧r=B (iF n)):=by
 refine enter (vs:=[.agg #[vl,I n.split.kd,I n.split.ix,B n.split.at_.1,x,y,vk,B n.empty,vp]]) Tryz.func66 E E E ?_
 refine af (aa ?_)
 obtain⟨g1,w1,hr1,l1,x1,k1⟩:=cq (P:=Tryz.prog) (w:=w) (T:=52) (cs:=[vl,I n.split.kd,I n.split.ix,B n.split.at_.1,x,y,vk,B n.empty,vp])
 refine cw E E hr1 (ac E E (ag (ab (af (aa (aj E E (k1.ld Lk E (by kernel_rfl)) (an lh E E ((u5 2048 (Nat.le_refl _) (m:=65536) (by omega) (by omega) (hl.ext x1) (hx.ext x1) (hy.ext x1) (hk.ext x1) (hp.ext x1))) ?_)))))))
 rintro v7 w7 ⟨x7,rfl⟩
 refine ae E E (aA E E (cu) (aA E E (cv) (ac E E (ac E E (ag (ab (af (aa (ae E E (ac E E ?_))))))))))
 refine ag (ab (aw (au E E ?_)))
 exact⟨_,rfl,(x1.trans x7),by rw[Gz n]⟩
end Go.Rl
namespace Go.Rl
open Go.RowKit
def fC (q:eW):Bool:=rv q.1 q.2.1 q.2.2
def mS (l:List cp):Bool:=l.all fun m=>fC m.co
def iU (l:eB):Bool:=fC l.va&&mS l.pf
mutual
def iG:aP→Bool
 |.mk lems sp kids _ pf=>mS pf&&fC sp.at_&&lems.all iU&&u6 kids
def u6:List aP→Bool
 |[]=>true
 |n::l=>iG n&&u6 l
end
theorem xv:∀l:List aP,u6 l=l.all iG
 |[]=>rfl
 |n::l=>by simp only[u6,List.all_cons,xv l]
theorem H0 (n:aP):iG n=(mS n.pf&&fC n.split.at_&&n.lems.all iU&&n.kids.all iG):=by
 cases n with
 |mk l s k e p=>simp only[iG,xv];rfl
def wMu (m:cp):Prop:=kY m.kd∧kY m.ix∧kY m.lo∧kY m.hi
def wP (l:List cp):Prop:=∀m∈l,wMu m
def I9 (l:eB):Prop:=kY l.un∧wP l.pf
def wD (d:bj):Prop:=kY d.kd∧kY d.ix
mutual
def wN:aP→Prop
 |.mk lems sp kids _ pf=>(∀l∈lems,I9 l)∧wD sp∧wP pf∧JM kids
def JM:List aP→Prop
 |[]=>True
 |n::l=>wN n∧JM l
end
theorem yU:∀l:List aP,JM l↔∀n∈l,wN n
 |[]=>by simp[JM]
 |n::l=>by simp only[JM,yU l,List.mem_cons,forall_eq_or_imp]
theorem yV (n:aP):wN n↔(∀l∈n.lems,I9 l)∧wD n.split∧wP n.pf∧∀k∈n.kids,wN k:=by
 cases n with
 |mk l s k e p=>simp only[wN,yU];rfl
theorem ro (n:aP):dt n=if n.kids.length=0 then xq n.empty++eS n.lems++jE n.pf else[2]++eS n.lems++gG n.split++n.kids.flatMap dt:=by
 cases n with
 |mk l s k e p=>
  cases k with
  |nil=>simp[dt,aP.kids,aP.empty,aP.lems,aP.pf]
  |cons k ks=>simp[dt,aP.kids,aP.lems,aP.split,uT]
theorem mT {l t:List UInt8} {n:Int} (h:qh l=some (n,t)):l=de n++t∧kY n:=by
 refine⟨?_,Dc (st:=some l) (t:=t) h⟩
 unfold qh at h
 obtain⟨p,h1,h2⟩:=Option.map_eq_some_iff.1 h
 simp only[Prod.mk.injEq] at h2
 obtain⟨h3,h4⟩:=gn h1
 rw[←h2.1,←h2.2,de,Jz]
 exact h3
theorem tP {l t:List UInt8} {q:eW} (h:nQ l=some (q,t)):l=gw q++t∧fC q=true:=by
 obtain⟨b,n,m⟩:=q
 have:=Db h
 exact⟨this.1,this.2.1⟩
section
variable {α:Type} {f:List UInt8→Option (α×List UInt8)} {e:α→List UInt8} {Q:α→Prop}
theorem u7 (hf:∀l a t,f l=some (a,t)→l=e a++t∧Q a):∀(n:Nat) (l:List UInt8) (xs:List α) (t:List UInt8),cR f n l=some (xs,t)→l=xs.flatMap e++t∧xs.length=n∧∀x∈xs,Q x
 |0,l,xs,t,h=>by
  simp only[cR,Option.some.injEq,Prod.mk.injEq] at h
  obtain⟨rfl,rfl⟩:=h
  exact⟨rfl,rfl,fun _ h=>by simp at h⟩
 |n+1,l,xs,t,h=>by
  simp only[cR] at h
  obtain⟨p,h1,h2⟩:=Option.bind_eq_some_iff.1 h
  obtain⟨q,h3,h4⟩:=Option.map_eq_some_iff.1 h2
  simp only[Prod.mk.injEq] at h4
  obtain⟨rfl,rfl⟩:=h4
  obtain⟨a1,a2⟩:=hf l p.1 p.2 h1
  obtain⟨b1,b2,b3⟩:=u7 hf n p.2 q.1 q.2 h3
  refine⟨?_,by simp[b2],fun x hx=>?_⟩
  ·rw[List.flatMap_cons,List.append_assoc,←b1];exact a1
  ·rcases List.mem_cons.1 hx with rfl|hx
   ·exact a2
   ·exact b3 x hx
theorem qj (hf:∀l a t,f l=some (a,t)→l=e a++t∧Q a) {l t:List UInt8} {xs:List α} (h:fi f l=some (xs,t)):l=uv xs.length++xs.flatMap e++t∧xs.length<18446744073709551616∧∀x∈xs,Q x:=by
 unfold fi at h
 obtain⟨p,h1,h2⟩:=Option.bind_eq_some_iff.1 h
 obtain⟨a1,a2⟩:=gn (l:=l) (n:=p.1) (t:=p.2) h1
 obtain⟨b1,b2,b3⟩:=u7 hf _ _ _ _ h2
 refine⟨?_,by omega,b3⟩
 rw[b2,List.append_assoc,←b1]
 exact a1
end
theorem Di {k n:Nat} {l t:List UInt8} (h:qD k l=some (n,t)):l=uv n++t∧n≤k:=by
 unfold qD at h
 obtain⟨p,h1,h2⟩:=Option.bind_eq_some_iff.1 h
 split at h2
 ·simp only[Option.some.injEq] at h2
  subst h2
  exact⟨(gn h1).1,by assumption⟩
 ·cases h2
theorem AN {n:Nat} (h:n≤1):uv n=xq (cg n):=by
 rw[iy (by omega)]
 rcases Nat.le_one_iff_eq_zero_or_eq_one.1 h with rfl|rfl<;>rfl
theorem Dj {l t:List UInt8} {d:bj} (h:zR l=some (d,t)):l=gG d++t∧(fC d.at_=true∧wD d):=by
 unfold zR at h
 obtain⟨p1,h1,h⟩:=Option.bind_eq_some_iff.1 h
 obtain⟨p2,h2,h⟩:=Option.bind_eq_some_iff.1 h
 obtain⟨p3,h3,h⟩:=Option.bind_eq_some_iff.1 h
 simp only[Option.some.injEq,Prod.mk.injEq] at h
 obtain⟨rfl,rfl⟩:=h
 have a1:=mT (n:=p1.1) (t:=p1.2) h1
 have a2:=mT (n:=p2.1) (t:=p2.2) h2
 have a3:=tP (q:=p3.1) (t:=p3.2) h3
 refine⟨?_,a3.2,a1.2,a2.2⟩
 show l=de p1.1++de p2.1++gw p3.1++p3.2
 rw[List.append_assoc,List.append_assoc,←a3.1,←a2.1,←a1.1]
theorem GD {l t:List UInt8} {d:cp} (h:yI l=some (d,t)):l=gy d++t∧(fC d.co=true∧wMu d):=by
 unfold yI at h
 obtain⟨p1,h1,h⟩:=Option.bind_eq_some_iff.1 h
 obtain⟨p2,h2,h⟩:=Option.bind_eq_some_iff.1 h
 obtain⟨p3,h3,h⟩:=Option.bind_eq_some_iff.1 h
 obtain⟨p4,h4,h⟩:=Option.bind_eq_some_iff.1 h
 obtain⟨p5,h5,h⟩:=Option.bind_eq_some_iff.1 h
 simp only[Option.some.injEq,Prod.mk.injEq] at h
 obtain⟨rfl,rfl⟩:=h
 have a1:=mT (n:=p1.1) (t:=p1.2) h1
 have a2:=mT (n:=p2.1) (t:=p2.2) h2
 have a3:=mT (n:=p3.1) (t:=p3.2) h3
 have a4:=mT (n:=p4.1) (t:=p4.2) h4
 have a5:=tP (q:=p5.1) (t:=p5.2) h5
 refine⟨?_,a5.2,a1.2,a2.2,a3.2,a4.2⟩
 show l=de p1.1++de p2.1++de p3.1++de p4.1++gw p5.1++p5.2
 rw[List.append_assoc,List.append_assoc,List.append_assoc,List.append_assoc,←a5.1,←a4.1,←a3.1,←a2.1,←a1.1]
theorem Dk {l t:List UInt8} {xs:List cp} (h:HZ l=some (xs,t)):l=jE xs++t∧xs.length<18446744073709551616∧mS xs=true∧wP xs:=by
 obtain⟨h1,h2,h3⟩:=qj (fun l a t h=>GD h) h
 exact⟨h1,h2,List.all_eq_true.2 fun m hm=>(h3 m hm).1,fun m hm=>(h3 m hm).2⟩
theorem GE {l t:List UInt8} {m:eB} (h:uU l=some (m,t)):l=fj m++t∧(iU m=true∧I9 m∧m.pf.length<18446744073709551616):=by
 unfold uU at h
 obtain⟨p1,h1,h⟩:=Option.bind_eq_some_iff.1 h
 obtain⟨p2,h2,h⟩:=Option.bind_eq_some_iff.1 h
 obtain⟨p3,h3,h⟩:=Option.bind_eq_some_iff.1 h
 obtain⟨p4,h4,h⟩:=Option.bind_eq_some_iff.1 h
 simp only[Option.some.injEq,Prod.mk.injEq] at h
 obtain⟨rfl,rfl⟩:=h
 have a1:=mT (n:=p1.1) (t:=p1.2) h1
 have a2:=Di (n:=p2.1) (t:=p2.2) h2
 have a3:=tP (q:=p3.1) (t:=p3.2) h3
 have a4:=Dk (xs:=p4.1) (t:=p4.2) h4
 refine⟨?_,by simp only[iU,Bool.and_eq_true];exact⟨a3.2,a4.2.2.1⟩,⟨a1.2,a4.2.2.2⟩,a4.2.1⟩
 show l=de p1.1++xq (cg p2.1)++gw p3.1++jE p4.1++p4.2
 rw[List.append_assoc,List.append_assoc,List.append_assoc,←a4.1,←a3.1,←AN a2.2,←a2.1,←a1.1]
theorem Ey {l t:List UInt8} {xs:List eB} (h:uV l=some (xs,t)):l=eS xs++t∧xs.length<18446744073709551616∧xs.all iU=true∧(∀m∈xs,I9 m):=by
 obtain⟨h1,h2,h3⟩:=qj (fun l a t h=>GE h) h
 exact⟨h1,h2,List.all_eq_true.2 fun m hm=>(h3 m hm).1,fun m hm=>(h3 m hm).2.1⟩
theorem u9:∀(k:Nat) (l t:List UInt8) (n:aP),pz k l=some (n,t)→l=dt n++t∧(iG n=true∧wN n∧(n.kids.length=0∨n.kids.length=2))
 |0,_,_,_,h=>by cases h
 |k+1,l,t,n,h=>by
  simp only[pz] at h
  obtain⟨p1,h1,h⟩:=Option.bind_eq_some_iff.1 h
  obtain⟨p2,h2,h⟩:=Option.bind_eq_some_iff.1 h
  have a1:=Di (n:=p1.1) (t:=p1.2) h1
  have a2:=Ey (xs:=p2.1) (t:=p2.2) h2
  split at h
  ·rename_i hk
   obtain⟨p3,h3,h⟩:=Option.bind_eq_some_iff.1 h
   simp only[Option.some.injEq,Prod.mk.injEq] at h
   obtain⟨rfl,rfl⟩:=h
   have a3:=Dk (xs:=p3.1) (t:=p3.2) h3
   refine⟨?_,?_,?_,.inl rfl⟩
   ·simp only[dt]
    rw[List.append_assoc,List.append_assoc,←a3.1,←a2.1,show decide (p1.1=1)=cg p1.1 from rfl,←AN (by omega),←a1.1]
   ·simp only[iG,u6,a3.2.2.1,a2.2.2.1,lL,JG]
    decide
   ·simp only[wN,JM,and_true]
    exact⟨a2.2.2.2,⟨by show kY 0;unfold kY;omega,by show kY 0;unfold kY;omega⟩,a3.2.2.2⟩
  ·rename_i hk
   obtain⟨p3,h3,h⟩:=Option.bind_eq_some_iff.1 h
   obtain⟨p4,h4,h⟩:=Option.bind_eq_some_iff.1 h
   obtain⟨p5,h5,h⟩:=Option.bind_eq_some_iff.1 h
   simp only[Option.some.injEq,Prod.mk.injEq] at h
   obtain⟨rfl,rfl⟩:=h
   have a3:=Dj (d:=p3.1) (t:=p3.2) h3
   have a4:=u9 k _ p4.2 p4.1 h4
   have a5:=u9 k _ p5.2 p5.1 h5
   have h2:p1.1=2:=by omega
   refine⟨?_,?_,?_,.inr rfl⟩
   ·have u2:uv 2=[2]:=iy (by omega)
    rw[h2,u2] at a1
    simp only[dt,uS,List.append_assoc,List.nil_append]
    rw[←a5.1,←a4.1,←a3.1,←a2.1,←a1.1]
   ·simp only[iG,u6,a2.2.2.1,a3.2.1,a4.2.1,a5.2.1]
    decide
   ·simp only[wN,JM,and_true]
    exact⟨a2.2.2.2,a3.2.2,fun _ h=>by simp at h,a4.2.2.1,a5.2.2.1⟩
theorem GF {l t:List UInt8} {n:aP} (h:BO l=some (n,t)):l=dt n++t∧(iG n=true∧wN n∧(n.kids.length=0∨n.kids.length=2)):=u9 l.length l t n h
theorem lO (q:eW):4*(q.2.1.length+q.2.2.length)≤(gw q).length:=by
 have h:∀n:List UInt32,4*n.length≤(mh n).length:=fun n=>by simp only[mh,List.length_append,fU];omega
 have h1:=h q.2.1
 have h2:=h q.2.2
 simp only[gw,pY,List.length_append,List.length_cons,List.length_nil]
 omega
end Go.Rl
namespace Go.Rl
def lcp:List UInt8→List UInt8→Nat
 |a::l,b::m=>if a=b then lcp l m+1 else 0
 |_,_=>0
def ml (d:List UInt8) (i k:Nat):Nat:=lcp (d.drop i) (d.drop (i-k))
def bst (d:List UInt8) (i:Nat):Nat→Nat×Nat
 |0=>(0,0)
 |j+1=>if 4≤ml d i (j+1)∧(bst d i j).1<ml d i (j+1) then(ml d i (j+1),j+1) else bst d i j
def H1 (d:List UInt8) (i:Nat):Nat×Nat:=bst d i (min i 4096)
def pk (d:List UInt8) (i run:Nat):List UInt8:=
 if _h:i<d.length then
  if hn:(H1 d i).1=0 then pk d (i+1) (run+1)
  else uv run++(d.drop (i-run)).take run++uv ((H1 d i).1-4)++uv ((H1 d i).2-1)++pk d (i+(H1 d i).1) 0
 else if 0<run then uv run++d.drop (d.length-run) else[]
termination_by d.length-i
decreasing_by all_goals omega
def yW (d:List UInt8):List UInt8:=uv d.length++pk d 0 0
def cpy (k:Nat):Nat→List UInt8→List UInt8
 |0,out=>out
 |m+1,out=>cpy k m (out++[out.getD (out.length-k) 0])
def unp (total:Nat):Nat→List UInt8→List UInt8→Option (List UInt8)
 |0,_,_=>none
 |f+1,rest,out=>
  if out.length<total then
   (gx rest).bind fun p=>
     if total-out.length<p.1∨p.2.length<p.1 then none
     else if total-out.length=p.1 then(if p.2.drop p.1=[] then some (out++p.2.take p.1) else none)
     else(gx (p.2.drop p.1)).bind fun q=>
      if total-out.length-p.1<4∨total-out.length-p.1-4<q.1 then none
      else(gx q.2).bind fun r=>
       if 4096≤r.1∨(out++p.2.take p.1).length≤r.1 then none
       else unp total f r.2 (cpy (r.1+1) (q.1+4) (out++p.2.take p.1))
  else if rest=[] then some out else none
end Go.Rl
namespace Go.Rl
def unr (total:Nat):Nat→List UInt8→List UInt8→Option (List UInt8×List UInt8)
 |0,_,_=>none
 |f+1,rest,out=>
  if out.length<total then
   (uJ rest).bind fun p=>
     if (out++p.1).length<total then
      (gx p.2).bind fun q=>(gx q.2).bind fun r=>
        if total≤q.1∨(out++p.1).length≤r.1 then none
        else unr total f r.2 (cpy (r.1+1) (min (q.1+4) (total-(out++p.1).length)) (out++p.1))
     else some (out++p.1,p.2)
  else some (out,rest)
def vp (l t:List UInt8) (total:Nat):Option (List UInt8):=(unp total (total+1) t []).bind fun out=>if yW out=l then some out else none
def vr (l t:List UInt8) (total:Nat):Option (List UInt8):=(unr total (total+1) t []).bind fun p=>if p.2=[]∧yW p.1=l then some p.1 else none
end Go.Rl
namespace Go.Rl
def pos (d q:List UInt8) (n:Nat):List Nat:=(List.range n).filter fun p=>(d.drop p).take 4==q
theorem GG (d q:List UInt8):pos d q 0=[]:=rfl
end Go.Rl
namespace Go.Rl
open Go.RowKit Go.Proofs
open Go.Maps (Keyed)
def K4 (q:List UInt8):Value:=.agg (q.map U8).toArray
def KW (d q:List UInt8) (n:Nat):List Int:=(pos d q n).map Int.ofNat
structure KX (base:Nat) (d:List UInt8) (n clock:Nat) (X:Nat→Prop) (w:World) (e:MapEntry) (q:List UInt8):Prop where
 len:q.length=4
 key:e.key=K4 q
 row:ko base (KW d q n) e.val w
 born:e.born<clock
 own:∀k,e.val.ownBlock=some k→X k
structure ol (base:Nat) (d:List UInt8) (m n:Nat) (X:Nat→Prop) (w:World) (es:List MapEntry) (clock:Nat):Prop where
 at_:w.heap[m]? =some (.map es.toArray clock)
 ent:∀e∈es,∃q,KX base d n clock X w e q
 apart:∀(i j:Nat) (e f:MapEntry),es[i]? =some e→es[j]? =some f→i≠j→e.key≠f.key∧e.born≠f.born∧(e.val.ownBlock=none∨e.val.ownBlock≠f.val.ownBlock)
 full:∀q,pos d q n≠[]→∃e∈es,e.key=K4 q
def om (base:Nat) (d:List UInt8) (m n:Nat) (X:Nat→Prop) (w:World):Prop:=∃es clock,ol base d m n X w es clock
section
variable {base:Nat} {d:List UInt8} {m n clock:Nat} {X:Nat→Prop} {w w':World} {es:List MapEntry}
theorem ol.lt (h:ol base d m n X w es clock):m<w.heap.size:=(Array.getElem?_eq_some_iff.1 h.at_).1
theorem ko.cells {l:List Int} {v:Value} (h:ko base l v w) {k:Nat} (hk:v.ownBlock=some k):∃cs f,w.heap[k]? =some (.cells cs 3 f):=by
 obtain⟨n,h1,h2⟩:=h
 rcases h2 with⟨rfl,_⟩|⟨g,cap,cur,rfl,h3,h4,h5⟩
 ·cases hk
 ·obtain rfl:g=k:=Option.some.inj hk
  exact⟨_,_,h4⟩
theorem ol.ne (h:ol base d m n X w es clock) {e:MapEntry} (he:e∈es):e.val.ownBlock≠some m:=fun hk=>by
 obtain⟨q,hq⟩:=h.ent e he
 obtain⟨cs,f,hc⟩:=hq.row.cells hk
 rw[h.at_] at hc
 cases hc
theorem ol.same (h:ol base d m n X w es clock) (hm:w'.heap[m]? =w.heap[m]?) (hX:∀k,X k→k<w.heap.size→w'.heap[k]? =w.heap[k]?):ol base d m n X w' es clock:=
 ⟨hm.trans h.at_,fun e he=>by
  obtain⟨q,hq⟩:=h.ent e he
  exact⟨q,hq.len,hq.key,hq.row.same fun k hk=>hX k (hq.own k hk) (hq.row.lt k hk).2,hq.born,hq.own⟩,h.apart,h.full⟩
theorem om.same (h:om base d m n X w) (hm:w'.heap[m]? =w.heap[m]?) (hX:∀k,X k→k<w.heap.size→w'.heap[k]? =w.heap[k]?):om base d m n X w':=by
 obtain⟨es,clock,h⟩:=h
 exact⟨es,clock,h.same hm hX⟩
theorem om.lt (h:om base d m n X w):m<w.heap.size:=by
 obtain⟨es,clock,h⟩:=h
 exact h.lt
theorem om.ext (h:om base d m n X w) (hx:aH w w'):om base d m n X w':=h.same (hx.heap h.lt) fun _ _ hk=>hx.heap hk
theorem ol.add (h:ol base d m n X w es clock) {q:List UInt8} (hq:q.length=4) (hno:∀e∈es,e.key≠K4 q) (hg:w.grownBy w' (some m)) (h':w'.heap[m]? =some (.map (es++[({key:=K4 q,val:=.slice none 0 0,born:=clock}:MapEntry)]).toArray (clock+1))):
 ol base d m n X w' (es++[({key:=K4 q,val:=.slice none 0 0,born:=clock}:MapEntry)]) (clock+1):=by
 have hp:pos d q n=[]:=Classical.byContradiction fun hn=>by
  obtain⟨e,he,hk⟩:=h.full q hn
  exact hno e he hk
 have hget:∀(i:Nat) (e:MapEntry),(es++[({key:=K4 q,val:=.slice none 0 0,born:=clock}:MapEntry)])[i]? =some e→es[i]? =some e∨(i=es.length∧e={key:=K4 q,val:=.slice none 0 0,born:=clock}):=fun i e hi=>by
  rcases Nat.lt_or_ge i es.length with hl|hl
  ·rw[List.getElem?_append_left hl] at hi;exact .inl hi
  ·rw[List.getElem?_append_right hl] at hi
   rcases Nat.eq_zero_or_pos (i-es.length) with h0|h0
   ·rw[h0] at hi
    exact .inr ⟨by omega,(Option.some.inj hi).symm⟩
   ·rw[List.getElem?_eq_none (by simp;omega)] at hi;cases hi
 refine⟨h',fun e he=>?_,fun i j e f hi hj hij=>?_,fun r hr=>?_⟩
 ·rcases List.mem_append.1 he with he|he
  ·obtain⟨r,hr⟩:=h.ent e he
   exact⟨r,hr.len,hr.key,hr.row.kept hg (.inr (h.ne he)),Nat.lt_succ_of_lt hr.born,hr.own⟩
  ·obtain rfl:=List.mem_singleton.1 he
   exact⟨q,hq,rfl,by unfold KW;rw[hp];exact ko.nil _ _,Nat.lt_succ_self _,fun k hk=>by cases hk⟩
 ·rcases hget i e hi with hi|⟨rfl,rfl⟩<;>rcases hget j f hj with hj|⟨rfl,rfl⟩
  ·exact h.apart i j e f hi hj hij
  ·have hm:=List.mem_of_getElem? hi
   obtain⟨r,hr⟩:=h.ent e hm
   have:=hr.born
   refine⟨hno e hm,by simp only[];omega,?_⟩
   cases hb:e.val.ownBlock with
   |none=>exact .inl rfl
   |some k=>exact .inr (by simp[Value.ownBlock])
  ·have hm:=List.mem_of_getElem? hj
   obtain⟨r,hr⟩:=h.ent f hm
   have:=hr.born
   exact⟨(hno f hm).symm,by simp only[];omega,.inl rfl⟩
  ·exact absurd rfl hij
 ·obtain⟨e,he,hk⟩:=h.full r hr
  exact⟨e,List.mem_append_left _ he,hk⟩
end
end Go.Rl
namespace Go.Rl
open Go.RowKit Go.Proofs
end Go.Rl
namespace Go.Rl
open Go.RowKit Go.Proofs
theorem n64 {n:Nat} (h:n<18446744073709551616):(UInt64.ofNat n).toNat=n:=by rw[UInt64.toNat_ofNat'];omega
end Go.Rl
namespace Go.Rl
open Go.RowKit Go.Proofs
theorem AO:aJ Tryz.prog 43:=⟨_,Tryz.func43,by kernel_rfl,rfl⟩
theorem AP {w:World} {l m:List UInt8} {v u:Value} (hv:cK l v w) (hu:cK m u w):
 Calls Tryz.prog 43 #[v,u] w (bN fun r w'=>aH w w'∧r=B (decide (l=m))):=by
 refine enter (vs:=[v,u]) Tryz.func43 E E E ?_
 have hll:=hv.len
 refine af (aa (ac E E (ag (ab (af (af (aa (ae E E (aV E E (ey hv) (ae E E (aV E E (ey hu) (al E E E (dn) ?_))))))))))))
 refine ag (ab ?_)
 refine bu E (fun h10=>?_) (fun h10=>?_)
 ·have hne:l≠m:=fun h=>h10 (by rw[h])
  refine af (aa (ac E E (ag (ab (aw (az (au E E ?_)))))))
  exact⟨_,rfl,aH.refl _,congrArg B (decide_eq_false hne).symm⟩
 ·have hlen:l.length=m.length:=by omega
  refine aC (ab (af (af (aa (ae E E (aV E E (ey hv) (ae E E (ag (ab (aG ?_))))))))))
  refine ck (α:=Nat) (fun x=>[(0,v),(1,u),(12,I (l.length:Int)),(13,I (x:Int))]) (fun x w'=>aH w w'∧x≤l.length∧l.take x=m.take x) (fun x=>l.length-x) (0) ⟨rfl,rfl,rfl,rfl,trivial⟩ ⟨aH.refl _,by omega,rfl⟩ ?_
  rintro i w4 ⟨e4,hi,ht⟩
  refine af (aa (al E E E (a6) (ag (ab (af ?_)))))
  refine bu E (fun h14=>?_) (fun h14=>?_)
  ·refine aC (ab (af (aG (af (aa (ae E E (ac E E (ag (ab (af (bP 8 [0,1,12,13,19,23] (by kernel_rfl) (by kernel_rfl) ?_)))))))))))
   refine ax E E (ax E E ?_)
   obtain⟨a18,p18,q18⟩:=kB (hv.ext e4) (i:=i) (by omega) .i64
   refine aD E E E (fun w _=>p18 w) (aQ E E (fun w hw=>ai Lx E (hw.cell_some q18)) (ax E E (ax E E ?_)))
   obtain⟨a22,p22,q22⟩:=kB (hu.ext e4) (i:=i) (by omega) .i64
   refine aD E E E (fun w _=>p22 w) (aQ E E (fun w hw=>ai Lx E (hw.cell_some q22)) (cn ?_))
   intro wg6 xg6
   rintro _ hq0
   obtain rfl:=Eq.symm hq0
   rintro _ hq1
   obtain rfl:=Eq.symm hq1
   rintro _ rfl
   rintro _ rfl
   rintro _ rfl
   rintro _ rfl
   refine al E E E (Fp) (ag (ab ?_))
   refine bu E (fun h24=>?_) (fun h24=>?_)
   ·have hne:l≠m:=fun h=>h24 (by subst h;rfl)
    refine af (aa (ac E E (ag (ab (aw (ba (az (az (ba (az (au E E ?_)))))))))))
    exact⟨_,rfl,(e4.trans xg6),congrArg B (decide_eq_false hne).symm⟩
   ·have he:l[i]'(by omega)=m[i]'(by omega):=Classical.byContradiction fun h=>h24 h
    refine aC (aW (ab (aa (al (r:=I ((i+1:Nat):Int)) E E E (by have e:((i+1:Nat):Int)=(i:Int)+1:=(by omega);rw[e];exact aR (by omega) (by omega)) ?_))))
    refine ae E E (ag ?_)
    refine bS (i+1) ⟨rfl,rfl,rfl,rfl,trivial⟩ ⟨(e4.trans xg6),by omega,by rw[List.take_succ_eq_append_getElem (by omega),List.take_succ_eq_append_getElem (by omega),ht,he]⟩ (by omega)
  ·refine bc (aK (aK (bf (ab (af (aa (ac E E (ag (ab (aw (au E E ?_)))))))))))
   exact⟨_,rfl,e4,by
    rw[List.take_of_length_le (by omega),List.take_of_length_le (by omega)] at ht
    rw[decide_eq_true ht];rfl⟩
end Go.Rl
namespace Go.Rl
open Go.RowKit Go.Proofs
section
variable {w:World} {g:Nat} {st:Option (List UInt8)}
theorem GH (hr:cD g st w):Calls Tryz.prog 90 #[.pointer (some ⟨g,0,none⟩)] w (bN fun r w'=>w=w'∧r=I ((st.getD []).length:Nat)):=(El hr).mono fun _ _ ⟨v,h,h1,h2⟩=>⟨v,h,h2.symm,h1⟩
end
end Go.Rl
namespace Go.Rl
open Go.RowKit Go.Proofs
theorem yX {l t':List UInt8} {n:Nat} (h:gx (l.take 10)=some (n,t')):gx l=some (n,l.drop (uv n).length)∧(uv n).length+t'.length=min l.length 10:=by
 obtain⟨h1,h2⟩:=gn h
 have hlen:(uv n).length+t'.length=min l.length 10:=by
  have:=congrArg List.length h1
  rw[List.length_take,List.length_append] at this
  omega
 have e:l=uv n++(t'++l.drop 10):=by
  rw[←List.append_assoc,←h1,List.take_append_drop]
 refine⟨?_,hlen⟩
 have hd:l.drop (uv n).length=t'++l.drop 10:=by
  conv=>lhs;rw[e]
  rw[List.drop_left' rfl]
 rw[hd]
 conv=>lhs;rw[e]
 exact Bq h2 _
theorem yY {l:List UInt8} (h:gx (l.take 10)=none):gx l=none:=by
 cases hr:gx l with
 |none=>rfl
 |some p=>
  obtain⟨n,t⟩:=p
  obtain⟨h1,h2⟩:=gn hr
  have hl:=iL (n:=n) h2
  have e:l.take 10=uv n++t.take (10-(uv n).length):=by
   rw[h1,List.take_append]
   congr 1
   exact List.take_of_length_le (by omega)
  rw[e,Bq h2] at h
  cases h
theorem H2 {P:Program} {w:World} {ts:Array TypeId} {ty:TypeId} {n:Nat}:(Builtin.min_ ts ty #[I (n:Int),I 10]).run P w=.ok (I ((min n 10:Nat):Int)) w:=by
 have e:((min n 10:Nat):Int)=if (10:Int)<(n:Int) then 10 else(n:Int):=by split<;>omega
 rw[e];rfl
theorem GI {P:Program} {w:World} {t:TypeId} {x y:Operand} {a b c:Nat} (h:c+b=a) (ha:a≤1099511627776):(bin .sub t x y (I (a:Int)) (I (b:Int))).run P w=.ok (I (c:Int)) w:=by
 have e:(c:Int)=(a:Int)-(b:Int):=by omega
 rw[e]
 exact bD (by omega) (by omega)
end Go.Rl
namespace Go.Rl
open Go.RowKit Go.Proofs
end Go.Rl
namespace Go.Rl
open Go.RowKit Go.Proofs
def GJ (g:Nat) (st:Option (List UInt8)) (b w:World):Prop:=∃A n c,bQ g 167 [.slice A n c,B st.isNone] w∧cK (st.getD []) (.slice A n c) b∧pS A g
section
variable {g:Nat} {st:Option (List UInt8)} {b w w':World}
theorem GJ.ext (h:GJ g st b w) (hx:aH w w'):GJ g st b w':=by
 obtain⟨A,n,c,h1,h2,h3⟩:=h
 exact⟨A,n,c,h1.ext hx,h2,h3⟩
theorem GJ.at_ (h:GJ g st b w) (k:Kp b w):Eu g st w:=by
 obtain⟨A,n,c,h1,h2,h3⟩:=h
 exact⟨A,n,c,h1,h2.kp k,h3⟩
theorem GJ.other {row:Option Nat} (h:GJ g st b w) (hw:w.grownBy w' row) (hne:row≠some g):GJ g st b w':=by
 obtain⟨A,n,c,h1,h2,h3⟩:=h
 exact⟨A,n,c,h1.other hw (Ne.symm hne),h2,h3⟩
theorem GJ.set {l l':List UInt8} {v:Value} (h:GJ g (some l) b w) (hv:cK l' v b) (hloc:∀A n c,v=.slice A n c→pS A g):
 ∃w',(Instr.storeAt 22 (.pointer (some ⟨g,0,none⟩)) v).run Tryz.prog w=.ok () w'∧w.grownBy w' (some g)∧GJ g (some l') b w':=by
 obtain⟨A,n,c,h1,h2,_⟩:=h
 obtain⟨A',n',c',rfl,h3⟩:=id hv
 exact⟨_,el (i:=0) dA rfl h1 (by simp),bi w g 0 _,A',n',c',h1.set 0 _,hv,hloc _ _ _ rfl⟩
end
end Go.Rl
namespace Go.Rl
open Go.RowKit Go.Proofs
theorem JN {l t:List UInt8} {n:Nat} (h:gx l=some (n,t)):t.length≤l.length:=by
 obtain⟨h1,_⟩:=gn h
 rw[h1,List.length_append];omega
theorem JO {l a t:List UInt8} (h:uJ l=some (a,t)):a.length+t.length≤l.length:=by
 unfold uJ at h
 cases hU:gx l with
 |none=>rw[hU] at h;cases h
 |some p=>
  obtain⟨n,u⟩:=p
  rw[hU] at h
  have h:(if n≤u.length then some (u.take n,u.drop n) else none)=some (a,t):=h
  have:=JN hU
  split at h
  ·simp only[Option.some.injEq,Prod.mk.injEq] at h
   rw[←h.1,←h.2,List.length_take,List.length_drop]
   omega
  ·cases h
end Go.Rl
namespace Go.Rl
open Go.RowKit Go.Proofs
def yZ (Kb:Nat→Prop) (W W':World):Prop:=W.heap.size≤W'.heap.size∧∀k,Kb k→W'.heap[k]? =W.heap[k]?
theorem yZ.trans {Kb:Nat→Prop} {a b c:World} (h:yZ Kb a b) (k:yZ Kb b c):yZ Kb a c:=⟨Nat.le_trans h.1 k.1,fun n hn=>(k.2 n hn).trans (h.2 n hn)⟩
theorem yZ.refl (Kb:Nat→Prop) (a:World):yZ Kb a a:=⟨Nat.le_refl _,fun _ _=>rfl⟩
theorem yZ.of_ext {Kb:Nat→Prop} {a b:World} (h:aH a b) (hk:∀k,Kb k→k<a.heap.size):yZ Kb a b:=⟨h.size,fun k hn=>h.heap (hk k hn)⟩
end Go.Rl
namespace Go.Rl
open Go.RowKit Go.Proofs
def KY (b:Nat) (T:TypeId) (l:List Value):dv:=fun v w=>∃g,v=.pointer (some ⟨g,0,none⟩)∧b≤g∧bQ g T l w
theorem KY.stable (b:Nat) (T:TypeId) (l:List Value):bO (KY b T l):=fun _ _ _ ⟨g,h1,h2,h3⟩ hx=>⟨g,h1,h2,h3.ext hx⟩
structure Fnd (wb:World) (d:List UInt8) (g m nx:Nat) (Y:Nat→Prop) (w:World):Prop where
 ext:aH wb w
 low:∀k,(k=g∨k=m∨Y k)→wb.heap.size≤k∧k<w.heap.size
 ng:¬Y g
 nm:¬Y m
 gm:g≠m
 blk:∃A n c,bQ g 235 [.slice A n c,.map (some m),I (nx:Int)] w∧cK d (.slice A n c) wb
 map:om wb.heap.size d m nx Y w
def Foot (g m:Nat) (Y:Nat→Prop):Nat→Prop:=fun k=>k=g∨k=m∨Y k
section
variable {wb w w':World} {d:List UInt8} {g m nx:Nat} {Y:Nat→Prop}
theorem Fnd.mv {X:Nat→Prop} (h:Fnd wb d g m nx Y w) (hx:Mv X w w') (hX:∀k,Foot g m Y k→¬X k) (hb:∀k,X k→wb.heap.size≤k):Fnd wb d g m nx Y w':=
 ⟨hx.ext_from h.ext hb,fun k hk=>⟨(h.low k hk).1,Nat.lt_of_lt_of_le (h.low k hk).2 hx.size⟩,h.ng,h.nm,h.gm,by
  obtain⟨A,n,c,h1,h2⟩:=h.blk
  exact⟨A,n,c,hx.blk h1 (hX g (.inl rfl)),h2⟩,h.map.same (hx.keep m h.map.lt (hX m (.inr (.inl rfl)))) fun k hk hl=>hx.keep k hl (hX k (.inr (.inr hk)))⟩
end
structure Rnd (wl:World) (g7 g8:Nat) (s:Nat×Nat) (W:World):Prop where
 c7:bQ g7 3 [I (s.1:Int)] W
 c8:bQ g8 3 [I (s.2:Int)] W
 mv:Mv (fun k=>k=g7∨k=g8) wl W
section
variable {wl W W':World} {g7 g8:Nat} {s:Nat×Nat}
theorem Rnd.own (h:Rnd wl g7 g8 s W) (h7:g7<wl.heap.size) (h8:g8<wl.heap.size) {row:Option Nat} (hg:W.grownBy W' row) (hr:∀r,row=some r→wl.heap.size≤r):Rnd wl g7 g8 s W':=
 ⟨h.c7.other hg (fun e=>by have:=hr g7 e.symm;omega),h.c8.other hg (fun e=>by have:=hr g8 e.symm;omega),h.mv.trans (Mv.of_grown (X:=fun k=>wl.heap.size≤k) hg (fun k hk _=>hr k hk)) (fun n hn hl=>by omega)⟩
end
theorem Rnd.keep {wl W W':World} {g7 g8:Nat} (h:Mv (fun k=>k=g7∨k=g8) W W') (hl:wl.heap.size≤W.heap.size):yZ (fun k=>k<wl.heap.size∧k≠g7∧k≠g8) W W':=
 ⟨h.size,fun k hk=>h.keep k (Nat.lt_of_lt_of_le hk.1 hl) (fun e=>e.elim hk.2.1 hk.2.2)⟩
end Go.Rl
namespace Go.Rl
open Go.RowKit Go.Proofs
theorem cL.cells {base:Nat} {l:List UInt8} {v:Value} {w:World} (h:cL base l v w) {k:Nat} (hk:v.ownBlock=some k):∃cs f,w.heap[k]? =some (.cells cs 5 f):=by
 obtain⟨n,h1,h2⟩:=h
 rcases h2 with⟨rfl,_⟩|⟨g,cap,cur,rfl,h3,h4,h5⟩
 ·cases hk
 ·obtain rfl:g=k:=Option.some.inj hk
  exact⟨_,_,h4⟩
theorem om.new {base:Nat} {d:List UInt8} {w:World} {m:Nat} (h:w.heap[m]? =some (.map #[] 0)):om base d m 0 (fun _=>False) w:=
 ⟨[],0,h,fun e he=>by simp at he,fun i j e f hi=>by simp at hi,fun q hq=>absurd (GG d q) hq⟩
end Go.Rl
namespace Go.Rl
open Go.RowKit Go.Proofs
end Go.Rl
namespace Go.Rl
end Go.Rl
namespace Go.Rl
open Go.RowKit Go.Proofs
end Go.Rl
namespace Go.Rl
open Go.RowKit Go.Proofs
section
variable {l:List UInt8} {max:Int} {f:List UInt8→Nat→Option (List UInt8)} {r:Value} {w:World}
def JP (l:List UInt8) (max:Int) (f:List UInt8→Nat→Option (List UInt8)):List UInt8×Int:=
 if max<0 then([],8) else match gx l with
  |none=>([],5)
  |some (n,t)=>if max<(n:Int) then([],8) else match f t n with
   |some out=>(out,0)
   |none=>([],5)
end
end Go.Rl
namespace Go.Rl
open Go.RowKit Go.Proofs
theorem vc:(Tryz.prog.info? 200).map (·.zero)=some (some (.agg (List.replicate 64 (bE 0)).toArray)):=by kernel_rfl
theorem vg:(Tryz.prog.info? 200).map (·.size)=some 64:=by kernel_rfl
theorem eU:aJ Tryz.prog 122:=⟨_,Tryz.func122,by kernel_rfl,rfl⟩
theorem vh:aJ Tryz.prog 123:=⟨_,Tryz.func123,by kernel_rfl,rfl⟩
theorem eV {w:World} {x:UInt32} (n:Nat) (h0:0<n) (h1:n<32):
 Calls Tryz.prog 122 #[bE x,I (n:Int)] w (bN fun r w'=>aH w w'∧r=bE (iE x n)):=by
 refine enter (vs:=[bE x,I (n:Int)]) Tryz.func122 E E E ?_
 refine af (aa (ac E E (ag (ab (af ?_)))))
 have e:(32:Int)-(n:Int)=((32-n:Nat):Int):=by omega
 refine bP 8 [12] (by kernel_rfl) (by kernel_rfl) ?_
 refine ax E E (ax E E ?_)
 refine aZ E E E (fun w _=>cO n h1) ?_
 refine ax E E (ax E E ?_)
 refine aZ (r:=I ((32-n:Nat):Int)) E E E (fun w _=>by rw[←e];exact bD (by omega) (by omega)) ?_
 refine aZ E E E (fun w _=>eE (32-n) (by omega)) ?_
 refine aZ E E E (fun w _=>fg) ?_
 refine cn ?_
 intro w' hw
 rintro _ rfl
 refine ac E E (ag (ab (aw ?_)))
 refine au E E ?_
 exact⟨_,rfl,hw,rfl⟩
theorem vi (w:World):
 Calls Tryz.prog 123 #[] w (bN fun r w'=>aH w w'∧r=.agg (kc.map bE).toArray):=by
 refine enter (vs:=[]) Tryz.func123 E E E ?_
 refine af (aa (aS E (yv vc) (ag (ab (af (aa ?_))))))
 refine bC E E (run_build _ _ _ (kc.map bE).toArray (by kernel_rfl)) ?_
 have hb:=bQ.new (w:=w) (T:=200) (.agg (List.replicate 64 (bE 0)).toArray) rfl
 refine ay E E (ju hb E vg (jZ _)) ?_
 refine ag (ab (aw ?_))
 refine cM E E (hb.row _) LS E vg ?_
 refine⟨_,rfl,?_,rfl⟩
 exact(aH.new w _).of_grown (bJ _ _ _) fun k hk=>by
  obtain rfl:=Option.some.inj hk
  exact Nat.le_refl _
theorem d9:aJ Tryz.prog 121:=⟨_,Tryz.func121,by kernel_rfl,rfl⟩
theorem tC:aJ Tryz.prog 120:=⟨_,Tryz.func120,by kernel_rfl,rfl⟩
theorem eh {w:World} {x:UInt32} (n:Nat) (h0:0<n) (h1:n<32):
 Calls Tryz.prog 121 #[bE x,I (n:Int)] w (bN fun r w'=>aH w w'∧r=bE (iE x n)):=by
 refine enter (vs:=[bE x,I (n:Int)]) Tryz.func121 E E E ?_
 refine af (aa (ac E E (ag (ab (af ?_)))))
 have e:(32:Int)-(n:Int)=((32-n:Nat):Int):=by omega
 refine bP 8 [12] (by kernel_rfl) (by kernel_rfl) ?_
 refine ax E E (ax E E ?_)
 refine aZ E E E (fun w _=>cO n h1) ?_
 refine ax E E (ax E E ?_)
 refine aZ (r:=I ((32-n:Nat):Int)) E E E (fun w _=>by rw[←e];exact bD (by omega) (by omega)) ?_
 refine aZ E E E (fun w _=>eE (32-n) (by omega)) ?_
 refine aZ E E E (fun w _=>fg) ?_
 refine cn ?_
 intro w' hw
 rintro _ rfl
 refine ac E E (ag (ab (aw ?_)))
 refine au E E ?_
 exact⟨_,rfl,hw,rfl⟩
theorem tD (w:World):
 Calls Tryz.prog 120 #[] w (bN fun r w'=>aH w w'∧r=.agg (kc.map bE).toArray):=by
 refine enter (vs:=[]) Tryz.func120 E E E ?_
 refine af (aa (aS E (yv vc) (ag (ab (af (aa ?_))))))
 refine bC E E (run_build _ _ _ (kc.map bE).toArray (by kernel_rfl)) ?_
 have hb:=bQ.new (w:=w) (T:=200) (.agg (List.replicate 64 (bE 0)).toArray) rfl
 refine ay E E (ju hb E vg (jZ _)) ?_
 refine ag (ab (aw ?_))
 refine cM E E (hb.row _) LS E vg ?_
 refine⟨_,rfl,?_,rfl⟩
 exact(aH.new w _).of_grown (bJ _ _ _) fun k hk=>by
  obtain rfl:=Option.some.inj hk
  exact Nat.le_refl _
end Go.Rl
namespace Go.Rl
open Go.RowKit Go.Proofs
theorem Dl:(Tryz.prog.info? 150).map (·.zero)=some (some (.agg (List.replicate 8 (bE 0)).toArray)):=by kernel_rfl
theorem oo:(Tryz.prog.info? 150).map (·.size)=some 8:=by kernel_rfl
section
variable {w:World} {g o:Nat} {T:TypeId}
theorem dE (i:Nat) (hi:i<8):(Instr.indexAt 150 (.pointer (some ⟨g,0,none⟩)) (I (i:Int))).run Tryz.prog w=.ok (.pointer (some ⟨g,i,none⟩)) w:=by
 have:=iz (P:=Tryz.prog) (w:=w) (g:=g) (o:=0) LN dW hi .i64
 rwa [Nat.zero_add] at this
theorem gV (i:Nat) (hi:i<64):(Instr.indexAt 200 (.pointer (some ⟨g,0,none⟩)) (I (i:Int))).run Tryz.prog w=.ok (.pointer (some ⟨g,i,none⟩)) w:=by
 have:=iz (P:=Tryz.prog) (w:=w) (g:=g) (o:=0) LS dW hi .i64
 rwa [Nat.zero_add] at this
theorem da {m:List UInt32} (h:bQ g T (m.map bE) w) (i:Nat) (hi:i<m.length):(Instr.loadAt 149 (.pointer (some ⟨g,i,none⟩))).run Tryz.prog w=.ok (bE (m.getD i 0)) w:=
 ai Tryz.underlying149 rfl (h.cell (by simp[hi]))
theorem AQ {m:List UInt32} {x:UInt32} (h:bQ g T (m.map bE) w) (i:Nat) (hi:i<m.length):(Instr.storeAt 149 (.pointer (some ⟨g,i,none⟩)) (bE x)).run Tryz.prog w=.ok () (w.setCell ⟨g,i,none⟩ (bE x)):=
 el dW rfl h (by simpa using hi)
theorem bQ.setU {m:List UInt32} (h:bQ g T (m.map bE) w) (i:Nat) (x:UInt32):bQ g T ((m.set i x).map bE) (w.setCell ⟨g,i,none⟩ (bE x)):=by
 have:=h.set i (bE x)
 rwa [←List.map_set] at this
end
def dj (l:List UInt32):List UInt32:=l++List.replicate (64-l.length) 0
theorem mU {l:List UInt32} (h:l.length≤64):(dj l).length=64:=by simp[dj];omega
theorem f4 {l:List UInt32} {i:Nat} (h:i<l.length):(dj l).getD i 0=l.getD i 0:=by
 simp[dj,List.getD,List.getElem?_append_left h]
theorem mV {l:List UInt32} (x:UInt32) (h:l.length<64):(dj l).set l.length x=dj (l++[x]):=by
 unfold dj
 rw[List.set_append_right _ _ (Nat.le_refl _),Nat.sub_self]
 have:64-l.length=(64-(l++[x]).length)+1:=by simp;omega
 rw[this,List.replicate_succ,List.set_cons_zero,List.append_assoc]
 rfl
theorem vj (b:List UInt8) (k:Nat):jf b (k+1)=jf b k++[rf b k]:=by simp[jf,List.range_succ]
theorem jO (b:List UInt8) (k:Nat):(jf b k).length=k:=by simp[jf]
def ji (s v:List UInt32) (i:Nat):List UInt32:=List.zipWith (· + ·) (s.take i) (v.take i)++s.drop i
theorem Ez {s v:List UInt32} (hs:s.length=8) (hv:v.length=8) {i:Nat} (hi:i≤8):(ji s v i).length=8:=by
 simp[ji,hs,hv];omega
theorem xw {s v:List UInt32} (hs:s.length=8) (hv:v.length=8) {i:Nat} (hi:i<8):(ji s v i).getD i 0=s.getD i 0:=by
 have h:(List.zipWith (· + ·) (s.take i) (v.take i)).length=i:=by simp[hs,hv];omega
 simp only[ji,List.getD_eq_getElem?_getD]
 rw[List.getElem?_append_right (by omega),h]
 simp
theorem xx {s v:List UInt32} (hs:s.length=8) (hv:v.length=8) {i:Nat} (hi:i<8):(ji s v i).set i (s.getD i 0+v.getD i 0)=ji s v (i+1):=by
 have h:(List.zipWith (· + ·) (s.take i) (v.take i)).length=i:=by simp[hs,hv];omega
 have h1:s.getD i 0=s[i]:=by simp[List.getD,hs,hi]
 have h2:v.getD i 0=v[i]:=by simp[List.getD,hv,hi]
 unfold ji
 rw[List.set_append_right _ _ (by omega),h,Nat.sub_self,h1,h2]
 rw[List.drop_eq_getElem_cons (by omega:i<s.length),List.set_cons_zero,List.take_succ_eq_append_getElem (by omega:i<s.length),List.take_succ_eq_append_getElem (by omega:i<v.length)]
 rw[List.zipWith_append (by simp[hs,hv])]
 simp
theorem xz {s v:List UInt32} (hs:s.length=8) (hv:v.length=8):ji s v 8=List.zipWith (· + ·) s v:=by
 have h1:s.take 8=s:=List.take_of_length_le (by omega)
 have h2:v.take 8=v:=List.take_of_length_le (by omega)
 have h3:s.drop 8=[]:=List.drop_eq_nil_of_le (by omega)
 unfold ji
 rw[h1,h2,h3,List.append_nil]
end Go.Rl
namespace Go.Rl
open Go.RowKit Go.Proofs
theorem AR:aJ Tryz.prog 86:=⟨_,Tryz.func86,by kernel_rfl,rfl⟩
theorem BV {P:Program} {w:World} {t:TypeId} {v:Value} {l:List Value} (hv:v.cells=l.toArray):∃g w',(Instr.box t v).run P w=.ok (.pointer (some ⟨g,0,none⟩)) w'∧w.heap.size≤g∧aH w w'∧bQ g t l w':=
 ⟨_,_,wI,Nat.le_refl _,aH.new w _,bQ.new v hv⟩
theorem cK.reads {b:List UInt8} {v:Value} {w:World} (h:cK b v w):∃ad:Nat→Addr,∀i,i<b.length→
 (∀w':World,(Instr.indexAt 22 v (I (i:Int))).run Tryz.prog w'=.ok (.pointer (some (ad i))) w')∧∀w',aH w w'→(Instr.loadAt 5 (.pointer (some (ad i)))).run Tryz.prog w'=.ok (U8 (b.getD i 0)) w':=by
 have hall:∀i:Nat,∃ad:Addr,i<b.length→(∀w':World,(Instr.indexAt 22 v (I (i:Int))).run Tryz.prog w'=.ok (.pointer (some ad)) w')∧∀w',aH w w'→(Instr.loadAt 5 (.pointer (some ad))).run Tryz.prog w'=.ok (U8 (b.getD i 0)) w':=fun i=>by
  by_cases hi:i<b.length
  ·obtain⟨ad,had,hcell⟩:=kB h hi .i64
   refine⟨ad,fun _=>⟨had,fun w' hw'=>?_⟩⟩
   obtain⟨ad',had',hcell'⟩:=kB (h.ext hw') hi .i64
   have:=(had w').symm.trans (had' w')
   simp only[Result.ok.injEq,Value.pointer.injEq,Option.some.injEq,and_true] at this
   subst this
   have e:b.getD i 0=b[i]:=by simp[List.getD,hi]
   rw[e]
   exact IY hcell'
  ·exact⟨⟨0,0,none⟩,fun h=>absurd h hi⟩
 exact⟨fun i=>Classical.choose (hall i),fun i hi=>Classical.choose_spec (hall i) hi⟩
theorem AS {w:World} {s:List UInt32} {b:List UInt8} {v:Value} (hs:s.length=8) (hbl:b.length=64) (hv:cK b v w):
 Calls Tryz.prog 86 #[.agg (s.map bE).toArray,v] w (bN fun r w'=>aH w w'∧r=.agg ((wh s b).map bE).toArray):=by
 refine enter (vs:=[.agg (s.map bE).toArray,v]) Tryz.func86 E E E ?_
 obtain⟨g2,w1,hr,n2,x1,b2⟩:=BV (P:=Tryz.prog) (w:=w) (t:=150) (v:=.agg (s.map bE).toArray) (l:=s.map bE) rfl
 refine af (aa (cw E E hr ?_))
 obtain⟨g4,w2,hr,n4,x2,b4⟩:=a9 (P:=Tryz.prog) (w:=w1) (l:=(List.replicate 8 0).map bE) Dl rfl
 refine aS E hr (ag (ab (af (aa ?_))))
 refine an (vs:=[]) tC E E (tD w2) ?_
 rintro _ w3 ⟨x3,rfl⟩
 obtain⟨g5,w4,hr,n5,x4,b5⟩:=a9 (P:=Tryz.prog) (w:=w3) (l:=List.replicate 64 (bE 0)) vc rfl
 refine aS E hr ?_
 refine ay E E (ju b5 E vg (jZ _)) ?_
 have b5':=b5.row (kc.map bE)
 have q5:=bJ w4 g5 (kc.map bE).toArray
 revert b5' q5
 generalize w4.setRow g5 (kc.map bE).toArray=w5
 intro b5' q5
 refine ag (ab (af (aa ?_)))
 obtain⟨g6,w6,hr,n6,x6,b6⟩:=a9 (P:=Tryz.prog) (w:=w5) (l:=(dj []).map bE) vc rfl
 refine aS E hr (ag (ab ?_))
 have l24:g2<g4:=Nat.lt_of_lt_of_le b2.lt n4
 have l45:g4<g5:=Nat.lt_of_lt_of_le b4.lt (Nat.le_trans x3.size n5)
 have l56:g5<g6:=Nat.lt_of_lt_of_le b5'.lt n6
 have ne4:some g4≠some g5:=fun h=>by cases h;omega
 have ne2:some g2≠some g5:=fun h=>by cases h;omega
 have B2:bQ g2 _ _ w6:=((((b2.ext x2).ext x3).ext x4).other q5 ne2).ext x6
 have B4:bQ g4 _ _ w6:=(((b4.ext x3).ext x4).other q5 ne4).ext x6
 have B5:bQ g5 _ _ w6:=b5'.ext x6
 have E6:aH w w6:=((((x1.trans x2).trans x3).trans x4).of_new q5 (by omega)).trans x6
 have hw6:w.heap.size≤g6:=by omega
 obtain⟨ad,had⟩:=hv.reads
 refine af (ew (fun _:Unit=>[(2,.pointer (some ⟨g2,0,none⟩)),(4,.pointer (some ⟨g4,0,none⟩)),(5,.pointer (some ⟨g5,0,none⟩)),(6,.pointer (some ⟨g6,0,none⟩))]) (fun _ w'=>w6.grownBy w' (some g6)∧bQ g6 200 ((dj (bH b 0)).map bE) w') ?_ ?_)
 ·refine af (aa (ac E E (ag (ab (aG ?_)))))
  refine ck (α:=Nat) (fun k=>[(1,v),(2,.pointer (some ⟨g2,0,none⟩)),(4,.pointer (some ⟨g4,0,none⟩)),(5,.pointer (some ⟨g5,0,none⟩)),(6,.pointer (some ⟨g6,0,none⟩)),(7,I (k:Int))])
   (fun k w'=>w6.grownBy w' (some g6)∧bQ g6 200 ((dj (jf b k)).map bE) w'∧k≤16) (fun k=>16-k) 0 ⟨rfl,rfl,rfl,rfl,rfl,rfl,trivial⟩
   ⟨dZ (aH.refl _),b6,by omega⟩ ?_
  rintro k w7 ⟨q7,b7,hk⟩
  refine af (af (aa (ae E E ?_)))
  refine al E E E (a6) ?_
  refine ag (ab ?_)
  refine bu E (fun h=>?_) (fun h=>?_)
  ·have hk16:k<16:=by omega
   have E7:aH w w7:=E6.of_new q7 hw6
   refine aC (ab (af (aG ?_)))
   have e0:(4:Int)*(k:Int)=((4*k:Nat):Int):=by omega
   have e1:((4*k:Nat):Int)+1=((4*k+1:Nat):Int):=by omega
   have e2:((4*k:Nat):Int)+2=((4*k+2:Nat):Int):=by omega
   have e3:((4*k:Nat):Int)+3=((4*k+3:Nat):Int):=by omega
   refine bP 35 [1,2,4,5,6,7,58,59] (by kernel_rfl) (by kernel_rfl) ?_
   refine ax E E (ax E E (ax E E ?_))
   refine aZ (r:=I ((4*k:Nat):Int)) E E E (fun w _=>by rw[←e0];exact fc (by omega) (by omega)) ?_
   refine aD E E E (fun w _=>(had (4*k) (by omega)).1 w) ?_
   refine aQ E E (fun w' hw=>(had (4*k) (by omega)).2 w' (E7.trans hw)) ?_
   refine dU E E (fun w _=>fz Lx Ll) ?_
   refine aZ E E E (fun w _=>eE 24 (by omega)) ?_
   refine ax E E (ax E E ?_)
   refine aZ (r:=I ((4*k:Nat):Int)) E E E (fun w _=>by rw[←e0];exact fc (by omega) (by omega)) ?_
   refine aZ (r:=I ((4*k+1:Nat):Int)) E E E (fun w _=>by rw[←e1];exact aR (by omega) (by omega)) ?_
   refine aD E E E (fun w _=>(had (4*k+1) (by omega)).1 w) ?_
   refine aQ E E (fun w' hw=>(had (4*k+1) (by omega)).2 w' (E7.trans hw)) ?_
   refine dU E E (fun w _=>fz Lx Ll) ?_
   refine aZ E E E (fun w _=>eE 16 (by omega)) ?_
   refine aZ E E E (fun w _=>fg) ?_
   refine ax E E (ax E E ?_)
   refine aZ (r:=I ((4*k:Nat):Int)) E E E (fun w _=>by rw[←e0];exact fc (by omega) (by omega)) ?_
   refine aZ (r:=I ((4*k+2:Nat):Int)) E E E (fun w _=>by rw[←e2];exact aR (by omega) (by omega)) ?_
   refine aD E E E (fun w _=>(had (4*k+2) (by omega)).1 w) ?_
   refine aQ E E (fun w' hw=>(had (4*k+2) (by omega)).2 w' (E7.trans hw)) ?_
   refine dU E E (fun w _=>fz Lx Ll) ?_
   refine aZ E E E (fun w _=>eE 8 (by omega)) ?_
   refine aZ E E E (fun w _=>fg) ?_
   refine ax E E (ax E E ?_)
   refine aZ (r:=I ((4*k:Nat):Int)) E E E (fun w _=>by rw[←e0];exact fc (by omega) (by omega)) ?_
   refine aZ (r:=I ((4*k+3:Nat):Int)) E E E (fun w _=>by rw[←e3];exact aR (by omega) (by omega)) ?_
   refine aD E E E (fun w _=>(had (4*k+3) (by omega)).1 w) ?_
   refine aQ E E (fun w' hw=>(had (4*k+3) (by omega)).2 w' (E7.trans hw)) ?_
   refine dU E E (fun w _=>fz Lx Ll) ?_
   refine aZ E E E (fun w _=>fg) ?_
   refine aD E E E (fun w _=>gV k (by omega)) ?_
   refine cn ?_
   intro w8 hx8
   rintro _ rfl _ rfl _ rfl _ rfl _ rfl _ rfl _ rfl _ rfl
   have hlen:(dj (jf b k)).length=64:=mU (by rw[jO];omega)
   refine ay E E (AQ (x:=rf b k) (b7.ext hx8) k (by omega)) ?_
   have b8:=(b7.ext hx8).setU k (rf b k)
   have q8:=(q7.trans (dZ hx8)).trans (bi w8 g6 k (bE (rf b k)))
   have hset:(dj (jf b k)).set k (rf b k)=dj (jf b (k+1)):=by
    have:=mV (l:=jf b k) (rf b k) (by rw[jO];omega)
    rw[jO] at this
    rw[this,vj]
   rw[hset] at b8
   refine ag (aW (ab (aa (ae E E ?_))))
   refine al E E E (aR (by omega) (by omega)) ?_
   refine ac E E (ag ?_)
   exact bS (k+1) ⟨rfl,rfl,rfl,rfl,rfl,rfl,trivial⟩ ⟨q8,b8,by omega⟩ (by omega)
  ·have hk':k=16:=by omega
   subst hk'
   exact bc (aK (aK (bf (cf () ⟨rfl,rfl,rfl,rfl,trivial⟩ ⟨q7,b7⟩))))
 rintro _ w7 ⟨q7,b7⟩
 refine ab ?_
 refine af (ew (fun _:Unit=>[(2,.pointer (some ⟨g2,0,none⟩)),(4,.pointer (some ⟨g4,0,none⟩)),(5,.pointer (some ⟨g5,0,none⟩)),(6,.pointer (some ⟨g6,0,none⟩))]) (fun _ w'=>w6.grownBy w' (some g6)∧bQ g6 200 ((bH b 48).map bE) w') ?_ ?_)
 ·refine af (aa (ac E E (ag (ab (aG ?_)))))
  refine ck (α:=Nat) (fun k=>[(2,.pointer (some ⟨g2,0,none⟩)),(4,.pointer (some ⟨g4,0,none⟩)),(5,.pointer (some ⟨g5,0,none⟩)),(6,.pointer (some ⟨g6,0,none⟩)),(8,I ((16+k:Nat):Int))])
   (fun k w'=>w6.grownBy w' (some g6)∧bQ g6 200 ((dj (bH b k)).map bE) w'∧k≤48) (fun k=>48-k) 0 ⟨rfl,rfl,rfl,rfl,rfl,trivial⟩
   ⟨q7,b7,by omega⟩ ?_
  clear q7 b7
  rintro k w7 ⟨q7,b7,hk⟩
  have hL:=lJ b k
  refine af (af (aa (ae E E ?_)))
  refine al E E E (a6) ?_
  refine ag (ab ?_)
  refine bu E (fun h=>?_) (fun h=>?_)
  ·have hk48:k<48:=by omega
   refine aC (ab (af (aG (af ?_))))
   have e15:((16+k:Nat):Int)-15=(((bH b k).length-15:Nat):Int):=by omega
   have e2:((16+k:Nat):Int)-2=(((bH b k).length-2:Nat):Int):=by omega
   have e16:((16+k:Nat):Int)-16=(((bH b k).length-16:Nat):Int):=by omega
   have e7:((16+k:Nat):Int)-7=(((bH b k).length-7:Nat):Int):=by omega
   have f15:=f4 (l:=bH b k) (i:=(bH b k).length-15) (by omega)
   have f2:=f4 (l:=bH b k) (i:=(bH b k).length-2) (by omega)
   have f16:=f4 (l:=bH b k) (i:=(bH b k).length-16) (by omega)
   have f7:=f4 (l:=bH b k) (i:=(bH b k).length-7) (by omega)
   have hlen:(dj (bH b k)).length=64:=mU (by omega)
   refine bP 9 [2,4,5,6,8,9,71] (by kernel_rfl) (by kernel_rfl) ?_
   refine ax E E ?_
   refine aZ (r:=I (((bH b k).length-15:Nat):Int)) E E E (fun w _=>by rw[←e15];exact bD (by omega) (by omega)) ?_
   refine aD E E E (fun w _=>gV _ (by omega)) ?_
   refine aQ (r:=bE ((bH b k).getD ((bH b k).length-15) 0)) E E (fun w' hw=>by rw[←f15];exact da (b7.ext hw) _ (by omega)) ?_
   refine ax E E ?_
   refine aZ (r:=I (((bH b k).length-2:Nat):Int)) E E E (fun w _=>by rw[←e2];exact bD (by omega) (by omega)) ?_
   refine aD E E E (fun w _=>gV _ (by omega)) ?_
   refine aQ (r:=bE ((bH b k).getD ((bH b k).length-2) 0)) E E (fun w' hw=>by rw[←f2];exact da (b7.ext hw) _ (by omega)) ?_
   refine fS E E (cn ?_)
   intro w8 hx8
   rintro _ rfl _ rfl _ rfl _ rfl _ rfl _ rfl _ rfl
   refine ac E E (ag (ab (af (aa (ae E E ?_)))))
   refine an d9 E E (eh 7 (by omega) (by omega)) ?_
   rintro _ w9 ⟨hx9,rfl⟩
   refine ae E E ?_
   refine an d9 E E (eh 18 (by omega) (by omega)) ?_
   rintro _ w10 ⟨hx10,rfl⟩
   refine al E E E (cJ) ?_
   refine ae E E ?_
   refine al E E E (cO 3 (by omega)) ?_
   refine al E E E (cJ) ?_
   refine ac E E (ag (ab (af (aa (ae E E ?_)))))
   refine an d9 E E (eh 17 (by omega) (by omega)) ?_
   rintro _ w11 ⟨hx11,rfl⟩
   refine ae E E ?_
   refine an d9 E E (eh 19 (by omega) (by omega)) ?_
   rintro _ w12 ⟨hx12,rfl⟩
   refine al E E E (cJ) ?_
   refine ae E E ?_
   refine al E E E (cO 10 (by omega)) ?_
   refine al E E E (cJ) ?_
   refine ac E E (ag (ab ?_))
   have x12:=(((hx8.trans hx9).trans hx10).trans hx11).trans hx12
   have b12:=b7.ext x12
   refine bP 15 [2,4,5,6,8,101,102] (by kernel_rfl) (by kernel_rfl) ?_
   refine ax E E (ax E E ?_)
   refine aZ (r:=I (((bH b k).length-16:Nat):Int)) E E E (fun w _=>by rw[←e16];exact bD (by omega) (by omega)) ?_
   refine aD E E E (fun w _=>gV _ (by omega)) ?_
   refine aQ (r:=bE ((bH b k).getD ((bH b k).length-16) 0)) E E (fun w' hw=>by rw[←f16];exact da (b12.ext hw) _ (by omega)) ?_
   refine ax E E ?_
   refine aZ E E E (fun w _=>cG) ?_
   refine ax E E ?_
   refine aZ (r:=I (((bH b k).length-7:Nat):Int)) E E E (fun w _=>by rw[←e7];exact bD (by omega) (by omega)) ?_
   refine aD E E E (fun w _=>gV _ (by omega)) ?_
   refine aQ (r:=bE ((bH b k).getD ((bH b k).length-7) 0)) E E (fun w' hw=>by rw[←f7];exact da (b12.ext hw) _ (by omega)) ?_
   refine aZ E E E (fun w _=>cG) ?_
   refine ax E E ?_
   refine aZ E E E (fun w _=>cG) ?_
   refine aD E E E (fun w _=>gV (16+k) (by omega)) ?_
   refine cn ?_
   intro w13 hx13
   rintro _ rfl _ rfl _ rfl _ rfl _ rfl _ rfl _ rfl
   refine ay E E (AQ (x:=oe (bH b k)) (b12.ext hx13) (16+k) (by omega)) ?_
   have b13:=(b12.ext hx13).setU (16+k) (oe (bH b k))
   have q13:=((q7.trans (dZ x12)).trans (dZ hx13)).trans (bi w13 g6 (16+k) (bE (oe (bH b k))))
   have hset:(dj (bH b k)).set (16+k) (oe (bH b k))=dj (bH b (k+1)):=by
    have:=mV (l:=bH b k) (oe (bH b k)) (by omega)
    rw[hL] at this
    exact this
   rw[hset] at b13
   refine ag (aW (ab (aa (ae E E ?_))))
   refine al E E E (aR (by omega) (by omega)) ?_
   refine ac E E (ag ?_)
   exact bS (k+1) ⟨rfl,rfl,rfl,rfl,rfl,trivial⟩ ⟨q13,b13,by omega⟩ (by omega)
  ·have hk':k=48:=by omega
   subst hk'
   have hf:dj (bH b 48)=bH b 48:=by
    unfold dj
    rw[hL]
    exact List.append_nil _
   rw[hf] at b7
   exact bc (aK (aK (bf (cf () ⟨rfl,rfl,rfl,rfl,trivial⟩ ⟨q7,b7⟩))))
 clear q7 b7
 rintro _ w7 ⟨q7,b7⟩
 refine ab ?_
 have E7:aH w w7:=E6.of_new q7 hw6
 have ne26:some g2≠some g6:=fun h=>by cases h;omega
 have ne46:some g4≠some g6:=fun h=>by cases h;omega
 have ne56:some g5≠some g6:=fun h=>by cases h;omega
 have C2:=B2.other q7 ne26
 have C4:=B4.other q7 ne46
 have C5:=B5.other q7 ne56
 have hlen8:(Tryz.prog.info? 150).map (·.size)=some (s.map bE).length:=by rw[List.length_map,hs];exact oo
 refine af (aa ?_)
 refine aj E E (nV (m:=s.map bE) C2 (fun j v h=>by rwa [Nat.zero_add]) LN E hlen8) ?_
 obtain⟨g13,w8,hr,n13,x8,b13⟩:=a9 (P:=Tryz.prog) (w:=w7) (l:=(List.replicate 8 0).map bE) Dl rfl
 refine aS E hr ?_
 refine ay E E (ju b13 (by simp[hs]) hlen8 (jZ _)) ?_
 have b13':=b13.row (s.map bE)
 have q13:=bJ w8 g13 (s.map bE).toArray
 have l13:g6<g13:=Nat.lt_of_lt_of_le b7.lt n13
 have ne213:some g2≠some g13:=fun h=>by cases h;omega
 have ne413:some g4≠some g13:=fun h=>by cases h;omega
 have ne513:some g5≠some g13:=fun h=>by cases h;omega
 have ne613:some g6≠some g13:=fun h=>by cases h;omega
 have D2:=(C2.ext x8).other q13 ne213
 have D4:=(C4.ext x8).other q13 ne413
 have D5:=(C5.ext x8).other q13 ne513
 have D6:=(b7.ext x8).other q13 ne613
 have E8:aH w (w8.setRow g13 (s.map bE).toArray):=(E7.trans x8).of_new q13 (by omega)
 revert b13' D2 D4 D5 D6 E8
 generalize w8.setRow g13 (s.map bE).toArray=w9
 intro b13' D2 D4 D5 D6 E9
 refine ag (ab ?_)
 refine af (ew (fun _:Unit=>[(2,.pointer (some ⟨g2,0,none⟩)),(4,.pointer (some ⟨g4,0,none⟩)),(13,.pointer (some ⟨g13,0,none⟩))]) (fun _ w'=>w9.grownBy w' (some g13)∧bQ g13 150 ((dN b s 64).map bE) w') ?_ ?_)
 ·refine af (aa (ac E E (ag (ab (aG ?_)))))
  refine ck (α:=Nat) (fun i=>[(2,.pointer (some ⟨g2,0,none⟩)),(4,.pointer (some ⟨g4,0,none⟩)),(5,.pointer (some ⟨g5,0,none⟩)),(6,.pointer (some ⟨g6,0,none⟩)),(13,.pointer (some ⟨g13,0,none⟩)),(14,I (i:Int))])
   (fun i w'=>w9.grownBy w' (some g13)∧bQ g13 150 ((dN b s i).map bE) w'∧i≤64) (fun i=>64-i) 0 ⟨rfl,rfl,rfl,rfl,rfl,rfl,trivial⟩
   ⟨dZ (aH.refl _),b13',by omega⟩ ?_
  rintro i w10 ⟨q10,b10,hi⟩
  have hv8:=gT b s hs i
  refine af (af (aa (ae E E ?_)))
  refine al E E E (a6) ?_
  refine ag (ab ?_)
  refine bu E (fun h=>?_) (fun h=>?_)
  ·have hi64:i<64:=by omega
   refine aC (ab (af (aG (af ?_))))
   have V:=b10
   have K5:=D5.other q10 ne513
   have K6:=D6.other q10 ne613
   have hkc:kc.length=64:=rfl
   have hsl:(bH b 48).length=64:=lJ b 48
   refine bP 5 [2,4,5,6,13,14,15,111] (by kernel_rfl) (by kernel_rfl) ?_
   refine aD E E E (fun w _=>dE 0 (by omega)) ?_
   refine aQ E E (fun w' hw=>da (V.ext hw) 0 (by omega)) ?_
   refine aD E E E (fun w _=>dE 4 (by omega)) ?_
   refine aQ E E (fun w' hw=>da (V.ext hw) 4 (by omega)) ?_
   refine fS E E (cn ?_)
   intro w11 hx11
   rintro _ rfl _ rfl _ rfl _ rfl _ rfl _ rfl _ rfl _ rfl
   refine ac E E (ag (ab (af ?_)))
   replace V:=V.ext hx11
   replace K5:=K5.ext hx11
   replace K6:=K6.ext hx11
   refine bP 30 [2,4,5,6,13,14,15,16,141] (by kernel_rfl) (by kernel_rfl) ?_
   refine aD E E E (fun w _=>dE 7 (by omega)) ?_
   refine aQ E E (fun w' hw=>da (V.ext hw) 7 (by omega)) ?_
   refine ax E E ?_
   refine ce (S:=Is (bE (iE _ 6))) d9 (bO.is _) E (fun w' _=>by
    rintro _ rfl _ rfl
    exact bN.mono (eh 6 (by omega) (by omega)) fun v w'' h=>⟨h.1,h.2⟩) ?_
   refine ax E E ?_
   refine ce (S:=Is (bE (iE _ 11))) d9 (bO.is _) E (fun w' _=>by
    rintro _ rfl _ rfl
    exact bN.mono (eh 11 (by omega) (by omega)) fun v w'' h=>⟨h.1,h.2⟩) ?_
   refine aZ E E E (fun w _=>cJ) ?_
   refine ax E E ?_
   refine ce (S:=Is (bE (iE _ 25))) d9 (bO.is _) E (fun w' _=>by
    rintro _ rfl _ rfl
    exact bN.mono (eh 25 (by omega) (by omega)) fun v w'' h=>⟨h.1,h.2⟩) ?_
   refine aZ E E E (fun w _=>cJ) ?_
   refine aZ E E E (fun w _=>cG) ?_
   refine ax E E ?_
   refine aD E E E (fun w _=>dE 5 (by omega)) ?_
   refine aQ E E (fun w' hw=>da (V.ext hw) 5 (by omega)) ?_
   refine aZ E E E (fun w _=>ff) ?_
   refine ax E E ?_
   refine zV E E (fun w _=>td) ?_
   refine aD E E E (fun w _=>dE 6 (by omega)) ?_
   refine aQ E E (fun w' hw=>da (V.ext hw) 6 (by omega)) ?_
   refine aZ E E E (fun w _=>ff) ?_
   refine aZ E E E (fun w _=>cJ) ?_
   refine aZ E E E (fun w _=>cG) ?_
   refine ax E E ?_
   refine aD E E E (fun w _=>gV i (by omega)) ?_
   refine aQ E E (fun w' hw=>da (K5.ext hw) i (by omega)) ?_
   refine aZ E E E (fun w _=>cG) ?_
   refine ax E E ?_
   refine aD E E E (fun w _=>gV i (by omega)) ?_
   refine aQ E E (fun w' hw=>da (K6.ext hw) i (by omega)) ?_
   refine aZ E E E (fun w _=>cG) ?_
   refine cn ?_
   intro w12 hx12
   rintro _ rfl _ rfl _ rfl _ rfl _ rfl _ rfl _ rfl _ rfl _ rfl
   refine ac E E (ag (ab (af ?_)))
   replace V:=V.ext hx12
   refine bP 24 [2,4,5,6,13,14,15,16,17,165] (by kernel_rfl) (by kernel_rfl) ?_
   refine ax E E ?_
   refine ce (S:=Is (bE (iE _ 2))) d9 (bO.is _) E (fun w' _=>by
    rintro _ rfl _ rfl
    exact bN.mono (eh 2 (by omega) (by omega)) fun v w'' h=>⟨h.1,h.2⟩) ?_
   refine ax E E ?_
   refine ce (S:=Is (bE (iE _ 13))) d9 (bO.is _) E (fun w' _=>by
    rintro _ rfl _ rfl
    exact bN.mono (eh 13 (by omega) (by omega)) fun v w'' h=>⟨h.1,h.2⟩) ?_
   refine aZ E E E (fun w _=>cJ) ?_
   refine ax E E ?_
   refine ce (S:=Is (bE (iE _ 22))) d9 (bO.is _) E (fun w' _=>by
    rintro _ rfl _ rfl
    exact bN.mono (eh 22 (by omega) (by omega)) fun v w'' h=>⟨h.1,h.2⟩) ?_
   refine aZ E E E (fun w _=>cJ) ?_
   refine ax E E ?_
   refine aD E E E (fun w _=>dE 1 (by omega)) ?_
   refine aQ E E (fun w' hw=>da (V.ext hw) 1 (by omega)) ?_
   refine aZ E E E (fun w _=>ff) ?_
   refine ax E E ?_
   refine aD E E E (fun w _=>dE 2 (by omega)) ?_
   refine aQ E E (fun w' hw=>da (V.ext hw) 2 (by omega)) ?_
   refine aZ E E E (fun w _=>ff) ?_
   refine aZ E E E (fun w _=>cJ) ?_
   refine aD E E E (fun w _=>dE 1 (by omega)) ?_
   refine aQ E E (fun w' hw=>da (V.ext hw) 1 (by omega)) ?_
   refine aD E E E (fun w _=>dE 2 (by omega)) ?_
   refine aQ E E (fun w' hw=>da (V.ext hw) 2 (by omega)) ?_
   refine aZ E E E (fun w _=>ff) ?_
   refine aZ E E E (fun w _=>cJ) ?_
   refine aZ E E E (fun w _=>cG) ?_
   refine cn ?_
   intro w13 hx13
   rintro _ rfl _ rfl _ rfl _ rfl _ rfl _ rfl _ rfl _ rfl _ rfl _ rfl
   refine ac E E (ag (ab (aa (ae E E (ae E E ?_)))))
   replace V:=V.ext hx13
   refine al E E E (cG) ?_
   refine ae E E ?_
   refine ar E E E (dE 1 (by omega)) ?_
   refine aj E E (da V 1 (by omega)) ?_
   refine ar E E E (dE 2 (by omega)) ?_
   refine aj E E (da V 2 (by omega)) ?_
   refine ar E E E (dE 3 (by omega)) ?_
   refine aj E E (da V 3 (by omega)) ?_
   refine ae E E ?_
   refine al E E E (cG) ?_
   refine ae E E ?_
   refine ar E E E (dE 5 (by omega)) ?_
   refine aj E E (da V 5 (by omega)) ?_
   refine ar E E E (dE 6 (by omega)) ?_
   refine aj E E (da V 6 (by omega)) ?_
   refine bC E E (run_build _ _ _ ((dN b s (i+1)).map bE).toArray (by kernel_rfl)) ?_
   have hn8:=gT b s hs (i+1)
   refine ay E E (ju V (by simp[hv8,hn8]) (by rw[List.length_map,hn8];exact oo) (jZ _)) ?_
   have V':=V.row ((dN b s (i+1)).map bE)
   have q14:=(q10.trans (dZ ((hx11.trans hx12).trans hx13))).trans (bJ w13 g13 ((dN b s (i+1)).map bE).toArray)
   refine ag (aW (ab (aa (ae E E ?_))))
   refine al E E E (aR (by omega) (by omega)) ?_
   refine ac E E (ag ?_)
   exact bS (i+1) ⟨rfl,rfl,rfl,rfl,rfl,rfl,trivial⟩ ⟨q14,V',by omega⟩ (by omega)
  ·have hi':i=64:=by omega
   subst hi'
   exact bc (aK (aK (bf (cf () ⟨rfl,rfl,rfl,trivial⟩ ⟨q10,b10⟩))))
 rintro _ w10 ⟨q10,b10⟩
 refine ab ?_
 have hv8:=gT b s hs 64
 have F2:=D2.other q10 ne213
 have F4:=D4.other q10 ne413
 have E10:aH w w10:=E9.of_new q10 (by omega)
 have ha0:ji s (dN b s 64) 0=s:=by simp[ji]
 refine af (ew (fun _:Unit=>[(2,.pointer (some ⟨g2,0,none⟩)),(4,.pointer (some ⟨g4,0,none⟩))]) (fun _ w'=>w10.grownBy w' (some g2)∧bQ g2 150 ((ji s (dN b s 64) 8).map bE) w') ?_ ?_)
 ·refine af (aa (ac E E (ag (ab (aG ?_)))))
  refine ck (α:=Nat) (fun i=>[(2,.pointer (some ⟨g2,0,none⟩)),(4,.pointer (some ⟨g4,0,none⟩)),(13,.pointer (some ⟨g13,0,none⟩)),(19,I (i:Int))])
   (fun i w'=>w10.grownBy w' (some g2)∧bQ g2 150 ((ji s (dN b s 64) i).map bE) w'∧i≤8) (fun i=>8-i) 0 ⟨rfl,rfl,rfl,rfl,trivial⟩
   ⟨dZ (aH.refl _),by rw[ha0];exact F2,by omega⟩ ?_
  rintro i w11 ⟨q11,b11,hi⟩
  refine af (af (aa (ae E E ?_)))
  refine al E E E (a6) ?_
  refine ag (ab ?_)
  refine bu E (fun h=>?_) (fun h=>?_)
  ·have hi8:i<8:=by omega
   have hal:=Ez hs hv8 hi
   have hag:=xw hs hv8 hi8
   have K13:=b10.other q11 (fun h=>by cases h;omega)
   refine aC (ab (af (aG ?_)))
   refine bP 8 [2,4,13,19,194,195] (by kernel_rfl) (by kernel_rfl) ?_
   refine ax E E ?_
   refine aD E E E (fun w _=>dE i (by omega)) ?_
   refine aQ (r:=bE (s.getD i 0)) E E (fun w' hw=>by rw[←hag];exact da (b11.ext hw) i (by omega)) ?_
   refine ax E E ?_
   refine aD E E E (fun w _=>dE i (by omega)) ?_
   refine aQ E E (fun w' hw=>da (K13.ext hw) i (by omega)) ?_
   refine aZ E E E (fun w _=>cG) ?_
   refine aD E E E (fun w _=>dE i (by omega)) ?_
   refine cn ?_
   intro w12 hx12
   rintro _ rfl _ rfl _ rfl _ rfl _ rfl _ rfl
   refine ay E E (AQ (b11.ext hx12) i (by omega)) ?_
   have b12:=(b11.ext hx12).setU i (s.getD i 0+(dN b s 64).getD i 0)
   rw[xx hs hv8 hi8] at b12
   have q12:=(q11.trans (dZ hx12)).trans (bi w12 g2 i (bE (s.getD i 0+(dN b s 64).getD i 0)))
   refine ag (aW (ab (aa (ae E E ?_))))
   refine al E E E (aR (by omega) (by omega)) ?_
   refine ac E E (ag ?_)
   exact bS (i+1) ⟨rfl,rfl,rfl,rfl,trivial⟩ ⟨q12,b12,by omega⟩ (by omega)
  ·have hi':i=8:=by omega
   subst hi'
   exact bc (aK (aK (bf (cf () ⟨rfl,rfl,trivial⟩ ⟨q11,b11⟩))))
 rintro _ w11 ⟨q11,b11⟩
 rw[xz hs hv8] at b11
 have hc8:=AF s b hs
 have hlen8':(Tryz.prog.info? 150).map (·.size)=some ((wh s b).map bE).length:=by rw[List.length_map,hc8];exact oo
 have G4:=F4.other q11 (fun h=>by cases h;omega)
 refine ab (af (aa ?_))
 refine aj E E (nV (m:=(wh s b).map bE) b11 (fun j v h=>by rw[Nat.zero_add];exact h) LN E hlen8') ?_
 refine ay E E (ju G4 (by simp[hc8]) hlen8' (jZ _)) ?_
 refine ag (ab (aw ?_))
 refine cM E E (G4.row _) LN E hlen8' ?_
 exact⟨_,rfl,(E10.of_new q11 (by omega)).of_new (bJ _ _ _) (by omega),rfl⟩
end Go.Rl
namespace Go.Rl
open Go.RowKit Go.Proofs
theorem li:(Tryz.prog.info? 24).map (·.zero)=some (some (.agg (List.replicate 32 (U8 0)).toArray)):=by kernel_rfl
theorem mW:(Tryz.prog.info? 24).map (·.size)=some 32:=by kernel_rfl
section
variable {w:World} {g o:Nat} {T:TypeId}
theorem vm (i:Nat) (hi:i<32):(Instr.indexAt 24 (.pointer (some ⟨g,0,none⟩)) (I (i:Int))).run Tryz.prog w=.ok (.pointer (some ⟨g,i,none⟩)) w:=by
 have:=iz (P:=Tryz.prog) (w:=w) (g:=g) (o:=0) LH fe hi .i64
 rwa [Nat.zero_add] at this
theorem xB {m:List UInt8} {x:UInt8} (h:bQ g T (m.map U8) w) (i:Nat) (hi:i<m.length):(Instr.storeAt 5 (.pointer (some ⟨g,i,none⟩)) (U8 x)).run Tryz.prog w=.ok () (w.setCell ⟨g,i,none⟩ (U8 x)):=
 el fe rfl h (by simpa using hi)
theorem bQ.setB {m:List UInt8} (h:bQ g T (m.map U8) w) (i:Nat) (x:UInt8):bQ g T ((m.set i x).map U8) (w.setCell ⟨g,i,none⟩ (U8 x)):=by
 have:=h.set i (U8 x)
 rwa [←List.map_set] at this
end
theorem rt (m:List UInt8):∀v∈m.map U8,v.oneCell'=true:=by
 intro u hu
 obtain⟨b,_,rfl⟩:=List.mem_map.1 hu
 rfl
def fm (d:List UInt8) (n j:Nat):List UInt8:=d.take j++List.replicate (n-j) 0
theorem jP {d:List UInt8} {n j:Nat} (hd:d.length=n) (hj:j≤n):(fm d n j).length=n:=by simp[fm,hd];omega
theorem jQ {d:List UInt8} {n j:Nat} (hd:d.length=n) (hj:j<n):(fm d n j).set j (d.getD j 0)=fm d n (j+1):=by
 have h:(d.take j).length=j:=by simp[hd];omega
 have h1:d.getD j 0=d[j]:=by simp[List.getD,hd,hj]
 unfold fm
 rw[List.set_append_right _ _ (by omega),h,Nat.sub_self,h1,List.take_succ_eq_append_getElem (by omega:j<d.length)]
 have:n-j=(n-(j+1))+1:=by omega
 rw[this,List.replicate_succ,List.set_cons_zero,List.append_assoc]
 rfl
theorem su {d:List UInt8} {n:Nat} (hd:d.length=n):fm d n n=d:=by
 simp[fm,←hd]
theorem AT (s:List UInt32):(s.flatMap vW).length=4*s.length:=by
 induction s with
 |nil=>rfl
 |cons x s ih=>
  have:(x::s).flatMap vW=vW x++s.flatMap vW:=by simp
  rw[this,List.length_append,ih]
  simp[vW];omega
theorem lP:∀(s:List UInt32) (i k:Nat),i<s.length→k<4→(s.flatMap vW).getD (4*i+k) 0=(s.getD i 0>>>UInt32.ofNat (24-8*k)).toUInt8
 |[],_,_,h,_=>by simp at h
 |x::s,0,k,_,hk=>by
  have e:(x::s).flatMap vW=vW x++s.flatMap vW:=by simp
  rw[e]
  match k,hk with
  |0,_=>rfl
  |1,_=>rfl
  |2,_=>rfl
  |3,_=>
   show x.toUInt8=(x>>>UInt32.ofNat 0).toUInt8
   rw[show UInt32.ofNat 0=0 from rfl,UInt32.shiftRight_zero]
 |x::s,i+1,k,h,hk=>by
  have e:(x::s).flatMap vW=vW x++s.flatMap vW:=by simp
  rw[e]
  have h4:(vW x).length=4:=rfl
  have:=lP s i k (by simpa using h) hk
  rw[List.getD_eq_getElem?_getD,List.getElem?_append_right (by omega),h4,show 4*(i+1)+k-4=4*i+k by omega,←List.getD_eq_getElem?_getD,this]
  rfl
theorem dx (m:List UInt8):(jD m).length=32:=by
 unfold jD
 rw[AT,Gn]
theorem y8 (n:UInt64):(AG n).length=8:=by simp[AG]
theorem GK (n:UInt64) {j:Nat} (hj:j<8):(AG n).take (j+1)=(AG n).take j++[(n>>>UInt64.ofNat (56-8*j)).toUInt8]:=by
 rw[List.take_succ_eq_append_getElem (by rw[y8];exact hj)]
 simp[AG]
theorem GL (M:List UInt8) (k:Nat):xo M (k+1)=wh (xo M k) ((M.take (64*k+64)).drop (64*k)):=by
 rw[xo,List.drop_take,Nat.add_sub_cancel_left]
end Go.Rl
namespace Go.Rl
open Go.RowKit Go.Proofs
theorem EA:aJ Tryz.prog 38:=⟨_,Tryz.func38,by kernel_rfl,rfl⟩
theorem EB {w:World} {l:List UInt8} {v:Value} (hv:cK l v w) (hl:l.length≤1099511627776):
 Calls Tryz.prog 38 #[v] w (bN fun r w'=>aH w w'∧r=.agg ((jD l).map U8).toArray):=by
 refine enter (vs:=[v]) Tryz.func38 E E E ?_
 obtain⟨g2,w1,hr,n2,x1,b2⟩:=a9 (P:=Tryz.prog) (w:=w) (l:=(List.replicate 32 0).map U8) li rfl
 refine af (aa (aS E hr (ag (ab (af (aa ?_))))))
 obtain⟨r3,w3,hr,x3,o3,_⟩:=dS (w:=w1) w1.heap.size [] (by simp) (Nat.le_refl _)
 refine aF (vs:=[]) E E hr ?_
 refine ae E E ?_
 have e3:=x1.trans x3
 obtain⟨r4,w4,hr,o4,g4⟩:=di (ty:=22) o3 (hv.ext e3) (by simp only[List.length_nil];omega) x3.size
 have x4:=x3.of_grew g4 o3.ge
 refine aT E E hr ?_
 obtain⟨r5,w5,hr,x5,o5,_⟩:=dS (w:=w4) w4.heap.size [128] (by simp) (Nat.le_refl _)
 refine aF (vs:=[(0,U8 128)]) E E hr ?_
 obtain⟨r6,w6,hr,o6,g6⟩:=di (ty:=22) (o4.ext x5) o5.bts (by simp only[List.nil_append,List.length_cons,List.length_nil];omega) (x4.trans x5).size
 have x6:=(x4.trans x5).of_grew g6 o4.ge
 refine aT E E hr ?_
 rw[List.nil_append] at o6
 have B2:=b2.ext x6
 refine ac E E (ag (ab ?_))
 refine af (ew (fun m:Value=>[(0,v),(2,.pointer (some ⟨g2,0,none⟩)),(3,m)]) (fun m w'=>cL w1.heap.size (l++[128]++List.replicate (gU l.length) 0) m w'∧aH w1 w') ?_ ?_)
 ·refine aG ?_
  refine ck (α:=Nat×Value) (fun x=>[(0,v),(2,.pointer (some ⟨g2,0,none⟩)),(3,x.2)])
   (fun x w'=>cL w1.heap.size (l++[128]++List.replicate x.1 0) x.2 w'∧aH w1 w'∧x.1≤gU l.length) (fun x=>gU l.length-x.1) (0,r6) ⟨rfl,rfl,rfl,trivial⟩
   ⟨by simpa using o6,x6,by simp⟩ ?_
  rintro⟨k,m⟩ w7 ⟨o7,x7,hk⟩
  dsimp only at o7 x7 hk
  have hp:gU l.length<64:=by unfold gU;omega
  have hm:(l++[128]++List.replicate k 0).length=l.length+1+k:=by simp;omega
  refine af (af (aa (ae E E ?_)))
  refine aV E E (ey o7.bts) ?_
  refine al E E E (oY (by omega) (by omega)) ?_
  refine al E E E (dn) ?_
  refine ag (ab ?_)
  rw[hm]
  refine bu E (fun h=>?_) (fun h=>?_)
  ·have hlt:k<gU l.length:=by
    rcases Nat.lt_or_ge k (gU l.length) with h1|h1
    ·exact h1
    ·have:k=gU l.length:=by omega
     subst this
     exfalso
     unfold gU at h
     omega
   refine aC (ab (aG (aa (ae E E ?_))))
   obtain⟨r8,w8,hr,x8,o8,_⟩:=dS (w:=w7) w7.heap.size [0] (by simp) (Nat.le_refl _)
   refine aF (vs:=[(0,U8 0)]) E E hr ?_
   obtain⟨r9,w9,hr,o9,g9⟩:=di (ty:=22) (o7.ext x8) o8.bts (by rw[hm];simp only[List.length_cons,List.length_nil];omega) (x7.trans x8).size
   refine aT E E hr ?_
   refine ac E E (ag (aW ?_))
   refine bS (k+1,r9) ⟨rfl,rfl,rfl,trivial⟩ ⟨?_,(x7.trans x8).of_grew g9 o7.ge,hlt⟩ (by show gU l.length-(k+1)<gU l.length-k;omega)
   show cL _ (l++[128]++List.replicate (k+1) 0) r9 w9
   rw[List.replicate_succ',←List.append_assoc]
   exact o9
  ·have hk':k=gU l.length:=by
    unfold gU at hk hp⊢
    omega
   subst hk'
   exact bc (aK (aK (bf (cf m ⟨rfl,rfl,rfl,trivial⟩ ⟨o7,x7⟩))))
 rintro m7 w7 ⟨o7,x7⟩
 refine ab (af (aa (ae E E ?_)))
 refine aV E E (ey (hv.ext (x1.trans x7))) ?_
 refine bb E E (fO Lo Lp) ?_
 refine al (u:=bW 8) E E E (iJ) ?_
 rw[UInt64.mul_comm]
 refine ac E E (ag (ab ?_))
 have hp:gU l.length<64:=by unfold gU;omega
 have hb8:=y8 (UInt64.ofNat l.length*8)
 refine af (ew (fun m:Value=>[(2,.pointer (some ⟨g2,0,none⟩)),(3,m)]) (fun m w'=>cL w1.heap.size (er l) m w'∧aH w1 w') ?_ ?_)
 ·refine af (aa (ac E E (ag (ab (aG ?_)))))
  refine ck (α:=Nat×Value) (fun x=>[(2,.pointer (some ⟨g2,0,none⟩)),(3,x.2),(4,bW (UInt64.ofNat l.length*8)),(5,I (7-(x.1:Int)))])
   (fun x w'=>cL w1.heap.size (l++[128]++List.replicate (gU l.length) 0++(AG (UInt64.ofNat l.length*8)).take x.1) x.2 w'∧aH w1 w'∧x.1≤8) (fun x=>8-x.1) (0,m7) ⟨rfl,rfl,rfl,rfl,trivial⟩
   ⟨by simpa using o7,x7,by simp⟩ ?_
  rintro⟨j,m⟩ w8 ⟨o8,x8,hj⟩
  dsimp only at o8 x8 hj
  refine af (af (aa (ae E E ?_)))
  refine al E E E (gL) ?_
  refine ag (ab ?_)
  refine bu E (fun h=>?_) (fun h=>?_)
  ·have hj8:j<8:=by omega
   refine aC (ab (af (aG (aa (ae E E (ae E E (ae E E ?_)))))))
   have e8:(8:Int)*(7-(j:Int))=((56-8*j:Nat):Int):=by omega
   refine al (r:=I ((56-8*j:Nat):Int)) E E E (by rw[←e8];exact fc (by omega) (by omega)) ?_
   refine al E E E (dk (56-8*j) (by omega)) ?_
   refine bb E E (lB Lp Lx) ?_
   obtain⟨r9,w9,hr,x9,o9,_⟩:=dS (w:=w8) w8.heap.size [((UInt64.ofNat l.length*8)>>>UInt64.ofNat (56-8*j)).toUInt8] (by simp) (Nat.le_refl _)
   refine aF (vs:=[(0,U8 ((UInt64.ofNat l.length*8)>>>UInt64.ofNat (56-8*j)).toUInt8)]) E E hr ?_
   obtain⟨r10,w10,hr,o10,g10⟩:=di (ty:=22) (o8.ext x9) o9.bts (by simp only[List.length_append,List.length_cons,List.length_nil,List.length_replicate,List.length_take];omega) (x8.trans x9).size
   refine aT E E hr ?_
   refine ac E E (ag (aW (ab (aa (ae E E ?_)))))
   refine al E E E (bD (by omega) (by omega)) ?_
   refine ac E E (ag ?_)
   have e1:(7:Int)-(j:Int)-1=7-((j+1:Nat):Int):=by omega
   rw[e1]
   refine bS (j+1,r10) ⟨rfl,rfl,rfl,rfl,trivial⟩ ⟨?_,(x8.trans x9).of_grew g10 o8.ge,hj8⟩ (by show 8-(j+1)<8-j;omega)
   show cL _ (l++[128]++List.replicate (gU l.length) 0++(AG (UInt64.ofNat l.length*8)).take (j+1)) r10 w10
   rw[GK _ hj8,←List.append_assoc]
   exact o10
  ·have hj':j=8:=by omega
   subst hj'
   rw[List.take_of_length_le (by omega)] at o8
   exact bc (aK (aK (bf (cf m ⟨rfl,rfl,trivial⟩ ⟨o8,x8⟩))))
 clear o7 x7
 rintro m8 w8 ⟨o8,x8⟩
 have hM:=BN l
 have hMl:(er l).length≤1099511627776+80:=by
  simp only[er,List.length_append,List.length_cons,List.length_nil,List.length_replicate];omega
 generalize hMM:er l=M at o8 hM hMl
 refine ab (af (aa ?_))
 refine bC E E (run_build _ _ _ (iv.map bE).toArray (by kernel_rfl)) ?_
 obtain⟨g6',w9,hr,n9,x9,b9⟩:=a9 (P:=Tryz.prog) (w:=w8) (l:=(List.replicate 8 0).map bE) Dl rfl
 refine aS E hr ?_
 refine ay E E (ju b9 E oo (jZ _)) ?_
 have b9':=b9.row (iv.map bE)
 have q9:=bJ w9 g6' (iv.map bE).toArray
 have l26:g2<g6':=Nat.lt_of_lt_of_le b2.lt (Nat.le_trans x8.size n9)
 have hw6:w1.heap.size≤g6':=Nat.le_trans x8.size n9
 have E9:aH w1 (w9.setRow g6' (iv.map bE).toArray):=(x8.trans x9).of_new q9 hw6
 have ne2:some g2≠some g6':=fun h=>by cases h;omega
 have hm9:cL w1.heap.size M m8 (w9.setRow g6' (iv.map bE).toArray):=by
  obtain⟨n,h⟩:=o8.ext x9
  exact⟨n,World.ownsRow.kept h q9 (.inr fun he=>by have:=o8.lt g6' he;omega)⟩
 have C9:=((b2.ext x8).ext x9).other q9 ne2
 revert b9' E9 hm9 C9
 generalize w9.setRow g6' (iv.map bE).toArray=w10
 intro b10 E10 o10 C10
 refine ag (ab ?_)
 have l28:∀k,m8.ownBlock=some k→k<w8.heap.size:=o8.lt
 refine af (ew (fun _:Unit=>[(2,.pointer (some ⟨g2,0,none⟩)),(6,.pointer (some ⟨g6',0,none⟩))]) (fun _ w'=>w10.grownBy w' (some g6')∧bQ g6' 150 ((xo M (M.length/64)).map bE) w') ?_ ?_)
 ·refine af (aa (ac E E (ag (ab (aG ?_)))))
  refine ck (α:=Nat) (fun k=>[(2,.pointer (some ⟨g2,0,none⟩)),(3,m8),(6,.pointer (some ⟨g6',0,none⟩)),(7,I ((64*k:Nat):Int))])
   (fun k w'=>w10.grownBy w' (some g6')∧bQ g6' 150 ((xo M k).map bE) w'∧k≤M.length/64) (fun k=>M.length/64-k) 0 ⟨rfl,rfl,rfl,rfl,trivial⟩
   ⟨dZ (aH.refl _),b10,by omega⟩ ?_
  rintro k w11 ⟨q11,b11,hk⟩
  have o11:cL w1.heap.size M m8 w11:=by
   obtain⟨n,h⟩:=o10
   exact⟨n,World.ownsRow.kept h q11 (.inr fun he=>by have:=l28 g6' he;omega)⟩
  have hs8:=pe M k
  refine af (af (aa (ae E E (ae E E ?_))))
  refine aV E E (ey o11.bts) ?_
  refine al E E E (a6) ?_
  refine ag (ab ?_)
  refine bu E (fun h=>?_) (fun h=>?_)
  ·have hlt:64*k+64≤M.length:=by omega
   have e64:((64*k:Nat):Int)+64=((64*k+64:Nat):Int):=by omega
   have hbl:((M.take (64*k+64)).drop (64*k)).length=64:=by simp;omega
   obtain⟨r12,hr12,bt12⟩:=tg o11.bts (lo:=64*k) (hi:=64*k+64) (by omega) hlt .i64 .i64
   have hszk:(Tryz.prog.info? 150).map (·.size)=some ((xo M k).map bE).length:=by rw[List.length_map,hs8];exact oo
   have hszk':(Tryz.prog.info? 150).map (·.size)=some ((xo M (k+1)).map bE).length:=by rw[List.length_map,pe];exact oo
   refine aC (ab (af (aG ?_)))
   refine bP 7 [2,3,6,7,52] (by kernel_rfl) (by kernel_rfl) ?_
   refine aQ E E (fun w' hw=>nV (m:=(xo M k).map bE) (b11.ext hw) (fun j v h=>by rwa [Nat.zero_add]) LN E hszk) ?_
   refine ax E E (ax E E (ax E E ?_))
   refine aZ (r:=I ((64*k+64:Nat):Int)) E E E (fun w _=>by rw[←e64];exact aR (by omega) (by omega)) ?_
   refine kA (a:=some (I ((64*k:Nat):Int))) (b:=some (I ((64*k+64:Nat):Int))) E E E E (fun w _=>hr12 w) ?_
   refine ce (S:=Is (.agg ((xo M (k+1)).map bE).toArray)) AR (bO.is _) E (fun w' hw=>by
    rintro _ rfl _ rfl
    exact bN.mono (AS hs8 hbl (bt12.ext hw)) fun v w'' h=>⟨h.1,by rw[GL];exact h.2⟩) ?_
   refine cn ?_
   intro w12 hx12
   rintro _ rfl _ rfl _ rfl _ rfl _ rfl
   refine ay E E (ju (b11.ext hx12) (by simp[pe]) hszk' (jZ _)) ?_
   have b12:=(b11.ext hx12).row ((xo M (k+1)).map bE)
   have q12:=(q11.trans (dZ hx12)).trans (bJ w12 g6' ((xo M (k+1)).map bE).toArray)
   refine ag (aW (ab (aa (ae E E ?_))))
   refine al E E E (aR (by omega) (by omega)) ?_
   refine ac E E (ag ?_)
   exact bS (k+1) ⟨rfl,rfl,rfl,rfl,trivial⟩ ⟨q12,b12,by omega⟩ (by omega)
  ·have hk':k=M.length/64:=by omega
   subst hk'
   exact bc (aK (aK (bf (cf () ⟨rfl,rfl,trivial⟩ ⟨q11,b11⟩))))
 rintro _ w11 ⟨q11,b11⟩
 have C2:=C10.other q11 ne2
 have E11:aH w1 w11:=E10.of_new q11 hw6
 have hs8:=pe M (M.length/64)
 generalize hst:xo M (M.length/64)=st at b11 hs8
 have hD:(st.flatMap vW).length=32:=by rw[AT,hs8]
 refine ab (af (aa ?_))
 obtain⟨g8,w12,hr,n12,x12,b12⟩:=a9 (P:=Tryz.prog) (w:=w11) (l:=(fm (st.flatMap vW) 32 0).map U8) li rfl
 refine aS E hr (ag (ab ?_))
 have l68:g6'<g8:=Nat.lt_of_lt_of_le b11.lt n12
 have ne68:some g6'≠some g8:=fun h=>by cases h;omega
 have ne28:some g2≠some g8:=fun h=>by cases h;omega
 have c11:=b11.ext x12
 have D2:=C2.ext x12
 refine af (ew (fun _:Unit=>[(2,.pointer (some ⟨g2,0,none⟩)),(8,.pointer (some ⟨g8,0,none⟩))]) (fun _ w'=>w12.grownBy w' (some g8)∧bQ g8 24 ((st.flatMap vW).map U8) w') ?_ ?_)
 ·refine af (aa (ac E E (ag (ab (aG ?_)))))
  refine ck (α:=Nat) (fun i=>[(2,.pointer (some ⟨g2,0,none⟩)),(6,.pointer (some ⟨g6',0,none⟩)),(8,.pointer (some ⟨g8,0,none⟩)),(9,I (i:Int))])
   (fun i w'=>w12.grownBy w' (some g8)∧bQ g8 24 ((fm (st.flatMap vW) 32 (4*i)).map U8) w'∧i≤8) (fun i=>8-i) 0 ⟨rfl,rfl,rfl,rfl,trivial⟩
   ⟨dZ (aH.refl _),b12,by omega⟩ ?_
  rintro i w13 ⟨q13,b13,hi⟩
  refine af (af (aa (ae E E ?_)))
  refine al E E E (a6) ?_
  refine ag (ab ?_)
  refine bu E (fun h=>?_) (fun h=>?_)
  ·have hi8:i<8:=by omega
   refine aC (ab (af (aG (af (aa (ac E E (ag (ab (aG ?_)))))))))
   refine ck (α:=Nat) (fun k=>[(2,.pointer (some ⟨g2,0,none⟩)),(6,.pointer (some ⟨g6',0,none⟩)),(8,.pointer (some ⟨g8,0,none⟩)),(9,I (i:Int)),(10,I (k:Int))])
    (fun k w'=>w12.grownBy w' (some g8)∧bQ g8 24 ((fm (st.flatMap vW) 32 (4*i+k)).map U8) w'∧k≤4) (fun k=>4-k) 0 ⟨rfl,rfl,rfl,rfl,rfl,trivial⟩
    ⟨q13,b13,by omega⟩ ?_
   rintro k w14 ⟨q14,b14,hk⟩
   refine af (af (aa (ae E E ?_)))
   refine al E E E (a6) ?_
   refine ag (ab ?_)
   refine bu E (fun h=>?_) (fun h=>?_)
   ·have hk4:k<4:=by omega
    have c14:=c11.other q14 ne68
    have hfl:=jP (j:=4*i+k) hD (by omega)
    have e4:(4:Int)*(i:Int)=((4*i:Nat):Int):=by omega
    have e5:((4*i:Nat):Int)+(k:Int)=((4*i+k:Nat):Int):=by omega
    have e6:(24:Int)-8*(k:Int)=((24-8*k:Nat):Int):=by omega
    refine aC (ab (af (aG (aa (ae E E ?_)))))
    refine al (r:=I ((4*i:Nat):Int)) E E E (by rw[←e4];exact fc (by omega) (by omega)) ?_
    refine ae E E ?_
    refine al (r:=I ((4*i+k:Nat):Int)) E E E (by rw[←e5];exact aR (by omega) (by omega)) ?_
    refine ae E E ?_
    refine ar E E E (dE i (by omega)) ?_
    refine aj E E (da c14 i (by omega)) ?_
    refine ae E E ?_
    refine al E E E (fc (by omega) (by omega)) ?_
    refine al (r:=I ((24-8*k:Nat):Int)) E E E (by rw[←e6];exact bD (by omega) (by omega)) ?_
    refine al E E E (cO (24-8*k) (by omega)) ?_
    refine bb E E (dG Ll Lx) ?_
    refine ar E E E (vm (4*i+k) (by omega)) ?_
    refine ay E E (xB b14 (4*i+k) (by omega)) ?_
    have b15:=b14.setB (4*i+k) (st.getD i 0>>>UInt32.ofNat (24-8*k)).toUInt8
    have hset:(fm (st.flatMap vW) 32 (4*i+k)).set (4*i+k) (st.getD i 0>>>UInt32.ofNat (24-8*k)).toUInt8=fm (st.flatMap vW) 32 (4*i+(k+1)):=by
     rw[←lP st i k (by omega) hk4]
     exact jQ hD (by omega)
    rw[hset] at b15
    refine ag (aW (ab (aa (ae E E ?_))))
    refine al E E E (aR (by omega) (by omega)) ?_
    refine ac E E (ag ?_)
    exact bS (k+1) ⟨rfl,rfl,rfl,rfl,rfl,trivial⟩ ⟨q14.trans (bi w14 g8 _ _),b15,by omega⟩ (by omega)
   ·have hk':k=4:=by omega
    subst hk'
    refine bc (aK (aK (bf (aW (ab (aa (ae E E ?_)))))))
    refine al E E E (aR (by omega) (by omega)) ?_
    refine ac E E (ag ?_)
    exact bS (i+1) ⟨rfl,rfl,rfl,rfl,trivial⟩ ⟨q14,b14,by omega⟩ (by omega)
  ·have hi':i=8:=by omega
   subst hi'
   rw[show 4*8=32 from rfl,su hD] at b13
   exact bc (aK (aK (bf (cf () ⟨rfl,rfl,trivial⟩ ⟨q13,b13⟩))))
 rintro _ w13 ⟨q13,b13⟩
 have hdig:st.flatMap vW=jD l:=by
  unfold jD sh
  rw[hMM,hst]
 rw[hdig] at b13
 have hsz:(Tryz.prog.info? 24).map (·.size)=some ((jD l).map U8).length:=by rw[List.length_map,dx];exact mW
 have F2:=D2.other q13 ne28
 refine ab (af (aa ?_))
 refine aj E E (nV (m:=(jD l).map U8) b13 (fun j v h=>by rwa [Nat.zero_add]) LH E hsz) ?_
 refine ay E E (ju F2 (by simp[dx]) hsz (rt _)) ?_
 refine ag (ab (aw ?_))
 refine cM E E (F2.row _) LH E hsz ?_
 have E13:aH w w13:=(x1.trans (E11.trans x12)).of_new q13 (by have:=x1.size;omega)
 exact⟨_,rfl,E13.of_new (bJ _ _ _) n2,rfl⟩
end Go.Rl
namespace Go.Rl
open Go.RowKit Go.Proofs
def cZ (st:List UInt32) (blk:List UInt8) (u:Int) (tot:UInt64):List Value:=st.map bE++(blk.map U8++[I u,bW tot])
structure HC (g:Nat) (st:List UInt32) (blk:List UInt8) (u:Int) (tot:UInt64) (w:World):Prop where
 hb:bQ g 154 (cZ st blk u tot) w
 ls:st.length=8
 lb:blk.length=64
section
variable {w w':World} {g:Nat} {st:List UInt32} {blk:List UInt8} {u:Int} {tot:UInt64}
theorem gW (hs:st.length=8) (hb:blk.length=64):(cZ st blk u tot).length=74:=by simp[cZ,hs,hb]
theorem HC.ext (h:HC g st blk u tot w) (hx:aH w w'):HC g st blk u tot w':=⟨h.hb.ext hx,h.ls,h.lb⟩
theorem HC.other {row:Option Nat} (h:HC g st blk u tot w) (hg:w.grownBy w' row) (hne:some g≠row):HC g st blk u tot w':=⟨h.hb.other hg hne,h.ls,h.lb⟩
theorem HC.lt (h:HC g st blk u tot w):g<w.heap.size:=h.hb.lt
theorem HC.cellS (h:HC g st blk u tot w) {i:Nat} (hi:i<8):w.cell? ⟨g,i,none⟩=some (bE (st.getD i 0)):=
 h.hb.cell (by simp[cZ,List.getElem?_append,h.ls,hi])
theorem HC.cellU (h:HC g st blk u tot w):w.cell? ⟨g,72,none⟩=some (I u):=
 h.hb.cell (by unfold cZ;rw[List.getElem?_append_right (by simp[h.ls]),List.length_map,h.ls,List.getElem?_append_right (by simp[h.lb]),List.length_map,h.lb];rfl)
theorem HC.cellT (h:HC g st blk u tot w):w.cell? ⟨g,73,none⟩=some (bW tot):=
 h.hb.cell (by unfold cZ;rw[List.getElem?_append_right (by simp[h.ls]),List.length_map,h.ls,List.getElem?_append_right (by simp[h.lb]),List.length_map,h.lb];rfl)
theorem HC.setS (h:HC g st blk u tot w) (i:Nat) (hi:i<8) (x:UInt32):HC g (st.set i x) blk u tot (w.setCell ⟨g,i,none⟩ (bE x)):=by
 refine⟨?_,by simp[h.ls],h.lb⟩
 have:=h.hb.set i (bE x)
 unfold cZ at this
 rw[List.set_append_left _ _ (by simpa [h.ls] using hi),←List.map_set] at this
 exact this
theorem HC.setU (h:HC g st blk u tot w) (x:Int):HC g st blk x tot (w.setCell ⟨g,72,none⟩ (I x)):=by
 refine⟨?_,h.ls,h.lb⟩
 have:=h.hb.set 72 (I x)
 unfold cZ at this
 rw[List.set_append_right _ _ (by simp[h.ls]),List.length_map,h.ls,List.set_append_right _ _ (by simp[h.lb]),List.length_map,h.lb] at this
 exact this
theorem HC.setT (h:HC g st blk u tot w) (x:UInt64):HC g st blk u x (w.setCell ⟨g,73,none⟩ (bW x)):=by
 refine⟨?_,h.ls,h.lb⟩
 have:=h.hb.set 73 (bW x)
 unfold cZ at this
 rw[List.set_append_right _ _ (by simp[h.ls]),List.length_map,h.ls,List.set_append_right _ _ (by simp[h.lb]),List.length_map,h.lb] at this
 exact this
theorem AU:(Tryz.prog.info? 107).map (·.size)=some 1:=by kernel_rfl
theorem GM:(Tryz.prog.info? 152).map (·.size)=some 64:=by kernel_rfl
theorem xC:(Tryz.prog.info? 154).map (·.size)=some 74:=by kernel_rfl
theorem EC:(Tryz.prog.info? 154).map (·.zero)=some (some (.agg (cZ (List.replicate 8 0) (List.replicate 64 0) 0 0).toArray)):=by kernel_rfl
theorem H3:(Instr.fieldAt 154 (.pointer (some ⟨g,0,none⟩)) 0).run Tryz.prog w=.ok (.pointer (some ⟨g,0,none⟩)) w:=by
 have h:=ct (P:=Tryz.prog) (w:=w) (n:=0) (a:=⟨g,0,none⟩) LR rfl oo (Nat.succ_ne_zero 7)
 exact h
theorem KZ:(Instr.fieldAt 154 (.pointer (some ⟨g,0,none⟩)) 1).run Tryz.prog w=.ok (.pointer (some ⟨g,8,none⟩)) w:=by
 have h:=ct (P:=Tryz.prog) (w:=w) (n:=1) (a:=⟨g,0,none⟩) LR rfl GM (Nat.succ_ne_zero 63)
 exact h
theorem ED:(Instr.fieldAt 154 (.pointer (some ⟨g,0,none⟩)) 2).run Tryz.prog w=.ok (.pointer (some ⟨g,72,none⟩)) w:=by
 have h:=ct (P:=Tryz.prog) (w:=w) (n:=2) (a:=⟨g,0,none⟩) LR rfl qX (Nat.succ_ne_zero 0)
 exact h
theorem JQ:(Instr.fieldAt 154 (.pointer (some ⟨g,0,none⟩)) 3).run Tryz.prog w=.ok (.pointer (some ⟨g,73,none⟩)) w:=by
 have h:=ct (P:=Tryz.prog) (w:=w) (n:=3) (a:=⟨g,0,none⟩) LR rfl AU (Nat.succ_ne_zero 0)
 exact h
theorem HC.bts (h:HC g st blk u tot w) {lo:Nat} (hlo:lo<64):cK (blk.drop lo) (.slice (some ⟨g,8+lo,none⟩) (64-lo) (64-lo)) w:=by
 refine⟨_,_,_,rfl,Nat.le_refl _,by unfold maxLen;omega,by simp[h.lb],fun _=>⟨_,rfl,fun j v hj=>?_⟩,fun h=>by cases h⟩
 rw[Addr.add_mid]
 refine h.hb.cell ?_
 unfold cZ
 rw[List.getElem?_append_right (by simp[h.ls];omega),List.length_map,h.ls,show 8+lo+j-8=lo+j by omega]
 have hjl:lo+j<(blk.map U8).length:=by
  have:=(List.getElem?_eq_some_iff.1 hj).1
  simp only[List.length_map,List.length_drop] at this⊢
  omega
 rw[List.getElem?_append_left hjl]
 rw[List.map_drop,List.getElem?_drop] at hj
 exact hj
theorem Ja {lo:Nat} (hlo:lo<64):(Instr.sliceAt 152 (.pointer (some ⟨g,8,none⟩)) (some (I (lo:Int))) none none).run Tryz.prog w=.ok (.slice (some ⟨g,8+lo,none⟩) (64-lo) (64-lo)) w:=
 FE Tryz.underlying152 fe hlo .i64
theorem HC.ldS (h:HC g st blk u tot w):(Instr.loadAt 150 (.pointer (some ⟨g,0,none⟩))).run Tryz.prog w=.ok (.agg (st.map bE).toArray) w:=
 nV (m:=st.map bE) h.hb (fun j v hj=>by
  rw[Nat.zero_add]
  unfold cZ
  rw[List.getElem?_append_left (List.getElem?_eq_some_iff.1 hj).1]
  exact hj) LN rfl (by rw[List.length_map,h.ls];exact oo)
end
theorem EE (b:List UInt8) (i j:Nat):(b.drop i).getD j 0=b.getD (i+j) 0:=by simp[List.getD]
end Go.Rl
namespace Go.Rl
open Go.RowKit Go.Proofs
theorem y9:aJ Tryz.prog 87:=⟨_,Tryz.func87,by kernel_rfl,rfl⟩
theorem EF (b:List UInt8) (k:Nat):rf b k=((((b.drop (4*k)).getD 0 0).toUInt32<<<UInt32.ofNat 24|||((b.drop (4*k)).getD 1 0).toUInt32<<<UInt32.ofNat 16)|||((b.drop (4*k)).getD 2 0).toUInt32<<<UInt32.ofNat 8)|||((b.drop (4*k)).getD 3 0).toUInt32:=by
 simp only[EE,rf,Nat.add_zero]
theorem vn {m:List UInt32} {i:Nat} (h:i<m.length):(m.map bE)[i]? =some (bE (m.getD i 0)):=by simp[h]
theorem za {w:World} {g:Nat} {s:List UInt32} {b:List UInt8} {u:Int} {tot:UInt64} (hc:HC g s b u tot w):
 Calls Tryz.prog 87 #[.pointer (some ⟨g,0,none⟩)] w (bN fun _ w'=>w.grownBy w' (some g)∧HC g (wh s b) b 0 tot w'):=by
 have hs:=hc.ls
 have hbl:=hc.lb
 refine enter (vs:=[.pointer (some ⟨g,0,none⟩)]) Tryz.func87 E E E ?_
 obtain⟨g2,w1,hr,n2,x1,b2⟩:=a9 (P:=Tryz.prog) (w:=w) (l:=(dj []).map bE) vc rfl
 refine af (aa (aS E hr (ag (ab ?_))))
 have lg:=hc.lt
 have hc1:=hc.ext x1
 have neg:some g≠some g2:=fun h=>by cases h;omega
 refine af (ew (fun _:Unit=>[(0,.pointer (some ⟨g,0,none⟩)),(2,.pointer (some ⟨g2,0,none⟩))]) (fun _ w'=>w1.grownBy w' (some g2)∧bQ g2 200 ((dj (bH b 0)).map bE) w') ?_ ?_)
 ·refine af (aa (ae E E (ag (ab (aG ?_)))))
  refine ck (α:=Nat) (fun k=>[(0,.pointer (some ⟨g,0,none⟩)),(2,.pointer (some ⟨g2,0,none⟩)),(17,I (k:Int))])
   (fun k w'=>w1.grownBy w' (some g2)∧bQ g2 200 ((dj (jf b k)).map bE) w'∧k≤16) (fun k=>16-k) 0 ⟨rfl,rfl,rfl,trivial⟩
   ⟨dZ (aH.refl _),b2,by omega⟩ ?_
  rintro k w7 ⟨q7,b7,hk⟩
  refine af (aa ?_)
  refine al E E E (a6) ?_
  refine ag (ab (af ?_))
  refine bu E (fun h=>?_) (fun h=>?_)
  ·have hk16:k<16:=by omega
   have e0:(4:Int)*(k:Int)=((4*k:Nat):Int):=by omega
   refine aC (ab (af (aG (af (aa (ae E E (ac E E (ag (ab (af (aa (ae E E ?_))))))))))))
   refine aE E E ?_
   refine ah E E KZ ?_
   refine ae E E ?_
   refine al (r:=I ((4*k:Nat):Int)) E E E (by rw[←e0];exact fc (by omega) (by omega)) ?_
   refine dm (a:=some (I ((4*k:Nat):Int))) E E E E E (Ja (by omega)) ?_
   refine ac E E (ag (ab ?_))
   have hbt:=(hc1.other q7 neg).bts (lo:=4*k) (by omega)
   obtain⟨ad,had⟩:=hbt.reads
   rw[List.length_drop,hbl] at had
   refine bP 24 [0,2,17,48,49] (by kernel_rfl) (by kernel_rfl) ?_
   refine ax E E (ax E E ?_)
   refine aD E E E (fun w _=>(had 0 (by omega)).1 w) ?_
   refine aQ E E (fun w' hw=>(had 0 (by omega)).2 w' hw) ?_
   refine dU E E (fun w _=>fz Lx Ll) ?_
   refine aZ E E E (fun w _=>eE 24 (by omega)) ?_
   refine ax E E ?_
   refine aD E E E (fun w _=>(had 1 (by omega)).1 w) ?_
   refine aQ E E (fun w' hw=>(had 1 (by omega)).2 w' hw) ?_
   refine dU E E (fun w _=>fz Lx Ll) ?_
   refine aZ E E E (fun w _=>eE 16 (by omega)) ?_
   refine aZ E E E (fun w _=>fg) ?_
   refine ax E E ?_
   refine aD E E E (fun w _=>(had 2 (by omega)).1 w) ?_
   refine aQ E E (fun w' hw=>(had 2 (by omega)).2 w' hw) ?_
   refine dU E E (fun w _=>fz Lx Ll) ?_
   refine aZ E E E (fun w _=>eE 8 (by omega)) ?_
   refine aZ E E E (fun w _=>fg) ?_
   refine ax E E ?_
   refine aD E E E (fun w _=>(had 3 (by omega)).1 w) ?_
   refine aQ E E (fun w' hw=>(had 3 (by omega)).2 w' hw) ?_
   refine dU E E (fun w _=>fz Lx Ll) ?_
   refine aZ E E E (fun w _=>fg) ?_
   refine aD E E E (fun w _=>gV k (by omega)) ?_
   refine cn ?_
   intro w8 hx8
   rintro _ rfl _ rfl _ rfl _ rfl _ rfl
   have hlen:(dj (jf b k)).length=64:=mU (by rw[jO];omega)
   rw[←EF]
   refine ay E E (AQ (x:=rf b k) (b7.ext hx8) k (by omega)) ?_
   have b8:=(b7.ext hx8).setU k (rf b k)
   have q8:=(q7.trans (dZ hx8)).trans (bi w8 g2 k (bE (rf b k)))
   have hset:(dj (jf b k)).set k (rf b k)=dj (jf b (k+1)):=by
    have:=mV (l:=jf b k) (rf b k) (by rw[jO];omega)
    rw[jO] at this
    rw[this,vj]
   rw[hset] at b8
   refine ag (aW (ab (aa ?_)))
   refine al E E E (aR (by omega) (by omega)) ?_
   refine ae E E (ag ?_)
   exact bS (k+1) ⟨rfl,rfl,rfl,trivial⟩ ⟨q8,b8,by omega⟩ (by omega)
  ·have hk':k=16:=by omega
   subst hk'
   exact bc (aK (aK (bf (cf () ⟨rfl,rfl,trivial⟩ ⟨q7,b7⟩))))
 rintro _ w7 ⟨q7,b7⟩
 refine ab ?_
 refine af (ew (fun _:Unit=>[(0,.pointer (some ⟨g,0,none⟩)),(2,.pointer (some ⟨g2,0,none⟩))]) (fun _ w'=>w1.grownBy w' (some g2)∧bQ g2 200 ((bH b 48).map bE) w') ?_ ?_)
 ·refine af (aa (ac E E (ag (ab (aG ?_)))))
  refine ck (α:=Nat) (fun k=>[(0,.pointer (some ⟨g,0,none⟩)),(2,.pointer (some ⟨g2,0,none⟩)),(5,I ((16+k:Nat):Int))])
   (fun k w'=>w1.grownBy w' (some g2)∧bQ g2 200 ((dj (bH b k)).map bE) w'∧k≤48) (fun k=>48-k) 0 ⟨rfl,rfl,rfl,trivial⟩
   ⟨q7,b7,by omega⟩ ?_
  clear q7 b7
  rintro k w7 ⟨q7,b7,hk⟩
  have hL:=lJ b k
  refine af (af (aa (ae E E ?_)))
  refine al E E E (a6) ?_
  refine ag (ab ?_)
  refine bu E (fun h=>?_) (fun h=>?_)
  ·have hk48:k<48:=by omega
   refine aC (ab (af (aG (af ?_))))
   have e15:((16+k:Nat):Int)-15=(((bH b k).length-15:Nat):Int):=by omega
   have f15:=f4 (l:=bH b k) (i:=(bH b k).length-15) (by omega)
   have e2:((16+k:Nat):Int)-2=(((bH b k).length-2:Nat):Int):=by omega
   have f2:=f4 (l:=bH b k) (i:=(bH b k).length-2) (by omega)
   have e16:((16+k:Nat):Int)-16=(((bH b k).length-16:Nat):Int):=by omega
   have f16:=f4 (l:=bH b k) (i:=(bH b k).length-16) (by omega)
   have e7:((16+k:Nat):Int)-7=(((bH b k).length-7:Nat):Int):=by omega
   have f7:=f4 (l:=bH b k) (i:=(bH b k).length-7) (by omega)
   have hlen:(dj (bH b k)).length=64:=mU (by omega)
   refine bP 9 [0,2,5,6,62] (by kernel_rfl) (by kernel_rfl) ?_
   refine ax E E ?_
   refine aZ (r:=I (((bH b k).length-15:Nat):Int)) E E E (fun w _=>by rw[←e15];exact bD (by omega) (by omega)) ?_
   refine aD E E E (fun w _=>gV _ (by omega)) ?_
   refine aQ (r:=bE ((bH b k).getD ((bH b k).length-15) 0)) E E (fun w' hw=>by rw[←f15];exact da (b7.ext hw) _ (by omega)) ?_
   refine ax E E ?_
   refine aZ (r:=I (((bH b k).length-2:Nat):Int)) E E E (fun w _=>by rw[←e2];exact bD (by omega) (by omega)) ?_
   refine aD E E E (fun w _=>gV _ (by omega)) ?_
   refine aQ (r:=bE ((bH b k).getD ((bH b k).length-2) 0)) E E (fun w' hw=>by rw[←f2];exact da (b7.ext hw) _ (by omega)) ?_
   refine fS E E (cn ?_)
   intro w8 hx8
   rintro _ rfl _ rfl _ rfl _ rfl _ rfl
   refine ac E E (ag (ab ?_))
   have b12:=b7.ext hx8
   refine bP 29 [0,2,5,90,91] (by kernel_rfl) (by kernel_rfl) ?_
   refine ax E E (ax E E ?_)
   refine aZ (r:=I (((bH b k).length-16:Nat):Int)) E E E (fun w _=>by rw[←e16];exact bD (by omega) (by omega)) ?_
   refine aD E E E (fun w _=>gV _ (by omega)) ?_
   refine aQ (r:=bE ((bH b k).getD ((bH b k).length-16) 0)) E E (fun w' hw=>by rw[←f16];exact da (b12.ext hw) _ (by omega)) ?_
   refine ax E E ?_
   refine ce (S:=Is (bE (iE _ 7))) eU (bO.is _) E (fun w' _=>by
    rintro _ rfl _ rfl
    exact bN.mono (eV 7 (by omega) (by omega)) fun v w'' h=>⟨h.1,h.2⟩) ?_
   refine ax E E ?_
   refine ce (S:=Is (bE (iE _ 18))) eU (bO.is _) E (fun w' _=>by
    rintro _ rfl _ rfl
    exact bN.mono (eV 18 (by omega) (by omega)) fun v w'' h=>⟨h.1,h.2⟩) ?_
   refine aZ E E E (fun w _=>cJ) ?_
   refine ax E E ?_
   refine aZ E E E (fun w _=>cO 3 (by omega)) ?_
   refine aZ E E E (fun w _=>cJ) ?_
   refine aZ E E E (fun w _=>cG) ?_
   refine ax E E ?_
   refine aZ (r:=I (((bH b k).length-7:Nat):Int)) E E E (fun w _=>by rw[←e7];exact bD (by omega) (by omega)) ?_
   refine aD E E E (fun w _=>gV _ (by omega)) ?_
   refine aQ (r:=bE ((bH b k).getD ((bH b k).length-7) 0)) E E (fun w' hw=>by rw[←f7];exact da (b12.ext hw) _ (by omega)) ?_
   refine aZ E E E (fun w _=>cG) ?_
   refine ax E E ?_
   refine ce (S:=Is (bE (iE _ 17))) eU (bO.is _) E (fun w' _=>by
    rintro _ rfl _ rfl
    exact bN.mono (eV 17 (by omega) (by omega)) fun v w'' h=>⟨h.1,h.2⟩) ?_
   refine ax E E ?_
   refine ce (S:=Is (bE (iE _ 19))) eU (bO.is _) E (fun w' _=>by
    rintro _ rfl _ rfl
    exact bN.mono (eV 19 (by omega) (by omega)) fun v w'' h=>⟨h.1,h.2⟩) ?_
   refine aZ E E E (fun w _=>cJ) ?_
   refine ax E E ?_
   refine aZ E E E (fun w _=>cO 10 (by omega)) ?_
   refine aZ E E E (fun w _=>cJ) ?_
   refine aZ E E E (fun w _=>cG) ?_
   refine aD E E E (fun w _=>gV (16+k) (by omega)) ?_
   refine cn ?_
   intro w13 hx13
   rintro _ rfl _ rfl _ rfl _ rfl _ rfl
   refine ay E E (AQ (x:=oe (bH b k)) (b12.ext hx13) (16+k) (by omega)) ?_
   have b13:=(b12.ext hx13).setU (16+k) (oe (bH b k))
   have q13:=((q7.trans (dZ hx8)).trans (dZ hx13)).trans (bi w13 g2 (16+k) (bE (oe (bH b k))))
   have hset:(dj (bH b k)).set (16+k) (oe (bH b k))=dj (bH b (k+1)):=by
    have:=mV (l:=bH b k) (oe (bH b k)) (by omega)
    rw[hL] at this
    exact this
   rw[hset] at b13
   refine ag (aW (ab (aa (ae E E ?_))))
   refine al E E E (aR (by omega) (by omega)) ?_
   refine ac E E (ag ?_)
   exact bS (k+1) ⟨rfl,rfl,rfl,trivial⟩ ⟨q13,b13,by omega⟩ (by omega)
  ·have hk':k=48:=by omega
   subst hk'
   have hf:dj (bH b 48)=bH b 48:=by
    unfold dj
    rw[hL]
    exact List.append_nil _
   rw[hf] at b7
   exact bc (aK (aK (bf (cf () ⟨rfl,rfl,trivial⟩ ⟨q7,b7⟩))))
 clear q7 b7
 rintro _ w7 ⟨q7,b7⟩
 have hc7:=hc1.other q7 neg
 refine ab (af (aa (ae E E ?_)))
 refine aE E E ?_
 refine ah E E H3 ?_
 refine aj E E hc7.ldS ?_
 have hlen8:(Tryz.prog.info? 150).map (·.size)=some (s.map bE).length:=by rw[List.length_map,hs];exact oo
 obtain⟨g8,w8,hr,n8,x8,b8⟩:=a9 (P:=Tryz.prog) (w:=w7) (l:=(List.replicate 8 0).map bE) Dl rfl
 refine aS E hr ?_
 refine ay E E (ju b8 (by simp[hs]) hlen8 (jZ _)) ?_
 have b8':=b8.row (s.map bE)
 have q8:=bJ w8 g8 (s.map bE).toArray
 have l28:g2<g8:=Nat.lt_of_lt_of_le b7.lt n8
 have lg7:=hc7.lt
 have ne28:some g2≠some g8:=fun h=>by cases h;omega
 have neg8:some g≠some g8:=fun h=>by cases h;omega
 have D2:=(b7.ext x8).other q8 ne28
 have hc8:=(hc7.ext x8).other q8 neg8
 have Q8:w.grownBy (w8.setRow g8 (s.map bE).toArray) (some g):=by
  have h1:aH w w7:=x1.of_new q7 n2
  exact dZ ((h1.trans x8).of_new q8 (by have:=h1.size;omega))
 revert b8' D2 hc8 Q8
 generalize w8.setRow g8 (s.map bE).toArray=w9
 intro b9 D2 hc9 Q9
 refine ag (ab ?_)
 refine af (ew (fun _:Unit=>[(0,.pointer (some ⟨g,0,none⟩)),(8,.pointer (some ⟨g8,0,none⟩))]) (fun _ w'=>w9.grownBy w' (some g8)∧bQ g8 150 ((dN b s 64).map bE) w') ?_ ?_)
 ·refine af (aa ?_)
  refine an (vs:=[]) vh E E (vi w9) ?_
  rintro _ w10 ⟨x10,rfl⟩
  refine ae E E (ag (ab (aG ?_)))
  refine ck (α:=Nat) (fun i=>[(0,.pointer (some ⟨g,0,none⟩)),(2,.pointer (some ⟨g2,0,none⟩)),(8,.pointer (some ⟨g8,0,none⟩)),(96,.agg (kc.map bE).toArray),(97,I (i:Int))])
   (fun i w'=>w9.grownBy w' (some g8)∧bQ g8 150 ((dN b s i).map bE) w'∧i≤64) (fun i=>64-i) 0 ⟨rfl,rfl,rfl,rfl,rfl,trivial⟩
   ⟨dZ x10,b9.ext x10,by omega⟩ ?_
  clear x10 w10
  rintro i w10 ⟨q10,b10,hi⟩
  have hv8:=gT b s hs i
  refine af (aa ?_)
  refine al E E E (a6) ?_
  refine ag (ab (af ?_))
  refine bu E (fun h=>?_) (fun h=>?_)
  ·have hi64:i<64:=by omega
   have hkc:kc.length=64:=rfl
   have hsl:(bH b 48).length=64:=lJ b 48
   refine aC (ab (af (aG (af (aa (ae E E ?_))))))
   refine lZ E E E (FD (l:=kc.map bE) LS dW Ll hi64 .i64 (vn (by omega))) ?_
   refine ac E E (ac E E (ag (ab (af ?_))))
   have V:=b10
   have K6:=D2.other q10 ne28
   refine bP 5 [0,2,8,9,10,11,96,97,104] (by kernel_rfl) (by kernel_rfl) ?_
   refine aD E E E (fun w _=>dE 0 (by omega)) ?_
   refine aQ E E (fun w' hw=>da (V.ext hw) 0 (by omega)) ?_
   refine aD E E E (fun w _=>dE 4 (by omega)) ?_
   refine aQ E E (fun w' hw=>da (V.ext hw) 4 (by omega)) ?_
   refine fS E E (cn ?_)
   intro w11 hx11
   rintro _ rfl _ rfl _ rfl _ rfl _ rfl _ rfl _ rfl _ rfl _ rfl
   refine ac E E (ag (ab (af ?_)))
   replace V:=V.ext hx11
   replace K6:=K6.ext hx11
   refine bP 28 [0,2,8,11,96,97,132] (by kernel_rfl) (by kernel_rfl) ?_
   refine aD E E E (fun w _=>dE 7 (by omega)) ?_
   refine aQ E E (fun w' hw=>da (V.ext hw) 7 (by omega)) ?_
   refine ax E E ?_
   refine ce (S:=Is (bE (iE _ 6))) eU (bO.is _) E (fun w' _=>by
    rintro _ rfl _ rfl
    exact bN.mono (eV 6 (by omega) (by omega)) fun v w'' h=>⟨h.1,h.2⟩) ?_
   refine ax E E ?_
   refine ce (S:=Is (bE (iE _ 11))) eU (bO.is _) E (fun w' _=>by
    rintro _ rfl _ rfl
    exact bN.mono (eV 11 (by omega) (by omega)) fun v w'' h=>⟨h.1,h.2⟩) ?_
   refine aZ E E E (fun w _=>cJ) ?_
   refine ax E E ?_
   refine ce (S:=Is (bE (iE _ 25))) eU (bO.is _) E (fun w' _=>by
    rintro _ rfl _ rfl
    exact bN.mono (eV 25 (by omega) (by omega)) fun v w'' h=>⟨h.1,h.2⟩) ?_
   refine aZ E E E (fun w _=>cJ) ?_
   refine aZ E E E (fun w _=>cG) ?_
   refine ax E E ?_
   refine aD E E E (fun w _=>dE 5 (by omega)) ?_
   refine aQ E E (fun w' hw=>da (V.ext hw) 5 (by omega)) ?_
   refine aZ E E E (fun w _=>ff) ?_
   refine ax E E ?_
   refine zV E E (fun w _=>td) ?_
   refine aD E E E (fun w _=>dE 6 (by omega)) ?_
   refine aQ E E (fun w' hw=>da (V.ext hw) 6 (by omega)) ?_
   refine aZ E E E (fun w _=>ff) ?_
   refine aZ E E E (fun w _=>cJ) ?_
   refine aZ E E E (fun w _=>cG) ?_
   refine ax E E ?_
   refine aZ E E E (fun w _=>cG) ?_
   refine ax E E ?_
   refine aD E E E (fun w _=>gV i (by omega)) ?_
   refine aQ E E (fun w' hw=>da (K6.ext hw) i (by omega)) ?_
   refine aZ E E E (fun w _=>cG) ?_
   refine cn ?_
   intro w12 hx12
   rintro _ rfl _ rfl _ rfl _ rfl _ rfl _ rfl _ rfl
   refine ac E E (ag (ab (af ?_)))
   replace V:=V.ext hx12
   refine bP 24 [0,2,8,13,96,97,156] (by kernel_rfl) (by kernel_rfl) ?_
   refine ax E E ?_
   refine ce (S:=Is (bE (iE _ 2))) eU (bO.is _) E (fun w' _=>by
    rintro _ rfl _ rfl
    exact bN.mono (eV 2 (by omega) (by omega)) fun v w'' h=>⟨h.1,h.2⟩) ?_
   refine ax E E ?_
   refine ce (S:=Is (bE (iE _ 13))) eU (bO.is _) E (fun w' _=>by
    rintro _ rfl _ rfl
    exact bN.mono (eV 13 (by omega) (by omega)) fun v w'' h=>⟨h.1,h.2⟩) ?_
   refine aZ E E E (fun w _=>cJ) ?_
   refine ax E E ?_
   refine ce (S:=Is (bE (iE _ 22))) eU (bO.is _) E (fun w' _=>by
    rintro _ rfl _ rfl
    exact bN.mono (eV 22 (by omega) (by omega)) fun v w'' h=>⟨h.1,h.2⟩) ?_
   refine aZ E E E (fun w _=>cJ) ?_
   refine ax E E ?_
   refine aD E E E (fun w _=>dE 1 (by omega)) ?_
   refine aQ E E (fun w' hw=>da (V.ext hw) 1 (by omega)) ?_
   refine aZ E E E (fun w _=>ff) ?_
   refine ax E E ?_
   refine aD E E E (fun w _=>dE 2 (by omega)) ?_
   refine aQ E E (fun w' hw=>da (V.ext hw) 2 (by omega)) ?_
   refine aZ E E E (fun w _=>ff) ?_
   refine aZ E E E (fun w _=>cJ) ?_
   refine aD E E E (fun w _=>dE 1 (by omega)) ?_
   refine aQ E E (fun w' hw=>da (V.ext hw) 1 (by omega)) ?_
   refine aD E E E (fun w _=>dE 2 (by omega)) ?_
   refine aQ E E (fun w' hw=>da (V.ext hw) 2 (by omega)) ?_
   refine aZ E E E (fun w _=>ff) ?_
   refine aZ E E E (fun w _=>cJ) ?_
   refine aZ E E E (fun w _=>cG) ?_
   refine cn ?_
   intro w13 hx13
   rintro _ rfl _ rfl _ rfl _ rfl _ rfl _ rfl _ rfl
   refine ac E E (ag (ab (aa (ae E E (ae E E ?_)))))
   replace V:=V.ext hx13
   refine al E E E (cG) ?_
   refine ar E E E (dE 0 (by omega)) ?_
   refine aj E E (da V 0 (by omega)) ?_
   refine ar E E E (dE 1 (by omega)) ?_
   refine aj E E (da V 1 (by omega)) ?_
   refine ar E E E (dE 2 (by omega)) ?_
   refine aj E E (da V 2 (by omega)) ?_
   refine ar E E E (dE 3 (by omega)) ?_
   refine aj E E (da V 3 (by omega)) ?_
   refine ae E E ?_
   refine al E E E (cG) ?_
   refine ar E E E (dE 4 (by omega)) ?_
   refine aj E E (da V 4 (by omega)) ?_
   refine ar E E E (dE 5 (by omega)) ?_
   refine aj E E (da V 5 (by omega)) ?_
   refine ar E E E (dE 6 (by omega)) ?_
   refine aj E E (da V 6 (by omega)) ?_
   refine bC E E (run_build _ _ _ ((dN b s (i+1)).map bE).toArray (by kernel_rfl)) ?_
   have hn8:=gT b s hs (i+1)
   refine ay E E (ju V (by simp[hv8,hn8]) (by rw[List.length_map,hn8];exact oo) (jZ _)) ?_
   have V':=V.row ((dN b s (i+1)).map bE)
   have q14:=(q10.trans (dZ ((hx11.trans hx12).trans hx13))).trans (bJ w13 g8 ((dN b s (i+1)).map bE).toArray)
   refine ag (aW (ab (aa ?_)))
   refine al E E E (aR (by omega) (by omega)) ?_
   refine ae E E (ag ?_)
   exact bS (i+1) ⟨rfl,rfl,rfl,rfl,rfl,trivial⟩ ⟨q14,V',by omega⟩ (by omega)
  ·have hi':i=64:=by omega
   subst hi'
   exact bc (aK (aK (bf (cf () ⟨rfl,rfl,trivial⟩ ⟨q10,b10⟩))))
 rintro _ w10 ⟨q10,b10⟩
 refine ab ?_
 have hv8:=gT b s hs 64
 have hc10:=hc9.other q10 neg8
 have ha0:ji s (dN b s 64) 0=s:=by simp[ji]
 refine af (ew (fun _:Unit=>[(0,.pointer (some ⟨g,0,none⟩))]) (fun _ w'=>w10.grownBy w' (some g)∧HC g (ji s (dN b s 64) 8) b u tot w') ?_ ?_)
 ·refine af (aa ?_)
  refine aj E E (nV (m:=(dN b s 64).map bE) b10 (fun j v h=>by rwa [Nat.zero_add]) LN E (by rw[List.length_map,hv8];exact oo)) ?_
  refine ae E E (ag (ab (aG ?_)))
  refine ck (α:=Nat) (fun i=>[(0,.pointer (some ⟨g,0,none⟩)),(178,.agg ((dN b s 64).map bE).toArray),(179,I (i:Int))])
   (fun i w'=>w10.grownBy w' (some g)∧HC g (ji s (dN b s 64) i) b u tot w'∧i≤8) (fun i=>8-i) 0 ⟨rfl,rfl,rfl,trivial⟩
   ⟨dZ (aH.refl _),by rw[ha0];exact hc10,by omega⟩ ?_
  rintro i w11 ⟨q11,c11,hi⟩
  refine af (aa ?_)
  refine al E E E (a6) ?_
  refine ag (ab (af ?_))
  refine bu E (fun h=>?_) (fun h=>?_)
  ·have hi8:i<8:=by omega
   have hag:=xw hs hv8 hi8
   refine aC (ab (af (aG (af (aa (ae E E ?_))))))
   refine lZ E E E (FD (l:=(dN b s 64).map bE) LN dW Ll hi8 .i64 (vn (by omega))) ?_
   refine ac E E (ac E E (ag (ab ?_)))
   refine bP 11 [0,178,179,190,193] (by kernel_rfl) (by kernel_rfl) ?_
   refine ax E E (ax E E ?_)
   refine dz E E ?_
   refine aX E E (fun w _=>H3) ?_
   refine aD E E E (fun w _=>dE i (by omega)) ?_
   refine aQ (r:=bE (s.getD i 0)) E E (fun w' hw=>by rw[←hag];exact ai Ll E ((c11.ext hw).cellS hi8)) ?_
   refine ax E E ?_
   refine aZ E E E (fun w _=>cG) ?_
   refine dz E E ?_
   refine aX E E (fun w _=>H3) ?_
   refine aD E E E (fun w _=>dE i (by omega)) ?_
   refine cn ?_
   intro w12 hx12
   rintro _ rfl _ rfl _ rfl _ rfl _ rfl
   have hcl:=gW (u:=u) (tot:=tot) c11.ls c11.lb
   refine ay E E (el dW E (c11.ext hx12).hb (by rw[List.size_toArray,hcl];omega)) ?_
   have c12:=(c11.ext hx12).setS i hi8 (s.getD i 0+(dN b s 64).getD i 0)
   rw[xx hs hv8 hi8] at c12
   have q12:=(q11.trans (dZ hx12)).trans (bi w12 g i (bE (s.getD i 0+(dN b s 64).getD i 0)))
   refine ag (aW (ab (aa ?_)))
   refine al E E E (aR (by omega) (by omega)) ?_
   refine ae E E (ag ?_)
   exact bS (i+1) ⟨rfl,rfl,rfl,trivial⟩ ⟨q12,c12,by omega⟩ (by omega)
  ·have hi':i=8:=by omega
   subst hi'
   exact bc (aK (aK (bf (cf () ⟨rfl,trivial⟩ ⟨q11,c11⟩))))
 rintro _ w11 ⟨q11,c11⟩
 rw[xz hs hv8] at c11
 have hcl:=gW (u:=u) (tot:=tot) c11.ls c11.lb
 refine ab (aa (ae E E ?_))
 refine aE E E ?_
 refine ah E E ED ?_
 refine ay E E (el (i:=72) qX E c11.hb (by rw[List.size_toArray,hcl];omega)) ?_
 have c12:=c11.setU 0
 refine ag ?_
 refine jw E ?_
 refine⟨_,rfl,?_,c12⟩
 have Q10:w.grownBy w10 (some g):=by
  have h:w.grownBy w9 (some g):=Q9
  refine⟨q10.os.trans h.os,q10.tape.trans h.tape,q10.output.trans h.output,Nat.le_trans h.size q10.size,fun k hk hne=>?_⟩
  exact(q10.block k (Nat.lt_of_lt_of_le hk h.size) (fun he=>by cases he;omega)).trans (h.block k hk hne)
 exact(Q10.trans q11).trans (bi w11 g 72 (I 0))
end Go.Rl
namespace Go.Rl
open Go.RowKit Go.Proofs
def HA (g:Nat) (m:List UInt8) (tot:UInt64) (w:World):Prop:=∃blk,HC g (sh m) blk ((m.length%64:Nat):Int) tot w∧blk.take (m.length%64)=m.drop (64*(m.length/64))
theorem HA.ext {g:Nat} {m:List UInt8} {tot:UInt64} {w w':World} (h:HA g m tot w) (hx:aH w w'):HA g m tot w':=by
 obtain⟨blk,h1,h2⟩:=h
 exact⟨blk,h1.ext hx,h2⟩
theorem HA.other {g:Nat} {m:List UInt8} {tot:UInt64} {w w':World} {row:Option Nat} (h:HA g m tot w) (hg:w.grownBy w' row) (hne:some g≠row):HA g m tot w':=by
 obtain⟨blk,h1,h2⟩:=h
 exact⟨blk,h1.other hg hne,h2⟩
theorem HA.lt {g:Nat} {m:List UInt8} {tot:UInt64} {w:World} (h:HA g m tot w):g<w.heap.size:=by
 obtain⟨blk,h1,h2⟩:=h
 exact h1.lt
theorem H4 (m y:List UInt8) (h:m.length%64+y.length<64):sh (m++y)=sh m:=by
 have hm:m=m.take (64*(m.length/64))++m.drop (64*(m.length/64)):=(List.take_append_drop _ _).symm
 have hl:(m.take (64*(m.length/64))).length=64*(m.length/64):=by simp;omega
 have hd:(m.drop (64*(m.length/64))).length=m.length%64:=by simp;omega
 rw[hm,List.append_assoc,yH _ _ (by omega) (by rw[List.length_append,hd];exact h),yH _ _ (by omega) (by omega)]
theorem H5 (m y:List UInt8) (h:m.length%64+y.length=64):sh (m++y)=wh (sh m) (m.drop (64*(m.length/64))++y):=by
 have hm:m=m.take (64*(m.length/64))++m.drop (64*(m.length/64)):=(List.take_append_drop _ _).symm
 have hl:(m.take (64*(m.length/64))).length=64*(m.length/64):=by simp;omega
 have hd:(m.drop (64*(m.length/64))).length=m.length%64:=by simp;omega
 have e1:sh (m++y)=sh (m.take (64*(m.length/64))++(m.drop (64*(m.length/64))++y)):=by
  rw[←List.append_assoc,List.take_append_drop]
 have e2:sh m=sh (m.take (64*(m.length/64))):=by
  conv=>lhs;rw[hm]
  exact yH _ _ (by omega) (by omega)
 rw[e1,e2,Gp _ _ (by omega) (by rw[List.length_append,hd];exact h)]
def zb (g:Nat) (v:Value):Prop:=∀a n c,v=.slice (some a) n c→a.block≠g
theorem cK.away {l:List UInt8} {v:Value} {g:Nat} {w w':World} (h:cK l v w) (ha:0<l.length→zb g v) (hg:w.grownBy w' (some g)):cK l v w':=by
 obtain⟨A,n,c,rfl,h1,h2,h3,h4,h5⟩:=h
 refine⟨A,n,c,rfl,h1,h2,h3,fun hn=>?_,h5⟩
 obtain⟨ad,rfl,hc⟩:=h4 hn
 have hlen:0<l.length:=by
  have:l.length=n:=by simpa using h3
  omega
 refine⟨ad,rfl,fun j u hu=>?_⟩
 have hb:(ad.add j).block=ad.block:=by unfold Addr.add;split<;>rfl
 exact hg.cell (hc j u hu) (by rw[hb];intro he;exact ha hlen ad n c rfl (Option.some.inj he))
theorem BW {l:List UInt8} {v:Value} {g:Nat} {w:World} (h:cK l v w) {lo:Nat} (hlo:lo≤l.length) (ha:zb g v):
 ∃r,(∀w':World,(Instr.sliceAt 22 v (some (I (lo:Int))) none none).run Tryz.prog w'=.ok r w')∧cK (l.drop lo) r w∧zb g r:=by
 obtain⟨r,hr,hb⟩:=qP h hlo .i64
 refine⟨r,hr,hb,?_⟩
 obtain⟨A,n,c,rfl,h1,h2,h3,h4,h5⟩:=h
 have hln:lo≤n:=by
  have:l.length=n:=by simpa using h3
  omega
 have hbd:(Instr.sliceBounds true n c (some (.int .i64 (lo:Int))) none none).run Tryz.prog w=.ok (lo,n,c) w:=by
  have a2:=run_sliceBound (P:=Tryz.prog) (w:=w) .i64 (lo:Int) n .sliceB (by omega) (by omega)
  simp only[Int.toNat_natCast] at a2
  simp[Instr.sliceBounds,a2]
 have hrun:(Instr.sliceAt 22 (.slice A n c) (some (.int .i64 (lo:Int))) none none).run Tryz.prog w=.ok (.slice (if c=lo then A else A.map (·.add (lo*1))) (n-lo) (c-lo)) w:=by
  simp[Instr.sliceAt,Instr.slice,run_underlying Tryz.underlying22,hbd,fh fe]
 have e:=(hr w).symm.trans hrun
 simp only[Result.ok.injEq,and_true] at e
 subst e
 intro a n' c' he
 simp only[Value.slice.injEq] at he
 obtain⟨he,_,_⟩:=he
 split at he
 ·exact ha a n c (by rw[he])
 ·obtain⟨a0,h0,rfl⟩:=Option.map_eq_some_iff.1 he
  have:(a0.add (lo*1)).block=a0.block:=by unfold Addr.add;split<;>rfl
  rw[this]
  exact ha a0 n c (by rw[h0])
theorem H6 {g:Nat} {st:List UInt32} {blk x:List UInt8} {u:Int} {tot:UInt64} {w:World} {v:Value} {ty:TypeId} {o:Nat} (h:HC g st blk u tot w) (ho:o<64) (hx:cK x v w) (hne:0<x.length):
 ∃w',(Builtin.copy_ #[22,22] ty #[.slice (some ⟨g,8+o,none⟩) (64-o) (64-o),v]).run Tryz.prog w=.ok (I ((min x.length (64-o):Nat):Int)) w'∧w.grownBy w' (some g)∧
  HC g st (blk.take o++x.take (64-o)++blk.drop (o+min x.length (64-o))) u tot w':=by
 obtain⟨A,n,c,rfl,h1,h2,h3,h4,h5⟩:=hx
 have hxn:x.length=n:=by simpa using h3
 obtain⟨ad,rfl,hc⟩:=h4 (by omega)
 have hcs:((x.take (64-o)).map U8).length=min n (64-o):=by simp[hxn,Nat.min_comm]
 have hr:=run_copy_row (P:=Tryz.prog) w 22 22 ty 5 g (8+o) (64-o) (64-o) ad n c _ 154 ((x.take (64-o)).map U8) Lv fe h.hb hcs
  (fun j u hj=>hc j u (by
    rw[List.map_take,List.getElem?_take] at hj
    split at hj
    ·exact hj
    ·cases hj)) (by rw[hcs,List.size_toArray,gW h.ls h.lb];omega) (rt _)
 rw[hcs] at hr
 refine⟨_,by rw[hxn];exact hr,bJ _ _ _,?_,h.ls,?_⟩
 ·have:=h.hb.row (cZ st (blk.take o++x.take (64-o)++blk.drop (o+min n (64-o))) u tot)
  rw[hxn]
  have e:((cZ st blk u tot).toArray.toList.take (8+o)++(x.take (64-o)).map U8++(cZ st blk u tot).toArray.toList.drop (8+o+min n (64-o)))=cZ st (blk.take o++x.take (64-o)++blk.drop (o+min n (64-o))) u tot:=by
   have l8:(st.map bE).length=8:=by simp[h.ls]
   have l64:(blk.map U8).length=64:=by simp[h.lb]
   unfold cZ
   rw[List.take_append,l8,List.drop_append,l8,show 8+o-8=o by omega,show 8+o+min n (64-o)-8=o+min n (64-o) by omega]
   rw[List.take_of_length_le (by omega),List.drop_eq_nil_of_le (by omega),List.nil_append]
   rw[List.take_append,l64,show o-64=0 by omega,List.take_zero,List.append_nil,List.drop_append,l64,show o+min n (64-o)-64=0 by omega,List.drop_zero]
   simp only[List.map_append,List.map_take,List.map_drop,List.append_assoc]
  rw[e]
  exact this
 ·simp only[List.length_append,List.length_take,List.length_drop,h.lb];omega
end Go.Rl
namespace Go.Rl
open Go.RowKit Go.Proofs
theorem f5:aJ Tryz.prog 40:=⟨_,Tryz.func40,by kernel_rfl,rfl⟩
theorem xD:aJ Tryz.prog 39:=⟨_,Tryz.func39,by kernel_rfl,rfl⟩
theorem f6 {w:World} {g:Nat} {m x:List UInt8} {tot:UInt64} {v:Value} (hh:HA g m tot w) (hx:cK x v w) (ha:0<x.length→zb g v):
 Calls Tryz.prog 40 #[.pointer (some ⟨g,0,none⟩),v] w (bN fun _ w'=>w.grownBy w' (some g)∧HA g (m++x) (tot+UInt64.ofNat x.length) w'):=by
 refine enter (vs:=[.pointer (some ⟨g,0,none⟩),v]) Tryz.func40 E E E ?_
 refine af (af (aa (ae E E ?_)))
 refine al E E E (fT LP) ?_
 refine ag (ab ?_)
 refine cN E ?_
 refine aC (ab (af (aa (ae E E ?_))))
 obtain⟨blk0,hc0,ht0⟩:=hh
 refine aE E E ?_
 refine ah E E JQ ?_
 refine aj E E (ai Lp E hc0.cellT) ?_
 refine ae E E ?_
 refine aV E E (ey hx) ?_
 refine bb E E (fO Lo Lp) ?_
 refine al E E E (dQ) ?_
 refine aE E E ?_
 refine ah E E JQ ?_
 have hcl0:=gW (u:=((m.length%64:Nat):Int)) (tot:=tot) hc0.ls hc0.lb
 refine ay E E (el (i:=73) AU E hc0.hb (by rw[List.size_toArray,hcl0];omega)) ?_
 have hc1:=hc0.setT (tot+UInt64.ofNat x.length)
 have q1:=bi w g 73 (bW (tot+UInt64.ofNat x.length))
 have hx1:=hx.away ha q1
 revert hc1 q1 hx1
 generalize w.setCell ⟨g,73,none⟩ (bW (tot+UInt64.ofNat x.length))=w1
 intro hc1 q1 hx1
 refine ag (ab (aG ?_))
 refine ck (α:=Nat×Value) (fun p=>[(0,.pointer (some ⟨g,0,none⟩)),(1,p.2)])
  (fun p w'=>HA g (m++x.take p.1) (tot+UInt64.ofNat x.length) w'∧cK (x.drop p.1) p.2 w'∧(0<(x.drop p.1).length→zb g p.2)∧w.grownBy w' (some g)∧p.1≤x.length) (fun p=>x.length-p.1) (0,v) ⟨rfl,rfl,trivial⟩
  ⟨by simpa using⟨blk0,hc1,ht0⟩,by simpa using hx1,by simpa using ha,q1,by simp⟩ ?_
 rintro⟨k,b⟩ w2 ⟨⟨blk,hc2,ht2⟩,hb2,ha2,q2,hk⟩
 dsimp only at hc2 ht2 hb2 ha2 q2 hk
 have hm':∃m',m'=m++x.take k:=⟨_,rfl⟩
 obtain⟨m',hm'⟩:=hm'
 rw[←hm'] at hc2 ht2
 refine af (af (aa (ae E E ?_)))
 refine aV E E (ey hb2) ?_
 refine al E E E (bT) ?_
 refine ag (ab ?_)
 refine bu E (fun h=>?_) (fun h=>?_)
 ·have hlt:0<(x.drop k).length:=by omega
  have hu:m'.length%64<64:=Nat.mod_lt _ (by omega)
  refine aC (ab (aG (af ?_)))
  refine bP 9 [0,1,27,28] (by kernel_rfl) (by kernel_rfl) ?_
  refine ax E E ?_
  refine dz E E ?_
  refine aX E E (fun w _=>KZ) ?_
  refine ax E E ?_
  refine dz E E ?_
  refine aX E E (fun w _=>ED) ?_
  refine aQ E E (fun w' hw=>ai Lo E (hc2.ext hw).cellU) ?_
  refine kA (a:=some (I ((m'.length%64:Nat):Int))) (b:=none) E E E E (fun w _=>Ja hu) ?_
  refine ax E E (cn ?_)
  intro w3 hx3
  rintro _ rfl _ rfl _ rfl _ rfl
  have hc3:=hc2.ext hx3
  obtain⟨w4,hr,q4,hc4⟩:=H6 (ty:=3) hc3 hu (hb2.ext hx3) hlt
  obtain⟨n,hn⟩:∃n,n=min (x.drop k).length (64-m'.length%64):=⟨_,rfl⟩
  rw[←hn] at hr hc4
  have hxk:(x.drop k).length=x.length-k:=List.length_drop
  have hn1:n≤x.length-k:=by omega
  have hn2:m'.length%64+n≤64:=by omega
  have hn0:0<n:=by omega
  refine Jm E E hr ?_
  refine ac E E (ag (ab (af (aa (ae E E ?_)))))
  refine aE E E ?_
  refine ah E E ED ?_
  refine aj E E (ai Lo E hc4.cellU) ?_
  refine ae E E ?_
  have e1:((m'.length%64:Nat):Int)+(n:Int)=((m'.length%64+n:Nat):Int):=by omega
  refine al (r:=I ((m'.length%64+n:Nat):Int)) E E E (by rw[←e1];exact aR (by omega) (by omega)) ?_
  refine aE E E ?_
  refine ah E E ED ?_
  have hcl4:=gW (u:=((m'.length%64:Nat):Int)) (tot:=tot+UInt64.ofNat x.length) hc4.ls hc4.lb
  refine ay E E (el (i:=72) qX E hc4.hb (by rw[List.size_toArray,hcl4];omega)) ?_
  have hc5:=hc4.setU ((m'.length%64+n:Nat):Int)
  have q5:=q4.trans (bi w4 g 72 (I ((m'.length%64+n:Nat):Int)))
  revert hc5 q5
  generalize w4.setCell ⟨g,72,none⟩ (I ((m'.length%64+n:Nat):Int))=w5
  intro hc5 q5
  have hb5:=(hb2.ext hx3).away ha2 q5
  have q25:=(q2.trans (dZ hx3)).trans q5
  refine ag (ab (af (aa (ae E E (ae E E ?_)))))
  obtain⟨b6,hr6,hb6,ha6⟩:=BW hb5 (lo:=n) (by omega) (ha2 hlt)
  rw[List.drop_drop] at hb6
  refine dm (a:=some (I (n:Int))) (b:=none) E E E E E (hr6 _) ?_
  refine ac E E (ag (ab (af (aa (ae E E ?_)))))
  refine aE E E ?_
  refine ah E E ED ?_
  refine aj E E (ai Lo E hc5.cellU) ?_
  refine al E E E (bo) ?_
  refine ag (ab ?_)
  have hyl:((x.drop k).take (64-m'.length%64)).length=n:=by rw[List.length_take,hn,Nat.min_comm]
  have hyn:(x.drop k).take (64-m'.length%64)=(x.drop k).take n:=by
   rw[hn]
   rcases Nat.le_total (x.drop k).length (64-m'.length%64) with h1|h1
   ·rw[Nat.min_eq_left h1,List.take_of_length_le h1,List.take_length]
   ·rw[Nat.min_eq_right h1]
  have hmy:m++x.take (k+n)=m'++(x.drop k).take (64-m'.length%64):=by
   rw[hyn,hm',List.append_assoc,←List.take_add]
  obtain⟨y,hy⟩:∃y,y=(x.drop k).take (64-m'.length%64):=⟨_,rfl⟩
  rw[←hy] at hc5 hyl hmy
  have hmd:(m'.drop (64*(m'.length/64))).length=m'.length%64:=by rw[List.length_drop];omega
  have hml:(m'++y).length=m'.length+n:=by rw[List.length_append,hyl]
  refine bu E (fun h=>?_) (fun h=>?_)
  ·have hfull:m'.length%64+n=64:=by omega
   refine aa (ae E E ?_)
   refine an y9 E E (za hc5) ?_
   rintro _ w6 ⟨q6,hc6⟩
   refine ag (aW ?_)
   refine bS (k+n,b6) ⟨rfl,rfl,trivial⟩ ⟨?_,hb6.away (fun _=>ha6) q6,fun _=>ha6,q25.trans q6,by show k+n≤x.length;omega⟩ (by show x.length-(k+n)<x.length-k;omega)
   show HA g (m++x.take (k+n)) _ w6
   rw[hmy]
   have e0:(m'++y).length%64=0:=by rw[hml];omega
   have hd0:blk.drop (m'.length%64+n)=[]:=List.drop_eq_nil_of_le (by rw[hc2.lb];omega)
   rw[hd0,List.append_nil] at hc6
   have hdd:(m'++y).drop (64*((m'++y).length/64))=[]:=List.drop_eq_nil_of_le (by omega)
   refine⟨blk.take (m'.length%64)++y,?_,by rw[e0,hdd,List.take_zero]⟩
   rw[e0,H5 m' y (by omega),←ht2]
   exact hc6
  ·have hpart:m'.length%64+n<64:=by omega
   refine aC (aW ?_)
   refine bS (k+n,b6) ⟨rfl,rfl,trivial⟩ ⟨?_,hb6,fun _=>ha6,q25,by show k+n≤x.length;omega⟩ (by show x.length-(k+n)<x.length-k;omega)
   show HA g (m++x.take (k+n)) _ w5
   rw[hmy]
   have e0:(m'++y).length%64=m'.length%64+n:=by rw[hml];omega
   have e2:(m'++y).length/64=m'.length/64:=by rw[hml];omega
   refine⟨_,by rw[e0,H4 m' y (by omega)];exact hc5,?_⟩
   rw[e0,e2,List.drop_append_of_le_length (by omega),←ht2]
   rw[List.take_append_of_le_length (by rw[List.length_append,List.length_take,hc2.lb,hyl];omega)]
   exact List.take_of_length_le (by rw[List.length_append,List.length_take,hc2.lb,hyl];omega)
 ·have hk':k=x.length:=by
   have:(x.drop k).length=x.length-k:=List.length_drop
   omega
  refine bc (aK (aK (bf ?_)))
  refine jw E ?_
  refine⟨_,rfl,q2,?_⟩
  rw[hk',List.take_length] at hm'
  rw[hm'] at hc2 ht2
  exact⟨blk,hc2,ht2⟩
theorem xG (w:World):Calls Tryz.prog 39 #[] w (bN fun r w'=>aH w w'∧∃g,w.heap.size≤g∧r=.pointer (some ⟨g,0,none⟩)∧HA g [] 0 w'):=by
 refine enter (vs:=[]) Tryz.func39 E E E ?_
 refine af (aa (ac E E (ag (ab (af (aa ?_))))))
 refine bC E E (run_build _ _ _ (iv.map bE).toArray (by kernel_rfl)) ?_
 refine bC E E (run_build _ _ _ (cZ iv (List.replicate 64 0) 0 0).toArray (by kernel_rfl)) ?_
 obtain⟨g,w1,hr,n1,x1,b1⟩:=BV (P:=Tryz.prog) (w:=w) (t:=154) (v:=.agg (cZ iv (List.replicate 64 0) 0 0).toArray) (l:=cZ iv (List.replicate 64 0) 0 0) rfl
 refine cw E E hr ?_
 refine ac E E (ag (ab (aw ?_)))
 refine au E E ?_
 exact⟨_,rfl,x1,g,n1,rfl,List.replicate 64 0,⟨b1,rfl,by simp⟩,rfl⟩
theorem HC.ldH {g:Nat} {st:List UInt32} {blk:List UInt8} {u:Int} {tot:UInt64} {w:World} (h:HC g st blk u tot w):(Instr.loadAt 154 (.pointer (some ⟨g,0,none⟩))).run Tryz.prog w=.ok (.agg (cZ st blk u tot).toArray) w:=
 nV (m:=cZ st blk u tot) h.hb (fun j v hj=>by rwa [Nat.zero_add]) LR rfl (by rw[gW h.ls h.lb];exact xC)
theorem K0 {st:List UInt32} {blk:List UInt8} {u:Int} {tot:UInt64}:∀v∈cZ st blk u tot,v.oneCell'=true:=by
 intro v hv
 unfold cZ at hv
 rcases List.mem_append.1 hv with h|h
 ·exact jZ _ v h
 ·rcases List.mem_append.1 h with h|h
  ·exact rt _ v h
  ·simp only[List.mem_cons,List.not_mem_nil,or_false] at h
   rcases h with rfl|rfl<;>rfl
end Go.Rl
namespace Go.Rl
open Go.RowKit Go.Proofs
theorem xH:aJ Tryz.prog 42:=⟨_,Tryz.func42,by kernel_rfl,rfl⟩
theorem JS:(Tryz.prog.info? 155).map (·.zero)=some (some (.agg (List.replicate 8 (U8 0)).toArray)):=by kernel_rfl
theorem AW {g k:Nat} {v:Value} (h:v.ownBlock=some k) (hne:k≠g):zb g v:=by
 rintro a n c rfl
 intro he
 have:some a.block=some k:=h
 exact hne (by rw[←Option.some.inj this];exact he)
theorem H7 (n:UInt64) {i:Nat} (hi:i<8):(AG n).getD i 0=(n>>>UInt64.ofNat (56-8*i)).toUInt8:=by
 simp[AG,hi]
section
variable {w:World} {g o:Nat} {T:TypeId}
theorem JU (i:Nat) (hi:i<8):(Instr.indexAt 155 (.pointer (some ⟨g,0,none⟩)) (I (i:Int))).run Tryz.prog w=.ok (.pointer (some ⟨g,i,none⟩)) w:=by
 have:=iz (P:=Tryz.prog) (w:=w) (g:=g) (o:=0) Tryz.underlying155 fe hi .i64
 rwa [Nat.zero_add] at this
theorem JV:(Instr.sliceAt 155 (.pointer (some ⟨g,0,none⟩)) none none none).run Tryz.prog w=.ok (.slice (some ⟨g,0,none⟩) 8 8) w:=by
 simp[Instr.sliceAt,run_underlying Tryz.underlying155,Instr.sureAddr,Instr.sliceBounds,fh fe,Addr.add_mid]
theorem bQ.bts {m:List UInt8} (h:bQ g T (m.map U8) w) (hm:m.length≤64):cK m (.slice (some ⟨g,0,none⟩) m.length m.length) w:=
 ⟨_,_,_,rfl,Nat.le_refl _,by unfold maxLen;omega,by simp,fun _=>⟨_,rfl,fun j v hj=>by rw[Addr.add_mid,Nat.zero_add];exact h.cell hj⟩,fun h=>by cases h⟩
end
theorem xI {w:World} {g:Nat} {m:List UInt8} (hh:HA g m (UInt64.ofNat m.length) w):
 Calls Tryz.prog 42 #[.pointer (some ⟨g,0,none⟩)] w (bN fun r w'=>aH w w'∧r=.agg ((jD m).map U8).toArray):=by
 obtain⟨blk,hc,ht⟩:=hh
 refine enter (vs:=[.pointer (some ⟨g,0,none⟩)]) Tryz.func42 E E E ?_
 obtain⟨g2,w1,hr,n2,x1,b2⟩:=a9 (P:=Tryz.prog) (w:=w) (l:=(List.replicate 32 0).map U8) li rfl
 refine af (aa (aS E hr (ag (ab (af (af (aa (ae E E ?_))))))))
 refine al E E E (fT LP) ?_
 refine ag (ab ?_)
 refine cN E ?_
 refine aC (ab (af (aa (ae E E ?_))))
 refine aE E E ?_
 refine aj E E (hc.ext x1).ldH ?_
 obtain⟨g3,w2,hr,n3,x2,b3⟩:=a9 (P:=Tryz.prog) (w:=w1) (l:=cZ (List.replicate 8 0) (List.replicate 64 0) 0 0) EC rfl
 refine aS E hr ?_
 have hl:=gW (u:=((m.length%64:Nat):Int)) (tot:=UInt64.ofNat m.length) hc.ls hc.lb
 refine ay E E (ju b3 (by rw[hl];rfl) (by rw[hl];exact xC) K0) ?_
 have hA:HA g3 m (UInt64.ofNat m.length) (w2.setRow g3 (cZ (sh m) blk ((m.length%64:Nat):Int) (UInt64.ofNat m.length)).toArray):=⟨blk,⟨b3.row _,hc.ls,hc.lb⟩,ht⟩
 have q3:=bJ w2 g3 (cZ (sh m) blk ((m.length%64:Nat):Int) (UInt64.ofNat m.length)).toArray
 have l23:g2<g3:=Nat.lt_of_lt_of_le b2.lt n3
 have ne23:some g2≠some g3:=fun h=>by cases h;omega
 have hw3:w.heap.size≤g3:=by omega
 have B2:=(b2.ext x2).other q3 ne23
 have E3:=(x1.trans x2).of_new q3 hw3
 revert hA B2 E3
 generalize w2.setRow g3 (cZ (sh m) blk ((m.length%64:Nat):Int) (UInt64.ofNat m.length)).toArray=w3
 intro hA B2 E3
 refine ag (ab (af (aa ?_)))
 refine ah E E JQ ?_
 obtain⟨blk',hcA,htA⟩:=id hA
 refine aj E E (ai Lp E hcA.cellT) ?_
 refine al (v:=bW 8) E E E (iJ) ?_
 refine ac E E (ag (ab (af (aa ?_))))
 obtain⟨r4,w4,hr,x4,o4,ob4⟩:=dS (w:=w3) w3.heap.size [128] (by simp) (Nat.le_refl _)
 refine aF (vs:=[(0,U8 128)]) E E hr ?_
 refine an f5 E E (f6 (hA.ext x4) o4.bts (fun _=>AW ob4 (by have:=hA.lt;omega))) ?_
 rintro _ w5 ⟨q5,h5⟩
 have B5:=(B2.ext x4).other q5 ne23
 have E5:=(E3.trans x4).of_new q5 hw3
 refine ag (ab ?_)
 have hp:gU m.length<64:=by unfold gU;omega
 refine af (ew (fun _:Unit=>[(2,.pointer (some ⟨g2,0,none⟩)),(3,.pointer (some ⟨g3,0,none⟩)),(4,bW (UInt64.ofNat m.length*8))]) (fun _ w'=>aH w w'∧bQ g2 24 ((List.replicate 32 0).map U8) w'∧∃tot,HA g3 (m++[128]++List.replicate (gU m.length) 0) tot w') ?_ ?_)
 ·refine aG ?_
  refine ck (α:=Nat) (fun _=>[(2,.pointer (some ⟨g2,0,none⟩)),(3,.pointer (some ⟨g3,0,none⟩)),(4,bW (UInt64.ofNat m.length*8))])
   (fun k w'=>aH w w'∧bQ g2 24 ((List.replicate 32 0).map U8) w'∧(∃tot,HA g3 (m++[128]++List.replicate k 0) tot w')∧k≤gU m.length) (fun k=>gU m.length-k) 0 ⟨rfl,rfl,rfl,trivial⟩
   ⟨E5,B5,⟨_,by simpa using h5⟩,by omega⟩ ?_
  rintro k w6 ⟨E6,B6,⟨tot,h6⟩,hk⟩
  obtain⟨blk6,hc6,ht6⟩:=id h6
  have hm:(m++[128]++List.replicate k 0).length=m.length+1+k:=by simp;omega
  refine af (af (aa ?_))
  refine ah E E ED ?_
  refine aj E E (ai Lo E hc6.cellU) ?_
  refine al E E E (dn) ?_
  refine ag (ab ?_)
  rw[hm]
  refine bu E (fun h=>?_) (fun h=>?_)
  ·have hlt:k<gU m.length:=by
    rcases Nat.lt_or_ge k (gU m.length) with h1|h1
    ·exact h1
    ·have:k=gU m.length:=by omega
     subst this
     exfalso
     unfold gU at h
     omega
   refine aC (ab (aG (aa ?_)))
   obtain⟨r7,w7,hr,x7,o7,ob7⟩:=dS (w:=w6) w6.heap.size [0] (by simp) (Nat.le_refl _)
   refine aF (vs:=[(0,U8 0)]) E E hr ?_
   refine an f5 E E (f6 (h6.ext x7) o7.bts (fun _=>AW ob7 (by have:=h6.lt;omega))) ?_
   rintro _ w8 ⟨q8,h8⟩
   refine ag (aW ?_)
   rw[List.append_assoc _ (List.replicate k 0) [0],←List.replicate_succ'] at h8
   exact bS (k+1) ⟨rfl,rfl,rfl,trivial⟩ ⟨(E6.trans x7).of_new q8 hw3,(B6.ext x7).other q8 ne23,⟨_,h8⟩,hlt⟩ (by omega)
  ·have hk':k=gU m.length:=by
    unfold gU at hk hp⊢
    omega
   subst hk'
   exact bc (aK (aK (bf (cf () ⟨rfl,rfl,rfl,trivial⟩ ⟨E6,B6,tot,h6⟩))))
 rintro _ w6 ⟨E6,B6,tot6,h6⟩
 refine ab (af (aa ?_))
 obtain⟨bits,hbits⟩:∃b,b=UInt64.ofNat m.length*8:=⟨_,rfl⟩
 rw[←hbits]
 have hb8:=y8 bits
 obtain⟨g5,w7,hr,n5,x7,b7⟩:=a9 (P:=Tryz.prog) (w:=w6) (l:=(fm (AG bits) 8 0).map U8) JS rfl
 refine aS E hr (ag (ab ?_))
 have l35:g3<g5:=Nat.lt_of_lt_of_le h6.lt n5
 have ne25:some g2≠some g5:=fun h=>by cases h;omega
 have ne35:some g3≠some g5:=fun h=>by cases h;omega
 refine af (ew (fun _:Unit=>[(2,.pointer (some ⟨g2,0,none⟩)),(3,.pointer (some ⟨g3,0,none⟩)),(5,.pointer (some ⟨g5,0,none⟩))]) (fun _ w'=>w7.grownBy w' (some g5)∧bQ g5 155 ((AG bits).map U8) w') ?_ ?_)
 ·refine af (aa (ae E E (ag (ab (aG ?_)))))
  refine ck (α:=Nat) (fun i=>[(2,.pointer (some ⟨g2,0,none⟩)),(3,.pointer (some ⟨g3,0,none⟩)),(4,bW bits),(5,.pointer (some ⟨g5,0,none⟩)),(27,I (i:Int))])
   (fun i w'=>w7.grownBy w' (some g5)∧bQ g5 155 ((fm (AG bits) 8 i).map U8) w'∧i≤8) (fun i=>8-i) 0 ⟨rfl,rfl,rfl,rfl,rfl,trivial⟩
   ⟨dZ (aH.refl _),b7,by omega⟩ ?_
  rintro i w8 ⟨q8,b8,hi⟩
  refine af (aa ?_)
  refine al E E E (a6) ?_
  refine ag (ab (af ?_))
  refine bu E (fun h=>?_) (fun h=>?_)
  ·have hi8:i<8:=by omega
   have hfl:=jP (j:=i) hb8 (by omega)
   have e6:(56:Int)-8*(i:Int)=((56-8*i:Nat):Int):=by omega
   refine aC (ab (af (aG (af (aa (ae E E (ac E E (ag (ab (aa (ae E E (ae E E (ae E E ?_)))))))))))))
   refine al E E E (fc (by omega) (by omega)) ?_
   refine al (r:=I ((56-8*i:Nat):Int)) E E E (by rw[←e6];exact bD (by omega) (by omega)) ?_
   refine al E E E (dk (56-8*i) (by omega)) ?_
   refine bb E E (lB Lp Lx) ?_
   refine ar E E E (JU i hi8) ?_
   refine ay E E (xB b8 i (by omega)) ?_
   have b9:=b8.setB i (bits>>>UInt64.ofNat (56-8*i)).toUInt8
   have hset:(fm (AG bits) 8 i).set i (bits>>>UInt64.ofNat (56-8*i)).toUInt8=fm (AG bits) 8 (i+1):=by
    rw[←H7 bits hi8]
    exact jQ hb8 hi8
   rw[hset] at b9
   refine ag (aW (ab (aa ?_)))
   refine al E E E (aR (by omega) (by omega)) ?_
   refine ae E E (ag ?_)
   exact bS (i+1) ⟨rfl,rfl,rfl,rfl,rfl,trivial⟩ ⟨q8.trans (bi w8 g5 i _),b9,by omega⟩ (by omega)
  ·have hi':i=8:=by omega
   subst hi'
   rw[su hb8] at b8
   exact bc (aK (aK (bf (cf () ⟨rfl,rfl,rfl,trivial⟩ ⟨q8,b8⟩))))
 rintro _ w8 ⟨q8,b8⟩
 have E8:aH w w8:=(E6.trans x7).of_new q8 (by omega)
 have B8:=(B6.ext x7).other q8 ne25
 have h8:=(h6.ext x7).other q8 ne35
 refine ab (af (aa ?_))
 refine dm (a:=none) (b:=none) E E E E E JV ?_
 have bt8:=b8.bts (by omega)
 rw[hb8] at bt8
 refine an f5 rfl rfl (f6 h8 bt8 (by rintro _ a n c he;cases he;show g5≠g3;omega)) ?_
 rintro _ w9 ⟨q9,h9⟩
 have hpad:m++[128]++List.replicate (gU m.length) 0++AG bits=er m:=by rw[hbits];rfl
 rw[hpad] at h9
 have E9:=E8.of_new q9 hw3
 have B9:=B8.other q9 ne23
 refine ag (ab (af (aa ?_)))
 obtain⟨g7,w10,hr,n7,x10,b10⟩:=a9 (P:=Tryz.prog) (w:=w9) (l:=(fm (jD m) 32 0).map U8) li rfl
 refine aS E hr (ag (ab ?_))
 obtain⟨blk9,hc9,_⟩:=h9.ext x10
 have l37:g3<g7:=Nat.lt_of_lt_of_le h9.lt n7
 have ne27:some g2≠some g7:=fun h=>by cases h;omega
 have hs8:=Gn (er m)
 have hdl:=dx m
 refine af (ew (fun _:Unit=>[(2,.pointer (some ⟨g2,0,none⟩)),(7,.pointer (some ⟨g7,0,none⟩))]) (fun _ w'=>w10.grownBy w' (some g7)∧bQ g7 24 ((jD m).map U8) w') ?_ ?_)
 ·refine af (aa ?_)
  refine ah E E H3 ?_
  refine aj E E hc9.ldS ?_
  refine ae E E (ag (ab (aG ?_)))
  refine ck (α:=Nat) (fun i=>[(2,.pointer (some ⟨g2,0,none⟩)),(7,.pointer (some ⟨g7,0,none⟩)),(42,.agg ((sh (er m)).map bE).toArray),(43,I (i:Int))])
   (fun i w'=>w10.grownBy w' (some g7)∧bQ g7 24 ((fm (jD m) 32 (4*i)).map U8) w'∧i≤8) (fun i=>8-i) 0 ⟨rfl,rfl,rfl,rfl,trivial⟩
   ⟨dZ (aH.refl _),b10,by omega⟩ ?_
  rintro i w11 ⟨q11,b11,hi⟩
  refine af (aa ?_)
  refine al E E E (a6) ?_
  refine ag (ab (af ?_))
  refine bu E (fun h=>?_) (fun h=>?_)
  ·have hi8:i<8:=by omega
   have e0:(4:Int)*(i:Int)=((4*i:Nat):Int):=by omega
   have e1:((4*i:Nat):Int)+1=((4*i+1:Nat):Int):=by omega
   have e2:((4*i:Nat):Int)+2=((4*i+2:Nat):Int):=by omega
   have e3:((4*i:Nat):Int)+3=((4*i+3:Nat):Int):=by omega
   have s0:=jP (j:=4*i) hdl (by omega)
   have s1:=jP (j:=4*i+1) hdl (by omega)
   have s2:=jP (j:=4*i+2) hdl (by omega)
   have s3:=jP (j:=4*i+3) hdl (by omega)
   refine aC (ab (af (aG (af (aa (ae E E ?_))))))
   refine lZ E E E (FD (l:=(sh (er m)).map bE) LN dW Ll hi8 .i64 (vn (by omega))) ?_
   refine ac E E (ac E E (ag (ab (aa (ae E E ?_)))))
   refine al (r:=I ((4*i:Nat):Int)) E E E (by rw[←e0];exact fc (by omega) (by omega)) ?_
   refine ae E E ?_
   refine al (r:=I ((4*i:Nat):Int)) E E E (by rw[←e0];exact fc (by omega) (by omega)) ?_
   refine al (r:=I ((4*i+1:Nat):Int)) E E E (by rw[←e1];exact aR (by omega) (by omega)) ?_
   refine ae E E ?_
   refine al (r:=I ((4*i:Nat):Int)) E E E (by rw[←e0];exact fc (by omega) (by omega)) ?_
   refine al (r:=I ((4*i+2:Nat):Int)) E E E (by rw[←e2];exact aR (by omega) (by omega)) ?_
   refine ae E E ?_
   refine al (r:=I ((4*i:Nat):Int)) E E E (by rw[←e0];exact fc (by omega) (by omega)) ?_
   refine al (r:=I ((4*i+3:Nat):Int)) E E E (by rw[←e3];exact aR (by omega) (by omega)) ?_
   refine ae E E ?_
   refine al E E E (cO 24 (by omega)) ?_
   refine bb E E (dG Ll Lx) ?_
   refine ae E E ?_
   refine al E E E (cO 16 (by omega)) ?_
   refine bb E E (dG Ll Lx) ?_
   refine ae E E ?_
   refine al E E E (cO 8 (by omega)) ?_
   refine bb E E (dG Ll Lx) ?_
   refine ae E E ?_
   refine bb E E (dG Ll Lx) ?_
   have d0:(jD m).getD (4*i) 0=((sh (er m)).getD i 0>>>UInt32.ofNat 24).toUInt8:=lP (sh (er m)) i 0 (by omega) (by omega)
   have d1:(jD m).getD (4*i+1) 0=((sh (er m)).getD i 0>>>UInt32.ofNat 16).toUInt8:=lP (sh (er m)) i 1 (by omega) (by omega)
   have d2:(jD m).getD (4*i+2) 0=((sh (er m)).getD i 0>>>UInt32.ofNat 8).toUInt8:=lP (sh (er m)) i 2 (by omega) (by omega)
   have d3:(jD m).getD (4*i+3) 0=((sh (er m)).getD i 0).toUInt8:=by
    have:=lP (sh (er m)) i 3 (by omega) (by omega)
    rw[show UInt32.ofNat (24-8*3)=0 from rfl,UInt32.shiftRight_zero] at this
    exact this
   have f0:(fm (jD m) 32 (4*i)).set (4*i) ((jD m).getD (4*i) 0)=fm (jD m) 32 (4*i+1):=jQ hdl (by omega)
   have f1:(fm (jD m) 32 (4*i+1)).set (4*i+1) ((jD m).getD (4*i+1) 0)=fm (jD m) 32 (4*i+2):=jQ hdl (by omega)
   have f2:(fm (jD m) 32 (4*i+2)).set (4*i+2) ((jD m).getD (4*i+2) 0)=fm (jD m) 32 (4*i+3):=jQ hdl (by omega)
   have f3:(fm (jD m) 32 (4*i+3)).set (4*i+3) ((jD m).getD (4*i+3) 0)=fm (jD m) 32 (4*(i+1)):=jQ hdl (by omega)
   rw[d0] at f0
   rw[d1] at f1
   rw[d2] at f2
   rw[d3] at f3
   refine ar E E E (vm (4*i) (by omega)) ?_
   refine ay E E (xB b11 (4*i) (by omega)) ?_
   have b12:=b11.setB (4*i) ((sh (er m)).getD i 0>>>UInt32.ofNat 24).toUInt8
   rw[f0] at b12
   refine ar E E E (vm (4*i+1) (by omega)) ?_
   refine ay E E (xB b12 (4*i+1) (by omega)) ?_
   have b13:=b12.setB (4*i+1) ((sh (er m)).getD i 0>>>UInt32.ofNat 16).toUInt8
   rw[f1] at b13
   refine ar E E E (vm (4*i+2) (by omega)) ?_
   refine ay E E (xB b13 (4*i+2) (by omega)) ?_
   have b14:=b13.setB (4*i+2) ((sh (er m)).getD i 0>>>UInt32.ofNat 8).toUInt8
   rw[f2] at b14
   refine ar E E E (vm (4*i+3) (by omega)) ?_
   refine ay E E (xB b14 (4*i+3) (by omega)) ?_
   have b15:=b14.setB (4*i+3) ((sh (er m)).getD i 0).toUInt8
   rw[f3] at b15
   refine ag (aW (ab (aa ?_)))
   refine al E E E (aR (by omega) (by omega)) ?_
   refine ae E E (ag ?_)
   exact bS (i+1) ⟨rfl,rfl,rfl,rfl,trivial⟩ ⟨(((q11.trans (bi _ g7 (4*i) _)).trans (bi _ g7 (4*i+1) _)).trans (bi _ g7 (4*i+2) _)).trans (bi _ g7 (4*i+3) _),b15,by omega⟩ (by omega)
  ·have hi':i=8:=by omega
   subst hi'
   rw[show 4*8=32 from rfl,su hdl] at b11
   exact bc (aK (aK (bf (cf () ⟨rfl,rfl,trivial⟩ ⟨q11,b11⟩))))
 rintro _ w11 ⟨q11,b11⟩
 have hsz:(Tryz.prog.info? 24).map (·.size)=some ((jD m).map U8).length:=by rw[List.length_map,dx];exact mW
 have F2:=(B9.ext x10).other q11 ne27
 have E11:aH w w11:=(E9.trans x10).of_new q11 (by omega)
 refine ab (af (aa ?_))
 refine aj E E (nV (m:=(jD m).map U8) b11 (fun j v h=>by rwa [Nat.zero_add]) LH E hsz) ?_
 refine ay E E (ju F2 (by simp[dx]) hsz (rt _)) ?_
 refine ag (ab (aw ?_))
 refine cM E E (F2.row _) LH E hsz ?_
 exact⟨_,rfl,E11.of_new (bJ _ _ _) n2,rfl⟩
end Go.Rl
namespace Go.Rl
open Go.RowKit Go.Proofs
theorem AX {P:Program} {w:World} {t:TypeId} {x y:Operand} {a b:Array Value} (hg:P.eqGuardType P.depth t=false):(bin .neq t x y (.agg a) (.agg b)).run P w=(do pure (Value.bool (!(←Op.equal t (.agg a) (.agg b)))):Sem Value).run P w:=by
 show(do eqGuard .neq t x y (.agg a) (.agg b);binOp .neq t (.agg a) (.agg b):Sem Value).run P w=_
 rw[Sem.run_bind,run_eqGuard_agg (hm:=hg)]
 rfl
theorem EG:aJ Tryz.prog 52:=⟨_,Tryz.func52,by kernel_rfl,rfl⟩
theorem cK.old {l:List UInt8} {v:Value} {w:World} (h:cK l v w) {g:Nat} (hg:w.heap.size≤g):0<l.length→zb g v:=fun h0 a n c he=>by
 obtain⟨A,n',c',rfl,h1,h2,h3,h4,h5⟩:=h
 have hn:l.length=n':=by simpa using h3
 obtain⟨ad,rfl,hc⟩:=h4 (by omega)
 simp only[Value.slice.injEq,Option.some.injEq] at he
 obtain⟨rfl,_,_⟩:=he
 have h6:=hc 0 (U8 l[0]) (by simp[h0])
 rw[i9] at h6
 have:ad.block<w.heap.size:=by
  rcases Nat.lt_or_ge ad.block w.heap.size with h7|h7
  ·exact h7
  ·simp[World.cell?,Array.getElem?_eq_none h7] at h6
 omega
end Go.Rl
namespace Go.Rl
open Go.RowKit Go.Proofs
theorem EH {w:World} {l:List UInt8} {v:Value} (hv:cK l v w):
 Calls Tryz.prog 52 #[v] w (bN fun r w'=>aH w w'∧r=.agg ((jD l).map U8).toArray):=by
 refine enter (vs:=[v]) Tryz.func52 E E E ?_
 obtain⟨g2,w1,hr,n2,x1,b2⟩:=a9 (P:=Tryz.prog) (w:=w) (l:=(List.replicate 32 0).map U8) li rfl
 refine af (aa (aS E hr (ag (ab (af (aa ?_))))))
 refine an (vs:=[]) xD E E (xG w1) ?_
 rintro _ w2 ⟨x2,g,hg,rfl,hA⟩
 refine ac E E (ag (ab (af (aa (ae E E (ae E E ?_))))))
 have e2:=x1.trans x2
 refine an f5 E E (f6 hA (hv.ext e2) (hv.old (Nat.le_trans x1.size hg))) ?_
 rintro _ w3 ⟨q3,h3⟩
 rw[List.nil_append,UInt64.zero_add] at h3
 have l2:g2<g:=Nat.lt_of_lt_of_le b2.lt hg
 have hwg:w.heap.size≤g:=by omega
 have e3:=e2.of_new q3 hwg
 have B3:=(b2.ext x2).other q3 (fun h=>by cases h;omega)
 refine ag (ab (af (aa (ae E E ?_))))
 refine an xH E E (xI h3) ?_
 rintro _ w4 ⟨x4,rfl⟩
 have hsz:(Tryz.prog.info? 24).map (·.size)=some ((jD l).map U8).length:=by rw[List.length_map,dx];exact mW
 have B4:=B3.ext x4
 refine ay E E (ju B4 (by simp[dx]) hsz (rt _)) ?_
 refine ag (ab (aw ?_))
 refine cM E E (B4.row _) LH E hsz ?_
 exact⟨_,rfl,(e3.trans x4).of_new (bJ _ _ _) n2,rfl⟩
end Go.Rl
namespace Go.Rl
open Go.RowKit
def JW:List UInt8:=[82,76,85,67]
abbrev AY:=List UInt8×List aP
def vY:List UInt8:=List.replicate 32 0
def Kt:AY:=(vY,[])
def upC (l:List UInt8):List UInt8×Int:=JP ((l.take (l.length-32)).drop 36) 4194304 (vr ((l.take (l.length-32)).drop 36))
def trC (b:List UInt8):Option (List aP):=match rdTs b with
 |some (ts,[])=>some ts
 |_=>none
def H8 (l:List UInt8):AY×Int:=
 if 1048576<l.length then(Kt,8) else if l.length<68∨l.take 4≠JW then(Kt,5) else if jD (l.take (l.length-32))≠l.drop (l.length-32) then(Kt,6) else
  if (upC l).2≠0 then(Kt,(upC l).2) else match trC (upC l).1 with
  |some ts=>if ts.all iF=true then(((l.take 36).drop 4,ts),0) else(Kt,1)
  |none=>(Kt,5)
theorem AZ {α:Type} {p:α→Bool} {l:List α} {i:Nat} (hi:i<l.length):(l.drop i).all p=(p l[i]&&(l.drop (i+1)).all p):=by
 rw[List.drop_eq_getElem_cons hi];rfl
end Go.Rl
namespace Go.Rl
open Go.RowKit
def Jb (d p:List UInt8):List UInt8:=JW++d++p++jD (JW++d++p)
def JX (c:AY):List UInt8×Int:=if (c.2.all fun n=>iF n&&iG n)=true then(if 4194304<(Gr c.2).length then([],8) else if 1048576<(Jb c.1 (yW (Gr c.2))).length then([],8) else(Jb c.1 (yW (Gr c.2)),0)) else([],1)
end Go.Rl
namespace Go.Rl
open Go.RowKit Go.Proofs
theorem Dm {w:World} {l:List UInt8} {v:Value} (h:cK l v w) (hl:l.length=32):∃ad,(∀w':World,(Instr.arrayAt 24 v).run Tryz.prog w'=.ok (.pointer (some ad)) w')∧dw w ad (l.map U8):=by
 obtain⟨A,n,c,rfl,h1,h2,h3,h4,h5⟩:=h
 have hn:n=32:=by simp at h3;omega
 subst hn
 obtain⟨ad,rfl,hc⟩:=h4 (by omega)
 exact⟨ad,fun w'=>by simp[Instr.arrayAt,run_underlying Tryz.underlying24],hc⟩
theorem tQ {w:World} {l:List UInt8} {ad:Addr} (h:dw w ad (l.map U8)) (hl:l.length=32):(Instr.loadAt 24 (.pointer (some ad))).run Tryz.prog w=.ok (.agg (l.map U8).toArray) w:=
 h.ld LH rfl (by rw[List.length_map,hl];exact mW)
end Go.Rl
namespace Go.Rl
open Go.RowKit Go.Proofs
theorem tq:aJ Tryz.prog 71:=⟨_,Tryz.func71,by kernel_rfl,rfl⟩
theorem BX:aJ Tryz.prog 70:=⟨_,Tryz.func70,by kernel_rfl,rfl⟩
theorem A0:aJ Tryz.prog 27:=⟨_,Tryz.func27,by kernel_rfl,rfl⟩
section
variable {w:World}
theorem dw.ldO {P:Program} {t:TypeId} {d:TypeDesc} {ad:Addr} {cs ms:List Value} {o:Nat} (h:dw w ad cs) (hm:∀j v,ms[j]? =some v→cs[o+j]? =some v) (ht:P.underlying t=some d) (hd:d.isRow=true) (hz:(P.info? t).map (·.size)=some ms.length):(Instr.loadAt t (.pointer (some (ad.add o)))).run P w=.ok (.agg ms.toArray) w:=
 dw.ld (ad:=ad.add o) (fun j u hu=>by rw[qJ];exact h (o+j) u (hm j u hu)) ht hd hz
end
theorem Dn {P:Program} {w:World} {x y:Operand} {t:TypeId} (ht:P.underlying t=some .bool) {a b:Bool}:(bin .neq t x y (B a) (B b)).run P w=.ok (B (decide (a≠b))) w:=by
 have h:(Op.equal t (B a) (B b)).run P w=.ok (decide (a=b)) w:=by
  show(Op.equalIn (9999+1) t (.bool a) (.bool b)).run P w=_
  unfold Op.equalIn
  cases a<;>cases b<;>simp[run_underlying ht]
 show(do pure (Value.bool (!(←Op.equal t (B a) (B b)))):Sem Value).run P w=_
 rw[Sem.run_bind,h]
 show Result.ok (Value.bool (!decide (a=b))) w=_
 rw[←decide_not];rfl
theorem GN:Tryz.prog.eqGuardType Tryz.prog.depth 185=false:=by kernel_rfl
theorem H9 {w:World} {x y:Operand} {a b c d:Int}:(bin .neq 185 x y (.agg #[I a,I b,I c,I d]) (.agg #[I a,I b,I c,I d])).run Tryz.prog w=.ok (B false) w:=by
 have h:(Op.equal 185 (.agg #[I a,I b,I c,I d]) (.agg #[I a,I b,I c,I d])).run Tryz.prog w=.ok true w:=by
  show(Op.equalIn (9999+1) 185 _ _).run Tryz.prog w=_
  rw[run_equalIn_struct w 9999 185 _ _ (by kernel_rfl) (by kernel_rfl)]
  simp only[Program.fieldsOf,Tryz.underlying185]
  simp[Op.eqFields,part,I,Tryz.underlying3,run_equalIn_int _ 9998 3 .i64 .i64]
 rw[AX GN,Sem.run_bind,h];rfl
theorem tt {w:World} {l:List cp} {v u:Value} (hv:cd bK l v w) (hu:cd bK l u w):
 Calls Tryz.prog 71 #[v,u] w (bN fun r w'=>aH w w'∧r=B true):=by
 refine enter (vs:=[v,u]) Tryz.func71 E E E ?_
 have hll:=hv.len
 refine af (aa (ac E E (ag (ab (af (af (aa (ae E E (aV E E (aY Ly hv) (ae E E (aV E E (aY Ly hu) ?_)))))))))))
 refine al E E E (d7 (fun h=>h E) dn) (ag (ab (cN E (aC (ab (af (af (aa (ac E E (ag (ab (aG ?_))))))))))))
 refine ck (α:=Nat) (fun x=>[(0,v),(1,u),(5,I (x:Int))]) (fun x w'=>aH w w'∧x≤l.length) (fun x=>l.length-x) (0) ⟨rfl,rfl,rfl,trivial⟩ ⟨aH.refl _,by omega⟩ ?_
 rintro i w4 ⟨e4,hi⟩
 refine af (af (aa (ae E E (ae E E (aV E E (aY Ly (hv.ext e4)) (al E E E (a6) (ag (ab ?_))))))))
 refine bu E (fun h14=>?_) (fun h14=>?_)
 ·refine aC (ab (af (aG (af (bP 24 [0,1,5,28,40] (by kernel_rfl) (by kernel_rfl) ?_)))))
  refine ax E E (ax E E ?_)
  obtain⟨a19,c19,p19,q19,h19⟩:=cb (P:=Tryz.prog) (sz:=7) Ly (by kernel_rfl) dC (by omega) (hv.ext e4) (i:=i) (by omega) .i64
  obtain⟨e19,he19⟩:∃e,e=l[i]'(by omega):=⟨_,rfl⟩
  rw[←he19] at h19
  obtain⟨x19_0,x19_1,rfl,f19_0,f19_1⟩:=fI h19
  refine aD rfl rfl rfl (fun w _=>p19 w) (aX rfl rfl (fun w hw=>gt (o:=0) Tryz.underlying187 rfl (by kernel_rfl) rfl) (aQ rfl rfl (fun w hw=>(q19.ext hw).ldO (ms:=[I e19.kd,I e19.ix,I e19.lo,I e19.hi]) (o:=0) (fun j v hj=>by rcases j with _|_|_|_|_|_|_|_|_|j<;>simp_all) Tryz.underlying185 rfl (by kernel_rfl)) ?_))
  refine ax E E (ax E E ?_)
  obtain⟨a24,c24,p24,q24,h24⟩:=cb (P:=Tryz.prog) (sz:=7) Ly (by kernel_rfl) dC (by omega) (hu.ext e4) (i:=i) (by omega) .i64
  rw[←he19] at h24
  obtain⟨x24_0,x24_1,rfl,f24_0,f24_1⟩:=fI h24
  refine aD rfl rfl rfl (fun w _=>p24 w) (aX rfl rfl (fun w hw=>gt (o:=0) Tryz.underlying187 rfl (by kernel_rfl) rfl) (aQ rfl rfl (fun w hw=>(q24.ext hw).ldO (ms:=[I e19.kd,I e19.ix,I e19.lo,I e19.hi]) (o:=0) (fun j v hj=>by rcases j with _|_|_|_|_|_|_|_|_|j<;>simp_all) Tryz.underlying185 rfl (by kernel_rfl)) ?_))
  refine aZ E E E (fun w _=>H9) (ax E E (bI E E (ax E E (bI E E (ax E E (bI E E ?_))))))
  obtain⟨a31,c31,p31,q31,h31⟩:=cb (P:=Tryz.prog) (sz:=7) Ly (by kernel_rfl) dC (by omega) (hv.ext e4) (i:=i) (by omega) .i64
  rw[←he19] at h31
  obtain⟨x31_0,x31_1,rfl,f31_0,f31_1⟩:=fI h31
  refine aD E E E (fun w _=>p31 w) (bI E E (aX E E (fun w hw=>gt (o:=4) LF E (by kernel_rfl) E) ?_))
  refine bI rfl rfl (aQ rfl rfl (fun w hw=>(q31.ext hw).ldO (ms:=[B e19.co.1,x31_0,x31_1]) (o:=4) (fun j v hj=>by rcases j with _|_|_|_|_|_|_|_|_|j<;>simp_all) Tryz.underlying46 rfl (by kernel_rfl)) ?_)
  refine bI E E (ax E E (bI E E (ax E E (bI E E ?_))))
  obtain⟨a36,c36,p36,q36,h36⟩:=cb (P:=Tryz.prog) (sz:=7) Ly (by kernel_rfl) dC (by omega) (hu.ext e4) (i:=i) (by omega) .i64
  rw[←he19] at h36
  obtain⟨x36_0,x36_1,rfl,f36_0,f36_1⟩:=fI h36
  refine aD E E E (fun w _=>p36 w) (bI E E (aX E E (fun w hw=>gt (o:=4) LF E (by kernel_rfl) E) ?_))
  refine bI rfl rfl (aQ rfl rfl (fun w hw=>(q36.ext hw).ldO (ms:=[B e19.co.1,x36_0,x36_1]) (o:=4) (fun j v hj=>by rcases j with _|_|_|_|_|_|_|_|_|j<;>simp_all) Tryz.underlying46 rfl (by kernel_rfl)) ?_)
  refine bI rfl rfl (ce (S:=Is (B true)) mI (bO.is _) rfl (fun w hw=>by rintro _ rfl _ rfl;exact bN.mono (BT (a:=e19.co) (b:=e19.co) (f31_0.ext hw) (f31_1.ext hw) (f36_0.ext hw) (f36_1.ext hw)) fun v w' h=>⟨h.1,by rw[h.2,decide_eq_true rfl];rfl⟩) ?_)
  refine bI E E (zV E E (fun w _=>bB) (cn ?_))
  intro wg6 xg6
  rintro _ hq0
  obtain rfl:=Eq.symm hq0
  rintro _ hq1
  obtain rfl:=Eq.symm hq1
  rintro _ rfl
  rintro _ rfl
  rintro _ rfl
  refine aI E E E (ag (ab (cN E (aC (aW (ab (aa (ae E E (al (r:=I ((i+1:Nat):Int)) E E E (by have e:((i+1:Nat):Int)=(i:Int)+1:=(by omega);rw[e];exact aR (by omega) (by omega)) ?_)))))))))
  refine ac E E (ag ?_)
  refine bS (i+1) ⟨rfl,rfl,rfl,trivial⟩ ⟨(e4.trans xg6),by omega⟩ (by omega)
 ·refine bc (aK (aK (bf (ab (af (aa (ac E E (ag (ab (aw (au E E ?_)))))))))))
  exact⟨_,rfl,e4,rfl⟩
theorem A1 {w:World} {a:eW} {x y p q:Value} (ha:bk a.2.1 x w) (ha':bk a.2.2 y w) (hb:bk a.2.1 p w) (hb':bk a.2.2 q w):
 Calls Tryz.prog 105 #[.agg #[B a.1,x,y],.agg #[B a.1,p,q]] w (bN fun r w'=>aH w w'∧r=B true):=
 bN.mono (BT (a:=a) (b:=a) ha ha' hb hb') fun v w' h=>⟨h.1,by rw[h.2,decide_eq_true rfl]⟩
theorem EI {w:World} {a:bj} {x y p q:Value} (ha:bk a.at_.2.1 x w) (ha':bk a.at_.2.2 y w) (hb:bk a.at_.2.1 p w) (hb':bk a.at_.2.2 q w):
 Calls Tryz.prog 69 #[.agg #[I a.kd,I a.ix,B a.at_.1,x,y],.agg #[I a.kd,I a.ix,B a.at_.1,p,q]] w (bN fun r w'=>aH w w'∧r=B true):=
 bN.mono (sq (a:=a) (b:=a) ha ha' hb hb') fun v w' h=>⟨h.1,by rw[h.2,decide_eq_true rfl]⟩
set_option maxHeartbeats 2000000 in
theorem BY {w:World} {l:List eB} {v u:Value} (hv:cd cP l v w) (hu:cd cP l u w):
 Calls Tryz.prog 70 #[v,u] w (bN fun r w'=>aH w w'∧r=B true):=by
 refine enter (vs:=[v,u]) Tryz.func70 E E E ?_
 have hll:=hv.len
 refine af (aa (ac E E (ag (ab (af (af (aa (ae E E (aV E E (aY Lz hv) (ae E E (aV E E (aY Lz hu) ?_)))))))))))
 refine al E E E (d7 (fun h=>h E) dn) (ag (ab (cN E (aC (ab (af (af (aa (ac E E (ag (ab (aG ?_))))))))))))
 refine ck (α:=Nat) (fun x=>[(0,v),(1,u),(5,I (x:Int))]) (fun x w'=>aH w w'∧x≤l.length) (fun x=>l.length-x) (0) ⟨rfl,rfl,rfl,trivial⟩ ⟨aH.refl _,by omega⟩ ?_
 rintro i w4 ⟨e4,hi⟩
 refine af (af (aa (ae E E (ae E E (aV E E (aY Lz (hv.ext e4)) (al E E E (a6) (ag (ab ?_))))))))
 refine bu E (fun h14=>?_) (fun h14=>?_)
 ·refine aC (ab (af (aG (af (bP 51 [0,1,5,55,67] (by kernel_rfl) (by kernel_rfl) ?_)))))
  refine ax (S:=Is (v)) E E (ax (S:=Is (I (i:Int))) E E ?_)
  obtain⟨a19,c19,p19,q19,h19⟩:=cb (P:=Tryz.prog) (sz:=6) Lz (by kernel_rfl) cY (by omega) (hv.ext e4) (i:=i) (by omega) .i64
  obtain⟨e19,he19⟩:∃e,e=l[i]'(by omega):=⟨_,rfl⟩
  rw[←he19] at h19
  obtain⟨x19_0,x19_1,x19_2,rfl,f19_0,f19_1,f19_2⟩:=eK h19
  refine aD E E E (fun w _=>p19 w) (aX E E (fun w hw=>gt (o:=0) LB E (by kernel_rfl) E) ?_)
  refine aQ E E (fun w hw=>ai Lo E (hw.cell_some (q19.at (j:=0) E))) (ax (S:=Is (u)) E E (ax (S:=Is (I (i:Int))) E E ?_))
  obtain⟨a24,c24,p24,q24,h24⟩:=cb (P:=Tryz.prog) (sz:=6) Lz (by kernel_rfl) cY (by omega) (hu.ext e4) (i:=i) (by omega) .i64
  rw[←he19] at h24
  obtain⟨x24_0,x24_1,x24_2,rfl,f24_0,f24_1,f24_2⟩:=eK h24
  refine aD E E E (fun w _=>p24 w) (aX E E (fun w hw=>gt (o:=0) LB E (by kernel_rfl) E) ?_)
  refine aQ E E (fun w hw=>ai Lo E (hw.cell_some (q24.at (j:=0) E))) (aZ E E E (fun w _=>d7 (fun h=>h E) dn) ?_)
  refine ax (S:=Is (B false)) E E (bI E E (ax (S:=Is (v)) E E (bI E E (ax (S:=Is (I (i:Int))) E E (bI E E (aD E E E (fun w _=>p19 w) ?_))))))
  refine bI E E (aX E E (fun w hw=>gt (o:=1) LB E (by kernel_rfl) E) (bI E E (aQ E E (fun w hw=>ai Lw E (hw.cell_some (q19.at (j:=1) E))) ?_)))
  refine bI E E (ax (S:=Is (u)) E E (bI E E (ax (S:=Is (I (i:Int))) E E (bI E E (aD E E E (fun w _=>p24 w) (bI E E ?_))))))
  refine aX E E (fun w hw=>gt (o:=1) LB E (by kernel_rfl) E) (bI E E (aQ E E (fun w hw=>ai Lw E (hw.cell_some (q24.at (j:=1) E))) ?_))
  refine bI E E (aZ E E E (fun w _=>d7 (fun h=>h E) (Dn Lw)) (ua (S:=Is (B false)) E E E (ax (S:=Is (B false)) E E ?_)))
  refine bI E E (ax (S:=Is (v)) E E (bI E E (ax (S:=Is (I (i:Int))) E E (bI E E (aD E E E (fun w _=>p19 w) (bI E E ?_))))))
  refine aX rfl rfl (fun w hw=>gt (o:=2) Tryz.underlying173 rfl (by kernel_rfl) rfl) (bI rfl rfl (aQ rfl rfl (fun w hw=>(q19.ext hw).ldO (ms:=[B e19.va.1,x19_0,x19_1]) (o:=2) (fun j v hj=>by rcases j with _|_|_|_|_|_|_|_|_|j<;>simp_all) Tryz.underlying46 rfl (by kernel_rfl)) ?_))
  refine bI E E (ax (S:=Is (u)) E E (bI E E (ax (S:=Is (I (i:Int))) E E (bI E E (aD E E E (fun w _=>p24 w) (bI E E ?_))))))
  refine aX rfl rfl (fun w hw=>gt (o:=2) Tryz.underlying173 rfl (by kernel_rfl) rfl) (bI rfl rfl (aQ rfl rfl (fun w hw=>(q24.ext hw).ldO (ms:=[B e19.va.1,x24_0,x24_1]) (o:=2) (fun j v hj=>by rcases j with _|_|_|_|_|_|_|_|_|j<;>simp_all) Tryz.underlying46 rfl (by kernel_rfl)) ?_))
  refine bI rfl rfl (ce (S:=Is (B true)) mI (bO.is _) rfl (fun w hw=>by rintro _ rfl _ rfl;exact A1 (a:=e19.va) (f19_0.ext hw) (f19_1.ext hw) (f24_0.ext hw) (f24_1.ext hw)) ?_)
  refine bI E E (zV E E (fun w _=>bB) (ua (S:=Is (B false)) E E E (ax (S:=Is (B false)) E E (bI E E (ax (S:=Is (v)) E E ?_)))))
  refine bI E E (ax (S:=Is (I (i:Int))) E E (bI E E (aD E E E (fun w _=>p19 w) (bI E E (aX E E (fun w hw=>gt (o:=5) LB E (by kernel_rfl) E) ?_)))))
  refine bI E E (aQ E E (fun w hw=>ai Ly E (hw.cell_some (q19.at (j:=5) E))) (bI E E (ax (S:=Is (u)) E E ?_)))
  refine bI E E (ax (S:=Is (I (i:Int))) E E (bI E E (aD E E E (fun w _=>p24 w) (bI E E (aX E E (fun w hw=>gt (o:=5) LB E (by kernel_rfl) E) ?_)))))
  refine bI rfl rfl (aQ rfl rfl (fun w hw=>ai Ly rfl (hw.cell_some (q24.at (j:=5) rfl))) (bI rfl rfl (ce (S:=Is (B true)) tq (bO.is _) rfl (fun w hw=>by rintro _ rfl _ rfl;exact tt (l:=e19.pf) (f19_2.ext hw) (f24_2.ext hw)) ?_)))
  refine bI E E (zV E E (fun w _=>bB) (cn ?_))
  intro wg6 xg6
  rintro _ hq0
  obtain rfl:=Eq.symm hq0
  rintro _ hq1
  obtain rfl:=Eq.symm hq1
  rintro _ rfl
  rintro _ rfl
  rintro _ rfl
  refine aI E E E (ag (ab (cN E (aC (aW (ab (aa (ae E E (al (r:=I ((i+1:Nat):Int)) E E E (by have e:((i+1:Nat):Int)=(i:Int)+1:=(by omega);rw[e];exact aR (by omega) (by omega)) ?_)))))))))
  refine ac E E (ag ?_)
  refine bS (i+1) ⟨rfl,rfl,rfl,trivial⟩ ⟨(e4.trans xg6),by omega⟩ (by omega)
 ·refine bc (aK (aK (bf (ab (af (aa (ac E E (ag (ab (aw (au E E ?_)))))))))))
  exact⟨_,rfl,e4,rfl⟩
theorem aP.lt_of_mem {n k:aP} (h:k∈n.kids):SizeOf.sizeOf k<SizeOf.sizeOf n:=by
 cases n with
 |mk l s ks e p=>
  have h:k∈ks:=h
  have:=List.sizeOf_lt_of_mem h
  simp only[aP.mk.sizeOf_spec]
  omega
theorem GO {w:World} {n:aP} {vl x y vk vp ul p q uk up:Value} (ih:∀k∈n.kids,∀{w:World} {vl x y vk vp ul p q uk up:Value},cd cP k.lems vl w→bk k.split.at_.2.1 x w→bk k.split.at_.2.2 y w→cd bh k.kids vk w→cd bK k.pf vp w→cd cP k.lems ul w→bk k.split.at_.2.1 p w→bk k.split.at_.2.2 q w→cd bh k.kids uk w→cd bK k.pf up w→
 Calls Tryz.prog 27 #[.agg #[vl,I k.split.kd,I k.split.ix,B k.split.at_.1,x,y,vk,B k.empty,vp],.agg #[ul,I k.split.kd,I k.split.ix,B k.split.at_.1,p,q,uk,B k.empty,up]] w (bN fun r w'=>aH w w'∧r=B true))
 (hl:cd cP n.lems vl w) (hx:bk n.split.at_.2.1 x w) (hy:bk n.split.at_.2.2 y w) (hk:cd bh n.kids vk w) (hp:cd bK n.pf vp w) (hl':cd cP n.lems ul w) (hx':bk n.split.at_.2.1 p w) (hy':bk n.split.at_.2.2 q w) (hk':cd bh n.kids uk w) (hp':cd bK n.pf up w):
 Calls Tryz.prog 27 #[.agg #[vl,I n.split.kd,I n.split.ix,B n.split.at_.1,x,y,vk,B n.empty,vp],.agg #[ul,I n.split.kd,I n.split.ix,B n.split.at_.1,p,q,uk,B n.empty,up]] w (bN fun r w'=>aH w w'∧r=B true):=by
 refine enter (vs:=[.agg #[vl,I n.split.kd,I n.split.ix,B n.split.at_.1,x,y,vk,B n.empty,vp],.agg #[ul,I n.split.kd,I n.split.ix,B n.split.at_.1,p,q,uk,B n.empty,up]]) Tryz.func27 E E E ?_
 have hll:=hk.len
 refine af (aa ?_)
 obtain⟨g2,w2,hr2,l2,x2,k2⟩:=cq (P:=Tryz.prog) (w:=w) (T:=52) (cs:=[vl,I n.split.kd,I n.split.ix,B n.split.at_.1,x,y,vk,B n.empty,vp])
 refine cw E E hr2 ?_
 obtain⟨g3,w3,hr3,l3,x3,k3⟩:=cq (P:=Tryz.prog) (w:=w2) (T:=52) (cs:=[ul,I n.split.kd,I n.split.ix,B n.split.at_.1,p,q,uk,B n.empty,up])
 refine cw E E hr3 (ac E E (ag (ab (af (af (aa (ah E E (av (o:=7) Lk E (by kernel_rfl) E) ?_)))))))
 refine aj E E (ai Lw E (x3.cell_some (k2.cell (i:=7) E))) (ah E E (av (o:=7) Lk E (by kernel_rfl) E) ?_)
 refine aj E E (ai Lw E (k3.cell (i:=7) E)) (al E E E (d7 (fun h=>h E) (Dn Lw)) ?_)
 refine ae rfl rfl (ak rfl (ah rfl rfl (av (o:=1) Tryz.underlying52 rfl (by kernel_rfl) rfl) (ak rfl (aj rfl rfl ((k2.ext x3).ldO (ms:=[I n.split.kd,I n.split.ix,B n.split.at_.1,x,y]) (o:=1) (fun j v hj=>by rcases j with _|_|_|_|_|_|_|_|_|j<;>simp_all) Tryz.underlying48 rfl (by kernel_rfl)) ?_))))
 refine ak rfl (ah rfl rfl (av (o:=1) Tryz.underlying52 rfl (by kernel_rfl) rfl) (ak rfl (aj rfl rfl (k3.ldO (ms:=[I n.split.kd,I n.split.ix,B n.split.at_.1,p,q]) (o:=1) (fun j v hj=>by rcases j with _|_|_|_|_|_|_|_|_|j<;>simp_all) Tryz.underlying48 rfl (by kernel_rfl)) ?_)))
 refine ak E (an sn E E ((EI (a:=n.split) (hx.ext (x2.trans x3)) (hy.ext (x2.trans x3)) (hx'.ext (x2.trans x3)) (hy'.ext (x2.trans x3)))) ?_)
 rintro v16 w16 ⟨x16,rfl⟩
 refine ak E (bw E E bB (aI E E E (ae E E (ak E (ah E E (av (o:=0) Lk E (by kernel_rfl) E) ?_)))))
 refine ak E (aj E E (ai Lz E ((x3.trans x16).cell_some (k2.cell (i:=0) E))) (ak E (ah E E (av (o:=0) Lk E (by kernel_rfl) E) ?_)))
 refine ak E (aj E E (ai Lz E (x16.cell_some (k3.cell (i:=0) E))) (ak E (an BX E E ((BY (hl.ext ((x2.trans x3).trans x16)) (hl'.ext ((x2.trans x3).trans x16)))) ?_)))
 rintro v24 w24 ⟨x24,rfl⟩
 refine ak E (bw E E bB (aI E E E (ae E E (ak E (ah E E (av (o:=8) Lk E (by kernel_rfl) E) ?_)))))
 refine ak E (aj E E (ai Ly E (((x3.trans x16).trans x24).cell_some (k2.cell (i:=8) E))) (ak E (ah E E (av (o:=8) Lk E (by kernel_rfl) E) ?_)))
 refine ak E (aj E E (ai Ly E ((x16.trans x24).cell_some (k3.cell (i:=8) E))) (ak E (an tq E E ((tt (hp.ext (((x2.trans x3).trans x16).trans x24)) (hp'.ext (((x2.trans x3).trans x16).trans x24)))) ?_)))
 rintro v32 w32 ⟨x32,rfl⟩
 refine ak E (bw E E bB (aI E E E (ae E E (ak E (ah E E (av (o:=6) Lk E (by kernel_rfl) E) ?_)))))
 refine ak E (aj E E (ai Ls E ((((x3.trans x16).trans x24).trans x32).cell_some (k2.cell (i:=6) E))) (ak E (aV E E (aY Ls (hk.ext ((((x2.trans x3).trans x16).trans x24).trans x32))) ?_)))
 refine ak E (ah E E (av (o:=6) Lk E (by kernel_rfl) E) (ak E (aj E E (ai Ls E (((x16.trans x24).trans x32).cell_some (k3.cell (i:=6) E))) ?_)))
 refine ak E (aV E E (aY Ls (hk'.ext ((((x2.trans x3).trans x16).trans x24).trans x32))) (ak E (al E E E (d7 (fun h=>h E) dn) ?_)))
 refine aI E E E (ag (ab (cN E (aC (ab (af (af (aa (ac E E (ag (ab (aG ?_))))))))))))
 refine ck (α:=Nat) (fun x=>[(2,.pointer (some ⟨g2,0,none⟩)),(3,.pointer (some ⟨g3,0,none⟩)),(5,I (x:Int))]) (fun x w'=>aH w w'∧aH w32 w'∧x≤n.kids.length) (fun x=>n.kids.length-x) (0) ⟨rfl,rfl,rfl,trivial⟩ ⟨((((x2.trans x3).trans x16).trans x24).trans x32),aH.refl _,by omega⟩ ?_
 rintro i w4 ⟨e4,e10,hi⟩
 refine af (af (aa (ae E E (ah E E (av (o:=6) Lk E (by kernel_rfl) E) (aj E E (ai Ls E (((((x3.trans x16).trans x24).trans x32).trans e10).cell_some (k2.cell (i:=6) E))) ?_)))))
 refine aV E E (aY Ls (hk.ext e4)) (al E E E (a6) (ag (ab ?_)))
 refine bu E (fun h48=>?_) (fun h48=>?_)
 ·refine aC (ab (af (aG (af (bP 11 [2,3,5,61] (by kernel_rfl) (by kernel_rfl) ?_)))))
  refine aX E E (fun w hw=>av (o:=6) Lk E (by kernel_rfl) E) (aQ E E (fun w hw=>ai Ls E (hw.cell_some (((((x3.trans x16).trans x24).trans x32).trans e10).cell_some (k2.cell (i:=6) E)))) ?_)
  refine ax E E ?_
  obtain⟨a54,c54,p54,q54,h54⟩:=cb (P:=Tryz.prog) (sz:=9) Ls (by kernel_rfl) bF (by omega) (hk.ext e4) (i:=i) (by omega) .i64
  obtain⟨e54,he54⟩:∃e,e=n.kids[i]'(by omega):=⟨_,rfl⟩
  rw[←he54] at h54
  obtain⟨x54_0,x54_1,x54_2,x54_3,x54_4,rfl,f54_0,f54_1,f54_2,f54_3,f54_4⟩:=dc h54
  refine aD E E E (fun w _=>p54 w) (aQ E E (fun w hw=>(q54.ext hw).ld Lk E (by kernel_rfl)) (aX E E (fun w hw=>av (o:=6) Lk E (by kernel_rfl) E) ?_))
  refine aQ E E (fun w hw=>ai Ls E (hw.cell_some ((((x16.trans x24).trans x32).trans e10).cell_some (k3.cell (i:=6) E)))) ?_
  refine ax E E ?_
  obtain⟨a59,c59,p59,q59,h59⟩:=cb (P:=Tryz.prog) (sz:=9) Ls (by kernel_rfl) bF (by omega) (hk'.ext e4) (i:=i) (by omega) .i64
  rw[←he54] at h59
  obtain⟨x59_0,x59_1,x59_2,x59_3,x59_4,rfl,f59_0,f59_1,f59_2,f59_3,f59_4⟩:=dc h59
  refine aD rfl rfl rfl (fun w _=>p59 w) (aQ rfl rfl (fun w hw=>(q59.ext hw).ld Lk rfl (by kernel_rfl)) (ce (S:=Is (B true)) A0 (bO.is _) rfl (fun w hw=>by rintro _ rfl _ rfl;exact ih e54 (by rw[he54];exact List.getElem_mem _) (f54_0.ext hw) (f54_1.ext hw) (f54_2.ext hw) (f54_3.ext hw) (f54_4.ext hw) (f59_0.ext hw) (f59_1.ext hw) (f59_2.ext hw) (f59_3.ext hw) (f59_4.ext hw)) ?_))
  refine cn ?_
  intro wg6 xg6
  rintro _ rfl
  rintro _ rfl
  rintro _ rfl
  rintro _ rfl
  refine bw E E bB (ag (ab (cN E (aC (aW (ab (aa (ae E E (al (r:=I ((i+1:Nat):Int)) E E E (by have e:((i+1:Nat):Int)=(i:Int)+1:=(by omega);rw[e];exact aR (by omega) (by omega)) ?_)))))))))
  refine ac E E (ag ?_)
  refine bS (i+1) ⟨rfl,rfl,rfl,trivial⟩ ⟨(e4.trans xg6),(e10.trans xg6),by omega⟩ (by omega)
 ·refine bc (aK (aK (bf (ab (af (aa (ac E E (ag (ab (aw (au E E ?_)))))))))))
  exact⟨_,rfl,e4,rfl⟩
theorem A2:∀(m:Nat) {n:aP},SizeOf.sizeOf n≤m→∀{w:World} {vl x y vk vp ul p q uk up:Value},cd cP n.lems vl w→bk n.split.at_.2.1 x w→bk n.split.at_.2.2 y w→cd bh n.kids vk w→cd bK n.pf vp w→cd cP n.lems ul w→bk n.split.at_.2.1 p w→bk n.split.at_.2.2 q w→cd bh n.kids uk w→cd bK n.pf up w→
 Calls Tryz.prog 27 #[.agg #[vl,I n.split.kd,I n.split.ix,B n.split.at_.1,x,y,vk,B n.empty,vp],.agg #[ul,I n.split.kd,I n.split.ix,B n.split.at_.1,p,q,uk,B n.empty,up]] w (bN fun r w'=>aH w w'∧r=B true)
 |0,n,hm=>by cases n;simp at hm
 |m+1,n,hm=>fun h1 h2 h3 h4 h5 h6 h7 h8 h9 h10=>GO (fun k hk _ _ _ _ _ _ _ _ _ _ _=>A2 m (by have:=aP.lt_of_mem hk;omega)) h1 h2 h3 h4 h5 h6 h7 h8 h9 h10
end Go.Rl
namespace Go.Rl
open Go.RowKit Go.Proofs
def Jc (n d:Int):Bool:=decide (0<n∧n≤16384∧n%d=0)
def small (l:List eW):Prop:=∀q∈l,q.2.1.length≤1073741824∧q.2.2.length≤1073741824
def Jd (l:mK):Bool:=decide ((1≤l.kh∧l.kh≤64)∧(1≤l.kw∧l.kw≤64)∧(1≤l.sr∧l.sr≤64))
def GP (l:mK):Bool:=decide ((l.ws.length:Int)=0∧(l.bs.length:Int)=0)
def GQ (l:mK):Bool:=decide (l.kh=0∧l.kw=0∧l.sr=0∧l.pd=0)
def K3 (l:mK) (i:Int):Prop:=
 if l.kd=1 then GQ l=true∧l.fr=0∧(1≤l.ou∧l.ou≤16384)∧(l.bs.length:Int)=l.ou∧Jc l.ws.length l.ou=true
 else if l.kd=2 then Jd l=true∧l.fr=0∧l.pd≥0∧l.pd<l.kh∧l.pd<l.kw∧(1≤l.ou∧l.ou≤16384)∧(l.bs.length:Int)=l.ou∧Jc l.ws.length (l.ou*l.kh*l.kw)=true
 else if l.kd=3∨l.kd=4 then Jd l=true∧l.fr=0∧l.pd=0∧l.ou=0∧GP l=true
 else if l.kd=5∨l.kd=6 then GQ l=true∧l.fr=0∧l.ou=0∧GP l=true
 else if l.kd=7 then GQ l=true∧(-1≤l.fr∧l.fr≤i-1)∧l.ou=0∧GP l=true
 else False
instance (l:mK) (i:Int):Decidable (K3 l i):=by unfold K3;infer_instance
end Go.Rl
namespace Go.Rl
open Go.RowKit Go.Proofs
end Go.Rl
namespace Go.Rl
open Go.RowKit Go.Proofs
end Go.Rl
namespace Go.Rl
open Go.RowKit
section
variable {P:Program} {ops:Array Oper} {Env:World→Prop} {Rl:World→World→Prop} {mo:Bool} {Pn:List PanicEntry→World→Prop} {N:Nat}
def Do (ops:Array Oper) (n:Nat):Bool:=
 (List.range n).all fun i=>decide (i=0)||(List.range (n+1)).any fun j=>decide (i<j)&&Region.waitsFor .any ops j i
theorem A3 {n:Nat} {listed:Array Bool} (hs:Do ops n=true) (hc:yJ ops n=true) (inv:HeadInv .any ops n listed):
 ∀(d i:Nat),n-i=d→0<i→i<n→listed.getD i true=false→∀t,n≤t→t∉Region.ready .any ops listed:=by
 intro d
 induction d using Nat.strongRecOn with
 |_ d ih=>
  intro i hd h0 hi hun t ht hr
  obtain⟨_,ot,hot,hall⟩:=mem_ready.1 hr
  have htlt:t<ops.size:=(Array.getElem?_eq_some_iff.1 hot).1
  by_cases htn:t=n
  ·subst htn
   have h1:=List.all_eq_true.1 hs i (List.mem_range.2 hi)
   simp only[Bool.or_eq_true,decide_eq_true_eq] at h1
   obtain⟨j,hj,hj2⟩:=List.any_eq_true.1 (h1.resolve_left (by omega))
   simp only[Bool.and_eq_true,decide_eq_true_eq] at hj2
   obtain⟨oj,hoj,e,he,hb,hon⟩:=Region.waitsFor_spec hj2.2
   have hjle:j≤t:=by have:=List.mem_range.1 hj;omega
   by_cases hjt:j=t
   ·subst hjt
    have:oj=ot:=Option.some.inj (hoj.symm.trans hot)
    subst this
    have h2:=hall e he hb
    rw[hon,getD_both hun] at h2
    cases h2
   ·cases hl:listed.getD j false with
    |true=>
     have h2:=inv.closed j oj hoj hl e he hb
     rw[hon,getD_both hun] at h2
     cases h2
    |false=>
     have hjs:j<listed.size:=by rw[inv.size];omega
     exact ih (t-j) (by omega) j rfl (by omega) (by omega) (getD_in hjs hl) t (Nat.le_refl _) hr
  ·have h1:=List.all_eq_true.1 hc t (List.mem_range.2 htlt)
   simp only[Bool.or_eq_true,decide_eq_true_eq] at h1
   rcases h1 with h1|h1
   ·omega
   ·obtain⟨j,hj,hj2⟩:=List.any_eq_true.1 h1
    simp only[Bool.and_eq_true,decide_eq_true_eq] at hj2
    have hjt:=List.mem_range.1 hj
    obtain⟨o',ho',e,he,hb,hon⟩:=Region.waitsFor_spec hj2.2
    have:o'=ot:=Option.some.inj (ho'.symm.trans hot)
    subst this
    have h2:=hall e he hb
    rw[hon,getD_both (inv.tail j hj2.1 (by omega))] at h2
    cases h2
theorem wm {n i:Nat} {oi:Oper} {S:dv} {L:Array Bool→cS→lW→Prop} (hi:ops[i]? =some oi) (hcalls:mo=true→kQ .any ops=true)
 (hs:Do ops n=true) (hc:yJ ops n=true) (hi0:0<i) (hin:i<n)
 (hdone:∀listed F Z,L listed F Z→∀j∈Region.ready .any ops listed,n≤j):
 ∀(f:Nat) (listed:Array Bool) (F:cS) (Z Z':lW),HeadInv .any ops n listed→
  (∀j oj,ops[j]? =some oj→j≠i→listed.getD j true=false→(∀e∈oj.after,Region.binds .any e=true→e.on≠i)→oi.apart ops oj=true)→
  i∈Region.ready .any ops listed→fN P ops Env Rl mo Pn N F Z oi S Z'→
  kP P .any ops Env Rl mo Pn N n L f (listed.setIfInBounds i true) (kj F oi.dst S) Z'→kP P .any ops Env Rl mo Pn N n L (f+1) listed F Z:=
 pA hi hcalls hin (fun _ inv hun t ht=>A3 hs hc inv _ i rfl hi0 hin hun t ht) hdone
theorem tu {n:Nat} {perm:List Nat} {Lq:cS→lW→Prop} (hcalls:mo=true→kQ .any ops=true) (hs:Do ops n=true) (hc:yJ ops n=true):
 ∀(l:List Oper) (k:Nat) (listed:Array Bool) (F:cS) (Z:lW),0<k→(∀j,j<l.length→l[j]? =ops[k+j]?)→k+l.length=n→HeadInv .any ops n listed→
 og ops n perm l.length k listed=true→(∀t,cr Rl (F t))→dF Z→gK P ops Env Rl mo Pn N l F Z Lq→
 kP P .any ops Env Rl mo Pn N n (fun listed' F' Z'=>(sj ops perm listed'=true∧(Region.ready .any ops listed').all (fun j=>decide (n≤j))=true)∧Lq F' Z') l.length listed F Z
 |[],k,listed,F,Z,_,_,hk,_,hB,_,_,h=>by
  simp only[List.length_nil,og,Bool.and_eq_true] at hB
  exact⟨hB,h⟩
 |o::l,k,listed,F,Z,hk0,hl,hk,inv,hB,hF,hZ,h=>by
  have h0:ops[k]? =some o:=by simpa using(hl 0 (by simp)).symm
  simp only[List.length_cons,og,Bool.and_eq_true] at hB
  obtain⟨⟨hr,hf⟩,hB'⟩:=hB
  have hkn:k<n:=by simp only[List.length_cons] at hk;omega
  have hr':k∈Region.ready .any ops listed:=by simpa using hr
  obtain⟨S,Z',hspec,hrest⟩:=h hF hZ
  exact wm h0 hcalls hs hc hk0 hkn (fun listed' F' Z' hL j hj=>by simpa using List.all_eq_true.1 hL.1.2 j hj) l.length listed F Z Z' inv (Region.free_spec h0 hf) hr' hspec
   (tu hcalls hs hc l (k+1) _ _ _ (by omega) (fun j hj=>by have:=hl (j+1) (by simp;omega);simpa [Nat.add_assoc,Nat.add_comm 1 j] using this) (by simp only[List.length_cons] at hk;omega) (inv.set hr' hkn) hB' (pG hF hspec.stable) (hspec.zst hZ) hrest)
def Je (ops:Array Oper) (n:Nat) (perm:List Nat):Bool:=
 Region.noSelect ops&&decide (0<n)&&decide (n<ops.size)&&Do ops n&&yJ ops n&&decide (n+perm.length=ops.size)&&Region.free .any ops (Array.replicate ops.size false) 0&&(Region.ready .any ops (Array.replicate ops.size false)).contains 0&&og ops n perm (n-1) 1 ((Array.replicate ops.size false).setIfInBounds 0 true)
theorem tR {Q:iq} {D:List Deferred} {l:Fr} {w:World} {id d:Nat} {x:Operand} {v:Value} {ty:TypeId} {pos:String} {aft:Array Edge} {os:List Oper} (n:Nat) (perm:List Nat) (ts:List Nat) (hm:P.follows .mixedOrders=true)
 (hB:Je ((⟨some d,.move x,ty,pos,aft,none⟩:Oper)::os).toArray n perm=true) (hp:(perm.all fun i=>decide (i<os.length+1))=true) (hx:ev l x=some v) (hd:Nat.blt d N=true)
 (h:gK P ((⟨some d,.move x,ty,pos,aft,none⟩:Oper)::os).toArray (aH w) aH false Jl N (os.take (n-1)) (zP ((d,v)::l)) (fun _=>True) (fun F _=>∀w',aH w w'→lr F w' ts (fun l'=>cz P ((⟨some d,.move x,ty,pos,aft,none⟩:Oper)::os).toArray (oa Q) N D l' w' (BP ((⟨some d,.move x,ty,pos,aft,none⟩:Oper)::os) perm)))):dq P Q N D l w (.region id ((⟨some d,.move x,ty,pos,aft,none⟩:Oper)::os).toArray true):=fun a ha=>by
 obtain⟨o,ho⟩:∃o:Oper,o=⟨some d,.move x,ty,pos,aft,none⟩:=⟨_,rfl⟩
 rw[←ho] at hB h⊢
 have ha':=ha.put hd v
 have hsat:CH N D (zP ((d,v)::l)) (a.put (some d) v) {w with drawn:=w.drawn+1}:=⟨ha'.size,ha'.defers,fun t=>by
  show zP ((d,v)::l) t ((a.put (some d) v).tmps.getD t undef) _
  unfold zP
  cases hv:lk ((d,v)::l) t with
  |some v=>exact ha'.at_ t v hv
  |none=>trivial⟩
 simp only[Je,Bool.and_eq_true,decide_eq_true_eq] at hB
 obtain⟨⟨⟨⟨⟨⟨⟨⟨hsel,hn0⟩,hn⟩,hs⟩,hc⟩,hlen⟩,hf⟩,hr⟩,hlex⟩:=hB
 have hn':n<os.length+1:=by simpa using hn
 have htl:(os.take (n-1)).length=n-1:=by simp;omega
 have h00:(o::os).toArray[0]? =some o:=by simp
 have inv0:HeadInv .any (o::os).toArray n (Array.replicate (o::os).toArray.size false):=
  ⟨by simp,fun j oj _ hl=>(by rw[getD_replicate_false] at hl;cases hl),fun t _ ht=>getD_in (by simpa using ht) (getD_replicate_false _ _)⟩
 have hr':0∈Region.ready .any (o::os).toArray (Array.replicate (o::os).toArray.size false):=by simpa using hr
 have H:=tu (perm:=perm) (fun h=>by cases h) hs hc (os.take (n-1)) 1 _ _ _ (by omega) (fun j hj=>by
  have hj':j<n-1:=by rw[htl] at hj;exact hj
  simp[hj',Nat.add_comm 1 j]) (by rw[htl];omega) (inv0.set hr' (by omega)) (by rw[htl];exact hlex) (jU _) dF.triv (lq _ _ _ (fun F Z hK a' w' he hs=>by
   obtain⟨l',hl',hk⟩:=lr.use hs (hK w' he)
   exact hk a' hl':∀F (Z:lW),_→(∀a' w',aH w w'→CH N D F a' w'→wpList P (o::os).toArray (oa Q) (BP (o::os) perm) a' w')) h)
 have hpick:∀(perm:List Nat),(perm.all fun i=>decide (i<(o::os).length))=true→(perm.map fun i=>(o::os).toArray[i]?)=(BP (o::os) perm).map some:=by
  intro perm
  induction perm with
  |nil=>intro _;rfl
  |cons i is ih=>
   intro hp
   simp only[List.all_cons,Bool.and_eq_true,decide_eq_true_eq] at hp
   have e:(o::os)[i]? =some (o::os)[i]:=List.getElem?_eq_getElem hp.1
   simp only[List.map_cons,BP,e,List.getElem?_toArray]
   rw[←ih hp.2]
   simp
 have rest:=ip (D:=D) (Q':=oa Q) (l0:=[]) (g:=perm.length) (jt.plain w) (fun _ _ _ _ _ _ h=>h.elim) (fun _ _ _ _ _ _ _ hp=>by cases hp) (fun listed F Z hL hF hZ a' w' he hsat hz=>la hsel perm (BP (o::os) perm) listed a' w' (hpick perm (by simpa using hp)) hL.1.1 (hL.2 a' w' he hsat)) _ _ _ _ H (jU _) dF.triv (a.put (some d) v) {w with drawn:=w.drawn+1} ⟨rfl,rfl,rfl,Nat.le_refl _,fun _ _=>rfl⟩ hsat (fun _ hp=>by cases hp) trivial
 rw[htl] at rest
 refine wp_mono (wp_region_any (Q:=oa Q) hm ?_) fun e a w he=>by obtain⟨rfl,h⟩:=he;exact h
 have hsz:(o::os).toArray.size=(n-1+perm.length)+1:=by rw[←hlen];omega
 rw[show wpAny P .any (o::os).toArray (oa Q) (o::os).toArray.size=wpAny P .any (o::os).toArray (oa Q) ((n-1+perm.length)+1) by rw[hsz]]
 have hval:(∀w':World,(execOp a.eval o).run P w'=.ok (.value v) w'):=fun w'=>by
  rw[ho]
  have hv:a.eval x=v:=ha.ev hx
  simp[execOp,hv]
 have hdst:o.dst=some d:=by rw[ho]
 exact wpAny_take h00 hsel hf hr (fun c a w hp=>by obtain⟨hp,_⟩:=hp;cases hp) (.inl ⟨by rw[ho];rfl,hval⟩) (by rw[hdst];exact rest)
end
end Go.Rl
namespace Go.Rl
open Go.RowKit Go.Proofs
theorem GR {n:Int} (h:kY n):1≤(de n).length∧(de n).length≤10:=⟨pR _,iL (FB h.1 h.2)⟩
theorem df {α β:Type} {f:α→List β} {l:List α} {i:Nat} (hi:i<l.length):(l.take (i+1)).flatMap f=(l.take i).flatMap f++f l[i]:=by
 rw[List.take_succ_eq_append_getElem hi,List.flatMap_append,List.flatMap_singleton]
end Go.Rl
namespace Go.Rl
open Go.RowKit Go.Proofs
theorem GS {w:World} {g:Nat}:(Instr.sliceAt 24 (.pointer (some ⟨g,0,none⟩)) none none none).run Tryz.prog w=.ok (.slice (some ⟨g,0,none⟩) 32 32) w:=by
 simp[Instr.sliceAt,run_underlying Tryz.underlying24,Instr.sureAddr,Instr.sliceBounds,fh fe,Addr.add_mid]
theorem A4 {X:Nat→Prop} {w:World}:∀(l:List Int),aN X w (l.map kH) (l.map I)
 |[]=>aN.nil
 |n::l=>aN.cons (a:=[I n]) (by simp only[kH,bZ,I]) (A4 l)
theorem ko.rpx {X:Nat→Prop} {w:World} {base:Nat} {l:List Int} {v:Value} (h:ko base l v w) (hX:∀k,v.ownBlock=some k→¬X k):bZ X w (I8 l) [v]:=by
 obtain⟨n,h⟩:=h
 exact bZ.ofOwn h (A4 l) (by simp[AH]) (by omega) hX
end Go.Rl
namespace Go.Rl
open Go.RowKit Go.Proofs
section
variable {w:World} {g:Nat} {T:TypeId} {d:List UInt8} {v:Value}
def crt (d:List UInt8) (v:Value):List Value:=d.map U8++[v]
theorem Ia:vY.length=32:=rfl
end
def Jf (base:Nat) (l:List UInt8) (r:Value) (w:World):Prop:=∃v,r=.tuple #[.agg (crt (H8 l).1.1 v).toArray,I (H8 l).2]∧bZ (fun k=>k<base) w (.sl ((H8 l).1.2.map bh)) [v]
theorem Jf.ok {base:Nat} {l dg:List UInt8} {ts:List aP} {w:World} {v:Value} (h:H8 l=((dg,ts),0)) (hv:bZ (fun k=>k<base) w (.sl (ts.map bh)) [v]):Jf base l (.tuple #[.agg (crt dg v).toArray,I 0]) w:=⟨v,by rw[h],by rw[h];exact hv⟩
theorem qk {α:Type} {p:α→Bool} {l:List α} {i:Nat} (hi:i<l.length) (h:l.all p=(l.drop i).all p) (h1:p l[i]=true):l.all p=(l.drop (i+1)).all p:=by rw[h,AZ hi,h1,Bool.true_and]
theorem f8 {α:Type} {p:α→Bool} {l:List α} {i:Nat} (hi:i<l.length) (h:l.all p=(l.drop i).all p) (h1:p l[i]=false):l.all p=false:=by rw[h,AZ hi,h1,Bool.false_and]
theorem mY {α:Type} {p:α→Bool} {l:List α} {i:Nat} (hi:l.length≤i) (h:l.all p=(l.drop i).all p):l.all p=true:=by rw[h,List.drop_eq_nil_of_le hi];rfl
end Go.Rl
namespace Go.Rl
open Go.RowKit Go.Proofs
end Go.Rl
namespace Go.Rl
open Go.RowKit Go.Proofs
end Go.Rl
namespace Go.Rl
open Go.RowKit Go.Proofs
theorem ru:aJ Tryz.prog 114:=⟨_,Tryz.func114,by kernel_rfl,rfl⟩
theorem ov:aJ Tryz.prog 82:=⟨_,Tryz.func82,by kernel_rfl,rfl⟩
theorem mZ:aJ Tryz.prog 85:=⟨_,Tryz.func85,by kernel_rfl,rfl⟩
theorem BZ:aJ Tryz.prog 149:=⟨_,Tryz.func149,by kernel_rfl,rfl⟩
theorem jF:aJ Tryz.prog 148:=⟨_,Tryz.func148,by kernel_rfl,rfl⟩
theorem ow:aJ Tryz.prog 147:=⟨_,Tryz.func147,by kernel_rfl,rfl⟩
theorem tv:aJ Tryz.prog 115:=⟨_,Tryz.func115,by kernel_rfl,rfl⟩
theorem B0:aJ Tryz.prog 77:=⟨_,Tryz.func77,by kernel_rfl,rfl⟩
theorem jj:(Tryz.prog.info? 22).map (·.size)=some 1:=by kernel_rfl
theorem jk {w:World} {g:Nat}:(Instr.fieldAt 142 (.pointer (some ⟨g,0,none⟩)) 0).run Tryz.prog w=.ok (.pointer (some ⟨g,0,none⟩)) w:=av (o:=0) Tryz.underlying142 rfl (by kernel_rfl) rfl
def Ib (T:TypeId) (base g:Nat) (l:List UInt8) (v:Value) (w:World) (w':World):Prop:=∃v',gu T base g l v' w'∧cW g v w v' w'
theorem K7 {a:Int} (ha:kY a):∀n∈[a],kY n:=fun n hn=>by
 simp only[List.mem_cons,List.not_mem_nil,or_false] at hn
 subst hn;exact ha
theorem K8 {a b:Int} (ha:kY a) (hb:kY b):∀n∈[a,b],kY n:=fun n hn=>by
 simp only[List.mem_cons,List.not_mem_nil,or_false] at hn
 rcases hn with rfl|rfl<;>assumption
theorem Jg {a b c d:Int} (ha:kY a) (hb:kY b) (hc:kY c) (hd:kY d):∀n∈[a,b,c,d],kY n:=fun n hn=>by
 simp only[List.mem_cons,List.not_mem_nil,or_false] at hn
 rcases hn with rfl|rfl|rfl|rfl<;>assumption
theorem ql {α:Type} {f:α→List UInt8} (l:List α) (k:Nat):((l.take k).flatMap f).length≤(l.flatMap f).length:=by
 have h:(l.flatMap f)=(l.take k).flatMap f++(l.drop k).flatMap f:=by rw[←List.flatMap_append,List.take_append_drop]
 rw[h,List.length_append]
 omega
theorem fo {α:Type} {f:α→List UInt8} {l:List α} {i:Nat} (hi:i<l.length):((l.take i).flatMap f).length+(f l[i]).length≤(l.flatMap f).length:=by
 have h:=ql (f:=f) l (i+1)
 rw[df hi,List.length_append] at h
 exact h
theorem rx {T:TypeId} {w:World} {b g:Nat} {l:List UInt8} {n:Nat} {v:Value} (hW:gu T b g l v w) (h0:b≤w.heap.size) (hl:l.length≤35184372088832) (hn:n≤9223372036854775807):
 Calls Tryz.prog 114 #[.pointer (some ⟨g,0,none⟩),I (n:Int)] w (bN fun _ w'=>Ib T b g (l++uv n) v w w'):=by
 refine enter (vs:=[.pointer (some ⟨g,0,none⟩),I (n:Int)]) Tryz.func114 E E E ?_
 have kg:=hW.blk
 have hun:(UInt64.ofNat n).toNat=n:=by rw[UInt64.toNat_ofNat'];omega
 refine tR 8 [8,9,10,11] [4,8,11] (by kernel_rfl) (by kernel_rfl) E E E ?_
 refine ax E E (dz E E ?_)
 refine aX E E (fun w _=>jk) ?_
 refine aQ E E (fun w hw=>ai Lv E (hw.cell_some kg.k0)) (ax E E (dU E E (fun w hw=>fO Lo Lp) ?_))
 refine ce (S:=cK (uv n)) nE (cK.stable _) rfl (fun w hw=>by rintro _ rfl _ rfl;exact bN.mono (nF (n:=UInt64.ofNat n) (cK.nil _) (by simp)) fun v w' h=>⟨h.1,by have:=h.2.bts;rwa [hun,List.nil_append] at this⟩) ?_
 refine cn ?_
 intro wg0 xg0
 rintro _ rfl
 rintro _ hq8
 obtain rfl:=Eq.symm hq8
 intro vg11 b11
 have hun2:=pR n
 have hun3:=iL (n:=n) (by omega)
 obtain⟨v12,wa,wb,hr12,hs12,hW',st12⟩:=gu.put (t:=22) (t2:=22) (ty:=22) Lv jj Lv (hW.ext xg0) (Nat.le_trans h0 xg0.size) b11 (by omega) (by omega)
 refine aT E E hr12 ?_
 refine aE E E ?_
 refine ah E E jk ?_
 refine ay E E (hs12) (ag (yK (jw E ?_)))
 exact⟨_,rfl,v12,hW',(cW.of_ext xg0).trans st12⟩
theorem ox {T:TypeId} {w:World} {b g:Nat} {l:List UInt8} {ns:List Int} {nv v:Value} (hW:gu T b g l v w) (h0:b≤w.heap.size) (hv:bZ (WrX g v) w (I8 ns) [nv]) (hi64:∀n∈ns,kY n) (hl:l.length+10*ns.length≤35184372088832):
 Calls Tryz.prog 82 #[.pointer (some ⟨g,0,none⟩),nv] w (bN fun _ w'=>Ib T b g (l++ns.flatMap de) v w w'):=by
 refine enter (vs:=[.pointer (some ⟨g,0,none⟩),nv]) Tryz.func82 E E E ?_
 have hd:cd kH ns nv w:=hv.rp
 have hll:=hd.len
 refine af (aa (ae E E (aV E E (aY Tryz.underlying32 hd) (ae E E (ag (ab (aG ?_)))))))
 refine eu (fun(i:Nat) (u:Value)=>[(0,.pointer (some ⟨g,0,none⟩)),(6,nv),(7,I (ns.length:Int)),(8,I (i:Int))]) (fun(i:Nat) (u:Value) w'=>gu T b g (l++(ns.take i).flatMap de) u w'∧cW g v w u w'∧i≤ns.length∧((ns.take i).flatMap de).length≤10*i) (fun(i:Nat) (u:Value)=>ns.length-i) (0) (v) ⟨rfl,rfl,rfl,rfl,trivial⟩ ⟨by simpa using hW,cW.refl,by omega,by simp⟩ ?_
 rintro i u wL ⟨hW1,st1,hi,hle⟩
 refine af (aa (al E E E (a6) (ag (ab (af ?_)))))
 refine bu E (fun h9=>?_) (fun h9=>?_)
 ·have hd1:cd kH ns nv wL:=(hv.step st1).rp
  refine aC (ab (af (aG (af (aa ?_)))))
  obtain⟨a10,c10,p10,q10,h10⟩:=cb (P:=Tryz.prog) (sz:=1) Tryz.underlying32 (by kernel_rfl) AH (by omega) hd1 (i:=i) (by omega) .i64
  obtain⟨e10,he10⟩:∃e,e=ns[i]'(by omega):=⟨_,rfl⟩
  rw[←he10] at h10
  obtain rfl:=HY h10
  refine ar E E E (p10 _) ?_
  have hn:=hi64 e10 (by rw[he10];exact List.getElem_mem _)
  have hen:=GR hn
  refine aj E E (ai Lo E q10.cell0) (ac E E (ag (ab ?_)))
  have kg:=hW1.blk
  refine tR 7 [7,8,9,10] [0,6,7,8,12,16,18] (by kernel_rfl) (by kernel_rfl) E E E ?_
  refine ax E E (dz E E ?_)
  refine aX E E (fun w _=>jk) ?_
  refine aQ rfl rfl (fun w hw=>ai Tryz.underlying22 rfl (hw.cell_some kg.k0)) (ax rfl rfl (ce (S:=cK (de e10)) jW (cK.stable _) rfl (fun w hw=>by rintro _ rfl _ rfl;exact bN.mono (jY (n:=e10) (cK.nil _) (by simp) hn.1 hn.2) fun v w' h=>⟨h.1,by have:=h.2.bts;rwa [List.nil_append] at this⟩) ?_))
  refine cn ?_
  intro wg3 xg3
  rintro _ rfl
  rintro _ hq6
  obtain rfl:=Eq.symm hq6
  rintro _ rfl
  rintro _ rfl
  rintro _ rfl
  rintro _ hq16
  obtain rfl:=Eq.symm hq16
  intro vg18 b18
  obtain⟨v19,wa,wb,hr19,hs19,hW2,st19⟩:=gu.put (t:=22) (t2:=22) (ty:=22) Tryz.underlying22 jj Tryz.underlying22 (hW1.ext xg3) (Nat.le_trans h0 (Nat.le_trans st1.mv.size xg3.size)) b18 (by omega) (by simp only[List.length_append];omega)
  refine aT E E hr19 ?_
  refine aE E E ?_
  refine ah E E jk ?_
  refine ay E E (hs19) (ag (yK (aW (ab (aa (al (r:=I ((i+1:Nat):Int)) E E E (by have e:((i+1:Nat):Int)=(i:Int)+1:=(by omega);rw[e];exact aR (by omega) (by omega)) ?_))))))
  refine ae E E (ag ?_)
  refine c6 (i+1) (v19) ⟨rfl,rfl,rfl,rfl,trivial⟩ ⟨by rw[df (by omega),←he10,←List.append_assoc];exact hW2,(st1.trans (cW.of_ext xg3)).trans st19,by omega,by rw[df (by omega),←he10,List.length_append];omega⟩ (by omega)
 ·refine bc (aK (aK (bf (jw E ?_))))
  exact⟨_,rfl,u,by rw[List.take_of_length_le (by omega)] at hW1;exact hW1,st1⟩
theorem m0 {T:TypeId} {wz w:World} {g:Nat} {l:List UInt8} {q:eW} {x y v:Value} (ez:aH wz w) (hW:gu T wz.heap.size g l v w) (hx:bk q.2.1 x wz) (hy:bk q.2.2 y wz) (hl:l.length+(gw q).length≤4398046511104):
 Calls Tryz.prog 85 #[.pointer (some ⟨g,0,none⟩),.agg #[B q.1,x,y]] w (bN fun _ w'=>Ib T wz.heap.size g (l++gw q) v w w'):=by
 refine enter (vs:=[.pointer (some ⟨g,0,none⟩),.agg #[B q.1,x,y]]) Tryz.func85 E E E ?_
 have hqa:=lO q
 have hq1:1≤(gw q).length:=by simp only[gw,pY,List.length_append,List.length_cons,List.length_nil];omega
 refine af (aa ?_)
 obtain⟨g3,w3,hr3,l3,x3,k3⟩:=cq (P:=Tryz.prog) (w:=w) (T:=46) (cs:=[B q.1,x,y])
 refine cw E E hr3 (ag (ab ?_))
 have hW3:=hW.ext x3
 have kg:=hW3.blk
 refine tR 7 [7,8,9,10] [4,8,10] (by kernel_rfl) (by kernel_rfl) E E E ?_
 refine ax E E (dz E E ?_)
 refine aX E E (fun w _=>jk) ?_
 refine aQ E E (fun w hw=>ai Lv E (hw.cell_some kg.k0)) (aQ E E (fun w hw=>(k3.ext hw).ld Ln E (by kernel_rfl)) ?_)
 refine ce (S:=cK (gw q)) ob (cK.stable _) rfl (fun w hw=>by rintro _ rfl _ rfl;exact bN.mono (oc (cK.nil _) (du.mk ((hx.ext (ez.trans x3)).ext hw) ((hy.ext (ez.trans x3)).ext hw)) (by simp only[List.length_nil];omega)) fun v w' h=>⟨h.1,by have:=h.2.bts;rwa [List.nil_append] at this⟩) ?_
 refine cn ?_
 intro wg1 xg1
 rintro _ rfl
 rintro _ hq8
 obtain rfl:=Eq.symm hq8
 intro vg10 b10
 obtain⟨v11,wa,wb,hr11,hs11,hW2,st11⟩:=gu.put (t:=22) (t2:=22) (ty:=22) Lv jj Lv (hW3.ext xg1) (((ez.trans x3).trans xg1)).size b10 (by omega) (by omega)
 refine aT E E hr11 ?_
 refine aE E E ?_
 refine ah E E jk ?_
 refine ay E E (hs11) (ag (yK (jw E ?_)))
 exact⟨_,rfl,v11,hW2,(cW.of_ext (x3.trans xg1)).trans st11⟩
theorem B1 {T:TypeId} {wz w:World} {g:Nat} {l:List UInt8} {d:bj} {x y v:Value} (ez:aH wz w) (hW:gu T wz.heap.size g l v w) (hx:bk d.at_.2.1 x wz) (hy:bk d.at_.2.2 y wz) (hw:wD d) (hl:l.length+(gG d).length≤4398046511104):
 Calls Tryz.prog 149 #[.pointer (some ⟨g,0,none⟩),.agg #[I d.kd,I d.ix,B d.at_.1,x,y]] w (bN fun _ w'=>Ib T wz.heap.size g (l++gG d) v w w'):=by
 refine enter (vs:=[.pointer (some ⟨g,0,none⟩),.agg #[I d.kd,I d.ix,B d.at_.1,x,y]]) Tryz.func149 E E E ?_
 have hdl:(gG d).length=(de d.kd).length+(de d.ix).length+(gw d.at_).length:=by simp only[gG,List.length_append]
 refine af (aa ?_)
 obtain⟨g3,w3,hr3,l3,x3,k3⟩:=cq (P:=Tryz.prog) (w:=w) (T:=48) (cs:=[I d.kd,I d.ix,B d.at_.1,x,y])
 refine cw E E hr3 (ag (ab (af (aa (ae E E (ah E E (av (o:=0) Lm E (by kernel_rfl) E) ?_))))))
 refine aj E E (ai Lo E (k3.cell (i:=0) E)) (ah E E (av (o:=1) Lm E (by kernel_rfl) E) ?_)
 refine aj E E (ai Lo E (k3.cell (i:=1) E)) ?_
 obtain⟨v9,w9,hr9,x9,o9,ob9⟩:=FH (w:=w3) (w3).heap.size [d.kd,d.ix] (by simp) (Nat.le_refl _)
 refine aF (vs:=[(0,I d.kd),(1,I d.ix)]) E E hr9 ?_
 have hW3:=hW.ext x3
 have hW9:=hW3.ext x9
 refine an ov E E ((ox (ns:=[d.kd,d.ix]) hW9 (((ez.trans x3).trans x9)).size (o9.rpx (fun k hk=>hW3.off_new (o9.lt k hk).1)) (K8 hw.1 hw.2) (by simp only[List.length_cons,List.length_nil];omega))) ?_
 rintro v10 w10 ⟨v10,hW10,st10⟩
 have x10:=st10.ext (((ez.trans x3).trans x9)) hW9.ge hW9.new
 have k3a:=st10.mv.blk (k3.ext x9) (hW.off_new l3)
 refine ag (ab (aa (ae rfl rfl (ah rfl rfl (av (o:=2) Tryz.underlying48 rfl (by kernel_rfl) rfl) (aj rfl rfl (k3a.ldO (ms:=[B d.at_.1,x,y]) (o:=2) (fun j v hj=>by rcases j with _|_|_|_|_|_|_|_|_|j<;>simp_all) Tryz.underlying46 rfl (by kernel_rfl)) ?_)))))
 refine an mZ E E ((m0 (q:=d.at_) (x10) hW10 hx hy (by simp only[List.length_append,List.flatMap_cons,List.flatMap_nil,List.append_nil];omega))) ?_
 rintro v14 w14 ⟨v14,hW14,st14⟩
 have x14:=st14.ext (x10) hW10.ge hW10.new
 refine ag (jw E ?_)
 exact⟨_,rfl,v14,by simpa only[gG,List.flatMap_cons,List.flatMap_nil,List.append_nil,List.append_assoc] using hW14,((cW.of_ext (x3.trans x9)).trans st10).trans st14⟩
theorem jG {T:TypeId} {wz w:World} {g:Nat} {l:List UInt8} {ps:List cp} {pv v:Value} (ez:aH wz w) (hW:gu T wz.heap.size g l v w) (hd:cd bK ps pv wz) (hw:wP ps) (hl:l.length+(jE ps).length≤4398046511104):
 Calls Tryz.prog 148 #[.pointer (some ⟨g,0,none⟩),pv] w (bN fun _ w'=>Ib T wz.heap.size g (l++jE ps) v w w'):=by
 refine enter (vs:=[.pointer (some ⟨g,0,none⟩),pv]) Tryz.func148 E E E ?_
 have hll:=hd.len
 have hpl:(jE ps).length=(uv ps.length).length+(ps.flatMap gy).length:=by simp only[jE,List.length_append]
 refine af (aa (ae E E (ae E E (aV E E (aY Ly (hd.ext ez)) (an ru E E ((rx hW ez.size (by omega) (by omega))) ?_)))))
 rintro v9 w9 ⟨v9,hW9,st9⟩
 have x9:=st9.ext ez hW.ge hW.new
 refine ag (ab (af (aa (ae E E (aV E E (aY Ly (hd.ext x9)) (ae E E (ag (ab (aG ?_)))))))))
 refine eu (fun(i:Nat) (u:Value)=>[(0,.pointer (some ⟨g,0,none⟩)),(10,pv),(11,I (ps.length:Int)),(12,I (i:Int))]) (fun(i:Nat) (u:Value) w'=>gu T wz.heap.size g (l++uv ps.length++(ps.take i).flatMap gy) u w'∧cW g v w u w'∧aH wz w'∧i≤ps.length) (fun(i:Nat) (u:Value)=>ps.length-i) (0) (v9) ⟨rfl,rfl,rfl,rfl,trivial⟩ ⟨by simpa using hW9,st9,x9,by omega⟩ ?_
 rintro i u wL ⟨hW1,st1,eL,hi⟩
 refine af (aa (al E E E (a6) (ag (ab (af ?_)))))
 refine bu E (fun h13=>?_) (fun h13=>?_)
 ·refine aC (ab (af (aG (af (aa ?_)))))
  obtain⟨a14,c14,p14,q14,h14⟩:=cb (P:=Tryz.prog) (sz:=7) Ly (by kernel_rfl) dC (by omega) hd (i:=i) (by omega) .i64
  obtain⟨e14,he14⟩:∃e,e=ps[i]'(by omega):=⟨_,rfl⟩
  rw[←he14] at h14
  obtain⟨x14_0,x14_1,rfl,f14_0,f14_1⟩:=fI h14
  refine ar E E E (p14 _) ?_
  have hm:=hw e14 (by rw[he14];exact List.getElem_mem _)
  have hfl:=fo (f:=gy) (l:=ps) (i:=i) (by omega)
  rw[←he14] at hfl
  have hml:(gy e14).length=(de e14.kd).length+(de e14.ix).length+(de e14.lo).length+(de e14.hi).length+(gw e14.co).length:=by simp only[gy,List.length_append]
  refine aj E E ((q14.ext eL).ld LF E (by kernel_rfl)) ?_
  obtain⟨g5,w5,hr5,l5,x5,k5⟩:=a9 (P:=Tryz.prog) (w:=wL) (t:=187) (z:=.agg #[I 0,I 0,I 0,I 0,B false,.slice none 0 0,.slice none 0 0]) (l:=[I 0,I 0,I 0,I 0,B false,.slice none 0 0,.slice none 0 0]) (by kernel_rfl) rfl
  refine aS E hr5 ?_
  obtain⟨w3_3,s3_3,q3_3,k3_3⟩:=k5.stS (P:=Tryz.prog) (t:=187) (m:=[I e14.kd,I e14.ix,I e14.lo,I e14.hi,B e14.co.1,x14_0,x14_1]) rfl (by kernel_rfl) (ap.cons rfl (ap.cons rfl (ap.cons rfl (ap.cons rfl (ap.cons rfl (ap.cons f14_0.one (ap.cons f14_1.one ap.nil)))))))
  refine ay E E s3_3 ?_
  have x3_3:=aH.of_new (x5) q3_3 l5
  refine ag (ab (af (aa (ae E E (ah E E (av (o:=0) LF E (by kernel_rfl) E) (ah E E (av (o:=0) LL E (by kernel_rfl) E) ?_))))))
  refine aj E E (ai Lo E (k3_3.cell (i:=0) E)) (ah E E (av (o:=0) LF E (by kernel_rfl) E) ?_)
  refine ah E E (av (o:=1) LL E (by kernel_rfl) E) (aj E E (ai Lo E (k3_3.cell (i:=1) E)) ?_)
  refine ah E E (av (o:=0) LF E (by kernel_rfl) E) (ah E E (av (o:=2) LL E (by kernel_rfl) E) ?_)
  refine aj E E (ai Lo E (k3_3.cell (i:=2) E)) (ah E E (av (o:=0) LF E (by kernel_rfl) E) ?_)
  refine ah E E (av (o:=3) LL E (by kernel_rfl) E) (aj E E (ai Lo E (k3_3.cell (i:=3) E)) ?_)
  obtain⟨v29,w29,hr29,x29,o29,ob29⟩:=FH (w:=w3_3) (w3_3).heap.size [e14.kd,e14.ix,e14.lo,e14.hi] (by simp) (Nat.le_refl _)
  refine aF (vs:=[(0,I e14.kd),(1,I e14.ix),(2,I e14.lo),(3,I e14.hi)]) E E hr29 ?_
  have hWb:=hW1.ext x3_3
  have hWc:=hWb.ext x29
  refine an ov E E ((ox (ns:=[e14.kd,e14.ix,e14.lo,e14.hi]) hWc (((eL.trans x3_3).trans x29)).size (o29.rpx (fun k hk=>hWb.off_new (o29.lt k hk).1)) (Jg hm.1 hm.2.1 hm.2.2.1 hm.2.2.2) (by simp only[List.length_append,List.length_cons,List.length_nil];omega))) ?_
  rintro v30 w30 ⟨v30,hW30,st30⟩
  have x30:=st30.ext (((eL.trans x3_3).trans x29)) hWc.ge hWc.new
  have k5a:=st30.mv.blk (k3_3.ext x29) (hW1.off_new l5)
  refine ag (ab (aa (ae rfl rfl (ah rfl rfl (av (o:=4) Tryz.underlying187 rfl (by kernel_rfl) rfl) (aj rfl rfl (k5a.ldO (ms:=[B e14.co.1,x14_0,x14_1]) (o:=4) (fun j v hj=>by rcases j with _|_|_|_|_|_|_|_|_|j<;>simp_all) Tryz.underlying46 rfl (by kernel_rfl)) ?_)))))
  refine an mZ E E ((m0 (q:=e14.co) (x30) hW30 f14_0 f14_1 (by simp only[List.length_append,List.flatMap_cons,List.flatMap_nil,List.append_nil];omega))) ?_
  rintro v34 w34 ⟨v34,hW34,st34⟩
  have x34:=st34.ext (x30) hW30.ge hW30.new
  refine ag (aW (ab (aa (al (r:=I ((i+1:Nat):Int)) E E E (by have e:((i+1:Nat):Int)=(i:Int)+1:=(by omega);rw[e];exact aR (by omega) (by omega)) ?_))))
  refine ae E E (ag ?_)
  refine c6 (i+1) (v34) ⟨rfl,rfl,rfl,rfl,trivial⟩ ⟨by
   rw[df (by omega),←he14]
   simpa only[gy,List.flatMap_cons,List.flatMap_nil,List.append_nil,List.append_assoc] using hW34,((st1.trans (cW.of_ext (x3_3.trans x29))).trans st30).trans st34,x34,by omega⟩ (by omega)
 ·refine bc (aK (aK (bf (jw E ?_))))
  exact⟨_,rfl,u,by rw[List.take_of_length_le (by omega),List.append_assoc] at hW1;exact hW1,st1⟩
end Go.Rl
namespace Go.Rl
open Go.RowKit Go.Proofs
theorem tS (b:Bool):(xq b).length=1:=by cases b<;>rfl
theorem oy {T:TypeId} {wz w:World} {g:Nat} {l:List UInt8} {ls:List eB} {lv v:Value} (ez:aH wz w) (hW:gu T wz.heap.size g l v w) (hd:cd cP ls lv wz) (hw:∀m∈ls,I9 m) (hl:l.length+(eS ls).length≤4398046511104):
 Calls Tryz.prog 147 #[.pointer (some ⟨g,0,none⟩),lv] w (bN fun _ w'=>Ib T wz.heap.size g (l++eS ls) v w w'):=by
 refine enter (vs:=[.pointer (some ⟨g,0,none⟩),lv]) Tryz.func147 E E E ?_
 have hll:=hd.len
 have hpl:(eS ls).length=(uv ls.length).length+(ls.flatMap fj).length:=by simp only[eS,List.length_append]
 refine af (aa (ae E E (ae E E (aV E E (aY Lz (hd.ext ez)) (an ru E E ((rx hW ez.size (by omega) (by omega))) ?_)))))
 rintro v10 w10 ⟨v10,hW10,st10⟩
 have x10:=st10.ext ez hW.ge hW.new
 refine ag (ab (af (aa (ae E E (aV E E (aY Lz (hd.ext x10)) (ae E E (ag (ab (aG ?_)))))))))
 refine eu (fun(i:Nat) (u:Value)=>[(0,.pointer (some ⟨g,0,none⟩)),(11,lv),(12,I (ls.length:Int)),(13,I (i:Int))]) (fun(i:Nat) (u:Value) w'=>gu T wz.heap.size g (l++uv ls.length++(ls.take i).flatMap fj) u w'∧cW g v w u w'∧aH wz w'∧i≤ls.length) (fun(i:Nat) (u:Value)=>ls.length-i) (0) (v10) ⟨rfl,rfl,rfl,rfl,trivial⟩ ⟨by simpa using hW10,st10,x10,by omega⟩ ?_
 rintro i u wL ⟨hW1,st1,eL,hi⟩
 refine af (aa (al E E E (a6) (ag (ab (af ?_)))))
 refine bu E (fun h14=>?_) (fun h14=>?_)
 ·refine aC (ab (af (aG (af (aa ?_)))))
  obtain⟨a15,c15,p15,q15,h15⟩:=cb (P:=Tryz.prog) (sz:=6) Lz (by kernel_rfl) cY (by omega) hd (i:=i) (by omega) .i64
  obtain⟨e15,he15⟩:∃e,e=ls[i]'(by omega):=⟨_,rfl⟩
  rw[←he15] at h15
  obtain⟨x15_0,x15_1,x15_2,rfl,f15_0,f15_1,f15_2⟩:=eK h15
  refine ar E E E (p15 _) ?_
  have hm:=hw e15 (by rw[he15];exact List.getElem_mem _)
  have hfl:=fo (f:=fj) (l:=ls) (i:=i) (by omega)
  rw[←he15] at hfl
  have hbl:=tS e15.up
  have hml:(fj e15).length=(de e15.un).length+(xq e15.up).length+(gw e15.va).length+(jE e15.pf).length:=by simp only[fj,List.length_append]
  obtain⟨pre,hpre⟩:∃pre,pre=l++uv ls.length++(ls.take i).flatMap fj:=⟨_,rfl⟩
  have hprl:pre.length=l.length+(uv ls.length).length+((ls.take i).flatMap fj).length:=by rw[hpre];simp only[List.length_append]
  rw[←hpre] at hW1
  refine aj E E ((q15.ext eL).ld LB E (by kernel_rfl)) ?_
  obtain⟨g5,w5,hr5,l5,x5,k5⟩:=a9 (P:=Tryz.prog) (w:=wL) (t:=173) (z:=.agg #[I 0,B false,B false,.slice none 0 0,.slice none 0 0,.slice none 0 0]) (l:=[I 0,B false,B false,.slice none 0 0,.slice none 0 0,.slice none 0 0]) (by kernel_rfl) rfl
  refine aS E hr5 ?_
  obtain⟨w3_3,s3_3,q3_3,k3_3⟩:=k5.stS (P:=Tryz.prog) (t:=173) (m:=[I e15.un,B e15.up,B e15.va.1,x15_0,x15_1,x15_2]) rfl (by kernel_rfl) (ap.cons rfl (ap.cons rfl (ap.cons rfl (ap.cons f15_0.one (ap.cons f15_1.one (ap.cons f15_2.one ap.nil))))))
  refine ay E E s3_3 ?_
  have x3_3:=aH.of_new (x5) q3_3 l5
  refine ag (ab (af (aa (ae E E (ah E E (av (o:=0) LB E (by kernel_rfl) E) (aj E E (ai Lo E (k3_3.cell (i:=0) E)) ?_))))))
  obtain⟨v20,w20,hr20,x20,o20,ob20⟩:=FH (w:=w3_3) (w3_3).heap.size [e15.un] (by simp) (Nat.le_refl _)
  refine aF (vs:=[(0,I e15.un)]) E E hr20 ?_
  have hWb:=hW1.ext x3_3
  have hWc:=hWb.ext x20
  refine an ov E E ((ox (ns:=[e15.un]) hWc (((eL.trans x3_3).trans x20)).size (o20.rpx (fun k hk=>hWb.off_new (o20.lt k hk).1)) (K7 hm.1) (by simp only[List.length_cons,List.length_nil];omega))) ?_
  rintro v21 w21 ⟨v21,hW21,st21⟩
  have x21:=st21.ext (((eL.trans x3_3).trans x20)) hWc.ge hWc.new
  have n5:=hW1.off_new l5
  have k5a:=st21.mv.blk (k3_3.ext x20) n5
  have n5a:=st21.off n5 (k3_3.ext x20).lt
  have kg:=hW21.blk
  have hc1:[e15.un].flatMap de=de e15.un:=by simp only[List.flatMap_cons,List.flatMap_nil,List.append_nil]
  rw[hc1] at hW21
  refine ag (ab (af (aa (ac E E (ag (ab (af (af (aa (ah E E (av (o:=1) LB E (by kernel_rfl) E) ?_))))))))))
  refine aj E E (ai Lw E (k5a.cell (i:=1) E)) (ag (ab ?_))
  refine fJ E (fun h23=>?_) (fun h23=>?_)
  ·have hbit:xq e15.up=[1]:=by rw[h23];rfl
   refine aa (ac E E (ag (ab (af (aa (ae E E (ae E E (aE E E ?_))))))))
   refine ah E E jk ?_
   refine aj E E (ai Lv E kg.k0) (ae E E ?_)
   obtain⟨v30,w30,hr30,x30,o30,ob30⟩:=dS (w:=w21) w21.heap.size [1] (by simp) (Nat.le_refl _)
   refine aF (vs:=[(0,U8 1)]) E E hr30 ?_
   obtain⟨v31,wa31,wb31,hr31,hs31,hW31,st31⟩:=gu.put (t:=22) (t2:=22) (ty:=22) Tryz.underlying22 jj Tryz.underlying22 (hW21.ext x30) ((x21.trans x30)).size o30.bts (by simp) (by simp only[List.length_append,List.length_cons,List.length_nil];omega)
   refine aT E E hr31 ?_
   refine aE E E ?_
   refine ah E E jk ?_
   refine ay E E hs31 ?_
   have x31:=st31.ext ((x21.trans x30)) (hW21.ext x30).ge (hW21.ext x30).new
   have k5b:=st31.mv.blk (k5a.ext x30) n5a
   have n5b:=st31.off n5a (k5a.ext x30).lt
   rw[←hbit] at hW31
   refine ag (ab (af (aa (ae rfl rfl (ah rfl rfl (av (o:=2) Tryz.underlying173 rfl (by kernel_rfl) rfl) (aj rfl rfl (k5b.ldO (ms:=[B e15.va.1,x15_0,x15_1]) (o:=2) (fun j v hj=>by rcases j with _|_|_|_|_|_|_|_|_|j<;>simp_all) Tryz.underlying46 rfl (by kernel_rfl)) ?_))))))
   refine an mZ E E ((m0 (q:=e15.va) (x31) hW31 f15_0 f15_1 (by simp only[List.length_append];omega))) ?_
   rintro v37 w37 ⟨v37,hW37,st37⟩
   have x37:=st37.ext (x31) hW31.ge hW31.new
   have k5c:=st37.mv.blk k5b n5b
   refine ag (ab (aa (ae E E (ah E E (av (o:=5) LB E (by kernel_rfl) E) (aj E E (ai Ly E (k5c.cell (i:=5) E)) ?_)))))
   refine an jF E E ((jG (ps:=e15.pf) (x37) hW37 f15_2 hm.2 (by simp only[List.length_append];omega))) ?_
   rintro v41 w41 ⟨v41,hW41,st41⟩
   have x41:=st41.ext (x37) hW37.ge hW37.new
   refine ag (aW (ab (aa (al (r:=I ((i+1:Nat):Int)) E E E (by have e:((i+1:Nat):Int)=(i:Int)+1:=(by omega);rw[e];exact aR (by omega) (by omega)) ?_))))
   refine ae E E (ag ?_)
   refine c6 (i+1) (v41) ⟨rfl,rfl,rfl,rfl,trivial⟩ ⟨by
    rw[df (by omega),←he15,←List.append_assoc,←hpre]
    simpa only[fj,List.append_assoc] using hW41,((((st1.trans (cW.of_ext (x3_3.trans x20))).trans st21).trans ((cW.of_ext x30).trans st31)).trans st37).trans st41,x41,by omega⟩ (by omega)
  ·have hbit:xq e15.up=[0]:=by rw[h23];rfl
   refine aC (ab (af (aa (ae E E (ae E E (aE E E ?_))))))
   refine ah E E jk ?_
   refine aj E E (ai Lv E kg.k0) (ae E E ?_)
   obtain⟨v30,w30,hr30,x30,o30,ob30⟩:=dS (w:=w21) w21.heap.size [0] (by simp) (Nat.le_refl _)
   refine aF (vs:=[(0,U8 0)]) E E hr30 ?_
   obtain⟨v31,wa31,wb31,hr31,hs31,hW31,st31⟩:=gu.put (t:=22) (t2:=22) (ty:=22) Tryz.underlying22 jj Tryz.underlying22 (hW21.ext x30) ((x21.trans x30)).size o30.bts (by simp) (by simp only[List.length_append,List.length_cons,List.length_nil];omega)
   refine aT E E hr31 ?_
   refine aE E E ?_
   refine ah E E jk ?_
   refine ay E E hs31 ?_
   have x31:=st31.ext ((x21.trans x30)) (hW21.ext x30).ge (hW21.ext x30).new
   have k5b:=st31.mv.blk (k5a.ext x30) n5a
   have n5b:=st31.off n5a (k5a.ext x30).lt
   rw[←hbit] at hW31
   refine ag (ab (af (aa (ae rfl rfl (ah rfl rfl (av (o:=2) Tryz.underlying173 rfl (by kernel_rfl) rfl) (aj rfl rfl (k5b.ldO (ms:=[B e15.va.1,x15_0,x15_1]) (o:=2) (fun j v hj=>by rcases j with _|_|_|_|_|_|_|_|_|j<;>simp_all) Tryz.underlying46 rfl (by kernel_rfl)) ?_))))))
   refine an mZ E E ((m0 (q:=e15.va) (x31) hW31 f15_0 f15_1 (by simp only[List.length_append];omega))) ?_
   rintro v37 w37 ⟨v37,hW37,st37⟩
   have x37:=st37.ext (x31) hW31.ge hW31.new
   have k5c:=st37.mv.blk k5b n5b
   refine ag (ab (aa (ae E E (ah E E (av (o:=5) LB E (by kernel_rfl) E) (aj E E (ai Ly E (k5c.cell (i:=5) E)) ?_)))))
   refine an jF E E ((jG (ps:=e15.pf) (x37) hW37 f15_2 hm.2 (by simp only[List.length_append];omega))) ?_
   rintro v41 w41 ⟨v41,hW41,st41⟩
   have x41:=st41.ext (x37) hW37.ge hW37.new
   refine ag (aW (ab (aa (al (r:=I ((i+1:Nat):Int)) E E E (by have e:((i+1:Nat):Int)=(i:Int)+1:=(by omega);rw[e];exact aR (by omega) (by omega)) ?_))))
   refine ae E E (ag ?_)
   refine c6 (i+1) (v41) ⟨rfl,rfl,rfl,rfl,trivial⟩ ⟨by
    rw[df (by omega),←he15,←List.append_assoc,←hpre]
    simpa only[fj,List.append_assoc] using hW41,((((st1.trans (cW.of_ext (x3_3.trans x20))).trans st21).trans ((cW.of_ext x30).trans st31)).trans st37).trans st41,x41,by omega⟩ (by omega)
 ·refine bc (aK (aK (bf (jw E ?_))))
  exact⟨_,rfl,u,by rw[List.take_of_length_le (by omega),List.append_assoc] at hW1;exact hW1,st1⟩
theorem A5 {T:TypeId} {wz w:World} {g:Nat} {l:List UInt8} {n:aP} {vl x y vk vp v:Value}
 (ih:∀k∈n.kids,∀{w:World} {l:List UInt8} {vl x y vk vp v:Value},aH wz w→gu T wz.heap.size g l v w→cd cP k.lems vl wz→bk k.split.at_.2.1 x wz→bk k.split.at_.2.2 y wz→cd bh k.kids vk wz→cd bK k.pf vp wz→wN k→l.length+(dt k).length≤4398046511104→
   Calls Tryz.prog 115 #[.pointer (some ⟨g,0,none⟩),.agg #[vl,I k.split.kd,I k.split.ix,B k.split.at_.1,x,y,vk,B k.empty,vp]] w (bN fun _ w'=>Ib T wz.heap.size g (l++dt k) v w w'))
 (ez:aH wz w) (hW:gu T wz.heap.size g l v w) (hl:cd cP n.lems vl wz) (hx:bk n.split.at_.2.1 x wz) (hy:bk n.split.at_.2.2 y wz) (hk:cd bh n.kids vk wz) (hp:cd bK n.pf vp wz) (hw:wN n) (hb:l.length+(dt n).length≤4398046511104):
 Calls Tryz.prog 115 #[.pointer (some ⟨g,0,none⟩),.agg #[vl,I n.split.kd,I n.split.ix,B n.split.at_.1,x,y,vk,B n.empty,vp]] w (bN fun _ w'=>Ib T wz.heap.size g (l++dt n) v w w'):=by
 refine enter (vs:=[.pointer (some ⟨g,0,none⟩),.agg #[vl,I n.split.kd,I n.split.ix,B n.split.at_.1,x,y,vk,B n.empty,vp]]) Tryz.func115 E E E ?_
 have hll:=hk.len
 obtain⟨wl,wd,wp,wk⟩:=(yV n).1 hw
 have hen:=ro n
 refine af (aa ?_)
 obtain⟨g3,w3,hr3,l3,x3,k3⟩:=cq (P:=Tryz.prog) (w:=w) (T:=52) (cs:=[vl,I n.split.kd,I n.split.ix,B n.split.at_.1,x,y,vk,B n.empty,vp])
 refine cw E E hr3 (ag (ab (af (aa (ac E E (ag (ab (af (aG (af (aa (ah E E (av (o:=6) Lk E (by kernel_rfl) E) ?_))))))))))))
 refine aj E E (ai Ls E (k3.cell (i:=6) E)) (aV E E (aY Ls (hk.ext (ez.trans x3))) ?_)
 refine al E E E (bT) (ac E E (ag (ab ?_)))
 refine bu E (fun h7=>?_) (fun h7=>?_)
 ·have h0:¬n.kids.length=0:=by omega
  rw[if_neg h0] at hen
  have hel:(dt n).length=1+(eS n.lems).length+(gG n.split).length+(n.kids.flatMap dt).length:=by rw[hen];simp only[List.length_append,List.length_cons,List.length_nil]
  refine aa (ac E E (ag (aW (ab (af ?_)))))
  have hW3:=hW.ext x3
  have kg:=hW3.blk
  have n3:=hW.off_new l3
  refine aa (ae E E (ae E E (aE E E ?_)))
  refine ah E E jk ?_
  refine aj E E (ai Lv E kg.k0) (ae E E ?_)
  obtain⟨v21,w21,hr21,x21,o21,ob21⟩:=dS (w:=w3) w3.heap.size [2] (by simp) (Nat.le_refl _)
  refine aF (vs:=[(0,U8 2)]) E E hr21 ?_
  obtain⟨v22,wa22,wb22,hr22,hs22,hW22,st22⟩:=gu.put (t:=22) (t2:=22) (ty:=22) Tryz.underlying22 jj Tryz.underlying22 (hW3.ext x21) (((ez.trans x3).trans x21)).size o21.bts (by simp) (by simp only[List.length_cons,List.length_nil];omega)
  refine aT E E hr22 ?_
  refine aE E E ?_
  refine ah E E jk ?_
  refine ay E E hs22 ?_
  have x22:=st22.ext (((ez.trans x3).trans x21)) (hW3.ext x21).ge (hW3.ext x21).new
  have k3a:=st22.mv.blk (k3.ext x21) n3
  have n3a:=st22.off n3 (k3.ext x21).lt
  refine ag (ab (af (aa (ae E E (ah E E (av (o:=0) Lk E (by kernel_rfl) E) (aj E E (ai Lz E (k3a.cell (i:=0) E)) ?_))))))
  refine an ow E E ((oy (ls:=n.lems) (x22) hW22 hl wl (by simp only[List.length_append,List.length_cons,List.length_nil];omega))) ?_
  rintro v28 w28 ⟨v28,hW28,st28⟩
  have x28:=st28.ext (x22) hW22.ge hW22.new
  have k3b:=st28.mv.blk k3a n3a
  have n3b:=st28.off n3a k3a.lt
  refine ag (ab (af (af (aa (ae E E ?_)))))
  refine al (u:=U8 2) (v:=U8 2) (r:=B false) E E E (d7 (show ¬(2:UInt8)<2 by decide) lu) ?_
  refine ag (ab (cN E (aC (ab (af (aa (ae E E (ah E E (av (o:=1) Lk E (by kernel_rfl) E) ?_))))))))
  refine aj rfl rfl (k3b.ldO (ms:=[I n.split.kd,I n.split.ix,B n.split.at_.1,x,y]) (o:=1) (fun j v hj=>by rcases j with _|_|_|_|_|_|_|_|_|j<;>simp_all) Tryz.underlying48 rfl (by kernel_rfl)) ?_
  refine an BZ E E ((B1 (d:=n.split) (x28) hW28 hx hy wd (by simp only[List.length_append,List.length_cons,List.length_nil];omega))) ?_
  rintro v38 w38 ⟨v38,hW38,st38⟩
  have x38:=st38.ext (x28) hW28.ge hW28.new
  have k3c:=st38.mv.blk k3b n3b
  obtain⟨pre,hpre⟩:∃pre,pre=l++[2]++eS n.lems++gG n.split:=⟨_,rfl⟩
  have hprl:pre.length=l.length+1+(eS n.lems).length+(gG n.split).length:=by rw[hpre];simp only[List.length_append,List.length_cons,List.length_nil]
  rw[←hpre] at hW38
  refine ag (ab (af (aa (ah E E (av (o:=6) Lk E (by kernel_rfl) E) (aj E E (ai Ls E (k3c.cell (i:=6) E)) ?_)))))
  refine aV E E (aY (f:=bh) Ls (hk.ext (x38))) ?_
  refine ae E E (ag (ab (aG ?_)))
  refine eu (fun(i:Nat) (u:Value)=>[(0,.pointer (some ⟨g,0,none⟩)),(40,vk),(41,I (n.kids.length:Int)),(42,I (i:Int))]) (fun(i:Nat) (u:Value) w'=>gu T wz.heap.size g (pre++(n.kids.take i).flatMap dt) u w'∧cW g v w u w'∧aH wz w'∧i≤n.kids.length) (fun(i:Nat) (u:Value)=>n.kids.length-i) (0) (v38) ⟨rfl,rfl,rfl,rfl,trivial⟩ ⟨by simpa using hW38,(((cW.of_ext (x3.trans x21)).trans st22).trans st28).trans st38,x38,by omega⟩ ?_
  rintro i u wL ⟨hW1,st1,eL,hi⟩
  refine af (aa (al E E E (a6) (ag (ab (af ?_)))))
  refine bu E (fun h43=>?_) (fun h43=>?_)
  ·refine aC (ab (af (aG (af (aa ?_)))))
   obtain⟨a44,c44,p44,q44,h44⟩:=cb (P:=Tryz.prog) (sz:=9) Ls (by kernel_rfl) bF (by omega) hk (i:=i) (by omega) .i64
   obtain⟨e44,he44⟩:∃e,e=n.kids[i]'(by omega):=⟨_,rfl⟩
   rw[←he44] at h44
   obtain⟨x44_0,x44_1,x44_2,x44_3,x44_4,rfl,f44_0,f44_1,f44_2,f44_3,f44_4⟩:=dc h44
   refine ar E E E (p44 _) ?_
   have hfl:=fo (f:=dt) (l:=n.kids) (i:=i) (by omega)
   rw[←he44] at hfl
   have hmem:e44∈n.kids:=by rw[he44];exact List.getElem_mem _
   refine aj E E ((q44.ext eL).ld Lk E (by kernel_rfl)) ?_
   obtain⟨g6,w6,hr6,l6,x6,k6⟩:=a9 (P:=Tryz.prog) (w:=wL) (t:=52) (z:=.agg #[.slice none 0 0,I 0,I 0,B false,.slice none 0 0,.slice none 0 0,.slice none 0 0,B false,.slice none 0 0]) (l:=[.slice none 0 0,I 0,I 0,B false,.slice none 0 0,.slice none 0 0,.slice none 0 0,B false,.slice none 0 0]) (by kernel_rfl) rfl
   refine aS E hr6 ?_
   obtain⟨w13_3,s13_3,q13_3,k13_3⟩:=k6.stS (P:=Tryz.prog) (t:=52) (m:=[x44_0,I e44.split.kd,I e44.split.ix,B e44.split.at_.1,x44_1,x44_2,x44_3,B e44.empty,x44_4]) rfl (by kernel_rfl) (ap.cons f44_0.one (ap.cons rfl (ap.cons rfl (ap.cons rfl (ap.cons f44_1.one (ap.cons f44_2.one (ap.cons f44_3.one (ap.cons rfl (ap.cons f44_4.one ap.nil)))))))))
   refine ay E E s13_3 ?_
   have x13_3:=aH.of_new (x6) q13_3 l6
   refine ag (ab (aa (ae E E (aj E E (k13_3.ld Tryz.underlying52 E (by kernel_rfl)) (an tv E E ((ih e44 hmem ((eL.trans x13_3)) (hW1.ext x13_3) f44_0 f44_1 f44_2 f44_3 f44_4 (wk e44 hmem) (by simp only[List.length_append];omega))) ?_)))))
   rintro v48 w48 ⟨v48,hW48,st48⟩
   have x48:=st48.ext ((eL.trans x13_3)) hW1.ge hW1.new
   refine ag (aW (ab (aa (al (r:=I ((i+1:Nat):Int)) E E E (by have e:((i+1:Nat):Int)=(i:Int)+1:=(by omega);rw[e];exact aR (by omega) (by omega)) ?_))))
   refine ae E E (ag ?_)
   refine c6 (i+1) (v48) ⟨rfl,rfl,rfl,rfl,trivial⟩ ⟨by rw[df (by omega),←he44,←List.append_assoc];exact hW48,(st1.trans (cW.of_ext x13_3)).trans st48,x48,by omega⟩ (by omega)
  ·refine bc (aK (aK (bf (jw E ?_))))
   exact⟨_,rfl,u,by rw[List.take_of_length_le (by omega),hpre] at hW1;rw[hen];simpa only[List.append_assoc] using hW1,st1⟩
 ·have h0:n.kids.length=0:=by omega
  rw[if_pos h0] at hen
  have hel:(dt n).length=1+(eS n.lems).length+(jE n.pf).length:=by rw[hen];simp only[List.length_append,tS]
  refine af (aa (ah E E (av (o:=7) Lk E (by kernel_rfl) E) (aj E E (ai Lw E (k3.cell (i:=7) E)) ?_)))
  refine ac E E (ag (ab ?_))
  refine fJ E (fun h12=>?_) (fun h12=>?_)
  ·have hbit:xq n.empty=[1]:=by rw[h12];rfl
   refine aa (ac E E (ag (aW (ab (af ?_)))))
   have hW3:=hW.ext x3
   have kg:=hW3.blk
   have n3:=hW.off_new l3
   refine aa (ae E E (ae E E (aE E E ?_)))
   refine ah E E jk ?_
   refine aj E E (ai Lv E kg.k0) (ae E E ?_)
   obtain⟨v21,w21,hr21,x21,o21,ob21⟩:=dS (w:=w3) w3.heap.size [1] (by simp) (Nat.le_refl _)
   refine aF (vs:=[(0,U8 1)]) E E hr21 ?_
   obtain⟨v22,wa22,wb22,hr22,hs22,hW22,st22⟩:=gu.put (t:=22) (t2:=22) (ty:=22) Tryz.underlying22 jj Tryz.underlying22 (hW3.ext x21) (((ez.trans x3).trans x21)).size o21.bts (by simp) (by simp only[List.length_cons,List.length_nil];omega)
   refine aT E E hr22 ?_
   refine aE E E ?_
   refine ah E E jk ?_
   refine ay E E hs22 ?_
   have x22:=st22.ext (((ez.trans x3).trans x21)) (hW3.ext x21).ge (hW3.ext x21).new
   have k3a:=st22.mv.blk (k3.ext x21) n3
   have n3a:=st22.off n3 (k3.ext x21).lt
   refine ag (ab (af (aa (ae E E (ah E E (av (o:=0) Lk E (by kernel_rfl) E) (aj E E (ai Lz E (k3a.cell (i:=0) E)) ?_))))))
   refine an ow E E ((oy (ls:=n.lems) (x22) hW22 hl wl (by simp only[List.length_append,List.length_cons,List.length_nil];omega))) ?_
   rintro v28 w28 ⟨v28,hW28,st28⟩
   have x28:=st28.ext (x22) hW22.ge hW22.new
   have k3b:=st28.mv.blk k3a n3a
   have n3b:=st28.off n3a k3a.lt
   refine ag (ab (af (af (aa (ae E E ?_)))))
   refine al (u:=U8 1) (v:=U8 2) (r:=B true) E E E (dD (show(1:UInt8)<2 by decide) lu) ?_
   refine ag (ab (bm E (af (aa (ae E E (ah E E (av (o:=8) Lk E (by kernel_rfl) E) (aj E E (ai Ly E (k3b.cell (i:=8) E)) ?_)))))))
   refine an jF E E ((jG (ps:=n.pf) (x28) hW28 hp wp (by simp only[List.length_append,List.length_cons,List.length_nil];omega))) ?_
   rintro v34 w34 ⟨v34,hW34,st34⟩
   have x34:=st34.ext (x28) hW28.ge hW28.new
   refine ag (ab (aw (az (CI E ?_))))
   exact⟨_,rfl,v34,by rw[hen,hbit];simpa only[List.append_assoc] using hW34,(((cW.of_ext (x3.trans x21)).trans st22).trans st28).trans st34⟩
  ·have hbit:xq n.empty=[0]:=by rw[h12];rfl
   refine aC (aW (ab (af ?_)))
   have hW3:=hW.ext x3
   have kg:=hW3.blk
   have n3:=hW.off_new l3
   refine aa (ae E E (ae E E (aE E E ?_)))
   refine ah E E jk ?_
   refine aj E E (ai Lv E kg.k0) (ae E E ?_)
   obtain⟨v21,w21,hr21,x21,o21,ob21⟩:=dS (w:=w3) w3.heap.size [0] (by simp) (Nat.le_refl _)
   refine aF (vs:=[(0,U8 0)]) E E hr21 ?_
   obtain⟨v22,wa22,wb22,hr22,hs22,hW22,st22⟩:=gu.put (t:=22) (t2:=22) (ty:=22) Tryz.underlying22 jj Tryz.underlying22 (hW3.ext x21) (((ez.trans x3).trans x21)).size o21.bts (by simp) (by simp only[List.length_cons,List.length_nil];omega)
   refine aT E E hr22 ?_
   refine aE E E ?_
   refine ah E E jk ?_
   refine ay E E hs22 ?_
   have x22:=st22.ext (((ez.trans x3).trans x21)) (hW3.ext x21).ge (hW3.ext x21).new
   have k3a:=st22.mv.blk (k3.ext x21) n3
   have n3a:=st22.off n3 (k3.ext x21).lt
   refine ag (ab (af (aa (ae E E (ah E E (av (o:=0) Lk E (by kernel_rfl) E) (aj E E (ai Lz E (k3a.cell (i:=0) E)) ?_))))))
   refine an ow E E ((oy (ls:=n.lems) (x22) hW22 hl wl (by simp only[List.length_append,List.length_cons,List.length_nil];omega))) ?_
   rintro v28 w28 ⟨v28,hW28,st28⟩
   have x28:=st28.ext (x22) hW22.ge hW22.new
   have k3b:=st28.mv.blk k3a n3a
   have n3b:=st28.off n3a k3a.lt
   refine ag (ab (af (af (aa (ae E E ?_)))))
   refine al (u:=U8 0) (v:=U8 2) (r:=B true) E E E (dD (show(0:UInt8)<2 by decide) lu) ?_
   refine ag (ab (bm E (af (aa (ae E E (ah E E (av (o:=8) Lk E (by kernel_rfl) E) (aj E E (ai Ly E (k3b.cell (i:=8) E)) ?_)))))))
   refine an jF E E ((jG (ps:=n.pf) (x28) hW28 hp wp (by simp only[List.length_append,List.length_cons,List.length_nil];omega))) ?_
   rintro v34 w34 ⟨v34,hW34,st34⟩
   have x34:=st34.ext (x28) hW28.ge hW28.new
   refine ag (ab (aw (az (CI E ?_))))
   exact⟨_,rfl,v34,by rw[hen,hbit];simpa only[List.append_assoc] using hW34,(((cW.of_ext (x3.trans x21)).trans st22).trans st28).trans st34⟩
theorem tw {T:TypeId} {wz:World} {g:Nat}:∀(m:Nat) {n:aP},SizeOf.sizeOf n≤m→∀{w:World} {l:List UInt8} {vl x y vk vp v:Value},aH wz w→gu T wz.heap.size g l v w→cd cP n.lems vl wz→bk n.split.at_.2.1 x wz→bk n.split.at_.2.2 y wz→cd bh n.kids vk wz→cd bK n.pf vp wz→wN n→l.length+(dt n).length≤4398046511104→
 Calls Tryz.prog 115 #[.pointer (some ⟨g,0,none⟩),.agg #[vl,I n.split.kd,I n.split.ix,B n.split.at_.1,x,y,vk,B n.empty,vp]] w (bN fun _ w'=>Ib T wz.heap.size g (l++dt n) v w w')
 |0,n,hm=>by cases n;simp at hm
 |m+1,n,hm=>fun h1 h2 h3 h4 h5 h6 h7 h8 h9=>A5 (fun k hk _ _ _ _ _ _ _ _=>tw m (by have:=aP.lt_of_mem hk;omega)) h1 h2 h3 h4 h5 h6 h7 h8 h9
theorem gu.mk1 {T:TypeId} {w0 w w':World} {g:Nat} {l:List UInt8} {v:Value} (e:aH w0 w) (ho:cL w0.heap.size l v w) (x:aH w w') (hg:w.heap.size≤g) (k:bQ g T [v] w'):gu T w0.heap.size g l v w':=
 ⟨Nat.le_trans e.size hg,k,.inl (ho.ext x),ho.ge,fun h=>by have:=ho.lt g h;omega,fun n hn=>Nat.lt_of_lt_of_le (ho.lt n hn) x.size⟩
theorem B7 {w:World} {b:List UInt8} {bv:Value} {n:aP} {vl x y vk vp:Value} (hbv:cK b bv w) (hl:cd cP n.lems vl w) (hx:bk n.split.at_.2.1 x w) (hy:bk n.split.at_.2.2 y w) (hk:cd bh n.kids vk w) (hp:cd bK n.pf vp w) (hw:wN n) (hb:b.length+(dt n).length≤4398046511104):
 Calls Tryz.prog 77 #[bv,.agg #[vl,I n.split.kd,I n.split.ix,B n.split.at_.1,x,y,vk,B n.empty,vp]] w (bN fun r w'=>aH w w'∧cK (b++dt n) r w'):=by
 refine enter (vs:=[bv,.agg #[vl,I n.split.kd,I n.split.ix,B n.split.at_.1,x,y,vk,B n.empty,vp]]) Tryz.func77 E E E ?_
 refine af (aa ?_)
 obtain⟨g3,w3,hr3,l3,x3,k3⟩:=cq (P:=Tryz.prog) (w:=w) (T:=52) (cs:=[vl,I n.split.kd,I n.split.ix,B n.split.at_.1,x,y,vk,B n.empty,vp])
 refine cw E E hr3 (ac E E (ag (ab (af (aa ?_)))))
 obtain⟨v6,w6,hr6,x6,o6,ob6⟩:=dS (w:=w3) w3.heap.size [] (by simp) (Nat.le_refl _)
 refine aF (vs:=[]) E E hr6 (ae E E ?_)
 obtain⟨v8,w8,hr8,o8,g8⟩:=di (ty:=22) o6 (hbv.ext (x3.trans x6)) (by simp;omega) (x6).size
 have x8:=aH.of_grew (x6) g8 o6.ge
 refine aT E E hr8 ?_
 have o8w:cL w.heap.size b v8 w8:=by have:=o8;rw[List.nil_append] at this;exact this.low x3.size
 obtain⟨A8,n8,c8,e8,_⟩:=o8w.bts
 refine bC (vs:=[(0,v8)]) (r:=.agg #[v8]) E E (by rw[e8];exact run_build _ _ _ _ (by kernel_rfl)) ?_
 obtain⟨g10,w10,hr10,l10,x10,k10⟩:=cq (P:=Tryz.prog) (w:=w8) (T:=142) (cs:=[v8])
 refine cw E E hr10 ?_
 have hW10:gu 142 w.heap.size g10 b v8 w10:=gu.mk1 ((x3.trans x8)) o8w x10 l10 k10
 refine ac E E (ag (ab (af (aa (ae E E (aj E E ((k3.ext (x8.trans x10)).ld Lk E (by kernel_rfl)) ?_))))))
 refine an tv E E ((tw _ (Nat.le_refl _) (((x3.trans x8).trans x10)) hW10 hl hx hy hk hp hw hb)) ?_
 rintro v13 w13 ⟨v13,hW13,st13⟩
 have x13:=st13.ext (((x3.trans x8).trans x10)) hW10.ge hW10.new
 refine ag (ab (af ?_))
 have kg:=hW13.blk
 refine aa (ae E E (aE E E ?_))
 refine ah E E jk ?_
 refine aj E E (ai Lv E kg.k0) (ac E E (ag (ab (aw (au E E ?_)))))
 exact⟨_,rfl,x13,hW13.row.bts⟩
end Go.Rl
namespace Go.Rl
open Go.RowKit Go.Proofs
def Jh (base:Nat) (c:AY) (r:Value) (w:World):Prop:=∃v,r=.tuple #[v,I (JX c).2]∧cL base (JX c).1 v w
theorem Jh.ok {base:Nat} {c:AY} {w:World} {l:List UInt8} {v:Value} (h:JX c=(l,0)) (o:cL base l v w):Jh base c (.tuple #[v,I 0]) w:=⟨v,by rw[h],by rw[h];exact o⟩
end Go.Rl
namespace Go.Rl
open Go.RowKit Go.Proofs Go.Proofs.YtpeidnhjcompmaaGreatDoor
theorem iV:aJ Tryz.prog 110:=⟨_,Tryz.func110,by kernel_rfl,rfl⟩
theorem fp:aJ Tryz.prog 109:=⟨_,Tryz.func109,by kernel_rfl,rfl⟩
def j3 (k:Int):Int:=if k=1 then 2 else if k=2 then 1 else if k=3 then 4 else if k=4 then 3 else k
def be (d:bj):bj:=⟨j3 d.kd,d.ix,d.at_⟩
theorem GT {k:Int} (h:¬(k>0∧k<5)):j3 k=k:=by
 unfold j3
 repeat rw[if_neg (by omega)]
theorem GU {w:World} (h:zQ w) {k:Int} (h1:k>0) (h2:k<5):∃j:Nat,k=(j:Int)∧j<5∧w.cell? ⟨0,0+j,none⟩=some (I (j3 k)):=by
 have hc:∀(j:Nat) (u:Value),[I 0,I 2,I 1,I 4,I 3][j]? =some u→w.cell? ⟨0,0+j,none⟩=some u:=fun j u hu=>by
  have:=h j u hu
  rwa [Addr.add_mid] at this
 obtain⟨j,rfl⟩:∃j:Nat,k=(j:Int):=⟨k.toNat,by omega⟩
 refine⟨j,rfl,by omega,?_⟩
 have:j=1∨j=2∨j=3∨j=4:=by omega
 rcases this with rfl|rfl|rfl|rfl
 ·exact hc 1 _ rfl
 ·exact hc 2 _ rfl
 ·exact hc 3 _ rfl
 ·exact hc 4 _ rfl
theorem f9:(Tryz.prog.info? 48).map (fun i=>(i.zero,i.size,i.bytes))=some (some (.agg #[I 0,I 0,B false,.slice none 0 0,.slice none 0 0]),5,72):=by kernel_rfl
theorem ij:(Tryz.prog.info? 48).map (fun i=>(i.zero,i.size))=some (some (.agg #[I 0,I 0,B false,.slice none 0 0,.slice none 0 0]),5):=by kernel_rfl
theorem A6 {d:bj} (h:¬(d.kd>0∧d.kd<5)):be d=d:=by
 unfold be
 rw[GT h]
theorem iW {w:World} {d:bj} {x y:Value} (ho:zQ w) (hx:bk d.at_.2.1 x w) (hy:bk d.at_.2.2 y w):
 Calls Tryz.prog 110 #[.agg #[I d.kd,I d.ix,B d.at_.1,x,y]] w (bN fun r w'=>aH w w'∧r=.agg #[I (be d).kd,I (be d).ix,B (be d).at_.1,x,y]):=by
 refine enter (vs:=[.agg #[I d.kd,I d.ix,B d.at_.1,x,y]]) Tryz.func110 E E E ?_
 refine af (aa ?_)
 obtain⟨g1,w1,hr1,l1,x1,k1⟩:=cq (P:=Tryz.prog) (w:=w) (T:=48) (cs:=[I d.kd,I d.ix,B d.at_.1,x,y])
 refine cw E E hr1 ?_
 obtain⟨g2,w2,hr2,l2,x2,k2⟩:=a9 (P:=Tryz.prog) (w:=w1) (t:=48) (z:=.agg #[I 0,I 0,B false,.slice none 0 0,.slice none 0 0]) (l:=[I 0,I 0,B false,.slice none 0 0,.slice none 0 0]) (by kernel_rfl) rfl
 refine aS E hr2 (ag (ab (af (af (aa (ah E E (av (o:=0) Lm E (by kernel_rfl) E) (aj E E (ai Lo E (x2.cell_some (k1.cell (i:=0) E))) ?_)))))))
 refine al E E E (bT) (ae E E ?_)
 refine ci (fun h6=>?_) (fun h6=>?_)
 ·refine ak E (ah E E (av (o:=0) Lm E (by kernel_rfl) E) (ak E (aj E E (ai Lo E (x2.cell_some (k1.cell (i:=0) E))) ?_)))
  refine ak E (al E E E (a6) (aq E E E (ag (ab ?_))))
  refine bu E (fun h10=>?_) (fun h10=>?_)
  ·have h10:d.kd<5:=h10
   obtain⟨j,hj,hj5,cj⟩:=GU (ho.ext (x1.trans x2)) h6 h10
   refine aa (ah E E (av (o:=0) Lm E (by kernel_rfl) E) (aj E E (ai Lo E (x2.cell_some (k1.cell (i:=0) E))) ?_))
   refine ar (v:=.int .i64 (j:Int)) E (by rw[hj];rfl) E (iz Tryz.underlying225 (by kernel_rfl) hj5 .i64) ?_
   refine aj E E (ai Lo E cj) (ah E E (av (o:=0) Lm E (by kernel_rfl) E) ?_)
   obtain⟨w2_5,s2_5,q2_5,k2_5⟩:=(k1.ext x2).stC (P:=Tryz.prog) (t:=3) (i:=0) (v:=I (j3 d.kd)) (by kernel_rfl) rfl (by simp)
   refine ay E E s2_5 ?_
   have x2_5:=aH.of_new ((x1.trans x2)) q2_5 l1
   have k25:=k2.other q2_5 (fun e=>by have:=Option.some.inj e;have:=k1.lt;omega)
   refine ag (ab (af (aa (aj E E (k2_5.ld Lm E (by kernel_rfl)) ?_))))
   obtain⟨w3_1,s3_1,q3_1,k3_1⟩:=k25.stS (P:=Tryz.prog) (t:=48) (m:=[I (j3 d.kd),I d.ix,B d.at_.1,x,y]) rfl (by kernel_rfl) (ap.cons rfl (ap.cons rfl (ap.cons rfl (ap.cons hx.one (ap.cons hy.one ap.nil)))))
   refine ay E E s3_1 ?_
   have x3_1:=aH.of_new x2_5 q3_1 (Nat.le_trans x1.size l2)
   refine ag (ab (aw ?_))
   refine cM E E k3_1 Lm E (by kernel_rfl) ?_
   exact⟨_,rfl,x3_1,rfl⟩
  ·have h10:¬d.kd<5:=h10
   refine aC (ab (af (aa (aj E E ((k1.ext x2).ld Lm E (by kernel_rfl)) ?_))))
   obtain⟨w3_1,s3_1,q3_1,k3_1⟩:=k2.stS (P:=Tryz.prog) (t:=48) (m:=[I d.kd,I d.ix,B d.at_.1,x,y]) rfl (by kernel_rfl) (ap.cons rfl (ap.cons rfl (ap.cons rfl (ap.cons hx.one (ap.cons hy.one ap.nil)))))
   refine ay E E s3_1 ?_
   have x3_1:=aH.of_new (x2) q3_1 l2
   refine ag (ab (aw ?_))
   refine cM E E k3_1 Lm E (by kernel_rfl) ?_
   exact⟨_,rfl,(x1.trans x3_1),by rw[A6 (by first|exact fun h=>h6 h.1|exact fun h=>h10 h.2)]⟩
 ·refine am E E E (am E E E (am E E E (aI E E E (ag (ab (cN E (aC (ab (af (aa (aj E E ((k1.ext x2).ld Lm E (by kernel_rfl)) ?_)))))))))))
  obtain⟨w3_1,s3_1,q3_1,k3_1⟩:=k2.stS (P:=Tryz.prog) (t:=48) (m:=[I d.kd,I d.ix,B d.at_.1,x,y]) rfl (by kernel_rfl) (ap.cons rfl (ap.cons rfl (ap.cons rfl (ap.cons hx.one (ap.cons hy.one ap.nil)))))
  refine ay E E s3_1 ?_
  have x3_1:=aH.of_new (x2) q3_1 l2
  refine ag (ab (aw ?_))
  refine cM E E k3_1 Lm E (by kernel_rfl) ?_
  exact⟨_,rfl,(x1.trans x3_1),by rw[A6 (by first|exact fun h=>h6 h.1|exact fun h=>h10 h.2)]⟩
theorem ca (d:bj):(c9 d).size=5:=rfl
theorem sa.low {e:TypeId} {sz base b2:Nat} {l:List bj} {v:Value} {w:World} (h:sa e sz base c9 l v w) (hb:b2≤base):sa e sz b2 c9 l v w:=by
 obtain⟨n,xs,h1,h2⟩:=h
 exact⟨n,xs,ir h1 fun k hk=>Nat.le_trans hb (World.ownsRow.lt h1 k hk).1,h2⟩
theorem qm {w:World} {d:bj} {x y:Value} (hx:bk d.at_.2.1 x w) (hy:bk d.at_.2.2 y w):Rp w (c9 d) [I d.kd,I d.ix,B d.at_.1,x,y]:=by
 simp only[c9,kH,Rp]
 have h3:Rp w (fK d.at_) [B d.at_.1,x,y]:=by
  simp only[fK,Rp]
  exact bn.cons (a:=[B d.at_.1]) (by simp only[Rp,B]) (bn.cons (a:=[x]) (Rp.words.2 hx) (bn.cons (b:=[]) (Rp.words.2 hy) bn.nil))
 exact bn.cons (a:=[I d.kd]) (by simp only[Rp,I]) (bn.cons (a:=[I d.ix]) (by simp only[Rp,I]) (by simpa using bn.cons h3 bn.nil))
def db (n:aP) (i:Int):bj:=if i=1 then be n.split else n.split
theorem i8 {w:World} {d:bj} {x y:Value}:∃r w',(Instr.buildSlice 41 1 (dy 0 [Value.agg #[I d.kd,I d.ix,B d.at_.1,x,y]]).toArray).run Tryz.prog w=.ok r w'∧aH w w'∧Sl 5 [I d.kd,I d.ix,B d.at_.1,x,y] r w':=by
 obtain⟨r,w',a,b,c,_⟩:=uO (P:=Tryz.prog) (w:=w) Tryz.underlying41 ij rfl (by omega) [[I d.kd,I d.ix,B d.at_.1,x,y]] (by simp) (by simp) (by simp)
 exact⟨r,w',a,b,c⟩
end Go.Rl
namespace Go.Rl
open Go.RowKit Go.Proofs
end Go.Rl
namespace Go.Rl
open Go.RowKit Go.Proofs
theorem j4:aJ Tryz.prog 104:=⟨_,Tryz.func104,by kernel_rfl,rfl⟩
theorem sv:aJ Tryz.prog 58:=⟨_,Tryz.func58,by kernel_rfl,rfl⟩
theorem vq:aJ Tryz.prog 62:=⟨_,Tryz.func62,by kernel_rfl,rfl⟩
theorem vt:aJ Tryz.prog 107:=⟨_,Tryz.func107,by kernel_rfl,rfl⟩
theorem vu:aJ Tryz.prog 63:=⟨_,Tryz.func63,by kernel_rfl,rfl⟩
theorem ga:aJ Tryz.prog 59:=⟨_,Tryz.func59,by kernel_rfl,rfl⟩
def sQ (q:eW):Prop:=q.2.1.length≤1073741824∧q.2.2.length≤1073741824
def sP (l:List cp):Prop:=∀m∈l,sQ m.co
def sL (m:eB):Prop:=sQ m.va∧sP m.pf
mutual
def sN:aP→Prop
 |.mk lems sp kids _ pf=>(∀m∈lems,sL m)∧sQ sp.at_∧sP pf∧K9 kids
def K9:List aP→Prop
 |[]=>True
 |n::l=>sN n∧K9 l
end
theorem zc:∀l:List aP,K9 l↔∀n∈l,sN n
 |[]=>by simp[K9]
 |n::l=>by simp only[K9,zc l,List.mem_cons,forall_eq_or_imp]
theorem vv (n:aP):sN n↔(∀m∈n.lems,sL m)∧sQ n.split.at_∧sP n.pf∧∀k∈n.kids,sN k:=by
 cases n with
 |mk l s k e p=>simp only[sN,zc];rfl
theorem m9 {w:World} {q:eW} {x y:Value} (hx:bk q.2.1 x w) (hy:bk q.2.2 y w) (hs:sQ q):
 Calls Tryz.prog 59 #[.agg #[B q.1,x,y]] w (bN fun r w'=>aH w w'∧r=B (fC q)):=
 AC (b:=q.1) ⟨x,y,rfl,hx,hy⟩ (by have:=hs.1;omega) (by have:=hs.2;omega)
theorem oz {w:World} {q:eW} {x y:Value} {b:Bool} (hx:bk q.2.1 x w) (hy:bk q.2.2 y w) (hs:sQ q) (hb:fC q=b):
 Calls Tryz.prog 59 #[.agg #[B q.1,x,y]] w (bN fun r w'=>aH w w'∧r=B b):=hb▸m9 hx hy hs
theorem Ca {w:World} {l:List cp} {v:Value} (hv:cd bK l v w) (hs:sP l):
 Calls Tryz.prog 104 #[v] w (bN fun r w'=>aH w w'∧r=B (mS l)):=by
 refine enter (vs:=[v]) Tryz.func104 E E E ?_
 have hll:=hv.len
 refine af (aa (ac E E (ag (ab (af (af (aa (ac E E (ag (ab (aG ?_)))))))))))
 refine ck (α:=Nat) (fun i=>[(0,v),(3,I (i:Int))]) (fun i w'=>aH w w'∧i≤l.length∧(l.all fun m:cp=>fC m.co)=((l.drop i).all fun m:cp=>fC m.co)) (fun i=>l.length-i) (0) ⟨rfl,rfl,trivial⟩ ⟨aH.refl _,by omega,rfl⟩ ?_
 rintro i wL ⟨eL,hi,hall⟩
 refine af (af (aa (ae E E (ae E E (aV E E (aY Ly (hv.ext eL)) (al E E E (a6) (ag (ab ?_))))))))
 refine bu E (fun h7=>?_) (fun h7=>?_)
 ·refine aC (ab (af (aG (af (aa (ae E E (ae E E ?_)))))))
  obtain⟨a12,c12,p12,q12,h12⟩:=cb (P:=Tryz.prog) (sz:=7) Ly (by kernel_rfl) dC (by omega) (hv.ext eL) (i:=i) (by omega) .i64
  obtain⟨e12,he12⟩:∃e,e=l[i]'(by omega):=⟨_,rfl⟩
  rw[←he12] at h12
  obtain⟨x12_0,x12_1,rfl,f12_0,f12_1⟩:=fI h12
  refine ar rfl rfl rfl (p12 _) (ah rfl rfl (gt (o:=4) Tryz.underlying187 rfl (by kernel_rfl) rfl) (aj rfl rfl (q12.ldO (ms:=[B e12.co.1,x12_0,x12_1]) (o:=4) (fun j v hj=>by rcases j with _|_|_|_|_|_|_|_|_|j<;>simp_all) Tryz.underlying46 rfl (by kernel_rfl)) ?_))
  refine an ga E E ((m9 (q:=e12.co) f12_0 f12_1 (hs e12 (by rw[he12];exact List.getElem_mem _)))) ?_
  rintro v15 w15 ⟨x15,rfl⟩
  refine bw E E bB (ag (ab ?_))
  refine fJ E (fun h16=>?_) (fun h16=>?_)
  ·have hno:fC (l[i]'(by omega)).co=false:=by rw[←he12];rw[Bool.not_eq_true'] at h16;exact h16
   refine af (aa (ac E E (ag (ab (aw (ba (az (az (ba (az (au E E ?_)))))))))))
   exact⟨_,rfl,(eL.trans x15),congrArg B (f8 (p:=fun m:cp=>fC m.co) (by omega) hall hno).symm⟩
  ·have hyes:fC (l[i]'(by omega)).co=true:=by rw[←he12];rw[Bool.not_eq_false'] at h16;exact h16
   refine aC (aW (ab (aa (ae E E (al (r:=I ((i+1:Nat):Int)) E E E (by have e:((i+1:Nat):Int)=(i:Int)+1:=(by omega);rw[e];exact aR (by omega) (by omega)) ?_)))))
   refine ac E E (ag ?_)
   refine bS (i+1) ⟨rfl,rfl,trivial⟩ ⟨(eL.trans x15),by omega,qk (p:=fun m:cp=>fC m.co) (by omega) hall hyes⟩ (by omega)
 ·refine bc (aK (aK (bf (ab (af (aa (ac E E (ag (ab (aw (au E E ?_)))))))))))
  exact⟨_,rfl,eL,congrArg B (mY (p:=fun m:cp=>fC m.co) (by omega) hall).symm⟩
theorem oF {w:World} {l:List cp} {v:Value} {b:Bool} (hv:cd bK l v w) (hs:sP l) (hb:mS l=b):
 Calls Tryz.prog 104 #[v] w (bN fun r w'=>aH w w'∧r=B b):=hb▸Ca hv hs
theorem EJ {w:World} {n:aP} {vl x y vk vp:Value} (ih:∀k∈n.kids,∀{w:World} {vl x y vk vp:Value},cd cP k.lems vl w→bk k.split.at_.2.1 x w→bk k.split.at_.2.2 y w→cd bh k.kids vk w→cd bK k.pf vp w→sN k→
 Calls Tryz.prog 58 #[.agg #[vl,I k.split.kd,I k.split.ix,B k.split.at_.1,x,y,vk,B k.empty,vp]] w (bN fun r w'=>aH w w'∧r=B (iG k)))
 (hl:cd cP n.lems vl w) (hx:bk n.split.at_.2.1 x w) (hy:bk n.split.at_.2.2 y w) (hk:cd bh n.kids vk w) (hp:cd bK n.pf vp w) (hs:sN n):
 Calls Tryz.prog 58 #[.agg #[vl,I n.split.kd,I n.split.ix,B n.split.at_.1,x,y,vk,B n.empty,vp]] w (bN fun r w'=>aH w w'∧r=B (iG n)):=by
 refine enter (vs:=[.agg #[vl,I n.split.kd,I n.split.ix,B n.split.at_.1,x,y,vk,B n.empty,vp]]) Tryz.func58 E E E ?_
 obtain⟨sl,ss,sp,sk⟩:=(vv n).1 hs
 have hcn:=H0 n
 have hll:=hl.len
 have hkl:=hk.len
 refine af (aa ?_)
 obtain⟨g1,w1,hr1,l1,x1,k1⟩:=cq (P:=Tryz.prog) (w:=w) (T:=52) (cs:=[vl,I n.split.kd,I n.split.ix,B n.split.at_.1,x,y,vk,B n.empty,vp])
 refine cw E E hr1 (ac E E (ag (ab (af (af ?_)))))
 rcases hc1:mS n.pf
 rotate_left
 rcases hc2:fC n.split.at_
 ·refine aa (ah E E (av (o:=8) Lk E (by kernel_rfl) E) (aj E E (ai Ly E (k1.cell (i:=8) E)) ?_))
  refine an j4 E E ((oF (hp.ext x1) sp hc1)) ?_
  rintro v7 w7 ⟨x7,rfl⟩
  refine bw E E bB (ae E E (ak E (ah E E (av (o:=1) Lk E (by kernel_rfl) E) (ak E (ah E E (cx (b:=1) (o:=2) Lm E (by kernel_rfl) E) ?_)))))
  refine ak rfl (aj rfl rfl ((k1.ext x7).ldO (ms:=[B n.split.at_.1,x,y]) (o:=3) (fun j v hj=>by rcases j with _|_|_|_|_|_|_|_|_|j<;>simp_all) Tryz.underlying46 rfl (by kernel_rfl)) ?_)
  refine ak E (an ga E E ((oz (q:=n.split.at_) (hx.ext (x1.trans x7)) (hy.ext (x1.trans x7)) ss hc2)) ?_)
  rintro v13 w13 ⟨x13,rfl⟩
  refine ak E (bw E E bB (aI E E E (ag (ab (bm E (af (aa (ac E E (ag (ab (aw (az (au E E ?_)))))))))))))
  exact⟨_,rfl,((x1.trans x7).trans x13),by rw[hcn,hc1,hc2];rfl⟩
 ·refine aa (ah E E (av (o:=8) Lk E (by kernel_rfl) E) (aj E E (ai Ly E (k1.cell (i:=8) E)) ?_))
  refine an j4 E E ((oF (hp.ext x1) sp hc1)) ?_
  rintro v7 w7 ⟨x7,rfl⟩
  refine bw E E bB (ae E E (ak E (ah E E (av (o:=1) Lk E (by kernel_rfl) E) (ak E (ah E E (cx (b:=1) (o:=2) Lm E (by kernel_rfl) E) ?_)))))
  refine ak rfl (aj rfl rfl ((k1.ext x7).ldO (ms:=[B n.split.at_.1,x,y]) (o:=3) (fun j v hj=>by rcases j with _|_|_|_|_|_|_|_|_|j<;>simp_all) Tryz.underlying46 rfl (by kernel_rfl)) ?_)
  refine ak E (an ga E E ((oz (q:=n.split.at_) (hx.ext (x1.trans x7)) (hy.ext (x1.trans x7)) ss hc2)) ?_)
  rintro v13 w13 ⟨x13,rfl⟩
  refine ak E (bw E E bB (aI E E E (ag (ab (cN E (aC (ab (af (af (aa (ac E E (ag (ab (aG ?_))))))))))))))
  refine ck (α:=Nat) (fun i=>[(1,.pointer (some ⟨g1,0,none⟩)),(3,I (i:Int))]) (fun i w'=>aH w w'∧aH w1 w'∧i≤n.lems.length∧n.lems.all iU=(n.lems.drop i).all iU) (fun i=>n.lems.length-i) (0) ⟨rfl,rfl,trivial⟩ ⟨((x1.trans x7).trans x13),(x7.trans x13),by omega,rfl⟩ ?_
  rintro i wL ⟨eL,e1L,hi,hall⟩
  refine af (af (aa (ae E E (ah E E (av (o:=0) Lk E (by kernel_rfl) E) (aj E E (ai Lz E (e1L.cell_some (k1.cell (i:=0) E))) ?_)))))
  refine aV E E (aY Lz (hl.ext eL)) (al E E E (a6) (ag (ab ?_)))
  refine bu E (fun h20=>?_) (fun h20=>?_)
  ·refine aC (ab (af (aG (af ?_))))
   obtain⟨em,hem⟩:∃em,em=n.lems[i]'(by have:=hl.len;omega):=⟨_,rfl⟩
   have hsm:=sl em (by rw[hem];exact List.getElem_mem _)
   rcases hc3:fC em.va
   rotate_left
   rcases hc4:mS em.pf
   ·refine aa (ah E E (av (o:=0) Lk E (by kernel_rfl) E) (aj E E (ai Lz E (e1L.cell_some (k1.cell (i:=0) E))) ?_))
    refine ae E E ?_
    obtain⟨a26,c26,p26,q26,h26⟩:=cb (P:=Tryz.prog) (sz:=6) Lz (by kernel_rfl) cY (by omega) (hl.ext eL) (i:=i) (by omega) .i64
    rw[←hem] at h26
    obtain⟨x26_0,x26_1,x26_2,rfl,f26_0,f26_1,f26_2⟩:=eK h26
    refine ar rfl rfl rfl (p26 _) (ah rfl rfl (gt (o:=2) Tryz.underlying173 rfl (by kernel_rfl) rfl) (aj rfl rfl (q26.ldO (ms:=[B em.va.1,x26_0,x26_1]) (o:=2) (fun j v hj=>by rcases j with _|_|_|_|_|_|_|_|_|j<;>simp_all) Tryz.underlying46 rfl (by kernel_rfl)) ?_))
    refine an ga E E ((oz (q:=em.va) f26_0 f26_1 hsm.1 hc3)) ?_
    rintro v29 w29 ⟨x29,rfl⟩
    refine bw E E bB (ae E E (ak E (ah E E (av (o:=0) Lk E (by kernel_rfl) E) (ak E (aj E E (ai Lz E ((e1L.trans x29).cell_some (k1.cell (i:=0) E))) ?_)))))
    refine ak E (ae E E (ak E ?_))
    obtain⟨a35,c35,p35,q35,h35⟩:=cb (P:=Tryz.prog) (sz:=6) Lz (by kernel_rfl) cY (by omega) (hl.ext (eL.trans x29)) (i:=i) (by omega) .i64
    rw[←hem] at h35
    obtain⟨x35_0,x35_1,x35_2,rfl,f35_0,f35_1,f35_2⟩:=eK h35
    refine ar E E E (p35 _) (ak E (ah E E (gt (o:=5) LB E (by kernel_rfl) E) (ak E (aj E E (ai Ly E (q35.at (j:=5) E)) ?_))))
    refine ak E (an j4 E E ((oF f35_2 hsm.2 hc4)) ?_)
    rintro v38 w38 ⟨x38,rfl⟩
    refine ak E (bw E E bB (aI E E E (ag (ab (bm E (af (aa (ac E E (ag (ab (aw (ba (az (az (ba (az (au E E ?_)))))))))))))))))
    exact⟨_,rfl,((eL.trans x29).trans x38),by rw[hcn,f8 (p:=iU) (i:=i) (by omega) hall (by rw[←hem];unfold iU;rw[hc3,hc4];rfl),Bool.and_false,Bool.false_and];rfl⟩
   ·refine aa (ah E E (av (o:=0) Lk E (by kernel_rfl) E) (aj E E (ai Lz E (e1L.cell_some (k1.cell (i:=0) E))) ?_))
    refine ae E E ?_
    obtain⟨a26,c26,p26,q26,h26⟩:=cb (P:=Tryz.prog) (sz:=6) Lz (by kernel_rfl) cY (by omega) (hl.ext eL) (i:=i) (by omega) .i64
    rw[←hem] at h26
    obtain⟨x26_0,x26_1,x26_2,rfl,f26_0,f26_1,f26_2⟩:=eK h26
    refine ar rfl rfl rfl (p26 _) (ah rfl rfl (gt (o:=2) Tryz.underlying173 rfl (by kernel_rfl) rfl) (aj rfl rfl (q26.ldO (ms:=[B em.va.1,x26_0,x26_1]) (o:=2) (fun j v hj=>by rcases j with _|_|_|_|_|_|_|_|_|j<;>simp_all) Tryz.underlying46 rfl (by kernel_rfl)) ?_))
    refine an ga E E ((oz (q:=em.va) f26_0 f26_1 hsm.1 hc3)) ?_
    rintro v29 w29 ⟨x29,rfl⟩
    refine bw E E bB (ae E E (ak E (ah E E (av (o:=0) Lk E (by kernel_rfl) E) (ak E (aj E E (ai Lz E ((e1L.trans x29).cell_some (k1.cell (i:=0) E))) ?_)))))
    refine ak E (ae E E (ak E ?_))
    obtain⟨a35,c35,p35,q35,h35⟩:=cb (P:=Tryz.prog) (sz:=6) Lz (by kernel_rfl) cY (by omega) (hl.ext (eL.trans x29)) (i:=i) (by omega) .i64
    rw[←hem] at h35
    obtain⟨x35_0,x35_1,x35_2,rfl,f35_0,f35_1,f35_2⟩:=eK h35
    refine ar E E E (p35 _) (ak E (ah E E (gt (o:=5) LB E (by kernel_rfl) E) (ak E (aj E E (ai Ly E (q35.at (j:=5) E)) ?_))))
    refine ak E (an j4 E E ((oF f35_2 hsm.2 hc4)) ?_)
    rintro v38 w38 ⟨x38,rfl⟩
    refine ak E (bw E E bB (aI E E E (ag (ab (cN E (aC (aW (ab (aa (ae E E (al (r:=I ((i+1:Nat):Int)) E E E (by have e:((i+1:Nat):Int)=(i:Int)+1:=(by omega);rw[e];exact aR (by omega) (by omega)) ?_)))))))))))
    refine ac E E (ag ?_)
    refine bS (i+1) ⟨rfl,rfl,trivial⟩ ⟨((eL.trans x29).trans x38),((e1L.trans x29).trans x38),by omega,qk (p:=iU) (by omega) hall (by rw[←hem];unfold iU;rw[hc3,hc4];rfl)⟩ (by omega)
   ·refine aa (ah E E (av (o:=0) Lk E (by kernel_rfl) E) (aj E E (ai Lz E (e1L.cell_some (k1.cell (i:=0) E))) ?_))
    refine ae E E ?_
    obtain⟨a26,c26,p26,q26,h26⟩:=cb (P:=Tryz.prog) (sz:=6) Lz (by kernel_rfl) cY (by omega) (hl.ext eL) (i:=i) (by omega) .i64
    rw[←hem] at h26
    obtain⟨x26_0,x26_1,x26_2,rfl,f26_0,f26_1,f26_2⟩:=eK h26
    refine ar rfl rfl rfl (p26 _) (ah rfl rfl (gt (o:=2) Tryz.underlying173 rfl (by kernel_rfl) rfl) (aj rfl rfl (q26.ldO (ms:=[B em.va.1,x26_0,x26_1]) (o:=2) (fun j v hj=>by rcases j with _|_|_|_|_|_|_|_|_|j<;>simp_all) Tryz.underlying46 rfl (by kernel_rfl)) ?_))
    refine an ga E E ((oz (q:=em.va) f26_0 f26_1 hsm.1 hc3)) ?_
    rintro v29 w29 ⟨x29,rfl⟩
    refine bw E E bB (ae E E (am E E E (am E E E (am E E E (am E E E (am E E E (am E E E (am E E E (am E E E ?_)))))))))
    refine aq E E E (ag (ab (bm E (af (aa (ac E E (ag (ab (aw (ba (az (az (ba (az (au E E ?_)))))))))))))))
    exact⟨_,rfl,(eL.trans x29),by rw[hcn,f8 (p:=iU) (i:=i) (by omega) hall (by rw[←hem];unfold iU;rw[hc3];rfl),Bool.and_false,Bool.false_and];rfl⟩
  ·refine bc (aK (aK (bf (ab (af (af ?_))))))
   have hla:=mY (p:=iU) (by omega) hall
   refine aa (ac E E (ag (ab (aG ?_))))
   refine ck (α:=Nat) (fun i=>[(1,.pointer (some ⟨g1,0,none⟩)),(4,I (i:Int))]) (fun i w'=>aH w w'∧aH w1 w'∧i≤n.kids.length∧n.kids.all iG=(n.kids.drop i).all iG) (fun i=>n.kids.length-i) (0) ⟨rfl,rfl,trivial⟩ ⟨eL,e1L,by omega,rfl⟩ ?_
   rintro i wM ⟨eM,e1M,hi2,hall2⟩
   refine af (af (aa (ae E E (ah E E (av (o:=6) Lk E (by kernel_rfl) E) (aj E E (ai Ls E (e1M.cell_some (k1.cell (i:=6) E))) ?_)))))
   refine aV E E (aY Ls (hk.ext eM)) (al E E E (a6) (ag (ab ?_)))
   refine bu E (fun h45=>?_) (fun h45=>?_)
   ·refine aC (ab (af (aG (af (aa (ah E E (av (o:=6) Lk E (by kernel_rfl) E) (aj E E (ai Ls E (e1M.cell_some (k1.cell (i:=6) E))) ?_)))))))
    refine ae E E ?_
    obtain⟨a51,c51,p51,q51,h51⟩:=cb (P:=Tryz.prog) (sz:=9) Ls (by kernel_rfl) bF (by omega) (hk.ext eM) (i:=i) (by omega) .i64
    obtain⟨e51,he51⟩:∃e,e=n.kids[i]'(by omega):=⟨_,rfl⟩
    rw[←he51] at h51
    obtain⟨x51_0,x51_1,x51_2,x51_3,x51_4,rfl,f51_0,f51_1,f51_2,f51_3,f51_4⟩:=dc h51
    refine ar E E E (p51 _) ?_
    have hmem:e51∈n.kids:=by rw[he51];exact List.getElem_mem _
    refine aj E E (q51.ld Lk E (by kernel_rfl)) (an sv E E ((ih e51 hmem f51_0 f51_1 f51_2 f51_3 f51_4 (sk e51 hmem))) ?_)
    rintro v53 w53 ⟨x53,rfl⟩
    refine bw E E bB (ag (ab ?_))
    refine fJ E (fun h54=>?_) (fun h54=>?_)
    ·have hno:iG (n.kids[i]'(by have:=hk.len;omega))=false:=by rw[←he51];rw[Bool.not_eq_true'] at h54;exact h54
     refine af (aa (ac E E (ag (ab (aw (ba (az (az (ba (az (au E E ?_)))))))))))
     exact⟨_,rfl,(eM.trans x53),by rw[hcn,f8 (p:=iG) (by omega) hall2 hno,Bool.and_false];rfl⟩
    ·have hyes:iG (n.kids[i]'(by have:=hk.len;omega))=true:=by rw[←he51];rw[Bool.not_eq_false'] at h54;exact h54
     refine aC (aW (ab (aa (ae E E (al (r:=I ((i+1:Nat):Int)) E E E (by have e:((i+1:Nat):Int)=(i:Int)+1:=(by omega);rw[e];exact aR (by omega) (by omega)) ?_)))))
     refine ac E E (ag ?_)
     refine bS (i+1) ⟨rfl,rfl,trivial⟩ ⟨(eM.trans x53),(e1M.trans x53),by omega,qk (p:=iG) (by omega) hall2 hyes⟩ (by omega)
   ·refine bc (aK (aK (bf (ab (af (aa (ac E E (ag (ab (aw (au E E ?_)))))))))))
    exact⟨_,rfl,eM,by rw[hcn,hc1,hc2,hla,mY (p:=iG) (by omega) hall2];rfl⟩
 ·refine aa (ah E E (av (o:=8) Lk E (by kernel_rfl) E) (aj E E (ai Ly E (k1.cell (i:=8) E)) ?_))
  refine an j4 E E ((oF (hp.ext x1) sp hc1)) ?_
  rintro v7 w7 ⟨x7,rfl⟩
  refine bw E E bB (ae E E (am E E E (am E E E (am E E E (am E E E (am E E E (aq E E E (ag (ab (bm E ?_))))))))))
  refine af (aa (ac E E (ag (ab (aw (az (au E E ?_)))))))
  exact⟨_,rfl,(x1.trans x7),by rw[hcn,hc1];rfl⟩
theorem sw:∀(m:Nat) {n:aP},SizeOf.sizeOf n≤m→∀{w:World} {vl x y vk vp:Value},cd cP n.lems vl w→bk n.split.at_.2.1 x w→bk n.split.at_.2.2 y w→cd bh n.kids vk w→cd bK n.pf vp w→sN n→
 Calls Tryz.prog 58 #[.agg #[vl,I n.split.kd,I n.split.ix,B n.split.at_.1,x,y,vk,B n.empty,vp]] w (bN fun r w'=>aH w w'∧r=B (iG n))
 |0,n,hm=>by cases n;simp at hm
 |m+1,n,hm=>fun h1 h2 h3 h4 h5 h6=>EJ (fun k hk _ _ _ _ _ _=>sw m (by have:=aP.lt_of_mem hk;omega)) h1 h2 h3 h4 h5 h6
theorem vw {w:World} {b:List UInt8} {bv:Value} {d:bj} {x y:Value} (hb:cK b bv w) (hx:bk d.at_.2.1 x w) (hy:bk d.at_.2.2 y w) (hw:wD d) (hl:b.length+(gG d).length≤4398046511104):
 Calls Tryz.prog 62 #[bv,.agg #[I d.kd,I d.ix,B d.at_.1,x,y]] w (bN fun r w'=>aH w w'∧cK (b++gG d) r w'):=by
 refine enter (vs:=[bv,.agg #[I d.kd,I d.ix,B d.at_.1,x,y]]) Tryz.func62 E E E ?_
 have hdl:(gG d).length=(de d.kd).length+(de d.ix).length+(gw d.at_).length:=by simp only[gG,List.length_append]
 have hqa:=lO d.at_
 refine af (aa ?_)
 obtain⟨g3,w3,hr3,l3,x3,k3⟩:=cq (P:=Tryz.prog) (w:=w) (T:=48) (cs:=[I d.kd,I d.ix,B d.at_.1,x,y])
 refine cw E E hr3 (ac E E (ag (ab (af (bP 10 [14] (by kernel_rfl) (by kernel_rfl) ?_)))))
 refine ax E E (aX E E (fun w hw=>av (o:=0) Lm E (by kernel_rfl) E) (aQ E E (fun w hw=>ai Lo E (hw.cell_some (k3.cell (i:=0) E))) ?_))
 have hw0:=hw
 refine ce (S:=cK (b++de d.kd)) gM (cK.stable _) rfl (fun w hw=>by rintro _ rfl _ rfl;exact bN.mono (gN (n:=d.kd) ((hb.ext x3).ext hw) (by omega) hw0.1.1 hw0.1.2) fun v w' h=>⟨h.1,h.2.bts⟩) ?_
 refine aX E E (fun w hw=>av (o:=1) Lm E (by kernel_rfl) E) (aQ E E (fun w hw=>ai Lo E (hw.cell_some (k3.cell (i:=1) E))) ?_)
 refine ce (S:=cK (b++de d.kd++de d.ix)) gM (cK.stable _) rfl (fun w hw=>by rintro _ h8 _ rfl;exact bN.mono (gN (n:=d.ix) h8 (by simp only[List.length_append];omega) hw0.2.1 hw0.2.2) fun v w' h=>⟨h.1,h.2.bts⟩) ?_
 refine aX rfl rfl (fun w hw=>av (o:=2) Tryz.underlying48 rfl (by kernel_rfl) rfl) (aQ rfl rfl (fun w hw=>(k3.ext hw).ldO (ms:=[B d.at_.1,x,y]) (o:=2) (fun j v hj=>by rcases j with _|_|_|_|_|_|_|_|_|j<;>simp_all) Tryz.underlying46 rfl (by kernel_rfl)) ?_)
 refine ce (S:=cK (b++de d.kd++de d.ix++gw d.at_)) jo (cK.stable _) rfl (fun w hw=>by rintro _ h11 _ rfl;exact bN.mono (jp h11 (du.mk ((hx.ext x3).ext hw) ((hy.ext x3).ext hw)) (by simp only[List.length_append];omega)) fun v w' h=>⟨h.1,h.2.bts⟩) ?_
 refine cn ?_
 intro wg1 xg1
 intro vg14 b14
 refine ac E E (ag (ab (aw (au E E ?_))))
 exact⟨_,rfl,(x3.trans xg1),by have h:cK (b++de d.kd++de d.ix++gw d.at_) _ _:=b14;simpa only[gG,List.append_assoc] using h⟩
end Go.Rl

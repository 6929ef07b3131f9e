/- Part 3 of a proof: plain facts and walks of functions, merged by a program. Conditions: each lemma names its own. -/
import Derived.Test.YtpeidnhjcompmaaGreatDoorJf2
namespace Go.Rl
open Go.RowKit
section
variable {P:Program} {ops:Array Oper} {Env:World→Prop} {Rl:World→World→Prop} {mo:Bool} {Pn:List PanicEntry→World→Prop} {N:Nat}
def yv (ops:Array Oper) (n:Nat):Bool:=
 (List.range ops.size).all fun t=>decide (t≤n)||(List.range t).any fun j=>decide (n≤j)&&Region.waitsFor .any ops t j
def uC (o:Oper):Bool:=o.guard.isNone&&o.dst.isSome&&match o.op with|.extract .. |.move _|.assign _=>true|_=>false
theorem D1 {o:Oper} (h:uC o=true) (ρ:Operand→Value):(∃v,∀w,(execOp ρ o).run P w=.ok (.value v) w)∨∃x,(∀v,x≠.panic v)∧∀w,(execOp ρ o).run P w=.halt x w:=by
 obtain⟨dst,op,ty,pos,aft,g⟩:=o
 unfold uC at h
 simp only[Bool.and_eq_true] at h
 have h2:=h.2
 cases op<;>simp only[] at h2
 case move x=>exact .inl ⟨ρ x,fun w=>by simp[execOp]⟩
 case assign x=>exact .inl ⟨ρ x,fun w=>by simp[execOp]⟩
 case extract x n=>
  have e:execOp ρ ⟨dst,.extract x n,ty,pos,aft,g⟩=(do pure (Next.value (←Instr.extract (ρ x) n)):Sem Next):=rfl
  rw[e]
  cases hx:ρ x with
  |tuple vs=>
   cases hv:vs[n]? with
   |some v=>exact .inl ⟨v,fun w=>by simp[Instr.extract,hv]⟩
   |none=>exact .inr ⟨.stuck "Extract: no such component",fun v=>by simp,fun w=>by simp[Instr.extract,hv,stuck,Sem.run]⟩
  |_=>exact .inr ⟨.stuck "Extract: tuple expected",fun v=>by simp,fun w=>by simp[Instr.extract,stuck,Sem.run]⟩
 all_goals cases h2
def rO (ops:Array Oper):List Nat→Array Bool→Bool
 |[],listed=>(Region.ready .any ops listed).isEmpty
 |i::rest,listed=>(decide (Region.ready .any ops listed=[i])||((match ops[i]? with|some o=>uC o|none=>false)&&Region.free .any ops listed i&&(Region.ready .any ops listed).contains i))&&rO ops rest (listed.setIfInBounds i true)
theorem kJ {Q:im} (hsel:Region.noSelect ops=true):∀(perm:List Nat) (os:List Oper) (listed:Array Bool) (a:Act) (w:World),(perm.map fun i=>ops[i]?)=os.map some→rO ops perm listed=true→wpList P ops (nK Q) os a w→wpAny P .any ops (nK Q) perm.length listed a w
 |[],os,listed,a,w,ho,hB,h=>by
  have:os=[]:=by cases os with|nil=>rfl|cons o os=>simp at ho
  subst this
  exact⟨by simpa [rO] using hB,h⟩
 |i::perm,os,listed,a,w,ho,hB,h=>by
  cases os with
  |nil=>simp at ho
  |cons o os=>
   simp only[List.map_cons,List.cons.injEq] at ho
   obtain⟨h0,ho⟩:=ho
   simp only[rO,Bool.and_eq_true,Bool.or_eq_true,decide_eq_true_eq] at hB
   obtain⟨hB1,hB2⟩:=hB
   have nolet:¬LetsOut (nK Q):=fun⟨_,_,hq⟩=>by obtain⟨hq,_⟩:=hq;cases hq
   rcases hB1 with hr|⟨⟨hq,hf⟩,hr⟩
   ·refine⟨fun h1=>(by rw[hr] at h1;cases h1),fun k hk=>?_⟩
    rw[hr] at hk
    have hik:k=i:=by simpa using hk
    subst hik
    have hw:wpOp P ops (nK Q) k (wpList P ops (nK Q) os) a w:=by unfold wpOp;simp only[h0];exact h
    exact wpOp_mono (fun a' w' h'=>kJ hsel perm os _ a' w' ho hB2 h') hw
   ·rw[h0] at hq
    have hq:uC o=true:=hq
    have hwant:Region.wanted o (yielded ops a.tmps)=true:=by
     unfold uC at hq
     simp only[Bool.and_eq_true,Option.isNone_iff_eq_none] at hq
     unfold Region.wanted
     rw[hq.1.1]
    unfold wpList at h
    rw[if_pos hwant] at h
    have h:=h.resolve_right fun h=>nolet h.2
    unfold Oper.wp at h
    rcases D1 (P:=P) hq a.eval with⟨v,hv⟩|⟨x,hx,hv⟩
    ·rw[hv w] at h
     exact wpAny_take h0 hsel hf hr (fun c a w hp=>by obtain⟨hp,_⟩:=hp;cases hp) (.inl ⟨hwant,hv⟩) (kJ hsel perm os _ _ w ho hB2 h)
    ·rw[hv w] at h
     cases x<;>first|exact absurd rfl (hx _)|exact h.elim
def nS (ops:Array Oper) (n:Nat) (perm:List Nat):Nat→Nat→Array Bool→Bool
 |0,_,listed=>rO ops perm listed&&(Region.ready .any ops listed).all fun j=>decide (n≤j)
 |f+1,k,listed=>(Region.ready .any ops listed).contains k&&Region.free .any ops listed k&&nS ops n perm f (k+1) (listed.setIfInBounds k true)
def Bt (os:List Oper):List Nat→List Oper
 |[]=>[]
 |i::is=>match os[i]? with|some o=>o::Bt os is|none=>Bt os is
theorem yw {Q:im} {D:List Deferred} {l:Fr} {w:World} (h:gW Q N D l w):gW (nK Q) N D l w:=fun a ha=>⟨rfl,h a ha⟩
end
end Go.Rl
namespace Go.Rl
open Go.RowKit
def Jc (T:Value→World→Prop) (Pn:List PanicEntry→World→Prop):Ending→World→Prop:=fun e w'=>(∃v,e=.returned v∧T v w')∨∃c,e=.panicked c∧Pn c w'
theorem Jc.mono {P:Program} {f:FuncId} {args:Array Value} {w:World} {T T':Value→World→Prop} {Pn Pn':List PanicEntry→World→Prop} (h:Calls P f args w (Jc T Pn)) (hT:∀v w',T v w'→T' v w') (hP:∀c w',Pn c w'→Pn' c w'):Calls P f args w (Jc T' Pn'):=
 Calls.mono h fun _ _ he=>he.imp (fun⟨v,h,hv⟩=>⟨v,h,hT _ _ hv⟩) fun⟨c,h,hc⟩=>⟨c,h,hP _ _ hc⟩
end Go.Rl
namespace Go.Rl
open Go.RowKit Go.Proofs
def FX (l:List Value) (o:Nat) (m:List Value):List Value:=l.take o++m++l.drop (o+m.length)
section
variable {P:Program} {w w1 w':World} {T TB t:TypeId} {g gB i o:Nat} {l m cs:List Value} {v:Value} {st s1:Option (List UInt8)}
theorem bA.stO (h:bA g T l w) (o:Nat) (hl:o+m.length≤l.length) (hi:(P.info? t).map (·.size)=some m.length) (h1:ao m):
 ∃w',(Instr.storeAt t (.pointer (some ⟨g,o,none⟩)) (.agg m.toArray)).run P w=.ok () w'∧w.grownBy w' (some g)∧bA g T (FX l o m) w':=by
 have h':w.heap[g]? =some (.cells l.toArray T (0,0)):=h
 have hr:=run_storeCells_at (P:=P) g o T m 0 l.toArray w h' (by simpa using hl) h1
 refine⟨_,?_,bF w g _,h.row (FX l o m)⟩
 simp only[Instr.storeAt,Instr.sureAddr,storeVar,Sem.run_bind,Sem.run_pure,Result.andThen_ok,fj hi]
 rw[if_neg (by simp[Value.cells])]
 simpa [FX,Value.cells] using hr
theorem pH.put (hB:bA gB TB cs w) (hg:w.grownBy w1 (some g)) (hr:pH T g s1 w1) (hne:g<gB) {i:Nat} (hs:(P.info? t).map (·.size)=some 1) (hv:v.oneCell'=true) (hi:i<cs.length):
 ∃w2,(Instr.storeAt t (.pointer (some ⟨gB,i,none⟩)) v).run P w1=.ok () w2∧Mv (fun k=>k=g∨k=gB) w w2∧bA gB TB (cs.set i v) w2∧pH T g s1 w2∧w1.grownBy w2 (some gB):=by
 have h1:=hB.other hg (fun e=>by have:=Option.some.inj e;omega)
 obtain⟨w2,h2,h3,h4⟩:=h1.stC (P:=P) (t:=t) (i:=i) (v:=v) hs hv hi
 have m2:Mv (fun k=>k=gB) w1 w2:=Mv.of_grown h3 fun k hk _=>(Option.some.inj hk).symm
 exact⟨w2,h2,(Mv.of_grown hg fun k hk _=>.inl (Option.some.inj hk).symm).trans m2 fun _ hn _=>.inr hn,h4,hr.mv m2 fun k hk=>by omega,h3⟩
end
end Go.Rl
namespace Go.Rl
open Go.RowKit Go.Proofs
theorem yp.rpx {w:World} {b:Nat} {l:List UInt32} {v:Value} (h:bi l v w) (hn:yp b v):cv (fun k=>k<b) w (pB l) [v]:=by
 have h':Rp w (pB l) [v]:=Rp.wds.2 h
 unfold pB at h'⊢
 simp only[Rp] at h'
 obtain⟨A,n,c,hv,h2,h3,h4,h5,h6⟩:=h'
 obtain rfl:v=.slice A n c:=by simpa using hv
 simp only[cv]
 refine⟨A,n,c,rfl,h2,h3,h4,h5,fun hp=>?_⟩
 obtain⟨ad,xs,rfl,h8,h9⟩:=h6 hp
 refine⟨ad,xs,rfl,fun _ hb=>?_,h8,?_⟩
 ·have:=hn ad.block rfl
  omega
 ·have:∀(l:List UInt32) (ys:List Value),bk w (l.map yd) ys→aO (fun k=>k<b) w (l.map yd) ys:=by
   intro l
   induction l with
   |nil=>intro ys h;simpa only[List.map_nil,bk,aO] using h
   |cons a l ih=>
    intro ys h
    simp only[List.map_cons,bk,aO] at h⊢
    obtain⟨c1,c2,h1,h2,h3⟩:=h
    exact⟨c1,c2,h1,by simpa only[yd,Rp,cv] using h2,ih _ h3⟩
  exact this l xs h9
theorem yp.rpx' {w:World} {b:Nat} {l:List UInt32} {v:Value} (hn:yp b v) (h:bi l v w):cv (fun k=>k<b) w (pB l) [v]:=yp.rpx h hn
theorem jq.mv (X:Nat→Prop) (w:World):jq (Mv X w) (Mv X):=⟨fun _ _ h=>Mv.of_ext h,fun _ _ h k=>h.trans k fun _ hn _=>hn⟩
theorem cv.isS {X:Nat→Prop} {w:World} {l:List Dt} {v:Value} (h:cv X w (.sl l) [v]):∃A n c,v=.slice A n c:=by
 simp only[cv] at h
 obtain⟨A,n,c,hv,_⟩:=h
 exact⟨A,n,c,by simpa using hv⟩
theorem cv.one {X:Nat→Prop} {w:World} {l:List Dt} {v:Value} (h:cv X w (.sl l) [v]):v.oneCell'=true:=by obtain⟨A,n,c,rfl⟩:=h.isS;rfl
theorem mE {X:Nat→Prop} {w:World} (n:Int):cv X w (lT n) [I n]:=by simp only[lT,cv,I]
end Go.Rl
namespace Go.Rl
open Go.RowKit Go.Proofs
def RX (g:Nat):Nat→Prop:=fun k=>k=g
abbrev CI (st:Option (List UInt8)):Prop:=vE 549755813888 st
theorem Ah {X:Nat→Prop} {w:World} {d:bz} {x y:Value} (h:cv X w (iB d.at_) [B d.at_.1,x,y]):cv X w (cQ d) [I d.kd,I d.ix,B d.at_.1,x,y]:=by
 unfold cQ
 simp only[cv.eq_5]
 exact aO.cons (a:=[I d.kd]) (mE _) (aO.cons (a:=[I d.ix]) (mE _) (aO.cons (b:=[]) h aO.nil))
theorem FY {P:Program} {w:World} {t:TypeId} {x y:Operand} {s:Option (List UInt8)}:(bin .eql t x y (I (if s.isSome=true then 0 else 5)) (I 0)).run P w=.ok (B s.isSome) w:=by
 cases s<;>exact a6
theorem ltN {n m:Nat} (hn:n<18446744073709551616) (hm:m<18446744073709551616):UInt64.ofNat n<UInt64.ofNat m↔n<m:=by
 rw[UInt64.lt_iff_toNat_lt,UInt64.toNat_ofNat',UInt64.toNat_ofNat']
 omega
theorem wX:(Tryz.prog.info? 187).map (fun i=>(i.zero,i.size,i.bytes))=some (some (.agg #[I 0,I 0,I 0,I 0,B false,.slice none 0 0,.slice none 0 0]),7,88):=by kernel_rfl
theorem dB (m:ci):(bI m).size=7:=by simp[bI,lT,iB,pB,Dt.size,Dt.sizeAll]
theorem D3 {X:Nat→Prop} {w:World} {m:ci} {x y:Value} (h:cv X w (iB m.co) [B m.co.1,x,y]):cv X w (bI m) [I m.kd,I m.ix,I m.lo,I m.hi,B m.co.1,x,y]:=by
 unfold bI
 simp only[cv.eq_5]
 exact aO.cons (a:=[I m.kd,I m.ix,I m.lo,I m.hi]) (by
  simp only[cv.eq_5]
  exact aO.cons (a:=[I m.kd]) (mE _) (aO.cons (a:=[I m.ix]) (mE _) (aO.cons (a:=[I m.lo]) (mE _) (aO.cons (a:=[I m.hi]) (b:=[]) (mE _) aO.nil)))) (aO.cons (b:=[]) h aO.nil)
end Go.Rl
namespace Go.Rl
open Go.RowKit Go.Proofs
theorem Ai:(Tryz.prog.info? 173).map (fun i=>(i.zero,i.size,i.bytes))=some (some (.agg #[I 0,B false,B false,.slice none 0 0,.slice none 0 0,.slice none 0 0]),6,96):=by kernel_rfl
theorem D7:(Tryz.prog.info? 52).map (fun i=>(i.zero,i.size,i.bytes))=some (some (.agg #[.slice none 0 0,I 0,I 0,B false,.slice none 0 0,.slice none 0 0,.slice none 0 0,B false,.slice none 0 0]),9,152):=by kernel_rfl
theorem cV (l:er):(cP l).size=6:=by simp[cP,lT,iB,pB,gN,Dt.size,Dt.sizeAll]
theorem cg (n:aV):(bm n).size=9:=by cases n;simp[bm,cQ,lT,iB,pB,gN,Dt.size,Dt.sizeAll]
theorem pQ {X:Nat→Prop} {w:World}:cv X w (.sl []) [.slice none 0 0]:=by
 simp only[cv]
 exact⟨none,0,0,rfl,rfl,Nat.le_refl _,Nat.zero_le _,fun _=>rfl,fun h=>absurd h (by omega)⟩
theorem bX {X:Nat→Prop} {w:World} (b:Bool):cv X w (.bool b) [B b]:=by simp only[cv,B]
theorem Aj {X:Nat→Prop} {w:World} {l:er} {x y v:Value} (h:cv X w (iB l.va) [B l.va.1,x,y]) (hp:cv X w (gN l.pf) [v]):cv X w (cP l) [I l.un,B l.up,B l.va.1,x,y,v]:=by
 unfold cP
 simp only[cv.eq_5]
 exact aO.cons (a:=[I l.un]) (mE _) (aO.cons (a:=[B l.up]) (bX _) (aO.cons (a:=[B l.va.1,x,y]) h (aO.cons (b:=[]) hp aO.nil)))
theorem g0 {X:Nat→Prop} {w:World} {ls:List er} {d:bz} {ks:List aV} {em:Bool} {ps:List ci} {vl vk vp x y:Value} (hl:cv X w (.sl (ls.map cP)) [vl]) (hd:cv X w (cQ d) [I d.kd,I d.ix,B d.at_.1,x,y]) (hk:cv X w (.sl (ks.map bm)) [vk]) (hp:cv X w (gN ps) [vp]):
 cv X w (bm (.mk ls d ks em ps)) [vl,I d.kd,I d.ix,B d.at_.1,x,y,vk,B em,vp]:=by
 unfold bm
 simp only[cv.eq_5]
 exact aO.cons (a:=[vl]) hl (aO.cons (a:=[I d.kd,I d.ix,B d.at_.1,x,y]) hd (aO.cons (a:=[vk]) (by rw[jV];exact hk) (aO.cons (a:=[B em]) (bX _) (aO.cons (b:=[]) hp aO.nil))))
theorem qN {X:Nat→Prop} {w:World}:cv X w (cQ kI) [I 0,I 0,B false,.slice none 0 0,.slice none 0 0]:=
 Ah (d:=kI) (by
  simp only[iB,kI,Jb,cv.eq_5]
  exact aO.cons (a:=[B false]) (bX _) (aO.cons (a:=[.slice none 0 0]) pQ (aO.cons (b:=[]) pQ aO.nil)))
end Go.Rl
namespace Go.Rl
open Go.RowKit Go.Proofs
theorem FZ {P:Program} {w:World} {t:TypeId} {x y:Operand} {l:List UInt8}:(bin .eql t x y (I (if some l=some [] then 0 else 5)) (I 0)).run P w=.ok (B (decide (l=[]))) w:=by
 by_cases h:l=[]
 ·subst h
  exact a6
 ·rw[if_neg (fun e=>h (Option.some.inj e)),decide_eq_false h]
  exact a6
end Go.Rl
namespace Go.Rl
open Go.RowKit Go.Proofs
theorem Jd (st:Option (List UInt8)):∃n s1,FU gp st n s1∧n<18446744073709551616∧∀{w:World} {g:Nat},cw g st w→Calls Tryz.prog 89 #[.pointer (some ⟨g,0,none⟩)] w (bH fun r w'=>w.grownBy w' (some g)∧r=.tuple #[bS (UInt64.ofNat n),I (if s1.isSome=true then 0 else 5)]∧cw g s1 w'):=by
 cases hU:st.bind gp with
 |none=>exact⟨0,none,hU,by omega,fun hr=>Iz hr hU⟩
 |some p=>
  obtain⟨n,t⟩:=p
  refine⟨n,some t,hU,?_,fun hr=>FQ hr hU⟩
  cases st with
  |none=>cases hU
  |some l=>exact(ga (show gp l=some (n,t) from hU)).2
theorem Je (st:Option (List UInt8)):∃n s1,FU o0 st n s1∧ko n∧∀{w:World} {g:Nat},cw g st w→Calls Tryz.prog 158 #[.pointer (some ⟨g,0,none⟩)] w (bH fun r w'=>w.grownBy w' (some g)∧r=.tuple #[I n,I (if s1.isSome=true then 0 else 5)]∧cw g s1 w'):=by
 cases hU:st.bind gp with
 |none=>
  refine⟨0,none,?_,by unfold ko;omega,fun hr=>Kh hr hU⟩
  cases st with
  |none=>rfl
  |some l=>show(gp l).map _=none;rw[show gp l=none from hU];rfl
 |some p=>
  obtain⟨n,t⟩:=p
  have hI:FU o0 st (uz n) (some t):=by
   cases st with
   |none=>cases hU
   |some l=>show(gp l).map _=_;rw[show gp l=some (n,t) from hU];rfl
  exact⟨uz n,some t,hI,CF hI,fun hr=>Ki hr hU⟩
def rP (b:Nat) (q:eW):du:=fun v w=>∃x y,v=.agg #[B q.1,x,y]∧cv (fun k=>k<b) w (iB q) [B q.1,x,y]
def Bu (b:Nat) (q:eW) (e:Int):du:=fun v w=>∃x y,v=.tuple #[.agg #[B q.1,x,y],I e]∧cv (fun k=>k<b) w (iB q) [B q.1,x,y]
theorem rP.stable {b g:Nat} {q:eW} (hg:g<b):ck (Mv (RX g)) (rP b q):=fun _ _ _ ⟨x,y,h,h2⟩ hm=>⟨x,y,h,h2.mv (hm.weak fun j hj _=>by have:j=g:=hj;show j<b;omega) fun _ hk=>.inl hk⟩
theorem Bu.stable {b g:Nat} {q:eW} {e:Int} (hg:g<b):ck (Mv (RX g)) (Bu b q e):=fun _ _ _ ⟨x,y,h,h2⟩ hm=>⟨x,y,h,h2.mv (hm.weak fun j hj _=>by have:j=g:=hj;show j<b;omega) fun _ hk=>.inl hk⟩
theorem Bu.up {b c:Nat} {q:eW} {e:Int} {v:Value} {w:World} (hc:b≤c) (h:Bu c q e v w):Bu b q e v w:=by
 obtain⟨x,y,h1,h2⟩:=h
 exact⟨x,y,h1,h2.weak fun j hj=>.inl (Nat.lt_of_lt_of_le hj hc)⟩
theorem jG {X:Nat→Prop} {w:World} {q:eW} {x y:Value} (h:cv X w (iB q) [B q.1,x,y]):x.oneCell'=true∧y.oneCell'=true:=by
 obtain⟨x',y',he,hx,hy⟩:=lF h.rp
 simp only[List.cons.injEq] at he
 obtain⟨_,rfl,rfl,_⟩:=he
 obtain⟨_,_,_,rfl⟩:=hx.isS
 obtain⟨_,_,_,rfl⟩:=hy.isS
 exact⟨rfl,rfl⟩
theorem Jf (st:Option (List UInt8)):∃q s1,FU ny st q s1∧(CI st→∀{w:World} {g:Nat},cw g st w→Calls Tryz.prog 159 #[.pointer (some ⟨g,0,none⟩)] w (bH fun r w'=>w.grownBy w' (some g)∧Bu w.heap.size q (if s1.isSome=true then 0 else 5) r w'∧cw g s1 w')):=by
 cases hR:st.bind ny with
 |none=>
  refine⟨(false,[],[]),none,hR,fun hl w g hr=>(uo hr hl).mono fun r w' ⟨r',he,h1,h2⟩=>⟨r',he,h1,?_⟩⟩
  rw[hR] at h2
  obtain⟨v,h3,⟨x,y,rfl,hx,hy⟩,h4⟩:=h2
  have hn:∀{z:Value},bi [] z w'→cv (fun k=>k<w.heap.size) w' (pB []) [z]:=fun {z} hz=>by
   obtain⟨A,n,c,rfl,h5,h6,h7,h8,h9⟩:=hz
   simp only[pB,List.map_nil,cv]
   have:n=0:=by simp at h7;omega
   subst this
   exact⟨A,0,c,rfl,rfl,h5,h6,h9,fun h=>by omega⟩
  refine⟨⟨x,y,h3,?_⟩,h4⟩
  simp only[iB,cv]
  exact aO.cons (a:=[B false]) (by simp only[cv,B]) (aO.cons (hn hx) (aO.cons (b:=[]) (hn hy) aO.nil))
 |some p=>
  obtain⟨q,t⟩:=p
  refine⟨q,some t,hR,fun hl w g hr=>(uo hr hl).mono fun r w' ⟨r',he,h1,h2⟩=>⟨r',he,h1,?_⟩⟩
  rw[hR] at h2
  obtain⟨x,y,h3,hx,hy,h4,n1,n2⟩:=h2
  refine⟨⟨x,y,h3,?_⟩,h4⟩
  simp only[iB,cv]
  exact aO.cons (a:=[B q.1]) (by simp only[cv,B]) (aO.cons (n1.rpx' hx) (aO.cons (b:=[]) (n2.rpx' hy) aO.nil))
theorem cw.mv {g:Nat} {st:Option (List UInt8)} {X:Nat→Prop} {w w':World} (h:cw g st w) (hm:Mv X w w') (hX:∀k,X k→g<k):cw g st w':=pH.mv h.rdT hm hX
end Go.Rl
namespace Go.Rl
open Go.RowKit Go.Proofs
theorem Sl.mv {X:Nat→Prop} {w w':World} {sz:Nat} {xs:List Value} {v:Value} (h:Sl sz xs v w) (hm:Mv X w w') (hx:∀k,v.ownBlock=some k→¬X k):Sl sz xs v w':=by
 obtain⟨A,n,c,rfl,h2,h3,h4,h5,h6⟩:=h
 exact⟨A,n,c,rfl,h2,h3,h4,fun hn=>(h5 hn).imp fun ad h=>⟨h.1,hm.cells h.2 fun _=>hx ad.block (by rw[h.1];rfl)⟩,h6⟩
def nT {α:Type} (b sz:Nat) (f:α→Dt) (l:List α):du:=fun v w=>∃cs,Sl sz cs v w∧(∀k,v.ownBlock=some k→b≤k)∧ao cs∧aO (fun k=>k<b) w (l.map f) cs
theorem nT.stable {α:Type} {b sz g:Nat} {f:α→Dt} {l:List α} (hg:g<b):ck (Mv (RX g)) (nT b sz f l):=fun _ _ _ ⟨cs,h1,h2,h3,h4⟩ hm=>
 ⟨cs,h1.mv hm fun k hk hX=>by have:k=g:=hX;have:=h2 k hk;omega,h2,h3,aO.mv (hm.weak fun j hj _=>by have:j=g:=hj;show j<b;omega) (fun _ hk=>.inl hk) h4⟩
theorem aO.one {X:Nat→Prop} {w:World} {d:Dt} {cs:List Value} (h:aO X w [d] cs):cv X w d cs:=by
 simp only[aO] at h
 obtain⟨c1,c2,rfl,h1,rfl⟩:=h
 simpa using h1
theorem F0 {α:Type} {P:Program} {w:World} {t e:TypeId} {z:Value} {sz bytes b:Nat} {f:α→Dt} {a:α} {cs:List Value} (ht:P.underlying t=some (.slice e)) (hi:(P.info? e).map (fun i=>(i.zero,i.size,i.bytes))=some (some z,sz,bytes)) (hzs:z.cells.size=sz) (h0:0<sz) (hsb:sz≤16777216)
 (hb:b≤w.heap.size) (h1:ao cs) (ha:cv (fun k=>k<b) w (f a) cs) (hs:(f a).size=sz):∃r w',(Instr.buildSlice t 1 (dG 0 [Value.agg cs.toArray]).toArray).run P w=.ok r w'∧aJ w w'∧nT b sz f [a] r w':=by
 have hcl:cs.length=sz:=by rw[ha.len,hs]
 have hi2:(P.info? e).map (fun i=>(i.zero,i.size))=some (some z,sz):=by
  obtain⟨i,hi',h2⟩:=Option.map_eq_some_iff.1 hi
  simp only[Prod.mk.injEq] at h2
  rw[hi']
  simp[h2.1,h2.2.1]
 obtain⟨x,w0,h3,h4,h5,h6⟩:=ur (w:=w) ht hi2 hzs h0 [cs] (by simp[hcl]) (by simp) (by simpa using hsb)
 refine⟨x,w0,by simpa using h3,h4,cs,by simpa using h5,fun k hk=>?_,h1,?_⟩
 ·rw[h6] at hk
  obtain rfl:=Option.some.inj hk
  exact hb
 ·simpa using aO.cons (b:=[]) (ha.ext h4) aO.nil
def Bv (b:Nat) (T:TypeId) (l:List Value):du:=fun v w=>∃g5,v=.pointer (some ⟨g5,0,none⟩)∧b≤g5∧bA g5 T l w
theorem Bv.stable {b g:Nat} {T:TypeId} {l:List Value} (hg:g<b):ck (Mv (RX g)) (Bv b T l):=fun _ _ _ ⟨g5,h1,h2,h3⟩ hm=>⟨g5,h1,h2,hm.blk h3 fun h=>by have:g5=g:=h;omega⟩
theorem Jg {P:Program} {w:World} {t:TypeId} {z:Value} {l:List Value} {b:Nat} (h:(P.info? t).map (·.zero)=some (some z)) (hv:z.cells=l.toArray) (hb:b≤w.heap.size):∃r w',(Instr.alloc t true (.tuple #[])).run P w=.ok r w'∧aJ w w'∧Bv b t l r w':=by
 obtain⟨g,w',h1,h2,h3,h4⟩:=aZ (w:=w) h hv
 exact⟨_,w',h1,h3,g,rfl,Nat.le_trans hb h2,h4⟩
end Go.Rl
namespace Go.Rl
open Go.RowKit Go.Proofs
end Go.Rl
namespace Go.Rl
open Go.RowKit Go.Proofs
theorem nT.isS {α:Type} {b sz:Nat} {f:α→Dt} {l:List α} {v:Value} {w:World} (h:nT b sz f l v w):∃A n c,v=.slice A n c:=by
 obtain⟨cs,⟨A,n,c,rfl,_⟩,_⟩:=h
 exact⟨A,n,c,rfl⟩
def Kj (b:Nat) (nd:aV):du:=fun v w=>∃cs,v=.agg cs.toArray∧ao cs∧cv (fun k=>k<b) w (bm nd) cs
theorem Kj.stable {b g:Nat} {nd:aV} (hg:g<b):ck (Mv (RX g)) (Kj b nd):=fun _ _ _ ⟨cs,h,h1,h2⟩ hm=>⟨cs,h,h1,h2.mv (hm.weak fun j hj _=>by have:j=g:=hj;show j<b;omega) fun _ hk=>.inl hk⟩
end Go.Rl
namespace Go.Rl
open Go.RowKit Go.Proofs
end Go.Rl
namespace Go.Rl
open Go.RowKit Go.Proofs
end Go.Rl
namespace Go.Rl
open Go.RowKit
end Go.Rl
namespace Go.Rl
open Go.RowKit
theorem aO.split {X:Nat→Prop} {w:World}:∀{l m:List Dt} {cs:List Value},aO X w (l++m) cs→∃a b,cs=a++b∧aO X w l a∧aO X w m b
 |[],m,cs,h=>⟨[],cs,rfl,aO.nil,h⟩
 |d::l,m,cs,h=>by
  simp only[List.cons_append,aO] at h
  obtain⟨c1,c2,rfl,h1,h2⟩:=h
  obtain⟨a,b,rfl,h3,h4⟩:=aO.split (l:=l) h2
  exact⟨c1++a,b,by simp,aO.cons h1 h3,h4⟩
end Go.Rl
namespace Go.Rl
open Go.RowKit Go.Proofs
end Go.Rl
namespace Go.Rl
def vI (d:bz):Bool:=decide (d.kd=0)&&decide (d.ix=0)&&decide (d.at_=Jb)
def nU (n:aV):Bool:=decide (1≤n.split.kd)&&decide (n.split.kd≤4)&& !n.empty&&decide (n.pf.length=0)
def j3:Nat→aV→Bool×Nat
 |0,_=>(false,0)
 |l+1,n=>match n.kids with
  |[]=>(vI n.split,1)
  |[x,y]=>if nU n=true then
    (if (j3 l x).1=false∨65536<(j3 l x).2 then(false,0) else((j3 l y).1,1+(j3 l x).2+(j3 l y).2))
   else(false,0)
  |_=>(false,0)
def kO:Nat→Int→aV→Int×Bool
 |d,most,n=>if most<1 then(0,false) else match n.kids with
  |[]=>(1,vI n.split)
  |[x,y]=>if nU n=true then(match d with
    |0=>(0,false)
    |d+1=>if (kO d (most-1) x).2=false then(0,false) else(1+(kO d (most-1) x).1+(kO d (most-1-(kO d (most-1) x).1) y).1,(kO d (most-1-(kO d (most-1) x).1) y).2))
   else(0,false)
  |_=>(0,false)
def EI:Nat→aV→Bool
 |d,n=>match n.kids with
  |[]=>vI n.split
  |[x,y]=>nU n&&(match d with
    |0=>false
    |d+1=>EI d x&&EI d y)
  |_=>false
def rQ:Nat→aV→Nat
 |d,n=>match n.kids with
  |[x,y]=>(match d with
    |0=>1
    |d+1=>1+rQ d x+rQ d y)
  |_=>1
theorem Ak (d:Nat) (n:aV):1≤rQ d n:=by
 unfold rQ
 split
 ·split<;>omega
 ·omega
theorem yx:∀(d:Nat) (n:aV),(j3 (d+1) n).1=true→EI d n=true∧(j3 (d+1) n).2=rQ d n
 |d,n,h=>by
  unfold j3 at h⊢
  unfold EI rQ
  split at h
  ·rename_i e
   simp only[e]
   exact⟨h,trivial⟩
  ·rename_i x y e
   simp only[e]
   split at h
   ·rename_i hi
    rw[if_pos hi]
    split at h
    ·cases h
    ·rename_i hx
     rw[if_neg hx]
     simp only[not_or,Bool.not_eq_false,Nat.not_lt] at hx
     cases d with
     |zero=>simp[j3] at hx
     |succ d=>
      obtain⟨a1,a2⟩:=yx d x hx.1
      obtain⟨b1,b2⟩:=yx d y h
      exact⟨by simp[hi,a1,b1],by simp[a2,b2]⟩
   ·cases h
  ·cases h
theorem Bw:∀(d:Nat) (n:aV),EI d n=true→rQ d n≤65536→(j3 (d+1) n).1=true
 |d,n,h,hc=>by
  unfold EI at h
  unfold rQ at hc
  unfold j3
  split at h
  ·exact h
  ·rename_i x y e
   simp only[e,Bool.and_eq_true] at h hc⊢
   rw[if_pos h.1]
   cases d with
   |zero=>simp at h
   |succ d=>
    simp only[Bool.and_eq_true] at h hc
    have a:=Bw d x h.2.1 (by omega)
    have b:=Bw d y h.2.2 (by omega)
    have a2:=(yx d x a).2
    rw[if_neg (by rw[a2,a];simp;omega)]
    exact b
  ·cases h
theorem yy:∀(d:Nat) (most:Int) (n:aV),(kO d most n).2=(EI d n&&decide ((rQ d n:Int)≤most))∧((kO d most n).2=true→(kO d most n).1=rQ d n)
 |d,most,n=>by
  have hp:=Ak d n
  unfold kO
  by_cases hm:most<1
  ·rw[if_pos hm,decide_eq_false (by omega)]
   simp
  ·rw[if_neg hm]
   unfold EI rQ
   generalize n.kids=ks
   rcases ks with _|⟨x,_|⟨y,_|⟨z,t⟩⟩⟩
   ·refine⟨?_,fun _=>rfl⟩
    show vI n.split=(vI n.split&&decide (((1:Nat):Int)≤most))
    rw[decide_eq_true (by omega),Bool.and_true]
   ·simp
   ·by_cases hi:nU n=true
    ·show(if nU n=true then _ else _:Int×Bool).2=(nU n&&_&&_)∧_
     rw[if_pos hi,hi]
     cases d with
     |zero=>simp
     |succ d=>
      obtain⟨a1,a2⟩:=yy d (most-1) x
      simp only[Bool.true_and]
      by_cases hx:(kO d (most-1) x).2=false
      ·rw[if_pos hx]
       rw[hx] at a1
       refine⟨?_,fun h=>by cases h⟩
       have hpy:=Ak d y
       cases hk:EI d x with
       |false=>simp
       |true=>
        rw[hk,Bool.true_and] at a1
        have:=of_decide_eq_false a1.symm
        rw[decide_eq_false (by omega)]
        simp
      ·rw[if_neg hx]
       have hx':(kO d (most-1) x).2=true:=by simpa using hx
       have e1:=a2 hx'
       rw[hx'] at a1
       simp only[Bool.true_eq,Bool.and_eq_true,decide_eq_true_eq] at a1
       rw[e1]
       obtain⟨b1,b2⟩:=yy d (most-1-(rQ d x:Int)) y
       refine⟨?_,fun h=>?_⟩
       ·rw[b1,a1.1,Bool.true_and]
        congr 1
        exact decide_eq_decide.2 (by omega)
       ·rw[b2 (by simpa using h)]
        simp only[if_true]
        omega
    ·have hi':nU n=false:=by simpa using hi
     simp[hi']
   ·simp
def mG (n:aV):Bool:=EI 2048 n&&decide (rQ 2048 n≤65536)
theorem F1 (n:aV):(kO 2048 65536 n).2=mG n:=by
 rw[(yy 2048 65536 n).1]
 unfold mG
 congr 1
 exact decide_eq_decide.2 (by omega)
theorem F3 (n:aV):((j3 2049 n).1&&decide ((j3 2049 n).2≤65536))=mG n:=by
 unfold mG
 cases h:(j3 2049 n).1 with
 |true=>
  obtain⟨a,b⟩:=yx 2048 n h
  rw[a,b]
 |false=>
  rw[Bool.false_and]
  cases hk:EI 2048 n with
  |false=>rfl
  |true=>
   rw[Bool.true_and]
   refine(decide_eq_false fun hc=>?_).symm
   have:=Bw 2048 n hk hc
   rw[h] at this
   cases this
end Go.Rl
namespace Go.Rl
open Go.RowKit Go.Proofs
end Go.Rl
namespace Go.Rl
open Go.RowKit Go.Proofs
theorem qO:aH Tryz.prog 168:=⟨_,Tryz.func168,by kernel_rfl,rfl⟩
theorem qP {w:World} {l m:List UInt32} {v u:Value} (hv:bi l v w) (hu:bi m u w):
 Calls Tryz.prog 168 #[v,u] w (bH fun r w'=>aJ w w'∧r=B (decide (l=m))):=by
 refine enter (vs:=[v,u]) Tryz.func168 E E E ?_
 have hll:=hv.len
 refine af (aa (ac E E (ag (ab (af (af (aa (ae E E (aS E E (bw KE hv) (ae E E (aS E E (bw KE hu) ?_)))))))))))
 refine ak E E E (dF) (ag (ab ?_))
 refine bt E (fun h10=>?_) (fun h10=>?_)
 ·have hne:l≠m:=fun h=>h10 (by rw[h])
  refine af (aa (ac E E (ag (ab (aw (aD (av E E ?_)))))))
  exact⟨_,rfl,aJ.refl _,congrArg B (decide_eq_false hne).symm⟩
 ·have hlen:l.length=m.length:=by omega
  refine aC (ab (af (af (aa (ae E E (aS E E (bw KE hv) (ae E E (ag (ab (aE ?_))))))))))
  refine bZ (α:=Nat) (fun x=>[(0,v),(1,u),(12,I (l.length:Int)),(13,I (x:Int))]) (fun x w'=>aJ w w'∧x≤l.length∧l.take x=m.take x) (fun x=>l.length-x) (0) ⟨rfl,rfl,rfl,rfl,trivial⟩ ⟨aJ.refl _,by omega,rfl⟩ ?_
  rintro i w4 ⟨e4,hi,ht⟩
  refine af (aa (ak E E E (bb) (ag (ab (af ?_)))))
  refine bt E (fun h14=>?_) (fun h14=>?_)
  ·refine aC (ab (af (aE (af (aa (ae E E (ac E E (ag (ab (af (bD 8 [0,1,12,13,19,23] (by kernel_rfl) (by kernel_rfl) ?_)))))))))))
   refine ay E E (ay E E ?_)
   obtain⟨a18,p18,q18⟩:=cJ KE (hv.ext e4) (i:=i) (by omega) .i64
   refine aA E E E (fun w _=>p18 w) (aN E E (fun w hw=>ai KG E (hw.cell_some q18)) (ay E E (ay E E ?_)))
   obtain⟨a22,p22,q22⟩:=cJ KE (hu.ext e4) (i:=i) (by omega) .i64
   refine aA E E E (fun w _=>p22 w) (aN E E (fun w hw=>ai KG E (hw.cell_some q22)) (cb ?_))
   intro wg6 xg6
   rintro _ hq0
   obtain rfl:=Eq.symm hq0
   rintro _ hq1
   obtain rfl:=Eq.symm hq1
   rintro _ rfl
   rintro _ rfl
   rintro _ rfl
   rintro _ rfl
   refine ak E E E (lq) (ag (ab ?_))
   refine bt E (fun h24=>?_) (fun h24=>?_)
   ·have hne:l≠m:=fun h=>h24 (by subst h;rfl)
    refine af (aa (ac E E (ag (ab (aw (aY (aD (aD (aY (aD (av E E ?_)))))))))))
    exact⟨_,rfl,(e4.trans xg6),congrArg B (decide_eq_false hne).symm⟩
   ·have he:l[i]'(by omega)=m[i]'(by omega):=Classical.byContradiction fun h=>h24 h
    refine aC (aR (ab (aa (ak (r:=I ((i+1:Nat):Int)) E E E (by have e:((i+1:Nat):Int)=(i:Int)+1:=(by omega);rw[e];exact aP (by omega) (by omega)) ?_))))
    refine ae E E (ag ?_)
    refine bJ (i+1) ⟨rfl,rfl,rfl,rfl,trivial⟩ ⟨(e4.trans xg6),by omega,by rw[List.take_succ_eq_append_getElem (by omega),List.take_succ_eq_append_getElem (by omega),ht,he]⟩ (by omega)
  ·refine be (aK (aK (bf (ab (af (aa (ac E E (ag (ab (aw (av E E ?_)))))))))))
   exact⟨_,rfl,e4,by
    rw[List.take_of_length_le (by omega),List.take_of_length_le (by omega)] at ht
    rw[decide_eq_true ht];rfl⟩
end Go.Rl
namespace Go.Rl
open Go.RowKit Go.Proofs
theorem yz:aH Tryz.prog 169:=⟨_,Tryz.func169,by kernel_rfl,rfl⟩
theorem yA:aH Tryz.prog 144:=⟨_,Tryz.func144,by kernel_rfl,rfl⟩
theorem kP:aH Tryz.prog 111:=⟨_,Tryz.func111,by kernel_rfl,rfl⟩
theorem fU:aH Tryz.prog 66:=⟨_,Tryz.func66,by kernel_rfl,rfl⟩
theorem lG:aH Tryz.prog 69:=⟨_,Tryz.func69,by kernel_rfl,rfl⟩
theorem pR:aH Tryz.prog 72:=⟨_,Tryz.func72,by kernel_rfl,rfl⟩
theorem ja:aH Tryz.prog 29:=⟨_,Tryz.func29,by kernel_rfl,rfl⟩
theorem yB {w:World} {a b:eW} {x y p q:Value} (ha:bi a.2.1 x w) (ha':bi a.2.2 y w) (hb:bi b.2.1 p w) (hb':bi b.2.2 q w):
 Calls Tryz.prog 169 #[.agg #[B a.1,x,y],.agg #[B b.1,p,q]] w (bH fun r w'=>aJ w w'∧r=B (decide (a=b))):=by
 refine enter (vs:=[.agg #[B a.1,x,y],.agg #[B b.1,p,q]]) Tryz.func169 E E E ?_
 refine af (aa ?_)
 obtain⟨g2,w2,hr2,l2,x2,k2⟩:=ca (P:=Tryz.prog) (w:=w) (T:=46) (cs:=[B a.1,x,y])
 refine cm E E hr2 ?_
 obtain⟨g3,w3,hr3,l3,x3,k3⟩:=ca (P:=Tryz.prog) (w:=w2) (T:=46) (cs:=[B b.1,p,q])
 refine cm E E hr3 (ac E E (ag (ab (af (aa (ah E E (ap (o:=0) KJ E (by kernel_rfl) E) ?_))))))
 refine aj E E (ai KQ E (x3.cell_some (k2.cell (i:=0) E))) (ah E E (ap (o:=0) KJ E (by kernel_rfl) E) ?_)
 refine aj E E (ai KQ E (k3.cell (i:=0) E)) (ak E E E (tx KQ) (ae E E ?_))
 refine cq (fun h10=>?_) (fun h10=>?_)
 ·refine al E (ah E E (ap (o:=1) KJ E (by kernel_rfl) E) (al E (aj E E (ai KE E (x3.cell_some (k2.cell (i:=1) E))) ?_)))
  refine al E (ah E E (ap (o:=1) KJ E (by kernel_rfl) E) (al E (aj E E (ai KE E (k3.cell (i:=1) E)) ?_)))
  refine al E (an qO E E (qP (ha.ext (x2.trans x3)) (hb.ext (x2.trans x3))) ?_)
  rintro v15 w15 ⟨x15,rfl⟩
  refine ar E E E (ae E E ?_)
  refine cq (fun h17=>?_) (fun h17=>?_)
  ·refine al E (ah E E (ap (o:=2) KJ E (by kernel_rfl) E) (al E (aj E E (ai KE E ((x3.trans x15).cell_some (k2.cell (i:=2) E))) ?_)))
   refine al E (ah E E (ap (o:=2) KJ E (by kernel_rfl) E) (al E (aj E E (ai KE E (x15.cell_some (k3.cell (i:=2) E))) ?_)))
   refine al E (an qO E E (qP (ha'.ext ((x2.trans x3).trans x15)) (hb'.ext ((x2.trans x3).trans x15))) ?_)
   rintro v22 w22 ⟨x22,rfl⟩
   refine ar E E E (ac E E (ag (ab (aw (av E E ?_)))))
   exact⟨_,rfl,(((x2.trans x3).trans x15).trans x22),by
    first
    |exact congrArg B (decide_eq_decide.2 ⟨fun h=>Prod.ext h10 (Prod.ext h17 h),fun h=>by rw[h]⟩)
    |exact congrArg B (decide_eq_false fun h=>h17 (by rw[h])).symm
    |exact congrArg B (decide_eq_false fun h=>h10 (by rw[h])).symm⟩
  ·refine am E E E (am E E E (am E E E (am E E E (am E E E (aI E E E (ac E E (ag (ab (aw (av E E ?_))))))))))
   exact⟨_,rfl,((x2.trans x3).trans x15),by
    first
    |exact congrArg B (decide_eq_decide.2 ⟨fun h=>Prod.ext h10 (Prod.ext h17 h),fun h=>by rw[h]⟩)
    |exact congrArg B (decide_eq_false fun h=>h17 (by rw[h])).symm
    |exact congrArg B (decide_eq_false fun h=>h10 (by rw[h])).symm⟩
 ·refine am E E E (am E E E (am E E E (am E E E (am E E E (aI E E E (ae E E (am E E E (am E E E (am E E E ?_)))))))))
  refine am E E E (am E E E (aI E E E (ac E E (ag (ab (aw (av E E ?_)))))))
  exact⟨_,rfl,(x2.trans x3),by
   first
   |exact congrArg B (decide_eq_decide.2 ⟨fun h=>Prod.ext h10 (Prod.ext h17 h),fun h=>by rw[h]⟩)
   |exact congrArg B (decide_eq_false fun h=>h17 (by rw[h])).symm
   |exact congrArg B (decide_eq_false fun h=>h10 (by rw[h])).symm⟩
theorem Bx {w:World} {a b:eW} {x y p q:Value} (ha:bi a.2.1 x w) (ha':bi a.2.2 y w) (hb:bi b.2.1 p w) (hb':bi b.2.2 q w):
 Calls Tryz.prog 105 #[.agg #[B a.1,x,y],.agg #[B b.1,p,q]] w (bH fun r w'=>aJ w w'∧r=B (decide (a=b))):=by
 refine bH.mono (uf (a:=a.1) (b:=b.1) ⟨x,y,rfl,ha,ha'⟩ ⟨p,q,rfl,hb,hb'⟩) fun r w' h=>⟨h.1,h.2.trans (congrArg B (decide_eq_decide.2 ⟨fun h=>Prod.ext h.1 (Prod.ext h.2.1 h.2.2),fun h=>by rw[h];exact⟨rfl,rfl,rfl⟩⟩))⟩
deriving instance DecidableEq for bz
theorem bz.ext' {a b:bz} (h1:a.kd=b.kd) (h2:a.ix=b.ix) (h3:a.at_=b.at_):a=b:=by
 cases a;cases b
 simp only at h1 h2 h3
 rw[h1,h2,h3]
theorem yC {w:World} {a b:bz} {x y p q:Value} (ha:bi a.at_.2.1 x w) (ha':bi a.at_.2.2 y w) (hb:bi b.at_.2.1 p w) (hb':bi b.at_.2.2 q w):
 Calls Tryz.prog 144 #[.agg #[I a.kd,I a.ix,B a.at_.1,x,y],.agg #[I b.kd,I b.ix,B b.at_.1,p,q]] w (bH fun r w'=>aJ w w'∧r=B (decide (a=b))):=by
 refine enter (vs:=[.agg #[I a.kd,I a.ix,B a.at_.1,x,y],.agg #[I b.kd,I b.ix,B b.at_.1,p,q]]) Tryz.func144 E E E ?_
 refine af (aa ?_)
 obtain⟨g2,w2,hr2,l2,x2,k2⟩:=ca (P:=Tryz.prog) (w:=w) (T:=48) (cs:=[I a.kd,I a.ix,B a.at_.1,x,y])
 refine cm E E hr2 ?_
 obtain⟨g3,w3,hr3,l3,x3,k3⟩:=ca (P:=Tryz.prog) (w:=w2) (T:=48) (cs:=[I b.kd,I b.ix,B b.at_.1,p,q])
 refine cm E E hr3 (ac E E (ag (ab (af (aa (ah E E (ap (o:=0) KH E (by kernel_rfl) E) ?_))))))
 refine aj E E (ai KI E (x3.cell_some (k2.cell (i:=0) E))) (ah E E (ap (o:=0) KH E (by kernel_rfl) E) ?_)
 refine aj E E (ai KI E (k3.cell (i:=0) E)) (ak E E E (a6) (ae E E ?_))
 refine cq (fun h10=>?_) (fun h10=>?_)
 ·refine al E (ah E E (ap (o:=1) KH E (by kernel_rfl) E) (al E (aj E E (ai KI E (x3.cell_some (k2.cell (i:=1) E))) ?_)))
  refine al E (ah E E (ap (o:=1) KH E (by kernel_rfl) E) (al E (aj E E (ai KI E (k3.cell (i:=1) E)) ?_)))
  refine al E (ak E E E (a6) (ar E E E (ae E E ?_)))
  refine cq (fun h17=>?_) (fun h17=>?_)
  ·refine al rfl (ah rfl rfl (ap (o:=2) Tryz.underlying48 rfl (by kernel_rfl) rfl) (al rfl (aj rfl rfl ((k2.ext x3).ldO (ms:=[B a.at_.1,x,y]) (o:=2) (fun j v hj=>by rcases j with _|_|_|_|_|_|_|_|_|j<;>simp_all) Tryz.underlying46 rfl (by kernel_rfl)) ?_)))
   refine al rfl (ah rfl rfl (ap (o:=2) Tryz.underlying48 rfl (by kernel_rfl) rfl) (al rfl (aj rfl rfl (k3.ldO (ms:=[B b.at_.1,p,q]) (o:=2) (fun j v hj=>by rcases j with _|_|_|_|_|_|_|_|_|j<;>simp_all) Tryz.underlying46 rfl (by kernel_rfl)) ?_)))
   refine al E (an yz E E ((yB (a:=a.at_) (b:=b.at_) (ha.ext (x2.trans x3)) (ha'.ext (x2.trans x3)) (hb.ext (x2.trans x3)) (hb'.ext (x2.trans x3)))) ?_)
   rintro v22 w22 ⟨x22,rfl⟩
   refine ar E E E (ac E E (ag (ab (aw (av E E ?_)))))
   exact⟨_,rfl,((x2.trans x3).trans x22),by
    first
    |exact congrArg B (decide_eq_decide.2 ⟨fun h=>bz.ext' h10 h17 h,fun h=>by rw[h]⟩)
    |exact congrArg B (decide_eq_false fun h=>h17 (by rw[h])).symm
    |exact congrArg B (decide_eq_false fun h=>h10 (by rw[h])).symm⟩
  ·refine am E E E (am E E E (am E E E (am E E E (am E E E (aI E E E (ac E E (ag (ab (aw (av E E ?_))))))))))
   exact⟨_,rfl,(x2.trans x3),by
    first
    |exact congrArg B (decide_eq_decide.2 ⟨fun h=>bz.ext' h10 h17 h,fun h=>by rw[h]⟩)
    |exact congrArg B (decide_eq_false fun h=>h17 (by rw[h])).symm
    |exact congrArg B (decide_eq_false fun h=>h10 (by rw[h])).symm⟩
 ·refine am E E E (am E E E (am E E E (am E E E (am E E E (aI E E E (ae E E (am E E E (am E E E (am E E E ?_)))))))))
  refine am E E E (am E E E (aI E E E (ac E E (ag (ab (aw (av E E ?_)))))))
  exact⟨_,rfl,(x2.trans x3),by
   first
   |exact congrArg B (decide_eq_decide.2 ⟨fun h=>bz.ext' h10 h17 h,fun h=>by rw[h]⟩)
   |exact congrArg B (decide_eq_false fun h=>h17 (by rw[h])).symm
   |exact congrArg B (decide_eq_false fun h=>h10 (by rw[h])).symm⟩
theorem lH {w:World} {a b:bz} {x y p q:Value} (ha:bi a.at_.2.1 x w) (ha':bi a.at_.2.2 y w) (hb:bi b.at_.2.1 p w) (hb':bi b.at_.2.2 q w):
 Calls Tryz.prog 69 #[.agg #[I a.kd,I a.ix,B a.at_.1,x,y],.agg #[I b.kd,I b.ix,B b.at_.1,p,q]] w (bH fun r w'=>aJ w w'∧r=B (decide (a=b))):=by
 refine enter (vs:=[.agg #[I a.kd,I a.ix,B a.at_.1,x,y],.agg #[I b.kd,I b.ix,B b.at_.1,p,q]]) Tryz.func69 E E E ?_
 refine af (aa ?_)
 obtain⟨g2,w2,hr2,l2,x2,k2⟩:=ca (P:=Tryz.prog) (w:=w) (T:=48) (cs:=[I a.kd,I a.ix,B a.at_.1,x,y])
 refine cm E E hr2 ?_
 obtain⟨g3,w3,hr3,l3,x3,k3⟩:=ca (P:=Tryz.prog) (w:=w2) (T:=48) (cs:=[I b.kd,I b.ix,B b.at_.1,p,q])
 refine cm E E hr3 (ac E E (ag (ab (af (aa (ah E E (ap (o:=0) KH E (by kernel_rfl) E) ?_))))))
 refine aj E E (ai KI E (x3.cell_some (k2.cell (i:=0) E))) (ah E E (ap (o:=0) KH E (by kernel_rfl) E) ?_)
 refine aj E E (ai KI E (k3.cell (i:=0) E)) (ak E E E (a6) (ae E E ?_))
 refine cq (fun h10=>?_) (fun h10=>?_)
 ·refine al E (ah E E (ap (o:=1) KH E (by kernel_rfl) E) (al E (aj E E (ai KI E (x3.cell_some (k2.cell (i:=1) E))) ?_)))
  refine al E (ah E E (ap (o:=1) KH E (by kernel_rfl) E) (al E (aj E E (ai KI E (k3.cell (i:=1) E)) ?_)))
  refine al E (ak E E E (a6) (ar E E E (ae E E ?_)))
  refine cq (fun h17=>?_) (fun h17=>?_)
  ·refine al rfl (ah rfl rfl (ap (o:=2) Tryz.underlying48 rfl (by kernel_rfl) rfl) (al rfl (aj rfl rfl ((k2.ext x3).ldO (ms:=[B a.at_.1,x,y]) (o:=2) (fun j v hj=>by rcases j with _|_|_|_|_|_|_|_|_|j<;>simp_all) Tryz.underlying46 rfl (by kernel_rfl)) ?_)))
   refine al rfl (ah rfl rfl (ap (o:=2) Tryz.underlying48 rfl (by kernel_rfl) rfl) (al rfl (aj rfl rfl (k3.ldO (ms:=[B b.at_.1,p,q]) (o:=2) (fun j v hj=>by rcases j with _|_|_|_|_|_|_|_|_|j<;>simp_all) Tryz.underlying46 rfl (by kernel_rfl)) ?_)))
   refine al E (an mw E E ((Bx (a:=a.at_) (b:=b.at_) (ha.ext (x2.trans x3)) (ha'.ext (x2.trans x3)) (hb.ext (x2.trans x3)) (hb'.ext (x2.trans x3)))) ?_)
   rintro v22 w22 ⟨x22,rfl⟩
   refine ar E E E (ac E E (ag (ab (aw (av E E ?_)))))
   exact⟨_,rfl,((x2.trans x3).trans x22),by
    first
    |exact congrArg B (decide_eq_decide.2 ⟨fun h=>bz.ext' h10 h17 h,fun h=>by rw[h]⟩)
    |exact congrArg B (decide_eq_false fun h=>h17 (by rw[h])).symm
    |exact congrArg B (decide_eq_false fun h=>h10 (by rw[h])).symm⟩
  ·refine am E E E (am E E E (am E E E (am E E E (am E E E (aI E E E (ac E E (ag (ab (aw (av E E ?_))))))))))
   exact⟨_,rfl,(x2.trans x3),by
    first
    |exact congrArg B (decide_eq_decide.2 ⟨fun h=>bz.ext' h10 h17 h,fun h=>by rw[h]⟩)
    |exact congrArg B (decide_eq_false fun h=>h17 (by rw[h])).symm
    |exact congrArg B (decide_eq_false fun h=>h10 (by rw[h])).symm⟩
 ·refine am E E E (am E E E (am E E E (am E E E (am E E E (aI E E E (ae E E (am E E E (am E E E (am E E E ?_)))))))))
  refine am E E E (am E E E (aI E E E (ac E E (ag (ab (aw (av E E ?_)))))))
  exact⟨_,rfl,(x2.trans x3),by
   first
   |exact congrArg B (decide_eq_decide.2 ⟨fun h=>bz.ext' h10 h17 h,fun h=>by rw[h]⟩)
   |exact congrArg B (decide_eq_false fun h=>h17 (by rw[h])).symm
   |exact congrArg B (decide_eq_false fun h=>h10 (by rw[h])).symm⟩
end Go.Rl
namespace Go.Rl
open Go.RowKit Go.Proofs
section
variable {w:World} {cs:List Value}
theorem gj {m:ci} (h:Rp w (bI m) cs):∃x y,cs=[I m.kd,I m.ix,I m.lo,I m.hi,B m.co.1,x,y]∧bi m.co.2.1 x w∧bi m.co.2.2 y w:=by
 simp only[bI,lT,bk,Rp.eq_5,Rp.eq_1] at h
 obtain⟨_,_,rfl,⟨_,_,rfl,rfl,_,_,rfl,rfl,_,_,rfl,rfl,_,_,rfl,rfl,rfl⟩,_,_,rfl,h1,rfl⟩:=h
 obtain⟨x,y,rfl,hx,hy⟩:=lF h1
 exact⟨x,y,rfl,hx,hy⟩
theorem fE {d:bz} (h:Rp w (cQ d) cs):∃x y,cs=[I d.kd,I d.ix,B d.at_.1,x,y]∧bi d.at_.2.1 x w∧bi d.at_.2.2 y w:=by
 simp only[cQ,lT,bk,Rp.eq_5,Rp.eq_1] at h
 obtain⟨_,_,rfl,rfl,_,_,rfl,rfl,_,_,rfl,h1,rfl⟩:=h
 obtain⟨x,y,rfl,hx,hy⟩:=lF h1
 exact⟨x,y,rfl,hx,hy⟩
theorem fk {l:er} (h:Rp w (cP l) cs):∃x y v,cs=[I l.un,B l.up,B l.va.1,x,y,v]∧bi l.va.2.1 x w∧bi l.va.2.2 y w∧ct bI l.pf v w:=by
 simp only[cP,lT,bk,Rp.eq_5,Rp.eq_1,Rp.eq_2] at h
 obtain⟨_,_,rfl,rfl,_,_,rfl,rfl,_,_,rfl,h1,_,_,rfl,h2,rfl⟩:=h
 obtain⟨x,y,rfl,hx,hy⟩:=lF h1
 obtain⟨v,rfl,hv,_⟩:=Rp.isSlice h2
 exact⟨x,y,v,rfl,hx,hy,hv⟩
theorem cW {n:aV} (h:Rp w (bm n) cs):∃vl x y vk vp,cs=[vl,I n.split.kd,I n.split.ix,B n.split.at_.1,x,y,vk,B n.empty,vp]∧ct cP n.lems vl w∧bi n.split.at_.2.1 x w∧bi n.split.at_.2.2 y w∧ct bm n.kids vk w∧ct bI n.pf vp w:=by
 cases n with
 |mk lems sp ks em pf=>
  simp only[bm,bk,Rp.eq_5,Rp.eq_2,jV] at h
  obtain⟨_,_,rfl,h1,_,_,rfl,h2,_,_,rfl,h3,_,_,rfl,rfl,_,_,rfl,h4,rfl⟩:=h
  obtain⟨vl,rfl,hl,_⟩:=Rp.isSlice h1
  obtain⟨x,y,rfl,hx,hy⟩:=fE h2
  obtain⟨vk,rfl,hk,_⟩:=Rp.isSlice h3
  obtain⟨vp,rfl,hp,_⟩:=Rp.isSlice h4
  exact⟨vl,x,y,vk,vp,rfl,hl,hx,hy,hk,hp⟩
theorem yD (d:bz):vI d=decide (d=kI):=by
 cases d with
 |mk a b c=>
  unfold vI kI
  simp only[bz.mk.injEq]
  by_cases h1:a=0<;>by_cases h2:b=0<;>by_cases h3:c=Jb<;>simp[h1,h2,h3]
end
end Go.Rl
namespace Go.Rl
open Go.RowKit Go.Proofs
theorem yE {L:Nat} {n x y:aV} (hk:n.kids=[x,y]) (hi:nU n=true):j3 (L+1) n=if (j3 L x).1=false∨65536<(j3 L x).2 then(false,0) else((j3 L y).1,1+(j3 L x).2+(j3 L y).2):=by
 rw[j3];simp only[hk,if_pos hi]
theorem kq {L:Nat} {n:aV} (h0:n.kids.length≠0) (h:n.kids.length≠2∨nU n=false):j3 (L+1) n=(false,0):=by
 rw[j3]
 generalize n.kids=ks at h0 h
 rcases ks with _|⟨x,_|⟨y,_|⟨z,t⟩⟩⟩
 ·exact absurd rfl h0
 ·rfl
 ·rcases h with h|h
  ·exact absurd rfl h
  ·simp[h]
 ·rfl
theorem cx {P:Program} {w:World} {s:TypeId} {fs:Array Field} {f:Field} {n g o b:Nat} (hs:P.underlying s=some (.struct fs)) (hf:fs[n]? =some f) (hk:(P.cellsOf f.type==0)=false) (ho:f.offset=o):
 (Instr.fieldAt s (.pointer (some ⟨g,b,none⟩)) n).run P w=.ok (.pointer (some ⟨g,b+o,none⟩)) w:=by
 have hk':P.cellsOf f.type≠0:=by simpa using hk
 obtain⟨k,hk1⟩:∃k,(P.info? f.type).map (·.size)=some k:=by
  cases hi:(P.info? f.type).map (·.size) with
  |none=>exact absurd (by simp[Program.cellsOf,hi]) hk'
  |some k=>exact⟨k,rfl⟩
 have hk0:k≠0:=by
  intro h
  apply hk'
  simp[Program.cellsOf,hk1,h]
 rw[cp hs hf hk1 hk0,ho,pp]
theorem F5 {L:Nat} {n:aV} (h0:n.kids.length=0):j3 (L+1) n=(vI n.split,1):=by
 rw[j3]
 have:n.kids=[]:=List.eq_nil_of_length_eq_zero h0
 simp only[this]
theorem fV {n:aV} (h:¬(1≤n.split.kd∧n.split.kd≤4∧n.empty=false∧n.pf.length=0)):nU n=false:=by
 unfold nU
 by_cases h1:1≤n.split.kd<;>by_cases h2:n.split.kd≤4<;>by_cases h3:n.pf.length=0<;>cases h4:n.empty<;>simp_all
theorem CJ {n:aV} (h1:1≤n.split.kd) (h2:n.split.kd≤4) (h3:n.empty=false) (h4:n.pf.length=0):nU n=true:=by
 unfold nU
 simp[h1,h2,h3,h4]
theorem By:∀(L:Nat) (n:aV),(j3 L n).2≤65537*L
 |0,_=>Nat.le_refl _
 |L+1,n=>by
  rw[j3]
  generalize n.kids=ks
  rcases ks with _|⟨x,_|⟨y,_|⟨z,t⟩⟩⟩
  ·show 1≤_;omega
  ·show 0≤_;omega
  ·have:=By L y
   by_cases hi:nU n=true
   ·simp only[if_pos hi]
    split
    ·show 0≤_;omega
    ·rename_i h
     simp only[not_or,Nat.not_lt] at h
     have:=h.2
     show 1+(j3 L x).2+(j3 L y).2≤_
     omega
   ·simp only[if_neg hi]
    show 0≤_;omega
  ·show 0≤_;omega
theorem uD {ks:List aV} (h:ks.length=2):ks=[ks[0]'(by omega),ks[1]'(by omega)]:=by
 rcases ks with _|⟨x,_|⟨y,_|⟨z,t⟩⟩⟩
 ·simp at h
 ·simp at h
 ·rfl
 ·simp at h
theorem uE {w:World} {n:aV} {L d:Nat} {vl x y vk vp:Value} (ih:∀L',L=L'+1→∀{w:World} {n:aV} {vl x y vk vp:Value},ct cP n.lems vl w→bi n.split.at_.2.1 x w→bi n.split.at_.2.2 y w→ct bm n.kids vk w→ct bI n.pf vp w→
 Calls Tryz.prog 72 #[.agg #[vl,I n.split.kd,I n.split.ix,B n.split.at_.1,x,y,vk,B n.empty,vp],I ((d+1:Nat):Int)] w (bH fun r w'=>aJ w w'∧r=.tuple #[B (j3 L' n).1,I ((j3 L' n).2:Int)]))
 (hl:ct cP n.lems vl w) (hx:bi n.split.at_.2.1 x w) (hy:bi n.split.at_.2.2 y w) (hk:ct bm n.kids vk w) (hp:ct bI n.pf vp w) (hd:d+L=2049):
 Calls Tryz.prog 72 #[.agg #[vl,I n.split.kd,I n.split.ix,B n.split.at_.1,x,y,vk,B n.empty,vp],I (d:Int)] w (bH fun r w'=>aJ w w'∧r=.tuple #[B (j3 L n).1,I ((j3 L n).2:Int)]):=by
 refine enter (vs:=[.agg #[vl,I n.split.kd,I n.split.ix,B n.split.at_.1,x,y,vk,B n.empty,vp],I (d:Int)]) Tryz.func72 E E E ?_
 refine af (aa ?_)
 obtain⟨g2,w2,hr2,l2,x2,k2⟩:=ca (P:=Tryz.prog) (w:=w) (T:=52) (cs:=[vl,I n.split.kd,I n.split.ix,B n.split.at_.1,x,y,vk,B n.empty,vp])
 refine cm E E hr2 (ac E E (ac E E (ag (ab (af (af (aa (ae E E (ak E E E (bV) (ag (ab ?_)))))))))))
 refine bt E (fun h11=>?_) (fun h11=>?_)
 ·obtain rfl:L=0:=by omega
  refine af (aa (ac E E (ac E E (ag (ab (aw (aD (bn E E E ?_))))))))
  exact⟨_,rfl,x2,rfl⟩
 ·obtain⟨L',rfl⟩:∃L',L=L'+1:=⟨L-1,by omega⟩
  refine aC (ab (af (af (aa (ah E E (ap (o:=6) KF E (by kernel_rfl) E) (aj E E (ai KO E (k2.cell (i:=6) E)) ?_))))))
  refine aS E E (a9 KO (hk.ext x2)) (ak E E E (a6) (ag (ab ?_)))
  refine bt E (fun h15=>?_) (fun h15=>?_)
  ·have h0:n.kids.length=0:=by omega
   refine af (aa (ah rfl rfl (ap (o:=1) Tryz.underlying52 rfl (by kernel_rfl) rfl) (aj rfl rfl (k2.ldO (ms:=[I n.split.kd,I n.split.ix,B n.split.at_.1,x,y]) (o:=1) (fun j v hj=>by rcases j with _|_|_|_|_|_|_|_|_|j<;>simp_all) Tryz.underlying48 rfl (by kernel_rfl)) ?_)))
   refine bj (vs:=[]) (r:=.agg #[I 0,I 0,B false,.slice none 0 0,.slice none 0 0]) E E (by exact run_build _ _ _ _ (by kernel_rfl)) (an lG E E ((lH (a:=n.split) (b:=kI) (hx.ext x2) (hy.ext x2) (Sl.nil _ _) (Sl.nil _ _))) ?_)
   rintro v19 w19 ⟨x19,rfl⟩
   refine ac E E (ac E E (ag (ab (aw (aD (bn E E E ?_))))))
   exact⟨_,rfl,(x2.trans x19),by rw[F5 h0,yD];rfl⟩
  ·have h0:n.kids.length≠0:=by omega
   refine aC (ab (af (af ?_)))
   have hl2:=hl.ext x2
   have hx2:=hx.ext x2
   have hy2:=hy.ext x2
   have hk2:=hk.ext x2
   have hp2:=hp.ext x2
   rcases hem:n.empty with _|_
   ·have kf:=k2
    rw[hem] at kf
    refine aa (ah E E (ap (o:=6) KF E (by kernel_rfl) E) (aj E E (ai KO E (kf.cell (i:=6) E)) ?_))
    refine aS E E (a9 KO hk2) (ak E E E (dF) (ae E E ?_))
    refine cq (fun h24=>?_) (fun h24=>?_)
    ·refine am E E E (am E E E (am E E E (am E E E (ar E E E (ae E E (am E E E (am E E E (am E E E (am E E E ?_)))))))))
     refine ar E E E (ae E E (am E E E (am E E E (ar E E E (ae E E (am E E E (am E E E (am E E E (am E E E ?_)))))))))
     refine ar E E E (ag (ab (bg E (af (aa (ac E E (ac E E (ag (ab (aw (aD (bn E E E ?_))))))))))))
     exact⟨_,rfl,x2,by
      rw[kq h0 (by
       first
       |exact .inl (by omega)
       |exact .inr (fV fun⟨a1,a2,a3,a4⟩=>by
         first
         |omega
         |(rw[hem] at a3;cases a3)))]
      rfl⟩
    ·refine al E (ah E E (ap (o:=1) KF E (by kernel_rfl) E) (al E (ah E E (cx (b:=1) (o:=0) KH E (by kernel_rfl) E) ?_)))
     refine al E (aj E E (ai KI E (kf.cell (i:=1) E)) (al E (ak E E E (bb) (aI E E E (ae E E ?_)))))
     refine cq (fun h30=>?_) (fun h30=>?_)
     ·refine am E E E (am E E E (am E E E (am E E E (ar E E E (ae E E (am E E E (am E E E (ar E E E (ae E E ?_)))))))))
      refine am E E E (am E E E (am E E E (am E E E (ar E E E (ag (ab (bg E (af (aa (ac E E (ac E E (ag ?_))))))))))))
      refine ab (aw (aD (bn E E E ?_)))
      exact⟨_,rfl,x2,by
       rw[kq h0 (by
        first
        |exact .inl (by omega)
        |exact .inr (fV fun⟨a1,a2,a3,a4⟩=>by
          first
          |omega
          |(rw[hem] at a3;cases a3)))]
       rfl⟩
     ·refine al E (ah E E (ap (o:=1) KF E (by kernel_rfl) E) (al E (ah E E (cx (b:=1) (o:=0) KH E (by kernel_rfl) E) ?_)))
      refine al E (aj E E (ai KI E (kf.cell (i:=1) E)) (al E (ak E E E (bV) (aI E E E (ae E E ?_)))))
      refine cq (fun h36=>?_) (fun h36=>?_)
      ·refine am E E E (am E E E (ar E E E (ae E E (am E E E (am E E E (am E E E (am E E E (ar E E E (ag ?_)))))))))
       refine ab (bg E (af (aa (ac E E (ac E E (ag (ab (aw (aD (bn E E E ?_))))))))))
       exact⟨_,rfl,x2,by
        rw[kq h0 (by
         first
         |exact .inl (by omega)
         |exact .inr (fV fun⟨a1,a2,a3,a4⟩=>by
           first
           |omega
           |(rw[hem] at a3;cases a3)))]
        rfl⟩
      ·refine al E (ah E E (ap (o:=7) KF E (by kernel_rfl) E) (al E (aj E E (ai KQ E (kf.cell (i:=7) E)) ?_)))
       refine aI E E E (ae E E (al E (ah E E (ap (o:=8) KF E (by kernel_rfl) E) (al E (aj E E (ai KS E (kf.cell (i:=8) E)) ?_)))))
       refine al E (aS E E (a9 KS hp2) (al E (ak E E E (bV) (aI E E E (ag (ab ?_))))))
       refine bt E (fun h45=>?_) (fun h45=>?_)
       ·refine af (aa (ac E E (ac E E (ag (ab (aw (aD (bn E E E ?_))))))))
        exact⟨_,rfl,x2,by
         rw[kq h0 (by
          first
          |exact .inl (by omega)
          |exact .inr (fV fun⟨a1,a2,a3,a4⟩=>by
            first
            |omega
            |(rw[hem] at a3;cases a3)))]
         rfl⟩
       ·refine aC (ab (af ?_))
        have hk2n:n.kids.length=2:=by omega
        have hks:=uD hk2n
        have hi:=CJ (n:=n) (by omega) (by omega) hem (by omega)
        refine aa (ah E E (ap (o:=6) KF E (by kernel_rfl) E) (aj E E (ai KO E (kf.cell (i:=6) E)) ?_))
        obtain⟨a49,c49,p49,q49,h49⟩:=bR (P:=Tryz.prog) (sz:=9) KO (by kernel_rfl) cg (by omega) hk2 (i:=0) (by omega) .i64
        obtain⟨e49,he49⟩:∃e,e=n.kids[0]'(by omega):=⟨_,rfl⟩
        rw[←he49] at h49
        obtain⟨x49_0,x49_1,x49_2,x49_3,x49_4,rfl,f49_0,f49_1,f49_2,f49_3,f49_4⟩:=cW h49
        refine au E E E (p49 _) (aj E E (q49.ld KF E (by kernel_rfl)) (ae E E (ak (r:=I ((d+1:Nat):Int)) E E E (by have e:((d+1:Nat):Int)=(d:Int)+1:=(by omega);rw[e];exact aP (by omega) (by omega)) ?_)))
        refine an pR E E ((ih L' E f49_0 f49_1 f49_2 f49_3 f49_4)) ?_
        rintro v53 w53 ⟨x53,rfl⟩
        refine ae E E (az E E (ce) (az E E (cf) (ac E E (ac E E (ag (ab (af (af ?_))))))))
        have he:=By L' e49
        rcases hb:(j3 L' e49).1 with _|_
        ·refine aa (ae E E (bo E E bu (ae E E (am E E E (am E E E (ar E E E (ag (ab (bg E (af (aa (ac E E ?_))))))))))))
         refine ac E E (ag (ab (aw (aD (bn E E E ?_)))))
         exact⟨_,rfl,(x2.trans x53),by
          rw[yE hks hi,←he49,if_pos (by first|exact .inl hb|exact .inr (by omega))]
          rfl⟩
        ·refine aa (ae E E (bo E E bu (ae E E (al E (ae E E (al E (ak E E E (bV) (aI E E E (ag (ab ?_))))))))))
         refine bt E (fun h61=>?_) (fun h61=>?_)
         ·refine af (aa (ac E E (ac E E (ag (ab (aw (aD (bn E E E ?_))))))))
          exact⟨_,rfl,(x2.trans x53),by
           rw[yE hks hi,←he49,if_pos (by first|exact .inl hb|exact .inr (by omega))]
           rfl⟩
         ·refine aC (ab (af (aa (ah E E (ap (o:=6) KF E (by kernel_rfl) E) (aj E E (ai KO E (x53.cell_some (kf.cell (i:=6) E))) ?_)))))
          obtain⟨a65,c65,p65,q65,h65⟩:=bR (P:=Tryz.prog) (sz:=9) KO (by kernel_rfl) cg (by omega) (hk2.ext x53) (i:=1) (by omega) .i64
          obtain⟨e65,he65⟩:∃e,e=n.kids[1]'(by omega):=⟨_,rfl⟩
          rw[←he65] at h65
          obtain⟨x65_0,x65_1,x65_2,x65_3,x65_4,rfl,f65_0,f65_1,f65_2,f65_3,f65_4⟩:=cW h65
          refine au E E E (p65 _) (aj E E (q65.ld KF E (by kernel_rfl)) (ae E E (ak (r:=I ((d+1:Nat):Int)) E E E (by have e:((d+1:Nat):Int)=(d:Int)+1:=(by omega);rw[e];exact aP (by omega) (by omega)) ?_)))
          refine an pR E E ((ih L' E f65_0 f65_1 f65_2 f65_3 f65_4)) ?_
          rintro v69 w69 ⟨x69,rfl⟩
          have hf:=By L' e65
          refine ae E E (az E E (ce) (az E E (cf) (ac E E (ac E E (ag (ab (af (aa (ae E E (ae E E (ak (r:=I ((1+(j3 L' e49).2:Nat):Int)) E E E (by have e:((1+(j3 L' e49).2:Nat):Int)=1+((j3 L' e49).2:Int):=(by omega);rw[e];exact aP (by omega) (by omega)) ?_)))))))))))
          refine ae E E (ak (r:=I ((((1+(j3 L' e49).2:Nat))+(j3 L' e65).2:Nat):Int)) E E E (by have e:((((1+(j3 L' e49).2:Nat))+(j3 L' e65).2:Nat):Int)=((1+(j3 L' e49).2:Nat):Int)+((j3 L' e65).2:Int):=(by omega);rw[e];exact aP (by omega) (by omega)) ?_)
          refine ac E E (ac E E (ag (ab (aw (bn E E E ?_)))))
          exact⟨_,rfl,((x2.trans x53).trans x69),by
           rw[yE hks hi,←he49,←he65,if_neg (by rw[hb];simp;omega)]⟩
   ·have kf:=k2
    rw[hem] at kf
    refine aa (ah E E (ap (o:=6) KF E (by kernel_rfl) E) (aj E E (ai KO E (kf.cell (i:=6) E)) ?_))
    refine aS E E (a9 KO hk2) (ak E E E (dF) (ae E E ?_))
    refine cq (fun h24=>?_) (fun h24=>?_)
    ·refine am E E E (am E E E (am E E E (am E E E (ar E E E (ae E E (am E E E (am E E E (am E E E (am E E E ?_)))))))))
     refine ar E E E (ae E E (am E E E (am E E E (ar E E E (ae E E (am E E E (am E E E (am E E E (am E E E ?_)))))))))
     refine ar E E E (ag (ab (bg E (af (aa (ac E E (ac E E (ag (ab (aw (aD (bn E E E ?_))))))))))))
     exact⟨_,rfl,x2,by
      rw[kq h0 (by
       first
       |exact .inl (by omega)
       |exact .inr (fV fun⟨a1,a2,a3,a4⟩=>by
         first
         |omega
         |(rw[hem] at a3;cases a3)))]
      rfl⟩
    ·refine al E (ah E E (ap (o:=1) KF E (by kernel_rfl) E) (al E (ah E E (cx (b:=1) (o:=0) KH E (by kernel_rfl) E) ?_)))
     refine al E (aj E E (ai KI E (kf.cell (i:=1) E)) (al E (ak E E E (bb) (aI E E E (ae E E ?_)))))
     refine cq (fun h30=>?_) (fun h30=>?_)
     ·refine am E E E (am E E E (am E E E (am E E E (ar E E E (ae E E (am E E E (am E E E (ar E E E (ae E E ?_)))))))))
      refine am E E E (am E E E (am E E E (am E E E (ar E E E (ag (ab (bg E (af (aa (ac E E (ac E E (ag ?_))))))))))))
      refine ab (aw (aD (bn E E E ?_)))
      exact⟨_,rfl,x2,by
       rw[kq h0 (by
        first
        |exact .inl (by omega)
        |exact .inr (fV fun⟨a1,a2,a3,a4⟩=>by
          first
          |omega
          |(rw[hem] at a3;cases a3)))]
       rfl⟩
     ·refine al E (ah E E (ap (o:=1) KF E (by kernel_rfl) E) (al E (ah E E (cx (b:=1) (o:=0) KH E (by kernel_rfl) E) ?_)))
      refine al E (aj E E (ai KI E (kf.cell (i:=1) E)) (al E (ak E E E (bV) (aI E E E (ae E E ?_)))))
      refine cq (fun h36=>?_) (fun h36=>?_)
      ·refine am E E E (am E E E (ar E E E (ae E E (am E E E (am E E E (am E E E (am E E E (ar E E E (ag ?_)))))))))
       refine ab (bg E (af (aa (ac E E (ac E E (ag (ab (aw (aD (bn E E E ?_))))))))))
       exact⟨_,rfl,x2,by
        rw[kq h0 (by
         first
         |exact .inl (by omega)
         |exact .inr (fV fun⟨a1,a2,a3,a4⟩=>by
           first
           |omega
           |(rw[hem] at a3;cases a3)))]
        rfl⟩
      ·refine al E (ah E E (ap (o:=7) KF E (by kernel_rfl) E) (al E (aj E E (ai KQ E (kf.cell (i:=7) E)) ?_)))
       refine aI E E E (ae E E (am E E E (am E E E (am E E E (am E E E (ar E E E (ag (ab (bg E (af (aa ?_)))))))))))
       refine ac E E (ac E E (ag (ab (aw (aD (bn E E E ?_))))))
       exact⟨_,rfl,x2,by
        rw[kq h0 (by
         first
         |exact .inl (by omega)
         |exact .inr (fV fun⟨a1,a2,a3,a4⟩=>by
           first
           |omega
           |(rw[hem] at a3;cases a3)))]
        rfl⟩
theorem uF:∀(L d:Nat),d+L=2049→∀{w:World} {n:aV} {vl x y vk vp:Value},ct cP n.lems vl w→bi n.split.at_.2.1 x w→bi n.split.at_.2.2 y w→ct bm n.kids vk w→ct bI n.pf vp w→
 Calls Tryz.prog 72 #[.agg #[vl,I n.split.kd,I n.split.ix,B n.split.at_.1,x,y,vk,B n.empty,vp],I (d:Int)] w (bH fun r w'=>aJ w w'∧r=.tuple #[B (j3 L n).1,I ((j3 L n).2:Int)])
 |0,_,hd,_,_,_,_,_,_,_,hl,hx,hy,hk,hp=>uE (fun _ e=>by cases e) hl hx hy hk hp hd
 |L+1,d,hd,_,_,_,_,_,_,_,hl,hx,hy,hk,hp=>uE (fun L' e _ _ _ _ _ _ _ h1 h2 h3 h4 h5=>by
   cases e
   exact uF L (d+1) (by omega) h1 h2 h3 h4 h5) hl hx hy hk hp hd
theorem jb {w:World} {n:aV} {vl x y vk vp:Value} (hl:ct cP n.lems vl w) (hx:bi n.split.at_.2.1 x w) (hy:bi n.split.at_.2.2 y w) (hk:ct bm n.kids vk w) (hp:ct bI n.pf vp w):
 Calls Tryz.prog 29 #[.agg #[vl,I n.split.kd,I n.split.ix,B n.split.at_.1,x,y,vk,B n.empty,vp]] w (bH fun r w'=>aJ w w'∧r=B (mG n)):=by
 refine enter (vs:=[.agg #[vl,I n.split.kd,I n.split.ix,B n.split.at_.1,x,y,vk,B n.empty,vp]]) Tryz.func29 E E E ?_
 refine af (aa ?_)
 obtain⟨g1,w1,hr1,l1,x1,k1⟩:=ca (P:=Tryz.prog) (w:=w) (T:=52) (cs:=[vl,I n.split.kd,I n.split.ix,B n.split.at_.1,x,y,vk,B n.empty,vp])
 refine cm E E hr1 (ac E E (ag (ab (af (aa (aj E E (k1.ld KF E (by kernel_rfl)) (an pR E E ((uF 2049 0 E (hl.ext x1) (hx.ext x1) (hy.ext x1) (hk.ext x1) (hp.ext x1))) ?_)))))))
 rintro v7 w7 ⟨x7,rfl⟩
 refine ae E E (az E E (ce) (az E E (cf) (ac E E (ac E E (ag (ab (af ?_)))))))
 have hv:=F3 n
 rcases hb:(j3 2049 n).1 with _|_
 ·refine aa (ae E E (ae E E (am E E E (am E E E (aI E E E (ac E E (ag (ab (aw (av E E ?_))))))))))
  exact⟨_,rfl,(x1.trans x7),by rw[←hv,hb];rfl⟩
 ·refine aa (ae E E (ae E E (al E (ae E E (al E (ak E E E (Ch) (ar E E E (ac E E (ag (ab (aw (av E E ?_))))))))))))
  exact⟨_,rfl,(x1.trans x7),by rw[←hv,hb,Bool.true_and];exact congrArg B (decide_eq_decide.2 (by omega))⟩
end Go.Rl
namespace Go.Rl
open Go.RowKit Go.Proofs
theorem wY {d:Nat} {m:Int} {n:aV} (h:m<1):kO d m n=(0,false):=by rw[kO.eq_def];exact if_pos h
theorem Al {d:Nat} {m:Int} {n:aV} (h:¬m<1) (h0:n.kids.length=0):kO d m n=(1,vI n.split):=by
 have:n.kids=[]:=List.eq_nil_of_length_eq_zero h0
 rw[kO.eq_def]
 simp only[if_neg h,this]
theorem iX {d:Nat} {m:Int} {n:aV} (hm:¬m<1) (h0:n.kids.length≠0) (h:n.kids.length≠2∨nU n=false∨d=0):kO d m n=(0,false):=by
 rw[kO.eq_def]
 simp only[if_neg hm]
 generalize n.kids=ks at h0 h
 rcases ks with _|⟨x,_|⟨y,_|⟨z,t⟩⟩⟩
 ·exact absurd rfl h0
 ·rfl
 ·rcases h with h|h|h
  ·exact absurd rfl h
  ·simp[h]
  ·subst h
   simp
 ·rfl
theorem yF {d:Nat} {m:Int} {n x y:aV} (hm:¬m<1) (hk:n.kids=[x,y]) (hi:nU n=true):kO (d+1) m n=if (kO d (m-1) x).2=false then(0,false) else(1+(kO d (m-1) x).1+(kO d (m-1-(kO d (m-1) x).1) y).1,(kO d (m-1-(kO d (m-1) x).1) y).2):=by
 rw[kO.eq_def]
 simp only[if_neg hm,hk,if_pos hi]
theorem F6 {m A C:Int} (hm:¬m<1) (a:0≤A∧A≤max 0 (m-1)) (b:0≤C∧C≤max 0 (m-1-A)):0≤1+A+C∧1+A+C≤max 0 m:=by omega
theorem yG:∀(d:Nat) (m:Int) (n:aV),0≤(kO d m n).1∧(kO d m n).1≤max 0 m
 |d,m,n=>by
  by_cases hm:m<1
  ·rw[wY hm];exact⟨Int.le_refl _,by show(0:Int)≤_;omega⟩
  ·by_cases h0:n.kids.length=0
   ·rw[Al hm h0];exact⟨by show(0:Int)≤1;omega,by show(1:Int)≤_;omega⟩
   ·by_cases hb:n.kids.length≠2∨nU n=false∨d=0
    ·rw[iX hm h0 hb];exact⟨Int.le_refl _,by show(0:Int)≤_;omega⟩
    ·simp only[not_or,Bool.not_eq_false] at hb
     obtain⟨h2,hi,hd⟩:=hb
     obtain⟨d',rfl⟩:∃d',d=d'+1:=⟨d-1,by omega⟩
     rw[yF hm (uD (by omega)) hi]
     split
     ·exact⟨Int.le_refl _,by show(0:Int)≤_;omega⟩
     ·have a:=yG d' (m-1) (n.kids[0]'(by omega))
      have b:=yG d' (m-1-(kO d' (m-1) (n.kids[0]'(by omega))).1) (n.kids[1]'(by omega))
      exact F6 hm a b
theorem uG {w:World} {n:aV} {d:Nat} {m:Int} {vl x y vk vp:Value} (ih:∀d',d=d'+1→∀{w:World} {n:aV} {m:Int} {vl x y vk vp:Value},0≤m→m≤65536→ct cP n.lems vl w→bi n.split.at_.2.1 x w→bi n.split.at_.2.2 y w→ct bm n.kids vk w→ct bI n.pf vp w→
 Calls Tryz.prog 111 #[.agg #[vl,I n.split.kd,I n.split.ix,B n.split.at_.1,x,y,vk,B n.empty,vp],I (d':Int),I m] w (bH fun r w'=>aJ w w'∧r=.tuple #[I (kO d' m n).1,B (kO d' m n).2]))
 (hd:d≤2048) (hm0:0≤m) (hm1:m≤65536) (hl:ct cP n.lems vl w) (hx:bi n.split.at_.2.1 x w) (hy:bi n.split.at_.2.2 y w) (hk:ct bm n.kids vk w) (hp:ct bI n.pf vp w):
 Calls Tryz.prog 111 #[.agg #[vl,I n.split.kd,I n.split.ix,B n.split.at_.1,x,y,vk,B n.empty,vp],I (d:Int),I m] w (bH fun r w'=>aJ w w'∧r=.tuple #[I (kO d m n).1,B (kO d m n).2]):=by
 refine enter (vs:=[.agg #[vl,I n.split.kd,I n.split.ix,B n.split.at_.1,x,y,vk,B n.empty,vp],I (d:Int),I m]) Tryz.func111 E E E ?_
 have hl2:=hl
 refine af (aa ?_)
 obtain⟨g3,w3,hr3,l3,x3,k3⟩:=ca (P:=Tryz.prog) (w:=w) (T:=52) (cs:=[vl,I n.split.kd,I n.split.ix,B n.split.at_.1,x,y,vk,B n.empty,vp])
 refine cm E E hr3 (ac E E (ac E E (ag (ab (af (af (aa (ae E E (ak E E E (bb) (ag (ab ?_)))))))))))
 refine bt E (fun h12=>?_) (fun h12=>?_)
 ·have hm:m<1:=h12
  refine af (aa (ac E E (ac E E (ag (ab (aw (aD (bn E E E ?_))))))))
  exact⟨_,rfl,x3,by rw[wY hm]<;>rfl⟩
 ·have hm:¬m<1:=h12
  refine aC (ab (af (af (aa (ah E E (ap (o:=6) KF E (by kernel_rfl) E) (aj E E (ai KO E (k3.cell (i:=6) E)) ?_))))))
  refine aS E E (a9 KO (hk.ext x3)) (ak E E E (a6) (ag (ab ?_)))
  refine bt E (fun h16=>?_) (fun h16=>?_)
  ·have h0:n.kids.length=0:=by omega
   refine af (aa (ah rfl rfl (ap (o:=1) Tryz.underlying52 rfl (by kernel_rfl) rfl) (aj rfl rfl (k3.ldO (ms:=[I n.split.kd,I n.split.ix,B n.split.at_.1,x,y]) (o:=1) (fun j v hj=>by rcases j with _|_|_|_|_|_|_|_|_|j<;>simp_all) Tryz.underlying48 rfl (by kernel_rfl)) ?_)))
   refine bj (vs:=[]) (r:=.agg #[I 0,I 0,B false,.slice none 0 0,.slice none 0 0]) E E (by exact run_build _ _ _ _ (by kernel_rfl)) (an yA E E ((yC (a:=n.split) (b:=kI) (hx.ext x3) (hy.ext x3) (Sl.nil _ _) (Sl.nil _ _))) ?_)
   rintro v20 w20 ⟨x20,rfl⟩
   refine ac E E (ac E E (ag (ab (aw (aD (bn E E E ?_))))))
   exact⟨_,rfl,(x3.trans x20),by rw[Al hm h0,yD];rfl⟩
  ·have h0:n.kids.length≠0:=by omega
   refine aC (ab (af (af ?_)))
   have hl2:=hl.ext x3
   have hx2:=hx.ext x3
   have hy2:=hy.ext x3
   have hk2:=hk.ext x3
   have hp2:=hp.ext x3
   rcases hem:n.empty with _|_
   ·have kf:=k3
    rw[hem] at kf
    refine aa (ah E E (ap (o:=6) KF E (by kernel_rfl) E) (aj E E (ai KO E (kf.cell (i:=6) E)) ?_))
    refine aS E E (a9 KO hk2) (ak E E E (dF) (ae E E ?_))
    refine cq (fun h25=>?_) (fun h25=>?_)
    ·refine am E E E (am E E E (am E E E (am E E E (ar E E E (ae E E (am E E E (am E E E (am E E E (am E E E ?_)))))))))
     refine ar E E E (ae E E (am E E E (am E E E (ar E E E (ae E E (am E E E (am E E E (am E E E (am E E E ?_)))))))))
     refine ar E E E (ae E E (am E E E (am E E E (ar E E E (ag (ab (bg E (af (aa (ac E E (ac E E ?_)))))))))))
     refine ag (ab (aw (aD (bn E E E ?_))))
     exact⟨_,rfl,x3,by
      rw[iX hm h0 (by
       first
       |exact .inl (by omega)
       |exact .inr (.inr (by omega))
       |exact .inr (.inl (fV fun⟨a1,a2,a3,a4⟩=>by
         first
         |omega
         |(rw[hem] at a3;cases a3))))]<;>rfl⟩
    ·refine al E (ah E E (ap (o:=1) KF E (by kernel_rfl) E) (al E (ah E E (cx (b:=1) (o:=0) KH E (by kernel_rfl) E) ?_)))
     refine al E (aj E E (ai KI E (kf.cell (i:=1) E)) (al E (ak E E E (bb) (aI E E E (ae E E ?_)))))
     refine cq (fun h31=>?_) (fun h31=>?_)
     ·refine am E E E (am E E E (am E E E (am E E E (ar E E E (ae E E (am E E E (am E E E (ar E E E (ae E E ?_)))))))))
      refine am E E E (am E E E (am E E E (am E E E (ar E E E (ae E E (am E E E (am E E E (ar E E E (ag ?_)))))))))
      refine ab (bg E (af (aa (ac E E (ac E E (ag (ab (aw (aD (bn E E E ?_))))))))))
      exact⟨_,rfl,x3,by
       rw[iX hm h0 (by
        first
        |exact .inl (by omega)
        |exact .inr (.inr (by omega))
        |exact .inr (.inl (fV fun⟨a1,a2,a3,a4⟩=>by
          first
          |omega
          |(rw[hem] at a3;cases a3))))]<;>rfl⟩
     ·refine al E (ah E E (ap (o:=1) KF E (by kernel_rfl) E) (al E (ah E E (cx (b:=1) (o:=0) KH E (by kernel_rfl) E) ?_)))
      refine al E (aj E E (ai KI E (kf.cell (i:=1) E)) (al E (ak E E E (bV) (aI E E E (ae E E ?_)))))
      refine cq (fun h37=>?_) (fun h37=>?_)
      ·refine am E E E (am E E E (ar E E E (ae E E (am E E E (am E E E (am E E E (am E E E (ar E E E (ae E E ?_)))))))))
       refine am E E E (am E E E (ar E E E (ag (ab (bg E (af (aa (ac E E (ac E E (ag (ab (aw (aD (bn E E E ?_))))))))))))))
       exact⟨_,rfl,x3,by
        rw[iX hm h0 (by
         first
         |exact .inl (by omega)
         |exact .inr (.inr (by omega))
         |exact .inr (.inl (fV fun⟨a1,a2,a3,a4⟩=>by
           first
           |omega
           |(rw[hem] at a3;cases a3))))]<;>rfl⟩
      ·refine al E (ah E E (ap (o:=7) KF E (by kernel_rfl) E) (al E (aj E E (ai KQ E (kf.cell (i:=7) E)) ?_)))
       refine aI E E E (ae E E (al E (ah E E (ap (o:=8) KF E (by kernel_rfl) E) (al E (aj E E (ai KS E (kf.cell (i:=8) E)) ?_)))))
       refine al E (aS E E (a9 KS hp2) (al E (ak E E E (bV) (aI E E E (ae E E ?_)))))
       refine cq (fun h47=>?_) (fun h47=>?_)
       ·refine am E E E (am E E E (ar E E E (ag (ab (bg E (af (aa (ac E E (ac E E (ag (ab (aw (aD (bn E E E ?_))))))))))))))
        exact⟨_,rfl,x3,by
         rw[iX hm h0 (by
          first
          |exact .inl (by omega)
          |exact .inr (.inr (by omega))
          |exact .inr (.inl (fV fun⟨a1,a2,a3,a4⟩=>by
            first
            |omega
            |(rw[hem] at a3;cases a3))))]<;>rfl⟩
       ·refine al E (ae E E (al E (ak E E E (a6) (aI E E E (ag (ab ?_))))))
        refine bt E (fun h50=>?_) (fun h50=>?_)
        ·refine af (aa (ac E E (ac E E (ag (ab (aw (aD (bn E E E ?_))))))))
         exact⟨_,rfl,x3,by
          rw[iX hm h0 (by
           first
           |exact .inl (by omega)
           |exact .inr (.inr (by omega))
           |exact .inr (.inl (fV fun⟨a1,a2,a3,a4⟩=>by
             first
             |omega
             |(rw[hem] at a3;cases a3))))]<;>rfl⟩
        ·refine aC (ab (af ?_))
         have hk2n:n.kids.length=2:=by omega
         have hks:=uD hk2n
         have hi:=CJ (n:=n) (by omega) (by omega) hem (by omega)
         obtain⟨d',rfl⟩:∃d',d=d'+1:=⟨d-1,by omega⟩
         refine aa (ah E E (ap (o:=6) KF E (by kernel_rfl) E) (aj E E (ai KO E (kf.cell (i:=6) E)) ?_))
         obtain⟨a54,c54,p54,q54,h54⟩:=bR (P:=Tryz.prog) (sz:=9) KO (by kernel_rfl) cg (by omega) hk2 (i:=0) (by omega) .i64
         obtain⟨e54,he54⟩:∃e,e=n.kids[0]'(by omega):=⟨_,rfl⟩
         rw[←he54] at h54
         obtain⟨x54_0,x54_1,x54_2,x54_3,x54_4,rfl,f54_0,f54_1,f54_2,f54_3,f54_4⟩:=cW h54
         refine au E E E (p54 _) (aj E E (q54.ld KF E (by kernel_rfl)) (ae E E (ak (r:=I (d':Int)) E E E ((by have e:((d':Nat):Int)=((d'+1:Nat):Int)-1:=(by omega);rw[e];exact bB (by omega) (by omega))) ?_)))
         refine ae E E (ak (r:=I (m-1)) E E E (bB (by omega) (by omega)) (an kP E E ((ih d' E (by omega) (by omega) f54_0 f54_1 f54_2 f54_3 f54_4)) ?_))
         rintro v60 w60 ⟨x60,rfl⟩
         have hb1:=yG d' (m-1) e54
         refine ae E E (az E E (ce) (az E E (cf) (ac E E (ac E E (ag (ab (af (af ?_))))))))
         have hz:=yy d' (m-1) e54
         rcases hb:(kO d' (m-1) e54).2 with _|_
         ·refine aa (ae E E (bo E E bu (ag (ab (bg E (af (aa (ac E E (ac E E (ag (ab (aw (aD (bn E E E ?_))))))))))))))
          exact⟨_,rfl,(x3.trans x60),by rw[yF hm hks hi,←he54,if_pos hb]<;>rfl⟩
         ·refine aa (ae E E (bo E E bu (ag (ab (cy E (aC (ab (af (aa (ah E E (ap (o:=6) KF E (by kernel_rfl) E) ?_))))))))))
          refine aj E E (ai KO E (x60.cell_some (kf.cell (i:=6) E))) ?_
          obtain⟨a68,c68,p68,q68,h68⟩:=bR (P:=Tryz.prog) (sz:=9) KO (by kernel_rfl) cg (by omega) (hk2.ext x60) (i:=1) (by omega) .i64
          obtain⟨e68,he68⟩:∃e,e=n.kids[1]'(by omega):=⟨_,rfl⟩
          rw[←he68] at h68
          obtain⟨x68_0,x68_1,x68_2,x68_3,x68_4,rfl,f68_0,f68_1,f68_2,f68_3,f68_4⟩:=cW h68
          refine au E E E (p68 _) (aj E E (q68.ld KF E (by kernel_rfl)) (ae E E (ak (r:=I (d':Int)) E E E ((by have e:((d':Nat):Int)=((d'+1:Nat):Int)-1:=(by omega);rw[e];exact bB (by omega) (by omega))) ?_)))
          refine ae E E (ak (r:=I (m-1)) E E E (bB (by omega) (by omega)) (ae E E (ak (r:=I (m-1-(kO d' (m-1) e54).1)) E E E (bB (by omega) (by omega)) ?_)))
          refine an kP E E ((ih d' E (by omega) (by omega) f68_0 f68_1 f68_2 f68_3 f68_4)) ?_
          rintro v76 w76 ⟨x76,rfl⟩
          have hb2:=yG d' (m-1-(kO d' (m-1) e54).1) e68
          refine ae E E (az E E (ce) (az E E (cf) (ac E E (ac E E (ag (ab (af (aa (ae E E (ak (r:=I (1+(kO d' (m-1) e54).1)) E E E (aP (by omega) (by omega)) ?_))))))))))
          refine ae E E (ak (r:=I (1+(kO d' (m-1) e54).1+(kO d' (m-1-(kO d' (m-1) e54).1) e68).1)) E E E (aP (by omega) (by omega)) ?_)
          refine ae E E (ac E E (ac E E (ag (ab (aw (bn E E E ?_))))))
          exact⟨_,rfl,((x3.trans x60).trans x76),by rw[yF hm hks hi,←he54,←he68,if_neg (by rw[hb];simp)]⟩
   ·have kf:=k3
    rw[hem] at kf
    refine aa (ah E E (ap (o:=6) KF E (by kernel_rfl) E) (aj E E (ai KO E (kf.cell (i:=6) E)) ?_))
    refine aS E E (a9 KO hk2) (ak E E E (dF) (ae E E ?_))
    refine cq (fun h25=>?_) (fun h25=>?_)
    ·refine am E E E (am E E E (am E E E (am E E E (ar E E E (ae E E (am E E E (am E E E (am E E E (am E E E ?_)))))))))
     refine ar E E E (ae E E (am E E E (am E E E (ar E E E (ae E E (am E E E (am E E E (am E E E (am E E E ?_)))))))))
     refine ar E E E (ae E E (am E E E (am E E E (ar E E E (ag (ab (bg E (af (aa (ac E E (ac E E ?_)))))))))))
     refine ag (ab (aw (aD (bn E E E ?_))))
     exact⟨_,rfl,x3,by
      rw[iX hm h0 (by
       first
       |exact .inl (by omega)
       |exact .inr (.inr (by omega))
       |exact .inr (.inl (fV fun⟨a1,a2,a3,a4⟩=>by
         first
         |omega
         |(rw[hem] at a3;cases a3))))]<;>rfl⟩
    ·refine al E (ah E E (ap (o:=1) KF E (by kernel_rfl) E) (al E (ah E E (cx (b:=1) (o:=0) KH E (by kernel_rfl) E) ?_)))
     refine al E (aj E E (ai KI E (kf.cell (i:=1) E)) (al E (ak E E E (bb) (aI E E E (ae E E ?_)))))
     refine cq (fun h31=>?_) (fun h31=>?_)
     ·refine am E E E (am E E E (am E E E (am E E E (ar E E E (ae E E (am E E E (am E E E (ar E E E (ae E E ?_)))))))))
      refine am E E E (am E E E (am E E E (am E E E (ar E E E (ae E E (am E E E (am E E E (ar E E E (ag ?_)))))))))
      refine ab (bg E (af (aa (ac E E (ac E E (ag (ab (aw (aD (bn E E E ?_))))))))))
      exact⟨_,rfl,x3,by
       rw[iX hm h0 (by
        first
        |exact .inl (by omega)
        |exact .inr (.inr (by omega))
        |exact .inr (.inl (fV fun⟨a1,a2,a3,a4⟩=>by
          first
          |omega
          |(rw[hem] at a3;cases a3))))]<;>rfl⟩
     ·refine al E (ah E E (ap (o:=1) KF E (by kernel_rfl) E) (al E (ah E E (cx (b:=1) (o:=0) KH E (by kernel_rfl) E) ?_)))
      refine al E (aj E E (ai KI E (kf.cell (i:=1) E)) (al E (ak E E E (bV) (aI E E E (ae E E ?_)))))
      refine cq (fun h37=>?_) (fun h37=>?_)
      ·refine am E E E (am E E E (ar E E E (ae E E (am E E E (am E E E (am E E E (am E E E (ar E E E (ae E E ?_)))))))))
       refine am E E E (am E E E (ar E E E (ag (ab (bg E (af (aa (ac E E (ac E E (ag (ab (aw (aD (bn E E E ?_))))))))))))))
       exact⟨_,rfl,x3,by
        rw[iX hm h0 (by
         first
         |exact .inl (by omega)
         |exact .inr (.inr (by omega))
         |exact .inr (.inl (fV fun⟨a1,a2,a3,a4⟩=>by
           first
           |omega
           |(rw[hem] at a3;cases a3))))]<;>rfl⟩
      ·refine al E (ah E E (ap (o:=7) KF E (by kernel_rfl) E) (al E (aj E E (ai KQ E (kf.cell (i:=7) E)) ?_)))
       refine aI E E E (ae E E (am E E E (am E E E (am E E E (am E E E (ar E E E (ae E E (am E E E (am E E E ?_)))))))))
       refine ar E E E (ag (ab (bg E (af (aa (ac E E (ac E E (ag (ab (aw (aD (bn E E E ?_))))))))))))
       exact⟨_,rfl,x3,by
        rw[iX hm h0 (by
         first
         |exact .inl (by omega)
         |exact .inr (.inr (by omega))
         |exact .inr (.inl (fV fun⟨a1,a2,a3,a4⟩=>by
           first
           |omega
           |(rw[hem] at a3;cases a3))))]<;>rfl⟩
theorem uH:∀(d:Nat),d≤2048→∀{w:World} {n:aV} {m:Int} {vl x y vk vp:Value},0≤m→m≤65536→ct cP n.lems vl w→bi n.split.at_.2.1 x w→bi n.split.at_.2.2 y w→ct bm n.kids vk w→ct bI n.pf vp w→
 Calls Tryz.prog 111 #[.agg #[vl,I n.split.kd,I n.split.ix,B n.split.at_.1,x,y,vk,B n.empty,vp],I (d:Int),I m] w (bH fun r w'=>aJ w w'∧r=.tuple #[I (kO d m n).1,B (kO d m n).2])
 |0,hd,_,_,_,_,_,_,_,_,h0,h1,hl,hx,hy,hk,hp=>uG (fun _ e=>by cases e) hd h0 h1 hl hx hy hk hp
 |d+1,hd,_,_,_,_,_,_,_,_,h0,h1,hl,hx,hy,hk,hp=>uG (fun d' e _ _ _ _ _ _ _ _ a0 a1 b1 b2 b3 b4 b5=>by
   cases e
   exact uH d (by omega) a0 a1 b1 b2 b3 b4 b5) hd h0 h1 hl hx hy hk hp
theorem lI {w:World} {n:aV} {vl x y vk vp:Value} (hl:ct cP n.lems vl w) (hx:bi n.split.at_.2.1 x w) (hy:bi n.split.at_.2.2 y w) (hk:ct bm n.kids vk w) (hp:ct bI n.pf vp w):
 Calls Tryz.prog 66 #[.agg #[vl,I n.split.kd,I n.split.ix,B n.split.at_.1,x,y,vk,B n.empty,vp]] w (bH fun r w'=>aJ w w'∧r=B (mG n)):=by
 refine enter (vs:=[.agg #[vl,I n.split.kd,I n.split.ix,B n.split.at_.1,x,y,vk,B n.empty,vp]]) Tryz.func66 E E E ?_
 refine af (aa ?_)
 obtain⟨g1,w1,hr1,l1,x1,k1⟩:=ca (P:=Tryz.prog) (w:=w) (T:=52) (cs:=[vl,I n.split.kd,I n.split.ix,B n.split.at_.1,x,y,vk,B n.empty,vp])
 refine cm E E hr1 (ac E E (ag (ab (af (aa (aj E E (k1.ld KF E (by kernel_rfl)) (an kP E E ((uH 2048 (Nat.le_refl _) (m:=65536) (by omega) (by omega) (hl.ext x1) (hx.ext x1) (hy.ext x1) (hk.ext x1) (hp.ext x1))) ?_)))))))
 rintro v7 w7 ⟨x7,rfl⟩
 refine ae E E (az E E (ce) (az E E (cf) (ac E E (ac E E (ag (ab (af (aa (ae E E (ac E E ?_))))))))))
 refine ag (ab (aw (av E E ?_)))
 exact⟨_,rfl,(x1.trans x7),by rw[F1 n]⟩
end Go.Rl
namespace Go.Rl
open Go.RowKit
def fl (q:eW):Bool:=rv q.1 q.2.1 q.2.2
def lJ (l:List ci):Bool:=l.all fun m=>fl m.co
def ig (l:er):Bool:=fl l.va&&lJ l.pf
mutual
def iD:aV→Bool
 |.mk lems sp kids _ pf=>lJ pf&&fl sp.at_&&lems.all ig&&uI kids
def uI:List aV→Bool
 |[]=>true
 |n::l=>iD n&&uI l
end
theorem wZ:∀l:List aV,uI l=l.all iD
 |[]=>rfl
 |n::l=>by simp only[uI,List.all_cons,wZ l]
theorem CK (n:aV):iD n=(lJ n.pf&&fl n.split.at_&&n.lems.all ig&&n.kids.all iD):=by
 cases n with
 |mk l s k e p=>simp only[iD,wZ];rfl
def JP (m:ci):Prop:=ko m.kd∧ko m.ix∧ko m.lo∧ko m.hi
def wP (l:List ci):Prop:=∀m∈l,JP m
def F7 (l:er):Prop:=ko l.un∧wP l.pf
def wD (d:bz):Prop:=ko d.kd∧ko d.ix
mutual
def wN:aV→Prop
 |.mk lems sp kids _ pf=>(∀l∈lems,F7 l)∧wD sp∧wP pf∧Jh kids
def Jh:List aV→Prop
 |[]=>True
 |n::l=>wN n∧Jh l
end
theorem yH:∀l:List aV,Jh l↔∀n∈l,wN n
 |[]=>by simp[Jh]
 |n::l=>by simp only[Jh,yH l,List.mem_cons,forall_eq_or_imp]
theorem rR (n:aV):wN n↔(∀l∈n.lems,F7 l)∧wD n.split∧wP n.pf∧∀k∈n.kids,wN k:=by
 cases n with
 |mk l s k e p=>simp only[wN,yH];rfl
theorem lK (n:aV):dc n=if n.kids.length=0 then ux n.empty++dU n.lems++iC n.pf else[2]++dU n.lems++fm n.split++n.kids.flatMap dc:=by
 cases n with
 |mk l s k e p=>
  cases k with
  |nil=>simp[dc,aV.kids,aV.empty,aV.lems,aV.pf]
  |cons k ks=>simp[dc,aV.kids,aV.lems,aV.split,uA]
theorem mH {l t:List UInt8} {n:Int} (h:o0 l=some (n,t)):l=cY n++t∧ko n:=by
 refine⟨?_,CF (st:=some l) (t:=t) h⟩
 unfold o0 at h
 obtain⟨p,h1,h2⟩:=Option.map_eq_some_iff.1 h
 simp only[Prod.mk.injEq] at h2
 obtain⟨h3,h4⟩:=ga h1
 rw[←h2.1,←h2.2,cY,I2]
 exact h3
theorem tz {l t:List UInt8} {q:eW} (h:ny l=some (q,t)):l=fN q++t∧fl q=true:=by
 obtain⟨b,n,m⟩:=q
 have:=CE h
 exact⟨this.1,this.2.1⟩
section
variable {α:Type} {f:List UInt8→Option (α×List UInt8)} {e:α→List UInt8} {Q:α→Prop}
theorem uJ (hf:∀l a t,f l=some (a,t)→l=e a++t∧Q a):∀(n:Nat) (l:List UInt8) (xs:List α) (t:List UInt8),cH f n l=some (xs,t)→l=xs.flatMap e++t∧xs.length=n∧∀x∈xs,Q x
 |0,l,xs,t,h=>by
  simp only[cH,Option.some.injEq,Prod.mk.injEq] at h
  obtain⟨rfl,rfl⟩:=h
  exact⟨rfl,rfl,fun _ h=>by simp at h⟩
 |n+1,l,xs,t,h=>by
  simp only[cH] at h
  obtain⟨p,h1,h2⟩:=Option.bind_eq_some_iff.1 h
  obtain⟨q,h3,h4⟩:=Option.map_eq_some_iff.1 h2
  simp only[Prod.mk.injEq] at h4
  obtain⟨rfl,rfl⟩:=h4
  obtain⟨a1,a2⟩:=hf l p.1 p.2 h1
  obtain⟨b1,b2,b3⟩:=uJ hf n p.2 q.1 q.2 h3
  refine⟨?_,by simp[b2],fun x hx=>?_⟩
  ·rw[List.flatMap_cons,List.append_assoc,←b1];exact a1
  ·rcases List.mem_cons.1 hx with rfl|hx
   ·exact a2
   ·exact b3 x hx
theorem pS (hf:∀l a t,f l=some (a,t)→l=e a++t∧Q a) {l t:List UInt8} {xs:List α} (h:eA f l=some (xs,t)):l=uv xs.length++xs.flatMap e++t∧xs.length<18446744073709551616∧∀x∈xs,Q x:=by
 unfold eA at h
 obtain⟨p,h1,h2⟩:=Option.bind_eq_some_iff.1 h
 obtain⟨a1,a2⟩:=ga (l:=l) (n:=p.1) (t:=p.2) h1
 obtain⟨b1,b2,b3⟩:=uJ hf _ _ _ _ h2
 refine⟨?_,by omega,b3⟩
 rw[b2,List.append_assoc,←b1]
 exact a1
end
theorem CL {k n:Nat} {l t:List UInt8} (h:pa k l=some (n,t)):l=uv n++t∧n≤k:=by
 unfold pa at h
 obtain⟨p,h1,h2⟩:=Option.bind_eq_some_iff.1 h
 split at h2
 ·simp only[Option.some.injEq] at h2
  subst h2
  exact⟨(ga h1).1,by assumption⟩
 ·cases h2
theorem Am {n:Nat} (h:n≤1):uv n=ux (cc n):=by
 rw[iy (by omega)]
 rcases Nat.le_one_iff_eq_zero_or_eq_one.1 h with rfl|rfl<;>rfl
theorem CM {l t:List UInt8} {d:bz} (h:wW l=some (d,t)):l=fm d++t∧(fl d.at_=true∧wD d):=by
 unfold wW at h
 obtain⟨p1,h1,h⟩:=Option.bind_eq_some_iff.1 h
 obtain⟨p2,h2,h⟩:=Option.bind_eq_some_iff.1 h
 obtain⟨p3,h3,h⟩:=Option.bind_eq_some_iff.1 h
 simp only[Option.some.injEq,Prod.mk.injEq] at h
 obtain⟨rfl,rfl⟩:=h
 have a1:=mH (n:=p1.1) (t:=p1.2) h1
 have a2:=mH (n:=p2.1) (t:=p2.2) h2
 have a3:=tz (q:=p3.1) (t:=p3.2) h3
 refine⟨?_,a3.2,a1.2,a2.2⟩
 show l=cY p1.1++cY p2.1++fN p3.1++p3.2
 rw[List.append_assoc,List.append_assoc,←a3.1,←a2.1,←a1.1]
theorem F8 {l t:List UInt8} {d:ci} (h:uB l=some (d,t)):l=ew d++t∧(fl d.co=true∧JP d):=by
 unfold uB at h
 obtain⟨p1,h1,h⟩:=Option.bind_eq_some_iff.1 h
 obtain⟨p2,h2,h⟩:=Option.bind_eq_some_iff.1 h
 obtain⟨p3,h3,h⟩:=Option.bind_eq_some_iff.1 h
 obtain⟨p4,h4,h⟩:=Option.bind_eq_some_iff.1 h
 obtain⟨p5,h5,h⟩:=Option.bind_eq_some_iff.1 h
 simp only[Option.some.injEq,Prod.mk.injEq] at h
 obtain⟨rfl,rfl⟩:=h
 have a1:=mH (n:=p1.1) (t:=p1.2) h1
 have a2:=mH (n:=p2.1) (t:=p2.2) h2
 have a3:=mH (n:=p3.1) (t:=p3.2) h3
 have a4:=mH (n:=p4.1) (t:=p4.2) h4
 have a5:=tz (q:=p5.1) (t:=p5.2) h5
 refine⟨?_,a5.2,a1.2,a2.2,a3.2,a4.2⟩
 show l=cY p1.1++cY p2.1++cY p3.1++cY p4.1++fN p5.1++p5.2
 rw[List.append_assoc,List.append_assoc,List.append_assoc,List.append_assoc,←a5.1,←a4.1,←a3.1,←a2.1,←a1.1]
theorem CN {l t:List UInt8} {xs:List ci} (h:G7 l=some (xs,t)):l=iC xs++t∧xs.length<18446744073709551616∧lJ xs=true∧wP xs:=by
 obtain⟨h1,h2,h3⟩:=pS (fun l a t h=>F8 h) h
 exact⟨h1,h2,List.all_eq_true.2 fun m hm=>(h3 m hm).1,fun m hm=>(h3 m hm).2⟩
theorem F9 {l t:List UInt8} {m:er} (h:rH l=some (m,t)):l=dC m++t∧(ig m=true∧F7 m∧m.pf.length<18446744073709551616):=by
 unfold rH at h
 obtain⟨p1,h1,h⟩:=Option.bind_eq_some_iff.1 h
 obtain⟨p2,h2,h⟩:=Option.bind_eq_some_iff.1 h
 obtain⟨p3,h3,h⟩:=Option.bind_eq_some_iff.1 h
 obtain⟨p4,h4,h⟩:=Option.bind_eq_some_iff.1 h
 simp only[Option.some.injEq,Prod.mk.injEq] at h
 obtain⟨rfl,rfl⟩:=h
 have a1:=mH (n:=p1.1) (t:=p1.2) h1
 have a2:=CL (n:=p2.1) (t:=p2.2) h2
 have a3:=tz (q:=p3.1) (t:=p3.2) h3
 have a4:=CN (xs:=p4.1) (t:=p4.2) h4
 refine⟨?_,by simp only[ig,Bool.and_eq_true];exact⟨a3.2,a4.2.2.1⟩,⟨a1.2,a4.2.2.2⟩,a4.2.1⟩
 show l=cY p1.1++ux (cc p2.1)++fN p3.1++iC p4.1++p4.2
 rw[List.append_assoc,List.append_assoc,List.append_assoc,←a4.1,←a3.1,←Am a2.2,←a2.1,←a1.1]
theorem D8 {l t:List UInt8} {xs:List er} (h:sI l=some (xs,t)):l=dU xs++t∧xs.length<18446744073709551616∧xs.all ig=true∧(∀m∈xs,F7 m):=by
 obtain⟨h1,h2,h3⟩:=pS (fun l a t h=>F9 h) h
 exact⟨h1,h2,List.all_eq_true.2 fun m hm=>(h3 m hm).1,fun m hm=>(h3 m hm).2.1⟩
theorem uK:∀(k:Nat) (l t:List UInt8) (n:aV),pb k l=some (n,t)→l=dc n++t∧(iD n=true∧wN n∧(n.kids.length=0∨n.kids.length=2))
 |0,_,_,_,h=>by cases h
 |k+1,l,t,n,h=>by
  simp only[pb] at h
  obtain⟨p1,h1,h⟩:=Option.bind_eq_some_iff.1 h
  obtain⟨p2,h2,h⟩:=Option.bind_eq_some_iff.1 h
  have a1:=CL (n:=p1.1) (t:=p1.2) h1
  have a2:=D8 (xs:=p2.1) (t:=p2.2) h2
  split at h
  ·rename_i hk
   obtain⟨p3,h3,h⟩:=Option.bind_eq_some_iff.1 h
   simp only[Option.some.injEq,Prod.mk.injEq] at h
   obtain⟨rfl,rfl⟩:=h
   have a3:=CN (xs:=p3.1) (t:=p3.2) h3
   refine⟨?_,?_,?_,.inl rfl⟩
   ·simp only[dc]
    rw[List.append_assoc,List.append_assoc,←a3.1,←a2.1,show decide (p1.1=1)=cc p1.1 from rfl,←Am (by omega),←a1.1]
   ·simp only[iD,uI,a3.2.2.1,a2.2.2.1,kI,Jb]
    decide
   ·simp only[wN,Jh,and_true]
    exact⟨a2.2.2.2,⟨by show ko 0;unfold ko;omega,by show ko 0;unfold ko;omega⟩,a3.2.2.2⟩
  ·rename_i hk
   obtain⟨p3,h3,h⟩:=Option.bind_eq_some_iff.1 h
   obtain⟨p4,h4,h⟩:=Option.bind_eq_some_iff.1 h
   obtain⟨p5,h5,h⟩:=Option.bind_eq_some_iff.1 h
   simp only[Option.some.injEq,Prod.mk.injEq] at h
   obtain⟨rfl,rfl⟩:=h
   have a3:=CM (d:=p3.1) (t:=p3.2) h3
   have a4:=uK k _ p4.2 p4.1 h4
   have a5:=uK k _ p5.2 p5.1 h5
   have h2:p1.1=2:=by omega
   refine⟨?_,?_,?_,.inr rfl⟩
   ·have u2:uv 2=[2]:=iy (by omega)
    rw[h2,u2] at a1
    simp only[dc,uy,List.append_assoc,List.nil_append]
    rw[←a5.1,←a4.1,←a3.1,←a2.1,←a1.1]
   ·simp only[iD,uI,a2.2.2.1,a3.2.1,a4.2.1,a5.2.1]
    decide
   ·simp only[wN,Jh,and_true]
    exact⟨a2.2.2.2,a3.2.2,fun _ h=>by simp at h,a4.2.2.1,a5.2.2.1⟩
theorem Ga {l t:List UInt8} {n:aV} (h:Ag l=some (n,t)):l=dc n++t∧(iD n=true∧wN n∧(n.kids.length=0∨n.kids.length=2)):=uK l.length l t n h
theorem jc (q:eW):4*(q.2.1.length+q.2.2.length)≤(fN q).length:=by
 have h:∀n:List UInt32,4*n.length≤(jT n).length:=fun n=>by simp only[jT,List.length_append,fB];omega
 have h1:=h q.2.1
 have h2:=h q.2.2
 simp only[fN,nA,List.length_append,List.length_cons,List.length_nil]
 omega
end Go.Rl
namespace Go.Rl
def lcp:List UInt8→List UInt8→Nat
 |a::l,b::m=>if a=b then lcp l m+1 else 0
 |_,_=>0
def ml (d:List UInt8) (i k:Nat):Nat:=lcp (d.drop i) (d.drop (i-k))
def bst (d:List UInt8) (i:Nat):Nat→Nat×Nat
 |0=>(0,0)
 |j+1=>if 4≤ml d i (j+1)∧(bst d i j).1<ml d i (j+1) then(ml d i (j+1),j+1) else bst d i j
def Hv (d:List UInt8) (i:Nat):Nat×Nat:=bst d i (min i 4096)
def pk (d:List UInt8) (i run:Nat):List UInt8:=
 if _h:i<d.length then
  if hn:(Hv d i).1=0 then pk d (i+1) (run+1)
  else uv run++(d.drop (i-run)).take run++uv ((Hv d i).1-4)++uv ((Hv d i).2-1)++pk d (i+(Hv d i).1) 0
 else if 0<run then uv run++d.drop (d.length-run) else[]
termination_by d.length-i
decreasing_by all_goals omega
def yI (d:List UInt8):List UInt8:=uv d.length++pk d 0 0
def cpy (k:Nat):Nat→List UInt8→List UInt8
 |0,out=>out
 |m+1,out=>cpy k m (out++[out.getD (out.length-k) 0])
def unp (total:Nat):Nat→List UInt8→List UInt8→Option (List UInt8)
 |0,_,_=>none
 |f+1,rest,out=>
  if out.length<total then
   (gp rest).bind fun p=>
     if total-out.length<p.1∨p.2.length<p.1 then none
     else if total-out.length=p.1 then(if p.2.drop p.1=[] then some (out++p.2.take p.1) else none)
     else(gp (p.2.drop p.1)).bind fun q=>
      if total-out.length-p.1<4∨total-out.length-p.1-4<q.1 then none
      else(gp q.2).bind fun r=>
       if 4096≤r.1∨(out++p.2.take p.1).length≤r.1 then none
       else unp total f r.2 (cpy (r.1+1) (q.1+4) (out++p.2.take p.1))
  else if rest=[] then some out else none
end Go.Rl
namespace Go.Rl
def unr (total:Nat):Nat→List UInt8→List UInt8→Option (List UInt8×List UInt8)
 |0,_,_=>none
 |f+1,rest,out=>
  if out.length<total then
   (ug rest).bind fun p=>
     if (out++p.1).length<total then
      (gp p.2).bind fun q=>(gp q.2).bind fun r=>
        if total≤q.1∨(out++p.1).length≤r.1 then none
        else unr total f r.2 (cpy (r.1+1) (min (q.1+4) (total-(out++p.1).length)) (out++p.1))
     else some (out++p.1,p.2)
  else some (out,rest)
def vp (l t:List UInt8) (total:Nat):Option (List UInt8):=(unp total (total+1) t []).bind fun out=>if yI out=l then some out else none
def vr (l t:List UInt8) (total:Nat):Option (List UInt8):=(unr total (total+1) t []).bind fun p=>if p.2=[]∧yI p.1=l then some p.1 else none
end Go.Rl
namespace Go.Rl
def pos (d q:List UInt8) (n:Nat):List Nat:=(List.range n).filter fun p=>(d.drop p).take 4==q
theorem Gb (d q:List UInt8):pos d q 0=[]:=rfl
end Go.Rl
namespace Go.Rl
open Go.RowKit Go.Proofs
open Go.Maps (Keyed)
def K4 (q:List UInt8):Value:=.agg (q.map U8).toArray
def Kk (d q:List UInt8) (n:Nat):List Int:=(pos d q n).map Int.ofNat
structure Kl (base:Nat) (d:List UInt8) (n clock:Nat) (X:Nat→Prop) (w:World) (e:MapEntry) (q:List UInt8):Prop where
 len:q.length=4
 key:e.key=K4 q
 row:j5 base (Kk d q n) e.val w
 born:e.born<clock
 own:∀k,e.val.ownBlock=some k→X k
structure nV (base:Nat) (d:List UInt8) (m n:Nat) (X:Nat→Prop) (w:World) (es:List MapEntry) (clock:Nat):Prop where
 at_:w.heap[m]? =some (.map es.toArray clock)
 ent:∀e∈es,∃q,Kl base d n clock X w e q
 apart:∀(i j:Nat) (e f:MapEntry),es[i]? =some e→es[j]? =some f→i≠j→e.key≠f.key∧e.born≠f.born∧(e.val.ownBlock=none∨e.val.ownBlock≠f.val.ownBlock)
 full:∀q,pos d q n≠[]→∃e∈es,e.key=K4 q
def nW (base:Nat) (d:List UInt8) (m n:Nat) (X:Nat→Prop) (w:World):Prop:=∃es clock,nV base d m n X w es clock
section
variable {base:Nat} {d:List UInt8} {m n clock:Nat} {X:Nat→Prop} {w w':World} {es:List MapEntry}
theorem nV.lt (h:nV base d m n X w es clock):m<w.heap.size:=(Array.getElem?_eq_some_iff.1 h.at_).1
theorem j5.cells {l:List Int} {v:Value} (h:j5 base l v w) {k:Nat} (hk:v.ownBlock=some k):∃cs f,w.heap[k]? =some (.cells cs 3 f):=by
 obtain⟨n,h1,h2⟩:=h
 rcases h2 with⟨rfl,_⟩|⟨g,cap,cur,rfl,h3,h4,h5⟩
 ·cases hk
 ·obtain rfl:g=k:=Option.some.inj hk
  exact⟨_,_,h4⟩
theorem nV.ne (h:nV base d m n X w es clock) {e:MapEntry} (he:e∈es):e.val.ownBlock≠some m:=fun hk=>by
 obtain⟨q,hq⟩:=h.ent e he
 obtain⟨cs,f,hc⟩:=hq.row.cells hk
 rw[h.at_] at hc
 cases hc
theorem nV.same (h:nV base d m n X w es clock) (hm:w'.heap[m]? =w.heap[m]?) (hX:∀k,X k→k<w.heap.size→w'.heap[k]? =w.heap[k]?):nV base d m n X w' es clock:=
 ⟨hm.trans h.at_,fun e he=>by
  obtain⟨q,hq⟩:=h.ent e he
  exact⟨q,hq.len,hq.key,hq.row.same fun k hk=>hX k (hq.own k hk) (hq.row.lt k hk).2,hq.born,hq.own⟩,h.apart,h.full⟩
theorem nW.same (h:nW base d m n X w) (hm:w'.heap[m]? =w.heap[m]?) (hX:∀k,X k→k<w.heap.size→w'.heap[k]? =w.heap[k]?):nW base d m n X w':=by
 obtain⟨es,clock,h⟩:=h
 exact⟨es,clock,h.same hm hX⟩
theorem nW.lt (h:nW base d m n X w):m<w.heap.size:=by
 obtain⟨es,clock,h⟩:=h
 exact h.lt
theorem nW.ext (h:nW base d m n X w) (hx:aJ w w'):nW base d m n X w':=h.same (hx.heap h.lt) fun _ _ hk=>hx.heap hk
theorem nV.add (h:nV base d m n X w es clock) {q:List UInt8} (hq:q.length=4) (hno:∀e∈es,e.key≠K4 q) (hg:w.grownBy w' (some m)) (h':w'.heap[m]? =some (.map (es++[({key:=K4 q,val:=.slice none 0 0,born:=clock}:MapEntry)]).toArray (clock+1))):
 nV base d m n X w' (es++[({key:=K4 q,val:=.slice none 0 0,born:=clock}:MapEntry)]) (clock+1):=by
 have hp:pos d q n=[]:=Classical.byContradiction fun hn=>by
  obtain⟨e,he,hk⟩:=h.full q hn
  exact hno e he hk
 have hget:∀(i:Nat) (e:MapEntry),(es++[({key:=K4 q,val:=.slice none 0 0,born:=clock}:MapEntry)])[i]? =some e→es[i]? =some e∨(i=es.length∧e={key:=K4 q,val:=.slice none 0 0,born:=clock}):=fun i e hi=>by
  rcases Nat.lt_or_ge i es.length with hl|hl
  ·rw[List.getElem?_append_left hl] at hi;exact .inl hi
  ·rw[List.getElem?_append_right hl] at hi
   rcases Nat.eq_zero_or_pos (i-es.length) with h0|h0
   ·rw[h0] at hi
    exact .inr ⟨by omega,(Option.some.inj hi).symm⟩
   ·rw[List.getElem?_eq_none (by simp;omega)] at hi;cases hi
 refine⟨h',fun e he=>?_,fun i j e f hi hj hij=>?_,fun r hr=>?_⟩
 ·rcases List.mem_append.1 he with he|he
  ·obtain⟨r,hr⟩:=h.ent e he
   exact⟨r,hr.len,hr.key,hr.row.kept hg (.inr (h.ne he)),Nat.lt_succ_of_lt hr.born,hr.own⟩
  ·obtain rfl:=List.mem_singleton.1 he
   exact⟨q,hq,rfl,by unfold Kk;rw[hp];exact j5.nil _ _,Nat.lt_succ_self _,fun k hk=>by cases hk⟩
 ·rcases hget i e hi with hi|⟨rfl,rfl⟩<;>rcases hget j f hj with hj|⟨rfl,rfl⟩
  ·exact h.apart i j e f hi hj hij
  ·have hm:=List.mem_of_getElem? hi
   obtain⟨r,hr⟩:=h.ent e hm
   have:=hr.born
   refine⟨hno e hm,by simp only[];omega,?_⟩
   cases hb:e.val.ownBlock with
   |none=>exact .inl rfl
   |some k=>exact .inr (by simp[Value.ownBlock])
  ·have hm:=List.mem_of_getElem? hj
   obtain⟨r,hr⟩:=h.ent f hm
   have:=hr.born
   exact⟨(hno f hm).symm,by simp only[];omega,.inl rfl⟩
  ·exact absurd rfl hij
 ·obtain⟨e,he,hk⟩:=h.full r hr
  exact⟨e,List.mem_append_left _ he,hk⟩
end
end Go.Rl
namespace Go.Rl
open Go.RowKit Go.Proofs
end Go.Rl
namespace Go.Rl
open Go.RowKit Go.Proofs
theorem n64 {n:Nat} (h:n<18446744073709551616):(UInt64.ofNat n).toNat=n:=by rw[UInt64.toNat_ofNat'];omega
end Go.Rl
namespace Go.Rl
open Go.RowKit Go.Proofs
theorem An:aH Tryz.prog 43:=⟨_,Tryz.func43,by kernel_rfl,rfl⟩
theorem Ao {w:World} {l m:List UInt8} {v u:Value} (hv:cE l v w) (hu:cE m u w):
 Calls Tryz.prog 43 #[v,u] w (bH fun r w'=>aJ w w'∧r=B (decide (l=m))):=by
 refine enter (vs:=[v,u]) Tryz.func43 E E E ?_
 have hll:=hv.len
 refine af (aa (ac E E (ag (ab (af (af (aa (ae E E (aS E E (ey hv) (ae E E (aS E E (ey hu) (ak E E E (dF) ?_))))))))))))
 refine ag (ab ?_)
 refine bt E (fun h10=>?_) (fun h10=>?_)
 ·have hne:l≠m:=fun h=>h10 (by rw[h])
  refine af (aa (ac E E (ag (ab (aw (aD (av E E ?_)))))))
  exact⟨_,rfl,aJ.refl _,congrArg B (decide_eq_false hne).symm⟩
 ·have hlen:l.length=m.length:=by omega
  refine aC (ab (af (af (aa (ae E E (aS E E (ey hv) (ae E E (ag (ab (aE ?_))))))))))
  refine bZ (α:=Nat) (fun x=>[(0,v),(1,u),(12,I (l.length:Int)),(13,I (x:Int))]) (fun x w'=>aJ w w'∧x≤l.length∧l.take x=m.take x) (fun x=>l.length-x) (0) ⟨rfl,rfl,rfl,rfl,trivial⟩ ⟨aJ.refl _,by omega,rfl⟩ ?_
  rintro i w4 ⟨e4,hi,ht⟩
  refine af (aa (ak E E E (bb) (ag (ab (af ?_)))))
  refine bt E (fun h14=>?_) (fun h14=>?_)
  ·refine aC (ab (af (aE (af (aa (ae E E (ac E E (ag (ab (af (bD 8 [0,1,12,13,19,23] (by kernel_rfl) (by kernel_rfl) ?_)))))))))))
   refine ay E E (ay E E ?_)
   obtain⟨a18,p18,q18⟩:=ki (hv.ext e4) (i:=i) (by omega) .i64
   refine aA E E E (fun w _=>p18 w) (aN E E (fun w hw=>ai KR E (hw.cell_some q18)) (ay E E (ay E E ?_)))
   obtain⟨a22,p22,q22⟩:=ki (hu.ext e4) (i:=i) (by omega) .i64
   refine aA E E E (fun w _=>p22 w) (aN E E (fun w hw=>ai KR E (hw.cell_some q22)) (cb ?_))
   intro wg6 xg6
   rintro _ hq0
   obtain rfl:=Eq.symm hq0
   rintro _ hq1
   obtain rfl:=Eq.symm hq1
   rintro _ rfl
   rintro _ rfl
   rintro _ rfl
   rintro _ rfl
   refine ak E E E (ER) (ag (ab ?_))
   refine bt E (fun h24=>?_) (fun h24=>?_)
   ·have hne:l≠m:=fun h=>h24 (by subst h;rfl)
    refine af (aa (ac E E (ag (ab (aw (aY (aD (aD (aY (aD (av E E ?_)))))))))))
    exact⟨_,rfl,(e4.trans xg6),congrArg B (decide_eq_false hne).symm⟩
   ·have he:l[i]'(by omega)=m[i]'(by omega):=Classical.byContradiction fun h=>h24 h
    refine aC (aR (ab (aa (ak (r:=I ((i+1:Nat):Int)) E E E (by have e:((i+1:Nat):Int)=(i:Int)+1:=(by omega);rw[e];exact aP (by omega) (by omega)) ?_))))
    refine ae E E (ag ?_)
    refine bJ (i+1) ⟨rfl,rfl,rfl,rfl,trivial⟩ ⟨(e4.trans xg6),by omega,by rw[List.take_succ_eq_append_getElem (by omega),List.take_succ_eq_append_getElem (by omega),ht,he]⟩ (by omega)
  ·refine be (aK (aK (bf (ab (af (aa (ac E E (ag (ab (aw (av E E ?_)))))))))))
   exact⟨_,rfl,e4,by
    rw[List.take_of_length_le (by omega),List.take_of_length_le (by omega)] at ht
    rw[decide_eq_true ht];rfl⟩
end Go.Rl
namespace Go.Rl
open Go.RowKit Go.Proofs
section
variable {w:World} {g:Nat} {st:Option (List UInt8)}
theorem Gc (hr:cw g st w):Calls Tryz.prog 90 #[.pointer (some ⟨g,0,none⟩)] w (bH fun r w'=>w=w'∧r=I ((st.getD []).length:Nat)):=(DR hr).mono fun _ _ ⟨v,h,h1,h2⟩=>⟨v,h,h2.symm,h1⟩
end
end Go.Rl
namespace Go.Rl
open Go.RowKit Go.Proofs
theorem yJ {l t':List UInt8} {n:Nat} (h:gp (l.take 10)=some (n,t')):gp l=some (n,l.drop (uv n).length)∧(uv n).length+t'.length=min l.length 10:=by
 obtain⟨h1,h2⟩:=ga h
 have hlen:(uv n).length+t'.length=min l.length 10:=by
  have:=congrArg List.length h1
  rw[List.length_take,List.length_append] at this
  omega
 have e:l=uv n++(t'++l.drop 10):=by
  rw[←List.append_assoc,←h1,List.take_append_drop]
 refine⟨?_,hlen⟩
 have hd:l.drop (uv n).length=t'++l.drop 10:=by
  conv=>lhs;rw[e]
  rw[List.drop_left' rfl]
 rw[hd]
 conv=>lhs;rw[e]
 exact px h2 _
theorem yL {l:List UInt8} (h:gp (l.take 10)=none):gp l=none:=by
 cases hr:gp l with
 |none=>rfl
 |some p=>
  obtain⟨n,t⟩:=p
  obtain⟨h1,h2⟩:=ga hr
  have hl:=fQ (n:=n) h2
  have e:l.take 10=uv n++t.take (10-(uv n).length):=by
   rw[h1,List.take_append]
   congr 1
   exact List.take_of_length_le (by omega)
  rw[e,px h2] at h
  cases h
theorem Hw {P:Program} {w:World} {ts:Array TypeId} {ty:TypeId} {n:Nat}:(Builtin.min_ ts ty #[I (n:Int),I 10]).run P w=.ok (I ((min n 10:Nat):Int)) w:=by
 have e:((min n 10:Nat):Int)=if (10:Int)<(n:Int) then 10 else(n:Int):=by split<;>omega
 rw[e];rfl
theorem Gd {P:Program} {w:World} {t:TypeId} {x y:Operand} {a b c:Nat} (h:c+b=a) (ha:a≤1099511627776):(bin .sub t x y (I (a:Int)) (I (b:Int))).run P w=.ok (I (c:Int)) w:=by
 have e:(c:Int)=(a:Int)-(b:Int):=by omega
 rw[e]
 exact bB (by omega) (by omega)
end Go.Rl
namespace Go.Rl
open Go.RowKit Go.Proofs
end Go.Rl
namespace Go.Rl
open Go.RowKit Go.Proofs
def Ge (g:Nat) (st:Option (List UInt8)) (b w:World):Prop:=∃A n c,bA g 167 [.slice A n c,B st.isNone] w∧cE (st.getD []) (.slice A n c) b∧py A g
section
variable {g:Nat} {st:Option (List UInt8)} {b w w':World}
theorem Ge.ext (h:Ge g st b w) (hx:aJ w w'):Ge g st b w':=by
 obtain⟨A,n,c,h1,h2,h3⟩:=h
 exact⟨A,n,c,h1.ext hx,h2,h3⟩
theorem Ge.at_ (h:Ge g st b w) (k:Kp b w):DZ g st w:=by
 obtain⟨A,n,c,h1,h2,h3⟩:=h
 exact⟨A,n,c,h1,h2.kp k,h3⟩
theorem Ge.other {row:Option Nat} (h:Ge g st b w) (hw:w.grownBy w' row) (hne:row≠some g):Ge g st b w':=by
 obtain⟨A,n,c,h1,h2,h3⟩:=h
 exact⟨A,n,c,h1.other hw (Ne.symm hne),h2,h3⟩
theorem Ge.set {l l':List UInt8} {v:Value} (h:Ge g (some l) b w) (hv:cE l' v b) (hloc:∀A n c,v=.slice A n c→py A g):
 ∃w',(Instr.storeAt 22 (.pointer (some ⟨g,0,none⟩)) v).run Tryz.prog w=.ok () w'∧w.grownBy w' (some g)∧Ge g (some l') b w':=by
 obtain⟨A,n,c,h1,h2,_⟩:=h
 obtain⟨A',n',c',rfl,h3⟩:=id hv
 exact⟨_,ej (i:=0) dz rfl h1 (by simp),bh w g 0 _,A',n',c',h1.set 0 _,hv,hloc _ _ _ rfl⟩
end
end Go.Rl
namespace Go.Rl
open Go.RowKit Go.Proofs
theorem Ji {l t:List UInt8} {n:Nat} (h:gp l=some (n,t)):t.length≤l.length:=by
 obtain⟨h1,_⟩:=ga h
 rw[h1,List.length_append];omega
theorem Jj {l a t:List UInt8} (h:ug l=some (a,t)):a.length+t.length≤l.length:=by
 unfold ug at h
 cases hU:gp l with
 |none=>rw[hU] at h;cases h
 |some p=>
  obtain⟨n,u⟩:=p
  rw[hU] at h
  have h:(if n≤u.length then some (u.take n,u.drop n) else none)=some (a,t):=h
  have:=Ji hU
  split at h
  ·simp only[Option.some.injEq,Prod.mk.injEq] at h
   rw[←h.1,←h.2,List.length_take,List.length_drop]
   omega
  ·cases h
end Go.Rl
namespace Go.Rl
open Go.RowKit Go.Proofs
def yM (Kb:Nat→Prop) (W W':World):Prop:=W.heap.size≤W'.heap.size∧∀k,Kb k→W'.heap[k]? =W.heap[k]?
theorem yM.trans {Kb:Nat→Prop} {a b c:World} (h:yM Kb a b) (k:yM Kb b c):yM Kb a c:=⟨Nat.le_trans h.1 k.1,fun n hn=>(k.2 n hn).trans (h.2 n hn)⟩
theorem yM.refl (Kb:Nat→Prop) (a:World):yM Kb a a:=⟨Nat.le_refl _,fun _ _=>rfl⟩
theorem yM.of_ext {Kb:Nat→Prop} {a b:World} (h:aJ a b) (hk:∀k,Kb k→k<a.heap.size):yM Kb a b:=⟨h.size,fun k hn=>h.heap (hk k hn)⟩
end Go.Rl
namespace Go.Rl
open Go.RowKit Go.Proofs
def Km (b:Nat) (T:TypeId) (l:List Value):du:=fun v w=>∃g,v=.pointer (some ⟨g,0,none⟩)∧b≤g∧bA g T l w
theorem Km.stable (b:Nat) (T:TypeId) (l:List Value):bG (Km b T l):=fun _ _ _ ⟨g,h1,h2,h3⟩ hx=>⟨g,h1,h2,h3.ext hx⟩
structure Fnd (wb:World) (d:List UInt8) (g m nx:Nat) (Y:Nat→Prop) (w:World):Prop where
 ext:aJ wb w
 low:∀k,(k=g∨k=m∨Y k)→wb.heap.size≤k∧k<w.heap.size
 ng:¬Y g
 nm:¬Y m
 gm:g≠m
 blk:∃A n c,bA g 235 [.slice A n c,.map (some m),I (nx:Int)] w∧cE d (.slice A n c) wb
 map:nW wb.heap.size d m nx Y w
def Foot (g m:Nat) (Y:Nat→Prop):Nat→Prop:=fun k=>k=g∨k=m∨Y k
section
variable {wb w w':World} {d:List UInt8} {g m nx:Nat} {Y:Nat→Prop}
theorem Fnd.mv {X:Nat→Prop} (h:Fnd wb d g m nx Y w) (hx:Mv X w w') (hX:∀k,Foot g m Y k→¬X k) (hb:∀k,X k→wb.heap.size≤k):Fnd wb d g m nx Y w':=
 ⟨hx.ext_from h.ext hb,fun k hk=>⟨(h.low k hk).1,Nat.lt_of_lt_of_le (h.low k hk).2 hx.size⟩,h.ng,h.nm,h.gm,by
  obtain⟨A,n,c,h1,h2⟩:=h.blk
  exact⟨A,n,c,hx.blk h1 (hX g (.inl rfl)),h2⟩,h.map.same (hx.keep m h.map.lt (hX m (.inr (.inl rfl)))) fun k hk hl=>hx.keep k hl (hX k (.inr (.inr hk)))⟩
end
structure Rnd (wl:World) (g7 g8:Nat) (s:Nat×Nat) (W:World):Prop where
 c7:bA g7 3 [I (s.1:Int)] W
 c8:bA g8 3 [I (s.2:Int)] W
 mv:Mv (fun k=>k=g7∨k=g8) wl W
section
variable {wl W W':World} {g7 g8:Nat} {s:Nat×Nat}
theorem Rnd.own (h:Rnd wl g7 g8 s W) (h7:g7<wl.heap.size) (h8:g8<wl.heap.size) {row:Option Nat} (hg:W.grownBy W' row) (hr:∀r,row=some r→wl.heap.size≤r):Rnd wl g7 g8 s W':=
 ⟨h.c7.other hg (fun e=>by have:=hr g7 e.symm;omega),h.c8.other hg (fun e=>by have:=hr g8 e.symm;omega),h.mv.trans (Mv.of_grown (X:=fun k=>wl.heap.size≤k) hg (fun k hk _=>hr k hk)) (fun n hn hl=>by omega)⟩
end
theorem Rnd.keep {wl W W':World} {g7 g8:Nat} (h:Mv (fun k=>k=g7∨k=g8) W W') (hl:wl.heap.size≤W.heap.size):yM (fun k=>k<wl.heap.size∧k≠g7∧k≠g8) W W':=
 ⟨h.size,fun k hk=>h.keep k (Nat.lt_of_lt_of_le hk.1 hl) (fun e=>e.elim hk.2.1 hk.2.2)⟩
end Go.Rl
namespace Go.Rl
open Go.RowKit Go.Proofs
theorem cF.cells {base:Nat} {l:List UInt8} {v:Value} {w:World} (h:cF base l v w) {k:Nat} (hk:v.ownBlock=some k):∃cs f,w.heap[k]? =some (.cells cs 5 f):=by
 obtain⟨n,h1,h2⟩:=h
 rcases h2 with⟨rfl,_⟩|⟨g,cap,cur,rfl,h3,h4,h5⟩
 ·cases hk
 ·obtain rfl:g=k:=Option.some.inj hk
  exact⟨_,_,h4⟩
theorem nW.new {base:Nat} {d:List UInt8} {w:World} {m:Nat} (h:w.heap[m]? =some (.map #[] 0)):nW base d m 0 (fun _=>False) w:=
 ⟨[],0,h,fun e he=>by simp at he,fun i j e f hi=>by simp at hi,fun q hq=>absurd (Gb d q) hq⟩
end Go.Rl
namespace Go.Rl
open Go.RowKit Go.Proofs
end Go.Rl
namespace Go.Rl
end Go.Rl
namespace Go.Rl
open Go.RowKit Go.Proofs
end Go.Rl
namespace Go.Rl
open Go.RowKit Go.Proofs
section
variable {l:List UInt8} {max:Int} {f:List UInt8→Nat→Option (List UInt8)} {r:Value} {w:World}
def Jk (l:List UInt8) (max:Int) (f:List UInt8→Nat→Option (List UInt8)):List UInt8×Int:=
 if max<0 then([],8) else match gp l with
  |none=>([],5)
  |some (n,t)=>if max<(n:Int) then([],8) else match f t n with
   |some out=>(out,0)
   |none=>([],5)
end
end Go.Rl
namespace Go.Rl
open Go.RowKit Go.Proofs
theorem uL:(Tryz.prog.info? 200).map (·.zero)=some (some (.agg (List.replicate 64 (bC 0)).toArray)):=by kernel_rfl
theorem uM:(Tryz.prog.info? 200).map (·.size)=some 64:=by kernel_rfl
theorem eU:aH Tryz.prog 122:=⟨_,Tryz.func122,by kernel_rfl,rfl⟩
theorem uN:aH Tryz.prog 123:=⟨_,Tryz.func123,by kernel_rfl,rfl⟩
theorem eV {w:World} {x:UInt32} (n:Nat) (h0:0<n) (h1:n<32):
 Calls Tryz.prog 122 #[bC x,I (n:Int)] w (bH fun r w'=>aJ w w'∧r=bC (iG x n)):=by
 refine enter (vs:=[bC x,I (n:Int)]) Tryz.func122 E E E ?_
 refine af (aa (ac E E (ag (ab (af ?_)))))
 have e:(32:Int)-(n:Int)=((32-n:Nat):Int):=by omega
 refine bD 8 [12] (by kernel_rfl) (by kernel_rfl) ?_
 refine ay E E (ay E E ?_)
 refine ba E E E (fun w _=>cI n h1) ?_
 refine ay E E (ay E E ?_)
 refine ba (r:=I ((32-n:Nat):Int)) E E E (fun w _=>by rw[←e];exact bB (by omega) (by omega)) ?_
 refine ba E E E (fun w _=>eE (32-n) (by omega)) ?_
 refine ba E E E (fun w _=>ff) ?_
 refine cb ?_
 intro w' hw
 rintro _ rfl
 refine ac E E (ag (ab (aw ?_)))
 refine av E E ?_
 exact⟨_,rfl,hw,rfl⟩
theorem uO (w:World):
 Calls Tryz.prog 123 #[] w (bH fun r w'=>aJ w w'∧r=.agg (kc.map bC).toArray):=by
 refine enter (vs:=[]) Tryz.func123 E E E ?_
 refine af (aa (aX E (yc uL) (ag (ab (af (aa ?_))))))
 refine bj E E (run_build _ _ _ (kc.map bC).toArray (by kernel_rfl)) ?_
 have hb:=bA.new (w:=w) (T:=200) (.agg (List.replicate 64 (bC 0)).toArray) rfl
 refine ax E E (js hb E uM (jU _)) ?_
 refine ag (ab (aw ?_))
 refine cZ E E (hb.row _) Li E uM ?_
 refine⟨_,rfl,?_,rfl⟩
 exact(aJ.new w _).of_grown (bF _ _ _) fun k hk=>by
  obtain rfl:=Option.some.inj hk
  exact Nat.le_refl _
theorem d5:aH Tryz.prog 121:=⟨_,Tryz.func121,by kernel_rfl,rfl⟩
theorem tf:aH Tryz.prog 120:=⟨_,Tryz.func120,by kernel_rfl,rfl⟩
theorem d6 {w:World} {x:UInt32} (n:Nat) (h0:0<n) (h1:n<32):
 Calls Tryz.prog 121 #[bC x,I (n:Int)] w (bH fun r w'=>aJ w w'∧r=bC (iG x n)):=by
 refine enter (vs:=[bC x,I (n:Int)]) Tryz.func121 E E E ?_
 refine af (aa (ac E E (ag (ab (af ?_)))))
 have e:(32:Int)-(n:Int)=((32-n:Nat):Int):=by omega
 refine bD 8 [12] (by kernel_rfl) (by kernel_rfl) ?_
 refine ay E E (ay E E ?_)
 refine ba E E E (fun w _=>cI n h1) ?_
 refine ay E E (ay E E ?_)
 refine ba (r:=I ((32-n:Nat):Int)) E E E (fun w _=>by rw[←e];exact bB (by omega) (by omega)) ?_
 refine ba E E E (fun w _=>eE (32-n) (by omega)) ?_
 refine ba E E E (fun w _=>ff) ?_
 refine cb ?_
 intro w' hw
 rintro _ rfl
 refine ac E E (ag (ab (aw ?_)))
 refine av E E ?_
 exact⟨_,rfl,hw,rfl⟩
theorem tg (w:World):
 Calls Tryz.prog 120 #[] w (bH fun r w'=>aJ w w'∧r=.agg (kc.map bC).toArray):=by
 refine enter (vs:=[]) Tryz.func120 E E E ?_
 refine af (aa (aX E (yc uL) (ag (ab (af (aa ?_))))))
 refine bj E E (run_build _ _ _ (kc.map bC).toArray (by kernel_rfl)) ?_
 have hb:=bA.new (w:=w) (T:=200) (.agg (List.replicate 64 (bC 0)).toArray) rfl
 refine ax E E (js hb E uM (jU _)) ?_
 refine ag (ab (aw ?_))
 refine cZ E E (hb.row _) Li E uM ?_
 refine⟨_,rfl,?_,rfl⟩
 exact(aJ.new w _).of_grown (bF _ _ _) fun k hk=>by
  obtain rfl:=Option.some.inj hk
  exact Nat.le_refl _
end Go.Rl
namespace Go.Rl
open Go.RowKit Go.Proofs
theorem CO:(Tryz.prog.info? 150).map (·.zero)=some (some (.agg (List.replicate 8 (bC 0)).toArray)):=by kernel_rfl
theorem nX:(Tryz.prog.info? 150).map (·.size)=some 8:=by kernel_rfl
section
variable {w:World} {g o:Nat} {T:TypeId}
theorem dD (i:Nat) (hi:i<8):(Instr.indexAt 150 (.pointer (some ⟨g,0,none⟩)) (I (i:Int))).run Tryz.prog w=.ok (.pointer (some ⟨g,i,none⟩)) w:=by
 have:=gq (P:=Tryz.prog) (w:=w) (g:=g) (o:=0) Lf dW hi .i64
 rwa [Nat.zero_add] at this
theorem gO (i:Nat) (hi:i<64):(Instr.indexAt 200 (.pointer (some ⟨g,0,none⟩)) (I (i:Int))).run Tryz.prog w=.ok (.pointer (some ⟨g,i,none⟩)) w:=by
 have:=gq (P:=Tryz.prog) (w:=w) (g:=g) (o:=0) Li dW hi .i64
 rwa [Nat.zero_add] at this
theorem c9 {m:List UInt32} (h:bA g T (m.map bC) w) (i:Nat) (hi:i<m.length):(Instr.loadAt 149 (.pointer (some ⟨g,i,none⟩))).run Tryz.prog w=.ok (bC (m.getD i 0)) w:=
 ai Tryz.underlying149 rfl (h.cell (by simp[hi]))
theorem Ap {m:List UInt32} {x:UInt32} (h:bA g T (m.map bC) w) (i:Nat) (hi:i<m.length):(Instr.storeAt 149 (.pointer (some ⟨g,i,none⟩)) (bC x)).run Tryz.prog w=.ok () (w.setCell ⟨g,i,none⟩ (bC x)):=
 ej dW rfl h (by simpa using hi)
theorem bA.setU {m:List UInt32} (h:bA g T (m.map bC) w) (i:Nat) (x:UInt32):bA g T ((m.set i x).map bC) (w.setCell ⟨g,i,none⟩ (bC x)):=by
 have:=h.set i (bC x)
 rwa [←List.map_set] at this
end
def dh (l:List UInt32):List UInt32:=l++List.replicate (64-l.length) 0
theorem mI {l:List UInt32} (h:l.length≤64):(dh l).length=64:=by simp[dh];omega
theorem fW {l:List UInt32} {i:Nat} (h:i<l.length):(dh l).getD i 0=l.getD i 0:=by
 simp[dh,List.getD,List.getElem?_append_left h]
theorem mJ {l:List UInt32} (x:UInt32) (h:l.length<64):(dh l).set l.length x=dh (l++[x]):=by
 unfold dh
 rw[List.set_append_right _ _ (Nat.le_refl _),Nat.sub_self]
 have:64-l.length=(64-(l++[x]).length)+1:=by simp;omega
 rw[this,List.replicate_succ,List.set_cons_zero,List.append_assoc]
 rfl
theorem uP (b:List UInt8) (k:Nat):i9 b (k+1)=i9 b k++[qH b k]:=by simp[i9,List.range_succ]
theorem jH (b:List UInt8) (k:Nat):(i9 b k).length=k:=by simp[i9]
def jd (s v:List UInt32) (i:Nat):List UInt32:=List.zipWith (· + ·) (s.take i) (v.take i)++s.drop i
theorem D9 {s v:List UInt32} (hs:s.length=8) (hv:v.length=8) {i:Nat} (hi:i≤8):(jd s v i).length=8:=by
 simp[jd,hs,hv];omega
theorem xa {s v:List UInt32} (hs:s.length=8) (hv:v.length=8) {i:Nat} (hi:i<8):(jd s v i).getD i 0=s.getD i 0:=by
 have h:(List.zipWith (· + ·) (s.take i) (v.take i)).length=i:=by simp[hs,hv];omega
 simp only[jd,List.getD_eq_getElem?_getD]
 rw[List.getElem?_append_right (by omega),h]
 simp
theorem xb {s v:List UInt32} (hs:s.length=8) (hv:v.length=8) {i:Nat} (hi:i<8):(jd s v i).set i (s.getD i 0+v.getD i 0)=jd s v (i+1):=by
 have h:(List.zipWith (· + ·) (s.take i) (v.take i)).length=i:=by simp[hs,hv];omega
 have h1:s.getD i 0=s[i]:=by simp[List.getD,hs,hi]
 have h2:v.getD i 0=v[i]:=by simp[List.getD,hv,hi]
 unfold jd
 rw[List.set_append_right _ _ (by omega),h,Nat.sub_self,h1,h2]
 rw[List.drop_eq_getElem_cons (by omega:i<s.length),List.set_cons_zero,List.take_succ_eq_append_getElem (by omega:i<s.length),List.take_succ_eq_append_getElem (by omega:i<v.length)]
 rw[List.zipWith_append (by simp[hs,hv])]
 simp
theorem xc {s v:List UInt32} (hs:s.length=8) (hv:v.length=8):jd s v 8=List.zipWith (· + ·) s v:=by
 have h1:s.take 8=s:=List.take_of_length_le (by omega)
 have h2:v.take 8=v:=List.take_of_length_le (by omega)
 have h3:s.drop 8=[]:=List.drop_eq_nil_of_le (by omega)
 unfold jd
 rw[h1,h2,h3,List.append_nil]
end Go.Rl
namespace Go.Rl
open Go.RowKit Go.Proofs
theorem Aq:aH Tryz.prog 86:=⟨_,Tryz.func86,by kernel_rfl,rfl⟩
theorem Bz {P:Program} {w:World} {t:TypeId} {v:Value} {l:List Value} (hv:v.cells=l.toArray):∃g w',(Instr.box t v).run P w=.ok (.pointer (some ⟨g,0,none⟩)) w'∧w.heap.size≤g∧aJ w w'∧bA g t l w':=
 ⟨_,_,vT,Nat.le_refl _,aJ.new w _,bA.new v hv⟩
theorem cE.reads {b:List UInt8} {v:Value} {w:World} (h:cE b v w):∃ad:Nat→Addr,∀i,i<b.length→
 (∀w':World,(Instr.indexAt 22 v (I (i:Int))).run Tryz.prog w'=.ok (.pointer (some (ad i))) w')∧∀w',aJ w w'→(Instr.loadAt 5 (.pointer (some (ad i)))).run Tryz.prog w'=.ok (U8 (b.getD i 0)) w':=by
 have hall:∀i:Nat,∃ad:Addr,i<b.length→(∀w':World,(Instr.indexAt 22 v (I (i:Int))).run Tryz.prog w'=.ok (.pointer (some ad)) w')∧∀w',aJ w w'→(Instr.loadAt 5 (.pointer (some ad))).run Tryz.prog w'=.ok (U8 (b.getD i 0)) w':=fun i=>by
  by_cases hi:i<b.length
  ·obtain⟨ad,had,hcell⟩:=ki h hi .i64
   refine⟨ad,fun _=>⟨had,fun w' hw'=>?_⟩⟩
   obtain⟨ad',had',hcell'⟩:=ki (h.ext hw') hi .i64
   have:=(had w').symm.trans (had' w')
   simp only[Result.ok.injEq,Value.pointer.injEq,Option.some.injEq,and_true] at this
   subst this
   have e:b.getD i 0=b[i]:=by simp[List.getD,hi]
   rw[e]
   exact In hcell'
  ·exact⟨⟨0,0,none⟩,fun h=>absurd h hi⟩
 exact⟨fun i=>Classical.choose (hall i),fun i hi=>Classical.choose_spec (hall i) hi⟩
theorem Ar {w:World} {s:List UInt32} {b:List UInt8} {v:Value} (hs:s.length=8) (hbl:b.length=64) (hv:cE b v w):
 Calls Tryz.prog 86 #[.agg (s.map bC).toArray,v] w (bH fun r w'=>aJ w w'∧r=.agg ((vG s b).map bC).toArray):=by
 refine enter (vs:=[.agg (s.map bC).toArray,v]) Tryz.func86 E E E ?_
 obtain⟨g2,w1,hr,n2,x1,b2⟩:=Bz (P:=Tryz.prog) (w:=w) (t:=150) (v:=.agg (s.map bC).toArray) (l:=s.map bC) rfl
 refine af (aa (cm E E hr ?_))
 obtain⟨g4,w2,hr,n4,x2,b4⟩:=aZ (P:=Tryz.prog) (w:=w1) (l:=(List.replicate 8 0).map bC) CO rfl
 refine aX E hr (ag (ab (af (aa ?_))))
 refine an (vs:=[]) tf E E (tg w2) ?_
 rintro _ w3 ⟨x3,rfl⟩
 obtain⟨g5,w4,hr,n5,x4,b5⟩:=aZ (P:=Tryz.prog) (w:=w3) (l:=List.replicate 64 (bC 0)) uL rfl
 refine aX E hr ?_
 refine ax E E (js b5 E uM (jU _)) ?_
 have b5':=b5.row (kc.map bC)
 have q5:=bF w4 g5 (kc.map bC).toArray
 revert b5' q5
 generalize w4.setRow g5 (kc.map bC).toArray=w5
 intro b5' q5
 refine ag (ab (af (aa ?_)))
 obtain⟨g6,w6,hr,n6,x6,b6⟩:=aZ (P:=Tryz.prog) (w:=w5) (l:=(dh []).map bC) uL rfl
 refine aX E hr (ag (ab ?_))
 have l24:g2<g4:=Nat.lt_of_lt_of_le b2.lt n4
 have l45:g4<g5:=Nat.lt_of_lt_of_le b4.lt (Nat.le_trans x3.size n5)
 have l56:g5<g6:=Nat.lt_of_lt_of_le b5'.lt n6
 have ne4:some g4≠some g5:=fun h=>by cases h;omega
 have ne2:some g2≠some g5:=fun h=>by cases h;omega
 have B2:bA g2 _ _ w6:=((((b2.ext x2).ext x3).ext x4).other q5 ne2).ext x6
 have B4:bA g4 _ _ w6:=(((b4.ext x3).ext x4).other q5 ne4).ext x6
 have B5:bA g5 _ _ w6:=b5'.ext x6
 have E6:aJ w w6:=((((x1.trans x2).trans x3).trans x4).of_new q5 (by omega)).trans x6
 have hw6:w.heap.size≤g6:=by omega
 obtain⟨ad,had⟩:=hv.reads
 refine af (ei (fun _:Unit=>[(2,.pointer (some ⟨g2,0,none⟩)),(4,.pointer (some ⟨g4,0,none⟩)),(5,.pointer (some ⟨g5,0,none⟩)),(6,.pointer (some ⟨g6,0,none⟩))]) (fun _ w'=>w6.grownBy w' (some g6)∧bA g6 200 ((dh (bE b 0)).map bC) w') ?_ ?_)
 ·refine af (aa (ac E E (ag (ab (aE ?_)))))
  refine bZ (α:=Nat) (fun k=>[(1,v),(2,.pointer (some ⟨g2,0,none⟩)),(4,.pointer (some ⟨g4,0,none⟩)),(5,.pointer (some ⟨g5,0,none⟩)),(6,.pointer (some ⟨g6,0,none⟩)),(7,I (k:Int))])
   (fun k w'=>w6.grownBy w' (some g6)∧bA g6 200 ((dh (i9 b k)).map bC) w'∧k≤16) (fun k=>16-k) 0 ⟨rfl,rfl,rfl,rfl,rfl,rfl,trivial⟩
   ⟨dZ (aJ.refl _),b6,by omega⟩ ?_
  rintro k w7 ⟨q7,b7,hk⟩
  refine af (af (aa (ae E E ?_)))
  refine ak E E E (bb) ?_
  refine ag (ab ?_)
  refine bt E (fun h=>?_) (fun h=>?_)
  ·have hk16:k<16:=by omega
   have E7:aJ w w7:=E6.of_new q7 hw6
   refine aC (ab (af (aE ?_)))
   have e0:(4:Int)*(k:Int)=((4*k:Nat):Int):=by omega
   have e1:((4*k:Nat):Int)+1=((4*k+1:Nat):Int):=by omega
   have e2:((4*k:Nat):Int)+2=((4*k+2:Nat):Int):=by omega
   have e3:((4*k:Nat):Int)+3=((4*k+3:Nat):Int):=by omega
   refine bD 35 [1,2,4,5,6,7,58,59] (by kernel_rfl) (by kernel_rfl) ?_
   refine ay E E (ay E E (ay E E ?_))
   refine ba (r:=I ((4*k:Nat):Int)) E E E (fun w _=>by rw[←e0];exact eZ (by omega) (by omega)) ?_
   refine aA E E E (fun w _=>(had (4*k) (by omega)).1 w) ?_
   refine aN E E (fun w' hw=>(had (4*k) (by omega)).2 w' (E7.trans hw)) ?_
   refine dT E E (fun w _=>fA KR KG) ?_
   refine ba E E E (fun w _=>eE 24 (by omega)) ?_
   refine ay E E (ay E E ?_)
   refine ba (r:=I ((4*k:Nat):Int)) E E E (fun w _=>by rw[←e0];exact eZ (by omega) (by omega)) ?_
   refine ba (r:=I ((4*k+1:Nat):Int)) E E E (fun w _=>by rw[←e1];exact aP (by omega) (by omega)) ?_
   refine aA E E E (fun w _=>(had (4*k+1) (by omega)).1 w) ?_
   refine aN E E (fun w' hw=>(had (4*k+1) (by omega)).2 w' (E7.trans hw)) ?_
   refine dT E E (fun w _=>fA KR KG) ?_
   refine ba E E E (fun w _=>eE 16 (by omega)) ?_
   refine ba E E E (fun w _=>ff) ?_
   refine ay E E (ay E E ?_)
   refine ba (r:=I ((4*k:Nat):Int)) E E E (fun w _=>by rw[←e0];exact eZ (by omega) (by omega)) ?_
   refine ba (r:=I ((4*k+2:Nat):Int)) E E E (fun w _=>by rw[←e2];exact aP (by omega) (by omega)) ?_
   refine aA E E E (fun w _=>(had (4*k+2) (by omega)).1 w) ?_
   refine aN E E (fun w' hw=>(had (4*k+2) (by omega)).2 w' (E7.trans hw)) ?_
   refine dT E E (fun w _=>fA KR KG) ?_
   refine ba E E E (fun w _=>eE 8 (by omega)) ?_
   refine ba E E E (fun w _=>ff) ?_
   refine ay E E (ay E E ?_)
   refine ba (r:=I ((4*k:Nat):Int)) E E E (fun w _=>by rw[←e0];exact eZ (by omega) (by omega)) ?_
   refine ba (r:=I ((4*k+3:Nat):Int)) E E E (fun w _=>by rw[←e3];exact aP (by omega) (by omega)) ?_
   refine aA E E E (fun w _=>(had (4*k+3) (by omega)).1 w) ?_
   refine aN E E (fun w' hw=>(had (4*k+3) (by omega)).2 w' (E7.trans hw)) ?_
   refine dT E E (fun w _=>fA KR KG) ?_
   refine ba E E E (fun w _=>ff) ?_
   refine aA E E E (fun w _=>gO k (by omega)) ?_
   refine cb ?_
   intro w8 hx8
   rintro _ rfl _ rfl _ rfl _ rfl _ rfl _ rfl _ rfl _ rfl
   have hlen:(dh (i9 b k)).length=64:=mI (by rw[jH];omega)
   refine ax E E (Ap (x:=qH b k) (b7.ext hx8) k (by omega)) ?_
   have b8:=(b7.ext hx8).setU k (qH b k)
   have q8:=(q7.trans (dZ hx8)).trans (bh w8 g6 k (bC (qH b k)))
   have hset:(dh (i9 b k)).set k (qH b k)=dh (i9 b (k+1)):=by
    have:=mJ (l:=i9 b k) (qH b k) (by rw[jH];omega)
    rw[jH] at this
    rw[this,uP]
   rw[hset] at b8
   refine ag (aR (ab (aa (ae E E ?_))))
   refine ak E E E (aP (by omega) (by omega)) ?_
   refine ac E E (ag ?_)
   exact bJ (k+1) ⟨rfl,rfl,rfl,rfl,rfl,rfl,trivial⟩ ⟨q8,b8,by omega⟩ (by omega)
  ·have hk':k=16:=by omega
   subst hk'
   exact be (aK (aK (bf (bP () ⟨rfl,rfl,rfl,rfl,trivial⟩ ⟨q7,b7⟩))))
 rintro _ w7 ⟨q7,b7⟩
 refine ab ?_
 refine af (ei (fun _:Unit=>[(2,.pointer (some ⟨g2,0,none⟩)),(4,.pointer (some ⟨g4,0,none⟩)),(5,.pointer (some ⟨g5,0,none⟩)),(6,.pointer (some ⟨g6,0,none⟩))]) (fun _ w'=>w6.grownBy w' (some g6)∧bA g6 200 ((bE b 48).map bC) w') ?_ ?_)
 ·refine af (aa (ac E E (ag (ab (aE ?_)))))
  refine bZ (α:=Nat) (fun k=>[(2,.pointer (some ⟨g2,0,none⟩)),(4,.pointer (some ⟨g4,0,none⟩)),(5,.pointer (some ⟨g5,0,none⟩)),(6,.pointer (some ⟨g6,0,none⟩)),(8,I ((16+k:Nat):Int))])
   (fun k w'=>w6.grownBy w' (some g6)∧bA g6 200 ((dh (bE b k)).map bC) w'∧k≤48) (fun k=>48-k) 0 ⟨rfl,rfl,rfl,rfl,rfl,trivial⟩
   ⟨q7,b7,by omega⟩ ?_
  clear q7 b7
  rintro k w7 ⟨q7,b7,hk⟩
  have hL:=lE b k
  refine af (af (aa (ae E E ?_)))
  refine ak E E E (bb) ?_
  refine ag (ab ?_)
  refine bt E (fun h=>?_) (fun h=>?_)
  ·have hk48:k<48:=by omega
   refine aC (ab (af (aE (af ?_))))
   have e15:((16+k:Nat):Int)-15=(((bE b k).length-15:Nat):Int):=by omega
   have e2:((16+k:Nat):Int)-2=(((bE b k).length-2:Nat):Int):=by omega
   have e16:((16+k:Nat):Int)-16=(((bE b k).length-16:Nat):Int):=by omega
   have e7:((16+k:Nat):Int)-7=(((bE b k).length-7:Nat):Int):=by omega
   have f15:=fW (l:=bE b k) (i:=(bE b k).length-15) (by omega)
   have f2:=fW (l:=bE b k) (i:=(bE b k).length-2) (by omega)
   have f16:=fW (l:=bE b k) (i:=(bE b k).length-16) (by omega)
   have f7:=fW (l:=bE b k) (i:=(bE b k).length-7) (by omega)
   have hlen:(dh (bE b k)).length=64:=mI (by omega)
   refine bD 9 [2,4,5,6,8,9,71] (by kernel_rfl) (by kernel_rfl) ?_
   refine ay E E ?_
   refine ba (r:=I (((bE b k).length-15:Nat):Int)) E E E (fun w _=>by rw[←e15];exact bB (by omega) (by omega)) ?_
   refine aA E E E (fun w _=>gO _ (by omega)) ?_
   refine aN (r:=bC ((bE b k).getD ((bE b k).length-15) 0)) E E (fun w' hw=>by rw[←f15];exact c9 (b7.ext hw) _ (by omega)) ?_
   refine ay E E ?_
   refine ba (r:=I (((bE b k).length-2:Nat):Int)) E E E (fun w _=>by rw[←e2];exact bB (by omega) (by omega)) ?_
   refine aA E E E (fun w _=>gO _ (by omega)) ?_
   refine aN (r:=bC ((bE b k).getD ((bE b k).length-2) 0)) E E (fun w' hw=>by rw[←f2];exact c9 (b7.ext hw) _ (by omega)) ?_
   refine fO E E (cb ?_)
   intro w8 hx8
   rintro _ rfl _ rfl _ rfl _ rfl _ rfl _ rfl _ rfl
   refine ac E E (ag (ab (af (aa (ae E E ?_)))))
   refine an d5 E E (d6 7 (by omega) (by omega)) ?_
   rintro _ w9 ⟨hx9,rfl⟩
   refine ae E E ?_
   refine an d5 E E (d6 18 (by omega) (by omega)) ?_
   rintro _ w10 ⟨hx10,rfl⟩
   refine ak E E E (cD) ?_
   refine ae E E ?_
   refine ak E E E (cI 3 (by omega)) ?_
   refine ak E E E (cD) ?_
   refine ac E E (ag (ab (af (aa (ae E E ?_)))))
   refine an d5 E E (d6 17 (by omega) (by omega)) ?_
   rintro _ w11 ⟨hx11,rfl⟩
   refine ae E E ?_
   refine an d5 E E (d6 19 (by omega) (by omega)) ?_
   rintro _ w12 ⟨hx12,rfl⟩
   refine ak E E E (cD) ?_
   refine ae E E ?_
   refine ak E E E (cI 10 (by omega)) ?_
   refine ak E E E (cD) ?_
   refine ac E E (ag (ab ?_))
   have x12:=(((hx8.trans hx9).trans hx10).trans hx11).trans hx12
   have b12:=b7.ext x12
   refine bD 15 [2,4,5,6,8,101,102] (by kernel_rfl) (by kernel_rfl) ?_
   refine ay E E (ay E E ?_)
   refine ba (r:=I (((bE b k).length-16:Nat):Int)) E E E (fun w _=>by rw[←e16];exact bB (by omega) (by omega)) ?_
   refine aA E E E (fun w _=>gO _ (by omega)) ?_
   refine aN (r:=bC ((bE b k).getD ((bE b k).length-16) 0)) E E (fun w' hw=>by rw[←f16];exact c9 (b12.ext hw) _ (by omega)) ?_
   refine ay E E ?_
   refine ba E E E (fun w _=>cA) ?_
   refine ay E E ?_
   refine ba (r:=I (((bE b k).length-7:Nat):Int)) E E E (fun w _=>by rw[←e7];exact bB (by omega) (by omega)) ?_
   refine aA E E E (fun w _=>gO _ (by omega)) ?_
   refine aN (r:=bC ((bE b k).getD ((bE b k).length-7) 0)) E E (fun w' hw=>by rw[←f7];exact c9 (b12.ext hw) _ (by omega)) ?_
   refine ba E E E (fun w _=>cA) ?_
   refine ay E E ?_
   refine ba E E E (fun w _=>cA) ?_
   refine aA E E E (fun w _=>gO (16+k) (by omega)) ?_
   refine cb ?_
   intro w13 hx13
   rintro _ rfl _ rfl _ rfl _ rfl _ rfl _ rfl _ rfl
   refine ax E E (Ap (x:=nR (bE b k)) (b12.ext hx13) (16+k) (by omega)) ?_
   have b13:=(b12.ext hx13).setU (16+k) (nR (bE b k))
   have q13:=((q7.trans (dZ x12)).trans (dZ hx13)).trans (bh w13 g6 (16+k) (bC (nR (bE b k))))
   have hset:(dh (bE b k)).set (16+k) (nR (bE b k))=dh (bE b (k+1)):=by
    have:=mJ (l:=bE b k) (nR (bE b k)) (by omega)
    rw[hL] at this
    exact this
   rw[hset] at b13
   refine ag (aR (ab (aa (ae E E ?_))))
   refine ak E E E (aP (by omega) (by omega)) ?_
   refine ac E E (ag ?_)
   exact bJ (k+1) ⟨rfl,rfl,rfl,rfl,rfl,trivial⟩ ⟨q13,b13,by omega⟩ (by omega)
  ·have hk':k=48:=by omega
   subst hk'
   have hf:dh (bE b 48)=bE b 48:=by
    unfold dh
    rw[hL]
    exact List.append_nil _
   rw[hf] at b7
   exact be (aK (aK (bf (bP () ⟨rfl,rfl,rfl,rfl,trivial⟩ ⟨q7,b7⟩))))
 clear q7 b7
 rintro _ w7 ⟨q7,b7⟩
 refine ab ?_
 have E7:aJ w w7:=E6.of_new q7 hw6
 have ne26:some g2≠some g6:=fun h=>by cases h;omega
 have ne46:some g4≠some g6:=fun h=>by cases h;omega
 have ne56:some g5≠some g6:=fun h=>by cases h;omega
 have C2:=B2.other q7 ne26
 have C4:=B4.other q7 ne46
 have C5:=B5.other q7 ne56
 have hlen8:(Tryz.prog.info? 150).map (·.size)=some (s.map bC).length:=by rw[List.length_map,hs];exact nX
 refine af (aa ?_)
 refine aj E E (nF (m:=s.map bC) C2 (fun j v h=>by rwa [Nat.zero_add]) Lf E hlen8) ?_
 obtain⟨g13,w8,hr,n13,x8,b13⟩:=aZ (P:=Tryz.prog) (w:=w7) (l:=(List.replicate 8 0).map bC) CO rfl
 refine aX E hr ?_
 refine ax E E (js b13 (by simp[hs]) hlen8 (jU _)) ?_
 have b13':=b13.row (s.map bC)
 have q13:=bF w8 g13 (s.map bC).toArray
 have l13:g6<g13:=Nat.lt_of_lt_of_le b7.lt n13
 have ne213:some g2≠some g13:=fun h=>by cases h;omega
 have ne413:some g4≠some g13:=fun h=>by cases h;omega
 have ne513:some g5≠some g13:=fun h=>by cases h;omega
 have ne613:some g6≠some g13:=fun h=>by cases h;omega
 have D2:=(C2.ext x8).other q13 ne213
 have D4:=(C4.ext x8).other q13 ne413
 have D5:=(C5.ext x8).other q13 ne513
 have D6:=(b7.ext x8).other q13 ne613
 have E8:aJ w (w8.setRow g13 (s.map bC).toArray):=(E7.trans x8).of_new q13 (by omega)
 revert b13' D2 D4 D5 D6 E8
 generalize w8.setRow g13 (s.map bC).toArray=w9
 intro b13' D2 D4 D5 D6 E9
 refine ag (ab ?_)
 refine af (ei (fun _:Unit=>[(2,.pointer (some ⟨g2,0,none⟩)),(4,.pointer (some ⟨g4,0,none⟩)),(13,.pointer (some ⟨g13,0,none⟩))]) (fun _ w'=>w9.grownBy w' (some g13)∧bA g13 150 ((dK b s 64).map bC) w') ?_ ?_)
 ·refine af (aa (ac E E (ag (ab (aE ?_)))))
  refine bZ (α:=Nat) (fun i=>[(2,.pointer (some ⟨g2,0,none⟩)),(4,.pointer (some ⟨g4,0,none⟩)),(5,.pointer (some ⟨g5,0,none⟩)),(6,.pointer (some ⟨g6,0,none⟩)),(13,.pointer (some ⟨g13,0,none⟩)),(14,I (i:Int))])
   (fun i w'=>w9.grownBy w' (some g13)∧bA g13 150 ((dK b s i).map bC) w'∧i≤64) (fun i=>64-i) 0 ⟨rfl,rfl,rfl,rfl,rfl,rfl,trivial⟩
   ⟨dZ (aJ.refl _),b13',by omega⟩ ?_
  rintro i w10 ⟨q10,b10,hi⟩
  have hv8:=gL b s hs i
  refine af (af (aa (ae E E ?_)))
  refine ak E E E (bb) ?_
  refine ag (ab ?_)
  refine bt E (fun h=>?_) (fun h=>?_)
  ·have hi64:i<64:=by omega
   refine aC (ab (af (aE (af ?_))))
   have V:=b10
   have K5:=D5.other q10 ne513
   have K6:=D6.other q10 ne613
   have hkc:kc.length=64:=rfl
   have hsl:(bE b 48).length=64:=lE b 48
   refine bD 5 [2,4,5,6,13,14,15,111] (by kernel_rfl) (by kernel_rfl) ?_
   refine aA E E E (fun w _=>dD 0 (by omega)) ?_
   refine aN E E (fun w' hw=>c9 (V.ext hw) 0 (by omega)) ?_
   refine aA E E E (fun w _=>dD 4 (by omega)) ?_
   refine aN E E (fun w' hw=>c9 (V.ext hw) 4 (by omega)) ?_
   refine fO E E (cb ?_)
   intro w11 hx11
   rintro _ rfl _ rfl _ rfl _ rfl _ rfl _ rfl _ rfl _ rfl
   refine ac E E (ag (ab (af ?_)))
   replace V:=V.ext hx11
   replace K5:=K5.ext hx11
   replace K6:=K6.ext hx11
   refine bD 30 [2,4,5,6,13,14,15,16,141] (by kernel_rfl) (by kernel_rfl) ?_
   refine aA E E E (fun w _=>dD 7 (by omega)) ?_
   refine aN E E (fun w' hw=>c9 (V.ext hw) 7 (by omega)) ?_
   refine ay E E ?_
   refine cd (S:=Is (bC (iG _ 6))) d5 (bG.is _) E (fun w' _=>by
    rintro _ rfl _ rfl
    exact bH.mono (d6 6 (by omega) (by omega)) fun v w'' h=>⟨h.1,h.2⟩) ?_
   refine ay E E ?_
   refine cd (S:=Is (bC (iG _ 11))) d5 (bG.is _) E (fun w' _=>by
    rintro _ rfl _ rfl
    exact bH.mono (d6 11 (by omega) (by omega)) fun v w'' h=>⟨h.1,h.2⟩) ?_
   refine ba E E E (fun w _=>cD) ?_
   refine ay E E ?_
   refine cd (S:=Is (bC (iG _ 25))) d5 (bG.is _) E (fun w' _=>by
    rintro _ rfl _ rfl
    exact bH.mono (d6 25 (by omega) (by omega)) fun v w'' h=>⟨h.1,h.2⟩) ?_
   refine ba E E E (fun w _=>cD) ?_
   refine ba E E E (fun w _=>cA) ?_
   refine ay E E ?_
   refine aA E E E (fun w _=>dD 5 (by omega)) ?_
   refine aN E E (fun w' hw=>c9 (V.ext hw) 5 (by omega)) ?_
   refine ba E E E (fun w _=>fe) ?_
   refine ay E E ?_
   refine zr E E (fun w _=>sm) ?_
   refine aA E E E (fun w _=>dD 6 (by omega)) ?_
   refine aN E E (fun w' hw=>c9 (V.ext hw) 6 (by omega)) ?_
   refine ba E E E (fun w _=>fe) ?_
   refine ba E E E (fun w _=>cD) ?_
   refine ba E E E (fun w _=>cA) ?_
   refine ay E E ?_
   refine aA E E E (fun w _=>gO i (by omega)) ?_
   refine aN E E (fun w' hw=>c9 (K5.ext hw) i (by omega)) ?_
   refine ba E E E (fun w _=>cA) ?_
   refine ay E E ?_
   refine aA E E E (fun w _=>gO i (by omega)) ?_
   refine aN E E (fun w' hw=>c9 (K6.ext hw) i (by omega)) ?_
   refine ba E E E (fun w _=>cA) ?_
   refine cb ?_
   intro w12 hx12
   rintro _ rfl _ rfl _ rfl _ rfl _ rfl _ rfl _ rfl _ rfl _ rfl
   refine ac E E (ag (ab (af ?_)))
   replace V:=V.ext hx12
   refine bD 24 [2,4,5,6,13,14,15,16,17,165] (by kernel_rfl) (by kernel_rfl) ?_
   refine ay E E ?_
   refine cd (S:=Is (bC (iG _ 2))) d5 (bG.is _) E (fun w' _=>by
    rintro _ rfl _ rfl
    exact bH.mono (d6 2 (by omega) (by omega)) fun v w'' h=>⟨h.1,h.2⟩) ?_
   refine ay E E ?_
   refine cd (S:=Is (bC (iG _ 13))) d5 (bG.is _) E (fun w' _=>by
    rintro _ rfl _ rfl
    exact bH.mono (d6 13 (by omega) (by omega)) fun v w'' h=>⟨h.1,h.2⟩) ?_
   refine ba E E E (fun w _=>cD) ?_
   refine ay E E ?_
   refine cd (S:=Is (bC (iG _ 22))) d5 (bG.is _) E (fun w' _=>by
    rintro _ rfl _ rfl
    exact bH.mono (d6 22 (by omega) (by omega)) fun v w'' h=>⟨h.1,h.2⟩) ?_
   refine ba E E E (fun w _=>cD) ?_
   refine ay E E ?_
   refine aA E E E (fun w _=>dD 1 (by omega)) ?_
   refine aN E E (fun w' hw=>c9 (V.ext hw) 1 (by omega)) ?_
   refine ba E E E (fun w _=>fe) ?_
   refine ay E E ?_
   refine aA E E E (fun w _=>dD 2 (by omega)) ?_
   refine aN E E (fun w' hw=>c9 (V.ext hw) 2 (by omega)) ?_
   refine ba E E E (fun w _=>fe) ?_
   refine ba E E E (fun w _=>cD) ?_
   refine aA E E E (fun w _=>dD 1 (by omega)) ?_
   refine aN E E (fun w' hw=>c9 (V.ext hw) 1 (by omega)) ?_
   refine aA E E E (fun w _=>dD 2 (by omega)) ?_
   refine aN E E (fun w' hw=>c9 (V.ext hw) 2 (by omega)) ?_
   refine ba E E E (fun w _=>fe) ?_
   refine ba E E E (fun w _=>cD) ?_
   refine ba E E E (fun w _=>cA) ?_
   refine cb ?_
   intro w13 hx13
   rintro _ rfl _ rfl _ rfl _ rfl _ rfl _ rfl _ rfl _ rfl _ rfl _ rfl
   refine ac E E (ag (ab (aa (ae E E (ae E E ?_)))))
   replace V:=V.ext hx13
   refine ak E E E (cA) ?_
   refine ae E E ?_
   refine au E E E (dD 1 (by omega)) ?_
   refine aj E E (c9 V 1 (by omega)) ?_
   refine au E E E (dD 2 (by omega)) ?_
   refine aj E E (c9 V 2 (by omega)) ?_
   refine au E E E (dD 3 (by omega)) ?_
   refine aj E E (c9 V 3 (by omega)) ?_
   refine ae E E ?_
   refine ak E E E (cA) ?_
   refine ae E E ?_
   refine au E E E (dD 5 (by omega)) ?_
   refine aj E E (c9 V 5 (by omega)) ?_
   refine au E E E (dD 6 (by omega)) ?_
   refine aj E E (c9 V 6 (by omega)) ?_
   refine bj E E (run_build _ _ _ ((dK b s (i+1)).map bC).toArray (by kernel_rfl)) ?_
   have hn8:=gL b s hs (i+1)
   refine ax E E (js V (by simp[hv8,hn8]) (by rw[List.length_map,hn8];exact nX) (jU _)) ?_
   have V':=V.row ((dK b s (i+1)).map bC)
   have q14:=(q10.trans (dZ ((hx11.trans hx12).trans hx13))).trans (bF w13 g13 ((dK b s (i+1)).map bC).toArray)
   refine ag (aR (ab (aa (ae E E ?_))))
   refine ak E E E (aP (by omega) (by omega)) ?_
   refine ac E E (ag ?_)
   exact bJ (i+1) ⟨rfl,rfl,rfl,rfl,rfl,rfl,trivial⟩ ⟨q14,V',by omega⟩ (by omega)
  ·have hi':i=64:=by omega
   subst hi'
   exact be (aK (aK (bf (bP () ⟨rfl,rfl,rfl,trivial⟩ ⟨q10,b10⟩))))
 rintro _ w10 ⟨q10,b10⟩
 refine ab ?_
 have hv8:=gL b s hs 64
 have F2:=D2.other q10 ne213
 have F4:=D4.other q10 ne413
 have E10:aJ w w10:=E9.of_new q10 (by omega)
 have ha0:jd s (dK b s 64) 0=s:=by simp[jd]
 refine af (ei (fun _:Unit=>[(2,.pointer (some ⟨g2,0,none⟩)),(4,.pointer (some ⟨g4,0,none⟩))]) (fun _ w'=>w10.grownBy w' (some g2)∧bA g2 150 ((jd s (dK b s 64) 8).map bC) w') ?_ ?_)
 ·refine af (aa (ac E E (ag (ab (aE ?_)))))
  refine bZ (α:=Nat) (fun i=>[(2,.pointer (some ⟨g2,0,none⟩)),(4,.pointer (some ⟨g4,0,none⟩)),(13,.pointer (some ⟨g13,0,none⟩)),(19,I (i:Int))])
   (fun i w'=>w10.grownBy w' (some g2)∧bA g2 150 ((jd s (dK b s 64) i).map bC) w'∧i≤8) (fun i=>8-i) 0 ⟨rfl,rfl,rfl,rfl,trivial⟩
   ⟨dZ (aJ.refl _),by rw[ha0];exact F2,by omega⟩ ?_
  rintro i w11 ⟨q11,b11,hi⟩
  refine af (af (aa (ae E E ?_)))
  refine ak E E E (bb) ?_
  refine ag (ab ?_)
  refine bt E (fun h=>?_) (fun h=>?_)
  ·have hi8:i<8:=by omega
   have hal:=D9 hs hv8 hi
   have hag:=xa hs hv8 hi8
   have K13:=b10.other q11 (fun h=>by cases h;omega)
   refine aC (ab (af (aE ?_)))
   refine bD 8 [2,4,13,19,194,195] (by kernel_rfl) (by kernel_rfl) ?_
   refine ay E E ?_
   refine aA E E E (fun w _=>dD i (by omega)) ?_
   refine aN (r:=bC (s.getD i 0)) E E (fun w' hw=>by rw[←hag];exact c9 (b11.ext hw) i (by omega)) ?_
   refine ay E E ?_
   refine aA E E E (fun w _=>dD i (by omega)) ?_
   refine aN E E (fun w' hw=>c9 (K13.ext hw) i (by omega)) ?_
   refine ba E E E (fun w _=>cA) ?_
   refine aA E E E (fun w _=>dD i (by omega)) ?_
   refine cb ?_
   intro w12 hx12
   rintro _ rfl _ rfl _ rfl _ rfl _ rfl _ rfl
   refine ax E E (Ap (b11.ext hx12) i (by omega)) ?_
   have b12:=(b11.ext hx12).setU i (s.getD i 0+(dK b s 64).getD i 0)
   rw[xb hs hv8 hi8] at b12
   have q12:=(q11.trans (dZ hx12)).trans (bh w12 g2 i (bC (s.getD i 0+(dK b s 64).getD i 0)))
   refine ag (aR (ab (aa (ae E E ?_))))
   refine ak E E E (aP (by omega) (by omega)) ?_
   refine ac E E (ag ?_)
   exact bJ (i+1) ⟨rfl,rfl,rfl,rfl,trivial⟩ ⟨q12,b12,by omega⟩ (by omega)
  ·have hi':i=8:=by omega
   subst hi'
   exact be (aK (aK (bf (bP () ⟨rfl,rfl,trivial⟩ ⟨q11,b11⟩))))
 rintro _ w11 ⟨q11,b11⟩
 rw[xc hs hv8] at b11
 have hc8:=Ad s b hs
 have hlen8':(Tryz.prog.info? 150).map (·.size)=some ((vG s b).map bC).length:=by rw[List.length_map,hc8];exact nX
 have G4:=F4.other q11 (fun h=>by cases h;omega)
 refine ab (af (aa ?_))
 refine aj E E (nF (m:=(vG s b).map bC) b11 (fun j v h=>by rw[Nat.zero_add];exact h) Lf E hlen8') ?_
 refine ax E E (js G4 (by simp[hc8]) hlen8' (jU _)) ?_
 refine ag (ab (aw ?_))
 refine cZ E E (G4.row _) Lf E hlen8' ?_
 exact⟨_,rfl,(E10.of_new q11 (by omega)).of_new (bF _ _ _) (by omega),rfl⟩
end Go.Rl
namespace Go.Rl
open Go.RowKit Go.Proofs
theorem kQ:(Tryz.prog.info? 24).map (·.zero)=some (some (.agg (List.replicate 32 (U8 0)).toArray)):=by kernel_rfl
theorem mO:(Tryz.prog.info? 24).map (·.size)=some 32:=by kernel_rfl
section
variable {w:World} {g o:Nat} {T:TypeId}
theorem uQ (i:Nat) (hi:i<32):(Instr.indexAt 24 (.pointer (some ⟨g,0,none⟩)) (I (i:Int))).run Tryz.prog w=.ok (.pointer (some ⟨g,i,none⟩)) w:=by
 have:=gq (P:=Tryz.prog) (w:=w) (g:=g) (o:=0) K7 fa hi .i64
 rwa [Nat.zero_add] at this
theorem xe {m:List UInt8} {x:UInt8} (h:bA g T (m.map U8) w) (i:Nat) (hi:i<m.length):(Instr.storeAt 5 (.pointer (some ⟨g,i,none⟩)) (U8 x)).run Tryz.prog w=.ok () (w.setCell ⟨g,i,none⟩ (U8 x)):=
 ej fa rfl h (by simpa using hi)
theorem bA.setB {m:List UInt8} (h:bA g T (m.map U8) w) (i:Nat) (x:UInt8):bA g T ((m.set i x).map U8) (w.setCell ⟨g,i,none⟩ (U8 x)):=by
 have:=h.set i (U8 x)
 rwa [←List.map_set] at this
end
theorem qQ (m:List UInt8):∀v∈m.map U8,v.oneCell'=true:=by
 intro u hu
 obtain⟨b,_,rfl⟩:=List.mem_map.1 hu
 rfl
def fp (d:List UInt8) (n j:Nat):List UInt8:=d.take j++List.replicate (n-j) 0
theorem jI {d:List UInt8} {n j:Nat} (hd:d.length=n) (hj:j≤n):(fp d n j).length=n:=by simp[fp,hd];omega
theorem jJ {d:List UInt8} {n j:Nat} (hd:d.length=n) (hj:j<n):(fp d n j).set j (d.getD j 0)=fp d n (j+1):=by
 have h:(d.take j).length=j:=by simp[hd];omega
 have h1:d.getD j 0=d[j]:=by simp[List.getD,hd,hj]
 unfold fp
 rw[List.set_append_right _ _ (by omega),h,Nat.sub_self,h1,List.take_succ_eq_append_getElem (by omega:j<d.length)]
 have:n-j=(n-(j+1))+1:=by omega
 rw[this,List.replicate_succ,List.set_cons_zero,List.append_assoc]
 rfl
theorem rS {d:List UInt8} {n:Nat} (hd:d.length=n):fp d n n=d:=by
 simp[fp,←hd]
theorem As (s:List UInt32):(s.flatMap vD).length=4*s.length:=by
 induction s with
 |nil=>rfl
 |cons x s ih=>
  have:(x::s).flatMap vD=vD x++s.flatMap vD:=by simp
  rw[this,List.length_append,ih]
  simp[vD];omega
theorem lL:∀(s:List UInt32) (i k:Nat),i<s.length→k<4→(s.flatMap vD).getD (4*i+k) 0=(s.getD i 0>>>UInt32.ofNat (24-8*k)).toUInt8
 |[],_,_,h,_=>by simp at h
 |x::s,0,k,_,hk=>by
  have e:(x::s).flatMap vD=vD x++s.flatMap vD:=by simp
  rw[e]
  match k,hk with
  |0,_=>rfl
  |1,_=>rfl
  |2,_=>rfl
  |3,_=>
   show x.toUInt8=(x>>>UInt32.ofNat 0).toUInt8
   rw[show UInt32.ofNat 0=0 from rfl,UInt32.shiftRight_zero]
 |x::s,i+1,k,h,hk=>by
  have e:(x::s).flatMap vD=vD x++s.flatMap vD:=by simp
  rw[e]
  have h4:(vD x).length=4:=rfl
  have:=lL s i k (by simpa using h) hk
  rw[List.getD_eq_getElem?_getD,List.getElem?_append_right (by omega),h4,show 4*(i+1)+k-4=4*i+k by omega,←List.getD_eq_getElem?_getD,this]
  rfl
theorem dw (m:List UInt8):(jA m).length=32:=by
 unfold jA
 rw[As,Fsz]
theorem yN (n:UInt64):(Ae n).length=8:=by simp[Ae]
theorem Gf (n:UInt64) {j:Nat} (hj:j<8):(Ae n).take (j+1)=(Ae n).take j++[(n>>>UInt64.ofNat (56-8*j)).toUInt8]:=by
 rw[List.take_succ_eq_append_getElem (by rw[yN];exact hj)]
 simp[Ae]
theorem Gg (M:List UInt8) (k:Nat):wU M (k+1)=vG (wU M k) ((M.take (64*k+64)).drop (64*k)):=by
 rw[wU,List.drop_take,Nat.add_sub_cancel_left]
end Go.Rl
namespace Go.Rl
open Go.RowKit Go.Proofs
theorem Ea:aH Tryz.prog 38:=⟨_,Tryz.func38,by kernel_rfl,rfl⟩
theorem Eb {w:World} {l:List UInt8} {v:Value} (hv:cE l v w) (hl:l.length≤1099511627776):
 Calls Tryz.prog 38 #[v] w (bH fun r w'=>aJ w w'∧r=.agg ((jA l).map U8).toArray):=by
 refine enter (vs:=[v]) Tryz.func38 E E E ?_
 obtain⟨g2,w1,hr,n2,x1,b2⟩:=aZ (P:=Tryz.prog) (w:=w) (l:=(List.replicate 32 0).map U8) kQ rfl
 refine af (aa (aX E hr (ag (ab (af (aa ?_))))))
 obtain⟨r3,w3,hr,x3,o3,_⟩:=dR (w:=w1) w1.heap.size [] (by simp) (Nat.le_refl _)
 refine aG (vs:=[]) E E hr ?_
 refine ae E E ?_
 have e3:=x1.trans x3
 obtain⟨r4,w4,hr,o4,g4⟩:=df (ty:=22) o3 (hv.ext e3) (by simp only[List.length_nil];omega) x3.size
 have x4:=x3.of_grew g4 o3.ge
 refine aW E E hr ?_
 obtain⟨r5,w5,hr,x5,o5,_⟩:=dR (w:=w4) w4.heap.size [128] (by simp) (Nat.le_refl _)
 refine aG (vs:=[(0,U8 128)]) E E hr ?_
 obtain⟨r6,w6,hr,o6,g6⟩:=df (ty:=22) (o4.ext x5) o5.bts (by simp only[List.nil_append,List.length_cons,List.length_nil];omega) (x4.trans x5).size
 have x6:=(x4.trans x5).of_grew g6 o4.ge
 refine aW E E hr ?_
 rw[List.nil_append] at o6
 have B2:=b2.ext x6
 refine ac E E (ag (ab ?_))
 refine af (ei (fun m:Value=>[(0,v),(2,.pointer (some ⟨g2,0,none⟩)),(3,m)]) (fun m w'=>cF w1.heap.size (l++[128]++List.replicate (gM l.length) 0) m w'∧aJ w1 w') ?_ ?_)
 ·refine aE ?_
  refine bZ (α:=Nat×Value) (fun x=>[(0,v),(2,.pointer (some ⟨g2,0,none⟩)),(3,x.2)])
   (fun x w'=>cF w1.heap.size (l++[128]++List.replicate x.1 0) x.2 w'∧aJ w1 w'∧x.1≤gM l.length) (fun x=>gM l.length-x.1) (0,r6) ⟨rfl,rfl,rfl,trivial⟩
   ⟨by simpa using o6,x6,by simp⟩ ?_
  rintro⟨k,m⟩ w7 ⟨o7,x7,hk⟩
  dsimp only at o7 x7 hk
  have hp:gM l.length<64:=by unfold gM;omega
  have hm:(l++[128]++List.replicate k 0).length=l.length+1+k:=by simp;omega
  refine af (af (aa (ae E E ?_)))
  refine aS E E (ey o7.bts) ?_
  refine ak E E E (ox (by omega) (by omega)) ?_
  refine ak E E E (dF) ?_
  refine ag (ab ?_)
  rw[hm]
  refine bt E (fun h=>?_) (fun h=>?_)
  ·have hlt:k<gM l.length:=by
    rcases Nat.lt_or_ge k (gM l.length) with h1|h1
    ·exact h1
    ·have:k=gM l.length:=by omega
     subst this
     exfalso
     unfold gM at h
     omega
   refine aC (ab (aE (aa (ae E E ?_))))
   obtain⟨r8,w8,hr,x8,o8,_⟩:=dR (w:=w7) w7.heap.size [0] (by simp) (Nat.le_refl _)
   refine aG (vs:=[(0,U8 0)]) E E hr ?_
   obtain⟨r9,w9,hr,o9,g9⟩:=df (ty:=22) (o7.ext x8) o8.bts (by rw[hm];simp only[List.length_cons,List.length_nil];omega) (x7.trans x8).size
   refine aW E E hr ?_
   refine ac E E (ag (aR ?_))
   refine bJ (k+1,r9) ⟨rfl,rfl,rfl,trivial⟩ ⟨?_,(x7.trans x8).of_grew g9 o7.ge,hlt⟩ (by show gM l.length-(k+1)<gM l.length-k;omega)
   show cF _ (l++[128]++List.replicate (k+1) 0) r9 w9
   rw[List.replicate_succ',←List.append_assoc]
   exact o9
  ·have hk':k=gM l.length:=by
    unfold gM at hk hp⊢
    omega
   subst hk'
   exact be (aK (aK (bf (bP m ⟨rfl,rfl,rfl,trivial⟩ ⟨o7,x7⟩))))
 rintro m7 w7 ⟨o7,x7⟩
 refine ab (af (aa (ae E E ?_)))
 refine aS E E (ey (hv.ext (x1.trans x7))) ?_
 refine bc E E (fJ KI KM) ?_
 refine ak (u:=bS 8) E E E (iI) ?_
 rw[UInt64.mul_comm]
 refine ac E E (ag (ab ?_))
 have hp:gM l.length<64:=by unfold gM;omega
 have hb8:=yN (UInt64.ofNat l.length*8)
 refine af (ei (fun m:Value=>[(2,.pointer (some ⟨g2,0,none⟩)),(3,m)]) (fun m w'=>cF w1.heap.size (ep l) m w'∧aJ w1 w') ?_ ?_)
 ·refine af (aa (ac E E (ag (ab (aE ?_)))))
  refine bZ (α:=Nat×Value) (fun x=>[(2,.pointer (some ⟨g2,0,none⟩)),(3,x.2),(4,bS (UInt64.ofNat l.length*8)),(5,I (7-(x.1:Int)))])
   (fun x w'=>cF w1.heap.size (l++[128]++List.replicate (gM l.length) 0++(Ae (UInt64.ofNat l.length*8)).take x.1) x.2 w'∧aJ w1 w'∧x.1≤8) (fun x=>8-x.1) (0,m7) ⟨rfl,rfl,rfl,rfl,trivial⟩
   ⟨by simpa using o7,x7,by simp⟩ ?_
  rintro⟨j,m⟩ w8 ⟨o8,x8,hj⟩
  dsimp only at o8 x8 hj
  refine af (af (aa (ae E E ?_)))
  refine ak E E E (iq) ?_
  refine ag (ab ?_)
  refine bt E (fun h=>?_) (fun h=>?_)
  ·have hj8:j<8:=by omega
   refine aC (ab (af (aE (aa (ae E E (ae E E (ae E E ?_)))))))
   have e8:(8:Int)*(7-(j:Int))=((56-8*j:Nat):Int):=by omega
   refine ak (r:=I ((56-8*j:Nat):Int)) E E E (by rw[←e8];exact eZ (by omega) (by omega)) ?_
   refine ak E E E (dj (56-8*j) (by omega)) ?_
   refine bc E E (lx KM KR) ?_
   obtain⟨r9,w9,hr,x9,o9,_⟩:=dR (w:=w8) w8.heap.size [((UInt64.ofNat l.length*8)>>>UInt64.ofNat (56-8*j)).toUInt8] (by simp) (Nat.le_refl _)
   refine aG (vs:=[(0,U8 ((UInt64.ofNat l.length*8)>>>UInt64.ofNat (56-8*j)).toUInt8)]) E E hr ?_
   obtain⟨r10,w10,hr,o10,g10⟩:=df (ty:=22) (o8.ext x9) o9.bts (by simp only[List.length_append,List.length_cons,List.length_nil,List.length_replicate,List.length_take];omega) (x8.trans x9).size
   refine aW E E hr ?_
   refine ac E E (ag (aR (ab (aa (ae E E ?_)))))
   refine ak E E E (bB (by omega) (by omega)) ?_
   refine ac E E (ag ?_)
   have e1:(7:Int)-(j:Int)-1=7-((j+1:Nat):Int):=by omega
   rw[e1]
   refine bJ (j+1,r10) ⟨rfl,rfl,rfl,rfl,trivial⟩ ⟨?_,(x8.trans x9).of_grew g10 o8.ge,hj8⟩ (by show 8-(j+1)<8-j;omega)
   show cF _ (l++[128]++List.replicate (gM l.length) 0++(Ae (UInt64.ofNat l.length*8)).take (j+1)) r10 w10
   rw[Gf _ hj8,←List.append_assoc]
   exact o10
  ·have hj':j=8:=by omega
   subst hj'
   rw[List.take_of_length_le (by omega)] at o8
   exact be (aK (aK (bf (bP m ⟨rfl,rfl,trivial⟩ ⟨o8,x8⟩))))
 clear o7 x7
 rintro m8 w8 ⟨o8,x8⟩
 have hM:=Bs l
 have hMl:(ep l).length≤1099511627776+80:=by
  simp only[ep,List.length_append,List.length_cons,List.length_nil,List.length_replicate];omega
 generalize hMM:ep l=M at o8 hM hMl
 refine ab (af (aa ?_))
 refine bj E E (run_build _ _ _ (iv.map bC).toArray (by kernel_rfl)) ?_
 obtain⟨g6',w9,hr,n9,x9,b9⟩:=aZ (P:=Tryz.prog) (w:=w8) (l:=(List.replicate 8 0).map bC) CO rfl
 refine aX E hr ?_
 refine ax E E (js b9 E nX (jU _)) ?_
 have b9':=b9.row (iv.map bC)
 have q9:=bF w9 g6' (iv.map bC).toArray
 have l26:g2<g6':=Nat.lt_of_lt_of_le b2.lt (Nat.le_trans x8.size n9)
 have hw6:w1.heap.size≤g6':=Nat.le_trans x8.size n9
 have E9:aJ w1 (w9.setRow g6' (iv.map bC).toArray):=(x8.trans x9).of_new q9 hw6
 have ne2:some g2≠some g6':=fun h=>by cases h;omega
 have hm9:cF w1.heap.size M m8 (w9.setRow g6' (iv.map bC).toArray):=by
  obtain⟨n,h⟩:=o8.ext x9
  exact⟨n,World.ownsRow.kept h q9 (.inr fun he=>by have:=o8.lt g6' he;omega)⟩
 have C9:=((b2.ext x8).ext x9).other q9 ne2
 revert b9' E9 hm9 C9
 generalize w9.setRow g6' (iv.map bC).toArray=w10
 intro b10 E10 o10 C10
 refine ag (ab ?_)
 have l28:∀k,m8.ownBlock=some k→k<w8.heap.size:=o8.lt
 refine af (ei (fun _:Unit=>[(2,.pointer (some ⟨g2,0,none⟩)),(6,.pointer (some ⟨g6',0,none⟩))]) (fun _ w'=>w10.grownBy w' (some g6')∧bA g6' 150 ((wU M (M.length/64)).map bC) w') ?_ ?_)
 ·refine af (aa (ac E E (ag (ab (aE ?_)))))
  refine bZ (α:=Nat) (fun k=>[(2,.pointer (some ⟨g2,0,none⟩)),(3,m8),(6,.pointer (some ⟨g6',0,none⟩)),(7,I ((64*k:Nat):Int))])
   (fun k w'=>w10.grownBy w' (some g6')∧bA g6' 150 ((wU M k).map bC) w'∧k≤M.length/64) (fun k=>M.length/64-k) 0 ⟨rfl,rfl,rfl,rfl,trivial⟩
   ⟨dZ (aJ.refl _),b10,by omega⟩ ?_
  rintro k w11 ⟨q11,b11,hk⟩
  have o11:cF w1.heap.size M m8 w11:=by
   obtain⟨n,h⟩:=o10
   exact⟨n,World.ownsRow.kept h q11 (.inr fun he=>by have:=l28 g6' he;omega)⟩
  have hs8:=oD M k
  refine af (af (aa (ae E E (ae E E ?_))))
  refine aS E E (ey o11.bts) ?_
  refine ak E E E (bb) ?_
  refine ag (ab ?_)
  refine bt E (fun h=>?_) (fun h=>?_)
  ·have hlt:64*k+64≤M.length:=by omega
   have e64:((64*k:Nat):Int)+64=((64*k+64:Nat):Int):=by omega
   have hbl:((M.take (64*k+64)).drop (64*k)).length=64:=by simp;omega
   obtain⟨r12,hr12,bt12⟩:=sq o11.bts (lo:=64*k) (hi:=64*k+64) (by omega) hlt .i64 .i64
   have hszk:(Tryz.prog.info? 150).map (·.size)=some ((wU M k).map bC).length:=by rw[List.length_map,hs8];exact nX
   have hszk':(Tryz.prog.info? 150).map (·.size)=some ((wU M (k+1)).map bC).length:=by rw[List.length_map,oD];exact nX
   refine aC (ab (af (aE ?_)))
   refine bD 7 [2,3,6,7,52] (by kernel_rfl) (by kernel_rfl) ?_
   refine aN E E (fun w' hw=>nF (m:=(wU M k).map bC) (b11.ext hw) (fun j v h=>by rwa [Nat.zero_add]) Lf E hszk) ?_
   refine ay E E (ay E E (ay E E ?_))
   refine ba (r:=I ((64*k+64:Nat):Int)) E E E (fun w _=>by rw[←e64];exact aP (by omega) (by omega)) ?_
   refine iV (a:=some (I ((64*k:Nat):Int))) (b:=some (I ((64*k+64:Nat):Int))) E E E E (fun w _=>hr12 w) ?_
   refine cd (S:=Is (.agg ((wU M (k+1)).map bC).toArray)) Aq (bG.is _) E (fun w' hw=>by
    rintro _ rfl _ rfl
    exact bH.mono (Ar hs8 hbl (bt12.ext hw)) fun v w'' h=>⟨h.1,by rw[Gg];exact h.2⟩) ?_
   refine cb ?_
   intro w12 hx12
   rintro _ rfl _ rfl _ rfl _ rfl _ rfl
   refine ax E E (js (b11.ext hx12) (by simp[oD]) hszk' (jU _)) ?_
   have b12:=(b11.ext hx12).row ((wU M (k+1)).map bC)
   have q12:=(q11.trans (dZ hx12)).trans (bF w12 g6' ((wU M (k+1)).map bC).toArray)
   refine ag (aR (ab (aa (ae E E ?_))))
   refine ak E E E (aP (by omega) (by omega)) ?_
   refine ac E E (ag ?_)
   exact bJ (k+1) ⟨rfl,rfl,rfl,rfl,trivial⟩ ⟨q12,b12,by omega⟩ (by omega)
  ·have hk':k=M.length/64:=by omega
   subst hk'
   exact be (aK (aK (bf (bP () ⟨rfl,rfl,trivial⟩ ⟨q11,b11⟩))))
 rintro _ w11 ⟨q11,b11⟩
 have C2:=C10.other q11 ne2
 have E11:aJ w1 w11:=E10.of_new q11 hw6
 have hs8:=oD M (M.length/64)
 generalize hst:wU M (M.length/64)=st at b11 hs8
 have hD:(st.flatMap vD).length=32:=by rw[As,hs8]
 refine ab (af (aa ?_))
 obtain⟨g8,w12,hr,n12,x12,b12⟩:=aZ (P:=Tryz.prog) (w:=w11) (l:=(fp (st.flatMap vD) 32 0).map U8) kQ rfl
 refine aX E hr (ag (ab ?_))
 have l68:g6'<g8:=Nat.lt_of_lt_of_le b11.lt n12
 have ne68:some g6'≠some g8:=fun h=>by cases h;omega
 have ne28:some g2≠some g8:=fun h=>by cases h;omega
 have c11:=b11.ext x12
 have D2:=C2.ext x12
 refine af (ei (fun _:Unit=>[(2,.pointer (some ⟨g2,0,none⟩)),(8,.pointer (some ⟨g8,0,none⟩))]) (fun _ w'=>w12.grownBy w' (some g8)∧bA g8 24 ((st.flatMap vD).map U8) w') ?_ ?_)
 ·refine af (aa (ac E E (ag (ab (aE ?_)))))
  refine bZ (α:=Nat) (fun i=>[(2,.pointer (some ⟨g2,0,none⟩)),(6,.pointer (some ⟨g6',0,none⟩)),(8,.pointer (some ⟨g8,0,none⟩)),(9,I (i:Int))])
   (fun i w'=>w12.grownBy w' (some g8)∧bA g8 24 ((fp (st.flatMap vD) 32 (4*i)).map U8) w'∧i≤8) (fun i=>8-i) 0 ⟨rfl,rfl,rfl,rfl,trivial⟩
   ⟨dZ (aJ.refl _),b12,by omega⟩ ?_
  rintro i w13 ⟨q13,b13,hi⟩
  refine af (af (aa (ae E E ?_)))
  refine ak E E E (bb) ?_
  refine ag (ab ?_)
  refine bt E (fun h=>?_) (fun h=>?_)
  ·have hi8:i<8:=by omega
   refine aC (ab (af (aE (af (aa (ac E E (ag (ab (aE ?_)))))))))
   refine bZ (α:=Nat) (fun k=>[(2,.pointer (some ⟨g2,0,none⟩)),(6,.pointer (some ⟨g6',0,none⟩)),(8,.pointer (some ⟨g8,0,none⟩)),(9,I (i:Int)),(10,I (k:Int))])
    (fun k w'=>w12.grownBy w' (some g8)∧bA g8 24 ((fp (st.flatMap vD) 32 (4*i+k)).map U8) w'∧k≤4) (fun k=>4-k) 0 ⟨rfl,rfl,rfl,rfl,rfl,trivial⟩
    ⟨q13,b13,by omega⟩ ?_
   rintro k w14 ⟨q14,b14,hk⟩
   refine af (af (aa (ae E E ?_)))
   refine ak E E E (bb) ?_
   refine ag (ab ?_)
   refine bt E (fun h=>?_) (fun h=>?_)
   ·have hk4:k<4:=by omega
    have c14:=c11.other q14 ne68
    have hfl:=jI (j:=4*i+k) hD (by omega)
    have e4:(4:Int)*(i:Int)=((4*i:Nat):Int):=by omega
    have e5:((4*i:Nat):Int)+(k:Int)=((4*i+k:Nat):Int):=by omega
    have e6:(24:Int)-8*(k:Int)=((24-8*k:Nat):Int):=by omega
    refine aC (ab (af (aE (aa (ae E E ?_)))))
    refine ak (r:=I ((4*i:Nat):Int)) E E E (by rw[←e4];exact eZ (by omega) (by omega)) ?_
    refine ae E E ?_
    refine ak (r:=I ((4*i+k:Nat):Int)) E E E (by rw[←e5];exact aP (by omega) (by omega)) ?_
    refine ae E E ?_
    refine au E E E (dD i (by omega)) ?_
    refine aj E E (c9 c14 i (by omega)) ?_
    refine ae E E ?_
    refine ak E E E (eZ (by omega) (by omega)) ?_
    refine ak (r:=I ((24-8*k:Nat):Int)) E E E (by rw[←e6];exact bB (by omega) (by omega)) ?_
    refine ak E E E (cI (24-8*k) (by omega)) ?_
    refine bc E E (dH KG KR) ?_
    refine au E E E (uQ (4*i+k) (by omega)) ?_
    refine ax E E (xe b14 (4*i+k) (by omega)) ?_
    have b15:=b14.setB (4*i+k) (st.getD i 0>>>UInt32.ofNat (24-8*k)).toUInt8
    have hset:(fp (st.flatMap vD) 32 (4*i+k)).set (4*i+k) (st.getD i 0>>>UInt32.ofNat (24-8*k)).toUInt8=fp (st.flatMap vD) 32 (4*i+(k+1)):=by
     rw[←lL st i k (by omega) hk4]
     exact jJ hD (by omega)
    rw[hset] at b15
    refine ag (aR (ab (aa (ae E E ?_))))
    refine ak E E E (aP (by omega) (by omega)) ?_
    refine ac E E (ag ?_)
    exact bJ (k+1) ⟨rfl,rfl,rfl,rfl,rfl,trivial⟩ ⟨q14.trans (bh w14 g8 _ _),b15,by omega⟩ (by omega)
   ·have hk':k=4:=by omega
    subst hk'
    refine be (aK (aK (bf (aR (ab (aa (ae E E ?_)))))))
    refine ak E E E (aP (by omega) (by omega)) ?_
    refine ac E E (ag ?_)
    exact bJ (i+1) ⟨rfl,rfl,rfl,rfl,trivial⟩ ⟨q14,b14,by omega⟩ (by omega)
  ·have hi':i=8:=by omega
   subst hi'
   rw[show 4*8=32 from rfl,rS hD] at b13
   exact be (aK (aK (bf (bP () ⟨rfl,rfl,trivial⟩ ⟨q13,b13⟩))))
 rintro _ w13 ⟨q13,b13⟩
 have hdig:st.flatMap vD=jA l:=by
  unfold jA sh
  rw[hMM,hst]
 rw[hdig] at b13
 have hsz:(Tryz.prog.info? 24).map (·.size)=some ((jA l).map U8).length:=by rw[List.length_map,dw];exact mO
 have F2:=D2.other q13 ne28
 refine ab (af (aa ?_))
 refine aj E E (nF (m:=(jA l).map U8) b13 (fun j v h=>by rwa [Nat.zero_add]) K7 E hsz) ?_
 refine ax E E (js F2 (by simp[dw]) hsz (qQ _)) ?_
 refine ag (ab (aw ?_))
 refine cZ E E (F2.row _) K7 E hsz ?_
 have E13:aJ w w13:=(x1.trans (E11.trans x12)).of_new q13 (by have:=x1.size;omega)
 exact⟨_,rfl,E13.of_new (bF _ _ _) n2,rfl⟩
end Go.Rl
namespace Go.Rl
open Go.RowKit Go.Proofs
def cX (st:List UInt32) (blk:List UInt8) (u:Int) (tot:UInt64):List Value:=st.map bC++(blk.map U8++[I u,bS tot])
structure HC (g:Nat) (st:List UInt32) (blk:List UInt8) (u:Int) (tot:UInt64) (w:World):Prop where
 hb:bA g 154 (cX st blk u tot) w
 ls:st.length=8
 lb:blk.length=64
section
variable {w w':World} {g:Nat} {st:List UInt32} {blk:List UInt8} {u:Int} {tot:UInt64}
theorem gQ (hs:st.length=8) (hb:blk.length=64):(cX st blk u tot).length=74:=by simp[cX,hs,hb]
theorem HC.ext (h:HC g st blk u tot w) (hx:aJ w w'):HC g st blk u tot w':=⟨h.hb.ext hx,h.ls,h.lb⟩
theorem HC.other {row:Option Nat} (h:HC g st blk u tot w) (hg:w.grownBy w' row) (hne:some g≠row):HC g st blk u tot w':=⟨h.hb.other hg hne,h.ls,h.lb⟩
theorem HC.lt (h:HC g st blk u tot w):g<w.heap.size:=h.hb.lt
theorem HC.cellS (h:HC g st blk u tot w) {i:Nat} (hi:i<8):w.cell? ⟨g,i,none⟩=some (bC (st.getD i 0)):=
 h.hb.cell (by simp[cX,List.getElem?_append,h.ls,hi])
theorem HC.cellU (h:HC g st blk u tot w):w.cell? ⟨g,72,none⟩=some (I u):=
 h.hb.cell (by unfold cX;rw[List.getElem?_append_right (by simp[h.ls]),List.length_map,h.ls,List.getElem?_append_right (by simp[h.lb]),List.length_map,h.lb];rfl)
theorem HC.cellT (h:HC g st blk u tot w):w.cell? ⟨g,73,none⟩=some (bS tot):=
 h.hb.cell (by unfold cX;rw[List.getElem?_append_right (by simp[h.ls]),List.length_map,h.ls,List.getElem?_append_right (by simp[h.lb]),List.length_map,h.lb];rfl)
theorem HC.setS (h:HC g st blk u tot w) (i:Nat) (hi:i<8) (x:UInt32):HC g (st.set i x) blk u tot (w.setCell ⟨g,i,none⟩ (bC x)):=by
 refine⟨?_,by simp[h.ls],h.lb⟩
 have:=h.hb.set i (bC x)
 unfold cX at this
 rw[List.set_append_left _ _ (by simpa [h.ls] using hi),←List.map_set] at this
 exact this
theorem HC.setU (h:HC g st blk u tot w) (x:Int):HC g st blk x tot (w.setCell ⟨g,72,none⟩ (I x)):=by
 refine⟨?_,h.ls,h.lb⟩
 have:=h.hb.set 72 (I x)
 unfold cX at this
 rw[List.set_append_right _ _ (by simp[h.ls]),List.length_map,h.ls,List.set_append_right _ _ (by simp[h.lb]),List.length_map,h.lb] at this
 exact this
theorem HC.setT (h:HC g st blk u tot w) (x:UInt64):HC g st blk u x (w.setCell ⟨g,73,none⟩ (bS x)):=by
 refine⟨?_,h.ls,h.lb⟩
 have:=h.hb.set 73 (bS x)
 unfold cX at this
 rw[List.set_append_right _ _ (by simp[h.ls]),List.length_map,h.ls,List.set_append_right _ _ (by simp[h.lb]),List.length_map,h.lb] at this
 exact this
theorem Au:(Tryz.prog.info? 107).map (·.size)=some 1:=by kernel_rfl
theorem Gh:(Tryz.prog.info? 152).map (·.size)=some 64:=by kernel_rfl
theorem xf:(Tryz.prog.info? 154).map (·.size)=some 74:=by kernel_rfl
theorem Ec:(Tryz.prog.info? 154).map (·.zero)=some (some (.agg (cX (List.replicate 8 0) (List.replicate 64 0) 0 0).toArray)):=by kernel_rfl
theorem Hx:(Instr.fieldAt 154 (.pointer (some ⟨g,0,none⟩)) 0).run Tryz.prog w=.ok (.pointer (some ⟨g,0,none⟩)) w:=by
 have h:=cp (P:=Tryz.prog) (w:=w) (n:=0) (a:=⟨g,0,none⟩) Lh rfl nX (Nat.succ_ne_zero 7)
 exact h
theorem Kn:(Instr.fieldAt 154 (.pointer (some ⟨g,0,none⟩)) 1).run Tryz.prog w=.ok (.pointer (some ⟨g,8,none⟩)) w:=by
 have h:=cp (P:=Tryz.prog) (w:=w) (n:=1) (a:=⟨g,0,none⟩) Lh rfl Gh (Nat.succ_ne_zero 63)
 exact h
theorem Ed:(Instr.fieldAt 154 (.pointer (some ⟨g,0,none⟩)) 2).run Tryz.prog w=.ok (.pointer (some ⟨g,72,none⟩)) w:=by
 have h:=cp (P:=Tryz.prog) (w:=w) (n:=2) (a:=⟨g,0,none⟩) Lh rfl qv (Nat.succ_ne_zero 0)
 exact h
theorem Jl:(Instr.fieldAt 154 (.pointer (some ⟨g,0,none⟩)) 3).run Tryz.prog w=.ok (.pointer (some ⟨g,73,none⟩)) w:=by
 have h:=cp (P:=Tryz.prog) (w:=w) (n:=3) (a:=⟨g,0,none⟩) Lh rfl Au (Nat.succ_ne_zero 0)
 exact h
theorem HC.bts (h:HC g st blk u tot w) {lo:Nat} (hlo:lo<64):cE (blk.drop lo) (.slice (some ⟨g,8+lo,none⟩) (64-lo) (64-lo)) w:=by
 refine⟨_,_,_,rfl,Nat.le_refl _,by unfold maxLen;omega,by simp[h.lb],fun _=>⟨_,rfl,fun j v hj=>?_⟩,fun h=>by cases h⟩
 rw[Addr.add_mid]
 refine h.hb.cell ?_
 unfold cX
 rw[List.getElem?_append_right (by simp[h.ls];omega),List.length_map,h.ls,show 8+lo+j-8=lo+j by omega]
 have hjl:lo+j<(blk.map U8).length:=by
  have:=(List.getElem?_eq_some_iff.1 hj).1
  simp only[List.length_map,List.length_drop] at this⊢
  omega
 rw[List.getElem?_append_left hjl]
 rw[List.map_drop,List.getElem?_drop] at hj
 exact hj
theorem IC {lo:Nat} (hlo:lo<64):(Instr.sliceAt 152 (.pointer (some ⟨g,8,none⟩)) (some (I (lo:Int))) none none).run Tryz.prog w=.ok (.slice (some ⟨g,8+lo,none⟩) (64-lo) (64-lo)) w:=
 Fa Tryz.underlying152 fa hlo .i64
theorem HC.ldS (h:HC g st blk u tot w):(Instr.loadAt 150 (.pointer (some ⟨g,0,none⟩))).run Tryz.prog w=.ok (.agg (st.map bC).toArray) w:=
 nF (m:=st.map bC) h.hb (fun j v hj=>by
  rw[Nat.zero_add]
  unfold cX
  rw[List.getElem?_append_left (List.getElem?_eq_some_iff.1 hj).1]
  exact hj) Lf rfl (by rw[List.length_map,h.ls];exact nX)
end
theorem Ee (b:List UInt8) (i j:Nat):(b.drop i).getD j 0=b.getD (i+j) 0:=by simp[List.getD]
end Go.Rl
namespace Go.Rl
open Go.RowKit Go.Proofs
theorem yO:aH Tryz.prog 87:=⟨_,Tryz.func87,by kernel_rfl,rfl⟩
theorem Ef (b:List UInt8) (k:Nat):qH b k=((((b.drop (4*k)).getD 0 0).toUInt32<<<UInt32.ofNat 24|||((b.drop (4*k)).getD 1 0).toUInt32<<<UInt32.ofNat 16)|||((b.drop (4*k)).getD 2 0).toUInt32<<<UInt32.ofNat 8)|||((b.drop (4*k)).getD 3 0).toUInt32:=by
 simp only[Ee,qH,Nat.add_zero]
theorem uR {m:List UInt32} {i:Nat} (h:i<m.length):(m.map bC)[i]? =some (bC (m.getD i 0)):=by simp[h]
theorem yP {w:World} {g:Nat} {s:List UInt32} {b:List UInt8} {u:Int} {tot:UInt64} (hc:HC g s b u tot w):
 Calls Tryz.prog 87 #[.pointer (some ⟨g,0,none⟩)] w (bH fun _ w'=>w.grownBy w' (some g)∧HC g (vG s b) b 0 tot w'):=by
 have hs:=hc.ls
 have hbl:=hc.lb
 refine enter (vs:=[.pointer (some ⟨g,0,none⟩)]) Tryz.func87 E E E ?_
 obtain⟨g2,w1,hr,n2,x1,b2⟩:=aZ (P:=Tryz.prog) (w:=w) (l:=(dh []).map bC) uL rfl
 refine af (aa (aX E hr (ag (ab ?_))))
 have lg:=hc.lt
 have hc1:=hc.ext x1
 have neg:some g≠some g2:=fun h=>by cases h;omega
 refine af (ei (fun _:Unit=>[(0,.pointer (some ⟨g,0,none⟩)),(2,.pointer (some ⟨g2,0,none⟩))]) (fun _ w'=>w1.grownBy w' (some g2)∧bA g2 200 ((dh (bE b 0)).map bC) w') ?_ ?_)
 ·refine af (aa (ae E E (ag (ab (aE ?_)))))
  refine bZ (α:=Nat) (fun k=>[(0,.pointer (some ⟨g,0,none⟩)),(2,.pointer (some ⟨g2,0,none⟩)),(17,I (k:Int))])
   (fun k w'=>w1.grownBy w' (some g2)∧bA g2 200 ((dh (i9 b k)).map bC) w'∧k≤16) (fun k=>16-k) 0 ⟨rfl,rfl,rfl,trivial⟩
   ⟨dZ (aJ.refl _),b2,by omega⟩ ?_
  rintro k w7 ⟨q7,b7,hk⟩
  refine af (aa ?_)
  refine ak E E E (bb) ?_
  refine ag (ab (af ?_))
  refine bt E (fun h=>?_) (fun h=>?_)
  ·have hk16:k<16:=by omega
   have e0:(4:Int)*(k:Int)=((4*k:Nat):Int):=by omega
   refine aC (ab (af (aE (af (aa (ae E E (ac E E (ag (ab (af (aa (ae E E ?_))))))))))))
   refine aq E E ?_
   refine ah E E Kn ?_
   refine ae E E ?_
   refine ak (r:=I ((4*k:Nat):Int)) E E E (by rw[←e0];exact eZ (by omega) (by omega)) ?_
   refine dl (a:=some (I ((4*k:Nat):Int))) E E E E E (IC (by omega)) ?_
   refine ac E E (ag (ab ?_))
   have hbt:=(hc1.other q7 neg).bts (lo:=4*k) (by omega)
   obtain⟨ad,had⟩:=hbt.reads
   rw[List.length_drop,hbl] at had
   refine bD 24 [0,2,17,48,49] (by kernel_rfl) (by kernel_rfl) ?_
   refine ay E E (ay E E ?_)
   refine aA E E E (fun w _=>(had 0 (by omega)).1 w) ?_
   refine aN E E (fun w' hw=>(had 0 (by omega)).2 w' hw) ?_
   refine dT E E (fun w _=>fA KR KG) ?_
   refine ba E E E (fun w _=>eE 24 (by omega)) ?_
   refine ay E E ?_
   refine aA E E E (fun w _=>(had 1 (by omega)).1 w) ?_
   refine aN E E (fun w' hw=>(had 1 (by omega)).2 w' hw) ?_
   refine dT E E (fun w _=>fA KR KG) ?_
   refine ba E E E (fun w _=>eE 16 (by omega)) ?_
   refine ba E E E (fun w _=>ff) ?_
   refine ay E E ?_
   refine aA E E E (fun w _=>(had 2 (by omega)).1 w) ?_
   refine aN E E (fun w' hw=>(had 2 (by omega)).2 w' hw) ?_
   refine dT E E (fun w _=>fA KR KG) ?_
   refine ba E E E (fun w _=>eE 8 (by omega)) ?_
   refine ba E E E (fun w _=>ff) ?_
   refine ay E E ?_
   refine aA E E E (fun w _=>(had 3 (by omega)).1 w) ?_
   refine aN E E (fun w' hw=>(had 3 (by omega)).2 w' hw) ?_
   refine dT E E (fun w _=>fA KR KG) ?_
   refine ba E E E (fun w _=>ff) ?_
   refine aA E E E (fun w _=>gO k (by omega)) ?_
   refine cb ?_
   intro w8 hx8
   rintro _ rfl _ rfl _ rfl _ rfl _ rfl
   have hlen:(dh (i9 b k)).length=64:=mI (by rw[jH];omega)
   rw[←Ef]
   refine ax E E (Ap (x:=qH b k) (b7.ext hx8) k (by omega)) ?_
   have b8:=(b7.ext hx8).setU k (qH b k)
   have q8:=(q7.trans (dZ hx8)).trans (bh w8 g2 k (bC (qH b k)))
   have hset:(dh (i9 b k)).set k (qH b k)=dh (i9 b (k+1)):=by
    have:=mJ (l:=i9 b k) (qH b k) (by rw[jH];omega)
    rw[jH] at this
    rw[this,uP]
   rw[hset] at b8
   refine ag (aR (ab (aa ?_)))
   refine ak E E E (aP (by omega) (by omega)) ?_
   refine ae E E (ag ?_)
   exact bJ (k+1) ⟨rfl,rfl,rfl,trivial⟩ ⟨q8,b8,by omega⟩ (by omega)
  ·have hk':k=16:=by omega
   subst hk'
   exact be (aK (aK (bf (bP () ⟨rfl,rfl,trivial⟩ ⟨q7,b7⟩))))
 rintro _ w7 ⟨q7,b7⟩
 refine ab ?_
 refine af (ei (fun _:Unit=>[(0,.pointer (some ⟨g,0,none⟩)),(2,.pointer (some ⟨g2,0,none⟩))]) (fun _ w'=>w1.grownBy w' (some g2)∧bA g2 200 ((bE b 48).map bC) w') ?_ ?_)
 ·refine af (aa (ac E E (ag (ab (aE ?_)))))
  refine bZ (α:=Nat) (fun k=>[(0,.pointer (some ⟨g,0,none⟩)),(2,.pointer (some ⟨g2,0,none⟩)),(5,I ((16+k:Nat):Int))])
   (fun k w'=>w1.grownBy w' (some g2)∧bA g2 200 ((dh (bE b k)).map bC) w'∧k≤48) (fun k=>48-k) 0 ⟨rfl,rfl,rfl,trivial⟩
   ⟨q7,b7,by omega⟩ ?_
  clear q7 b7
  rintro k w7 ⟨q7,b7,hk⟩
  have hL:=lE b k
  refine af (af (aa (ae E E ?_)))
  refine ak E E E (bb) ?_
  refine ag (ab ?_)
  refine bt E (fun h=>?_) (fun h=>?_)
  ·have hk48:k<48:=by omega
   refine aC (ab (af (aE (af ?_))))
   have e15:((16+k:Nat):Int)-15=(((bE b k).length-15:Nat):Int):=by omega
   have f15:=fW (l:=bE b k) (i:=(bE b k).length-15) (by omega)
   have e2:((16+k:Nat):Int)-2=(((bE b k).length-2:Nat):Int):=by omega
   have f2:=fW (l:=bE b k) (i:=(bE b k).length-2) (by omega)
   have e16:((16+k:Nat):Int)-16=(((bE b k).length-16:Nat):Int):=by omega
   have f16:=fW (l:=bE b k) (i:=(bE b k).length-16) (by omega)
   have e7:((16+k:Nat):Int)-7=(((bE b k).length-7:Nat):Int):=by omega
   have f7:=fW (l:=bE b k) (i:=(bE b k).length-7) (by omega)
   have hlen:(dh (bE b k)).length=64:=mI (by omega)
   refine bD 9 [0,2,5,6,62] (by kernel_rfl) (by kernel_rfl) ?_
   refine ay E E ?_
   refine ba (r:=I (((bE b k).length-15:Nat):Int)) E E E (fun w _=>by rw[←e15];exact bB (by omega) (by omega)) ?_
   refine aA E E E (fun w _=>gO _ (by omega)) ?_
   refine aN (r:=bC ((bE b k).getD ((bE b k).length-15) 0)) E E (fun w' hw=>by rw[←f15];exact c9 (b7.ext hw) _ (by omega)) ?_
   refine ay E E ?_
   refine ba (r:=I (((bE b k).length-2:Nat):Int)) E E E (fun w _=>by rw[←e2];exact bB (by omega) (by omega)) ?_
   refine aA E E E (fun w _=>gO _ (by omega)) ?_
   refine aN (r:=bC ((bE b k).getD ((bE b k).length-2) 0)) E E (fun w' hw=>by rw[←f2];exact c9 (b7.ext hw) _ (by omega)) ?_
   refine fO E E (cb ?_)
   intro w8 hx8
   rintro _ rfl _ rfl _ rfl _ rfl _ rfl
   refine ac E E (ag (ab ?_))
   have b12:=b7.ext hx8
   refine bD 29 [0,2,5,90,91] (by kernel_rfl) (by kernel_rfl) ?_
   refine ay E E (ay E E ?_)
   refine ba (r:=I (((bE b k).length-16:Nat):Int)) E E E (fun w _=>by rw[←e16];exact bB (by omega) (by omega)) ?_
   refine aA E E E (fun w _=>gO _ (by omega)) ?_
   refine aN (r:=bC ((bE b k).getD ((bE b k).length-16) 0)) E E (fun w' hw=>by rw[←f16];exact c9 (b12.ext hw) _ (by omega)) ?_
   refine ay E E ?_
   refine cd (S:=Is (bC (iG _ 7))) eU (bG.is _) E (fun w' _=>by
    rintro _ rfl _ rfl
    exact bH.mono (eV 7 (by omega) (by omega)) fun v w'' h=>⟨h.1,h.2⟩) ?_
   refine ay E E ?_
   refine cd (S:=Is (bC (iG _ 18))) eU (bG.is _) E (fun w' _=>by
    rintro _ rfl _ rfl
    exact bH.mono (eV 18 (by omega) (by omega)) fun v w'' h=>⟨h.1,h.2⟩) ?_
   refine ba E E E (fun w _=>cD) ?_
   refine ay E E ?_
   refine ba E E E (fun w _=>cI 3 (by omega)) ?_
   refine ba E E E (fun w _=>cD) ?_
   refine ba E E E (fun w _=>cA) ?_
   refine ay E E ?_
   refine ba (r:=I (((bE b k).length-7:Nat):Int)) E E E (fun w _=>by rw[←e7];exact bB (by omega) (by omega)) ?_
   refine aA E E E (fun w _=>gO _ (by omega)) ?_
   refine aN (r:=bC ((bE b k).getD ((bE b k).length-7) 0)) E E (fun w' hw=>by rw[←f7];exact c9 (b12.ext hw) _ (by omega)) ?_
   refine ba E E E (fun w _=>cA) ?_
   refine ay E E ?_
   refine cd (S:=Is (bC (iG _ 17))) eU (bG.is _) E (fun w' _=>by
    rintro _ rfl _ rfl
    exact bH.mono (eV 17 (by omega) (by omega)) fun v w'' h=>⟨h.1,h.2⟩) ?_
   refine ay E E ?_
   refine cd (S:=Is (bC (iG _ 19))) eU (bG.is _) E (fun w' _=>by
    rintro _ rfl _ rfl
    exact bH.mono (eV 19 (by omega) (by omega)) fun v w'' h=>⟨h.1,h.2⟩) ?_
   refine ba E E E (fun w _=>cD) ?_
   refine ay E E ?_
   refine ba E E E (fun w _=>cI 10 (by omega)) ?_
   refine ba E E E (fun w _=>cD) ?_
   refine ba E E E (fun w _=>cA) ?_
   refine aA E E E (fun w _=>gO (16+k) (by omega)) ?_
   refine cb ?_
   intro w13 hx13
   rintro _ rfl _ rfl _ rfl _ rfl _ rfl
   refine ax E E (Ap (x:=nR (bE b k)) (b12.ext hx13) (16+k) (by omega)) ?_
   have b13:=(b12.ext hx13).setU (16+k) (nR (bE b k))
   have q13:=((q7.trans (dZ hx8)).trans (dZ hx13)).trans (bh w13 g2 (16+k) (bC (nR (bE b k))))
   have hset:(dh (bE b k)).set (16+k) (nR (bE b k))=dh (bE b (k+1)):=by
    have:=mJ (l:=bE b k) (nR (bE b k)) (by omega)
    rw[hL] at this
    exact this
   rw[hset] at b13
   refine ag (aR (ab (aa (ae E E ?_))))
   refine ak E E E (aP (by omega) (by omega)) ?_
   refine ac E E (ag ?_)
   exact bJ (k+1) ⟨rfl,rfl,rfl,trivial⟩ ⟨q13,b13,by omega⟩ (by omega)
  ·have hk':k=48:=by omega
   subst hk'
   have hf:dh (bE b 48)=bE b 48:=by
    unfold dh
    rw[hL]
    exact List.append_nil _
   rw[hf] at b7
   exact be (aK (aK (bf (bP () ⟨rfl,rfl,trivial⟩ ⟨q7,b7⟩))))
 clear q7 b7
 rintro _ w7 ⟨q7,b7⟩
 have hc7:=hc1.other q7 neg
 refine ab (af (aa (ae E E ?_)))
 refine aq E E ?_
 refine ah E E Hx ?_
 refine aj E E hc7.ldS ?_
 have hlen8:(Tryz.prog.info? 150).map (·.size)=some (s.map bC).length:=by rw[List.length_map,hs];exact nX
 obtain⟨g8,w8,hr,n8,x8,b8⟩:=aZ (P:=Tryz.prog) (w:=w7) (l:=(List.replicate 8 0).map bC) CO rfl
 refine aX E hr ?_
 refine ax E E (js b8 (by simp[hs]) hlen8 (jU _)) ?_
 have b8':=b8.row (s.map bC)
 have q8:=bF w8 g8 (s.map bC).toArray
 have l28:g2<g8:=Nat.lt_of_lt_of_le b7.lt n8
 have lg7:=hc7.lt
 have ne28:some g2≠some g8:=fun h=>by cases h;omega
 have neg8:some g≠some g8:=fun h=>by cases h;omega
 have D2:=(b7.ext x8).other q8 ne28
 have hc8:=(hc7.ext x8).other q8 neg8
 have Q8:w.grownBy (w8.setRow g8 (s.map bC).toArray) (some g):=by
  have h1:aJ w w7:=x1.of_new q7 n2
  exact dZ ((h1.trans x8).of_new q8 (by have:=h1.size;omega))
 revert b8' D2 hc8 Q8
 generalize w8.setRow g8 (s.map bC).toArray=w9
 intro b9 D2 hc9 Q9
 refine ag (ab ?_)
 refine af (ei (fun _:Unit=>[(0,.pointer (some ⟨g,0,none⟩)),(8,.pointer (some ⟨g8,0,none⟩))]) (fun _ w'=>w9.grownBy w' (some g8)∧bA g8 150 ((dK b s 64).map bC) w') ?_ ?_)
 ·refine af (aa ?_)
  refine an (vs:=[]) uN E E (uO w9) ?_
  rintro _ w10 ⟨x10,rfl⟩
  refine ae E E (ag (ab (aE ?_)))
  refine bZ (α:=Nat) (fun i=>[(0,.pointer (some ⟨g,0,none⟩)),(2,.pointer (some ⟨g2,0,none⟩)),(8,.pointer (some ⟨g8,0,none⟩)),(96,.agg (kc.map bC).toArray),(97,I (i:Int))])
   (fun i w'=>w9.grownBy w' (some g8)∧bA g8 150 ((dK b s i).map bC) w'∧i≤64) (fun i=>64-i) 0 ⟨rfl,rfl,rfl,rfl,rfl,trivial⟩
   ⟨dZ x10,b9.ext x10,by omega⟩ ?_
  clear x10 w10
  rintro i w10 ⟨q10,b10,hi⟩
  have hv8:=gL b s hs i
  refine af (aa ?_)
  refine ak E E E (bb) ?_
  refine ag (ab (af ?_))
  refine bt E (fun h=>?_) (fun h=>?_)
  ·have hi64:i<64:=by omega
   have hkc:kc.length=64:=rfl
   have hsl:(bE b 48).length=64:=lE b 48
   refine aC (ab (af (aE (af (aa (ae E E ?_))))))
   refine lW E E E (E4 (l:=kc.map bC) Li dW KG hi64 .i64 (uR (by omega))) ?_
   refine ac E E (ac E E (ag (ab (af ?_))))
   have V:=b10
   have K6:=D2.other q10 ne28
   refine bD 5 [0,2,8,9,10,11,96,97,104] (by kernel_rfl) (by kernel_rfl) ?_
   refine aA E E E (fun w _=>dD 0 (by omega)) ?_
   refine aN E E (fun w' hw=>c9 (V.ext hw) 0 (by omega)) ?_
   refine aA E E E (fun w _=>dD 4 (by omega)) ?_
   refine aN E E (fun w' hw=>c9 (V.ext hw) 4 (by omega)) ?_
   refine fO E E (cb ?_)
   intro w11 hx11
   rintro _ rfl _ rfl _ rfl _ rfl _ rfl _ rfl _ rfl _ rfl _ rfl
   refine ac E E (ag (ab (af ?_)))
   replace V:=V.ext hx11
   replace K6:=K6.ext hx11
   refine bD 28 [0,2,8,11,96,97,132] (by kernel_rfl) (by kernel_rfl) ?_
   refine aA E E E (fun w _=>dD 7 (by omega)) ?_
   refine aN E E (fun w' hw=>c9 (V.ext hw) 7 (by omega)) ?_
   refine ay E E ?_
   refine cd (S:=Is (bC (iG _ 6))) eU (bG.is _) E (fun w' _=>by
    rintro _ rfl _ rfl
    exact bH.mono (eV 6 (by omega) (by omega)) fun v w'' h=>⟨h.1,h.2⟩) ?_
   refine ay E E ?_
   refine cd (S:=Is (bC (iG _ 11))) eU (bG.is _) E (fun w' _=>by
    rintro _ rfl _ rfl
    exact bH.mono (eV 11 (by omega) (by omega)) fun v w'' h=>⟨h.1,h.2⟩) ?_
   refine ba E E E (fun w _=>cD) ?_
   refine ay E E ?_
   refine cd (S:=Is (bC (iG _ 25))) eU (bG.is _) E (fun w' _=>by
    rintro _ rfl _ rfl
    exact bH.mono (eV 25 (by omega) (by omega)) fun v w'' h=>⟨h.1,h.2⟩) ?_
   refine ba E E E (fun w _=>cD) ?_
   refine ba E E E (fun w _=>cA) ?_
   refine ay E E ?_
   refine aA E E E (fun w _=>dD 5 (by omega)) ?_
   refine aN E E (fun w' hw=>c9 (V.ext hw) 5 (by omega)) ?_
   refine ba E E E (fun w _=>fe) ?_
   refine ay E E ?_
   refine zr E E (fun w _=>sm) ?_
   refine aA E E E (fun w _=>dD 6 (by omega)) ?_
   refine aN E E (fun w' hw=>c9 (V.ext hw) 6 (by omega)) ?_
   refine ba E E E (fun w _=>fe) ?_
   refine ba E E E (fun w _=>cD) ?_
   refine ba E E E (fun w _=>cA) ?_
   refine ay E E ?_
   refine ba E E E (fun w _=>cA) ?_
   refine ay E E ?_
   refine aA E E E (fun w _=>gO i (by omega)) ?_
   refine aN E E (fun w' hw=>c9 (K6.ext hw) i (by omega)) ?_
   refine ba E E E (fun w _=>cA) ?_
   refine cb ?_
   intro w12 hx12
   rintro _ rfl _ rfl _ rfl _ rfl _ rfl _ rfl _ rfl
   refine ac E E (ag (ab (af ?_)))
   replace V:=V.ext hx12
   refine bD 24 [0,2,8,13,96,97,156] (by kernel_rfl) (by kernel_rfl) ?_
   refine ay E E ?_
   refine cd (S:=Is (bC (iG _ 2))) eU (bG.is _) E (fun w' _=>by
    rintro _ rfl _ rfl
    exact bH.mono (eV 2 (by omega) (by omega)) fun v w'' h=>⟨h.1,h.2⟩) ?_
   refine ay E E ?_
   refine cd (S:=Is (bC (iG _ 13))) eU (bG.is _) E (fun w' _=>by
    rintro _ rfl _ rfl
    exact bH.mono (eV 13 (by omega) (by omega)) fun v w'' h=>⟨h.1,h.2⟩) ?_
   refine ba E E E (fun w _=>cD) ?_
   refine ay E E ?_
   refine cd (S:=Is (bC (iG _ 22))) eU (bG.is _) E (fun w' _=>by
    rintro _ rfl _ rfl
    exact bH.mono (eV 22 (by omega) (by omega)) fun v w'' h=>⟨h.1,h.2⟩) ?_
   refine ba E E E (fun w _=>cD) ?_
   refine ay E E ?_
   refine aA E E E (fun w _=>dD 1 (by omega)) ?_
   refine aN E E (fun w' hw=>c9 (V.ext hw) 1 (by omega)) ?_
   refine ba E E E (fun w _=>fe) ?_
   refine ay E E ?_
   refine aA E E E (fun w _=>dD 2 (by omega)) ?_
   refine aN E E (fun w' hw=>c9 (V.ext hw) 2 (by omega)) ?_
   refine ba E E E (fun w _=>fe) ?_
   refine ba E E E (fun w _=>cD) ?_
   refine aA E E E (fun w _=>dD 1 (by omega)) ?_
   refine aN E E (fun w' hw=>c9 (V.ext hw) 1 (by omega)) ?_
   refine aA E E E (fun w _=>dD 2 (by omega)) ?_
   refine aN E E (fun w' hw=>c9 (V.ext hw) 2 (by omega)) ?_
   refine ba E E E (fun w _=>fe) ?_
   refine ba E E E (fun w _=>cD) ?_
   refine ba E E E (fun w _=>cA) ?_
   refine cb ?_
   intro w13 hx13
   rintro _ rfl _ rfl _ rfl _ rfl _ rfl _ rfl _ rfl
   refine ac E E (ag (ab (aa (ae E E (ae E E ?_)))))
   replace V:=V.ext hx13
   refine ak E E E (cA) ?_
   refine au E E E (dD 0 (by omega)) ?_
   refine aj E E (c9 V 0 (by omega)) ?_
   refine au E E E (dD 1 (by omega)) ?_
   refine aj E E (c9 V 1 (by omega)) ?_
   refine au E E E (dD 2 (by omega)) ?_
   refine aj E E (c9 V 2 (by omega)) ?_
   refine au E E E (dD 3 (by omega)) ?_
   refine aj E E (c9 V 3 (by omega)) ?_
   refine ae E E ?_
   refine ak E E E (cA) ?_
   refine au E E E (dD 4 (by omega)) ?_
   refine aj E E (c9 V 4 (by omega)) ?_
   refine au E E E (dD 5 (by omega)) ?_
   refine aj E E (c9 V 5 (by omega)) ?_
   refine au E E E (dD 6 (by omega)) ?_
   refine aj E E (c9 V 6 (by omega)) ?_
   refine bj E E (run_build _ _ _ ((dK b s (i+1)).map bC).toArray (by kernel_rfl)) ?_
   have hn8:=gL b s hs (i+1)
   refine ax E E (js V (by simp[hv8,hn8]) (by rw[List.length_map,hn8];exact nX) (jU _)) ?_
   have V':=V.row ((dK b s (i+1)).map bC)
   have q14:=(q10.trans (dZ ((hx11.trans hx12).trans hx13))).trans (bF w13 g8 ((dK b s (i+1)).map bC).toArray)
   refine ag (aR (ab (aa ?_)))
   refine ak E E E (aP (by omega) (by omega)) ?_
   refine ae E E (ag ?_)
   exact bJ (i+1) ⟨rfl,rfl,rfl,rfl,rfl,trivial⟩ ⟨q14,V',by omega⟩ (by omega)
  ·have hi':i=64:=by omega
   subst hi'
   exact be (aK (aK (bf (bP () ⟨rfl,rfl,trivial⟩ ⟨q10,b10⟩))))
 rintro _ w10 ⟨q10,b10⟩
 refine ab ?_
 have hv8:=gL b s hs 64
 have hc10:=hc9.other q10 neg8
 have ha0:jd s (dK b s 64) 0=s:=by simp[jd]
 refine af (ei (fun _:Unit=>[(0,.pointer (some ⟨g,0,none⟩))]) (fun _ w'=>w10.grownBy w' (some g)∧HC g (jd s (dK b s 64) 8) b u tot w') ?_ ?_)
 ·refine af (aa ?_)
  refine aj E E (nF (m:=(dK b s 64).map bC) b10 (fun j v h=>by rwa [Nat.zero_add]) Lf E (by rw[List.length_map,hv8];exact nX)) ?_
  refine ae E E (ag (ab (aE ?_)))
  refine bZ (α:=Nat) (fun i=>[(0,.pointer (some ⟨g,0,none⟩)),(178,.agg ((dK b s 64).map bC).toArray),(179,I (i:Int))])
   (fun i w'=>w10.grownBy w' (some g)∧HC g (jd s (dK b s 64) i) b u tot w'∧i≤8) (fun i=>8-i) 0 ⟨rfl,rfl,rfl,trivial⟩
   ⟨dZ (aJ.refl _),by rw[ha0];exact hc10,by omega⟩ ?_
  rintro i w11 ⟨q11,c11,hi⟩
  refine af (aa ?_)
  refine ak E E E (bb) ?_
  refine ag (ab (af ?_))
  refine bt E (fun h=>?_) (fun h=>?_)
  ·have hi8:i<8:=by omega
   have hag:=xa hs hv8 hi8
   refine aC (ab (af (aE (af (aa (ae E E ?_))))))
   refine lW E E E (E4 (l:=(dK b s 64).map bC) Lf dW KG hi8 .i64 (uR (by omega))) ?_
   refine ac E E (ac E E (ag (ab ?_)))
   refine bD 11 [0,178,179,190,193] (by kernel_rfl) (by kernel_rfl) ?_
   refine ay E E (ay E E ?_)
   refine cN E E ?_
   refine aT E E (fun w _=>Hx) ?_
   refine aA E E E (fun w _=>dD i (by omega)) ?_
   refine aN (r:=bC (s.getD i 0)) E E (fun w' hw=>by rw[←hag];exact ai KG E ((c11.ext hw).cellS hi8)) ?_
   refine ay E E ?_
   refine ba E E E (fun w _=>cA) ?_
   refine cN E E ?_
   refine aT E E (fun w _=>Hx) ?_
   refine aA E E E (fun w _=>dD i (by omega)) ?_
   refine cb ?_
   intro w12 hx12
   rintro _ rfl _ rfl _ rfl _ rfl _ rfl
   have hcl:=gQ (u:=u) (tot:=tot) c11.ls c11.lb
   refine ax E E (ej dW E (c11.ext hx12).hb (by rw[List.size_toArray,hcl];omega)) ?_
   have c12:=(c11.ext hx12).setS i hi8 (s.getD i 0+(dK b s 64).getD i 0)
   rw[xb hs hv8 hi8] at c12
   have q12:=(q11.trans (dZ hx12)).trans (bh w12 g i (bC (s.getD i 0+(dK b s 64).getD i 0)))
   refine ag (aR (ab (aa ?_)))
   refine ak E E E (aP (by omega) (by omega)) ?_
   refine ae E E (ag ?_)
   exact bJ (i+1) ⟨rfl,rfl,rfl,trivial⟩ ⟨q12,c12,by omega⟩ (by omega)
  ·have hi':i=8:=by omega
   subst hi'
   exact be (aK (aK (bf (bP () ⟨rfl,trivial⟩ ⟨q11,c11⟩))))
 rintro _ w11 ⟨q11,c11⟩
 rw[xc hs hv8] at c11
 have hcl:=gQ (u:=u) (tot:=tot) c11.ls c11.lb
 refine ab (aa (ae E E ?_))
 refine aq E E ?_
 refine ah E E Ed ?_
 refine ax E E (ej (i:=72) qv E c11.hb (by rw[List.size_toArray,hcl];omega)) ?_
 have c12:=c11.setU 0
 refine ag ?_
 refine ju E ?_
 refine⟨_,rfl,?_,c12⟩
 have Q10:w.grownBy w10 (some g):=by
  have h:w.grownBy w9 (some g):=Q9
  refine⟨q10.os.trans h.os,q10.tape.trans h.tape,q10.output.trans h.output,Nat.le_trans h.size q10.size,fun k hk hne=>?_⟩
  exact(q10.block k (Nat.lt_of_lt_of_le hk h.size) (fun he=>by cases he;omega)).trans (h.block k hk hne)
 exact(Q10.trans q11).trans (bh w11 g 72 (I 0))
end Go.Rl
namespace Go.Rl
open Go.RowKit Go.Proofs
def HA (g:Nat) (m:List UInt8) (tot:UInt64) (w:World):Prop:=∃blk,HC g (sh m) blk ((m.length%64:Nat):Int) tot w∧blk.take (m.length%64)=m.drop (64*(m.length/64))
theorem HA.ext {g:Nat} {m:List UInt8} {tot:UInt64} {w w':World} (h:HA g m tot w) (hx:aJ w w'):HA g m tot w':=by
 obtain⟨blk,h1,h2⟩:=h
 exact⟨blk,h1.ext hx,h2⟩
theorem HA.other {g:Nat} {m:List UInt8} {tot:UInt64} {w w':World} {row:Option Nat} (h:HA g m tot w) (hg:w.grownBy w' row) (hne:some g≠row):HA g m tot w':=by
 obtain⟨blk,h1,h2⟩:=h
 exact⟨blk,h1.other hg hne,h2⟩
theorem HA.lt {g:Nat} {m:List UInt8} {tot:UInt64} {w:World} (h:HA g m tot w):g<w.heap.size:=by
 obtain⟨blk,h1,h2⟩:=h
 exact h1.lt
theorem Hy (m y:List UInt8) (h:m.length%64+y.length<64):sh (m++y)=sh m:=by
 have hm:m=m.take (64*(m.length/64))++m.drop (64*(m.length/64)):=(List.take_append_drop _ _).symm
 have hl:(m.take (64*(m.length/64))).length=64*(m.length/64):=by simp;omega
 have hd:(m.drop (64*(m.length/64))).length=m.length%64:=by simp;omega
 rw[hm,List.append_assoc,yr _ _ (by omega) (by rw[List.length_append,hd];exact h),yr _ _ (by omega) (by omega)]
theorem Hz (m y:List UInt8) (h:m.length%64+y.length=64):sh (m++y)=vG (sh m) (m.drop (64*(m.length/64))++y):=by
 have hm:m=m.take (64*(m.length/64))++m.drop (64*(m.length/64)):=(List.take_append_drop _ _).symm
 have hl:(m.take (64*(m.length/64))).length=64*(m.length/64):=by simp;omega
 have hd:(m.drop (64*(m.length/64))).length=m.length%64:=by simp;omega
 have e1:sh (m++y)=sh (m.take (64*(m.length/64))++(m.drop (64*(m.length/64))++y)):=by
  rw[←List.append_assoc,List.take_append_drop]
 have e2:sh m=sh (m.take (64*(m.length/64))):=by
  conv=>lhs;rw[hm]
  exact yr _ _ (by omega) (by omega)
 rw[e1,e2,FT _ _ (by omega) (by rw[List.length_append,hd];exact h)]
def yQ (g:Nat) (v:Value):Prop:=∀a n c,v=.slice (some a) n c→a.block≠g
theorem cE.away {l:List UInt8} {v:Value} {g:Nat} {w w':World} (h:cE l v w) (ha:0<l.length→yQ g v) (hg:w.grownBy w' (some g)):cE l v w':=by
 obtain⟨A,n,c,rfl,h1,h2,h3,h4,h5⟩:=h
 refine⟨A,n,c,rfl,h1,h2,h3,fun hn=>?_,h5⟩
 obtain⟨ad,rfl,hc⟩:=h4 hn
 have hlen:0<l.length:=by
  have:l.length=n:=by simpa using h3
  omega
 refine⟨ad,rfl,fun j u hu=>?_⟩
 have hb:(ad.add j).block=ad.block:=by unfold Addr.add;split<;>rfl
 exact hg.cell (hc j u hu) (by rw[hb];intro he;exact ha hlen ad n c rfl (Option.some.inj he))
theorem BA {l:List UInt8} {v:Value} {g:Nat} {w:World} (h:cE l v w) {lo:Nat} (hlo:lo≤l.length) (ha:yQ g v):
 ∃r,(∀w':World,(Instr.sliceAt 22 v (some (I (lo:Int))) none none).run Tryz.prog w'=.ok r w')∧cE (l.drop lo) r w∧yQ g r:=by
 obtain⟨r,hr,hb⟩:=qq h hlo .i64
 refine⟨r,hr,hb,?_⟩
 obtain⟨A,n,c,rfl,h1,h2,h3,h4,h5⟩:=h
 have hln:lo≤n:=by
  have:l.length=n:=by simpa using h3
  omega
 have hbd:(Instr.sliceBounds true n c (some (.int .i64 (lo:Int))) none none).run Tryz.prog w=.ok (lo,n,c) w:=by
  have a2:=run_sliceBound (P:=Tryz.prog) (w:=w) .i64 (lo:Int) n .sliceB (by omega) (by omega)
  simp only[Int.toNat_natCast] at a2
  simp[Instr.sliceBounds,a2]
 have hrun:(Instr.sliceAt 22 (.slice A n c) (some (.int .i64 (lo:Int))) none none).run Tryz.prog w=.ok (.slice (if c=lo then A else A.map (·.add (lo*1))) (n-lo) (c-lo)) w:=by
  simp[Instr.sliceAt,Instr.slice,run_underlying Tryz.underlying22,hbd,fj fa]
 have e:=(hr w).symm.trans hrun
 simp only[Result.ok.injEq,and_true] at e
 subst e
 intro a n' c' he
 simp only[Value.slice.injEq] at he
 obtain⟨he,_,_⟩:=he
 split at he
 ·exact ha a n c (by rw[he])
 ·obtain⟨a0,h0,rfl⟩:=Option.map_eq_some_iff.1 he
  have:(a0.add (lo*1)).block=a0.block:=by unfold Addr.add;split<;>rfl
  rw[this]
  exact ha a0 n c (by rw[h0])
theorem HB {g:Nat} {st:List UInt32} {blk x:List UInt8} {u:Int} {tot:UInt64} {w:World} {v:Value} {ty:TypeId} {o:Nat} (h:HC g st blk u tot w) (ho:o<64) (hx:cE x v w) (hne:0<x.length):
 ∃w',(Builtin.copy_ #[22,22] ty #[.slice (some ⟨g,8+o,none⟩) (64-o) (64-o),v]).run Tryz.prog w=.ok (I ((min x.length (64-o):Nat):Int)) w'∧w.grownBy w' (some g)∧
  HC g st (blk.take o++x.take (64-o)++blk.drop (o+min x.length (64-o))) u tot w':=by
 obtain⟨A,n,c,rfl,h1,h2,h3,h4,h5⟩:=hx
 have hxn:x.length=n:=by simpa using h3
 obtain⟨ad,rfl,hc⟩:=h4 (by omega)
 have hcs:((x.take (64-o)).map U8).length=min n (64-o):=by simp[hxn,Nat.min_comm]
 have hr:=run_copy_row (P:=Tryz.prog) w 22 22 ty 5 g (8+o) (64-o) (64-o) ad n c _ 154 ((x.take (64-o)).map U8) KP fa h.hb hcs
  (fun j u hj=>hc j u (by
    rw[List.map_take,List.getElem?_take] at hj
    split at hj
    ·exact hj
    ·cases hj)) (by rw[hcs,List.size_toArray,gQ h.ls h.lb];omega) (qQ _)
 rw[hcs] at hr
 refine⟨_,by rw[hxn];exact hr,bF _ _ _,?_,h.ls,?_⟩
 ·have:=h.hb.row (cX st (blk.take o++x.take (64-o)++blk.drop (o+min n (64-o))) u tot)
  rw[hxn]
  have e:((cX st blk u tot).toArray.toList.take (8+o)++(x.take (64-o)).map U8++(cX st blk u tot).toArray.toList.drop (8+o+min n (64-o)))=cX st (blk.take o++x.take (64-o)++blk.drop (o+min n (64-o))) u tot:=by
   have l8:(st.map bC).length=8:=by simp[h.ls]
   have l64:(blk.map U8).length=64:=by simp[h.lb]
   unfold cX
   rw[List.take_append,l8,List.drop_append,l8,show 8+o-8=o by omega,show 8+o+min n (64-o)-8=o+min n (64-o) by omega]
   rw[List.take_of_length_le (by omega),List.drop_eq_nil_of_le (by omega),List.nil_append]
   rw[List.take_append,l64,show o-64=0 by omega,List.take_zero,List.append_nil,List.drop_append,l64,show o+min n (64-o)-64=0 by omega,List.drop_zero]
   simp only[List.map_append,List.map_take,List.map_drop,List.append_assoc]
  rw[e]
  exact this
 ·simp only[List.length_append,List.length_take,List.length_drop,h.lb];omega
end Go.Rl
namespace Go.Rl
open Go.RowKit Go.Proofs
theorem fX:aH Tryz.prog 40:=⟨_,Tryz.func40,by kernel_rfl,rfl⟩
theorem xh:aH Tryz.prog 39:=⟨_,Tryz.func39,by kernel_rfl,rfl⟩
theorem fY {w:World} {g:Nat} {m x:List UInt8} {tot:UInt64} {v:Value} (hh:HA g m tot w) (hx:cE x v w) (ha:0<x.length→yQ g v):
 Calls Tryz.prog 40 #[.pointer (some ⟨g,0,none⟩),v] w (bH fun _ w'=>w.grownBy w' (some g)∧HA g (m++x) (tot+UInt64.ofNat x.length) w'):=by
 refine enter (vs:=[.pointer (some ⟨g,0,none⟩),v]) Tryz.func40 E E E ?_
 refine af (af (aa (ae E E ?_)))
 refine ak E E E (fP Lg) ?_
 refine ag (ab ?_)
 refine cy E ?_
 refine aC (ab (af (aa (ae E E ?_))))
 obtain⟨blk0,hc0,ht0⟩:=hh
 refine aq E E ?_
 refine ah E E Jl ?_
 refine aj E E (ai KM E hc0.cellT) ?_
 refine ae E E ?_
 refine aS E E (ey hx) ?_
 refine bc E E (fJ KI KM) ?_
 refine ak E E E (dP) ?_
 refine aq E E ?_
 refine ah E E Jl ?_
 have hcl0:=gQ (u:=((m.length%64:Nat):Int)) (tot:=tot) hc0.ls hc0.lb
 refine ax E E (ej (i:=73) Au E hc0.hb (by rw[List.size_toArray,hcl0];omega)) ?_
 have hc1:=hc0.setT (tot+UInt64.ofNat x.length)
 have q1:=bh w g 73 (bS (tot+UInt64.ofNat x.length))
 have hx1:=hx.away ha q1
 revert hc1 q1 hx1
 generalize w.setCell ⟨g,73,none⟩ (bS (tot+UInt64.ofNat x.length))=w1
 intro hc1 q1 hx1
 refine ag (ab (aE ?_))
 refine bZ (α:=Nat×Value) (fun p=>[(0,.pointer (some ⟨g,0,none⟩)),(1,p.2)])
  (fun p w'=>HA g (m++x.take p.1) (tot+UInt64.ofNat x.length) w'∧cE (x.drop p.1) p.2 w'∧(0<(x.drop p.1).length→yQ g p.2)∧w.grownBy w' (some g)∧p.1≤x.length) (fun p=>x.length-p.1) (0,v) ⟨rfl,rfl,trivial⟩
  ⟨by simpa using⟨blk0,hc1,ht0⟩,by simpa using hx1,by simpa using ha,q1,by simp⟩ ?_
 rintro⟨k,b⟩ w2 ⟨⟨blk,hc2,ht2⟩,hb2,ha2,q2,hk⟩
 dsimp only at hc2 ht2 hb2 ha2 q2 hk
 have hm':∃m',m'=m++x.take k:=⟨_,rfl⟩
 obtain⟨m',hm'⟩:=hm'
 rw[←hm'] at hc2 ht2
 refine af (af (aa (ae E E ?_)))
 refine aS E E (ey hb2) ?_
 refine ak E E E (bV) ?_
 refine ag (ab ?_)
 refine bt E (fun h=>?_) (fun h=>?_)
 ·have hlt:0<(x.drop k).length:=by omega
  have hu:m'.length%64<64:=Nat.mod_lt _ (by omega)
  refine aC (ab (aE (af ?_)))
  refine bD 9 [0,1,27,28] (by kernel_rfl) (by kernel_rfl) ?_
  refine ay E E ?_
  refine cN E E ?_
  refine aT E E (fun w _=>Kn) ?_
  refine ay E E ?_
  refine cN E E ?_
  refine aT E E (fun w _=>Ed) ?_
  refine aN E E (fun w' hw=>ai KI E (hc2.ext hw).cellU) ?_
  refine iV (a:=some (I ((m'.length%64:Nat):Int))) (b:=none) E E E E (fun w _=>IC hu) ?_
  refine ay E E (cb ?_)
  intro w3 hx3
  rintro _ rfl _ rfl _ rfl _ rfl
  have hc3:=hc2.ext hx3
  obtain⟨w4,hr,q4,hc4⟩:=HB (ty:=3) hc3 hu (hb2.ext hx3) hlt
  obtain⟨n,hn⟩:∃n,n=min (x.drop k).length (64-m'.length%64):=⟨_,rfl⟩
  rw[←hn] at hr hc4
  have hxk:(x.drop k).length=x.length-k:=List.length_drop
  have hn1:n≤x.length-k:=by omega
  have hn2:m'.length%64+n≤64:=by omega
  have hn0:0<n:=by omega
  refine IN E E hr ?_
  refine ac E E (ag (ab (af (aa (ae E E ?_)))))
  refine aq E E ?_
  refine ah E E Ed ?_
  refine aj E E (ai KI E hc4.cellU) ?_
  refine ae E E ?_
  have e1:((m'.length%64:Nat):Int)+(n:Int)=((m'.length%64+n:Nat):Int):=by omega
  refine ak (r:=I ((m'.length%64+n:Nat):Int)) E E E (by rw[←e1];exact aP (by omega) (by omega)) ?_
  refine aq E E ?_
  refine ah E E Ed ?_
  have hcl4:=gQ (u:=((m'.length%64:Nat):Int)) (tot:=tot+UInt64.ofNat x.length) hc4.ls hc4.lb
  refine ax E E (ej (i:=72) qv E hc4.hb (by rw[List.size_toArray,hcl4];omega)) ?_
  have hc5:=hc4.setU ((m'.length%64+n:Nat):Int)
  have q5:=q4.trans (bh w4 g 72 (I ((m'.length%64+n:Nat):Int)))
  revert hc5 q5
  generalize w4.setCell ⟨g,72,none⟩ (I ((m'.length%64+n:Nat):Int))=w5
  intro hc5 q5
  have hb5:=(hb2.ext hx3).away ha2 q5
  have q25:=(q2.trans (dZ hx3)).trans q5
  refine ag (ab (af (aa (ae E E (ae E E ?_)))))
  obtain⟨b6,hr6,hb6,ha6⟩:=BA hb5 (lo:=n) (by omega) (ha2 hlt)
  rw[List.drop_drop] at hb6
  refine dl (a:=some (I (n:Int))) (b:=none) E E E E E (hr6 _) ?_
  refine ac E E (ag (ab (af (aa (ae E E ?_)))))
  refine aq E E ?_
  refine ah E E Ed ?_
  refine aj E E (ai KI E hc5.cellU) ?_
  refine ak E E E (a6) ?_
  refine ag (ab ?_)
  have hyl:((x.drop k).take (64-m'.length%64)).length=n:=by rw[List.length_take,hn,Nat.min_comm]
  have hyn:(x.drop k).take (64-m'.length%64)=(x.drop k).take n:=by
   rw[hn]
   rcases Nat.le_total (x.drop k).length (64-m'.length%64) with h1|h1
   ·rw[Nat.min_eq_left h1,List.take_of_length_le h1,List.take_length]
   ·rw[Nat.min_eq_right h1]
  have hmy:m++x.take (k+n)=m'++(x.drop k).take (64-m'.length%64):=by
   rw[hyn,hm',List.append_assoc,←List.take_add]
  obtain⟨y,hy⟩:∃y,y=(x.drop k).take (64-m'.length%64):=⟨_,rfl⟩
  rw[←hy] at hc5 hyl hmy
  have hmd:(m'.drop (64*(m'.length/64))).length=m'.length%64:=by rw[List.length_drop];omega
  have hml:(m'++y).length=m'.length+n:=by rw[List.length_append,hyl]
  refine bt E (fun h=>?_) (fun h=>?_)
  ·have hfull:m'.length%64+n=64:=by omega
   refine aa (ae E E ?_)
   refine an yO E E (yP hc5) ?_
   rintro _ w6 ⟨q6,hc6⟩
   refine ag (aR ?_)
   refine bJ (k+n,b6) ⟨rfl,rfl,trivial⟩ ⟨?_,hb6.away (fun _=>ha6) q6,fun _=>ha6,q25.trans q6,by show k+n≤x.length;omega⟩ (by show x.length-(k+n)<x.length-k;omega)
   show HA g (m++x.take (k+n)) _ w6
   rw[hmy]
   have e0:(m'++y).length%64=0:=by rw[hml];omega
   have hd0:blk.drop (m'.length%64+n)=[]:=List.drop_eq_nil_of_le (by rw[hc2.lb];omega)
   rw[hd0,List.append_nil] at hc6
   have hdd:(m'++y).drop (64*((m'++y).length/64))=[]:=List.drop_eq_nil_of_le (by omega)
   refine⟨blk.take (m'.length%64)++y,?_,by rw[e0,hdd,List.take_zero]⟩
   rw[e0,Hz m' y (by omega),←ht2]
   exact hc6
  ·have hpart:m'.length%64+n<64:=by omega
   refine aC (aR ?_)
   refine bJ (k+n,b6) ⟨rfl,rfl,trivial⟩ ⟨?_,hb6,fun _=>ha6,q25,by show k+n≤x.length;omega⟩ (by show x.length-(k+n)<x.length-k;omega)
   show HA g (m++x.take (k+n)) _ w5
   rw[hmy]
   have e0:(m'++y).length%64=m'.length%64+n:=by rw[hml];omega
   have e2:(m'++y).length/64=m'.length/64:=by rw[hml];omega
   refine⟨_,by rw[e0,Hy m' y (by omega)];exact hc5,?_⟩
   rw[e0,e2,List.drop_append_of_le_length (by omega),←ht2]
   rw[List.take_append_of_le_length (by rw[List.length_append,List.length_take,hc2.lb,hyl];omega)]
   exact List.take_of_length_le (by rw[List.length_append,List.length_take,hc2.lb,hyl];omega)
 ·have hk':k=x.length:=by
   have:(x.drop k).length=x.length-k:=List.length_drop
   omega
  refine be (aK (aK (bf ?_)))
  refine ju E ?_
  refine⟨_,rfl,q2,?_⟩
  rw[hk',List.take_length] at hm'
  rw[hm'] at hc2 ht2
  exact⟨blk,hc2,ht2⟩
theorem xi (w:World):Calls Tryz.prog 39 #[] w (bH fun r w'=>aJ w w'∧∃g,w.heap.size≤g∧r=.pointer (some ⟨g,0,none⟩)∧HA g [] 0 w'):=by
 refine enter (vs:=[]) Tryz.func39 E E E ?_
 refine af (aa (ac E E (ag (ab (af (aa ?_))))))
 refine bj E E (run_build _ _ _ (iv.map bC).toArray (by kernel_rfl)) ?_
 refine bj E E (run_build _ _ _ (cX iv (List.replicate 64 0) 0 0).toArray (by kernel_rfl)) ?_
 obtain⟨g,w1,hr,n1,x1,b1⟩:=Bz (P:=Tryz.prog) (w:=w) (t:=154) (v:=.agg (cX iv (List.replicate 64 0) 0 0).toArray) (l:=cX iv (List.replicate 64 0) 0 0) rfl
 refine cm E E hr ?_
 refine ac E E (ag (ab (aw ?_)))
 refine av E E ?_
 exact⟨_,rfl,x1,g,n1,rfl,List.replicate 64 0,⟨b1,rfl,by simp⟩,rfl⟩
theorem HC.ldH {g:Nat} {st:List UInt32} {blk:List UInt8} {u:Int} {tot:UInt64} {w:World} (h:HC g st blk u tot w):(Instr.loadAt 154 (.pointer (some ⟨g,0,none⟩))).run Tryz.prog w=.ok (.agg (cX st blk u tot).toArray) w:=
 nF (m:=cX st blk u tot) h.hb (fun j v hj=>by rwa [Nat.zero_add]) Lh rfl (by rw[gQ h.ls h.lb];exact xf)
theorem Ko {st:List UInt32} {blk:List UInt8} {u:Int} {tot:UInt64}:∀v∈cX st blk u tot,v.oneCell'=true:=by
 intro v hv
 unfold cX at hv
 rcases List.mem_append.1 hv with h|h
 ·exact jU _ v h
 ·rcases List.mem_append.1 h with h|h
  ·exact qQ _ v h
  ·simp only[List.mem_cons,List.not_mem_nil,or_false] at h
   rcases h with rfl|rfl<;>rfl
end Go.Rl
namespace Go.Rl
open Go.RowKit Go.Proofs
theorem xj:aH Tryz.prog 42:=⟨_,Tryz.func42,by kernel_rfl,rfl⟩
theorem Jm:(Tryz.prog.info? 155).map (·.zero)=some (some (.agg (List.replicate 8 (U8 0)).toArray)):=by kernel_rfl
theorem Av {g k:Nat} {v:Value} (h:v.ownBlock=some k) (hne:k≠g):yQ g v:=by
 rintro a n c rfl
 intro he
 have:some a.block=some k:=h
 exact hne (by rw[←Option.some.inj this];exact he)
theorem HD (n:UInt64) {i:Nat} (hi:i<8):(Ae n).getD i 0=(n>>>UInt64.ofNat (56-8*i)).toUInt8:=by
 simp[Ae,hi]
section
variable {w:World} {g o:Nat} {T:TypeId}
theorem Jn (i:Nat) (hi:i<8):(Instr.indexAt 155 (.pointer (some ⟨g,0,none⟩)) (I (i:Int))).run Tryz.prog w=.ok (.pointer (some ⟨g,i,none⟩)) w:=by
 have:=gq (P:=Tryz.prog) (w:=w) (g:=g) (o:=0) Tryz.underlying155 fa hi .i64
 rwa [Nat.zero_add] at this
theorem Jo:(Instr.sliceAt 155 (.pointer (some ⟨g,0,none⟩)) none none none).run Tryz.prog w=.ok (.slice (some ⟨g,0,none⟩) 8 8) w:=by
 simp[Instr.sliceAt,run_underlying Tryz.underlying155,Instr.sureAddr,Instr.sliceBounds,fj fa,Addr.add_mid]
theorem bA.bts {m:List UInt8} (h:bA g T (m.map U8) w) (hm:m.length≤64):cE m (.slice (some ⟨g,0,none⟩) m.length m.length) w:=
 ⟨_,_,_,rfl,Nat.le_refl _,by unfold maxLen;omega,by simp,fun _=>⟨_,rfl,fun j v hj=>by rw[Addr.add_mid,Nat.zero_add];exact h.cell hj⟩,fun h=>by cases h⟩
end
theorem xk {w:World} {g:Nat} {m:List UInt8} (hh:HA g m (UInt64.ofNat m.length) w):
 Calls Tryz.prog 42 #[.pointer (some ⟨g,0,none⟩)] w (bH fun r w'=>aJ w w'∧r=.agg ((jA m).map U8).toArray):=by
 obtain⟨blk,hc,ht⟩:=hh
 refine enter (vs:=[.pointer (some ⟨g,0,none⟩)]) Tryz.func42 E E E ?_
 obtain⟨g2,w1,hr,n2,x1,b2⟩:=aZ (P:=Tryz.prog) (w:=w) (l:=(List.replicate 32 0).map U8) kQ rfl
 refine af (aa (aX E hr (ag (ab (af (af (aa (ae E E ?_))))))))
 refine ak E E E (fP Lg) ?_
 refine ag (ab ?_)
 refine cy E ?_
 refine aC (ab (af (aa (ae E E ?_))))
 refine aq E E ?_
 refine aj E E (hc.ext x1).ldH ?_
 obtain⟨g3,w2,hr,n3,x2,b3⟩:=aZ (P:=Tryz.prog) (w:=w1) (l:=cX (List.replicate 8 0) (List.replicate 64 0) 0 0) Ec rfl
 refine aX E hr ?_
 have hl:=gQ (u:=((m.length%64:Nat):Int)) (tot:=UInt64.ofNat m.length) hc.ls hc.lb
 refine ax E E (js b3 (by rw[hl];rfl) (by rw[hl];exact xf) Ko) ?_
 have hA:HA g3 m (UInt64.ofNat m.length) (w2.setRow g3 (cX (sh m) blk ((m.length%64:Nat):Int) (UInt64.ofNat m.length)).toArray):=⟨blk,⟨b3.row _,hc.ls,hc.lb⟩,ht⟩
 have q3:=bF w2 g3 (cX (sh m) blk ((m.length%64:Nat):Int) (UInt64.ofNat m.length)).toArray
 have l23:g2<g3:=Nat.lt_of_lt_of_le b2.lt n3
 have ne23:some g2≠some g3:=fun h=>by cases h;omega
 have hw3:w.heap.size≤g3:=by omega
 have B2:=(b2.ext x2).other q3 ne23
 have E3:=(x1.trans x2).of_new q3 hw3
 revert hA B2 E3
 generalize w2.setRow g3 (cX (sh m) blk ((m.length%64:Nat):Int) (UInt64.ofNat m.length)).toArray=w3
 intro hA B2 E3
 refine ag (ab (af (aa ?_)))
 refine ah E E Jl ?_
 obtain⟨blk',hcA,htA⟩:=id hA
 refine aj E E (ai KM E hcA.cellT) ?_
 refine ak (v:=bS 8) E E E (iI) ?_
 refine ac E E (ag (ab (af (aa ?_))))
 obtain⟨r4,w4,hr,x4,o4,ob4⟩:=dR (w:=w3) w3.heap.size [128] (by simp) (Nat.le_refl _)
 refine aG (vs:=[(0,U8 128)]) E E hr ?_
 refine an fX E E (fY (hA.ext x4) o4.bts (fun _=>Av ob4 (by have:=hA.lt;omega))) ?_
 rintro _ w5 ⟨q5,h5⟩
 have B5:=(B2.ext x4).other q5 ne23
 have E5:=(E3.trans x4).of_new q5 hw3
 refine ag (ab ?_)
 have hp:gM m.length<64:=by unfold gM;omega
 refine af (ei (fun _:Unit=>[(2,.pointer (some ⟨g2,0,none⟩)),(3,.pointer (some ⟨g3,0,none⟩)),(4,bS (UInt64.ofNat m.length*8))]) (fun _ w'=>aJ w w'∧bA g2 24 ((List.replicate 32 0).map U8) w'∧∃tot,HA g3 (m++[128]++List.replicate (gM m.length) 0) tot w') ?_ ?_)
 ·refine aE ?_
  refine bZ (α:=Nat) (fun _=>[(2,.pointer (some ⟨g2,0,none⟩)),(3,.pointer (some ⟨g3,0,none⟩)),(4,bS (UInt64.ofNat m.length*8))])
   (fun k w'=>aJ w w'∧bA g2 24 ((List.replicate 32 0).map U8) w'∧(∃tot,HA g3 (m++[128]++List.replicate k 0) tot w')∧k≤gM m.length) (fun k=>gM m.length-k) 0 ⟨rfl,rfl,rfl,trivial⟩
   ⟨E5,B5,⟨_,by simpa using h5⟩,by omega⟩ ?_
  rintro k w6 ⟨E6,B6,⟨tot,h6⟩,hk⟩
  obtain⟨blk6,hc6,ht6⟩:=id h6
  have hm:(m++[128]++List.replicate k 0).length=m.length+1+k:=by simp;omega
  refine af (af (aa ?_))
  refine ah E E Ed ?_
  refine aj E E (ai KI E hc6.cellU) ?_
  refine ak E E E (dF) ?_
  refine ag (ab ?_)
  rw[hm]
  refine bt E (fun h=>?_) (fun h=>?_)
  ·have hlt:k<gM m.length:=by
    rcases Nat.lt_or_ge k (gM m.length) with h1|h1
    ·exact h1
    ·have:k=gM m.length:=by omega
     subst this
     exfalso
     unfold gM at h
     omega
   refine aC (ab (aE (aa ?_)))
   obtain⟨r7,w7,hr,x7,o7,ob7⟩:=dR (w:=w6) w6.heap.size [0] (by simp) (Nat.le_refl _)
   refine aG (vs:=[(0,U8 0)]) E E hr ?_
   refine an fX E E (fY (h6.ext x7) o7.bts (fun _=>Av ob7 (by have:=h6.lt;omega))) ?_
   rintro _ w8 ⟨q8,h8⟩
   refine ag (aR ?_)
   rw[List.append_assoc _ (List.replicate k 0) [0],←List.replicate_succ'] at h8
   exact bJ (k+1) ⟨rfl,rfl,rfl,trivial⟩ ⟨(E6.trans x7).of_new q8 hw3,(B6.ext x7).other q8 ne23,⟨_,h8⟩,hlt⟩ (by omega)
  ·have hk':k=gM m.length:=by
    unfold gM at hk hp⊢
    omega
   subst hk'
   exact be (aK (aK (bf (bP () ⟨rfl,rfl,rfl,trivial⟩ ⟨E6,B6,tot,h6⟩))))
 rintro _ w6 ⟨E6,B6,tot6,h6⟩
 refine ab (af (aa ?_))
 obtain⟨bits,hbits⟩:∃b,b=UInt64.ofNat m.length*8:=⟨_,rfl⟩
 rw[←hbits]
 have hb8:=yN bits
 obtain⟨g5,w7,hr,n5,x7,b7⟩:=aZ (P:=Tryz.prog) (w:=w6) (l:=(fp (Ae bits) 8 0).map U8) Jm rfl
 refine aX E hr (ag (ab ?_))
 have l35:g3<g5:=Nat.lt_of_lt_of_le h6.lt n5
 have ne25:some g2≠some g5:=fun h=>by cases h;omega
 have ne35:some g3≠some g5:=fun h=>by cases h;omega
 refine af (ei (fun _:Unit=>[(2,.pointer (some ⟨g2,0,none⟩)),(3,.pointer (some ⟨g3,0,none⟩)),(5,.pointer (some ⟨g5,0,none⟩))]) (fun _ w'=>w7.grownBy w' (some g5)∧bA g5 155 ((Ae bits).map U8) w') ?_ ?_)
 ·refine af (aa (ae E E (ag (ab (aE ?_)))))
  refine bZ (α:=Nat) (fun i=>[(2,.pointer (some ⟨g2,0,none⟩)),(3,.pointer (some ⟨g3,0,none⟩)),(4,bS bits),(5,.pointer (some ⟨g5,0,none⟩)),(27,I (i:Int))])
   (fun i w'=>w7.grownBy w' (some g5)∧bA g5 155 ((fp (Ae bits) 8 i).map U8) w'∧i≤8) (fun i=>8-i) 0 ⟨rfl,rfl,rfl,rfl,rfl,trivial⟩
   ⟨dZ (aJ.refl _),b7,by omega⟩ ?_
  rintro i w8 ⟨q8,b8,hi⟩
  refine af (aa ?_)
  refine ak E E E (bb) ?_
  refine ag (ab (af ?_))
  refine bt E (fun h=>?_) (fun h=>?_)
  ·have hi8:i<8:=by omega
   have hfl:=jI (j:=i) hb8 (by omega)
   have e6:(56:Int)-8*(i:Int)=((56-8*i:Nat):Int):=by omega
   refine aC (ab (af (aE (af (aa (ae E E (ac E E (ag (ab (aa (ae E E (ae E E (ae E E ?_)))))))))))))
   refine ak E E E (eZ (by omega) (by omega)) ?_
   refine ak (r:=I ((56-8*i:Nat):Int)) E E E (by rw[←e6];exact bB (by omega) (by omega)) ?_
   refine ak E E E (dj (56-8*i) (by omega)) ?_
   refine bc E E (lx KM KR) ?_
   refine au E E E (Jn i hi8) ?_
   refine ax E E (xe b8 i (by omega)) ?_
   have b9:=b8.setB i (bits>>>UInt64.ofNat (56-8*i)).toUInt8
   have hset:(fp (Ae bits) 8 i).set i (bits>>>UInt64.ofNat (56-8*i)).toUInt8=fp (Ae bits) 8 (i+1):=by
    rw[←HD bits hi8]
    exact jJ hb8 hi8
   rw[hset] at b9
   refine ag (aR (ab (aa ?_)))
   refine ak E E E (aP (by omega) (by omega)) ?_
   refine ae E E (ag ?_)
   exact bJ (i+1) ⟨rfl,rfl,rfl,rfl,rfl,trivial⟩ ⟨q8.trans (bh w8 g5 i _),b9,by omega⟩ (by omega)
  ·have hi':i=8:=by omega
   subst hi'
   rw[rS hb8] at b8
   exact be (aK (aK (bf (bP () ⟨rfl,rfl,rfl,trivial⟩ ⟨q8,b8⟩))))
 rintro _ w8 ⟨q8,b8⟩
 have E8:aJ w w8:=(E6.trans x7).of_new q8 (by omega)
 have B8:=(B6.ext x7).other q8 ne25
 have h8:=(h6.ext x7).other q8 ne35
 refine ab (af (aa ?_))
 refine dl (a:=none) (b:=none) E E E E E Jo ?_
 have bt8:=b8.bts (by omega)
 rw[hb8] at bt8
 refine an fX rfl rfl (fY h8 bt8 (by rintro _ a n c he;cases he;show g5≠g3;omega)) ?_
 rintro _ w9 ⟨q9,h9⟩
 have hpad:m++[128]++List.replicate (gM m.length) 0++Ae bits=ep m:=by rw[hbits];rfl
 rw[hpad] at h9
 have E9:=E8.of_new q9 hw3
 have B9:=B8.other q9 ne23
 refine ag (ab (af (aa ?_)))
 obtain⟨g7,w10,hr,n7,x10,b10⟩:=aZ (P:=Tryz.prog) (w:=w9) (l:=(fp (jA m) 32 0).map U8) kQ rfl
 refine aX E hr (ag (ab ?_))
 obtain⟨blk9,hc9,_⟩:=h9.ext x10
 have l37:g3<g7:=Nat.lt_of_lt_of_le h9.lt n7
 have ne27:some g2≠some g7:=fun h=>by cases h;omega
 have hs8:=Fsz (ep m)
 have hdl:=dw m
 refine af (ei (fun _:Unit=>[(2,.pointer (some ⟨g2,0,none⟩)),(7,.pointer (some ⟨g7,0,none⟩))]) (fun _ w'=>w10.grownBy w' (some g7)∧bA g7 24 ((jA m).map U8) w') ?_ ?_)
 ·refine af (aa ?_)
  refine ah E E Hx ?_
  refine aj E E hc9.ldS ?_
  refine ae E E (ag (ab (aE ?_)))
  refine bZ (α:=Nat) (fun i=>[(2,.pointer (some ⟨g2,0,none⟩)),(7,.pointer (some ⟨g7,0,none⟩)),(42,.agg ((sh (ep m)).map bC).toArray),(43,I (i:Int))])
   (fun i w'=>w10.grownBy w' (some g7)∧bA g7 24 ((fp (jA m) 32 (4*i)).map U8) w'∧i≤8) (fun i=>8-i) 0 ⟨rfl,rfl,rfl,rfl,trivial⟩
   ⟨dZ (aJ.refl _),b10,by omega⟩ ?_
  rintro i w11 ⟨q11,b11,hi⟩
  refine af (aa ?_)
  refine ak E E E (bb) ?_
  refine ag (ab (af ?_))
  refine bt E (fun h=>?_) (fun h=>?_)
  ·have hi8:i<8:=by omega
   have e0:(4:Int)*(i:Int)=((4*i:Nat):Int):=by omega
   have e1:((4*i:Nat):Int)+1=((4*i+1:Nat):Int):=by omega
   have e2:((4*i:Nat):Int)+2=((4*i+2:Nat):Int):=by omega
   have e3:((4*i:Nat):Int)+3=((4*i+3:Nat):Int):=by omega
   have s0:=jI (j:=4*i) hdl (by omega)
   have s1:=jI (j:=4*i+1) hdl (by omega)
   have s2:=jI (j:=4*i+2) hdl (by omega)
   have s3:=jI (j:=4*i+3) hdl (by omega)
   refine aC (ab (af (aE (af (aa (ae E E ?_))))))
   refine lW E E E (E4 (l:=(sh (ep m)).map bC) Lf dW KG hi8 .i64 (uR (by omega))) ?_
   refine ac E E (ac E E (ag (ab (aa (ae E E ?_)))))
   refine ak (r:=I ((4*i:Nat):Int)) E E E (by rw[←e0];exact eZ (by omega) (by omega)) ?_
   refine ae E E ?_
   refine ak (r:=I ((4*i:Nat):Int)) E E E (by rw[←e0];exact eZ (by omega) (by omega)) ?_
   refine ak (r:=I ((4*i+1:Nat):Int)) E E E (by rw[←e1];exact aP (by omega) (by omega)) ?_
   refine ae E E ?_
   refine ak (r:=I ((4*i:Nat):Int)) E E E (by rw[←e0];exact eZ (by omega) (by omega)) ?_
   refine ak (r:=I ((4*i+2:Nat):Int)) E E E (by rw[←e2];exact aP (by omega) (by omega)) ?_
   refine ae E E ?_
   refine ak (r:=I ((4*i:Nat):Int)) E E E (by rw[←e0];exact eZ (by omega) (by omega)) ?_
   refine ak (r:=I ((4*i+3:Nat):Int)) E E E (by rw[←e3];exact aP (by omega) (by omega)) ?_
   refine ae E E ?_
   refine ak E E E (cI 24 (by omega)) ?_
   refine bc E E (dH KG KR) ?_
   refine ae E E ?_
   refine ak E E E (cI 16 (by omega)) ?_
   refine bc E E (dH KG KR) ?_
   refine ae E E ?_
   refine ak E E E (cI 8 (by omega)) ?_
   refine bc E E (dH KG KR) ?_
   refine ae E E ?_
   refine bc E E (dH KG KR) ?_
   have d0:(jA m).getD (4*i) 0=((sh (ep m)).getD i 0>>>UInt32.ofNat 24).toUInt8:=lL (sh (ep m)) i 0 (by omega) (by omega)
   have d1:(jA m).getD (4*i+1) 0=((sh (ep m)).getD i 0>>>UInt32.ofNat 16).toUInt8:=lL (sh (ep m)) i 1 (by omega) (by omega)
   have d2:(jA m).getD (4*i+2) 0=((sh (ep m)).getD i 0>>>UInt32.ofNat 8).toUInt8:=lL (sh (ep m)) i 2 (by omega) (by omega)
   have d3:(jA m).getD (4*i+3) 0=((sh (ep m)).getD i 0).toUInt8:=by
    have:=lL (sh (ep m)) i 3 (by omega) (by omega)
    rw[show UInt32.ofNat (24-8*3)=0 from rfl,UInt32.shiftRight_zero] at this
    exact this
   have f0:(fp (jA m) 32 (4*i)).set (4*i) ((jA m).getD (4*i) 0)=fp (jA m) 32 (4*i+1):=jJ hdl (by omega)
   have f1:(fp (jA m) 32 (4*i+1)).set (4*i+1) ((jA m).getD (4*i+1) 0)=fp (jA m) 32 (4*i+2):=jJ hdl (by omega)
   have f2:(fp (jA m) 32 (4*i+2)).set (4*i+2) ((jA m).getD (4*i+2) 0)=fp (jA m) 32 (4*i+3):=jJ hdl (by omega)
   have f3:(fp (jA m) 32 (4*i+3)).set (4*i+3) ((jA m).getD (4*i+3) 0)=fp (jA m) 32 (4*(i+1)):=jJ hdl (by omega)
   rw[d0] at f0
   rw[d1] at f1
   rw[d2] at f2
   rw[d3] at f3
   refine au E E E (uQ (4*i) (by omega)) ?_
   refine ax E E (xe b11 (4*i) (by omega)) ?_
   have b12:=b11.setB (4*i) ((sh (ep m)).getD i 0>>>UInt32.ofNat 24).toUInt8
   rw[f0] at b12
   refine au E E E (uQ (4*i+1) (by omega)) ?_
   refine ax E E (xe b12 (4*i+1) (by omega)) ?_
   have b13:=b12.setB (4*i+1) ((sh (ep m)).getD i 0>>>UInt32.ofNat 16).toUInt8
   rw[f1] at b13
   refine au E E E (uQ (4*i+2) (by omega)) ?_
   refine ax E E (xe b13 (4*i+2) (by omega)) ?_
   have b14:=b13.setB (4*i+2) ((sh (ep m)).getD i 0>>>UInt32.ofNat 8).toUInt8
   rw[f2] at b14
   refine au E E E (uQ (4*i+3) (by omega)) ?_
   refine ax E E (xe b14 (4*i+3) (by omega)) ?_
   have b15:=b14.setB (4*i+3) ((sh (ep m)).getD i 0).toUInt8
   rw[f3] at b15
   refine ag (aR (ab (aa ?_)))
   refine ak E E E (aP (by omega) (by omega)) ?_
   refine ae E E (ag ?_)
   exact bJ (i+1) ⟨rfl,rfl,rfl,rfl,trivial⟩ ⟨(((q11.trans (bh _ g7 (4*i) _)).trans (bh _ g7 (4*i+1) _)).trans (bh _ g7 (4*i+2) _)).trans (bh _ g7 (4*i+3) _),b15,by omega⟩ (by omega)
  ·have hi':i=8:=by omega
   subst hi'
   rw[show 4*8=32 from rfl,rS hdl] at b11
   exact be (aK (aK (bf (bP () ⟨rfl,rfl,trivial⟩ ⟨q11,b11⟩))))
 rintro _ w11 ⟨q11,b11⟩
 have hsz:(Tryz.prog.info? 24).map (·.size)=some ((jA m).map U8).length:=by rw[List.length_map,dw];exact mO
 have F2:=(B9.ext x10).other q11 ne27
 have E11:aJ w w11:=(E9.trans x10).of_new q11 (by omega)
 refine ab (af (aa ?_))
 refine aj E E (nF (m:=(jA m).map U8) b11 (fun j v h=>by rwa [Nat.zero_add]) K7 E hsz) ?_
 refine ax E E (js F2 (by simp[dw]) hsz (qQ _)) ?_
 refine ag (ab (aw ?_))
 refine cZ E E (F2.row _) K7 E hsz ?_
 exact⟨_,rfl,E11.of_new (bF _ _ _) n2,rfl⟩
end Go.Rl
namespace Go.Rl
open Go.RowKit Go.Proofs
theorem Aw {P:Program} {w:World} {t:TypeId} {x y:Operand} {a b:Array Value} (hg:P.eqGuardType P.depth t=false):(bin .neq t x y (.agg a) (.agg b)).run P w=(do pure (Value.bool (!(←Op.equal t (.agg a) (.agg b)))):Sem Value).run P w:=by
 show(do eqGuard .neq t x y (.agg a) (.agg b);binOp .neq t (.agg a) (.agg b):Sem Value).run P w=_
 rw[Sem.run_bind,run_eqGuard_agg (hm:=hg)]
 rfl
theorem Eg:aH Tryz.prog 52:=⟨_,Tryz.func52,by kernel_rfl,rfl⟩
theorem cE.old {l:List UInt8} {v:Value} {w:World} (h:cE l v w) {g:Nat} (hg:w.heap.size≤g):0<l.length→yQ g v:=fun h0 a n c he=>by
 obtain⟨A,n',c',rfl,h1,h2,h3,h4,h5⟩:=h
 have hn:l.length=n':=by simpa using h3
 obtain⟨ad,rfl,hc⟩:=h4 (by omega)
 simp only[Value.slice.injEq,Option.some.injEq] at he
 obtain⟨rfl,_,_⟩:=he
 have h6:=hc 0 (U8 l[0]) (by simp[h0])
 rw[i0] at h6
 have:ad.block<w.heap.size:=by
  rcases Nat.lt_or_ge ad.block w.heap.size with h7|h7
  ·exact h7
  ·simp[World.cell?,Array.getElem?_eq_none h7] at h6
 omega
end Go.Rl
namespace Go.Rl
open Go.RowKit Go.Proofs
theorem Eh {w:World} {l:List UInt8} {v:Value} (hv:cE l v w):
 Calls Tryz.prog 52 #[v] w (bH fun r w'=>aJ w w'∧r=.agg ((jA l).map U8).toArray):=by
 refine enter (vs:=[v]) Tryz.func52 E E E ?_
 obtain⟨g2,w1,hr,n2,x1,b2⟩:=aZ (P:=Tryz.prog) (w:=w) (l:=(List.replicate 32 0).map U8) kQ rfl
 refine af (aa (aX E hr (ag (ab (af (aa ?_))))))
 refine an (vs:=[]) xh E E (xi w1) ?_
 rintro _ w2 ⟨x2,g,hg,rfl,hA⟩
 refine ac E E (ag (ab (af (aa (ae E E (ae E E ?_))))))
 have e2:=x1.trans x2
 refine an fX E E (fY hA (hv.ext e2) (hv.old (Nat.le_trans x1.size hg))) ?_
 rintro _ w3 ⟨q3,h3⟩
 rw[List.nil_append,UInt64.zero_add] at h3
 have l2:g2<g:=Nat.lt_of_lt_of_le b2.lt hg
 have hwg:w.heap.size≤g:=by omega
 have e3:=e2.of_new q3 hwg
 have B3:=(b2.ext x2).other q3 (fun h=>by cases h;omega)
 refine ag (ab (af (aa (ae E E ?_))))
 refine an xj E E (xk h3) ?_
 rintro _ w4 ⟨x4,rfl⟩
 have hsz:(Tryz.prog.info? 24).map (·.size)=some ((jA l).map U8).length:=by rw[List.length_map,dw];exact mO
 have B4:=B3.ext x4
 refine ax E E (js B4 (by simp[dw]) hsz (qQ _)) ?_
 refine ag (ab (aw ?_))
 refine cZ E E (B4.row _) K7 E hsz ?_
 exact⟨_,rfl,(e3.trans x4).of_new (bF _ _ _) n2,rfl⟩
end Go.Rl
namespace Go.Rl
open Go.RowKit
def Jp:List UInt8:=[82,76,85,67]
abbrev Ax:=List UInt8×List aV
def vF:List UInt8:=List.replicate 32 0
def JQ:Ax:=(vF,[])
def upC (l:List UInt8):List UInt8×Int:=Jk ((l.take (l.length-32)).drop 36) 4194304 (vr ((l.take (l.length-32)).drop 36))
def trC (b:List UInt8):Option (List aV):=match rdTs b with
 |some (ts,[])=>some ts
 |_=>none
def HE (l:List UInt8):Ax×Int:=
 if 1048576<l.length then(JQ,8) else if l.length<68∨l.take 4≠Jp then(JQ,5) else if jA (l.take (l.length-32))≠l.drop (l.length-32) then(JQ,6) else
  if (upC l).2≠0 then(JQ,(upC l).2) else match trC (upC l).1 with
  |some ts=>if ts.all mG=true then(((l.take 36).drop 4,ts),0) else(JQ,1)
  |none=>(JQ,5)
theorem Ay {α:Type} {p:α→Bool} {l:List α} {i:Nat} (hi:i<l.length):(l.drop i).all p=(p l[i]&&(l.drop (i+1)).all p):=by
 rw[List.drop_eq_getElem_cons hi];rfl
end Go.Rl
namespace Go.Rl
open Go.RowKit
def ID (d p:List UInt8):List UInt8:=Jp++d++p++jA (Jp++d++p)
def Jq (c:Ax):List UInt8×Int:=if (c.2.all fun n=>mG n&&iD n)=true then(if 4194304<(FV c.2).length then([],8) else if 1048576<(ID c.1 (yI (FV c.2))).length then([],8) else(ID c.1 (yI (FV c.2)),0)) else([],1)
end Go.Rl
namespace Go.Rl
open Go.RowKit Go.Proofs
theorem CP {w:World} {l:List UInt8} {v:Value} (h:cE l v w) (hl:l.length=32):∃ad,(∀w':World,(Instr.arrayAt 24 v).run Tryz.prog w'=.ok (.pointer (some ad)) w')∧dx w ad (l.map U8):=by
 obtain⟨A,n,c,rfl,h1,h2,h3,h4,h5⟩:=h
 have hn:n=32:=by simp at h3;omega
 subst hn
 obtain⟨ad,rfl,hc⟩:=h4 (by omega)
 exact⟨ad,fun w'=>by simp[Instr.arrayAt,run_underlying Tryz.underlying24],hc⟩
theorem tA {w:World} {l:List UInt8} {ad:Addr} (h:dx w ad (l.map U8)) (hl:l.length=32):(Instr.loadAt 24 (.pointer (some ad))).run Tryz.prog w=.ok (.agg (l.map U8).toArray) w:=
 h.ld K7 rfl (by rw[List.length_map,hl];exact mO)
end Go.Rl
namespace Go.Rl
open Go.RowKit Go.Proofs
theorem sJ:aH Tryz.prog 71:=⟨_,Tryz.func71,by kernel_rfl,rfl⟩
theorem BB:aH Tryz.prog 70:=⟨_,Tryz.func70,by kernel_rfl,rfl⟩
theorem Az:aH Tryz.prog 27:=⟨_,Tryz.func27,by kernel_rfl,rfl⟩
section
variable {w:World}
theorem dx.ldO {P:Program} {t:TypeId} {d:TypeDesc} {ad:Addr} {cs ms:List Value} {o:Nat} (h:dx w ad cs) (hm:∀j v,ms[j]? =some v→cs[o+j]? =some v) (ht:P.underlying t=some d) (hd:d.isRow=true) (hz:(P.info? t).map (·.size)=some ms.length):(Instr.loadAt t (.pointer (some (ad.add o)))).run P w=.ok (.agg ms.toArray) w:=
 dx.ld (ad:=ad.add o) (fun j u hu=>by rw[xU];exact h (o+j) u (hm j u hu)) ht hd hz
end
theorem CQ {P:Program} {w:World} {x y:Operand} {t:TypeId} (ht:P.underlying t=some .bool) {a b:Bool}:(bin .neq t x y (B a) (B b)).run P w=.ok (B (decide (a≠b))) w:=by
 have h:(Op.equal t (B a) (B b)).run P w=.ok (decide (a=b)) w:=by
  show(Op.equalIn (9999+1) t (.bool a) (.bool b)).run P w=_
  unfold Op.equalIn
  cases a<;>cases b<;>simp[run_underlying ht]
 show(do pure (Value.bool (!(←Op.equal t (B a) (B b)))):Sem Value).run P w=_
 rw[Sem.run_bind,h]
 show Result.ok (Value.bool (!decide (a=b))) w=_
 rw[←decide_not];rfl
theorem Gi:Tryz.prog.eqGuardType Tryz.prog.depth 185=false:=by kernel_rfl
theorem HF {w:World} {x y:Operand} {a b c d:Int}:(bin .neq 185 x y (.agg #[I a,I b,I c,I d]) (.agg #[I a,I b,I c,I d])).run Tryz.prog w=.ok (B false) w:=by
 have h:(Op.equal 185 (.agg #[I a,I b,I c,I d]) (.agg #[I a,I b,I c,I d])).run Tryz.prog w=.ok true w:=by
  show(Op.equalIn (9999+1) 185 _ _).run Tryz.prog w=_
  rw[run_equalIn_struct w 9999 185 _ _ (by kernel_rfl) (by kernel_rfl)]
  simp only[Program.fieldsOf,Tryz.underlying185]
  simp[Op.eqFields,part,I,Tryz.underlying3,run_equalIn_int _ 9998 3 .i64 .i64]
 rw[Aw Gi,Sem.run_bind,h];rfl
theorem sO {w:World} {l:List ci} {v u:Value} (hv:ct bI l v w) (hu:ct bI l u w):
 Calls Tryz.prog 71 #[v,u] w (bH fun r w'=>aJ w w'∧r=B true):=by
 refine enter (vs:=[v,u]) Tryz.func71 E E E ?_
 have hll:=hv.len
 refine af (aa (ac E E (ag (ab (af (af (aa (ae E E (aS E E (a9 KS hv) (ae E E (aS E E (a9 KS hu) ?_)))))))))))
 refine ak E E E (dn (fun h=>h E) dF) (ag (ab (cy E (aC (ab (af (af (aa (ac E E (ag (ab (aE ?_))))))))))))
 refine bZ (α:=Nat) (fun x=>[(0,v),(1,u),(5,I (x:Int))]) (fun x w'=>aJ w w'∧x≤l.length) (fun x=>l.length-x) (0) ⟨rfl,rfl,rfl,trivial⟩ ⟨aJ.refl _,by omega⟩ ?_
 rintro i w4 ⟨e4,hi⟩
 refine af (af (aa (ae E E (ae E E (aS E E (a9 KS (hv.ext e4)) (ak E E E (bb) (ag (ab ?_))))))))
 refine bt E (fun h14=>?_) (fun h14=>?_)
 ·refine aC (ab (af (aE (af (bD 24 [0,1,5,28,40] (by kernel_rfl) (by kernel_rfl) ?_)))))
  refine ay E E (ay E E ?_)
  obtain⟨a19,c19,p19,q19,h19⟩:=bR (P:=Tryz.prog) (sz:=7) KS (by kernel_rfl) dB (by omega) (hv.ext e4) (i:=i) (by omega) .i64
  obtain⟨e19,he19⟩:∃e,e=l[i]'(by omega):=⟨_,rfl⟩
  rw[←he19] at h19
  obtain⟨x19_0,x19_1,rfl,f19_0,f19_1⟩:=gj h19
  refine aA rfl rfl rfl (fun w _=>p19 w) (aT rfl rfl (fun w hw=>gr (o:=0) Tryz.underlying187 rfl (by kernel_rfl) rfl) (aN rfl rfl (fun w hw=>(q19.ext hw).ldO (ms:=[I e19.kd,I e19.ix,I e19.lo,I e19.hi]) (o:=0) (fun j v hj=>by rcases j with _|_|_|_|_|_|_|_|_|j<;>simp_all) Tryz.underlying185 rfl (by kernel_rfl)) ?_))
  refine ay E E (ay E E ?_)
  obtain⟨a24,c24,p24,q24,h24⟩:=bR (P:=Tryz.prog) (sz:=7) KS (by kernel_rfl) dB (by omega) (hu.ext e4) (i:=i) (by omega) .i64
  rw[←he19] at h24
  obtain⟨x24_0,x24_1,rfl,f24_0,f24_1⟩:=gj h24
  refine aA rfl rfl rfl (fun w _=>p24 w) (aT rfl rfl (fun w hw=>gr (o:=0) Tryz.underlying187 rfl (by kernel_rfl) rfl) (aN rfl rfl (fun w hw=>(q24.ext hw).ldO (ms:=[I e19.kd,I e19.ix,I e19.lo,I e19.hi]) (o:=0) (fun j v hj=>by rcases j with _|_|_|_|_|_|_|_|_|j<;>simp_all) Tryz.underlying185 rfl (by kernel_rfl)) ?_))
  refine ba E E E (fun w _=>HF) (ay E E (bU E E (ay E E (bU E E (ay E E (bU E E ?_))))))
  obtain⟨a31,c31,p31,q31,h31⟩:=bR (P:=Tryz.prog) (sz:=7) KS (by kernel_rfl) dB (by omega) (hv.ext e4) (i:=i) (by omega) .i64
  rw[←he19] at h31
  obtain⟨x31_0,x31_1,rfl,f31_0,f31_1⟩:=gj h31
  refine aA E E E (fun w _=>p31 w) (bU E E (aT E E (fun w hw=>gr (o:=4) KZ E (by kernel_rfl) E) ?_))
  refine bU rfl rfl (aN rfl rfl (fun w hw=>(q31.ext hw).ldO (ms:=[B e19.co.1,x31_0,x31_1]) (o:=4) (fun j v hj=>by rcases j with _|_|_|_|_|_|_|_|_|j<;>simp_all) Tryz.underlying46 rfl (by kernel_rfl)) ?_)
  refine bU E E (ay E E (bU E E (ay E E (bU E E ?_))))
  obtain⟨a36,c36,p36,q36,h36⟩:=bR (P:=Tryz.prog) (sz:=7) KS (by kernel_rfl) dB (by omega) (hu.ext e4) (i:=i) (by omega) .i64
  rw[←he19] at h36
  obtain⟨x36_0,x36_1,rfl,f36_0,f36_1⟩:=gj h36
  refine aA E E E (fun w _=>p36 w) (bU E E (aT E E (fun w hw=>gr (o:=4) KZ E (by kernel_rfl) E) ?_))
  refine bU rfl rfl (aN rfl rfl (fun w hw=>(q36.ext hw).ldO (ms:=[B e19.co.1,x36_0,x36_1]) (o:=4) (fun j v hj=>by rcases j with _|_|_|_|_|_|_|_|_|j<;>simp_all) Tryz.underlying46 rfl (by kernel_rfl)) ?_)
  refine bU rfl rfl (cd (S:=Is (B true)) mw (bG.is _) rfl (fun w hw=>by rintro _ rfl _ rfl;exact bH.mono (Bx (a:=e19.co) (b:=e19.co) (f31_0.ext hw) (f31_1.ext hw) (f36_0.ext hw) (f36_1.ext hw)) fun v w' h=>⟨h.1,by rw[h.2,decide_eq_true rfl];rfl⟩) ?_)
  refine bU E E (zr E E (fun w _=>bu) (cb ?_))
  intro wg6 xg6
  rintro _ hq0
  obtain rfl:=Eq.symm hq0
  rintro _ hq1
  obtain rfl:=Eq.symm hq1
  rintro _ rfl
  rintro _ rfl
  rintro _ rfl
  refine aI E E E (ag (ab (cy E (aC (aR (ab (aa (ae E E (ak (r:=I ((i+1:Nat):Int)) E E E (by have e:((i+1:Nat):Int)=(i:Int)+1:=(by omega);rw[e];exact aP (by omega) (by omega)) ?_)))))))))
  refine ac E E (ag ?_)
  refine bJ (i+1) ⟨rfl,rfl,rfl,trivial⟩ ⟨(e4.trans xg6),by omega⟩ (by omega)
 ·refine be (aK (aK (bf (ab (af (aa (ac E E (ag (ab (aw (av E E ?_)))))))))))
  exact⟨_,rfl,e4,rfl⟩
theorem AA {w:World} {a:eW} {x y p q:Value} (ha:bi a.2.1 x w) (ha':bi a.2.2 y w) (hb:bi a.2.1 p w) (hb':bi a.2.2 q w):
 Calls Tryz.prog 105 #[.agg #[B a.1,x,y],.agg #[B a.1,p,q]] w (bH fun r w'=>aJ w w'∧r=B true):=
 bH.mono (Bx (a:=a) (b:=a) ha ha' hb hb') fun v w' h=>⟨h.1,by rw[h.2,decide_eq_true rfl]⟩
theorem Ei {w:World} {a:bz} {x y p q:Value} (ha:bi a.at_.2.1 x w) (ha':bi a.at_.2.2 y w) (hb:bi a.at_.2.1 p w) (hb':bi a.at_.2.2 q w):
 Calls Tryz.prog 69 #[.agg #[I a.kd,I a.ix,B a.at_.1,x,y],.agg #[I a.kd,I a.ix,B a.at_.1,p,q]] w (bH fun r w'=>aJ w w'∧r=B true):=
 bH.mono (lH (a:=a) (b:=a) ha ha' hb hb') fun v w' h=>⟨h.1,by rw[h.2,decide_eq_true rfl]⟩
set_option maxHeartbeats 2000000 in
theorem BC {w:World} {l:List er} {v u:Value} (hv:ct cP l v w) (hu:ct cP l u w):
 Calls Tryz.prog 70 #[v,u] w (bH fun r w'=>aJ w w'∧r=B true):=by
 refine enter (vs:=[v,u]) Tryz.func70 E E E ?_
 have hll:=hv.len
 refine af (aa (ac E E (ag (ab (af (af (aa (ae E E (aS E E (a9 KT hv) (ae E E (aS E E (a9 KT hu) ?_)))))))))))
 refine ak E E E (dn (fun h=>h E) dF) (ag (ab (cy E (aC (ab (af (af (aa (ac E E (ag (ab (aE ?_))))))))))))
 refine bZ (α:=Nat) (fun x=>[(0,v),(1,u),(5,I (x:Int))]) (fun x w'=>aJ w w'∧x≤l.length) (fun x=>l.length-x) (0) ⟨rfl,rfl,rfl,trivial⟩ ⟨aJ.refl _,by omega⟩ ?_
 rintro i w4 ⟨e4,hi⟩
 refine af (af (aa (ae E E (ae E E (aS E E (a9 KT (hv.ext e4)) (ak E E E (bb) (ag (ab ?_))))))))
 refine bt E (fun h14=>?_) (fun h14=>?_)
 ·refine aC (ab (af (aE (af (bD 51 [0,1,5,55,67] (by kernel_rfl) (by kernel_rfl) ?_)))))
  refine ay (S:=Is (v)) E E (ay (S:=Is (I (i:Int))) E E ?_)
  obtain⟨a19,c19,p19,q19,h19⟩:=bR (P:=Tryz.prog) (sz:=6) KT (by kernel_rfl) cV (by omega) (hv.ext e4) (i:=i) (by omega) .i64
  obtain⟨e19,he19⟩:∃e,e=l[i]'(by omega):=⟨_,rfl⟩
  rw[←he19] at h19
  obtain⟨x19_0,x19_1,x19_2,rfl,f19_0,f19_1,f19_2⟩:=fk h19
  refine aA E E E (fun w _=>p19 w) (aT E E (fun w hw=>gr (o:=0) KV E (by kernel_rfl) E) ?_)
  refine aN E E (fun w hw=>ai KI E (hw.cell_some (q19.at (j:=0) E))) (ay (S:=Is (u)) E E (ay (S:=Is (I (i:Int))) E E ?_))
  obtain⟨a24,c24,p24,q24,h24⟩:=bR (P:=Tryz.prog) (sz:=6) KT (by kernel_rfl) cV (by omega) (hu.ext e4) (i:=i) (by omega) .i64
  rw[←he19] at h24
  obtain⟨x24_0,x24_1,x24_2,rfl,f24_0,f24_1,f24_2⟩:=fk h24
  refine aA E E E (fun w _=>p24 w) (aT E E (fun w hw=>gr (o:=0) KV E (by kernel_rfl) E) ?_)
  refine aN E E (fun w hw=>ai KI E (hw.cell_some (q24.at (j:=0) E))) (ba E E E (fun w _=>dn (fun h=>h E) dF) ?_)
  refine ay (S:=Is (B false)) E E (bU E E (ay (S:=Is (v)) E E (bU E E (ay (S:=Is (I (i:Int))) E E (bU E E (aA E E E (fun w _=>p19 w) ?_))))))
  refine bU E E (aT E E (fun w hw=>gr (o:=1) KV E (by kernel_rfl) E) (bU E E (aN E E (fun w hw=>ai KQ E (hw.cell_some (q19.at (j:=1) E))) ?_)))
  refine bU E E (ay (S:=Is (u)) E E (bU E E (ay (S:=Is (I (i:Int))) E E (bU E E (aA E E E (fun w _=>p24 w) (bU E E ?_))))))
  refine aT E E (fun w hw=>gr (o:=1) KV E (by kernel_rfl) E) (bU E E (aN E E (fun w hw=>ai KQ E (hw.cell_some (q24.at (j:=1) E))) ?_))
  refine bU E E (ba E E E (fun w _=>dn (fun h=>h E) (CQ KQ)) (tK (S:=Is (B false)) E E E (ay (S:=Is (B false)) E E ?_)))
  refine bU E E (ay (S:=Is (v)) E E (bU E E (ay (S:=Is (I (i:Int))) E E (bU E E (aA E E E (fun w _=>p19 w) (bU E E ?_))))))
  refine aT rfl rfl (fun w hw=>gr (o:=2) Tryz.underlying173 rfl (by kernel_rfl) rfl) (bU rfl rfl (aN rfl rfl (fun w hw=>(q19.ext hw).ldO (ms:=[B e19.va.1,x19_0,x19_1]) (o:=2) (fun j v hj=>by rcases j with _|_|_|_|_|_|_|_|_|j<;>simp_all) Tryz.underlying46 rfl (by kernel_rfl)) ?_))
  refine bU E E (ay (S:=Is (u)) E E (bU E E (ay (S:=Is (I (i:Int))) E E (bU E E (aA E E E (fun w _=>p24 w) (bU E E ?_))))))
  refine aT rfl rfl (fun w hw=>gr (o:=2) Tryz.underlying173 rfl (by kernel_rfl) rfl) (bU rfl rfl (aN rfl rfl (fun w hw=>(q24.ext hw).ldO (ms:=[B e19.va.1,x24_0,x24_1]) (o:=2) (fun j v hj=>by rcases j with _|_|_|_|_|_|_|_|_|j<;>simp_all) Tryz.underlying46 rfl (by kernel_rfl)) ?_))
  refine bU rfl rfl (cd (S:=Is (B true)) mw (bG.is _) rfl (fun w hw=>by rintro _ rfl _ rfl;exact AA (a:=e19.va) (f19_0.ext hw) (f19_1.ext hw) (f24_0.ext hw) (f24_1.ext hw)) ?_)
  refine bU E E (zr E E (fun w _=>bu) (tK (S:=Is (B false)) E E E (ay (S:=Is (B false)) E E (bU E E (ay (S:=Is (v)) E E ?_)))))
  refine bU E E (ay (S:=Is (I (i:Int))) E E (bU E E (aA E E E (fun w _=>p19 w) (bU E E (aT E E (fun w hw=>gr (o:=5) KV E (by kernel_rfl) E) ?_)))))
  refine bU E E (aN E E (fun w hw=>ai KS E (hw.cell_some (q19.at (j:=5) E))) (bU E E (ay (S:=Is (u)) E E ?_)))
  refine bU E E (ay (S:=Is (I (i:Int))) E E (bU E E (aA E E E (fun w _=>p24 w) (bU E E (aT E E (fun w hw=>gr (o:=5) KV E (by kernel_rfl) E) ?_)))))
  refine bU rfl rfl (aN rfl rfl (fun w hw=>ai KS rfl (hw.cell_some (q24.at (j:=5) rfl))) (bU rfl rfl (cd (S:=Is (B true)) sJ (bG.is _) rfl (fun w hw=>by rintro _ rfl _ rfl;exact sO (l:=e19.pf) (f19_2.ext hw) (f24_2.ext hw)) ?_)))
  refine bU E E (zr E E (fun w _=>bu) (cb ?_))
  intro wg6 xg6
  rintro _ hq0
  obtain rfl:=Eq.symm hq0
  rintro _ hq1
  obtain rfl:=Eq.symm hq1
  rintro _ rfl
  rintro _ rfl
  rintro _ rfl
  refine aI E E E (ag (ab (cy E (aC (aR (ab (aa (ae E E (ak (r:=I ((i+1:Nat):Int)) E E E (by have e:((i+1:Nat):Int)=(i:Int)+1:=(by omega);rw[e];exact aP (by omega) (by omega)) ?_)))))))))
  refine ac E E (ag ?_)
  refine bJ (i+1) ⟨rfl,rfl,rfl,trivial⟩ ⟨(e4.trans xg6),by omega⟩ (by omega)
 ·refine be (aK (aK (bf (ab (af (aa (ac E E (ag (ab (aw (av E E ?_)))))))))))
  exact⟨_,rfl,e4,rfl⟩
theorem aV.lt_of_mem {n k:aV} (h:k∈n.kids):SizeOf.sizeOf k<SizeOf.sizeOf n:=by
 cases n with
 |mk l s ks e p=>
  have h:k∈ks:=h
  have:=List.sizeOf_lt_of_mem h
  simp only[aV.mk.sizeOf_spec]
  omega
theorem Gj {w:World} {n:aV} {vl x y vk vp ul p q uk up:Value} (ih:∀k∈n.kids,∀{w:World} {vl x y vk vp ul p q uk up:Value},ct cP k.lems vl w→bi k.split.at_.2.1 x w→bi k.split.at_.2.2 y w→ct bm k.kids vk w→ct bI k.pf vp w→ct cP k.lems ul w→bi k.split.at_.2.1 p w→bi k.split.at_.2.2 q w→ct bm k.kids uk w→ct bI k.pf up w→
 Calls Tryz.prog 27 #[.agg #[vl,I k.split.kd,I k.split.ix,B k.split.at_.1,x,y,vk,B k.empty,vp],.agg #[ul,I k.split.kd,I k.split.ix,B k.split.at_.1,p,q,uk,B k.empty,up]] w (bH fun r w'=>aJ w w'∧r=B true))
 (hl:ct cP n.lems vl w) (hx:bi n.split.at_.2.1 x w) (hy:bi n.split.at_.2.2 y w) (hk:ct bm n.kids vk w) (hp:ct bI n.pf vp w) (hl':ct cP n.lems ul w) (hx':bi n.split.at_.2.1 p w) (hy':bi n.split.at_.2.2 q w) (hk':ct bm n.kids uk w) (hp':ct bI n.pf up w):
 Calls Tryz.prog 27 #[.agg #[vl,I n.split.kd,I n.split.ix,B n.split.at_.1,x,y,vk,B n.empty,vp],.agg #[ul,I n.split.kd,I n.split.ix,B n.split.at_.1,p,q,uk,B n.empty,up]] w (bH fun r w'=>aJ w w'∧r=B true):=by
 refine enter (vs:=[.agg #[vl,I n.split.kd,I n.split.ix,B n.split.at_.1,x,y,vk,B n.empty,vp],.agg #[ul,I n.split.kd,I n.split.ix,B n.split.at_.1,p,q,uk,B n.empty,up]]) Tryz.func27 E E E ?_
 have hll:=hk.len
 refine af (aa ?_)
 obtain⟨g2,w2,hr2,l2,x2,k2⟩:=ca (P:=Tryz.prog) (w:=w) (T:=52) (cs:=[vl,I n.split.kd,I n.split.ix,B n.split.at_.1,x,y,vk,B n.empty,vp])
 refine cm E E hr2 ?_
 obtain⟨g3,w3,hr3,l3,x3,k3⟩:=ca (P:=Tryz.prog) (w:=w2) (T:=52) (cs:=[ul,I n.split.kd,I n.split.ix,B n.split.at_.1,p,q,uk,B n.empty,up])
 refine cm E E hr3 (ac E E (ag (ab (af (af (aa (ah E E (ap (o:=7) KF E (by kernel_rfl) E) ?_)))))))
 refine aj E E (ai KQ E (x3.cell_some (k2.cell (i:=7) E))) (ah E E (ap (o:=7) KF E (by kernel_rfl) E) ?_)
 refine aj E E (ai KQ E (k3.cell (i:=7) E)) (ak E E E (dn (fun h=>h E) (CQ KQ)) ?_)
 refine ae rfl rfl (al rfl (ah rfl rfl (ap (o:=1) Tryz.underlying52 rfl (by kernel_rfl) rfl) (al rfl (aj rfl rfl ((k2.ext x3).ldO (ms:=[I n.split.kd,I n.split.ix,B n.split.at_.1,x,y]) (o:=1) (fun j v hj=>by rcases j with _|_|_|_|_|_|_|_|_|j<;>simp_all) Tryz.underlying48 rfl (by kernel_rfl)) ?_))))
 refine al rfl (ah rfl rfl (ap (o:=1) Tryz.underlying52 rfl (by kernel_rfl) rfl) (al rfl (aj rfl rfl (k3.ldO (ms:=[I n.split.kd,I n.split.ix,B n.split.at_.1,p,q]) (o:=1) (fun j v hj=>by rcases j with _|_|_|_|_|_|_|_|_|j<;>simp_all) Tryz.underlying48 rfl (by kernel_rfl)) ?_)))
 refine al E (an lG E E ((Ei (a:=n.split) (hx.ext (x2.trans x3)) (hy.ext (x2.trans x3)) (hx'.ext (x2.trans x3)) (hy'.ext (x2.trans x3)))) ?_)
 rintro v16 w16 ⟨x16,rfl⟩
 refine al E (bo E E bu (aI E E E (ae E E (al E (ah E E (ap (o:=0) KF E (by kernel_rfl) E) ?_)))))
 refine al E (aj E E (ai KT E ((x3.trans x16).cell_some (k2.cell (i:=0) E))) (al E (ah E E (ap (o:=0) KF E (by kernel_rfl) E) ?_)))
 refine al E (aj E E (ai KT E (x16.cell_some (k3.cell (i:=0) E))) (al E (an BB E E ((BC (hl.ext ((x2.trans x3).trans x16)) (hl'.ext ((x2.trans x3).trans x16)))) ?_)))
 rintro v24 w24 ⟨x24,rfl⟩
 refine al E (bo E E bu (aI E E E (ae E E (al E (ah E E (ap (o:=8) KF E (by kernel_rfl) E) ?_)))))
 refine al E (aj E E (ai KS E (((x3.trans x16).trans x24).cell_some (k2.cell (i:=8) E))) (al E (ah E E (ap (o:=8) KF E (by kernel_rfl) E) ?_)))
 refine al E (aj E E (ai KS E ((x16.trans x24).cell_some (k3.cell (i:=8) E))) (al E (an sJ E E ((sO (hp.ext (((x2.trans x3).trans x16).trans x24)) (hp'.ext (((x2.trans x3).trans x16).trans x24)))) ?_)))
 rintro v32 w32 ⟨x32,rfl⟩
 refine al E (bo E E bu (aI E E E (ae E E (al E (ah E E (ap (o:=6) KF E (by kernel_rfl) E) ?_)))))
 refine al E (aj E E (ai KO E ((((x3.trans x16).trans x24).trans x32).cell_some (k2.cell (i:=6) E))) (al E (aS E E (a9 KO (hk.ext ((((x2.trans x3).trans x16).trans x24).trans x32))) ?_)))
 refine al E (ah E E (ap (o:=6) KF E (by kernel_rfl) E) (al E (aj E E (ai KO E (((x16.trans x24).trans x32).cell_some (k3.cell (i:=6) E))) ?_)))
 refine al E (aS E E (a9 KO (hk'.ext ((((x2.trans x3).trans x16).trans x24).trans x32))) (al E (ak E E E (dn (fun h=>h E) dF) ?_)))
 refine aI E E E (ag (ab (cy E (aC (ab (af (af (aa (ac E E (ag (ab (aE ?_))))))))))))
 refine bZ (α:=Nat) (fun x=>[(2,.pointer (some ⟨g2,0,none⟩)),(3,.pointer (some ⟨g3,0,none⟩)),(5,I (x:Int))]) (fun x w'=>aJ w w'∧aJ w32 w'∧x≤n.kids.length) (fun x=>n.kids.length-x) (0) ⟨rfl,rfl,rfl,trivial⟩ ⟨((((x2.trans x3).trans x16).trans x24).trans x32),aJ.refl _,by omega⟩ ?_
 rintro i w4 ⟨e4,e10,hi⟩
 refine af (af (aa (ae E E (ah E E (ap (o:=6) KF E (by kernel_rfl) E) (aj E E (ai KO E (((((x3.trans x16).trans x24).trans x32).trans e10).cell_some (k2.cell (i:=6) E))) ?_)))))
 refine aS E E (a9 KO (hk.ext e4)) (ak E E E (bb) (ag (ab ?_)))
 refine bt E (fun h48=>?_) (fun h48=>?_)
 ·refine aC (ab (af (aE (af (bD 11 [2,3,5,61] (by kernel_rfl) (by kernel_rfl) ?_)))))
  refine aT E E (fun w hw=>ap (o:=6) KF E (by kernel_rfl) E) (aN E E (fun w hw=>ai KO E (hw.cell_some (((((x3.trans x16).trans x24).trans x32).trans e10).cell_some (k2.cell (i:=6) E)))) ?_)
  refine ay E E ?_
  obtain⟨a54,c54,p54,q54,h54⟩:=bR (P:=Tryz.prog) (sz:=9) KO (by kernel_rfl) cg (by omega) (hk.ext e4) (i:=i) (by omega) .i64
  obtain⟨e54,he54⟩:∃e,e=n.kids[i]'(by omega):=⟨_,rfl⟩
  rw[←he54] at h54
  obtain⟨x54_0,x54_1,x54_2,x54_3,x54_4,rfl,f54_0,f54_1,f54_2,f54_3,f54_4⟩:=cW h54
  refine aA E E E (fun w _=>p54 w) (aN E E (fun w hw=>(q54.ext hw).ld KF E (by kernel_rfl)) (aT E E (fun w hw=>ap (o:=6) KF E (by kernel_rfl) E) ?_))
  refine aN E E (fun w hw=>ai KO E (hw.cell_some ((((x16.trans x24).trans x32).trans e10).cell_some (k3.cell (i:=6) E)))) ?_
  refine ay E E ?_
  obtain⟨a59,c59,p59,q59,h59⟩:=bR (P:=Tryz.prog) (sz:=9) KO (by kernel_rfl) cg (by omega) (hk'.ext e4) (i:=i) (by omega) .i64
  rw[←he54] at h59
  obtain⟨x59_0,x59_1,x59_2,x59_3,x59_4,rfl,f59_0,f59_1,f59_2,f59_3,f59_4⟩:=cW h59
  refine aA rfl rfl rfl (fun w _=>p59 w) (aN rfl rfl (fun w hw=>(q59.ext hw).ld KF rfl (by kernel_rfl)) (cd (S:=Is (B true)) Az (bG.is _) rfl (fun w hw=>by rintro _ rfl _ rfl;exact ih e54 (by rw[he54];exact List.getElem_mem _) (f54_0.ext hw) (f54_1.ext hw) (f54_2.ext hw) (f54_3.ext hw) (f54_4.ext hw) (f59_0.ext hw) (f59_1.ext hw) (f59_2.ext hw) (f59_3.ext hw) (f59_4.ext hw)) ?_))
  refine cb ?_
  intro wg6 xg6
  rintro _ rfl
  rintro _ rfl
  rintro _ rfl
  rintro _ rfl
  refine bo E E bu (ag (ab (cy E (aC (aR (ab (aa (ae E E (ak (r:=I ((i+1:Nat):Int)) E E E (by have e:((i+1:Nat):Int)=(i:Int)+1:=(by omega);rw[e];exact aP (by omega) (by omega)) ?_)))))))))
  refine ac E E (ag ?_)
  refine bJ (i+1) ⟨rfl,rfl,rfl,trivial⟩ ⟨(e4.trans xg6),(e10.trans xg6),by omega⟩ (by omega)
 ·refine be (aK (aK (bf (ab (af (aa (ac E E (ag (ab (aw (av E E ?_)))))))))))
  exact⟨_,rfl,e4,rfl⟩
theorem AB:∀(m:Nat) {n:aV},SizeOf.sizeOf n≤m→∀{w:World} {vl x y vk vp ul p q uk up:Value},ct cP n.lems vl w→bi n.split.at_.2.1 x w→bi n.split.at_.2.2 y w→ct bm n.kids vk w→ct bI n.pf vp w→ct cP n.lems ul w→bi n.split.at_.2.1 p w→bi n.split.at_.2.2 q w→ct bm n.kids uk w→ct bI n.pf up w→
 Calls Tryz.prog 27 #[.agg #[vl,I n.split.kd,I n.split.ix,B n.split.at_.1,x,y,vk,B n.empty,vp],.agg #[ul,I n.split.kd,I n.split.ix,B n.split.at_.1,p,q,uk,B n.empty,up]] w (bH fun r w'=>aJ w w'∧r=B true)
 |0,n,hm=>by cases n;simp at hm
 |m+1,n,hm=>fun h1 h2 h3 h4 h5 h6 h7 h8 h9 h10=>Gj (fun k hk _ _ _ _ _ _ _ _ _ _ _=>AB m (by have:=aV.lt_of_mem hk;omega)) h1 h2 h3 h4 h5 h6 h7 h8 h9 h10
end Go.Rl
namespace Go.Rl
open Go.RowKit Go.Proofs
def IE (n d:Int):Bool:=decide (0<n∧n≤16384∧n%d=0)
def small (l:List eW):Prop:=∀q∈l,q.2.1.length≤1073741824∧q.2.2.length≤1073741824
def IF (l:mC):Bool:=decide ((1≤l.kh∧l.kh≤64)∧(1≤l.kw∧l.kw≤64)∧(1≤l.sr∧l.sr≤64))
def Gk (l:mC):Bool:=decide ((l.ws.length:Int)=0∧(l.bs.length:Int)=0)
def Gl (l:mC):Bool:=decide (l.kh=0∧l.kw=0∧l.sr=0∧l.pd=0)
def Kq (l:mC) (i:Int):Prop:=
 if l.kd=1 then Gl l=true∧l.fr=0∧(1≤l.ou∧l.ou≤16384)∧(l.bs.length:Int)=l.ou∧IE l.ws.length l.ou=true
 else if l.kd=2 then IF l=true∧l.fr=0∧l.pd≥0∧l.pd<l.kh∧l.pd<l.kw∧(1≤l.ou∧l.ou≤16384)∧(l.bs.length:Int)=l.ou∧IE l.ws.length (l.ou*l.kh*l.kw)=true
 else if l.kd=3∨l.kd=4 then IF l=true∧l.fr=0∧l.pd=0∧l.ou=0∧Gk l=true
 else if l.kd=5∨l.kd=6 then Gl l=true∧l.fr=0∧l.ou=0∧Gk l=true
 else if l.kd=7 then Gl l=true∧(-1≤l.fr∧l.fr≤i-1)∧l.ou=0∧Gk l=true
 else False
instance (l:mC) (i:Int):Decidable (Kq l i):=by unfold Kq;infer_instance
end Go.Rl
namespace Go.Rl
open Go.RowKit Go.Proofs
end Go.Rl
namespace Go.Rl
open Go.RowKit Go.Proofs
end Go.Rl
namespace Go.Rl
open Go.RowKit
section
variable {P:Program} {ops:Array Oper} {Env:World→Prop} {Rl:World→World→Prop} {mo:Bool} {Pn:List PanicEntry→World→Prop} {N:Nat}
def CR (ops:Array Oper) (n:Nat):Bool:=
 (List.range n).all fun i=>decide (i=0)||(List.range (n+1)).any fun j=>decide (i<j)&&Region.waitsFor .any ops j i
theorem AC {n:Nat} {listed:Array Bool} (hs:CR ops n=true) (hc:yv ops n=true) (inv:HeadInv .any ops n listed):
 ∀(d i:Nat),n-i=d→0<i→i<n→listed.getD i true=false→∀t,n≤t→t∉Region.ready .any ops listed:=by
 intro d
 induction d using Nat.strongRecOn with
 |_ d ih=>
  intro i hd h0 hi hun t ht hr
  obtain⟨_,ot,hot,hall⟩:=mem_ready.1 hr
  have htlt:t<ops.size:=(Array.getElem?_eq_some_iff.1 hot).1
  by_cases htn:t=n
  ·subst htn
   have h1:=List.all_eq_true.1 hs i (List.mem_range.2 hi)
   simp only[Bool.or_eq_true,decide_eq_true_eq] at h1
   obtain⟨j,hj,hj2⟩:=List.any_eq_true.1 (h1.resolve_left (by omega))
   simp only[Bool.and_eq_true,decide_eq_true_eq] at hj2
   obtain⟨oj,hoj,e,he,hb,hon⟩:=Region.waitsFor_spec hj2.2
   have hjle:j≤t:=by have:=List.mem_range.1 hj;omega
   by_cases hjt:j=t
   ·subst hjt
    have:oj=ot:=Option.some.inj (hoj.symm.trans hot)
    subst this
    have h2:=hall e he hb
    rw[hon,getD_both hun] at h2
    cases h2
   ·cases hl:listed.getD j false with
    |true=>
     have h2:=inv.closed j oj hoj hl e he hb
     rw[hon,getD_both hun] at h2
     cases h2
    |false=>
     have hjs:j<listed.size:=by rw[inv.size];omega
     exact ih (t-j) (by omega) j rfl (by omega) (by omega) (getD_in hjs hl) t (Nat.le_refl _) hr
  ·have h1:=List.all_eq_true.1 hc t (List.mem_range.2 htlt)
   simp only[Bool.or_eq_true,decide_eq_true_eq] at h1
   rcases h1 with h1|h1
   ·omega
   ·obtain⟨j,hj,hj2⟩:=List.any_eq_true.1 h1
    simp only[Bool.and_eq_true,decide_eq_true_eq] at hj2
    have hjt:=List.mem_range.1 hj
    obtain⟨o',ho',e,he,hb,hon⟩:=Region.waitsFor_spec hj2.2
    have:o'=ot:=Option.some.inj (ho'.symm.trans hot)
    subst this
    have h2:=hall e he hb
    rw[hon,getD_both (inv.tail j hj2.1 (by omega))] at h2
    cases h2
theorem vJ {n i:Nat} {oi:Oper} {S:du} {L:Array Bool→cL→lS→Prop} (hi:ops[i]? =some oi) (hcalls:mo=true→kx .any ops=true)
 (hs:CR ops n=true) (hc:yv ops n=true) (hi0:0<i) (hin:i<n)
 (hdone:∀listed F Z,L listed F Z→∀j∈Region.ready .any ops listed,n≤j):
 ∀(f:Nat) (listed:Array Bool) (F:cL) (Z Z':lS),HeadInv .any ops n listed→
  (∀j oj,ops[j]? =some oj→j≠i→listed.getD j true=false→(∀e∈oj.after,Region.binds .any e=true→e.on≠i)→oi.apart ops oj=true)→
  i∈Region.ready .any ops listed→fI P ops Env Rl mo Pn N F Z oi S Z'→
  ku P .any ops Env Rl mo Pn N n L f (listed.setIfInBounds i true) (j4 F oi.dst S) Z'→ku P .any ops Env Rl mo Pn N n L (f+1) listed F Z:=
 pe hi hcalls hin (fun _ inv hun t ht=>AC hs hc inv _ i rfl hi0 hin hun t ht) hdone
theorem sS {n:Nat} {perm:List Nat} {Lq:cL→lS→Prop} (hcalls:mo=true→kx .any ops=true) (hs:CR ops n=true) (hc:yv ops n=true):
 ∀(l:List Oper) (k:Nat) (listed:Array Bool) (F:cL) (Z:lS),0<k→(∀j,j<l.length→l[j]? =ops[k+j]?)→k+l.length=n→HeadInv .any ops n listed→
 nS ops n perm l.length k listed=true→(∀t,ck Rl (F t))→dE Z→gU P ops Env Rl mo Pn N l F Z Lq→
 ku P .any ops Env Rl mo Pn N n (fun listed' F' Z'=>(rO ops perm listed'=true∧(Region.ready .any ops listed').all (fun j=>decide (n≤j))=true)∧Lq F' Z') l.length listed F Z
 |[],k,listed,F,Z,_,_,hk,_,hB,_,_,h=>by
  simp only[List.length_nil,nS,Bool.and_eq_true] at hB
  exact⟨hB,h⟩
 |o::l,k,listed,F,Z,hk0,hl,hk,inv,hB,hF,hZ,h=>by
  have h0:ops[k]? =some o:=by simpa using(hl 0 (by simp)).symm
  simp only[List.length_cons,nS,Bool.and_eq_true] at hB
  obtain⟨⟨hr,hf⟩,hB'⟩:=hB
  have hkn:k<n:=by simp only[List.length_cons] at hk;omega
  have hr':k∈Region.ready .any ops listed:=by simpa using hr
  obtain⟨S,Z',hspec,hrest⟩:=h hF hZ
  exact vJ h0 hcalls hs hc hk0 hkn (fun listed' F' Z' hL j hj=>by simpa using List.all_eq_true.1 hL.1.2 j hj) l.length listed F Z Z' inv (Region.free_spec h0 hf) hr' hspec
   (sS hcalls hs hc l (k+1) _ _ _ (by omega) (fun j hj=>by have:=hl (j+1) (by simp;omega);simpa [Nat.add_assoc,Nat.add_comm 1 j] using this) (by simp only[List.length_cons] at hk;omega) (inv.set hr' hkn) hB' (pn hF hspec.stable) (hspec.zst hZ) hrest)
def IG (ops:Array Oper) (n:Nat) (perm:List Nat):Bool:=
 Region.noSelect ops&&decide (0<n)&&decide (n<ops.size)&&CR ops n&&yv ops n&&decide (n+perm.length=ops.size)&&Region.free .any ops (Array.replicate ops.size false) 0&&(Region.ready .any ops (Array.replicate ops.size false)).contains 0&&nS ops n perm (n-1) 1 ((Array.replicate ops.size false).setIfInBounds 0 true)
theorem tB {Q:im} {D:List Deferred} {l:Fr} {w:World} {id d:Nat} {x:Operand} {v:Value} {ty:TypeId} {pos:String} {aft:Array Edge} {os:List Oper} (n:Nat) (perm:List Nat) (ts:List Nat) (hm:P.follows .mixedOrders=true)
 (hB:IG ((⟨some d,.move x,ty,pos,aft,none⟩:Oper)::os).toArray n perm=true) (hp:(perm.all fun i=>decide (i<os.length+1))=true) (hx:ev l x=some v) (hd:Nat.blt d N=true)
 (h:gU P ((⟨some d,.move x,ty,pos,aft,none⟩:Oper)::os).toArray (aJ w) aJ false IM N (os.take (n-1)) (zo ((d,v)::l)) (fun _=>True) (fun F _=>∀w',aJ w w'→lm F w' ts (fun l'=>cu P ((⟨some d,.move x,ty,pos,aft,none⟩:Oper)::os).toArray (nK Q) N D l' w' (Bt ((⟨some d,.move x,ty,pos,aft,none⟩:Oper)::os) perm)))):dm P Q N D l w (.region id ((⟨some d,.move x,ty,pos,aft,none⟩:Oper)::os).toArray true):=fun a ha=>by
 obtain⟨o,ho⟩:∃o:Oper,o=⟨some d,.move x,ty,pos,aft,none⟩:=⟨_,rfl⟩
 rw[←ho] at hB h⊢
 have ha':=ha.put hd v
 have hsat:Ce N D (zo ((d,v)::l)) (a.put (some d) v) {w with drawn:=w.drawn+1}:=⟨ha'.size,ha'.defers,fun t=>by
  show zo ((d,v)::l) t ((a.put (some d) v).tmps.getD t undef) _
  unfold zo
  cases hv:lk ((d,v)::l) t with
  |some v=>exact ha'.at_ t v hv
  |none=>trivial⟩
 simp only[IG,Bool.and_eq_true,decide_eq_true_eq] at hB
 obtain⟨⟨⟨⟨⟨⟨⟨⟨hsel,hn0⟩,hn⟩,hs⟩,hc⟩,hlen⟩,hf⟩,hr⟩,hlex⟩:=hB
 have hn':n<os.length+1:=by simpa using hn
 have htl:(os.take (n-1)).length=n-1:=by simp;omega
 have h00:(o::os).toArray[0]? =some o:=by simp
 have inv0:HeadInv .any (o::os).toArray n (Array.replicate (o::os).toArray.size false):=
  ⟨by simp,fun j oj _ hl=>(by rw[getD_replicate_false] at hl;cases hl),fun t _ ht=>getD_in (by simpa using ht) (getD_replicate_false _ _)⟩
 have hr':0∈Region.ready .any (o::os).toArray (Array.replicate (o::os).toArray.size false):=by simpa using hr
 have H:=sS (perm:=perm) (fun h=>by cases h) hs hc (os.take (n-1)) 1 _ _ _ (by omega) (fun j hj=>by
  have hj':j<n-1:=by rw[htl] at hj;exact hj
  simp[hj',Nat.add_comm 1 j]) (by rw[htl];omega) (inv0.set hr' (by omega)) (by rw[htl];exact hlex) (jO _) dE.triv (lj _ _ _ (fun F Z hK a' w' he hs=>by
   obtain⟨l',hl',hk⟩:=lm.use hs (hK w' he)
   exact hk a' hl':∀F (Z:lS),_→(∀a' w',aJ w w'→Ce N D F a' w'→wpList P (o::os).toArray (nK Q) (Bt (o::os) perm) a' w')) h)
 have hpick:∀(perm:List Nat),(perm.all fun i=>decide (i<(o::os).length))=true→(perm.map fun i=>(o::os).toArray[i]?)=(Bt (o::os) perm).map some:=by
  intro perm
  induction perm with
  |nil=>intro _;rfl
  |cons i is ih=>
   intro hp
   simp only[List.all_cons,Bool.and_eq_true,decide_eq_true_eq] at hp
   have e:(o::os)[i]? =some (o::os)[i]:=List.getElem?_eq_getElem hp.1
   simp only[List.map_cons,Bt,e,List.getElem?_toArray]
   rw[←ih hp.2]
   simp
 have rest:=ij (D:=D) (Q':=nK Q) (l0:=[]) (g:=perm.length) (jq.plain w) (fun _ _ _ _ _ _ h=>h.elim) (fun _ _ _ _ _ _ _ hp=>by cases hp) (fun listed F Z hL hF hZ a' w' he hsat hz=>kJ hsel perm (Bt (o::os) perm) listed a' w' (hpick perm (by simpa using hp)) hL.1.1 (hL.2 a' w' he hsat)) _ _ _ _ H (jO _) dE.triv (a.put (some d) v) {w with drawn:=w.drawn+1} ⟨rfl,rfl,rfl,Nat.le_refl _,fun _ _=>rfl⟩ hsat (fun _ hp=>by cases hp) trivial
 rw[htl] at rest
 refine wp_mono (wp_region_any (Q:=nK Q) hm ?_) fun e a w he=>by obtain⟨rfl,h⟩:=he;exact h
 have hsz:(o::os).toArray.size=(n-1+perm.length)+1:=by rw[←hlen];omega
 rw[show wpAny P .any (o::os).toArray (nK Q) (o::os).toArray.size=wpAny P .any (o::os).toArray (nK Q) ((n-1+perm.length)+1) by rw[hsz]]
 have hval:(∀w':World,(execOp a.eval o).run P w'=.ok (.value v) w'):=fun w'=>by
  rw[ho]
  have hv:a.eval x=v:=ha.ev hx
  simp[execOp,hv]
 have hdst:o.dst=some d:=by rw[ho]
 exact wpAny_take h00 hsel hf hr (fun c a w hp=>by obtain⟨hp,_⟩:=hp;cases hp) (.inl ⟨by rw[ho];rfl,hval⟩) (by rw[hdst];exact rest)
end
end Go.Rl
namespace Go.Rl
open Go.RowKit Go.Proofs
theorem Gm {n:Int} (h:ko n):1≤(cY n).length∧(cY n).length≤10:=⟨pu _,fQ (A2 h.1 h.2)⟩
theorem da {α β:Type} {f:α→List β} {l:List α} {i:Nat} (hi:i<l.length):(l.take (i+1)).flatMap f=(l.take i).flatMap f++f l[i]:=by
 rw[List.take_succ_eq_append_getElem hi,List.flatMap_append,List.flatMap_singleton]
end Go.Rl
namespace Go.Rl
open Go.RowKit Go.Proofs
theorem Gn {w:World} {g:Nat}:(Instr.sliceAt 24 (.pointer (some ⟨g,0,none⟩)) none none none).run Tryz.prog w=.ok (.slice (some ⟨g,0,none⟩) 32 32) w:=by
 simp[Instr.sliceAt,run_underlying Tryz.underlying24,Instr.sureAddr,Instr.sliceBounds,fj fa,Addr.add_mid]
theorem AD {X:Nat→Prop} {w:World}:∀(l:List Int),aO X w (l.map lT) (l.map I)
 |[]=>aO.nil
 |n::l=>aO.cons (a:=[I n]) (by simp only[lT,cv,I]) (AD l)
theorem j5.rpx {X:Nat→Prop} {w:World} {base:Nat} {l:List Int} {v:Value} (h:j5 base l v w) (hX:∀k,v.ownBlock=some k→¬X k):cv X w (IB l) [v]:=by
 obtain⟨n,h⟩:=h
 exact cv.ofOwn h (AD l) (by simp[Af]) (by omega) hX
end Go.Rl
namespace Go.Rl
open Go.RowKit Go.Proofs
section
variable {w:World} {g:Nat} {T:TypeId} {d:List UInt8} {v:Value}
def crt (d:List UInt8) (v:Value):List Value:=d.map U8++[v]
theorem HG:vF.length=32:=rfl
end
def IH (base:Nat) (l:List UInt8) (r:Value) (w:World):Prop:=∃v,r=.tuple #[.agg (crt (HE l).1.1 v).toArray,I (HE l).2]∧cv (fun k=>k<base) w (.sl ((HE l).1.2.map bm)) [v]
theorem IH.ok {base:Nat} {l dg:List UInt8} {ts:List aV} {w:World} {v:Value} (h:HE l=((dg,ts),0)) (hv:cv (fun k=>k<base) w (.sl (ts.map bm)) [v]):IH base l (.tuple #[.agg (crt dg v).toArray,I 0]) w:=⟨v,by rw[h],by rw[h];exact hv⟩
theorem pT {α:Type} {p:α→Bool} {l:List α} {i:Nat} (hi:i<l.length) (h:l.all p=(l.drop i).all p) (h1:p l[i]=true):l.all p=(l.drop (i+1)).all p:=by rw[h,Ay hi,h1,Bool.true_and]
theorem fZ {α:Type} {p:α→Bool} {l:List α} {i:Nat} (hi:i<l.length) (h:l.all p=(l.drop i).all p) (h1:p l[i]=false):l.all p=false:=by rw[h,Ay hi,h1,Bool.false_and]
theorem mS {α:Type} {p:α→Bool} {l:List α} {i:Nat} (hi:l.length≤i) (h:l.all p=(l.drop i).all p):l.all p=true:=by rw[h,List.drop_eq_nil_of_le hi];rfl
end Go.Rl
namespace Go.Rl
open Go.RowKit Go.Proofs
end Go.Rl
namespace Go.Rl
open Go.RowKit Go.Proofs
end Go.Rl
namespace Go.Rl
open Go.RowKit Go.Proofs
theorem qS:aH Tryz.prog 114:=⟨_,Tryz.func114,by kernel_rfl,rfl⟩
theorem nY:aH Tryz.prog 82:=⟨_,Tryz.func82,by kernel_rfl,rfl⟩
theorem mT:aH Tryz.prog 85:=⟨_,Tryz.func85,by kernel_rfl,rfl⟩
theorem BD:aH Tryz.prog 149:=⟨_,Tryz.func149,by kernel_rfl,rfl⟩
theorem jB:aH Tryz.prog 148:=⟨_,Tryz.func148,by kernel_rfl,rfl⟩
theorem nZ:aH Tryz.prog 147:=⟨_,Tryz.func147,by kernel_rfl,rfl⟩
theorem sU:aH Tryz.prog 115:=⟨_,Tryz.func115,by kernel_rfl,rfl⟩
theorem BE:aH Tryz.prog 77:=⟨_,Tryz.func77,by kernel_rfl,rfl⟩
theorem je:(Tryz.prog.info? 22).map (·.size)=some 1:=by kernel_rfl
theorem jf {w:World} {g:Nat}:(Instr.fieldAt 142 (.pointer (some ⟨g,0,none⟩)) 0).run Tryz.prog w=.ok (.pointer (some ⟨g,0,none⟩)) w:=ap (o:=0) Tryz.underlying142 rfl (by kernel_rfl) rfl
def HH (T:TypeId) (base g:Nat) (l:List UInt8) (v:Value) (w:World) (w':World):Prop:=∃v',gi T base g l v' w'∧cO g v w v' w'
theorem Kr {a:Int} (ha:ko a):∀n∈[a],ko n:=fun n hn=>by
 simp only[List.mem_cons,List.not_mem_nil,or_false] at hn
 subst hn;exact ha
theorem Ks {a b:Int} (ha:ko a) (hb:ko b):∀n∈[a,b],ko n:=fun n hn=>by
 simp only[List.mem_cons,List.not_mem_nil,or_false] at hn
 rcases hn with rfl|rfl<;>assumption
theorem II {a b c d:Int} (ha:ko a) (hb:ko b) (hc:ko c) (hd:ko d):∀n∈[a,b,c,d],ko n:=fun n hn=>by
 simp only[List.mem_cons,List.not_mem_nil,or_false] at hn
 rcases hn with rfl|rfl|rfl|rfl<;>assumption
theorem pV {α:Type} {f:α→List UInt8} (l:List α) (k:Nat):((l.take k).flatMap f).length≤(l.flatMap f).length:=by
 have h:(l.flatMap f)=(l.take k).flatMap f++(l.drop k).flatMap f:=by rw[←List.flatMap_append,List.take_append_drop]
 rw[h,List.length_append]
 omega
theorem fq {α:Type} {f:α→List UInt8} {l:List α} {i:Nat} (hi:i<l.length):((l.take i).flatMap f).length+(f l[i]).length≤(l.flatMap f).length:=by
 have h:=pV (f:=f) l (i+1)
 rw[da hi,List.length_append] at h
 exact h
theorem qV {T:TypeId} {w:World} {b g:Nat} {l:List UInt8} {n:Nat} {v:Value} (hW:gi T b g l v w) (h0:b≤w.heap.size) (hl:l.length≤35184372088832) (hn:n≤9223372036854775807):
 Calls Tryz.prog 114 #[.pointer (some ⟨g,0,none⟩),I (n:Int)] w (bH fun _ w'=>HH T b g (l++uv n) v w w'):=by
 refine enter (vs:=[.pointer (some ⟨g,0,none⟩),I (n:Int)]) Tryz.func114 E E E ?_
 have kg:=hW.blk
 have hun:(UInt64.ofNat n).toNat=n:=by rw[UInt64.toNat_ofNat'];omega
 refine tB 8 [8,9,10,11] [4,8,11] (by kernel_rfl) (by kernel_rfl) E E E ?_
 refine ay E E (cN E E ?_)
 refine aT E E (fun w _=>jf) ?_
 refine aN E E (fun w hw=>ai KP E (hw.cell_some kg.k0)) (ay E E (dT E E (fun w hw=>fJ KI KM) ?_))
 refine cd (S:=cE (uv n)) np (cE.stable _) rfl (fun w hw=>by rintro _ rfl _ rfl;exact bH.mono (nq (n:=UInt64.ofNat n) (cE.nil _) (by simp)) fun v w' h=>⟨h.1,by have:=h.2.bts;rwa [hun,List.nil_append] at this⟩) ?_
 refine cb ?_
 intro wg0 xg0
 rintro _ rfl
 rintro _ hq8
 obtain rfl:=Eq.symm hq8
 intro vg11 b11
 have hun2:=pu n
 have hun3:=fQ (n:=n) (by omega)
 obtain⟨v12,wa,wb,hr12,hs12,hW',st12⟩:=gi.put (t:=22) (t2:=22) (ty:=22) KP je KP (hW.ext xg0) (Nat.le_trans h0 xg0.size) b11 (by omega) (by omega)
 refine aW E E hr12 ?_
 refine aq E E ?_
 refine ah E E jf ?_
 refine ax E E (hs12) (ag (yw (ju E ?_)))
 exact⟨_,rfl,v12,hW',(cO.of_ext xg0).trans st12⟩
theorem oa {T:TypeId} {w:World} {b g:Nat} {l:List UInt8} {ns:List Int} {nv v:Value} (hW:gi T b g l v w) (h0:b≤w.heap.size) (hv:cv (WrX g v) w (IB ns) [nv]) (hi64:∀n∈ns,ko n) (hl:l.length+10*ns.length≤35184372088832):
 Calls Tryz.prog 82 #[.pointer (some ⟨g,0,none⟩),nv] w (bH fun _ w'=>HH T b g (l++ns.flatMap cY) v w w'):=by
 refine enter (vs:=[.pointer (some ⟨g,0,none⟩),nv]) Tryz.func82 E E E ?_
 have hd:ct lT ns nv w:=hv.rp
 have hll:=hd.len
 refine af (aa (ae E E (aS E E (a9 Tryz.underlying32 hd) (ae E E (ag (ab (aE ?_)))))))
 refine fb (fun(i:Nat) (u:Value)=>[(0,.pointer (some ⟨g,0,none⟩)),(6,nv),(7,I (ns.length:Int)),(8,I (i:Int))]) (fun(i:Nat) (u:Value) w'=>gi T b g (l++(ns.take i).flatMap cY) u w'∧cO g v w u w'∧i≤ns.length∧((ns.take i).flatMap cY).length≤10*i) (fun(i:Nat) (u:Value)=>ns.length-i) (0) (v) ⟨rfl,rfl,rfl,rfl,trivial⟩ ⟨by simpa using hW,cO.refl,by omega,by simp⟩ ?_
 rintro i u wL ⟨hW1,st1,hi,hle⟩
 refine af (aa (ak E E E (bb) (ag (ab (af ?_)))))
 refine bt E (fun h9=>?_) (fun h9=>?_)
 ·have hd1:ct lT ns nv wL:=(hv.step st1).rp
  refine aC (ab (af (aE (af (aa ?_)))))
  obtain⟨a10,c10,p10,q10,h10⟩:=bR (P:=Tryz.prog) (sz:=1) Tryz.underlying32 (by kernel_rfl) Af (by omega) hd1 (i:=i) (by omega) .i64
  obtain⟨e10,he10⟩:∃e,e=ns[i]'(by omega):=⟨_,rfl⟩
  rw[←he10] at h10
  obtain rfl:=Hu h10
  refine au E E E (p10 _) ?_
  have hn:=hi64 e10 (by rw[he10];exact List.getElem_mem _)
  have hen:=Gm hn
  refine aj E E (ai KI E q10.cell0) (ac E E (ag (ab ?_)))
  have kg:=hW1.blk
  refine tB 7 [7,8,9,10] [0,6,7,8,12,16,18] (by kernel_rfl) (by kernel_rfl) E E E ?_
  refine ay E E (cN E E ?_)
  refine aT E E (fun w _=>jf) ?_
  refine aN rfl rfl (fun w hw=>ai Tryz.underlying22 rfl (hw.cell_some kg.k0)) (ay rfl rfl (cd (S:=cE (cY e10)) jQ (cE.stable _) rfl (fun w hw=>by rintro _ rfl _ rfl;exact bH.mono (jS (n:=e10) (cE.nil _) (by simp) hn.1 hn.2) fun v w' h=>⟨h.1,by have:=h.2.bts;rwa [List.nil_append] at this⟩) ?_))
  refine cb ?_
  intro wg3 xg3
  rintro _ rfl
  rintro _ hq6
  obtain rfl:=Eq.symm hq6
  rintro _ rfl
  rintro _ rfl
  rintro _ rfl
  rintro _ hq16
  obtain rfl:=Eq.symm hq16
  intro vg18 b18
  obtain⟨v19,wa,wb,hr19,hs19,hW2,st19⟩:=gi.put (t:=22) (t2:=22) (ty:=22) Tryz.underlying22 je Tryz.underlying22 (hW1.ext xg3) (Nat.le_trans h0 (Nat.le_trans st1.mv.size xg3.size)) b18 (by omega) (by simp only[List.length_append];omega)
  refine aW E E hr19 ?_
  refine aq E E ?_
  refine ah E E jf ?_
  refine ax E E (hs19) (ag (yw (aR (ab (aa (ak (r:=I ((i+1:Nat):Int)) E E E (by have e:((i+1:Nat):Int)=(i:Int)+1:=(by omega);rw[e];exact aP (by omega) (by omega)) ?_))))))
  refine ae E E (ag ?_)
  refine dv (i+1) (v19) ⟨rfl,rfl,rfl,rfl,trivial⟩ ⟨by rw[da (by omega),←he10,←List.append_assoc];exact hW2,(st1.trans (cO.of_ext xg3)).trans st19,by omega,by rw[da (by omega),←he10,List.length_append];omega⟩ (by omega)
 ·refine be (aK (aK (bf (ju E ?_))))
  exact⟨_,rfl,u,by rw[List.take_of_length_le (by omega)] at hW1;exact hW1,st1⟩
theorem mU {T:TypeId} {wz w:World} {g:Nat} {l:List UInt8} {q:eW} {x y v:Value} (ez:aJ wz w) (hW:gi T wz.heap.size g l v w) (hx:bi q.2.1 x wz) (hy:bi q.2.2 y wz) (hl:l.length+(fN q).length≤4398046511104):
 Calls Tryz.prog 85 #[.pointer (some ⟨g,0,none⟩),.agg #[B q.1,x,y]] w (bH fun _ w'=>HH T wz.heap.size g (l++fN q) v w w'):=by
 refine enter (vs:=[.pointer (some ⟨g,0,none⟩),.agg #[B q.1,x,y]]) Tryz.func85 E E E ?_
 have hqa:=jc q
 have hq1:1≤(fN q).length:=by simp only[fN,nA,List.length_append,List.length_cons,List.length_nil];omega
 refine af (aa ?_)
 obtain⟨g3,w3,hr3,l3,x3,k3⟩:=ca (P:=Tryz.prog) (w:=w) (T:=46) (cs:=[B q.1,x,y])
 refine cm E E hr3 (ag (ab ?_))
 have hW3:=hW.ext x3
 have kg:=hW3.blk
 refine tB 7 [7,8,9,10] [4,8,10] (by kernel_rfl) (by kernel_rfl) E E E ?_
 refine ay E E (cN E E ?_)
 refine aT E E (fun w _=>jf) ?_
 refine aN E E (fun w hw=>ai KP E (hw.cell_some kg.k0)) (aN E E (fun w hw=>(k3.ext hw).ld KJ E (by kernel_rfl)) ?_)
 refine cd (S:=cE (fN q)) nO (cE.stable _) rfl (fun w hw=>by rintro _ rfl _ rfl;exact bH.mono (nP (cE.nil _) (dt.mk ((hx.ext (ez.trans x3)).ext hw) ((hy.ext (ez.trans x3)).ext hw)) (by simp only[List.length_nil];omega)) fun v w' h=>⟨h.1,by have:=h.2.bts;rwa [List.nil_append] at this⟩) ?_
 refine cb ?_
 intro wg1 xg1
 rintro _ rfl
 rintro _ hq8
 obtain rfl:=Eq.symm hq8
 intro vg10 b10
 obtain⟨v11,wa,wb,hr11,hs11,hW2,st11⟩:=gi.put (t:=22) (t2:=22) (ty:=22) KP je KP (hW3.ext xg1) (((ez.trans x3).trans xg1)).size b10 (by omega) (by omega)
 refine aW E E hr11 ?_
 refine aq E E ?_
 refine ah E E jf ?_
 refine ax E E (hs11) (ag (yw (ju E ?_)))
 exact⟨_,rfl,v11,hW2,(cO.of_ext (x3.trans xg1)).trans st11⟩
theorem BF {T:TypeId} {wz w:World} {g:Nat} {l:List UInt8} {d:bz} {x y v:Value} (ez:aJ wz w) (hW:gi T wz.heap.size g l v w) (hx:bi d.at_.2.1 x wz) (hy:bi d.at_.2.2 y wz) (hw:wD d) (hl:l.length+(fm d).length≤4398046511104):
 Calls Tryz.prog 149 #[.pointer (some ⟨g,0,none⟩),.agg #[I d.kd,I d.ix,B d.at_.1,x,y]] w (bH fun _ w'=>HH T wz.heap.size g (l++fm d) v w w'):=by
 refine enter (vs:=[.pointer (some ⟨g,0,none⟩),.agg #[I d.kd,I d.ix,B d.at_.1,x,y]]) Tryz.func149 E E E ?_
 have hdl:(fm d).length=(cY d.kd).length+(cY d.ix).length+(fN d.at_).length:=by simp only[fm,List.length_append]
 refine af (aa ?_)
 obtain⟨g3,w3,hr3,l3,x3,k3⟩:=ca (P:=Tryz.prog) (w:=w) (T:=48) (cs:=[I d.kd,I d.ix,B d.at_.1,x,y])
 refine cm E E hr3 (ag (ab (af (aa (ae E E (ah E E (ap (o:=0) KH E (by kernel_rfl) E) ?_))))))
 refine aj E E (ai KI E (k3.cell (i:=0) E)) (ah E E (ap (o:=1) KH E (by kernel_rfl) E) ?_)
 refine aj E E (ai KI E (k3.cell (i:=1) E)) ?_
 obtain⟨v9,w9,hr9,x9,o9,ob9⟩:=Fd (w:=w3) (w3).heap.size [d.kd,d.ix] (by simp) (Nat.le_refl _)
 refine aG (vs:=[(0,I d.kd),(1,I d.ix)]) E E hr9 ?_
 have hW3:=hW.ext x3
 have hW9:=hW3.ext x9
 refine an nY E E ((oa (ns:=[d.kd,d.ix]) hW9 (((ez.trans x3).trans x9)).size (o9.rpx (fun k hk=>hW3.off_new (o9.lt k hk).1)) (Ks hw.1 hw.2) (by simp only[List.length_cons,List.length_nil];omega))) ?_
 rintro v10 w10 ⟨v10,hW10,st10⟩
 have x10:=st10.ext (((ez.trans x3).trans x9)) hW9.ge hW9.new
 have k3a:=st10.mv.blk (k3.ext x9) (hW.off_new l3)
 refine ag (ab (aa (ae rfl rfl (ah rfl rfl (ap (o:=2) Tryz.underlying48 rfl (by kernel_rfl) rfl) (aj rfl rfl (k3a.ldO (ms:=[B d.at_.1,x,y]) (o:=2) (fun j v hj=>by rcases j with _|_|_|_|_|_|_|_|_|j<;>simp_all) Tryz.underlying46 rfl (by kernel_rfl)) ?_)))))
 refine an mT E E ((mU (q:=d.at_) (x10) hW10 hx hy (by simp only[List.length_append,List.flatMap_cons,List.flatMap_nil,List.append_nil];omega))) ?_
 rintro v14 w14 ⟨v14,hW14,st14⟩
 have x14:=st14.ext (x10) hW10.ge hW10.new
 refine ag (ju E ?_)
 exact⟨_,rfl,v14,by simpa only[fm,List.flatMap_cons,List.flatMap_nil,List.append_nil,List.append_assoc] using hW14,((cO.of_ext (x3.trans x9)).trans st10).trans st14⟩
theorem jC {T:TypeId} {wz w:World} {g:Nat} {l:List UInt8} {ps:List ci} {pv v:Value} (ez:aJ wz w) (hW:gi T wz.heap.size g l v w) (hd:ct bI ps pv wz) (hw:wP ps) (hl:l.length+(iC ps).length≤4398046511104):
 Calls Tryz.prog 148 #[.pointer (some ⟨g,0,none⟩),pv] w (bH fun _ w'=>HH T wz.heap.size g (l++iC ps) v w w'):=by
 refine enter (vs:=[.pointer (some ⟨g,0,none⟩),pv]) Tryz.func148 E E E ?_
 have hll:=hd.len
 have hpl:(iC ps).length=(uv ps.length).length+(ps.flatMap ew).length:=by simp only[iC,List.length_append]
 refine af (aa (ae E E (ae E E (aS E E (a9 KS (hd.ext ez)) (an qS E E ((qV hW ez.size (by omega) (by omega))) ?_)))))
 rintro v9 w9 ⟨v9,hW9,st9⟩
 have x9:=st9.ext ez hW.ge hW.new
 refine ag (ab (af (aa (ae E E (aS E E (a9 KS (hd.ext x9)) (ae E E (ag (ab (aE ?_)))))))))
 refine fb (fun(i:Nat) (u:Value)=>[(0,.pointer (some ⟨g,0,none⟩)),(10,pv),(11,I (ps.length:Int)),(12,I (i:Int))]) (fun(i:Nat) (u:Value) w'=>gi T wz.heap.size g (l++uv ps.length++(ps.take i).flatMap ew) u w'∧cO g v w u w'∧aJ wz w'∧i≤ps.length) (fun(i:Nat) (u:Value)=>ps.length-i) (0) (v9) ⟨rfl,rfl,rfl,rfl,trivial⟩ ⟨by simpa using hW9,st9,x9,by omega⟩ ?_
 rintro i u wL ⟨hW1,st1,eL,hi⟩
 refine af (aa (ak E E E (bb) (ag (ab (af ?_)))))
 refine bt E (fun h13=>?_) (fun h13=>?_)
 ·refine aC (ab (af (aE (af (aa ?_)))))
  obtain⟨a14,c14,p14,q14,h14⟩:=bR (P:=Tryz.prog) (sz:=7) KS (by kernel_rfl) dB (by omega) hd (i:=i) (by omega) .i64
  obtain⟨e14,he14⟩:∃e,e=ps[i]'(by omega):=⟨_,rfl⟩
  rw[←he14] at h14
  obtain⟨x14_0,x14_1,rfl,f14_0,f14_1⟩:=gj h14
  refine au E E E (p14 _) ?_
  have hm:=hw e14 (by rw[he14];exact List.getElem_mem _)
  have hfl:=fq (f:=ew) (l:=ps) (i:=i) (by omega)
  rw[←he14] at hfl
  have hml:(ew e14).length=(cY e14.kd).length+(cY e14.ix).length+(cY e14.lo).length+(cY e14.hi).length+(fN e14.co).length:=by simp only[ew,List.length_append]
  refine aj E E ((q14.ext eL).ld KZ E (by kernel_rfl)) ?_
  obtain⟨g5,w5,hr5,l5,x5,k5⟩:=aZ (P:=Tryz.prog) (w:=wL) (t:=187) (z:=.agg #[I 0,I 0,I 0,I 0,B false,.slice none 0 0,.slice none 0 0]) (l:=[I 0,I 0,I 0,I 0,B false,.slice none 0 0,.slice none 0 0]) (by kernel_rfl) rfl
  refine aX E hr5 ?_
  obtain⟨w3_3,s3_3,q3_3,k3_3⟩:=k5.stS (P:=Tryz.prog) (t:=187) (m:=[I e14.kd,I e14.ix,I e14.lo,I e14.hi,B e14.co.1,x14_0,x14_1]) rfl (by kernel_rfl) (ao.cons rfl (ao.cons rfl (ao.cons rfl (ao.cons rfl (ao.cons rfl (ao.cons f14_0.one (ao.cons f14_1.one ao.nil)))))))
  refine ax E E s3_3 ?_
  have x3_3:=aJ.of_new (x5) q3_3 l5
  refine ag (ab (af (aa (ae E E (ah E E (ap (o:=0) KZ E (by kernel_rfl) E) (ah E E (ap (o:=0) Lb E (by kernel_rfl) E) ?_))))))
  refine aj E E (ai KI E (k3_3.cell (i:=0) E)) (ah E E (ap (o:=0) KZ E (by kernel_rfl) E) ?_)
  refine ah E E (ap (o:=1) Lb E (by kernel_rfl) E) (aj E E (ai KI E (k3_3.cell (i:=1) E)) ?_)
  refine ah E E (ap (o:=0) KZ E (by kernel_rfl) E) (ah E E (ap (o:=2) Lb E (by kernel_rfl) E) ?_)
  refine aj E E (ai KI E (k3_3.cell (i:=2) E)) (ah E E (ap (o:=0) KZ E (by kernel_rfl) E) ?_)
  refine ah E E (ap (o:=3) Lb E (by kernel_rfl) E) (aj E E (ai KI E (k3_3.cell (i:=3) E)) ?_)
  obtain⟨v29,w29,hr29,x29,o29,ob29⟩:=Fd (w:=w3_3) (w3_3).heap.size [e14.kd,e14.ix,e14.lo,e14.hi] (by simp) (Nat.le_refl _)
  refine aG (vs:=[(0,I e14.kd),(1,I e14.ix),(2,I e14.lo),(3,I e14.hi)]) E E hr29 ?_
  have hWb:=hW1.ext x3_3
  have hWc:=hWb.ext x29
  refine an nY E E ((oa (ns:=[e14.kd,e14.ix,e14.lo,e14.hi]) hWc (((eL.trans x3_3).trans x29)).size (o29.rpx (fun k hk=>hWb.off_new (o29.lt k hk).1)) (II hm.1 hm.2.1 hm.2.2.1 hm.2.2.2) (by simp only[List.length_append,List.length_cons,List.length_nil];omega))) ?_
  rintro v30 w30 ⟨v30,hW30,st30⟩
  have x30:=st30.ext (((eL.trans x3_3).trans x29)) hWc.ge hWc.new
  have k5a:=st30.mv.blk (k3_3.ext x29) (hW1.off_new l5)
  refine ag (ab (aa (ae rfl rfl (ah rfl rfl (ap (o:=4) Tryz.underlying187 rfl (by kernel_rfl) rfl) (aj rfl rfl (k5a.ldO (ms:=[B e14.co.1,x14_0,x14_1]) (o:=4) (fun j v hj=>by rcases j with _|_|_|_|_|_|_|_|_|j<;>simp_all) Tryz.underlying46 rfl (by kernel_rfl)) ?_)))))
  refine an mT E E ((mU (q:=e14.co) (x30) hW30 f14_0 f14_1 (by simp only[List.length_append,List.flatMap_cons,List.flatMap_nil,List.append_nil];omega))) ?_
  rintro v34 w34 ⟨v34,hW34,st34⟩
  have x34:=st34.ext (x30) hW30.ge hW30.new
  refine ag (aR (ab (aa (ak (r:=I ((i+1:Nat):Int)) E E E (by have e:((i+1:Nat):Int)=(i:Int)+1:=(by omega);rw[e];exact aP (by omega) (by omega)) ?_))))
  refine ae E E (ag ?_)
  refine dv (i+1) (v34) ⟨rfl,rfl,rfl,rfl,trivial⟩ ⟨by
   rw[da (by omega),←he14]
   simpa only[ew,List.flatMap_cons,List.flatMap_nil,List.append_nil,List.append_assoc] using hW34,((st1.trans (cO.of_ext (x3_3.trans x29))).trans st30).trans st34,x34,by omega⟩ (by omega)
 ·refine be (aK (aK (bf (ju E ?_))))
  exact⟨_,rfl,u,by rw[List.take_of_length_le (by omega),List.append_assoc] at hW1;exact hW1,st1⟩
end Go.Rl
namespace Go.Rl
open Go.RowKit Go.Proofs
theorem tC (b:Bool):(ux b).length=1:=by cases b<;>rfl
theorem ob {T:TypeId} {wz w:World} {g:Nat} {l:List UInt8} {ls:List er} {lv v:Value} (ez:aJ wz w) (hW:gi T wz.heap.size g l v w) (hd:ct cP ls lv wz) (hw:∀m∈ls,F7 m) (hl:l.length+(dU ls).length≤4398046511104):
 Calls Tryz.prog 147 #[.pointer (some ⟨g,0,none⟩),lv] w (bH fun _ w'=>HH T wz.heap.size g (l++dU ls) v w w'):=by
 refine enter (vs:=[.pointer (some ⟨g,0,none⟩),lv]) Tryz.func147 E E E ?_
 have hll:=hd.len
 have hpl:(dU ls).length=(uv ls.length).length+(ls.flatMap dC).length:=by simp only[dU,List.length_append]
 refine af (aa (ae E E (ae E E (aS E E (a9 KT (hd.ext ez)) (an qS E E ((qV hW ez.size (by omega) (by omega))) ?_)))))
 rintro v10 w10 ⟨v10,hW10,st10⟩
 have x10:=st10.ext ez hW.ge hW.new
 refine ag (ab (af (aa (ae E E (aS E E (a9 KT (hd.ext x10)) (ae E E (ag (ab (aE ?_)))))))))
 refine fb (fun(i:Nat) (u:Value)=>[(0,.pointer (some ⟨g,0,none⟩)),(11,lv),(12,I (ls.length:Int)),(13,I (i:Int))]) (fun(i:Nat) (u:Value) w'=>gi T wz.heap.size g (l++uv ls.length++(ls.take i).flatMap dC) u w'∧cO g v w u w'∧aJ wz w'∧i≤ls.length) (fun(i:Nat) (u:Value)=>ls.length-i) (0) (v10) ⟨rfl,rfl,rfl,rfl,trivial⟩ ⟨by simpa using hW10,st10,x10,by omega⟩ ?_
 rintro i u wL ⟨hW1,st1,eL,hi⟩
 refine af (aa (ak E E E (bb) (ag (ab (af ?_)))))
 refine bt E (fun h14=>?_) (fun h14=>?_)
 ·refine aC (ab (af (aE (af (aa ?_)))))
  obtain⟨a15,c15,p15,q15,h15⟩:=bR (P:=Tryz.prog) (sz:=6) KT (by kernel_rfl) cV (by omega) hd (i:=i) (by omega) .i64
  obtain⟨e15,he15⟩:∃e,e=ls[i]'(by omega):=⟨_,rfl⟩
  rw[←he15] at h15
  obtain⟨x15_0,x15_1,x15_2,rfl,f15_0,f15_1,f15_2⟩:=fk h15
  refine au E E E (p15 _) ?_
  have hm:=hw e15 (by rw[he15];exact List.getElem_mem _)
  have hfl:=fq (f:=dC) (l:=ls) (i:=i) (by omega)
  rw[←he15] at hfl
  have hbl:=tC e15.up
  have hml:(dC e15).length=(cY e15.un).length+(ux e15.up).length+(fN e15.va).length+(iC e15.pf).length:=by simp only[dC,List.length_append]
  obtain⟨pre,hpre⟩:∃pre,pre=l++uv ls.length++(ls.take i).flatMap dC:=⟨_,rfl⟩
  have hprl:pre.length=l.length+(uv ls.length).length+((ls.take i).flatMap dC).length:=by rw[hpre];simp only[List.length_append]
  rw[←hpre] at hW1
  refine aj E E ((q15.ext eL).ld KV E (by kernel_rfl)) ?_
  obtain⟨g5,w5,hr5,l5,x5,k5⟩:=aZ (P:=Tryz.prog) (w:=wL) (t:=173) (z:=.agg #[I 0,B false,B false,.slice none 0 0,.slice none 0 0,.slice none 0 0]) (l:=[I 0,B false,B false,.slice none 0 0,.slice none 0 0,.slice none 0 0]) (by kernel_rfl) rfl
  refine aX E hr5 ?_
  obtain⟨w3_3,s3_3,q3_3,k3_3⟩:=k5.stS (P:=Tryz.prog) (t:=173) (m:=[I e15.un,B e15.up,B e15.va.1,x15_0,x15_1,x15_2]) rfl (by kernel_rfl) (ao.cons rfl (ao.cons rfl (ao.cons rfl (ao.cons f15_0.one (ao.cons f15_1.one (ao.cons f15_2.one ao.nil))))))
  refine ax E E s3_3 ?_
  have x3_3:=aJ.of_new (x5) q3_3 l5
  refine ag (ab (af (aa (ae E E (ah E E (ap (o:=0) KV E (by kernel_rfl) E) (aj E E (ai KI E (k3_3.cell (i:=0) E)) ?_))))))
  obtain⟨v20,w20,hr20,x20,o20,ob20⟩:=Fd (w:=w3_3) (w3_3).heap.size [e15.un] (by simp) (Nat.le_refl _)
  refine aG (vs:=[(0,I e15.un)]) E E hr20 ?_
  have hWb:=hW1.ext x3_3
  have hWc:=hWb.ext x20
  refine an nY E E ((oa (ns:=[e15.un]) hWc (((eL.trans x3_3).trans x20)).size (o20.rpx (fun k hk=>hWb.off_new (o20.lt k hk).1)) (Kr hm.1) (by simp only[List.length_cons,List.length_nil];omega))) ?_
  rintro v21 w21 ⟨v21,hW21,st21⟩
  have x21:=st21.ext (((eL.trans x3_3).trans x20)) hWc.ge hWc.new
  have n5:=hW1.off_new l5
  have k5a:=st21.mv.blk (k3_3.ext x20) n5
  have n5a:=st21.off n5 (k3_3.ext x20).lt
  have kg:=hW21.blk
  have hc1:[e15.un].flatMap cY=cY e15.un:=by simp only[List.flatMap_cons,List.flatMap_nil,List.append_nil]
  rw[hc1] at hW21
  refine ag (ab (af (aa (ac E E (ag (ab (af (af (aa (ah E E (ap (o:=1) KV E (by kernel_rfl) E) ?_))))))))))
  refine aj E E (ai KQ E (k5a.cell (i:=1) E)) (ag (ab ?_))
  refine fc E (fun h23=>?_) (fun h23=>?_)
  ·have hbit:ux e15.up=[1]:=by rw[h23];rfl
   refine aa (ac E E (ag (ab (af (aa (ae E E (ae E E (aq E E ?_))))))))
   refine ah E E jf ?_
   refine aj E E (ai KP E kg.k0) (ae E E ?_)
   obtain⟨v30,w30,hr30,x30,o30,ob30⟩:=dR (w:=w21) w21.heap.size [1] (by simp) (Nat.le_refl _)
   refine aG (vs:=[(0,U8 1)]) E E hr30 ?_
   obtain⟨v31,wa31,wb31,hr31,hs31,hW31,st31⟩:=gi.put (t:=22) (t2:=22) (ty:=22) Tryz.underlying22 je Tryz.underlying22 (hW21.ext x30) ((x21.trans x30)).size o30.bts (by simp) (by simp only[List.length_append,List.length_cons,List.length_nil];omega)
   refine aW E E hr31 ?_
   refine aq E E ?_
   refine ah E E jf ?_
   refine ax E E hs31 ?_
   have x31:=st31.ext ((x21.trans x30)) (hW21.ext x30).ge (hW21.ext x30).new
   have k5b:=st31.mv.blk (k5a.ext x30) n5a
   have n5b:=st31.off n5a (k5a.ext x30).lt
   rw[←hbit] at hW31
   refine ag (ab (af (aa (ae rfl rfl (ah rfl rfl (ap (o:=2) Tryz.underlying173 rfl (by kernel_rfl) rfl) (aj rfl rfl (k5b.ldO (ms:=[B e15.va.1,x15_0,x15_1]) (o:=2) (fun j v hj=>by rcases j with _|_|_|_|_|_|_|_|_|j<;>simp_all) Tryz.underlying46 rfl (by kernel_rfl)) ?_))))))
   refine an mT E E ((mU (q:=e15.va) (x31) hW31 f15_0 f15_1 (by simp only[List.length_append];omega))) ?_
   rintro v37 w37 ⟨v37,hW37,st37⟩
   have x37:=st37.ext (x31) hW31.ge hW31.new
   have k5c:=st37.mv.blk k5b n5b
   refine ag (ab (aa (ae E E (ah E E (ap (o:=5) KV E (by kernel_rfl) E) (aj E E (ai KS E (k5c.cell (i:=5) E)) ?_)))))
   refine an jB E E ((jC (ps:=e15.pf) (x37) hW37 f15_2 hm.2 (by simp only[List.length_append];omega))) ?_
   rintro v41 w41 ⟨v41,hW41,st41⟩
   have x41:=st41.ext (x37) hW37.ge hW37.new
   refine ag (aR (ab (aa (ak (r:=I ((i+1:Nat):Int)) E E E (by have e:((i+1:Nat):Int)=(i:Int)+1:=(by omega);rw[e];exact aP (by omega) (by omega)) ?_))))
   refine ae E E (ag ?_)
   refine dv (i+1) (v41) ⟨rfl,rfl,rfl,rfl,trivial⟩ ⟨by
    rw[da (by omega),←he15,←List.append_assoc,←hpre]
    simpa only[dC,List.append_assoc] using hW41,((((st1.trans (cO.of_ext (x3_3.trans x20))).trans st21).trans ((cO.of_ext x30).trans st31)).trans st37).trans st41,x41,by omega⟩ (by omega)
  ·have hbit:ux e15.up=[0]:=by rw[h23];rfl
   refine aC (ab (af (aa (ae E E (ae E E (aq E E ?_))))))
   refine ah E E jf ?_
   refine aj E E (ai KP E kg.k0) (ae E E ?_)
   obtain⟨v30,w30,hr30,x30,o30,ob30⟩:=dR (w:=w21) w21.heap.size [0] (by simp) (Nat.le_refl _)
   refine aG (vs:=[(0,U8 0)]) E E hr30 ?_
   obtain⟨v31,wa31,wb31,hr31,hs31,hW31,st31⟩:=gi.put (t:=22) (t2:=22) (ty:=22) Tryz.underlying22 je Tryz.underlying22 (hW21.ext x30) ((x21.trans x30)).size o30.bts (by simp) (by simp only[List.length_append,List.length_cons,List.length_nil];omega)
   refine aW E E hr31 ?_
   refine aq E E ?_
   refine ah E E jf ?_
   refine ax E E hs31 ?_
   have x31:=st31.ext ((x21.trans x30)) (hW21.ext x30).ge (hW21.ext x30).new
   have k5b:=st31.mv.blk (k5a.ext x30) n5a
   have n5b:=st31.off n5a (k5a.ext x30).lt
   rw[←hbit] at hW31
   refine ag (ab (af (aa (ae rfl rfl (ah rfl rfl (ap (o:=2) Tryz.underlying173 rfl (by kernel_rfl) rfl) (aj rfl rfl (k5b.ldO (ms:=[B e15.va.1,x15_0,x15_1]) (o:=2) (fun j v hj=>by rcases j with _|_|_|_|_|_|_|_|_|j<;>simp_all) Tryz.underlying46 rfl (by kernel_rfl)) ?_))))))
   refine an mT E E ((mU (q:=e15.va) (x31) hW31 f15_0 f15_1 (by simp only[List.length_append];omega))) ?_
   rintro v37 w37 ⟨v37,hW37,st37⟩
   have x37:=st37.ext (x31) hW31.ge hW31.new
   have k5c:=st37.mv.blk k5b n5b
   refine ag (ab (aa (ae E E (ah E E (ap (o:=5) KV E (by kernel_rfl) E) (aj E E (ai KS E (k5c.cell (i:=5) E)) ?_)))))
   refine an jB E E ((jC (ps:=e15.pf) (x37) hW37 f15_2 hm.2 (by simp only[List.length_append];omega))) ?_
   rintro v41 w41 ⟨v41,hW41,st41⟩
   have x41:=st41.ext (x37) hW37.ge hW37.new
   refine ag (aR (ab (aa (ak (r:=I ((i+1:Nat):Int)) E E E (by have e:((i+1:Nat):Int)=(i:Int)+1:=(by omega);rw[e];exact aP (by omega) (by omega)) ?_))))
   refine ae E E (ag ?_)
   refine dv (i+1) (v41) ⟨rfl,rfl,rfl,rfl,trivial⟩ ⟨by
    rw[da (by omega),←he15,←List.append_assoc,←hpre]
    simpa only[dC,List.append_assoc] using hW41,((((st1.trans (cO.of_ext (x3_3.trans x20))).trans st21).trans ((cO.of_ext x30).trans st31)).trans st37).trans st41,x41,by omega⟩ (by omega)
 ·refine be (aK (aK (bf (ju E ?_))))
  exact⟨_,rfl,u,by rw[List.take_of_length_le (by omega),List.append_assoc] at hW1;exact hW1,st1⟩
theorem AE {T:TypeId} {wz w:World} {g:Nat} {l:List UInt8} {n:aV} {vl x y vk vp v:Value}
 (ih:∀k∈n.kids,∀{w:World} {l:List UInt8} {vl x y vk vp v:Value},aJ wz w→gi T wz.heap.size g l v w→ct cP k.lems vl wz→bi k.split.at_.2.1 x wz→bi k.split.at_.2.2 y wz→ct bm k.kids vk wz→ct bI k.pf vp wz→wN k→l.length+(dc k).length≤4398046511104→
   Calls Tryz.prog 115 #[.pointer (some ⟨g,0,none⟩),.agg #[vl,I k.split.kd,I k.split.ix,B k.split.at_.1,x,y,vk,B k.empty,vp]] w (bH fun _ w'=>HH T wz.heap.size g (l++dc k) v w w'))
 (ez:aJ wz w) (hW:gi T wz.heap.size g l v w) (hl:ct cP n.lems vl wz) (hx:bi n.split.at_.2.1 x wz) (hy:bi n.split.at_.2.2 y wz) (hk:ct bm n.kids vk wz) (hp:ct bI n.pf vp wz) (hw:wN n) (hb:l.length+(dc n).length≤4398046511104):
 Calls Tryz.prog 115 #[.pointer (some ⟨g,0,none⟩),.agg #[vl,I n.split.kd,I n.split.ix,B n.split.at_.1,x,y,vk,B n.empty,vp]] w (bH fun _ w'=>HH T wz.heap.size g (l++dc n) v w w'):=by
 refine enter (vs:=[.pointer (some ⟨g,0,none⟩),.agg #[vl,I n.split.kd,I n.split.ix,B n.split.at_.1,x,y,vk,B n.empty,vp]]) Tryz.func115 E E E ?_
 have hll:=hk.len
 obtain⟨wl,wd,wp,wk⟩:=(rR n).1 hw
 have hen:=lK n
 refine af (aa ?_)
 obtain⟨g3,w3,hr3,l3,x3,k3⟩:=ca (P:=Tryz.prog) (w:=w) (T:=52) (cs:=[vl,I n.split.kd,I n.split.ix,B n.split.at_.1,x,y,vk,B n.empty,vp])
 refine cm E E hr3 (ag (ab (af (aa (ac E E (ag (ab (af (aE (af (aa (ah E E (ap (o:=6) KF E (by kernel_rfl) E) ?_))))))))))))
 refine aj E E (ai KO E (k3.cell (i:=6) E)) (aS E E (a9 KO (hk.ext (ez.trans x3))) ?_)
 refine ak E E E (bV) (ac E E (ag (ab ?_)))
 refine bt E (fun h7=>?_) (fun h7=>?_)
 ·have h0:¬n.kids.length=0:=by omega
  rw[if_neg h0] at hen
  have hel:(dc n).length=1+(dU n.lems).length+(fm n.split).length+(n.kids.flatMap dc).length:=by rw[hen];simp only[List.length_append,List.length_cons,List.length_nil]
  refine aa (ac E E (ag (aR (ab (af ?_)))))
  have hW3:=hW.ext x3
  have kg:=hW3.blk
  have n3:=hW.off_new l3
  refine aa (ae E E (ae E E (aq E E ?_)))
  refine ah E E jf ?_
  refine aj E E (ai KP E kg.k0) (ae E E ?_)
  obtain⟨v21,w21,hr21,x21,o21,ob21⟩:=dR (w:=w3) w3.heap.size [2] (by simp) (Nat.le_refl _)
  refine aG (vs:=[(0,U8 2)]) E E hr21 ?_
  obtain⟨v22,wa22,wb22,hr22,hs22,hW22,st22⟩:=gi.put (t:=22) (t2:=22) (ty:=22) Tryz.underlying22 je Tryz.underlying22 (hW3.ext x21) (((ez.trans x3).trans x21)).size o21.bts (by simp) (by simp only[List.length_cons,List.length_nil];omega)
  refine aW E E hr22 ?_
  refine aq E E ?_
  refine ah E E jf ?_
  refine ax E E hs22 ?_
  have x22:=st22.ext (((ez.trans x3).trans x21)) (hW3.ext x21).ge (hW3.ext x21).new
  have k3a:=st22.mv.blk (k3.ext x21) n3
  have n3a:=st22.off n3 (k3.ext x21).lt
  refine ag (ab (af (aa (ae E E (ah E E (ap (o:=0) KF E (by kernel_rfl) E) (aj E E (ai KT E (k3a.cell (i:=0) E)) ?_))))))
  refine an nZ E E ((ob (ls:=n.lems) (x22) hW22 hl wl (by simp only[List.length_append,List.length_cons,List.length_nil];omega))) ?_
  rintro v28 w28 ⟨v28,hW28,st28⟩
  have x28:=st28.ext (x22) hW22.ge hW22.new
  have k3b:=st28.mv.blk k3a n3a
  have n3b:=st28.off n3a k3a.lt
  refine ag (ab (af (af (aa (ae E E ?_)))))
  refine ak (u:=U8 2) (v:=U8 2) (r:=B false) E E E (dn (show ¬(2:UInt8)<2 by decide) lp) ?_
  refine ag (ab (cy E (aC (ab (af (aa (ae E E (ah E E (ap (o:=1) KF E (by kernel_rfl) E) ?_))))))))
  refine aj rfl rfl (k3b.ldO (ms:=[I n.split.kd,I n.split.ix,B n.split.at_.1,x,y]) (o:=1) (fun j v hj=>by rcases j with _|_|_|_|_|_|_|_|_|j<;>simp_all) Tryz.underlying48 rfl (by kernel_rfl)) ?_
  refine an BD E E ((BF (d:=n.split) (x28) hW28 hx hy wd (by simp only[List.length_append,List.length_cons,List.length_nil];omega))) ?_
  rintro v38 w38 ⟨v38,hW38,st38⟩
  have x38:=st38.ext (x28) hW28.ge hW28.new
  have k3c:=st38.mv.blk k3b n3b
  obtain⟨pre,hpre⟩:∃pre,pre=l++[2]++dU n.lems++fm n.split:=⟨_,rfl⟩
  have hprl:pre.length=l.length+1+(dU n.lems).length+(fm n.split).length:=by rw[hpre];simp only[List.length_append,List.length_cons,List.length_nil]
  rw[←hpre] at hW38
  refine ag (ab (af (aa (ah E E (ap (o:=6) KF E (by kernel_rfl) E) (aj E E (ai KO E (k3c.cell (i:=6) E)) ?_)))))
  refine aS E E (a9 (f:=bm) KO (hk.ext (x38))) ?_
  refine ae E E (ag (ab (aE ?_)))
  refine fb (fun(i:Nat) (u:Value)=>[(0,.pointer (some ⟨g,0,none⟩)),(40,vk),(41,I (n.kids.length:Int)),(42,I (i:Int))]) (fun(i:Nat) (u:Value) w'=>gi T wz.heap.size g (pre++(n.kids.take i).flatMap dc) u w'∧cO g v w u w'∧aJ wz w'∧i≤n.kids.length) (fun(i:Nat) (u:Value)=>n.kids.length-i) (0) (v38) ⟨rfl,rfl,rfl,rfl,trivial⟩ ⟨by simpa using hW38,(((cO.of_ext (x3.trans x21)).trans st22).trans st28).trans st38,x38,by omega⟩ ?_
  rintro i u wL ⟨hW1,st1,eL,hi⟩
  refine af (aa (ak E E E (bb) (ag (ab (af ?_)))))
  refine bt E (fun h43=>?_) (fun h43=>?_)
  ·refine aC (ab (af (aE (af (aa ?_)))))
   obtain⟨a44,c44,p44,q44,h44⟩:=bR (P:=Tryz.prog) (sz:=9) KO (by kernel_rfl) cg (by omega) hk (i:=i) (by omega) .i64
   obtain⟨e44,he44⟩:∃e,e=n.kids[i]'(by omega):=⟨_,rfl⟩
   rw[←he44] at h44
   obtain⟨x44_0,x44_1,x44_2,x44_3,x44_4,rfl,f44_0,f44_1,f44_2,f44_3,f44_4⟩:=cW h44
   refine au E E E (p44 _) ?_
   have hfl:=fq (f:=dc) (l:=n.kids) (i:=i) (by omega)
   rw[←he44] at hfl
   have hmem:e44∈n.kids:=by rw[he44];exact List.getElem_mem _
   refine aj E E ((q44.ext eL).ld KF E (by kernel_rfl)) ?_
   obtain⟨g6,w6,hr6,l6,x6,k6⟩:=aZ (P:=Tryz.prog) (w:=wL) (t:=52) (z:=.agg #[.slice none 0 0,I 0,I 0,B false,.slice none 0 0,.slice none 0 0,.slice none 0 0,B false,.slice none 0 0]) (l:=[.slice none 0 0,I 0,I 0,B false,.slice none 0 0,.slice none 0 0,.slice none 0 0,B false,.slice none 0 0]) (by kernel_rfl) rfl
   refine aX E hr6 ?_
   obtain⟨w13_3,s13_3,q13_3,k13_3⟩:=k6.stS (P:=Tryz.prog) (t:=52) (m:=[x44_0,I e44.split.kd,I e44.split.ix,B e44.split.at_.1,x44_1,x44_2,x44_3,B e44.empty,x44_4]) rfl (by kernel_rfl) (ao.cons f44_0.one (ao.cons rfl (ao.cons rfl (ao.cons rfl (ao.cons f44_1.one (ao.cons f44_2.one (ao.cons f44_3.one (ao.cons rfl (ao.cons f44_4.one ao.nil)))))))))
   refine ax E E s13_3 ?_
   have x13_3:=aJ.of_new (x6) q13_3 l6
   refine ag (ab (aa (ae E E (aj E E (k13_3.ld Tryz.underlying52 E (by kernel_rfl)) (an sU E E ((ih e44 hmem ((eL.trans x13_3)) (hW1.ext x13_3) f44_0 f44_1 f44_2 f44_3 f44_4 (wk e44 hmem) (by simp only[List.length_append];omega))) ?_)))))
   rintro v48 w48 ⟨v48,hW48,st48⟩
   have x48:=st48.ext ((eL.trans x13_3)) hW1.ge hW1.new
   refine ag (aR (ab (aa (ak (r:=I ((i+1:Nat):Int)) E E E (by have e:((i+1:Nat):Int)=(i:Int)+1:=(by omega);rw[e];exact aP (by omega) (by omega)) ?_))))
   refine ae E E (ag ?_)
   refine dv (i+1) (v48) ⟨rfl,rfl,rfl,rfl,trivial⟩ ⟨by rw[da (by omega),←he44,←List.append_assoc];exact hW48,(st1.trans (cO.of_ext x13_3)).trans st48,x48,by omega⟩ (by omega)
  ·refine be (aK (aK (bf (ju E ?_))))
   exact⟨_,rfl,u,by rw[List.take_of_length_le (by omega),hpre] at hW1;rw[hen];simpa only[List.append_assoc] using hW1,st1⟩
 ·have h0:n.kids.length=0:=by omega
  rw[if_pos h0] at hen
  have hel:(dc n).length=1+(dU n.lems).length+(iC n.pf).length:=by rw[hen];simp only[List.length_append,tC]
  refine af (aa (ah E E (ap (o:=7) KF E (by kernel_rfl) E) (aj E E (ai KQ E (k3.cell (i:=7) E)) ?_)))
  refine ac E E (ag (ab ?_))
  refine fc E (fun h12=>?_) (fun h12=>?_)
  ·have hbit:ux n.empty=[1]:=by rw[h12];rfl
   refine aa (ac E E (ag (aR (ab (af ?_)))))
   have hW3:=hW.ext x3
   have kg:=hW3.blk
   have n3:=hW.off_new l3
   refine aa (ae E E (ae E E (aq E E ?_)))
   refine ah E E jf ?_
   refine aj E E (ai KP E kg.k0) (ae E E ?_)
   obtain⟨v21,w21,hr21,x21,o21,ob21⟩:=dR (w:=w3) w3.heap.size [1] (by simp) (Nat.le_refl _)
   refine aG (vs:=[(0,U8 1)]) E E hr21 ?_
   obtain⟨v22,wa22,wb22,hr22,hs22,hW22,st22⟩:=gi.put (t:=22) (t2:=22) (ty:=22) Tryz.underlying22 je Tryz.underlying22 (hW3.ext x21) (((ez.trans x3).trans x21)).size o21.bts (by simp) (by simp only[List.length_cons,List.length_nil];omega)
   refine aW E E hr22 ?_
   refine aq E E ?_
   refine ah E E jf ?_
   refine ax E E hs22 ?_
   have x22:=st22.ext (((ez.trans x3).trans x21)) (hW3.ext x21).ge (hW3.ext x21).new
   have k3a:=st22.mv.blk (k3.ext x21) n3
   have n3a:=st22.off n3 (k3.ext x21).lt
   refine ag (ab (af (aa (ae E E (ah E E (ap (o:=0) KF E (by kernel_rfl) E) (aj E E (ai KT E (k3a.cell (i:=0) E)) ?_))))))
   refine an nZ E E ((ob (ls:=n.lems) (x22) hW22 hl wl (by simp only[List.length_append,List.length_cons,List.length_nil];omega))) ?_
   rintro v28 w28 ⟨v28,hW28,st28⟩
   have x28:=st28.ext (x22) hW22.ge hW22.new
   have k3b:=st28.mv.blk k3a n3a
   have n3b:=st28.off n3a k3a.lt
   refine ag (ab (af (af (aa (ae E E ?_)))))
   refine ak (u:=U8 1) (v:=U8 2) (r:=B true) E E E (cR (show(1:UInt8)<2 by decide) lp) ?_
   refine ag (ab (bg E (af (aa (ae E E (ah E E (ap (o:=8) KF E (by kernel_rfl) E) (aj E E (ai KS E (k3b.cell (i:=8) E)) ?_)))))))
   refine an jB E E ((jC (ps:=n.pf) (x28) hW28 hp wp (by simp only[List.length_append,List.length_cons,List.length_nil];omega))) ?_
   rintro v34 w34 ⟨v34,hW34,st34⟩
   have x34:=st34.ext (x28) hW28.ge hW28.new
   refine ag (ab (aw (aD (Cf E ?_))))
   exact⟨_,rfl,v34,by rw[hen,hbit];simpa only[List.append_assoc] using hW34,(((cO.of_ext (x3.trans x21)).trans st22).trans st28).trans st34⟩
  ·have hbit:ux n.empty=[0]:=by rw[h12];rfl
   refine aC (aR (ab (af ?_)))
   have hW3:=hW.ext x3
   have kg:=hW3.blk
   have n3:=hW.off_new l3
   refine aa (ae E E (ae E E (aq E E ?_)))
   refine ah E E jf ?_
   refine aj E E (ai KP E kg.k0) (ae E E ?_)
   obtain⟨v21,w21,hr21,x21,o21,ob21⟩:=dR (w:=w3) w3.heap.size [0] (by simp) (Nat.le_refl _)
   refine aG (vs:=[(0,U8 0)]) E E hr21 ?_
   obtain⟨v22,wa22,wb22,hr22,hs22,hW22,st22⟩:=gi.put (t:=22) (t2:=22) (ty:=22) Tryz.underlying22 je Tryz.underlying22 (hW3.ext x21) (((ez.trans x3).trans x21)).size o21.bts (by simp) (by simp only[List.length_cons,List.length_nil];omega)
   refine aW E E hr22 ?_
   refine aq E E ?_
   refine ah E E jf ?_
   refine ax E E hs22 ?_
   have x22:=st22.ext (((ez.trans x3).trans x21)) (hW3.ext x21).ge (hW3.ext x21).new
   have k3a:=st22.mv.blk (k3.ext x21) n3
   have n3a:=st22.off n3 (k3.ext x21).lt
   refine ag (ab (af (aa (ae E E (ah E E (ap (o:=0) KF E (by kernel_rfl) E) (aj E E (ai KT E (k3a.cell (i:=0) E)) ?_))))))
   refine an nZ E E ((ob (ls:=n.lems) (x22) hW22 hl wl (by simp only[List.length_append,List.length_cons,List.length_nil];omega))) ?_
   rintro v28 w28 ⟨v28,hW28,st28⟩
   have x28:=st28.ext (x22) hW22.ge hW22.new
   have k3b:=st28.mv.blk k3a n3a
   have n3b:=st28.off n3a k3a.lt
   refine ag (ab (af (af (aa (ae E E ?_)))))
   refine ak (u:=U8 0) (v:=U8 2) (r:=B true) E E E (cR (show(0:UInt8)<2 by decide) lp) ?_
   refine ag (ab (bg E (af (aa (ae E E (ah E E (ap (o:=8) KF E (by kernel_rfl) E) (aj E E (ai KS E (k3b.cell (i:=8) E)) ?_)))))))
   refine an jB E E ((jC (ps:=n.pf) (x28) hW28 hp wp (by simp only[List.length_append,List.length_cons,List.length_nil];omega))) ?_
   rintro v34 w34 ⟨v34,hW34,st34⟩
   have x34:=st34.ext (x28) hW28.ge hW28.new
   refine ag (ab (aw (aD (Cf E ?_))))
   exact⟨_,rfl,v34,by rw[hen,hbit];simpa only[List.append_assoc] using hW34,(((cO.of_ext (x3.trans x21)).trans st22).trans st28).trans st34⟩
theorem sV {T:TypeId} {wz:World} {g:Nat}:∀(m:Nat) {n:aV},SizeOf.sizeOf n≤m→∀{w:World} {l:List UInt8} {vl x y vk vp v:Value},aJ wz w→gi T wz.heap.size g l v w→ct cP n.lems vl wz→bi n.split.at_.2.1 x wz→bi n.split.at_.2.2 y wz→ct bm n.kids vk wz→ct bI n.pf vp wz→wN n→l.length+(dc n).length≤4398046511104→
 Calls Tryz.prog 115 #[.pointer (some ⟨g,0,none⟩),.agg #[vl,I n.split.kd,I n.split.ix,B n.split.at_.1,x,y,vk,B n.empty,vp]] w (bH fun _ w'=>HH T wz.heap.size g (l++dc n) v w w')
 |0,n,hm=>by cases n;simp at hm
 |m+1,n,hm=>fun h1 h2 h3 h4 h5 h6 h7 h8 h9=>AE (fun k hk _ _ _ _ _ _ _ _=>sV m (by have:=aV.lt_of_mem hk;omega)) h1 h2 h3 h4 h5 h6 h7 h8 h9
theorem gi.mk1 {T:TypeId} {w0 w w':World} {g:Nat} {l:List UInt8} {v:Value} (e:aJ w0 w) (ho:cF w0.heap.size l v w) (x:aJ w w') (hg:w.heap.size≤g) (k:bA g T [v] w'):gi T w0.heap.size g l v w':=
 ⟨Nat.le_trans e.size hg,k,.inl (ho.ext x),ho.ge,fun h=>by have:=ho.lt g h;omega,fun n hn=>Nat.lt_of_lt_of_le (ho.lt n hn) x.size⟩
theorem BG {w:World} {b:List UInt8} {bv:Value} {n:aV} {vl x y vk vp:Value} (hbv:cE b bv w) (hl:ct cP n.lems vl w) (hx:bi n.split.at_.2.1 x w) (hy:bi n.split.at_.2.2 y w) (hk:ct bm n.kids vk w) (hp:ct bI n.pf vp w) (hw:wN n) (hb:b.length+(dc n).length≤4398046511104):
 Calls Tryz.prog 77 #[bv,.agg #[vl,I n.split.kd,I n.split.ix,B n.split.at_.1,x,y,vk,B n.empty,vp]] w (bH fun r w'=>aJ w w'∧cE (b++dc n) r w'):=by
 refine enter (vs:=[bv,.agg #[vl,I n.split.kd,I n.split.ix,B n.split.at_.1,x,y,vk,B n.empty,vp]]) Tryz.func77 E E E ?_
 refine af (aa ?_)
 obtain⟨g3,w3,hr3,l3,x3,k3⟩:=ca (P:=Tryz.prog) (w:=w) (T:=52) (cs:=[vl,I n.split.kd,I n.split.ix,B n.split.at_.1,x,y,vk,B n.empty,vp])
 refine cm E E hr3 (ac E E (ag (ab (af (aa ?_)))))
 obtain⟨v6,w6,hr6,x6,o6,ob6⟩:=dR (w:=w3) w3.heap.size [] (by simp) (Nat.le_refl _)
 refine aG (vs:=[]) E E hr6 (ae E E ?_)
 obtain⟨v8,w8,hr8,o8,g8⟩:=df (ty:=22) o6 (hbv.ext (x3.trans x6)) (by simp;omega) (x6).size
 have x8:=aJ.of_grew (x6) g8 o6.ge
 refine aW E E hr8 ?_
 have o8w:cF w.heap.size b v8 w8:=by have:=o8;rw[List.nil_append] at this;exact this.low x3.size
 obtain⟨A8,n8,c8,e8,_⟩:=o8w.bts
 refine bj (vs:=[(0,v8)]) (r:=.agg #[v8]) E E (by rw[e8];exact run_build _ _ _ _ (by kernel_rfl)) ?_
 obtain⟨g10,w10,hr10,l10,x10,k10⟩:=ca (P:=Tryz.prog) (w:=w8) (T:=142) (cs:=[v8])
 refine cm E E hr10 ?_
 have hW10:gi 142 w.heap.size g10 b v8 w10:=gi.mk1 ((x3.trans x8)) o8w x10 l10 k10
 refine ac E E (ag (ab (af (aa (ae E E (aj E E ((k3.ext (x8.trans x10)).ld KF E (by kernel_rfl)) ?_))))))
 refine an sU E E ((sV _ (Nat.le_refl _) (((x3.trans x8).trans x10)) hW10 hl hx hy hk hp hw hb)) ?_
 rintro v13 w13 ⟨v13,hW13,st13⟩
 have x13:=st13.ext (((x3.trans x8).trans x10)) hW10.ge hW10.new
 refine ag (ab (af ?_))
 have kg:=hW13.blk
 refine aa (ae E E (aq E E ?_))
 refine ah E E jf ?_
 refine aj E E (ai KP E kg.k0) (ac E E (ag (ab (aw (av E E ?_)))))
 exact⟨_,rfl,x13,hW13.row.bts⟩
end Go.Rl
namespace Go.Rl
open Go.RowKit Go.Proofs
def IJ (base:Nat) (c:Ax) (r:Value) (w:World):Prop:=∃v,r=.tuple #[v,I (Jq c).2]∧cF base (Jq c).1 v w
theorem IJ.ok {base:Nat} {c:Ax} {w:World} {l:List UInt8} {v:Value} (h:Jq c=(l,0)) (o:cF base l v w):IJ base c (.tuple #[v,I 0]) w:=⟨v,by rw[h],by rw[h];exact o⟩
end Go.Rl
namespace Go.Rl
open Go.RowKit Go.Proofs Go.Proofs.YtpeidnhjcompmaaGreatDoor
theorem iQ:aH Tryz.prog 110:=⟨_,Tryz.func110,by kernel_rfl,rfl⟩
theorem ft:aH Tryz.prog 109:=⟨_,Tryz.func109,by kernel_rfl,rfl⟩
def kU (k:Int):Int:=if k=1 then 2 else if k=2 then 1 else if k=3 then 4 else if k=4 then 3 else k
def bT (d:bz):bz:=⟨kU d.kd,d.ix,d.at_⟩
theorem Gp {k:Int} (h:¬(k>0∧k<5)):kU k=k:=by
 unfold kU
 repeat rw[if_neg (by omega)]
theorem Gq {w:World} (h:zp w) {k:Int} (h1:k>0) (h2:k<5):∃j:Nat,k=(j:Int)∧j<5∧w.cell? ⟨0,0+j,none⟩=some (I (kU k)):=by
 have hc:∀(j:Nat) (u:Value),[I 0,I 2,I 1,I 4,I 3][j]? =some u→w.cell? ⟨0,0+j,none⟩=some u:=fun j u hu=>by
  have:=h j u hu
  rwa [Addr.add_mid] at this
 obtain⟨j,rfl⟩:∃j:Nat,k=(j:Int):=⟨k.toNat,by omega⟩
 refine⟨j,rfl,by omega,?_⟩
 have:j=1∨j=2∨j=3∨j=4:=by omega
 rcases this with rfl|rfl|rfl|rfl
 ·exact hc 1 _ rfl
 ·exact hc 2 _ rfl
 ·exact hc 3 _ rfl
 ·exact hc 4 _ rfl
theorem f4:(Tryz.prog.info? 48).map (fun i=>(i.zero,i.size,i.bytes))=some (some (.agg #[I 0,I 0,B false,.slice none 0 0,.slice none 0 0]),5,72):=by kernel_rfl
theorem ia:(Tryz.prog.info? 48).map (fun i=>(i.zero,i.size))=some (some (.agg #[I 0,I 0,B false,.slice none 0 0,.slice none 0 0]),5):=by kernel_rfl
theorem AF {d:bz} (h:¬(d.kd>0∧d.kd<5)):bT d=d:=by
 unfold bT
 rw[Gp h]
theorem iR {w:World} {d:bz} {x y:Value} (ho:zp w) (hx:bi d.at_.2.1 x w) (hy:bi d.at_.2.2 y w):
 Calls Tryz.prog 110 #[.agg #[I d.kd,I d.ix,B d.at_.1,x,y]] w (bH fun r w'=>aJ w w'∧r=.agg #[I (bT d).kd,I (bT d).ix,B (bT d).at_.1,x,y]):=by
 refine enter (vs:=[.agg #[I d.kd,I d.ix,B d.at_.1,x,y]]) Tryz.func110 E E E ?_
 refine af (aa ?_)
 obtain⟨g1,w1,hr1,l1,x1,k1⟩:=ca (P:=Tryz.prog) (w:=w) (T:=48) (cs:=[I d.kd,I d.ix,B d.at_.1,x,y])
 refine cm E E hr1 ?_
 obtain⟨g2,w2,hr2,l2,x2,k2⟩:=aZ (P:=Tryz.prog) (w:=w1) (t:=48) (z:=.agg #[I 0,I 0,B false,.slice none 0 0,.slice none 0 0]) (l:=[I 0,I 0,B false,.slice none 0 0,.slice none 0 0]) (by kernel_rfl) rfl
 refine aX E hr2 (ag (ab (af (af (aa (ah E E (ap (o:=0) KH E (by kernel_rfl) E) (aj E E (ai KI E (x2.cell_some (k1.cell (i:=0) E))) ?_)))))))
 refine ak E E E (bV) (ae E E ?_)
 refine cq (fun h6=>?_) (fun h6=>?_)
 ·refine al E (ah E E (ap (o:=0) KH E (by kernel_rfl) E) (al E (aj E E (ai KI E (x2.cell_some (k1.cell (i:=0) E))) ?_)))
  refine al E (ak E E E (bb) (ar E E E (ag (ab ?_))))
  refine bt E (fun h10=>?_) (fun h10=>?_)
  ·have h10:d.kd<5:=h10
   obtain⟨j,hj,hj5,cj⟩:=Gq (ho.ext (x1.trans x2)) h6 h10
   refine aa (ah E E (ap (o:=0) KH E (by kernel_rfl) E) (aj E E (ai KI E (x2.cell_some (k1.cell (i:=0) E))) ?_))
   refine au (v:=.int .i64 (j:Int)) E (by rw[hj];rfl) E (gq Tryz.underlying225 (by kernel_rfl) hj5 .i64) ?_
   refine aj E E (ai KI E cj) (ah E E (ap (o:=0) KH E (by kernel_rfl) E) ?_)
   obtain⟨w2_5,s2_5,q2_5,k2_5⟩:=(k1.ext x2).stC (P:=Tryz.prog) (t:=3) (i:=0) (v:=I (kU d.kd)) (by kernel_rfl) rfl (by simp)
   refine ax E E s2_5 ?_
   have x2_5:=aJ.of_new ((x1.trans x2)) q2_5 l1
   have k25:=k2.other q2_5 (fun e=>by have:=Option.some.inj e;have:=k1.lt;omega)
   refine ag (ab (af (aa (aj E E (k2_5.ld KH E (by kernel_rfl)) ?_))))
   obtain⟨w3_1,s3_1,q3_1,k3_1⟩:=k25.stS (P:=Tryz.prog) (t:=48) (m:=[I (kU d.kd),I d.ix,B d.at_.1,x,y]) rfl (by kernel_rfl) (ao.cons rfl (ao.cons rfl (ao.cons rfl (ao.cons hx.one (ao.cons hy.one ao.nil)))))
   refine ax E E s3_1 ?_
   have x3_1:=aJ.of_new x2_5 q3_1 (Nat.le_trans x1.size l2)
   refine ag (ab (aw ?_))
   refine cZ E E k3_1 KH E (by kernel_rfl) ?_
   exact⟨_,rfl,x3_1,rfl⟩
  ·have h10:¬d.kd<5:=h10
   refine aC (ab (af (aa (aj E E ((k1.ext x2).ld KH E (by kernel_rfl)) ?_))))
   obtain⟨w3_1,s3_1,q3_1,k3_1⟩:=k2.stS (P:=Tryz.prog) (t:=48) (m:=[I d.kd,I d.ix,B d.at_.1,x,y]) rfl (by kernel_rfl) (ao.cons rfl (ao.cons rfl (ao.cons rfl (ao.cons hx.one (ao.cons hy.one ao.nil)))))
   refine ax E E s3_1 ?_
   have x3_1:=aJ.of_new (x2) q3_1 l2
   refine ag (ab (aw ?_))
   refine cZ E E k3_1 KH E (by kernel_rfl) ?_
   exact⟨_,rfl,(x1.trans x3_1),by rw[AF (by first|exact fun h=>h6 h.1|exact fun h=>h10 h.2)]⟩
 ·refine am E E E (am E E E (am E E E (aI E E E (ag (ab (cy E (aC (ab (af (aa (aj E E ((k1.ext x2).ld KH E (by kernel_rfl)) ?_)))))))))))
  obtain⟨w3_1,s3_1,q3_1,k3_1⟩:=k2.stS (P:=Tryz.prog) (t:=48) (m:=[I d.kd,I d.ix,B d.at_.1,x,y]) rfl (by kernel_rfl) (ao.cons rfl (ao.cons rfl (ao.cons rfl (ao.cons hx.one (ao.cons hy.one ao.nil)))))
  refine ax E E s3_1 ?_
  have x3_1:=aJ.of_new (x2) q3_1 l2
  refine ag (ab (aw ?_))
  refine cZ E E k3_1 KH E (by kernel_rfl) ?_
  exact⟨_,rfl,(x1.trans x3_1),by rw[AF (by first|exact fun h=>h6 h.1|exact fun h=>h10 h.2)]⟩
theorem bN (d:bz):(cQ d).size=5:=rfl
theorem rE.low {e:TypeId} {sz base b2:Nat} {l:List bz} {v:Value} {w:World} (h:rE e sz base cQ l v w) (hb:b2≤base):rE e sz b2 cQ l v w:=by
 obtain⟨n,xs,h1,h2⟩:=h
 exact⟨n,xs,ip h1 fun k hk=>Nat.le_trans hb (World.ownsRow.lt h1 k hk).1,h2⟩
theorem uS {w:World} {d:bz} {x y:Value} (hx:bi d.at_.2.1 x w) (hy:bi d.at_.2.2 y w):Rp w (cQ d) [I d.kd,I d.ix,B d.at_.1,x,y]:=by
 simp only[cQ,lT,Rp]
 have h3:Rp w (iB d.at_) [B d.at_.1,x,y]:=by
  simp only[iB,Rp]
  exact bk.cons (a:=[B d.at_.1]) (by simp only[Rp,B]) (bk.cons (a:=[x]) (Rp.words.2 hx) (bk.cons (b:=[]) (Rp.words.2 hy) bk.nil))
 exact bk.cons (a:=[I d.kd]) (by simp only[Rp,I]) (bk.cons (a:=[I d.ix]) (by simp only[Rp,I]) (by simpa using bk.cons h3 bk.nil))
def dk (n:aV) (i:Int):bz:=if i=1 then bT n.split else n.split
theorem iY {w:World} {d:bz} {x y:Value}:∃r w',(Instr.buildSlice 41 1 (dG 0 [Value.agg #[I d.kd,I d.ix,B d.at_.1,x,y]]).toArray).run Tryz.prog w=.ok r w'∧aJ w w'∧Sl 5 [I d.kd,I d.ix,B d.at_.1,x,y] r w':=by
 obtain⟨r,w',a,b,c,_⟩:=ur (P:=Tryz.prog) (w:=w) Tryz.underlying41 ia rfl (by omega) [[I d.kd,I d.ix,B d.at_.1,x,y]] (by simp) (by simp) (by simp)
 exact⟨r,w',a,b,c⟩
end Go.Rl
namespace Go.Rl
open Go.RowKit Go.Proofs
end Go.Rl

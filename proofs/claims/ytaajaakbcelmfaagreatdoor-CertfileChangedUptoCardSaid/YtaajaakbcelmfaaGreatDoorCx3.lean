/- Part 3 of a proof: plain facts and walks of functions, merged by a program. Conditions: each lemma names its own. -/
import Derived.Test.YtaajaakbcelmfaaGreatDoorCx2
namespace Go.Rl
open Go.RowKit Go.Proofs
theorem rV (off:Nat):∀(cs:List Value) (k:Nat) (p q r:List Value),p.length=off+k→q.length=cs.length→
 (cs.zipIdx k).foldl (fun(a:Array Value) (x:Value×Nat)=>a.setIfInBounds (off+x.2) x.1) (p++q++r).toArray=(p++cs++r).toArray
 |[],k,p,q,r,_,hq=>by
  have:q=[]:=List.eq_nil_of_length_eq_zero (by simpa using hq)
  subst this
  rfl
 |c::cs,k,p,q,r,hp,hq=>by
  cases q with
  |nil=>simp at hq
  |cons q0 q=>
   simp only[List.zipIdx_cons,List.foldl_cons]
   have e:((p++q0::q++r).toArray).setIfInBounds (off+k) c=((p++[c])++q++r).toArray:=by
    simp[←hp]
   rw[e,rV off cs (k+1) (p++[c]) q r (by simp;omega) (by simpa using hq)]
   simp
theorem oA {sz:Nat}:∀(vs:List (List Value)) (k:Nat) (a b:List Value),(∀v∈vs,v.length=sz)→a.length=k*sz→b.length=vs.length*sz→
 Instr.fill (fun i=>some (i*sz,sz)) (a++b).toArray (dC k (vs.map fun v=>Value.agg v.toArray))=some (a++vs.flatten).toArray
 |[],k,a,b,_,_,hb=>by
  have:b=[]:=List.eq_nil_of_length_eq_zero (by simpa using hb)
  subst this
  rfl
 |v::vs,k,a,b,hv,ha,hb=>by
  have hvl:=hv v (by simp)
  have hbl:b.length=sz+vs.length*sz:=by rw[hb,List.length_cons,Nat.add_mul];omega
  have hc:((Value.agg v.toArray).cells.size≠sz||decide (k*sz+(Value.agg v.toArray).cells.size>(a++b).toArray.size))=false:=by
   simp[Value.cells,hvl,ha,hbl]
  have hz:(Value.agg v.toArray).cells.zipIdx.foldl (fun(cs:Array Value) (x:Value×Nat)=>cs.setIfInBounds (k*sz+x.2) x.1) (a++b).toArray=((a++v)++b.drop sz).toArray:=by
   have h:=rV (k*sz) v 0 a (b.take sz) (b.drop sz) (by omega) (by rw[List.length_take];omega)
   rw[List.append_assoc,List.take_append_drop] at h
   rw[←h]
   simp[Value.cells]
  simp only[List.map_cons,dC,Instr.fill]
  rw[hc]
  have ih:=oA vs (k+1) (a++v) (b.drop sz) (fun u hu=>hv u (by simp[hu])) (by rw[List.length_append,ha,hvl,Nat.add_mul];omega) (by rw[List.length_drop,hbl];omega)
  simp only[Bool.false_eq_true,if_false]
  rw[hz,ih]
  simp
theorem A0 {P:Program} {w:World} {t e:TypeId} {z:Value} {sz:Nat} (ht:P.underlying t=some (.slice e)) (hi:(P.info? e).map (fun i=>(i.zero,i.size))=some (some z,sz)) (hz:z.cells.size=sz) (h0:0<sz)
 (vs:List (List Value)) (hv:∀v∈vs,v.length=sz) (hn:0<vs.length) (hl:vs.length*sz≤16777216):
 ∃r w',(Instr.buildSlice t vs.length (dC 0 (vs.map fun v=>Value.agg v.toArray)).toArray).run P w=.ok r w'∧aG w w'∧Sl sz vs.flatten r w'∧r.ownBlock=some w.heap.size:=by
 obtain⟨i,hi',h2⟩:=Option.map_eq_some_iff.1 hi
 simp only[Prod.mk.injEq] at h2
 obtain⟨hz0,hs⟩:=h2
 have hfl:vs.flatten.length=vs.length*sz:=by
  rw[List.length_flatten]
  have:∀l:List (List Value),(∀v∈l,v.length=sz)→(l.map List.length).sum=l.length*sz:=by
   intro l
   induction l with
   |nil=>intro _;simp
   |cons a l ih=>intro h;simp only[List.map_cons,List.sum_cons,List.length_cons,h a (by simp),ih fun v hv=>h v (by simp[hv]),Nat.add_mul];omega
  exact this vs hv
 have hf:∀Z:Array Value,Z.size=vs.length*sz→Instr.fill (fun i=>some (i*sz,sz)) Z (dC 0 (vs.map fun v=>Value.agg v.toArray))=some vs.flatten.toArray:=fun Z hZ=>by
  have:=oA vs 0 [] Z.toList hv (by simp) (by simpa using hZ)
  simpa using this
 have hle:¬(vs.length*sz>2^24):=by omega
 have hinfo:(typeInfo e).run P w=.ok i w:=by simp[typeInfo,hi']
 have hsz:(sizeOf e).run P w=.ok sz w:=by simp[sizeOf,hinfo,hs]
 have hzv:(zeroValue e).run P w=.ok z w:=by simp[zeroValue,hinfo,hz0]
 have hpos:0<vs.length*sz:=Nat.mul_pos hn h0
 refine⟨.slice (some ⟨w.heap.size,0,none⟩) vs.length vs.length,w.alloc (.cells vs.flatten.toArray e),?_,aG.new w _,?_,rfl⟩
 ·simp only[Instr.buildSlice,Sem.run_bind,run_underlying ht,Result.andThen_ok,hsz,if_neg hle]
  rw[if_neg (by omega)]
  simp only[Sem.run_bind,Sem.run_pure,Result.andThen_ok,hzv]
  rw[hf _ (by simp[hz,Nat.mul_comm])]
  simp[newRow]
 ·have hg:=heap_alloc_new w (.cells vs.flatten.toArray e)
  refine⟨_,_,_,rfl,Nat.le_refl _,by unfold maxLen;have:vs.length≤vs.length*sz:=Nat.le_mul_of_pos_right _ h0;omega,hfl,fun _=>⟨_,rfl,fun j u hu=>?_⟩,fun h=>by cases h⟩
  rw[Addr.add_mid,Nat.zero_add,cell_of_row _ _ j _ _ _ hg]
  simpa using hu
end Go.Rl
namespace Go.Rl
open Go.RowKit Go.Proofs
section
variable {α:Type} {f:α→Dt} {l:List α} {v x:Value} {w w':World} {e t ty:TypeId} {sz base:Nat}
def gt (e:TypeId) (sz base:Nat) (f:α→Dt) (l:List α) (v:Value) (w:World):Prop:=∃n xs,w.ownsRow base e sz v n xs∧aK (fun k=>k<base∨v.ownBlock=some k) w (l.map f) xs
theorem gt.nil (w:World):gt e sz base f ([]:List α) (.slice none 0 0) w:=⟨0,[],World.ownsRow_nil _ _ _ _,aK.nil⟩
theorem gt.lt (h:gt e sz base f l v w):∀k,v.ownBlock=some k→base≤k∧k<w.heap.size:=fun k hk=>by
 obtain⟨n,xs,h,_⟩:=h
 exact World.ownsRow.lt h k hk
theorem gt.isS (h:gt e sz base f l v w):∃A n c,v=.slice A n c:=by
 obtain⟨n,xs,⟨_,h|⟨g,cap,cur,rfl,_⟩⟩,_⟩:=h
 ·exact⟨_,_,_,h.1⟩
 ·exact⟨_,_,_,rfl⟩
theorem gt.rpx (h:gt e sz base f l v w) (hs:∀a,(f a).size=sz) (h0:0<sz):cT (fun k=>k<base) w (.sl (l.map f)) [v]:=by
 obtain⟨n,xs,h1,h2⟩:=h
 exact cT.ofOwn h1 (h2.weak fun k hk=>.inl (.inl hk)) (by simp[hs]) h0 fun k hk=>Nat.not_lt.2 (World.ownsRow.lt h1 k hk).1
theorem gt.mv {X:Nat→Prop} (h:gt e sz base f l v w) (hm:Mv X w w') (hX:∀k,X k→k<base):gt e sz base f l v w':=by
 obtain⟨n,xs,h1,h2⟩:=h
 refine⟨n,xs,⟨h1.1,?_⟩,aK.mv (hm.weak fun k hk _=>.inl (hX k hk)) (fun k hk=>.inl hk) h2⟩
 rcases h1.2 with h3|⟨g,cap,cur,rfl,h3,h4,h5⟩
 ·exact .inl h3
 ·refine .inr ⟨g,cap,cur,rfl,h3,?_,h5⟩
  rw[hm.keep g (Array.getElem?_eq_some_iff.1 h4).1 fun hx=>by have:=hX g hx;omega]
  exact h4
theorem gt.app {P:Program} {z:Value} {bytes:Nat} (ht:P.underlying t=some (.slice e)) (hi:(P.info? e).map (fun i=>(i.zero,i.size,i.bytes))=some (some z,sz,bytes)) (hzs:z.cells.size=sz) (hsz:0<sz) (hb0:0<bytes)
 (h:gt e sz base f l v w) {a:α} {cs:List Value} (hx:Sl sz cs x w) (h1:aL cs) (ha:cT (fun k=>k<base∨v.ownBlock=some k) w (f a) cs) (hs:∀a,(f a).size=sz) (hb:(l.length+1)*bytes≤140737488355328) (hbase:base≤w.heap.size):
 ∃r w1,(Builtin.append_ #[t,t] ty #[v,x]).run P w=.ok r w1∧gt e sz base f (l++[a]) r w1∧fM w w1 v r:=by
 obtain⟨n,xs,h2,h3⟩:=h
 have hxl:xs.length=l.length*sz:=by rw[h3.len,cz (sz:=sz) (by simp[hs]),List.length_map]
 have hcl:cs.length=sz:=by rw[ha.len,hs]
 obtain⟨r,w1,n',h4,h5,h6⟩:=lM (P:=P) (ty:=ty) ht hi hzs hsz h2 hx h1 (by
  rw[hxl,hcl,show l.length*sz+sz=(l.length+1)*sz by rw[Nat.add_mul,Nat.one_mul],Nat.mul_right_comm]
  exact Nat.mul_le_mul_right _ hb) hb0 hbase
 refine⟨r,w1,h4,⟨n',_,h5,?_⟩,h6⟩
 have hm:Mv (fun k=>k<base∨v.ownBlock=some k) w w1:=Mv.of_grown h6.grown fun k hk _=>.inr hk
 have hY:∀k,(k<base∨r.ownBlock=some k)→(k<base∨v.ownBlock=some k)∨w.heap.size≤k:=fun k hk=>by
  rcases hk with hk|hk
  ·exact .inl (.inl hk)
  ·rcases h6.own with h7|h7
   ·rw[h7] at hk;exact .inl (.inr hk)
   ·exact .inr (h7 k hk)
 rw[List.map_append]
 exact aK.append (aK.mv hm hY h3) (by simpa using aK.cons (cT.mv hm hY ha) aK.nil)
theorem gt.push {P:Program} {z:Value} {bytes:Nat} (ht:P.underlying t=some (.slice e)) (hi:(P.info? e).map (fun i=>(i.zero,i.size,i.bytes))=some (some z,sz,bytes)) (hzs:z.cells.size=sz) (hsz:0<sz) (hsb:sz≤16777216) (hb0:0<bytes)
 (h:gt e sz base f l v w) {a:α} {cs:List Value} (h1:aL cs) (ha:cT (fun k=>k<base∨v.ownBlock=some k) w (f a) cs) (hs:∀a,(f a).size=sz) (hb:(l.length+1)*bytes≤140737488355328) (hbase:base≤w.heap.size):
 ∃x w0 r w1,(Instr.buildSlice t 1 (dC 0 [Value.agg cs.toArray]).toArray).run P w=.ok x w0∧(Builtin.append_ #[t,t] ty #[v,x]).run P w0=.ok r w1∧gt e sz base f (l++[a]) r w1∧Mv (fun k=>v.ownBlock=some k) w w1∧∀k,r.ownBlock=some k→v.ownBlock=some k∨w.heap.size≤k:=by
 have hcl:cs.length=sz:=by rw[ha.len,hs]
 have hi2:(P.info? e).map (fun i=>(i.zero,i.size))=some (some z,sz):=by
  obtain⟨i,hi',h2⟩:=Option.map_eq_some_iff.1 hi
  simp only[Prod.mk.injEq] at h2
  rw[hi']
  simp[h2.1,h2.2.1]
 obtain⟨x,w0,h3,h4,h5,_⟩:=A0 (w:=w) ht hi2 hzs hsz [cs] (by simp[hcl]) (by simp) (by simpa using hsb)
 have h':gt e sz base f l v w0:=by
  obtain⟨n,xs,h6,h7⟩:=h
  exact⟨n,xs,iw h6 h4,h7.ext h4⟩
 obtain⟨r,w1,h6,h7,h8⟩:=h'.app (ty:=ty) ht hi hzs hsz hb0 (by simpa using h5) h1 (ha.ext h4) hs hb (Nat.le_trans hbase h4.size)
 refine⟨x,w0,r,w1,by simpa using h3,h6,h7,(Mv.of_ext h4).trans (Mv.of_grown h8.grown fun k hk _=>hk) fun _ hn _=>hn,fun k hk=>?_⟩
 rcases h8.own with h9|h9
 ·rw[h9] at hk;exact .inl hk
 ·exact .inr (Nat.le_trans h4.size (h9 k hk))
end
end Go.Rl
namespace Go.Rl
open Go.RowKit
section
variable {P:Program} {ops:Array Oper} {Env:World→Prop} {Rl:World→World→Prop} {mo:Bool} {Pn:List PanicEntry→World→Prop} {N:Nat}
def jN (ops:Array Oper) (n:Nat):Bool:=
 (List.range ops.size).all fun t=>decide (t≤n)||(List.range t).any fun j=>decide (n≤j)&&Region.waitsFor .any ops t j
theorem xM {n:Nat} {listed:Array Bool} (hs:Region.sinkB .any ops n=true) (hc:jN ops n=true) (inv:HeadInv .any ops n listed):
 ∀(d i:Nat),n-i=d→i<n→listed.getD i true=false→∀t,n≤t→t∉Region.ready .any ops listed:=by
 intro d
 induction d using Nat.strongRecOn with
 |_ d ih=>
  intro i hd hi hun t ht hr
  obtain⟨_,ot,hot,hall⟩:=mem_ready.1 hr
  have htlt:t<ops.size:=(Array.getElem?_eq_some_iff.1 hot).1
  by_cases htn:t=n
  ·subst htn
   have h1:=List.all_eq_true.1 hs i (List.mem_range.2 hi)
   obtain⟨j,hj,hj2⟩:=List.any_eq_true.1 h1
   simp only[Bool.and_eq_true,decide_eq_true_eq] at hj2
   obtain⟨oj,hoj,e,he,hb,hon⟩:=Region.waitsFor_spec hj2.2
   have hjle:j≤t:=by have:=List.mem_range.1 hj;omega
   by_cases hjt:j=t
   ·subst hjt
    have:oj=ot:=Option.some.inj (hoj.symm.trans hot)
    subst this
    have h2:=hall e he hb
    rw[hon,getD_both hun] at h2
    cases h2
   ·cases hl:listed.getD j false with
    |true=>
     have h2:=inv.closed j oj hoj hl e he hb
     rw[hon,getD_both hun] at h2
     cases h2
    |false=>
     have hjs:j<listed.size:=by rw[inv.size];omega
     exact ih (t-j) (by omega) j rfl (by omega) (getD_in hjs hl) t (Nat.le_refl _) hr
  ·have h1:=List.all_eq_true.1 hc t (List.mem_range.2 htlt)
   simp only[Bool.or_eq_true,decide_eq_true_eq] at h1
   rcases h1 with h1|h1
   ·omega
   ·obtain⟨j,hj,hj2⟩:=List.any_eq_true.1 h1
    simp only[Bool.and_eq_true,decide_eq_true_eq] at hj2
    have hjt:=List.mem_range.1 hj
    obtain⟨o',ho',e,he,hb,hon⟩:=Region.waitsFor_spec hj2.2
    have:o'=ot:=Option.some.inj (ho'.symm.trans hot)
    subst this
    have h2:=hall e he hb
    rw[hon,getD_both (inv.tail j hj2.1 (by omega))] at h2
    cases h2
def rW (o:Oper):Bool:=o.guard.isNone&&o.dst.isSome&&match o.op with|.extract .. |.move _|.assign _=>true|_=>false
theorem Cv {o:Oper} (h:rW o=true) (ρ:Operand→Value):(∃v,∀w,(execOp ρ o).run P w=.ok (.value v) w)∨∃x,(∀v,x≠.panic v)∧∀w,(execOp ρ o).run P w=.halt x w:=by
 obtain⟨dst,op,ty,pos,aft,g⟩:=o
 unfold rW at h
 simp only[Bool.and_eq_true] at h
 have h2:=h.2
 cases op<;>simp only[] at h2
 case move x=>exact .inl ⟨ρ x,fun w=>by simp[execOp]⟩
 case assign x=>exact .inl ⟨ρ x,fun w=>by simp[execOp]⟩
 case extract x n=>
  have e:execOp ρ ⟨dst,.extract x n,ty,pos,aft,g⟩=(do pure (Next.value (←Instr.extract (ρ x) n)):Sem Next):=rfl
  rw[e]
  cases hx:ρ x with
  |tuple vs=>
   cases hv:vs[n]? with
   |some v=>exact .inl ⟨v,fun w=>by simp[Instr.extract,hv]⟩
   |none=>exact .inr ⟨.stuck "Extract: no such component",fun v=>by simp,fun w=>by simp[Instr.extract,hv,stuck,Sem.run]⟩
  |_=>exact .inr ⟨.stuck "Extract: tuple expected",fun v=>by simp,fun w=>by simp[Instr.extract,stuck,Sem.run]⟩
 all_goals cases h2
def nF (ops:Array Oper):List Nat→Array Bool→Bool
 |[],listed=>(Region.ready .any ops listed).isEmpty
 |i::rest,listed=>(decide (Region.ready .any ops listed=[i])||((match ops[i]? with|some o=>rW o|none=>false)&&Region.free .any ops listed i&&(Region.ready .any ops listed).contains i))&&nF ops rest (listed.setIfInBounds i true)
theorem iq {Q:eG} (hsel:Region.noSelect ops=true):∀(perm:List Nat) (os:List Oper) (listed:Array Bool) (a:Act) (w:World),(perm.map fun i=>ops[i]?)=os.map some→nF ops perm listed=true→wpList P ops (gJ Q) os a w→wpAny P .any ops (gJ Q) perm.length listed a w
 |[],os,listed,a,w,ho,hB,h=>by
  have:os=[]:=by cases os with|nil=>rfl|cons o os=>simp at ho
  subst this
  exact⟨by simpa [nF] using hB,h⟩
 |i::perm,os,listed,a,w,ho,hB,h=>by
  cases os with
  |nil=>simp at ho
  |cons o os=>
   simp only[List.map_cons,List.cons.injEq] at ho
   obtain⟨h0,ho⟩:=ho
   simp only[nF,Bool.and_eq_true,Bool.or_eq_true,decide_eq_true_eq] at hB
   obtain⟨hB1,hB2⟩:=hB
   have nolet:¬LetsOut (gJ Q):=fun⟨_,_,hq⟩=>by obtain⟨hq,_⟩:=hq;cases hq
   rcases hB1 with hr|⟨⟨hq,hf⟩,hr⟩
   ·refine⟨fun h1=>(by rw[hr] at h1;cases h1),fun k hk=>?_⟩
    rw[hr] at hk
    have hik:k=i:=by simpa using hk
    subst hik
    have hw:wpOp P ops (gJ Q) k (wpList P ops (gJ Q) os) a w:=by unfold wpOp;simp only[h0];exact h
    exact wpOp_mono (fun a' w' h'=>iq hsel perm os _ a' w' ho hB2 h') hw
   ·rw[h0] at hq
    have hq:rW o=true:=hq
    have hwant:Region.wanted o (yielded ops a.tmps)=true:=by
     unfold rW at hq
     simp only[Bool.and_eq_true,Option.isNone_iff_eq_none] at hq
     unfold Region.wanted
     rw[hq.1.1]
    unfold wpList at h
    rw[if_pos hwant] at h
    have h:=h.resolve_right fun h=>nolet h.2
    unfold Oper.wp at h
    rcases Cv (P:=P) hq a.eval with⟨v,hv⟩|⟨x,hx,hv⟩
    ·rw[hv w] at h
     exact wpAny_take h0 hsel hf hr (fun c a w hp=>by obtain⟨hp,_⟩:=hp;cases hp) (.inl ⟨hwant,hv⟩) (iq hsel perm os _ _ w ho hB2 h)
    ·rw[hv w] at h
     cases x<;>first|exact absurd rfl (hx _)|exact h.elim
theorem nh {n i:Nat} {oi:Oper} {S:dl} {L:Array Bool→cm→ij→Prop} (hi:ops[i]? =some oi) (hcalls:mo=true→fJ .any ops=true)
 (hs:Region.sinkB .any ops n=true) (hc:jN ops n=true) (hin:i<n)
 (hdone:∀listed F Z,L listed F Z→∀j∈Region.ready .any ops listed,n≤j):
 ∀(f:Nat) (listed:Array Bool) (F:cm) (Z Z':ij),HeadInv .any ops n listed→
  (∀j oj,ops[j]? =some oj→j≠i→listed.getD j true=false→(∀e∈oj.after,Region.binds .any e=true→e.on≠i)→oi.apart ops oj=true)→
  i∈Region.ready .any ops listed→fh P ops Env Rl mo Pn N F Z oi S Z'→
  fV P .any ops Env Rl mo Pn N n L f (listed.setIfInBounds i true) (iK F oi.dst S) Z'→fV P .any ops Env Rl mo Pn N n L (f+1) listed F Z:=
 jG hi hcalls hin (fun _ inv hun t ht=>xM hs hc inv _ i rfl hin hun t ht) hdone
def gE (ops:Array Oper) (n:Nat) (perm:List Nat):Nat→Nat→Array Bool→Bool
 |0,_,listed=>nF ops perm listed&&(Region.ready .any ops listed).all fun j=>decide (n≤j)
 |f+1,k,listed=>(Region.ready .any ops listed).contains k&&Region.free .any ops listed k&&gE ops n perm f (k+1) (listed.setIfInBounds k true)
theorem p7 {n:Nat} {perm:List Nat} {Lq:cm→ij→Prop} (hcalls:mo=true→fJ .any ops=true) (hs:Region.sinkB .any ops n=true) (hc:jN ops n=true):
 ∀(l:List Oper) (k:Nat) (listed:Array Bool) (F:cm) (Z:ij),(∀j,j<l.length→l[j]? =ops[k+j]?)→k+l.length=n→HeadInv .any ops n listed→
 gE ops n perm l.length k listed=true→(∀t,bR Rl (F t))→cw Z→eQ P ops Env Rl mo Pn N l F Z Lq→
 fV P .any ops Env Rl mo Pn N n (fun listed' F' Z'=>(nF ops perm listed'=true∧(Region.ready .any ops listed').all (fun j=>decide (n≤j))=true)∧Lq F' Z') l.length listed F Z
 |[],k,listed,F,Z,_,hk,_,hB,_,_,h=>by
  simp only[List.length_nil,gE,Bool.and_eq_true] at hB
  exact⟨hB,h⟩
 |o::l,k,listed,F,Z,hl,hk,inv,hB,hF,hZ,h=>by
  have h0:ops[k]? =some o:=by simpa using(hl 0 (by simp)).symm
  simp only[List.length_cons,gE,Bool.and_eq_true] at hB
  obtain⟨⟨hr,hf⟩,hB'⟩:=hB
  have hkn:k<n:=by simp only[List.length_cons] at hk;omega
  have hr':k∈Region.ready .any ops listed:=by simpa using hr
  obtain⟨S,Z',hspec,hrest⟩:=h hF hZ
  exact nh h0 hcalls hs hc hkn (fun listed' F' Z' hL j hj=>by simpa using List.all_eq_true.1 hL.1.2 j hj) l.length listed F Z Z' inv (Region.free_spec h0 hf) hr' hspec
   (p7 hcalls hs hc l (k+1) _ _ _ (fun j hj=>by have:=hl (j+1) (by simp;omega);simpa [Nat.add_assoc,Nat.add_comm 1 j] using this) (by simp only[List.length_cons] at hk;omega) (inv.set hr' hkn) hB' (gQ hF hspec.stable) (hspec.zst hZ) hrest)
def A1 (ops:Array Oper) (n:Nat) (perm:List Nat):Bool:=
 Region.noSelect ops&&decide (n<ops.size)&&Region.sinkB .any ops n&&jN ops n&&decide (n+perm.length=ops.size)&&gE ops n perm n 0 (Array.replicate ops.size false)
def px (os:List Oper):List Nat→List Oper
 |[]=>[]
 |i::is=>match os[i]? with|some o=>o::px os is|none=>px os is
theorem vA {Q:eG} {a:Act} {D:List Deferred} {F:cm} {Z:ij} {w:World} {l:List Oper} {n:Nat} {perm:List Nat} (hE:fg Env Rl) (hP:∀c w,¬Pn c w) (hcalls:mo=true→fJ .any l.toArray=true) (hB:A1 l.toArray n perm=true) (hp:(perm.all fun i=>decide (i<l.length))=true)
 (hF:∀t,bR Rl (F t)) (hZ:cw Z) (hz:Z w) (he:Env w) (hsat:tn N D F a {w with drawn:=w.drawn+1})
 (h:eQ P l.toArray Env Rl mo Pn N (l.take n) F Z (fun F Z=>∀a' w',Env w'→tn N D F a' w'→Z w'→wpList P l.toArray (gJ Q) (px l perm) a' w')):wpAny P .any l.toArray (gJ Q) l.toArray.size (Array.replicate l.toArray.size false) a {w with drawn:=w.drawn+1}:=by
 have hdr:aG w {w with drawn:=w.drawn+1}:=⟨rfl,rfl,rfl,Nat.le_refl _,fun _ _=>rfl⟩
 simp only[A1,Bool.and_eq_true,decide_eq_true_eq] at hB
 obtain⟨⟨⟨⟨⟨hsel,hn⟩,hs⟩,hc⟩,hlen⟩,hlex⟩:=hB
 have hn':n<l.length:=by simpa using hn
 have htl:(l.take n).length=n:=by simp;omega
 have inv0:HeadInv .any l.toArray n (Array.replicate l.toArray.size false):=
  ⟨by simp,fun j oj _ hl=>(by rw[getD_replicate_false] at hl;cases hl),fun t _ ht=>getD_in (by simpa using ht) (getD_replicate_false _ _)⟩
 have H:=p7 (perm:=perm) hcalls hs hc (l.take n) 0 _ _ _ (fun j hj=>by
  have hj':j<n:=by rw[htl] at hj;exact hj
  simp[hj']) (by simpa using htl) inv0 (by rw[htl];exact hlex) hF hZ h
 have hpick:∀(perm:List Nat),(perm.all fun i=>decide (i<l.length))=true→(perm.map fun i=>l.toArray[i]?)=(px l perm).map some:=by
  intro perm
  induction perm with
  |nil=>intro _;rfl
  |cons i is ih=>
   intro hp
   simp only[List.all_cons,Bool.and_eq_true,decide_eq_true_eq] at hp
   have e:l[i]? =some l[i]:=List.getElem?_eq_getElem hp.1
   simp only[List.map_cons,px,e,List.getElem?_toArray]
   rw[←ih hp.2]
   simp
 have:=eJ (D:=D) (Q':=gJ Q) (l0:=[]) (g:=perm.length) hE (fun c _ w _ _ _ h=>absurd h (hP c w)) (fun _ _ _ _ _ _ _ hp=>by cases hp) (fun listed F Z hL hF hZ a' w' he hsat hz=>iq hsel perm (px l perm) listed a' w' (hpick perm hp) hL.1.1 (hL.2 a' w' he hsat hz)) _ _ _ _ H hF hZ a {w with drawn:=w.drawn+1} (hE.keep _ _ he (hE.ext _ _ hdr)) hsat (fun _ hp=>by cases hp) (hZ _ _ hz hdr)
 rw[htl,hlen] at this
 exact this
theorem EJ {D:List Deferred} {l:Fr} {a:Act} {w:World} (ha:At N D l a):tn N D (nV l) a w:=⟨ha.size,ha.defers,fun t=>by
 show nV l t (a.tmps.getD t undef) _
 unfold nV
 cases hv:lk l t with
 |some v=>exact ha.at_ t v hv
 |none=>trivial⟩
theorem EK {Q:eG} {D:List Deferred} {l:Fr} {w:World} {id:Nat} {os:List Oper} (n:Nat) (perm:List Nat) (ts:List Nat) (Env:World→Prop) (Rl:World→World→Prop) (mo:Bool) (Z:ij) (hE:fg Env Rl) (he:Env w) (hZ:cw Z) (hz:Z w) (hcalls:mo=true→fJ .any os.toArray=true) (hm:P.follows .mixedOrders=true) (hB:A1 os.toArray n perm=true) (hp:(perm.all fun i=>decide (i<os.length))=true)
 (h:eQ P os.toArray Env Rl mo F5 N (os.take n) (nV l) Z (fun F Z=>∀w',Env w'→Z w'→ga F w' ts (fun l'=>bT P os.toArray (gJ Q) N D l' w' (px os perm)))):cD P Q N D l w (.region id os.toArray true):=fun a ha=>by
 refine wp_mono (wp_region_any (Q:=gJ Q) hm (vA (D:=D) hE (fun _ _ h=>h) hcalls hB hp (ey l) hZ hz he (EJ ha) (gu _ _ _ (fun F Z hK a' w' he hs hz=>?_) h))) fun e a w he=>by obtain⟨rfl,h⟩:=he;exact h
 obtain⟨l',hl',hk⟩:=ga.use hs (hK w' he hz)
 exact hk a' hl'
theorem Gx {Q:eG} {D:List Deferred} {l:Fr} {w:World} {id:Nat} {os:List Oper} (n:Nat) (perm:List Nat) (ts:List Nat) (hm:P.follows .mixedOrders=true) (hB:A1 os.toArray n perm=true) (hp:(perm.all fun i=>decide (i<os.length))=true)
 (h:eQ P os.toArray (aG w) aG false F5 N (os.take n) (nV l) (fun _=>True) (fun F _=>∀w',aG w w'→ga F w' ts (fun l'=>bT P os.toArray (gJ Q) N D l' w' (px os perm)))):cD P Q N D l w (.region id os.toArray true):=
 EK n perm ts (aG w) aG false (fun _=>True) (fg.plain w) (aG.refl w) cw.triv trivial (fun h=>by cases h) hm hB hp (gu _ _ _ (fun _ _ h w' he _=>h w' he) h)
theorem vB {Q:eG} {D:List Deferred} {l:Fr} {w:World} (h:fp Q N D l w):fp (gJ Q) N D l w:=fun a ha=>⟨rfl,h a ha⟩
theorem rX {Q:eG}:¬LetsOut (gJ Q):=fun⟨_,_,hq⟩=>by
 obtain⟨hq,_⟩:=hq
 cases hq
theorem I.zi {Q:eG} {D:List Deferred} {l:Fr} {w:World} {rd:Option Nat} {id:Nat} {os:List Oper} (S:World→Prop) (n:Nat) (hn:os.toArray.size=n) (hm:P.follows .mixedOrders=true) (hd:kE os=true)
 (h:et P os.toArray Q N D S n (Array.replicate n false) l w.drew):eq rd P Q N D l w (.region id os.toArray true):=fun a ha=>by
 subst hn
 refine wpIn_mono (wpIn_region_draw (Q:=gJ Q) fun t=>oc rX (.inr hd) _ _ _ ?_) fun e a w he=>by obtain⟨rfl,h⟩:=he;exact h
 simp only[Region.schedule,hm,Bool.true_or,if_true]
 exact wpAny_sound os.toArray.size t _ a _ (wpAny_of_held _ _ _ _ (h a ha))
end
end Go.Rl
namespace Go.Rl
open Go.RowKit
def kY (T:Value→World→Prop) (Pn:List PanicEntry→World→Prop):Ending→World→Prop:=fun e w'=>(∃v,e=.returned v∧T v w')∨∃c,e=.panicked c∧Pn c w'
theorem kY.mono {P:Program} {f:FuncId} {args:Array Value} {w:World} {T T':Value→World→Prop} {Pn Pn':List PanicEntry→World→Prop} (h:Calls P f args w (kY T Pn)) (hT:∀v w',T v w'→T' v w') (hP:∀c w',Pn c w'→Pn' c w'):Calls P f args w (kY T' Pn'):=
 Calls.mono h fun _ _ he=>he.imp (fun⟨v,h,hv⟩=>⟨v,h,hT _ _ hv⟩) fun⟨c,h,hc⟩=>⟨c,h,hP _ _ hc⟩
section
variable {P:Program} {ops:Array Oper} {Q:eG} {N:Nat} {D:List Deferred} {l:Fr} {w:World} {rest:List Oper} {d:Nat} {ty:TypeId} {pos:String} {aft:Array Edge}
theorem iY {f:FuncId} {xs:List Operand} {vs:List Value} {ts:Array TypeId} {T:Value→World→Prop} {Pn:List PanicEntry→World→Prop} (hf:aw P f) (hp:qu l xs=some vs) (hd:Nat.blt d N=true) (hc:Calls P f vs.toArray w (kY T Pn))
 (hP:∀c a w',At N D l a→Pn c w'→Q (.panic c) a w')
 (k:∀v w',T v w'→bT P ops Q N D ((d,v)::l) w' rest):bT P ops Q N D l w (⟨some d,.call {callee:=.value (.func f),args:=xs.toArray,argTypes:=ts},ty,pos,aft,none⟩::rest):=fun a ha=>by
 have hr:(execOp a.eval ⟨some d,.call {callee:=.value (.func f),args:=xs.toArray,argTypes:=ts},ty,pos,aft,none⟩).run P w=.ok (.enter f vs.toArray) w:=by
  have hρ:m0 l a.eval:=fun x v hx=>ha.ev hx
  simp only[execOp,resolve,List.map_toArray,gR hρ hp,Act.eval,Deferred.ofValue,Sem.run_bind,Sem.run_pure,Result.andThen_ok,invoke,Array.append_empty,en hf,Array.empty_append]
 unfold wpList
 rw[if_pos (by rfl)]
 refine .inl ?_
 unfold Oper.wp
 rw[hr]
 refine hc.mono ?_
 rintro e w' (⟨v,rfl,hv⟩|⟨c,rfl,hp⟩)
 ·exact k v w' hv _ (ha.put hd v)
 ·exact hP c a w' ha hp
theorem qJ {x:Operand} {u:TypeId} {v:Value} (hx:ev l x=some (.iface u v)) (hP:∀a,At N D l a→Q (.panic [{v:=.iface u v,recovered:=false}]) a w):bT P ops Q N D l w (⟨none,.panic x,ty,pos,aft,none⟩::rest):=fun a ha=>by
 have hr:(execOp a.eval ⟨none,.panic x,ty,pos,aft,none⟩).run P w=.halt (.panic (.iface u v)) w:=by
  have e:a.eval x=.iface u v:=ha.ev hx
  simp[execOp,e,Instr.panic,goPanic,Sem.run]
 unfold wpList
 rw[if_pos (by rfl)]
 refine .inl ?_
 unfold Oper.wp
 rw[hr]
 exact hP a ha
theorem jA {t:TypeId} {x:Operand} {u r:Value} (hx:ev l x=some u) (hd:Nat.blt d N=true) (hrun:(Instr.makeInterface t u).run P w=.ok r w)
 (k:bT P ops Q N D ((d,r)::l) w rest):bT P ops Q N D l w (⟨some d,.makeInterface t x,ty,pos,aft,none⟩::rest):=uM (f:=Instr.makeInterface t) (fun _=>rfl) hx hd hrun k
end
end Go.Rl
namespace Go.Rl
open Go.RowKit Go.Proofs
def EL (l:List Value) (o:Nat) (m:List Value):List Value:=l.take o++m++l.drop (o+m.length)
section
variable {P:Program} {w w1 w':World} {T TB t:TypeId} {g gB i o:Nat} {l m cs:List Value} {v:Value} {st s1:Option (List UInt8)}
theorem cl.stO (h:cl g T l w) (o:Nat) (hl:o+m.length≤l.length) (hi:(P.info? t).map (·.size)=some m.length) (h1:aL m):
 ∃w',(Instr.storeAt t (.pointer (some ⟨g,o,none⟩)) (.agg m.toArray)).run P w=.ok () w'∧w.grownBy w' (some g)∧cl g T (EL l o m) w':=by
 have h':w.heap[g]? =some (.cells l.toArray T (0,0)):=h
 have hr:=run_storeCells_at (P:=P) g o T m 0 l.toArray w h' (by simpa using hl) h1
 refine⟨_,?_,bg w g _,h.row (EL l o m)⟩
 simp only[Instr.storeAt,Instr.sureAddr,storeVar,Sem.run_bind,Sem.run_pure,Result.andThen_ok,dP hi]
 rw[if_neg (by simp[Value.cells])]
 simpa [EL,Value.cells] using hr
end
end Go.Rl
namespace Go.Rl
open Go.RowKit Go.Proofs
theorem vi.rpx {w:World} {b:Nat} {l:List UInt32} {v:Value} (h:bj l v w) (hn:vi b v):cT (fun k=>k<b) w (ju l) [v]:=by
 have h':Rp w (ju l) [v]:=Rp.wds.2 h
 unfold ju at h'⊢
 simp only[Rp] at h'
 obtain⟨A,n,c,hv,h2,h3,h4,h5,h6⟩:=h'
 obtain rfl:v=.slice A n c:=by simpa using hv
 simp only[cT]
 refine⟨A,n,c,rfl,h2,h3,h4,h5,fun hp=>?_⟩
 obtain⟨ad,xs,rfl,h8,h9⟩:=h6 hp
 refine⟨ad,xs,rfl,fun _ hb=>?_,h8,?_⟩
 ·have:=hn ad.block rfl
  omega
 ·have:∀(l:List UInt32) (ys:List Value),bi w (l.map pc) ys→aK (fun k=>k<b) w (l.map pc) ys:=by
   intro l
   induction l with
   |nil=>intro ys h;simpa only[List.map_nil,bi,aK] using h
   |cons a l ih=>
    intro ys h
    simp only[List.map_cons,bi,aK] at h⊢
    obtain⟨c1,c2,h1,h2,h3⟩:=h
    exact⟨c1,c2,h1,by simpa only[pc,Rp,cT] using h2,ih _ h3⟩
  exact this l xs h9
theorem vi.rpx' {w:World} {b:Nat} {l:List UInt32} {v:Value} (hn:vi b v) (h:bj l v w):cT (fun k=>k<b) w (ju l) [v]:=vi.rpx h hn
theorem fg.mv (X:Nat→Prop) (w:World):fg (Mv X w) (Mv X):=⟨fun _ _ h=>Mv.of_ext h,fun _ _ h k=>h.trans k fun _ hn _=>hn⟩
theorem cT.isS {X:Nat→Prop} {w:World} {l:List Dt} {v:Value} (h:cT X w (.sl l) [v]):∃A n c,v=.slice A n c:=by
 simp only[cT] at h
 obtain⟨A,n,c,hv,_⟩:=h
 exact⟨A,n,c,by simpa using hv⟩
theorem kZ {X:Nat→Prop} {w:World} (n:Int):cT X w (nf n) [I n]:=by simp only[nf,cT,I]
end Go.Rl
namespace Go.Rl
open Go.RowKit Go.Proofs
def RX (g:Nat):Nat→Prop:=fun k=>k=g
abbrev fI (st:Option (List UInt8)):Prop:=F3 549755813888 st
theorem xN {X:Nat→Prop} {w:World} {d:eg} {x y:Value} (h:cT X w (fK d.at_) [B d.at_.1,x,y]):cT X w (fF d) [I d.kd,I d.ix,B d.at_.1,x,y]:=by
 unfold fF
 simp only[cT.eq_5]
 exact aK.cons (a:=[I d.kd]) (kZ _) (aK.cons (a:=[I d.ix]) (kZ _) (aK.cons (b:=[]) h aK.nil))
theorem ltN {n m:Nat} (hn:n<18446744073709551616) (hm:m<18446744073709551616):UInt64.ofNat n<UInt64.ofNat m↔n<m:=by
 rw[UInt64.lt_iff_toNat_lt,UInt64.toNat_ofNat',UInt64.toNat_ofNat']
 omega
theorem py {α:Type} {f:List UInt8→Option (α×List UInt8)} {st s1 so:Option (List UInt8)} {N:Nat} {done:List α} (hU:ff eh st N s1) (hR:s1.bind (da f N)=so.bind (fun l=>(da f 0 l).map fun p=>(done++p.1,p.2))):ff (lV f) st done so:=
 (hU.bindE (fun p=>da f p.1 p.2)).trans (Cp hR)
theorem pz {α:Type} {f:List UInt8→Option (α×List UInt8)} {st s1:Option (List UInt8)} {N:Nat} {done:List α} (hU:ff eh st N s1) (hR:s1.bind (da f N)=none):ff (lV f) st done none:=
 (hU.bindE (fun p=>da f p.1 p.2)).trans hR
theorem t9:(Tryz.prog.info? 216).map (fun i=>(i.zero,i.size,i.bytes))=some (some (.agg #[I 0,I 0,I 0,I 0,B false,.slice none 0 0,.slice none 0 0]),7,88):=by kernel_rfl
theorem fy (m:cB):(cd m).size=7:=by simp[cd,nf,fK,ju,Dt.size,Dt.sizeAll]
theorem Cw {X:Nat→Prop} {w:World} {m:cB} {x y:Value} (h:cT X w (fK m.co) [B m.co.1,x,y]):cT X w (cd m) [I m.kd,I m.ix,I m.lo,I m.hi,B m.co.1,x,y]:=by
 unfold cd
 simp only[cT.eq_5]
 exact aK.cons (a:=[I m.kd,I m.ix,I m.lo,I m.hi]) (by
  simp only[cT.eq_5]
  exact aK.cons (a:=[I m.kd]) (kZ _) (aK.cons (a:=[I m.ix]) (kZ _) (aK.cons (a:=[I m.lo]) (kZ _) (aK.cons (a:=[I m.hi]) (b:=[]) (kZ _) aK.nil)))) (aK.cons (b:=[]) h aK.nil)
end Go.Rl
namespace Go.Rl
open Go.RowKit Go.Proofs
theorem EM:(Tryz.prog.info? 147).map (fun i=>(i.zero,i.size,i.bytes))=some (some (.agg #[I 0,B false,B false,.slice none 0 0,.slice none 0 0,.slice none 0 0]),6,96):=by kernel_rfl
theorem pA:(Tryz.prog.info? 83).map (fun i=>(i.zero,i.size,i.bytes))=some (some (.agg #[.slice none 0 0,I 0,I 0,B false,.slice none 0 0,.slice none 0 0,.slice none 0 0,B false,.slice none 0 0]),9,152):=by kernel_rfl
theorem dW (l:fE):(dm l).size=6:=by simp[dm,nf,fK,ju,kU,Dt.size,Dt.sizeAll]
theorem bK (n:aN):(bh n).size=9:=by cases n;simp[bh,fF,nf,fK,ju,kU,Dt.size,Dt.sizeAll]
theorem zx {X:Nat→Prop} {w:World}:cT X w (.sl []) [.slice none 0 0]:=by
 simp only[cT]
 exact⟨none,0,0,rfl,rfl,Nat.le_refl _,Nat.zero_le _,fun _=>rfl,fun h=>absurd h (by omega)⟩
theorem bX {X:Nat→Prop} {w:World} (b:Bool):cT X w (.bool b) [B b]:=by simp only[cT,B]
theorem EN {X:Nat→Prop} {w:World} {l:fE} {x y v:Value} (h:cT X w (fK l.va) [B l.va.1,x,y]) (hp:cT X w (kU l.pf) [v]):cT X w (dm l) [I l.un,B l.up,B l.va.1,x,y,v]:=by
 unfold dm
 simp only[cT.eq_5]
 exact aK.cons (a:=[I l.un]) (kZ _) (aK.cons (a:=[B l.up]) (bX _) (aK.cons (a:=[B l.va.1,x,y]) h (aK.cons (b:=[]) hp aK.nil)))
theorem pB {X:Nat→Prop} {w:World} {ls:List fE} {d:eg} {ks:List aN} {em:Bool} {ps:List cB} {vl vk vp x y:Value} (hl:cT X w (.sl (ls.map dm)) [vl]) (hd:cT X w (fF d) [I d.kd,I d.ix,B d.at_.1,x,y]) (hk:cT X w (.sl (ks.map bh)) [vk]) (hp:cT X w (kU ps) [vp]):
 cT X w (bh (.mk ls d ks em ps)) [vl,I d.kd,I d.ix,B d.at_.1,x,y,vk,B em,vp]:=by
 unfold bh
 simp only[cT.eq_5]
 exact aK.cons (a:=[vl]) hl (aK.cons (a:=[I d.kd,I d.ix,B d.at_.1,x,y]) hd (aK.cons (a:=[vk]) (by rw[jn];exact hk) (aK.cons (a:=[B em]) (bX _) (aK.cons (b:=[]) hp aK.nil))))
theorem A2 {X:Nat→Prop} {w:World}:cT X w (fF yQ) [I 0,I 0,B false,.slice none 0 0,.slice none 0 0]:=
 xN (d:=yQ) (by
  simp only[fK,yQ,z0Q,cT.eq_5]
  exact aK.cons (a:=[B false]) (bX _) (aK.cons (a:=[.slice none 0 0]) zx (aK.cons (b:=[]) zx aK.nil)))
theorem Ho {P:Program} {w:World} {t:TypeId} {x y:Operand} {n:Nat} (hn:n<18446744073709551616):(bin .eql t x y (bC (UInt64.ofNat n)) (bC 1)).run P w=.ok (B (decide (n=1))) w:=by
 have e:(decide (UInt64.ofNat n=1))=decide (n=1):=by
  by_cases h:n=1
  ·subst h;rfl
  ·have:UInt64.ofNat n≠1:=fun e=>h (by have:=congrArg UInt64.toNat e;rw[UInt64.toNat_ofNat',show(1:UInt64).toNat=1 from rfl] at this;omega)
   rw[decide_eq_false h,decide_eq_false this]
 rw[←e]
 exact i8
theorem pC {α:Type} {f:List UInt8→Option (α×List UInt8)} {st s1 so:Option (List UInt8)} {N k:Nat} {done:List α} (hU:ff eh st N s1) (hR:s1.bind (da f N)=so.bind (fun l=>(da f (k+1) l).map fun p=>(done++p.1,p.2))) (h:so.bind f=none):st.bind (lV f)=none:=
 (hU.bindE (fun p=>da f p.1 p.2)).trans (Cu hR h)
end Go.Rl
namespace Go.Rl
open Go.RowKit Go.Proofs
end Go.Rl
namespace Go.Rl
open Go.RowKit Go.Proofs
theorem la:aw Tryz.prog 110:=⟨_,Tryz.func110,by kernel_rfl,rfl⟩
theorem fY:aw Tryz.prog 176:=⟨_,Tryz.func176,by kernel_rfl,rfl⟩
theorem nG:aw Tryz.prog 178:=⟨_,Tryz.func178,by kernel_rfl,rfl⟩
theorem oB:aw Tryz.prog 146:=⟨_,Tryz.func146,by kernel_rfl,rfl⟩
theorem Cx:aw Tryz.prog 149:=⟨_,Tryz.func149,by kernel_rfl,rfl⟩
theorem qc:aw Tryz.prog 148:=⟨_,Tryz.func148,by kernel_rfl,rfl⟩
theorem zy:aw Tryz.prog 147:=⟨_,Tryz.func147,by kernel_rfl,rfl⟩
theorem nH:aw Tryz.prog 112:=⟨_,Tryz.func112,by kernel_rfl,rfl⟩
def It:Value:=.iface 167 (.agg #[])
def tl (c:List PanicEntry):Prop:=c=[{v:=It,recovered:=false}]
theorem vC {P:Program} {w:World} {t:TypeId} {fs:Array Field} {v:Value} (h:P.underlying t=some (.struct fs)):(Instr.makeInterface t v).run P w=.ok (.iface t v) w:=by
 simp[Instr.makeInterface,run_underlying h]
theorem vD (st:Option (List UInt8)):∃n s1,ff eh st n s1∧n<18446744073709551616∧∀{w:World} {g:Nat},aU g st w→Calls Tryz.prog 111 #[.pointer (some ⟨g,0,none⟩)] w (bD fun r w'=>w.grownBy w' (some g)∧r=.tuple #[bC (UInt64.ofNat n),I (if s1.isSome=true then 0 else 5)]∧aU g s1 w'):=by
 cases hU:st.bind eh with
 |none=>exact⟨0,none,hU,by omega,fun hr=>Hk hr hU⟩
 |some p=>
  obtain⟨n,t⟩:=p
  refine⟨n,some t,hU,?_,fun hr=>Hl hr hU⟩
  cases st with
  |none=>cases hU
  |some l=>exact(fS (show eh l=some (n,t) from hU)).2
theorem nI (st:Option (List UInt8)):∃n s1,ff qH st n s1∧mO n∧∀{w:World} {g:Nat},aU g st w→Calls Tryz.prog 177 #[.pointer (some ⟨g,0,none⟩)] w (bD fun r w'=>w.grownBy w' (some g)∧r=.tuple #[I n,I (if s1.isSome=true then 0 else 5)]∧aU g s1 w'):=by
 cases hU:st.bind eh with
 |none=>
  refine⟨0,none,?_,by unfold mO;omega,fun hr=>IR hr hU⟩
  cases st with
  |none=>rfl
  |some l=>show(eh l).map _=none;rw[show eh l=none from hU];rfl
 |some p=>
  obtain⟨n,t⟩:=p
  have hI:ff qH st (uz n) (some t):=by
   cases st with
   |none=>cases hU
   |some l=>show(eh l).map _=_;rw[show eh l=some (n,t) from hU];rfl
  exact⟨uz n,some t,hI,Gw hI,fun hr=>IS hr hU⟩
def qq (b:Nat) (q:fx):dl:=fun v w=>∃x y,v=.agg #[B q.1,x,y]∧cT (fun k=>k<b) w (fK q) [B q.1,x,y]
def oC (b:Nat) (q:fx) (e:Int):dl:=fun v w=>∃x y,v=.tuple #[.agg #[B q.1,x,y],I e]∧cT (fun k=>k<b) w (fK q) [B q.1,x,y]
theorem qq.stable {b g:Nat} {q:fx} (hg:g<b):bR (Mv (RX g)) (qq b q):=fun _ _ _ ⟨x,y,h,h2⟩ hm=>⟨x,y,h,h2.mv (hm.weak fun j hj _=>by have:j=g:=hj;show j<b;omega) fun _ hk=>.inl hk⟩
theorem oC.stable {b g:Nat} {q:fx} {e:Int} (hg:g<b):bR (Mv (RX g)) (oC b q e):=fun _ _ _ ⟨x,y,h,h2⟩ hm=>⟨x,y,h,h2.mv (hm.weak fun j hj _=>by have:j=g:=hj;show j<b;omega) fun _ hk=>.inl hk⟩
theorem oC.up {b c:Nat} {q:fx} {e:Int} {v:Value} {w:World} (hc:b≤c) (h:oC c q e v w):oC b q e v w:=by
 obtain⟨x,y,h1,h2⟩:=h
 exact⟨x,y,h1,h2.weak fun j hj=>.inl (Nat.lt_of_lt_of_le hj hc)⟩
theorem gl {X:Nat→Prop} {w:World} {q:fx} {x y:Value} (h:cT X w (fK q) [B q.1,x,y]):x.oneCell'=true∧y.oneCell'=true:=by
 obtain⟨x',y',he,hx,hy⟩:=lW h.rp
 simp only[List.cons.injEq] at he
 obtain⟨_,rfl,rfl,_⟩:=he
 obtain⟨_,_,_,rfl⟩:=hx.isS
 obtain⟨_,_,_,rfl⟩:=hy.isS
 exact⟨rfl,rfl⟩
theorem zz (st:Option (List UInt8)):∃q s1,ff p5 st q s1∧(fI st→∀{w:World} {g:Nat},aU g st w→Calls Tryz.prog 179 #[.pointer (some ⟨g,0,none⟩)] w (bD fun r w'=>w.grownBy w' (some g)∧oC w.heap.size q (if s1.isSome=true then 0 else 5) r w'∧aU g s1 w')):=by
 cases hR:st.bind p5 with
 |none=>
  refine⟨(false,[],[]),none,hR,fun hl w g hr=>(rR hr hl).mono fun r w' ⟨r',he,h1,h2⟩=>⟨r',he,h1,?_⟩⟩
  rw[hR] at h2
  obtain⟨v,h3,⟨x,y,rfl,hx,hy⟩,h4⟩:=h2
  have hn:∀{z:Value},bj [] z w'→cT (fun k=>k<w.heap.size) w' (ju []) [z]:=fun {z} hz=>by
   obtain⟨A,n,c,rfl,h5,h6,h7,h8,h9⟩:=hz
   simp only[ju,List.map_nil,cT]
   have:n=0:=by simp at h7;omega
   subst this
   exact⟨A,0,c,rfl,rfl,h5,h6,h9,fun h=>by omega⟩
  refine⟨⟨x,y,h3,?_⟩,h4⟩
  simp only[fK,cT]
  exact aK.cons (a:=[B false]) (by simp only[cT,B]) (aK.cons (hn hx) (aK.cons (b:=[]) (hn hy) aK.nil))
 |some p=>
  obtain⟨q,t⟩:=p
  refine⟨q,some t,hR,fun hl w g hr=>(rR hr hl).mono fun r w' ⟨r',he,h1,h2⟩=>⟨r',he,h1,?_⟩⟩
  rw[hR] at h2
  obtain⟨x,y,h3,hx,hy,h4,n1,n2⟩:=h2
  refine⟨⟨x,y,h3,?_⟩,h4⟩
  simp only[fK,cT]
  exact aK.cons (a:=[B q.1]) (by simp only[cT,B]) (aK.cons (n1.rpx' hx) (aK.cons (b:=[]) (n2.rpx' hy) aK.nil))
theorem aU.stableZ {g:Nat} {st:Option (List UInt8)}:cw (aU g st):=fun _ _ h hx=>h.ext hx
theorem gn {Z:ij} {p:Prop} (h:cw Z):cw (fun w=>Z w∧p):=fun _ _ hz hx=>⟨h _ _ hz.1 hx,hz.2⟩
theorem aU.mv {g:Nat} {st:Option (List UInt8)} {X:Nat→Prop} {w w':World} (h:aU g st w) (hm:Mv X w w') (hX:∀k,X k→g<k):aU g st w':=Dq.mv h.rdT hm hX
theorem ff.none_of {α:Type} {f:List UInt8→Option (α×List UInt8)} {st s1:Option (List UInt8)} {a:α} (h:ff f st a s1) (e:st=none):s1=none:=by
 subst e
 cases s1 with
 |none=>rfl
 |some t=>cases h
theorem lf {w:World} {n:UInt64} {s:Option (List UInt8)}:Calls Tryz.prog 110 #[bC n,I (if s.isSome=true then 0 else 5)] w (kY (fun r w'=>w=w'∧r=bC n∧s≠none) (fun c w'=>w=w'∧tl c∧s=none)):=by
 refine enter (vs:=[bC n,I (if s.isSome=true then 0 else 5)]) Tryz.func110 JL JL JL ?_
 refine af (aa (ac JL JL (ag (ab (af (af ?_))))))
 rcases s with _|t
 ·refine aa (ae JL JL (aj JL JL JL (dv (by simp) dj) (ag (ab (bJ JL (aa (bI (vs:=[]) (r:=.agg #[]) JL JL (run_build _ _ _ _ (by kernel_rfl)) ?_)))))))
  refine jA (r:=.iface 167 (.agg #[])) JL JL (vC JG) ?_
  exact qJ rfl fun a ha=>⟨ha.defers,.inr ⟨_,rfl,rfl,rfl,rfl⟩⟩
 ·refine aa (ae JL JL (aj JL JL JL (eF (by simp) dj) (ag (ab (dI JL (ar (ab (af (aa (ae JL JL (ac JL JL (ag (ab (au ?_))))))))))))))
  refine az JL JL ?_
  exact .inl ⟨_,rfl,rfl,rfl,by simp⟩
theorem zA {w:World} {n:Int} {s:Option (List UInt8)}:Calls Tryz.prog 176 #[I n,I (if s.isSome=true then 0 else 5)] w (kY (fun r w'=>w=w'∧r=I n∧s≠none) (fun c w'=>w=w'∧tl c∧s=none)):=by
 refine enter (vs:=[I n,I (if s.isSome=true then 0 else 5)]) Tryz.func176 JL JL JL ?_
 refine af (aa (ac JL JL (ag (ab (af (af ?_))))))
 rcases s with _|t
 ·refine aa (ae JL JL (aj JL JL JL (dv (by simp) dj) (ag (ab (bJ JL (aa (bI (vs:=[]) (r:=.agg #[]) JL JL (run_build _ _ _ _ (by kernel_rfl)) ?_)))))))
  refine jA (r:=.iface 167 (.agg #[])) JL JL (vC JG) ?_
  exact qJ rfl fun a ha=>⟨ha.defers,.inr ⟨_,rfl,rfl,rfl,rfl⟩⟩
 ·refine aa (ae JL JL (aj JL JL JL (eF (by simp) dj) (ag (ab (dI JL (ar (ab (af (aa (ae JL JL (ac JL JL (ag (ab (au ?_))))))))))))))
  refine az JL JL ?_
  exact .inl ⟨_,rfl,rfl,rfl,by simp⟩
theorem zB {w:World} {q:fx} {X:Nat→Prop} {x y:Value} {s:Option (List UInt8)} (hq:cT X w (fK q) [B q.1,x,y]):Calls Tryz.prog 178 #[.agg #[B q.1,x,y],I (if s.isSome=true then 0 else 5)] w (kY (fun r w'=>aG w w'∧r=.agg #[B q.1,x,y]∧s≠none) (fun c w'=>aG w w'∧tl c∧s=none)):=by
 refine enter (vs:=[.agg #[B q.1,x,y],I (if s.isSome=true then 0 else 5)]) Tryz.func178 JL JL JL ?_
 have h1:=(gl hq).1
 have h2:=(gl hq).2
 obtain⟨x',y',he,hx,hy⟩:=lW hq.rp
 simp only[List.cons.injEq] at he
 obtain⟨_,rfl,rfl,_⟩:=he
 refine af (aa ?_)
 obtain⟨g2,w2,hr2,l2,x2,k2⟩:=cI (P:=Tryz.prog) (w:=w) (T:=55) (cs:=[B q.1,x,y])
 refine cx JL JL hr2 ?_
 obtain⟨g4,w4,hr4,l4,x4,k4⟩:=bc (P:=Tryz.prog) (w:=w2) (t:=55) (z:=.agg #[B false,.slice none 0 0,.slice none 0 0]) (l:=[B false,.slice none 0 0,.slice none 0 0]) (by kernel_rfl) rfl
 refine bf JL hr4 (ag (ab (af (af ?_))))
 rcases s with _|t
 ·refine aa (ae JL JL (aj JL JL JL (dv (by simp) dj) (ag (ab (bJ JL (aa (bI (vs:=[]) (r:=.agg #[]) JL JL (run_build _ _ _ _ (by kernel_rfl)) ?_)))))))
  refine jA (r:=.iface 167 (.agg #[])) JL JL (vC JG) ?_
  exact qJ rfl fun a ha=>⟨ha.defers,.inr ⟨_,rfl,(x2.trans x4),rfl,rfl⟩⟩
 ·refine aa (ae JL JL (aj JL JL JL (eF (by simp) dj) (ag (ab (dI JL (ar (ab (af (aa (ak JL JL ((k2.ext x4).ld Tryz.underlying55 JL (by kernel_rfl)) ?_))))))))))
  obtain⟨w3_1,s3_1,q3_1,k3_1⟩:=k4.stS (P:=Tryz.prog) (t:=55) (m:=[B q.1,x,y]) rfl (by kernel_rfl) (aL.cons rfl (aL.cons hx.one (aL.cons hy.one aL.nil)))
  refine aC JL JL s3_1 ?_
  have x3_1:=aG.of_new (x4) q3_1 l4
  refine ag (ab (au ?_))
  refine dB JL JL k3_1 Jj JL (by kernel_rfl) ?_
  exact .inl ⟨_,rfl,(x2.trans x3_1),rfl,by simp⟩
section
variable {w0 w:World} {g b:Nat} {s1:Option (List UInt8)} {n:Int} {q:fx} {E:Prop} {f:FuncId} {args:Array Value} {Pn:List PanicEntry→World→Prop}
theorem rY {v:Value} (h:Calls Tryz.prog f args w (bD fun r w'=>w.grownBy w' (some g)∧r=v∧aU g s1 w')):Calls Tryz.prog f args w (fun e w'=>(∃r,e=.returned r∧Mv (RX g) w w'∧Is v r w'∧aU g s1 w')∨∃c,e=.panicked c∧Pn c w'):=
 Calls.mono h fun _ _ ⟨r,he,h1,h2,h3⟩=>.inl ⟨r,he,Mv.of_grown h1 fun _ hk _=>(Option.some.inj hk).symm,h2,h3⟩
theorem nJ (hw:Mv (RX g) w0 w) (hz:aU g s1 w) (hp:s1=none→E):Calls Tryz.prog 176 #[I n,I (if s1.isSome=true then 0 else 5)] w (fun e w'=>(∃r,e=.returned r∧Mv (RX g) w w'∧Is (I n) r w'∧aU g s1 w')∨∃c,e=.panicked c∧Mv (RX g) w0 w'∧tl c∧E):=by
 refine Calls.mono (zA (n:=n) (s:=s1)) fun _ _ he=>?_
 rcases he with⟨r,he,h1,h2,h3⟩|⟨c,he,h1,h2,h3⟩
 ·subst h1;exact .inl ⟨r,he,Mv.refl _ _,h2,hz⟩
 ·subst h1;exact .inr ⟨c,he,hw,h2,hp h3⟩
theorem zC {e:Int} (hb:b≤w.heap.size) (h:Calls Tryz.prog f args w (bD fun r w'=>w.grownBy w' (some g)∧oC w.heap.size q e r w'∧aU g s1 w')):Calls Tryz.prog f args w (fun e' w'=>(∃r,e'=.returned r∧Mv (RX g) w w'∧oC b q e r w'∧aU g s1 w')∨∃c,e'=.panicked c∧Pn c w'):=
 Calls.mono h fun _ _ ⟨r,he,h1,h2,h3⟩=>.inl ⟨r,he,Mv.of_grown h1 fun _ hk _=>(Option.some.inj hk).symm,h2.up hb,h3⟩
theorem zD {x y:Value} (hw:Mv (RX g) w0 w) (hz:aU g s1 w) (h:cT (fun k=>k<b) w (fK q) [B q.1,x,y]) (hp:s1=none→E):Calls Tryz.prog 178 #[.agg #[B q.1,x,y],I (if s1.isSome=true then 0 else 5)] w (fun e w'=>(∃r,e=.returned r∧Mv (RX g) w w'∧qq b q r w'∧aU g s1 w'∧s1≠none)∨∃c,e=.panicked c∧Mv (RX g) w0 w'∧tl c∧E):=by
 refine Calls.mono (zB (q:=q) (s:=s1) h) fun _ _ he=>?_
 rcases he with⟨r,he,h1,h2,h3⟩|⟨c,he,h1,h2,h3⟩
 ·exact .inl ⟨r,he,Mv.of_ext h1,⟨x,y,h2,h.ext h1⟩,hz.ext h1,h3⟩
 ·exact .inr ⟨c,he,hw.trans (Mv.of_ext h1) fun _ hn _=>hn,h2,hp h3⟩
end
theorem A3 {w:World} {g n most:Nat} {st s1:Option (List UInt8)} (hn:n<18446744073709551616) (hm:most<18446744073709551616) (hr:aU g st w)
 (cU:∀{w:World} {g:Nat},aU g st w→Calls Tryz.prog 111 #[.pointer (some ⟨g,0,none⟩)] w (bD fun r w'=>w.grownBy w' (some g)∧r=.tuple #[bC (UInt64.ofNat n),I (if s1.isSome=true then 0 else 5)]∧aU g s1 w')):
 Calls Tryz.prog 146 #[.agg #[.pointer (some ⟨g,0,none⟩)],bC (UInt64.ofNat most)] w (kY (fun r w'=>Mv (RX g) w w'∧r=bC (UInt64.ofNat n)∧aU g s1 w'∧s1≠none∧n≤most) (fun c w'=>Mv (RX g) w w'∧tl c∧(s1=none∨¬n≤most))):=by
 refine enter (vs:=[.agg #[.pointer (some ⟨g,0,none⟩)],bC (UInt64.ofNat most)]) Tryz.func146 JL JL JL ?_
 refine af (aa ?_)
 obtain⟨g2,w2,hr2,l2,x2,k2⟩:=cI (P:=Tryz.prog) (w:=w) (T:=172) (cs:=[.pointer (some ⟨g,0,none⟩)])
 refine cx JL JL hr2 ?_
 have hr2:=hr.ext x2
 have e2:=x2
 refine ac JL JL (ag (ab (af (aa (ah JL JL (aI (o:=0) Jt JL (by kernel_rfl) JL) (ak JL JL (ai Ju JL (k2.cell (i:=0) JL)) ?_))))))
 refine am gj JL JL ((cU hr2)) ?_
 rintro v8 w8 ⟨g8,rfl,hr8⟩
 have m8:=hr2.rdT.kp g8
 have mv8:Mv (RX g) w w8:=(Mv.of_ext e2).trans (Mv.of_grown g8 fun k hk _=>(Option.some.inj hk).symm) fun _ hj _=>hj
 refine an rfl rfl (bw) (an rfl rfl (bz) (iY la rfl rfl ((lf (n:=UInt64.ofNat n) (s:=s1))) (fun c a w1 ha hp=>⟨ha.defers,.inr ⟨c,rfl,by obtain⟨rfl,h2,h3⟩:=hp;exact⟨mv8,h2,.inl h3⟩⟩⟩) ?_))
 rintro v11 _ ⟨rfl,rfl,hs1⟩
 refine ac JL JL (ag (ab (af (af ?_))))
 by_cases hnm:n≤most
 ·refine aa (ae JL JL (ae JL JL (aj JL JL JL (eF (fun h=>by have:=(ltN hm hn).1 h;omega) dc) (ag (ab (dI JL (ar (ab (af ?_)))))))))
  refine aa (ae JL JL (ac JL JL (ag (ab (au (az JL JL ?_))))))
  exact .inl ⟨_,rfl,mv8,rfl,hr8,hs1,hnm⟩
 ·refine aa (ae JL JL (ae JL JL (aj JL JL JL (dv ((ltN hm hn).2 (by omega)) dc) (ag (ab (bJ JL (aa (bI (vs:=[]) (r:=.agg #[]) JL JL (run_build _ _ _ _ (by kernel_rfl)) ?_))))))))
  refine jA (r:=.iface 167 (.agg #[])) JL JL (vC JG) ?_
  exact qJ rfl fun a ha=>⟨ha.defers,.inr ⟨_,rfl,mv8,rfl,.inr hnm⟩⟩
theorem EO (st:Option (List UInt8)) {most:Nat} (hm:most<18446744073709551616):∃(n:Nat) (s1:Option (List UInt8)),ff (qI most) st n s1∧n<18446744073709551616∧∀{w:World} {g:Nat},aU g st w→
 Calls Tryz.prog 146 #[.agg #[.pointer (some ⟨g,0,none⟩)],bC (UInt64.ofNat most)] w (kY (fun r w'=>Mv (RX g) w w'∧r=bC (UInt64.ofNat n)∧aU g s1 w'∧s1≠none∧n≤most) (fun c w'=>Mv (RX g) w w'∧tl c∧s1=none)):=by
 obtain⟨n,s1,h1,h2,h3⟩:=vD st
 by_cases hn:n≤most
 ·exact⟨n,s1,HU h1 hn,h2,fun hr=>kY.mono (A3 h2 hm hr h3) (fun _ _ h=>h) fun _ _ ⟨a,b,c⟩=>⟨a,b,c.resolve_right fun h=>h hn⟩⟩
 ·exact⟨n,none,HV h1 hn,h2,fun hr=>kY.mono (A3 h2 hm hr h3) (fun _ _ h=>absurd h.2.2.2.2 hn) fun _ _ ⟨a,b,_⟩=>⟨a,b,rfl⟩⟩
theorem Cy {w:World} {g:Nat} {st:Option (List UInt8)} (hr:aU g st w) (hl:fI st):
 Calls Tryz.prog 149 #[.agg #[.pointer (some ⟨g,0,none⟩)]] w (kY (fun r w'=>Mv (RX g) w w'∧∃(d:eg) (x y:Value) (s1:Option (List UInt8)),r=.agg #[I d.kd,I d.ix,B d.at_.1,x,y]∧cT (fun k=>k<w.heap.size) w' (fF d) [I d.kd,I d.ix,B d.at_.1,x,y]∧x.oneCell'=true∧y.oneCell'=true∧aU g s1 w'∧ff AX st d s1∧s1≠none) (fun c w'=>Mv (RX g) w w'∧tl c∧st.bind AX=none)):=by
 refine enter (vs:=[.agg #[.pointer (some ⟨g,0,none⟩)]]) Tryz.func149 JL JL JL ?_
 have hlt:g<w.heap.size:=aU.lt hr
 obtain⟨n1,s1,q1,i1,c1⟩:=nI st
 obtain⟨n2,s2,q2,i2,c2⟩:=nI s1
 obtain⟨q,s3,q3,cR⟩:=zz s2
 have few2:fI s2:=q2.atM gC.le (q1.atM gC.le hl)
 have hp1:s1=none→s3=none:=fun e=>q3.none_of (q2.none_of e)
 have hp2:s2=none→s3=none:=fun e=>q3.none_of e
 have qA:=Cs q1 q2 q3
 refine af (aa ?_)
 obtain⟨g1,w1,hr1,l1,x1,k1⟩:=cI (P:=Tryz.prog) (w:=w) (T:=172) (cs:=[.pointer (some ⟨g,0,none⟩)])
 refine cx JL JL hr1 ?_
 obtain⟨g2,w2,hr2,l2,x2,k2⟩:=bc (P:=Tryz.prog) (w:=w1) (t:=80) (z:=.agg #[I 0,I 0,B false,.slice none 0 0,.slice none 0 0]) (l:=[I 0,I 0,B false,.slice none 0 0,.slice none 0 0]) (by kernel_rfl) rfl
 refine bf JL hr2 ?_
 have hr2:=hr.ext (x1.trans x2)
 have e2:=(x1.trans x2)
 have k12:=k1.ext x2
 have nX1:¬RX g g1:=fun h=>by have:g1=g:=h;omega
 have nX2:¬RX g g2:=fun h=>by have:g2=g:=h;have:=x1.size;omega
 have hgs:w2.heap.size≤w2.heap.size:=Nat.le_refl _
 have hgb:g<w2.heap.size:=by have:=e2.size;omega
 have sz1:=x1.size
 have lt2:=k2.lt
 refine ag (ab (af (jy 19 [2,21] (Mv (RX g) w2) (Mv (RX g)) true (fun c w'=>Mv (RX g) w2 w'∧tl c∧s3=none) (aU g st) (fg.mv _ _) (Mv.refl _ _) aU.stableZ hr2 (fun c a w1 hd hp=>⟨hd,.inr ⟨c,rfl,(Mv.of_ext e2).trans hp.1 fun _ hj _=>hj,hp.2.1,by have:=qA;rw[hp.2.2] at this;exact this⟩⟩) (fun _=>by kernel_rfl) (by kernel_rfl) (by kernel_rfl) ?_)))
 refine aF JL JL (fun w hw=>aI (o:=0) Jt JL (by kernel_rfl) JL) (aD JL JL (fun w hw=>ai Ju JL ((hw.blk k12 nX1).k0)) ?_)
 refine di (S:=Is (.tuple #[I n1,I (if s1.isSome=true then 0 else 5)])) (Z':=aU g s1) ib rfl (bo.is _) (aU.stableZ) rfl (fun w hw hz=>by rintro _ rfl;exact rY (c1 hz)) ?_
 refine dJ rfl rfl (fun w _=>bw) (dJ rfl rfl (fun w _=>bz) (di (S:=Is (I n1)) (Z':=aU g s1) fY rfl (bo.is _) (aU.stableZ) rfl (fun w hw hz=>by rintro _ rfl _ rfl;exact nJ hw hz hp1) ?_))
 refine aF JL JL (fun w hw=>aI (o:=0) Jt JL (by kernel_rfl) JL) (aD JL JL (fun w hw=>ai Ju JL ((hw.blk k12 nX1).k0)) ?_)
 refine di (S:=Is (.tuple #[I n2,I (if s2.isSome=true then 0 else 5)])) (Z':=aU g s2) ib rfl (bo.is _) (aU.stableZ) rfl (fun w hw hz=>by rintro _ rfl;exact rY (c2 hz)) ?_
 refine dJ rfl rfl (fun w _=>bw) (dJ rfl rfl (fun w _=>bz) (di (S:=Is (I n2)) (Z':=aU g s2) fY rfl (bo.is _) (aU.stableZ) rfl (fun w hw hz=>by rintro _ rfl _ rfl;exact nJ hw hz hp2) ?_))
 refine aF JL JL (fun w hw=>aI (o:=0) Jt JL (by kernel_rfl) JL) (aD JL JL (fun w hw=>ai Ju JL ((hw.blk k12 nX1).k0)) ?_)
 refine di (S:=oC w2.heap.size q (if s3.isSome=true then 0 else 5)) (Z':=aU g s3) pr rfl (oC.stable hgb) (aU.stableZ) rfl (fun w hw hz=>by rintro _ rfl;exact zC (Nat.le_trans hgs hw.size) (cR few2 hz)) ?_
 refine gS rfl (qq.stable hgb) rfl (fun w v hw hv=>by obtain⟨x,y,rfl,h⟩:=hv;exact⟨_,bw,x,y,rfl,h⟩) (gS rfl (bo.is (I (if s3.isSome=true then 0 else 5))) rfl (fun w v hw hv=>by obtain⟨x,y,rfl,h⟩:=hv;exact⟨_,bz,rfl⟩) ?_)
 refine di (S:=qq w2.heap.size q) (Z':=(fun w=>aU g s3 w∧s3≠none)) nG rfl (qq.stable hgb) (gn aU.stableZ) rfl (fun w hw hz=>by rintro _ ⟨x,y,rfl,h⟩ _ rfl;exact zD hw hz h id) ?_
 refine nW (S:=fun v w'=>∃x y,v=.agg #[I n1,I n2,B q.1,x,y]∧cT (fun k=>k<w2.heap.size) w' (fK q) [B q.1,x,y]) (fun _ _ _ ⟨x,y,h,h2⟩ hm=>⟨x,y,h,h2.mv (hm.weak fun j hj _=>by have:j=g:=hj;show j<w2.heap.size;omega) fun _ hk=>.inl hk⟩) JL (fun w' hw=>by
 rintro _ rfl _ rfl _ ⟨x,y,rfl,h⟩
 exact⟨_,w',run_build _ _ _ _ (by kernel_rfl),aG.refl _,x,y,rfl,h⟩) ?_
 refine bu ?_
 intro wg1 xg1 zg1
 rintro _ rfl
 intro vg21 b20
 obtain⟨x,y,rfl,hq⟩:=b20
 obtain⟨hrG,hs3⟩:=zg1
 have hx1:=(gl hq).1
 have hy1:=(gl hq).2
 have kG:=xg1.blk k2 nX2
 obtain⟨wd,sd,qd,kd⟩:=kG.stS (P:=Tryz.prog) (t:=80) (m:=[I n1,I n2,B q.1,x,y]) rfl (by kernel_rfl) (aL.cons rfl (aL.cons rfl (aL.cons rfl (aL.cons hx1 (aL.cons hy1 aL.nil)))))
 have md:Mv (fun k=>k=g2) wg1 wd:=Mv.of_grown qd fun k hk _=>(Option.some.inj hk).symm
 refine aC JL JL sd ?_
 refine ag (ab (au ?_))
 refine dB JL JL kd Jn JL (by kernel_rfl) ?_
 exact .inl ⟨_,rfl,((Mv.of_ext e2).trans xg1 fun _ hj _=>hj).trans md fun j hj hlt=>by omega,⟨n1,n2,q⟩,x,y,s3,rfl,xN (d:=⟨n1,n2,q⟩) (hq.mv (md.weak fun j hj _=>by show j<w2.heap.size;omega) fun j hj=>.inl (by have:=e2.size;show j<w2.heap.size;omega)),hx1,hy1,hrG.mv md fun j hj=>by omega,qA,hs3⟩
end Go.Rl
namespace Go.Rl
open Go.RowKit Go.Proofs
theorem Sl.mv {X:Nat→Prop} {w w':World} {sz:Nat} {xs:List Value} {v:Value} (h:Sl sz xs v w) (hm:Mv X w w') (hx:∀k,v.ownBlock=some k→¬X k):Sl sz xs v w':=by
 obtain⟨A,n,c,rfl,h2,h3,h4,h5,h6⟩:=h
 exact⟨A,n,c,rfl,h2,h3,h4,fun hn=>(h5 hn).imp fun ad h=>⟨h.1,hm.cells h.2 fun _=>hx ad.block (by rw[h.1];rfl)⟩,h6⟩
def jB {α:Type} (b sz:Nat) (f:α→Dt) (l:List α):dl:=fun v w=>∃cs,Sl sz cs v w∧(∀k,v.ownBlock=some k→b≤k)∧aL cs∧aK (fun k=>k<b) w (l.map f) cs
theorem jB.stable {α:Type} {b sz g:Nat} {f:α→Dt} {l:List α} (hg:g<b):bR (Mv (RX g)) (jB b sz f l):=fun _ _ _ ⟨cs,h1,h2,h3,h4⟩ hm=>
 ⟨cs,h1.mv hm fun k hk hX=>by have:k=g:=hX;have:=h2 k hk;omega,h2,h3,aK.mv (hm.weak fun j hj _=>by have:j=g:=hj;show j<b;omega) (fun _ hk=>.inl hk) h4⟩
theorem aK.one {X:Nat→Prop} {w:World} {d:Dt} {cs:List Value} (h:aK X w [d] cs):cT X w d cs:=by
 simp only[aK] at h
 obtain⟨c1,c2,rfl,h1,rfl⟩:=h
 simpa using h1
theorem EP {α:Type} {P:Program} {w:World} {t e:TypeId} {z:Value} {sz bytes b:Nat} {f:α→Dt} {a:α} {cs:List Value} (ht:P.underlying t=some (.slice e)) (hi:(P.info? e).map (fun i=>(i.zero,i.size,i.bytes))=some (some z,sz,bytes)) (hzs:z.cells.size=sz) (h0:0<sz) (hsb:sz≤16777216)
 (hb:b≤w.heap.size) (h1:aL cs) (ha:cT (fun k=>k<b) w (f a) cs) (hs:(f a).size=sz):∃r w',(Instr.buildSlice t 1 (dC 0 [Value.agg cs.toArray]).toArray).run P w=.ok r w'∧aG w w'∧jB b sz f [a] r w':=by
 have hcl:cs.length=sz:=by rw[ha.len,hs]
 have hi2:(P.info? e).map (fun i=>(i.zero,i.size))=some (some z,sz):=by
  obtain⟨i,hi',h2⟩:=Option.map_eq_some_iff.1 hi
  simp only[Prod.mk.injEq] at h2
  rw[hi']
  simp[h2.1,h2.2.1]
 obtain⟨x,w0,h3,h4,h5,h6⟩:=A0 (w:=w) ht hi2 hzs h0 [cs] (by simp[hcl]) (by simp) (by simpa using hsb)
 refine⟨x,w0,by simpa using h3,h4,cs,by simpa using h5,fun k hk=>?_,h1,?_⟩
 ·rw[h6] at hk
  obtain rfl:=Option.some.inj hk
  exact hb
 ·simpa using aK.cons (b:=[]) (ha.ext h4) aK.nil
def rZ (b:Nat) (T:TypeId) (l:List Value):dl:=fun v w=>∃g5,v=.pointer (some ⟨g5,0,none⟩)∧b≤g5∧cl g5 T l w
theorem rZ.stable {b g:Nat} {T:TypeId} {l:List Value} (hg:g<b):bR (Mv (RX g)) (rZ b T l):=fun _ _ _ ⟨g5,h1,h2,h3⟩ hm=>⟨g5,h1,h2,hm.blk h3 fun h=>by have:g5=g:=h;omega⟩
theorem zE {P:Program} {w:World} {t:TypeId} {z:Value} {l:List Value} {b:Nat} (h:(P.info? t).map (·.zero)=some (some z)) (hv:z.cells=l.toArray) (hb:b≤w.heap.size):∃r w',(Instr.alloc t true (.tuple #[])).run P w=.ok r w'∧aG w w'∧rZ b t l r w':=by
 obtain⟨g,w',h1,h2,h3,h4⟩:=bc (w:=w) h hv
 exact⟨_,w',h1,h3,g,rfl,Nat.le_trans hb h2,h4⟩
theorem jC {s:Option (List UInt8)} (h:s≠none):∃l,s=some l:=by
 cases s with
 |none=>exact absurd rfl h
 |some l=>exact⟨l,rfl⟩
theorem qg {w:World} {g:Nat} {st:Option (List UInt8)} (hr:aU g st w) (hl:fI st):
 Calls Tryz.prog 148 #[.agg #[.pointer (some ⟨g,0,none⟩)]] w (kY (fun r w'=>Mv (RX g) w w'∧∃(ps:List cB) (s1:Option (List UInt8)),cT (fun k=>k<w.heap.size) w' (kU ps) [r]∧r.oneCell'=true∧aU g s1 w'∧ff vv st ps s1∧s1≠none) (fun c w'=>Mv (RX g) w w'∧tl c∧st.bind vv=none)):=by
 refine enter (vs:=[.agg #[.pointer (some ⟨g,0,none⟩)]]) Tryz.func148 JL JL JL ?_
 have hlt:g<w.heap.size:=aU.lt hr
 obtain⟨N,s0,qU,hN,cU⟩:=vD st
 refine af (aa ?_)
 obtain⟨g1,w1,hr1,l1,x1,k1⟩:=cI (P:=Tryz.prog) (w:=w) (T:=172) (cs:=[.pointer (some ⟨g,0,none⟩)])
 refine cx JL JL hr1 ?_
 have hr1:=hr.ext x1
 have e1:=x1
 have nX1:¬RX g g1:=fun h=>by have:g1=g:=h;omega
 have lt1:=k1.lt
 refine ac JL JL (ag (ab (af (aa (ac JL JL (ag (ab (af (af (aa (ah JL JL (aI (o:=0) Jt JL (by kernel_rfl) JL) ?_)))))))))))
 refine ak JL JL (ai Ju JL (k1.cell (i:=0) JL)) (am gj JL JL ((cU hr1)) ?_)
 rintro v8 w8 ⟨g8,rfl,hr8⟩
 have m8:=hr1.rdT.kp g8
 have mv8:Mv (RX g) w1 w8:=Mv.of_grown g8 fun k hk _=>(Option.some.inj hk).symm
 have k18:=mv8.blk k1 nX1
 have hl0:fI s0:=qU.atM pu.le hl
 refine an rfl rfl (bw) (an rfl rfl (bz) (iY la rfl rfl ((lf (n:=UInt64.ofNat N) (s:=s0))) (fun c a w1 ha hp=>⟨ha.defers,.inr ⟨c,rfl,by obtain⟨rfl,h2,h3⟩:=hp;exact⟨(Mv.of_ext e1).trans mv8 fun _ hj _=>hj,h2,pz (done:=([]:List cB)) (f:=Cq) qU (by rw[h3];rfl)⟩⟩⟩) ?_))
 rintro v11 _ ⟨rfl,rfl,hs0⟩
 obtain⟨l0,rfl⟩:=jC hs0
 refine ac JL JL (ag (ab (av ?_)))
 refine iU (fun(k:Nat) (v:Value) (l:List UInt8) (ps:List cB)=>[(1,.pointer (some ⟨g1,0,none⟩)),(3,v),(4,bC (UInt64.ofNat k))]) (fun(k:Nat) (v:Value) (l:List UInt8) (ps:List cB) w'=>Mv (RX g) w1 w'∧aU g (some l) w'∧gt 216 7 w1.heap.size cd ps v w'∧k<18446744073709551616∧(some l0).bind (da Cq N)=(some l).bind (fun l=>(da Cq k l).map fun p=>(ps++p.1,p.2))∧l.length+ps.length≤549755813888) (fun(k:Nat) (v:Value) (l:List UInt8) (ps:List cB)=>k) (N) (.slice none 0 0) (l0) ([]) ⟨rfl,rfl,rfl,trivial⟩ ⟨mv8,hr8,gt.nil _,hN,nD,by have:=hl0 l0 rfl;simpa using this⟩ ?_
 rintro k v l ps wL ⟨mL,hrL,oL,hk,hR,hql⟩
 refine af (af ?_)
 have hkn:(UInt64.ofNat k).toNat=k:=by rw[UInt64.toNat_ofNat'];omega
 have kL:=mL.blk k1 nX1
 have szL:=mL.size
 have hvo:v.oneCell'=true:=by obtain⟨_,_,_,rfl⟩:=oL.isS;rfl
 rcases Nat.eq_zero_or_pos k with h0|h0
 rotate_left
 ·refine aa (ae JL JL (aj (v:=bC 0) JL JL JL (dv (UInt64.lt_iff_toNat_lt.2 (by rw[hkn];exact h0)) dc) (ag (ab (bJ JL (ar (ab ?_)))))))
  refine af (av (af ?_))
  obtain⟨k',rfl⟩:∃k',k=k'+1:=⟨k-1,by omega⟩
  obtain⟨n1,sA,q1,i1,c1⟩:=nI (some l)
  obtain⟨n2,sB,q2,i2,c2⟩:=nI sA
  obtain⟨n3,sC,q3,i3,c3⟩:=nI sB
  obtain⟨n4,sD,q4,i4,c4⟩:=nI sC
  obtain⟨q,sE,q5,cR⟩:=zz sD
  have hll:fI (some l):=fun l' e=>by cases e;omega
  have fewD:fI sD:=q4.atM gC.le (q3.atM gC.le (q2.atM gC.le (q1.atM gC.le hll)))
  have qM:=zt q1 q2 q3 q4 q5
  have hpE:sE=none→st.bind vv=none:=fun e=>pC qU hR (by have h:=qM;rw[e] at h;exact h)
  have hpD:sD=none→st.bind vv=none:=fun e=>hpE (q5.none_of e)
  have hpC:sC=none→st.bind vv=none:=fun e=>hpD (q4.none_of e)
  have hpB:sB=none→st.bind vv=none:=fun e=>hpC (q3.none_of e)
  have hpA:sA=none→st.bind vv=none:=fun e=>hpB (q2.none_of e)
  have hgL:g<wL.heap.size:=by omega
  have mWL:Mv (RX g) w wL:=(Mv.of_ext e1).trans mL fun _ hj _=>hj
  refine jy 26 [1,3,4,5,40] (Mv (RX g) wL) (Mv (RX g)) true (fun c w'=>Mv (RX g) wL w'∧tl c∧st.bind vv=none) (aU g (some l)) (fg.mv _ _) (Mv.refl _ _) aU.stableZ hrL (fun c a w1 hd hp=>⟨hd,.inr ⟨c,rfl,mWL.trans hp.1 fun _ hj _=>hj,hp.2⟩⟩) (fun _=>by kernel_rfl) (by kernel_rfl) (by kernel_rfl) ?_
  refine aF JL JL (fun w hw=>aI (o:=0) Jt JL (by kernel_rfl) JL) (aD JL JL (fun w hw=>ai Ju JL ((hw.blk kL nX1).k0)) ?_)
  refine di (S:=Is (.tuple #[I n1,I (if sA.isSome=true then 0 else 5)])) (Z':=aU g sA) ib rfl (bo.is _) (aU.stableZ) rfl (fun w hw hz=>by rintro _ rfl;exact rY (c1 hz)) ?_
  refine dJ rfl rfl (fun w _=>bw) (dJ rfl rfl (fun w _=>bz) (di (S:=Is (I n1)) (Z':=aU g sA) fY rfl (bo.is _) (aU.stableZ) rfl (fun w hw hz=>by rintro _ rfl _ rfl;exact nJ hw hz hpA) ?_))
  refine aF JL JL (fun w hw=>aI (o:=0) Jt JL (by kernel_rfl) JL) (aD JL JL (fun w hw=>ai Ju JL ((hw.blk kL nX1).k0)) ?_)
  refine di (S:=Is (.tuple #[I n2,I (if sB.isSome=true then 0 else 5)])) (Z':=aU g sB) ib rfl (bo.is _) (aU.stableZ) rfl (fun w hw hz=>by rintro _ rfl;exact rY (c2 hz)) ?_
  refine dJ rfl rfl (fun w _=>bw) (dJ rfl rfl (fun w _=>bz) (di (S:=Is (I n2)) (Z':=aU g sB) fY rfl (bo.is _) (aU.stableZ) rfl (fun w hw hz=>by rintro _ rfl _ rfl;exact nJ hw hz hpB) ?_))
  refine aF JL JL (fun w hw=>aI (o:=0) Jt JL (by kernel_rfl) JL) (aD JL JL (fun w hw=>ai Ju JL ((hw.blk kL nX1).k0)) ?_)
  refine di (S:=Is (.tuple #[I n3,I (if sC.isSome=true then 0 else 5)])) (Z':=aU g sC) ib rfl (bo.is _) (aU.stableZ) rfl (fun w hw hz=>by rintro _ rfl;exact rY (c3 hz)) ?_
  refine dJ rfl rfl (fun w _=>bw) (dJ rfl rfl (fun w _=>bz) (di (S:=Is (I n3)) (Z':=aU g sC) fY rfl (bo.is _) (aU.stableZ) rfl (fun w hw hz=>by rintro _ rfl _ rfl;exact nJ hw hz hpC) ?_))
  refine aF JL JL (fun w hw=>aI (o:=0) Jt JL (by kernel_rfl) JL) (aD JL JL (fun w hw=>ai Ju JL ((hw.blk kL nX1).k0)) ?_)
  refine di (S:=Is (.tuple #[I n4,I (if sD.isSome=true then 0 else 5)])) (Z':=aU g sD) ib rfl (bo.is _) (aU.stableZ) rfl (fun w hw hz=>by rintro _ rfl;exact rY (c4 hz)) ?_
  refine dJ rfl rfl (fun w _=>bw) (dJ rfl rfl (fun w _=>bz) (di (S:=Is (I n4)) (Z':=aU g sD) fY rfl (bo.is _) (aU.stableZ) rfl (fun w hw hz=>by rintro _ rfl _ rfl;exact nJ hw hz hpD) ?_))
  refine nW (S:=Is (.agg #[I n1,I n2,I n3,I n4])) (bo.is _) rfl (fun w' hw=>by rintro _ rfl _ rfl _ rfl _ rfl;exact⟨_,w',run_build _ _ _ _ (by kernel_rfl),aG.refl _,rfl⟩) ?_
  refine qv (S:=rZ wL.heap.size 214 [I 0,I 0,I 0,I 0]) (rZ.stable hgL) JL (fun w' hw=>zE (z:=.agg #[I 0,I 0,I 0,I 0]) (by kernel_rfl) JL hw.size) ?_
  refine bu ?_
  intro wg5 xg5 zg5
  rintro _ rfl
  rintro _ hq3
  obtain rfl:=Eq.symm hq3
  rintro _ rfl
  intro vg5 b5
  rintro _ rfl
  obtain⟨g5,rfl,hg5,kG5⟩:=b5
  obtain⟨wd,sd,qd,kd⟩:=kG5.stS (P:=Tryz.prog) (t:=214) (m:=[I n1,I n2,I n3,I n4]) rfl (by kernel_rfl) (aL.cons rfl (aL.cons rfl (aL.cons rfl (aL.cons rfl aL.nil))))
  have md:Mv (fun k=>k=g5) wg5 wd:=Mv.of_grown qd fun k hk _=>(Option.some.inj hk).symm
  have hrd:aU g sD wd:=zg5.mv md fun j hj=>by omega
  have mLd:Mv (RX g) wL wd:=xg5.trans md fun j hj hlt=>by omega
  have kLd:=mLd.blk kL nX1
  have nX5:¬RX g g5:=fun h=>by have:g5=g:=h;omega
  have hgb:g<wd.heap.size:=by have:=mLd.size;omega
  have hgs:wd.heap.size≤wd.heap.size:=Nat.le_refl _
  have mWd:Mv (RX g) w wd:=mWL.trans mLd fun _ hj _=>hj
  refine aC JL JL sd ?_
  refine ag (ab (jy 10 [1,4,41,50] (Mv (RX g) wd) (Mv (RX g)) true (fun c w'=>Mv (RX g) wd w'∧tl c∧st.bind vv=none) (aU g sD) (fg.mv _ _) (Mv.refl _ _) aU.stableZ hrd (fun c a w1 hd hp=>⟨hd,.inr ⟨c,rfl,mWd.trans hp.1 fun _ hj _=>hj,hp.2⟩⟩) (fun _=>by kernel_rfl) (by kernel_rfl) (by kernel_rfl) ?_))
  refine ao JL JL (aD JL JL (fun w hw=>(hw.blk kd nX5).ld JC JL (by kernel_rfl)) (aF JL JL (fun w hw=>aI (o:=0) Jt JL (by kernel_rfl) JL) ?_))
  refine aD rfl rfl (fun w hw=>ai Ju rfl ((hw.blk kLd nX1).k0)) (di (S:=oC wd.heap.size q (if sE.isSome=true then 0 else 5)) (Z':=aU g sE) pr rfl (oC.stable hgb) (aU.stableZ) rfl (fun w hw hz=>by rintro _ rfl;exact zC (Nat.le_trans hgs hw.size) (cR fewD hz)) ?_)
  refine gS rfl (qq.stable hgb) rfl (fun w v hw hv=>by obtain⟨x,y,rfl,h⟩:=hv;exact⟨_,bw,x,y,rfl,h⟩) (gS rfl (bo.is (I (if sE.isSome=true then 0 else 5))) rfl (fun w v hw hv=>by obtain⟨x,y,rfl,h⟩:=hv;exact⟨_,bz,rfl⟩) ?_)
  refine di (S:=qq wd.heap.size q) (Z':=(fun w=>aU g sE w∧sE≠none)) nG rfl (qq.stable hgb) (gn aU.stableZ) rfl (fun w hw hz=>by rintro _ ⟨x,y,rfl,h⟩ _ rfl;exact zD hw hz h hpE) ?_
  refine nW (S:=fun v w'=>∃x y,v=.agg #[I n1,I n2,I n3,I n4,B q.1,x,y]∧cT (fun k=>k<wd.heap.size) w' (fK q) [B q.1,x,y]) (fun _ _ _ ⟨x,y,h,h2⟩ hm=>⟨x,y,h,h2.mv (hm.weak fun j hj _=>by have:j=g:=hj;show j<wd.heap.size;omega) fun _ hk=>.inl hk⟩) JL (fun w' hw=>by
 rintro _ rfl _ ⟨x,y,rfl,h⟩
 exact⟨_,w',run_build _ _ _ _ (by kernel_rfl),aG.refl _,x,y,rfl,h⟩) ?_
  refine ep (S:=jB wd.heap.size 7 cd [⟨n1,n2,n3,n4,q⟩]) (jB.stable hgb) JL (fun w' hw=>by
 rintro _ ⟨x,y,rfl,h⟩
 exact EP (cs:=[I n1,I n2,I n3,I n4,B q.1,x,y]) Jp t9 rfl (by omega) (by omega) hw.size (aL.cons rfl (aL.cons rfl (aL.cons rfl (aL.cons rfl (aL.cons rfl (aL.cons (gl h).1 (aL.cons (gl h).2 aL.nil))))))) (Cw (m:=⟨n1,n2,n3,n4,q⟩) h) (fy _)) ?_
  refine bu ?_
  intro wg6 xg6 zg6
  rintro _ rfl
  rintro _ rfl
  rintro _ hq41
  obtain rfl:=Eq.symm hq41
  intro vg50 b50
  obtain⟨hrG,hsE⟩:=zg6
  obtain⟨lE,rfl⟩:=jC hsE
  obtain⟨cs,hcs,hown,h1cs,hall⟩:=b50
  have mAll:Mv (RX g) wL wg6:=mLd.trans xg6 fun _ hj _=>hj
  have hX1:∀j,RX g j→j<w1.heap.size:=fun j hj=>by have:j=g:=hj;have:=e1.size;omega
  have oG:=oL.mv mAll hX1
  have own:∀j,v.ownBlock=some j→w1.heap.size≤j∧j<wL.heap.size:=oL.lt
  have hM:=(aK.one hall).weak (Y:=fun k=>k<w1.heap.size∨v.ownBlock=some k) fun j hj=>.inl (by
   have:=mLd.size
   rcases hj with hj|hj
   ·show j<wd.heap.size;omega
   ·have:=(own j hj).2;show j<wd.heap.size;omega)
  obtain⟨v51,w51,hr51,o51,g51⟩:=oG.app (t:=81) (ty:=81) Jp t9 rfl (by omega) (by omega) hcs h1cs hM fy (by omega) (Nat.le_trans szL mAll.size)
  have m51:Mv (fun k=>v.ownBlock=some k) wg6 w51:=Mv.of_grown g51.grown fun k hk _=>hk
  have h51:aU g (some lE) w51:=hrG.mv m51 fun j hj=>by have:=own j hj;have:=e1.size;omega
  have hlE:=AY l _ lE qM
  refine aW JL JL hr51 ?_
  refine ac JL JL (ag (aM (ab (aa (ae JL JL ?_)))))
  have ek:UInt64.ofNat (k'+1)-1=UInt64.ofNat k':=by
   refine UInt64.toNat_inj.1 ?_
   rw[UInt64.toNat_sub_of_le _ _ (UInt64.le_iff_toNat_le.2 (by rw[hkn];show 1≤_;omega)),hkn,UInt64.toNat_ofNat',show(1:UInt64).toNat=1 from rfl]
   omega
  refine aj (v:=bC 1) (r:=bC (UInt64.ofNat k')) JL JL JL ((by rw[←ek];exact dq)) (ac JL JL (ag ?_))
  refine fu (k') (v51) (lE) (ps++[⟨n1,n2,n3,n4,q⟩]) ⟨rfl,rfl,rfl,trivial⟩ ⟨(mL.trans mAll fun _ hj _=>hj).trans m51 fun j hj hlt=>by have:=(own j hj).1;omega,h51,o51,by omega,pt hR qM,by simp;omega⟩ (by omega)
 ·refine aa (ae JL JL (aj (v:=bC 0) JL JL JL (eF (fun hh=>by have:=UInt64.lt_iff_toNat_lt.1 hh;rw[hkn,h0] at this;exact absurd this (by decide)) dc) ?_))
  refine ag (ab (dI JL (aX (aA (aA (aV (ab (af (aa (ae JL JL (ac JL JL (ag (ab (au (az JL JL ?_)))))))))))))))
  exact .inl ⟨_,rfl,(Mv.of_ext e1).trans mL fun _ hj _=>hj,ps,some l,(oL.rpx fy (by omega)).weak fun j hj=>.inl (by have:=e1.size;show j<w1.heap.size;omega),hvo,hrL,py qU (by subst h0;exact hR),by simp⟩
end Go.Rl
namespace Go.Rl
open Go.RowKit Go.Proofs
section
variable {w0 w:World} {g:Nat} {s1:Option (List UInt8)} {E:Prop} {f:FuncId} {args:Array Value}
theorem chM {v:Value} {G:Prop} (hw:Mv (RX g) w0 w) (h:Calls Tryz.prog f args w (kY (fun r w'=>Mv (RX g) w w'∧r=v∧aU g s1 w'∧s1≠none∧G) (fun c w'=>Mv (RX g) w w'∧tl c∧s1=none))) (hp:s1=none→E):Calls Tryz.prog f args w (fun e w'=>(∃r,e=.returned r∧Mv (RX g) w w'∧Is v r w'∧aU g s1 w')∨∃c,e=.panicked c∧Mv (RX g) w0 w'∧tl c∧E):=by
 refine Calls.mono h fun _ _ he=>?_
 rcases he with⟨r,he,h1,h2,h3,_⟩|⟨c,he,h1,h2,h3⟩
 ·exact .inl ⟨r,he,h1,h2,h3⟩
 ·exact .inr ⟨c,he,hw.trans h1 fun _ hn _=>hn,h2,hp h3⟩
end
theorem EQ {w:World} {ad:Addr} {xs cs:List Value} {g5:Nat} {T:TypeId} (hc:dt w ad xs) (hn:xs≠[]) (hb:cl g5 T cs w) (hcs:∀u∈xs,u∉cs):ad.block≠g5:=fun he=>by
 cases xs with
 |nil=>exact hn rfl
 |cons u xs=>
  have hcell:=hc 0 u rfl
  have he:(ad.add 0).block=g5:=by rw[i6];exact he
  have:w.cell? (ad.add 0)=cs.toArray[(ad.add 0).off]? :=by
   have hs:(ad.add 0).spot=none:=World.cell?_spot hcell
   have e:ad.add 0=⟨g5,(ad.add 0).off,none⟩:=by
    cases hx:ad.add 0 with
    |mk b o s=>
     rw[hx] at hs he
     simp only at hs he
     rw[hs,he]
   rw[e]
   exact cell_of_row w g5 _ cs.toArray T (0,0) hb
  rw[hcell] at this
  have h2:cs[(ad.add 0).off]? =some u:=by simpa using this.symm
  exact hcs u (by simp) (List.mem_of_getElem? h2)
theorem xO {X:Nat→Prop} {w:World} {l:List UInt32} {v:Value} {g5:Nat} {T:TypeId} {cs:List Value} (h:cT X w (ju l) [v]) (hb:cl g5 T cs w) (hcs:∀n:UInt32,bp n∉cs):cT (fun k=>X k∨k=g5) w (ju l) [v]:=by
 unfold ju at h⊢
 simp only[cT] at h⊢
 obtain⟨A,n,c,hv,h2,h3,h4,h5,h6⟩:=h
 refine⟨A,n,c,hv,h2,h3,h4,h5,fun hp=>?_⟩
 obtain⟨ad,xs,hA,hX,hC,hall⟩:=h6 hp
 have hall2:∀(l:List UInt32) (ys:List Value),aK X w (l.map pc) ys→(∀u∈ys,∃n:UInt32,u=bp n)∧aK (fun k=>X k∨k=g5) w (l.map pc) ys:=by
  intro l
  induction l with
  |nil=>intro ys h;simp only[List.map_nil,aK] at h⊢;subst h;exact⟨fun _ h=>by simp at h,rfl⟩
  |cons a l ih=>
   intro ys h
   simp only[List.map_cons,aK] at h⊢
   obtain⟨c1,c2,rfl,h1,h2⟩:=h
   have h1':c1=[bp a]:=by simp only[pc,cT] at h1;exact h1
   refine⟨fun u hu=>?_,c1,c2,rfl,by simpa only[pc,cT] using h1,(ih _ h2).2⟩
   rcases List.mem_append.1 hu with hu|hu
   ·rw[h1'] at hu;exact⟨a,by simpa using hu⟩
   ·exact(ih _ h2).1 u hu
 obtain⟨hu,ha⟩:=hall2 l xs hall
 refine⟨ad,xs,hA,fun hn hx=>?_,hC,ha⟩
 rcases hx with hx|hx
 ·exact hX hn hx
 ·exact EQ hC hn hb (fun u hm=>by obtain⟨n,rfl⟩:=hu u hm;exact hcs n) hx
theorem ER {X:Nat→Prop} {w:World} {q:fx} {x y:Value} {g5:Nat} {T:TypeId} {cs:List Value} (h:cT X w (fK q) [B q.1,x,y]) (hb:cl g5 T cs w) (hcs:∀n:UInt32,bp n∉cs):cT (fun k=>X k∨k=g5) w (fK q) [B q.1,x,y]:=by
 have key:∀{ms:List Value},cT X w (fK q) ms→∃x y,ms=[B q.1,x,y]∧cT X w (ju q.2.1) [x]∧cT X w (ju q.2.2) [y]:=fun {ms} h=>by
  have isS:∀{l:List UInt32} {c:List Value},cT X w (ju l) c→∃v,c=[v]:=fun {l c} h=>by
   unfold ju at h
   simp only[cT] at h
   obtain⟨A,n,c,rfl,_⟩:=h
   exact⟨_,rfl⟩
  simp only[fK,cT,aK] at h
  obtain⟨_,_,rfl,rfl,c1,_,rfl,h1,c2,_,rfl,h2,rfl⟩:=h
  obtain⟨x,rfl⟩:=isS h1
  obtain⟨y,rfl⟩:=isS h2
  exact⟨x,y,rfl,h1,h2⟩
 obtain⟨x',y',he,h1,h2⟩:=key h
 simp only[List.cons.injEq,and_true] at he
 obtain⟨_,rfl,rfl⟩:=he
 simp only[fK,cT.eq_5]
 exact aK.cons (a:=[B q.1]) (bX _) (aK.cons (xO h1 hb hcs) (aK.cons (b:=[]) (xO h2 hb hcs) aK.nil))
theorem zF {w:World} {g:Nat} {st:Option (List UInt8)} (hr:aU g st w) (hl:fI st):
 Calls Tryz.prog 147 #[.agg #[.pointer (some ⟨g,0,none⟩)]] w (kY (fun r w'=>Mv (RX g) w w'∧∃(ls:List fE) (s1:Option (List UInt8)),cT (fun k=>k<w.heap.size) w' (.sl (ls.map dm)) [r]∧r.oneCell'=true∧aU g s1 w'∧ff gk st ls s1∧s1≠none) (fun c w'=>Mv (RX g) w w'∧tl c∧st.bind gk=none)):=by
 refine enter (vs:=[.agg #[.pointer (some ⟨g,0,none⟩)]]) Tryz.func147 JL JL JL ?_
 have hlt:g<w.heap.size:=aU.lt hr
 obtain⟨N,s0,qU,hN,cU⟩:=vD st
 refine af (aa ?_)
 obtain⟨g1,w1,hr1,l1,x1,k1⟩:=cI (P:=Tryz.prog) (w:=w) (T:=172) (cs:=[.pointer (some ⟨g,0,none⟩)])
 refine cx JL JL hr1 ?_
 have hr1:=hr.ext x1
 have e1:=x1
 have nX1:¬RX g g1:=fun h=>by have:g1=g:=h;omega
 have lt1:=k1.lt
 refine ac JL JL (ag (ab (af (aa (ac JL JL (ag (ab (af (af (aa (ah JL JL (aI (o:=0) Jt JL (by kernel_rfl) JL) ?_)))))))))))
 refine ak JL JL (ai Ju JL (k1.cell (i:=0) JL)) (am gj JL JL ((cU hr1)) ?_)
 rintro v8 w8 ⟨g8,rfl,hr8⟩
 have m8:=hr1.rdT.kp g8
 have mv8:Mv (RX g) w1 w8:=Mv.of_grown g8 fun k hk _=>(Option.some.inj hk).symm
 have k18:=mv8.blk k1 nX1
 have hl0:fI s0:=qU.atM pu.le hl
 refine an rfl rfl (bw) (an rfl rfl (bz) (iY la rfl rfl ((lf (n:=UInt64.ofNat N) (s:=s0))) (fun c a w1 ha hp=>⟨ha.defers,.inr ⟨c,rfl,by obtain⟨rfl,h2,h3⟩:=hp;exact⟨(Mv.of_ext e1).trans mv8 fun _ hj _=>hj,h2,pz (done:=([]:List fE)) (f:=rT) qU (by rw[h3];rfl)⟩⟩⟩) ?_))
 rintro v11 _ ⟨rfl,rfl,hs0⟩
 obtain⟨l0,rfl⟩:=jC hs0
 refine ac JL JL (ag (ab (av ?_)))
 refine iU (fun(k:Nat) (v:Value) (l:List UInt8) (ls:List fE)=>[(1,.pointer (some ⟨g1,0,none⟩)),(3,v),(4,bC (UInt64.ofNat k))]) (fun(k:Nat) (v:Value) (l:List UInt8) (ls:List fE) w'=>Mv (RX g) w1 w'∧aU g (some l) w'∧gt 147 6 w1.heap.size dm ls v w'∧k<18446744073709551616∧(some l0).bind (da rT N)=(some l).bind (fun l=>(da rT k l).map fun p=>(ls++p.1,p.2))∧l.length+ls.length≤549755813888) (fun(k:Nat) (v:Value) (l:List UInt8) (ls:List fE)=>k) (N) (.slice none 0 0) (l0) ([]) ⟨rfl,rfl,rfl,trivial⟩ ⟨mv8,hr8,gt.nil _,hN,nD,by have:=hl0 l0 rfl;simpa using this⟩ ?_
 rintro k v l ls wL ⟨mL,hrL,oL,hk,hR,hql⟩
 refine af (af ?_)
 have hkn:(UInt64.ofNat k).toNat=k:=by rw[UInt64.toNat_ofNat'];omega
 have kL:=mL.blk k1 nX1
 have szL:=mL.size
 have hvo:v.oneCell'=true:=by obtain⟨_,_,_,rfl⟩:=oL.isS;rfl
 rcases Nat.eq_zero_or_pos k with h0|h0
 rotate_left
 ·refine aa (ae JL JL (aj (v:=bC 0) JL JL JL (dv (UInt64.lt_iff_toNat_lt.2 (by rw[hkn];exact h0)) dc) (ag (ab (bJ JL (ar (ab ?_)))))))
  refine af (av (af ?_))
  obtain⟨k',rfl⟩:∃k',k=k'+1:=⟨k-1,by omega⟩
  obtain⟨n1,sA,q1,i1,c1⟩:=nI (some l)
  obtain⟨up,sB,q2,hup,cC⟩:=EO sA (most:=1) (by omega)
  obtain⟨q,sC,q3,cR⟩:=zz sB
  have hll:fI (some l):=fun l' e=>by cases e;omega
  have fewB:fI sB:=q2.atM (nE 1).le (q1.atM gC.le hll)
  have fewC:fI sC:=q3.atM vm.le fewB
  have hE:(some l).bind rT=none→st.bind gk=none:=fun h=>pC qU hR h
  have hpA:sA=none→st.bind gk=none:=fun e=>hE (EE (by have h:=q1;rw[e] at h;exact h))
  have hpB:sB=none→st.bind gk=none:=fun e=>hE (EF q1 (by have h:=q2;rw[e] at h;exact h))
  have hpC:sC=none→st.bind gk=none:=fun e=>hE (EG q1 q2 (by have h:=q3;rw[e] at h;exact h))
  have hgL:g<wL.heap.size:=by omega
  have hgb:g<wL.heap.size:=hgL
  have hgs:wL.heap.size≤wL.heap.size:=Nat.le_refl _
  have mWL:Mv (RX g) w wL:=(Mv.of_ext e1).trans mL fun _ hj _=>hj
  refine jy 17 [1,3,4,5,31] (Mv (RX g) wL) (Mv (RX g)) true (fun c w'=>Mv (RX g) wL w'∧tl c∧st.bind gk=none) (aU g (some l)) (fg.mv _ _) (Mv.refl _ _) aU.stableZ hrL (fun c a w1 hd hp=>⟨hd,.inr ⟨c,rfl,mWL.trans hp.1 fun _ hj _=>hj,hp.2⟩⟩) (fun _=>by kernel_rfl) (by kernel_rfl) (by kernel_rfl) ?_
  refine aF JL JL (fun w hw=>aI (o:=0) Jt JL (by kernel_rfl) JL) (aD JL JL (fun w hw=>ai Ju JL ((hw.blk kL nX1).k0)) ?_)
  refine di (S:=Is (.tuple #[I n1,I (if sA.isSome=true then 0 else 5)])) (Z':=aU g sA) ib rfl (bo.is _) (aU.stableZ) rfl (fun w hw hz=>by rintro _ rfl;exact rY (c1 hz)) ?_
  refine dJ rfl rfl (fun w _=>bw) (dJ rfl rfl (fun w _=>bz) (di (S:=Is (I n1)) (Z':=aU g sA) fY rfl (bo.is _) (aU.stableZ) rfl (fun w hw hz=>by rintro _ rfl _ rfl;exact nJ hw hz hpA) ?_))
  refine aD rfl rfl (fun w hw=>(hw.blk kL nX1).ld Jt rfl (by kernel_rfl)) (di (S:=Is (bC (UInt64.ofNat up))) (Z':=aU g sB) oB rfl (bo.is _) (aU.stableZ) rfl (fun w hw hz=>by rintro _ rfl _ rfl;exact chM hw (cC hz) hpB) ?_)
  refine aO (u:=bC (UInt64.ofNat up)) (r:=B (ox up)) JL JL JL (fun w _=>Ho hup) (aF JL JL (fun w hw=>aI (o:=0) Jt JL (by kernel_rfl) JL) ?_)
  refine aD rfl rfl (fun w hw=>ai Ju rfl ((hw.blk kL nX1).k0)) (di (S:=oC wL.heap.size q (if sC.isSome=true then 0 else 5)) (Z':=aU g sC) pr rfl (oC.stable hgb) (aU.stableZ) rfl (fun w hw hz=>by rintro _ rfl;exact zC (Nat.le_trans hgs hw.size) (cR fewB hz)) ?_)
  refine gS rfl (qq.stable hgb) rfl (fun w v hw hv=>by obtain⟨x,y,rfl,h⟩:=hv;exact⟨_,bw,x,y,rfl,h⟩) (gS rfl (bo.is (I (if sC.isSome=true then 0 else 5))) rfl (fun w v hw hv=>by obtain⟨x,y,rfl,h⟩:=hv;exact⟨_,bz,rfl⟩) ?_)
  refine di (S:=qq wL.heap.size q) (Z':=(fun w=>aU g sC w∧sC≠none)) nG rfl (qq.stable hgb) (gn aU.stableZ) rfl (fun w hw hz=>by rintro _ ⟨x,y,rfl,h⟩ _ rfl;exact zD hw hz h hpC) ?_
  refine nW (S:=fun v w'=>∃x y,v=.agg #[I n1,B (ox up),B q.1,x,y,.slice none 0 0]∧cT (fun k=>k<wL.heap.size) w' (fK q) [B q.1,x,y]) (fun _ _ _ ⟨x,y,h,h2⟩ hm=>⟨x,y,h,h2.mv (hm.weak fun j hj _=>by have:j=g:=hj;show j<wL.heap.size;omega) fun _ hk=>.inl hk⟩) JL (fun w' hw=>by
 rintro _ rfl _ rfl _ ⟨x,y,rfl,h⟩
 exact⟨_,w',run_build _ _ _ _ (by kernel_rfl),aG.refl _,x,y,rfl,h⟩) ?_
  refine qv (S:=rZ wL.heap.size 147 [I 0,B false,B false,.slice none 0 0,.slice none 0 0,.slice none 0 0]) (rZ.stable hgL) JL (fun w' hw=>zE (z:=.agg #[I 0,B false,B false,.slice none 0 0,.slice none 0 0,.slice none 0 0]) (by kernel_rfl) JL hw.size) ?_
  refine bu ?_
  intro wg5 xg5 zg5
  rintro _ rfl
  rintro _ hq3
  obtain rfl:=Eq.symm hq3
  rintro _ rfl
  intro vg5 b5
  intro vg31 b31
  obtain⟨hrG,hsC⟩:=zg5
  obtain⟨g5,rfl,hg5,kG5⟩:=b5
  obtain⟨x,y,rfl,hq⟩:=b31
  have hx1:=(gl hq).1
  have hy1:=(gl hq).2
  obtain⟨wd,sd,qd,kd⟩:=kG5.stS (P:=Tryz.prog) (t:=147) (m:=[I n1,B (ox up),B q.1,x,y,.slice none 0 0]) rfl (by kernel_rfl) (aL.cons rfl (aL.cons rfl (aL.cons rfl (aL.cons hx1 (aL.cons hy1 (aL.cons rfl aL.nil))))))
  have md:Mv (fun k=>k=g5) wg5 wd:=Mv.of_grown qd fun k hk _=>(Option.some.inj hk).symm
  have hrd:aU g sC wd:=hrG.mv md fun j hj=>by omega
  have mLd:Mv (RX g) wL wd:=xg5.trans md fun j hj hlt=>by omega
  have kLd:=mLd.blk kL nX1
  have nX5:¬RX g g5:=fun h=>by have:g5=g:=h;omega
  have mWd:Mv (RX g) w wd:=mWL.trans mLd fun _ hj _=>hj
  have lt5:=kd.lt
  refine aC JL JL sd ?_
  refine ag (ab (af (aa ?_)))
  refine ak JL JL (kLd.ld Jt JL (by kernel_rfl)) ?_
  refine iY qc JL JL ((qg hrd fewC)) (fun c a w1 ha hp=>⟨ha.defers,.inr ⟨c,rfl,⟨mWd.trans hp.1 fun _ hj _=>hj,hp.2.1,hE (EH q1 q2 q3 hp.2.2)⟩⟩⟩) ?_
  rintro v33 w33 ⟨m33,ps,sE,rp33,hv33,hr33,q4,hsE⟩
  have m33:=m33
  obtain⟨lE,rfl⟩:=jC hsE
  have k33:=m33.blk kd nX5
  obtain⟨we,se,qe,ke⟩:=k33.stC (P:=Tryz.prog) (t:=81) (i:=5) (v:=v33) (by kernel_rfl) hv33 (by simp)
  have ke:cl g5 147 [I n1,B (ox up),B q.1,x,y,v33] we:=ke
  have me:Mv (fun k=>k=g5) w33 we:=Mv.of_grown qe fun k hk _=>(Option.some.inj hk).symm
  have hre:aU g (some lE) we:=hr33.mv me fun j hj=>by omega
  have mAll:Mv (RX g) wL we:=(mLd.trans m33 fun _ hj _=>hj).trans me fun j hj hlt=>by omega
  have hX1:∀j,RX g j→j<w1.heap.size:=fun j hj=>by have:j=g:=hj;have:=e1.size;omega
  have oE:=oL.mv mAll hX1
  have own:∀j,v.ownBlock=some j→w1.heap.size≤j∧j<wL.heap.size:=oL.lt
  have hY:∀j,(j<w1.heap.size∨v.ownBlock=some j)→j<wL.heap.size:=fun j hj=>by
   rcases hj with hj|hj
   ·omega
   ·exact(own j hj).2
  have szd:=mLd.size
  have rqe:=((ER hq kG5 (fun n h=>by simp[bp,I,B] at h)).mv (((md.weak (Y:=fun k=>k<wL.heap.size∨k=g5) fun j hj _=>.inr hj).trans m33 fun j hj _=>.inl (by have:j=g:=hj;omega)).trans me fun j hj _=>.inr hj) fun _ hk=>.inl hk:cT (fun k=>k<wL.heap.size∨k=g5) we (fK q) [B q.1,x,y])
  have rpe:=rp33.mv (me.weak fun j hj _=>by show j<wd.heap.size;omega) fun _ hk=>.inl hk
  have hM:=EN (l:=⟨n1,ox up,q,ps⟩) (rqe.weak (Y:=fun k=>k<w1.heap.size∨v.ownBlock=some k) fun j hj=>.inl (.inl (hY j hj))) (rpe.weak fun j hj=>.inl (by have:=hY j hj;show j<wd.heap.size;omega))
  have qLm:=zu q1 q2 q3 q4
  have hlE:=AZ l _ lE qLm
  obtain⟨x37,w37,v38,w38,hr37,hr38,o38,m38,n38⟩:=oE.push (ty:=78) (t:=78) Jo EM rfl (by omega) (by omega) (by omega) (aL.cons rfl (aL.cons rfl (aL.cons rfl (aL.cons hx1 (aL.cons hy1 (aL.cons hv33 aL.nil)))))) hM dW (by omega) (Nat.le_trans szL mAll.size)
  have h38:aU g (some lE) w38:=hre.mv m38 fun j hj=>by have:=own j hj;have:=e1.size;omega
  refine ah JL JL (aI (o:=5) Jr JL (by kernel_rfl) JL) ?_
  refine aC JL JL se ?_
  refine ag (ab (aa (ae JL JL ?_)))
  refine ak JL JL (ke.ld Jr JL (by kernel_rfl)) ?_
  refine aJ (vs:=[(0,.agg #[I n1,B (ox up),B q.1,x,y,v33])]) JL JL hr37 ?_
  refine aW JL JL hr38 ?_
  refine ac JL JL (ag (aM (ab (aa (ae JL JL ?_)))))
  have ek:UInt64.ofNat (k'+1)-1=UInt64.ofNat k':=by
   refine UInt64.toNat_inj.1 ?_
   rw[UInt64.toNat_sub_of_le _ _ (UInt64.le_iff_toNat_le.2 (by rw[hkn];show 1≤_;omega)),hkn,UInt64.toNat_ofNat',show(1:UInt64).toNat=1 from rfl]
   omega
  refine aj (v:=bC 1) (r:=bC (UInt64.ofNat k')) JL JL JL ((by rw[←ek];exact dq)) (ac JL JL (ag ?_))
  refine fu (k') (v38) (lE) (ls++[⟨n1,ox up,q,ps⟩]) ⟨rfl,rfl,rfl,trivial⟩ ⟨(mL.trans mAll fun _ hj _=>hj).trans m38 fun j hj hlt=>by have:=(own j hj).1;omega,h38,o38,by omega,pt hR qLm,by simp;omega⟩ (by omega)
 ·refine aa (ae JL JL (aj (v:=bC 0) JL JL JL (eF (fun hh=>by have:=UInt64.lt_iff_toNat_lt.1 hh;rw[hkn,h0] at this;exact absurd this (by decide)) dc) ?_))
  refine ag (ab (dI JL (aX (aA (aA (aV (ab (af (aa (ae JL JL (ac JL JL (ag (ab (au (az JL JL ?_)))))))))))))))
  exact .inl ⟨_,rfl,(Mv.of_ext e1).trans mL fun _ hj _=>hj,ls,some l,(oL.rpx dW (by omega)).weak fun j hj=>.inl (by have:=e1.size;show j<w1.heap.size;omega),hvo,hrL,py qU (by subst h0;exact hR),by simp⟩
end Go.Rl
namespace Go.Rl
open Go.RowKit Go.Proofs
theorem ff.det {α:Type} {f:List UInt8→Option (α×List UInt8)} {st s s':Option (List UInt8)} {a a':α} (h:ff f st a s) (h':ff f st a' s') (hn:s≠none):a=a'∧s=s':=by
 have e:s.map (fun t=>(a,t))=s'.map fun t=>(a',t):=h.symm.trans h'
 cases s with
 |none=>exact absurd rfl hn
 |some t=>
  cases s' with
  |none=>cases e
  |some t'=>
   simp only[Option.map_some,Option.some.injEq,Prod.mk.injEq] at e
   exact⟨e.1,by rw[e.2]⟩
theorem vE (st:Option (List UInt8)):∃nd s1,ff eR st nd s1:=by
 cases h:st.bind eR with
 |none=>exact⟨.mk [] yQ [] false [],none,h⟩
 |some p=>exact⟨p.1,some p.2,h⟩
theorem jB.isS {α:Type} {b sz:Nat} {f:α→Dt} {l:List α} {v:Value} {w:World} (h:jB b sz f l v w):∃A n c,v=.slice A n c:=by
 obtain⟨cs,⟨A,n,c,rfl,_⟩,_⟩:=h
 exact⟨A,n,c,rfl⟩
theorem jB.rpx {α:Type} {b sz:Nat} {f:α→Dt} {l:List α} {v:Value} {w:World} (h:jB b sz f l v w) (hs:∀a,(f a).size=sz) (h0:0<sz):cT (fun k=>k<b) w (.sl (l.map f)) [v]:=by
 obtain⟨cs,⟨A,n,c,rfl,h2,h3,h4,h5,h6⟩,hown,h1,hall⟩:=h
 have hl:cs.length=l.length*sz:=by rw[hall.len,cz (sz:=sz) (by simp[hs]),List.length_map]
 have hn:n=l.length:=Nat.eq_of_mul_eq_mul_right h0 (h4.symm.trans hl)
 simp only[cT]
 refine⟨A,n,c,rfl,by rw[List.length_map,hn],h2,h3,h6,fun hp=>?_⟩
 obtain⟨ad,rfl,hC⟩:=h5 hp
 exact⟨ad,cs,rfl,fun _ hb=>by have:=hown ad.block rfl;omega,hC,hall⟩
theorem HW {α:Type} {P:Program} {w:World} {t e:TypeId} {z:Value} {sz bytes b:Nat} {f:α→Dt} {a1 a2:α} {c1 c2:List Value} (ht:P.underlying t=some (.slice e)) (hi:(P.info? e).map (fun i=>(i.zero,i.size,i.bytes))=some (some z,sz,bytes)) (hzs:z.cells.size=sz) (h0:0<sz) (hsb:2*sz≤16777216)
 (hb:b≤w.heap.size) (h1:aL c1) (h2:aL c2) (ha1:cT (fun k=>k<b) w (f a1) c1) (ha2:cT (fun k=>k<b) w (f a2) c2) (hs:∀a,(f a).size=sz):∃r w',(Instr.buildSlice t 2 (dC 0 [Value.agg c1.toArray,Value.agg c2.toArray]).toArray).run P w=.ok r w'∧aG w w'∧jB b sz f [a1,a2] r w':=by
 have hl1:c1.length=sz:=by rw[ha1.len,hs]
 have hl2:c2.length=sz:=by rw[ha2.len,hs]
 have hi2:(P.info? e).map (fun i=>(i.zero,i.size))=some (some z,sz):=by
  obtain⟨i,hi',h2⟩:=Option.map_eq_some_iff.1 hi
  simp only[Prod.mk.injEq] at h2
  rw[hi']
  simp[h2.1,h2.2.1]
 obtain⟨x,w0,h3,h4,h5,h6⟩:=A0 (w:=w) ht hi2 hzs h0 [c1,c2] (by simp[hl1,hl2]) (by simp) (by simpa using hsb)
 refine⟨x,w0,by simpa using h3,h4,c1++c2,by simpa using h5,fun k hk=>?_,fun u hu=>(List.mem_append.1 hu).elim (h1 u) (h2 u),?_⟩
 ·rw[h6] at hk
  obtain rfl:=Option.some.inj hk
  exact hb
 ·simpa using aK.cons (ha1.ext h4) (aK.cons (b:=[]) (ha2.ext h4) aK.nil)
def vF (b:Nat) (nd:aN):dl:=fun v w=>∃cs,v=.agg cs.toArray∧aL cs∧cT (fun k=>k<b) w (bh nd) cs
theorem vF.stable {b g:Nat} {nd:aN} (hg:g<b):bR (Mv (RX g)) (vF b nd):=fun _ _ _ ⟨cs,h,h1,h2⟩ hm=>⟨cs,h,h1,h2.mv (hm.weak fun j hj _=>by have:j=g:=hj;show j<b;omega) fun _ hk=>.inl hk⟩
def ES (g:Nat) (w:World) (st:Option (List UInt8)) (r:Value) (w':World):Prop:=
 Mv (RX g) w w'∧∃(nd:aN) (cs:List Value) (s1:Option (List UInt8)),r=.agg cs.toArray∧cT (fun k=>k<w.heap.size) w' (bh nd) cs∧aL cs∧aU g s1 w'∧ff eR st nd s1∧s1≠none
def Gy (g:Nat) (w:World) (st:Option (List UInt8)) (c:List PanicEntry) (w':World):Prop:=Mv (RX g) w w'∧tl c∧st.bind eR=none
theorem ndM {w0 w:World} {g b:Nat} {st s1:Option (List UInt8)} {nd:aN} {E:Prop} {f:FuncId} {args:Array Value} (hw:Mv (RX g) w0 w) (hb:b≤w.heap.size) (h:Calls Tryz.prog f args w (kY (ES g w st) (Gy g w st))) (q:ff eR st nd s1) (hp:st.bind eR=none→E):
 Calls Tryz.prog f args w (fun e w'=>(∃r,e=.returned r∧Mv (RX g) w w'∧vF b nd r w'∧aU g s1 w'∧s1≠none)∨∃c,e=.panicked c∧Mv (RX g) w0 w'∧tl c∧E):=by
 refine Calls.mono h fun _ _ he=>?_
 rcases he with⟨r,he,h1,nd',cs,s',h2,h3,h4,h5,h6,h7⟩|⟨c,he,h1,h2,h3⟩
 ·obtain⟨rfl,rfl⟩:=h6.det q h7
  exact .inl ⟨r,he,h1,⟨cs,h2,h4,h3.weak fun j hj=>.inl (Nat.lt_of_lt_of_le hj hb)⟩,h5,h7⟩
 ·exact .inr ⟨c,he,hw.trans h1 fun _ hn _=>hn,h2,hp h3⟩
theorem xP {w w2 wA:World} {g g2:Nat} {z cs:List Value} {nd:aN} {st s1:Option (List UInt8)} (hg:g<w.heap.size) (l2:w.heap.size≤g2) (e2:aG w w2) (k2:cl g2 83 z w2) (hz:z.length=9) (mT:Mv (RX g) w2 wA) (h1:aL cs) (rp:cT (fun k=>k<w2.heap.size) wA (bh nd) cs) (hr:aU g s1 wA) (q:ff eR st nd s1) (hs:s1≠none):
 ∃wd,(Instr.storeAt 83 (.pointer (some ⟨g2,0,none⟩)) (.agg cs.toArray)).run Tryz.prog wA=.ok () wd∧cl g2 83 cs wd∧ES g w st (.agg cs.toArray) wd:=by
 have lt2:=k2.lt
 have k2A:=mT.blk k2 (fun h=>by have:g2=g:=h;omega)
 have hc:cs.length=9:=rp.len.trans (bK nd)
 obtain⟨wd,sd,qd,kd⟩:=k2A.stS (P:=Tryz.prog) (t:=83) (m:=cs) (by omega) (by rw[hc];kernel_rfl) h1
 have md:Mv (fun k=>k=g2) wA wd:=Mv.of_grown qd fun k hk _=>(Option.some.inj hk).symm
 exact⟨wd,sd,kd,((Mv.of_ext e2).trans mT fun _ hj _=>hj).trans md fun j hj hlt=>by omega,nd,cs,s1,rfl,rp.mv (md.weak fun j hj _=>by show j<w2.heap.size;omega) fun j hj=>.inl (by have:=e2.size;show j<w2.heap.size;omega),h1,hr.mv md fun j hj=>by omega,q,hs⟩
theorem zG {w:World} {g:Nat} {st:Option (List UInt8)} {n:Nat} (ih:∀{w:World} {g:Nat} {st:Option (List UInt8)} {m:Nat},m<n→aU g st w→fI st→F3 m st→Calls Tryz.prog 112 #[.agg #[.pointer (some ⟨g,0,none⟩)]] w (kY (ES g w st) (Gy g w st))) (hr:aU g st w) (hl:fI st) (hn:F3 n st):
 Calls Tryz.prog 112 #[.agg #[.pointer (some ⟨g,0,none⟩)]] w (kY (ES g w st) (Gy g w st)):=by
 refine enter (vs:=[.agg #[.pointer (some ⟨g,0,none⟩)]]) Tryz.func112 JL JL JL ?_
 have hlt:g<w.heap.size:=aU.lt hr
 obtain⟨tag,s1,qF,htag,cC⟩:=EO st (most:=2) (by omega)
 refine af (aa ?_)
 obtain⟨g1,w1,hr1,l1,x1,k1⟩:=cI (P:=Tryz.prog) (w:=w) (T:=172) (cs:=[.pointer (some ⟨g,0,none⟩)])
 refine cx JL JL hr1 ?_
 obtain⟨g2,w2,hr2,l2,x2,k2⟩:=bc (P:=Tryz.prog) (w:=w1) (t:=83) (z:=.agg #[.slice none 0 0,I 0,I 0,B false,.slice none 0 0,.slice none 0 0,.slice none 0 0,B false,.slice none 0 0]) (l:=[.slice none 0 0,I 0,I 0,B false,.slice none 0 0,.slice none 0 0,.slice none 0 0,B false,.slice none 0 0]) (by kernel_rfl) rfl
 refine bf JL hr2 ?_
 have hr2:=hr.ext (x1.trans x2)
 have e2:=(x1.trans x2)
 have k12:=k1.ext x2
 have sz1:=x1.size
 have sz2:=e2.size
 have lt2:=k2.lt
 have nX1:¬RX g g1:=fun h=>by have:g1=g:=h;omega
 have nX2:¬RX g g2:=fun h=>by have:g2=g:=h;omega
 refine ag (ab (af (aa ?_)))
 refine ak JL JL (k12.ld Jt JL (by kernel_rfl)) ?_
 refine iY oB JL JL ((cC hr2)) (fun c a w1 ha hp=>⟨ha.defers,.inr ⟨c,rfl,⟨(Mv.of_ext e2).trans hp.1 fun _ hj _=>hj,hp.2.1,Ey (by have h:=qF;rw[hp.2.2] at h;exact h)⟩⟩⟩) ?_
 rintro v6 w6 ⟨m6,rfl,hr6,hs1,hle⟩
 have m6:=m6
 obtain⟨l1,rfl⟩:=jC hs1
 have hl1:fI (some l1):=qF.atM (nE 2).le hl
 have hn1:l1.length+1≤n:=by
  obtain⟨l0,e0,q0⟩:=qF.some
  have:=nE 2 l0 _ _ q0
  have:=hn l0 e0
  omega
 have an1:F3 (n-1) (some l1):=fun l' e=>by cases e;omega
 have k16:=m6.blk k12 nX1
 refine ac JL JL (ag (ab (af (aa (ae JL JL (aj (v:=bC 1) (r:=B (decide (tag=1))) JL JL JL ((Ho htag)) ?_))))))
 refine ak JL JL (k16.ld Jt JL (by kernel_rfl)) ?_
 refine iY zy JL JL ((zF hr6 hl1)) (fun c a w1 ha hp=>⟨ha.defers,.inr ⟨c,rfl,⟨((Mv.of_ext e2).trans m6 fun _ hj _=>hj).trans hp.1 fun _ hj _=>hj,hp.2.1,Ez qF hp.2.2⟩⟩⟩) ?_
 rintro v10 w10 ⟨m10,ls,s2,rl10,hv10,hr10,qLs,hs2⟩
 have m10:=m10
 obtain⟨lc,rfl⟩:=jC hs2
 have hl2:fI (some lc):=qLs.atM lX.le hl1
 have an2:F3 (n-1) (some lc):=qLs.atM lX.le an1
 have m210:Mv (RX g) w2 w10:=m6.trans m10 fun _ hj _=>hj
 refine bI (vs:=[(3,B (decide (tag=1))),(0,v10)]) (r:=.agg #[v10,I 0,I 0,B false,.slice none 0 0,.slice none 0 0,.slice none 0 0,B (decide (tag=1)),.slice none 0 0]) rfl rfl (by obtain⟨_,_,_,rfl⟩:=rl10.isS;exact run_build _ _ _ _ (by kernel_rfl)) ?_
 obtain⟨g4,w4,hr4,l4,x4,k4⟩:=bc (P:=Tryz.prog) (w:=w10) (t:=83) (z:=.agg #[.slice none 0 0,I 0,I 0,B false,.slice none 0 0,.slice none 0 0,.slice none 0 0,B false,.slice none 0 0]) (l:=[.slice none 0 0,I 0,I 0,B false,.slice none 0 0,.slice none 0 0,.slice none 0 0,B false,.slice none 0 0]) (by kernel_rfl) rfl
 refine bf JL hr4 ?_
 obtain⟨w5,s5,q5,k5⟩:=k4.stS (P:=Tryz.prog) (t:=83) (m:=[v10,I 0,I 0,B false,.slice none 0 0,.slice none 0 0,.slice none 0 0,B (decide (tag=1)),.slice none 0 0]) rfl (by kernel_rfl) (aL.cons hv10 (aL.cons rfl (aL.cons rfl (aL.cons rfl (aL.cons rfl (aL.cons rfl (aL.cons rfl (aL.cons rfl (aL.cons rfl aL.nil)))))))))
 have x410:=x4
 have m5:Mv (fun k=>k=g4) w4 w5:=Mv.of_grown q5 fun k hk _=>(Option.some.inj hk).symm
 have sz210:=m210.size
 have sz4:=x4.size
 have lt4:=k4.lt
 have lt5:=k5.lt
 have m105:Mv (RX g) w10 w5:=(Mv.of_ext x4).trans m5 fun j hj hlt=>by omega
 have m25:Mv (RX g) w2 w5:=m210.trans m105 fun _ hj _=>hj
 have hr5:aU g (some lc) w5:=(hr10.ext x4).mv m5 fun j hj=>by omega
 have nX4:¬RX g g4:=fun h=>by have:g4=g:=h;omega
 have rl5:cT (fun k=>k<w2.heap.size∨k=g4) w5 (.sl (ls.map dm)) [v10]:=(((rl10.weak (Y:=fun k=>k<w2.heap.size∨k=g4) fun j hj=>by
  rcases hj with hj|hj
  ·exact .inl (by have:=m6.size;show j<w6.heap.size;omega)
  ·exact .inr (by omega)).ext x4).mv (m5.weak fun j hj _=>.inr hj) fun _ hk=>.inl hk)
 have k15:=m25.blk k12 nX1
 refine aC JL JL s5 ?_
 refine ag (ab (af (af ?_)))
 by_cases ht:tag<2
 ·refine aa (ae JL JL (aj (v:=bC 2) JL JL JL (dv ((ltN htag (by omega)).2 ht) jZ) (ag (ab (bJ JL (af (aa ?_)))))))
  refine ak JL JL (k15.ld Jt JL (by kernel_rfl)) ?_
  refine iY qc JL JL ((qg hr5 hl2)) (fun c a w1 ha hp=>⟨ha.defers,.inr ⟨c,rfl,⟨((Mv.of_ext e2).trans m25 fun _ hj _=>hj).trans hp.1 fun _ hj _=>hj,hp.2.1,EA ht qF qLs hp.2.2⟩⟩⟩) ?_
  rintro v15 w15 ⟨m15,ps,s3,rp15,hv15,hr15,qP,hs3⟩
  have m15:=m15
  have k415:=m15.blk k5 nX4
  obtain⟨we,se,qe,ke⟩:=k415.stC (P:=Tryz.prog) (t:=81) (i:=8) (v:=v15) (by kernel_rfl) hv15 (by simp)
  have ke:cl g4 83 [v10,I 0,I 0,B false,.slice none 0 0,.slice none 0 0,.slice none 0 0,B (decide (tag=1)),v15] we:=ke
  have me:Mv (fun k=>k=g4) w15 we:=Mv.of_grown qe fun k hk _=>(Option.some.inj hk).symm
  have hre:aU g s3 we:=hr15.mv me fun j hj=>by omega
  have mT:Mv (RX g) w2 we:=(m25.trans m15 fun _ hj _=>hj).trans me fun j hj hlt=>by omega
  have rle:=rl5.mv ((m15.weak (Y:=fun k=>k<w2.heap.size∨k=g4) fun j hj _=>.inl (by have:j=g:=hj;omega)).trans me fun j hj _=>.inr hj) fun _ hk=>.inl hk
  have rpe:=rp15.mv (me.weak fun j hj _=>by show j<w5.heap.size;omega) fun _ hk=>.inl hk
  obtain⟨wd,sd,kd,fin⟩:=xP (st:=st) (nd:=.mk ls yQ [] (decide (tag=1)) ps) hlt (Nat.le_trans sz1 l2) e2 k2 rfl mT (aL.cons hv10 (aL.cons rfl (aL.cons rfl (aL.cons rfl (aL.cons rfl (aL.cons rfl (aL.cons rfl (aL.cons rfl (aL.cons hv15 aL.nil))))))))) (pB (rle.weak fun j hj=>.inl (.inl hj)) A2 zx (rpe.weak fun j hj=>.inl (by have:=m25.size;show j<w5.heap.size;omega))) hre (Ct ht qF qLs qP) hs3
  refine ah JL JL (aI (o:=8) Jg JL (by kernel_rfl) JL) ?_
  refine aC JL JL se ?_
  refine ag (ab (af (aa ?_)))
  refine ak JL JL (ke.ld Jg JL (by kernel_rfl)) ?_
  refine aC JL JL sd ?_
  refine ag (ab (au (ax ?_)))
  refine dB JL JL kd Jg JL (by kernel_rfl) ?_
  exact .inl ⟨_,rfl,fin⟩
 ·refine aa (ae JL JL (aj (v:=bC 2) JL JL JL (eF (mt (ltN htag (by omega)).1 ht) jZ) (ag (ab (dI JL (ar (ab (af (aa ?_)))))))))
  refine ak JL JL (k15.ld Jt JL (by kernel_rfl)) ?_
  refine iY Cx JL JL ((Cy hr5 hl2)) (fun c a w1 ha hp=>⟨ha.defers,.inr ⟨c,rfl,⟨((Mv.of_ext e2).trans m25 fun _ hj _=>hj).trans hp.1 fun _ hj _=>hj,hp.2.1,EB ht qF qLs hp.2.2⟩⟩⟩) ?_
  rintro v19 w19 ⟨m19,d,x,y,s3,rfl,rd19,hx,hy,hr19,qD,hs3⟩
  have m19:=m19
  have k419:=m19.blk k5 nX4
  obtain⟨we,se,qe,ke⟩:=k419.stO (P:=Tryz.prog) (t:=80) (m:=[I d.kd,I d.ix,B d.at_.1,x,y]) 1 (by simp) (by kernel_rfl) (aL.cons rfl (aL.cons rfl (aL.cons rfl (aL.cons hx (aL.cons hy aL.nil)))))
  have ke:cl g4 83 [v10,I d.kd,I d.ix,B d.at_.1,x,y,.slice none 0 0,B (decide (tag=1)),.slice none 0 0] we:=ke
  have me:Mv (fun k=>k=g4) w19 we:=Mv.of_grown qe fun k hk _=>(Option.some.inj hk).symm
  have hre:aU g s3 we:=hr19.mv me fun j hj=>by omega
  have mT:Mv (RX g) w2 we:=(m25.trans m19 fun _ hj _=>hj).trans me fun j hj hlt=>by omega
  have rle:=rl5.mv ((m19.weak (Y:=fun k=>k<w2.heap.size∨k=g4) fun j hj _=>.inl (by have:j=g:=hj;omega)).trans me fun j hj _=>.inr hj) fun _ hk=>.inl hk
  have rde:=rd19.mv (me.weak fun j hj _=>by show j<w5.heap.size;omega) fun _ hk=>.inl hk
  have rde:cT (fun k=>k<w2.heap.size∨k=g4) we (fF d) [I d.kd,I d.ix,B d.at_.1,x,y]:=rde.weak fun j hj=>.inl (by
   have:=m25.size
   rcases hj with hj|hj
   ·show j<w5.heap.size;omega
   ·show j<w5.heap.size;omega)
  have eT:decide (tag=1)=false:=decide_eq_false (by omega)
  have k1e:=mT.blk k12 nX1
  obtain⟨na,s4,qa⟩:=vE s3
  obtain⟨nb,s6,qb⟩:=vE s4
  have hl3:fI s3:=qD.atM rU.le hl2
  have an3:F3 (n-1) s3:=qD.atM rU.le an2
  have hl4:fI s4:=qa.atM vy.le hl3
  have an4:F3 (n-1) s4:=qa.atM vy.le an3
  have hgb:g<we.heap.size:=by have:=mT.size;omega
  have hpa:s3.bind eR=none→st.bind eR=none:=fun e=>EC ht qF qLs qD e
  have hpb:s4.bind eR=none→st.bind eR=none:=fun e=>ED ht qF qLs qD qa e
  refine ah JL JL (aI (o:=1) Jg JL (by kernel_rfl) JL) ?_
  refine aC JL JL se ?_
  refine ag (ab (af (jy 6 [2,4,25,26] (Mv (RX g) we) (Mv (RX g)) true (fun c w'=>Mv (RX g) we w'∧tl c∧st.bind eR=none) (aU g s3) (fg.mv _ _) (Mv.refl _ _) aU.stableZ hre (fun c a w1 hd hp=>⟨hd,.inr ⟨c,rfl,((Mv.of_ext e2).trans mT fun _ hj _=>hj).trans hp.1 fun _ hj _=>hj,hp.2⟩⟩) (fun _=>by kernel_rfl) (by kernel_rfl) (by kernel_rfl) ?_)))
  refine aD rfl rfl (fun w hw=>(hw.blk k1e nX1).ld Jt rfl (by kernel_rfl)) (di (S:=vF we.heap.size na) (Z':=(fun w=>aU g s4 w∧s4≠none)) nH rfl (vF.stable hgb) (gn aU.stableZ) rfl (fun w hw hz=>by rintro _ rfl;exact ndM hw hw.size (ih (m:=n-1) (by omega) hz hl3 an3) qa hpa) ?_)
  refine aD rfl rfl (fun w hw=>(hw.blk k1e nX1).ld Jt rfl (by kernel_rfl)) (di (S:=vF we.heap.size nb) (Z':=(fun w=>aU g s6 w∧s6≠none)) nH rfl (vF.stable hgb) (gn aU.stableZ) rfl (fun w hw hz=>by rintro _ rfl;exact ndM hw hw.size (ih (m:=n-1) (by omega) hz.1 hl4 an4) qb hpb) ?_)
  refine ep (S:=jB we.heap.size 9 bh [na,nb]) (jB.stable hgb) JL (fun w' hw=>by
 rintro _ ⟨ca,rfl,ha1,ha2⟩ _ ⟨cb,rfl,hb1,hb2⟩
 exact HW Jk pA rfl (by omega) (by omega) hw.size ha1 hb1 ha2 hb2 bK) ?_
  refine aF JL JL (fun w hw=>aI (o:=6) Jg JL (by kernel_rfl) JL) (bu ?_)
  intro wg7 xg7 zg7
  rintro _ rfl
  rintro _ rfl
  intro vg25 b25
  rintro _ rfl
  obtain⟨hrG,hs6⟩:=zg7
  have hv25:vg25.oneCell'=true:=by obtain⟨_,_,_,rfl⟩:=b25.isS;rfl
  have kG:=xg7.blk ke nX4
  obtain⟨wf,sf,qf,kf⟩:=kG.stC (P:=Tryz.prog) (t:=23) (i:=6) (v:=vg25) (by kernel_rfl) hv25 (by simp)
  have kf:cl g4 83 [v10,I d.kd,I d.ix,B d.at_.1,x,y,vg25,B (decide (tag=1)),.slice none 0 0] wf:=kf
  have mf:Mv (fun k=>k=g4) wg7 wf:=Mv.of_grown qf fun k hk _=>(Option.some.inj hk).symm
  have hrf:aU g s6 wf:=hrG.mv mf fun j hj=>by omega
  have mW:Mv (RX g) w2 wf:=(mT.trans xg7 fun _ hj _=>hj).trans mf fun j hj hlt=>by omega
  have mK:Mv (fun k=>k<w2.heap.size∨k=g4) we wf:=(xg7.weak fun j hj _=>.inl (by have:j=g:=hj;omega)).trans mf fun j hj _=>.inr hj
  have rlf:=rle.mv mK fun _ hk=>.inl hk
  have rdf:=rde.mv mK fun _ hk=>.inl hk
  have lte:=ke.lt
  have rkf:=(b25.rpx bK (by omega)).mv (mf.weak fun j hj _=>by show j<we.heap.size;omega) fun _ hk=>.inl hk
  obtain⟨wd,sd,kd,fin⟩:=xP (st:=st) (nd:=.mk ls d [na,nb] (decide (tag=1)) []) hlt (Nat.le_trans sz1 l2) e2 k2 rfl mW (aL.cons hv10 (aL.cons rfl (aL.cons rfl (aL.cons rfl (aL.cons hx (aL.cons hy (aL.cons hv25 (aL.cons rfl (aL.cons rfl aL.nil))))))))) (pB (rlf.weak fun j hj=>.inl (.inl hj)) (rdf.weak fun j hj=>.inl (.inl hj)) (rkf.weak fun j hj=>.inl (by have:=mT.size;show j<we.heap.size;omega)) zx) hrf (by rw[eT];exact zv ht qF qLs qD qa qb) hs6
  refine aC JL JL sf ?_
  refine ag (ab (af (aa ?_)))
  refine ak JL JL (kf.ld Jg JL (by kernel_rfl)) ?_
  refine aC JL JL sd ?_
  refine ag (ab (au ?_))
  refine dB JL JL kd Jg JL (by kernel_rfl) ?_
  exact .inl ⟨_,rfl,fin⟩
theorem zH:∀(n:Nat) {w:World} {g:Nat} {st:Option (List UInt8)},aU g st w→fI st→F3 n st→Calls Tryz.prog 112 #[.agg #[.pointer (some ⟨g,0,none⟩)]] w (kY (ES g w st) (Gy g w st)):=by
 intro n
 induction n using Nat.strongRecOn with
 |_ n ih=>exact fun hr hl hn=>zG (n:=n) (fun {w g st m} hm h1 h2 h3=>ih m hm h1 h2 h3) hr hl hn
end Go.Rl
namespace Go.Rl
open Go.RowKit Go.Proofs
theorem Gz {P:Program} {Q:eG} {N:Nat} {D:List Deferred} {l:Fr} {w:World} {c:Code} {a:Act} (ha:At N D l a) (h:cD P Q N D l w c):c.wp P Q a w:=h a ha
theorem ET {P:Program} {w:World} {t u:TypeId} {ms} {x y:Operand} {v:Value} (ht:P.underlying t=some (.interface ms)):(bin .neq t x y (.iface u v) .nilIface).run P w=.ok (B true) w:=by
 have h:(Op.equal t (.iface u v) .nilIface).run P w=.ok false w:=by
  show(Op.equalIn (9999+1) t (.iface u v) .nilIface).run P w=_
  unfold Op.equalIn
  simp[run_underlying ht]
 show(do pure (Value.bool (!(←Op.equal t (.iface u v) .nilIface))):Sem Value).run P w=_
 rw[Sem.run_bind,h];rfl
theorem IT {P:Program} {w:World} {t T:TypeId} {fs:Array Field} {v:Value} (h:P.underlying T=some (.struct fs)):(Instr.typeAssert (.iface T v) t T true).run P w=.ok (.tuple #[v,B true]) w:=by
 simp[Instr.typeAssert,run_underlying h,B]
theorem zI {w:World} {g2 g3:Nat}:
 CallsD Tryz.prog 108 #[.pointer (some ⟨g2,0,none⟩),.pointer (some ⟨g3,0,none⟩)] .returning w fun e u' w'=>e=.returned (.tuple #[])∧u'=.returning∧w'=w:=by
 refine callsD_of_wpS Tryz.func108 JL fun c₀ cs hu=>?_
 apply wpS_seq
 apply wpS_region
 simp[wpOpsS,go_sem,recoverD,hu,Exit.thenS]
 apply wpS_seq
 apply wpS_region
 simp[wpOpsS,go_sem,Exit.thenS]
 refine wpS_cond (t:=false) (by simp[Act.eval,Array.replicate]) ?_
 simp only[Bool.false_eq_true,if_false]
 refine wpS_of_wp (wp_skip ?_)
 cases c₀
 simp_all [bodyPostS,results]
theorem Cz {w:World} {g2 g3:Nat} {v2 v3:Value} (k2:cl g2 23 [v2] w) (k3:cl g3 29 [v3] w) (hne:g2≠g3):
 CallsD Tryz.prog 108 #[.pointer (some ⟨g2,0,none⟩),.pointer (some ⟨g3,0,none⟩)] (.panicking [{v:=It,recovered:=false}]) w fun e u' w'=>e=.returned (.tuple #[])∧u'=.panicking [{v:=It,recovered:=true}]∧Mv (fun k=>k=g2∨k=g3) w w'∧cl g2 23 [.slice none 0 0] w'∧cl g3 29 [I 5] w':=by
 refine callsD_of_wpS Tryz.func108 JL fun c₀ cs hu=>?_
 apply wpS_seq
 apply wpS_region
 simp[wpOpsS,go_sem,recoverD,hu,Exit.thenS,It]
 refine wpS_of_wp ?_
 refine Gz (N:=16) (D:=[]) (l:=[(0,.pointer (some ⟨g2,0,none⟩)),(1,.pointer (some ⟨g3,0,none⟩)),(2,.iface 167 (.agg #[]))]) ⟨by simp,rfl,fun t v h=>?_⟩ ?_
 ·rcases t with _|_|_|t
  ·simpa [lk] using h
  ·simpa [lk] using h
  ·simpa [lk] using h
  ·simp[lk,Nat.beq] at h
 obtain⟨g5,w5,hr5,l5,x5,k5⟩:=bc (P:=Tryz.prog) (w:=w) (t:=167) (z:=.agg #[]) (l:=[]) (by kernel_rfl) rfl
 obtain⟨w6,s6,q6,k6⟩:=k5.stS (P:=Tryz.prog) (t:=167) (m:=[]) rfl (by kernel_rfl) aL.nil
 have x6:aG w w6:=aG.of_new x5 q6 l5
 obtain⟨w7,s7,q7,k7⟩:=(k2.ext x6).stC (P:=Tryz.prog) (t:=23) (i:=0) (v:=.slice none 0 0) (by kernel_rfl) rfl (by simp)
 obtain⟨w8,s8,q8,k8⟩:=((k3.ext x6).other q7 (fun e=>hne (Option.some.inj e).symm)).stC (P:=Tryz.prog) (t:=29) (i:=0) (v:=I 5) (by kernel_rfl) rfl (by simp)
 have k78:=k7.other q8 (fun e=>hne (Option.some.inj e))
 have m7:Mv (fun k=>k=g2∨k=g3) w w7:=(Mv.of_ext x6).trans (Mv.of_grown q7 fun k hk _=>.inl (Option.some.inj hk).symm) fun _ hj _=>hj
 have m8:Mv (fun k=>k=g2∨k=g3) w w8:=m7.trans (Mv.of_grown q8 fun k hk _=>.inr (Option.some.inj hk).symm) fun _ hj _=>hj
 refine af (aa (ae JL JL (aj (r:=B true) JL JL JL (ET Tryz.underlying20) (ag (ab (bJ JL ?_))))))
 refine af (af (aa (ae JL JL (uM (r:=.tuple #[.agg #[],B true]) (f:=fun v=>Instr.typeAssert v 20 167 true) (fun _=>rfl) JL JL (IT JG) (ae JL JL (an JL JL bw (an JL JL bz (bf JL hr5 ?_))))))))
 refine aC JL JL s6 (ac JL JL (ag (ab (af (aa (ae JL JL (bB JL JL bF (ag (ab (dI JL (ar (ab ?_))))))))))))
 refine aa (aC JL JL s7 (aC JL JL s8 (ag fun a ha=>?_)))
 exact⟨ha.defers,.panicking [{v:=It,recovered:=true}],rfl,.tuple #[],by simp[results],rfl,rfl,m8,k78,k8⟩
end Go.Rl
namespace Go.Rl
open Go.RowKit Go.Proofs
section
variable {P:Program} {Q:eG} {N:Nat} {D:List Deferred} {l:Fr} {w:World} {ops:Array Oper} {rest:List Oper} {ty:TypeId} {pos:String} {aft:Array Edge}
theorem HX {f:FuncId} {fn:Func} {c:Code} {vs:List Value} {R:Ending→World→Prop} (hf:P.funcs[f]? =some fn) (hb:fn.body=some c) (hN:fn.ntmps=N) (hle:Nat.ble vs.length N=true)
 (h:cD P (bodyPostD P fn R) N [] (dC 0 vs) w c):Calls P f vs.toArray w R:=by
 have hle':vs.length≤N:=by simpa using hle
 refine calls_of_wp_defers hf hb (h _ ⟨?_,rfl,fun t v ht=>?_⟩)
 ·simp[hN];omega
 ·obtain⟨_,h2⟩:=mD vs 0 t v ht
  have h2':vs[t]? =some v:=by simpa using h2
  have hlt:t<vs.length:=by
   rcases Nat.lt_or_ge t vs.length with h|h
   ·exact h
   ·rw[List.getElem?_eq_none h] at h2';cases h2'
  rw[List.getElem?_eq_getElem hlt] at h2'
  simpa [Array.getElem?_append,hlt] using h2'
theorem GA {x:Operand} {fn:Fn} {fs cap:Array Value} (hx:ev l x=some (.func fn fs cap)) (k:bT P ops Q N (⟨.fn fn cap,fs⟩::D) l w rest):
 bT P ops Q N D l w (⟨none,.defer {callee:=.value x,args:=#[],argTypes:=#[]},ty,pos,aft,none⟩::rest):=fun a ha=>by
 have hr:(execOp a.eval ⟨none,.defer {callee:=.value x,args:=#[],argTypes:=#[]},ty,pos,aft,none⟩).run P w=.ok (.defer ⟨.fn fn cap,fs⟩) w:=by
  have e:a.eval x=.func fn fs cap:=ha.ev hx
  simp[execOp,resolve,e,Deferred.ofValue]
 unfold wpList
 rw[if_pos (by rfl)]
 refine .inl ?_
 unfold Oper.wp
 rw[hr]
 refine k _ ⟨ha.size,?_,ha.at_⟩
 show _::a.defers=_
 rw[ha.defers]
theorem oD {t:TypeId} {d:TypeDesc} {a:Addr} {v:Value} (ht:P.underlying t=some d) (hd:(match d with|.struct _|.array _ _=>true|_=>false)=false) (hc:w.cell? a=some v):(loadVar t a).run P w=.ok v w:=by
 have:=ai (P:=P) (t:=t) ht hd hc
 simpa [Instr.loadAt,Instr.sureAddr] using this
theorem tu {fn:Func} {p q:Tmp} {t u:TypeId} {tmps:Array Value} {a b:Addr} {v v2:Value} (h:fn.results= #[.cell p t,.cell q u]) (hp:tmps.getD p undef=.pointer (some a)) (hq:tmps.getD q undef=.pointer (some b))
 (l1:(loadVar t a).run P w=.ok v w) (l2:(loadVar u b).run P w=.ok v2 w):(results fn tmps).run P w=.ok (.tuple #[v,v2]) w:=by
 simp only[results,h]
 simp only[Array.getD_eq_getD_getElem?] at hp hq
 simp[Sem.run_bind,Result.andThen,hp,hq,l1,l2,asAddr]
end
theorem zJ:aw Tryz.prog 108:=⟨_,Tryz.func108,by kernel_rfl,rfl⟩
def qK (g2 g3:Nat):Deferred:=⟨.fn (.func 108) #[.pointer (some ⟨g2,0,none⟩),.pointer (some ⟨g3,0,none⟩)],#[]⟩
theorem qh {w:World} {g2 g3:Nat}:(invoke (.fn (.func 108) #[.pointer (some ⟨g2,0,none⟩),.pointer (some ⟨g3,0,none⟩)]) #[]).run Tryz.prog w=.ok (.enter 108 #[.pointer (some ⟨g2,0,none⟩),.pointer (some ⟨g3,0,none⟩)]) w:=by
 simp only[invoke,en zJ,Array.empty_append]
section
variable {fn:Func} {R:Ending→World→Prop} {tmps:Array Value} {w:World} {g2 g3:Nat} {v2 v3:Value}
theorem ua (hr:fn.results= #[.cell 2 23,.cell 3 29]) (h2:tmps.getD 2 undef=.pointer (some ⟨g2,0,none⟩)) (h3:tmps.getD 3 undef=.pointer (some ⟨g3,0,none⟩)) (k2:cl g2 23 [v2] w) (k3:cl g3 29 [v3] w):(results fn tmps).run Tryz.prog w=.ok (.tuple #[v2,v3]) w:=
 tu hr h2 h3 (oD Jk rfl k2.k0) (oD Tryz.underlying29 rfl k3.k0)
theorem CA (hr:fn.results= #[.cell 2 23,.cell 3 29]) (h2:tmps.getD 2 undef=.pointer (some ⟨g2,0,none⟩)) (h3:tmps.getD 3 undef=.pointer (some ⟨g3,0,none⟩)) (k2:cl g2 23 [v2] w) (k3:cl g3 29 [v3] w) (h:R (.returned (.tuple #[v2,v3])) w):
 Leaves Tryz.prog fn tmps R [qK g2 g3] .returning w:=by
 refine leaves_cons (f:=108) (by simp) qh (CallsD.mono zI ?_)
 rintro e u' w' ⟨rfl,rfl,rfl⟩
 exact⟨_,ua hr h2 h3 k2 k3,h⟩
theorem CB {c:List PanicEntry} (hc:tl c) (hne:g2≠g3) (hr:fn.results= #[.cell 2 23,.cell 3 29]) (h2:tmps.getD 2 undef=.pointer (some ⟨g2,0,none⟩)) (h3:tmps.getD 3 undef=.pointer (some ⟨g3,0,none⟩)) (k2:cl g2 23 [v2] w) (k3:cl g3 29 [v3] w)
 (h:∀w',Mv (fun k=>k=g2∨k=g3) w w'→R (.returned (.tuple #[.slice none 0 0,I 5])) w'):Leaves Tryz.prog fn tmps R [qK g2 g3] (.panicking c) w:=by
 have hc:c=[{v:=It,recovered:=false}]:=hc
 subst hc
 refine leaves_cons (f:=108) (by simp) qh (CallsD.mono (Cz k2 k3 hne) ?_)
 rintro e u' w' ⟨rfl,rfl,h5,h6,h7⟩
 exact⟨_,ua hr h2 h3 h6 h7,h w' h5⟩
end
end Go.Rl
namespace Go.Rl
open Go.RowKit
section
variable {P:Program} {ops:Array Oper} {Q:eG} {N:Nat} {D:List Deferred} {Env:World→Prop} {Rl:World→World→Prop} {mo:Bool} {Pn:List PanicEntry→World→Prop}
theorem GB {o:Oper} {a:Act} {w:World} {K:Act→World→Prop} (h:o.wp P a w K (gJ Q)):o.wp P a w K Q:=by
 unfold Oper.wp at*
 generalize (execOp a.eval o).run P w=r at*
 cases r with
 |ok n w'=>
  cases n<;>simp only[Oper.upon] at h⊢ <;>try exact h
  case enter f args=>
   refine Calls.mono h fun e w'' he=>?_
   cases e with
   |returned u=>exact he
   |panicked c=>obtain⟨he,_⟩:=he;cases he
   |outgrown=>obtain⟨_,_,he,_⟩:=he;cases he
 |halt x w'=>
  cases x<;>simp only[Oper.upon] at h⊢
  case panic u=>obtain⟨he,_⟩:=h;cases he
theorem GC {i:Nat} {a:Act} {w:World} {K:Act→World→Prop} (h:wpOp P ops (gJ Q) i K a w):wpOp P ops Q i K a w:=by
 unfold wpOp at*
 split
 ·simpa [*] using h
 ·rename_i o ho
  simp only[ho] at h
  split
  ·rename_i hw
   rw[if_pos hw] at h
   rcases h with h|h
   ·exact .inl (GB h)
   ·exact absurd h.2 rX
  ·rename_i hw
   rw[if_neg hw] at h
   exact h
theorem xQ:∀(g:Nat) (listed:Array Bool) (a:Act) (w:World),wpAny P .any ops (gJ Q) g listed a w→wpAny P .any ops Q g listed a w
 |0,_,_,_,h=>⟨h.1,h.2.2⟩
 |g+1,_,_,_,h=>⟨fun e=>(h.1 e).2,fun i hi=>GC (wpOp_mono (fun a' w' h'=>xQ g _ a' w' h') (h.2 i hi))⟩
def xR (ops:Array Oper) (n:Nat) (E:Array Bool):Nat→Nat→Array Bool→Bool
 |0,_,listed=>decide (listed=E)&&(Region.ready .any ops listed).all fun j=>decide (n≤j)
 |f+1,k,listed=>(Region.ready .any ops listed).contains k&&Region.free .any ops listed k&&xR ops n E f (k+1) (listed.setIfInBounds k true)
theorem qi {n:Nat} {E:Array Bool} {Lq:cm→ij→Prop} (hcalls:mo=true→fJ .any ops=true) (hs:Region.sinkB .any ops n=true) (hc:jN ops n=true):
 ∀(l:List Oper) (k:Nat) (listed:Array Bool) (F:cm) (Z:ij),(∀j,j<l.length→l[j]? =ops[k+j]?)→k+l.length=n→HeadInv .any ops n listed→
 xR ops n E l.length k listed=true→(∀t,bR Rl (F t))→cw Z→eQ P ops Env Rl mo Pn N l F Z Lq→
 fV P .any ops Env Rl mo Pn N n (fun listed' F' Z'=>(listed'=E∧(Region.ready .any ops listed').all (fun j=>decide (n≤j))=true)∧Lq F' Z') l.length listed F Z
 |[],k,listed,F,Z,_,hk,_,hB,_,_,h=>by
  simp only[List.length_nil,xR,Bool.and_eq_true,decide_eq_true_eq] at hB
  exact⟨hB,h⟩
 |o::l,k,listed,F,Z,hl,hk,inv,hB,hF,hZ,h=>by
  have h0:ops[k]? =some o:=by simpa using(hl 0 (by simp)).symm
  simp only[List.length_cons,xR,Bool.and_eq_true] at hB
  obtain⟨⟨hr,hf⟩,hB'⟩:=hB
  have hkn:k<n:=by simp only[List.length_cons] at hk;omega
  have hr':k∈Region.ready .any ops listed:=by simpa using hr
  obtain⟨S,Z',hspec,hrest⟩:=h hF hZ
  exact nh h0 hcalls hs hc hkn (fun listed' F' Z' hL j hj=>by simpa using List.all_eq_true.1 hL.1.2 j hj) l.length listed F Z Z' inv (Region.free_spec h0 hf) hr' hspec
   (qi hcalls hs hc l (k+1) _ _ _ (fun j hj=>by have:=hl (j+1) (by simp;omega);simpa [Nat.add_assoc,Nat.add_comm 1 j] using this) (by simp only[List.length_cons] at hk;omega) (inv.set hr' hkn) hB' (gQ hF hspec.stable) (hspec.zst hZ) hrest)
def EU (ops:Array Oper) (n:Nat) (E:Array Bool):Bool:=
 decide (n<ops.size)&&Region.sinkB .any ops n&&jN ops n&&xR ops n E n 0 (Array.replicate ops.size false)
theorem GD {l:Fr} {w:World} {id:Nat} {os:List Oper} (n:Nat) (ts:List Nat) (l0:List (Nat×Value)) (E:Array Bool) (Env:World→Prop) (Rl:World→World→Prop) (mo:Bool) (Pn:List PanicEntry→World→Prop) (Z:ij) (hE:fg Env Rl) (he:Env w) (hZ:cw Z) (hz:Z w) (hsub:F7 l0 l) (hkb:Au (os.take n) l0=true) (hP:∀c a w,a.tmps.size=N→a.defers=D→gw l0 a→Pn c w→Q (.panic c) a w) (hcalls:mo=true→fJ .any os.toArray=true) (hm:P.follows .mixedOrders=true) (hB:EU os.toArray n E=true)
 (h:eQ P os.toArray Env Rl mo Pn N (os.take n) (nV l) Z (fun F Z=>∀w',Env w'→Z w'→ga F w' ts (fun l'=>et P os.toArray Q N D (fun _=>True) (os.length-n) E l' w'))):cD P Q N D l w (.region id os.toArray true):=fun a ha=>by
 have hdr:aG w {w with drawn:=w.drawn+1}:=⟨rfl,rfl,rfl,Nat.le_refl _,fun _ _=>rfl⟩
 simp only[EU,Bool.and_eq_true,decide_eq_true_eq] at hB
 obtain⟨⟨⟨hn,hs⟩,hc⟩,hlex⟩:=hB
 have hn':n<os.length:=by simpa using hn
 have htl:(os.take n).length=n:=by simp;omega
 have inv0:HeadInv .any os.toArray n (Array.replicate os.toArray.size false):=
  ⟨by simp,fun j oj _ hl=>(by rw[getD_replicate_false] at hl;cases hl),fun t _ ht=>getD_in (by simpa using ht) (getD_replicate_false _ _)⟩
 have H:=qi (E:=E) hcalls hs hc (os.take n) 0 _ _ _ (fun j hj=>by
  have hj':j<n:=by rw[htl] at hj;exact hj
  simp[hj']) (by simpa using htl) inv0 (by rw[htl];exact hlex) (ey l) hZ h
 refine wp_region_any hm ?_
 have hd0:=qT hkb
 have:=eJ (D:=D) (Q':=Q) (l0:=l0) (g:=os.length-n) hE hP (fun i o hin ho=>hd0 o (List.mem_of_getElem? (i:=i) (by rw[List.getElem?_take_of_lt hin];simpa using ho))) (fun listed F Z hL hF hZ a' w' he hsat hz=>by
  obtain⟨⟨rfl,_⟩,hK⟩:=hL
  obtain⟨l',hl',hk⟩:=ga.use hsat (hK w' he hz)
  exact xQ _ _ _ _ (wpAny_of_held _ _ _ _ (hk a' hl'))) _ _ _ _ H (ey l) hZ a {w with drawn:=w.drawn+1} (hE.keep _ _ he (hE.ext _ _ hdr)) (EJ ha) (gw.of hsub ha) (hZ _ _ hz hdr)
 rw[htl,show n+(os.length-n)=os.toArray.size by simp;omega] at this
 exact this
end
end Go.Rl
namespace Go.Rl
open Go.RowKit
theorem aK.split {X:Nat→Prop} {w:World}:∀{l m:List Dt} {cs:List Value},aK X w (l++m) cs→∃a b,cs=a++b∧aK X w l a∧aK X w m b
 |[],m,cs,h=>⟨[],cs,rfl,aK.nil,h⟩
 |d::l,m,cs,h=>by
  simp only[List.cons_append,aK] at h
  obtain⟨c1,c2,rfl,h1,h2⟩:=h
  obtain⟨a,b,rfl,h3,h4⟩:=aK.split (l:=l) h2
  exact⟨c1++a,b,by simp,aK.cons h1 h3,h4⟩
theorem gt.stLast {α:Type} {P:Program} {t e:TypeId} {sz base:Nat} {f:α→Dt} {l:List α} {z:α} {v:Value} {w:World} (ht:P.underlying t=some (.slice e)) (hi:(P.info? e).map (·.size)=some sz) (h0:0<sz) (hs:∀a,(f a).size=sz)
 (h:gt e sz base f (l++[z]) v w) {a:α} {cs:List Value} (h1:aL cs) (ha:cT (fun k=>k<base∨v.ownBlock=some k) w (f a) cs):
 ∃p,(∀w':World,(Instr.indexAt t v (I (l.length:Int))).run P w'=.ok p w')∧∃w1,(Instr.storeAt e p (.agg cs.toArray)).run P w=.ok () w1∧Mv (fun k=>v.ownBlock=some k) w w1∧gt e sz base f (l++[a]) v w1:=by
 obtain⟨n,xs,hO,hX⟩:=h
 rw[List.map_append] at hX
 obtain⟨x1,x2,rfl,hx1,hx2⟩:=aK.split hX
 have hl1:x1.length=l.length*sz:=by rw[hx1.len,cz (sz:=sz) (by simp[hs]),List.length_map]
 have hl2:x2.length=sz:=by
  have:=hx2.len
  rw[this,cz (sz:=sz) (by simp[hs])]
  simp
 have hcl:cs.length=sz:=by rw[ha.len,hs]
 have hn:n=l.length+1:=Nat.eq_of_mul_eq_mul_right h0 (by
  have:=hO.1
  rw[List.length_append,hl1,hl2] at this
  rw[Nat.add_mul,Nat.one_mul]
  exact this.symm)
 subst hn
 rcases hO.2 with⟨_,h3⟩|⟨g,cap,cur,rfl,hb,hg,hle,hm,hsz,htk⟩
 ·omega
 have hcap:(l.length+1)*sz≤cap*sz:=Nat.mul_le_mul_right _ hle
 have hbnd:l.length*sz+sz≤cur.size:=by rw[hsz];rw[Nat.add_mul,Nat.one_mul] at hcap;exact hcap
 have htk1:cur.toList.take (l.length*sz)=x1:=by
  have h2:=congrArg (List.take (l.length*sz)) htk
  rw[List.take_take,Nat.min_eq_left (by rw[Nat.add_mul];omega),List.take_left' hl1] at h2
  exact h2
 have md:Mv (fun k=>(Value.slice (some ⟨g,0,none⟩) (l.length+1) cap).ownBlock=some k) w (w.setRow g (cur.toList.take (l.length*sz)++cs++cur.toList.drop (l.length*sz+cs.length)).toArray):=Mv.of_grown (bg w g _) fun k hk _=>by rw[←hk];rfl
 refine⟨.pointer (some ⟨g,l.length*sz,none⟩),fun w'=>?_,w.setRow g (cur.toList.take (l.length*sz)++cs++cur.toList.drop (l.length*sz+cs.length)).toArray,?_,md,l.length+1,x1++cs,⟨?_,.inr ⟨g,cap,_,rfl,hb,setRow_heap w g _ _ e (0,0) hg,hle,hm,?_,?_⟩⟩,?_⟩
 ·obtain⟨ti,hi',hs'⟩:=Option.map_eq_some_iff.1 hi
  simp[Instr.indexAt,I,asIntOf,run_underlying ht,sizeOf,typeInfo,hi',hs',Addr.add]
  omega
 ·have hr:=run_storeCells_at (P:=P) g (l.length*sz) e cs 0 cur w hg (by omega) h1
  simp only[Instr.storeAt,Instr.sureAddr,storeVar,Sem.run_bind,Sem.run_pure,Result.andThen_ok,dP hi]
  rw[if_neg (by simp[Value.cells,hcl])]
  simpa [Value.cells] using hr
 ·rw[List.length_append,hl1,hcl,Nat.add_mul,Nat.one_mul]
 ·have hlen:cur.toList.length=cur.size:=by simp
  simp only[List.size_toArray,List.length_append,List.length_take,List.length_drop,hlen]
  omega
 ·rw[htk1,List.append_assoc,←List.append_assoc]
  exact List.take_left' (by rw[List.length_append,hl1,hcl,Nat.add_mul,Nat.one_mul])
 ·rw[List.map_append]
  exact aK.append (aK.mv (md.weak fun _ h _=>.inr h) (fun _ h=>.inl h) hx1) (by simpa using aK.cons (ha.mv (md.weak fun _ h _=>.inr h) fun _ h=>.inl h) aK.nil)
end Go.Rl
namespace Go.Rl
open Go.RowKit Go.Proofs
theorem xS:aw Tryz.prog 54:=⟨_,Tryz.func54,by kernel_rfl,rfl⟩
def EV (w:World) (b:List UInt8) (r:Value) (w':World):Prop:=
 aG w w'∧∃(vt:Value),vt.oneCell'=true∧((r=.tuple #[vt,I 0]∧∃ts:List aN,vw b=some (ts,[])∧cT (fun k=>k<w.heap.size) w' (.sl (ts.map bh)) [vt])∨(r=.tuple #[vt,I 5]∧∀ts',vw b≠some (ts',[])))
theorem sc {fn:Func} {b:List UInt8} {a:Act} {w wS:World} {g2 g3:Nat} {v2 v3:Value} {X:Nat→Prop} {c:List PanicEntry} {w0:World} (hr:fn.results= #[.cell 2 23,.cell 3 29]) (hd:a.defers=[qK g2 g3]) (h2:a.tmps.getD 2 undef=.pointer (some ⟨g2,0,none⟩)) (h3:a.tmps.getD 3 undef=.pointer (some ⟨g3,0,none⟩))
 (hne:g2≠g3) (l2:w0.heap.size≤g2) (l3:w0.heap.size≤g3) (k2:cl g2 23 [v2] wS) (k3:cl g3 29 [v3] wS) (hX2:¬X g2) (hX3:¬X g3) (hX:∀k,X k→w0.heap.size≤k) (e0:aG w0 wS) (hw:Mv X wS w) (hc:tl c) (hno:vw b=none):
 Leaves Tryz.prog fn a.tmps (bD (EV w0 b)) a.defers (.panicking c) w:=by
 rw[hd]
 refine CB hc hne hr h2 h3 (hw.blk k2 hX2) (hw.blk k3 hX3) fun w' hm=>⟨_,rfl,Mv.ext_from hm (Mv.ext_from hw e0 hX) ?_,.slice none 0 0,rfl,.inr ⟨rfl,fun ts' e=>by rw[hno] at e;cases e⟩⟩
 rintro k (rfl|rfl)<;>assumption
theorem aU.sto {g g2:Nat} {st:Option (List UInt8)} {w w':World} {T:TypeId} {u:Value} (h:aU g st w) (hb:cl g2 T [u] w) (hu:∃A n c,u=.slice A n c) (hw:w.grownBy w' (some g2)) (hne:g≠g2):aU g st w':=by
 obtain⟨A,n,c,h1,h2,h3⟩:=h
 refine⟨A,n,c,cl.other h1 hw (fun e=>hne (Option.some.inj e)),Sl.keep h2 hb (fun j x hx=>?_) hw,h3⟩
 obtain⟨y,_,rfl⟩:=List.mem_map.1 hx
 obtain⟨A',n',c',rfl⟩:=hu
 intro e
 have:=List.mem_of_getElem? (l:=[Value.slice A' n' c']) (by simpa using e)
 simp[U8] at this
theorem zK {fn:Func} {a:Act} {R:Ending→World→Prop} {w:World} {g2 g3:Nat} {v2 v3:Value} (hr:fn.results= #[.cell 2 23,.cell 3 29]) (hd:a.defers=[qK g2 g3]) (h2:a.tmps.getD 2 undef=.pointer (some ⟨g2,0,none⟩)) (h3:a.tmps.getD 3 undef=.pointer (some ⟨g3,0,none⟩))
 (k2:cl g2 23 [v2] w) (k3:cl g3 29 [v3] w) (h:R (.returned (.tuple #[v2,v3])) w):Leaves Tryz.prog fn a.tmps R a.defers .returning w:=by
 rw[hd]
 exact CA hr h2 h3 k2 k3 h
theorem xT {w:World} {b:List UInt8} {v:Value} (hv:ci b v w) (hl:b.length≤549755813888):
 Calls Tryz.prog 54 #[v] w (bD (EV w b)):=by
 refine HX (vs:=[v]) Tryz.func54 JL JL JL ?_
 obtain⟨N,s1,qU,hN,cU⟩:=vD (some b)
 have hb:fI (some b):=fun l e=>by cases e;exact hl
 have fres:(Tryz.f54).results= #[.cell 2 23,.cell 3 29]:=rfl
 refine af (aa ?_)
 obtain⟨g2,w2,hr2,l2,x2,k2⟩:=bc (P:=Tryz.prog) (w:=w) (t:=23) (z:=.slice none 0 0) (l:=[.slice none 0 0]) (by kernel_rfl) rfl
 refine bf JL hr2 ?_
 obtain⟨g3,w3,hr3,l3,x3,k3⟩:=bc (P:=Tryz.prog) (w:=w2) (t:=29) (z:=I 0) (l:=[I 0]) (by kernel_rfl) rfl
 refine bf JL hr3 ?_
 have e3:=x2.trans x3
 have lt2:=k2.lt
 have lt3:=k3.lt
 have sz2:=x2.size
 have hne:g2≠g3:=by omega
 have lw2:w.heap.size≤g2:=l2
 have lw3:w.heap.size≤g3:=by omega
 refine ag (ab (af (aa ?_)))
 refine kF (us:=[]) (vs:=[.pointer (some ⟨g2,0,none⟩),.pointer (some ⟨g3,0,none⟩)]) JL JL JL ?_
 refine GA JL ?_
 refine ag (ab (af (aa (ae JL JL (am xm JL JL ((xp (hv.ext e3) (by omega))) ?_)))))
 rintro v8 w8 ⟨x8,g,lg,rfl,hr8⟩
 refine bI (vs:=[(0,.pointer (some ⟨g,0,none⟩))]) (r:=.agg #[.pointer (some ⟨g,0,none⟩)]) JL JL (run_build _ _ _ _ (by kernel_rfl)) ?_
 obtain⟨g4,w4,hr4,l4,x4,k4⟩:=bc (P:=Tryz.prog) (w:=w8) (t:=172) (z:=.agg #[.pointer none]) (l:=[.pointer none]) (by kernel_rfl) rfl
 obtain⟨w5,s5,q5,k5⟩:=k4.stS (P:=Tryz.prog) (t:=172) (m:=[.pointer (some ⟨g,0,none⟩)]) rfl (by kernel_rfl) (aL.cons rfl aL.nil)
 have x5:aG w8 w5:=aG.of_new x4 q5 l4
 have e5:=(e3.trans x8).trans x5
 have sz3:=e3.size
 have sz8:=x8.size
 have sz5:=x5.size
 have hgl:g<w8.heap.size:=aU.lt hr8
 have lt5:=k5.lt
 have k25:=(((k2.ext x3).ext x8).ext x5)
 have k35:=((k3.ext x8).ext x5)
 have hr5:=hr8.ext x5
 have nX2:¬RX g g2:=fun h=>by have:g2=g:=h;omega
 have nX3:¬RX g g3:=fun h=>by have:g3=g:=h;omega
 have nX4:¬RX g g4:=fun h=>by have:g4=g:=h;omega
 have hgw:∀k,RX g k→w.heap.size≤k:=fun k hk=>by have:k=g:=hk;omega
 refine bf JL hr4 ?_
 refine aC JL JL s5 ?_
 refine ag (ab (af (af (aa ?_))))
 refine ah JL JL (aI (o:=0) Jt JL (by kernel_rfl) JL) ?_
 refine ak JL JL (ai Ju JL k5.k0) ?_
 refine am gj JL JL ((cU hr5)) ?_
 rintro v12 w12 ⟨g12,rfl,hr12⟩
 have m12:=hr5.rdT.kp g12
 have m12:Mv (RX g) w5 w12:=Mv.of_grown g12 fun k hk _=>(Option.some.inj hk).symm
 have hl1:fI s1:=qU.atM pu.le hb
 refine an rfl rfl (bw) (an rfl rfl (bz) (iY la rfl rfl ((lf (n:=UInt64.ofNat N) (s:=s1))) (fun c a w1 ha hp=>by obtain⟨rfl,hp2,hp3⟩:=hp;exact sc fres ha.defers (ha.at_ 2 _ rfl) (ha.at_ 3 _ rfl) hne lw2 lw3 k25 k35 nX2 nX3 hgw e5 m12 hp2 (pz (f:=eR) (done:=[]) qU (by rw[hp3];rfl))) ?_))
 rintro v15 _ ⟨rfl,rfl,hs1⟩
 obtain⟨l1,rfl⟩:=jC hs1
 refine ac JL JL (ag (ab (av ?_)))
 refine iU (fun(k:Nat) (v2:Value) (l:List UInt8) (ts:List aN)=>[(2,.pointer (some ⟨g2,0,none⟩)),(3,.pointer (some ⟨g3,0,none⟩)),(4,.pointer (some ⟨g4,0,none⟩)),(5,bC (UInt64.ofNat k))]) (fun(k:Nat) (v2:Value) (l:List UInt8) (ts:List aN) w'=>Mv (fun k=>RX g k∨k=g2) w5 w'∧aU g (some l) w'∧cl g2 23 [v2] w'∧gt 83 9 w5.heap.size bh ts v2 w'∧k<18446744073709551616∧(some l1).bind (da eR N)=(some l).bind (fun l=>(da eR k l).map fun p=>(ts++p.1,p.2))∧l.length+ts.length≤549755813888) (fun(k:Nat) (v2:Value) (l:List UInt8) (ts:List aN)=>k) (N) (.slice none 0 0) (l1) ([]) ⟨rfl,rfl,rfl,rfl,trivial⟩ ⟨m12.weak fun _ hk _=>.inl hk,hr12,m12.blk k25 nX2,gt.nil _,hN,nD,by have:=hl1 l1 rfl;simpa using this⟩ ?_
 rintro k v2 l ts wL ⟨mL,hrL,kL,oL,hk,hR,hql⟩
 refine af (af ?_)
 have hkn:(UInt64.ofNat k).toNat=k:=by rw[UInt64.toNat_ofNat'];omega
 have szL:=mL.size
 have k3L:=mL.blk k35 (by
  rintro(h|h)
  ·exact nX3 h
  ·exact hne h.symm)
 have k4L:=mL.blk k5 (by
  rintro(h|h)
  ·exact nX4 h
  ·omega)
 have hvo:v2.oneCell'=true:=by obtain⟨_,_,_,rfl⟩:=oL.isS;rfl
 have eL:aG w wL:=Mv.ext_from mL e5 (by
  rintro j (h|h)
  ·exact hgw j h
  ·omega)
 rcases Nat.eq_zero_or_pos k with h0|h0
 rotate_left
 ·refine aa (ae JL JL (aj (v:=bC 0) JL JL JL (dv (UInt64.lt_iff_toNat_lt.2 (by rw[hkn];exact h0)) dc) (ag (ab (bJ JL (ar (ab ?_)))))))
  refine af (av ?_)
  obtain⟨k',rfl⟩:∃k',k=k'+1:=⟨k-1,by omega⟩
  obtain⟨nd,s6,qN⟩:=vE (some l)
  have hll:fI (some l):=fun l' e=>by cases e;omega
  have hgL:g<wL.heap.size:=by omega
  have hE:(some l).bind eR=none→vw b=none:=fun h=>pC qU hR h
  have hX5:∀j,RX g j→j<w5.heap.size:=fun j hj=>by have:j=g:=hj;omega
  refine GD 5 [2,3,4,5,20,22,23,24] [(2,.pointer (some ⟨g2,0,none⟩)),(3,.pointer (some ⟨g3,0,none⟩))] #[true,true,true,true,true,false,false,false,false] (Mv (RX g) wL) (Mv (RX g)) true (fun c w'=>Mv (RX g) wL w'∧tl c∧vw b=none) (aU g (some l)) (fg.mv _ _) (Mv.refl _ _) aU.stableZ hrL ⟨rfl,rfl,trivial⟩ (by kernel_rfl) (fun c a w1 _ hd hk hp=>sc fres hd (hk (2,_) (by simp)) (hk (3,_) (by simp)) hne lw2 lw3 kL k3L nX2 nX3 hgw eL hp.1 hp.2.1 hp.2.2) (fun _=>by kernel_rfl) (by kernel_rfl) (by kernel_rfl) ?_
  refine aD JL JL (fun w' hw=>ai Jk JL ((hw.blk kL nX2).k0)) ?_
  refine aD JL JL (fun w' hw=>(hw.blk k4L nX4).ld Jt JL (by kernel_rfl)) ?_
  refine di (S:=vF wL.heap.size nd) (Z':=fun w=>aU g s6 w∧s6≠none) nH rfl (vF.stable hgL) (gn aU.stableZ) rfl (fun w hw hz=>by rintro _ rfl;exact ndM hw hw.size (zH l.length hz hll (fun l' e=>by cases e;exact Nat.le_refl _)) qN hE) ?_
  refine gN (vs:=[v2]) (r:=I ts.length) JL JL (fun w' hw=>bO (f:=bh) Jk ((oL.mv hw hX5).rpx bK (by omega)).rp) ?_
  refine ep (S:=jB wL.heap.size 9 bh [.mk [] yQ [] false []]) (jB.stable hgL) JL (fun w' hw=>by
   rintro _ rfl
   exact EP (cs:=[.slice none 0 0,I 0,I 0,B false,.slice none 0 0,.slice none 0 0,.slice none 0 0,B false,.slice none 0 0]) Jk pA rfl (by omega) (by omega) hw.size (aL.cons rfl (aL.cons rfl (aL.cons rfl (aL.cons rfl (aL.cons rfl (aL.cons rfl (aL.cons rfl (aL.cons rfl (aL.cons rfl aL.nil))))))))) (pB zx A2 zx zx) (bK _)) ?_
  refine bu ?_
  intro wg xg zg
  rintro _ rfl
  rintro _ rfl
  rintro _ rfl
  rintro _ rfl
  rintro _ hq20
  obtain rfl:=Eq.symm hq20
  intro vg22 b22
  rintro _ rfl
  intro vg24 b24
  obtain⟨hr6,hs6⟩:=zg
  obtain⟨l6,rfl⟩:=jC hs6
  obtain⟨cs,rfl,h1cs,hcs⟩:=b22
  obtain⟨zs,hzs,hzo,h1z,hza⟩:=b24
  have oG:=oL.mv xg hX5
  have own2:∀j,v2.ownBlock=some j→w5.heap.size≤j∧j<wL.heap.size:=oL.lt
  have hlN:=vy l _ l6 qN
  obtain⟨v25,w25,hr25,o25,g25⟩:=oG.app (t:=23) (ty:=23) Jk pA rfl (by omega) (by omega) hzs h1z ((aK.one hza).weak fun j hj=>.inl (by
   rcases hj with hj|hj
   ·omega
   ·exact(own2 j hj).2)) bK (by omega) (Nat.le_trans szL xg.size)
  have m25:Mv (fun k=>v2.ownBlock=some k) wg w25:=Mv.of_grown g25.grown fun k hk _=>hk
  have own25:∀j,v25.ownBlock=some j→w5.heap.size≤j∧(j<wL.heap.size∨wg.heap.size≤j):=fun j hj=>⟨(o25.lt j hj).1,by
   rcases g25.own with h|h
   ·rw[h] at hj;exact .inl (own2 j hj).2
   ·exact .inr (h j hj)⟩
  have hc25:cT (fun k=>k<w5.heap.size∨v25.ownBlock=some k) w25 (bh nd) cs:=hcs.mv (m25.weak fun j hj _=>(own2 j hj).2) fun j hj=>by
   rcases hj with hj|hj
   ·exact .inl (by omega)
   ·exact(own25 j hj).2
  have mB:Mv (fun k=>RX g k∨k=g2) w5 w25:=(mL.trans xg fun _ hj _=>.inl hj).trans m25 fun j hj hlt=>by have:=(own2 j hj).1;omega
  have k25':=m25.blk (xg.blk kL nX2) (fun h=>by have:=(own2 g2 h).1;omega)
  have hr25':aU g (some l6) w25:=hr6.mv m25 fun j hj=>by have:=(own2 j hj).1;omega
  have hsz:(Tryz.prog.info? 83).map (·.size)=some 9:=by kernel_rfl
  obtain⟨p,hp,w26,s26,m26,o26⟩:=o25.stLast Jk hsz (by omega) bK h1cs hc25
  have hv25:v25.oneCell'=true:=by obtain⟨_,_,_,rfl⟩:=o25.isS;rfl
  obtain⟨w27,s27,q27,k27⟩:=k25'.stC (P:=Tryz.prog) (t:=23) (i:=0) (v:=v25) (by kernel_rfl) hv25 (by simp)
  have m27:Mv (fun k=>k=g2) w25 w27:=Mv.of_grown q27 fun k hk _=>(Option.some.inj hk).symm
  have k26:=m26.blk k25' (fun h=>by have:=(own25 g2 h).1;omega)
  obtain⟨w28,s28,q28,k28⟩:=k26.stC (P:=Tryz.prog) (t:=23) (i:=0) (v:=v25) (by kernel_rfl) hv25 (by simp)
  have m28:Mv (fun k=>k=g2) w26 w28:=Mv.of_grown q28 fun k hk _=>(Option.some.inj hk).symm
  have o27:=o25.mv m27 fun j hj=>by omega
  obtain⟨p',hp',w29,s29,m29,o29⟩:=o27.stLast Jk hsz (by omega) bK h1cs (hc25.mv (m27.weak fun j hj _=>.inl (by omega)) fun _ h=>.inl h)
  obtain rfl:p=p':=by
   have h:=(hp w25).symm.trans (hp' w25)
   injection h
  have k29:=m29.blk k27 (fun h=>by have:=(own25 g2 h).1;omega)
  have o28:=o26.mv m28 fun j hj=>by omega
  refine ei 5 (by kernel_rfl) JL (aW JL JL hr25 (cn trivial ?_))
  refine vd (α:=Unit) (fun _=>[(2,.pointer (some ⟨g2,0,none⟩)),(3,.pointer (some ⟨g3,0,none⟩)),(4,.pointer (some ⟨g4,0,none⟩)),(5,bC (UInt64.ofNat (k'+1)))]) (fun _ w'=>Mv (fun k=>RX g k∨k=g2) w5 w'∧aU g (some l6) w'∧cl g2 23 [v25] w'∧gt 83 9 w5.heap.size bh (ts++[nd]) v25 w') #[true,true,true,true,true,true,true,true,true] 0 ?_ (fun hk=>?_)
  rotate_left
  ·have A:Mv (fun k=>RX g k∨k=g2) w5 w28∧aU g (some l6) w28∧cl g2 23 [v25] w28∧gt 83 9 w5.heap.size bh (ts++[nd]) v25 w28:=⟨((mB.trans m26 fun j hj hlt=>by have:=(own25 j hj).1;omega).trans m28 fun _ hj _=>.inr hj),(hr25'.mv m26 fun j hj=>by have:=(own25 j hj).1;omega).sto k26 oL.isS q28 (by omega),k28,o28⟩
   have B':Mv (fun k=>RX g k∨k=g2) w5 w29∧aU g (some l6) w29∧cl g2 23 [v25] w29∧gt 83 9 w5.heap.size bh (ts++[nd]) v25 w29:=⟨((mB.trans m27 fun _ hj _=>.inr hj).trans m29 fun j hj hlt=>by have:=(own25 j hj).1;omega),(hr25'.sto k25' oL.isS q27 (by omega)).mv m29 fun j hj=>by have:=(own25 j hj).1;omega,k29,o29⟩
   refine rI 6 8 (by kernel_rfl) JL JL (ap JL JL JL (hp _) (cn trivial ?_)) (aC JL JL s27 (cn trivial ?_))
   ·refine rI 7 8 (by kernel_rfl) JL JL (aC JL JL s26 (cn trivial ?_)) (aC JL JL s27 (cn trivial ?_))
    ·refine ei 8 (by kernel_rfl) JL (aC JL JL s28 (cn trivial ?_))
     exact hk _ _ ⟨(),⟨rfl,rfl,rfl,rfl,trivial⟩,A⟩
    ·refine ei 7 (by kernel_rfl) JL (aC JL JL s29 (cn trivial ?_))
     exact hk _ _ ⟨(),⟨rfl,rfl,rfl,rfl,trivial⟩,B'⟩
   ·refine ei 6 (by kernel_rfl) JL (ap JL JL JL (hp _) (cn trivial ?_))
    refine ei 7 (by kernel_rfl) JL (aC JL JL s29 (cn trivial ?_))
    exact hk _ _ ⟨(),⟨rfl,rfl,rfl,rfl,trivial⟩,B'⟩
  rintro _ w30 ⟨m30,hr30,k30,o30⟩
  refine pq (by kernel_rfl) ?_
  refine aM (ab (aa (ae JL JL ?_)))
  have ek:UInt64.ofNat (k'+1)-1=UInt64.ofNat k':=by
   refine UInt64.toNat_inj.1 ?_
   rw[UInt64.toNat_sub_of_le _ _ (UInt64.le_iff_toNat_le.2 (by rw[hkn];show 1≤_;omega)),hkn,UInt64.toNat_ofNat',show(1:UInt64).toNat=1 from rfl]
   omega
  refine aj (v:=bC 1) (r:=bC (UInt64.ofNat k')) JL JL JL ((by rw[←ek];exact dq)) (ac JL JL (ag ?_))
  refine fu (k') (v25) (l6) (ts++[nd]) ⟨rfl,rfl,rfl,rfl,trivial⟩ ⟨m30,hr30,k30,o30,by omega,pt hR qN,by simp;omega⟩ (by omega)
 ·refine aa (ae JL JL (aj (v:=bC 0) JL JL JL (eF (fun hh=>by have:=UInt64.lt_iff_toNat_lt.1 hh;rw[hkn,h0] at this;exact absurd this (by decide)) dc) ?_))
  refine ag (ab (dI JL (aX (aA (aA (aV (ab (af (bm 4 [2,3,27,30] (by kernel_rfl) (by kernel_rfl) ?_)))))))))
  refine aD JL JL (fun w' hw=>ai Jk JL (kL.ext hw).k0) (aF JL JL (fun w' hw=>aI (o:=0) Jt JL (by kernel_rfl) JL) ?_)
  refine aD rfl rfl (fun w' hw=>ai Ju rfl (k4L.ext hw).k0) (bW (S:=Is (I (if some l=some [] then 0 else 5))) Ch (bo.is _) rfl (fun w hw=>by rintro _ rfl;exact bD.mono (Ck (hrL.ext hw)) fun v w' h=>⟨h.2▸aG.refl _,h.1⟩) ?_)
  refine bu ?_
  intro wg7 xg7
  rintro _ rfl
  rintro _ rfl
  rintro _ hq27
  obtain rfl:=Eq.symm hq27
  rintro _ rfl
  obtain⟨wa,sa,qa,ka⟩:=(kL.ext xg7).stC (P:=Tryz.prog) (t:=23) (i:=0) (v:=v2) (by kernel_rfl) hvo (by simp)
  obtain⟨wb,sb,qb,kb⟩:=((k3L.ext xg7).other qa (fun e=>hne (Option.some.inj e).symm)).stC (P:=Tryz.prog) (t:=29) (i:=0) (v:=I (if some l=some [] then 0 else 5)) (by kernel_rfl) rfl (by simp)
  have kab:=ka.other qb (fun e=>hne (Option.some.inj e))
  have mab:Mv (fun k=>k=g2∨k=g3) wg7 wb:=(Mv.of_grown qa fun k hk _=>.inl (Option.some.inj hk).symm:Mv (fun k=>k=g2∨k=g3) wg7 wa).trans (Mv.of_grown qb fun k hk _=>(Option.some.inj hk).symm:Mv (fun k=>k=g3) wa wb) fun _ hj _=>.inr hj
  refine aC JL JL sa ?_
  refine aC JL JL sb ?_
  refine ag (ab (au ?_))
  refine fun a ha=>zK fres ha.defers (ha.at_ 2 _ rfl) (ha.at_ 3 _ rfl) kab kb ⟨_,rfl,Mv.ext_from mab (eL.trans xg7) (by rintro j (rfl|rfl)<;>assumption),v2,hvo,?_⟩
  subst h0
  have hd:vw b=some (ts,l):=py qU hR
  by_cases hnil:l=[]
  ·subst hnil
   exact .inl ⟨rfl,ts,hd,(((oL.rpx bK (by omega)).ext xg7).mv (mab.weak (Y:=fun k=>k<w5.heap.size) fun j hj _=>by rcases hj with rfl|rfl<;>(show _<w5.heap.size;omega)) fun _ h=>.inl h).weak fun j hj=>.inl (by show j<w5.heap.size;omega)⟩
  ·rw[if_neg (fun e=>hnil (Option.some.inj e))]
   exact .inr ⟨rfl,fun ts' e=>by rw[hd] at e;simp only[Option.some.injEq,Prod.mk.injEq] at e;exact hnil e.2⟩
end Go.Rl
namespace Go.Rl
def vG (d:eg):Bool:=decide (d.kd=0)&&decide (d.ix=0)&&decide (d.at_=z0Q)
def lY (n:aN):Bool:=decide (1≤n.split.kd)&&decide (n.split.kd≤4)&& !n.empty&&decide (n.pf.length=0)
def jt:Nat→aN→Bool×Nat
 |0,_=>(false,0)
 |l+1,n=>match n.kids with
  |[]=>(vG n.split,1)
  |[x,y]=>if lY n=true then
    (if (jt l x).1=false∨65536<(jt l x).2 then(false,0) else((jt l y).1,1+(jt l x).2+(jt l y).2))
   else(false,0)
  |_=>(false,0)
def jO:Nat→Int→aN→Int×Bool
 |d,most,n=>if most<1 then(0,false) else match n.kids with
  |[]=>(1,vG n.split)
  |[x,y]=>if lY n=true then(match d with
    |0=>(0,false)
    |d+1=>if (jO d (most-1) x).2=false then(0,false) else(1+(jO d (most-1) x).1+(jO d (most-1-(jO d (most-1) x).1) y).1,(jO d (most-1-(jO d (most-1) x).1) y).2))
   else(0,false)
  |_=>(0,false)
def wF:Nat→aN→Bool
 |d,n=>match n.kids with
  |[]=>vG n.split
  |[x,y]=>lY n&&(match d with
    |0=>false
    |d+1=>wF d x&&wF d y)
  |_=>false
def pD:Nat→aN→Nat
 |d,n=>match n.kids with
  |[x,y]=>(match d with
    |0=>1
    |d+1=>1+pD d x+pD d y)
  |_=>1
theorem xU (d:Nat) (n:aN):1≤pD d n:=by
 unfold pD
 split
 ·split<;>omega
 ·omega
theorem vH:∀(d:Nat) (n:aN),(jt (d+1) n).1=true→wF d n=true∧(jt (d+1) n).2=pD d n
 |d,n,h=>by
  unfold jt at h⊢
  unfold wF pD
  split at h
  ·rename_i e
   simp only[e]
   exact⟨h,trivial⟩
  ·rename_i x y e
   simp only[e]
   split at h
   ·rename_i hi
    rw[if_pos hi]
    split at h
    ·cases h
    ·rename_i hx
     rw[if_neg hx]
     simp only[not_or,Bool.not_eq_false,Nat.not_lt] at hx
     cases d with
     |zero=>simp[jt] at hx
     |succ d=>
      obtain⟨a1,a2⟩:=vH d x hx.1
      obtain⟨b1,b2⟩:=vH d y h
      exact⟨by simp[hi,a1,b1],by simp[a2,b2]⟩
   ·cases h
  ·cases h
theorem zL:∀(d:Nat) (n:aN),wF d n=true→pD d n≤65536→(jt (d+1) n).1=true
 |d,n,h,hc=>by
  unfold wF at h
  unfold pD at hc
  unfold jt
  split at h
  ·exact h
  ·rename_i x y e
   simp only[e,Bool.and_eq_true] at h hc⊢
   rw[if_pos h.1]
   cases d with
   |zero=>simp at h
   |succ d=>
    simp only[Bool.and_eq_true] at h hc
    have a:=zL d x h.2.1 (by omega)
    have b:=zL d y h.2.2 (by omega)
    have a2:=(vH d x a).2
    rw[if_neg (by rw[a2,a];simp;omega)]
    exact b
  ·cases h
theorem vI:∀(d:Nat) (most:Int) (n:aN),(jO d most n).2=(wF d n&&decide ((pD d n:Int)≤most))∧((jO d most n).2=true→(jO d most n).1=pD d n)
 |d,most,n=>by
  have hp:=xU d n
  unfold jO
  by_cases hm:most<1
  ·rw[if_pos hm,decide_eq_false (by omega)]
   simp
  ·rw[if_neg hm]
   unfold wF pD
   generalize n.kids=ks
   rcases ks with _|⟨x,_|⟨y,_|⟨z,t⟩⟩⟩
   ·refine⟨?_,fun _=>rfl⟩
    show vG n.split=(vG n.split&&decide (((1:Nat):Int)≤most))
    rw[decide_eq_true (by omega),Bool.and_true]
   ·simp
   ·by_cases hi:lY n=true
    ·show(if lY n=true then _ else _:Int×Bool).2=(lY n&&_&&_)∧_
     rw[if_pos hi,hi]
     cases d with
     |zero=>simp
     |succ d=>
      obtain⟨a1,a2⟩:=vI d (most-1) x
      simp only[Bool.true_and]
      by_cases hx:(jO d (most-1) x).2=false
      ·rw[if_pos hx]
       rw[hx] at a1
       refine⟨?_,fun h=>by cases h⟩
       have hpy:=xU d y
       cases hk:wF d x with
       |false=>simp
       |true=>
        rw[hk,Bool.true_and] at a1
        have:=of_decide_eq_false a1.symm
        rw[decide_eq_false (by omega)]
        simp
      ·rw[if_neg hx]
       have hx':(jO d (most-1) x).2=true:=by simpa using hx
       have e1:=a2 hx'
       rw[hx'] at a1
       simp only[Bool.true_eq,Bool.and_eq_true,decide_eq_true_eq] at a1
       rw[e1]
       obtain⟨b1,b2⟩:=vI d (most-1-(pD d x:Int)) y
       refine⟨?_,fun h=>?_⟩
       ·rw[b1,a1.1,Bool.true_and]
        congr 1
        exact decide_eq_decide.2 (by omega)
       ·rw[b2 (by simpa using h)]
        simp only[if_true]
        omega
    ·have hi':lY n=false:=by simpa using hi
     simp[hi']
   ·simp
def eS (n:aN):Bool:=wF 2048 n&&decide (pD 2048 n≤65536)
theorem EW (n:aN):(jO 2048 65536 n).2=eS n:=by
 rw[(vI 2048 65536 n).1]
 unfold eS
 congr 1
 exact decide_eq_decide.2 (by omega)
theorem EX (n:aN):((jt 2049 n).1&&decide ((jt 2049 n).2≤65536))=eS n:=by
 unfold eS
 cases h:(jt 2049 n).1 with
 |true=>
  obtain⟨a,b⟩:=vH 2048 n h
  rw[a,b]
 |false=>
  rw[Bool.false_and]
  cases hk:wF 2048 n with
  |false=>rfl
  |true=>
   rw[Bool.true_and]
   refine(decide_eq_false fun hc=>?_).symm
   have:=zL 2048 n hk hc
   rw[h] at this
   cases this
end Go.Rl
namespace Go.Rl
open Go.RowKit Go.Proofs
end Go.Rl
namespace Go.Rl
open Go.RowKit Go.Proofs
theorem xV:aw Tryz.prog 194:=⟨_,Tryz.func194,by kernel_rfl,rfl⟩
theorem xX {w:World} {l m:List UInt32} {v u:Value} (hv:bj l v w) (hu:bj m u w):
 Calls Tryz.prog 194 #[v,u] w (bD fun r w'=>aG w w'∧r=B (decide (l=m))):=by
 refine enter (vs:=[v,u]) Tryz.func194 JL JL JL ?_
 have hll:=hv.len
 refine af (aa (ac JL JL (ag (ab (af (af (aa (ae JL JL (aP JL JL (be Je hv) (ae JL JL (aP JL JL (be Je hu) ?_)))))))))))
 refine aj JL JL JL (dj) (ag (ab ?_))
 refine ba JL (fun h10=>?_) (fun h10=>?_)
 ·have hne:l≠m:=fun h=>h10 (by rw[h])
  refine af (aa (ac JL JL (ag (ab (au (ax (az JL JL ?_)))))))
  exact⟨_,rfl,aG.refl _,congrArg B (decide_eq_false hne).symm⟩
 ·have hlen:l.length=m.length:=by omega
  refine ar (ab (af (af (aa (ae JL JL (aP JL JL (be Je hv) (ae JL JL (ag (ab (av ?_))))))))))
  refine ck (α:=Nat) (fun x=>[(0,v),(1,u),(12,I (l.length:Int)),(13,I (x:Int))]) (fun x w'=>aG w w'∧x≤l.length∧l.take x=m.take x) (fun x=>l.length-x) (0) ⟨rfl,rfl,rfl,rfl,trivial⟩ ⟨aG.refl _,by omega,rfl⟩ ?_
  rintro i w4 ⟨e4,hi,ht⟩
  refine af (aa (aj JL JL JL (aS) (ag (ab (af ?_)))))
  refine ba JL (fun h14=>?_) (fun h14=>?_)
  ·refine ar (ab (af (av (af (aa (ae JL JL (ac JL JL (ag (ab (af (bm 8 [0,1,12,13,19,23] (by kernel_rfl) (by kernel_rfl) ?_)))))))))))
   refine ao JL JL (ao JL JL ?_)
   obtain⟨a18,p18,q18⟩:=cE Je (hv.ext e4) (i:=i) (by omega) .i64
   refine ay JL JL JL (fun w _=>p18 w) (aD JL JL (fun w hw=>ai Jf JL (hw.cell_some q18)) (ao JL JL (ao JL JL ?_)))
   obtain⟨a22,p22,q22⟩:=cE Je (hu.ext e4) (i:=i) (by omega) .i64
   refine ay JL JL JL (fun w _=>p22 w) (aD JL JL (fun w hw=>ai Jf JL (hw.cell_some q22)) (bu ?_))
   intro wg6 xg6
   rintro _ hq0
   obtain rfl:=Eq.symm hq0
   rintro _ hq1
   obtain rfl:=Eq.symm hq1
   rintro _ rfl
   rintro _ rfl
   rintro _ rfl
   rintro _ rfl
   refine aj JL JL JL (jW) (ag (ab ?_))
   refine ba JL (fun h24=>?_) (fun h24=>?_)
   ·have hne:l≠m:=fun h=>h24 (by subst h;rfl)
    refine af (aa (ac JL JL (ag (ab (au (aT (ax (ax (aT (ax (az JL JL ?_)))))))))))
    exact⟨_,rfl,(e4.trans xg6),congrArg B (decide_eq_false hne).symm⟩
   ·have he:l[i]'(by omega)=m[i]'(by omega):=Classical.byContradiction fun h=>h24 h
    refine ar (aM (ab (aa (aj (r:=I ((i+1:Nat):Int)) JL JL JL (by have e:((i+1:Nat):Int)=(i:Int)+1:=(by omega);rw[e];exact aE (by omega) (by omega)) ?_))))
    refine ae JL JL (ag ?_)
    refine bN (i+1) ⟨rfl,rfl,rfl,rfl,trivial⟩ ⟨(e4.trans xg6),by omega,by rw[List.take_succ_eq_append_getElem (by omega),List.take_succ_eq_append_getElem (by omega),ht,he]⟩ (by omega)
  ·refine aX (aA (aA (aV (ab (af (aa (ac JL JL (ag (ab (au (az JL JL ?_)))))))))))
   exact⟨_,rfl,e4,by
    rw[List.take_of_length_le (by omega),List.take_of_length_le (by omega)] at ht
    rw[decide_eq_true ht];rfl⟩
end Go.Rl
namespace Go.Rl
open Go.RowKit Go.Proofs
theorem vJ:aw Tryz.prog 180:=⟨_,Tryz.func180,by kernel_rfl,rfl⟩
theorem vK:aw Tryz.prog 150:=⟨_,Tryz.func150,by kernel_rfl,rfl⟩
theorem jP:aw Tryz.prog 114:=⟨_,Tryz.func114,by kernel_rfl,rfl⟩
theorem jo:aw Tryz.prog 55:=⟨_,Tryz.func55,by kernel_rfl,rfl⟩
theorem CC:aw Tryz.prog 117:=⟨_,Tryz.func117,by kernel_rfl,rfl⟩
theorem nK:aw Tryz.prog 104:=⟨_,Tryz.func104,by kernel_rfl,rfl⟩
theorem lZ:aw Tryz.prog 50:=⟨_,Tryz.func50,by kernel_rfl,rfl⟩
theorem vL {w:World} {a b:fx} {x y p q:Value} (ha:bj a.2.1 x w) (ha':bj a.2.2 y w) (hb:bj b.2.1 p w) (hb':bj b.2.2 q w):
 Calls Tryz.prog 180 #[.agg #[B a.1,x,y],.agg #[B b.1,p,q]] w (bD fun r w'=>aG w w'∧r=B (decide (a=b))):=by
 refine enter (vs:=[.agg #[B a.1,x,y],.agg #[B b.1,p,q]]) Tryz.func180 JL JL JL ?_
 refine af (aa ?_)
 obtain⟨g2,w2,hr2,l2,x2,k2⟩:=cI (P:=Tryz.prog) (w:=w) (T:=55) (cs:=[B a.1,x,y])
 refine cx JL JL hr2 ?_
 obtain⟨g3,w3,hr3,l3,x3,k3⟩:=cI (P:=Tryz.prog) (w:=w2) (T:=55) (cs:=[B b.1,p,q])
 refine cx JL JL hr3 (ac JL JL (ag (ab (af (aa (ah JL JL (aI (o:=0) Jj JL (by kernel_rfl) JL) ?_))))))
 refine ak JL JL (ai Jq JL (x3.cell_some (k2.cell (i:=0) JL))) (ah JL JL (aI (o:=0) Jj JL (by kernel_rfl) JL) ?_)
 refine ak JL JL (ai Jq JL (k3.cell (i:=0) JL)) (aj JL JL JL (ve Jq) (ae JL JL ?_))
 refine cW (fun h10=>?_) (fun h10=>?_)
 ·refine al JL (ah JL JL (aI (o:=1) Jj JL (by kernel_rfl) JL) (al JL (ak JL JL (ai Je JL (x3.cell_some (k2.cell (i:=1) JL))) ?_)))
  refine al JL (ah JL JL (aI (o:=1) Jj JL (by kernel_rfl) JL) (al JL (ak JL JL (ai Je JL (k3.cell (i:=1) JL)) ?_)))
  refine al JL (am xV JL JL (xX (ha.ext (x2.trans x3)) (hb.ext (x2.trans x3))) ?_)
  rintro v15 w15 ⟨x15,rfl⟩
  refine aB JL JL JL (ae JL JL ?_)
  refine cW (fun h17=>?_) (fun h17=>?_)
  ·refine al JL (ah JL JL (aI (o:=2) Jj JL (by kernel_rfl) JL) (al JL (ak JL JL (ai Je JL ((x3.trans x15).cell_some (k2.cell (i:=2) JL))) ?_)))
   refine al JL (ah JL JL (aI (o:=2) Jj JL (by kernel_rfl) JL) (al JL (ak JL JL (ai Je JL (x15.cell_some (k3.cell (i:=2) JL))) ?_)))
   refine al JL (am xV JL JL (xX (ha'.ext ((x2.trans x3).trans x15)) (hb'.ext ((x2.trans x3).trans x15))) ?_)
   rintro v22 w22 ⟨x22,rfl⟩
   refine aB JL JL JL (ac JL JL (ag (ab (au (az JL JL ?_)))))
   exact⟨_,rfl,(((x2.trans x3).trans x15).trans x22),by
    first
    |exact congrArg B (decide_eq_decide.2 ⟨fun h=>Prod.ext h10 (Prod.ext h17 h),fun h=>by rw[h]⟩)
    |exact congrArg B (decide_eq_false fun h=>h17 (by rw[h])).symm
    |exact congrArg B (decide_eq_false fun h=>h10 (by rw[h])).symm⟩
  ·refine aq JL JL JL (aq JL JL JL (aq JL JL JL (aq JL JL JL (aq JL JL JL (aH JL JL JL (ac JL JL (ag (ab (au (az JL JL ?_))))))))))
   exact⟨_,rfl,((x2.trans x3).trans x15),by
    first
    |exact congrArg B (decide_eq_decide.2 ⟨fun h=>Prod.ext h10 (Prod.ext h17 h),fun h=>by rw[h]⟩)
    |exact congrArg B (decide_eq_false fun h=>h17 (by rw[h])).symm
    |exact congrArg B (decide_eq_false fun h=>h10 (by rw[h])).symm⟩
 ·refine aq JL JL JL (aq JL JL JL (aq JL JL JL (aq JL JL JL (aq JL JL JL (aH JL JL JL (ae JL JL (aq JL JL JL (aq JL JL JL (aq JL JL JL ?_)))))))))
  refine aq JL JL JL (aq JL JL JL (aH JL JL JL (ac JL JL (ag (ab (au (az JL JL ?_)))))))
  exact⟨_,rfl,(x2.trans x3),by
   first
   |exact congrArg B (decide_eq_decide.2 ⟨fun h=>Prod.ext h10 (Prod.ext h17 h),fun h=>by rw[h]⟩)
   |exact congrArg B (decide_eq_false fun h=>h17 (by rw[h])).symm
   |exact congrArg B (decide_eq_false fun h=>h10 (by rw[h])).symm⟩
theorem HY {w:World} {a b:fx} {x y p q:Value} (ha:bj a.2.1 x w) (ha':bj a.2.2 y w) (hb:bj b.2.1 p w) (hb':bj b.2.2 q w):
 Calls Tryz.prog 134 #[.agg #[B a.1,x,y],.agg #[B b.1,p,q]] w (bD fun r w'=>aG w w'∧r=B (decide (a=b))):=by
 refine bD.mono (rO (a:=a.1) (b:=b.1) ⟨x,y,rfl,ha,ha'⟩ ⟨p,q,rfl,hb,hb'⟩) fun r w' h=>⟨h.1,h.2.trans (congrArg B (decide_eq_decide.2 ⟨fun h=>Prod.ext h.1 (Prod.ext h.2.1 h.2.2),fun h=>by rw[h];exact⟨rfl,rfl,rfl⟩⟩))⟩
deriving instance DecidableEq for eg
theorem eg.ext' {a b:eg} (h1:a.kd=b.kd) (h2:a.ix=b.ix) (h3:a.at_=b.at_):a=b:=by
 cases a;cases b
 simp only at h1 h2 h3
 rw[h1,h2,h3]
theorem vM {w:World} {a b:eg} {x y p q:Value} (ha:bj a.at_.2.1 x w) (ha':bj a.at_.2.2 y w) (hb:bj b.at_.2.1 p w) (hb':bj b.at_.2.2 q w):
 Calls Tryz.prog 150 #[.agg #[I a.kd,I a.ix,B a.at_.1,x,y],.agg #[I b.kd,I b.ix,B b.at_.1,p,q]] w (bD fun r w'=>aG w w'∧r=B (decide (a=b))):=by
 refine enter (vs:=[.agg #[I a.kd,I a.ix,B a.at_.1,x,y],.agg #[I b.kd,I b.ix,B b.at_.1,p,q]]) Tryz.func150 JL JL JL ?_
 refine af (aa ?_)
 obtain⟨g2,w2,hr2,l2,x2,k2⟩:=cI (P:=Tryz.prog) (w:=w) (T:=80) (cs:=[I a.kd,I a.ix,B a.at_.1,x,y])
 refine cx JL JL hr2 ?_
 obtain⟨g3,w3,hr3,l3,x3,k3⟩:=cI (P:=Tryz.prog) (w:=w2) (T:=80) (cs:=[I b.kd,I b.ix,B b.at_.1,p,q])
 refine cx JL JL hr3 (ac JL JL (ag (ab (af (aa (ah JL JL (aI (o:=0) Jn JL (by kernel_rfl) JL) ?_))))))
 refine ak JL JL (ai Jh JL (x3.cell_some (k2.cell (i:=0) JL))) (ah JL JL (aI (o:=0) Jn JL (by kernel_rfl) JL) ?_)
 refine ak JL JL (ai Jh JL (k3.cell (i:=0) JL)) (aj JL JL JL (bA) (ae JL JL ?_))
 refine cW (fun h10=>?_) (fun h10=>?_)
 ·refine al JL (ah JL JL (aI (o:=1) Jn JL (by kernel_rfl) JL) (al JL (ak JL JL (ai Jh JL (x3.cell_some (k2.cell (i:=1) JL))) ?_)))
  refine al JL (ah JL JL (aI (o:=1) Jn JL (by kernel_rfl) JL) (al JL (ak JL JL (ai Jh JL (k3.cell (i:=1) JL)) ?_)))
  refine al JL (aj JL JL JL (bA) (aB JL JL JL (ae JL JL ?_)))
  refine cW (fun h17=>?_) (fun h17=>?_)
  ·refine al rfl (ah rfl rfl (aI (o:=2) Tryz.underlying80 rfl (by kernel_rfl) rfl) (al rfl (ak rfl rfl ((k2.ext x3).ldO (ms:=[B a.at_.1,x,y]) (o:=2) (fun j v hj=>by rcases j with _|_|_|_|_|_|_|_|_|j<;>simp_all) Tryz.underlying55 rfl (by kernel_rfl)) ?_)))
   refine al rfl (ah rfl rfl (aI (o:=2) Tryz.underlying80 rfl (by kernel_rfl) rfl) (al rfl (ak rfl rfl (k3.ldO (ms:=[B b.at_.1,p,q]) (o:=2) (fun j v hj=>by rcases j with _|_|_|_|_|_|_|_|_|j<;>simp_all) Tryz.underlying55 rfl (by kernel_rfl)) ?_)))
   refine al JL (am vJ JL JL ((vL (a:=a.at_) (b:=b.at_) (ha.ext (x2.trans x3)) (ha'.ext (x2.trans x3)) (hb.ext (x2.trans x3)) (hb'.ext (x2.trans x3)))) ?_)
   rintro v22 w22 ⟨x22,rfl⟩
   refine aB JL JL JL (ac JL JL (ag (ab (au (az JL JL ?_)))))
   exact⟨_,rfl,((x2.trans x3).trans x22),by
    first
    |exact congrArg B (decide_eq_decide.2 ⟨fun h=>eg.ext' h10 h17 h,fun h=>by rw[h]⟩)
    |exact congrArg B (decide_eq_false fun h=>h17 (by rw[h])).symm
    |exact congrArg B (decide_eq_false fun h=>h10 (by rw[h])).symm⟩
  ·refine aq JL JL JL (aq JL JL JL (aq JL JL JL (aq JL JL JL (aq JL JL JL (aH JL JL JL (ac JL JL (ag (ab (au (az JL JL ?_))))))))))
   exact⟨_,rfl,(x2.trans x3),by
    first
    |exact congrArg B (decide_eq_decide.2 ⟨fun h=>eg.ext' h10 h17 h,fun h=>by rw[h]⟩)
    |exact congrArg B (decide_eq_false fun h=>h17 (by rw[h])).symm
    |exact congrArg B (decide_eq_false fun h=>h10 (by rw[h])).symm⟩
 ·refine aq JL JL JL (aq JL JL JL (aq JL JL JL (aq JL JL JL (aq JL JL JL (aH JL JL JL (ae JL JL (aq JL JL JL (aq JL JL JL (aq JL JL JL ?_)))))))))
  refine aq JL JL JL (aq JL JL JL (aH JL JL JL (ac JL JL (ag (ab (au (az JL JL ?_)))))))
  exact⟨_,rfl,(x2.trans x3),by
   first
   |exact congrArg B (decide_eq_decide.2 ⟨fun h=>eg.ext' h10 h17 h,fun h=>by rw[h]⟩)
   |exact congrArg B (decide_eq_false fun h=>h17 (by rw[h])).symm
   |exact congrArg B (decide_eq_false fun h=>h10 (by rw[h])).symm⟩
theorem CD {w:World} {a b:eg} {x y p q:Value} (ha:bj a.at_.2.1 x w) (ha':bj a.at_.2.2 y w) (hb:bj b.at_.2.1 p w) (hb':bj b.at_.2.2 q w):
 Calls Tryz.prog 117 #[.agg #[I a.kd,I a.ix,B a.at_.1,x,y],.agg #[I b.kd,I b.ix,B b.at_.1,p,q]] w (bD fun r w'=>aG w w'∧r=B (decide (a=b))):=by
 refine enter (vs:=[.agg #[I a.kd,I a.ix,B a.at_.1,x,y],.agg #[I b.kd,I b.ix,B b.at_.1,p,q]]) Tryz.func117 JL JL JL ?_
 refine af (aa ?_)
 obtain⟨g2,w2,hr2,l2,x2,k2⟩:=cI (P:=Tryz.prog) (w:=w) (T:=80) (cs:=[I a.kd,I a.ix,B a.at_.1,x,y])
 refine cx JL JL hr2 ?_
 obtain⟨g3,w3,hr3,l3,x3,k3⟩:=cI (P:=Tryz.prog) (w:=w2) (T:=80) (cs:=[I b.kd,I b.ix,B b.at_.1,p,q])
 refine cx JL JL hr3 (ac JL JL (ag (ab (af (aa (ah JL JL (aI (o:=0) Jn JL (by kernel_rfl) JL) ?_))))))
 refine ak JL JL (ai Jh JL (x3.cell_some (k2.cell (i:=0) JL))) (ah JL JL (aI (o:=0) Jn JL (by kernel_rfl) JL) ?_)
 refine ak JL JL (ai Jh JL (k3.cell (i:=0) JL)) (aj JL JL JL (bA) (ae JL JL ?_))
 refine cW (fun h10=>?_) (fun h10=>?_)
 ·refine al JL (ah JL JL (aI (o:=1) Jn JL (by kernel_rfl) JL) (al JL (ak JL JL (ai Jh JL (x3.cell_some (k2.cell (i:=1) JL))) ?_)))
  refine al JL (ah JL JL (aI (o:=1) Jn JL (by kernel_rfl) JL) (al JL (ak JL JL (ai Jh JL (k3.cell (i:=1) JL)) ?_)))
  refine al JL (aj JL JL JL (bA) (aB JL JL JL (ae JL JL ?_)))
  refine cW (fun h17=>?_) (fun h17=>?_)
  ·refine al rfl (ah rfl rfl (aI (o:=2) Tryz.underlying80 rfl (by kernel_rfl) rfl) (al rfl (ak rfl rfl ((k2.ext x3).ldO (ms:=[B a.at_.1,x,y]) (o:=2) (fun j v hj=>by rcases j with _|_|_|_|_|_|_|_|_|j<;>simp_all) Tryz.underlying55 rfl (by kernel_rfl)) ?_)))
   refine al rfl (ah rfl rfl (aI (o:=2) Tryz.underlying80 rfl (by kernel_rfl) rfl) (al rfl (ak rfl rfl (k3.ldO (ms:=[B b.at_.1,p,q]) (o:=2) (fun j v hj=>by rcases j with _|_|_|_|_|_|_|_|_|j<;>simp_all) Tryz.underlying55 rfl (by kernel_rfl)) ?_)))
   refine al JL (am rN JL JL ((HY (a:=a.at_) (b:=b.at_) (ha.ext (x2.trans x3)) (ha'.ext (x2.trans x3)) (hb.ext (x2.trans x3)) (hb'.ext (x2.trans x3)))) ?_)
   rintro v22 w22 ⟨x22,rfl⟩
   refine aB JL JL JL (ac JL JL (ag (ab (au (az JL JL ?_)))))
   exact⟨_,rfl,((x2.trans x3).trans x22),by
    first
    |exact congrArg B (decide_eq_decide.2 ⟨fun h=>eg.ext' h10 h17 h,fun h=>by rw[h]⟩)
    |exact congrArg B (decide_eq_false fun h=>h17 (by rw[h])).symm
    |exact congrArg B (decide_eq_false fun h=>h10 (by rw[h])).symm⟩
  ·refine aq JL JL JL (aq JL JL JL (aq JL JL JL (aq JL JL JL (aq JL JL JL (aH JL JL JL (ac JL JL (ag (ab (au (az JL JL ?_))))))))))
   exact⟨_,rfl,(x2.trans x3),by
    first
    |exact congrArg B (decide_eq_decide.2 ⟨fun h=>eg.ext' h10 h17 h,fun h=>by rw[h]⟩)
    |exact congrArg B (decide_eq_false fun h=>h17 (by rw[h])).symm
    |exact congrArg B (decide_eq_false fun h=>h10 (by rw[h])).symm⟩
 ·refine aq JL JL JL (aq JL JL JL (aq JL JL JL (aq JL JL JL (aq JL JL JL (aH JL JL JL (ae JL JL (aq JL JL JL (aq JL JL JL (aq JL JL JL ?_)))))))))
  refine aq JL JL JL (aq JL JL JL (aH JL JL JL (ac JL JL (ag (ab (au (az JL JL ?_)))))))
  exact⟨_,rfl,(x2.trans x3),by
   first
   |exact congrArg B (decide_eq_decide.2 ⟨fun h=>eg.ext' h10 h17 h,fun h=>by rw[h]⟩)
   |exact congrArg B (decide_eq_false fun h=>h17 (by rw[h])).symm
   |exact congrArg B (decide_eq_false fun h=>h10 (by rw[h])).symm⟩
end Go.Rl
namespace Go.Rl
open Go.RowKit Go.Proofs
section
variable {w:World} {cs:List Value}
theorem j9 {m:cB} (h:Rp w (cd m) cs):∃x y,cs=[I m.kd,I m.ix,I m.lo,I m.hi,B m.co.1,x,y]∧bj m.co.2.1 x w∧bj m.co.2.2 y w:=by
 simp only[cd,nf,bi,Rp.eq_5,Rp.eq_1] at h
 obtain⟨_,_,rfl,⟨_,_,rfl,rfl,_,_,rfl,rfl,_,_,rfl,rfl,_,_,rfl,rfl,rfl⟩,_,_,rfl,h1,rfl⟩:=h
 obtain⟨x,y,rfl,hx,hy⟩:=lW h1
 exact⟨x,y,rfl,hx,hy⟩
theorem EY {d:eg} (h:Rp w (fF d) cs):∃x y,cs=[I d.kd,I d.ix,B d.at_.1,x,y]∧bj d.at_.2.1 x w∧bj d.at_.2.2 y w:=by
 simp only[fF,nf,bi,Rp.eq_5,Rp.eq_1] at h
 obtain⟨_,_,rfl,rfl,_,_,rfl,rfl,_,_,rfl,h1,rfl⟩:=h
 obtain⟨x,y,rfl,hx,hy⟩:=lW h1
 exact⟨x,y,rfl,hx,hy⟩
theorem fz {l:fE} (h:Rp w (dm l) cs):∃x y v,cs=[I l.un,B l.up,B l.va.1,x,y,v]∧bj l.va.2.1 x w∧bj l.va.2.2 y w∧cK cd l.pf v w:=by
 simp only[dm,nf,bi,Rp.eq_5,Rp.eq_1,Rp.eq_2] at h
 obtain⟨_,_,rfl,rfl,_,_,rfl,rfl,_,_,rfl,h1,_,_,rfl,h2,rfl⟩:=h
 obtain⟨x,y,rfl,hx,hy⟩:=lW h1
 obtain⟨v,rfl,hv,_⟩:=Rp.isSlice h2
 exact⟨x,y,v,rfl,hx,hy,hv⟩
theorem dh {n:aN} (h:Rp w (bh n) cs):∃vl x y vk vp,cs=[vl,I n.split.kd,I n.split.ix,B n.split.at_.1,x,y,vk,B n.empty,vp]∧cK dm n.lems vl w∧bj n.split.at_.2.1 x w∧bj n.split.at_.2.2 y w∧cK bh n.kids vk w∧cK cd n.pf vp w:=by
 cases n with
 |mk lems sp ks em pf=>
  simp only[bh,bi,Rp.eq_5,Rp.eq_2,jn] at h
  obtain⟨_,_,rfl,h1,_,_,rfl,h2,_,_,rfl,h3,_,_,rfl,rfl,_,_,rfl,h4,rfl⟩:=h
  obtain⟨vl,rfl,hl,_⟩:=Rp.isSlice h1
  obtain⟨x,y,rfl,hx,hy⟩:=EY h2
  obtain⟨vk,rfl,hk,_⟩:=Rp.isSlice h3
  obtain⟨vp,rfl,hp,_⟩:=Rp.isSlice h4
  exact⟨vl,x,y,vk,vp,rfl,hl,hx,hy,hk,hp⟩
theorem A4 (d:eg):vG d=decide (d=yQ):=by
 cases d with
 |mk a b c=>
  unfold vG yQ
  simp only[eg.mk.injEq]
  by_cases h1:a=0<;>by_cases h2:b=0<;>by_cases h3:c=z0Q<;>simp[h1,h2,h3]
end
end Go.Rl
namespace Go.Rl
open Go.RowKit Go.Proofs
theorem vN {L:Nat} {n x y:aN} (hk:n.kids=[x,y]) (hi:lY n=true):jt (L+1) n=if (jt L x).1=false∨65536<(jt L x).2 then(false,0) else((jt L y).1,1+(jt L x).2+(jt L y).2):=by
 rw[jt];simp only[hk,if_pos hi]
theorem jD {L:Nat} {n:aN} (h0:n.kids.length≠0) (h:n.kids.length≠2∨lY n=false):jt (L+1) n=(false,0):=by
 rw[jt]
 generalize n.kids=ks at h0 h
 rcases ks with _|⟨x,_|⟨y,_|⟨z,t⟩⟩⟩
 ·exact absurd rfl h0
 ·rfl
 ·rcases h with h|h
  ·exact absurd rfl h
  ·simp[h]
 ·rfl
theorem ic {P:Program} {w:World} {s:TypeId} {fs:Array Field} {f:Field} {n g o b:Nat} (hs:P.underlying s=some (.struct fs)) (hf:fs[n]? =some f) (hk:(P.cellsOf f.type==0)=false) (ho:f.offset=o):
 (Instr.fieldAt s (.pointer (some ⟨g,b,none⟩)) n).run P w=.ok (.pointer (some ⟨g,b+o,none⟩)) w:=by
 have hk':P.cellsOf f.type≠0:=by simpa using hk
 obtain⟨k,hk1⟩:∃k,(P.info? f.type).map (·.size)=some k:=by
  cases hi:(P.info? f.type).map (·.size) with
  |none=>exact absurd (by simp[Program.cellsOf,hi]) hk'
  |some k=>exact⟨k,rfl⟩
 have hk0:k≠0:=by
  intro h
  apply hk'
  simp[Program.cellsOf,hk1,h]
 rw[ce hs hf hk1 hk0,ho,np]
theorem EZ {L:Nat} {n:aN} (h0:n.kids.length=0):jt (L+1) n=(vG n.split,1):=by
 rw[jt]
 have:n.kids=[]:=List.eq_nil_of_length_eq_zero h0
 simp only[this]
theorem fA {n:aN} (h:¬(1≤n.split.kd∧n.split.kd≤4∧n.empty=false∧n.pf.length=0)):lY n=false:=by
 unfold lY
 by_cases h1:1≤n.split.kd<;>by_cases h2:n.split.kd≤4<;>by_cases h3:n.pf.length=0<;>cases h4:n.empty<;>simp_all
theorem A5 {n:aN} (h1:1≤n.split.kd) (h2:n.split.kd≤4) (h3:n.empty=false) (h4:n.pf.length=0):lY n=true:=by
 unfold lY
 simp[h1,h2,h3,h4]
theorem zM:∀(L:Nat) (n:aN),(jt L n).2≤65537*L
 |0,_=>Nat.le_refl _
 |L+1,n=>by
  rw[jt]
  generalize n.kids=ks
  rcases ks with _|⟨x,_|⟨y,_|⟨z,t⟩⟩⟩
  ·show 1≤_;omega
  ·show 0≤_;omega
  ·have:=zM L y
   by_cases hi:lY n=true
   ·simp only[if_pos hi]
    split
    ·show 0≤_;omega
    ·rename_i h
     simp only[not_or,Nat.not_lt] at h
     have:=h.2
     show 1+(jt L x).2+(jt L y).2≤_
     omega
   ·simp only[if_neg hi]
    show 0≤_;omega
  ·show 0≤_;omega
theorem sg {ks:List aN} (h:ks.length=2):ks=[ks[0]'(by omega),ks[1]'(by omega)]:=by
 rcases ks with _|⟨x,_|⟨y,_|⟨z,t⟩⟩⟩
 ·simp at h
 ·simp at h
 ·rfl
 ·simp at h
theorem si {w:World} {n:aN} {L d:Nat} {vl x y vk vp:Value} (ih:∀L',L=L'+1→∀{w:World} {n:aN} {vl x y vk vp:Value},cK dm n.lems vl w→bj n.split.at_.2.1 x w→bj n.split.at_.2.2 y w→cK bh n.kids vk w→cK cd n.pf vp w→
 Calls Tryz.prog 104 #[.agg #[vl,I n.split.kd,I n.split.ix,B n.split.at_.1,x,y,vk,B n.empty,vp],I ((d+1:Nat):Int)] w (bD fun r w'=>aG w w'∧r=.tuple #[B (jt L' n).1,I ((jt L' n).2:Int)]))
 (hl:cK dm n.lems vl w) (hx:bj n.split.at_.2.1 x w) (hy:bj n.split.at_.2.2 y w) (hk:cK bh n.kids vk w) (hp:cK cd n.pf vp w) (hd:d+L=2049):
 Calls Tryz.prog 104 #[.agg #[vl,I n.split.kd,I n.split.ix,B n.split.at_.1,x,y,vk,B n.empty,vp],I (d:Int)] w (bD fun r w'=>aG w w'∧r=.tuple #[B (jt L n).1,I ((jt L n).2:Int)]):=by
 refine enter (vs:=[.agg #[vl,I n.split.kd,I n.split.ix,B n.split.at_.1,x,y,vk,B n.empty,vp],I (d:Int)]) Tryz.func104 JL JL JL ?_
 refine af (aa ?_)
 obtain⟨g2,w2,hr2,l2,x2,k2⟩:=cI (P:=Tryz.prog) (w:=w) (T:=83) (cs:=[vl,I n.split.kd,I n.split.ix,B n.split.at_.1,x,y,vk,B n.empty,vp])
 refine cx JL JL hr2 (ac JL JL (ac JL JL (ag (ab (af (af (aa (ae JL JL (aj JL JL JL (cg) (ag (ab ?_)))))))))))
 refine ba JL (fun h11=>?_) (fun h11=>?_)
 ·obtain rfl:L=0:=by omega
  refine af (aa (ac JL JL (ac JL JL (ag (ab (au (ax (aR JL JL JL ?_))))))))
  exact⟨_,rfl,x2,rfl⟩
 ·obtain⟨L',rfl⟩:∃L',L=L'+1:=⟨L-1,by omega⟩
  refine ar (ab (af (af (aa (ah JL JL (aI (o:=6) Jg JL (by kernel_rfl) JL) (ak JL JL (ai Jk JL (k2.cell (i:=6) JL)) ?_))))))
  refine aP JL JL (bO Jk (hk.ext x2)) (aj JL JL JL (bA) (ag (ab ?_)))
  refine ba JL (fun h15=>?_) (fun h15=>?_)
  ·have h0:n.kids.length=0:=by omega
   refine af (aa (ah rfl rfl (aI (o:=1) Tryz.underlying83 rfl (by kernel_rfl) rfl) (ak rfl rfl (k2.ldO (ms:=[I n.split.kd,I n.split.ix,B n.split.at_.1,x,y]) (o:=1) (fun j v hj=>by rcases j with _|_|_|_|_|_|_|_|_|j<;>simp_all) Tryz.underlying80 rfl (by kernel_rfl)) ?_)))
   refine bI (vs:=[]) (r:=.agg #[I 0,I 0,B false,.slice none 0 0,.slice none 0 0]) JL JL (by exact run_build _ _ _ _ (by kernel_rfl)) (am CC JL JL ((CD (a:=n.split) (b:=yQ) (hx.ext x2) (hy.ext x2) (Sl.nil _ _) (Sl.nil _ _))) ?_)
   rintro v19 w19 ⟨x19,rfl⟩
   refine ac JL JL (ac JL JL (ag (ab (au (ax (aR JL JL JL ?_))))))
   exact⟨_,rfl,(x2.trans x19),by rw[EZ h0,A4];rfl⟩
  ·have h0:n.kids.length≠0:=by omega
   refine ar (ab (af (af ?_)))
   have hl2:=hl.ext x2
   have hx2:=hx.ext x2
   have hy2:=hy.ext x2
   have hk2:=hk.ext x2
   have hp2:=hp.ext x2
   rcases hem:n.empty with _|_
   ·have kf:=k2
    rw[hem] at kf
    refine aa (ah JL JL (aI (o:=6) Jg JL (by kernel_rfl) JL) (ak JL JL (ai Jk JL (kf.cell (i:=6) JL)) ?_))
    refine aP JL JL (bO Jk hk2) (aj JL JL JL (dj) (ae JL JL ?_))
    refine cW (fun h24=>?_) (fun h24=>?_)
    ·refine aq JL JL JL (aq JL JL JL (aq JL JL JL (aq JL JL JL (aB JL JL JL (ae JL JL (aq JL JL JL (aq JL JL JL (aq JL JL JL (aq JL JL JL ?_)))))))))
     refine aB JL JL JL (ae JL JL (aq JL JL JL (aq JL JL JL (aB JL JL JL (ae JL JL (aq JL JL JL (aq JL JL JL (aq JL JL JL (aq JL JL JL ?_)))))))))
     refine aB JL JL JL (ag (ab (bJ JL (af (aa (ac JL JL (ac JL JL (ag (ab (au (ax (aR JL JL JL ?_))))))))))))
     exact⟨_,rfl,x2,by
      rw[jD h0 (by
       first
       |exact .inl (by omega)
       |exact .inr (fA fun⟨a1,a2,a3,a4⟩=>by
         first
         |omega
         |(rw[hem] at a3;cases a3)))]
      rfl⟩
    ·refine al JL (ah JL JL (aI (o:=1) Jg JL (by kernel_rfl) JL) (al JL (ah JL JL (ic (b:=1) (o:=0) Jn JL (by kernel_rfl) JL) ?_)))
     refine al JL (ak JL JL (ai Jh JL (kf.cell (i:=1) JL)) (al JL (aj JL JL JL (aS) (aH JL JL JL (ae JL JL ?_)))))
     refine cW (fun h30=>?_) (fun h30=>?_)
     ·refine aq JL JL JL (aq JL JL JL (aq JL JL JL (aq JL JL JL (aB JL JL JL (ae JL JL (aq JL JL JL (aq JL JL JL (aB JL JL JL (ae JL JL ?_)))))))))
      refine aq JL JL JL (aq JL JL JL (aq JL JL JL (aq JL JL JL (aB JL JL JL (ag (ab (bJ JL (af (aa (ac JL JL (ac JL JL (ag ?_))))))))))))
      refine ab (au (ax (aR JL JL JL ?_)))
      exact⟨_,rfl,x2,by
       rw[jD h0 (by
        first
        |exact .inl (by omega)
        |exact .inr (fA fun⟨a1,a2,a3,a4⟩=>by
          first
          |omega
          |(rw[hem] at a3;cases a3)))]
       rfl⟩
     ·refine al JL (ah JL JL (aI (o:=1) Jg JL (by kernel_rfl) JL) (al JL (ah JL JL (ic (b:=1) (o:=0) Jn JL (by kernel_rfl) JL) ?_)))
      refine al JL (ak JL JL (ai Jh JL (kf.cell (i:=1) JL)) (al JL (aj JL JL JL (cg) (aH JL JL JL (ae JL JL ?_)))))
      refine cW (fun h36=>?_) (fun h36=>?_)
      ·refine aq JL JL JL (aq JL JL JL (aB JL JL JL (ae JL JL (aq JL JL JL (aq JL JL JL (aq JL JL JL (aq JL JL JL (aB JL JL JL (ag ?_)))))))))
       refine ab (bJ JL (af (aa (ac JL JL (ac JL JL (ag (ab (au (ax (aR JL JL JL ?_))))))))))
       exact⟨_,rfl,x2,by
        rw[jD h0 (by
         first
         |exact .inl (by omega)
         |exact .inr (fA fun⟨a1,a2,a3,a4⟩=>by
           first
           |omega
           |(rw[hem] at a3;cases a3)))]
        rfl⟩
      ·refine al JL (ah JL JL (aI (o:=7) Jg JL (by kernel_rfl) JL) (al JL (ak JL JL (ai Jq JL (kf.cell (i:=7) JL)) ?_)))
       refine aH JL JL JL (ae JL JL (al JL (ah JL JL (aI (o:=8) Jg JL (by kernel_rfl) JL) (al JL (ak JL JL (ai Jp JL (kf.cell (i:=8) JL)) ?_)))))
       refine al JL (aP JL JL (bO Jp hp2) (al JL (aj JL JL JL (cg) (aH JL JL JL (ag (ab ?_))))))
       refine ba JL (fun h45=>?_) (fun h45=>?_)
       ·refine af (aa (ac JL JL (ac JL JL (ag (ab (au (ax (aR JL JL JL ?_))))))))
        exact⟨_,rfl,x2,by
         rw[jD h0 (by
          first
          |exact .inl (by omega)
          |exact .inr (fA fun⟨a1,a2,a3,a4⟩=>by
            first
            |omega
            |(rw[hem] at a3;cases a3)))]
         rfl⟩
       ·refine ar (ab (af ?_))
        have hk2n:n.kids.length=2:=by omega
        have hks:=sg hk2n
        have hi:=A5 (n:=n) (by omega) (by omega) hem (by omega)
        refine aa (ah JL JL (aI (o:=6) Jg JL (by kernel_rfl) JL) (ak JL JL (ai Jk JL (kf.cell (i:=6) JL)) ?_))
        obtain⟨a49,c49,p49,q49,h49⟩:=cO (P:=Tryz.prog) (sz:=9) Jk (by kernel_rfl) bK (by omega) hk2 (i:=0) (by omega) .i64
        obtain⟨e49,he49⟩:∃e,e=n.kids[0]'(by omega):=⟨_,rfl⟩
        rw[←he49] at h49
        obtain⟨x49_0,x49_1,x49_2,x49_3,x49_4,rfl,f49_0,f49_1,f49_2,f49_3,f49_4⟩:=dh h49
        refine ap JL JL JL (p49 _) (ak JL JL (q49.ld Jg JL (by kernel_rfl)) (ae JL JL (aj (r:=I ((d+1:Nat):Int)) JL JL JL (by have e:((d+1:Nat):Int)=(d:Int)+1:=(by omega);rw[e];exact aE (by omega) (by omega)) ?_)))
        refine am nK JL JL ((ih L' JL f49_0 f49_1 f49_2 f49_3 f49_4)) ?_
        rintro v53 w53 ⟨x53,rfl⟩
        refine ae JL JL (an JL JL (bw) (an JL JL (bz) (ac JL JL (ac JL JL (ag (ab (af (af ?_))))))))
        have he:=zM L' e49
        rcases hb:(jt L' e49).1 with _|_
        ·refine aa (ae JL JL (bB JL JL bF (ae JL JL (aq JL JL JL (aq JL JL JL (aB JL JL JL (ag (ab (bJ JL (af (aa (ac JL JL ?_))))))))))))
         refine ac JL JL (ag (ab (au (ax (aR JL JL JL ?_)))))
         exact⟨_,rfl,(x2.trans x53),by
          rw[vN hks hi,←he49,if_pos (by first|exact .inl hb|exact .inr (by omega))]
          rfl⟩
        ·refine aa (ae JL JL (bB JL JL bF (ae JL JL (al JL (ae JL JL (al JL (aj JL JL JL (cg) (aH JL JL JL (ag (ab ?_))))))))))
         refine ba JL (fun h61=>?_) (fun h61=>?_)
         ·refine af (aa (ac JL JL (ac JL JL (ag (ab (au (ax (aR JL JL JL ?_))))))))
          exact⟨_,rfl,(x2.trans x53),by
           rw[vN hks hi,←he49,if_pos (by first|exact .inl hb|exact .inr (by omega))]
           rfl⟩
         ·refine ar (ab (af (aa (ah JL JL (aI (o:=6) Jg JL (by kernel_rfl) JL) (ak JL JL (ai Jk JL (x53.cell_some (kf.cell (i:=6) JL))) ?_)))))
          obtain⟨a65,c65,p65,q65,h65⟩:=cO (P:=Tryz.prog) (sz:=9) Jk (by kernel_rfl) bK (by omega) (hk2.ext x53) (i:=1) (by omega) .i64
          obtain⟨e65,he65⟩:∃e,e=n.kids[1]'(by omega):=⟨_,rfl⟩
          rw[←he65] at h65
          obtain⟨x65_0,x65_1,x65_2,x65_3,x65_4,rfl,f65_0,f65_1,f65_2,f65_3,f65_4⟩:=dh h65
          refine ap JL JL JL (p65 _) (ak JL JL (q65.ld Jg JL (by kernel_rfl)) (ae JL JL (aj (r:=I ((d+1:Nat):Int)) JL JL JL (by have e:((d+1:Nat):Int)=(d:Int)+1:=(by omega);rw[e];exact aE (by omega) (by omega)) ?_)))
          refine am nK JL JL ((ih L' JL f65_0 f65_1 f65_2 f65_3 f65_4)) ?_
          rintro v69 w69 ⟨x69,rfl⟩
          have hf:=zM L' e65
          refine ae JL JL (an JL JL (bw) (an JL JL (bz) (ac JL JL (ac JL JL (ag (ab (af (aa (ae JL JL (ae JL JL (aj (r:=I ((1+(jt L' e49).2:Nat):Int)) JL JL JL (by have e:((1+(jt L' e49).2:Nat):Int)=1+((jt L' e49).2:Int):=(by omega);rw[e];exact aE (by omega) (by omega)) ?_)))))))))))
          refine ae JL JL (aj (r:=I ((((1+(jt L' e49).2:Nat))+(jt L' e65).2:Nat):Int)) JL JL JL (by have e:((((1+(jt L' e49).2:Nat))+(jt L' e65).2:Nat):Int)=((1+(jt L' e49).2:Nat):Int)+((jt L' e65).2:Int):=(by omega);rw[e];exact aE (by omega) (by omega)) ?_)
          refine ac JL JL (ac JL JL (ag (ab (au (aR JL JL JL ?_)))))
          exact⟨_,rfl,((x2.trans x53).trans x69),by
           rw[vN hks hi,←he49,←he65,if_neg (by rw[hb];simp;omega)]⟩
   ·have kf:=k2
    rw[hem] at kf
    refine aa (ah JL JL (aI (o:=6) Jg JL (by kernel_rfl) JL) (ak JL JL (ai Jk JL (kf.cell (i:=6) JL)) ?_))
    refine aP JL JL (bO Jk hk2) (aj JL JL JL (dj) (ae JL JL ?_))
    refine cW (fun h24=>?_) (fun h24=>?_)
    ·refine aq JL JL JL (aq JL JL JL (aq JL JL JL (aq JL JL JL (aB JL JL JL (ae JL JL (aq JL JL JL (aq JL JL JL (aq JL JL JL (aq JL JL JL ?_)))))))))
     refine aB JL JL JL (ae JL JL (aq JL JL JL (aq JL JL JL (aB JL JL JL (ae JL JL (aq JL JL JL (aq JL JL JL (aq JL JL JL (aq JL JL JL ?_)))))))))
     refine aB JL JL JL (ag (ab (bJ JL (af (aa (ac JL JL (ac JL JL (ag (ab (au (ax (aR JL JL JL ?_))))))))))))
     exact⟨_,rfl,x2,by
      rw[jD h0 (by
       first
       |exact .inl (by omega)
       |exact .inr (fA fun⟨a1,a2,a3,a4⟩=>by
         first
         |omega
         |(rw[hem] at a3;cases a3)))]
      rfl⟩
    ·refine al JL (ah JL JL (aI (o:=1) Jg JL (by kernel_rfl) JL) (al JL (ah JL JL (ic (b:=1) (o:=0) Jn JL (by kernel_rfl) JL) ?_)))
     refine al JL (ak JL JL (ai Jh JL (kf.cell (i:=1) JL)) (al JL (aj JL JL JL (aS) (aH JL JL JL (ae JL JL ?_)))))
     refine cW (fun h30=>?_) (fun h30=>?_)
     ·refine aq JL JL JL (aq JL JL JL (aq JL JL JL (aq JL JL JL (aB JL JL JL (ae JL JL (aq JL JL JL (aq JL JL JL (aB JL JL JL (ae JL JL ?_)))))))))
      refine aq JL JL JL (aq JL JL JL (aq JL JL JL (aq JL JL JL (aB JL JL JL (ag (ab (bJ JL (af (aa (ac JL JL (ac JL JL (ag ?_))))))))))))
      refine ab (au (ax (aR JL JL JL ?_)))
      exact⟨_,rfl,x2,by
       rw[jD h0 (by
        first
        |exact .inl (by omega)
        |exact .inr (fA fun⟨a1,a2,a3,a4⟩=>by
          first
          |omega
          |(rw[hem] at a3;cases a3)))]
       rfl⟩
     ·refine al JL (ah JL JL (aI (o:=1) Jg JL (by kernel_rfl) JL) (al JL (ah JL JL (ic (b:=1) (o:=0) Jn JL (by kernel_rfl) JL) ?_)))
      refine al JL (ak JL JL (ai Jh JL (kf.cell (i:=1) JL)) (al JL (aj JL JL JL (cg) (aH JL JL JL (ae JL JL ?_)))))
      refine cW (fun h36=>?_) (fun h36=>?_)
      ·refine aq JL JL JL (aq JL JL JL (aB JL JL JL (ae JL JL (aq JL JL JL (aq JL JL JL (aq JL JL JL (aq JL JL JL (aB JL JL JL (ag ?_)))))))))
       refine ab (bJ JL (af (aa (ac JL JL (ac JL JL (ag (ab (au (ax (aR JL JL JL ?_))))))))))
       exact⟨_,rfl,x2,by
        rw[jD h0 (by
         first
         |exact .inl (by omega)
         |exact .inr (fA fun⟨a1,a2,a3,a4⟩=>by
           first
           |omega
           |(rw[hem] at a3;cases a3)))]
        rfl⟩
      ·refine al JL (ah JL JL (aI (o:=7) Jg JL (by kernel_rfl) JL) (al JL (ak JL JL (ai Jq JL (kf.cell (i:=7) JL)) ?_)))
       refine aH JL JL JL (ae JL JL (aq JL JL JL (aq JL JL JL (aq JL JL JL (aq JL JL JL (aB JL JL JL (ag (ab (bJ JL (af (aa ?_)))))))))))
       refine ac JL JL (ac JL JL (ag (ab (au (ax (aR JL JL JL ?_))))))
       exact⟨_,rfl,x2,by
        rw[jD h0 (by
         first
         |exact .inl (by omega)
         |exact .inr (fA fun⟨a1,a2,a3,a4⟩=>by
           first
           |omega
           |(rw[hem] at a3;cases a3)))]
        rfl⟩
theorem sj:∀(L d:Nat),d+L=2049→∀{w:World} {n:aN} {vl x y vk vp:Value},cK dm n.lems vl w→bj n.split.at_.2.1 x w→bj n.split.at_.2.2 y w→cK bh n.kids vk w→cK cd n.pf vp w→
 Calls Tryz.prog 104 #[.agg #[vl,I n.split.kd,I n.split.ix,B n.split.at_.1,x,y,vk,B n.empty,vp],I (d:Int)] w (bD fun r w'=>aG w w'∧r=.tuple #[B (jt L n).1,I ((jt L n).2:Int)])
 |0,_,hd,_,_,_,_,_,_,_,hl,hx,hy,hk,hp=>si (fun _ e=>by cases e) hl hx hy hk hp hd
 |L+1,d,hd,_,_,_,_,_,_,_,hl,hx,hy,hk,hp=>si (fun L' e _ _ _ _ _ _ _ h1 h2 h3 h4 h5=>by
   cases e
   exact sj L (d+1) (by omega) h1 h2 h3 h4 h5) hl hx hy hk hp hd
theorem ma {w:World} {n:aN} {vl x y vk vp:Value} (hl:cK dm n.lems vl w) (hx:bj n.split.at_.2.1 x w) (hy:bj n.split.at_.2.2 y w) (hk:cK bh n.kids vk w) (hp:cK cd n.pf vp w):
 Calls Tryz.prog 50 #[.agg #[vl,I n.split.kd,I n.split.ix,B n.split.at_.1,x,y,vk,B n.empty,vp]] w (bD fun r w'=>aG w w'∧r=B (eS n)):=by
 refine enter (vs:=[.agg #[vl,I n.split.kd,I n.split.ix,B n.split.at_.1,x,y,vk,B n.empty,vp]]) Tryz.func50 JL JL JL ?_
 refine af (aa ?_)
 obtain⟨g1,w1,hr1,l1,x1,k1⟩:=cI (P:=Tryz.prog) (w:=w) (T:=83) (cs:=[vl,I n.split.kd,I n.split.ix,B n.split.at_.1,x,y,vk,B n.empty,vp])
 refine cx JL JL hr1 (ac JL JL (ag (ab (af (aa (ak JL JL (k1.ld Jg JL (by kernel_rfl)) (am nK JL JL ((sj 2049 0 JL (hl.ext x1) (hx.ext x1) (hy.ext x1) (hk.ext x1) (hp.ext x1))) ?_)))))))
 rintro v7 w7 ⟨x7,rfl⟩
 refine ae JL JL (an JL JL (bw) (an JL JL (bz) (ac JL JL (ac JL JL (ag (ab (af ?_)))))))
 have hv:=EX n
 rcases hb:(jt 2049 n).1 with _|_
 ·refine aa (ae JL JL (ae JL JL (aq JL JL JL (aq JL JL JL (aH JL JL JL (ac JL JL (ag (ab (au (az JL JL ?_))))))))))
  exact⟨_,rfl,(x1.trans x7),by rw[←hv,hb];rfl⟩
 ·refine aa (ae JL JL (ae JL JL (al JL (ae JL JL (al JL (aj JL JL JL (kB) (aB JL JL JL (ac JL JL (ag (ab (au (az JL JL ?_))))))))))))
  exact⟨_,rfl,(x1.trans x7),by rw[←hv,hb,Bool.true_and];exact congrArg B (decide_eq_decide.2 (by omega))⟩
end Go.Rl
namespace Go.Rl
open Go.RowKit Go.Proofs
theorem ub {d:Nat} {m:Int} {n:aN} (h:m<1):jO d m n=(0,false):=by rw[jO.eq_def];exact if_pos h
theorem xY {d:Nat} {m:Int} {n:aN} (h:¬m<1) (h0:n.kids.length=0):jO d m n=(1,vG n.split):=by
 have:n.kids=[]:=List.eq_nil_of_length_eq_zero h0
 rw[jO.eq_def]
 simp only[if_neg h,this]
theorem ir {d:Nat} {m:Int} {n:aN} (hm:¬m<1) (h0:n.kids.length≠0) (h:n.kids.length≠2∨lY n=false∨d=0):jO d m n=(0,false):=by
 rw[jO.eq_def]
 simp only[if_neg hm]
 generalize n.kids=ks at h0 h
 rcases ks with _|⟨x,_|⟨y,_|⟨z,t⟩⟩⟩
 ·exact absurd rfl h0
 ·rfl
 ·rcases h with h|h|h
  ·exact absurd rfl h
  ·simp[h]
  ·subst h
   simp
 ·rfl
theorem vO {d:Nat} {m:Int} {n x y:aN} (hm:¬m<1) (hk:n.kids=[x,y]) (hi:lY n=true):jO (d+1) m n=if (jO d (m-1) x).2=false then(0,false) else(1+(jO d (m-1) x).1+(jO d (m-1-(jO d (m-1) x).1) y).1,(jO d (m-1-(jO d (m-1) x).1) y).2):=by
 rw[jO.eq_def]
 simp only[if_neg hm,hk,if_pos hi]
theorem E0 {m A C:Int} (hm:¬m<1) (a:0≤A∧A≤max 0 (m-1)) (b:0≤C∧C≤max 0 (m-1-A)):0≤1+A+C∧1+A+C≤max 0 m:=by omega
theorem vP:∀(d:Nat) (m:Int) (n:aN),0≤(jO d m n).1∧(jO d m n).1≤max 0 m
 |d,m,n=>by
  by_cases hm:m<1
  ·rw[ub hm];exact⟨Int.le_refl _,by show(0:Int)≤_;omega⟩
  ·by_cases h0:n.kids.length=0
   ·rw[xY hm h0];exact⟨by show(0:Int)≤1;omega,by show(1:Int)≤_;omega⟩
   ·by_cases hb:n.kids.length≠2∨lY n=false∨d=0
    ·rw[ir hm h0 hb];exact⟨Int.le_refl _,by show(0:Int)≤_;omega⟩
    ·simp only[not_or,Bool.not_eq_false] at hb
     obtain⟨h2,hi,hd⟩:=hb
     obtain⟨d',rfl⟩:∃d',d=d'+1:=⟨d-1,by omega⟩
     rw[vO hm (sg (by omega)) hi]
     split
     ·exact⟨Int.le_refl _,by show(0:Int)≤_;omega⟩
     ·have a:=vP d' (m-1) (n.kids[0]'(by omega))
      have b:=vP d' (m-1-(jO d' (m-1) (n.kids[0]'(by omega))).1) (n.kids[1]'(by omega))
      exact E0 hm a b
theorem sm {w:World} {n:aN} {d:Nat} {m:Int} {vl x y vk vp:Value} (ih:∀d',d=d'+1→∀{w:World} {n:aN} {m:Int} {vl x y vk vp:Value},0≤m→m≤65536→cK dm n.lems vl w→bj n.split.at_.2.1 x w→bj n.split.at_.2.2 y w→cK bh n.kids vk w→cK cd n.pf vp w→
 Calls Tryz.prog 114 #[.agg #[vl,I n.split.kd,I n.split.ix,B n.split.at_.1,x,y,vk,B n.empty,vp],I (d':Int),I m] w (bD fun r w'=>aG w w'∧r=.tuple #[I (jO d' m n).1,B (jO d' m n).2]))
 (hd:d≤2048) (hm0:0≤m) (hm1:m≤65536) (hl:cK dm n.lems vl w) (hx:bj n.split.at_.2.1 x w) (hy:bj n.split.at_.2.2 y w) (hk:cK bh n.kids vk w) (hp:cK cd n.pf vp w):
 Calls Tryz.prog 114 #[.agg #[vl,I n.split.kd,I n.split.ix,B n.split.at_.1,x,y,vk,B n.empty,vp],I (d:Int),I m] w (bD fun r w'=>aG w w'∧r=.tuple #[I (jO d m n).1,B (jO d m n).2]):=by
 refine enter (vs:=[.agg #[vl,I n.split.kd,I n.split.ix,B n.split.at_.1,x,y,vk,B n.empty,vp],I (d:Int),I m]) Tryz.func114 JL JL JL ?_
 have hl2:=hl
 refine af (aa ?_)
 obtain⟨g3,w3,hr3,l3,x3,k3⟩:=cI (P:=Tryz.prog) (w:=w) (T:=83) (cs:=[vl,I n.split.kd,I n.split.ix,B n.split.at_.1,x,y,vk,B n.empty,vp])
 refine cx JL JL hr3 (ac JL JL (ac JL JL (ag (ab (af (af (aa (ae JL JL (aj JL JL JL (aS) (ag (ab ?_)))))))))))
 refine ba JL (fun h12=>?_) (fun h12=>?_)
 ·have hm:m<1:=h12
  refine af (aa (ac JL JL (ac JL JL (ag (ab (au (ax (aR JL JL JL ?_))))))))
  exact⟨_,rfl,x3,by rw[ub hm]<;>rfl⟩
 ·have hm:¬m<1:=h12
  refine ar (ab (af (af (aa (ah JL JL (aI (o:=6) Jg JL (by kernel_rfl) JL) (ak JL JL (ai Jk JL (k3.cell (i:=6) JL)) ?_))))))
  refine aP JL JL (bO Jk (hk.ext x3)) (aj JL JL JL (bA) (ag (ab ?_)))
  refine ba JL (fun h16=>?_) (fun h16=>?_)
  ·have h0:n.kids.length=0:=by omega
   refine af (aa (ah rfl rfl (aI (o:=1) Tryz.underlying83 rfl (by kernel_rfl) rfl) (ak rfl rfl (k3.ldO (ms:=[I n.split.kd,I n.split.ix,B n.split.at_.1,x,y]) (o:=1) (fun j v hj=>by rcases j with _|_|_|_|_|_|_|_|_|j<;>simp_all) Tryz.underlying80 rfl (by kernel_rfl)) ?_)))
   refine bI (vs:=[]) (r:=.agg #[I 0,I 0,B false,.slice none 0 0,.slice none 0 0]) JL JL (by exact run_build _ _ _ _ (by kernel_rfl)) (am vK JL JL ((vM (a:=n.split) (b:=yQ) (hx.ext x3) (hy.ext x3) (Sl.nil _ _) (Sl.nil _ _))) ?_)
   rintro v20 w20 ⟨x20,rfl⟩
   refine ac JL JL (ac JL JL (ag (ab (au (ax (aR JL JL JL ?_))))))
   exact⟨_,rfl,(x3.trans x20),by rw[xY hm h0,A4];rfl⟩
  ·have h0:n.kids.length≠0:=by omega
   refine ar (ab (af (af ?_)))
   have hl2:=hl.ext x3
   have hx2:=hx.ext x3
   have hy2:=hy.ext x3
   have hk2:=hk.ext x3
   have hp2:=hp.ext x3
   rcases hem:n.empty with _|_
   ·have kf:=k3
    rw[hem] at kf
    refine aa (ah JL JL (aI (o:=6) Jg JL (by kernel_rfl) JL) (ak JL JL (ai Jk JL (kf.cell (i:=6) JL)) ?_))
    refine aP JL JL (bO Jk hk2) (aj JL JL JL (dj) (ae JL JL ?_))
    refine cW (fun h25=>?_) (fun h25=>?_)
    ·refine aq JL JL JL (aq JL JL JL (aq JL JL JL (aq JL JL JL (aB JL JL JL (ae JL JL (aq JL JL JL (aq JL JL JL (aq JL JL JL (aq JL JL JL ?_)))))))))
     refine aB JL JL JL (ae JL JL (aq JL JL JL (aq JL JL JL (aB JL JL JL (ae JL JL (aq JL JL JL (aq JL JL JL (aq JL JL JL (aq JL JL JL ?_)))))))))
     refine aB JL JL JL (ae JL JL (aq JL JL JL (aq JL JL JL (aB JL JL JL (ag (ab (bJ JL (af (aa (ac JL JL (ac JL JL ?_)))))))))))
     refine ag (ab (au (ax (aR JL JL JL ?_))))
     exact⟨_,rfl,x3,by
      rw[ir hm h0 (by
       first
       |exact .inl (by omega)
       |exact .inr (.inr (by omega))
       |exact .inr (.inl (fA fun⟨a1,a2,a3,a4⟩=>by
         first
         |omega
         |(rw[hem] at a3;cases a3))))]<;>rfl⟩
    ·refine al JL (ah JL JL (aI (o:=1) Jg JL (by kernel_rfl) JL) (al JL (ah JL JL (ic (b:=1) (o:=0) Jn JL (by kernel_rfl) JL) ?_)))
     refine al JL (ak JL JL (ai Jh JL (kf.cell (i:=1) JL)) (al JL (aj JL JL JL (aS) (aH JL JL JL (ae JL JL ?_)))))
     refine cW (fun h31=>?_) (fun h31=>?_)
     ·refine aq JL JL JL (aq JL JL JL (aq JL JL JL (aq JL JL JL (aB JL JL JL (ae JL JL (aq JL JL JL (aq JL JL JL (aB JL JL JL (ae JL JL ?_)))))))))
      refine aq JL JL JL (aq JL JL JL (aq JL JL JL (aq JL JL JL (aB JL JL JL (ae JL JL (aq JL JL JL (aq JL JL JL (aB JL JL JL (ag ?_)))))))))
      refine ab (bJ JL (af (aa (ac JL JL (ac JL JL (ag (ab (au (ax (aR JL JL JL ?_))))))))))
      exact⟨_,rfl,x3,by
       rw[ir hm h0 (by
        first
        |exact .inl (by omega)
        |exact .inr (.inr (by omega))
        |exact .inr (.inl (fA fun⟨a1,a2,a3,a4⟩=>by
          first
          |omega
          |(rw[hem] at a3;cases a3))))]<;>rfl⟩
     ·refine al JL (ah JL JL (aI (o:=1) Jg JL (by kernel_rfl) JL) (al JL (ah JL JL (ic (b:=1) (o:=0) Jn JL (by kernel_rfl) JL) ?_)))
      refine al JL (ak JL JL (ai Jh JL (kf.cell (i:=1) JL)) (al JL (aj JL JL JL (cg) (aH JL JL JL (ae JL JL ?_)))))
      refine cW (fun h37=>?_) (fun h37=>?_)
      ·refine aq JL JL JL (aq JL JL JL (aB JL JL JL (ae JL JL (aq JL JL JL (aq JL JL JL (aq JL JL JL (aq JL JL JL (aB JL JL JL (ae JL JL ?_)))))))))
       refine aq JL JL JL (aq JL JL JL (aB JL JL JL (ag (ab (bJ JL (af (aa (ac JL JL (ac JL JL (ag (ab (au (ax (aR JL JL JL ?_))))))))))))))
       exact⟨_,rfl,x3,by
        rw[ir hm h0 (by
         first
         |exact .inl (by omega)
         |exact .inr (.inr (by omega))
         |exact .inr (.inl (fA fun⟨a1,a2,a3,a4⟩=>by
           first
           |omega
           |(rw[hem] at a3;cases a3))))]<;>rfl⟩
      ·refine al JL (ah JL JL (aI (o:=7) Jg JL (by kernel_rfl) JL) (al JL (ak JL JL (ai Jq JL (kf.cell (i:=7) JL)) ?_)))
       refine aH JL JL JL (ae JL JL (al JL (ah JL JL (aI (o:=8) Jg JL (by kernel_rfl) JL) (al JL (ak JL JL (ai Jp JL (kf.cell (i:=8) JL)) ?_)))))
       refine al JL (aP JL JL (bO Jp hp2) (al JL (aj JL JL JL (cg) (aH JL JL JL (ae JL JL ?_)))))
       refine cW (fun h47=>?_) (fun h47=>?_)
       ·refine aq JL JL JL (aq JL JL JL (aB JL JL JL (ag (ab (bJ JL (af (aa (ac JL JL (ac JL JL (ag (ab (au (ax (aR JL JL JL ?_))))))))))))))
        exact⟨_,rfl,x3,by
         rw[ir hm h0 (by
          first
          |exact .inl (by omega)
          |exact .inr (.inr (by omega))
          |exact .inr (.inl (fA fun⟨a1,a2,a3,a4⟩=>by
            first
            |omega
            |(rw[hem] at a3;cases a3))))]<;>rfl⟩
       ·refine al JL (ae JL JL (al JL (aj JL JL JL (bA) (aH JL JL JL (ag (ab ?_))))))
        refine ba JL (fun h50=>?_) (fun h50=>?_)
        ·refine af (aa (ac JL JL (ac JL JL (ag (ab (au (ax (aR JL JL JL ?_))))))))
         exact⟨_,rfl,x3,by
          rw[ir hm h0 (by
           first
           |exact .inl (by omega)
           |exact .inr (.inr (by omega))
           |exact .inr (.inl (fA fun⟨a1,a2,a3,a4⟩=>by
             first
             |omega
             |(rw[hem] at a3;cases a3))))]<;>rfl⟩
        ·refine ar (ab (af ?_))
         have hk2n:n.kids.length=2:=by omega
         have hks:=sg hk2n
         have hi:=A5 (n:=n) (by omega) (by omega) hem (by omega)
         obtain⟨d',rfl⟩:∃d',d=d'+1:=⟨d-1,by omega⟩
         refine aa (ah JL JL (aI (o:=6) Jg JL (by kernel_rfl) JL) (ak JL JL (ai Jk JL (kf.cell (i:=6) JL)) ?_))
         obtain⟨a54,c54,p54,q54,h54⟩:=cO (P:=Tryz.prog) (sz:=9) Jk (by kernel_rfl) bK (by omega) hk2 (i:=0) (by omega) .i64
         obtain⟨e54,he54⟩:∃e,e=n.kids[0]'(by omega):=⟨_,rfl⟩
         rw[←he54] at h54
         obtain⟨x54_0,x54_1,x54_2,x54_3,x54_4,rfl,f54_0,f54_1,f54_2,f54_3,f54_4⟩:=dh h54
         refine ap JL JL JL (p54 _) (ak JL JL (q54.ld Jg JL (by kernel_rfl)) (ae JL JL (aj (r:=I (d':Int)) JL JL JL ((by have e:((d':Nat):Int)=((d'+1:Nat):Int)-1:=(by omega);rw[e];exact aY (by omega) (by omega))) ?_)))
         refine ae JL JL (aj (r:=I (m-1)) JL JL JL (aY (by omega) (by omega)) (am jP JL JL ((ih d' JL (by omega) (by omega) f54_0 f54_1 f54_2 f54_3 f54_4)) ?_))
         rintro v60 w60 ⟨x60,rfl⟩
         have hb1:=vP d' (m-1) e54
         refine ae JL JL (an JL JL (bw) (an JL JL (bz) (ac JL JL (ac JL JL (ag (ab (af (af ?_))))))))
         have hz:=vI d' (m-1) e54
         rcases hb:(jO d' (m-1) e54).2 with _|_
         ·refine aa (ae JL JL (bB JL JL bF (ag (ab (bJ JL (af (aa (ac JL JL (ac JL JL (ag (ab (au (ax (aR JL JL JL ?_))))))))))))))
          exact⟨_,rfl,(x3.trans x60),by rw[vO hm hks hi,←he54,if_pos hb]<;>rfl⟩
         ·refine aa (ae JL JL (bB JL JL bF (ag (ab (dI JL (ar (ab (af (aa (ah JL JL (aI (o:=6) Jg JL (by kernel_rfl) JL) ?_))))))))))
          refine ak JL JL (ai Jk JL (x60.cell_some (kf.cell (i:=6) JL))) ?_
          obtain⟨a68,c68,p68,q68,h68⟩:=cO (P:=Tryz.prog) (sz:=9) Jk (by kernel_rfl) bK (by omega) (hk2.ext x60) (i:=1) (by omega) .i64
          obtain⟨e68,he68⟩:∃e,e=n.kids[1]'(by omega):=⟨_,rfl⟩
          rw[←he68] at h68
          obtain⟨x68_0,x68_1,x68_2,x68_3,x68_4,rfl,f68_0,f68_1,f68_2,f68_3,f68_4⟩:=dh h68
          refine ap JL JL JL (p68 _) (ak JL JL (q68.ld Jg JL (by kernel_rfl)) (ae JL JL (aj (r:=I (d':Int)) JL JL JL ((by have e:((d':Nat):Int)=((d'+1:Nat):Int)-1:=(by omega);rw[e];exact aY (by omega) (by omega))) ?_)))
          refine ae JL JL (aj (r:=I (m-1)) JL JL JL (aY (by omega) (by omega)) (ae JL JL (aj (r:=I (m-1-(jO d' (m-1) e54).1)) JL JL JL (aY (by omega) (by omega)) ?_)))
          refine am jP JL JL ((ih d' JL (by omega) (by omega) f68_0 f68_1 f68_2 f68_3 f68_4)) ?_
          rintro v76 w76 ⟨x76,rfl⟩
          have hb2:=vP d' (m-1-(jO d' (m-1) e54).1) e68
          refine ae JL JL (an JL JL (bw) (an JL JL (bz) (ac JL JL (ac JL JL (ag (ab (af (aa (ae JL JL (aj (r:=I (1+(jO d' (m-1) e54).1)) JL JL JL (aE (by omega) (by omega)) ?_))))))))))
          refine ae JL JL (aj (r:=I (1+(jO d' (m-1) e54).1+(jO d' (m-1-(jO d' (m-1) e54).1) e68).1)) JL JL JL (aE (by omega) (by omega)) ?_)
          refine ae JL JL (ac JL JL (ac JL JL (ag (ab (au (aR JL JL JL ?_))))))
          exact⟨_,rfl,((x3.trans x60).trans x76),by rw[vO hm hks hi,←he54,←he68,if_neg (by rw[hb];simp)]⟩
   ·have kf:=k3
    rw[hem] at kf
    refine aa (ah JL JL (aI (o:=6) Jg JL (by kernel_rfl) JL) (ak JL JL (ai Jk JL (kf.cell (i:=6) JL)) ?_))
    refine aP JL JL (bO Jk hk2) (aj JL JL JL (dj) (ae JL JL ?_))
    refine cW (fun h25=>?_) (fun h25=>?_)
    ·refine aq JL JL JL (aq JL JL JL (aq JL JL JL (aq JL JL JL (aB JL JL JL (ae JL JL (aq JL JL JL (aq JL JL JL (aq JL JL JL (aq JL JL JL ?_)))))))))
     refine aB JL JL JL (ae JL JL (aq JL JL JL (aq JL JL JL (aB JL JL JL (ae JL JL (aq JL JL JL (aq JL JL JL (aq JL JL JL (aq JL JL JL ?_)))))))))
     refine aB JL JL JL (ae JL JL (aq JL JL JL (aq JL JL JL (aB JL JL JL (ag (ab (bJ JL (af (aa (ac JL JL (ac JL JL ?_)))))))))))
     refine ag (ab (au (ax (aR JL JL JL ?_))))
     exact⟨_,rfl,x3,by
      rw[ir hm h0 (by
       first
       |exact .inl (by omega)
       |exact .inr (.inr (by omega))
       |exact .inr (.inl (fA fun⟨a1,a2,a3,a4⟩=>by
         first
         |omega
         |(rw[hem] at a3;cases a3))))]<;>rfl⟩
    ·refine al JL (ah JL JL (aI (o:=1) Jg JL (by kernel_rfl) JL) (al JL (ah JL JL (ic (b:=1) (o:=0) Jn JL (by kernel_rfl) JL) ?_)))
     refine al JL (ak JL JL (ai Jh JL (kf.cell (i:=1) JL)) (al JL (aj JL JL JL (aS) (aH JL JL JL (ae JL JL ?_)))))
     refine cW (fun h31=>?_) (fun h31=>?_)
     ·refine aq JL JL JL (aq JL JL JL (aq JL JL JL (aq JL JL JL (aB JL JL JL (ae JL JL (aq JL JL JL (aq JL JL JL (aB JL JL JL (ae JL JL ?_)))))))))
      refine aq JL JL JL (aq JL JL JL (aq JL JL JL (aq JL JL JL (aB JL JL JL (ae JL JL (aq JL JL JL (aq JL JL JL (aB JL JL JL (ag ?_)))))))))
      refine ab (bJ JL (af (aa (ac JL JL (ac JL JL (ag (ab (au (ax (aR JL JL JL ?_))))))))))
      exact⟨_,rfl,x3,by
       rw[ir hm h0 (by
        first
        |exact .inl (by omega)
        |exact .inr (.inr (by omega))
        |exact .inr (.inl (fA fun⟨a1,a2,a3,a4⟩=>by
          first
          |omega
          |(rw[hem] at a3;cases a3))))]<;>rfl⟩
     ·refine al JL (ah JL JL (aI (o:=1) Jg JL (by kernel_rfl) JL) (al JL (ah JL JL (ic (b:=1) (o:=0) Jn JL (by kernel_rfl) JL) ?_)))
      refine al JL (ak JL JL (ai Jh JL (kf.cell (i:=1) JL)) (al JL (aj JL JL JL (cg) (aH JL JL JL (ae JL JL ?_)))))
      refine cW (fun h37=>?_) (fun h37=>?_)
      ·refine aq JL JL JL (aq JL JL JL (aB JL JL JL (ae JL JL (aq JL JL JL (aq JL JL JL (aq JL JL JL (aq JL JL JL (aB JL JL JL (ae JL JL ?_)))))))))
       refine aq JL JL JL (aq JL JL JL (aB JL JL JL (ag (ab (bJ JL (af (aa (ac JL JL (ac JL JL (ag (ab (au (ax (aR JL JL JL ?_))))))))))))))
       exact⟨_,rfl,x3,by
        rw[ir hm h0 (by
         first
         |exact .inl (by omega)
         |exact .inr (.inr (by omega))
         |exact .inr (.inl (fA fun⟨a1,a2,a3,a4⟩=>by
           first
           |omega
           |(rw[hem] at a3;cases a3))))]<;>rfl⟩
      ·refine al JL (ah JL JL (aI (o:=7) Jg JL (by kernel_rfl) JL) (al JL (ak JL JL (ai Jq JL (kf.cell (i:=7) JL)) ?_)))
       refine aH JL JL JL (ae JL JL (aq JL JL JL (aq JL JL JL (aq JL JL JL (aq JL JL JL (aB JL JL JL (ae JL JL (aq JL JL JL (aq JL JL JL ?_)))))))))
       refine aB JL JL JL (ag (ab (bJ JL (af (aa (ac JL JL (ac JL JL (ag (ab (au (ax (aR JL JL JL ?_))))))))))))
       exact⟨_,rfl,x3,by
        rw[ir hm h0 (by
         first
         |exact .inl (by omega)
         |exact .inr (.inr (by omega))
         |exact .inr (.inl (fA fun⟨a1,a2,a3,a4⟩=>by
           first
           |omega
           |(rw[hem] at a3;cases a3))))]<;>rfl⟩
theorem sn:∀(d:Nat),d≤2048→∀{w:World} {n:aN} {m:Int} {vl x y vk vp:Value},0≤m→m≤65536→cK dm n.lems vl w→bj n.split.at_.2.1 x w→bj n.split.at_.2.2 y w→cK bh n.kids vk w→cK cd n.pf vp w→
 Calls Tryz.prog 114 #[.agg #[vl,I n.split.kd,I n.split.ix,B n.split.at_.1,x,y,vk,B n.empty,vp],I (d:Int),I m] w (bD fun r w'=>aG w w'∧r=.tuple #[I (jO d m n).1,B (jO d m n).2])
 |0,hd,_,_,_,_,_,_,_,_,h0,h1,hl,hx,hy,hk,hp=>sm (fun _ e=>by cases e) hd h0 h1 hl hx hy hk hp
 |d+1,hd,_,_,_,_,_,_,_,_,h0,h1,hl,hx,hy,hk,hp=>sm (fun d' e _ _ _ _ _ _ _ _ a0 a1 b1 b2 b3 b4 b5=>by
   cases e
   exact sn d (by omega) a0 a1 b1 b2 b3 b4 b5) hd h0 h1 hl hx hy hk hp
theorem pE {w:World} {n:aN} {vl x y vk vp:Value} (hl:cK dm n.lems vl w) (hx:bj n.split.at_.2.1 x w) (hy:bj n.split.at_.2.2 y w) (hk:cK bh n.kids vk w) (hp:cK cd n.pf vp w):
 Calls Tryz.prog 55 #[.agg #[vl,I n.split.kd,I n.split.ix,B n.split.at_.1,x,y,vk,B n.empty,vp]] w (bD fun r w'=>aG w w'∧r=B (eS n)):=by
 refine enter (vs:=[.agg #[vl,I n.split.kd,I n.split.ix,B n.split.at_.1,x,y,vk,B n.empty,vp]]) Tryz.func55 JL JL JL ?_
 refine af (aa ?_)
 obtain⟨g1,w1,hr1,l1,x1,k1⟩:=cI (P:=Tryz.prog) (w:=w) (T:=83) (cs:=[vl,I n.split.kd,I n.split.ix,B n.split.at_.1,x,y,vk,B n.empty,vp])
 refine cx JL JL hr1 (ac JL JL (ag (ab (af (aa (ak JL JL (k1.ld Jg JL (by kernel_rfl)) (am jP JL JL ((sn 2048 (Nat.le_refl _) (m:=65536) (by omega) (by omega) (hl.ext x1) (hx.ext x1) (hy.ext x1) (hk.ext x1) (hp.ext x1))) ?_)))))))
 rintro v7 w7 ⟨x7,rfl⟩
 refine ae JL JL (an JL JL (bw) (an JL JL (bz) (ac JL JL (ac JL JL (ag (ab (af (aa (ae JL JL (ac JL JL ?_))))))))))
 refine ag (ab (au (az JL JL ?_)))
 exact⟨_,rfl,(x1.trans x7),by rw[EW n]⟩
end Go.Rl
namespace Go.Rl
open Go.RowKit
def gL (q:fx):Bool:=rv q.1 q.2.1 q.2.2
def pG (l:List cB):Bool:=l.all fun m=>gL m.co
def jv (l:fE):Bool:=gL l.va&&pG l.pf
mutual
def eU:aN→Bool
 |.mk lems sp kids _ pf=>pG pf&&gL sp.at_&&lems.all jv&&sq kids
def sq:List aN→Bool
 |[]=>true
 |n::l=>eU n&&sq l
end
theorem uc:∀l:List aN,sq l=l.all eU
 |[]=>rfl
 |n::l=>by simp only[sq,List.all_cons,uc l]
theorem GE (n:aN):eU n=(pG n.pf&&gL n.split.at_&&n.lems.all jv&&n.kids.all eU):=by
 cases n with
 |mk l s k e p=>simp only[eU,uc];rfl
def wMu (m:cB):Prop:=mO m.kd∧mO m.ix∧mO m.lo∧mO m.hi
def wP (l:List cB):Prop:=∀m∈l,wMu m
def Iu (l:fE):Prop:=mO l.un∧wP l.pf
def wD (d:eg):Prop:=mO d.kd∧mO d.ix
mutual
def wN:aN→Prop
 |.mk lems sp kids _ pf=>(∀l∈lems,Iu l)∧wD sp∧wP pf∧Iv kids
def Iv:List aN→Prop
 |[]=>True
 |n::l=>wN n∧Iv l
end
theorem vQ:∀l:List aN,Iv l↔∀n∈l,wN n
 |[]=>by simp[Iv]
 |n::l=>by simp only[Iv,vQ l,List.mem_cons,forall_eq_or_imp]
theorem zN (n:aN):wN n↔(∀l∈n.lems,Iu l)∧wD n.split∧wP n.pf∧∀k∈n.kids,wN k:=by
 cases n with
 |mk l s k e p=>simp only[wN,vQ];rfl
theorem su (n:aN):cG n=if n.kids.length=0 then xL n.empty++fe n.lems++kW n.pf else[2]++fe n.lems++kV n.split++n.kids.flatMap cG:=by
 cases n with
 |mk l s k e p=>
  cases k with
  |nil=>simp[cG,aN.kids,aN.empty,aN.lems,aN.pf]
  |cons k ks=>simp[cG,aN.kids,aN.lems,aN.split,rS]
section
variable {α:Type} {f:List UInt8→Option (α×List UInt8)} {e:α→List UInt8} {Q:α→Prop}
end
theorem oF (q:fx):4*(q.2.1.length+q.2.2.length)≤(iR q).length:=by
 have h:∀n:List UInt32,4*n.length≤(lR n).length:=fun n=>by simp only[lR,List.length_append,fw];omega
 have h1:=h q.2.1
 have h2:=h q.2.2
 simp only[iR,oo,List.length_append,List.length_cons,List.length_nil]
 omega
end Go.Rl
namespace Go.Rl
def jT:List UInt8→List UInt8→Nat
 |a::l,b::m=>if a=b then jT l m+1 else 0
 |_,_=>0
theorem vR (l:List UInt8):jT l []=0:=by cases l<;>rfl
theorem E1:∀(l m:List UInt8),jT l m≤l.length
 |[],m=>by simp[jT]
 |a::l,[]=>by simp[jT]
 |a::l,b::m=>by
  have:=E1 l m
  unfold jT
  split<;>simp<;>omega
theorem A7:∀(l m:List UInt8) (j:Nat),j<jT l m→l[j]? =m[j]? ∧j<l.length
 |[],m,j,h=>by simp[jT] at h
 |a::l,[],j,h=>by simp[jT] at h
 |a::l,b::m,j,h=>by
  unfold jT at h
  split at h
  ·rename_i e
   subst e
   match j with
   |0=>simp
   |j+1=>
    have:=A7 l m j (by omega)
    simpa using this
  ·omega
def ml (d:List UInt8) (i k:Nat):Nat:=jT (d.drop i) (d.drop (i-k))
theorem Hp (d:List UInt8) (i k:Nat):ml d i k≤d.length-i:=by
 have:=E1 (d.drop i) (d.drop (i-k))
 rw[List.length_drop] at this
 exact this
theorem HZ {d:List UInt8} {i k j:Nat} (h:j<ml d i k):d[i+j]? =d[i-k+j]? ∧i+j<d.length:=by
 have:=A7 (d.drop i) (d.drop (i-k)) j h
 rw[List.getElem?_drop,List.getElem?_drop,List.length_drop] at this
 exact⟨this.1,by omega⟩
def qr (d:List UInt8) (i:Nat):Nat→Nat×Nat
 |0=>(0,0)
 |j+1=>if 4≤ml d i (j+1)∧(qr d i j).1<ml d i (j+1) then(ml d i (j+1),j+1) else qr d i j
theorem zO (d:List UInt8) (i:Nat):∀j,(qr d i j=(0,0))∨(4≤(qr d i j).1∧1≤(qr d i j).2∧(qr d i j).2≤j∧ml d i (qr d i j).2=(qr d i j).1)
 |0=>.inl rfl
 |j+1=>by
  unfold qr
  split
  ·rename_i h
   exact .inr ⟨h.1,by simp,by simp,rfl⟩
  ·rcases zO d i j with h|h
   ·exact .inl h
   ·exact .inr ⟨h.1,h.2.1,by omega,h.2.2.2⟩
def cN (d:List UInt8) (i:Nat):Nat×Nat:=qr d i (min i 4096)
theorem lh {d:List UInt8} {i:Nat} (h:(cN d i).1≠0):4≤(cN d i).1∧1≤(cN d i).2∧(cN d i).2≤i∧(cN d i).2≤4096∧ml d i (cN d i).2=(cN d i).1∧i+(cN d i).1≤d.length:=by
 rcases zO d i (min i 4096) with e|e
 ·exact absurd (show(cN d i).1=0 by unfold cN;rw[e]) h
 ·have hl:=Hp d i (cN d i).2
  unfold cN at h hl⊢
  refine⟨e.1,e.2.1,by omega,by omega,e.2.2.2,?_⟩
  rw[e.2.2.2] at hl
  omega
def pk (d:List UInt8) (i run:Nat):List UInt8:=
 if _h:i<d.length then
  if hn:(cN d i).1=0 then pk d (i+1) (run+1)
  else uv run++(d.drop (i-run)).take run++uv ((cN d i).1-4)++uv ((cN d i).2-1)++pk d (i+(cN d i).1) 0
 else if 0<run then uv run++d.drop (d.length-run) else[]
termination_by d.length-i
decreasing_by all_goals omega
theorem pH {d:List UInt8} {i run:Nat} (h:i<d.length) (hn:(cN d i).1=0):pk d i run=pk d (i+1) (run+1):=by
 rw[pk,dif_pos h,dif_pos hn]
theorem ki {d:List UInt8} {i run:Nat} (h:i<d.length) (hn:(cN d i).1≠0):pk d i run=uv run++(d.drop (i-run)).take run++uv ((cN d i).1-4)++uv ((cN d i).2-1)++pk d (i+(cN d i).1) 0:=by
 rw[pk,dif_pos h,dif_neg hn]
theorem jQ {d:List UInt8} {i run:Nat} (h:¬i<d.length):pk d i run=if 0<run then uv run++d.drop (d.length-run) else[]:=by
 rw[pk,dif_neg h]
def bQ (d:List UInt8):List UInt8:=uv d.length++pk d 0 0
def CE (k:Nat):Nat→List UInt8→List UInt8
 |0,out=>out
 |m+1,out=>CE k m (out++[out.getD (out.length-k) 0])
theorem zP {d:List UInt8} {i k:Nat} (hk:1≤k) (hki:k≤i):∀(m j:Nat),j+m≤ml d i k→CE k m (d.take (i+j))=d.take (i+j+m)
 |0,j,_=>rfl
 |m+1,j,h=>by
  obtain⟨h1,h2⟩:=HZ (d:=d) (i:=i) (k:=k) (j:=j) (by omega)
  have hl:(d.take (i+j)).length=i+j:=by rw[List.length_take];omega
  have e:d.take (i+j)++[(d.take (i+j)).getD ((d.take (i+j)).length-k) 0]=d.take (i+(j+1)):=by
   rw[hl,←Nat.add_assoc,List.take_succ_eq_append_getElem h2]
   congr 2
   rw[List.getD_eq_getElem?_getD,List.getElem?_take_of_lt (by omega),show i+j-k=i-k+j by omega,←h1,List.getElem?_eq_getElem h2]
   rfl
  rw[CE,e,zP hk hki m (j+1) (by omega)]
  congr 1
  omega
def qj (total:Nat):Nat→List UInt8→List UInt8→Option (List UInt8)
 |0,_,_=>none
 |f+1,rest,out=>
  if out.length<total then
   (eh rest).bind fun p=>
     if total-out.length<p.1∨p.2.length<p.1 then none
     else if total-out.length=p.1 then(if p.2.drop p.1=[] then some (out++p.2.take p.1) else none)
     else(eh (p.2.drop p.1)).bind fun q=>
      if total-out.length-p.1<4∨total-out.length-p.1-4<q.1 then none
      else(eh q.2).bind fun r=>
       if 4096≤r.1∨(out++p.2.take p.1).length≤r.1 then none
       else qj total f r.2 (CE (r.1+1) (q.1+4) (out++p.2.take p.1))
  else if rest=[] then some out else none
theorem vS (k:Nat):∀(m:Nat) (out:List UInt8),(CE k m out).length=out.length+m
 |0,out=>rfl
 |m+1,out=>by rw[CE,vS k m];simp;omega
theorem ue {d:List UInt8} {i run:Nat} (hr:run≤i):d.take (i-run)++(d.drop (i-run)).take run=d.take i:=by
 have:d.take i=d.take (i-run+run):=by rw[Nat.sub_add_cancel hr]
 rw[this,List.take_add]
theorem H0 {d:List UInt8} (hd:d.length<18446744073709551616):∀(c i run f:Nat),d.length-i=c→run≤i→i≤d.length→d.length-i+1≤f→
 qj d.length f (pk d i run) (d.take (i-run))=some d:=by
 intro c
 induction c using Nat.strongRecOn with
 |ind c ih=>
  intro i run f hc hr hid hf
  obtain⟨f,rfl⟩:∃g,f=g+1:=⟨f-1,by omega⟩
  have hlo:(d.take (i-run)).length=i-run:=by rw[List.length_take];omega
  by_cases hi:i<d.length
  ·by_cases hn:(cN d i).1=0
   ·rw[pH hi hn]
    have:=ih (d.length-(i+1)) (by omega) (i+1) (run+1) (f+1) rfl (by omega) (by omega) (by omega)
    rw[show i+1-(run+1)=i-run by omega] at this
    exact this
   ·obtain⟨h4,h1,h2,h3,hml,h5⟩:=lh hn
    obtain⟨n,hnn⟩:∃n,n=(cN d i).1:=⟨_,rfl⟩
    obtain⟨k,hkk⟩:∃k,k=(cN d i).2:=⟨_,rfl⟩
    rw[ki hi hn]
    rw[←hnn] at h4 h5 hml⊢
    rw[←hkk] at h1 h2 h3 hml⊢
    have hlr:((d.drop (i-run)).take run).length=run:=by rw[List.length_take,List.length_drop];omega
    have hsub:d.length-(d.take (i-run)).length=d.length-i+run:=by rw[hlo];omega
    unfold qj
    rw[if_pos (by rw[hlo];omega)]
    simp only[List.append_assoc]
    rw[jk (by omega)]
    simp only[Option.bind_some,hsub]
    have e1:((d.drop (i-run)).take run++(uv (n-4)++(uv (k-1)++pk d (i+n) 0))).take run=(d.drop (i-run)).take run:=by rw[List.take_left' hlr]
    have e2:((d.drop (i-run)).take run++(uv (n-4)++(uv (k-1)++pk d (i+n) 0))).drop run=uv (n-4)++(uv (k-1)++pk d (i+n) 0):=by rw[List.drop_left' hlr]
    rw[e1,e2,if_neg (by rw[List.length_append,hlr];omega),if_neg (by omega),jk (by omega)]
    simp only[Option.bind_some]
    rw[if_neg (by omega),jk (by omega)]
    simp only[Option.bind_some]
    rw[ue hr,if_neg (by rw[List.length_take];omega),show k-1+1=k by omega,show n-4+4=n by omega]
    have hc0:=zP (d:=d) (i:=i) (k:=k) h1 h2 n 0 (by omega)
    rw[Nat.add_zero] at hc0
    rw[hc0]
    have:=ih (d.length-(i+n)) (by omega) (i+n) 0 f rfl (by omega) h5 (by omega)
    rw[Nat.sub_zero] at this
    exact this
  ·have hie:i=d.length:=by omega
   rw[jQ hi]
   unfold qj
   by_cases hr0:0<run
   ·rw[if_pos hr0,if_pos (by rw[hlo];omega),jk (by omega)]
    have hsub:d.length-(d.take (i-run)).length=run:=by rw[hlo];omega
    have hdl:(d.drop (d.length-run)).length=run:=by rw[List.length_drop];omega
    simp only[Option.bind_some,hsub]
    rw[if_neg (by omega),if_pos trivial,List.take_of_length_le (l:=d.drop (d.length-run)) (by omega),List.drop_of_length_le (by omega),if_pos rfl,hie,List.take_append_drop]
   ·have:run=0:=by omega
    subst this
    rw[if_neg (show ¬0<0 by omega),if_neg (by rw[hlo];omega),if_pos rfl,hie,Nat.sub_zero,List.take_length]
end Go.Rl
namespace Go.Rl
def E2 (total:Nat):Nat→List UInt8→List UInt8→Option (List UInt8×List UInt8)
 |0,_,_=>none
 |f+1,rest,out=>
  if out.length<total then
   (Ir rest).bind fun p=>
     if (out++p.1).length<total then
      (eh p.2).bind fun q=>(eh q.2).bind fun r=>
        if total≤q.1∨(out++p.1).length≤r.1 then none
        else E2 total f r.2 (CE (r.1+1) (min (q.1+4) (total-(out++p.1).length)) (out++p.1))
     else some (out++p.1,p.2)
  else some (out,rest)
theorem H1 {d:List UInt8} (hd:d.length<18446744073709551616):∀(c i run f:Nat),d.length-i=c→run≤i→i≤d.length→d.length-i+1≤f→
 E2 d.length f (pk d i run) (d.take (i-run))=some (d,[]):=by
 intro c
 induction c using Nat.strongRecOn with
 |ind c ih=>
  intro i run f hc hr hid hf
  obtain⟨f,rfl⟩:∃g,f=g+1:=⟨f-1,by omega⟩
  have hlo:(d.take (i-run)).length=i-run:=by rw[List.length_take];omega
  by_cases hi:i<d.length
  ·by_cases hn:(cN d i).1=0
   ·rw[pH hi hn]
    have:=ih (d.length-(i+1)) (by omega) (i+1) (run+1) (f+1) rfl (by omega) (by omega) (by omega)
    rw[show i+1-(run+1)=i-run by omega] at this
    exact this
   ·obtain⟨h4,h1,h2,h3,hml,h5⟩:=lh hn
    obtain⟨n,hnn⟩:∃n,n=(cN d i).1:=⟨_,rfl⟩
    obtain⟨k,hkk⟩:∃k,k=(cN d i).2:=⟨_,rfl⟩
    rw[ki hi hn]
    rw[←hnn] at h4 h5 hml⊢
    rw[←hkk] at h1 h2 h3 hml⊢
    obtain⟨L,hL⟩:∃L,L=(d.drop (i-run)).take run:=⟨_,rfl⟩
    have hlr:L.length=run:=by rw[hL,List.length_take,List.length_drop];omega
    have htl:d.take (i-run)++L=d.take i:=by rw[hL];exact ue hr
    have hti:(d.take i).length=i:=by rw[List.length_take];omega
    rw[←hL]
    unfold E2
    rw[if_pos (by rw[hlo];omega)]
    have e:uv run++L++uv (n-4)++uv (k-1)++pk d (i+n) 0=Cg L++(uv (n-4)++(uv (k-1)++pk d (i+n) 0)):=by
     rw[Cg,hlr];simp only[List.append_assoc]
    rw[e,xF (by omega)]
    simp only[Option.bind_some,htl,hti]
    rw[if_pos hi,jk (by omega)]
    simp only[Option.bind_some]
    rw[jk (by omega)]
    simp only[Option.bind_some]
    rw[if_neg (by omega),show k-1+1=k by omega,show min (n-4+4) (d.length-i)=n by omega]
    have hc0:=zP (d:=d) (i:=i) (k:=k) h1 h2 n 0 (by omega)
    rw[Nat.add_zero] at hc0
    rw[hc0]
    have:=ih (d.length-(i+n)) (by omega) (i+n) 0 f rfl (by omega) h5 (by omega)
    rw[Nat.sub_zero] at this
    exact this
  ·have hie:i=d.length:=by omega
   rw[jQ hi]
   unfold E2
   by_cases hr0:0<run
   ·have hdl:(d.drop (d.length-run)).length=run:=by rw[List.length_drop];omega
    have e:uv run++d.drop (d.length-run)=Cg (d.drop (d.length-run))++[]:=by rw[Cg,hdl,List.append_nil]
    rw[if_pos hr0,if_pos (by rw[hlo];omega),e,xF (by omega)]
    simp only[Option.bind_some]
    rw[hie,List.take_append_drop,if_neg (by omega)]
   ·have:run=0:=by omega
    subst this
    rw[if_neg (show ¬0<0 by omega),if_neg (by rw[hlo];omega),hie,Nat.sub_zero,List.take_length]
theorem zQ {d:List UInt8} (hd:d.length<18446744073709551616):qj d.length (d.length+1) (pk d 0 0) []=some d:=by
 have:=H0 hd (d.length-0) 0 0 (d.length+1) rfl (by omega) (by omega) (by omega)
 simpa using this
theorem sv {d:List UInt8} (hd:d.length<18446744073709551616):E2 d.length (d.length+1) (pk d 0 0) []=some (d,[]):=by
 have:=H1 hd (d.length-0) 0 0 (d.length+1) rfl (by omega) (by omega) (by omega)
 simpa using this
theorem xZ {l t out:List UInt8} {total:Nat} (hl:eh l=some (total,t)) (ho:out.length<18446744073709551616) (hp:bQ out=l):
 qj total (total+1) t []=some out∧E2 total (total+1) t []=some (out,[]):=by
 rw[←hp,bQ,jk ho] at hl
 obtain⟨rfl,rfl⟩:=Prod.mk.inj (Option.some.inj hl)
 exact⟨zQ ho,sv ho⟩
def vp (l t:List UInt8) (total:Nat):Option (List UInt8):=(qj total (total+1) t []).bind fun out=>if bQ out=l then some out else none
def vr (l t:List UInt8) (total:Nat):Option (List UInt8):=(E2 total (total+1) t []).bind fun p=>if p.2=[]∧bQ p.1=l then some p.1 else none
theorem IU {l t:List UInt8} {total:Nat} (hl:eh l=some (total,t)) (h1:∀out,qj total (total+1) t []=some out→out.length<18446744073709551616)
 (h2:∀p,E2 total (total+1) t []=some p→p.1.length<18446744073709551616):vp l t total=vr l t total:=by
 have key:∀out,out.length<18446744073709551616→bQ out=l→vp l t total=some out∧vr l t total=some out:=fun out ho hp=>by
  obtain⟨e1,e2⟩:=xZ hl ho hp
  constructor
  ·unfold vp;rw[e1];exact if_pos hp
  ·unfold vr;rw[e2];exact if_pos ⟨rfl,hp⟩
 cases hv:vp l t total with
 |some out=>
  have hv':=hv
  unfold vp at hv'
  cases hu:qj total (total+1) t [] with
  |none=>rw[hu] at hv';cases hv'
  |some o=>
   rw[hu] at hv'
   have hv':(if bQ o=l then some o else none)=some out:=hv'
   split at hv'
   ·rename_i hp
    obtain rfl:=Option.some.inj hv'
    exact(key _ (h1 _ hu) hp).2.symm
   ·cases hv'
 |none=>
  cases hw:vr l t total with
  |none=>rfl
  |some out=>
   have hw':=hw
   unfold vr at hw'
   cases hu:E2 total (total+1) t [] with
   |none=>rw[hu] at hw';cases hw'
   |some p=>
    rw[hu] at hw'
    have hw':(if p.2=[]∧bQ p.1=l then some p.1 else none)=some out:=hw'
    split at hw'
    ·rename_i hp
     obtain rfl:=Option.some.inj hw'
     rw[(key _ (h2 _ hu) hp.2).1] at hv
     cases hv
    ·cases hw'
theorem H2 {d:List UInt8} (hd:d.length<18446744073709551616):∀(c i run:Nat),d.length-i=c→run≤i→i≤d.length→(pk d i run).length≤31*(d.length-i+run)+10:=by
 intro c
 induction c using Nat.strongRecOn with
 |ind c ih=>
  intro i run hc hr hid
  by_cases hi:i<d.length
  ·by_cases hn:(cN d i).1=0
   ·rw[pH hi hn]
    have:=ih (d.length-(i+1)) (by omega) (i+1) (run+1) rfl (by omega) (by omega)
    omega
   ·obtain⟨h4,h1,h2,h3,_,h5⟩:=lh hn
    rw[ki hi hn]
    have:=ih (d.length-(i+(cN d i).1)) (by omega) (i+(cN d i).1) 0 rfl (by omega) (by omega)
    have u1:=dy (n:=run) (by omega)
    have u2:=dy (n:=(cN d i).1-4) (by omega)
    have u3:=dy (n:=(cN d i).2-1) (by omega)
    have ht:((d.drop (i-run)).take run).length≤run:=by rw[List.length_take];omega
    simp only[List.length_append]
    omega
  ·rw[jQ hi]
   split
   ·have u1:=dy (n:=run) (by omega)
    simp only[List.length_append,List.length_drop]
    omega
   ·simp
theorem li {d:List UInt8} (hd:d.length<18446744073709551616):(bQ d).length≤31*d.length+20:=by
 have h1:=H2 hd d.length 0 0 (by omega) (by omega) (by omega)
 have h2:=dy (n:=d.length) hd
 unfold bQ
 rw[List.length_append]
 omega
end Go.Rl
namespace Go.Rl
def pos (d q:List UInt8) (n:Nat):List Nat:=(List.range n).filter fun p=>(d.drop p).take 4==q
theorem ya (d q:List UInt8) (n:Nat):pos d q (n+1)=pos d q n++if (d.drop n).take 4=q then[n] else[]:=by
 unfold pos
 rw[List.range_succ,List.filter_append]
 congr 1
 by_cases h:(d.drop n).take 4=q
 ·simp[h]
 ·simp[h]
theorem A9 {d q:List UInt8} {n p:Nat}:p∈pos d q n↔p<n∧(d.drop p).take 4=q:=by
 unfold pos
 simp
theorem zR (d q:List UInt8) (n:Nat):(pos d q n).Pairwise (· < ·):=List.Pairwise.filter _ List.pairwise_lt_range
theorem E4 (d q:List UInt8):pos d q 0=[]:=rfl
theorem Ba (d q:List UInt8) (n:Nat):(pos d q n).length≤n:=by
 have:=List.length_filter_le (fun p=>(d.drop p).take 4==q) (List.range n)
 unfold pos
 simpa using this
theorem iG (a b:UInt8) (l m:List UInt8):jT (a::l) (b::m)=if a=b then jT l m+1 else 0:=rfl
theorem lcp4:∀(l m:List UInt8),4≤l.length→(4≤jT l m↔m.take 4=l.take 4):=by
 intro l m hl
 match l,hl with
 |a::b::c::e::l,_=>
  match m with
  |[]=>simp[jT]
  |[a']=>simp only[iG,vR];constructor<;>intro h<;>(first|(split at h<;>omega)|simp at h)
  |[a',b']=>simp only[iG,vR];constructor<;>intro h<;>(first|((repeat' split at h)<;>omega)|simp at h)
  |[a',b',c']=>simp only[iG,vR];constructor<;>intro h<;>(first|((repeat' split at h)<;>omega)|simp at h)
  |a'::b'::c'::e'::m=>
   simp only[iG,List.take_succ_cons,List.take_zero,List.cons.injEq,and_true]
   constructor
   ·intro h
    (repeat' split at h)<;>first|omega|(subst_vars;simp)
   ·rintro⟨rfl,rfl,rfl,rfl⟩
    simp
theorem ml4 {d:List UInt8} {i k:Nat} (hi:i+4≤d.length):4≤ml d i k↔(d.drop (i-k)).take 4=(d.drop i).take 4:=lcp4 _ _ (by rw[List.length_drop];omega)
theorem yb (d:List UInt8) (i j:Nat):qr d i (j+1)=if 4≤ml d i (j+1)∧(qr d i j).1<ml d i (j+1) then(ml d i (j+1),j+1) else qr d i j:=rfl
theorem oH {d:List UInt8} {i a:Nat}:∀b,a≤b→(∀k,a<k→k≤b→ml d i k<4∨ml d i k≤(qr d i a).1)→qr d i b=qr d i a
 |0,h,_=>by rw[show a=0 by omega]
 |b+1,h,hk=>by
  rcases Nat.lt_or_ge b a with h'|h'
  ·rw[show a=b+1 by omega]
  ·have ih:=oH b h' (fun k h1 h2=>hk k h1 (by omega))
   rw[yb,if_neg,ih]
   rintro⟨h1,h2⟩
   rw[ih] at h2
   rcases hk (b+1) (by omega) (Nat.le_refl _) with h3|h3<;>omega
def Fa (d:List UInt8) (i:Nat) (s:Nat×Nat) (p:Nat):Nat×Nat:=if s.1<ml d i (i-p) then(ml d i (i-p),i-p) else s
def pI (i:Nat) (l:List Nat):Nat:=match l.getLast? with|none=>0|some p=>i-p
theorem uf (i p:Nat) (l:List Nat):pI i (l++[p])=i-p:=by simp[pI]
section
variable {d:List UInt8} {i:Nat} {R:List Nat}
theorem yc (hi:i+4≤d.length) (hR:R.Pairwise (fun a b=>b<a)) (hm:∀p,p∈R↔p<i∧(d.drop p).take 4=(d.drop i).take 4):∀(n:Nat) (pre suf:List Nat),pre.length=n→R=pre++suf→
 pre.foldl (Fa d i) (0,0)=qr d i (pI i pre)∧pI i pre≤i∧∀k,pI i pre<k→k≤i→4≤ml d i k→i-k∈suf:=by
 intro n
 induction n with
 |zero=>
  intro pre suf hl hs
  have:pre=[]:=List.eq_nil_of_length_eq_zero hl
  subst this
  refine⟨rfl,Nat.zero_le _,fun k h1 h2 h3=>?_⟩
  have h0:0<k:=h1
  have:=(hm (i-k)).2 ⟨by omega,(ml4 hi).1 h3⟩
  rw[hs] at this
  simpa using this
 |succ n ih=>
  intro pre suf hl hs
  obtain⟨pre',x,rfl⟩:∃pre' x,pre=pre'++[x]:=by
   rcases List.eq_nil_or_concat pre with h|⟨l,a,h⟩
   ·subst h;simp at hl
   ·exact⟨l,a,by rw[h,List.concat_eq_append]⟩
  have hs':R=pre'++(x::suf):=by rw[hs];simp
  obtain⟨h1,h2,h3⟩:=ih pre' (x::suf) (by simp at hl;omega) hs'
  have hx:=(hm x).1 (by rw[hs'];simp)
  have hxk:4≤ml d i (i-x):=(ml4 hi).2 (by rw[show i-(i-x)=x by omega];exact hx.2)
  have hsuf:∀p∈suf,p<x:=by
   rw[hs'] at hR
   have:=(List.pairwise_append.1 hR).2.1
   exact(List.pairwise_cons.1 this).1
  have hlast:pI i pre'<i-x:=by
   unfold pI
   cases hg:pre'.getLast? with
   |none=>simp only[];omega
   |some p=>
    have hp:p∈pre':=List.mem_of_getLast? hg
    rw[hs'] at hR
    have:=(List.pairwise_append.1 hR).2.2 p hp x (by simp)
    have hpi:=(hm p).1 (by rw[hs'];simp[hp])
    simp only[]
    omega
  rw[uf,List.foldl_append,List.foldl_cons,List.foldl_nil,h1]
  refine⟨?_,by omega,fun k hk1 hk2 hk3=>?_⟩
  ·have hskip:qr d i (i-x-1)=qr d i (pI i pre'):=oH _ (by omega) (fun k hk1 hk2=>by
    rcases Nat.lt_or_ge (ml d i k) 4 with h|h
    ·exact .inl h
    ·have:=h3 k hk1 (by omega) h
     rcases List.mem_cons.1 this with e|e
     ·omega
     ·have:=hsuf _ e;omega)
   have hsucc:i-x=(i-x-1)+1:=by omega
   conv=>rhs;rw[hsucc]
   rw[yb,←hsucc,hskip]
   unfold Fa
   by_cases hlt:(qr d i (pI i pre')).1<ml d i (i-x)
   ·rw[if_pos hlt,if_pos ⟨hxk,hlt⟩]
   ·rw[if_neg hlt,if_neg (fun h=>hlt h.2)]
  ·rcases List.mem_cons.1 (h3 k (by omega) hk2 hk3) with e|e
   ·omega
   ·exact e
theorem yd (hi:i+4≤d.length) (hR:R.Pairwise (fun a b=>b<a)) (hm:∀p,p∈R↔p<i∧(d.drop p).take 4=(d.drop i).take 4) {pre suf:List Nat} (hs:R=pre++suf) (hp:∀p∈pre,i-p≤4096) (hf:∀p∈suf,4096<i-p):
 pre.foldl (Fa d i) (0,0)=cN d i:=by
 obtain⟨h1,h2,h3⟩:=yc hi hR hm _ pre suf rfl hs
 have hk:pI i pre≤4096:=by
  unfold pI
  cases hg:pre.getLast? with
  |none=>simp
  |some p=>exact hp p (List.mem_of_getLast? hg)
 rw[h1]
 unfold cN
 refine(oH _ (by omega) (fun k hk1 hk2=>.inl ?_)).symm
 rcases Nat.lt_or_ge (ml d i k) 4 with h|h
 ·exact h
 ·have:=hf _ (h3 k hk1 (by omega) h)
  omega
theorem CF (hi:i+4≤d.length) (hR:R.Pairwise (fun a b=>b<a)) (hm:∀p,p∈R↔p<i∧(d.drop p).take 4=(d.drop i).take 4) {pre suf:List Nat} {x:Nat} (hs:R=(pre++[x])++suf) (hp:∀p∈pre++[x],i-p≤4096) (hx:i+ml d i (i-x)=d.length):
 (pre++[x]).foldl (Fa d i) (0,0)=cN d i:=by
 obtain⟨h1,h2,h3⟩:=yc hi hR hm _ (pre++[x]) suf rfl hs
 have hk:pI i (pre++[x])≤4096:=by rw[uf];exact hp x (by simp)
 have hge:d.length-i≤(qr d i (pI i (pre++[x]))).1:=by
  rw[←h1,List.foldl_append,List.foldl_cons,List.foldl_nil]
  unfold Fa
  split
  ·show d.length-i≤ml d i (i-x);omega
  ·rename_i h;omega
 rw[h1]
 unfold cN
 refine(oH _ (by omega) (fun k hk1 hk2=>.inr ?_)).symm
 have:=Hp d i k
 omega
end
theorem qL {d:List UInt8} {i k j:Nat} (hk:k≤i) (hi:i+j<d.length):jT (d.drop (i+j)) (d.drop (i-k+j))=if d[i+j]=d[i-k+j]'(by omega) then jT (d.drop (i+(j+1))) (d.drop (i-k+(j+1)))+1 else 0:=by
 rw[List.drop_eq_getElem_cons hi,List.drop_eq_getElem_cons (show i-k+j<d.length by omega),jT]
 rfl
theorem CG {l m:List UInt8} (h:4≤jT l m):jT l m=4+jT (l.drop 4) (m.drop 4):=by
 match l,m with
 |[],m=>simp[jT] at h
 |[a],[]=>simp[jT] at h
 |a::l,[]=>simp[jT] at h
 |a::l,a'::m=>
  rw[iG] at h⊢
  split at h
  ·rename_i e
   rw[if_pos e]
   match l,m with
   |[],m=>simp[jT] at h
   |b::l,[]=>simp[jT] at h
   |b::l,b'::m=>
    rw[iG] at h⊢
    split at h
    ·rename_i e
     rw[if_pos e]
     match l,m with
     |[],m=>simp[jT] at h
     |c::l,[]=>simp[jT] at h
     |c::l,c'::m=>
      rw[iG] at h⊢
      split at h
      ·rename_i e
       rw[if_pos e]
       match l,m with
       |[],m=>simp[jT] at h
       |f::l,[]=>simp[jT] at h
       |f::l,f'::m=>
        rw[iG] at h⊢
        split at h
        ·rename_i e
         rw[if_pos e]
         simp only[List.drop_succ_cons,List.drop_zero]
         omega
        ·omega
      ·omega
    ·omega
  ·omega
theorem Fb {d:List UInt8} {i p:Nat} (hi:i+4≤d.length) (hp:p<i) (h:(d.drop p).take 4=(d.drop i).take 4):ml d i (i-p)=4+jT (d.drop (i+4)) (d.drop (p+4)):=by
 have h4:4≤ml d i (i-p):=(ml4 hi).2 (by rw[show i-(i-p)=p by omega];exact h)
 unfold ml at h4⊢
 rw[CG h4,List.drop_drop,List.drop_drop,show i-(i-p)=p by omega]
end Go.Rl
namespace Go.Rl
open Go.RowKit Go.Proofs
open Go.Maps (Keyed)
def K4 (q:List UInt8):Value:=.agg (q.map U8).toArray
theorem IV (x:UInt8):(Lit.int .u8 (x.toNat:Int)).wf=true:=by
 have:=x.toNat_lt
 simp[Lit.wf,IntKind.min,IntKind.max,IntKind.bits,IntKind.signed]
 omega
theorem Fc:Keyed Tryz.prog 221:=Keyed.of_law (deep_law (m:=2) (by omega) (by kernel_rfl) (by kernel_rfl) (by rw[JF]))
theorem Fd:Tryz.prog.keyType 221=true:=by kernel_rfl
theorem ye:(Tryz.prog.info? 221).map (·.size)=some 4:=by kernel_rfl
theorem yf:Tryz.prog.cellsOf 221=4:=by kernel_rfl
theorem Fe:Tryz.prog.cellsOf 5=1:=by kernel_rfl
theorem zS {q:List UInt8} (hq:q.length=4):∃l,keyOf Tryz.prog 221 (K4 q)=some l:=by
 match q,hq with
 |[a,b,c,e],_=>
  have hl:∀(n:Nat) (x:UInt8),Tryz.prog.keyLits (n+1) 5 [U8 x]=some [.int .u8 (x.toNat:Int)]:=fun n x=>by
   simp[Program.keyLits,Tryz.underlying5,U8,IV x]
  have hf:(K4 [a,b,c,e]).formed Tryz.prog 221=true:=by
   simp[K4,Value.formed,Tryz.underlying221,yf]
  obtain⟨S,hS⟩:∃S,Tryz.prog.types.size=S+1:=⟨Tryz.prog.types.size-1,by kernel_rfl⟩
  have hk:Tryz.prog.keyLits (Tryz.prog.types.size+1) 221 (K4 [a,b,c,e]).cells.toList=some [.int .u8 (a.toNat:Int),.int .u8 (b.toNat:Int),.int .u8 (c.toNat:Int),.int .u8 (e.toNat:Int)]:=by
   rw[hS]
   unfold Program.keyLits
   rw[JF]
   simp[K4,Value.cells,yf,Fe,hl,List.range_succ,List.mapM_cons]
  refine⟨.string (keyBytes [.int .u8 (a.toNat:Int),.int .u8 (b.toNat:Int),.int .u8 (c.toNat:Int),.int .u8 (e.toNat:Int)]),?_⟩
  unfold keyOf
  rw[JF]
  simp only[Fd,hf,hk]
  rfl
theorem vT {q r:List UInt8} (h:K4 q=K4 r):q=r:=by
 have h2:q.map U8=r.map U8:=by
  have:=congrArg (fun v=>match v with|.agg a=>a.toList|_=>[]) h
  simpa [K4] using this
 have inj:∀(q r:List UInt8),q.map U8=r.map U8→q=r:=by
  intro q
  induction q with
  |nil=>intro r h;cases r with
   |nil=>rfl
   |cons b r=>simp at h
  |cons a q ih=>intro r h;cases r with
   |nil=>simp at h
   |cons b r=>
    simp only[List.map_cons,List.cons.injEq] at h
    have e:a=b:=by
     have h1:=h.1
     simp only[U8,Value.int.injEq,true_and] at h1
     exact UInt8.toNat_inj.1 (by omega)
    rw[e,ih r h.2]
 exact inj q r h2
def iZ (d q:List UInt8) (n:Nat):List Int:=(pos d q n).map Int.ofNat
theorem ug (d q:List UInt8) (n:Nat):iZ d q (n+1)=iZ d q n++if (d.drop n).take 4=q then[(n:Int)] else[]:=by
 unfold iZ
 rw[ya,List.map_append]
 congr 1
 split<;>rfl
structure Hq (base:Nat) (d:List UInt8) (n clock:Nat) (X:Nat→Prop) (w:World) (e:MapEntry) (q:List UInt8):Prop where
 len:q.length=4
 key:e.key=K4 q
 row:eH base (iZ d q n) e.val w
 born:e.born<clock
 own:∀k,e.val.ownBlock=some k→X k
structure gP (base:Nat) (d:List UInt8) (m n:Nat) (X:Nat→Prop) (w:World) (es:List MapEntry) (clock:Nat):Prop where
 at_:w.heap[m]? =some (.map es.toArray clock)
 ent:∀e∈es,∃q,Hq base d n clock X w e q
 apart:∀(i j:Nat) (e f:MapEntry),es[i]? =some e→es[j]? =some f→i≠j→e.key≠f.key∧e.born≠f.born∧(e.val.ownBlock=none∨e.val.ownBlock≠f.val.ownBlock)
 full:∀q,pos d q n≠[]→∃e∈es,e.key=K4 q
def gp (base:Nat) (d:List UInt8) (m n:Nat) (X:Nat→Prop) (w:World):Prop:=∃es clock,gP base d m n X w es clock
section
variable {base:Nat} {d:List UInt8} {m n clock:Nat} {X:Nat→Prop} {w w':World} {es:List MapEntry}
theorem gP.keys (h:gP base d m n X w es clock):y5 Tryz.prog 221 es:=fun e he=>by
 obtain⟨q,hq⟩:=h.ent e he
 rw[hq.key]
 exact zS hq.len
theorem gP.lt (h:gP base d m n X w es clock):m<w.heap.size:=(Array.getElem?_eq_some_iff.1 h.at_).1
theorem eH.cells {l:List Int} {v:Value} (h:eH base l v w) {k:Nat} (hk:v.ownBlock=some k):∃cs f,w.heap[k]? =some (.cells cs 3 f):=by
 obtain⟨n,h1,h2⟩:=h
 rcases h2 with⟨rfl,_⟩|⟨g,cap,cur,rfl,h3,h4,h5⟩
 ·cases hk
 ·obtain rfl:g=k:=Option.some.inj hk
  exact⟨_,_,h4⟩
theorem gP.ne (h:gP base d m n X w es clock) {e:MapEntry} (he:e∈es):e.val.ownBlock≠some m:=fun hk=>by
 obtain⟨q,hq⟩:=h.ent e he
 obtain⟨cs,f,hc⟩:=hq.row.cells hk
 rw[h.at_] at hc
 cases hc
theorem gP.same (h:gP base d m n X w es clock) (hm:w'.heap[m]? =w.heap[m]?) (hX:∀k,X k→k<w.heap.size→w'.heap[k]? =w.heap[k]?):gP base d m n X w' es clock:=
 ⟨hm.trans h.at_,fun e he=>by
  obtain⟨q,hq⟩:=h.ent e he
  exact⟨q,hq.len,hq.key,hq.row.same fun k hk=>hX k (hq.own k hk) (hq.row.lt k hk).2,hq.born,hq.own⟩,h.apart,h.full⟩
theorem gp.same (h:gp base d m n X w) (hm:w'.heap[m]? =w.heap[m]?) (hX:∀k,X k→k<w.heap.size→w'.heap[k]? =w.heap[k]?):gp base d m n X w':=by
 obtain⟨es,clock,h⟩:=h
 exact⟨es,clock,h.same hm hX⟩
theorem gp.lt (h:gp base d m n X w):m<w.heap.size:=by
 obtain⟨es,clock,h⟩:=h
 exact h.lt
theorem gp.ext (h:gp base d m n X w) (hx:aG w w'):gp base d m n X w':=h.same (hx.heap h.lt) fun _ _ hk=>hx.heap hk
theorem uh:(Tryz.prog.info? 66).map (·.zero)=some (some (.slice none 0 0)):=by kernel_rfl
theorem gp.look (h:gp base d m n X w) {q:List UInt8} (hq:q.length=4):∃v,(Instr.lookup 156 (.map (some m)) (K4 q) false).run Tryz.prog w=.ok v w∧eH base (iZ d q n) v w∧∀k,v.ownBlock=some k→X k:=by
 obtain⟨es,clock,h⟩:=h
 obtain⟨l,hl⟩:=zS hq
 rcases DN (P:=Tryz.prog) Fc JJ uh h.at_ h.keys hl with⟨h1,_,h2⟩|⟨j,e,h1,_,h2,h3⟩
 ·have hp:pos d q n=[]:=Classical.byContradiction fun hn=>by
   obtain⟨e,he,hk⟩:=h.full q hn
   exact h2 e he hk
  exact⟨_,h1,by unfold iZ;rw[hp];exact eH.nil _ _,fun k hk=>by cases hk⟩
 ·obtain⟨r,hr⟩:=h.ent e (List.mem_of_getElem? h2)
  have e1:r=q:=vT (hr.key.symm.trans h3)
  subst e1
  exact⟨_,h1,hr.row,hr.own⟩
theorem gP.put (h:gP base d m n X w es clock) {w2 w3:World} {j:Nat} {e0:MapEntry} {q:List UInt8} {v:Value} (hj:es[j]? =some e0) (hk:e0.key=K4 q) (hqd:(d.drop n).take 4=q) (hg:w.grownBy w2 e0.val.ownBlock) (ho:v.ownBlock=e0.val.ownBlock∨∀k,v.ownBlock=some k→w.heap.size≤k)
 (hv:eH base (iZ d q n++[(n:Int)]) v w2) (hg3:w2.grownBy w3 (some m)) (h3:w3.heap[m]? =some (.map (es.set j {e0 with val:=v}).toArray clock)):gP base d m (n+1) (fun k=>X k∨v.ownBlock=some k) w3 (es.set j {e0 with val:=v}) clock:=by
 have hjl:j<es.length:=by
  rcases Nat.lt_or_ge j es.length with h|h
  ·exact h
  ·rw[List.getElem?_eq_none h] at hj;cases hj
 have hm0:=List.mem_of_getElem? hj
 obtain⟨q0,hq0⟩:=h.ent e0 hm0
 have eq0:q0=q:=vT (hq0.key.symm.trans hk)
 subst eq0
 have hvm:v.ownBlock≠some m:=fun hb=>by
  obtain⟨cs,f,hc⟩:=hv.cells hb
  rcases ho with ho|ho
  ·exact h.ne hm0 (ho▸hb)
  ·have:=ho m hb
   have:=h.lt
   omega
 have other:∀(i:Nat) (e:MapEntry),es[i]? =some e→i≠j→∃r,Hq base d (n+1) clock (fun k=>X k∨v.ownBlock=some k) w3 e r:=fun i e hi hij=>by
  have hme:=List.mem_of_getElem? hi
  obtain⟨r,hr⟩:=h.ent e hme
  have hap:=h.apart i j e e0 hi hj hij
  have hne:¬(d.drop n).take 4=r:=fun hh=>hap.1 (by rw[hr.key,hk,←hqd,hh])
  have e1:iZ d r (n+1)=iZ d r n:=by rw[ug,if_neg hne,List.append_nil]
  refine⟨r,hr.len,hr.key,?_,hr.born,fun k hk=>.inl (hr.own k hk)⟩
  rw[e1]
  exact(hr.row.kept hg hap.2.2).kept hg3 (.inr (h.ne hme))
 have getset:∀(i:Nat) (e:MapEntry),(es.set j {e0 with val:=v})[i]? =some e→(i=j∧e={e0 with val:=v})∨(i≠j∧es[i]? =some e):=fun i e hi=>by
  by_cases hij:i=j
  ·subst hij
   rw[List.getElem?_set_self (by omega)] at hi
   exact .inl ⟨rfl,(Option.some.inj hi).symm⟩
  ·rw[List.getElem?_set_ne (Ne.symm hij)] at hi
   exact .inr ⟨hij,hi⟩
 refine⟨h3,fun e he=>?_,fun i i' e e' hi hi' hne=>?_,fun r hr=>?_⟩
 ·obtain⟨i,hi⟩:=List.mem_iff_getElem?.1 he
  rcases getset i e hi with⟨rfl,rfl⟩|⟨hij,hi⟩
  ·refine⟨q0,hq0.len,hq0.key,?_,hq0.born,fun k hk=>.inr hk⟩
   rw[ug,if_pos hqd]
   exact hv.kept hg3 (.inr hvm)
  ·exact other i e hi hij
 ·have lt_of:∀(i:Nat) (e:MapEntry),es[i]? =some e→∀k,e.val.ownBlock=some k→k<w.heap.size:=fun i e hi k hk=>by
   obtain⟨r,hr⟩:=h.ent e (List.mem_of_getElem? hi)
   exact(hr.row.lt k hk).2
  rcases getset i e hi with⟨rfl,rfl⟩|⟨hij,hi0⟩<;>rcases getset i' e' hi' with⟨rfl,rfl⟩|⟨hij',hi0'⟩
  ·exact absurd rfl hne
  ·have hap:=h.apart i i' e0 e' hj hi0' hne
   refine⟨hap.1,hap.2.1,?_⟩
   rcases ho with ho|ho
   ·show v.ownBlock=none∨v.ownBlock≠_
    rw[ho];exact hap.2.2
   ·cases hb:v.ownBlock with
    |none=>exact .inl rfl
    |some k=>exact .inr fun hc=>by have:=lt_of i' e' hi0' k hc.symm;have:=ho k hb;omega
  ·have hap:=h.apart i i' e e0 hi0 hj hne
   refine⟨hap.1,hap.2.1,?_⟩
   rcases ho with ho|ho
   ·show e.val.ownBlock=none∨e.val.ownBlock≠v.ownBlock
    rw[ho];exact hap.2.2
   ·cases hb:e.val.ownBlock with
    |none=>exact .inl rfl
    |some k=>exact .inr fun hc=>by have:=lt_of i e hi0 k hb;have:=ho k hc.symm;omega
  ·exact h.apart i i' e e' hi0 hi0' hne
 ·have hsome:∃e∈es,e.key=K4 r:=by
   by_cases hr0:pos d r n=[]
   ·have:(d.drop n).take 4=r:=Classical.byContradiction fun hh=>hr (by rw[ya,hr0,if_neg hh];rfl)
    exact⟨e0,hm0,by rw[hk,←hqd,this]⟩
   ·exact h.full r hr0
  obtain⟨e,he,hek⟩:=hsome
  obtain⟨i,hi⟩:=List.mem_iff_getElem?.1 he
  by_cases hij:i=j
  ·subst hij
   rw[hj] at hi
   obtain rfl:=Option.some.inj hi
   exact⟨{e0 with val:=v},List.mem_iff_getElem?.2 ⟨i,List.getElem?_set_self (by omega)⟩,hek⟩
  ·exact⟨e,List.mem_iff_getElem?.2 ⟨i,by rw[List.getElem?_set_ne (Ne.symm hij)];exact hi⟩,hek⟩
theorem gP.add (h:gP base d m n X w es clock) {q:List UInt8} (hq:q.length=4) (hno:∀e∈es,e.key≠K4 q) (hg:w.grownBy w' (some m)) (h':w'.heap[m]? =some (.map (es++[({key:=K4 q,val:=.slice none 0 0,born:=clock}:MapEntry)]).toArray (clock+1))):
 gP base d m n X w' (es++[({key:=K4 q,val:=.slice none 0 0,born:=clock}:MapEntry)]) (clock+1):=by
 have hp:pos d q n=[]:=Classical.byContradiction fun hn=>by
  obtain⟨e,he,hk⟩:=h.full q hn
  exact hno e he hk
 have hget:∀(i:Nat) (e:MapEntry),(es++[({key:=K4 q,val:=.slice none 0 0,born:=clock}:MapEntry)])[i]? =some e→es[i]? =some e∨(i=es.length∧e={key:=K4 q,val:=.slice none 0 0,born:=clock}):=fun i e hi=>by
  rcases Nat.lt_or_ge i es.length with hl|hl
  ·rw[List.getElem?_append_left hl] at hi;exact .inl hi
  ·rw[List.getElem?_append_right hl] at hi
   rcases Nat.eq_zero_or_pos (i-es.length) with h0|h0
   ·rw[h0] at hi
    exact .inr ⟨by omega,(Option.some.inj hi).symm⟩
   ·rw[List.getElem?_eq_none (by simp;omega)] at hi;cases hi
 refine⟨h',fun e he=>?_,fun i j e f hi hj hij=>?_,fun r hr=>?_⟩
 ·rcases List.mem_append.1 he with he|he
  ·obtain⟨r,hr⟩:=h.ent e he
   exact⟨r,hr.len,hr.key,hr.row.kept hg (.inr (h.ne he)),Nat.lt_succ_of_lt hr.born,hr.own⟩
  ·obtain rfl:=List.mem_singleton.1 he
   exact⟨q,hq,rfl,by unfold iZ;rw[hp];exact eH.nil _ _,Nat.lt_succ_self _,fun k hk=>by cases hk⟩
 ·rcases hget i e hi with hi|⟨rfl,rfl⟩<;>rcases hget j f hj with hj|⟨rfl,rfl⟩
  ·exact h.apart i j e f hi hj hij
  ·have hm:=List.mem_of_getElem? hi
   obtain⟨r,hr⟩:=h.ent e hm
   have:=hr.born
   refine⟨hno e hm,by simp only[];omega,?_⟩
   cases hb:e.val.ownBlock with
   |none=>exact .inl rfl
   |some k=>exact .inr (by simp[Value.ownBlock])
  ·have hm:=List.mem_of_getElem? hj
   obtain⟨r,hr⟩:=h.ent f hm
   have:=hr.born
   exact⟨(hno f hm).symm,by simp only[];omega,.inl rfl⟩
  ·exact absurd rfl hij
 ·obtain⟨e,he,hk⟩:=h.full r hr
  exact⟨e,List.mem_append_left _ he,hk⟩
theorem gp.step (h:gp base d m n X w) (hn:n+4≤d.length):∃v born w1,(Instr.mapEntry 156 (.map (some m)) (K4 ((d.drop n).take 4))).run Tryz.prog w=.ok (.tuple #[v,I (born:Nat)]) w1∧w.grownBy w1 (some m)∧eH base (iZ d ((d.drop n).take 4) n) v w1∧(∀k,v.ownBlock=some k→X k)∧v.ownBlock≠some m∧
 ∀v' w2,fM w1 w2 v v'→eH base (iZ d ((d.drop n).take 4) n++[(n:Int)]) v' w2→∃w3,(Instr.entryStore 156 (.map (some m)) (I (born:Nat)) v').run Tryz.prog w2=.ok () w3∧w2.grownBy w3 (some m)∧gp base d m (n+1) (fun k=>X k∨v'.ownBlock=some k) w3:=by
 obtain⟨es,clock,h⟩:=h
 have hq:((d.drop n).take 4).length=4:=by rw[List.length_take,List.length_drop];omega
 obtain⟨l,hl⟩:=zS hq
 have fin:∀(es:List MapEntry) (clock:Nat) (w1:World) (j:Nat) (e:MapEntry),gP base d m n X w1 es clock→es[j]? =some e→e.key=K4 ((d.drop n).take 4)→∀v' w2,fM w1 w2 e.val v'→eH base (iZ d ((d.drop n).take 4) n++[(n:Int)]) v' w2→
  ∃w3,(Instr.entryStore 156 (.map (some m)) (I (e.born:Nat)) v').run Tryz.prog w2=.ok () w3∧w2.grownBy w3 (some m)∧gp base d m (n+1) (fun k=>X k∨v'.ownBlock=some k) w3:=by
  intro es clock w1 j e h1 hj hk v' w2 hG hv
  have hm2:w2.heap[m]? =some (.map es.toArray clock):=(hG.grown.block m h1.lt (fun e=>h1.ne (List.mem_of_getElem? hj) e.symm)).trans h1.at_
  obtain⟨w3,r3,g3,h3⟩:=uY (P:=Tryz.prog) (t:=156) (v:=v') hm2 hj (fun i f hi hb=>Classical.byContradiction fun hij=>(h1.apart i j f e hi hj hij).2.1 hb)
  exact⟨w3,r3,g3,_,_,h1.put hj hk rfl hG.grown hG.own hv g3 h3⟩
 obtain⟨w1,g1,⟨j,e,hj,hk,hr,h1⟩|⟨hno,hr,h1⟩⟩:=y6 (P:=Tryz.prog) Fc JJ uh h.at_ h.keys hl
 ·have hes:gP base d m n X w1 es clock:=⟨h1,fun e he=>by
   obtain⟨r,hr⟩:=h.ent e he
   exact⟨r,hr.len,hr.key,hr.row.kept g1 (.inr (h.ne he)),hr.born,hr.own⟩,h.apart,h.full⟩
  obtain⟨r,hr'⟩:=hes.ent e (List.mem_of_getElem? hj)
  have e1:r=(d.drop n).take 4:=vT (hr'.key.symm.trans hk)
  subst e1
  exact⟨e.val,e.born,w1,hr,g1,hr'.row,hr'.own,hes.ne (List.mem_of_getElem? hj),fin es clock w1 j e hes hj hk⟩
 ·have hes:=h.add hq hno g1 h1
  have hj:(es++[({key:=K4 ((d.drop n).take 4),val:=.slice none 0 0,born:=clock}:MapEntry)])[es.length]? =some {key:=K4 ((d.drop n).take 4),val:=.slice none 0 0,born:=clock}:=by simp
  obtain⟨r,hr'⟩:=hes.ent _ (List.mem_of_getElem? hj)
  have e1:r=(d.drop n).take 4:=vT (hr'.key.symm.trans rfl)
  subst e1
  exact⟨.slice none 0 0,clock,w1,hr,g1,hr'.row,hr'.own,by simp[Value.ownBlock],fin _ _ w1 es.length _ hes hj rfl⟩
end
end Go.Rl
namespace Go.Rl
open Go.RowKit Go.Proofs
theorem CH:aw Tryz.prog 120:=⟨_,Tryz.func120,by kernel_rfl,rfl⟩
theorem sw:aw Tryz.prog 60:=⟨_,Tryz.func60,by kernel_rfl,rfl⟩
theorem zT:aw Tryz.prog 23:=⟨_,Tryz.func23,by kernel_rfl,rfl⟩
theorem CI {w:World} {d:List UInt8} {v:Value} {i k:Nat} (hv:ci d v w) (hi:i≤d.length) (hk:1≤k) (hki:k≤i) (hl:d.length≤1099511627776):
 Calls Tryz.prog 120 #[v,I (i:Int),I (k:Int)] w (bD fun r w'=>aG w w'∧r=I ((ml d i k:Nat):Int)):=by
 refine enter (vs:=[v,I (i:Int),I (k:Int)]) Tryz.func120 JL JL JL ?_
 refine af (aa (ac JL JL (ag (ab (af (aa (ac JL JL (ag (ab (af (av ?_)))))))))))
 refine ck (α:=Nat) (fun x=>[(0,v),(1,I (i:Int)),(2,I (k:Int)),(7,I (x:Int))]) (fun x w'=>aG w w'∧i+x≤d.length∧ml d i k=x+jT (d.drop (i+x)) (d.drop (i-k+x))) (fun x=>d.length-x) (0) ⟨rfl,rfl,rfl,rfl,trivial⟩ ⟨aG.refl _,by omega,by simp[ml]⟩ ?_
 rintro j w2 ⟨e2,hj,hm⟩
 refine af (af ?_)
 by_cases h13:((i+j:Nat):Int)<((d.length:Nat):Int)
 ·refine bm 22 [0,1,2,7,14,29] (by kernel_rfl) (by kernel_rfl) ?_
  refine ao JL JL (ao JL JL (aO (r:=I ((i+j:Nat):Int)) JL JL JL (fun w _=>by have e:((i+j:Nat):Int)=(i:Int)+(j:Int):=(by omega);rw[e];exact aE (by omega) (by omega)) ?_))
  refine ao JL JL (gN (vs:=[v]) JL JL (fun w hw=>bP ((hv.ext e2).ext hw)) (aO JL JL JL (fun w _=>dv h13 aS) (ao JL JL (bV JL JL ?_))))
  refine ao JL JL (bV JL JL (ao JL JL (bV JL JL (ao JL JL (bV JL JL (aO (r:=I ((i+j:Nat):Int)) JL JL JL (fun w _=>by have e:((i+j:Nat):Int)=(i:Int)+(j:Int):=(by omega);rw[e];exact aE (by omega) (by omega)) ?_))))))
  refine bV JL JL ?_
  obtain⟨a19,p19,q19⟩:=gc (hv.ext e2) (i:=i+j) (by omega) .i64
  refine ay JL JL JL (fun w _=>p19 w) (bV JL JL (aD JL JL (fun w hw=>ai Jm JL (hw.cell_some q19)) (bV JL JL ?_)))
  refine ao JL JL (bV JL JL (ao JL JL (bV JL JL (ao JL JL (bV JL JL (aO (r:=I ((i+j:Nat):Int)) JL JL JL (fun w _=>by have e:((i+j:Nat):Int)=(i:Int)+(j:Int):=(by omega);rw[e];exact aE (by omega) (by omega)) ?_))))))
  refine bV JL JL (ao JL JL (bV JL JL (aO (r:=I ((i-k+j:Nat):Int)) JL JL JL (fun w _=>by have e:((i-k+j:Nat):Int)=((i+j:Nat):Int)-(k:Int):=(by omega);rw[e];exact aY (by omega) (by omega)) ?_)))
  refine bV JL JL ?_
  obtain⟨a27,p27,q27⟩:=gc (hv.ext e2) (i:=i-k+j) (by omega) .i64
  refine ay JL JL JL (fun w _=>p27 w) (bV JL JL (aD JL JL (fun w hw=>ai Jm JL (hw.cell_some q27)) (bV JL JL ?_)))
  refine aO JL JL JL (fun w _=>iy) (bu ?_)
  intro wg2 xg2
  rintro _ hq0
  obtain rfl:=Eq.symm hq0
  rintro _ rfl
  rintro _ rfl
  rintro _ rfl
  rintro _ rfl
  rintro _ rfl
  refine aB JL JL JL (ag (ab ?_))
  refine ba JL (fun h30=>?_) (fun h30=>?_)
  ·refine ar (ab (av ?_))
   have hst:=qL (d:=d) (j:=j) hki (by omega)
   refine aa (ae JL JL (aj (r:=I ((j+1:Nat):Int)) JL JL JL (by have e:((j+1:Nat):Int)=(j:Int)+1:=(by omega);rw[e];exact aE (by omega) (by omega)) ?_))
   refine ac JL JL (ag (aM ?_))
   refine bN (j+1) ⟨rfl,rfl,rfl,rfl,trivial⟩ ⟨(e2.trans xg2),by omega,by rw[hm,hst,if_pos h30];omega⟩ (by omega)
  ·refine aX (aA (aA (aV (ab (af (aa (ae JL JL (ac JL JL (ag (ab (au (az JL JL ?_))))))))))))
   exact⟨_,rfl,(e2.trans xg2),by
    have e:jT (d.drop (i+j)) (d.drop (i-k+j))=0:=by
     first
     |(rw[List.drop_of_length_le (show d.length≤i+j by omega)];rfl)
     |(rw[qL (d:=d) (j:=j) hki (by omega),if_neg h30])
    rw[hm,e];rfl⟩
 ·refine bm 22 [0,1,2,7,14,29] (by kernel_rfl) (by kernel_rfl) ?_
  refine ao JL JL (ao JL JL (aO (r:=I ((i+j:Nat):Int)) JL JL JL (fun w _=>by have e:((i+j:Nat):Int)=(i:Int)+(j:Int):=(by omega);rw[e];exact aE (by omega) (by omega)) ?_))
  refine ao JL JL (gN (vs:=[v]) JL JL (fun w hw=>bP ((hv.ext e2).ext hw)) (aO JL JL JL (fun w _=>eF h13 aS) (ao JL JL (cS JL JL JL ?_))))
  refine cS JL JL JL (cS JL JL JL (cS JL JL JL (cS JL JL JL (cS JL JL JL (cS JL JL JL (cS JL JL JL (cS JL JL JL (cS JL JL JL (cS JL JL JL ?_)))))))))
  refine cS JL JL JL (cS JL JL JL (cS JL JL JL (cS JL JL JL (bu ?_))))
  intro wg2 xg2
  rintro _ hq0
  obtain rfl:=Eq.symm hq0
  rintro _ rfl
  rintro _ rfl
  rintro _ rfl
  rintro _ rfl
  rintro _ rfl
  refine aH JL JL JL (ag (ab (dI JL (aX (aA (aA (aV (ab (af (aa (ae JL JL (ac JL JL (ag (ab (au (az JL JL ?_))))))))))))))))
  exact⟨_,rfl,(e2.trans xg2),by
   have e:jT (d.drop (i+j)) (d.drop (i-k+j))=0:=by
    first
    |(rw[List.drop_of_length_le (show d.length≤i+j by omega)];rfl)
    |(rw[qL (d:=d) (j:=j) hki (by omega),if_neg h30])
   rw[hm,e];rfl⟩
theorem sx {w:World} {d:List UInt8} {v:Value} {i:Nat} (hv:ci d v w) (hi:i≤d.length) (hl:d.length≤1099511627776):
 Calls Tryz.prog 60 #[v,I (i:Int)] w (bD fun r w'=>aG w w'∧r=.tuple #[I (((cN d i).1:Nat):Int),I (((cN d i).2:Nat):Int)]):=by
 refine enter (vs:=[v,I (i:Int)]) Tryz.func60 JL JL JL ?_
 refine af (aa (ac JL JL (ac JL JL (ag (ab (af (aa (ac JL JL (ac JL JL (ag (ab (af (af (aa (ac JL JL (ag ?_))))))))))))))))
 refine ab (av ?_)
 refine il (fun(j:Nat) (bn:Nat) (bk:Nat)=>[(0,v),(1,I (i:Int)),(6,I (bn:Int)),(7,I (bk:Int)),(8,I ((j+1:Nat):Int))]) (fun(j:Nat) (bn:Nat) (bk:Nat) w'=>aG w w'∧j≤min i 4096∧qr d i j=(bn,bk)) (fun(j:Nat) (bn:Nat) (bk:Nat)=>min i 4096-j) (0) (0) (0) ⟨rfl,rfl,rfl,rfl,rfl,trivial⟩ ⟨aG.refl _,by omega,rfl⟩ ?_
 rintro j bn bk w3 ⟨e3,hj,hb⟩
 refine af (af (aa (ae JL JL (ae JL JL (aj JL JL JL (kB) (ae JL JL ?_))))))
 refine cW (fun h13=>?_) (fun h13=>?_)
 ·refine al JL (ae JL JL (al JL (aj JL JL JL (kB) (aB JL JL JL (ag (ab ?_))))))
  refine ba JL (fun h16=>?_) (fun h16=>?_)
  ·refine ar (ab (af (av (af (aa (ae JL JL (ae JL JL (ae JL JL (am CH JL JL (CI (hv.ext e3) hi (by omega) (by omega) hl) ?_)))))))))
   rintro v22 w22 ⟨x22,rfl⟩
   refine ac JL JL (ag (ab (af (aa (ae JL JL (aj JL JL JL (fQ) (ae JL JL ?_)))))))
   refine cW (fun h25=>?_) (fun h25=>?_)
   ·refine al JL (ae JL JL (al JL (ae JL JL (al JL (aj JL JL JL (cg) (aB JL JL JL (ag (ab ?_))))))))
    refine ba JL (fun h29=>?_) (fun h29=>?_)
    ·refine aa (ae JL JL (ae JL JL (ac JL JL (ac JL JL (ag (aM (ab (aa (ae JL JL (aj (r:=I ((j+1+1:Nat):Int)) JL JL JL (by have e:((j+1+1:Nat):Int)=((j+1:Nat):Int)+1:=(by omega);rw[e];exact aE (by omega) (by omega)) ?_))))))))))
     refine ac JL JL (ag ?_)
     refine dE (j+1) (ml d i (j+1)) (j+1) ⟨rfl,rfl,rfl,rfl,rfl,trivial⟩ ⟨(e3.trans x22),by omega,by rw[qr,hb,if_pos ⟨by omega,by show bn<ml d i (j+1);omega⟩]⟩ (by omega)
    ·refine ar (aM (ab (aa (ae JL JL (aj (r:=I ((j+1+1:Nat):Int)) JL JL JL (by have e:((j+1+1:Nat):Int)=((j+1:Nat):Int)+1:=(by omega);rw[e];exact aE (by omega) (by omega)) ?_)))))
     refine ac JL JL (ag ?_)
     refine dE (j+1) (bn) (bk) ⟨rfl,rfl,rfl,rfl,rfl,trivial⟩ ⟨(e3.trans x22),by omega,by
      rw[qr,hb,if_neg]
      intro h
      have h2:bn<ml d i (j+1):=h.2
      exact h29 (by omega)⟩ (by omega)
   ·refine aq JL JL JL (aq JL JL JL (aq JL JL JL (aH JL JL JL (ag (ab (dI JL (ar (aM (ab (aa (ae JL JL (aj (r:=I ((j+1+1:Nat):Int)) JL JL JL (by have e:((j+1+1:Nat):Int)=((j+1:Nat):Int)+1:=(by omega);rw[e];exact aE (by omega) (by omega)) ?_))))))))))))
    refine ac JL JL (ag ?_)
    refine dE (j+1) (bn) (bk) ⟨rfl,rfl,rfl,rfl,rfl,trivial⟩ ⟨(e3.trans x22),by omega,by
     rw[qr,hb,if_neg]
     intro h
     exact h25 (by omega)⟩ (by omega)
  ·refine aX (aA (aA (aV (ab (af (aa (ae JL JL (ae JL JL (ac JL JL (ac JL JL (ag (ab (au (aR JL JL JL ?_))))))))))))))
   exact⟨_,rfl,e3,by
    unfold cN
    rw[show min i 4096=j by omega,hb]⟩
 ·refine aq JL JL JL (aq JL JL JL (aH JL JL JL (ag (ab (dI JL (aX (aA (aA (aV (ab (af (aa (ae JL JL (ae JL JL (ac JL JL ?_)))))))))))))))
  refine ac JL JL (ag (ab (au (aR JL JL JL ?_))))
  exact⟨_,rfl,e3,by
   unfold cN
   rw[show min i 4096=j by omega,hb]⟩
end Go.Rl
namespace Go.Rl
open Go.RowKit Go.Proofs
theorem Ff {n:Nat} (h:n<18446744073709551616):(UInt64.ofNat n).toNat=n:=by rw[UInt64.toNat_ofNat'];omega
theorem zU {w:World} {d:List UInt8} {v:Value} (hv:ci d v w) (hl:d.length≤1099511627776):
 Calls Tryz.prog 23 #[v] w (bD fun r w'=>aG w w'∧ci (bQ d) r w'):=by
 refine enter (vs:=[v]) Tryz.func23 JL JL JL ?_
 have hpl:=li (d:=d) (by omega)
 refine af (aa (ac JL JL (ag (ab (af (aa (ae JL JL (aP JL JL (bP hv) (aQ JL JL (cZ Jh Ji) ?_)))))))))
 refine am bZ JL JL (cc (ci.nil _) (by simp)) ?_
 rintro v11 w11 ⟨x11,o11⟩
 refine ac JL JL (ag (ab (af (af (aa (ac JL JL (ag (ab (av ?_)))))))))
 refine il (fun(s:Nat) (O:List UInt8) (vo:Value)=>[(0,v),(3,vo),(4,I (s:Int))]) (fun(s:Nat) (O:List UInt8) (vo:Value) w'=>aG w w'∧s≤d.length∧ci O vo w'∧O++pk d s 0=bQ d) (fun(s:Nat) (O:List UInt8) (vo:Value)=>d.length-s) (0) (uv d.length) (v11) ⟨rfl,rfl,rfl,trivial⟩ ⟨x11,by omega,by have:=o11.bts;rw[List.nil_append,Ff (by omega)] at this;exact this,rfl⟩ ?_
 rintro s O vo w3 ⟨e3,hs,hO,hp⟩
 refine af (af (aa (ae JL JL (ae JL JL (aP JL JL (bP (hv.ext e3)) (aj JL JL JL (aS) (ag (ab ?_))))))))
 refine ba JL (fun h15=>?_) (fun h15=>?_)
 ·refine ar (ab (av (af (aa (ae JL JL (ac JL JL (ag (ab (af (aa (ae JL JL (ae JL JL (am sw JL JL (sx (hv.ext e3) hs (by omega)) ?_)))))))))))))
  rintro v20 w20 ⟨x20,rfl⟩
  refine ae JL JL (an JL JL (bw) (an JL JL (bz) (ac JL JL (ac JL JL (ag (ab (af (av ?_))))))))
  refine il (fun(i:Nat) (n:Nat) (k:Nat)=>[(0,v),(3,vo),(4,I (i:Int)),(5,I (s:Int)),(6,I (n:Int)),(7,I (k:Int))]) (fun(i:Nat) (n:Nat) (k:Nat) w'=>aG w3 w'∧s≤i∧i≤d.length∧O++pk d i (i-s)=bQ d∧cN d i=(n,k)) (fun(i:Nat) (n:Nat) (k:Nat)=>d.length-i) (s) ((cN d s).1) ((cN d s).2) ⟨rfl,rfl,rfl,rfl,rfl,rfl,trivial⟩ ⟨x20,by omega,hs,by rw[Nat.sub_self];exact hp,rfl⟩ ?_
  rintro i n k w6 ⟨e6,hsi,hi,hq,hb⟩
  refine af (af (aa (ae JL JL (aj JL JL JL (bA) (ae JL JL ?_)))))
  refine cW (fun h25=>?_) (fun h25=>?_)
  ·refine al JL (ae JL JL (al JL (ae JL JL (al JL (aP JL JL (bP (hv.ext (e3.trans e6))) (al JL (aj JL JL JL (aS) (aB JL JL JL ?_))))))))
   refine ag (ab ?_)
   refine ba JL (fun h30=>?_) (fun h30=>?_)
   ·refine ar (ab (av (af (aa (ae JL JL (aj (r:=I ((i+1:Nat):Int)) JL JL JL (by have e:((i+1:Nat):Int)=(i:Int)+1:=(by omega);rw[e];exact aE (by omega) (by omega)) ?_))))))
    refine ac JL JL (ag (ab (aa (ae JL JL (ae JL JL (am sw JL JL (sx (hv.ext (e3.trans e6)) (by omega) (by omega)) ?_))))))
    rintro v36 w36 ⟨x36,rfl⟩
    refine ae JL JL (an JL JL (bw) (an JL JL (bz) (ac JL JL (ac JL JL (ag (aM ?_))))))
    refine dE (i+1) ((cN d (i+1)).1) ((cN d (i+1)).2) ⟨rfl,rfl,rfl,rfl,rfl,rfl,trivial⟩ ⟨(e6.trans x36),by omega,by omega,by rw[pH (by omega) (by rw[hb];show n=0;omega)] at hq;rw[show i+1-s=i-s+1 by omega];exact hq,rfl⟩ (by omega)
   ·refine aX (aA (aA (aV (ab (af ?_)))))
    have hpO:O.length≤(bQ d).length:=by rw[←hq,List.length_append];omega
    have hus:(UInt64.ofNat (i-s)).toNat=i-s:=Ff (by omega)
    have hul:=dy (n:=i-s) (by omega)
    obtain⟨L,hL⟩:∃L,L=(d.drop s).take (i-s):=⟨_,rfl⟩
    have hLl:L.length=i-s:=by rw[hL,List.length_take,List.length_drop];omega
    refine bm 10 [0,4,6,7,44,48] (by kernel_rfl) (by kernel_rfl) ?_
    refine ao JL JL (ao JL JL (ao JL JL (aO (r:=I ((i-s:Nat):Int)) JL JL JL (fun w _=>by have e:((i-s:Nat):Int)=(i:Int)-(s:Int):=(by omega);rw[e];exact aY (by omega) (by omega)) ?_)))
    refine dk rfl rfl (fun w hw=>cZ Jh Ji) (bW (S:=cf w6.heap.size (O++uv (i-s))) bZ (cf.stable _ _) rfl (fun w hw=>by rintro _ rfl _ rfl;exact bD.mono (cc ((hO.ext e6).ext hw) (by omega)) fun v w' h=>⟨h.1,by have:=h.2.low hw.size;rw[hus] at this;exact this⟩) ?_)
    refine ao JL JL (ao JL JL (ao JL JL ?_))
    obtain⟨v48,p48,b48⟩:=ra (hv.ext (e3.trans e6)) (lo:=s) (hi:=i) (by omega) (by omega) .i64 .i64
    refine gx JL JL JL JL (fun w _=>p48 w) (bu ?_)
    intro wg9 xg9
    rintro _ hq0
    obtain rfl:=Eq.symm hq0
    rintro _ rfl
    rintro _ rfl
    rintro _ rfl
    intro vg44 b44
    rintro _ hq48
    obtain rfl:=Eq.symm hq48
    have b48:ci L v48 wg9:=by rw[List.drop_take] at b48;rw[hL];exact b48.ext xg9
    obtain⟨v49,w49,hr49,o49,g49⟩:=cH (ty:=28) b44 b48 (by simp only[List.length_append];omega) (xg9).size
    have x49:=aG.of_grew (xg9) g49 b44.ge
    refine aW JL JL hr49 (ac JL JL (ag (ab (af (aa (ae JL JL (ae JL JL (aP JL JL (bP (hv.ext ((e3.trans e6).trans x49))) (aj JL JL JL (aS) ?_)))))))))
    refine ag (ab ?_)
    refine ba JL (fun h53=>?_) (fun h53=>?_)
    ·have hn0:n≠0:=by omega
     have hbo:=lh (d:=d) (i:=i) (by rw[hb];exact hn0)
     rw[hb] at hbo
     obtain⟨h4,h1,h2,h3,_,h5⟩:=hbo
     have h4:4≤n:=h4
     have h1:1≤k:=h1
     have h3:k≤4096:=h3
     have h5:i+n≤d.length:=h5
     have hun:(UInt64.ofNat (n-4)).toNat=n-4:=Ff (by omega)
     have huk:(UInt64.ofNat (k-1)).toNat=k-1:=Ff (by omega)
     have hu4:=dy (n:=n-4) (by omega)
     have hq2:O++uv (i-s)++L++uv (n-4)++uv (k-1)++pk d (i+n) 0=bQ d:=by
      rw[ki (by omega) (by rw[hb];exact hn0),hb,show i-(i-s)=s by omega,←hL] at hq
      rw[←hq];simp only[List.append_assoc]
     refine af (aa (ae JL JL (ae JL JL (aj (r:=I ((n-4:Nat):Int)) JL JL JL (by have e:((n-4:Nat):Int)=(n:Int)-4:=(by omega);rw[e];exact aY (by omega) (by omega)) ?_))))
     refine aQ JL JL (cZ Tryz.underlying3 Tryz.underlying41) (am bZ JL JL (cc o49.bts (by simp only[List.length_append];omega)) ?_)
     rintro v58 w58 ⟨x58,o58⟩
     rw[hun] at o58
     refine ae JL JL (aj (r:=I ((k-1:Nat):Int)) JL JL JL (by have e:((k-1:Nat):Int)=(k:Int)-1:=(by omega);rw[e];exact aY (by omega) (by omega)) ?_)
     refine aQ JL JL (cZ Tryz.underlying3 Tryz.underlying41) (am bZ JL JL (cc o58.bts (by simp only[List.length_append];omega)) ?_)
     rintro v62 w62 ⟨x62,o62⟩
     rw[huk] at o62
     refine ac JL JL (ag (ab (aa (ae JL JL (ae JL JL (aj (r:=I ((i+n:Nat):Int)) JL JL JL (by have e:((i+n:Nat):Int)=(i:Int)+(n:Int):=(by omega);rw[e];exact aE (by omega) (by omega)) ?_))))))
     refine ac JL JL (ag (aM ?_))
     refine dE (i+n) (O++uv (i-s)++L++uv (n-4)++uv (k-1)) (v62) ⟨rfl,rfl,rfl,trivial⟩ ⟨((((e3.trans e6).trans x49).trans x58).trans x62),h5,o62.bts,hq2⟩ (by omega)
    ·have hie:i=d.length:=by omega
     have hq2:O++uv (i-s)++L++pk d i 0=bQ d:=by
      rw[jQ (by omega),if_pos (by omega),show d.length-(i-s)=s by omega] at hq
      rw[jQ (by omega),if_neg (by omega),List.append_nil,←hq,hL,List.take_of_length_le (by rw[List.length_drop];omega),List.append_assoc]
     refine ar (aM ?_)
     refine dE (i) (O++uv (i-s)++L) (v49) ⟨rfl,rfl,rfl,trivial⟩ ⟨((e3.trans e6).trans x49),by omega,(o49).bts,hq2⟩ (by omega)
  ·refine aq JL JL JL (aq JL JL JL (aq JL JL JL (aq JL JL JL (aH JL JL JL (ag (ab (dI JL (aX (aA (aA (aV (ab (af ?_)))))))))))))
   have hpO:O.length≤(bQ d).length:=by rw[←hq,List.length_append];omega
   have hus:(UInt64.ofNat (i-s)).toNat=i-s:=Ff (by omega)
   have hul:=dy (n:=i-s) (by omega)
   obtain⟨L,hL⟩:∃L,L=(d.drop s).take (i-s):=⟨_,rfl⟩
   have hLl:L.length=i-s:=by rw[hL,List.length_take,List.length_drop];omega
   refine bm 10 [0,4,6,7,44,48] (by kernel_rfl) (by kernel_rfl) ?_
   refine ao JL JL (ao JL JL (ao JL JL (aO (r:=I ((i-s:Nat):Int)) JL JL JL (fun w _=>by have e:((i-s:Nat):Int)=(i:Int)-(s:Int):=(by omega);rw[e];exact aY (by omega) (by omega)) ?_)))
   refine dk rfl rfl (fun w hw=>cZ Jh Ji) (bW (S:=cf w6.heap.size (O++uv (i-s))) bZ (cf.stable _ _) rfl (fun w hw=>by rintro _ rfl _ rfl;exact bD.mono (cc ((hO.ext e6).ext hw) (by omega)) fun v w' h=>⟨h.1,by have:=h.2.low hw.size;rw[hus] at this;exact this⟩) ?_)
   refine ao JL JL (ao JL JL (ao JL JL ?_))
   obtain⟨v48,p48,b48⟩:=ra (hv.ext (e3.trans e6)) (lo:=s) (hi:=i) (by omega) (by omega) .i64 .i64
   refine gx JL JL JL JL (fun w _=>p48 w) (bu ?_)
   intro wg9 xg9
   rintro _ hq0
   obtain rfl:=Eq.symm hq0
   rintro _ rfl
   rintro _ rfl
   rintro _ rfl
   intro vg44 b44
   rintro _ hq48
   obtain rfl:=Eq.symm hq48
   have b48:ci L v48 wg9:=by rw[List.drop_take] at b48;rw[hL];exact b48.ext xg9
   obtain⟨v49,w49,hr49,o49,g49⟩:=cH (ty:=28) b44 b48 (by simp only[List.length_append];omega) (xg9).size
   have x49:=aG.of_grew (xg9) g49 b44.ge
   refine aW JL JL hr49 (ac JL JL (ag (ab (af (aa (ae JL JL (ae JL JL (aP JL JL (bP (hv.ext ((e3.trans e6).trans x49))) (aj JL JL JL (aS) ?_)))))))))
   refine ag (ab ?_)
   refine ba JL (fun h53=>?_) (fun h53=>?_)
   ·have hn0:n≠0:=by omega
    have hbo:=lh (d:=d) (i:=i) (by rw[hb];exact hn0)
    rw[hb] at hbo
    obtain⟨h4,h1,h2,h3,_,h5⟩:=hbo
    have h4:4≤n:=h4
    have h1:1≤k:=h1
    have h3:k≤4096:=h3
    have h5:i+n≤d.length:=h5
    have hun:(UInt64.ofNat (n-4)).toNat=n-4:=Ff (by omega)
    have huk:(UInt64.ofNat (k-1)).toNat=k-1:=Ff (by omega)
    have hu4:=dy (n:=n-4) (by omega)
    have hq2:O++uv (i-s)++L++uv (n-4)++uv (k-1)++pk d (i+n) 0=bQ d:=by
     rw[ki (by omega) (by rw[hb];exact hn0),hb,show i-(i-s)=s by omega,←hL] at hq
     rw[←hq];simp only[List.append_assoc]
    refine af (aa (ae JL JL (ae JL JL (aj (r:=I ((n-4:Nat):Int)) JL JL JL (by have e:((n-4:Nat):Int)=(n:Int)-4:=(by omega);rw[e];exact aY (by omega) (by omega)) ?_))))
    refine aQ JL JL (cZ Tryz.underlying3 Tryz.underlying41) (am bZ JL JL (cc o49.bts (by simp only[List.length_append];omega)) ?_)
    rintro v58 w58 ⟨x58,o58⟩
    rw[hun] at o58
    refine ae JL JL (aj (r:=I ((k-1:Nat):Int)) JL JL JL (by have e:((k-1:Nat):Int)=(k:Int)-1:=(by omega);rw[e];exact aY (by omega) (by omega)) ?_)
    refine aQ JL JL (cZ Tryz.underlying3 Tryz.underlying41) (am bZ JL JL (cc o58.bts (by simp only[List.length_append];omega)) ?_)
    rintro v62 w62 ⟨x62,o62⟩
    rw[huk] at o62
    refine ac JL JL (ag (ab (aa (ae JL JL (ae JL JL (aj (r:=I ((i+n:Nat):Int)) JL JL JL (by have e:((i+n:Nat):Int)=(i:Int)+(n:Int):=(by omega);rw[e];exact aE (by omega) (by omega)) ?_))))))
    refine ac JL JL (ag (aM ?_))
    refine dE (i+n) (O++uv (i-s)++L++uv (n-4)++uv (k-1)) (v62) ⟨rfl,rfl,rfl,trivial⟩ ⟨((((e3.trans e6).trans x49).trans x58).trans x62),h5,o62.bts,hq2⟩ (by omega)
   ·have hie:i=d.length:=by omega
    have hq2:O++uv (i-s)++L++pk d i 0=bQ d:=by
     rw[jQ (by omega),if_pos (by omega),show d.length-(i-s)=s by omega] at hq
     rw[jQ (by omega),if_neg (by omega),List.append_nil,←hq,hL,List.take_of_length_le (by rw[List.length_drop];omega),List.append_assoc]
    refine ar (aM ?_)
    refine dE (i) (O++uv (i-s)++L) (v49) ⟨rfl,rfl,rfl,trivial⟩ ⟨((e3.trans e6).trans x49),by omega,(o49).bts,hq2⟩ (by omega)
 ·refine aX (aA (aA (aV (ab (af (aa (ae JL JL (ac JL JL (ag (ab (au (az JL JL ?_))))))))))))
  exact⟨_,rfl,e3,by
   rw[jQ (by omega),if_neg (by omega),List.append_nil] at hp
   rw[←hp];exact hO⟩
end Go.Rl
namespace Go.Rl
open Go.RowKit Go.Proofs
theorem Fg:aw Tryz.prog 77:=⟨_,Tryz.func77,by kernel_rfl,rfl⟩
theorem Fh {w:World} {l m:List UInt8} {v u:Value} (hv:ci l v w) (hu:ci m u w):
 Calls Tryz.prog 77 #[v,u] w (bD fun r w'=>aG w w'∧r=B (decide (l=m))):=by
 refine enter (vs:=[v,u]) Tryz.func77 JL JL JL ?_
 have hll:=hv.len
 refine af (aa (ac JL JL (ag (ab (af (af (aa (ae JL JL (aP JL JL (bP hv) (ae JL JL (aP JL JL (bP hu) (aj JL JL JL (dj) ?_))))))))))))
 refine ag (ab ?_)
 refine ba JL (fun h10=>?_) (fun h10=>?_)
 ·have hne:l≠m:=fun h=>h10 (by rw[h])
  refine af (aa (ac JL JL (ag (ab (au (ax (az JL JL ?_)))))))
  exact⟨_,rfl,aG.refl _,congrArg B (decide_eq_false hne).symm⟩
 ·have hlen:l.length=m.length:=by omega
  refine ar (ab (af (af (aa (ae JL JL (aP JL JL (bP hv) (ae JL JL (ag (ab (av ?_))))))))))
  refine ck (α:=Nat) (fun x=>[(0,v),(1,u),(12,I (l.length:Int)),(13,I (x:Int))]) (fun x w'=>aG w w'∧x≤l.length∧l.take x=m.take x) (fun x=>l.length-x) (0) ⟨rfl,rfl,rfl,rfl,trivial⟩ ⟨aG.refl _,by omega,rfl⟩ ?_
  rintro i w4 ⟨e4,hi,ht⟩
  refine af (aa (aj JL JL JL (aS) (ag (ab (af ?_)))))
  refine ba JL (fun h14=>?_) (fun h14=>?_)
  ·refine ar (ab (af (av (af (aa (ae JL JL (ac JL JL (ag (ab (af (bm 8 [0,1,12,13,19,23] (by kernel_rfl) (by kernel_rfl) ?_)))))))))))
   refine ao JL JL (ao JL JL ?_)
   obtain⟨a18,p18,q18⟩:=gc (hv.ext e4) (i:=i) (by omega) .i64
   refine ay JL JL JL (fun w _=>p18 w) (aD JL JL (fun w hw=>ai Jm JL (hw.cell_some q18)) (ao JL JL (ao JL JL ?_)))
   obtain⟨a22,p22,q22⟩:=gc (hu.ext e4) (i:=i) (by omega) .i64
   refine ay JL JL JL (fun w _=>p22 w) (aD JL JL (fun w hw=>ai Jm JL (hw.cell_some q22)) (bu ?_))
   intro wg6 xg6
   rintro _ hq0
   obtain rfl:=Eq.symm hq0
   rintro _ hq1
   obtain rfl:=Eq.symm hq1
   rintro _ rfl
   rintro _ rfl
   rintro _ rfl
   rintro _ rfl
   refine aj JL JL JL (Dz) (ag (ab ?_))
   refine ba JL (fun h24=>?_) (fun h24=>?_)
   ·have hne:l≠m:=fun h=>h24 (by subst h;rfl)
    refine af (aa (ac JL JL (ag (ab (au (aT (ax (ax (aT (ax (az JL JL ?_)))))))))))
    exact⟨_,rfl,(e4.trans xg6),congrArg B (decide_eq_false hne).symm⟩
   ·have he:l[i]'(by omega)=m[i]'(by omega):=Classical.byContradiction fun h=>h24 h
    refine ar (aM (ab (aa (aj (r:=I ((i+1:Nat):Int)) JL JL JL (by have e:((i+1:Nat):Int)=(i:Int)+1:=(by omega);rw[e];exact aE (by omega) (by omega)) ?_))))
    refine ae JL JL (ag ?_)
    refine bN (i+1) ⟨rfl,rfl,rfl,rfl,trivial⟩ ⟨(e4.trans xg6),by omega,by rw[List.take_succ_eq_append_getElem (by omega),List.take_succ_eq_append_getElem (by omega),ht,he]⟩ (by omega)
  ·refine aX (aA (aA (aV (ab (af (aa (ac JL JL (ag (ab (au (az JL JL ?_)))))))))))
   exact⟨_,rfl,e4,by
    rw[List.take_of_length_le (by omega),List.take_of_length_le (by omega)] at ht
    rw[decide_eq_true ht];rfl⟩
end Go.Rl
namespace Go.Rl
open Go.RowKit Go.Proofs
section
variable {w:World} {g:Nat} {st:Option (List UInt8)}
theorem H3 (hr:aU g st w):Calls Tryz.prog 129 #[.pointer (some ⟨g,0,none⟩)] w (bD fun r w'=>w=w'∧r=I ((st.getD []).length:Nat)):=(Cj hr).mono fun _ _ ⟨v,h,h1,h2⟩=>⟨v,h,h2.symm,h1⟩
end
end Go.Rl
namespace Go.Rl
open Go.RowKit Go.Proofs
theorem gq:aw Tryz.prog 106:=⟨_,Tryz.func106,by kernel_rfl,rfl⟩
theorem vU {l t':List UInt8} {n:Nat} (h:eh (l.take 10)=some (n,t')):eh l=some (n,l.drop (uv n).length)∧(uv n).length+t'.length=min l.length 10:=by
 obtain⟨h1,h2⟩:=fS h
 have hlen:(uv n).length+t'.length=min l.length 10:=by
  have:=congrArg List.length h1
  rw[List.length_take,List.length_append] at this
  omega
 have e:l=uv n++(t'++l.drop 10):=by
  rw[←List.append_assoc,←h1,List.take_append_drop]
 refine⟨?_,hlen⟩
 have hd:l.drop (uv n).length=t'++l.drop 10:=by
  conv=>lhs;rw[e]
  rw[List.drop_left' rfl]
 rw[hd]
 conv=>lhs;rw[e]
 exact jk h2 _
theorem vV {l:List UInt8} (h:eh (l.take 10)=none):eh l=none:=by
 cases hr:eh l with
 |none=>rfl
 |some p=>
  obtain⟨n,t⟩:=p
  obtain⟨h1,h2⟩:=fS hr
  have hl:=dy (n:=n) h2
  have e:l.take 10=uv n++t.take (10-(uv n).length):=by
   rw[h1,List.take_append]
   congr 1
   exact List.take_of_length_le (by omega)
  rw[e,jk h2] at h
  cases h
theorem Bb {P:Program} {w:World} {ts:Array TypeId} {ty:TypeId} {n:Nat}:(Builtin.min_ ts ty #[I (n:Int),I 10]).run P w=.ok (I ((min n 10:Nat):Int)) w:=by
 have e:((min n 10:Nat):Int)=if (10:Int)<(n:Int) then 10 else(n:Int):=by split<;>omega
 rw[e];rfl
theorem H4 {P:Program} {w:World} {t:TypeId} {x y:Operand} {a b c:Nat} (h:c+b=a) (ha:a≤1099511627776):(bin .sub t x y (I (a:Int)) (I (b:Int))).run P w=.ok (I (c:Int)) w:=by
 have e:(c:Int)=(a:Int)-(b:Int):=by omega
 rw[e]
 exact aY (by omega) (by omega)
def Fi (l:List UInt8) (r:Value) (w':World):Prop:=match eh l with
 |some (n,t)=>∃v,r=.tuple #[bC (UInt64.ofNat n),v,B true]∧ci t v w'
 |none=>r=.tuple #[bC 0,.slice none 0 0,B false]
theorem ui {w w0:World} {l:List UInt8} {v:Value} (h0:ci l v w0) (hv:ci l v w) (hl:l.length≤1099511627776):
 Calls Tryz.prog 106 #[v] w (bD fun r w'=>aG w w'∧Fi l r w0):=by
 refine enter (vs:=[v]) Tryz.func106 JL JL JL ?_
 refine af (aa (ac JL JL (ac JL JL (ac JL JL (ag (ab (af (aa (ae JL JL (ae JL JL (aP JL JL (bP hv) ?_)))))))))))
 refine IA (vs:=[I (l.length:Int),I 10]) JL JL Bb ?_
 obtain⟨v12,p12,b12⟩:=jg hv (hi:=min l.length 10) (by omega) .i64
 refine cY JL JL JL JL JL (p12 _) ?_
 have b12:ci (l.take 10) v12 w:=by
  have e:l.take (min l.length 10)=l.take 10:=by rw[Nat.min_comm,←List.take_take,List.take_length]
  rw[e] at b12;exact b12
 refine am xm JL JL ((xp b12 (by rw[List.length_take];omega))) ?_
 rintro v13 w13 ⟨x13,g,lg,rfl,rr⟩
 refine ac JL JL (ag (ab (af ?_)))
 rcases hU:eh (l.take 10) with _|⟨n,t⟩
 ·refine aa (ae JL JL (am gj JL JL ((Hk (st:=some (l.take 10)) rr hU)) ?_))
  rintro v16 w16 ⟨g16,rfl,r1⟩
  have x16:=(x13).of_new g16 lg
  refine ae JL JL (an JL JL (bw) (an JL JL (bz) (ac JL JL (ac JL JL (ag (ab (af (af (aa (ae JL JL (aj JL JL JL (dv (by decide) dj) ?_)))))))))))
  refine ag (ab (bJ JL (af (aa (ac JL JL (ac JL JL (ac JL JL (ag (ab (au (ax (ky JL JL JL JL ?_))))))))))))
  exact⟨_,rfl,x16,by unfold Fi;rw[vV hU];rfl⟩
 ·obtain⟨hs,hlen⟩:=vU hU
  refine aa (ae JL JL (am gj JL JL ((Hl (st:=some (l.take 10)) rr hU)) ?_))
  rintro v16 w16 ⟨g16,rfl,r1⟩
  have x16:=(x13).of_new g16 lg
  refine ae JL JL (an JL JL (bw) (an JL JL (bz) (ac JL JL (ac JL JL (ag (ab (af (af (aa (ae JL JL (aj JL JL JL (eF (by decide) dj) ?_)))))))))))
  refine ag (ab (dI JL (ar (ab (af (bm 11 [2,3] (by kernel_rfl) (by kernel_rfl) ?_))))))
  refine ao JL JL (ao JL JL (ao JL JL (gN (vs:=[v]) JL JL (fun w hw=>bP ((hv.ext x16).ext hw)) (IC (vs:=[I (l.length:Int),I 10]) JL JL (fun _ _=>Bb) ?_))))
  refine ao rfl rfl (bW (S:=Is (I ((t.length:Nat):Int))) Ci (bo.is _) rfl (fun w hw=>by rintro _ rfl;exact bD.mono (H3 (r1.ext hw)) fun v w' h=>⟨h.1▸aG.refl _,h.2⟩) ?_)
  refine aO JL JL JL (fun w _=>H4 hlen (by omega)) ?_
  obtain⟨v29,p29,b29⟩:=iB h0 (lo:=(uv n).length) (by omega) .i64
  refine gx JL JL JL JL (fun w hw=>p29 _) (dX JL JL (dX JL JL (bu ?_)))
  intro wg5 xg5
  rintro _ rfl
  rintro _ rfl
  refine ac JL JL (ag (ab (au (ky JL JL JL JL ?_))))
  exact⟨_,rfl,(x16.trans xg5),by unfold Fi;rw[hs];exact⟨_,rfl,b29⟩⟩
end Go.Rl
namespace Go.Rl
open Go.RowKit Go.Proofs
theorem uj:aw Tryz.prog 107:=⟨_,Tryz.func107,by kernel_rfl,rfl⟩
def ExpR (o:Option (List UInt8)) (r:Value) (w':World):Prop:=match o with
 |some out=>∃v,r=.tuple #[v,B true]∧ci out v w'
 |none=>∃v,r=.tuple #[v,B false]
section
variable {w w0:World} {l:List UInt8} {v:Value}
theorem mS (hv:ci l v w) (hl:l.length≤1099511627776) (h:eh l=none):Calls Tryz.prog 106 #[v] w (bD fun r w'=>aG w w'∧r=.tuple #[bC 0,.slice none 0 0,B false]):=
 (ui hv hv hl).mono fun _ _ ⟨r,he,h1,h2⟩=>⟨r,he,h1,by unfold Fi at h2;rw[h] at h2;exact h2⟩
theorem mU {n:Nat} {t:List UInt8} (h0:ci l v w0) (hv:ci l v w) (hl:l.length≤1099511627776) (h:eh l=some (n,t)):Calls Tryz.prog 106 #[v] w (bD fun r w'=>aG w w'∧∃u,r=.tuple #[bC (UInt64.ofNat n),u,B true]∧ci t u w0):=
 (ui h0 hv hl).mono fun _ _ ⟨r,he,h1,h2⟩=>⟨r,he,h1,by unfold Fi at h2;rw[h] at h2;exact h2⟩
end
theorem yg {n m:Nat} (hn:n<18446744073709551616) (hm:m<18446744073709551616):UInt64.ofNat n<UInt64.ofNat m↔n<m:=by
 rw[UInt64.lt_iff_toNat_lt,UInt64.toNat_ofNat',UInt64.toNat_ofNat']
 omega
theorem uk {n m:Nat} (hn:n<18446744073709551616) (hm:m<18446744073709551616):UInt64.ofNat n≥UInt64.ofNat m↔m≤n:=by
 show UInt64.ofNat m≤UInt64.ofNat n↔m≤n
 rw[UInt64.le_iff_toNat_le,UInt64.toNat_ofNat',UInt64.toNat_ofNat']
 omega
theorem Fj {n m:Nat} (hn:n<18446744073709551616) (h:m≤n):UInt64.ofNat n-UInt64.ofNat m=UInt64.ofNat (n-m):=by
 apply UInt64.toNat_inj.1
 rw[UInt64.toNat_sub_of_le _ _ (UInt64.le_iff_toNat_le.2 (by rw[UInt64.toNat_ofNat',UInt64.toNat_ofNat'];omega)),UInt64.toNat_ofNat',UInt64.toNat_ofNat',UInt64.toNat_ofNat']
 omega
theorem IW {total f:Nat} {l O:List UInt8} (h:O.length<total) (hN:eh l=none):qj total (f+1) l O=none:=by
 unfold qj;rw[if_pos h,hN];rfl
theorem ni {total f n:Nat} {l O t:List UInt8} (h:O.length<total) (hN:eh l=some (n,t)):qj total (f+1) l O=
 if total-O.length<n∨t.length<n then none
 else if total-O.length=n then(if t.drop n=[] then some (O++t.take n) else none)
 else(eh (t.drop n)).bind fun q=>
  if total-O.length-n<4∨total-O.length-n-4<q.1 then none
  else(eh q.2).bind fun r=>
   if 4096≤r.1∨(O++t.take n).length≤r.1 then none
   else qj total f r.2 (CE (r.1+1) (q.1+4) (O++t.take n)):=by
 rw[qj,if_pos h,hN];rfl
theorem IX {total f:Nat} {l O:List UInt8} (h:¬O.length<total):qj total (f+1) l O=if l=[] then some O else none:=by
 rw[qj,if_neg h]
theorem Fk {k m j c:Nat} {X:List UInt8} (hj:j<m) (hX:X.length=c+j) (hk:k<c):CE (k+1) (m-j) X=CE (k+1) (m-(j+1)) (X++[X[c-1-k+j]'(by omega)]):=by
 obtain⟨s,hs⟩:∃s,m-j=s+1:=⟨m-j-1,by omega⟩
 have e:X.getD (X.length-(k+1)) 0=X[c-1-k+j]'(by omega):=by
  have:X.length-(k+1)=c-1-k+j:=by omega
  rw[this,List.getD_eq_getElem?_getD,List.getElem?_eq_getElem (by omega)]
  rfl
 rw[hs,CE,e,show m-(j+1)=s by omega]
theorem ul {w:World} {rest:List UInt8} {v:Value} {total:Nat} (hv:ci rest v w) (hl:rest.length≤549755813888) (ht:total≤549755813888):
 Calls Tryz.prog 107 #[v,bC (UInt64.ofNat total)] w (bD fun r w'=>aG w w'∧ExpR (qj total (total+1) rest []) r w'):=by
 refine enter (vs:=[v,bC (UInt64.ofNat total)]) Tryz.func107 JL JL JL ?_
 refine af (aa (ac JL JL (ac JL JL (ag (ab (af (aa (ac JL JL (ag (ab (af (av ?_))))))))))))
 refine Gd (fun(f:Nat) (l:List UInt8) (O:List UInt8) (vl:Value) (vo:Value)=>[(0,vl),(1,bC (UInt64.ofNat total)),(6,vo)]) (fun(f:Nat) (l:List UInt8) (O:List UInt8) (vl:Value) (vo:Value) w'=>aG w w'∧ci l vl w∧cf w.heap.size O vo w'∧l.length≤549755813888∧O.length≤total∧total-O.length<f∧qj total (total+1) rest []=qj total f l O) (fun(f:Nat) (l:List UInt8) (O:List UInt8) (vl:Value) (vo:Value)=>total-O.length) (total+1) (rest) ([]) (v) (.slice none 0 0) ⟨rfl,rfl,rfl,trivial⟩ ⟨aG.refl _,hv,cf.nil _ _,hl,by simp,by simp,rfl⟩ ?_
 rintro f l O vl vo w2 ⟨e2,hb,oO,hll,hOt,hf,hu⟩
 refine af (af ?_)
 obtain⟨f,rfl⟩:∃g,f=g+1:=⟨f-1,by omega⟩
 refine aa (ae JL JL (aP JL JL (bP oO.bts) (aQ JL JL (cZ Jh Ji) (ae JL JL (aj JL JL JL (jZ) ?_)))))
 refine ag (ab ?_)
 refine ba JL (fun h19=>?_) (fun h19=>?_)
 ·have hlt:O.length<total:=(yg (by omega) (by omega)).1 h19
  refine ar (ab (av (af (aa (ae JL JL (ae JL JL (aP JL JL (bP oO.bts) (aQ JL JL (cZ Jh Ji) ?_))))))))
  refine aj (r:=bC (UInt64.ofNat (total-O.length))) JL JL JL ((by rw[←Fj (n:=total) (m:=O.length) (by omega) (by omega)];exact dq)) (ac JL JL ?_)
  refine ag (ab (af ?_))
  rcases hN:eh l with _|⟨n,t⟩
  ·refine aa (ae JL JL (am gq JL JL ((mS (hb.ext e2) (by omega) hN)) ?_))
   rintro v27 w27 ⟨x27,rfl⟩
   refine ae JL JL (an JL JL (dZ) (an JL JL (d5) (an JL JL (d6) (ac JL JL (ac JL JL (ac JL JL (ag ?_)))))))
   refine ab (af (af (aa (ae JL JL (bB JL JL bF (ae JL JL (aq JL JL JL (aq JL JL JL (aq JL JL JL (aB JL JL JL (ae JL JL ?_)))))))))))
   refine aq JL JL JL (aq JL JL JL (aq JL JL JL (aq JL JL JL (aq JL JL JL (aB JL JL JL (ag (ab (bJ JL (af (aa (ac JL JL (ac JL JL ?_))))))))))))
   refine ag (ab (au (ax (aT (ax (aT (ax (aR JL JL JL ?_))))))))
   exact⟨_,rfl,(e2.trans x27),by rw[hu,IW hlt hN];exact⟨_,rfl⟩⟩
  ·obtain⟨hN1,hN2⟩:=fS hN
   have htl:t.length≤549755813888:=by rw[hN1,List.length_append] at hll;omega
   refine aa (ae JL JL (am gq JL JL ((mU hb (hb.ext e2) (by omega) hN)) ?_))
   rintro v27 w27 ⟨x27,u1,rfl,hb1⟩
   refine ae JL JL (an JL JL (dZ) (an JL JL (d5) (an JL JL (d6) (ac JL JL (ac JL JL (ac JL JL (ag ?_)))))))
   refine ab (af (af (aa (ae JL JL (bB JL JL bF (ae JL JL (al JL (ae JL JL (al JL (ae JL JL (al JL (aj JL JL JL (dc) ?_))))))))))))
   refine aH JL JL JL (ae JL JL ?_)
   refine cW (fun h38=>?_) (fun h38=>?_)
   ·refine aq JL JL JL (aq JL JL JL (aq JL JL JL (aq JL JL JL (aq JL JL JL (aB JL JL JL (ag (ab (bJ JL (af (aa (ac JL JL (ac JL JL ?_))))))))))))
    refine ag (ab (au (ax (aT (ax (aT (ax (aR JL JL JL ?_))))))))
    exact⟨_,rfl,(e2.trans x27),by
     rw[hu,ni hlt hN,if_pos (by
      first
      |exact .inl ((lT (by omega) (by omega)).1 h38)
      |exact .inr ((lT (by omega) (by omega)).1 h44))]
     exact⟨_,rfl⟩⟩
   ·refine al JL (ae JL JL (al JL (ae JL JL (al JL (aP JL JL (bP (hb1.ext (e2.trans x27))) (al JL (aQ JL JL (cZ Jh Ji) ?_)))))))
    refine al JL (aj JL JL JL (dc) (aH JL JL JL (ag (ab ?_))))
    refine ba JL (fun h44=>?_) (fun h44=>?_)
    ·refine af (aa (ac JL JL (ac JL JL (ag (ab (au (ax (aT (ax (aT (ax (aR JL JL JL ?_))))))))))))
     exact⟨_,rfl,(e2.trans x27),by
      rw[hu,ni hlt hN,if_pos (by
       first
       |exact .inl ((lT (by omega) (by omega)).1 h38)
       |exact .inr ((lT (by omega) (by omega)).1 h44))]
      exact⟨_,rfl⟩⟩
    ·have hn1:n≤total-O.length:=Nat.le_of_not_lt (mt (lT (by omega) (by omega)).2 h38)
     have hn2:n≤t.length:=Nat.le_of_not_lt (mt (lT (by omega) (by omega)).2 h44)
     have hnn:(UInt64.ofNat n).toNat=n:=Ff hN2
     refine ar (ab (af (aa (ae JL JL (ae JL JL (ae JL JL ?_))))))
     obtain⟨v48,p48,b48⟩:=jg hb1 (hi:=(UInt64.ofNat n).toNat) (by omega) .u64
     rw[hnn] at b48
     refine cY (b:=some (bC (UInt64.ofNat n))) JL JL JL JL JL (p48 _) ?_
     obtain⟨v49,w49,hr49,o49,g49⟩:=cH (ty:=28) (oO.ext x27) (b48.ext (e2.trans x27)) (by simp only[List.length_take];omega) ((e2.trans x27)).size
     have x49:=aG.of_grew ((e2.trans x27)) g49 (oO.ext x27).ge
     refine aW JL JL hr49 (ac JL JL (ag (ab (af (aa (ae JL JL (ae JL JL ?_)))))))
     obtain⟨v52,p52,b52⟩:=iB hb1 (lo:=(UInt64.ofNat n).toNat) (by omega) .u64
     rw[hnn] at b52
     refine cY (a:=some (bC (UInt64.ofNat n))) JL JL JL JL JL (p52 _) ?_
     refine ac JL JL (ag (ab (af (aa (ae JL JL (ae JL JL (aj (r:=bC (UInt64.ofNat (total-O.length-n))) JL JL JL ((by rw[←Fj (n:=total-O.length) (m:=n) (by omega) hn1];exact dq)) ?_)))))))
     refine ac JL JL (ag (ab (af (af (aa (ae JL JL (aj (v:=bC 0) JL JL JL (i8) (ag (ab ?_)))))))))
     refine ba JL (fun h57=>?_) (fun h57=>?_)
     ·have hz:total-O.length=n:=by
       have:=congrArg UInt64.toNat h57
       rw[Ff (by omega),show(0:UInt64).toNat=0 from rfl] at this
       omega
      refine aX (aA (pT JL (aA (aV (ab (af (aa (ae JL JL (ae JL JL (aP JL JL (bP (b52.ext x49)) (aj JL JL JL (bA) (ac JL JL ?_))))))))))))
      refine ac JL JL (ag (ab (au (aR JL JL JL ?_))))
      exact⟨_,rfl,x49,by
       rw[hu,ni hlt hN,if_neg (by omega),if_pos hz]
       by_cases hd:t.drop n=[]
       ·rw[if_pos hd,hd]
        exact⟨_,rfl,(o49).bts⟩
       ·rw[if_neg hd]
        have:¬(((t.drop n).length:Nat):Int)=0:=fun h=>hd (List.eq_nil_of_length_eq_zero (by omega))
        exact⟨_,by rw[decide_eq_false this]⟩⟩
     ·have hnz:¬total-O.length=n:=fun h=>h57 (by rw[show total-O.length-n=0 by omega];rfl)
      refine ar (ab (af ?_))
      obtain⟨Y,hY⟩:∃Y,Y=total-O.length-n:=⟨_,rfl⟩
      have htd:(t.drop n).length≤549755813888:=by rw[List.length_drop];omega
      rcases hM:eh (t.drop n) with _|⟨m,t2⟩
      ·refine aa (ae JL JL (am gq JL JL ((mS (b52.ext x49) (by omega) hM)) ?_))
       rintro v60 w60 ⟨x60,rfl⟩
       refine ae JL JL (an JL JL (dZ) (an JL JL (d5) (an JL JL (d6) (ac JL JL (ac JL JL (ac JL JL (ag ?_)))))))
       refine ab (af (af (aa (ae JL JL (bB JL JL bF (ae JL JL (aq JL JL JL (aq JL JL JL (aB JL JL JL (ae JL JL (aq JL JL JL ?_)))))))))))
       refine aq JL JL JL (aq JL JL JL (aq JL JL JL (aB JL JL JL (ag (ab (bJ JL (af (aa (ac JL JL (ac JL JL (ag (ab (au (ax ?_))))))))))))))
       refine aT (ax (aT (ax (aR JL JL JL ?_))))
       exact⟨_,rfl,(x49.trans x60),by rw[hu,ni hlt hN,if_neg (by omega),if_neg hnz,hM];exact⟨_,rfl⟩⟩
      ·obtain⟨hM1,hM2⟩:=fS hM
       have ht2:t2.length≤549755813888:=by rw[hM1,List.length_append] at htd;omega
       refine aa (ae JL JL (am gq JL JL ((mU b52 (b52.ext x49) (by omega) hM)) ?_))
       rintro v60 w60 ⟨x60,u2,rfl,hb2⟩
       refine ae JL JL (an JL JL (dZ) (an JL JL (d5) (an JL JL (d6) (ac JL JL (ac JL JL (ac JL JL (ag ?_)))))))
       refine ab (af (af (aa (ae JL JL (bB JL JL bF (ae JL JL (al JL (ae JL JL (al JL (aj (v:=bC 4) JL JL JL (jZ) (aH JL JL JL ?_)))))))))))
       refine ae JL JL ?_
       refine cW (fun h70=>?_) (fun h70=>?_)
       ·refine aq JL JL JL (aq JL JL JL (aq JL JL JL (aq JL JL JL (aB JL JL JL (ag (ab (bJ JL (af (aa (ac JL JL (ac JL JL (ag ?_))))))))))))
        refine ab (au (ax (aT (ax (aT (ax (aR JL JL JL ?_)))))))
        exact⟨_,rfl,(x49.trans x60),by
         rw[hu,ni hlt hN,if_neg (by omega),if_neg hnz,hM]
         simp only[Option.bind_some]
         rw[if_pos (by
          first
          |exact .inl ((yg (m:=4) (by omega) (by omega)).1 h70)
          |exact .inr ((lT (by omega) (by omega)).1 h75))]
         exact⟨_,rfl⟩⟩
       ·refine al JL (ae JL JL (al JL (ae JL JL (al JL ?_))))
        have hX4:4≤total-O.length-n:=Nat.le_of_not_lt fun h=>h70 ((yg (m:=4) (by omega) (by omega)).2 h)
        refine aj (v:=bC 4) (r:=bC (UInt64.ofNat (total-O.length-n-4))) JL JL JL ((by rw[←Fj (n:=total-O.length-n) (m:=4) (by omega) hX4];exact dq)) ?_
        refine al JL (aj JL JL JL (dc) (aH JL JL JL (ag (ab ?_))))
        refine ba JL (fun h75=>?_) (fun h75=>?_)
        ·refine af (aa (ac JL JL (ac JL JL (ag (ab (au (ax (aT (ax (aT (ax (aR JL JL JL ?_))))))))))))
         exact⟨_,rfl,(x49.trans x60),by
          rw[hu,ni hlt hN,if_neg (by omega),if_neg hnz,hM]
          simp only[Option.bind_some]
          rw[if_pos (by
           first
           |exact .inl ((yg (m:=4) (by omega) (by omega)).1 h70)
           |exact .inr ((lT (by omega) (by omega)).1 h75))]
          exact⟨_,rfl⟩⟩
        ·have hm1:m≤total-O.length-n-4:=Nat.le_of_not_lt (mt (lT (by omega) (by omega)).2 h75)
         refine ar (ab (af ?_))
         rcases hK:eh t2 with _|⟨k,t3⟩
         ·refine aa (ae JL JL (am gq JL JL ((mS (hb2.ext (x49.trans x60)) (by omega) hK)) ?_))
          rintro v78 w78 ⟨x78,rfl⟩
          refine ae JL JL (an JL JL (dZ) (an JL JL (d5) (an JL JL (d6) (ac JL JL (ac JL JL (ac JL JL (ag ?_)))))))
          refine ab (af (af (aa (ae JL JL (bB JL JL bF (ae JL JL (aq JL JL JL (aq JL JL JL (aB JL JL JL (ae JL JL (aq JL JL JL ?_)))))))))))
          refine aq JL JL JL (aq JL JL JL (aq JL JL JL (aq JL JL JL (aB JL JL JL (ag (ab (bJ JL (af (aa (ac JL JL (ac JL JL (ag ?_))))))))))))
          refine ab (au (ax (aT (ax (aT (ax (aR JL JL JL ?_)))))))
          exact⟨_,rfl,((x49.trans x60).trans x78),by
           rw[hu,ni hlt hN,if_neg (by omega),if_neg hnz,hM]
           simp only[Option.bind_some]
           rw[if_neg (by omega),hK];exact⟨_,rfl⟩⟩
         ·obtain⟨hK1,hK2⟩:=fS hK
          have ht3:t3.length≤549755813888:=by rw[hK1,List.length_append] at ht2;omega
          refine aa (ae JL JL (am gq JL JL ((mU hb2 (hb2.ext (x49.trans x60)) (by omega) hK)) ?_))
          rintro v78 w78 ⟨x78,u3,rfl,hb3⟩
          refine ae JL JL (an JL JL (dZ) (an JL JL (d5) (an JL JL (d6) (ac JL JL (ac JL JL (ac JL JL (ag ?_)))))))
          refine ab (af (af (aa (ae JL JL (bB JL JL bF (ae JL JL (al JL (ae JL JL (al JL (aj (v:=bC 4096) JL JL JL (gb) (aH JL JL JL ?_)))))))))))
          refine ae JL JL ?_
          refine cW (fun h88=>?_) (fun h88=>?_)
          ·refine aq JL JL JL (aq JL JL JL (aq JL JL JL (aq JL JL JL (aq JL JL JL (aB JL JL JL (ag (ab (bJ JL (af (aa (ac JL JL (ac JL JL ?_))))))))))))
           refine ag (ab (au (ax (aT (ax (aT (ax (aR JL JL JL ?_))))))))
           exact⟨_,rfl,((x49.trans x60).trans x78),by
            rw[hu,ni hlt hN,if_neg (by omega),if_neg hnz,hM]
            simp only[Option.bind_some]
            rw[if_neg (by omega),hK]
            simp only[Option.bind_some]
            rw[if_pos (by
             first
             |exact .inl ((uk (m:=4096) (by omega) (by omega)).1 h88)
             |exact(.inr ((uk (by omega) (by simp only[List.length_append,List.length_take];omega)).1 h94)))]
            exact⟨_,rfl⟩⟩
          ·refine al JL (ae JL JL (al JL (ae JL JL (al JL (aP JL JL (bP (o49.ext (x60.trans x78)).bts) (al JL (aQ JL JL (cZ Jh Ji) ?_)))))))
           refine al JL (aj JL JL JL (gb) (aH JL JL JL (ag (ab ?_))))
           refine ba JL (fun h94=>?_) (fun h94=>?_)
           ·refine af (aa (ac JL JL (ac JL JL (ag (ab (au (ax (aT (ax (aT (ax (aR JL JL JL ?_))))))))))))
            exact⟨_,rfl,((x49.trans x60).trans x78),by
             rw[hu,ni hlt hN,if_neg (by omega),if_neg hnz,hM]
             simp only[Option.bind_some]
             rw[if_neg (by omega),hK]
             simp only[Option.bind_some]
             rw[if_pos (by
              first
              |exact .inl ((uk (m:=4096) (by omega) (by omega)).1 h88)
              |exact(.inr ((uk (by omega) (by simp only[List.length_append,List.length_take];omega)).1 h94)))]
             exact⟨_,rfl⟩⟩
           ·obtain⟨O1,hO1⟩:∃O1,O1=O++t.take n:=⟨_,rfl⟩
            have hOl:O1.length=O.length+n:=by rw[hO1,List.length_append,List.length_take];omega
            have hk1:k<4096:=Nat.lt_of_not_le (mt (uk (m:=4096) (by omega) (by omega)).2 h88)
            have hk2:k<O1.length:=by rw[hO1];exact Nat.lt_of_not_le (mt (uk (by omega) (by simp only[List.length_append,List.length_take];omega)).2 h94)
            rw[←hO1] at o49
            refine ar (ab (af (aa (ae JL JL (ac JL JL (ag (ab (af (aa (ae JL JL (aP JL JL (bP (o49.ext (x60.trans x78)).bts) (aj (r:=I ((O1.length-1:Nat):Int)) JL JL JL (by have e:((O1.length-1:Nat):Int)=(O1.length:Int)-1:=(by omega);rw[e];exact aY (by omega) (by omega)) ?_))))))))))))
            refine ae JL JL (aQ JL JL (AV Ji Jh (by omega)) (aj (r:=I ((O1.length-1-k:Nat):Int)) JL JL JL (by have e:((O1.length-1-k:Nat):Int)=((O1.length-1:Nat):Int)-(k:Int):=(by omega);rw[e];exact aY (by omega) (by omega)) ?_))
            refine ac JL JL (ag (ab (af (aa (ae JL JL (aQ JL JL (AV Ji Jh (by omega)) (aj (r:=I ((m+4:Nat):Int)) JL JL JL (by have e:((m+4:Nat):Int)=(m:Int)+4:=(by omega);rw[e];exact aE (by omega) (by omega)) ?_)))))))
            refine ae JL JL (ag (ab (av ?_)))
            refine il (fun(j:Nat) (X:List UInt8) (vx:Value)=>[(0,u3),(1,bC (UInt64.ofNat total)),(6,vx),(13,I ((O1.length-1-k:Nat):Int)),(104,I ((m+4:Nat):Int)),(105,I (j:Int))]) (fun(j:Nat) (X:List UInt8) (vx:Value) w'=>aG w w'∧cf w.heap.size X vx w'∧X.length=O1.length+j∧j≤m+4∧CE (k+1) (m+4-j) X=CE (k+1) (m+4) O1) (fun(j:Nat) (X:List UInt8) (vx:Value)=>m+4-j) (0) (O1) (v49) ⟨rfl,rfl,rfl,rfl,rfl,rfl,trivial⟩ ⟨((x49.trans x60).trans x78),(o49.ext (x60.trans x78)),rfl,by omega,rfl⟩ ?_
            rintro j X vx w20 ⟨e20,oX,hXl,hj,hX⟩
            refine af (aa (aj JL JL JL (aS) (ag (ab (af ?_)))))
            refine ba JL (fun h106=>?_) (fun h106=>?_)
            ·refine ar (ab (af (av (af (aa (ae JL JL (ac JL JL (ag (ab (aa (ae JL JL (ae JL JL (ae JL JL (ae JL JL (aj (r:=I ((O1.length-1-k+j:Nat):Int)) JL JL JL (by have e:((O1.length-1-k+j:Nat):Int)=((O1.length-1-k:Nat):Int)+(j:Int):=(by omega);rw[e];exact aE (by omega) (by omega)) ?_)))))))))))))))
             obtain⟨a113,p113,q113⟩:=gc oX.bts (i:=O1.length-1-k+j) (by omega) .i64
             refine ap JL JL JL (p113 _) (ak JL JL (ai Jm JL q113) ?_)
             obtain⟨v115,w115,hr115,x115,o115,ob115⟩:=dL (w:=w20) w20.heap.size [X[O1.length-1-k+j]'(by omega)] (by simp) (Nat.le_refl _)
             refine aJ (vs:=[(0,U8 (X[O1.length-1-k+j]))]) JL JL hr115 ?_
             obtain⟨v116,w116,hr116,o116,g116⟩:=cH (ty:=28) (oX.ext x115) o115.bts (by simp;omega) ((e20.trans x115)).size
             have x116:=aG.of_grew ((e20.trans x115)) g116 (oX.ext x115).ge
             refine aW JL JL hr116 (ac JL JL (ag (aM (ab (aa (aj (r:=I ((j+1:Nat):Int)) JL JL JL (by have e:((j+1:Nat):Int)=(j:Int)+1:=(by omega);rw[e];exact aE (by omega) (by omega)) ?_))))))
             refine ae JL JL (ag ?_)
             refine dE (j+1) (X++[X[O1.length-1-k+j]'(by omega)]) (v116) ⟨rfl,rfl,rfl,rfl,rfl,rfl,trivial⟩ ⟨x116,o116,by simp;omega,by omega,by
              rw[←hX]
              exact(Fk (by omega) hXl hk2).symm⟩ (by omega)
            ·refine aX (aA (aA (aV (aM ?_))))
             refine DF (f) (t3) (X) (u3) (vx) ⟨rfl,rfl,rfl,trivial⟩ ⟨e20,hb3,oX,ht3,by omega,by omega,by
              rw[hu,ni hlt hN,if_neg (by omega),if_neg hnz,hM]
              simp only[Option.bind_some]
              rw[if_neg (by omega),hK]
              simp only[Option.bind_some]
              rw[←hO1,if_neg (by omega)]
              rw[show m+4-j=0 by omega] at hX
              rw[←hX];rfl⟩ (by omega)
 ·have hlt:¬O.length<total:=mt (yg (by omega) (by omega)).2 h19
  refine aX (aA (aA (aV (ab (af (aa (ae JL JL (ae JL JL (aP JL JL (bP (hb.ext e2)) (aj JL JL JL (bA) (ac JL JL (ac JL JL ?_))))))))))))
  refine ag (ab (au (aR JL JL JL ?_)))
  exact⟨_,rfl,e2,by
   rw[hu,IX hlt]
   by_cases hd:l=[]
   ·rw[if_pos hd,hd]
    exact⟨_,rfl,(oO).bts⟩
   ·rw[if_neg hd]
    have:¬((l.length:Nat):Int)=0:=fun h=>hd (List.eq_nil_of_length_eq_zero (by omega))
    exact⟨_,by rw[decide_eq_false this]⟩⟩
end Go.Rl
namespace Go.Rl
open Go.RowKit Go.Proofs
section
variable {g:Nat} {st:Option (List UInt8)} {b w w':World}
end
section
variable {b w:World} {g:Nat}
end
section
variable {b w:World} {g:Nat}
end
end Go.Rl
namespace Go.Rl
open Go.RowKit Go.Proofs
def tw (l:List UInt8) (max:Int) (f:List UInt8→Nat→Option (List UInt8)) (r:Value) (w':World):Prop:=
 if max<0 then r=.tuple #[.slice none 0 0,I 8]
 else match eh l with
  |none=>r=.tuple #[.slice none 0 0,I 5]
  |some (n,t)=>if max<(n:Int) then r=.tuple #[.slice none 0 0,I 8] else match f t n with
   |some out=>∃v,r=.tuple #[v,I 0]∧ci out v w'
   |none=>r=.tuple #[.slice none 0 0,I 5]
section
variable {l t:List UInt8} {max:Int} {n:Nat} {f:List UInt8→Nat→Option (List UInt8)} {w:World}
theorem Bc (hM:0≤max) (hU:eh l=some (n,t)) (hn:(n:Int)≤max) (h:f t n=none):tw l max f (.tuple #[.slice none 0 0,I 5]) w:=by
 unfold tw
 rw[if_neg (by omega),hU]
 show(if max<(n:Int) then _ else _)
 rw[if_neg (by omega),h]
theorem Fl {out:List UInt8} {v:Value} (hM:0≤max) (hU:eh l=some (n,t)) (hn:(n:Int)≤max) (h:f t n=some out) (hv:ci out v w):tw l max f (.tuple #[v,I 0]) w:=by
 unfold tw
 rw[if_neg (by omega),hU]
 show(if max<(n:Int) then _ else _)
 rw[if_neg (by omega),h]
 exact⟨v,rfl,hv⟩
end
theorem pJ {l t:List UInt8} {n:Nat} (h:eh l=some (n,t)):t.length≤l.length:=by
 obtain⟨h1,_⟩:=fS h
 rw[h1,List.length_append];omega
theorem H5 {l a t:List UInt8} (h:Ir l=some (a,t)):a.length+t.length≤l.length:=by
 unfold Ir at h
 cases hU:eh l with
 |none=>rw[hU] at h;cases h
 |some p=>
  obtain⟨n,u⟩:=p
  rw[hU] at h
  have h:(if n≤u.length then some (u.take n,u.drop n) else none)=some (a,t):=h
  have:=pJ hU
  split at h
  ·simp only[Option.some.injEq,Prod.mk.injEq] at h
   rw[←h.1,←h.2,List.length_take,List.length_drop]
   omega
  ·cases h
end Go.Rl
namespace Go.Rl
open Go.RowKit Go.Proofs
theorem yh:aw Tryz.prog 142:=⟨_,Tryz.func142,by kernel_rfl,rfl⟩
theorem Fm:aw Tryz.prog 143:=⟨_,Tryz.func143,by kernel_rfl,rfl⟩
theorem CJ:aw Tryz.prog 174:=⟨_,Tryz.func174,by kernel_rfl,rfl⟩
section
variable {P:Program} {w:World}
theorem GF {t e:TypeId} {n:Nat} (ht:P.underlying t=some (.array n e)) {xs:List Value} {v:Value} (h:Sl 1 xs v w) (hn:n≤xs.length) (h0:0<n):
 ∃ad,(∀w':World,(Instr.arrayAt t v).run P w'=.ok (.pointer (some ad)) w')∧dt w ad (xs.take n):=by
 obtain⟨A,m,c,rfl,hmc,hcm,hl,hc,hnone⟩:=h
 obtain⟨ad,rfl,hcl⟩:=hc (by omega)
 refine⟨ad,fun w'=>?_,hcl.take _⟩
 have:¬m<n:=by omega
 simp[Instr.arrayAt,run_underlying ht,this]
theorem CK {t:TypeId} {d:TypeDesc} {m:List Value} {ad:Addr} (hu:P.underlying t=some d) (hd:d.isRow=true) (hi:(P.info? t).map (·.size)=some m.length) (h:dt w ad m):
 (Instr.loadAt t (.pointer (some ad))).run P w=.ok (.agg m.toArray) w:=by
 have hagg:(isAgg t).run P w=.ok true w:=by
  unfold isAgg
  simp only[Sem.run_bind,run_underlying hu,Result.andThen_ok]
  cases d<;>first|rfl|simp[TypeDesc.isRow] at hd
 have hl:=run_loadCells_list (P:=P) (w:=w) ad m h
 simp only[Instr.loadAt,Instr.sureAddr,loadVar,Sem.run_bind,Sem.run_pure,Result.andThen_ok,hagg,if_true,dP hi,hl]
end
theorem Bd:(Tryz.prog.info? 221).map (·.zero)=some (some (.agg #[.int .u8 0,.int .u8 0,.int .u8 0,.int .u8 0])):=by kernel_rfl
theorem yi {w:World} {g c i n:Nat} {A:Option Addr} {d:List UInt8} {mv nv:Value} (hb:cl g 158 [.slice A n c,mv,nv] w) (hd:ci d (.slice A n c) w) (hi:i+4≤d.length) (hl:d.length≤1099511627776):
 Calls Tryz.prog 142 #[.pointer (some ⟨g,0,none⟩),I (i:Int)] w (bD fun r w'=>aG w w'∧r=K4 ((d.drop i).take 4)):=by
 refine enter (vs:=[.pointer (some ⟨g,0,none⟩),I (i:Int)]) Tryz.func142 JL JL JL ?_
 refine af (aa ?_)
 obtain⟨g4,w4,hr4,n4,x4,b4⟩:=bc (P:=Tryz.prog) (w:=w) (l:=[.int .u8 0,.int .u8 0,.int .u8 0,.int .u8 0]) Bd rfl
 refine bf JL hr4 ?_
 refine ag (ab (af (aa (ae JL JL (aZ JL JL (ah JL JL (aI (o:=0) Jv JL (by kernel_rfl) JL) ?_))))))
 refine ak JL JL (ai Jl JL (x4.cell_some (hb.cell (i:=0) JL))) (ae JL JL (ae JL JL (aj (r:=I ((i+4:Nat):Int)) JL JL JL (by have e:((i+4:Nat):Int)=(i:Int)+4:=(by omega);rw[e];exact aE (by omega) (by omega)) ?_)))
 obtain⟨v12,p12,b12⟩:=ra (hd.ext x4) (lo:=i) (hi:=i+4) (by omega) (by omega) .i64 .i64
 refine cY JL JL JL JL JL (p12 _) ?_
 have e12:(d.take (i+4)).drop i=(d.drop i).take 4:=by rw[List.drop_take,show i+4-i=4 by omega]
 rw[e12] at b12
 have l12:((d.drop i).take 4).length=4:=by rw[List.length_take,List.length_drop];omega
 obtain⟨a13,p13,q13⟩:=GF (P:=Tryz.prog) Tryz.underlying221 b12 (by simp only[List.length_map,l12];omega) (by omega)
 rw[List.take_of_length_le (by simp only[List.length_map,l12];omega)] at q13
 refine tC JL JL (p13 _) (ak JL JL (CK JF JL (by rw[List.length_map,l12];exact ye) q13) (aC JL JL (gO b4 (by rw[List.length_map,l12];rfl) (by rw[List.length_map,l12];exact ye) (kD _)) ?_))
 have b5:=b4.row (((d.drop i).take 4).map U8)
 have x5:=aG.of_new x4 (bg w4 g4 (((d.drop i).take 4).map U8).toArray) n4
 refine ag (ab (au ?_))
 refine dB JL JL b5 JF JL (by rw[List.length_map,l12];exact ye) ?_
 exact⟨_,rfl,x5,rfl⟩
theorem Fo {w:World} {A:Option Addr} {n c:Nat}:
 Calls Tryz.prog 143 #[.slice A n c] w (bD fun r w'=>aG w w'∧r=.func (.func 174) #[] #[.pointer (some ⟨w.heap.size,0,none⟩)]∧w'=w.alloc (.cells #[.slice A n c] 66)):=by
 refine enter (vs:=[.slice A n c]) Tryz.func143 JL JL JL ?_
 refine af (aa (cx JL JL (m2) (ac JL JL (ag (ab (af (aa ?_)))))))
 refine kF (us:=[]) (vs:=[.pointer (some ⟨w.heap.size,0,none⟩)]) JL JL JL ?_
 refine ac JL JL (ag (ab (au (az JL JL ?_))))
 exact⟨_,rfl,aG.new _ _,rfl,rfl⟩
def sy (Kb:Nat→Prop) (W W':World):Prop:=W.heap.size≤W'.heap.size∧∀k,Kb k→W'.heap[k]? =W.heap[k]?
theorem sy.trans {Kb:Nat→Prop} {a b c:World} (h:sy Kb a b) (k:sy Kb b c):sy Kb a c:=⟨Nat.le_trans h.1 k.1,fun n hn=>(k.2 n hn).trans (h.2 n hn)⟩
theorem sy.refl (Kb:Nat→Prop) (a:World):sy Kb a a:=⟨Nat.le_refl _,fun _ _=>rfl⟩
theorem zV {α:Type} {w:World} {Bs base:Nat} {v:Value} {zs:List Int} {ys:List α} {encs:α→List Value} {Kb:Nat→Prop} (hv:eH base zs v w) (hc:cl Bs 66 [v] w) (hK1:Kb Bs) (hK2:∀k,v.ownBlock=some k→Kb k)
 (hlen:ys.length=zs.length) (hz:zs.length≤1099511627776) (hy:∀(k:Nat) (h:k<ys.length),encs ys[k]=[I ((zs.length-1-k:Nat):Int),I (zs[zs.length-1-k]'(by omega))]):
 SeqStopsK Fence.wide 1 Tryz.prog 174 #[.pointer (some ⟨Bs,0,none⟩)] (fun x=>(encs x).toArray) (sy Kb) (fun xs=>xs=ys) (fun pre=>pre<+:ys) ys.length w:=by
 intro lp J Jx W hW _ _ hY h0
 have hW:aG w W:=hW
 refine callsIn_wide.2 ?_
 refine Calls.mono (R:=bD fun r W'=>(∃xs,xs=ys∧J xs W')∨(∃pre,pre<+:ys∧Jx pre W')) ?_ (fun e W' h=>by obtain⟨r,rfl,h⟩:=h;exact⟨⟨r,rfl⟩,h⟩)
 have hv:=hv.ext hW
 have hc:=hc.ext hW
 have ea:(#[.func (.yield lp) #[] #[]]:Array Value)++ #[.pointer (some ⟨Bs,0,none⟩)]=[.func (.yield lp) #[] #[],.pointer (some ⟨Bs,0,none⟩)].toArray:=by simp
 rw[ea]
 refine enter Tryz.func174 JL JL JL ?_
 refine af (aa (ak JL JL (ai JE JL (hc.cell (i:=0) JL)) (aP JL JL (HG hv.its) (aj JL JL JL (aY (by omega) (by omega)) ?_))))
 refine ac JL JL (ag (ab (av ?_)))
 refine ck (α:=Int) (fun x=>[(0,.func (.yield lp) #[] #[]),(1,.pointer (some ⟨Bs,0,none⟩)),(3,I x)]) (fun x W'=>∃k:Nat,k≤ys.length∧x=(zs.length:Int)-1-(k:Int)∧J (ys.take k) W'∧sy Kb W W') (fun x=>(x+1).toNat) ((zs.length:Int)-1) ⟨rfl,rfl,rfl,trivial⟩ ⟨0,Nat.zero_le _,by omega,by simpa using h0,sy.refl _ _⟩ ?_
 rintro x w1 ⟨k,hk,hx,hJ,hKp⟩
 refine af (af (aa (ae JL JL (aj JL JL JL fQ (ag (ab ?_))))))
 refine ba JL (fun h8=>?_) (fun h8=>?_)
 ·have hkl:k<ys.length:=by omega
  obtain⟨j,rfl⟩:∃j:Nat,x=(j:Int):=⟨x.toNat,by omega⟩
  have hj:j=zs.length-1-k:=by omega
  have hv1:eH base zs v w1:=hv.same fun n hn=>hKp.2 n (hK2 n hn)
  have hc1:cl Bs 66 [v] w1:=(hKp.2 Bs hK1).trans hc
  refine ar (ab (af (av (af (DK (Gf 6 ?_))))))
  refine ae JL JL (ae JL JL (ak JL JL (ai JE JL (hc1.cell (i:=0) JL)) (ae JL JL ?_)))
  obtain⟨a15,p15,q15⟩:=IH hv1.its (i:=j) (by omega) .i64
  refine ap JL JL JL (p15 _) (ak JL JL (ai Jh JL q15) (ag (n_y ?_)))
  have hx:=hY (ys.take k) ys[k] w1 hJ (by rw[List.length_take];omega)
  simp only[hy k hkl] at hx
  have hz:zs[zs.length-1-k]'(by omega)=zs[j]'(by omega):=by simp only[hj]
  rw[hz,←hj] at hx
  refine AC JL JL JL hx ?_
  rintro e w3 (⟨rfl,hJ3,hK3⟩|⟨rfl,hJx3⟩)
  ·refine⟨_,rfl,uW (bB JL JL bF (ag (ab (dI JL (ar (aM (ab (aa (ae JL JL (aj JL JL JL (aY (by omega) (by omega)) (ac JL JL (ag ?_))))))))))))⟩
   refine bN ((j:Int)-1) ⟨rfl,rfl,rfl,trivial⟩ ⟨k+1,by omega,by omega,?_,hKp.trans hK3⟩ (by omega)
   rw[List.take_succ_eq_append_getElem hkl];exact hJ3
  ·refine⟨_,rfl,uW (bB JL JL bF (ag (ab (bJ JL (au (aT (ax (ax (aT (uL JL ?_))))))))))⟩
   exact⟨_,rfl,.inr ⟨_,⟨ys.drop (k+1),by rw[←List.take_succ_eq_append_getElem hkl,List.take_append_drop]⟩,hJx3⟩⟩
 ·refine aX (aA (aA (aV (fP JL ?_))))
  have hkl:k=ys.length:=by omega
  exact⟨_,rfl,.inl ⟨_,rfl,by rw[hkl,List.take_length] at hJ;exact hJ⟩⟩
end Go.Rl

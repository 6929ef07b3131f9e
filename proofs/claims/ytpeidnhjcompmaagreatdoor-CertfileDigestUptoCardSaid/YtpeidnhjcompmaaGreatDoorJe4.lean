/- Part 4 of a proof: plain facts and walks of functions, merged by a program. Conditions: each lemma names its own. -/
import Derived.Test.YtpeidnhjcompmaaGreatDoorJe3
namespace Go.Rl
open Go.RowKit Go.Proofs
theorem Bd:aw Tryz.prog 117:=⟨_,Tryz.func117,by kernel_rfl,rfl⟩
theorem uK {total:Nat}:∀(f:Nat) (l O out:List UInt8),O.length≤total→ph total f l O=some out→out.length≤total
 |0,_,_,_,_,h=>by cases h
 |f+1,l,O,out,hO,h=>by
  unfold ph at h
  split at h
  ·cases hU:dX l with
   |none=>rw[hU] at h;cases h
   |some p=>
    obtain⟨n,t⟩:=p
    rw[hU] at h
    simp only[Option.bind_some] at h
    split at h
    ·cases h
    ·rename_i hn
     split at h
     ·split at h
      ·obtain rfl:=Option.some.inj h
       rw[List.length_append,List.length_take];omega
      ·cases h
     ·cases hV:dX (t.drop n) with
      |none=>rw[hV] at h;cases h
      |some q=>
       obtain⟨m,t2⟩:=q
       rw[hV] at h
       simp only[Option.bind_some] at h
       split at h
       ·cases h
       ·cases hW:dX t2 with
        |none=>rw[hW] at h;cases h
        |some r=>
         obtain⟨k,t3⟩:=r
         rw[hW] at h
         simp only[Option.bind_some] at h
         split at h
         ·cases h
         ·refine uK f _ _ _ ?_ h
          rw[uE,List.length_append,List.length_take]
          omega
  ·split at h
   ·obtain rfl:=Option.some.inj h
    exact hO
   ·cases h
theorem FH {l t O:List UInt8} {n:Nat} (h:ph n (n+1) t []=some O):vp l t n=if cj O=l then some O else none:=by
 unfold vp;rw[h];rfl
theorem Hj {l t:List UInt8} {n:Nat} (h:ph n (n+1) t []=none):vp l t n=none:=by
 unfold vp;rw[h];rfl
section
variable {w:World} {rest:List UInt8} {v:Value} {total:Nat}
theorem Be (hv:bQ rest v w) (hl:rest.length≤549755813888) (ht:total≤549755813888) (h:ph total (total+1) rest []=none):Calls Tryz.prog 153 #[v,bo (UInt64.ofNat total)] w (bL fun r w'=>aE w w'∧∃u,r=.tuple #[u,B false]):=
 bL.mono (tk hv hl ht) fun _ _ h2=>⟨h2.1,by have:=h2.2;rw[h] at this;exact this⟩
theorem Bf {out:List UInt8} (hv:bQ rest v w) (hl:rest.length≤549755813888) (ht:total≤549755813888) (h:ph total (total+1) rest []=some out):Calls Tryz.prog 153 #[v,bo (UInt64.ofNat total)] w (bL fun r w'=>aE w w'∧∃u,r=.tuple #[u,B true]∧bQ out u w'):=
 bL.mono (tk hv hl ht) fun _ _ h2=>⟨h2.1,by have:=h2.2;rw[h] at this;exact this⟩
end
theorem Bg {w:World} {l:List UInt8} {v:Value} {max:Int} (hv:bQ l v w) (hl:l.length≤4294967296) (h1: -9223372036854775808≤max) (h2:max≤9223372036854775807) (h3:∀n t,dX l=some (n,t)→(n:Int)≤max→n≤4294967296):
 Calls Tryz.prog 117 #[v,I max] w (bL fun r w'=>aE w w'∧rZ l max (vp l) r w'):=by
 refine enter (vs:=[v,I max]) Tryz.func117 Ig Ig Ig ?_
 refine af (aa (ac Ig Ig (ac Ig Ig (ag (ab (af (af (aa (ae Ig Ig (ai Ig Ig Ig (bb) (ag (ab ?_))))))))))))
 refine bi Ig (fun h11=>?_) (fun h11=>?_)
 ·have hm:max<0:=h11
  refine af (aa (ac Ig Ig (ac Ig Ig (ag (ab (ay (aB (aW Ig Ig Ig ?_))))))))
  exact⟨_,rfl,aE.refl _,by unfold rZ;rw[if_pos (by omega)];rfl⟩
 ·obtain⟨M,rfl⟩:∃M:Nat,max=(M:Int):=⟨max.toNat,by omega⟩
  refine ax (ab (af ?_))
  rcases hU:dX l with _|⟨n,t⟩
  ·refine aa (ae Ig Ig (ak f6 Ig Ig ((lS hv (by omega) hU)) ?_))
   rintro v14 w14 ⟨x14,rfl⟩
   refine ae Ig Ig (al Ig Ig (et) (al Ig Ig (eu) (al Ig Ig (ew) (ac Ig Ig (ac Ig Ig (ac Ig Ig (ag ?_)))))))
   refine ab (af (af (aa (ae Ig Ig (cx Ig Ig cZ (ag (ab (ce Ig (af (aa (ac Ig Ig (ac Ig Ig (ag (ab (ay (aB (aW Ig Ig Ig ?_)))))))))))))))))
   exact⟨_,rfl,x14,by unfold rZ;rw[if_neg (by omega),hU];rfl⟩
  ·obtain⟨hU1,hU2⟩:=fH hU
   have htl:=oz hU
   refine aa (ae Ig Ig (ak f6 Ig Ig ((lT hv hv (by omega) hU)) ?_))
   rintro v14 w14 ⟨x14,u1,rfl,b1⟩
   refine ae Ig Ig (al Ig Ig (et) (al Ig Ig (eu) (al Ig Ig (ew) (ac Ig Ig (ac Ig Ig (ac Ig Ig (ag ?_)))))))
   refine ab (af (af (aa (ae Ig Ig (cx Ig Ig cZ (ag (ab (eS Ig (ax (ab (af (af (aa (ae Ig Ig (ae Ig Ig (aN Ig Ig (dT HE HD) ?_))))))))))))))))
   refine ai Ig Ig Ig (cJ) (ag (ab ?_))
   refine bi Ig (fun h23=>?_) (fun h23=>?_)
   ·have hbig:M<n:=(lj hU2 (by omega)).1 h23
    refine af (aa (ac Ig Ig (ac Ig Ig (ag (ab (ay (aB (aW Ig Ig Ig ?_))))))))
    exact⟨_,rfl,x14,by
     unfold rZ
     rw[if_neg (by omega),hU]
     show(if (M:Int)<(n:Int) then _ else _)
     rw[if_pos (by omega)];rfl⟩
   ·have hnM:n≤M:=Nat.le_of_not_lt (mt (lj hU2 (by omega)).2 h23)
    have hn3:=h3 n t hU (by omega)
    refine ax (ab (af ?_))
    rcases hE:ph n (n+1) t [] with _|out
    ·refine aa (ae Ig Ig (ae Ig Ig (ak th Ig Ig ((Be (b1.ext x14) (by omega) (by omega) hE)) ?_)))
     rintro v27 w27 ⟨x27,u2,rfl⟩
     refine ae Ig Ig (al Ig Ig (bw) (al Ig Ig (bz) (ac Ig Ig (ac Ig Ig (ag (ab (af (af (aa (ae Ig Ig (cx Ig Ig cZ ?_)))))))))))
     refine ae Ig Ig (ap Ig Ig Ig (ap Ig Ig Ig (ap Ig Ig Ig (ap Ig Ig Ig (ap Ig Ig Ig (aG Ig Ig Ig (ag (ab (ce Ig (af (aa (ac Ig Ig ?_))))))))))))
     refine ac Ig Ig (ag (ab (ay (aB (aW Ig Ig Ig ?_)))))
     exact⟨_,rfl,(x14.trans x27),zE (by omega) hU (by omega) (Hj hE)⟩
    ·have hol:=uK _ _ _ _ (by simp) hE
     refine aa (ae Ig Ig (ae Ig Ig (ak th Ig Ig ((Bf (b1.ext x14) (by omega) (by omega) hE)) ?_)))
     rintro v27 w27 ⟨x27,u2,rfl,b2⟩
     refine ae Ig Ig (al Ig Ig (bw) (al Ig Ig (bz) (ac Ig Ig (ac Ig Ig (ag (ab (af (af (aa (ae Ig Ig (cx Ig Ig cZ ?_)))))))))))
     refine ae Ig Ig (ao Ig (ae Ig Ig (ao Ig (ak rx Ig Ig ((ry b2 (by omega))) ?_))))
     rintro v34 w34 ⟨x34,b34⟩
     refine ao Ig (ae Ig Ig (ao Ig (ak Dq Ig Ig ((Dr b34 (hv.ext ((x14.trans x27).trans x34)))) ?_)))
     rintro v36 w36 ⟨x36,rfl⟩
     refine ao Ig (cx Ig Ig cZ (aJ Ig Ig Ig (ag (ab ?_))))
     refine iW Ig (fun h38=>?_) (fun h38=>?_)
     ·have hne:¬cj out=l:=by simpa using h38
      refine af (aa (ac Ig Ig (ac Ig Ig (ag (ab (ay (aB (aW Ig Ig Ig ?_))))))))
      exact⟨_,rfl,(((x14.trans x27).trans x34).trans x36),zE (by omega) hU (by omega) (by rw[FH hE,if_neg hne])⟩
     ·have heq:cj out=l:=by simpa using h38
      refine ax (ab (af (aa (ae Ig Ig (ac Ig Ig (ac Ig Ig (ag (ab (ay (aW Ig Ig Ig ?_))))))))))
      exact⟨_,rfl,(((x14.trans x27).trans x34).trans x36),Dw (by omega) hU (by omega) (by rw[FH hE,if_pos heq]) (b2.ext (x34.trans x36))⟩
end Go.Rl
namespace Go.Rl
end Go.Rl
namespace Go.Rl
open Go.RowKit Go.Proofs
end Go.Rl
namespace Go.Rl
open Go.RowKit Go.Proofs
section
variable {l:List UInt8} {max:Int} {f:List UInt8→Nat→Option (List UInt8)} {r:Value} {w:World}
def iy (l:List UInt8) (max:Int) (f:List UInt8→Nat→Option (List UInt8)):List UInt8×Int:=
 if max<0 then([],8) else match dX l with
  |none=>([],5)
  |some (n,t)=>if max<(n:Int) then([],8) else match f t n with
   |some out=>(out,0)
   |none=>([],5)
theorem DD (h:rZ l max f r w):∃v,r=.tuple #[v,I (iy l max f).2]∧bQ (iy l max f).1 v w:=by
 unfold rZ at h
 unfold iy
 split at h
 ·rename_i hm
  rw[if_pos hm]
  exact⟨_,h,bQ.nil _⟩
 ·rename_i hm
  rw[if_neg hm]
  cases hU:dX l with
  |none=>
   rw[hU] at h
   exact⟨_,h,bQ.nil _⟩
  |some p=>
   obtain⟨n,t⟩:=p
   rw[hU] at h
   have h:(if max<(n:Int) then r=.tuple #[.slice none 0 0,I 8] else match f t n with
    |some out=>∃v,r=.tuple #[v,I 0]∧bQ out v w
    |none=>r=.tuple #[.slice none 0 0,I 5]):=h
   show ∃v,r=.tuple #[v,I (if max<(n:Int) then([],8) else match f t n with
    |some out=>(out,0)
    |none=>([],5):List UInt8×Int).2]∧bQ (if max<(n:Int) then([],8) else match f t n with
    |some out=>(out,0)
    |none=>([],5):List UInt8×Int).1 v w
   split at h
   ·rename_i hn
    rw[if_pos hn]
    exact⟨_,h,bQ.nil _⟩
   ·rename_i hn
    rw[if_neg hn]
    cases hf:f t n with
    |none=>
     rw[hf] at h
     exact⟨_,h,bQ.nil _⟩
    |some out=>
     rw[hf] at h
     exact h
end
theorem uL {total B:Nat}:∀(f:Nat) (l O out r:List UInt8),O.length≤total+B→l.length≤B→Dj total f l O=some (out,r)→out.length≤total+B
 |0,_,_,_,_,_,_,h=>by cases h
 |f+1,l,O,out,r,hO,hl,h=>by
  unfold Dj at h
  split at h
  ·cases hB:Ge l with
   |none=>rw[hB] at h;cases h
   |some p=>
    obtain⟨a,t⟩:=p
    have hab:=Gx hB
    rw[hB] at h
    simp only[Option.bind_some] at h
    split at h
    ·rename_i hlt
     cases hU:dX t with
     |none=>rw[hU] at h;cases h
     |some q=>
      obtain⟨m,t2⟩:=q
      rw[hU] at h
      simp only[Option.bind_some] at h
      have h1:=oz hU
      cases hV:dX t2 with
      |none=>rw[hV] at h;cases h
      |some s=>
       obtain⟨k,t3⟩:=s
       rw[hV] at h
       simp only[Option.bind_some] at h
       have h2:=oz hV
       split at h
       ·cases h
       ·refine uL f _ _ _ _ ?_ (by omega) h
        rw[uE]
        omega
    ·simp only[Option.some.injEq,Prod.mk.injEq] at h
     rw[←h.1,List.length_append];omega
  ·simp only[Option.some.injEq,Prod.mk.injEq] at h
   rw[←h.1];exact hO
theorem DE {l:List UInt8} {max:Int} (hl:l.length≤4294967296) (h2:max≤4294967296):iy l max (vr l)=iy l max (vp l):=by
 unfold iy
 split
 ·rfl
 ·cases hU:dX l with
  |none=>rfl
  |some p=>
   obtain⟨n,t⟩:=p
   simp only[]
   split
   ·rfl
   ·have htl:=oz hU
    rw[Hf hU (fun out h=>by have:=uK _ _ _ _ (by simp) h;omega) (fun p h=>by have:=uL (B:=t.length) _ _ _ p.1 p.2 (by simp) (Nat.le_refl _) h;omega)]
end Go.Rl
namespace Go.Rl
open Go.RowKit Go.Proofs
theorem rz:(Tryz.prog.info? 200).map (·.zero)=some (some (.agg (List.replicate 64 (bg 0)).toArray)):=by kernel_rfl
theorem rA:(Tryz.prog.info? 200).map (·.size)=some 64:=by kernel_rfl
theorem eh:aw Tryz.prog 122:=⟨_,Tryz.func122,by kernel_rfl,rfl⟩
theorem rB:aw Tryz.prog 123:=⟨_,Tryz.func123,by kernel_rfl,rfl⟩
theorem ei {w:World} {x:UInt32} (n:Nat) (h0:0<n) (h1:n<32):
 Calls Tryz.prog 122 #[bg x,I (n:Int)] w (bL fun r w'=>aE w w'∧r=bg (gt x n)):=by
 refine enter (vs:=[bg x,I (n:Int)]) Tryz.func122 Ig Ig Ig ?_
 refine af (aa (ac Ig Ig (ag (ab (af ?_)))))
 have e:(32:Int)-(n:Int)=((32-n:Nat):Int):=by omega
 refine bk 8 [12] (by kernel_rfl) (by kernel_rfl) ?_
 refine an Ig Ig (an Ig Ig ?_)
 refine aL Ig Ig Ig (fun w _=>ck n h1) ?_
 refine an Ig Ig (an Ig Ig ?_)
 refine aL (r:=I ((32-n:Nat):Int)) Ig Ig Ig (fun w _=>by rw[←e];exact aV (by omega) (by omega)) ?_
 refine aL Ig Ig Ig (fun w _=>dY (32-n) (by omega)) ?_
 refine aL Ig Ig Ig (fun w _=>er) ?_
 refine bn ?_
 intro w' hw
 rintro _ rfl
 refine ac Ig Ig (ag (ab (ay ?_)))
 refine aD Ig Ig ?_
 exact⟨_,rfl,hw,rfl⟩
theorem rC (w:World):
 Calls Tryz.prog 123 #[] w (bL fun r w'=>aE w w'∧r=.agg (kc.map bg).toArray):=by
 refine enter (vs:=[]) Tryz.func123 Ig Ig Ig ?_
 refine af (aa (aU Ig (tP rz) (ag (ab (af (aa ?_))))))
 refine bA Ig Ig (run_build _ _ _ (kc.map bg).toArray (by kernel_rfl)) ?_
 have hb:=bI.new (w:=w) (T:=200) (.agg (List.replicate 64 (bg 0)).toArray) rfl
 refine az Ig Ig (gw hb Ig rA (i6 _)) ?_
 refine ag (ab (ay ?_))
 refine eo Ig Ig (hb.row _) If Ig rA ?_
 refine⟨_,rfl,?_,rfl⟩
 exact(aE.new w _).of_grown (bd _ _ _) fun k hk=>by
  obtain rfl:=Option.some.inj hk
  exact Nat.le_refl _
theorem dD:aw Tryz.prog 121:=⟨_,Tryz.func121,by kernel_rfl,rfl⟩
theorem pr:aw Tryz.prog 120:=⟨_,Tryz.func120,by kernel_rfl,rfl⟩
theorem dE {w:World} {x:UInt32} (n:Nat) (h0:0<n) (h1:n<32):
 Calls Tryz.prog 121 #[bg x,I (n:Int)] w (bL fun r w'=>aE w w'∧r=bg (gt x n)):=by
 refine enter (vs:=[bg x,I (n:Int)]) Tryz.func121 Ig Ig Ig ?_
 refine af (aa (ac Ig Ig (ag (ab (af ?_)))))
 have e:(32:Int)-(n:Int)=((32-n:Nat):Int):=by omega
 refine bk 8 [12] (by kernel_rfl) (by kernel_rfl) ?_
 refine an Ig Ig (an Ig Ig ?_)
 refine aL Ig Ig Ig (fun w _=>ck n h1) ?_
 refine an Ig Ig (an Ig Ig ?_)
 refine aL (r:=I ((32-n:Nat):Int)) Ig Ig Ig (fun w _=>by rw[←e];exact aV (by omega) (by omega)) ?_
 refine aL Ig Ig Ig (fun w _=>dY (32-n) (by omega)) ?_
 refine aL Ig Ig Ig (fun w _=>er) ?_
 refine bn ?_
 intro w' hw
 rintro _ rfl
 refine ac Ig Ig (ag (ab (ay ?_)))
 refine aD Ig Ig ?_
 exact⟨_,rfl,hw,rfl⟩
theorem pt (w:World):
 Calls Tryz.prog 120 #[] w (bL fun r w'=>aE w w'∧r=.agg (kc.map bg).toArray):=by
 refine enter (vs:=[]) Tryz.func120 Ig Ig Ig ?_
 refine af (aa (aU Ig (tP rz) (ag (ab (af (aa ?_))))))
 refine bA Ig Ig (run_build _ _ _ (kc.map bg).toArray (by kernel_rfl)) ?_
 have hb:=bI.new (w:=w) (T:=200) (.agg (List.replicate 64 (bg 0)).toArray) rfl
 refine az Ig Ig (gw hb Ig rA (i6 _)) ?_
 refine ag (ab (ay ?_))
 refine eo Ig Ig (hb.row _) If Ig rA ?_
 refine⟨_,rfl,?_,rfl⟩
 exact(aE.new w _).of_grown (bd _ _ _) fun k hk=>by
  obtain rfl:=Option.some.inj hk
  exact Nat.le_refl _
end Go.Rl
namespace Go.Rl
open Go.RowKit Go.Proofs
theorem zJ:(Tryz.prog.info? 150).map (·.zero)=some (some (.agg (List.replicate 8 (bg 0)).toArray)):=by kernel_rfl
theorem lu:(Tryz.prog.info? 150).map (·.size)=some 8:=by kernel_rfl
section
variable {w:World} {g o:Nat} {T:TypeId}
theorem df (i:Nat) (hi:i<8):(Instr.indexAt 150 (.pointer (some ⟨g,0,none⟩)) (I (i:Int))).run Tryz.prog w=.ok (.pointer (some ⟨g,i,none⟩)) w:=by
 have:=y7 (P:=Tryz.prog) (w:=w) (g:=g) (o:=0) H4 dx hi .i64
 rwa [Nat.zero_add] at this
theorem fR (i:Nat) (hi:i<64):(Instr.indexAt 200 (.pointer (some ⟨g,0,none⟩)) (I (i:Int))).run Tryz.prog w=.ok (.pointer (some ⟨g,i,none⟩)) w:=by
 have:=y7 (P:=Tryz.prog) (w:=w) (g:=g) (o:=0) If dx hi .i64
 rwa [Nat.zero_add] at this
theorem cy {m:List UInt32} (h:bI g T (m.map bg) w) (i:Nat) (hi:i<m.length):(Instr.loadAt 149 (.pointer (some ⟨g,i,none⟩))).run Tryz.prog w=.ok (bg (m.getD i 0)) w:=
 aj Tryz.underlying149 rfl (h.cell (by simp[hi]))
theorem wZ {m:List UInt32} {x:UInt32} (h:bI g T (m.map bg) w) (i:Nat) (hi:i<m.length):(Instr.storeAt 149 (.pointer (some ⟨g,i,none⟩)) (bg x)).run Tryz.prog w=.ok () (w.setCell ⟨g,i,none⟩ (bg x)):=
 dv dx rfl h (by simpa using hi)
theorem bI.setU {m:List UInt32} (h:bI g T (m.map bg) w) (i:Nat) (x:UInt32):bI g T ((m.set i x).map bg) (w.setCell ⟨g,i,none⟩ (bg x)):=by
 have:=h.set i (bg x)
 rwa [←List.map_set] at this
end
def cG (l:List UInt32):List UInt32:=l++List.replicate (64-l.length) 0
theorem kz {l:List UInt32} (h:l.length≤64):(cG l).length=64:=by simp[cG];omega
theorem fl {l:List UInt32} {i:Nat} (h:i<l.length):(cG l).getD i 0=l.getD i 0:=by
 simp[cG,List.getD,List.getElem?_append_left h]
theorem kA {l:List UInt32} (x:UInt32) (h:l.length<64):(cG l).set l.length x=cG (l++[x]):=by
 unfold cG
 rw[List.set_append_right _ _ (Nat.le_refl _),Nat.sub_self]
 have:64-l.length=(64-(l++[x]).length)+1:=by simp;omega
 rw[this,List.replicate_succ,List.set_cons_zero,List.append_assoc]
 rfl
theorem rD (b:List UInt8) (k:Nat):ia b (k+1)=ia b k++[nr b k]:=by simp[ia,List.range_succ]
theorem iR (b:List UInt8) (k:Nat):(ia b k).length=k:=by simp[ia]
def ie (s v:List UInt32) (i:Nat):List UInt32:=List.zipWith (· + ·) (s.take i) (v.take i)++s.drop i
theorem Bh {s v:List UInt32} (hs:s.length=8) (hv:v.length=8) {i:Nat} (hi:i≤8):(ie s v i).length=8:=by
 simp[ie,hs,hv];omega
theorem tl {s v:List UInt32} (hs:s.length=8) (hv:v.length=8) {i:Nat} (hi:i<8):(ie s v i).getD i 0=s.getD i 0:=by
 have h:(List.zipWith (· + ·) (s.take i) (v.take i)).length=i:=by simp[hs,hv];omega
 simp only[ie,List.getD_eq_getElem?_getD]
 rw[List.getElem?_append_right (by omega),h]
 simp
theorem tm {s v:List UInt32} (hs:s.length=8) (hv:v.length=8) {i:Nat} (hi:i<8):(ie s v i).set i (s.getD i 0+v.getD i 0)=ie s v (i+1):=by
 have h:(List.zipWith (· + ·) (s.take i) (v.take i)).length=i:=by simp[hs,hv];omega
 have h1:s.getD i 0=s[i]:=by simp[List.getD,hs,hi]
 have h2:v.getD i 0=v[i]:=by simp[List.getD,hv,hi]
 unfold ie
 rw[List.set_append_right _ _ (by omega),h,Nat.sub_self,h1,h2]
 rw[List.drop_eq_getElem_cons (by omega:i<s.length),List.set_cons_zero,List.take_succ_eq_append_getElem (by omega:i<s.length),List.take_succ_eq_append_getElem (by omega:i<v.length)]
 rw[List.zipWith_append (by simp[hs,hv])]
 simp
theorem tn {s v:List UInt32} (hs:s.length=8) (hv:v.length=8):ie s v 8=List.zipWith (· + ·) s v:=by
 have h1:s.take 8=s:=List.take_of_length_le (by omega)
 have h2:v.take 8=v:=List.take_of_length_le (by omega)
 have h3:s.drop 8=[]:=List.drop_eq_nil_of_le (by omega)
 unfold ie
 rw[h1,h2,h3,List.append_nil]
end Go.Rl
namespace Go.Rl
open Go.RowKit Go.Proofs
theorem xc:aw Tryz.prog 86:=⟨_,Tryz.func86,by kernel_rfl,rfl⟩
theorem DF {P:Program} {w:World} {t:TypeId} {v:Value} {l:List Value} (hv:v.cells=l.toArray):∃g w',(Instr.box t v).run P w=.ok (.pointer (some ⟨g,0,none⟩)) w'∧w.heap.size≤g∧aE w w'∧bI g t l w':=
 ⟨_,_,m4,Nat.le_refl _,aE.new w _,bI.new v hv⟩
theorem bQ.reads {b:List UInt8} {v:Value} {w:World} (h:bQ b v w):∃ad:Nat→Addr,∀i,i<b.length→
 (∀w':World,(Instr.indexAt 22 v (I (i:Int))).run Tryz.prog w'=.ok (.pointer (some (ad i))) w')∧∀w',aE w w'→(Instr.loadAt 5 (.pointer (some (ad i)))).run Tryz.prog w'=.ok (U8 (b.getD i 0)) w':=by
 have hall:∀i:Nat,∃ad:Addr,i<b.length→(∀w':World,(Instr.indexAt 22 v (I (i:Int))).run Tryz.prog w'=.ok (.pointer (some ad)) w')∧∀w',aE w w'→(Instr.loadAt 5 (.pointer (some ad))).run Tryz.prog w'=.ok (U8 (b.getD i 0)) w':=fun i=>by
  by_cases hi:i<b.length
  ·obtain⟨ad,had,hcell⟩:=iz h hi .i64
   refine⟨ad,fun _=>⟨had,fun w' hw'=>?_⟩⟩
   obtain⟨ad',had',hcell'⟩:=iz (h.ext hw') hi .i64
   have:=(had w').symm.trans (had' w')
   simp only[Result.ok.injEq,Value.pointer.injEq,Option.some.injEq,and_true] at this
   subst this
   have e:b.getD i 0=b[i]:=by simp[List.getD,hi]
   rw[e]
   exact Fo hcell'
  ·exact⟨⟨0,0,none⟩,fun h=>absurd h hi⟩
 exact⟨fun i=>Classical.choose (hall i),fun i hi=>Classical.choose_spec (hall i) hi⟩
theorem xd {w:World} {s:List UInt32} {b:List UInt8} {v:Value} (hs:s.length=8) (hbl:b.length=64) (hv:bQ b v w):
 Calls Tryz.prog 86 #[.agg (s.map bg).toArray,v] w (bL fun r w'=>aE w w'∧r=.agg ((rU s b).map bg).toArray):=by
 refine enter (vs:=[.agg (s.map bg).toArray,v]) Tryz.func86 Ig Ig Ig ?_
 obtain⟨g2,w1,hr,n2,x1,b2⟩:=DF (P:=Tryz.prog) (w:=w) (t:=150) (v:=.agg (s.map bg).toArray) (l:=s.map bg) rfl
 refine af (aa (cI Ig Ig hr ?_))
 obtain⟨g4,w2,hr,n4,x2,b4⟩:=aR (P:=Tryz.prog) (w:=w1) (l:=(List.replicate 8 0).map bg) zJ rfl
 refine aU Ig hr (ag (ab (af (aa ?_))))
 refine ak (vs:=[]) pr Ig Ig (pt w2) ?_
 rintro _ w3 ⟨x3,rfl⟩
 obtain⟨g5,w4,hr,n5,x4,b5⟩:=aR (P:=Tryz.prog) (w:=w3) (l:=List.replicate 64 (bg 0)) rz rfl
 refine aU Ig hr ?_
 refine az Ig Ig (gw b5 Ig rA (i6 _)) ?_
 have b5':=b5.row (kc.map bg)
 have q5:=bd w4 g5 (kc.map bg).toArray
 revert b5' q5
 generalize w4.setRow g5 (kc.map bg).toArray=w5
 intro b5' q5
 refine ag (ab (af (aa ?_)))
 obtain⟨g6,w6,hr,n6,x6,b6⟩:=aR (P:=Tryz.prog) (w:=w5) (l:=(cG []).map bg) rz rfl
 refine aU Ig hr (ag (ab ?_))
 have l24:g2<g4:=Nat.lt_of_lt_of_le b2.lt n4
 have l45:g4<g5:=Nat.lt_of_lt_of_le b4.lt (Nat.le_trans x3.size n5)
 have l56:g5<g6:=Nat.lt_of_lt_of_le b5'.lt n6
 have ne4:some g4≠some g5:=fun h=>by cases h;omega
 have ne2:some g2≠some g5:=fun h=>by cases h;omega
 have B2:bI g2 _ _ w6:=((((b2.ext x2).ext x3).ext x4).other q5 ne2).ext x6
 have B4:bI g4 _ _ w6:=(((b4.ext x3).ext x4).other q5 ne4).ext x6
 have B5:bI g5 _ _ w6:=b5'.ext x6
 have E6:aE w w6:=((((x1.trans x2).trans x3).trans x4).of_new q5 (by omega)).trans x6
 have hw6:w.heap.size≤g6:=by omega
 obtain⟨ad,had⟩:=hv.reads
 refine af (ff (fun _:Unit=>[(2,.pointer (some ⟨g2,0,none⟩)),(4,.pointer (some ⟨g4,0,none⟩)),(5,.pointer (some ⟨g5,0,none⟩)),(6,.pointer (some ⟨g6,0,none⟩))]) (fun _ w'=>w6.grownBy w' (some g6)∧bI g6 200 ((cG (bj b 0)).map bg) w') ?_ ?_)
 ·refine af (aa (ac Ig Ig (ag (ab (au ?_)))))
  refine ci (α:=Nat) (fun k=>[(1,v),(2,.pointer (some ⟨g2,0,none⟩)),(4,.pointer (some ⟨g4,0,none⟩)),(5,.pointer (some ⟨g5,0,none⟩)),(6,.pointer (some ⟨g6,0,none⟩)),(7,I (k:Int))])
   (fun k w'=>w6.grownBy w' (some g6)∧bI g6 200 ((cG (ia b k)).map bg) w'∧k≤16) (fun k=>16-k) 0 ⟨rfl,rfl,rfl,rfl,rfl,rfl,trivial⟩
   ⟨dB (aE.refl _),b6,by omega⟩ ?_
  rintro k w7 ⟨q7,b7,hk⟩
  refine af (af (aa (ae Ig Ig ?_)))
  refine ai Ig Ig Ig (bb) ?_
  refine ag (ab ?_)
  refine bi Ig (fun h=>?_) (fun h=>?_)
  ·have hk16:k<16:=by omega
   have E7:aE w w7:=E6.of_new q7 hw6
   refine ax (ab (af (au ?_)))
   have e0:(4:Int)*(k:Int)=((4*k:Nat):Int):=by omega
   have e1:((4*k:Nat):Int)+1=((4*k+1:Nat):Int):=by omega
   have e2:((4*k:Nat):Int)+2=((4*k+2:Nat):Int):=by omega
   have e3:((4*k:Nat):Int)+3=((4*k+3:Nat):Int):=by omega
   refine bk 35 [1,2,4,5,6,7,58,59] (by kernel_rfl) (by kernel_rfl) ?_
   refine an Ig Ig (an Ig Ig (an Ig Ig ?_))
   refine aL (r:=I ((4*k:Nat):Int)) Ig Ig Ig (fun w _=>by rw[←e0];exact en (by omega) (by omega)) ?_
   refine ar Ig Ig Ig (fun w _=>(had (4*k) (by omega)).1 w) ?_
   refine av Ig Ig (fun w' hw=>(had (4*k) (by omega)).2 w' (E7.trans hw)) ?_
   refine cP Ig Ig (fun w _=>eV HH HB) ?_
   refine aL Ig Ig Ig (fun w _=>dY 24 (by omega)) ?_
   refine an Ig Ig (an Ig Ig ?_)
   refine aL (r:=I ((4*k:Nat):Int)) Ig Ig Ig (fun w _=>by rw[←e0];exact en (by omega) (by omega)) ?_
   refine aL (r:=I ((4*k+1:Nat):Int)) Ig Ig Ig (fun w _=>by rw[←e1];exact aK (by omega) (by omega)) ?_
   refine ar Ig Ig Ig (fun w _=>(had (4*k+1) (by omega)).1 w) ?_
   refine av Ig Ig (fun w' hw=>(had (4*k+1) (by omega)).2 w' (E7.trans hw)) ?_
   refine cP Ig Ig (fun w _=>eV HH HB) ?_
   refine aL Ig Ig Ig (fun w _=>dY 16 (by omega)) ?_
   refine aL Ig Ig Ig (fun w _=>er) ?_
   refine an Ig Ig (an Ig Ig ?_)
   refine aL (r:=I ((4*k:Nat):Int)) Ig Ig Ig (fun w _=>by rw[←e0];exact en (by omega) (by omega)) ?_
   refine aL (r:=I ((4*k+2:Nat):Int)) Ig Ig Ig (fun w _=>by rw[←e2];exact aK (by omega) (by omega)) ?_
   refine ar Ig Ig Ig (fun w _=>(had (4*k+2) (by omega)).1 w) ?_
   refine av Ig Ig (fun w' hw=>(had (4*k+2) (by omega)).2 w' (E7.trans hw)) ?_
   refine cP Ig Ig (fun w _=>eV HH HB) ?_
   refine aL Ig Ig Ig (fun w _=>dY 8 (by omega)) ?_
   refine aL Ig Ig Ig (fun w _=>er) ?_
   refine an Ig Ig (an Ig Ig ?_)
   refine aL (r:=I ((4*k:Nat):Int)) Ig Ig Ig (fun w _=>by rw[←e0];exact en (by omega) (by omega)) ?_
   refine aL (r:=I ((4*k+3:Nat):Int)) Ig Ig Ig (fun w _=>by rw[←e3];exact aK (by omega) (by omega)) ?_
   refine ar Ig Ig Ig (fun w _=>(had (4*k+3) (by omega)).1 w) ?_
   refine av Ig Ig (fun w' hw=>(had (4*k+3) (by omega)).2 w' (E7.trans hw)) ?_
   refine cP Ig Ig (fun w _=>eV HH HB) ?_
   refine aL Ig Ig Ig (fun w _=>er) ?_
   refine ar Ig Ig Ig (fun w _=>fR k (by omega)) ?_
   refine bn ?_
   intro w8 hx8
   rintro _ rfl _ rfl _ rfl _ rfl _ rfl _ rfl _ rfl _ rfl
   have hlen:(cG (ia b k)).length=64:=kz (by rw[iR];omega)
   refine az Ig Ig (wZ (x:=nr b k) (b7.ext hx8) k (by omega)) ?_
   have b8:=(b7.ext hx8).setU k (nr b k)
   have q8:=(q7.trans (dB hx8)).trans (aS w8 g6 k (bg (nr b k)))
   have hset:(cG (ia b k)).set k (nr b k)=cG (ia b (k+1)):=by
    have:=kA (l:=ia b k) (nr b k) (by rw[iR];omega)
    rw[iR] at this
    rw[this,rD]
   rw[hset] at b8
   refine ag (aM (ab (aa (ae Ig Ig ?_))))
   refine ai Ig Ig Ig (aK (by omega) (by omega)) ?_
   refine ac Ig Ig (ag ?_)
   exact bP (k+1) ⟨rfl,rfl,rfl,rfl,rfl,rfl,trivial⟩ ⟨q8,b8,by omega⟩ (by omega)
  ·have hk':k=16:=by omega
   subst hk'
   exact ba (aC (aC (aY (cA () ⟨rfl,rfl,rfl,rfl,trivial⟩ ⟨q7,b7⟩))))
 rintro _ w7 ⟨q7,b7⟩
 refine ab ?_
 refine af (ff (fun _:Unit=>[(2,.pointer (some ⟨g2,0,none⟩)),(4,.pointer (some ⟨g4,0,none⟩)),(5,.pointer (some ⟨g5,0,none⟩)),(6,.pointer (some ⟨g6,0,none⟩))]) (fun _ w'=>w6.grownBy w' (some g6)∧bI g6 200 ((bj b 48).map bg) w') ?_ ?_)
 ·refine af (aa (ac Ig Ig (ag (ab (au ?_)))))
  refine ci (α:=Nat) (fun k=>[(2,.pointer (some ⟨g2,0,none⟩)),(4,.pointer (some ⟨g4,0,none⟩)),(5,.pointer (some ⟨g5,0,none⟩)),(6,.pointer (some ⟨g6,0,none⟩)),(8,I ((16+k:Nat):Int))])
   (fun k w'=>w6.grownBy w' (some g6)∧bI g6 200 ((cG (bj b k)).map bg) w'∧k≤48) (fun k=>48-k) 0 ⟨rfl,rfl,rfl,rfl,rfl,trivial⟩
   ⟨q7,b7,by omega⟩ ?_
  clear q7 b7
  rintro k w7 ⟨q7,b7,hk⟩
  have hL:=jO b k
  refine af (af (aa (ae Ig Ig ?_)))
  refine ai Ig Ig Ig (bb) ?_
  refine ag (ab ?_)
  refine bi Ig (fun h=>?_) (fun h=>?_)
  ·have hk48:k<48:=by omega
   refine ax (ab (af (au (af ?_))))
   have e15:((16+k:Nat):Int)-15=(((bj b k).length-15:Nat):Int):=by omega
   have e2:((16+k:Nat):Int)-2=(((bj b k).length-2:Nat):Int):=by omega
   have e16:((16+k:Nat):Int)-16=(((bj b k).length-16:Nat):Int):=by omega
   have e7:((16+k:Nat):Int)-7=(((bj b k).length-7:Nat):Int):=by omega
   have f15:=fl (l:=bj b k) (i:=(bj b k).length-15) (by omega)
   have f2:=fl (l:=bj b k) (i:=(bj b k).length-2) (by omega)
   have f16:=fl (l:=bj b k) (i:=(bj b k).length-16) (by omega)
   have f7:=fl (l:=bj b k) (i:=(bj b k).length-7) (by omega)
   have hlen:(cG (bj b k)).length=64:=kz (by omega)
   refine bk 9 [2,4,5,6,8,9,71] (by kernel_rfl) (by kernel_rfl) ?_
   refine an Ig Ig ?_
   refine aL (r:=I (((bj b k).length-15:Nat):Int)) Ig Ig Ig (fun w _=>by rw[←e15];exact aV (by omega) (by omega)) ?_
   refine ar Ig Ig Ig (fun w _=>fR _ (by omega)) ?_
   refine av (r:=bg ((bj b k).getD ((bj b k).length-15) 0)) Ig Ig (fun w' hw=>by rw[←f15];exact cy (b7.ext hw) _ (by omega)) ?_
   refine an Ig Ig ?_
   refine aL (r:=I (((bj b k).length-2:Nat):Int)) Ig Ig Ig (fun w _=>by rw[←e2];exact aV (by omega) (by omega)) ?_
   refine ar Ig Ig Ig (fun w _=>fR _ (by omega)) ?_
   refine av (r:=bg ((bj b k).getD ((bj b k).length-2) 0)) Ig Ig (fun w' hw=>by rw[←f2];exact cy (b7.ext hw) _ (by omega)) ?_
   refine du Ig Ig (bn ?_)
   intro w8 hx8
   rintro _ rfl _ rfl _ rfl _ rfl _ rfl _ rfl _ rfl
   refine ac Ig Ig (ag (ab (af (aa (ae Ig Ig ?_)))))
   refine ak dD Ig Ig (dE 7 (by omega) (by omega)) ?_
   rintro _ w9 ⟨hx9,rfl⟩
   refine ae Ig Ig ?_
   refine ak dD Ig Ig (dE 18 (by omega) (by omega)) ?_
   rintro _ w10 ⟨hx10,rfl⟩
   refine ai Ig Ig Ig (cf) ?_
   refine ae Ig Ig ?_
   refine ai Ig Ig Ig (ck 3 (by omega)) ?_
   refine ai Ig Ig Ig (cf) ?_
   refine ac Ig Ig (ag (ab (af (aa (ae Ig Ig ?_)))))
   refine ak dD Ig Ig (dE 17 (by omega) (by omega)) ?_
   rintro _ w11 ⟨hx11,rfl⟩
   refine ae Ig Ig ?_
   refine ak dD Ig Ig (dE 19 (by omega) (by omega)) ?_
   rintro _ w12 ⟨hx12,rfl⟩
   refine ai Ig Ig Ig (cf) ?_
   refine ae Ig Ig ?_
   refine ai Ig Ig Ig (ck 10 (by omega)) ?_
   refine ai Ig Ig Ig (cf) ?_
   refine ac Ig Ig (ag (ab ?_))
   have x12:=(((hx8.trans hx9).trans hx10).trans hx11).trans hx12
   have b12:=b7.ext x12
   refine bk 15 [2,4,5,6,8,101,102] (by kernel_rfl) (by kernel_rfl) ?_
   refine an Ig Ig (an Ig Ig ?_)
   refine aL (r:=I (((bj b k).length-16:Nat):Int)) Ig Ig Ig (fun w _=>by rw[←e16];exact aV (by omega) (by omega)) ?_
   refine ar Ig Ig Ig (fun w _=>fR _ (by omega)) ?_
   refine av (r:=bg ((bj b k).getD ((bj b k).length-16) 0)) Ig Ig (fun w' hw=>by rw[←f16];exact cy (b12.ext hw) _ (by omega)) ?_
   refine an Ig Ig ?_
   refine aL Ig Ig Ig (fun w _=>bT) ?_
   refine an Ig Ig ?_
   refine aL (r:=I (((bj b k).length-7:Nat):Int)) Ig Ig Ig (fun w _=>by rw[←e7];exact aV (by omega) (by omega)) ?_
   refine ar Ig Ig Ig (fun w _=>fR _ (by omega)) ?_
   refine av (r:=bg ((bj b k).getD ((bj b k).length-7) 0)) Ig Ig (fun w' hw=>by rw[←f7];exact cy (b12.ext hw) _ (by omega)) ?_
   refine aL Ig Ig Ig (fun w _=>bT) ?_
   refine an Ig Ig ?_
   refine aL Ig Ig Ig (fun w _=>bT) ?_
   refine ar Ig Ig Ig (fun w _=>fR (16+k) (by omega)) ?_
   refine bn ?_
   intro w13 hx13
   rintro _ rfl _ rfl _ rfl _ rfl _ rfl _ rfl _ rfl
   refine az Ig Ig (wZ (x:=lm (bj b k)) (b12.ext hx13) (16+k) (by omega)) ?_
   have b13:=(b12.ext hx13).setU (16+k) (lm (bj b k))
   have q13:=((q7.trans (dB x12)).trans (dB hx13)).trans (aS w13 g6 (16+k) (bg (lm (bj b k))))
   have hset:(cG (bj b k)).set (16+k) (lm (bj b k))=cG (bj b (k+1)):=by
    have:=kA (l:=bj b k) (lm (bj b k)) (by omega)
    rw[hL] at this
    exact this
   rw[hset] at b13
   refine ag (aM (ab (aa (ae Ig Ig ?_))))
   refine ai Ig Ig Ig (aK (by omega) (by omega)) ?_
   refine ac Ig Ig (ag ?_)
   exact bP (k+1) ⟨rfl,rfl,rfl,rfl,rfl,trivial⟩ ⟨q13,b13,by omega⟩ (by omega)
  ·have hk':k=48:=by omega
   subst hk'
   have hf:cG (bj b 48)=bj b 48:=by
    unfold cG
    rw[hL]
    exact List.append_nil _
   rw[hf] at b7
   exact ba (aC (aC (aY (cA () ⟨rfl,rfl,rfl,rfl,trivial⟩ ⟨q7,b7⟩))))
 clear q7 b7
 rintro _ w7 ⟨q7,b7⟩
 refine ab ?_
 have E7:aE w w7:=E6.of_new q7 hw6
 have ne26:some g2≠some g6:=fun h=>by cases h;omega
 have ne46:some g4≠some g6:=fun h=>by cases h;omega
 have ne56:some g5≠some g6:=fun h=>by cases h;omega
 have C2:=B2.other q7 ne26
 have C4:=B4.other q7 ne46
 have C5:=B5.other q7 ne56
 have hlen8:(Tryz.prog.info? 150).map (·.size)=some (s.map bg).length:=by rw[List.length_map,hs];exact lu
 refine af (aa ?_)
 refine am Ig Ig (kO (m:=s.map bg) C2 (fun j v h=>by rwa [Nat.zero_add]) H4 Ig hlen8) ?_
 obtain⟨g13,w8,hr,n13,x8,b13⟩:=aR (P:=Tryz.prog) (w:=w7) (l:=(List.replicate 8 0).map bg) zJ rfl
 refine aU Ig hr ?_
 refine az Ig Ig (gw b13 (by simp[hs]) hlen8 (i6 _)) ?_
 have b13':=b13.row (s.map bg)
 have q13:=bd w8 g13 (s.map bg).toArray
 have l13:g6<g13:=Nat.lt_of_lt_of_le b7.lt n13
 have ne213:some g2≠some g13:=fun h=>by cases h;omega
 have ne413:some g4≠some g13:=fun h=>by cases h;omega
 have ne513:some g5≠some g13:=fun h=>by cases h;omega
 have ne613:some g6≠some g13:=fun h=>by cases h;omega
 have D2:=(C2.ext x8).other q13 ne213
 have D4:=(C4.ext x8).other q13 ne413
 have D5:=(C5.ext x8).other q13 ne513
 have D6:=(b7.ext x8).other q13 ne613
 have E8:aE w (w8.setRow g13 (s.map bg).toArray):=(E7.trans x8).of_new q13 (by omega)
 revert b13' D2 D4 D5 D6 E8
 generalize w8.setRow g13 (s.map bg).toArray=w9
 intro b13' D2 D4 D5 D6 E9
 refine ag (ab ?_)
 refine af (ff (fun _:Unit=>[(2,.pointer (some ⟨g2,0,none⟩)),(4,.pointer (some ⟨g4,0,none⟩)),(13,.pointer (some ⟨g13,0,none⟩))]) (fun _ w'=>w9.grownBy w' (some g13)∧bI g13 150 ((dk b s 64).map bg) w') ?_ ?_)
 ·refine af (aa (ac Ig Ig (ag (ab (au ?_)))))
  refine ci (α:=Nat) (fun i=>[(2,.pointer (some ⟨g2,0,none⟩)),(4,.pointer (some ⟨g4,0,none⟩)),(5,.pointer (some ⟨g5,0,none⟩)),(6,.pointer (some ⟨g6,0,none⟩)),(13,.pointer (some ⟨g13,0,none⟩)),(14,I (i:Int))])
   (fun i w'=>w9.grownBy w' (some g13)∧bI g13 150 ((dk b s i).map bg) w'∧i≤64) (fun i=>64-i) 0 ⟨rfl,rfl,rfl,rfl,rfl,rfl,trivial⟩
   ⟨dB (aE.refl _),b13',by omega⟩ ?_
  rintro i w10 ⟨q10,b10,hi⟩
  have hv8:=fO b s hs i
  refine af (af (aa (ae Ig Ig ?_)))
  refine ai Ig Ig Ig (bb) ?_
  refine ag (ab ?_)
  refine bi Ig (fun h=>?_) (fun h=>?_)
  ·have hi64:i<64:=by omega
   refine ax (ab (af (au (af ?_))))
   have V:=b10
   have K5:=D5.other q10 ne513
   have K6:=D6.other q10 ne613
   have hkc:kc.length=64:=rfl
   have hsl:(bj b 48).length=64:=jO b 48
   refine bk 5 [2,4,5,6,13,14,15,111] (by kernel_rfl) (by kernel_rfl) ?_
   refine ar Ig Ig Ig (fun w _=>df 0 (by omega)) ?_
   refine av Ig Ig (fun w' hw=>cy (V.ext hw) 0 (by omega)) ?_
   refine ar Ig Ig Ig (fun w _=>df 4 (by omega)) ?_
   refine av Ig Ig (fun w' hw=>cy (V.ext hw) 4 (by omega)) ?_
   refine du Ig Ig (bn ?_)
   intro w11 hx11
   rintro _ rfl _ rfl _ rfl _ rfl _ rfl _ rfl _ rfl _ rfl
   refine ac Ig Ig (ag (ab (af ?_)))
   replace V:=V.ext hx11
   replace K5:=K5.ext hx11
   replace K6:=K6.ext hx11
   refine bk 30 [2,4,5,6,13,14,15,16,141] (by kernel_rfl) (by kernel_rfl) ?_
   refine ar Ig Ig Ig (fun w _=>df 7 (by omega)) ?_
   refine av Ig Ig (fun w' hw=>cy (V.ext hw) 7 (by omega)) ?_
   refine an Ig Ig ?_
   refine bM (S:=Is (bg (gt _ 6))) dD (be.is _) Ig (fun w' _=>by
    rintro _ rfl _ rfl
    exact bL.mono (dE 6 (by omega) (by omega)) fun v w'' h=>⟨h.1,h.2⟩) ?_
   refine an Ig Ig ?_
   refine bM (S:=Is (bg (gt _ 11))) dD (be.is _) Ig (fun w' _=>by
    rintro _ rfl _ rfl
    exact bL.mono (dE 11 (by omega) (by omega)) fun v w'' h=>⟨h.1,h.2⟩) ?_
   refine aL Ig Ig Ig (fun w _=>cf) ?_
   refine an Ig Ig ?_
   refine bM (S:=Is (bg (gt _ 25))) dD (be.is _) Ig (fun w' _=>by
    rintro _ rfl _ rfl
    exact bL.mono (dE 25 (by omega) (by omega)) fun v w'' h=>⟨h.1,h.2⟩) ?_
   refine aL Ig Ig Ig (fun w _=>cf) ?_
   refine aL Ig Ig Ig (fun w _=>bT) ?_
   refine an Ig Ig ?_
   refine ar Ig Ig Ig (fun w _=>df 5 (by omega)) ?_
   refine av Ig Ig (fun w' hw=>cy (V.ext hw) 5 (by omega)) ?_
   refine aL Ig Ig Ig (fun w _=>eq) ?_
   refine an Ig Ig ?_
   refine Fm Ig Ig (fun w _=>oN) ?_
   refine ar Ig Ig Ig (fun w _=>df 6 (by omega)) ?_
   refine av Ig Ig (fun w' hw=>cy (V.ext hw) 6 (by omega)) ?_
   refine aL Ig Ig Ig (fun w _=>eq) ?_
   refine aL Ig Ig Ig (fun w _=>cf) ?_
   refine aL Ig Ig Ig (fun w _=>bT) ?_
   refine an Ig Ig ?_
   refine ar Ig Ig Ig (fun w _=>fR i (by omega)) ?_
   refine av Ig Ig (fun w' hw=>cy (K5.ext hw) i (by omega)) ?_
   refine aL Ig Ig Ig (fun w _=>bT) ?_
   refine an Ig Ig ?_
   refine ar Ig Ig Ig (fun w _=>fR i (by omega)) ?_
   refine av Ig Ig (fun w' hw=>cy (K6.ext hw) i (by omega)) ?_
   refine aL Ig Ig Ig (fun w _=>bT) ?_
   refine bn ?_
   intro w12 hx12
   rintro _ rfl _ rfl _ rfl _ rfl _ rfl _ rfl _ rfl _ rfl _ rfl
   refine ac Ig Ig (ag (ab (af ?_)))
   replace V:=V.ext hx12
   refine bk 24 [2,4,5,6,13,14,15,16,17,165] (by kernel_rfl) (by kernel_rfl) ?_
   refine an Ig Ig ?_
   refine bM (S:=Is (bg (gt _ 2))) dD (be.is _) Ig (fun w' _=>by
    rintro _ rfl _ rfl
    exact bL.mono (dE 2 (by omega) (by omega)) fun v w'' h=>⟨h.1,h.2⟩) ?_
   refine an Ig Ig ?_
   refine bM (S:=Is (bg (gt _ 13))) dD (be.is _) Ig (fun w' _=>by
    rintro _ rfl _ rfl
    exact bL.mono (dE 13 (by omega) (by omega)) fun v w'' h=>⟨h.1,h.2⟩) ?_
   refine aL Ig Ig Ig (fun w _=>cf) ?_
   refine an Ig Ig ?_
   refine bM (S:=Is (bg (gt _ 22))) dD (be.is _) Ig (fun w' _=>by
    rintro _ rfl _ rfl
    exact bL.mono (dE 22 (by omega) (by omega)) fun v w'' h=>⟨h.1,h.2⟩) ?_
   refine aL Ig Ig Ig (fun w _=>cf) ?_
   refine an Ig Ig ?_
   refine ar Ig Ig Ig (fun w _=>df 1 (by omega)) ?_
   refine av Ig Ig (fun w' hw=>cy (V.ext hw) 1 (by omega)) ?_
   refine aL Ig Ig Ig (fun w _=>eq) ?_
   refine an Ig Ig ?_
   refine ar Ig Ig Ig (fun w _=>df 2 (by omega)) ?_
   refine av Ig Ig (fun w' hw=>cy (V.ext hw) 2 (by omega)) ?_
   refine aL Ig Ig Ig (fun w _=>eq) ?_
   refine aL Ig Ig Ig (fun w _=>cf) ?_
   refine ar Ig Ig Ig (fun w _=>df 1 (by omega)) ?_
   refine av Ig Ig (fun w' hw=>cy (V.ext hw) 1 (by omega)) ?_
   refine ar Ig Ig Ig (fun w _=>df 2 (by omega)) ?_
   refine av Ig Ig (fun w' hw=>cy (V.ext hw) 2 (by omega)) ?_
   refine aL Ig Ig Ig (fun w _=>eq) ?_
   refine aL Ig Ig Ig (fun w _=>cf) ?_
   refine aL Ig Ig Ig (fun w _=>bT) ?_
   refine bn ?_
   intro w13 hx13
   rintro _ rfl _ rfl _ rfl _ rfl _ rfl _ rfl _ rfl _ rfl _ rfl _ rfl
   refine ac Ig Ig (ag (ab (aa (ae Ig Ig (ae Ig Ig ?_)))))
   replace V:=V.ext hx13
   refine ai Ig Ig Ig (bT) ?_
   refine ae Ig Ig ?_
   refine aq Ig Ig Ig (df 1 (by omega)) ?_
   refine am Ig Ig (cy V 1 (by omega)) ?_
   refine aq Ig Ig Ig (df 2 (by omega)) ?_
   refine am Ig Ig (cy V 2 (by omega)) ?_
   refine aq Ig Ig Ig (df 3 (by omega)) ?_
   refine am Ig Ig (cy V 3 (by omega)) ?_
   refine ae Ig Ig ?_
   refine ai Ig Ig Ig (bT) ?_
   refine ae Ig Ig ?_
   refine aq Ig Ig Ig (df 5 (by omega)) ?_
   refine am Ig Ig (cy V 5 (by omega)) ?_
   refine aq Ig Ig Ig (df 6 (by omega)) ?_
   refine am Ig Ig (cy V 6 (by omega)) ?_
   refine bA Ig Ig (run_build _ _ _ ((dk b s (i+1)).map bg).toArray (by kernel_rfl)) ?_
   have hn8:=fO b s hs (i+1)
   refine az Ig Ig (gw V (by simp[hv8,hn8]) (by rw[List.length_map,hn8];exact lu) (i6 _)) ?_
   have V':=V.row ((dk b s (i+1)).map bg)
   have q14:=(q10.trans (dB ((hx11.trans hx12).trans hx13))).trans (bd w13 g13 ((dk b s (i+1)).map bg).toArray)
   refine ag (aM (ab (aa (ae Ig Ig ?_))))
   refine ai Ig Ig Ig (aK (by omega) (by omega)) ?_
   refine ac Ig Ig (ag ?_)
   exact bP (i+1) ⟨rfl,rfl,rfl,rfl,rfl,rfl,trivial⟩ ⟨q14,V',by omega⟩ (by omega)
  ·have hi':i=64:=by omega
   subst hi'
   exact ba (aC (aC (aY (cA () ⟨rfl,rfl,rfl,trivial⟩ ⟨q10,b10⟩))))
 rintro _ w10 ⟨q10,b10⟩
 refine ab ?_
 have hv8:=fO b s hs 64
 have F2:=D2.other q10 ne213
 have F4:=D4.other q10 ne413
 have E10:aE w w10:=E9.of_new q10 (by omega)
 have ha0:ie s (dk b s 64) 0=s:=by simp[ie]
 refine af (ff (fun _:Unit=>[(2,.pointer (some ⟨g2,0,none⟩)),(4,.pointer (some ⟨g4,0,none⟩))]) (fun _ w'=>w10.grownBy w' (some g2)∧bI g2 150 ((ie s (dk b s 64) 8).map bg) w') ?_ ?_)
 ·refine af (aa (ac Ig Ig (ag (ab (au ?_)))))
  refine ci (α:=Nat) (fun i=>[(2,.pointer (some ⟨g2,0,none⟩)),(4,.pointer (some ⟨g4,0,none⟩)),(13,.pointer (some ⟨g13,0,none⟩)),(19,I (i:Int))])
   (fun i w'=>w10.grownBy w' (some g2)∧bI g2 150 ((ie s (dk b s 64) i).map bg) w'∧i≤8) (fun i=>8-i) 0 ⟨rfl,rfl,rfl,rfl,trivial⟩
   ⟨dB (aE.refl _),by rw[ha0];exact F2,by omega⟩ ?_
  rintro i w11 ⟨q11,b11,hi⟩
  refine af (af (aa (ae Ig Ig ?_)))
  refine ai Ig Ig Ig (bb) ?_
  refine ag (ab ?_)
  refine bi Ig (fun h=>?_) (fun h=>?_)
  ·have hi8:i<8:=by omega
   have hal:=Bh hs hv8 hi
   have hag:=tl hs hv8 hi8
   have K13:=b10.other q11 (fun h=>by cases h;omega)
   refine ax (ab (af (au ?_)))
   refine bk 8 [2,4,13,19,194,195] (by kernel_rfl) (by kernel_rfl) ?_
   refine an Ig Ig ?_
   refine ar Ig Ig Ig (fun w _=>df i (by omega)) ?_
   refine av (r:=bg (s.getD i 0)) Ig Ig (fun w' hw=>by rw[←hag];exact cy (b11.ext hw) i (by omega)) ?_
   refine an Ig Ig ?_
   refine ar Ig Ig Ig (fun w _=>df i (by omega)) ?_
   refine av Ig Ig (fun w' hw=>cy (K13.ext hw) i (by omega)) ?_
   refine aL Ig Ig Ig (fun w _=>bT) ?_
   refine ar Ig Ig Ig (fun w _=>df i (by omega)) ?_
   refine bn ?_
   intro w12 hx12
   rintro _ rfl _ rfl _ rfl _ rfl _ rfl _ rfl
   refine az Ig Ig (wZ (b11.ext hx12) i (by omega)) ?_
   have b12:=(b11.ext hx12).setU i (s.getD i 0+(dk b s 64).getD i 0)
   rw[tm hs hv8 hi8] at b12
   have q12:=(q11.trans (dB hx12)).trans (aS w12 g2 i (bg (s.getD i 0+(dk b s 64).getD i 0)))
   refine ag (aM (ab (aa (ae Ig Ig ?_))))
   refine ai Ig Ig Ig (aK (by omega) (by omega)) ?_
   refine ac Ig Ig (ag ?_)
   exact bP (i+1) ⟨rfl,rfl,rfl,rfl,trivial⟩ ⟨q12,b12,by omega⟩ (by omega)
  ·have hi':i=8:=by omega
   subst hi'
   exact ba (aC (aC (aY (cA () ⟨rfl,rfl,trivial⟩ ⟨q11,b11⟩))))
 rintro _ w11 ⟨q11,b11⟩
 rw[tn hs hv8] at b11
 have hc8:=vY s b hs
 have hlen8':(Tryz.prog.info? 150).map (·.size)=some ((rU s b).map bg).length:=by rw[List.length_map,hc8];exact lu
 have G4:=F4.other q11 (fun h=>by cases h;omega)
 refine ab (af (aa ?_))
 refine am Ig Ig (kO (m:=(rU s b).map bg) b11 (fun j v h=>by rw[Nat.zero_add];exact h) H4 Ig hlen8') ?_
 refine az Ig Ig (gw G4 (by simp[hc8]) hlen8' (i6 _)) ?_
 refine ag (ab (ay ?_))
 refine eo Ig Ig (G4.row _) H4 Ig hlen8' ?_
 exact⟨_,rfl,(E10.of_new q11 (by omega)).of_new (bd _ _ _) (by omega),rfl⟩
end Go.Rl
namespace Go.Rl
open Go.RowKit Go.Proofs
theorem dt:(Tryz.prog.info? 24).map (·.zero)=some (some (.agg (List.replicate 32 (U8 0)).toArray)):=by kernel_rfl
theorem fS:(Tryz.prog.info? 24).map (·.size)=some 32:=by kernel_rfl
section
variable {w:World} {g o:Nat} {T:TypeId}
theorem rE (i:Nat) (hi:i<32):(Instr.indexAt 24 (.pointer (some ⟨g,0,none⟩)) (I (i:Int))).run Tryz.prog w=.ok (.pointer (some ⟨g,i,none⟩)) w:=by
 have:=y7 (P:=Tryz.prog) (w:=w) (g:=g) (o:=0) HS fu hi .i64
 rwa [Nat.zero_add] at this
theorem tq {m:List UInt8} {x:UInt8} (h:bI g T (m.map U8) w) (i:Nat) (hi:i<m.length):(Instr.storeAt 5 (.pointer (some ⟨g,i,none⟩)) (U8 x)).run Tryz.prog w=.ok () (w.setCell ⟨g,i,none⟩ (U8 x)):=
 dv fu rfl h (by simpa using hi)
theorem bI.setB {m:List UInt8} (h:bI g T (m.map U8) w) (i:Nat) (x:UInt8):bI g T ((m.set i x).map U8) (w.setCell ⟨g,i,none⟩ (U8 x)):=by
 have:=h.set i (U8 x)
 rwa [←List.map_set] at this
end
theorem nK (m:List UInt8):∀v∈m.map U8,v.oneCell'=true:=by
 intro u hu
 obtain⟨b,_,rfl⟩:=List.mem_map.1 hu
 rfl
def eH (d:List UInt8) (n j:Nat):List UInt8:=d.take j++List.replicate (n-j) 0
theorem iS {d:List UInt8} {n j:Nat} (hd:d.length=n) (hj:j≤n):(eH d n j).length=n:=by simp[eH,hd];omega
theorem iT {d:List UInt8} {n j:Nat} (hd:d.length=n) (hj:j<n):(eH d n j).set j (d.getD j 0)=eH d n (j+1):=by
 have h:(d.take j).length=j:=by simp[hd];omega
 have h1:d.getD j 0=d[j]:=by simp[List.getD,hd,hj]
 unfold eH
 rw[List.set_append_right _ _ (by omega),h,Nat.sub_self,h1,List.take_succ_eq_append_getElem (by omega:j<d.length)]
 have:n-j=(n-(j+1))+1:=by omega
 rw[this,List.replicate_succ,List.set_cons_zero,List.append_assoc]
 rfl
theorem oB {d:List UInt8} {n:Nat} (hd:d.length=n):eH d n n=d:=by
 simp[eH,←hd]
theorem xe (s:List UInt32):(s.flatMap rP).length=4*s.length:=by
 induction s with
 |nil=>rfl
 |cons x s ih=>
  have:(x::s).flatMap rP=rP x++s.flatMap rP:=by simp
  rw[this,List.length_append,ih]
  simp[rP];omega
theorem jR:∀(s:List UInt32) (i k:Nat),i<s.length→k<4→(s.flatMap rP).getD (4*i+k) 0=(s.getD i 0>>>UInt32.ofNat (24-8*k)).toUInt8
 |[],_,_,h,_=>by simp at h
 |x::s,0,k,_,hk=>by
  have e:(x::s).flatMap rP=rP x++s.flatMap rP:=by simp
  rw[e]
  match k,hk with
  |0,_=>rfl
  |1,_=>rfl
  |2,_=>rfl
  |3,_=>
   show x.toUInt8=(x>>>UInt32.ofNat 0).toUInt8
   rw[show UInt32.ofNat 0=0 from rfl,UInt32.shiftRight_zero]
 |x::s,i+1,k,h,hk=>by
  have e:(x::s).flatMap rP=rP x++s.flatMap rP:=by simp
  rw[e]
  have h4:(rP x).length=4:=rfl
  have:=jR s i k (by simpa using h) hk
  rw[List.getD_eq_getElem?_getD,List.getElem?_append_right (by omega),h4,show 4*(i+1)+k-4=4*i+k by omega,←List.getD_eq_getElem?_getD,this]
  rfl
theorem bW (m:List UInt8):(gM m).length=32:=by
 unfold gM
 rw[xe,CG]
theorem uM (n:UInt64):(vZ n).length=8:=by simp[vZ]
theorem DG (n:UInt64) {j:Nat} (hj:j<8):(vZ n).take (j+1)=(vZ n).take j++[(n>>>UInt64.ofNat (56-8*j)).toUInt8]:=by
 rw[List.take_succ_eq_append_getElem (by rw[uM];exact hj)]
 simp[vZ]
theorem DH (M:List UInt8) (k:Nat):sU M (k+1)=rU (sU M k) ((M.take (64*k+64)).drop (64*k)):=by
 rw[sU,List.drop_take,Nat.add_sub_cancel_left]
end Go.Rl
namespace Go.Rl
open Go.RowKit Go.Proofs
theorem lU {w:World} {l:List UInt8} {v:Value} (hv:bQ l v w) (hl:l.length≤1099511627776):
 Calls Tryz.prog 38 #[v] w (bL fun r w'=>aE w w'∧r=.agg ((gM l).map U8).toArray):=by
 refine enter (vs:=[v]) Tryz.func38 Ig Ig Ig ?_
 obtain⟨g2,w1,hr,n2,x1,b2⟩:=aR (P:=Tryz.prog) (w:=w) (l:=(List.replicate 32 0).map U8) dt rfl
 refine af (aa (aU Ig hr (ag (ab (af (aa ?_))))))
 obtain⟨r3,w3,hr,x3,o3,_⟩:=ej (w:=w1) w1.heap.size [] (by simp) (Nat.le_refl _)
 refine aH (vs:=[]) Ig Ig hr ?_
 refine ae Ig Ig ?_
 have e3:=x1.trans x3
 obtain⟨r4,w4,hr,o4,g4⟩:=dc (ty:=22) o3 (hv.ext e3) (by simp only[List.length_nil];omega) x3.size
 have x4:=x3.of_grew g4 o3.ge
 refine aZ Ig Ig hr ?_
 obtain⟨r5,w5,hr,x5,o5,_⟩:=ej (w:=w4) w4.heap.size [128] (by simp) (Nat.le_refl _)
 refine aH (vs:=[(0,U8 128)]) Ig Ig hr ?_
 obtain⟨r6,w6,hr,o6,g6⟩:=dc (ty:=22) (o4.ext x5) o5.bts (by simp only[List.nil_append,List.length_cons,List.length_nil];omega) (x4.trans x5).size
 have x6:=(x4.trans x5).of_grew g6 o4.ge
 refine aZ Ig Ig hr ?_
 rw[List.nil_append] at o6
 have B2:=b2.ext x6
 refine ac Ig Ig (ag (ab ?_))
 refine af (ff (fun m:Value=>[(0,v),(2,.pointer (some ⟨g2,0,none⟩)),(3,m)]) (fun m w'=>bZ w1.heap.size (l++[128]++List.replicate (fP l.length) 0) m w'∧aE w1 w') ?_ ?_)
 ·refine au ?_
  refine ci (α:=Nat×Value) (fun x=>[(0,v),(2,.pointer (some ⟨g2,0,none⟩)),(3,x.2)])
   (fun x w'=>bZ w1.heap.size (l++[128]++List.replicate x.1 0) x.2 w'∧aE w1 w'∧x.1≤fP l.length) (fun x=>fP l.length-x.1) (0,r6) ⟨rfl,rfl,rfl,trivial⟩
   ⟨by simpa using o6,x6,by simp⟩ ?_
  rintro⟨k,m⟩ w7 ⟨o7,x7,hk⟩
  dsimp only at o7 x7 hk
  have hp:fP l.length<64:=by unfold fP;omega
  have hm:(l++[128]++List.replicate k 0).length=l.length+1+k:=by simp;omega
  refine af (af (aa (ae Ig Ig ?_)))
  refine aO Ig Ig (cc o7.bts) ?_
  refine ai Ig Ig Ig (lG (by omega) (by omega)) ?_
  refine ai Ig Ig Ig (dA) ?_
  refine ag (ab ?_)
  rw[hm]
  refine bi Ig (fun h=>?_) (fun h=>?_)
  ·have hlt:k<fP l.length:=by
    rcases Nat.lt_or_ge k (fP l.length) with h1|h1
    ·exact h1
    ·have:k=fP l.length:=by omega
     subst this
     exfalso
     unfold fP at h
     omega
   refine ax (ab (au (aa (ae Ig Ig ?_))))
   obtain⟨r8,w8,hr,x8,o8,_⟩:=ej (w:=w7) w7.heap.size [0] (by simp) (Nat.le_refl _)
   refine aH (vs:=[(0,U8 0)]) Ig Ig hr ?_
   obtain⟨r9,w9,hr,o9,g9⟩:=dc (ty:=22) (o7.ext x8) o8.bts (by rw[hm];simp only[List.length_cons,List.length_nil];omega) (x7.trans x8).size
   refine aZ Ig Ig hr ?_
   refine ac Ig Ig (ag (aM ?_))
   refine bP (k+1,r9) ⟨rfl,rfl,rfl,trivial⟩ ⟨?_,(x7.trans x8).of_grew g9 o7.ge,hlt⟩ (by show fP l.length-(k+1)<fP l.length-k;omega)
   show bZ _ (l++[128]++List.replicate (k+1) 0) r9 w9
   rw[List.replicate_succ',←List.append_assoc]
   exact o9
  ·have hk':k=fP l.length:=by
    unfold fP at hk hp⊢
    omega
   subst hk'
   exact ba (aC (aC (aY (cA m ⟨rfl,rfl,rfl,trivial⟩ ⟨o7,x7⟩))))
 rintro m7 w7 ⟨o7,x7⟩
 refine ab (af (aa (ae Ig Ig ?_)))
 refine aO Ig Ig (cc (hv.ext (x1.trans x7))) ?_
 refine aN Ig Ig (dT HE HD) ?_
 refine ai (u:=bo 8) Ig Ig Ig (gD) ?_
 rw[UInt64.mul_comm]
 refine ac Ig Ig (ag (ab ?_))
 have hp:fP l.length<64:=by unfold fP;omega
 have hb8:=uM (UInt64.ofNat l.length*8)
 refine af (ff (fun m:Value=>[(2,.pointer (some ⟨g2,0,none⟩)),(3,m)]) (fun m w'=>bZ w1.heap.size (dQ l) m w'∧aE w1 w') ?_ ?_)
 ·refine af (aa (ac Ig Ig (ag (ab (au ?_)))))
  refine ci (α:=Nat×Value) (fun x=>[(2,.pointer (some ⟨g2,0,none⟩)),(3,x.2),(4,bo (UInt64.ofNat l.length*8)),(5,I (7-(x.1:Int)))])
   (fun x w'=>bZ w1.heap.size (l++[128]++List.replicate (fP l.length) 0++(vZ (UInt64.ofNat l.length*8)).take x.1) x.2 w'∧aE w1 w'∧x.1≤8) (fun x=>8-x.1) (0,m7) ⟨rfl,rfl,rfl,rfl,trivial⟩
   ⟨by simpa using o7,x7,by simp⟩ ?_
  rintro⟨j,m⟩ w8 ⟨o8,x8,hj⟩
  dsimp only at o8 x8 hj
  refine af (af (aa (ae Ig Ig ?_)))
  refine ai Ig Ig Ig (gP) ?_
  refine ag (ab ?_)
  refine bi Ig (fun h=>?_) (fun h=>?_)
  ·have hj8:j<8:=by omega
   refine ax (ab (af (au (aa (ae Ig Ig (ae Ig Ig (ae Ig Ig ?_)))))))
   have e8:(8:Int)*(7-(j:Int))=((56-8*j:Nat):Int):=by omega
   refine ai (r:=I ((56-8*j:Nat):Int)) Ig Ig Ig (by rw[←e8];exact en (by omega) (by omega)) ?_
   refine ai Ig Ig Ig (cK (56-8*j) (by omega)) ?_
   refine aN Ig Ig (jH HD HH) ?_
   obtain⟨r9,w9,hr,x9,o9,_⟩:=ej (w:=w8) w8.heap.size [((UInt64.ofNat l.length*8)>>>UInt64.ofNat (56-8*j)).toUInt8] (by simp) (Nat.le_refl _)
   refine aH (vs:=[(0,U8 ((UInt64.ofNat l.length*8)>>>UInt64.ofNat (56-8*j)).toUInt8)]) Ig Ig hr ?_
   obtain⟨r10,w10,hr,o10,g10⟩:=dc (ty:=22) (o8.ext x9) o9.bts (by simp only[List.length_append,List.length_cons,List.length_nil,List.length_replicate,List.length_take];omega) (x8.trans x9).size
   refine aZ Ig Ig hr ?_
   refine ac Ig Ig (ag (aM (ab (aa (ae Ig Ig ?_)))))
   refine ai Ig Ig Ig (aV (by omega) (by omega)) ?_
   refine ac Ig Ig (ag ?_)
   have e1:(7:Int)-(j:Int)-1=7-((j+1:Nat):Int):=by omega
   rw[e1]
   refine bP (j+1,r10) ⟨rfl,rfl,rfl,rfl,trivial⟩ ⟨?_,(x8.trans x9).of_grew g10 o8.ge,hj8⟩ (by show 8-(j+1)<8-j;omega)
   show bZ _ (l++[128]++List.replicate (fP l.length) 0++(vZ (UInt64.ofNat l.length*8)).take (j+1)) r10 w10
   rw[DG _ hj8,←List.append_assoc]
   exact o10
  ·have hj':j=8:=by omega
   subst hj'
   rw[List.take_of_length_le (by omega)] at o8
   exact ba (aC (aC (aY (cA m ⟨rfl,rfl,trivial⟩ ⟨o8,x8⟩))))
 clear o7 x7
 rintro m8 w8 ⟨o8,x8⟩
 have hM:=xY l
 have hMl:(dQ l).length≤1099511627776+80:=by
  simp only[dQ,List.length_append,List.length_cons,List.length_nil,List.length_replicate];omega
 generalize hMM:dQ l=M at o8 hM hMl
 refine ab (af (aa ?_))
 refine bA Ig Ig (run_build _ _ _ (iv.map bg).toArray (by kernel_rfl)) ?_
 obtain⟨g6',w9,hr,n9,x9,b9⟩:=aR (P:=Tryz.prog) (w:=w8) (l:=(List.replicate 8 0).map bg) zJ rfl
 refine aU Ig hr ?_
 refine az Ig Ig (gw b9 Ig lu (i6 _)) ?_
 have b9':=b9.row (iv.map bg)
 have q9:=bd w9 g6' (iv.map bg).toArray
 have l26:g2<g6':=Nat.lt_of_lt_of_le b2.lt (Nat.le_trans x8.size n9)
 have hw6:w1.heap.size≤g6':=Nat.le_trans x8.size n9
 have E9:aE w1 (w9.setRow g6' (iv.map bg).toArray):=(x8.trans x9).of_new q9 hw6
 have ne2:some g2≠some g6':=fun h=>by cases h;omega
 have hm9:bZ w1.heap.size M m8 (w9.setRow g6' (iv.map bg).toArray):=by
  obtain⟨n,h⟩:=o8.ext x9
  exact⟨n,World.ownsRow.kept h q9 (.inr fun he=>by have:=o8.lt g6' he;omega)⟩
 have C9:=((b2.ext x8).ext x9).other q9 ne2
 revert b9' E9 hm9 C9
 generalize w9.setRow g6' (iv.map bg).toArray=w10
 intro b10 E10 o10 C10
 refine ag (ab ?_)
 have l28:∀k,m8.ownBlock=some k→k<w8.heap.size:=o8.lt
 refine af (ff (fun _:Unit=>[(2,.pointer (some ⟨g2,0,none⟩)),(6,.pointer (some ⟨g6',0,none⟩))]) (fun _ w'=>w10.grownBy w' (some g6')∧bI g6' 150 ((sU M (M.length/64)).map bg) w') ?_ ?_)
 ·refine af (aa (ac Ig Ig (ag (ab (au ?_)))))
  refine ci (α:=Nat) (fun k=>[(2,.pointer (some ⟨g2,0,none⟩)),(3,m8),(6,.pointer (some ⟨g6',0,none⟩)),(7,I ((64*k:Nat):Int))])
   (fun k w'=>w10.grownBy w' (some g6')∧bI g6' 150 ((sU M k).map bg) w'∧k≤M.length/64) (fun k=>M.length/64-k) 0 ⟨rfl,rfl,rfl,rfl,trivial⟩
   ⟨dB (aE.refl _),b10,by omega⟩ ?_
  rintro k w11 ⟨q11,b11,hk⟩
  have o11:bZ w1.heap.size M m8 w11:=by
   obtain⟨n,h⟩:=o10
   exact⟨n,World.ownsRow.kept h q11 (.inr fun he=>by have:=l28 g6' he;omega)⟩
  have hs8:=lQ M k
  refine af (af (aa (ae Ig Ig (ae Ig Ig ?_))))
  refine aO Ig Ig (cc o11.bts) ?_
  refine ai Ig Ig Ig (bb) ?_
  refine ag (ab ?_)
  refine bi Ig (fun h=>?_) (fun h=>?_)
  ·have hlt:64*k+64≤M.length:=by omega
   have e64:((64*k:Nat):Int)+64=((64*k+64:Nat):Int):=by omega
   have hbl:((M.take (64*k+64)).drop (64*k)).length=64:=by simp;omega
   obtain⟨r12,hr12,bt12⟩:=u9 o11.bts (lo:=64*k) (hi:=64*k+64) (by omega) hlt .i64 .i64
   have hszk:(Tryz.prog.info? 150).map (·.size)=some ((sU M k).map bg).length:=by rw[List.length_map,hs8];exact lu
   have hszk':(Tryz.prog.info? 150).map (·.size)=some ((sU M (k+1)).map bg).length:=by rw[List.length_map,lQ];exact lu
   refine ax (ab (af (au ?_)))
   refine bk 7 [2,3,6,7,52] (by kernel_rfl) (by kernel_rfl) ?_
   refine av Ig Ig (fun w' hw=>kO (m:=(sU M k).map bg) (b11.ext hw) (fun j v h=>by rwa [Nat.zero_add]) H4 Ig hszk) ?_
   refine an Ig Ig (an Ig Ig (an Ig Ig ?_))
   refine aL (r:=I ((64*k+64:Nat):Int)) Ig Ig Ig (fun w _=>by rw[←e64];exact aK (by omega) (by omega)) ?_
   refine j0 (a:=some (I ((64*k:Nat):Int))) (b:=some (I ((64*k+64:Nat):Int))) Ig Ig Ig Ig (fun w _=>hr12 w) ?_
   refine bM (S:=Is (.agg ((sU M (k+1)).map bg).toArray)) xc (be.is _) Ig (fun w' hw=>by
    rintro _ rfl _ rfl
    exact bL.mono (xd hs8 hbl (bt12.ext hw)) fun v w'' h=>⟨h.1,by rw[DH];exact h.2⟩) ?_
   refine bn ?_
   intro w12 hx12
   rintro _ rfl _ rfl _ rfl _ rfl _ rfl
   refine az Ig Ig (gw (b11.ext hx12) (by simp[lQ]) hszk' (i6 _)) ?_
   have b12:=(b11.ext hx12).row ((sU M (k+1)).map bg)
   have q12:=(q11.trans (dB hx12)).trans (bd w12 g6' ((sU M (k+1)).map bg).toArray)
   refine ag (aM (ab (aa (ae Ig Ig ?_))))
   refine ai Ig Ig Ig (aK (by omega) (by omega)) ?_
   refine ac Ig Ig (ag ?_)
   exact bP (k+1) ⟨rfl,rfl,rfl,rfl,trivial⟩ ⟨q12,b12,by omega⟩ (by omega)
  ·have hk':k=M.length/64:=by omega
   subst hk'
   exact ba (aC (aC (aY (cA () ⟨rfl,rfl,trivial⟩ ⟨q11,b11⟩))))
 rintro _ w11 ⟨q11,b11⟩
 have C2:=C10.other q11 ne2
 have E11:aE w1 w11:=E10.of_new q11 hw6
 have hs8:=lQ M (M.length/64)
 generalize hst:sU M (M.length/64)=st at b11 hs8
 have hD:(st.flatMap rP).length=32:=by rw[xe,hs8]
 refine ab (af (aa ?_))
 obtain⟨g8,w12,hr,n12,x12,b12⟩:=aR (P:=Tryz.prog) (w:=w11) (l:=(eH (st.flatMap rP) 32 0).map U8) dt rfl
 refine aU Ig hr (ag (ab ?_))
 have l68:g6'<g8:=Nat.lt_of_lt_of_le b11.lt n12
 have ne68:some g6'≠some g8:=fun h=>by cases h;omega
 have ne28:some g2≠some g8:=fun h=>by cases h;omega
 have c11:=b11.ext x12
 have D2:=C2.ext x12
 refine af (ff (fun _:Unit=>[(2,.pointer (some ⟨g2,0,none⟩)),(8,.pointer (some ⟨g8,0,none⟩))]) (fun _ w'=>w12.grownBy w' (some g8)∧bI g8 24 ((st.flatMap rP).map U8) w') ?_ ?_)
 ·refine af (aa (ac Ig Ig (ag (ab (au ?_)))))
  refine ci (α:=Nat) (fun i=>[(2,.pointer (some ⟨g2,0,none⟩)),(6,.pointer (some ⟨g6',0,none⟩)),(8,.pointer (some ⟨g8,0,none⟩)),(9,I (i:Int))])
   (fun i w'=>w12.grownBy w' (some g8)∧bI g8 24 ((eH (st.flatMap rP) 32 (4*i)).map U8) w'∧i≤8) (fun i=>8-i) 0 ⟨rfl,rfl,rfl,rfl,trivial⟩
   ⟨dB (aE.refl _),b12,by omega⟩ ?_
  rintro i w13 ⟨q13,b13,hi⟩
  refine af (af (aa (ae Ig Ig ?_)))
  refine ai Ig Ig Ig (bb) ?_
  refine ag (ab ?_)
  refine bi Ig (fun h=>?_) (fun h=>?_)
  ·have hi8:i<8:=by omega
   refine ax (ab (af (au (af (aa (ac Ig Ig (ag (ab (au ?_)))))))))
   refine ci (α:=Nat) (fun k=>[(2,.pointer (some ⟨g2,0,none⟩)),(6,.pointer (some ⟨g6',0,none⟩)),(8,.pointer (some ⟨g8,0,none⟩)),(9,I (i:Int)),(10,I (k:Int))])
    (fun k w'=>w12.grownBy w' (some g8)∧bI g8 24 ((eH (st.flatMap rP) 32 (4*i+k)).map U8) w'∧k≤4) (fun k=>4-k) 0 ⟨rfl,rfl,rfl,rfl,rfl,trivial⟩
    ⟨q13,b13,by omega⟩ ?_
   rintro k w14 ⟨q14,b14,hk⟩
   refine af (af (aa (ae Ig Ig ?_)))
   refine ai Ig Ig Ig (bb) ?_
   refine ag (ab ?_)
   refine bi Ig (fun h=>?_) (fun h=>?_)
   ·have hk4:k<4:=by omega
    have c14:=c11.other q14 ne68
    have hfl:=iS (j:=4*i+k) hD (by omega)
    have e4:(4:Int)*(i:Int)=((4*i:Nat):Int):=by omega
    have e5:((4*i:Nat):Int)+(k:Int)=((4*i+k:Nat):Int):=by omega
    have e6:(24:Int)-8*(k:Int)=((24-8*k:Nat):Int):=by omega
    refine ax (ab (af (au (aa (ae Ig Ig ?_)))))
    refine ai (r:=I ((4*i:Nat):Int)) Ig Ig Ig (by rw[←e4];exact en (by omega) (by omega)) ?_
    refine ae Ig Ig ?_
    refine ai (r:=I ((4*i+k:Nat):Int)) Ig Ig Ig (by rw[←e5];exact aK (by omega) (by omega)) ?_
    refine ae Ig Ig ?_
    refine aq Ig Ig Ig (df i (by omega)) ?_
    refine am Ig Ig (cy c14 i (by omega)) ?_
    refine ae Ig Ig ?_
    refine ai Ig Ig Ig (en (by omega) (by omega)) ?_
    refine ai (r:=I ((24-8*k:Nat):Int)) Ig Ig Ig (by rw[←e6];exact aV (by omega) (by omega)) ?_
    refine ai Ig Ig Ig (ck (24-8*k) (by omega)) ?_
    refine aN Ig Ig (dh HB HH) ?_
    refine aq Ig Ig Ig (rE (4*i+k) (by omega)) ?_
    refine az Ig Ig (tq b14 (4*i+k) (by omega)) ?_
    have b15:=b14.setB (4*i+k) (st.getD i 0>>>UInt32.ofNat (24-8*k)).toUInt8
    have hset:(eH (st.flatMap rP) 32 (4*i+k)).set (4*i+k) (st.getD i 0>>>UInt32.ofNat (24-8*k)).toUInt8=eH (st.flatMap rP) 32 (4*i+(k+1)):=by
     rw[←jR st i k (by omega) hk4]
     exact iT hD (by omega)
    rw[hset] at b15
    refine ag (aM (ab (aa (ae Ig Ig ?_))))
    refine ai Ig Ig Ig (aK (by omega) (by omega)) ?_
    refine ac Ig Ig (ag ?_)
    exact bP (k+1) ⟨rfl,rfl,rfl,rfl,rfl,trivial⟩ ⟨q14.trans (aS w14 g8 _ _),b15,by omega⟩ (by omega)
   ·have hk':k=4:=by omega
    subst hk'
    refine ba (aC (aC (aY (aM (ab (aa (ae Ig Ig ?_)))))))
    refine ai Ig Ig Ig (aK (by omega) (by omega)) ?_
    refine ac Ig Ig (ag ?_)
    exact bP (i+1) ⟨rfl,rfl,rfl,rfl,trivial⟩ ⟨q14,b14,by omega⟩ (by omega)
  ·have hi':i=8:=by omega
   subst hi'
   rw[show 4*8=32 from rfl,oB hD] at b13
   exact ba (aC (aC (aY (cA () ⟨rfl,rfl,trivial⟩ ⟨q13,b13⟩))))
 rintro _ w13 ⟨q13,b13⟩
 have hdig:st.flatMap rP=gM l:=by
  unfold gM sh
  rw[hMM,hst]
 rw[hdig] at b13
 have hsz:(Tryz.prog.info? 24).map (·.size)=some ((gM l).map U8).length:=by rw[List.length_map,bW];exact fS
 have F2:=D2.other q13 ne28
 refine ab (af (aa ?_))
 refine am Ig Ig (kO (m:=(gM l).map U8) b13 (fun j v h=>by rwa [Nat.zero_add]) HS Ig hsz) ?_
 refine az Ig Ig (gw F2 (by simp[bW]) hsz (nK _)) ?_
 refine ag (ab (ay ?_))
 refine eo Ig Ig (F2.row _) HS Ig hsz ?_
 have E13:aE w w13:=(x1.trans (E11.trans x12)).of_new q13 (by have:=x1.size;omega)
 exact⟨_,rfl,E13.of_new (bd _ _ _) n2,rfl⟩
end Go.Rl
namespace Go.Rl
open Go.RowKit Go.Proofs
def cu (st:List UInt32) (blk:List UInt8) (u:Int) (tot:UInt64):List Value:=st.map bg++(blk.map U8++[I u,bo tot])
structure HC (g:Nat) (st:List UInt32) (blk:List UInt8) (u:Int) (tot:UInt64) (w:World):Prop where
 hb:bI g 154 (cu st blk u tot) w
 ls:st.length=8
 lb:blk.length=64
section
variable {w w':World} {g:Nat} {st:List UInt32} {blk:List UInt8} {u:Int} {tot:UInt64}
theorem fT (hs:st.length=8) (hb:blk.length=64):(cu st blk u tot).length=74:=by simp[cu,hs,hb]
theorem HC.ext (h:HC g st blk u tot w) (hx:aE w w'):HC g st blk u tot w':=⟨h.hb.ext hx,h.ls,h.lb⟩
theorem HC.other {row:Option Nat} (h:HC g st blk u tot w) (hg:w.grownBy w' row) (hne:some g≠row):HC g st blk u tot w':=⟨h.hb.other hg hne,h.ls,h.lb⟩
theorem HC.lt (h:HC g st blk u tot w):g<w.heap.size:=h.hb.lt
theorem HC.cellS (h:HC g st blk u tot w) {i:Nat} (hi:i<8):w.cell? ⟨g,i,none⟩=some (bg (st.getD i 0)):=
 h.hb.cell (by simp[cu,List.getElem?_append,h.ls,hi])
theorem HC.cellU (h:HC g st blk u tot w):w.cell? ⟨g,72,none⟩=some (I u):=
 h.hb.cell (by unfold cu;rw[List.getElem?_append_right (by simp[h.ls]),List.length_map,h.ls,List.getElem?_append_right (by simp[h.lb]),List.length_map,h.lb];rfl)
theorem HC.cellT (h:HC g st blk u tot w):w.cell? ⟨g,73,none⟩=some (bo tot):=
 h.hb.cell (by unfold cu;rw[List.getElem?_append_right (by simp[h.ls]),List.length_map,h.ls,List.getElem?_append_right (by simp[h.lb]),List.length_map,h.lb];rfl)
theorem HC.setS (h:HC g st blk u tot w) (i:Nat) (hi:i<8) (x:UInt32):HC g (st.set i x) blk u tot (w.setCell ⟨g,i,none⟩ (bg x)):=by
 refine⟨?_,by simp[h.ls],h.lb⟩
 have:=h.hb.set i (bg x)
 unfold cu at this
 rw[List.set_append_left _ _ (by simpa [h.ls] using hi),←List.map_set] at this
 exact this
theorem HC.setU (h:HC g st blk u tot w) (x:Int):HC g st blk x tot (w.setCell ⟨g,72,none⟩ (I x)):=by
 refine⟨?_,h.ls,h.lb⟩
 have:=h.hb.set 72 (I x)
 unfold cu at this
 rw[List.set_append_right _ _ (by simp[h.ls]),List.length_map,h.ls,List.set_append_right _ _ (by simp[h.lb]),List.length_map,h.lb] at this
 exact this
theorem HC.setT (h:HC g st blk u tot w) (x:UInt64):HC g st blk u x (w.setCell ⟨g,73,none⟩ (bo x)):=by
 refine⟨?_,h.ls,h.lb⟩
 have:=h.hb.set 73 (bo x)
 unfold cu at this
 rw[List.set_append_right _ _ (by simp[h.ls]),List.length_map,h.ls,List.set_append_right _ _ (by simp[h.lb]),List.length_map,h.lb] at this
 exact this
theorem xf:(Tryz.prog.info? 107).map (·.size)=some 1:=by kernel_rfl
theorem DI:(Tryz.prog.info? 152).map (·.size)=some 64:=by kernel_rfl
theorem tt:(Tryz.prog.info? 154).map (·.size)=some 74:=by kernel_rfl
theorem Bi:(Tryz.prog.info? 154).map (·.zero)=some (some (.agg (cu (List.replicate 8 0) (List.replicate 64 0) 0 0).toArray)):=by kernel_rfl
theorem EV:(Instr.fieldAt 154 (.pointer (some ⟨g,0,none⟩)) 0).run Tryz.prog w=.ok (.pointer (some ⟨g,0,none⟩)) w:=by
 have h:=bK (P:=Tryz.prog) (w:=w) (n:=0) (a:=⟨g,0,none⟩) Ic rfl lu (Nat.succ_ne_zero 7)
 exact h
theorem Hk:(Instr.fieldAt 154 (.pointer (some ⟨g,0,none⟩)) 1).run Tryz.prog w=.ok (.pointer (some ⟨g,8,none⟩)) w:=by
 have h:=bK (P:=Tryz.prog) (w:=w) (n:=1) (a:=⟨g,0,none⟩) Ic rfl DI (Nat.succ_ne_zero 63)
 exact h
theorem Bj:(Instr.fieldAt 154 (.pointer (some ⟨g,0,none⟩)) 2).run Tryz.prog w=.ok (.pointer (some ⟨g,72,none⟩)) w:=by
 have h:=bK (P:=Tryz.prog) (w:=w) (n:=2) (a:=⟨g,0,none⟩) Ic rfl eW (Nat.succ_ne_zero 0)
 exact h
theorem Gz:(Instr.fieldAt 154 (.pointer (some ⟨g,0,none⟩)) 3).run Tryz.prog w=.ok (.pointer (some ⟨g,73,none⟩)) w:=by
 have h:=bK (P:=Tryz.prog) (w:=w) (n:=3) (a:=⟨g,0,none⟩) Ic rfl xf (Nat.succ_ne_zero 0)
 exact h
theorem HC.bts (h:HC g st blk u tot w) {lo:Nat} (hlo:lo<64):bQ (blk.drop lo) (.slice (some ⟨g,8+lo,none⟩) (64-lo) (64-lo)) w:=by
 refine⟨_,_,_,rfl,Nat.le_refl _,by unfold maxLen;omega,by simp[h.lb],fun _=>⟨_,rfl,fun j v hj=>?_⟩,fun h=>by cases h⟩
 rw[Addr.add_mid]
 refine h.hb.cell ?_
 unfold cu
 rw[List.getElem?_append_right (by simp[h.ls];omega),List.length_map,h.ls,show 8+lo+j-8=lo+j by omega]
 have hjl:lo+j<(blk.map U8).length:=by
  have:=(List.getElem?_eq_some_iff.1 hj).1
  simp only[List.length_map,List.length_drop] at this⊢
  omega
 rw[List.getElem?_append_left hjl]
 rw[List.map_drop,List.getElem?_drop] at hj
 exact hj
theorem FI {lo:Nat} (hlo:lo<64):(Instr.sliceAt 152 (.pointer (some ⟨g,8,none⟩)) (some (I (lo:Int))) none none).run Tryz.prog w=.ok (.slice (some ⟨g,8+lo,none⟩) (64-lo) (64-lo)) w:=
 BX Tryz.underlying152 fu hlo .i64
theorem HC.ldS (h:HC g st blk u tot w):(Instr.loadAt 150 (.pointer (some ⟨g,0,none⟩))).run Tryz.prog w=.ok (.agg (st.map bg).toArray) w:=
 kO (m:=st.map bg) h.hb (fun j v hj=>by
  rw[Nat.zero_add]
  unfold cu
  rw[List.getElem?_append_left (List.getElem?_eq_some_iff.1 hj).1]
  exact hj) H4 rfl (by rw[List.length_map,h.ls];exact lu)
end
theorem Bk (b:List UInt8) (i j:Nat):(b.drop i).getD j 0=b.getD (i+j) 0:=by simp[List.getD]
end Go.Rl
namespace Go.Rl
open Go.RowKit Go.Proofs
theorem uN:aw Tryz.prog 87:=⟨_,Tryz.func87,by kernel_rfl,rfl⟩
theorem Bl (b:List UInt8) (k:Nat):nr b k=((((b.drop (4*k)).getD 0 0).toUInt32<<<UInt32.ofNat 24|||((b.drop (4*k)).getD 1 0).toUInt32<<<UInt32.ofNat 16)|||((b.drop (4*k)).getD 2 0).toUInt32<<<UInt32.ofNat 8)|||((b.drop (4*k)).getD 3 0).toUInt32:=by
 simp only[Bk,nr,Nat.add_zero]
theorem rF {m:List UInt32} {i:Nat} (h:i<m.length):(m.map bg)[i]? =some (bg (m.getD i 0)):=by simp[h]
theorem uO {w:World} {g:Nat} {s:List UInt32} {b:List UInt8} {u:Int} {tot:UInt64} (hc:HC g s b u tot w):
 Calls Tryz.prog 87 #[.pointer (some ⟨g,0,none⟩)] w (bL fun _ w'=>w.grownBy w' (some g)∧HC g (rU s b) b 0 tot w'):=by
 have hs:=hc.ls
 have hbl:=hc.lb
 refine enter (vs:=[.pointer (some ⟨g,0,none⟩)]) Tryz.func87 Ig Ig Ig ?_
 obtain⟨g2,w1,hr,n2,x1,b2⟩:=aR (P:=Tryz.prog) (w:=w) (l:=(cG []).map bg) rz rfl
 refine af (aa (aU Ig hr (ag (ab ?_))))
 have lg:=hc.lt
 have hc1:=hc.ext x1
 have neg:some g≠some g2:=fun h=>by cases h;omega
 refine af (ff (fun _:Unit=>[(0,.pointer (some ⟨g,0,none⟩)),(2,.pointer (some ⟨g2,0,none⟩))]) (fun _ w'=>w1.grownBy w' (some g2)∧bI g2 200 ((cG (bj b 0)).map bg) w') ?_ ?_)
 ·refine af (aa (ae Ig Ig (ag (ab (au ?_)))))
  refine ci (α:=Nat) (fun k=>[(0,.pointer (some ⟨g,0,none⟩)),(2,.pointer (some ⟨g2,0,none⟩)),(17,I (k:Int))])
   (fun k w'=>w1.grownBy w' (some g2)∧bI g2 200 ((cG (ia b k)).map bg) w'∧k≤16) (fun k=>16-k) 0 ⟨rfl,rfl,rfl,trivial⟩
   ⟨dB (aE.refl _),b2,by omega⟩ ?_
  rintro k w7 ⟨q7,b7,hk⟩
  refine af (aa ?_)
  refine ai Ig Ig Ig (bb) ?_
  refine ag (ab (af ?_))
  refine bi Ig (fun h=>?_) (fun h=>?_)
  ·have hk16:k<16:=by omega
   have e0:(4:Int)*(k:Int)=((4*k:Nat):Int):=by omega
   refine ax (ab (af (au (af (aa (ae Ig Ig (ac Ig Ig (ag (ab (af (aa (ae Ig Ig ?_))))))))))))
   refine aQ Ig Ig ?_
   refine ah Ig Ig Hk ?_
   refine ae Ig Ig ?_
   refine ai (r:=I ((4*k:Nat):Int)) Ig Ig Ig (by rw[←e0];exact en (by omega) (by omega)) ?_
   refine db (a:=some (I ((4*k:Nat):Int))) Ig Ig Ig Ig Ig (FI (by omega)) ?_
   refine ac Ig Ig (ag (ab ?_))
   have hbt:=(hc1.other q7 neg).bts (lo:=4*k) (by omega)
   obtain⟨ad,had⟩:=hbt.reads
   rw[List.length_drop,hbl] at had
   refine bk 24 [0,2,17,48,49] (by kernel_rfl) (by kernel_rfl) ?_
   refine an Ig Ig (an Ig Ig ?_)
   refine ar Ig Ig Ig (fun w _=>(had 0 (by omega)).1 w) ?_
   refine av Ig Ig (fun w' hw=>(had 0 (by omega)).2 w' hw) ?_
   refine cP Ig Ig (fun w _=>eV HH HB) ?_
   refine aL Ig Ig Ig (fun w _=>dY 24 (by omega)) ?_
   refine an Ig Ig ?_
   refine ar Ig Ig Ig (fun w _=>(had 1 (by omega)).1 w) ?_
   refine av Ig Ig (fun w' hw=>(had 1 (by omega)).2 w' hw) ?_
   refine cP Ig Ig (fun w _=>eV HH HB) ?_
   refine aL Ig Ig Ig (fun w _=>dY 16 (by omega)) ?_
   refine aL Ig Ig Ig (fun w _=>er) ?_
   refine an Ig Ig ?_
   refine ar Ig Ig Ig (fun w _=>(had 2 (by omega)).1 w) ?_
   refine av Ig Ig (fun w' hw=>(had 2 (by omega)).2 w' hw) ?_
   refine cP Ig Ig (fun w _=>eV HH HB) ?_
   refine aL Ig Ig Ig (fun w _=>dY 8 (by omega)) ?_
   refine aL Ig Ig Ig (fun w _=>er) ?_
   refine an Ig Ig ?_
   refine ar Ig Ig Ig (fun w _=>(had 3 (by omega)).1 w) ?_
   refine av Ig Ig (fun w' hw=>(had 3 (by omega)).2 w' hw) ?_
   refine cP Ig Ig (fun w _=>eV HH HB) ?_
   refine aL Ig Ig Ig (fun w _=>er) ?_
   refine ar Ig Ig Ig (fun w _=>fR k (by omega)) ?_
   refine bn ?_
   intro w8 hx8
   rintro _ rfl _ rfl _ rfl _ rfl _ rfl
   have hlen:(cG (ia b k)).length=64:=kz (by rw[iR];omega)
   rw[←Bl]
   refine az Ig Ig (wZ (x:=nr b k) (b7.ext hx8) k (by omega)) ?_
   have b8:=(b7.ext hx8).setU k (nr b k)
   have q8:=(q7.trans (dB hx8)).trans (aS w8 g2 k (bg (nr b k)))
   have hset:(cG (ia b k)).set k (nr b k)=cG (ia b (k+1)):=by
    have:=kA (l:=ia b k) (nr b k) (by rw[iR];omega)
    rw[iR] at this
    rw[this,rD]
   rw[hset] at b8
   refine ag (aM (ab (aa ?_)))
   refine ai Ig Ig Ig (aK (by omega) (by omega)) ?_
   refine ae Ig Ig (ag ?_)
   exact bP (k+1) ⟨rfl,rfl,rfl,trivial⟩ ⟨q8,b8,by omega⟩ (by omega)
  ·have hk':k=16:=by omega
   subst hk'
   exact ba (aC (aC (aY (cA () ⟨rfl,rfl,trivial⟩ ⟨q7,b7⟩))))
 rintro _ w7 ⟨q7,b7⟩
 refine ab ?_
 refine af (ff (fun _:Unit=>[(0,.pointer (some ⟨g,0,none⟩)),(2,.pointer (some ⟨g2,0,none⟩))]) (fun _ w'=>w1.grownBy w' (some g2)∧bI g2 200 ((bj b 48).map bg) w') ?_ ?_)
 ·refine af (aa (ac Ig Ig (ag (ab (au ?_)))))
  refine ci (α:=Nat) (fun k=>[(0,.pointer (some ⟨g,0,none⟩)),(2,.pointer (some ⟨g2,0,none⟩)),(5,I ((16+k:Nat):Int))])
   (fun k w'=>w1.grownBy w' (some g2)∧bI g2 200 ((cG (bj b k)).map bg) w'∧k≤48) (fun k=>48-k) 0 ⟨rfl,rfl,rfl,trivial⟩
   ⟨q7,b7,by omega⟩ ?_
  clear q7 b7
  rintro k w7 ⟨q7,b7,hk⟩
  have hL:=jO b k
  refine af (af (aa (ae Ig Ig ?_)))
  refine ai Ig Ig Ig (bb) ?_
  refine ag (ab ?_)
  refine bi Ig (fun h=>?_) (fun h=>?_)
  ·have hk48:k<48:=by omega
   refine ax (ab (af (au (af ?_))))
   have e15:((16+k:Nat):Int)-15=(((bj b k).length-15:Nat):Int):=by omega
   have f15:=fl (l:=bj b k) (i:=(bj b k).length-15) (by omega)
   have e2:((16+k:Nat):Int)-2=(((bj b k).length-2:Nat):Int):=by omega
   have f2:=fl (l:=bj b k) (i:=(bj b k).length-2) (by omega)
   have e16:((16+k:Nat):Int)-16=(((bj b k).length-16:Nat):Int):=by omega
   have f16:=fl (l:=bj b k) (i:=(bj b k).length-16) (by omega)
   have e7:((16+k:Nat):Int)-7=(((bj b k).length-7:Nat):Int):=by omega
   have f7:=fl (l:=bj b k) (i:=(bj b k).length-7) (by omega)
   have hlen:(cG (bj b k)).length=64:=kz (by omega)
   refine bk 9 [0,2,5,6,62] (by kernel_rfl) (by kernel_rfl) ?_
   refine an Ig Ig ?_
   refine aL (r:=I (((bj b k).length-15:Nat):Int)) Ig Ig Ig (fun w _=>by rw[←e15];exact aV (by omega) (by omega)) ?_
   refine ar Ig Ig Ig (fun w _=>fR _ (by omega)) ?_
   refine av (r:=bg ((bj b k).getD ((bj b k).length-15) 0)) Ig Ig (fun w' hw=>by rw[←f15];exact cy (b7.ext hw) _ (by omega)) ?_
   refine an Ig Ig ?_
   refine aL (r:=I (((bj b k).length-2:Nat):Int)) Ig Ig Ig (fun w _=>by rw[←e2];exact aV (by omega) (by omega)) ?_
   refine ar Ig Ig Ig (fun w _=>fR _ (by omega)) ?_
   refine av (r:=bg ((bj b k).getD ((bj b k).length-2) 0)) Ig Ig (fun w' hw=>by rw[←f2];exact cy (b7.ext hw) _ (by omega)) ?_
   refine du Ig Ig (bn ?_)
   intro w8 hx8
   rintro _ rfl _ rfl _ rfl _ rfl _ rfl
   refine ac Ig Ig (ag (ab ?_))
   have b12:=b7.ext hx8
   refine bk 29 [0,2,5,90,91] (by kernel_rfl) (by kernel_rfl) ?_
   refine an Ig Ig (an Ig Ig ?_)
   refine aL (r:=I (((bj b k).length-16:Nat):Int)) Ig Ig Ig (fun w _=>by rw[←e16];exact aV (by omega) (by omega)) ?_
   refine ar Ig Ig Ig (fun w _=>fR _ (by omega)) ?_
   refine av (r:=bg ((bj b k).getD ((bj b k).length-16) 0)) Ig Ig (fun w' hw=>by rw[←f16];exact cy (b12.ext hw) _ (by omega)) ?_
   refine an Ig Ig ?_
   refine bM (S:=Is (bg (gt _ 7))) eh (be.is _) Ig (fun w' _=>by
    rintro _ rfl _ rfl
    exact bL.mono (ei 7 (by omega) (by omega)) fun v w'' h=>⟨h.1,h.2⟩) ?_
   refine an Ig Ig ?_
   refine bM (S:=Is (bg (gt _ 18))) eh (be.is _) Ig (fun w' _=>by
    rintro _ rfl _ rfl
    exact bL.mono (ei 18 (by omega) (by omega)) fun v w'' h=>⟨h.1,h.2⟩) ?_
   refine aL Ig Ig Ig (fun w _=>cf) ?_
   refine an Ig Ig ?_
   refine aL Ig Ig Ig (fun w _=>ck 3 (by omega)) ?_
   refine aL Ig Ig Ig (fun w _=>cf) ?_
   refine aL Ig Ig Ig (fun w _=>bT) ?_
   refine an Ig Ig ?_
   refine aL (r:=I (((bj b k).length-7:Nat):Int)) Ig Ig Ig (fun w _=>by rw[←e7];exact aV (by omega) (by omega)) ?_
   refine ar Ig Ig Ig (fun w _=>fR _ (by omega)) ?_
   refine av (r:=bg ((bj b k).getD ((bj b k).length-7) 0)) Ig Ig (fun w' hw=>by rw[←f7];exact cy (b12.ext hw) _ (by omega)) ?_
   refine aL Ig Ig Ig (fun w _=>bT) ?_
   refine an Ig Ig ?_
   refine bM (S:=Is (bg (gt _ 17))) eh (be.is _) Ig (fun w' _=>by
    rintro _ rfl _ rfl
    exact bL.mono (ei 17 (by omega) (by omega)) fun v w'' h=>⟨h.1,h.2⟩) ?_
   refine an Ig Ig ?_
   refine bM (S:=Is (bg (gt _ 19))) eh (be.is _) Ig (fun w' _=>by
    rintro _ rfl _ rfl
    exact bL.mono (ei 19 (by omega) (by omega)) fun v w'' h=>⟨h.1,h.2⟩) ?_
   refine aL Ig Ig Ig (fun w _=>cf) ?_
   refine an Ig Ig ?_
   refine aL Ig Ig Ig (fun w _=>ck 10 (by omega)) ?_
   refine aL Ig Ig Ig (fun w _=>cf) ?_
   refine aL Ig Ig Ig (fun w _=>bT) ?_
   refine ar Ig Ig Ig (fun w _=>fR (16+k) (by omega)) ?_
   refine bn ?_
   intro w13 hx13
   rintro _ rfl _ rfl _ rfl _ rfl _ rfl
   refine az Ig Ig (wZ (x:=lm (bj b k)) (b12.ext hx13) (16+k) (by omega)) ?_
   have b13:=(b12.ext hx13).setU (16+k) (lm (bj b k))
   have q13:=((q7.trans (dB hx8)).trans (dB hx13)).trans (aS w13 g2 (16+k) (bg (lm (bj b k))))
   have hset:(cG (bj b k)).set (16+k) (lm (bj b k))=cG (bj b (k+1)):=by
    have:=kA (l:=bj b k) (lm (bj b k)) (by omega)
    rw[hL] at this
    exact this
   rw[hset] at b13
   refine ag (aM (ab (aa (ae Ig Ig ?_))))
   refine ai Ig Ig Ig (aK (by omega) (by omega)) ?_
   refine ac Ig Ig (ag ?_)
   exact bP (k+1) ⟨rfl,rfl,rfl,trivial⟩ ⟨q13,b13,by omega⟩ (by omega)
  ·have hk':k=48:=by omega
   subst hk'
   have hf:cG (bj b 48)=bj b 48:=by
    unfold cG
    rw[hL]
    exact List.append_nil _
   rw[hf] at b7
   exact ba (aC (aC (aY (cA () ⟨rfl,rfl,trivial⟩ ⟨q7,b7⟩))))
 clear q7 b7
 rintro _ w7 ⟨q7,b7⟩
 have hc7:=hc1.other q7 neg
 refine ab (af (aa (ae Ig Ig ?_)))
 refine aQ Ig Ig ?_
 refine ah Ig Ig EV ?_
 refine am Ig Ig hc7.ldS ?_
 have hlen8:(Tryz.prog.info? 150).map (·.size)=some (s.map bg).length:=by rw[List.length_map,hs];exact lu
 obtain⟨g8,w8,hr,n8,x8,b8⟩:=aR (P:=Tryz.prog) (w:=w7) (l:=(List.replicate 8 0).map bg) zJ rfl
 refine aU Ig hr ?_
 refine az Ig Ig (gw b8 (by simp[hs]) hlen8 (i6 _)) ?_
 have b8':=b8.row (s.map bg)
 have q8:=bd w8 g8 (s.map bg).toArray
 have l28:g2<g8:=Nat.lt_of_lt_of_le b7.lt n8
 have lg7:=hc7.lt
 have ne28:some g2≠some g8:=fun h=>by cases h;omega
 have neg8:some g≠some g8:=fun h=>by cases h;omega
 have D2:=(b7.ext x8).other q8 ne28
 have hc8:=(hc7.ext x8).other q8 neg8
 have Q8:w.grownBy (w8.setRow g8 (s.map bg).toArray) (some g):=by
  have h1:aE w w7:=x1.of_new q7 n2
  exact dB ((h1.trans x8).of_new q8 (by have:=h1.size;omega))
 revert b8' D2 hc8 Q8
 generalize w8.setRow g8 (s.map bg).toArray=w9
 intro b9 D2 hc9 Q9
 refine ag (ab ?_)
 refine af (ff (fun _:Unit=>[(0,.pointer (some ⟨g,0,none⟩)),(8,.pointer (some ⟨g8,0,none⟩))]) (fun _ w'=>w9.grownBy w' (some g8)∧bI g8 150 ((dk b s 64).map bg) w') ?_ ?_)
 ·refine af (aa ?_)
  refine ak (vs:=[]) rB Ig Ig (rC w9) ?_
  rintro _ w10 ⟨x10,rfl⟩
  refine ae Ig Ig (ag (ab (au ?_)))
  refine ci (α:=Nat) (fun i=>[(0,.pointer (some ⟨g,0,none⟩)),(2,.pointer (some ⟨g2,0,none⟩)),(8,.pointer (some ⟨g8,0,none⟩)),(96,.agg (kc.map bg).toArray),(97,I (i:Int))])
   (fun i w'=>w9.grownBy w' (some g8)∧bI g8 150 ((dk b s i).map bg) w'∧i≤64) (fun i=>64-i) 0 ⟨rfl,rfl,rfl,rfl,rfl,trivial⟩
   ⟨dB x10,b9.ext x10,by omega⟩ ?_
  clear x10 w10
  rintro i w10 ⟨q10,b10,hi⟩
  have hv8:=fO b s hs i
  refine af (aa ?_)
  refine ai Ig Ig Ig (bb) ?_
  refine ag (ab (af ?_))
  refine bi Ig (fun h=>?_) (fun h=>?_)
  ·have hi64:i<64:=by omega
   have hkc:kc.length=64:=rfl
   have hsl:(bj b 48).length=64:=jO b 48
   refine ax (ab (af (au (af (aa (ae Ig Ig ?_))))))
   refine jY Ig Ig Ig (BW (l:=kc.map bg) If dx HB hi64 .i64 (rF (by omega))) ?_
   refine ac Ig Ig (ac Ig Ig (ag (ab (af ?_))))
   have V:=b10
   have K6:=D2.other q10 ne28
   refine bk 5 [0,2,8,9,10,11,96,97,104] (by kernel_rfl) (by kernel_rfl) ?_
   refine ar Ig Ig Ig (fun w _=>df 0 (by omega)) ?_
   refine av Ig Ig (fun w' hw=>cy (V.ext hw) 0 (by omega)) ?_
   refine ar Ig Ig Ig (fun w _=>df 4 (by omega)) ?_
   refine av Ig Ig (fun w' hw=>cy (V.ext hw) 4 (by omega)) ?_
   refine du Ig Ig (bn ?_)
   intro w11 hx11
   rintro _ rfl _ rfl _ rfl _ rfl _ rfl _ rfl _ rfl _ rfl _ rfl
   refine ac Ig Ig (ag (ab (af ?_)))
   replace V:=V.ext hx11
   replace K6:=K6.ext hx11
   refine bk 28 [0,2,8,11,96,97,132] (by kernel_rfl) (by kernel_rfl) ?_
   refine ar Ig Ig Ig (fun w _=>df 7 (by omega)) ?_
   refine av Ig Ig (fun w' hw=>cy (V.ext hw) 7 (by omega)) ?_
   refine an Ig Ig ?_
   refine bM (S:=Is (bg (gt _ 6))) eh (be.is _) Ig (fun w' _=>by
    rintro _ rfl _ rfl
    exact bL.mono (ei 6 (by omega) (by omega)) fun v w'' h=>⟨h.1,h.2⟩) ?_
   refine an Ig Ig ?_
   refine bM (S:=Is (bg (gt _ 11))) eh (be.is _) Ig (fun w' _=>by
    rintro _ rfl _ rfl
    exact bL.mono (ei 11 (by omega) (by omega)) fun v w'' h=>⟨h.1,h.2⟩) ?_
   refine aL Ig Ig Ig (fun w _=>cf) ?_
   refine an Ig Ig ?_
   refine bM (S:=Is (bg (gt _ 25))) eh (be.is _) Ig (fun w' _=>by
    rintro _ rfl _ rfl
    exact bL.mono (ei 25 (by omega) (by omega)) fun v w'' h=>⟨h.1,h.2⟩) ?_
   refine aL Ig Ig Ig (fun w _=>cf) ?_
   refine aL Ig Ig Ig (fun w _=>bT) ?_
   refine an Ig Ig ?_
   refine ar Ig Ig Ig (fun w _=>df 5 (by omega)) ?_
   refine av Ig Ig (fun w' hw=>cy (V.ext hw) 5 (by omega)) ?_
   refine aL Ig Ig Ig (fun w _=>eq) ?_
   refine an Ig Ig ?_
   refine Fm Ig Ig (fun w _=>oN) ?_
   refine ar Ig Ig Ig (fun w _=>df 6 (by omega)) ?_
   refine av Ig Ig (fun w' hw=>cy (V.ext hw) 6 (by omega)) ?_
   refine aL Ig Ig Ig (fun w _=>eq) ?_
   refine aL Ig Ig Ig (fun w _=>cf) ?_
   refine aL Ig Ig Ig (fun w _=>bT) ?_
   refine an Ig Ig ?_
   refine aL Ig Ig Ig (fun w _=>bT) ?_
   refine an Ig Ig ?_
   refine ar Ig Ig Ig (fun w _=>fR i (by omega)) ?_
   refine av Ig Ig (fun w' hw=>cy (K6.ext hw) i (by omega)) ?_
   refine aL Ig Ig Ig (fun w _=>bT) ?_
   refine bn ?_
   intro w12 hx12
   rintro _ rfl _ rfl _ rfl _ rfl _ rfl _ rfl _ rfl
   refine ac Ig Ig (ag (ab (af ?_)))
   replace V:=V.ext hx12
   refine bk 24 [0,2,8,13,96,97,156] (by kernel_rfl) (by kernel_rfl) ?_
   refine an Ig Ig ?_
   refine bM (S:=Is (bg (gt _ 2))) eh (be.is _) Ig (fun w' _=>by
    rintro _ rfl _ rfl
    exact bL.mono (ei 2 (by omega) (by omega)) fun v w'' h=>⟨h.1,h.2⟩) ?_
   refine an Ig Ig ?_
   refine bM (S:=Is (bg (gt _ 13))) eh (be.is _) Ig (fun w' _=>by
    rintro _ rfl _ rfl
    exact bL.mono (ei 13 (by omega) (by omega)) fun v w'' h=>⟨h.1,h.2⟩) ?_
   refine aL Ig Ig Ig (fun w _=>cf) ?_
   refine an Ig Ig ?_
   refine bM (S:=Is (bg (gt _ 22))) eh (be.is _) Ig (fun w' _=>by
    rintro _ rfl _ rfl
    exact bL.mono (ei 22 (by omega) (by omega)) fun v w'' h=>⟨h.1,h.2⟩) ?_
   refine aL Ig Ig Ig (fun w _=>cf) ?_
   refine an Ig Ig ?_
   refine ar Ig Ig Ig (fun w _=>df 1 (by omega)) ?_
   refine av Ig Ig (fun w' hw=>cy (V.ext hw) 1 (by omega)) ?_
   refine aL Ig Ig Ig (fun w _=>eq) ?_
   refine an Ig Ig ?_
   refine ar Ig Ig Ig (fun w _=>df 2 (by omega)) ?_
   refine av Ig Ig (fun w' hw=>cy (V.ext hw) 2 (by omega)) ?_
   refine aL Ig Ig Ig (fun w _=>eq) ?_
   refine aL Ig Ig Ig (fun w _=>cf) ?_
   refine ar Ig Ig Ig (fun w _=>df 1 (by omega)) ?_
   refine av Ig Ig (fun w' hw=>cy (V.ext hw) 1 (by omega)) ?_
   refine ar Ig Ig Ig (fun w _=>df 2 (by omega)) ?_
   refine av Ig Ig (fun w' hw=>cy (V.ext hw) 2 (by omega)) ?_
   refine aL Ig Ig Ig (fun w _=>eq) ?_
   refine aL Ig Ig Ig (fun w _=>cf) ?_
   refine aL Ig Ig Ig (fun w _=>bT) ?_
   refine bn ?_
   intro w13 hx13
   rintro _ rfl _ rfl _ rfl _ rfl _ rfl _ rfl _ rfl
   refine ac Ig Ig (ag (ab (aa (ae Ig Ig (ae Ig Ig ?_)))))
   replace V:=V.ext hx13
   refine ai Ig Ig Ig (bT) ?_
   refine aq Ig Ig Ig (df 0 (by omega)) ?_
   refine am Ig Ig (cy V 0 (by omega)) ?_
   refine aq Ig Ig Ig (df 1 (by omega)) ?_
   refine am Ig Ig (cy V 1 (by omega)) ?_
   refine aq Ig Ig Ig (df 2 (by omega)) ?_
   refine am Ig Ig (cy V 2 (by omega)) ?_
   refine aq Ig Ig Ig (df 3 (by omega)) ?_
   refine am Ig Ig (cy V 3 (by omega)) ?_
   refine ae Ig Ig ?_
   refine ai Ig Ig Ig (bT) ?_
   refine aq Ig Ig Ig (df 4 (by omega)) ?_
   refine am Ig Ig (cy V 4 (by omega)) ?_
   refine aq Ig Ig Ig (df 5 (by omega)) ?_
   refine am Ig Ig (cy V 5 (by omega)) ?_
   refine aq Ig Ig Ig (df 6 (by omega)) ?_
   refine am Ig Ig (cy V 6 (by omega)) ?_
   refine bA Ig Ig (run_build _ _ _ ((dk b s (i+1)).map bg).toArray (by kernel_rfl)) ?_
   have hn8:=fO b s hs (i+1)
   refine az Ig Ig (gw V (by simp[hv8,hn8]) (by rw[List.length_map,hn8];exact lu) (i6 _)) ?_
   have V':=V.row ((dk b s (i+1)).map bg)
   have q14:=(q10.trans (dB ((hx11.trans hx12).trans hx13))).trans (bd w13 g8 ((dk b s (i+1)).map bg).toArray)
   refine ag (aM (ab (aa ?_)))
   refine ai Ig Ig Ig (aK (by omega) (by omega)) ?_
   refine ae Ig Ig (ag ?_)
   exact bP (i+1) ⟨rfl,rfl,rfl,rfl,rfl,trivial⟩ ⟨q14,V',by omega⟩ (by omega)
  ·have hi':i=64:=by omega
   subst hi'
   exact ba (aC (aC (aY (cA () ⟨rfl,rfl,trivial⟩ ⟨q10,b10⟩))))
 rintro _ w10 ⟨q10,b10⟩
 refine ab ?_
 have hv8:=fO b s hs 64
 have hc10:=hc9.other q10 neg8
 have ha0:ie s (dk b s 64) 0=s:=by simp[ie]
 refine af (ff (fun _:Unit=>[(0,.pointer (some ⟨g,0,none⟩))]) (fun _ w'=>w10.grownBy w' (some g)∧HC g (ie s (dk b s 64) 8) b u tot w') ?_ ?_)
 ·refine af (aa ?_)
  refine am Ig Ig (kO (m:=(dk b s 64).map bg) b10 (fun j v h=>by rwa [Nat.zero_add]) H4 Ig (by rw[List.length_map,hv8];exact lu)) ?_
  refine ae Ig Ig (ag (ab (au ?_)))
  refine ci (α:=Nat) (fun i=>[(0,.pointer (some ⟨g,0,none⟩)),(178,.agg ((dk b s 64).map bg).toArray),(179,I (i:Int))])
   (fun i w'=>w10.grownBy w' (some g)∧HC g (ie s (dk b s 64) i) b u tot w'∧i≤8) (fun i=>8-i) 0 ⟨rfl,rfl,rfl,trivial⟩
   ⟨dB (aE.refl _),by rw[ha0];exact hc10,by omega⟩ ?_
  rintro i w11 ⟨q11,c11,hi⟩
  refine af (aa ?_)
  refine ai Ig Ig Ig (bb) ?_
  refine ag (ab (af ?_))
  refine bi Ig (fun h=>?_) (fun h=>?_)
  ·have hi8:i<8:=by omega
   have hag:=tl hs hv8 hi8
   refine ax (ab (af (au (af (aa (ae Ig Ig ?_))))))
   refine jY Ig Ig Ig (BW (l:=(dk b s 64).map bg) H4 dx HB hi8 .i64 (rF (by omega))) ?_
   refine ac Ig Ig (ac Ig Ig (ag (ab ?_)))
   refine bk 11 [0,178,179,190,193] (by kernel_rfl) (by kernel_rfl) ?_
   refine an Ig Ig (an Ig Ig ?_)
   refine bm Ig Ig ?_
   refine aA Ig Ig (fun w _=>EV) ?_
   refine ar Ig Ig Ig (fun w _=>df i (by omega)) ?_
   refine av (r:=bg (s.getD i 0)) Ig Ig (fun w' hw=>by rw[←hag];exact aj HB Ig ((c11.ext hw).cellS hi8)) ?_
   refine an Ig Ig ?_
   refine aL Ig Ig Ig (fun w _=>bT) ?_
   refine bm Ig Ig ?_
   refine aA Ig Ig (fun w _=>EV) ?_
   refine ar Ig Ig Ig (fun w _=>df i (by omega)) ?_
   refine bn ?_
   intro w12 hx12
   rintro _ rfl _ rfl _ rfl _ rfl _ rfl
   have hcl:=fT (u:=u) (tot:=tot) c11.ls c11.lb
   refine az Ig Ig (dv dx Ig (c11.ext hx12).hb (by rw[List.size_toArray,hcl];omega)) ?_
   have c12:=(c11.ext hx12).setS i hi8 (s.getD i 0+(dk b s 64).getD i 0)
   rw[tm hs hv8 hi8] at c12
   have q12:=(q11.trans (dB hx12)).trans (aS w12 g i (bg (s.getD i 0+(dk b s 64).getD i 0)))
   refine ag (aM (ab (aa ?_)))
   refine ai Ig Ig Ig (aK (by omega) (by omega)) ?_
   refine ae Ig Ig (ag ?_)
   exact bP (i+1) ⟨rfl,rfl,rfl,trivial⟩ ⟨q12,c12,by omega⟩ (by omega)
  ·have hi':i=8:=by omega
   subst hi'
   exact ba (aC (aC (aY (cA () ⟨rfl,trivial⟩ ⟨q11,c11⟩))))
 rintro _ w11 ⟨q11,c11⟩
 rw[tn hs hv8] at c11
 have hcl:=fT (u:=u) (tot:=tot) c11.ls c11.lb
 refine ab (aa (ae Ig Ig ?_))
 refine aQ Ig Ig ?_
 refine ah Ig Ig Bj ?_
 refine az Ig Ig (dv (i:=72) eW Ig c11.hb (by rw[List.size_toArray,hcl];omega)) ?_
 have c12:=c11.setU 0
 refine ag ?_
 refine fq Ig ?_
 refine⟨_,rfl,?_,c12⟩
 have Q10:w.grownBy w10 (some g):=by
  have h:w.grownBy w9 (some g):=Q9
  refine⟨q10.os.trans h.os,q10.tape.trans h.tape,q10.output.trans h.output,Nat.le_trans h.size q10.size,fun k hk hne=>?_⟩
  exact(q10.block k (Nat.lt_of_lt_of_le hk h.size) (fun he=>by cases he;omega)).trans (h.block k hk hne)
 exact(Q10.trans q11).trans (aS w11 g 72 (I 0))
end Go.Rl
namespace Go.Rl
open Go.RowKit Go.Proofs
def HA (g:Nat) (m:List UInt8) (tot:UInt64) (w:World):Prop:=∃blk,HC g (sh m) blk ((m.length%64:Nat):Int) tot w∧blk.take (m.length%64)=m.drop (64*(m.length/64))
theorem HA.ext {g:Nat} {m:List UInt8} {tot:UInt64} {w w':World} (h:HA g m tot w) (hx:aE w w'):HA g m tot w':=by
 obtain⟨blk,h1,h2⟩:=h
 exact⟨blk,h1.ext hx,h2⟩
theorem HA.other {g:Nat} {m:List UInt8} {tot:UInt64} {w w':World} {row:Option Nat} (h:HA g m tot w) (hg:w.grownBy w' row) (hne:some g≠row):HA g m tot w':=by
 obtain⟨blk,h1,h2⟩:=h
 exact⟨blk,h1.other hg hne,h2⟩
theorem HA.lt {g:Nat} {m:List UInt8} {tot:UInt64} {w:World} (h:HA g m tot w):g<w.heap.size:=by
 obtain⟨blk,h1,h2⟩:=h
 exact h1.lt
theorem EW (m y:List UInt8) (h:m.length%64+y.length<64):sh (m++y)=sh m:=by
 have hm:m=m.take (64*(m.length/64))++m.drop (64*(m.length/64)):=(List.take_append_drop _ _).symm
 have hl:(m.take (64*(m.length/64))).length=64*(m.length/64):=by simp;omega
 have hd:(m.drop (64*(m.length/64))).length=m.length%64:=by simp;omega
 rw[hm,List.append_assoc,ua _ _ (by omega) (by rw[List.length_append,hd];exact h),ua _ _ (by omega) (by omega)]
theorem EX (m y:List UInt8) (h:m.length%64+y.length=64):sh (m++y)=rU (sh m) (m.drop (64*(m.length/64))++y):=by
 have hm:m=m.take (64*(m.length/64))++m.drop (64*(m.length/64)):=(List.take_append_drop _ _).symm
 have hl:(m.take (64*(m.length/64))).length=64*(m.length/64):=by simp;omega
 have hd:(m.drop (64*(m.length/64))).length=m.length%64:=by simp;omega
 have e1:sh (m++y)=sh (m.take (64*(m.length/64))++(m.drop (64*(m.length/64))++y)):=by
  rw[←List.append_assoc,List.take_append_drop]
 have e2:sh m=sh (m.take (64*(m.length/64))):=by
  conv=>lhs;rw[hm]
  exact ua _ _ (by omega) (by omega)
 rw[e1,e2,CH _ _ (by omega) (by rw[List.length_append,hd];exact h)]
def yJ (g:Nat) (v:Value):Prop:=∀a n c,v=.slice (some a) n c→a.block≠g
theorem bQ.away {l:List UInt8} {v:Value} {g:Nat} {w w':World} (h:bQ l v w) (ha:0<l.length→yJ g v) (hg:w.grownBy w' (some g)):bQ l v w':=by
 obtain⟨A,n,c,rfl,h1,h2,h3,h4,h5⟩:=h
 refine⟨A,n,c,rfl,h1,h2,h3,fun hn=>?_,h5⟩
 obtain⟨ad,rfl,hc⟩:=h4 hn
 have hlen:0<l.length:=by
  have:l.length=n:=by simpa using h3
  omega
 refine⟨ad,rfl,fun j u hu=>?_⟩
 have hb:(ad.add j).block=ad.block:=by unfold Addr.add;split<;>rfl
 exact hg.cell (hc j u hu) (by rw[hb];intro he;exact ha hlen ad n c rfl (Option.some.inj he))
theorem yK {l:List UInt8} {v:Value} {g:Nat} {w:World} (h:bQ l v w) {lo:Nat} (hlo:lo≤l.length) (ha:yJ g v):
 ∃r,(∀w':World,(Instr.sliceAt 22 v (some (I (lo:Int))) none none).run Tryz.prog w'=.ok r w')∧bQ (l.drop lo) r w∧yJ g r:=by
 obtain⟨r,hr,hb⟩:=i0 h hlo .i64
 refine⟨r,hr,hb,?_⟩
 obtain⟨A,n,c,rfl,h1,h2,h3,h4,h5⟩:=h
 have hln:lo≤n:=by
  have:l.length=n:=by simpa using h3
  omega
 have hbd:(Instr.sliceBounds true n c (some (.int .i64 (lo:Int))) none none).run Tryz.prog w=.ok (lo,n,c) w:=by
  have a2:=run_sliceBound (P:=Tryz.prog) (w:=w) .i64 (lo:Int) n .sliceB (by omega) (by omega)
  simp only[Int.toNat_natCast] at a2
  simp[Instr.sliceBounds,a2]
 have hrun:(Instr.sliceAt 22 (.slice A n c) (some (.int .i64 (lo:Int))) none none).run Tryz.prog w=.ok (.slice (if c=lo then A else A.map (·.add (lo*1))) (n-lo) (c-lo)) w:=by
  simp[Instr.sliceAt,Instr.slice,run_underlying Tryz.underlying22,hbd,dy fu]
 have e:=(hr w).symm.trans hrun
 simp only[Result.ok.injEq,and_true] at e
 subst e
 intro a n' c' he
 simp only[Value.slice.injEq] at he
 obtain⟨he,_,_⟩:=he
 split at he
 ·exact ha a n c (by rw[he])
 ·obtain⟨a0,h0,rfl⟩:=Option.map_eq_some_iff.1 he
  have:(a0.add (lo*1)).block=a0.block:=by unfold Addr.add;split<;>rfl
  rw[this]
  exact ha a0 n c (by rw[h0])
theorem EY {g:Nat} {st:List UInt32} {blk x:List UInt8} {u:Int} {tot:UInt64} {w:World} {v:Value} {ty:TypeId} {o:Nat} (h:HC g st blk u tot w) (ho:o<64) (hx:bQ x v w) (hne:0<x.length):
 ∃w',(Builtin.copy_ #[22,22] ty #[.slice (some ⟨g,8+o,none⟩) (64-o) (64-o),v]).run Tryz.prog w=.ok (I ((min x.length (64-o):Nat):Int)) w'∧w.grownBy w' (some g)∧
  HC g st (blk.take o++x.take (64-o)++blk.drop (o+min x.length (64-o))) u tot w':=by
 obtain⟨A,n,c,rfl,h1,h2,h3,h4,h5⟩:=hx
 have hxn:x.length=n:=by simpa using h3
 obtain⟨ad,rfl,hc⟩:=h4 (by omega)
 have hcs:((x.take (64-o)).map U8).length=min n (64-o):=by simp[hxn,Nat.min_comm]
 have hr:=run_copy_row (P:=Tryz.prog) w 22 22 ty 5 g (8+o) (64-o) (64-o) ad n c _ 154 ((x.take (64-o)).map U8) HF fu h.hb hcs
  (fun j u hj=>hc j u (by
    rw[List.map_take,List.getElem?_take] at hj
    split at hj
    ·exact hj
    ·cases hj)) (by rw[hcs,List.size_toArray,fT h.ls h.lb];omega) (nK _)
 rw[hcs] at hr
 refine⟨_,by rw[hxn];exact hr,bd _ _ _,?_,h.ls,?_⟩
 ·have:=h.hb.row (cu st (blk.take o++x.take (64-o)++blk.drop (o+min n (64-o))) u tot)
  rw[hxn]
  have e:((cu st blk u tot).toArray.toList.take (8+o)++(x.take (64-o)).map U8++(cu st blk u tot).toArray.toList.drop (8+o+min n (64-o)))=cu st (blk.take o++x.take (64-o)++blk.drop (o+min n (64-o))) u tot:=by
   have l8:(st.map bg).length=8:=by simp[h.ls]
   have l64:(blk.map U8).length=64:=by simp[h.lb]
   unfold cu
   rw[List.take_append,l8,List.drop_append,l8,show 8+o-8=o by omega,show 8+o+min n (64-o)-8=o+min n (64-o) by omega]
   rw[List.take_of_length_le (by omega),List.drop_eq_nil_of_le (by omega),List.nil_append]
   rw[List.take_append,l64,show o-64=0 by omega,List.take_zero,List.append_nil,List.drop_append,l64,show o+min n (64-o)-64=0 by omega,List.drop_zero]
   simp only[List.map_append,List.map_take,List.map_drop,List.append_assoc]
  rw[e]
  exact this
 ·simp only[List.length_append,List.length_take,List.length_drop,h.lb];omega
end Go.Rl
namespace Go.Rl
open Go.RowKit Go.Proofs
theorem kB:aw Tryz.prog 40:=⟨_,Tryz.func40,by kernel_rfl,rfl⟩
theorem Bm:aw Tryz.prog 39:=⟨_,Tryz.func39,by kernel_rfl,rfl⟩
theorem kC {w:World} {g:Nat} {m x:List UInt8} {tot:UInt64} {v:Value} (hh:HA g m tot w) (hx:bQ x v w) (ha:0<x.length→yJ g v):
 Calls Tryz.prog 40 #[.pointer (some ⟨g,0,none⟩),v] w (bL fun _ w'=>w.grownBy w' (some g)∧HA g (m++x) (tot+UInt64.ofNat x.length) w'):=by
 refine enter (vs:=[.pointer (some ⟨g,0,none⟩),v]) Tryz.func40 Ig Ig Ig ?_
 refine af (af (aa (ae Ig Ig ?_)))
 refine ai Ig Ig Ig (kY Tryz.underlying88) ?_
 refine ag (ab ?_)
 refine eS Ig ?_
 refine ax (ab (af (aa (ae Ig Ig ?_))))
 obtain⟨blk0,hc0,ht0⟩:=hh
 refine aQ Ig Ig ?_
 refine ah Ig Ig Gz ?_
 refine am Ig Ig (aj HD Ig hc0.cellT) ?_
 refine ae Ig Ig ?_
 refine aO Ig Ig (cc hx) ?_
 refine aN Ig Ig (dT HE HD) ?_
 refine ai Ig Ig Ig (dm) ?_
 refine aQ Ig Ig ?_
 refine ah Ig Ig Gz ?_
 have hcl0:=fT (u:=((m.length%64:Nat):Int)) (tot:=tot) hc0.ls hc0.lb
 refine az Ig Ig (dv (i:=73) xf Ig hc0.hb (by rw[List.size_toArray,hcl0];omega)) ?_
 have hc1:=hc0.setT (tot+UInt64.ofNat x.length)
 have q1:=aS w g 73 (bo (tot+UInt64.ofNat x.length))
 have hx1:=hx.away ha q1
 revert hc1 q1 hx1
 generalize w.setCell ⟨g,73,none⟩ (bo (tot+UInt64.ofNat x.length))=w1
 intro hc1 q1 hx1
 refine ag (ab (au ?_))
 refine ci (α:=Nat×Value) (fun p=>[(0,.pointer (some ⟨g,0,none⟩)),(1,p.2)])
  (fun p w'=>HA g (m++x.take p.1) (tot+UInt64.ofNat x.length) w'∧bQ (x.drop p.1) p.2 w'∧(0<(x.drop p.1).length→yJ g p.2)∧w.grownBy w' (some g)∧p.1≤x.length) (fun p=>x.length-p.1) (0,v) ⟨rfl,rfl,trivial⟩
  ⟨by simpa using⟨blk0,hc1,ht0⟩,by simpa using hx1,by simpa using ha,q1,by simp⟩ ?_
 rintro⟨k,b⟩ w2 ⟨⟨blk,hc2,ht2⟩,hb2,ha2,q2,hk⟩
 dsimp only at hc2 ht2 hb2 ha2 q2 hk
 have hm':∃m',m'=m++x.take k:=⟨_,rfl⟩
 obtain⟨m',hm'⟩:=hm'
 rw[←hm'] at hc2 ht2
 refine af (af (aa (ae Ig Ig ?_)))
 refine aO Ig Ig (cc hb2) ?_
 refine ai Ig Ig Ig (cB) ?_
 refine ag (ab ?_)
 refine bi Ig (fun h=>?_) (fun h=>?_)
 ·have hlt:0<(x.drop k).length:=by omega
  have hu:m'.length%64<64:=Nat.mod_lt _ (by omega)
  refine ax (ab (au (af ?_)))
  refine bk 9 [0,1,27,28] (by kernel_rfl) (by kernel_rfl) ?_
  refine an Ig Ig ?_
  refine bm Ig Ig ?_
  refine aA Ig Ig (fun w _=>Hk) ?_
  refine an Ig Ig ?_
  refine bm Ig Ig ?_
  refine aA Ig Ig (fun w _=>Bj) ?_
  refine av Ig Ig (fun w' hw=>aj HE Ig (hc2.ext hw).cellU) ?_
  refine j0 (a:=some (I ((m'.length%64:Nat):Int))) (b:=none) Ig Ig Ig Ig (fun w _=>FI hu) ?_
  refine an Ig Ig (bn ?_)
  intro w3 hx3
  rintro _ rfl _ rfl _ rfl _ rfl
  have hc3:=hc2.ext hx3
  obtain⟨w4,hr,q4,hc4⟩:=EY (ty:=3) hc3 hu (hb2.ext hx3) hlt
  obtain⟨n,hn⟩:∃n,n=min (x.drop k).length (64-m'.length%64):=⟨_,rfl⟩
  rw[←hn] at hr hc4
  have hxk:(x.drop k).length=x.length-k:=List.length_drop
  have hn1:n≤x.length-k:=by omega
  have hn2:m'.length%64+n≤64:=by omega
  have hn0:0<n:=by omega
  refine FU Ig Ig hr ?_
  refine ac Ig Ig (ag (ab (af (aa (ae Ig Ig ?_)))))
  refine aQ Ig Ig ?_
  refine ah Ig Ig Bj ?_
  refine am Ig Ig (aj HE Ig hc4.cellU) ?_
  refine ae Ig Ig ?_
  have e1:((m'.length%64:Nat):Int)+(n:Int)=((m'.length%64+n:Nat):Int):=by omega
  refine ai (r:=I ((m'.length%64+n:Nat):Int)) Ig Ig Ig (by rw[←e1];exact aK (by omega) (by omega)) ?_
  refine aQ Ig Ig ?_
  refine ah Ig Ig Bj ?_
  have hcl4:=fT (u:=((m'.length%64:Nat):Int)) (tot:=tot+UInt64.ofNat x.length) hc4.ls hc4.lb
  refine az Ig Ig (dv (i:=72) eW Ig hc4.hb (by rw[List.size_toArray,hcl4];omega)) ?_
  have hc5:=hc4.setU ((m'.length%64+n:Nat):Int)
  have q5:=q4.trans (aS w4 g 72 (I ((m'.length%64+n:Nat):Int)))
  revert hc5 q5
  generalize w4.setCell ⟨g,72,none⟩ (I ((m'.length%64+n:Nat):Int))=w5
  intro hc5 q5
  have hb5:=(hb2.ext hx3).away ha2 q5
  have q25:=(q2.trans (dB hx3)).trans q5
  refine ag (ab (af (aa (ae Ig Ig (ae Ig Ig ?_)))))
  obtain⟨b6,hr6,hb6,ha6⟩:=yK hb5 (lo:=n) (by omega) (ha2 hlt)
  rw[List.drop_drop] at hb6
  refine db (a:=some (I (n:Int))) (b:=none) Ig Ig Ig Ig Ig (hr6 _) ?_
  refine ac Ig Ig (ag (ab (af (aa (ae Ig Ig ?_)))))
  refine aQ Ig Ig ?_
  refine ah Ig Ig Bj ?_
  refine am Ig Ig (aj HE Ig hc5.cellU) ?_
  refine ai Ig Ig Ig (bJ) ?_
  refine ag (ab ?_)
  have hyl:((x.drop k).take (64-m'.length%64)).length=n:=by rw[List.length_take,hn,Nat.min_comm]
  have hyn:(x.drop k).take (64-m'.length%64)=(x.drop k).take n:=by
   rw[hn]
   rcases Nat.le_total (x.drop k).length (64-m'.length%64) with h1|h1
   ·rw[Nat.min_eq_left h1,List.take_of_length_le h1,List.take_length]
   ·rw[Nat.min_eq_right h1]
  have hmy:m++x.take (k+n)=m'++(x.drop k).take (64-m'.length%64):=by
   rw[hyn,hm',List.append_assoc,←List.take_add]
  obtain⟨y,hy⟩:∃y,y=(x.drop k).take (64-m'.length%64):=⟨_,rfl⟩
  rw[←hy] at hc5 hyl hmy
  have hmd:(m'.drop (64*(m'.length/64))).length=m'.length%64:=by rw[List.length_drop];omega
  have hml:(m'++y).length=m'.length+n:=by rw[List.length_append,hyl]
  refine bi Ig (fun h=>?_) (fun h=>?_)
  ·have hfull:m'.length%64+n=64:=by omega
   refine aa (ae Ig Ig ?_)
   refine ak uN Ig Ig (uO hc5) ?_
   rintro _ w6 ⟨q6,hc6⟩
   refine ag (aM ?_)
   refine bP (k+n,b6) ⟨rfl,rfl,trivial⟩ ⟨?_,hb6.away (fun _=>ha6) q6,fun _=>ha6,q25.trans q6,by show k+n≤x.length;omega⟩ (by show x.length-(k+n)<x.length-k;omega)
   show HA g (m++x.take (k+n)) _ w6
   rw[hmy]
   have e0:(m'++y).length%64=0:=by rw[hml];omega
   have hd0:blk.drop (m'.length%64+n)=[]:=List.drop_eq_nil_of_le (by rw[hc2.lb];omega)
   rw[hd0,List.append_nil] at hc6
   have hdd:(m'++y).drop (64*((m'++y).length/64))=[]:=List.drop_eq_nil_of_le (by omega)
   refine⟨blk.take (m'.length%64)++y,?_,by rw[e0,hdd,List.take_zero]⟩
   rw[e0,EX m' y (by omega),←ht2]
   exact hc6
  ·have hpart:m'.length%64+n<64:=by omega
   refine ax (aM ?_)
   refine bP (k+n,b6) ⟨rfl,rfl,trivial⟩ ⟨?_,hb6,fun _=>ha6,q25,by show k+n≤x.length;omega⟩ (by show x.length-(k+n)<x.length-k;omega)
   show HA g (m++x.take (k+n)) _ w5
   rw[hmy]
   have e0:(m'++y).length%64=m'.length%64+n:=by rw[hml];omega
   have e2:(m'++y).length/64=m'.length/64:=by rw[hml];omega
   refine⟨_,by rw[e0,EW m' y (by omega)];exact hc5,?_⟩
   rw[e0,e2,List.drop_append_of_le_length (by omega),←ht2]
   rw[List.take_append_of_le_length (by rw[List.length_append,List.length_take,hc2.lb,hyl];omega)]
   exact List.take_of_length_le (by rw[List.length_append,List.length_take,hc2.lb,hyl];omega)
 ·have hk':k=x.length:=by
   have:(x.drop k).length=x.length-k:=List.length_drop
   omega
  refine ba (aC (aC (aY ?_)))
  refine fq Ig ?_
  refine⟨_,rfl,q2,?_⟩
  rw[hk',List.take_length] at hm'
  rw[hm'] at hc2 ht2
  exact⟨blk,hc2,ht2⟩
theorem Bn (w:World):Calls Tryz.prog 39 #[] w (bL fun r w'=>aE w w'∧∃g,w.heap.size≤g∧r=.pointer (some ⟨g,0,none⟩)∧HA g [] 0 w'):=by
 refine enter (vs:=[]) Tryz.func39 Ig Ig Ig ?_
 refine af (aa (ac Ig Ig (ag (ab (af (aa ?_))))))
 refine bA Ig Ig (run_build _ _ _ (iv.map bg).toArray (by kernel_rfl)) ?_
 refine bA Ig Ig (run_build _ _ _ (cu iv (List.replicate 64 0) 0 0).toArray (by kernel_rfl)) ?_
 obtain⟨g,w1,hr,n1,x1,b1⟩:=DF (P:=Tryz.prog) (w:=w) (t:=154) (v:=.agg (cu iv (List.replicate 64 0) 0 0).toArray) (l:=cu iv (List.replicate 64 0) 0 0) rfl
 refine cI Ig Ig hr ?_
 refine ac Ig Ig (ag (ab (ay ?_)))
 refine aD Ig Ig ?_
 exact⟨_,rfl,x1,g,n1,rfl,List.replicate 64 0,⟨b1,rfl,by simp⟩,rfl⟩
theorem HC.ldH {g:Nat} {st:List UInt32} {blk:List UInt8} {u:Int} {tot:UInt64} {w:World} (h:HC g st blk u tot w):(Instr.loadAt 154 (.pointer (some ⟨g,0,none⟩))).run Tryz.prog w=.ok (.agg (cu st blk u tot).toArray) w:=
 kO (m:=cu st blk u tot) h.hb (fun j v hj=>by rwa [Nat.zero_add]) Ic rfl (by rw[fT h.ls h.lb];exact tt)
theorem Hl {st:List UInt32} {blk:List UInt8} {u:Int} {tot:UInt64}:∀v∈cu st blk u tot,v.oneCell'=true:=by
 intro v hv
 unfold cu at hv
 rcases List.mem_append.1 hv with h|h
 ·exact i6 _ v h
 ·rcases List.mem_append.1 h with h|h
  ·exact nK _ v h
  ·simp only[List.mem_cons,List.not_mem_nil,or_false] at h
   rcases h with rfl|rfl<;>rfl
end Go.Rl
namespace Go.Rl
open Go.RowKit Go.Proofs
theorem Bo:aw Tryz.prog 42:=⟨_,Tryz.func42,by kernel_rfl,rfl⟩
theorem GA:(Tryz.prog.info? 155).map (·.zero)=some (some (.agg (List.replicate 8 (U8 0)).toArray)):=by kernel_rfl
theorem xh {g k:Nat} {v:Value} (h:v.ownBlock=some k) (hne:k≠g):yJ g v:=by
 rintro a n c rfl
 intro he
 have:some a.block=some k:=h
 exact hne (by rw[←Option.some.inj this];exact he)
theorem EZ (n:UInt64) {i:Nat} (hi:i<8):(vZ n).getD i 0=(n>>>UInt64.ofNat (56-8*i)).toUInt8:=by
 simp[vZ,hi]
section
variable {w:World} {g o:Nat} {T:TypeId}
theorem GB (i:Nat) (hi:i<8):(Instr.indexAt 155 (.pointer (some ⟨g,0,none⟩)) (I (i:Int))).run Tryz.prog w=.ok (.pointer (some ⟨g,i,none⟩)) w:=by
 have:=y7 (P:=Tryz.prog) (w:=w) (g:=g) (o:=0) Tryz.underlying155 fu hi .i64
 rwa [Nat.zero_add] at this
theorem GC:(Instr.sliceAt 155 (.pointer (some ⟨g,0,none⟩)) none none none).run Tryz.prog w=.ok (.slice (some ⟨g,0,none⟩) 8 8) w:=by
 simp[Instr.sliceAt,run_underlying Tryz.underlying155,Instr.sureAddr,Instr.sliceBounds,dy fu,Addr.add_mid]
theorem bI.bts {m:List UInt8} (h:bI g T (m.map U8) w) (hm:m.length≤64):bQ m (.slice (some ⟨g,0,none⟩) m.length m.length) w:=
 ⟨_,_,_,rfl,Nat.le_refl _,by unfold maxLen;omega,by simp,fun _=>⟨_,rfl,fun j v hj=>by rw[Addr.add_mid,Nat.zero_add];exact h.cell hj⟩,fun h=>by cases h⟩
end
theorem Bp {w:World} {g:Nat} {m:List UInt8} (hh:HA g m (UInt64.ofNat m.length) w):
 Calls Tryz.prog 42 #[.pointer (some ⟨g,0,none⟩)] w (bL fun r w'=>aE w w'∧r=.agg ((gM m).map U8).toArray):=by
 obtain⟨blk,hc,ht⟩:=hh
 refine enter (vs:=[.pointer (some ⟨g,0,none⟩)]) Tryz.func42 Ig Ig Ig ?_
 obtain⟨g2,w1,hr,n2,x1,b2⟩:=aR (P:=Tryz.prog) (w:=w) (l:=(List.replicate 32 0).map U8) dt rfl
 refine af (aa (aU Ig hr (ag (ab (af (af (aa (ae Ig Ig ?_))))))))
 refine ai Ig Ig Ig (kY Tryz.underlying88) ?_
 refine ag (ab ?_)
 refine eS Ig ?_
 refine ax (ab (af (aa (ae Ig Ig ?_))))
 refine aQ Ig Ig ?_
 refine am Ig Ig (hc.ext x1).ldH ?_
 obtain⟨g3,w2,hr,n3,x2,b3⟩:=aR (P:=Tryz.prog) (w:=w1) (l:=cu (List.replicate 8 0) (List.replicate 64 0) 0 0) Bi rfl
 refine aU Ig hr ?_
 have hl:=fT (u:=((m.length%64:Nat):Int)) (tot:=UInt64.ofNat m.length) hc.ls hc.lb
 refine az Ig Ig (gw b3 (by rw[hl];rfl) (by rw[hl];exact tt) Hl) ?_
 have hA:HA g3 m (UInt64.ofNat m.length) (w2.setRow g3 (cu (sh m) blk ((m.length%64:Nat):Int) (UInt64.ofNat m.length)).toArray):=⟨blk,⟨b3.row _,hc.ls,hc.lb⟩,ht⟩
 have q3:=bd w2 g3 (cu (sh m) blk ((m.length%64:Nat):Int) (UInt64.ofNat m.length)).toArray
 have l23:g2<g3:=Nat.lt_of_lt_of_le b2.lt n3
 have ne23:some g2≠some g3:=fun h=>by cases h;omega
 have hw3:w.heap.size≤g3:=by omega
 have B2:=(b2.ext x2).other q3 ne23
 have E3:=(x1.trans x2).of_new q3 hw3
 revert hA B2 E3
 generalize w2.setRow g3 (cu (sh m) blk ((m.length%64:Nat):Int) (UInt64.ofNat m.length)).toArray=w3
 intro hA B2 E3
 refine ag (ab (af (aa ?_)))
 refine ah Ig Ig Gz ?_
 obtain⟨blk',hcA,htA⟩:=id hA
 refine am Ig Ig (aj HD Ig hcA.cellT) ?_
 refine ai (v:=bo 8) Ig Ig Ig (gD) ?_
 refine ac Ig Ig (ag (ab (af (aa ?_))))
 obtain⟨r4,w4,hr,x4,o4,ob4⟩:=ej (w:=w3) w3.heap.size [128] (by simp) (Nat.le_refl _)
 refine aH (vs:=[(0,U8 128)]) Ig Ig hr ?_
 refine ak kB Ig Ig (kC (hA.ext x4) o4.bts (fun _=>xh ob4 (by have:=hA.lt;omega))) ?_
 rintro _ w5 ⟨q5,h5⟩
 have B5:=(B2.ext x4).other q5 ne23
 have E5:=(E3.trans x4).of_new q5 hw3
 refine ag (ab ?_)
 have hp:fP m.length<64:=by unfold fP;omega
 refine af (ff (fun _:Unit=>[(2,.pointer (some ⟨g2,0,none⟩)),(3,.pointer (some ⟨g3,0,none⟩)),(4,bo (UInt64.ofNat m.length*8))]) (fun _ w'=>aE w w'∧bI g2 24 ((List.replicate 32 0).map U8) w'∧∃tot,HA g3 (m++[128]++List.replicate (fP m.length) 0) tot w') ?_ ?_)
 ·refine au ?_
  refine ci (α:=Nat) (fun _=>[(2,.pointer (some ⟨g2,0,none⟩)),(3,.pointer (some ⟨g3,0,none⟩)),(4,bo (UInt64.ofNat m.length*8))])
   (fun k w'=>aE w w'∧bI g2 24 ((List.replicate 32 0).map U8) w'∧(∃tot,HA g3 (m++[128]++List.replicate k 0) tot w')∧k≤fP m.length) (fun k=>fP m.length-k) 0 ⟨rfl,rfl,rfl,trivial⟩
   ⟨E5,B5,⟨_,by simpa using h5⟩,by omega⟩ ?_
  rintro k w6 ⟨E6,B6,⟨tot,h6⟩,hk⟩
  obtain⟨blk6,hc6,ht6⟩:=id h6
  have hm:(m++[128]++List.replicate k 0).length=m.length+1+k:=by simp;omega
  refine af (af (aa ?_))
  refine ah Ig Ig Bj ?_
  refine am Ig Ig (aj HE Ig hc6.cellU) ?_
  refine ai Ig Ig Ig (dA) ?_
  refine ag (ab ?_)
  rw[hm]
  refine bi Ig (fun h=>?_) (fun h=>?_)
  ·have hlt:k<fP m.length:=by
    rcases Nat.lt_or_ge k (fP m.length) with h1|h1
    ·exact h1
    ·have:k=fP m.length:=by omega
     subst this
     exfalso
     unfold fP at h
     omega
   refine ax (ab (au (aa ?_)))
   obtain⟨r7,w7,hr,x7,o7,ob7⟩:=ej (w:=w6) w6.heap.size [0] (by simp) (Nat.le_refl _)
   refine aH (vs:=[(0,U8 0)]) Ig Ig hr ?_
   refine ak kB Ig Ig (kC (h6.ext x7) o7.bts (fun _=>xh ob7 (by have:=h6.lt;omega))) ?_
   rintro _ w8 ⟨q8,h8⟩
   refine ag (aM ?_)
   rw[List.append_assoc _ (List.replicate k 0) [0],←List.replicate_succ'] at h8
   exact bP (k+1) ⟨rfl,rfl,rfl,trivial⟩ ⟨(E6.trans x7).of_new q8 hw3,(B6.ext x7).other q8 ne23,⟨_,h8⟩,hlt⟩ (by omega)
  ·have hk':k=fP m.length:=by
    unfold fP at hk hp⊢
    omega
   subst hk'
   exact ba (aC (aC (aY (cA () ⟨rfl,rfl,rfl,trivial⟩ ⟨E6,B6,tot,h6⟩))))
 rintro _ w6 ⟨E6,B6,tot6,h6⟩
 refine ab (af (aa ?_))
 obtain⟨bits,hbits⟩:∃b,b=UInt64.ofNat m.length*8:=⟨_,rfl⟩
 rw[←hbits]
 have hb8:=uM bits
 obtain⟨g5,w7,hr,n5,x7,b7⟩:=aR (P:=Tryz.prog) (w:=w6) (l:=(eH (vZ bits) 8 0).map U8) GA rfl
 refine aU Ig hr (ag (ab ?_))
 have l35:g3<g5:=Nat.lt_of_lt_of_le h6.lt n5
 have ne25:some g2≠some g5:=fun h=>by cases h;omega
 have ne35:some g3≠some g5:=fun h=>by cases h;omega
 refine af (ff (fun _:Unit=>[(2,.pointer (some ⟨g2,0,none⟩)),(3,.pointer (some ⟨g3,0,none⟩)),(5,.pointer (some ⟨g5,0,none⟩))]) (fun _ w'=>w7.grownBy w' (some g5)∧bI g5 155 ((vZ bits).map U8) w') ?_ ?_)
 ·refine af (aa (ae Ig Ig (ag (ab (au ?_)))))
  refine ci (α:=Nat) (fun i=>[(2,.pointer (some ⟨g2,0,none⟩)),(3,.pointer (some ⟨g3,0,none⟩)),(4,bo bits),(5,.pointer (some ⟨g5,0,none⟩)),(27,I (i:Int))])
   (fun i w'=>w7.grownBy w' (some g5)∧bI g5 155 ((eH (vZ bits) 8 i).map U8) w'∧i≤8) (fun i=>8-i) 0 ⟨rfl,rfl,rfl,rfl,rfl,trivial⟩
   ⟨dB (aE.refl _),b7,by omega⟩ ?_
  rintro i w8 ⟨q8,b8,hi⟩
  refine af (aa ?_)
  refine ai Ig Ig Ig (bb) ?_
  refine ag (ab (af ?_))
  refine bi Ig (fun h=>?_) (fun h=>?_)
  ·have hi8:i<8:=by omega
   have hfl:=iS (j:=i) hb8 (by omega)
   have e6:(56:Int)-8*(i:Int)=((56-8*i:Nat):Int):=by omega
   refine ax (ab (af (au (af (aa (ae Ig Ig (ac Ig Ig (ag (ab (aa (ae Ig Ig (ae Ig Ig (ae Ig Ig ?_)))))))))))))
   refine ai Ig Ig Ig (en (by omega) (by omega)) ?_
   refine ai (r:=I ((56-8*i:Nat):Int)) Ig Ig Ig (by rw[←e6];exact aV (by omega) (by omega)) ?_
   refine ai Ig Ig Ig (cK (56-8*i) (by omega)) ?_
   refine aN Ig Ig (jH HD HH) ?_
   refine aq Ig Ig Ig (GB i hi8) ?_
   refine az Ig Ig (tq b8 i (by omega)) ?_
   have b9:=b8.setB i (bits>>>UInt64.ofNat (56-8*i)).toUInt8
   have hset:(eH (vZ bits) 8 i).set i (bits>>>UInt64.ofNat (56-8*i)).toUInt8=eH (vZ bits) 8 (i+1):=by
    rw[←EZ bits hi8]
    exact iT hb8 hi8
   rw[hset] at b9
   refine ag (aM (ab (aa ?_)))
   refine ai Ig Ig Ig (aK (by omega) (by omega)) ?_
   refine ae Ig Ig (ag ?_)
   exact bP (i+1) ⟨rfl,rfl,rfl,rfl,rfl,trivial⟩ ⟨q8.trans (aS w8 g5 i _),b9,by omega⟩ (by omega)
  ·have hi':i=8:=by omega
   subst hi'
   rw[oB hb8] at b8
   exact ba (aC (aC (aY (cA () ⟨rfl,rfl,rfl,trivial⟩ ⟨q8,b8⟩))))
 rintro _ w8 ⟨q8,b8⟩
 have E8:aE w w8:=(E6.trans x7).of_new q8 (by omega)
 have B8:=(B6.ext x7).other q8 ne25
 have h8:=(h6.ext x7).other q8 ne35
 refine ab (af (aa ?_))
 refine db (a:=none) (b:=none) Ig Ig Ig Ig Ig GC ?_
 have bt8:=b8.bts (by omega)
 rw[hb8] at bt8
 refine ak kB rfl rfl (kC h8 bt8 (by rintro _ a n c he;cases he;show g5≠g3;omega)) ?_
 rintro _ w9 ⟨q9,h9⟩
 have hpad:m++[128]++List.replicate (fP m.length) 0++vZ bits=dQ m:=by rw[hbits];rfl
 rw[hpad] at h9
 have E9:=E8.of_new q9 hw3
 have B9:=B8.other q9 ne23
 refine ag (ab (af (aa ?_)))
 obtain⟨g7,w10,hr,n7,x10,b10⟩:=aR (P:=Tryz.prog) (w:=w9) (l:=(eH (gM m) 32 0).map U8) dt rfl
 refine aU Ig hr (ag (ab ?_))
 obtain⟨blk9,hc9,_⟩:=h9.ext x10
 have l37:g3<g7:=Nat.lt_of_lt_of_le h9.lt n7
 have ne27:some g2≠some g7:=fun h=>by cases h;omega
 have hs8:=CG (dQ m)
 have hdl:=bW m
 refine af (ff (fun _:Unit=>[(2,.pointer (some ⟨g2,0,none⟩)),(7,.pointer (some ⟨g7,0,none⟩))]) (fun _ w'=>w10.grownBy w' (some g7)∧bI g7 24 ((gM m).map U8) w') ?_ ?_)
 ·refine af (aa ?_)
  refine ah Ig Ig EV ?_
  refine am Ig Ig hc9.ldS ?_
  refine ae Ig Ig (ag (ab (au ?_)))
  refine ci (α:=Nat) (fun i=>[(2,.pointer (some ⟨g2,0,none⟩)),(7,.pointer (some ⟨g7,0,none⟩)),(42,.agg ((sh (dQ m)).map bg).toArray),(43,I (i:Int))])
   (fun i w'=>w10.grownBy w' (some g7)∧bI g7 24 ((eH (gM m) 32 (4*i)).map U8) w'∧i≤8) (fun i=>8-i) 0 ⟨rfl,rfl,rfl,rfl,trivial⟩
   ⟨dB (aE.refl _),b10,by omega⟩ ?_
  rintro i w11 ⟨q11,b11,hi⟩
  refine af (aa ?_)
  refine ai Ig Ig Ig (bb) ?_
  refine ag (ab (af ?_))
  refine bi Ig (fun h=>?_) (fun h=>?_)
  ·have hi8:i<8:=by omega
   have e0:(4:Int)*(i:Int)=((4*i:Nat):Int):=by omega
   have e1:((4*i:Nat):Int)+1=((4*i+1:Nat):Int):=by omega
   have e2:((4*i:Nat):Int)+2=((4*i+2:Nat):Int):=by omega
   have e3:((4*i:Nat):Int)+3=((4*i+3:Nat):Int):=by omega
   have s0:=iS (j:=4*i) hdl (by omega)
   have s1:=iS (j:=4*i+1) hdl (by omega)
   have s2:=iS (j:=4*i+2) hdl (by omega)
   have s3:=iS (j:=4*i+3) hdl (by omega)
   refine ax (ab (af (au (af (aa (ae Ig Ig ?_))))))
   refine jY Ig Ig Ig (BW (l:=(sh (dQ m)).map bg) H4 dx HB hi8 .i64 (rF (by omega))) ?_
   refine ac Ig Ig (ac Ig Ig (ag (ab (aa (ae Ig Ig ?_)))))
   refine ai (r:=I ((4*i:Nat):Int)) Ig Ig Ig (by rw[←e0];exact en (by omega) (by omega)) ?_
   refine ae Ig Ig ?_
   refine ai (r:=I ((4*i:Nat):Int)) Ig Ig Ig (by rw[←e0];exact en (by omega) (by omega)) ?_
   refine ai (r:=I ((4*i+1:Nat):Int)) Ig Ig Ig (by rw[←e1];exact aK (by omega) (by omega)) ?_
   refine ae Ig Ig ?_
   refine ai (r:=I ((4*i:Nat):Int)) Ig Ig Ig (by rw[←e0];exact en (by omega) (by omega)) ?_
   refine ai (r:=I ((4*i+2:Nat):Int)) Ig Ig Ig (by rw[←e2];exact aK (by omega) (by omega)) ?_
   refine ae Ig Ig ?_
   refine ai (r:=I ((4*i:Nat):Int)) Ig Ig Ig (by rw[←e0];exact en (by omega) (by omega)) ?_
   refine ai (r:=I ((4*i+3:Nat):Int)) Ig Ig Ig (by rw[←e3];exact aK (by omega) (by omega)) ?_
   refine ae Ig Ig ?_
   refine ai Ig Ig Ig (ck 24 (by omega)) ?_
   refine aN Ig Ig (dh HB HH) ?_
   refine ae Ig Ig ?_
   refine ai Ig Ig Ig (ck 16 (by omega)) ?_
   refine aN Ig Ig (dh HB HH) ?_
   refine ae Ig Ig ?_
   refine ai Ig Ig Ig (ck 8 (by omega)) ?_
   refine aN Ig Ig (dh HB HH) ?_
   refine ae Ig Ig ?_
   refine aN Ig Ig (dh HB HH) ?_
   have d0:(gM m).getD (4*i) 0=((sh (dQ m)).getD i 0>>>UInt32.ofNat 24).toUInt8:=jR (sh (dQ m)) i 0 (by omega) (by omega)
   have d1:(gM m).getD (4*i+1) 0=((sh (dQ m)).getD i 0>>>UInt32.ofNat 16).toUInt8:=jR (sh (dQ m)) i 1 (by omega) (by omega)
   have d2:(gM m).getD (4*i+2) 0=((sh (dQ m)).getD i 0>>>UInt32.ofNat 8).toUInt8:=jR (sh (dQ m)) i 2 (by omega) (by omega)
   have d3:(gM m).getD (4*i+3) 0=((sh (dQ m)).getD i 0).toUInt8:=by
    have:=jR (sh (dQ m)) i 3 (by omega) (by omega)
    rw[show UInt32.ofNat (24-8*3)=0 from rfl,UInt32.shiftRight_zero] at this
    exact this
   have f0:(eH (gM m) 32 (4*i)).set (4*i) ((gM m).getD (4*i) 0)=eH (gM m) 32 (4*i+1):=iT hdl (by omega)
   have f1:(eH (gM m) 32 (4*i+1)).set (4*i+1) ((gM m).getD (4*i+1) 0)=eH (gM m) 32 (4*i+2):=iT hdl (by omega)
   have f2:(eH (gM m) 32 (4*i+2)).set (4*i+2) ((gM m).getD (4*i+2) 0)=eH (gM m) 32 (4*i+3):=iT hdl (by omega)
   have f3:(eH (gM m) 32 (4*i+3)).set (4*i+3) ((gM m).getD (4*i+3) 0)=eH (gM m) 32 (4*(i+1)):=iT hdl (by omega)
   rw[d0] at f0
   rw[d1] at f1
   rw[d2] at f2
   rw[d3] at f3
   refine aq Ig Ig Ig (rE (4*i) (by omega)) ?_
   refine az Ig Ig (tq b11 (4*i) (by omega)) ?_
   have b12:=b11.setB (4*i) ((sh (dQ m)).getD i 0>>>UInt32.ofNat 24).toUInt8
   rw[f0] at b12
   refine aq Ig Ig Ig (rE (4*i+1) (by omega)) ?_
   refine az Ig Ig (tq b12 (4*i+1) (by omega)) ?_
   have b13:=b12.setB (4*i+1) ((sh (dQ m)).getD i 0>>>UInt32.ofNat 16).toUInt8
   rw[f1] at b13
   refine aq Ig Ig Ig (rE (4*i+2) (by omega)) ?_
   refine az Ig Ig (tq b13 (4*i+2) (by omega)) ?_
   have b14:=b13.setB (4*i+2) ((sh (dQ m)).getD i 0>>>UInt32.ofNat 8).toUInt8
   rw[f2] at b14
   refine aq Ig Ig Ig (rE (4*i+3) (by omega)) ?_
   refine az Ig Ig (tq b14 (4*i+3) (by omega)) ?_
   have b15:=b14.setB (4*i+3) ((sh (dQ m)).getD i 0).toUInt8
   rw[f3] at b15
   refine ag (aM (ab (aa ?_)))
   refine ai Ig Ig Ig (aK (by omega) (by omega)) ?_
   refine ae Ig Ig (ag ?_)
   exact bP (i+1) ⟨rfl,rfl,rfl,rfl,trivial⟩ ⟨(((q11.trans (aS _ g7 (4*i) _)).trans (aS _ g7 (4*i+1) _)).trans (aS _ g7 (4*i+2) _)).trans (aS _ g7 (4*i+3) _),b15,by omega⟩ (by omega)
  ·have hi':i=8:=by omega
   subst hi'
   rw[show 4*8=32 from rfl,oB hdl] at b11
   exact ba (aC (aC (aY (cA () ⟨rfl,rfl,trivial⟩ ⟨q11,b11⟩))))
 rintro _ w11 ⟨q11,b11⟩
 have hsz:(Tryz.prog.info? 24).map (·.size)=some ((gM m).map U8).length:=by rw[List.length_map,bW];exact fS
 have F2:=(B9.ext x10).other q11 ne27
 have E11:aE w w11:=(E9.trans x10).of_new q11 (by omega)
 refine ab (af (aa ?_))
 refine am Ig Ig (kO (m:=(gM m).map U8) b11 (fun j v h=>by rwa [Nat.zero_add]) HS Ig hsz) ?_
 refine az Ig Ig (gw F2 (by simp[bW]) hsz (nK _)) ?_
 refine ag (ab (ay ?_))
 refine eo Ig Ig (F2.row _) HS Ig hsz ?_
 exact⟨_,rfl,E11.of_new (bd _ _ _) n2,rfl⟩
end Go.Rl
namespace Go.Rl
open Go.RowKit Go.Proofs
theorem rG {P:Program} {w:World} {e:TypeId} (he:P.underlying e=some (.int .u8)) (d:Nat) (l m:List UInt8):∀(is:List Nat),(∀i∈is,i<l.length∧i<m.length)→
 (Op.eqItems (d+1) e 1 (l.map U8).toArray (m.map U8).toArray is).run P w=.ok (is.all fun i=>decide (l.getD i 0=m.getD i 0)) w
 |[],_=>rfl
 |i::is,h=>by
  obtain⟨hi,hj⟩:=h i (by simp)
  have hagg:(isAgg e).run P w=.ok false w:=by simp[isAgg,run_underlying he]
  have hpart:(part e (l.map U8).toArray (i*1)).run P w=.ok (U8 l[i]) w:=by simp[part,hagg,hi]
  have hpart':(part e (m.map U8).toArray (i*1)).run P w=.ok (U8 m[i]) w:=by simp[part,hagg,hj]
  have heq:(Op.equalIn (d+1) e (U8 l[i]) (U8 m[i])).run P w=.ok (decide (l[i]=m[i])) w:=by
   have:(decide ((l[i].toNat:Int)=(m[i].toNat:Int)))=decide (l[i]=m[i]):=by
    rw[decide_eq_decide]
    constructor
    ·intro h;exact UInt8.toNat_inj.1 (by omega)
    ·intro h;rw[h]
   rw[←this]
   simp[Op.equalIn,run_underlying he,U8]
   rfl
  have ih:=rG (w:=w) he d l m is fun j hj=>h j (by simp[hj])
  unfold Op.eqItems
  simp only[Sem.run_bind,hpart,hpart',Result.andThen_ok,heq]
  have e1:l.getD i 0=l[i]:=by simp[List.getD,hi]
  have e2:m.getD i 0=m[i]:=by simp[List.getD,hj]
  by_cases hq:l[i]=m[i]
  ·simp only[List.all_cons,e1,e2,hq,decide_true,Bool.true_and]
   simpa using ih
  ·simp only[List.all_cons,e1,e2,hq,decide_false,Bool.false_and]
   rfl
theorem Bq {l m:List UInt8} {n:Nat} (hl:l.length=n) (hm:m.length=n):((List.range n).all fun i=>decide (l.getD i 0=m.getD i 0))=decide (l=m):=by
 rw[Bool.eq_iff_iff]
 simp only[List.all_eq_true,List.mem_range,decide_eq_true_eq]
 constructor
 ·intro h
  refine List.ext_getElem (by omega) fun i h1 h2=>?_
  have:=h i (by omega)
  simpa [List.getD,h1,h2] using this
 ·rintro rfl i _;rfl
theorem xi {P:Program} {w:World} {t:TypeId} {x y:Operand} {a b:Array Value} (hg:P.eqGuardType P.depth t=false):(bin .eql t x y (.agg a) (.agg b)).run P w=(do pure (Value.bool (←Op.equal t (.agg a) (.agg b))):Sem Value).run P w:=by
 show(do eqGuard .eql t x y (.agg a) (.agg b);binOp .eql t (.agg a) (.agg b):Sem Value).run P w=_
 rw[Sem.run_bind,run_eqGuard_agg (hm:=hg)]
 rfl
theorem xj {P:Program} {w:World} {t:TypeId} {x y:Operand} {a b:Array Value} (hg:P.eqGuardType P.depth t=false):(bin .neq t x y (.agg a) (.agg b)).run P w=(do pure (Value.bool (!(←Op.equal t (.agg a) (.agg b)))):Sem Value).run P w:=by
 show(do eqGuard .neq t x y (.agg a) (.agg b);binOp .neq t (.agg a) (.agg b):Sem Value).run P w=_
 rw[Sem.run_bind,run_eqGuard_agg (hm:=hg)]
 rfl
theorem zK:Tryz.prog.eqGuardType Tryz.prog.depth 24=false:=by kernel_rfl
theorem zL {w:World} {l m:List UInt8} (hl:l.length=32) (hm:m.length=32):(Op.equal 24 (.agg (l.map U8).toArray) (.agg (m.map U8).toArray)).run Tryz.prog w=.ok (decide (l=m)) w:=by
 show(Op.equalIn (9998+1+1) 24 _ _).run Tryz.prog w=_
 obtain⟨i,hi,_⟩:=info_parts lJ
 rw[run_equalIn_array _ _ _ _ HS hi]
 have hc:Tryz.prog.cellsOf 5=1:=by kernel_rfl
 rw[hc,rG Tryz.underlying5 9998 l m _ fun i hi=>by rw[hl,hm];simpa using hi]
 rw[Bq hl hm]
theorem Hm {w:World} {x y:Operand} {l m:List UInt8} (hl:l.length=32) (hm:m.length=32):(bin .eql 24 x y (.agg (l.map U8).toArray) (.agg (m.map U8).toArray)).run Tryz.prog w=.ok (B (decide (l=m))) w:=by
 rw[xi zK,Sem.run_bind,zL hl hm];rfl
theorem Hn {w:World} {x y:Operand} {l m:List UInt8} (hl:l.length=32) (hm:m.length=32):(bin .neq 24 x y (.agg (l.map U8).toArray) (.agg (m.map U8).toArray)).run Tryz.prog w=.ok (B (decide (l≠m))) w:=by
 rw[xj zK,Sem.run_bind,zL hl hm]
 show Result.ok (B (!decide (l=m))) w=_
 rw[decide_not]
theorem rH {w:World} {x y:Operand} {l:List UInt8} (hl:l.length=32):(bin .eql 24 x y (.agg (l.map U8).toArray) (.agg (l.map U8).toArray)).run Tryz.prog w=.ok (B true) w:=by
 rw[Hm hl hl];simp
theorem oC:aw Tryz.prog 52:=⟨_,Tryz.func52,by kernel_rfl,rfl⟩
theorem bQ.old {l:List UInt8} {v:Value} {w:World} (h:bQ l v w) {g:Nat} (hg:w.heap.size≤g):0<l.length→yJ g v:=fun h0 a n c he=>by
 obtain⟨A,n',c',rfl,h1,h2,h3,h4,h5⟩:=h
 have hn:l.length=n':=by simpa using h3
 obtain⟨ad,rfl,hc⟩:=h4 (by omega)
 simp only[Value.slice.injEq,Option.some.injEq] at he
 obtain⟨rfl,_,_⟩:=he
 have h6:=hc 0 (U8 l[0]) (by simp[h0])
 rw[iX] at h6
 have:ad.block<w.heap.size:=by
  rcases Nat.lt_or_ge ad.block w.heap.size with h7|h7
  ·exact h7
  ·simp[World.cell?,Array.getElem?_eq_none h7] at h6
 omega
end Go.Rl
namespace Go.Rl
open Go.RowKit Go.Proofs
theorem oD {w:World} {l:List UInt8} {v:Value} (hv:bQ l v w):
 Calls Tryz.prog 52 #[v] w (bL fun r w'=>aE w w'∧r=.agg ((gM l).map U8).toArray):=by
 refine enter (vs:=[v]) Tryz.func52 Ig Ig Ig ?_
 obtain⟨g2,w1,hr,n2,x1,b2⟩:=aR (P:=Tryz.prog) (w:=w) (l:=(List.replicate 32 0).map U8) dt rfl
 refine af (aa (aU Ig hr (ag (ab (af (aa ?_))))))
 refine ak (vs:=[]) Bm Ig Ig (Bn w1) ?_
 rintro _ w2 ⟨x2,g,hg,rfl,hA⟩
 refine ac Ig Ig (ag (ab (af (aa (ae Ig Ig (ae Ig Ig ?_))))))
 have e2:=x1.trans x2
 refine ak kB Ig Ig (kC hA (hv.ext e2) (hv.old (Nat.le_trans x1.size hg))) ?_
 rintro _ w3 ⟨q3,h3⟩
 rw[List.nil_append,UInt64.zero_add] at h3
 have l2:g2<g:=Nat.lt_of_lt_of_le b2.lt hg
 have hwg:w.heap.size≤g:=by omega
 have e3:=e2.of_new q3 hwg
 have B3:=(b2.ext x2).other q3 (fun h=>by cases h;omega)
 refine ag (ab (af (aa (ae Ig Ig ?_))))
 refine ak Bo Ig Ig (Bp h3) ?_
 rintro _ w4 ⟨x4,rfl⟩
 have hsz:(Tryz.prog.info? 24).map (·.size)=some ((gM l).map U8).length:=by rw[List.length_map,bW];exact fS
 have B4:=B3.ext x4
 refine az Ig Ig (gw B4 (by simp[bW]) hsz (nK _)) ?_
 refine ag (ab (ay ?_))
 refine eo Ig Ig (B4.row _) HS Ig hsz ?_
 exact⟨_,rfl,(e3.trans x4).of_new (bd _ _ _) n2,rfl⟩
end Go.Rl
namespace Go.Rl
open Go.RowKit
def ig:List UInt8:=[82,76,85,67]
abbrev tu:=List UInt8×List bc
def gN:List UInt8:=List.replicate 32 0
def uZ:tu:=(gN,[])
def rR (l:List UInt8):List UInt8×Int:=iy ((l.take (l.length-32)).drop 36) 4194304 (vr ((l.take (l.length-32)).drop 36))
def zM (b:List UInt8):Option (List bc):=match ui b with
 |some (ts,[])=>some ts
 |_=>none
def kT (l:List UInt8):tu×Int:=
 if 1048576<l.length then(uZ,8) else if l.length<68∨l.take 4≠ig then(uZ,5) else if gM (l.take (l.length-32))≠l.drop (l.length-32) then(uZ,6) else
  if (rR l).2≠0 then(uZ,(rR l).2) else match zM (rR l).1 with
  |some ts=>if ts.all iu=true then(((l.take 36).drop 4,ts),0) else(uZ,1)
  |none=>(uZ,5)
section
variable {l:List UInt8}
theorem Br (h:1048576<l.length):kT l=(uZ,8):=by unfold kT;rw[if_pos h]
theorem tw (h:¬1048576<l.length) (h2:l.length<68∨l.take 4≠ig):kT l=(uZ,5):=by unfold kT;rw[if_neg h,if_pos h2]
theorem DJ (h:¬1048576<l.length) (h2:¬(l.length<68∨l.take 4≠ig)) (h3:gM (l.take (l.length-32))≠l.drop (l.length-32)):kT l=(uZ,6):=by unfold kT;rw[if_neg h,if_neg h2,if_pos h3]
theorem lV (h:¬1048576<l.length) (h2:¬(l.length<68∨l.take 4≠ig)) (h3:¬gM (l.take (l.length-32))≠l.drop (l.length-32)):kT l=if (rR l).2≠0 then(uZ,(rR l).2) else match zM (rR l).1 with
 |some ts=>if ts.all iu=true then(((l.take 36).drop 4,ts),0) else(uZ,1)
 |none=>(uZ,5):=by unfold kT;rw[if_neg h,if_neg h2,if_neg h3]
theorem xk {b:List UInt8} {ts:List bc} (h:ui b=some (ts,[])):zM b=some ts:=by unfold zM;rw[h]
theorem DK {b:List UInt8} (h:∀ts,ui b≠some (ts,[])):zM b=none:=by
 unfold zM
 split
 ·rename_i ts e;exact absurd e (h ts)
 ·rfl
theorem DL {n:Int} (h:¬1048576<l.length) (h2:¬(l.length<68∨l.take 4≠ig)) (h3:¬gM (l.take (l.length-32))≠l.drop (l.length-32)) (h4:(rR l).2=n) (h5:n≠0):kT l=(uZ,n):=by rw[lV h h2 h3,h4,if_pos h5]
theorem E0 (h:¬1048576<l.length) (h2:¬(l.length<68∨l.take 4≠ig)) (h3:¬gM (l.take (l.length-32))≠l.drop (l.length-32)) (h4:(rR l).2=0) (h5:zM (rR l).1=none):kT l=(uZ,5):=by rw[lV h h2 h3,if_neg (by omega),h5]
theorem E1 {ts:List bc} (h:¬1048576<l.length) (h2:¬(l.length<68∨l.take 4≠ig)) (h3:¬gM (l.take (l.length-32))≠l.drop (l.length-32)) (h4:(rR l).2=0) (h5:zM (rR l).1=some ts):kT l=if ts.all iu=true then(((l.take 36).drop 4,ts),0) else(uZ,1):=by rw[lV h h2 h3,if_neg (by omega),h5]
end
theorem xm {α:Type} {p:α→Bool} {l:List α} {i:Nat} (hi:i<l.length):(l.drop i).all p=(p l[i]&&(l.drop (i+1)).all p):=by
 rw[List.drop_eq_getElem_cons hi];rfl
theorem yL {m:List UInt8} {k:Nat}:(iy m (k:Int) (vr m)).1.length≤k+m.length:=by
 unfold iy
 split
 ·simp
 ·cases hU:dX m with
  |none=>simp
  |some p=>
   obtain⟨n,t⟩:=p
   simp only[]
   have ht:=oz hU
   split
   ·simp
   ·rename_i hn
    cases hf:vr m t n with
    |none=>simp
    |some out=>
     unfold vr at hf
     obtain⟨p,h1,h2⟩:=Option.bind_eq_some_iff.1 hf
     split at h2
     ·simp only[Option.some.injEq] at h2
      subst h2
      have:=uL (B:=t.length) _ _ _ p.1 p.2 (by simp) (Nat.le_refl _) h1
      show p.1.length≤_
      omega
     ·cases h2
theorem E2 {l:List UInt8}:(rR l).1.length≤4194304+l.length:=by
 have h:=yL (m:=(l.take (l.length-32)).drop 36) (k:=4194304)
 have h2:((l.take (l.length-32)).drop 36).length≤l.length:=by rw[List.length_drop,List.length_take];omega
 exact Nat.le_trans h (by omega)
theorem DM {l:List UInt8} (hl:l.length≤1048576):iy ((l.take (l.length-32)).drop 36) 4194304 (vp ((l.take (l.length-32)).drop 36))=rR l:=(DE (by rw[List.length_drop,List.length_take];omega) (by omega)).symm
end Go.Rl
namespace Go.Rl
open Go.RowKit
def fe (d p:List UInt8):List UInt8:=ig++d++p++gM (ig++d++p)
section
variable {d p body:List UInt8}
theorem lw (hd:d.length=32):(fe d p).length=68+p.length:=by
 unfold fe
 simp only[List.length_append,bW,hd,show ig.length=4 from rfl]
 omega
theorem rI:(fe d p).take 4=ig:=by
 unfold fe
 rw[List.append_assoc,List.append_assoc]
 exact List.take_left' (l₁:=ig) rfl
theorem xn (hd:d.length=32):(fe d p).take ((fe d p).length-32)=ig++d++p:=by
 rw[lw hd]
 unfold fe
 refine List.take_left' ?_
 simp only[List.length_append,hd,show ig.length=4 from rfl]
 omega
theorem Bt (hd:d.length=32):(fe d p).drop ((fe d p).length-32)=gM (ig++d++p):=by
 rw[lw hd]
 unfold fe
 refine List.drop_left' ?_
 simp only[List.length_append,hd,show ig.length=4 from rfl]
 omega
theorem DN (hd:d.length=32):((fe d p).take ((fe d p).length-32)).drop 36=p:=by
 rw[xn hd]
 refine List.drop_left' ?_
 simp only[List.length_append,hd,show ig.length=4 from rfl]
theorem E4 (hd:d.length=32):((fe d p).take 36).drop 4=d:=by
 unfold fe
 rw[List.append_assoc,List.append_assoc,←List.append_assoc,List.take_left' (by simp only[List.length_append,hd,show ig.length=4 from rfl])]
 exact List.drop_left' (l₁:=ig) rfl
theorem sg (hb:body.length≤4194304):iy (cj body) 4194304 (vr (cj body))=(body,0):=by
 have hu:dX (cj body)=some (body.length,pk body 0 0):=ja (by omega) _
 unfold iy
 rw[if_neg (by omega),hu]
 simp only[]
 rw[if_neg (by omega)]
 have:vr (cj body) (pk body 0 0) body.length=some body:=by
  unfold vr
  rw[rt (by omega)]
  exact if_pos ⟨rfl,rfl⟩
 rw[this]
theorem Bu (hd:d.length=32) (hb:body.length≤4194304) (hf:(fe d (cj body)).length≤1048576):kT (fe d (cj body))=match zM body with
 |some ts=>if ts.all iu=true then((d,ts),0) else(uZ,1)
 |none=>(uZ,5):=by
 have hl:=lw (d:=d) (p:=cj body) hd
 have hu:rR (fe d (cj body))=(body,0):=by unfold rR;rw[DN hd];exact sg hb
 rw[lV (by omega) (fun h=>h.elim (fun h=>by omega) fun h=>h rI) (by rw[xn hd,Bt hd];exact fun h=>h rfl),hu,if_neg (by simp),E4 hd]
 all_goals rfl
end
def oF (c:tu):List UInt8×Int:=if (c.2.all fun n=>iu n&&lY n)=true then(if 4194304<(el c.2).length then([],8) else if 1048576<(fe c.1 (cj (el c.2))).length then([],8) else(fe c.1 (cj (el c.2)),0)) else([],1)
end Go.Rl
namespace Go.Rl
open Go.RowKit Go.Proofs
section
variable {P:Program} {ops:Array Oper} {Env:World→Prop} {Rl:World→World→Prop} {mo:Bool} {Pn:List PanicEntry→World→Prop} {Z:ik} {N:Nat} {F:bR} {K:bR→ik→Prop} {rest:List Oper} {d:Nat} {ty:TypeId} {pos:String} {aft:Array Edge}
theorem Bv {t:TypeId} {x:Operand} {u r:Value} (hx:dZ F x=Is u) (hd:Nat.blt d N=true) (hrun:∀w,Env w→(Instr.arrayAt t u).run P w=.ok r w)
 (k:eC P ops Env Rl mo Pn N rest (im F (some d) (Is r)) Z K):eC P ops Env Rl mo Pn N (⟨some d,.sliceToArrayPointer t x,ty,pos,aft,none⟩::rest) F Z K:=
 js (xs:=[x]) (vs:=[u]) (f:=fun|[a]=>Instr.arrayAt t a|_=>stuck "") (fun _=>rfl) (by simp[Op.operands]) (by simp[hx]) hd hrun k
end
theorem FJ {w:World} {l:List UInt8} {v:Value} (h:bQ l v w) (hl:l.length=32):∃ad,(∀w':World,(Instr.arrayAt 24 v).run Tryz.prog w'=.ok (.pointer (some ad)) w')∧cS w ad (l.map U8):=by
 obtain⟨A,n,c,rfl,h1,h2,h3,h4,h5⟩:=h
 have hn:n=32:=by simp at h3;omega
 subst hn
 obtain⟨ad,rfl,hc⟩:=h4 (by omega)
 exact⟨ad,fun w'=>by simp[Instr.arrayAt,run_underlying Tryz.underlying24],hc⟩
theorem zN {w:World} {l:List UInt8} {ad:Addr} (h:cS w ad (l.map U8)) (hl:l.length=32):(Instr.loadAt 24 (.pointer (some ad))).run Tryz.prog w=.ok (.agg (l.map U8).toArray) w:=
 h.ld HS rfl (by rw[List.length_map,hl];exact fS)
end Go.Rl
namespace Go.Rl
open Go.RowKit Go.Proofs
section
variable {w:World}
theorem cS.ldO {P:Program} {t:TypeId} {d:TypeDesc} {ad:Addr} {cs ms:List Value} {o:Nat} (h:cS w ad cs) (hm:∀j v,ms[j]? =some v→cs[o+j]? =some v) (ht:P.underlying t=some d) (hd:d.isRow=true) (hz:(P.info? t).map (·.size)=some ms.length):(Instr.loadAt t (.pointer (some (ad.add o)))).run P w=.ok (.agg ms.toArray) w:=
 cS.ld (ad:=ad.add o) (fun j u hu=>by rw[tH];exact h (o+j) u (hm j u hu)) ht hd hz
end
theorem bc.lt_of_mem {n k:bc} (h:k∈n.kids):SizeOf.sizeOf k<SizeOf.sizeOf n:=by
 cases n with
 |mk l s ks e p=>
  have h:k∈ks:=h
  have:=List.sizeOf_lt_of_mem h
  simp only[bc.mk.sizeOf_spec]
  omega
end Go.Rl
namespace Go.Rl
open Go.RowKit Go.Proofs
def FK (n d:Int):Bool:=decide (0<n∧n≤16384∧n%d=0)
def small (l:List d7):Prop:=∀q∈l,q.2.1.length≤1073741824∧q.2.2.length≤1073741824
def FL (l:km):Bool:=decide ((1≤l.kh∧l.kh≤64)∧(1≤l.kw∧l.kw≤64)∧(1≤l.sr∧l.sr≤64))
def DO (l:km):Bool:=decide ((l.ws.length:Int)=0∧(l.bs.length:Int)=0)
def DP (l:km):Bool:=decide (l.kh=0∧l.kw=0∧l.sr=0∧l.pd=0)
def Ho (l:km) (i:Int):Prop:=
 if l.kd=1 then DP l=true∧l.fr=0∧(1≤l.ou∧l.ou≤16384)∧(l.bs.length:Int)=l.ou∧FK l.ws.length l.ou=true
 else if l.kd=2 then FL l=true∧l.fr=0∧l.pd≥0∧l.pd<l.kh∧l.pd<l.kw∧(1≤l.ou∧l.ou≤16384)∧(l.bs.length:Int)=l.ou∧FK l.ws.length (l.ou*l.kh*l.kw)=true
 else if l.kd=3∨l.kd=4 then FL l=true∧l.fr=0∧l.pd=0∧l.ou=0∧DO l=true
 else if l.kd=5∨l.kd=6 then DP l=true∧l.fr=0∧l.ou=0∧DO l=true
 else if l.kd=7 then DP l=true∧(-1≤l.fr∧l.fr≤i-1)∧l.ou=0∧DO l=true
 else False
instance (l:km) (i:Int):Decidable (Ho l i):=by unfold Ho;infer_instance
end Go.Rl
namespace Go.Rl
open Go.RowKit Go.Proofs
end Go.Rl
namespace Go.Rl
open Go.RowKit Go.Proofs
end Go.Rl
namespace Go.Rl
open Go.RowKit
section
variable {P:Program} {ops:Array Oper} {Env:World→Prop} {Rl:World→World→Prop} {mo:Bool} {Pn:List PanicEntry→World→Prop} {N:Nat}
def zO (ops:Array Oper) (n:Nat):Bool:=
 (List.range n).all fun i=>decide (i=0)||(List.range (n+1)).any fun j=>decide (i<j)&&Region.waitsFor .any ops j i
theorem xo {n:Nat} {listed:Array Bool} (hs:zO ops n=true) (hc:jw ops n=true) (inv:HeadInv .any ops n listed):
 ∀(d i:Nat),n-i=d→0<i→i<n→listed.getD i true=false→∀t,n≤t→t∉Region.ready .any ops listed:=by
 intro d
 induction d using Nat.strongRecOn with
 |_ d ih=>
  intro i hd h0 hi hun t ht hr
  obtain⟨_,ot,hot,hall⟩:=mem_ready.1 hr
  have htlt:t<ops.size:=(Array.getElem?_eq_some_iff.1 hot).1
  by_cases htn:t=n
  ·subst htn
   have h1:=List.all_eq_true.1 hs i (List.mem_range.2 hi)
   simp only[Bool.or_eq_true,decide_eq_true_eq] at h1
   obtain⟨j,hj,hj2⟩:=List.any_eq_true.1 (h1.resolve_left (by omega))
   simp only[Bool.and_eq_true,decide_eq_true_eq] at hj2
   obtain⟨oj,hoj,e,he,hb,hon⟩:=Region.waitsFor_spec hj2.2
   have hjle:j≤t:=by have:=List.mem_range.1 hj;omega
   by_cases hjt:j=t
   ·subst hjt
    have:oj=ot:=Option.some.inj (hoj.symm.trans hot)
    subst this
    have h2:=hall e he hb
    rw[hon,getD_both hun] at h2
    cases h2
   ·cases hl:listed.getD j false with
    |true=>
     have h2:=inv.closed j oj hoj hl e he hb
     rw[hon,getD_both hun] at h2
     cases h2
    |false=>
     have hjs:j<listed.size:=by rw[inv.size];omega
     exact ih (t-j) (by omega) j rfl (by omega) (by omega) (getD_in hjs hl) t (Nat.le_refl _) hr
  ·have h1:=List.all_eq_true.1 hc t (List.mem_range.2 htlt)
   simp only[Bool.or_eq_true,decide_eq_true_eq] at h1
   rcases h1 with h1|h1
   ·omega
   ·obtain⟨j,hj,hj2⟩:=List.any_eq_true.1 h1
    simp only[Bool.and_eq_true,decide_eq_true_eq] at hj2
    have hjt:=List.mem_range.1 hj
    obtain⟨o',ho',e,he,hb,hon⟩:=Region.waitsFor_spec hj2.2
    have:o'=ot:=Option.some.inj (ho'.symm.trans hot)
    subst this
    have h2:=hall e he hb
    rw[hon,getD_both (inv.tail j hj2.1 (by omega))] at h2
    cases h2
theorem si {n i:Nat} {oi:Oper} {S:cH} {L:Array Bool→bR→ik→Prop} (hi:ops[i]? =some oi) (hcalls:mo=true→fC .any ops=true)
 (hs:zO ops n=true) (hc:jw ops n=true) (hi0:0<i) (hin:i<n)
 (hdone:∀listed F Z,L listed F Z→∀j∈Region.ready .any ops listed,n≤j):
 ∀(f:Nat) (listed:Array Bool) (F:bR) (Z Z':ik),HeadInv .any ops n listed→
  (∀j oj,ops[j]? =some oj→j≠i→listed.getD j true=false→(∀e∈oj.after,Region.binds .any e=true→e.on≠i)→oi.apart ops oj=true)→
  i∈Region.ready .any ops listed→eQ P ops Env Rl mo Pn N F Z oi S Z'→
  gi P .any ops Env Rl mo Pn N n L f (listed.setIfInBounds i true) (im F oi.dst S) Z'→gi P .any ops Env Rl mo Pn N n L (f+1) listed F Z:=
 jr hi hcalls hin (fun _ inv hun t ht=>xo hs hc inv _ i rfl hi0 hin hun t ht) hdone
theorem pi {n:Nat} {perm:List Nat} {Lq:bR→ik→Prop} (hcalls:mo=true→fC .any ops=true) (hs:zO ops n=true) (hc:jw ops n=true):
 ∀(l:List Oper) (k:Nat) (listed:Array Bool) (F:bR) (Z:ik),0<k→(∀j,j<l.length→l[j]? =ops[k+j]?)→k+l.length=n→HeadInv .any ops n listed→
 gp ops n perm l.length k listed=true→(∀t,bD Rl (F t))→cm Z→eC P ops Env Rl mo Pn N l F Z Lq→
 gi P .any ops Env Rl mo Pn N n (fun listed' F' Z'=>(mI ops perm listed'=true∧(Region.ready .any ops listed').all (fun j=>decide (n≤j))=true)∧Lq F' Z') l.length listed F Z
 |[],k,listed,F,Z,_,_,hk,_,hB,_,_,h=>by
  simp only[List.length_nil,gp,Bool.and_eq_true] at hB
  exact⟨hB,h⟩
 |o::l,k,listed,F,Z,hk0,hl,hk,inv,hB,hF,hZ,h=>by
  have h0:ops[k]? =some o:=by simpa using(hl 0 (by simp)).symm
  simp only[List.length_cons,gp,Bool.and_eq_true] at hB
  obtain⟨⟨hr,hf⟩,hB'⟩:=hB
  have hkn:k<n:=by simp only[List.length_cons] at hk;omega
  have hr':k∈Region.ready .any ops listed:=by simpa using hr
  obtain⟨S,Z',hspec,hrest⟩:=h hF hZ
  exact si h0 hcalls hs hc hk0 hkn (fun listed' F' Z' hL j hj=>by simpa using List.all_eq_true.1 hL.1.2 j hj) l.length listed F Z Z' inv (Region.free_spec h0 hf) hr' hspec
   (pi hcalls hs hc l (k+1) _ _ _ (by omega) (fun j hj=>by have:=hl (j+1) (by simp;omega);simpa [Nat.add_assoc,Nat.add_comm 1 j] using this) (by simp only[List.length_cons] at hk;omega) (inv.set hr' hkn) hB' (iV hF hspec.stable) (hspec.zst hZ) hrest)
def FM (ops:Array Oper) (n:Nat) (perm:List Nat):Bool:=
 Region.noSelect ops&&decide (0<n)&&decide (n<ops.size)&&zO ops n&&jw ops n&&decide (n+perm.length=ops.size)&&Region.free .any ops (Array.replicate ops.size false) 0&&(Region.ready .any ops (Array.replicate ops.size false)).contains 0&&gp ops n perm (n-1) 1 ((Array.replicate ops.size false).setIfInBounds 0 true)
theorem uP {Q:eR} {D:List Deferred} {l:Fr} {w:World} {id d:Nat} {x:Operand} {v:Value} {ty:TypeId} {pos:String} {aft:Array Edge} {os:List Oper} (n:Nat) (perm:List Nat) (ts:List Nat) (hm:P.follows .mixedOrders=true)
 (hB:FM ((⟨some d,.move x,ty,pos,aft,none⟩:Oper)::os).toArray n perm=true) (hp:(perm.all fun i=>decide (i<os.length+1))=true) (hx:ev l x=some v) (hd:Nat.blt d N=true)
 (h:eC P ((⟨some d,.move x,ty,pos,aft,none⟩:Oper)::os).toArray (aE w) aE false Fsz N (os.take (n-1)) (px ((d,v)::l)) (fun _=>True) (fun F _=>∀w',aE w w'→gu F w' ts (fun l'=>bB P ((⟨some d,.move x,ty,pos,aft,none⟩:Oper)::os).toArray (gq Q) N D l' w' (oh ((⟨some d,.move x,ty,pos,aft,none⟩:Oper)::os) perm)))):cn P Q N D l w (.region id ((⟨some d,.move x,ty,pos,aft,none⟩:Oper)::os).toArray true):=fun a ha=>by
 obtain⟨o,ho⟩:∃o:Oper,o=⟨some d,.move x,ty,pos,aft,none⟩:=⟨_,rfl⟩
 rw[←ho] at hB h⊢
 have ha':=ha.put hd v
 have hsat:u5 N D (px ((d,v)::l)) (a.put (some d) v) {w with drawn:=w.drawn+1}:=⟨ha'.size,ha'.defers,fun t=>by
  show px ((d,v)::l) t ((a.put (some d) v).tmps.getD t undef) _
  unfold px
  cases hv:lk ((d,v)::l) t with
  |some v=>exact ha'.at_ t v hv
  |none=>trivial⟩
 simp only[FM,Bool.and_eq_true,decide_eq_true_eq] at hB
 obtain⟨⟨⟨⟨⟨⟨⟨⟨hsel,hn0⟩,hn⟩,hs⟩,hc⟩,hlen⟩,hf⟩,hr⟩,hlex⟩:=hB
 have hn':n<os.length+1:=by simpa using hn
 have htl:(os.take (n-1)).length=n-1:=by simp;omega
 have h00:(o::os).toArray[0]? =some o:=by simp
 have inv0:HeadInv .any (o::os).toArray n (Array.replicate (o::os).toArray.size false):=
  ⟨by simp,fun j oj _ hl=>(by rw[getD_replicate_false] at hl;cases hl),fun t _ ht=>getD_in (by simpa using ht) (getD_replicate_false _ _)⟩
 have hr':0∈Region.ready .any (o::os).toArray (Array.replicate (o::os).toArray.size false):=by simpa using hr
 have H:=pi (perm:=perm) (fun h=>by cases h) hs hc (os.take (n-1)) 1 _ _ _ (by omega) (fun j hj=>by
  have hj':j<n-1:=by rw[htl] at hj;exact hj
  simp[hj',Nat.add_comm 1 j]) (by rw[htl];omega) (inv0.set hr' (by omega)) (by rw[htl];exact hlex) (fg _) cm.triv (gV _ _ _ (fun F Z hK a' w' he hs=>by
   obtain⟨l',hl',hk⟩:=gu.use hs (hK w' he)
   exact hk a' hl':∀F (Z:ik),_→(∀a' w',aE w w'→u5 N D F a' w'→wpList P (o::os).toArray (gq Q) (oh (o::os) perm) a' w')) h)
 have hpick:∀(perm:List Nat),(perm.all fun i=>decide (i<(o::os).length))=true→(perm.map fun i=>(o::os).toArray[i]?)=(oh (o::os) perm).map some:=by
  intro perm
  induction perm with
  |nil=>intro _;rfl
  |cons i is ih=>
   intro hp
   simp only[List.all_cons,Bool.and_eq_true,decide_eq_true_eq] at hp
   have e:(o::os)[i]? =some (o::os)[i]:=List.getElem?_eq_getElem hp.1
   simp only[List.map_cons,oh,e,List.getElem?_toArray]
   rw[←ih hp.2]
   simp
 have rest:=ep (D:=D) (Q':=gq Q) (l0:=[]) (g:=perm.length) (fb.plain w) (fun _ _ _ _ _ _ h=>h.elim) (fun _ _ _ _ _ _ _ hp=>by cases hp) (fun listed F Z hL hF hZ a' w' he hsat hz=>gT hsel perm (oh (o::os) perm) listed a' w' (hpick perm (by simpa using hp)) hL.1.1 (hL.2 a' w' he hsat)) _ _ _ _ H (fg _) cm.triv (a.put (some d) v) {w with drawn:=w.drawn+1} ⟨rfl,rfl,rfl,Nat.le_refl _,fun _ _=>rfl⟩ hsat (fun _ hp=>by cases hp) trivial
 rw[htl] at rest
 refine wp_mono (wp_region_any (Q:=gq Q) hm ?_) fun e a w he=>by obtain⟨rfl,h⟩:=he;exact h
 have hsz:(o::os).toArray.size=(n-1+perm.length)+1:=by rw[←hlen];omega
 rw[show wpAny P .any (o::os).toArray (gq Q) (o::os).toArray.size=wpAny P .any (o::os).toArray (gq Q) ((n-1+perm.length)+1) by rw[hsz]]
 have hval:(∀w':World,(execOp a.eval o).run P w'=.ok (.value v) w'):=fun w'=>by
  rw[ho]
  have hv:a.eval x=v:=ha.ev hx
  simp[execOp,hv]
 have hdst:o.dst=some d:=by rw[ho]
 exact wpAny_take h00 hsel hf hr (fun c a w hp=>by obtain⟨hp,_⟩:=hp;cases hp) (.inl ⟨by rw[ho];rfl,hval⟩) (by rw[hdst];exact rest)
end
end Go.Rl
namespace Go.Rl
open Go.RowKit Go.Proofs
theorem DQ {n:Int} (h:kU n):1≤(cT n).length∧(cT n).length≤10:=⟨t5 _,dO (Ct h.1 h.2)⟩
theorem cg {α β:Type} {f:α→List β} {l:List α} {i:Nat} (hi:i<l.length):(l.take (i+1)).flatMap f=(l.take i).flatMap f++f l[i]:=by
 rw[List.take_succ_eq_append_getElem hi,List.flatMap_append,List.flatMap_singleton]
end Go.Rl
namespace Go.Rl
open Go.RowKit Go.Proofs
theorem DR {w:World} {g:Nat}:(Instr.sliceAt 24 (.pointer (some ⟨g,0,none⟩)) none none none).run Tryz.prog w=.ok (.slice (some ⟨g,0,none⟩) 32 32) w:=by
 simp[Instr.sliceAt,run_underlying Tryz.underlying24,Instr.sureAddr,Instr.sliceBounds,dy fu,Addr.add_mid]
theorem xp {X:Nat→Prop} {w:World}:∀(l:List Int),aF X w (l.map jV) (l.map I)
 |[]=>aF.nil
 |n::l=>aF.cons (a:=[I n]) (by simp only[jV,cz,I]) (xp l)
theorem dG.rpx {X:Nat→Prop} {w:World} {base:Nat} {l:List Int} {v:Value} (h:dG base l v w) (hX:∀k,v.ownBlock=some k→¬X k):cz X w (FB l) [v]:=by
 obtain⟨n,h⟩:=h
 exact cz.ofOwn h (xp l) (by simp[wh]) (by omega) hX
end Go.Rl
namespace Go.Rl
open Go.RowKit Go.Proofs
section
variable {w:World} {g:Nat} {T:TypeId} {d:List UInt8} {v:Value}
def lW (d:List UInt8) (v:Value):List Value:=d.map U8++[v]
abbrev ii:Value:=.slice none 0 0
theorem zP (hd:d.length=32):(lW d v).length=33:=by simp[lW,hd]
theorem Fa:gN.length=32:=rfl
theorem GD:(Tryz.prog.info? 133).map (·.size)=some 33:=by kernel_rfl
theorem DS:(Tryz.prog.info? 133).map (·.zero)=some (some (.agg (lW gN ii).toArray)):=by kernel_rfl
theorem iI (hd:d.length=32):(Tryz.prog.info? 133).map (·.size)=some (lW d v).length:=by rw[zP hd];exact GD
theorem DT (hv:v.oneCell'=true):aT (lW d v):=fun u hu=>by
 rcases List.mem_append.1 hu with h|h
 ·exact iZ d u h
 ·obtain rfl:=List.mem_singleton.1 h;exact hv
theorem GE:(Instr.fieldAt 133 (.pointer (some ⟨g,0,none⟩)) 0).run Tryz.prog w=.ok (.pointer (some ⟨g,0,none⟩)) w:=aI (o:=0) H1 rfl (by kernel_rfl) rfl
theorem uQ:(Instr.fieldAt 133 (.pointer (some ⟨g,0,none⟩)) 1).run Tryz.prog w=.ok (.pointer (some ⟨g,32,none⟩)) w:=aI (o:=32) H1 rfl (by kernel_rfl) rfl
theorem yM (k:bI g T (lW d v) w) (hd:d.length=32):w.cell? ⟨g,32,none⟩=some v:=
 k.cell (i:=32) (by rw[lW,List.getElem?_append_right (by simp[hd])];simp[hd])
theorem GF {l:List UInt8} (h:l.length=32):∃a0 a1 a2 a3 a4 a5 a6 a7 a8 a9 b0 b1 b2 b3 b4 b5 b6 b7 b8 b9 c0 c1 c2 c3 c4 c5 c6 c7 c8 c9 d0 d1,l=[a0,a1,a2,a3,a4,a5,a6,a7,a8,a9,b0,b1,b2,b3,b4,b5,b6,b7,b8,b9,c0,c1,c2,c3,c4,c5,c6,c7,c8,c9,d0,d1]:=by
 match l,h with
 |[a0,a1,a2,a3,a4,a5,a6,a7,a8,a9,b0,b1,b2,b3,b4,b5,b6,b7,b8,b9,c0,c1,c2,c3,c4,c5,c6,c7,c8,c9,d0,d1],_=>exact⟨a0,a1,a2,a3,a4,a5,a6,a7,a8,a9,b0,b1,b2,b3,b4,b5,b6,b7,b8,b9,c0,c1,c2,c3,c4,c5,c6,c7,c8,c9,d0,d1,rfl⟩
theorem Bw (hd:d.length=32) (hv:∃A n c,v=.slice A n c):(Instr.build 133 #[(0,.agg (d.map U8).toArray),(1,v)]).run Tryz.prog w=.ok (.agg (lW d v).toArray) w:=by
 obtain⟨a0,a1,a2,a3,a4,a5,a6,a7,a8,a9,b0,b1,b2,b3,b4,b5,b6,b7,b8,b9,c0,c1,c2,c3,c4,c5,c6,c7,c8,c9,d0,d1,rfl⟩:=GF hd
 obtain⟨A,n,c,rfl⟩:=hv
 exact run_build _ _ _ _ (by kernel_rfl)
theorem fm:(Instr.build 133 #[]).run Tryz.prog w=.ok (.agg (lW gN ii).toArray) w:=run_build _ _ _ _ (by kernel_rfl)
theorem kD {l:List Value} (k:bI g T l w) (hl:l.length=33) (hd:d.length=32) (hv:v.oneCell'=true):∃w',(Instr.storeAt 133 (.pointer (some ⟨g,0,none⟩)) (.agg (lW d v).toArray)).run Tryz.prog w=.ok () w'∧w.grownBy w' (some g)∧bI g T (lW d v) w':=
 k.stS (m:=lW d v) (by rw[hl,zP hd]) (iI hd) (DT hv)
end
def jS (base:Nat) (l:List UInt8) (r:Value) (w:World):Prop:=∃v,r=.tuple #[.agg (lW (kT l).1.1 v).toArray,I (kT l).2]∧cz (fun k=>k<base) w (.sl ((kT l).1.2.map cw)) [v]
theorem jS.err {base:Nat} {l:List UInt8} {w:World} {n:Int} (h:kT l=(uZ,n)):jS base l (.tuple #[.agg (lW gN ii).toArray,I n]) w:=⟨_,by rw[h];rfl,by rw[h];exact cz.nilSl⟩
theorem jS.ok {base:Nat} {l dg:List UInt8} {ts:List bc} {w:World} {v:Value} (h:kT l=((dg,ts),0)) (hv:cz (fun k=>k<base) w (.sl (ts.map cw)) [v]):jS base l (.tuple #[.agg (lW dg v).toArray,I 0]) w:=⟨v,by rw[h],by rw[h];exact hv⟩
theorem Bx {w:World} {l:List UInt8} {v:Value} (hl:l.length≤1048576) (hv:bQ ((l.take (l.length-32)).drop 36) v w):
 Calls Tryz.prog 117 #[v,I 4194304] w (bL fun r w'=>aE w w'∧∃u,r=.tuple #[u,I (rR l).2]∧bQ (rR l).1 u w'):=
 bL.mono (Bg hv (by rw[List.length_drop,List.length_take];omega) (by omega) (by omega) (fun n t _ h=>by omega)) fun r w' h=>⟨h.1,by have:=DD h.2;rwa [DM hl] at this⟩
theorem DU {w:World} {b:List UInt8} {v:Value} (hv:bQ b v w) (hl:b.length≤549755813888):
 Calls Tryz.prog 118 #[v] w (bL fun r w'=>aE w w'∧∃(vt:Value) (e:Int),r=.tuple #[vt,I e]∧vt.oneCell'=true∧((e=0∧∃ts:List bc,zM b=some ts∧cz (fun k=>k<w.heap.size) w' (.sl (ts.map cw)) [vt])∨(e=5∧zM b=none))):=
 bL.mono (wv hv hl) fun r w' ⟨h1,vt,h2,h3⟩=>⟨h1,vt,by
  rcases h3 with⟨h3,ts,h4,h5⟩|⟨h3,h4⟩
  ·exact⟨0,h3,h2,.inl ⟨rfl,ts,xk h4,h5⟩⟩
  ·exact⟨5,h3,h2,.inr ⟨rfl,DK h4⟩⟩⟩
theorem DV {α:Type} {p:α→Bool} {l:List α} {i:Nat} (hi:i<l.length) (h:l.all p=(l.drop i).all p) (h1:p l[i]=true):l.all p=(l.drop (i+1)).all p:=by rw[h,xm hi,h1,Bool.true_and]
theorem DW {α:Type} {p:α→Bool} {l:List α} {i:Nat} (hi:i<l.length) (h:l.all p=(l.drop i).all p) (h1:p l[i]=false):l.all p=false:=by rw[h,xm hi,h1,Bool.false_and]
theorem zQ {α:Type} {p:α→Bool} {l:List α} {i:Nat} (hi:l.length≤i) (h:l.all p=(l.drop i).all p):l.all p=true:=by rw[h,List.drop_eq_nil_of_le hi];rfl
end Go.Rl
namespace Go.Rl
open Go.RowKit Go.Proofs
theorem uR:aw Tryz.prog 76:=⟨_,Tryz.func76,by kernel_rfl,rfl⟩
theorem uS {w:World} {l:List UInt8} {v:Value} (hv:bQ l v w):
 Calls Tryz.prog 76 #[v] w (bL fun r w'=>aE w w'∧jS w.heap.size l r w'):=by
 refine enter (vs:=[v]) Tryz.func76 Ig Ig Ig ?_
 have hll:=hv.len
 refine af (aa ?_)
 obtain⟨g2,w2,hr2,l2,x2,k2⟩:=aR (P:=Tryz.prog) (w:=w) (t:=133) (z:=.agg (lW gN ii).toArray) (l:=lW gN ii) DS rfl
 refine aU Ig hr2 ?_
 refine ac Ig Ig (ag (ab (af (af (aa (ae Ig Ig (aO Ig Ig (cc (hv.ext x2)) (ai Ig Ig Ig (cB) (ag (ab ?_))))))))))
 refine bi Ig (fun h13=>?_) (fun h13=>?_)
 ·have h1:1048576<l.length:=by omega
  refine af (aa ?_)
  refine bA (vs:=[]) (r:=.agg (lW gN ii).toArray) Ig Ig fm ?_
  obtain⟨w2_1,s2_1,q2_1,k2_1⟩:=kD (d:=gN) (v:=ii) (k2.ext (aE.refl _)) rfl rfl rfl
  refine az Ig Ig s2_1 ?_
  have x2_1:=aE.of_new (x2) q2_1 l2
  refine ac Ig Ig (ag (ab (ay (aB ?_))))
  refine dP Ig Ig Ig k2_1 H1 Ig (iI Ig) ?_
  exact⟨_,rfl,x2_1,jS.err (Br h1)⟩
 ·have h1:¬1048576<l.length:=by omega
  refine ax (ab (af (af ?_)))
  rcases Nat.lt_or_ge l.length 68 with h68|h68
  ·refine aa (ae Ig Ig (aO Ig Ig (cc (hv.ext x2)) (ai Ig Ig Ig (dW (by omega) bb) (ae Ig Ig (ap Ig Ig Ig (ap Ig Ig Ig (ap Ig Ig Ig ?_)))))))
   refine ap Ig Ig Ig (aG Ig Ig Ig (ag (ab (ce Ig (af (aa ?_))))))
   refine bA (vs:=[]) (r:=.agg (lW gN ii).toArray) Ig Ig fm ?_
   obtain⟨w4_1,s4_1,q4_1,k4_1⟩:=kD (d:=gN) (v:=ii) (k2.ext (aE.refl _)) rfl rfl rfl
   refine az Ig Ig s4_1 ?_
   have x4_1:=aE.of_new (x2) q4_1 l2
   refine ac Ig Ig (ag (ab (ay (aB ?_))))
   refine dP Ig Ig Ig k4_1 H1 Ig (iI Ig) ?_
   exact⟨_,rfl,x4_1,jS.err (tw h1 (by first|exact .inl h68|exact .inr h2))⟩
  ·refine aa (ae Ig Ig (aO Ig Ig (cc (hv.ext x2)) (ai Ig Ig Ig (eU (by omega) bb) (ae Ig Ig (ao Ig (ae Ig Ig (ao Ig ?_)))))))
   obtain⟨v20,p20,b20⟩:=jI (hv.ext x2) (hi:=4) (by omega) .i64
   refine db Ig Ig Ig Ig Ig (p20 _) (ao Ig (aN Ig Ig (qh b20) (ao Ig (ai (v:=S [82,76,85,67]) Ig Ig Ig (tO) (aJ Ig Ig Ig ?_)))))
   refine ag (ab ?_)
   refine bi Ig (fun h23=>?_) (fun h23=>?_)
   ·have h2:l.take 4≠ig:=h23
    refine af (aa ?_)
    refine bA (vs:=[]) (r:=.agg (lW gN ii).toArray) Ig Ig fm ?_
    obtain⟨w4_1,s4_1,q4_1,k4_1⟩:=kD (d:=gN) (v:=ii) (k2.ext (aE.refl _)) rfl rfl rfl
    refine az Ig Ig s4_1 ?_
    have x4_1:=aE.of_new (x2) q4_1 l2
    refine ac Ig Ig (ag (ab (ay (aB ?_))))
    refine dP Ig Ig Ig k4_1 H1 Ig (iI Ig) ?_
    exact⟨_,rfl,x4_1,jS.err (tw h1 (by first|exact .inl h68|exact .inr h2))⟩
   ·have h2:¬(l.length<68∨l.take 4≠ig):=fun hh=>hh.elim (fun hh=>by omega) h23
    refine ax (ab (af (aa (ae Ig Ig (aO Ig Ig (cc (hv.ext x2)) (ai (r:=I ((l.length-32:Nat):Int)) Ig Ig Ig (by have e:((l.length-32:Nat):Int)=(l.length:Int)-32:=(by omega);rw[e];exact aV (by omega) (by omega)) ?_))))))
    refine ac Ig Ig (ac Ig Ig (ag (ab (af (af (bk 9 [0,2,4,5,31,36] (by kernel_rfl) (by kernel_rfl) ?_))))))
    have hvg:=hv.ext x2
    obtain⟨v30,p30,b30⟩:=jI hvg (hi:=l.length-32) (by omega) .i64
    obtain⟨v34,p34,b34⟩:=i0 hvg (lo:=l.length-32) (by omega) .i64
    have l34:(l.drop (l.length-32)).length=32:=by rw[List.length_drop];omega
    obtain⟨ad,p35,c35⟩:=FJ b34 l34
    refine an rfl rfl (an rfl rfl (j0 (a:=none) (b:=some (I ((l.length-32:Nat):Int))) rfl rfl rfl rfl (fun w _=>p30 w) (bM (S:=Is (.agg ((gM (l.take (l.length-32))).map U8).toArray)) oC (be.is _) rfl (fun w hw=>by rintro _ rfl;exact(oD (b30.ext hw))) ?_)))
    refine an Ig Ig (an Ig Ig (j0 (a:=some (I ((l.length-32:Nat):Int))) (b:=none) Ig Ig Ig Ig (fun w _=>p34 w) (Bv Ig Ig (fun w _=>p35 w) ?_)))
    refine av Ig Ig (fun w hw=>zN (c35.ext hw) l34) (bn ?_)
    intro wg6 xg6
    rintro _ hq0
    obtain rfl:=Eq.symm hq0
    rintro _ rfl
    rintro _ rfl
    rintro _ rfl
    rintro _ rfl
    rintro _ rfl
    refine ai Ig Ig Ig ((by exact Hn (bW _) l34)) (ag (ab ?_))
    refine bi Ig (fun h37=>?_) (fun h37=>?_)
    ·have h3:gM (l.take (l.length-32))≠l.drop (l.length-32):=h37
     refine af (aa ?_)
     refine bA (vs:=[]) (r:=.agg (lW gN ii).toArray) Ig Ig fm ?_
     obtain⟨w7_1,s7_1,q7_1,k7_1⟩:=kD (d:=gN) (v:=ii) (k2.ext (xg6)) rfl rfl rfl
     refine az Ig Ig s7_1 ?_
     have x7_1:=aE.of_new ((x2.trans xg6)) q7_1 l2
     refine ac Ig Ig (ag (ab (ay (aB ?_))))
     refine dP Ig Ig Ig k7_1 H1 Ig (iI Ig) ?_
     exact⟨_,rfl,x7_1,jS.err (DJ h1 h2 h3)⟩
    ·have h3:¬gM (l.take (l.length-32))≠l.drop (l.length-32):=h37
     refine ax (ab (af (aa (ae Ig Ig (ae Ig Ig (ae Ig Ig ?_))))))
     obtain⟨v43,p43,b43⟩:=u9 (hv.ext (x2.trans xg6)) (lo:=36) (hi:=l.length-32) (by omega) (by omega) .i64 .i64
     refine db Ig Ig Ig Ig Ig (p43 _) (ak Bd Ig Ig ((Bx (by omega) b43)) ?_)
     rintro v44 w44 ⟨x44,vu,rfl,bU⟩
     refine ae Ig Ig (al Ig Ig (bw) (al Ig Ig (bz) (ac Ig Ig (ac Ig Ig (ag (ab (af (af (aa (ae Ig Ig (ai Ig Ig Ig (dA) ?_)))))))))))
     refine ag (ab ?_)
     refine bi Ig (fun h48=>?_) (fun h48=>?_)
     ·have h4:(rR l).2≠0:=h48
      refine af (aa ?_)
      refine bA (vs:=[]) (r:=.agg (lW gN ii).toArray) Ig Ig fm ?_
      refine ae Ig Ig ?_
      obtain⟨w10_2,s10_2,q10_2,k10_2⟩:=kD (d:=gN) (v:=ii) (k2.ext ((xg6.trans x44))) rfl rfl rfl
      refine az Ig Ig s10_2 ?_
      have x10_2:=aE.of_new (((x2.trans xg6).trans x44)) q10_2 l2
      refine ac Ig Ig (ag (ab (ay (aB ?_))))
      refine dP Ig Ig Ig k10_2 H1 Ig (iI Ig) ?_
      exact⟨_,rfl,x10_2,jS.err (DL h1 h2 h3 rfl h4)⟩
     ·have h4:(rR l).2=0:=Classical.byContradiction h48
      have hul:=E2 (l:=l)
      have e2u:=(xg6.trans x44)
      refine ax (ab (af (aa (ae Ig Ig (ak wu Ig Ig ((DU (b:=(rR l).1) bU (by omega))) ?_)))))
      rintro v53 w53 ⟨x53,vt,e5,rfl,h1v,hT⟩
      refine ae Ig Ig (al Ig Ig (bw) (al Ig Ig (bz) (ac Ig Ig (ac Ig Ig (ag (ab (af (af (aa (ae Ig Ig (ai Ig Ig Ig (dA) ?_)))))))))))
      refine ag (ab ?_)
      refine bi Ig (fun h57=>?_) (fun h57=>?_)
      ·have he5:e5=5∧zM (rR l).1=none:=hT.resolve_left (fun h=>h57 h.1)
       refine af (aa ?_)
       refine bA (vs:=[]) (r:=.agg (lW gN ii).toArray) Ig Ig fm ?_
       refine ae Ig Ig ?_
       obtain⟨w13_2,s13_2,q13_2,k13_2⟩:=kD (d:=gN) (v:=ii) (k2.ext (((xg6.trans x44).trans x53))) rfl rfl rfl
       refine az Ig Ig s13_2 ?_
       have x13_2:=aE.of_new ((((x2.trans xg6).trans x44).trans x53)) q13_2 l2
       refine ac Ig Ig (ag (ab (ay (aB ?_))))
       refine dP Ig Ig Ig k13_2 H1 Ig (iI Ig) ?_
       exact⟨_,rfl,x13_2,jS.err (by rw[he5.1];exact E0 h1 h2 h3 h4 he5.2)⟩
      ·have he5:e5=0:=Classical.byContradiction h57
       obtain⟨ts,hts0,rts⟩:∃ts:List bc,zM (rR l).1=some ts∧cz (fun k=>k<w44.heap.size) w53 (.sl (ts.map cw)) [vt]:=hT.elim (fun h=>h.2) (fun h=>by have:=h.1;omega)
       have hD:=E1 h1 h2 h3 h4 hts0
       have hts:dq cw ts vt w53:=rts.rp
       have htl:=hts.len
       have e53:=(((x2.trans xg6).trans x44).trans x53)
       have e253:=((xg6.trans x44).trans x53)
       refine ax (ab (af (af (aa (ae Ig Ig (aO Ig Ig (bN HJ hts) (ae Ig Ig (ag (ab (au ?_))))))))))
       refine ci (α:=Nat) (fun i=>[(0,v),(2,.pointer (some ⟨g2,0,none⟩)),(4,I 36),(8,vt),(60,vt),(61,I (ts.length:Int)),(62,I (i:Int))]) (fun i w'=>aE w w'∧aE w53 w'∧i≤ts.length∧ts.all iu=(ts.drop i).all iu) (fun i=>ts.length-i) (0) ⟨rfl,rfl,rfl,rfl,rfl,rfl,rfl,trivial⟩ ⟨(((x2.trans xg6).trans x44).trans x53),aE.refl _,by omega,rfl⟩ ?_
       rintro i wL ⟨eL,e5L,hi,hall⟩
       refine af (aa (ai Ig Ig Ig (bb) (ag (ab (af ?_)))))
       refine bi Ig (fun h63=>?_) (fun h63=>?_)
       ·refine ax (ab (af (au (af (aa ?_)))))
        obtain⟨a64,c64,p64,q64,h64⟩:=eA (P:=Tryz.prog) (sz:=9) HJ (by kernel_rfl) cF (by omega) (hts.ext e5L) (i:=i) (by omega) .i64
        obtain⟨e64,he64⟩:∃e,e=ts[i]'(by omega):=⟨_,rfl⟩
        rw[←he64] at h64
        obtain⟨x64_0,x64_1,x64_2,x64_3,x64_4,rfl,f64_0,f64_1,f64_2,f64_3,f64_4⟩:=iQ h64
        refine aq Ig Ig Ig (p64 _) (am Ig Ig (q64.ld HI Ig (by kernel_rfl)) ?_)
        obtain⟨g10,w10,hr10,l10,x10,k10⟩:=aR (P:=Tryz.prog) (w:=wL) (t:=52) (z:=.agg #[.slice none 0 0,I 0,I 0,B false,.slice none 0 0,.slice none 0 0,.slice none 0 0,B false,.slice none 0 0]) (l:=[.slice none 0 0,I 0,I 0,B false,.slice none 0 0,.slice none 0 0,.slice none 0 0,B false,.slice none 0 0]) (by kernel_rfl) rfl
        refine aU Ig hr10 ?_
        obtain⟨w16_3,s16_3,q16_3,k16_3⟩:=k10.stS (P:=Tryz.prog) (t:=52) (m:=[x64_0,I e64.split.kd,I e64.split.ix,B e64.split.at_.1,x64_1,x64_2,x64_3,B e64.empty,x64_4]) rfl (by kernel_rfl) (aT.cons f64_0.one (aT.cons rfl (aT.cons rfl (aT.cons rfl (aT.cons f64_1.one (aT.cons f64_2.one (aT.cons f64_3.one (aT.cons rfl (aT.cons f64_4.one aT.nil)))))))))
        refine az Ig Ig s16_3 ?_
        have x16_3:=aE.of_new (x10) q16_3 l10
        refine ag (ab (af (aa (am Ig Ig (k16_3.ld HI Ig (by kernel_rfl)) (ak rj Ig Ig ((A3 (n:=e64) (f64_0.ext x16_3) (f64_1.ext x16_3) (f64_2.ext x16_3) (f64_3.ext x16_3) (f64_4.ext x16_3))) ?_)))))
        rintro v67 w67 ⟨x67,rfl⟩
        refine cx Ig Ig cZ (ag (ab ?_))
        refine iW Ig (fun h68=>?_) (fun h68=>?_)
        ·have hno:iu (ts[i]'(by omega))=false:=by rw[←he64];simpa using h68
         refine af (aa ?_)
         refine bA (vs:=[]) (r:=.agg (lW gN ii).toArray) Ig Ig fm ?_
         obtain⟨w18_1,s18_1,q18_1,k18_1⟩:=kD (d:=gN) (v:=ii) ((k2.ext e253).ext (((e5L.trans x16_3).trans x67))) rfl rfl rfl
         refine az Ig Ig s18_1 ?_
         have x18_1:=aE.of_new (((eL.trans x16_3).trans x67)) q18_1 l2
         refine ac Ig Ig (ag (ab (ay (bh (aB (aB (bh (aB ?_))))))))
         refine dP Ig Ig Ig k18_1 H1 Ig (iI Ig) ?_
         exact⟨_,rfl,x18_1,jS.err (by rw[hD,if_neg (by rw[DW (by omega) hall hno];simp)])⟩
        ·have hyes:iu (ts[i]'(by omega))=true:=by rw[←he64];simpa using h68
         refine ax (aM (ab (aa (ai (r:=I ((i+1:Nat):Int)) Ig Ig Ig (by have e:((i+1:Nat):Int)=(i:Int)+1:=(by omega);rw[e];exact aK (by omega) (by omega)) ?_))))
         refine ae Ig Ig (ag ?_)
         refine bP (i+1) ⟨rfl,rfl,rfl,rfl,rfl,rfl,rfl,trivial⟩ ⟨((eL.trans x16_3).trans x67),((e5L.trans x16_3).trans x67),by omega,DV (by omega) hall hyes⟩ (by omega)
       ·refine ba (aC (aC (aY (ab (af ?_)))))
        have hav:=zQ (by omega) hall
        obtain⟨v73,p73,b73⟩:=u9 (hv.ext eL) (lo:=4) (hi:=36) (by omega) (by omega) .i64 .i64
        have l73:((l.take 36).drop 4).length=32:=by rw[List.length_drop,List.length_take];omega
        obtain⟨ad4,p74,c74⟩:=FJ b73 l73
        have hts2:=hts.ext e5L
        obtain⟨At,nt,ct,evt⟩:=hts2.isS
        refine aa (ae Ig Ig (ae Ig Ig (db Ig Ig Ig Ig Ig (p73 _) (sk Ig Ig (p74 _) (am Ig Ig (zN c74 l73) (ae Ig Ig ?_))))))
        refine bA (vs:=[(0,.agg (((l.take 36).drop 4).map U8).toArray),(1,vt)]) (r:=.agg (lW ((l.take 36).drop 4) vt).toArray) Ig Ig (Bw l73 ⟨At,nt,ct,evt⟩) ?_
        obtain⟨w20_7,s20_7,q20_7,k20_7⟩:=kD (d:=(l.take 36).drop 4) (v:=vt) ((k2.ext e253).ext (e5L)) rfl l73 hts2.one
        refine az Ig Ig s20_7 ?_
        have x20_7:=aE.of_new (eL) q20_7 l2
        have m20:Mv (fun k=>k=g2) wL w20_7:=Mv.of_grown q20_7 fun k hk _=>(Option.some.inj hk).symm
        have r20:=rts.ext (e5L)
        refine ac Ig Ig (ag (ab (ay ?_)))
        refine dP Ig Ig Ig k20_7 H1 Ig (iI l73) ?_
        exact⟨_,rfl,x20_7,jS.ok (by rw[hD,if_pos hav]) (r20.mv (m20.weak (fun k hk hlt=>by have:k=g2:=hk;have:=k2.lt;have:=e2u.size;show k<w44.heap.size;omega)) fun k hk=>.inl (Nat.lt_of_lt_of_le hk (by have:=x2.size;have:=e2u.size;omega)))⟩
end Go.Rl
namespace Go.Rl
open Go.RowKit Go.Proofs
end Go.Rl
namespace Go.Rl
open Go.RowKit Go.Proofs
theorem fx:aw Tryz.prog 114:=⟨_,Tryz.func114,by kernel_rfl,rfl⟩
theorem f9:aw Tryz.prog 82:=⟨_,Tryz.func82,by kernel_rfl,rfl⟩
theorem fo:aw Tryz.prog 85:=⟨_,Tryz.func85,by kernel_rfl,rfl⟩
theorem yN:aw Tryz.prog 149:=⟨_,Tryz.func149,by kernel_rfl,rfl⟩
theorem iJ:aw Tryz.prog 148:=⟨_,Tryz.func148,by kernel_rfl,rfl⟩
theorem ly:aw Tryz.prog 147:=⟨_,Tryz.func147,by kernel_rfl,rfl⟩
theorem lz:aw Tryz.prog 115:=⟨_,Tryz.func115,by kernel_rfl,rfl⟩
theorem yO:aw Tryz.prog 77:=⟨_,Tryz.func77,by kernel_rfl,rfl⟩
theorem ij:(Tryz.prog.info? 22).map (·.size)=some 1:=by kernel_rfl
theorem ga {w:World} {g:Nat}:(Instr.fieldAt 142 (.pointer (some ⟨g,0,none⟩)) 0).run Tryz.prog w=.ok (.pointer (some ⟨g,0,none⟩)) w:=aI (o:=0) Tryz.underlying142 rfl (by kernel_rfl) rfl
def DX (T:TypeId) (base g:Nat) (l:List UInt8) (v:Value) (w:World) (w':World):Prop:=∃v',dR T base g l v' w'∧bO g v w v' w'
theorem DY {a:Int} (ha:kU a):∀n∈[a],kU n:=fun n hn=>by
 simp only[List.mem_cons,List.not_mem_nil,or_false] at hn
 subst hn;exact ha
theorem FN {a b:Int} (ha:kU a) (hb:kU b):∀n∈[a,b],kU n:=fun n hn=>by
 simp only[List.mem_cons,List.not_mem_nil,or_false] at hn
 rcases hn with rfl|rfl<;>assumption
theorem Hq {a b c d:Int} (ha:kU a) (hb:kU b) (hc:kU c) (hd:kU d):∀n∈[a,b,c,d],kU n:=fun n hn=>by
 simp only[List.mem_cons,List.not_mem_nil,or_false] at hn
 rcases hn with rfl|rfl|rfl|rfl<;>assumption
theorem rJ {α:Type} {f:α→List UInt8} (l:List α) (k:Nat):((l.take k).flatMap f).length≤(l.flatMap f).length:=by
 have h:(l.flatMap f)=(l.take k).flatMap f++(l.drop k).flatMap f:=by rw[←List.flatMap_append,List.take_append_drop]
 rw[h,List.length_append]
 omega
theorem dF {α:Type} {f:α→List UInt8} {l:List α} {i:Nat} (hi:i<l.length):((l.take i).flatMap f).length+(f l[i]).length≤(l.flatMap f).length:=by
 have h:=rJ (f:=f) l (i+1)
 rw[cg hi,List.length_append] at h
 exact h
theorem fy {T:TypeId} {w:World} {b g:Nat} {l:List UInt8} {n:Nat} {v:Value} (hW:dR T b g l v w) (h0:b≤w.heap.size) (hl:l.length≤35184372088832) (hn:n≤9223372036854775807):
 Calls Tryz.prog 114 #[.pointer (some ⟨g,0,none⟩),I (n:Int)] w (bL fun _ w'=>DX T b g (l++uv n) v w w'):=by
 refine enter (vs:=[.pointer (some ⟨g,0,none⟩),I (n:Int)]) Tryz.func114 Ig Ig Ig ?_
 have kg:=hW.blk
 have hun:(UInt64.ofNat n).toNat=n:=by rw[UInt64.toNat_ofNat'];omega
 refine uP 8 [8,9,10,11] [4,8,11] (by kernel_rfl) (by kernel_rfl) Ig Ig Ig ?_
 refine an Ig Ig (bm Ig Ig ?_)
 refine aA Ig Ig (fun w _=>ga) ?_
 refine av Ig Ig (fun w hw=>aj HF Ig (hw.cell_some kg.k0)) (an Ig Ig (cP Ig Ig (fun w hw=>dT HE HD) ?_))
 refine bM (S:=bQ (uv n)) ip (bQ.stable _) rfl (fun w hw=>by rintro _ rfl _ rfl;exact bL.mono (iq (n:=UInt64.ofNat n) (bQ.nil _) (by simp)) fun v w' h=>⟨h.1,by have:=h.2.bts;rwa [hun,List.nil_append] at this⟩) ?_
 refine bn ?_
 intro wg0 xg0
 rintro _ rfl
 rintro _ hq8
 obtain rfl:=Eq.symm hq8
 intro vg11 b11
 have hun2:=t5 n
 have hun3:=dO (n:=n) (by omega)
 obtain⟨v12,wa,wb,hr12,hs12,hW',st12⟩:=dR.put (t:=22) (t2:=22) (ty:=22) HF ij HF (hW.ext xg0) (Nat.le_trans h0 xg0.size) b11 (by omega) (by omega)
 refine aZ Ig Ig hr12 ?_
 refine aQ Ig Ig ?_
 refine ah Ig Ig ga ?_
 refine az Ig Ig (hs12) (ag (ul (fq Ig ?_)))
 exact⟨_,rfl,v12,hW',(bO.of_ext xg0).trans st12⟩
theorem gb {T:TypeId} {w:World} {b g:Nat} {l:List UInt8} {ns:List Int} {nv v:Value} (hW:dR T b g l v w) (h0:b≤w.heap.size) (hv:cz (WrX g v) w (FB ns) [nv]) (hi64:∀n∈ns,kU n) (hl:l.length+10*ns.length≤35184372088832):
 Calls Tryz.prog 82 #[.pointer (some ⟨g,0,none⟩),nv] w (bL fun _ w'=>DX T b g (l++ns.flatMap cT) v w w'):=by
 refine enter (vs:=[.pointer (some ⟨g,0,none⟩),nv]) Tryz.func82 Ig Ig Ig ?_
 have hd:dq jV ns nv w:=hv.rp
 have hll:=hd.len
 refine af (aa (ae Ig Ig (aO Ig Ig (bN H5 hd) (ae Ig Ig (ag (ab (au ?_)))))))
 refine d5 (fun(i:Nat) (u:Value)=>[(0,.pointer (some ⟨g,0,none⟩)),(6,nv),(7,I (ns.length:Int)),(8,I (i:Int))]) (fun(i:Nat) (u:Value) w'=>dR T b g (l++(ns.take i).flatMap cT) u w'∧bO g v w u w'∧i≤ns.length∧((ns.take i).flatMap cT).length≤10*i) (fun(i:Nat) (u:Value)=>ns.length-i) (0) (v) ⟨rfl,rfl,rfl,rfl,trivial⟩ ⟨by simpa using hW,bO.refl,by omega,by simp⟩ ?_
 rintro i u wL ⟨hW1,st1,hi,hle⟩
 refine af (aa (ai Ig Ig Ig (bb) (ag (ab (af ?_)))))
 refine bi Ig (fun h9=>?_) (fun h9=>?_)
 ·have hd1:dq jV ns nv wL:=(hv.step st1).rp
  refine ax (ab (af (au (af (aa ?_)))))
  obtain⟨a10,c10,p10,q10,h10⟩:=eA (P:=Tryz.prog) (sz:=1) H5 (by kernel_rfl) wh (by omega) hd1 (i:=i) (by omega) .i64
  obtain⟨e10,he10⟩:∃e,e=ns[i]'(by omega):=⟨_,rfl⟩
  rw[←he10] at h10
  obtain rfl:=EF h10
  refine aq Ig Ig Ig (p10 _) ?_
  have hn:=hi64 e10 (by rw[he10];exact List.getElem_mem _)
  have hen:=DQ hn
  refine am Ig Ig (aj HE Ig q10.cell0) (ac Ig Ig (ag (ab ?_)))
  have kg:=hW1.blk
  refine uP 7 [7,8,9,10] [0,6,7,8,12,16,18] (by kernel_rfl) (by kernel_rfl) Ig Ig Ig ?_
  refine an Ig Ig (bm Ig Ig ?_)
  refine aA Ig Ig (fun w _=>ga) ?_
  refine av rfl rfl (fun w hw=>aj Tryz.underlying22 rfl (hw.cell_some kg.k0)) (an rfl rfl (bM (S:=bQ (cT e10)) qG (bQ.stable _) rfl (fun w hw=>by rintro _ rfl _ rfl;exact bL.mono (qH (n:=e10) (bQ.nil _) (by simp) hn.1 hn.2) fun v w' h=>⟨h.1,by have:=h.2.bts;rwa [List.nil_append] at this⟩) ?_))
  refine bn ?_
  intro wg3 xg3
  rintro _ rfl
  rintro _ hq6
  obtain rfl:=Eq.symm hq6
  rintro _ rfl
  rintro _ rfl
  rintro _ rfl
  rintro _ hq16
  obtain rfl:=Eq.symm hq16
  intro vg18 b18
  obtain⟨v19,wa,wb,hr19,hs19,hW2,st19⟩:=dR.put (t:=22) (t2:=22) (ty:=22) Tryz.underlying22 ij Tryz.underlying22 (hW1.ext xg3) (Nat.le_trans h0 (Nat.le_trans st1.mv.size xg3.size)) b18 (by omega) (by simp only[List.length_append];omega)
  refine aZ Ig Ig hr19 ?_
  refine aQ Ig Ig ?_
  refine ah Ig Ig ga ?_
  refine az Ig Ig (hs19) (ag (ul (aM (ab (aa (ai (r:=I ((i+1:Nat):Int)) Ig Ig Ig (by have e:((i+1:Nat):Int)=(i:Int)+1:=(by omega);rw[e];exact aK (by omega) (by omega)) ?_))))))
  refine ae Ig Ig (ag ?_)
  refine cL (i+1) (v19) ⟨rfl,rfl,rfl,rfl,trivial⟩ ⟨by rw[cg (by omega),←he10,←List.append_assoc];exact hW2,(st1.trans (bO.of_ext xg3)).trans st19,by omega,by rw[cg (by omega),←he10,List.length_append];omega⟩ (by omega)
 ·refine ba (aC (aC (aY (fq Ig ?_))))
  exact⟨_,rfl,u,by rw[List.take_of_length_le (by omega)] at hW1;exact hW1,st1⟩
theorem fp {T:TypeId} {wz w:World} {g:Nat} {l:List UInt8} {q:d7} {x y v:Value} (ez:aE wz w) (hW:dR T wz.heap.size g l v w) (hx:bu q.2.1 x wz) (hy:bu q.2.2 y wz) (hl:l.length+(eZ q).length≤4398046511104):
 Calls Tryz.prog 85 #[.pointer (some ⟨g,0,none⟩),.agg #[B q.1,x,y]] w (bL fun _ w'=>DX T wz.heap.size g (l++eZ q) v w w'):=by
 refine enter (vs:=[.pointer (some ⟨g,0,none⟩),.agg #[B q.1,x,y]]) Tryz.func85 Ig Ig Ig ?_
 have hqa:=lr q
 have hq1:1≤(eZ q).length:=by simp only[eZ,nn,List.length_append,List.length_cons,List.length_nil];omega
 refine af (aa ?_)
 obtain⟨g3,w3,hr3,l3,x3,k3⟩:=cV (P:=Tryz.prog) (w:=w) (T:=46) (cs:=[B q.1,x,y])
 refine cI Ig Ig hr3 (ag (ab ?_))
 have hW3:=hW.ext x3
 have kg:=hW3.blk
 refine uP 7 [7,8,9,10] [4,8,10] (by kernel_rfl) (by kernel_rfl) Ig Ig Ig ?_
 refine an Ig Ig (bm Ig Ig ?_)
 refine aA Ig Ig (fun w _=>ga) ?_
 refine av Ig Ig (fun w hw=>aj HF Ig (hw.cell_some kg.k0)) (av Ig Ig (fun w hw=>(k3.ext hw).ld HG Ig (by kernel_rfl)) ?_)
 refine bM (S:=bQ (eZ q)) qL (bQ.stable _) rfl (fun w hw=>by rintro _ rfl _ rfl;exact bL.mono (qQ (bQ.nil _) (dV.mk ((hx.ext (ez.trans x3)).ext hw) ((hy.ext (ez.trans x3)).ext hw)) (by simp only[List.length_nil];omega)) fun v w' h=>⟨h.1,by have:=h.2.bts;rwa [List.nil_append] at this⟩) ?_
 refine bn ?_
 intro wg1 xg1
 rintro _ rfl
 rintro _ hq8
 obtain rfl:=Eq.symm hq8
 intro vg10 b10
 obtain⟨v11,wa,wb,hr11,hs11,hW2,st11⟩:=dR.put (t:=22) (t2:=22) (ty:=22) HF ij HF (hW3.ext xg1) (((ez.trans x3).trans xg1)).size b10 (by omega) (by omega)
 refine aZ Ig Ig hr11 ?_
 refine aQ Ig Ig ?_
 refine ah Ig Ig ga ?_
 refine az Ig Ig (hs11) (ag (ul (fq Ig ?_)))
 exact⟨_,rfl,v11,hW2,(bO.of_ext (x3.trans xg1)).trans st11⟩
theorem yP {T:TypeId} {wz w:World} {g:Nat} {l:List UInt8} {d:fa} {x y v:Value} (ez:aE wz w) (hW:dR T wz.heap.size g l v w) (hx:bu d.at_.2.1 x wz) (hy:bu d.at_.2.2 y wz) (hw:wD d) (hl:l.length+(rW d).length≤4398046511104):
 Calls Tryz.prog 149 #[.pointer (some ⟨g,0,none⟩),.agg #[I d.kd,I d.ix,B d.at_.1,x,y]] w (bL fun _ w'=>DX T wz.heap.size g (l++rW d) v w w'):=by
 refine enter (vs:=[.pointer (some ⟨g,0,none⟩),.agg #[I d.kd,I d.ix,B d.at_.1,x,y]]) Tryz.func149 Ig Ig Ig ?_
 have hdl:(rW d).length=(cT d.kd).length+(cT d.ix).length+(eZ d.at_).length:=by simp only[rW,List.length_append]
 refine af (aa ?_)
 obtain⟨g3,w3,hr3,l3,x3,k3⟩:=cV (P:=Tryz.prog) (w:=w) (T:=48) (cs:=[I d.kd,I d.ix,B d.at_.1,x,y])
 refine cI Ig Ig hr3 (ag (ab (af (aa (ae Ig Ig (ah Ig Ig (aI (o:=0) HT Ig (by kernel_rfl) Ig) ?_))))))
 refine am Ig Ig (aj HE Ig (k3.cell (i:=0) Ig)) (ah Ig Ig (aI (o:=1) HT Ig (by kernel_rfl) Ig) ?_)
 refine am Ig Ig (aj HE Ig (k3.cell (i:=1) Ig)) ?_
 obtain⟨v9,w9,hr9,x9,o9,ob9⟩:=ql (w:=w3) (w3).heap.size [d.kd,d.ix] (by simp) (Nat.le_refl _)
 refine aH (vs:=[(0,I d.kd),(1,I d.ix)]) Ig Ig hr9 ?_
 have hW3:=hW.ext x3
 have hW9:=hW3.ext x9
 refine ak f9 Ig Ig ((gb (ns:=[d.kd,d.ix]) hW9 (((ez.trans x3).trans x9)).size (o9.rpx (fun k hk=>hW3.off_new (o9.lt k hk).1)) (FN hw.1 hw.2) (by simp only[List.length_cons,List.length_nil];omega))) ?_
 rintro v10 w10 ⟨v10,hW10,st10⟩
 have x10:=st10.ext (((ez.trans x3).trans x9)) hW9.ge hW9.new
 have k3a:=st10.mv.blk (k3.ext x9) (hW.off_new l3)
 refine ag (ab (aa (ae rfl rfl (ah rfl rfl (aI (o:=2) Tryz.underlying48 rfl (by kernel_rfl) rfl) (am rfl rfl (k3a.ldO (ms:=[B d.at_.1,x,y]) (o:=2) (fun j v hj=>by rcases j with _|_|_|_|_|_|_|_|_|j<;>simp_all) Tryz.underlying46 rfl (by kernel_rfl)) ?_)))))
 refine ak fo Ig Ig ((fp (q:=d.at_) (x10) hW10 hx hy (by simp only[List.length_append,List.flatMap_cons,List.flatMap_nil,List.append_nil];omega))) ?_
 rintro v14 w14 ⟨v14,hW14,st14⟩
 have x14:=st14.ext (x10) hW10.ge hW10.new
 refine ag (fq Ig ?_)
 exact⟨_,rfl,v14,by simpa only[rW,List.flatMap_cons,List.flatMap_nil,List.append_nil,List.append_assoc] using hW14,((bO.of_ext (x3.trans x9)).trans st10).trans st14⟩
theorem iK {T:TypeId} {wz w:World} {g:Nat} {l:List UInt8} {ps:List eG} {pv v:Value} (ez:aE wz w) (hW:dR T wz.heap.size g l v w) (hd:dq fG ps pv wz) (hw:wP ps) (hl:l.length+(uf ps).length≤4398046511104):
 Calls Tryz.prog 148 #[.pointer (some ⟨g,0,none⟩),pv] w (bL fun _ w'=>DX T wz.heap.size g (l++uf ps) v w w'):=by
 refine enter (vs:=[.pointer (some ⟨g,0,none⟩),pv]) Tryz.func148 Ig Ig Ig ?_
 have hll:=hd.len
 have hpl:(uf ps).length=(uv ps.length).length+(ps.flatMap qY).length:=by simp only[uf,List.length_append]
 refine af (aa (ae Ig Ig (ae Ig Ig (aO Ig Ig (bN H0 (hd.ext ez)) (ak fx Ig Ig ((fy hW ez.size (by omega) (by omega))) ?_)))))
 rintro v9 w9 ⟨v9,hW9,st9⟩
 have x9:=st9.ext ez hW.ge hW.new
 refine ag (ab (af (aa (ae Ig Ig (aO Ig Ig (bN H0 (hd.ext x9)) (ae Ig Ig (ag (ab (au ?_)))))))))
 refine d5 (fun(i:Nat) (u:Value)=>[(0,.pointer (some ⟨g,0,none⟩)),(10,pv),(11,I (ps.length:Int)),(12,I (i:Int))]) (fun(i:Nat) (u:Value) w'=>dR T wz.heap.size g (l++uv ps.length++(ps.take i).flatMap qY) u w'∧bO g v w u w'∧aE wz w'∧i≤ps.length) (fun(i:Nat) (u:Value)=>ps.length-i) (0) (v9) ⟨rfl,rfl,rfl,rfl,trivial⟩ ⟨by simpa using hW9,st9,x9,by omega⟩ ?_
 rintro i u wL ⟨hW1,st1,eL,hi⟩
 refine af (aa (ai Ig Ig Ig (bb) (ag (ab (af ?_)))))
 refine bi Ig (fun h13=>?_) (fun h13=>?_)
 ·refine ax (ab (af (au (af (aa ?_)))))
  obtain⟨a14,c14,p14,q14,h14⟩:=eA (P:=Tryz.prog) (sz:=7) H0 (by kernel_rfl) kt (by omega) hd (i:=i) (by omega) .i64
  obtain⟨e14,he14⟩:∃e,e=ps[i]'(by omega):=⟨_,rfl⟩
  rw[←he14] at h14
  obtain⟨x14_0,x14_1,rfl,f14_0,f14_1⟩:=A2 h14
  refine aq Ig Ig Ig (p14 _) ?_
  have hm:=hw e14 (by rw[he14];exact List.getElem_mem _)
  have hfl:=dF (f:=qY) (l:=ps) (i:=i) (by omega)
  rw[←he14] at hfl
  have hml:(qY e14).length=(cT e14.kd).length+(cT e14.ix).length+(cT e14.lo).length+(cT e14.hi).length+(eZ e14.co).length:=by simp only[qY,List.length_append]
  refine am Ig Ig ((q14.ext eL).ld H8 Ig (by kernel_rfl)) ?_
  obtain⟨g5,w5,hr5,l5,x5,k5⟩:=aR (P:=Tryz.prog) (w:=wL) (t:=187) (z:=.agg #[I 0,I 0,I 0,I 0,B false,.slice none 0 0,.slice none 0 0]) (l:=[I 0,I 0,I 0,I 0,B false,.slice none 0 0,.slice none 0 0]) (by kernel_rfl) rfl
  refine aU Ig hr5 ?_
  obtain⟨w3_3,s3_3,q3_3,k3_3⟩:=k5.stS (P:=Tryz.prog) (t:=187) (m:=[I e14.kd,I e14.ix,I e14.lo,I e14.hi,B e14.co.1,x14_0,x14_1]) rfl (by kernel_rfl) (aT.cons rfl (aT.cons rfl (aT.cons rfl (aT.cons rfl (aT.cons rfl (aT.cons f14_0.one (aT.cons f14_1.one aT.nil)))))))
  refine az Ig Ig s3_3 ?_
  have x3_3:=aE.of_new (x5) q3_3 l5
  refine ag (ab (af (aa (ae Ig Ig (ah Ig Ig (aI (o:=0) H8 Ig (by kernel_rfl) Ig) (ah Ig Ig (aI (o:=0) Ib Ig (by kernel_rfl) Ig) ?_))))))
  refine am Ig Ig (aj HE Ig (k3_3.cell (i:=0) Ig)) (ah Ig Ig (aI (o:=0) H8 Ig (by kernel_rfl) Ig) ?_)
  refine ah Ig Ig (aI (o:=1) Ib Ig (by kernel_rfl) Ig) (am Ig Ig (aj HE Ig (k3_3.cell (i:=1) Ig)) ?_)
  refine ah Ig Ig (aI (o:=0) H8 Ig (by kernel_rfl) Ig) (ah Ig Ig (aI (o:=2) Ib Ig (by kernel_rfl) Ig) ?_)
  refine am Ig Ig (aj HE Ig (k3_3.cell (i:=2) Ig)) (ah Ig Ig (aI (o:=0) H8 Ig (by kernel_rfl) Ig) ?_)
  refine ah Ig Ig (aI (o:=3) Ib Ig (by kernel_rfl) Ig) (am Ig Ig (aj HE Ig (k3_3.cell (i:=3) Ig)) ?_)
  obtain⟨v29,w29,hr29,x29,o29,ob29⟩:=ql (w:=w3_3) (w3_3).heap.size [e14.kd,e14.ix,e14.lo,e14.hi] (by simp) (Nat.le_refl _)
  refine aH (vs:=[(0,I e14.kd),(1,I e14.ix),(2,I e14.lo),(3,I e14.hi)]) Ig Ig hr29 ?_
  have hWb:=hW1.ext x3_3
  have hWc:=hWb.ext x29
  refine ak f9 Ig Ig ((gb (ns:=[e14.kd,e14.ix,e14.lo,e14.hi]) hWc (((eL.trans x3_3).trans x29)).size (o29.rpx (fun k hk=>hWb.off_new (o29.lt k hk).1)) (Hq hm.1 hm.2.1 hm.2.2.1 hm.2.2.2) (by simp only[List.length_append,List.length_cons,List.length_nil];omega))) ?_
  rintro v30 w30 ⟨v30,hW30,st30⟩
  have x30:=st30.ext (((eL.trans x3_3).trans x29)) hWc.ge hWc.new
  have k5a:=st30.mv.blk (k3_3.ext x29) (hW1.off_new l5)
  refine ag (ab (aa (ae rfl rfl (ah rfl rfl (aI (o:=4) Tryz.underlying187 rfl (by kernel_rfl) rfl) (am rfl rfl (k5a.ldO (ms:=[B e14.co.1,x14_0,x14_1]) (o:=4) (fun j v hj=>by rcases j with _|_|_|_|_|_|_|_|_|j<;>simp_all) Tryz.underlying46 rfl (by kernel_rfl)) ?_)))))
  refine ak fo Ig Ig ((fp (q:=e14.co) (x30) hW30 f14_0 f14_1 (by simp only[List.length_append,List.flatMap_cons,List.flatMap_nil,List.append_nil];omega))) ?_
  rintro v34 w34 ⟨v34,hW34,st34⟩
  have x34:=st34.ext (x30) hW30.ge hW30.new
  refine ag (aM (ab (aa (ai (r:=I ((i+1:Nat):Int)) Ig Ig Ig (by have e:((i+1:Nat):Int)=(i:Int)+1:=(by omega);rw[e];exact aK (by omega) (by omega)) ?_))))
  refine ae Ig Ig (ag ?_)
  refine cL (i+1) (v34) ⟨rfl,rfl,rfl,rfl,trivial⟩ ⟨by
   rw[cg (by omega),←he14]
   simpa only[qY,List.flatMap_cons,List.flatMap_nil,List.append_nil,List.append_assoc] using hW34,((st1.trans (bO.of_ext (x3_3.trans x29))).trans st30).trans st34,x34,by omega⟩ (by omega)
 ·refine ba (aC (aC (aY (fq Ig ?_))))
  exact⟨_,rfl,u,by rw[List.take_of_length_le (by omega),List.append_assoc] at hW1;exact hW1,st1⟩
end Go.Rl
namespace Go.Rl
open Go.RowKit Go.Proofs
theorem zR (b:Bool):(EH b).length=1:=by cases b<;>rfl
theorem lA {T:TypeId} {wz w:World} {g:Nat} {l:List UInt8} {ls:List gn} {lv v:Value} (ez:aE wz w) (hW:dR T wz.heap.size g l v w) (hd:dq jf ls lv wz) (hw:∀m∈ls,wLm m) (hl:l.length+(ir ls).length≤4398046511104):
 Calls Tryz.prog 147 #[.pointer (some ⟨g,0,none⟩),lv] w (bL fun _ w'=>DX T wz.heap.size g (l++ir ls) v w w'):=by
 refine enter (vs:=[.pointer (some ⟨g,0,none⟩),lv]) Tryz.func147 Ig Ig Ig ?_
 have hll:=hd.len
 have hpl:(ir ls).length=(uv ls.length).length+(ls.flatMap mi).length:=by simp only[ir,List.length_append]
 refine af (aa (ae Ig Ig (ae Ig Ig (aO Ig Ig (bN H7 (hd.ext ez)) (ak fx Ig Ig ((fy hW ez.size (by omega) (by omega))) ?_)))))
 rintro v10 w10 ⟨v10,hW10,st10⟩
 have x10:=st10.ext ez hW.ge hW.new
 refine ag (ab (af (aa (ae Ig Ig (aO Ig Ig (bN H7 (hd.ext x10)) (ae Ig Ig (ag (ab (au ?_)))))))))
 refine d5 (fun(i:Nat) (u:Value)=>[(0,.pointer (some ⟨g,0,none⟩)),(11,lv),(12,I (ls.length:Int)),(13,I (i:Int))]) (fun(i:Nat) (u:Value) w'=>dR T wz.heap.size g (l++uv ls.length++(ls.take i).flatMap mi) u w'∧bO g v w u w'∧aE wz w'∧i≤ls.length) (fun(i:Nat) (u:Value)=>ls.length-i) (0) (v10) ⟨rfl,rfl,rfl,rfl,trivial⟩ ⟨by simpa using hW10,st10,x10,by omega⟩ ?_
 rintro i u wL ⟨hW1,st1,eL,hi⟩
 refine af (aa (ai Ig Ig Ig (bb) (ag (ab (af ?_)))))
 refine bi Ig (fun h14=>?_) (fun h14=>?_)
 ·refine ax (ab (af (au (af (aa ?_)))))
  obtain⟨a15,c15,p15,q15,h15⟩:=eA (P:=Tryz.prog) (sz:=6) H7 (by kernel_rfl) ov (by omega) hd (i:=i) (by omega) .i64
  obtain⟨e15,he15⟩:∃e,e=ls[i]'(by omega):=⟨_,rfl⟩
  rw[←he15] at h15
  obtain⟨x15_0,x15_1,x15_2,rfl,f15_0,f15_1,f15_2⟩:=Df h15
  refine aq Ig Ig Ig (p15 _) ?_
  have hm:=hw e15 (by rw[he15];exact List.getElem_mem _)
  have hfl:=dF (f:=mi) (l:=ls) (i:=i) (by omega)
  rw[←he15] at hfl
  have hbl:=zR e15.up
  have hml:(mi e15).length=(cT e15.un).length+(EH e15.up).length+(eZ e15.va).length+(uf e15.pf).length:=by simp only[mi,List.length_append]
  obtain⟨pre,hpre⟩:∃pre,pre=l++uv ls.length++(ls.take i).flatMap mi:=⟨_,rfl⟩
  have hprl:pre.length=l.length+(uv ls.length).length+((ls.take i).flatMap mi).length:=by rw[hpre];simp only[List.length_append]
  rw[←hpre] at hW1
  refine am Ig Ig ((q15.ext eL).ld H3 Ig (by kernel_rfl)) ?_
  obtain⟨g5,w5,hr5,l5,x5,k5⟩:=aR (P:=Tryz.prog) (w:=wL) (t:=173) (z:=.agg #[I 0,B false,B false,.slice none 0 0,.slice none 0 0,.slice none 0 0]) (l:=[I 0,B false,B false,.slice none 0 0,.slice none 0 0,.slice none 0 0]) (by kernel_rfl) rfl
  refine aU Ig hr5 ?_
  obtain⟨w3_3,s3_3,q3_3,k3_3⟩:=k5.stS (P:=Tryz.prog) (t:=173) (m:=[I e15.un,B e15.up,B e15.va.1,x15_0,x15_1,x15_2]) rfl (by kernel_rfl) (aT.cons rfl (aT.cons rfl (aT.cons rfl (aT.cons f15_0.one (aT.cons f15_1.one (aT.cons f15_2.one aT.nil))))))
  refine az Ig Ig s3_3 ?_
  have x3_3:=aE.of_new (x5) q3_3 l5
  refine ag (ab (af (aa (ae Ig Ig (ah Ig Ig (aI (o:=0) H3 Ig (by kernel_rfl) Ig) (am Ig Ig (aj HE Ig (k3_3.cell (i:=0) Ig)) ?_))))))
  obtain⟨v20,w20,hr20,x20,o20,ob20⟩:=ql (w:=w3_3) (w3_3).heap.size [e15.un] (by simp) (Nat.le_refl _)
  refine aH (vs:=[(0,I e15.un)]) Ig Ig hr20 ?_
  have hWb:=hW1.ext x3_3
  have hWc:=hWb.ext x20
  refine ak f9 Ig Ig ((gb (ns:=[e15.un]) hWc (((eL.trans x3_3).trans x20)).size (o20.rpx (fun k hk=>hWb.off_new (o20.lt k hk).1)) (DY hm.1) (by simp only[List.length_cons,List.length_nil];omega))) ?_
  rintro v21 w21 ⟨v21,hW21,st21⟩
  have x21:=st21.ext (((eL.trans x3_3).trans x20)) hWc.ge hWc.new
  have n5:=hW1.off_new l5
  have k5a:=st21.mv.blk (k3_3.ext x20) n5
  have n5a:=st21.off n5 (k3_3.ext x20).lt
  have kg:=hW21.blk
  have hc1:[e15.un].flatMap cT=cT e15.un:=by simp only[List.flatMap_cons,List.flatMap_nil,List.append_nil]
  rw[hc1] at hW21
  refine ag (ab (af (aa (ac Ig Ig (ag (ab (af (af (aa (ah Ig Ig (aI (o:=1) H3 Ig (by kernel_rfl) Ig) ?_))))))))))
  refine am Ig Ig (aj HO Ig (k5a.cell (i:=1) Ig)) (ag (ab ?_))
  refine iW Ig (fun h23=>?_) (fun h23=>?_)
  ·have hbit:EH e15.up=[1]:=by rw[h23];rfl
   refine aa (ac Ig Ig (ag (ab (af (aa (ae Ig Ig (ae Ig Ig (aQ Ig Ig ?_))))))))
   refine ah Ig Ig ga ?_
   refine am Ig Ig (aj HF Ig kg.k0) (ae Ig Ig ?_)
   obtain⟨v30,w30,hr30,x30,o30,ob30⟩:=ej (w:=w21) w21.heap.size [1] (by simp) (Nat.le_refl _)
   refine aH (vs:=[(0,U8 1)]) Ig Ig hr30 ?_
   obtain⟨v31,wa31,wb31,hr31,hs31,hW31,st31⟩:=dR.put (t:=22) (t2:=22) (ty:=22) Tryz.underlying22 ij Tryz.underlying22 (hW21.ext x30) ((x21.trans x30)).size o30.bts (by simp) (by simp only[List.length_append,List.length_cons,List.length_nil];omega)
   refine aZ Ig Ig hr31 ?_
   refine aQ Ig Ig ?_
   refine ah Ig Ig ga ?_
   refine az Ig Ig hs31 ?_
   have x31:=st31.ext ((x21.trans x30)) (hW21.ext x30).ge (hW21.ext x30).new
   have k5b:=st31.mv.blk (k5a.ext x30) n5a
   have n5b:=st31.off n5a (k5a.ext x30).lt
   rw[←hbit] at hW31
   refine ag (ab (af (aa (ae rfl rfl (ah rfl rfl (aI (o:=2) Tryz.underlying173 rfl (by kernel_rfl) rfl) (am rfl rfl (k5b.ldO (ms:=[B e15.va.1,x15_0,x15_1]) (o:=2) (fun j v hj=>by rcases j with _|_|_|_|_|_|_|_|_|j<;>simp_all) Tryz.underlying46 rfl (by kernel_rfl)) ?_))))))
   refine ak fo Ig Ig ((fp (q:=e15.va) (x31) hW31 f15_0 f15_1 (by simp only[List.length_append];omega))) ?_
   rintro v37 w37 ⟨v37,hW37,st37⟩
   have x37:=st37.ext (x31) hW31.ge hW31.new
   have k5c:=st37.mv.blk k5b n5b
   refine ag (ab (aa (ae Ig Ig (ah Ig Ig (aI (o:=5) H3 Ig (by kernel_rfl) Ig) (am Ig Ig (aj H0 Ig (k5c.cell (i:=5) Ig)) ?_)))))
   refine ak iJ Ig Ig ((iK (ps:=e15.pf) (x37) hW37 f15_2 hm.2 (by simp only[List.length_append];omega))) ?_
   rintro v41 w41 ⟨v41,hW41,st41⟩
   have x41:=st41.ext (x37) hW37.ge hW37.new
   refine ag (aM (ab (aa (ai (r:=I ((i+1:Nat):Int)) Ig Ig Ig (by have e:((i+1:Nat):Int)=(i:Int)+1:=(by omega);rw[e];exact aK (by omega) (by omega)) ?_))))
   refine ae Ig Ig (ag ?_)
   refine cL (i+1) (v41) ⟨rfl,rfl,rfl,rfl,trivial⟩ ⟨by
    rw[cg (by omega),←he15,←List.append_assoc,←hpre]
    simpa only[mi,List.append_assoc] using hW41,((((st1.trans (bO.of_ext (x3_3.trans x20))).trans st21).trans ((bO.of_ext x30).trans st31)).trans st37).trans st41,x41,by omega⟩ (by omega)
  ·have hbit:EH e15.up=[0]:=by rw[h23];rfl
   refine ax (ab (af (aa (ae Ig Ig (ae Ig Ig (aQ Ig Ig ?_))))))
   refine ah Ig Ig ga ?_
   refine am Ig Ig (aj HF Ig kg.k0) (ae Ig Ig ?_)
   obtain⟨v30,w30,hr30,x30,o30,ob30⟩:=ej (w:=w21) w21.heap.size [0] (by simp) (Nat.le_refl _)
   refine aH (vs:=[(0,U8 0)]) Ig Ig hr30 ?_
   obtain⟨v31,wa31,wb31,hr31,hs31,hW31,st31⟩:=dR.put (t:=22) (t2:=22) (ty:=22) Tryz.underlying22 ij Tryz.underlying22 (hW21.ext x30) ((x21.trans x30)).size o30.bts (by simp) (by simp only[List.length_append,List.length_cons,List.length_nil];omega)
   refine aZ Ig Ig hr31 ?_
   refine aQ Ig Ig ?_
   refine ah Ig Ig ga ?_
   refine az Ig Ig hs31 ?_
   have x31:=st31.ext ((x21.trans x30)) (hW21.ext x30).ge (hW21.ext x30).new
   have k5b:=st31.mv.blk (k5a.ext x30) n5a
   have n5b:=st31.off n5a (k5a.ext x30).lt
   rw[←hbit] at hW31
   refine ag (ab (af (aa (ae rfl rfl (ah rfl rfl (aI (o:=2) Tryz.underlying173 rfl (by kernel_rfl) rfl) (am rfl rfl (k5b.ldO (ms:=[B e15.va.1,x15_0,x15_1]) (o:=2) (fun j v hj=>by rcases j with _|_|_|_|_|_|_|_|_|j<;>simp_all) Tryz.underlying46 rfl (by kernel_rfl)) ?_))))))
   refine ak fo Ig Ig ((fp (q:=e15.va) (x31) hW31 f15_0 f15_1 (by simp only[List.length_append];omega))) ?_
   rintro v37 w37 ⟨v37,hW37,st37⟩
   have x37:=st37.ext (x31) hW31.ge hW31.new
   have k5c:=st37.mv.blk k5b n5b
   refine ag (ab (aa (ae Ig Ig (ah Ig Ig (aI (o:=5) H3 Ig (by kernel_rfl) Ig) (am Ig Ig (aj H0 Ig (k5c.cell (i:=5) Ig)) ?_)))))
   refine ak iJ Ig Ig ((iK (ps:=e15.pf) (x37) hW37 f15_2 hm.2 (by simp only[List.length_append];omega))) ?_
   rintro v41 w41 ⟨v41,hW41,st41⟩
   have x41:=st41.ext (x37) hW37.ge hW37.new
   refine ag (aM (ab (aa (ai (r:=I ((i+1:Nat):Int)) Ig Ig Ig (by have e:((i+1:Nat):Int)=(i:Int)+1:=(by omega);rw[e];exact aK (by omega) (by omega)) ?_))))
   refine ae Ig Ig (ag ?_)
   refine cL (i+1) (v41) ⟨rfl,rfl,rfl,rfl,trivial⟩ ⟨by
    rw[cg (by omega),←he15,←List.append_assoc,←hpre]
    simpa only[mi,List.append_assoc] using hW41,((((st1.trans (bO.of_ext (x3_3.trans x20))).trans st21).trans ((bO.of_ext x30).trans st31)).trans st37).trans st41,x41,by omega⟩ (by omega)
 ·refine ba (aC (aC (aY (fq Ig ?_))))
  exact⟨_,rfl,u,by rw[List.take_of_length_le (by omega),List.append_assoc] at hW1;exact hW1,st1⟩
theorem xq {T:TypeId} {wz w:World} {g:Nat} {l:List UInt8} {n:bc} {vl x y vk vp v:Value}
 (ih:∀k∈n.kids,∀{w:World} {l:List UInt8} {vl x y vk vp v:Value},aE wz w→dR T wz.heap.size g l v w→dq jf k.lems vl wz→bu k.split.at_.2.1 x wz→bu k.split.at_.2.2 y wz→dq cw k.kids vk wz→dq fG k.pf vp wz→wN k→l.length+(dC k).length≤4398046511104→
   Calls Tryz.prog 115 #[.pointer (some ⟨g,0,none⟩),.agg #[vl,I k.split.kd,I k.split.ix,B k.split.at_.1,x,y,vk,B k.empty,vp]] w (bL fun _ w'=>DX T wz.heap.size g (l++dC k) v w w'))
 (ez:aE wz w) (hW:dR T wz.heap.size g l v w) (hl:dq jf n.lems vl wz) (hx:bu n.split.at_.2.1 x wz) (hy:bu n.split.at_.2.2 y wz) (hk:dq cw n.kids vk wz) (hp:dq fG n.pf vp wz) (hw:wN n) (hb:l.length+(dC n).length≤4398046511104):
 Calls Tryz.prog 115 #[.pointer (some ⟨g,0,none⟩),.agg #[vl,I n.split.kd,I n.split.ix,B n.split.at_.1,x,y,vk,B n.empty,vp]] w (bL fun _ w'=>DX T wz.heap.size g (l++dC n) v w w'):=by
 refine enter (vs:=[.pointer (some ⟨g,0,none⟩),.agg #[vl,I n.split.kd,I n.split.ix,B n.split.at_.1,x,y,vk,B n.empty,vp]]) Tryz.func115 Ig Ig Ig ?_
 have hll:=hk.len
 obtain⟨wl,wd,wp,wk⟩:=(Gq n).1 hw
 have hen:=Dh n
 refine af (aa ?_)
 obtain⟨g3,w3,hr3,l3,x3,k3⟩:=cV (P:=Tryz.prog) (w:=w) (T:=52) (cs:=[vl,I n.split.kd,I n.split.ix,B n.split.at_.1,x,y,vk,B n.empty,vp])
 refine cI Ig Ig hr3 (ag (ab (af (aa (ac Ig Ig (ag (ab (af (au (af (aa (ah Ig Ig (aI (o:=6) HI Ig (by kernel_rfl) Ig) ?_))))))))))))
 refine am Ig Ig (aj HJ Ig (k3.cell (i:=6) Ig)) (aO Ig Ig (bN HJ (hk.ext (ez.trans x3))) ?_)
 refine ai Ig Ig Ig (cB) (ac Ig Ig (ag (ab ?_)))
 refine bi Ig (fun h7=>?_) (fun h7=>?_)
 ·have h0:¬n.kids.length=0:=by omega
  rw[if_neg h0] at hen
  have hel:(dC n).length=1+(ir n.lems).length+(rW n.split).length+(n.kids.flatMap dC).length:=by rw[hen];simp only[List.length_append,List.length_cons,List.length_nil]
  refine aa (ac Ig Ig (ag (aM (ab (af ?_)))))
  have hW3:=hW.ext x3
  have kg:=hW3.blk
  have n3:=hW.off_new l3
  refine aa (ae Ig Ig (ae Ig Ig (aQ Ig Ig ?_)))
  refine ah Ig Ig ga ?_
  refine am Ig Ig (aj HF Ig kg.k0) (ae Ig Ig ?_)
  obtain⟨v21,w21,hr21,x21,o21,ob21⟩:=ej (w:=w3) w3.heap.size [2] (by simp) (Nat.le_refl _)
  refine aH (vs:=[(0,U8 2)]) Ig Ig hr21 ?_
  obtain⟨v22,wa22,wb22,hr22,hs22,hW22,st22⟩:=dR.put (t:=22) (t2:=22) (ty:=22) Tryz.underlying22 ij Tryz.underlying22 (hW3.ext x21) (((ez.trans x3).trans x21)).size o21.bts (by simp) (by simp only[List.length_cons,List.length_nil];omega)
  refine aZ Ig Ig hr22 ?_
  refine aQ Ig Ig ?_
  refine ah Ig Ig ga ?_
  refine az Ig Ig hs22 ?_
  have x22:=st22.ext (((ez.trans x3).trans x21)) (hW3.ext x21).ge (hW3.ext x21).new
  have k3a:=st22.mv.blk (k3.ext x21) n3
  have n3a:=st22.off n3 (k3.ext x21).lt
  refine ag (ab (af (aa (ae Ig Ig (ah Ig Ig (aI (o:=0) HI Ig (by kernel_rfl) Ig) (am Ig Ig (aj H7 Ig (k3a.cell (i:=0) Ig)) ?_))))))
  refine ak ly Ig Ig ((lA (ls:=n.lems) (x22) hW22 hl wl (by simp only[List.length_append,List.length_cons,List.length_nil];omega))) ?_
  rintro v28 w28 ⟨v28,hW28,st28⟩
  have x28:=st28.ext (x22) hW22.ge hW22.new
  have k3b:=st28.mv.blk k3a n3a
  have n3b:=st28.off n3a k3a.lt
  refine ag (ab (af (af (aa (ae Ig Ig ?_)))))
  refine ai (u:=U8 2) (v:=U8 2) (r:=B false) Ig Ig Ig (eU (show ¬(2:UInt8)<2 by decide) m2) ?_
  refine ag (ab (eS Ig (ax (ab (af (aa (ae Ig Ig (ah Ig Ig (aI (o:=1) HI Ig (by kernel_rfl) Ig) ?_))))))))
  refine am rfl rfl (k3b.ldO (ms:=[I n.split.kd,I n.split.ix,B n.split.at_.1,x,y]) (o:=1) (fun j v hj=>by rcases j with _|_|_|_|_|_|_|_|_|j<;>simp_all) Tryz.underlying48 rfl (by kernel_rfl)) ?_
  refine ak yN Ig Ig ((yP (d:=n.split) (x28) hW28 hx hy wd (by simp only[List.length_append,List.length_cons,List.length_nil];omega))) ?_
  rintro v38 w38 ⟨v38,hW38,st38⟩
  have x38:=st38.ext (x28) hW28.ge hW28.new
  have k3c:=st38.mv.blk k3b n3b
  obtain⟨pre,hpre⟩:∃pre,pre=l++[2]++ir n.lems++rW n.split:=⟨_,rfl⟩
  have hprl:pre.length=l.length+1+(ir n.lems).length+(rW n.split).length:=by rw[hpre];simp only[List.length_append,List.length_cons,List.length_nil]
  rw[←hpre] at hW38
  refine ag (ab (af (aa (ah Ig Ig (aI (o:=6) HI Ig (by kernel_rfl) Ig) (am Ig Ig (aj HJ Ig (k3c.cell (i:=6) Ig)) ?_)))))
  refine aO Ig Ig (bN (f:=cw) HJ (hk.ext (x38))) ?_
  refine ae Ig Ig (ag (ab (au ?_)))
  refine d5 (fun(i:Nat) (u:Value)=>[(0,.pointer (some ⟨g,0,none⟩)),(40,vk),(41,I (n.kids.length:Int)),(42,I (i:Int))]) (fun(i:Nat) (u:Value) w'=>dR T wz.heap.size g (pre++(n.kids.take i).flatMap dC) u w'∧bO g v w u w'∧aE wz w'∧i≤n.kids.length) (fun(i:Nat) (u:Value)=>n.kids.length-i) (0) (v38) ⟨rfl,rfl,rfl,rfl,trivial⟩ ⟨by simpa using hW38,(((bO.of_ext (x3.trans x21)).trans st22).trans st28).trans st38,x38,by omega⟩ ?_
  rintro i u wL ⟨hW1,st1,eL,hi⟩
  refine af (aa (ai Ig Ig Ig (bb) (ag (ab (af ?_)))))
  refine bi Ig (fun h43=>?_) (fun h43=>?_)
  ·refine ax (ab (af (au (af (aa ?_)))))
   obtain⟨a44,c44,p44,q44,h44⟩:=eA (P:=Tryz.prog) (sz:=9) HJ (by kernel_rfl) cF (by omega) hk (i:=i) (by omega) .i64
   obtain⟨e44,he44⟩:∃e,e=n.kids[i]'(by omega):=⟨_,rfl⟩
   rw[←he44] at h44
   obtain⟨x44_0,x44_1,x44_2,x44_3,x44_4,rfl,f44_0,f44_1,f44_2,f44_3,f44_4⟩:=iQ h44
   refine aq Ig Ig Ig (p44 _) ?_
   have hfl:=dF (f:=dC) (l:=n.kids) (i:=i) (by omega)
   rw[←he44] at hfl
   have hmem:e44∈n.kids:=by rw[he44];exact List.getElem_mem _
   refine am Ig Ig ((q44.ext eL).ld HI Ig (by kernel_rfl)) ?_
   obtain⟨g6,w6,hr6,l6,x6,k6⟩:=aR (P:=Tryz.prog) (w:=wL) (t:=52) (z:=.agg #[.slice none 0 0,I 0,I 0,B false,.slice none 0 0,.slice none 0 0,.slice none 0 0,B false,.slice none 0 0]) (l:=[.slice none 0 0,I 0,I 0,B false,.slice none 0 0,.slice none 0 0,.slice none 0 0,B false,.slice none 0 0]) (by kernel_rfl) rfl
   refine aU Ig hr6 ?_
   obtain⟨w13_3,s13_3,q13_3,k13_3⟩:=k6.stS (P:=Tryz.prog) (t:=52) (m:=[x44_0,I e44.split.kd,I e44.split.ix,B e44.split.at_.1,x44_1,x44_2,x44_3,B e44.empty,x44_4]) rfl (by kernel_rfl) (aT.cons f44_0.one (aT.cons rfl (aT.cons rfl (aT.cons rfl (aT.cons f44_1.one (aT.cons f44_2.one (aT.cons f44_3.one (aT.cons rfl (aT.cons f44_4.one aT.nil)))))))))
   refine az Ig Ig s13_3 ?_
   have x13_3:=aE.of_new (x6) q13_3 l6
   refine ag (ab (aa (ae Ig Ig (am Ig Ig (k13_3.ld Tryz.underlying52 Ig (by kernel_rfl)) (ak lz Ig Ig ((ih e44 hmem ((eL.trans x13_3)) (hW1.ext x13_3) f44_0 f44_1 f44_2 f44_3 f44_4 (wk e44 hmem) (by simp only[List.length_append];omega))) ?_)))))
   rintro v48 w48 ⟨v48,hW48,st48⟩
   have x48:=st48.ext ((eL.trans x13_3)) hW1.ge hW1.new
   refine ag (aM (ab (aa (ai (r:=I ((i+1:Nat):Int)) Ig Ig Ig (by have e:((i+1:Nat):Int)=(i:Int)+1:=(by omega);rw[e];exact aK (by omega) (by omega)) ?_))))
   refine ae Ig Ig (ag ?_)
   refine cL (i+1) (v48) ⟨rfl,rfl,rfl,rfl,trivial⟩ ⟨by rw[cg (by omega),←he44,←List.append_assoc];exact hW48,(st1.trans (bO.of_ext x13_3)).trans st48,x48,by omega⟩ (by omega)
  ·refine ba (aC (aC (aY (fq Ig ?_))))
   exact⟨_,rfl,u,by rw[List.take_of_length_le (by omega),hpre] at hW1;rw[hen];simpa only[List.append_assoc] using hW1,st1⟩
 ·have h0:n.kids.length=0:=by omega
  rw[if_pos h0] at hen
  have hel:(dC n).length=1+(ir n.lems).length+(uf n.pf).length:=by rw[hen];simp only[List.length_append,zR]
  refine af (aa (ah Ig Ig (aI (o:=7) HI Ig (by kernel_rfl) Ig) (am Ig Ig (aj HO Ig (k3.cell (i:=7) Ig)) ?_)))
  refine ac Ig Ig (ag (ab ?_))
  refine iW Ig (fun h12=>?_) (fun h12=>?_)
  ·have hbit:EH n.empty=[1]:=by rw[h12];rfl
   refine aa (ac Ig Ig (ag (aM (ab (af ?_)))))
   have hW3:=hW.ext x3
   have kg:=hW3.blk
   have n3:=hW.off_new l3
   refine aa (ae Ig Ig (ae Ig Ig (aQ Ig Ig ?_)))
   refine ah Ig Ig ga ?_
   refine am Ig Ig (aj HF Ig kg.k0) (ae Ig Ig ?_)
   obtain⟨v21,w21,hr21,x21,o21,ob21⟩:=ej (w:=w3) w3.heap.size [1] (by simp) (Nat.le_refl _)
   refine aH (vs:=[(0,U8 1)]) Ig Ig hr21 ?_
   obtain⟨v22,wa22,wb22,hr22,hs22,hW22,st22⟩:=dR.put (t:=22) (t2:=22) (ty:=22) Tryz.underlying22 ij Tryz.underlying22 (hW3.ext x21) (((ez.trans x3).trans x21)).size o21.bts (by simp) (by simp only[List.length_cons,List.length_nil];omega)
   refine aZ Ig Ig hr22 ?_
   refine aQ Ig Ig ?_
   refine ah Ig Ig ga ?_
   refine az Ig Ig hs22 ?_
   have x22:=st22.ext (((ez.trans x3).trans x21)) (hW3.ext x21).ge (hW3.ext x21).new
   have k3a:=st22.mv.blk (k3.ext x21) n3
   have n3a:=st22.off n3 (k3.ext x21).lt
   refine ag (ab (af (aa (ae Ig Ig (ah Ig Ig (aI (o:=0) HI Ig (by kernel_rfl) Ig) (am Ig Ig (aj H7 Ig (k3a.cell (i:=0) Ig)) ?_))))))
   refine ak ly Ig Ig ((lA (ls:=n.lems) (x22) hW22 hl wl (by simp only[List.length_append,List.length_cons,List.length_nil];omega))) ?_
   rintro v28 w28 ⟨v28,hW28,st28⟩
   have x28:=st28.ext (x22) hW22.ge hW22.new
   have k3b:=st28.mv.blk k3a n3a
   have n3b:=st28.off n3a k3a.lt
   refine ag (ab (af (af (aa (ae Ig Ig ?_)))))
   refine ai (u:=U8 1) (v:=U8 2) (r:=B true) Ig Ig Ig (dW (show(1:UInt8)<2 by decide) m2) ?_
   refine ag (ab (ce Ig (af (aa (ae Ig Ig (ah Ig Ig (aI (o:=8) HI Ig (by kernel_rfl) Ig) (am Ig Ig (aj H0 Ig (k3b.cell (i:=8) Ig)) ?_)))))))
   refine ak iJ Ig Ig ((iK (ps:=n.pf) (x28) hW28 hp wp (by simp only[List.length_append,List.length_cons,List.length_nil];omega))) ?_
   rintro v34 w34 ⟨v34,hW34,st34⟩
   have x34:=st34.ext (x28) hW28.ge hW28.new
   refine ag (ab (ay (aB (tE Ig ?_))))
   exact⟨_,rfl,v34,by rw[hen,hbit];simpa only[List.append_assoc] using hW34,(((bO.of_ext (x3.trans x21)).trans st22).trans st28).trans st34⟩
  ·have hbit:EH n.empty=[0]:=by rw[h12];rfl
   refine ax (aM (ab (af ?_)))
   have hW3:=hW.ext x3
   have kg:=hW3.blk
   have n3:=hW.off_new l3
   refine aa (ae Ig Ig (ae Ig Ig (aQ Ig Ig ?_)))
   refine ah Ig Ig ga ?_
   refine am Ig Ig (aj HF Ig kg.k0) (ae Ig Ig ?_)
   obtain⟨v21,w21,hr21,x21,o21,ob21⟩:=ej (w:=w3) w3.heap.size [0] (by simp) (Nat.le_refl _)
   refine aH (vs:=[(0,U8 0)]) Ig Ig hr21 ?_
   obtain⟨v22,wa22,wb22,hr22,hs22,hW22,st22⟩:=dR.put (t:=22) (t2:=22) (ty:=22) Tryz.underlying22 ij Tryz.underlying22 (hW3.ext x21) (((ez.trans x3).trans x21)).size o21.bts (by simp) (by simp only[List.length_cons,List.length_nil];omega)
   refine aZ Ig Ig hr22 ?_
   refine aQ Ig Ig ?_
   refine ah Ig Ig ga ?_
   refine az Ig Ig hs22 ?_
   have x22:=st22.ext (((ez.trans x3).trans x21)) (hW3.ext x21).ge (hW3.ext x21).new
   have k3a:=st22.mv.blk (k3.ext x21) n3
   have n3a:=st22.off n3 (k3.ext x21).lt
   refine ag (ab (af (aa (ae Ig Ig (ah Ig Ig (aI (o:=0) HI Ig (by kernel_rfl) Ig) (am Ig Ig (aj H7 Ig (k3a.cell (i:=0) Ig)) ?_))))))
   refine ak ly Ig Ig ((lA (ls:=n.lems) (x22) hW22 hl wl (by simp only[List.length_append,List.length_cons,List.length_nil];omega))) ?_
   rintro v28 w28 ⟨v28,hW28,st28⟩
   have x28:=st28.ext (x22) hW22.ge hW22.new
   have k3b:=st28.mv.blk k3a n3a
   have n3b:=st28.off n3a k3a.lt
   refine ag (ab (af (af (aa (ae Ig Ig ?_)))))
   refine ai (u:=U8 0) (v:=U8 2) (r:=B true) Ig Ig Ig (dW (show(0:UInt8)<2 by decide) m2) ?_
   refine ag (ab (ce Ig (af (aa (ae Ig Ig (ah Ig Ig (aI (o:=8) HI Ig (by kernel_rfl) Ig) (am Ig Ig (aj H0 Ig (k3b.cell (i:=8) Ig)) ?_)))))))
   refine ak iJ Ig Ig ((iK (ps:=n.pf) (x28) hW28 hp wp (by simp only[List.length_append,List.length_cons,List.length_nil];omega))) ?_
   rintro v34 w34 ⟨v34,hW34,st34⟩
   have x34:=st34.ext (x28) hW28.ge hW28.new
   refine ag (ab (ay (aB (tE Ig ?_))))
   exact⟨_,rfl,v34,by rw[hen,hbit];simpa only[List.append_assoc] using hW34,(((bO.of_ext (x3.trans x21)).trans st22).trans st28).trans st34⟩
theorem lB {T:TypeId} {wz:World} {g:Nat}:∀(m:Nat) {n:bc},SizeOf.sizeOf n≤m→∀{w:World} {l:List UInt8} {vl x y vk vp v:Value},aE wz w→dR T wz.heap.size g l v w→dq jf n.lems vl wz→bu n.split.at_.2.1 x wz→bu n.split.at_.2.2 y wz→dq cw n.kids vk wz→dq fG n.pf vp wz→wN n→l.length+(dC n).length≤4398046511104→
 Calls Tryz.prog 115 #[.pointer (some ⟨g,0,none⟩),.agg #[vl,I n.split.kd,I n.split.ix,B n.split.at_.1,x,y,vk,B n.empty,vp]] w (bL fun _ w'=>DX T wz.heap.size g (l++dC n) v w w')
 |0,n,hm=>by cases n;simp at hm
 |m+1,n,hm=>fun h1 h2 h3 h4 h5 h6 h7 h8 h9=>xq (fun k hk _ _ _ _ _ _ _ _=>lB m (by have:=bc.lt_of_mem hk;omega)) h1 h2 h3 h4 h5 h6 h7 h8 h9
theorem dR.mk1 {T:TypeId} {w0 w w':World} {g:Nat} {l:List UInt8} {v:Value} (e:aE w0 w) (ho:bZ w0.heap.size l v w) (x:aE w w') (hg:w.heap.size≤g) (k:bI g T [v] w'):dR T w0.heap.size g l v w':=
 ⟨Nat.le_trans e.size hg,k,.inl (ho.ext x),ho.ge,fun h=>by have:=ho.lt g h;omega,fun n hn=>Nat.lt_of_lt_of_le (ho.lt n hn) x.size⟩
theorem yQ {w:World} {b:List UInt8} {bv:Value} {n:bc} {vl x y vk vp:Value} (hbv:bQ b bv w) (hl:dq jf n.lems vl w) (hx:bu n.split.at_.2.1 x w) (hy:bu n.split.at_.2.2 y w) (hk:dq cw n.kids vk w) (hp:dq fG n.pf vp w) (hw:wN n) (hb:b.length+(dC n).length≤4398046511104):
 Calls Tryz.prog 77 #[bv,.agg #[vl,I n.split.kd,I n.split.ix,B n.split.at_.1,x,y,vk,B n.empty,vp]] w (bL fun r w'=>aE w w'∧bQ (b++dC n) r w'):=by
 refine enter (vs:=[bv,.agg #[vl,I n.split.kd,I n.split.ix,B n.split.at_.1,x,y,vk,B n.empty,vp]]) Tryz.func77 Ig Ig Ig ?_
 refine af (aa ?_)
 obtain⟨g3,w3,hr3,l3,x3,k3⟩:=cV (P:=Tryz.prog) (w:=w) (T:=52) (cs:=[vl,I n.split.kd,I n.split.ix,B n.split.at_.1,x,y,vk,B n.empty,vp])
 refine cI Ig Ig hr3 (ac Ig Ig (ag (ab (af (aa ?_)))))
 obtain⟨v6,w6,hr6,x6,o6,ob6⟩:=ej (w:=w3) w3.heap.size [] (by simp) (Nat.le_refl _)
 refine aH (vs:=[]) Ig Ig hr6 (ae Ig Ig ?_)
 obtain⟨v8,w8,hr8,o8,g8⟩:=dc (ty:=22) o6 (hbv.ext (x3.trans x6)) (by simp;omega) (x6).size
 have x8:=aE.of_grew (x6) g8 o6.ge
 refine aZ Ig Ig hr8 ?_
 have o8w:bZ w.heap.size b v8 w8:=by have:=o8;rw[List.nil_append] at this;exact this.low x3.size
 obtain⟨A8,n8,c8,e8,_⟩:=o8w.bts
 refine bA (vs:=[(0,v8)]) (r:=.agg #[v8]) Ig Ig (by rw[e8];exact run_build _ _ _ _ (by kernel_rfl)) ?_
 obtain⟨g10,w10,hr10,l10,x10,k10⟩:=cV (P:=Tryz.prog) (w:=w8) (T:=142) (cs:=[v8])
 refine cI Ig Ig hr10 ?_
 have hW10:dR 142 w.heap.size g10 b v8 w10:=dR.mk1 ((x3.trans x8)) o8w x10 l10 k10
 refine ac Ig Ig (ag (ab (af (aa (ae Ig Ig (am Ig Ig ((k3.ext (x8.trans x10)).ld HI Ig (by kernel_rfl)) ?_))))))
 refine ak lz Ig Ig ((lB _ (Nat.le_refl _) (((x3.trans x8).trans x10)) hW10 hl hx hy hk hp hw hb)) ?_
 rintro v13 w13 ⟨v13,hW13,st13⟩
 have x13:=st13.ext (((x3.trans x8).trans x10)) hW10.ge hW10.new
 refine ag (ab (af ?_))
 have kg:=hW13.blk
 refine aa (ae Ig Ig (aQ Ig Ig ?_))
 refine ah Ig Ig ga ?_
 refine am Ig Ig (aj HF Ig kg.k0) (ac Ig Ig (ag (ab (ay (aD Ig Ig ?_)))))
 exact⟨_,rfl,x13,hW13.row.bts⟩
end Go.Rl
namespace Go.Rl
open Go.RowKit Go.Proofs
structure pj where
 va:Int
 co:d7
structure ma where
 ts:List pj
 ct:d7
structure Ee where
 inp:Int
 us:List ma
 os:List ma
 lo:List d7
 hi:List d7
 rs:List ma
 kd:Int
 tg:Int
 mg:d7
 cs:List ma
def jT (t:pj):Dt:=.st [jV t.va,cN t.co]
def dS (f:ma):Dt:=.st [.sl (f.ts.map jT),cN f.ct]
def FO (q:Ee):Dt:=.st [.st [jV q.inp,.sl (q.us.map dS),.sl (q.os.map dS)],.st [qX q.lo,qX q.hi,.sl (q.rs.map dS)],.st [jV q.kd,jV q.tg,cN q.mg,.sl (q.cs.map dS)]]
def gc (t:pj):List UInt8:=cT t.va++eZ t.co
def gd (f:ma):List UInt8:=uv f.ts.length++f.ts.flatMap gc++eZ f.ct
def bS (l:List ma):List UInt8:=uv l.length++l.flatMap gd
def d8 (l:List d7):List UInt8:=uv l.length++l.flatMap eZ
def oH:List UInt8:=[82,76,85,81]
def d9 (q:Ee):List UInt8:=oH++cT q.inp++bS q.us++bS q.os++d8 q.lo++d8 q.hi++bS q.rs++cT q.kd++cT q.tg++eZ q.mg++bS q.cs
section
variable {w:World} {cs:List Value}
theorem oI {t:pj} (h:Rp w (jT t) cs):∃x y,cs=[I t.va,B t.co.1,x,y]∧bu t.co.2.1 x w∧bu t.co.2.2 y w:=by
 simp only[jT,jV,bC,Rp.eq_5,Rp.eq_1] at h
 obtain⟨_,_,rfl,rfl,_,_,rfl,h1,rfl⟩:=h
 obtain⟨x,y,rfl,hx,hy⟩:=fF h1
 exact⟨x,y,rfl,hx,hy⟩
theorem jU {f:ma} (h:Rp w (dS f) cs):∃v x y,cs=[v,B f.ct.1,x,y]∧dq jT f.ts v w∧bu f.ct.2.1 x w∧bu f.ct.2.2 y w:=by
 simp only[dS,bC,Rp.eq_5] at h
 obtain⟨_,_,rfl,h0,_,_,rfl,h1,rfl⟩:=h
 obtain⟨v,rfl,hv,_⟩:=Rp.isSlice h0
 obtain⟨x,y,rfl,hx,hy⟩:=fF h1
 exact⟨v,x,y,rfl,hv,hx,hy⟩
theorem mR (t:pj):(jT t).size=4:=rfl
theorem iU (f:ma):(dS f).size=4:=rfl
end
end Go.Rl
namespace Go.Rl
open Go.RowKit Go.Proofs
theorem rK:aw Tryz.prog 84:=⟨_,Tryz.func84,by kernel_rfl,rfl⟩
theorem jn:aw Tryz.prog 83:=⟨_,Tryz.func83,by kernel_rfl,rfl⟩
theorem cX:aw Tryz.prog 37:=⟨_,Tryz.func37,by kernel_rfl,rfl⟩
theorem lC {w:World} {g:Nat}:(Instr.fieldAt 144 (.pointer (some ⟨g,0,none⟩)) 0).run Tryz.prog w=.ok (.pointer (some ⟨g,0,none⟩)) w:=aI (o:=0) Tryz.underlying144 rfl (by kernel_rfl) rfl
def wTm (t:pj):Prop:=kU t.va
def Ef (f:ma):Prop:=∀t∈f.ts,wTm t
def GP (q:Ee):Prop:=kU q.inp∧(∀f∈q.us,Ef f)∧(∀f∈q.os,Ef f)∧(∀f∈q.rs,Ef f)∧kU q.kd∧kU q.tg∧∀f∈q.cs,Ef f
theorem rL {T:TypeId} {wz w:World} {g:Nat} {l:List UInt8} {qs:List d7} {qv v:Value} (ez:aE wz w) (hW:dR T wz.heap.size g l v w) (hd:dq cN qs qv wz) (hl:l.length+(d8 qs).length≤4398046511104):
 Calls Tryz.prog 84 #[.pointer (some ⟨g,0,none⟩),qv] w (bL fun _ w'=>DX T wz.heap.size g (l++d8 qs) v w w'):=by
 refine enter (vs:=[.pointer (some ⟨g,0,none⟩),qv]) Tryz.func84 Ig Ig Ig ?_
 have hll:=hd.len
 have hpl:(d8 qs).length=(uv qs.length).length+(qs.flatMap eZ).length:=by simp only[d8,List.length_append]
 refine af (aa (ae Ig Ig (aQ Ig Ig ?_)))
 refine ah Ig Ig lC ?_
 refine ae Ig Ig (aO Ig Ig (bN HV (hd.ext ez)) (ak fx Ig Ig ((fy hW ez.size (by omega) (by omega))) ?_))
 rintro v11 w11 ⟨v11,hW11,st11⟩
 have x11:=st11.ext ez hW.ge hW.new
 refine ag (ab (af (aa (ae Ig Ig (aO Ig Ig (bN HV (hd.ext x11)) (ae Ig Ig (ag (ab (au ?_)))))))))
 refine d5 (fun(i:Nat) (u:Value)=>[(0,.pointer (some ⟨g,0,none⟩)),(12,qv),(13,I (qs.length:Int)),(14,I (i:Int))]) (fun(i:Nat) (u:Value) w'=>dR T wz.heap.size g (l++uv qs.length++(qs.take i).flatMap eZ) u w'∧bO g v w u w'∧aE wz w'∧i≤qs.length) (fun(i:Nat) (u:Value)=>qs.length-i) (0) (v11) ⟨rfl,rfl,rfl,rfl,trivial⟩ ⟨by simpa using hW11,st11,x11,by omega⟩ ?_
 rintro i u wL ⟨hW1,st1,eL,hi⟩
 refine af (aa (ai Ig Ig Ig (bb) (ag (ab (af ?_)))))
 refine bi Ig (fun h15=>?_) (fun h15=>?_)
 ·refine ax (ab (af (au (af (aa ?_)))))
  obtain⟨a16,c16,p16,q16,h16⟩:=eA (P:=Tryz.prog) (sz:=3) HV (by kernel_rfl) sV (by omega) hd (i:=i) (by omega) .i64
  obtain⟨e16,he16⟩:∃e,e=qs[i]'(by omega):=⟨_,rfl⟩
  rw[←he16] at h16
  obtain⟨x16_0,x16_1,rfl,f16_0,f16_1⟩:=fF h16
  refine aq Ig Ig Ig (p16 _) ?_
  have hfl:=dF (f:=eZ) (l:=qs) (i:=i) (by omega)
  rw[←he16] at hfl
  refine am Ig Ig ((q16.ext eL).ld HG Ig (by kernel_rfl)) ?_
  obtain⟨g5,w5,hr5,l5,x5,k5⟩:=aR (P:=Tryz.prog) (w:=wL) (t:=46) (z:=.agg #[B false,.slice none 0 0,.slice none 0 0]) (l:=[B false,.slice none 0 0,.slice none 0 0]) (by kernel_rfl) rfl
  refine aU Ig hr5 ?_
  obtain⟨w3_3,s3_3,q3_3,k3_3⟩:=k5.stS (P:=Tryz.prog) (t:=46) (m:=[B e16.1,x16_0,x16_1]) rfl (by kernel_rfl) (aT.cons rfl (aT.cons f16_0.one (aT.cons f16_1.one aT.nil)))
  refine az Ig Ig s3_3 ?_
  have x3_3:=aE.of_new (x5) q3_3 l5
  refine ag (ab (bk 4 [0,12,13,14,20,21] (by kernel_rfl) (by kernel_rfl) ?_))
  refine an Ig Ig (bm Ig Ig ?_)
  refine aA Ig Ig (fun w _=>lC) ?_
  refine av Ig Ig (fun w hw=>(k3_3.ext hw).ld HG Ig (by kernel_rfl)) (bn ?_)
  intro wg4 xg4
  rintro _ rfl
  rintro _ hq12
  obtain rfl:=Eq.symm hq12
  rintro _ rfl
  rintro _ rfl
  rintro _ rfl
  rintro _ rfl
  refine ak fo Ig Ig ((fp (q:=e16) (((eL.trans x3_3).trans xg4)) ((hW1.ext x3_3).ext xg4) f16_0 f16_1 (by simp only[List.length_append];omega))) ?_
  rintro v22 w22 ⟨v22,hW22,st22⟩
  have x22:=st22.ext (((eL.trans x3_3).trans xg4)) ((hW1.ext x3_3).ext xg4).ge ((hW1.ext x3_3).ext xg4).new
  refine ag (aM (ab (aa (ai (r:=I ((i+1:Nat):Int)) Ig Ig Ig (by have e:((i+1:Nat):Int)=(i:Int)+1:=(by omega);rw[e];exact aK (by omega) (by omega)) ?_))))
  refine ae Ig Ig (ag ?_)
  refine cL (i+1) (v22) ⟨rfl,rfl,rfl,rfl,trivial⟩ ⟨by rw[cg (by omega),←he16,←List.append_assoc];exact hW22,(st1.trans (bO.of_ext (x3_3.trans xg4))).trans st22,x22,by omega⟩ (by omega)
 ·refine ba (aC (aC (aY (fq Ig ?_))))
  exact⟨_,rfl,u,by rw[List.take_of_length_le (by omega),List.append_assoc] at hW1;exact hW1,st1⟩
theorem jo {T:TypeId} {wz w:World} {g:Nat} {l:List UInt8} {fs:List ma} {qv v:Value} (ez:aE wz w) (hW:dR T wz.heap.size g l v w) (hd:dq dS fs qv wz) (hw:∀f∈fs,Ef f) (hl:l.length+(bS fs).length≤4398046511104):
 Calls Tryz.prog 83 #[.pointer (some ⟨g,0,none⟩),qv] w (bL fun _ w'=>DX T wz.heap.size g (l++bS fs) v w w'):=by
 refine enter (vs:=[.pointer (some ⟨g,0,none⟩),qv]) Tryz.func83 Ig Ig Ig ?_
 have hll:=hd.len
 have hpl:(bS fs).length=(uv fs.length).length+(fs.flatMap gd).length:=by simp only[bS,List.length_append]
 refine af (aa (ae Ig Ig (aQ Ig Ig ?_)))
 refine ah Ig Ig lC ?_
 refine ae Ig Ig (aO Ig Ig (bN HK (hd.ext ez)) (ak fx Ig Ig ((fy hW ez.size (by omega) (by omega))) ?_))
 rintro v13 w13 ⟨v13,hW13,st13⟩
 have x13:=st13.ext ez hW.ge hW.new
 refine ag (ab (af (aa (ae Ig Ig (aO Ig Ig (bN HK (hd.ext x13)) (ae Ig Ig (ag (ab (au ?_)))))))))
 refine d5 (fun(i:Nat) (u:Value)=>[(0,.pointer (some ⟨g,0,none⟩)),(14,qv),(15,I (fs.length:Int)),(16,I (i:Int))]) (fun(i:Nat) (u:Value) w'=>dR T wz.heap.size g (l++uv fs.length++(fs.take i).flatMap gd) u w'∧bO g v w u w'∧aE wz w'∧i≤fs.length) (fun(i:Nat) (u:Value)=>fs.length-i) (0) (v13) ⟨rfl,rfl,rfl,rfl,trivial⟩ ⟨by simpa using hW13,st13,x13,by omega⟩ ?_
 rintro i u wL ⟨hW1,st1,eL,hi⟩
 refine af (aa (ai Ig Ig Ig (bb) (ag (ab (af ?_)))))
 refine bi Ig (fun h17=>?_) (fun h17=>?_)
 ·refine ax (ab (af (au (af (aa ?_)))))
  obtain⟨a18,c18,p18,q18,h18⟩:=eA (P:=Tryz.prog) (sz:=4) HK (by kernel_rfl) iU (by omega) hd (i:=i) (by omega) .i64
  obtain⟨e18,he18⟩:∃e,e=fs[i]'(by omega):=⟨_,rfl⟩
  rw[←he18] at h18
  obtain⟨x18_0,x18_1,x18_2,rfl,f18_0,f18_1,f18_2⟩:=jU h18
  refine aq Ig Ig Ig (p18 _) ?_
  have hm:=hw e18 (by rw[he18];exact List.getElem_mem _)
  have hfl:=dF (f:=gd) (l:=fs) (i:=i) (by omega)
  rw[←he18] at hfl
  have hml:(gd e18).length=(uv e18.ts.length).length+(e18.ts.flatMap gc).length+(eZ e18.ct).length:=by simp only[gd,List.length_append]
  have htl:=f18_0.len
  obtain⟨pre,hpre⟩:∃pre,pre=l++uv fs.length++(fs.take i).flatMap gd:=⟨_,rfl⟩
  have hprl:pre.length=l.length+(uv fs.length).length+((fs.take i).flatMap gd).length:=by rw[hpre];simp only[List.length_append]
  rw[←hpre] at hW1
  refine am Ig Ig ((q18.ext eL).ld H2 Ig (by kernel_rfl)) ?_
  obtain⟨g5,w5,hr5,l5,x5,k5⟩:=aR (P:=Tryz.prog) (w:=wL) (t:=196) (z:=.agg #[.slice none 0 0,B false,.slice none 0 0,.slice none 0 0]) (l:=[.slice none 0 0,B false,.slice none 0 0,.slice none 0 0]) (by kernel_rfl) rfl
  refine aU Ig hr5 ?_
  obtain⟨w3_3,s3_3,q3_3,k3_3⟩:=k5.stS (P:=Tryz.prog) (t:=196) (m:=[x18_0,B e18.ct.1,x18_1,x18_2]) rfl (by kernel_rfl) (aT.cons f18_0.one (aT.cons rfl (aT.cons f18_1.one (aT.cons f18_2.one aT.nil))))
  refine az Ig Ig s3_3 ?_
  have x3_3:=aE.of_new (x5) q3_3 l5
  refine ag (ab (af (bk 6 [0,5,14,15,16,22,25] (by kernel_rfl) (by kernel_rfl) ?_)))
  refine an Ig Ig (bm Ig Ig ?_)
  refine aA Ig Ig (fun w _=>lC) ?_
  refine aA Ig Ig (fun w hw=>aI (o:=0) H2 Ig (by kernel_rfl) Ig) (av Ig Ig (fun w hw=>aj HW Ig (hw.cell_some (k3_3.cell (i:=0) Ig))) ?_)
  refine kW (vs:=[x18_0]) Ig Ig (fun w hw=>bN HW ((f18_0.ext (eL.trans x3_3)).ext hw)) (bn ?_)
  intro wg4 xg4
  rintro _ rfl
  rintro _ rfl
  rintro _ hq14
  obtain rfl:=Eq.symm hq14
  rintro _ rfl
  rintro _ rfl
  rintro _ rfl
  rintro _ rfl
  have hWa:=(hW1.ext x3_3).ext xg4
  refine ak fx Ig Ig ((fy hWa (((eL.trans x3_3).trans xg4)).size (by omega) (by omega))) ?_
  rintro v26 w26 ⟨v26,hW26,st26⟩
  have x26:=st26.ext (((eL.trans x3_3).trans xg4)) hWa.ge hWa.new
  have n5:=(hW1.off_new l5)
  have k5a:=st26.mv.blk (k3_3.ext xg4) n5
  have n5a:=st26.off n5 (k3_3.ext xg4).lt
  have f18c:=f18_0.ext (x26)
  refine ag (ab (af (af (aa (ah Ig Ig (aI (o:=0) H2 Ig (by kernel_rfl) Ig) (am Ig Ig (aj HW Ig (k5a.cell (i:=0) Ig)) ?_))))))
  refine aO Ig Ig (bN HW f18c) (ae Ig Ig (ag (ab (au ?_))))
  refine d5 (fun(k:Nat) (u2:Value)=>[(0,.pointer (some ⟨g,0,none⟩)),(14,qv),(15,I (fs.length:Int)),(16,I (i:Int)),(5,.pointer (some ⟨g5,0,none⟩)),(28,x18_0),(29,I (e18.ts.length:Int)),(30,I (k:Int))]) (fun(k:Nat) (u2:Value) w'=>dR T wz.heap.size g (pre++uv e18.ts.length++(e18.ts.take k).flatMap gc) u2 w'∧bO g v w u2 w'∧aE wz w'∧k≤e18.ts.length∧bI g5 196 [x18_0,B e18.ct.1,x18_1,x18_2] w'∧¬(g5=g∨u2.ownBlock=some g5)) (fun(k:Nat) (u2:Value)=>e18.ts.length-k) (0) (v26) ⟨rfl,rfl,rfl,rfl,rfl,rfl,rfl,rfl,trivial⟩ ⟨by simpa using hW26,(st1.trans (bO.of_ext (x3_3.trans xg4))).trans st26,x26,by omega,k5a,n5a⟩ ?_
  rintro k u2 wM ⟨hW2,st2,eM,hk,k5M,n5M⟩
  refine af (aa (ai Ig Ig Ig (bb) (ag (ab (af ?_)))))
  refine bi Ig (fun h31=>?_) (fun h31=>?_)
  ·refine ax (ab (af (au (af (aa ?_)))))
   obtain⟨a32,c32,p32,q32,h32⟩:=eA (P:=Tryz.prog) (sz:=4) HW (by kernel_rfl) mR (by omega) f18_0 (i:=k) (by omega) .i64
   obtain⟨e32,he32⟩:∃e,e=e18.ts[k]'(by omega):=⟨_,rfl⟩
   rw[←he32] at h32
   obtain⟨x32_0,x32_1,rfl,f32_0,f32_1⟩:=oI h32
   refine aq Ig Ig Ig (p32 _) ?_
   have hmt:=hm e32 (by rw[he32];exact List.getElem_mem _)
   have hflt:=dF (f:=gc) (l:=e18.ts) (i:=k) (by omega)
   rw[←he32] at hflt
   have hmtl:(gc e32).length=(cT e32.va).length+(eZ e32.co).length:=by simp only[gc,List.length_append]
   obtain⟨pre2,hpre2⟩:∃pre2,pre2=pre++uv e18.ts.length++(e18.ts.take k).flatMap gc:=⟨_,rfl⟩
   have hprl2:pre2.length=pre.length+(uv e18.ts.length).length+((e18.ts.take k).flatMap gc).length:=by rw[hpre2];simp only[List.length_append]
   rw[←hpre2] at hW2
   refine am Ig Ig ((q32.ext eM).ld H9 Ig (by kernel_rfl)) ?_
   obtain⟨g7,w7,hr7,l7,x7,k7⟩:=aR (P:=Tryz.prog) (w:=wM) (t:=198) (z:=.agg #[I 0,B false,.slice none 0 0,.slice none 0 0]) (l:=[I 0,B false,.slice none 0 0,.slice none 0 0]) (by kernel_rfl) rfl
   refine aU Ig hr7 ?_
   obtain⟨w7_3,s7_3,q7_3,k7_3⟩:=k7.stS (P:=Tryz.prog) (t:=198) (m:=[I e32.va,B e32.co.1,x32_0,x32_1]) rfl (by kernel_rfl) (aT.cons rfl (aT.cons rfl (aT.cons f32_0.one (aT.cons f32_1.one aT.nil))))
   refine az Ig Ig s7_3 ?_
   have x7_3:=aE.of_new (x7) q7_3 l7
   refine ag (ab (af (bk 6 [0,5,7,14,15,16,28,29,30,36,39] (by kernel_rfl) (by kernel_rfl) ?_)))
   refine an Ig Ig (bm Ig Ig ?_)
   refine aA Ig Ig (fun w _=>lC) ?_
   refine aA Ig Ig (fun w hw=>aI (o:=0) H9 Ig (by kernel_rfl) Ig) (av Ig Ig (fun w hw=>aj HE Ig (hw.cell_some (k7_3.cell (i:=0) Ig))) ?_)
   refine dz (S:=dG w7_3.heap.size [e32.va]) (dG.stable _ _) rfl (fun w' hw=>by rintro _ rfl;obtain⟨r,w2,h1,h2,h3,_⟩:=ql (w:=w') w7_3.heap.size [e32.va] (by simp) hw.size;exact⟨r,w2,h1,h2,h3⟩) ?_
   refine bn ?_
   intro wg8 xg8
   rintro _ rfl
   rintro _ rfl
   rintro _ rfl
   rintro _ hq14
   obtain rfl:=Eq.symm hq14
   rintro _ rfl
   rintro _ rfl
   rintro _ hq28
   obtain rfl:=Eq.symm hq28
   rintro _ rfl
   rintro _ rfl
   rintro _ rfl
   intro vg39 b39
   have hWb:=(hW2.ext x7_3).ext xg8
   refine ak f9 Ig Ig ((gb (ns:=[e32.va]) hWb (((eM.trans x7_3).trans xg8)).size (b39.rpx (fun k hk=>(hW2.ext x7_3).off_new (b39.lt k hk).1)) (DY hmt) (by simp only[List.length_cons,List.length_nil];omega))) ?_
   rintro v40 w40 ⟨v40,hW40,st40⟩
   have x40:=st40.ext (((eM.trans x7_3).trans xg8)) hWb.ge hWb.new
   have n7:=hW2.off_new l7
   have k7a:=st40.mv.blk (k7_3.ext xg8) n7
   have hc1:[e32.va].flatMap cT=cT e32.va:=by simp only[List.flatMap_cons,List.flatMap_nil,List.append_nil]
   rw[hc1] at hW40
   have k5b:=st40.mv.blk ((k5M.ext x7_3).ext xg8) n5M
   have n5b:=st40.off n5M ((k5M.ext x7_3).ext xg8).lt
   refine ag (ab (bk 5 [0,5,14,15,16,28,29,30,43,45] (by kernel_rfl) (by kernel_rfl) ?_))
   refine an Ig Ig (bm Ig Ig ?_)
   refine aA Ig Ig (fun w _=>lC) ?_
   refine aA rfl rfl (fun w hw=>aI (o:=1) Tryz.underlying198 rfl (by kernel_rfl) rfl) (av rfl rfl (fun w hw=>(k7a.ext hw).ldO (ms:=[B e32.co.1,x32_0,x32_1]) (o:=1) (fun j v hj=>by rcases j with _|_|_|_|_|_|_|_|_|j<;>simp_all) Tryz.underlying46 rfl (by kernel_rfl)) ?_)
   refine bn ?_
   intro wg9 xg9
   rintro _ rfl
   rintro _ rfl
   rintro _ hq14
   obtain rfl:=Eq.symm hq14
   rintro _ rfl
   rintro _ rfl
   rintro _ hq28
   obtain rfl:=Eq.symm hq28
   rintro _ rfl
   rintro _ rfl
   rintro _ rfl
   rintro _ rfl
   have hWc:=hW40.ext xg9
   refine ak fo Ig Ig ((fp (q:=e32.co) ((x40.trans xg9)) hWc f32_0 f32_1 (by simp only[List.length_append];omega))) ?_
   rintro v46 w46 ⟨v46,hW46,st46⟩
   have x46:=st46.ext ((x40.trans xg9)) hWc.ge hWc.new
   have k5c:=st46.mv.blk (k5b.ext xg9) n5b
   have n5c:=st46.off n5b (k5b.ext xg9).lt
   refine ag (aM (ab (aa (ai (r:=I ((k+1:Nat):Int)) Ig Ig Ig (by have e:((k+1:Nat):Int)=(k:Int)+1:=(by omega);rw[e];exact aK (by omega) (by omega)) ?_))))
   refine ae Ig Ig (ag ?_)
   refine cL (k+1) (v46) ⟨rfl,rfl,rfl,rfl,rfl,rfl,rfl,rfl,trivial⟩ ⟨by
    rw[cg (by omega),←he32,←List.append_assoc,←hpre2]
    simpa only[gc,List.append_assoc] using hW46,(((st2.trans (bO.of_ext (x7_3.trans xg8))).trans st40).trans (bO.of_ext xg9)).trans st46,x46,by omega,k5c,n5c⟩ (by omega)
  ·refine ba (aC (aC (aY (ab ?_))))
   rw[List.take_of_length_le (by omega)] at hW2
   refine bk 5 [0,14,15,16,50,52] (by kernel_rfl) (by kernel_rfl) ?_
   refine an Ig Ig (bm Ig Ig ?_)
   refine aA Ig Ig (fun w _=>lC) ?_
   refine aA rfl rfl (fun w hw=>aI (o:=1) Tryz.underlying196 rfl (by kernel_rfl) rfl) (av rfl rfl (fun w hw=>(k5M.ext hw).ldO (ms:=[B e18.ct.1,x18_1,x18_2]) (o:=1) (fun j v hj=>by rcases j with _|_|_|_|_|_|_|_|_|j<;>simp_all) Tryz.underlying46 rfl (by kernel_rfl)) ?_)
   refine bn ?_
   intro wg11 xg11
   rintro _ rfl
   rintro _ hq14
   obtain rfl:=Eq.symm hq14
   rintro _ rfl
   rintro _ rfl
   rintro _ rfl
   rintro _ rfl
   have hWd:=hW2.ext xg11
   refine ak fo Ig Ig ((fp (q:=e18.ct) ((eM.trans xg11)) hWd f18_1 f18_2 (by simp only[List.length_append];omega))) ?_
   rintro v53 w53 ⟨v53,hW53,st53⟩
   have x53:=st53.ext ((eM.trans xg11)) hWd.ge hWd.new
   refine ag (aM (ab (aa (ai (r:=I ((i+1:Nat):Int)) Ig Ig Ig (by have e:((i+1:Nat):Int)=(i:Int)+1:=(by omega);rw[e];exact aK (by omega) (by omega)) ?_))))
   refine ae Ig Ig (ag ?_)
   refine cL (i+1) (v53) ⟨rfl,rfl,rfl,rfl,trivial⟩ ⟨by
    rw[cg (by omega),←he18,←List.append_assoc,←hpre]
    simpa only[gd,List.append_assoc] using hW53,(st2.trans (bO.of_ext xg11)).trans st53,x53,by omega⟩ (by omega)
 ·refine ba (aC (aC (aY (fq Ig ?_))))
  exact⟨_,rfl,u,by rw[List.take_of_length_le (by omega),List.append_assoc] at hW1;exact hW1,st1⟩
end Go.Rl
namespace Go.Rl
open Go.RowKit Go.Proofs
theorem yR:aw Tryz.prog 113:=⟨_,Tryz.func113,by kernel_rfl,rfl⟩
theorem uT:aw Tryz.prog 75:=⟨_,Tryz.func75,by kernel_rfl,rfl⟩
theorem zS {w:World} {g:Nat} {T:TypeId} {d:List UInt8} {v:Value} (k:bI g T (lW d v) w) (hd:d.length=32):bQ d (.slice (some ⟨g,0,none⟩) 32 32) w:=
 ⟨_,32,32,rfl,Nat.le_refl _,by unfold maxLen;omega,by simp[hd],fun _=>⟨_,rfl,fun j u hu=>by
  rw[Addr.add_mid,Nat.zero_add]
  have hj:=(List.getElem?_eq_some_iff.1 hu).1
  exact k.cell (by rw[lW,List.getElem?_append_left hj];exact hu)⟩,fun h=>by cases h⟩
def GG (w0:World) (n:bc):Prop:=∀{w:World} {vl x y vk vp:Value},aE w0 w→dq jf n.lems vl w→bu n.split.at_.2.1 x w→bu n.split.at_.2.2 y w→dq cw n.kids vk w→dq fG n.pf vp w→
 Calls Tryz.prog 113 #[.agg #[vl,I n.split.kd,I n.split.ix,B n.split.at_.1,x,y,vk,B n.empty,vp]] w (bL fun r w'=>aE w w'∧r=B (iu n&&lY n))
def nL (base:Nat) (c:tu) (r:Value) (w:World):Prop:=∃v,r=.tuple #[v,I (oF c).2]∧bZ base (oF c).1 v w
theorem nL.err {base:Nat} {c:tu} {w:World} {n:Int} (h:oF c=([],n)):nL base c (.tuple #[.slice none 0 0,I n]) w:=⟨_,by rw[h],by rw[h];exact bZ.nil _ _⟩
theorem nL.ok {base:Nat} {c:tu} {w:World} {l:List UInt8} {v:Value} (h:oF c=(l,0)) (o:bZ base l v w):nL base c (.tuple #[v,I 0]) w:=⟨v,by rw[h],by rw[h];exact o⟩
theorem Fb {d:List UInt8} {ts:List bc} (h:(ts.all fun n=>iu n&&lY n)=false):oF (d,ts)=([],1):=by unfold oF;rw[h];rfl
theorem By {d:List UInt8} {ts:List bc} (h:(ts.all fun n=>iu n&&lY n)=true) (h2:4194304<(el ts).length):oF (d,ts)=([],8):=by unfold oF;rw[if_pos h,if_pos h2]
theorem DZ {d:List UInt8} {ts:List bc} (h:(ts.all fun n=>iu n&&lY n)=true) (h2:¬4194304<(el ts).length) (h3:1048576<(fe d (cj (el ts))).length):oF (d,ts)=([],8):=by unfold oF;rw[if_pos h,if_neg h2,if_pos h3]
theorem zT {d:List UInt8} {ts:List bc} (h:(ts.all fun n=>iu n&&lY n)=true) (h2:¬4194304<(el ts).length) (h3:¬1048576<(fe d (cj (el ts))).length):oF (d,ts)=(fe d (cj (el ts)),0):=by unfold oF;rw[if_pos h,if_neg h2,if_neg h3]
theorem uU {w:World} {d:List UInt8} {ts:List bc} {tv:Value} (hd:d.length=32) (ht:dq cw ts tv w) (hperm:∀n∈ts,GG w n) (hw:∀n∈ts,wN n) (hb:(el ts).length≤1099511627776):
 Calls Tryz.prog 75 #[.agg (lW d tv).toArray] w (bL fun r w'=>aE w w'∧nL w.heap.size (d,ts) r w'):=by
 refine enter (vs:=[.agg (lW d tv).toArray]) Tryz.func75 Ig Ig Ig ?_
 have hll:=ht.len
 have hpl:(el ts).length=(uv ts.length).length+(ts.flatMap dC).length:=by simp only[el,List.length_append]
 refine af (aa ?_)
 obtain⟨g1,w1,hr1,l1,x1,k1⟩:=cV (P:=Tryz.prog) (w:=w) (T:=133) (cs:=lW d tv)
 refine cI Ig Ig hr1 ?_
 have c1:=yM k1 hd
 refine ac Ig Ig (ac Ig Ig (ag (ab (af (af (aa ?_))))))
 refine ah Ig Ig uQ ?_
 refine am Ig Ig (aj HJ Ig c1) (aO Ig Ig (bN HJ (ht.ext x1)) (ae Ig Ig (ag (ab ?_))))
 refine au ?_
 refine ci (α:=Nat) (fun i=>[(1,.pointer (some ⟨g1,0,none⟩)),(12,tv),(13,I (ts.length:Int)),(14,I (i:Int))]) (fun i w'=>aE w w'∧aE w1 w'∧i≤ts.length∧(ts.all fun n=>iu n&&lY n)=((ts.drop i).all fun n=>iu n&&lY n)) (fun i=>ts.length-i) (0) ⟨rfl,rfl,rfl,rfl,trivial⟩ ⟨x1,aE.refl _,by omega,rfl⟩ ?_
 rintro i wL ⟨eL,e1L,hi,hall⟩
 refine af (aa (ai Ig Ig Ig (bb) (ag (ab (af ?_)))))
 refine bi Ig (fun h15=>?_) (fun h15=>?_)
 ·refine ax (ab (af (au (af (aa ?_)))))
  obtain⟨a16,c16,p16,q16,h16⟩:=eA (P:=Tryz.prog) (sz:=9) HJ (by kernel_rfl) cF (by omega) ht (i:=i) (by omega) .i64
  obtain⟨e16,he16⟩:∃e,e=ts[i]'(by omega):=⟨_,rfl⟩
  rw[←he16] at h16
  obtain⟨x16_0,x16_1,x16_2,x16_3,x16_4,rfl,f16_0,f16_1,f16_2,f16_3,f16_4⟩:=iQ h16
  refine aq Ig Ig Ig (p16 _) ?_
  have hmem:e16∈ts:=by rw[he16];exact List.getElem_mem _
  refine am Ig Ig ((q16.ext eL).ld HI Ig (by kernel_rfl)) ?_
  obtain⟨g5,w5,hr5,l5,x5,k5⟩:=aR (P:=Tryz.prog) (w:=wL) (t:=52) (z:=.agg #[.slice none 0 0,I 0,I 0,B false,.slice none 0 0,.slice none 0 0,.slice none 0 0,B false,.slice none 0 0]) (l:=[.slice none 0 0,I 0,I 0,B false,.slice none 0 0,.slice none 0 0,.slice none 0 0,B false,.slice none 0 0]) (by kernel_rfl) rfl
  refine aU Ig hr5 ?_
  obtain⟨w3_3,s3_3,q3_3,k3_3⟩:=k5.stS (P:=Tryz.prog) (t:=52) (m:=[x16_0,I e16.split.kd,I e16.split.ix,B e16.split.at_.1,x16_1,x16_2,x16_3,B e16.empty,x16_4]) rfl (by kernel_rfl) (aT.cons f16_0.one (aT.cons rfl (aT.cons rfl (aT.cons rfl (aT.cons f16_1.one (aT.cons f16_2.one (aT.cons f16_3.one (aT.cons rfl (aT.cons f16_4.one aT.nil)))))))))
  refine az Ig Ig s3_3 ?_
  have x3_3:=aE.of_new (x5) q3_3 l5
  refine ag (ab (af (aa (am Ig Ig (k3_3.ld HI Ig (by kernel_rfl)) (ak yR Ig Ig ((hperm e16 hmem ((eL.trans x3_3)) (f16_0.ext (eL.trans x3_3)) (f16_1.ext (eL.trans x3_3)) (f16_2.ext (eL.trans x3_3)) (f16_3.ext (eL.trans x3_3)) (f16_4.ext (eL.trans x3_3)))) ?_)))))
  rintro v19 w19 ⟨x19,rfl⟩
  refine cx Ig Ig cZ (ag (ab ?_))
  refine iW Ig (fun h20=>?_) (fun h20=>?_)
  ·have hno:(iu (ts[i]'(by omega))&&lY (ts[i]'(by omega)))=false:=by rw[←he16];rw[Bool.not_eq_true'] at h20;exact h20
   refine af (aa (ac Ig Ig (ac Ig Ig (ag (ab (ay (bh (aB (aB (bh (aB (aW Ig Ig Ig ?_))))))))))))
   exact⟨_,rfl,((eL.trans x3_3).trans x19),nL.err (Fb (DW (p:=fun n=>iu n&&lY n) (by omega) hall hno))⟩
  ·have hyes:(iu (ts[i]'(by omega))&&lY (ts[i]'(by omega)))=true:=by rw[←he16];rw[Bool.not_eq_false'] at h20;exact h20
   refine ax (aM (ab (aa (ai (r:=I ((i+1:Nat):Int)) Ig Ig Ig (by have e:((i+1:Nat):Int)=(i:Int)+1:=(by omega);rw[e];exact aK (by omega) (by omega)) ?_))))
   refine ae Ig Ig (ag ?_)
   refine bP (i+1) ⟨rfl,rfl,rfl,rfl,trivial⟩ ⟨((eL.trans x3_3).trans x19),((e1L.trans x3_3).trans x19),by omega,DV (p:=fun n=>iu n&&lY n) (by omega) hall hyes⟩ (by omega)
 ·refine ba (aC (aC (aY (ab (af ?_)))))
  have hav:=zQ (p:=fun n=>iu n&&lY n) (by omega) hall
  have c1L:=e1L.cell_some c1
  have htL:=ht.ext eL
  refine aa ?_
  refine bA (vs:=[]) (r:=.agg #[ii]) Ig Ig (run_build _ _ _ _ (by kernel_rfl)) ?_
  obtain⟨g6,w6,hr6,l6,x6,k6⟩:=cV (P:=Tryz.prog) (w:=wL) (T:=142) (cs:=[ii])
  refine cI Ig Ig hr6 ?_
  have hW6:dR 142 w.heap.size g6 [] ii w6:=dR.mk1 eL (bZ.nil _ _) x6 l6 k6
  have c16:=x6.cell_some c1L
  refine ac Ig Ig (ag (ab (af (aa (ae Ig Ig ?_)))))
  refine ah Ig Ig uQ ?_
  refine am Ig Ig (aj HJ Ig c16) ?_
  refine aO Ig Ig (bN (f:=cw) HJ (ht.ext ((eL.trans x6)))) ?_
  refine ak fx Ig Ig ((fy hW6 ((eL.trans x6)).size (by simp) (by omega))) ?_
  rintro v28 w28 ⟨v28,hW28,st28⟩
  have x28:=st28.ext ((eL.trans x6)) hW6.ge hW6.new
  have n16:¬(g1=g6∨ii.ownBlock=some g1):=by
   rintro(h|h)
   ·have:=k1.lt;have:=e1L.size;omega
   ·cases h
  have k16:=(k1.ext e1L).ext x6
  have k128:=st28.mv.blk k16 n16
  have n128:=st28.off n16 k16.lt
  have c128:=yM k128 hd
  rw[List.nil_append] at hW28
  refine ag (ab (af (af (aa ?_))))
  refine ah Ig Ig uQ ?_
  refine am Ig Ig (aj HJ Ig c128) ?_
  refine aO Ig Ig (bN (f:=cw) HJ (ht.ext (x28))) ?_
  refine ae Ig Ig (ag (ab (au ?_)))
  refine d5 (fun(i:Nat) (u:Value)=>[(1,.pointer (some ⟨g1,0,none⟩)),(6,.pointer (some ⟨g6,0,none⟩)),(30,tv),(31,I (ts.length:Int)),(32,I (i:Int))]) (fun(i:Nat) (u:Value) w'=>dR 142 w.heap.size g6 (uv ts.length++(ts.take i).flatMap dC) u w'∧aE w w'∧bI g1 133 (lW d tv) w'∧¬(g1=g6∨u.ownBlock=some g1)∧i≤ts.length∧(i=0∨(uv ts.length++(ts.take i).flatMap dC).length≤4194304)) (fun(i:Nat) (u:Value)=>ts.length-i) (0) (v28) ⟨rfl,rfl,rfl,rfl,rfl,trivial⟩ ⟨by simpa using hW28,x28,k128,n128,by omega,.inl rfl⟩ ?_
  rintro i u wM ⟨hW1,eM,kM,nM,hi2,hlim⟩
  refine af (aa (ai Ig Ig Ig (bb) (ag (ab (af ?_)))))
  refine bi Ig (fun h33=>?_) (fun h33=>?_)
  ·refine ax (ab (af (au (af (aa ?_)))))
   obtain⟨a34,c34,p34,q34,h34⟩:=eA (P:=Tryz.prog) (sz:=9) HJ (by kernel_rfl) cF (by omega) ht (i:=i) (by omega) .i64
   obtain⟨e34,he34⟩:∃e,e=ts[i]'(by omega):=⟨_,rfl⟩
   rw[←he34] at h34
   obtain⟨x34_0,x34_1,x34_2,x34_3,x34_4,rfl,f34_0,f34_1,f34_2,f34_3,f34_4⟩:=iQ h34
   refine aq Ig Ig Ig (p34 _) ?_
   have hfl:=dF (f:=dC) (l:=ts) (i:=i) (by omega)
   rw[←he34] at hfl
   have hmem:e34∈ts:=by rw[he34];exact List.getElem_mem _
   refine am Ig Ig ((q34.ext eM).ld HI Ig (by kernel_rfl)) ?_
   obtain⟨g8,w8,hr8,l8,x8,k8⟩:=aR (P:=Tryz.prog) (w:=wM) (t:=52) (z:=.agg #[.slice none 0 0,I 0,I 0,B false,.slice none 0 0,.slice none 0 0,.slice none 0 0,B false,.slice none 0 0]) (l:=[.slice none 0 0,I 0,I 0,B false,.slice none 0 0,.slice none 0 0,.slice none 0 0,B false,.slice none 0 0]) (by kernel_rfl) rfl
   refine aU Ig hr8 ?_
   obtain⟨w11_3,s11_3,q11_3,k11_3⟩:=k8.stS (P:=Tryz.prog) (t:=52) (m:=[x34_0,I e34.split.kd,I e34.split.ix,B e34.split.at_.1,x34_1,x34_2,x34_3,B e34.empty,x34_4]) rfl (by kernel_rfl) (aT.cons f34_0.one (aT.cons rfl (aT.cons rfl (aT.cons rfl (aT.cons f34_1.one (aT.cons f34_2.one (aT.cons f34_3.one (aT.cons rfl (aT.cons f34_4.one aT.nil)))))))))
   refine az Ig Ig s11_3 ?_
   have x11_3:=aE.of_new (x8) q11_3 l8
   refine ag (ab (af (aa (ae Ig Ig (am Ig Ig (k11_3.ld Tryz.underlying52 Ig (by kernel_rfl)) (ak lz Ig Ig ((lB _ (Nat.le_refl _) ((eM.trans x11_3)) (hW1.ext x11_3) f34_0 f34_1 f34_2 f34_3 f34_4 (hw e34 hmem) (by simp only[List.length_append];omega))) ?_))))))
   rintro v38 w38 ⟨v38,hW38,st38⟩
   have x38:=st38.ext ((eM.trans x11_3)) hW1.ge hW1.new
   have kM2:=st38.mv.blk (kM.ext x11_3) nM
   have nM2:=st38.off nM (kM.ext x11_3).lt
   have kg:=hW38.blk
   have hlen:(uv ts.length++(ts.take (i+1)).flatMap dC).length=(uv ts.length++(ts.take i).flatMap dC++dC e34).length:=by rw[cg (by omega),←he34,←List.append_assoc]
   have hle:(uv ts.length++(ts.take (i+1)).flatMap dC).length≤(el ts).length:=by
    have:=rJ (f:=dC) ts (i+1)
    rw[hpl,List.length_append];omega
   have b38:bQ (uv ts.length++(ts.take i).flatMap dC++dC e34) v38 w38:=hW38.row.bts
   refine ag (ab (af (aa (ae Ig Ig (aQ Ig Ig ?_)))))
   refine ah Ig Ig ga ?_
   refine am Ig Ig (aj HF Ig kg.k0) ?_
   refine aO Ig Ig (cc b38) ?_
   refine ai Ig Ig Ig (cB) (ag (ab ?_))
   refine bi Ig (fun h44=>?_) (fun h44=>?_)
   ·refine af (aa (ac Ig Ig (ac Ig Ig (ag (ab (ay (bh (aB (aB (bh (aB (aW Ig Ig Ig ?_))))))))))))
    exact⟨_,rfl,x38,nL.err (By hav (by omega))⟩
   ·refine ax (aM (ab (aa (ai (r:=I ((i+1:Nat):Int)) Ig Ig Ig (by have e:((i+1:Nat):Int)=(i:Int)+1:=(by omega);rw[e];exact aK (by omega) (by omega)) ?_))))
    refine ae Ig Ig (ag ?_)
    refine cL (i+1) (v38) ⟨rfl,rfl,rfl,rfl,rfl,trivial⟩ ⟨by rw[cg (by omega),←he34,←List.append_assoc];exact hW38,x38,kM2,nM2,by omega,.inr (by omega)⟩ (by omega)
  ·refine ba (aC (aC (aY (ab (af ?_)))))
   rw[List.take_of_length_le (by omega)] at hW1 hlim
   have hbod:(el ts).length≤4194304:=by
    rcases hlim with h|h
    ·have:ts=[]:=List.eq_nil_of_length_eq_zero (by omega)
     subst this
     decide
    ·exact h
   have hW1:dR 142 w.heap.size g6 (el ts) u wM:=hW1
   obtain⟨v46,w46a,w46,hr46,hc46,x46,b46,ad,hv46,had,hlt⟩:=CT (w:=wM) (t:=22) Tryz.underlying22 [82,76,85,67] (by simp) (by simp)
   refine aa ?_
   refine aH (vs:=[(0,U8 82),(1,U8 76),(2,U8 85),(3,U8 67)]) Ig Ig hr46 ?_
   refine aN Ig Ig hc46 ?_
   have e46:=eM.trans x46
   have k46:=kM.ext x46
   have row46:FC w.heap.size [82,76,85,67] v46 w46:=.inr ⟨b46,ad,hv46⟩
   obtain⟨v50,w50,hr50,o50,x50⟩:=yg (ty:=22) e46 row46 (zS k46 hd) (by omega) (by simp[hd])
   have i50:aE w46 w50:=by
    obtain⟨_,w5,hr5,_,x5⟩:=yg (ty:=22) (aE.refl w46) (.inr ⟨b46,ad,hv46⟩) (zS k46 hd) (by omega) (by simp[hd])
    have:=hr5.symm.trans hr50
    simp only[Result.ok.injEq] at this
    rw[←this.2];exact x5
   refine ah Ig Ig GE ?_
   refine db Ig Ig Ig Ig Ig DR ?_
   refine aZ Ig Ig hr50 ?_
   have hW50:=hW1.ext (x46.trans i50)
   have kg:=hW50.blk
   have b50:=hW50.row.bts
   refine ac Ig Ig (ag (ab (af (aa (ae Ig Ig (ae Ig Ig (aQ Ig Ig ?_)))))))
   refine ah Ig Ig ga ?_
   refine am Ig Ig (aj HF Ig kg.k0) (ak rx Ig Ig ((ry b50 (by omega))) ?_)
   rintro v56 w56 ⟨x56,b56⟩
   have hpk:=ru (d:=el ts) (by omega)
   have hpp:1≤(cj (el ts)).length:=by unfold cj;rw[List.length_append];have:=t5 (el ts).length;omega
   obtain⟨v57,w57,hr57,o57,g57⟩:=dc (ty:=22) (o50.ext x56) b56 (by simp only[List.length_append,List.length_cons,List.length_nil];omega) (((e46.trans i50).trans x56)).size
   have x57:=aE.of_grew (((e46.trans i50).trans x56)) g57 (o50.ext x56).ge
   refine aZ Ig Ig hr57 ?_
   have b57:bQ (ig++d++cj (el ts)) v57 w57:=o57.bts
   refine ac Ig Ig (ag (ab (af (aa (ae Ig Ig (ak oC Ig Ig ((oD b57)) ?_))))))
   rintro v59 w59 ⟨x59,rfl⟩
   obtain⟨g10,w10,hr10,l10,x10,k10⟩:=aR (P:=Tryz.prog) (w:=w59) (t:=24) (l:=(List.replicate 32 0).map U8) dt rfl
   refine aU Ig hr10 ?_
   obtain⟨w11,s11,q11,k11⟩:=k10.stS (P:=Tryz.prog) (t:=24) (m:=(gM (ig++d++cj (el ts))).map U8) (by simp[bW]) (by rw[List.length_map,bW];exact fS) (iZ _)
   refine az Ig Ig s11 ?_
   have x11:=x10.of_new q11 l10
   have b32:bQ (gM (ig++d++cj (el ts))) (.slice (some ⟨g10,0,none⟩) 32 32) w11:=by
    have:=k11.bts (by rw[bW];omega)
    rwa [bW] at this
   refine ag (ab (af (af (aa (ae Ig Ig (db Ig Ig Ig Ig Ig (DR) ?_))))))
   have o57':bZ w.heap.size (ig++d++cj (el ts)) v57 w11:=o57.ext ((x59.trans x11))
   have hsl:=lw (d:=d) (p:=cj (el ts)) hd
   obtain⟨v62,w62,hr62,o62,g62⟩:=dc (ty:=22) o57' b32 (by simp only[List.length_append,hd,bW,show ig.length=4 from rfl];omega) (((x57.trans x59).trans x11)).size
   have x62:=aE.of_grew (((x57.trans x59).trans x11)) g62 o57'.ge
   refine aZ Ig Ig hr62 ?_
   have o62:bZ w.heap.size (fe d (cj (el ts))) v62 w62:=o62
   have b62:=o62.bts
   refine ac Ig Ig (ag (ab (af (aa (ae Ig Ig ?_)))))
   refine aO Ig Ig (cc b62) ?_
   refine ai Ig Ig Ig (cB) (ag (ab ?_))
   refine bi Ig (fun h65=>?_) (fun h65=>?_)
   ·refine af (aa (ac Ig Ig (ac Ig Ig (ag (ab (ay (aB (aW Ig Ig Ig ?_))))))))
    exact⟨_,rfl,x62,nL.err (DZ hav (by omega) (by omega))⟩
   ·refine ax (ab (af (aa (ae Ig Ig (ac Ig Ig (ac Ig Ig (ag (ab (ay (aW Ig Ig Ig ?_))))))))))
    exact⟨_,rfl,x62,nL.ok (zT hav (by omega) (by omega)) o62⟩
end Go.Rl
namespace Go.Rl
open Go.RowKit Go.Proofs
theorem kE:aw Tryz.prog 34:=⟨_,Tryz.func34,by kernel_rfl,rfl⟩
def pl:List UInt8:=fe gN (cj (el []))
theorem pk0:pk [0] 0 0=[1,0]:=by
 rw[rn (by decide) (by rfl),ro (by decide)]
 rfl
theorem Fc:cj (el [])=[1,1,0]:=by
 show uv 1++pk [0] 0 0=_
 rw[pk0];rfl
theorem lX:pl.length=71:=by unfold pl;rw[lw rfl,Fc];rfl
theorem yS:pl.take 4=[82,76,85,67]:=rI
theorem Hr:oF (gN,[])=(pl,0):=zT rfl (by decide) (by show ¬1048576<pl.length;rw[lX];omega)
theorem Hs:kT pl=((gN,[]),0):=by
 have h:=Bu (d:=gN) (body:=el []) rfl (by decide) (by show pl.length≤1048576;rw[lX];omega)
 have ht:zM (el [])=some []:=xk (by rfl)
 rw[ht] at h
 exact h
def zU:bc:=.mk [] uc [] true []
theorem tx:dC zU=[1,0,0]:=by rfl
theorem Fd:wN zU:=by
 simp only[zU,wN,GO,and_true]
 exact⟨fun _ h=>(by simp at h),⟨by show kU 0;unfold kU;omega,by show kU 0;unfold kU;omega⟩,fun _ h=>by simp at h⟩
theorem kF {w:World}:Calls Tryz.prog 34 #[] w (bL fun r w'=>aE w w'∧r=B true):=by
 refine enter (vs:=[]) Tryz.func34 Ig Ig Ig ?_
 refine af (aa (ac Ig Ig (ag (ab (af (aa ?_))))))
 refine bA (vs:=[]) (r:=.agg (lW gN ii).toArray) Ig Ig fm ?_
 refine ak uT Ig Ig ((uU (d:=gN) (ts:=[]) Ig (dq.nil _ _) (fun _ h=>by simp at h) (fun _ h=>by simp at h) (by decide))) ?_
 rintro v7 w7 ⟨x7,v8,rfl,o8⟩
 rw[Hr] at o8
 rw[Hr]
 have b8:bQ pl v8 w7:=o8.bts
 refine ae Ig Ig (al Ig Ig (bw) (al Ig Ig (bz) (ac Ig Ig (ac Ig Ig (ag (ab (af (aa (ae Ig Ig (ak uR Ig Ig ((uS b8)) ?_))))))))))
 rintro v12 w12 ⟨x12,v13,rfl,r13⟩
 rw[Hs] at r13
 rw[Hs]
 have h13:dq cw [] v13 w12:=r13.rp
 refine ae Ig Ig (al Ig Ig (bw) (al Ig Ig (bz) ?_))
 obtain⟨g3,w3,hr3,l3,x3,k3⟩:=aR (P:=Tryz.prog) (w:=w12) (t:=133) (z:=.agg (lW gN ii).toArray) (l:=lW gN ii) DS rfl
 refine aU Ig hr3 ?_
 obtain⟨w4,s4,q4,k4⟩:=kD (d:=gN) (v:=v13) k3 rfl rfl h13.one
 refine az Ig Ig s4 ?_
 have x4:=aE.of_new x3 q4 l3
 refine ac Ig Ig (ag (ab (af (aa (bA (vs:=[(3,B true)]) (r:=.agg #[.slice none 0 0,I 0,I 0,B false,.slice none 0 0,.slice none 0 0,.slice none 0 0,B true,.slice none 0 0]) Ig Ig (by exact run_build _ _ _ _ (by kernel_rfl)) ?_)))))
 refine ak yO Ig Ig ((yQ (n:=zU) (b:=[]) (bQ.nil _) (dq.nil _ _) (Sl.nil _ _) (Sl.nil _ _) (dq.nil _ _) (dq.nil _ _) Fd (by rw[tx];decide))) ?_
 rintro v16 w16 ⟨x16,b16⟩
 rw[tx,List.nil_append] at b16
 refine aN (r:=S [1,0,0]) Ig Ig (qh b16) ?_
 refine ai (v:=S [1,0,0]) Ig Ig Ig (dW Ig y2) (ae Ig Ig (ao Ig (ae Ig Ig (ao Ig (ai Ig Ig Ig (dW Ig bJ) (aG Ig Ig Ig ?_))))))
 refine ae Ig Ig (ao Ig (ae Ig Ig (ao Ig (aO (r:=I 71) Ig Ig ((by have h:=cc (ty:=3) (b8.ext ((x12.trans x4).trans x16));rw[lX] at h;exact h)) ?_))))
 refine ao Ig (ai Ig Ig Ig (dW Ig bJ) (aG Ig Ig Ig (ae Ig Ig (ao Ig (ae Ig Ig (ao Ig ?_))))))
 obtain⟨v30,p30,b30⟩:=jI (b8.ext ((x12.trans x4).trans x16)) (hi:=4) (by rw[lX];omega) .i64
 refine db Ig Ig Ig Ig Ig (p30 _) ?_
 rw[yS] at b30
 refine ao Ig ?_
 refine aN (r:=S [82,76,85,67]) Ig Ig (qh b30) ?_
 refine ao Ig (ai (v:=S [82,76,85,67]) Ig Ig Ig (dW Ig y2) (aG Ig Ig Ig (ae Ig Ig (ao Ig (ae Ig Ig (ao Ig (ai Ig Ig Ig (dW Ig bJ) ?_)))))))
 refine aG Ig Ig Ig ?_
 have c4:=yM (k4.ext x16) Fa
 have h4:=h13.ext (x4.trans x16)
 refine ae Ig Ig (ao Ig ?_)
 refine ah Ig Ig uQ ?_
 refine ao Ig (am Ig Ig (aj HJ Ig c4) (ao Ig ?_))
 refine aO (r:=I 0) Ig Ig (bN (f:=cw) (l:=[]) HJ h4) ?_
 refine ao Ig (ai Ig Ig Ig (dW Ig bJ) (aG Ig Ig Ig (ac Ig Ig (ag (ab (ay (aD Ig Ig ?_)))))))
 exact⟨_,rfl,(((x7.trans x12).trans x4).trans x16),rfl⟩
end Go.Rl
namespace Go.Rl
open Go.RowKit Go.Proofs
end Go.Rl
namespace Go.Rl
open Go.RowKit Go.Proofs
end Go.Rl
namespace Go.Rl
open Go.RowKit Go.Proofs
end Go.Rl
namespace Go.Rl
open Go.RowKit Go.Proofs
def mQ (m:eG):Nat:=1+m.co.2.1.length+m.co.2.2.length
def mP (l:List eG):Nat:=(l.map mQ).sum
def mL (m:gn):Nat:=m.va.2.1.length+m.va.2.2.length+mP m.pf
end Go.Rl
namespace Go.Rl
open Go.RowKit Go.Proofs
mutual
def Dt.bulk:Dt→Nat
 |.int _ _=>1
 |.bool _=>1
 |.str l=>l.length+1
 |.sl l=>Dt.bulkAll l+1
 |.st l=>Dt.bulkAll l+1
def Dt.bulkAll:List Dt→Nat
 |[]=>0
 |d::l=>Dt.bulk d+Dt.bulkAll l
end
mutual
theorem tz {H:Type}:∀d:DataW H,(dL d).bulk≤YtpeidnhjcompmaaGreatDoor.Rows.uptoBulk d
 |.lit (.string b)=>by simp[dL,Dt.bulk,YtpeidnhjcompmaaGreatDoor.Rows.uptoBulk]
 |.lit (.int k n)=>by simp[dL,Dt.bulk,YtpeidnhjcompmaaGreatDoor.Rows.uptoBulk]
 |.lit (.bool b)=>by simp[dL,Dt.bulk,YtpeidnhjcompmaaGreatDoor.Rows.uptoBulk]
 |.lit (.float ..)=>by simp[dL,Dt.bulk,Dt.bulkAll,YtpeidnhjcompmaaGreatDoor.Rows.uptoBulk]
 |.lit .nil=>by simp[dL,Dt.bulk,Dt.bulkAll,YtpeidnhjcompmaaGreatDoor.Rows.uptoBulk]
 |.nil=>by simp[dL,Dt.bulk,Dt.bulkAll,YtpeidnhjcompmaaGreatDoor.Rows.uptoBulk]
 |.ptr d=>by simp[dL,Dt.bulk,Dt.bulkAll,YtpeidnhjcompmaaGreatDoor.Rows.uptoBulk]
 |.slice elems spare=>by
  have:=jA elems
  simp only[dL,Dt.bulk,YtpeidnhjcompmaaGreatDoor.Rows.uptoBulk]
  omega
 |.agg parts=>by
  have:=jA parts
  simp only[dL,Dt.bulk,YtpeidnhjcompmaaGreatDoor.Rows.uptoBulk]
  omega
 |.iface t d=>by simp[dL,Dt.bulk,Dt.bulkAll,YtpeidnhjcompmaaGreatDoor.Rows.uptoBulk]
 |.map entries=>by simp[dL,Dt.bulk,Dt.bulkAll,YtpeidnhjcompmaaGreatDoor.Rows.uptoBulk]
 |.held h=>by simp[dL,Dt.bulk,Dt.bulkAll,YtpeidnhjcompmaaGreatDoor.Rows.uptoBulk]
theorem jA {H:Type}:∀l:List (DataW H),Dt.bulkAll (kN l)≤YtpeidnhjcompmaaGreatDoor.Rows.uptoBulkAll l
 |[]=>by simp[kN,Dt.bulkAll,YtpeidnhjcompmaaGreatDoor.Rows.uptoBulkAll]
 |d::l=>by
  have:=tz d
  have:=jA l
  simp only[kN,Dt.bulkAll,YtpeidnhjcompmaaGreatDoor.Rows.uptoBulkAll]
  omega
end
theorem tA {H:Type} {d:DataW H}:∀{l:List (DataW H)},d∈l→YtpeidnhjcompmaaGreatDoor.Rows.uptoBulk d≤YtpeidnhjcompmaaGreatDoor.Rows.uptoBulkAll l
 |[],h=>by simp at h
 |x::l,h=>by
  simp only[YtpeidnhjcompmaaGreatDoor.Rows.uptoBulkAll]
  rcases List.mem_cons.1 h with rfl|h
  ·omega
  ·have:=tA h;omega
theorem GQ {H:Type} {d:DataW H} {l:List (DataW H)} (hk:YtpeidnhjcompmaaGreatDoor.Rows.uptoSmall H l=true) (h:d∈l):(dL d).bulk≤1048576:=by
 have h1:YtpeidnhjcompmaaGreatDoor.Rows.uptoBulkAll l≤1048576:=of_decide_eq_true hk
 have:=tz d
 have:=tA h
 omega
theorem xr {α:Type} {f:α→Dt} {p:α→Prop}:∀(l:List Dt),(∀d∈l,∃x,d=f x∧p x)→∃m:List α,l=m.map f∧∀x∈m,p x
 |[],_=>⟨[],rfl,by simp⟩
 |d::l,h=>by
  obtain⟨x,rfl,hx⟩:=h d (by simp)
  obtain⟨m,rfl,hm⟩:=xr l fun e he=>h e (by simp[he])
  exact⟨x::m,rfl,by simpa using⟨hx,hm⟩⟩
theorem Ty.inv_slP {P:Program} {t e:TypeId} {d:Dt} {α:Type} {f:α→Dt} {p:α→Prop} (hu:P.underlying t=some (.slice e)) (he:∀x,Ty P e x→∃y,x=f y∧p y) (h:Ty P t d):∃l:List α,d=.sl (l.map f)∧∀x∈l,p x:=by
 obtain⟨l,rfl,ha⟩:=h.inv_slD hu
 obtain⟨m,rfl,hm⟩:=xr l fun x hx=>he x (ha x hx)
 exact⟨m,rfl,hm⟩
theorem D1 (d:Dt):1≤d.bulk:=by cases d<;>simp[Dt.bulk]
theorem lD (l:List Dt):l.length≤Dt.bulkAll l:=by
 induction l with
 |nil=>simp
 |cons d l ih=>have:=D1 d;simp only[List.length_cons,Dt.bulkAll];omega
end Go.Rl
namespace Go.Rl
open Go.ChangeShapes Go.WideShapes Go.ChangeAt Go.RowKit Go.Proofs
theorem Ht {α:Type} {l:List α} (h:l.length=2):∃a b,l=[a,b]:=by
 match l,h with
 |[a,b],_=>exact⟨a,b,rfl⟩
theorem Fe {α:Type} {l:List α} (h:l.length=3):∃a b c,l=[a,b,c]:=by
 match l,h with
 |[a,b,c],_=>exact⟨a,b,c,rfl⟩
theorem cel4 {α:Type} {l:List α} (h:l.length=4):∃a b c d,l=[a,b,c,d]:=by
 match l,h with
 |[a,b,c,d],_=>exact⟨a,b,c,d,rfl⟩
theorem uV {d:Dt} (ht:Ty Tryz.prog 46 d):∃q:d7,d=cN q:=by
 obtain⟨l,rfl,hl,hf⟩:=ht.inv_st HG
 obtain⟨a,b,c,rfl⟩:=Fe (show l.length=3 from hl)
 obtain⟨s,rfl⟩:=(hf 0 _ a rfl rfl).inv_bool HO
 obtain⟨n,rfl⟩:=(hf 1 _ b rfl rfl).inv_nat Hz HB
 obtain⟨m,rfl⟩:=(hf 2 _ c rfl rfl).inv_nat Hz HB
 exact⟨(s,n,m),rfl⟩
theorem uW {d:Dt} (ht:Ty Tryz.prog 3 d):∃n:Int,d=jV n∧kU n:=by
 obtain⟨n,rfl,hw⟩:=ht.inv_int HE
 exact⟨n,rfl,wf_I hw⟩
end Go.Rl
namespace Go.Rl
open Go.RowKit
structure uX where
 path:List fa
 leaf:bc
def Hu (d:fa):Bool:=decide (1≤d.kd)&&decide (d.kd≤4)&&ER d.at_
def Hv (e:uX):Bool:=decide (e.path.length≤2048)&&decide (e.leaf.kids.length=0)&&iu e.leaf&&lY e.leaf&&e.path.all Hu
def rdEb (l:List UInt8):Option (uX×List UInt8):=(kn yc l).bind fun a=>(eB a.2).bind fun b=>some (⟨a.1,b.1⟩,b.2)
def entR (b:List UInt8):Option uX:=match rdEb b with
 |some (e,[])=>if Hv e=true then some e else none
 |_=>none
structure JR {α:Type} (f:List UInt8→Option (α×List UInt8)) (st:Option (List UInt8)) (ok:Bool) (a:α) (s1:Option (List UInt8)) (ok1:Bool):Prop where
 iff:ok1=(ok&&(st.bind f).isSome)
 val:ok1=true→st.bind f=s1.map fun t=>(a,t)
section
variable {α β:Type} {f:List UInt8→Option (α×List UInt8)} {g:α→List UInt8→Option (β×List UInt8)} {st s1 s2:Option (List UInt8)} {ok ok1 ok2:Bool} {a:α} {b:β}
theorem JR.bind (h1:JR f st ok a s1 ok1) (h2:JR (g a) s1 ok1 b s2 ok2):JR (fun l=>(f l).bind fun p=>g p.1 p.2) st ok b s2 ok2:=by
 have e:st.bind (fun l=>(f l).bind fun p=>g p.1 p.2)=(st.bind f).bind fun p=>g p.1 p.2:=by cases st<;>rfl
 refine⟨?_,fun h=>?_⟩
 ·rw[h2.iff,e]
  cases hk:ok1 with
  |true=>
   have hv:=h1.val hk
   have hi:=h1.iff
   rw[hk] at hi
   simp only[Bool.true_eq,Bool.and_eq_true] at hi
   rw[hi.1,hv]
   cases s1<;>rfl
  |false=>
   have hi:=h1.iff
   rw[hk] at hi
   cases ok with
   |false=>rfl
   |true=>
    simp only[Bool.true_and] at hi
    have:st.bind f=none:=Option.isNone_iff_eq_none.1 (by rw[Option.isNone_iff_eq_none];exact Option.not_isSome_iff_eq_none.1 (by rw[←hi];simp))
    rw[this];rfl
 ·have hi2:=h2.iff
  rw[h] at hi2
  simp only[Bool.true_eq,Bool.and_eq_true] at hi2
  rw[e,h1.val hi2.1]
  have:=h2.val h
  cases s1 with
  |none=>exact this
  |some t=>exact this
theorem JR.map (h:JR f st ok a s1 ok1) (k:α→β):JR (fun l=>(f l).bind fun p=>some (k p.1,p.2)) st ok (k a) s1 ok1:=by
 have e:st.bind (fun l=>(f l).bind fun p=>some (k p.1,p.2))=(st.bind f).map fun p=>(k p.1,p.2):=by
  cases st with
  |none=>rfl
  |some l=>show(f l).bind _=(f l).map _;cases f l<;>rfl
 refine⟨?_,fun hk=>?_⟩
 ·rw[h.iff,e];cases st.bind f<;>rfl
 ·rw[e,h.val hk];cases s1<;>rfl
end
end Go.Rl
namespace Go.Rl
open Go.RowKit Go.Proofs
theorem Ff (l:List UInt32):(i8 l).bulk=l.length+1:=by
 have:∀l:List UInt32,Dt.bulkAll (l.map nU)=l.length:=by
  intro l
  induction l with
  |nil=>rfl
  |cons a l ih=>simp only[List.map_cons,Dt.bulkAll,ih,nU,Dt.bulk,List.length_cons];omega
 simp only[i8,Dt.bulk,this]
theorem pO (q:d7):(cN q).bulk=q.2.1.length+q.2.2.length+4:=by
 simp only[cN,Dt.bulk,Dt.bulkAll,Ff];omega
theorem D3 {α:Type} {f:α→Dt} {m:α→Nat} {c:Nat} (l:List α) (h:∀a∈l,m a≤c*(f a).bulk):(l.map m).sum≤c*Dt.bulkAll (l.map f):=by
 induction l with
 |nil=>simp
 |cons a l ih=>
  simp only[List.map_cons,List.sum_cons,Dt.bulkAll,Nat.mul_add]
  have:=h a (by simp)
  have:=ih fun b hb=>h b (by simp[hb])
  omega
theorem oJ {α:Type} {f:α→Dt} {e:α→List UInt8} {c:Nat} (l:List α) (h:∀a∈l,(e a).length≤c*(f a).bulk):(l.flatMap e).length≤c*Dt.bulkAll (l.map f):=by
 have:∀l:List α,(l.flatMap e).length=(l.map fun a=>(e a).length).sum:=by
  intro l
  induction l with
  |nil=>rfl
  |cons a l ih=>simp only[List.flatMap_cons,List.length_append,List.map_cons,List.sum_cons,ih]
 rw[this]
 exact D3 l h
theorem pQ {q:d7} (h:q.2.1.length≤1073741824) (h2:q.2.2.length≤1073741824):(eZ q).length≤4*(q.2.1.length+q.2.2.length)+21:=by
 have a1:=dO (n:=q.2.1.length) (by omega)
 have a2:=dO (n:=q.2.2.length) (by omega)
 simp only[eZ,nn,lh,List.length_append,List.length_cons,List.length_nil,fk]
 omega
theorem pR {n:Int} (h:kU n):(cT n).length≤10:=dO (Ct h.1 h.2)
end Go.Rl
namespace Go.Rl
open Go.RowKit Go.Proofs
section
variable {α:Type} {f:α→Dt} {l m:List α} {v x:Value} {w w0 w':World} {e t ty:TypeId} {sz base:Nat}
def pu (e:TypeId) (sz base:Nat) (f:α→Dt) (l:List α) (v:Value) (w:World):Prop:=∃n xs,w.ownsRow base e sz v n xs∧aF (fun k=>v.ownBlock=some k) w (l.map f) xs
theorem pu.nil (w:World):pu e sz base f ([]:List α) (.slice none 0 0) w:=⟨0,[],World.ownsRow_nil _ _ _ _,aF.nil⟩
theorem pu.lt (h:pu e sz base f l v w):∀k,v.ownBlock=some k→base≤k∧k<w.heap.size:=fun k hk=>by
 obtain⟨n,xs,h,_⟩:=h
 exact World.ownsRow.lt h k hk
theorem pu.ext (h:pu e sz base f l v w) (hx:aE w w'):pu e sz base f l v w':=by
 obtain⟨n,xs,h1,h2⟩:=h
 exact⟨n,xs,eE h1 hx,h2.ext hx⟩
theorem pu.stable:be (pu e sz base f l):=fun _ _ _ h hx=>h.ext hx
end
end Go.Rl
namespace Go.Proofs.YtpeidnhjcompmaaGreatDoor
open Go Go.RowKit Go.Rl
theorem Bz:Tryz.prog.globalNamed "relucert/phase.opposites" =some 0:=by kernel_rfl
theorem D7:(Tryz.prog.globals[0]?).map (·.type)=some 225:=by kernel_rfl
theorem D8:Tryz.prog.cellsOf 225=5:=by kernel_rfl
theorem D9:Tryz.prog.cellsOf 3=1:=by kernel_rfl
noncomputable def GR (os:Os):World:=
 {World.holding Tryz.prog os ⟨#[],#[],[]⟩ with heap:=(World.holding Tryz.prog os ⟨#[],#[],[]⟩).heap.modify 0 fun
  |.cells _ t frozen=>.cells #[.int .i64 0,.int .i64 2,.int .i64 1,.int .i64 4,.int .i64 3] t frozen
  |o=>o}
end Go.Proofs.YtpeidnhjcompmaaGreatDoor
namespace Go.Rl
open Go.RowKit Go.Proofs Go.Proofs.YtpeidnhjcompmaaGreatDoor
def GS (w:World):Prop:=cS w ⟨0,0,none⟩ [I 0,I 2,I 1,I 4,I 3]
theorem GS.ext {w w':World} (h:GS w) (hx:aE w w'):GS w':=fun j u hu=>hx.cell_some (h j u hu)
theorem GS.of_laid {W:World} (h:laidMetH Tryz.prog [("relucert/phase.opposites",Rows.laid_relucert_phase_opposites)] W):GS W:=fun j u hu=>by
 have hT:Lib.TabIs Tryz.prog W "relucert/phase.opposites" .i64 [0,2,1,4,3]:=Lib.tabIs_of_head (rest:=[]) Bz D7 Tryz.underlying225 HE D9 D8 h
 rw[Addr.add_mid,Nat.zero_add]
 rcases j with _|_|_|_|_|j
 ·simp only[List.getElem?_cons_zero,Option.some.injEq] at hu;subst hu;exact hT.cell Bz 0 (by decide)
 ·simp only[List.getElem?_cons_succ,List.getElem?_cons_zero,Option.some.injEq] at hu;subst hu;exact hT.cell Bz 1 (by decide)
 ·simp only[List.getElem?_cons_succ,List.getElem?_cons_zero,Option.some.injEq] at hu;subst hu;exact hT.cell Bz 2 (by decide)
 ·simp only[List.getElem?_cons_succ,List.getElem?_cons_zero,Option.some.injEq] at hu;subst hu;exact hT.cell Bz 3 (by decide)
 ·simp only[List.getElem?_cons_succ,List.getElem?_cons_zero,Option.some.injEq] at hu;subst hu;exact hT.cell Bz 4 (by decide)
 ·simp at hu
end Go.Rl
namespace Go.Rl
open Go.RowKit Go.Proofs Go.Proofs.YtpeidnhjcompmaaGreatDoor
theorem pu.low {e:TypeId} {sz base b2:Nat} {l:List fa} {v:Value} {w:World} (h:pu e sz base nu l v w) (hb:b2≤base):pu e sz b2 nu l v w:=by
 obtain⟨n,xs,h1,h2⟩:=h
 exact⟨n,xs,ft h1 fun k hk=>Nat.le_trans hb (World.ownsRow.lt h1 k hk).1,h2⟩
end Go.Rl
namespace Go.Rl
open Go.RowKit
end Go.Rl
namespace Go.Rl
open Go.RowKit
end Go.Rl
namespace Go.Rl
open Go.RowKit Go.Proofs
def uY (w w':World):Prop:=∀a v,w.cell? a=some v→w'.cell? a=some v
theorem uY.cells {w w':World} (h:uY w w') {ad:Addr} {xs:List Value} (hc:cS w ad xs):cS w' ad xs:=fun j u hu=>h _ _ (hc j u hu)
structure Kc (b:Nat) (w w':World):Prop where
 os:w'.os=w.os
 tape:w'.tape=w.tape
 output:w'.output=w.output
 size:w.heap.size≤w'.heap.size
 low:∀k,k<b→w'.heap[k]? =w.heap[k]?
 cel:∀(k:Nat) (o:Obj),w.heap[k]? =some o→o.isCells=true→w'.heap[k]? =some o
section
variable {b:Nat} {w w0 w1 w2:World}
theorem Kc.refl (b:Nat) (w:World):Kc b w w:=⟨rfl,rfl,rfl,Nat.le_refl _,fun _ _=>rfl,fun _ _ h _=>h⟩
theorem Kc.trans (h:Kc b w w1) (k:Kc b w1 w2):Kc b w w2:=⟨k.os.trans h.os,k.tape.trans h.tape,k.output.trans h.output,Nat.le_trans h.size k.size,fun n hn=>(k.low n hn).trans (h.low n hn),fun n o hn ho=>k.cel n o (h.cel n o hn ho) ho⟩
theorem Kc.of_ext (h:aE w w1) (hb:b≤w.heap.size):Kc b w w1:=⟨h.os,h.tape,h.output,h.size,fun _ hn=>h.heap (Nat.lt_of_lt_of_le hn hb),fun _ _ hn _=>h.heap_some hn⟩
theorem Kc.cells (h:Kc b w w1):uY w w1:=fun a v hv=>by
 unfold World.cell? at hv⊢
 cases ho:w.heap[a.block]? with
 |none=>rw[ho] at hv;cases hv
 |some o=>
  rw[ho] at hv
  cases o with
  |cells c t f=>rw[h.cel _ _ ho rfl];exact hv
  |_=>cases hv
theorem Kc.blk {g:Nat} {T:TypeId} {l:List Value} (h:Kc b w w1) (k:bI g T l w):bI g T l w1:=h.cel _ _ k rfl
theorem Kc.ext (h:Kc w0.heap.size w w1) (e:aE w0 w):aE w0 w1:=⟨h.os.trans e.os,h.tape.trans e.tape,h.output.trans e.output,Nat.le_trans e.size h.size,fun n hn=>(h.low n hn).trans (e.heap hn)⟩
theorem Kc.own {row:Option Nat} (hg:w.grownBy w1 row) (hr:∀r,row=some r→b≤r∧∃o:Obj,w.heap[r]? =some o∧o.isCells=false) (hb:b≤w.heap.size):Kc b w w1:=by
 refine⟨hg.os,hg.tape,hg.output,hg.size,fun k hk=>hg.block k (by omega) fun e=>by have:=(hr k e.symm).1;omega,fun k o hk ho=>?_⟩
 refine(hg.block k (Array.getElem?_eq_some_iff.1 hk).1 fun e=>?_).trans hk
 obtain⟨_,o2,h2,h3⟩:=hr k e.symm
 rw[hk] at h2
 cases h2
 rw[ho] at h3
 cases h3
end
end Go.Rl
namespace Go.Rl
open Go.RowKit Go.Proofs Go.Proofs.YtpeidnhjcompmaaGreatDoor
end Go.Rl
namespace Go.Rl
open Go.RowKit
end Go.Rl
namespace Go.Rl
open Go.RowKit Go.Proofs Go.Proofs.YtpeidnhjcompmaaGreatDoor
end Go.Rl
namespace Go.Rl
open Go.RowKit Go.Proofs Go.Proofs.YtpeidnhjcompmaaGreatDoor
end Go.Rl
namespace Go.Rl
open Go.RowKit Go.Proofs
end Go.Rl
namespace Go.Rl
open Go.RowKit Go.Proofs Go.Proofs.YtpeidnhjcompmaaGreatDoor
end Go.Rl
namespace Go.Rl
open Go.RowKit
def Hw:List UInt8:=[82,76,85,74]
def chk (b:List UInt8):List UInt8:=b++(gM b).take 8
def Ea (b:List UInt8) (k:Nat):Bool:=decide (k+8≤b.length)&&decide (chk (b.take k)=b.take (k+8))
def Hx (b:List UInt8) (k:Nat):Option (uX×Nat):=(Ge (b.drop k)).bind fun p=>if Ea b (b.length-p.2.length)=true then(entR p.1).map fun x=>(x,b.length-p.2.length+8) else none
def Eb (b:List UInt8):Nat→Nat→List uX×Nat
 |0,k=>([],k)
 |f+1,k=>match Hx b k with
  |some (x,k')=>(x::(Eb b f k').1,(Eb b f k').2)
  |none=>([],k)
def FP (b:List UInt8) (k:Nat):List uX×Nat:=Eb b (b.length-k) k
def BA (b:List UInt8):(List UInt8×List uX×Nat)×Int:=if b.length<44∨b.take 4≠Hw∨Ea b 36=false then((gN,[],0),5) else(((b.take 36).drop 4,FP b 44),0)
end Go.Rl
namespace Go.Rl
open Go.RowKit Go.Proofs
def dEn (e:uX):Dt:=.st [.sl (e.path.map nu),cw e.leaf]
end Go.Rl
namespace Go.Rl
open Go.RowKit Go.Proofs
end Go.Rl
namespace Go.Rl
open Go.RowKit Go.Proofs
theorem dR.mk2 {T:TypeId} {w0 w w':World} {g:Nat} {l:List UInt8} {v:Value} {ad:Addr} (e:aE w0 w) (b:bQ l v w) (hv:v=.slice (some ad) l.length l.length) (ha:w0.heap.size≤ad.block) (hl:ad.block<w.heap.size) (x:aE w w') (hg:w.heap.size≤g) (k:bI g T [v] w'):dR T w0.heap.size g l v w':=by
 have ho:v.ownBlock=some ad.block:=by rw[hv];rfl
 refine⟨Nat.le_trans e.size hg,k,.inr ⟨b.ext x,ad,hv⟩,fun j hj=>?_,fun h=>?_,fun j hj=>?_⟩
 ·rw[ho] at hj;have:=Option.some.inj hj;omega
 ·rw[ho] at h;have:=Option.some.inj h;omega
 ·rw[ho] at hj;have:=Option.some.inj hj;have:=x.size;omega
theorem cY {w:World} {q:Ee} {vu vo vlo vhi vrs x y vcs:Value} (hu:dq dS q.us vu w) (hs:dq dS q.os vo w) (hlo:dq cN q.lo vlo w) (hhi:dq cN q.hi vhi w) (hrs:dq dS q.rs vrs w) (hx:bu q.mg.2.1 x w) (hy:bu q.mg.2.2 y w) (hcs:dq dS q.cs vcs w) (hw:GP q) (hl:(d9 q).length≤4398046511104):
 Calls Tryz.prog 37 #[.agg #[I q.inp,vu,vo],.agg #[vlo,vhi,vrs],.agg #[I q.kd,I q.tg,B q.mg.1,x,y,vcs]] w (bL fun r w'=>aE w w'∧r=.agg ((gM (d9 q)).map U8).toArray):=by
 obtain⟨p1,p2,p3,p4,p5,p6,p7⟩:=hw
 have hql:(d9 q).length=4+(cT q.inp).length+(bS q.us).length+(bS q.os).length+(d8 q.lo).length+(d8 q.hi).length+(bS q.rs).length+(cT q.kd).length+(cT q.tg).length+(eZ q.mg).length+(bS q.cs).length:=by simp only[d9,List.length_append];rfl
 refine enter (vs:=[.agg #[I q.inp,vu,vo],.agg #[vlo,vhi,vrs],.agg #[I q.kd,I q.tg,B q.mg.1,x,y,vcs]]) Tryz.func37 Ig Ig Ig ?_
 refine af (aa ?_)
 obtain⟨g3,w3,hr3,l3,x3,k3⟩:=cV (P:=Tryz.prog) (w:=w) (T:=75) (cs:=[I q.inp,vu,vo])
 refine cI Ig Ig hr3 ?_
 obtain⟨g4,w4,hr4,l4,x4,k4⟩:=cV (P:=Tryz.prog) (w:=w3) (T:=78) (cs:=[vlo,vhi,vrs])
 refine cI Ig Ig hr4 ?_
 obtain⟨g5,w5,hr5,l5,x5,k5⟩:=cV (P:=Tryz.prog) (w:=w4) (T:=80) (cs:=[I q.kd,I q.tg,B q.mg.1,x,y,vcs])
 refine cI Ig Ig hr5 ?_
 obtain⟨g6,w6,hr6,l6,x6,k6⟩:=aR (P:=Tryz.prog) (w:=w5) (t:=24) (l:=gN.map U8) dt rfl
 refine aU Ig hr6 ?_
 have e6:=(((x3.trans x4).trans x5)).trans x6
 have hxW:=hx.ext e6
 have hyW:=hy.ext e6
 refine ag (ab (af (aa ?_)))
 obtain⟨v9,w9a,w9,hr9,hc9,x9,b9,ad,hv9,had,hlt⟩:=CT (w:=w6) (t:=22) Tryz.underlying22 [82,76,85,81] (by simp) (by simp)
 refine aH (vs:=[(0,U8 82),(1,U8 76),(2,U8 85),(3,U8 81)]) Ig Ig hr9 ?_
 refine aN Ig Ig hc9 ?_
 refine bA (vs:=[(0,v9)]) (r:=.agg #[v9]) Ig Ig (by rw[hv9];exact run_build _ _ _ _ (by kernel_rfl)) ?_
 refine bA (vs:=[(0,.agg #[v9])]) (r:=.agg #[v9]) Ig Ig (by rw[hv9];exact run_build _ _ _ _ (by kernel_rfl)) ?_
 obtain⟨g12,w12,hr12,l12,x12,k12⟩:=cV (P:=Tryz.prog) (w:=w9) (T:=144) (cs:=[v9])
 refine cI Ig Ig hr12 ?_
 have hW12:dR 144 w6.heap.size g12 oH v9 w12:=dR.mk2 x9 b9 hv9 had hlt x12 l12 k12
 refine ac Ig Ig (ag (ab (af (bk 6 [3,4,5,6,7,15,18] (by kernel_rfl) (by kernel_rfl) ?_))))
 refine an Ig Ig (bm Ig Ig ?_)
 refine aA Ig Ig (fun w _=>lC) ?_
 refine aA Ig Ig (fun w hw=>aI (o:=0) HZ Ig (by kernel_rfl) Ig) (av Ig Ig (fun w hw=>aj HE Ig (hw.cell_some ((((x4.trans x5).trans x6).trans (x9.trans x12)).cell_some (k3.cell (i:=0) Ig)))) ?_)
 refine dz (S:=dG w12.heap.size [q.inp]) (dG.stable _ _) rfl (fun w' hw=>by rintro _ rfl;obtain⟨r,w2,h1,h2,h3,_⟩:=ql (w:=w') w12.heap.size [q.inp] (by simp) hw.size;exact⟨r,w2,h1,h2,h3⟩) ?_
 refine bn ?_
 intro wg2 xg2
 rintro _ rfl
 rintro _ rfl
 rintro _ rfl
 rintro _ rfl
 rintro _ rfl
 rintro _ rfl
 intro vg18 b18
 have hWa:=hW12.ext xg2
 refine ak f9 Ig Ig ((gb (ns:=[q.inp]) hWa (((x9.trans x12).trans xg2)).size (b18.rpx (fun k hk=>hW12.off_new (b18.lt k hk).1)) (DY p1) (by simp only[List.length_cons,List.length_nil];show 4+_≤_;omega))) ?_
 rintro v19 w19 ⟨v19,hW19,st19⟩
 have x19:=st19.ext (((x9.trans x12).trans xg2)) hWa.ge hWa.new
 have hc1:oH++[q.inp].flatMap cT=oH++cT q.inp:=by simp only[List.flatMap_cons,List.flatMap_nil,List.append_nil]
 rw[hc1] at hW19
 have hr4:oH.length=4:=rfl
 refine ag (ab (af (aa (ae Ig Ig (ah Ig Ig (aI (o:=1) HZ Ig (by kernel_rfl) Ig) (am Ig Ig (aj HK Ig ((((x4.trans x5).trans x6).trans x19).cell_some (k3.cell (i:=1) Ig))) ?_))))))
 refine ak jn Ig Ig ((jo (x19) hW19 (hu.ext e6) p2 (by simp only[List.length_append];omega))) ?_
 rintro v23 w23 ⟨v23,hW23,st23⟩
 have x23:=st23.ext (x19) hW19.ge hW19.new
 refine ag (ab (af (aa (ae Ig Ig (ah Ig Ig (aI (o:=2) HZ Ig (by kernel_rfl) Ig) (am Ig Ig (aj HK Ig ((((x4.trans x5).trans x6).trans x23).cell_some (k3.cell (i:=2) Ig))) ?_))))))
 refine ak jn Ig Ig ((jo (x23) hW23 (hs.ext e6) p3 (by simp only[List.length_append];omega))) ?_
 rintro v27 w27 ⟨v27,hW27,st27⟩
 have x27:=st27.ext (x23) hW23.ge hW23.new
 refine ag (ab (af (aa (ae Ig Ig (ah Ig Ig (aI (o:=0) HX Ig (by kernel_rfl) Ig) (am Ig Ig (aj HV Ig (((x5.trans x6).trans x27).cell_some (k4.cell (i:=0) Ig))) ?_))))))
 refine ak rK Ig Ig ((rL (x27) hW27 (hlo.ext e6) (by simp only[List.length_append];omega))) ?_
 rintro v31 w31 ⟨v31,hW31,st31⟩
 have x31:=st31.ext (x27) hW27.ge hW27.new
 refine ag (ab (af (aa (ae Ig Ig (ah Ig Ig (aI (o:=1) HX Ig (by kernel_rfl) Ig) (am Ig Ig (aj HV Ig (((x5.trans x6).trans x31).cell_some (k4.cell (i:=1) Ig))) ?_))))))
 refine ak rK Ig Ig ((rL (x31) hW31 (hhi.ext e6) (by simp only[List.length_append];omega))) ?_
 rintro v35 w35 ⟨v35,hW35,st35⟩
 have x35:=st35.ext (x31) hW31.ge hW31.new
 refine ag (ab (af (aa (ae Ig Ig (ah Ig Ig (aI (o:=2) HX Ig (by kernel_rfl) Ig) (am Ig Ig (aj HK Ig (((x5.trans x6).trans x35).cell_some (k4.cell (i:=2) Ig))) ?_))))))
 refine ak jn Ig Ig ((jo (x35) hW35 (hrs.ext e6) p4 (by simp only[List.length_append];omega))) ?_
 rintro v39 w39 ⟨v39,hW39,st39⟩
 have x39:=st39.ext (x35) hW35.ge hW35.new
 refine ag (ab (af (bk 8 [5,6,7,42,47] (by kernel_rfl) (by kernel_rfl) ?_)))
 refine an Ig Ig (bm Ig Ig ?_)
 refine aA Ig Ig (fun w _=>lC) ?_
 refine aA Ig Ig (fun w hw=>aI (o:=0) HY Ig (by kernel_rfl) Ig) (av Ig Ig (fun w hw=>aj HE Ig (hw.cell_some ((x6.trans x39).cell_some (k5.cell (i:=0) Ig)))) ?_)
 refine aA Ig Ig (fun w hw=>aI (o:=1) HY Ig (by kernel_rfl) Ig) (av Ig Ig (fun w hw=>aj HE Ig (hw.cell_some ((x6.trans x39).cell_some (k5.cell (i:=1) Ig)))) ?_)
 refine dz (S:=dG w39.heap.size [q.kd,q.tg]) (dG.stable _ _) rfl (fun w' hw=>by rintro _ rfl _ rfl;obtain⟨r,w2,h1,h2,h3,_⟩:=ql (w:=w') w39.heap.size [q.kd,q.tg] (by simp) hw.size;exact⟨r,w2,h1,h2,h3⟩) ?_
 refine bn ?_
 intro wg8 xg8
 rintro _ rfl
 rintro _ rfl
 rintro _ rfl
 rintro _ rfl
 intro vg47 b47
 have hWb:=hW39.ext xg8
 refine ak f9 Ig Ig ((gb (ns:=[q.kd,q.tg]) hWb ((x39.trans xg8)).size (b47.rpx (fun k hk=>hW39.off_new (b47.lt k hk).1)) (FN p5 p6) (by simp only[List.length_cons,List.length_nil,List.length_append];omega))) ?_
 rintro v48 w48 ⟨v48,hW48,st48⟩
 have x48:=st48.ext ((x39.trans xg8)) hWb.ge hWb.new
 have hc2:[q.kd,q.tg].flatMap cT=cT q.kd++cT q.tg:=by simp only[List.flatMap_cons,List.flatMap_nil,List.append_nil]
 rw[hc2] at hW48
 refine ag (ab (af (bk 5 [5,6,7,51,53] (by kernel_rfl) (by kernel_rfl) ?_)))
 refine an Ig Ig (bm Ig Ig ?_)
 refine aA Ig Ig (fun w _=>lC) ?_
 refine aA rfl rfl (fun w hw=>aI (o:=2) Tryz.underlying80 rfl (by kernel_rfl) rfl) (av rfl rfl (fun w hw=>((k5.ext (x6.trans x48)).ext hw).ldO (ms:=[B q.mg.1,x,y]) (o:=2) (fun j v hj=>by rcases j with _|_|_|_|_|_|_|_|_|j<;>simp_all) Tryz.underlying46 rfl (by kernel_rfl)) ?_)
 refine bn ?_
 intro wg9 xg9
 rintro _ rfl
 rintro _ rfl
 rintro _ rfl
 rintro _ rfl
 rintro _ rfl
 have hWc:=hW48.ext xg9
 refine ak fo Ig Ig ((fp (q:=q.mg) ((x48.trans xg9)) hWc hxW hyW (by simp only[List.length_append];omega))) ?_
 rintro v54 w54 ⟨v54,hW54,st54⟩
 have x54:=st54.ext ((x48.trans xg9)) hWc.ge hWc.new
 refine ag (ab (af (aa (ae Ig Ig (ah Ig Ig (aI (o:=5) HY Ig (by kernel_rfl) Ig) (am Ig Ig (aj HK Ig ((x6.trans x54).cell_some (k5.cell (i:=5) Ig))) ?_))))))
 refine ak jn Ig Ig ((jo (x54) hW54 (hcs.ext e6) p7 (by simp only[List.length_append];omega))) ?_
 rintro v58 w58 ⟨v58,hW58,st58⟩
 have x58:=st58.ext (x54) hW54.ge hW54.new
 refine ag (ab (af ?_))
 have kg:=hW58.blk
 have bF:bQ (d9 q) v58 w58:=by have h:=hW58.row.bts;simpa only[d9,List.append_assoc] using h
 refine aa (ae Ig Ig (aQ Ig Ig ?_))
 refine ah Ig Ig lC ?_
 refine ah Ig Ig ga ?_
 refine am Ig Ig (aj HF Ig kg.k0) (ak oC Ig Ig ((oD bF)) ?_)
 rintro v64 w64 ⟨x64,rfl⟩
 obtain⟨w7',s7,q7,k7⟩:=(k6.ext ((x58.trans x64))).stS (P:=Tryz.prog) (t:=24) (m:=(gM (d9 q)).map U8) (by simp[bW,gN]) (by rw[List.length_map,bW];exact fS) (iZ _)
 refine az Ig Ig s7 ?_
 have x7:=aE.of_new (e6.trans ((x58.trans x64))) q7 (Nat.le_trans ((x3.trans x4).trans x5).size l6)
 refine ag (ab (ay ?_))
 refine eo Ig Ig k7 HS Ig (by rw[List.length_map,bW];exact fS) ?_
 exact⟨_,rfl,x7,rfl⟩
end Go.Rl
namespace Go.Rl
open Go.RowKit Go.Proofs
theorem jp:aw Tryz.prog 78:=⟨_,Tryz.func78,by kernel_rfl,rfl⟩
theorem rM:aw Tryz.prog 80:=⟨_,Tryz.func80,by kernel_rfl,rfl⟩
theorem xu:aw Tryz.prog 36:=⟨_,Tryz.func36,by kernel_rfl,rfl⟩
theorem rN {w:World} {b:List UInt8} {qs:List d7} {bv qv:Value} (hb:bQ b bv w) (hd:dq cN qs qv w) (hl:b.length+(d8 qs).length≤4398046511104):
 Calls Tryz.prog 80 #[bv,qv] w (bL fun r w'=>aE w w'∧bQ (b++d8 qs) r w'):=by
 refine enter (vs:=[bv,qv]) Tryz.func80 Ig Ig Ig ?_
 have hll:=hd.len
 have hpl:(d8 qs).length=(uv qs.length).length+(qs.flatMap eZ).length:=by simp only[d8,List.length_append]
 have hun:(UInt64.ofNat qs.length).toNat=qs.length:=by rw[UInt64.toNat_ofNat'];omega
 refine af (aa (ac Ig Ig (ag (ab (af (aa (ae Ig Ig (ae Ig Ig (aO Ig Ig (bN HV hd) (aN Ig Ig (dT HE HD) ?_))))))))))
 refine ak dJ Ig Ig ((dK (n:=UInt64.ofNat qs.length) hb (by omega))) ?_
 rintro v10 w10 ⟨x10,o10⟩
 refine ac Ig Ig (ag (ab (af (af ?_))))
 have b10:=o10.bts
 rw[hun] at b10
 refine aa (ac Ig Ig (ag (ab (au ?_))))
 refine d5 (fun(i:Nat) (u:Value)=>[(0,u),(1,qv),(5,I (i:Int))]) (fun(i:Nat) (u:Value) w'=>aE w w'∧i≤qs.length∧bQ (b++uv qs.length++(qs.take i).flatMap eZ) u w') (fun(i:Nat) (u:Value)=>qs.length-i) (0) (v10) ⟨rfl,rfl,rfl,trivial⟩ ⟨x10,by omega,by simpa using b10⟩ ?_
 rintro i u wL ⟨eL,hi,hB⟩
 refine af (af (aa (ae Ig Ig (ae Ig Ig (aO Ig Ig (bN HV (hd.ext eL)) (ai Ig Ig Ig (bb) (ag (ab ?_))))))))
 refine bi Ig (fun h14=>?_) (fun h14=>?_)
 ·refine ax (ab (af (au (aa (ae Ig Ig (ae Ig Ig (ae Ig Ig ?_)))))))
  obtain⟨a20,c20,p20,q20,h20⟩:=eA (P:=Tryz.prog) (sz:=3) HV (by kernel_rfl) sV (by omega) (hd.ext eL) (i:=i) (by omega) .i64
  obtain⟨e20,he20⟩:∃e,e=qs[i]'(by omega):=⟨_,rfl⟩
  rw[←he20] at h20
  obtain⟨x20_0,x20_1,rfl,f20_0,f20_1⟩:=fF h20
  refine aq Ig Ig Ig (p20 _) ?_
  have hfl:=dF (f:=eZ) (l:=qs) (i:=i) (by omega)
  rw[←he20] at hfl
  have hqa:=lr e20
  refine am Ig Ig (q20.ld Tryz.underlying46 Ig (by kernel_rfl)) (ak fK Ig Ig ((fL hB (dV.mk f20_0 f20_1) (by simp only[List.length_append];omega))) ?_)
  rintro v22 w22 ⟨x22,o22⟩
  refine ac Ig Ig (ag (aM (ab (aa (ae Ig Ig (ai (r:=I ((i+1:Nat):Int)) Ig Ig Ig (by have e:((i+1:Nat):Int)=(i:Int)+1:=(by omega);rw[e];exact aK (by omega) (by omega)) ?_))))))
  refine ac Ig Ig (ag ?_)
  refine cL (i+1) (v22) ⟨rfl,rfl,rfl,trivial⟩ ⟨(eL.trans x22),by omega,by rw[cg (by omega),←he20,←List.append_assoc];exact o22.bts⟩ (by omega)
 ·refine ba (aC (aC (aY (ab (af (aa (ae Ig Ig (ac Ig Ig (ag (ab (ay (aD Ig Ig ?_))))))))))))
  exact⟨_,rfl,eL,by rw[List.take_of_length_le (by omega),List.append_assoc] at hB;exact hB⟩
theorem jq {w:World} {b:List UInt8} {fs:List ma} {bv qv:Value} (hb:bQ b bv w) (hd:dq dS fs qv w) (hw:∀f∈fs,Ef f) (hl:b.length+(bS fs).length≤4398046511104):
 Calls Tryz.prog 78 #[bv,qv] w (bL fun r w'=>aE w w'∧bQ (b++bS fs) r w'):=by
 refine enter (vs:=[bv,qv]) Tryz.func78 Ig Ig Ig ?_
 have hll:=hd.len
 have hpl:(bS fs).length=(uv fs.length).length+(fs.flatMap gd).length:=by simp only[bS,List.length_append]
 have hun:(UInt64.ofNat fs.length).toNat=fs.length:=by rw[UInt64.toNat_ofNat'];omega
 refine af (aa (ac Ig Ig (ag (ab (af (aa (ae Ig Ig (ae Ig Ig (aO Ig Ig (bN HK hd) (aN Ig Ig (dT HE HD) ?_))))))))))
 refine ak dJ Ig Ig ((dK (n:=UInt64.ofNat fs.length) hb (by omega))) ?_
 rintro v11 w11 ⟨x11,o11⟩
 refine ac Ig Ig (ag (ab (af (af ?_))))
 have b11:=o11.bts
 rw[hun] at b11
 refine aa (ac Ig Ig (ag (ab (au ?_))))
 refine d5 (fun(i:Nat) (u:Value)=>[(0,u),(1,qv),(5,I (i:Int))]) (fun(i:Nat) (u:Value) w'=>aE w w'∧i≤fs.length∧bQ (b++uv fs.length++(fs.take i).flatMap gd) u w') (fun(i:Nat) (u:Value)=>fs.length-i) (0) (v11) ⟨rfl,rfl,rfl,trivial⟩ ⟨x11,by omega,by simpa using b11⟩ ?_
 rintro i u wL ⟨eL,hi,hB⟩
 refine af (af (aa (ae Ig Ig (ae Ig Ig (aO Ig Ig (bN HK (hd.ext eL)) (ai Ig Ig Ig (bb) (ag (ab ?_))))))))
 refine bi Ig (fun h15=>?_) (fun h15=>?_)
 ·refine ax (ab (af (au (af (aa (ae Ig Ig (ae Ig Ig (ae Ig Ig ?_))))))))
  obtain⟨a21,c21,p21,q21,h21⟩:=eA (P:=Tryz.prog) (sz:=4) HK (by kernel_rfl) iU (by omega) (hd.ext eL) (i:=i) (by omega) .i64
  obtain⟨e21,he21⟩:∃e,e=fs[i]'(by omega):=⟨_,rfl⟩
  rw[←he21] at h21
  obtain⟨x21_0,x21_1,x21_2,rfl,f21_0,f21_1,f21_2⟩:=jU h21
  refine aq Ig Ig Ig (p21 _) ?_
  have hm:=hw e21 (by rw[he21];exact List.getElem_mem _)
  have hfl:=dF (f:=gd) (l:=fs) (i:=i) (by omega)
  rw[←he21] at hfl
  have hml:(gd e21).length=(uv e21.ts.length).length+(e21.ts.flatMap gc).length+(eZ e21.ct).length:=by simp only[gd,List.length_append]
  have htl:=f21_0.len
  have hqa:=lr e21.ct
  obtain⟨pre,hpre⟩:∃pre,pre=b++uv fs.length++(fs.take i).flatMap gd:=⟨_,rfl⟩
  have hprl:pre.length=b.length+(uv fs.length).length+((fs.take i).flatMap gd).length:=by rw[hpre];simp only[List.length_append]
  rw[←hpre] at hB
  have hun2:(UInt64.ofNat e21.ts.length).toNat=e21.ts.length:=by rw[UInt64.toNat_ofNat'];omega
  refine ah Ig Ig (xZ (o:=0) H2 Ig (by kernel_rfl) Ig) (am Ig Ig (aj HW Ig (q21.at (j:=0) Ig)) ?_)
  refine aO Ig Ig (bN HW f21_0) (aN Ig Ig (dT HE HD) (ak dJ Ig Ig ((dK (n:=UInt64.ofNat e21.ts.length) hB (by omega))) ?_))
  rintro v26 w26 ⟨x26,o26⟩
  refine ac Ig Ig (ag (ab (af (af ?_))))
  have b26:=o26.bts
  rw[hun2] at b26
  refine aa (ac Ig Ig (ag (ab (au ?_))))
  refine d5 (fun(k:Nat) (u2:Value)=>[(0,u2),(1,qv),(5,I (i:Int)),(6,I (k:Int))]) (fun(k:Nat) (u2:Value) w'=>aE w w'∧k≤e21.ts.length∧bQ (pre++uv e21.ts.length++(e21.ts.take k).flatMap gc) u2 w') (fun(k:Nat) (u2:Value)=>e21.ts.length-k) (0) (v26) ⟨rfl,rfl,rfl,rfl,trivial⟩ ⟨(eL.trans x26),by omega,by simpa using b26⟩ ?_
  rintro k u2 wM ⟨eM,hk,hB2⟩
  refine af (af (aa (ae Ig Ig (ae Ig Ig (ae Ig Ig ?_)))))
  obtain⟨a30,c30,p30,q30,h30⟩:=eA (P:=Tryz.prog) (sz:=4) HK (by kernel_rfl) iU (by omega) (hd.ext eM) (i:=i) (by omega) .i64
  rw[←he21] at h30
  obtain⟨x30_0,x30_1,x30_2,rfl,f30_0,f30_1,f30_2⟩:=jU h30
  refine aq Ig Ig Ig (p30 _) (ah Ig Ig (xZ (o:=0) H2 Ig (by kernel_rfl) Ig) (am Ig Ig (aj HW Ig (q30.at (j:=0) Ig)) ?_))
  refine aO Ig Ig (bN HW f30_0) (ai Ig Ig Ig (bb) (ag (ab ?_)))
  refine bi Ig (fun h34=>?_) (fun h34=>?_)
  ·refine ax (ab (af (au ?_)))
   obtain⟨em,hem⟩:∃em,em=e21.ts[k]'(by omega):=⟨_,rfl⟩
   have hmt:=hm em (by rw[hem];exact List.getElem_mem _)
   have hflt:=dF (f:=gc) (l:=e21.ts) (i:=k) (by omega)
   rw[←hem] at hflt
   have hmtl:(gc em).length=(cT em.va).length+(eZ em.co).length:=by simp only[gc,List.length_append]
   have hqat:=lr em.co
   obtain⟨pre2,hpre2⟩:∃pre2,pre2=pre++uv e21.ts.length++(e21.ts.take k).flatMap gc:=⟨_,rfl⟩
   have hprl2:pre2.length=pre.length+(uv e21.ts.length).length+((e21.ts.take k).flatMap gc).length:=by rw[hpre2];simp only[List.length_append]
   rw[←hpre2] at hB2
   refine bk 21 [1,5,6,57] (by kernel_rfl) (by kernel_rfl) ?_
   refine an Ig Ig (an Ig Ig (an Ig Ig ?_))
   obtain⟨a40,c40,p40,q40,h40⟩:=eA (P:=Tryz.prog) (sz:=4) HK (by kernel_rfl) iU (by omega) (hd.ext eM) (i:=i) (by omega) .i64
   rw[←he21] at h40
   obtain⟨x40_0,x40_1,x40_2,rfl,f40_0,f40_1,f40_2⟩:=jU h40
   refine ar Ig Ig Ig (fun w _=>p40 w) (aA Ig Ig (fun w hw=>xZ (o:=0) H2 Ig (by kernel_rfl) Ig) ?_)
   refine av Ig Ig (fun w hw=>aj HW Ig (hw.cell_some (q40.at (j:=0) Ig))) (an Ig Ig ?_)
   obtain⟨a44,c44,p44,q44,h44⟩:=eA (P:=Tryz.prog) (sz:=4) HW (by kernel_rfl) mR (by omega) f40_0 (i:=k) ((by omega)) .i64
   rw[←hem] at h44
   obtain⟨x44_0,x44_1,rfl,f44_0,f44_1⟩:=oI h44
   refine ar Ig Ig Ig (fun w _=>p44 w) (aA Ig Ig (fun w hw=>xZ (o:=0) H9 Ig (by kernel_rfl) Ig) (av Ig Ig (fun w hw=>aj HE Ig (hw.cell_some (q44.at (j:=0) Ig))) ?_))
   refine bM (S:=bQ (pre2++cT em.va)) fI (bQ.stable _) rfl (fun w hw=>by rintro _ rfl _ rfl;exact bL.mono (fJ (n:=em.va) (hB2.ext hw) (by omega) hmt.1 hmt.2) fun v w' h=>⟨h.1,h.2.bts⟩) ?_
   refine an Ig Ig (an Ig Ig ?_)
   obtain⟨a50,c50,p50,q50,h50⟩:=eA (P:=Tryz.prog) (sz:=4) HK (by kernel_rfl) iU (by omega) (hd.ext eM) (i:=i) (by omega) .i64
   rw[←he21] at h50
   obtain⟨x50_0,x50_1,x50_2,rfl,f50_0,f50_1,f50_2⟩:=jU h50
   refine ar Ig Ig Ig (fun w _=>p50 w) (aA Ig Ig (fun w hw=>xZ (o:=0) H2 Ig (by kernel_rfl) Ig) ?_)
   refine av Ig Ig (fun w hw=>aj HW Ig (hw.cell_some (q50.at (j:=0) Ig))) (an Ig Ig ?_)
   obtain⟨a54,c54,p54,q54,h54⟩:=eA (P:=Tryz.prog) (sz:=4) HW (by kernel_rfl) mR (by omega) f50_0 (i:=k) (by omega) .i64
   rw[←hem] at h54
   obtain⟨x54_0,x54_1,rfl,f54_0,f54_1⟩:=oI h54
   refine ar rfl rfl rfl (fun w _=>p54 w) (aA rfl rfl (fun w hw=>xZ (o:=1) Tryz.underlying198 rfl (by kernel_rfl) rfl) (av rfl rfl (fun w hw=>(q54.ext hw).ldO (ms:=[B em.co.1,x54_0,x54_1]) (o:=1) (fun j v hj=>by rcases j with _|_|_|_|_|_|_|_|_|j<;>simp_all) Tryz.underlying46 rfl (by kernel_rfl)) ?_))
   refine bM (S:=bQ (pre2++cT em.va++eZ em.co)) fK (bQ.stable _) rfl (fun w hw=>by rintro _ h47 _ rfl;exact bL.mono (fL h47 (dV.mk (f54_0.ext hw) (f54_1.ext hw)) (by simp only[List.length_append];omega)) fun v w' h=>⟨h.1,h.2.bts⟩) ?_
   refine bn ?_
   intro wg9 xg9
   rintro _ hq1
   obtain rfl:=Eq.symm hq1
   rintro _ rfl
   rintro _ rfl
   intro vg57 b57
   refine ac Ig Ig (ag (aM (ab (aa (ae Ig Ig (ai (r:=I ((k+1:Nat):Int)) Ig Ig Ig (by have e:((k+1:Nat):Int)=(k:Int)+1:=(by omega);rw[e];exact aK (by omega) (by omega)) ?_))))))
   refine ac Ig Ig (ag ?_)
   refine cL (k+1) (vg57) ⟨rfl,rfl,rfl,rfl,trivial⟩ ⟨(eM.trans xg9),by omega,by rw[cg (by omega),←hem,←List.append_assoc,←hpre2];have b57':bQ (pre2++cT em.va++eZ em.co) vg57 wg9:=b57;simpa only[gc,List.append_assoc] using b57'⟩ (by omega)
  ·refine ba (aC (aC (aY (ab ?_))))
   rw[List.take_of_length_le (by omega)] at hB2
   refine aa (ae Ig Ig (ae Ig Ig (ae Ig Ig ?_)))
   obtain⟨a61,c61,p61,q61,h61⟩:=eA (P:=Tryz.prog) (sz:=4) HK (by kernel_rfl) iU (by omega) (hd.ext eM) (i:=i) (by omega) .i64
   rw[←he21] at h61
   obtain⟨x61_0,x61_1,x61_2,rfl,f61_0,f61_1,f61_2⟩:=jU h61
   refine aq rfl rfl rfl (p61 _) (ah rfl rfl (xZ (o:=1) Tryz.underlying196 rfl (by kernel_rfl) rfl) (am rfl rfl (q61.ldO (ms:=[B e21.ct.1,x61_1,x61_2]) (o:=1) (fun j v hj=>by rcases j with _|_|_|_|_|_|_|_|_|j<;>simp_all) Tryz.underlying46 rfl (by kernel_rfl)) ?_))
   refine ak fK Ig Ig ((fL hB2 (dV.mk f61_1 f61_2) (by simp only[List.length_append];omega))) ?_
   rintro v64 w64 ⟨x64,o64⟩
   refine ac Ig Ig (ag (aM (ab (aa (ae Ig Ig (ai (r:=I ((i+1:Nat):Int)) Ig Ig Ig (by have e:((i+1:Nat):Int)=(i:Int)+1:=(by omega);rw[e];exact aK (by omega) (by omega)) ?_))))))
   refine ac Ig Ig (ag ?_)
   refine cL (i+1) (v64) ⟨rfl,rfl,rfl,trivial⟩ ⟨(eM.trans x64),by omega,by rw[cg (by omega),←he21,←List.append_assoc,←hpre];simpa only[gd,eZ,List.append_assoc] using o64.bts⟩ (by omega)
 ·refine ba (aC (aC (aY (ab (af (aa (ae Ig Ig (ac Ig Ig (ag (ab (ay (aD Ig Ig ?_))))))))))))
  exact⟨_,rfl,eL,by rw[List.take_of_length_le (by omega),List.append_assoc] at hB;exact hB⟩
end Go.Rl
namespace Go.Rl
open Go.RowKit Go.Proofs
theorem pm:aw Tryz.prog 35:=⟨_,Tryz.func35,by kernel_rfl,rfl⟩
section
variable {w:World} {t:TypeId}
theorem Fg (ht:Tryz.prog.underlying t=some (.slice 5)) (l:List UInt8) (hl:l.length≤16777216) (h0:0<l.length):∃v w1 w2,(Instr.buildSlice t l.length (da 0 (l.map U8)).toArray).run Tryz.prog w=.ok v w1∧(convert t t v).run Tryz.prog w1=.ok v w2∧aE w w1∧aE w w2∧bQ l v w2:=by
 obtain⟨i,hi,hz0,hs,_⟩:=info_parts lJ
 have hf:∀Z:Array Value,Z.size=(l.map U8).length→Instr.fill (fun i=>some (i*1,1)) Z (da 0 (l.map U8))=some (l.map U8).toArray:=fun Z hZ=>by
  have:=kX (l.map U8) [] Z.toList (fun v hv=>nT (iZ l v hv)) (by simpa using hZ)
  simpa using this
 have hle:¬(l.length*1>2^24):=by omega
 have hinfo:(typeInfo 5).run Tryz.prog w=.ok i w:=by simp[typeInfo,hi]
 have hsz:(sizeOf 5).run Tryz.prog w=.ok 1 w:=by simp[sizeOf,hinfo,hs]
 have hzv:(zeroValue 5).run Tryz.prog w=.ok (.int .u8 0) w:=by simp[zeroValue,hinfo,hz0]
 have hrun:(Instr.buildSlice t l.length (da 0 (l.map U8)).toArray).run Tryz.prog w=.ok (.slice (some ⟨w.heap.size,0,none⟩) l.length l.length) (w.alloc (.cells (l.map U8).toArray 5)):=by
  simp only[Instr.buildSlice,Sem.run_bind,run_underlying ht,Result.andThen_ok,hsz,if_neg hle]
  rw[if_neg (by omega)]
  simp only[Sem.run_bind,Sem.run_pure,Result.andThen_ok,hzv]
  rw[hf _ (by simp[Value.cells])]
  simp[newRow]
 refine⟨_,_,_,hrun,Go.Lib.run_convert_bytes_const w t 5 _ _ _ ht HH,aE.new w _,aE.new w _,?_⟩
 have hg:=heap_alloc_new w (.cells (l.map U8).toArray 5 ((l.map U8).toArray.size,(l.map U8).toArray.size+1))
 refine⟨_,_,_,rfl,Nat.le_refl _,by unfold maxLen;omega,by simp,fun _=>⟨_,rfl,fun j u hu=>?_⟩,fun h=>by cases h⟩
 rw[Addr.add_mid,Nat.zero_add,cell_of_row _ _ j _ _ _ hg]
 simpa using hu
end
theorem xv {w:World} {q:Ee} {vu vo vlo vhi vrs x y vcs:Value} (hu:dq dS q.us vu w) (hs:dq dS q.os vo w) (hlo:dq cN q.lo vlo w) (hhi:dq cN q.hi vhi w) (hrs:dq dS q.rs vrs w) (hx:bu q.mg.2.1 x w) (hy:bu q.mg.2.2 y w) (hcs:dq dS q.cs vcs w) (hw:GP q) (hl:(d9 q).length≤4398046511104):
 Calls Tryz.prog 36 #[.agg #[I q.inp,vu,vo],.agg #[vlo,vhi,vrs],.agg #[I q.kd,I q.tg,B q.mg.1,x,y,vcs]] w (bL fun r w'=>aE w w'∧bQ (d9 q) r w'):=by
 obtain⟨p1,p2,p3,p4,p5,p6,p7⟩:=hw
 have hqa:=lr q.mg
 have hr4:oH.length=4:=rfl
 have hql:(d9 q).length=4+(cT q.inp).length+(bS q.us).length+(bS q.os).length+(d8 q.lo).length+(d8 q.hi).length+(bS q.rs).length+(cT q.kd).length+(cT q.tg).length+(eZ q.mg).length+(bS q.cs).length:=by simp only[d9,List.length_append];rfl
 refine enter (vs:=[.agg #[I q.inp,vu,vo],.agg #[vlo,vhi,vrs],.agg #[I q.kd,I q.tg,B q.mg.1,x,y,vcs]]) Tryz.func36 Ig Ig Ig ?_
 refine af (aa ?_)
 obtain⟨g3,w3,hr3,l3,x3,k3⟩:=cV (P:=Tryz.prog) (w:=w) (T:=75) (cs:=[I q.inp,vu,vo])
 refine cI Ig Ig hr3 ?_
 obtain⟨g4,w4,hr4,l4,x4,k4⟩:=cV (P:=Tryz.prog) (w:=w3) (T:=78) (cs:=[vlo,vhi,vrs])
 refine cI Ig Ig hr4 ?_
 obtain⟨g5,w5,hr5,l5,x5,k5⟩:=cV (P:=Tryz.prog) (w:=w4) (T:=80) (cs:=[I q.kd,I q.tg,B q.mg.1,x,y,vcs])
 refine cI Ig Ig hr5 (ac Ig Ig (ag (ab (af ?_))))
 have e5:aE w w5:=(x3.trans x4).trans x5
 have eD:aE w5 w5.drew:=(aE.refl w5).drew
 have hS:bI g3 75 [I q.inp,vu,vo] w5.drew:=(k3.ext (x4.trans x5)).ext eD
 refine t6 (fun w1=>bI g3 75 [I q.inp,vu,vo] w1) 12 Ig (by kernel_rfl) ?_
 refine cM 2 Ig Ig (by kernel_rfl) Ig hS (fun _ _=>aI (o:=0) HZ Ig (by kernel_rfl) Ig) ?_
 refine fN 3 Ig Ig (by kernel_rfl) Ig hS (fun _ hw=>aj HE Ig (hw.cell (i:=0) Ig)) ?_
 refine cM 5 Ig Ig (by kernel_rfl) Ig hS (fun _ _=>aI (o:=1) HZ Ig (by kernel_rfl) Ig) ?_
 refine fN 6 Ig Ig (by kernel_rfl) Ig hS (fun _ hw=>aj HK Ig (hw.cell (i:=1) Ig)) ?_
 refine cM 8 Ig Ig (by kernel_rfl) Ig hS (fun _ _=>aI (o:=2) HZ Ig (by kernel_rfl) Ig) ?_
 refine fN 9 Ig Ig (by kernel_rfl) Ig hS (fun _ hw=>aj HK Ig (hw.cell (i:=2) Ig)) ?_
 obtain⟨v9,w9a,w9,hr9,hc9,x9a,x9,b9⟩:=Fg (w:=w5.drew) (t:=22) Tryz.underlying22 [82,76,85,81] (by simp) (by simp)
 refine cv 0 (by kernel_rfl) Ig (aH (vs:=[(0,U8 82),(1,U8 76),(2,U8 85),(3,U8 81)]) Ig Ig hr9 (aX (hS.ext x9a) ?_))
 refine cv 1 (by kernel_rfl) Ig (aN Ig Ig hc9 (aX (hS.ext x9) ?_))
 refine cv 4 (by kernel_rfl) Ig (ak fI Ig Ig (fJ (n:=q.inp) b9 (by simp) p1.1 p1.2) ?_)
 rintro v12 w12 ⟨x12,o12⟩
 have e12:=(e5.trans eD).trans (x9.trans x12)
 have b12:bQ (oH++cT q.inp) v12 w12:=o12.bts
 refine aX (hS.ext (x9.trans x12)) ?_
 refine cv 7 (by kernel_rfl) Ig (ak jp Ig Ig (jq b12 (hu.ext e12) p2 (by simp only[List.length_append];omega)) ?_)
 rintro v15 w15 ⟨x15,b15⟩
 have e15:=e12.trans x15
 refine aX (hS.ext ((x9.trans x12).trans x15)) ?_
 refine cv 10 (by kernel_rfl) Ig (ak jp Ig Ig (jq b15 (hs.ext e15) p3 (by simp only[List.length_append];omega)) ?_)
 rintro v18 w18 ⟨x18,b18⟩
 have e18:aE w5 w18:=(eD.trans (x9.trans x12)).trans (x15.trans x18)
 refine aX (hS.ext (((x9.trans x12).trans x15).trans x18)) ?_
 refine cv 11 (by kernel_rfl) Ig (ac Ig Ig (aX (hS.ext (((x9.trans x12).trans x15).trans x18)) (mw (by kernel_rfl) ?_)))
 refine ab (af ?_)
 have e18w:aE w w18:=e5.trans e18
 refine bk 10 [5,28] (by kernel_rfl) (by kernel_rfl) ?_
 refine an Ig Ig (aA Ig Ig (fun w hw=>aI (o:=0) HX Ig (by kernel_rfl) Ig) (av Ig Ig (fun w hw=>aj HV Ig (hw.cell_some ((x5.trans e18).cell_some (k4.cell (i:=0) Ig)))) ?_))
 refine bM (S:=bQ (oH++cT q.inp++bS q.us++bS q.os++d8 q.lo)) rM (bQ.stable _) rfl (fun w hw=>by rintro _ rfl _ rfl;exact rN (b18.ext hw) ((hlo.ext e18w).ext hw) (by simp only[List.length_append];omega)) ?_
 refine aA Ig Ig (fun w hw=>aI (o:=1) HX Ig (by kernel_rfl) Ig) (av Ig Ig (fun w hw=>aj HV Ig (hw.cell_some ((x5.trans e18).cell_some (k4.cell (i:=1) Ig)))) ?_)
 refine bM (S:=bQ (oH++cT q.inp++bS q.us++bS q.os++d8 q.lo++d8 q.hi)) rM (bQ.stable _) rfl (fun w hw=>by rintro _ h22 _ rfl;exact rN h22 ((hhi.ext e18w).ext hw) (by simp only[List.length_append];omega)) ?_
 refine aA Ig Ig (fun w hw=>aI (o:=2) HX Ig (by kernel_rfl) Ig) (av Ig Ig (fun w hw=>aj HK Ig (hw.cell_some ((x5.trans e18).cell_some (k4.cell (i:=2) Ig)))) ?_)
 refine bM (S:=bQ (oH++cT q.inp++bS q.us++bS q.os++d8 q.lo++d8 q.hi++bS q.rs)) jp (bQ.stable _) rfl (fun w hw=>by rintro _ h25 _ rfl;exact jq h25 ((hrs.ext e18w).ext hw) p4 (by simp only[List.length_append];omega)) ?_
 refine bn ?_
 intro wg2 xg2
 rintro _ rfl
 intro vg28 b28
 refine ac Ig Ig (ag (ab (af ?_)))
 have e28w:=((((x3.trans x4).trans x5).trans e18).trans xg2)
 refine bk 10 [5,38] (by kernel_rfl) (by kernel_rfl) ?_
 refine an Ig Ig (aA Ig Ig (fun w hw=>aI (o:=0) HY Ig (by kernel_rfl) Ig) (av Ig Ig (fun w hw=>aj HE Ig (hw.cell_some ((e18.trans xg2).cell_some (k5.cell (i:=0) Ig)))) ?_))
 refine bM (S:=bQ (oH++cT q.inp++bS q.us++bS q.os++d8 q.lo++d8 q.hi++bS q.rs++cT q.kd)) fI (bQ.stable _) rfl (fun w hw=>by rintro _ rfl _ rfl;exact bL.mono (fJ (n:=q.kd) (b28.ext hw) (by simp only[List.length_append];omega) p5.1 p5.2) fun v w' h=>⟨h.1,h.2.bts⟩) ?_
 refine aA Ig Ig (fun w hw=>aI (o:=1) HY Ig (by kernel_rfl) Ig) (av Ig Ig (fun w hw=>aj HE Ig (hw.cell_some ((e18.trans xg2).cell_some (k5.cell (i:=1) Ig)))) ?_)
 refine bM (S:=bQ (oH++cT q.inp++bS q.us++bS q.os++d8 q.lo++d8 q.hi++bS q.rs++cT q.kd++cT q.tg)) fI (bQ.stable _) rfl (fun w hw=>by rintro _ h32 _ rfl;exact bL.mono (fJ (n:=q.tg) h32 (by simp only[List.length_append];omega) p6.1 p6.2) fun v w' h=>⟨h.1,h.2.bts⟩) ?_
 refine aA rfl rfl (fun w hw=>aI (o:=2) Tryz.underlying80 rfl (by kernel_rfl) rfl) (av rfl rfl (fun w hw=>((k5.ext (e18.trans xg2)).ext hw).ldO (ms:=[B q.mg.1,x,y]) (o:=2) (fun j v hj=>by rcases j with _|_|_|_|_|_|_|_|_|j<;>simp_all) Tryz.underlying46 rfl (by kernel_rfl)) ?_)
 refine bM (S:=bQ (oH++cT q.inp++bS q.us++bS q.os++d8 q.lo++d8 q.hi++bS q.rs++cT q.kd++cT q.tg++eZ q.mg)) fK (bQ.stable _) rfl (fun w hw=>by rintro _ h35 _ rfl;exact bL.mono (fL h35 (dV.mk ((hx.ext e28w).ext hw) ((hy.ext e28w).ext hw)) (by simp only[List.length_append];omega)) fun v w' h=>⟨h.1,h.2.bts⟩) ?_
 refine bn ?_
 intro wg3 xg3
 rintro _ rfl
 intro vg38 b38
 refine ac Ig Ig (ag (ab (af (aa (ae Ig Ig (ah Ig Ig (aI (o:=5) HY Ig (by kernel_rfl) Ig) ?_))))))
 refine am Ig Ig (aj Tryz.underlying73 Ig (((e18.trans xg2).trans xg3).cell_some (k5.cell (i:=5) Ig))) (ak jp Ig Ig ((jq b38 (hcs.ext (((((x3.trans x4).trans x5).trans e18).trans xg2).trans xg3)) p7 (by simp only[List.length_append];omega))) ?_)
 rintro v42 w42 ⟨x42,b42⟩
 refine ac Ig Ig (ag (ab (ay (aD Ig Ig ?_))))
 exact⟨_,rfl,((((((x3.trans x4).trans x5).trans e18).trans xg2).trans xg3).trans x42),by simpa only[d9] using b42⟩
theorem BB (b:Bool):B b=B (decide (b=true)):=by cases b<;>rfl
theorem pn {w:World} {q:Ee} {vu vo vlo vhi vrs x y vcs:Value} (hu:dq dS q.us vu w) (hs:dq dS q.os vo w) (hlo:dq cN q.lo vlo w) (hhi:dq cN q.hi vhi w) (hrs:dq dS q.rs vrs w) (_hx:bu q.mg.2.1 x w) (_hy:bu q.mg.2.2 y w) (hcs:dq dS q.cs vcs w):
 Calls Tryz.prog 35 #[.agg #[I q.inp,vu,vo,vlo,vhi,vrs,I q.kd,I q.tg,B q.mg.1,x,y,vcs]] w (bL fun r w'=>aE w w'∧∃b:Bool,r=B (decide (b=true))):=by
 refine enter (vs:=[.agg #[I q.inp,vu,vo,vlo,vhi,vrs,I q.kd,I q.tg,B q.mg.1,x,y,vcs]]) Tryz.func35 Ig Ig Ig ?_
 refine af (aa ?_)
 obtain⟨g1,w1,hr1,l1,x1,k1⟩:=cV (P:=Tryz.prog) (w:=w) (T:=82) (cs:=[I q.inp,vu,vo,vlo,vhi,vrs,I q.kd,I q.tg,B q.mg.1,x,y,vcs])
 refine cI Ig Ig hr1 (ac Ig Ig (ag (ab (af (aa (ah Ig Ig (aI (o:=0) HN Ig (by kernel_rfl) Ig) ?_))))))
 refine ah Ig Ig (aI (o:=1) HZ Ig (by kernel_rfl) Ig) (am Ig Ig (aj HK Ig (k1.cell (i:=1) Ig)) ?_)
 refine aO Ig Ig (bN HK (hu.ext x1)) (ai Ig Ig Ig (lH) (ae Ig Ig ?_))
 refine dM (fun h8=>?_) (fun h8=>?_)
 ·refine ao Ig (ah Ig Ig (aI (o:=0) HN Ig (by kernel_rfl) Ig) (ao Ig (ah Ig Ig (aI (o:=2) HZ Ig (by kernel_rfl) Ig) ?_)))
  refine ao Ig (am Ig Ig (aj HK Ig (k1.cell (i:=2) Ig)) (ao Ig (aO Ig Ig (bN HK (hs.ext x1)) ?_)))
  refine ao Ig (ai Ig Ig Ig (lH) (aG Ig Ig Ig (ae Ig Ig ?_)))
  refine dM (fun h15=>?_) (fun h15=>?_)
  ·refine ao Ig (ah Ig Ig (aI (o:=3) HN Ig (by kernel_rfl) Ig) (ao Ig (ah Ig Ig (lq (b:=3) (o:=0) HX Ig (by kernel_rfl) Ig) ?_)))
   refine ao Ig (am Ig Ig (aj HV Ig (k1.cell (i:=3) Ig)) (ao Ig (aO Ig Ig (bN HV (hlo.ext x1)) ?_)))
   refine ao Ig (ai Ig Ig Ig (lH) (aG Ig Ig Ig (ae Ig Ig ?_)))
   refine dM (fun h22=>?_) (fun h22=>?_)
   ·refine ao Ig (ah Ig Ig (aI (o:=3) HN Ig (by kernel_rfl) Ig) (ao Ig (ah Ig Ig (lq (b:=3) (o:=1) HX Ig (by kernel_rfl) Ig) ?_)))
    refine ao Ig (am Ig Ig (aj HV Ig (k1.cell (i:=4) Ig)) (ao Ig (aO Ig Ig (bN HV (hhi.ext x1)) ?_)))
    refine ao Ig (ai Ig Ig Ig (lH) (aG Ig Ig Ig (ae Ig Ig ?_)))
    refine dM (fun h29=>?_) (fun h29=>?_)
    ·refine ao Ig (ah Ig Ig (aI (o:=3) HN Ig (by kernel_rfl) Ig) (ao Ig (ah Ig Ig (lq (b:=3) (o:=2) HX Ig (by kernel_rfl) Ig) ?_)))
     refine ao Ig (am Ig Ig (aj HK Ig (k1.cell (i:=5) Ig)) (ao Ig (aO Ig Ig (bN HK (hrs.ext x1)) ?_)))
     refine ao Ig (ai Ig Ig Ig (lH) (aG Ig Ig Ig (ae Ig Ig ?_)))
     refine dM (fun h36=>?_) (fun h36=>?_)
     ·refine ao Ig (ah Ig Ig (aI (o:=6) HN Ig (by kernel_rfl) Ig) (ao Ig (ah Ig Ig (lq (b:=6) (o:=5) HY Ig (by kernel_rfl) Ig) ?_)))
      refine ao Ig (am Ig Ig (aj HK Ig (k1.cell (i:=11) Ig)) (ao Ig (aO Ig Ig (bN HK (hcs.ext x1)) ?_)))
      refine ao Ig (ai Ig Ig Ig (lH) (aG Ig Ig Ig (ac Ig Ig (ag (ab (ay (aD Ig Ig ?_)))))))
      exact⟨_,rfl,x1,_,BB _⟩
     ·refine ap Ig Ig Ig (ap Ig Ig Ig (ap Ig Ig Ig (ap Ig Ig Ig (ap Ig Ig Ig (aJ Ig Ig Ig (ac Ig Ig (ag (ab (ay (aD Ig Ig ?_))))))))))
      exact⟨_,rfl,x1,_,BB _⟩
    ·refine ap Ig Ig Ig (ap Ig Ig Ig (ap Ig Ig Ig (ap Ig Ig Ig (ap Ig Ig Ig (aJ Ig Ig Ig (ae Ig Ig (ap Ig Ig Ig (ap Ig Ig Ig (ap Ig Ig Ig ?_)))))))))
     refine ap Ig Ig Ig (ap Ig Ig Ig (aJ Ig Ig Ig (ac Ig Ig (ag (ab (ay (aD Ig Ig ?_)))))))
     exact⟨_,rfl,x1,_,BB _⟩
   ·refine ap Ig Ig Ig (ap Ig Ig Ig (ap Ig Ig Ig (ap Ig Ig Ig (ap Ig Ig Ig (aJ Ig Ig Ig (ae Ig Ig (ap Ig Ig Ig (ap Ig Ig Ig (ap Ig Ig Ig ?_)))))))))
    refine ap Ig Ig Ig (ap Ig Ig Ig (aJ Ig Ig Ig (ae Ig Ig (ap Ig Ig Ig (ap Ig Ig Ig (ap Ig Ig Ig (ap Ig Ig Ig (ap Ig Ig Ig (aJ Ig Ig Ig ?_)))))))))
    refine ac Ig Ig (ag (ab (ay (aD Ig Ig ?_))))
    exact⟨_,rfl,x1,_,BB _⟩
  ·refine ap Ig Ig Ig (ap Ig Ig Ig (ap Ig Ig Ig (ap Ig Ig Ig (ap Ig Ig Ig (aJ Ig Ig Ig (ae Ig Ig (ap Ig Ig Ig (ap Ig Ig Ig (ap Ig Ig Ig ?_)))))))))
   refine ap Ig Ig Ig (ap Ig Ig Ig (aJ Ig Ig Ig (ae Ig Ig (ap Ig Ig Ig (ap Ig Ig Ig (ap Ig Ig Ig (ap Ig Ig Ig (ap Ig Ig Ig (aJ Ig Ig Ig ?_)))))))))
   refine ae Ig Ig (ap Ig Ig Ig (ap Ig Ig Ig (ap Ig Ig Ig (ap Ig Ig Ig (ap Ig Ig Ig (aJ Ig Ig Ig (ac Ig Ig (ag (ab (ay (aD Ig Ig ?_)))))))))))
   exact⟨_,rfl,x1,_,BB _⟩
 ·refine ap Ig Ig Ig (ap Ig Ig Ig (ap Ig Ig Ig (ap Ig Ig Ig (ap Ig Ig Ig (aJ Ig Ig Ig (ae Ig Ig (ap Ig Ig Ig (ap Ig Ig Ig (ap Ig Ig Ig ?_)))))))))
  refine ap Ig Ig Ig (ap Ig Ig Ig (aJ Ig Ig Ig (ae Ig Ig (ap Ig Ig Ig (ap Ig Ig Ig (ap Ig Ig Ig (ap Ig Ig Ig (ap Ig Ig Ig (aJ Ig Ig Ig ?_)))))))))
  refine ae Ig Ig (ap Ig Ig Ig (ap Ig Ig Ig (ap Ig Ig Ig (ap Ig Ig Ig (ap Ig Ig Ig (aJ Ig Ig Ig (ae Ig Ig (ap Ig Ig Ig (ap Ig Ig Ig ?_)))))))))
  refine ap Ig Ig Ig (ap Ig Ig Ig (ap Ig Ig Ig (aJ Ig Ig Ig (ac Ig Ig (ag (ab (ay (aD Ig Ig ?_))))))))
  exact⟨_,rfl,x1,_,BB _⟩
end Go.Rl
namespace Go.Rl
open Go.RowKit Go.Proofs
section
variable {α:Type} {f:α→Dt} {l m:List α} {v x:Value} {w w0 w':World} {e t ty:TypeId} {sz base:Nat} {X Y Z:Nat→Prop}
def je (e:TypeId) (sz base:Nat) (X:Nat→Prop) (f:α→Dt) (l:List α) (v:Value) (w:World):Prop:=∃n xs,w.ownsRow base e sz v n xs∧aF (fun k=>X k∨v.ownBlock=some k) w (l.map f) xs
theorem je.nil (w:World):je e sz base X f ([]:List α) (.slice none 0 0) w:=⟨0,[],World.ownsRow_nil _ _ _ _,aF.nil⟩
theorem je.lt (h:je e sz base X f l v w):∀k,v.ownBlock=some k→base≤k∧k<w.heap.size:=fun k hk=>by
 obtain⟨n,xs,h,_⟩:=h
 exact World.ownsRow.lt h k hk
theorem je.isS (h:je e sz base X f l v w):∃A n c,v=.slice A n c:=by
 obtain⟨n,xs,⟨_,h|⟨g,cap,cur,rfl,_⟩⟩,_⟩:=h
 ·exact⟨_,_,_,h.1⟩
 ·exact⟨_,_,_,rfl⟩
theorem je.one (h:je e sz base X f l v w):v.oneCell'=true:=by obtain⟨_,_,_,rfl⟩:=h.isS;rfl
theorem je.ext (h:je e sz base X f l v w) (hx:aE w w'):je e sz base X f l v w':=by
 obtain⟨n,xs,h1,h2⟩:=h
 exact⟨n,xs,eE h1 hx,h2.ext hx⟩
theorem je.stable:be (je e sz base X f l):=fun _ _ _ h hx=>h.ext hx
theorem je.mv (h:je e sz base X f l v w) (hm:Mv Z w w') (hZ:∀k,Z k→X k) (hne:∀k,v.ownBlock=some k→¬Z k):je e sz base X f l v w':=by
 obtain⟨n,xs,h1,h2⟩:=h
 refine⟨n,xs,⟨h1.1,?_⟩,aF.mv (hm.weak fun k hk _=>.inl (hZ k hk)) (fun k hk=>.inl hk) h2⟩
 rcases h1.2 with h3|⟨g,cap,cur,rfl,h3,h4,h5⟩
 ·exact .inl h3
 ·refine .inr ⟨g,cap,cur,rfl,h3,?_,h5⟩
  rw[hm.keep g (Array.getElem?_eq_some_iff.1 h4).1 (hne g rfl)]
  exact h4
theorem je.weak (h:je e sz base X f l v w) (hY:∀k,Y k→X k∨w.heap.size≤k):je e sz base Y f l v w:=by
 obtain⟨n,xs,h1,h2⟩:=h
 exact⟨n,xs,h1,h2.weak fun k hk=>hk.elim (fun h=>(hY k h).imp .inl id) fun h=>.inl (.inr h)⟩
end
end Go.Rl
namespace Go.Rl
open Go.RowKit Go.Proofs
theorem fh.off {w w':World} {v r:Value} {g:Nat} (h:fh w w' v r) (hn:some g≠v.ownBlock) (hg:g<w.heap.size):some g≠r.ownBlock:=fun e=>by
 rcases h.own with h1|h1
 ·exact hn (e.trans h1)
 ·have:=h1 _ e.symm;omega
end Go.Rl
namespace Go.Rl
open Go.RowKit Go.Proofs
end Go.Rl
namespace Go.Rl
open Go.RowKit Go.Proofs
end Go.Rl
namespace Go.Rl
open Go.RowKit Go.Proofs
end Go.Rl
namespace Go.Rl
open Go.RowKit Go.Proofs
inductive JT where
 |gap
 |leaf (n:bc)
 |split (d:fa) (a b:JT)
def mS (d:fa) (x y k1 k2 lf:Value):List Value:=[I d.kd,I d.ix,B d.at_.1,x,y,k1,k2,lf]
def oK:Value:=.pointer none
def xw (g:Nat):Value:=.pointer (some ⟨g,0,none⟩)
def nN (w0 w:World):Nat→JT→List Nat→Prop
 |g,.gap,ids=>ids=[g]∧bI g 114 (mS uc (.slice none 0 0) (.slice none 0 0) oK oK oK) w
 |g,.leaf n,ids=>∃h cs,ids=[g,h]∧bI g 114 (mS uc (.slice none 0 0) (.slice none 0 0) oK oK (xw h)) w∧bI h 52 cs w∧Rp w0 (cw n) cs
 |g,.split d a b,ids=>∃x y g1 g2 i1 i2,ids=g::(i1++i2)∧bu d.at_.2.1 x w0∧bu d.at_.2.2 y w0∧bI g 114 (mS d x y (xw g1) (xw g2) oK) w∧nN w0 w g1 a i1∧nN w0 w g2 b i2
theorem nN.mv {w0 w w':World} {X:Nat→Prop} (hm:Mv X w w'):∀{t:JT} {g:Nat} {ids:List Nat},nN w0 w g t ids→(∀k∈ids,¬X k)→nN w0 w' g t ids
 |.gap,g,ids,h,hX=>by
  simp only[nN] at h⊢
  obtain⟨rfl,h1⟩:=h
  exact⟨rfl,hm.blk h1 (hX g (by simp))⟩
 |.leaf n,g,ids,h,hX=>by
  simp only[nN] at h⊢
  obtain⟨k,cs,rfl,h1,h2,h3⟩:=h
  exact⟨k,cs,rfl,hm.blk h1 (hX g (by simp)),hm.blk h2 (hX k (by simp)),h3⟩
 |.split d a b,g,ids,h,hX=>by
  simp only[nN] at h⊢
  obtain⟨x,y,g1,g2,i1,i2,rfl,hx,hy,h1,h2,h3⟩:=h
  exact⟨x,y,g1,g2,i1,i2,rfl,hx,hy,hm.blk h1 (hX g (by simp)),h2.mv hm fun k hk=>hX k (by simp[hk]),h3.mv hm fun k hk=>hX k (by simp[hk])⟩
theorem nN.lt {w0 w:World}:∀{t:JT} {g:Nat} {ids:List Nat},nN w0 w g t ids→∀k∈ids,k<w.heap.size
 |.gap,g,ids,h,k,hk=>by
  simp only[nN] at h
  obtain⟨rfl,h1⟩:=h
  simp only[List.mem_singleton] at hk
  subst hk
  exact h1.lt
 |.leaf n,g,ids,h,k,hk=>by
  simp only[nN] at h
  obtain⟨j,cs,rfl,h1,h2,_⟩:=h
  simp only[List.mem_cons,List.not_mem_nil,or_false] at hk
  rcases hk with rfl|rfl
  ·exact h1.lt
  ·exact h2.lt
 |.split d a b,g,ids,h,k,hk=>by
  simp only[nN] at h
  obtain⟨x,y,g1,g2,i1,i2,rfl,hx,hy,h1,h2,h3⟩:=h
  simp only[List.mem_cons,List.mem_append] at hk
  rcases hk with rfl|hk|hk
  ·exact h1.lt
  ·exact h2.lt k hk
  ·exact h3.lt k hk
structure u4 (w0 w:World) (g:Nat) (t:JT) (ids:List Nat):Prop where
 at_:nN w0 w g t ids
 nodup:ids.Nodup
 young:∀k∈ids,w0.heap.size≤k
theorem u4.mv {w0 w w':World} {X:Nat→Prop} {g:Nat} {t:JT} {ids:List Nat} (h:u4 w0 w g t ids) (hm:Mv X w w') (hX:∀k∈ids,¬X k):u4 w0 w' g t ids:=⟨h.at_.mv hm hX,h.nodup,h.young⟩
theorem u4.lt {w0 w:World} {g:Nat} {t:JT} {ids:List Nat} (h:u4 w0 w g t ids):∀k∈ids,k<w.heap.size:=h.at_.lt
theorem u4.gap {w0 w:World} {g:Nat} (k:bI g 114 (mS uc (.slice none 0 0) (.slice none 0 0) oK oK oK) w) (hg:w0.heap.size≤g):u4 w0 w g .gap [g]:=
 ⟨⟨rfl,k⟩,by simp,fun j hj=>by simp only[List.mem_singleton] at hj;omega⟩
theorem u4.leaf {w0 w:World} {g h:Nat} {n:bc} {cs:List Value} (k:bI g 114 (mS uc (.slice none 0 0) (.slice none 0 0) oK oK (xw h)) w) (k2:bI h 52 cs w) (hr:Rp w0 (cw n) cs) (hg:w0.heap.size≤g) (hh:w0.heap.size≤h) (hne:g≠h):u4 w0 w g (.leaf n) [g,h]:=
 ⟨⟨h,cs,rfl,k,k2,hr⟩,by simp[hne],fun j hj=>by simp only[List.mem_cons,List.not_mem_nil,or_false] at hj;omega⟩
theorem u4.split {w0 w:World} {g g1 g2:Nat} {d:fa} {a b:JT} {i1 i2:List Nat} {x y:Value} (hx:bu d.at_.2.1 x w0) (hy:bu d.at_.2.2 y w0) (k:bI g 114 (mS d x y (xw g1) (xw g2) oK) w) (h1:u4 w0 w g1 a i1) (h2:u4 w0 w g2 b i2) (hg:w0.heap.size≤g) (n1:g∉i1) (n2:g∉i2) (n3:∀k∈i1,k∉i2):u4 w0 w g (.split d a b) (g::(i1++i2)):=by
 refine⟨⟨x,y,g1,g2,i1,i2,rfl,hx,hy,k,h1.at_,h2.at_⟩,?_,fun j hj=>?_⟩
 ·rw[List.nodup_cons,List.nodup_append]
  exact⟨by simp[n1,n2],h1.nodup,h2.nodup,fun k hk j hj e=>n3 k hk (e▸hj)⟩
 ·simp only[List.mem_cons,List.mem_append] at hj
  rcases hj with rfl|hj|hj
  ·exact hg
  ·exact h1.young j hj
  ·exact h2.young j hj
end Go.Rl
namespace Go.Rl
open Go.RowKit Go.Proofs
def GH (base:Nat) (b:List UInt8) (r:Value) (w':World):Prop:=∃ve,r=.tuple #[.agg ((BA b).1.1.map U8).toArray,ve,I (((BA b).1.2.2:Nat):Int),I (BA b).2]∧cz (fun k=>k<base) w' (.sl ((BA b).1.2.1.map dEn)) [ve]
theorem GH.ok {base k:Nat} {b:List UInt8} {es:List uX} {ve:Value} {w':World} (h:¬(b.length<44∨b.take 4≠Hw∨Ea b 36=false)) (hj:FP b 44=(es,k)) (hr:cz (fun k=>k<base) w' (.sl (es.map dEn)) [ve]):GH base b (.tuple #[.agg (((b.take 36).drop 4).map U8).toArray,ve,I (k:Int),I 0]) w':=by
 have e:BA b=(((b.take 36).drop 4,es,k),0):=by unfold BA;rw[if_neg h,hj]
 unfold GH
 rw[e]
 exact⟨_,rfl,hr⟩
end Go.Rl
namespace Go.Rl
open Go.RowKit Go.Proofs
structure Fh (h g:Nat) (st:Option (List UInt8)) (ok:Bool) (w:World):Prop where
 blk:bI h 163 [.pointer (some ⟨g,0,none⟩),B ok] w
 rd:aP g st w
 lt:g<h
theorem yT:(Tryz.prog.info? 4).map (·.size)=some 1:=by kernel_rfl
theorem Fh.mv {h g:Nat} {st:Option (List UInt8)} {ok:Bool} {X:Nat→Prop} {w w':World} (hm:Fh h g st ok w) (m:Mv X w w') (hX:∀k,X k→h<k):Fh h g st ok w':=
 ⟨m.blk hm.blk (fun hx=>by have:=hX h hx;omega),qS.mv hm.rd m fun k hk=>by have:=hX k hk;have:=hm.lt;omega,hm.lt⟩
theorem Fh.ext {h g:Nat} {st:Option (List UInt8)} {ok:Bool} {w w':World} (hm:Fh h g st ok w) (e:aE w w'):Fh h g st ok w':=hm.mv (Mv.of_ext (X:=fun _=>False) e) fun _ h=>h.elim
theorem Fh.set {h g:Nat} {st:Option (List UInt8)} {ok:Bool} {w:World} (hm:Fh h g st ok w) (b:Bool):
 ∃w2,(Instr.storeAt 4 (.pointer (some ⟨h,1,none⟩)) (B b)).run Tryz.prog w=.ok () w2∧Mv (fun k=>k=h) w w2∧Fh h g st b w2:=by
 obtain⟨w2,h1,h2,h3⟩:=hm.blk.stC (P:=Tryz.prog) (t:=4) (i:=1) (v:=B b) yT rfl (by simp)
 have m:Mv (fun k=>k=h) w w2:=Mv.of_grown h2 fun k hk _=>(Option.some.inj hk).symm
 exact⟨w2,h1,m,h3,qS.mv hm.rd m fun k hk=>by have:=hm.lt;have:k=h:=hk;omega,hm.lt⟩
end Go.Rl
namespace Go.Rl
open Go.RowKit Go.Proofs
end Go.Rl
namespace Go.Rl
open Go.RowKit Go.Proofs
end Go.Rl
namespace Go.Rl
open Go.RowKit Go.Proofs
end Go.Rl
namespace Go.Rl
open Go.RowKit Go.Proofs
end Go.Rl
namespace Go.Rl
open Go.RowKit Go.Proofs
end Go.Rl
namespace Go.Rl
open Go.RowKit Go.Proofs
end Go.Rl
namespace Go.Rl
open Go.RowKit Go.Proofs
end Go.Rl
namespace Go.Rl
open Go.RowKit Go.Proofs
end Go.Rl
namespace Go.Rl
open Go.RowKit Go.Proofs
structure Ec (w0 w:World) (g:Nat) (ids:List Nat) (s:fa) (a b:JT) (x y:Value) (g1 g2:Nat) (i1 i2:List Nat) (w':World):Prop where
 mv:Mv (fun k=>k=g) w w'
 hx:bu s.at_.2.1 x w0
 hy:bu s.at_.2.2 y w0
 blk:bI g 114 (mS s x y (xw g1) (xw g2) oK) w'
 k1:u4 w0 w' g1 a i1
 k2:u4 w0 w' g2 b i2
 n1:g∉i1
 n2:g∉i2
 n3:∀k∈i1,k∉i2
 fresh:∀k,k∈i1∨k∈i2→k∈ids∨w.heap.size≤k
 young:w0.heap.size≤g
theorem Ec.ext {w0 w w' w'':World} {g:Nat} {ids:List Nat} {s:fa} {a b:JT} {x y:Value} {g1 g2:Nat} {i1 i2:List Nat} (h:Ec w0 w g ids s a b x y g1 g2 i1 i2 w') (e:aE w' w''):Ec w0 w g ids s a b x y g1 g2 i1 i2 w'':=
 ⟨h.mv.trans (Mv.of_ext (X:=fun k=>k=g) e) fun _ hk _=>hk,h.hx,h.hy,h.blk.ext e,h.k1.mv (Mv.of_ext (X:=fun _=>False) e) (fun _ _ h=>h),h.k2.mv (Mv.of_ext (X:=fun _=>False) e) (fun _ _ h=>h),h.n1,h.n2,h.n3,h.fresh,h.young⟩
end Go.Rl
namespace Go.Rl
open Go.RowKit Go.Proofs
def Hy (p:List fa):Dt:=.sl (p.map nu)
def YM (gm:Nat) (mv:Value) (k:Nat):Prop:=k=gm∨mv.ownBlock=some k
structure GT (w0 w:World) (F:Nat→Prop) (gm:Nat) (mv:Value) (ms:List (List fa)):Prop where
 cell:bI gm 59 [mv] w
 own:je 41 1 w0.heap.size (fun k=>k=gm∨F k) Hy ms mv w
 ne:mv.ownBlock≠some gm
 young:w0.heap.size≤gm
section
variable {w0 w w':World} {gm g:Nat} {mv mv':Value} {ms:List (List fa)} {t:JT} {ids:List Nat} {F G:Nat→Prop}
theorem GT.ext (h:GT w0 w F gm mv ms) (e:aE w w'):GT w0 w' F gm mv ms:=⟨h.cell.ext e,h.own.ext e,h.ne,h.young⟩
theorem GT.weak (h:GT w0 w F gm mv ms) (hG:∀k,G k→F k∨w.heap.size≤k):GT w0 w G gm mv ms:=by
 obtain⟨h1,⟨n,xs,h2,h3⟩,h4,h5⟩:=h
 refine⟨h1,⟨n,xs,h2,h3.weak fun k hk=>?_⟩,h4,h5⟩
 rcases hk with(hk|hk)|hk
 ·exact .inl (.inl (.inl hk))
 ·exact(hG k hk).imp (fun h=>.inl (.inr h)) id
 ·exact .inl (.inr hk)
theorem u4.ext (h:u4 w0 w g t ids) (e:aE w w'):u4 w0 w' g t ids:=h.mv (Mv.of_ext (X:=fun _=>False) e) fun _ _ h=>h
variable {P:Program} {wc wd we:World} {g7:Nat} {cs z:List Value} {a:JT} {path:List fa} {mv1:Value} {r:Value}
end
end Go.Rl
namespace Go.Rl
open Go.RowKit Go.Proofs
theorem je.low {e:TypeId} {sz base b2:Nat} {X:Nat→Prop} {α:Type} {f:α→Dt} {l:List α} {v:Value} {w:World} (h:je e sz base X f l v w) (hb:b2≤base):je e sz b2 X f l v w:=by
 obtain⟨n,xs,h1,h2⟩:=h
 exact⟨n,xs,ft h1 fun k hk=>Nat.le_trans hb (World.ownsRow.lt h1 k hk).1,h2⟩
end Go.Rl
namespace Go.Rl
open Go.RowKit Go.Proofs
theorem YM.grow {w:World} {gm:Nat} {mv mv1:Value} (ho:∀k,mv1.ownBlock=some k→mv.ownBlock=some k∨w.heap.size≤k) {k:Nat} (h:YM gm mv1 k):YM gm mv k∨w.heap.size≤k:=by
 rcases h with h|h
 ·exact .inl (.inl h)
 ·exact(ho k h).imp .inr id
section
variable {P:Program} {ops:Array Oper} {Q:eR} {N:Nat} {D:List Deferred} {S:World→Prop} {fuel:Nat} {listed:Array Bool} {l:Fr} {w:World} {d:Tmp} {ty:TypeId} {pos:String} {aft:Array Edge}
theorem zV (i j m:Nat) {o u z:Oper} (hr:Region.ready .any ops listed=[i,j,m]) (hi:ops[i]? =some o) (hj:ops[j]? =some u) (hm:ops[m]? =some z) (h:bB P ops (oT P ops Q S fuel (listed.setIfInBounds i true)) N D l w [o])
 (h':bB P ops (oT P ops Q S fuel (listed.setIfInBounds j true)) N D l w [u]) (h'':bB P ops (oT P ops Q S fuel (listed.setIfInBounds m true)) N D l w [z]):eF P ops Q N D S (fuel+1) listed l w:=fun a ha=>
 wpAnyH_all hr (by simp) fun k hk=>by
  rcases(by simpa using hk:k=i∨k=j∨k=m) with rfl|rfl|rfl
  ·exact fw hi (h a ha)
  ·exact fw hj (h' a ha)
  ·exact fw hm (h'' a ha)
end
end Go.Rl
namespace Go.Rl
open Go.RowKit Go.Proofs
section
variable {α:Type} {e t:TypeId} {sz base:Nat} {f:α→Dt} {l:List α} {v:Value} {w w':World}
def sj (e:TypeId) (sz base:Nat) (f:α→Dt) (l:List α) (v:Value) (w:World):Prop:=∃n xs,w.ownsRow base e sz v n xs∧aF (fun k=>base≤k) w (l.map f) xs
theorem sj.nil (w:World):sj e sz base f ([]:List α) (.slice none 0 0) w:=⟨0,[],World.ownsRow_nil _ _ _ _,aF.nil⟩
theorem sj.lt (h:sj e sz base f l v w):∀k,v.ownBlock=some k→base≤k∧k<w.heap.size:=fun k hk=>by
 obtain⟨n,xs,h,_⟩:=h
 exact World.ownsRow.lt h k hk
theorem sj.ext (h:sj e sz base f l v w) (hx:aE w w'):sj e sz base f l v w':=by
 obtain⟨n,xs,h1,h2⟩:=h
 exact⟨n,xs,eE h1 hx,h2.ext hx⟩
theorem sj.mv {X:Nat→Prop} (h:sj e sz base f l v w) (hm:Mv X w w') (hX:∀k,X k→base≤k) (hne:∀k,v.ownBlock=some k→¬X k):sj e sz base f l v w':=by
 obtain⟨n,xs,h1,h2⟩:=h
 refine⟨n,xs,⟨h1.1,?_⟩,aF.mv (hm.weak fun k hk _=>hX k hk) (fun k hk=>.inl hk) h2⟩
 rcases h1.2 with h3|⟨g,cap,cur,rfl,h3,h4,h5⟩
 ·exact .inl h3
 ·refine .inr ⟨g,cap,cur,rfl,h3,?_,h5⟩
  rw[hm.keep g (Array.getElem?_eq_some_iff.1 h4).1 (hne g rfl)]
  exact h4
end
end Go.Rl
namespace Go.Rl
open Go.RowKit
theorem rO {α:Type} {f:α→Dt} {l:List α} {a:α} (h:a∈l):(f a).bulk≤Dt.bulkAll (l.map f):=by
 induction l with
 |nil=>cases h
 |cons b l ih=>
  simp only[List.map_cons,Dt.bulkAll]
  rcases List.mem_cons.1 h with rfl|h
  ·omega
  ·have:=ih h;omega
end Go.Rl

/- Part 3 of a proof: plain facts and walks of functions, merged by a program. Conditions: each lemma names its own. -/
import Derived.Test.YtpeidnhjcompmaaGreatDoorJd2
namespace Go.Rl
open Go.RowKit Go.Proofs
section
variable {w:World} {g:Nat}
theorem nx {st:Option (List UInt8)} (hr:cv g st w) (h:st.bind eJ=none):Calls Tryz.prog 93 #[.pointer (some ⟨g,0,none⟩)] w (bE fun r w'=>w.grownBy w' (some g)∧r=.tuple #[bI 0,I 5]∧cv g none w'):=by
 have:=wr hr
 rw[h] at this
 exact this
theorem ny {st:Option (List UInt8)} {n:Nat} {t:List UInt8} (hr:cv g st w) (h:st.bind eJ=some (n,t)):Calls Tryz.prog 93 #[.pointer (some ⟨g,0,none⟩)] w (bE fun r w'=>w.grownBy w' (some g)∧r=.tuple #[bI (UInt64.ofNat n),I 0]∧cv g (some t) w'):=by
 have:=wr hr
 rw[h] at this
 exact this
end
theorem KE {w w1 w2:World} {row row2:Option Nat} (h:w.grownBy w1 row) (q:w1.grownBy w2 row2) (hg:∀k,row2=some k→w.heap.size≤k):w.grownBy w2 row:=
 ⟨q.os.trans h.os,q.tape.trans h.tape,q.output.trans h.output,Nat.le_trans h.size q.size,fun i hi hne=>(q.block i (Nat.lt_of_lt_of_le hi h.size) (fun e=>by have:=hg i e.symm;omega)).trans (h.block i hi hne)⟩
theorem d9.ge' {base:Nat} {l:List UInt32} {v:Value} {w:World} (h:d9 base l v w):∀k,v.ownBlock=some k→base≤k:=fun k hk=>h.elim fun _ h=>(World.ownsRow.lt h k hk).1
theorem En {P:Program} {w:World} {s d:TypeId} {n:Nat} (hs:P.underlying s=some (.int .u64)) (hd:P.underlying d=some (.int .i64)) (hn:n<9223372036854775808):(convert s d (bI (UInt64.ofNat n))).run P w=.ok (I (n:Int)) w:=by
 have e:(UInt64.ofNat n).toNat=n:=by rw[UInt64.toNat_ofNat'];omega
 have:=pz (P:=P) (w:=w) hs hd (a:=UInt64.ofNat n) (by omega)
 rwa [e] at this
theorem Eo {P:Program} {w:World} {s d:TypeId} {n:Nat} (hs:P.underlying s=some (.int .u64)) (hd:P.underlying d=some (.int .i64)) (hn:n<18446744073709551616):(convert s d (bI (UInt64.ofNat n/2))).run P w=.ok (I ((n/2:Nat):Int)) w:=by
 have e:(UInt64.ofNat n/2).toNat=n/2:=by
  rw[UInt64.toNat_div,UInt64.toNat_ofNat',show(2:UInt64).toNat=2 from rfl];omega
 have:=pz (P:=P) (w:=w) hs hd (a:=UInt64.ofNat n/2) (by omega)
 rwa [e] at this
theorem Ep {n:Nat}:UInt64.ofNat n%2=1↔n%2=1:=by
 rw[←UInt64.toNat_inj,UInt64.toNat_mod,UInt64.toNat_ofNat',show(2:UInt64).toNat=2 from rfl,show(1:UInt64).toNat=1 from rfl]
 omega
def LH (g:Nat) (w:World) (o:Option (Nat×List UInt8)) (r:Value) (w':World):Prop:=
 w.grownBy w' (some g)∧match o with
  |some (n,t)=>r=.tuple #[I (uz n),I 0]∧cv g (some t) w'
  |none=>r=.tuple #[I 0,I 5]∧cv g none w'
theorem yF {w:World} {g:Nat} {st:Option (List UInt8)} (hr:cv g st w):
 Calls Tryz.prog 130 #[.pointer (some ⟨g,0,none⟩)] w (bE (LH g w (st.bind eJ))):=by
 refine enter (vs:=[.pointer (some ⟨g,0,none⟩)]) Tryz.func130 E E E ?_
 refine af (aa (ac E E (ac E E (ag (ab (af ?_))))))
 rcases hN:st.bind eJ with _|⟨n,t⟩
 ·refine aa (ae E E (an fw E E (nx hr hN) ?_))
  rintro v8 w8 ⟨x8,rfl,hr1⟩
  have m8:=eo.kp hr x8
  refine ae E E (am E E (bj) (am E E (bk) (ac E E (ac E E (ag (ab (af (af (aa (ae E E (al (v:=bI 2) E E E (je (by decide)) ?_)))))))))))
  refine al (v:=bI 1) E E E (cW (by decide) gI) (ag (ab (cp E (aC (ab (af (aa (ae E E (al (v:=bI 2) E E E (iG (by decide)) ?_)))))))))
  refine aY E E (pz Mc Mb (by decide)) ?_
  refine ae E E (ac E E (ac E E (ag (ab (au (a9 E E E ?_))))))
  exact⟨_,rfl,x8,rfl,hr1⟩
 ·have hnn:=(sF (k:=(st.getD []).length) hN (by rintro l rfl;exact Nat.le_refl _)).2
  refine aa (ae E E (an fw E E (ny hr hN) ?_))
  rintro v8 w8 ⟨x8,rfl,hr1⟩
  have m8:=eo.kp hr x8
  refine ae E E (am E E (bj) (am E E (bk) (ac E E (ac E E (ag (ab (af (af (aa (ae E E (al (v:=bI 2) E E E (je (by decide)) ?_)))))))))))
  refine al (v:=bI 1) E E E (gI) (ag (ab ?_))
  refine bw E (fun h13=>?_) (fun h13=>?_)
  ·refine af (aa (ae E E (al (v:=bI 2) E E E (iG (by decide)) (aY E E (Eo Mc Mb hnn) ?_))))
   refine bo E E (uT (by omega) (by omega)) (al E E E (bG (by omega) (by omega)) (ae E E (ac E E (ac E E (ag (ab ?_))))))
   refine au (az (a9 E E E ?_))
   exact⟨_,rfl,x8,congrArg (fun z=>Value.tuple #[I z,I 0]) (show _=uz n by
    unfold uz
    first
    |(have:=Ep.1 h13;rw[if_neg (by omega)])
    |(have:=mt Ep.2 h13;rw[if_pos (by omega)])),hr1⟩
  ·refine aC (ab (af (aa (ae E E (al (v:=bI 2) E E E (iG (by decide)) (aY E E (Eo Mc Mb hnn) ?_))))))
   refine ae E E (ac E E (ac E E (ag (ab (au (a9 E E E ?_))))))
   exact⟨_,rfl,x8,congrArg (fun z=>Value.tuple #[I z,I 0]) (show _=uz n by
    unfold uz
    first
    |(have:=Ep.1 h13;rw[if_neg (by omega)])
    |(have:=mt Ep.2 h13;rw[if_pos (by omega)])),hr1⟩
def LI (g:Nat) (w:World) (o:Option (List UInt32×List UInt8)) (r:Value) (w':World):Prop:=
 w.grownBy w' (some g)∧match o with
  |some (m,t)=>∃v,r=.tuple #[v,I 0]∧bt m v w'∧cv g (some t) w'∧qV w.heap.size v
  |none=>r=.tuple #[.slice none 0 0,I 5]∧cv g none w'
theorem BE {n m:Nat} (hn:n<18446744073709551616) (hm:m<18446744073709551616):UInt64.ofNat n>UInt64.ofNat m↔m<n:=by
 show UInt64.ofNat m<UInt64.ofNat n↔m<n
 rw[UInt64.lt_iff_toNat_lt,UInt64.toNat_ofNat',UInt64.toNat_ofNat']
 omega
theorem J5 {n:Nat} (hn:n<18446744073709551616):UInt64.ofNat n>0↔0<n:=BE hn (by decide)
theorem yG {w:World} {g:Nat} {st:Option (List UInt8)} (hr:cv g st w) (hl:∀l,st=some l→l.length≤549755813888):
 Calls Tryz.prog 160 #[.pointer (some ⟨g,0,none⟩)] w (bE (LI g w (st.bind sw))):=by
 refine enter (vs:=[.pointer (some ⟨g,0,none⟩)]) Tryz.func160 E E E ?_
 have hglt:=hr.lt
 refine af (aa (ac E E (ac E E (ag (ab (af ?_))))))
 rcases hU:st.bind eJ with _|⟨n,t⟩
 ·refine aa (ae E E (an fw E E (nx hr hU) ?_))
  rintro v10 w10 ⟨x10,rfl,hr1⟩
  have m10:=eo.kp hr x10
  refine ae E E (am E E (bj) (am E E (bk) (ac E E (ac E E (ag (ab (af (af (aa (ae E E (al E E E (cw (by decide) cC) ?_)))))))))))
  refine ag (ab (bf E (af (aa (ae E E (ac E E (ac E E (ag (ab (au (az (a9 E E E ?_))))))))))))
  exact⟨_,rfl,x10,by rw[Hi hU];exact⟨rfl,hr1⟩⟩
 ·obtain⟨ht,hn⟩:=sF hU hl
  refine aa (ae E E (an fw E E (ny hr hU) ?_))
  rintro v10 w10 ⟨x10,rfl,hr1⟩
  have m10:=eo.kp hr x10
  refine ae E E (am E E (bj) (am E E (bk) ?_))
  obtain⟨A,n',c,k,b,lc⟩:=id hr1
  have b:cn t (.slice A n' c) w10:=b
  refine ac E E (ac E E (ag (ab (af (af (aa (ae E E (al E E E (cW (by decide) cC) (ag (ab (cp E (aC (ab ?_)))))))))))))
  refine af (af (aa (ae E E (ae E E (ay E E (ah E E (ar (o:=0) Mo E (by kernel_rfl) E) ?_))))))
  refine ak E E (aj Md E (k.cell (i:=0) E)) (aQ E E (cM b) (al (r:=I ((t.length/4:Nat):Int)) E E E (by have e:((t.length/4:Nat):Int)=(t.length:Int)/4:=(by omega);rw[e];exact pu (by omega) (by omega) (by omega)) ?_))
  refine aY E E (ff Mb Mc) (al E E E (cO) (ag (ab ?_)))
  refine bw E (fun h24=>?_) (fun h24=>?_)
  ·have hlong:t.length/4<n:=(BE hn (by omega)).1 h24
   refine af (aa (ae E E (an dU E E (dV hr1) ?_)))
   rintro v26 w26 ⟨rfl,hr2,g26⟩
   have m26:=eo.kp hr1 g26
   refine ac E E (ac E E (ag (ab (au (az (a9 E E E ?_))))))
   exact⟨_,rfl,x10.trans g26,by rw[qT hU,if_neg (by omega)];exact⟨rfl,hr2⟩⟩
  ·have hle:n≤t.length/4:=Nat.le_of_not_lt (mt (BE hn (by omega)).2 h24)
   have hgb:g<w10.heap.size:=cv.lt hr1
   refine aC (ab (af (aa (ac E E (ag (ab (af (af (aa (ac E E (ag (ab (aH ?_)))))))))))))
   refine fl (fun(i:Nat) (u:Value)=>[(0,.pointer (some ⟨g,0,none⟩)),(4,bI (UInt64.ofNat n)),(6,u),(7,I (i:Int))]) (fun(i:Nat) (u:Value) w'=>w10.grownBy w' (some g)∧(∃A n' c,cr g 167 [.slice A n' c,B false] w'∧cn (t.drop (4*i)) (.slice A n' c) w10∧qH A g)∧d9 w10.heap.size (de (t.take (4*i))) u w'∧i≤n) (fun(i:Nat) (u:Value)=>n-i) (0) (.slice none 0 0) ⟨rfl,rfl,rfl,rfl,trivial⟩ ⟨j7 _ _,⟨A,n',c,k,by simpa using b,lc⟩,by simpa [de] using d9.nil _ _,by omega⟩ ?_
   rintro i u w8 ⟨g8,⟨A,n',c,k8,b0,lc8⟩,o6,hi⟩
   refine af (af ?_)
   have b8:=b0.kp (eo.kp hr1 g8)
   have hdl:(t.drop (4*i)).length=t.length-4*i:=by rw[List.length_drop]
   refine aa (ae E E (ae E E (aY E E (En Mc Mb (by omega)) (al E E E (bc) (ag ?_)))))
   refine ab ?_
   refine bw E (fun h30=>?_) (fun h30=>?_)
   ·refine aC (ab (af (aH (af (bO 36 [0,4,7,33,68] (by kernel_rfl) (by kernel_rfl) ?_)))))
    refine aD E E (aD E E (dh E E (aW E E (fun w hw=>ar (o:=0) Mo E (by kernel_rfl) E) ?_)))
    refine aO E E (fun w hw=>aj Md E (hw.cell_some (k8.cell (i:=0) E))) ?_
    obtain⟨a38,p38,q38⟩:=gR b8 (i:=0) (by omega) .i64
    refine aF E E E (fun w _=>p38 w) (aO E E (fun w hw=>aj Mf E (hw.cell_some q38)) (dy E E (fun w _=>eA Mf L7) ?_))
    refine aD E E (dh E E (aW E E (fun w hw=>ar (o:=0) Mo E (by kernel_rfl) E) ?_))
    refine aO E E (fun w hw=>aj Md E (hw.cell_some (k8.cell (i:=0) E))) ?_
    obtain⟨a45,p45,q45⟩:=gR b8 (i:=1) (by omega) .i64
    refine aF E E E (fun w _=>p45 w) (aO E E (fun w hw=>aj Mf E (hw.cell_some q45)) (dy E E (fun w _=>eA Mf L7) ?_))
    refine bb (v:=bJ 256) E E E (fun w _=>tn) (bb E E E (fun w _=>cx) (aD E E (dh E E (aW E E (fun w hw=>ar (o:=0) Mo E (by kernel_rfl) E) ?_))))
    refine aO E E (fun w hw=>aj Md E (hw.cell_some (k8.cell (i:=0) E))) ?_
    obtain⟨a54,p54,q54⟩:=gR b8 (i:=2) (by omega) .i64
    refine aF E E E (fun w _=>p54 w) (aO E E (fun w hw=>aj Mf E (hw.cell_some q54)) (dy E E (fun w _=>eA Mf L7) ?_))
    refine bb (v:=bJ 65536) E E E (fun w _=>tn) (bb E E E (fun w _=>cx) (aD E E (dh E E (aW E E (fun w hw=>ar (o:=0) Mo E (by kernel_rfl) E) ?_))))
    refine aO E E (fun w hw=>aj Md E (hw.cell_some (k8.cell (i:=0) E))) ?_
    obtain⟨a63,p63,q63⟩:=gR b8 (i:=3) (by omega) .i64
    refine aF E E E (fun w _=>p63 w) (aO E E (fun w hw=>aj Mf E (hw.cell_some q63)) (dy E E (fun w _=>eA Mf L7) ?_))
    refine bb (v:=bJ 16777216) rfl rfl rfl (fun w _=>tn) (bb rfl rfl rfl (fun w _=>cx) (fR (S:=bt [w4 ((t.drop (4*i))[0]'(by omega)) ((t.drop (4*i))[1]'(by omega)) ((t.drop (4*i))[2]'(by omega)) ((t.drop (4*i))[3]'(by omega))]) (bt.stable _) rfl (fun w' _=>by rintro _ rfl;obtain⟨r,w2,h1,h2,h3,_⟩:=ja Tryz.underlying44 (w:=w') w'.heap.size [w4 ((t.drop (4*i))[0]'(by omega)) ((t.drop (4*i))[1]'(by omega)) ((t.drop (4*i))[2]'(by omega)) ((t.drop (4*i))[3]'(by omega))] (by simp) (Nat.le_refl _);rw[←Kz] at h1;exact⟨r,w2,h1,h2,h3.wds⟩) ?_))
    refine cq ?_
    intro wg10 xg10
    rintro _ rfl
    rintro _ rfl
    rintro _ rfl
    rintro _ hq33
    obtain rfl:=Eq.symm hq33
    intro vg68 b68
    obtain⟨v69,w69,hr69,o69,g69⟩:=kJ Tryz.underlying44 (ty:=44) (o6.ext xg10) b68 (by have:=iJ i (t.take (4*i)) (by rw[List.length_take];omega);simp;omega) (Nat.le_trans g8.size xg10.size)
    have gg:=KE (g8.trans (dH xg10)) g69.grown (fun k hk=>o6.ge' k hk)
    have k69:=(k8.ext xg10).other g69.grown (fun e=>by have:=o6.ge' g e.symm;omega)
    refine ba E E hr69 ?_
    refine ac E E (ag (ab (aa (ae E E (ae E E (ay E E (ah E E (ar (o:=0) Mo E (by kernel_rfl) E) ?_)))))))
    refine ak E E (aj Md E (k69.cell (i:=0) E)) ?_
    obtain⟨v75,p75,b75⟩:=gt b0 (lo:=4) (by omega) .i64
    obtain⟨A5,n5,c5,rfl,_⟩:=id b75
    have lc5:=tu (p75 w) lc8 _ _ _ rfl
    refine cJ E E E E E (p75 _) ?_
    refine ay E E (ah E E (ar (o:=0) Tryz.underlying167 E (by kernel_rfl) E) (aq E E (ei (i:=0) dA E k69 (by simp)) ?_))
    have g11:=bm w69 g 0 (.slice A5 n5 c5)
    have o11:=o69.kept g11 (.inr (fun e=>by have:=o69.ge' g e;omega))
    refine ag (aS (ab (aa (ae E E (al (r:=I ((i+1:Nat):Int)) E E E (by have e:((i+1:Nat):Int)=(i:Int)+1:=(by omega);rw[e];exact aP (by omega) (by omega)) ?_)))))
    refine ac E E (ag ?_)
    refine dE (i+1) (v69) ⟨rfl,rfl,rfl,rfl,trivial⟩ ⟨gg.trans g11,⟨A5,n5,c5,k69.set 0 _,by rw[List.drop_drop] at b75;exact b75,lc5⟩,by
     rw[qS i t (by omega)]
     simp only[List.getElem_drop,Nat.add_zero] at o11
     exact o11,by omega⟩ (by omega)
   ·refine bg (aJ (aJ (bh (ab (af (af ?_))))))
    have hin:i=n:=by omega
    have r8:cv g (some (t.drop (4*i))) w8:=⟨A,n',c,k8,b8,lc8⟩
    obtain⟨bs,hbs⟩:∃bs,bs=t.take (4*i):=⟨_,rfl⟩
    have hbs':bs=t.take (4*n):=by rw[hbs,hin]
    have hbl:bs.length=4*n:=by rw[hbs',List.length_take];omega
    have hns:=iJ n bs hbl
    rw[←hbs] at o6
    have hnn:(UInt64.ofNat n).toNat=n:=by rw[UInt64.toNat_ofNat'];omega
    refine aa (ae E E (al (v:=bI 0) E E E (cO) (ae E E ?_)))
    refine cb (fun h80=>?_) (fun h80=>?_)
    ·refine ai E (ae E E (ai E (ae E E (ai E (al (v:=bI 1) E E E (dQ) (ai E ?_))))))
     have hn0:0<n:=by
      rcases Nat.eq_zero_or_pos n with h|h
      ·rw[h] at h80;exact absurd h80 (by decide)
      ·exact h
     have hm1:(UInt64.ofNat n-1).toNat=n-1:=by
      rw[UInt64.toNat_sub_of_le _ _ (UInt64.le_iff_toNat_le.2 (by rw[hnn];exact hn0)),hnn];rfl
     obtain⟨a84,p84,q84⟩:=cZ L5 o6.wds (i:=(UInt64.ofNat n-1).toNat) (by omega) .u64
     have hx:(de bs)[(UInt64.ofNat n-1).toNat]≠0↔lb (val (de bs))=de bs:=by
      have e:(UInt64.ofNat n-1).toNat=(de bs).length-1:=by omega
      simp only[e]
      exact sj (by omega)
     refine ax E E E (p84 _) (ai E (ak E E (aj L7 E q84) (ai E (al (v:=bJ 0) E E E (lZ) (ap E E E ?_)))))
     refine ag (ab ?_)
     refine bw E (fun h87=>?_) (fun h87=>?_)
     ·refine af (aa (ae E E (an dU E E (dV r8) ?_)))
      rintro v89 w89 ⟨rfl,hr2,g89⟩
      have m89:=eo.kp r8 g89
      refine ac E E (ac E E (ag (ab (au (az (a9 E E E ?_))))))
      exact⟨_,rfl,(x10.trans g8).trans g89,by
       rw[qT hU,←hbs',if_neg fun h=>hx.2 h.2 h87]
       exact⟨rfl,hr2⟩⟩
     ·refine aC (ab (af (aa (ae E E (ac E E (ac E E (ag (ab (au (a9 E E E ?_))))))))))
      exact⟨_,rfl,x10.trans g8,by
       rw[hin] at r8
       rw[qT hU,←hbs']
       first
       |(have h0:n=0:=by
          rcases Nat.eq_zero_or_pos n with h|h
          ·exact h
          ·exact absurd ((J5 hn).2 h) h80
         have hb0:de bs=[]:=List.eq_nil_of_length_eq_zero (by rw[hns];exact h0)
         rw[hb0] at o6
         rw[hb0,if_pos ⟨hle,rfl⟩]
         exact⟨u,rfl,o6.wds,r8,fun k hk=>Nat.le_trans x10.size (o6.ge' k hk)⟩)
       |(have hcan:=hx.1 h87
         rw[if_pos ⟨hle,hcan⟩]
         exact⟨u,rfl,o6.wds,r8,fun k hk=>Nat.le_trans x10.size (o6.ge' k hk)⟩)⟩
    ·refine ao E E E (ao E E E (ao E E E (ao E E E (ao E E E (ao E E E (aE E E E (ag (ab (cp E (aC (ab (af ?_))))))))))))
     refine aa (ae E E (ac E E (ac E E (ag (ab (au (a9 E E E ?_)))))))
     exact⟨_,rfl,x10.trans g8,by
      rw[hin] at r8
      rw[qT hU,←hbs']
      first
      |(have h0:n=0:=by
         rcases Nat.eq_zero_or_pos n with h|h
         ·exact h
         ·exact absurd ((J5 hn).2 h) h80
        have hb0:de bs=[]:=List.eq_nil_of_length_eq_zero (by rw[hns];exact h0)
        rw[hb0] at o6
        rw[hb0,if_pos ⟨hle,rfl⟩]
        exact⟨u,rfl,o6.wds,r8,fun k hk=>Nat.le_trans x10.size (o6.ge' k hk)⟩)
      |(have hcan:=hx.1 h87
        rw[if_pos ⟨hle,hcan⟩]
        exact⟨u,rfl,o6.wds,r8,fun k hk=>Nat.le_trans x10.size (o6.ge' k hk)⟩)⟩
end Go.Rl
namespace Go.Rl
open Go.RowKit Go.Proofs
def I7 (g:Nat) (w:World) (o:Option (List UInt8×List UInt8)) (r:Value) (w':World):Prop:=
 w.grownBy w' (some g)∧match o with
  |some (a,t)=>∃v,r=.tuple #[v,I 0]∧cn a v w'∧cv g (some t) w'
  |none=>r=.tuple #[.slice none 0 0,I 5]∧cv g none w'
theorem KF {st:Option (List UInt8)} (h:st.bind eJ=none):st.bind ql=none:=by
 cases st with
 |none=>rfl
 |some l=>
  have h:eJ l=none:=h
  show ql l=none
  unfold ql
  rw[h];rfl
theorem Hp {st:Option (List UInt8)} {n:Nat} {t:List UInt8} (h:st.bind eJ=some (n,t)):st.bind ql=if n≤t.length then some (t.take n,t.drop n) else none:=by
 cases st with
 |none=>cases h
 |some l=>
  have h:eJ l=some (n,t):=h
  show ql l=_
  unfold ql
  rw[h];rfl
theorem uA {w:World} {g:Nat} {st:Option (List UInt8)} (hr:cv g st w) (hl:∀l,st=some l→l.length≤549755813888):
 Calls Tryz.prog 48 #[.pointer (some ⟨g,0,none⟩)] w (bE (I7 g w (st.bind ql))):=by
 refine enter (vs:=[.pointer (some ⟨g,0,none⟩)]) Tryz.func48 E E E ?_
 refine af (aa (ac E E (ac E E (ag (ab (af ?_))))))
 rcases hU:st.bind eJ with _|⟨n,t⟩
 ·refine aa (ae E E (an fw E E (nx hr hU) ?_))
  rintro v9 w9 ⟨x9,rfl,hr1⟩
  have m9:=eo.kp hr x9
  refine ae E E (am E E (bj) (am E E (bk) (ac E E (ac E E (ag (ab (af (af (aa (ae E E (al E E E (cw (by decide) cC) ?_)))))))))))
  refine ag (ab (bf E (af (aa (ae E E (ac E E (ac E E (ag (ab (au (az (a9 E E E ?_))))))))))))
  exact⟨_,rfl,x9,by rw[KF hU];exact⟨rfl,hr1⟩⟩
 ·obtain⟨ht,hn⟩:=sF hU hl
  refine aa (ae E E (an fw E E (ny hr hU) ?_))
  rintro v9 w9 ⟨x9,rfl,hr1⟩
  have m9:=eo.kp hr x9
  refine ae E E (am E E (bj) (am E E (bk) ?_))
  obtain⟨A,n',c,k,b,lc⟩:=id hr1
  have b:cn t (.slice A n' c) w9:=b
  have hgb:g<w9.heap.size:=cv.lt hr1
  refine ac E E (ac E E (ag (ab (af (af (aa (ae E E (al E E E (cW (by decide) cC) (ag (ab (cp E (aC (ab ?_)))))))))))))
  refine af (af (aa (ae E E (ae E E (ay E E (ah E E (ar (o:=0) Mo E (by kernel_rfl) E) ?_))))))
  refine ak E E (aj Md E (k.cell (i:=0) E)) (aQ E E (cM b) (aY E E (ff Mb Mc) ?_))
  refine al E E E (cO) (ag (ab ?_))
  refine bw E (fun h22=>?_) (fun h22=>?_)
  ·have hlong:t.length<n:=(BE hn (by omega)).1 h22
   refine af (aa (ae E E (an dU E E (dV hr1) ?_)))
   rintro v24 w24 ⟨rfl,hr2,g24⟩
   have m24:=eo.kp hr1 g24
   refine ac E E (ac E E (ag (ab (au (az (a9 E E E ?_))))))
   exact⟨_,rfl,x9.trans g24,by rw[Hp hU,if_neg (by omega)];exact⟨rfl,hr2⟩⟩
  ·have hle:n≤t.length:=Nat.le_of_not_lt (mt (BE hn (by omega)).2 h22)
   have hnn:(UInt64.ofNat n).toNat=n:=by rw[UInt64.toNat_ofNat'];omega
   refine aC (ab (af (aa ?_)))
   obtain⟨v25,w25,hr25,x25,o25,ob25⟩:=dX (w:=w9) w9.heap.size [] (by simp) (Nat.le_refl _)
   refine aK (vs:=[]) E E hr25 (ae E E (ay E E (ah E E (ar (o:=0) Mo E (by kernel_rfl) E) ?_)))
   refine ak E E (aj Md E (x25.cell_some (k.cell (i:=0) E))) (ae E E ?_)
   obtain⟨v31,p31,b31⟩:=iU (b.ext x25) (hi:=(UInt64.ofNat n).toNat) (by omega) .u64
   rw[hnn] at b31
   refine cJ (b:=some (bI (UInt64.ofNat n))) E E E E E (p31 _) ?_
   obtain⟨v32,w32,hr32,o32,g32⟩:=c6 (ty:=22) o25 b31 (by simp;omega) (x25).size
   have x32:=aN.of_grew (x25) g32 o25.ge
   refine ba E E hr32 (ac E E (ag (ab (af (aa (ae E E (ae E E (ay E E (ah E E (ar (o:=0) Mo E (by kernel_rfl) E) ?_)))))))))
   refine ak E E (aj Md E (x32.cell_some (k.cell (i:=0) E))) (ae E E ?_)
   obtain⟨v39,p39,b39⟩:=gt (b.ext x32) (lo:=(UInt64.ofNat n).toNat) (by omega) .u64
   rw[hnn] at b39
   refine cJ (a:=some (bI (UInt64.ofNat n))) E E E E E (p39 _) ?_
   have hr1':=cv.ext hr1 x32
   have hvb:cn (t.take n) v32 w32:=by simpa using(o32).bts
   refine ay E E (ah E E (ar (o:=0) Mo E (by kernel_rfl) E) ?_)
   obtain⟨w3,hs3,q3,r3⟩:=eo.set hr1' b39 (tu (p39 w) lc)
   refine aq E E (hs3) ?_
   have gg:=(x9.trans (dH x32)).trans q3
   refine ag (ab (af (aa (ae E E (ac E E (ac E E (ag (ab (au (a9 E E E ?_))))))))))
   exact⟨_,rfl,gg,by rw[Hp hU,if_pos hle];exact⟨_,rfl,hvb.kp (eo.kp hr1' q3),r3⟩⟩
section
variable {w:World} {g:Nat}
theorem BF {st:Option (List UInt8)} (hr:cv g st w) (hl:∀l,st=some l→l.length≤549755813888) (h:st.bind ql=none):Calls Tryz.prog 48 #[.pointer (some ⟨g,0,none⟩)] w (bE fun r w'=>w.grownBy w' (some g)∧r=.tuple #[.slice none 0 0,I 5]∧cv g none w'):=by
 have:=uA hr hl
 rw[h] at this
 exact this
theorem uB {st:Option (List UInt8)} {a t:List UInt8} (hr:cv g st w) (hl:∀l,st=some l→l.length≤549755813888) (h:st.bind ql=some (a,t)):Calls Tryz.prog 48 #[.pointer (some ⟨g,0,none⟩)] w (bE fun r w'=>w.grownBy w' (some g)∧∃v,r=.tuple #[v,I 0]∧cn a v w'∧cv g (some t) w'):=by
 have:=uA hr hl
 rw[h] at this
 exact this
theorem tJ {st:Option (List UInt8)} (hr:cv g st w) (hl:∀l,st=some l→l.length≤549755813888) (h:st.bind sw=none):Calls Tryz.prog 160 #[.pointer (some ⟨g,0,none⟩)] w (bE fun r w'=>w.grownBy w' (some g)∧r=.tuple #[.slice none 0 0,I 5]∧cv g none w'):=by
 have:=yG hr hl
 rw[h] at this
 exact this
theorem qZ {st:Option (List UInt8)} {m:List UInt32} {t:List UInt8} (hr:cv g st w) (hl:∀l,st=some l→l.length≤549755813888) (h:st.bind sw=some (m,t)):Calls Tryz.prog 160 #[.pointer (some ⟨g,0,none⟩)] w (bE fun r w'=>w.grownBy w' (some g)∧∃v,r=.tuple #[v,I 0]∧bt m v w'∧cv g (some t) w'∧qV w.heap.size v):=by
 have:=yG hr hl
 rw[h] at this
 exact this
theorem tK {st:Option (List UInt8)} {m:List UInt32} {t:List UInt8} (hr:cv g st w) (hl:∀l,st=some l→l.length≤549755813888) (h:st.bind sw=some (m,t)):Calls Tryz.prog 160 #[.pointer (some ⟨g,0,none⟩)] w (bE fun r w'=>w.grownBy w' (some g)∧∃v,r=.tuple #[v,I 0]∧bt m v w'∧cv g (some t) w'):=(qZ hr hl h).mono fun _ _ ⟨r,h0,h1,v,h2,h3,h4,_⟩=>⟨r,h0,h1,v,h2,h3,h4⟩
end
end Go.Rl
namespace Go.Rl
open Go.RowKit Go.Proofs
theorem cr.st1 {P:Program} {w:World} {T t:TypeId} {g:Nat} {l:List Value} {v:Value} (h:cr g T l w) (i:Nat) (hs:(P.info? t).map (·.size)=some 1) (hv:∃A n c,v=.slice A n c) (hi:i<l.length):
 ∃w',(Instr.storeAt t (.pointer (some ⟨g,i,none⟩)) v).run P w=.ok () w'∧w.grownBy w' (some g)∧cr g T (l.set i v) w':=by
 obtain⟨A,n,c,rfl⟩:=hv
 exact⟨_,ei hs rfl h (by simpa using hi),bm w g i _,h.set i _⟩
theorem FQ {w:World} {b:Bool}:(Instr.build 46 #[(0,B b)]).run Tryz.prog w=.ok (.agg #[B b,.slice none 0 0,.slice none 0 0]) w:=
 run_build _ _ _ #[B b,.slice none 0 0,.slice none 0 0] (by kernel_rfl)
def FRatE (g:Nat) (w:World) (o:Option ((Bool×List UInt32×List UInt32)×List UInt8)) (r:Value) (w':World):Prop:=
 w.grownBy w' (some g)∧match o with
  |some (q,t)=>∃v,r=.tuple #[v,I 0]∧dl q.1 q.2.1 q.2.2 v w'∧cv g (some t) w'
  |none=>∃v,r=.tuple #[v,I 5]∧dl false [] [] v w'∧cv g none w'
def KG (g:Nat) (w:World) (o:Option ((Bool×List UInt32×List UInt32)×List UInt8)) (r:Value) (w':World):Prop:=
 w.grownBy w' (some g)∧match o with
  |some (q,t)=>∃x y,r=.tuple #[.agg #[B q.1,x,y],I 0]∧bt q.2.1 x w'∧bt q.2.2 y w'∧cv g (some t) w'∧qV w.heap.size x∧qV w.heap.size y
  |none=>∃v,r=.tuple #[v,I 5]∧dl false [] [] v w'∧cv g none w'
theorem C7 {w:World} {g:Nat} {st:Option (List UInt8)} (hr:cv g st w) (hl:∀l,st=some l→l.length≤549755813888):
 Calls Tryz.prog 131 #[.pointer (some ⟨g,0,none⟩)] w (bE (KG g w (st.bind jb))):=by
 refine enter (vs:=[.pointer (some ⟨g,0,none⟩)]) Tryz.func131 E E E ?_
 have hglt:=cv.lt hr
 refine af (aa ?_)
 obtain⟨g2,w2,hr2,l2,x2,k2⟩:=gw (w:=w)
 refine aV E hr2 (ac E E (ag (ab (af (af ?_)))))
 have rr:=cv.ext hr x2
 have kk:=k2
 have gg:w.grownBy w2 (some g):=dH x2
 have hne:some g2≠some g:=fun h=>by have:=Option.some.inj h;omega
 have hne':g≠g2:=by omega
 obtain⟨A,n,c0,k0,b0,lc⟩:=id rr
 rcases st with _|(_|⟨c,l⟩)
 ·have hR:(none:Option (List UInt8)).bind jb=none:=rfl
  have bn:cn [] (.slice A n c0) w2:=b0
  refine aa (ae E E (ay E E (ah E E (ar (o:=0) Mo E (by kernel_rfl) E) (ak E E (aj Md E (k0.cell (i:=0) E)) ?_))))
  refine aQ E E (cM bn) (al E E E (cw (by simp) bi) (ae E E (ao E E E (ao E E E (ao E E E (ao E E E (ao E E E ?_)))))))
  refine ao E E E (ao E E E (ap E E E (ag (ab (bf E (af (aa ?_)))))))
  refine bC (vs:=[]) E E eW ?_
  refine ae E E (an dU E E (dV rr) ?_)
  rintro v22 w22 ⟨rfl,rs,g22⟩
  have m22:=eo.kp rr g22
  have gg:=gg.trans g22
  have kk:=kk.other g22 hne
  have rr:=rs
  obtain⟨p,q,w3,hp,hs3,q3,k3,n3,d3⟩:=kk.stR ⟨_,_,_,rfl⟩ ⟨_,_,_,rfl⟩ (dl.mk (b:=false) (bt.nil _) (bt.nil _))
  refine aq E E (hs3) (ac E E (ag (ab (au (az ?_)))))
  refine cz E E E k3 L9 E di ?_
  exact⟨_,rfl,fi gg q3 l2,by rw[hR];exact⟨_,rfl,⟨p,q,rfl,n3,d3⟩,eo.off rr (kk.kpR ⟨_,_,_,rfl⟩ ⟨_,_,_,rfl⟩ q3) q3 hne'⟩⟩
 ·have hR:(some []).bind jb=none:=rfl
  have bn:cn [] (.slice A n c0) w2:=b0
  refine aa (ae E E (ay E E (ah E E (ar (o:=0) Mo E (by kernel_rfl) E) (ak E E (aj Md E (k0.cell (i:=0) E)) ?_))))
  refine aQ E E (cM bn) (al E E E (cw (by simp) bi) (ae E E (ao E E E (ao E E E (ao E E E (ao E E E (ao E E E ?_)))))))
  refine ao E E E (ao E E E (ap E E E (ag (ab (bf E (af (aa ?_)))))))
  refine bC (vs:=[]) E E eW ?_
  refine ae E E (an dU E E (dV rr) ?_)
  rintro v22 w22 ⟨rfl,rs,g22⟩
  have m22:=eo.kp rr g22
  have gg:=gg.trans g22
  have kk:=kk.other g22 hne
  have rr:=rs
  obtain⟨p,q,w3,hp,hs3,q3,k3,n3,d3⟩:=kk.stR ⟨_,_,_,rfl⟩ ⟨_,_,_,rfl⟩ (dl.mk (b:=false) (bt.nil _) (bt.nil _))
  refine aq E E (hs3) (ac E E (ag (ab (au (az ?_)))))
  refine cz E E E k3 L9 E di ?_
  exact⟨_,rfl,fi gg q3 l2,by rw[hR];exact⟨_,rfl,⟨p,q,rfl,n3,d3⟩,eo.off rr (kk.kpR ⟨_,_,_,rfl⟩ ⟨_,_,_,rfl⟩ q3) q3 hne'⟩⟩
 ·have b0:cn (c::l) (.slice A n c0) w2:=b0
  refine aa (ae E E (ay E E (ah E E (ar (o:=0) Mo E (by kernel_rfl) E) (ak E E (aj Md E (k0.cell (i:=0) E)) ?_))))
  refine aQ E E (cM b0) (al E E E (cW (by simp;omega) bi) (ae E E (ai E (ae E E (ai E (ay E E (ai E (ah E E (ar (o:=0) Tryz.underlying167 E (by kernel_rfl) E) ?_))))))))
  refine ai E (ak E E (aj Md E (k0.cell (i:=0) E)) (ai E ?_))
  obtain⟨a16,p16,q16⟩:=gR b0 (i:=0) (by simp) .i64
  refine ax E E E (p16 _) (ai E (ak E E (aj Mf E q16) (ai E (al (v:=U8 1) E E E (rW) (aE E E E ?_)))))
  refine ag (ab ?_)
  refine bw E (fun h19=>?_) (fun h19=>?_)
  ·have hc:1<c.toNat:=by have:=UInt8.lt_iff_toNat_lt.1 h19;simpa using this
   have hR:(some (c::l)).bind jb=none:=z7 hc
   refine af (aa ?_)
   refine bC (vs:=[]) E E eW ?_
   refine ae E E (an dU E E (dV rr) ?_)
   rintro v22 w22 ⟨rfl,rs,g22⟩
   have m22:=eo.kp rr g22
   have gg:=gg.trans g22
   have kk:=kk.other g22 hne
   have rr:=rs
   obtain⟨p,q,w3,hp,hs3,q3,k3,n3,d3⟩:=kk.stR ⟨_,_,_,rfl⟩ ⟨_,_,_,rfl⟩ (dl.mk (b:=false) (bt.nil _) (bt.nil _))
   refine aq E E (hs3) (ac E E (ag (ab (au (az ?_)))))
   refine cz E E E k3 L9 E di ?_
   exact⟨_,rfl,fi gg q3 l2,by rw[hR];exact⟨_,rfl,⟨p,q,rfl,n3,d3⟩,eo.off rr (kk.kpR ⟨_,_,_,rfl⟩ ⟨_,_,_,rfl⟩ q3) q3 hne'⟩⟩
  ·have hc:¬1<c.toNat:=fun hh=>h19 (UInt8.lt_iff_toNat_lt.2 (by simpa using hh))
   have hl1:∀l',some l=some l'→l'.length≤549755813888:=fun l' e=>by
    have:=hl _ rfl
    cases e
    simp at this;omega
   refine aC (ab (af ?_))
   obtain⟨s,hs⟩:∃s,s=decide (c.toNat=1):=⟨_,rfl⟩
   have hcs:s=decide ((c::l)[0]'(Nat.zero_lt_succ _)=(1:UInt8)):=by
    rw[hs]
    exact decide_eq_decide.2 ⟨fun h=>wi.1 h,fun h=>wi.2 h⟩
   refine aa (ae E E (ay E E (ah E E (ar (o:=0) Mo E (by kernel_rfl) E) (ak E E (aj Md E (k0.cell (i:=0) E)) ?_))))
   obtain⟨a27,p27,q27⟩:=gR b0 (i:=0) (by simp) .i64
   refine ax E E E (p27 _) (ak E E (aj Mf E q27) (al (v:=U8 1) (r:=B s) E E E ((by rw[hcs];exact lY)) ?_))
   refine bC (vs:=[(0,B s)]) E E FQ ?_
   obtain⟨g4,w4,hr4,l4,x4,k4⟩:=gw (w:=w2)
   refine aV E hr4 ?_
   obtain⟨p4,q4,w5,hp4,hs5,q5,k5,n5,d5⟩:=k4.stR ⟨_,_,_,rfl⟩ ⟨_,_,_,rfl⟩ (dl.mk (b:=s) (bt.nil _) (bt.nil _))
   refine aq E E (hs5) ?_
   have x5:=x4.of_new q5 l4
   have hg2:=kk.lt
   have hgw:=x2.size
   have hne4:some g4≠some g:=fun h=>by have:=Option.some.inj h;omega
   have hne4':g≠g4:=by omega
   have hne24:some g2≠some g4:=fun h=>by have:=Option.some.inj h;omega
   have hw4:w.heap.size≤g4:=by omega
   have kk:=kk.ext x5
   have rr:=cv.ext rr x5
   have gg:=gg.trans (dH x5)
   refine ag (ab (af (aa (ae E E (ae E E (ay E E (ah E E (ar (o:=0) Mo E (by kernel_rfl) E) ?_)))))))
   refine ak E E (aj Md E (x5.cell_some (k0.cell (i:=0) E))) ?_
   obtain⟨v36,p36,b36⟩:=gt (b0.ext x5) (lo:=1) (by simp) .i64
   refine cJ E E E E E (p36 _) (ay E E (ah E E (ar (o:=0) Mo E (by kernel_rfl) E) ?_))
   obtain⟨w6,hs6,q6,r6⟩:=eo.set (l':=l) rr b36 (tu (p36 w) lc)
   refine aq E E (hs6) ?_
   have m6:=eo.kp rr q6
   have kk:=kk.other q6 hne
   have k5:=k5.other q6 hne4
   have gg:=gg.trans q6
   have rr:cv g (some l) w6:=r6
   have n5:=n5.kp m6
   have d5:=d5.kp m6
   refine ag (ab (af ?_))
   rcases hN:sw l with _|⟨m,t⟩
   rotate_left
   rcases hM:sw t with _|⟨m',t'⟩
   rotate_left
   rcases hV:rv s m m'
   ·have hR:(some (c::l)).bind jb=none:=by
     show jb (c::l)=none
     rw[tH hc hN,←hs,hM]
     exact if_neg (by rw[hV];simp)
    refine aa (ae E E (an iK E E ((tK (st:=some l) rr hl1 hN)) ?_))
    rintro v41 w41 ⟨g41,v0,rfl,h0,rs⟩
    have m41:=eo.kp rr g41
    have kk:=kk.other g41 hne
    have k5:=k5.other g41 hne4
    have gg:=gg.trans g41
    have rr:=rs
    have n5:=n5.kp m41
    have d5:=d5.kp m41
    refine ae E E (am E E (bj) (am E E bk (ah E E (ar (o:=1) L9 E (by kernel_rfl) E) ?_)))
    obtain⟨w7,hs7,q7,k7⟩:=k5.st1 1 f6 h0.isS (by simp)
    refine aq E E (hs7) ?_
    have m7:=k5.kpR n5.isS d5.isS q7
    have kk:=kk.other q7 hne24
    have rr:=eo.off rr m7 q7 hne4'
    have gg:=fi gg q7 hw4
    have n7:=h0.kp m7
    have d7:=d5.kp m7
    refine ag (ab (af (aa (ae E E ?_))))
    have hl2:∀l',some t=some l'→l'.length≤549755813888:=fun l' e=>by
     cases e
     have h1:=(fV hN).1
     have:=hl1 _ rfl
     rw[h1,List.length_append] at this
     omega
    refine an iK E E ((tK (st:=some t) rr hl2 hM)) ?_
    rintro v47 w47 ⟨g47,v1,rfl,h1,rs⟩
    have m47:=eo.kp rr g47
    have kk:=kk.other g47 hne
    have k7:=k7.other g47 hne4
    have gg:=gg.trans g47
    have rr:=rs
    have n7:=n7.kp m47
    have d7:=d7.kp m47
    refine ae E E (am E E (bj) (am E E bk (ah E E (ar (o:=2) L9 E (by kernel_rfl) E) ?_)))
    obtain⟨w8,hs8,q8,k8⟩:=k7.st1 2 f6 h1.isS (by simp)
    refine aq E E (hs8) ?_
    have m8:=k7.kpR n7.isS d7.isS q8
    have kk:=kk.other q8 hne24
    have rr:=eo.off rr m8 q8 hne4'
    have gg:=fi gg q8 hw4
    have n8:=n7.kp m8
    have d8:=h1.kp m8
    obtain⟨A9,n9,c9,kr,br⟩:=id rr
    refine ag (ab (af (af (aa (ae E E (ay E E (ah E E (ar (o:=1) Mo E (by kernel_rfl) E) ?_)))))))
    refine ak E E (aj Me E (kr.cell (i:=1) E)) (ae E E (ai E (ak E E (k8.ldR) (ai E ?_))))
    have hml:m.length≤137438953472:=by
     have:=hl1 _ rfl
     rw[(fV hN).1,List.length_append,jj,List.length_append,eE] at this
     omega
    have hml':m'.length≤137438953472:=by
     have:=hl2 _ rfl
     rw[(fV hM).1,List.length_append,jj,List.length_append,eE] at this
     omega
    refine an uy E E ((by have:=oS (b:=s) (dl.mk n8 d8) hml hml';rw[hV] at this;exact this)) ?_
    rintro v57 w57 ⟨x57,rfl⟩
    have rr:=cv.ext rr x57
    have kk:=kk.ext x57
    have gg:=gg.trans (dH x57)
    refine ai E (bo E E bu (aE E E E (ag (ab (bf E (af (aa ?_)))))))
    refine bC (vs:=[]) E E eW ?_
    refine ae E E (an dU E E (dV rr) ?_)
    rintro v62 w62 ⟨rfl,rs,g62⟩
    have m62:=eo.kp rr g62
    have gg:=gg.trans g62
    have kk:=kk.other g62 hne
    have rr:=rs
    obtain⟨p,q,w3,hp,hs3,q3,k3,n3,d3⟩:=kk.stR ⟨_,_,_,rfl⟩ ⟨_,_,_,rfl⟩ (dl.mk (b:=false) (bt.nil _) (bt.nil _))
    refine aq E E (hs3) (ac E E (ag (ab (au (az ?_)))))
    refine cz E E E k3 L9 E di ?_
    exact⟨_,rfl,fi gg q3 l2,by rw[hR];exact⟨_,rfl,⟨p,q,rfl,n3,d3⟩,eo.off rr (kk.kpR ⟨_,_,_,rfl⟩ ⟨_,_,_,rfl⟩ q3) q3 hne'⟩⟩
   ·have hR:(some (c::l)).bind jb=some ((s,m,m'),t'):=by
     show jb (c::l)=_
     rw[tH hc hN,←hs,hM]
     exact if_pos hV
    refine aa (ae E E ?_)
    have hs41:=gg.size
    refine an iK E E ((qZ (st:=some l) rr hl1 hN)) ?_
    rintro v41 w41 ⟨g41,v0,rfl,h0,rs,f0⟩
    have m41:=eo.kp rr g41
    have kk:=kk.other g41 hne
    have k5:=k5.other g41 hne4
    have gg:=gg.trans g41
    have rr:=rs
    have n5:=n5.kp m41
    have d5:=d5.kp m41
    refine ae E E (am E E (bj) (am E E bk (ah E E (ar (o:=1) L9 E (by kernel_rfl) E) ?_)))
    obtain⟨w7,hs7,q7,k7⟩:=k5.st1 1 f6 h0.isS (by simp)
    refine aq E E (hs7) ?_
    have m7:=k5.kpR n5.isS d5.isS q7
    have kk:=kk.other q7 hne24
    have rr:=eo.off rr m7 q7 hne4'
    have gg:=fi gg q7 hw4
    have n7:=h0.kp m7
    have d7:=d5.kp m7
    refine ag (ab (af (aa (ae E E ?_))))
    have hs47:=gg.size
    have hl2:∀l',some t=some l'→l'.length≤549755813888:=fun l' e=>by
     cases e
     have h1:=(fV hN).1
     have:=hl1 _ rfl
     rw[h1,List.length_append] at this
     omega
    refine an iK E E ((qZ (st:=some t) rr hl2 hM)) ?_
    rintro v47 w47 ⟨g47,v1,rfl,h1,rs,f1⟩
    have m47:=eo.kp rr g47
    have kk:=kk.other g47 hne
    have k7:=k7.other g47 hne4
    have gg:=gg.trans g47
    have rr:=rs
    have n7:=n7.kp m47
    have d7:=d7.kp m47
    refine ae E E (am E E (bj) (am E E bk (ah E E (ar (o:=2) L9 E (by kernel_rfl) E) ?_)))
    obtain⟨w8,hs8,q8,k8⟩:=k7.st1 2 f6 h1.isS (by simp)
    refine aq E E (hs8) ?_
    have m8:=k7.kpR n7.isS d7.isS q8
    have kk:=kk.other q8 hne24
    have rr:=eo.off rr m8 q8 hne4'
    have gg:=fi gg q8 hw4
    have n8:=n7.kp m8
    have d8:=h1.kp m8
    obtain⟨A9,n9,c9,kr,br⟩:=id rr
    refine ag (ab (af (af (aa (ae E E (ay E E (ah E E (ar (o:=1) Mo E (by kernel_rfl) E) ?_)))))))
    refine ak E E (aj Me E (kr.cell (i:=1) E)) (ae E E (ai E (ak E E (k8.ldR) (ai E ?_))))
    have hml:m.length≤137438953472:=by
     have:=hl1 _ rfl
     rw[(fV hN).1,List.length_append,jj,List.length_append,eE] at this
     omega
    have hml':m'.length≤137438953472:=by
     have:=hl2 _ rfl
     rw[(fV hM).1,List.length_append,jj,List.length_append,eE] at this
     omega
    refine an uy E E ((by have:=oS (b:=s) (dl.mk n8 d8) hml hml';rw[hV] at this;exact this)) ?_
    rintro v57 w57 ⟨x57,rfl⟩
    have rr:=cv.ext rr x57
    have kk:=kk.ext x57
    have gg:=gg.trans (dH x57)
    refine ai E (bo E E bu (aE E E E (ag (ab (cp E (aC (ab (af (aa (ak E E ((k8.ext x57).ldR) ?_))))))))))
    obtain⟨p,q,w3,hp,hs3,q3,k3,n3,d3⟩:=kk.stR ⟨_,_,_,rfl⟩ ⟨_,_,_,rfl⟩ ((dl.mk n8 d8).ext x57)
    refine aq E E (hs3) (ac E E (ag (ab (au ?_))))
    refine cz E E E k3 L9 E di ?_
    exact⟨_,rfl,fi gg q3 l2,by
     rw[hR]
     obtain⟨ec,ed⟩:=wh hp
     exact⟨p,q,rfl,n3,d3,eo.off rr (kk.kpR ⟨_,_,_,rfl⟩ ⟨_,_,_,rfl⟩ q3) q3 hne',ec▸(fun k hk=>Nat.le_trans hs41 (f0 k hk)),ed▸(fun k hk=>Nat.le_trans hs47 (f1 k hk))⟩⟩
   ·have hR:(some (c::l)).bind jb=none:=C1 hN
    refine aa (ae E E (an iK E E ((tJ (st:=some l) rr hl1 hN)) ?_))
    rintro v41 w41 ⟨g41,rfl,rs⟩
    have m41:=eo.kp rr g41
    have kk:=kk.other g41 hne
    have k5:=k5.other g41 hne4
    have gg:=gg.trans g41
    have rr:=rs
    have n5:=n5.kp m41
    have d5:=d5.kp m41
    have h0:=bt.nil w41
    refine ae E E (am E E (bj) (am E E bk (ah E E (ar (o:=1) L9 E (by kernel_rfl) E) ?_)))
    obtain⟨w7,hs7,q7,k7⟩:=k5.st1 1 f6 h0.isS (by simp)
    refine aq E E (hs7) ?_
    have m7:=k5.kpR n5.isS d5.isS q7
    have kk:=kk.other q7 hne24
    have rr:=eo.off rr m7 q7 hne4'
    have gg:=fi gg q7 hw4
    have n7:=h0.kp m7
    have d7:=d5.kp m7
    refine ag (ab (af (aa (ae rfl rfl (an iK rfl rfl ((tJ (st:=none) rr (fun _ e=>by cases e) rfl)) ?_)))))
    rintro v47 w47 ⟨g47,rfl,rs⟩
    have m47:=eo.kp rr g47
    have kk:=kk.other g47 hne
    have k7:=k7.other g47 hne4
    have gg:=gg.trans g47
    have rr:=rs
    have n7:=n7.kp m47
    have d7:=d7.kp m47
    have h1:=bt.nil w47
    refine ae E E (am E E (bj) (am E E bk (ah E E (ar (o:=2) L9 E (by kernel_rfl) E) ?_)))
    obtain⟨w8,hs8,q8,k8⟩:=k7.st1 2 f6 h1.isS (by simp)
    refine aq E E (hs8) ?_
    have m8:=k7.kpR n7.isS d7.isS q8
    have kk:=kk.other q8 hne24
    have rr:=eo.off rr m8 q8 hne4'
    have gg:=fi gg q8 hw4
    have n8:=n7.kp m8
    have d8:=h1.kp m8
    obtain⟨A9,n9,c9,kr,br⟩:=id rr
    refine ag (ab (af (af (aa (ae E E (ay E E (ah E E (ar (o:=1) Mo E (by kernel_rfl) E) ?_)))))))
    refine ak E E (aj Me E (kr.cell (i:=1) E)) (ae E E (ao E E E (ao E E E (ao E E E (ap E E E ?_)))))
    refine ag (ab (bf E (af (aa ?_))))
    refine bC (vs:=[]) E E eW ?_
    refine ae E E (an dU E E (dV rr) ?_)
    rintro v62 w62 ⟨rfl,rs,g62⟩
    have m62:=eo.kp rr g62
    have gg:=gg.trans g62
    have kk:=kk.other g62 hne
    have rr:=rs
    obtain⟨p,q,w3,hp,hs3,q3,k3,n3,d3⟩:=kk.stR ⟨_,_,_,rfl⟩ ⟨_,_,_,rfl⟩ (dl.mk (b:=false) (bt.nil _) (bt.nil _))
    refine aq E E (hs3) (ac E E (ag (ab (au (az ?_)))))
    refine cz E E E k3 L9 E di ?_
    exact⟨_,rfl,fi gg q3 l2,by rw[hR];exact⟨_,rfl,⟨p,q,rfl,n3,d3⟩,eo.off rr (kk.kpR ⟨_,_,_,rfl⟩ ⟨_,_,_,rfl⟩ q3) q3 hne'⟩⟩
   ·have hR:(some (c::l)).bind jb=none:=by
     show jb (c::l)=none
     rw[tH hc hN,←hs,hM];rfl
    refine aa (ae E E (an iK E E ((tK (st:=some l) rr hl1 hN)) ?_))
    rintro v41 w41 ⟨g41,v0,rfl,h0,rs⟩
    have m41:=eo.kp rr g41
    have kk:=kk.other g41 hne
    have k5:=k5.other g41 hne4
    have gg:=gg.trans g41
    have rr:=rs
    have n5:=n5.kp m41
    have d5:=d5.kp m41
    refine ae E E (am E E (bj) (am E E bk (ah E E (ar (o:=1) L9 E (by kernel_rfl) E) ?_)))
    obtain⟨w7,hs7,q7,k7⟩:=k5.st1 1 f6 h0.isS (by simp)
    refine aq E E (hs7) ?_
    have m7:=k5.kpR n5.isS d5.isS q7
    have kk:=kk.other q7 hne24
    have rr:=eo.off rr m7 q7 hne4'
    have gg:=fi gg q7 hw4
    have n7:=h0.kp m7
    have d7:=d5.kp m7
    refine ag (ab (af (aa (ae E E ?_))))
    have hl2:∀l',some t=some l'→l'.length≤549755813888:=fun l' e=>by
     cases e
     have h1:=(fV hN).1
     have:=hl1 _ rfl
     rw[h1,List.length_append] at this
     omega
    refine an iK E E ((tJ (st:=some t) rr hl2 hM)) ?_
    rintro v47 w47 ⟨g47,rfl,rs⟩
    have m47:=eo.kp rr g47
    have kk:=kk.other g47 hne
    have k7:=k7.other g47 hne4
    have gg:=gg.trans g47
    have rr:=rs
    have n7:=n7.kp m47
    have d7:=d7.kp m47
    have h1:=bt.nil w47
    refine ae E E (am E E (bj) (am E E bk (ah E E (ar (o:=2) L9 E (by kernel_rfl) E) ?_)))
    obtain⟨w8,hs8,q8,k8⟩:=k7.st1 2 f6 h1.isS (by simp)
    refine aq E E (hs8) ?_
    have m8:=k7.kpR n7.isS d7.isS q8
    have kk:=kk.other q8 hne24
    have rr:=eo.off rr m8 q8 hne4'
    have gg:=fi gg q8 hw4
    have n8:=n7.kp m8
    have d8:=h1.kp m8
    obtain⟨A9,n9,c9,kr,br⟩:=id rr
    refine ag (ab (af (af (aa (ae E E (ay E E (ah E E (ar (o:=1) Mo E (by kernel_rfl) E) ?_)))))))
    refine ak E E (aj Me E (kr.cell (i:=1) E)) (ae E E (ao E E E (ao E E E (ao E E E (ap E E E ?_)))))
    refine ag (ab (bf E (af (aa ?_))))
    refine bC (vs:=[]) E E eW ?_
    refine ae E E (an dU E E (dV rr) ?_)
    rintro v62 w62 ⟨rfl,rs,g62⟩
    have m62:=eo.kp rr g62
    have gg:=gg.trans g62
    have kk:=kk.other g62 hne
    have rr:=rs
    obtain⟨p,q,w3,hp,hs3,q3,k3,n3,d3⟩:=kk.stR ⟨_,_,_,rfl⟩ ⟨_,_,_,rfl⟩ (dl.mk (b:=false) (bt.nil _) (bt.nil _))
    refine aq E E (hs3) (ac E E (ag (ab (au (az ?_)))))
    refine cz E E E k3 L9 E di ?_
    exact⟨_,rfl,fi gg q3 l2,by rw[hR];exact⟨_,rfl,⟨p,q,rfl,n3,d3⟩,eo.off rr (kk.kpR ⟨_,_,_,rfl⟩ ⟨_,_,_,rfl⟩ q3) q3 hne'⟩⟩
end Go.Rl
namespace Go.Rl
open Go.RowKit Go.Proofs
theorem I8 {l a t:List UInt8} (h:ql l=some (a,t)):l=fh a++t:=by
 unfold ql at h
 cases hu:eJ l with
 |none=>rw[hu] at h;cases h
 |some p=>
  obtain⟨n,u⟩:=p
  rw[hu] at h
  have h:(if n≤u.length then some (u.take n,u.drop n) else none)=some (a,t):=h
  split at h
  ·simp only[Option.some.injEq,Prod.mk.injEq] at h
   have e:=(gd hu).1
   have hl:(u.take n).length=n:=by rw[List.length_take];omega
   rw[e,←h.1,←h.2,fh,hl,List.append_assoc,List.take_append_drop]
  ·cases h
theorem Er {l t:List UInt8} {b:Bool} {n m:List UInt32} (h:jb l=some ((b,n,m),t)):l=om b n m++t∧rv b n m=true∧4*(n.length+m.length)≤l.length:=by
 cases l with
 |nil=>cases h
 |cons c l=>
  by_cases hc:1<c.toNat
  ·rw[z7 hc] at h;cases h
  ·cases hN:sw l with
   |none=>rw[C1 hN] at h;cases h
   |some p=>
    obtain⟨n',u⟩:=p
    rw[tH hc hN] at h
    cases hM:sw u with
    |none=>rw[hM] at h;cases h
    |some q=>
     obtain⟨m',u'⟩:=q
     rw[hM] at h
     have h:(if rv (decide (c.toNat=1)) n' m'=true then some ((decide (c.toNat=1),n',m'),u') else none)=some ((b,n,m),t):=h
     split at h
     ·rename_i hv
      simp only[Option.some.injEq,Prod.mk.injEq] at h
      obtain⟨⟨rfl,rfl,rfl⟩,rfl⟩:=h
      have hcs:c=zZ (decide (c.toNat=1)):=by
       by_cases h1:c.toNat=1
       ·rw[decide_eq_true h1,wi.1 h1];rfl
       ·rw[decide_eq_false h1]
        exact UInt8.toNat_inj.1 (show c.toNat=(0:UInt8).toNat by rw[show(0:UInt8).toNat=0 from rfl];omega)
      have e:c::l=om (decide (c.toNat=1)) n' m'++u':=by
       rw[om,←hcs,(fV hN).1,(fV hM).1]
       simp
      refine⟨e,hv,?_⟩
      rw[e]
      simp only[om,jj,List.length_append,eE]
      omega
     ·cases h
theorem Hq {b:Bool} {n m:List UInt32} (h:rv b n m=true):lb (val n)=n∧lb (val m)=m:=by
 obtain⟨_,h2,h3⟩:=of_decide_eq_true h
 constructor
 ·obtain⟨x,hx⟩:∃x,x=val n/Nat.gcd (val n) (val (ud m)):=⟨_,rfl⟩
  rw[←hx] at h2
  rw[h2,bZ]
 ·unfold yy at h3
  split at h3
  ·rw[h3];rfl
  ·obtain⟨x,hx⟩:∃x,x=val (ud m)/Nat.gcd (val n) (val (ud m)):=⟨_,rfl⟩
   rw[←hx] at h3
   rw[h3,bZ]
theorem Hr {b:Bool} {n m:List UInt32} (h:rv b n m=true) (hn:n.length<18446744073709551616) (hm:m.length<18446744073709551616) (t:List UInt8):jb (om b n m++t)=some ((b,n,m),t):=by
 have hs:¬1<(zZ b).toNat:=by cases b<;>decide
 have hd:decide ((zZ b).toNat=1)=b:=by cases b<;>decide
 have e:om b n m++t=zZ b::(jj n++(jj m++t)):=by simp[om]
 rw[e,tH hs (BD hn (Hq h).1 _),hd,BD hm (Hq h).2]
 exact if_pos h
def Few (st:Option (List UInt8)):Prop:=∀l,st=some l→l.length≤549755813888
section
variable {w:World} {g:Nat} {st:Option (List UInt8)}
theorem J6 (hr:cQ g st w) (h:st.bind eJ=none):Calls Tryz.prog 89 #[.pointer (some ⟨g,0,none⟩)] w (bE fun r w'=>w.grownBy w' (some g)∧r=.tuple #[bI 0,I 5]∧cQ g none w'):=by
 have:=pA hr
 rw[h] at this
 exact this
theorem Hs {n:Nat} {t:List UInt8} (hr:cQ g st w) (h:st.bind eJ=some (n,t)):Calls Tryz.prog 89 #[.pointer (some ⟨g,0,none⟩)] w (bE fun r w'=>w.grownBy w' (some g)∧r=.tuple #[bI (UInt64.ofNat n),I 0]∧cQ g (some t) w'):=by
 have:=pA hr
 rw[h] at this
 exact this
theorem LJ (hr:cQ g st w) (h:st.bind eJ=none):Calls Tryz.prog 158 #[.pointer (some ⟨g,0,none⟩)] w (bE fun r w'=>w.grownBy w' (some g)∧r=.tuple #[I 0,I 5]∧cQ g none w'):=by
 have:=yE hr
 rw[h] at this
 exact this
theorem LK {n:Nat} {t:List UInt8} (hr:cQ g st w) (h:st.bind eJ=some (n,t)):Calls Tryz.prog 158 #[.pointer (some ⟨g,0,none⟩)] w (bE fun r w'=>w.grownBy w' (some g)∧r=.tuple #[I (uz n),I 0]∧cQ g (some t) w'):=by
 have:=yE hr
 rw[h] at this
 exact this
end
end Go.Rl
namespace Go.Rl
def i7 (x:UInt32) (n:Nat):UInt32:=(x>>>UInt32.ofNat n)|||(x<<<UInt32.ofNat (32-n))
def kc:List UInt32:=[0x428a2f98,0x71374491,0xb5c0fbcf,0xe9b5dba5,0x3956c25b,0x59f111f1,0x923f82a4,0xab1c5ed5,0xd807aa98,0x12835b01,0x243185be,0x550c7dc3,0x72be5d74,0x80deb1fe,0x9bdc06a7,0xc19bf174,0xe49b69c1,0xefbe4786,0x0fc19dc6,0x240ca1cc,0x2de92c6f,0x4a7484aa,0x5cb0a9dc,0x76f988da,0x983e5152,0xa831c66d,0xb00327c8,0xbf597fc7,0xc6e00bf3,0xd5a79147,0x06ca6351,0x14292967,0x27b70a85,0x2e1b2138,0x4d2c6dfc,0x53380d13,0x650a7354,0x766a0abb,0x81c2c92e,0x92722c85,0xa2bfe8a1,0xa81a664b,0xc24b8b70,0xc76c51a3,0xd192e819,0xd6990624,0xf40e3585,0x106aa070,0x19a4c116,0x1e376c08,0x2748774c,0x34b0bcb5,0x391c0cb3,0x4ed8aa4a,0x5b9cca4f,0x682e6ff3,0x748f82ee,0x78a5636f,0x84c87814,0x8cc70208,0x90befffa,0xa4506ceb,0xbef9a3f7,0xc67178f2]
def iv:List UInt32:=[0x6a09e667,0xbb67ae85,0x3c6ef372,0xa54ff53a,0x510e527f,0x9b05688c,0x1f83d9ab,0x5be0cd19]
def sH (b:List UInt8) (t:Nat):UInt32:=((((b.getD (4*t) 0).toUInt32<<<UInt32.ofNat 24)|||((b.getD (4*t+1) 0).toUInt32<<<UInt32.ofNat 16))|||((b.getD (4*t+2) 0).toUInt32<<<UInt32.ofNat 8))|||(b.getD (4*t+3) 0).toUInt32
def oW (l:List UInt32):UInt32:=
 let t:=l.length
 let x:=l.getD (t-15) 0
 let y:=l.getD (t-2) 0
 l.getD (t-16) 0+(i7 x 7^^^i7 x 18^^^x>>>UInt32.ofNat 3)+l.getD (t-7) 0+(i7 y 17^^^i7 y 19^^^y>>>UInt32.ofNat 10)
def jE (b:List UInt8) (k:Nat):List UInt32:=(List.range k).map (sH b)
def bN (b:List UInt8):Nat→List UInt32
 |0=>jE b 16
 |k+1=>bN b k++[oW (bN b k)]
theorem mH (b:List UInt8):∀k,(bN b k).length=16+k
 |0=>by simp[bN,jE]
 |k+1=>by simp[bN,mH b k];omega
def t1 (s:List UInt32) (k w:UInt32):UInt32:=
 let e:=s.getD 4 0
 s.getD 7 0+(i7 e 6^^^i7 e 11^^^i7 e 25)+(e&&&s.getD 5 0^^^ ~~~e&&&s.getD 6 0)+k+w
def t2 (s:List UInt32):UInt32:=
 let a:=s.getD 0 0
 (i7 a 2^^^i7 a 13^^^i7 a 22)+(a&&&s.getD 1 0^^^a&&&s.getD 2 0^^^s.getD 1 0&&&s.getD 2 0)
def rnd (s:List UInt32) (k w:UInt32):List UInt32:=[t1 s k w+t2 s,s.getD 0 0,s.getD 1 0,s.getD 2 0,s.getD 3 0+t1 s k w,s.getD 4 0,s.getD 5 0,s.getD 6 0]
def ek (b:List UInt8) (s:List UInt32):Nat→List UInt32
 |0=>s
 |i+1=>rnd (ek b s i) (kc.getD i 0) ((bN b 48).getD i 0)
theorem ir (b:List UInt8) (s:List UInt32) (hs:s.length=8):∀i,(ek b s i).length=8
 |0=>hs
 |_+1=>rfl
def xV (s:List UInt32) (b:List UInt8):List UInt32:=List.zipWith (· + ·) s (ek b s 64)
theorem BG (s:List UInt32) (b:List UInt8) (hs:s.length=8):(xV s b).length=8:=by
 simp[xV,hs,ir b s hs]
def yH (m:List UInt8):Nat→List UInt32
 |0=>iv
 |k+1=>xV (yH m k) ((m.drop (64*k)).take 64)
theorem pI (m:List UInt8):∀k,(yH m k).length=8
 |0=>rfl
 |k+1=>BG _ _ (pI m k)
theorem rf (m x:List UInt8):∀k,64*k≤m.length→yH (m++x) k=yH m k
 |0,_=>rfl
 |k+1,h=>by
  have h0:64*k≤m.length:=by omega
  have h1:64≤(m.drop (64*k)).length:=by simp;omega
  rw[yH,yH,rf m x k h0,List.drop_append_of_le_length h0,List.take_append_of_le_length h1]
def sh (m:List UInt8):List UInt32:=yH m (m.length/64)
theorem Ht (m:List UInt8):(sh m).length=8:=pI m _
theorem z9 (p t:List UInt8) (hp:p.length%64=0) (ht:t.length<64):sh (p++t)=sh p:=by
 have:(p++t).length/64=p.length/64:=by simp only[List.length_append];omega
 unfold sh
 rw[this,rf p t _ (by omega)]
theorem Hu (p b:List UInt8) (hp:p.length%64=0) (hb:b.length=64):sh (p++b)=xV (sh p) b:=by
 have h1:(p++b).length/64=p.length/64+1:=by simp only[List.length_append];omega
 unfold sh
 rw[h1,yH,rf p b _ (by omega)]
 have h2:64*(p.length/64)=p.length:=by omega
 rw[h2,List.drop_left,←hb,List.take_length]
def xT (x:UInt32):List UInt8:=[(x>>>UInt32.ofNat 24).toUInt8,(x>>>UInt32.ofNat 16).toUInt8,(x>>>UInt32.ofNat 8).toUInt8,x.toUInt8]
def BH (n:UInt64):List UInt8:=(List.range 8).map fun i=>(n>>>UInt64.ofNat (56-8*i)).toUInt8
def it (n:Nat):Nat:=(119-n%64)%64
def fc (m:List UInt8):List UInt8:=m++[128]++List.replicate (it m.length) 0++BH (UInt64.ofNat m.length*8)
theorem C8 (m:List UInt8):(fc m).length%64=0:=by
 simp only[fc,it,BH,List.length_append,List.length_cons,List.length_nil,List.length_replicate,List.length_map,List.length_range];omega
def jx (m:List UInt8):List UInt8:=(sh (fc m)).flatMap xT
end Go.Rl
namespace Go.Rl
open Go.RowKit
abbrev fj:=Bool×List UInt32×List UInt32
def qt (n:Int):Dt:=.int .i64 n
def iX (q:fj):Dt:=.st [.bool q.1,nj q.2.1,nj q.2.2]
structure wt where
 kd:Int
 fr:Int
 ou:Int
 kh:Int
 kw:Int
 sr:Int
 pd:Int
 ws:List fj
 bs:List fj
structure Hv where
 inp:List Int
 lays:List wt
theorem wt.eq_iff {a b:wt}:a=b↔a.kd=b.kd∧a.fr=b.fr∧a.ou=b.ou∧a.kh=b.kh∧a.kw=b.kw∧a.sr=b.sr∧a.pd=b.pd∧a.ws=b.ws∧a.bs=b.bs:=by
 constructor
 ·rintro rfl;exact⟨rfl,rfl,rfl,rfl,rfl,rfl,rfl,rfl,rfl⟩
 ·rintro⟨h1,h2,h3,h4,h5,h6,h7,h8,h9⟩
  cases a;cases b;simp_all
theorem Hv.eq_iff {a b:Hv}:a=b↔a.inp=b.inp∧a.lays=b.lays:=by
 constructor
 ·rintro rfl;exact⟨rfl,rfl⟩
 ·rintro⟨h1,h2⟩
  cases a;cases b;simp_all
instance:DecidableEq wt:=fun _ _=>decidable_of_iff _ wt.eq_iff.symm
instance:DecidableEq Hv:=fun _ _=>decidable_of_iff _ Hv.eq_iff.symm
def J7 (l:List Int):Dt:=.sl (l.map qt)
def lK (n:Int):Prop:= -9223372036854775808≤n∧n≤9223372036854775807
def dt (n:Int):List UInt8:=uv (CD n)
def gj (q:fj):List UInt8:=om q.1 q.2.1 q.2.2
def jy (l:List UInt8):Option (Int×List UInt8):=(eJ l).map fun p=>(uz p.1,p.2)
def bS {α:Type} (f:List UInt8→Option (α×List UInt8)):Nat→List UInt8→Option (List α×List UInt8)
 |0,l=>some ([],l)
 |n+1,l=>(f l).bind fun p=>(bS f n p.2).map fun q=>(p.1::q.1,q.2)
def dn {α:Type} (f:List UInt8→Option (α×List UInt8)) (l:List UInt8):Option (List α×List UInt8):=(eJ l).bind fun p=>bS f p.1 p.2
def LL:List UInt8→Option (List fj×List UInt8):=dn jb
def rdL (l:List UInt8):Option (wt×List UInt8):=
 (jy l).bind fun a=>(jy a.2).bind fun b=>(jy b.2).bind fun c=>(jy c.2).bind fun d=>(jy d.2).bind fun e=>(jy e.2).bind fun f=>(jy f.2).bind fun g=>
   (LL g.2).bind fun x=>(LL x.2).bind fun y=>some (⟨a.1,b.1,c.1,d.1,e.1,f.1,g.1,x.1,y.1⟩,y.2)
def rdM (l:List UInt8):Option (Hv×List UInt8):=(dn jy l).bind fun a=>(dn rdL a.2).bind fun b=>some (⟨a.1,b.1⟩,b.2)
theorem nz {n:Int} (h:lK n) (t:List UInt8):jy (dt n++t)=some (n,t):=by
 unfold jy dt
 rw[qG (CE h.1 h.2)]
 simp[Kv]
theorem wu {α:Type} {f:List UInt8→Option (α×List UInt8)} {e:α→List UInt8}:∀(l:List α) (t:List UInt8),(∀x∈l,∀t,f (e x++t)=some (x,t))→bS f l.length (l.flatMap e++t)=some (l,t)
 |[],t,_=>rfl
 |x::l,t,h=>by
  simp only[List.flatMap_cons,List.append_assoc,List.length_cons,bS]
  rw[h x (by simp)]
  simp only[Option.bind_some]
  rw[wu l t fun y hy=>h y (by simp[hy])]
  rfl
theorem rg {α:Type} {f:List UInt8→Option (α×List UInt8)} {e:α→List UInt8} {l:List α} (hl:l.length<18446744073709551616) (h:∀x∈l,∀t,f (e x++t)=some (x,t)) (t:List UInt8):dn f (uv l.length++l.flatMap e++t)=some (l,t):=by
 unfold dn
 rw[List.append_assoc,qG hl]
 exact wu l t h
def LM (q:fj):Prop:=rv q.1 q.2.1 q.2.2=true∧q.2.1.length<18446744073709551616∧q.2.2.length<18446744073709551616
theorem Aa {q:fj} (h:LM q) (t:List UInt8):jb (gj q++t)=some (q,t):=Hr h.1 h.2.1 h.2.2 t
end Go.Rl
namespace Go.Rl
open Go.RowKit
section
variable {w:World} {cs:List Value}
theorem BI (n:Int):(qt n).size=1:=rfl
theorem I9 {n:Int} (h:Rp w (qt n) cs):cs=[I n]:=by simp only[qt,Rp] at h;exact h
theorem mJ {q:fj} (h:Rp w (iX q) cs):∃x y,cs=[B q.1,x,y]∧bt q.2.1 x w∧bt q.2.2 y w:=by
 simp only[iX,Rp,bD] at h
 obtain⟨_,_,rfl,rfl,_,_,rfl,h1,_,_,rfl,h2,rfl⟩:=h
 obtain⟨x,rfl,hx,_⟩:=Rp.isSlice h1
 obtain⟨y,rfl,hy,_⟩:=Rp.isSlice h2
 exact⟨x,y,rfl,Rp.wds.1 hx,Rp.wds.1 hy⟩
end
end Go.Rl
namespace Go.Rl
open Go.RowKit
section
variable {α β:Type} {f:List UInt8→Option (α×List UInt8)} {st s1 s2 so:Option (List UInt8)} {a:α}
def fK (f:List UInt8→Option (α×List UInt8)) (st:Option (List UInt8)) (a:α) (s1:Option (List UInt8)):Prop:=st.bind f=s1.map fun t=>(a,t)
theorem fK.some {t:List UInt8} (h:fK f st a (some t)):∃l,st=.some l∧f l=.some (a,t):=by
 cases st with
 |none=>cases h
 |some l=>exact⟨l,rfl,h⟩
def Le (f:List UInt8→Option (α×List UInt8)):Prop:=∀l a t,f l=some (a,t)→t.length≤l.length
def Lt (f:List UInt8→Option (α×List UInt8)):Prop:=∀l a t,f l=some (a,t)→t.length+1≤l.length
theorem Lt.le (h:Lt f):Le f:=fun l a t e=>by have:=h l a t e;omega
def tL (n:Nat) (st:Option (List UInt8)):Prop:=∀l,st=some l→l.length≤n
theorem fK.atM {n:Nat} (h:fK f st a s1) (hf:Le f) (hn:tL n st):tL n s1:=fun t e=>by
 subst e
 obtain⟨l,h1,h2⟩:=h.some
 exact Nat.le_trans (hf l a t h2) (hn l h1)
theorem rh {N:Nat}:so.bind (bS f N)=so.bind (fun l=>(bS f N l).map fun p=>([]++p.1,p.2)):=by
 cases so with
 |none=>rfl
 |some l=>simp
theorem pJ {X:Option (List α×List UInt8)} {k:Nat} {done:List α} (hR:X=so.bind (fun l=>(bS f (k+1) l).map fun p=>(done++p.1,p.2))) (hq:fK f so a s2):
 X=s2.bind (fun l=>(bS f k l).map fun p=>((done++[a])++p.1,p.2)):=by
 rw[hR]
 cases so with
 |none=>
  cases s2 with
  |none=>rfl
  |some t=>cases hq
 |some l=>
  have hq:f l=s2.map fun t=>(a,t):=hq
  show(bS f (k+1) l).map _=_
  simp only[bS]
  rw[hq]
  cases s2 with
  |none=>rfl
  |some t=>
   simp only[Option.map_some,Option.bind_some,Option.map_map]
   cases bS f k t<;>simp
theorem Fsz {X:Option (List α×List UInt8)} {done:List α} (hR:X=so.bind (fun l=>(bS f 0 l).map fun p=>(done++p.1,p.2))):X=so.map fun t=>(done,t):=by
 rw[hR]
 cases so with
 |none=>rfl
 |some l=>simp[bS]
theorem yI (hf:Le f):∀(n:Nat) (l:List UInt8) (a:List α) (t:List UInt8),bS f n l=some (a,t)→t.length≤l.length
 |0,l,a,t,h=>by simp only[bS,Option.some.injEq,Prod.mk.injEq] at h;rw[←h.2];exact Nat.le_refl _
 |n+1,l,a,t,h=>by
  simp only[bS] at h
  obtain⟨p,h1,h2⟩:=Option.bind_eq_some_iff.1 h
  obtain⟨q,h3,h4⟩:=Option.map_eq_some_iff.1 h2
  simp only[Prod.mk.injEq] at h4
  have:=yI hf n p.2 q.1 q.2 h3
  have:=hf l p.1 p.2 h1
  rw[←h4.2]
  omega
theorem lL:Lt eJ:=fun l a t h=>by
 have h1:=(gd h).1
 have h2:=qC a
 rw[h1,List.length_append]
 omega
theorem eO:Lt jy:=fun l a t h=>by
 unfold jy at h
 obtain⟨p,h1,h2⟩:=Option.map_eq_some_iff.1 h
 have:=lL l p.1 p.2 h1
 simp only[Prod.mk.injEq] at h2
 rw[←h2.2]
 exact this
theorem tM:Lt jb:=fun l q t h=>by
 obtain⟨b,n,m⟩:=q
 have:=(Er h).1
 rw[this,List.length_append]
 have h1:1≤(om b n m).length:=by simp only[om,List.length_append,List.length_cons,List.length_nil];omega
 omega
theorem Ab {st:Option (List UInt8)} {n:Int} {t:List UInt8} (h:fK jy st n (some t)):lK n:=by
 obtain⟨l,_,h⟩:=h.some
 unfold jy at h
 obtain⟨p,h1,h2⟩:=Option.map_eq_some_iff.1 h
 have:=(gd h1).2
 simp only[Prod.mk.injEq] at h2
 rw[←h2.1]
 unfold uz lK
 split<;>omega
end
end Go.Rl
namespace Go.Rl
open Go.RowKit
structure cg where
 kd:Int
 ix:Int
 lo:Int
 hi:Int
 co:fj
structure dI where
 un:Int
 up:Bool
 va:fj
 pf:List cg
structure bV where
 kd:Int
 ix:Int
 at_:fj
inductive aZ where
 |mk (lems:List dI) (split:bV) (kids:List aZ) (empty:Bool) (pf:List cg)
def KH:fj:=(false,[],[])
def lq:bV:=⟨0,0,KH⟩
def aZ.lems:aZ→List dI|.mk l _ _ _ _=>l
def aZ.split:aZ→bV|.mk _ s _ _ _=>s
def aZ.kids:aZ→List aZ|.mk _ _ k _ _=>k
def aZ.empty:aZ→Bool|.mk _ _ _ e _=>e
def aZ.pf:aZ→List cg|.mk _ _ _ _ p=>p
def bK (m:cg):Dt:=.st [.st [qt m.kd,qt m.ix,qt m.lo,qt m.hi],iX m.co]
def gV (l:List cg):Dt:=.sl (l.map bK)
def cV (l:dI):Dt:=.st [qt l.un,.bool l.up,iX l.va,gV l.pf]
def dm (d:bV):Dt:=.st [qt d.kd,qt d.ix,iX d.at_]
mutual
def bH:aZ→Dt
 |.mk lems sp kids em pf=>.st [.sl (lems.map cV),dm sp,.sl (Ac kids),.bool em,gV pf]
def Ac:List aZ→List Dt
 |[]=>[]
 |n::l=>bH n::Ac l
end
theorem kT:∀l:List aZ,Ac l=l.map bH
 |[]=>rfl
 |n::l=>by simp only[Ac,List.map_cons,kT l]
def fG (d:bV):List UInt8:=dt d.kd++dt d.ix++gj d.at_
def fg (m:cg):List UInt8:=dt m.kd++dt m.ix++dt m.lo++dt m.hi++gj m.co
def iY (l:List cg):List UInt8:=uv l.length++l.flatMap fg
def wv (b:Bool):List UInt8:=if b=true then[1] else[0]
def dY (l:dI):List UInt8:=dt l.un++wv l.up++gj l.va++iY l.pf
def eu (l:List dI):List UInt8:=uv l.length++l.flatMap dY
mutual
def dF:aZ→List UInt8
 |.mk lems _ [] em pf=>wv em++eu lems++iY pf
 |.mk lems sp (k::ks) _ _=>[2]++eu lems++fG sp++ww (k::ks)
def ww:List aZ→List UInt8
 |[]=>[]
 |n::l=>dF n++ww l
end
theorem wB:∀l:List aZ,ww l=l.flatMap dF
 |[]=>rfl
 |n::l=>by simp only[ww,List.flatMap_cons,wB l]
def jW (most:Nat) (l:List UInt8):Option (Nat×List UInt8):=(eJ l).bind fun p=>if p.1≤most then some p else none
def oh (l:List UInt8):Option (bV×List UInt8):=(jy l).bind fun a=>(jy a.2).bind fun b=>(jb b.2).bind fun c=>some (⟨a.1,b.1,c.1⟩,c.2)
def ri (l:List UInt8):Option (cg×List UInt8):=(jy l).bind fun a=>(jy a.2).bind fun b=>(jy b.2).bind fun c=>(jy c.2).bind fun d=>(jb d.2).bind fun e=>some (⟨a.1,b.1,c.1,d.1,e.1⟩,e.2)
def BJ:List UInt8→Option (List cg×List UInt8):=dn ri
def bW (n:Nat):Bool:=decide (n=1)
def nA (l:List UInt8):Option (dI×List UInt8):=(jy l).bind fun a=>(jW 1 a.2).bind fun b=>(jb b.2).bind fun c=>(BJ c.2).bind fun d=>some (⟨a.1,bW b.1,c.1,d.1⟩,d.2)
def jc:List UInt8→Option (List dI×List UInt8):=dn nA
def qm:Nat→List UInt8→Option (aZ×List UInt8)
 |0,_=>none
 |n+1,l=>(jW 2 l).bind fun a=>(jc a.2).bind fun b=>
   if a.1<2 then(BJ b.2).bind fun c=>some (.mk b.1 lq [] (decide (a.1=1)) c.1,c.2)
   else(oh b.2).bind fun c=>(qm n c.2).bind fun d=>(qm n d.2).bind fun e=>some (.mk b.1 c.1 [d.1,e.1] false [],e.2)
def gW (l:List UInt8):Option (aZ×List UInt8):=qm l.length l
section
variable {α β:Type}
theorem Le.bind {f:List UInt8→Option (α×List UInt8)} {g:α×List UInt8→Option (β×List UInt8)} (hf:Le f) (hg:∀p b t,g p=some (b,t)→t.length≤p.2.length):Le (fun l=>(f l).bind g):=fun l b t h=>by
 obtain⟨p,h1,h2⟩:=Option.bind_eq_some_iff.1 h
 exact Nat.le_trans (hg p b t h2) (hf l p.1 p.2 h1)
theorem Lt.bind {f:List UInt8→Option (α×List UInt8)} {g:α×List UInt8→Option (β×List UInt8)} (hf:Lt f) (hg:∀p b t,g p=some (b,t)→t.length≤p.2.length):Lt (fun l=>(f l).bind g):=fun l b t h=>by
 obtain⟨p,h1,h2⟩:=Option.bind_eq_some_iff.1 h
 have:=hg p b t h2
 have:=hf l p.1 p.2 h1
 omega
end
theorem gf {α β:Type} {f:List UInt8→Option (α×List UInt8)} (hf:Le f) {l:List UInt8} {g:α×List UInt8→Option (β×List UInt8)} {b:β} {t:List UInt8} (h:(f l).bind g=some (b,t)) (hg:∀p b t,g p=some (b,t)→t.length≤p.2.length):t.length≤l.length:=Le.bind hf hg l b t h
theorem sI {β:Type} {b b':β} {t t':List UInt8} (h:some (b',t')=some (b,t)):t.length≤t'.length:=by
 simp only[Option.some.injEq,Prod.mk.injEq] at h
 rw[h.2]
 exact Nat.le_refl _
theorem rj (k:Nat):Lt (jW k):=fun l a t h=>by
 unfold jW at h
 obtain⟨p,h1,h2⟩:=Option.bind_eq_some_iff.1 h
 split at h2
 ·simp only[Option.some.injEq] at h2
  subst h2
  exact lL l _ _ h1
 ·cases h2
theorem nB:Lt oh:=Lt.bind eO fun _ _ _ h=>gf eO.le h fun _ _ _ h=>gf tM.le h fun _ _ _ h=>sI h
theorem Ad:Lt ri:=Lt.bind eO fun _ _ _ h=>gf eO.le h fun _ _ _ h=>gf eO.le h fun _ _ _ h=>gf eO.le h fun _ _ _ h=>gf tM.le h fun _ _ _ h=>sI h
theorem tN {α:Type} {f:List UInt8→Option (α×List UInt8)} (hf:Le f):Lt (dn f):=fun l a t h=>by
 unfold dn at h
 obtain⟨p,h1,h2⟩:=Option.bind_eq_some_iff.1 h
 have:=yI hf p.1 p.2 a t h2
 have:=lL l p.1 p.2 h1
 omega
theorem Hw:Lt BJ:=tN Ad.le
theorem Ae:Lt nA:=Lt.bind eO fun _ _ _ h=>gf (rj 1).le h fun _ _ _ h=>gf tM.le h fun _ _ _ h=>gf Hw.le h fun _ _ _ h=>sI h
theorem sJ:Lt jc:=tN Ae.le
theorem pL:∀n,Lt (qm n)
 |0=>fun l a t h=>by simp[qm] at h
 |n+1=>fun l a t h=>by
  refine(Lt.bind (rj 2) fun p b t h=>?_) l a t (show((jW 2 l).bind _)=_ from h)
  refine gf sJ.le h fun q b t h=>?_
  split at h
  ·exact gf Hw.le h fun _ _ _ h=>sI h
  ·exact gf nB.le h fun _ _ _ h=>gf (pL n).le h fun _ _ _ h=>gf (pL n).le h fun _ _ _ h=>sI h
theorem pO:∀(n m:Nat) (l:List UInt8),l.length≤n→n≤m→qm m l=qm n l
 |0,0,_,_,_=>rfl
 |0,m+1,l,hl,_=>by
  have:l=[]:=List.eq_nil_of_length_eq_zero (by omega)
  subst this
  rfl
 |n+1,0,_,_,h=>by omega
 |n+1,m+1,l,hl,hm=>by
  simp only[qm]
  cases h1:jW 2 l with
  |none=>rfl
  |some a=>
   simp only[Option.bind_some]
   cases h2:jc a.2 with
   |none=>rfl
   |some b=>
    simp only[Option.bind_some]
    split
    ·rfl
    ·cases h3:oh b.2 with
     |none=>rfl
     |some c=>
      simp only[Option.bind_some]
      have a1:=rj 2 l _ _ h1
      have a2:=sJ _ _ _ h2
      have a3:=nB _ _ _ h3
      rw[pO n m c.2 (by omega) (by omega)]
      cases h4:qm n c.2 with
      |none=>rfl
      |some d=>
       simp only[Option.bind_some]
       have a4:=pL n _ _ _ h4
       rw[pO n m d.2 (by omega) (by omega)]
theorem Es:Lt gW:=fun l a t h=>pL l.length l a t h
theorem pQ (l:List UInt8):gW l=(jW 2 l).bind fun a=>(jc a.2).bind fun b=>
 if a.1<2 then(BJ b.2).bind fun c=>some (.mk b.1 lq [] (decide (a.1=1)) c.1,c.2)
 else(oh b.2).bind fun c=>(gW c.2).bind fun d=>(gW d.2).bind fun e=>some (.mk b.1 c.1 [d.1,e.1] false [],e.2):=by
 unfold gW
 cases l with
 |nil=>rfl
 |cons x l=>
  show qm (l.length+1) (x::l)=_
  simp only[qm]
  cases h1:jW 2 (x::l) with
  |none=>rfl
  |some a=>
   simp only[Option.bind_some]
   cases h2:jc a.2 with
   |none=>rfl
   |some b=>
    simp only[Option.bind_some]
    split
    ·rfl
    ·cases h3:oh b.2 with
     |none=>rfl
     |some c=>
      simp only[Option.bind_some]
      have a1:=rj 2 _ _ _ h1
      have a2:=sJ _ _ _ h2
      have a3:=nB _ _ _ h3
      simp only[List.length_cons] at a1
      rw[pO c.2.length l.length c.2 (Nat.le_refl _) (by omega)]
      cases h4:qm c.2.length c.2 with
      |none=>rfl
      |some d=>
       simp only[Option.bind_some]
       have a4:=pL _ _ _ _ h4
       rw[pO d.2.length l.length d.2 (Nat.le_refl _) (by omega)]
end Go.Rl
namespace Go.Rl
open Go.RowKit
theorem fK.bindE {α β:Type} {f:List UInt8→Option (α×List UInt8)} {st s1:Option (List UInt8)} {a:α} (h:fK f st a s1) (F:α×List UInt8→Option (β×List UInt8)):st.bind (fun l=>(f l).bind F)=s1.bind fun t=>F (a,t):=by
 cases st with
 |none=>
  cases s1 with
  |none=>rfl
  |some t=>cases h
 |some l=>
  have h:f l=s1.map fun t=>(a,t):=h
  show(f l).bind F=_
  rw[h]
  cases s1<;>rfl
theorem mK {β:Type} {s:Option (List UInt8)} {b:β}:(s.bind fun t=>some (b,t))=s.map fun t=>(b,t):=by cases s<;>rfl
section
variable {st s1 s2 s3 s4 s5:Option (List UInt8)}
theorem FT {a b:Int} {q:fj} (h1:fK jy st a s1) (h2:fK jy s1 b s2) (h3:fK jb s2 q s3):fK oh st ⟨a,b,q⟩ s3:=by
 refine(h1.bindE _).trans ?_
 dsimp only
 refine(h2.bindE _).trans ?_
 dsimp only
 refine(h3.bindE _).trans ?_
 dsimp only
 exact mK
theorem wF {a b c d:Int} {q:fj} (h1:fK jy st a s1) (h2:fK jy s1 b s2) (h3:fK jy s2 c s3) (h4:fK jy s3 d s4) (h5:fK jb s4 q s5):fK ri st ⟨a,b,c,d,q⟩ s5:=by
 refine(h1.bindE _).trans ?_
 dsimp only
 refine(h2.bindE _).trans ?_
 dsimp only
 refine(h3.bindE _).trans ?_
 dsimp only
 refine(h4.bindE _).trans ?_
 dsimp only
 refine(h5.bindE _).trans ?_
 dsimp only
 exact mK
theorem Da {a:Int} {n:Nat} {q:fj} {ps:List cg} (h1:fK jy st a s1) (h2:fK (jW 1) s1 n s2) (h3:fK jb s2 q s3) (h4:fK BJ s3 ps s4):fK nA st ⟨a,bW n,q,ps⟩ s4:=by
 refine(h1.bindE _).trans ?_
 dsimp only
 refine(h2.bindE _).trans ?_
 dsimp only
 refine(h3.bindE _).trans ?_
 dsimp only
 refine(h4.bindE _).trans ?_
 dsimp only
 exact mK
def nC (k:Nat) (ls:List dI) (l:List UInt8):Option (aZ×List UInt8):=
 if k<2 then(BJ l).bind fun c=>some (.mk ls lq [] (decide (k=1)) c.1,c.2)
 else(oh l).bind fun c=>(gW c.2).bind fun d=>(gW d.2).bind fun e=>some (.mk ls c.1 [d.1,e.1] false [],e.2)
theorem jF:gW=fun l=>(jW 2 l).bind fun a=>(jc a.2).bind fun b=>nC a.1 b.1 b.2:=funext pQ
theorem uC {k:Nat} (h:k<2) (ls:List dI):nC k ls=fun l=>(BJ l).bind fun c=>some (.mk ls lq [] (decide (k=1)) c.1,c.2):=funext fun _=>if_pos h
theorem kj {k:Nat} (h:¬k<2) (ls:List dI):nC k ls=fun l=>(oh l).bind fun c=>(gW c.2).bind fun d=>(gW d.2).bind fun e=>some (.mk ls c.1 [d.1,e.1] false [],e.2):=funext fun _=>if_neg h
theorem FU {n:Nat} {ls:List dI} {ps:List cg} (hn:n<2) (h1:fK (jW 2) st n s1) (h2:fK jc s1 ls s2) (h3:fK BJ s2 ps s3):fK gW st (.mk ls lq [] (decide (n=1)) ps) s3:=by
 unfold fK
 rw[jF]
 refine(h1.bindE _).trans ?_
 dsimp only
 refine(h2.bindE _).trans ?_
 dsimp only
 show Option.bind s2 (nC _ _)=_
 rw[uC hn]
 refine(h3.bindE _).trans ?_
 dsimp only
 exact mK
theorem Db {n:Nat} {ls:List dI} {d:bV} {a b:aZ} (hn:¬n<2) (h1:fK (jW 2) st n s1) (h2:fK jc s1 ls s2) (h3:fK oh s2 d s3) (h4:fK gW s3 a s4) (h5:fK gW s4 b s5):fK gW st (.mk ls d [a,b] false []) s5:=by
 unfold fK
 rw[jF]
 refine(h1.bindE _).trans ?_
 dsimp only
 refine(h2.bindE _).trans ?_
 dsimp only
 show Option.bind s2 (nC _ _)=_
 rw[kj hn]
 refine(h3.bindE _).trans ?_
 dsimp only
 refine(h4.bindE _).trans ?_
 dsimp only
 refine(h5.bindE _).trans ?_
 dsimp only
 exact mK
variable {α:Type} {f:List UInt8→Option (α×List UInt8)} {a:α}
theorem lB {β:Type} {g:List UInt8→Option (β×List UInt8)} {F:β×List UInt8→Option (α×List UInt8)} (h:st.bind g=none):st.bind (fun l=>(g l).bind F)=none:=by
 cases st with
 |none=>rfl
 |some l=>have h:g l=none:=h;show(g l).bind F=none;rw[h];rfl
theorem Hx (h:st.bind (jW 2)=none):st.bind gW=none:=by rw[jF];exact lB h
theorem wG {n:Nat} (h1:fK (jW 2) st n s1) (h:s1.bind jc=none):st.bind gW=none:=by
 rw[jF]
 refine(h1.bindE _).trans ?_
 dsimp only
 exact lB h
theorem Hy {n:Nat} {ls:List dI} (hn:n<2) (h1:fK (jW 2) st n s1) (h2:fK jc s1 ls s2) (h:s2.bind BJ=none):st.bind gW=none:=by
 rw[jF]
 refine(h1.bindE _).trans ?_
 dsimp only
 refine(h2.bindE _).trans ?_
 dsimp only
 show Option.bind s2 (nC _ _)=_
 rw[uC hn]
 exact lB h
theorem Hz {n:Nat} {ls:List dI} (hn:¬n<2) (h1:fK (jW 2) st n s1) (h2:fK jc s1 ls s2) (h:s2.bind oh=none):st.bind gW=none:=by
 rw[jF]
 refine(h1.bindE _).trans ?_
 dsimp only
 refine(h2.bindE _).trans ?_
 dsimp only
 show Option.bind s2 (nC _ _)=_
 rw[kj hn]
 exact lB h
theorem HB {n:Nat} {ls:List dI} {d:bV} (hn:¬n<2) (h1:fK (jW 2) st n s1) (h2:fK jc s1 ls s2) (h3:fK oh s2 d s3) (h:s3.bind gW=none):st.bind gW=none:=by
 rw[jF]
 refine(h1.bindE _).trans ?_
 dsimp only
 refine(h2.bindE _).trans ?_
 dsimp only
 show Option.bind s2 (nC _ _)=_
 rw[kj hn]
 refine(h3.bindE _).trans ?_
 dsimp only
 exact lB h
theorem HD {n:Nat} {ls:List dI} {d:bV} {x:aZ} (hn:¬n<2) (h1:fK (jW 2) st n s1) (h2:fK jc s1 ls s2) (h3:fK oh s2 d s3) (h4:fK gW s3 x s4) (h:s4.bind gW=none):st.bind gW=none:=by
 rw[jF]
 refine(h1.bindE _).trans ?_
 dsimp only
 refine(h2.bindE _).trans ?_
 dsimp only
 show Option.bind s2 (nC _ _)=_
 rw[kj hn]
 refine(h3.bindE _).trans ?_
 dsimp only
 refine(h4.bindE _).trans ?_
 dsimp only
 exact lB h
theorem HE {n:Int} (h1:fK jy st n s1) (h:s1.bind (jW 1)=none):st.bind nA=none:=by
 refine(h1.bindE _).trans ?_
 dsimp only
 exact lB h
theorem HF {n:Int} {k:Nat} {q:fj} (h1:fK jy st n s1) (h2:fK (jW 1) s1 k s2) (h3:fK jb s2 q s3) (h:s3.bind BJ=none):st.bind nA=none:=by
 refine(h1.bindE _).trans ?_
 dsimp only
 refine(h2.bindE _).trans ?_
 dsimp only
 refine(h3.bindE _).trans ?_
 dsimp only
 exact lB h
theorem FV {X:Option (List α×List UInt8)} {so:Option (List UInt8)} {k:Nat} {done:List α} (hR:X=so.bind (fun l=>(bS f (k+1) l).map fun p=>(done++p.1,p.2))) (h:so.bind f=none):X=none:=by
 rw[hR]
 cases so with
 |none=>rfl
 |some l=>
  have h:f l=none:=h
  show(bS f (k+1) l).map _=none
  simp only[bS,h]
  rfl
theorem HG {n:Nat} {most:Nat} (h:fK eJ st n s1) (hn:n≤most):fK (jW most) st n s1:=by
 refine(h.bindE _).trans ?_
 cases s1 with
 |none=>rfl
 |some t=>exact if_pos hn
theorem KI {n:Nat} {most:Nat} (h:fK eJ st n s1) (hn:¬n≤most):st.bind (jW most)=none:=by
 refine(h.bindE _).trans ?_
 cases s1 with
 |none=>rfl
 |some t=>exact if_neg hn
end
end Go.Rl
namespace Go.Rl
open Go.RowKit
section
variable {P:Program} {ops:Array Oper} {Env:World→Prop} {Rl:World→World→Prop} {mo:Bool} {Pn:List PanicEntry→World→Prop} {N:Nat}
def Af (ops:Array Oper) (n:Nat):Bool:=
 (List.range ops.size).all fun t=>decide (t≤n)||(List.range t).any fun j=>decide (n≤j)&&Region.waitsFor .any ops t j
def wH (o:Oper):Bool:=o.guard.isNone&&o.dst.isSome&&match o.op with|.extract .. |.move _|.assign _=>true|_=>false
theorem FW {o:Oper} (h:wH o=true) (ρ:Operand→Value):(∃v,∀w,(execOp ρ o).run P w=.ok (.value v) w)∨∃x,(∀v,x≠.panic v)∧∀w,(execOp ρ o).run P w=.halt x w:=by
 obtain⟨dst,op,ty,pos,aft,g⟩:=o
 unfold wH at h
 simp only[Bool.and_eq_true] at h
 have h2:=h.2
 cases op<;>simp only[] at h2
 case move x=>exact .inl ⟨ρ x,fun w=>by simp[execOp]⟩
 case assign x=>exact .inl ⟨ρ x,fun w=>by simp[execOp]⟩
 case extract x n=>
  have e:execOp ρ ⟨dst,.extract x n,ty,pos,aft,g⟩=(do pure (Next.value (←Instr.extract (ρ x) n)):Sem Next):=rfl
  rw[e]
  cases hx:ρ x with
  |tuple vs=>
   cases hv:vs[n]? with
   |some v=>exact .inl ⟨v,fun w=>by simp[Instr.extract,hv]⟩
   |none=>exact .inr ⟨.stuck "Extract: no such component",fun v=>by simp,fun w=>by simp[Instr.extract,hv,stuck,Sem.run]⟩
  |_=>exact .inr ⟨.stuck "Extract: tuple expected",fun v=>by simp,fun w=>by simp[Instr.extract,stuck,Sem.run]⟩
 all_goals cases h2
def tO (ops:Array Oper):List Nat→Array Bool→Bool
 |[],listed=>(Region.ready .any ops listed).isEmpty
 |i::rest,listed=>(decide (Region.ready .any ops listed=[i])||((match ops[i]? with|some o=>wH o|none=>false)&&Region.free .any ops listed i&&(Region.ready .any ops listed).contains i))&&tO ops rest (listed.setIfInBounds i true)
theorem lN {Q:iR} (hsel:Region.noSelect ops=true):∀(perm:List Nat) (os:List Oper) (listed:Array Bool) (a:Act) (w:World),(perm.map fun i=>ops[i]?)=os.map some→tO ops perm listed=true→wpList P ops (oJ Q) os a w→wpAny P .any ops (oJ Q) perm.length listed a w
 |[],os,listed,a,w,ho,hB,h=>by
  have:os=[]:=by cases os with|nil=>rfl|cons o os=>simp at ho
  subst this
  exact⟨by simpa [tO] using hB,h⟩
 |i::perm,os,listed,a,w,ho,hB,h=>by
  cases os with
  |nil=>simp at ho
  |cons o os=>
   simp only[List.map_cons,List.cons.injEq] at ho
   obtain⟨h0,ho⟩:=ho
   simp only[tO,Bool.and_eq_true,Bool.or_eq_true,decide_eq_true_eq] at hB
   obtain⟨hB1,hB2⟩:=hB
   have nolet:¬LetsOut (oJ Q):=fun⟨_,_,hq⟩=>by obtain⟨hq,_⟩:=hq;cases hq
   rcases hB1 with hr|⟨⟨hq,hf⟩,hr⟩
   ·refine⟨fun h1=>(by rw[hr] at h1;cases h1),fun k hk=>?_⟩
    rw[hr] at hk
    have hik:k=i:=by simpa using hk
    subst hik
    have hw:wpOp P ops (oJ Q) k (wpList P ops (oJ Q) os) a w:=by unfold wpOp;simp only[h0];exact h
    exact wpOp_mono (fun a' w' h'=>lN hsel perm os _ a' w' ho hB2 h') hw
   ·rw[h0] at hq
    have hq:wH o=true:=hq
    have hwant:Region.wanted o (yielded ops a.tmps)=true:=by
     unfold wH at hq
     simp only[Bool.and_eq_true,Option.isNone_iff_eq_none] at hq
     unfold Region.wanted
     rw[hq.1.1]
    unfold wpList at h
    rw[if_pos hwant] at h
    have h:=h.resolve_right fun h=>nolet h.2
    unfold Oper.wp at h
    rcases FW (P:=P) hq a.eval with⟨v,hv⟩|⟨x,hx,hv⟩
    ·rw[hv w] at h
     exact wpAny_take h0 hsel hf hr (fun c a w hp=>by obtain⟨hp,_⟩:=hp;cases hp) (.inl ⟨hwant,hv⟩) (lN hsel perm os _ _ w ho hB2 h)
    ·rw[hv w] at h
     cases x<;>first|exact absurd rfl (hx _)|exact h.elim
def oX (ops:Array Oper) (n:Nat) (perm:List Nat):Nat→Nat→Array Bool→Bool
 |0,_,listed=>tO ops perm listed&&(Region.ready .any ops listed).all fun j=>decide (n≤j)
 |f+1,k,listed=>(Region.ready .any ops listed).contains k&&Region.free .any ops listed k&&oX ops n perm f (k+1) (listed.setIfInBounds k true)
def Dc (os:List Oper):List Nat→List Oper
 |[]=>[]
 |i::is=>match os[i]? with|some o=>o::Dc os is|none=>Dc os is
theorem Ag {Q:iR} {D:List Deferred} {l:Fr} {w:World} (h:iD Q N D l w):iD (oJ Q) N D l w:=fun a ha=>⟨rfl,h a ha⟩
end
end Go.Rl
namespace Go.Rl
open Go.RowKit
end Go.Rl
namespace Go.Rl
open Go.RowKit Go.Proofs
def Et (l:List Value) (o:Nat) (m:List Value):List Value:=l.take o++m++l.drop (o+m.length)
section
variable {P:Program} {w w1 w':World} {T TB t:TypeId} {g gB i o:Nat} {l m cs:List Value} {v:Value} {st s1:Option (List UInt8)}
theorem cr.stO (h:cr g T l w) (o:Nat) (hl:o+m.length≤l.length) (hi:(P.info? t).map (·.size)=some m.length) (h1:aw m):
 ∃w',(Instr.storeAt t (.pointer (some ⟨g,o,none⟩)) (.agg m.toArray)).run P w=.ok () w'∧w.grownBy w' (some g)∧cr g T (Et l o m) w':=by
 have h':w.heap[g]? =some (.cells l.toArray T (0,0)):=h
 have hr:=run_storeCells_at (P:=P) g o T m 0 l.toArray w h' (by simpa using hl) h1
 refine⟨_,?_,bP w g _,h.row (Et l o m)⟩
 simp only[Instr.storeAt,Instr.sureAddr,storeVar,Sem.run_bind,Sem.run_pure,Result.andThen_ok,fa hi]
 rw[if_neg (by simp[Value.cells])]
 simpa [Et,Value.cells] using hr
theorem eo.put (hB:cr gB TB cs w) (hg:w.grownBy w1 (some g)) (hr:eo T g s1 w1) (hne:g<gB) {i:Nat} (hs:(P.info? t).map (·.size)=some 1) (hv:v.oneCell'=true) (hi:i<cs.length):
 ∃w2,(Instr.storeAt t (.pointer (some ⟨gB,i,none⟩)) v).run P w1=.ok () w2∧Mv (fun k=>k=g∨k=gB) w w2∧cr gB TB (cs.set i v) w2∧eo T g s1 w2∧w1.grownBy w2 (some gB):=by
 have h1:=hB.other hg (fun e=>by have:=Option.some.inj e;omega)
 obtain⟨w2,h2,h3,h4⟩:=h1.stC (P:=P) (t:=t) (i:=i) (v:=v) hs hv hi
 have m2:Mv (fun k=>k=gB) w1 w2:=Mv.of_grown h3 fun k hk _=>(Option.some.inj hk).symm
 exact⟨w2,h2,(Mv.of_grown hg fun k hk _=>.inl (Option.some.inj hk).symm).trans m2 fun _ hn _=>.inr hn,h4,hr.mv m2 fun k hk=>by omega,h3⟩
theorem eo.putO (hB:cr gB TB cs w) (hg:w.grownBy w1 (some g)) (hr:eo T g s1 w1) (hne:g<gB) (o:Nat) (hl:o+m.length≤cs.length) (hi:(P.info? t).map (·.size)=some m.length) (h1:aw m):
 ∃w2,(Instr.storeAt t (.pointer (some ⟨gB,o,none⟩)) (.agg m.toArray)).run P w1=.ok () w2∧Mv (fun k=>k=g∨k=gB) w w2∧cr gB TB (Et cs o m) w2∧eo T g s1 w2∧w1.grownBy w2 (some gB):=by
 have hB1:=hB.other hg (fun e=>by have:=Option.some.inj e;omega)
 obtain⟨w2,h2,h3,h4⟩:=hB1.stO (P:=P) (t:=t) o hl hi h1
 have m2:Mv (fun k=>k=gB) w1 w2:=Mv.of_grown h3 fun k hk _=>(Option.some.inj hk).symm
 exact⟨w2,h2,(Mv.of_grown hg fun k hk _=>.inl (Option.some.inj hk).symm).trans m2 fun _ hn _=>.inr hn,h4,hr.mv m2 fun k hk=>by omega,h3⟩
end
end Go.Rl
namespace Go.Rl
open Go.RowKit Go.Proofs
theorem wI:(Tryz.prog.info? 4).map (·.size)=some 1:=by kernel_rfl
theorem qV.rpx {w:World} {b:Nat} {l:List UInt32} {v:Value} (h:bt l v w) (hn:qV b v):cL (fun k=>k<b) w (nj l) [v]:=by
 have h':Rp w (nj l) [v]:=Rp.wds.2 h
 unfold nj at h'⊢
 simp only[Rp] at h'
 obtain⟨A,n,c,hv,h2,h3,h4,h5,h6⟩:=h'
 obtain rfl:v=.slice A n c:=by simpa using hv
 simp only[cL]
 refine⟨A,n,c,rfl,h2,h3,h4,h5,fun hp=>?_⟩
 obtain⟨ad,xs,rfl,h8,h9⟩:=h6 hp
 refine⟨ad,xs,rfl,fun _ hb=>?_,h8,?_⟩
 ·have:=hn ad.block rfl
  omega
 ·have:∀(l:List UInt32) (ys:List Value),bD w (l.map zS) ys→aT (fun k=>k<b) w (l.map zS) ys:=by
   intro l
   induction l with
   |nil=>intro ys h;simpa only[List.map_nil,bD,aT] using h
   |cons a l ih=>
    intro ys h
    simp only[List.map_cons,bD,aT] at h⊢
    obtain⟨c1,c2,h1,h2,h3⟩:=h
    exact⟨c1,c2,h1,by simpa only[zS,Rp,cL] using h2,ih _ h3⟩
  exact this l xs h9
theorem qV.rpx' {w:World} {b:Nat} {l:List UInt32} {v:Value} (hn:qV b v) (h:bt l v w):cL (fun k=>k<b) w (nj l) [v]:=qV.rpx h hn
theorem kD.mv (X:Nat→Prop) (w:World):kD (Mv X w) (Mv X):=⟨fun _ _ h=>Mv.of_ext h,fun _ _ h k=>h.trans k fun _ hn _=>hn⟩
theorem nD {X:Nat→Prop} {w:World} (n:Int):cL X w (qt n) [I n]:=by simp only[qt,cL,I]
end Go.Rl
namespace Go.Rl
open Go.RowKit Go.Proofs
theorem wJ:aG Tryz.prog 132:=⟨_,Tryz.func132,by kernel_rfl,rfl⟩
theorem yJ:aG Tryz.prog 95:=⟨_,Tryz.func95,by kernel_rfl,rfl⟩
theorem uD:aG Tryz.prog 133:=⟨_,Tryz.func133,by kernel_rfl,rfl⟩
theorem wK:aG Tryz.prog 96:=⟨_,Tryz.func96,by kernel_rfl,rfl⟩
def RX (g:Nat):Nat→Prop:=fun k=>k=g
abbrev iL (st:Option (List UInt8)):Prop:=tL 549755813888 st
theorem Ah (st:Option (List UInt8)):∃n s1,fK eJ st n s1∧n<18446744073709551616∧∀{w:World} {g:Nat},cv g st w→Calls Tryz.prog 93 #[.pointer (some ⟨g,0,none⟩)] w (bE fun r w'=>w.grownBy w' (some g)∧r=.tuple #[bI (UInt64.ofNat n),I (if s1.isSome=true then 0 else 5)]∧cv g s1 w'):=by
 cases hU:st.bind eJ with
 |none=>exact⟨0,none,hU,by omega,fun hr=>nx hr hU⟩
 |some p=>
  obtain⟨n,t⟩:=p
  refine⟨n,some t,hU,?_,fun hr=>ny hr hU⟩
  cases st with
  |none=>cases hU
  |some l=>exact(gd (show eJ l=some (n,t) from hU)).2
theorem rk (st:Option (List UInt8)):∃n s1,fK jy st n s1∧lK n∧∀{w:World} {g:Nat},cv g st w→Calls Tryz.prog 130 #[.pointer (some ⟨g,0,none⟩)] w (bE fun r w'=>w.grownBy w' (some g)∧r=.tuple #[I n,I (if s1.isSome=true then 0 else 5)]∧cv g s1 w'):=by
 cases hU:st.bind eJ with
 |none=>
  refine⟨0,none,?_,by unfold lK;omega,fun hr=>bE.mono (yF hr) fun r w' h=>by rw[hU] at h;exact h⟩
  cases st with
  |none=>rfl
  |some l=>show(eJ l).map _=none;rw[show eJ l=none from hU];rfl
 |some p=>
  obtain⟨n,t⟩:=p
  have hI:fK jy st (uz n) (some t):=by
   cases st with
   |none=>cases hU
   |some l=>show(eJ l).map _=_;rw[show eJ l=some (n,t) from hU];rfl
  exact⟨uz n,some t,hI,Ab hI,fun hr=>bE.mono (yF hr) fun r w' h=>by rw[hU] at h;exact h⟩
theorem Dd {w:World} {g:Nat} {st:Option (List UInt8)} (hr:cv g st w) (hl:iL st):
 Calls Tryz.prog 131 #[.pointer (some ⟨g,0,none⟩)] w (bE fun r w'=>w.grownBy w' (some g)∧∃(q:fj) (x y:Value) (s1:Option (List UInt8)),r=.tuple #[.agg #[B q.1,x,y],I (if s1.isSome=true then 0 else 5)]∧bt q.2.1 x w'∧bt q.2.2 y w'∧cL (fun k=>k<w.heap.size) w' (iX q) [B q.1,x,y]∧cv g s1 w'∧fK jb st q s1):=by
 refine bE.mono (C7 hr hl) fun r w' hR=>⟨hR.1,?_⟩
 have h2:=hR.2
 have key:∀{q:fj} {x y:Value},cL (fun k=>k<w.heap.size) w' (nj q.2.1) [x]→cL (fun k=>k<w.heap.size) w' (nj q.2.2) [y]→cL (fun k=>k<w.heap.size) w' (iX q) [B q.1,x,y]:=fun {q x y} h1 h2=>by
  simp only[iX,cL]
  exact aT.cons (a:=[B q.1]) (by simp only[cL,B]) (aT.cons h1 (aT.cons (b:=[]) h2 aT.nil))
 cases hq:st.bind jb with
 |none=>
  rw[hq] at h2
  obtain⟨v,h3,⟨x,y,rfl,hx,hy⟩,h4⟩:=h2
  have hn:∀{z:Value},bt [] z w'→cL (fun k=>k<w.heap.size) w' (nj []) [z]:=fun {z} hz=>by
   obtain⟨A,n,c,rfl,h5,h6,h7,h8,h9⟩:=hz
   simp only[nj,List.map_nil,cL]
   have:n=0:=by simp at h7;omega
   subst this
   exact⟨A,0,c,rfl,rfl,h5,h6,h9,fun h=>by omega⟩
  exact⟨(false,[],[]),x,y,none,h3,hx,hy,key (hn hx) (hn hy),h4,hq⟩
 |some p=>
  obtain⟨q,t⟩:=p
  rw[hq] at h2
  obtain⟨x,y,h3,hx,hy,h4,n1,n2⟩:=h2
  exact⟨q,x,y,some t,h3,hx,hy,key (qV.rpx hx n1) (qV.rpx hy n2),h4,hq⟩
theorem LN {n m:Nat} (hn:n<18446744073709551616) (hm:m<18446744073709551616):UInt64.ofNat n≤UInt64.ofNat m↔n≤m:=by
 rw[UInt64.le_iff_toNat_le,UInt64.toNat_ofNat',UInt64.toNat_ofNat']
 omega
theorem De {w:World} {g n most:Nat} {st s1:Option (List UInt8)} (hn:n<18446744073709551616) (hm:most<18446744073709551616) (hr:cv g st w)
 (hc:Calls Tryz.prog 93 #[.pointer (some ⟨g,0,none⟩)] w (bE fun r w'=>w.grownBy w' (some g)∧r=.tuple #[bI (UInt64.ofNat n),I (if s1.isSome=true then 0 else 5)]∧cv g s1 w')):
 Calls Tryz.prog 132 #[.pointer (some ⟨g,0,none⟩),bI (UInt64.ofNat most)] w (bE fun r w'=>w.grownBy w' (some g)∧r=.tuple #[bI (UInt64.ofNat n),B (s1.isSome&&decide (n≤most))]∧cv g s1 w'):=by
 refine enter (vs:=[.pointer (some ⟨g,0,none⟩),bI (UInt64.ofNat most)]) Tryz.func132 E E E ?_
 refine af (aa (ac E E (ac E E (ag (ab (af (aa (ae E E (an fw E E (hc) ?_)))))))))
 rintro v10 w10 ⟨g10,rfl,hr1⟩
 have m10:=eo.kp hr g10
 refine ae E E (am E E (bj) (am E E (bk) (ac E E (ac E E (ag (ab (af ?_)))))))
 rcases s1 with _|t
 rotate_left
 by_cases hnm:n≤most
 ·refine aa (ae E E (ae E E (al E E E (cw E bi) (ae E E (ai E (ae E E (ai E (ae E E (ai E (al E E E (cw ((LN hn hm).2 hnm) py) ?_))))))))))
  refine ap E E E (ac E E (ac E E (ag (ab (au (a9 E E E ?_))))))
  exact⟨_,rfl,g10,by rw[decide_eq_true hnm];rfl,hr1⟩
 ·refine aa (ae E E (ae E E (al E E E (cw E bi) (ae E E (ai E (ae E E (ai E (ae E E (ai E (al E E E (cW (mt (LN hn hm).1 hnm) py) ?_))))))))))
  refine ap E E E (ac E E (ac E E (ag (ab (au (a9 E E E ?_))))))
  exact⟨_,rfl,g10,by rw[decide_eq_false hnm];rfl,hr1⟩
 ·refine aa (ae E E (ae E E (al E E E (cW (by simp) bi) (ae E E (ao E E E (ao E E E (ao E E E (aE E E E ?_))))))))
  refine ac E E (ac E E (ag (ab (au (a9 E E E ?_)))))
  exact⟨_,rfl,g10,rfl,hr1⟩
theorem yK (st:Option (List UInt8)) {most:Nat} (hm:most<18446744073709551616):∃(n:Nat) (s1:Option (List UInt8)) (ok:Bool),(ok=true→fK (jW most) st n s1∧s1≠none)∧(ok=false→st.bind (jW most)=none)∧n<18446744073709551616∧(∀k,tL k st→tL k s1)∧∀{w:World} {g:Nat},cv g st w→
 Calls Tryz.prog 132 #[.pointer (some ⟨g,0,none⟩),bI (UInt64.ofNat most)] w (bE fun r w'=>w.grownBy w' (some g)∧r=.tuple #[bI (UInt64.ofNat n),B ok]∧cv g s1 w'):=by
 obtain⟨n,s1,h1,h2,h3⟩:=Ah st
 refine⟨n,s1,s1.isSome&&decide (n≤most),fun h=>?_,fun h=>?_,h2,fun k hk=>h1.atM lL.le hk,fun hr=>De h2 hm hr (h3 hr)⟩
 ·simp only[Bool.and_eq_true,decide_eq_true_eq] at h
  exact⟨HG h1 h.2,fun e=>by rw[e] at h;cases h.1⟩
 ·rcases Nat.lt_or_ge most n with hn|hn
  ·exact KI h1 (by omega)
  ·rw[decide_eq_true hn,Bool.and_true] at h
   have:s1=none:=by cases s1 with|none=>rfl|some t=>cases h
   subst this
   exact(HG h1 hn)
theorem wO {X:Nat→Prop} {w:World} {d:bV} {x y:Value} (h:cL X w (iX d.at_) [B d.at_.1,x,y]):cL X w (dm d) [I d.kd,I d.ix,B d.at_.1,x,y]:=by
 unfold dm
 simp only[cL.eq_5]
 exact aT.cons (a:=[I d.kd]) (nD _) (aT.cons (a:=[I d.ix]) (nD _) (aT.cons (b:=[]) h aT.nil))
theorem Ai {P:Program} {w:World} {t:TypeId} {x y:Operand} {s:Option (List UInt8)}:(bin .eql t x y (I (if s.isSome=true then 0 else 5)) (I 0)).run P w=.ok (B s.isSome) w:=by
 cases s<;>exact bi
theorem yL {w:World} {g:Nat} {st:Option (List UInt8)} (hr:cv g st w) (hl:iL st):
 Calls Tryz.prog 95 #[.pointer (some ⟨g,0,none⟩)] w (bE fun r w'=>Mv (RX g) w w'∧∃(d:bV) (x y:Value) (s1:Option (List UInt8)),r=.tuple #[.agg #[I d.kd,I d.ix,B d.at_.1,x,y],B s1.isSome]∧cL (fun k=>k<w.heap.size) w' (dm d) [I d.kd,I d.ix,B d.at_.1,x,y]∧x.oneCell'=true∧y.oneCell'=true∧cv g s1 w'∧fK oh st d s1):=by
 refine enter (vs:=[.pointer (some ⟨g,0,none⟩)]) Tryz.func95 E E E ?_
 have hlt:=cv.lt hr
 obtain⟨n1,s1,q1,i1,c1⟩:=rk st
 obtain⟨n2,s2,q2,i2,c2⟩:=rk s1
 refine af (aa ?_)
 obtain⟨g2,w2,hr2,l2,x2,k2⟩:=aX (P:=Tryz.prog) (w:=w) (t:=48) (z:=.agg #[I 0,I 0,B false,.slice none 0 0,.slice none 0 0]) (l:=[I 0,I 0,B false,.slice none 0 0,.slice none 0 0]) (by kernel_rfl) rfl
 refine aV E hr2 (ac E E (ag (ab (af (aa ?_)))))
 obtain⟨g4,w4,hr4,l4,x4,k4⟩:=aX (P:=Tryz.prog) (w:=w2) (t:=48) (z:=.agg #[I 0,I 0,B false,.slice none 0 0,.slice none 0 0]) (l:=[I 0,I 0,B false,.slice none 0 0,.slice none 0 0]) (by kernel_rfl) rfl
 refine aV E hr4 ?_
 have hr4:=cv.ext hr (x2.trans x4)
 have g42:g2<g4:=by have:=k2.lt;omega
 have hg4:g<g4:=by have:=x2.size;omega
 have lt4:=k4.lt
 have sz4:=((x2.trans x4)).size
 have k24:=k2.ext x4
 refine ag (ab (af (aa (ae E E (an jk E E ((c1 hr4)) ?_)))))
 rintro v9 w9 ⟨g9,rfl,hr9⟩
 have m9:=eo.kp hr4 g9
 obtain⟨wa,sa,ma,ka,ra,_⟩:=eo.put (P:=Tryz.prog) (t:=3) (v:=I n1) k4 g9 hr9 hg4 (i:=0) gu rfl (by simp)
 refine ae E E (am E E (bj) (am E E bk ?_))
 refine ah E E (ar (o:=0) Ma E (by kernel_rfl) E) ?_
 refine aq E E sa ?_
 refine ag (ab (af (aa (ae E E (an jk E E ((c2 ra)) ?_)))))
 rintro v15 w15 ⟨g15,rfl,hr15⟩
 have m15:=eo.kp ra g15
 obtain⟨wb,sb,mb,kb,rb,_⟩:=eo.put (P:=Tryz.prog) (t:=3) (v:=I n2) ka g15 hr15 hg4 (i:=1) gu rfl (by simp)
 refine ae E E (am E E (bj) (am E E bk ?_))
 refine ah E E (ar (o:=1) Ma E (by kernel_rfl) E) ?_
 refine aq E E sb ?_
 refine ag (ab (af (aa (ae E E (an tI E E ((Dd rb (q2.atM eO.le (q1.atM eO.le hl)))) ?_)))))
 rintro v21 w21 ⟨g21,q,x,y,s3,rfl,hx,hy,rq,hr21,q3⟩
 have m21:=eo.kp rb g21
 refine ae E E (am E E (bj) (am E E (bk) ?_))
 obtain⟨g5,w5,hr5,l5,x5,k5⟩:=aX (P:=Tryz.prog) (w:=w21) (t:=46) (z:=.agg #[B false,.slice none 0 0,.slice none 0 0]) (l:=[B false,.slice none 0 0,.slice none 0 0]) (by kernel_rfl) rfl
 refine aV E hr5 ?_
 obtain⟨w4_6,s4_6,q4_6,k4_6⟩:=k5.stS (P:=Tryz.prog) (t:=46) (m:=[B q.1,x,y]) rfl (by kernel_rfl) (aw.cons rfl (aw.cons hx.one (aw.cons hy.one aw.nil)))
 refine aq E E s4_6 ?_
 have x4_6:=aN.of_new (x5) q4_6 l5
 refine ac E E (ag (ab (af (aa (ak E E (k4_6.ld L9 E (by kernel_rfl)) (ah E E (ar (o:=2) Ma E (by kernel_rfl) E) ?_))))))
 have ex:=x4_6
 obtain⟨wc,sc,mc,kc,rc,qc⟩:=eo.putO (P:=Tryz.prog) (t:=46) (m:=[B q.1,x,y]) kb (g21.trans (dK ex)) (cv.ext hr21 ex) hg4 2 (by simp) (by kernel_rfl) (aw.cons rfl (aw.cons hx.one (aw.cons hy.one aw.nil)))
 have lb:w4.heap.size≤wb.heap.size:=Nat.le_trans ma.size mb.size
 have rqc:=rq.mv ((Mv.of_ext ex).trans (Mv.of_grown qc fun k hk _=>by obtain rfl:=Option.some.inj hk;show g4<wb.heap.size;omega) fun _ hn _=>hn) fun _ hk=>.inl hk
 refine aq E E sc ?_
 have mT:Mv (fun k=>k=g∨k=g4) w4 wc:=(ma.trans mb fun _ hn _=>hn).trans mc fun _ hn _=>hn
 have k2c:=mT.blk k24 (by rintro(h|h)<;>omega)
 have kc:cr g4 48 [I n1,I n2,B q.1,x,y] wc:=kc
 refine ag (ab (af (aa (ak E E (kc.ld Ma E (by kernel_rfl)) (ae E E (al (r:=B s3.isSome) E E E (Ai) ?_))))))
 obtain⟨wd,sd,qd,kd⟩:=k2c.stS (P:=Tryz.prog) (t:=48) (m:=[I n1,I n2,B q.1,x,y]) rfl (by kernel_rfl) (aw.cons rfl (aw.cons rfl (aw.cons rfl (aw.cons hx.one (aw.cons hy.one aw.nil)))))
 have md:Mv (fun k=>k=g2) wc wd:=Mv.of_grown qd fun k hk _=>(Option.some.inj hk).symm
 refine aq E E sd ?_
 refine ac E E (ag (ab (au ?_)))
 refine cz E E E kd Ma E (by kernel_rfl) ?_
 exact⟨_,rfl,((Mv.of_ext (x2.trans x4)).trans mT fun j hj hlt=>by
  rcases hj with hj|hj
  ·exact hj
  ·omega).trans md fun j hj hlt=>by omega,⟨n1,n2,q⟩,x,y,s3,rfl,wO (d:=⟨n1,n2,q⟩) (rqc.mv (md.weak fun j hj _=>by show j<wb.heap.size;omega) fun j hj=>.inl (by omega)),hx.one,hy.one,rc.mv md fun j hj=>by omega,FT q1 q2 q3⟩
theorem IN {n m:Nat} (hn:n<18446744073709551616) (hm:m<18446744073709551616):UInt64.ofNat n<UInt64.ofNat m↔n<m:=by
 rw[UInt64.lt_iff_toNat_lt,UInt64.toNat_ofNat',UInt64.toNat_ofNat']
 omega
theorem mO {P:Program} {w:World} {s d:TypeId} {k:IntKind} (hs:P.underlying s=some (.int k)) {n:Nat} (hd:P.underlying d=some (.int .u64)):(convert s d (I (n:Int))).run P w=.ok (bI (UInt64.ofNat n)) w:=by
 rw[rX hs hd]
 have:UInt64.ofInt (n:Int)=UInt64.ofNat n:=UInt64.toNat_inj.1 (by rw[lA,UInt64.toNat_ofNat'];omega)
 rw[this]
theorem tP {α:Type} {f:List UInt8→Option (α×List UInt8)} {st s1 so:Option (List UInt8)} {N:Nat} {done:List α} (hU:fK eJ st N s1) (hR:s1.bind (bS f N)=so.bind (fun l=>(bS f 0 l).map fun p=>(done++p.1,p.2))):fK (dn f) st done so:=
 (hU.bindE (fun p=>bS f p.1 p.2)).trans (Fsz hR)
theorem tQ {α:Type} {f:List UInt8→Option (α×List UInt8)} {st s1:Option (List UInt8)} {N:Nat} {done:List α} (hU:fK eJ st N s1) (hR:s1.bind (bS f N)=none):fK (dn f) st done none:=
 (hU.bindE (fun p=>bS f p.1 p.2)).trans hR
theorem tR:(Tryz.prog.info? 187).map (fun i=>(i.zero,i.size,i.bytes))=some (some (.agg #[I 0,I 0,I 0,I 0,B false,.slice none 0 0,.slice none 0 0]),7,88):=by kernel_rfl
theorem dB (m:cg):(bK m).size=7:=by simp[bK,qt,iX,nj,Dt.size,Dt.sizeAll]
theorem yM {X:Nat→Prop} {w:World} {m:cg} {x y:Value} (h:cL X w (iX m.co) [B m.co.1,x,y]):cL X w (bK m) [I m.kd,I m.ix,I m.lo,I m.hi,B m.co.1,x,y]:=by
 unfold bK
 simp only[cL.eq_5]
 exact aT.cons (a:=[I m.kd,I m.ix,I m.lo,I m.hi]) (by
  simp only[cL.eq_5]
  exact aT.cons (a:=[I m.kd]) (nD _) (aT.cons (a:=[I m.ix]) (nD _) (aT.cons (a:=[I m.lo]) (nD _) (aT.cons (a:=[I m.hi]) (b:=[]) (nD _) aT.nil)))) (aT.cons (b:=[]) h aT.nil)
theorem uE {w:World} {g:Nat} {st:Option (List UInt8)} (hr:cv g st w) (hl:iL st):
 Calls Tryz.prog 133 #[.pointer (some ⟨g,0,none⟩)] w (bE fun r w'=>Mv (RX g) w w'∧∃(ps:List cg) (v:Value) (s1:Option (List UInt8)),r=.tuple #[v,B s1.isSome]∧cL (fun k=>k<w.heap.size) w' (gV ps) [v]∧v.oneCell'=true∧cv g s1 w'∧fK BJ st ps s1):=by
 refine enter (vs:=[.pointer (some ⟨g,0,none⟩)]) Tryz.func133 E E E ?_
 have hlt:=cv.lt hr
 obtain⟨N,s1,qU,hN,cU⟩:=Ah st
 refine af (aa (ac E E (ac E E (ag (ab (af (aa (ae E E (an fw E E ((cU hr)) ?_)))))))))
 rintro v10 w10 ⟨g10,rfl,hr10⟩
 have m10:=eo.kp hr g10
 have hl1:iL s1:=qU.atM lL.le hl
 refine ae E E (am E E (bj) (am E E (bk) (ac E E (ac E E (ag (ab (af (aa (ac E E (ag (ab (af ?_))))))))))))
 refine aH ?_
 refine jv (fun(k:Nat) (v:Value) (so:Option (List UInt8)) (ps:List cg)=>[(0,.pointer (some ⟨g,0,none⟩)),(4,bI (UInt64.ofNat N)),(5,I (if so.isSome=true then 0 else 5)),(6,v)]) (fun(k:Nat) (v:Value) (so:Option (List UInt8)) (ps:List cg) w'=>Mv (RX g) w w'∧cv g so w'∧f9 187 7 w.heap.size bK ps v w'∧k+ps.length=N∧s1.bind (bS ri N)=so.bind (fun l=>(bS ri k l).map fun p=>(ps++p.1,p.2))∧ps.length≤549755813890∧∀l,so=some l→l.length+ps.length≤549755813888) (fun(k:Nat) (v:Value) (so:Option (List UInt8)) (ps:List cg)=>k) (N) (.slice none 0 0) (s1) ([]) ⟨rfl,rfl,rfl,rfl,trivial⟩ ⟨Mv.of_grown g10 fun k hk _=>(Option.some.inj hk).symm,hr10,f9.nil _,by simp,rh,by simp,fun l e=>by have:=hl1 l e;simpa using this⟩ ?_
 rintro k v so ps wL ⟨mL,hrL,oL,hk,hR,hql,hsl⟩
 refine af (af ?_)
 have rL:=oL.rpx dB (by omega)
 have hvo:v.oneCell'=true:=by obtain⟨_,_,_,rfl⟩:=oL.isS;rfl
 have hnl:ps.length<18446744073709551616:=by omega
 rcases so with _|l
 rotate_left
 rcases Nat.eq_zero_or_pos k with h0|h0
 rotate_left
 ·refine aa (ae E E (al E E E (cw E bi) (ae E E (ai E (ae E E (ai E (aQ (r:=I ps.length) E E ((be (f:=bK) Mj rL.rp)) ?_)))))))
  refine ai E (aY E E (mO Mb Mc) (ai E (ae E E (ai E (al E E E (cw ((IN hnl hN).2 (by omega)) gH) ?_)))))
  refine ap E E E (ag (ab (bf E (aC (ab (aH (af ?_)))))))
  obtain⟨n1,s2,q1,i1,c1⟩:=rk (some l)
  obtain⟨n2,s3,q2,i2,c2⟩:=rk s2
  obtain⟨n3,s4,q3,i3,c3⟩:=rk s3
  obtain⟨n4,s5,q4,i4,c4⟩:=rk s4
  have hll:iL (some l):=fun l' e=>by cases e;have:=hsl l rfl;omega
  have at5:iL s5:=q4.atM eO.le (q3.atM eO.le (q2.atM eO.le (q1.atM eO.le hll)))
  refine aa ?_
  obtain⟨g7,w7,hr7,l7,x7,k7⟩:=aX (P:=Tryz.prog) (w:=wL) (t:=187) (z:=.agg #[I 0,I 0,I 0,I 0,B false,.slice none 0 0,.slice none 0 0]) (l:=[I 0,I 0,I 0,I 0,B false,.slice none 0 0,.slice none 0 0]) (by kernel_rfl) rfl
  refine aV E hr7 (ag (ab (af ?_)))
  have hr7:=cv.ext hrL x7
  have e7:=x7
  have hgL:g<wL.heap.size:=Nat.lt_of_lt_of_le hlt mL.size
  have hg7:g<g7:=by omega
  have lt7:=k7.lt
  refine aa (ae E E (an jk E E ((c1 hr7)) ?_))
  rintro v24 w24 ⟨g24,rfl,hr24⟩
  have m24:=eo.kp hr7 g24
  obtain⟨wa,sa,ma,ka,ra,_⟩:=eo.put (P:=Tryz.prog) (t:=3) (v:=I n1) k7 g24 hr24 hg7 (i:=0) gu rfl (by simp)
  refine ae E E (am E E (bj) (am E E bk ?_))
  refine ah E E (ar (o:=0) Mr E (by kernel_rfl) E) ?_
  refine ah E E (ar (o:=0) Mt E (by kernel_rfl) E) ?_
  refine aq E E sa ?_
  refine ag (ab (af (aa (ae E E (an jk E E ((c2 ra)) ?_)))))
  rintro v31 w31 ⟨g31,rfl,hr31⟩
  have m31:=eo.kp ra g31
  obtain⟨wb,sb,mb,kb,rb,_⟩:=eo.put (P:=Tryz.prog) (t:=3) (v:=I n2) ka g31 hr31 hg7 (i:=1) gu rfl (by simp)
  refine ae E E (am E E (bj) (am E E bk ?_))
  refine ah E E (ar (o:=0) Mr E (by kernel_rfl) E) ?_
  refine ah E E (ar (o:=1) Mt E (by kernel_rfl) E) ?_
  refine aq E E sb ?_
  refine ag (ab (af (aa (ae E E (an jk E E ((c3 rb)) ?_)))))
  rintro v38 w38 ⟨g38,rfl,hr38⟩
  have m38:=eo.kp rb g38
  obtain⟨wc,sc,mc,kc,rc,_⟩:=eo.put (P:=Tryz.prog) (t:=3) (v:=I n3) kb g38 hr38 hg7 (i:=2) gu rfl (by simp)
  refine ae E E (am E E (bj) (am E E bk ?_))
  refine ah E E (ar (o:=0) Mr E (by kernel_rfl) E) ?_
  refine ah E E (ar (o:=2) Mt E (by kernel_rfl) E) ?_
  refine aq E E sc ?_
  refine ag (ab (af (aa (ae E E (an jk E E ((c4 rc)) ?_)))))
  rintro v45 w45 ⟨g45,rfl,hr45⟩
  have m45:=eo.kp rc g45
  obtain⟨wd,sd,md,kd,rd,_⟩:=eo.put (P:=Tryz.prog) (t:=3) (v:=I n4) kc g45 hr45 hg7 (i:=3) gu rfl (by simp)
  refine ae E E (am E E (bj) (am E E bk ?_))
  refine ah E E (ar (o:=0) Mr E (by kernel_rfl) E) ?_
  refine ah E E (ar (o:=3) Mt E (by kernel_rfl) E) ?_
  refine aq E E sd ?_
  refine ag (ab (af (aa (ae E E (an tI E E ((Dd rd at5)) ?_)))))
  rintro v52 w52 ⟨g52,q,x,y,s6,rfl,hx,hy,rq,hr52,q5⟩
  have m52:=eo.kp rd g52
  obtain⟨we,se,me,ke,re,qe⟩:=eo.putO (P:=Tryz.prog) (t:=46) (m:=[B q.1,x,y]) kd g52 hr52 hg7 4 (by simp) (by kernel_rfl) (aw.cons rfl (aw.cons hx.one (aw.cons hy.one aw.nil)))
  have ke:cr g7 187 [I n1,I n2,I n3,I n4,B q.1,x,y] we:=ke
  have mAll:Mv (RX g) wL we:=(Mv.of_ext e7).trans ((((ma.trans mb fun _ hn _=>hn).trans mc fun _ hn _=>hn).trans md fun _ hn _=>hn).trans me fun _ hn _=>hn) fun j hj hlt=>by
   rcases hj with hj|hj
   ·exact hj
   ·omega
  have sd7:w7.heap.size≤wd.heap.size:=Nat.le_trans (Nat.le_trans ma.size mb.size) (Nat.le_trans mc.size md.size)
  have szL:wL.heap.size≤w7.heap.size:=e7.size
  have hXL:∀j,RX g j→j<w.heap.size:=fun j hj=>by have:j=g:=hj;omega
  have oE:=oL.mv mAll hXL
  have own:∀j,v.ownBlock=some j→w.heap.size≤j∧j<wL.heap.size:=oL.lt
  have rqe:=rq.mv (Mv.of_grown qe fun k hk _=>by obtain rfl:=Option.some.inj hk;show g7<wd.heap.size;omega) fun _ hk=>.inl hk
  have hM:=yM (m:=⟨n1,n2,n3,n4,q⟩) (rqe.weak (Y:=fun k=>k<w.heap.size∨v.ownBlock=some k) fun j hj=>.inl (by
   rcases hj with hj|hj
   ·have:=mL.size;show j<wd.heap.size;omega
   ·have:=(own j hj).2;show j<wd.heap.size;omega))
  obtain⟨x58,w58,v59,w59,hr58,hr59,o59,m59,n59⟩:=oE.push (ty:=50) (t:=50) Mj tR rfl (by omega) (by omega) (by omega) (aw.cons rfl (aw.cons rfl (aw.cons rfl (aw.cons rfl (aw.cons rfl (aw.cons hx.one (aw.cons hy.one aw.nil))))))) hM dB (by have:=hsl l rfl;omega) (Nat.le_trans mL.size mAll.size)
  have h59:=re.mv m59 fun j hj=>by have:=own j hj;omega
  refine ae E E (am E E (bj) (am E E (bk) ?_))
  refine ah E E (ar (o:=4) Mr E (by kernel_rfl) E) ?_
  refine aq E E se ?_
  refine ac E E (ag (ab (aa (ae E E (ak E E (ke.ld Mr E (by kernel_rfl)) ?_)))))
  refine aK (vs:=[(0,.agg #[I n1,I n2,I n3,I n4,B q.1,x,y])]) E E hr58 ?_
  refine ba E E hr59 ?_
  obtain⟨k',rfl⟩:∃k',k=k'+1:=⟨k-1,by omega⟩
  refine ac E E (ag (aS ?_))
  refine fF (k') (v59) (s6) (ps++[⟨n1,n2,n3,n4,q⟩]) ⟨rfl,rfl,rfl,rfl,trivial⟩ ⟨(mL.trans mAll fun _ hn _=>hn).trans m59 fun j hj hlt=>by have:=(own j hj).1;omega,h59,o59,by simp;omega,pJ hR (wF q1 q2 q3 q4 q5),by have:=hsl l rfl;simp;omega,(fun l' e=>by
   subst e
   have:=hsl l rfl
   have:=Ad _ _ _ (show ri l=some (_,l') from wF (st:=some l) q1 q2 q3 q4 q5)
   simp
   omega)⟩ (by omega)
 ·refine aa (ae E E (al E E E (cW (by simp) bi) (ae E E (ao E E E (ao E E E (ao E E E (ao E E E (ao E E E ?_))))))))
  refine aE E E E (ag (ab (cp E (bg (aJ (aJ (bh (ab (af (aa (ae E E (ae E E (al E E E (cW (by simp) bi) ?_)))))))))))))
  refine ac E E (ac E E (ag (ab (au (a9 E E E ?_)))))
  exact⟨_,rfl,mL,ps,v,none,rfl,rL,hvo,hrL,tQ qU hR⟩
 ·refine aa (ae E E (al E E E (cw E bi) (ae E E (ai E (ae E E (ai E (aQ (r:=I ps.length) E E ((be (f:=bK) Mj rL.rp)) ?_)))))))
  refine ai E (aY E E (mO Mb Mc) (ai E (ae E E (ai E (al E E E (cW (mt (IN hnl hN).1 (by omega)) gH) ?_)))))
  refine ap E E E (ag (ab (cp E (bg (aJ (aJ (bh (ab (af (aa (ae E E (ae E E (al E E E (cw E bi) (ac E E ?_))))))))))))))
  refine ac E E (ag (ab (au (a9 E E E ?_))))
  exact⟨_,rfl,mL,ps,v,some l,rfl,rL,hvo,hrL,tP qU (by subst h0;exact hR)⟩
end Go.Rl
namespace Go.Rl
open Go.RowKit Go.Proofs
theorem wQ:(Tryz.prog.info? 173).map (fun i=>(i.zero,i.size,i.bytes))=some (some (.agg #[I 0,B false,B false,.slice none 0 0,.slice none 0 0,.slice none 0 0]),6,96):=by kernel_rfl
theorem FX:(Tryz.prog.info? 52).map (fun i=>(i.zero,i.size,i.bytes))=some (some (.agg #[.slice none 0 0,I 0,I 0,B false,.slice none 0 0,.slice none 0 0,.slice none 0 0,B false,.slice none 0 0]),9,152):=by kernel_rfl
theorem cG (l:dI):(cV l).size=6:=by simp[cV,qt,iX,nj,gV,Dt.size,Dt.sizeAll]
theorem cE (n:aZ):(bH n).size=9:=by cases n;simp[bH,dm,qt,iX,nj,gV,Dt.size,Dt.sizeAll]
theorem jT {X:Nat→Prop} {w:World}:cL X w (.sl []) [.slice none 0 0]:=by
 simp only[cL]
 exact⟨none,0,0,rfl,rfl,Nat.le_refl _,Nat.zero_le _,fun _=>rfl,fun h=>absurd h (by omega)⟩
theorem bX {X:Nat→Prop} {w:World} (b:Bool):cL X w (.bool b) [B b]:=by simp only[cL,B]
theorem wS {X:Nat→Prop} {w:World} {l:dI} {x y v:Value} (h:cL X w (iX l.va) [B l.va.1,x,y]) (hp:cL X w (gV l.pf) [v]):cL X w (cV l) [I l.un,B l.up,B l.va.1,x,y,v]:=by
 unfold cV
 simp only[cL.eq_5]
 exact aT.cons (a:=[I l.un]) (nD _) (aT.cons (a:=[B l.up]) (bX _) (aT.cons (a:=[B l.va.1,x,y]) h (aT.cons (b:=[]) hp aT.nil)))
theorem er {X:Nat→Prop} {w:World} {ls:List dI} {d:bV} {ks:List aZ} {em:Bool} {ps:List cg} {vl vk vp x y:Value} (hl:cL X w (.sl (ls.map cV)) [vl]) (hd:cL X w (dm d) [I d.kd,I d.ix,B d.at_.1,x,y]) (hk:cL X w (.sl (ks.map bH)) [vk]) (hp:cL X w (gV ps) [vp]):
 cL X w (bH (.mk ls d ks em ps)) [vl,I d.kd,I d.ix,B d.at_.1,x,y,vk,B em,vp]:=by
 unfold bH
 simp only[cL.eq_5]
 exact aT.cons (a:=[vl]) hl (aT.cons (a:=[I d.kd,I d.ix,B d.at_.1,x,y]) hd (aT.cons (a:=[vk]) (by rw[kT];exact hk) (aT.cons (a:=[B em]) (bX _) (aT.cons (b:=[]) hp aT.nil))))
theorem jz {X:Nat→Prop} {w:World}:cL X w (dm lq) [I 0,I 0,B false,.slice none 0 0,.slice none 0 0]:=
 wO (d:=lq) (by
  simp only[iX,lq,KH,cL.eq_5]
  exact aT.cons (a:=[B false]) (bX _) (aT.cons (a:=[.slice none 0 0]) jT (aT.cons (b:=[]) jT aT.nil)))
theorem J8 {P:Program} {w:World} {t:TypeId} {x y:Operand} {n:Nat} (hn:n<18446744073709551616):(bin .eql t x y (bI (UInt64.ofNat n)) (bI 1)).run P w=.ok (B (decide (n=1))) w:=by
 have e:(decide (UInt64.ofNat n=1))=decide (n=1):=by
  by_cases h:n=1
  ·subst h;rfl
  ·have:UInt64.ofNat n≠1:=fun e=>h (by have:=congrArg UInt64.toNat e;rw[UInt64.toNat_ofNat',show(1:UInt64).toNat=1 from rfl] at this;omega)
   rw[decide_eq_false h,decide_eq_false this]
 rw[←e]
 exact gI
def Lk (st:Option (List UInt8)) (nd:aZ) (s1:Option (List UInt8)) (ok:Bool):Prop:=(ok=true→fK gW st nd s1∧s1≠none)∧(ok=false→st.bind gW=none)
def Eu (g:Nat) (w:World) (st:Option (List UInt8)) (r:Value) (w':World):Prop:=
 Mv (RX g) w w'∧∃(nd:aZ) (cs:List Value) (s1:Option (List UInt8)) (ok:Bool),r=.tuple #[.agg cs.toArray,B ok]∧cL (fun k=>k<w.heap.size) w' (bH nd) cs∧aw cs∧cv g s1 w'∧Lk st nd s1 ok
def yN (s3:Option (List UInt8)):Nat→List aZ→Option (List UInt8)→Bool→Prop
 |0,ks,so,ok=>ks=[]∧so=s3∧ok=s3.isSome
 |1,ks,so,ok=>∃a,ks=[a]∧Lk s3 a so ok
 |_+2,ks,so,ok=>∃a b s4,ks=[a,b]∧fK gW s3 a s4∧s4≠none∧Lk s4 b so ok
theorem yN.step {s3 so s6:Option (List UInt8)} {ks:List aZ} {nd:aZ} {ok6:Bool}:∀{i:Nat},yN s3 i ks so true→i<2→Lk so nd s6 ok6→yN s3 (i+1) (ks++[nd]) s6 ok6
 |0,⟨h1,h2,_⟩,_,hN=>⟨nd,by rw[h1];rfl,h2▸hN⟩
 |1,⟨a,h1,h2⟩,_,hN=>⟨a,nd,so,by rw[h1];rfl,(h2.1 rfl).1,(h2.1 rfl).2,hN⟩
 |i+2,_,h,_=>by omega
theorem yN.done {st s1 s2 s3 so:Option (List UInt8)} {ks:List aZ} {ls:List dI} {d:bV} {tag:Nat} {ok:Bool} {i:Nat} (h:yN s3 i ks so ok) (hx:ok=false∨2≤i) (hn:¬tag<2) (q1:fK (jW 2) st tag s1) (q2:fK jc s1 ls s2) (q3:fK oh s2 d s3):Lk st (.mk ls d ks false []) so ok:=by
 refine⟨fun e=>?_,fun e=>?_⟩
 ·subst e
  have h2i:2≤i:=by
   rcases hx with hx|hx
   ·cases hx
   ·exact hx
  obtain⟨i,rfl⟩:∃j,i=j+2:=⟨i-2,by omega⟩
  obtain⟨a,b,s4,rfl,h2,h3,h4⟩:=h
  exact⟨Db hn q1 q2 q3 h2 (h4.1 rfl).1,(h4.1 rfl).2⟩
 ·subst e
  match i,h with
  |0,⟨h1,h2,h3⟩=>
   have:s3=none:=by cases s3 with|none=>rfl|some t=>cases h3
   subst this
   exact Hz hn q1 q2 q3
  |1,⟨a,h1,h2⟩=>exact HB hn q1 q2 q3 (h2.2 rfl)
  |i+2,⟨a,b,s4,h1,h2,h3,h4⟩=>exact HD hn q1 q2 q3 h2 (h4.2 rfl)
theorem yO {α:Type} {f:List UInt8→Option (α×List UInt8)} {st s1 so:Option (List UInt8)} {N k:Nat} {done:List α} (hU:fK eJ st N s1) (hR:s1.bind (bS f N)=so.bind (fun l=>(bS f (k+1) l).map fun p=>(done++p.1,p.2))) (h:so.bind f=none):st.bind (dn f)=none:=
 (hU.bindE (fun p=>bS f p.1 p.2)).trans (FV hR h)
theorem nE {w w4 wA:World} {g g2 g4:Nat} {z cs:List Value} {nd:aZ} {st s1:Option (List UInt8)} (hg:g<w.heap.size) (l2:w.heap.size≤g2) (g42:g2<g4) (ex4:aN w w4) (k24:cr g2 52 z w4) (hz:z.length=9) (mT:Mv (fun k=>RX g k∨k=g4) w4 wA) (h1:aw cs) (rp:cL (fun k=>k<w4.heap.size) wA (bH nd) cs) (hr:cv g s1 wA):
 ∃wd,(Instr.storeAt 52 (.pointer (some ⟨g2,0,none⟩)) (.agg cs.toArray)).run Tryz.prog wA=.ok () wd∧cr g2 52 cs wd∧∀ok,Lk st nd s1 ok→Eu g w st (.tuple #[.agg cs.toArray,B ok]) wd:=by
 have lt2:=k24.lt
 have hgg:g<g2:=by omega
 have k2A:=mT.blk k24 (by
  rintro(h|h)
  ·have:g2=g:=h
   omega
  ·omega)
 have hc:cs.length=9:=rp.len.trans (cE nd)
 obtain⟨wd,sd,qd,kd⟩:=k2A.stS (P:=Tryz.prog) (t:=52) (m:=cs) (by omega) (by rw[hc];kernel_rfl) h1
 have md:Mv (fun k=>k=g2) wA wd:=Mv.of_grown qd fun k hk _=>(Option.some.inj hk).symm
 refine⟨wd,sd,kd,fun ok hN=>⟨((Mv.of_ext ex4).trans mT fun j hj hlt=>?_).trans md fun j hj hlt=>by omega,nd,cs,s1,ok,rfl,rp.mv (md.weak fun j hj _=>by show j<w4.heap.size;omega) fun j hj=>.inl (by have:=ex4.size;show j<w4.heap.size;omega),h1,hr.mv md fun j hj=>by omega,hN⟩⟩
 rcases hj with hj|hj
 ·exact hj
 ·omega
theorem Df {w:World} {g:Nat} {st:Option (List UInt8)} {n:Nat} (ih:∀{w:World} {g:Nat} {st:Option (List UInt8)} {m:Nat},m<n→cv g st w→iL st→tL m st→Calls Tryz.prog 96 #[.pointer (some ⟨g,0,none⟩)] w (bE (Eu g w st))) (hr:cv g st w) (hl:iL st) (hn:tL n st):
 Calls Tryz.prog 96 #[.pointer (some ⟨g,0,none⟩)] w (bE (Eu g w st)):=by
 refine enter (vs:=[.pointer (some ⟨g,0,none⟩)]) Tryz.func96 E E E ?_
 have hlt:=cv.lt hr
 obtain⟨tag,s1,ok1,hok1,hno1,htag,hat1,cF⟩:=yK st (most:=2) (by omega)
 obtain⟨N,s2,qU,hN,cU⟩:=Ah s1
 refine af (aa ?_)
 obtain⟨g2,w2,hr2,l2,x2,k2⟩:=aX (P:=Tryz.prog) (w:=w) (t:=52) (z:=.agg #[.slice none 0 0,I 0,I 0,B false,.slice none 0 0,.slice none 0 0,.slice none 0 0,B false,.slice none 0 0]) (l:=[.slice none 0 0,I 0,I 0,B false,.slice none 0 0,.slice none 0 0,.slice none 0 0,B false,.slice none 0 0]) (by kernel_rfl) rfl
 refine aV E hr2 (ac E E (ag (ab (af (aa ?_)))))
 obtain⟨g4,w4,hr4,l4,x4,k4⟩:=aX (P:=Tryz.prog) (w:=w2) (t:=52) (z:=.agg #[.slice none 0 0,I 0,I 0,B false,.slice none 0 0,.slice none 0 0,.slice none 0 0,B false,.slice none 0 0]) (l:=[.slice none 0 0,I 0,I 0,B false,.slice none 0 0,.slice none 0 0,.slice none 0 0,B false,.slice none 0 0]) (by kernel_rfl) rfl
 refine aV E hr4 ?_
 have hr4:=cv.ext hr (x2.trans x4)
 have ex4:=(x2.trans x4)
 have lt4:=k4.lt
 have lt2:=k2.lt
 have g42:g2<g4:=by omega
 have hg4:g<g4:=by omega
 have k24:=k2.ext x4
 have sz4:=ex4.size
 refine ag (ab (af (aa (ae E E (an wJ E E ((cF hr4)) ?_)))))
 rintro v16 w16 ⟨g16,rfl,hr16⟩
 have m16:=eo.kp hr4 g16
 have mF:Mv (fun k=>RX g k∨k=g4) w4 w16:=Mv.of_grown g16 fun k hk _=>.inl (Option.some.inj hk).symm
 have k16:=k4.other g16 (fun e=>by have:=Option.some.inj e;omega)
 refine ae E E (am E E (bj) (am E E (bk) (ac E E (ac E E (ag (ab (af (af ?_))))))))
 rcases ok1 with _|_
 ·refine aa (ae E E (bo E E bu (ag (ab (bf E (af ?_))))))
  obtain⟨wd,sd,kd,fin⟩:=nE (st:=st) (nd:=.mk [] lq [] false []) hlt l2 g42 ex4 k24 rfl mF (aw.cons rfl (aw.cons rfl (aw.cons rfl (aw.cons rfl (aw.cons rfl (aw.cons rfl (aw.cons rfl (aw.cons rfl (aw.cons rfl aw.nil))))))))) (er jT jz jT jT) hr16
  refine aa (ak E E (k16.ld L6 E (by kernel_rfl)) ?_)
  refine aq E E sd ?_
  refine ac E E (ag (ab (au (az ?_))))
  refine cz E E E kd L6 E (by kernel_rfl) ?_
  exact⟨_,rfl,fin false ⟨(fun e=>nomatch e),fun _=>Hx (hno1 rfl)⟩⟩
 ·refine aa (ae E E (bo E E bu (ag (ab (cp E (aC (ab (af ?_))))))))
  obtain⟨qF,nF⟩:=hok1 rfl
  obtain⟨l1,rfl⟩:∃l1,s1=some l1:=by
   cases s1 with
   |none=>exact absurd rfl nF
   |some l1=>exact⟨l1,rfl⟩
  have hl1:iL (some l1):=hat1 _ hl
  have hn1:l1.length+1≤n:=by
   obtain⟨l0,e0,q0⟩:=qF.some
   have:=rj 2 l0 _ _ q0
   have:=hn l0 e0
   omega
  have an1:tL (n-1) (some l1):=fun l' e=>by cases e;omega
  obtain⟨w5,s5,q5,k5⟩:=k16.stC (P:=Tryz.prog) (t:=4) (i:=7) (v:=B (decide (tag=1))) wI rfl (by simp)
  have k5:cr g4 52 [.slice none 0 0,I 0,I 0,B false,.slice none 0 0,.slice none 0 0,.slice none 0 0,B (decide (tag=1)),.slice none 0 0] w5:=k5
  have m5:Mv (fun k=>k=g4) w16 w5:=Mv.of_grown q5 fun k hk _=>(Option.some.inj hk).symm
  have r5:cv g (some l1) w5:=hr16.mv m5 fun j hj=>by omega
  have mE:Mv (fun k=>RX g k∨k=g4) w4 w5:=mF.trans m5 fun _ hj _=>.inr hj
  refine aa (ae E E (al (v:=bI 1) (r:=B (decide (tag=1))) E E E ((J8 htag)) ?_))
  refine ah E E (ar (o:=7) L6 E (by kernel_rfl) E) ?_
  refine aq E E s5 ?_
  refine ag (ab (af (aa (ae E E (an fw E E ((cU r5)) ?_)))))
  rintro v27 w27 ⟨g27,rfl,hr27⟩
  have m27:=eo.kp r5 g27
  have mG:Mv (fun k=>RX g k∨k=g4) w4 w27:=mE.trans (Mv.of_grown g27 fun k hk _=>(Option.some.inj hk).symm:Mv (RX g) w5 w27) fun _ hj _=>.inl hj
  have k27:=k5.other g27 (fun e=>by have:=Option.some.inj e;omega)
  refine ae E E (am E E (bj) (am E E (bk) (ac E E (ac E E (ag (ab (af (af ?_))))))))
  rcases s2 with _|lc
  ·refine aa (ae E E (al E E E (cw (by simp) cC) (ag (ab (bf E (af ?_))))))
   obtain⟨wd,sd,kd,fin⟩:=nE (st:=st) (nd:=.mk [] lq [] (decide (tag=1)) []) hlt l2 g42 ex4 k24 rfl mG (aw.cons rfl (aw.cons rfl (aw.cons rfl (aw.cons rfl (aw.cons rfl (aw.cons rfl (aw.cons rfl (aw.cons rfl (aw.cons rfl aw.nil))))))))) (er jT jz jT jT) hr27
   refine aa (ak E E (k27.ld L6 E (by kernel_rfl)) ?_)
   refine aq E E sd ?_
   refine ac E E (ag (ab (au (az ?_))))
   refine cz E E E kd L6 E (by kernel_rfl) ?_
   exact⟨_,rfl,fin false ⟨(fun e=>nomatch e),fun _=>wG qF (tQ (done:=([]:List dI)) qU rfl)⟩⟩
  ·refine aa (ae E E (al E E E (cW (by simp) cC) (ag (ab (cp E (aC (ab (af (aH ?_)))))))))
   refine jv (fun(k:Nat) (v:Value) (l:List UInt8) (ls:List dI)=>[(0,.pointer (some ⟨g,0,none⟩)),(2,.pointer (some ⟨g2,0,none⟩)),(4,.pointer (some ⟨g4,0,none⟩)),(5,bI (UInt64.ofNat tag)),(7,bI (UInt64.ofNat N))]) (fun(k:Nat) (v:Value) (l:List UInt8) (ls:List dI) w'=>Mv (fun k=>RX g k∨k=g4) w4 w'∧cv g (some l) w'∧cr g4 52 [v,I 0,I 0,B false,.slice none 0 0,.slice none 0 0,.slice none 0 0,B (decide (tag=1)),.slice none 0 0] w'∧f9 173 6 w4.heap.size cV ls v w'∧k+ls.length=N∧(some lc).bind (bS nA N)=(some l).bind (fun l=>(bS nA k l).map fun p=>(ls++p.1,p.2))∧l.length+ls.length≤549755813888∧l.length≤n-1) (fun(k:Nat) (v:Value) (l:List UInt8) (ls:List dI)=>k) (N) (.slice none 0 0) (lc) ([]) ⟨rfl,rfl,rfl,rfl,rfl,trivial⟩ ⟨mG,hr27,k27,f9.nil _,by simp,rh,by have:=qU.atM lL.le hl1 lc rfl;simpa using this,qU.atM lL.le an1 lc rfl⟩ ?_
   rintro k v l ls wL ⟨mL,hrL,kL,oL,hk,hR,hql,hnl⟩
   refine af (af ?_)
   have rL:=oL.rpx cG (by omega)
   have hvo:v.oneCell'=true:=by obtain⟨_,_,_,rfl⟩:=oL.isS;rfl
   have hll:ls.length<18446744073709551616:=by omega
   have hgL:g<wL.heap.size:=by have:=mL.size;omega
   have hg4L:g4<wL.heap.size:=by have:=mL.size;omega
   have hlL:iL (some l):=fun l' e=>by cases e;omega
   rcases Nat.eq_zero_or_pos k with h0|h0
   rotate_left
   ·refine aa (ah E E (ar (o:=0) L6 E (by kernel_rfl) E) (ak E E (aj Mi E (kL.cell (i:=0) E)) ?_))
    refine aQ (r:=I ls.length) E E ((be (f:=cV) Mi rL.rp)) (aY E E (mO Mb Mc) ?_)
    refine ae E E (al E E E (cw ((IN hll hN).2 (by omega)) gH) (ag (ab (bf E (aC (ab (aH (af ?_))))))))
    obtain⟨n1,sA,q1,i1,c1⟩:=rk (some l)
    obtain⟨up,sB,ok2,hok2,hno2,hup,hat2,c2⟩:=yK sA (most:=1) (by omega)
    have atB:iL sB:=hat2 _ (q1.atM eO.le hlL)
    refine aa ?_
    obtain⟨g9,w9,hr9,l9,x9,k9⟩:=aX (P:=Tryz.prog) (w:=wL) (t:=173) (z:=.agg #[I 0,B false,B false,.slice none 0 0,.slice none 0 0,.slice none 0 0]) (l:=[I 0,B false,B false,.slice none 0 0,.slice none 0 0,.slice none 0 0]) (by kernel_rfl) rfl
    refine aV E hr9 (ag (ab (af ?_)))
    have hr9:=cv.ext hrL x9
    have e9:=x9
    have hg9:g<g9:=by omega
    have lt9:=k9.lt
    have h49:g4<g9:=by omega
    refine aa (ae E E (an jk E E ((c1 hr9)) ?_))
    rintro v41 w41 ⟨g41,rfl,hr41⟩
    have m41:=eo.kp hr9 g41
    obtain⟨wa,sa,ma,ka,ra,_⟩:=eo.put (P:=Tryz.prog) (t:=3) (v:=I n1) k9 g41 hr41 hg9 (i:=0) gu rfl (by simp)
    refine ae E E (am E E (bj) (am E E bk ?_))
    refine ah E E (ar (o:=0) Mk E (by kernel_rfl) E) ?_
    refine aq E E sa ?_
    refine ag (ab (af (aa (ae E E (an wJ E E ((c2 ra)) ?_)))))
    rintro v47 w47 ⟨g47,rfl,hr47⟩
    have m47:=eo.kp ra g47
    obtain⟨wb,sb,mb,kb,rb,_⟩:=eo.put (P:=Tryz.prog) (t:=4) (v:=B (bW up)) ka g47 hr47 hg9 (i:=1) wI rfl (by simp)
    refine ae E E (am E E (bj) (am E E (bk) (ac E E (ac E E (ag (ab (af (aa (ae E E (al (v:=bI 1) (r:=B (bW up)) E E E ((J8 hup)) ?_))))))))))
    refine ah E E (ar (o:=1) Mk E (by kernel_rfl) E) ?_
    refine aq E E sb ?_
    refine ag (ab (af (aa (ae E E (an tI E E ((Dd rb atB)) ?_)))))
    rintro v55 w55 ⟨g55,q,x,y,sC,rfl,hx,hy,rq,hr55,q3⟩
    have m55:=eo.kp rb g55
    obtain⟨wc,sc,mc,kc,rc,qc⟩:=eo.putO (P:=Tryz.prog) (t:=46) (m:=[B q.1,x,y]) kb g55 hr55 hg9 2 (by simp) (by kernel_rfl) (aw.cons rfl (aw.cons hx.one (aw.cons hy.one aw.nil)))
    have kc:cr g9 173 [I n1,B (bW up),B q.1,x,y,.slice none 0 0] wc:=kc
    refine ae E E (am E E (bj) (am E E bk ?_))
    refine ah E E (ar (o:=2) Mk E (by kernel_rfl) E) ?_
    refine aq E E sc ?_
    refine ag (ab (af (aa (ae E E (an uD E E ((uE rc (q3.atM tM.le atB))) ?_)))))
    rintro v61 w61 ⟨m61,ps,vp,sD,rfl,rp61,hvp,hr61,q4⟩
    have m61:=m61
    have k61:=m61.blk kc (fun e=>by have:g9=g:=e;omega)
    obtain⟨we,se,qe,ke⟩:=k61.stC (P:=Tryz.prog) (t:=50) (i:=5) (v:=vp) (by kernel_rfl) hvp (by simp)
    have ke:cr g9 173 [I n1,B (bW up),B q.1,x,y,vp] we:=ke
    have me:Mv (fun k=>k=g9) w61 we:=Mv.of_grown qe fun k hk _=>(Option.some.inj hk).symm
    have re:cv g sD we:=hr61.mv me fun j hj=>by omega
    have mAll:Mv (RX g) wL we:=((Mv.of_ext e9).trans (((ma.trans mb fun _ hn _=>hn).trans mc fun _ hn _=>hn).trans m61 fun _ hn _=>.inl hn) fun j hj hlt=>by
     rcases hj with hj|hj
     ·exact hj
     ·omega).trans me fun j hj hlt=>by omega
    have hXL:∀j,RX g j→j<w4.heap.size:=fun j hj=>by have:j=g:=hj;omega
    have oE:=oL.mv mAll hXL
    have kE:=mAll.blk kL (fun e=>by have:g4=g:=e;omega)
    have mLE:Mv (fun k=>RX g k∨k=g4) w4 we:=mL.trans mAll fun _ hj _=>.inl hj
    have sb9:w9.heap.size≤wb.heap.size:=Nat.le_trans ma.size mb.size
    have sc9:wb.heap.size≤w55.heap.size:=g55.size
    have sc10:w55.heap.size≤wc.heap.size:=qc.size
    have szL:wL.heap.size≤w9.heap.size:=e9.size
    have rqe:=rq.mv (((Mv.of_grown qc fun k hk _=>by obtain rfl:=Option.some.inj hk;show g9<wb.heap.size;omega:Mv (fun k=>k<wb.heap.size) w55 wc).trans m61 fun j hj _=>by have:j=g:=hj;show j<wb.heap.size;omega).trans me fun j hj _=>by show j<wb.heap.size;omega) fun _ hk=>.inl hk
    have rpe:=rp61.mv (me.weak fun j hj _=>by show j<wc.heap.size;omega) fun _ hk=>.inl hk
    refine ae E E (am E E (bj) (am E E (bk) ?_))
    refine ah E E (ar (o:=5) Mk E (by kernel_rfl) E) ?_
    refine aq E E se ?_
    refine ac E E (ag (ab (af (af ?_))))
    obtain⟨k',rfl⟩:∃k',k=k'+1:=⟨k-1,by omega⟩
    rcases ok2 with _|_
    rotate_left
    rcases sD with _|lD
    ·refine aa (ae E E (bo E E bu (ae E E (ai E (ae E E (ai E (bo E E bu (aE E E E (ag (ab (bf E (af ?_))))))))))))
     obtain⟨wd,sd,kd,fin⟩:=nE (st:=st) (nd:=.mk ls lq [] (decide (tag=1)) []) hlt l2 g42 ex4 k24 rfl mLE (aw.cons hvo (aw.cons rfl (aw.cons rfl (aw.cons rfl (aw.cons rfl (aw.cons rfl (aw.cons rfl (aw.cons rfl (aw.cons rfl aw.nil))))))))) (er (oE.rpx cG (by omega)) jz jT jT) re
     refine aa (ak E E (kE.ld L6 E (by kernel_rfl)) ?_)
     refine aq E E sd ?_
     refine ac E E (ag (ab (au (az (a6 (az (a6 (az ?_))))))))
     refine cz E E E kd L6 E (by kernel_rfl) ?_
     exact⟨_,rfl,fin false ⟨(fun e=>nomatch e),fun _=>wG qF (yO qU hR (HF q1 (hok2 rfl).1 q3 q4))⟩⟩
    ·refine aa (ae E E (bo E E bu (ae E E (ai E (ae E E (ai E (bo E E bu (aE E E E (ag (ab (cp E (aC ?_))))))))))))
     refine ab ?_
     have own:∀j,v.ownBlock=some j→w4.heap.size≤j∧j<wL.heap.size:=oL.lt
     have qLm:fK nA (some l) ⟨n1,bW up,q,ps⟩ (some lD):=Da q1 (hok2 rfl).1 q3 q4
     have hlD:=Ae l _ lD qLm
     have hY:∀j,(j<w4.heap.size∨v.ownBlock=some j)→j<wL.heap.size:=fun j hj=>by
      rcases hj with hj|hj
      ·have:=mL.size;omega
      ·exact(own j hj).2
     have hM:=wS (l:=⟨n1,bW up,q,ps⟩) (rqe.weak (Y:=fun k=>k<w4.heap.size∨v.ownBlock=some k) fun j hj=>.inl (by have:=hY j hj;show j<wb.heap.size;omega)) (rpe.weak fun j hj=>.inl (by have:=hY j hj;show j<wc.heap.size;omega))
     obtain⟨x75,w75,v76,w76,hr75,hr76,o76,m76,n76⟩:=oE.push (ty:=42) (t:=42) Mi wQ rfl (by omega) (by omega) (by omega) (aw.cons rfl (aw.cons rfl (aw.cons rfl (aw.cons hx.one (aw.cons hy.one (aw.cons hvp aw.nil)))))) hM cG (by omega) mLE.size
     have h76:cv g (some lD) w76:=re.mv m76 fun j hj=>by have:=own j hj;omega
     have k76:=m76.blk kE (fun hh=>by have:=own g4 hh;omega)
     obtain⟨A76,n76',c76,rfl⟩:=o76.isS
     obtain⟨wf,sf,qf,kf⟩:=k76.stC (P:=Tryz.prog) (t:=42) (i:=0) (v:=.slice A76 n76' c76) (by kernel_rfl) rfl (by simp)
     have kf:cr g4 52 [.slice A76 n76' c76,I 0,I 0,B false,.slice none 0 0,.slice none 0 0,.slice none 0 0,B (decide (tag=1)),.slice none 0 0] wf:=kf
     have mf:Mv (fun k=>k=g4) w76 wf:=Mv.of_grown qf fun k hk _=>(Option.some.inj hk).symm
     have hf:cv g (some lD) wf:=h76.mv mf fun j hj=>by omega
     have of':=o76.mv mf fun j hj=>by omega
     refine aa (ah E E (ar (o:=0) L6 E (by kernel_rfl) E) (ak E E (aj Mi E (kE.cell (i:=0) E)) ?_))
     refine ak E E (ke.ld Mk E (by kernel_rfl)) ?_
     refine aK (vs:=[(0,.agg #[I n1,B (bW up),B q.1,x,y,vp])]) E E hr75 ?_
     refine ba E E hr76 ?_
     refine ah E E (ar (o:=0) L6 E (by kernel_rfl) E) ?_
     refine aq E E sf ?_
     refine ag (aS ?_)
     refine fF (k') (.slice A76 n76' c76) (lD) (ls++[⟨n1,bW up,q,ps⟩]) ⟨rfl,rfl,rfl,rfl,rfl,trivial⟩ ⟨(mLE.trans m76 fun j hj hlt=>by have:=(own j hj).1;omega).trans mf fun _ hj _=>.inr hj,hf,kf,of',by simp;omega,pJ hR qLm,by simp;omega,by omega⟩ (by omega)
    ·refine aa (ae E E (bo E E bu (ae E E (ao E E E (ao E E E (ap E E E (ag (ab (bf E (af ?_))))))))))
     obtain⟨wd,sd,kd,fin⟩:=nE (st:=st) (nd:=.mk ls lq [] (decide (tag=1)) []) hlt l2 g42 ex4 k24 rfl mLE (aw.cons hvo (aw.cons rfl (aw.cons rfl (aw.cons rfl (aw.cons rfl (aw.cons rfl (aw.cons rfl (aw.cons rfl (aw.cons rfl aw.nil))))))))) (er (oE.rpx cG (by omega)) jz jT jT) re
     refine aa (ak E E (kE.ld L6 E (by kernel_rfl)) ?_)
     refine aq E E sd ?_
     refine ac E E (ag (ab (au (az (a6 (az (a6 (az ?_))))))))
     refine cz E E E kd L6 E (by kernel_rfl) ?_
     exact⟨_,rfl,fin false ⟨(fun e=>nomatch e),fun _=>wG qF (yO qU hR (HE q1 (hno2 rfl)))⟩⟩
   ·refine aa (ah E E (ar (o:=0) L6 E (by kernel_rfl) E) (ak E E (aj Mi E (kL.cell (i:=0) E)) ?_))
    refine aQ (r:=I ls.length) E E ((be (f:=cV) Mi rL.rp)) (aY E E (mO Mb Mc) ?_)
    refine ae E E (al E E E (cW (mt (IN hll hN).1 (by omega)) gH) (ag (ab (cp E (bg (aJ (aJ (bh (ab (af (af ?_)))))))))))
    have qLs:fK jc (some l1) ls (some l):=tP qU (by subst h0;exact hR)
    have anL:tL (n-1) (some l):=fun l' e=>by cases e;exact hnl
    by_cases ht:tag<2
    ·refine aa (ae E E (al (v:=bI 2) E E E (cw ((IN htag (by omega)).2 ht) gH) (ag (ab (bf E (af (aa (ae E E (an uD E E ((uE hrL hlL)) ?_)))))))))
     rintro v82 w82 ⟨m82,ps,vp,s3,rfl,rp82,hvp,hr82,qP⟩
     have m82:=m82
     have k82:=m82.blk kL (fun e=>by have:g4=g:=e;omega)
     obtain⟨we,se,qe,ke⟩:=k82.stC (P:=Tryz.prog) (t:=50) (i:=8) (v:=vp) (by kernel_rfl) hvp (by simp)
     have ke:cr g4 52 [v,I 0,I 0,B false,.slice none 0 0,.slice none 0 0,.slice none 0 0,B (decide (tag=1)),vp] we:=ke
     have me:Mv (fun k=>k=g4) w82 we:=Mv.of_grown qe fun k hk _=>(Option.some.inj hk).symm
     have re:cv g s3 we:=hr82.mv me fun j hj=>by omega
     have hXL:∀j,RX g j→j<w4.heap.size:=fun j hj=>by have:j=g:=hj;omega
     have oE:=(oL.mv m82 hXL).mv me fun j hj=>by omega
     have mLE:Mv (fun k=>RX g k∨k=g4) w4 we:=(mL.trans m82 fun _ hj _=>.inl hj).trans me fun _ hj _=>.inr hj
     have rpe:=rp82.mv (me.weak fun j hj _=>by show j<wL.heap.size;omega) fun _ hk=>.inl hk
     obtain⟨wd,sd,kd,fin⟩:=nE (st:=st) (nd:=.mk ls lq [] (decide (tag=1)) ps) hlt l2 g42 ex4 k24 rfl mLE (aw.cons hvo (aw.cons rfl (aw.cons rfl (aw.cons rfl (aw.cons rfl (aw.cons rfl (aw.cons rfl (aw.cons rfl (aw.cons hvp aw.nil))))))))) (er (oE.rpx cG (by omega)) jz jT (rpe.weak fun j hj=>.inl (by have:=mL.size;show j<wL.heap.size;omega))) re
     refine ae E E (am E E (bj) (am E E (bk) ?_))
     refine ah E E (ar (o:=8) L6 E (by kernel_rfl) E) ?_
     refine aq E E se ?_
     refine ac E E (ag (ab (af (aa (ak E E (ke.ld L6 E (by kernel_rfl)) (ae E E ?_))))))
     refine aq E E sd ?_
     refine ac E E (ag (ab (au (az ?_))))
     refine cz E E E kd L6 E (by kernel_rfl) ?_
     exact⟨_,rfl,fin _ ⟨fun e=>⟨FU ht qF qLs qP,fun e3=>by rw[e3] at e;cases e⟩,fun e=>Hy ht qF qLs (by
      cases s3 with
      |none=>exact qP
      |some t=>cases e)⟩⟩
    ·refine aa (ae E E (al (v:=bI 2) E E E (cW (mt (IN htag (by omega)).1 ht) gH) (ag (ab (cp E (aC (ab (af (aa (ae E E ?_))))))))))
     refine an yJ E E ((yL hrL hlL)) ?_
     rintro v90 w90 ⟨m90,d,x,y,s3,rfl,rd90,hx,hy,hr90,qD⟩
     have m90:=m90
     have k90:=m90.blk kL (fun e=>by have:g4=g:=e;omega)
     obtain⟨we,se,qe,ke⟩:=k90.stO (P:=Tryz.prog) (t:=48) (m:=[I d.kd,I d.ix,B d.at_.1,x,y]) 1 (by simp) (by kernel_rfl) (aw.cons rfl (aw.cons rfl (aw.cons rfl (aw.cons hx (aw.cons hy aw.nil)))))
     have ke:cr g4 52 [v,I d.kd,I d.ix,B d.at_.1,x,y,.slice none 0 0,B (decide (tag=1)),.slice none 0 0] we:=ke
     have me:Mv (fun k=>k=g4) w90 we:=Mv.of_grown qe fun k hk _=>(Option.some.inj hk).symm
     have re:cv g s3 we:=hr90.mv me fun j hj=>by omega
     have hXL:∀j,RX g j→j<w4.heap.size:=fun j hj=>by have:j=g:=hj;omega
     have oE:=(oL.mv m90 hXL).mv me fun j hj=>by omega
     have mLE:Mv (fun k=>RX g k∨k=g4) w4 we:=(mL.trans m90 fun _ hj _=>.inl hj).trans me fun _ hj _=>.inr hj
     have rdE:=rd90.mv (me.weak fun j hj _=>by show j<wL.heap.size;omega) fun _ hk=>.inl hk
     have jy:cL (fun k=>k<w4.heap.size∨we.heap.size≤k) we (dm d) [I d.kd,I d.ix,B d.at_.1,x,y]:=rdE.weak fun j hj=>by
      rcases hj with hj|hj
      ·exact .inl (by have:=mL.size;show j<wL.heap.size;omega)
      ·exact .inr hj
     have rLI:cL (fun k=>k<w4.heap.size∨we.heap.size≤k) we (.sl (ls.map cV)) [v]:=(oE.rpx cG (by omega)).weak fun j hj=>hj
     have eT:decide (tag=1)=false:=decide_eq_false (by omega)
     refine ae E E (am E E (bj) (am E E (bk) ?_))
     refine ah E E (ar (o:=1) L6 E (by kernel_rfl) E) ?_
     refine aq E E se ?_
     refine ac E E (ag (ab (af (af (aa (ac E E (ag (ab (aH ?_)))))))))
     refine rZ (fun(i:Nat) (vk:Value) (so:Option (List UInt8)) (ks:List aZ) (ok:Bool)=>[(0,.pointer (some ⟨g,0,none⟩)),(2,.pointer (some ⟨g2,0,none⟩)),(4,.pointer (some ⟨g4,0,none⟩)),(6,B ok),(12,I i)]) (fun(i:Nat) (vk:Value) (so:Option (List UInt8)) (ks:List aZ) (ok:Bool) w'=>Mv (fun k=>RX g k∨k=g4) w4 w'∧cv g so w'∧cr g4 52 [v,I d.kd,I d.ix,B d.at_.1,x,y,vk,B (decide (tag=1)),.slice none 0 0] w'∧f9 52 9 we.heap.size bH ks vk w'∧yN s3 i ks so ok∧ks.length=i∧i≤2∧cL (fun k=>k<w4.heap.size∨we.heap.size≤k) w' (.sl (ls.map cV)) [v]∧cL (fun k=>k<w4.heap.size∨we.heap.size≤k) w' (dm d) [I d.kd,I d.ix,B d.at_.1,x,y]∧we.heap.size≤w'.heap.size∧(ok=true→tL (n-1) so∧iL so)) (fun(i:Nat) (vk:Value) (so:Option (List UInt8)) (ks:List aZ) (ok:Bool)=>2-i) (0) (.slice none 0 0) (s3) ([]) (s3.isSome) ⟨rfl,rfl,rfl,rfl,rfl,trivial⟩ ⟨mLE,re,ke,f9.nil _,⟨rfl,rfl,rfl⟩,rfl,by omega,rLI,jy,Nat.le_refl _,fun _=>⟨qD.atM nB.le anL,qD.atM nB.le hlL⟩⟩ ?_
     rintro i vk so ks ok wM ⟨mM,hrM,kM,oM,hK,hki,hi2,rLM,rdM,szM,hAt⟩
     refine af (af ?_)
     rcases ok with _|_
     rotate_left
     by_cases hi:i<2
     ·refine aa (ae E E (ae E E (ai E (ae E E (ai E (al E E E (cw (by omega) bc) (ap E E E (ag (ab (bf E ?_))))))))))
      refine aC (ab (af (aH (af (aa ?_)))))
      obtain⟨g13,w13,hr13,l13,x13,k13⟩:=aX (P:=Tryz.prog) (w:=wM) (t:=52) (z:=.agg #[.slice none 0 0,I 0,I 0,B false,.slice none 0 0,.slice none 0 0,.slice none 0 0,B false,.slice none 0 0]) (l:=[.slice none 0 0,I 0,I 0,B false,.slice none 0 0,.slice none 0 0,.slice none 0 0,B false,.slice none 0 0]) (by kernel_rfl) rfl
      refine aV E hr13 (ag (ab (af ?_)))
      have hrM13:=cv.ext hrM x13
      have e13:=x13
      have lt13:=k13.lt
      have szM13:=e13.size
      have hg13:g<g13:=by have:=mM.size;omega
      refine aa (ae E E (an wK E E ((ih (m:=n-1) (by omega) hrM13 (hAt E).2 (hAt E).1)) ?_))
      rintro v103 w103 ⟨m103,nd,cs,s6,ok6,rfl,rp103,h1cs,hr103,hNd⟩
      have m103:=m103
      have hcs:cs.length=9:=rp103.len.trans (cE nd)
      have k103:=m103.blk k13 (fun e=>by have:g13=g:=e;omega)
      obtain⟨wn,sn,qn,kn⟩:=k103.stS (P:=Tryz.prog) (t:=52) (m:=cs) (by rw[hcs];rfl) (by rw[hcs];kernel_rfl) h1cs
      have mn:Mv (fun k=>k=g13) w103 wn:=Mv.of_grown qn fun k hk _=>(Option.some.inj hk).symm
      have rn:cv g s6 wn:=hr103.mv mn fun j hj=>by omega
      have mAll:Mv (RX g) wM wn:=((Mv.of_ext e13).trans m103 fun _ hj _=>hj).trans mn fun j hj hlt=>by omega
      have hXE:∀j,RX g j→j<we.heap.size:=fun j hj=>by have:j=g:=hj;have:=mLE.size;omega
      have oN:=oM.mv mAll hXE
      have kN:=mAll.blk kM (fun e=>by have:g4=g:=e;omega)
      have mN:Mv (fun k=>RX g k∨k=g4) w4 wn:=mM.trans mAll fun _ hj _=>.inl hj
      have rpn:=rp103.mv (mn.weak fun j hj _=>by show j<w13.heap.size;omega) fun _ hk=>.inl hk
      have own:∀j,vk.ownBlock=some j→we.heap.size≤j∧j<wM.heap.size:=oM.lt
      have hY:∀j,(j<we.heap.size∨vk.ownBlock=some j)→j<w13.heap.size:=fun j hj=>by
       rcases hj with hj|hj
       ·omega
       ·have:=(own j hj).2;omega
      obtain⟨x109,w109,v110,w110,hr109,hr110,o110,m110,n110⟩:=oN.push (ty:=49) (t:=49) Mh FX rfl (by omega) (by omega) (by omega) h1cs (rpn.weak fun j hj=>.inl (hY j hj)) cE (by omega) (Nat.le_trans szM mAll.size)
      have h110:cv g s6 w110:=rn.mv m110 fun j hj=>by have:=own j hj;have:=mLE.size;omega
      have k110:=m110.blk kN (fun hh=>by have:=own g4 hh;have:=mLE.size;omega)
      obtain⟨A110,n110',c110,rfl⟩:=o110.isS
      obtain⟨wf,sf,qf,kf⟩:=k110.stC (P:=Tryz.prog) (t:=49) (i:=6) (v:=.slice A110 n110' c110) (by kernel_rfl) rfl (by simp)
      have kf:cr g4 52 [v,I d.kd,I d.ix,B d.at_.1,x,y,.slice A110 n110' c110,B (decide (tag=1)),.slice none 0 0] wf:=kf
      have mf:Mv (fun k=>k=g4) w110 wf:=Mv.of_grown qf fun k hk _=>(Option.some.inj hk).symm
      have hf:cv g s6 wf:=h110.mv mf fun j hj=>by omega
      have of':=o110.mv mf fun j hj=>by have:=mLE.size;omega
      have mI:Mv (fun k=>k<w4.heap.size∨we.heap.size≤k) wM wf:=((mAll.weak fun j hj _=>.inl (by have:j=g:=hj;omega)).trans m110 fun j hj _=>.inr (own j hj).1).trans mf fun j hj _=>.inl (by omega)
      have rLf:=rLM.mv mI fun _ hk=>.inl hk
      have rdf:=rdM.mv mI fun _ hk=>.inl hk
      refine ae E E (am E E (bj) (am E E (bk) ?_))
      refine aq E E sn ?_
      refine ac E E (ag (ab (aa (ah E E (ar (o:=6) L6 E (by kernel_rfl) E) (ak E E (aj Mh E (kN.cell (i:=6) E)) ?_)))))
      refine ak E E (kn.ld L6 E (by rw[hcs];kernel_rfl)) ?_
      refine aK (vs:=[(0,.agg cs.toArray)]) E E hr109 ?_
      refine ba E E hr110 ?_
      refine ah E E (ar (o:=6) L6 E (by kernel_rfl) E) ?_
      refine aq E E sf ?_
      refine ag (aS (ab (aa (ae E E (al E E E (aP (by omega) (by omega)) (ac E E (ag ?_)))))))
      refine oB (i+1) (.slice A110 n110' c110) (s6) (ks++[nd]) (ok6) ⟨rfl,rfl,rfl,rfl,rfl,trivial⟩ ⟨(mN.trans m110 fun j hj hlt=>by have:=(own j hj).1;have:=mLE.size;omega).trans mf fun _ hj _=>.inr hj,hf,kf,of',hK.step hi hNd,by simp;omega,by omega,rLf,rdf,Nat.le_trans szM (Nat.le_trans mAll.size (Nat.le_trans m110.size mf.size)),fun e=>⟨(hNd.1 e).1.atM Es.le (hAt E).1,(hNd.1 e).1.atM Es.le (hAt E).2⟩⟩ (by omega)
     ·refine aa (ae E E (ae E E (ai E (ae E E (ai E (al E E E (cW (by omega) bc) (ap E E E (ag (ab (cp E ?_))))))))))
      refine bg (aJ (aJ (bh (ab (af ?_)))))
      have hvk:vk.oneCell'=true:=by obtain⟨_,_,_,rfl⟩:=oM.isS;rfl
      obtain⟨wd,sd,kd,fin⟩:=nE (st:=st) (nd:=.mk ls d ks (decide (tag=1)) []) hlt l2 g42 ex4 k24 rfl mM (aw.cons hvo (aw.cons rfl (aw.cons rfl (aw.cons rfl (aw.cons hx (aw.cons hy (aw.cons hvk (aw.cons rfl (aw.cons rfl aw.nil))))))))) (er (rLM.weak fun j hj=>.inl (.inl hj)) (rdM.weak fun j hj=>.inl (.inl hj)) ((oM.rpx cE (by omega)).weak fun j hj=>.inl (by have:=mLE.size;show j<we.heap.size;omega)) jT) hrM
      refine aa (ak E E (kM.ld L6 E (by kernel_rfl)) (ae E E ?_))
      refine aq E E sd ?_
      refine ac E E (ag (ab (au ?_)))
      refine cz E E E kd L6 E (by kernel_rfl) ?_
      exact⟨_,rfl,fin true (by rw[eT];exact hK.done (.inr (by omega)) ht qF qLs qD)⟩
     ·refine aa (ae E E (ae E E (ao E E E (ao E E E (aE E E E (ag (ab (cp E (bg (aJ (aJ (bh (ab (af ?_))))))))))))))
      have hvk:vk.oneCell'=true:=by obtain⟨_,_,_,rfl⟩:=oM.isS;rfl
      obtain⟨wd,sd,kd,fin⟩:=nE (st:=st) (nd:=.mk ls d ks (decide (tag=1)) []) hlt l2 g42 ex4 k24 rfl mM (aw.cons hvo (aw.cons rfl (aw.cons rfl (aw.cons rfl (aw.cons hx (aw.cons hy (aw.cons hvk (aw.cons rfl (aw.cons rfl aw.nil))))))))) (er (rLM.weak fun j hj=>.inl (.inl hj)) (rdM.weak fun j hj=>.inl (.inl hj)) ((oM.rpx cE (by omega)).weak fun j hj=>.inl (by have:=mLE.size;show j<we.heap.size;omega)) jT) hrM
      refine aa (ak E E (kM.ld L6 E (by kernel_rfl)) (ae E E ?_))
      refine aq E E sd ?_
      refine ac E E (ag (ab (au ?_)))
      refine cz E E E kd L6 E (by kernel_rfl) ?_
      exact⟨_,rfl,fin false (by rw[eT];exact hK.done (.inl rfl) ht qF qLs qD)⟩
theorem Dg:∀(n:Nat) {w:World} {g:Nat} {st:Option (List UInt8)},cv g st w→iL st→tL n st→Calls Tryz.prog 96 #[.pointer (some ⟨g,0,none⟩)] w (bE (Eu g w st)):=by
 intro n
 induction n using Nat.strongRecOn with
 |_ n ih=>exact fun hr hl hn=>Df (n:=n) (fun {w g st m} hm h1 h2 h3=>ih m hm h1 h2 h3) hr hl hn
end Go.Rl
namespace Go.Rl
open Go.RowKit Go.Proofs
theorem Ev {w:World} {g:Nat} {st:Option (List UInt8)} (hr:cv g st w):Calls Tryz.prog 97 #[.pointer (some ⟨g,0,none⟩)] w (bE fun r w'=>w=w'∧r=I (if st=some [] then 0 else 5)):=(C6 hr).mono fun _ _ ⟨v,h,h1,h2⟩=>⟨v,h,h2.symm,h1⟩
theorem HH {P:Program} {w:World} {t:TypeId} {x y:Operand} {l:List UInt8}:(bin .eql t x y (I (if some l=some [] then 0 else 5)) (I 0)).run P w=.ok (B (decide (l=[]))) w:=by
 by_cases h:l=[]
 ·subst h
  exact bi
 ·rw[if_neg (fun e=>h (Option.some.inj e)),decide_eq_false h]
  exact bi
end Go.Rl
namespace Go.Rl
open Go.RowKit Go.Proofs
theorem KJ (st:Option (List UInt8)):∃n s1,fK eJ st n s1∧n<18446744073709551616∧∀{w:World} {g:Nat},cQ g st w→Calls Tryz.prog 89 #[.pointer (some ⟨g,0,none⟩)] w (bE fun r w'=>w.grownBy w' (some g)∧r=.tuple #[bI (UInt64.ofNat n),I (if s1.isSome=true then 0 else 5)]∧cQ g s1 w'):=by
 cases hU:st.bind eJ with
 |none=>exact⟨0,none,hU,by omega,fun hr=>J6 hr hU⟩
 |some p=>
  obtain⟨n,t⟩:=p
  refine⟨n,some t,hU,?_,fun hr=>Hs hr hU⟩
  cases st with
  |none=>cases hU
  |some l=>exact(gd (show eJ l=some (n,t) from hU)).2
theorem KK (st:Option (List UInt8)):∃n s1,fK jy st n s1∧lK n∧∀{w:World} {g:Nat},cQ g st w→Calls Tryz.prog 158 #[.pointer (some ⟨g,0,none⟩)] w (bE fun r w'=>w.grownBy w' (some g)∧r=.tuple #[I n,I (if s1.isSome=true then 0 else 5)]∧cQ g s1 w'):=by
 cases hU:st.bind eJ with
 |none=>
  refine⟨0,none,?_,by unfold lK;omega,fun hr=>LJ hr hU⟩
  cases st with
  |none=>rfl
  |some l=>show(eJ l).map _=none;rw[show eJ l=none from hU];rfl
 |some p=>
  obtain⟨n,t⟩:=p
  have hI:fK jy st (uz n) (some t):=by
   cases st with
   |none=>cases hU
   |some l=>show(eJ l).map _=_;rw[show eJ l=some (n,t) from hU];rfl
  exact⟨uz n,some t,hI,Ab hI,fun hr=>LK hr hU⟩
def wT (b:Nat) (q:fj):dN:=fun v w=>∃x y,v=.agg #[B q.1,x,y]∧cL (fun k=>k<b) w (iX q) [B q.1,x,y]
def LO (b:Nat) (q:fj) (e:Int):dN:=fun v w=>∃x y,v=.tuple #[.agg #[B q.1,x,y],I e]∧cL (fun k=>k<b) w (iX q) [B q.1,x,y]
theorem ku {X:Nat→Prop} {w:World} {q:fj} {x y:Value} (h:cL X w (iX q) [B q.1,x,y]):x.oneCell'=true∧y.oneCell'=true:=by
 obtain⟨x',y',he,hx,hy⟩:=mJ h.rp
 simp only[List.cons.injEq] at he
 obtain⟨_,rfl,rfl,_⟩:=he
 obtain⟨_,_,_,rfl⟩:=hx.isS
 obtain⟨_,_,_,rfl⟩:=hy.isS
 exact⟨rfl,rfl⟩
theorem KL (st:Option (List UInt8)):∃q s1,fK jb st q s1∧(iL st→∀{w:World} {g:Nat},cQ g st w→Calls Tryz.prog 159 #[.pointer (some ⟨g,0,none⟩)] w (bE fun r w'=>w.grownBy w' (some g)∧LO w.heap.size q (if s1.isSome=true then 0 else 5) r w'∧cQ g s1 w')):=by
 cases hR:st.bind jb with
 |none=>
  refine⟨(false,[],[]),none,hR,fun hl w g hr=>(wj hr hl).mono fun r w' ⟨r',he,h1,h2⟩=>⟨r',he,h1,?_⟩⟩
  rw[hR] at h2
  obtain⟨v,h3,⟨x,y,rfl,hx,hy⟩,h4⟩:=h2
  have hn:∀{z:Value},bt [] z w'→cL (fun k=>k<w.heap.size) w' (nj []) [z]:=fun {z} hz=>by
   obtain⟨A,n,c,rfl,h5,h6,h7,h8,h9⟩:=hz
   simp only[nj,List.map_nil,cL]
   have:n=0:=by simp at h7;omega
   subst this
   exact⟨A,0,c,rfl,rfl,h5,h6,h9,fun h=>by omega⟩
  refine⟨⟨x,y,h3,?_⟩,h4⟩
  simp only[iX,cL]
  exact aT.cons (a:=[B false]) (by simp only[cL,B]) (aT.cons (hn hx) (aT.cons (b:=[]) (hn hy) aT.nil))
 |some p=>
  obtain⟨q,t⟩:=p
  refine⟨q,some t,hR,fun hl w g hr=>(wj hr hl).mono fun r w' ⟨r',he,h1,h2⟩=>⟨r',he,h1,?_⟩⟩
  rw[hR] at h2
  obtain⟨x,y,h3,hx,hy,h4,n1,n2⟩:=h2
  refine⟨⟨x,y,h3,?_⟩,h4⟩
  simp only[iX,cL]
  exact aT.cons (a:=[B q.1]) (by simp only[cL,B]) (aT.cons (n1.rpx' hx) (aT.cons (b:=[]) (n2.rpx' hy) aT.nil))
end Go.Rl
namespace Go.Rl
open Go.RowKit Go.Proofs
theorem Sl.mv {X:Nat→Prop} {w w':World} {sz:Nat} {xs:List Value} {v:Value} (h:Sl sz xs v w) (hm:Mv X w w') (hx:∀k,v.ownBlock=some k→¬X k):Sl sz xs v w':=by
 obtain⟨A,n,c,rfl,h2,h3,h4,h5,h6⟩:=h
 exact⟨A,n,c,rfl,h2,h3,h4,fun hn=>(h5 hn).imp fun ad h=>⟨h.1,hm.cells h.2 fun _=>hx ad.block (by rw[h.1];rfl)⟩,h6⟩
def wU {α:Type} (b sz:Nat) (f:α→Dt) (l:List α):dN:=fun v w=>∃cs,Sl sz cs v w∧(∀k,v.ownBlock=some k→b≤k)∧aw cs∧aT (fun k=>k<b) w (l.map f) cs
theorem aT.one {X:Nat→Prop} {w:World} {d:Dt} {cs:List Value} (h:aT X w [d] cs):cL X w d cs:=by
 simp only[aT] at h
 obtain⟨c1,c2,rfl,h1,rfl⟩:=h
 simpa using h1
theorem HI {α:Type} {P:Program} {w:World} {t e:TypeId} {z:Value} {sz bytes b:Nat} {f:α→Dt} {a:α} {cs:List Value} (ht:P.underlying t=some (.slice e)) (hi:(P.info? e).map (fun i=>(i.zero,i.size,i.bytes))=some (some z,sz,bytes)) (hzs:z.cells.size=sz) (h0:0<sz) (hsb:sz≤16777216)
 (hb:b≤w.heap.size) (h1:aw cs) (ha:cL (fun k=>k<b) w (f a) cs) (hs:(f a).size=sz):∃r w',(Instr.buildSlice t 1 (eI 0 [Value.agg cs.toArray]).toArray).run P w=.ok r w'∧aN w w'∧wU b sz f [a] r w':=by
 have hcl:cs.length=sz:=by rw[ha.len,hs]
 have hi2:(P.info? e).map (fun i=>(i.zero,i.size))=some (some z,sz):=by
  obtain⟨i,hi',h2⟩:=Option.map_eq_some_iff.1 hi
  simp only[Prod.mk.injEq] at h2
  rw[hi']
  simp[h2.1,h2.2.1]
 obtain⟨x,w0,h3,h4,h5,h6⟩:=wo (w:=w) ht hi2 hzs h0 [cs] (by simp[hcl]) (by simp) (by simpa using hsb)
 refine⟨x,w0,by simpa using h3,h4,cs,by simpa using h5,fun k hk=>?_,h1,?_⟩
 ·rw[h6] at hk
  obtain rfl:=Option.some.inj hk
  exact hb
 ·simpa using aT.cons (b:=[]) (ha.ext h4) aT.nil
def HJ (b:Nat) (T:TypeId) (l:List Value):dN:=fun v w=>∃g5,v=.pointer (some ⟨g5,0,none⟩)∧b≤g5∧cr g5 T l w
theorem KM {P:Program} {w:World} {t:TypeId} {z:Value} {l:List Value} {b:Nat} (h:(P.info? t).map (·.zero)=some (some z)) (hv:z.cells=l.toArray) (hb:b≤w.heap.size):∃r w',(Instr.alloc t true (.tuple #[])).run P w=.ok r w'∧aN w w'∧HJ b t l r w':=by
 obtain⟨g,w',h1,h2,h3,h4⟩:=aX (w:=w) h hv
 exact⟨_,w',h1,h3,g,rfl,Nat.le_trans hb h2,h4⟩
end Go.Rl
namespace Go.Rl
open Go.RowKit Go.Proofs
end Go.Rl
namespace Go.Rl
open Go.RowKit Go.Proofs
end Go.Rl
namespace Go.Rl
open Go.RowKit Go.Proofs
end Go.Rl
namespace Go.Rl
open Go.RowKit Go.Proofs
end Go.Rl
namespace Go.Rl
open Go.RowKit
end Go.Rl
namespace Go.Rl
open Go.RowKit
end Go.Rl
namespace Go.Rl
open Go.RowKit Go.Proofs
end Go.Rl
namespace Go.Rl
def xW (d:bV):Bool:=decide (d.kd=0)&&decide (d.ix=0)&&decide (d.at_=KH)
def oY (n:aZ):Bool:=decide (1≤n.split.kd)&&decide (n.split.kd≤4)&& !n.empty&&decide (n.pf.length=0)
def lp:Nat→aZ→Bool×Nat
 |0,_=>(false,0)
 |l+1,n=>match n.kids with
  |[]=>(xW n.split,1)
  |[x,y]=>if oY n=true then
    (if (lp l x).1=false∨65536<(lp l x).2 then(false,0) else((lp l y).1,1+(lp l x).2+(lp l y).2))
   else(false,0)
  |_=>(false,0)
def lO:Nat→Int→aZ→Int×Bool
 |d,most,n=>if most<1 then(0,false) else match n.kids with
  |[]=>(1,xW n.split)
  |[x,y]=>if oY n=true then(match d with
    |0=>(0,false)
    |d+1=>if (lO d (most-1) x).2=false then(0,false) else(1+(lO d (most-1) x).1+(lO d (most-1-(lO d (most-1) x).1) y).1,(lO d (most-1-(lO d (most-1) x).1) y).2))
   else(0,false)
  |_=>(0,false)
def Gr:Nat→aZ→Bool
 |d,n=>match n.kids with
  |[]=>xW n.split
  |[x,y]=>oY n&&(match d with
    |0=>false
    |d+1=>Gr d x&&Gr d y)
  |_=>false
def tS:Nat→aZ→Nat
 |d,n=>match n.kids with
  |[x,y]=>(match d with
    |0=>1
    |d+1=>1+tS d x+tS d y)
  |_=>1
theorem BK (d:Nat) (n:aZ):1≤tS d n:=by
 unfold tS
 split
 ·split<;>omega
 ·omega
theorem Aj:∀(d:Nat) (n:aZ),(lp (d+1) n).1=true→Gr d n=true∧(lp (d+1) n).2=tS d n
 |d,n,h=>by
  unfold lp at h⊢
  unfold Gr tS
  split at h
  ·rename_i e
   simp only[e]
   exact⟨h,trivial⟩
  ·rename_i x y e
   simp only[e]
   split at h
   ·rename_i hi
    rw[if_pos hi]
    split at h
    ·cases h
    ·rename_i hx
     rw[if_neg hx]
     simp only[not_or,Bool.not_eq_false,Nat.not_lt] at hx
     cases d with
     |zero=>simp[lp] at hx
     |succ d=>
      obtain⟨a1,a2⟩:=Aj d x hx.1
      obtain⟨b1,b2⟩:=Aj d y h
      exact⟨by simp[hi,a1,b1],by simp[a2,b2]⟩
   ·cases h
  ·cases h
theorem Dh:∀(d:Nat) (n:aZ),Gr d n=true→tS d n≤65536→(lp (d+1) n).1=true
 |d,n,h,hc=>by
  unfold Gr at h
  unfold tS at hc
  unfold lp
  split at h
  ·exact h
  ·rename_i x y e
   simp only[e,Bool.and_eq_true] at h hc⊢
   rw[if_pos h.1]
   cases d with
   |zero=>simp at h
   |succ d=>
    simp only[Bool.and_eq_true] at h hc
    have a:=Dh d x h.2.1 (by omega)
    have b:=Dh d y h.2.2 (by omega)
    have a2:=(Aj d x a).2
    rw[if_neg (by rw[a2,a];simp;omega)]
    exact b
  ·cases h
theorem Ak:∀(d:Nat) (most:Int) (n:aZ),(lO d most n).2=(Gr d n&&decide ((tS d n:Int)≤most))∧((lO d most n).2=true→(lO d most n).1=tS d n)
 |d,most,n=>by
  have hp:=BK d n
  unfold lO
  by_cases hm:most<1
  ·rw[if_pos hm,decide_eq_false (by omega)]
   simp
  ·rw[if_neg hm]
   unfold Gr tS
   generalize n.kids=ks
   rcases ks with _|⟨x,_|⟨y,_|⟨z,t⟩⟩⟩
   ·refine⟨?_,fun _=>rfl⟩
    show xW n.split=(xW n.split&&decide (((1:Nat):Int)≤most))
    rw[decide_eq_true (by omega),Bool.and_true]
   ·simp
   ·by_cases hi:oY n=true
    ·show(if oY n=true then _ else _:Int×Bool).2=(oY n&&_&&_)∧_
     rw[if_pos hi,hi]
     cases d with
     |zero=>simp
     |succ d=>
      obtain⟨a1,a2⟩:=Ak d (most-1) x
      simp only[Bool.true_and]
      by_cases hx:(lO d (most-1) x).2=false
      ·rw[if_pos hx]
       rw[hx] at a1
       refine⟨?_,fun h=>by cases h⟩
       have hpy:=BK d y
       cases hk:Gr d x with
       |false=>simp
       |true=>
        rw[hk,Bool.true_and] at a1
        have:=of_decide_eq_false a1.symm
        rw[decide_eq_false (by omega)]
        simp
      ·rw[if_neg hx]
       have hx':(lO d (most-1) x).2=true:=by simpa using hx
       have e1:=a2 hx'
       rw[hx'] at a1
       simp only[Bool.true_eq,Bool.and_eq_true,decide_eq_true_eq] at a1
       rw[e1]
       obtain⟨b1,b2⟩:=Ak d (most-1-(tS d x:Int)) y
       refine⟨?_,fun h=>?_⟩
       ·rw[b1,a1.1,Bool.true_and]
        congr 1
        exact decide_eq_decide.2 (by omega)
       ·rw[b2 (by simpa using h)]
        simp only[if_true]
        omega
    ·have hi':oY n=false:=by simpa using hi
     simp[hi']
   ·simp
def qo (n:aZ):Bool:=Gr 2048 n&&decide (tS 2048 n≤65536)
theorem HK (n:aZ):(lO 2048 65536 n).2=qo n:=by
 rw[(Ak 2048 65536 n).1]
 unfold qo
 congr 1
 exact decide_eq_decide.2 (by omega)
theorem HL (n:aZ):((lp 2049 n).1&&decide ((lp 2049 n).2≤65536))=qo n:=by
 unfold qo
 cases h:(lp 2049 n).1 with
 |true=>
  obtain⟨a,b⟩:=Aj 2048 n h
  rw[a,b]
 |false=>
  rw[Bool.false_and]
  cases hk:Gr 2048 n with
  |false=>rfl
  |true=>
   rw[Bool.true_and]
   refine(decide_eq_false fun hc=>?_).symm
   have:=Dh 2048 n hk hc
   rw[h] at this
   cases this
end Go.Rl
namespace Go.Rl
open Go.RowKit Go.Proofs
end Go.Rl
namespace Go.Rl
open Go.RowKit Go.Proofs
theorem sK:aG Tryz.prog 168:=⟨_,Tryz.func168,by kernel_rfl,rfl⟩
theorem sO {w:World} {l m:List UInt32} {v u:Value} (hv:bt l v w) (hu:bt m u w):
 Calls Tryz.prog 168 #[v,u] w (bE fun r w'=>aN w w'∧r=B (decide (l=m))):=by
 refine enter (vs:=[v,u]) Tryz.func168 E E E ?_
 have hll:=hv.len
 refine af (aa (ac E E (ag (ab (af (af (aa (ae E E (aQ E E (bF L5 hv) (ae E E (aQ E E (bF L5 hu) ?_)))))))))))
 refine al E E E (cC) (ag (ab ?_))
 refine bw E (fun h10=>?_) (fun h10=>?_)
 ·have hne:l≠m:=fun h=>h10 (by rw[h])
  refine af (aa (ac E E (ag (ab (au (az (aA E E ?_)))))))
  exact⟨_,rfl,aN.refl _,congrArg B (decide_eq_false hne).symm⟩
 ·have hlen:l.length=m.length:=by omega
  refine aC (ab (af (af (aa (ae E E (aQ E E (bF L5 hv) (ae E E (ag (ab (aH ?_))))))))))
  refine cm (α:=Nat) (fun x=>[(0,v),(1,u),(12,I (l.length:Int)),(13,I (x:Int))]) (fun x w'=>aN w w'∧x≤l.length∧l.take x=m.take x) (fun x=>l.length-x) (0) ⟨rfl,rfl,rfl,rfl,trivial⟩ ⟨aN.refl _,by omega,rfl⟩ ?_
  rintro i w4 ⟨e4,hi,ht⟩
  refine af (aa (al E E E (bc) (ag (ab (af ?_)))))
  refine bw E (fun h14=>?_) (fun h14=>?_)
  ·refine aC (ab (af (aH (af (aa (ae E E (ac E E (ag (ab (af (bO 8 [0,1,12,13,19,23] (by kernel_rfl) (by kernel_rfl) ?_)))))))))))
   refine aD E E (aD E E ?_)
   obtain⟨a18,p18,q18⟩:=cZ L5 (hv.ext e4) (i:=i) (by omega) .i64
   refine aF E E E (fun w _=>p18 w) (aO E E (fun w hw=>aj L7 E (hw.cell_some q18)) (aD E E (aD E E ?_)))
   obtain⟨a22,p22,q22⟩:=cZ L5 (hu.ext e4) (i:=i) (by omega) .i64
   refine aF E E E (fun w _=>p22 w) (aO E E (fun w hw=>aj L7 E (hw.cell_some q22)) (cq ?_))
   intro wg6 xg6
   rintro _ hq0
   obtain rfl:=Eq.symm hq0
   rintro _ hq1
   obtain rfl:=Eq.symm hq1
   rintro _ rfl
   rintro _ rfl
   rintro _ rfl
   rintro _ rfl
   refine al E E E (mg) (ag (ab ?_))
   refine bw E (fun h24=>?_) (fun h24=>?_)
   ·have hne:l≠m:=fun h=>h24 (by subst h;rfl)
    refine af (aa (ac E E (ag (ab (au (a6 (az (az (a6 (az (aA E E ?_)))))))))))
    exact⟨_,rfl,(e4.trans xg6),congrArg B (decide_eq_false hne).symm⟩
   ·have he:l[i]'(by omega)=m[i]'(by omega):=Classical.byContradiction fun h=>h24 h
    refine aC (aS (ab (aa (al (r:=I ((i+1:Nat):Int)) E E E (by have e:((i+1:Nat):Int)=(i:Int)+1:=(by omega);rw[e];exact aP (by omega) (by omega)) ?_))))
    refine ae E E (ag ?_)
    refine bT (i+1) ⟨rfl,rfl,rfl,rfl,trivial⟩ ⟨(e4.trans xg6),by omega,by rw[List.take_succ_eq_append_getElem (by omega),List.take_succ_eq_append_getElem (by omega),ht,he]⟩ (by omega)
  ·refine bg (aJ (aJ (bh (ab (af (aa (ac E E (ag (ab (au (aA E E ?_)))))))))))
   exact⟨_,rfl,e4,by
    rw[List.take_of_length_le (by omega),List.take_of_length_le (by omega)] at ht
    rw[decide_eq_true ht];rfl⟩
end Go.Rl
namespace Go.Rl
open Go.RowKit Go.Proofs
theorem Al:aG Tryz.prog 169:=⟨_,Tryz.func169,by kernel_rfl,rfl⟩
theorem Am:aG Tryz.prog 144:=⟨_,Tryz.func144,by kernel_rfl,rfl⟩
theorem lP:aG Tryz.prog 111:=⟨_,Tryz.func111,by kernel_rfl,rfl⟩
theorem gx:aG Tryz.prog 66:=⟨_,Tryz.func66,by kernel_rfl,rfl⟩
theorem tT:aG Tryz.prog 69:=⟨_,Tryz.func69,by kernel_rfl,rfl⟩
theorem rl:aG Tryz.prog 72:=⟨_,Tryz.func72,by kernel_rfl,rfl⟩
theorem oZ:aG Tryz.prog 29:=⟨_,Tryz.func29,by kernel_rfl,rfl⟩
theorem An {w:World} {a b:fj} {x y p q:Value} (ha:bt a.2.1 x w) (ha':bt a.2.2 y w) (hb:bt b.2.1 p w) (hb':bt b.2.2 q w):
 Calls Tryz.prog 169 #[.agg #[B a.1,x,y],.agg #[B b.1,p,q]] w (bE fun r w'=>aN w w'∧r=B (decide (a=b))):=by
 refine enter (vs:=[.agg #[B a.1,x,y],.agg #[B b.1,p,q]]) Tryz.func169 E E E ?_
 refine af (aa ?_)
 obtain⟨g2,w2,hr2,l2,x2,k2⟩:=cD (P:=Tryz.prog) (w:=w) (T:=46) (cs:=[B a.1,x,y])
 refine cI E E hr2 ?_
 obtain⟨g3,w3,hr3,l3,x3,k3⟩:=cD (P:=Tryz.prog) (w:=w2) (T:=46) (cs:=[B b.1,p,q])
 refine cI E E hr3 (ac E E (ag (ab (af (aa (ah E E (ar (o:=0) L9 E (by kernel_rfl) E) ?_))))))
 refine ak E E (aj Me E (x3.cell_some (k2.cell (i:=0) E))) (ah E E (ar (o:=0) L9 E (by kernel_rfl) E) ?_)
 refine ak E E (aj Me E (k3.cell (i:=0) E)) (al E E E (uZ Me) (ae E E ?_))
 refine cb (fun h10=>?_) (fun h10=>?_)
 ·refine ai E (ah E E (ar (o:=1) L9 E (by kernel_rfl) E) (ai E (ak E E (aj L5 E (x3.cell_some (k2.cell (i:=1) E))) ?_)))
  refine ai E (ah E E (ar (o:=1) L9 E (by kernel_rfl) E) (ai E (ak E E (aj L5 E (k3.cell (i:=1) E)) ?_)))
  refine ai E (an sK E E (sO (ha.ext (x2.trans x3)) (hb.ext (x2.trans x3))) ?_)
  rintro v15 w15 ⟨x15,rfl⟩
  refine ap E E E (ae E E ?_)
  refine cb (fun h17=>?_) (fun h17=>?_)
  ·refine ai E (ah E E (ar (o:=2) L9 E (by kernel_rfl) E) (ai E (ak E E (aj L5 E ((x3.trans x15).cell_some (k2.cell (i:=2) E))) ?_)))
   refine ai E (ah E E (ar (o:=2) L9 E (by kernel_rfl) E) (ai E (ak E E (aj L5 E (x15.cell_some (k3.cell (i:=2) E))) ?_)))
   refine ai E (an sK E E (sO (ha'.ext ((x2.trans x3).trans x15)) (hb'.ext ((x2.trans x3).trans x15))) ?_)
   rintro v22 w22 ⟨x22,rfl⟩
   refine ap E E E (ac E E (ag (ab (au (aA E E ?_)))))
   exact⟨_,rfl,(((x2.trans x3).trans x15).trans x22),by
    first
    |exact congrArg B (decide_eq_decide.2 ⟨fun h=>Prod.ext h10 (Prod.ext h17 h),fun h=>by rw[h]⟩)
    |exact congrArg B (decide_eq_false fun h=>h17 (by rw[h])).symm
    |exact congrArg B (decide_eq_false fun h=>h10 (by rw[h])).symm⟩
  ·refine ao E E E (ao E E E (ao E E E (ao E E E (ao E E E (aE E E E (ac E E (ag (ab (au (aA E E ?_))))))))))
   exact⟨_,rfl,((x2.trans x3).trans x15),by
    first
    |exact congrArg B (decide_eq_decide.2 ⟨fun h=>Prod.ext h10 (Prod.ext h17 h),fun h=>by rw[h]⟩)
    |exact congrArg B (decide_eq_false fun h=>h17 (by rw[h])).symm
    |exact congrArg B (decide_eq_false fun h=>h10 (by rw[h])).symm⟩
 ·refine ao E E E (ao E E E (ao E E E (ao E E E (ao E E E (aE E E E (ae E E (ao E E E (ao E E E (ao E E E ?_)))))))))
  refine ao E E E (ao E E E (aE E E E (ac E E (ag (ab (au (aA E E ?_)))))))
  exact⟨_,rfl,(x2.trans x3),by
   first
   |exact congrArg B (decide_eq_decide.2 ⟨fun h=>Prod.ext h10 (Prod.ext h17 h),fun h=>by rw[h]⟩)
   |exact congrArg B (decide_eq_false fun h=>h17 (by rw[h])).symm
   |exact congrArg B (decide_eq_false fun h=>h10 (by rw[h])).symm⟩
theorem Di {w:World} {a b:fj} {x y p q:Value} (ha:bt a.2.1 x w) (ha':bt a.2.2 y w) (hb:bt b.2.1 p w) (hb':bt b.2.2 q w):
 Calls Tryz.prog 105 #[.agg #[B a.1,x,y],.agg #[B b.1,p,q]] w (bE fun r w'=>aN w w'∧r=B (decide (a=b))):=by
 refine bE.mono (vX (a:=a.1) (b:=b.1) ⟨x,y,rfl,ha,ha'⟩ ⟨p,q,rfl,hb,hb'⟩) fun r w' h=>⟨h.1,h.2.trans (congrArg B (decide_eq_decide.2 ⟨fun h=>Prod.ext h.1 (Prod.ext h.2.1 h.2.2),fun h=>by rw[h];exact⟨rfl,rfl,rfl⟩⟩))⟩
deriving instance DecidableEq for bV
theorem bV.ext' {a b:bV} (h1:a.kd=b.kd) (h2:a.ix=b.ix) (h3:a.at_=b.at_):a=b:=by
 cases a;cases b
 simp only at h1 h2 h3
 rw[h1,h2,h3]
theorem Ao {w:World} {a b:bV} {x y p q:Value} (ha:bt a.at_.2.1 x w) (ha':bt a.at_.2.2 y w) (hb:bt b.at_.2.1 p w) (hb':bt b.at_.2.2 q w):
 Calls Tryz.prog 144 #[.agg #[I a.kd,I a.ix,B a.at_.1,x,y],.agg #[I b.kd,I b.ix,B b.at_.1,p,q]] w (bE fun r w'=>aN w w'∧r=B (decide (a=b))):=by
 refine enter (vs:=[.agg #[I a.kd,I a.ix,B a.at_.1,x,y],.agg #[I b.kd,I b.ix,B b.at_.1,p,q]]) Tryz.func144 E E E ?_
 refine af (aa ?_)
 obtain⟨g2,w2,hr2,l2,x2,k2⟩:=cD (P:=Tryz.prog) (w:=w) (T:=48) (cs:=[I a.kd,I a.ix,B a.at_.1,x,y])
 refine cI E E hr2 ?_
 obtain⟨g3,w3,hr3,l3,x3,k3⟩:=cD (P:=Tryz.prog) (w:=w2) (T:=48) (cs:=[I b.kd,I b.ix,B b.at_.1,p,q])
 refine cI E E hr3 (ac E E (ag (ab (af (aa (ah E E (ar (o:=0) Ma E (by kernel_rfl) E) ?_))))))
 refine ak E E (aj Mb E (x3.cell_some (k2.cell (i:=0) E))) (ah E E (ar (o:=0) Ma E (by kernel_rfl) E) ?_)
 refine ak E E (aj Mb E (k3.cell (i:=0) E)) (al E E E (bi) (ae E E ?_))
 refine cb (fun h10=>?_) (fun h10=>?_)
 ·refine ai E (ah E E (ar (o:=1) Ma E (by kernel_rfl) E) (ai E (ak E E (aj Mb E (x3.cell_some (k2.cell (i:=1) E))) ?_)))
  refine ai E (ah E E (ar (o:=1) Ma E (by kernel_rfl) E) (ai E (ak E E (aj Mb E (k3.cell (i:=1) E)) ?_)))
  refine ai E (al E E E (bi) (ap E E E (ae E E ?_)))
  refine cb (fun h17=>?_) (fun h17=>?_)
  ·refine ai rfl (ah rfl rfl (ar (o:=2) Tryz.underlying48 rfl (by kernel_rfl) rfl) (ai rfl (ak rfl rfl ((k2.ext x3).ldO (ms:=[B a.at_.1,x,y]) (o:=2) (fun j v hj=>by rcases j with _|_|_|_|_|_|_|_|_|j<;>simp_all) Tryz.underlying46 rfl (by kernel_rfl)) ?_)))
   refine ai rfl (ah rfl rfl (ar (o:=2) Tryz.underlying48 rfl (by kernel_rfl) rfl) (ai rfl (ak rfl rfl (k3.ldO (ms:=[B b.at_.1,p,q]) (o:=2) (fun j v hj=>by rcases j with _|_|_|_|_|_|_|_|_|j<;>simp_all) Tryz.underlying46 rfl (by kernel_rfl)) ?_)))
   refine ai E (an Al E E ((An (a:=a.at_) (b:=b.at_) (ha.ext (x2.trans x3)) (ha'.ext (x2.trans x3)) (hb.ext (x2.trans x3)) (hb'.ext (x2.trans x3)))) ?_)
   rintro v22 w22 ⟨x22,rfl⟩
   refine ap E E E (ac E E (ag (ab (au (aA E E ?_)))))
   exact⟨_,rfl,((x2.trans x3).trans x22),by
    first
    |exact congrArg B (decide_eq_decide.2 ⟨fun h=>bV.ext' h10 h17 h,fun h=>by rw[h]⟩)
    |exact congrArg B (decide_eq_false fun h=>h17 (by rw[h])).symm
    |exact congrArg B (decide_eq_false fun h=>h10 (by rw[h])).symm⟩
  ·refine ao E E E (ao E E E (ao E E E (ao E E E (ao E E E (aE E E E (ac E E (ag (ab (au (aA E E ?_))))))))))
   exact⟨_,rfl,(x2.trans x3),by
    first
    |exact congrArg B (decide_eq_decide.2 ⟨fun h=>bV.ext' h10 h17 h,fun h=>by rw[h]⟩)
    |exact congrArg B (decide_eq_false fun h=>h17 (by rw[h])).symm
    |exact congrArg B (decide_eq_false fun h=>h10 (by rw[h])).symm⟩
 ·refine ao E E E (ao E E E (ao E E E (ao E E E (ao E E E (aE E E E (ae E E (ao E E E (ao E E E (ao E E E ?_)))))))))
  refine ao E E E (ao E E E (aE E E E (ac E E (ag (ab (au (aA E E ?_)))))))
  exact⟨_,rfl,(x2.trans x3),by
   first
   |exact congrArg B (decide_eq_decide.2 ⟨fun h=>bV.ext' h10 h17 h,fun h=>by rw[h]⟩)
   |exact congrArg B (decide_eq_false fun h=>h17 (by rw[h])).symm
   |exact congrArg B (decide_eq_false fun h=>h10 (by rw[h])).symm⟩
theorem tW {w:World} {a b:bV} {x y p q:Value} (ha:bt a.at_.2.1 x w) (ha':bt a.at_.2.2 y w) (hb:bt b.at_.2.1 p w) (hb':bt b.at_.2.2 q w):
 Calls Tryz.prog 69 #[.agg #[I a.kd,I a.ix,B a.at_.1,x,y],.agg #[I b.kd,I b.ix,B b.at_.1,p,q]] w (bE fun r w'=>aN w w'∧r=B (decide (a=b))):=by
 refine enter (vs:=[.agg #[I a.kd,I a.ix,B a.at_.1,x,y],.agg #[I b.kd,I b.ix,B b.at_.1,p,q]]) Tryz.func69 E E E ?_
 refine af (aa ?_)
 obtain⟨g2,w2,hr2,l2,x2,k2⟩:=cD (P:=Tryz.prog) (w:=w) (T:=48) (cs:=[I a.kd,I a.ix,B a.at_.1,x,y])
 refine cI E E hr2 ?_
 obtain⟨g3,w3,hr3,l3,x3,k3⟩:=cD (P:=Tryz.prog) (w:=w2) (T:=48) (cs:=[I b.kd,I b.ix,B b.at_.1,p,q])
 refine cI E E hr3 (ac E E (ag (ab (af (aa (ah E E (ar (o:=0) Ma E (by kernel_rfl) E) ?_))))))
 refine ak E E (aj Mb E (x3.cell_some (k2.cell (i:=0) E))) (ah E E (ar (o:=0) Ma E (by kernel_rfl) E) ?_)
 refine ak E E (aj Mb E (k3.cell (i:=0) E)) (al E E E (bi) (ae E E ?_))
 refine cb (fun h10=>?_) (fun h10=>?_)
 ·refine ai E (ah E E (ar (o:=1) Ma E (by kernel_rfl) E) (ai E (ak E E (aj Mb E (x3.cell_some (k2.cell (i:=1) E))) ?_)))
  refine ai E (ah E E (ar (o:=1) Ma E (by kernel_rfl) E) (ai E (ak E E (aj Mb E (k3.cell (i:=1) E)) ?_)))
  refine ai E (al E E E (bi) (ap E E E (ae E E ?_)))
  refine cb (fun h17=>?_) (fun h17=>?_)
  ·refine ai rfl (ah rfl rfl (ar (o:=2) Tryz.underlying48 rfl (by kernel_rfl) rfl) (ai rfl (ak rfl rfl ((k2.ext x3).ldO (ms:=[B a.at_.1,x,y]) (o:=2) (fun j v hj=>by rcases j with _|_|_|_|_|_|_|_|_|j<;>simp_all) Tryz.underlying46 rfl (by kernel_rfl)) ?_)))
   refine ai rfl (ah rfl rfl (ar (o:=2) Tryz.underlying48 rfl (by kernel_rfl) rfl) (ai rfl (ak rfl rfl (k3.ldO (ms:=[B b.at_.1,p,q]) (o:=2) (fun j v hj=>by rcases j with _|_|_|_|_|_|_|_|_|j<;>simp_all) Tryz.underlying46 rfl (by kernel_rfl)) ?_)))
   refine ai E (an nw E E ((Di (a:=a.at_) (b:=b.at_) (ha.ext (x2.trans x3)) (ha'.ext (x2.trans x3)) (hb.ext (x2.trans x3)) (hb'.ext (x2.trans x3)))) ?_)
   rintro v22 w22 ⟨x22,rfl⟩
   refine ap E E E (ac E E (ag (ab (au (aA E E ?_)))))
   exact⟨_,rfl,((x2.trans x3).trans x22),by
    first
    |exact congrArg B (decide_eq_decide.2 ⟨fun h=>bV.ext' h10 h17 h,fun h=>by rw[h]⟩)
    |exact congrArg B (decide_eq_false fun h=>h17 (by rw[h])).symm
    |exact congrArg B (decide_eq_false fun h=>h10 (by rw[h])).symm⟩
  ·refine ao E E E (ao E E E (ao E E E (ao E E E (ao E E E (aE E E E (ac E E (ag (ab (au (aA E E ?_))))))))))
   exact⟨_,rfl,(x2.trans x3),by
    first
    |exact congrArg B (decide_eq_decide.2 ⟨fun h=>bV.ext' h10 h17 h,fun h=>by rw[h]⟩)
    |exact congrArg B (decide_eq_false fun h=>h17 (by rw[h])).symm
    |exact congrArg B (decide_eq_false fun h=>h10 (by rw[h])).symm⟩
 ·refine ao E E E (ao E E E (ao E E E (ao E E E (ao E E E (aE E E E (ae E E (ao E E E (ao E E E (ao E E E ?_)))))))))
  refine ao E E E (ao E E E (aE E E E (ac E E (ag (ab (au (aA E E ?_)))))))
  exact⟨_,rfl,(x2.trans x3),by
   first
   |exact congrArg B (decide_eq_decide.2 ⟨fun h=>bV.ext' h10 h17 h,fun h=>by rw[h]⟩)
   |exact congrArg B (decide_eq_false fun h=>h17 (by rw[h])).symm
   |exact congrArg B (decide_eq_false fun h=>h10 (by rw[h])).symm⟩
end Go.Rl
namespace Go.Rl
open Go.RowKit Go.Proofs
section
variable {w:World} {cs:List Value}
theorem gO {m:cg} (h:Rp w (bK m) cs):∃x y,cs=[I m.kd,I m.ix,I m.lo,I m.hi,B m.co.1,x,y]∧bt m.co.2.1 x w∧bt m.co.2.2 y w:=by
 simp only[bK,qt,bD,Rp.eq_5,Rp.eq_1] at h
 obtain⟨_,_,rfl,⟨_,_,rfl,rfl,_,_,rfl,rfl,_,_,rfl,rfl,_,_,rfl,rfl,rfl⟩,_,_,rfl,h1,rfl⟩:=h
 obtain⟨x,y,rfl,hx,hy⟩:=mJ h1
 exact⟨x,y,rfl,hx,hy⟩
theorem gy {d:bV} (h:Rp w (dm d) cs):∃x y,cs=[I d.kd,I d.ix,B d.at_.1,x,y]∧bt d.at_.2.1 x w∧bt d.at_.2.2 y w:=by
 simp only[dm,qt,bD,Rp.eq_5,Rp.eq_1] at h
 obtain⟨_,_,rfl,rfl,_,_,rfl,rfl,_,_,rfl,h1,rfl⟩:=h
 obtain⟨x,y,rfl,hx,hy⟩:=mJ h1
 exact⟨x,y,rfl,hx,hy⟩
theorem fH {l:dI} (h:Rp w (cV l) cs):∃x y v,cs=[I l.un,B l.up,B l.va.1,x,y,v]∧bt l.va.2.1 x w∧bt l.va.2.2 y w∧cu bK l.pf v w:=by
 simp only[cV,qt,bD,Rp.eq_5,Rp.eq_1,Rp.eq_2] at h
 obtain⟨_,_,rfl,rfl,_,_,rfl,rfl,_,_,rfl,h1,_,_,rfl,h2,rfl⟩:=h
 obtain⟨x,y,rfl,hx,hy⟩:=mJ h1
 obtain⟨v,rfl,hv,_⟩:=Rp.isSlice h2
 exact⟨x,y,v,rfl,hx,hy,hv⟩
theorem dW {n:aZ} (h:Rp w (bH n) cs):∃vl x y vk vp,cs=[vl,I n.split.kd,I n.split.ix,B n.split.at_.1,x,y,vk,B n.empty,vp]∧cu cV n.lems vl w∧bt n.split.at_.2.1 x w∧bt n.split.at_.2.2 y w∧cu bH n.kids vk w∧cu bK n.pf vp w:=by
 cases n with
 |mk lems sp ks em pf=>
  simp only[bH,bD,Rp.eq_5,Rp.eq_2,kT] at h
  obtain⟨_,_,rfl,h1,_,_,rfl,h2,_,_,rfl,h3,_,_,rfl,rfl,_,_,rfl,h4,rfl⟩:=h
  obtain⟨vl,rfl,hl,_⟩:=Rp.isSlice h1
  obtain⟨x,y,rfl,hx,hy⟩:=gy h2
  obtain⟨vk,rfl,hk,_⟩:=Rp.isSlice h3
  obtain⟨vp,rfl,hp,_⟩:=Rp.isSlice h4
  exact⟨vl,x,y,vk,vp,rfl,hl,hx,hy,hk,hp⟩
theorem Ap (d:bV):xW d=decide (d=lq):=by
 cases d with
 |mk a b c=>
  unfold xW lq
  simp only[bV.mk.injEq]
  by_cases h1:a=0<;>by_cases h2:b=0<;>by_cases h3:c=KH<;>simp[h1,h2,h3]
end
end Go.Rl
namespace Go.Rl
open Go.RowKit Go.Proofs
theorem Aq {L:Nat} {n x y:aZ} (hk:n.kids=[x,y]) (hi:oY n=true):lp (L+1) n=if (lp L x).1=false∨65536<(lp L x).2 then(false,0) else((lp L y).1,1+(lp L x).2+(lp L y).2):=by
 rw[lp];simp only[hk,if_pos hi]
theorem lC {L:Nat} {n:aZ} (h0:n.kids.length≠0) (h:n.kids.length≠2∨oY n=false):lp (L+1) n=(false,0):=by
 rw[lp]
 generalize n.kids=ks at h0 h
 rcases ks with _|⟨x,_|⟨y,_|⟨z,t⟩⟩⟩
 ·exact absurd rfl h0
 ·rfl
 ·rcases h with h|h
  ·exact absurd rfl h
  ·simp[h]
 ·rfl
theorem cK {P:Program} {w:World} {s:TypeId} {fs:Array Field} {f:Field} {n g o b:Nat} (hs:P.underlying s=some (.struct fs)) (hf:fs[n]? =some f) (hk:(P.cellsOf f.type==0)=false) (ho:f.offset=o):
 (Instr.fieldAt s (.pointer (some ⟨g,b,none⟩)) n).run P w=.ok (.pointer (some ⟨g,b+o,none⟩)) w:=by
 have hk':P.cellsOf f.type≠0:=by simpa using hk
 obtain⟨k,hk1⟩:∃k,(P.info? f.type).map (·.size)=some k:=by
  cases hi:(P.info? f.type).map (·.size) with
  |none=>exact absurd (by simp[Program.cellsOf,hi]) hk'
  |some k=>exact⟨k,rfl⟩
 have hk0:k≠0:=by
  intro h
  apply hk'
  simp[Program.cellsOf,hk1,h]
 rw[cy hs hf hk1 hk0,ho,tm]
theorem HM {L:Nat} {n:aZ} (h0:n.kids.length=0):lp (L+1) n=(xW n.split,1):=by
 rw[lp]
 have:n.kids=[]:=List.eq_nil_of_length_eq_zero h0
 simp only[this]
theorem gz {n:aZ} (h:¬(1≤n.split.kd∧n.split.kd≤4∧n.empty=false∧n.pf.length=0)):oY n=false:=by
 unfold oY
 by_cases h1:1≤n.split.kd<;>by_cases h2:n.split.kd≤4<;>by_cases h3:n.pf.length=0<;>cases h4:n.empty<;>simp_all
theorem Ew {n:aZ} (h1:1≤n.split.kd) (h2:n.split.kd≤4) (h3:n.empty=false) (h4:n.pf.length=0):oY n=true:=by
 unfold oY
 simp[h1,h2,h3,h4]
theorem Dj:∀(L:Nat) (n:aZ),(lp L n).2≤65537*L
 |0,_=>Nat.le_refl _
 |L+1,n=>by
  rw[lp]
  generalize n.kids=ks
  rcases ks with _|⟨x,_|⟨y,_|⟨z,t⟩⟩⟩
  ·show 1≤_;omega
  ·show 0≤_;omega
  ·have:=Dj L y
   by_cases hi:oY n=true
   ·simp only[if_pos hi]
    split
    ·show 0≤_;omega
    ·rename_i h
     simp only[not_or,Nat.not_lt] at h
     have:=h.2
     show 1+(lp L x).2+(lp L y).2≤_
     omega
   ·simp only[if_neg hi]
    show 0≤_;omega
  ·show 0≤_;omega
theorem wV {ks:List aZ} (h:ks.length=2):ks=[ks[0]'(by omega),ks[1]'(by omega)]:=by
 rcases ks with _|⟨x,_|⟨y,_|⟨z,t⟩⟩⟩
 ·simp at h
 ·simp at h
 ·rfl
 ·simp at h
theorem wW {w:World} {n:aZ} {L d:Nat} {vl x y vk vp:Value} (ih:∀L',L=L'+1→∀{w:World} {n:aZ} {vl x y vk vp:Value},cu cV n.lems vl w→bt n.split.at_.2.1 x w→bt n.split.at_.2.2 y w→cu bH n.kids vk w→cu bK n.pf vp w→
 Calls Tryz.prog 72 #[.agg #[vl,I n.split.kd,I n.split.ix,B n.split.at_.1,x,y,vk,B n.empty,vp],I ((d+1:Nat):Int)] w (bE fun r w'=>aN w w'∧r=.tuple #[B (lp L' n).1,I ((lp L' n).2:Int)]))
 (hl:cu cV n.lems vl w) (hx:bt n.split.at_.2.1 x w) (hy:bt n.split.at_.2.2 y w) (hk:cu bH n.kids vk w) (hp:cu bK n.pf vp w) (hd:d+L=2049):
 Calls Tryz.prog 72 #[.agg #[vl,I n.split.kd,I n.split.ix,B n.split.at_.1,x,y,vk,B n.empty,vp],I (d:Int)] w (bE fun r w'=>aN w w'∧r=.tuple #[B (lp L n).1,I ((lp L n).2:Int)]):=by
 refine enter (vs:=[.agg #[vl,I n.split.kd,I n.split.ix,B n.split.at_.1,x,y,vk,B n.empty,vp],I (d:Int)]) Tryz.func72 E E E ?_
 refine af (aa ?_)
 obtain⟨g2,w2,hr2,l2,x2,k2⟩:=cD (P:=Tryz.prog) (w:=w) (T:=52) (cs:=[vl,I n.split.kd,I n.split.ix,B n.split.at_.1,x,y,vk,B n.empty,vp])
 refine cI E E hr2 (ac E E (ac E E (ag (ab (af (af (aa (ae E E (al E E E (bU) (ag (ab ?_)))))))))))
 refine bw E (fun h11=>?_) (fun h11=>?_)
 ·obtain rfl:L=0:=by omega
  refine af (aa (ac E E (ac E E (ag (ab (au (az (a9 E E E ?_))))))))
  exact⟨_,rfl,x2,rfl⟩
 ·obtain⟨L',rfl⟩:∃L',L=L'+1:=⟨L-1,by omega⟩
  refine aC (ab (af (af (aa (ah E E (ar (o:=6) L6 E (by kernel_rfl) E) (ak E E (aj Mh E (k2.cell (i:=6) E)) ?_))))))
  refine aQ E E (be Mh (hk.ext x2)) (al E E E (bi) (ag (ab ?_)))
  refine bw E (fun h15=>?_) (fun h15=>?_)
  ·have h0:n.kids.length=0:=by omega
   refine af (aa (ah rfl rfl (ar (o:=1) Tryz.underlying52 rfl (by kernel_rfl) rfl) (ak rfl rfl (k2.ldO (ms:=[I n.split.kd,I n.split.ix,B n.split.at_.1,x,y]) (o:=1) (fun j v hj=>by rcases j with _|_|_|_|_|_|_|_|_|j<;>simp_all) Tryz.underlying48 rfl (by kernel_rfl)) ?_)))
   refine bC (vs:=[]) (r:=.agg #[I 0,I 0,B false,.slice none 0 0,.slice none 0 0]) E E (by exact run_build _ _ _ _ (by kernel_rfl)) (an tT E E ((tW (a:=n.split) (b:=lq) (hx.ext x2) (hy.ext x2) (Sl.nil _ _) (Sl.nil _ _))) ?_)
   rintro v19 w19 ⟨x19,rfl⟩
   refine ac E E (ac E E (ag (ab (au (az (a9 E E E ?_))))))
   exact⟨_,rfl,(x2.trans x19),by rw[HM h0,Ap];rfl⟩
  ·have h0:n.kids.length≠0:=by omega
   refine aC (ab (af (af ?_)))
   have hl2:=hl.ext x2
   have hx2:=hx.ext x2
   have hy2:=hy.ext x2
   have hk2:=hk.ext x2
   have hp2:=hp.ext x2
   rcases hem:n.empty with _|_
   ·have kf:=k2
    rw[hem] at kf
    refine aa (ah E E (ar (o:=6) L6 E (by kernel_rfl) E) (ak E E (aj Mh E (kf.cell (i:=6) E)) ?_))
    refine aQ E E (be Mh hk2) (al E E E (cC) (ae E E ?_))
    refine cb (fun h24=>?_) (fun h24=>?_)
    ·refine ao E E E (ao E E E (ao E E E (ao E E E (ap E E E (ae E E (ao E E E (ao E E E (ao E E E (ao E E E ?_)))))))))
     refine ap E E E (ae E E (ao E E E (ao E E E (ap E E E (ae E E (ao E E E (ao E E E (ao E E E (ao E E E ?_)))))))))
     refine ap E E E (ag (ab (bf E (af (aa (ac E E (ac E E (ag (ab (au (az (a9 E E E ?_))))))))))))
     exact⟨_,rfl,x2,by
      rw[lC h0 (by
       first
       |exact .inl (by omega)
       |exact .inr (gz fun⟨a1,a2,a3,a4⟩=>by
         first
         |omega
         |(rw[hem] at a3;cases a3)))]
      rfl⟩
    ·refine ai E (ah E E (ar (o:=1) L6 E (by kernel_rfl) E) (ai E (ah E E (cK (b:=1) (o:=0) Ma E (by kernel_rfl) E) ?_)))
     refine ai E (ak E E (aj Mb E (kf.cell (i:=1) E)) (ai E (al E E E (bc) (aE E E E (ae E E ?_)))))
     refine cb (fun h30=>?_) (fun h30=>?_)
     ·refine ao E E E (ao E E E (ao E E E (ao E E E (ap E E E (ae E E (ao E E E (ao E E E (ap E E E (ae E E ?_)))))))))
      refine ao E E E (ao E E E (ao E E E (ao E E E (ap E E E (ag (ab (bf E (af (aa (ac E E (ac E E (ag ?_))))))))))))
      refine ab (au (az (a9 E E E ?_)))
      exact⟨_,rfl,x2,by
       rw[lC h0 (by
        first
        |exact .inl (by omega)
        |exact .inr (gz fun⟨a1,a2,a3,a4⟩=>by
          first
          |omega
          |(rw[hem] at a3;cases a3)))]
       rfl⟩
     ·refine ai E (ah E E (ar (o:=1) L6 E (by kernel_rfl) E) (ai E (ah E E (cK (b:=1) (o:=0) Ma E (by kernel_rfl) E) ?_)))
      refine ai E (ak E E (aj Mb E (kf.cell (i:=1) E)) (ai E (al E E E (bU) (aE E E E (ae E E ?_)))))
      refine cb (fun h36=>?_) (fun h36=>?_)
      ·refine ao E E E (ao E E E (ap E E E (ae E E (ao E E E (ao E E E (ao E E E (ao E E E (ap E E E (ag ?_)))))))))
       refine ab (bf E (af (aa (ac E E (ac E E (ag (ab (au (az (a9 E E E ?_))))))))))
       exact⟨_,rfl,x2,by
        rw[lC h0 (by
         first
         |exact .inl (by omega)
         |exact .inr (gz fun⟨a1,a2,a3,a4⟩=>by
           first
           |omega
           |(rw[hem] at a3;cases a3)))]
        rfl⟩
      ·refine ai E (ah E E (ar (o:=7) L6 E (by kernel_rfl) E) (ai E (ak E E (aj Me E (kf.cell (i:=7) E)) ?_)))
       refine aE E E E (ae E E (ai E (ah E E (ar (o:=8) L6 E (by kernel_rfl) E) (ai E (ak E E (aj Mj E (kf.cell (i:=8) E)) ?_)))))
       refine ai E (aQ E E (be Mj hp2) (ai E (al E E E (bU) (aE E E E (ag (ab ?_))))))
       refine bw E (fun h45=>?_) (fun h45=>?_)
       ·refine af (aa (ac E E (ac E E (ag (ab (au (az (a9 E E E ?_))))))))
        exact⟨_,rfl,x2,by
         rw[lC h0 (by
          first
          |exact .inl (by omega)
          |exact .inr (gz fun⟨a1,a2,a3,a4⟩=>by
            first
            |omega
            |(rw[hem] at a3;cases a3)))]
         rfl⟩
       ·refine aC (ab (af ?_))
        have hk2n:n.kids.length=2:=by omega
        have hks:=wV hk2n
        have hi:=Ew (n:=n) (by omega) (by omega) hem (by omega)
        refine aa (ah E E (ar (o:=6) L6 E (by kernel_rfl) E) (ak E E (aj Mh E (kf.cell (i:=6) E)) ?_))
        obtain⟨a49,c49,p49,q49,h49⟩:=cf (P:=Tryz.prog) (sz:=9) Mh (by kernel_rfl) cE (by omega) hk2 (i:=0) (by omega) .i64
        obtain⟨e49,he49⟩:∃e,e=n.kids[0]'(by omega):=⟨_,rfl⟩
        rw[←he49] at h49
        obtain⟨x49_0,x49_1,x49_2,x49_3,x49_4,rfl,f49_0,f49_1,f49_2,f49_3,f49_4⟩:=dW h49
        refine ax E E E (p49 _) (ak E E (q49.ld L6 E (by kernel_rfl)) (ae E E (al (r:=I ((d+1:Nat):Int)) E E E (by have e:((d+1:Nat):Int)=(d:Int)+1:=(by omega);rw[e];exact aP (by omega) (by omega)) ?_)))
        refine an rl E E ((ih L' E f49_0 f49_1 f49_2 f49_3 f49_4)) ?_
        rintro v53 w53 ⟨x53,rfl⟩
        refine ae E E (am E E (bj) (am E E (bk) (ac E E (ac E E (ag (ab (af (af ?_))))))))
        have he:=Dj L' e49
        rcases hb:(lp L' e49).1 with _|_
        ·refine aa (ae E E (bo E E bu (ae E E (ao E E E (ao E E E (ap E E E (ag (ab (bf E (af (aa (ac E E ?_))))))))))))
         refine ac E E (ag (ab (au (az (a9 E E E ?_)))))
         exact⟨_,rfl,(x2.trans x53),by
          rw[Aq hks hi,←he49,if_pos (by first|exact .inl hb|exact .inr (by omega))]
          rfl⟩
        ·refine aa (ae E E (bo E E bu (ae E E (ai E (ae E E (ai E (al E E E (bU) (aE E E E (ag (ab ?_))))))))))
         refine bw E (fun h61=>?_) (fun h61=>?_)
         ·refine af (aa (ac E E (ac E E (ag (ab (au (az (a9 E E E ?_))))))))
          exact⟨_,rfl,(x2.trans x53),by
           rw[Aq hks hi,←he49,if_pos (by first|exact .inl hb|exact .inr (by omega))]
           rfl⟩
         ·refine aC (ab (af (aa (ah E E (ar (o:=6) L6 E (by kernel_rfl) E) (ak E E (aj Mh E (x53.cell_some (kf.cell (i:=6) E))) ?_)))))
          obtain⟨a65,c65,p65,q65,h65⟩:=cf (P:=Tryz.prog) (sz:=9) Mh (by kernel_rfl) cE (by omega) (hk2.ext x53) (i:=1) (by omega) .i64
          obtain⟨e65,he65⟩:∃e,e=n.kids[1]'(by omega):=⟨_,rfl⟩
          rw[←he65] at h65
          obtain⟨x65_0,x65_1,x65_2,x65_3,x65_4,rfl,f65_0,f65_1,f65_2,f65_3,f65_4⟩:=dW h65
          refine ax E E E (p65 _) (ak E E (q65.ld L6 E (by kernel_rfl)) (ae E E (al (r:=I ((d+1:Nat):Int)) E E E (by have e:((d+1:Nat):Int)=(d:Int)+1:=(by omega);rw[e];exact aP (by omega) (by omega)) ?_)))
          refine an rl E E ((ih L' E f65_0 f65_1 f65_2 f65_3 f65_4)) ?_
          rintro v69 w69 ⟨x69,rfl⟩
          have hf:=Dj L' e65
          refine ae E E (am E E (bj) (am E E (bk) (ac E E (ac E E (ag (ab (af (aa (ae E E (ae E E (al (r:=I ((1+(lp L' e49).2:Nat):Int)) E E E (by have e:((1+(lp L' e49).2:Nat):Int)=1+((lp L' e49).2:Int):=(by omega);rw[e];exact aP (by omega) (by omega)) ?_)))))))))))
          refine ae E E (al (r:=I ((((1+(lp L' e49).2:Nat))+(lp L' e65).2:Nat):Int)) E E E (by have e:((((1+(lp L' e49).2:Nat))+(lp L' e65).2:Nat):Int)=((1+(lp L' e49).2:Nat):Int)+((lp L' e65).2:Int):=(by omega);rw[e];exact aP (by omega) (by omega)) ?_)
          refine ac E E (ac E E (ag (ab (au (a9 E E E ?_)))))
          exact⟨_,rfl,((x2.trans x53).trans x69),by
           rw[Aq hks hi,←he49,←he65,if_neg (by rw[hb];simp;omega)]⟩
   ·have kf:=k2
    rw[hem] at kf
    refine aa (ah E E (ar (o:=6) L6 E (by kernel_rfl) E) (ak E E (aj Mh E (kf.cell (i:=6) E)) ?_))
    refine aQ E E (be Mh hk2) (al E E E (cC) (ae E E ?_))
    refine cb (fun h24=>?_) (fun h24=>?_)
    ·refine ao E E E (ao E E E (ao E E E (ao E E E (ap E E E (ae E E (ao E E E (ao E E E (ao E E E (ao E E E ?_)))))))))
     refine ap E E E (ae E E (ao E E E (ao E E E (ap E E E (ae E E (ao E E E (ao E E E (ao E E E (ao E E E ?_)))))))))
     refine ap E E E (ag (ab (bf E (af (aa (ac E E (ac E E (ag (ab (au (az (a9 E E E ?_))))))))))))
     exact⟨_,rfl,x2,by
      rw[lC h0 (by
       first
       |exact .inl (by omega)
       |exact .inr (gz fun⟨a1,a2,a3,a4⟩=>by
         first
         |omega
         |(rw[hem] at a3;cases a3)))]
      rfl⟩
    ·refine ai E (ah E E (ar (o:=1) L6 E (by kernel_rfl) E) (ai E (ah E E (cK (b:=1) (o:=0) Ma E (by kernel_rfl) E) ?_)))
     refine ai E (ak E E (aj Mb E (kf.cell (i:=1) E)) (ai E (al E E E (bc) (aE E E E (ae E E ?_)))))
     refine cb (fun h30=>?_) (fun h30=>?_)
     ·refine ao E E E (ao E E E (ao E E E (ao E E E (ap E E E (ae E E (ao E E E (ao E E E (ap E E E (ae E E ?_)))))))))
      refine ao E E E (ao E E E (ao E E E (ao E E E (ap E E E (ag (ab (bf E (af (aa (ac E E (ac E E (ag ?_))))))))))))
      refine ab (au (az (a9 E E E ?_)))
      exact⟨_,rfl,x2,by
       rw[lC h0 (by
        first
        |exact .inl (by omega)
        |exact .inr (gz fun⟨a1,a2,a3,a4⟩=>by
          first
          |omega
          |(rw[hem] at a3;cases a3)))]
       rfl⟩
     ·refine ai E (ah E E (ar (o:=1) L6 E (by kernel_rfl) E) (ai E (ah E E (cK (b:=1) (o:=0) Ma E (by kernel_rfl) E) ?_)))
      refine ai E (ak E E (aj Mb E (kf.cell (i:=1) E)) (ai E (al E E E (bU) (aE E E E (ae E E ?_)))))
      refine cb (fun h36=>?_) (fun h36=>?_)
      ·refine ao E E E (ao E E E (ap E E E (ae E E (ao E E E (ao E E E (ao E E E (ao E E E (ap E E E (ag ?_)))))))))
       refine ab (bf E (af (aa (ac E E (ac E E (ag (ab (au (az (a9 E E E ?_))))))))))
       exact⟨_,rfl,x2,by
        rw[lC h0 (by
         first
         |exact .inl (by omega)
         |exact .inr (gz fun⟨a1,a2,a3,a4⟩=>by
           first
           |omega
           |(rw[hem] at a3;cases a3)))]
        rfl⟩
      ·refine ai E (ah E E (ar (o:=7) L6 E (by kernel_rfl) E) (ai E (ak E E (aj Me E (kf.cell (i:=7) E)) ?_)))
       refine aE E E E (ae E E (ao E E E (ao E E E (ao E E E (ao E E E (ap E E E (ag (ab (bf E (af (aa ?_)))))))))))
       refine ac E E (ac E E (ag (ab (au (az (a9 E E E ?_))))))
       exact⟨_,rfl,x2,by
        rw[lC h0 (by
         first
         |exact .inl (by omega)
         |exact .inr (gz fun⟨a1,a2,a3,a4⟩=>by
           first
           |omega
           |(rw[hem] at a3;cases a3)))]
        rfl⟩
theorem wX:∀(L d:Nat),d+L=2049→∀{w:World} {n:aZ} {vl x y vk vp:Value},cu cV n.lems vl w→bt n.split.at_.2.1 x w→bt n.split.at_.2.2 y w→cu bH n.kids vk w→cu bK n.pf vp w→
 Calls Tryz.prog 72 #[.agg #[vl,I n.split.kd,I n.split.ix,B n.split.at_.1,x,y,vk,B n.empty,vp],I (d:Int)] w (bE fun r w'=>aN w w'∧r=.tuple #[B (lp L n).1,I ((lp L n).2:Int)])
 |0,_,hd,_,_,_,_,_,_,_,hl,hx,hy,hk,hp=>wW (fun _ e=>by cases e) hl hx hy hk hp hd
 |L+1,d,hd,_,_,_,_,_,_,_,hl,hx,hy,hk,hp=>wW (fun L' e _ _ _ _ _ _ _ h1 h2 h3 h4 h5=>by
   cases e
   exact wX L (d+1) (by omega) h1 h2 h3 h4 h5) hl hx hy hk hp hd
theorem o0 {w:World} {n:aZ} {vl x y vk vp:Value} (hl:cu cV n.lems vl w) (hx:bt n.split.at_.2.1 x w) (hy:bt n.split.at_.2.2 y w) (hk:cu bH n.kids vk w) (hp:cu bK n.pf vp w):
 Calls Tryz.prog 29 #[.agg #[vl,I n.split.kd,I n.split.ix,B n.split.at_.1,x,y,vk,B n.empty,vp]] w (bE fun r w'=>aN w w'∧r=B (qo n)):=by
 refine enter (vs:=[.agg #[vl,I n.split.kd,I n.split.ix,B n.split.at_.1,x,y,vk,B n.empty,vp]]) Tryz.func29 E E E ?_
 refine af (aa ?_)
 obtain⟨g1,w1,hr1,l1,x1,k1⟩:=cD (P:=Tryz.prog) (w:=w) (T:=52) (cs:=[vl,I n.split.kd,I n.split.ix,B n.split.at_.1,x,y,vk,B n.empty,vp])
 refine cI E E hr1 (ac E E (ag (ab (af (aa (ak E E (k1.ld L6 E (by kernel_rfl)) (an rl E E ((wX 2049 0 E (hl.ext x1) (hx.ext x1) (hy.ext x1) (hk.ext x1) (hp.ext x1))) ?_)))))))
 rintro v7 w7 ⟨x7,rfl⟩
 refine ae E E (am E E (bj) (am E E (bk) (ac E E (ac E E (ag (ab (af ?_)))))))
 have hv:=HL n
 rcases hb:(lp 2049 n).1 with _|_
 ·refine aa (ae E E (ae E E (ao E E E (ao E E E (aE E E E (ac E E (ag (ab (au (aA E E ?_))))))))))
  exact⟨_,rfl,(x1.trans x7),by rw[←hv,hb];rfl⟩
 ·refine aa (ae E E (ae E E (ai E (ae E E (ai E (al E E E (DY) (ap E E E (ac E E (ag (ab (au (aA E E ?_))))))))))))
  exact⟨_,rfl,(x1.trans x7),by rw[←hv,hb,Bool.true_and];exact congrArg B (decide_eq_decide.2 (by omega))⟩
end Go.Rl
namespace Go.Rl
open Go.RowKit Go.Proofs
theorem yP {d:Nat} {m:Int} {n:aZ} (h:m<1):lO d m n=(0,false):=by rw[lO.eq_def];exact if_pos h
theorem BL {d:Nat} {m:Int} {n:aZ} (h:¬m<1) (h0:n.kids.length=0):lO d m n=(1,xW n.split):=by
 have:n.kids=[]:=List.eq_nil_of_length_eq_zero h0
 rw[lO.eq_def]
 simp only[if_neg h,this]
theorem jA {d:Nat} {m:Int} {n:aZ} (hm:¬m<1) (h0:n.kids.length≠0) (h:n.kids.length≠2∨oY n=false∨d=0):lO d m n=(0,false):=by
 rw[lO.eq_def]
 simp only[if_neg hm]
 generalize n.kids=ks at h0 h
 rcases ks with _|⟨x,_|⟨y,_|⟨z,t⟩⟩⟩
 ·exact absurd rfl h0
 ·rfl
 ·rcases h with h|h|h
  ·exact absurd rfl h
  ·simp[h]
  ·subst h
   simp
 ·rfl
theorem Ar {d:Nat} {m:Int} {n x y:aZ} (hm:¬m<1) (hk:n.kids=[x,y]) (hi:oY n=true):lO (d+1) m n=if (lO d (m-1) x).2=false then(0,false) else(1+(lO d (m-1) x).1+(lO d (m-1-(lO d (m-1) x).1) y).1,(lO d (m-1-(lO d (m-1) x).1) y).2):=by
 rw[lO.eq_def]
 simp only[if_neg hm,hk,if_pos hi]
theorem HN {m A C:Int} (hm:¬m<1) (a:0≤A∧A≤max 0 (m-1)) (b:0≤C∧C≤max 0 (m-1-A)):0≤1+A+C∧1+A+C≤max 0 m:=by omega
theorem As:∀(d:Nat) (m:Int) (n:aZ),0≤(lO d m n).1∧(lO d m n).1≤max 0 m
 |d,m,n=>by
  by_cases hm:m<1
  ·rw[yP hm];exact⟨Int.le_refl _,by show(0:Int)≤_;omega⟩
  ·by_cases h0:n.kids.length=0
   ·rw[BL hm h0];exact⟨by show(0:Int)≤1;omega,by show(1:Int)≤_;omega⟩
   ·by_cases hb:n.kids.length≠2∨oY n=false∨d=0
    ·rw[jA hm h0 hb];exact⟨Int.le_refl _,by show(0:Int)≤_;omega⟩
    ·simp only[not_or,Bool.not_eq_false] at hb
     obtain⟨h2,hi,hd⟩:=hb
     obtain⟨d',rfl⟩:∃d',d=d'+1:=⟨d-1,by omega⟩
     rw[Ar hm (wV (by omega)) hi]
     split
     ·exact⟨Int.le_refl _,by show(0:Int)≤_;omega⟩
     ·have a:=As d' (m-1) (n.kids[0]'(by omega))
      have b:=As d' (m-1-(lO d' (m-1) (n.kids[0]'(by omega))).1) (n.kids[1]'(by omega))
      exact HN hm a b
theorem wY {w:World} {n:aZ} {d:Nat} {m:Int} {vl x y vk vp:Value} (ih:∀d',d=d'+1→∀{w:World} {n:aZ} {m:Int} {vl x y vk vp:Value},0≤m→m≤65536→cu cV n.lems vl w→bt n.split.at_.2.1 x w→bt n.split.at_.2.2 y w→cu bH n.kids vk w→cu bK n.pf vp w→
 Calls Tryz.prog 111 #[.agg #[vl,I n.split.kd,I n.split.ix,B n.split.at_.1,x,y,vk,B n.empty,vp],I (d':Int),I m] w (bE fun r w'=>aN w w'∧r=.tuple #[I (lO d' m n).1,B (lO d' m n).2]))
 (hd:d≤2048) (hm0:0≤m) (hm1:m≤65536) (hl:cu cV n.lems vl w) (hx:bt n.split.at_.2.1 x w) (hy:bt n.split.at_.2.2 y w) (hk:cu bH n.kids vk w) (hp:cu bK n.pf vp w):
 Calls Tryz.prog 111 #[.agg #[vl,I n.split.kd,I n.split.ix,B n.split.at_.1,x,y,vk,B n.empty,vp],I (d:Int),I m] w (bE fun r w'=>aN w w'∧r=.tuple #[I (lO d m n).1,B (lO d m n).2]):=by
 refine enter (vs:=[.agg #[vl,I n.split.kd,I n.split.ix,B n.split.at_.1,x,y,vk,B n.empty,vp],I (d:Int),I m]) Tryz.func111 E E E ?_
 have hl2:=hl
 refine af (aa ?_)
 obtain⟨g3,w3,hr3,l3,x3,k3⟩:=cD (P:=Tryz.prog) (w:=w) (T:=52) (cs:=[vl,I n.split.kd,I n.split.ix,B n.split.at_.1,x,y,vk,B n.empty,vp])
 refine cI E E hr3 (ac E E (ac E E (ag (ab (af (af (aa (ae E E (al E E E (bc) (ag (ab ?_)))))))))))
 refine bw E (fun h12=>?_) (fun h12=>?_)
 ·have hm:m<1:=h12
  refine af (aa (ac E E (ac E E (ag (ab (au (az (a9 E E E ?_))))))))
  exact⟨_,rfl,x3,by rw[yP hm]<;>rfl⟩
 ·have hm:¬m<1:=h12
  refine aC (ab (af (af (aa (ah E E (ar (o:=6) L6 E (by kernel_rfl) E) (ak E E (aj Mh E (k3.cell (i:=6) E)) ?_))))))
  refine aQ E E (be Mh (hk.ext x3)) (al E E E (bi) (ag (ab ?_)))
  refine bw E (fun h16=>?_) (fun h16=>?_)
  ·have h0:n.kids.length=0:=by omega
   refine af (aa (ah rfl rfl (ar (o:=1) Tryz.underlying52 rfl (by kernel_rfl) rfl) (ak rfl rfl (k3.ldO (ms:=[I n.split.kd,I n.split.ix,B n.split.at_.1,x,y]) (o:=1) (fun j v hj=>by rcases j with _|_|_|_|_|_|_|_|_|j<;>simp_all) Tryz.underlying48 rfl (by kernel_rfl)) ?_)))
   refine bC (vs:=[]) (r:=.agg #[I 0,I 0,B false,.slice none 0 0,.slice none 0 0]) E E (by exact run_build _ _ _ _ (by kernel_rfl)) (an Am E E ((Ao (a:=n.split) (b:=lq) (hx.ext x3) (hy.ext x3) (Sl.nil _ _) (Sl.nil _ _))) ?_)
   rintro v20 w20 ⟨x20,rfl⟩
   refine ac E E (ac E E (ag (ab (au (az (a9 E E E ?_))))))
   exact⟨_,rfl,(x3.trans x20),by rw[BL hm h0,Ap];rfl⟩
  ·have h0:n.kids.length≠0:=by omega
   refine aC (ab (af (af ?_)))
   have hl2:=hl.ext x3
   have hx2:=hx.ext x3
   have hy2:=hy.ext x3
   have hk2:=hk.ext x3
   have hp2:=hp.ext x3
   rcases hem:n.empty with _|_
   ·have kf:=k3
    rw[hem] at kf
    refine aa (ah E E (ar (o:=6) L6 E (by kernel_rfl) E) (ak E E (aj Mh E (kf.cell (i:=6) E)) ?_))
    refine aQ E E (be Mh hk2) (al E E E (cC) (ae E E ?_))
    refine cb (fun h25=>?_) (fun h25=>?_)
    ·refine ao E E E (ao E E E (ao E E E (ao E E E (ap E E E (ae E E (ao E E E (ao E E E (ao E E E (ao E E E ?_)))))))))
     refine ap E E E (ae E E (ao E E E (ao E E E (ap E E E (ae E E (ao E E E (ao E E E (ao E E E (ao E E E ?_)))))))))
     refine ap E E E (ae E E (ao E E E (ao E E E (ap E E E (ag (ab (bf E (af (aa (ac E E (ac E E ?_)))))))))))
     refine ag (ab (au (az (a9 E E E ?_))))
     exact⟨_,rfl,x3,by
      rw[jA hm h0 (by
       first
       |exact .inl (by omega)
       |exact .inr (.inr (by omega))
       |exact .inr (.inl (gz fun⟨a1,a2,a3,a4⟩=>by
         first
         |omega
         |(rw[hem] at a3;cases a3))))]<;>rfl⟩
    ·refine ai E (ah E E (ar (o:=1) L6 E (by kernel_rfl) E) (ai E (ah E E (cK (b:=1) (o:=0) Ma E (by kernel_rfl) E) ?_)))
     refine ai E (ak E E (aj Mb E (kf.cell (i:=1) E)) (ai E (al E E E (bc) (aE E E E (ae E E ?_)))))
     refine cb (fun h31=>?_) (fun h31=>?_)
     ·refine ao E E E (ao E E E (ao E E E (ao E E E (ap E E E (ae E E (ao E E E (ao E E E (ap E E E (ae E E ?_)))))))))
      refine ao E E E (ao E E E (ao E E E (ao E E E (ap E E E (ae E E (ao E E E (ao E E E (ap E E E (ag ?_)))))))))
      refine ab (bf E (af (aa (ac E E (ac E E (ag (ab (au (az (a9 E E E ?_))))))))))
      exact⟨_,rfl,x3,by
       rw[jA hm h0 (by
        first
        |exact .inl (by omega)
        |exact .inr (.inr (by omega))
        |exact .inr (.inl (gz fun⟨a1,a2,a3,a4⟩=>by
          first
          |omega
          |(rw[hem] at a3;cases a3))))]<;>rfl⟩
     ·refine ai E (ah E E (ar (o:=1) L6 E (by kernel_rfl) E) (ai E (ah E E (cK (b:=1) (o:=0) Ma E (by kernel_rfl) E) ?_)))
      refine ai E (ak E E (aj Mb E (kf.cell (i:=1) E)) (ai E (al E E E (bU) (aE E E E (ae E E ?_)))))
      refine cb (fun h37=>?_) (fun h37=>?_)
      ·refine ao E E E (ao E E E (ap E E E (ae E E (ao E E E (ao E E E (ao E E E (ao E E E (ap E E E (ae E E ?_)))))))))
       refine ao E E E (ao E E E (ap E E E (ag (ab (bf E (af (aa (ac E E (ac E E (ag (ab (au (az (a9 E E E ?_))))))))))))))
       exact⟨_,rfl,x3,by
        rw[jA hm h0 (by
         first
         |exact .inl (by omega)
         |exact .inr (.inr (by omega))
         |exact .inr (.inl (gz fun⟨a1,a2,a3,a4⟩=>by
           first
           |omega
           |(rw[hem] at a3;cases a3))))]<;>rfl⟩
      ·refine ai E (ah E E (ar (o:=7) L6 E (by kernel_rfl) E) (ai E (ak E E (aj Me E (kf.cell (i:=7) E)) ?_)))
       refine aE E E E (ae E E (ai E (ah E E (ar (o:=8) L6 E (by kernel_rfl) E) (ai E (ak E E (aj Mj E (kf.cell (i:=8) E)) ?_)))))
       refine ai E (aQ E E (be Mj hp2) (ai E (al E E E (bU) (aE E E E (ae E E ?_)))))
       refine cb (fun h47=>?_) (fun h47=>?_)
       ·refine ao E E E (ao E E E (ap E E E (ag (ab (bf E (af (aa (ac E E (ac E E (ag (ab (au (az (a9 E E E ?_))))))))))))))
        exact⟨_,rfl,x3,by
         rw[jA hm h0 (by
          first
          |exact .inl (by omega)
          |exact .inr (.inr (by omega))
          |exact .inr (.inl (gz fun⟨a1,a2,a3,a4⟩=>by
            first
            |omega
            |(rw[hem] at a3;cases a3))))]<;>rfl⟩
       ·refine ai E (ae E E (ai E (al E E E (bi) (aE E E E (ag (ab ?_))))))
        refine bw E (fun h50=>?_) (fun h50=>?_)
        ·refine af (aa (ac E E (ac E E (ag (ab (au (az (a9 E E E ?_))))))))
         exact⟨_,rfl,x3,by
          rw[jA hm h0 (by
           first
           |exact .inl (by omega)
           |exact .inr (.inr (by omega))
           |exact .inr (.inl (gz fun⟨a1,a2,a3,a4⟩=>by
             first
             |omega
             |(rw[hem] at a3;cases a3))))]<;>rfl⟩
        ·refine aC (ab (af ?_))
         have hk2n:n.kids.length=2:=by omega
         have hks:=wV hk2n
         have hi:=Ew (n:=n) (by omega) (by omega) hem (by omega)
         obtain⟨d',rfl⟩:∃d',d=d'+1:=⟨d-1,by omega⟩
         refine aa (ah E E (ar (o:=6) L6 E (by kernel_rfl) E) (ak E E (aj Mh E (kf.cell (i:=6) E)) ?_))
         obtain⟨a54,c54,p54,q54,h54⟩:=cf (P:=Tryz.prog) (sz:=9) Mh (by kernel_rfl) cE (by omega) hk2 (i:=0) (by omega) .i64
         obtain⟨e54,he54⟩:∃e,e=n.kids[0]'(by omega):=⟨_,rfl⟩
         rw[←he54] at h54
         obtain⟨x54_0,x54_1,x54_2,x54_3,x54_4,rfl,f54_0,f54_1,f54_2,f54_3,f54_4⟩:=dW h54
         refine ax E E E (p54 _) (ak E E (q54.ld L6 E (by kernel_rfl)) (ae E E (al (r:=I (d':Int)) E E E ((by have e:((d':Nat):Int)=((d'+1:Nat):Int)-1:=(by omega);rw[e];exact bG (by omega) (by omega))) ?_)))
         refine ae E E (al (r:=I (m-1)) E E E (bG (by omega) (by omega)) (an lP E E ((ih d' E (by omega) (by omega) f54_0 f54_1 f54_2 f54_3 f54_4)) ?_))
         rintro v60 w60 ⟨x60,rfl⟩
         have hb1:=As d' (m-1) e54
         refine ae E E (am E E (bj) (am E E (bk) (ac E E (ac E E (ag (ab (af (af ?_))))))))
         have hz:=Ak d' (m-1) e54
         rcases hb:(lO d' (m-1) e54).2 with _|_
         ·refine aa (ae E E (bo E E bu (ag (ab (bf E (af (aa (ac E E (ac E E (ag (ab (au (az (a9 E E E ?_))))))))))))))
          exact⟨_,rfl,(x3.trans x60),by rw[Ar hm hks hi,←he54,if_pos hb]<;>rfl⟩
         ·refine aa (ae E E (bo E E bu (ag (ab (cp E (aC (ab (af (aa (ah E E (ar (o:=6) L6 E (by kernel_rfl) E) ?_))))))))))
          refine ak E E (aj Mh E (x60.cell_some (kf.cell (i:=6) E))) ?_
          obtain⟨a68,c68,p68,q68,h68⟩:=cf (P:=Tryz.prog) (sz:=9) Mh (by kernel_rfl) cE (by omega) (hk2.ext x60) (i:=1) (by omega) .i64
          obtain⟨e68,he68⟩:∃e,e=n.kids[1]'(by omega):=⟨_,rfl⟩
          rw[←he68] at h68
          obtain⟨x68_0,x68_1,x68_2,x68_3,x68_4,rfl,f68_0,f68_1,f68_2,f68_3,f68_4⟩:=dW h68
          refine ax E E E (p68 _) (ak E E (q68.ld L6 E (by kernel_rfl)) (ae E E (al (r:=I (d':Int)) E E E ((by have e:((d':Nat):Int)=((d'+1:Nat):Int)-1:=(by omega);rw[e];exact bG (by omega) (by omega))) ?_)))
          refine ae E E (al (r:=I (m-1)) E E E (bG (by omega) (by omega)) (ae E E (al (r:=I (m-1-(lO d' (m-1) e54).1)) E E E (bG (by omega) (by omega)) ?_)))
          refine an lP E E ((ih d' E (by omega) (by omega) f68_0 f68_1 f68_2 f68_3 f68_4)) ?_
          rintro v76 w76 ⟨x76,rfl⟩
          have hb2:=As d' (m-1-(lO d' (m-1) e54).1) e68
          refine ae E E (am E E (bj) (am E E (bk) (ac E E (ac E E (ag (ab (af (aa (ae E E (al (r:=I (1+(lO d' (m-1) e54).1)) E E E (aP (by omega) (by omega)) ?_))))))))))
          refine ae E E (al (r:=I (1+(lO d' (m-1) e54).1+(lO d' (m-1-(lO d' (m-1) e54).1) e68).1)) E E E (aP (by omega) (by omega)) ?_)
          refine ae E E (ac E E (ac E E (ag (ab (au (a9 E E E ?_))))))
          exact⟨_,rfl,((x3.trans x60).trans x76),by rw[Ar hm hks hi,←he54,←he68,if_neg (by rw[hb];simp)]⟩
   ·have kf:=k3
    rw[hem] at kf
    refine aa (ah E E (ar (o:=6) L6 E (by kernel_rfl) E) (ak E E (aj Mh E (kf.cell (i:=6) E)) ?_))
    refine aQ E E (be Mh hk2) (al E E E (cC) (ae E E ?_))
    refine cb (fun h25=>?_) (fun h25=>?_)
    ·refine ao E E E (ao E E E (ao E E E (ao E E E (ap E E E (ae E E (ao E E E (ao E E E (ao E E E (ao E E E ?_)))))))))
     refine ap E E E (ae E E (ao E E E (ao E E E (ap E E E (ae E E (ao E E E (ao E E E (ao E E E (ao E E E ?_)))))))))
     refine ap E E E (ae E E (ao E E E (ao E E E (ap E E E (ag (ab (bf E (af (aa (ac E E (ac E E ?_)))))))))))
     refine ag (ab (au (az (a9 E E E ?_))))
     exact⟨_,rfl,x3,by
      rw[jA hm h0 (by
       first
       |exact .inl (by omega)
       |exact .inr (.inr (by omega))
       |exact .inr (.inl (gz fun⟨a1,a2,a3,a4⟩=>by
         first
         |omega
         |(rw[hem] at a3;cases a3))))]<;>rfl⟩
    ·refine ai E (ah E E (ar (o:=1) L6 E (by kernel_rfl) E) (ai E (ah E E (cK (b:=1) (o:=0) Ma E (by kernel_rfl) E) ?_)))
     refine ai E (ak E E (aj Mb E (kf.cell (i:=1) E)) (ai E (al E E E (bc) (aE E E E (ae E E ?_)))))
     refine cb (fun h31=>?_) (fun h31=>?_)
     ·refine ao E E E (ao E E E (ao E E E (ao E E E (ap E E E (ae E E (ao E E E (ao E E E (ap E E E (ae E E ?_)))))))))
      refine ao E E E (ao E E E (ao E E E (ao E E E (ap E E E (ae E E (ao E E E (ao E E E (ap E E E (ag ?_)))))))))
      refine ab (bf E (af (aa (ac E E (ac E E (ag (ab (au (az (a9 E E E ?_))))))))))
      exact⟨_,rfl,x3,by
       rw[jA hm h0 (by
        first
        |exact .inl (by omega)
        |exact .inr (.inr (by omega))
        |exact .inr (.inl (gz fun⟨a1,a2,a3,a4⟩=>by
          first
          |omega
          |(rw[hem] at a3;cases a3))))]<;>rfl⟩
     ·refine ai E (ah E E (ar (o:=1) L6 E (by kernel_rfl) E) (ai E (ah E E (cK (b:=1) (o:=0) Ma E (by kernel_rfl) E) ?_)))
      refine ai E (ak E E (aj Mb E (kf.cell (i:=1) E)) (ai E (al E E E (bU) (aE E E E (ae E E ?_)))))
      refine cb (fun h37=>?_) (fun h37=>?_)
      ·refine ao E E E (ao E E E (ap E E E (ae E E (ao E E E (ao E E E (ao E E E (ao E E E (ap E E E (ae E E ?_)))))))))
       refine ao E E E (ao E E E (ap E E E (ag (ab (bf E (af (aa (ac E E (ac E E (ag (ab (au (az (a9 E E E ?_))))))))))))))
       exact⟨_,rfl,x3,by
        rw[jA hm h0 (by
         first
         |exact .inl (by omega)
         |exact .inr (.inr (by omega))
         |exact .inr (.inl (gz fun⟨a1,a2,a3,a4⟩=>by
           first
           |omega
           |(rw[hem] at a3;cases a3))))]<;>rfl⟩
      ·refine ai E (ah E E (ar (o:=7) L6 E (by kernel_rfl) E) (ai E (ak E E (aj Me E (kf.cell (i:=7) E)) ?_)))
       refine aE E E E (ae E E (ao E E E (ao E E E (ao E E E (ao E E E (ap E E E (ae E E (ao E E E (ao E E E ?_)))))))))
       refine ap E E E (ag (ab (bf E (af (aa (ac E E (ac E E (ag (ab (au (az (a9 E E E ?_))))))))))))
       exact⟨_,rfl,x3,by
        rw[jA hm h0 (by
         first
         |exact .inl (by omega)
         |exact .inr (.inr (by omega))
         |exact .inr (.inl (gz fun⟨a1,a2,a3,a4⟩=>by
           first
           |omega
           |(rw[hem] at a3;cases a3))))]<;>rfl⟩
theorem wZ:∀(d:Nat),d≤2048→∀{w:World} {n:aZ} {m:Int} {vl x y vk vp:Value},0≤m→m≤65536→cu cV n.lems vl w→bt n.split.at_.2.1 x w→bt n.split.at_.2.2 y w→cu bH n.kids vk w→cu bK n.pf vp w→
 Calls Tryz.prog 111 #[.agg #[vl,I n.split.kd,I n.split.ix,B n.split.at_.1,x,y,vk,B n.empty,vp],I (d:Int),I m] w (bE fun r w'=>aN w w'∧r=.tuple #[I (lO d m n).1,B (lO d m n).2])
 |0,hd,_,_,_,_,_,_,_,_,h0,h1,hl,hx,hy,hk,hp=>wY (fun _ e=>by cases e) hd h0 h1 hl hx hy hk hp
 |d+1,hd,_,_,_,_,_,_,_,_,h0,h1,hl,hx,hy,hk,hp=>wY (fun d' e _ _ _ _ _ _ _ _ a0 a1 b1 b2 b3 b4 b5=>by
   cases e
   exact wZ d (by omega) a0 a1 b1 b2 b3 b4 b5) hd h0 h1 hl hx hy hk hp
theorem mS {w:World} {n:aZ} {vl x y vk vp:Value} (hl:cu cV n.lems vl w) (hx:bt n.split.at_.2.1 x w) (hy:bt n.split.at_.2.2 y w) (hk:cu bH n.kids vk w) (hp:cu bK n.pf vp w):
 Calls Tryz.prog 66 #[.agg #[vl,I n.split.kd,I n.split.ix,B n.split.at_.1,x,y,vk,B n.empty,vp]] w (bE fun r w'=>aN w w'∧r=B (qo n)):=by
 refine enter (vs:=[.agg #[vl,I n.split.kd,I n.split.ix,B n.split.at_.1,x,y,vk,B n.empty,vp]]) Tryz.func66 E E E ?_
 refine af (aa ?_)
 obtain⟨g1,w1,hr1,l1,x1,k1⟩:=cD (P:=Tryz.prog) (w:=w) (T:=52) (cs:=[vl,I n.split.kd,I n.split.ix,B n.split.at_.1,x,y,vk,B n.empty,vp])
 refine cI E E hr1 (ac E E (ag (ab (af (aa (ak E E (k1.ld L6 E (by kernel_rfl)) (an lP E E ((wZ 2048 (Nat.le_refl _) (m:=65536) (by omega) (by omega) (hl.ext x1) (hx.ext x1) (hy.ext x1) (hk.ext x1) (hp.ext x1))) ?_)))))))
 rintro v7 w7 ⟨x7,rfl⟩
 refine ae E E (am E E (bj) (am E E (bk) (ac E E (ac E E (ag (ab (af (aa (ae E E (ac E E ?_))))))))))
 refine ag (ab (au (aA E E ?_)))
 exact⟨_,rfl,(x1.trans x7),by rw[HK n]⟩
end Go.Rl
namespace Go.Rl
open Go.RowKit
def fI (q:fj):Bool:=rv q.1 q.2.1 q.2.2
def mU (l:List cg):Bool:=l.all fun m=>fI m.co
def iN (l:dI):Bool:=fI l.va&&mU l.pf
mutual
def i8:aZ→Bool
 |.mk lems sp kids _ pf=>mU pf&&fI sp.at_&&lems.all iN&&xa kids
def xa:List aZ→Bool
 |[]=>true
 |n::l=>i8 n&&xa l
end
theorem yQ:∀l:List aZ,xa l=l.all i8
 |[]=>rfl
 |n::l=>by simp only[xa,List.all_cons,yQ l]
theorem Ex (n:aZ):i8 n=(mU n.pf&&fI n.split.at_&&n.lems.all iN&&n.kids.all i8):=by
 cases n with
 |mk l s k e p=>simp only[i8,yQ];rfl
def Ll (m:cg):Prop:=lK m.kd∧lK m.ix∧lK m.lo∧lK m.hi
def wP (l:List cg):Prop:=∀m∈l,Ll m
def HO (l:dI):Prop:=lK l.un∧wP l.pf
def wD (d:bV):Prop:=lK d.kd∧lK d.ix
mutual
def wN:aZ→Prop
 |.mk lems sp kids _ pf=>(∀l∈lems,HO l)∧wD sp∧wP pf∧KN kids
def KN:List aZ→Prop
 |[]=>True
 |n::l=>wN n∧KN l
end
theorem Au:∀l:List aZ,KN l↔∀n∈l,wN n
 |[]=>by simp[KN]
 |n::l=>by simp only[KN,Au l,List.mem_cons,forall_eq_or_imp]
theorem tX (n:aZ):wN n↔(∀l∈n.lems,HO l)∧wD n.split∧wP n.pf∧∀k∈n.kids,wN k:=by
 cases n with
 |mk l s k e p=>simp only[wN,Au];rfl
theorem mV (n:aZ):dF n=if n.kids.length=0 then wv n.empty++eu n.lems++iY n.pf else[2]++eu n.lems++fG n.split++n.kids.flatMap dF:=by
 cases n with
 |mk l s k e p=>
  cases k with
  |nil=>simp[dF,aZ.kids,aZ.empty,aZ.lems,aZ.pf]
  |cons k ks=>simp[dF,aZ.kids,aZ.lems,aZ.split,wB]
theorem nG {l t:List UInt8} {n:Int} (h:jy l=some (n,t)):l=dt n++t∧lK n:=by
 refine⟨?_,Ab (st:=some l) (t:=t) h⟩
 unfold jy at h
 obtain⟨p,h1,h2⟩:=Option.map_eq_some_iff.1 h
 simp only[Prod.mk.injEq] at h2
 obtain⟨h3,h4⟩:=gd h1
 rw[←h2.1,←h2.2,dt,Kw]
 exact h3
theorem u4 {l t:List UInt8} {q:fj} (h:jb l=some (q,t)):l=gj q++t∧fI q=true:=by
 obtain⟨b,n,m⟩:=q
 have:=Er h
 exact⟨this.1,this.2.1⟩
section
variable {α:Type} {f:List UInt8→Option (α×List UInt8)} {e:α→List UInt8} {Q:α→Prop}
theorem xc (hf:∀l a t,f l=some (a,t)→l=e a++t∧Q a):∀(n:Nat) (l:List UInt8) (xs:List α) (t:List UInt8),bS f n l=some (xs,t)→l=xs.flatMap e++t∧xs.length=n∧∀x∈xs,Q x
 |0,l,xs,t,h=>by
  simp only[bS,Option.some.injEq,Prod.mk.injEq] at h
  obtain⟨rfl,rfl⟩:=h
  exact⟨rfl,rfl,fun _ h=>by simp at h⟩
 |n+1,l,xs,t,h=>by
  simp only[bS] at h
  obtain⟨p,h1,h2⟩:=Option.bind_eq_some_iff.1 h
  obtain⟨q,h3,h4⟩:=Option.map_eq_some_iff.1 h2
  simp only[Prod.mk.injEq] at h4
  obtain⟨rfl,rfl⟩:=h4
  obtain⟨a1,a2⟩:=hf l p.1 p.2 h1
  obtain⟨b1,b2,b3⟩:=xc hf n p.2 q.1 q.2 h3
  refine⟨?_,by simp[b2],fun x hx=>?_⟩
  ·rw[List.flatMap_cons,List.append_assoc,←b1];exact a1
  ·rcases List.mem_cons.1 hx with rfl|hx
   ·exact a2
   ·exact b3 x hx
theorem ro (hf:∀l a t,f l=some (a,t)→l=e a++t∧Q a) {l t:List UInt8} {xs:List α} (h:dn f l=some (xs,t)):l=uv xs.length++xs.flatMap e++t∧xs.length<18446744073709551616∧∀x∈xs,Q x:=by
 unfold dn at h
 obtain⟨p,h1,h2⟩:=Option.bind_eq_some_iff.1 h
 obtain⟨a1,a2⟩:=gd (l:=l) (n:=p.1) (t:=p.2) h1
 obtain⟨b1,b2,b3⟩:=xc hf _ _ _ _ h2
 refine⟨?_,by omega,b3⟩
 rw[b2,List.append_assoc,←b1]
 exact a1
end
theorem Ey {k n:Nat} {l t:List UInt8} (h:jW k l=some (n,t)):l=uv n++t∧n≤k:=by
 unfold jW at h
 obtain⟨p,h1,h2⟩:=Option.bind_eq_some_iff.1 h
 split at h2
 ·simp only[Option.some.injEq] at h2
  subst h2
  exact⟨(gd h1).1,by assumption⟩
 ·cases h2
theorem BM {n:Nat} (h:n≤1):uv n=wv (bW n):=by
 rw[iV (by omega)]
 rcases Nat.le_one_iff_eq_zero_or_eq_one.1 h with rfl|rfl<;>rfl
theorem Ez {l t:List UInt8} {d:bV} (h:oh l=some (d,t)):l=fG d++t∧(fI d.at_=true∧wD d):=by
 unfold oh at h
 obtain⟨p1,h1,h⟩:=Option.bind_eq_some_iff.1 h
 obtain⟨p2,h2,h⟩:=Option.bind_eq_some_iff.1 h
 obtain⟨p3,h3,h⟩:=Option.bind_eq_some_iff.1 h
 simp only[Option.some.injEq,Prod.mk.injEq] at h
 obtain⟨rfl,rfl⟩:=h
 have a1:=nG (n:=p1.1) (t:=p1.2) h1
 have a2:=nG (n:=p2.1) (t:=p2.2) h2
 have a3:=u4 (q:=p3.1) (t:=p3.2) h3
 refine⟨?_,a3.2,a1.2,a2.2⟩
 show l=dt p1.1++dt p2.1++gj p3.1++p3.2
 rw[List.append_assoc,List.append_assoc,←a3.1,←a2.1,←a1.1]
theorem HP {l t:List UInt8} {d:cg} (h:ri l=some (d,t)):l=fg d++t∧(fI d.co=true∧Ll d):=by
 unfold ri at h
 obtain⟨p1,h1,h⟩:=Option.bind_eq_some_iff.1 h
 obtain⟨p2,h2,h⟩:=Option.bind_eq_some_iff.1 h
 obtain⟨p3,h3,h⟩:=Option.bind_eq_some_iff.1 h
 obtain⟨p4,h4,h⟩:=Option.bind_eq_some_iff.1 h
 obtain⟨p5,h5,h⟩:=Option.bind_eq_some_iff.1 h
 simp only[Option.some.injEq,Prod.mk.injEq] at h
 obtain⟨rfl,rfl⟩:=h
 have a1:=nG (n:=p1.1) (t:=p1.2) h1
 have a2:=nG (n:=p2.1) (t:=p2.2) h2
 have a3:=nG (n:=p3.1) (t:=p3.2) h3
 have a4:=nG (n:=p4.1) (t:=p4.2) h4
 have a5:=u4 (q:=p5.1) (t:=p5.2) h5
 refine⟨?_,a5.2,a1.2,a2.2,a3.2,a4.2⟩
 show l=dt p1.1++dt p2.1++dt p3.1++dt p4.1++gj p5.1++p5.2
 rw[List.append_assoc,List.append_assoc,List.append_assoc,List.append_assoc,←a5.1,←a4.1,←a3.1,←a2.1,←a1.1]
theorem EA {l t:List UInt8} {xs:List cg} (h:BJ l=some (xs,t)):l=iY xs++t∧xs.length<18446744073709551616∧mU xs=true∧wP xs:=by
 obtain⟨h1,h2,h3⟩:=ro (fun l a t h=>HP h) h
 exact⟨h1,h2,List.all_eq_true.2 fun m hm=>(h3 m hm).1,fun m hm=>(h3 m hm).2⟩
theorem HQ {l t:List UInt8} {m:dI} (h:nA l=some (m,t)):l=dY m++t∧(iN m=true∧HO m∧m.pf.length<18446744073709551616):=by
 unfold nA at h
 obtain⟨p1,h1,h⟩:=Option.bind_eq_some_iff.1 h
 obtain⟨p2,h2,h⟩:=Option.bind_eq_some_iff.1 h
 obtain⟨p3,h3,h⟩:=Option.bind_eq_some_iff.1 h
 obtain⟨p4,h4,h⟩:=Option.bind_eq_some_iff.1 h
 simp only[Option.some.injEq,Prod.mk.injEq] at h
 obtain⟨rfl,rfl⟩:=h
 have a1:=nG (n:=p1.1) (t:=p1.2) h1
 have a2:=Ey (n:=p2.1) (t:=p2.2) h2
 have a3:=u4 (q:=p3.1) (t:=p3.2) h3
 have a4:=EA (xs:=p4.1) (t:=p4.2) h4
 refine⟨?_,by simp only[iN,Bool.and_eq_true];exact⟨a3.2,a4.2.2.1⟩,⟨a1.2,a4.2.2.2⟩,a4.2.1⟩
 show l=dt p1.1++wv (bW p2.1)++gj p3.1++iY p4.1++p4.2
 rw[List.append_assoc,List.append_assoc,List.append_assoc,←a4.1,←a3.1,←BM a2.2,←a2.1,←a1.1]
theorem FY {l t:List UInt8} {xs:List dI} (h:jc l=some (xs,t)):l=eu xs++t∧xs.length<18446744073709551616∧xs.all iN=true∧(∀m∈xs,HO m):=by
 obtain⟨h1,h2,h3⟩:=ro (fun l a t h=>HQ h) h
 exact⟨h1,h2,List.all_eq_true.2 fun m hm=>(h3 m hm).1,fun m hm=>(h3 m hm).2.1⟩
theorem xe:∀(k:Nat) (l t:List UInt8) (n:aZ),qm k l=some (n,t)→l=dF n++t∧(i8 n=true∧wN n∧(n.kids.length=0∨n.kids.length=2))
 |0,_,_,_,h=>by cases h
 |k+1,l,t,n,h=>by
  simp only[qm] at h
  obtain⟨p1,h1,h⟩:=Option.bind_eq_some_iff.1 h
  obtain⟨p2,h2,h⟩:=Option.bind_eq_some_iff.1 h
  have a1:=Ey (n:=p1.1) (t:=p1.2) h1
  have a2:=FY (xs:=p2.1) (t:=p2.2) h2
  split at h
  ·rename_i hk
   obtain⟨p3,h3,h⟩:=Option.bind_eq_some_iff.1 h
   simp only[Option.some.injEq,Prod.mk.injEq] at h
   obtain⟨rfl,rfl⟩:=h
   have a3:=EA (xs:=p3.1) (t:=p3.2) h3
   refine⟨?_,?_,?_,.inl rfl⟩
   ·simp only[dF]
    rw[List.append_assoc,List.append_assoc,←a3.1,←a2.1,show decide (p1.1=1)=bW p1.1 from rfl,←BM (by omega),←a1.1]
   ·simp only[i8,xa,a3.2.2.1,a2.2.2.1,lq,KH]
    decide
   ·simp only[wN,KN,and_true]
    exact⟨a2.2.2.2,⟨by show lK 0;unfold lK;omega,by show lK 0;unfold lK;omega⟩,a3.2.2.2⟩
  ·rename_i hk
   obtain⟨p3,h3,h⟩:=Option.bind_eq_some_iff.1 h
   obtain⟨p4,h4,h⟩:=Option.bind_eq_some_iff.1 h
   obtain⟨p5,h5,h⟩:=Option.bind_eq_some_iff.1 h
   simp only[Option.some.injEq,Prod.mk.injEq] at h
   obtain⟨rfl,rfl⟩:=h
   have a3:=Ez (d:=p3.1) (t:=p3.2) h3
   have a4:=xe k _ p4.2 p4.1 h4
   have a5:=xe k _ p5.2 p5.1 h5
   have h2:p1.1=2:=by omega
   refine⟨?_,?_,?_,.inr rfl⟩
   ·have u2:uv 2=[2]:=iV (by omega)
    rw[h2,u2] at a1
    simp only[dF,ww,List.append_assoc,List.nil_append]
    rw[←a5.1,←a4.1,←a3.1,←a2.1,←a1.1]
   ·simp only[i8,xa,a2.2.2.1,a3.2.1,a4.2.1,a5.2.1]
    decide
   ·simp only[wN,KN,and_true]
    exact⟨a2.2.2.2,a3.2.2,fun _ h=>by simp at h,a4.2.2.1,a5.2.2.1⟩
theorem HR {l t:List UInt8} {n:aZ} (h:gW l=some (n,t)):l=dF n++t∧(i8 n=true∧wN n∧(n.kids.length=0∨n.kids.length=2)):=xe l.length l t n h
theorem jG (q:fj):4*(q.2.1.length+q.2.2.length)≤(gj q).length:=by
 have h:∀n:List UInt32,4*n.length≤(jj n).length:=fun n=>by simp only[jj,List.length_append,eE];omega
 have h1:=h q.2.1
 have h2:=h q.2.2
 simp only[gj,om,List.length_append,List.length_cons,List.length_nil]
 omega
end Go.Rl
namespace Go.Rl
def lcp:List UInt8→List UInt8→Nat
 |a::l,b::m=>if a=b then lcp l m+1 else 0
 |_,_=>0
def ml (d:List UInt8) (i k:Nat):Nat:=lcp (d.drop i) (d.drop (i-k))
def bst (d:List UInt8) (i:Nat):Nat→Nat×Nat
 |0=>(0,0)
 |j+1=>if 4≤ml d i (j+1)∧(bst d i j).1<ml d i (j+1) then(ml d i (j+1),j+1) else bst d i j
def Ja (d:List UInt8) (i:Nat):Nat×Nat:=bst d i (min i 4096)
def pk (d:List UInt8) (i run:Nat):List UInt8:=
 if _h:i<d.length then
  if hn:(Ja d i).1=0 then pk d (i+1) (run+1)
  else uv run++(d.drop (i-run)).take run++uv ((Ja d i).1-4)++uv ((Ja d i).2-1)++pk d (i+(Ja d i).1) 0
 else if 0<run then uv run++d.drop (d.length-run) else[]
termination_by d.length-i
decreasing_by all_goals omega
def HS (d:List UInt8):List UInt8:=uv d.length++pk d 0 0
def cpy (k:Nat):Nat→List UInt8→List UInt8
 |0,out=>out
 |m+1,out=>cpy k m (out++[out.getD (out.length-k) 0])
def unp (total:Nat):Nat→List UInt8→List UInt8→Option (List UInt8)
 |0,_,_=>none
 |f+1,rest,out=>
  if out.length<total then
   (eJ rest).bind fun p=>
     if total-out.length<p.1∨p.2.length<p.1 then none
     else if total-out.length=p.1 then(if p.2.drop p.1=[] then some (out++p.2.take p.1) else none)
     else(eJ (p.2.drop p.1)).bind fun q=>
      if total-out.length-p.1<4∨total-out.length-p.1-4<q.1 then none
      else(eJ q.2).bind fun r=>
       if 4096≤r.1∨(out++p.2.take p.1).length≤r.1 then none
       else unp total f r.2 (cpy (r.1+1) (q.1+4) (out++p.2.take p.1))
  else if rest=[] then some out else none
end Go.Rl
namespace Go.Rl
def unr (total:Nat):Nat→List UInt8→List UInt8→Option (List UInt8×List UInt8)
 |0,_,_=>none
 |f+1,rest,out=>
  if out.length<total then
   (ql rest).bind fun p=>
     if (out++p.1).length<total then
      (eJ p.2).bind fun q=>(eJ q.2).bind fun r=>
        if total≤q.1∨(out++p.1).length≤r.1 then none
        else unr total f r.2 (cpy (r.1+1) (min (q.1+4) (total-(out++p.1).length)) (out++p.1))
     else some (out++p.1,p.2)
  else some (out,rest)
def vp (l t:List UInt8) (total:Nat):Option (List UInt8):=(unp total (total+1) t []).bind fun out=>if HS out=l then some out else none
def vr (l t:List UInt8) (total:Nat):Option (List UInt8):=(unr total (total+1) t []).bind fun p=>if p.2=[]∧HS p.1=l then some p.1 else none
end Go.Rl
namespace Go.Rl
def pos (d q:List UInt8) (n:Nat):List Nat:=(List.range n).filter fun p=>(d.drop p).take 4==q
end Go.Rl
namespace Go.Rl
open Go.RowKit Go.Proofs
open Go.Maps (Keyed)
end Go.Rl
namespace Go.Rl
open Go.RowKit Go.Proofs
end Go.Rl
namespace Go.Rl
open Go.RowKit Go.Proofs
theorem n64 {n:Nat} (h:n<18446744073709551616):(UInt64.ofNat n).toNat=n:=by rw[UInt64.toNat_ofNat'];omega
end Go.Rl
namespace Go.Rl
open Go.RowKit Go.Proofs
theorem BN:aG Tryz.prog 43:=⟨_,Tryz.func43,by kernel_rfl,rfl⟩
theorem BO {w:World} {l m:List UInt8} {v u:Value} (hv:cn l v w) (hu:cn m u w):
 Calls Tryz.prog 43 #[v,u] w (bE fun r w'=>aN w w'∧r=B (decide (l=m))):=by
 refine enter (vs:=[v,u]) Tryz.func43 E E E ?_
 have hll:=hv.len
 refine af (aa (ac E E (ag (ab (af (af (aa (ae E E (aQ E E (cM hv) (ae E E (aQ E E (cM hu) (al E E E (cC) ?_))))))))))))
 refine ag (ab ?_)
 refine bw E (fun h10=>?_) (fun h10=>?_)
 ·have hne:l≠m:=fun h=>h10 (by rw[h])
  refine af (aa (ac E E (ag (ab (au (az (aA E E ?_)))))))
  exact⟨_,rfl,aN.refl _,congrArg B (decide_eq_false hne).symm⟩
 ·have hlen:l.length=m.length:=by omega
  refine aC (ab (af (af (aa (ae E E (aQ E E (cM hv) (ae E E (ag (ab (aH ?_))))))))))
  refine cm (α:=Nat) (fun x=>[(0,v),(1,u),(12,I (l.length:Int)),(13,I (x:Int))]) (fun x w'=>aN w w'∧x≤l.length∧l.take x=m.take x) (fun x=>l.length-x) (0) ⟨rfl,rfl,rfl,rfl,trivial⟩ ⟨aN.refl _,by omega,rfl⟩ ?_
  rintro i w4 ⟨e4,hi,ht⟩
  refine af (aa (al E E E (bc) (ag (ab (af ?_)))))
  refine bw E (fun h14=>?_) (fun h14=>?_)
  ·refine aC (ab (af (aH (af (aa (ae E E (ac E E (ag (ab (af (bO 8 [0,1,12,13,19,23] (by kernel_rfl) (by kernel_rfl) ?_)))))))))))
   refine aD E E (aD E E ?_)
   obtain⟨a18,p18,q18⟩:=gR (hv.ext e4) (i:=i) (by omega) .i64
   refine aF E E E (fun w _=>p18 w) (aO E E (fun w hw=>aj Mf E (hw.cell_some q18)) (aD E E (aD E E ?_)))
   obtain⟨a22,p22,q22⟩:=gR (hu.ext e4) (i:=i) (by omega) .i64
   refine aF E E E (fun w _=>p22 w) (aO E E (fun w hw=>aj Mf E (hw.cell_some q22)) (cq ?_))
   intro wg6 xg6
   rintro _ hq0
   obtain rfl:=Eq.symm hq0
   rintro _ hq1
   obtain rfl:=Eq.symm hq1
   rintro _ rfl
   rintro _ rfl
   rintro _ rfl
   rintro _ rfl
   refine al E E E (Gz) (ag (ab ?_))
   refine bw E (fun h24=>?_) (fun h24=>?_)
   ·have hne:l≠m:=fun h=>h24 (by subst h;rfl)
    refine af (aa (ac E E (ag (ab (au (a6 (az (az (a6 (az (aA E E ?_)))))))))))
    exact⟨_,rfl,(e4.trans xg6),congrArg B (decide_eq_false hne).symm⟩
   ·have he:l[i]'(by omega)=m[i]'(by omega):=Classical.byContradiction fun h=>h24 h
    refine aC (aS (ab (aa (al (r:=I ((i+1:Nat):Int)) E E E (by have e:((i+1:Nat):Int)=(i:Int)+1:=(by omega);rw[e];exact aP (by omega) (by omega)) ?_))))
    refine ae E E (ag ?_)
    refine bT (i+1) ⟨rfl,rfl,rfl,rfl,trivial⟩ ⟨(e4.trans xg6),by omega,by rw[List.take_succ_eq_append_getElem (by omega),List.take_succ_eq_append_getElem (by omega),ht,he]⟩ (by omega)
  ·refine bg (aJ (aJ (bh (ab (af (aa (ac E E (ag (ab (au (aA E E ?_)))))))))))
   exact⟨_,rfl,e4,by
    rw[List.take_of_length_le (by omega),List.take_of_length_le (by omega)] at ht
    rw[decide_eq_true ht];rfl⟩
end Go.Rl
namespace Go.Rl
open Go.RowKit Go.Proofs
section
variable {w:World} {g:Nat} {st:Option (List UInt8)}
theorem HT (hr:cQ g st w):Calls Tryz.prog 90 #[.pointer (some ⟨g,0,none⟩)] w (bE fun r w'=>w=w'∧r=I ((st.getD []).length:Nat)):=(FH hr).mono fun _ _ ⟨v,h,h1,h2⟩=>⟨v,h,h2.symm,h1⟩
end
end Go.Rl
namespace Go.Rl
open Go.RowKit Go.Proofs
theorem Av {l t':List UInt8} {n:Nat} (h:eJ (l.take 10)=some (n,t')):eJ l=some (n,l.drop (uv n).length)∧(uv n).length+t'.length=min l.length 10:=by
 obtain⟨h1,h2⟩:=gd h
 have hlen:(uv n).length+t'.length=min l.length 10:=by
  have:=congrArg List.length h1
  rw[List.length_take,List.length_append] at this
  omega
 have e:l=uv n++(t'++l.drop 10):=by
  rw[←List.append_assoc,←h1,List.take_append_drop]
 refine⟨?_,hlen⟩
 have hd:l.drop (uv n).length=t'++l.drop 10:=by
  conv=>lhs;rw[e]
  rw[List.drop_left' rfl]
 rw[hd]
 conv=>lhs;rw[e]
 exact qG h2 _
theorem Aw {l:List UInt8} (h:eJ (l.take 10)=none):eJ l=none:=by
 cases hr:eJ l with
 |none=>rfl
 |some p=>
  obtain⟨n,t⟩:=p
  obtain⟨h1,h2⟩:=gd hr
  have hl:=et (n:=n) h2
  have e:l.take 10=uv n++t.take (10-(uv n).length):=by
   rw[h1,List.take_append]
   congr 1
   exact List.take_of_length_le (by omega)
  rw[e,qG h2] at h
  cases h
theorem Jb {P:Program} {w:World} {ts:Array TypeId} {ty:TypeId} {n:Nat}:(Builtin.min_ ts ty #[I (n:Int),I 10]).run P w=.ok (I ((min n 10:Nat):Int)) w:=by
 have e:((min n 10:Nat):Int)=if (10:Int)<(n:Int) then 10 else(n:Int):=by split<;>omega
 rw[e];rfl
theorem HU {P:Program} {w:World} {t:TypeId} {x y:Operand} {a b c:Nat} (h:c+b=a) (ha:a≤1099511627776):(bin .sub t x y (I (a:Int)) (I (b:Int))).run P w=.ok (I (c:Int)) w:=by
 have e:(c:Int)=(a:Int)-(b:Int):=by omega
 rw[e]
 exact bG (by omega) (by omega)
end Go.Rl
namespace Go.Rl
open Go.RowKit Go.Proofs
end Go.Rl
namespace Go.Rl
open Go.RowKit Go.Proofs
end Go.Rl
namespace Go.Rl
open Go.RowKit Go.Proofs
theorem KO {l t:List UInt8} {n:Nat} (h:eJ l=some (n,t)):t.length≤l.length:=by
 obtain⟨h1,_⟩:=gd h
 rw[h1,List.length_append];omega
theorem HV {l a t:List UInt8} (h:ql l=some (a,t)):a.length+t.length≤l.length:=by
 unfold ql at h
 cases hU:eJ l with
 |none=>rw[hU] at h;cases h
 |some p=>
  obtain⟨n,u⟩:=p
  rw[hU] at h
  have h:(if n≤u.length then some (u.take n,u.drop n) else none)=some (a,t):=h
  have:=KO hU
  split at h
  ·simp only[Option.some.injEq,Prod.mk.injEq] at h
   rw[←h.1,←h.2,List.length_take,List.length_drop]
   omega
  ·cases h
end Go.Rl
namespace Go.Rl
open Go.RowKit Go.Proofs
end Go.Rl
namespace Go.Rl
open Go.RowKit Go.Proofs
end Go.Rl
namespace Go.Rl
open Go.RowKit Go.Proofs
end Go.Rl
namespace Go.Rl
open Go.RowKit Go.Proofs
end Go.Rl
namespace Go.Rl
end Go.Rl
namespace Go.Rl
open Go.RowKit Go.Proofs
end Go.Rl
namespace Go.Rl
open Go.RowKit Go.Proofs
end Go.Rl
namespace Go.Rl
open Go.RowKit Go.Proofs
theorem xf:(Tryz.prog.info? 200).map (·.zero)=some (some (.agg (List.replicate 64 (bJ 0)).toArray)):=by kernel_rfl
theorem xh:(Tryz.prog.info? 200).map (·.size)=some 64:=by kernel_rfl
theorem fx:aG Tryz.prog 122:=⟨_,Tryz.func122,by kernel_rfl,rfl⟩
theorem xi:aG Tryz.prog 123:=⟨_,Tryz.func123,by kernel_rfl,rfl⟩
theorem fy {w:World} {x:UInt32} (n:Nat) (h0:0<n) (h1:n<32):
 Calls Tryz.prog 122 #[bJ x,I (n:Int)] w (bE fun r w'=>aN w w'∧r=bJ (i7 x n)):=by
 refine enter (vs:=[bJ x,I (n:Int)]) Tryz.func122 E E E ?_
 refine af (aa (ac E E (ag (ab (af ?_)))))
 have e:(32:Int)-(n:Int)=((32-n:Nat):Int):=by omega
 refine bO 8 [12] (by kernel_rfl) (by kernel_rfl) ?_
 refine aD E E (aD E E ?_)
 refine bb E E E (fun w _=>cY n h1) ?_
 refine aD E E (aD E E ?_)
 refine bb (r:=I ((32-n:Nat):Int)) E E E (fun w _=>by rw[←e];exact bG (by omega) (by omega)) ?_
 refine bb E E E (fun w _=>fk (32-n) (by omega)) ?_
 refine bb E E E (fun w _=>fE) ?_
 refine cq ?_
 intro w' hw
 rintro _ rfl
 refine ac E E (ag (ab (au ?_)))
 refine aA E E ?_
 exact⟨_,rfl,hw,rfl⟩
theorem xj (w:World):
 Calls Tryz.prog 123 #[] w (bE fun r w'=>aN w w'∧r=.agg (kc.map bJ).toArray):=by
 refine enter (vs:=[]) Tryz.func123 E E E ?_
 refine af (aa (aV E (zQ xf) (ag (ab (af (aa ?_))))))
 refine bC E E (run_build _ _ _ (kc.map bJ).toArray (by kernel_rfl)) ?_
 have hb:=cr.new (w:=w) (T:=200) (.agg (List.replicate 64 (bJ 0)).toArray) rfl
 refine aq E E (jV hb E xh (kP _)) ?_
 refine ag (ab (au ?_))
 refine dv E E (hb.row _) MD E xh ?_
 refine⟨_,rfl,?_,rfl⟩
 exact(aN.new w _).of_grown (bP _ _ _) fun k hk=>by
  obtain rfl:=Option.some.inj hk
  exact Nat.le_refl _
theorem eQ:aG Tryz.prog 121:=⟨_,Tryz.func121,by kernel_rfl,rfl⟩
theorem uN:aG Tryz.prog 120:=⟨_,Tryz.func120,by kernel_rfl,rfl⟩
theorem eS {w:World} {x:UInt32} (n:Nat) (h0:0<n) (h1:n<32):
 Calls Tryz.prog 121 #[bJ x,I (n:Int)] w (bE fun r w'=>aN w w'∧r=bJ (i7 x n)):=by
 refine enter (vs:=[bJ x,I (n:Int)]) Tryz.func121 E E E ?_
 refine af (aa (ac E E (ag (ab (af ?_)))))
 have e:(32:Int)-(n:Int)=((32-n:Nat):Int):=by omega
 refine bO 8 [12] (by kernel_rfl) (by kernel_rfl) ?_
 refine aD E E (aD E E ?_)
 refine bb E E E (fun w _=>cY n h1) ?_
 refine aD E E (aD E E ?_)
 refine bb (r:=I ((32-n:Nat):Int)) E E E (fun w _=>by rw[←e];exact bG (by omega) (by omega)) ?_
 refine bb E E E (fun w _=>fk (32-n) (by omega)) ?_
 refine bb E E E (fun w _=>fE) ?_
 refine cq ?_
 intro w' hw
 rintro _ rfl
 refine ac E E (ag (ab (au ?_)))
 refine aA E E ?_
 exact⟨_,rfl,hw,rfl⟩
theorem uO (w:World):
 Calls Tryz.prog 120 #[] w (bE fun r w'=>aN w w'∧r=.agg (kc.map bJ).toArray):=by
 refine enter (vs:=[]) Tryz.func120 E E E ?_
 refine af (aa (aV E (zQ xf) (ag (ab (af (aa ?_))))))
 refine bC E E (run_build _ _ _ (kc.map bJ).toArray (by kernel_rfl)) ?_
 have hb:=cr.new (w:=w) (T:=200) (.agg (List.replicate 64 (bJ 0)).toArray) rfl
 refine aq E E (jV hb E xh (kP _)) ?_
 refine ag (ab (au ?_))
 refine dv E E (hb.row _) MD E xh ?_
 refine⟨_,rfl,?_,rfl⟩
 exact(aN.new w _).of_grown (bP _ _ _) fun k hk=>by
  obtain rfl:=Option.some.inj hk
  exact Nat.le_refl _
end Go.Rl
namespace Go.Rl
open Go.RowKit Go.Proofs
theorem EB:(Tryz.prog.info? 150).map (·.zero)=some (some (.agg (List.replicate 8 (bJ 0)).toArray)):=by kernel_rfl
theorem o2:(Tryz.prog.info? 150).map (·.size)=some 8:=by kernel_rfl
section
variable {w:World} {g o:Nat} {T:TypeId}
theorem dZ (i:Nat) (hi:i<8):(Instr.indexAt 150 (.pointer (some ⟨g,0,none⟩)) (I (i:Int))).run Tryz.prog w=.ok (.pointer (some ⟨g,i,none⟩)) w:=by
 have:=iH (P:=Tryz.prog) (w:=w) (g:=g) (o:=0) Mz eB hi .i64
 rwa [Nat.zero_add] at this
theorem iu (i:Nat) (hi:i<64):(Instr.indexAt 200 (.pointer (some ⟨g,0,none⟩)) (I (i:Int))).run Tryz.prog w=.ok (.pointer (some ⟨g,i,none⟩)) w:=by
 have:=iH (P:=Tryz.prog) (w:=w) (g:=g) (o:=0) MD eB hi .i64
 rwa [Nat.zero_add] at this
theorem du {m:List UInt32} (h:cr g T (m.map bJ) w) (i:Nat) (hi:i<m.length):(Instr.loadAt 149 (.pointer (some ⟨g,i,none⟩))).run Tryz.prog w=.ok (bJ (m.getD i 0)) w:=
 aj Tryz.underlying149 rfl (h.cell (by simp[hi]))
theorem BP {m:List UInt32} {x:UInt32} (h:cr g T (m.map bJ) w) (i:Nat) (hi:i<m.length):(Instr.storeAt 149 (.pointer (some ⟨g,i,none⟩)) (bJ x)).run Tryz.prog w=.ok () (w.setCell ⟨g,i,none⟩ (bJ x)):=
 ei eB rfl h (by simpa using hi)
theorem cr.setU {m:List UInt32} (h:cr g T (m.map bJ) w) (i:Nat) (x:UInt32):cr g T ((m.set i x).map bJ) (w.setCell ⟨g,i,none⟩ (bJ x)):=by
 have:=h.set i (bJ x)
 rwa [←List.map_set] at this
end
def dC (l:List UInt32):List UInt32:=l++List.replicate (64-l.length) 0
theorem nH {l:List UInt32} (h:l.length≤64):(dC l).length=64:=by simp[dC];omega
theorem gA {l:List UInt32} {i:Nat} (h:i<l.length):(dC l).getD i 0=l.getD i 0:=by
 simp[dC,List.getD,List.getElem?_append_left h]
theorem nI {l:List UInt32} (x:UInt32) (h:l.length<64):(dC l).set l.length x=dC (l++[x]):=by
 unfold dC
 rw[List.set_append_right _ _ (Nat.le_refl _),Nat.sub_self]
 have:64-l.length=(64-(l++[x]).length)+1:=by simp;omega
 rw[this,List.replicate_succ,List.set_cons_zero,List.append_assoc]
 rfl
theorem xk (b:List UInt8) (k:Nat):jE b (k+1)=jE b k++[sH b k]:=by simp[jE,List.range_succ]
theorem kx (b:List UInt8) (k:Nat):(jE b k).length=k:=by simp[jE]
def jH (s v:List UInt32) (i:Nat):List UInt32:=List.zipWith (· + ·) (s.take i) (v.take i)++s.drop i
theorem FZ {s v:List UInt32} (hs:s.length=8) (hv:v.length=8) {i:Nat} (hi:i≤8):(jH s v i).length=8:=by
 simp[jH,hs,hv];omega
theorem yR {s v:List UInt32} (hs:s.length=8) (hv:v.length=8) {i:Nat} (hi:i<8):(jH s v i).getD i 0=s.getD i 0:=by
 have h:(List.zipWith (· + ·) (s.take i) (v.take i)).length=i:=by simp[hs,hv];omega
 simp only[jH,List.getD_eq_getElem?_getD]
 rw[List.getElem?_append_right (by omega),h]
 simp
theorem yS {s v:List UInt32} (hs:s.length=8) (hv:v.length=8) {i:Nat} (hi:i<8):(jH s v i).set i (s.getD i 0+v.getD i 0)=jH s v (i+1):=by
 have h:(List.zipWith (· + ·) (s.take i) (v.take i)).length=i:=by simp[hs,hv];omega
 have h1:s.getD i 0=s[i]:=by simp[List.getD,hs,hi]
 have h2:v.getD i 0=v[i]:=by simp[List.getD,hv,hi]
 unfold jH
 rw[List.set_append_right _ _ (by omega),h,Nat.sub_self,h1,h2]
 rw[List.drop_eq_getElem_cons (by omega:i<s.length),List.set_cons_zero,List.take_succ_eq_append_getElem (by omega:i<s.length),List.take_succ_eq_append_getElem (by omega:i<v.length)]
 rw[List.zipWith_append (by simp[hs,hv])]
 simp
theorem yT {s v:List UInt32} (hs:s.length=8) (hv:v.length=8):jH s v 8=List.zipWith (· + ·) s v:=by
 have h1:s.take 8=s:=List.take_of_length_le (by omega)
 have h2:v.take 8=v:=List.take_of_length_le (by omega)
 have h3:s.drop 8=[]:=List.drop_eq_nil_of_le (by omega)
 unfold jH
 rw[h1,h2,h3,List.append_nil]
end Go.Rl
namespace Go.Rl
open Go.RowKit Go.Proofs
theorem BQ:aG Tryz.prog 86:=⟨_,Tryz.func86,by kernel_rfl,rfl⟩
theorem Dk {P:Program} {w:World} {t:TypeId} {v:Value} {l:List Value} (hv:v.cells=l.toArray):∃g w',(Instr.box t v).run P w=.ok (.pointer (some ⟨g,0,none⟩)) w'∧w.heap.size≤g∧aN w w'∧cr g t l w':=
 ⟨_,_,vB,Nat.le_refl _,aN.new w _,cr.new v hv⟩
theorem cn.reads {b:List UInt8} {v:Value} {w:World} (h:cn b v w):∃ad:Nat→Addr,∀i,i<b.length→
 (∀w':World,(Instr.indexAt 22 v (I (i:Int))).run Tryz.prog w'=.ok (.pointer (some (ad i))) w')∧∀w',aN w w'→(Instr.loadAt 5 (.pointer (some (ad i)))).run Tryz.prog w'=.ok (U8 (b.getD i 0)) w':=by
 have hall:∀i:Nat,∃ad:Addr,i<b.length→(∀w':World,(Instr.indexAt 22 v (I (i:Int))).run Tryz.prog w'=.ok (.pointer (some ad)) w')∧∀w',aN w w'→(Instr.loadAt 5 (.pointer (some ad))).run Tryz.prog w'=.ok (U8 (b.getD i 0)) w':=fun i=>by
  by_cases hi:i<b.length
  ·obtain⟨ad,had,hcell⟩:=gR h hi .i64
   refine⟨ad,fun _=>⟨had,fun w' hw'=>?_⟩⟩
   obtain⟨ad',had',hcell'⟩:=gR (h.ext hw') hi .i64
   have:=(had w').symm.trans (had' w')
   simp only[Result.ok.injEq,Value.pointer.injEq,Option.some.injEq,and_true] at this
   subst this
   have e:b.getD i 0=b[i]:=by simp[List.getD,hi]
   rw[e]
   exact JV hcell'
  ·exact⟨⟨0,0,none⟩,fun h=>absurd h hi⟩
 exact⟨fun i=>Classical.choose (hall i),fun i hi=>Classical.choose_spec (hall i) hi⟩
theorem BR {w:World} {s:List UInt32} {b:List UInt8} {v:Value} (hs:s.length=8) (hbl:b.length=64) (hv:cn b v w):
 Calls Tryz.prog 86 #[.agg (s.map bJ).toArray,v] w (bE fun r w'=>aN w w'∧r=.agg ((xV s b).map bJ).toArray):=by
 refine enter (vs:=[.agg (s.map bJ).toArray,v]) Tryz.func86 E E E ?_
 obtain⟨g2,w1,hr,n2,x1,b2⟩:=Dk (P:=Tryz.prog) (w:=w) (t:=150) (v:=.agg (s.map bJ).toArray) (l:=s.map bJ) rfl
 refine af (aa (cI E E hr ?_))
 obtain⟨g4,w2,hr,n4,x2,b4⟩:=aX (P:=Tryz.prog) (w:=w1) (l:=(List.replicate 8 0).map bJ) EB rfl
 refine aV E hr (ag (ab (af (aa ?_))))
 refine an (vs:=[]) uN E E (uO w2) ?_
 rintro _ w3 ⟨x3,rfl⟩
 obtain⟨g5,w4,hr,n5,x4,b5⟩:=aX (P:=Tryz.prog) (w:=w3) (l:=List.replicate 64 (bJ 0)) xf rfl
 refine aV E hr ?_
 refine aq E E (jV b5 E xh (kP _)) ?_
 have b5':=b5.row (kc.map bJ)
 have q5:=bP w4 g5 (kc.map bJ).toArray
 revert b5' q5
 generalize w4.setRow g5 (kc.map bJ).toArray=w5
 intro b5' q5
 refine ag (ab (af (aa ?_)))
 obtain⟨g6,w6,hr,n6,x6,b6⟩:=aX (P:=Tryz.prog) (w:=w5) (l:=(dC []).map bJ) xf rfl
 refine aV E hr (ag (ab ?_))
 have l24:g2<g4:=Nat.lt_of_lt_of_le b2.lt n4
 have l45:g4<g5:=Nat.lt_of_lt_of_le b4.lt (Nat.le_trans x3.size n5)
 have l56:g5<g6:=Nat.lt_of_lt_of_le b5'.lt n6
 have ne4:some g4≠some g5:=fun h=>by cases h;omega
 have ne2:some g2≠some g5:=fun h=>by cases h;omega
 have B2:cr g2 _ _ w6:=((((b2.ext x2).ext x3).ext x4).other q5 ne2).ext x6
 have B4:cr g4 _ _ w6:=(((b4.ext x3).ext x4).other q5 ne4).ext x6
 have B5:cr g5 _ _ w6:=b5'.ext x6
 have E6:aN w w6:=((((x1.trans x2).trans x3).trans x4).of_new q5 (by omega)).trans x6
 have hw6:w.heap.size≤g6:=by omega
 obtain⟨ad,had⟩:=hv.reads
 refine af (eZ (fun _:Unit=>[(2,.pointer (some ⟨g2,0,none⟩)),(4,.pointer (some ⟨g4,0,none⟩)),(5,.pointer (some ⟨g5,0,none⟩)),(6,.pointer (some ⟨g6,0,none⟩))]) (fun _ w'=>w6.grownBy w' (some g6)∧cr g6 200 ((dC (bN b 0)).map bJ) w') ?_ ?_)
 ·refine af (aa (ac E E (ag (ab (aH ?_)))))
  refine cm (α:=Nat) (fun k=>[(1,v),(2,.pointer (some ⟨g2,0,none⟩)),(4,.pointer (some ⟨g4,0,none⟩)),(5,.pointer (some ⟨g5,0,none⟩)),(6,.pointer (some ⟨g6,0,none⟩)),(7,I (k:Int))])
   (fun k w'=>w6.grownBy w' (some g6)∧cr g6 200 ((dC (jE b k)).map bJ) w'∧k≤16) (fun k=>16-k) 0 ⟨rfl,rfl,rfl,rfl,rfl,rfl,trivial⟩
   ⟨dH (aN.refl _),b6,by omega⟩ ?_
  rintro k w7 ⟨q7,b7,hk⟩
  refine af (af (aa (ae E E ?_)))
  refine al E E E (bc) ?_
  refine ag (ab ?_)
  refine bw E (fun h=>?_) (fun h=>?_)
  ·have hk16:k<16:=by omega
   have E7:aN w w7:=E6.of_new q7 hw6
   refine aC (ab (af (aH ?_)))
   have e0:(4:Int)*(k:Int)=((4*k:Nat):Int):=by omega
   have e1:((4*k:Nat):Int)+1=((4*k+1:Nat):Int):=by omega
   have e2:((4*k:Nat):Int)+2=((4*k+2:Nat):Int):=by omega
   have e3:((4*k:Nat):Int)+3=((4*k+3:Nat):Int):=by omega
   refine bO 35 [1,2,4,5,6,7,58,59] (by kernel_rfl) (by kernel_rfl) ?_
   refine aD E E (aD E E (aD E E ?_))
   refine bb (r:=I ((4*k:Nat):Int)) E E E (fun w _=>by rw[←e0];exact fB (by omega) (by omega)) ?_
   refine aF E E E (fun w _=>(had (4*k) (by omega)).1 w) ?_
   refine aO E E (fun w' hw=>(had (4*k) (by omega)).2 w' (E7.trans hw)) ?_
   refine dy E E (fun w _=>eA Mf L7) ?_
   refine bb E E E (fun w _=>fk 24 (by omega)) ?_
   refine aD E E (aD E E ?_)
   refine bb (r:=I ((4*k:Nat):Int)) E E E (fun w _=>by rw[←e0];exact fB (by omega) (by omega)) ?_
   refine bb (r:=I ((4*k+1:Nat):Int)) E E E (fun w _=>by rw[←e1];exact aP (by omega) (by omega)) ?_
   refine aF E E E (fun w _=>(had (4*k+1) (by omega)).1 w) ?_
   refine aO E E (fun w' hw=>(had (4*k+1) (by omega)).2 w' (E7.trans hw)) ?_
   refine dy E E (fun w _=>eA Mf L7) ?_
   refine bb E E E (fun w _=>fk 16 (by omega)) ?_
   refine bb E E E (fun w _=>fE) ?_
   refine aD E E (aD E E ?_)
   refine bb (r:=I ((4*k:Nat):Int)) E E E (fun w _=>by rw[←e0];exact fB (by omega) (by omega)) ?_
   refine bb (r:=I ((4*k+2:Nat):Int)) E E E (fun w _=>by rw[←e2];exact aP (by omega) (by omega)) ?_
   refine aF E E E (fun w _=>(had (4*k+2) (by omega)).1 w) ?_
   refine aO E E (fun w' hw=>(had (4*k+2) (by omega)).2 w' (E7.trans hw)) ?_
   refine dy E E (fun w _=>eA Mf L7) ?_
   refine bb E E E (fun w _=>fk 8 (by omega)) ?_
   refine bb E E E (fun w _=>fE) ?_
   refine aD E E (aD E E ?_)
   refine bb (r:=I ((4*k:Nat):Int)) E E E (fun w _=>by rw[←e0];exact fB (by omega) (by omega)) ?_
   refine bb (r:=I ((4*k+3:Nat):Int)) E E E (fun w _=>by rw[←e3];exact aP (by omega) (by omega)) ?_
   refine aF E E E (fun w _=>(had (4*k+3) (by omega)).1 w) ?_
   refine aO E E (fun w' hw=>(had (4*k+3) (by omega)).2 w' (E7.trans hw)) ?_
   refine dy E E (fun w _=>eA Mf L7) ?_
   refine bb E E E (fun w _=>fE) ?_
   refine aF E E E (fun w _=>iu k (by omega)) ?_
   refine cq ?_
   intro w8 hx8
   rintro _ rfl _ rfl _ rfl _ rfl _ rfl _ rfl _ rfl _ rfl
   have hlen:(dC (jE b k)).length=64:=nH (by rw[kx];omega)
   refine aq E E (BP (x:=sH b k) (b7.ext hx8) k (by omega)) ?_
   have b8:=(b7.ext hx8).setU k (sH b k)
   have q8:=(q7.trans (dH hx8)).trans (bm w8 g6 k (bJ (sH b k)))
   have hset:(dC (jE b k)).set k (sH b k)=dC (jE b (k+1)):=by
    have:=nI (l:=jE b k) (sH b k) (by rw[kx];omega)
    rw[kx] at this
    rw[this,xk]
   rw[hset] at b8
   refine ag (aS (ab (aa (ae E E ?_))))
   refine al E E E (aP (by omega) (by omega)) ?_
   refine ac E E (ag ?_)
   exact bT (k+1) ⟨rfl,rfl,rfl,rfl,rfl,rfl,trivial⟩ ⟨q8,b8,by omega⟩ (by omega)
  ·have hk':k=16:=by omega
   subst hk'
   exact bg (aJ (aJ (bh (ct () ⟨rfl,rfl,rfl,rfl,trivial⟩ ⟨q7,b7⟩))))
 rintro _ w7 ⟨q7,b7⟩
 refine ab ?_
 refine af (eZ (fun _:Unit=>[(2,.pointer (some ⟨g2,0,none⟩)),(4,.pointer (some ⟨g4,0,none⟩)),(5,.pointer (some ⟨g5,0,none⟩)),(6,.pointer (some ⟨g6,0,none⟩))]) (fun _ w'=>w6.grownBy w' (some g6)∧cr g6 200 ((bN b 48).map bJ) w') ?_ ?_)
 ·refine af (aa (ac E E (ag (ab (aH ?_)))))
  refine cm (α:=Nat) (fun k=>[(2,.pointer (some ⟨g2,0,none⟩)),(4,.pointer (some ⟨g4,0,none⟩)),(5,.pointer (some ⟨g5,0,none⟩)),(6,.pointer (some ⟨g6,0,none⟩)),(8,I ((16+k:Nat):Int))])
   (fun k w'=>w6.grownBy w' (some g6)∧cr g6 200 ((dC (bN b k)).map bJ) w'∧k≤48) (fun k=>48-k) 0 ⟨rfl,rfl,rfl,rfl,rfl,trivial⟩
   ⟨q7,b7,by omega⟩ ?_
  clear q7 b7
  rintro k w7 ⟨q7,b7,hk⟩
  have hL:=mH b k
  refine af (af (aa (ae E E ?_)))
  refine al E E E (bc) ?_
  refine ag (ab ?_)
  refine bw E (fun h=>?_) (fun h=>?_)
  ·have hk48:k<48:=by omega
   refine aC (ab (af (aH (af ?_))))
   have e15:((16+k:Nat):Int)-15=(((bN b k).length-15:Nat):Int):=by omega
   have e2:((16+k:Nat):Int)-2=(((bN b k).length-2:Nat):Int):=by omega
   have e16:((16+k:Nat):Int)-16=(((bN b k).length-16:Nat):Int):=by omega
   have e7:((16+k:Nat):Int)-7=(((bN b k).length-7:Nat):Int):=by omega
   have f15:=gA (l:=bN b k) (i:=(bN b k).length-15) (by omega)
   have f2:=gA (l:=bN b k) (i:=(bN b k).length-2) (by omega)
   have f16:=gA (l:=bN b k) (i:=(bN b k).length-16) (by omega)
   have f7:=gA (l:=bN b k) (i:=(bN b k).length-7) (by omega)
   have hlen:(dC (bN b k)).length=64:=nH (by omega)
   refine bO 9 [2,4,5,6,8,9,71] (by kernel_rfl) (by kernel_rfl) ?_
   refine aD E E ?_
   refine bb (r:=I (((bN b k).length-15:Nat):Int)) E E E (fun w _=>by rw[←e15];exact bG (by omega) (by omega)) ?_
   refine aF E E E (fun w _=>iu _ (by omega)) ?_
   refine aO (r:=bJ ((bN b k).getD ((bN b k).length-15) 0)) E E (fun w' hw=>by rw[←f15];exact du (b7.ext hw) _ (by omega)) ?_
   refine aD E E ?_
   refine bb (r:=I (((bN b k).length-2:Nat):Int)) E E E (fun w _=>by rw[←e2];exact bG (by omega) (by omega)) ?_
   refine aF E E E (fun w _=>iu _ (by omega)) ?_
   refine aO (r:=bJ ((bN b k).getD ((bN b k).length-2) 0)) E E (fun w' hw=>by rw[←f2];exact du (b7.ext hw) _ (by omega)) ?_
   refine fY E E (cq ?_)
   intro w8 hx8
   rintro _ rfl _ rfl _ rfl _ rfl _ rfl _ rfl _ rfl
   refine ac E E (ag (ab (af (aa (ae E E ?_)))))
   refine an eQ E E (eS 7 (by omega) (by omega)) ?_
   rintro _ w9 ⟨hx9,rfl⟩
   refine ae E E ?_
   refine an eQ E E (eS 18 (by omega) (by omega)) ?_
   rintro _ w10 ⟨hx10,rfl⟩
   refine al E E E (cT) ?_
   refine ae E E ?_
   refine al E E E (cY 3 (by omega)) ?_
   refine al E E E (cT) ?_
   refine ac E E (ag (ab (af (aa (ae E E ?_)))))
   refine an eQ E E (eS 17 (by omega) (by omega)) ?_
   rintro _ w11 ⟨hx11,rfl⟩
   refine ae E E ?_
   refine an eQ E E (eS 19 (by omega) (by omega)) ?_
   rintro _ w12 ⟨hx12,rfl⟩
   refine al E E E (cT) ?_
   refine ae E E ?_
   refine al E E E (cY 10 (by omega)) ?_
   refine al E E E (cT) ?_
   refine ac E E (ag (ab ?_))
   have x12:=(((hx8.trans hx9).trans hx10).trans hx11).trans hx12
   have b12:=b7.ext x12
   refine bO 15 [2,4,5,6,8,101,102] (by kernel_rfl) (by kernel_rfl) ?_
   refine aD E E (aD E E ?_)
   refine bb (r:=I (((bN b k).length-16:Nat):Int)) E E E (fun w _=>by rw[←e16];exact bG (by omega) (by omega)) ?_
   refine aF E E E (fun w _=>iu _ (by omega)) ?_
   refine aO (r:=bJ ((bN b k).getD ((bN b k).length-16) 0)) E E (fun w' hw=>by rw[←f16];exact du (b12.ext hw) _ (by omega)) ?_
   refine aD E E ?_
   refine bb E E E (fun w _=>cx) ?_
   refine aD E E ?_
   refine bb (r:=I (((bN b k).length-7:Nat):Int)) E E E (fun w _=>by rw[←e7];exact bG (by omega) (by omega)) ?_
   refine aF E E E (fun w _=>iu _ (by omega)) ?_
   refine aO (r:=bJ ((bN b k).getD ((bN b k).length-7) 0)) E E (fun w' hw=>by rw[←f7];exact du (b12.ext hw) _ (by omega)) ?_
   refine bb E E E (fun w _=>cx) ?_
   refine aD E E ?_
   refine bb E E E (fun w _=>cx) ?_
   refine aF E E E (fun w _=>iu (16+k) (by omega)) ?_
   refine cq ?_
   intro w13 hx13
   rintro _ rfl _ rfl _ rfl _ rfl _ rfl _ rfl _ rfl
   refine aq E E (BP (x:=oW (bN b k)) (b12.ext hx13) (16+k) (by omega)) ?_
   have b13:=(b12.ext hx13).setU (16+k) (oW (bN b k))
   have q13:=((q7.trans (dH x12)).trans (dH hx13)).trans (bm w13 g6 (16+k) (bJ (oW (bN b k))))
   have hset:(dC (bN b k)).set (16+k) (oW (bN b k))=dC (bN b (k+1)):=by
    have:=nI (l:=bN b k) (oW (bN b k)) (by omega)
    rw[hL] at this
    exact this
   rw[hset] at b13
   refine ag (aS (ab (aa (ae E E ?_))))
   refine al E E E (aP (by omega) (by omega)) ?_
   refine ac E E (ag ?_)
   exact bT (k+1) ⟨rfl,rfl,rfl,rfl,rfl,trivial⟩ ⟨q13,b13,by omega⟩ (by omega)
  ·have hk':k=48:=by omega
   subst hk'
   have hf:dC (bN b 48)=bN b 48:=by
    unfold dC
    rw[hL]
    exact List.append_nil _
   rw[hf] at b7
   exact bg (aJ (aJ (bh (ct () ⟨rfl,rfl,rfl,rfl,trivial⟩ ⟨q7,b7⟩))))
 clear q7 b7
 rintro _ w7 ⟨q7,b7⟩
 refine ab ?_
 have E7:aN w w7:=E6.of_new q7 hw6
 have ne26:some g2≠some g6:=fun h=>by cases h;omega
 have ne46:some g4≠some g6:=fun h=>by cases h;omega
 have ne56:some g5≠some g6:=fun h=>by cases h;omega
 have C2:=B2.other q7 ne26
 have C4:=B4.other q7 ne46
 have C5:=B5.other q7 ne56
 have hlen8:(Tryz.prog.info? 150).map (·.size)=some (s.map bJ).length:=by rw[List.length_map,hs];exact o2
 refine af (aa ?_)
 refine ak E E (oA (m:=s.map bJ) C2 (fun j v h=>by rwa [Nat.zero_add]) Mz E hlen8) ?_
 obtain⟨g13,w8,hr,n13,x8,b13⟩:=aX (P:=Tryz.prog) (w:=w7) (l:=(List.replicate 8 0).map bJ) EB rfl
 refine aV E hr ?_
 refine aq E E (jV b13 (by simp[hs]) hlen8 (kP _)) ?_
 have b13':=b13.row (s.map bJ)
 have q13:=bP w8 g13 (s.map bJ).toArray
 have l13:g6<g13:=Nat.lt_of_lt_of_le b7.lt n13
 have ne213:some g2≠some g13:=fun h=>by cases h;omega
 have ne413:some g4≠some g13:=fun h=>by cases h;omega
 have ne513:some g5≠some g13:=fun h=>by cases h;omega
 have ne613:some g6≠some g13:=fun h=>by cases h;omega
 have D2:=(C2.ext x8).other q13 ne213
 have D4:=(C4.ext x8).other q13 ne413
 have D5:=(C5.ext x8).other q13 ne513
 have D6:=(b7.ext x8).other q13 ne613
 have E8:aN w (w8.setRow g13 (s.map bJ).toArray):=(E7.trans x8).of_new q13 (by omega)
 revert b13' D2 D4 D5 D6 E8
 generalize w8.setRow g13 (s.map bJ).toArray=w9
 intro b13' D2 D4 D5 D6 E9
 refine ag (ab ?_)
 refine af (eZ (fun _:Unit=>[(2,.pointer (some ⟨g2,0,none⟩)),(4,.pointer (some ⟨g4,0,none⟩)),(13,.pointer (some ⟨g13,0,none⟩))]) (fun _ w'=>w9.grownBy w' (some g13)∧cr g13 150 ((ek b s 64).map bJ) w') ?_ ?_)
 ·refine af (aa (ac E E (ag (ab (aH ?_)))))
  refine cm (α:=Nat) (fun i=>[(2,.pointer (some ⟨g2,0,none⟩)),(4,.pointer (some ⟨g4,0,none⟩)),(5,.pointer (some ⟨g5,0,none⟩)),(6,.pointer (some ⟨g6,0,none⟩)),(13,.pointer (some ⟨g13,0,none⟩)),(14,I (i:Int))])
   (fun i w'=>w9.grownBy w' (some g13)∧cr g13 150 ((ek b s i).map bJ) w'∧i≤64) (fun i=>64-i) 0 ⟨rfl,rfl,rfl,rfl,rfl,rfl,trivial⟩
   ⟨dH (aN.refl _),b13',by omega⟩ ?_
  rintro i w10 ⟨q10,b10,hi⟩
  have hv8:=ir b s hs i
  refine af (af (aa (ae E E ?_)))
  refine al E E E (bc) ?_
  refine ag (ab ?_)
  refine bw E (fun h=>?_) (fun h=>?_)
  ·have hi64:i<64:=by omega
   refine aC (ab (af (aH (af ?_))))
   have V:=b10
   have K5:=D5.other q10 ne513
   have K6:=D6.other q10 ne613
   have hkc:kc.length=64:=rfl
   have hsl:(bN b 48).length=64:=mH b 48
   refine bO 5 [2,4,5,6,13,14,15,111] (by kernel_rfl) (by kernel_rfl) ?_
   refine aF E E E (fun w _=>dZ 0 (by omega)) ?_
   refine aO E E (fun w' hw=>du (V.ext hw) 0 (by omega)) ?_
   refine aF E E E (fun w _=>dZ 4 (by omega)) ?_
   refine aO E E (fun w' hw=>du (V.ext hw) 4 (by omega)) ?_
   refine fY E E (cq ?_)
   intro w11 hx11
   rintro _ rfl _ rfl _ rfl _ rfl _ rfl _ rfl _ rfl _ rfl
   refine ac E E (ag (ab (af ?_)))
   replace V:=V.ext hx11
   replace K5:=K5.ext hx11
   replace K6:=K6.ext hx11
   refine bO 30 [2,4,5,6,13,14,15,16,141] (by kernel_rfl) (by kernel_rfl) ?_
   refine aF E E E (fun w _=>dZ 7 (by omega)) ?_
   refine aO E E (fun w' hw=>du (V.ext hw) 7 (by omega)) ?_
   refine aD E E ?_
   refine ca (S:=Is (bJ (i7 _ 6))) eQ (cd.is _) E (fun w' _=>by
    rintro _ rfl _ rfl
    exact bE.mono (eS 6 (by omega) (by omega)) fun v w'' h=>⟨h.1,h.2⟩) ?_
   refine aD E E ?_
   refine ca (S:=Is (bJ (i7 _ 11))) eQ (cd.is _) E (fun w' _=>by
    rintro _ rfl _ rfl
    exact bE.mono (eS 11 (by omega) (by omega)) fun v w'' h=>⟨h.1,h.2⟩) ?_
   refine bb E E E (fun w _=>cT) ?_
   refine aD E E ?_
   refine ca (S:=Is (bJ (i7 _ 25))) eQ (cd.is _) E (fun w' _=>by
    rintro _ rfl _ rfl
    exact bE.mono (eS 25 (by omega) (by omega)) fun v w'' h=>⟨h.1,h.2⟩) ?_
   refine bb E E E (fun w _=>cT) ?_
   refine bb E E E (fun w _=>cx) ?_
   refine aD E E ?_
   refine aF E E E (fun w _=>dZ 5 (by omega)) ?_
   refine aO E E (fun w' hw=>du (V.ext hw) 5 (by omega)) ?_
   refine bb E E E (fun w _=>fD) ?_
   refine aD E E ?_
   refine vw E E (fun w _=>ui) ?_
   refine aF E E E (fun w _=>dZ 6 (by omega)) ?_
   refine aO E E (fun w' hw=>du (V.ext hw) 6 (by omega)) ?_
   refine bb E E E (fun w _=>fD) ?_
   refine bb E E E (fun w _=>cT) ?_
   refine bb E E E (fun w _=>cx) ?_
   refine aD E E ?_
   refine aF E E E (fun w _=>iu i (by omega)) ?_
   refine aO E E (fun w' hw=>du (K5.ext hw) i (by omega)) ?_
   refine bb E E E (fun w _=>cx) ?_
   refine aD E E ?_
   refine aF E E E (fun w _=>iu i (by omega)) ?_
   refine aO E E (fun w' hw=>du (K6.ext hw) i (by omega)) ?_
   refine bb E E E (fun w _=>cx) ?_
   refine cq ?_
   intro w12 hx12
   rintro _ rfl _ rfl _ rfl _ rfl _ rfl _ rfl _ rfl _ rfl _ rfl
   refine ac E E (ag (ab (af ?_)))
   replace V:=V.ext hx12
   refine bO 24 [2,4,5,6,13,14,15,16,17,165] (by kernel_rfl) (by kernel_rfl) ?_
   refine aD E E ?_
   refine ca (S:=Is (bJ (i7 _ 2))) eQ (cd.is _) E (fun w' _=>by
    rintro _ rfl _ rfl
    exact bE.mono (eS 2 (by omega) (by omega)) fun v w'' h=>⟨h.1,h.2⟩) ?_
   refine aD E E ?_
   refine ca (S:=Is (bJ (i7 _ 13))) eQ (cd.is _) E (fun w' _=>by
    rintro _ rfl _ rfl
    exact bE.mono (eS 13 (by omega) (by omega)) fun v w'' h=>⟨h.1,h.2⟩) ?_
   refine bb E E E (fun w _=>cT) ?_
   refine aD E E ?_
   refine ca (S:=Is (bJ (i7 _ 22))) eQ (cd.is _) E (fun w' _=>by
    rintro _ rfl _ rfl
    exact bE.mono (eS 22 (by omega) (by omega)) fun v w'' h=>⟨h.1,h.2⟩) ?_
   refine bb E E E (fun w _=>cT) ?_
   refine aD E E ?_
   refine aF E E E (fun w _=>dZ 1 (by omega)) ?_
   refine aO E E (fun w' hw=>du (V.ext hw) 1 (by omega)) ?_
   refine bb E E E (fun w _=>fD) ?_
   refine aD E E ?_
   refine aF E E E (fun w _=>dZ 2 (by omega)) ?_
   refine aO E E (fun w' hw=>du (V.ext hw) 2 (by omega)) ?_
   refine bb E E E (fun w _=>fD) ?_
   refine bb E E E (fun w _=>cT) ?_
   refine aF E E E (fun w _=>dZ 1 (by omega)) ?_
   refine aO E E (fun w' hw=>du (V.ext hw) 1 (by omega)) ?_
   refine aF E E E (fun w _=>dZ 2 (by omega)) ?_
   refine aO E E (fun w' hw=>du (V.ext hw) 2 (by omega)) ?_
   refine bb E E E (fun w _=>fD) ?_
   refine bb E E E (fun w _=>cT) ?_
   refine bb E E E (fun w _=>cx) ?_
   refine cq ?_
   intro w13 hx13
   rintro _ rfl _ rfl _ rfl _ rfl _ rfl _ rfl _ rfl _ rfl _ rfl _ rfl
   refine ac E E (ag (ab (aa (ae E E (ae E E ?_)))))
   replace V:=V.ext hx13
   refine al E E E (cx) ?_
   refine ae E E ?_
   refine ax E E E (dZ 1 (by omega)) ?_
   refine ak E E (du V 1 (by omega)) ?_
   refine ax E E E (dZ 2 (by omega)) ?_
   refine ak E E (du V 2 (by omega)) ?_
   refine ax E E E (dZ 3 (by omega)) ?_
   refine ak E E (du V 3 (by omega)) ?_
   refine ae E E ?_
   refine al E E E (cx) ?_
   refine ae E E ?_
   refine ax E E E (dZ 5 (by omega)) ?_
   refine ak E E (du V 5 (by omega)) ?_
   refine ax E E E (dZ 6 (by omega)) ?_
   refine ak E E (du V 6 (by omega)) ?_
   refine bC E E (run_build _ _ _ ((ek b s (i+1)).map bJ).toArray (by kernel_rfl)) ?_
   have hn8:=ir b s hs (i+1)
   refine aq E E (jV V (by simp[hv8,hn8]) (by rw[List.length_map,hn8];exact o2) (kP _)) ?_
   have V':=V.row ((ek b s (i+1)).map bJ)
   have q14:=(q10.trans (dH ((hx11.trans hx12).trans hx13))).trans (bP w13 g13 ((ek b s (i+1)).map bJ).toArray)
   refine ag (aS (ab (aa (ae E E ?_))))
   refine al E E E (aP (by omega) (by omega)) ?_
   refine ac E E (ag ?_)
   exact bT (i+1) ⟨rfl,rfl,rfl,rfl,rfl,rfl,trivial⟩ ⟨q14,V',by omega⟩ (by omega)
  ·have hi':i=64:=by omega
   subst hi'
   exact bg (aJ (aJ (bh (ct () ⟨rfl,rfl,rfl,trivial⟩ ⟨q10,b10⟩))))
 rintro _ w10 ⟨q10,b10⟩
 refine ab ?_
 have hv8:=ir b s hs 64
 have F2:=D2.other q10 ne213
 have F4:=D4.other q10 ne413
 have E10:aN w w10:=E9.of_new q10 (by omega)
 have ha0:jH s (ek b s 64) 0=s:=by simp[jH]
 refine af (eZ (fun _:Unit=>[(2,.pointer (some ⟨g2,0,none⟩)),(4,.pointer (some ⟨g4,0,none⟩))]) (fun _ w'=>w10.grownBy w' (some g2)∧cr g2 150 ((jH s (ek b s 64) 8).map bJ) w') ?_ ?_)
 ·refine af (aa (ac E E (ag (ab (aH ?_)))))
  refine cm (α:=Nat) (fun i=>[(2,.pointer (some ⟨g2,0,none⟩)),(4,.pointer (some ⟨g4,0,none⟩)),(13,.pointer (some ⟨g13,0,none⟩)),(19,I (i:Int))])
   (fun i w'=>w10.grownBy w' (some g2)∧cr g2 150 ((jH s (ek b s 64) i).map bJ) w'∧i≤8) (fun i=>8-i) 0 ⟨rfl,rfl,rfl,rfl,trivial⟩
   ⟨dH (aN.refl _),by rw[ha0];exact F2,by omega⟩ ?_
  rintro i w11 ⟨q11,b11,hi⟩
  refine af (af (aa (ae E E ?_)))
  refine al E E E (bc) ?_
  refine ag (ab ?_)
  refine bw E (fun h=>?_) (fun h=>?_)
  ·have hi8:i<8:=by omega
   have hal:=FZ hs hv8 hi
   have hag:=yR hs hv8 hi8
   have K13:=b10.other q11 (fun h=>by cases h;omega)
   refine aC (ab (af (aH ?_)))
   refine bO 8 [2,4,13,19,194,195] (by kernel_rfl) (by kernel_rfl) ?_
   refine aD E E ?_
   refine aF E E E (fun w _=>dZ i (by omega)) ?_
   refine aO (r:=bJ (s.getD i 0)) E E (fun w' hw=>by rw[←hag];exact du (b11.ext hw) i (by omega)) ?_
   refine aD E E ?_
   refine aF E E E (fun w _=>dZ i (by omega)) ?_
   refine aO E E (fun w' hw=>du (K13.ext hw) i (by omega)) ?_
   refine bb E E E (fun w _=>cx) ?_
   refine aF E E E (fun w _=>dZ i (by omega)) ?_
   refine cq ?_
   intro w12 hx12
   rintro _ rfl _ rfl _ rfl _ rfl _ rfl _ rfl
   refine aq E E (BP (b11.ext hx12) i (by omega)) ?_
   have b12:=(b11.ext hx12).setU i (s.getD i 0+(ek b s 64).getD i 0)
   rw[yS hs hv8 hi8] at b12
   have q12:=(q11.trans (dH hx12)).trans (bm w12 g2 i (bJ (s.getD i 0+(ek b s 64).getD i 0)))
   refine ag (aS (ab (aa (ae E E ?_))))
   refine al E E E (aP (by omega) (by omega)) ?_
   refine ac E E (ag ?_)
   exact bT (i+1) ⟨rfl,rfl,rfl,rfl,trivial⟩ ⟨q12,b12,by omega⟩ (by omega)
  ·have hi':i=8:=by omega
   subst hi'
   exact bg (aJ (aJ (bh (ct () ⟨rfl,rfl,trivial⟩ ⟨q11,b11⟩))))
 rintro _ w11 ⟨q11,b11⟩
 rw[yT hs hv8] at b11
 have hc8:=BG s b hs
 have hlen8':(Tryz.prog.info? 150).map (·.size)=some ((xV s b).map bJ).length:=by rw[List.length_map,hc8];exact o2
 have G4:=F4.other q11 (fun h=>by cases h;omega)
 refine ab (af (aa ?_))
 refine ak E E (oA (m:=(xV s b).map bJ) b11 (fun j v h=>by rw[Nat.zero_add];exact h) Mz E hlen8') ?_
 refine aq E E (jV G4 (by simp[hc8]) hlen8' (kP _)) ?_
 refine ag (ab (au ?_))
 refine dv E E (G4.row _) Mz E hlen8' ?_
 exact⟨_,rfl,(E10.of_new q11 (by omega)).of_new (bP _ _ _) (by omega),rfl⟩
end Go.Rl
namespace Go.Rl
open Go.RowKit Go.Proofs
theorem fW:(Tryz.prog.info? 24).map (·.zero)=some (some (.agg (List.replicate 32 (U8 0)).toArray)):=by kernel_rfl
theorem iZ:(Tryz.prog.info? 24).map (·.size)=some 32:=by kernel_rfl
section
variable {w:World} {g o:Nat} {T:TypeId}
theorem xl (i:Nat) (hi:i<32):(Instr.indexAt 24 (.pointer (some ⟨g,0,none⟩)) (I (i:Int))).run Tryz.prog w=.ok (.pointer (some ⟨g,i,none⟩)) w:=by
 have:=iH (P:=Tryz.prog) (w:=w) (g:=g) (o:=0) Mm fC hi .i64
 rwa [Nat.zero_add] at this
theorem yU {m:List UInt8} {x:UInt8} (h:cr g T (m.map U8) w) (i:Nat) (hi:i<m.length):(Instr.storeAt 5 (.pointer (some ⟨g,i,none⟩)) (U8 x)).run Tryz.prog w=.ok () (w.setCell ⟨g,i,none⟩ (U8 x)):=
 ei fC rfl h (by simpa using hi)
theorem cr.setB {m:List UInt8} (h:cr g T (m.map U8) w) (i:Nat) (x:UInt8):cr g T ((m.set i x).map U8) (w.setCell ⟨g,i,none⟩ (U8 x)):=by
 have:=h.set i (U8 x)
 rwa [←List.map_set] at this
end
theorem sS (m:List UInt8):∀v∈m.map U8,v.oneCell'=true:=by
 intro u hu
 obtain⟨b,_,rfl⟩:=List.mem_map.1 hu
 rfl
def fL (d:List UInt8) (n j:Nat):List UInt8:=d.take j++List.replicate (n-j) 0
theorem kA {d:List UInt8} {n j:Nat} (hd:d.length=n) (hj:j≤n):(fL d n j).length=n:=by simp[fL,hd];omega
theorem kB {d:List UInt8} {n j:Nat} (hd:d.length=n) (hj:j<n):(fL d n j).set j (d.getD j 0)=fL d n (j+1):=by
 have h:(d.take j).length=j:=by simp[hd];omega
 have h1:d.getD j 0=d[j]:=by simp[List.getD,hd,hj]
 unfold fL
 rw[List.set_append_right _ _ (by omega),h,Nat.sub_self,h1,List.take_succ_eq_append_getElem (by omega:j<d.length)]
 have:n-j=(n-(j+1))+1:=by omega
 rw[this,List.replicate_succ,List.set_cons_zero,List.append_assoc]
 rfl
theorem tY {d:List UInt8} {n:Nat} (hd:d.length=n):fL d n n=d:=by
 simp[fL,←hd]
theorem BS (s:List UInt32):(s.flatMap xT).length=4*s.length:=by
 induction s with
 |nil=>rfl
 |cons x s ih=>
  have:(x::s).flatMap xT=xT x++s.flatMap xT:=by simp
  rw[this,List.length_append,ih]
  simp[xT];omega
theorem mW:∀(s:List UInt32) (i k:Nat),i<s.length→k<4→(s.flatMap xT).getD (4*i+k) 0=(s.getD i 0>>>UInt32.ofNat (24-8*k)).toUInt8
 |[],_,_,h,_=>by simp at h
 |x::s,0,k,_,hk=>by
  have e:(x::s).flatMap xT=xT x++s.flatMap xT:=by simp
  rw[e]
  match k,hk with
  |0,_=>rfl
  |1,_=>rfl
  |2,_=>rfl
  |3,_=>
   show x.toUInt8=(x>>>UInt32.ofNat 0).toUInt8
   rw[show UInt32.ofNat 0=0 from rfl,UInt32.shiftRight_zero]
 |x::s,i+1,k,h,hk=>by
  have e:(x::s).flatMap xT=xT x++s.flatMap xT:=by simp
  rw[e]
  have h4:(xT x).length=4:=rfl
  have:=mW s i k (by simpa using h) hk
  rw[List.getD_eq_getElem?_getD,List.getElem?_append_right (by omega),h4,show 4*(i+1)+k-4=4*i+k by omega,←List.getD_eq_getElem?_getD,this]
  rfl
theorem dg (m:List UInt8):(jx m).length=32:=by
 unfold jx
 rw[BS,Ht]
theorem Ax (n:UInt64):(BH n).length=8:=by simp[BH]
theorem HW (n:UInt64) {j:Nat} (hj:j<8):(BH n).take (j+1)=(BH n).take j++[(n>>>UInt64.ofNat (56-8*j)).toUInt8]:=by
 rw[List.take_succ_eq_append_getElem (by rw[Ax];exact hj)]
 simp[BH]
theorem HX (M:List UInt8) (k:Nat):yH M (k+1)=xV (yH M k) ((M.take (64*k+64)).drop (64*k)):=by
 rw[yH,List.drop_take,Nat.add_sub_cancel_left]
end Go.Rl
namespace Go.Rl
open Go.RowKit Go.Proofs
theorem F0:aG Tryz.prog 38:=⟨_,Tryz.func38,by kernel_rfl,rfl⟩
theorem F1 {w:World} {l:List UInt8} {v:Value} (hv:cn l v w) (hl:l.length≤1099511627776):
 Calls Tryz.prog 38 #[v] w (bE fun r w'=>aN w w'∧r=.agg ((jx l).map U8).toArray):=by
 refine enter (vs:=[v]) Tryz.func38 E E E ?_
 obtain⟨g2,w1,hr,n2,x1,b2⟩:=aX (P:=Tryz.prog) (w:=w) (l:=(List.replicate 32 0).map U8) fW rfl
 refine af (aa (aV E hr (ag (ab (af (aa ?_))))))
 obtain⟨r3,w3,hr,x3,o3,_⟩:=dX (w:=w1) w1.heap.size [] (by simp) (Nat.le_refl _)
 refine aK (vs:=[]) E E hr ?_
 refine ae E E ?_
 have e3:=x1.trans x3
 obtain⟨r4,w4,hr,o4,g4⟩:=c6 (ty:=22) o3 (hv.ext e3) (by simp only[List.length_nil];omega) x3.size
 have x4:=x3.of_grew g4 o3.ge
 refine ba E E hr ?_
 obtain⟨r5,w5,hr,x5,o5,_⟩:=dX (w:=w4) w4.heap.size [128] (by simp) (Nat.le_refl _)
 refine aK (vs:=[(0,U8 128)]) E E hr ?_
 obtain⟨r6,w6,hr,o6,g6⟩:=c6 (ty:=22) (o4.ext x5) o5.bts (by simp only[List.nil_append,List.length_cons,List.length_nil];omega) (x4.trans x5).size
 have x6:=(x4.trans x5).of_grew g6 o4.ge
 refine ba E E hr ?_
 rw[List.nil_append] at o6
 have B2:=b2.ext x6
 refine ac E E (ag (ab ?_))
 refine af (eZ (fun m:Value=>[(0,v),(2,.pointer (some ⟨g2,0,none⟩)),(3,m)]) (fun m w'=>df w1.heap.size (l++[128]++List.replicate (it l.length) 0) m w'∧aN w1 w') ?_ ?_)
 ·refine aH ?_
  refine cm (α:=Nat×Value) (fun x=>[(0,v),(2,.pointer (some ⟨g2,0,none⟩)),(3,x.2)])
   (fun x w'=>df w1.heap.size (l++[128]++List.replicate x.1 0) x.2 w'∧aN w1 w'∧x.1≤it l.length) (fun x=>it l.length-x.1) (0,r6) ⟨rfl,rfl,rfl,trivial⟩
   ⟨by simpa using o6,x6,by simp⟩ ?_
  rintro⟨k,m⟩ w7 ⟨o7,x7,hk⟩
  dsimp only at o7 x7 hk
  have hp:it l.length<64:=by unfold it;omega
  have hm:(l++[128]++List.replicate k 0).length=l.length+1+k:=by simp;omega
  refine af (af (aa (ae E E ?_)))
  refine aQ E E (cM o7.bts) ?_
  refine al E E E (px (by omega) (by omega)) ?_
  refine al E E E (cC) ?_
  refine ag (ab ?_)
  rw[hm]
  refine bw E (fun h=>?_) (fun h=>?_)
  ·have hlt:k<it l.length:=by
    rcases Nat.lt_or_ge k (it l.length) with h1|h1
    ·exact h1
    ·have:k=it l.length:=by omega
     subst this
     exfalso
     unfold it at h
     omega
   refine aC (ab (aH (aa (ae E E ?_))))
   obtain⟨r8,w8,hr,x8,o8,_⟩:=dX (w:=w7) w7.heap.size [0] (by simp) (Nat.le_refl _)
   refine aK (vs:=[(0,U8 0)]) E E hr ?_
   obtain⟨r9,w9,hr,o9,g9⟩:=c6 (ty:=22) (o7.ext x8) o8.bts (by rw[hm];simp only[List.length_cons,List.length_nil];omega) (x7.trans x8).size
   refine ba E E hr ?_
   refine ac E E (ag (aS ?_))
   refine bT (k+1,r9) ⟨rfl,rfl,rfl,trivial⟩ ⟨?_,(x7.trans x8).of_grew g9 o7.ge,hlt⟩ (by show it l.length-(k+1)<it l.length-k;omega)
   show df _ (l++[128]++List.replicate (k+1) 0) r9 w9
   rw[List.replicate_succ',←List.append_assoc]
   exact o9
  ·have hk':k=it l.length:=by
    unfold it at hk hp⊢
    omega
   subst hk'
   exact bg (aJ (aJ (bh (ct m ⟨rfl,rfl,rfl,trivial⟩ ⟨o7,x7⟩))))
 rintro m7 w7 ⟨o7,x7⟩
 refine ab (af (aa (ae E E ?_)))
 refine aQ E E (cM (hv.ext (x1.trans x7))) ?_
 refine aY E E (ff Mb Mc) ?_
 refine al (u:=bI 8) E E E (gG) ?_
 rw[UInt64.mul_comm]
 refine ac E E (ag (ab ?_))
 have hp:it l.length<64:=by unfold it;omega
 have hb8:=Ax (UInt64.ofNat l.length*8)
 refine af (eZ (fun m:Value=>[(2,.pointer (some ⟨g2,0,none⟩)),(3,m)]) (fun m w'=>df w1.heap.size (fc l) m w'∧aN w1 w') ?_ ?_)
 ·refine af (aa (ac E E (ag (ab (aH ?_)))))
  refine cm (α:=Nat×Value) (fun x=>[(2,.pointer (some ⟨g2,0,none⟩)),(3,x.2),(4,bI (UInt64.ofNat l.length*8)),(5,I (7-(x.1:Int)))])
   (fun x w'=>df w1.heap.size (l++[128]++List.replicate (it l.length) 0++(BH (UInt64.ofNat l.length*8)).take x.1) x.2 w'∧aN w1 w'∧x.1≤8) (fun x=>8-x.1) (0,m7) ⟨rfl,rfl,rfl,rfl,trivial⟩
   ⟨by simpa using o7,x7,by simp⟩ ?_
  rintro⟨j,m⟩ w8 ⟨o8,x8,hj⟩
  dsimp only at o8 x8 hj
  refine af (af (aa (ae E E ?_)))
  refine al E E E (iS) ?_
  refine ag (ab ?_)
  refine bw E (fun h=>?_) (fun h=>?_)
  ·have hj8:j<8:=by omega
   refine aC (ab (af (aH (aa (ae E E (ae E E (ae E E ?_)))))))
   have e8:(8:Int)*(7-(j:Int))=((56-8*j:Nat):Int):=by omega
   refine al (r:=I ((56-8*j:Nat):Int)) E E E (by rw[←e8];exact fB (by omega) (by omega)) ?_
   refine al E E E (dD (56-8*j) (by omega)) ?_
   refine aY E E (mh Mc Mf) ?_
   obtain⟨r9,w9,hr,x9,o9,_⟩:=dX (w:=w8) w8.heap.size [((UInt64.ofNat l.length*8)>>>UInt64.ofNat (56-8*j)).toUInt8] (by simp) (Nat.le_refl _)
   refine aK (vs:=[(0,U8 ((UInt64.ofNat l.length*8)>>>UInt64.ofNat (56-8*j)).toUInt8)]) E E hr ?_
   obtain⟨r10,w10,hr,o10,g10⟩:=c6 (ty:=22) (o8.ext x9) o9.bts (by simp only[List.length_append,List.length_cons,List.length_nil,List.length_replicate,List.length_take];omega) (x8.trans x9).size
   refine ba E E hr ?_
   refine ac E E (ag (aS (ab (aa (ae E E ?_)))))
   refine al E E E (bG (by omega) (by omega)) ?_
   refine ac E E (ag ?_)
   have e1:(7:Int)-(j:Int)-1=7-((j+1:Nat):Int):=by omega
   rw[e1]
   refine bT (j+1,r10) ⟨rfl,rfl,rfl,rfl,trivial⟩ ⟨?_,(x8.trans x9).of_grew g10 o8.ge,hj8⟩ (by show 8-(j+1)<8-j;omega)
   show df _ (l++[128]++List.replicate (it l.length) 0++(BH (UInt64.ofNat l.length*8)).take (j+1)) r10 w10
   rw[HW _ hj8,←List.append_assoc]
   exact o10
  ·have hj':j=8:=by omega
   subst hj'
   rw[List.take_of_length_le (by omega)] at o8
   exact bg (aJ (aJ (bh (ct m ⟨rfl,rfl,trivial⟩ ⟨o8,x8⟩))))
 clear o7 x7
 rintro m8 w8 ⟨o8,x8⟩
 have hM:=C8 l
 have hMl:(fc l).length≤1099511627776+80:=by
  simp only[fc,List.length_append,List.length_cons,List.length_nil,List.length_replicate];omega
 generalize hMM:fc l=M at o8 hM hMl
 refine ab (af (aa ?_))
 refine bC E E (run_build _ _ _ (iv.map bJ).toArray (by kernel_rfl)) ?_
 obtain⟨g6',w9,hr,n9,x9,b9⟩:=aX (P:=Tryz.prog) (w:=w8) (l:=(List.replicate 8 0).map bJ) EB rfl
 refine aV E hr ?_
 refine aq E E (jV b9 E o2 (kP _)) ?_
 have b9':=b9.row (iv.map bJ)
 have q9:=bP w9 g6' (iv.map bJ).toArray
 have l26:g2<g6':=Nat.lt_of_lt_of_le b2.lt (Nat.le_trans x8.size n9)
 have hw6:w1.heap.size≤g6':=Nat.le_trans x8.size n9
 have E9:aN w1 (w9.setRow g6' (iv.map bJ).toArray):=(x8.trans x9).of_new q9 hw6
 have ne2:some g2≠some g6':=fun h=>by cases h;omega
 have hm9:df w1.heap.size M m8 (w9.setRow g6' (iv.map bJ).toArray):=by
  obtain⟨n,h⟩:=o8.ext x9
  exact⟨n,World.ownsRow.kept h q9 (.inr fun he=>by have:=o8.lt g6' he;omega)⟩
 have C9:=((b2.ext x8).ext x9).other q9 ne2
 revert b9' E9 hm9 C9
 generalize w9.setRow g6' (iv.map bJ).toArray=w10
 intro b10 E10 o10 C10
 refine ag (ab ?_)
 have l28:∀k,m8.ownBlock=some k→k<w8.heap.size:=o8.lt
 refine af (eZ (fun _:Unit=>[(2,.pointer (some ⟨g2,0,none⟩)),(6,.pointer (some ⟨g6',0,none⟩))]) (fun _ w'=>w10.grownBy w' (some g6')∧cr g6' 150 ((yH M (M.length/64)).map bJ) w') ?_ ?_)
 ·refine af (aa (ac E E (ag (ab (aH ?_)))))
  refine cm (α:=Nat) (fun k=>[(2,.pointer (some ⟨g2,0,none⟩)),(3,m8),(6,.pointer (some ⟨g6',0,none⟩)),(7,I ((64*k:Nat):Int))])
   (fun k w'=>w10.grownBy w' (some g6')∧cr g6' 150 ((yH M k).map bJ) w'∧k≤M.length/64) (fun k=>M.length/64-k) 0 ⟨rfl,rfl,rfl,rfl,trivial⟩
   ⟨dH (aN.refl _),b10,by omega⟩ ?_
  rintro k w11 ⟨q11,b11,hk⟩
  have o11:df w1.heap.size M m8 w11:=by
   obtain⟨n,h⟩:=o10
   exact⟨n,World.ownsRow.kept h q11 (.inr fun he=>by have:=l28 g6' he;omega)⟩
  have hs8:=pI M k
  refine af (af (aa (ae E E (ae E E ?_))))
  refine aQ E E (cM o11.bts) ?_
  refine al E E E (bc) ?_
  refine ag (ab ?_)
  refine bw E (fun h=>?_) (fun h=>?_)
  ·have hlt:64*k+64≤M.length:=by omega
   have e64:((64*k:Nat):Int)+64=((64*k+64:Nat):Int):=by omega
   have hbl:((M.take (64*k+64)).drop (64*k)).length=64:=by simp;omega
   obtain⟨r12,hr12,bt12⟩:=um o11.bts (lo:=64*k) (hi:=64*k+64) (by omega) hlt .i64 .i64
   have hszk:(Tryz.prog.info? 150).map (·.size)=some ((yH M k).map bJ).length:=by rw[List.length_map,hs8];exact o2
   have hszk':(Tryz.prog.info? 150).map (·.size)=some ((yH M (k+1)).map bJ).length:=by rw[List.length_map,pI];exact o2
   refine aC (ab (af (aH ?_)))
   refine bO 7 [2,3,6,7,52] (by kernel_rfl) (by kernel_rfl) ?_
   refine aO E E (fun w' hw=>oA (m:=(yH M k).map bJ) (b11.ext hw) (fun j v h=>by rwa [Nat.zero_add]) Mz E hszk) ?_
   refine aD E E (aD E E (aD E E ?_))
   refine bb (r:=I ((64*k+64:Nat):Int)) E E E (fun w _=>by rw[←e64];exact aP (by omega) (by omega)) ?_
   refine jt (a:=some (I ((64*k:Nat):Int))) (b:=some (I ((64*k+64:Nat):Int))) E E E E (fun w _=>hr12 w) ?_
   refine ca (S:=Is (.agg ((yH M (k+1)).map bJ).toArray)) BQ (cd.is _) E (fun w' hw=>by
    rintro _ rfl _ rfl
    exact bE.mono (BR hs8 hbl (bt12.ext hw)) fun v w'' h=>⟨h.1,by rw[HX];exact h.2⟩) ?_
   refine cq ?_
   intro w12 hx12
   rintro _ rfl _ rfl _ rfl _ rfl _ rfl
   refine aq E E (jV (b11.ext hx12) (by simp[pI]) hszk' (kP _)) ?_
   have b12:=(b11.ext hx12).row ((yH M (k+1)).map bJ)
   have q12:=(q11.trans (dH hx12)).trans (bP w12 g6' ((yH M (k+1)).map bJ).toArray)
   refine ag (aS (ab (aa (ae E E ?_))))
   refine al E E E (aP (by omega) (by omega)) ?_
   refine ac E E (ag ?_)
   exact bT (k+1) ⟨rfl,rfl,rfl,rfl,trivial⟩ ⟨q12,b12,by omega⟩ (by omega)
  ·have hk':k=M.length/64:=by omega
   subst hk'
   exact bg (aJ (aJ (bh (ct () ⟨rfl,rfl,trivial⟩ ⟨q11,b11⟩))))
 rintro _ w11 ⟨q11,b11⟩
 have C2:=C10.other q11 ne2
 have E11:aN w1 w11:=E10.of_new q11 hw6
 have hs8:=pI M (M.length/64)
 generalize hst:yH M (M.length/64)=st at b11 hs8
 have hD:(st.flatMap xT).length=32:=by rw[BS,hs8]
 refine ab (af (aa ?_))
 obtain⟨g8,w12,hr,n12,x12,b12⟩:=aX (P:=Tryz.prog) (w:=w11) (l:=(fL (st.flatMap xT) 32 0).map U8) fW rfl
 refine aV E hr (ag (ab ?_))
 have l68:g6'<g8:=Nat.lt_of_lt_of_le b11.lt n12
 have ne68:some g6'≠some g8:=fun h=>by cases h;omega
 have ne28:some g2≠some g8:=fun h=>by cases h;omega
 have c11:=b11.ext x12
 have D2:=C2.ext x12
 refine af (eZ (fun _:Unit=>[(2,.pointer (some ⟨g2,0,none⟩)),(8,.pointer (some ⟨g8,0,none⟩))]) (fun _ w'=>w12.grownBy w' (some g8)∧cr g8 24 ((st.flatMap xT).map U8) w') ?_ ?_)
 ·refine af (aa (ac E E (ag (ab (aH ?_)))))
  refine cm (α:=Nat) (fun i=>[(2,.pointer (some ⟨g2,0,none⟩)),(6,.pointer (some ⟨g6',0,none⟩)),(8,.pointer (some ⟨g8,0,none⟩)),(9,I (i:Int))])
   (fun i w'=>w12.grownBy w' (some g8)∧cr g8 24 ((fL (st.flatMap xT) 32 (4*i)).map U8) w'∧i≤8) (fun i=>8-i) 0 ⟨rfl,rfl,rfl,rfl,trivial⟩
   ⟨dH (aN.refl _),b12,by omega⟩ ?_
  rintro i w13 ⟨q13,b13,hi⟩
  refine af (af (aa (ae E E ?_)))
  refine al E E E (bc) ?_
  refine ag (ab ?_)
  refine bw E (fun h=>?_) (fun h=>?_)
  ·have hi8:i<8:=by omega
   refine aC (ab (af (aH (af (aa (ac E E (ag (ab (aH ?_)))))))))
   refine cm (α:=Nat) (fun k=>[(2,.pointer (some ⟨g2,0,none⟩)),(6,.pointer (some ⟨g6',0,none⟩)),(8,.pointer (some ⟨g8,0,none⟩)),(9,I (i:Int)),(10,I (k:Int))])
    (fun k w'=>w12.grownBy w' (some g8)∧cr g8 24 ((fL (st.flatMap xT) 32 (4*i+k)).map U8) w'∧k≤4) (fun k=>4-k) 0 ⟨rfl,rfl,rfl,rfl,rfl,trivial⟩
    ⟨q13,b13,by omega⟩ ?_
   rintro k w14 ⟨q14,b14,hk⟩
   refine af (af (aa (ae E E ?_)))
   refine al E E E (bc) ?_
   refine ag (ab ?_)
   refine bw E (fun h=>?_) (fun h=>?_)
   ·have hk4:k<4:=by omega
    have c14:=c11.other q14 ne68
    have hfl:=kA (j:=4*i+k) hD (by omega)
    have e4:(4:Int)*(i:Int)=((4*i:Nat):Int):=by omega
    have e5:((4*i:Nat):Int)+(k:Int)=((4*i+k:Nat):Int):=by omega
    have e6:(24:Int)-8*(k:Int)=((24-8*k:Nat):Int):=by omega
    refine aC (ab (af (aH (aa (ae E E ?_)))))
    refine al (r:=I ((4*i:Nat):Int)) E E E (by rw[←e4];exact fB (by omega) (by omega)) ?_
    refine ae E E ?_
    refine al (r:=I ((4*i+k:Nat):Int)) E E E (by rw[←e5];exact aP (by omega) (by omega)) ?_
    refine ae E E ?_
    refine ax E E E (dZ i (by omega)) ?_
    refine ak E E (du c14 i (by omega)) ?_
    refine ae E E ?_
    refine al E E E (fB (by omega) (by omega)) ?_
    refine al (r:=I ((24-8*k:Nat):Int)) E E E (by rw[←e6];exact bG (by omega) (by omega)) ?_
    refine al E E E (cY (24-8*k) (by omega)) ?_
    refine aY E E (ej L7 Mf) ?_
    refine ax E E E (xl (4*i+k) (by omega)) ?_
    refine aq E E (yU b14 (4*i+k) (by omega)) ?_
    have b15:=b14.setB (4*i+k) (st.getD i 0>>>UInt32.ofNat (24-8*k)).toUInt8
    have hset:(fL (st.flatMap xT) 32 (4*i+k)).set (4*i+k) (st.getD i 0>>>UInt32.ofNat (24-8*k)).toUInt8=fL (st.flatMap xT) 32 (4*i+(k+1)):=by
     rw[←mW st i k (by omega) hk4]
     exact kB hD (by omega)
    rw[hset] at b15
    refine ag (aS (ab (aa (ae E E ?_))))
    refine al E E E (aP (by omega) (by omega)) ?_
    refine ac E E (ag ?_)
    exact bT (k+1) ⟨rfl,rfl,rfl,rfl,rfl,trivial⟩ ⟨q14.trans (bm w14 g8 _ _),b15,by omega⟩ (by omega)
   ·have hk':k=4:=by omega
    subst hk'
    refine bg (aJ (aJ (bh (aS (ab (aa (ae E E ?_)))))))
    refine al E E E (aP (by omega) (by omega)) ?_
    refine ac E E (ag ?_)
    exact bT (i+1) ⟨rfl,rfl,rfl,rfl,trivial⟩ ⟨q14,b14,by omega⟩ (by omega)
  ·have hi':i=8:=by omega
   subst hi'
   rw[show 4*8=32 from rfl,tY hD] at b13
   exact bg (aJ (aJ (bh (ct () ⟨rfl,rfl,trivial⟩ ⟨q13,b13⟩))))
 rintro _ w13 ⟨q13,b13⟩
 have hdig:st.flatMap xT=jx l:=by
  unfold jx sh
  rw[hMM,hst]
 rw[hdig] at b13
 have hsz:(Tryz.prog.info? 24).map (·.size)=some ((jx l).map U8).length:=by rw[List.length_map,dg];exact iZ
 have F2:=D2.other q13 ne28
 refine ab (af (aa ?_))
 refine ak E E (oA (m:=(jx l).map U8) b13 (fun j v h=>by rwa [Nat.zero_add]) Mm E hsz) ?_
 refine aq E E (jV F2 (by simp[dg]) hsz (sS _)) ?_
 refine ag (ab (au ?_))
 refine dv E E (F2.row _) Mm E hsz ?_
 have E13:aN w w13:=(x1.trans (E11.trans x12)).of_new q13 (by have:=x1.size;omega)
 exact⟨_,rfl,E13.of_new (bP _ _ _) n2,rfl⟩
end Go.Rl
namespace Go.Rl
open Go.RowKit Go.Proofs
def dq (st:List UInt32) (blk:List UInt8) (u:Int) (tot:UInt64):List Value:=st.map bJ++(blk.map U8++[I u,bI tot])
structure HC (g:Nat) (st:List UInt32) (blk:List UInt8) (u:Int) (tot:UInt64) (w:World):Prop where
 hb:cr g 154 (dq st blk u tot) w
 ls:st.length=8
 lb:blk.length=64
section
variable {w w':World} {g:Nat} {st:List UInt32} {blk:List UInt8} {u:Int} {tot:UInt64}
theorem iw (hs:st.length=8) (hb:blk.length=64):(dq st blk u tot).length=74:=by simp[dq,hs,hb]
theorem HC.ext (h:HC g st blk u tot w) (hx:aN w w'):HC g st blk u tot w':=⟨h.hb.ext hx,h.ls,h.lb⟩
theorem HC.other {row:Option Nat} (h:HC g st blk u tot w) (hg:w.grownBy w' row) (hne:some g≠row):HC g st blk u tot w':=⟨h.hb.other hg hne,h.ls,h.lb⟩
theorem HC.lt (h:HC g st blk u tot w):g<w.heap.size:=h.hb.lt
theorem HC.cellS (h:HC g st blk u tot w) {i:Nat} (hi:i<8):w.cell? ⟨g,i,none⟩=some (bJ (st.getD i 0)):=
 h.hb.cell (by simp[dq,List.getElem?_append,h.ls,hi])
theorem HC.cellU (h:HC g st blk u tot w):w.cell? ⟨g,72,none⟩=some (I u):=
 h.hb.cell (by unfold dq;rw[List.getElem?_append_right (by simp[h.ls]),List.length_map,h.ls,List.getElem?_append_right (by simp[h.lb]),List.length_map,h.lb];rfl)
theorem HC.cellT (h:HC g st blk u tot w):w.cell? ⟨g,73,none⟩=some (bI tot):=
 h.hb.cell (by unfold dq;rw[List.getElem?_append_right (by simp[h.ls]),List.length_map,h.ls,List.getElem?_append_right (by simp[h.lb]),List.length_map,h.lb];rfl)
theorem HC.setS (h:HC g st blk u tot w) (i:Nat) (hi:i<8) (x:UInt32):HC g (st.set i x) blk u tot (w.setCell ⟨g,i,none⟩ (bJ x)):=by
 refine⟨?_,by simp[h.ls],h.lb⟩
 have:=h.hb.set i (bJ x)
 unfold dq at this
 rw[List.set_append_left _ _ (by simpa [h.ls] using hi),←List.map_set] at this
 exact this
theorem HC.setU (h:HC g st blk u tot w) (x:Int):HC g st blk x tot (w.setCell ⟨g,72,none⟩ (I x)):=by
 refine⟨?_,h.ls,h.lb⟩
 have:=h.hb.set 72 (I x)
 unfold dq at this
 rw[List.set_append_right _ _ (by simp[h.ls]),List.length_map,h.ls,List.set_append_right _ _ (by simp[h.lb]),List.length_map,h.lb] at this
 exact this
theorem HC.setT (h:HC g st blk u tot w) (x:UInt64):HC g st blk u x (w.setCell ⟨g,73,none⟩ (bI x)):=by
 refine⟨?_,h.ls,h.lb⟩
 have:=h.hb.set 73 (bI x)
 unfold dq at this
 rw[List.set_append_right _ _ (by simp[h.ls]),List.length_map,h.ls,List.set_append_right _ _ (by simp[h.lb]),List.length_map,h.lb] at this
 exact this
theorem BT:(Tryz.prog.info? 107).map (·.size)=some 1:=by kernel_rfl
theorem HY:(Tryz.prog.info? 152).map (·.size)=some 64:=by kernel_rfl
theorem yV:(Tryz.prog.info? 154).map (·.size)=some 74:=by kernel_rfl
theorem F3:(Tryz.prog.info? 154).map (·.zero)=some (some (.agg (dq (List.replicate 8 0) (List.replicate 64 0) 0 0).toArray)):=by kernel_rfl
theorem Jc:(Instr.fieldAt 154 (.pointer (some ⟨g,0,none⟩)) 0).run Tryz.prog w=.ok (.pointer (some ⟨g,0,none⟩)) w:=by
 have h:=cy (P:=Tryz.prog) (w:=w) (n:=0) (a:=⟨g,0,none⟩) MC rfl o2 (Nat.succ_ne_zero 7)
 exact h
theorem LP:(Instr.fieldAt 154 (.pointer (some ⟨g,0,none⟩)) 1).run Tryz.prog w=.ok (.pointer (some ⟨g,8,none⟩)) w:=by
 have h:=cy (P:=Tryz.prog) (w:=w) (n:=1) (a:=⟨g,0,none⟩) MC rfl HY (Nat.succ_ne_zero 63)
 exact h
theorem F5:(Instr.fieldAt 154 (.pointer (some ⟨g,0,none⟩)) 2).run Tryz.prog w=.ok (.pointer (some ⟨g,72,none⟩)) w:=by
 have h:=cy (P:=Tryz.prog) (w:=w) (n:=2) (a:=⟨g,0,none⟩) MC rfl gu (Nat.succ_ne_zero 0)
 exact h
theorem KP:(Instr.fieldAt 154 (.pointer (some ⟨g,0,none⟩)) 3).run Tryz.prog w=.ok (.pointer (some ⟨g,73,none⟩)) w:=by
 have h:=cy (P:=Tryz.prog) (w:=w) (n:=3) (a:=⟨g,0,none⟩) MC rfl BT (Nat.succ_ne_zero 0)
 exact h
theorem HC.bts (h:HC g st blk u tot w) {lo:Nat} (hlo:lo<64):cn (blk.drop lo) (.slice (some ⟨g,8+lo,none⟩) (64-lo) (64-lo)) w:=by
 refine⟨_,_,_,rfl,Nat.le_refl _,by unfold maxLen;omega,by simp[h.lb],fun _=>⟨_,rfl,fun j v hj=>?_⟩,fun h=>by cases h⟩
 rw[Addr.add_mid]
 refine h.hb.cell ?_
 unfold dq
 rw[List.getElem?_append_right (by simp[h.ls];omega),List.length_map,h.ls,show 8+lo+j-8=lo+j by omega]
 have hjl:lo+j<(blk.map U8).length:=by
  have:=(List.getElem?_eq_some_iff.1 hj).1
  simp only[List.length_map,List.length_drop] at this⊢
  omega
 rw[List.getElem?_append_left hjl]
 rw[List.map_drop,List.getElem?_drop] at hj
 exact hj
theorem J9 {lo:Nat} (hlo:lo<64):(Instr.sliceAt 152 (.pointer (some ⟨g,8,none⟩)) (some (I (lo:Int))) none none).run Tryz.prog w=.ok (.slice (some ⟨g,8+lo,none⟩) (64-lo) (64-lo)) w:=
 GI Tryz.underlying152 fC hlo .i64
theorem HC.ldS (h:HC g st blk u tot w):(Instr.loadAt 150 (.pointer (some ⟨g,0,none⟩))).run Tryz.prog w=.ok (.agg (st.map bJ).toArray) w:=
 oA (m:=st.map bJ) h.hb (fun j v hj=>by
  rw[Nat.zero_add]
  unfold dq
  rw[List.getElem?_append_left (List.getElem?_eq_some_iff.1 hj).1]
  exact hj) Mz rfl (by rw[List.length_map,h.ls];exact o2)
end
theorem F6 (b:List UInt8) (i j:Nat):(b.drop i).getD j 0=b.getD (i+j) 0:=by simp[List.getD]
end Go.Rl
namespace Go.Rl
open Go.RowKit Go.Proofs
theorem Ay:aG Tryz.prog 87:=⟨_,Tryz.func87,by kernel_rfl,rfl⟩
theorem F7 (b:List UInt8) (k:Nat):sH b k=((((b.drop (4*k)).getD 0 0).toUInt32<<<UInt32.ofNat 24|||((b.drop (4*k)).getD 1 0).toUInt32<<<UInt32.ofNat 16)|||((b.drop (4*k)).getD 2 0).toUInt32<<<UInt32.ofNat 8)|||((b.drop (4*k)).getD 3 0).toUInt32:=by
 simp only[F6,sH,Nat.add_zero]
theorem xm {m:List UInt32} {i:Nat} (h:i<m.length):(m.map bJ)[i]? =some (bJ (m.getD i 0)):=by simp[h]
theorem Az {w:World} {g:Nat} {s:List UInt32} {b:List UInt8} {u:Int} {tot:UInt64} (hc:HC g s b u tot w):
 Calls Tryz.prog 87 #[.pointer (some ⟨g,0,none⟩)] w (bE fun _ w'=>w.grownBy w' (some g)∧HC g (xV s b) b 0 tot w'):=by
 have hs:=hc.ls
 have hbl:=hc.lb
 refine enter (vs:=[.pointer (some ⟨g,0,none⟩)]) Tryz.func87 E E E ?_
 obtain⟨g2,w1,hr,n2,x1,b2⟩:=aX (P:=Tryz.prog) (w:=w) (l:=(dC []).map bJ) xf rfl
 refine af (aa (aV E hr (ag (ab ?_))))
 have lg:=hc.lt
 have hc1:=hc.ext x1
 have neg:some g≠some g2:=fun h=>by cases h;omega
 refine af (eZ (fun _:Unit=>[(0,.pointer (some ⟨g,0,none⟩)),(2,.pointer (some ⟨g2,0,none⟩))]) (fun _ w'=>w1.grownBy w' (some g2)∧cr g2 200 ((dC (bN b 0)).map bJ) w') ?_ ?_)
 ·refine af (aa (ae E E (ag (ab (aH ?_)))))
  refine cm (α:=Nat) (fun k=>[(0,.pointer (some ⟨g,0,none⟩)),(2,.pointer (some ⟨g2,0,none⟩)),(17,I (k:Int))])
   (fun k w'=>w1.grownBy w' (some g2)∧cr g2 200 ((dC (jE b k)).map bJ) w'∧k≤16) (fun k=>16-k) 0 ⟨rfl,rfl,rfl,trivial⟩
   ⟨dH (aN.refl _),b2,by omega⟩ ?_
  rintro k w7 ⟨q7,b7,hk⟩
  refine af (aa ?_)
  refine al E E E (bc) ?_
  refine ag (ab (af ?_))
  refine bw E (fun h=>?_) (fun h=>?_)
  ·have hk16:k<16:=by omega
   have e0:(4:Int)*(k:Int)=((4*k:Nat):Int):=by omega
   refine aC (ab (af (aH (af (aa (ae E E (ac E E (ag (ab (af (aa (ae E E ?_))))))))))))
   refine ay E E ?_
   refine ah E E LP ?_
   refine ae E E ?_
   refine al (r:=I ((4*k:Nat):Int)) E E E (by rw[←e0];exact fB (by omega) (by omega)) ?_
   refine cJ (a:=some (I ((4*k:Nat):Int))) E E E E E (J9 (by omega)) ?_
   refine ac E E (ag (ab ?_))
   have hbt:=(hc1.other q7 neg).bts (lo:=4*k) (by omega)
   obtain⟨ad,had⟩:=hbt.reads
   rw[List.length_drop,hbl] at had
   refine bO 24 [0,2,17,48,49] (by kernel_rfl) (by kernel_rfl) ?_
   refine aD E E (aD E E ?_)
   refine aF E E E (fun w _=>(had 0 (by omega)).1 w) ?_
   refine aO E E (fun w' hw=>(had 0 (by omega)).2 w' hw) ?_
   refine dy E E (fun w _=>eA Mf L7) ?_
   refine bb E E E (fun w _=>fk 24 (by omega)) ?_
   refine aD E E ?_
   refine aF E E E (fun w _=>(had 1 (by omega)).1 w) ?_
   refine aO E E (fun w' hw=>(had 1 (by omega)).2 w' hw) ?_
   refine dy E E (fun w _=>eA Mf L7) ?_
   refine bb E E E (fun w _=>fk 16 (by omega)) ?_
   refine bb E E E (fun w _=>fE) ?_
   refine aD E E ?_
   refine aF E E E (fun w _=>(had 2 (by omega)).1 w) ?_
   refine aO E E (fun w' hw=>(had 2 (by omega)).2 w' hw) ?_
   refine dy E E (fun w _=>eA Mf L7) ?_
   refine bb E E E (fun w _=>fk 8 (by omega)) ?_
   refine bb E E E (fun w _=>fE) ?_
   refine aD E E ?_
   refine aF E E E (fun w _=>(had 3 (by omega)).1 w) ?_
   refine aO E E (fun w' hw=>(had 3 (by omega)).2 w' hw) ?_
   refine dy E E (fun w _=>eA Mf L7) ?_
   refine bb E E E (fun w _=>fE) ?_
   refine aF E E E (fun w _=>iu k (by omega)) ?_
   refine cq ?_
   intro w8 hx8
   rintro _ rfl _ rfl _ rfl _ rfl _ rfl
   have hlen:(dC (jE b k)).length=64:=nH (by rw[kx];omega)
   rw[←F7]
   refine aq E E (BP (x:=sH b k) (b7.ext hx8) k (by omega)) ?_
   have b8:=(b7.ext hx8).setU k (sH b k)
   have q8:=(q7.trans (dH hx8)).trans (bm w8 g2 k (bJ (sH b k)))
   have hset:(dC (jE b k)).set k (sH b k)=dC (jE b (k+1)):=by
    have:=nI (l:=jE b k) (sH b k) (by rw[kx];omega)
    rw[kx] at this
    rw[this,xk]
   rw[hset] at b8
   refine ag (aS (ab (aa ?_)))
   refine al E E E (aP (by omega) (by omega)) ?_
   refine ae E E (ag ?_)
   exact bT (k+1) ⟨rfl,rfl,rfl,trivial⟩ ⟨q8,b8,by omega⟩ (by omega)
  ·have hk':k=16:=by omega
   subst hk'
   exact bg (aJ (aJ (bh (ct () ⟨rfl,rfl,trivial⟩ ⟨q7,b7⟩))))
 rintro _ w7 ⟨q7,b7⟩
 refine ab ?_
 refine af (eZ (fun _:Unit=>[(0,.pointer (some ⟨g,0,none⟩)),(2,.pointer (some ⟨g2,0,none⟩))]) (fun _ w'=>w1.grownBy w' (some g2)∧cr g2 200 ((bN b 48).map bJ) w') ?_ ?_)
 ·refine af (aa (ac E E (ag (ab (aH ?_)))))
  refine cm (α:=Nat) (fun k=>[(0,.pointer (some ⟨g,0,none⟩)),(2,.pointer (some ⟨g2,0,none⟩)),(5,I ((16+k:Nat):Int))])
   (fun k w'=>w1.grownBy w' (some g2)∧cr g2 200 ((dC (bN b k)).map bJ) w'∧k≤48) (fun k=>48-k) 0 ⟨rfl,rfl,rfl,trivial⟩
   ⟨q7,b7,by omega⟩ ?_
  clear q7 b7
  rintro k w7 ⟨q7,b7,hk⟩
  have hL:=mH b k
  refine af (af (aa (ae E E ?_)))
  refine al E E E (bc) ?_
  refine ag (ab ?_)
  refine bw E (fun h=>?_) (fun h=>?_)
  ·have hk48:k<48:=by omega
   refine aC (ab (af (aH (af ?_))))
   have e15:((16+k:Nat):Int)-15=(((bN b k).length-15:Nat):Int):=by omega
   have f15:=gA (l:=bN b k) (i:=(bN b k).length-15) (by omega)
   have e2:((16+k:Nat):Int)-2=(((bN b k).length-2:Nat):Int):=by omega
   have f2:=gA (l:=bN b k) (i:=(bN b k).length-2) (by omega)
   have e16:((16+k:Nat):Int)-16=(((bN b k).length-16:Nat):Int):=by omega
   have f16:=gA (l:=bN b k) (i:=(bN b k).length-16) (by omega)
   have e7:((16+k:Nat):Int)-7=(((bN b k).length-7:Nat):Int):=by omega
   have f7:=gA (l:=bN b k) (i:=(bN b k).length-7) (by omega)
   have hlen:(dC (bN b k)).length=64:=nH (by omega)
   refine bO 9 [0,2,5,6,62] (by kernel_rfl) (by kernel_rfl) ?_
   refine aD E E ?_
   refine bb (r:=I (((bN b k).length-15:Nat):Int)) E E E (fun w _=>by rw[←e15];exact bG (by omega) (by omega)) ?_
   refine aF E E E (fun w _=>iu _ (by omega)) ?_
   refine aO (r:=bJ ((bN b k).getD ((bN b k).length-15) 0)) E E (fun w' hw=>by rw[←f15];exact du (b7.ext hw) _ (by omega)) ?_
   refine aD E E ?_
   refine bb (r:=I (((bN b k).length-2:Nat):Int)) E E E (fun w _=>by rw[←e2];exact bG (by omega) (by omega)) ?_
   refine aF E E E (fun w _=>iu _ (by omega)) ?_
   refine aO (r:=bJ ((bN b k).getD ((bN b k).length-2) 0)) E E (fun w' hw=>by rw[←f2];exact du (b7.ext hw) _ (by omega)) ?_
   refine fY E E (cq ?_)
   intro w8 hx8
   rintro _ rfl _ rfl _ rfl _ rfl _ rfl
   refine ac E E (ag (ab ?_))
   have b12:=b7.ext hx8
   refine bO 29 [0,2,5,90,91] (by kernel_rfl) (by kernel_rfl) ?_
   refine aD E E (aD E E ?_)
   refine bb (r:=I (((bN b k).length-16:Nat):Int)) E E E (fun w _=>by rw[←e16];exact bG (by omega) (by omega)) ?_
   refine aF E E E (fun w _=>iu _ (by omega)) ?_
   refine aO (r:=bJ ((bN b k).getD ((bN b k).length-16) 0)) E E (fun w' hw=>by rw[←f16];exact du (b12.ext hw) _ (by omega)) ?_
   refine aD E E ?_
   refine ca (S:=Is (bJ (i7 _ 7))) fx (cd.is _) E (fun w' _=>by
    rintro _ rfl _ rfl
    exact bE.mono (fy 7 (by omega) (by omega)) fun v w'' h=>⟨h.1,h.2⟩) ?_
   refine aD E E ?_
   refine ca (S:=Is (bJ (i7 _ 18))) fx (cd.is _) E (fun w' _=>by
    rintro _ rfl _ rfl
    exact bE.mono (fy 18 (by omega) (by omega)) fun v w'' h=>⟨h.1,h.2⟩) ?_
   refine bb E E E (fun w _=>cT) ?_
   refine aD E E ?_
   refine bb E E E (fun w _=>cY 3 (by omega)) ?_
   refine bb E E E (fun w _=>cT) ?_
   refine bb E E E (fun w _=>cx) ?_
   refine aD E E ?_
   refine bb (r:=I (((bN b k).length-7:Nat):Int)) E E E (fun w _=>by rw[←e7];exact bG (by omega) (by omega)) ?_
   refine aF E E E (fun w _=>iu _ (by omega)) ?_
   refine aO (r:=bJ ((bN b k).getD ((bN b k).length-7) 0)) E E (fun w' hw=>by rw[←f7];exact du (b12.ext hw) _ (by omega)) ?_
   refine bb E E E (fun w _=>cx) ?_
   refine aD E E ?_
   refine ca (S:=Is (bJ (i7 _ 17))) fx (cd.is _) E (fun w' _=>by
    rintro _ rfl _ rfl
    exact bE.mono (fy 17 (by omega) (by omega)) fun v w'' h=>⟨h.1,h.2⟩) ?_
   refine aD E E ?_
   refine ca (S:=Is (bJ (i7 _ 19))) fx (cd.is _) E (fun w' _=>by
    rintro _ rfl _ rfl
    exact bE.mono (fy 19 (by omega) (by omega)) fun v w'' h=>⟨h.1,h.2⟩) ?_
   refine bb E E E (fun w _=>cT) ?_
   refine aD E E ?_
   refine bb E E E (fun w _=>cY 10 (by omega)) ?_
   refine bb E E E (fun w _=>cT) ?_
   refine bb E E E (fun w _=>cx) ?_
   refine aF E E E (fun w _=>iu (16+k) (by omega)) ?_
   refine cq ?_
   intro w13 hx13
   rintro _ rfl _ rfl _ rfl _ rfl _ rfl
   refine aq E E (BP (x:=oW (bN b k)) (b12.ext hx13) (16+k) (by omega)) ?_
   have b13:=(b12.ext hx13).setU (16+k) (oW (bN b k))
   have q13:=((q7.trans (dH hx8)).trans (dH hx13)).trans (bm w13 g2 (16+k) (bJ (oW (bN b k))))
   have hset:(dC (bN b k)).set (16+k) (oW (bN b k))=dC (bN b (k+1)):=by
    have:=nI (l:=bN b k) (oW (bN b k)) (by omega)
    rw[hL] at this
    exact this
   rw[hset] at b13
   refine ag (aS (ab (aa (ae E E ?_))))
   refine al E E E (aP (by omega) (by omega)) ?_
   refine ac E E (ag ?_)
   exact bT (k+1) ⟨rfl,rfl,rfl,trivial⟩ ⟨q13,b13,by omega⟩ (by omega)
  ·have hk':k=48:=by omega
   subst hk'
   have hf:dC (bN b 48)=bN b 48:=by
    unfold dC
    rw[hL]
    exact List.append_nil _
   rw[hf] at b7
   exact bg (aJ (aJ (bh (ct () ⟨rfl,rfl,trivial⟩ ⟨q7,b7⟩))))
 clear q7 b7
 rintro _ w7 ⟨q7,b7⟩
 have hc7:=hc1.other q7 neg
 refine ab (af (aa (ae E E ?_)))
 refine ay E E ?_
 refine ah E E Jc ?_
 refine ak E E hc7.ldS ?_
 have hlen8:(Tryz.prog.info? 150).map (·.size)=some (s.map bJ).length:=by rw[List.length_map,hs];exact o2
 obtain⟨g8,w8,hr,n8,x8,b8⟩:=aX (P:=Tryz.prog) (w:=w7) (l:=(List.replicate 8 0).map bJ) EB rfl
 refine aV E hr ?_
 refine aq E E (jV b8 (by simp[hs]) hlen8 (kP _)) ?_
 have b8':=b8.row (s.map bJ)
 have q8:=bP w8 g8 (s.map bJ).toArray
 have l28:g2<g8:=Nat.lt_of_lt_of_le b7.lt n8
 have lg7:=hc7.lt
 have ne28:some g2≠some g8:=fun h=>by cases h;omega
 have neg8:some g≠some g8:=fun h=>by cases h;omega
 have D2:=(b7.ext x8).other q8 ne28
 have hc8:=(hc7.ext x8).other q8 neg8
 have Q8:w.grownBy (w8.setRow g8 (s.map bJ).toArray) (some g):=by
  have h1:aN w w7:=x1.of_new q7 n2
  exact dH ((h1.trans x8).of_new q8 (by have:=h1.size;omega))
 revert b8' D2 hc8 Q8
 generalize w8.setRow g8 (s.map bJ).toArray=w9
 intro b9 D2 hc9 Q9
 refine ag (ab ?_)
 refine af (eZ (fun _:Unit=>[(0,.pointer (some ⟨g,0,none⟩)),(8,.pointer (some ⟨g8,0,none⟩))]) (fun _ w'=>w9.grownBy w' (some g8)∧cr g8 150 ((ek b s 64).map bJ) w') ?_ ?_)
 ·refine af (aa ?_)
  refine an (vs:=[]) xi E E (xj w9) ?_
  rintro _ w10 ⟨x10,rfl⟩
  refine ae E E (ag (ab (aH ?_)))
  refine cm (α:=Nat) (fun i=>[(0,.pointer (some ⟨g,0,none⟩)),(2,.pointer (some ⟨g2,0,none⟩)),(8,.pointer (some ⟨g8,0,none⟩)),(96,.agg (kc.map bJ).toArray),(97,I (i:Int))])
   (fun i w'=>w9.grownBy w' (some g8)∧cr g8 150 ((ek b s i).map bJ) w'∧i≤64) (fun i=>64-i) 0 ⟨rfl,rfl,rfl,rfl,rfl,trivial⟩
   ⟨dH x10,b9.ext x10,by omega⟩ ?_
  clear x10 w10
  rintro i w10 ⟨q10,b10,hi⟩
  have hv8:=ir b s hs i
  refine af (aa ?_)
  refine al E E E (bc) ?_
  refine ag (ab (af ?_))
  refine bw E (fun h=>?_) (fun h=>?_)
  ·have hi64:i<64:=by omega
   have hkc:kc.length=64:=rfl
   have hsl:(bN b 48).length=64:=mH b 48
   refine aC (ab (af (aH (af (aa (ae E E ?_))))))
   refine nh E E E (GH (l:=kc.map bJ) MD eB L7 hi64 .i64 (xm (by omega))) ?_
   refine ac E E (ac E E (ag (ab (af ?_))))
   have V:=b10
   have K6:=D2.other q10 ne28
   refine bO 5 [0,2,8,9,10,11,96,97,104] (by kernel_rfl) (by kernel_rfl) ?_
   refine aF E E E (fun w _=>dZ 0 (by omega)) ?_
   refine aO E E (fun w' hw=>du (V.ext hw) 0 (by omega)) ?_
   refine aF E E E (fun w _=>dZ 4 (by omega)) ?_
   refine aO E E (fun w' hw=>du (V.ext hw) 4 (by omega)) ?_
   refine fY E E (cq ?_)
   intro w11 hx11
   rintro _ rfl _ rfl _ rfl _ rfl _ rfl _ rfl _ rfl _ rfl _ rfl
   refine ac E E (ag (ab (af ?_)))
   replace V:=V.ext hx11
   replace K6:=K6.ext hx11
   refine bO 28 [0,2,8,11,96,97,132] (by kernel_rfl) (by kernel_rfl) ?_
   refine aF E E E (fun w _=>dZ 7 (by omega)) ?_
   refine aO E E (fun w' hw=>du (V.ext hw) 7 (by omega)) ?_
   refine aD E E ?_
   refine ca (S:=Is (bJ (i7 _ 6))) fx (cd.is _) E (fun w' _=>by
    rintro _ rfl _ rfl
    exact bE.mono (fy 6 (by omega) (by omega)) fun v w'' h=>⟨h.1,h.2⟩) ?_
   refine aD E E ?_
   refine ca (S:=Is (bJ (i7 _ 11))) fx (cd.is _) E (fun w' _=>by
    rintro _ rfl _ rfl
    exact bE.mono (fy 11 (by omega) (by omega)) fun v w'' h=>⟨h.1,h.2⟩) ?_
   refine bb E E E (fun w _=>cT) ?_
   refine aD E E ?_
   refine ca (S:=Is (bJ (i7 _ 25))) fx (cd.is _) E (fun w' _=>by
    rintro _ rfl _ rfl
    exact bE.mono (fy 25 (by omega) (by omega)) fun v w'' h=>⟨h.1,h.2⟩) ?_
   refine bb E E E (fun w _=>cT) ?_
   refine bb E E E (fun w _=>cx) ?_
   refine aD E E ?_
   refine aF E E E (fun w _=>dZ 5 (by omega)) ?_
   refine aO E E (fun w' hw=>du (V.ext hw) 5 (by omega)) ?_
   refine bb E E E (fun w _=>fD) ?_
   refine aD E E ?_
   refine vw E E (fun w _=>ui) ?_
   refine aF E E E (fun w _=>dZ 6 (by omega)) ?_
   refine aO E E (fun w' hw=>du (V.ext hw) 6 (by omega)) ?_
   refine bb E E E (fun w _=>fD) ?_
   refine bb E E E (fun w _=>cT) ?_
   refine bb E E E (fun w _=>cx) ?_
   refine aD E E ?_
   refine bb E E E (fun w _=>cx) ?_
   refine aD E E ?_
   refine aF E E E (fun w _=>iu i (by omega)) ?_
   refine aO E E (fun w' hw=>du (K6.ext hw) i (by omega)) ?_
   refine bb E E E (fun w _=>cx) ?_
   refine cq ?_
   intro w12 hx12
   rintro _ rfl _ rfl _ rfl _ rfl _ rfl _ rfl _ rfl
   refine ac E E (ag (ab (af ?_)))
   replace V:=V.ext hx12
   refine bO 24 [0,2,8,13,96,97,156] (by kernel_rfl) (by kernel_rfl) ?_
   refine aD E E ?_
   refine ca (S:=Is (bJ (i7 _ 2))) fx (cd.is _) E (fun w' _=>by
    rintro _ rfl _ rfl
    exact bE.mono (fy 2 (by omega) (by omega)) fun v w'' h=>⟨h.1,h.2⟩) ?_
   refine aD E E ?_
   refine ca (S:=Is (bJ (i7 _ 13))) fx (cd.is _) E (fun w' _=>by
    rintro _ rfl _ rfl
    exact bE.mono (fy 13 (by omega) (by omega)) fun v w'' h=>⟨h.1,h.2⟩) ?_
   refine bb E E E (fun w _=>cT) ?_
   refine aD E E ?_
   refine ca (S:=Is (bJ (i7 _ 22))) fx (cd.is _) E (fun w' _=>by
    rintro _ rfl _ rfl
    exact bE.mono (fy 22 (by omega) (by omega)) fun v w'' h=>⟨h.1,h.2⟩) ?_
   refine bb E E E (fun w _=>cT) ?_
   refine aD E E ?_
   refine aF E E E (fun w _=>dZ 1 (by omega)) ?_
   refine aO E E (fun w' hw=>du (V.ext hw) 1 (by omega)) ?_
   refine bb E E E (fun w _=>fD) ?_
   refine aD E E ?_
   refine aF E E E (fun w _=>dZ 2 (by omega)) ?_
   refine aO E E (fun w' hw=>du (V.ext hw) 2 (by omega)) ?_
   refine bb E E E (fun w _=>fD) ?_
   refine bb E E E (fun w _=>cT) ?_
   refine aF E E E (fun w _=>dZ 1 (by omega)) ?_
   refine aO E E (fun w' hw=>du (V.ext hw) 1 (by omega)) ?_
   refine aF E E E (fun w _=>dZ 2 (by omega)) ?_
   refine aO E E (fun w' hw=>du (V.ext hw) 2 (by omega)) ?_
   refine bb E E E (fun w _=>fD) ?_
   refine bb E E E (fun w _=>cT) ?_
   refine bb E E E (fun w _=>cx) ?_
   refine cq ?_
   intro w13 hx13
   rintro _ rfl _ rfl _ rfl _ rfl _ rfl _ rfl _ rfl
   refine ac E E (ag (ab (aa (ae E E (ae E E ?_)))))
   replace V:=V.ext hx13
   refine al E E E (cx) ?_
   refine ax E E E (dZ 0 (by omega)) ?_
   refine ak E E (du V 0 (by omega)) ?_
   refine ax E E E (dZ 1 (by omega)) ?_
   refine ak E E (du V 1 (by omega)) ?_
   refine ax E E E (dZ 2 (by omega)) ?_
   refine ak E E (du V 2 (by omega)) ?_
   refine ax E E E (dZ 3 (by omega)) ?_
   refine ak E E (du V 3 (by omega)) ?_
   refine ae E E ?_
   refine al E E E (cx) ?_
   refine ax E E E (dZ 4 (by omega)) ?_
   refine ak E E (du V 4 (by omega)) ?_
   refine ax E E E (dZ 5 (by omega)) ?_
   refine ak E E (du V 5 (by omega)) ?_
   refine ax E E E (dZ 6 (by omega)) ?_
   refine ak E E (du V 6 (by omega)) ?_
   refine bC E E (run_build _ _ _ ((ek b s (i+1)).map bJ).toArray (by kernel_rfl)) ?_
   have hn8:=ir b s hs (i+1)
   refine aq E E (jV V (by simp[hv8,hn8]) (by rw[List.length_map,hn8];exact o2) (kP _)) ?_
   have V':=V.row ((ek b s (i+1)).map bJ)
   have q14:=(q10.trans (dH ((hx11.trans hx12).trans hx13))).trans (bP w13 g8 ((ek b s (i+1)).map bJ).toArray)
   refine ag (aS (ab (aa ?_)))
   refine al E E E (aP (by omega) (by omega)) ?_
   refine ae E E (ag ?_)
   exact bT (i+1) ⟨rfl,rfl,rfl,rfl,rfl,trivial⟩ ⟨q14,V',by omega⟩ (by omega)
  ·have hi':i=64:=by omega
   subst hi'
   exact bg (aJ (aJ (bh (ct () ⟨rfl,rfl,trivial⟩ ⟨q10,b10⟩))))
 rintro _ w10 ⟨q10,b10⟩
 refine ab ?_
 have hv8:=ir b s hs 64
 have hc10:=hc9.other q10 neg8
 have ha0:jH s (ek b s 64) 0=s:=by simp[jH]
 refine af (eZ (fun _:Unit=>[(0,.pointer (some ⟨g,0,none⟩))]) (fun _ w'=>w10.grownBy w' (some g)∧HC g (jH s (ek b s 64) 8) b u tot w') ?_ ?_)
 ·refine af (aa ?_)
  refine ak E E (oA (m:=(ek b s 64).map bJ) b10 (fun j v h=>by rwa [Nat.zero_add]) Mz E (by rw[List.length_map,hv8];exact o2)) ?_
  refine ae E E (ag (ab (aH ?_)))
  refine cm (α:=Nat) (fun i=>[(0,.pointer (some ⟨g,0,none⟩)),(178,.agg ((ek b s 64).map bJ).toArray),(179,I (i:Int))])
   (fun i w'=>w10.grownBy w' (some g)∧HC g (jH s (ek b s 64) i) b u tot w'∧i≤8) (fun i=>8-i) 0 ⟨rfl,rfl,rfl,trivial⟩
   ⟨dH (aN.refl _),by rw[ha0];exact hc10,by omega⟩ ?_
  rintro i w11 ⟨q11,c11,hi⟩
  refine af (aa ?_)
  refine al E E E (bc) ?_
  refine ag (ab (af ?_))
  refine bw E (fun h=>?_) (fun h=>?_)
  ·have hi8:i<8:=by omega
   have hag:=yR hs hv8 hi8
   refine aC (ab (af (aH (af (aa (ae E E ?_))))))
   refine nh E E E (GH (l:=(ek b s 64).map bJ) Mz eB L7 hi8 .i64 (xm (by omega))) ?_
   refine ac E E (ac E E (ag (ab ?_)))
   refine bO 11 [0,178,179,190,193] (by kernel_rfl) (by kernel_rfl) ?_
   refine aD E E (aD E E ?_)
   refine dh E E ?_
   refine aW E E (fun w _=>Jc) ?_
   refine aF E E E (fun w _=>dZ i (by omega)) ?_
   refine aO (r:=bJ (s.getD i 0)) E E (fun w' hw=>by rw[←hag];exact aj L7 E ((c11.ext hw).cellS hi8)) ?_
   refine aD E E ?_
   refine bb E E E (fun w _=>cx) ?_
   refine dh E E ?_
   refine aW E E (fun w _=>Jc) ?_
   refine aF E E E (fun w _=>dZ i (by omega)) ?_
   refine cq ?_
   intro w12 hx12
   rintro _ rfl _ rfl _ rfl _ rfl _ rfl
   have hcl:=iw (u:=u) (tot:=tot) c11.ls c11.lb
   refine aq E E (ei eB E (c11.ext hx12).hb (by rw[List.size_toArray,hcl];omega)) ?_
   have c12:=(c11.ext hx12).setS i hi8 (s.getD i 0+(ek b s 64).getD i 0)
   rw[yS hs hv8 hi8] at c12
   have q12:=(q11.trans (dH hx12)).trans (bm w12 g i (bJ (s.getD i 0+(ek b s 64).getD i 0)))
   refine ag (aS (ab (aa ?_)))
   refine al E E E (aP (by omega) (by omega)) ?_
   refine ae E E (ag ?_)
   exact bT (i+1) ⟨rfl,rfl,rfl,trivial⟩ ⟨q12,c12,by omega⟩ (by omega)
  ·have hi':i=8:=by omega
   subst hi'
   exact bg (aJ (aJ (bh (ct () ⟨rfl,trivial⟩ ⟨q11,c11⟩))))
 rintro _ w11 ⟨q11,c11⟩
 rw[yT hs hv8] at c11
 have hcl:=iw (u:=u) (tot:=tot) c11.ls c11.lb
 refine ab (aa (ae E E ?_))
 refine ay E E ?_
 refine ah E E F5 ?_
 refine aq E E (ei (i:=72) gu E c11.hb (by rw[List.size_toArray,hcl];omega)) ?_
 have c12:=c11.setU 0
 refine ag ?_
 refine jY E ?_
 refine⟨_,rfl,?_,c12⟩
 have Q10:w.grownBy w10 (some g):=by
  have h:w.grownBy w9 (some g):=Q9
  refine⟨q10.os.trans h.os,q10.tape.trans h.tape,q10.output.trans h.output,Nat.le_trans h.size q10.size,fun k hk hne=>?_⟩
  exact(q10.block k (Nat.lt_of_lt_of_le hk h.size) (fun he=>by cases he;omega)).trans (h.block k hk hne)
 exact(Q10.trans q11).trans (bm w11 g 72 (I 0))
end Go.Rl
namespace Go.Rl
open Go.RowKit Go.Proofs
def HA (g:Nat) (m:List UInt8) (tot:UInt64) (w:World):Prop:=∃blk,HC g (sh m) blk ((m.length%64:Nat):Int) tot w∧blk.take (m.length%64)=m.drop (64*(m.length/64))
theorem HA.ext {g:Nat} {m:List UInt8} {tot:UInt64} {w w':World} (h:HA g m tot w) (hx:aN w w'):HA g m tot w':=by
 obtain⟨blk,h1,h2⟩:=h
 exact⟨blk,h1.ext hx,h2⟩
theorem HA.other {g:Nat} {m:List UInt8} {tot:UInt64} {w w':World} {row:Option Nat} (h:HA g m tot w) (hg:w.grownBy w' row) (hne:some g≠row):HA g m tot w':=by
 obtain⟨blk,h1,h2⟩:=h
 exact⟨blk,h1.other hg hne,h2⟩
theorem HA.lt {g:Nat} {m:List UInt8} {tot:UInt64} {w:World} (h:HA g m tot w):g<w.heap.size:=by
 obtain⟨blk,h1,h2⟩:=h
 exact h1.lt
theorem Jd (m y:List UInt8) (h:m.length%64+y.length<64):sh (m++y)=sh m:=by
 have hm:m=m.take (64*(m.length/64))++m.drop (64*(m.length/64)):=(List.take_append_drop _ _).symm
 have hl:(m.take (64*(m.length/64))).length=64*(m.length/64):=by simp;omega
 have hd:(m.drop (64*(m.length/64))).length=m.length%64:=by simp;omega
 rw[hm,List.append_assoc,z9 _ _ (by omega) (by rw[List.length_append,hd];exact h),z9 _ _ (by omega) (by omega)]
theorem Je (m y:List UInt8) (h:m.length%64+y.length=64):sh (m++y)=xV (sh m) (m.drop (64*(m.length/64))++y):=by
 have hm:m=m.take (64*(m.length/64))++m.drop (64*(m.length/64)):=(List.take_append_drop _ _).symm
 have hl:(m.take (64*(m.length/64))).length=64*(m.length/64):=by simp;omega
 have hd:(m.drop (64*(m.length/64))).length=m.length%64:=by simp;omega
 have e1:sh (m++y)=sh (m.take (64*(m.length/64))++(m.drop (64*(m.length/64))++y)):=by
  rw[←List.append_assoc,List.take_append_drop]
 have e2:sh m=sh (m.take (64*(m.length/64))):=by
  conv=>lhs;rw[hm]
  exact z9 _ _ (by omega) (by omega)
 rw[e1,e2,Hu _ _ (by omega) (by rw[List.length_append,hd];exact h)]
def AA (g:Nat) (v:Value):Prop:=∀a n c,v=.slice (some a) n c→a.block≠g
theorem cn.away {l:List UInt8} {v:Value} {g:Nat} {w w':World} (h:cn l v w) (ha:0<l.length→AA g v) (hg:w.grownBy w' (some g)):cn l v w':=by
 obtain⟨A,n,c,rfl,h1,h2,h3,h4,h5⟩:=h
 refine⟨A,n,c,rfl,h1,h2,h3,fun hn=>?_,h5⟩
 obtain⟨ad,rfl,hc⟩:=h4 hn
 have hlen:0<l.length:=by
  have:l.length=n:=by simpa using h3
  omega
 refine⟨ad,rfl,fun j u hu=>?_⟩
 have hb:(ad.add j).block=ad.block:=by unfold Addr.add;split<;>rfl
 exact hg.cell (hc j u hu) (by rw[hb];intro he;exact ha hlen ad n c rfl (Option.some.inj he))
theorem Dl {l:List UInt8} {v:Value} {g:Nat} {w:World} (h:cn l v w) {lo:Nat} (hlo:lo≤l.length) (ha:AA g v):
 ∃r,(∀w':World,(Instr.sliceAt 22 v (some (I (lo:Int))) none none).run Tryz.prog w'=.ok r w')∧cn (l.drop lo) r w∧AA g r:=by
 obtain⟨r,hr,hb⟩:=gt h hlo .i64
 refine⟨r,hr,hb,?_⟩
 obtain⟨A,n,c,rfl,h1,h2,h3,h4,h5⟩:=h
 have hln:lo≤n:=by
  have:l.length=n:=by simpa using h3
  omega
 have hbd:(Instr.sliceBounds true n c (some (.int .i64 (lo:Int))) none none).run Tryz.prog w=.ok (lo,n,c) w:=by
  have a2:=run_sliceBound (P:=Tryz.prog) (w:=w) .i64 (lo:Int) n .sliceB (by omega) (by omega)
  simp only[Int.toNat_natCast] at a2
  simp[Instr.sliceBounds,a2]
 have hrun:(Instr.sliceAt 22 (.slice A n c) (some (.int .i64 (lo:Int))) none none).run Tryz.prog w=.ok (.slice (if c=lo then A else A.map (·.add (lo*1))) (n-lo) (c-lo)) w:=by
  simp[Instr.sliceAt,Instr.slice,run_underlying Tryz.underlying22,hbd,fa fC]
 have e:=(hr w).symm.trans hrun
 simp only[Result.ok.injEq,and_true] at e
 subst e
 intro a n' c' he
 simp only[Value.slice.injEq] at he
 obtain⟨he,_,_⟩:=he
 split at he
 ·exact ha a n c (by rw[he])
 ·obtain⟨a0,h0,rfl⟩:=Option.map_eq_some_iff.1 he
  have:(a0.add (lo*1)).block=a0.block:=by unfold Addr.add;split<;>rfl
  rw[this]
  exact ha a0 n c (by rw[h0])
theorem Jf {g:Nat} {st:List UInt32} {blk x:List UInt8} {u:Int} {tot:UInt64} {w:World} {v:Value} {ty:TypeId} {o:Nat} (h:HC g st blk u tot w) (ho:o<64) (hx:cn x v w) (hne:0<x.length):
 ∃w',(Builtin.copy_ #[22,22] ty #[.slice (some ⟨g,8+o,none⟩) (64-o) (64-o),v]).run Tryz.prog w=.ok (I ((min x.length (64-o):Nat):Int)) w'∧w.grownBy w' (some g)∧
  HC g st (blk.take o++x.take (64-o)++blk.drop (o+min x.length (64-o))) u tot w':=by
 obtain⟨A,n,c,rfl,h1,h2,h3,h4,h5⟩:=hx
 have hxn:x.length=n:=by simpa using h3
 obtain⟨ad,rfl,hc⟩:=h4 (by omega)
 have hcs:((x.take (64-o)).map U8).length=min n (64-o):=by simp[hxn,Nat.min_comm]
 have hr:=run_copy_row (P:=Tryz.prog) w 22 22 ty 5 g (8+o) (64-o) (64-o) ad n c _ 154 ((x.take (64-o)).map U8) Md fC h.hb hcs
  (fun j u hj=>hc j u (by
    rw[List.map_take,List.getElem?_take] at hj
    split at hj
    ·exact hj
    ·cases hj)) (by rw[hcs,List.size_toArray,iw h.ls h.lb];omega) (sS _)
 rw[hcs] at hr
 refine⟨_,by rw[hxn];exact hr,bP _ _ _,?_,h.ls,?_⟩
 ·have:=h.hb.row (dq st (blk.take o++x.take (64-o)++blk.drop (o+min n (64-o))) u tot)
  rw[hxn]
  have e:((dq st blk u tot).toArray.toList.take (8+o)++(x.take (64-o)).map U8++(dq st blk u tot).toArray.toList.drop (8+o+min n (64-o)))=dq st (blk.take o++x.take (64-o)++blk.drop (o+min n (64-o))) u tot:=by
   have l8:(st.map bJ).length=8:=by simp[h.ls]
   have l64:(blk.map U8).length=64:=by simp[h.lb]
   unfold dq
   rw[List.take_append,l8,List.drop_append,l8,show 8+o-8=o by omega,show 8+o+min n (64-o)-8=o+min n (64-o) by omega]
   rw[List.take_of_length_le (by omega),List.drop_eq_nil_of_le (by omega),List.nil_append]
   rw[List.take_append,l64,show o-64=0 by omega,List.take_zero,List.append_nil,List.drop_append,l64,show o+min n (64-o)-64=0 by omega,List.drop_zero]
   simp only[List.map_append,List.map_take,List.map_drop,List.append_assoc]
  rw[e]
  exact this
 ·simp only[List.length_append,List.length_take,List.length_drop,h.lb];omega
end Go.Rl
namespace Go.Rl
open Go.RowKit Go.Proofs
theorem gC:aG Tryz.prog 40:=⟨_,Tryz.func40,by kernel_rfl,rfl⟩
theorem yW:aG Tryz.prog 39:=⟨_,Tryz.func39,by kernel_rfl,rfl⟩
theorem gD {w:World} {g:Nat} {m x:List UInt8} {tot:UInt64} {v:Value} (hh:HA g m tot w) (hx:cn x v w) (ha:0<x.length→AA g v):
 Calls Tryz.prog 40 #[.pointer (some ⟨g,0,none⟩),v] w (bE fun _ w'=>w.grownBy w' (some g)∧HA g (m++x) (tot+UInt64.ofNat x.length) w'):=by
 refine enter (vs:=[.pointer (some ⟨g,0,none⟩),v]) Tryz.func40 E E E ?_
 refine af (af (aa (ae E E ?_)))
 refine al E E E (gr MA) ?_
 refine ag (ab ?_)
 refine cp E ?_
 refine aC (ab (af (aa (ae E E ?_))))
 obtain⟨blk0,hc0,ht0⟩:=hh
 refine ay E E ?_
 refine ah E E KP ?_
 refine ak E E (aj Mc E hc0.cellT) ?_
 refine ae E E ?_
 refine aQ E E (cM hx) ?_
 refine aY E E (ff Mb Mc) ?_
 refine al E E E (dP) ?_
 refine ay E E ?_
 refine ah E E KP ?_
 have hcl0:=iw (u:=((m.length%64:Nat):Int)) (tot:=tot) hc0.ls hc0.lb
 refine aq E E (ei (i:=73) BT E hc0.hb (by rw[List.size_toArray,hcl0];omega)) ?_
 have hc1:=hc0.setT (tot+UInt64.ofNat x.length)
 have q1:=bm w g 73 (bI (tot+UInt64.ofNat x.length))
 have hx1:=hx.away ha q1
 revert hc1 q1 hx1
 generalize w.setCell ⟨g,73,none⟩ (bI (tot+UInt64.ofNat x.length))=w1
 intro hc1 q1 hx1
 refine ag (ab (aH ?_))
 refine cm (α:=Nat×Value) (fun p=>[(0,.pointer (some ⟨g,0,none⟩)),(1,p.2)])
  (fun p w'=>HA g (m++x.take p.1) (tot+UInt64.ofNat x.length) w'∧cn (x.drop p.1) p.2 w'∧(0<(x.drop p.1).length→AA g p.2)∧w.grownBy w' (some g)∧p.1≤x.length) (fun p=>x.length-p.1) (0,v) ⟨rfl,rfl,trivial⟩
  ⟨by simpa using⟨blk0,hc1,ht0⟩,by simpa using hx1,by simpa using ha,q1,by simp⟩ ?_
 rintro⟨k,b⟩ w2 ⟨⟨blk,hc2,ht2⟩,hb2,ha2,q2,hk⟩
 dsimp only at hc2 ht2 hb2 ha2 q2 hk
 have hm':∃m',m'=m++x.take k:=⟨_,rfl⟩
 obtain⟨m',hm'⟩:=hm'
 rw[←hm'] at hc2 ht2
 refine af (af (aa (ae E E ?_)))
 refine aQ E E (cM hb2) ?_
 refine al E E E (bU) ?_
 refine ag (ab ?_)
 refine bw E (fun h=>?_) (fun h=>?_)
 ·have hlt:0<(x.drop k).length:=by omega
  have hu:m'.length%64<64:=Nat.mod_lt _ (by omega)
  refine aC (ab (aH (af ?_)))
  refine bO 9 [0,1,27,28] (by kernel_rfl) (by kernel_rfl) ?_
  refine aD E E ?_
  refine dh E E ?_
  refine aW E E (fun w _=>LP) ?_
  refine aD E E ?_
  refine dh E E ?_
  refine aW E E (fun w _=>F5) ?_
  refine aO E E (fun w' hw=>aj Mb E (hc2.ext hw).cellU) ?_
  refine jt (a:=some (I ((m'.length%64:Nat):Int))) (b:=none) E E E E (fun w _=>J9 hu) ?_
  refine aD E E (cq ?_)
  intro w3 hx3
  rintro _ rfl _ rfl _ rfl _ rfl
  have hc3:=hc2.ext hx3
  obtain⟨w4,hr,q4,hc4⟩:=Jf (ty:=3) hc3 hu (hb2.ext hx3) hlt
  obtain⟨n,hn⟩:∃n,n=min (x.drop k).length (64-m'.length%64):=⟨_,rfl⟩
  rw[←hn] at hr hc4
  have hxk:(x.drop k).length=x.length-k:=List.length_drop
  have hn1:n≤x.length-k:=by omega
  have hn2:m'.length%64+n≤64:=by omega
  have hn0:0<n:=by omega
  refine Kh E E hr ?_
  refine ac E E (ag (ab (af (aa (ae E E ?_)))))
  refine ay E E ?_
  refine ah E E F5 ?_
  refine ak E E (aj Mb E hc4.cellU) ?_
  refine ae E E ?_
  have e1:((m'.length%64:Nat):Int)+(n:Int)=((m'.length%64+n:Nat):Int):=by omega
  refine al (r:=I ((m'.length%64+n:Nat):Int)) E E E (by rw[←e1];exact aP (by omega) (by omega)) ?_
  refine ay E E ?_
  refine ah E E F5 ?_
  have hcl4:=iw (u:=((m'.length%64:Nat):Int)) (tot:=tot+UInt64.ofNat x.length) hc4.ls hc4.lb
  refine aq E E (ei (i:=72) gu E hc4.hb (by rw[List.size_toArray,hcl4];omega)) ?_
  have hc5:=hc4.setU ((m'.length%64+n:Nat):Int)
  have q5:=q4.trans (bm w4 g 72 (I ((m'.length%64+n:Nat):Int)))
  revert hc5 q5
  generalize w4.setCell ⟨g,72,none⟩ (I ((m'.length%64+n:Nat):Int))=w5
  intro hc5 q5
  have hb5:=(hb2.ext hx3).away ha2 q5
  have q25:=(q2.trans (dH hx3)).trans q5
  refine ag (ab (af (aa (ae E E (ae E E ?_)))))
  obtain⟨b6,hr6,hb6,ha6⟩:=Dl hb5 (lo:=n) (by omega) (ha2 hlt)
  rw[List.drop_drop] at hb6
  refine cJ (a:=some (I (n:Int))) (b:=none) E E E E E (hr6 _) ?_
  refine ac E E (ag (ab (af (aa (ae E E ?_)))))
  refine ay E E ?_
  refine ah E E F5 ?_
  refine ak E E (aj Mb E hc5.cellU) ?_
  refine al E E E (bi) ?_
  refine ag (ab ?_)
  have hyl:((x.drop k).take (64-m'.length%64)).length=n:=by rw[List.length_take,hn,Nat.min_comm]
  have hyn:(x.drop k).take (64-m'.length%64)=(x.drop k).take n:=by
   rw[hn]
   rcases Nat.le_total (x.drop k).length (64-m'.length%64) with h1|h1
   ·rw[Nat.min_eq_left h1,List.take_of_length_le h1,List.take_length]
   ·rw[Nat.min_eq_right h1]
  have hmy:m++x.take (k+n)=m'++(x.drop k).take (64-m'.length%64):=by
   rw[hyn,hm',List.append_assoc,←List.take_add]
  obtain⟨y,hy⟩:∃y,y=(x.drop k).take (64-m'.length%64):=⟨_,rfl⟩
  rw[←hy] at hc5 hyl hmy
  have hmd:(m'.drop (64*(m'.length/64))).length=m'.length%64:=by rw[List.length_drop];omega
  have hml:(m'++y).length=m'.length+n:=by rw[List.length_append,hyl]
  refine bw E (fun h=>?_) (fun h=>?_)
  ·have hfull:m'.length%64+n=64:=by omega
   refine aa (ae E E ?_)
   refine an Ay E E (Az hc5) ?_
   rintro _ w6 ⟨q6,hc6⟩
   refine ag (aS ?_)
   refine bT (k+n,b6) ⟨rfl,rfl,trivial⟩ ⟨?_,hb6.away (fun _=>ha6) q6,fun _=>ha6,q25.trans q6,by show k+n≤x.length;omega⟩ (by show x.length-(k+n)<x.length-k;omega)
   show HA g (m++x.take (k+n)) _ w6
   rw[hmy]
   have e0:(m'++y).length%64=0:=by rw[hml];omega
   have hd0:blk.drop (m'.length%64+n)=[]:=List.drop_eq_nil_of_le (by rw[hc2.lb];omega)
   rw[hd0,List.append_nil] at hc6
   have hdd:(m'++y).drop (64*((m'++y).length/64))=[]:=List.drop_eq_nil_of_le (by omega)
   refine⟨blk.take (m'.length%64)++y,?_,by rw[e0,hdd,List.take_zero]⟩
   rw[e0,Je m' y (by omega),←ht2]
   exact hc6
  ·have hpart:m'.length%64+n<64:=by omega
   refine aC (aS ?_)
   refine bT (k+n,b6) ⟨rfl,rfl,trivial⟩ ⟨?_,hb6,fun _=>ha6,q25,by show k+n≤x.length;omega⟩ (by show x.length-(k+n)<x.length-k;omega)
   show HA g (m++x.take (k+n)) _ w5
   rw[hmy]
   have e0:(m'++y).length%64=m'.length%64+n:=by rw[hml];omega
   have e2:(m'++y).length/64=m'.length/64:=by rw[hml];omega
   refine⟨_,by rw[e0,Jd m' y (by omega)];exact hc5,?_⟩
   rw[e0,e2,List.drop_append_of_le_length (by omega),←ht2]
   rw[List.take_append_of_le_length (by rw[List.length_append,List.length_take,hc2.lb,hyl];omega)]
   exact List.take_of_length_le (by rw[List.length_append,List.length_take,hc2.lb,hyl];omega)
 ·have hk':k=x.length:=by
   have:(x.drop k).length=x.length-k:=List.length_drop
   omega
  refine bg (aJ (aJ (bh ?_)))
  refine jY E ?_
  refine⟨_,rfl,q2,?_⟩
  rw[hk',List.take_length] at hm'
  rw[hm'] at hc2 ht2
  exact⟨blk,hc2,ht2⟩
theorem yX (w:World):Calls Tryz.prog 39 #[] w (bE fun r w'=>aN w w'∧∃g,w.heap.size≤g∧r=.pointer (some ⟨g,0,none⟩)∧HA g [] 0 w'):=by
 refine enter (vs:=[]) Tryz.func39 E E E ?_
 refine af (aa (ac E E (ag (ab (af (aa ?_))))))
 refine bC E E (run_build _ _ _ (iv.map bJ).toArray (by kernel_rfl)) ?_
 refine bC E E (run_build _ _ _ (dq iv (List.replicate 64 0) 0 0).toArray (by kernel_rfl)) ?_
 obtain⟨g,w1,hr,n1,x1,b1⟩:=Dk (P:=Tryz.prog) (w:=w) (t:=154) (v:=.agg (dq iv (List.replicate 64 0) 0 0).toArray) (l:=dq iv (List.replicate 64 0) 0 0) rfl
 refine cI E E hr ?_
 refine ac E E (ag (ab (au ?_)))
 refine aA E E ?_
 exact⟨_,rfl,x1,g,n1,rfl,List.replicate 64 0,⟨b1,rfl,by simp⟩,rfl⟩
theorem HC.ldH {g:Nat} {st:List UInt32} {blk:List UInt8} {u:Int} {tot:UInt64} {w:World} (h:HC g st blk u tot w):(Instr.loadAt 154 (.pointer (some ⟨g,0,none⟩))).run Tryz.prog w=.ok (.agg (dq st blk u tot).toArray) w:=
 oA (m:=dq st blk u tot) h.hb (fun j v hj=>by rwa [Nat.zero_add]) MC rfl (by rw[iw h.ls h.lb];exact yV)
theorem LQ {st:List UInt32} {blk:List UInt8} {u:Int} {tot:UInt64}:∀v∈dq st blk u tot,v.oneCell'=true:=by
 intro v hv
 unfold dq at hv
 rcases List.mem_append.1 hv with h|h
 ·exact kP _ v h
 ·rcases List.mem_append.1 h with h|h
  ·exact sS _ v h
  ·simp only[List.mem_cons,List.not_mem_nil,or_false] at h
   rcases h with rfl|rfl<;>rfl
end Go.Rl

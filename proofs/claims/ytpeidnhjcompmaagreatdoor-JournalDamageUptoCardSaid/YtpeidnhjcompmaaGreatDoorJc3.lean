/- Part 3 of a proof: plain facts and walks of functions, merged by a program. Conditions: each lemma names its own. -/
import Derived.Test.YtpeidnhjcompmaaGreatDoorJc2
namespace Go.Rl
open Go.RowKit Go.Proofs
section
variable {w:World} {g:Nat}
theorem nI {st:Option (List UInt8)} (hr:cv g st w) (h:st.bind eW=none):Calls Tryz.prog 93 #[.pointer (some ⟨g,0,none⟩)] w (bE fun r w'=>w.grownBy w' (some g)∧r=.tuple #[bF 0,I 5]∧cv g none w'):=by
 have:=wW hr
 rw[h] at this
 exact this
theorem nJ {st:Option (List UInt8)} {n:Nat} {t:List UInt8} (hr:cv g st w) (h:st.bind eW=some (n,t)):Calls Tryz.prog 93 #[.pointer (some ⟨g,0,none⟩)] w (bE fun r w'=>w.grownBy w' (some g)∧r=.tuple #[bF (UInt64.ofNat n),I 0]∧cv g (some t) w'):=by
 have:=wW hr
 rw[h] at this
 exact this
end
theorem La {w w1 w2:World} {row row2:Option Nat} (h:w.grownBy w1 row) (q:w1.grownBy w2 row2) (hg:∀k,row2=some k→w.heap.size≤k):w.grownBy w2 row:=
 ⟨q.os.trans h.os,q.tape.trans h.tape,q.output.trans h.output,Nat.le_trans h.size q.size,fun i hi hne=>(q.block i (Nat.lt_of_lt_of_le hi h.size) (fun e=>by have:=hg i e.symm;omega)).trans (h.block i hi hne)⟩
theorem el.ge' {base:Nat} {l:List UInt32} {v:Value} {w:World} (h:el base l v w):∀k,v.ownBlock=some k→base≤k:=fun k hk=>h.elim fun _ h=>(World.ownsRow.lt h k hk).1
theorem EF {P:Program} {w:World} {s d:TypeId} {n:Nat} (hs:P.underlying s=some (.int .u64)) (hd:P.underlying d=some (.int .i64)) (hn:n<9223372036854775808):(convert s d (bF (UInt64.ofNat n))).run P w=.ok (I (n:Int)) w:=by
 have e:(UInt64.ofNat n).toNat=n:=by rw[UInt64.toNat_ofNat'];omega
 have:=qa (P:=P) (w:=w) hs hd (a:=UInt64.ofNat n) (by omega)
 rwa [e] at this
theorem EG {P:Program} {w:World} {s d:TypeId} {n:Nat} (hs:P.underlying s=some (.int .u64)) (hd:P.underlying d=some (.int .i64)) (hn:n<18446744073709551616):(convert s d (bF (UInt64.ofNat n/2))).run P w=.ok (I ((n/2:Nat):Int)) w:=by
 have e:(UInt64.ofNat n/2).toNat=n/2:=by
  rw[UInt64.toNat_div,UInt64.toNat_ofNat',show(2:UInt64).toNat=2 from rfl];omega
 have:=qa (P:=P) (w:=w) hs hd (a:=UInt64.ofNat n/2) (by omega)
 rwa [e] at this
theorem EH {n:Nat}:UInt64.ofNat n%2=1↔n%2=1:=by
 rw[←UInt64.toNat_inj,UInt64.toNat_mod,UInt64.toNat_ofNat',show(2:UInt64).toNat=2 from rfl,show(1:UInt64).toNat=1 from rfl]
 omega
def L4 (g:Nat) (w:World) (o:Option (Nat×List UInt8)) (r:Value) (w':World):Prop:=
 w.grownBy w' (some g)∧match o with
  |some (n,t)=>r=.tuple #[I (uz n),I 0]∧cv g (some t) w'
  |none=>r=.tuple #[I 0,I 5]∧cv g none w'
theorem yS {w:World} {g:Nat} {st:Option (List UInt8)} (hr:cv g st w):
 Calls Tryz.prog 130 #[.pointer (some ⟨g,0,none⟩)] w (bE (L4 g w (st.bind eW))):=by
 refine enter (vs:=[.pointer (some ⟨g,0,none⟩)]) Tryz.func130 E E E ?_
 refine af (aa (ae E E (ae E E (ag (ab (af ?_))))))
 rcases hN:st.bind eW with _|⟨n,t⟩
 ·refine aa (ac E E (am fE E E (nI hr hN) ?_))
  rintro v8 w8 ⟨x8,rfl,hr1⟩
  have m8:=eA.kp hr x8
  refine ac E E (ao E E (bj) (ao E E (bk) (ae E E (ae E E (ag (ab (af (af (aa (ac E E (al (v:=bF 2) E E E (jt (by decide)) ?_)))))))))))
  refine al (v:=bF 1) E E E (cY (by decide) gV) (ag (ab (cr E (aC (ab (af (aa (ac E E (al (v:=bF 2) E E E (iV (by decide)) ?_)))))))))
  refine a9 E E (qa MA Mx (by decide)) ?_
  refine ac E E (ae E E (ae E E (ag (ab (aw (bf E E E ?_))))))
  exact⟨_,rfl,x8,rfl,hr1⟩
 ·have hnn:=(tk (k:=(st.getD []).length) hN (by rintro l rfl;exact Nat.le_refl _)).2
  refine aa (ac E E (am fE E E (nJ hr hN) ?_))
  rintro v8 w8 ⟨x8,rfl,hr1⟩
  have m8:=eA.kp hr x8
  refine ac E E (ao E E (bj) (ao E E (bk) (ae E E (ae E E (ag (ab (af (af (aa (ac E E (al (v:=bF 2) E E E (jt (by decide)) ?_)))))))))))
  refine al (v:=bF 1) E E E (gV) (ag (ab ?_))
  refine bz E (fun h13=>?_) (fun h13=>?_)
  ·refine af (aa (ac E E (al (v:=bF 2) E E E (iV (by decide)) (a9 E E (EG MA Mx hnn) ?_))))
   refine bt E E (vy (by omega) (by omega)) (al E E E (bD (by omega) (by omega)) (ac E E (ae E E (ae E E (ag (ab ?_))))))
   refine aw (ay (bf E E E ?_))
   exact⟨_,rfl,x8,congrArg (fun z=>Value.tuple #[I z,I 0]) (show _=uz n by
    unfold uz
    first
    |(have:=EH.1 h13;rw[if_neg (by omega)])
    |(have:=mt EH.2 h13;rw[if_pos (by omega)])),hr1⟩
  ·refine aC (ab (af (aa (ac E E (al (v:=bF 2) E E E (iV (by decide)) (a9 E E (EG MA Mx hnn) ?_))))))
   refine ac E E (ae E E (ae E E (ag (ab (aw (bf E E E ?_))))))
   exact⟨_,rfl,x8,congrArg (fun z=>Value.tuple #[I z,I 0]) (show _=uz n by
    unfold uz
    first
    |(have:=EH.1 h13;rw[if_neg (by omega)])
    |(have:=mt EH.2 h13;rw[if_pos (by omega)])),hr1⟩
def L5 (g:Nat) (w:World) (o:Option (List UInt32×List UInt8)) (r:Value) (w':World):Prop:=
 w.grownBy w' (some g)∧match o with
  |some (m,t)=>∃v,r=.tuple #[v,I 0]∧bm m v w'∧cv g (some t) w'∧rI w.heap.size v
  |none=>r=.tuple #[.slice none 0 0,I 5]∧cv g none w'
theorem BQ {n m:Nat} (hn:n<18446744073709551616) (hm:m<18446744073709551616):UInt64.ofNat n>UInt64.ofNat m↔m<n:=by
 show UInt64.ofNat m<UInt64.ofNat n↔m<n
 rw[UInt64.lt_iff_toNat_lt,UInt64.toNat_ofNat',UInt64.toNat_ofNat']
 omega
theorem Kw {n:Nat} (hn:n<18446744073709551616):UInt64.ofNat n>0↔0<n:=BQ hn (by decide)
theorem yT {w:World} {g:Nat} {st:Option (List UInt8)} (hr:cv g st w) (hl:∀l,st=some l→l.length≤549755813888):
 Calls Tryz.prog 160 #[.pointer (some ⟨g,0,none⟩)] w (bE (L5 g w (st.bind tj))):=by
 refine enter (vs:=[.pointer (some ⟨g,0,none⟩)]) Tryz.func160 E E E ?_
 have hglt:=hr.lt
 refine af (aa (ae E E (ae E E (ag (ab (af ?_))))))
 rcases hU:st.bind eW with _|⟨n,t⟩
 ·refine aa (ac E E (am fE E E (nI hr hU) ?_))
  rintro v10 w10 ⟨x10,rfl,hr1⟩
  have m10:=eA.kp hr x10
  refine ac E E (ao E E (bj) (ao E E (bk) (ae E E (ae E E (ag (ab (af (af (aa (ac E E (al E E E (ci (by decide) cX) ?_)))))))))))
  refine ag (ab (bg E (af (aa (ac E E (ae E E (ae E E (ag (ab (aw (ay (bf E E E ?_))))))))))))
  exact⟨_,rfl,x10,by rw[HJ hU];exact⟨rfl,hr1⟩⟩
 ·obtain⟨ht,hn⟩:=tk hU hl
  refine aa (ac E E (am fE E E (nJ hr hU) ?_))
  rintro v10 w10 ⟨x10,rfl,hr1⟩
  have m10:=eA.kp hr x10
  refine ac E E (ao E E (bj) (ao E E (bk) ?_))
  obtain⟨A,n',c,k,b,lc⟩:=id hr1
  have b:cJ t (.slice A n' c) w10:=b
  refine ae E E (ae E E (ag (ab (af (af (aa (ac E E (al E E E (cY (by decide) cX) (ag (ab (cr E (aC (ab ?_)))))))))))))
  refine af (af (aa (ac E E (ac E E (ax E E (ah E E (ar (o:=0) MN E (by kernel_rfl) E) ?_))))))
  refine ak E E (aj MB E (k.cell (i:=0) E)) (aO E E (cT b) (al (r:=I ((t.length/4:Nat):Int)) E E E (by have e:((t.length/4:Nat):Int)=(t.length:Int)/4:=(by omega);rw[e];exact pW (by omega) (by omega) (by omega)) ?_))
  refine a9 E E (fv Mx MA) (al E E E (cQ) (ag (ab ?_)))
  refine bz E (fun h24=>?_) (fun h24=>?_)
  ·have hlong:t.length/4<n:=(BQ hn (by omega)).1 h24
   refine af (aa (ac E E (am dZ E E (d6 hr1) ?_)))
   rintro v26 w26 ⟨rfl,hr2,g26⟩
   have m26:=eA.kp hr1 g26
   refine ae E E (ae E E (ag (ab (aw (ay (bf E E E ?_))))))
   exact⟨_,rfl,x10.trans g26,by rw[rH hU,if_neg (by omega)];exact⟨rfl,hr2⟩⟩
  ·have hle:n≤t.length/4:=Nat.le_of_not_lt (mt (BQ hn (by omega)).2 h24)
   have hgb:g<w10.heap.size:=cv.lt hr1
   refine aC (ab (af (aa (ae E E (ag (ab (af (af (aa (ae E E (ag (ab (aE ?_)))))))))))))
   refine fw (fun(i:Nat) (u:Value)=>[(0,.pointer (some ⟨g,0,none⟩)),(4,bF (UInt64.ofNat n)),(6,u),(7,I (i:Int))]) (fun(i:Nat) (u:Value) w'=>w10.grownBy w' (some g)∧(∃A n' c,ct g 167 [.slice A n' c,B false] w'∧cJ (t.drop (4*i)) (.slice A n' c) w10∧ru A g)∧el w10.heap.size (di (t.take (4*i))) u w'∧i≤n) (fun(i:Nat) (u:Value)=>n-i) (0) (.slice none 0 0) ⟨rfl,rfl,rfl,rfl,trivial⟩ ⟨kx _ _,⟨A,n',c,k,by simpa using b,lc⟩,by simpa [di] using el.nil _ _,by omega⟩ ?_
   rintro i u w8 ⟨g8,⟨A,n',c,k8,b0,lc8⟩,o6,hi⟩
   refine af (af ?_)
   have b8:=b0.kp (eA.kp hr1 g8)
   have hdl:(t.drop (4*i)).length=t.length-4*i:=by rw[List.length_drop]
   refine aa (ac E E (ac E E (a9 E E (EF MA Mx (by omega)) (al E E E (aV) (ag ?_)))))
   refine ab ?_
   refine bz E (fun h30=>?_) (fun h30=>?_)
   ·refine aC (ab (af (aE (af (bI 36 [0,4,7,33,68] (by kernel_rfl) (by kernel_rfl) ?_)))))
    refine aA E E (aA E E (dj E E (aW E E (fun w hw=>ar (o:=0) MN E (by kernel_rfl) E) ?_)))
    refine aP E E (fun w hw=>aj MB E (hw.cell_some (k8.cell (i:=0) E))) ?_
    obtain⟨a38,p38,q38⟩:=gH b8 (i:=0) (by omega) .i64
    refine aF E E E (fun w _=>p38 w) (aP E E (fun w hw=>aj MC E (hw.cell_some q38)) (dK E E (fun w _=>eP MC Mu) ?_))
    refine aA E E (dj E E (aW E E (fun w hw=>ar (o:=0) MN E (by kernel_rfl) E) ?_))
    refine aP E E (fun w hw=>aj MB E (hw.cell_some (k8.cell (i:=0) E))) ?_
    obtain⟨a45,p45,q45⟩:=gH b8 (i:=1) (by omega) .i64
    refine aF E E E (fun w _=>p45 w) (aP E E (fun w hw=>aj MC E (hw.cell_some q45)) (dK E E (fun w _=>eP MC Mu) ?_))
    refine bb (v:=bH 256) E E E (fun w _=>tQ) (bb E E E (fun w _=>cz) (aA E E (dj E E (aW E E (fun w hw=>ar (o:=0) MN E (by kernel_rfl) E) ?_))))
    refine aP E E (fun w hw=>aj MB E (hw.cell_some (k8.cell (i:=0) E))) ?_
    obtain⟨a54,p54,q54⟩:=gH b8 (i:=2) (by omega) .i64
    refine aF E E E (fun w _=>p54 w) (aP E E (fun w hw=>aj MC E (hw.cell_some q54)) (dK E E (fun w _=>eP MC Mu) ?_))
    refine bb (v:=bH 65536) E E E (fun w _=>tQ) (bb E E E (fun w _=>cz) (aA E E (dj E E (aW E E (fun w hw=>ar (o:=0) MN E (by kernel_rfl) E) ?_))))
    refine aP E E (fun w hw=>aj MB E (hw.cell_some (k8.cell (i:=0) E))) ?_
    obtain⟨a63,p63,q63⟩:=gH b8 (i:=3) (by omega) .i64
    refine aF E E E (fun w _=>p63 w) (aP E E (fun w hw=>aj MC E (hw.cell_some q63)) (dK E E (fun w _=>eP MC Mu) ?_))
    refine bb (v:=bH 16777216) rfl rfl rfl (fun w _=>tQ) (bb rfl rfl rfl (fun w _=>cz) (f4 (S:=bm [w4 ((t.drop (4*i))[0]'(by omega)) ((t.drop (4*i))[1]'(by omega)) ((t.drop (4*i))[2]'(by omega)) ((t.drop (4*i))[3]'(by omega))]) (bm.stable _) rfl (fun w' _=>by rintro _ rfl;obtain⟨r,w2,h1,h2,h3,_⟩:=jo Tryz.underlying44 (w:=w') w'.heap.size [w4 ((t.drop (4*i))[0]'(by omega)) ((t.drop (4*i))[1]'(by omega)) ((t.drop (4*i))[2]'(by omega)) ((t.drop (4*i))[3]'(by omega))] (by simp) (Nat.le_refl _);rw[←K3] at h1;exact⟨r,w2,h1,h2,h3.wds⟩) ?_))
    refine cq ?_
    intro wg10 xg10
    rintro _ rfl
    rintro _ rfl
    rintro _ rfl
    rintro _ hq33
    obtain rfl:=Eq.symm hq33
    intro vg68 b68
    obtain⟨v69,w69,hr69,o69,g69⟩:=lj Tryz.underlying44 (ty:=44) (o6.ext xg10) b68 (by have:=iY i (t.take (4*i)) (by rw[List.length_take];omega);simp;omega) (Nat.le_trans g8.size xg10.size)
    have gg:=La (g8.trans (dM xg10)) g69.grown (fun k hk=>o6.ge' k hk)
    have k69:=(k8.ext xg10).other g69.grown (fun e=>by have:=o6.ge' g e.symm;omega)
    refine ba E E hr69 ?_
    refine ae E E (ag (ab (aa (ac E E (ac E E (ax E E (ah E E (ar (o:=0) MN E (by kernel_rfl) E) ?_)))))))
    refine ak E E (aj MB E (k69.cell (i:=0) E)) ?_
    obtain⟨v75,p75,b75⟩:=gG b0 (lo:=4) (by omega) .i64
    obtain⟨A5,n5,c5,rfl,_⟩:=id b75
    have lc5:=tT (p75 w) lc8 _ _ _ rfl
    refine cx E E E E E (p75 _) ?_
    refine ax E E (ah E E (ar (o:=0) Tryz.underlying167 E (by kernel_rfl) E) (au E E (dR (i:=0) dB E k69 (by simp)) ?_))
    have g11:=bh w69 g 0 (.slice A5 n5 c5)
    have o11:=o69.kept g11 (.inr (fun e=>by have:=o69.ge' g e;omega))
    refine ag (aS (ab (aa (ac E E (al (r:=I ((i+1:Nat):Int)) E E E (by have e:((i+1:Nat):Int)=(i:Int)+1:=(by omega);rw[e];exact aN (by omega) (by omega)) ?_)))))
    refine ae E E (ag ?_)
    refine dG (i+1) (v69) ⟨rfl,rfl,rfl,rfl,trivial⟩ ⟨gg.trans g11,⟨A5,n5,c5,k69.set 0 _,by rw[List.drop_drop] at b75;exact b75,lc5⟩,by
     rw[rG i t (by omega)]
     simp only[List.getElem_drop,Nat.add_zero] at o11
     exact o11,by omega⟩ (by omega)
   ·refine bc (aI (aI (be (ab (af (af ?_))))))
    have hin:i=n:=by omega
    have r8:cv g (some (t.drop (4*i))) w8:=⟨A,n',c,k8,b8,lc8⟩
    obtain⟨bs,hbs⟩:∃bs,bs=t.take (4*i):=⟨_,rfl⟩
    have hbs':bs=t.take (4*n):=by rw[hbs,hin]
    have hbl:bs.length=4*n:=by rw[hbs',List.length_take];omega
    have hns:=iY n bs hbl
    rw[←hbs] at o6
    have hnn:(UInt64.ofNat n).toNat=n:=by rw[UInt64.toNat_ofNat'];omega
    refine aa (ac E E (al (v:=bF 0) E E E (cQ) (ac E E ?_)))
    refine ce (fun h80=>?_) (fun h80=>?_)
    ·refine ai E (ac E E (ai E (ac E E (ai E (al (v:=bF 1) E E E (dU) (ai E ?_))))))
     have hn0:0<n:=by
      rcases Nat.eq_zero_or_pos n with h|h
      ·rw[h] at h80;exact absurd h80 (by decide)
      ·exact h
     have hm1:(UInt64.ofNat n-1).toNat=n-1:=by
      rw[UInt64.toNat_sub_of_le _ _ (UInt64.le_iff_toNat_le.2 (by rw[hnn];exact hn0)),hnn];rfl
     obtain⟨a84,p84,q84⟩:=db Ms o6.wds (i:=(UInt64.ofNat n-1).toNat) (by omega) .u64
     have hx:(di bs)[(UInt64.ofNat n-1).toNat]≠0↔lb (val (di bs))=di bs:=by
      have e:(UInt64.ofNat n-1).toNat=(di bs).length-1:=by omega
      simp only[e]
      exact td (by omega)
     refine aq E E E (p84 _) (ai E (ak E E (aj Mu E q84) (ai E (al (v:=bH 0) E E E (mp) (ap E E E ?_)))))
     refine ag (ab ?_)
     refine bz E (fun h87=>?_) (fun h87=>?_)
     ·refine af (aa (ac E E (am dZ E E (d6 r8) ?_)))
      rintro v89 w89 ⟨rfl,hr2,g89⟩
      have m89:=eA.kp r8 g89
      refine ae E E (ae E E (ag (ab (aw (ay (bf E E E ?_))))))
      exact⟨_,rfl,(x10.trans g8).trans g89,by
       rw[rH hU,←hbs',if_neg fun h=>hx.2 h.2 h87]
       exact⟨rfl,hr2⟩⟩
     ·refine aC (ab (af (aa (ac E E (ae E E (ae E E (ag (ab (aw (bf E E E ?_))))))))))
      exact⟨_,rfl,x10.trans g8,by
       rw[hin] at r8
       rw[rH hU,←hbs']
       first
       |(have h0:n=0:=by
          rcases Nat.eq_zero_or_pos n with h|h
          ·exact h
          ·exact absurd ((Kw hn).2 h) h80
         have hb0:di bs=[]:=List.eq_nil_of_length_eq_zero (by rw[hns];exact h0)
         rw[hb0] at o6
         rw[hb0,if_pos ⟨hle,rfl⟩]
         exact⟨u,rfl,o6.wds,r8,fun k hk=>Nat.le_trans x10.size (o6.ge' k hk)⟩)
       |(have hcan:=hx.1 h87
         rw[if_pos ⟨hle,hcan⟩]
         exact⟨u,rfl,o6.wds,r8,fun k hk=>Nat.le_trans x10.size (o6.ge' k hk)⟩)⟩
    ·refine an E E E (an E E E (an E E E (an E E E (an E E E (an E E E (aD E E E (ag (ab (cr E (aC (ab (af ?_))))))))))))
     refine aa (ac E E (ae E E (ae E E (ag (ab (aw (bf E E E ?_)))))))
     exact⟨_,rfl,x10.trans g8,by
      rw[hin] at r8
      rw[rH hU,←hbs']
      first
      |(have h0:n=0:=by
         rcases Nat.eq_zero_or_pos n with h|h
         ·exact h
         ·exact absurd ((Kw hn).2 h) h80
        have hb0:di bs=[]:=List.eq_nil_of_length_eq_zero (by rw[hns];exact h0)
        rw[hb0] at o6
        rw[hb0,if_pos ⟨hle,rfl⟩]
        exact⟨u,rfl,o6.wds,r8,fun k hk=>Nat.le_trans x10.size (o6.ge' k hk)⟩)
      |(have hcan:=hx.1 h87
        rw[if_pos ⟨hle,hcan⟩]
        exact⟨u,rfl,o6.wds,r8,fun k hk=>Nat.le_trans x10.size (o6.ge' k hk)⟩)⟩
end Go.Rl
namespace Go.Rl
open Go.RowKit Go.Proofs
def Jy (g:Nat) (w:World) (o:Option (List UInt8×List UInt8)) (r:Value) (w':World):Prop:=
 w.grownBy w' (some g)∧match o with
  |some (a,t)=>∃v,r=.tuple #[v,I 0]∧cJ a v w'∧cv g (some t) w'
  |none=>r=.tuple #[.slice none 0 0,I 5]∧cv g none w'
theorem Lb {st:Option (List UInt8)} (h:st.bind eW=none):st.bind oA=none:=by
 cases st with
 |none=>rfl
 |some l=>
  have h:eW l=none:=h
  show oA l=none
  unfold oA
  rw[h];rfl
theorem HQ {st:Option (List UInt8)} {n:Nat} {t:List UInt8} (h:st.bind eW=some (n,t)):st.bind oA=if n≤t.length then some (t.take n,t.drop n) else none:=by
 cases st with
 |none=>cases h
 |some l=>
  have h:eW l=some (n,t):=h
  show oA l=_
  unfold oA
  rw[h];rfl
theorem uV {w:World} {g:Nat} {st:Option (List UInt8)} (hr:cv g st w) (hl:∀l,st=some l→l.length≤549755813888):
 Calls Tryz.prog 48 #[.pointer (some ⟨g,0,none⟩)] w (bE (Jy g w (st.bind oA))):=by
 refine enter (vs:=[.pointer (some ⟨g,0,none⟩)]) Tryz.func48 E E E ?_
 refine af (aa (ae E E (ae E E (ag (ab (af ?_))))))
 rcases hU:st.bind eW with _|⟨n,t⟩
 ·refine aa (ac E E (am fE E E (nI hr hU) ?_))
  rintro v9 w9 ⟨x9,rfl,hr1⟩
  have m9:=eA.kp hr x9
  refine ac E E (ao E E (bj) (ao E E (bk) (ae E E (ae E E (ag (ab (af (af (aa (ac E E (al E E E (ci (by decide) cX) ?_)))))))))))
  refine ag (ab (bg E (af (aa (ac E E (ae E E (ae E E (ag (ab (aw (ay (bf E E E ?_))))))))))))
  exact⟨_,rfl,x9,by rw[Lb hU];exact⟨rfl,hr1⟩⟩
 ·obtain⟨ht,hn⟩:=tk hU hl
  refine aa (ac E E (am fE E E (nJ hr hU) ?_))
  rintro v9 w9 ⟨x9,rfl,hr1⟩
  have m9:=eA.kp hr x9
  refine ac E E (ao E E (bj) (ao E E (bk) ?_))
  obtain⟨A,n',c,k,b,lc⟩:=id hr1
  have b:cJ t (.slice A n' c) w9:=b
  have hgb:g<w9.heap.size:=cv.lt hr1
  refine ae E E (ae E E (ag (ab (af (af (aa (ac E E (al E E E (cY (by decide) cX) (ag (ab (cr E (aC (ab ?_)))))))))))))
  refine af (af (aa (ac E E (ac E E (ax E E (ah E E (ar (o:=0) MN E (by kernel_rfl) E) ?_))))))
  refine ak E E (aj MB E (k.cell (i:=0) E)) (aO E E (cT b) (a9 E E (fv Mx MA) ?_))
  refine al E E E (cQ) (ag (ab ?_))
  refine bz E (fun h22=>?_) (fun h22=>?_)
  ·have hlong:t.length<n:=(BQ hn (by omega)).1 h22
   refine af (aa (ac E E (am dZ E E (d6 hr1) ?_)))
   rintro v24 w24 ⟨rfl,hr2,g24⟩
   have m24:=eA.kp hr1 g24
   refine ae E E (ae E E (ag (ab (aw (ay (bf E E E ?_))))))
   exact⟨_,rfl,x9.trans g24,by rw[HQ hU,if_neg (by omega)];exact⟨rfl,hr2⟩⟩
  ·have hle:n≤t.length:=Nat.le_of_not_lt (mt (BQ hn (by omega)).2 h22)
   have hnn:(UInt64.ofNat n).toNat=n:=by rw[UInt64.toNat_ofNat'];omega
   refine aC (ab (af (aa ?_)))
   obtain⟨v25,w25,hr25,x25,o25,ob25⟩:=eh (w:=w9) w9.heap.size [] (by simp) (Nat.le_refl _)
   refine aJ (vs:=[]) E E hr25 (ac E E (ax E E (ah E E (ar (o:=0) MN E (by kernel_rfl) E) ?_)))
   refine ak E E (aj MB E (x25.cell_some (k.cell (i:=0) E))) (ac E E ?_)
   obtain⟨v31,p31,b31⟩:=iw (b.ext x25) (hi:=(UInt64.ofNat n).toNat) (by omega) .u64
   rw[hnn] at b31
   refine cx (b:=some (bF (UInt64.ofNat n))) E E E E E (p31 _) ?_
   obtain⟨v32,w32,hr32,o32,g32⟩:=dn (ty:=22) o25 b31 (by simp;omega) (x25).size
   have x32:=aK.of_grew (x25) g32 o25.ge
   refine ba E E hr32 (ae E E (ag (ab (af (aa (ac E E (ac E E (ax E E (ah E E (ar (o:=0) MN E (by kernel_rfl) E) ?_)))))))))
   refine ak E E (aj MB E (x32.cell_some (k.cell (i:=0) E))) (ac E E ?_)
   obtain⟨v39,p39,b39⟩:=gG (b.ext x32) (lo:=(UInt64.ofNat n).toNat) (by omega) .u64
   rw[hnn] at b39
   refine cx (a:=some (bF (UInt64.ofNat n))) E E E E E (p39 _) ?_
   have hr1':=cv.ext hr1 x32
   have hvb:cJ (t.take n) v32 w32:=by simpa using(o32).bts
   refine ax E E (ah E E (ar (o:=0) MN E (by kernel_rfl) E) ?_)
   obtain⟨w3,hs3,q3,r3⟩:=eA.set hr1' b39 (tT (p39 w) lc)
   refine au E E (hs3) ?_
   have gg:=(x9.trans (dM x32)).trans q3
   refine ag (ab (af (aa (ac E E (ae E E (ae E E (ag (ab (aw (bf E E E ?_))))))))))
   exact⟨_,rfl,gg,by rw[HQ hU,if_pos hle];exact⟨_,rfl,hvb.kp (eA.kp hr1' q3),r3⟩⟩
section
variable {w:World} {g:Nat}
theorem BR {st:Option (List UInt8)} (hr:cv g st w) (hl:∀l,st=some l→l.length≤549755813888) (h:st.bind oA=none):Calls Tryz.prog 48 #[.pointer (some ⟨g,0,none⟩)] w (bE fun r w'=>w.grownBy w' (some g)∧r=.tuple #[.slice none 0 0,I 5]∧cv g none w'):=by
 have:=uV hr hl
 rw[h] at this
 exact this
theorem uW {st:Option (List UInt8)} {a t:List UInt8} (hr:cv g st w) (hl:∀l,st=some l→l.length≤549755813888) (h:st.bind oA=some (a,t)):Calls Tryz.prog 48 #[.pointer (some ⟨g,0,none⟩)] w (bE fun r w'=>w.grownBy w' (some g)∧∃v,r=.tuple #[v,I 0]∧cJ a v w'∧cv g (some t) w'):=by
 have:=uV hr hl
 rw[h] at this
 exact this
theorem ua {st:Option (List UInt8)} (hr:cv g st w) (hl:∀l,st=some l→l.length≤549755813888) (h:st.bind tj=none):Calls Tryz.prog 160 #[.pointer (some ⟨g,0,none⟩)] w (bE fun r w'=>w.grownBy w' (some g)∧r=.tuple #[.slice none 0 0,I 5]∧cv g none w'):=by
 have:=yT hr hl
 rw[h] at this
 exact this
theorem rN {st:Option (List UInt8)} {m:List UInt32} {t:List UInt8} (hr:cv g st w) (hl:∀l,st=some l→l.length≤549755813888) (h:st.bind tj=some (m,t)):Calls Tryz.prog 160 #[.pointer (some ⟨g,0,none⟩)] w (bE fun r w'=>w.grownBy w' (some g)∧∃v,r=.tuple #[v,I 0]∧bm m v w'∧cv g (some t) w'∧rI w.heap.size v):=by
 have:=yT hr hl
 rw[h] at this
 exact this
theorem ub {st:Option (List UInt8)} {m:List UInt32} {t:List UInt8} (hr:cv g st w) (hl:∀l,st=some l→l.length≤549755813888) (h:st.bind tj=some (m,t)):Calls Tryz.prog 160 #[.pointer (some ⟨g,0,none⟩)] w (bE fun r w'=>w.grownBy w' (some g)∧∃v,r=.tuple #[v,I 0]∧bm m v w'∧cv g (some t) w'):=(rN hr hl h).mono fun _ _ ⟨r,h0,h1,v,h2,h3,h4,_⟩=>⟨r,h0,h1,v,h2,h3,h4⟩
end
end Go.Rl
namespace Go.Rl
open Go.RowKit Go.Proofs
theorem ct.st1 {P:Program} {w:World} {T t:TypeId} {g:Nat} {l:List Value} {v:Value} (h:ct g T l w) (i:Nat) (hs:(P.info? t).map (·.size)=some 1) (hv:∃A n c,v=.slice A n c) (hi:i<l.length):
 ∃w',(Instr.storeAt t (.pointer (some ⟨g,i,none⟩)) v).run P w=.ok () w'∧w.grownBy w' (some g)∧ct g T (l.set i v) w':=by
 obtain⟨A,n,c,rfl⟩:=hv
 exact⟨_,dR hs rfl h (by simpa using hi),bh w g i _,h.set i _⟩
theorem Ga {w:World} {b:Bool}:(Instr.build 46 #[(0,B b)]).run Tryz.prog w=.ok (.agg #[B b,.slice none 0 0,.slice none 0 0]) w:=
 run_build _ _ _ #[B b,.slice none 0 0,.slice none 0 0] (by kernel_rfl)
def FRatE (g:Nat) (w:World) (o:Option ((Bool×List UInt32×List UInt32)×List UInt8)) (r:Value) (w':World):Prop:=
 w.grownBy w' (some g)∧match o with
  |some (q,t)=>∃v,r=.tuple #[v,I 0]∧dm q.1 q.2.1 q.2.2 v w'∧cv g (some t) w'
  |none=>∃v,r=.tuple #[v,I 5]∧dm false [] [] v w'∧cv g none w'
def Lc (g:Nat) (w:World) (o:Option ((Bool×List UInt32×List UInt32)×List UInt8)) (r:Value) (w':World):Prop:=
 w.grownBy w' (some g)∧match o with
  |some (q,t)=>∃x y,r=.tuple #[.agg #[B q.1,x,y],I 0]∧bm q.2.1 x w'∧bm q.2.2 y w'∧cv g (some t) w'∧rI w.heap.size x∧rI w.heap.size y
  |none=>∃v,r=.tuple #[v,I 5]∧dm false [] [] v w'∧cv g none w'
theorem Di {w:World} {g:Nat} {st:Option (List UInt8)} (hr:cv g st w) (hl:∀l,st=some l→l.length≤549755813888):
 Calls Tryz.prog 131 #[.pointer (some ⟨g,0,none⟩)] w (bE (Lc g w (st.bind jp))):=by
 refine enter (vs:=[.pointer (some ⟨g,0,none⟩)]) Tryz.func131 E E E ?_
 have hglt:=cv.lt hr
 refine af (aa ?_)
 obtain⟨g2,w2,hr2,l2,x2,k2⟩:=gI (w:=w)
 refine aT E hr2 (ae E E (ag (ab (af (af ?_)))))
 have rr:=cv.ext hr x2
 have kk:=k2
 have gg:w.grownBy w2 (some g):=dM x2
 have hne:some g2≠some g:=fun h=>by have:=Option.some.inj h;omega
 have hne':g≠g2:=by omega
 obtain⟨A,n,c0,k0,b0,lc⟩:=id rr
 rcases st with _|(_|⟨c,l⟩)
 ·have hR:(none:Option (List UInt8)).bind jp=none:=rfl
  have bn:cJ [] (.slice A n c0) w2:=b0
  refine aa (ac E E (ax E E (ah E E (ar (o:=0) MN E (by kernel_rfl) E) (ak E E (aj MB E (k0.cell (i:=0) E)) ?_))))
  refine aO E E (cT bn) (al E E E (ci (by simp) bi) (ac E E (an E E E (an E E E (an E E E (an E E E (an E E E ?_)))))))
  refine an E E E (an E E E (ap E E E (ag (ab (bg E (af (aa ?_)))))))
  refine bA (vs:=[]) E E ff ?_
  refine ac E E (am dZ E E (d6 rr) ?_)
  rintro v22 w22 ⟨rfl,rs,g22⟩
  have m22:=eA.kp rr g22
  have gg:=gg.trans g22
  have kk:=kk.other g22 hne
  have rr:=rs
  obtain⟨p,q,w3,hp,hs3,q3,k3,n3,d3⟩:=kk.stR ⟨_,_,_,rfl⟩ ⟨_,_,_,rfl⟩ (dm.mk (b:=false) (bm.nil _) (bm.nil _))
  refine au E E (hs3) (ae E E (ag (ab (aw (ay ?_)))))
  refine cD E E E k3 Mw E dk ?_
  exact⟨_,rfl,fq gg q3 l2,by rw[hR];exact⟨_,rfl,⟨p,q,rfl,n3,d3⟩,eA.off rr (kk.kpR ⟨_,_,_,rfl⟩ ⟨_,_,_,rfl⟩ q3) q3 hne'⟩⟩
 ·have hR:(some []).bind jp=none:=rfl
  have bn:cJ [] (.slice A n c0) w2:=b0
  refine aa (ac E E (ax E E (ah E E (ar (o:=0) MN E (by kernel_rfl) E) (ak E E (aj MB E (k0.cell (i:=0) E)) ?_))))
  refine aO E E (cT bn) (al E E E (ci (by simp) bi) (ac E E (an E E E (an E E E (an E E E (an E E E (an E E E ?_)))))))
  refine an E E E (an E E E (ap E E E (ag (ab (bg E (af (aa ?_)))))))
  refine bA (vs:=[]) E E ff ?_
  refine ac E E (am dZ E E (d6 rr) ?_)
  rintro v22 w22 ⟨rfl,rs,g22⟩
  have m22:=eA.kp rr g22
  have gg:=gg.trans g22
  have kk:=kk.other g22 hne
  have rr:=rs
  obtain⟨p,q,w3,hp,hs3,q3,k3,n3,d3⟩:=kk.stR ⟨_,_,_,rfl⟩ ⟨_,_,_,rfl⟩ (dm.mk (b:=false) (bm.nil _) (bm.nil _))
  refine au E E (hs3) (ae E E (ag (ab (aw (ay ?_)))))
  refine cD E E E k3 Mw E dk ?_
  exact⟨_,rfl,fq gg q3 l2,by rw[hR];exact⟨_,rfl,⟨p,q,rfl,n3,d3⟩,eA.off rr (kk.kpR ⟨_,_,_,rfl⟩ ⟨_,_,_,rfl⟩ q3) q3 hne'⟩⟩
 ·have b0:cJ (c::l) (.slice A n c0) w2:=b0
  refine aa (ac E E (ax E E (ah E E (ar (o:=0) MN E (by kernel_rfl) E) (ak E E (aj MB E (k0.cell (i:=0) E)) ?_))))
  refine aO E E (cT b0) (al E E E (cY (by simp;omega) bi) (ac E E (ai E (ac E E (ai E (ax E E (ai E (ah E E (ar (o:=0) Tryz.underlying167 E (by kernel_rfl) E) ?_))))))))
  refine ai E (ak E E (aj MB E (k0.cell (i:=0) E)) (ai E ?_))
  obtain⟨a16,p16,q16⟩:=gH b0 (i:=0) (by simp) .i64
  refine aq E E E (p16 _) (ai E (ak E E (aj MC E q16) (ai E (al (v:=U8 1) E E E (sZ) (aD E E E ?_)))))
  refine ag (ab ?_)
  refine bz E (fun h19=>?_) (fun h19=>?_)
  ·have hc:1<c.toNat:=by have:=UInt8.lt_iff_toNat_lt.1 h19;simpa using this
   have hR:(some (c::l)).bind jp=none:=Ad hc
   refine af (aa ?_)
   refine bA (vs:=[]) E E ff ?_
   refine ac E E (am dZ E E (d6 rr) ?_)
   rintro v22 w22 ⟨rfl,rs,g22⟩
   have m22:=eA.kp rr g22
   have gg:=gg.trans g22
   have kk:=kk.other g22 hne
   have rr:=rs
   obtain⟨p,q,w3,hp,hs3,q3,k3,n3,d3⟩:=kk.stR ⟨_,_,_,rfl⟩ ⟨_,_,_,rfl⟩ (dm.mk (b:=false) (bm.nil _) (bm.nil _))
   refine au E E (hs3) (ae E E (ag (ab (aw (ay ?_)))))
   refine cD E E E k3 Mw E dk ?_
   exact⟨_,rfl,fq gg q3 l2,by rw[hR];exact⟨_,rfl,⟨p,q,rfl,n3,d3⟩,eA.off rr (kk.kpR ⟨_,_,_,rfl⟩ ⟨_,_,_,rfl⟩ q3) q3 hne'⟩⟩
  ·have hc:¬1<c.toNat:=fun hh=>h19 (UInt8.lt_iff_toNat_lt.2 (by simpa using hh))
   have hl1:∀l',some l=some l'→l'.length≤549755813888:=fun l' e=>by
    have:=hl _ rfl
    cases e
    simp at this;omega
   refine aC (ab (af ?_))
   obtain⟨s,hs⟩:∃s,s=decide (c.toNat=1):=⟨_,rfl⟩
   have hcs:s=decide ((c::l)[0]'(Nat.zero_lt_succ _)=(1:UInt8)):=by
    rw[hs]
    exact decide_eq_decide.2 ⟨fun h=>wQ.1 h,fun h=>wQ.2 h⟩
   refine aa (ac E E (ax E E (ah E E (ar (o:=0) MN E (by kernel_rfl) E) (ak E E (aj MB E (k0.cell (i:=0) E)) ?_))))
   obtain⟨a27,p27,q27⟩:=gH b0 (i:=0) (by simp) .i64
   refine aq E E E (p27 _) (ak E E (aj MC E q27) (al (v:=U8 1) (r:=B s) E E E ((by rw[hcs];exact li)) ?_))
   refine bA (vs:=[(0,B s)]) E E Ga ?_
   obtain⟨g4,w4,hr4,l4,x4,k4⟩:=gI (w:=w2)
   refine aT E hr4 ?_
   obtain⟨p4,q4,w5,hp4,hs5,q5,k5,n5,d5⟩:=k4.stR ⟨_,_,_,rfl⟩ ⟨_,_,_,rfl⟩ (dm.mk (b:=s) (bm.nil _) (bm.nil _))
   refine au E E (hs5) ?_
   have x5:=x4.of_new q5 l4
   have hg2:=kk.lt
   have hgw:=x2.size
   have hne4:some g4≠some g:=fun h=>by have:=Option.some.inj h;omega
   have hne4':g≠g4:=by omega
   have hne24:some g2≠some g4:=fun h=>by have:=Option.some.inj h;omega
   have hw4:w.heap.size≤g4:=by omega
   have kk:=kk.ext x5
   have rr:=cv.ext rr x5
   have gg:=gg.trans (dM x5)
   refine ag (ab (af (aa (ac E E (ac E E (ax E E (ah E E (ar (o:=0) MN E (by kernel_rfl) E) ?_)))))))
   refine ak E E (aj MB E (x5.cell_some (k0.cell (i:=0) E))) ?_
   obtain⟨v36,p36,b36⟩:=gG (b0.ext x5) (lo:=1) (by simp) .i64
   refine cx E E E E E (p36 _) (ax E E (ah E E (ar (o:=0) MN E (by kernel_rfl) E) ?_))
   obtain⟨w6,hs6,q6,r6⟩:=eA.set (l':=l) rr b36 (tT (p36 w) lc)
   refine au E E (hs6) ?_
   have m6:=eA.kp rr q6
   have kk:=kk.other q6 hne
   have k5:=k5.other q6 hne4
   have gg:=gg.trans q6
   have rr:cv g (some l) w6:=r6
   have n5:=n5.kp m6
   have d5:=d5.kp m6
   refine ag (ab (af ?_))
   rcases hN:tj l with _|⟨m,t⟩
   rotate_left
   rcases hM:tj t with _|⟨m',t'⟩
   rotate_left
   rcases hV:rv s m m'
   ·have hR:(some (c::l)).bind jp=none:=by
     show jp (c::l)=none
     rw[t8 hc hN,←hs,hM]
     exact if_neg (by rw[hV];simp)
    refine aa (ac E E (am iZ E E ((ub (st:=some l) rr hl1 hN)) ?_))
    rintro v41 w41 ⟨g41,v0,rfl,h0,rs⟩
    have m41:=eA.kp rr g41
    have kk:=kk.other g41 hne
    have k5:=k5.other g41 hne4
    have gg:=gg.trans g41
    have rr:=rs
    have n5:=n5.kp m41
    have d5:=d5.kp m41
    refine ac E E (ao E E (bj) (ao E E bk (ah E E (ar (o:=1) Mw E (by kernel_rfl) E) ?_)))
    obtain⟨w7,hs7,q7,k7⟩:=k5.st1 1 gp h0.isS (by simp)
    refine au E E (hs7) ?_
    have m7:=k5.kpR n5.isS d5.isS q7
    have kk:=kk.other q7 hne24
    have rr:=eA.off rr m7 q7 hne4'
    have gg:=fq gg q7 hw4
    have n7:=h0.kp m7
    have d7:=d5.kp m7
    refine ag (ab (af (aa (ac E E ?_))))
    have hl2:∀l',some t=some l'→l'.length≤549755813888:=fun l' e=>by
     cases e
     have h1:=(gf hN).1
     have:=hl1 _ rfl
     rw[h1,List.length_append] at this
     omega
    refine am iZ E E ((ub (st:=some t) rr hl2 hM)) ?_
    rintro v47 w47 ⟨g47,v1,rfl,h1,rs⟩
    have m47:=eA.kp rr g47
    have kk:=kk.other g47 hne
    have k7:=k7.other g47 hne4
    have gg:=gg.trans g47
    have rr:=rs
    have n7:=n7.kp m47
    have d7:=d7.kp m47
    refine ac E E (ao E E (bj) (ao E E bk (ah E E (ar (o:=2) Mw E (by kernel_rfl) E) ?_)))
    obtain⟨w8,hs8,q8,k8⟩:=k7.st1 2 gp h1.isS (by simp)
    refine au E E (hs8) ?_
    have m8:=k7.kpR n7.isS d7.isS q8
    have kk:=kk.other q8 hne24
    have rr:=eA.off rr m8 q8 hne4'
    have gg:=fq gg q8 hw4
    have n8:=n7.kp m8
    have d8:=h1.kp m8
    obtain⟨A9,n9,c9,kr,br⟩:=id rr
    refine ag (ab (af (af (aa (ac E E (ax E E (ah E E (ar (o:=1) MN E (by kernel_rfl) E) ?_)))))))
    refine ak E E (aj MD E (kr.cell (i:=1) E)) (ac E E (ai E (ak E E (k8.ldR) (ai E ?_))))
    have hml:m.length≤137438953472:=by
     have:=hl1 _ rfl
     rw[(gf hN).1,List.length_append,jy,List.length_append,eU] at this
     omega
    have hml':m'.length≤137438953472:=by
     have:=hl2 _ rfl
     rw[(gf hM).1,List.length_append,jy,List.length_append,eU] at this
     omega
    refine am uU E E ((by have:=ph (b:=s) (dm.mk n8 d8) hml hml';rw[hV] at this;exact this)) ?_
    rintro v57 w57 ⟨x57,rfl⟩
    have rr:=cv.ext rr x57
    have kk:=kk.ext x57
    have gg:=gg.trans (dM x57)
    refine ai E (bt E E bu (aD E E E (ag (ab (bg E (af (aa ?_)))))))
    refine bA (vs:=[]) E E ff ?_
    refine ac E E (am dZ E E (d6 rr) ?_)
    rintro v62 w62 ⟨rfl,rs,g62⟩
    have m62:=eA.kp rr g62
    have gg:=gg.trans g62
    have kk:=kk.other g62 hne
    have rr:=rs
    obtain⟨p,q,w3,hp,hs3,q3,k3,n3,d3⟩:=kk.stR ⟨_,_,_,rfl⟩ ⟨_,_,_,rfl⟩ (dm.mk (b:=false) (bm.nil _) (bm.nil _))
    refine au E E (hs3) (ae E E (ag (ab (aw (ay ?_)))))
    refine cD E E E k3 Mw E dk ?_
    exact⟨_,rfl,fq gg q3 l2,by rw[hR];exact⟨_,rfl,⟨p,q,rfl,n3,d3⟩,eA.off rr (kk.kpR ⟨_,_,_,rfl⟩ ⟨_,_,_,rfl⟩ q3) q3 hne'⟩⟩
   ·have hR:(some (c::l)).bind jp=some ((s,m,m'),t'):=by
     show jp (c::l)=_
     rw[t8 hc hN,←hs,hM]
     exact if_pos hV
    refine aa (ac E E ?_)
    have hs41:=gg.size
    refine am iZ E E ((rN (st:=some l) rr hl1 hN)) ?_
    rintro v41 w41 ⟨g41,v0,rfl,h0,rs,f0⟩
    have m41:=eA.kp rr g41
    have kk:=kk.other g41 hne
    have k5:=k5.other g41 hne4
    have gg:=gg.trans g41
    have rr:=rs
    have n5:=n5.kp m41
    have d5:=d5.kp m41
    refine ac E E (ao E E (bj) (ao E E bk (ah E E (ar (o:=1) Mw E (by kernel_rfl) E) ?_)))
    obtain⟨w7,hs7,q7,k7⟩:=k5.st1 1 gp h0.isS (by simp)
    refine au E E (hs7) ?_
    have m7:=k5.kpR n5.isS d5.isS q7
    have kk:=kk.other q7 hne24
    have rr:=eA.off rr m7 q7 hne4'
    have gg:=fq gg q7 hw4
    have n7:=h0.kp m7
    have d7:=d5.kp m7
    refine ag (ab (af (aa (ac E E ?_))))
    have hs47:=gg.size
    have hl2:∀l',some t=some l'→l'.length≤549755813888:=fun l' e=>by
     cases e
     have h1:=(gf hN).1
     have:=hl1 _ rfl
     rw[h1,List.length_append] at this
     omega
    refine am iZ E E ((rN (st:=some t) rr hl2 hM)) ?_
    rintro v47 w47 ⟨g47,v1,rfl,h1,rs,f1⟩
    have m47:=eA.kp rr g47
    have kk:=kk.other g47 hne
    have k7:=k7.other g47 hne4
    have gg:=gg.trans g47
    have rr:=rs
    have n7:=n7.kp m47
    have d7:=d7.kp m47
    refine ac E E (ao E E (bj) (ao E E bk (ah E E (ar (o:=2) Mw E (by kernel_rfl) E) ?_)))
    obtain⟨w8,hs8,q8,k8⟩:=k7.st1 2 gp h1.isS (by simp)
    refine au E E (hs8) ?_
    have m8:=k7.kpR n7.isS d7.isS q8
    have kk:=kk.other q8 hne24
    have rr:=eA.off rr m8 q8 hne4'
    have gg:=fq gg q8 hw4
    have n8:=n7.kp m8
    have d8:=h1.kp m8
    obtain⟨A9,n9,c9,kr,br⟩:=id rr
    refine ag (ab (af (af (aa (ac E E (ax E E (ah E E (ar (o:=1) MN E (by kernel_rfl) E) ?_)))))))
    refine ak E E (aj MD E (kr.cell (i:=1) E)) (ac E E (ai E (ak E E (k8.ldR) (ai E ?_))))
    have hml:m.length≤137438953472:=by
     have:=hl1 _ rfl
     rw[(gf hN).1,List.length_append,jy,List.length_append,eU] at this
     omega
    have hml':m'.length≤137438953472:=by
     have:=hl2 _ rfl
     rw[(gf hM).1,List.length_append,jy,List.length_append,eU] at this
     omega
    refine am uU E E ((by have:=ph (b:=s) (dm.mk n8 d8) hml hml';rw[hV] at this;exact this)) ?_
    rintro v57 w57 ⟨x57,rfl⟩
    have rr:=cv.ext rr x57
    have kk:=kk.ext x57
    have gg:=gg.trans (dM x57)
    refine ai E (bt E E bu (aD E E E (ag (ab (cr E (aC (ab (af (aa (ak E E ((k8.ext x57).ldR) ?_))))))))))
    obtain⟨p,q,w3,hp,hs3,q3,k3,n3,d3⟩:=kk.stR ⟨_,_,_,rfl⟩ ⟨_,_,_,rfl⟩ ((dm.mk n8 d8).ext x57)
    refine au E E (hs3) (ae E E (ag (ab (aw ?_))))
    refine cD E E E k3 Mw E dk ?_
    exact⟨_,rfl,fq gg q3 l2,by
     rw[hR]
     obtain⟨ec,ed⟩:=wO hp
     exact⟨p,q,rfl,n3,d3,eA.off rr (kk.kpR ⟨_,_,_,rfl⟩ ⟨_,_,_,rfl⟩ q3) q3 hne',ec▸(fun k hk=>Nat.le_trans hs41 (f0 k hk)),ed▸(fun k hk=>Nat.le_trans hs47 (f1 k hk))⟩⟩
   ·have hR:(some (c::l)).bind jp=none:=Df hN
    refine aa (ac E E (am iZ E E ((ua (st:=some l) rr hl1 hN)) ?_))
    rintro v41 w41 ⟨g41,rfl,rs⟩
    have m41:=eA.kp rr g41
    have kk:=kk.other g41 hne
    have k5:=k5.other g41 hne4
    have gg:=gg.trans g41
    have rr:=rs
    have n5:=n5.kp m41
    have d5:=d5.kp m41
    have h0:=bm.nil w41
    refine ac E E (ao E E (bj) (ao E E bk (ah E E (ar (o:=1) Mw E (by kernel_rfl) E) ?_)))
    obtain⟨w7,hs7,q7,k7⟩:=k5.st1 1 gp h0.isS (by simp)
    refine au E E (hs7) ?_
    have m7:=k5.kpR n5.isS d5.isS q7
    have kk:=kk.other q7 hne24
    have rr:=eA.off rr m7 q7 hne4'
    have gg:=fq gg q7 hw4
    have n7:=h0.kp m7
    have d7:=d5.kp m7
    refine ag (ab (af (aa (ac rfl rfl (am iZ rfl rfl ((ua (st:=none) rr (fun _ e=>by cases e) rfl)) ?_)))))
    rintro v47 w47 ⟨g47,rfl,rs⟩
    have m47:=eA.kp rr g47
    have kk:=kk.other g47 hne
    have k7:=k7.other g47 hne4
    have gg:=gg.trans g47
    have rr:=rs
    have n7:=n7.kp m47
    have d7:=d7.kp m47
    have h1:=bm.nil w47
    refine ac E E (ao E E (bj) (ao E E bk (ah E E (ar (o:=2) Mw E (by kernel_rfl) E) ?_)))
    obtain⟨w8,hs8,q8,k8⟩:=k7.st1 2 gp h1.isS (by simp)
    refine au E E (hs8) ?_
    have m8:=k7.kpR n7.isS d7.isS q8
    have kk:=kk.other q8 hne24
    have rr:=eA.off rr m8 q8 hne4'
    have gg:=fq gg q8 hw4
    have n8:=n7.kp m8
    have d8:=h1.kp m8
    obtain⟨A9,n9,c9,kr,br⟩:=id rr
    refine ag (ab (af (af (aa (ac E E (ax E E (ah E E (ar (o:=1) MN E (by kernel_rfl) E) ?_)))))))
    refine ak E E (aj MD E (kr.cell (i:=1) E)) (ac E E (an E E E (an E E E (an E E E (ap E E E ?_)))))
    refine ag (ab (bg E (af (aa ?_))))
    refine bA (vs:=[]) E E ff ?_
    refine ac E E (am dZ E E (d6 rr) ?_)
    rintro v62 w62 ⟨rfl,rs,g62⟩
    have m62:=eA.kp rr g62
    have gg:=gg.trans g62
    have kk:=kk.other g62 hne
    have rr:=rs
    obtain⟨p,q,w3,hp,hs3,q3,k3,n3,d3⟩:=kk.stR ⟨_,_,_,rfl⟩ ⟨_,_,_,rfl⟩ (dm.mk (b:=false) (bm.nil _) (bm.nil _))
    refine au E E (hs3) (ae E E (ag (ab (aw (ay ?_)))))
    refine cD E E E k3 Mw E dk ?_
    exact⟨_,rfl,fq gg q3 l2,by rw[hR];exact⟨_,rfl,⟨p,q,rfl,n3,d3⟩,eA.off rr (kk.kpR ⟨_,_,_,rfl⟩ ⟨_,_,_,rfl⟩ q3) q3 hne'⟩⟩
   ·have hR:(some (c::l)).bind jp=none:=by
     show jp (c::l)=none
     rw[t8 hc hN,←hs,hM];rfl
    refine aa (ac E E (am iZ E E ((ub (st:=some l) rr hl1 hN)) ?_))
    rintro v41 w41 ⟨g41,v0,rfl,h0,rs⟩
    have m41:=eA.kp rr g41
    have kk:=kk.other g41 hne
    have k5:=k5.other g41 hne4
    have gg:=gg.trans g41
    have rr:=rs
    have n5:=n5.kp m41
    have d5:=d5.kp m41
    refine ac E E (ao E E (bj) (ao E E bk (ah E E (ar (o:=1) Mw E (by kernel_rfl) E) ?_)))
    obtain⟨w7,hs7,q7,k7⟩:=k5.st1 1 gp h0.isS (by simp)
    refine au E E (hs7) ?_
    have m7:=k5.kpR n5.isS d5.isS q7
    have kk:=kk.other q7 hne24
    have rr:=eA.off rr m7 q7 hne4'
    have gg:=fq gg q7 hw4
    have n7:=h0.kp m7
    have d7:=d5.kp m7
    refine ag (ab (af (aa (ac E E ?_))))
    have hl2:∀l',some t=some l'→l'.length≤549755813888:=fun l' e=>by
     cases e
     have h1:=(gf hN).1
     have:=hl1 _ rfl
     rw[h1,List.length_append] at this
     omega
    refine am iZ E E ((ua (st:=some t) rr hl2 hM)) ?_
    rintro v47 w47 ⟨g47,rfl,rs⟩
    have m47:=eA.kp rr g47
    have kk:=kk.other g47 hne
    have k7:=k7.other g47 hne4
    have gg:=gg.trans g47
    have rr:=rs
    have n7:=n7.kp m47
    have d7:=d7.kp m47
    have h1:=bm.nil w47
    refine ac E E (ao E E (bj) (ao E E bk (ah E E (ar (o:=2) Mw E (by kernel_rfl) E) ?_)))
    obtain⟨w8,hs8,q8,k8⟩:=k7.st1 2 gp h1.isS (by simp)
    refine au E E (hs8) ?_
    have m8:=k7.kpR n7.isS d7.isS q8
    have kk:=kk.other q8 hne24
    have rr:=eA.off rr m8 q8 hne4'
    have gg:=fq gg q8 hw4
    have n8:=n7.kp m8
    have d8:=h1.kp m8
    obtain⟨A9,n9,c9,kr,br⟩:=id rr
    refine ag (ab (af (af (aa (ac E E (ax E E (ah E E (ar (o:=1) MN E (by kernel_rfl) E) ?_)))))))
    refine ak E E (aj MD E (kr.cell (i:=1) E)) (ac E E (an E E E (an E E E (an E E E (ap E E E ?_)))))
    refine ag (ab (bg E (af (aa ?_))))
    refine bA (vs:=[]) E E ff ?_
    refine ac E E (am dZ E E (d6 rr) ?_)
    rintro v62 w62 ⟨rfl,rs,g62⟩
    have m62:=eA.kp rr g62
    have gg:=gg.trans g62
    have kk:=kk.other g62 hne
    have rr:=rs
    obtain⟨p,q,w3,hp,hs3,q3,k3,n3,d3⟩:=kk.stR ⟨_,_,_,rfl⟩ ⟨_,_,_,rfl⟩ (dm.mk (b:=false) (bm.nil _) (bm.nil _))
    refine au E E (hs3) (ae E E (ag (ab (aw (ay ?_)))))
    refine cD E E E k3 Mw E dk ?_
    exact⟨_,rfl,fq gg q3 l2,by rw[hR];exact⟨_,rfl,⟨p,q,rfl,n3,d3⟩,eA.off rr (kk.kpR ⟨_,_,_,rfl⟩ ⟨_,_,_,rfl⟩ q3) q3 hne'⟩⟩
end Go.Rl
namespace Go.Rl
open Go.RowKit Go.Proofs
theorem EI {l a t:List UInt8} (h:oA l=some (a,t)):l=gY a++t:=by
 unfold oA at h
 cases hu:eW l with
 |none=>rw[hu] at h;cases h
 |some p=>
  obtain⟨n,u⟩:=p
  rw[hu] at h
  have h:(if n≤u.length then some (u.take n,u.drop n) else none)=some (a,t):=h
  split at h
  ·simp only[Option.some.injEq,Prod.mk.injEq] at h
   have e:=(f9 hu).1
   have hl:(u.take n).length=n:=by rw[List.length_take];omega
   rw[e,←h.1,←h.2,gY,hl,List.append_assoc,List.take_append_drop]
  ·cases h
theorem EJ {l t:List UInt8} {b:Bool} {n m:List UInt32} (h:jp l=some ((b,n,m),t)):l=oH b n m++t∧rv b n m=true∧4*(n.length+m.length)≤l.length:=by
 cases l with
 |nil=>cases h
 |cons c l=>
  by_cases hc:1<c.toNat
  ·rw[Ad hc] at h;cases h
  ·cases hN:tj l with
   |none=>rw[Df hN] at h;cases h
   |some p=>
    obtain⟨n',u⟩:=p
    rw[t8 hc hN] at h
    cases hM:tj u with
    |none=>rw[hM] at h;cases h
    |some q=>
     obtain⟨m',u'⟩:=q
     rw[hM] at h
     have h:(if rv (decide (c.toNat=1)) n' m'=true then some ((decide (c.toNat=1),n',m'),u') else none)=some ((b,n,m),t):=h
     split at h
     ·rename_i hv
      simp only[Option.some.injEq,Prod.mk.injEq] at h
      obtain⟨⟨rfl,rfl,rfl⟩,rfl⟩:=h
      have hcs:c=z9 (decide (c.toNat=1)):=by
       by_cases h1:c.toNat=1
       ·rw[decide_eq_true h1,wQ.1 h1];rfl
       ·rw[decide_eq_false h1]
        exact UInt8.toNat_inj.1 (show c.toNat=(0:UInt8).toNat by rw[show(0:UInt8).toNat=0 from rfl];omega)
      have e:c::l=oH (decide (c.toNat=1)) n' m'++u':=by
       rw[oH,←hcs,(gf hN).1,(gf hM).1]
       simp
      refine⟨e,hv,?_⟩
      rw[e]
      simp only[oH,jy,List.length_append,eU]
      omega
     ·cases h
theorem HR {b:Bool} {n m:List UInt32} (h:rv b n m=true):lb (val n)=n∧lb (val m)=m:=by
 obtain⟨_,h2,h3⟩:=of_decide_eq_true h
 constructor
 ·obtain⟨x,hx⟩:∃x,x=val n/Nat.gcd (val n) (val (ud m)):=⟨_,rfl⟩
  rw[←hx] at h2
  rw[h2,bW]
 ·unfold yK at h3
  split at h3
  ·rw[h3];rfl
  ·obtain⟨x,hx⟩:∃x,x=val (ud m)/Nat.gcd (val n) (val (ud m)):=⟨_,rfl⟩
   rw[←hx] at h3
   rw[h3,bW]
theorem HS {b:Bool} {n m:List UInt32} (h:rv b n m=true) (hn:n.length<18446744073709551616) (hm:m.length<18446744073709551616) (t:List UInt8):jp (oH b n m++t)=some ((b,n,m),t):=by
 have hs:¬1<(z9 b).toNat:=by cases b<;>decide
 have hd:decide ((z9 b).toNat=1)=b:=by cases b<;>decide
 have e:oH b n m++t=z9 b::(jy n++(jy m++t)):=by simp[oH]
 rw[e,t8 hs (BP hn (HR h).1 _),hd,BP hm (HR h).2]
 exact if_pos h
def Few (st:Option (List UInt8)):Prop:=∀l,st=some l→l.length≤549755813888
section
variable {w:World} {g:Nat} {st:Option (List UInt8)}
theorem Kx (hr:cV g st w) (h:st.bind eW=none):Calls Tryz.prog 89 #[.pointer (some ⟨g,0,none⟩)] w (bE fun r w'=>w.grownBy w' (some g)∧r=.tuple #[bF 0,I 5]∧cV g none w'):=by
 have:=qg hr
 rw[h] at this
 exact this
theorem HT {n:Nat} {t:List UInt8} (hr:cV g st w) (h:st.bind eW=some (n,t)):Calls Tryz.prog 89 #[.pointer (some ⟨g,0,none⟩)] w (bE fun r w'=>w.grownBy w' (some g)∧r=.tuple #[bF (UInt64.ofNat n),I 0]∧cV g (some t) w'):=by
 have:=qg hr
 rw[h] at this
 exact this
theorem L6 (hr:cV g st w) (h:st.bind eW=none):Calls Tryz.prog 158 #[.pointer (some ⟨g,0,none⟩)] w (bE fun r w'=>w.grownBy w' (some g)∧r=.tuple #[I 0,I 5]∧cV g none w'):=by
 have:=yQ hr
 rw[h] at this
 exact this
theorem L7 {n:Nat} {t:List UInt8} (hr:cV g st w) (h:st.bind eW=some (n,t)):Calls Tryz.prog 158 #[.pointer (some ⟨g,0,none⟩)] w (bE fun r w'=>w.grownBy w' (some g)∧r=.tuple #[I (uz n),I 0]∧cV g (some t) w'):=by
 have:=yQ hr
 rw[h] at this
 exact this
end
end Go.Rl
namespace Go.Rl
def jm (x:UInt32) (n:Nat):UInt32:=(x>>>UInt32.ofNat n)|||(x<<<UInt32.ofNat (32-n))
def kc:List UInt32:=[0x428a2f98,0x71374491,0xb5c0fbcf,0xe9b5dba5,0x3956c25b,0x59f111f1,0x923f82a4,0xab1c5ed5,0xd807aa98,0x12835b01,0x243185be,0x550c7dc3,0x72be5d74,0x80deb1fe,0x9bdc06a7,0xc19bf174,0xe49b69c1,0xefbe4786,0x0fc19dc6,0x240ca1cc,0x2de92c6f,0x4a7484aa,0x5cb0a9dc,0x76f988da,0x983e5152,0xa831c66d,0xb00327c8,0xbf597fc7,0xc6e00bf3,0xd5a79147,0x06ca6351,0x14292967,0x27b70a85,0x2e1b2138,0x4d2c6dfc,0x53380d13,0x650a7354,0x766a0abb,0x81c2c92e,0x92722c85,0xa2bfe8a1,0xa81a664b,0xc24b8b70,0xc76c51a3,0xd192e819,0xd6990624,0xf40e3585,0x106aa070,0x19a4c116,0x1e376c08,0x2748774c,0x34b0bcb5,0x391c0cb3,0x4ed8aa4a,0x5b9cca4f,0x682e6ff3,0x748f82ee,0x78a5636f,0x84c87814,0x8cc70208,0x90befffa,0xa4506ceb,0xbef9a3f7,0xc67178f2]
def iv:List UInt32:=[0x6a09e667,0xbb67ae85,0x3c6ef372,0xa54ff53a,0x510e527f,0x9b05688c,0x1f83d9ab,0x5be0cd19]
def tm (b:List UInt8) (t:Nat):UInt32:=((((b.getD (4*t) 0).toUInt32<<<UInt32.ofNat 24)|||((b.getD (4*t+1) 0).toUInt32<<<UInt32.ofNat 16))|||((b.getD (4*t+2) 0).toUInt32<<<UInt32.ofNat 8))|||(b.getD (4*t+3) 0).toUInt32
def pj (l:List UInt32):UInt32:=
 let t:=l.length
 let x:=l.getD (t-15) 0
 let y:=l.getD (t-2) 0
 l.getD (t-16) 0+(jm x 7^^^jm x 18^^^x>>>UInt32.ofNat 3)+l.getD (t-7) 0+(jm y 17^^^jm y 19^^^y>>>UInt32.ofNat 10)
def jR (b:List UInt8) (k:Nat):List UInt32:=(List.range k).map (tm b)
def bJ (b:List UInt8):Nat→List UInt32
 |0=>jR b 16
 |k+1=>bJ b k++[pj (bJ b k)]
theorem mU (b:List UInt8):∀k,(bJ b k).length=16+k
 |0=>by simp[bJ,jR]
 |k+1=>by simp[bJ,mU b k];omega
def t1 (s:List UInt32) (k w:UInt32):UInt32:=
 let e:=s.getD 4 0
 s.getD 7 0+(jm e 6^^^jm e 11^^^jm e 25)+(e&&&s.getD 5 0^^^ ~~~e&&&s.getD 6 0)+k+w
def t2 (s:List UInt32):UInt32:=
 let a:=s.getD 0 0
 (jm a 2^^^jm a 13^^^jm a 22)+(a&&&s.getD 1 0^^^a&&&s.getD 2 0^^^s.getD 1 0&&&s.getD 2 0)
def rnd (s:List UInt32) (k w:UInt32):List UInt32:=[t1 s k w+t2 s,s.getD 0 0,s.getD 1 0,s.getD 2 0,s.getD 3 0+t1 s k w,s.getD 4 0,s.getD 5 0,s.getD 6 0]
def er (b:List UInt8) (s:List UInt32):Nat→List UInt32
 |0=>s
 |i+1=>rnd (er b s i) (kc.getD i 0) ((bJ b 48).getD i 0)
theorem iG (b:List UInt8) (s:List UInt32) (hs:s.length=8):∀i,(er b s i).length=8
 |0=>hs
 |_+1=>rfl
def yh (s:List UInt32) (b:List UInt8):List UInt32:=List.zipWith (· + ·) s (er b s 64)
theorem BS (s:List UInt32) (b:List UInt8) (hs:s.length=8):(yh s b).length=8:=by
 simp[yh,hs,iG b s hs]
def yU (m:List UInt8):Nat→List UInt32
 |0=>iv
 |k+1=>yh (yU m k) ((m.drop (64*k)).take 64)
theorem qo (m:List UInt8):∀k,(yU m k).length=8
 |0=>rfl
 |k+1=>BS _ _ (qo m k)
theorem rO (m x:List UInt8):∀k,64*k≤m.length→yU (m++x) k=yU m k
 |0,_=>rfl
 |k+1,h=>by
  have h0:64*k≤m.length:=by omega
  have h1:64≤(m.drop (64*k)).length:=by simp;omega
  rw[yU,yU,rO m x k h0,List.drop_append_of_le_length h0,List.take_append_of_le_length h1]
def sh (m:List UInt8):List UInt32:=yU m (m.length/64)
theorem HU (m:List UInt8):(sh m).length=8:=qo m _
theorem Af (p t:List UInt8) (hp:p.length%64=0) (ht:t.length<64):sh (p++t)=sh p:=by
 have:(p++t).length/64=p.length/64:=by simp only[List.length_append];omega
 unfold sh
 rw[this,rO p t _ (by omega)]
theorem HV (p b:List UInt8) (hp:p.length%64=0) (hb:b.length=64):sh (p++b)=yh (sh p) b:=by
 have h1:(p++b).length/64=p.length/64+1:=by simp only[List.length_append];omega
 unfold sh
 rw[h1,yU,rO p b _ (by omega)]
 have h2:64*(p.length/64)=p.length:=by omega
 rw[h2,List.drop_left,←hb,List.take_length]
def yf (x:UInt32):List UInt8:=[(x>>>UInt32.ofNat 24).toUInt8,(x>>>UInt32.ofNat 16).toUInt8,(x>>>UInt32.ofNat 8).toUInt8,x.toUInt8]
def BT (n:UInt64):List UInt8:=(List.range 8).map fun i=>(n>>>UInt64.ofNat (56-8*i)).toUInt8
def iH (n:Nat):Nat:=(119-n%64)%64
def fl (m:List UInt8):List UInt8:=m++[128]++List.replicate (iH m.length) 0++BT (UInt64.ofNat m.length*8)
theorem Dj (m:List UInt8):(fl m).length%64=0:=by
 simp only[fl,iH,BT,List.length_append,List.length_cons,List.length_nil,List.length_replicate,List.length_map,List.length_range];omega
def j3 (m:List UInt8):List UInt8:=(sh (fl m)).flatMap yf
end Go.Rl
namespace Go.Rl
open Go.RowKit
abbrev ft:=Bool×List UInt32×List UInt32
def qY (n:Int):Dt:=.int .i64 n
def jh (q:ft):Dt:=.st [.bool q.1,nx q.2.1,nx q.2.2]
structure wX where
 kd:Int
 fr:Int
 ou:Int
 kh:Int
 kw:Int
 sr:Int
 pd:Int
 ws:List ft
 bs:List ft
structure HW where
 inp:List Int
 lays:List wX
theorem wX.eq_iff {a b:wX}:a=b↔a.kd=b.kd∧a.fr=b.fr∧a.ou=b.ou∧a.kh=b.kh∧a.kw=b.kw∧a.sr=b.sr∧a.pd=b.pd∧a.ws=b.ws∧a.bs=b.bs:=by
 constructor
 ·rintro rfl;exact⟨rfl,rfl,rfl,rfl,rfl,rfl,rfl,rfl,rfl⟩
 ·rintro⟨h1,h2,h3,h4,h5,h6,h7,h8,h9⟩
  cases a;cases b;simp_all
theorem HW.eq_iff {a b:HW}:a=b↔a.inp=b.inp∧a.lays=b.lays:=by
 constructor
 ·rintro rfl;exact⟨rfl,rfl⟩
 ·rintro⟨h1,h2⟩
  cases a;cases b;simp_all
instance:DecidableEq wX:=fun _ _=>decidable_of_iff _ wX.eq_iff.symm
instance:DecidableEq HW:=fun _ _=>decidable_of_iff _ HW.eq_iff.symm
def Ky (l:List Int):Dt:=.sl (l.map qY)
def lR (n:Int):Prop:= -9223372036854775808≤n∧n≤9223372036854775807
def du (n:Int):List UInt8:=uv (CO n)
def gD (q:ft):List UInt8:=oH q.1 q.2.1 q.2.2
def jK (l:List UInt8):Option (Int×List UInt8):=(eW l).map fun p=>(uz p.1,p.2)
def bT {α:Type} (f:List UInt8→Option (α×List UInt8)):Nat→List UInt8→Option (List α×List UInt8)
 |0,l=>some ([],l)
 |n+1,l=>(f l).bind fun p=>(bT f n p.2).map fun q=>(p.1::q.1,q.2)
def dq {α:Type} (f:List UInt8→Option (α×List UInt8)) (l:List UInt8):Option (List α×List UInt8):=(eW l).bind fun p=>bT f p.1 p.2
def L8:List UInt8→Option (List ft×List UInt8):=dq jp
def rdL (l:List UInt8):Option (wX×List UInt8):=
 (jK l).bind fun a=>(jK a.2).bind fun b=>(jK b.2).bind fun c=>(jK c.2).bind fun d=>(jK d.2).bind fun e=>(jK e.2).bind fun f=>(jK f.2).bind fun g=>
   (L8 g.2).bind fun x=>(L8 x.2).bind fun y=>some (⟨a.1,b.1,c.1,d.1,e.1,f.1,g.1,x.1,y.1⟩,y.2)
def rdM (l:List UInt8):Option (HW×List UInt8):=(dq jK l).bind fun a=>(dq rdL a.2).bind fun b=>some (⟨a.1,b.1⟩,b.2)
theorem nK {n:Int} (h:lR n) (t:List UInt8):jK (du n++t)=some (n,t):=by
 unfold jK du
 rw[rt (CP h.1 h.2)]
 simp[KX]
theorem wY {α:Type} {f:List UInt8→Option (α×List UInt8)} {e:α→List UInt8}:∀(l:List α) (t:List UInt8),(∀x∈l,∀t,f (e x++t)=some (x,t))→bT f l.length (l.flatMap e++t)=some (l,t)
 |[],t,_=>rfl
 |x::l,t,h=>by
  simp only[List.flatMap_cons,List.append_assoc,List.length_cons,bT]
  rw[h x (by simp)]
  simp only[Option.bind_some]
  rw[wY l t fun y hy=>h y (by simp[hy])]
  rfl
theorem rP {α:Type} {f:List UInt8→Option (α×List UInt8)} {e:α→List UInt8} {l:List α} (hl:l.length<18446744073709551616) (h:∀x∈l,∀t,f (e x++t)=some (x,t)) (t:List UInt8):dq f (uv l.length++l.flatMap e++t)=some (l,t):=by
 unfold dq
 rw[List.append_assoc,rt hl]
 exact wY l t h
def L9 (q:ft):Prop:=rv q.1 q.2.1 q.2.2=true∧q.2.1.length<18446744073709551616∧q.2.2.length<18446744073709551616
theorem Ag {q:ft} (h:L9 q) (t:List UInt8):jp (gD q++t)=some (q,t):=HS h.1 h.2.1 h.2.2 t
end Go.Rl
namespace Go.Rl
open Go.RowKit
section
variable {w:World} {cs:List Value}
theorem BU (n:Int):(qY n).size=1:=rfl
theorem Jz {n:Int} (h:Rp w (qY n) cs):cs=[I n]:=by simp only[qY,Rp] at h;exact h
theorem mV {q:ft} (h:Rp w (jh q) cs):∃x y,cs=[B q.1,x,y]∧bm q.2.1 x w∧bm q.2.2 y w:=by
 simp only[jh,Rp,bw] at h
 obtain⟨_,_,rfl,rfl,_,_,rfl,h1,_,_,rfl,h2,rfl⟩:=h
 obtain⟨x,rfl,hx,_⟩:=Rp.isSlice h1
 obtain⟨y,rfl,hy,_⟩:=Rp.isSlice h2
 exact⟨x,y,rfl,Rp.wds.1 hx,Rp.wds.1 hy⟩
end
end Go.Rl
namespace Go.Rl
open Go.RowKit
section
variable {α β:Type} {f:List UInt8→Option (α×List UInt8)} {st s1 s2 so:Option (List UInt8)} {a:α}
def fR (f:List UInt8→Option (α×List UInt8)) (st:Option (List UInt8)) (a:α) (s1:Option (List UInt8)):Prop:=st.bind f=s1.map fun t=>(a,t)
theorem fR.some {t:List UInt8} (h:fR f st a (some t)):∃l,st=.some l∧f l=.some (a,t):=by
 cases st with
 |none=>cases h
 |some l=>exact⟨l,rfl,h⟩
def Le (f:List UInt8→Option (α×List UInt8)):Prop:=∀l a t,f l=some (a,t)→t.length≤l.length
def Lt (f:List UInt8→Option (α×List UInt8)):Prop:=∀l a t,f l=some (a,t)→t.length+1≤l.length
theorem Lt.le (h:Lt f):Le f:=fun l a t e=>by have:=h l a t e;omega
def uc (n:Nat) (st:Option (List UInt8)):Prop:=∀l,st=some l→l.length≤n
theorem fR.atM {n:Nat} (h:fR f st a s1) (hf:Le f) (hn:uc n st):uc n s1:=fun t e=>by
 subst e
 obtain⟨l,h1,h2⟩:=h.some
 exact Nat.le_trans (hf l a t h2) (hn l h1)
theorem rQ {N:Nat}:so.bind (bT f N)=so.bind (fun l=>(bT f N l).map fun p=>([]++p.1,p.2)):=by
 cases so with
 |none=>rfl
 |some l=>simp
theorem qp {X:Option (List α×List UInt8)} {k:Nat} {done:List α} (hR:X=so.bind (fun l=>(bT f (k+1) l).map fun p=>(done++p.1,p.2))) (hq:fR f so a s2):
 X=s2.bind (fun l=>(bT f k l).map fun p=>((done++[a])++p.1,p.2)):=by
 rw[hR]
 cases so with
 |none=>
  cases s2 with
  |none=>rfl
  |some t=>cases hq
 |some l=>
  have hq:f l=s2.map fun t=>(a,t):=hq
  show(bT f (k+1) l).map _=_
  simp only[bT]
  rw[hq]
  cases s2 with
  |none=>rfl
  |some t=>
   simp only[Option.map_some,Option.bind_some,Option.map_map]
   cases bT f k t<;>simp
theorem Gb {X:Option (List α×List UInt8)} {done:List α} (hR:X=so.bind (fun l=>(bT f 0 l).map fun p=>(done++p.1,p.2))):X=so.map fun t=>(done,t):=by
 rw[hR]
 cases so with
 |none=>rfl
 |some l=>simp[bT]
theorem yV (hf:Le f):∀(n:Nat) (l:List UInt8) (a:List α) (t:List UInt8),bT f n l=some (a,t)→t.length≤l.length
 |0,l,a,t,h=>by simp only[bT,Option.some.injEq,Prod.mk.injEq] at h;rw[←h.2];exact Nat.le_refl _
 |n+1,l,a,t,h=>by
  simp only[bT] at h
  obtain⟨p,h1,h2⟩:=Option.bind_eq_some_iff.1 h
  obtain⟨q,h3,h4⟩:=Option.map_eq_some_iff.1 h2
  simp only[Prod.mk.injEq] at h4
  have:=yV hf n p.2 q.1 q.2 h3
  have:=hf l p.1 p.2 h1
  rw[←h4.2]
  omega
theorem lS:Lt eW:=fun l a t h=>by
 have h1:=(f9 h).1
 have h2:=ro a
 rw[h1,List.length_append]
 omega
theorem eZ:Lt jK:=fun l a t h=>by
 unfold jK at h
 obtain⟨p,h1,h2⟩:=Option.map_eq_some_iff.1 h
 have:=lS l p.1 p.2 h1
 simp only[Prod.mk.injEq] at h2
 rw[←h2.2]
 exact this
theorem ue:Lt jp:=fun l q t h=>by
 obtain⟨b,n,m⟩:=q
 have:=(EJ h).1
 rw[this,List.length_append]
 have h1:1≤(oH b n m).length:=by simp only[oH,List.length_append,List.length_cons,List.length_nil];omega
 omega
theorem Ah {st:Option (List UInt8)} {n:Int} {t:List UInt8} (h:fR jK st n (some t)):lR n:=by
 obtain⟨l,_,h⟩:=h.some
 unfold jK at h
 obtain⟨p,h1,h2⟩:=Option.map_eq_some_iff.1 h
 have:=(f9 h1).2
 simp only[Prod.mk.injEq] at h2
 rw[←h2.1]
 unfold uz lR
 split<;>omega
end
end Go.Rl
namespace Go.Rl
open Go.RowKit
structure cg where
 kd:Int
 ix:Int
 lo:Int
 hi:Int
 co:ft
structure dN where
 un:Int
 up:Bool
 va:ft
 pf:List cg
structure bU where
 kd:Int
 ix:Int
 at_:ft
inductive aY where
 |mk (lems:List dN) (split:bU) (kids:List aY) (empty:Bool) (pf:List cg)
def Ld:ft:=(false,[],[])
def lC:bU:=⟨0,0,Ld⟩
def aY.lems:aY→List dN|.mk l _ _ _ _=>l
def aY.split:aY→bU|.mk _ s _ _ _=>s
def aY.kids:aY→List aY|.mk _ _ k _ _=>k
def aY.empty:aY→Bool|.mk _ _ _ e _=>e
def aY.pf:aY→List cg|.mk _ _ _ _ p=>p
def bP (m:cg):Dt:=.st [.st [qY m.kd,qY m.ix,qY m.lo,qY m.hi],jh m.co]
def il (l:List cg):Dt:=.sl (l.map bP)
def dc (l:dN):Dt:=.st [qY l.un,.bool l.up,jh l.va,il l.pf]
def dC (d:bU):Dt:=.st [qY d.kd,qY d.ix,jh d.at_]
mutual
def bG:aY→Dt
 |.mk lems sp kids em pf=>.st [.sl (lems.map dc),dC sp,.sl (Ai kids),.bool em,il pf]
def Ai:List aY→List Dt
 |[]=>[]
 |n::l=>bG n::Ai l
end
theorem lu:∀l:List aY,Ai l=l.map bG
 |[]=>rfl
 |n::l=>by simp only[Ai,List.map_cons,lu l]
def fS (d:bU):List UInt8:=du d.kd++du d.ix++gD d.at_
def fp (m:cg):List UInt8:=du m.kd++du m.ix++du m.lo++du m.hi++gD m.co
def ji (l:List cg):List UInt8:=uv l.length++l.flatMap fp
def wZ (b:Bool):List UInt8:=if b=true then[1] else[0]
def ei (l:dN):List UInt8:=du l.un++wZ l.up++gD l.va++ji l.pf
def eJ (l:List dN):List UInt8:=uv l.length++l.flatMap ei
mutual
def dH:aY→List UInt8
 |.mk lems _ [] em pf=>wZ em++eJ lems++ji pf
 |.mk lems sp (k::ks) _ _=>[2]++eJ lems++fS sp++xa (k::ks)
def xa:List aY→List UInt8
 |[]=>[]
 |n::l=>dH n++xa l
end
theorem xb:∀l:List aY,xa l=l.flatMap dH
 |[]=>rfl
 |n::l=>by simp only[xa,List.flatMap_cons,xb l]
def ki (most:Nat) (l:List UInt8):Option (Nat×List UInt8):=(eW l).bind fun p=>if p.1≤most then some p else none
def oB (l:List UInt8):Option (bU×List UInt8):=(jK l).bind fun a=>(jK a.2).bind fun b=>(jp b.2).bind fun c=>some (⟨a.1,b.1,c.1⟩,c.2)
def rR (l:List UInt8):Option (cg×List UInt8):=(jK l).bind fun a=>(jK a.2).bind fun b=>(jK b.2).bind fun c=>(jK c.2).bind fun d=>(jp d.2).bind fun e=>some (⟨a.1,b.1,c.1,d.1,e.1⟩,e.2)
def BV:List UInt8→Option (List cg×List UInt8):=dq rR
def bV (n:Nat):Bool:=decide (n=1)
def nN (l:List UInt8):Option (dN×List UInt8):=(jK l).bind fun a=>(ki 1 a.2).bind fun b=>(jp b.2).bind fun c=>(BV c.2).bind fun d=>some (⟨a.1,bV b.1,c.1,d.1⟩,d.2)
def jq:List UInt8→Option (List dN×List UInt8):=dq nN
def qQ:Nat→List UInt8→Option (aY×List UInt8)
 |0,_=>none
 |n+1,l=>(ki 2 l).bind fun a=>(jq a.2).bind fun b=>
   if a.1<2 then(BV b.2).bind fun c=>some (.mk b.1 lC [] (decide (a.1=1)) c.1,c.2)
   else(oB b.2).bind fun c=>(qQ n c.2).bind fun d=>(qQ n d.2).bind fun e=>some (.mk b.1 c.1 [d.1,e.1] false [],e.2)
def im (l:List UInt8):Option (aY×List UInt8):=qQ l.length l
section
variable {α β:Type}
theorem Le.bind {f:List UInt8→Option (α×List UInt8)} {g:α×List UInt8→Option (β×List UInt8)} (hf:Le f) (hg:∀p b t,g p=some (b,t)→t.length≤p.2.length):Le (fun l=>(f l).bind g):=fun l b t h=>by
 obtain⟨p,h1,h2⟩:=Option.bind_eq_some_iff.1 h
 exact Nat.le_trans (hg p b t h2) (hf l p.1 p.2 h1)
theorem Lt.bind {f:List UInt8→Option (α×List UInt8)} {g:α×List UInt8→Option (β×List UInt8)} (hf:Lt f) (hg:∀p b t,g p=some (b,t)→t.length≤p.2.length):Lt (fun l=>(f l).bind g):=fun l b t h=>by
 obtain⟨p,h1,h2⟩:=Option.bind_eq_some_iff.1 h
 have:=hg p b t h2
 have:=hf l p.1 p.2 h1
 omega
end
theorem gy {α β:Type} {f:List UInt8→Option (α×List UInt8)} (hf:Le f) {l:List UInt8} {g:α×List UInt8→Option (β×List UInt8)} {b:β} {t:List UInt8} (h:(f l).bind g=some (b,t)) (hg:∀p b t,g p=some (b,t)→t.length≤p.2.length):t.length≤l.length:=Le.bind hf hg l b t h
theorem tn {β:Type} {b b':β} {t t':List UInt8} (h:some (b',t')=some (b,t)):t.length≤t'.length:=by
 simp only[Option.some.injEq,Prod.mk.injEq] at h
 rw[h.2]
 exact Nat.le_refl _
theorem rS (k:Nat):Lt (ki k):=fun l a t h=>by
 unfold ki at h
 obtain⟨p,h1,h2⟩:=Option.bind_eq_some_iff.1 h
 split at h2
 ·simp only[Option.some.injEq] at h2
  subst h2
  exact lS l _ _ h1
 ·cases h2
theorem nO:Lt oB:=Lt.bind eZ fun _ _ _ h=>gy eZ.le h fun _ _ _ h=>gy ue.le h fun _ _ _ h=>tn h
theorem Aj:Lt rR:=Lt.bind eZ fun _ _ _ h=>gy eZ.le h fun _ _ _ h=>gy eZ.le h fun _ _ _ h=>gy eZ.le h fun _ _ _ h=>gy ue.le h fun _ _ _ h=>tn h
theorem uf {α:Type} {f:List UInt8→Option (α×List UInt8)} (hf:Le f):Lt (dq f):=fun l a t h=>by
 unfold dq at h
 obtain⟨p,h1,h2⟩:=Option.bind_eq_some_iff.1 h
 have:=yV hf p.1 p.2 a t h2
 have:=lS l p.1 p.2 h1
 omega
theorem HX:Lt BV:=uf Aj.le
theorem Ak:Lt nN:=Lt.bind eZ fun _ _ _ h=>gy (rS 1).le h fun _ _ _ h=>gy ue.le h fun _ _ _ h=>gy HX.le h fun _ _ _ h=>tn h
theorem tq:Lt jq:=uf Ak.le
theorem qq:∀n,Lt (qQ n)
 |0=>fun l a t h=>by simp[qQ] at h
 |n+1=>fun l a t h=>by
  refine(Lt.bind (rS 2) fun p b t h=>?_) l a t (show((ki 2 l).bind _)=_ from h)
  refine gy tq.le h fun q b t h=>?_
  split at h
  ·exact gy HX.le h fun _ _ _ h=>tn h
  ·exact gy nO.le h fun _ _ _ h=>gy (qq n).le h fun _ _ _ h=>gy (qq n).le h fun _ _ _ h=>tn h
theorem qr:∀(n m:Nat) (l:List UInt8),l.length≤n→n≤m→qQ m l=qQ n l
 |0,0,_,_,_=>rfl
 |0,m+1,l,hl,_=>by
  have:l=[]:=List.eq_nil_of_length_eq_zero (by omega)
  subst this
  rfl
 |n+1,0,_,_,h=>by omega
 |n+1,m+1,l,hl,hm=>by
  simp only[qQ]
  cases h1:ki 2 l with
  |none=>rfl
  |some a=>
   simp only[Option.bind_some]
   cases h2:jq a.2 with
   |none=>rfl
   |some b=>
    simp only[Option.bind_some]
    split
    ·rfl
    ·cases h3:oB b.2 with
     |none=>rfl
     |some c=>
      simp only[Option.bind_some]
      have a1:=rS 2 l _ _ h1
      have a2:=tq _ _ _ h2
      have a3:=nO _ _ _ h3
      rw[qr n m c.2 (by omega) (by omega)]
      cases h4:qQ n c.2 with
      |none=>rfl
      |some d=>
       simp only[Option.bind_some]
       have a4:=qq n _ _ _ h4
       rw[qr n m d.2 (by omega) (by omega)]
theorem EK:Lt im:=fun l a t h=>qq l.length l a t h
theorem qt (l:List UInt8):im l=(ki 2 l).bind fun a=>(jq a.2).bind fun b=>
 if a.1<2 then(BV b.2).bind fun c=>some (.mk b.1 lC [] (decide (a.1=1)) c.1,c.2)
 else(oB b.2).bind fun c=>(im c.2).bind fun d=>(im d.2).bind fun e=>some (.mk b.1 c.1 [d.1,e.1] false [],e.2):=by
 unfold im
 cases l with
 |nil=>rfl
 |cons x l=>
  show qQ (l.length+1) (x::l)=_
  simp only[qQ]
  cases h1:ki 2 (x::l) with
  |none=>rfl
  |some a=>
   simp only[Option.bind_some]
   cases h2:jq a.2 with
   |none=>rfl
   |some b=>
    simp only[Option.bind_some]
    split
    ·rfl
    ·cases h3:oB b.2 with
     |none=>rfl
     |some c=>
      simp only[Option.bind_some]
      have a1:=rS 2 _ _ _ h1
      have a2:=tq _ _ _ h2
      have a3:=nO _ _ _ h3
      simp only[List.length_cons] at a1
      rw[qr c.2.length l.length c.2 (Nat.le_refl _) (by omega)]
      cases h4:qQ c.2.length c.2 with
      |none=>rfl
      |some d=>
       simp only[Option.bind_some]
       have a4:=qq _ _ _ _ h4
       rw[qr d.2.length l.length d.2 (Nat.le_refl _) (by omega)]
end Go.Rl
namespace Go.Rl
open Go.RowKit
theorem fR.bindE {α β:Type} {f:List UInt8→Option (α×List UInt8)} {st s1:Option (List UInt8)} {a:α} (h:fR f st a s1) (F:α×List UInt8→Option (β×List UInt8)):st.bind (fun l=>(f l).bind F)=s1.bind fun t=>F (a,t):=by
 cases st with
 |none=>
  cases s1 with
  |none=>rfl
  |some t=>cases h
 |some l=>
  have h:f l=s1.map fun t=>(a,t):=h
  show(f l).bind F=_
  rw[h]
  cases s1<;>rfl
theorem mW {β:Type} {s:Option (List UInt8)} {b:β}:(s.bind fun t=>some (b,t))=s.map fun t=>(b,t):=by cases s<;>rfl
section
variable {st s1 s2 s3 s4 s5:Option (List UInt8)}
theorem Gc {a b:Int} {q:ft} (h1:fR jK st a s1) (h2:fR jK s1 b s2) (h3:fR jp s2 q s3):fR oB st ⟨a,b,q⟩ s3:=by
 refine(h1.bindE _).trans ?_
 dsimp only
 refine(h2.bindE _).trans ?_
 dsimp only
 refine(h3.bindE _).trans ?_
 dsimp only
 exact mW
theorem xc {a b c d:Int} {q:ft} (h1:fR jK st a s1) (h2:fR jK s1 b s2) (h3:fR jK s2 c s3) (h4:fR jK s3 d s4) (h5:fR jp s4 q s5):fR rR st ⟨a,b,c,d,q⟩ s5:=by
 refine(h1.bindE _).trans ?_
 dsimp only
 refine(h2.bindE _).trans ?_
 dsimp only
 refine(h3.bindE _).trans ?_
 dsimp only
 refine(h4.bindE _).trans ?_
 dsimp only
 refine(h5.bindE _).trans ?_
 dsimp only
 exact mW
theorem Dk {a:Int} {n:Nat} {q:ft} {ps:List cg} (h1:fR jK st a s1) (h2:fR (ki 1) s1 n s2) (h3:fR jp s2 q s3) (h4:fR BV s3 ps s4):fR nN st ⟨a,bV n,q,ps⟩ s4:=by
 refine(h1.bindE _).trans ?_
 dsimp only
 refine(h2.bindE _).trans ?_
 dsimp only
 refine(h3.bindE _).trans ?_
 dsimp only
 refine(h4.bindE _).trans ?_
 dsimp only
 exact mW
def nP (k:Nat) (ls:List dN) (l:List UInt8):Option (aY×List UInt8):=
 if k<2 then(BV l).bind fun c=>some (.mk ls lC [] (decide (k=1)) c.1,c.2)
 else(oB l).bind fun c=>(im c.2).bind fun d=>(im d.2).bind fun e=>some (.mk ls c.1 [d.1,e.1] false [],e.2)
theorem jS:im=fun l=>(ki 2 l).bind fun a=>(jq a.2).bind fun b=>nP a.1 b.1 b.2:=funext qt
theorem uX {k:Nat} (h:k<2) (ls:List dN):nP k ls=fun l=>(BV l).bind fun c=>some (.mk ls lC [] (decide (k=1)) c.1,c.2):=funext fun _=>if_pos h
theorem kG {k:Nat} (h:¬k<2) (ls:List dN):nP k ls=fun l=>(oB l).bind fun c=>(im c.2).bind fun d=>(im d.2).bind fun e=>some (.mk ls c.1 [d.1,e.1] false [],e.2):=funext fun _=>if_neg h
theorem Gd {n:Nat} {ls:List dN} {ps:List cg} (hn:n<2) (h1:fR (ki 2) st n s1) (h2:fR jq s1 ls s2) (h3:fR BV s2 ps s3):fR im st (.mk ls lC [] (decide (n=1)) ps) s3:=by
 unfold fR
 rw[jS]
 refine(h1.bindE _).trans ?_
 dsimp only
 refine(h2.bindE _).trans ?_
 dsimp only
 show Option.bind s2 (nP _ _)=_
 rw[uX hn]
 refine(h3.bindE _).trans ?_
 dsimp only
 exact mW
theorem Dl {n:Nat} {ls:List dN} {d:bU} {a b:aY} (hn:¬n<2) (h1:fR (ki 2) st n s1) (h2:fR jq s1 ls s2) (h3:fR oB s2 d s3) (h4:fR im s3 a s4) (h5:fR im s4 b s5):fR im st (.mk ls d [a,b] false []) s5:=by
 unfold fR
 rw[jS]
 refine(h1.bindE _).trans ?_
 dsimp only
 refine(h2.bindE _).trans ?_
 dsimp only
 show Option.bind s2 (nP _ _)=_
 rw[kG hn]
 refine(h3.bindE _).trans ?_
 dsimp only
 refine(h4.bindE _).trans ?_
 dsimp only
 refine(h5.bindE _).trans ?_
 dsimp only
 exact mW
variable {α:Type} {f:List UInt8→Option (α×List UInt8)} {a:α}
theorem lI {β:Type} {g:List UInt8→Option (β×List UInt8)} {F:β×List UInt8→Option (α×List UInt8)} (h:st.bind g=none):st.bind (fun l=>(g l).bind F)=none:=by
 cases st with
 |none=>rfl
 |some l=>have h:g l=none:=h;show(g l).bind F=none;rw[h];rfl
theorem HY (h:st.bind (ki 2)=none):st.bind im=none:=by rw[jS];exact lI h
theorem xe {n:Nat} (h1:fR (ki 2) st n s1) (h:s1.bind jq=none):st.bind im=none:=by
 rw[jS]
 refine(h1.bindE _).trans ?_
 dsimp only
 exact lI h
theorem HZ {n:Nat} {ls:List dN} (hn:n<2) (h1:fR (ki 2) st n s1) (h2:fR jq s1 ls s2) (h:s2.bind BV=none):st.bind im=none:=by
 rw[jS]
 refine(h1.bindE _).trans ?_
 dsimp only
 refine(h2.bindE _).trans ?_
 dsimp only
 show Option.bind s2 (nP _ _)=_
 rw[uX hn]
 exact lI h
theorem H0 {n:Nat} {ls:List dN} (hn:¬n<2) (h1:fR (ki 2) st n s1) (h2:fR jq s1 ls s2) (h:s2.bind oB=none):st.bind im=none:=by
 rw[jS]
 refine(h1.bindE _).trans ?_
 dsimp only
 refine(h2.bindE _).trans ?_
 dsimp only
 show Option.bind s2 (nP _ _)=_
 rw[kG hn]
 exact lI h
theorem H1 {n:Nat} {ls:List dN} {d:bU} (hn:¬n<2) (h1:fR (ki 2) st n s1) (h2:fR jq s1 ls s2) (h3:fR oB s2 d s3) (h:s3.bind im=none):st.bind im=none:=by
 rw[jS]
 refine(h1.bindE _).trans ?_
 dsimp only
 refine(h2.bindE _).trans ?_
 dsimp only
 show Option.bind s2 (nP _ _)=_
 rw[kG hn]
 refine(h3.bindE _).trans ?_
 dsimp only
 exact lI h
theorem H2 {n:Nat} {ls:List dN} {d:bU} {x:aY} (hn:¬n<2) (h1:fR (ki 2) st n s1) (h2:fR jq s1 ls s2) (h3:fR oB s2 d s3) (h4:fR im s3 x s4) (h:s4.bind im=none):st.bind im=none:=by
 rw[jS]
 refine(h1.bindE _).trans ?_
 dsimp only
 refine(h2.bindE _).trans ?_
 dsimp only
 show Option.bind s2 (nP _ _)=_
 rw[kG hn]
 refine(h3.bindE _).trans ?_
 dsimp only
 refine(h4.bindE _).trans ?_
 dsimp only
 exact lI h
theorem H3 {n:Int} (h1:fR jK st n s1) (h:s1.bind (ki 1)=none):st.bind nN=none:=by
 refine(h1.bindE _).trans ?_
 dsimp only
 exact lI h
theorem H4 {n:Int} {k:Nat} {q:ft} (h1:fR jK st n s1) (h2:fR (ki 1) s1 k s2) (h3:fR jp s2 q s3) (h:s3.bind BV=none):st.bind nN=none:=by
 refine(h1.bindE _).trans ?_
 dsimp only
 refine(h2.bindE _).trans ?_
 dsimp only
 refine(h3.bindE _).trans ?_
 dsimp only
 exact lI h
theorem Ge {X:Option (List α×List UInt8)} {so:Option (List UInt8)} {k:Nat} {done:List α} (hR:X=so.bind (fun l=>(bT f (k+1) l).map fun p=>(done++p.1,p.2))) (h:so.bind f=none):X=none:=by
 rw[hR]
 cases so with
 |none=>rfl
 |some l=>
  have h:f l=none:=h
  show(bT f (k+1) l).map _=none
  simp only[bT,h]
  rfl
theorem H5 {n:Nat} {most:Nat} (h:fR eW st n s1) (hn:n≤most):fR (ki most) st n s1:=by
 refine(h.bindE _).trans ?_
 cases s1 with
 |none=>rfl
 |some t=>exact if_pos hn
theorem Lf {n:Nat} {most:Nat} (h:fR eW st n s1) (hn:¬n≤most):st.bind (ki most)=none:=by
 refine(h.bindE _).trans ?_
 cases s1 with
 |none=>rfl
 |some t=>exact if_neg hn
end
end Go.Rl
namespace Go.Rl
open Go.RowKit
section
variable {P:Program} {ops:Array Oper} {Env:World→Prop} {Rl:World→World→Prop} {mo:Bool} {Pn:List PanicEntry→World→Prop} {N:Nat}
def Al (ops:Array Oper) (n:Nat):Bool:=
 (List.range ops.size).all fun t=>decide (t≤n)||(List.range t).any fun j=>decide (n≤j)&&Region.waitsFor .any ops t j
def xf (o:Oper):Bool:=o.guard.isNone&&o.dst.isSome&&match o.op with|.extract .. |.move _|.assign _=>true|_=>false
theorem Gf {o:Oper} (h:xf o=true) (ρ:Operand→Value):(∃v,∀w,(execOp ρ o).run P w=.ok (.value v) w)∨∃x,(∀v,x≠.panic v)∧∀w,(execOp ρ o).run P w=.halt x w:=by
 obtain⟨dst,op,ty,pos,aft,g⟩:=o
 unfold xf at h
 simp only[Bool.and_eq_true] at h
 have h2:=h.2
 cases op<;>simp only[] at h2
 case move x=>exact .inl ⟨ρ x,fun w=>by simp[execOp]⟩
 case assign x=>exact .inl ⟨ρ x,fun w=>by simp[execOp]⟩
 case extract x n=>
  have e:execOp ρ ⟨dst,.extract x n,ty,pos,aft,g⟩=(do pure (Next.value (←Instr.extract (ρ x) n)):Sem Next):=rfl
  rw[e]
  cases hx:ρ x with
  |tuple vs=>
   cases hv:vs[n]? with
   |some v=>exact .inl ⟨v,fun w=>by simp[Instr.extract,hv]⟩
   |none=>exact .inr ⟨.stuck "Extract: no such component",fun v=>by simp,fun w=>by simp[Instr.extract,hv,stuck,Sem.run]⟩
  |_=>exact .inr ⟨.stuck "Extract: tuple expected",fun v=>by simp,fun w=>by simp[Instr.extract,stuck,Sem.run]⟩
 all_goals cases h2
def ug (ops:Array Oper):List Nat→Array Bool→Bool
 |[],listed=>(Region.ready .any ops listed).isEmpty
 |i::rest,listed=>(decide (Region.ready .any ops listed=[i])||((match ops[i]? with|some o=>xf o|none=>false)&&Region.free .any ops listed i&&(Region.ready .any ops listed).contains i))&&ug ops rest (listed.setIfInBounds i true)
theorem lT {Q:ja} (hsel:Region.noSelect ops=true):∀(perm:List Nat) (os:List Oper) (listed:Array Bool) (a:Act) (w:World),(perm.map fun i=>ops[i]?)=os.map some→ug ops perm listed=true→wpList P ops (pb Q) os a w→wpAny P .any ops (pb Q) perm.length listed a w
 |[],os,listed,a,w,ho,hB,h=>by
  have:os=[]:=by cases os with|nil=>rfl|cons o os=>simp at ho
  subst this
  exact⟨by simpa [ug] using hB,h⟩
 |i::perm,os,listed,a,w,ho,hB,h=>by
  cases os with
  |nil=>simp at ho
  |cons o os=>
   simp only[List.map_cons,List.cons.injEq] at ho
   obtain⟨h0,ho⟩:=ho
   simp only[ug,Bool.and_eq_true,Bool.or_eq_true,decide_eq_true_eq] at hB
   obtain⟨hB1,hB2⟩:=hB
   have nolet:¬LetsOut (pb Q):=fun⟨_,_,hq⟩=>by obtain⟨hq,_⟩:=hq;cases hq
   rcases hB1 with hr|⟨⟨hq,hf⟩,hr⟩
   ·refine⟨fun h1=>(by rw[hr] at h1;cases h1),fun k hk=>?_⟩
    rw[hr] at hk
    have hik:k=i:=by simpa using hk
    subst hik
    have hw:wpOp P ops (pb Q) k (wpList P ops (pb Q) os) a w:=by unfold wpOp;simp only[h0];exact h
    exact wpOp_mono (fun a' w' h'=>lT hsel perm os _ a' w' ho hB2 h') hw
   ·rw[h0] at hq
    have hq:xf o=true:=hq
    have hwant:Region.wanted o (yielded ops a.tmps)=true:=by
     unfold xf at hq
     simp only[Bool.and_eq_true,Option.isNone_iff_eq_none] at hq
     unfold Region.wanted
     rw[hq.1.1]
    unfold wpList at h
    rw[if_pos hwant] at h
    have h:=h.resolve_right fun h=>nolet h.2
    unfold Oper.wp at h
    rcases Gf (P:=P) hq a.eval with⟨v,hv⟩|⟨x,hx,hv⟩
    ·rw[hv w] at h
     exact wpAny_take h0 hsel hf hr (fun c a w hp=>by obtain⟨hp,_⟩:=hp;cases hp) (.inl ⟨hwant,hv⟩) (lT hsel perm os _ _ w ho hB2 h)
    ·rw[hv w] at h
     cases x<;>first|exact absurd rfl (hx _)|exact h.elim
def pl (ops:Array Oper) (n:Nat) (perm:List Nat):Nat→Nat→Array Bool→Bool
 |0,_,listed=>ug ops perm listed&&(Region.ready .any ops listed).all fun j=>decide (n≤j)
 |f+1,k,listed=>(Region.ready .any ops listed).contains k&&Region.free .any ops listed k&&pl ops n perm f (k+1) (listed.setIfInBounds k true)
def Dm (os:List Oper):List Nat→List Oper
 |[]=>[]
 |i::is=>match os[i]? with|some o=>o::Dm os is|none=>Dm os is
theorem Am {Q:ja} {D:List Deferred} {l:Fr} {w:World} (h:iR Q N D l w):iR (pb Q) N D l w:=fun a ha=>⟨rfl,h a ha⟩
end
end Go.Rl
namespace Go.Rl
open Go.RowKit
end Go.Rl
namespace Go.Rl
open Go.RowKit Go.Proofs
def EL (l:List Value) (o:Nat) (m:List Value):List Value:=l.take o++m++l.drop (o+m.length)
section
variable {P:Program} {w w1 w':World} {T TB t:TypeId} {g gB i o:Nat} {l m cs:List Value} {v:Value} {st s1:Option (List UInt8)}
theorem ct.stO (h:ct g T l w) (o:Nat) (hl:o+m.length≤l.length) (hi:(P.info? t).map (·.size)=some m.length) (h1:av m):
 ∃w',(Instr.storeAt t (.pointer (some ⟨g,o,none⟩)) (.agg m.toArray)).run P w=.ok () w'∧w.grownBy w' (some g)∧ct g T (EL l o m) w':=by
 have h':w.heap[g]? =some (.cells l.toArray T (0,0)):=h
 have hr:=run_storeCells_at (P:=P) g o T m 0 l.toArray w h' (by simpa using hl) h1
 refine⟨_,?_,bK w g _,h.row (EL l o m)⟩
 simp only[Instr.storeAt,Instr.sureAddr,storeVar,Sem.run_bind,Sem.run_pure,Result.andThen_ok,fh hi]
 rw[if_neg (by simp[Value.cells])]
 simpa [EL,Value.cells] using hr
theorem eA.put (hB:ct gB TB cs w) (hg:w.grownBy w1 (some g)) (hr:eA T g s1 w1) (hne:g<gB) {i:Nat} (hs:(P.info? t).map (·.size)=some 1) (hv:v.oneCell'=true) (hi:i<cs.length):
 ∃w2,(Instr.storeAt t (.pointer (some ⟨gB,i,none⟩)) v).run P w1=.ok () w2∧Mv (fun k=>k=g∨k=gB) w w2∧ct gB TB (cs.set i v) w2∧eA T g s1 w2∧w1.grownBy w2 (some gB):=by
 have h1:=hB.other hg (fun e=>by have:=Option.some.inj e;omega)
 obtain⟨w2,h2,h3,h4⟩:=h1.stC (P:=P) (t:=t) (i:=i) (v:=v) hs hv hi
 have m2:Mv (fun k=>k=gB) w1 w2:=Mv.of_grown h3 fun k hk _=>(Option.some.inj hk).symm
 exact⟨w2,h2,(Mv.of_grown hg fun k hk _=>.inl (Option.some.inj hk).symm).trans m2 fun _ hn _=>.inr hn,h4,hr.mv m2 fun k hk=>by omega,h3⟩
theorem eA.putO (hB:ct gB TB cs w) (hg:w.grownBy w1 (some g)) (hr:eA T g s1 w1) (hne:g<gB) (o:Nat) (hl:o+m.length≤cs.length) (hi:(P.info? t).map (·.size)=some m.length) (h1:av m):
 ∃w2,(Instr.storeAt t (.pointer (some ⟨gB,o,none⟩)) (.agg m.toArray)).run P w1=.ok () w2∧Mv (fun k=>k=g∨k=gB) w w2∧ct gB TB (EL cs o m) w2∧eA T g s1 w2∧w1.grownBy w2 (some gB):=by
 have hB1:=hB.other hg (fun e=>by have:=Option.some.inj e;omega)
 obtain⟨w2,h2,h3,h4⟩:=hB1.stO (P:=P) (t:=t) o hl hi h1
 have m2:Mv (fun k=>k=gB) w1 w2:=Mv.of_grown h3 fun k hk _=>(Option.some.inj hk).symm
 exact⟨w2,h2,(Mv.of_grown hg fun k hk _=>.inl (Option.some.inj hk).symm).trans m2 fun _ hn _=>.inr hn,h4,hr.mv m2 fun k hk=>by omega,h3⟩
end
end Go.Rl
namespace Go.Rl
open Go.RowKit Go.Proofs
theorem xh:(Tryz.prog.info? 4).map (·.size)=some 1:=by kernel_rfl
theorem rI.rpx {w:World} {b:Nat} {l:List UInt32} {v:Value} (h:bm l v w) (hn:rI b v):cN (fun k=>k<b) w (nx l) [v]:=by
 have h':Rp w (nx l) [v]:=Rp.wds.2 h
 unfold nx at h'⊢
 simp only[Rp] at h'
 obtain⟨A,n,c,hv,h2,h3,h4,h5,h6⟩:=h'
 obtain rfl:v=.slice A n c:=by simpa using hv
 simp only[cN]
 refine⟨A,n,c,rfl,h2,h3,h4,h5,fun hp=>?_⟩
 obtain⟨ad,xs,rfl,h8,h9⟩:=h6 hp
 refine⟨ad,xs,rfl,fun _ hb=>?_,h8,?_⟩
 ·have:=hn ad.block rfl
  omega
 ·have:∀(l:List UInt32) (ys:List Value),bw w (l.map zX) ys→aR (fun k=>k<b) w (l.map zX) ys:=by
   intro l
   induction l with
   |nil=>intro ys h;simpa only[List.map_nil,bw,aR] using h
   |cons a l ih=>
    intro ys h
    simp only[List.map_cons,bw,aR] at h⊢
    obtain⟨c1,c2,h1,h2,h3⟩:=h
    exact⟨c1,c2,h1,by simpa only[zX,Rp,cN] using h2,ih _ h3⟩
  exact this l xs h9
theorem rI.rpx' {w:World} {b:Nat} {l:List UInt32} {v:Value} (hn:rI b v) (h:bm l v w):cN (fun k=>k<b) w (nx l) [v]:=rI.rpx h hn
theorem kW.mv (X:Nat→Prop) (w:World):kW (Mv X w) (Mv X):=⟨fun _ _ h=>Mv.of_ext h,fun _ _ h k=>h.trans k fun _ hn _=>hn⟩
theorem nQ {X:Nat→Prop} {w:World} (n:Int):cN X w (qY n) [I n]:=by simp only[qY,cN,I]
end Go.Rl
namespace Go.Rl
open Go.RowKit Go.Proofs
theorem xi:aG Tryz.prog 132:=⟨_,Tryz.func132,by kernel_rfl,rfl⟩
theorem yW:aG Tryz.prog 95:=⟨_,Tryz.func95,by kernel_rfl,rfl⟩
theorem uY:aG Tryz.prog 133:=⟨_,Tryz.func133,by kernel_rfl,rfl⟩
theorem xj:aG Tryz.prog 96:=⟨_,Tryz.func96,by kernel_rfl,rfl⟩
def RX (g:Nat):Nat→Prop:=fun k=>k=g
abbrev i0 (st:Option (List UInt8)):Prop:=uc 549755813888 st
theorem An (st:Option (List UInt8)):∃n s1,fR eW st n s1∧n<18446744073709551616∧∀{w:World} {g:Nat},cv g st w→Calls Tryz.prog 93 #[.pointer (some ⟨g,0,none⟩)] w (bE fun r w'=>w.grownBy w' (some g)∧r=.tuple #[bF (UInt64.ofNat n),I (if s1.isSome=true then 0 else 5)]∧cv g s1 w'):=by
 cases hU:st.bind eW with
 |none=>exact⟨0,none,hU,by omega,fun hr=>nI hr hU⟩
 |some p=>
  obtain⟨n,t⟩:=p
  refine⟨n,some t,hU,?_,fun hr=>nJ hr hU⟩
  cases st with
  |none=>cases hU
  |some l=>exact(f9 (show eW l=some (n,t) from hU)).2
theorem rT (st:Option (List UInt8)):∃n s1,fR jK st n s1∧lR n∧∀{w:World} {g:Nat},cv g st w→Calls Tryz.prog 130 #[.pointer (some ⟨g,0,none⟩)] w (bE fun r w'=>w.grownBy w' (some g)∧r=.tuple #[I n,I (if s1.isSome=true then 0 else 5)]∧cv g s1 w'):=by
 cases hU:st.bind eW with
 |none=>
  refine⟨0,none,?_,by unfold lR;omega,fun hr=>bE.mono (yS hr) fun r w' h=>by rw[hU] at h;exact h⟩
  cases st with
  |none=>rfl
  |some l=>show(eW l).map _=none;rw[show eW l=none from hU];rfl
 |some p=>
  obtain⟨n,t⟩:=p
  have hI:fR jK st (uz n) (some t):=by
   cases st with
   |none=>cases hU
   |some l=>show(eW l).map _=_;rw[show eW l=some (n,t) from hU];rfl
  exact⟨uz n,some t,hI,Ah hI,fun hr=>bE.mono (yS hr) fun r w' h=>by rw[hU] at h;exact h⟩
theorem Dn {w:World} {g:Nat} {st:Option (List UInt8)} (hr:cv g st w) (hl:i0 st):
 Calls Tryz.prog 131 #[.pointer (some ⟨g,0,none⟩)] w (bE fun r w'=>w.grownBy w' (some g)∧∃(q:ft) (x y:Value) (s1:Option (List UInt8)),r=.tuple #[.agg #[B q.1,x,y],I (if s1.isSome=true then 0 else 5)]∧bm q.2.1 x w'∧bm q.2.2 y w'∧cN (fun k=>k<w.heap.size) w' (jh q) [B q.1,x,y]∧cv g s1 w'∧fR jp st q s1):=by
 refine bE.mono (Di hr hl) fun r w' hR=>⟨hR.1,?_⟩
 have h2:=hR.2
 have key:∀{q:ft} {x y:Value},cN (fun k=>k<w.heap.size) w' (nx q.2.1) [x]→cN (fun k=>k<w.heap.size) w' (nx q.2.2) [y]→cN (fun k=>k<w.heap.size) w' (jh q) [B q.1,x,y]:=fun {q x y} h1 h2=>by
  simp only[jh,cN]
  exact aR.cons (a:=[B q.1]) (by simp only[cN,B]) (aR.cons h1 (aR.cons (b:=[]) h2 aR.nil))
 cases hq:st.bind jp with
 |none=>
  rw[hq] at h2
  obtain⟨v,h3,⟨x,y,rfl,hx,hy⟩,h4⟩:=h2
  have hn:∀{z:Value},bm [] z w'→cN (fun k=>k<w.heap.size) w' (nx []) [z]:=fun {z} hz=>by
   obtain⟨A,n,c,rfl,h5,h6,h7,h8,h9⟩:=hz
   simp only[nx,List.map_nil,cN]
   have:n=0:=by simp at h7;omega
   subst this
   exact⟨A,0,c,rfl,rfl,h5,h6,h9,fun h=>by omega⟩
  exact⟨(false,[],[]),x,y,none,h3,hx,hy,key (hn hx) (hn hy),h4,hq⟩
 |some p=>
  obtain⟨q,t⟩:=p
  rw[hq] at h2
  obtain⟨x,y,h3,hx,hy,h4,n1,n2⟩:=h2
  exact⟨q,x,y,some t,h3,hx,hy,key (rI.rpx hx n1) (rI.rpx hy n2),h4,hq⟩
theorem Ma {n m:Nat} (hn:n<18446744073709551616) (hm:m<18446744073709551616):UInt64.ofNat n≤UInt64.ofNat m↔n≤m:=by
 rw[UInt64.le_iff_toNat_le,UInt64.toNat_ofNat',UInt64.toNat_ofNat']
 omega
theorem Do {w:World} {g n most:Nat} {st s1:Option (List UInt8)} (hn:n<18446744073709551616) (hm:most<18446744073709551616) (hr:cv g st w)
 (hc:Calls Tryz.prog 93 #[.pointer (some ⟨g,0,none⟩)] w (bE fun r w'=>w.grownBy w' (some g)∧r=.tuple #[bF (UInt64.ofNat n),I (if s1.isSome=true then 0 else 5)]∧cv g s1 w')):
 Calls Tryz.prog 132 #[.pointer (some ⟨g,0,none⟩),bF (UInt64.ofNat most)] w (bE fun r w'=>w.grownBy w' (some g)∧r=.tuple #[bF (UInt64.ofNat n),B (s1.isSome&&decide (n≤most))]∧cv g s1 w'):=by
 refine enter (vs:=[.pointer (some ⟨g,0,none⟩),bF (UInt64.ofNat most)]) Tryz.func132 E E E ?_
 refine af (aa (ae E E (ae E E (ag (ab (af (aa (ac E E (am fE E E (hc) ?_)))))))))
 rintro v10 w10 ⟨g10,rfl,hr1⟩
 have m10:=eA.kp hr g10
 refine ac E E (ao E E (bj) (ao E E (bk) (ae E E (ae E E (ag (ab (af ?_)))))))
 rcases s1 with _|t
 rotate_left
 by_cases hnm:n≤most
 ·refine aa (ac E E (ac E E (al E E E (ci E bi) (ac E E (ai E (ac E E (ai E (ac E E (ai E (al E E E (ci ((Ma hn hm).2 hnm) p9) ?_))))))))))
  refine ap E E E (ae E E (ae E E (ag (ab (aw (bf E E E ?_))))))
  exact⟨_,rfl,g10,by rw[decide_eq_true hnm];rfl,hr1⟩
 ·refine aa (ac E E (ac E E (al E E E (ci E bi) (ac E E (ai E (ac E E (ai E (ac E E (ai E (al E E E (cY (mt (Ma hn hm).1 hnm) p9) ?_))))))))))
  refine ap E E E (ae E E (ae E E (ag (ab (aw (bf E E E ?_))))))
  exact⟨_,rfl,g10,by rw[decide_eq_false hnm];rfl,hr1⟩
 ·refine aa (ac E E (ac E E (al E E E (cY (by simp) bi) (ac E E (an E E E (an E E E (an E E E (aD E E E ?_))))))))
  refine ae E E (ae E E (ag (ab (aw (bf E E E ?_)))))
  exact⟨_,rfl,g10,rfl,hr1⟩
theorem yX (st:Option (List UInt8)) {most:Nat} (hm:most<18446744073709551616):∃(n:Nat) (s1:Option (List UInt8)) (ok:Bool),(ok=true→fR (ki most) st n s1∧s1≠none)∧(ok=false→st.bind (ki most)=none)∧n<18446744073709551616∧(∀k,uc k st→uc k s1)∧∀{w:World} {g:Nat},cv g st w→
 Calls Tryz.prog 132 #[.pointer (some ⟨g,0,none⟩),bF (UInt64.ofNat most)] w (bE fun r w'=>w.grownBy w' (some g)∧r=.tuple #[bF (UInt64.ofNat n),B ok]∧cv g s1 w'):=by
 obtain⟨n,s1,h1,h2,h3⟩:=An st
 refine⟨n,s1,s1.isSome&&decide (n≤most),fun h=>?_,fun h=>?_,h2,fun k hk=>h1.atM lS.le hk,fun hr=>Do h2 hm hr (h3 hr)⟩
 ·simp only[Bool.and_eq_true,decide_eq_true_eq] at h
  exact⟨H5 h1 h.2,fun e=>by rw[e] at h;cases h.1⟩
 ·rcases Nat.lt_or_ge most n with hn|hn
  ·exact Lf h1 (by omega)
  ·rw[decide_eq_true hn,Bool.and_true] at h
   have:s1=none:=by cases s1 with|none=>rfl|some t=>cases h
   subst this
   exact(H5 h1 hn)
theorem xk {X:Nat→Prop} {w:World} {d:bU} {x y:Value} (h:cN X w (jh d.at_) [B d.at_.1,x,y]):cN X w (dC d) [I d.kd,I d.ix,B d.at_.1,x,y]:=by
 unfold dC
 simp only[cN.eq_5]
 exact aR.cons (a:=[I d.kd]) (nQ _) (aR.cons (a:=[I d.ix]) (nQ _) (aR.cons (b:=[]) h aR.nil))
theorem Ao {P:Program} {w:World} {t:TypeId} {x y:Operand} {s:Option (List UInt8)}:(bin .eql t x y (I (if s.isSome=true then 0 else 5)) (I 0)).run P w=.ok (B s.isSome) w:=by
 cases s<;>exact bi
theorem yY {w:World} {g:Nat} {st:Option (List UInt8)} (hr:cv g st w) (hl:i0 st):
 Calls Tryz.prog 95 #[.pointer (some ⟨g,0,none⟩)] w (bE fun r w'=>Mv (RX g) w w'∧∃(d:bU) (x y:Value) (s1:Option (List UInt8)),r=.tuple #[.agg #[I d.kd,I d.ix,B d.at_.1,x,y],B s1.isSome]∧cN (fun k=>k<w.heap.size) w' (dC d) [I d.kd,I d.ix,B d.at_.1,x,y]∧x.oneCell'=true∧y.oneCell'=true∧cv g s1 w'∧fR oB st d s1):=by
 refine enter (vs:=[.pointer (some ⟨g,0,none⟩)]) Tryz.func95 E E E ?_
 have hlt:=cv.lt hr
 obtain⟨n1,s1,q1,i1,c1⟩:=rT st
 obtain⟨n2,s2,q2,i2,c2⟩:=rT s1
 refine af (aa ?_)
 obtain⟨g2,w2,hr2,l2,x2,k2⟩:=aX (P:=Tryz.prog) (w:=w) (t:=48) (z:=.agg #[I 0,I 0,B false,.slice none 0 0,.slice none 0 0]) (l:=[I 0,I 0,B false,.slice none 0 0,.slice none 0 0]) (by kernel_rfl) rfl
 refine aT E hr2 (ae E E (ag (ab (af (aa ?_)))))
 obtain⟨g4,w4,hr4,l4,x4,k4⟩:=aX (P:=Tryz.prog) (w:=w2) (t:=48) (z:=.agg #[I 0,I 0,B false,.slice none 0 0,.slice none 0 0]) (l:=[I 0,I 0,B false,.slice none 0 0,.slice none 0 0]) (by kernel_rfl) rfl
 refine aT E hr4 ?_
 have hr4:=cv.ext hr (x2.trans x4)
 have g42:g2<g4:=by have:=k2.lt;omega
 have hg4:g<g4:=by have:=x2.size;omega
 have lt4:=k4.lt
 have sz4:=((x2.trans x4)).size
 have k24:=k2.ext x4
 refine ag (ab (af (aa (ac E E (am jz E E ((c1 hr4)) ?_)))))
 rintro v9 w9 ⟨g9,rfl,hr9⟩
 have m9:=eA.kp hr4 g9
 obtain⟨wa,sa,ma,ka,ra,_⟩:=eA.put (P:=Tryz.prog) (t:=3) (v:=I n1) k4 g9 hr9 hg4 (i:=0) gj rfl (by simp)
 refine ac E E (ao E E (bj) (ao E E bk ?_))
 refine ah E E (ar (o:=0) My E (by kernel_rfl) E) ?_
 refine au E E sa ?_
 refine ag (ab (af (aa (ac E E (am jz E E ((c2 ra)) ?_)))))
 rintro v15 w15 ⟨g15,rfl,hr15⟩
 have m15:=eA.kp ra g15
 obtain⟨wb,sb,mb,kb,rb,_⟩:=eA.put (P:=Tryz.prog) (t:=3) (v:=I n2) ka g15 hr15 hg4 (i:=1) gj rfl (by simp)
 refine ac E E (ao E E (bj) (ao E E bk ?_))
 refine ah E E (ar (o:=1) My E (by kernel_rfl) E) ?_
 refine au E E sb ?_
 refine ag (ab (af (aa (ac E E (am t9 E E ((Dn rb (q2.atM eZ.le (q1.atM eZ.le hl)))) ?_)))))
 rintro v21 w21 ⟨g21,q,x,y,s3,rfl,hx,hy,rq,hr21,q3⟩
 have m21:=eA.kp rb g21
 refine ac E E (ao E E (bj) (ao E E (bk) ?_))
 obtain⟨g5,w5,hr5,l5,x5,k5⟩:=aX (P:=Tryz.prog) (w:=w21) (t:=46) (z:=.agg #[B false,.slice none 0 0,.slice none 0 0]) (l:=[B false,.slice none 0 0,.slice none 0 0]) (by kernel_rfl) rfl
 refine aT E hr5 ?_
 obtain⟨w4_6,s4_6,q4_6,k4_6⟩:=k5.stS (P:=Tryz.prog) (t:=46) (m:=[B q.1,x,y]) rfl (by kernel_rfl) (av.cons rfl (av.cons hx.one (av.cons hy.one av.nil)))
 refine au E E s4_6 ?_
 have x4_6:=aK.of_new (x5) q4_6 l5
 refine ae E E (ag (ab (af (aa (ak E E (k4_6.ld Mw E (by kernel_rfl)) (ah E E (ar (o:=2) My E (by kernel_rfl) E) ?_))))))
 have ex:=x4_6
 obtain⟨wc,sc,mc,kc,rc,qc⟩:=eA.putO (P:=Tryz.prog) (t:=46) (m:=[B q.1,x,y]) kb (g21.trans (dO ex)) (cv.ext hr21 ex) hg4 2 (by simp) (by kernel_rfl) (av.cons rfl (av.cons hx.one (av.cons hy.one av.nil)))
 have lb:w4.heap.size≤wb.heap.size:=Nat.le_trans ma.size mb.size
 have rqc:=rq.mv ((Mv.of_ext ex).trans (Mv.of_grown qc fun k hk _=>by obtain rfl:=Option.some.inj hk;show g4<wb.heap.size;omega) fun _ hn _=>hn) fun _ hk=>.inl hk
 refine au E E sc ?_
 have mT:Mv (fun k=>k=g∨k=g4) w4 wc:=(ma.trans mb fun _ hn _=>hn).trans mc fun _ hn _=>hn
 have k2c:=mT.blk k24 (by rintro(h|h)<;>omega)
 have kc:ct g4 48 [I n1,I n2,B q.1,x,y] wc:=kc
 refine ag (ab (af (aa (ak E E (kc.ld My E (by kernel_rfl)) (ac E E (al (r:=B s3.isSome) E E E (Ao) ?_))))))
 obtain⟨wd,sd,qd,kd⟩:=k2c.stS (P:=Tryz.prog) (t:=48) (m:=[I n1,I n2,B q.1,x,y]) rfl (by kernel_rfl) (av.cons rfl (av.cons rfl (av.cons rfl (av.cons hx.one (av.cons hy.one av.nil)))))
 have md:Mv (fun k=>k=g2) wc wd:=Mv.of_grown qd fun k hk _=>(Option.some.inj hk).symm
 refine au E E sd ?_
 refine ae E E (ag (ab (aw ?_)))
 refine cD E E E kd My E (by kernel_rfl) ?_
 exact⟨_,rfl,((Mv.of_ext (x2.trans x4)).trans mT fun j hj hlt=>by
  rcases hj with hj|hj
  ·exact hj
  ·omega).trans md fun j hj hlt=>by omega,⟨n1,n2,q⟩,x,y,s3,rfl,xk (d:=⟨n1,n2,q⟩) (rqc.mv (md.weak fun j hj _=>by show j<wb.heap.size;omega) fun j hj=>.inl (by omega)),hx.one,hy.one,rc.mv md fun j hj=>by omega,Gc q1 q2 q3⟩
theorem Je {n m:Nat} (hn:n<18446744073709551616) (hm:m<18446744073709551616):UInt64.ofNat n<UInt64.ofNat m↔n<m:=by
 rw[UInt64.lt_iff_toNat_lt,UInt64.toNat_ofNat',UInt64.toNat_ofNat']
 omega
theorem mY {P:Program} {w:World} {s d:TypeId} {k:IntKind} (hs:P.underlying s=some (.int k)) {n:Nat} (hd:P.underlying d=some (.int .u64)):(convert s d (I (n:Int))).run P w=.ok (bF (UInt64.ofNat n)) w:=by
 rw[s9 hs hd]
 have:UInt64.ofInt (n:Int)=UInt64.ofNat n:=UInt64.toNat_inj.1 (by rw[lH,UInt64.toNat_ofNat'];omega)
 rw[this]
theorem uh {α:Type} {f:List UInt8→Option (α×List UInt8)} {st s1 so:Option (List UInt8)} {N:Nat} {done:List α} (hU:fR eW st N s1) (hR:s1.bind (bT f N)=so.bind (fun l=>(bT f 0 l).map fun p=>(done++p.1,p.2))):fR (dq f) st done so:=
 (hU.bindE (fun p=>bT f p.1 p.2)).trans (Gb hR)
theorem ui {α:Type} {f:List UInt8→Option (α×List UInt8)} {st s1:Option (List UInt8)} {N:Nat} {done:List α} (hU:fR eW st N s1) (hR:s1.bind (bT f N)=none):fR (dq f) st done none:=
 (hU.bindE (fun p=>bT f p.1 p.2)).trans hR
theorem uj:(Tryz.prog.info? 187).map (fun i=>(i.zero,i.size,i.bytes))=some (some (.agg #[I 0,I 0,I 0,I 0,B false,.slice none 0 0,.slice none 0 0]),7,88):=by kernel_rfl
theorem dD (m:cg):(bP m).size=7:=by simp[bP,qY,jh,nx,Dt.size,Dt.sizeAll]
theorem yZ {X:Nat→Prop} {w:World} {m:cg} {x y:Value} (h:cN X w (jh m.co) [B m.co.1,x,y]):cN X w (bP m) [I m.kd,I m.ix,I m.lo,I m.hi,B m.co.1,x,y]:=by
 unfold bP
 simp only[cN.eq_5]
 exact aR.cons (a:=[I m.kd,I m.ix,I m.lo,I m.hi]) (by
  simp only[cN.eq_5]
  exact aR.cons (a:=[I m.kd]) (nQ _) (aR.cons (a:=[I m.ix]) (nQ _) (aR.cons (a:=[I m.lo]) (nQ _) (aR.cons (a:=[I m.hi]) (b:=[]) (nQ _) aR.nil)))) (aR.cons (b:=[]) h aR.nil)
theorem uZ {w:World} {g:Nat} {st:Option (List UInt8)} (hr:cv g st w) (hl:i0 st):
 Calls Tryz.prog 133 #[.pointer (some ⟨g,0,none⟩)] w (bE fun r w'=>Mv (RX g) w w'∧∃(ps:List cg) (v:Value) (s1:Option (List UInt8)),r=.tuple #[v,B s1.isSome]∧cN (fun k=>k<w.heap.size) w' (il ps) [v]∧v.oneCell'=true∧cv g s1 w'∧fR BV st ps s1):=by
 refine enter (vs:=[.pointer (some ⟨g,0,none⟩)]) Tryz.func133 E E E ?_
 have hlt:=cv.lt hr
 obtain⟨N,s1,qU,hN,cU⟩:=An st
 refine af (aa (ae E E (ae E E (ag (ab (af (aa (ac E E (am fE E E ((cU hr)) ?_)))))))))
 rintro v10 w10 ⟨g10,rfl,hr10⟩
 have m10:=eA.kp hr g10
 have hl1:i0 s1:=qU.atM lS.le hl
 refine ac E E (ao E E (bj) (ao E E (bk) (ae E E (ae E E (ag (ab (af (aa (ae E E (ag (ab (af ?_))))))))))))
 refine aE ?_
 refine jf (fun(k:Nat) (v:Value) (so:Option (List UInt8)) (ps:List cg)=>[(0,.pointer (some ⟨g,0,none⟩)),(4,bF (UInt64.ofNat N)),(5,I (if so.isSome=true then 0 else 5)),(6,v)]) (fun(k:Nat) (v:Value) (so:Option (List UInt8)) (ps:List cg) w'=>Mv (RX g) w w'∧cv g so w'∧gq 187 7 w.heap.size bP ps v w'∧k+ps.length=N∧s1.bind (bT rR N)=so.bind (fun l=>(bT rR k l).map fun p=>(ps++p.1,p.2))∧ps.length≤549755813890∧∀l,so=some l→l.length+ps.length≤549755813888) (fun(k:Nat) (v:Value) (so:Option (List UInt8)) (ps:List cg)=>k) (N) (.slice none 0 0) (s1) ([]) ⟨rfl,rfl,rfl,rfl,trivial⟩ ⟨Mv.of_grown g10 fun k hk _=>(Option.some.inj hk).symm,hr10,gq.nil _,by simp,rQ,by simp,fun l e=>by have:=hl1 l e;simpa using this⟩ ?_
 rintro k v so ps wL ⟨mL,hrL,oL,hk,hR,hql,hsl⟩
 refine af (af ?_)
 have rL:=oL.rpx dD (by omega)
 have hvo:v.oneCell'=true:=by obtain⟨_,_,_,rfl⟩:=oL.isS;rfl
 have hnl:ps.length<18446744073709551616:=by omega
 rcases so with _|l
 rotate_left
 rcases Nat.eq_zero_or_pos k with h0|h0
 rotate_left
 ·refine aa (ac E E (al E E E (ci E bi) (ac E E (ai E (ac E E (ai E (aO (r:=I ps.length) E E ((a6 (f:=bP) MH rL.rp)) ?_)))))))
  refine ai E (a9 E E (mY Mx MA) (ai E (ac E E (ai E (al E E E (ci ((Je hnl hN).2 (by omega)) gU) ?_)))))
  refine ap E E E (ag (ab (bg E (aC (ab (aE (af ?_)))))))
  obtain⟨n1,s2,q1,i1,c1⟩:=rT (some l)
  obtain⟨n2,s3,q2,i2,c2⟩:=rT s2
  obtain⟨n3,s4,q3,i3,c3⟩:=rT s3
  obtain⟨n4,s5,q4,i4,c4⟩:=rT s4
  have hll:i0 (some l):=fun l' e=>by cases e;have:=hsl l rfl;omega
  have at5:i0 s5:=q4.atM eZ.le (q3.atM eZ.le (q2.atM eZ.le (q1.atM eZ.le hll)))
  refine aa ?_
  obtain⟨g7,w7,hr7,l7,x7,k7⟩:=aX (P:=Tryz.prog) (w:=wL) (t:=187) (z:=.agg #[I 0,I 0,I 0,I 0,B false,.slice none 0 0,.slice none 0 0]) (l:=[I 0,I 0,I 0,I 0,B false,.slice none 0 0,.slice none 0 0]) (by kernel_rfl) rfl
  refine aT E hr7 (ag (ab (af ?_)))
  have hr7:=cv.ext hrL x7
  have e7:=x7
  have hgL:g<wL.heap.size:=Nat.lt_of_lt_of_le hlt mL.size
  have hg7:g<g7:=by omega
  have lt7:=k7.lt
  refine aa (ac E E (am jz E E ((c1 hr7)) ?_))
  rintro v24 w24 ⟨g24,rfl,hr24⟩
  have m24:=eA.kp hr7 g24
  obtain⟨wa,sa,ma,ka,ra,_⟩:=eA.put (P:=Tryz.prog) (t:=3) (v:=I n1) k7 g24 hr24 hg7 (i:=0) gj rfl (by simp)
  refine ac E E (ao E E (bj) (ao E E bk ?_))
  refine ah E E (ar (o:=0) MP E (by kernel_rfl) E) ?_
  refine ah E E (ar (o:=0) MR E (by kernel_rfl) E) ?_
  refine au E E sa ?_
  refine ag (ab (af (aa (ac E E (am jz E E ((c2 ra)) ?_)))))
  rintro v31 w31 ⟨g31,rfl,hr31⟩
  have m31:=eA.kp ra g31
  obtain⟨wb,sb,mb,kb,rb,_⟩:=eA.put (P:=Tryz.prog) (t:=3) (v:=I n2) ka g31 hr31 hg7 (i:=1) gj rfl (by simp)
  refine ac E E (ao E E (bj) (ao E E bk ?_))
  refine ah E E (ar (o:=0) MP E (by kernel_rfl) E) ?_
  refine ah E E (ar (o:=1) MR E (by kernel_rfl) E) ?_
  refine au E E sb ?_
  refine ag (ab (af (aa (ac E E (am jz E E ((c3 rb)) ?_)))))
  rintro v38 w38 ⟨g38,rfl,hr38⟩
  have m38:=eA.kp rb g38
  obtain⟨wc,sc,mc,kc,rc,_⟩:=eA.put (P:=Tryz.prog) (t:=3) (v:=I n3) kb g38 hr38 hg7 (i:=2) gj rfl (by simp)
  refine ac E E (ao E E (bj) (ao E E bk ?_))
  refine ah E E (ar (o:=0) MP E (by kernel_rfl) E) ?_
  refine ah E E (ar (o:=2) MR E (by kernel_rfl) E) ?_
  refine au E E sc ?_
  refine ag (ab (af (aa (ac E E (am jz E E ((c4 rc)) ?_)))))
  rintro v45 w45 ⟨g45,rfl,hr45⟩
  have m45:=eA.kp rc g45
  obtain⟨wd,sd,md,kd,rd,_⟩:=eA.put (P:=Tryz.prog) (t:=3) (v:=I n4) kc g45 hr45 hg7 (i:=3) gj rfl (by simp)
  refine ac E E (ao E E (bj) (ao E E bk ?_))
  refine ah E E (ar (o:=0) MP E (by kernel_rfl) E) ?_
  refine ah E E (ar (o:=3) MR E (by kernel_rfl) E) ?_
  refine au E E sd ?_
  refine ag (ab (af (aa (ac E E (am t9 E E ((Dn rd at5)) ?_)))))
  rintro v52 w52 ⟨g52,q,x,y,s6,rfl,hx,hy,rq,hr52,q5⟩
  have m52:=eA.kp rd g52
  obtain⟨we,se,me,ke,re,qe⟩:=eA.putO (P:=Tryz.prog) (t:=46) (m:=[B q.1,x,y]) kd g52 hr52 hg7 4 (by simp) (by kernel_rfl) (av.cons rfl (av.cons hx.one (av.cons hy.one av.nil)))
  have ke:ct g7 187 [I n1,I n2,I n3,I n4,B q.1,x,y] we:=ke
  have mAll:Mv (RX g) wL we:=(Mv.of_ext e7).trans ((((ma.trans mb fun _ hn _=>hn).trans mc fun _ hn _=>hn).trans md fun _ hn _=>hn).trans me fun _ hn _=>hn) fun j hj hlt=>by
   rcases hj with hj|hj
   ·exact hj
   ·omega
  have sd7:w7.heap.size≤wd.heap.size:=Nat.le_trans (Nat.le_trans ma.size mb.size) (Nat.le_trans mc.size md.size)
  have szL:wL.heap.size≤w7.heap.size:=e7.size
  have hXL:∀j,RX g j→j<w.heap.size:=fun j hj=>by have:j=g:=hj;omega
  have oE:=oL.mv mAll hXL
  have own:∀j,v.ownBlock=some j→w.heap.size≤j∧j<wL.heap.size:=oL.lt
  have rqe:=rq.mv (Mv.of_grown qe fun k hk _=>by obtain rfl:=Option.some.inj hk;show g7<wd.heap.size;omega) fun _ hk=>.inl hk
  have hM:=yZ (m:=⟨n1,n2,n3,n4,q⟩) (rqe.weak (Y:=fun k=>k<w.heap.size∨v.ownBlock=some k) fun j hj=>.inl (by
   rcases hj with hj|hj
   ·have:=mL.size;show j<wd.heap.size;omega
   ·have:=(own j hj).2;show j<wd.heap.size;omega))
  obtain⟨x58,w58,v59,w59,hr58,hr59,o59,m59,n59⟩:=oE.push (ty:=50) (t:=50) MH uj rfl (by omega) (by omega) (by omega) (av.cons rfl (av.cons rfl (av.cons rfl (av.cons rfl (av.cons rfl (av.cons hx.one (av.cons hy.one av.nil))))))) hM dD (by have:=hsl l rfl;omega) (Nat.le_trans mL.size mAll.size)
  have h59:=re.mv m59 fun j hj=>by have:=own j hj;omega
  refine ac E E (ao E E (bj) (ao E E (bk) ?_))
  refine ah E E (ar (o:=4) MP E (by kernel_rfl) E) ?_
  refine au E E se ?_
  refine ae E E (ag (ab (aa (ac E E (ak E E (ke.ld MP E (by kernel_rfl)) ?_)))))
  refine aJ (vs:=[(0,.agg #[I n1,I n2,I n3,I n4,B q.1,x,y])]) E E hr58 ?_
  refine ba E E hr59 ?_
  obtain⟨k',rfl⟩:∃k',k=k'+1:=⟨k-1,by omega⟩
  refine ae E E (ag (aS ?_))
  refine fj (k') (v59) (s6) (ps++[⟨n1,n2,n3,n4,q⟩]) ⟨rfl,rfl,rfl,rfl,trivial⟩ ⟨(mL.trans mAll fun _ hn _=>hn).trans m59 fun j hj hlt=>by have:=(own j hj).1;omega,h59,o59,by simp;omega,qp hR (xc q1 q2 q3 q4 q5),by have:=hsl l rfl;simp;omega,(fun l' e=>by
   subst e
   have:=hsl l rfl
   have:=Aj _ _ _ (show rR l=some (_,l') from xc (st:=some l) q1 q2 q3 q4 q5)
   simp
   omega)⟩ (by omega)
 ·refine aa (ac E E (al E E E (cY (by simp) bi) (ac E E (an E E E (an E E E (an E E E (an E E E (an E E E ?_))))))))
  refine aD E E E (ag (ab (cr E (bc (aI (aI (be (ab (af (aa (ac E E (ac E E (al E E E (cY (by simp) bi) ?_)))))))))))))
  refine ae E E (ae E E (ag (ab (aw (bf E E E ?_)))))
  exact⟨_,rfl,mL,ps,v,none,rfl,rL,hvo,hrL,ui qU hR⟩
 ·refine aa (ac E E (al E E E (ci E bi) (ac E E (ai E (ac E E (ai E (aO (r:=I ps.length) E E ((a6 (f:=bP) MH rL.rp)) ?_)))))))
  refine ai E (a9 E E (mY Mx MA) (ai E (ac E E (ai E (al E E E (cY (mt (Je hnl hN).1 (by omega)) gU) ?_)))))
  refine ap E E E (ag (ab (cr E (bc (aI (aI (be (ab (af (aa (ac E E (ac E E (al E E E (ci E bi) (ae E E ?_))))))))))))))
  refine ae E E (ag (ab (aw (bf E E E ?_))))
  exact⟨_,rfl,mL,ps,v,some l,rfl,rL,hvo,hrL,uh qU (by subst h0;exact hR)⟩
end Go.Rl
namespace Go.Rl
open Go.RowKit Go.Proofs
theorem xl:(Tryz.prog.info? 173).map (fun i=>(i.zero,i.size,i.bytes))=some (some (.agg #[I 0,B false,B false,.slice none 0 0,.slice none 0 0,.slice none 0 0]),6,96):=by kernel_rfl
theorem Gg:(Tryz.prog.info? 52).map (fun i=>(i.zero,i.size,i.bytes))=some (some (.agg #[.slice none 0 0,I 0,I 0,B false,.slice none 0 0,.slice none 0 0,.slice none 0 0,B false,.slice none 0 0]),9,152):=by kernel_rfl
theorem cH (l:dN):(dc l).size=6:=by simp[dc,qY,jh,nx,il,Dt.size,Dt.sizeAll]
theorem cG (n:aY):(bG n).size=9:=by cases n;simp[bG,dC,qY,jh,nx,il,Dt.size,Dt.sizeAll]
theorem j7 {X:Nat→Prop} {w:World}:cN X w (.sl []) [.slice none 0 0]:=by
 simp only[cN]
 exact⟨none,0,0,rfl,rfl,Nat.le_refl _,Nat.zero_le _,fun _=>rfl,fun h=>absurd h (by omega)⟩
theorem bX {X:Nat→Prop} {w:World} (b:Bool):cN X w (.bool b) [B b]:=by simp only[cN,B]
theorem xm {X:Nat→Prop} {w:World} {l:dN} {x y v:Value} (h:cN X w (jh l.va) [B l.va.1,x,y]) (hp:cN X w (il l.pf) [v]):cN X w (dc l) [I l.un,B l.up,B l.va.1,x,y,v]:=by
 unfold dc
 simp only[cN.eq_5]
 exact aR.cons (a:=[I l.un]) (nQ _) (aR.cons (a:=[B l.up]) (bX _) (aR.cons (a:=[B l.va.1,x,y]) h (aR.cons (b:=[]) hp aR.nil)))
theorem eG {X:Nat→Prop} {w:World} {ls:List dN} {d:bU} {ks:List aY} {em:Bool} {ps:List cg} {vl vk vp x y:Value} (hl:cN X w (.sl (ls.map dc)) [vl]) (hd:cN X w (dC d) [I d.kd,I d.ix,B d.at_.1,x,y]) (hk:cN X w (.sl (ks.map bG)) [vk]) (hp:cN X w (il ps) [vp]):
 cN X w (bG (.mk ls d ks em ps)) [vl,I d.kd,I d.ix,B d.at_.1,x,y,vk,B em,vp]:=by
 unfold bG
 simp only[cN.eq_5]
 exact aR.cons (a:=[vl]) hl (aR.cons (a:=[I d.kd,I d.ix,B d.at_.1,x,y]) hd (aR.cons (a:=[vk]) (by rw[lu];exact hk) (aR.cons (a:=[B em]) (bX _) (aR.cons (b:=[]) hp aR.nil))))
theorem jL {X:Nat→Prop} {w:World}:cN X w (dC lC) [I 0,I 0,B false,.slice none 0 0,.slice none 0 0]:=
 xk (d:=lC) (by
  simp only[jh,lC,Ld,cN.eq_5]
  exact aR.cons (a:=[B false]) (bX _) (aR.cons (a:=[.slice none 0 0]) j7 (aR.cons (b:=[]) j7 aR.nil)))
theorem Kz {P:Program} {w:World} {t:TypeId} {x y:Operand} {n:Nat} (hn:n<18446744073709551616):(bin .eql t x y (bF (UInt64.ofNat n)) (bF 1)).run P w=.ok (B (decide (n=1))) w:=by
 have e:(decide (UInt64.ofNat n=1))=decide (n=1):=by
  by_cases h:n=1
  ·subst h;rfl
  ·have:UInt64.ofNat n≠1:=fun e=>h (by have:=congrArg UInt64.toNat e;rw[UInt64.toNat_ofNat',show(1:UInt64).toNat=1 from rfl] at this;omega)
   rw[decide_eq_false h,decide_eq_false this]
 rw[←e]
 exact gV
def LL (st:Option (List UInt8)) (nd:aY) (s1:Option (List UInt8)) (ok:Bool):Prop:=(ok=true→fR im st nd s1∧s1≠none)∧(ok=false→st.bind im=none)
def EM (g:Nat) (w:World) (st:Option (List UInt8)) (r:Value) (w':World):Prop:=
 Mv (RX g) w w'∧∃(nd:aY) (cs:List Value) (s1:Option (List UInt8)) (ok:Bool),r=.tuple #[.agg cs.toArray,B ok]∧cN (fun k=>k<w.heap.size) w' (bG nd) cs∧av cs∧cv g s1 w'∧LL st nd s1 ok
def y5 (s3:Option (List UInt8)):Nat→List aY→Option (List UInt8)→Bool→Prop
 |0,ks,so,ok=>ks=[]∧so=s3∧ok=s3.isSome
 |1,ks,so,ok=>∃a,ks=[a]∧LL s3 a so ok
 |_+2,ks,so,ok=>∃a b s4,ks=[a,b]∧fR im s3 a s4∧s4≠none∧LL s4 b so ok
theorem y5.step {s3 so s6:Option (List UInt8)} {ks:List aY} {nd:aY} {ok6:Bool}:∀{i:Nat},y5 s3 i ks so true→i<2→LL so nd s6 ok6→y5 s3 (i+1) (ks++[nd]) s6 ok6
 |0,⟨h1,h2,_⟩,_,hN=>⟨nd,by rw[h1];rfl,h2▸hN⟩
 |1,⟨a,h1,h2⟩,_,hN=>⟨a,nd,so,by rw[h1];rfl,(h2.1 rfl).1,(h2.1 rfl).2,hN⟩
 |i+2,_,h,_=>by omega
theorem y5.done {st s1 s2 s3 so:Option (List UInt8)} {ks:List aY} {ls:List dN} {d:bU} {tag:Nat} {ok:Bool} {i:Nat} (h:y5 s3 i ks so ok) (hx:ok=false∨2≤i) (hn:¬tag<2) (q1:fR (ki 2) st tag s1) (q2:fR jq s1 ls s2) (q3:fR oB s2 d s3):LL st (.mk ls d ks false []) so ok:=by
 refine⟨fun e=>?_,fun e=>?_⟩
 ·subst e
  have h2i:2≤i:=by
   rcases hx with hx|hx
   ·cases hx
   ·exact hx
  obtain⟨i,rfl⟩:∃j,i=j+2:=⟨i-2,by omega⟩
  obtain⟨a,b,s4,rfl,h2,h3,h4⟩:=h
  exact⟨Dl hn q1 q2 q3 h2 (h4.1 rfl).1,(h4.1 rfl).2⟩
 ·subst e
  match i,h with
  |0,⟨h1,h2,h3⟩=>
   have:s3=none:=by cases s3 with|none=>rfl|some t=>cases h3
   subst this
   exact H0 hn q1 q2 q3
  |1,⟨a,h1,h2⟩=>exact H1 hn q1 q2 q3 (h2.2 rfl)
  |i+2,⟨a,b,s4,h1,h2,h3,h4⟩=>exact H2 hn q1 q2 q3 h2 (h4.2 rfl)
theorem y8 {α:Type} {f:List UInt8→Option (α×List UInt8)} {st s1 so:Option (List UInt8)} {N k:Nat} {done:List α} (hU:fR eW st N s1) (hR:s1.bind (bT f N)=so.bind (fun l=>(bT f (k+1) l).map fun p=>(done++p.1,p.2))) (h:so.bind f=none):st.bind (dq f)=none:=
 (hU.bindE (fun p=>bT f p.1 p.2)).trans (Ge hR h)
theorem nR {w w4 wA:World} {g g2 g4:Nat} {z cs:List Value} {nd:aY} {st s1:Option (List UInt8)} (hg:g<w.heap.size) (l2:w.heap.size≤g2) (g42:g2<g4) (ex4:aK w w4) (k24:ct g2 52 z w4) (hz:z.length=9) (mT:Mv (fun k=>RX g k∨k=g4) w4 wA) (h1:av cs) (rp:cN (fun k=>k<w4.heap.size) wA (bG nd) cs) (hr:cv g s1 wA):
 ∃wd,(Instr.storeAt 52 (.pointer (some ⟨g2,0,none⟩)) (.agg cs.toArray)).run Tryz.prog wA=.ok () wd∧ct g2 52 cs wd∧∀ok,LL st nd s1 ok→EM g w st (.tuple #[.agg cs.toArray,B ok]) wd:=by
 have lt2:=k24.lt
 have hgg:g<g2:=by omega
 have k2A:=mT.blk k24 (by
  rintro(h|h)
  ·have:g2=g:=h
   omega
  ·omega)
 have hc:cs.length=9:=rp.len.trans (cG nd)
 obtain⟨wd,sd,qd,kd⟩:=k2A.stS (P:=Tryz.prog) (t:=52) (m:=cs) (by omega) (by rw[hc];kernel_rfl) h1
 have md:Mv (fun k=>k=g2) wA wd:=Mv.of_grown qd fun k hk _=>(Option.some.inj hk).symm
 refine⟨wd,sd,kd,fun ok hN=>⟨((Mv.of_ext ex4).trans mT fun j hj hlt=>?_).trans md fun j hj hlt=>by omega,nd,cs,s1,ok,rfl,rp.mv (md.weak fun j hj _=>by show j<w4.heap.size;omega) fun j hj=>.inl (by have:=ex4.size;show j<w4.heap.size;omega),h1,hr.mv md fun j hj=>by omega,hN⟩⟩
 rcases hj with hj|hj
 ·exact hj
 ·omega
theorem Dp {w:World} {g:Nat} {st:Option (List UInt8)} {n:Nat} (ih:∀{w:World} {g:Nat} {st:Option (List UInt8)} {m:Nat},m<n→cv g st w→i0 st→uc m st→Calls Tryz.prog 96 #[.pointer (some ⟨g,0,none⟩)] w (bE (EM g w st))) (hr:cv g st w) (hl:i0 st) (hn:uc n st):
 Calls Tryz.prog 96 #[.pointer (some ⟨g,0,none⟩)] w (bE (EM g w st)):=by
 refine enter (vs:=[.pointer (some ⟨g,0,none⟩)]) Tryz.func96 E E E ?_
 have hlt:=cv.lt hr
 obtain⟨tag,s1,ok1,hok1,hno1,htag,hat1,cF⟩:=yX st (most:=2) (by omega)
 obtain⟨N,s2,qU,hN,cU⟩:=An s1
 refine af (aa ?_)
 obtain⟨g2,w2,hr2,l2,x2,k2⟩:=aX (P:=Tryz.prog) (w:=w) (t:=52) (z:=.agg #[.slice none 0 0,I 0,I 0,B false,.slice none 0 0,.slice none 0 0,.slice none 0 0,B false,.slice none 0 0]) (l:=[.slice none 0 0,I 0,I 0,B false,.slice none 0 0,.slice none 0 0,.slice none 0 0,B false,.slice none 0 0]) (by kernel_rfl) rfl
 refine aT E hr2 (ae E E (ag (ab (af (aa ?_)))))
 obtain⟨g4,w4,hr4,l4,x4,k4⟩:=aX (P:=Tryz.prog) (w:=w2) (t:=52) (z:=.agg #[.slice none 0 0,I 0,I 0,B false,.slice none 0 0,.slice none 0 0,.slice none 0 0,B false,.slice none 0 0]) (l:=[.slice none 0 0,I 0,I 0,B false,.slice none 0 0,.slice none 0 0,.slice none 0 0,B false,.slice none 0 0]) (by kernel_rfl) rfl
 refine aT E hr4 ?_
 have hr4:=cv.ext hr (x2.trans x4)
 have ex4:=(x2.trans x4)
 have lt4:=k4.lt
 have lt2:=k2.lt
 have g42:g2<g4:=by omega
 have hg4:g<g4:=by omega
 have k24:=k2.ext x4
 have sz4:=ex4.size
 refine ag (ab (af (aa (ac E E (am xi E E ((cF hr4)) ?_)))))
 rintro v16 w16 ⟨g16,rfl,hr16⟩
 have m16:=eA.kp hr4 g16
 have mF:Mv (fun k=>RX g k∨k=g4) w4 w16:=Mv.of_grown g16 fun k hk _=>.inl (Option.some.inj hk).symm
 have k16:=k4.other g16 (fun e=>by have:=Option.some.inj e;omega)
 refine ac E E (ao E E (bj) (ao E E (bk) (ae E E (ae E E (ag (ab (af (af ?_))))))))
 rcases ok1 with _|_
 ·refine aa (ac E E (bt E E bu (ag (ab (bg E (af ?_))))))
  obtain⟨wd,sd,kd,fin⟩:=nR (st:=st) (nd:=.mk [] lC [] false []) hlt l2 g42 ex4 k24 rfl mF (av.cons rfl (av.cons rfl (av.cons rfl (av.cons rfl (av.cons rfl (av.cons rfl (av.cons rfl (av.cons rfl (av.cons rfl av.nil))))))))) (eG j7 jL j7 j7) hr16
  refine aa (ak E E (k16.ld Mt E (by kernel_rfl)) ?_)
  refine au E E sd ?_
  refine ae E E (ag (ab (aw (ay ?_))))
  refine cD E E E kd Mt E (by kernel_rfl) ?_
  exact⟨_,rfl,fin false ⟨(fun e=>nomatch e),fun _=>HY (hno1 rfl)⟩⟩
 ·refine aa (ac E E (bt E E bu (ag (ab (cr E (aC (ab (af ?_))))))))
  obtain⟨qF,nF⟩:=hok1 rfl
  obtain⟨l1,rfl⟩:∃l1,s1=some l1:=by
   cases s1 with
   |none=>exact absurd rfl nF
   |some l1=>exact⟨l1,rfl⟩
  have hl1:i0 (some l1):=hat1 _ hl
  have hn1:l1.length+1≤n:=by
   obtain⟨l0,e0,q0⟩:=qF.some
   have:=rS 2 l0 _ _ q0
   have:=hn l0 e0
   omega
  have an1:uc (n-1) (some l1):=fun l' e=>by cases e;omega
  obtain⟨w5,s5,q5,k5⟩:=k16.stC (P:=Tryz.prog) (t:=4) (i:=7) (v:=B (decide (tag=1))) xh rfl (by simp)
  have k5:ct g4 52 [.slice none 0 0,I 0,I 0,B false,.slice none 0 0,.slice none 0 0,.slice none 0 0,B (decide (tag=1)),.slice none 0 0] w5:=k5
  have m5:Mv (fun k=>k=g4) w16 w5:=Mv.of_grown q5 fun k hk _=>(Option.some.inj hk).symm
  have r5:cv g (some l1) w5:=hr16.mv m5 fun j hj=>by omega
  have mE:Mv (fun k=>RX g k∨k=g4) w4 w5:=mF.trans m5 fun _ hj _=>.inr hj
  refine aa (ac E E (al (v:=bF 1) (r:=B (decide (tag=1))) E E E ((Kz htag)) ?_))
  refine ah E E (ar (o:=7) Mt E (by kernel_rfl) E) ?_
  refine au E E s5 ?_
  refine ag (ab (af (aa (ac E E (am fE E E ((cU r5)) ?_)))))
  rintro v27 w27 ⟨g27,rfl,hr27⟩
  have m27:=eA.kp r5 g27
  have mG:Mv (fun k=>RX g k∨k=g4) w4 w27:=mE.trans (Mv.of_grown g27 fun k hk _=>(Option.some.inj hk).symm:Mv (RX g) w5 w27) fun _ hj _=>.inl hj
  have k27:=k5.other g27 (fun e=>by have:=Option.some.inj e;omega)
  refine ac E E (ao E E (bj) (ao E E (bk) (ae E E (ae E E (ag (ab (af (af ?_))))))))
  rcases s2 with _|lc
  ·refine aa (ac E E (al E E E (ci (by simp) cX) (ag (ab (bg E (af ?_))))))
   obtain⟨wd,sd,kd,fin⟩:=nR (st:=st) (nd:=.mk [] lC [] (decide (tag=1)) []) hlt l2 g42 ex4 k24 rfl mG (av.cons rfl (av.cons rfl (av.cons rfl (av.cons rfl (av.cons rfl (av.cons rfl (av.cons rfl (av.cons rfl (av.cons rfl av.nil))))))))) (eG j7 jL j7 j7) hr27
   refine aa (ak E E (k27.ld Mt E (by kernel_rfl)) ?_)
   refine au E E sd ?_
   refine ae E E (ag (ab (aw (ay ?_))))
   refine cD E E E kd Mt E (by kernel_rfl) ?_
   exact⟨_,rfl,fin false ⟨(fun e=>nomatch e),fun _=>xe qF (ui (done:=([]:List dN)) qU rfl)⟩⟩
  ·refine aa (ac E E (al E E E (cY (by simp) cX) (ag (ab (cr E (aC (ab (af (aE ?_)))))))))
   refine jf (fun(k:Nat) (v:Value) (l:List UInt8) (ls:List dN)=>[(0,.pointer (some ⟨g,0,none⟩)),(2,.pointer (some ⟨g2,0,none⟩)),(4,.pointer (some ⟨g4,0,none⟩)),(5,bF (UInt64.ofNat tag)),(7,bF (UInt64.ofNat N))]) (fun(k:Nat) (v:Value) (l:List UInt8) (ls:List dN) w'=>Mv (fun k=>RX g k∨k=g4) w4 w'∧cv g (some l) w'∧ct g4 52 [v,I 0,I 0,B false,.slice none 0 0,.slice none 0 0,.slice none 0 0,B (decide (tag=1)),.slice none 0 0] w'∧gq 173 6 w4.heap.size dc ls v w'∧k+ls.length=N∧(some lc).bind (bT nN N)=(some l).bind (fun l=>(bT nN k l).map fun p=>(ls++p.1,p.2))∧l.length+ls.length≤549755813888∧l.length≤n-1) (fun(k:Nat) (v:Value) (l:List UInt8) (ls:List dN)=>k) (N) (.slice none 0 0) (lc) ([]) ⟨rfl,rfl,rfl,rfl,rfl,trivial⟩ ⟨mG,hr27,k27,gq.nil _,by simp,rQ,by have:=qU.atM lS.le hl1 lc rfl;simpa using this,qU.atM lS.le an1 lc rfl⟩ ?_
   rintro k v l ls wL ⟨mL,hrL,kL,oL,hk,hR,hql,hnl⟩
   refine af (af ?_)
   have rL:=oL.rpx cH (by omega)
   have hvo:v.oneCell'=true:=by obtain⟨_,_,_,rfl⟩:=oL.isS;rfl
   have hll:ls.length<18446744073709551616:=by omega
   have hgL:g<wL.heap.size:=by have:=mL.size;omega
   have hg4L:g4<wL.heap.size:=by have:=mL.size;omega
   have hlL:i0 (some l):=fun l' e=>by cases e;omega
   rcases Nat.eq_zero_or_pos k with h0|h0
   rotate_left
   ·refine aa (ah E E (ar (o:=0) Mt E (by kernel_rfl) E) (ak E E (aj MG E (kL.cell (i:=0) E)) ?_))
    refine aO (r:=I ls.length) E E ((a6 (f:=dc) MG rL.rp)) (a9 E E (mY Mx MA) ?_)
    refine ac E E (al E E E (ci ((Je hll hN).2 (by omega)) gU) (ag (ab (bg E (aC (ab (aE (af ?_))))))))
    obtain⟨n1,sA,q1,i1,c1⟩:=rT (some l)
    obtain⟨up,sB,ok2,hok2,hno2,hup,hat2,c2⟩:=yX sA (most:=1) (by omega)
    have atB:i0 sB:=hat2 _ (q1.atM eZ.le hlL)
    refine aa ?_
    obtain⟨g9,w9,hr9,l9,x9,k9⟩:=aX (P:=Tryz.prog) (w:=wL) (t:=173) (z:=.agg #[I 0,B false,B false,.slice none 0 0,.slice none 0 0,.slice none 0 0]) (l:=[I 0,B false,B false,.slice none 0 0,.slice none 0 0,.slice none 0 0]) (by kernel_rfl) rfl
    refine aT E hr9 (ag (ab (af ?_)))
    have hr9:=cv.ext hrL x9
    have e9:=x9
    have hg9:g<g9:=by omega
    have lt9:=k9.lt
    have h49:g4<g9:=by omega
    refine aa (ac E E (am jz E E ((c1 hr9)) ?_))
    rintro v41 w41 ⟨g41,rfl,hr41⟩
    have m41:=eA.kp hr9 g41
    obtain⟨wa,sa,ma,ka,ra,_⟩:=eA.put (P:=Tryz.prog) (t:=3) (v:=I n1) k9 g41 hr41 hg9 (i:=0) gj rfl (by simp)
    refine ac E E (ao E E (bj) (ao E E bk ?_))
    refine ah E E (ar (o:=0) MI E (by kernel_rfl) E) ?_
    refine au E E sa ?_
    refine ag (ab (af (aa (ac E E (am xi E E ((c2 ra)) ?_)))))
    rintro v47 w47 ⟨g47,rfl,hr47⟩
    have m47:=eA.kp ra g47
    obtain⟨wb,sb,mb,kb,rb,_⟩:=eA.put (P:=Tryz.prog) (t:=4) (v:=B (bV up)) ka g47 hr47 hg9 (i:=1) xh rfl (by simp)
    refine ac E E (ao E E (bj) (ao E E (bk) (ae E E (ae E E (ag (ab (af (aa (ac E E (al (v:=bF 1) (r:=B (bV up)) E E E ((Kz hup)) ?_))))))))))
    refine ah E E (ar (o:=1) MI E (by kernel_rfl) E) ?_
    refine au E E sb ?_
    refine ag (ab (af (aa (ac E E (am t9 E E ((Dn rb atB)) ?_)))))
    rintro v55 w55 ⟨g55,q,x,y,sC,rfl,hx,hy,rq,hr55,q3⟩
    have m55:=eA.kp rb g55
    obtain⟨wc,sc,mc,kc,rc,qc⟩:=eA.putO (P:=Tryz.prog) (t:=46) (m:=[B q.1,x,y]) kb g55 hr55 hg9 2 (by simp) (by kernel_rfl) (av.cons rfl (av.cons hx.one (av.cons hy.one av.nil)))
    have kc:ct g9 173 [I n1,B (bV up),B q.1,x,y,.slice none 0 0] wc:=kc
    refine ac E E (ao E E (bj) (ao E E bk ?_))
    refine ah E E (ar (o:=2) MI E (by kernel_rfl) E) ?_
    refine au E E sc ?_
    refine ag (ab (af (aa (ac E E (am uY E E ((uZ rc (q3.atM ue.le atB))) ?_)))))
    rintro v61 w61 ⟨m61,ps,vp,sD,rfl,rp61,hvp,hr61,q4⟩
    have m61:=m61
    have k61:=m61.blk kc (fun e=>by have:g9=g:=e;omega)
    obtain⟨we,se,qe,ke⟩:=k61.stC (P:=Tryz.prog) (t:=50) (i:=5) (v:=vp) (by kernel_rfl) hvp (by simp)
    have ke:ct g9 173 [I n1,B (bV up),B q.1,x,y,vp] we:=ke
    have me:Mv (fun k=>k=g9) w61 we:=Mv.of_grown qe fun k hk _=>(Option.some.inj hk).symm
    have re:cv g sD we:=hr61.mv me fun j hj=>by omega
    have mAll:Mv (RX g) wL we:=((Mv.of_ext e9).trans (((ma.trans mb fun _ hn _=>hn).trans mc fun _ hn _=>hn).trans m61 fun _ hn _=>.inl hn) fun j hj hlt=>by
     rcases hj with hj|hj
     ·exact hj
     ·omega).trans me fun j hj hlt=>by omega
    have hXL:∀j,RX g j→j<w4.heap.size:=fun j hj=>by have:j=g:=hj;omega
    have oE:=oL.mv mAll hXL
    have kE:=mAll.blk kL (fun e=>by have:g4=g:=e;omega)
    have mLE:Mv (fun k=>RX g k∨k=g4) w4 we:=mL.trans mAll fun _ hj _=>.inl hj
    have sb9:w9.heap.size≤wb.heap.size:=Nat.le_trans ma.size mb.size
    have sc9:wb.heap.size≤w55.heap.size:=g55.size
    have sc10:w55.heap.size≤wc.heap.size:=qc.size
    have szL:wL.heap.size≤w9.heap.size:=e9.size
    have rqe:=rq.mv (((Mv.of_grown qc fun k hk _=>by obtain rfl:=Option.some.inj hk;show g9<wb.heap.size;omega:Mv (fun k=>k<wb.heap.size) w55 wc).trans m61 fun j hj _=>by have:j=g:=hj;show j<wb.heap.size;omega).trans me fun j hj _=>by show j<wb.heap.size;omega) fun _ hk=>.inl hk
    have rpe:=rp61.mv (me.weak fun j hj _=>by show j<wc.heap.size;omega) fun _ hk=>.inl hk
    refine ac E E (ao E E (bj) (ao E E (bk) ?_))
    refine ah E E (ar (o:=5) MI E (by kernel_rfl) E) ?_
    refine au E E se ?_
    refine ae E E (ag (ab (af (af ?_))))
    obtain⟨k',rfl⟩:∃k',k=k'+1:=⟨k-1,by omega⟩
    rcases ok2 with _|_
    rotate_left
    rcases sD with _|lD
    ·refine aa (ac E E (bt E E bu (ac E E (ai E (ac E E (ai E (bt E E bu (aD E E E (ag (ab (bg E (af ?_))))))))))))
     obtain⟨wd,sd,kd,fin⟩:=nR (st:=st) (nd:=.mk ls lC [] (decide (tag=1)) []) hlt l2 g42 ex4 k24 rfl mLE (av.cons hvo (av.cons rfl (av.cons rfl (av.cons rfl (av.cons rfl (av.cons rfl (av.cons rfl (av.cons rfl (av.cons rfl av.nil))))))))) (eG (oE.rpx cH (by omega)) jL j7 j7) re
     refine aa (ak E E (kE.ld Mt E (by kernel_rfl)) ?_)
     refine au E E sd ?_
     refine ae E E (ag (ab (aw (ay (aZ (ay (aZ (ay ?_))))))))
     refine cD E E E kd Mt E (by kernel_rfl) ?_
     exact⟨_,rfl,fin false ⟨(fun e=>nomatch e),fun _=>xe qF (y8 qU hR (H4 q1 (hok2 rfl).1 q3 q4))⟩⟩
    ·refine aa (ac E E (bt E E bu (ac E E (ai E (ac E E (ai E (bt E E bu (aD E E E (ag (ab (cr E (aC ?_))))))))))))
     refine ab ?_
     have own:∀j,v.ownBlock=some j→w4.heap.size≤j∧j<wL.heap.size:=oL.lt
     have qLm:fR nN (some l) ⟨n1,bV up,q,ps⟩ (some lD):=Dk q1 (hok2 rfl).1 q3 q4
     have hlD:=Ak l _ lD qLm
     have hY:∀j,(j<w4.heap.size∨v.ownBlock=some j)→j<wL.heap.size:=fun j hj=>by
      rcases hj with hj|hj
      ·have:=mL.size;omega
      ·exact(own j hj).2
     have hM:=xm (l:=⟨n1,bV up,q,ps⟩) (rqe.weak (Y:=fun k=>k<w4.heap.size∨v.ownBlock=some k) fun j hj=>.inl (by have:=hY j hj;show j<wb.heap.size;omega)) (rpe.weak fun j hj=>.inl (by have:=hY j hj;show j<wc.heap.size;omega))
     obtain⟨x75,w75,v76,w76,hr75,hr76,o76,m76,n76⟩:=oE.push (ty:=42) (t:=42) MG xl rfl (by omega) (by omega) (by omega) (av.cons rfl (av.cons rfl (av.cons rfl (av.cons hx.one (av.cons hy.one (av.cons hvp av.nil)))))) hM cH (by omega) mLE.size
     have h76:cv g (some lD) w76:=re.mv m76 fun j hj=>by have:=own j hj;omega
     have k76:=m76.blk kE (fun hh=>by have:=own g4 hh;omega)
     obtain⟨A76,n76',c76,rfl⟩:=o76.isS
     obtain⟨wf,sf,qf,kf⟩:=k76.stC (P:=Tryz.prog) (t:=42) (i:=0) (v:=.slice A76 n76' c76) (by kernel_rfl) rfl (by simp)
     have kf:ct g4 52 [.slice A76 n76' c76,I 0,I 0,B false,.slice none 0 0,.slice none 0 0,.slice none 0 0,B (decide (tag=1)),.slice none 0 0] wf:=kf
     have mf:Mv (fun k=>k=g4) w76 wf:=Mv.of_grown qf fun k hk _=>(Option.some.inj hk).symm
     have hf:cv g (some lD) wf:=h76.mv mf fun j hj=>by omega
     have of':=o76.mv mf fun j hj=>by omega
     refine aa (ah E E (ar (o:=0) Mt E (by kernel_rfl) E) (ak E E (aj MG E (kE.cell (i:=0) E)) ?_))
     refine ak E E (ke.ld MI E (by kernel_rfl)) ?_
     refine aJ (vs:=[(0,.agg #[I n1,B (bV up),B q.1,x,y,vp])]) E E hr75 ?_
     refine ba E E hr76 ?_
     refine ah E E (ar (o:=0) Mt E (by kernel_rfl) E) ?_
     refine au E E sf ?_
     refine ag (aS ?_)
     refine fj (k') (.slice A76 n76' c76) (lD) (ls++[⟨n1,bV up,q,ps⟩]) ⟨rfl,rfl,rfl,rfl,rfl,trivial⟩ ⟨(mLE.trans m76 fun j hj hlt=>by have:=(own j hj).1;omega).trans mf fun _ hj _=>.inr hj,hf,kf,of',by simp;omega,qp hR qLm,by simp;omega,by omega⟩ (by omega)
    ·refine aa (ac E E (bt E E bu (ac E E (an E E E (an E E E (ap E E E (ag (ab (bg E (af ?_))))))))))
     obtain⟨wd,sd,kd,fin⟩:=nR (st:=st) (nd:=.mk ls lC [] (decide (tag=1)) []) hlt l2 g42 ex4 k24 rfl mLE (av.cons hvo (av.cons rfl (av.cons rfl (av.cons rfl (av.cons rfl (av.cons rfl (av.cons rfl (av.cons rfl (av.cons rfl av.nil))))))))) (eG (oE.rpx cH (by omega)) jL j7 j7) re
     refine aa (ak E E (kE.ld Mt E (by kernel_rfl)) ?_)
     refine au E E sd ?_
     refine ae E E (ag (ab (aw (ay (aZ (ay (aZ (ay ?_))))))))
     refine cD E E E kd Mt E (by kernel_rfl) ?_
     exact⟨_,rfl,fin false ⟨(fun e=>nomatch e),fun _=>xe qF (y8 qU hR (H3 q1 (hno2 rfl)))⟩⟩
   ·refine aa (ah E E (ar (o:=0) Mt E (by kernel_rfl) E) (ak E E (aj MG E (kL.cell (i:=0) E)) ?_))
    refine aO (r:=I ls.length) E E ((a6 (f:=dc) MG rL.rp)) (a9 E E (mY Mx MA) ?_)
    refine ac E E (al E E E (cY (mt (Je hll hN).1 (by omega)) gU) (ag (ab (cr E (bc (aI (aI (be (ab (af (af ?_)))))))))))
    have qLs:fR jq (some l1) ls (some l):=uh qU (by subst h0;exact hR)
    have anL:uc (n-1) (some l):=fun l' e=>by cases e;exact hnl
    by_cases ht:tag<2
    ·refine aa (ac E E (al (v:=bF 2) E E E (ci ((Je htag (by omega)).2 ht) gU) (ag (ab (bg E (af (aa (ac E E (am uY E E ((uZ hrL hlL)) ?_)))))))))
     rintro v82 w82 ⟨m82,ps,vp,s3,rfl,rp82,hvp,hr82,qP⟩
     have m82:=m82
     have k82:=m82.blk kL (fun e=>by have:g4=g:=e;omega)
     obtain⟨we,se,qe,ke⟩:=k82.stC (P:=Tryz.prog) (t:=50) (i:=8) (v:=vp) (by kernel_rfl) hvp (by simp)
     have ke:ct g4 52 [v,I 0,I 0,B false,.slice none 0 0,.slice none 0 0,.slice none 0 0,B (decide (tag=1)),vp] we:=ke
     have me:Mv (fun k=>k=g4) w82 we:=Mv.of_grown qe fun k hk _=>(Option.some.inj hk).symm
     have re:cv g s3 we:=hr82.mv me fun j hj=>by omega
     have hXL:∀j,RX g j→j<w4.heap.size:=fun j hj=>by have:j=g:=hj;omega
     have oE:=(oL.mv m82 hXL).mv me fun j hj=>by omega
     have mLE:Mv (fun k=>RX g k∨k=g4) w4 we:=(mL.trans m82 fun _ hj _=>.inl hj).trans me fun _ hj _=>.inr hj
     have rpe:=rp82.mv (me.weak fun j hj _=>by show j<wL.heap.size;omega) fun _ hk=>.inl hk
     obtain⟨wd,sd,kd,fin⟩:=nR (st:=st) (nd:=.mk ls lC [] (decide (tag=1)) ps) hlt l2 g42 ex4 k24 rfl mLE (av.cons hvo (av.cons rfl (av.cons rfl (av.cons rfl (av.cons rfl (av.cons rfl (av.cons rfl (av.cons rfl (av.cons hvp av.nil))))))))) (eG (oE.rpx cH (by omega)) jL j7 (rpe.weak fun j hj=>.inl (by have:=mL.size;show j<wL.heap.size;omega))) re
     refine ac E E (ao E E (bj) (ao E E (bk) ?_))
     refine ah E E (ar (o:=8) Mt E (by kernel_rfl) E) ?_
     refine au E E se ?_
     refine ae E E (ag (ab (af (aa (ak E E (ke.ld Mt E (by kernel_rfl)) (ac E E ?_))))))
     refine au E E sd ?_
     refine ae E E (ag (ab (aw (ay ?_))))
     refine cD E E E kd Mt E (by kernel_rfl) ?_
     exact⟨_,rfl,fin _ ⟨fun e=>⟨Gd ht qF qLs qP,fun e3=>by rw[e3] at e;cases e⟩,fun e=>HZ ht qF qLs (by
      cases s3 with
      |none=>exact qP
      |some t=>cases e)⟩⟩
    ·refine aa (ac E E (al (v:=bF 2) E E E (cY (mt (Je htag (by omega)).1 ht) gU) (ag (ab (cr E (aC (ab (af (aa (ac E E ?_))))))))))
     refine am yW E E ((yY hrL hlL)) ?_
     rintro v90 w90 ⟨m90,d,x,y,s3,rfl,rd90,hx,hy,hr90,qD⟩
     have m90:=m90
     have k90:=m90.blk kL (fun e=>by have:g4=g:=e;omega)
     obtain⟨we,se,qe,ke⟩:=k90.stO (P:=Tryz.prog) (t:=48) (m:=[I d.kd,I d.ix,B d.at_.1,x,y]) 1 (by simp) (by kernel_rfl) (av.cons rfl (av.cons rfl (av.cons rfl (av.cons hx (av.cons hy av.nil)))))
     have ke:ct g4 52 [v,I d.kd,I d.ix,B d.at_.1,x,y,.slice none 0 0,B (decide (tag=1)),.slice none 0 0] we:=ke
     have me:Mv (fun k=>k=g4) w90 we:=Mv.of_grown qe fun k hk _=>(Option.some.inj hk).symm
     have re:cv g s3 we:=hr90.mv me fun j hj=>by omega
     have hXL:∀j,RX g j→j<w4.heap.size:=fun j hj=>by have:j=g:=hj;omega
     have oE:=(oL.mv m90 hXL).mv me fun j hj=>by omega
     have mLE:Mv (fun k=>RX g k∨k=g4) w4 we:=(mL.trans m90 fun _ hj _=>.inl hj).trans me fun _ hj _=>.inr hj
     have rdE:=rd90.mv (me.weak fun j hj _=>by show j<wL.heap.size;omega) fun _ hk=>.inl hk
     have jK:cN (fun k=>k<w4.heap.size∨we.heap.size≤k) we (dC d) [I d.kd,I d.ix,B d.at_.1,x,y]:=rdE.weak fun j hj=>by
      rcases hj with hj|hj
      ·exact .inl (by have:=mL.size;show j<wL.heap.size;omega)
      ·exact .inr hj
     have rLI:cN (fun k=>k<w4.heap.size∨we.heap.size≤k) we (.sl (ls.map dc)) [v]:=(oE.rpx cH (by omega)).weak fun j hj=>hj
     have eT:decide (tag=1)=false:=decide_eq_false (by omega)
     refine ac E E (ao E E (bj) (ao E E (bk) ?_))
     refine ah E E (ar (o:=1) Mt E (by kernel_rfl) E) ?_
     refine au E E se ?_
     refine ae E E (ag (ab (af (af (aa (ae E E (ag (ab (aE ?_)))))))))
     refine ta (fun(i:Nat) (vk:Value) (so:Option (List UInt8)) (ks:List aY) (ok:Bool)=>[(0,.pointer (some ⟨g,0,none⟩)),(2,.pointer (some ⟨g2,0,none⟩)),(4,.pointer (some ⟨g4,0,none⟩)),(6,B ok),(12,I i)]) (fun(i:Nat) (vk:Value) (so:Option (List UInt8)) (ks:List aY) (ok:Bool) w'=>Mv (fun k=>RX g k∨k=g4) w4 w'∧cv g so w'∧ct g4 52 [v,I d.kd,I d.ix,B d.at_.1,x,y,vk,B (decide (tag=1)),.slice none 0 0] w'∧gq 52 9 we.heap.size bG ks vk w'∧y5 s3 i ks so ok∧ks.length=i∧i≤2∧cN (fun k=>k<w4.heap.size∨we.heap.size≤k) w' (.sl (ls.map dc)) [v]∧cN (fun k=>k<w4.heap.size∨we.heap.size≤k) w' (dC d) [I d.kd,I d.ix,B d.at_.1,x,y]∧we.heap.size≤w'.heap.size∧(ok=true→uc (n-1) so∧i0 so)) (fun(i:Nat) (vk:Value) (so:Option (List UInt8)) (ks:List aY) (ok:Bool)=>2-i) (0) (.slice none 0 0) (s3) ([]) (s3.isSome) ⟨rfl,rfl,rfl,rfl,rfl,trivial⟩ ⟨mLE,re,ke,gq.nil _,⟨rfl,rfl,rfl⟩,rfl,by omega,rLI,jK,Nat.le_refl _,fun _=>⟨qD.atM nO.le anL,qD.atM nO.le hlL⟩⟩ ?_
     rintro i vk so ks ok wM ⟨mM,hrM,kM,oM,hK,hki,hi2,rLM,rdM,szM,hAt⟩
     refine af (af ?_)
     rcases ok with _|_
     rotate_left
     by_cases hi:i<2
     ·refine aa (ac E E (ac E E (ai E (ac E E (ai E (al E E E (ci (by omega) aV) (ap E E E (ag (ab (bg E ?_))))))))))
      refine aC (ab (af (aE (af (aa ?_)))))
      obtain⟨g13,w13,hr13,l13,x13,k13⟩:=aX (P:=Tryz.prog) (w:=wM) (t:=52) (z:=.agg #[.slice none 0 0,I 0,I 0,B false,.slice none 0 0,.slice none 0 0,.slice none 0 0,B false,.slice none 0 0]) (l:=[.slice none 0 0,I 0,I 0,B false,.slice none 0 0,.slice none 0 0,.slice none 0 0,B false,.slice none 0 0]) (by kernel_rfl) rfl
      refine aT E hr13 (ag (ab (af ?_)))
      have hrM13:=cv.ext hrM x13
      have e13:=x13
      have lt13:=k13.lt
      have szM13:=e13.size
      have hg13:g<g13:=by have:=mM.size;omega
      refine aa (ac E E (am xj E E ((ih (m:=n-1) (by omega) hrM13 (hAt E).2 (hAt E).1)) ?_))
      rintro v103 w103 ⟨m103,nd,cs,s6,ok6,rfl,rp103,h1cs,hr103,hNd⟩
      have m103:=m103
      have hcs:cs.length=9:=rp103.len.trans (cG nd)
      have k103:=m103.blk k13 (fun e=>by have:g13=g:=e;omega)
      obtain⟨wn,sn,qn,kn⟩:=k103.stS (P:=Tryz.prog) (t:=52) (m:=cs) (by rw[hcs];rfl) (by rw[hcs];kernel_rfl) h1cs
      have mn:Mv (fun k=>k=g13) w103 wn:=Mv.of_grown qn fun k hk _=>(Option.some.inj hk).symm
      have rn:cv g s6 wn:=hr103.mv mn fun j hj=>by omega
      have mAll:Mv (RX g) wM wn:=((Mv.of_ext e13).trans m103 fun _ hj _=>hj).trans mn fun j hj hlt=>by omega
      have hXE:∀j,RX g j→j<we.heap.size:=fun j hj=>by have:j=g:=hj;have:=mLE.size;omega
      have oN:=oM.mv mAll hXE
      have kN:=mAll.blk kM (fun e=>by have:g4=g:=e;omega)
      have mN:Mv (fun k=>RX g k∨k=g4) w4 wn:=mM.trans mAll fun _ hj _=>.inl hj
      have rpn:=rp103.mv (mn.weak fun j hj _=>by show j<w13.heap.size;omega) fun _ hk=>.inl hk
      have own:∀j,vk.ownBlock=some j→we.heap.size≤j∧j<wM.heap.size:=oM.lt
      have hY:∀j,(j<we.heap.size∨vk.ownBlock=some j)→j<w13.heap.size:=fun j hj=>by
       rcases hj with hj|hj
       ·omega
       ·have:=(own j hj).2;omega
      obtain⟨x109,w109,v110,w110,hr109,hr110,o110,m110,n110⟩:=oN.push (ty:=49) (t:=49) MF Gg rfl (by omega) (by omega) (by omega) h1cs (rpn.weak fun j hj=>.inl (hY j hj)) cG (by omega) (Nat.le_trans szM mAll.size)
      have h110:cv g s6 w110:=rn.mv m110 fun j hj=>by have:=own j hj;have:=mLE.size;omega
      have k110:=m110.blk kN (fun hh=>by have:=own g4 hh;have:=mLE.size;omega)
      obtain⟨A110,n110',c110,rfl⟩:=o110.isS
      obtain⟨wf,sf,qf,kf⟩:=k110.stC (P:=Tryz.prog) (t:=49) (i:=6) (v:=.slice A110 n110' c110) (by kernel_rfl) rfl (by simp)
      have kf:ct g4 52 [v,I d.kd,I d.ix,B d.at_.1,x,y,.slice A110 n110' c110,B (decide (tag=1)),.slice none 0 0] wf:=kf
      have mf:Mv (fun k=>k=g4) w110 wf:=Mv.of_grown qf fun k hk _=>(Option.some.inj hk).symm
      have hf:cv g s6 wf:=h110.mv mf fun j hj=>by omega
      have of':=o110.mv mf fun j hj=>by have:=mLE.size;omega
      have mI:Mv (fun k=>k<w4.heap.size∨we.heap.size≤k) wM wf:=((mAll.weak fun j hj _=>.inl (by have:j=g:=hj;omega)).trans m110 fun j hj _=>.inr (own j hj).1).trans mf fun j hj _=>.inl (by omega)
      have rLf:=rLM.mv mI fun _ hk=>.inl hk
      have rdf:=rdM.mv mI fun _ hk=>.inl hk
      refine ac E E (ao E E (bj) (ao E E (bk) ?_))
      refine au E E sn ?_
      refine ae E E (ag (ab (aa (ah E E (ar (o:=6) Mt E (by kernel_rfl) E) (ak E E (aj MF E (kN.cell (i:=6) E)) ?_)))))
      refine ak E E (kn.ld Mt E (by rw[hcs];kernel_rfl)) ?_
      refine aJ (vs:=[(0,.agg cs.toArray)]) E E hr109 ?_
      refine ba E E hr110 ?_
      refine ah E E (ar (o:=6) Mt E (by kernel_rfl) E) ?_
      refine au E E sf ?_
      refine ag (aS (ab (aa (ac E E (al E E E (aN (by omega) (by omega)) (ae E E (ag ?_)))))))
      refine oY (i+1) (.slice A110 n110' c110) (s6) (ks++[nd]) (ok6) ⟨rfl,rfl,rfl,rfl,rfl,trivial⟩ ⟨(mN.trans m110 fun j hj hlt=>by have:=(own j hj).1;have:=mLE.size;omega).trans mf fun _ hj _=>.inr hj,hf,kf,of',hK.step hi hNd,by simp;omega,by omega,rLf,rdf,Nat.le_trans szM (Nat.le_trans mAll.size (Nat.le_trans m110.size mf.size)),fun e=>⟨(hNd.1 e).1.atM EK.le (hAt E).1,(hNd.1 e).1.atM EK.le (hAt E).2⟩⟩ (by omega)
     ·refine aa (ac E E (ac E E (ai E (ac E E (ai E (al E E E (cY (by omega) aV) (ap E E E (ag (ab (cr E ?_))))))))))
      refine bc (aI (aI (be (ab (af ?_)))))
      have hvk:vk.oneCell'=true:=by obtain⟨_,_,_,rfl⟩:=oM.isS;rfl
      obtain⟨wd,sd,kd,fin⟩:=nR (st:=st) (nd:=.mk ls d ks (decide (tag=1)) []) hlt l2 g42 ex4 k24 rfl mM (av.cons hvo (av.cons rfl (av.cons rfl (av.cons rfl (av.cons hx (av.cons hy (av.cons hvk (av.cons rfl (av.cons rfl av.nil))))))))) (eG (rLM.weak fun j hj=>.inl (.inl hj)) (rdM.weak fun j hj=>.inl (.inl hj)) ((oM.rpx cG (by omega)).weak fun j hj=>.inl (by have:=mLE.size;show j<we.heap.size;omega)) j7) hrM
      refine aa (ak E E (kM.ld Mt E (by kernel_rfl)) (ac E E ?_))
      refine au E E sd ?_
      refine ae E E (ag (ab (aw ?_)))
      refine cD E E E kd Mt E (by kernel_rfl) ?_
      exact⟨_,rfl,fin true (by rw[eT];exact hK.done (.inr (by omega)) ht qF qLs qD)⟩
     ·refine aa (ac E E (ac E E (an E E E (an E E E (aD E E E (ag (ab (cr E (bc (aI (aI (be (ab (af ?_))))))))))))))
      have hvk:vk.oneCell'=true:=by obtain⟨_,_,_,rfl⟩:=oM.isS;rfl
      obtain⟨wd,sd,kd,fin⟩:=nR (st:=st) (nd:=.mk ls d ks (decide (tag=1)) []) hlt l2 g42 ex4 k24 rfl mM (av.cons hvo (av.cons rfl (av.cons rfl (av.cons rfl (av.cons hx (av.cons hy (av.cons hvk (av.cons rfl (av.cons rfl av.nil))))))))) (eG (rLM.weak fun j hj=>.inl (.inl hj)) (rdM.weak fun j hj=>.inl (.inl hj)) ((oM.rpx cG (by omega)).weak fun j hj=>.inl (by have:=mLE.size;show j<we.heap.size;omega)) j7) hrM
      refine aa (ak E E (kM.ld Mt E (by kernel_rfl)) (ac E E ?_))
      refine au E E sd ?_
      refine ae E E (ag (ab (aw ?_)))
      refine cD E E E kd Mt E (by kernel_rfl) ?_
      exact⟨_,rfl,fin false (by rw[eT];exact hK.done (.inl rfl) ht qF qLs qD)⟩
theorem Dq:∀(n:Nat) {w:World} {g:Nat} {st:Option (List UInt8)},cv g st w→i0 st→uc n st→Calls Tryz.prog 96 #[.pointer (some ⟨g,0,none⟩)] w (bE (EM g w st)):=by
 intro n
 induction n using Nat.strongRecOn with
 |_ n ih=>exact fun hr hl hn=>Dp (n:=n) (fun {w g st m} hm h1 h2 h3=>ih m hm h1 h2 h3) hr hl hn
end Go.Rl
namespace Go.Rl
open Go.RowKit Go.Proofs
theorem EN {w:World} {g:Nat} {st:Option (List UInt8)} (hr:cv g st w):Calls Tryz.prog 97 #[.pointer (some ⟨g,0,none⟩)] w (bE fun r w'=>w=w'∧r=I (if st=some [] then 0 else 5)):=(Dh hr).mono fun _ _ ⟨v,h,h1,h2⟩=>⟨v,h,h2.symm,h1⟩
theorem H6 {P:Program} {w:World} {t:TypeId} {x y:Operand} {l:List UInt8}:(bin .eql t x y (I (if some l=some [] then 0 else 5)) (I 0)).run P w=.ok (B (decide (l=[]))) w:=by
 by_cases h:l=[]
 ·subst h
  exact bi
 ·rw[if_neg (fun e=>h (Option.some.inj e)),decide_eq_false h]
  exact bi
end Go.Rl
namespace Go.Rl
open Go.RowKit Go.Proofs
theorem Lg (st:Option (List UInt8)):∃n s1,fR eW st n s1∧n<18446744073709551616∧∀{w:World} {g:Nat},cV g st w→Calls Tryz.prog 89 #[.pointer (some ⟨g,0,none⟩)] w (bE fun r w'=>w.grownBy w' (some g)∧r=.tuple #[bF (UInt64.ofNat n),I (if s1.isSome=true then 0 else 5)]∧cV g s1 w'):=by
 cases hU:st.bind eW with
 |none=>exact⟨0,none,hU,by omega,fun hr=>Kx hr hU⟩
 |some p=>
  obtain⟨n,t⟩:=p
  refine⟨n,some t,hU,?_,fun hr=>HT hr hU⟩
  cases st with
  |none=>cases hU
  |some l=>exact(f9 (show eW l=some (n,t) from hU)).2
theorem Lh (st:Option (List UInt8)):∃n s1,fR jK st n s1∧lR n∧∀{w:World} {g:Nat},cV g st w→Calls Tryz.prog 158 #[.pointer (some ⟨g,0,none⟩)] w (bE fun r w'=>w.grownBy w' (some g)∧r=.tuple #[I n,I (if s1.isSome=true then 0 else 5)]∧cV g s1 w'):=by
 cases hU:st.bind eW with
 |none=>
  refine⟨0,none,?_,by unfold lR;omega,fun hr=>L6 hr hU⟩
  cases st with
  |none=>rfl
  |some l=>show(eW l).map _=none;rw[show eW l=none from hU];rfl
 |some p=>
  obtain⟨n,t⟩:=p
  have hI:fR jK st (uz n) (some t):=by
   cases st with
   |none=>cases hU
   |some l=>show(eW l).map _=_;rw[show eW l=some (n,t) from hU];rfl
  exact⟨uz n,some t,hI,Ah hI,fun hr=>L7 hr hU⟩
def xn (b:Nat) (q:ft):dP:=fun v w=>∃x y,v=.agg #[B q.1,x,y]∧cN (fun k=>k<b) w (jh q) [B q.1,x,y]
def Mb (b:Nat) (q:ft) (e:Int):dP:=fun v w=>∃x y,v=.tuple #[.agg #[B q.1,x,y],I e]∧cN (fun k=>k<b) w (jh q) [B q.1,x,y]
theorem kQ {X:Nat→Prop} {w:World} {q:ft} {x y:Value} (h:cN X w (jh q) [B q.1,x,y]):x.oneCell'=true∧y.oneCell'=true:=by
 obtain⟨x',y',he,hx,hy⟩:=mV h.rp
 simp only[List.cons.injEq] at he
 obtain⟨_,rfl,rfl,_⟩:=he
 obtain⟨_,_,_,rfl⟩:=hx.isS
 obtain⟨_,_,_,rfl⟩:=hy.isS
 exact⟨rfl,rfl⟩
theorem Li (st:Option (List UInt8)):∃q s1,fR jp st q s1∧(i0 st→∀{w:World} {g:Nat},cV g st w→Calls Tryz.prog 159 #[.pointer (some ⟨g,0,none⟩)] w (bE fun r w'=>w.grownBy w' (some g)∧Mb w.heap.size q (if s1.isSome=true then 0 else 5) r w'∧cV g s1 w')):=by
 cases hR:st.bind jp with
 |none=>
  refine⟨(false,[],[]),none,hR,fun hl w g hr=>(wT hr hl).mono fun r w' ⟨r',he,h1,h2⟩=>⟨r',he,h1,?_⟩⟩
  rw[hR] at h2
  obtain⟨v,h3,⟨x,y,rfl,hx,hy⟩,h4⟩:=h2
  have hn:∀{z:Value},bm [] z w'→cN (fun k=>k<w.heap.size) w' (nx []) [z]:=fun {z} hz=>by
   obtain⟨A,n,c,rfl,h5,h6,h7,h8,h9⟩:=hz
   simp only[nx,List.map_nil,cN]
   have:n=0:=by simp at h7;omega
   subst this
   exact⟨A,0,c,rfl,rfl,h5,h6,h9,fun h=>by omega⟩
  refine⟨⟨x,y,h3,?_⟩,h4⟩
  simp only[jh,cN]
  exact aR.cons (a:=[B false]) (by simp only[cN,B]) (aR.cons (hn hx) (aR.cons (b:=[]) (hn hy) aR.nil))
 |some p=>
  obtain⟨q,t⟩:=p
  refine⟨q,some t,hR,fun hl w g hr=>(wT hr hl).mono fun r w' ⟨r',he,h1,h2⟩=>⟨r',he,h1,?_⟩⟩
  rw[hR] at h2
  obtain⟨x,y,h3,hx,hy,h4,n1,n2⟩:=h2
  refine⟨⟨x,y,h3,?_⟩,h4⟩
  simp only[jh,cN]
  exact aR.cons (a:=[B q.1]) (by simp only[cN,B]) (aR.cons (n1.rpx' hx) (aR.cons (b:=[]) (n2.rpx' hy) aR.nil))
end Go.Rl
namespace Go.Rl
open Go.RowKit Go.Proofs
theorem Sl.mv {X:Nat→Prop} {w w':World} {sz:Nat} {xs:List Value} {v:Value} (h:Sl sz xs v w) (hm:Mv X w w') (hx:∀k,v.ownBlock=some k→¬X k):Sl sz xs v w':=by
 obtain⟨A,n,c,rfl,h2,h3,h4,h5,h6⟩:=h
 exact⟨A,n,c,rfl,h2,h3,h4,fun hn=>(h5 hn).imp fun ad h=>⟨h.1,hm.cells h.2 fun _=>hx ad.block (by rw[h.1];rfl)⟩,h6⟩
def xo {α:Type} (b sz:Nat) (f:α→Dt) (l:List α):dP:=fun v w=>∃cs,Sl sz cs v w∧(∀k,v.ownBlock=some k→b≤k)∧av cs∧aR (fun k=>k<b) w (l.map f) cs
theorem aR.one {X:Nat→Prop} {w:World} {d:Dt} {cs:List Value} (h:aR X w [d] cs):cN X w d cs:=by
 simp only[aR] at h
 obtain⟨c1,c2,rfl,h1,rfl⟩:=h
 simpa using h1
theorem H7 {α:Type} {P:Program} {w:World} {t e:TypeId} {z:Value} {sz bytes b:Nat} {f:α→Dt} {a:α} {cs:List Value} (ht:P.underlying t=some (.slice e)) (hi:(P.info? e).map (fun i=>(i.zero,i.size,i.bytes))=some (some z,sz,bytes)) (hzs:z.cells.size=sz) (h0:0<sz) (hsb:sz≤16777216)
 (hb:b≤w.heap.size) (h1:av cs) (ha:cN (fun k=>k<b) w (f a) cs) (hs:(f a).size=sz):∃r w',(Instr.buildSlice t 1 (eI 0 [Value.agg cs.toArray]).toArray).run P w=.ok r w'∧aK w w'∧xo b sz f [a] r w':=by
 have hcl:cs.length=sz:=by rw[ha.len,hs]
 have hi2:(P.info? e).map (fun i=>(i.zero,i.size))=some (some z,sz):=by
  obtain⟨i,hi',h2⟩:=Option.map_eq_some_iff.1 hi
  simp only[Prod.mk.injEq] at h2
  rw[hi']
  simp[h2.1,h2.2.1]
 obtain⟨x,w0,h3,h4,h5,h6⟩:=yR (w:=w) ht hi2 hzs h0 [cs] (by simp[hcl]) (by simp) (by simpa using hsb)
 refine⟨x,w0,by simpa using h3,h4,cs,by simpa using h5,fun k hk=>?_,h1,?_⟩
 ·rw[h6] at hk
  obtain rfl:=Option.some.inj hk
  exact hb
 ·simpa using aR.cons (b:=[]) (ha.ext h4) aR.nil
def H8 (b:Nat) (T:TypeId) (l:List Value):dP:=fun v w=>∃g5,v=.pointer (some ⟨g5,0,none⟩)∧b≤g5∧ct g5 T l w
theorem Lj {P:Program} {w:World} {t:TypeId} {z:Value} {l:List Value} {b:Nat} (h:(P.info? t).map (·.zero)=some (some z)) (hv:z.cells=l.toArray) (hb:b≤w.heap.size):∃r w',(Instr.alloc t true (.tuple #[])).run P w=.ok r w'∧aK w w'∧H8 b t l r w':=by
 obtain⟨g,w',h1,h2,h3,h4⟩:=aX (w:=w) h hv
 exact⟨_,w',h1,h3,g,rfl,Nat.le_trans hb h2,h4⟩
end Go.Rl
namespace Go.Rl
open Go.RowKit Go.Proofs
end Go.Rl
namespace Go.Rl
open Go.RowKit Go.Proofs
end Go.Rl
namespace Go.Rl
open Go.RowKit Go.Proofs
end Go.Rl
namespace Go.Rl
open Go.RowKit Go.Proofs
end Go.Rl
namespace Go.Rl
open Go.RowKit
end Go.Rl
namespace Go.Rl
open Go.RowKit
end Go.Rl
namespace Go.Rl
open Go.RowKit Go.Proofs
end Go.Rl
namespace Go.Rl
def yi (d:bU):Bool:=decide (d.kd=0)&&decide (d.ix=0)&&decide (d.at_=Ld)
def pm (n:aY):Bool:=decide (1≤n.split.kd)&&decide (n.split.kd≤4)&& !n.empty&&decide (n.pf.length=0)
def lB:Nat→aY→Bool×Nat
 |0,_=>(false,0)
 |l+1,n=>match n.kids with
  |[]=>(yi n.split,1)
  |[x,y]=>if pm n=true then
    (if (lB l x).1=false∨65536<(lB l x).2 then(false,0) else((lB l y).1,1+(lB l x).2+(lB l y).2))
   else(false,0)
  |_=>(false,0)
def lU:Nat→Int→aY→Int×Bool
 |d,most,n=>if most<1 then(0,false) else match n.kids with
  |[]=>(1,yi n.split)
  |[x,y]=>if pm n=true then(match d with
    |0=>(0,false)
    |d+1=>if (lU d (most-1) x).2=false then(0,false) else(1+(lU d (most-1) x).1+(lU d (most-1-(lU d (most-1) x).1) y).1,(lU d (most-1-(lU d (most-1) x).1) y).2))
   else(0,false)
  |_=>(0,false)
def GR:Nat→aY→Bool
 |d,n=>match n.kids with
  |[]=>yi n.split
  |[x,y]=>pm n&&(match d with
    |0=>false
    |d+1=>GR d x&&GR d y)
  |_=>false
def um:Nat→aY→Nat
 |d,n=>match n.kids with
  |[x,y]=>(match d with
    |0=>1
    |d+1=>1+um d x+um d y)
  |_=>1
theorem BW (d:Nat) (n:aY):1≤um d n:=by
 unfold um
 split
 ·split<;>omega
 ·omega
theorem Ap:∀(d:Nat) (n:aY),(lB (d+1) n).1=true→GR d n=true∧(lB (d+1) n).2=um d n
 |d,n,h=>by
  unfold lB at h⊢
  unfold GR um
  split at h
  ·rename_i e
   simp only[e]
   exact⟨h,trivial⟩
  ·rename_i x y e
   simp only[e]
   split at h
   ·rename_i hi
    rw[if_pos hi]
    split at h
    ·cases h
    ·rename_i hx
     rw[if_neg hx]
     simp only[not_or,Bool.not_eq_false,Nat.not_lt] at hx
     cases d with
     |zero=>simp[lB] at hx
     |succ d=>
      obtain⟨a1,a2⟩:=Ap d x hx.1
      obtain⟨b1,b2⟩:=Ap d y h
      exact⟨by simp[hi,a1,b1],by simp[a2,b2]⟩
   ·cases h
  ·cases h
theorem Dr:∀(d:Nat) (n:aY),GR d n=true→um d n≤65536→(lB (d+1) n).1=true
 |d,n,h,hc=>by
  unfold GR at h
  unfold um at hc
  unfold lB
  split at h
  ·exact h
  ·rename_i x y e
   simp only[e,Bool.and_eq_true] at h hc⊢
   rw[if_pos h.1]
   cases d with
   |zero=>simp at h
   |succ d=>
    simp only[Bool.and_eq_true] at h hc
    have a:=Dr d x h.2.1 (by omega)
    have b:=Dr d y h.2.2 (by omega)
    have a2:=(Ap d x a).2
    rw[if_neg (by rw[a2,a];simp;omega)]
    exact b
  ·cases h
theorem Aq:∀(d:Nat) (most:Int) (n:aY),(lU d most n).2=(GR d n&&decide ((um d n:Int)≤most))∧((lU d most n).2=true→(lU d most n).1=um d n)
 |d,most,n=>by
  have hp:=BW d n
  unfold lU
  by_cases hm:most<1
  ·rw[if_pos hm,decide_eq_false (by omega)]
   simp
  ·rw[if_neg hm]
   unfold GR um
   generalize n.kids=ks
   rcases ks with _|⟨x,_|⟨y,_|⟨z,t⟩⟩⟩
   ·refine⟨?_,fun _=>rfl⟩
    show yi n.split=(yi n.split&&decide (((1:Nat):Int)≤most))
    rw[decide_eq_true (by omega),Bool.and_true]
   ·simp
   ·by_cases hi:pm n=true
    ·show(if pm n=true then _ else _:Int×Bool).2=(pm n&&_&&_)∧_
     rw[if_pos hi,hi]
     cases d with
     |zero=>simp
     |succ d=>
      obtain⟨a1,a2⟩:=Aq d (most-1) x
      simp only[Bool.true_and]
      by_cases hx:(lU d (most-1) x).2=false
      ·rw[if_pos hx]
       rw[hx] at a1
       refine⟨?_,fun h=>by cases h⟩
       have hpy:=BW d y
       cases hk:GR d x with
       |false=>simp
       |true=>
        rw[hk,Bool.true_and] at a1
        have:=of_decide_eq_false a1.symm
        rw[decide_eq_false (by omega)]
        simp
      ·rw[if_neg hx]
       have hx':(lU d (most-1) x).2=true:=by simpa using hx
       have e1:=a2 hx'
       rw[hx'] at a1
       simp only[Bool.true_eq,Bool.and_eq_true,decide_eq_true_eq] at a1
       rw[e1]
       obtain⟨b1,b2⟩:=Aq d (most-1-(um d x:Int)) y
       refine⟨?_,fun h=>?_⟩
       ·rw[b1,a1.1,Bool.true_and]
        congr 1
        exact decide_eq_decide.2 (by omega)
       ·rw[b2 (by simpa using h)]
        simp only[if_true]
        omega
    ·have hi':pm n=false:=by simpa using hi
     simp[hi']
   ·simp
def qT (n:aY):Bool:=GR 2048 n&&decide (um 2048 n≤65536)
theorem H9 (n:aY):(lU 2048 65536 n).2=qT n:=by
 rw[(Aq 2048 65536 n).1]
 unfold qT
 congr 1
 exact decide_eq_decide.2 (by omega)
theorem Ia (n:aY):((lB 2049 n).1&&decide ((lB 2049 n).2≤65536))=qT n:=by
 unfold qT
 cases h:(lB 2049 n).1 with
 |true=>
  obtain⟨a,b⟩:=Ap 2048 n h
  rw[a,b]
 |false=>
  rw[Bool.false_and]
  cases hk:GR 2048 n with
  |false=>rfl
  |true=>
   rw[Bool.true_and]
   refine(decide_eq_false fun hc=>?_).symm
   have:=Dr 2048 n hk hc
   rw[h] at this
   cases this
end Go.Rl
namespace Go.Rl
open Go.RowKit Go.Proofs
end Go.Rl
namespace Go.Rl
open Go.RowKit Go.Proofs
theorem tt:aG Tryz.prog 168:=⟨_,Tryz.func168,by kernel_rfl,rfl⟩
theorem tu {w:World} {l m:List UInt32} {v u:Value} (hv:bm l v w) (hu:bm m u w):
 Calls Tryz.prog 168 #[v,u] w (bE fun r w'=>aK w w'∧r=B (decide (l=m))):=by
 refine enter (vs:=[v,u]) Tryz.func168 E E E ?_
 have hll:=hv.len
 refine af (aa (ae E E (ag (ab (af (af (aa (ac E E (aO E E (bC Ms hv) (ac E E (aO E E (bC Ms hu) ?_)))))))))))
 refine al E E E (cX) (ag (ab ?_))
 refine bz E (fun h10=>?_) (fun h10=>?_)
 ·have hne:l≠m:=fun h=>h10 (by rw[h])
  refine af (aa (ae E E (ag (ab (aw (ay (az E E ?_)))))))
  exact⟨_,rfl,aK.refl _,congrArg B (decide_eq_false hne).symm⟩
 ·have hlen:l.length=m.length:=by omega
  refine aC (ab (af (af (aa (ac E E (aO E E (bC Ms hv) (ac E E (ag (ab (aE ?_))))))))))
  refine cf (α:=Nat) (fun x=>[(0,v),(1,u),(12,I (l.length:Int)),(13,I (x:Int))]) (fun x w'=>aK w w'∧x≤l.length∧l.take x=m.take x) (fun x=>l.length-x) (0) ⟨rfl,rfl,rfl,rfl,trivial⟩ ⟨aK.refl _,by omega,rfl⟩ ?_
  rintro i w4 ⟨e4,hi,ht⟩
  refine af (aa (al E E E (aV) (ag (ab (af ?_)))))
  refine bz E (fun h14=>?_) (fun h14=>?_)
  ·refine aC (ab (af (aE (af (aa (ac E E (ae E E (ag (ab (af (bI 8 [0,1,12,13,19,23] (by kernel_rfl) (by kernel_rfl) ?_)))))))))))
   refine aA E E (aA E E ?_)
   obtain⟨a18,p18,q18⟩:=db Ms (hv.ext e4) (i:=i) (by omega) .i64
   refine aF E E E (fun w _=>p18 w) (aP E E (fun w hw=>aj Mu E (hw.cell_some q18)) (aA E E (aA E E ?_)))
   obtain⟨a22,p22,q22⟩:=db Ms (hu.ext e4) (i:=i) (by omega) .i64
   refine aF E E E (fun w _=>p22 w) (aP E E (fun w hw=>aj Mu E (hw.cell_some q22)) (cq ?_))
   intro wg6 xg6
   rintro _ hq0
   obtain rfl:=Eq.symm hq0
   rintro _ hq1
   obtain rfl:=Eq.symm hq1
   rintro _ rfl
   rintro _ rfl
   rintro _ rfl
   rintro _ rfl
   refine al E E E (mr) (ag (ab ?_))
   refine bz E (fun h24=>?_) (fun h24=>?_)
   ·have hne:l≠m:=fun h=>h24 (by subst h;rfl)
    refine af (aa (ae E E (ag (ab (aw (aZ (ay (ay (aZ (ay (az E E ?_)))))))))))
    exact⟨_,rfl,(e4.trans xg6),congrArg B (decide_eq_false hne).symm⟩
   ·have he:l[i]'(by omega)=m[i]'(by omega):=Classical.byContradiction fun h=>h24 h
    refine aC (aS (ab (aa (al (r:=I ((i+1:Nat):Int)) E E E (by have e:((i+1:Nat):Int)=(i:Int)+1:=(by omega);rw[e];exact aN (by omega) (by omega)) ?_))))
    refine ac E E (ag ?_)
    refine bR (i+1) ⟨rfl,rfl,rfl,rfl,trivial⟩ ⟨(e4.trans xg6),by omega,by rw[List.take_succ_eq_append_getElem (by omega),List.take_succ_eq_append_getElem (by omega),ht,he]⟩ (by omega)
  ·refine bc (aI (aI (be (ab (af (aa (ae E E (ag (ab (aw (az E E ?_)))))))))))
   exact⟨_,rfl,e4,by
    rw[List.take_of_length_le (by omega),List.take_of_length_le (by omega)] at ht
    rw[decide_eq_true ht];rfl⟩
end Go.Rl
namespace Go.Rl
open Go.RowKit Go.Proofs
theorem Ar:aG Tryz.prog 169:=⟨_,Tryz.func169,by kernel_rfl,rfl⟩
theorem As:aG Tryz.prog 144:=⟨_,Tryz.func144,by kernel_rfl,rfl⟩
theorem lV:aG Tryz.prog 111:=⟨_,Tryz.func111,by kernel_rfl,rfl⟩
theorem gJ:aG Tryz.prog 66:=⟨_,Tryz.func66,by kernel_rfl,rfl⟩
theorem uo:aG Tryz.prog 69:=⟨_,Tryz.func69,by kernel_rfl,rfl⟩
theorem rU:aG Tryz.prog 72:=⟨_,Tryz.func72,by kernel_rfl,rfl⟩
theorem pn:aG Tryz.prog 29:=⟨_,Tryz.func29,by kernel_rfl,rfl⟩
theorem Au {w:World} {a b:ft} {x y p q:Value} (ha:bm a.2.1 x w) (ha':bm a.2.2 y w) (hb:bm b.2.1 p w) (hb':bm b.2.2 q w):
 Calls Tryz.prog 169 #[.agg #[B a.1,x,y],.agg #[B b.1,p,q]] w (bE fun r w'=>aK w w'∧r=B (decide (a=b))):=by
 refine enter (vs:=[.agg #[B a.1,x,y],.agg #[B b.1,p,q]]) Tryz.func169 E E E ?_
 refine af (aa ?_)
 obtain⟨g2,w2,hr2,l2,x2,k2⟩:=cK (P:=Tryz.prog) (w:=w) (T:=46) (cs:=[B a.1,x,y])
 refine cM E E hr2 ?_
 obtain⟨g3,w3,hr3,l3,x3,k3⟩:=cK (P:=Tryz.prog) (w:=w2) (T:=46) (cs:=[B b.1,p,q])
 refine cM E E hr3 (ae E E (ag (ab (af (aa (ah E E (ar (o:=0) Mw E (by kernel_rfl) E) ?_))))))
 refine ak E E (aj MD E (x3.cell_some (k2.cell (i:=0) E))) (ah E E (ar (o:=0) Mw E (by kernel_rfl) E) ?_)
 refine ak E E (aj MD E (k3.cell (i:=0) E)) (al E E E (vC MD) (ac E E ?_))
 refine ce (fun h10=>?_) (fun h10=>?_)
 ·refine ai E (ah E E (ar (o:=1) Mw E (by kernel_rfl) E) (ai E (ak E E (aj Ms E (x3.cell_some (k2.cell (i:=1) E))) ?_)))
  refine ai E (ah E E (ar (o:=1) Mw E (by kernel_rfl) E) (ai E (ak E E (aj Ms E (k3.cell (i:=1) E)) ?_)))
  refine ai E (am tt E E (tu (ha.ext (x2.trans x3)) (hb.ext (x2.trans x3))) ?_)
  rintro v15 w15 ⟨x15,rfl⟩
  refine ap E E E (ac E E ?_)
  refine ce (fun h17=>?_) (fun h17=>?_)
  ·refine ai E (ah E E (ar (o:=2) Mw E (by kernel_rfl) E) (ai E (ak E E (aj Ms E ((x3.trans x15).cell_some (k2.cell (i:=2) E))) ?_)))
   refine ai E (ah E E (ar (o:=2) Mw E (by kernel_rfl) E) (ai E (ak E E (aj Ms E (x15.cell_some (k3.cell (i:=2) E))) ?_)))
   refine ai E (am tt E E (tu (ha'.ext ((x2.trans x3).trans x15)) (hb'.ext ((x2.trans x3).trans x15))) ?_)
   rintro v22 w22 ⟨x22,rfl⟩
   refine ap E E E (ae E E (ag (ab (aw (az E E ?_)))))
   exact⟨_,rfl,(((x2.trans x3).trans x15).trans x22),by
    first
    |exact congrArg B (decide_eq_decide.2 ⟨fun h=>Prod.ext h10 (Prod.ext h17 h),fun h=>by rw[h]⟩)
    |exact congrArg B (decide_eq_false fun h=>h17 (by rw[h])).symm
    |exact congrArg B (decide_eq_false fun h=>h10 (by rw[h])).symm⟩
  ·refine an E E E (an E E E (an E E E (an E E E (an E E E (aD E E E (ae E E (ag (ab (aw (az E E ?_))))))))))
   exact⟨_,rfl,((x2.trans x3).trans x15),by
    first
    |exact congrArg B (decide_eq_decide.2 ⟨fun h=>Prod.ext h10 (Prod.ext h17 h),fun h=>by rw[h]⟩)
    |exact congrArg B (decide_eq_false fun h=>h17 (by rw[h])).symm
    |exact congrArg B (decide_eq_false fun h=>h10 (by rw[h])).symm⟩
 ·refine an E E E (an E E E (an E E E (an E E E (an E E E (aD E E E (ac E E (an E E E (an E E E (an E E E ?_)))))))))
  refine an E E E (an E E E (aD E E E (ae E E (ag (ab (aw (az E E ?_)))))))
  exact⟨_,rfl,(x2.trans x3),by
   first
   |exact congrArg B (decide_eq_decide.2 ⟨fun h=>Prod.ext h10 (Prod.ext h17 h),fun h=>by rw[h]⟩)
   |exact congrArg B (decide_eq_false fun h=>h17 (by rw[h])).symm
   |exact congrArg B (decide_eq_false fun h=>h10 (by rw[h])).symm⟩
theorem Ds {w:World} {a b:ft} {x y p q:Value} (ha:bm a.2.1 x w) (ha':bm a.2.2 y w) (hb:bm b.2.1 p w) (hb':bm b.2.2 q w):
 Calls Tryz.prog 105 #[.agg #[B a.1,x,y],.agg #[B b.1,p,q]] w (bE fun r w'=>aK w w'∧r=B (decide (a=b))):=by
 refine bE.mono (wH (a:=a.1) (b:=b.1) ⟨x,y,rfl,ha,ha'⟩ ⟨p,q,rfl,hb,hb'⟩) fun r w' h=>⟨h.1,h.2.trans (congrArg B (decide_eq_decide.2 ⟨fun h=>Prod.ext h.1 (Prod.ext h.2.1 h.2.2),fun h=>by rw[h];exact⟨rfl,rfl,rfl⟩⟩))⟩
deriving instance DecidableEq for bU
theorem bU.ext' {a b:bU} (h1:a.kd=b.kd) (h2:a.ix=b.ix) (h3:a.at_=b.at_):a=b:=by
 cases a;cases b
 simp only at h1 h2 h3
 rw[h1,h2,h3]
theorem Av {w:World} {a b:bU} {x y p q:Value} (ha:bm a.at_.2.1 x w) (ha':bm a.at_.2.2 y w) (hb:bm b.at_.2.1 p w) (hb':bm b.at_.2.2 q w):
 Calls Tryz.prog 144 #[.agg #[I a.kd,I a.ix,B a.at_.1,x,y],.agg #[I b.kd,I b.ix,B b.at_.1,p,q]] w (bE fun r w'=>aK w w'∧r=B (decide (a=b))):=by
 refine enter (vs:=[.agg #[I a.kd,I a.ix,B a.at_.1,x,y],.agg #[I b.kd,I b.ix,B b.at_.1,p,q]]) Tryz.func144 E E E ?_
 refine af (aa ?_)
 obtain⟨g2,w2,hr2,l2,x2,k2⟩:=cK (P:=Tryz.prog) (w:=w) (T:=48) (cs:=[I a.kd,I a.ix,B a.at_.1,x,y])
 refine cM E E hr2 ?_
 obtain⟨g3,w3,hr3,l3,x3,k3⟩:=cK (P:=Tryz.prog) (w:=w2) (T:=48) (cs:=[I b.kd,I b.ix,B b.at_.1,p,q])
 refine cM E E hr3 (ae E E (ag (ab (af (aa (ah E E (ar (o:=0) My E (by kernel_rfl) E) ?_))))))
 refine ak E E (aj Mx E (x3.cell_some (k2.cell (i:=0) E))) (ah E E (ar (o:=0) My E (by kernel_rfl) E) ?_)
 refine ak E E (aj Mx E (k3.cell (i:=0) E)) (al E E E (bi) (ac E E ?_))
 refine ce (fun h10=>?_) (fun h10=>?_)
 ·refine ai E (ah E E (ar (o:=1) My E (by kernel_rfl) E) (ai E (ak E E (aj Mx E (x3.cell_some (k2.cell (i:=1) E))) ?_)))
  refine ai E (ah E E (ar (o:=1) My E (by kernel_rfl) E) (ai E (ak E E (aj Mx E (k3.cell (i:=1) E)) ?_)))
  refine ai E (al E E E (bi) (ap E E E (ac E E ?_)))
  refine ce (fun h17=>?_) (fun h17=>?_)
  ·refine ai rfl (ah rfl rfl (ar (o:=2) Tryz.underlying48 rfl (by kernel_rfl) rfl) (ai rfl (ak rfl rfl ((k2.ext x3).ldO (ms:=[B a.at_.1,x,y]) (o:=2) (fun j v hj=>by rcases j with _|_|_|_|_|_|_|_|_|j<;>simp_all) Tryz.underlying46 rfl (by kernel_rfl)) ?_)))
   refine ai rfl (ah rfl rfl (ar (o:=2) Tryz.underlying48 rfl (by kernel_rfl) rfl) (ai rfl (ak rfl rfl (k3.ldO (ms:=[B b.at_.1,p,q]) (o:=2) (fun j v hj=>by rcases j with _|_|_|_|_|_|_|_|_|j<;>simp_all) Tryz.underlying46 rfl (by kernel_rfl)) ?_)))
   refine ai E (am Ar E E ((Au (a:=a.at_) (b:=b.at_) (ha.ext (x2.trans x3)) (ha'.ext (x2.trans x3)) (hb.ext (x2.trans x3)) (hb'.ext (x2.trans x3)))) ?_)
   rintro v22 w22 ⟨x22,rfl⟩
   refine ap E E E (ae E E (ag (ab (aw (az E E ?_)))))
   exact⟨_,rfl,((x2.trans x3).trans x22),by
    first
    |exact congrArg B (decide_eq_decide.2 ⟨fun h=>bU.ext' h10 h17 h,fun h=>by rw[h]⟩)
    |exact congrArg B (decide_eq_false fun h=>h17 (by rw[h])).symm
    |exact congrArg B (decide_eq_false fun h=>h10 (by rw[h])).symm⟩
  ·refine an E E E (an E E E (an E E E (an E E E (an E E E (aD E E E (ae E E (ag (ab (aw (az E E ?_))))))))))
   exact⟨_,rfl,(x2.trans x3),by
    first
    |exact congrArg B (decide_eq_decide.2 ⟨fun h=>bU.ext' h10 h17 h,fun h=>by rw[h]⟩)
    |exact congrArg B (decide_eq_false fun h=>h17 (by rw[h])).symm
    |exact congrArg B (decide_eq_false fun h=>h10 (by rw[h])).symm⟩
 ·refine an E E E (an E E E (an E E E (an E E E (an E E E (aD E E E (ac E E (an E E E (an E E E (an E E E ?_)))))))))
  refine an E E E (an E E E (aD E E E (ae E E (ag (ab (aw (az E E ?_)))))))
  exact⟨_,rfl,(x2.trans x3),by
   first
   |exact congrArg B (decide_eq_decide.2 ⟨fun h=>bU.ext' h10 h17 h,fun h=>by rw[h]⟩)
   |exact congrArg B (decide_eq_false fun h=>h17 (by rw[h])).symm
   |exact congrArg B (decide_eq_false fun h=>h10 (by rw[h])).symm⟩
theorem uq {w:World} {a b:bU} {x y p q:Value} (ha:bm a.at_.2.1 x w) (ha':bm a.at_.2.2 y w) (hb:bm b.at_.2.1 p w) (hb':bm b.at_.2.2 q w):
 Calls Tryz.prog 69 #[.agg #[I a.kd,I a.ix,B a.at_.1,x,y],.agg #[I b.kd,I b.ix,B b.at_.1,p,q]] w (bE fun r w'=>aK w w'∧r=B (decide (a=b))):=by
 refine enter (vs:=[.agg #[I a.kd,I a.ix,B a.at_.1,x,y],.agg #[I b.kd,I b.ix,B b.at_.1,p,q]]) Tryz.func69 E E E ?_
 refine af (aa ?_)
 obtain⟨g2,w2,hr2,l2,x2,k2⟩:=cK (P:=Tryz.prog) (w:=w) (T:=48) (cs:=[I a.kd,I a.ix,B a.at_.1,x,y])
 refine cM E E hr2 ?_
 obtain⟨g3,w3,hr3,l3,x3,k3⟩:=cK (P:=Tryz.prog) (w:=w2) (T:=48) (cs:=[I b.kd,I b.ix,B b.at_.1,p,q])
 refine cM E E hr3 (ae E E (ag (ab (af (aa (ah E E (ar (o:=0) My E (by kernel_rfl) E) ?_))))))
 refine ak E E (aj Mx E (x3.cell_some (k2.cell (i:=0) E))) (ah E E (ar (o:=0) My E (by kernel_rfl) E) ?_)
 refine ak E E (aj Mx E (k3.cell (i:=0) E)) (al E E E (bi) (ac E E ?_))
 refine ce (fun h10=>?_) (fun h10=>?_)
 ·refine ai E (ah E E (ar (o:=1) My E (by kernel_rfl) E) (ai E (ak E E (aj Mx E (x3.cell_some (k2.cell (i:=1) E))) ?_)))
  refine ai E (ah E E (ar (o:=1) My E (by kernel_rfl) E) (ai E (ak E E (aj Mx E (k3.cell (i:=1) E)) ?_)))
  refine ai E (al E E E (bi) (ap E E E (ac E E ?_)))
  refine ce (fun h17=>?_) (fun h17=>?_)
  ·refine ai rfl (ah rfl rfl (ar (o:=2) Tryz.underlying48 rfl (by kernel_rfl) rfl) (ai rfl (ak rfl rfl ((k2.ext x3).ldO (ms:=[B a.at_.1,x,y]) (o:=2) (fun j v hj=>by rcases j with _|_|_|_|_|_|_|_|_|j<;>simp_all) Tryz.underlying46 rfl (by kernel_rfl)) ?_)))
   refine ai rfl (ah rfl rfl (ar (o:=2) Tryz.underlying48 rfl (by kernel_rfl) rfl) (ai rfl (ak rfl rfl (k3.ldO (ms:=[B b.at_.1,p,q]) (o:=2) (fun j v hj=>by rcases j with _|_|_|_|_|_|_|_|_|j<;>simp_all) Tryz.underlying46 rfl (by kernel_rfl)) ?_)))
   refine ai E (am nH E E ((Ds (a:=a.at_) (b:=b.at_) (ha.ext (x2.trans x3)) (ha'.ext (x2.trans x3)) (hb.ext (x2.trans x3)) (hb'.ext (x2.trans x3)))) ?_)
   rintro v22 w22 ⟨x22,rfl⟩
   refine ap E E E (ae E E (ag (ab (aw (az E E ?_)))))
   exact⟨_,rfl,((x2.trans x3).trans x22),by
    first
    |exact congrArg B (decide_eq_decide.2 ⟨fun h=>bU.ext' h10 h17 h,fun h=>by rw[h]⟩)
    |exact congrArg B (decide_eq_false fun h=>h17 (by rw[h])).symm
    |exact congrArg B (decide_eq_false fun h=>h10 (by rw[h])).symm⟩
  ·refine an E E E (an E E E (an E E E (an E E E (an E E E (aD E E E (ae E E (ag (ab (aw (az E E ?_))))))))))
   exact⟨_,rfl,(x2.trans x3),by
    first
    |exact congrArg B (decide_eq_decide.2 ⟨fun h=>bU.ext' h10 h17 h,fun h=>by rw[h]⟩)
    |exact congrArg B (decide_eq_false fun h=>h17 (by rw[h])).symm
    |exact congrArg B (decide_eq_false fun h=>h10 (by rw[h])).symm⟩
 ·refine an E E E (an E E E (an E E E (an E E E (an E E E (aD E E E (ac E E (an E E E (an E E E (an E E E ?_)))))))))
  refine an E E E (an E E E (aD E E E (ae E E (ag (ab (aw (az E E ?_)))))))
  exact⟨_,rfl,(x2.trans x3),by
   first
   |exact congrArg B (decide_eq_decide.2 ⟨fun h=>bU.ext' h10 h17 h,fun h=>by rw[h]⟩)
   |exact congrArg B (decide_eq_false fun h=>h17 (by rw[h])).symm
   |exact congrArg B (decide_eq_false fun h=>h10 (by rw[h])).symm⟩
end Go.Rl
namespace Go.Rl
open Go.RowKit Go.Proofs
section
variable {w:World} {cs:List Value}
theorem ib {m:cg} (h:Rp w (bP m) cs):∃x y,cs=[I m.kd,I m.ix,I m.lo,I m.hi,B m.co.1,x,y]∧bm m.co.2.1 x w∧bm m.co.2.2 y w:=by
 simp only[bP,qY,bw,Rp.eq_5,Rp.eq_1] at h
 obtain⟨_,_,rfl,⟨_,_,rfl,rfl,_,_,rfl,rfl,_,_,rfl,rfl,_,_,rfl,rfl,rfl⟩,_,_,rfl,h1,rfl⟩:=h
 obtain⟨x,y,rfl,hx,hy⟩:=mV h1
 exact⟨x,y,rfl,hx,hy⟩
theorem gK {d:bU} (h:Rp w (dC d) cs):∃x y,cs=[I d.kd,I d.ix,B d.at_.1,x,y]∧bm d.at_.2.1 x w∧bm d.at_.2.2 y w:=by
 simp only[dC,qY,bw,Rp.eq_5,Rp.eq_1] at h
 obtain⟨_,_,rfl,rfl,_,_,rfl,rfl,_,_,rfl,h1,rfl⟩:=h
 obtain⟨x,y,rfl,hx,hy⟩:=mV h1
 exact⟨x,y,rfl,hx,hy⟩
theorem fO {l:dN} (h:Rp w (dc l) cs):∃x y v,cs=[I l.un,B l.up,B l.va.1,x,y,v]∧bm l.va.2.1 x w∧bm l.va.2.2 y w∧cC bP l.pf v w:=by
 simp only[dc,qY,bw,Rp.eq_5,Rp.eq_1,Rp.eq_2] at h
 obtain⟨_,_,rfl,rfl,_,_,rfl,rfl,_,_,rfl,h1,_,_,rfl,h2,rfl⟩:=h
 obtain⟨x,y,rfl,hx,hy⟩:=mV h1
 obtain⟨v,rfl,hv,_⟩:=Rp.isSlice h2
 exact⟨x,y,v,rfl,hx,hy,hv⟩
theorem d9 {n:aY} (h:Rp w (bG n) cs):∃vl x y vk vp,cs=[vl,I n.split.kd,I n.split.ix,B n.split.at_.1,x,y,vk,B n.empty,vp]∧cC dc n.lems vl w∧bm n.split.at_.2.1 x w∧bm n.split.at_.2.2 y w∧cC bG n.kids vk w∧cC bP n.pf vp w:=by
 cases n with
 |mk lems sp ks em pf=>
  simp only[bG,bw,Rp.eq_5,Rp.eq_2,lu] at h
  obtain⟨_,_,rfl,h1,_,_,rfl,h2,_,_,rfl,h3,_,_,rfl,rfl,_,_,rfl,h4,rfl⟩:=h
  obtain⟨vl,rfl,hl,_⟩:=Rp.isSlice h1
  obtain⟨x,y,rfl,hx,hy⟩:=gK h2
  obtain⟨vk,rfl,hk,_⟩:=Rp.isSlice h3
  obtain⟨vp,rfl,hp,_⟩:=Rp.isSlice h4
  exact⟨vl,x,y,vk,vp,rfl,hl,hx,hy,hk,hp⟩
theorem Aw (d:bU):yi d=decide (d=lC):=by
 cases d with
 |mk a b c=>
  unfold yi lC
  simp only[bU.mk.injEq]
  by_cases h1:a=0<;>by_cases h2:b=0<;>by_cases h3:c=Ld<;>simp[h1,h2,h3]
end
end Go.Rl
namespace Go.Rl
open Go.RowKit Go.Proofs
theorem Ax {L:Nat} {n x y:aY} (hk:n.kids=[x,y]) (hi:pm n=true):lB (L+1) n=if (lB L x).1=false∨65536<(lB L x).2 then(false,0) else((lB L y).1,1+(lB L x).2+(lB L y).2):=by
 rw[lB];simp only[hk,if_pos hi]
theorem lJ {L:Nat} {n:aY} (h0:n.kids.length≠0) (h:n.kids.length≠2∨pm n=false):lB (L+1) n=(false,0):=by
 rw[lB]
 generalize n.kids=ks at h0 h
 rcases ks with _|⟨x,_|⟨y,_|⟨z,t⟩⟩⟩
 ·exact absurd rfl h0
 ·rfl
 ·rcases h with h|h
  ·exact absurd rfl h
  ·simp[h]
 ·rfl
theorem cL {P:Program} {w:World} {s:TypeId} {fs:Array Field} {f:Field} {n g o b:Nat} (hs:P.underlying s=some (.struct fs)) (hf:fs[n]? =some f) (hk:(P.cellsOf f.type==0)=false) (ho:f.offset=o):
 (Instr.fieldAt s (.pointer (some ⟨g,b,none⟩)) n).run P w=.ok (.pointer (some ⟨g,b+o,none⟩)) w:=by
 have hk':P.cellsOf f.type≠0:=by simpa using hk
 obtain⟨k,hk1⟩:∃k,(P.info? f.type).map (·.size)=some k:=by
  cases hi:(P.info? f.type).map (·.size) with
  |none=>exact absurd (by simp[Program.cellsOf,hi]) hk'
  |some k=>exact⟨k,rfl⟩
 have hk0:k≠0:=by
  intro h
  apply hk'
  simp[Program.cellsOf,hk1,h]
 rw[cA hs hf hk1 hk0,ho,rj]
theorem Ib {L:Nat} {n:aY} (h0:n.kids.length=0):lB (L+1) n=(yi n.split,1):=by
 rw[lB]
 have:n.kids=[]:=List.eq_nil_of_length_eq_zero h0
 simp only[this]
theorem gL {n:aY} (h:¬(1≤n.split.kd∧n.split.kd≤4∧n.empty=false∧n.pf.length=0)):pm n=false:=by
 unfold pm
 by_cases h1:1≤n.split.kd<;>by_cases h2:n.split.kd≤4<;>by_cases h3:n.pf.length=0<;>cases h4:n.empty<;>simp_all
theorem EO {n:aY} (h1:1≤n.split.kd) (h2:n.split.kd≤4) (h3:n.empty=false) (h4:n.pf.length=0):pm n=true:=by
 unfold pm
 simp[h1,h2,h3,h4]
theorem Du:∀(L:Nat) (n:aY),(lB L n).2≤65537*L
 |0,_=>Nat.le_refl _
 |L+1,n=>by
  rw[lB]
  generalize n.kids=ks
  rcases ks with _|⟨x,_|⟨y,_|⟨z,t⟩⟩⟩
  ·show 1≤_;omega
  ·show 0≤_;omega
  ·have:=Du L y
   by_cases hi:pm n=true
   ·simp only[if_pos hi]
    split
    ·show 0≤_;omega
    ·rename_i h
     simp only[not_or,Nat.not_lt] at h
     have:=h.2
     show 1+(lB L x).2+(lB L y).2≤_
     omega
   ·simp only[if_neg hi]
    show 0≤_;omega
  ·show 0≤_;omega
theorem xp {ks:List aY} (h:ks.length=2):ks=[ks[0]'(by omega),ks[1]'(by omega)]:=by
 rcases ks with _|⟨x,_|⟨y,_|⟨z,t⟩⟩⟩
 ·simp at h
 ·simp at h
 ·rfl
 ·simp at h
theorem xq {w:World} {n:aY} {L d:Nat} {vl x y vk vp:Value} (ih:∀L',L=L'+1→∀{w:World} {n:aY} {vl x y vk vp:Value},cC dc n.lems vl w→bm n.split.at_.2.1 x w→bm n.split.at_.2.2 y w→cC bG n.kids vk w→cC bP n.pf vp w→
 Calls Tryz.prog 72 #[.agg #[vl,I n.split.kd,I n.split.ix,B n.split.at_.1,x,y,vk,B n.empty,vp],I ((d+1:Nat):Int)] w (bE fun r w'=>aK w w'∧r=.tuple #[B (lB L' n).1,I ((lB L' n).2:Int)]))
 (hl:cC dc n.lems vl w) (hx:bm n.split.at_.2.1 x w) (hy:bm n.split.at_.2.2 y w) (hk:cC bG n.kids vk w) (hp:cC bP n.pf vp w) (hd:d+L=2049):
 Calls Tryz.prog 72 #[.agg #[vl,I n.split.kd,I n.split.ix,B n.split.at_.1,x,y,vk,B n.empty,vp],I (d:Int)] w (bE fun r w'=>aK w w'∧r=.tuple #[B (lB L n).1,I ((lB L n).2:Int)]):=by
 refine enter (vs:=[.agg #[vl,I n.split.kd,I n.split.ix,B n.split.at_.1,x,y,vk,B n.empty,vp],I (d:Int)]) Tryz.func72 E E E ?_
 refine af (aa ?_)
 obtain⟨g2,w2,hr2,l2,x2,k2⟩:=cK (P:=Tryz.prog) (w:=w) (T:=52) (cs:=[vl,I n.split.kd,I n.split.ix,B n.split.at_.1,x,y,vk,B n.empty,vp])
 refine cM E E hr2 (ae E E (ae E E (ag (ab (af (af (aa (ac E E (al E E E (ca) (ag (ab ?_)))))))))))
 refine bz E (fun h11=>?_) (fun h11=>?_)
 ·obtain rfl:L=0:=by omega
  refine af (aa (ae E E (ae E E (ag (ab (aw (ay (bf E E E ?_))))))))
  exact⟨_,rfl,x2,rfl⟩
 ·obtain⟨L',rfl⟩:∃L',L=L'+1:=⟨L-1,by omega⟩
  refine aC (ab (af (af (aa (ah E E (ar (o:=6) Mt E (by kernel_rfl) E) (ak E E (aj MF E (k2.cell (i:=6) E)) ?_))))))
  refine aO E E (a6 MF (hk.ext x2)) (al E E E (bi) (ag (ab ?_)))
  refine bz E (fun h15=>?_) (fun h15=>?_)
  ·have h0:n.kids.length=0:=by omega
   refine af (aa (ah rfl rfl (ar (o:=1) Tryz.underlying52 rfl (by kernel_rfl) rfl) (ak rfl rfl (k2.ldO (ms:=[I n.split.kd,I n.split.ix,B n.split.at_.1,x,y]) (o:=1) (fun j v hj=>by rcases j with _|_|_|_|_|_|_|_|_|j<;>simp_all) Tryz.underlying48 rfl (by kernel_rfl)) ?_)))
   refine bA (vs:=[]) (r:=.agg #[I 0,I 0,B false,.slice none 0 0,.slice none 0 0]) E E (by exact run_build _ _ _ _ (by kernel_rfl)) (am uo E E ((uq (a:=n.split) (b:=lC) (hx.ext x2) (hy.ext x2) (Sl.nil _ _) (Sl.nil _ _))) ?_)
   rintro v19 w19 ⟨x19,rfl⟩
   refine ae E E (ae E E (ag (ab (aw (ay (bf E E E ?_))))))
   exact⟨_,rfl,(x2.trans x19),by rw[Ib h0,Aw];rfl⟩
  ·have h0:n.kids.length≠0:=by omega
   refine aC (ab (af (af ?_)))
   have hl2:=hl.ext x2
   have hx2:=hx.ext x2
   have hy2:=hy.ext x2
   have hk2:=hk.ext x2
   have hp2:=hp.ext x2
   rcases hem:n.empty with _|_
   ·have kf:=k2
    rw[hem] at kf
    refine aa (ah E E (ar (o:=6) Mt E (by kernel_rfl) E) (ak E E (aj MF E (kf.cell (i:=6) E)) ?_))
    refine aO E E (a6 MF hk2) (al E E E (cX) (ac E E ?_))
    refine ce (fun h24=>?_) (fun h24=>?_)
    ·refine an E E E (an E E E (an E E E (an E E E (ap E E E (ac E E (an E E E (an E E E (an E E E (an E E E ?_)))))))))
     refine ap E E E (ac E E (an E E E (an E E E (ap E E E (ac E E (an E E E (an E E E (an E E E (an E E E ?_)))))))))
     refine ap E E E (ag (ab (bg E (af (aa (ae E E (ae E E (ag (ab (aw (ay (bf E E E ?_))))))))))))
     exact⟨_,rfl,x2,by
      rw[lJ h0 (by
       first
       |exact .inl (by omega)
       |exact .inr (gL fun⟨a1,a2,a3,a4⟩=>by
         first
         |omega
         |(rw[hem] at a3;cases a3)))]
      rfl⟩
    ·refine ai E (ah E E (ar (o:=1) Mt E (by kernel_rfl) E) (ai E (ah E E (cL (b:=1) (o:=0) My E (by kernel_rfl) E) ?_)))
     refine ai E (ak E E (aj Mx E (kf.cell (i:=1) E)) (ai E (al E E E (aV) (aD E E E (ac E E ?_)))))
     refine ce (fun h30=>?_) (fun h30=>?_)
     ·refine an E E E (an E E E (an E E E (an E E E (ap E E E (ac E E (an E E E (an E E E (ap E E E (ac E E ?_)))))))))
      refine an E E E (an E E E (an E E E (an E E E (ap E E E (ag (ab (bg E (af (aa (ae E E (ae E E (ag ?_))))))))))))
      refine ab (aw (ay (bf E E E ?_)))
      exact⟨_,rfl,x2,by
       rw[lJ h0 (by
        first
        |exact .inl (by omega)
        |exact .inr (gL fun⟨a1,a2,a3,a4⟩=>by
          first
          |omega
          |(rw[hem] at a3;cases a3)))]
       rfl⟩
     ·refine ai E (ah E E (ar (o:=1) Mt E (by kernel_rfl) E) (ai E (ah E E (cL (b:=1) (o:=0) My E (by kernel_rfl) E) ?_)))
      refine ai E (ak E E (aj Mx E (kf.cell (i:=1) E)) (ai E (al E E E (ca) (aD E E E (ac E E ?_)))))
      refine ce (fun h36=>?_) (fun h36=>?_)
      ·refine an E E E (an E E E (ap E E E (ac E E (an E E E (an E E E (an E E E (an E E E (ap E E E (ag ?_)))))))))
       refine ab (bg E (af (aa (ae E E (ae E E (ag (ab (aw (ay (bf E E E ?_))))))))))
       exact⟨_,rfl,x2,by
        rw[lJ h0 (by
         first
         |exact .inl (by omega)
         |exact .inr (gL fun⟨a1,a2,a3,a4⟩=>by
           first
           |omega
           |(rw[hem] at a3;cases a3)))]
        rfl⟩
      ·refine ai E (ah E E (ar (o:=7) Mt E (by kernel_rfl) E) (ai E (ak E E (aj MD E (kf.cell (i:=7) E)) ?_)))
       refine aD E E E (ac E E (ai E (ah E E (ar (o:=8) Mt E (by kernel_rfl) E) (ai E (ak E E (aj MH E (kf.cell (i:=8) E)) ?_)))))
       refine ai E (aO E E (a6 MH hp2) (ai E (al E E E (ca) (aD E E E (ag (ab ?_))))))
       refine bz E (fun h45=>?_) (fun h45=>?_)
       ·refine af (aa (ae E E (ae E E (ag (ab (aw (ay (bf E E E ?_))))))))
        exact⟨_,rfl,x2,by
         rw[lJ h0 (by
          first
          |exact .inl (by omega)
          |exact .inr (gL fun⟨a1,a2,a3,a4⟩=>by
            first
            |omega
            |(rw[hem] at a3;cases a3)))]
         rfl⟩
       ·refine aC (ab (af ?_))
        have hk2n:n.kids.length=2:=by omega
        have hks:=xp hk2n
        have hi:=EO (n:=n) (by omega) (by omega) hem (by omega)
        refine aa (ah E E (ar (o:=6) Mt E (by kernel_rfl) E) (ak E E (aj MF E (kf.cell (i:=6) E)) ?_))
        obtain⟨a49,c49,p49,q49,h49⟩:=cd (P:=Tryz.prog) (sz:=9) MF (by kernel_rfl) cG (by omega) hk2 (i:=0) (by omega) .i64
        obtain⟨e49,he49⟩:∃e,e=n.kids[0]'(by omega):=⟨_,rfl⟩
        rw[←he49] at h49
        obtain⟨x49_0,x49_1,x49_2,x49_3,x49_4,rfl,f49_0,f49_1,f49_2,f49_3,f49_4⟩:=d9 h49
        refine aq E E E (p49 _) (ak E E (q49.ld Mt E (by kernel_rfl)) (ac E E (al (r:=I ((d+1:Nat):Int)) E E E (by have e:((d+1:Nat):Int)=(d:Int)+1:=(by omega);rw[e];exact aN (by omega) (by omega)) ?_)))
        refine am rU E E ((ih L' E f49_0 f49_1 f49_2 f49_3 f49_4)) ?_
        rintro v53 w53 ⟨x53,rfl⟩
        refine ac E E (ao E E (bj) (ao E E (bk) (ae E E (ae E E (ag (ab (af (af ?_))))))))
        have he:=Du L' e49
        rcases hb:(lB L' e49).1 with _|_
        ·refine aa (ac E E (bt E E bu (ac E E (an E E E (an E E E (ap E E E (ag (ab (bg E (af (aa (ae E E ?_))))))))))))
         refine ae E E (ag (ab (aw (ay (bf E E E ?_)))))
         exact⟨_,rfl,(x2.trans x53),by
          rw[Ax hks hi,←he49,if_pos (by first|exact .inl hb|exact .inr (by omega))]
          rfl⟩
        ·refine aa (ac E E (bt E E bu (ac E E (ai E (ac E E (ai E (al E E E (ca) (aD E E E (ag (ab ?_))))))))))
         refine bz E (fun h61=>?_) (fun h61=>?_)
         ·refine af (aa (ae E E (ae E E (ag (ab (aw (ay (bf E E E ?_))))))))
          exact⟨_,rfl,(x2.trans x53),by
           rw[Ax hks hi,←he49,if_pos (by first|exact .inl hb|exact .inr (by omega))]
           rfl⟩
         ·refine aC (ab (af (aa (ah E E (ar (o:=6) Mt E (by kernel_rfl) E) (ak E E (aj MF E (x53.cell_some (kf.cell (i:=6) E))) ?_)))))
          obtain⟨a65,c65,p65,q65,h65⟩:=cd (P:=Tryz.prog) (sz:=9) MF (by kernel_rfl) cG (by omega) (hk2.ext x53) (i:=1) (by omega) .i64
          obtain⟨e65,he65⟩:∃e,e=n.kids[1]'(by omega):=⟨_,rfl⟩
          rw[←he65] at h65
          obtain⟨x65_0,x65_1,x65_2,x65_3,x65_4,rfl,f65_0,f65_1,f65_2,f65_3,f65_4⟩:=d9 h65
          refine aq E E E (p65 _) (ak E E (q65.ld Mt E (by kernel_rfl)) (ac E E (al (r:=I ((d+1:Nat):Int)) E E E (by have e:((d+1:Nat):Int)=(d:Int)+1:=(by omega);rw[e];exact aN (by omega) (by omega)) ?_)))
          refine am rU E E ((ih L' E f65_0 f65_1 f65_2 f65_3 f65_4)) ?_
          rintro v69 w69 ⟨x69,rfl⟩
          have hf:=Du L' e65
          refine ac E E (ao E E (bj) (ao E E (bk) (ae E E (ae E E (ag (ab (af (aa (ac E E (ac E E (al (r:=I ((1+(lB L' e49).2:Nat):Int)) E E E (by have e:((1+(lB L' e49).2:Nat):Int)=1+((lB L' e49).2:Int):=(by omega);rw[e];exact aN (by omega) (by omega)) ?_)))))))))))
          refine ac E E (al (r:=I ((((1+(lB L' e49).2:Nat))+(lB L' e65).2:Nat):Int)) E E E (by have e:((((1+(lB L' e49).2:Nat))+(lB L' e65).2:Nat):Int)=((1+(lB L' e49).2:Nat):Int)+((lB L' e65).2:Int):=(by omega);rw[e];exact aN (by omega) (by omega)) ?_)
          refine ae E E (ae E E (ag (ab (aw (bf E E E ?_)))))
          exact⟨_,rfl,((x2.trans x53).trans x69),by
           rw[Ax hks hi,←he49,←he65,if_neg (by rw[hb];simp;omega)]⟩
   ·have kf:=k2
    rw[hem] at kf
    refine aa (ah E E (ar (o:=6) Mt E (by kernel_rfl) E) (ak E E (aj MF E (kf.cell (i:=6) E)) ?_))
    refine aO E E (a6 MF hk2) (al E E E (cX) (ac E E ?_))
    refine ce (fun h24=>?_) (fun h24=>?_)
    ·refine an E E E (an E E E (an E E E (an E E E (ap E E E (ac E E (an E E E (an E E E (an E E E (an E E E ?_)))))))))
     refine ap E E E (ac E E (an E E E (an E E E (ap E E E (ac E E (an E E E (an E E E (an E E E (an E E E ?_)))))))))
     refine ap E E E (ag (ab (bg E (af (aa (ae E E (ae E E (ag (ab (aw (ay (bf E E E ?_))))))))))))
     exact⟨_,rfl,x2,by
      rw[lJ h0 (by
       first
       |exact .inl (by omega)
       |exact .inr (gL fun⟨a1,a2,a3,a4⟩=>by
         first
         |omega
         |(rw[hem] at a3;cases a3)))]
      rfl⟩
    ·refine ai E (ah E E (ar (o:=1) Mt E (by kernel_rfl) E) (ai E (ah E E (cL (b:=1) (o:=0) My E (by kernel_rfl) E) ?_)))
     refine ai E (ak E E (aj Mx E (kf.cell (i:=1) E)) (ai E (al E E E (aV) (aD E E E (ac E E ?_)))))
     refine ce (fun h30=>?_) (fun h30=>?_)
     ·refine an E E E (an E E E (an E E E (an E E E (ap E E E (ac E E (an E E E (an E E E (ap E E E (ac E E ?_)))))))))
      refine an E E E (an E E E (an E E E (an E E E (ap E E E (ag (ab (bg E (af (aa (ae E E (ae E E (ag ?_))))))))))))
      refine ab (aw (ay (bf E E E ?_)))
      exact⟨_,rfl,x2,by
       rw[lJ h0 (by
        first
        |exact .inl (by omega)
        |exact .inr (gL fun⟨a1,a2,a3,a4⟩=>by
          first
          |omega
          |(rw[hem] at a3;cases a3)))]
       rfl⟩
     ·refine ai E (ah E E (ar (o:=1) Mt E (by kernel_rfl) E) (ai E (ah E E (cL (b:=1) (o:=0) My E (by kernel_rfl) E) ?_)))
      refine ai E (ak E E (aj Mx E (kf.cell (i:=1) E)) (ai E (al E E E (ca) (aD E E E (ac E E ?_)))))
      refine ce (fun h36=>?_) (fun h36=>?_)
      ·refine an E E E (an E E E (ap E E E (ac E E (an E E E (an E E E (an E E E (an E E E (ap E E E (ag ?_)))))))))
       refine ab (bg E (af (aa (ae E E (ae E E (ag (ab (aw (ay (bf E E E ?_))))))))))
       exact⟨_,rfl,x2,by
        rw[lJ h0 (by
         first
         |exact .inl (by omega)
         |exact .inr (gL fun⟨a1,a2,a3,a4⟩=>by
           first
           |omega
           |(rw[hem] at a3;cases a3)))]
        rfl⟩
      ·refine ai E (ah E E (ar (o:=7) Mt E (by kernel_rfl) E) (ai E (ak E E (aj MD E (kf.cell (i:=7) E)) ?_)))
       refine aD E E E (ac E E (an E E E (an E E E (an E E E (an E E E (ap E E E (ag (ab (bg E (af (aa ?_)))))))))))
       refine ae E E (ae E E (ag (ab (aw (ay (bf E E E ?_))))))
       exact⟨_,rfl,x2,by
        rw[lJ h0 (by
         first
         |exact .inl (by omega)
         |exact .inr (gL fun⟨a1,a2,a3,a4⟩=>by
           first
           |omega
           |(rw[hem] at a3;cases a3)))]
        rfl⟩
theorem xr:∀(L d:Nat),d+L=2049→∀{w:World} {n:aY} {vl x y vk vp:Value},cC dc n.lems vl w→bm n.split.at_.2.1 x w→bm n.split.at_.2.2 y w→cC bG n.kids vk w→cC bP n.pf vp w→
 Calls Tryz.prog 72 #[.agg #[vl,I n.split.kd,I n.split.ix,B n.split.at_.1,x,y,vk,B n.empty,vp],I (d:Int)] w (bE fun r w'=>aK w w'∧r=.tuple #[B (lB L n).1,I ((lB L n).2:Int)])
 |0,_,hd,_,_,_,_,_,_,_,hl,hx,hy,hk,hp=>xq (fun _ e=>by cases e) hl hx hy hk hp hd
 |L+1,d,hd,_,_,_,_,_,_,_,hl,hx,hy,hk,hp=>xq (fun L' e _ _ _ _ _ _ _ h1 h2 h3 h4 h5=>by
   cases e
   exact xr L (d+1) (by omega) h1 h2 h3 h4 h5) hl hx hy hk hp hd
theorem po {w:World} {n:aY} {vl x y vk vp:Value} (hl:cC dc n.lems vl w) (hx:bm n.split.at_.2.1 x w) (hy:bm n.split.at_.2.2 y w) (hk:cC bG n.kids vk w) (hp:cC bP n.pf vp w):
 Calls Tryz.prog 29 #[.agg #[vl,I n.split.kd,I n.split.ix,B n.split.at_.1,x,y,vk,B n.empty,vp]] w (bE fun r w'=>aK w w'∧r=B (qT n)):=by
 refine enter (vs:=[.agg #[vl,I n.split.kd,I n.split.ix,B n.split.at_.1,x,y,vk,B n.empty,vp]]) Tryz.func29 E E E ?_
 refine af (aa ?_)
 obtain⟨g1,w1,hr1,l1,x1,k1⟩:=cK (P:=Tryz.prog) (w:=w) (T:=52) (cs:=[vl,I n.split.kd,I n.split.ix,B n.split.at_.1,x,y,vk,B n.empty,vp])
 refine cM E E hr1 (ae E E (ag (ab (af (aa (ak E E (k1.ld Mt E (by kernel_rfl)) (am rU E E ((xr 2049 0 E (hl.ext x1) (hx.ext x1) (hy.ext x1) (hk.ext x1) (hp.ext x1))) ?_)))))))
 rintro v7 w7 ⟨x7,rfl⟩
 refine ac E E (ao E E (bj) (ao E E (bk) (ae E E (ae E E (ag (ab (af ?_)))))))
 have hv:=Ia n
 rcases hb:(lB 2049 n).1 with _|_
 ·refine aa (ac E E (ac E E (an E E E (an E E E (aD E E E (ae E E (ag (ab (aw (az E E ?_))))))))))
  exact⟨_,rfl,(x1.trans x7),by rw[←hv,hb];rfl⟩
 ·refine aa (ac E E (ac E E (ai E (ac E E (ai E (al E E E (pZ) (ap E E E (ae E E (ag (ab (aw (az E E ?_))))))))))))
  exact⟨_,rfl,(x1.trans x7),by rw[←hv,hb,Bool.true_and];exact congrArg B (decide_eq_decide.2 (by omega))⟩
end Go.Rl
namespace Go.Rl
open Go.RowKit Go.Proofs
theorem y9 {d:Nat} {m:Int} {n:aY} (h:m<1):lU d m n=(0,false):=by rw[lU.eq_def];exact if_pos h
theorem BX {d:Nat} {m:Int} {n:aY} (h:¬m<1) (h0:n.kids.length=0):lU d m n=(1,yi n.split):=by
 have:n.kids=[]:=List.eq_nil_of_length_eq_zero h0
 rw[lU.eq_def]
 simp only[if_neg h,this]
theorem jO {d:Nat} {m:Int} {n:aY} (hm:¬m<1) (h0:n.kids.length≠0) (h:n.kids.length≠2∨pm n=false∨d=0):lU d m n=(0,false):=by
 rw[lU.eq_def]
 simp only[if_neg hm]
 generalize n.kids=ks at h0 h
 rcases ks with _|⟨x,_|⟨y,_|⟨z,t⟩⟩⟩
 ·exact absurd rfl h0
 ·rfl
 ·rcases h with h|h|h
  ·exact absurd rfl h
  ·simp[h]
  ·subst h
   simp
 ·rfl
theorem Ay {d:Nat} {m:Int} {n x y:aY} (hm:¬m<1) (hk:n.kids=[x,y]) (hi:pm n=true):lU (d+1) m n=if (lU d (m-1) x).2=false then(0,false) else(1+(lU d (m-1) x).1+(lU d (m-1-(lU d (m-1) x).1) y).1,(lU d (m-1-(lU d (m-1) x).1) y).2):=by
 rw[lU.eq_def]
 simp only[if_neg hm,hk,if_pos hi]
theorem Ic {m A C:Int} (hm:¬m<1) (a:0≤A∧A≤max 0 (m-1)) (b:0≤C∧C≤max 0 (m-1-A)):0≤1+A+C∧1+A+C≤max 0 m:=by omega
theorem Az:∀(d:Nat) (m:Int) (n:aY),0≤(lU d m n).1∧(lU d m n).1≤max 0 m
 |d,m,n=>by
  by_cases hm:m<1
  ·rw[y9 hm];exact⟨Int.le_refl _,by show(0:Int)≤_;omega⟩
  ·by_cases h0:n.kids.length=0
   ·rw[BX hm h0];exact⟨by show(0:Int)≤1;omega,by show(1:Int)≤_;omega⟩
   ·by_cases hb:n.kids.length≠2∨pm n=false∨d=0
    ·rw[jO hm h0 hb];exact⟨Int.le_refl _,by show(0:Int)≤_;omega⟩
    ·simp only[not_or,Bool.not_eq_false] at hb
     obtain⟨h2,hi,hd⟩:=hb
     obtain⟨d',rfl⟩:∃d',d=d'+1:=⟨d-1,by omega⟩
     rw[Ay hm (xp (by omega)) hi]
     split
     ·exact⟨Int.le_refl _,by show(0:Int)≤_;omega⟩
     ·have a:=Az d' (m-1) (n.kids[0]'(by omega))
      have b:=Az d' (m-1-(lU d' (m-1) (n.kids[0]'(by omega))).1) (n.kids[1]'(by omega))
      exact Ic hm a b
theorem xt {w:World} {n:aY} {d:Nat} {m:Int} {vl x y vk vp:Value} (ih:∀d',d=d'+1→∀{w:World} {n:aY} {m:Int} {vl x y vk vp:Value},0≤m→m≤65536→cC dc n.lems vl w→bm n.split.at_.2.1 x w→bm n.split.at_.2.2 y w→cC bG n.kids vk w→cC bP n.pf vp w→
 Calls Tryz.prog 111 #[.agg #[vl,I n.split.kd,I n.split.ix,B n.split.at_.1,x,y,vk,B n.empty,vp],I (d':Int),I m] w (bE fun r w'=>aK w w'∧r=.tuple #[I (lU d' m n).1,B (lU d' m n).2]))
 (hd:d≤2048) (hm0:0≤m) (hm1:m≤65536) (hl:cC dc n.lems vl w) (hx:bm n.split.at_.2.1 x w) (hy:bm n.split.at_.2.2 y w) (hk:cC bG n.kids vk w) (hp:cC bP n.pf vp w):
 Calls Tryz.prog 111 #[.agg #[vl,I n.split.kd,I n.split.ix,B n.split.at_.1,x,y,vk,B n.empty,vp],I (d:Int),I m] w (bE fun r w'=>aK w w'∧r=.tuple #[I (lU d m n).1,B (lU d m n).2]):=by
 refine enter (vs:=[.agg #[vl,I n.split.kd,I n.split.ix,B n.split.at_.1,x,y,vk,B n.empty,vp],I (d:Int),I m]) Tryz.func111 E E E ?_
 have hl2:=hl
 refine af (aa ?_)
 obtain⟨g3,w3,hr3,l3,x3,k3⟩:=cK (P:=Tryz.prog) (w:=w) (T:=52) (cs:=[vl,I n.split.kd,I n.split.ix,B n.split.at_.1,x,y,vk,B n.empty,vp])
 refine cM E E hr3 (ae E E (ae E E (ag (ab (af (af (aa (ac E E (al E E E (aV) (ag (ab ?_)))))))))))
 refine bz E (fun h12=>?_) (fun h12=>?_)
 ·have hm:m<1:=h12
  refine af (aa (ae E E (ae E E (ag (ab (aw (ay (bf E E E ?_))))))))
  exact⟨_,rfl,x3,by rw[y9 hm]<;>rfl⟩
 ·have hm:¬m<1:=h12
  refine aC (ab (af (af (aa (ah E E (ar (o:=6) Mt E (by kernel_rfl) E) (ak E E (aj MF E (k3.cell (i:=6) E)) ?_))))))
  refine aO E E (a6 MF (hk.ext x3)) (al E E E (bi) (ag (ab ?_)))
  refine bz E (fun h16=>?_) (fun h16=>?_)
  ·have h0:n.kids.length=0:=by omega
   refine af (aa (ah rfl rfl (ar (o:=1) Tryz.underlying52 rfl (by kernel_rfl) rfl) (ak rfl rfl (k3.ldO (ms:=[I n.split.kd,I n.split.ix,B n.split.at_.1,x,y]) (o:=1) (fun j v hj=>by rcases j with _|_|_|_|_|_|_|_|_|j<;>simp_all) Tryz.underlying48 rfl (by kernel_rfl)) ?_)))
   refine bA (vs:=[]) (r:=.agg #[I 0,I 0,B false,.slice none 0 0,.slice none 0 0]) E E (by exact run_build _ _ _ _ (by kernel_rfl)) (am As E E ((Av (a:=n.split) (b:=lC) (hx.ext x3) (hy.ext x3) (Sl.nil _ _) (Sl.nil _ _))) ?_)
   rintro v20 w20 ⟨x20,rfl⟩
   refine ae E E (ae E E (ag (ab (aw (ay (bf E E E ?_))))))
   exact⟨_,rfl,(x3.trans x20),by rw[BX hm h0,Aw];rfl⟩
  ·have h0:n.kids.length≠0:=by omega
   refine aC (ab (af (af ?_)))
   have hl2:=hl.ext x3
   have hx2:=hx.ext x3
   have hy2:=hy.ext x3
   have hk2:=hk.ext x3
   have hp2:=hp.ext x3
   rcases hem:n.empty with _|_
   ·have kf:=k3
    rw[hem] at kf
    refine aa (ah E E (ar (o:=6) Mt E (by kernel_rfl) E) (ak E E (aj MF E (kf.cell (i:=6) E)) ?_))
    refine aO E E (a6 MF hk2) (al E E E (cX) (ac E E ?_))
    refine ce (fun h25=>?_) (fun h25=>?_)
    ·refine an E E E (an E E E (an E E E (an E E E (ap E E E (ac E E (an E E E (an E E E (an E E E (an E E E ?_)))))))))
     refine ap E E E (ac E E (an E E E (an E E E (ap E E E (ac E E (an E E E (an E E E (an E E E (an E E E ?_)))))))))
     refine ap E E E (ac E E (an E E E (an E E E (ap E E E (ag (ab (bg E (af (aa (ae E E (ae E E ?_)))))))))))
     refine ag (ab (aw (ay (bf E E E ?_))))
     exact⟨_,rfl,x3,by
      rw[jO hm h0 (by
       first
       |exact .inl (by omega)
       |exact .inr (.inr (by omega))
       |exact .inr (.inl (gL fun⟨a1,a2,a3,a4⟩=>by
         first
         |omega
         |(rw[hem] at a3;cases a3))))]<;>rfl⟩
    ·refine ai E (ah E E (ar (o:=1) Mt E (by kernel_rfl) E) (ai E (ah E E (cL (b:=1) (o:=0) My E (by kernel_rfl) E) ?_)))
     refine ai E (ak E E (aj Mx E (kf.cell (i:=1) E)) (ai E (al E E E (aV) (aD E E E (ac E E ?_)))))
     refine ce (fun h31=>?_) (fun h31=>?_)
     ·refine an E E E (an E E E (an E E E (an E E E (ap E E E (ac E E (an E E E (an E E E (ap E E E (ac E E ?_)))))))))
      refine an E E E (an E E E (an E E E (an E E E (ap E E E (ac E E (an E E E (an E E E (ap E E E (ag ?_)))))))))
      refine ab (bg E (af (aa (ae E E (ae E E (ag (ab (aw (ay (bf E E E ?_))))))))))
      exact⟨_,rfl,x3,by
       rw[jO hm h0 (by
        first
        |exact .inl (by omega)
        |exact .inr (.inr (by omega))
        |exact .inr (.inl (gL fun⟨a1,a2,a3,a4⟩=>by
          first
          |omega
          |(rw[hem] at a3;cases a3))))]<;>rfl⟩
     ·refine ai E (ah E E (ar (o:=1) Mt E (by kernel_rfl) E) (ai E (ah E E (cL (b:=1) (o:=0) My E (by kernel_rfl) E) ?_)))
      refine ai E (ak E E (aj Mx E (kf.cell (i:=1) E)) (ai E (al E E E (ca) (aD E E E (ac E E ?_)))))
      refine ce (fun h37=>?_) (fun h37=>?_)
      ·refine an E E E (an E E E (ap E E E (ac E E (an E E E (an E E E (an E E E (an E E E (ap E E E (ac E E ?_)))))))))
       refine an E E E (an E E E (ap E E E (ag (ab (bg E (af (aa (ae E E (ae E E (ag (ab (aw (ay (bf E E E ?_))))))))))))))
       exact⟨_,rfl,x3,by
        rw[jO hm h0 (by
         first
         |exact .inl (by omega)
         |exact .inr (.inr (by omega))
         |exact .inr (.inl (gL fun⟨a1,a2,a3,a4⟩=>by
           first
           |omega
           |(rw[hem] at a3;cases a3))))]<;>rfl⟩
      ·refine ai E (ah E E (ar (o:=7) Mt E (by kernel_rfl) E) (ai E (ak E E (aj MD E (kf.cell (i:=7) E)) ?_)))
       refine aD E E E (ac E E (ai E (ah E E (ar (o:=8) Mt E (by kernel_rfl) E) (ai E (ak E E (aj MH E (kf.cell (i:=8) E)) ?_)))))
       refine ai E (aO E E (a6 MH hp2) (ai E (al E E E (ca) (aD E E E (ac E E ?_)))))
       refine ce (fun h47=>?_) (fun h47=>?_)
       ·refine an E E E (an E E E (ap E E E (ag (ab (bg E (af (aa (ae E E (ae E E (ag (ab (aw (ay (bf E E E ?_))))))))))))))
        exact⟨_,rfl,x3,by
         rw[jO hm h0 (by
          first
          |exact .inl (by omega)
          |exact .inr (.inr (by omega))
          |exact .inr (.inl (gL fun⟨a1,a2,a3,a4⟩=>by
            first
            |omega
            |(rw[hem] at a3;cases a3))))]<;>rfl⟩
       ·refine ai E (ac E E (ai E (al E E E (bi) (aD E E E (ag (ab ?_))))))
        refine bz E (fun h50=>?_) (fun h50=>?_)
        ·refine af (aa (ae E E (ae E E (ag (ab (aw (ay (bf E E E ?_))))))))
         exact⟨_,rfl,x3,by
          rw[jO hm h0 (by
           first
           |exact .inl (by omega)
           |exact .inr (.inr (by omega))
           |exact .inr (.inl (gL fun⟨a1,a2,a3,a4⟩=>by
             first
             |omega
             |(rw[hem] at a3;cases a3))))]<;>rfl⟩
        ·refine aC (ab (af ?_))
         have hk2n:n.kids.length=2:=by omega
         have hks:=xp hk2n
         have hi:=EO (n:=n) (by omega) (by omega) hem (by omega)
         obtain⟨d',rfl⟩:∃d',d=d'+1:=⟨d-1,by omega⟩
         refine aa (ah E E (ar (o:=6) Mt E (by kernel_rfl) E) (ak E E (aj MF E (kf.cell (i:=6) E)) ?_))
         obtain⟨a54,c54,p54,q54,h54⟩:=cd (P:=Tryz.prog) (sz:=9) MF (by kernel_rfl) cG (by omega) hk2 (i:=0) (by omega) .i64
         obtain⟨e54,he54⟩:∃e,e=n.kids[0]'(by omega):=⟨_,rfl⟩
         rw[←he54] at h54
         obtain⟨x54_0,x54_1,x54_2,x54_3,x54_4,rfl,f54_0,f54_1,f54_2,f54_3,f54_4⟩:=d9 h54
         refine aq E E E (p54 _) (ak E E (q54.ld Mt E (by kernel_rfl)) (ac E E (al (r:=I (d':Int)) E E E ((by have e:((d':Nat):Int)=((d'+1:Nat):Int)-1:=(by omega);rw[e];exact bD (by omega) (by omega))) ?_)))
         refine ac E E (al (r:=I (m-1)) E E E (bD (by omega) (by omega)) (am lV E E ((ih d' E (by omega) (by omega) f54_0 f54_1 f54_2 f54_3 f54_4)) ?_))
         rintro v60 w60 ⟨x60,rfl⟩
         have hb1:=Az d' (m-1) e54
         refine ac E E (ao E E (bj) (ao E E (bk) (ae E E (ae E E (ag (ab (af (af ?_))))))))
         have hz:=Aq d' (m-1) e54
         rcases hb:(lU d' (m-1) e54).2 with _|_
         ·refine aa (ac E E (bt E E bu (ag (ab (bg E (af (aa (ae E E (ae E E (ag (ab (aw (ay (bf E E E ?_))))))))))))))
          exact⟨_,rfl,(x3.trans x60),by rw[Ay hm hks hi,←he54,if_pos hb]<;>rfl⟩
         ·refine aa (ac E E (bt E E bu (ag (ab (cr E (aC (ab (af (aa (ah E E (ar (o:=6) Mt E (by kernel_rfl) E) ?_))))))))))
          refine ak E E (aj MF E (x60.cell_some (kf.cell (i:=6) E))) ?_
          obtain⟨a68,c68,p68,q68,h68⟩:=cd (P:=Tryz.prog) (sz:=9) MF (by kernel_rfl) cG (by omega) (hk2.ext x60) (i:=1) (by omega) .i64
          obtain⟨e68,he68⟩:∃e,e=n.kids[1]'(by omega):=⟨_,rfl⟩
          rw[←he68] at h68
          obtain⟨x68_0,x68_1,x68_2,x68_3,x68_4,rfl,f68_0,f68_1,f68_2,f68_3,f68_4⟩:=d9 h68
          refine aq E E E (p68 _) (ak E E (q68.ld Mt E (by kernel_rfl)) (ac E E (al (r:=I (d':Int)) E E E ((by have e:((d':Nat):Int)=((d'+1:Nat):Int)-1:=(by omega);rw[e];exact bD (by omega) (by omega))) ?_)))
          refine ac E E (al (r:=I (m-1)) E E E (bD (by omega) (by omega)) (ac E E (al (r:=I (m-1-(lU d' (m-1) e54).1)) E E E (bD (by omega) (by omega)) ?_)))
          refine am lV E E ((ih d' E (by omega) (by omega) f68_0 f68_1 f68_2 f68_3 f68_4)) ?_
          rintro v76 w76 ⟨x76,rfl⟩
          have hb2:=Az d' (m-1-(lU d' (m-1) e54).1) e68
          refine ac E E (ao E E (bj) (ao E E (bk) (ae E E (ae E E (ag (ab (af (aa (ac E E (al (r:=I (1+(lU d' (m-1) e54).1)) E E E (aN (by omega) (by omega)) ?_))))))))))
          refine ac E E (al (r:=I (1+(lU d' (m-1) e54).1+(lU d' (m-1-(lU d' (m-1) e54).1) e68).1)) E E E (aN (by omega) (by omega)) ?_)
          refine ac E E (ae E E (ae E E (ag (ab (aw (bf E E E ?_))))))
          exact⟨_,rfl,((x3.trans x60).trans x76),by rw[Ay hm hks hi,←he54,←he68,if_neg (by rw[hb];simp)]⟩
   ·have kf:=k3
    rw[hem] at kf
    refine aa (ah E E (ar (o:=6) Mt E (by kernel_rfl) E) (ak E E (aj MF E (kf.cell (i:=6) E)) ?_))
    refine aO E E (a6 MF hk2) (al E E E (cX) (ac E E ?_))
    refine ce (fun h25=>?_) (fun h25=>?_)
    ·refine an E E E (an E E E (an E E E (an E E E (ap E E E (ac E E (an E E E (an E E E (an E E E (an E E E ?_)))))))))
     refine ap E E E (ac E E (an E E E (an E E E (ap E E E (ac E E (an E E E (an E E E (an E E E (an E E E ?_)))))))))
     refine ap E E E (ac E E (an E E E (an E E E (ap E E E (ag (ab (bg E (af (aa (ae E E (ae E E ?_)))))))))))
     refine ag (ab (aw (ay (bf E E E ?_))))
     exact⟨_,rfl,x3,by
      rw[jO hm h0 (by
       first
       |exact .inl (by omega)
       |exact .inr (.inr (by omega))
       |exact .inr (.inl (gL fun⟨a1,a2,a3,a4⟩=>by
         first
         |omega
         |(rw[hem] at a3;cases a3))))]<;>rfl⟩
    ·refine ai E (ah E E (ar (o:=1) Mt E (by kernel_rfl) E) (ai E (ah E E (cL (b:=1) (o:=0) My E (by kernel_rfl) E) ?_)))
     refine ai E (ak E E (aj Mx E (kf.cell (i:=1) E)) (ai E (al E E E (aV) (aD E E E (ac E E ?_)))))
     refine ce (fun h31=>?_) (fun h31=>?_)
     ·refine an E E E (an E E E (an E E E (an E E E (ap E E E (ac E E (an E E E (an E E E (ap E E E (ac E E ?_)))))))))
      refine an E E E (an E E E (an E E E (an E E E (ap E E E (ac E E (an E E E (an E E E (ap E E E (ag ?_)))))))))
      refine ab (bg E (af (aa (ae E E (ae E E (ag (ab (aw (ay (bf E E E ?_))))))))))
      exact⟨_,rfl,x3,by
       rw[jO hm h0 (by
        first
        |exact .inl (by omega)
        |exact .inr (.inr (by omega))
        |exact .inr (.inl (gL fun⟨a1,a2,a3,a4⟩=>by
          first
          |omega
          |(rw[hem] at a3;cases a3))))]<;>rfl⟩
     ·refine ai E (ah E E (ar (o:=1) Mt E (by kernel_rfl) E) (ai E (ah E E (cL (b:=1) (o:=0) My E (by kernel_rfl) E) ?_)))
      refine ai E (ak E E (aj Mx E (kf.cell (i:=1) E)) (ai E (al E E E (ca) (aD E E E (ac E E ?_)))))
      refine ce (fun h37=>?_) (fun h37=>?_)
      ·refine an E E E (an E E E (ap E E E (ac E E (an E E E (an E E E (an E E E (an E E E (ap E E E (ac E E ?_)))))))))
       refine an E E E (an E E E (ap E E E (ag (ab (bg E (af (aa (ae E E (ae E E (ag (ab (aw (ay (bf E E E ?_))))))))))))))
       exact⟨_,rfl,x3,by
        rw[jO hm h0 (by
         first
         |exact .inl (by omega)
         |exact .inr (.inr (by omega))
         |exact .inr (.inl (gL fun⟨a1,a2,a3,a4⟩=>by
           first
           |omega
           |(rw[hem] at a3;cases a3))))]<;>rfl⟩
      ·refine ai E (ah E E (ar (o:=7) Mt E (by kernel_rfl) E) (ai E (ak E E (aj MD E (kf.cell (i:=7) E)) ?_)))
       refine aD E E E (ac E E (an E E E (an E E E (an E E E (an E E E (ap E E E (ac E E (an E E E (an E E E ?_)))))))))
       refine ap E E E (ag (ab (bg E (af (aa (ae E E (ae E E (ag (ab (aw (ay (bf E E E ?_))))))))))))
       exact⟨_,rfl,x3,by
        rw[jO hm h0 (by
         first
         |exact .inl (by omega)
         |exact .inr (.inr (by omega))
         |exact .inr (.inl (gL fun⟨a1,a2,a3,a4⟩=>by
           first
           |omega
           |(rw[hem] at a3;cases a3))))]<;>rfl⟩
theorem xu:∀(d:Nat),d≤2048→∀{w:World} {n:aY} {m:Int} {vl x y vk vp:Value},0≤m→m≤65536→cC dc n.lems vl w→bm n.split.at_.2.1 x w→bm n.split.at_.2.2 y w→cC bG n.kids vk w→cC bP n.pf vp w→
 Calls Tryz.prog 111 #[.agg #[vl,I n.split.kd,I n.split.ix,B n.split.at_.1,x,y,vk,B n.empty,vp],I (d:Int),I m] w (bE fun r w'=>aK w w'∧r=.tuple #[I (lU d m n).1,B (lU d m n).2])
 |0,hd,_,_,_,_,_,_,_,_,h0,h1,hl,hx,hy,hk,hp=>xt (fun _ e=>by cases e) hd h0 h1 hl hx hy hk hp
 |d+1,hd,_,_,_,_,_,_,_,_,h0,h1,hl,hx,hy,hk,hp=>xt (fun d' e _ _ _ _ _ _ _ _ a0 a1 b1 b2 b3 b4 b5=>by
   cases e
   exact xu d (by omega) a0 a1 b1 b2 b3 b4 b5) hd h0 h1 hl hx hy hk hp
theorem mZ {w:World} {n:aY} {vl x y vk vp:Value} (hl:cC dc n.lems vl w) (hx:bm n.split.at_.2.1 x w) (hy:bm n.split.at_.2.2 y w) (hk:cC bG n.kids vk w) (hp:cC bP n.pf vp w):
 Calls Tryz.prog 66 #[.agg #[vl,I n.split.kd,I n.split.ix,B n.split.at_.1,x,y,vk,B n.empty,vp]] w (bE fun r w'=>aK w w'∧r=B (qT n)):=by
 refine enter (vs:=[.agg #[vl,I n.split.kd,I n.split.ix,B n.split.at_.1,x,y,vk,B n.empty,vp]]) Tryz.func66 E E E ?_
 refine af (aa ?_)
 obtain⟨g1,w1,hr1,l1,x1,k1⟩:=cK (P:=Tryz.prog) (w:=w) (T:=52) (cs:=[vl,I n.split.kd,I n.split.ix,B n.split.at_.1,x,y,vk,B n.empty,vp])
 refine cM E E hr1 (ae E E (ag (ab (af (aa (ak E E (k1.ld Mt E (by kernel_rfl)) (am lV E E ((xu 2048 (Nat.le_refl _) (m:=65536) (by omega) (by omega) (hl.ext x1) (hx.ext x1) (hy.ext x1) (hk.ext x1) (hp.ext x1))) ?_)))))))
 rintro v7 w7 ⟨x7,rfl⟩
 refine ac E E (ao E E (bj) (ao E E (bk) (ae E E (ae E E (ag (ab (af (aa (ac E E (ae E E ?_))))))))))
 refine ag (ab (aw (az E E ?_)))
 exact⟨_,rfl,(x1.trans x7),by rw[H9 n]⟩
end Go.Rl
namespace Go.Rl
open Go.RowKit
def fP (q:ft):Bool:=rv q.1 q.2.1 q.2.2
def m0 (l:List cg):Bool:=l.all fun m=>fP m.co
def i6 (l:dN):Bool:=fP l.va&&m0 l.pf
mutual
def jn:aY→Bool
 |.mk lems sp kids _ pf=>m0 pf&&fP sp.at_&&lems.all i6&&xv kids
def xv:List aY→Bool
 |[]=>true
 |n::l=>jn n&&xv l
end
theorem za:∀l:List aY,xv l=l.all jn
 |[]=>rfl
 |n::l=>by simp only[xv,List.all_cons,za l]
theorem EP (n:aY):jn n=(m0 n.pf&&fP n.split.at_&&n.lems.all i6&&n.kids.all jn):=by
 cases n with
 |mk l s k e p=>simp only[jn,za];rfl
def LM (m:cg):Prop:=lR m.kd∧lR m.ix∧lR m.lo∧lR m.hi
def wP (l:List cg):Prop:=∀m∈l,LM m
def Ie (l:dN):Prop:=lR l.un∧wP l.pf
def wD (d:bU):Prop:=lR d.kd∧lR d.ix
mutual
def wN:aY→Prop
 |.mk lems sp kids _ pf=>(∀l∈lems,Ie l)∧wD sp∧wP pf∧Lk kids
def Lk:List aY→Prop
 |[]=>True
 |n::l=>wN n∧Lk l
end
theorem AA:∀l:List aY,Lk l↔∀n∈l,wN n
 |[]=>by simp[Lk]
 |n::l=>by simp only[Lk,AA l,List.mem_cons,forall_eq_or_imp]
theorem ur (n:aY):wN n↔(∀l∈n.lems,Ie l)∧wD n.split∧wP n.pf∧∀k∈n.kids,wN k:=by
 cases n with
 |mk l s k e p=>simp only[wN,AA];rfl
theorem na (n:aY):dH n=if n.kids.length=0 then wZ n.empty++eJ n.lems++ji n.pf else[2]++eJ n.lems++fS n.split++n.kids.flatMap dH:=by
 cases n with
 |mk l s k e p=>
  cases k with
  |nil=>simp[dH,aY.kids,aY.empty,aY.lems,aY.pf]
  |cons k ks=>simp[dH,aY.kids,aY.lems,aY.split,xb]
theorem nS {l t:List UInt8} {n:Int} (h:jK l=some (n,t)):l=du n++t∧lR n:=by
 refine⟨?_,Ah (st:=some l) (t:=t) h⟩
 unfold jK at h
 obtain⟨p,h1,h2⟩:=Option.map_eq_some_iff.1 h
 simp only[Prod.mk.injEq] at h2
 obtain⟨h3,h4⟩:=f9 h1
 rw[←h2.1,←h2.2,du,KY]
 exact h3
theorem vD {l t:List UInt8} {q:ft} (h:jp l=some (q,t)):l=gD q++t∧fP q=true:=by
 obtain⟨b,n,m⟩:=q
 have:=EJ h
 exact⟨this.1,this.2.1⟩
section
variable {α:Type} {f:List UInt8→Option (α×List UInt8)} {e:α→List UInt8} {Q:α→Prop}
theorem xw (hf:∀l a t,f l=some (a,t)→l=e a++t∧Q a):∀(n:Nat) (l:List UInt8) (xs:List α) (t:List UInt8),bT f n l=some (xs,t)→l=xs.flatMap e++t∧xs.length=n∧∀x∈xs,Q x
 |0,l,xs,t,h=>by
  simp only[bT,Option.some.injEq,Prod.mk.injEq] at h
  obtain⟨rfl,rfl⟩:=h
  exact⟨rfl,rfl,fun _ h=>by simp at h⟩
 |n+1,l,xs,t,h=>by
  simp only[bT] at h
  obtain⟨p,h1,h2⟩:=Option.bind_eq_some_iff.1 h
  obtain⟨q,h3,h4⟩:=Option.map_eq_some_iff.1 h2
  simp only[Prod.mk.injEq] at h4
  obtain⟨rfl,rfl⟩:=h4
  obtain⟨a1,a2⟩:=hf l p.1 p.2 h1
  obtain⟨b1,b2,b3⟩:=xw hf n p.2 q.1 q.2 h3
  refine⟨?_,by simp[b2],fun x hx=>?_⟩
  ·rw[List.flatMap_cons,List.append_assoc,←b1];exact a1
  ·rcases List.mem_cons.1 hx with rfl|hx
   ·exact a2
   ·exact b3 x hx
theorem rV (hf:∀l a t,f l=some (a,t)→l=e a++t∧Q a) {l t:List UInt8} {xs:List α} (h:dq f l=some (xs,t)):l=uv xs.length++xs.flatMap e++t∧xs.length<18446744073709551616∧∀x∈xs,Q x:=by
 unfold dq at h
 obtain⟨p,h1,h2⟩:=Option.bind_eq_some_iff.1 h
 obtain⟨a1,a2⟩:=f9 (l:=l) (n:=p.1) (t:=p.2) h1
 obtain⟨b1,b2,b3⟩:=xw hf _ _ _ _ h2
 refine⟨?_,by omega,b3⟩
 rw[b2,List.append_assoc,←b1]
 exact a1
end
theorem EQ {k n:Nat} {l t:List UInt8} (h:ki k l=some (n,t)):l=uv n++t∧n≤k:=by
 unfold ki at h
 obtain⟨p,h1,h2⟩:=Option.bind_eq_some_iff.1 h
 split at h2
 ·simp only[Option.some.injEq] at h2
  subst h2
  exact⟨(f9 h1).1,by assumption⟩
 ·cases h2
theorem BY {n:Nat} (h:n≤1):uv n=wZ (bV n):=by
 rw[je (by omega)]
 rcases Nat.le_one_iff_eq_zero_or_eq_one.1 h with rfl|rfl<;>rfl
theorem ER {l t:List UInt8} {d:bU} (h:oB l=some (d,t)):l=fS d++t∧(fP d.at_=true∧wD d):=by
 unfold oB at h
 obtain⟨p1,h1,h⟩:=Option.bind_eq_some_iff.1 h
 obtain⟨p2,h2,h⟩:=Option.bind_eq_some_iff.1 h
 obtain⟨p3,h3,h⟩:=Option.bind_eq_some_iff.1 h
 simp only[Option.some.injEq,Prod.mk.injEq] at h
 obtain⟨rfl,rfl⟩:=h
 have a1:=nS (n:=p1.1) (t:=p1.2) h1
 have a2:=nS (n:=p2.1) (t:=p2.2) h2
 have a3:=vD (q:=p3.1) (t:=p3.2) h3
 refine⟨?_,a3.2,a1.2,a2.2⟩
 show l=du p1.1++du p2.1++gD p3.1++p3.2
 rw[List.append_assoc,List.append_assoc,←a3.1,←a2.1,←a1.1]
theorem If {l t:List UInt8} {d:cg} (h:rR l=some (d,t)):l=fp d++t∧(fP d.co=true∧LM d):=by
 unfold rR at h
 obtain⟨p1,h1,h⟩:=Option.bind_eq_some_iff.1 h
 obtain⟨p2,h2,h⟩:=Option.bind_eq_some_iff.1 h
 obtain⟨p3,h3,h⟩:=Option.bind_eq_some_iff.1 h
 obtain⟨p4,h4,h⟩:=Option.bind_eq_some_iff.1 h
 obtain⟨p5,h5,h⟩:=Option.bind_eq_some_iff.1 h
 simp only[Option.some.injEq,Prod.mk.injEq] at h
 obtain⟨rfl,rfl⟩:=h
 have a1:=nS (n:=p1.1) (t:=p1.2) h1
 have a2:=nS (n:=p2.1) (t:=p2.2) h2
 have a3:=nS (n:=p3.1) (t:=p3.2) h3
 have a4:=nS (n:=p4.1) (t:=p4.2) h4
 have a5:=vD (q:=p5.1) (t:=p5.2) h5
 refine⟨?_,a5.2,a1.2,a2.2,a3.2,a4.2⟩
 show l=du p1.1++du p2.1++du p3.1++du p4.1++gD p5.1++p5.2
 rw[List.append_assoc,List.append_assoc,List.append_assoc,List.append_assoc,←a5.1,←a4.1,←a3.1,←a2.1,←a1.1]
theorem ES {l t:List UInt8} {xs:List cg} (h:BV l=some (xs,t)):l=ji xs++t∧xs.length<18446744073709551616∧m0 xs=true∧wP xs:=by
 obtain⟨h1,h2,h3⟩:=rV (fun l a t h=>If h) h
 exact⟨h1,h2,List.all_eq_true.2 fun m hm=>(h3 m hm).1,fun m hm=>(h3 m hm).2⟩
theorem Ig {l t:List UInt8} {m:dN} (h:nN l=some (m,t)):l=ei m++t∧(i6 m=true∧Ie m∧m.pf.length<18446744073709551616):=by
 unfold nN at h
 obtain⟨p1,h1,h⟩:=Option.bind_eq_some_iff.1 h
 obtain⟨p2,h2,h⟩:=Option.bind_eq_some_iff.1 h
 obtain⟨p3,h3,h⟩:=Option.bind_eq_some_iff.1 h
 obtain⟨p4,h4,h⟩:=Option.bind_eq_some_iff.1 h
 simp only[Option.some.injEq,Prod.mk.injEq] at h
 obtain⟨rfl,rfl⟩:=h
 have a1:=nS (n:=p1.1) (t:=p1.2) h1
 have a2:=EQ (n:=p2.1) (t:=p2.2) h2
 have a3:=vD (q:=p3.1) (t:=p3.2) h3
 have a4:=ES (xs:=p4.1) (t:=p4.2) h4
 refine⟨?_,by simp only[i6,Bool.and_eq_true];exact⟨a3.2,a4.2.2.1⟩,⟨a1.2,a4.2.2.2⟩,a4.2.1⟩
 show l=du p1.1++wZ (bV p2.1)++gD p3.1++ji p4.1++p4.2
 rw[List.append_assoc,List.append_assoc,List.append_assoc,←a4.1,←a3.1,←BY a2.2,←a2.1,←a1.1]
theorem Gh {l t:List UInt8} {xs:List dN} (h:jq l=some (xs,t)):l=eJ xs++t∧xs.length<18446744073709551616∧xs.all i6=true∧(∀m∈xs,Ie m):=by
 obtain⟨h1,h2,h3⟩:=rV (fun l a t h=>Ig h) h
 exact⟨h1,h2,List.all_eq_true.2 fun m hm=>(h3 m hm).1,fun m hm=>(h3 m hm).2.1⟩
theorem xx:∀(k:Nat) (l t:List UInt8) (n:aY),qQ k l=some (n,t)→l=dH n++t∧(jn n=true∧wN n∧(n.kids.length=0∨n.kids.length=2))
 |0,_,_,_,h=>by cases h
 |k+1,l,t,n,h=>by
  simp only[qQ] at h
  obtain⟨p1,h1,h⟩:=Option.bind_eq_some_iff.1 h
  obtain⟨p2,h2,h⟩:=Option.bind_eq_some_iff.1 h
  have a1:=EQ (n:=p1.1) (t:=p1.2) h1
  have a2:=Gh (xs:=p2.1) (t:=p2.2) h2
  split at h
  ·rename_i hk
   obtain⟨p3,h3,h⟩:=Option.bind_eq_some_iff.1 h
   simp only[Option.some.injEq,Prod.mk.injEq] at h
   obtain⟨rfl,rfl⟩:=h
   have a3:=ES (xs:=p3.1) (t:=p3.2) h3
   refine⟨?_,?_,?_,.inl rfl⟩
   ·simp only[dH]
    rw[List.append_assoc,List.append_assoc,←a3.1,←a2.1,show decide (p1.1=1)=bV p1.1 from rfl,←BY (by omega),←a1.1]
   ·simp only[jn,xv,a3.2.2.1,a2.2.2.1,lC,Ld]
    decide
   ·simp only[wN,Lk,and_true]
    exact⟨a2.2.2.2,⟨by show lR 0;unfold lR;omega,by show lR 0;unfold lR;omega⟩,a3.2.2.2⟩
  ·rename_i hk
   obtain⟨p3,h3,h⟩:=Option.bind_eq_some_iff.1 h
   obtain⟨p4,h4,h⟩:=Option.bind_eq_some_iff.1 h
   obtain⟨p5,h5,h⟩:=Option.bind_eq_some_iff.1 h
   simp only[Option.some.injEq,Prod.mk.injEq] at h
   obtain⟨rfl,rfl⟩:=h
   have a3:=ER (d:=p3.1) (t:=p3.2) h3
   have a4:=xx k _ p4.2 p4.1 h4
   have a5:=xx k _ p5.2 p5.1 h5
   have h2:p1.1=2:=by omega
   refine⟨?_,?_,?_,.inr rfl⟩
   ·have u2:uv 2=[2]:=je (by omega)
    rw[h2,u2] at a1
    simp only[dH,xa,List.append_assoc,List.nil_append]
    rw[←a5.1,←a4.1,←a3.1,←a2.1,←a1.1]
   ·simp only[jn,xv,a2.2.2.1,a3.2.1,a4.2.1,a5.2.1]
    decide
   ·simp only[wN,Lk,and_true]
    exact⟨a2.2.2.2,a3.2.2,fun _ h=>by simp at h,a4.2.2.1,a5.2.2.1⟩
theorem Ih {l t:List UInt8} {n:aY} (h:im l=some (n,t)):l=dH n++t∧(jn n=true∧wN n∧(n.kids.length=0∨n.kids.length=2)):=xx l.length l t n h
theorem jT (q:ft):4*(q.2.1.length+q.2.2.length)≤(gD q).length:=by
 have h:∀n:List UInt32,4*n.length≤(jy n).length:=fun n=>by simp only[jy,List.length_append,eU];omega
 have h1:=h q.2.1
 have h2:=h q.2.2
 simp only[gD,oH,List.length_append,List.length_cons,List.length_nil]
 omega
end Go.Rl
namespace Go.Rl
def lcp:List UInt8→List UInt8→Nat
 |a::l,b::m=>if a=b then lcp l m+1 else 0
 |_,_=>0
def ml (d:List UInt8) (i k:Nat):Nat:=lcp (d.drop i) (d.drop (i-k))
def bst (d:List UInt8) (i:Nat):Nat→Nat×Nat
 |0=>(0,0)
 |j+1=>if 4≤ml d i (j+1)∧(bst d i j).1<ml d i (j+1) then(ml d i (j+1),j+1) else bst d i j
def JA (d:List UInt8) (i:Nat):Nat×Nat:=bst d i (min i 4096)
def pk (d:List UInt8) (i run:Nat):List UInt8:=
 if _h:i<d.length then
  if hn:(JA d i).1=0 then pk d (i+1) (run+1)
  else uv run++(d.drop (i-run)).take run++uv ((JA d i).1-4)++uv ((JA d i).2-1)++pk d (i+(JA d i).1) 0
 else if 0<run then uv run++d.drop (d.length-run) else[]
termination_by d.length-i
decreasing_by all_goals omega
def Ii (d:List UInt8):List UInt8:=uv d.length++pk d 0 0
def cpy (k:Nat):Nat→List UInt8→List UInt8
 |0,out=>out
 |m+1,out=>cpy k m (out++[out.getD (out.length-k) 0])
def unp (total:Nat):Nat→List UInt8→List UInt8→Option (List UInt8)
 |0,_,_=>none
 |f+1,rest,out=>
  if out.length<total then
   (eW rest).bind fun p=>
     if total-out.length<p.1∨p.2.length<p.1 then none
     else if total-out.length=p.1 then(if p.2.drop p.1=[] then some (out++p.2.take p.1) else none)
     else(eW (p.2.drop p.1)).bind fun q=>
      if total-out.length-p.1<4∨total-out.length-p.1-4<q.1 then none
      else(eW q.2).bind fun r=>
       if 4096≤r.1∨(out++p.2.take p.1).length≤r.1 then none
       else unp total f r.2 (cpy (r.1+1) (q.1+4) (out++p.2.take p.1))
  else if rest=[] then some out else none
end Go.Rl
namespace Go.Rl
def unr (total:Nat):Nat→List UInt8→List UInt8→Option (List UInt8×List UInt8)
 |0,_,_=>none
 |f+1,rest,out=>
  if out.length<total then
   (oA rest).bind fun p=>
     if (out++p.1).length<total then
      (eW p.2).bind fun q=>(eW q.2).bind fun r=>
        if total≤q.1∨(out++p.1).length≤r.1 then none
        else unr total f r.2 (cpy (r.1+1) (min (q.1+4) (total-(out++p.1).length)) (out++p.1))
     else some (out++p.1,p.2)
  else some (out,rest)
def vp (l t:List UInt8) (total:Nat):Option (List UInt8):=(unp total (total+1) t []).bind fun out=>if Ii out=l then some out else none
def vr (l t:List UInt8) (total:Nat):Option (List UInt8):=(unr total (total+1) t []).bind fun p=>if p.2=[]∧Ii p.1=l then some p.1 else none
end Go.Rl
namespace Go.Rl
def pos (d q:List UInt8) (n:Nat):List Nat:=(List.range n).filter fun p=>(d.drop p).take 4==q
end Go.Rl
namespace Go.Rl
open Go.RowKit Go.Proofs
open Go.Maps (Keyed)
end Go.Rl
namespace Go.Rl
open Go.RowKit Go.Proofs
end Go.Rl
namespace Go.Rl
open Go.RowKit Go.Proofs
theorem n64 {n:Nat} (h:n<18446744073709551616):(UInt64.ofNat n).toNat=n:=by rw[UInt64.toNat_ofNat'];omega
end Go.Rl
namespace Go.Rl
open Go.RowKit Go.Proofs
theorem BZ:aG Tryz.prog 43:=⟨_,Tryz.func43,by kernel_rfl,rfl⟩
theorem B0 {w:World} {l m:List UInt8} {v u:Value} (hv:cJ l v w) (hu:cJ m u w):
 Calls Tryz.prog 43 #[v,u] w (bE fun r w'=>aK w w'∧r=B (decide (l=m))):=by
 refine enter (vs:=[v,u]) Tryz.func43 E E E ?_
 have hll:=hv.len
 refine af (aa (ae E E (ag (ab (af (af (aa (ac E E (aO E E (cT hv) (ac E E (aO E E (cT hu) (al E E E (cX) ?_))))))))))))
 refine ag (ab ?_)
 refine bz E (fun h10=>?_) (fun h10=>?_)
 ·have hne:l≠m:=fun h=>h10 (by rw[h])
  refine af (aa (ae E E (ag (ab (aw (ay (az E E ?_)))))))
  exact⟨_,rfl,aK.refl _,congrArg B (decide_eq_false hne).symm⟩
 ·have hlen:l.length=m.length:=by omega
  refine aC (ab (af (af (aa (ac E E (aO E E (cT hv) (ac E E (ag (ab (aE ?_))))))))))
  refine cf (α:=Nat) (fun x=>[(0,v),(1,u),(12,I (l.length:Int)),(13,I (x:Int))]) (fun x w'=>aK w w'∧x≤l.length∧l.take x=m.take x) (fun x=>l.length-x) (0) ⟨rfl,rfl,rfl,rfl,trivial⟩ ⟨aK.refl _,by omega,rfl⟩ ?_
  rintro i w4 ⟨e4,hi,ht⟩
  refine af (aa (al E E E (aV) (ag (ab (af ?_)))))
  refine bz E (fun h14=>?_) (fun h14=>?_)
  ·refine aC (ab (af (aE (af (aa (ac E E (ae E E (ag (ab (af (bI 8 [0,1,12,13,19,23] (by kernel_rfl) (by kernel_rfl) ?_)))))))))))
   refine aA E E (aA E E ?_)
   obtain⟨a18,p18,q18⟩:=gH (hv.ext e4) (i:=i) (by omega) .i64
   refine aF E E E (fun w _=>p18 w) (aP E E (fun w hw=>aj MC E (hw.cell_some q18)) (aA E E (aA E E ?_)))
   obtain⟨a22,p22,q22⟩:=gH (hu.ext e4) (i:=i) (by omega) .i64
   refine aF E E E (fun w _=>p22 w) (aP E E (fun w hw=>aj MC E (hw.cell_some q22)) (cq ?_))
   intro wg6 xg6
   rintro _ hq0
   obtain rfl:=Eq.symm hq0
   rintro _ hq1
   obtain rfl:=Eq.symm hq1
   rintro _ rfl
   rintro _ rfl
   rintro _ rfl
   rintro _ rfl
   refine al E E E (G5) (ag (ab ?_))
   refine bz E (fun h24=>?_) (fun h24=>?_)
   ·have hne:l≠m:=fun h=>h24 (by subst h;rfl)
    refine af (aa (ae E E (ag (ab (aw (aZ (ay (ay (aZ (ay (az E E ?_)))))))))))
    exact⟨_,rfl,(e4.trans xg6),congrArg B (decide_eq_false hne).symm⟩
   ·have he:l[i]'(by omega)=m[i]'(by omega):=Classical.byContradiction fun h=>h24 h
    refine aC (aS (ab (aa (al (r:=I ((i+1:Nat):Int)) E E E (by have e:((i+1:Nat):Int)=(i:Int)+1:=(by omega);rw[e];exact aN (by omega) (by omega)) ?_))))
    refine ac E E (ag ?_)
    refine bR (i+1) ⟨rfl,rfl,rfl,rfl,trivial⟩ ⟨(e4.trans xg6),by omega,by rw[List.take_succ_eq_append_getElem (by omega),List.take_succ_eq_append_getElem (by omega),ht,he]⟩ (by omega)
  ·refine bc (aI (aI (be (ab (af (aa (ae E E (ag (ab (aw (az E E ?_)))))))))))
   exact⟨_,rfl,e4,by
    rw[List.take_of_length_le (by omega),List.take_of_length_le (by omega)] at ht
    rw[decide_eq_true ht];rfl⟩
end Go.Rl
namespace Go.Rl
open Go.RowKit Go.Proofs
section
variable {w:World} {g:Nat} {st:Option (List UInt8)}
theorem Ij (hr:cV g st w):Calls Tryz.prog 90 #[.pointer (some ⟨g,0,none⟩)] w (bE fun r w'=>w=w'∧r=I ((st.getD []).length:Nat)):=(F0 hr).mono fun _ _ ⟨v,h,h1,h2⟩=>⟨v,h,h2.symm,h1⟩
end
end Go.Rl
namespace Go.Rl
open Go.RowKit Go.Proofs
theorem AB {l t':List UInt8} {n:Nat} (h:eW (l.take 10)=some (n,t')):eW l=some (n,l.drop (uv n).length)∧(uv n).length+t'.length=min l.length 10:=by
 obtain⟨h1,h2⟩:=f9 h
 have hlen:(uv n).length+t'.length=min l.length 10:=by
  have:=congrArg List.length h1
  rw[List.length_take,List.length_append] at this
  omega
 have e:l=uv n++(t'++l.drop 10):=by
  rw[←List.append_assoc,←h1,List.take_append_drop]
 refine⟨?_,hlen⟩
 have hd:l.drop (uv n).length=t'++l.drop 10:=by
  conv=>lhs;rw[e]
  rw[List.drop_left' rfl]
 rw[hd]
 conv=>lhs;rw[e]
 exact rt h2 _
theorem AC {l:List UInt8} (h:eW (l.take 10)=none):eW l=none:=by
 cases hr:eW l with
 |none=>rfl
 |some p=>
  obtain⟨n,t⟩:=p
  obtain⟨h1,h2⟩:=f9 hr
  have hl:=f8 (n:=n) h2
  have e:l.take 10=uv n++t.take (10-(uv n).length):=by
   rw[h1,List.take_append]
   congr 1
   exact List.take_of_length_le (by omega)
  rw[e,rt h2] at h
  cases h
theorem JB {P:Program} {w:World} {ts:Array TypeId} {ty:TypeId} {n:Nat}:(Builtin.min_ ts ty #[I (n:Int),I 10]).run P w=.ok (I ((min n 10:Nat):Int)) w:=by
 have e:((min n 10:Nat):Int)=if (10:Int)<(n:Int) then 10 else(n:Int):=by split<;>omega
 rw[e];rfl
theorem Ik {P:Program} {w:World} {t:TypeId} {x y:Operand} {a b c:Nat} (h:c+b=a) (ha:a≤1099511627776):(bin .sub t x y (I (a:Int)) (I (b:Int))).run P w=.ok (I (c:Int)) w:=by
 have e:(c:Int)=(a:Int)-(b:Int):=by omega
 rw[e]
 exact bD (by omega) (by omega)
end Go.Rl
namespace Go.Rl
open Go.RowKit Go.Proofs
end Go.Rl
namespace Go.Rl
open Go.RowKit Go.Proofs
end Go.Rl
namespace Go.Rl
open Go.RowKit Go.Proofs
theorem Ll {l t:List UInt8} {n:Nat} (h:eW l=some (n,t)):t.length≤l.length:=by
 obtain⟨h1,_⟩:=f9 h
 rw[h1,List.length_append];omega
theorem Il {l a t:List UInt8} (h:oA l=some (a,t)):a.length+t.length≤l.length:=by
 unfold oA at h
 cases hU:eW l with
 |none=>rw[hU] at h;cases h
 |some p=>
  obtain⟨n,u⟩:=p
  rw[hU] at h
  have h:(if n≤u.length then some (u.take n,u.drop n) else none)=some (a,t):=h
  have:=Ll hU
  split at h
  ·simp only[Option.some.injEq,Prod.mk.injEq] at h
   rw[←h.1,←h.2,List.length_take,List.length_drop]
   omega
  ·cases h
end Go.Rl
namespace Go.Rl
open Go.RowKit Go.Proofs
end Go.Rl
namespace Go.Rl
open Go.RowKit Go.Proofs
end Go.Rl
namespace Go.Rl
open Go.RowKit Go.Proofs
end Go.Rl
namespace Go.Rl
open Go.RowKit Go.Proofs
end Go.Rl
namespace Go.Rl
end Go.Rl
namespace Go.Rl
open Go.RowKit Go.Proofs
end Go.Rl
namespace Go.Rl
open Go.RowKit Go.Proofs
end Go.Rl
namespace Go.Rl
open Go.RowKit Go.Proofs
theorem xz:(Tryz.prog.info? 200).map (·.zero)=some (some (.agg (List.replicate 64 (bH 0)).toArray)):=by kernel_rfl
theorem xA:(Tryz.prog.info? 200).map (·.size)=some 64:=by kernel_rfl
theorem fF:aG Tryz.prog 122:=⟨_,Tryz.func122,by kernel_rfl,rfl⟩
theorem xB:aG Tryz.prog 123:=⟨_,Tryz.func123,by kernel_rfl,rfl⟩
theorem fG {w:World} {x:UInt32} (n:Nat) (h0:0<n) (h1:n<32):
 Calls Tryz.prog 122 #[bH x,I (n:Int)] w (bE fun r w'=>aK w w'∧r=bH (jm x n)):=by
 refine enter (vs:=[bH x,I (n:Int)]) Tryz.func122 E E E ?_
 refine af (aa (ae E E (ag (ab (af ?_)))))
 have e:(32:Int)-(n:Int)=((32-n:Nat):Int):=by omega
 refine bI 8 [12] (by kernel_rfl) (by kernel_rfl) ?_
 refine aA E E (aA E E ?_)
 refine bb E E E (fun w _=>da n h1) ?_
 refine aA E E (aA E E ?_)
 refine bb (r:=I ((32-n:Nat):Int)) E E E (fun w _=>by rw[←e];exact bD (by omega) (by omega)) ?_
 refine bb E E E (fun w _=>fu (32-n) (by omega)) ?_
 refine bb E E E (fun w _=>fK) ?_
 refine cq ?_
 intro w' hw
 rintro _ rfl
 refine ae E E (ag (ab (aw ?_)))
 refine az E E ?_
 exact⟨_,rfl,hw,rfl⟩
theorem xC (w:World):
 Calls Tryz.prog 123 #[] w (bE fun r w'=>aK w w'∧r=.agg (kc.map bH).toArray):=by
 refine enter (vs:=[]) Tryz.func123 E E E ?_
 refine af (aa (aT E (zW xz) (ag (ab (af (aa ?_))))))
 refine bA E E (run_build _ _ _ (kc.map bH).toArray (by kernel_rfl)) ?_
 have hb:=ct.new (w:=w) (T:=200) (.agg (List.replicate 64 (bH 0)).toArray) rfl
 refine au E E (j9 hb E xA (lq _)) ?_
 refine ag (ab (aw ?_))
 refine dx E E (hb.row _) M1 E xA ?_
 refine⟨_,rfl,?_,rfl⟩
 exact(aK.new w _).of_grown (bK _ _ _) fun k hk=>by
  obtain rfl:=Option.some.inj hk
  exact Nat.le_refl _
theorem fa:aG Tryz.prog 121:=⟨_,Tryz.func121,by kernel_rfl,rfl⟩
theorem vj:aG Tryz.prog 120:=⟨_,Tryz.func120,by kernel_rfl,rfl⟩
theorem fb {w:World} {x:UInt32} (n:Nat) (h0:0<n) (h1:n<32):
 Calls Tryz.prog 121 #[bH x,I (n:Int)] w (bE fun r w'=>aK w w'∧r=bH (jm x n)):=by
 refine enter (vs:=[bH x,I (n:Int)]) Tryz.func121 E E E ?_
 refine af (aa (ae E E (ag (ab (af ?_)))))
 have e:(32:Int)-(n:Int)=((32-n:Nat):Int):=by omega
 refine bI 8 [12] (by kernel_rfl) (by kernel_rfl) ?_
 refine aA E E (aA E E ?_)
 refine bb E E E (fun w _=>da n h1) ?_
 refine aA E E (aA E E ?_)
 refine bb (r:=I ((32-n:Nat):Int)) E E E (fun w _=>by rw[←e];exact bD (by omega) (by omega)) ?_
 refine bb E E E (fun w _=>fu (32-n) (by omega)) ?_
 refine bb E E E (fun w _=>fK) ?_
 refine cq ?_
 intro w' hw
 rintro _ rfl
 refine ae E E (ag (ab (aw ?_)))
 refine az E E ?_
 exact⟨_,rfl,hw,rfl⟩
theorem vm (w:World):
 Calls Tryz.prog 120 #[] w (bE fun r w'=>aK w w'∧r=.agg (kc.map bH).toArray):=by
 refine enter (vs:=[]) Tryz.func120 E E E ?_
 refine af (aa (aT E (zW xz) (ag (ab (af (aa ?_))))))
 refine bA E E (run_build _ _ _ (kc.map bH).toArray (by kernel_rfl)) ?_
 have hb:=ct.new (w:=w) (T:=200) (.agg (List.replicate 64 (bH 0)).toArray) rfl
 refine au E E (j9 hb E xA (lq _)) ?_
 refine ag (ab (aw ?_))
 refine dx E E (hb.row _) M1 E xA ?_
 refine⟨_,rfl,?_,rfl⟩
 exact(aK.new w _).of_grown (bK _ _ _) fun k hk=>by
  obtain rfl:=Option.some.inj hk
  exact Nat.le_refl _
end Go.Rl
namespace Go.Rl
open Go.RowKit Go.Proofs
theorem ET:(Tryz.prog.info? 150).map (·.zero)=some (some (.agg (List.replicate 8 (bH 0)).toArray)):=by kernel_rfl
theorem pp:(Tryz.prog.info? 150).map (·.size)=some 8:=by kernel_rfl
section
variable {w:World} {g o:Nat} {T:TypeId}
theorem ej (i:Nat) (hi:i<8):(Instr.indexAt 150 (.pointer (some ⟨g,0,none⟩)) (I (i:Int))).run Tryz.prog w=.ok (.pointer (some ⟨g,i,none⟩)) w:=by
 have:=iW (P:=Tryz.prog) (w:=w) (g:=g) (o:=0) MW eQ hi .i64
 rwa [Nat.zero_add] at this
theorem iI (i:Nat) (hi:i<64):(Instr.indexAt 200 (.pointer (some ⟨g,0,none⟩)) (I (i:Int))).run Tryz.prog w=.ok (.pointer (some ⟨g,i,none⟩)) w:=by
 have:=iW (P:=Tryz.prog) (w:=w) (g:=g) (o:=0) M1 eQ hi .i64
 rwa [Nat.zero_add] at this
theorem dw {m:List UInt32} (h:ct g T (m.map bH) w) (i:Nat) (hi:i<m.length):(Instr.loadAt 149 (.pointer (some ⟨g,i,none⟩))).run Tryz.prog w=.ok (bH (m.getD i 0)) w:=
 aj Tryz.underlying149 rfl (h.cell (by simp[hi]))
theorem B1 {m:List UInt32} {x:UInt32} (h:ct g T (m.map bH) w) (i:Nat) (hi:i<m.length):(Instr.storeAt 149 (.pointer (some ⟨g,i,none⟩)) (bH x)).run Tryz.prog w=.ok () (w.setCell ⟨g,i,none⟩ (bH x)):=
 dR eQ rfl h (by simpa using hi)
theorem ct.setU {m:List UInt32} (h:ct g T (m.map bH) w) (i:Nat) (x:UInt32):ct g T ((m.set i x).map bH) (w.setCell ⟨g,i,none⟩ (bH x)):=by
 have:=h.set i (bH x)
 rwa [←List.map_set] at this
end
def dE (l:List UInt32):List UInt32:=l++List.replicate (64-l.length) 0
theorem nT {l:List UInt32} (h:l.length≤64):(dE l).length=64:=by simp[dE];omega
theorem gM {l:List UInt32} {i:Nat} (h:i<l.length):(dE l).getD i 0=l.getD i 0:=by
 simp[dE,List.getD,List.getElem?_append_left h]
theorem nU {l:List UInt32} (x:UInt32) (h:l.length<64):(dE l).set l.length x=dE (l++[x]):=by
 unfold dE
 rw[List.set_append_right _ _ (Nat.le_refl _),Nat.sub_self]
 have:64-l.length=(64-(l++[x]).length)+1:=by simp;omega
 rw[this,List.replicate_succ,List.set_cons_zero,List.append_assoc]
 rfl
theorem xD (b:List UInt8) (k:Nat):jR b (k+1)=jR b k++[tm b k]:=by simp[jR,List.range_succ]
theorem kT (b:List UInt8) (k:Nat):(jR b k).length=k:=by simp[jR]
def jU (s v:List UInt32) (i:Nat):List UInt32:=List.zipWith (· + ·) (s.take i) (v.take i)++s.drop i
theorem Gi {s v:List UInt32} (hs:s.length=8) (hv:v.length=8) {i:Nat} (hi:i≤8):(jU s v i).length=8:=by
 simp[jU,hs,hv];omega
theorem zb {s v:List UInt32} (hs:s.length=8) (hv:v.length=8) {i:Nat} (hi:i<8):(jU s v i).getD i 0=s.getD i 0:=by
 have h:(List.zipWith (· + ·) (s.take i) (v.take i)).length=i:=by simp[hs,hv];omega
 simp only[jU,List.getD_eq_getElem?_getD]
 rw[List.getElem?_append_right (by omega),h]
 simp
theorem zc {s v:List UInt32} (hs:s.length=8) (hv:v.length=8) {i:Nat} (hi:i<8):(jU s v i).set i (s.getD i 0+v.getD i 0)=jU s v (i+1):=by
 have h:(List.zipWith (· + ·) (s.take i) (v.take i)).length=i:=by simp[hs,hv];omega
 have h1:s.getD i 0=s[i]:=by simp[List.getD,hs,hi]
 have h2:v.getD i 0=v[i]:=by simp[List.getD,hv,hi]
 unfold jU
 rw[List.set_append_right _ _ (by omega),h,Nat.sub_self,h1,h2]
 rw[List.drop_eq_getElem_cons (by omega:i<s.length),List.set_cons_zero,List.take_succ_eq_append_getElem (by omega:i<s.length),List.take_succ_eq_append_getElem (by omega:i<v.length)]
 rw[List.zipWith_append (by simp[hs,hv])]
 simp
theorem zd {s v:List UInt32} (hs:s.length=8) (hv:v.length=8):jU s v 8=List.zipWith (· + ·) s v:=by
 have h1:s.take 8=s:=List.take_of_length_le (by omega)
 have h2:v.take 8=v:=List.take_of_length_le (by omega)
 have h3:s.drop 8=[]:=List.drop_eq_nil_of_le (by omega)
 unfold jU
 rw[h1,h2,h3,List.append_nil]
end Go.Rl
namespace Go.Rl
open Go.RowKit Go.Proofs
theorem B7:aG Tryz.prog 86:=⟨_,Tryz.func86,by kernel_rfl,rfl⟩
theorem Dv {P:Program} {w:World} {t:TypeId} {v:Value} {l:List Value} (hv:v.cells=l.toArray):∃g w',(Instr.box t v).run P w=.ok (.pointer (some ⟨g,0,none⟩)) w'∧w.heap.size≤g∧aK w w'∧ct g t l w':=
 ⟨_,_,vS,Nat.le_refl _,aK.new w _,ct.new v hv⟩
theorem cJ.reads {b:List UInt8} {v:Value} {w:World} (h:cJ b v w):∃ad:Nat→Addr,∀i,i<b.length→
 (∀w':World,(Instr.indexAt 22 v (I (i:Int))).run Tryz.prog w'=.ok (.pointer (some (ad i))) w')∧∀w',aK w w'→(Instr.loadAt 5 (.pointer (some (ad i)))).run Tryz.prog w'=.ok (U8 (b.getD i 0)) w':=by
 have hall:∀i:Nat,∃ad:Addr,i<b.length→(∀w':World,(Instr.indexAt 22 v (I (i:Int))).run Tryz.prog w'=.ok (.pointer (some ad)) w')∧∀w',aK w w'→(Instr.loadAt 5 (.pointer (some ad))).run Tryz.prog w'=.ok (U8 (b.getD i 0)) w':=fun i=>by
  by_cases hi:i<b.length
  ·obtain⟨ad,had,hcell⟩:=gH h hi .i64
   refine⟨ad,fun _=>⟨had,fun w' hw'=>?_⟩⟩
   obtain⟨ad',had',hcell'⟩:=gH (h.ext hw') hi .i64
   have:=(had w').symm.trans (had' w')
   simp only[Result.ok.injEq,Value.pointer.injEq,Option.some.injEq,and_true] at this
   subst this
   have e:b.getD i 0=b[i]:=by simp[List.getD,hi]
   rw[e]
   exact Kk hcell'
  ·exact⟨⟨0,0,none⟩,fun h=>absurd h hi⟩
 exact⟨fun i=>Classical.choose (hall i),fun i hi=>Classical.choose_spec (hall i) hi⟩
theorem Ca {w:World} {s:List UInt32} {b:List UInt8} {v:Value} (hs:s.length=8) (hbl:b.length=64) (hv:cJ b v w):
 Calls Tryz.prog 86 #[.agg (s.map bH).toArray,v] w (bE fun r w'=>aK w w'∧r=.agg ((yh s b).map bH).toArray):=by
 refine enter (vs:=[.agg (s.map bH).toArray,v]) Tryz.func86 E E E ?_
 obtain⟨g2,w1,hr,n2,x1,b2⟩:=Dv (P:=Tryz.prog) (w:=w) (t:=150) (v:=.agg (s.map bH).toArray) (l:=s.map bH) rfl
 refine af (aa (cM E E hr ?_))
 obtain⟨g4,w2,hr,n4,x2,b4⟩:=aX (P:=Tryz.prog) (w:=w1) (l:=(List.replicate 8 0).map bH) ET rfl
 refine aT E hr (ag (ab (af (aa ?_))))
 refine am (vs:=[]) vj E E (vm w2) ?_
 rintro _ w3 ⟨x3,rfl⟩
 obtain⟨g5,w4,hr,n5,x4,b5⟩:=aX (P:=Tryz.prog) (w:=w3) (l:=List.replicate 64 (bH 0)) xz rfl
 refine aT E hr ?_
 refine au E E (j9 b5 E xA (lq _)) ?_
 have b5':=b5.row (kc.map bH)
 have q5:=bK w4 g5 (kc.map bH).toArray
 revert b5' q5
 generalize w4.setRow g5 (kc.map bH).toArray=w5
 intro b5' q5
 refine ag (ab (af (aa ?_)))
 obtain⟨g6,w6,hr,n6,x6,b6⟩:=aX (P:=Tryz.prog) (w:=w5) (l:=(dE []).map bH) xz rfl
 refine aT E hr (ag (ab ?_))
 have l24:g2<g4:=Nat.lt_of_lt_of_le b2.lt n4
 have l45:g4<g5:=Nat.lt_of_lt_of_le b4.lt (Nat.le_trans x3.size n5)
 have l56:g5<g6:=Nat.lt_of_lt_of_le b5'.lt n6
 have ne4:some g4≠some g5:=fun h=>by cases h;omega
 have ne2:some g2≠some g5:=fun h=>by cases h;omega
 have B2:ct g2 _ _ w6:=((((b2.ext x2).ext x3).ext x4).other q5 ne2).ext x6
 have B4:ct g4 _ _ w6:=(((b4.ext x3).ext x4).other q5 ne4).ext x6
 have B5:ct g5 _ _ w6:=b5'.ext x6
 have E6:aK w w6:=((((x1.trans x2).trans x3).trans x4).of_new q5 (by omega)).trans x6
 have hw6:w.heap.size≤g6:=by omega
 obtain⟨ad,had⟩:=hv.reads
 refine af (fg (fun _:Unit=>[(2,.pointer (some ⟨g2,0,none⟩)),(4,.pointer (some ⟨g4,0,none⟩)),(5,.pointer (some ⟨g5,0,none⟩)),(6,.pointer (some ⟨g6,0,none⟩))]) (fun _ w'=>w6.grownBy w' (some g6)∧ct g6 200 ((dE (bJ b 0)).map bH) w') ?_ ?_)
 ·refine af (aa (ae E E (ag (ab (aE ?_)))))
  refine cf (α:=Nat) (fun k=>[(1,v),(2,.pointer (some ⟨g2,0,none⟩)),(4,.pointer (some ⟨g4,0,none⟩)),(5,.pointer (some ⟨g5,0,none⟩)),(6,.pointer (some ⟨g6,0,none⟩)),(7,I (k:Int))])
   (fun k w'=>w6.grownBy w' (some g6)∧ct g6 200 ((dE (jR b k)).map bH) w'∧k≤16) (fun k=>16-k) 0 ⟨rfl,rfl,rfl,rfl,rfl,rfl,trivial⟩
   ⟨dM (aK.refl _),b6,by omega⟩ ?_
  rintro k w7 ⟨q7,b7,hk⟩
  refine af (af (aa (ac E E ?_)))
  refine al E E E (aV) ?_
  refine ag (ab ?_)
  refine bz E (fun h=>?_) (fun h=>?_)
  ·have hk16:k<16:=by omega
   have E7:aK w w7:=E6.of_new q7 hw6
   refine aC (ab (af (aE ?_)))
   have e0:(4:Int)*(k:Int)=((4*k:Nat):Int):=by omega
   have e1:((4*k:Nat):Int)+1=((4*k+1:Nat):Int):=by omega
   have e2:((4*k:Nat):Int)+2=((4*k+2:Nat):Int):=by omega
   have e3:((4*k:Nat):Int)+3=((4*k+3:Nat):Int):=by omega
   refine bI 35 [1,2,4,5,6,7,58,59] (by kernel_rfl) (by kernel_rfl) ?_
   refine aA E E (aA E E (aA E E ?_))
   refine bb (r:=I ((4*k:Nat):Int)) E E E (fun w _=>by rw[←e0];exact fI (by omega) (by omega)) ?_
   refine aF E E E (fun w _=>(had (4*k) (by omega)).1 w) ?_
   refine aP E E (fun w' hw=>(had (4*k) (by omega)).2 w' (E7.trans hw)) ?_
   refine dK E E (fun w _=>eP MC Mu) ?_
   refine bb E E E (fun w _=>fu 24 (by omega)) ?_
   refine aA E E (aA E E ?_)
   refine bb (r:=I ((4*k:Nat):Int)) E E E (fun w _=>by rw[←e0];exact fI (by omega) (by omega)) ?_
   refine bb (r:=I ((4*k+1:Nat):Int)) E E E (fun w _=>by rw[←e1];exact aN (by omega) (by omega)) ?_
   refine aF E E E (fun w _=>(had (4*k+1) (by omega)).1 w) ?_
   refine aP E E (fun w' hw=>(had (4*k+1) (by omega)).2 w' (E7.trans hw)) ?_
   refine dK E E (fun w _=>eP MC Mu) ?_
   refine bb E E E (fun w _=>fu 16 (by omega)) ?_
   refine bb E E E (fun w _=>fK) ?_
   refine aA E E (aA E E ?_)
   refine bb (r:=I ((4*k:Nat):Int)) E E E (fun w _=>by rw[←e0];exact fI (by omega) (by omega)) ?_
   refine bb (r:=I ((4*k+2:Nat):Int)) E E E (fun w _=>by rw[←e2];exact aN (by omega) (by omega)) ?_
   refine aF E E E (fun w _=>(had (4*k+2) (by omega)).1 w) ?_
   refine aP E E (fun w' hw=>(had (4*k+2) (by omega)).2 w' (E7.trans hw)) ?_
   refine dK E E (fun w _=>eP MC Mu) ?_
   refine bb E E E (fun w _=>fu 8 (by omega)) ?_
   refine bb E E E (fun w _=>fK) ?_
   refine aA E E (aA E E ?_)
   refine bb (r:=I ((4*k:Nat):Int)) E E E (fun w _=>by rw[←e0];exact fI (by omega) (by omega)) ?_
   refine bb (r:=I ((4*k+3:Nat):Int)) E E E (fun w _=>by rw[←e3];exact aN (by omega) (by omega)) ?_
   refine aF E E E (fun w _=>(had (4*k+3) (by omega)).1 w) ?_
   refine aP E E (fun w' hw=>(had (4*k+3) (by omega)).2 w' (E7.trans hw)) ?_
   refine dK E E (fun w _=>eP MC Mu) ?_
   refine bb E E E (fun w _=>fK) ?_
   refine aF E E E (fun w _=>iI k (by omega)) ?_
   refine cq ?_
   intro w8 hx8
   rintro _ rfl _ rfl _ rfl _ rfl _ rfl _ rfl _ rfl _ rfl
   have hlen:(dE (jR b k)).length=64:=nT (by rw[kT];omega)
   refine au E E (B1 (x:=tm b k) (b7.ext hx8) k (by omega)) ?_
   have b8:=(b7.ext hx8).setU k (tm b k)
   have q8:=(q7.trans (dM hx8)).trans (bh w8 g6 k (bH (tm b k)))
   have hset:(dE (jR b k)).set k (tm b k)=dE (jR b (k+1)):=by
    have:=nU (l:=jR b k) (tm b k) (by rw[kT];omega)
    rw[kT] at this
    rw[this,xD]
   rw[hset] at b8
   refine ag (aS (ab (aa (ac E E ?_))))
   refine al E E E (aN (by omega) (by omega)) ?_
   refine ae E E (ag ?_)
   exact bR (k+1) ⟨rfl,rfl,rfl,rfl,rfl,rfl,trivial⟩ ⟨q8,b8,by omega⟩ (by omega)
  ·have hk':k=16:=by omega
   subst hk'
   exact bc (aI (aI (be (cu () ⟨rfl,rfl,rfl,rfl,trivial⟩ ⟨q7,b7⟩))))
 rintro _ w7 ⟨q7,b7⟩
 refine ab ?_
 refine af (fg (fun _:Unit=>[(2,.pointer (some ⟨g2,0,none⟩)),(4,.pointer (some ⟨g4,0,none⟩)),(5,.pointer (some ⟨g5,0,none⟩)),(6,.pointer (some ⟨g6,0,none⟩))]) (fun _ w'=>w6.grownBy w' (some g6)∧ct g6 200 ((bJ b 48).map bH) w') ?_ ?_)
 ·refine af (aa (ae E E (ag (ab (aE ?_)))))
  refine cf (α:=Nat) (fun k=>[(2,.pointer (some ⟨g2,0,none⟩)),(4,.pointer (some ⟨g4,0,none⟩)),(5,.pointer (some ⟨g5,0,none⟩)),(6,.pointer (some ⟨g6,0,none⟩)),(8,I ((16+k:Nat):Int))])
   (fun k w'=>w6.grownBy w' (some g6)∧ct g6 200 ((dE (bJ b k)).map bH) w'∧k≤48) (fun k=>48-k) 0 ⟨rfl,rfl,rfl,rfl,rfl,trivial⟩
   ⟨q7,b7,by omega⟩ ?_
  clear q7 b7
  rintro k w7 ⟨q7,b7,hk⟩
  have hL:=mU b k
  refine af (af (aa (ac E E ?_)))
  refine al E E E (aV) ?_
  refine ag (ab ?_)
  refine bz E (fun h=>?_) (fun h=>?_)
  ·have hk48:k<48:=by omega
   refine aC (ab (af (aE (af ?_))))
   have e15:((16+k:Nat):Int)-15=(((bJ b k).length-15:Nat):Int):=by omega
   have e2:((16+k:Nat):Int)-2=(((bJ b k).length-2:Nat):Int):=by omega
   have e16:((16+k:Nat):Int)-16=(((bJ b k).length-16:Nat):Int):=by omega
   have e7:((16+k:Nat):Int)-7=(((bJ b k).length-7:Nat):Int):=by omega
   have f15:=gM (l:=bJ b k) (i:=(bJ b k).length-15) (by omega)
   have f2:=gM (l:=bJ b k) (i:=(bJ b k).length-2) (by omega)
   have f16:=gM (l:=bJ b k) (i:=(bJ b k).length-16) (by omega)
   have f7:=gM (l:=bJ b k) (i:=(bJ b k).length-7) (by omega)
   have hlen:(dE (bJ b k)).length=64:=nT (by omega)
   refine bI 9 [2,4,5,6,8,9,71] (by kernel_rfl) (by kernel_rfl) ?_
   refine aA E E ?_
   refine bb (r:=I (((bJ b k).length-15:Nat):Int)) E E E (fun w _=>by rw[←e15];exact bD (by omega) (by omega)) ?_
   refine aF E E E (fun w _=>iI _ (by omega)) ?_
   refine aP (r:=bH ((bJ b k).getD ((bJ b k).length-15) 0)) E E (fun w' hw=>by rw[←f15];exact dw (b7.ext hw) _ (by omega)) ?_
   refine aA E E ?_
   refine bb (r:=I (((bJ b k).length-2:Nat):Int)) E E E (fun w _=>by rw[←e2];exact bD (by omega) (by omega)) ?_
   refine aF E E E (fun w _=>iI _ (by omega)) ?_
   refine aP (r:=bH ((bJ b k).getD ((bJ b k).length-2) 0)) E E (fun w' hw=>by rw[←f2];exact dw (b7.ext hw) _ (by omega)) ?_
   refine gE E E (cq ?_)
   intro w8 hx8
   rintro _ rfl _ rfl _ rfl _ rfl _ rfl _ rfl _ rfl
   refine ae E E (ag (ab (af (aa (ac E E ?_)))))
   refine am fa E E (fb 7 (by omega) (by omega)) ?_
   rintro _ w9 ⟨hx9,rfl⟩
   refine ac E E ?_
   refine am fa E E (fb 18 (by omega) (by omega)) ?_
   rintro _ w10 ⟨hx10,rfl⟩
   refine al E E E (cZ) ?_
   refine ac E E ?_
   refine al E E E (da 3 (by omega)) ?_
   refine al E E E (cZ) ?_
   refine ae E E (ag (ab (af (aa (ac E E ?_)))))
   refine am fa E E (fb 17 (by omega) (by omega)) ?_
   rintro _ w11 ⟨hx11,rfl⟩
   refine ac E E ?_
   refine am fa E E (fb 19 (by omega) (by omega)) ?_
   rintro _ w12 ⟨hx12,rfl⟩
   refine al E E E (cZ) ?_
   refine ac E E ?_
   refine al E E E (da 10 (by omega)) ?_
   refine al E E E (cZ) ?_
   refine ae E E (ag (ab ?_))
   have x12:=(((hx8.trans hx9).trans hx10).trans hx11).trans hx12
   have b12:=b7.ext x12
   refine bI 15 [2,4,5,6,8,101,102] (by kernel_rfl) (by kernel_rfl) ?_
   refine aA E E (aA E E ?_)
   refine bb (r:=I (((bJ b k).length-16:Nat):Int)) E E E (fun w _=>by rw[←e16];exact bD (by omega) (by omega)) ?_
   refine aF E E E (fun w _=>iI _ (by omega)) ?_
   refine aP (r:=bH ((bJ b k).getD ((bJ b k).length-16) 0)) E E (fun w' hw=>by rw[←f16];exact dw (b12.ext hw) _ (by omega)) ?_
   refine aA E E ?_
   refine bb E E E (fun w _=>cz) ?_
   refine aA E E ?_
   refine bb (r:=I (((bJ b k).length-7:Nat):Int)) E E E (fun w _=>by rw[←e7];exact bD (by omega) (by omega)) ?_
   refine aF E E E (fun w _=>iI _ (by omega)) ?_
   refine aP (r:=bH ((bJ b k).getD ((bJ b k).length-7) 0)) E E (fun w' hw=>by rw[←f7];exact dw (b12.ext hw) _ (by omega)) ?_
   refine bb E E E (fun w _=>cz) ?_
   refine aA E E ?_
   refine bb E E E (fun w _=>cz) ?_
   refine aF E E E (fun w _=>iI (16+k) (by omega)) ?_
   refine cq ?_
   intro w13 hx13
   rintro _ rfl _ rfl _ rfl _ rfl _ rfl _ rfl _ rfl
   refine au E E (B1 (x:=pj (bJ b k)) (b12.ext hx13) (16+k) (by omega)) ?_
   have b13:=(b12.ext hx13).setU (16+k) (pj (bJ b k))
   have q13:=((q7.trans (dM x12)).trans (dM hx13)).trans (bh w13 g6 (16+k) (bH (pj (bJ b k))))
   have hset:(dE (bJ b k)).set (16+k) (pj (bJ b k))=dE (bJ b (k+1)):=by
    have:=nU (l:=bJ b k) (pj (bJ b k)) (by omega)
    rw[hL] at this
    exact this
   rw[hset] at b13
   refine ag (aS (ab (aa (ac E E ?_))))
   refine al E E E (aN (by omega) (by omega)) ?_
   refine ae E E (ag ?_)
   exact bR (k+1) ⟨rfl,rfl,rfl,rfl,rfl,trivial⟩ ⟨q13,b13,by omega⟩ (by omega)
  ·have hk':k=48:=by omega
   subst hk'
   have hf:dE (bJ b 48)=bJ b 48:=by
    unfold dE
    rw[hL]
    exact List.append_nil _
   rw[hf] at b7
   exact bc (aI (aI (be (cu () ⟨rfl,rfl,rfl,rfl,trivial⟩ ⟨q7,b7⟩))))
 clear q7 b7
 rintro _ w7 ⟨q7,b7⟩
 refine ab ?_
 have E7:aK w w7:=E6.of_new q7 hw6
 have ne26:some g2≠some g6:=fun h=>by cases h;omega
 have ne46:some g4≠some g6:=fun h=>by cases h;omega
 have ne56:some g5≠some g6:=fun h=>by cases h;omega
 have C2:=B2.other q7 ne26
 have C4:=B4.other q7 ne46
 have C5:=B5.other q7 ne56
 have hlen8:(Tryz.prog.info? 150).map (·.size)=some (s.map bH).length:=by rw[List.length_map,hs];exact pp
 refine af (aa ?_)
 refine ak E E (oX (m:=s.map bH) C2 (fun j v h=>by rwa [Nat.zero_add]) MW E hlen8) ?_
 obtain⟨g13,w8,hr,n13,x8,b13⟩:=aX (P:=Tryz.prog) (w:=w7) (l:=(List.replicate 8 0).map bH) ET rfl
 refine aT E hr ?_
 refine au E E (j9 b13 (by simp[hs]) hlen8 (lq _)) ?_
 have b13':=b13.row (s.map bH)
 have q13:=bK w8 g13 (s.map bH).toArray
 have l13:g6<g13:=Nat.lt_of_lt_of_le b7.lt n13
 have ne213:some g2≠some g13:=fun h=>by cases h;omega
 have ne413:some g4≠some g13:=fun h=>by cases h;omega
 have ne513:some g5≠some g13:=fun h=>by cases h;omega
 have ne613:some g6≠some g13:=fun h=>by cases h;omega
 have D2:=(C2.ext x8).other q13 ne213
 have D4:=(C4.ext x8).other q13 ne413
 have D5:=(C5.ext x8).other q13 ne513
 have D6:=(b7.ext x8).other q13 ne613
 have E8:aK w (w8.setRow g13 (s.map bH).toArray):=(E7.trans x8).of_new q13 (by omega)
 revert b13' D2 D4 D5 D6 E8
 generalize w8.setRow g13 (s.map bH).toArray=w9
 intro b13' D2 D4 D5 D6 E9
 refine ag (ab ?_)
 refine af (fg (fun _:Unit=>[(2,.pointer (some ⟨g2,0,none⟩)),(4,.pointer (some ⟨g4,0,none⟩)),(13,.pointer (some ⟨g13,0,none⟩))]) (fun _ w'=>w9.grownBy w' (some g13)∧ct g13 150 ((er b s 64).map bH) w') ?_ ?_)
 ·refine af (aa (ae E E (ag (ab (aE ?_)))))
  refine cf (α:=Nat) (fun i=>[(2,.pointer (some ⟨g2,0,none⟩)),(4,.pointer (some ⟨g4,0,none⟩)),(5,.pointer (some ⟨g5,0,none⟩)),(6,.pointer (some ⟨g6,0,none⟩)),(13,.pointer (some ⟨g13,0,none⟩)),(14,I (i:Int))])
   (fun i w'=>w9.grownBy w' (some g13)∧ct g13 150 ((er b s i).map bH) w'∧i≤64) (fun i=>64-i) 0 ⟨rfl,rfl,rfl,rfl,rfl,rfl,trivial⟩
   ⟨dM (aK.refl _),b13',by omega⟩ ?_
  rintro i w10 ⟨q10,b10,hi⟩
  have hv8:=iG b s hs i
  refine af (af (aa (ac E E ?_)))
  refine al E E E (aV) ?_
  refine ag (ab ?_)
  refine bz E (fun h=>?_) (fun h=>?_)
  ·have hi64:i<64:=by omega
   refine aC (ab (af (aE (af ?_))))
   have V:=b10
   have K5:=D5.other q10 ne513
   have K6:=D6.other q10 ne613
   have hkc:kc.length=64:=rfl
   have hsl:(bJ b 48).length=64:=mU b 48
   refine bI 5 [2,4,5,6,13,14,15,111] (by kernel_rfl) (by kernel_rfl) ?_
   refine aF E E E (fun w _=>ej 0 (by omega)) ?_
   refine aP E E (fun w' hw=>dw (V.ext hw) 0 (by omega)) ?_
   refine aF E E E (fun w _=>ej 4 (by omega)) ?_
   refine aP E E (fun w' hw=>dw (V.ext hw) 4 (by omega)) ?_
   refine gE E E (cq ?_)
   intro w11 hx11
   rintro _ rfl _ rfl _ rfl _ rfl _ rfl _ rfl _ rfl _ rfl
   refine ae E E (ag (ab (af ?_)))
   replace V:=V.ext hx11
   replace K5:=K5.ext hx11
   replace K6:=K6.ext hx11
   refine bI 30 [2,4,5,6,13,14,15,16,141] (by kernel_rfl) (by kernel_rfl) ?_
   refine aF E E E (fun w _=>ej 7 (by omega)) ?_
   refine aP E E (fun w' hw=>dw (V.ext hw) 7 (by omega)) ?_
   refine aA E E ?_
   refine cn (S:=Is (bH (jm _ 6))) fa (cb.is _) E (fun w' _=>by
    rintro _ rfl _ rfl
    exact bE.mono (fb 6 (by omega) (by omega)) fun v w'' h=>⟨h.1,h.2⟩) ?_
   refine aA E E ?_
   refine cn (S:=Is (bH (jm _ 11))) fa (cb.is _) E (fun w' _=>by
    rintro _ rfl _ rfl
    exact bE.mono (fb 11 (by omega) (by omega)) fun v w'' h=>⟨h.1,h.2⟩) ?_
   refine bb E E E (fun w _=>cZ) ?_
   refine aA E E ?_
   refine cn (S:=Is (bH (jm _ 25))) fa (cb.is _) E (fun w' _=>by
    rintro _ rfl _ rfl
    exact bE.mono (fb 25 (by omega) (by omega)) fun v w'' h=>⟨h.1,h.2⟩) ?_
   refine bb E E E (fun w _=>cZ) ?_
   refine bb E E E (fun w _=>cz) ?_
   refine aA E E ?_
   refine aF E E E (fun w _=>ej 5 (by omega)) ?_
   refine aP E E (fun w' hw=>dw (V.ext hw) 5 (by omega)) ?_
   refine bb E E E (fun w _=>fJ) ?_
   refine aA E E ?_
   refine vO E E (fun w _=>uK) ?_
   refine aF E E E (fun w _=>ej 6 (by omega)) ?_
   refine aP E E (fun w' hw=>dw (V.ext hw) 6 (by omega)) ?_
   refine bb E E E (fun w _=>fJ) ?_
   refine bb E E E (fun w _=>cZ) ?_
   refine bb E E E (fun w _=>cz) ?_
   refine aA E E ?_
   refine aF E E E (fun w _=>iI i (by omega)) ?_
   refine aP E E (fun w' hw=>dw (K5.ext hw) i (by omega)) ?_
   refine bb E E E (fun w _=>cz) ?_
   refine aA E E ?_
   refine aF E E E (fun w _=>iI i (by omega)) ?_
   refine aP E E (fun w' hw=>dw (K6.ext hw) i (by omega)) ?_
   refine bb E E E (fun w _=>cz) ?_
   refine cq ?_
   intro w12 hx12
   rintro _ rfl _ rfl _ rfl _ rfl _ rfl _ rfl _ rfl _ rfl _ rfl
   refine ae E E (ag (ab (af ?_)))
   replace V:=V.ext hx12
   refine bI 24 [2,4,5,6,13,14,15,16,17,165] (by kernel_rfl) (by kernel_rfl) ?_
   refine aA E E ?_
   refine cn (S:=Is (bH (jm _ 2))) fa (cb.is _) E (fun w' _=>by
    rintro _ rfl _ rfl
    exact bE.mono (fb 2 (by omega) (by omega)) fun v w'' h=>⟨h.1,h.2⟩) ?_
   refine aA E E ?_
   refine cn (S:=Is (bH (jm _ 13))) fa (cb.is _) E (fun w' _=>by
    rintro _ rfl _ rfl
    exact bE.mono (fb 13 (by omega) (by omega)) fun v w'' h=>⟨h.1,h.2⟩) ?_
   refine bb E E E (fun w _=>cZ) ?_
   refine aA E E ?_
   refine cn (S:=Is (bH (jm _ 22))) fa (cb.is _) E (fun w' _=>by
    rintro _ rfl _ rfl
    exact bE.mono (fb 22 (by omega) (by omega)) fun v w'' h=>⟨h.1,h.2⟩) ?_
   refine bb E E E (fun w _=>cZ) ?_
   refine aA E E ?_
   refine aF E E E (fun w _=>ej 1 (by omega)) ?_
   refine aP E E (fun w' hw=>dw (V.ext hw) 1 (by omega)) ?_
   refine bb E E E (fun w _=>fJ) ?_
   refine aA E E ?_
   refine aF E E E (fun w _=>ej 2 (by omega)) ?_
   refine aP E E (fun w' hw=>dw (V.ext hw) 2 (by omega)) ?_
   refine bb E E E (fun w _=>fJ) ?_
   refine bb E E E (fun w _=>cZ) ?_
   refine aF E E E (fun w _=>ej 1 (by omega)) ?_
   refine aP E E (fun w' hw=>dw (V.ext hw) 1 (by omega)) ?_
   refine aF E E E (fun w _=>ej 2 (by omega)) ?_
   refine aP E E (fun w' hw=>dw (V.ext hw) 2 (by omega)) ?_
   refine bb E E E (fun w _=>fJ) ?_
   refine bb E E E (fun w _=>cZ) ?_
   refine bb E E E (fun w _=>cz) ?_
   refine cq ?_
   intro w13 hx13
   rintro _ rfl _ rfl _ rfl _ rfl _ rfl _ rfl _ rfl _ rfl _ rfl _ rfl
   refine ae E E (ag (ab (aa (ac E E (ac E E ?_)))))
   replace V:=V.ext hx13
   refine al E E E (cz) ?_
   refine ac E E ?_
   refine aq E E E (ej 1 (by omega)) ?_
   refine ak E E (dw V 1 (by omega)) ?_
   refine aq E E E (ej 2 (by omega)) ?_
   refine ak E E (dw V 2 (by omega)) ?_
   refine aq E E E (ej 3 (by omega)) ?_
   refine ak E E (dw V 3 (by omega)) ?_
   refine ac E E ?_
   refine al E E E (cz) ?_
   refine ac E E ?_
   refine aq E E E (ej 5 (by omega)) ?_
   refine ak E E (dw V 5 (by omega)) ?_
   refine aq E E E (ej 6 (by omega)) ?_
   refine ak E E (dw V 6 (by omega)) ?_
   refine bA E E (run_build _ _ _ ((er b s (i+1)).map bH).toArray (by kernel_rfl)) ?_
   have hn8:=iG b s hs (i+1)
   refine au E E (j9 V (by simp[hv8,hn8]) (by rw[List.length_map,hn8];exact pp) (lq _)) ?_
   have V':=V.row ((er b s (i+1)).map bH)
   have q14:=(q10.trans (dM ((hx11.trans hx12).trans hx13))).trans (bK w13 g13 ((er b s (i+1)).map bH).toArray)
   refine ag (aS (ab (aa (ac E E ?_))))
   refine al E E E (aN (by omega) (by omega)) ?_
   refine ae E E (ag ?_)
   exact bR (i+1) ⟨rfl,rfl,rfl,rfl,rfl,rfl,trivial⟩ ⟨q14,V',by omega⟩ (by omega)
  ·have hi':i=64:=by omega
   subst hi'
   exact bc (aI (aI (be (cu () ⟨rfl,rfl,rfl,trivial⟩ ⟨q10,b10⟩))))
 rintro _ w10 ⟨q10,b10⟩
 refine ab ?_
 have hv8:=iG b s hs 64
 have F2:=D2.other q10 ne213
 have F4:=D4.other q10 ne413
 have E10:aK w w10:=E9.of_new q10 (by omega)
 have ha0:jU s (er b s 64) 0=s:=by simp[jU]
 refine af (fg (fun _:Unit=>[(2,.pointer (some ⟨g2,0,none⟩)),(4,.pointer (some ⟨g4,0,none⟩))]) (fun _ w'=>w10.grownBy w' (some g2)∧ct g2 150 ((jU s (er b s 64) 8).map bH) w') ?_ ?_)
 ·refine af (aa (ae E E (ag (ab (aE ?_)))))
  refine cf (α:=Nat) (fun i=>[(2,.pointer (some ⟨g2,0,none⟩)),(4,.pointer (some ⟨g4,0,none⟩)),(13,.pointer (some ⟨g13,0,none⟩)),(19,I (i:Int))])
   (fun i w'=>w10.grownBy w' (some g2)∧ct g2 150 ((jU s (er b s 64) i).map bH) w'∧i≤8) (fun i=>8-i) 0 ⟨rfl,rfl,rfl,rfl,trivial⟩
   ⟨dM (aK.refl _),by rw[ha0];exact F2,by omega⟩ ?_
  rintro i w11 ⟨q11,b11,hi⟩
  refine af (af (aa (ac E E ?_)))
  refine al E E E (aV) ?_
  refine ag (ab ?_)
  refine bz E (fun h=>?_) (fun h=>?_)
  ·have hi8:i<8:=by omega
   have hal:=Gi hs hv8 hi
   have hag:=zb hs hv8 hi8
   have K13:=b10.other q11 (fun h=>by cases h;omega)
   refine aC (ab (af (aE ?_)))
   refine bI 8 [2,4,13,19,194,195] (by kernel_rfl) (by kernel_rfl) ?_
   refine aA E E ?_
   refine aF E E E (fun w _=>ej i (by omega)) ?_
   refine aP (r:=bH (s.getD i 0)) E E (fun w' hw=>by rw[←hag];exact dw (b11.ext hw) i (by omega)) ?_
   refine aA E E ?_
   refine aF E E E (fun w _=>ej i (by omega)) ?_
   refine aP E E (fun w' hw=>dw (K13.ext hw) i (by omega)) ?_
   refine bb E E E (fun w _=>cz) ?_
   refine aF E E E (fun w _=>ej i (by omega)) ?_
   refine cq ?_
   intro w12 hx12
   rintro _ rfl _ rfl _ rfl _ rfl _ rfl _ rfl
   refine au E E (B1 (b11.ext hx12) i (by omega)) ?_
   have b12:=(b11.ext hx12).setU i (s.getD i 0+(er b s 64).getD i 0)
   rw[zc hs hv8 hi8] at b12
   have q12:=(q11.trans (dM hx12)).trans (bh w12 g2 i (bH (s.getD i 0+(er b s 64).getD i 0)))
   refine ag (aS (ab (aa (ac E E ?_))))
   refine al E E E (aN (by omega) (by omega)) ?_
   refine ae E E (ag ?_)
   exact bR (i+1) ⟨rfl,rfl,rfl,rfl,trivial⟩ ⟨q12,b12,by omega⟩ (by omega)
  ·have hi':i=8:=by omega
   subst hi'
   exact bc (aI (aI (be (cu () ⟨rfl,rfl,trivial⟩ ⟨q11,b11⟩))))
 rintro _ w11 ⟨q11,b11⟩
 rw[zd hs hv8] at b11
 have hc8:=BS s b hs
 have hlen8':(Tryz.prog.info? 150).map (·.size)=some ((yh s b).map bH).length:=by rw[List.length_map,hc8];exact pp
 have G4:=F4.other q11 (fun h=>by cases h;omega)
 refine ab (af (aa ?_))
 refine ak E E (oX (m:=(yh s b).map bH) b11 (fun j v h=>by rw[Nat.zero_add];exact h) MW E hlen8') ?_
 refine au E E (j9 G4 (by simp[hc8]) hlen8' (lq _)) ?_
 refine ag (ab (aw ?_))
 refine dx E E (G4.row _) MW E hlen8' ?_
 exact⟨_,rfl,(E10.of_new q11 (by omega)).of_new (bK _ _ _) (by omega),rfl⟩
end Go.Rl
namespace Go.Rl
open Go.RowKit Go.Proofs
theorem ip:(Tryz.prog.info? 24).map (·.zero)=some (some (.agg (List.replicate 32 (U8 0)).toArray)):=by kernel_rfl
theorem jj:(Tryz.prog.info? 24).map (·.size)=some 32:=by kernel_rfl
section
variable {w:World} {g o:Nat} {T:TypeId}
theorem xF (i:Nat) (hi:i<32):(Instr.indexAt 24 (.pointer (some ⟨g,0,none⟩)) (I (i:Int))).run Tryz.prog w=.ok (.pointer (some ⟨g,i,none⟩)) w:=by
 have:=iW (P:=Tryz.prog) (w:=w) (g:=g) (o:=0) MK fo hi .i64
 rwa [Nat.zero_add] at this
theorem ze {m:List UInt8} {x:UInt8} (h:ct g T (m.map U8) w) (i:Nat) (hi:i<m.length):(Instr.storeAt 5 (.pointer (some ⟨g,i,none⟩)) (U8 x)).run Tryz.prog w=.ok () (w.setCell ⟨g,i,none⟩ (U8 x)):=
 dR fo rfl h (by simpa using hi)
theorem ct.setB {m:List UInt8} (h:ct g T (m.map U8) w) (i:Nat) (x:UInt8):ct g T ((m.set i x).map U8) (w.setCell ⟨g,i,none⟩ (U8 x)):=by
 have:=h.set i (U8 x)
 rwa [←List.map_set] at this
end
theorem tv (m:List UInt8):∀v∈m.map U8,v.oneCell'=true:=by
 intro u hu
 obtain⟨b,_,rfl⟩:=List.mem_map.1 hu
 rfl
def fT (d:List UInt8) (n j:Nat):List UInt8:=d.take j++List.replicate (n-j) 0
theorem kU {d:List UInt8} {n j:Nat} (hd:d.length=n) (hj:j≤n):(fT d n j).length=n:=by simp[fT,hd];omega
theorem kV {d:List UInt8} {n j:Nat} (hd:d.length=n) (hj:j<n):(fT d n j).set j (d.getD j 0)=fT d n (j+1):=by
 have h:(d.take j).length=j:=by simp[hd];omega
 have h1:d.getD j 0=d[j]:=by simp[List.getD,hd,hj]
 unfold fT
 rw[List.set_append_right _ _ (by omega),h,Nat.sub_self,h1,List.take_succ_eq_append_getElem (by omega:j<d.length)]
 have:n-j=(n-(j+1))+1:=by omega
 rw[this,List.replicate_succ,List.set_cons_zero,List.append_assoc]
 rfl
theorem ut {d:List UInt8} {n:Nat} (hd:d.length=n):fT d n n=d:=by
 simp[fT,←hd]
theorem Cb (s:List UInt32):(s.flatMap yf).length=4*s.length:=by
 induction s with
 |nil=>rfl
 |cons x s ih=>
  have:(x::s).flatMap yf=yf x++s.flatMap yf:=by simp
  rw[this,List.length_append,ih]
  simp[yf];omega
theorem nf:∀(s:List UInt32) (i k:Nat),i<s.length→k<4→(s.flatMap yf).getD (4*i+k) 0=(s.getD i 0>>>UInt32.ofNat (24-8*k)).toUInt8
 |[],_,_,h,_=>by simp at h
 |x::s,0,k,_,hk=>by
  have e:(x::s).flatMap yf=yf x++s.flatMap yf:=by simp
  rw[e]
  match k,hk with
  |0,_=>rfl
  |1,_=>rfl
  |2,_=>rfl
  |3,_=>
   show x.toUInt8=(x>>>UInt32.ofNat 0).toUInt8
   rw[show UInt32.ofNat 0=0 from rfl,UInt32.shiftRight_zero]
 |x::s,i+1,k,h,hk=>by
  have e:(x::s).flatMap yf=yf x++s.flatMap yf:=by simp
  rw[e]
  have h4:(yf x).length=4:=rfl
  have:=nf s i k (by simpa using h) hk
  rw[List.getD_eq_getElem?_getD,List.getElem?_append_right (by omega),h4,show 4*(i+1)+k-4=4*i+k by omega,←List.getD_eq_getElem?_getD,this]
  rfl
theorem dJ (m:List UInt8):(j3 m).length=32:=by
 unfold j3
 rw[Cb,HU]
theorem AD (n:UInt64):(BT n).length=8:=by simp[BT]
theorem Im (n:UInt64) {j:Nat} (hj:j<8):(BT n).take (j+1)=(BT n).take j++[(n>>>UInt64.ofNat (56-8*j)).toUInt8]:=by
 rw[List.take_succ_eq_append_getElem (by rw[AD];exact hj)]
 simp[BT]
theorem In (M:List UInt8) (k:Nat):yU M (k+1)=yh (yU M k) ((M.take (64*k+64)).drop (64*k)):=by
 rw[yU,List.drop_take,Nat.add_sub_cancel_left]
end Go.Rl
namespace Go.Rl
open Go.RowKit Go.Proofs
theorem Gj:aG Tryz.prog 38:=⟨_,Tryz.func38,by kernel_rfl,rfl⟩
theorem Gk {w:World} {l:List UInt8} {v:Value} (hv:cJ l v w) (hl:l.length≤1099511627776):
 Calls Tryz.prog 38 #[v] w (bE fun r w'=>aK w w'∧r=.agg ((j3 l).map U8).toArray):=by
 refine enter (vs:=[v]) Tryz.func38 E E E ?_
 obtain⟨g2,w1,hr,n2,x1,b2⟩:=aX (P:=Tryz.prog) (w:=w) (l:=(List.replicate 32 0).map U8) ip rfl
 refine af (aa (aT E hr (ag (ab (af (aa ?_))))))
 obtain⟨r3,w3,hr,x3,o3,_⟩:=eh (w:=w1) w1.heap.size [] (by simp) (Nat.le_refl _)
 refine aJ (vs:=[]) E E hr ?_
 refine ac E E ?_
 have e3:=x1.trans x3
 obtain⟨r4,w4,hr,o4,g4⟩:=dn (ty:=22) o3 (hv.ext e3) (by simp only[List.length_nil];omega) x3.size
 have x4:=x3.of_grew g4 o3.ge
 refine ba E E hr ?_
 obtain⟨r5,w5,hr,x5,o5,_⟩:=eh (w:=w4) w4.heap.size [128] (by simp) (Nat.le_refl _)
 refine aJ (vs:=[(0,U8 128)]) E E hr ?_
 obtain⟨r6,w6,hr,o6,g6⟩:=dn (ty:=22) (o4.ext x5) o5.bts (by simp only[List.nil_append,List.length_cons,List.length_nil];omega) (x4.trans x5).size
 have x6:=(x4.trans x5).of_grew g6 o4.ge
 refine ba E E hr ?_
 rw[List.nil_append] at o6
 have B2:=b2.ext x6
 refine ae E E (ag (ab ?_))
 refine af (fg (fun m:Value=>[(0,v),(2,.pointer (some ⟨g2,0,none⟩)),(3,m)]) (fun m w'=>c6 w1.heap.size (l++[128]++List.replicate (iH l.length) 0) m w'∧aK w1 w') ?_ ?_)
 ·refine aE ?_
  refine cf (α:=Nat×Value) (fun x=>[(0,v),(2,.pointer (some ⟨g2,0,none⟩)),(3,x.2)])
   (fun x w'=>c6 w1.heap.size (l++[128]++List.replicate x.1 0) x.2 w'∧aK w1 w'∧x.1≤iH l.length) (fun x=>iH l.length-x.1) (0,r6) ⟨rfl,rfl,rfl,trivial⟩
   ⟨by simpa using o6,x6,by simp⟩ ?_
  rintro⟨k,m⟩ w7 ⟨o7,x7,hk⟩
  dsimp only at o7 x7 hk
  have hp:iH l.length<64:=by unfold iH;omega
  have hm:(l++[128]++List.replicate k 0).length=l.length+1+k:=by simp;omega
  refine af (af (aa (ac E E ?_)))
  refine aO E E (cT o7.bts) ?_
  refine al E E E (pY (by omega) (by omega)) ?_
  refine al E E E (cX) ?_
  refine ag (ab ?_)
  rw[hm]
  refine bz E (fun h=>?_) (fun h=>?_)
  ·have hlt:k<iH l.length:=by
    rcases Nat.lt_or_ge k (iH l.length) with h1|h1
    ·exact h1
    ·have:k=iH l.length:=by omega
     subst this
     exfalso
     unfold iH at h
     omega
   refine aC (ab (aE (aa (ac E E ?_))))
   obtain⟨r8,w8,hr,x8,o8,_⟩:=eh (w:=w7) w7.heap.size [0] (by simp) (Nat.le_refl _)
   refine aJ (vs:=[(0,U8 0)]) E E hr ?_
   obtain⟨r9,w9,hr,o9,g9⟩:=dn (ty:=22) (o7.ext x8) o8.bts (by rw[hm];simp only[List.length_cons,List.length_nil];omega) (x7.trans x8).size
   refine ba E E hr ?_
   refine ae E E (ag (aS ?_))
   refine bR (k+1,r9) ⟨rfl,rfl,rfl,trivial⟩ ⟨?_,(x7.trans x8).of_grew g9 o7.ge,hlt⟩ (by show iH l.length-(k+1)<iH l.length-k;omega)
   show c6 _ (l++[128]++List.replicate (k+1) 0) r9 w9
   rw[List.replicate_succ',←List.append_assoc]
   exact o9
  ·have hk':k=iH l.length:=by
    unfold iH at hk hp⊢
    omega
   subst hk'
   exact bc (aI (aI (be (cu m ⟨rfl,rfl,rfl,trivial⟩ ⟨o7,x7⟩))))
 rintro m7 w7 ⟨o7,x7⟩
 refine ab (af (aa (ac E E ?_)))
 refine aO E E (cT (hv.ext (x1.trans x7))) ?_
 refine a9 E E (fv Mx MA) ?_
 refine al (u:=bF 8) E E E (gT) ?_
 rw[UInt64.mul_comm]
 refine ae E E (ag (ab ?_))
 have hp:iH l.length<64:=by unfold iH;omega
 have hb8:=AD (UInt64.ofNat l.length*8)
 refine af (fg (fun m:Value=>[(2,.pointer (some ⟨g2,0,none⟩)),(3,m)]) (fun m w'=>c6 w1.heap.size (fl l) m w'∧aK w1 w') ?_ ?_)
 ·refine af (aa (ae E E (ag (ab (aE ?_)))))
  refine cf (α:=Nat×Value) (fun x=>[(2,.pointer (some ⟨g2,0,none⟩)),(3,x.2),(4,bF (UInt64.ofNat l.length*8)),(5,I (7-(x.1:Int)))])
   (fun x w'=>c6 w1.heap.size (l++[128]++List.replicate (iH l.length) 0++(BT (UInt64.ofNat l.length*8)).take x.1) x.2 w'∧aK w1 w'∧x.1≤8) (fun x=>8-x.1) (0,m7) ⟨rfl,rfl,rfl,rfl,trivial⟩
   ⟨by simpa using o7,x7,by simp⟩ ?_
  rintro⟨j,m⟩ w8 ⟨o8,x8,hj⟩
  dsimp only at o8 x8 hj
  refine af (af (aa (ac E E ?_)))
  refine al E E E (gx) ?_
  refine ag (ab ?_)
  refine bz E (fun h=>?_) (fun h=>?_)
  ·have hj8:j<8:=by omega
   refine aC (ab (af (aE (aa (ac E E (ac E E (ac E E ?_)))))))
   have e8:(8:Int)*(7-(j:Int))=((56-8*j:Nat):Int):=by omega
   refine al (r:=I ((56-8*j:Nat):Int)) E E E (by rw[←e8];exact fI (by omega) (by omega)) ?_
   refine al E E E (dF (56-8*j) (by omega)) ?_
   refine a9 E E (mw MA MC) ?_
   obtain⟨r9,w9,hr,x9,o9,_⟩:=eh (w:=w8) w8.heap.size [((UInt64.ofNat l.length*8)>>>UInt64.ofNat (56-8*j)).toUInt8] (by simp) (Nat.le_refl _)
   refine aJ (vs:=[(0,U8 ((UInt64.ofNat l.length*8)>>>UInt64.ofNat (56-8*j)).toUInt8)]) E E hr ?_
   obtain⟨r10,w10,hr,o10,g10⟩:=dn (ty:=22) (o8.ext x9) o9.bts (by simp only[List.length_append,List.length_cons,List.length_nil,List.length_replicate,List.length_take];omega) (x8.trans x9).size
   refine ba E E hr ?_
   refine ae E E (ag (aS (ab (aa (ac E E ?_)))))
   refine al E E E (bD (by omega) (by omega)) ?_
   refine ae E E (ag ?_)
   have e1:(7:Int)-(j:Int)-1=7-((j+1:Nat):Int):=by omega
   rw[e1]
   refine bR (j+1,r10) ⟨rfl,rfl,rfl,rfl,trivial⟩ ⟨?_,(x8.trans x9).of_grew g10 o8.ge,hj8⟩ (by show 8-(j+1)<8-j;omega)
   show c6 _ (l++[128]++List.replicate (iH l.length) 0++(BT (UInt64.ofNat l.length*8)).take (j+1)) r10 w10
   rw[Im _ hj8,←List.append_assoc]
   exact o10
  ·have hj':j=8:=by omega
   subst hj'
   rw[List.take_of_length_le (by omega)] at o8
   exact bc (aI (aI (be (cu m ⟨rfl,rfl,trivial⟩ ⟨o8,x8⟩))))
 clear o7 x7
 rintro m8 w8 ⟨o8,x8⟩
 have hM:=Dj l
 have hMl:(fl l).length≤1099511627776+80:=by
  simp only[fl,List.length_append,List.length_cons,List.length_nil,List.length_replicate];omega
 generalize hMM:fl l=M at o8 hM hMl
 refine ab (af (aa ?_))
 refine bA E E (run_build _ _ _ (iv.map bH).toArray (by kernel_rfl)) ?_
 obtain⟨g6',w9,hr,n9,x9,b9⟩:=aX (P:=Tryz.prog) (w:=w8) (l:=(List.replicate 8 0).map bH) ET rfl
 refine aT E hr ?_
 refine au E E (j9 b9 E pp (lq _)) ?_
 have b9':=b9.row (iv.map bH)
 have q9:=bK w9 g6' (iv.map bH).toArray
 have l26:g2<g6':=Nat.lt_of_lt_of_le b2.lt (Nat.le_trans x8.size n9)
 have hw6:w1.heap.size≤g6':=Nat.le_trans x8.size n9
 have E9:aK w1 (w9.setRow g6' (iv.map bH).toArray):=(x8.trans x9).of_new q9 hw6
 have ne2:some g2≠some g6':=fun h=>by cases h;omega
 have hm9:c6 w1.heap.size M m8 (w9.setRow g6' (iv.map bH).toArray):=by
  obtain⟨n,h⟩:=o8.ext x9
  exact⟨n,World.ownsRow.kept h q9 (.inr fun he=>by have:=o8.lt g6' he;omega)⟩
 have C9:=((b2.ext x8).ext x9).other q9 ne2
 revert b9' E9 hm9 C9
 generalize w9.setRow g6' (iv.map bH).toArray=w10
 intro b10 E10 o10 C10
 refine ag (ab ?_)
 have l28:∀k,m8.ownBlock=some k→k<w8.heap.size:=o8.lt
 refine af (fg (fun _:Unit=>[(2,.pointer (some ⟨g2,0,none⟩)),(6,.pointer (some ⟨g6',0,none⟩))]) (fun _ w'=>w10.grownBy w' (some g6')∧ct g6' 150 ((yU M (M.length/64)).map bH) w') ?_ ?_)
 ·refine af (aa (ae E E (ag (ab (aE ?_)))))
  refine cf (α:=Nat) (fun k=>[(2,.pointer (some ⟨g2,0,none⟩)),(3,m8),(6,.pointer (some ⟨g6',0,none⟩)),(7,I ((64*k:Nat):Int))])
   (fun k w'=>w10.grownBy w' (some g6')∧ct g6' 150 ((yU M k).map bH) w'∧k≤M.length/64) (fun k=>M.length/64-k) 0 ⟨rfl,rfl,rfl,rfl,trivial⟩
   ⟨dM (aK.refl _),b10,by omega⟩ ?_
  rintro k w11 ⟨q11,b11,hk⟩
  have o11:c6 w1.heap.size M m8 w11:=by
   obtain⟨n,h⟩:=o10
   exact⟨n,World.ownsRow.kept h q11 (.inr fun he=>by have:=l28 g6' he;omega)⟩
  have hs8:=qo M k
  refine af (af (aa (ac E E (ac E E ?_))))
  refine aO E E (cT o11.bts) ?_
  refine al E E E (aV) ?_
  refine ag (ab ?_)
  refine bz E (fun h=>?_) (fun h=>?_)
  ·have hlt:64*k+64≤M.length:=by omega
   have e64:((64*k:Nat):Int)+64=((64*k+64:Nat):Int):=by omega
   have hbl:((M.take (64*k+64)).drop (64*k)).length=64:=by simp;omega
   obtain⟨r12,hr12,bt12⟩:=uM o11.bts (lo:=64*k) (hi:=64*k+64) (by omega) hlt .i64 .i64
   have hszk:(Tryz.prog.info? 150).map (·.size)=some ((yU M k).map bH).length:=by rw[List.length_map,hs8];exact pp
   have hszk':(Tryz.prog.info? 150).map (·.size)=some ((yU M (k+1)).map bH).length:=by rw[List.length_map,qo];exact pp
   refine aC (ab (af (aE ?_)))
   refine bI 7 [2,3,6,7,52] (by kernel_rfl) (by kernel_rfl) ?_
   refine aP E E (fun w' hw=>oX (m:=(yU M k).map bH) (b11.ext hw) (fun j v h=>by rwa [Nat.zero_add]) MW E hszk) ?_
   refine aA E E (aA E E (aA E E ?_))
   refine bb (r:=I ((64*k+64:Nat):Int)) E E E (fun w _=>by rw[←e64];exact aN (by omega) (by omega)) ?_
   refine gw (a:=some (I ((64*k:Nat):Int))) (b:=some (I ((64*k+64:Nat):Int))) E E E E (fun w _=>hr12 w) ?_
   refine cn (S:=Is (.agg ((yU M (k+1)).map bH).toArray)) B7 (cb.is _) E (fun w' hw=>by
    rintro _ rfl _ rfl
    exact bE.mono (Ca hs8 hbl (bt12.ext hw)) fun v w'' h=>⟨h.1,by rw[In];exact h.2⟩) ?_
   refine cq ?_
   intro w12 hx12
   rintro _ rfl _ rfl _ rfl _ rfl _ rfl
   refine au E E (j9 (b11.ext hx12) (by simp[qo]) hszk' (lq _)) ?_
   have b12:=(b11.ext hx12).row ((yU M (k+1)).map bH)
   have q12:=(q11.trans (dM hx12)).trans (bK w12 g6' ((yU M (k+1)).map bH).toArray)
   refine ag (aS (ab (aa (ac E E ?_))))
   refine al E E E (aN (by omega) (by omega)) ?_
   refine ae E E (ag ?_)
   exact bR (k+1) ⟨rfl,rfl,rfl,rfl,trivial⟩ ⟨q12,b12,by omega⟩ (by omega)
  ·have hk':k=M.length/64:=by omega
   subst hk'
   exact bc (aI (aI (be (cu () ⟨rfl,rfl,trivial⟩ ⟨q11,b11⟩))))
 rintro _ w11 ⟨q11,b11⟩
 have C2:=C10.other q11 ne2
 have E11:aK w1 w11:=E10.of_new q11 hw6
 have hs8:=qo M (M.length/64)
 generalize hst:yU M (M.length/64)=st at b11 hs8
 have hD:(st.flatMap yf).length=32:=by rw[Cb,hs8]
 refine ab (af (aa ?_))
 obtain⟨g8,w12,hr,n12,x12,b12⟩:=aX (P:=Tryz.prog) (w:=w11) (l:=(fT (st.flatMap yf) 32 0).map U8) ip rfl
 refine aT E hr (ag (ab ?_))
 have l68:g6'<g8:=Nat.lt_of_lt_of_le b11.lt n12
 have ne68:some g6'≠some g8:=fun h=>by cases h;omega
 have ne28:some g2≠some g8:=fun h=>by cases h;omega
 have c11:=b11.ext x12
 have D2:=C2.ext x12
 refine af (fg (fun _:Unit=>[(2,.pointer (some ⟨g2,0,none⟩)),(8,.pointer (some ⟨g8,0,none⟩))]) (fun _ w'=>w12.grownBy w' (some g8)∧ct g8 24 ((st.flatMap yf).map U8) w') ?_ ?_)
 ·refine af (aa (ae E E (ag (ab (aE ?_)))))
  refine cf (α:=Nat) (fun i=>[(2,.pointer (some ⟨g2,0,none⟩)),(6,.pointer (some ⟨g6',0,none⟩)),(8,.pointer (some ⟨g8,0,none⟩)),(9,I (i:Int))])
   (fun i w'=>w12.grownBy w' (some g8)∧ct g8 24 ((fT (st.flatMap yf) 32 (4*i)).map U8) w'∧i≤8) (fun i=>8-i) 0 ⟨rfl,rfl,rfl,rfl,trivial⟩
   ⟨dM (aK.refl _),b12,by omega⟩ ?_
  rintro i w13 ⟨q13,b13,hi⟩
  refine af (af (aa (ac E E ?_)))
  refine al E E E (aV) ?_
  refine ag (ab ?_)
  refine bz E (fun h=>?_) (fun h=>?_)
  ·have hi8:i<8:=by omega
   refine aC (ab (af (aE (af (aa (ae E E (ag (ab (aE ?_)))))))))
   refine cf (α:=Nat) (fun k=>[(2,.pointer (some ⟨g2,0,none⟩)),(6,.pointer (some ⟨g6',0,none⟩)),(8,.pointer (some ⟨g8,0,none⟩)),(9,I (i:Int)),(10,I (k:Int))])
    (fun k w'=>w12.grownBy w' (some g8)∧ct g8 24 ((fT (st.flatMap yf) 32 (4*i+k)).map U8) w'∧k≤4) (fun k=>4-k) 0 ⟨rfl,rfl,rfl,rfl,rfl,trivial⟩
    ⟨q13,b13,by omega⟩ ?_
   rintro k w14 ⟨q14,b14,hk⟩
   refine af (af (aa (ac E E ?_)))
   refine al E E E (aV) ?_
   refine ag (ab ?_)
   refine bz E (fun h=>?_) (fun h=>?_)
   ·have hk4:k<4:=by omega
    have c14:=c11.other q14 ne68
    have hfl:=kU (j:=4*i+k) hD (by omega)
    have e4:(4:Int)*(i:Int)=((4*i:Nat):Int):=by omega
    have e5:((4*i:Nat):Int)+(k:Int)=((4*i+k:Nat):Int):=by omega
    have e6:(24:Int)-8*(k:Int)=((24-8*k:Nat):Int):=by omega
    refine aC (ab (af (aE (aa (ac E E ?_)))))
    refine al (r:=I ((4*i:Nat):Int)) E E E (by rw[←e4];exact fI (by omega) (by omega)) ?_
    refine ac E E ?_
    refine al (r:=I ((4*i+k:Nat):Int)) E E E (by rw[←e5];exact aN (by omega) (by omega)) ?_
    refine ac E E ?_
    refine aq E E E (ej i (by omega)) ?_
    refine ak E E (dw c14 i (by omega)) ?_
    refine ac E E ?_
    refine al E E E (fI (by omega) (by omega)) ?_
    refine al (r:=I ((24-8*k:Nat):Int)) E E E (by rw[←e6];exact bD (by omega) (by omega)) ?_
    refine al E E E (da (24-8*k) (by omega)) ?_
    refine a9 E E (eo Mu MC) ?_
    refine aq E E E (xF (4*i+k) (by omega)) ?_
    refine au E E (ze b14 (4*i+k) (by omega)) ?_
    have b15:=b14.setB (4*i+k) (st.getD i 0>>>UInt32.ofNat (24-8*k)).toUInt8
    have hset:(fT (st.flatMap yf) 32 (4*i+k)).set (4*i+k) (st.getD i 0>>>UInt32.ofNat (24-8*k)).toUInt8=fT (st.flatMap yf) 32 (4*i+(k+1)):=by
     rw[←nf st i k (by omega) hk4]
     exact kV hD (by omega)
    rw[hset] at b15
    refine ag (aS (ab (aa (ac E E ?_))))
    refine al E E E (aN (by omega) (by omega)) ?_
    refine ae E E (ag ?_)
    exact bR (k+1) ⟨rfl,rfl,rfl,rfl,rfl,trivial⟩ ⟨q14.trans (bh w14 g8 _ _),b15,by omega⟩ (by omega)
   ·have hk':k=4:=by omega
    subst hk'
    refine bc (aI (aI (be (aS (ab (aa (ac E E ?_)))))))
    refine al E E E (aN (by omega) (by omega)) ?_
    refine ae E E (ag ?_)
    exact bR (i+1) ⟨rfl,rfl,rfl,rfl,trivial⟩ ⟨q14,b14,by omega⟩ (by omega)
  ·have hi':i=8:=by omega
   subst hi'
   rw[show 4*8=32 from rfl,ut hD] at b13
   exact bc (aI (aI (be (cu () ⟨rfl,rfl,trivial⟩ ⟨q13,b13⟩))))
 rintro _ w13 ⟨q13,b13⟩
 have hdig:st.flatMap yf=j3 l:=by
  unfold j3 sh
  rw[hMM,hst]
 rw[hdig] at b13
 have hsz:(Tryz.prog.info? 24).map (·.size)=some ((j3 l).map U8).length:=by rw[List.length_map,dJ];exact jj
 have F2:=D2.other q13 ne28
 refine ab (af (aa ?_))
 refine ak E E (oX (m:=(j3 l).map U8) b13 (fun j v h=>by rwa [Nat.zero_add]) MK E hsz) ?_
 refine au E E (j9 F2 (by simp[dJ]) hsz (tv _)) ?_
 refine ag (ab (aw ?_))
 refine dx E E (F2.row _) MK E hsz ?_
 have E13:aK w w13:=(x1.trans (E11.trans x12)).of_new q13 (by have:=x1.size;omega)
 exact⟨_,rfl,E13.of_new (bK _ _ _) n2,rfl⟩
end Go.Rl
namespace Go.Rl
open Go.RowKit Go.Proofs
def dt (st:List UInt32) (blk:List UInt8) (u:Int) (tot:UInt64):List Value:=st.map bH++(blk.map U8++[I u,bF tot])
structure HC (g:Nat) (st:List UInt32) (blk:List UInt8) (u:Int) (tot:UInt64) (w:World):Prop where
 hb:ct g 154 (dt st blk u tot) w
 ls:st.length=8
 lb:blk.length=64
section
variable {w w':World} {g:Nat} {st:List UInt32} {blk:List UInt8} {u:Int} {tot:UInt64}
theorem iJ (hs:st.length=8) (hb:blk.length=64):(dt st blk u tot).length=74:=by simp[dt,hs,hb]
theorem HC.ext (h:HC g st blk u tot w) (hx:aK w w'):HC g st blk u tot w':=⟨h.hb.ext hx,h.ls,h.lb⟩
theorem HC.other {row:Option Nat} (h:HC g st blk u tot w) (hg:w.grownBy w' row) (hne:some g≠row):HC g st blk u tot w':=⟨h.hb.other hg hne,h.ls,h.lb⟩
theorem HC.lt (h:HC g st blk u tot w):g<w.heap.size:=h.hb.lt
theorem HC.cellS (h:HC g st blk u tot w) {i:Nat} (hi:i<8):w.cell? ⟨g,i,none⟩=some (bH (st.getD i 0)):=
 h.hb.cell (by simp[dt,List.getElem?_append,h.ls,hi])
theorem HC.cellU (h:HC g st blk u tot w):w.cell? ⟨g,72,none⟩=some (I u):=
 h.hb.cell (by unfold dt;rw[List.getElem?_append_right (by simp[h.ls]),List.length_map,h.ls,List.getElem?_append_right (by simp[h.lb]),List.length_map,h.lb];rfl)
theorem HC.cellT (h:HC g st blk u tot w):w.cell? ⟨g,73,none⟩=some (bF tot):=
 h.hb.cell (by unfold dt;rw[List.getElem?_append_right (by simp[h.ls]),List.length_map,h.ls,List.getElem?_append_right (by simp[h.lb]),List.length_map,h.lb];rfl)
theorem HC.setS (h:HC g st blk u tot w) (i:Nat) (hi:i<8) (x:UInt32):HC g (st.set i x) blk u tot (w.setCell ⟨g,i,none⟩ (bH x)):=by
 refine⟨?_,by simp[h.ls],h.lb⟩
 have:=h.hb.set i (bH x)
 unfold dt at this
 rw[List.set_append_left _ _ (by simpa [h.ls] using hi),←List.map_set] at this
 exact this
theorem HC.setU (h:HC g st blk u tot w) (x:Int):HC g st blk x tot (w.setCell ⟨g,72,none⟩ (I x)):=by
 refine⟨?_,h.ls,h.lb⟩
 have:=h.hb.set 72 (I x)
 unfold dt at this
 rw[List.set_append_right _ _ (by simp[h.ls]),List.length_map,h.ls,List.set_append_right _ _ (by simp[h.lb]),List.length_map,h.lb] at this
 exact this
theorem HC.setT (h:HC g st blk u tot w) (x:UInt64):HC g st blk u x (w.setCell ⟨g,73,none⟩ (bF x)):=by
 refine⟨?_,h.ls,h.lb⟩
 have:=h.hb.set 73 (bF x)
 unfold dt at this
 rw[List.set_append_right _ _ (by simp[h.ls]),List.length_map,h.ls,List.set_append_right _ _ (by simp[h.lb]),List.length_map,h.lb] at this
 exact this
theorem Cc:(Tryz.prog.info? 107).map (·.size)=some 1:=by kernel_rfl
theorem Ip:(Tryz.prog.info? 152).map (·.size)=some 64:=by kernel_rfl
theorem zf:(Tryz.prog.info? 154).map (·.size)=some 74:=by kernel_rfl
theorem Gl:(Tryz.prog.info? 154).map (·.zero)=some (some (.agg (dt (List.replicate 8 0) (List.replicate 64 0) 0 0).toArray)):=by kernel_rfl
theorem JC:(Instr.fieldAt 154 (.pointer (some ⟨g,0,none⟩)) 0).run Tryz.prog w=.ok (.pointer (some ⟨g,0,none⟩)) w:=by
 have h:=cA (P:=Tryz.prog) (w:=w) (n:=0) (a:=⟨g,0,none⟩) M0 rfl pp (Nat.succ_ne_zero 7)
 exact h
theorem Mc:(Instr.fieldAt 154 (.pointer (some ⟨g,0,none⟩)) 1).run Tryz.prog w=.ok (.pointer (some ⟨g,8,none⟩)) w:=by
 have h:=cA (P:=Tryz.prog) (w:=w) (n:=1) (a:=⟨g,0,none⟩) M0 rfl Ip (Nat.succ_ne_zero 63)
 exact h
theorem Gm:(Instr.fieldAt 154 (.pointer (some ⟨g,0,none⟩)) 2).run Tryz.prog w=.ok (.pointer (some ⟨g,72,none⟩)) w:=by
 have h:=cA (P:=Tryz.prog) (w:=w) (n:=2) (a:=⟨g,0,none⟩) M0 rfl gj (Nat.succ_ne_zero 0)
 exact h
theorem Lm:(Instr.fieldAt 154 (.pointer (some ⟨g,0,none⟩)) 3).run Tryz.prog w=.ok (.pointer (some ⟨g,73,none⟩)) w:=by
 have h:=cA (P:=Tryz.prog) (w:=w) (n:=3) (a:=⟨g,0,none⟩) M0 rfl Cc (Nat.succ_ne_zero 0)
 exact h
theorem HC.bts (h:HC g st blk u tot w) {lo:Nat} (hlo:lo<64):cJ (blk.drop lo) (.slice (some ⟨g,8+lo,none⟩) (64-lo) (64-lo)) w:=by
 refine⟨_,_,_,rfl,Nat.le_refl _,by unfold maxLen;omega,by simp[h.lb],fun _=>⟨_,rfl,fun j v hj=>?_⟩,fun h=>by cases h⟩
 rw[Addr.add_mid]
 refine h.hb.cell ?_
 unfold dt
 rw[List.getElem?_append_right (by simp[h.ls];omega),List.length_map,h.ls,show 8+lo+j-8=lo+j by omega]
 have hjl:lo+j<(blk.map U8).length:=by
  have:=(List.getElem?_eq_some_iff.1 hj).1
  simp only[List.length_map,List.length_drop] at this⊢
  omega
 rw[List.getElem?_append_left hjl]
 rw[List.map_drop,List.getElem?_drop] at hj
 exact hj
theorem KA {lo:Nat} (hlo:lo<64):(Instr.sliceAt 152 (.pointer (some ⟨g,8,none⟩)) (some (I (lo:Int))) none none).run Tryz.prog w=.ok (.slice (some ⟨g,8+lo,none⟩) (64-lo) (64-lo)) w:=
 He Tryz.underlying152 fo hlo .i64
theorem HC.ldS (h:HC g st blk u tot w):(Instr.loadAt 150 (.pointer (some ⟨g,0,none⟩))).run Tryz.prog w=.ok (.agg (st.map bH).toArray) w:=
 oX (m:=st.map bH) h.hb (fun j v hj=>by
  rw[Nat.zero_add]
  unfold dt
  rw[List.getElem?_append_left (List.getElem?_eq_some_iff.1 hj).1]
  exact hj) MW rfl (by rw[List.length_map,h.ls];exact pp)
end
theorem Gn (b:List UInt8) (i j:Nat):(b.drop i).getD j 0=b.getD (i+j) 0:=by simp[List.getD]
end Go.Rl
namespace Go.Rl
open Go.RowKit Go.Proofs
theorem AE:aG Tryz.prog 87:=⟨_,Tryz.func87,by kernel_rfl,rfl⟩
theorem Gp (b:List UInt8) (k:Nat):tm b k=((((b.drop (4*k)).getD 0 0).toUInt32<<<UInt32.ofNat 24|||((b.drop (4*k)).getD 1 0).toUInt32<<<UInt32.ofNat 16)|||((b.drop (4*k)).getD 2 0).toUInt32<<<UInt32.ofNat 8)|||((b.drop (4*k)).getD 3 0).toUInt32:=by
 simp only[Gn,tm,Nat.add_zero]
theorem xG {m:List UInt32} {i:Nat} (h:i<m.length):(m.map bH)[i]? =some (bH (m.getD i 0)):=by simp[h]
theorem AF {w:World} {g:Nat} {s:List UInt32} {b:List UInt8} {u:Int} {tot:UInt64} (hc:HC g s b u tot w):
 Calls Tryz.prog 87 #[.pointer (some ⟨g,0,none⟩)] w (bE fun _ w'=>w.grownBy w' (some g)∧HC g (yh s b) b 0 tot w'):=by
 have hs:=hc.ls
 have hbl:=hc.lb
 refine enter (vs:=[.pointer (some ⟨g,0,none⟩)]) Tryz.func87 E E E ?_
 obtain⟨g2,w1,hr,n2,x1,b2⟩:=aX (P:=Tryz.prog) (w:=w) (l:=(dE []).map bH) xz rfl
 refine af (aa (aT E hr (ag (ab ?_))))
 have lg:=hc.lt
 have hc1:=hc.ext x1
 have neg:some g≠some g2:=fun h=>by cases h;omega
 refine af (fg (fun _:Unit=>[(0,.pointer (some ⟨g,0,none⟩)),(2,.pointer (some ⟨g2,0,none⟩))]) (fun _ w'=>w1.grownBy w' (some g2)∧ct g2 200 ((dE (bJ b 0)).map bH) w') ?_ ?_)
 ·refine af (aa (ac E E (ag (ab (aE ?_)))))
  refine cf (α:=Nat) (fun k=>[(0,.pointer (some ⟨g,0,none⟩)),(2,.pointer (some ⟨g2,0,none⟩)),(17,I (k:Int))])
   (fun k w'=>w1.grownBy w' (some g2)∧ct g2 200 ((dE (jR b k)).map bH) w'∧k≤16) (fun k=>16-k) 0 ⟨rfl,rfl,rfl,trivial⟩
   ⟨dM (aK.refl _),b2,by omega⟩ ?_
  rintro k w7 ⟨q7,b7,hk⟩
  refine af (aa ?_)
  refine al E E E (aV) ?_
  refine ag (ab (af ?_))
  refine bz E (fun h=>?_) (fun h=>?_)
  ·have hk16:k<16:=by omega
   have e0:(4:Int)*(k:Int)=((4*k:Nat):Int):=by omega
   refine aC (ab (af (aE (af (aa (ac E E (ae E E (ag (ab (af (aa (ac E E ?_))))))))))))
   refine ax E E ?_
   refine ah E E Mc ?_
   refine ac E E ?_
   refine al (r:=I ((4*k:Nat):Int)) E E E (by rw[←e0];exact fI (by omega) (by omega)) ?_
   refine cx (a:=some (I ((4*k:Nat):Int))) E E E E E (KA (by omega)) ?_
   refine ae E E (ag (ab ?_))
   have hbt:=(hc1.other q7 neg).bts (lo:=4*k) (by omega)
   obtain⟨ad,had⟩:=hbt.reads
   rw[List.length_drop,hbl] at had
   refine bI 24 [0,2,17,48,49] (by kernel_rfl) (by kernel_rfl) ?_
   refine aA E E (aA E E ?_)
   refine aF E E E (fun w _=>(had 0 (by omega)).1 w) ?_
   refine aP E E (fun w' hw=>(had 0 (by omega)).2 w' hw) ?_
   refine dK E E (fun w _=>eP MC Mu) ?_
   refine bb E E E (fun w _=>fu 24 (by omega)) ?_
   refine aA E E ?_
   refine aF E E E (fun w _=>(had 1 (by omega)).1 w) ?_
   refine aP E E (fun w' hw=>(had 1 (by omega)).2 w' hw) ?_
   refine dK E E (fun w _=>eP MC Mu) ?_
   refine bb E E E (fun w _=>fu 16 (by omega)) ?_
   refine bb E E E (fun w _=>fK) ?_
   refine aA E E ?_
   refine aF E E E (fun w _=>(had 2 (by omega)).1 w) ?_
   refine aP E E (fun w' hw=>(had 2 (by omega)).2 w' hw) ?_
   refine dK E E (fun w _=>eP MC Mu) ?_
   refine bb E E E (fun w _=>fu 8 (by omega)) ?_
   refine bb E E E (fun w _=>fK) ?_
   refine aA E E ?_
   refine aF E E E (fun w _=>(had 3 (by omega)).1 w) ?_
   refine aP E E (fun w' hw=>(had 3 (by omega)).2 w' hw) ?_
   refine dK E E (fun w _=>eP MC Mu) ?_
   refine bb E E E (fun w _=>fK) ?_
   refine aF E E E (fun w _=>iI k (by omega)) ?_
   refine cq ?_
   intro w8 hx8
   rintro _ rfl _ rfl _ rfl _ rfl _ rfl
   have hlen:(dE (jR b k)).length=64:=nT (by rw[kT];omega)
   rw[←Gp]
   refine au E E (B1 (x:=tm b k) (b7.ext hx8) k (by omega)) ?_
   have b8:=(b7.ext hx8).setU k (tm b k)
   have q8:=(q7.trans (dM hx8)).trans (bh w8 g2 k (bH (tm b k)))
   have hset:(dE (jR b k)).set k (tm b k)=dE (jR b (k+1)):=by
    have:=nU (l:=jR b k) (tm b k) (by rw[kT];omega)
    rw[kT] at this
    rw[this,xD]
   rw[hset] at b8
   refine ag (aS (ab (aa ?_)))
   refine al E E E (aN (by omega) (by omega)) ?_
   refine ac E E (ag ?_)
   exact bR (k+1) ⟨rfl,rfl,rfl,trivial⟩ ⟨q8,b8,by omega⟩ (by omega)
  ·have hk':k=16:=by omega
   subst hk'
   exact bc (aI (aI (be (cu () ⟨rfl,rfl,trivial⟩ ⟨q7,b7⟩))))
 rintro _ w7 ⟨q7,b7⟩
 refine ab ?_
 refine af (fg (fun _:Unit=>[(0,.pointer (some ⟨g,0,none⟩)),(2,.pointer (some ⟨g2,0,none⟩))]) (fun _ w'=>w1.grownBy w' (some g2)∧ct g2 200 ((bJ b 48).map bH) w') ?_ ?_)
 ·refine af (aa (ae E E (ag (ab (aE ?_)))))
  refine cf (α:=Nat) (fun k=>[(0,.pointer (some ⟨g,0,none⟩)),(2,.pointer (some ⟨g2,0,none⟩)),(5,I ((16+k:Nat):Int))])
   (fun k w'=>w1.grownBy w' (some g2)∧ct g2 200 ((dE (bJ b k)).map bH) w'∧k≤48) (fun k=>48-k) 0 ⟨rfl,rfl,rfl,trivial⟩
   ⟨q7,b7,by omega⟩ ?_
  clear q7 b7
  rintro k w7 ⟨q7,b7,hk⟩
  have hL:=mU b k
  refine af (af (aa (ac E E ?_)))
  refine al E E E (aV) ?_
  refine ag (ab ?_)
  refine bz E (fun h=>?_) (fun h=>?_)
  ·have hk48:k<48:=by omega
   refine aC (ab (af (aE (af ?_))))
   have e15:((16+k:Nat):Int)-15=(((bJ b k).length-15:Nat):Int):=by omega
   have f15:=gM (l:=bJ b k) (i:=(bJ b k).length-15) (by omega)
   have e2:((16+k:Nat):Int)-2=(((bJ b k).length-2:Nat):Int):=by omega
   have f2:=gM (l:=bJ b k) (i:=(bJ b k).length-2) (by omega)
   have e16:((16+k:Nat):Int)-16=(((bJ b k).length-16:Nat):Int):=by omega
   have f16:=gM (l:=bJ b k) (i:=(bJ b k).length-16) (by omega)
   have e7:((16+k:Nat):Int)-7=(((bJ b k).length-7:Nat):Int):=by omega
   have f7:=gM (l:=bJ b k) (i:=(bJ b k).length-7) (by omega)
   have hlen:(dE (bJ b k)).length=64:=nT (by omega)
   refine bI 9 [0,2,5,6,62] (by kernel_rfl) (by kernel_rfl) ?_
   refine aA E E ?_
   refine bb (r:=I (((bJ b k).length-15:Nat):Int)) E E E (fun w _=>by rw[←e15];exact bD (by omega) (by omega)) ?_
   refine aF E E E (fun w _=>iI _ (by omega)) ?_
   refine aP (r:=bH ((bJ b k).getD ((bJ b k).length-15) 0)) E E (fun w' hw=>by rw[←f15];exact dw (b7.ext hw) _ (by omega)) ?_
   refine aA E E ?_
   refine bb (r:=I (((bJ b k).length-2:Nat):Int)) E E E (fun w _=>by rw[←e2];exact bD (by omega) (by omega)) ?_
   refine aF E E E (fun w _=>iI _ (by omega)) ?_
   refine aP (r:=bH ((bJ b k).getD ((bJ b k).length-2) 0)) E E (fun w' hw=>by rw[←f2];exact dw (b7.ext hw) _ (by omega)) ?_
   refine gE E E (cq ?_)
   intro w8 hx8
   rintro _ rfl _ rfl _ rfl _ rfl _ rfl
   refine ae E E (ag (ab ?_))
   have b12:=b7.ext hx8
   refine bI 29 [0,2,5,90,91] (by kernel_rfl) (by kernel_rfl) ?_
   refine aA E E (aA E E ?_)
   refine bb (r:=I (((bJ b k).length-16:Nat):Int)) E E E (fun w _=>by rw[←e16];exact bD (by omega) (by omega)) ?_
   refine aF E E E (fun w _=>iI _ (by omega)) ?_
   refine aP (r:=bH ((bJ b k).getD ((bJ b k).length-16) 0)) E E (fun w' hw=>by rw[←f16];exact dw (b12.ext hw) _ (by omega)) ?_
   refine aA E E ?_
   refine cn (S:=Is (bH (jm _ 7))) fF (cb.is _) E (fun w' _=>by
    rintro _ rfl _ rfl
    exact bE.mono (fG 7 (by omega) (by omega)) fun v w'' h=>⟨h.1,h.2⟩) ?_
   refine aA E E ?_
   refine cn (S:=Is (bH (jm _ 18))) fF (cb.is _) E (fun w' _=>by
    rintro _ rfl _ rfl
    exact bE.mono (fG 18 (by omega) (by omega)) fun v w'' h=>⟨h.1,h.2⟩) ?_
   refine bb E E E (fun w _=>cZ) ?_
   refine aA E E ?_
   refine bb E E E (fun w _=>da 3 (by omega)) ?_
   refine bb E E E (fun w _=>cZ) ?_
   refine bb E E E (fun w _=>cz) ?_
   refine aA E E ?_
   refine bb (r:=I (((bJ b k).length-7:Nat):Int)) E E E (fun w _=>by rw[←e7];exact bD (by omega) (by omega)) ?_
   refine aF E E E (fun w _=>iI _ (by omega)) ?_
   refine aP (r:=bH ((bJ b k).getD ((bJ b k).length-7) 0)) E E (fun w' hw=>by rw[←f7];exact dw (b12.ext hw) _ (by omega)) ?_
   refine bb E E E (fun w _=>cz) ?_
   refine aA E E ?_
   refine cn (S:=Is (bH (jm _ 17))) fF (cb.is _) E (fun w' _=>by
    rintro _ rfl _ rfl
    exact bE.mono (fG 17 (by omega) (by omega)) fun v w'' h=>⟨h.1,h.2⟩) ?_
   refine aA E E ?_
   refine cn (S:=Is (bH (jm _ 19))) fF (cb.is _) E (fun w' _=>by
    rintro _ rfl _ rfl
    exact bE.mono (fG 19 (by omega) (by omega)) fun v w'' h=>⟨h.1,h.2⟩) ?_
   refine bb E E E (fun w _=>cZ) ?_
   refine aA E E ?_
   refine bb E E E (fun w _=>da 10 (by omega)) ?_
   refine bb E E E (fun w _=>cZ) ?_
   refine bb E E E (fun w _=>cz) ?_
   refine aF E E E (fun w _=>iI (16+k) (by omega)) ?_
   refine cq ?_
   intro w13 hx13
   rintro _ rfl _ rfl _ rfl _ rfl _ rfl
   refine au E E (B1 (x:=pj (bJ b k)) (b12.ext hx13) (16+k) (by omega)) ?_
   have b13:=(b12.ext hx13).setU (16+k) (pj (bJ b k))
   have q13:=((q7.trans (dM hx8)).trans (dM hx13)).trans (bh w13 g2 (16+k) (bH (pj (bJ b k))))
   have hset:(dE (bJ b k)).set (16+k) (pj (bJ b k))=dE (bJ b (k+1)):=by
    have:=nU (l:=bJ b k) (pj (bJ b k)) (by omega)
    rw[hL] at this
    exact this
   rw[hset] at b13
   refine ag (aS (ab (aa (ac E E ?_))))
   refine al E E E (aN (by omega) (by omega)) ?_
   refine ae E E (ag ?_)
   exact bR (k+1) ⟨rfl,rfl,rfl,trivial⟩ ⟨q13,b13,by omega⟩ (by omega)
  ·have hk':k=48:=by omega
   subst hk'
   have hf:dE (bJ b 48)=bJ b 48:=by
    unfold dE
    rw[hL]
    exact List.append_nil _
   rw[hf] at b7
   exact bc (aI (aI (be (cu () ⟨rfl,rfl,trivial⟩ ⟨q7,b7⟩))))
 clear q7 b7
 rintro _ w7 ⟨q7,b7⟩
 have hc7:=hc1.other q7 neg
 refine ab (af (aa (ac E E ?_)))
 refine ax E E ?_
 refine ah E E JC ?_
 refine ak E E hc7.ldS ?_
 have hlen8:(Tryz.prog.info? 150).map (·.size)=some (s.map bH).length:=by rw[List.length_map,hs];exact pp
 obtain⟨g8,w8,hr,n8,x8,b8⟩:=aX (P:=Tryz.prog) (w:=w7) (l:=(List.replicate 8 0).map bH) ET rfl
 refine aT E hr ?_
 refine au E E (j9 b8 (by simp[hs]) hlen8 (lq _)) ?_
 have b8':=b8.row (s.map bH)
 have q8:=bK w8 g8 (s.map bH).toArray
 have l28:g2<g8:=Nat.lt_of_lt_of_le b7.lt n8
 have lg7:=hc7.lt
 have ne28:some g2≠some g8:=fun h=>by cases h;omega
 have neg8:some g≠some g8:=fun h=>by cases h;omega
 have D2:=(b7.ext x8).other q8 ne28
 have hc8:=(hc7.ext x8).other q8 neg8
 have Q8:w.grownBy (w8.setRow g8 (s.map bH).toArray) (some g):=by
  have h1:aK w w7:=x1.of_new q7 n2
  exact dM ((h1.trans x8).of_new q8 (by have:=h1.size;omega))
 revert b8' D2 hc8 Q8
 generalize w8.setRow g8 (s.map bH).toArray=w9
 intro b9 D2 hc9 Q9
 refine ag (ab ?_)
 refine af (fg (fun _:Unit=>[(0,.pointer (some ⟨g,0,none⟩)),(8,.pointer (some ⟨g8,0,none⟩))]) (fun _ w'=>w9.grownBy w' (some g8)∧ct g8 150 ((er b s 64).map bH) w') ?_ ?_)
 ·refine af (aa ?_)
  refine am (vs:=[]) xB E E (xC w9) ?_
  rintro _ w10 ⟨x10,rfl⟩
  refine ac E E (ag (ab (aE ?_)))
  refine cf (α:=Nat) (fun i=>[(0,.pointer (some ⟨g,0,none⟩)),(2,.pointer (some ⟨g2,0,none⟩)),(8,.pointer (some ⟨g8,0,none⟩)),(96,.agg (kc.map bH).toArray),(97,I (i:Int))])
   (fun i w'=>w9.grownBy w' (some g8)∧ct g8 150 ((er b s i).map bH) w'∧i≤64) (fun i=>64-i) 0 ⟨rfl,rfl,rfl,rfl,rfl,trivial⟩
   ⟨dM x10,b9.ext x10,by omega⟩ ?_
  clear x10 w10
  rintro i w10 ⟨q10,b10,hi⟩
  have hv8:=iG b s hs i
  refine af (aa ?_)
  refine al E E E (aV) ?_
  refine ag (ab (af ?_))
  refine bz E (fun h=>?_) (fun h=>?_)
  ·have hi64:i<64:=by omega
   have hkc:kc.length=64:=rfl
   have hsl:(bJ b 48).length=64:=mU b 48
   refine aC (ab (af (aE (af (aa (ac E E ?_))))))
   refine nq E E E (Hd (l:=kc.map bH) M1 eQ Mu hi64 .i64 (xG (by omega))) ?_
   refine ae E E (ae E E (ag (ab (af ?_))))
   have V:=b10
   have K6:=D2.other q10 ne28
   refine bI 5 [0,2,8,9,10,11,96,97,104] (by kernel_rfl) (by kernel_rfl) ?_
   refine aF E E E (fun w _=>ej 0 (by omega)) ?_
   refine aP E E (fun w' hw=>dw (V.ext hw) 0 (by omega)) ?_
   refine aF E E E (fun w _=>ej 4 (by omega)) ?_
   refine aP E E (fun w' hw=>dw (V.ext hw) 4 (by omega)) ?_
   refine gE E E (cq ?_)
   intro w11 hx11
   rintro _ rfl _ rfl _ rfl _ rfl _ rfl _ rfl _ rfl _ rfl _ rfl
   refine ae E E (ag (ab (af ?_)))
   replace V:=V.ext hx11
   replace K6:=K6.ext hx11
   refine bI 28 [0,2,8,11,96,97,132] (by kernel_rfl) (by kernel_rfl) ?_
   refine aF E E E (fun w _=>ej 7 (by omega)) ?_
   refine aP E E (fun w' hw=>dw (V.ext hw) 7 (by omega)) ?_
   refine aA E E ?_
   refine cn (S:=Is (bH (jm _ 6))) fF (cb.is _) E (fun w' _=>by
    rintro _ rfl _ rfl
    exact bE.mono (fG 6 (by omega) (by omega)) fun v w'' h=>⟨h.1,h.2⟩) ?_
   refine aA E E ?_
   refine cn (S:=Is (bH (jm _ 11))) fF (cb.is _) E (fun w' _=>by
    rintro _ rfl _ rfl
    exact bE.mono (fG 11 (by omega) (by omega)) fun v w'' h=>⟨h.1,h.2⟩) ?_
   refine bb E E E (fun w _=>cZ) ?_
   refine aA E E ?_
   refine cn (S:=Is (bH (jm _ 25))) fF (cb.is _) E (fun w' _=>by
    rintro _ rfl _ rfl
    exact bE.mono (fG 25 (by omega) (by omega)) fun v w'' h=>⟨h.1,h.2⟩) ?_
   refine bb E E E (fun w _=>cZ) ?_
   refine bb E E E (fun w _=>cz) ?_
   refine aA E E ?_
   refine aF E E E (fun w _=>ej 5 (by omega)) ?_
   refine aP E E (fun w' hw=>dw (V.ext hw) 5 (by omega)) ?_
   refine bb E E E (fun w _=>fJ) ?_
   refine aA E E ?_
   refine vO E E (fun w _=>uK) ?_
   refine aF E E E (fun w _=>ej 6 (by omega)) ?_
   refine aP E E (fun w' hw=>dw (V.ext hw) 6 (by omega)) ?_
   refine bb E E E (fun w _=>fJ) ?_
   refine bb E E E (fun w _=>cZ) ?_
   refine bb E E E (fun w _=>cz) ?_
   refine aA E E ?_
   refine bb E E E (fun w _=>cz) ?_
   refine aA E E ?_
   refine aF E E E (fun w _=>iI i (by omega)) ?_
   refine aP E E (fun w' hw=>dw (K6.ext hw) i (by omega)) ?_
   refine bb E E E (fun w _=>cz) ?_
   refine cq ?_
   intro w12 hx12
   rintro _ rfl _ rfl _ rfl _ rfl _ rfl _ rfl _ rfl
   refine ae E E (ag (ab (af ?_)))
   replace V:=V.ext hx12
   refine bI 24 [0,2,8,13,96,97,156] (by kernel_rfl) (by kernel_rfl) ?_
   refine aA E E ?_
   refine cn (S:=Is (bH (jm _ 2))) fF (cb.is _) E (fun w' _=>by
    rintro _ rfl _ rfl
    exact bE.mono (fG 2 (by omega) (by omega)) fun v w'' h=>⟨h.1,h.2⟩) ?_
   refine aA E E ?_
   refine cn (S:=Is (bH (jm _ 13))) fF (cb.is _) E (fun w' _=>by
    rintro _ rfl _ rfl
    exact bE.mono (fG 13 (by omega) (by omega)) fun v w'' h=>⟨h.1,h.2⟩) ?_
   refine bb E E E (fun w _=>cZ) ?_
   refine aA E E ?_
   refine cn (S:=Is (bH (jm _ 22))) fF (cb.is _) E (fun w' _=>by
    rintro _ rfl _ rfl
    exact bE.mono (fG 22 (by omega) (by omega)) fun v w'' h=>⟨h.1,h.2⟩) ?_
   refine bb E E E (fun w _=>cZ) ?_
   refine aA E E ?_
   refine aF E E E (fun w _=>ej 1 (by omega)) ?_
   refine aP E E (fun w' hw=>dw (V.ext hw) 1 (by omega)) ?_
   refine bb E E E (fun w _=>fJ) ?_
   refine aA E E ?_
   refine aF E E E (fun w _=>ej 2 (by omega)) ?_
   refine aP E E (fun w' hw=>dw (V.ext hw) 2 (by omega)) ?_
   refine bb E E E (fun w _=>fJ) ?_
   refine bb E E E (fun w _=>cZ) ?_
   refine aF E E E (fun w _=>ej 1 (by omega)) ?_
   refine aP E E (fun w' hw=>dw (V.ext hw) 1 (by omega)) ?_
   refine aF E E E (fun w _=>ej 2 (by omega)) ?_
   refine aP E E (fun w' hw=>dw (V.ext hw) 2 (by omega)) ?_
   refine bb E E E (fun w _=>fJ) ?_
   refine bb E E E (fun w _=>cZ) ?_
   refine bb E E E (fun w _=>cz) ?_
   refine cq ?_
   intro w13 hx13
   rintro _ rfl _ rfl _ rfl _ rfl _ rfl _ rfl _ rfl
   refine ae E E (ag (ab (aa (ac E E (ac E E ?_)))))
   replace V:=V.ext hx13
   refine al E E E (cz) ?_
   refine aq E E E (ej 0 (by omega)) ?_
   refine ak E E (dw V 0 (by omega)) ?_
   refine aq E E E (ej 1 (by omega)) ?_
   refine ak E E (dw V 1 (by omega)) ?_
   refine aq E E E (ej 2 (by omega)) ?_
   refine ak E E (dw V 2 (by omega)) ?_
   refine aq E E E (ej 3 (by omega)) ?_
   refine ak E E (dw V 3 (by omega)) ?_
   refine ac E E ?_
   refine al E E E (cz) ?_
   refine aq E E E (ej 4 (by omega)) ?_
   refine ak E E (dw V 4 (by omega)) ?_
   refine aq E E E (ej 5 (by omega)) ?_
   refine ak E E (dw V 5 (by omega)) ?_
   refine aq E E E (ej 6 (by omega)) ?_
   refine ak E E (dw V 6 (by omega)) ?_
   refine bA E E (run_build _ _ _ ((er b s (i+1)).map bH).toArray (by kernel_rfl)) ?_
   have hn8:=iG b s hs (i+1)
   refine au E E (j9 V (by simp[hv8,hn8]) (by rw[List.length_map,hn8];exact pp) (lq _)) ?_
   have V':=V.row ((er b s (i+1)).map bH)
   have q14:=(q10.trans (dM ((hx11.trans hx12).trans hx13))).trans (bK w13 g8 ((er b s (i+1)).map bH).toArray)
   refine ag (aS (ab (aa ?_)))
   refine al E E E (aN (by omega) (by omega)) ?_
   refine ac E E (ag ?_)
   exact bR (i+1) ⟨rfl,rfl,rfl,rfl,rfl,trivial⟩ ⟨q14,V',by omega⟩ (by omega)
  ·have hi':i=64:=by omega
   subst hi'
   exact bc (aI (aI (be (cu () ⟨rfl,rfl,trivial⟩ ⟨q10,b10⟩))))
 rintro _ w10 ⟨q10,b10⟩
 refine ab ?_
 have hv8:=iG b s hs 64
 have hc10:=hc9.other q10 neg8
 have ha0:jU s (er b s 64) 0=s:=by simp[jU]
 refine af (fg (fun _:Unit=>[(0,.pointer (some ⟨g,0,none⟩))]) (fun _ w'=>w10.grownBy w' (some g)∧HC g (jU s (er b s 64) 8) b u tot w') ?_ ?_)
 ·refine af (aa ?_)
  refine ak E E (oX (m:=(er b s 64).map bH) b10 (fun j v h=>by rwa [Nat.zero_add]) MW E (by rw[List.length_map,hv8];exact pp)) ?_
  refine ac E E (ag (ab (aE ?_)))
  refine cf (α:=Nat) (fun i=>[(0,.pointer (some ⟨g,0,none⟩)),(178,.agg ((er b s 64).map bH).toArray),(179,I (i:Int))])
   (fun i w'=>w10.grownBy w' (some g)∧HC g (jU s (er b s 64) i) b u tot w'∧i≤8) (fun i=>8-i) 0 ⟨rfl,rfl,rfl,trivial⟩
   ⟨dM (aK.refl _),by rw[ha0];exact hc10,by omega⟩ ?_
  rintro i w11 ⟨q11,c11,hi⟩
  refine af (aa ?_)
  refine al E E E (aV) ?_
  refine ag (ab (af ?_))
  refine bz E (fun h=>?_) (fun h=>?_)
  ·have hi8:i<8:=by omega
   have hag:=zb hs hv8 hi8
   refine aC (ab (af (aE (af (aa (ac E E ?_))))))
   refine nq E E E (Hd (l:=(er b s 64).map bH) MW eQ Mu hi8 .i64 (xG (by omega))) ?_
   refine ae E E (ae E E (ag (ab ?_)))
   refine bI 11 [0,178,179,190,193] (by kernel_rfl) (by kernel_rfl) ?_
   refine aA E E (aA E E ?_)
   refine dj E E ?_
   refine aW E E (fun w _=>JC) ?_
   refine aF E E E (fun w _=>ej i (by omega)) ?_
   refine aP (r:=bH (s.getD i 0)) E E (fun w' hw=>by rw[←hag];exact aj Mu E ((c11.ext hw).cellS hi8)) ?_
   refine aA E E ?_
   refine bb E E E (fun w _=>cz) ?_
   refine dj E E ?_
   refine aW E E (fun w _=>JC) ?_
   refine aF E E E (fun w _=>ej i (by omega)) ?_
   refine cq ?_
   intro w12 hx12
   rintro _ rfl _ rfl _ rfl _ rfl _ rfl
   have hcl:=iJ (u:=u) (tot:=tot) c11.ls c11.lb
   refine au E E (dR eQ E (c11.ext hx12).hb (by rw[List.size_toArray,hcl];omega)) ?_
   have c12:=(c11.ext hx12).setS i hi8 (s.getD i 0+(er b s 64).getD i 0)
   rw[zc hs hv8 hi8] at c12
   have q12:=(q11.trans (dM hx12)).trans (bh w12 g i (bH (s.getD i 0+(er b s 64).getD i 0)))
   refine ag (aS (ab (aa ?_)))
   refine al E E E (aN (by omega) (by omega)) ?_
   refine ac E E (ag ?_)
   exact bR (i+1) ⟨rfl,rfl,rfl,trivial⟩ ⟨q12,c12,by omega⟩ (by omega)
  ·have hi':i=8:=by omega
   subst hi'
   exact bc (aI (aI (be (cu () ⟨rfl,trivial⟩ ⟨q11,c11⟩))))
 rintro _ w11 ⟨q11,c11⟩
 rw[zd hs hv8] at c11
 have hcl:=iJ (u:=u) (tot:=tot) c11.ls c11.lb
 refine ab (aa (ac E E ?_))
 refine ax E E ?_
 refine ah E E Gm ?_
 refine au E E (dR (i:=72) gj E c11.hb (by rw[List.size_toArray,hcl];omega)) ?_
 have c12:=c11.setU 0
 refine ag ?_
 refine ko E ?_
 refine⟨_,rfl,?_,c12⟩
 have Q10:w.grownBy w10 (some g):=by
  have h:w.grownBy w9 (some g):=Q9
  refine⟨q10.os.trans h.os,q10.tape.trans h.tape,q10.output.trans h.output,Nat.le_trans h.size q10.size,fun k hk hne=>?_⟩
  exact(q10.block k (Nat.lt_of_lt_of_le hk h.size) (fun he=>by cases he;omega)).trans (h.block k hk hne)
 exact(Q10.trans q11).trans (bh w11 g 72 (I 0))
end Go.Rl
namespace Go.Rl
open Go.RowKit Go.Proofs
def HA (g:Nat) (m:List UInt8) (tot:UInt64) (w:World):Prop:=∃blk,HC g (sh m) blk ((m.length%64:Nat):Int) tot w∧blk.take (m.length%64)=m.drop (64*(m.length/64))
theorem HA.ext {g:Nat} {m:List UInt8} {tot:UInt64} {w w':World} (h:HA g m tot w) (hx:aK w w'):HA g m tot w':=by
 obtain⟨blk,h1,h2⟩:=h
 exact⟨blk,h1.ext hx,h2⟩
theorem HA.other {g:Nat} {m:List UInt8} {tot:UInt64} {w w':World} {row:Option Nat} (h:HA g m tot w) (hg:w.grownBy w' row) (hne:some g≠row):HA g m tot w':=by
 obtain⟨blk,h1,h2⟩:=h
 exact⟨blk,h1.other hg hne,h2⟩
theorem HA.lt {g:Nat} {m:List UInt8} {tot:UInt64} {w:World} (h:HA g m tot w):g<w.heap.size:=by
 obtain⟨blk,h1,h2⟩:=h
 exact h1.lt
theorem JD (m y:List UInt8) (h:m.length%64+y.length<64):sh (m++y)=sh m:=by
 have hm:m=m.take (64*(m.length/64))++m.drop (64*(m.length/64)):=(List.take_append_drop _ _).symm
 have hl:(m.take (64*(m.length/64))).length=64*(m.length/64):=by simp;omega
 have hd:(m.drop (64*(m.length/64))).length=m.length%64:=by simp;omega
 rw[hm,List.append_assoc,Af _ _ (by omega) (by rw[List.length_append,hd];exact h),Af _ _ (by omega) (by omega)]
theorem JE (m y:List UInt8) (h:m.length%64+y.length=64):sh (m++y)=yh (sh m) (m.drop (64*(m.length/64))++y):=by
 have hm:m=m.take (64*(m.length/64))++m.drop (64*(m.length/64)):=(List.take_append_drop _ _).symm
 have hl:(m.take (64*(m.length/64))).length=64*(m.length/64):=by simp;omega
 have hd:(m.drop (64*(m.length/64))).length=m.length%64:=by simp;omega
 have e1:sh (m++y)=sh (m.take (64*(m.length/64))++(m.drop (64*(m.length/64))++y)):=by
  rw[←List.append_assoc,List.take_append_drop]
 have e2:sh m=sh (m.take (64*(m.length/64))):=by
  conv=>lhs;rw[hm]
  exact Af _ _ (by omega) (by omega)
 rw[e1,e2,HV _ _ (by omega) (by rw[List.length_append,hd];exact h)]
def AG (g:Nat) (v:Value):Prop:=∀a n c,v=.slice (some a) n c→a.block≠g
theorem cJ.away {l:List UInt8} {v:Value} {g:Nat} {w w':World} (h:cJ l v w) (ha:0<l.length→AG g v) (hg:w.grownBy w' (some g)):cJ l v w':=by
 obtain⟨A,n,c,rfl,h1,h2,h3,h4,h5⟩:=h
 refine⟨A,n,c,rfl,h1,h2,h3,fun hn=>?_,h5⟩
 obtain⟨ad,rfl,hc⟩:=h4 hn
 have hlen:0<l.length:=by
  have:l.length=n:=by simpa using h3
  omega
 refine⟨ad,rfl,fun j u hu=>?_⟩
 have hb:(ad.add j).block=ad.block:=by unfold Addr.add;split<;>rfl
 exact hg.cell (hc j u hu) (by rw[hb];intro he;exact ha hlen ad n c rfl (Option.some.inj he))
theorem Dw {l:List UInt8} {v:Value} {g:Nat} {w:World} (h:cJ l v w) {lo:Nat} (hlo:lo≤l.length) (ha:AG g v):
 ∃r,(∀w':World,(Instr.sliceAt 22 v (some (I (lo:Int))) none none).run Tryz.prog w'=.ok r w')∧cJ (l.drop lo) r w∧AG g r:=by
 obtain⟨r,hr,hb⟩:=gG h hlo .i64
 refine⟨r,hr,hb,?_⟩
 obtain⟨A,n,c,rfl,h1,h2,h3,h4,h5⟩:=h
 have hln:lo≤n:=by
  have:l.length=n:=by simpa using h3
  omega
 have hbd:(Instr.sliceBounds true n c (some (.int .i64 (lo:Int))) none none).run Tryz.prog w=.ok (lo,n,c) w:=by
  have a2:=run_sliceBound (P:=Tryz.prog) (w:=w) .i64 (lo:Int) n .sliceB (by omega) (by omega)
  simp only[Int.toNat_natCast] at a2
  simp[Instr.sliceBounds,a2]
 have hrun:(Instr.sliceAt 22 (.slice A n c) (some (.int .i64 (lo:Int))) none none).run Tryz.prog w=.ok (.slice (if c=lo then A else A.map (·.add (lo*1))) (n-lo) (c-lo)) w:=by
  simp[Instr.sliceAt,Instr.slice,run_underlying Tryz.underlying22,hbd,fh fo]
 have e:=(hr w).symm.trans hrun
 simp only[Result.ok.injEq,and_true] at e
 subst e
 intro a n' c' he
 simp only[Value.slice.injEq] at he
 obtain⟨he,_,_⟩:=he
 split at he
 ·exact ha a n c (by rw[he])
 ·obtain⟨a0,h0,rfl⟩:=Option.map_eq_some_iff.1 he
  have:(a0.add (lo*1)).block=a0.block:=by unfold Addr.add;split<;>rfl
  rw[this]
  exact ha a0 n c (by rw[h0])
theorem JF {g:Nat} {st:List UInt32} {blk x:List UInt8} {u:Int} {tot:UInt64} {w:World} {v:Value} {ty:TypeId} {o:Nat} (h:HC g st blk u tot w) (ho:o<64) (hx:cJ x v w) (hne:0<x.length):
 ∃w',(Builtin.copy_ #[22,22] ty #[.slice (some ⟨g,8+o,none⟩) (64-o) (64-o),v]).run Tryz.prog w=.ok (I ((min x.length (64-o):Nat):Int)) w'∧w.grownBy w' (some g)∧
  HC g st (blk.take o++x.take (64-o)++blk.drop (o+min x.length (64-o))) u tot w':=by
 obtain⟨A,n,c,rfl,h1,h2,h3,h4,h5⟩:=hx
 have hxn:x.length=n:=by simpa using h3
 obtain⟨ad,rfl,hc⟩:=h4 (by omega)
 have hcs:((x.take (64-o)).map U8).length=min n (64-o):=by simp[hxn,Nat.min_comm]
 have hr:=run_copy_row (P:=Tryz.prog) w 22 22 ty 5 g (8+o) (64-o) (64-o) ad n c _ 154 ((x.take (64-o)).map U8) MB fo h.hb hcs
  (fun j u hj=>hc j u (by
    rw[List.map_take,List.getElem?_take] at hj
    split at hj
    ·exact hj
    ·cases hj)) (by rw[hcs,List.size_toArray,iJ h.ls h.lb];omega) (tv _)
 rw[hcs] at hr
 refine⟨_,by rw[hxn];exact hr,bK _ _ _,?_,h.ls,?_⟩
 ·have:=h.hb.row (dt st (blk.take o++x.take (64-o)++blk.drop (o+min n (64-o))) u tot)
  rw[hxn]
  have e:((dt st blk u tot).toArray.toList.take (8+o)++(x.take (64-o)).map U8++(dt st blk u tot).toArray.toList.drop (8+o+min n (64-o)))=dt st (blk.take o++x.take (64-o)++blk.drop (o+min n (64-o))) u tot:=by
   have l8:(st.map bH).length=8:=by simp[h.ls]
   have l64:(blk.map U8).length=64:=by simp[h.lb]
   unfold dt
   rw[List.take_append,l8,List.drop_append,l8,show 8+o-8=o by omega,show 8+o+min n (64-o)-8=o+min n (64-o) by omega]
   rw[List.take_of_length_le (by omega),List.drop_eq_nil_of_le (by omega),List.nil_append]
   rw[List.take_append,l64,show o-64=0 by omega,List.take_zero,List.append_nil,List.drop_append,l64,show o+min n (64-o)-64=0 by omega,List.drop_zero]
   simp only[List.map_append,List.map_take,List.map_drop,List.append_assoc]
  rw[e]
  exact this
 ·simp only[List.length_append,List.length_take,List.length_drop,h.lb];omega
end Go.Rl
namespace Go.Rl
open Go.RowKit Go.Proofs
theorem gN:aG Tryz.prog 40:=⟨_,Tryz.func40,by kernel_rfl,rfl⟩
theorem zg:aG Tryz.prog 39:=⟨_,Tryz.func39,by kernel_rfl,rfl⟩
theorem gO {w:World} {g:Nat} {m x:List UInt8} {tot:UInt64} {v:Value} (hh:HA g m tot w) (hx:cJ x v w) (ha:0<x.length→AG g v):
 Calls Tryz.prog 40 #[.pointer (some ⟨g,0,none⟩),v] w (bE fun _ w'=>w.grownBy w' (some g)∧HA g (m++x) (tot+UInt64.ofNat x.length) w'):=by
 refine enter (vs:=[.pointer (some ⟨g,0,none⟩),v]) Tryz.func40 E E E ?_
 refine af (af (aa (ac E E ?_)))
 refine al E E E (gF MX) ?_
 refine ag (ab ?_)
 refine cr E ?_
 refine aC (ab (af (aa (ac E E ?_))))
 obtain⟨blk0,hc0,ht0⟩:=hh
 refine ax E E ?_
 refine ah E E Lm ?_
 refine ak E E (aj MA E hc0.cellT) ?_
 refine ac E E ?_
 refine aO E E (cT hx) ?_
 refine a9 E E (fv Mx MA) ?_
 refine al E E E (dT) ?_
 refine ax E E ?_
 refine ah E E Lm ?_
 have hcl0:=iJ (u:=((m.length%64:Nat):Int)) (tot:=tot) hc0.ls hc0.lb
 refine au E E (dR (i:=73) Cc E hc0.hb (by rw[List.size_toArray,hcl0];omega)) ?_
 have hc1:=hc0.setT (tot+UInt64.ofNat x.length)
 have q1:=bh w g 73 (bF (tot+UInt64.ofNat x.length))
 have hx1:=hx.away ha q1
 revert hc1 q1 hx1
 generalize w.setCell ⟨g,73,none⟩ (bF (tot+UInt64.ofNat x.length))=w1
 intro hc1 q1 hx1
 refine ag (ab (aE ?_))
 refine cf (α:=Nat×Value) (fun p=>[(0,.pointer (some ⟨g,0,none⟩)),(1,p.2)])
  (fun p w'=>HA g (m++x.take p.1) (tot+UInt64.ofNat x.length) w'∧cJ (x.drop p.1) p.2 w'∧(0<(x.drop p.1).length→AG g p.2)∧w.grownBy w' (some g)∧p.1≤x.length) (fun p=>x.length-p.1) (0,v) ⟨rfl,rfl,trivial⟩
  ⟨by simpa using⟨blk0,hc1,ht0⟩,by simpa using hx1,by simpa using ha,q1,by simp⟩ ?_
 rintro⟨k,b⟩ w2 ⟨⟨blk,hc2,ht2⟩,hb2,ha2,q2,hk⟩
 dsimp only at hc2 ht2 hb2 ha2 q2 hk
 have hm':∃m',m'=m++x.take k:=⟨_,rfl⟩
 obtain⟨m',hm'⟩:=hm'
 rw[←hm'] at hc2 ht2
 refine af (af (aa (ac E E ?_)))
 refine aO E E (cT hb2) ?_
 refine al E E E (ca) ?_
 refine ag (ab ?_)
 refine bz E (fun h=>?_) (fun h=>?_)
 ·have hlt:0<(x.drop k).length:=by omega
  have hu:m'.length%64<64:=Nat.mod_lt _ (by omega)
  refine aC (ab (aE (af ?_)))
  refine bI 9 [0,1,27,28] (by kernel_rfl) (by kernel_rfl) ?_
  refine aA E E ?_
  refine dj E E ?_
  refine aW E E (fun w _=>Mc) ?_
  refine aA E E ?_
  refine dj E E ?_
  refine aW E E (fun w _=>Gm) ?_
  refine aP E E (fun w' hw=>aj Mx E (hc2.ext hw).cellU) ?_
  refine gw (a:=some (I ((m'.length%64:Nat):Int))) (b:=none) E E E E (fun w _=>KA hu) ?_
  refine aA E E (cq ?_)
  intro w3 hx3
  rintro _ rfl _ rfl _ rfl _ rfl
  have hc3:=hc2.ext hx3
  obtain⟨w4,hr,q4,hc4⟩:=JF (ty:=3) hc3 hu (hb2.ext hx3) hlt
  obtain⟨n,hn⟩:∃n,n=min (x.drop k).length (64-m'.length%64):=⟨_,rfl⟩
  rw[←hn] at hr hc4
  have hxk:(x.drop k).length=x.length-k:=List.length_drop
  have hn1:n≤x.length-k:=by omega
  have hn2:m'.length%64+n≤64:=by omega
  have hn0:0<n:=by omega
  refine KJ E E hr ?_
  refine ae E E (ag (ab (af (aa (ac E E ?_)))))
  refine ax E E ?_
  refine ah E E Gm ?_
  refine ak E E (aj Mx E hc4.cellU) ?_
  refine ac E E ?_
  have e1:((m'.length%64:Nat):Int)+(n:Int)=((m'.length%64+n:Nat):Int):=by omega
  refine al (r:=I ((m'.length%64+n:Nat):Int)) E E E (by rw[←e1];exact aN (by omega) (by omega)) ?_
  refine ax E E ?_
  refine ah E E Gm ?_
  have hcl4:=iJ (u:=((m'.length%64:Nat):Int)) (tot:=tot+UInt64.ofNat x.length) hc4.ls hc4.lb
  refine au E E (dR (i:=72) gj E hc4.hb (by rw[List.size_toArray,hcl4];omega)) ?_
  have hc5:=hc4.setU ((m'.length%64+n:Nat):Int)
  have q5:=q4.trans (bh w4 g 72 (I ((m'.length%64+n:Nat):Int)))
  revert hc5 q5
  generalize w4.setCell ⟨g,72,none⟩ (I ((m'.length%64+n:Nat):Int))=w5
  intro hc5 q5
  have hb5:=(hb2.ext hx3).away ha2 q5
  have q25:=(q2.trans (dM hx3)).trans q5
  refine ag (ab (af (aa (ac E E (ac E E ?_)))))
  obtain⟨b6,hr6,hb6,ha6⟩:=Dw hb5 (lo:=n) (by omega) (ha2 hlt)
  rw[List.drop_drop] at hb6
  refine cx (a:=some (I (n:Int))) (b:=none) E E E E E (hr6 _) ?_
  refine ae E E (ag (ab (af (aa (ac E E ?_)))))
  refine ax E E ?_
  refine ah E E Gm ?_
  refine ak E E (aj Mx E hc5.cellU) ?_
  refine al E E E (bi) ?_
  refine ag (ab ?_)
  have hyl:((x.drop k).take (64-m'.length%64)).length=n:=by rw[List.length_take,hn,Nat.min_comm]
  have hyn:(x.drop k).take (64-m'.length%64)=(x.drop k).take n:=by
   rw[hn]
   rcases Nat.le_total (x.drop k).length (64-m'.length%64) with h1|h1
   ·rw[Nat.min_eq_left h1,List.take_of_length_le h1,List.take_length]
   ·rw[Nat.min_eq_right h1]
  have hmy:m++x.take (k+n)=m'++(x.drop k).take (64-m'.length%64):=by
   rw[hyn,hm',List.append_assoc,←List.take_add]
  obtain⟨y,hy⟩:∃y,y=(x.drop k).take (64-m'.length%64):=⟨_,rfl⟩
  rw[←hy] at hc5 hyl hmy
  have hmd:(m'.drop (64*(m'.length/64))).length=m'.length%64:=by rw[List.length_drop];omega
  have hml:(m'++y).length=m'.length+n:=by rw[List.length_append,hyl]
  refine bz E (fun h=>?_) (fun h=>?_)
  ·have hfull:m'.length%64+n=64:=by omega
   refine aa (ac E E ?_)
   refine am AE E E (AF hc5) ?_
   rintro _ w6 ⟨q6,hc6⟩
   refine ag (aS ?_)
   refine bR (k+n,b6) ⟨rfl,rfl,trivial⟩ ⟨?_,hb6.away (fun _=>ha6) q6,fun _=>ha6,q25.trans q6,by show k+n≤x.length;omega⟩ (by show x.length-(k+n)<x.length-k;omega)
   show HA g (m++x.take (k+n)) _ w6
   rw[hmy]
   have e0:(m'++y).length%64=0:=by rw[hml];omega
   have hd0:blk.drop (m'.length%64+n)=[]:=List.drop_eq_nil_of_le (by rw[hc2.lb];omega)
   rw[hd0,List.append_nil] at hc6
   have hdd:(m'++y).drop (64*((m'++y).length/64))=[]:=List.drop_eq_nil_of_le (by omega)
   refine⟨blk.take (m'.length%64)++y,?_,by rw[e0,hdd,List.take_zero]⟩
   rw[e0,JE m' y (by omega),←ht2]
   exact hc6
  ·have hpart:m'.length%64+n<64:=by omega
   refine aC (aS ?_)
   refine bR (k+n,b6) ⟨rfl,rfl,trivial⟩ ⟨?_,hb6,fun _=>ha6,q25,by show k+n≤x.length;omega⟩ (by show x.length-(k+n)<x.length-k;omega)
   show HA g (m++x.take (k+n)) _ w5
   rw[hmy]
   have e0:(m'++y).length%64=m'.length%64+n:=by rw[hml];omega
   have e2:(m'++y).length/64=m'.length/64:=by rw[hml];omega
   refine⟨_,by rw[e0,JD m' y (by omega)];exact hc5,?_⟩
   rw[e0,e2,List.drop_append_of_le_length (by omega),←ht2]
   rw[List.take_append_of_le_length (by rw[List.length_append,List.length_take,hc2.lb,hyl];omega)]
   exact List.take_of_length_le (by rw[List.length_append,List.length_take,hc2.lb,hyl];omega)
 ·have hk':k=x.length:=by
   have:(x.drop k).length=x.length-k:=List.length_drop
   omega
  refine bc (aI (aI (be ?_)))
  refine ko E ?_
  refine⟨_,rfl,q2,?_⟩
  rw[hk',List.take_length] at hm'
  rw[hm'] at hc2 ht2
  exact⟨blk,hc2,ht2⟩
theorem zh (w:World):Calls Tryz.prog 39 #[] w (bE fun r w'=>aK w w'∧∃g,w.heap.size≤g∧r=.pointer (some ⟨g,0,none⟩)∧HA g [] 0 w'):=by
 refine enter (vs:=[]) Tryz.func39 E E E ?_
 refine af (aa (ae E E (ag (ab (af (aa ?_))))))
 refine bA E E (run_build _ _ _ (iv.map bH).toArray (by kernel_rfl)) ?_
 refine bA E E (run_build _ _ _ (dt iv (List.replicate 64 0) 0 0).toArray (by kernel_rfl)) ?_
 obtain⟨g,w1,hr,n1,x1,b1⟩:=Dv (P:=Tryz.prog) (w:=w) (t:=154) (v:=.agg (dt iv (List.replicate 64 0) 0 0).toArray) (l:=dt iv (List.replicate 64 0) 0 0) rfl
 refine cM E E hr ?_
 refine ae E E (ag (ab (aw ?_)))
 refine az E E ?_
 exact⟨_,rfl,x1,g,n1,rfl,List.replicate 64 0,⟨b1,rfl,by simp⟩,rfl⟩
theorem HC.ldH {g:Nat} {st:List UInt32} {blk:List UInt8} {u:Int} {tot:UInt64} {w:World} (h:HC g st blk u tot w):(Instr.loadAt 154 (.pointer (some ⟨g,0,none⟩))).run Tryz.prog w=.ok (.agg (dt st blk u tot).toArray) w:=
 oX (m:=dt st blk u tot) h.hb (fun j v hj=>by rwa [Nat.zero_add]) M0 rfl (by rw[iJ h.ls h.lb];exact zf)
theorem Md {st:List UInt32} {blk:List UInt8} {u:Int} {tot:UInt64}:∀v∈dt st blk u tot,v.oneCell'=true:=by
 intro v hv
 unfold dt at hv
 rcases List.mem_append.1 hv with h|h
 ·exact lq _ v h
 ·rcases List.mem_append.1 h with h|h
  ·exact tv _ v h
  ·simp only[List.mem_cons,List.not_mem_nil,or_false] at h
   rcases h with rfl|rfl<;>rfl
end Go.Rl

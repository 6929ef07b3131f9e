/- Part 3 of a proof: plain facts and walks of functions, merged by a program. Conditions: each lemma names its own. -/
import Derived.Test.YtpeidnhjcompmaaGreatDoorJa2
namespace Go.Rl
open Go.RowKit Go.Proofs
section
variable {w:World} {g:Nat}
theorem nr {st:Option (List UInt8)} (hr:cn g st w) (h:st.bind eK=none):Calls Tryz.prog 93 #[.pointer (some ⟨g,0,none⟩)] w (bE fun r w'=>w.grownBy w' (some g)∧r=.tuple #[bF 0,I 5]∧cn g none w'):=by
 have:=vR hr
 rw[h] at this
 exact this
theorem nt {st:Option (List UInt8)} {n:Nat} {t:List UInt8} (hr:cn g st w) (h:st.bind eK=some (n,t)):Calls Tryz.prog 93 #[.pointer (some ⟨g,0,none⟩)] w (bE fun r w'=>w.grownBy w' (some g)∧r=.tuple #[bF (UInt64.ofNat n),I 0]∧cn g (some t) w'):=by
 have:=vR hr
 rw[h] at this
 exact this
end
theorem KK {w w1 w2:World} {row row2:Option Nat} (h:w.grownBy w1 row) (q:w1.grownBy w2 row2) (hg:∀k,row2=some k→w.heap.size≤k):w.grownBy w2 row:=
 ⟨q.os.trans h.os,q.tape.trans h.tape,q.output.trans h.output,Nat.le_trans h.size q.size,fun i hi hne=>(q.block i (Nat.lt_of_lt_of_le hi h.size) (fun e=>by have:=hg i e.symm;omega)).trans (h.block i hi hne)⟩
theorem d9.ge' {base:Nat} {l:List UInt32} {v:Value} {w:World} (h:d9 base l v w):∀k,v.ownBlock=some k→base≤k:=fun k hk=>h.elim fun _ h=>(World.ownsRow.lt h k hk).1
theorem Ee {P:Program} {w:World} {s d:TypeId} {n:Nat} (hs:P.underlying s=some (.int .u64)) (hd:P.underlying d=some (.int .i64)) (hn:n<9223372036854775808):(convert s d (bF (UInt64.ofNat n))).run P w=.ok (I (n:Int)) w:=by
 have e:(UInt64.ofNat n).toNat=n:=by rw[UInt64.toNat_ofNat'];omega
 have:=pr (P:=P) (w:=w) hs hd (a:=UInt64.ofNat n) (by omega)
 rwa [e] at this
theorem Ef {P:Program} {w:World} {s d:TypeId} {n:Nat} (hs:P.underlying s=some (.int .u64)) (hd:P.underlying d=some (.int .i64)) (hn:n<18446744073709551616):(convert s d (bF (UInt64.ofNat n/2))).run P w=.ok (I ((n/2:Nat):Int)) w:=by
 have e:(UInt64.ofNat n/2).toNat=n/2:=by
  rw[UInt64.toNat_div,UInt64.toNat_ofNat',show(2:UInt64).toNat=2 from rfl];omega
 have:=pr (P:=P) (w:=w) hs hd (a:=UInt64.ofNat n/2) (by omega)
 rwa [e] at this
theorem Eg {n:Nat}:UInt64.ofNat n%2=1↔n%2=1:=by
 rw[←UInt64.toNat_inj,UInt64.toNat_mod,UInt64.toNat_ofNat',show(2:UInt64).toNat=2 from rfl,show(1:UInt64).toNat=1 from rfl]
 omega
def LJ (g:Nat) (w:World) (o:Option (Nat×List UInt8)) (r:Value) (w':World):Prop:=
 w.grownBy w' (some g)∧match o with
  |some (n,t)=>r=.tuple #[I (uz n),I 0]∧cn g (some t) w'
  |none=>r=.tuple #[I 0,I 5]∧cn g none w'
theorem yn {w:World} {g:Nat} {st:Option (List UInt8)} (hr:cn g st w):
 Calls Tryz.prog 130 #[.pointer (some ⟨g,0,none⟩)] w (bE (LJ g w (st.bind eK))):=by
 refine enter (vs:=[.pointer (some ⟨g,0,none⟩)]) Tryz.func130 MI MI MI ?_
 refine af (aa (ac MI MI (ac MI MI (ag (ab (af ?_))))))
 rcases hN:st.bind eK with _|⟨n,t⟩
 ·refine aa (ae MI MI (am fw MI MI (nr hr hN) ?_))
  rintro v8 w8 ⟨x8,rfl,hr1⟩
  have m8:=ep.kp hr x8
  refine ae MI MI (ao MI MI (bj) (ao MI MI (bk) (ac MI MI (ac MI MI (ag (ab (af (af (aa (ae MI MI (al (v:=bF 2) MI MI MI (ja (by decide)) ?_)))))))))))
  refine al (v:=bF 1) MI MI MI (dm (by decide) gG) (ag (ab (cq MI (aA (ab (af (aa (ae MI MI (al (v:=bF 2) MI MI MI (iE (by decide)) ?_)))))))))
  refine aZ MI MI (pr Mf Me (by decide)) ?_
  refine ae MI MI (ac MI MI (ac MI MI (ag (ab (aw (be MI MI MI ?_))))))
  exact⟨_,rfl,x8,rfl,hr1⟩
 ·have hnn:=(rX (k:=(st.getD []).length) hN (by rintro l rfl;exact Nat.le_refl _)).2
  refine aa (ae MI MI (am fw MI MI (nt hr hN) ?_))
  rintro v8 w8 ⟨x8,rfl,hr1⟩
  have m8:=ep.kp hr x8
  refine ae MI MI (ao MI MI (bj) (ao MI MI (bk) (ac MI MI (ac MI MI (ag (ab (af (af (aa (ae MI MI (al (v:=bF 2) MI MI MI (ja (by decide)) ?_)))))))))))
  refine al (v:=bF 1) MI MI MI (gG) (ag (ab ?_))
  refine bw MI (fun h13=>?_) (fun h13=>?_)
  ·refine af (aa (ae MI MI (al (v:=bF 2) MI MI MI (iE (by decide)) (aZ MI MI (Ef Mf Me hnn) ?_))))
   refine bt MI MI (uK (by omega) (by omega)) (al MI MI MI (bC (by omega) (by omega)) (ae MI MI (ac MI MI (ac MI MI (ag (ab ?_))))))
   refine aw (ay (be MI MI MI ?_))
   exact⟨_,rfl,x8,congrArg (fun z=>Value.tuple #[I z,I 0]) (show _=uz n by
    unfold uz
    first
    |(have:=Eg.1 h13;rw[if_neg (by omega)])
    |(have:=mt Eg.2 h13;rw[if_pos (by omega)])),hr1⟩
  ·refine aA (ab (af (aa (ae MI MI (al (v:=bF 2) MI MI MI (iE (by decide)) (aZ MI MI (Ef Mf Me hnn) ?_))))))
   refine ae MI MI (ac MI MI (ac MI MI (ag (ab (aw (be MI MI MI ?_))))))
   exact⟨_,rfl,x8,congrArg (fun z=>Value.tuple #[I z,I 0]) (show _=uz n by
    unfold uz
    first
    |(have:=Eg.1 h13;rw[if_neg (by omega)])
    |(have:=mt Eg.2 h13;rw[if_pos (by omega)])),hr1⟩
def LK (g:Nat) (w:World) (o:Option (List UInt32×List UInt8)) (r:Value) (w':World):Prop:=
 w.grownBy w' (some g)∧match o with
  |some (m,t)=>∃v,r=.tuple #[v,I 0]∧bm m v w'∧cn g (some t) w'∧qI w.heap.size v
  |none=>r=.tuple #[.slice none 0 0,I 5]∧cn g none w'
theorem Bo {n m:Nat} (hn:n<18446744073709551616) (hm:m<18446744073709551616):UInt64.ofNat n>UInt64.ofNat m↔m<n:=by
 show UInt64.ofNat m<UInt64.ofNat n↔m<n
 rw[UInt64.lt_iff_toNat_lt,UInt64.toNat_ofNat',UInt64.toNat_ofNat']
 omega
theorem J9 {n:Nat} (hn:n<18446744073709551616):UInt64.ofNat n>0↔0<n:=Bo hn (by decide)
theorem yo {w:World} {g:Nat} {st:Option (List UInt8)} (hr:cn g st w) (hl:∀l,st=some l→l.length≤549755813888):
 Calls Tryz.prog 160 #[.pointer (some ⟨g,0,none⟩)] w (bE (LK g w (st.bind rW))):=by
 refine enter (vs:=[.pointer (some ⟨g,0,none⟩)]) Tryz.func160 MI MI MI ?_
 have hglt:=hr.lt
 refine af (aa (ac MI MI (ac MI MI (ag (ab (af ?_))))))
 rcases hU:st.bind eK with _|⟨n,t⟩
 ·refine aa (ae MI MI (am fw MI MI (nr hr hU) ?_))
  rintro v10 w10 ⟨x10,rfl,hr1⟩
  have m10:=ep.kp hr x10
  refine ae MI MI (ao MI MI (bj) (ao MI MI (bk) (ac MI MI (ac MI MI (ag (ab (af (af (aa (ae MI MI (al MI MI MI (cJ (by decide) cT) ?_)))))))))))
  refine ag (ab (bh MI (af (aa (ae MI MI (ac MI MI (ac MI MI (ag (ab (aw (ay (be MI MI MI ?_))))))))))))
  exact⟨_,rfl,x10,by rw[Hh hU];exact⟨rfl,hr1⟩⟩
 ·obtain⟨ht,hn⟩:=rX hU hl
  refine aa (ae MI MI (am fw MI MI (nt hr hU) ?_))
  rintro v10 w10 ⟨x10,rfl,hr1⟩
  have m10:=ep.kp hr x10
  refine ae MI MI (ao MI MI (bj) (ao MI MI (bk) ?_))
  obtain⟨A,n',c,k,b,lc⟩:=id hr1
  have b:cz t (.slice A n' c) w10:=b
  refine ac MI MI (ac MI MI (ag (ab (af (af (aa (ae MI MI (al MI MI MI (dm (by decide) cT) (ag (ab (cq MI (aA (ab ?_)))))))))))))
  refine af (af (aa (ae MI MI (ae MI MI (ax MI MI (ah MI MI (aq (o:=0) Mr MI (by kernel_rfl) MI) ?_))))))
  refine ak MI MI (ai Mg MI (k.cell (i:=0) MI)) (aP MI MI (cN b) (al (r:=I ((t.length/4:Nat):Int)) MI MI MI (by have e:((t.length/4:Nat):Int)=(t.length:Int)/4:=(by omega);rw[e];exact po (by omega) (by omega) (by omega)) ?_))
  refine aZ MI MI (fk Me Mf) (al MI MI MI (cL) (ag (ab ?_)))
  refine bw MI (fun h24=>?_) (fun h24=>?_)
  ·have hlong:t.length/4<n:=(Bo hn (by omega)).1 h24
   refine af (aa (ae MI MI (am dT MI MI (dU hr1) ?_)))
   rintro v26 w26 ⟨rfl,hr2,g26⟩
   have m26:=ep.kp hr1 g26
   refine ac MI MI (ac MI MI (ag (ab (aw (ay (be MI MI MI ?_))))))
   exact⟨_,rfl,x10.trans g26,by rw[qH hU,if_neg (by omega)];exact⟨rfl,hr2⟩⟩
  ·have hle:n≤t.length/4:=Nat.le_of_not_lt (mt (Bo hn (by omega)).2 h24)
   have hgb:g<w10.heap.size:=cn.lt hr1
   refine aA (ab (af (aa (ac MI MI (ag (ab (af (af (aa (ac MI MI (ag (ab (aF ?_)))))))))))))
   refine fl (fun(i:Nat) (u:Value)=>[(0,.pointer (some ⟨g,0,none⟩)),(4,bF (UInt64.ofNat n)),(6,u),(7,I (i:Int))]) (fun(i:Nat) (u:Value) w'=>w10.grownBy w' (some g)∧(∃A n' c,ci g 167 [.slice A n' c,B false] w'∧cz (t.drop (4*i)) (.slice A n' c) w10∧qt A g)∧d9 w10.heap.size (db (t.take (4*i))) u w'∧i≤n) (fun(i:Nat) (u:Value)=>n-i) (0) (.slice none 0 0) ⟨rfl,rfl,rfl,rfl,trivial⟩ ⟨jX _ _,⟨A,n',c,k,by simpa using b,lc⟩,by simpa [db] using d9.nil _ _,by omega⟩ ?_
   rintro i u w8 ⟨g8,⟨A,n',c,k8,b0,lc8⟩,o6,hi⟩
   refine af (af ?_)
   have b8:=b0.kp (ep.kp hr1 g8)
   have hdl:(t.drop (4*i)).length=t.length-4*i:=by rw[List.length_drop]
   refine aa (ae MI MI (ae MI MI (aZ MI MI (Ee Mf Me (by omega)) (al MI MI MI (a9) (ag ?_)))))
   refine ab ?_
   refine bw MI (fun h30=>?_) (fun h30=>?_)
   ·refine aA (ab (af (aF (af (bP 36 [0,4,7,33,68] (by kernel_rfl) (by kernel_rfl) ?_)))))
    refine aC MI MI (aC MI MI (dc MI MI (aT MI MI (fun w hw=>aq (o:=0) Mr MI (by kernel_rfl) MI) ?_)))
    refine aO MI MI (fun w hw=>ai Mg MI (hw.cell_some (k8.cell (i:=0) MI))) ?_
    obtain⟨a38,p38,q38⟩:=gN b8 (i:=0) (by omega) .i64
    refine aE MI MI MI (fun w _=>p38 w) (aO MI MI (fun w hw=>ai Mh MI (hw.cell_some q38)) (dG MI MI (fun w _=>eG Mh Ma) ?_))
    refine aC MI MI (dc MI MI (aT MI MI (fun w hw=>aq (o:=0) Mr MI (by kernel_rfl) MI) ?_))
    refine aO MI MI (fun w hw=>ai Mg MI (hw.cell_some (k8.cell (i:=0) MI))) ?_
    obtain⟨a45,p45,q45⟩:=gN b8 (i:=1) (by omega) .i64
    refine aE MI MI MI (fun w _=>p45 w) (aO MI MI (fun w hw=>ai Mh MI (hw.cell_some q45)) (dG MI MI (fun w _=>eG Mh Ma) ?_))
    refine ba (v:=bH 256) MI MI MI (fun w _=>tg) (ba MI MI MI (fun w _=>cr) (aC MI MI (dc MI MI (aT MI MI (fun w hw=>aq (o:=0) Mr MI (by kernel_rfl) MI) ?_))))
    refine aO MI MI (fun w hw=>ai Mg MI (hw.cell_some (k8.cell (i:=0) MI))) ?_
    obtain⟨a54,p54,q54⟩:=gN b8 (i:=2) (by omega) .i64
    refine aE MI MI MI (fun w _=>p54 w) (aO MI MI (fun w hw=>ai Mh MI (hw.cell_some q54)) (dG MI MI (fun w _=>eG Mh Ma) ?_))
    refine ba (v:=bH 65536) MI MI MI (fun w _=>tg) (ba MI MI MI (fun w _=>cr) (aC MI MI (dc MI MI (aT MI MI (fun w hw=>aq (o:=0) Mr MI (by kernel_rfl) MI) ?_))))
    refine aO MI MI (fun w hw=>ai Mg MI (hw.cell_some (k8.cell (i:=0) MI))) ?_
    obtain⟨a63,p63,q63⟩:=gN b8 (i:=3) (by omega) .i64
    refine aE MI MI MI (fun w _=>p63 w) (aO MI MI (fun w hw=>ai Mh MI (hw.cell_some q63)) (dG MI MI (fun w _=>eG Mh Ma) ?_))
    refine ba (v:=bH 16777216) rfl rfl rfl (fun w _=>tg) (ba rfl rfl rfl (fun w _=>cr) (fQ (S:=bm [w4 ((t.drop (4*i))[0]'(by omega)) ((t.drop (4*i))[1]'(by omega)) ((t.drop (4*i))[2]'(by omega)) ((t.drop (4*i))[3]'(by omega))]) (bm.stable _) rfl (fun w' _=>by rintro _ rfl;obtain⟨r,w2,h1,h2,h3,_⟩:=i6 Tryz.underlying44 (w:=w') w'.heap.size [w4 ((t.drop (4*i))[0]'(by omega)) ((t.drop (4*i))[1]'(by omega)) ((t.drop (4*i))[2]'(by omega)) ((t.drop (4*i))[3]'(by omega))] (by simp) (Nat.le_refl _);rw[←KF] at h1;exact⟨r,w2,h1,h2,h3.wds⟩) ?_))
    refine cp ?_
    intro wg10 xg10
    rintro _ rfl
    rintro _ rfl
    rintro _ rfl
    rintro _ hq33
    obtain rfl:=Eq.symm hq33
    intro vg68 b68
    obtain⟨v69,w69,hr69,o69,g69⟩:=kH Tryz.underlying44 (ty:=44) (o6.ext xg10) b68 (by have:=iH i (t.take (4*i)) (by rw[List.length_take];omega);simp;omega) (Nat.le_trans g8.size xg10.size)
    have gg:=KK (g8.trans (dH xg10)) g69.grown (fun k hk=>o6.ge' k hk)
    have k69:=(k8.ext xg10).other g69.grown (fun e=>by have:=o6.ge' g e.symm;omega)
    refine a6 MI MI hr69 ?_
    refine ac MI MI (ag (ab (aa (ae MI MI (ae MI MI (ax MI MI (ah MI MI (aq (o:=0) Mr MI (by kernel_rfl) MI) ?_)))))))
    refine ak MI MI (ai Mg MI (k69.cell (i:=0) MI)) ?_
    obtain⟨v75,p75,b75⟩:=gq b0 (lo:=4) (by omega) .i64
    obtain⟨A5,n5,c5,rfl,_⟩:=id b75
    have lc5:=tk (p75 w) lc8 _ _ _ rfl
    refine cE MI MI MI MI MI (p75 _) ?_
    refine ax MI MI (ah MI MI (aq (o:=0) Tryz.underlying167 MI (by kernel_rfl) MI) (ar MI MI (ei (i:=0) dx MI k69 (by simp)) ?_))
    have g11:=bi w69 g 0 (.slice A5 n5 c5)
    have o11:=o69.kept g11 (.inr (fun e=>by have:=o69.ge' g e;omega))
    refine ag (aS (ab (aa (ae MI MI (al (r:=I ((i+1:Nat):Int)) MI MI MI (by have e:((i+1:Nat):Int)=(i:Int)+1:=(by omega);rw[e];exact aN (by omega) (by omega)) ?_)))))
    refine ac MI MI (ag ?_)
    refine dD (i+1) (v69) ⟨rfl,rfl,rfl,rfl,trivial⟩ ⟨gg.trans g11,⟨A5,n5,c5,k69.set 0 _,by rw[List.drop_drop] at b75;exact b75,lc5⟩,by
     rw[qG i t (by omega)]
     simp only[List.getElem_drop,Nat.add_zero] at o11
     exact o11,by omega⟩ (by omega)
   ·refine bc (aJ (aJ (bf (ab (af (af ?_))))))
    have hin:i=n:=by omega
    have r8:cn g (some (t.drop (4*i))) w8:=⟨A,n',c,k8,b8,lc8⟩
    obtain⟨bs,hbs⟩:∃bs,bs=t.take (4*i):=⟨_,rfl⟩
    have hbs':bs=t.take (4*n):=by rw[hbs,hin]
    have hbl:bs.length=4*n:=by rw[hbs',List.length_take];omega
    have hns:=iH n bs hbl
    rw[←hbs] at o6
    have hnn:(UInt64.ofNat n).toNat=n:=by rw[UInt64.toNat_ofNat'];omega
    refine aa (ae MI MI (al (v:=bF 0) MI MI MI (cL) (ae MI MI ?_)))
    refine cd (fun h80=>?_) (fun h80=>?_)
    ·refine aj MI (ae MI MI (aj MI (ae MI MI (aj MI (al (v:=bF 1) MI MI MI (dP) (aj MI ?_))))))
     have hn0:0<n:=by
      rcases Nat.eq_zero_or_pos n with h|h
      ·rw[h] at h80;exact absurd h80 (by decide)
      ·exact h
     have hm1:(UInt64.ofNat n-1).toNat=n-1:=by
      rw[UInt64.toNat_sub_of_le _ _ (UInt64.le_iff_toNat_le.2 (by rw[hnn];exact hn0)),hnn];rfl
     obtain⟨a84,p84,q84⟩:=cX L8 o6.wds (i:=(UInt64.ofNat n-1).toNat) (by omega) .u64
     have hx:(db bs)[(UInt64.ofNat n-1).toNat]≠0↔lb (val (db bs))=db bs:=by
      have e:(UInt64.ofNat n-1).toNat=(db bs).length-1:=by omega
      simp only[e]
      exact rR (by omega)
     refine av MI MI MI (p84 _) (aj MI (ak MI MI (ai Ma MI q84) (aj MI (al (v:=bH 0) MI MI MI (lS) (ap MI MI MI ?_)))))
     refine ag (ab ?_)
     refine bw MI (fun h87=>?_) (fun h87=>?_)
     ·refine af (aa (ae MI MI (am dT MI MI (dU r8) ?_)))
      rintro v89 w89 ⟨rfl,hr2,g89⟩
      have m89:=ep.kp r8 g89
      refine ac MI MI (ac MI MI (ag (ab (aw (ay (be MI MI MI ?_))))))
      exact⟨_,rfl,(x10.trans g8).trans g89,by
       rw[qH hU,←hbs',if_neg fun h=>hx.2 h.2 h87]
       exact⟨rfl,hr2⟩⟩
     ·refine aA (ab (af (aa (ae MI MI (ac MI MI (ac MI MI (ag (ab (aw (be MI MI MI ?_))))))))))
      exact⟨_,rfl,x10.trans g8,by
       rw[hin] at r8
       rw[qH hU,←hbs']
       first
       |(have h0:n=0:=by
          rcases Nat.eq_zero_or_pos n with h|h
          ·exact h
          ·exact absurd ((J9 hn).2 h) h80
         have hb0:db bs=[]:=List.eq_nil_of_length_eq_zero (by rw[hns];exact h0)
         rw[hb0] at o6
         rw[hb0,if_pos ⟨hle,rfl⟩]
         exact⟨u,rfl,o6.wds,r8,fun k hk=>Nat.le_trans x10.size (o6.ge' k hk)⟩)
       |(have hcan:=hx.1 h87
         rw[if_pos ⟨hle,hcan⟩]
         exact⟨u,rfl,o6.wds,r8,fun k hk=>Nat.le_trans x10.size (o6.ge' k hk)⟩)⟩
    ·refine an MI MI MI (an MI MI MI (an MI MI MI (an MI MI MI (an MI MI MI (an MI MI MI (aD MI MI MI (ag (ab (cq MI (aA (ab (af ?_))))))))))))
     refine aa (ae MI MI (ac MI MI (ac MI MI (ag (ab (aw (be MI MI MI ?_)))))))
     exact⟨_,rfl,x10.trans g8,by
      rw[hin] at r8
      rw[qH hU,←hbs']
      first
      |(have h0:n=0:=by
         rcases Nat.eq_zero_or_pos n with h|h
         ·exact h
         ·exact absurd ((J9 hn).2 h) h80
        have hb0:db bs=[]:=List.eq_nil_of_length_eq_zero (by rw[hns];exact h0)
        rw[hb0] at o6
        rw[hb0,if_pos ⟨hle,rfl⟩]
        exact⟨u,rfl,o6.wds,r8,fun k hk=>Nat.le_trans x10.size (o6.ge' k hk)⟩)
      |(have hcan:=hx.1 h87
        rw[if_pos ⟨hle,hcan⟩]
        exact⟨u,rfl,o6.wds,r8,fun k hk=>Nat.le_trans x10.size (o6.ge' k hk)⟩)⟩
end Go.Rl
namespace Go.Rl
open Go.RowKit Go.Proofs
def Ja (g:Nat) (w:World) (o:Option (List UInt8×List UInt8)) (r:Value) (w':World):Prop:=
 w.grownBy w' (some g)∧match o with
  |some (a,t)=>∃v,r=.tuple #[v,I 0]∧cz a v w'∧cn g (some t) w'
  |none=>r=.tuple #[.slice none 0 0,I 5]∧cn g none w'
theorem KL {st:Option (List UInt8)} (h:st.bind eK=none):st.bind p9=none:=by
 cases st with
 |none=>rfl
 |some l=>
  have h:eK l=none:=h
  show p9 l=none
  unfold p9
  rw[h];rfl
theorem Ho {st:Option (List UInt8)} {n:Nat} {t:List UInt8} (h:st.bind eK=some (n,t)):st.bind p9=if n≤t.length then some (t.take n,t.drop n) else none:=by
 cases st with
 |none=>cases h
 |some l=>
  have h:eK l=some (n,t):=h
  show p9 l=_
  unfold p9
  rw[h];rfl
theorem ui {w:World} {g:Nat} {st:Option (List UInt8)} (hr:cn g st w) (hl:∀l,st=some l→l.length≤549755813888):
 Calls Tryz.prog 48 #[.pointer (some ⟨g,0,none⟩)] w (bE (Ja g w (st.bind p9))):=by
 refine enter (vs:=[.pointer (some ⟨g,0,none⟩)]) Tryz.func48 MI MI MI ?_
 refine af (aa (ac MI MI (ac MI MI (ag (ab (af ?_))))))
 rcases hU:st.bind eK with _|⟨n,t⟩
 ·refine aa (ae MI MI (am fw MI MI (nr hr hU) ?_))
  rintro v9 w9 ⟨x9,rfl,hr1⟩
  have m9:=ep.kp hr x9
  refine ae MI MI (ao MI MI (bj) (ao MI MI (bk) (ac MI MI (ac MI MI (ag (ab (af (af (aa (ae MI MI (al MI MI MI (cJ (by decide) cT) ?_)))))))))))
  refine ag (ab (bh MI (af (aa (ae MI MI (ac MI MI (ac MI MI (ag (ab (aw (ay (be MI MI MI ?_))))))))))))
  exact⟨_,rfl,x9,by rw[KL hU];exact⟨rfl,hr1⟩⟩
 ·obtain⟨ht,hn⟩:=rX hU hl
  refine aa (ae MI MI (am fw MI MI (nt hr hU) ?_))
  rintro v9 w9 ⟨x9,rfl,hr1⟩
  have m9:=ep.kp hr x9
  refine ae MI MI (ao MI MI (bj) (ao MI MI (bk) ?_))
  obtain⟨A,n',c,k,b,lc⟩:=id hr1
  have b:cz t (.slice A n' c) w9:=b
  have hgb:g<w9.heap.size:=cn.lt hr1
  refine ac MI MI (ac MI MI (ag (ab (af (af (aa (ae MI MI (al MI MI MI (dm (by decide) cT) (ag (ab (cq MI (aA (ab ?_)))))))))))))
  refine af (af (aa (ae MI MI (ae MI MI (ax MI MI (ah MI MI (aq (o:=0) Mr MI (by kernel_rfl) MI) ?_))))))
  refine ak MI MI (ai Mg MI (k.cell (i:=0) MI)) (aP MI MI (cN b) (aZ MI MI (fk Me Mf) ?_))
  refine al MI MI MI (cL) (ag (ab ?_))
  refine bw MI (fun h22=>?_) (fun h22=>?_)
  ·have hlong:t.length<n:=(Bo hn (by omega)).1 h22
   refine af (aa (ae MI MI (am dT MI MI (dU hr1) ?_)))
   rintro v24 w24 ⟨rfl,hr2,g24⟩
   have m24:=ep.kp hr1 g24
   refine ac MI MI (ac MI MI (ag (ab (aw (ay (be MI MI MI ?_))))))
   exact⟨_,rfl,x9.trans g24,by rw[Ho hU,if_neg (by omega)];exact⟨rfl,hr2⟩⟩
  ·have hle:n≤t.length:=Nat.le_of_not_lt (mt (Bo hn (by omega)).2 h22)
   have hnn:(UInt64.ofNat n).toNat=n:=by rw[UInt64.toNat_ofNat'];omega
   refine aA (ab (af (aa ?_)))
   obtain⟨v25,w25,hr25,x25,o25,ob25⟩:=dX (w:=w9) w9.heap.size [] (by simp) (Nat.le_refl _)
   refine aI (vs:=[]) MI MI hr25 (ae MI MI (ax MI MI (ah MI MI (aq (o:=0) Mr MI (by kernel_rfl) MI) ?_)))
   refine ak MI MI (ai Mg MI (x25.cell_some (k.cell (i:=0) MI))) (ae MI MI ?_)
   obtain⟨v31,p31,b31⟩:=iU (b.ext x25) (hi:=(UInt64.ofNat n).toNat) (by omega) .u64
   rw[hnn] at b31
   refine cE (b:=some (bF (UInt64.ofNat n))) MI MI MI MI MI (p31 _) ?_
   obtain⟨v32,w32,hr32,o32,g32⟩:=dj (ty:=22) o25 b31 (by simp;omega) (x25).size
   have x32:=aK.of_grew (x25) g32 o25.ge
   refine a6 MI MI hr32 (ac MI MI (ag (ab (af (aa (ae MI MI (ae MI MI (ax MI MI (ah MI MI (aq (o:=0) Mr MI (by kernel_rfl) MI) ?_)))))))))
   refine ak MI MI (ai Mg MI (x32.cell_some (k.cell (i:=0) MI))) (ae MI MI ?_)
   obtain⟨v39,p39,b39⟩:=gq (b.ext x32) (lo:=(UInt64.ofNat n).toNat) (by omega) .u64
   rw[hnn] at b39
   refine cE (a:=some (bF (UInt64.ofNat n))) MI MI MI MI MI (p39 _) ?_
   have hr1':=cn.ext hr1 x32
   have hvb:cz (t.take n) v32 w32:=by simpa using(o32).bts
   refine ax MI MI (ah MI MI (aq (o:=0) Mr MI (by kernel_rfl) MI) ?_)
   obtain⟨w3,hs3,q3,r3⟩:=ep.set hr1' b39 (tk (p39 w) lc)
   refine ar MI MI (hs3) ?_
   have gg:=(x9.trans (dH x32)).trans q3
   refine ag (ab (af (aa (ae MI MI (ac MI MI (ac MI MI (ag (ab (aw (be MI MI MI ?_))))))))))
   exact⟨_,rfl,gg,by rw[Ho hU,if_pos hle];exact⟨_,rfl,hvb.kp (ep.kp hr1' q3),r3⟩⟩
section
variable {w:World} {g:Nat}
theorem Bp {st:Option (List UInt8)} (hr:cn g st w) (hl:∀l,st=some l→l.length≤549755813888) (h:st.bind p9=none):Calls Tryz.prog 48 #[.pointer (some ⟨g,0,none⟩)] w (bE fun r w'=>w.grownBy w' (some g)∧r=.tuple #[.slice none 0 0,I 5]∧cn g none w'):=by
 have:=ui hr hl
 rw[h] at this
 exact this
theorem uj {st:Option (List UInt8)} {a t:List UInt8} (hr:cn g st w) (hl:∀l,st=some l→l.length≤549755813888) (h:st.bind p9=some (a,t)):Calls Tryz.prog 48 #[.pointer (some ⟨g,0,none⟩)] w (bE fun r w'=>w.grownBy w' (some g)∧∃v,r=.tuple #[v,I 0]∧cz a v w'∧cn g (some t) w'):=by
 have:=ui hr hl
 rw[h] at this
 exact this
theorem tB {st:Option (List UInt8)} (hr:cn g st w) (hl:∀l,st=some l→l.length≤549755813888) (h:st.bind rW=none):Calls Tryz.prog 160 #[.pointer (some ⟨g,0,none⟩)] w (bE fun r w'=>w.grownBy w' (some g)∧r=.tuple #[.slice none 0 0,I 5]∧cn g none w'):=by
 have:=yo hr hl
 rw[h] at this
 exact this
theorem qO {st:Option (List UInt8)} {m:List UInt32} {t:List UInt8} (hr:cn g st w) (hl:∀l,st=some l→l.length≤549755813888) (h:st.bind rW=some (m,t)):Calls Tryz.prog 160 #[.pointer (some ⟨g,0,none⟩)] w (bE fun r w'=>w.grownBy w' (some g)∧∃v,r=.tuple #[v,I 0]∧bm m v w'∧cn g (some t) w'∧qI w.heap.size v):=by
 have:=yo hr hl
 rw[h] at this
 exact this
theorem tC {st:Option (List UInt8)} {m:List UInt32} {t:List UInt8} (hr:cn g st w) (hl:∀l,st=some l→l.length≤549755813888) (h:st.bind rW=some (m,t)):Calls Tryz.prog 160 #[.pointer (some ⟨g,0,none⟩)] w (bE fun r w'=>w.grownBy w' (some g)∧∃v,r=.tuple #[v,I 0]∧bm m v w'∧cn g (some t) w'):=(qO hr hl h).mono fun _ _ ⟨r,h0,h1,v,h2,h3,h4,_⟩=>⟨r,h0,h1,v,h2,h3,h4⟩
end
end Go.Rl
namespace Go.Rl
open Go.RowKit Go.Proofs
theorem ci.st1 {P:Program} {w:World} {T t:TypeId} {g:Nat} {l:List Value} {v:Value} (h:ci g T l w) (i:Nat) (hs:(P.info? t).map (·.size)=some 1) (hv:∃A n c,v=.slice A n c) (hi:i<l.length):
 ∃w',(Instr.storeAt t (.pointer (some ⟨g,i,none⟩)) v).run P w=.ok () w'∧w.grownBy w' (some g)∧ci g T (l.set i v) w':=by
 obtain⟨A,n,c,rfl⟩:=hv
 exact⟨_,ei hs rfl h (by simpa using hi),bi w g i _,h.set i _⟩
theorem FF {w:World} {b:Bool}:(Instr.build 46 #[(0,B b)]).run Tryz.prog w=.ok (.agg #[B b,.slice none 0 0,.slice none 0 0]) w:=
 run_build _ _ _ #[B b,.slice none 0 0,.slice none 0 0] (by kernel_rfl)
def FRatE (g:Nat) (w:World) (o:Option ((Bool×List UInt32×List UInt32)×List UInt8)) (r:Value) (w':World):Prop:=
 w.grownBy w' (some g)∧match o with
  |some (q,t)=>∃v,r=.tuple #[v,I 0]∧di q.1 q.2.1 q.2.2 v w'∧cn g (some t) w'
  |none=>∃v,r=.tuple #[v,I 5]∧di false [] [] v w'∧cn g none w'
def KM (g:Nat) (w:World) (o:Option ((Bool×List UInt32×List UInt32)×List UInt8)) (r:Value) (w':World):Prop:=
 w.grownBy w' (some g)∧match o with
  |some (q,t)=>∃x y,r=.tuple #[.agg #[B q.1,x,y],I 0]∧bm q.2.1 x w'∧bm q.2.2 y w'∧cn g (some t) w'∧qI w.heap.size x∧qI w.heap.size y
  |none=>∃v,r=.tuple #[v,I 5]∧di false [] [] v w'∧cn g none w'
theorem CP {w:World} {g:Nat} {st:Option (List UInt8)} (hr:cn g st w) (hl:∀l,st=some l→l.length≤549755813888):
 Calls Tryz.prog 131 #[.pointer (some ⟨g,0,none⟩)] w (bE (KM g w (st.bind i7))):=by
 refine enter (vs:=[.pointer (some ⟨g,0,none⟩)]) Tryz.func131 MI MI MI ?_
 have hglt:=cn.lt hr
 refine af (aa ?_)
 obtain⟨g2,w2,hr2,l2,x2,k2⟩:=gt (w:=w)
 refine aV MI hr2 (ac MI MI (ag (ab (af (af ?_)))))
 have rr:=cn.ext hr x2
 have kk:=k2
 have gg:w.grownBy w2 (some g):=dH x2
 have hne:some g2≠some g:=fun h=>by have:=Option.some.inj h;omega
 have hne':g≠g2:=by omega
 obtain⟨A,n,c0,k0,b0,lc⟩:=id rr
 rcases st with _|(_|⟨c,l⟩)
 ·have hR:(none:Option (List UInt8)).bind i7=none:=rfl
  have bn:cz [] (.slice A n c0) w2:=b0
  refine aa (ae MI MI (ax MI MI (ah MI MI (aq (o:=0) Mr MI (by kernel_rfl) MI) (ak MI MI (ai Mg MI (k0.cell (i:=0) MI)) ?_))))
  refine aP MI MI (cN bn) (al MI MI MI (cJ (by simp) bo) (ae MI MI (an MI MI MI (an MI MI MI (an MI MI MI (an MI MI MI (an MI MI MI ?_)))))))
  refine an MI MI MI (an MI MI MI (ap MI MI MI (ag (ab (bh MI (af (aa ?_)))))))
  refine bz (vs:=[]) MI MI eV ?_
  refine ae MI MI (am dT MI MI (dU rr) ?_)
  rintro v22 w22 ⟨rfl,rs,g22⟩
  have m22:=ep.kp rr g22
  have gg:=gg.trans g22
  have kk:=kk.other g22 hne
  have rr:=rs
  obtain⟨p,q,w3,hp,hs3,q3,k3,n3,d3⟩:=kk.stR ⟨_,_,_,rfl⟩ ⟨_,_,_,rfl⟩ (di.mk (b:=false) (bm.nil _) (bm.nil _))
  refine ar MI MI (hs3) (ac MI MI (ag (ab (aw (ay ?_)))))
  refine cu MI MI MI k3 Mb MI de ?_
  exact⟨_,rfl,fh gg q3 l2,by rw[hR];exact⟨_,rfl,⟨p,q,rfl,n3,d3⟩,ep.off rr (kk.kpR ⟨_,_,_,rfl⟩ ⟨_,_,_,rfl⟩ q3) q3 hne'⟩⟩
 ·have hR:(some []).bind i7=none:=rfl
  have bn:cz [] (.slice A n c0) w2:=b0
  refine aa (ae MI MI (ax MI MI (ah MI MI (aq (o:=0) Mr MI (by kernel_rfl) MI) (ak MI MI (ai Mg MI (k0.cell (i:=0) MI)) ?_))))
  refine aP MI MI (cN bn) (al MI MI MI (cJ (by simp) bo) (ae MI MI (an MI MI MI (an MI MI MI (an MI MI MI (an MI MI MI (an MI MI MI ?_)))))))
  refine an MI MI MI (an MI MI MI (ap MI MI MI (ag (ab (bh MI (af (aa ?_)))))))
  refine bz (vs:=[]) MI MI eV ?_
  refine ae MI MI (am dT MI MI (dU rr) ?_)
  rintro v22 w22 ⟨rfl,rs,g22⟩
  have m22:=ep.kp rr g22
  have gg:=gg.trans g22
  have kk:=kk.other g22 hne
  have rr:=rs
  obtain⟨p,q,w3,hp,hs3,q3,k3,n3,d3⟩:=kk.stR ⟨_,_,_,rfl⟩ ⟨_,_,_,rfl⟩ (di.mk (b:=false) (bm.nil _) (bm.nil _))
  refine ar MI MI (hs3) (ac MI MI (ag (ab (aw (ay ?_)))))
  refine cu MI MI MI k3 Mb MI de ?_
  exact⟨_,rfl,fh gg q3 l2,by rw[hR];exact⟨_,rfl,⟨p,q,rfl,n3,d3⟩,ep.off rr (kk.kpR ⟨_,_,_,rfl⟩ ⟨_,_,_,rfl⟩ q3) q3 hne'⟩⟩
 ·have b0:cz (c::l) (.slice A n c0) w2:=b0
  refine aa (ae MI MI (ax MI MI (ah MI MI (aq (o:=0) Mr MI (by kernel_rfl) MI) (ak MI MI (ai Mg MI (k0.cell (i:=0) MI)) ?_))))
  refine aP MI MI (cN b0) (al MI MI MI (dm (by simp;omega) bo) (ae MI MI (aj MI (ae MI MI (aj MI (ax MI MI (aj MI (ah MI MI (aq (o:=0) Tryz.underlying167 MI (by kernel_rfl) MI) ?_))))))))
  refine aj MI (ak MI MI (ai Mg MI (k0.cell (i:=0) MI)) (aj MI ?_))
  obtain⟨a16,p16,q16⟩:=gN b0 (i:=0) (by simp) .i64
  refine av MI MI MI (p16 _) (aj MI (ak MI MI (ai Mh MI q16) (aj MI (al (v:=U8 1) MI MI MI (rM) (aD MI MI MI ?_)))))
  refine ag (ab ?_)
  refine bw MI (fun h19=>?_) (fun h19=>?_)
  ·have hc:1<c.toNat:=by have:=UInt8.lt_iff_toNat_lt.1 h19;simpa using this
   have hR:(some (c::l)).bind i7=none:=zG hc
   refine af (aa ?_)
   refine bz (vs:=[]) MI MI eV ?_
   refine ae MI MI (am dT MI MI (dU rr) ?_)
   rintro v22 w22 ⟨rfl,rs,g22⟩
   have m22:=ep.kp rr g22
   have gg:=gg.trans g22
   have kk:=kk.other g22 hne
   have rr:=rs
   obtain⟨p,q,w3,hp,hs3,q3,k3,n3,d3⟩:=kk.stR ⟨_,_,_,rfl⟩ ⟨_,_,_,rfl⟩ (di.mk (b:=false) (bm.nil _) (bm.nil _))
   refine ar MI MI (hs3) (ac MI MI (ag (ab (aw (ay ?_)))))
   refine cu MI MI MI k3 Mb MI de ?_
   exact⟨_,rfl,fh gg q3 l2,by rw[hR];exact⟨_,rfl,⟨p,q,rfl,n3,d3⟩,ep.off rr (kk.kpR ⟨_,_,_,rfl⟩ ⟨_,_,_,rfl⟩ q3) q3 hne'⟩⟩
  ·have hc:¬1<c.toNat:=fun hh=>h19 (UInt8.lt_iff_toNat_lt.2 (by simpa using hh))
   have hl1:∀l',some l=some l'→l'.length≤549755813888:=fun l' e=>by
    have:=hl _ rfl
    cases e
    simp at this;omega
   refine aA (ab (af ?_))
   obtain⟨s,hs⟩:∃s,s=decide (c.toNat=1):=⟨_,rfl⟩
   have hcs:s=decide ((c::l)[0]'(Nat.zero_lt_succ _)=(1:UInt8)):=by
    rw[hs]
    exact decide_eq_decide.2 ⟨fun h=>vN.1 h,fun h=>vN.2 h⟩
   refine aa (ae MI MI (ax MI MI (ah MI MI (aq (o:=0) Mr MI (by kernel_rfl) MI) (ak MI MI (ai Mg MI (k0.cell (i:=0) MI)) ?_))))
   obtain⟨a27,p27,q27⟩:=gN b0 (i:=0) (by simp) .i64
   refine av MI MI MI (p27 _) (ak MI MI (ai Mh MI q27) (al (v:=U8 1) (r:=B s) MI MI MI ((by rw[hcs];exact lR)) ?_))
   refine bz (vs:=[(0,B s)]) MI MI FF ?_
   obtain⟨g4,w4,hr4,l4,x4,k4⟩:=gt (w:=w2)
   refine aV MI hr4 ?_
   obtain⟨p4,q4,w5,hp4,hs5,q5,k5,n5,d5⟩:=k4.stR ⟨_,_,_,rfl⟩ ⟨_,_,_,rfl⟩ (di.mk (b:=s) (bm.nil _) (bm.nil _))
   refine ar MI MI (hs5) ?_
   have x5:=x4.of_new q5 l4
   have hg2:=kk.lt
   have hgw:=x2.size
   have hne4:some g4≠some g:=fun h=>by have:=Option.some.inj h;omega
   have hne4':g≠g4:=by omega
   have hne24:some g2≠some g4:=fun h=>by have:=Option.some.inj h;omega
   have hw4:w.heap.size≤g4:=by omega
   have kk:=kk.ext x5
   have rr:=cn.ext rr x5
   have gg:=gg.trans (dH x5)
   refine ag (ab (af (aa (ae MI MI (ae MI MI (ax MI MI (ah MI MI (aq (o:=0) Mr MI (by kernel_rfl) MI) ?_)))))))
   refine ak MI MI (ai Mg MI (x5.cell_some (k0.cell (i:=0) MI))) ?_
   obtain⟨v36,p36,b36⟩:=gq (b0.ext x5) (lo:=1) (by simp) .i64
   refine cE MI MI MI MI MI (p36 _) (ax MI MI (ah MI MI (aq (o:=0) Mr MI (by kernel_rfl) MI) ?_))
   obtain⟨w6,hs6,q6,r6⟩:=ep.set (l':=l) rr b36 (tk (p36 w) lc)
   refine ar MI MI (hs6) ?_
   have m6:=ep.kp rr q6
   have kk:=kk.other q6 hne
   have k5:=k5.other q6 hne4
   have gg:=gg.trans q6
   have rr:cn g (some l) w6:=r6
   have n5:=n5.kp m6
   have d5:=d5.kp m6
   refine ag (ab (af ?_))
   rcases hN:rW l with _|⟨m,t⟩
   rotate_left
   rcases hM:rW t with _|⟨m',t'⟩
   rotate_left
   rcases hV:rv s m m'
   ·have hR:(some (c::l)).bind i7=none:=by
     show i7 (c::l)=none
     rw[tz hc hN,←hs,hM]
     exact if_neg (by rw[hV];simp)
    refine aa (ae MI MI (am iI MI MI ((tC (st:=some l) rr hl1 hN)) ?_))
    rintro v41 w41 ⟨g41,v0,rfl,h0,rs⟩
    have m41:=ep.kp rr g41
    have kk:=kk.other g41 hne
    have k5:=k5.other g41 hne4
    have gg:=gg.trans g41
    have rr:=rs
    have n5:=n5.kp m41
    have d5:=d5.kp m41
    refine ae MI MI (ao MI MI (bj) (ao MI MI bk (ah MI MI (aq (o:=1) Mb MI (by kernel_rfl) MI) ?_)))
    obtain⟨w7,hs7,q7,k7⟩:=k5.st1 1 f8 h0.isS (by simp)
    refine ar MI MI (hs7) ?_
    have m7:=k5.kpR n5.isS d5.isS q7
    have kk:=kk.other q7 hne24
    have rr:=ep.off rr m7 q7 hne4'
    have gg:=fh gg q7 hw4
    have n7:=h0.kp m7
    have d7:=d5.kp m7
    refine ag (ab (af (aa (ae MI MI ?_))))
    have hl2:∀l',some t=some l'→l'.length≤549755813888:=fun l' e=>by
     cases e
     have h1:=(fV hN).1
     have:=hl1 _ rfl
     rw[h1,List.length_append] at this
     omega
    refine am iI MI MI ((tC (st:=some t) rr hl2 hM)) ?_
    rintro v47 w47 ⟨g47,v1,rfl,h1,rs⟩
    have m47:=ep.kp rr g47
    have kk:=kk.other g47 hne
    have k7:=k7.other g47 hne4
    have gg:=gg.trans g47
    have rr:=rs
    have n7:=n7.kp m47
    have d7:=d7.kp m47
    refine ae MI MI (ao MI MI (bj) (ao MI MI bk (ah MI MI (aq (o:=2) Mb MI (by kernel_rfl) MI) ?_)))
    obtain⟨w8,hs8,q8,k8⟩:=k7.st1 2 f8 h1.isS (by simp)
    refine ar MI MI (hs8) ?_
    have m8:=k7.kpR n7.isS d7.isS q8
    have kk:=kk.other q8 hne24
    have rr:=ep.off rr m8 q8 hne4'
    have gg:=fh gg q8 hw4
    have n8:=n7.kp m8
    have d8:=h1.kp m8
    obtain⟨A9,n9,c9,kr,br⟩:=id rr
    refine ag (ab (af (af (aa (ae MI MI (ax MI MI (ah MI MI (aq (o:=1) Mr MI (by kernel_rfl) MI) ?_)))))))
    refine ak MI MI (ai Mi MI (kr.cell (i:=1) MI)) (ae MI MI (aj MI (ak MI MI (k8.ldR) (aj MI ?_))))
    have hml:m.length≤137438953472:=by
     have:=hl1 _ rfl
     rw[(fV hN).1,List.length_append,jf,List.length_append,eJ] at this
     omega
    have hml':m'.length≤137438953472:=by
     have:=hl2 _ rfl
     rw[(fV hM).1,List.length_append,jf,List.length_append,eJ] at this
     omega
    refine am uh MI MI ((by have:=oC (b:=s) (di.mk n8 d8) hml hml';rw[hV] at this;exact this)) ?_
    rintro v57 w57 ⟨x57,rfl⟩
    have rr:=cn.ext rr x57
    have kk:=kk.ext x57
    have gg:=gg.trans (dH x57)
    refine aj MI (bt MI MI bu (aD MI MI MI (ag (ab (bh MI (af (aa ?_)))))))
    refine bz (vs:=[]) MI MI eV ?_
    refine ae MI MI (am dT MI MI (dU rr) ?_)
    rintro v62 w62 ⟨rfl,rs,g62⟩
    have m62:=ep.kp rr g62
    have gg:=gg.trans g62
    have kk:=kk.other g62 hne
    have rr:=rs
    obtain⟨p,q,w3,hp,hs3,q3,k3,n3,d3⟩:=kk.stR ⟨_,_,_,rfl⟩ ⟨_,_,_,rfl⟩ (di.mk (b:=false) (bm.nil _) (bm.nil _))
    refine ar MI MI (hs3) (ac MI MI (ag (ab (aw (ay ?_)))))
    refine cu MI MI MI k3 Mb MI de ?_
    exact⟨_,rfl,fh gg q3 l2,by rw[hR];exact⟨_,rfl,⟨p,q,rfl,n3,d3⟩,ep.off rr (kk.kpR ⟨_,_,_,rfl⟩ ⟨_,_,_,rfl⟩ q3) q3 hne'⟩⟩
   ·have hR:(some (c::l)).bind i7=some ((s,m,m'),t'):=by
     show i7 (c::l)=_
     rw[tz hc hN,←hs,hM]
     exact if_pos hV
    refine aa (ae MI MI ?_)
    have hs41:=gg.size
    refine am iI MI MI ((qO (st:=some l) rr hl1 hN)) ?_
    rintro v41 w41 ⟨g41,v0,rfl,h0,rs,f0⟩
    have m41:=ep.kp rr g41
    have kk:=kk.other g41 hne
    have k5:=k5.other g41 hne4
    have gg:=gg.trans g41
    have rr:=rs
    have n5:=n5.kp m41
    have d5:=d5.kp m41
    refine ae MI MI (ao MI MI (bj) (ao MI MI bk (ah MI MI (aq (o:=1) Mb MI (by kernel_rfl) MI) ?_)))
    obtain⟨w7,hs7,q7,k7⟩:=k5.st1 1 f8 h0.isS (by simp)
    refine ar MI MI (hs7) ?_
    have m7:=k5.kpR n5.isS d5.isS q7
    have kk:=kk.other q7 hne24
    have rr:=ep.off rr m7 q7 hne4'
    have gg:=fh gg q7 hw4
    have n7:=h0.kp m7
    have d7:=d5.kp m7
    refine ag (ab (af (aa (ae MI MI ?_))))
    have hs47:=gg.size
    have hl2:∀l',some t=some l'→l'.length≤549755813888:=fun l' e=>by
     cases e
     have h1:=(fV hN).1
     have:=hl1 _ rfl
     rw[h1,List.length_append] at this
     omega
    refine am iI MI MI ((qO (st:=some t) rr hl2 hM)) ?_
    rintro v47 w47 ⟨g47,v1,rfl,h1,rs,f1⟩
    have m47:=ep.kp rr g47
    have kk:=kk.other g47 hne
    have k7:=k7.other g47 hne4
    have gg:=gg.trans g47
    have rr:=rs
    have n7:=n7.kp m47
    have d7:=d7.kp m47
    refine ae MI MI (ao MI MI (bj) (ao MI MI bk (ah MI MI (aq (o:=2) Mb MI (by kernel_rfl) MI) ?_)))
    obtain⟨w8,hs8,q8,k8⟩:=k7.st1 2 f8 h1.isS (by simp)
    refine ar MI MI (hs8) ?_
    have m8:=k7.kpR n7.isS d7.isS q8
    have kk:=kk.other q8 hne24
    have rr:=ep.off rr m8 q8 hne4'
    have gg:=fh gg q8 hw4
    have n8:=n7.kp m8
    have d8:=h1.kp m8
    obtain⟨A9,n9,c9,kr,br⟩:=id rr
    refine ag (ab (af (af (aa (ae MI MI (ax MI MI (ah MI MI (aq (o:=1) Mr MI (by kernel_rfl) MI) ?_)))))))
    refine ak MI MI (ai Mi MI (kr.cell (i:=1) MI)) (ae MI MI (aj MI (ak MI MI (k8.ldR) (aj MI ?_))))
    have hml:m.length≤137438953472:=by
     have:=hl1 _ rfl
     rw[(fV hN).1,List.length_append,jf,List.length_append,eJ] at this
     omega
    have hml':m'.length≤137438953472:=by
     have:=hl2 _ rfl
     rw[(fV hM).1,List.length_append,jf,List.length_append,eJ] at this
     omega
    refine am uh MI MI ((by have:=oC (b:=s) (di.mk n8 d8) hml hml';rw[hV] at this;exact this)) ?_
    rintro v57 w57 ⟨x57,rfl⟩
    have rr:=cn.ext rr x57
    have kk:=kk.ext x57
    have gg:=gg.trans (dH x57)
    refine aj MI (bt MI MI bu (aD MI MI MI (ag (ab (cq MI (aA (ab (af (aa (ak MI MI ((k8.ext x57).ldR) ?_))))))))))
    obtain⟨p,q,w3,hp,hs3,q3,k3,n3,d3⟩:=kk.stR ⟨_,_,_,rfl⟩ ⟨_,_,_,rfl⟩ ((di.mk n8 d8).ext x57)
    refine ar MI MI (hs3) (ac MI MI (ag (ab (aw ?_))))
    refine cu MI MI MI k3 Mb MI de ?_
    exact⟨_,rfl,fh gg q3 l2,by
     rw[hR]
     obtain⟨ec,ed⟩:=vM hp
     exact⟨p,q,rfl,n3,d3,ep.off rr (kk.kpR ⟨_,_,_,rfl⟩ ⟨_,_,_,rfl⟩ q3) q3 hne',ec▸(fun k hk=>Nat.le_trans hs41 (f0 k hk)),ed▸(fun k hk=>Nat.le_trans hs47 (f1 k hk))⟩⟩
   ·have hR:(some (c::l)).bind i7=none:=CM hN
    refine aa (ae MI MI (am iI MI MI ((tB (st:=some l) rr hl1 hN)) ?_))
    rintro v41 w41 ⟨g41,rfl,rs⟩
    have m41:=ep.kp rr g41
    have kk:=kk.other g41 hne
    have k5:=k5.other g41 hne4
    have gg:=gg.trans g41
    have rr:=rs
    have n5:=n5.kp m41
    have d5:=d5.kp m41
    have h0:=bm.nil w41
    refine ae MI MI (ao MI MI (bj) (ao MI MI bk (ah MI MI (aq (o:=1) Mb MI (by kernel_rfl) MI) ?_)))
    obtain⟨w7,hs7,q7,k7⟩:=k5.st1 1 f8 h0.isS (by simp)
    refine ar MI MI (hs7) ?_
    have m7:=k5.kpR n5.isS d5.isS q7
    have kk:=kk.other q7 hne24
    have rr:=ep.off rr m7 q7 hne4'
    have gg:=fh gg q7 hw4
    have n7:=h0.kp m7
    have d7:=d5.kp m7
    refine ag (ab (af (aa (ae rfl rfl (am iI rfl rfl ((tB (st:=none) rr (fun _ e=>by cases e) rfl)) ?_)))))
    rintro v47 w47 ⟨g47,rfl,rs⟩
    have m47:=ep.kp rr g47
    have kk:=kk.other g47 hne
    have k7:=k7.other g47 hne4
    have gg:=gg.trans g47
    have rr:=rs
    have n7:=n7.kp m47
    have d7:=d7.kp m47
    have h1:=bm.nil w47
    refine ae MI MI (ao MI MI (bj) (ao MI MI bk (ah MI MI (aq (o:=2) Mb MI (by kernel_rfl) MI) ?_)))
    obtain⟨w8,hs8,q8,k8⟩:=k7.st1 2 f8 h1.isS (by simp)
    refine ar MI MI (hs8) ?_
    have m8:=k7.kpR n7.isS d7.isS q8
    have kk:=kk.other q8 hne24
    have rr:=ep.off rr m8 q8 hne4'
    have gg:=fh gg q8 hw4
    have n8:=n7.kp m8
    have d8:=h1.kp m8
    obtain⟨A9,n9,c9,kr,br⟩:=id rr
    refine ag (ab (af (af (aa (ae MI MI (ax MI MI (ah MI MI (aq (o:=1) Mr MI (by kernel_rfl) MI) ?_)))))))
    refine ak MI MI (ai Mi MI (kr.cell (i:=1) MI)) (ae MI MI (an MI MI MI (an MI MI MI (an MI MI MI (ap MI MI MI ?_)))))
    refine ag (ab (bh MI (af (aa ?_))))
    refine bz (vs:=[]) MI MI eV ?_
    refine ae MI MI (am dT MI MI (dU rr) ?_)
    rintro v62 w62 ⟨rfl,rs,g62⟩
    have m62:=ep.kp rr g62
    have gg:=gg.trans g62
    have kk:=kk.other g62 hne
    have rr:=rs
    obtain⟨p,q,w3,hp,hs3,q3,k3,n3,d3⟩:=kk.stR ⟨_,_,_,rfl⟩ ⟨_,_,_,rfl⟩ (di.mk (b:=false) (bm.nil _) (bm.nil _))
    refine ar MI MI (hs3) (ac MI MI (ag (ab (aw (ay ?_)))))
    refine cu MI MI MI k3 Mb MI de ?_
    exact⟨_,rfl,fh gg q3 l2,by rw[hR];exact⟨_,rfl,⟨p,q,rfl,n3,d3⟩,ep.off rr (kk.kpR ⟨_,_,_,rfl⟩ ⟨_,_,_,rfl⟩ q3) q3 hne'⟩⟩
   ·have hR:(some (c::l)).bind i7=none:=by
     show i7 (c::l)=none
     rw[tz hc hN,←hs,hM];rfl
    refine aa (ae MI MI (am iI MI MI ((tC (st:=some l) rr hl1 hN)) ?_))
    rintro v41 w41 ⟨g41,v0,rfl,h0,rs⟩
    have m41:=ep.kp rr g41
    have kk:=kk.other g41 hne
    have k5:=k5.other g41 hne4
    have gg:=gg.trans g41
    have rr:=rs
    have n5:=n5.kp m41
    have d5:=d5.kp m41
    refine ae MI MI (ao MI MI (bj) (ao MI MI bk (ah MI MI (aq (o:=1) Mb MI (by kernel_rfl) MI) ?_)))
    obtain⟨w7,hs7,q7,k7⟩:=k5.st1 1 f8 h0.isS (by simp)
    refine ar MI MI (hs7) ?_
    have m7:=k5.kpR n5.isS d5.isS q7
    have kk:=kk.other q7 hne24
    have rr:=ep.off rr m7 q7 hne4'
    have gg:=fh gg q7 hw4
    have n7:=h0.kp m7
    have d7:=d5.kp m7
    refine ag (ab (af (aa (ae MI MI ?_))))
    have hl2:∀l',some t=some l'→l'.length≤549755813888:=fun l' e=>by
     cases e
     have h1:=(fV hN).1
     have:=hl1 _ rfl
     rw[h1,List.length_append] at this
     omega
    refine am iI MI MI ((tB (st:=some t) rr hl2 hM)) ?_
    rintro v47 w47 ⟨g47,rfl,rs⟩
    have m47:=ep.kp rr g47
    have kk:=kk.other g47 hne
    have k7:=k7.other g47 hne4
    have gg:=gg.trans g47
    have rr:=rs
    have n7:=n7.kp m47
    have d7:=d7.kp m47
    have h1:=bm.nil w47
    refine ae MI MI (ao MI MI (bj) (ao MI MI bk (ah MI MI (aq (o:=2) Mb MI (by kernel_rfl) MI) ?_)))
    obtain⟨w8,hs8,q8,k8⟩:=k7.st1 2 f8 h1.isS (by simp)
    refine ar MI MI (hs8) ?_
    have m8:=k7.kpR n7.isS d7.isS q8
    have kk:=kk.other q8 hne24
    have rr:=ep.off rr m8 q8 hne4'
    have gg:=fh gg q8 hw4
    have n8:=n7.kp m8
    have d8:=h1.kp m8
    obtain⟨A9,n9,c9,kr,br⟩:=id rr
    refine ag (ab (af (af (aa (ae MI MI (ax MI MI (ah MI MI (aq (o:=1) Mr MI (by kernel_rfl) MI) ?_)))))))
    refine ak MI MI (ai Mi MI (kr.cell (i:=1) MI)) (ae MI MI (an MI MI MI (an MI MI MI (an MI MI MI (ap MI MI MI ?_)))))
    refine ag (ab (bh MI (af (aa ?_))))
    refine bz (vs:=[]) MI MI eV ?_
    refine ae MI MI (am dT MI MI (dU rr) ?_)
    rintro v62 w62 ⟨rfl,rs,g62⟩
    have m62:=ep.kp rr g62
    have gg:=gg.trans g62
    have kk:=kk.other g62 hne
    have rr:=rs
    obtain⟨p,q,w3,hp,hs3,q3,k3,n3,d3⟩:=kk.stR ⟨_,_,_,rfl⟩ ⟨_,_,_,rfl⟩ (di.mk (b:=false) (bm.nil _) (bm.nil _))
    refine ar MI MI (hs3) (ac MI MI (ag (ab (aw (ay ?_)))))
    refine cu MI MI MI k3 Mb MI de ?_
    exact⟨_,rfl,fh gg q3 l2,by rw[hR];exact⟨_,rfl,⟨p,q,rfl,n3,d3⟩,ep.off rr (kk.kpR ⟨_,_,_,rfl⟩ ⟨_,_,_,rfl⟩ q3) q3 hne'⟩⟩
end Go.Rl
namespace Go.Rl
open Go.RowKit Go.Proofs
theorem Jb {l a t:List UInt8} (h:p9 l=some (a,t)):l=jY a++t:=by
 unfold p9 at h
 cases hu:eK l with
 |none=>rw[hu] at h;cases h
 |some p=>
  obtain⟨n,u⟩:=p
  rw[hu] at h
  have h:(if n≤u.length then some (u.take n,u.drop n) else none)=some (a,t):=h
  split at h
  ·simp only[Option.some.injEq,Prod.mk.injEq] at h
   have e:=(gd hu).1
   have hl:(u.take n).length=n:=by rw[List.length_take];omega
   rw[e,←h.1,←h.2,jY,hl,List.append_assoc,List.take_append_drop]
  ·cases h
theorem Eh {l t:List UInt8} {b:Bool} {n m:List UInt32} (h:i7 l=some ((b,n,m),t)):l=oc b n m++t∧rv b n m=true∧4*(n.length+m.length)≤l.length:=by
 cases l with
 |nil=>cases h
 |cons c l=>
  by_cases hc:1<c.toNat
  ·rw[zG hc] at h;cases h
  ·cases hN:rW l with
   |none=>rw[CM hN] at h;cases h
   |some p=>
    obtain⟨n',u⟩:=p
    rw[tz hc hN] at h
    cases hM:rW u with
    |none=>rw[hM] at h;cases h
    |some q=>
     obtain⟨m',u'⟩:=q
     rw[hM] at h
     have h:(if rv (decide (c.toNat=1)) n' m'=true then some ((decide (c.toNat=1),n',m'),u') else none)=some ((b,n,m),t):=h
     split at h
     ·rename_i hv
      simp only[Option.some.injEq,Prod.mk.injEq] at h
      obtain⟨⟨rfl,rfl,rfl⟩,rfl⟩:=h
      have hcs:c=zC (decide (c.toNat=1)):=by
       by_cases h1:c.toNat=1
       ·rw[decide_eq_true h1,vN.1 h1];rfl
       ·rw[decide_eq_false h1]
        exact UInt8.toNat_inj.1 (show c.toNat=(0:UInt8).toNat by rw[show(0:UInt8).toNat=0 from rfl];omega)
      have e:c::l=oc (decide (c.toNat=1)) n' m'++u':=by
       rw[oc,←hcs,(fV hN).1,(fV hM).1]
       simp
      refine⟨e,hv,?_⟩
      rw[e]
      simp only[oc,jf,List.length_append,eJ]
      omega
     ·cases h
theorem Hp {b:Bool} {n m:List UInt32} (h:rv b n m=true):lb (val n)=n∧lb (val m)=m:=by
 obtain⟨_,h2,h3⟩:=of_decide_eq_true h
 constructor
 ·obtain⟨x,hx⟩:∃x,x=val n/Nat.gcd (val n) (val (ud m)):=⟨_,rfl⟩
  rw[←hx] at h2
  rw[h2,bU]
 ·unfold yf at h3
  split at h3
  ·rw[h3];rfl
  ·obtain⟨x,hx⟩:∃x,x=val (ud m)/Nat.gcd (val n) (val (ud m)):=⟨_,rfl⟩
   rw[←hx] at h3
   rw[h3,bU]
theorem Hq {b:Bool} {n m:List UInt32} (h:rv b n m=true) (hn:n.length<18446744073709551616) (hm:m.length<18446744073709551616) (t:List UInt8):i7 (oc b n m++t)=some ((b,n,m),t):=by
 have hs:¬1<(zC b).toNat:=by cases b<;>decide
 have hd:decide ((zC b).toNat=1)=b:=by cases b<;>decide
 have e:oc b n m++t=zC b::(jf n++(jf m++t)):=by simp[oc]
 rw[e,tz hs (Bn hn (Hp h).1 _),hd,Bn hm (Hp h).2]
 exact if_pos h
def Few (st:Option (List UInt8)):Prop:=∀l,st=some l→l.length≤549755813888
section
variable {w:World} {g:Nat} {st:Option (List UInt8)}
theorem Ka (hr:cO g st w) (h:st.bind eK=none):Calls Tryz.prog 89 #[.pointer (some ⟨g,0,none⟩)] w (bE fun r w'=>w.grownBy w' (some g)∧r=.tuple #[bF 0,I 5]∧cO g none w'):=by
 have:=pu hr
 rw[h] at this
 exact this
theorem Hr {n:Nat} {t:List UInt8} (hr:cO g st w) (h:st.bind eK=some (n,t)):Calls Tryz.prog 89 #[.pointer (some ⟨g,0,none⟩)] w (bE fun r w'=>w.grownBy w' (some g)∧r=.tuple #[bF (UInt64.ofNat n),I 0]∧cO g (some t) w'):=by
 have:=pu hr
 rw[h] at this
 exact this
theorem LL (hr:cO g st w) (h:st.bind eK=none):Calls Tryz.prog 158 #[.pointer (some ⟨g,0,none⟩)] w (bE fun r w'=>w.grownBy w' (some g)∧r=.tuple #[I 0,I 5]∧cO g none w'):=by
 have:=yl hr
 rw[h] at this
 exact this
theorem LM {n:Nat} {t:List UInt8} (hr:cO g st w) (h:st.bind eK=some (n,t)):Calls Tryz.prog 158 #[.pointer (some ⟨g,0,none⟩)] w (bE fun r w'=>w.grownBy w' (some g)∧r=.tuple #[I (uz n),I 0]∧cO g (some t) w'):=by
 have:=yl hr
 rw[h] at this
 exact this
end
end Go.Rl
namespace Go.Rl
def i0 (x:UInt32) (n:Nat):UInt32:=(x>>>UInt32.ofNat n)|||(x<<<UInt32.ofNat (32-n))
def kc:List UInt32:=[0x428a2f98,0x71374491,0xb5c0fbcf,0xe9b5dba5,0x3956c25b,0x59f111f1,0x923f82a4,0xab1c5ed5,0xd807aa98,0x12835b01,0x243185be,0x550c7dc3,0x72be5d74,0x80deb1fe,0x9bdc06a7,0xc19bf174,0xe49b69c1,0xefbe4786,0x0fc19dc6,0x240ca1cc,0x2de92c6f,0x4a7484aa,0x5cb0a9dc,0x76f988da,0x983e5152,0xa831c66d,0xb00327c8,0xbf597fc7,0xc6e00bf3,0xd5a79147,0x06ca6351,0x14292967,0x27b70a85,0x2e1b2138,0x4d2c6dfc,0x53380d13,0x650a7354,0x766a0abb,0x81c2c92e,0x92722c85,0xa2bfe8a1,0xa81a664b,0xc24b8b70,0xc76c51a3,0xd192e819,0xd6990624,0xf40e3585,0x106aa070,0x19a4c116,0x1e376c08,0x2748774c,0x34b0bcb5,0x391c0cb3,0x4ed8aa4a,0x5b9cca4f,0x682e6ff3,0x748f82ee,0x78a5636f,0x84c87814,0x8cc70208,0x90befffa,0xa4506ceb,0xbef9a3f7,0xc67178f2]
def iv:List UInt32:=[0x6a09e667,0xbb67ae85,0x3c6ef372,0xa54ff53a,0x510e527f,0x9b05688c,0x1f83d9ab,0x5be0cd19]
def rZ (b:List UInt8) (t:Nat):UInt32:=((((b.getD (4*t) 0).toUInt32<<<UInt32.ofNat 24)|||((b.getD (4*t+1) 0).toUInt32<<<UInt32.ofNat 16))|||((b.getD (4*t+2) 0).toUInt32<<<UInt32.ofNat 8))|||(b.getD (4*t+3) 0).toUInt32
def oH (l:List UInt32):UInt32:=
 let t:=l.length
 let x:=l.getD (t-15) 0
 let y:=l.getD (t-2) 0
 l.getD (t-16) 0+(i0 x 7^^^i0 x 18^^^x>>>UInt32.ofNat 3)+l.getD (t-7) 0+(i0 y 17^^^i0 y 19^^^y>>>UInt32.ofNat 10)
def jy (b:List UInt8) (k:Nat):List UInt32:=(List.range k).map (rZ b)
def bI (b:List UInt8):Nat→List UInt32
 |0=>jy b 16
 |k+1=>bI b k++[oH (bI b k)]
theorem mh (b:List UInt8):∀k,(bI b k).length=16+k
 |0=>by simp[bI,jy]
 |k+1=>by simp[bI,mh b k];omega
def t1 (s:List UInt32) (k w:UInt32):UInt32:=
 let e:=s.getD 4 0
 s.getD 7 0+(i0 e 6^^^i0 e 11^^^i0 e 25)+(e&&&s.getD 5 0^^^ ~~~e&&&s.getD 6 0)+k+w
def t2 (s:List UInt32):UInt32:=
 let a:=s.getD 0 0
 (i0 a 2^^^i0 a 13^^^i0 a 22)+(a&&&s.getD 1 0^^^a&&&s.getD 2 0^^^s.getD 1 0&&&s.getD 2 0)
def rnd (s:List UInt32) (k w:UInt32):List UInt32:=[t1 s k w+t2 s,s.getD 0 0,s.getD 1 0,s.getD 2 0,s.getD 3 0+t1 s k w,s.getD 4 0,s.getD 5 0,s.getD 6 0]
def ek (b:List UInt8) (s:List UInt32):Nat→List UInt32
 |0=>s
 |i+1=>rnd (ek b s i) (kc.getD i 0) ((bI b 48).getD i 0)
theorem il (b:List UInt8) (s:List UInt32) (hs:s.length=8):∀i,(ek b s i).length=8
 |0=>hs
 |_+1=>rfl
def xA (s:List UInt32) (b:List UInt8):List UInt32:=List.zipWith (· + ·) s (ek b s 64)
theorem Bq (s:List UInt32) (b:List UInt8) (hs:s.length=8):(xA s b).length=8:=by
 simp[xA,hs,il b s hs]
def yp (m:List UInt8):Nat→List UInt32
 |0=>iv
 |k+1=>xA (yp m k) ((m.drop (64*k)).take 64)
theorem pD (m:List UInt8):∀k,(yp m k).length=8
 |0=>rfl
 |k+1=>Bq _ _ (pD m k)
theorem qQ (m x:List UInt8):∀k,64*k≤m.length→yp (m++x) k=yp m k
 |0,_=>rfl
 |k+1,h=>by
  have h0:64*k≤m.length:=by omega
  have h1:64≤(m.drop (64*k)).length:=by simp;omega
  rw[yp,yp,qQ m x k h0,List.drop_append_of_le_length h0,List.take_append_of_le_length h1]
def sh (m:List UInt8):List UInt32:=yp m (m.length/64)
theorem Hs (m:List UInt8):(sh m).length=8:=pD m _
theorem zI (p t:List UInt8) (hp:p.length%64=0) (ht:t.length<64):sh (p++t)=sh p:=by
 have:(p++t).length/64=p.length/64:=by simp only[List.length_append];omega
 unfold sh
 rw[this,qQ p t _ (by omega)]
theorem Ht (p b:List UInt8) (hp:p.length%64=0) (hb:b.length=64):sh (p++b)=xA (sh p) b:=by
 have h1:(p++b).length/64=p.length/64+1:=by simp only[List.length_append];omega
 unfold sh
 rw[h1,yp,qQ p b _ (by omega)]
 have h2:64*(p.length/64)=p.length:=by omega
 rw[h2,List.drop_left,←hb,List.take_length]
def xx (x:UInt32):List UInt8:=[(x>>>UInt32.ofNat 24).toUInt8,(x>>>UInt32.ofNat 16).toUInt8,(x>>>UInt32.ofNat 8).toUInt8,x.toUInt8]
def Br (n:UInt64):List UInt8:=(List.range 8).map fun i=>(n>>>UInt64.ofNat (56-8*i)).toUInt8
def im (n:Nat):Nat:=(119-n%64)%64
def fe (m:List UInt8):List UInt8:=m++[128]++List.replicate (im m.length) 0++Br (UInt64.ofNat m.length*8)
theorem CQ (m:List UInt8):(fe m).length%64=0:=by
 simp only[fe,im,Br,List.length_append,List.length_cons,List.length_nil,List.length_replicate,List.length_map,List.length_range];omega
def kT (m:List UInt8):List UInt8:=(sh (fe m)).flatMap xx
end Go.Rl
namespace Go.Rl
open Go.RowKit
abbrev fi:=Bool×List UInt32×List UInt32
def qk (n:Int):Dt:=.int .i64 n
def iY (q:fi):Dt:=.st [.bool q.1,nf q.2.1,nf q.2.2]
structure vS where
 kd:Int
 fr:Int
 ou:Int
 kh:Int
 kw:Int
 sr:Int
 pd:Int
 ws:List fi
 bs:List fi
structure Hu where
 inp:List Int
 lays:List vS
theorem vS.eq_iff {a b:vS}:a=b↔a.kd=b.kd∧a.fr=b.fr∧a.ou=b.ou∧a.kh=b.kh∧a.kw=b.kw∧a.sr=b.sr∧a.pd=b.pd∧a.ws=b.ws∧a.bs=b.bs:=by
 constructor
 ·rintro rfl;exact⟨rfl,rfl,rfl,rfl,rfl,rfl,rfl,rfl,rfl⟩
 ·rintro⟨h1,h2,h3,h4,h5,h6,h7,h8,h9⟩
  cases a;cases b;simp_all
theorem Hu.eq_iff {a b:Hu}:a=b↔a.inp=b.inp∧a.lays=b.lays:=by
 constructor
 ·rintro rfl;exact⟨rfl,rfl⟩
 ·rintro⟨h1,h2⟩
  cases a;cases b;simp_all
instance:DecidableEq vS:=fun _ _=>decidable_of_iff _ vS.eq_iff.symm
instance:DecidableEq Hu:=fun _ _=>decidable_of_iff _ Hu.eq_iff.symm
def Kb (l:List Int):Dt:=.sl (l.map qk)
def lB (n:Int):Prop:= -9223372036854775808≤n∧n≤9223372036854775807
def dn (n:Int):List UInt8:=uv (Cp n)
def gj (q:fi):List UInt8:=oc q.1 q.2.1 q.2.2
def jq (l:List UInt8):Option (Int×List UInt8):=(eK l).map fun p=>(uz p.1,p.2)
def bQ {α:Type} (f:List UInt8→Option (α×List UInt8)):Nat→List UInt8→Option (List α×List UInt8)
 |0,l=>some ([],l)
 |n+1,l=>(f l).bind fun p=>(bQ f n p.2).map fun q=>(p.1::q.1,q.2)
def dk {α:Type} (f:List UInt8→Option (α×List UInt8)) (l:List UInt8):Option (List α×List UInt8):=(eK l).bind fun p=>bQ f p.1 p.2
def LN:List UInt8→Option (List fi×List UInt8):=dk i7
def rdL (l:List UInt8):Option (vS×List UInt8):=
 (jq l).bind fun a=>(jq a.2).bind fun b=>(jq b.2).bind fun c=>(jq c.2).bind fun d=>(jq d.2).bind fun e=>(jq e.2).bind fun f=>(jq f.2).bind fun g=>
   (LN g.2).bind fun x=>(LN x.2).bind fun y=>some (⟨a.1,b.1,c.1,d.1,e.1,f.1,g.1,x.1,y.1⟩,y.2)
def rdM (l:List UInt8):Option (Hu×List UInt8):=(dk jq l).bind fun a=>(dk rdL a.2).bind fun b=>some (⟨a.1,b.1⟩,b.2)
theorem nu {n:Int} (h:lB n) (t:List UInt8):jq (dn n++t)=some (n,t):=by
 unfold jq dn
 rw[qr (Cq h.1 h.2)]
 simp[KB]
theorem vT {α:Type} {f:List UInt8→Option (α×List UInt8)} {e:α→List UInt8}:∀(l:List α) (t:List UInt8),(∀x∈l,∀t,f (e x++t)=some (x,t))→bQ f l.length (l.flatMap e++t)=some (l,t)
 |[],t,_=>rfl
 |x::l,t,h=>by
  simp only[List.flatMap_cons,List.append_assoc,List.length_cons,bQ]
  rw[h x (by simp)]
  simp only[Option.bind_some]
  rw[vT l t fun y hy=>h y (by simp[hy])]
  rfl
theorem qS {α:Type} {f:List UInt8→Option (α×List UInt8)} {e:α→List UInt8} {l:List α} (hl:l.length<18446744073709551616) (h:∀x∈l,∀t,f (e x++t)=some (x,t)) (t:List UInt8):dk f (uv l.length++l.flatMap e++t)=some (l,t):=by
 unfold dk
 rw[List.append_assoc,qr hl]
 exact vT l t h
def LO (q:fi):Prop:=rv q.1 q.2.1 q.2.2=true∧q.2.1.length<18446744073709551616∧q.2.2.length<18446744073709551616
theorem zJ {q:fi} (h:LO q) (t:List UInt8):i7 (gj q++t)=some (q,t):=Hq h.1 h.2.1 h.2.2 t
end Go.Rl
namespace Go.Rl
open Go.RowKit
section
variable {w:World} {cs:List Value}
theorem Bs (n:Int):(qk n).size=1:=rfl
theorem Jc {n:Int} (h:Rp w (qk n) cs):cs=[I n]:=by simp only[qk,Rp] at h;exact h
theorem mi {q:fi} (h:Rp w (iY q) cs):∃x y,cs=[B q.1,x,y]∧bm q.2.1 x w∧bm q.2.2 y w:=by
 simp only[iY,Rp,bD] at h
 obtain⟨_,_,rfl,rfl,_,_,rfl,h1,_,_,rfl,h2,rfl⟩:=h
 obtain⟨x,rfl,hx,_⟩:=Rp.isSlice h1
 obtain⟨y,rfl,hy,_⟩:=Rp.isSlice h2
 exact⟨x,y,rfl,Rp.wds.1 hx,Rp.wds.1 hy⟩
end
end Go.Rl
namespace Go.Rl
open Go.RowKit
section
variable {α β:Type} {f:List UInt8→Option (α×List UInt8)} {st s1 s2 so:Option (List UInt8)} {a:α}
def fI (f:List UInt8→Option (α×List UInt8)) (st:Option (List UInt8)) (a:α) (s1:Option (List UInt8)):Prop:=st.bind f=s1.map fun t=>(a,t)
theorem fI.some {t:List UInt8} (h:fI f st a (some t)):∃l,st=.some l∧f l=.some (a,t):=by
 cases st with
 |none=>cases h
 |some l=>exact⟨l,rfl,h⟩
def Le (f:List UInt8→Option (α×List UInt8)):Prop:=∀l a t,f l=some (a,t)→t.length≤l.length
def Lt (f:List UInt8→Option (α×List UInt8)):Prop:=∀l a t,f l=some (a,t)→t.length+1≤l.length
theorem Lt.le (h:Lt f):Le f:=fun l a t e=>by have:=h l a t e;omega
def tD (n:Nat) (st:Option (List UInt8)):Prop:=∀l,st=some l→l.length≤n
theorem fI.atM {n:Nat} (h:fI f st a s1) (hf:Le f) (hn:tD n st):tD n s1:=fun t e=>by
 subst e
 obtain⟨l,h1,h2⟩:=h.some
 exact Nat.le_trans (hf l a t h2) (hn l h1)
theorem qT {N:Nat}:so.bind (bQ f N)=so.bind (fun l=>(bQ f N l).map fun p=>([]++p.1,p.2)):=by
 cases so with
 |none=>rfl
 |some l=>simp
theorem pE {X:Option (List α×List UInt8)} {k:Nat} {done:List α} (hR:X=so.bind (fun l=>(bQ f (k+1) l).map fun p=>(done++p.1,p.2))) (hq:fI f so a s2):
 X=s2.bind (fun l=>(bQ f k l).map fun p=>((done++[a])++p.1,p.2)):=by
 rw[hR]
 cases so with
 |none=>
  cases s2 with
  |none=>rfl
  |some t=>cases hq
 |some l=>
  have hq:f l=s2.map fun t=>(a,t):=hq
  show(bQ f (k+1) l).map _=_
  simp only[bQ]
  rw[hq]
  cases s2 with
  |none=>rfl
  |some t=>
   simp only[Option.map_some,Option.bind_some,Option.map_map]
   cases bQ f k t<;>simp
theorem FG {X:Option (List α×List UInt8)} {done:List α} (hR:X=so.bind (fun l=>(bQ f 0 l).map fun p=>(done++p.1,p.2))):X=so.map fun t=>(done,t):=by
 rw[hR]
 cases so with
 |none=>rfl
 |some l=>simp[bQ]
theorem yq (hf:Le f):∀(n:Nat) (l:List UInt8) (a:List α) (t:List UInt8),bQ f n l=some (a,t)→t.length≤l.length
 |0,l,a,t,h=>by simp only[bQ,Option.some.injEq,Prod.mk.injEq] at h;rw[←h.2];exact Nat.le_refl _
 |n+1,l,a,t,h=>by
  simp only[bQ] at h
  obtain⟨p,h1,h2⟩:=Option.bind_eq_some_iff.1 h
  obtain⟨q,h3,h4⟩:=Option.map_eq_some_iff.1 h2
  simp only[Prod.mk.injEq] at h4
  have:=yq hf n p.2 q.1 q.2 h3
  have:=hf l p.1 p.2 h1
  rw[←h4.2]
  omega
theorem lC:Lt eK:=fun l a t h=>by
 have h1:=(gd h).1
 have h2:=qq a
 rw[h1,List.length_append]
 omega
theorem eO:Lt jq:=fun l a t h=>by
 unfold jq at h
 obtain⟨p,h1,h2⟩:=Option.map_eq_some_iff.1 h
 have:=lC l p.1 p.2 h1
 simp only[Prod.mk.injEq] at h2
 rw[←h2.2]
 exact this
theorem tE:Lt i7:=fun l q t h=>by
 obtain⟨b,n,m⟩:=q
 have:=(Eh h).1
 rw[this,List.length_append]
 have h1:1≤(oc b n m).length:=by simp only[oc,List.length_append,List.length_cons,List.length_nil];omega
 omega
theorem zK {st:Option (List UInt8)} {n:Int} {t:List UInt8} (h:fI jq st n (some t)):lB n:=by
 obtain⟨l,_,h⟩:=h.some
 unfold jq at h
 obtain⟨p,h1,h2⟩:=Option.map_eq_some_iff.1 h
 have:=(gd h1).2
 simp only[Prod.mk.injEq] at h2
 rw[←h2.1]
 unfold uz lB
 split<;>omega
end
end Go.Rl
namespace Go.Rl
open Go.RowKit
structure cb where
 kd:Int
 ix:Int
 lo:Int
 hi:Int
 co:fi
structure dI where
 un:Int
 up:Bool
 va:fi
 pf:List cb
structure bS where
 kd:Int
 ix:Int
 at_:fi
inductive aW where
 |mk (lems:List dI) (split:bS) (kids:List aW) (empty:Bool) (pf:List cb)
def KN:fi:=(false,[],[])
def li:bS:=⟨0,0,KN⟩
def aW.lems:aW→List dI|.mk l _ _ _ _=>l
def aW.split:aW→bS|.mk _ s _ _ _=>s
def aW.kids:aW→List aW|.mk _ _ k _ _=>k
def aW.empty:aW→Bool|.mk _ _ _ e _=>e
def aW.pf:aW→List cb|.mk _ _ _ _ p=>p
def bN (m:cb):Dt:=.st [.st [qk m.kd,qk m.ix,qk m.lo,qk m.hi],iY m.co]
def gS (l:List cb):Dt:=.sl (l.map bN)
def cY (l:dI):Dt:=.st [qk l.un,.bool l.up,iY l.va,gS l.pf]
def dy (d:bS):Dt:=.st [qk d.kd,qk d.ix,iY d.at_]
mutual
def bG:aW→Dt
 |.mk lems sp kids em pf=>.st [.sl (lems.map cY),dy sp,.sl (zL kids),.bool em,gS pf]
def zL:List aW→List Dt
 |[]=>[]
 |n::l=>bG n::zL l
end
theorem kU:∀l:List aW,zL l=l.map bG
 |[]=>rfl
 |n::l=>by simp only[zL,List.map_cons,kU l]
def fJ (d:bS):List UInt8:=dn d.kd++dn d.ix++gj d.at_
def fg (m:cb):List UInt8:=dn m.kd++dn m.ix++dn m.lo++dn m.hi++gj m.co
def iZ (l:List cb):List UInt8:=uv l.length++l.flatMap fg
def vU (b:Bool):List UInt8:=if b=true then[1] else[0]
def dY (l:dI):List UInt8:=dn l.un++vU l.up++gj l.va++iZ l.pf
def ey (l:List dI):List UInt8:=uv l.length++l.flatMap dY
mutual
def dE:aW→List UInt8
 |.mk lems _ [] em pf=>vU em++ey lems++iZ pf
 |.mk lems sp (k::ks) _ _=>[2]++ey lems++fJ sp++vV (k::ks)
def vV:List aW→List UInt8
 |[]=>[]
 |n::l=>dE n++vV l
end
theorem vW:∀l:List aW,vV l=l.flatMap dE
 |[]=>rfl
 |n::l=>by simp only[vV,List.flatMap_cons,vW l]
def jP (most:Nat) (l:List UInt8):Option (Nat×List UInt8):=(eK l).bind fun p=>if p.1≤most then some p else none
def oa (l:List UInt8):Option (bS×List UInt8):=(jq l).bind fun a=>(jq a.2).bind fun b=>(i7 b.2).bind fun c=>some (⟨a.1,b.1,c.1⟩,c.2)
def qV (l:List UInt8):Option (cb×List UInt8):=(jq l).bind fun a=>(jq a.2).bind fun b=>(jq b.2).bind fun c=>(jq c.2).bind fun d=>(i7 d.2).bind fun e=>some (⟨a.1,b.1,c.1,d.1,e.1⟩,e.2)
def Bt:List UInt8→Option (List cb×List UInt8):=dk qV
def bT (n:Nat):Bool:=decide (n=1)
def nw (l:List UInt8):Option (dI×List UInt8):=(jq l).bind fun a=>(jP 1 a.2).bind fun b=>(i7 b.2).bind fun c=>(Bt c.2).bind fun d=>some (⟨a.1,bT b.1,c.1,d.1⟩,d.2)
def i8:List UInt8→Option (List dI×List UInt8):=dk nw
def qa:Nat→List UInt8→Option (aW×List UInt8)
 |0,_=>none
 |n+1,l=>(jP 2 l).bind fun a=>(i8 a.2).bind fun b=>
   if a.1<2 then(Bt b.2).bind fun c=>some (.mk b.1 li [] (decide (a.1=1)) c.1,c.2)
   else(oa b.2).bind fun c=>(qa n c.2).bind fun d=>(qa n d.2).bind fun e=>some (.mk b.1 c.1 [d.1,e.1] false [],e.2)
def gT (l:List UInt8):Option (aW×List UInt8):=qa l.length l
section
variable {α β:Type}
theorem Le.bind {f:List UInt8→Option (α×List UInt8)} {g:α×List UInt8→Option (β×List UInt8)} (hf:Le f) (hg:∀p b t,g p=some (b,t)→t.length≤p.2.length):Le (fun l=>(f l).bind g):=fun l b t h=>by
 obtain⟨p,h1,h2⟩:=Option.bind_eq_some_iff.1 h
 exact Nat.le_trans (hg p b t h2) (hf l p.1 p.2 h1)
theorem Lt.bind {f:List UInt8→Option (α×List UInt8)} {g:α×List UInt8→Option (β×List UInt8)} (hf:Lt f) (hg:∀p b t,g p=some (b,t)→t.length≤p.2.length):Lt (fun l=>(f l).bind g):=fun l b t h=>by
 obtain⟨p,h1,h2⟩:=Option.bind_eq_some_iff.1 h
 have:=hg p b t h2
 have:=hf l p.1 p.2 h1
 omega
end
theorem gf {α β:Type} {f:List UInt8→Option (α×List UInt8)} (hf:Le f) {l:List UInt8} {g:α×List UInt8→Option (β×List UInt8)} {b:β} {t:List UInt8} (h:(f l).bind g=some (b,t)) (hg:∀p b t,g p=some (b,t)→t.length≤p.2.length):t.length≤l.length:=Le.bind hf hg l b t h
theorem si {β:Type} {b b':β} {t t':List UInt8} (h:some (b',t')=some (b,t)):t.length≤t'.length:=by
 simp only[Option.some.injEq,Prod.mk.injEq] at h
 rw[h.2]
 exact Nat.le_refl _
theorem qW (k:Nat):Lt (jP k):=fun l a t h=>by
 unfold jP at h
 obtain⟨p,h1,h2⟩:=Option.bind_eq_some_iff.1 h
 split at h2
 ·simp only[Option.some.injEq] at h2
  subst h2
  exact lC l _ _ h1
 ·cases h2
theorem nx:Lt oa:=Lt.bind eO fun _ _ _ h=>gf eO.le h fun _ _ _ h=>gf tE.le h fun _ _ _ h=>si h
theorem zM:Lt qV:=Lt.bind eO fun _ _ _ h=>gf eO.le h fun _ _ _ h=>gf eO.le h fun _ _ _ h=>gf eO.le h fun _ _ _ h=>gf tE.le h fun _ _ _ h=>si h
theorem tF {α:Type} {f:List UInt8→Option (α×List UInt8)} (hf:Le f):Lt (dk f):=fun l a t h=>by
 unfold dk at h
 obtain⟨p,h1,h2⟩:=Option.bind_eq_some_iff.1 h
 have:=yq hf p.1 p.2 a t h2
 have:=lC l p.1 p.2 h1
 omega
theorem Hv:Lt Bt:=tF zM.le
theorem zN:Lt nw:=Lt.bind eO fun _ _ _ h=>gf (qW 1).le h fun _ _ _ h=>gf tE.le h fun _ _ _ h=>gf Hv.le h fun _ _ _ h=>si h
theorem sj:Lt i8:=tF zN.le
theorem pG:∀n,Lt (qa n)
 |0=>fun l a t h=>by simp[qa] at h
 |n+1=>fun l a t h=>by
  refine(Lt.bind (qW 2) fun p b t h=>?_) l a t (show((jP 2 l).bind _)=_ from h)
  refine gf sj.le h fun q b t h=>?_
  split at h
  ·exact gf Hv.le h fun _ _ _ h=>si h
  ·exact gf nx.le h fun _ _ _ h=>gf (pG n).le h fun _ _ _ h=>gf (pG n).le h fun _ _ _ h=>si h
theorem pH:∀(n m:Nat) (l:List UInt8),l.length≤n→n≤m→qa m l=qa n l
 |0,0,_,_,_=>rfl
 |0,m+1,l,hl,_=>by
  have:l=[]:=List.eq_nil_of_length_eq_zero (by omega)
  subst this
  rfl
 |n+1,0,_,_,h=>by omega
 |n+1,m+1,l,hl,hm=>by
  simp only[qa]
  cases h1:jP 2 l with
  |none=>rfl
  |some a=>
   simp only[Option.bind_some]
   cases h2:i8 a.2 with
   |none=>rfl
   |some b=>
    simp only[Option.bind_some]
    split
    ·rfl
    ·cases h3:oa b.2 with
     |none=>rfl
     |some c=>
      simp only[Option.bind_some]
      have a1:=qW 2 l _ _ h1
      have a2:=sj _ _ _ h2
      have a3:=nx _ _ _ h3
      rw[pH n m c.2 (by omega) (by omega)]
      cases h4:qa n c.2 with
      |none=>rfl
      |some d=>
       simp only[Option.bind_some]
       have a4:=pG n _ _ _ h4
       rw[pH n m d.2 (by omega) (by omega)]
theorem Ei:Lt gT:=fun l a t h=>pG l.length l a t h
theorem pI (l:List UInt8):gT l=(jP 2 l).bind fun a=>(i8 a.2).bind fun b=>
 if a.1<2 then(Bt b.2).bind fun c=>some (.mk b.1 li [] (decide (a.1=1)) c.1,c.2)
 else(oa b.2).bind fun c=>(gT c.2).bind fun d=>(gT d.2).bind fun e=>some (.mk b.1 c.1 [d.1,e.1] false [],e.2):=by
 unfold gT
 cases l with
 |nil=>rfl
 |cons x l=>
  show qa (l.length+1) (x::l)=_
  simp only[qa]
  cases h1:jP 2 (x::l) with
  |none=>rfl
  |some a=>
   simp only[Option.bind_some]
   cases h2:i8 a.2 with
   |none=>rfl
   |some b=>
    simp only[Option.bind_some]
    split
    ·rfl
    ·cases h3:oa b.2 with
     |none=>rfl
     |some c=>
      simp only[Option.bind_some]
      have a1:=qW 2 _ _ _ h1
      have a2:=sj _ _ _ h2
      have a3:=nx _ _ _ h3
      simp only[List.length_cons] at a1
      rw[pH c.2.length l.length c.2 (Nat.le_refl _) (by omega)]
      cases h4:qa c.2.length c.2 with
      |none=>rfl
      |some d=>
       simp only[Option.bind_some]
       have a4:=pG _ _ _ _ h4
       rw[pH d.2.length l.length d.2 (Nat.le_refl _) (by omega)]
end Go.Rl
namespace Go.Rl
open Go.RowKit
theorem fI.bindE {α β:Type} {f:List UInt8→Option (α×List UInt8)} {st s1:Option (List UInt8)} {a:α} (h:fI f st a s1) (F:α×List UInt8→Option (β×List UInt8)):st.bind (fun l=>(f l).bind F)=s1.bind fun t=>F (a,t):=by
 cases st with
 |none=>
  cases s1 with
  |none=>rfl
  |some t=>cases h
 |some l=>
  have h:f l=s1.map fun t=>(a,t):=h
  show(f l).bind F=_
  rw[h]
  cases s1<;>rfl
theorem mj {β:Type} {s:Option (List UInt8)} {b:β}:(s.bind fun t=>some (b,t))=s.map fun t=>(b,t):=by cases s<;>rfl
section
variable {st s1 s2 s3 s4 s5:Option (List UInt8)}
theorem FH {a b:Int} {q:fi} (h1:fI jq st a s1) (h2:fI jq s1 b s2) (h3:fI i7 s2 q s3):fI oa st ⟨a,b,q⟩ s3:=by
 refine(h1.bindE _).trans ?_
 dsimp only
 refine(h2.bindE _).trans ?_
 dsimp only
 refine(h3.bindE _).trans ?_
 dsimp only
 exact mj
theorem vX {a b c d:Int} {q:fi} (h1:fI jq st a s1) (h2:fI jq s1 b s2) (h3:fI jq s2 c s3) (h4:fI jq s3 d s4) (h5:fI i7 s4 q s5):fI qV st ⟨a,b,c,d,q⟩ s5:=by
 refine(h1.bindE _).trans ?_
 dsimp only
 refine(h2.bindE _).trans ?_
 dsimp only
 refine(h3.bindE _).trans ?_
 dsimp only
 refine(h4.bindE _).trans ?_
 dsimp only
 refine(h5.bindE _).trans ?_
 dsimp only
 exact mj
theorem CR {a:Int} {n:Nat} {q:fi} {ps:List cb} (h1:fI jq st a s1) (h2:fI (jP 1) s1 n s2) (h3:fI i7 s2 q s3) (h4:fI Bt s3 ps s4):fI nw st ⟨a,bT n,q,ps⟩ s4:=by
 refine(h1.bindE _).trans ?_
 dsimp only
 refine(h2.bindE _).trans ?_
 dsimp only
 refine(h3.bindE _).trans ?_
 dsimp only
 refine(h4.bindE _).trans ?_
 dsimp only
 exact mj
def ny (k:Nat) (ls:List dI) (l:List UInt8):Option (aW×List UInt8):=
 if k<2 then(Bt l).bind fun c=>some (.mk ls li [] (decide (k=1)) c.1,c.2)
 else(oa l).bind fun c=>(gT c.2).bind fun d=>(gT d.2).bind fun e=>some (.mk ls c.1 [d.1,e.1] false [],e.2)
theorem jz:gT=fun l=>(jP 2 l).bind fun a=>(i8 a.2).bind fun b=>ny a.1 b.1 b.2:=funext pI
theorem um {k:Nat} (h:k<2) (ls:List dI):ny k ls=fun l=>(Bt l).bind fun c=>some (.mk ls li [] (decide (k=1)) c.1,c.2):=funext fun _=>if_pos h
theorem j5 {k:Nat} (h:¬k<2) (ls:List dI):ny k ls=fun l=>(oa l).bind fun c=>(gT c.2).bind fun d=>(gT d.2).bind fun e=>some (.mk ls c.1 [d.1,e.1] false [],e.2):=funext fun _=>if_neg h
theorem FI {n:Nat} {ls:List dI} {ps:List cb} (hn:n<2) (h1:fI (jP 2) st n s1) (h2:fI i8 s1 ls s2) (h3:fI Bt s2 ps s3):fI gT st (.mk ls li [] (decide (n=1)) ps) s3:=by
 unfold fI
 rw[jz]
 refine(h1.bindE _).trans ?_
 dsimp only
 refine(h2.bindE _).trans ?_
 dsimp only
 show Option.bind s2 (ny _ _)=_
 rw[um hn]
 refine(h3.bindE _).trans ?_
 dsimp only
 exact mj
theorem CS {n:Nat} {ls:List dI} {d:bS} {a b:aW} (hn:¬n<2) (h1:fI (jP 2) st n s1) (h2:fI i8 s1 ls s2) (h3:fI oa s2 d s3) (h4:fI gT s3 a s4) (h5:fI gT s4 b s5):fI gT st (.mk ls d [a,b] false []) s5:=by
 unfold fI
 rw[jz]
 refine(h1.bindE _).trans ?_
 dsimp only
 refine(h2.bindE _).trans ?_
 dsimp only
 show Option.bind s2 (ny _ _)=_
 rw[j5 hn]
 refine(h3.bindE _).trans ?_
 dsimp only
 refine(h4.bindE _).trans ?_
 dsimp only
 refine(h5.bindE _).trans ?_
 dsimp only
 exact mj
variable {α:Type} {f:List UInt8→Option (α×List UInt8)} {a:α}
theorem lq {β:Type} {g:List UInt8→Option (β×List UInt8)} {F:β×List UInt8→Option (α×List UInt8)} (h:st.bind g=none):st.bind (fun l=>(g l).bind F)=none:=by
 cases st with
 |none=>rfl
 |some l=>have h:g l=none:=h;show(g l).bind F=none;rw[h];rfl
theorem Hw (h:st.bind (jP 2)=none):st.bind gT=none:=by rw[jz];exact lq h
theorem vY {n:Nat} (h1:fI (jP 2) st n s1) (h:s1.bind i8=none):st.bind gT=none:=by
 rw[jz]
 refine(h1.bindE _).trans ?_
 dsimp only
 exact lq h
theorem Hx {n:Nat} {ls:List dI} (hn:n<2) (h1:fI (jP 2) st n s1) (h2:fI i8 s1 ls s2) (h:s2.bind Bt=none):st.bind gT=none:=by
 rw[jz]
 refine(h1.bindE _).trans ?_
 dsimp only
 refine(h2.bindE _).trans ?_
 dsimp only
 show Option.bind s2 (ny _ _)=_
 rw[um hn]
 exact lq h
theorem Hy {n:Nat} {ls:List dI} (hn:¬n<2) (h1:fI (jP 2) st n s1) (h2:fI i8 s1 ls s2) (h:s2.bind oa=none):st.bind gT=none:=by
 rw[jz]
 refine(h1.bindE _).trans ?_
 dsimp only
 refine(h2.bindE _).trans ?_
 dsimp only
 show Option.bind s2 (ny _ _)=_
 rw[j5 hn]
 exact lq h
theorem Hz {n:Nat} {ls:List dI} {d:bS} (hn:¬n<2) (h1:fI (jP 2) st n s1) (h2:fI i8 s1 ls s2) (h3:fI oa s2 d s3) (h:s3.bind gT=none):st.bind gT=none:=by
 rw[jz]
 refine(h1.bindE _).trans ?_
 dsimp only
 refine(h2.bindE _).trans ?_
 dsimp only
 show Option.bind s2 (ny _ _)=_
 rw[j5 hn]
 refine(h3.bindE _).trans ?_
 dsimp only
 exact lq h
theorem HB {n:Nat} {ls:List dI} {d:bS} {x:aW} (hn:¬n<2) (h1:fI (jP 2) st n s1) (h2:fI i8 s1 ls s2) (h3:fI oa s2 d s3) (h4:fI gT s3 x s4) (h:s4.bind gT=none):st.bind gT=none:=by
 rw[jz]
 refine(h1.bindE _).trans ?_
 dsimp only
 refine(h2.bindE _).trans ?_
 dsimp only
 show Option.bind s2 (ny _ _)=_
 rw[j5 hn]
 refine(h3.bindE _).trans ?_
 dsimp only
 refine(h4.bindE _).trans ?_
 dsimp only
 exact lq h
theorem HD {n:Int} (h1:fI jq st n s1) (h:s1.bind (jP 1)=none):st.bind nw=none:=by
 refine(h1.bindE _).trans ?_
 dsimp only
 exact lq h
theorem HE {n:Int} {k:Nat} {q:fi} (h1:fI jq st n s1) (h2:fI (jP 1) s1 k s2) (h3:fI i7 s2 q s3) (h:s3.bind Bt=none):st.bind nw=none:=by
 refine(h1.bindE _).trans ?_
 dsimp only
 refine(h2.bindE _).trans ?_
 dsimp only
 refine(h3.bindE _).trans ?_
 dsimp only
 exact lq h
theorem FJ {X:Option (List α×List UInt8)} {so:Option (List UInt8)} {k:Nat} {done:List α} (hR:X=so.bind (fun l=>(bQ f (k+1) l).map fun p=>(done++p.1,p.2))) (h:so.bind f=none):X=none:=by
 rw[hR]
 cases so with
 |none=>rfl
 |some l=>
  have h:f l=none:=h
  show(bQ f (k+1) l).map _=none
  simp only[bQ,h]
  rfl
theorem HF {n:Nat} {most:Nat} (h:fI eK st n s1) (hn:n≤most):fI (jP most) st n s1:=by
 refine(h.bindE _).trans ?_
 cases s1 with
 |none=>rfl
 |some t=>exact if_pos hn
theorem KO {n:Nat} {most:Nat} (h:fI eK st n s1) (hn:¬n≤most):st.bind (jP most)=none:=by
 refine(h.bindE _).trans ?_
 cases s1 with
 |none=>rfl
 |some t=>exact if_neg hn
end
end Go.Rl
namespace Go.Rl
open Go.RowKit
section
variable {P:Program} {ops:Array Oper} {Env:World→Prop} {Rl:World→World→Prop} {mo:Bool} {Pn:List PanicEntry→World→Prop} {N:Nat}
def zO (ops:Array Oper) (n:Nat):Bool:=
 (List.range ops.size).all fun t=>decide (t≤n)||(List.range t).any fun j=>decide (n≤j)&&Region.waitsFor .any ops t j
def vZ (o:Oper):Bool:=o.guard.isNone&&o.dst.isSome&&match o.op with|.extract .. |.move _|.assign _=>true|_=>false
theorem FK {o:Oper} (h:vZ o=true) (ρ:Operand→Value):(∃v,∀w,(execOp ρ o).run P w=.ok (.value v) w)∨∃x,(∀v,x≠.panic v)∧∀w,(execOp ρ o).run P w=.halt x w:=by
 obtain⟨dst,op,ty,pos,aft,g⟩:=o
 unfold vZ at h
 simp only[Bool.and_eq_true] at h
 have h2:=h.2
 cases op<;>simp only[] at h2
 case move x=>exact .inl ⟨ρ x,fun w=>by simp[execOp]⟩
 case assign x=>exact .inl ⟨ρ x,fun w=>by simp[execOp]⟩
 case extract x n=>
  have e:execOp ρ ⟨dst,.extract x n,ty,pos,aft,g⟩=(do pure (Next.value (←Instr.extract (ρ x) n)):Sem Next):=rfl
  rw[e]
  cases hx:ρ x with
  |tuple vs=>
   cases hv:vs[n]? with
   |some v=>exact .inl ⟨v,fun w=>by simp[Instr.extract,hv]⟩
   |none=>exact .inr ⟨.stuck "Extract: no such component",fun v=>by simp,fun w=>by simp[Instr.extract,hv,stuck,Sem.run]⟩
  |_=>exact .inr ⟨.stuck "Extract: tuple expected",fun v=>by simp,fun w=>by simp[Instr.extract,stuck,Sem.run]⟩
 all_goals cases h2
def tG (ops:Array Oper):List Nat→Array Bool→Bool
 |[],listed=>(Region.ready .any ops listed).isEmpty
 |i::rest,listed=>(decide (Region.ready .any ops listed=[i])||((match ops[i]? with|some o=>vZ o|none=>false)&&Region.free .any ops listed i&&(Region.ready .any ops listed).contains i))&&tG ops rest (listed.setIfInBounds i true)
theorem lE {Q:iQ} (hsel:Region.noSelect ops=true):∀(perm:List Nat) (os:List Oper) (listed:Array Bool) (a:Act) (w:World),(perm.map fun i=>ops[i]?)=os.map some→tG ops perm listed=true→wpList P ops (ox Q) os a w→wpAny P .any ops (ox Q) perm.length listed a w
 |[],os,listed,a,w,ho,hB,h=>by
  have:os=[]:=by cases os with|nil=>rfl|cons o os=>simp at ho
  subst this
  exact⟨by simpa [tG] using hB,h⟩
 |i::perm,os,listed,a,w,ho,hB,h=>by
  cases os with
  |nil=>simp at ho
  |cons o os=>
   simp only[List.map_cons,List.cons.injEq] at ho
   obtain⟨h0,ho⟩:=ho
   simp only[tG,Bool.and_eq_true,Bool.or_eq_true,decide_eq_true_eq] at hB
   obtain⟨hB1,hB2⟩:=hB
   have nolet:¬LetsOut (ox Q):=fun⟨_,_,hq⟩=>by obtain⟨hq,_⟩:=hq;cases hq
   rcases hB1 with hr|⟨⟨hq,hf⟩,hr⟩
   ·refine⟨fun h1=>(by rw[hr] at h1;cases h1),fun k hk=>?_⟩
    rw[hr] at hk
    have hik:k=i:=by simpa using hk
    subst hik
    have hw:wpOp P ops (ox Q) k (wpList P ops (ox Q) os) a w:=by unfold wpOp;simp only[h0];exact h
    exact wpOp_mono (fun a' w' h'=>lE hsel perm os _ a' w' ho hB2 h') hw
   ·rw[h0] at hq
    have hq:vZ o=true:=hq
    have hwant:Region.wanted o (yielded ops a.tmps)=true:=by
     unfold vZ at hq
     simp only[Bool.and_eq_true,Option.isNone_iff_eq_none] at hq
     unfold Region.wanted
     rw[hq.1.1]
    unfold wpList at h
    rw[if_pos hwant] at h
    have h:=h.resolve_right fun h=>nolet h.2
    unfold Oper.wp at h
    rcases FK (P:=P) hq a.eval with⟨v,hv⟩|⟨x,hx,hv⟩
    ·rw[hv w] at h
     exact wpAny_take h0 hsel hf hr (fun c a w hp=>by obtain⟨hp,_⟩:=hp;cases hp) (.inl ⟨hwant,hv⟩) (lE hsel perm os _ _ w ho hB2 h)
    ·rw[hv w] at h
     cases x<;>first|exact absurd rfl (hx _)|exact h.elim
def oJ (ops:Array Oper) (n:Nat) (perm:List Nat):Nat→Nat→Array Bool→Bool
 |0,_,listed=>tG ops perm listed&&(Region.ready .any ops listed).all fun j=>decide (n≤j)
 |f+1,k,listed=>(Region.ready .any ops listed).contains k&&Region.free .any ops listed k&&oJ ops n perm f (k+1) (listed.setIfInBounds k true)
def CT (os:List Oper):List Nat→List Oper
 |[]=>[]
 |i::is=>match os[i]? with|some o=>o::CT os is|none=>CT os is
theorem zP {Q:iQ} {D:List Deferred} {l:Fr} {w:World} (h:iA Q N D l w):iA (ox Q) N D l w:=fun a ha=>⟨rfl,h a ha⟩
end
end Go.Rl
namespace Go.Rl
open Go.RowKit
end Go.Rl
namespace Go.Rl
open Go.RowKit Go.Proofs
def Ej (l:List Value) (o:Nat) (m:List Value):List Value:=l.take o++m++l.drop (o+m.length)
section
variable {P:Program} {w w1 w':World} {T TB t:TypeId} {g gB i o:Nat} {l m cs:List Value} {v:Value} {st s1:Option (List UInt8)}
theorem ci.stO (h:ci g T l w) (o:Nat) (hl:o+m.length≤l.length) (hi:(P.info? t).map (·.size)=some m.length) (h1:au m):
 ∃w',(Instr.storeAt t (.pointer (some ⟨g,o,none⟩)) (.agg m.toArray)).run P w=.ok () w'∧w.grownBy w' (some g)∧ci g T (Ej l o m) w':=by
 have h':w.heap[g]? =some (.cells l.toArray T (0,0)):=h
 have hr:=run_storeCells_at (P:=P) g o T m 0 l.toArray w h' (by simpa using hl) h1
 refine⟨_,?_,bK w g _,h.row (Ej l o m)⟩
 simp only[Instr.storeAt,Instr.sureAddr,storeVar,Sem.run_bind,Sem.run_pure,Result.andThen_ok,eZ hi]
 rw[if_neg (by simp[Value.cells])]
 simpa [Ej,Value.cells] using hr
theorem ep.put (hB:ci gB TB cs w) (hg:w.grownBy w1 (some g)) (hr:ep T g s1 w1) (hne:g<gB) {i:Nat} (hs:(P.info? t).map (·.size)=some 1) (hv:v.oneCell'=true) (hi:i<cs.length):
 ∃w2,(Instr.storeAt t (.pointer (some ⟨gB,i,none⟩)) v).run P w1=.ok () w2∧Mv (fun k=>k=g∨k=gB) w w2∧ci gB TB (cs.set i v) w2∧ep T g s1 w2∧w1.grownBy w2 (some gB):=by
 have h1:=hB.other hg (fun e=>by have:=Option.some.inj e;omega)
 obtain⟨w2,h2,h3,h4⟩:=h1.stC (P:=P) (t:=t) (i:=i) (v:=v) hs hv hi
 have m2:Mv (fun k=>k=gB) w1 w2:=Mv.of_grown h3 fun k hk _=>(Option.some.inj hk).symm
 exact⟨w2,h2,(Mv.of_grown hg fun k hk _=>.inl (Option.some.inj hk).symm).trans m2 fun _ hn _=>.inr hn,h4,hr.mv m2 fun k hk=>by omega,h3⟩
theorem ep.putO (hB:ci gB TB cs w) (hg:w.grownBy w1 (some g)) (hr:ep T g s1 w1) (hne:g<gB) (o:Nat) (hl:o+m.length≤cs.length) (hi:(P.info? t).map (·.size)=some m.length) (h1:au m):
 ∃w2,(Instr.storeAt t (.pointer (some ⟨gB,o,none⟩)) (.agg m.toArray)).run P w1=.ok () w2∧Mv (fun k=>k=g∨k=gB) w w2∧ci gB TB (Ej cs o m) w2∧ep T g s1 w2∧w1.grownBy w2 (some gB):=by
 have hB1:=hB.other hg (fun e=>by have:=Option.some.inj e;omega)
 obtain⟨w2,h2,h3,h4⟩:=hB1.stO (P:=P) (t:=t) o hl hi h1
 have m2:Mv (fun k=>k=gB) w1 w2:=Mv.of_grown h3 fun k hk _=>(Option.some.inj hk).symm
 exact⟨w2,h2,(Mv.of_grown hg fun k hk _=>.inl (Option.some.inj hk).symm).trans m2 fun _ hn _=>.inr hn,h4,hr.mv m2 fun k hk=>by omega,h3⟩
end
end Go.Rl
namespace Go.Rl
open Go.RowKit Go.Proofs
theorem wh:(Tryz.prog.info? 4).map (·.size)=some 1:=by kernel_rfl
theorem qI.rpx {w:World} {b:Nat} {l:List UInt32} {v:Value} (h:bm l v w) (hn:qI b v):cH (fun k=>k<b) w (nf l) [v]:=by
 have h':Rp w (nf l) [v]:=Rp.wds.2 h
 unfold nf at h'⊢
 simp only[Rp] at h'
 obtain⟨A,n,c,hv,h2,h3,h4,h5,h6⟩:=h'
 obtain rfl:v=.slice A n c:=by simpa using hv
 simp only[cH]
 refine⟨A,n,c,rfl,h2,h3,h4,h5,fun hp=>?_⟩
 obtain⟨ad,xs,rfl,h8,h9⟩:=h6 hp
 refine⟨ad,xs,rfl,fun _ hb=>?_,h8,?_⟩
 ·have:=hn ad.block rfl
  omega
 ·have:∀(l:List UInt32) (ys:List Value),bD w (l.map zt) ys→aR (fun k=>k<b) w (l.map zt) ys:=by
   intro l
   induction l with
   |nil=>intro ys h;simpa only[List.map_nil,bD,aR] using h
   |cons a l ih=>
    intro ys h
    simp only[List.map_cons,bD,aR] at h⊢
    obtain⟨c1,c2,h1,h2,h3⟩:=h
    exact⟨c1,c2,h1,by simpa only[zt,Rp,cH] using h2,ih _ h3⟩
  exact this l xs h9
theorem qI.rpx' {w:World} {b:Nat} {l:List UInt32} {v:Value} (hn:qI b v) (h:bm l v w):cH (fun k=>k<b) w (nf l) [v]:=qI.rpx h hn
theorem kA.mv (X:Nat→Prop) (w:World):kA (Mv X w) (Mv X):=⟨fun _ _ h=>Mv.of_ext h,fun _ _ h k=>h.trans k fun _ hn _=>hn⟩
theorem nz {X:Nat→Prop} {w:World} (n:Int):cH X w (qk n) [I n]:=by simp only[qk,cH,I]
end Go.Rl
namespace Go.Rl
open Go.RowKit Go.Proofs
theorem wi:aG Tryz.prog 132:=⟨_,Tryz.func132,by kernel_rfl,rfl⟩
theorem yr:aG Tryz.prog 95:=⟨_,Tryz.func95,by kernel_rfl,rfl⟩
theorem uo:aG Tryz.prog 133:=⟨_,Tryz.func133,by kernel_rfl,rfl⟩
theorem wj:aG Tryz.prog 96:=⟨_,Tryz.func96,by kernel_rfl,rfl⟩
def RX (g:Nat):Nat→Prop:=fun k=>k=g
abbrev iJ (st:Option (List UInt8)):Prop:=tD 549755813888 st
theorem zQ (st:Option (List UInt8)):∃n s1,fI eK st n s1∧n<18446744073709551616∧∀{w:World} {g:Nat},cn g st w→Calls Tryz.prog 93 #[.pointer (some ⟨g,0,none⟩)] w (bE fun r w'=>w.grownBy w' (some g)∧r=.tuple #[bF (UInt64.ofNat n),I (if s1.isSome=true then 0 else 5)]∧cn g s1 w'):=by
 cases hU:st.bind eK with
 |none=>exact⟨0,none,hU,by omega,fun hr=>nr hr hU⟩
 |some p=>
  obtain⟨n,t⟩:=p
  refine⟨n,some t,hU,?_,fun hr=>nt hr hU⟩
  cases st with
  |none=>cases hU
  |some l=>exact(gd (show eK l=some (n,t) from hU)).2
theorem qX (st:Option (List UInt8)):∃n s1,fI jq st n s1∧lB n∧∀{w:World} {g:Nat},cn g st w→Calls Tryz.prog 130 #[.pointer (some ⟨g,0,none⟩)] w (bE fun r w'=>w.grownBy w' (some g)∧r=.tuple #[I n,I (if s1.isSome=true then 0 else 5)]∧cn g s1 w'):=by
 cases hU:st.bind eK with
 |none=>
  refine⟨0,none,?_,by unfold lB;omega,fun hr=>bE.mono (yn hr) fun r w' h=>by rw[hU] at h;exact h⟩
  cases st with
  |none=>rfl
  |some l=>show(eK l).map _=none;rw[show eK l=none from hU];rfl
 |some p=>
  obtain⟨n,t⟩:=p
  have hI:fI jq st (uz n) (some t):=by
   cases st with
   |none=>cases hU
   |some l=>show(eK l).map _=_;rw[show eK l=some (n,t) from hU];rfl
  exact⟨uz n,some t,hI,zK hI,fun hr=>bE.mono (yn hr) fun r w' h=>by rw[hU] at h;exact h⟩
theorem CU {w:World} {g:Nat} {st:Option (List UInt8)} (hr:cn g st w) (hl:iJ st):
 Calls Tryz.prog 131 #[.pointer (some ⟨g,0,none⟩)] w (bE fun r w'=>w.grownBy w' (some g)∧∃(q:fi) (x y:Value) (s1:Option (List UInt8)),r=.tuple #[.agg #[B q.1,x,y],I (if s1.isSome=true then 0 else 5)]∧bm q.2.1 x w'∧bm q.2.2 y w'∧cH (fun k=>k<w.heap.size) w' (iY q) [B q.1,x,y]∧cn g s1 w'∧fI i7 st q s1):=by
 refine bE.mono (CP hr hl) fun r w' hR=>⟨hR.1,?_⟩
 have h2:=hR.2
 have key:∀{q:fi} {x y:Value},cH (fun k=>k<w.heap.size) w' (nf q.2.1) [x]→cH (fun k=>k<w.heap.size) w' (nf q.2.2) [y]→cH (fun k=>k<w.heap.size) w' (iY q) [B q.1,x,y]:=fun {q x y} h1 h2=>by
  simp only[iY,cH]
  exact aR.cons (a:=[B q.1]) (by simp only[cH,B]) (aR.cons h1 (aR.cons (b:=[]) h2 aR.nil))
 cases hq:st.bind i7 with
 |none=>
  rw[hq] at h2
  obtain⟨v,h3,⟨x,y,rfl,hx,hy⟩,h4⟩:=h2
  have hn:∀{z:Value},bm [] z w'→cH (fun k=>k<w.heap.size) w' (nf []) [z]:=fun {z} hz=>by
   obtain⟨A,n,c,rfl,h5,h6,h7,h8,h9⟩:=hz
   simp only[nf,List.map_nil,cH]
   have:n=0:=by simp at h7;omega
   subst this
   exact⟨A,0,c,rfl,rfl,h5,h6,h9,fun h=>by omega⟩
  exact⟨(false,[],[]),x,y,none,h3,hx,hy,key (hn hx) (hn hy),h4,hq⟩
 |some p=>
  obtain⟨q,t⟩:=p
  rw[hq] at h2
  obtain⟨x,y,h3,hx,hy,h4,n1,n2⟩:=h2
  exact⟨q,x,y,some t,h3,hx,hy,key (qI.rpx hx n1) (qI.rpx hy n2),h4,hq⟩
theorem LP {n m:Nat} (hn:n<18446744073709551616) (hm:m<18446744073709551616):UInt64.ofNat n≤UInt64.ofNat m↔n≤m:=by
 rw[UInt64.le_iff_toNat_le,UInt64.toNat_ofNat',UInt64.toNat_ofNat']
 omega
theorem CV {w:World} {g n most:Nat} {st s1:Option (List UInt8)} (hn:n<18446744073709551616) (hm:most<18446744073709551616) (hr:cn g st w)
 (hc:Calls Tryz.prog 93 #[.pointer (some ⟨g,0,none⟩)] w (bE fun r w'=>w.grownBy w' (some g)∧r=.tuple #[bF (UInt64.ofNat n),I (if s1.isSome=true then 0 else 5)]∧cn g s1 w')):
 Calls Tryz.prog 132 #[.pointer (some ⟨g,0,none⟩),bF (UInt64.ofNat most)] w (bE fun r w'=>w.grownBy w' (some g)∧r=.tuple #[bF (UInt64.ofNat n),B (s1.isSome&&decide (n≤most))]∧cn g s1 w'):=by
 refine enter (vs:=[.pointer (some ⟨g,0,none⟩),bF (UInt64.ofNat most)]) Tryz.func132 MI MI MI ?_
 refine af (aa (ac MI MI (ac MI MI (ag (ab (af (aa (ae MI MI (am fw MI MI (hc) ?_)))))))))
 rintro v10 w10 ⟨g10,rfl,hr1⟩
 have m10:=ep.kp hr g10
 refine ae MI MI (ao MI MI (bj) (ao MI MI (bk) (ac MI MI (ac MI MI (ag (ab (af ?_)))))))
 rcases s1 with _|t
 rotate_left
 by_cases hnm:n≤most
 ·refine aa (ae MI MI (ae MI MI (al MI MI MI (cJ MI bo) (ae MI MI (aj MI (ae MI MI (aj MI (ae MI MI (aj MI (al MI MI MI (cJ ((LP hn hm).2 hnm) pq) ?_))))))))))
  refine ap MI MI MI (ac MI MI (ac MI MI (ag (ab (aw (be MI MI MI ?_))))))
  exact⟨_,rfl,g10,by rw[decide_eq_true hnm];rfl,hr1⟩
 ·refine aa (ae MI MI (ae MI MI (al MI MI MI (cJ MI bo) (ae MI MI (aj MI (ae MI MI (aj MI (ae MI MI (aj MI (al MI MI MI (dm (mt (LP hn hm).1 hnm) pq) ?_))))))))))
  refine ap MI MI MI (ac MI MI (ac MI MI (ag (ab (aw (be MI MI MI ?_))))))
  exact⟨_,rfl,g10,by rw[decide_eq_false hnm];rfl,hr1⟩
 ·refine aa (ae MI MI (ae MI MI (al MI MI MI (dm (by simp) bo) (ae MI MI (an MI MI MI (an MI MI MI (an MI MI MI (aD MI MI MI ?_))))))))
  refine ac MI MI (ac MI MI (ag (ab (aw (be MI MI MI ?_)))))
  exact⟨_,rfl,g10,rfl,hr1⟩
theorem yt (st:Option (List UInt8)) {most:Nat} (hm:most<18446744073709551616):∃(n:Nat) (s1:Option (List UInt8)) (ok:Bool),(ok=true→fI (jP most) st n s1∧s1≠none)∧(ok=false→st.bind (jP most)=none)∧n<18446744073709551616∧(∀k,tD k st→tD k s1)∧∀{w:World} {g:Nat},cn g st w→
 Calls Tryz.prog 132 #[.pointer (some ⟨g,0,none⟩),bF (UInt64.ofNat most)] w (bE fun r w'=>w.grownBy w' (some g)∧r=.tuple #[bF (UInt64.ofNat n),B ok]∧cn g s1 w'):=by
 obtain⟨n,s1,h1,h2,h3⟩:=zQ st
 refine⟨n,s1,s1.isSome&&decide (n≤most),fun h=>?_,fun h=>?_,h2,fun k hk=>h1.atM lC.le hk,fun hr=>CV h2 hm hr (h3 hr)⟩
 ·simp only[Bool.and_eq_true,decide_eq_true_eq] at h
  exact⟨HF h1 h.2,fun e=>by rw[e] at h;cases h.1⟩
 ·rcases Nat.lt_or_ge most n with hn|hn
  ·exact KO h1 (by omega)
  ·rw[decide_eq_true hn,Bool.and_true] at h
   have:s1=none:=by cases s1 with|none=>rfl|some t=>cases h
   subst this
   exact(HF h1 hn)
theorem wm {X:Nat→Prop} {w:World} {d:bS} {x y:Value} (h:cH X w (iY d.at_) [B d.at_.1,x,y]):cH X w (dy d) [I d.kd,I d.ix,B d.at_.1,x,y]:=by
 unfold dy
 simp only[cH.eq_5]
 exact aR.cons (a:=[I d.kd]) (nz _) (aR.cons (a:=[I d.ix]) (nz _) (aR.cons (b:=[]) h aR.nil))
theorem zR {P:Program} {w:World} {t:TypeId} {x y:Operand} {s:Option (List UInt8)}:(bin .eql t x y (I (if s.isSome=true then 0 else 5)) (I 0)).run P w=.ok (B s.isSome) w:=by
 cases s<;>exact bo
theorem yu {w:World} {g:Nat} {st:Option (List UInt8)} (hr:cn g st w) (hl:iJ st):
 Calls Tryz.prog 95 #[.pointer (some ⟨g,0,none⟩)] w (bE fun r w'=>Mv (RX g) w w'∧∃(d:bS) (x y:Value) (s1:Option (List UInt8)),r=.tuple #[.agg #[I d.kd,I d.ix,B d.at_.1,x,y],B s1.isSome]∧cH (fun k=>k<w.heap.size) w' (dy d) [I d.kd,I d.ix,B d.at_.1,x,y]∧x.oneCell'=true∧y.oneCell'=true∧cn g s1 w'∧fI oa st d s1):=by
 refine enter (vs:=[.pointer (some ⟨g,0,none⟩)]) Tryz.func95 MI MI MI ?_
 have hlt:=cn.lt hr
 obtain⟨n1,s1,q1,i1,c1⟩:=qX st
 obtain⟨n2,s2,q2,i2,c2⟩:=qX s1
 refine af (aa ?_)
 obtain⟨g2,w2,hr2,l2,x2,k2⟩:=aY (P:=Tryz.prog) (w:=w) (t:=48) (z:=.agg #[I 0,I 0,B false,.slice none 0 0,.slice none 0 0]) (l:=[I 0,I 0,B false,.slice none 0 0,.slice none 0 0]) (by kernel_rfl) rfl
 refine aV MI hr2 (ac MI MI (ag (ab (af (aa ?_)))))
 obtain⟨g4,w4,hr4,l4,x4,k4⟩:=aY (P:=Tryz.prog) (w:=w2) (t:=48) (z:=.agg #[I 0,I 0,B false,.slice none 0 0,.slice none 0 0]) (l:=[I 0,I 0,B false,.slice none 0 0,.slice none 0 0]) (by kernel_rfl) rfl
 refine aV MI hr4 ?_
 have hr4:=cn.ext hr (x2.trans x4)
 have g42:g2<g4:=by have:=k2.lt;omega
 have hg4:g<g4:=by have:=x2.size;omega
 have lt4:=k4.lt
 have sz4:=((x2.trans x4)).size
 have k24:=k2.ext x4
 refine ag (ab (af (aa (ae MI MI (am jg MI MI ((c1 hr4)) ?_)))))
 rintro v9 w9 ⟨g9,rfl,hr9⟩
 have m9:=ep.kp hr4 g9
 obtain⟨wa,sa,ma,ka,ra,_⟩:=ep.put (P:=Tryz.prog) (t:=3) (v:=I n1) k4 g9 hr9 hg4 (i:=0) gr rfl (by simp)
 refine ae MI MI (ao MI MI (bj) (ao MI MI bk ?_))
 refine ah MI MI (aq (o:=0) Mc MI (by kernel_rfl) MI) ?_
 refine ar MI MI sa ?_
 refine ag (ab (af (aa (ae MI MI (am jg MI MI ((c2 ra)) ?_)))))
 rintro v15 w15 ⟨g15,rfl,hr15⟩
 have m15:=ep.kp ra g15
 obtain⟨wb,sb,mb,kb,rb,_⟩:=ep.put (P:=Tryz.prog) (t:=3) (v:=I n2) ka g15 hr15 hg4 (i:=1) gr rfl (by simp)
 refine ae MI MI (ao MI MI (bj) (ao MI MI bk ?_))
 refine ah MI MI (aq (o:=1) Mc MI (by kernel_rfl) MI) ?_
 refine ar MI MI sb ?_
 refine ag (ab (af (aa (ae MI MI (am tA MI MI ((CU rb (q2.atM eO.le (q1.atM eO.le hl)))) ?_)))))
 rintro v21 w21 ⟨g21,q,x,y,s3,rfl,hx,hy,rq,hr21,q3⟩
 have m21:=ep.kp rb g21
 refine ae MI MI (ao MI MI (bj) (ao MI MI (bk) ?_))
 obtain⟨g5,w5,hr5,l5,x5,k5⟩:=aY (P:=Tryz.prog) (w:=w21) (t:=46) (z:=.agg #[B false,.slice none 0 0,.slice none 0 0]) (l:=[B false,.slice none 0 0,.slice none 0 0]) (by kernel_rfl) rfl
 refine aV MI hr5 ?_
 obtain⟨w4_6,s4_6,q4_6,k4_6⟩:=k5.stS (P:=Tryz.prog) (t:=46) (m:=[B q.1,x,y]) rfl (by kernel_rfl) (au.cons rfl (au.cons hx.one (au.cons hy.one au.nil)))
 refine ar MI MI s4_6 ?_
 have x4_6:=aK.of_new (x5) q4_6 l5
 refine ac MI MI (ag (ab (af (aa (ak MI MI (k4_6.ld Mb MI (by kernel_rfl)) (ah MI MI (aq (o:=2) Mc MI (by kernel_rfl) MI) ?_))))))
 have ex:=x4_6
 obtain⟨wc,sc,mc,kc,rc,qc⟩:=ep.putO (P:=Tryz.prog) (t:=46) (m:=[B q.1,x,y]) kb (g21.trans (dJ ex)) (cn.ext hr21 ex) hg4 2 (by simp) (by kernel_rfl) (au.cons rfl (au.cons hx.one (au.cons hy.one au.nil)))
 have lb:w4.heap.size≤wb.heap.size:=Nat.le_trans ma.size mb.size
 have rqc:=rq.mv ((Mv.of_ext ex).trans (Mv.of_grown qc fun k hk _=>by obtain rfl:=Option.some.inj hk;show g4<wb.heap.size;omega) fun _ hn _=>hn) fun _ hk=>.inl hk
 refine ar MI MI sc ?_
 have mT:Mv (fun k=>k=g∨k=g4) w4 wc:=(ma.trans mb fun _ hn _=>hn).trans mc fun _ hn _=>hn
 have k2c:=mT.blk k24 (by rintro(h|h)<;>omega)
 have kc:ci g4 48 [I n1,I n2,B q.1,x,y] wc:=kc
 refine ag (ab (af (aa (ak MI MI (kc.ld Mc MI (by kernel_rfl)) (ae MI MI (al (r:=B s3.isSome) MI MI MI (zR) ?_))))))
 obtain⟨wd,sd,qd,kd⟩:=k2c.stS (P:=Tryz.prog) (t:=48) (m:=[I n1,I n2,B q.1,x,y]) rfl (by kernel_rfl) (au.cons rfl (au.cons rfl (au.cons rfl (au.cons hx.one (au.cons hy.one au.nil)))))
 have md:Mv (fun k=>k=g2) wc wd:=Mv.of_grown qd fun k hk _=>(Option.some.inj hk).symm
 refine ar MI MI sd ?_
 refine ac MI MI (ag (ab (aw ?_)))
 refine cu MI MI MI kd Mc MI (by kernel_rfl) ?_
 exact⟨_,rfl,((Mv.of_ext (x2.trans x4)).trans mT fun j hj hlt=>by
  rcases hj with hj|hj
  ·exact hj
  ·omega).trans md fun j hj hlt=>by omega,⟨n1,n2,q⟩,x,y,s3,rfl,wm (d:=⟨n1,n2,q⟩) (rqc.mv (md.weak fun j hj _=>by show j<wb.heap.size;omega) fun j hj=>.inl (by omega)),hx.one,hy.one,rc.mv md fun j hj=>by omega,FH q1 q2 q3⟩
theorem IP {n m:Nat} (hn:n<18446744073709551616) (hm:m<18446744073709551616):UInt64.ofNat n<UInt64.ofNat m↔n<m:=by
 rw[UInt64.lt_iff_toNat_lt,UInt64.toNat_ofNat',UInt64.toNat_ofNat']
 omega
theorem mp {P:Program} {w:World} {s d:TypeId} {k:IntKind} (hs:P.underlying s=some (.int k)) {n:Nat} (hd:P.underlying d=some (.int .u64)):(convert s d (I (n:Int))).run P w=.ok (bF (UInt64.ofNat n)) w:=by
 rw[rN hs hd]
 have:UInt64.ofInt (n:Int)=UInt64.ofNat n:=UInt64.toNat_inj.1 (by rw[lp,UInt64.toNat_ofNat'];omega)
 rw[this]
theorem tH {α:Type} {f:List UInt8→Option (α×List UInt8)} {st s1 so:Option (List UInt8)} {N:Nat} {done:List α} (hU:fI eK st N s1) (hR:s1.bind (bQ f N)=so.bind (fun l=>(bQ f 0 l).map fun p=>(done++p.1,p.2))):fI (dk f) st done so:=
 (hU.bindE (fun p=>bQ f p.1 p.2)).trans (FG hR)
theorem tI {α:Type} {f:List UInt8→Option (α×List UInt8)} {st s1:Option (List UInt8)} {N:Nat} {done:List α} (hU:fI eK st N s1) (hR:s1.bind (bQ f N)=none):fI (dk f) st done none:=
 (hU.bindE (fun p=>bQ f p.1 p.2)).trans hR
theorem tJ:(Tryz.prog.info? 187).map (fun i=>(i.zero,i.size,i.bytes))=some (some (.agg #[I 0,I 0,I 0,I 0,B false,.slice none 0 0,.slice none 0 0]),7,88):=by kernel_rfl
theorem dA (m:cb):(bN m).size=7:=by simp[bN,qk,iY,nf,Dt.size,Dt.sizeAll]
theorem yv {X:Nat→Prop} {w:World} {m:cb} {x y:Value} (h:cH X w (iY m.co) [B m.co.1,x,y]):cH X w (bN m) [I m.kd,I m.ix,I m.lo,I m.hi,B m.co.1,x,y]:=by
 unfold bN
 simp only[cH.eq_5]
 exact aR.cons (a:=[I m.kd,I m.ix,I m.lo,I m.hi]) (by
  simp only[cH.eq_5]
  exact aR.cons (a:=[I m.kd]) (nz _) (aR.cons (a:=[I m.ix]) (nz _) (aR.cons (a:=[I m.lo]) (nz _) (aR.cons (a:=[I m.hi]) (b:=[]) (nz _) aR.nil)))) (aR.cons (b:=[]) h aR.nil)
theorem uq {w:World} {g:Nat} {st:Option (List UInt8)} (hr:cn g st w) (hl:iJ st):
 Calls Tryz.prog 133 #[.pointer (some ⟨g,0,none⟩)] w (bE fun r w'=>Mv (RX g) w w'∧∃(ps:List cb) (v:Value) (s1:Option (List UInt8)),r=.tuple #[v,B s1.isSome]∧cH (fun k=>k<w.heap.size) w' (gS ps) [v]∧v.oneCell'=true∧cn g s1 w'∧fI Bt st ps s1):=by
 refine enter (vs:=[.pointer (some ⟨g,0,none⟩)]) Tryz.func133 MI MI MI ?_
 have hlt:=cn.lt hr
 obtain⟨N,s1,qU,hN,cU⟩:=zQ st
 refine af (aa (ac MI MI (ac MI MI (ag (ab (af (aa (ae MI MI (am fw MI MI ((cU hr)) ?_)))))))))
 rintro v10 w10 ⟨g10,rfl,hr10⟩
 have m10:=ep.kp hr g10
 have hl1:iJ s1:=qU.atM lC.le hl
 refine ae MI MI (ao MI MI (bj) (ao MI MI (bk) (ac MI MI (ac MI MI (ag (ab (af (aa (ac MI MI (ag (ab (af ?_))))))))))))
 refine aF ?_
 refine iW (fun(k:Nat) (v:Value) (so:Option (List UInt8)) (ps:List cb)=>[(0,.pointer (some ⟨g,0,none⟩)),(4,bF (UInt64.ofNat N)),(5,I (if so.isSome=true then 0 else 5)),(6,v)]) (fun(k:Nat) (v:Value) (so:Option (List UInt8)) (ps:List cb) w'=>Mv (RX g) w w'∧cn g so w'∧f9 187 7 w.heap.size bN ps v w'∧k+ps.length=N∧s1.bind (bQ qV N)=so.bind (fun l=>(bQ qV k l).map fun p=>(ps++p.1,p.2))∧ps.length≤549755813890∧∀l,so=some l→l.length+ps.length≤549755813888) (fun(k:Nat) (v:Value) (so:Option (List UInt8)) (ps:List cb)=>k) (N) (.slice none 0 0) (s1) ([]) ⟨rfl,rfl,rfl,rfl,trivial⟩ ⟨Mv.of_grown g10 fun k hk _=>(Option.some.inj hk).symm,hr10,f9.nil _,by simp,qT,by simp,fun l e=>by have:=hl1 l e;simpa using this⟩ ?_
 rintro k v so ps wL ⟨mL,hrL,oL,hk,hR,hql,hsl⟩
 refine af (af ?_)
 have rL:=oL.rpx dA (by omega)
 have hvo:v.oneCell'=true:=by obtain⟨_,_,_,rfl⟩:=oL.isS;rfl
 have hnl:ps.length<18446744073709551616:=by omega
 rcases so with _|l
 rotate_left
 rcases Nat.eq_zero_or_pos k with h0|h0
 rotate_left
 ·refine aa (ae MI MI (al MI MI MI (cJ MI bo) (ae MI MI (aj MI (ae MI MI (aj MI (aP (r:=I ps.length) MI MI ((bg (f:=bN) Mm rL.rp)) ?_)))))))
  refine aj MI (aZ MI MI (mp Me Mf) (aj MI (ae MI MI (aj MI (al MI MI MI (cJ ((IP hnl hN).2 (by omega)) gF) ?_)))))
  refine ap MI MI MI (ag (ab (bh MI (aA (ab (aF (af ?_)))))))
  obtain⟨n1,s2,q1,i1,c1⟩:=qX (some l)
  obtain⟨n2,s3,q2,i2,c2⟩:=qX s2
  obtain⟨n3,s4,q3,i3,c3⟩:=qX s3
  obtain⟨n4,s5,q4,i4,c4⟩:=qX s4
  have hll:iJ (some l):=fun l' e=>by cases e;have:=hsl l rfl;omega
  have at5:iJ s5:=q4.atM eO.le (q3.atM eO.le (q2.atM eO.le (q1.atM eO.le hll)))
  refine aa ?_
  obtain⟨g7,w7,hr7,l7,x7,k7⟩:=aY (P:=Tryz.prog) (w:=wL) (t:=187) (z:=.agg #[I 0,I 0,I 0,I 0,B false,.slice none 0 0,.slice none 0 0]) (l:=[I 0,I 0,I 0,I 0,B false,.slice none 0 0,.slice none 0 0]) (by kernel_rfl) rfl
  refine aV MI hr7 (ag (ab (af ?_)))
  have hr7:=cn.ext hrL x7
  have e7:=x7
  have hgL:g<wL.heap.size:=Nat.lt_of_lt_of_le hlt mL.size
  have hg7:g<g7:=by omega
  have lt7:=k7.lt
  refine aa (ae MI MI (am jg MI MI ((c1 hr7)) ?_))
  rintro v24 w24 ⟨g24,rfl,hr24⟩
  have m24:=ep.kp hr7 g24
  obtain⟨wa,sa,ma,ka,ra,_⟩:=ep.put (P:=Tryz.prog) (t:=3) (v:=I n1) k7 g24 hr24 hg7 (i:=0) gr rfl (by simp)
  refine ae MI MI (ao MI MI (bj) (ao MI MI bk ?_))
  refine ah MI MI (aq (o:=0) Mt MI (by kernel_rfl) MI) ?_
  refine ah MI MI (aq (o:=0) Mx MI (by kernel_rfl) MI) ?_
  refine ar MI MI sa ?_
  refine ag (ab (af (aa (ae MI MI (am jg MI MI ((c2 ra)) ?_)))))
  rintro v31 w31 ⟨g31,rfl,hr31⟩
  have m31:=ep.kp ra g31
  obtain⟨wb,sb,mb,kb,rb,_⟩:=ep.put (P:=Tryz.prog) (t:=3) (v:=I n2) ka g31 hr31 hg7 (i:=1) gr rfl (by simp)
  refine ae MI MI (ao MI MI (bj) (ao MI MI bk ?_))
  refine ah MI MI (aq (o:=0) Mt MI (by kernel_rfl) MI) ?_
  refine ah MI MI (aq (o:=1) Mx MI (by kernel_rfl) MI) ?_
  refine ar MI MI sb ?_
  refine ag (ab (af (aa (ae MI MI (am jg MI MI ((c3 rb)) ?_)))))
  rintro v38 w38 ⟨g38,rfl,hr38⟩
  have m38:=ep.kp rb g38
  obtain⟨wc,sc,mc,kc,rc,_⟩:=ep.put (P:=Tryz.prog) (t:=3) (v:=I n3) kb g38 hr38 hg7 (i:=2) gr rfl (by simp)
  refine ae MI MI (ao MI MI (bj) (ao MI MI bk ?_))
  refine ah MI MI (aq (o:=0) Mt MI (by kernel_rfl) MI) ?_
  refine ah MI MI (aq (o:=2) Mx MI (by kernel_rfl) MI) ?_
  refine ar MI MI sc ?_
  refine ag (ab (af (aa (ae MI MI (am jg MI MI ((c4 rc)) ?_)))))
  rintro v45 w45 ⟨g45,rfl,hr45⟩
  have m45:=ep.kp rc g45
  obtain⟨wd,sd,md,kd,rd,_⟩:=ep.put (P:=Tryz.prog) (t:=3) (v:=I n4) kc g45 hr45 hg7 (i:=3) gr rfl (by simp)
  refine ae MI MI (ao MI MI (bj) (ao MI MI bk ?_))
  refine ah MI MI (aq (o:=0) Mt MI (by kernel_rfl) MI) ?_
  refine ah MI MI (aq (o:=3) Mx MI (by kernel_rfl) MI) ?_
  refine ar MI MI sd ?_
  refine ag (ab (af (aa (ae MI MI (am tA MI MI ((CU rd at5)) ?_)))))
  rintro v52 w52 ⟨g52,q,x,y,s6,rfl,hx,hy,rq,hr52,q5⟩
  have m52:=ep.kp rd g52
  obtain⟨we,se,me,ke,re,qe⟩:=ep.putO (P:=Tryz.prog) (t:=46) (m:=[B q.1,x,y]) kd g52 hr52 hg7 4 (by simp) (by kernel_rfl) (au.cons rfl (au.cons hx.one (au.cons hy.one au.nil)))
  have ke:ci g7 187 [I n1,I n2,I n3,I n4,B q.1,x,y] we:=ke
  have mAll:Mv (RX g) wL we:=(Mv.of_ext e7).trans ((((ma.trans mb fun _ hn _=>hn).trans mc fun _ hn _=>hn).trans md fun _ hn _=>hn).trans me fun _ hn _=>hn) fun j hj hlt=>by
   rcases hj with hj|hj
   ·exact hj
   ·omega
  have sd7:w7.heap.size≤wd.heap.size:=Nat.le_trans (Nat.le_trans ma.size mb.size) (Nat.le_trans mc.size md.size)
  have szL:wL.heap.size≤w7.heap.size:=e7.size
  have hXL:∀j,RX g j→j<w.heap.size:=fun j hj=>by have:j=g:=hj;omega
  have oE:=oL.mv mAll hXL
  have own:∀j,v.ownBlock=some j→w.heap.size≤j∧j<wL.heap.size:=oL.lt
  have rqe:=rq.mv (Mv.of_grown qe fun k hk _=>by obtain rfl:=Option.some.inj hk;show g7<wd.heap.size;omega) fun _ hk=>.inl hk
  have hM:=yv (m:=⟨n1,n2,n3,n4,q⟩) (rqe.weak (Y:=fun k=>k<w.heap.size∨v.ownBlock=some k) fun j hj=>.inl (by
   rcases hj with hj|hj
   ·have:=mL.size;show j<wd.heap.size;omega
   ·have:=(own j hj).2;show j<wd.heap.size;omega))
  obtain⟨x58,w58,v59,w59,hr58,hr59,o59,m59,n59⟩:=oE.push (ty:=50) (t:=50) Mm tJ rfl (by omega) (by omega) (by omega) (au.cons rfl (au.cons rfl (au.cons rfl (au.cons rfl (au.cons rfl (au.cons hx.one (au.cons hy.one au.nil))))))) hM dA (by have:=hsl l rfl;omega) (Nat.le_trans mL.size mAll.size)
  have h59:=re.mv m59 fun j hj=>by have:=own j hj;omega
  refine ae MI MI (ao MI MI (bj) (ao MI MI (bk) ?_))
  refine ah MI MI (aq (o:=4) Mt MI (by kernel_rfl) MI) ?_
  refine ar MI MI se ?_
  refine ac MI MI (ag (ab (aa (ae MI MI (ak MI MI (ke.ld Mt MI (by kernel_rfl)) ?_)))))
  refine aI (vs:=[(0,.agg #[I n1,I n2,I n3,I n4,B q.1,x,y])]) MI MI hr58 ?_
  refine a6 MI MI hr59 ?_
  obtain⟨k',rfl⟩:∃k',k=k'+1:=⟨k-1,by omega⟩
  refine ac MI MI (ag (aS ?_))
  refine fb (k') (v59) (s6) (ps++[⟨n1,n2,n3,n4,q⟩]) ⟨rfl,rfl,rfl,rfl,trivial⟩ ⟨(mL.trans mAll fun _ hn _=>hn).trans m59 fun j hj hlt=>by have:=(own j hj).1;omega,h59,o59,by simp;omega,pE hR (vX q1 q2 q3 q4 q5),by have:=hsl l rfl;simp;omega,(fun l' e=>by
   subst e
   have:=hsl l rfl
   have:=zM _ _ _ (show qV l=some (_,l') from vX (st:=some l) q1 q2 q3 q4 q5)
   simp
   omega)⟩ (by omega)
 ·refine aa (ae MI MI (al MI MI MI (dm (by simp) bo) (ae MI MI (an MI MI MI (an MI MI MI (an MI MI MI (an MI MI MI (an MI MI MI ?_))))))))
  refine aD MI MI MI (ag (ab (cq MI (bc (aJ (aJ (bf (ab (af (aa (ae MI MI (ae MI MI (al MI MI MI (dm (by simp) bo) ?_)))))))))))))
  refine ac MI MI (ac MI MI (ag (ab (aw (be MI MI MI ?_)))))
  exact⟨_,rfl,mL,ps,v,none,rfl,rL,hvo,hrL,tI qU hR⟩
 ·refine aa (ae MI MI (al MI MI MI (cJ MI bo) (ae MI MI (aj MI (ae MI MI (aj MI (aP (r:=I ps.length) MI MI ((bg (f:=bN) Mm rL.rp)) ?_)))))))
  refine aj MI (aZ MI MI (mp Me Mf) (aj MI (ae MI MI (aj MI (al MI MI MI (dm (mt (IP hnl hN).1 (by omega)) gF) ?_)))))
  refine ap MI MI MI (ag (ab (cq MI (bc (aJ (aJ (bf (ab (af (aa (ae MI MI (ae MI MI (al MI MI MI (cJ MI bo) (ac MI MI ?_))))))))))))))
  refine ac MI MI (ag (ab (aw (be MI MI MI ?_))))
  exact⟨_,rfl,mL,ps,v,some l,rfl,rL,hvo,hrL,tH qU (by subst h0;exact hR)⟩
end Go.Rl
namespace Go.Rl
open Go.RowKit Go.Proofs
theorem wo:(Tryz.prog.info? 173).map (fun i=>(i.zero,i.size,i.bytes))=some (some (.agg #[I 0,B false,B false,.slice none 0 0,.slice none 0 0,.slice none 0 0]),6,96):=by kernel_rfl
theorem FM:(Tryz.prog.info? 52).map (fun i=>(i.zero,i.size,i.bytes))=some (some (.agg #[.slice none 0 0,I 0,I 0,B false,.slice none 0 0,.slice none 0 0,.slice none 0 0,B false,.slice none 0 0]),9,152):=by kernel_rfl
theorem cx (l:dI):(cY l).size=6:=by simp[cY,qk,iY,nf,gS,Dt.size,Dt.sizeAll]
theorem cw (n:aW):(bG n).size=9:=by cases n;simp[bG,dy,qk,iY,nf,gS,Dt.size,Dt.sizeAll]
theorem jK {X:Nat→Prop} {w:World}:cH X w (.sl []) [.slice none 0 0]:=by
 simp only[cH]
 exact⟨none,0,0,rfl,rfl,Nat.le_refl _,Nat.zero_le _,fun _=>rfl,fun h=>absurd h (by omega)⟩
theorem bX {X:Nat→Prop} {w:World} (b:Bool):cH X w (.bool b) [B b]:=by simp only[cH,B]
theorem wq {X:Nat→Prop} {w:World} {l:dI} {x y v:Value} (h:cH X w (iY l.va) [B l.va.1,x,y]) (hp:cH X w (gS l.pf) [v]):cH X w (cY l) [I l.un,B l.up,B l.va.1,x,y,v]:=by
 unfold cY
 simp only[cH.eq_5]
 exact aR.cons (a:=[I l.un]) (nz _) (aR.cons (a:=[B l.up]) (bX _) (aR.cons (a:=[B l.va.1,x,y]) h (aR.cons (b:=[]) hp aR.nil)))
theorem et {X:Nat→Prop} {w:World} {ls:List dI} {d:bS} {ks:List aW} {em:Bool} {ps:List cb} {vl vk vp x y:Value} (hl:cH X w (.sl (ls.map cY)) [vl]) (hd:cH X w (dy d) [I d.kd,I d.ix,B d.at_.1,x,y]) (hk:cH X w (.sl (ks.map bG)) [vk]) (hp:cH X w (gS ps) [vp]):
 cH X w (bG (.mk ls d ks em ps)) [vl,I d.kd,I d.ix,B d.at_.1,x,y,vk,B em,vp]:=by
 unfold bG
 simp only[cH.eq_5]
 exact aR.cons (a:=[vl]) hl (aR.cons (a:=[I d.kd,I d.ix,B d.at_.1,x,y]) hd (aR.cons (a:=[vk]) (by rw[kU];exact hk) (aR.cons (a:=[B em]) (bX _) (aR.cons (b:=[]) hp aR.nil))))
theorem js {X:Nat→Prop} {w:World}:cH X w (dy li) [I 0,I 0,B false,.slice none 0 0,.slice none 0 0]:=
 wm (d:=li) (by
  simp only[iY,li,KN,cH.eq_5]
  exact aR.cons (a:=[B false]) (bX _) (aR.cons (a:=[.slice none 0 0]) jK (aR.cons (b:=[]) jK aR.nil)))
theorem Kc {P:Program} {w:World} {t:TypeId} {x y:Operand} {n:Nat} (hn:n<18446744073709551616):(bin .eql t x y (bF (UInt64.ofNat n)) (bF 1)).run P w=.ok (B (decide (n=1))) w:=by
 have e:(decide (UInt64.ofNat n=1))=decide (n=1):=by
  by_cases h:n=1
  ·subst h;rfl
  ·have:UInt64.ofNat n≠1:=fun e=>h (by have:=congrArg UInt64.toNat e;rw[UInt64.toNat_ofNat',show(1:UInt64).toNat=1 from rfl] at this;omega)
   rw[decide_eq_false h,decide_eq_false this]
 rw[←e]
 exact gG
def Lo (st:Option (List UInt8)) (nd:aW) (s1:Option (List UInt8)) (ok:Bool):Prop:=(ok=true→fI gT st nd s1∧s1≠none)∧(ok=false→st.bind gT=none)
def Ek (g:Nat) (w:World) (st:Option (List UInt8)) (r:Value) (w':World):Prop:=
 Mv (RX g) w w'∧∃(nd:aW) (cs:List Value) (s1:Option (List UInt8)) (ok:Bool),r=.tuple #[.agg cs.toArray,B ok]∧cH (fun k=>k<w.heap.size) w' (bG nd) cs∧au cs∧cn g s1 w'∧Lo st nd s1 ok
def yw (s3:Option (List UInt8)):Nat→List aW→Option (List UInt8)→Bool→Prop
 |0,ks,so,ok=>ks=[]∧so=s3∧ok=s3.isSome
 |1,ks,so,ok=>∃a,ks=[a]∧Lo s3 a so ok
 |_+2,ks,so,ok=>∃a b s4,ks=[a,b]∧fI gT s3 a s4∧s4≠none∧Lo s4 b so ok
theorem yw.step {s3 so s6:Option (List UInt8)} {ks:List aW} {nd:aW} {ok6:Bool}:∀{i:Nat},yw s3 i ks so true→i<2→Lo so nd s6 ok6→yw s3 (i+1) (ks++[nd]) s6 ok6
 |0,⟨h1,h2,_⟩,_,hN=>⟨nd,by rw[h1];rfl,h2▸hN⟩
 |1,⟨a,h1,h2⟩,_,hN=>⟨a,nd,so,by rw[h1];rfl,(h2.1 rfl).1,(h2.1 rfl).2,hN⟩
 |i+2,_,h,_=>by omega
theorem yw.done {st s1 s2 s3 so:Option (List UInt8)} {ks:List aW} {ls:List dI} {d:bS} {tag:Nat} {ok:Bool} {i:Nat} (h:yw s3 i ks so ok) (hx:ok=false∨2≤i) (hn:¬tag<2) (q1:fI (jP 2) st tag s1) (q2:fI i8 s1 ls s2) (q3:fI oa s2 d s3):Lo st (.mk ls d ks false []) so ok:=by
 refine⟨fun e=>?_,fun e=>?_⟩
 ·subst e
  have h2i:2≤i:=by
   rcases hx with hx|hx
   ·cases hx
   ·exact hx
  obtain⟨i,rfl⟩:∃j,i=j+2:=⟨i-2,by omega⟩
  obtain⟨a,b,s4,rfl,h2,h3,h4⟩:=h
  exact⟨CS hn q1 q2 q3 h2 (h4.1 rfl).1,(h4.1 rfl).2⟩
 ·subst e
  match i,h with
  |0,⟨h1,h2,h3⟩=>
   have:s3=none:=by cases s3 with|none=>rfl|some t=>cases h3
   subst this
   exact Hy hn q1 q2 q3
  |1,⟨a,h1,h2⟩=>exact Hz hn q1 q2 q3 (h2.2 rfl)
  |i+2,⟨a,b,s4,h1,h2,h3,h4⟩=>exact HB hn q1 q2 q3 h2 (h4.2 rfl)
theorem yx {α:Type} {f:List UInt8→Option (α×List UInt8)} {st s1 so:Option (List UInt8)} {N k:Nat} {done:List α} (hU:fI eK st N s1) (hR:s1.bind (bQ f N)=so.bind (fun l=>(bQ f (k+1) l).map fun p=>(done++p.1,p.2))) (h:so.bind f=none):st.bind (dk f)=none:=
 (hU.bindE (fun p=>bQ f p.1 p.2)).trans (FJ hR h)
theorem nA {w w4 wA:World} {g g2 g4:Nat} {z cs:List Value} {nd:aW} {st s1:Option (List UInt8)} (hg:g<w.heap.size) (l2:w.heap.size≤g2) (g42:g2<g4) (ex4:aK w w4) (k24:ci g2 52 z w4) (hz:z.length=9) (mT:Mv (fun k=>RX g k∨k=g4) w4 wA) (h1:au cs) (rp:cH (fun k=>k<w4.heap.size) wA (bG nd) cs) (hr:cn g s1 wA):
 ∃wd,(Instr.storeAt 52 (.pointer (some ⟨g2,0,none⟩)) (.agg cs.toArray)).run Tryz.prog wA=.ok () wd∧ci g2 52 cs wd∧∀ok,Lo st nd s1 ok→Ek g w st (.tuple #[.agg cs.toArray,B ok]) wd:=by
 have lt2:=k24.lt
 have hgg:g<g2:=by omega
 have k2A:=mT.blk k24 (by
  rintro(h|h)
  ·have:g2=g:=h
   omega
  ·omega)
 have hc:cs.length=9:=rp.len.trans (cw nd)
 obtain⟨wd,sd,qd,kd⟩:=k2A.stS (P:=Tryz.prog) (t:=52) (m:=cs) (by omega) (by rw[hc];kernel_rfl) h1
 have md:Mv (fun k=>k=g2) wA wd:=Mv.of_grown qd fun k hk _=>(Option.some.inj hk).symm
 refine⟨wd,sd,kd,fun ok hN=>⟨((Mv.of_ext ex4).trans mT fun j hj hlt=>?_).trans md fun j hj hlt=>by omega,nd,cs,s1,ok,rfl,rp.mv (md.weak fun j hj _=>by show j<w4.heap.size;omega) fun j hj=>.inl (by have:=ex4.size;show j<w4.heap.size;omega),h1,hr.mv md fun j hj=>by omega,hN⟩⟩
 rcases hj with hj|hj
 ·exact hj
 ·omega
theorem CW {w:World} {g:Nat} {st:Option (List UInt8)} {n:Nat} (ih:∀{w:World} {g:Nat} {st:Option (List UInt8)} {m:Nat},m<n→cn g st w→iJ st→tD m st→Calls Tryz.prog 96 #[.pointer (some ⟨g,0,none⟩)] w (bE (Ek g w st))) (hr:cn g st w) (hl:iJ st) (hn:tD n st):
 Calls Tryz.prog 96 #[.pointer (some ⟨g,0,none⟩)] w (bE (Ek g w st)):=by
 refine enter (vs:=[.pointer (some ⟨g,0,none⟩)]) Tryz.func96 MI MI MI ?_
 have hlt:=cn.lt hr
 obtain⟨tag,s1,ok1,hok1,hno1,htag,hat1,cF⟩:=yt st (most:=2) (by omega)
 obtain⟨N,s2,qU,hN,cU⟩:=zQ s1
 refine af (aa ?_)
 obtain⟨g2,w2,hr2,l2,x2,k2⟩:=aY (P:=Tryz.prog) (w:=w) (t:=52) (z:=.agg #[.slice none 0 0,I 0,I 0,B false,.slice none 0 0,.slice none 0 0,.slice none 0 0,B false,.slice none 0 0]) (l:=[.slice none 0 0,I 0,I 0,B false,.slice none 0 0,.slice none 0 0,.slice none 0 0,B false,.slice none 0 0]) (by kernel_rfl) rfl
 refine aV MI hr2 (ac MI MI (ag (ab (af (aa ?_)))))
 obtain⟨g4,w4,hr4,l4,x4,k4⟩:=aY (P:=Tryz.prog) (w:=w2) (t:=52) (z:=.agg #[.slice none 0 0,I 0,I 0,B false,.slice none 0 0,.slice none 0 0,.slice none 0 0,B false,.slice none 0 0]) (l:=[.slice none 0 0,I 0,I 0,B false,.slice none 0 0,.slice none 0 0,.slice none 0 0,B false,.slice none 0 0]) (by kernel_rfl) rfl
 refine aV MI hr4 ?_
 have hr4:=cn.ext hr (x2.trans x4)
 have ex4:=(x2.trans x4)
 have lt4:=k4.lt
 have lt2:=k2.lt
 have g42:g2<g4:=by omega
 have hg4:g<g4:=by omega
 have k24:=k2.ext x4
 have sz4:=ex4.size
 refine ag (ab (af (aa (ae MI MI (am wi MI MI ((cF hr4)) ?_)))))
 rintro v16 w16 ⟨g16,rfl,hr16⟩
 have m16:=ep.kp hr4 g16
 have mF:Mv (fun k=>RX g k∨k=g4) w4 w16:=Mv.of_grown g16 fun k hk _=>.inl (Option.some.inj hk).symm
 have k16:=k4.other g16 (fun e=>by have:=Option.some.inj e;omega)
 refine ae MI MI (ao MI MI (bj) (ao MI MI (bk) (ac MI MI (ac MI MI (ag (ab (af (af ?_))))))))
 rcases ok1 with _|_
 ·refine aa (ae MI MI (bt MI MI bu (ag (ab (bh MI (af ?_))))))
  obtain⟨wd,sd,kd,fin⟩:=nA (st:=st) (nd:=.mk [] li [] false []) hlt l2 g42 ex4 k24 rfl mF (au.cons rfl (au.cons rfl (au.cons rfl (au.cons rfl (au.cons rfl (au.cons rfl (au.cons rfl (au.cons rfl (au.cons rfl au.nil))))))))) (et jK js jK jK) hr16
  refine aa (ak MI MI (k16.ld L9 MI (by kernel_rfl)) ?_)
  refine ar MI MI sd ?_
  refine ac MI MI (ag (ab (aw (ay ?_))))
  refine cu MI MI MI kd L9 MI (by kernel_rfl) ?_
  exact⟨_,rfl,fin false ⟨(fun e=>nomatch e),fun _=>Hw (hno1 rfl)⟩⟩
 ·refine aa (ae MI MI (bt MI MI bu (ag (ab (cq MI (aA (ab (af ?_))))))))
  obtain⟨qF,nF⟩:=hok1 rfl
  obtain⟨l1,rfl⟩:∃l1,s1=some l1:=by
   cases s1 with
   |none=>exact absurd rfl nF
   |some l1=>exact⟨l1,rfl⟩
  have hl1:iJ (some l1):=hat1 _ hl
  have hn1:l1.length+1≤n:=by
   obtain⟨l0,e0,q0⟩:=qF.some
   have:=qW 2 l0 _ _ q0
   have:=hn l0 e0
   omega
  have an1:tD (n-1) (some l1):=fun l' e=>by cases e;omega
  obtain⟨w5,s5,q5,k5⟩:=k16.stC (P:=Tryz.prog) (t:=4) (i:=7) (v:=B (decide (tag=1))) wh rfl (by simp)
  have k5:ci g4 52 [.slice none 0 0,I 0,I 0,B false,.slice none 0 0,.slice none 0 0,.slice none 0 0,B (decide (tag=1)),.slice none 0 0] w5:=k5
  have m5:Mv (fun k=>k=g4) w16 w5:=Mv.of_grown q5 fun k hk _=>(Option.some.inj hk).symm
  have r5:cn g (some l1) w5:=hr16.mv m5 fun j hj=>by omega
  have mE:Mv (fun k=>RX g k∨k=g4) w4 w5:=mF.trans m5 fun _ hj _=>.inr hj
  refine aa (ae MI MI (al (v:=bF 1) (r:=B (decide (tag=1))) MI MI MI ((Kc htag)) ?_))
  refine ah MI MI (aq (o:=7) L9 MI (by kernel_rfl) MI) ?_
  refine ar MI MI s5 ?_
  refine ag (ab (af (aa (ae MI MI (am fw MI MI ((cU r5)) ?_)))))
  rintro v27 w27 ⟨g27,rfl,hr27⟩
  have m27:=ep.kp r5 g27
  have mG:Mv (fun k=>RX g k∨k=g4) w4 w27:=mE.trans (Mv.of_grown g27 fun k hk _=>(Option.some.inj hk).symm:Mv (RX g) w5 w27) fun _ hj _=>.inl hj
  have k27:=k5.other g27 (fun e=>by have:=Option.some.inj e;omega)
  refine ae MI MI (ao MI MI (bj) (ao MI MI (bk) (ac MI MI (ac MI MI (ag (ab (af (af ?_))))))))
  rcases s2 with _|lc
  ·refine aa (ae MI MI (al MI MI MI (cJ (by simp) cT) (ag (ab (bh MI (af ?_))))))
   obtain⟨wd,sd,kd,fin⟩:=nA (st:=st) (nd:=.mk [] li [] (decide (tag=1)) []) hlt l2 g42 ex4 k24 rfl mG (au.cons rfl (au.cons rfl (au.cons rfl (au.cons rfl (au.cons rfl (au.cons rfl (au.cons rfl (au.cons rfl (au.cons rfl au.nil))))))))) (et jK js jK jK) hr27
   refine aa (ak MI MI (k27.ld L9 MI (by kernel_rfl)) ?_)
   refine ar MI MI sd ?_
   refine ac MI MI (ag (ab (aw (ay ?_))))
   refine cu MI MI MI kd L9 MI (by kernel_rfl) ?_
   exact⟨_,rfl,fin false ⟨(fun e=>nomatch e),fun _=>vY qF (tI (done:=([]:List dI)) qU rfl)⟩⟩
  ·refine aa (ae MI MI (al MI MI MI (dm (by simp) cT) (ag (ab (cq MI (aA (ab (af (aF ?_)))))))))
   refine iW (fun(k:Nat) (v:Value) (l:List UInt8) (ls:List dI)=>[(0,.pointer (some ⟨g,0,none⟩)),(2,.pointer (some ⟨g2,0,none⟩)),(4,.pointer (some ⟨g4,0,none⟩)),(5,bF (UInt64.ofNat tag)),(7,bF (UInt64.ofNat N))]) (fun(k:Nat) (v:Value) (l:List UInt8) (ls:List dI) w'=>Mv (fun k=>RX g k∨k=g4) w4 w'∧cn g (some l) w'∧ci g4 52 [v,I 0,I 0,B false,.slice none 0 0,.slice none 0 0,.slice none 0 0,B (decide (tag=1)),.slice none 0 0] w'∧f9 173 6 w4.heap.size cY ls v w'∧k+ls.length=N∧(some lc).bind (bQ nw N)=(some l).bind (fun l=>(bQ nw k l).map fun p=>(ls++p.1,p.2))∧l.length+ls.length≤549755813888∧l.length≤n-1) (fun(k:Nat) (v:Value) (l:List UInt8) (ls:List dI)=>k) (N) (.slice none 0 0) (lc) ([]) ⟨rfl,rfl,rfl,rfl,rfl,trivial⟩ ⟨mG,hr27,k27,f9.nil _,by simp,qT,by have:=qU.atM lC.le hl1 lc rfl;simpa using this,qU.atM lC.le an1 lc rfl⟩ ?_
   rintro k v l ls wL ⟨mL,hrL,kL,oL,hk,hR,hql,hnl⟩
   refine af (af ?_)
   have rL:=oL.rpx cx (by omega)
   have hvo:v.oneCell'=true:=by obtain⟨_,_,_,rfl⟩:=oL.isS;rfl
   have hll:ls.length<18446744073709551616:=by omega
   have hgL:g<wL.heap.size:=by have:=mL.size;omega
   have hg4L:g4<wL.heap.size:=by have:=mL.size;omega
   have hlL:iJ (some l):=fun l' e=>by cases e;omega
   rcases Nat.eq_zero_or_pos k with h0|h0
   rotate_left
   ·refine aa (ah MI MI (aq (o:=0) L9 MI (by kernel_rfl) MI) (ak MI MI (ai Ml MI (kL.cell (i:=0) MI)) ?_))
    refine aP (r:=I ls.length) MI MI ((bg (f:=cY) Ml rL.rp)) (aZ MI MI (mp Me Mf) ?_)
    refine ae MI MI (al MI MI MI (cJ ((IP hll hN).2 (by omega)) gF) (ag (ab (bh MI (aA (ab (aF (af ?_))))))))
    obtain⟨n1,sA,q1,i1,c1⟩:=qX (some l)
    obtain⟨up,sB,ok2,hok2,hno2,hup,hat2,c2⟩:=yt sA (most:=1) (by omega)
    have atB:iJ sB:=hat2 _ (q1.atM eO.le hlL)
    refine aa ?_
    obtain⟨g9,w9,hr9,l9,x9,k9⟩:=aY (P:=Tryz.prog) (w:=wL) (t:=173) (z:=.agg #[I 0,B false,B false,.slice none 0 0,.slice none 0 0,.slice none 0 0]) (l:=[I 0,B false,B false,.slice none 0 0,.slice none 0 0,.slice none 0 0]) (by kernel_rfl) rfl
    refine aV MI hr9 (ag (ab (af ?_)))
    have hr9:=cn.ext hrL x9
    have e9:=x9
    have hg9:g<g9:=by omega
    have lt9:=k9.lt
    have h49:g4<g9:=by omega
    refine aa (ae MI MI (am jg MI MI ((c1 hr9)) ?_))
    rintro v41 w41 ⟨g41,rfl,hr41⟩
    have m41:=ep.kp hr9 g41
    obtain⟨wa,sa,ma,ka,ra,_⟩:=ep.put (P:=Tryz.prog) (t:=3) (v:=I n1) k9 g41 hr41 hg9 (i:=0) gr rfl (by simp)
    refine ae MI MI (ao MI MI (bj) (ao MI MI bk ?_))
    refine ah MI MI (aq (o:=0) Mn MI (by kernel_rfl) MI) ?_
    refine ar MI MI sa ?_
    refine ag (ab (af (aa (ae MI MI (am wi MI MI ((c2 ra)) ?_)))))
    rintro v47 w47 ⟨g47,rfl,hr47⟩
    have m47:=ep.kp ra g47
    obtain⟨wb,sb,mb,kb,rb,_⟩:=ep.put (P:=Tryz.prog) (t:=4) (v:=B (bT up)) ka g47 hr47 hg9 (i:=1) wh rfl (by simp)
    refine ae MI MI (ao MI MI (bj) (ao MI MI (bk) (ac MI MI (ac MI MI (ag (ab (af (aa (ae MI MI (al (v:=bF 1) (r:=B (bT up)) MI MI MI ((Kc hup)) ?_))))))))))
    refine ah MI MI (aq (o:=1) Mn MI (by kernel_rfl) MI) ?_
    refine ar MI MI sb ?_
    refine ag (ab (af (aa (ae MI MI (am tA MI MI ((CU rb atB)) ?_)))))
    rintro v55 w55 ⟨g55,q,x,y,sC,rfl,hx,hy,rq,hr55,q3⟩
    have m55:=ep.kp rb g55
    obtain⟨wc,sc,mc,kc,rc,qc⟩:=ep.putO (P:=Tryz.prog) (t:=46) (m:=[B q.1,x,y]) kb g55 hr55 hg9 2 (by simp) (by kernel_rfl) (au.cons rfl (au.cons hx.one (au.cons hy.one au.nil)))
    have kc:ci g9 173 [I n1,B (bT up),B q.1,x,y,.slice none 0 0] wc:=kc
    refine ae MI MI (ao MI MI (bj) (ao MI MI bk ?_))
    refine ah MI MI (aq (o:=2) Mn MI (by kernel_rfl) MI) ?_
    refine ar MI MI sc ?_
    refine ag (ab (af (aa (ae MI MI (am uo MI MI ((uq rc (q3.atM tE.le atB))) ?_)))))
    rintro v61 w61 ⟨m61,ps,vp,sD,rfl,rp61,hvp,hr61,q4⟩
    have m61:=m61
    have k61:=m61.blk kc (fun e=>by have:g9=g:=e;omega)
    obtain⟨we,se,qe,ke⟩:=k61.stC (P:=Tryz.prog) (t:=50) (i:=5) (v:=vp) (by kernel_rfl) hvp (by simp)
    have ke:ci g9 173 [I n1,B (bT up),B q.1,x,y,vp] we:=ke
    have me:Mv (fun k=>k=g9) w61 we:=Mv.of_grown qe fun k hk _=>(Option.some.inj hk).symm
    have re:cn g sD we:=hr61.mv me fun j hj=>by omega
    have mAll:Mv (RX g) wL we:=((Mv.of_ext e9).trans (((ma.trans mb fun _ hn _=>hn).trans mc fun _ hn _=>hn).trans m61 fun _ hn _=>.inl hn) fun j hj hlt=>by
     rcases hj with hj|hj
     ·exact hj
     ·omega).trans me fun j hj hlt=>by omega
    have hXL:∀j,RX g j→j<w4.heap.size:=fun j hj=>by have:j=g:=hj;omega
    have oE:=oL.mv mAll hXL
    have kE:=mAll.blk kL (fun e=>by have:g4=g:=e;omega)
    have mLE:Mv (fun k=>RX g k∨k=g4) w4 we:=mL.trans mAll fun _ hj _=>.inl hj
    have sb9:w9.heap.size≤wb.heap.size:=Nat.le_trans ma.size mb.size
    have sc9:wb.heap.size≤w55.heap.size:=g55.size
    have sc10:w55.heap.size≤wc.heap.size:=qc.size
    have szL:wL.heap.size≤w9.heap.size:=e9.size
    have rqe:=rq.mv (((Mv.of_grown qc fun k hk _=>by obtain rfl:=Option.some.inj hk;show g9<wb.heap.size;omega:Mv (fun k=>k<wb.heap.size) w55 wc).trans m61 fun j hj _=>by have:j=g:=hj;show j<wb.heap.size;omega).trans me fun j hj _=>by show j<wb.heap.size;omega) fun _ hk=>.inl hk
    have rpe:=rp61.mv (me.weak fun j hj _=>by show j<wc.heap.size;omega) fun _ hk=>.inl hk
    refine ae MI MI (ao MI MI (bj) (ao MI MI (bk) ?_))
    refine ah MI MI (aq (o:=5) Mn MI (by kernel_rfl) MI) ?_
    refine ar MI MI se ?_
    refine ac MI MI (ag (ab (af (af ?_))))
    obtain⟨k',rfl⟩:∃k',k=k'+1:=⟨k-1,by omega⟩
    rcases ok2 with _|_
    rotate_left
    rcases sD with _|lD
    ·refine aa (ae MI MI (bt MI MI bu (ae MI MI (aj MI (ae MI MI (aj MI (bt MI MI bu (aD MI MI MI (ag (ab (bh MI (af ?_))))))))))))
     obtain⟨wd,sd,kd,fin⟩:=nA (st:=st) (nd:=.mk ls li [] (decide (tag=1)) []) hlt l2 g42 ex4 k24 rfl mLE (au.cons hvo (au.cons rfl (au.cons rfl (au.cons rfl (au.cons rfl (au.cons rfl (au.cons rfl (au.cons rfl (au.cons rfl au.nil))))))))) (et (oE.rpx cx (by omega)) js jK jK) re
     refine aa (ak MI MI (kE.ld L9 MI (by kernel_rfl)) ?_)
     refine ar MI MI sd ?_
     refine ac MI MI (ag (ab (aw (ay (aX (ay (aX (ay ?_))))))))
     refine cu MI MI MI kd L9 MI (by kernel_rfl) ?_
     exact⟨_,rfl,fin false ⟨(fun e=>nomatch e),fun _=>vY qF (yx qU hR (HE q1 (hok2 rfl).1 q3 q4))⟩⟩
    ·refine aa (ae MI MI (bt MI MI bu (ae MI MI (aj MI (ae MI MI (aj MI (bt MI MI bu (aD MI MI MI (ag (ab (cq MI (aA ?_))))))))))))
     refine ab ?_
     have own:∀j,v.ownBlock=some j→w4.heap.size≤j∧j<wL.heap.size:=oL.lt
     have qLm:fI nw (some l) ⟨n1,bT up,q,ps⟩ (some lD):=CR q1 (hok2 rfl).1 q3 q4
     have hlD:=zN l _ lD qLm
     have hY:∀j,(j<w4.heap.size∨v.ownBlock=some j)→j<wL.heap.size:=fun j hj=>by
      rcases hj with hj|hj
      ·have:=mL.size;omega
      ·exact(own j hj).2
     have hM:=wq (l:=⟨n1,bT up,q,ps⟩) (rqe.weak (Y:=fun k=>k<w4.heap.size∨v.ownBlock=some k) fun j hj=>.inl (by have:=hY j hj;show j<wb.heap.size;omega)) (rpe.weak fun j hj=>.inl (by have:=hY j hj;show j<wc.heap.size;omega))
     obtain⟨x75,w75,v76,w76,hr75,hr76,o76,m76,n76⟩:=oE.push (ty:=42) (t:=42) Ml wo rfl (by omega) (by omega) (by omega) (au.cons rfl (au.cons rfl (au.cons rfl (au.cons hx.one (au.cons hy.one (au.cons hvp au.nil)))))) hM cx (by omega) mLE.size
     have h76:cn g (some lD) w76:=re.mv m76 fun j hj=>by have:=own j hj;omega
     have k76:=m76.blk kE (fun hh=>by have:=own g4 hh;omega)
     obtain⟨A76,n76',c76,rfl⟩:=o76.isS
     obtain⟨wf,sf,qf,kf⟩:=k76.stC (P:=Tryz.prog) (t:=42) (i:=0) (v:=.slice A76 n76' c76) (by kernel_rfl) rfl (by simp)
     have kf:ci g4 52 [.slice A76 n76' c76,I 0,I 0,B false,.slice none 0 0,.slice none 0 0,.slice none 0 0,B (decide (tag=1)),.slice none 0 0] wf:=kf
     have mf:Mv (fun k=>k=g4) w76 wf:=Mv.of_grown qf fun k hk _=>(Option.some.inj hk).symm
     have hf:cn g (some lD) wf:=h76.mv mf fun j hj=>by omega
     have of':=o76.mv mf fun j hj=>by omega
     refine aa (ah MI MI (aq (o:=0) L9 MI (by kernel_rfl) MI) (ak MI MI (ai Ml MI (kE.cell (i:=0) MI)) ?_))
     refine ak MI MI (ke.ld Mn MI (by kernel_rfl)) ?_
     refine aI (vs:=[(0,.agg #[I n1,B (bT up),B q.1,x,y,vp])]) MI MI hr75 ?_
     refine a6 MI MI hr76 ?_
     refine ah MI MI (aq (o:=0) L9 MI (by kernel_rfl) MI) ?_
     refine ar MI MI sf ?_
     refine ag (aS ?_)
     refine fb (k') (.slice A76 n76' c76) (lD) (ls++[⟨n1,bT up,q,ps⟩]) ⟨rfl,rfl,rfl,rfl,rfl,trivial⟩ ⟨(mLE.trans m76 fun j hj hlt=>by have:=(own j hj).1;omega).trans mf fun _ hj _=>.inr hj,hf,kf,of',by simp;omega,pE hR qLm,by simp;omega,by omega⟩ (by omega)
    ·refine aa (ae MI MI (bt MI MI bu (ae MI MI (an MI MI MI (an MI MI MI (ap MI MI MI (ag (ab (bh MI (af ?_))))))))))
     obtain⟨wd,sd,kd,fin⟩:=nA (st:=st) (nd:=.mk ls li [] (decide (tag=1)) []) hlt l2 g42 ex4 k24 rfl mLE (au.cons hvo (au.cons rfl (au.cons rfl (au.cons rfl (au.cons rfl (au.cons rfl (au.cons rfl (au.cons rfl (au.cons rfl au.nil))))))))) (et (oE.rpx cx (by omega)) js jK jK) re
     refine aa (ak MI MI (kE.ld L9 MI (by kernel_rfl)) ?_)
     refine ar MI MI sd ?_
     refine ac MI MI (ag (ab (aw (ay (aX (ay (aX (ay ?_))))))))
     refine cu MI MI MI kd L9 MI (by kernel_rfl) ?_
     exact⟨_,rfl,fin false ⟨(fun e=>nomatch e),fun _=>vY qF (yx qU hR (HD q1 (hno2 rfl)))⟩⟩
   ·refine aa (ah MI MI (aq (o:=0) L9 MI (by kernel_rfl) MI) (ak MI MI (ai Ml MI (kL.cell (i:=0) MI)) ?_))
    refine aP (r:=I ls.length) MI MI ((bg (f:=cY) Ml rL.rp)) (aZ MI MI (mp Me Mf) ?_)
    refine ae MI MI (al MI MI MI (dm (mt (IP hll hN).1 (by omega)) gF) (ag (ab (cq MI (bc (aJ (aJ (bf (ab (af (af ?_)))))))))))
    have qLs:fI i8 (some l1) ls (some l):=tH qU (by subst h0;exact hR)
    have anL:tD (n-1) (some l):=fun l' e=>by cases e;exact hnl
    by_cases ht:tag<2
    ·refine aa (ae MI MI (al (v:=bF 2) MI MI MI (cJ ((IP htag (by omega)).2 ht) gF) (ag (ab (bh MI (af (aa (ae MI MI (am uo MI MI ((uq hrL hlL)) ?_)))))))))
     rintro v82 w82 ⟨m82,ps,vp,s3,rfl,rp82,hvp,hr82,qP⟩
     have m82:=m82
     have k82:=m82.blk kL (fun e=>by have:g4=g:=e;omega)
     obtain⟨we,se,qe,ke⟩:=k82.stC (P:=Tryz.prog) (t:=50) (i:=8) (v:=vp) (by kernel_rfl) hvp (by simp)
     have ke:ci g4 52 [v,I 0,I 0,B false,.slice none 0 0,.slice none 0 0,.slice none 0 0,B (decide (tag=1)),vp] we:=ke
     have me:Mv (fun k=>k=g4) w82 we:=Mv.of_grown qe fun k hk _=>(Option.some.inj hk).symm
     have re:cn g s3 we:=hr82.mv me fun j hj=>by omega
     have hXL:∀j,RX g j→j<w4.heap.size:=fun j hj=>by have:j=g:=hj;omega
     have oE:=(oL.mv m82 hXL).mv me fun j hj=>by omega
     have mLE:Mv (fun k=>RX g k∨k=g4) w4 we:=(mL.trans m82 fun _ hj _=>.inl hj).trans me fun _ hj _=>.inr hj
     have rpe:=rp82.mv (me.weak fun j hj _=>by show j<wL.heap.size;omega) fun _ hk=>.inl hk
     obtain⟨wd,sd,kd,fin⟩:=nA (st:=st) (nd:=.mk ls li [] (decide (tag=1)) ps) hlt l2 g42 ex4 k24 rfl mLE (au.cons hvo (au.cons rfl (au.cons rfl (au.cons rfl (au.cons rfl (au.cons rfl (au.cons rfl (au.cons rfl (au.cons hvp au.nil))))))))) (et (oE.rpx cx (by omega)) js jK (rpe.weak fun j hj=>.inl (by have:=mL.size;show j<wL.heap.size;omega))) re
     refine ae MI MI (ao MI MI (bj) (ao MI MI (bk) ?_))
     refine ah MI MI (aq (o:=8) L9 MI (by kernel_rfl) MI) ?_
     refine ar MI MI se ?_
     refine ac MI MI (ag (ab (af (aa (ak MI MI (ke.ld L9 MI (by kernel_rfl)) (ae MI MI ?_))))))
     refine ar MI MI sd ?_
     refine ac MI MI (ag (ab (aw (ay ?_))))
     refine cu MI MI MI kd L9 MI (by kernel_rfl) ?_
     exact⟨_,rfl,fin _ ⟨fun e=>⟨FI ht qF qLs qP,fun e3=>by rw[e3] at e;cases e⟩,fun e=>Hx ht qF qLs (by
      cases s3 with
      |none=>exact qP
      |some t=>cases e)⟩⟩
    ·refine aa (ae MI MI (al (v:=bF 2) MI MI MI (dm (mt (IP htag (by omega)).1 ht) gF) (ag (ab (cq MI (aA (ab (af (aa (ae MI MI ?_))))))))))
     refine am yr MI MI ((yu hrL hlL)) ?_
     rintro v90 w90 ⟨m90,d,x,y,s3,rfl,rd90,hx,hy,hr90,qD⟩
     have m90:=m90
     have k90:=m90.blk kL (fun e=>by have:g4=g:=e;omega)
     obtain⟨we,se,qe,ke⟩:=k90.stO (P:=Tryz.prog) (t:=48) (m:=[I d.kd,I d.ix,B d.at_.1,x,y]) 1 (by simp) (by kernel_rfl) (au.cons rfl (au.cons rfl (au.cons rfl (au.cons hx (au.cons hy au.nil)))))
     have ke:ci g4 52 [v,I d.kd,I d.ix,B d.at_.1,x,y,.slice none 0 0,B (decide (tag=1)),.slice none 0 0] we:=ke
     have me:Mv (fun k=>k=g4) w90 we:=Mv.of_grown qe fun k hk _=>(Option.some.inj hk).symm
     have re:cn g s3 we:=hr90.mv me fun j hj=>by omega
     have hXL:∀j,RX g j→j<w4.heap.size:=fun j hj=>by have:j=g:=hj;omega
     have oE:=(oL.mv m90 hXL).mv me fun j hj=>by omega
     have mLE:Mv (fun k=>RX g k∨k=g4) w4 we:=(mL.trans m90 fun _ hj _=>.inl hj).trans me fun _ hj _=>.inr hj
     have rdE:=rd90.mv (me.weak fun j hj _=>by show j<wL.heap.size;omega) fun _ hk=>.inl hk
     have jq:cH (fun k=>k<w4.heap.size∨we.heap.size≤k) we (dy d) [I d.kd,I d.ix,B d.at_.1,x,y]:=rdE.weak fun j hj=>by
      rcases hj with hj|hj
      ·exact .inl (by have:=mL.size;show j<wL.heap.size;omega)
      ·exact .inr hj
     have rLI:cH (fun k=>k<w4.heap.size∨we.heap.size≤k) we (.sl (ls.map cY)) [v]:=(oE.rpx cx (by omega)).weak fun j hj=>hj
     have eT:decide (tag=1)=false:=decide_eq_false (by omega)
     refine ae MI MI (ao MI MI (bj) (ao MI MI (bk) ?_))
     refine ah MI MI (aq (o:=1) L9 MI (by kernel_rfl) MI) ?_
     refine ar MI MI se ?_
     refine ac MI MI (ag (ab (af (af (aa (ac MI MI (ag (ab (aF ?_)))))))))
     refine rP (fun(i:Nat) (vk:Value) (so:Option (List UInt8)) (ks:List aW) (ok:Bool)=>[(0,.pointer (some ⟨g,0,none⟩)),(2,.pointer (some ⟨g2,0,none⟩)),(4,.pointer (some ⟨g4,0,none⟩)),(6,B ok),(12,I i)]) (fun(i:Nat) (vk:Value) (so:Option (List UInt8)) (ks:List aW) (ok:Bool) w'=>Mv (fun k=>RX g k∨k=g4) w4 w'∧cn g so w'∧ci g4 52 [v,I d.kd,I d.ix,B d.at_.1,x,y,vk,B (decide (tag=1)),.slice none 0 0] w'∧f9 52 9 we.heap.size bG ks vk w'∧yw s3 i ks so ok∧ks.length=i∧i≤2∧cH (fun k=>k<w4.heap.size∨we.heap.size≤k) w' (.sl (ls.map cY)) [v]∧cH (fun k=>k<w4.heap.size∨we.heap.size≤k) w' (dy d) [I d.kd,I d.ix,B d.at_.1,x,y]∧we.heap.size≤w'.heap.size∧(ok=true→tD (n-1) so∧iJ so)) (fun(i:Nat) (vk:Value) (so:Option (List UInt8)) (ks:List aW) (ok:Bool)=>2-i) (0) (.slice none 0 0) (s3) ([]) (s3.isSome) ⟨rfl,rfl,rfl,rfl,rfl,trivial⟩ ⟨mLE,re,ke,f9.nil _,⟨rfl,rfl,rfl⟩,rfl,by omega,rLI,jq,Nat.le_refl _,fun _=>⟨qD.atM nx.le anL,qD.atM nx.le hlL⟩⟩ ?_
     rintro i vk so ks ok wM ⟨mM,hrM,kM,oM,hK,hki,hi2,rLM,rdM,szM,hAt⟩
     refine af (af ?_)
     rcases ok with _|_
     rotate_left
     by_cases hi:i<2
     ·refine aa (ae MI MI (ae MI MI (aj MI (ae MI MI (aj MI (al MI MI MI (cJ (by omega) a9) (ap MI MI MI (ag (ab (bh MI ?_))))))))))
      refine aA (ab (af (aF (af (aa ?_)))))
      obtain⟨g13,w13,hr13,l13,x13,k13⟩:=aY (P:=Tryz.prog) (w:=wM) (t:=52) (z:=.agg #[.slice none 0 0,I 0,I 0,B false,.slice none 0 0,.slice none 0 0,.slice none 0 0,B false,.slice none 0 0]) (l:=[.slice none 0 0,I 0,I 0,B false,.slice none 0 0,.slice none 0 0,.slice none 0 0,B false,.slice none 0 0]) (by kernel_rfl) rfl
      refine aV MI hr13 (ag (ab (af ?_)))
      have hrM13:=cn.ext hrM x13
      have e13:=x13
      have lt13:=k13.lt
      have szM13:=e13.size
      have hg13:g<g13:=by have:=mM.size;omega
      refine aa (ae MI MI (am wj MI MI ((ih (m:=n-1) (by omega) hrM13 (hAt MI).2 (hAt MI).1)) ?_))
      rintro v103 w103 ⟨m103,nd,cs,s6,ok6,rfl,rp103,h1cs,hr103,hNd⟩
      have m103:=m103
      have hcs:cs.length=9:=rp103.len.trans (cw nd)
      have k103:=m103.blk k13 (fun e=>by have:g13=g:=e;omega)
      obtain⟨wn,sn,qn,kn⟩:=k103.stS (P:=Tryz.prog) (t:=52) (m:=cs) (by rw[hcs];rfl) (by rw[hcs];kernel_rfl) h1cs
      have mn:Mv (fun k=>k=g13) w103 wn:=Mv.of_grown qn fun k hk _=>(Option.some.inj hk).symm
      have rn:cn g s6 wn:=hr103.mv mn fun j hj=>by omega
      have mAll:Mv (RX g) wM wn:=((Mv.of_ext e13).trans m103 fun _ hj _=>hj).trans mn fun j hj hlt=>by omega
      have hXE:∀j,RX g j→j<we.heap.size:=fun j hj=>by have:j=g:=hj;have:=mLE.size;omega
      have oN:=oM.mv mAll hXE
      have kN:=mAll.blk kM (fun e=>by have:g4=g:=e;omega)
      have mN:Mv (fun k=>RX g k∨k=g4) w4 wn:=mM.trans mAll fun _ hj _=>.inl hj
      have rpn:=rp103.mv (mn.weak fun j hj _=>by show j<w13.heap.size;omega) fun _ hk=>.inl hk
      have own:∀j,vk.ownBlock=some j→we.heap.size≤j∧j<wM.heap.size:=oM.lt
      have hY:∀j,(j<we.heap.size∨vk.ownBlock=some j)→j<w13.heap.size:=fun j hj=>by
       rcases hj with hj|hj
       ·omega
       ·have:=(own j hj).2;omega
      obtain⟨x109,w109,v110,w110,hr109,hr110,o110,m110,n110⟩:=oN.push (ty:=49) (t:=49) Mk FM rfl (by omega) (by omega) (by omega) h1cs (rpn.weak fun j hj=>.inl (hY j hj)) cw (by omega) (Nat.le_trans szM mAll.size)
      have h110:cn g s6 w110:=rn.mv m110 fun j hj=>by have:=own j hj;have:=mLE.size;omega
      have k110:=m110.blk kN (fun hh=>by have:=own g4 hh;have:=mLE.size;omega)
      obtain⟨A110,n110',c110,rfl⟩:=o110.isS
      obtain⟨wf,sf,qf,kf⟩:=k110.stC (P:=Tryz.prog) (t:=49) (i:=6) (v:=.slice A110 n110' c110) (by kernel_rfl) rfl (by simp)
      have kf:ci g4 52 [v,I d.kd,I d.ix,B d.at_.1,x,y,.slice A110 n110' c110,B (decide (tag=1)),.slice none 0 0] wf:=kf
      have mf:Mv (fun k=>k=g4) w110 wf:=Mv.of_grown qf fun k hk _=>(Option.some.inj hk).symm
      have hf:cn g s6 wf:=h110.mv mf fun j hj=>by omega
      have of':=o110.mv mf fun j hj=>by have:=mLE.size;omega
      have mI:Mv (fun k=>k<w4.heap.size∨we.heap.size≤k) wM wf:=((mAll.weak fun j hj _=>.inl (by have:j=g:=hj;omega)).trans m110 fun j hj _=>.inr (own j hj).1).trans mf fun j hj _=>.inl (by omega)
      have rLf:=rLM.mv mI fun _ hk=>.inl hk
      have rdf:=rdM.mv mI fun _ hk=>.inl hk
      refine ae MI MI (ao MI MI (bj) (ao MI MI (bk) ?_))
      refine ar MI MI sn ?_
      refine ac MI MI (ag (ab (aa (ah MI MI (aq (o:=6) L9 MI (by kernel_rfl) MI) (ak MI MI (ai Mk MI (kN.cell (i:=6) MI)) ?_)))))
      refine ak MI MI (kn.ld L9 MI (by rw[hcs];kernel_rfl)) ?_
      refine aI (vs:=[(0,.agg cs.toArray)]) MI MI hr109 ?_
      refine a6 MI MI hr110 ?_
      refine ah MI MI (aq (o:=6) L9 MI (by kernel_rfl) MI) ?_
      refine ar MI MI sf ?_
      refine ag (aS (ab (aa (ae MI MI (al MI MI MI (aN (by omega) (by omega)) (ac MI MI (ag ?_)))))))
      refine ol (i+1) (.slice A110 n110' c110) (s6) (ks++[nd]) (ok6) ⟨rfl,rfl,rfl,rfl,rfl,trivial⟩ ⟨(mN.trans m110 fun j hj hlt=>by have:=(own j hj).1;have:=mLE.size;omega).trans mf fun _ hj _=>.inr hj,hf,kf,of',hK.step hi hNd,by simp;omega,by omega,rLf,rdf,Nat.le_trans szM (Nat.le_trans mAll.size (Nat.le_trans m110.size mf.size)),fun e=>⟨(hNd.1 e).1.atM Ei.le (hAt MI).1,(hNd.1 e).1.atM Ei.le (hAt MI).2⟩⟩ (by omega)
     ·refine aa (ae MI MI (ae MI MI (aj MI (ae MI MI (aj MI (al MI MI MI (dm (by omega) a9) (ap MI MI MI (ag (ab (cq MI ?_))))))))))
      refine bc (aJ (aJ (bf (ab (af ?_)))))
      have hvk:vk.oneCell'=true:=by obtain⟨_,_,_,rfl⟩:=oM.isS;rfl
      obtain⟨wd,sd,kd,fin⟩:=nA (st:=st) (nd:=.mk ls d ks (decide (tag=1)) []) hlt l2 g42 ex4 k24 rfl mM (au.cons hvo (au.cons rfl (au.cons rfl (au.cons rfl (au.cons hx (au.cons hy (au.cons hvk (au.cons rfl (au.cons rfl au.nil))))))))) (et (rLM.weak fun j hj=>.inl (.inl hj)) (rdM.weak fun j hj=>.inl (.inl hj)) ((oM.rpx cw (by omega)).weak fun j hj=>.inl (by have:=mLE.size;show j<we.heap.size;omega)) jK) hrM
      refine aa (ak MI MI (kM.ld L9 MI (by kernel_rfl)) (ae MI MI ?_))
      refine ar MI MI sd ?_
      refine ac MI MI (ag (ab (aw ?_)))
      refine cu MI MI MI kd L9 MI (by kernel_rfl) ?_
      exact⟨_,rfl,fin true (by rw[eT];exact hK.done (.inr (by omega)) ht qF qLs qD)⟩
     ·refine aa (ae MI MI (ae MI MI (an MI MI MI (an MI MI MI (aD MI MI MI (ag (ab (cq MI (bc (aJ (aJ (bf (ab (af ?_))))))))))))))
      have hvk:vk.oneCell'=true:=by obtain⟨_,_,_,rfl⟩:=oM.isS;rfl
      obtain⟨wd,sd,kd,fin⟩:=nA (st:=st) (nd:=.mk ls d ks (decide (tag=1)) []) hlt l2 g42 ex4 k24 rfl mM (au.cons hvo (au.cons rfl (au.cons rfl (au.cons rfl (au.cons hx (au.cons hy (au.cons hvk (au.cons rfl (au.cons rfl au.nil))))))))) (et (rLM.weak fun j hj=>.inl (.inl hj)) (rdM.weak fun j hj=>.inl (.inl hj)) ((oM.rpx cw (by omega)).weak fun j hj=>.inl (by have:=mLE.size;show j<we.heap.size;omega)) jK) hrM
      refine aa (ak MI MI (kM.ld L9 MI (by kernel_rfl)) (ae MI MI ?_))
      refine ar MI MI sd ?_
      refine ac MI MI (ag (ab (aw ?_)))
      refine cu MI MI MI kd L9 MI (by kernel_rfl) ?_
      exact⟨_,rfl,fin false (by rw[eT];exact hK.done (.inl rfl) ht qF qLs qD)⟩
theorem CX:∀(n:Nat) {w:World} {g:Nat} {st:Option (List UInt8)},cn g st w→iJ st→tD n st→Calls Tryz.prog 96 #[.pointer (some ⟨g,0,none⟩)] w (bE (Ek g w st)):=by
 intro n
 induction n using Nat.strongRecOn with
 |_ n ih=>exact fun hr hl hn=>CW (n:=n) (fun {w g st m} hm h1 h2 h3=>ih m hm h1 h2 h3) hr hl hn
end Go.Rl
namespace Go.Rl
open Go.RowKit Go.Proofs
theorem El {w:World} {g:Nat} {st:Option (List UInt8)} (hr:cn g st w):Calls Tryz.prog 97 #[.pointer (some ⟨g,0,none⟩)] w (bE fun r w'=>w=w'∧r=I (if st=some [] then 0 else 5)):=(CO hr).mono fun _ _ ⟨v,h,h1,h2⟩=>⟨v,h,h2.symm,h1⟩
theorem HG {P:Program} {w:World} {t:TypeId} {x y:Operand} {l:List UInt8}:(bin .eql t x y (I (if some l=some [] then 0 else 5)) (I 0)).run P w=.ok (B (decide (l=[]))) w:=by
 by_cases h:l=[]
 ·subst h
  exact bo
 ·rw[if_neg (fun e=>h (Option.some.inj e)),decide_eq_false h]
  exact bo
end Go.Rl
namespace Go.Rl
open Go.RowKit Go.Proofs
theorem KP (st:Option (List UInt8)):∃n s1,fI eK st n s1∧n<18446744073709551616∧∀{w:World} {g:Nat},cO g st w→Calls Tryz.prog 89 #[.pointer (some ⟨g,0,none⟩)] w (bE fun r w'=>w.grownBy w' (some g)∧r=.tuple #[bF (UInt64.ofNat n),I (if s1.isSome=true then 0 else 5)]∧cO g s1 w'):=by
 cases hU:st.bind eK with
 |none=>exact⟨0,none,hU,by omega,fun hr=>Ka hr hU⟩
 |some p=>
  obtain⟨n,t⟩:=p
  refine⟨n,some t,hU,?_,fun hr=>Hr hr hU⟩
  cases st with
  |none=>cases hU
  |some l=>exact(gd (show eK l=some (n,t) from hU)).2
theorem KQ (st:Option (List UInt8)):∃n s1,fI jq st n s1∧lB n∧∀{w:World} {g:Nat},cO g st w→Calls Tryz.prog 158 #[.pointer (some ⟨g,0,none⟩)] w (bE fun r w'=>w.grownBy w' (some g)∧r=.tuple #[I n,I (if s1.isSome=true then 0 else 5)]∧cO g s1 w'):=by
 cases hU:st.bind eK with
 |none=>
  refine⟨0,none,?_,by unfold lB;omega,fun hr=>LL hr hU⟩
  cases st with
  |none=>rfl
  |some l=>show(eK l).map _=none;rw[show eK l=none from hU];rfl
 |some p=>
  obtain⟨n,t⟩:=p
  have hI:fI jq st (uz n) (some t):=by
   cases st with
   |none=>cases hU
   |some l=>show(eK l).map _=_;rw[show eK l=some (n,t) from hU];rfl
  exact⟨uz n,some t,hI,zK hI,fun hr=>LM hr hU⟩
def wr (b:Nat) (q:fi):dM:=fun v w=>∃x y,v=.agg #[B q.1,x,y]∧cH (fun k=>k<b) w (iY q) [B q.1,x,y]
def LQ (b:Nat) (q:fi) (e:Int):dM:=fun v w=>∃x y,v=.tuple #[.agg #[B q.1,x,y],I e]∧cH (fun k=>k<b) w (iY q) [B q.1,x,y]
theorem ko {X:Nat→Prop} {w:World} {q:fi} {x y:Value} (h:cH X w (iY q) [B q.1,x,y]):x.oneCell'=true∧y.oneCell'=true:=by
 obtain⟨x',y',he,hx,hy⟩:=mi h.rp
 simp only[List.cons.injEq] at he
 obtain⟨_,rfl,rfl,_⟩:=he
 obtain⟨_,_,_,rfl⟩:=hx.isS
 obtain⟨_,_,_,rfl⟩:=hy.isS
 exact⟨rfl,rfl⟩
theorem KR (st:Option (List UInt8)):∃q s1,fI i7 st q s1∧(iJ st→∀{w:World} {g:Nat},cO g st w→Calls Tryz.prog 159 #[.pointer (some ⟨g,0,none⟩)] w (bE fun r w'=>w.grownBy w' (some g)∧LQ w.heap.size q (if s1.isSome=true then 0 else 5) r w'∧cO g s1 w')):=by
 cases hR:st.bind i7 with
 |none=>
  refine⟨(false,[],[]),none,hR,fun hl w g hr=>(vO hr hl).mono fun r w' ⟨r',he,h1,h2⟩=>⟨r',he,h1,?_⟩⟩
  rw[hR] at h2
  obtain⟨v,h3,⟨x,y,rfl,hx,hy⟩,h4⟩:=h2
  have hn:∀{z:Value},bm [] z w'→cH (fun k=>k<w.heap.size) w' (nf []) [z]:=fun {z} hz=>by
   obtain⟨A,n,c,rfl,h5,h6,h7,h8,h9⟩:=hz
   simp only[nf,List.map_nil,cH]
   have:n=0:=by simp at h7;omega
   subst this
   exact⟨A,0,c,rfl,rfl,h5,h6,h9,fun h=>by omega⟩
  refine⟨⟨x,y,h3,?_⟩,h4⟩
  simp only[iY,cH]
  exact aR.cons (a:=[B false]) (by simp only[cH,B]) (aR.cons (hn hx) (aR.cons (b:=[]) (hn hy) aR.nil))
 |some p=>
  obtain⟨q,t⟩:=p
  refine⟨q,some t,hR,fun hl w g hr=>(vO hr hl).mono fun r w' ⟨r',he,h1,h2⟩=>⟨r',he,h1,?_⟩⟩
  rw[hR] at h2
  obtain⟨x,y,h3,hx,hy,h4,n1,n2⟩:=h2
  refine⟨⟨x,y,h3,?_⟩,h4⟩
  simp only[iY,cH]
  exact aR.cons (a:=[B q.1]) (by simp only[cH,B]) (aR.cons (n1.rpx' hx) (aR.cons (b:=[]) (n2.rpx' hy) aR.nil))
end Go.Rl
namespace Go.Rl
open Go.RowKit Go.Proofs
theorem Sl.mv {X:Nat→Prop} {w w':World} {sz:Nat} {xs:List Value} {v:Value} (h:Sl sz xs v w) (hm:Mv X w w') (hx:∀k,v.ownBlock=some k→¬X k):Sl sz xs v w':=by
 obtain⟨A,n,c,rfl,h2,h3,h4,h5,h6⟩:=h
 exact⟨A,n,c,rfl,h2,h3,h4,fun hn=>(h5 hn).imp fun ad h=>⟨h.1,hm.cells h.2 fun _=>hx ad.block (by rw[h.1];rfl)⟩,h6⟩
def wt {α:Type} (b sz:Nat) (f:α→Dt) (l:List α):dM:=fun v w=>∃cs,Sl sz cs v w∧(∀k,v.ownBlock=some k→b≤k)∧au cs∧aR (fun k=>k<b) w (l.map f) cs
theorem aR.one {X:Nat→Prop} {w:World} {d:Dt} {cs:List Value} (h:aR X w [d] cs):cH X w d cs:=by
 simp only[aR] at h
 obtain⟨c1,c2,rfl,h1,rfl⟩:=h
 simpa using h1
theorem HH {α:Type} {P:Program} {w:World} {t e:TypeId} {z:Value} {sz bytes b:Nat} {f:α→Dt} {a:α} {cs:List Value} (ht:P.underlying t=some (.slice e)) (hi:(P.info? e).map (fun i=>(i.zero,i.size,i.bytes))=some (some z,sz,bytes)) (hzs:z.cells.size=sz) (h0:0<sz) (hsb:sz≤16777216)
 (hb:b≤w.heap.size) (h1:au cs) (ha:cH (fun k=>k<b) w (f a) cs) (hs:(f a).size=sz):∃r w',(Instr.buildSlice t 1 (eu 0 [Value.agg cs.toArray]).toArray).run P w=.ok r w'∧aK w w'∧wt b sz f [a] r w':=by
 have hcl:cs.length=sz:=by rw[ha.len,hs]
 have hi2:(P.info? e).map (fun i=>(i.zero,i.size))=some (some z,sz):=by
  obtain⟨i,hi',h2⟩:=Option.map_eq_some_iff.1 hi
  simp only[Prod.mk.injEq] at h2
  rw[hi']
  simp[h2.1,h2.2.1]
 obtain⟨x,w0,h3,h4,h5,h6⟩:=ym (w:=w) ht hi2 hzs h0 [cs] (by simp[hcl]) (by simp) (by simpa using hsb)
 refine⟨x,w0,by simpa using h3,h4,cs,by simpa using h5,fun k hk=>?_,h1,?_⟩
 ·rw[h6] at hk
  obtain rfl:=Option.some.inj hk
  exact hb
 ·simpa using aR.cons (b:=[]) (ha.ext h4) aR.nil
def HI (b:Nat) (T:TypeId) (l:List Value):dM:=fun v w=>∃g5,v=.pointer (some ⟨g5,0,none⟩)∧b≤g5∧ci g5 T l w
theorem KS {P:Program} {w:World} {t:TypeId} {z:Value} {l:List Value} {b:Nat} (h:(P.info? t).map (·.zero)=some (some z)) (hv:z.cells=l.toArray) (hb:b≤w.heap.size):∃r w',(Instr.alloc t true (.tuple #[])).run P w=.ok r w'∧aK w w'∧HI b t l r w':=by
 obtain⟨g,w',h1,h2,h3,h4⟩:=aY (w:=w) h hv
 exact⟨_,w',h1,h3,g,rfl,Nat.le_trans hb h2,h4⟩
end Go.Rl
namespace Go.Rl
open Go.RowKit Go.Proofs
end Go.Rl
namespace Go.Rl
open Go.RowKit Go.Proofs
end Go.Rl
namespace Go.Rl
open Go.RowKit Go.Proofs
end Go.Rl
namespace Go.Rl
open Go.RowKit Go.Proofs
end Go.Rl
namespace Go.Rl
open Go.RowKit
end Go.Rl
namespace Go.Rl
open Go.RowKit
end Go.Rl
namespace Go.Rl
open Go.RowKit Go.Proofs
end Go.Rl
namespace Go.Rl
def xB (d:bS):Bool:=decide (d.kd=0)&&decide (d.ix=0)&&decide (d.at_=KN)
def oK (n:aW):Bool:=decide (1≤n.split.kd)&&decide (n.split.kd≤4)&& !n.empty&&decide (n.pf.length=0)
def lh:Nat→aW→Bool×Nat
 |0,_=>(false,0)
 |l+1,n=>match n.kids with
  |[]=>(xB n.split,1)
  |[x,y]=>if oK n=true then
    (if (lh l x).1=false∨65536<(lh l x).2 then(false,0) else((lh l y).1,1+(lh l x).2+(lh l y).2))
   else(false,0)
  |_=>(false,0)
def lF:Nat→Int→aW→Int×Bool
 |d,most,n=>if most<1 then(0,false) else match n.kids with
  |[]=>(1,xB n.split)
  |[x,y]=>if oK n=true then(match d with
    |0=>(0,false)
    |d+1=>if (lF d (most-1) x).2=false then(0,false) else(1+(lF d (most-1) x).1+(lF d (most-1-(lF d (most-1) x).1) y).1,(lF d (most-1-(lF d (most-1) x).1) y).2))
   else(0,false)
  |_=>(0,false)
def Gq:Nat→aW→Bool
 |d,n=>match n.kids with
  |[]=>xB n.split
  |[x,y]=>oK n&&(match d with
    |0=>false
    |d+1=>Gq d x&&Gq d y)
  |_=>false
def tK:Nat→aW→Nat
 |d,n=>match n.kids with
  |[x,y]=>(match d with
    |0=>1
    |d+1=>1+tK d x+tK d y)
  |_=>1
theorem Bu (d:Nat) (n:aW):1≤tK d n:=by
 unfold tK
 split
 ·split<;>omega
 ·omega
theorem zS:∀(d:Nat) (n:aW),(lh (d+1) n).1=true→Gq d n=true∧(lh (d+1) n).2=tK d n
 |d,n,h=>by
  unfold lh at h⊢
  unfold Gq tK
  split at h
  ·rename_i e
   simp only[e]
   exact⟨h,trivial⟩
  ·rename_i x y e
   simp only[e]
   split at h
   ·rename_i hi
    rw[if_pos hi]
    split at h
    ·cases h
    ·rename_i hx
     rw[if_neg hx]
     simp only[not_or,Bool.not_eq_false,Nat.not_lt] at hx
     cases d with
     |zero=>simp[lh] at hx
     |succ d=>
      obtain⟨a1,a2⟩:=zS d x hx.1
      obtain⟨b1,b2⟩:=zS d y h
      exact⟨by simp[hi,a1,b1],by simp[a2,b2]⟩
   ·cases h
  ·cases h
theorem CY:∀(d:Nat) (n:aW),Gq d n=true→tK d n≤65536→(lh (d+1) n).1=true
 |d,n,h,hc=>by
  unfold Gq at h
  unfold tK at hc
  unfold lh
  split at h
  ·exact h
  ·rename_i x y e
   simp only[e,Bool.and_eq_true] at h hc⊢
   rw[if_pos h.1]
   cases d with
   |zero=>simp at h
   |succ d=>
    simp only[Bool.and_eq_true] at h hc
    have a:=CY d x h.2.1 (by omega)
    have b:=CY d y h.2.2 (by omega)
    have a2:=(zS d x a).2
    rw[if_neg (by rw[a2,a];simp;omega)]
    exact b
  ·cases h
theorem zT:∀(d:Nat) (most:Int) (n:aW),(lF d most n).2=(Gq d n&&decide ((tK d n:Int)≤most))∧((lF d most n).2=true→(lF d most n).1=tK d n)
 |d,most,n=>by
  have hp:=Bu d n
  unfold lF
  by_cases hm:most<1
  ·rw[if_pos hm,decide_eq_false (by omega)]
   simp
  ·rw[if_neg hm]
   unfold Gq tK
   generalize n.kids=ks
   rcases ks with _|⟨x,_|⟨y,_|⟨z,t⟩⟩⟩
   ·refine⟨?_,fun _=>rfl⟩
    show xB n.split=(xB n.split&&decide (((1:Nat):Int)≤most))
    rw[decide_eq_true (by omega),Bool.and_true]
   ·simp
   ·by_cases hi:oK n=true
    ·show(if oK n=true then _ else _:Int×Bool).2=(oK n&&_&&_)∧_
     rw[if_pos hi,hi]
     cases d with
     |zero=>simp
     |succ d=>
      obtain⟨a1,a2⟩:=zT d (most-1) x
      simp only[Bool.true_and]
      by_cases hx:(lF d (most-1) x).2=false
      ·rw[if_pos hx]
       rw[hx] at a1
       refine⟨?_,fun h=>by cases h⟩
       have hpy:=Bu d y
       cases hk:Gq d x with
       |false=>simp
       |true=>
        rw[hk,Bool.true_and] at a1
        have:=of_decide_eq_false a1.symm
        rw[decide_eq_false (by omega)]
        simp
      ·rw[if_neg hx]
       have hx':(lF d (most-1) x).2=true:=by simpa using hx
       have e1:=a2 hx'
       rw[hx'] at a1
       simp only[Bool.true_eq,Bool.and_eq_true,decide_eq_true_eq] at a1
       rw[e1]
       obtain⟨b1,b2⟩:=zT d (most-1-(tK d x:Int)) y
       refine⟨?_,fun h=>?_⟩
       ·rw[b1,a1.1,Bool.true_and]
        congr 1
        exact decide_eq_decide.2 (by omega)
       ·rw[b2 (by simpa using h)]
        simp only[if_true]
        omega
    ·have hi':oK n=false:=by simpa using hi
     simp[hi']
   ·simp
def qg (n:aW):Bool:=Gq 2048 n&&decide (tK 2048 n≤65536)
theorem HJ (n:aW):(lF 2048 65536 n).2=qg n:=by
 rw[(zT 2048 65536 n).1]
 unfold qg
 congr 1
 exact decide_eq_decide.2 (by omega)
theorem HK (n:aW):((lh 2049 n).1&&decide ((lh 2049 n).2≤65536))=qg n:=by
 unfold qg
 cases h:(lh 2049 n).1 with
 |true=>
  obtain⟨a,b⟩:=zS 2048 n h
  rw[a,b]
 |false=>
  rw[Bool.false_and]
  cases hk:Gq 2048 n with
  |false=>rfl
  |true=>
   rw[Bool.true_and]
   refine(decide_eq_false fun hc=>?_).symm
   have:=CY 2048 n hk hc
   rw[h] at this
   cases this
end Go.Rl
namespace Go.Rl
open Go.RowKit Go.Proofs
end Go.Rl
namespace Go.Rl
open Go.RowKit Go.Proofs
theorem sm:aG Tryz.prog 168:=⟨_,Tryz.func168,by kernel_rfl,rfl⟩
theorem sq {w:World} {l m:List UInt32} {v u:Value} (hv:bm l v w) (hu:bm m u w):
 Calls Tryz.prog 168 #[v,u] w (bE fun r w'=>aK w w'∧r=B (decide (l=m))):=by
 refine enter (vs:=[v,u]) Tryz.func168 MI MI MI ?_
 have hll:=hv.len
 refine af (aa (ac MI MI (ag (ab (af (af (aa (ae MI MI (aP MI MI (bA L8 hv) (ae MI MI (aP MI MI (bA L8 hu) ?_)))))))))))
 refine al MI MI MI (cT) (ag (ab ?_))
 refine bw MI (fun h10=>?_) (fun h10=>?_)
 ·have hne:l≠m:=fun h=>h10 (by rw[h])
  refine af (aa (ac MI MI (ag (ab (aw (ay (az MI MI ?_)))))))
  exact⟨_,rfl,aK.refl _,congrArg B (decide_eq_false hne).symm⟩
 ·have hlen:l.length=m.length:=by omega
  refine aA (ab (af (af (aa (ae MI MI (aP MI MI (bA L8 hv) (ae MI MI (ag (ab (aF ?_))))))))))
  refine cg (α:=Nat) (fun x=>[(0,v),(1,u),(12,I (l.length:Int)),(13,I (x:Int))]) (fun x w'=>aK w w'∧x≤l.length∧l.take x=m.take x) (fun x=>l.length-x) (0) ⟨rfl,rfl,rfl,rfl,trivial⟩ ⟨aK.refl _,by omega,rfl⟩ ?_
  rintro i w4 ⟨e4,hi,ht⟩
  refine af (aa (al MI MI MI (a9) (ag (ab (af ?_)))))
  refine bw MI (fun h14=>?_) (fun h14=>?_)
  ·refine aA (ab (af (aF (af (aa (ae MI MI (ac MI MI (ag (ab (af (bP 8 [0,1,12,13,19,23] (by kernel_rfl) (by kernel_rfl) ?_)))))))))))
   refine aC MI MI (aC MI MI ?_)
   obtain⟨a18,p18,q18⟩:=cX L8 (hv.ext e4) (i:=i) (by omega) .i64
   refine aE MI MI MI (fun w _=>p18 w) (aO MI MI (fun w hw=>ai Ma MI (hw.cell_some q18)) (aC MI MI (aC MI MI ?_)))
   obtain⟨a22,p22,q22⟩:=cX L8 (hu.ext e4) (i:=i) (by omega) .i64
   refine aE MI MI MI (fun w _=>p22 w) (aO MI MI (fun w hw=>ai Ma MI (hw.cell_some q22)) (cp ?_))
   intro wg6 xg6
   rintro _ hq0
   obtain rfl:=Eq.symm hq0
   rintro _ hq1
   obtain rfl:=Eq.symm hq1
   rintro _ rfl
   rintro _ rfl
   rintro _ rfl
   rintro _ rfl
   refine al MI MI MI (lT) (ag (ab ?_))
   refine bw MI (fun h24=>?_) (fun h24=>?_)
   ·have hne:l≠m:=fun h=>h24 (by subst h;rfl)
    refine af (aa (ac MI MI (ag (ab (aw (aX (ay (ay (aX (ay (az MI MI ?_)))))))))))
    exact⟨_,rfl,(e4.trans xg6),congrArg B (decide_eq_false hne).symm⟩
   ·have he:l[i]'(by omega)=m[i]'(by omega):=Classical.byContradiction fun h=>h24 h
    refine aA (aS (ab (aa (al (r:=I ((i+1:Nat):Int)) MI MI MI (by have e:((i+1:Nat):Int)=(i:Int)+1:=(by omega);rw[e];exact aN (by omega) (by omega)) ?_))))
    refine ae MI MI (ag ?_)
    refine bR (i+1) ⟨rfl,rfl,rfl,rfl,trivial⟩ ⟨(e4.trans xg6),by omega,by rw[List.take_succ_eq_append_getElem (by omega),List.take_succ_eq_append_getElem (by omega),ht,he]⟩ (by omega)
  ·refine bc (aJ (aJ (bf (ab (af (aa (ac MI MI (ag (ab (aw (az MI MI ?_)))))))))))
   exact⟨_,rfl,e4,by
    rw[List.take_of_length_le (by omega),List.take_of_length_le (by omega)] at ht
    rw[decide_eq_true ht];rfl⟩
end Go.Rl
namespace Go.Rl
open Go.RowKit Go.Proofs
theorem zU:aG Tryz.prog 169:=⟨_,Tryz.func169,by kernel_rfl,rfl⟩
theorem zV:aG Tryz.prog 144:=⟨_,Tryz.func144,by kernel_rfl,rfl⟩
theorem lG:aG Tryz.prog 111:=⟨_,Tryz.func111,by kernel_rfl,rfl⟩
theorem gu:aG Tryz.prog 66:=⟨_,Tryz.func66,by kernel_rfl,rfl⟩
theorem tL:aG Tryz.prog 69:=⟨_,Tryz.func69,by kernel_rfl,rfl⟩
theorem qY:aG Tryz.prog 72:=⟨_,Tryz.func72,by kernel_rfl,rfl⟩
theorem oP:aG Tryz.prog 29:=⟨_,Tryz.func29,by kernel_rfl,rfl⟩
theorem zW {w:World} {a b:fi} {x y p q:Value} (ha:bm a.2.1 x w) (ha':bm a.2.2 y w) (hb:bm b.2.1 p w) (hb':bm b.2.2 q w):
 Calls Tryz.prog 169 #[.agg #[B a.1,x,y],.agg #[B b.1,p,q]] w (bE fun r w'=>aK w w'∧r=B (decide (a=b))):=by
 refine enter (vs:=[.agg #[B a.1,x,y],.agg #[B b.1,p,q]]) Tryz.func169 MI MI MI ?_
 refine af (aa ?_)
 obtain⟨g2,w2,hr2,l2,x2,k2⟩:=cC (P:=Tryz.prog) (w:=w) (T:=46) (cs:=[B a.1,x,y])
 refine cG MI MI hr2 ?_
 obtain⟨g3,w3,hr3,l3,x3,k3⟩:=cC (P:=Tryz.prog) (w:=w2) (T:=46) (cs:=[B b.1,p,q])
 refine cG MI MI hr3 (ac MI MI (ag (ab (af (aa (ah MI MI (aq (o:=0) Mb MI (by kernel_rfl) MI) ?_))))))
 refine ak MI MI (ai Mi MI (x3.cell_some (k2.cell (i:=0) MI))) (ah MI MI (aq (o:=0) Mb MI (by kernel_rfl) MI) ?_)
 refine ak MI MI (ai Mi MI (k3.cell (i:=0) MI)) (al MI MI MI (uN Mi) (ae MI MI ?_))
 refine cd (fun h10=>?_) (fun h10=>?_)
 ·refine aj MI (ah MI MI (aq (o:=1) Mb MI (by kernel_rfl) MI) (aj MI (ak MI MI (ai L8 MI (x3.cell_some (k2.cell (i:=1) MI))) ?_)))
  refine aj MI (ah MI MI (aq (o:=1) Mb MI (by kernel_rfl) MI) (aj MI (ak MI MI (ai L8 MI (k3.cell (i:=1) MI)) ?_)))
  refine aj MI (am sm MI MI (sq (ha.ext (x2.trans x3)) (hb.ext (x2.trans x3))) ?_)
  rintro v15 w15 ⟨x15,rfl⟩
  refine ap MI MI MI (ae MI MI ?_)
  refine cd (fun h17=>?_) (fun h17=>?_)
  ·refine aj MI (ah MI MI (aq (o:=2) Mb MI (by kernel_rfl) MI) (aj MI (ak MI MI (ai L8 MI ((x3.trans x15).cell_some (k2.cell (i:=2) MI))) ?_)))
   refine aj MI (ah MI MI (aq (o:=2) Mb MI (by kernel_rfl) MI) (aj MI (ak MI MI (ai L8 MI (x15.cell_some (k3.cell (i:=2) MI))) ?_)))
   refine aj MI (am sm MI MI (sq (ha'.ext ((x2.trans x3).trans x15)) (hb'.ext ((x2.trans x3).trans x15))) ?_)
   rintro v22 w22 ⟨x22,rfl⟩
   refine ap MI MI MI (ac MI MI (ag (ab (aw (az MI MI ?_)))))
   exact⟨_,rfl,(((x2.trans x3).trans x15).trans x22),by
    first
    |exact congrArg B (decide_eq_decide.2 ⟨fun h=>Prod.ext h10 (Prod.ext h17 h),fun h=>by rw[h]⟩)
    |exact congrArg B (decide_eq_false fun h=>h17 (by rw[h])).symm
    |exact congrArg B (decide_eq_false fun h=>h10 (by rw[h])).symm⟩
  ·refine an MI MI MI (an MI MI MI (an MI MI MI (an MI MI MI (an MI MI MI (aD MI MI MI (ac MI MI (ag (ab (aw (az MI MI ?_))))))))))
   exact⟨_,rfl,((x2.trans x3).trans x15),by
    first
    |exact congrArg B (decide_eq_decide.2 ⟨fun h=>Prod.ext h10 (Prod.ext h17 h),fun h=>by rw[h]⟩)
    |exact congrArg B (decide_eq_false fun h=>h17 (by rw[h])).symm
    |exact congrArg B (decide_eq_false fun h=>h10 (by rw[h])).symm⟩
 ·refine an MI MI MI (an MI MI MI (an MI MI MI (an MI MI MI (an MI MI MI (aD MI MI MI (ae MI MI (an MI MI MI (an MI MI MI (an MI MI MI ?_)))))))))
  refine an MI MI MI (an MI MI MI (aD MI MI MI (ac MI MI (ag (ab (aw (az MI MI ?_)))))))
  exact⟨_,rfl,(x2.trans x3),by
   first
   |exact congrArg B (decide_eq_decide.2 ⟨fun h=>Prod.ext h10 (Prod.ext h17 h),fun h=>by rw[h]⟩)
   |exact congrArg B (decide_eq_false fun h=>h17 (by rw[h])).symm
   |exact congrArg B (decide_eq_false fun h=>h10 (by rw[h])).symm⟩
theorem CZ {w:World} {a b:fi} {x y p q:Value} (ha:bm a.2.1 x w) (ha':bm a.2.2 y w) (hb:bm b.2.1 p w) (hb':bm b.2.2 q w):
 Calls Tryz.prog 105 #[.agg #[B a.1,x,y],.agg #[B b.1,p,q]] w (bE fun r w'=>aK w w'∧r=B (decide (a=b))):=by
 refine bE.mono (vJ (a:=a.1) (b:=b.1) ⟨x,y,rfl,ha,ha'⟩ ⟨p,q,rfl,hb,hb'⟩) fun r w' h=>⟨h.1,h.2.trans (congrArg B (decide_eq_decide.2 ⟨fun h=>Prod.ext h.1 (Prod.ext h.2.1 h.2.2),fun h=>by rw[h];exact⟨rfl,rfl,rfl⟩⟩))⟩
deriving instance DecidableEq for bS
theorem bS.ext' {a b:bS} (h1:a.kd=b.kd) (h2:a.ix=b.ix) (h3:a.at_=b.at_):a=b:=by
 cases a;cases b
 simp only at h1 h2 h3
 rw[h1,h2,h3]
theorem zX {w:World} {a b:bS} {x y p q:Value} (ha:bm a.at_.2.1 x w) (ha':bm a.at_.2.2 y w) (hb:bm b.at_.2.1 p w) (hb':bm b.at_.2.2 q w):
 Calls Tryz.prog 144 #[.agg #[I a.kd,I a.ix,B a.at_.1,x,y],.agg #[I b.kd,I b.ix,B b.at_.1,p,q]] w (bE fun r w'=>aK w w'∧r=B (decide (a=b))):=by
 refine enter (vs:=[.agg #[I a.kd,I a.ix,B a.at_.1,x,y],.agg #[I b.kd,I b.ix,B b.at_.1,p,q]]) Tryz.func144 MI MI MI ?_
 refine af (aa ?_)
 obtain⟨g2,w2,hr2,l2,x2,k2⟩:=cC (P:=Tryz.prog) (w:=w) (T:=48) (cs:=[I a.kd,I a.ix,B a.at_.1,x,y])
 refine cG MI MI hr2 ?_
 obtain⟨g3,w3,hr3,l3,x3,k3⟩:=cC (P:=Tryz.prog) (w:=w2) (T:=48) (cs:=[I b.kd,I b.ix,B b.at_.1,p,q])
 refine cG MI MI hr3 (ac MI MI (ag (ab (af (aa (ah MI MI (aq (o:=0) Mc MI (by kernel_rfl) MI) ?_))))))
 refine ak MI MI (ai Me MI (x3.cell_some (k2.cell (i:=0) MI))) (ah MI MI (aq (o:=0) Mc MI (by kernel_rfl) MI) ?_)
 refine ak MI MI (ai Me MI (k3.cell (i:=0) MI)) (al MI MI MI (bo) (ae MI MI ?_))
 refine cd (fun h10=>?_) (fun h10=>?_)
 ·refine aj MI (ah MI MI (aq (o:=1) Mc MI (by kernel_rfl) MI) (aj MI (ak MI MI (ai Me MI (x3.cell_some (k2.cell (i:=1) MI))) ?_)))
  refine aj MI (ah MI MI (aq (o:=1) Mc MI (by kernel_rfl) MI) (aj MI (ak MI MI (ai Me MI (k3.cell (i:=1) MI)) ?_)))
  refine aj MI (al MI MI MI (bo) (ap MI MI MI (ae MI MI ?_)))
  refine cd (fun h17=>?_) (fun h17=>?_)
  ·refine aj rfl (ah rfl rfl (aq (o:=2) Tryz.underlying48 rfl (by kernel_rfl) rfl) (aj rfl (ak rfl rfl ((k2.ext x3).ldO (ms:=[B a.at_.1,x,y]) (o:=2) (fun j v hj=>by rcases j with _|_|_|_|_|_|_|_|_|j<;>simp_all) Tryz.underlying46 rfl (by kernel_rfl)) ?_)))
   refine aj rfl (ah rfl rfl (aq (o:=2) Tryz.underlying48 rfl (by kernel_rfl) rfl) (aj rfl (ak rfl rfl (k3.ldO (ms:=[B b.at_.1,p,q]) (o:=2) (fun j v hj=>by rcases j with _|_|_|_|_|_|_|_|_|j<;>simp_all) Tryz.underlying46 rfl (by kernel_rfl)) ?_)))
   refine aj MI (am zU MI MI ((zW (a:=a.at_) (b:=b.at_) (ha.ext (x2.trans x3)) (ha'.ext (x2.trans x3)) (hb.ext (x2.trans x3)) (hb'.ext (x2.trans x3)))) ?_)
   rintro v22 w22 ⟨x22,rfl⟩
   refine ap MI MI MI (ac MI MI (ag (ab (aw (az MI MI ?_)))))
   exact⟨_,rfl,((x2.trans x3).trans x22),by
    first
    |exact congrArg B (decide_eq_decide.2 ⟨fun h=>bS.ext' h10 h17 h,fun h=>by rw[h]⟩)
    |exact congrArg B (decide_eq_false fun h=>h17 (by rw[h])).symm
    |exact congrArg B (decide_eq_false fun h=>h10 (by rw[h])).symm⟩
  ·refine an MI MI MI (an MI MI MI (an MI MI MI (an MI MI MI (an MI MI MI (aD MI MI MI (ac MI MI (ag (ab (aw (az MI MI ?_))))))))))
   exact⟨_,rfl,(x2.trans x3),by
    first
    |exact congrArg B (decide_eq_decide.2 ⟨fun h=>bS.ext' h10 h17 h,fun h=>by rw[h]⟩)
    |exact congrArg B (decide_eq_false fun h=>h17 (by rw[h])).symm
    |exact congrArg B (decide_eq_false fun h=>h10 (by rw[h])).symm⟩
 ·refine an MI MI MI (an MI MI MI (an MI MI MI (an MI MI MI (an MI MI MI (aD MI MI MI (ae MI MI (an MI MI MI (an MI MI MI (an MI MI MI ?_)))))))))
  refine an MI MI MI (an MI MI MI (aD MI MI MI (ac MI MI (ag (ab (aw (az MI MI ?_)))))))
  exact⟨_,rfl,(x2.trans x3),by
   first
   |exact congrArg B (decide_eq_decide.2 ⟨fun h=>bS.ext' h10 h17 h,fun h=>by rw[h]⟩)
   |exact congrArg B (decide_eq_false fun h=>h17 (by rw[h])).symm
   |exact congrArg B (decide_eq_false fun h=>h10 (by rw[h])).symm⟩
theorem tM {w:World} {a b:bS} {x y p q:Value} (ha:bm a.at_.2.1 x w) (ha':bm a.at_.2.2 y w) (hb:bm b.at_.2.1 p w) (hb':bm b.at_.2.2 q w):
 Calls Tryz.prog 69 #[.agg #[I a.kd,I a.ix,B a.at_.1,x,y],.agg #[I b.kd,I b.ix,B b.at_.1,p,q]] w (bE fun r w'=>aK w w'∧r=B (decide (a=b))):=by
 refine enter (vs:=[.agg #[I a.kd,I a.ix,B a.at_.1,x,y],.agg #[I b.kd,I b.ix,B b.at_.1,p,q]]) Tryz.func69 MI MI MI ?_
 refine af (aa ?_)
 obtain⟨g2,w2,hr2,l2,x2,k2⟩:=cC (P:=Tryz.prog) (w:=w) (T:=48) (cs:=[I a.kd,I a.ix,B a.at_.1,x,y])
 refine cG MI MI hr2 ?_
 obtain⟨g3,w3,hr3,l3,x3,k3⟩:=cC (P:=Tryz.prog) (w:=w2) (T:=48) (cs:=[I b.kd,I b.ix,B b.at_.1,p,q])
 refine cG MI MI hr3 (ac MI MI (ag (ab (af (aa (ah MI MI (aq (o:=0) Mc MI (by kernel_rfl) MI) ?_))))))
 refine ak MI MI (ai Me MI (x3.cell_some (k2.cell (i:=0) MI))) (ah MI MI (aq (o:=0) Mc MI (by kernel_rfl) MI) ?_)
 refine ak MI MI (ai Me MI (k3.cell (i:=0) MI)) (al MI MI MI (bo) (ae MI MI ?_))
 refine cd (fun h10=>?_) (fun h10=>?_)
 ·refine aj MI (ah MI MI (aq (o:=1) Mc MI (by kernel_rfl) MI) (aj MI (ak MI MI (ai Me MI (x3.cell_some (k2.cell (i:=1) MI))) ?_)))
  refine aj MI (ah MI MI (aq (o:=1) Mc MI (by kernel_rfl) MI) (aj MI (ak MI MI (ai Me MI (k3.cell (i:=1) MI)) ?_)))
  refine aj MI (al MI MI MI (bo) (ap MI MI MI (ae MI MI ?_)))
  refine cd (fun h17=>?_) (fun h17=>?_)
  ·refine aj rfl (ah rfl rfl (aq (o:=2) Tryz.underlying48 rfl (by kernel_rfl) rfl) (aj rfl (ak rfl rfl ((k2.ext x3).ldO (ms:=[B a.at_.1,x,y]) (o:=2) (fun j v hj=>by rcases j with _|_|_|_|_|_|_|_|_|j<;>simp_all) Tryz.underlying46 rfl (by kernel_rfl)) ?_)))
   refine aj rfl (ah rfl rfl (aq (o:=2) Tryz.underlying48 rfl (by kernel_rfl) rfl) (aj rfl (ak rfl rfl (k3.ldO (ms:=[B b.at_.1,p,q]) (o:=2) (fun j v hj=>by rcases j with _|_|_|_|_|_|_|_|_|j<;>simp_all) Tryz.underlying46 rfl (by kernel_rfl)) ?_)))
   refine aj MI (am nq MI MI ((CZ (a:=a.at_) (b:=b.at_) (ha.ext (x2.trans x3)) (ha'.ext (x2.trans x3)) (hb.ext (x2.trans x3)) (hb'.ext (x2.trans x3)))) ?_)
   rintro v22 w22 ⟨x22,rfl⟩
   refine ap MI MI MI (ac MI MI (ag (ab (aw (az MI MI ?_)))))
   exact⟨_,rfl,((x2.trans x3).trans x22),by
    first
    |exact congrArg B (decide_eq_decide.2 ⟨fun h=>bS.ext' h10 h17 h,fun h=>by rw[h]⟩)
    |exact congrArg B (decide_eq_false fun h=>h17 (by rw[h])).symm
    |exact congrArg B (decide_eq_false fun h=>h10 (by rw[h])).symm⟩
  ·refine an MI MI MI (an MI MI MI (an MI MI MI (an MI MI MI (an MI MI MI (aD MI MI MI (ac MI MI (ag (ab (aw (az MI MI ?_))))))))))
   exact⟨_,rfl,(x2.trans x3),by
    first
    |exact congrArg B (decide_eq_decide.2 ⟨fun h=>bS.ext' h10 h17 h,fun h=>by rw[h]⟩)
    |exact congrArg B (decide_eq_false fun h=>h17 (by rw[h])).symm
    |exact congrArg B (decide_eq_false fun h=>h10 (by rw[h])).symm⟩
 ·refine an MI MI MI (an MI MI MI (an MI MI MI (an MI MI MI (an MI MI MI (aD MI MI MI (ae MI MI (an MI MI MI (an MI MI MI (an MI MI MI ?_)))))))))
  refine an MI MI MI (an MI MI MI (aD MI MI MI (ac MI MI (ag (ab (aw (az MI MI ?_)))))))
  exact⟨_,rfl,(x2.trans x3),by
   first
   |exact congrArg B (decide_eq_decide.2 ⟨fun h=>bS.ext' h10 h17 h,fun h=>by rw[h]⟩)
   |exact congrArg B (decide_eq_false fun h=>h17 (by rw[h])).symm
   |exact congrArg B (decide_eq_false fun h=>h10 (by rw[h])).symm⟩
end Go.Rl
namespace Go.Rl
open Go.RowKit Go.Proofs
section
variable {w:World} {cs:List Value}
theorem gM {m:cb} (h:Rp w (bN m) cs):∃x y,cs=[I m.kd,I m.ix,I m.lo,I m.hi,B m.co.1,x,y]∧bm m.co.2.1 x w∧bm m.co.2.2 y w:=by
 simp only[bN,qk,bD,Rp.eq_5,Rp.eq_1] at h
 obtain⟨_,_,rfl,⟨_,_,rfl,rfl,_,_,rfl,rfl,_,_,rfl,rfl,_,_,rfl,rfl,rfl⟩,_,_,rfl,h1,rfl⟩:=h
 obtain⟨x,y,rfl,hx,hy⟩:=mi h1
 exact⟨x,y,rfl,hx,hy⟩
theorem gw {d:bS} (h:Rp w (dy d) cs):∃x y,cs=[I d.kd,I d.ix,B d.at_.1,x,y]∧bm d.at_.2.1 x w∧bm d.at_.2.2 y w:=by
 simp only[dy,qk,bD,Rp.eq_5,Rp.eq_1] at h
 obtain⟨_,_,rfl,rfl,_,_,rfl,rfl,_,_,rfl,h1,rfl⟩:=h
 obtain⟨x,y,rfl,hx,hy⟩:=mi h1
 exact⟨x,y,rfl,hx,hy⟩
theorem fF {l:dI} (h:Rp w (cY l) cs):∃x y v,cs=[I l.un,B l.up,B l.va.1,x,y,v]∧bm l.va.2.1 x w∧bm l.va.2.2 y w∧cA bN l.pf v w:=by
 simp only[cY,qk,bD,Rp.eq_5,Rp.eq_1,Rp.eq_2] at h
 obtain⟨_,_,rfl,rfl,_,_,rfl,rfl,_,_,rfl,h1,_,_,rfl,h2,rfl⟩:=h
 obtain⟨x,y,rfl,hx,hy⟩:=mi h1
 obtain⟨v,rfl,hv,_⟩:=Rp.isSlice h2
 exact⟨x,y,v,rfl,hx,hy,hv⟩
theorem dW {n:aW} (h:Rp w (bG n) cs):∃vl x y vk vp,cs=[vl,I n.split.kd,I n.split.ix,B n.split.at_.1,x,y,vk,B n.empty,vp]∧cA cY n.lems vl w∧bm n.split.at_.2.1 x w∧bm n.split.at_.2.2 y w∧cA bG n.kids vk w∧cA bN n.pf vp w:=by
 cases n with
 |mk lems sp ks em pf=>
  simp only[bG,bD,Rp.eq_5,Rp.eq_2,kU] at h
  obtain⟨_,_,rfl,h1,_,_,rfl,h2,_,_,rfl,h3,_,_,rfl,rfl,_,_,rfl,h4,rfl⟩:=h
  obtain⟨vl,rfl,hl,_⟩:=Rp.isSlice h1
  obtain⟨x,y,rfl,hx,hy⟩:=gw h2
  obtain⟨vk,rfl,hk,_⟩:=Rp.isSlice h3
  obtain⟨vp,rfl,hp,_⟩:=Rp.isSlice h4
  exact⟨vl,x,y,vk,vp,rfl,hl,hx,hy,hk,hp⟩
theorem zY (d:bS):xB d=decide (d=li):=by
 cases d with
 |mk a b c=>
  unfold xB li
  simp only[bS.mk.injEq]
  by_cases h1:a=0<;>by_cases h2:b=0<;>by_cases h3:c=KN<;>simp[h1,h2,h3]
end
end Go.Rl
namespace Go.Rl
open Go.RowKit Go.Proofs
theorem zZ {L:Nat} {n x y:aW} (hk:n.kids=[x,y]) (hi:oK n=true):lh (L+1) n=if (lh L x).1=false∨65536<(lh L x).2 then(false,0) else((lh L y).1,1+(lh L x).2+(lh L y).2):=by
 rw[lh];simp only[hk,if_pos hi]
theorem lr {L:Nat} {n:aW} (h0:n.kids.length≠0) (h:n.kids.length≠2∨oK n=false):lh (L+1) n=(false,0):=by
 rw[lh]
 generalize n.kids=ks at h0 h
 rcases ks with _|⟨x,_|⟨y,_|⟨z,t⟩⟩⟩
 ·exact absurd rfl h0
 ·rfl
 ·rcases h with h|h
  ·exact absurd rfl h
  ·simp[h]
 ·rfl
theorem cD {P:Program} {w:World} {s:TypeId} {fs:Array Field} {f:Field} {n g o b:Nat} (hs:P.underlying s=some (.struct fs)) (hf:fs[n]? =some f) (hk:(P.cellsOf f.type==0)=false) (ho:f.offset=o):
 (Instr.fieldAt s (.pointer (some ⟨g,b,none⟩)) n).run P w=.ok (.pointer (some ⟨g,b+o,none⟩)) w:=by
 have hk':P.cellsOf f.type≠0:=by simpa using hk
 obtain⟨k,hk1⟩:∃k,(P.info? f.type).map (·.size)=some k:=by
  cases hi:(P.info? f.type).map (·.size) with
  |none=>exact absurd (by simp[Program.cellsOf,hi]) hk'
  |some k=>exact⟨k,rfl⟩
 have hk0:k≠0:=by
  intro h
  apply hk'
  simp[Program.cellsOf,hk1,h]
 rw[ct hs hf hk1 hk0,ho,tf]
theorem HL {L:Nat} {n:aW} (h0:n.kids.length=0):lh (L+1) n=(xB n.split,1):=by
 rw[lh]
 have:n.kids=[]:=List.eq_nil_of_length_eq_zero h0
 simp only[this]
theorem gx {n:aW} (h:¬(1≤n.split.kd∧n.split.kd≤4∧n.empty=false∧n.pf.length=0)):oK n=false:=by
 unfold oK
 by_cases h1:1≤n.split.kd<;>by_cases h2:n.split.kd≤4<;>by_cases h3:n.pf.length=0<;>cases h4:n.empty<;>simp_all
theorem Em {n:aW} (h1:1≤n.split.kd) (h2:n.split.kd≤4) (h3:n.empty=false) (h4:n.pf.length=0):oK n=true:=by
 unfold oK
 simp[h1,h2,h3,h4]
theorem C0:∀(L:Nat) (n:aW),(lh L n).2≤65537*L
 |0,_=>Nat.le_refl _
 |L+1,n=>by
  rw[lh]
  generalize n.kids=ks
  rcases ks with _|⟨x,_|⟨y,_|⟨z,t⟩⟩⟩
  ·show 1≤_;omega
  ·show 0≤_;omega
  ·have:=C0 L y
   by_cases hi:oK n=true
   ·simp only[if_pos hi]
    split
    ·show 0≤_;omega
    ·rename_i h
     simp only[not_or,Nat.not_lt] at h
     have:=h.2
     show 1+(lh L x).2+(lh L y).2≤_
     omega
   ·simp only[if_neg hi]
    show 0≤_;omega
  ·show 0≤_;omega
theorem wu {ks:List aW} (h:ks.length=2):ks=[ks[0]'(by omega),ks[1]'(by omega)]:=by
 rcases ks with _|⟨x,_|⟨y,_|⟨z,t⟩⟩⟩
 ·simp at h
 ·simp at h
 ·rfl
 ·simp at h
theorem wv {w:World} {n:aW} {L d:Nat} {vl x y vk vp:Value} (ih:∀L',L=L'+1→∀{w:World} {n:aW} {vl x y vk vp:Value},cA cY n.lems vl w→bm n.split.at_.2.1 x w→bm n.split.at_.2.2 y w→cA bG n.kids vk w→cA bN n.pf vp w→
 Calls Tryz.prog 72 #[.agg #[vl,I n.split.kd,I n.split.ix,B n.split.at_.1,x,y,vk,B n.empty,vp],I ((d+1:Nat):Int)] w (bE fun r w'=>aK w w'∧r=.tuple #[B (lh L' n).1,I ((lh L' n).2:Int)]))
 (hl:cA cY n.lems vl w) (hx:bm n.split.at_.2.1 x w) (hy:bm n.split.at_.2.2 y w) (hk:cA bG n.kids vk w) (hp:cA bN n.pf vp w) (hd:d+L=2049):
 Calls Tryz.prog 72 #[.agg #[vl,I n.split.kd,I n.split.ix,B n.split.at_.1,x,y,vk,B n.empty,vp],I (d:Int)] w (bE fun r w'=>aK w w'∧r=.tuple #[B (lh L n).1,I ((lh L n).2:Int)]):=by
 refine enter (vs:=[.agg #[vl,I n.split.kd,I n.split.ix,B n.split.at_.1,x,y,vk,B n.empty,vp],I (d:Int)]) Tryz.func72 MI MI MI ?_
 refine af (aa ?_)
 obtain⟨g2,w2,hr2,l2,x2,k2⟩:=cC (P:=Tryz.prog) (w:=w) (T:=52) (cs:=[vl,I n.split.kd,I n.split.ix,B n.split.at_.1,x,y,vk,B n.empty,vp])
 refine cG MI MI hr2 (ac MI MI (ac MI MI (ag (ab (af (af (aa (ae MI MI (al MI MI MI (bV) (ag (ab ?_)))))))))))
 refine bw MI (fun h11=>?_) (fun h11=>?_)
 ·obtain rfl:L=0:=by omega
  refine af (aa (ac MI MI (ac MI MI (ag (ab (aw (ay (be MI MI MI ?_))))))))
  exact⟨_,rfl,x2,rfl⟩
 ·obtain⟨L',rfl⟩:∃L',L=L'+1:=⟨L-1,by omega⟩
  refine aA (ab (af (af (aa (ah MI MI (aq (o:=6) L9 MI (by kernel_rfl) MI) (ak MI MI (ai Mk MI (k2.cell (i:=6) MI)) ?_))))))
  refine aP MI MI (bg Mk (hk.ext x2)) (al MI MI MI (bo) (ag (ab ?_)))
  refine bw MI (fun h15=>?_) (fun h15=>?_)
  ·have h0:n.kids.length=0:=by omega
   refine af (aa (ah rfl rfl (aq (o:=1) Tryz.underlying52 rfl (by kernel_rfl) rfl) (ak rfl rfl (k2.ldO (ms:=[I n.split.kd,I n.split.ix,B n.split.at_.1,x,y]) (o:=1) (fun j v hj=>by rcases j with _|_|_|_|_|_|_|_|_|j<;>simp_all) Tryz.underlying48 rfl (by kernel_rfl)) ?_)))
   refine bz (vs:=[]) (r:=.agg #[I 0,I 0,B false,.slice none 0 0,.slice none 0 0]) MI MI (by exact run_build _ _ _ _ (by kernel_rfl)) (am tL MI MI ((tM (a:=n.split) (b:=li) (hx.ext x2) (hy.ext x2) (Sl.nil _ _) (Sl.nil _ _))) ?_)
   rintro v19 w19 ⟨x19,rfl⟩
   refine ac MI MI (ac MI MI (ag (ab (aw (ay (be MI MI MI ?_))))))
   exact⟨_,rfl,(x2.trans x19),by rw[HL h0,zY];rfl⟩
  ·have h0:n.kids.length≠0:=by omega
   refine aA (ab (af (af ?_)))
   have hl2:=hl.ext x2
   have hx2:=hx.ext x2
   have hy2:=hy.ext x2
   have hk2:=hk.ext x2
   have hp2:=hp.ext x2
   rcases hem:n.empty with _|_
   ·have kf:=k2
    rw[hem] at kf
    refine aa (ah MI MI (aq (o:=6) L9 MI (by kernel_rfl) MI) (ak MI MI (ai Mk MI (kf.cell (i:=6) MI)) ?_))
    refine aP MI MI (bg Mk hk2) (al MI MI MI (cT) (ae MI MI ?_))
    refine cd (fun h24=>?_) (fun h24=>?_)
    ·refine an MI MI MI (an MI MI MI (an MI MI MI (an MI MI MI (ap MI MI MI (ae MI MI (an MI MI MI (an MI MI MI (an MI MI MI (an MI MI MI ?_)))))))))
     refine ap MI MI MI (ae MI MI (an MI MI MI (an MI MI MI (ap MI MI MI (ae MI MI (an MI MI MI (an MI MI MI (an MI MI MI (an MI MI MI ?_)))))))))
     refine ap MI MI MI (ag (ab (bh MI (af (aa (ac MI MI (ac MI MI (ag (ab (aw (ay (be MI MI MI ?_))))))))))))
     exact⟨_,rfl,x2,by
      rw[lr h0 (by
       first
       |exact .inl (by omega)
       |exact .inr (gx fun⟨a1,a2,a3,a4⟩=>by
         first
         |omega
         |(rw[hem] at a3;cases a3)))]
      rfl⟩
    ·refine aj MI (ah MI MI (aq (o:=1) L9 MI (by kernel_rfl) MI) (aj MI (ah MI MI (cD (b:=1) (o:=0) Mc MI (by kernel_rfl) MI) ?_)))
     refine aj MI (ak MI MI (ai Me MI (kf.cell (i:=1) MI)) (aj MI (al MI MI MI (a9) (aD MI MI MI (ae MI MI ?_)))))
     refine cd (fun h30=>?_) (fun h30=>?_)
     ·refine an MI MI MI (an MI MI MI (an MI MI MI (an MI MI MI (ap MI MI MI (ae MI MI (an MI MI MI (an MI MI MI (ap MI MI MI (ae MI MI ?_)))))))))
      refine an MI MI MI (an MI MI MI (an MI MI MI (an MI MI MI (ap MI MI MI (ag (ab (bh MI (af (aa (ac MI MI (ac MI MI (ag ?_))))))))))))
      refine ab (aw (ay (be MI MI MI ?_)))
      exact⟨_,rfl,x2,by
       rw[lr h0 (by
        first
        |exact .inl (by omega)
        |exact .inr (gx fun⟨a1,a2,a3,a4⟩=>by
          first
          |omega
          |(rw[hem] at a3;cases a3)))]
       rfl⟩
     ·refine aj MI (ah MI MI (aq (o:=1) L9 MI (by kernel_rfl) MI) (aj MI (ah MI MI (cD (b:=1) (o:=0) Mc MI (by kernel_rfl) MI) ?_)))
      refine aj MI (ak MI MI (ai Me MI (kf.cell (i:=1) MI)) (aj MI (al MI MI MI (bV) (aD MI MI MI (ae MI MI ?_)))))
      refine cd (fun h36=>?_) (fun h36=>?_)
      ·refine an MI MI MI (an MI MI MI (ap MI MI MI (ae MI MI (an MI MI MI (an MI MI MI (an MI MI MI (an MI MI MI (ap MI MI MI (ag ?_)))))))))
       refine ab (bh MI (af (aa (ac MI MI (ac MI MI (ag (ab (aw (ay (be MI MI MI ?_))))))))))
       exact⟨_,rfl,x2,by
        rw[lr h0 (by
         first
         |exact .inl (by omega)
         |exact .inr (gx fun⟨a1,a2,a3,a4⟩=>by
           first
           |omega
           |(rw[hem] at a3;cases a3)))]
        rfl⟩
      ·refine aj MI (ah MI MI (aq (o:=7) L9 MI (by kernel_rfl) MI) (aj MI (ak MI MI (ai Mi MI (kf.cell (i:=7) MI)) ?_)))
       refine aD MI MI MI (ae MI MI (aj MI (ah MI MI (aq (o:=8) L9 MI (by kernel_rfl) MI) (aj MI (ak MI MI (ai Mm MI (kf.cell (i:=8) MI)) ?_)))))
       refine aj MI (aP MI MI (bg Mm hp2) (aj MI (al MI MI MI (bV) (aD MI MI MI (ag (ab ?_))))))
       refine bw MI (fun h45=>?_) (fun h45=>?_)
       ·refine af (aa (ac MI MI (ac MI MI (ag (ab (aw (ay (be MI MI MI ?_))))))))
        exact⟨_,rfl,x2,by
         rw[lr h0 (by
          first
          |exact .inl (by omega)
          |exact .inr (gx fun⟨a1,a2,a3,a4⟩=>by
            first
            |omega
            |(rw[hem] at a3;cases a3)))]
         rfl⟩
       ·refine aA (ab (af ?_))
        have hk2n:n.kids.length=2:=by omega
        have hks:=wu hk2n
        have hi:=Em (n:=n) (by omega) (by omega) hem (by omega)
        refine aa (ah MI MI (aq (o:=6) L9 MI (by kernel_rfl) MI) (ak MI MI (ai Mk MI (kf.cell (i:=6) MI)) ?_))
        obtain⟨a49,c49,p49,q49,h49⟩:=bZ (P:=Tryz.prog) (sz:=9) Mk (by kernel_rfl) cw (by omega) hk2 (i:=0) (by omega) .i64
        obtain⟨e49,he49⟩:∃e,e=n.kids[0]'(by omega):=⟨_,rfl⟩
        rw[←he49] at h49
        obtain⟨x49_0,x49_1,x49_2,x49_3,x49_4,rfl,f49_0,f49_1,f49_2,f49_3,f49_4⟩:=dW h49
        refine av MI MI MI (p49 _) (ak MI MI (q49.ld L9 MI (by kernel_rfl)) (ae MI MI (al (r:=I ((d+1:Nat):Int)) MI MI MI (by have e:((d+1:Nat):Int)=(d:Int)+1:=(by omega);rw[e];exact aN (by omega) (by omega)) ?_)))
        refine am qY MI MI ((ih L' MI f49_0 f49_1 f49_2 f49_3 f49_4)) ?_
        rintro v53 w53 ⟨x53,rfl⟩
        refine ae MI MI (ao MI MI (bj) (ao MI MI (bk) (ac MI MI (ac MI MI (ag (ab (af (af ?_))))))))
        have he:=C0 L' e49
        rcases hb:(lh L' e49).1 with _|_
        ·refine aa (ae MI MI (bt MI MI bu (ae MI MI (an MI MI MI (an MI MI MI (ap MI MI MI (ag (ab (bh MI (af (aa (ac MI MI ?_))))))))))))
         refine ac MI MI (ag (ab (aw (ay (be MI MI MI ?_)))))
         exact⟨_,rfl,(x2.trans x53),by
          rw[zZ hks hi,←he49,if_pos (by first|exact .inl hb|exact .inr (by omega))]
          rfl⟩
        ·refine aa (ae MI MI (bt MI MI bu (ae MI MI (aj MI (ae MI MI (aj MI (al MI MI MI (bV) (aD MI MI MI (ag (ab ?_))))))))))
         refine bw MI (fun h61=>?_) (fun h61=>?_)
         ·refine af (aa (ac MI MI (ac MI MI (ag (ab (aw (ay (be MI MI MI ?_))))))))
          exact⟨_,rfl,(x2.trans x53),by
           rw[zZ hks hi,←he49,if_pos (by first|exact .inl hb|exact .inr (by omega))]
           rfl⟩
         ·refine aA (ab (af (aa (ah MI MI (aq (o:=6) L9 MI (by kernel_rfl) MI) (ak MI MI (ai Mk MI (x53.cell_some (kf.cell (i:=6) MI))) ?_)))))
          obtain⟨a65,c65,p65,q65,h65⟩:=bZ (P:=Tryz.prog) (sz:=9) Mk (by kernel_rfl) cw (by omega) (hk2.ext x53) (i:=1) (by omega) .i64
          obtain⟨e65,he65⟩:∃e,e=n.kids[1]'(by omega):=⟨_,rfl⟩
          rw[←he65] at h65
          obtain⟨x65_0,x65_1,x65_2,x65_3,x65_4,rfl,f65_0,f65_1,f65_2,f65_3,f65_4⟩:=dW h65
          refine av MI MI MI (p65 _) (ak MI MI (q65.ld L9 MI (by kernel_rfl)) (ae MI MI (al (r:=I ((d+1:Nat):Int)) MI MI MI (by have e:((d+1:Nat):Int)=(d:Int)+1:=(by omega);rw[e];exact aN (by omega) (by omega)) ?_)))
          refine am qY MI MI ((ih L' MI f65_0 f65_1 f65_2 f65_3 f65_4)) ?_
          rintro v69 w69 ⟨x69,rfl⟩
          have hf:=C0 L' e65
          refine ae MI MI (ao MI MI (bj) (ao MI MI (bk) (ac MI MI (ac MI MI (ag (ab (af (aa (ae MI MI (ae MI MI (al (r:=I ((1+(lh L' e49).2:Nat):Int)) MI MI MI (by have e:((1+(lh L' e49).2:Nat):Int)=1+((lh L' e49).2:Int):=(by omega);rw[e];exact aN (by omega) (by omega)) ?_)))))))))))
          refine ae MI MI (al (r:=I ((((1+(lh L' e49).2:Nat))+(lh L' e65).2:Nat):Int)) MI MI MI (by have e:((((1+(lh L' e49).2:Nat))+(lh L' e65).2:Nat):Int)=((1+(lh L' e49).2:Nat):Int)+((lh L' e65).2:Int):=(by omega);rw[e];exact aN (by omega) (by omega)) ?_)
          refine ac MI MI (ac MI MI (ag (ab (aw (be MI MI MI ?_)))))
          exact⟨_,rfl,((x2.trans x53).trans x69),by
           rw[zZ hks hi,←he49,←he65,if_neg (by rw[hb];simp;omega)]⟩
   ·have kf:=k2
    rw[hem] at kf
    refine aa (ah MI MI (aq (o:=6) L9 MI (by kernel_rfl) MI) (ak MI MI (ai Mk MI (kf.cell (i:=6) MI)) ?_))
    refine aP MI MI (bg Mk hk2) (al MI MI MI (cT) (ae MI MI ?_))
    refine cd (fun h24=>?_) (fun h24=>?_)
    ·refine an MI MI MI (an MI MI MI (an MI MI MI (an MI MI MI (ap MI MI MI (ae MI MI (an MI MI MI (an MI MI MI (an MI MI MI (an MI MI MI ?_)))))))))
     refine ap MI MI MI (ae MI MI (an MI MI MI (an MI MI MI (ap MI MI MI (ae MI MI (an MI MI MI (an MI MI MI (an MI MI MI (an MI MI MI ?_)))))))))
     refine ap MI MI MI (ag (ab (bh MI (af (aa (ac MI MI (ac MI MI (ag (ab (aw (ay (be MI MI MI ?_))))))))))))
     exact⟨_,rfl,x2,by
      rw[lr h0 (by
       first
       |exact .inl (by omega)
       |exact .inr (gx fun⟨a1,a2,a3,a4⟩=>by
         first
         |omega
         |(rw[hem] at a3;cases a3)))]
      rfl⟩
    ·refine aj MI (ah MI MI (aq (o:=1) L9 MI (by kernel_rfl) MI) (aj MI (ah MI MI (cD (b:=1) (o:=0) Mc MI (by kernel_rfl) MI) ?_)))
     refine aj MI (ak MI MI (ai Me MI (kf.cell (i:=1) MI)) (aj MI (al MI MI MI (a9) (aD MI MI MI (ae MI MI ?_)))))
     refine cd (fun h30=>?_) (fun h30=>?_)
     ·refine an MI MI MI (an MI MI MI (an MI MI MI (an MI MI MI (ap MI MI MI (ae MI MI (an MI MI MI (an MI MI MI (ap MI MI MI (ae MI MI ?_)))))))))
      refine an MI MI MI (an MI MI MI (an MI MI MI (an MI MI MI (ap MI MI MI (ag (ab (bh MI (af (aa (ac MI MI (ac MI MI (ag ?_))))))))))))
      refine ab (aw (ay (be MI MI MI ?_)))
      exact⟨_,rfl,x2,by
       rw[lr h0 (by
        first
        |exact .inl (by omega)
        |exact .inr (gx fun⟨a1,a2,a3,a4⟩=>by
          first
          |omega
          |(rw[hem] at a3;cases a3)))]
       rfl⟩
     ·refine aj MI (ah MI MI (aq (o:=1) L9 MI (by kernel_rfl) MI) (aj MI (ah MI MI (cD (b:=1) (o:=0) Mc MI (by kernel_rfl) MI) ?_)))
      refine aj MI (ak MI MI (ai Me MI (kf.cell (i:=1) MI)) (aj MI (al MI MI MI (bV) (aD MI MI MI (ae MI MI ?_)))))
      refine cd (fun h36=>?_) (fun h36=>?_)
      ·refine an MI MI MI (an MI MI MI (ap MI MI MI (ae MI MI (an MI MI MI (an MI MI MI (an MI MI MI (an MI MI MI (ap MI MI MI (ag ?_)))))))))
       refine ab (bh MI (af (aa (ac MI MI (ac MI MI (ag (ab (aw (ay (be MI MI MI ?_))))))))))
       exact⟨_,rfl,x2,by
        rw[lr h0 (by
         first
         |exact .inl (by omega)
         |exact .inr (gx fun⟨a1,a2,a3,a4⟩=>by
           first
           |omega
           |(rw[hem] at a3;cases a3)))]
        rfl⟩
      ·refine aj MI (ah MI MI (aq (o:=7) L9 MI (by kernel_rfl) MI) (aj MI (ak MI MI (ai Mi MI (kf.cell (i:=7) MI)) ?_)))
       refine aD MI MI MI (ae MI MI (an MI MI MI (an MI MI MI (an MI MI MI (an MI MI MI (ap MI MI MI (ag (ab (bh MI (af (aa ?_)))))))))))
       refine ac MI MI (ac MI MI (ag (ab (aw (ay (be MI MI MI ?_))))))
       exact⟨_,rfl,x2,by
        rw[lr h0 (by
         first
         |exact .inl (by omega)
         |exact .inr (gx fun⟨a1,a2,a3,a4⟩=>by
           first
           |omega
           |(rw[hem] at a3;cases a3)))]
        rfl⟩
theorem ww:∀(L d:Nat),d+L=2049→∀{w:World} {n:aW} {vl x y vk vp:Value},cA cY n.lems vl w→bm n.split.at_.2.1 x w→bm n.split.at_.2.2 y w→cA bG n.kids vk w→cA bN n.pf vp w→
 Calls Tryz.prog 72 #[.agg #[vl,I n.split.kd,I n.split.ix,B n.split.at_.1,x,y,vk,B n.empty,vp],I (d:Int)] w (bE fun r w'=>aK w w'∧r=.tuple #[B (lh L n).1,I ((lh L n).2:Int)])
 |0,_,hd,_,_,_,_,_,_,_,hl,hx,hy,hk,hp=>wv (fun _ e=>by cases e) hl hx hy hk hp hd
 |L+1,d,hd,_,_,_,_,_,_,_,hl,hx,hy,hk,hp=>wv (fun L' e _ _ _ _ _ _ _ h1 h2 h3 h4 h5=>by
   cases e
   exact ww L (d+1) (by omega) h1 h2 h3 h4 h5) hl hx hy hk hp hd
theorem oS {w:World} {n:aW} {vl x y vk vp:Value} (hl:cA cY n.lems vl w) (hx:bm n.split.at_.2.1 x w) (hy:bm n.split.at_.2.2 y w) (hk:cA bG n.kids vk w) (hp:cA bN n.pf vp w):
 Calls Tryz.prog 29 #[.agg #[vl,I n.split.kd,I n.split.ix,B n.split.at_.1,x,y,vk,B n.empty,vp]] w (bE fun r w'=>aK w w'∧r=B (qg n)):=by
 refine enter (vs:=[.agg #[vl,I n.split.kd,I n.split.ix,B n.split.at_.1,x,y,vk,B n.empty,vp]]) Tryz.func29 MI MI MI ?_
 refine af (aa ?_)
 obtain⟨g1,w1,hr1,l1,x1,k1⟩:=cC (P:=Tryz.prog) (w:=w) (T:=52) (cs:=[vl,I n.split.kd,I n.split.ix,B n.split.at_.1,x,y,vk,B n.empty,vp])
 refine cG MI MI hr1 (ac MI MI (ag (ab (af (aa (ak MI MI (k1.ld L9 MI (by kernel_rfl)) (am qY MI MI ((ww 2049 0 MI (hl.ext x1) (hx.ext x1) (hy.ext x1) (hk.ext x1) (hp.ext x1))) ?_)))))))
 rintro v7 w7 ⟨x7,rfl⟩
 refine ae MI MI (ao MI MI (bj) (ao MI MI (bk) (ac MI MI (ac MI MI (ag (ab (af ?_)))))))
 have hv:=HK n
 rcases hb:(lh 2049 n).1 with _|_
 ·refine aa (ae MI MI (ae MI MI (an MI MI MI (an MI MI MI (aD MI MI MI (ac MI MI (ag (ab (aw (az MI MI ?_))))))))))
  exact⟨_,rfl,(x1.trans x7),by rw[←hv,hb];rfl⟩
 ·refine aa (ae MI MI (ae MI MI (aj MI (ae MI MI (aj MI (al MI MI MI (DM) (ap MI MI MI (ac MI MI (ag (ab (aw (az MI MI ?_))))))))))))
  exact⟨_,rfl,(x1.trans x7),by rw[←hv,hb,Bool.true_and];exact congrArg B (decide_eq_decide.2 (by omega))⟩
end Go.Rl
namespace Go.Rl
open Go.RowKit Go.Proofs
theorem yy {d:Nat} {m:Int} {n:aW} (h:m<1):lF d m n=(0,false):=by rw[lF.eq_def];exact if_pos h
theorem Bv {d:Nat} {m:Int} {n:aW} (h:¬m<1) (h0:n.kids.length=0):lF d m n=(1,xB n.split):=by
 have:n.kids=[]:=List.eq_nil_of_length_eq_zero h0
 rw[lF.eq_def]
 simp only[if_neg h,this]
theorem jt {d:Nat} {m:Int} {n:aW} (hm:¬m<1) (h0:n.kids.length≠0) (h:n.kids.length≠2∨oK n=false∨d=0):lF d m n=(0,false):=by
 rw[lF.eq_def]
 simp only[if_neg hm]
 generalize n.kids=ks at h0 h
 rcases ks with _|⟨x,_|⟨y,_|⟨z,t⟩⟩⟩
 ·exact absurd rfl h0
 ·rfl
 ·rcases h with h|h|h
  ·exact absurd rfl h
  ·simp[h]
  ·subst h
   simp
 ·rfl
theorem z4 {d:Nat} {m:Int} {n x y:aW} (hm:¬m<1) (hk:n.kids=[x,y]) (hi:oK n=true):lF (d+1) m n=if (lF d (m-1) x).2=false then(0,false) else(1+(lF d (m-1) x).1+(lF d (m-1-(lF d (m-1) x).1) y).1,(lF d (m-1-(lF d (m-1) x).1) y).2):=by
 rw[lF.eq_def]
 simp only[if_neg hm,hk,if_pos hi]
theorem HM {m A C:Int} (hm:¬m<1) (a:0≤A∧A≤max 0 (m-1)) (b:0≤C∧C≤max 0 (m-1-A)):0≤1+A+C∧1+A+C≤max 0 m:=by omega
theorem z5:∀(d:Nat) (m:Int) (n:aW),0≤(lF d m n).1∧(lF d m n).1≤max 0 m
 |d,m,n=>by
  by_cases hm:m<1
  ·rw[yy hm];exact⟨Int.le_refl _,by show(0:Int)≤_;omega⟩
  ·by_cases h0:n.kids.length=0
   ·rw[Bv hm h0];exact⟨by show(0:Int)≤1;omega,by show(1:Int)≤_;omega⟩
   ·by_cases hb:n.kids.length≠2∨oK n=false∨d=0
    ·rw[jt hm h0 hb];exact⟨Int.le_refl _,by show(0:Int)≤_;omega⟩
    ·simp only[not_or,Bool.not_eq_false] at hb
     obtain⟨h2,hi,hd⟩:=hb
     obtain⟨d',rfl⟩:∃d',d=d'+1:=⟨d-1,by omega⟩
     rw[z4 hm (wu (by omega)) hi]
     split
     ·exact⟨Int.le_refl _,by show(0:Int)≤_;omega⟩
     ·have a:=z5 d' (m-1) (n.kids[0]'(by omega))
      have b:=z5 d' (m-1-(lF d' (m-1) (n.kids[0]'(by omega))).1) (n.kids[1]'(by omega))
      exact HM hm a b
theorem wB {w:World} {n:aW} {d:Nat} {m:Int} {vl x y vk vp:Value} (ih:∀d',d=d'+1→∀{w:World} {n:aW} {m:Int} {vl x y vk vp:Value},0≤m→m≤65536→cA cY n.lems vl w→bm n.split.at_.2.1 x w→bm n.split.at_.2.2 y w→cA bG n.kids vk w→cA bN n.pf vp w→
 Calls Tryz.prog 111 #[.agg #[vl,I n.split.kd,I n.split.ix,B n.split.at_.1,x,y,vk,B n.empty,vp],I (d':Int),I m] w (bE fun r w'=>aK w w'∧r=.tuple #[I (lF d' m n).1,B (lF d' m n).2]))
 (hd:d≤2048) (hm0:0≤m) (hm1:m≤65536) (hl:cA cY n.lems vl w) (hx:bm n.split.at_.2.1 x w) (hy:bm n.split.at_.2.2 y w) (hk:cA bG n.kids vk w) (hp:cA bN n.pf vp w):
 Calls Tryz.prog 111 #[.agg #[vl,I n.split.kd,I n.split.ix,B n.split.at_.1,x,y,vk,B n.empty,vp],I (d:Int),I m] w (bE fun r w'=>aK w w'∧r=.tuple #[I (lF d m n).1,B (lF d m n).2]):=by
 refine enter (vs:=[.agg #[vl,I n.split.kd,I n.split.ix,B n.split.at_.1,x,y,vk,B n.empty,vp],I (d:Int),I m]) Tryz.func111 MI MI MI ?_
 have hl2:=hl
 refine af (aa ?_)
 obtain⟨g3,w3,hr3,l3,x3,k3⟩:=cC (P:=Tryz.prog) (w:=w) (T:=52) (cs:=[vl,I n.split.kd,I n.split.ix,B n.split.at_.1,x,y,vk,B n.empty,vp])
 refine cG MI MI hr3 (ac MI MI (ac MI MI (ag (ab (af (af (aa (ae MI MI (al MI MI MI (a9) (ag (ab ?_)))))))))))
 refine bw MI (fun h12=>?_) (fun h12=>?_)
 ·have hm:m<1:=h12
  refine af (aa (ac MI MI (ac MI MI (ag (ab (aw (ay (be MI MI MI ?_))))))))
  exact⟨_,rfl,x3,by rw[yy hm]<;>rfl⟩
 ·have hm:¬m<1:=h12
  refine aA (ab (af (af (aa (ah MI MI (aq (o:=6) L9 MI (by kernel_rfl) MI) (ak MI MI (ai Mk MI (k3.cell (i:=6) MI)) ?_))))))
  refine aP MI MI (bg Mk (hk.ext x3)) (al MI MI MI (bo) (ag (ab ?_)))
  refine bw MI (fun h16=>?_) (fun h16=>?_)
  ·have h0:n.kids.length=0:=by omega
   refine af (aa (ah rfl rfl (aq (o:=1) Tryz.underlying52 rfl (by kernel_rfl) rfl) (ak rfl rfl (k3.ldO (ms:=[I n.split.kd,I n.split.ix,B n.split.at_.1,x,y]) (o:=1) (fun j v hj=>by rcases j with _|_|_|_|_|_|_|_|_|j<;>simp_all) Tryz.underlying48 rfl (by kernel_rfl)) ?_)))
   refine bz (vs:=[]) (r:=.agg #[I 0,I 0,B false,.slice none 0 0,.slice none 0 0]) MI MI (by exact run_build _ _ _ _ (by kernel_rfl)) (am zV MI MI ((zX (a:=n.split) (b:=li) (hx.ext x3) (hy.ext x3) (Sl.nil _ _) (Sl.nil _ _))) ?_)
   rintro v20 w20 ⟨x20,rfl⟩
   refine ac MI MI (ac MI MI (ag (ab (aw (ay (be MI MI MI ?_))))))
   exact⟨_,rfl,(x3.trans x20),by rw[Bv hm h0,zY];rfl⟩
  ·have h0:n.kids.length≠0:=by omega
   refine aA (ab (af (af ?_)))
   have hl2:=hl.ext x3
   have hx2:=hx.ext x3
   have hy2:=hy.ext x3
   have hk2:=hk.ext x3
   have hp2:=hp.ext x3
   rcases hem:n.empty with _|_
   ·have kf:=k3
    rw[hem] at kf
    refine aa (ah MI MI (aq (o:=6) L9 MI (by kernel_rfl) MI) (ak MI MI (ai Mk MI (kf.cell (i:=6) MI)) ?_))
    refine aP MI MI (bg Mk hk2) (al MI MI MI (cT) (ae MI MI ?_))
    refine cd (fun h25=>?_) (fun h25=>?_)
    ·refine an MI MI MI (an MI MI MI (an MI MI MI (an MI MI MI (ap MI MI MI (ae MI MI (an MI MI MI (an MI MI MI (an MI MI MI (an MI MI MI ?_)))))))))
     refine ap MI MI MI (ae MI MI (an MI MI MI (an MI MI MI (ap MI MI MI (ae MI MI (an MI MI MI (an MI MI MI (an MI MI MI (an MI MI MI ?_)))))))))
     refine ap MI MI MI (ae MI MI (an MI MI MI (an MI MI MI (ap MI MI MI (ag (ab (bh MI (af (aa (ac MI MI (ac MI MI ?_)))))))))))
     refine ag (ab (aw (ay (be MI MI MI ?_))))
     exact⟨_,rfl,x3,by
      rw[jt hm h0 (by
       first
       |exact .inl (by omega)
       |exact .inr (.inr (by omega))
       |exact .inr (.inl (gx fun⟨a1,a2,a3,a4⟩=>by
         first
         |omega
         |(rw[hem] at a3;cases a3))))]<;>rfl⟩
    ·refine aj MI (ah MI MI (aq (o:=1) L9 MI (by kernel_rfl) MI) (aj MI (ah MI MI (cD (b:=1) (o:=0) Mc MI (by kernel_rfl) MI) ?_)))
     refine aj MI (ak MI MI (ai Me MI (kf.cell (i:=1) MI)) (aj MI (al MI MI MI (a9) (aD MI MI MI (ae MI MI ?_)))))
     refine cd (fun h31=>?_) (fun h31=>?_)
     ·refine an MI MI MI (an MI MI MI (an MI MI MI (an MI MI MI (ap MI MI MI (ae MI MI (an MI MI MI (an MI MI MI (ap MI MI MI (ae MI MI ?_)))))))))
      refine an MI MI MI (an MI MI MI (an MI MI MI (an MI MI MI (ap MI MI MI (ae MI MI (an MI MI MI (an MI MI MI (ap MI MI MI (ag ?_)))))))))
      refine ab (bh MI (af (aa (ac MI MI (ac MI MI (ag (ab (aw (ay (be MI MI MI ?_))))))))))
      exact⟨_,rfl,x3,by
       rw[jt hm h0 (by
        first
        |exact .inl (by omega)
        |exact .inr (.inr (by omega))
        |exact .inr (.inl (gx fun⟨a1,a2,a3,a4⟩=>by
          first
          |omega
          |(rw[hem] at a3;cases a3))))]<;>rfl⟩
     ·refine aj MI (ah MI MI (aq (o:=1) L9 MI (by kernel_rfl) MI) (aj MI (ah MI MI (cD (b:=1) (o:=0) Mc MI (by kernel_rfl) MI) ?_)))
      refine aj MI (ak MI MI (ai Me MI (kf.cell (i:=1) MI)) (aj MI (al MI MI MI (bV) (aD MI MI MI (ae MI MI ?_)))))
      refine cd (fun h37=>?_) (fun h37=>?_)
      ·refine an MI MI MI (an MI MI MI (ap MI MI MI (ae MI MI (an MI MI MI (an MI MI MI (an MI MI MI (an MI MI MI (ap MI MI MI (ae MI MI ?_)))))))))
       refine an MI MI MI (an MI MI MI (ap MI MI MI (ag (ab (bh MI (af (aa (ac MI MI (ac MI MI (ag (ab (aw (ay (be MI MI MI ?_))))))))))))))
       exact⟨_,rfl,x3,by
        rw[jt hm h0 (by
         first
         |exact .inl (by omega)
         |exact .inr (.inr (by omega))
         |exact .inr (.inl (gx fun⟨a1,a2,a3,a4⟩=>by
           first
           |omega
           |(rw[hem] at a3;cases a3))))]<;>rfl⟩
      ·refine aj MI (ah MI MI (aq (o:=7) L9 MI (by kernel_rfl) MI) (aj MI (ak MI MI (ai Mi MI (kf.cell (i:=7) MI)) ?_)))
       refine aD MI MI MI (ae MI MI (aj MI (ah MI MI (aq (o:=8) L9 MI (by kernel_rfl) MI) (aj MI (ak MI MI (ai Mm MI (kf.cell (i:=8) MI)) ?_)))))
       refine aj MI (aP MI MI (bg Mm hp2) (aj MI (al MI MI MI (bV) (aD MI MI MI (ae MI MI ?_)))))
       refine cd (fun h47=>?_) (fun h47=>?_)
       ·refine an MI MI MI (an MI MI MI (ap MI MI MI (ag (ab (bh MI (af (aa (ac MI MI (ac MI MI (ag (ab (aw (ay (be MI MI MI ?_))))))))))))))
        exact⟨_,rfl,x3,by
         rw[jt hm h0 (by
          first
          |exact .inl (by omega)
          |exact .inr (.inr (by omega))
          |exact .inr (.inl (gx fun⟨a1,a2,a3,a4⟩=>by
            first
            |omega
            |(rw[hem] at a3;cases a3))))]<;>rfl⟩
       ·refine aj MI (ae MI MI (aj MI (al MI MI MI (bo) (aD MI MI MI (ag (ab ?_))))))
        refine bw MI (fun h50=>?_) (fun h50=>?_)
        ·refine af (aa (ac MI MI (ac MI MI (ag (ab (aw (ay (be MI MI MI ?_))))))))
         exact⟨_,rfl,x3,by
          rw[jt hm h0 (by
           first
           |exact .inl (by omega)
           |exact .inr (.inr (by omega))
           |exact .inr (.inl (gx fun⟨a1,a2,a3,a4⟩=>by
             first
             |omega
             |(rw[hem] at a3;cases a3))))]<;>rfl⟩
        ·refine aA (ab (af ?_))
         have hk2n:n.kids.length=2:=by omega
         have hks:=wu hk2n
         have hi:=Em (n:=n) (by omega) (by omega) hem (by omega)
         obtain⟨d',rfl⟩:∃d',d=d'+1:=⟨d-1,by omega⟩
         refine aa (ah MI MI (aq (o:=6) L9 MI (by kernel_rfl) MI) (ak MI MI (ai Mk MI (kf.cell (i:=6) MI)) ?_))
         obtain⟨a54,c54,p54,q54,h54⟩:=bZ (P:=Tryz.prog) (sz:=9) Mk (by kernel_rfl) cw (by omega) hk2 (i:=0) (by omega) .i64
         obtain⟨e54,he54⟩:∃e,e=n.kids[0]'(by omega):=⟨_,rfl⟩
         rw[←he54] at h54
         obtain⟨x54_0,x54_1,x54_2,x54_3,x54_4,rfl,f54_0,f54_1,f54_2,f54_3,f54_4⟩:=dW h54
         refine av MI MI MI (p54 _) (ak MI MI (q54.ld L9 MI (by kernel_rfl)) (ae MI MI (al (r:=I (d':Int)) MI MI MI ((by have e:((d':Nat):Int)=((d'+1:Nat):Int)-1:=(by omega);rw[e];exact bC (by omega) (by omega))) ?_)))
         refine ae MI MI (al (r:=I (m-1)) MI MI MI (bC (by omega) (by omega)) (am lG MI MI ((ih d' MI (by omega) (by omega) f54_0 f54_1 f54_2 f54_3 f54_4)) ?_))
         rintro v60 w60 ⟨x60,rfl⟩
         have hb1:=z5 d' (m-1) e54
         refine ae MI MI (ao MI MI (bj) (ao MI MI (bk) (ac MI MI (ac MI MI (ag (ab (af (af ?_))))))))
         have hz:=zT d' (m-1) e54
         rcases hb:(lF d' (m-1) e54).2 with _|_
         ·refine aa (ae MI MI (bt MI MI bu (ag (ab (bh MI (af (aa (ac MI MI (ac MI MI (ag (ab (aw (ay (be MI MI MI ?_))))))))))))))
          exact⟨_,rfl,(x3.trans x60),by rw[z4 hm hks hi,←he54,if_pos hb]<;>rfl⟩
         ·refine aa (ae MI MI (bt MI MI bu (ag (ab (cq MI (aA (ab (af (aa (ah MI MI (aq (o:=6) L9 MI (by kernel_rfl) MI) ?_))))))))))
          refine ak MI MI (ai Mk MI (x60.cell_some (kf.cell (i:=6) MI))) ?_
          obtain⟨a68,c68,p68,q68,h68⟩:=bZ (P:=Tryz.prog) (sz:=9) Mk (by kernel_rfl) cw (by omega) (hk2.ext x60) (i:=1) (by omega) .i64
          obtain⟨e68,he68⟩:∃e,e=n.kids[1]'(by omega):=⟨_,rfl⟩
          rw[←he68] at h68
          obtain⟨x68_0,x68_1,x68_2,x68_3,x68_4,rfl,f68_0,f68_1,f68_2,f68_3,f68_4⟩:=dW h68
          refine av MI MI MI (p68 _) (ak MI MI (q68.ld L9 MI (by kernel_rfl)) (ae MI MI (al (r:=I (d':Int)) MI MI MI ((by have e:((d':Nat):Int)=((d'+1:Nat):Int)-1:=(by omega);rw[e];exact bC (by omega) (by omega))) ?_)))
          refine ae MI MI (al (r:=I (m-1)) MI MI MI (bC (by omega) (by omega)) (ae MI MI (al (r:=I (m-1-(lF d' (m-1) e54).1)) MI MI MI (bC (by omega) (by omega)) ?_)))
          refine am lG MI MI ((ih d' MI (by omega) (by omega) f68_0 f68_1 f68_2 f68_3 f68_4)) ?_
          rintro v76 w76 ⟨x76,rfl⟩
          have hb2:=z5 d' (m-1-(lF d' (m-1) e54).1) e68
          refine ae MI MI (ao MI MI (bj) (ao MI MI (bk) (ac MI MI (ac MI MI (ag (ab (af (aa (ae MI MI (al (r:=I (1+(lF d' (m-1) e54).1)) MI MI MI (aN (by omega) (by omega)) ?_))))))))))
          refine ae MI MI (al (r:=I (1+(lF d' (m-1) e54).1+(lF d' (m-1-(lF d' (m-1) e54).1) e68).1)) MI MI MI (aN (by omega) (by omega)) ?_)
          refine ae MI MI (ac MI MI (ac MI MI (ag (ab (aw (be MI MI MI ?_))))))
          exact⟨_,rfl,((x3.trans x60).trans x76),by rw[z4 hm hks hi,←he54,←he68,if_neg (by rw[hb];simp)]⟩
   ·have kf:=k3
    rw[hem] at kf
    refine aa (ah MI MI (aq (o:=6) L9 MI (by kernel_rfl) MI) (ak MI MI (ai Mk MI (kf.cell (i:=6) MI)) ?_))
    refine aP MI MI (bg Mk hk2) (al MI MI MI (cT) (ae MI MI ?_))
    refine cd (fun h25=>?_) (fun h25=>?_)
    ·refine an MI MI MI (an MI MI MI (an MI MI MI (an MI MI MI (ap MI MI MI (ae MI MI (an MI MI MI (an MI MI MI (an MI MI MI (an MI MI MI ?_)))))))))
     refine ap MI MI MI (ae MI MI (an MI MI MI (an MI MI MI (ap MI MI MI (ae MI MI (an MI MI MI (an MI MI MI (an MI MI MI (an MI MI MI ?_)))))))))
     refine ap MI MI MI (ae MI MI (an MI MI MI (an MI MI MI (ap MI MI MI (ag (ab (bh MI (af (aa (ac MI MI (ac MI MI ?_)))))))))))
     refine ag (ab (aw (ay (be MI MI MI ?_))))
     exact⟨_,rfl,x3,by
      rw[jt hm h0 (by
       first
       |exact .inl (by omega)
       |exact .inr (.inr (by omega))
       |exact .inr (.inl (gx fun⟨a1,a2,a3,a4⟩=>by
         first
         |omega
         |(rw[hem] at a3;cases a3))))]<;>rfl⟩
    ·refine aj MI (ah MI MI (aq (o:=1) L9 MI (by kernel_rfl) MI) (aj MI (ah MI MI (cD (b:=1) (o:=0) Mc MI (by kernel_rfl) MI) ?_)))
     refine aj MI (ak MI MI (ai Me MI (kf.cell (i:=1) MI)) (aj MI (al MI MI MI (a9) (aD MI MI MI (ae MI MI ?_)))))
     refine cd (fun h31=>?_) (fun h31=>?_)
     ·refine an MI MI MI (an MI MI MI (an MI MI MI (an MI MI MI (ap MI MI MI (ae MI MI (an MI MI MI (an MI MI MI (ap MI MI MI (ae MI MI ?_)))))))))
      refine an MI MI MI (an MI MI MI (an MI MI MI (an MI MI MI (ap MI MI MI (ae MI MI (an MI MI MI (an MI MI MI (ap MI MI MI (ag ?_)))))))))
      refine ab (bh MI (af (aa (ac MI MI (ac MI MI (ag (ab (aw (ay (be MI MI MI ?_))))))))))
      exact⟨_,rfl,x3,by
       rw[jt hm h0 (by
        first
        |exact .inl (by omega)
        |exact .inr (.inr (by omega))
        |exact .inr (.inl (gx fun⟨a1,a2,a3,a4⟩=>by
          first
          |omega
          |(rw[hem] at a3;cases a3))))]<;>rfl⟩
     ·refine aj MI (ah MI MI (aq (o:=1) L9 MI (by kernel_rfl) MI) (aj MI (ah MI MI (cD (b:=1) (o:=0) Mc MI (by kernel_rfl) MI) ?_)))
      refine aj MI (ak MI MI (ai Me MI (kf.cell (i:=1) MI)) (aj MI (al MI MI MI (bV) (aD MI MI MI (ae MI MI ?_)))))
      refine cd (fun h37=>?_) (fun h37=>?_)
      ·refine an MI MI MI (an MI MI MI (ap MI MI MI (ae MI MI (an MI MI MI (an MI MI MI (an MI MI MI (an MI MI MI (ap MI MI MI (ae MI MI ?_)))))))))
       refine an MI MI MI (an MI MI MI (ap MI MI MI (ag (ab (bh MI (af (aa (ac MI MI (ac MI MI (ag (ab (aw (ay (be MI MI MI ?_))))))))))))))
       exact⟨_,rfl,x3,by
        rw[jt hm h0 (by
         first
         |exact .inl (by omega)
         |exact .inr (.inr (by omega))
         |exact .inr (.inl (gx fun⟨a1,a2,a3,a4⟩=>by
           first
           |omega
           |(rw[hem] at a3;cases a3))))]<;>rfl⟩
      ·refine aj MI (ah MI MI (aq (o:=7) L9 MI (by kernel_rfl) MI) (aj MI (ak MI MI (ai Mi MI (kf.cell (i:=7) MI)) ?_)))
       refine aD MI MI MI (ae MI MI (an MI MI MI (an MI MI MI (an MI MI MI (an MI MI MI (ap MI MI MI (ae MI MI (an MI MI MI (an MI MI MI ?_)))))))))
       refine ap MI MI MI (ag (ab (bh MI (af (aa (ac MI MI (ac MI MI (ag (ab (aw (ay (be MI MI MI ?_))))))))))))
       exact⟨_,rfl,x3,by
        rw[jt hm h0 (by
         first
         |exact .inl (by omega)
         |exact .inr (.inr (by omega))
         |exact .inr (.inl (gx fun⟨a1,a2,a3,a4⟩=>by
           first
           |omega
           |(rw[hem] at a3;cases a3))))]<;>rfl⟩
theorem wF:∀(d:Nat),d≤2048→∀{w:World} {n:aW} {m:Int} {vl x y vk vp:Value},0≤m→m≤65536→cA cY n.lems vl w→bm n.split.at_.2.1 x w→bm n.split.at_.2.2 y w→cA bG n.kids vk w→cA bN n.pf vp w→
 Calls Tryz.prog 111 #[.agg #[vl,I n.split.kd,I n.split.ix,B n.split.at_.1,x,y,vk,B n.empty,vp],I (d:Int),I m] w (bE fun r w'=>aK w w'∧r=.tuple #[I (lF d m n).1,B (lF d m n).2])
 |0,hd,_,_,_,_,_,_,_,_,h0,h1,hl,hx,hy,hk,hp=>wB (fun _ e=>by cases e) hd h0 h1 hl hx hy hk hp
 |d+1,hd,_,_,_,_,_,_,_,_,h0,h1,hl,hx,hy,hk,hp=>wB (fun d' e _ _ _ _ _ _ _ _ a0 a1 b1 b2 b3 b4 b5=>by
   cases e
   exact wF d (by omega) a0 a1 b1 b2 b3 b4 b5) hd h0 h1 hl hx hy hk hp
theorem mr {w:World} {n:aW} {vl x y vk vp:Value} (hl:cA cY n.lems vl w) (hx:bm n.split.at_.2.1 x w) (hy:bm n.split.at_.2.2 y w) (hk:cA bG n.kids vk w) (hp:cA bN n.pf vp w):
 Calls Tryz.prog 66 #[.agg #[vl,I n.split.kd,I n.split.ix,B n.split.at_.1,x,y,vk,B n.empty,vp]] w (bE fun r w'=>aK w w'∧r=B (qg n)):=by
 refine enter (vs:=[.agg #[vl,I n.split.kd,I n.split.ix,B n.split.at_.1,x,y,vk,B n.empty,vp]]) Tryz.func66 MI MI MI ?_
 refine af (aa ?_)
 obtain⟨g1,w1,hr1,l1,x1,k1⟩:=cC (P:=Tryz.prog) (w:=w) (T:=52) (cs:=[vl,I n.split.kd,I n.split.ix,B n.split.at_.1,x,y,vk,B n.empty,vp])
 refine cG MI MI hr1 (ac MI MI (ag (ab (af (aa (ak MI MI (k1.ld L9 MI (by kernel_rfl)) (am lG MI MI ((wF 2048 (Nat.le_refl _) (m:=65536) (by omega) (by omega) (hl.ext x1) (hx.ext x1) (hy.ext x1) (hk.ext x1) (hp.ext x1))) ?_)))))))
 rintro v7 w7 ⟨x7,rfl⟩
 refine ae MI MI (ao MI MI (bj) (ao MI MI (bk) (ac MI MI (ac MI MI (ag (ab (af (aa (ae MI MI (ac MI MI ?_))))))))))
 refine ag (ab (aw (az MI MI ?_)))
 exact⟨_,rfl,(x1.trans x7),by rw[HJ n]⟩
end Go.Rl
namespace Go.Rl
open Go.RowKit
def fG (q:fi):Bool:=rv q.1 q.2.1 q.2.2
def mw (l:List cb):Bool:=l.all fun m=>fG m.co
def iL (l:dI):Bool:=fG l.va&&mw l.pf
mutual
def i5:aW→Bool
 |.mk lems sp kids _ pf=>mw pf&&fG sp.at_&&lems.all iL&&wG kids
def wG:List aW→Bool
 |[]=>true
 |n::l=>i5 n&&wG l
end
theorem yz:∀l:List aW,wG l=l.all i5
 |[]=>rfl
 |n::l=>by simp only[wG,List.all_cons,yz l]
theorem En (n:aW):i5 n=(mw n.pf&&fG n.split.at_&&n.lems.all iL&&n.kids.all i5):=by
 cases n with
 |mk l s k e p=>simp only[i5,yz];rfl
def Lp (m:cb):Prop:=lB m.kd∧lB m.ix∧lB m.lo∧lB m.hi
def wP (l:List cb):Prop:=∀m∈l,Lp m
def HN (l:dI):Prop:=lB l.un∧wP l.pf
def wD (d:bS):Prop:=lB d.kd∧lB d.ix
mutual
def wN:aW→Prop
 |.mk lems sp kids _ pf=>(∀l∈lems,HN l)∧wD sp∧wP pf∧KT kids
def KT:List aW→Prop
 |[]=>True
 |n::l=>wN n∧KT l
end
theorem z6:∀l:List aW,KT l↔∀n∈l,wN n
 |[]=>by simp[KT]
 |n::l=>by simp only[KT,z6 l,List.mem_cons,forall_eq_or_imp]
theorem tN (n:aW):wN n↔(∀l∈n.lems,HN l)∧wD n.split∧wP n.pf∧∀k∈n.kids,wN k:=by
 cases n with
 |mk l s k e p=>simp only[wN,z6];rfl
theorem mC (n:aW):dE n=if n.kids.length=0 then vU n.empty++ey n.lems++iZ n.pf else[2]++ey n.lems++fJ n.split++n.kids.flatMap dE:=by
 cases n with
 |mk l s k e p=>
  cases k with
  |nil=>simp[dE,aW.kids,aW.empty,aW.lems,aW.pf]
  |cons k ks=>simp[dE,aW.kids,aW.lems,aW.split,vW]
theorem nB {l t:List UInt8} {n:Int} (h:jq l=some (n,t)):l=dn n++t∧lB n:=by
 refine⟨?_,zK (st:=some l) (t:=t) h⟩
 unfold jq at h
 obtain⟨p,h1,h2⟩:=Option.map_eq_some_iff.1 h
 simp only[Prod.mk.injEq] at h2
 obtain⟨h3,h4⟩:=gd h1
 rw[←h2.1,←h2.2,dn,KC]
 exact h3
theorem uO {l t:List UInt8} {q:fi} (h:i7 l=some (q,t)):l=gj q++t∧fG q=true:=by
 obtain⟨b,n,m⟩:=q
 have:=Eh h
 exact⟨this.1,this.2.1⟩
section
variable {α:Type} {f:List UInt8→Option (α×List UInt8)} {e:α→List UInt8} {Q:α→Prop}
theorem wH (hf:∀l a t,f l=some (a,t)→l=e a++t∧Q a):∀(n:Nat) (l:List UInt8) (xs:List α) (t:List UInt8),bQ f n l=some (xs,t)→l=xs.flatMap e++t∧xs.length=n∧∀x∈xs,Q x
 |0,l,xs,t,h=>by
  simp only[bQ,Option.some.injEq,Prod.mk.injEq] at h
  obtain⟨rfl,rfl⟩:=h
  exact⟨rfl,rfl,fun _ h=>by simp at h⟩
 |n+1,l,xs,t,h=>by
  simp only[bQ] at h
  obtain⟨p,h1,h2⟩:=Option.bind_eq_some_iff.1 h
  obtain⟨q,h3,h4⟩:=Option.map_eq_some_iff.1 h2
  simp only[Prod.mk.injEq] at h4
  obtain⟨rfl,rfl⟩:=h4
  obtain⟨a1,a2⟩:=hf l p.1 p.2 h1
  obtain⟨b1,b2,b3⟩:=wH hf n p.2 q.1 q.2 h3
  refine⟨?_,by simp[b2],fun x hx=>?_⟩
  ·rw[List.flatMap_cons,List.append_assoc,←b1];exact a1
  ·rcases List.mem_cons.1 hx with rfl|hx
   ·exact a2
   ·exact b3 x hx
theorem qZ (hf:∀l a t,f l=some (a,t)→l=e a++t∧Q a) {l t:List UInt8} {xs:List α} (h:dk f l=some (xs,t)):l=uv xs.length++xs.flatMap e++t∧xs.length<18446744073709551616∧∀x∈xs,Q x:=by
 unfold dk at h
 obtain⟨p,h1,h2⟩:=Option.bind_eq_some_iff.1 h
 obtain⟨a1,a2⟩:=gd (l:=l) (n:=p.1) (t:=p.2) h1
 obtain⟨b1,b2,b3⟩:=wH hf _ _ _ _ h2
 refine⟨?_,by omega,b3⟩
 rw[b2,List.append_assoc,←b1]
 exact a1
end
theorem Eo {k n:Nat} {l t:List UInt8} (h:jP k l=some (n,t)):l=uv n++t∧n≤k:=by
 unfold jP at h
 obtain⟨p,h1,h2⟩:=Option.bind_eq_some_iff.1 h
 split at h2
 ·simp only[Option.some.injEq] at h2
  subst h2
  exact⟨(gd h1).1,by assumption⟩
 ·cases h2
theorem Bw {n:Nat} (h:n≤1):uv n=vU (bT n):=by
 rw[iV (by omega)]
 rcases Nat.le_one_iff_eq_zero_or_eq_one.1 h with rfl|rfl<;>rfl
theorem Ep {l t:List UInt8} {d:bS} (h:oa l=some (d,t)):l=fJ d++t∧(fG d.at_=true∧wD d):=by
 unfold oa at h
 obtain⟨p1,h1,h⟩:=Option.bind_eq_some_iff.1 h
 obtain⟨p2,h2,h⟩:=Option.bind_eq_some_iff.1 h
 obtain⟨p3,h3,h⟩:=Option.bind_eq_some_iff.1 h
 simp only[Option.some.injEq,Prod.mk.injEq] at h
 obtain⟨rfl,rfl⟩:=h
 have a1:=nB (n:=p1.1) (t:=p1.2) h1
 have a2:=nB (n:=p2.1) (t:=p2.2) h2
 have a3:=uO (q:=p3.1) (t:=p3.2) h3
 refine⟨?_,a3.2,a1.2,a2.2⟩
 show l=dn p1.1++dn p2.1++gj p3.1++p3.2
 rw[List.append_assoc,List.append_assoc,←a3.1,←a2.1,←a1.1]
theorem HO {l t:List UInt8} {d:cb} (h:qV l=some (d,t)):l=fg d++t∧(fG d.co=true∧Lp d):=by
 unfold qV at h
 obtain⟨p1,h1,h⟩:=Option.bind_eq_some_iff.1 h
 obtain⟨p2,h2,h⟩:=Option.bind_eq_some_iff.1 h
 obtain⟨p3,h3,h⟩:=Option.bind_eq_some_iff.1 h
 obtain⟨p4,h4,h⟩:=Option.bind_eq_some_iff.1 h
 obtain⟨p5,h5,h⟩:=Option.bind_eq_some_iff.1 h
 simp only[Option.some.injEq,Prod.mk.injEq] at h
 obtain⟨rfl,rfl⟩:=h
 have a1:=nB (n:=p1.1) (t:=p1.2) h1
 have a2:=nB (n:=p2.1) (t:=p2.2) h2
 have a3:=nB (n:=p3.1) (t:=p3.2) h3
 have a4:=nB (n:=p4.1) (t:=p4.2) h4
 have a5:=uO (q:=p5.1) (t:=p5.2) h5
 refine⟨?_,a5.2,a1.2,a2.2,a3.2,a4.2⟩
 show l=dn p1.1++dn p2.1++dn p3.1++dn p4.1++gj p5.1++p5.2
 rw[List.append_assoc,List.append_assoc,List.append_assoc,List.append_assoc,←a5.1,←a4.1,←a3.1,←a2.1,←a1.1]
theorem Er {l t:List UInt8} {xs:List cb} (h:Bt l=some (xs,t)):l=iZ xs++t∧xs.length<18446744073709551616∧mw xs=true∧wP xs:=by
 obtain⟨h1,h2,h3⟩:=qZ (fun l a t h=>HO h) h
 exact⟨h1,h2,List.all_eq_true.2 fun m hm=>(h3 m hm).1,fun m hm=>(h3 m hm).2⟩
theorem HP {l t:List UInt8} {m:dI} (h:nw l=some (m,t)):l=dY m++t∧(iL m=true∧HN m∧m.pf.length<18446744073709551616):=by
 unfold nw at h
 obtain⟨p1,h1,h⟩:=Option.bind_eq_some_iff.1 h
 obtain⟨p2,h2,h⟩:=Option.bind_eq_some_iff.1 h
 obtain⟨p3,h3,h⟩:=Option.bind_eq_some_iff.1 h
 obtain⟨p4,h4,h⟩:=Option.bind_eq_some_iff.1 h
 simp only[Option.some.injEq,Prod.mk.injEq] at h
 obtain⟨rfl,rfl⟩:=h
 have a1:=nB (n:=p1.1) (t:=p1.2) h1
 have a2:=Eo (n:=p2.1) (t:=p2.2) h2
 have a3:=uO (q:=p3.1) (t:=p3.2) h3
 have a4:=Er (xs:=p4.1) (t:=p4.2) h4
 refine⟨?_,by simp only[iL,Bool.and_eq_true];exact⟨a3.2,a4.2.2.1⟩,⟨a1.2,a4.2.2.2⟩,a4.2.1⟩
 show l=dn p1.1++vU (bT p2.1)++gj p3.1++iZ p4.1++p4.2
 rw[List.append_assoc,List.append_assoc,List.append_assoc,←a4.1,←a3.1,←Bw a2.2,←a2.1,←a1.1]
theorem FN {l t:List UInt8} {xs:List dI} (h:i8 l=some (xs,t)):l=ey xs++t∧xs.length<18446744073709551616∧xs.all iL=true∧(∀m∈xs,HN m):=by
 obtain⟨h1,h2,h3⟩:=qZ (fun l a t h=>HP h) h
 exact⟨h1,h2,List.all_eq_true.2 fun m hm=>(h3 m hm).1,fun m hm=>(h3 m hm).2.1⟩
theorem wI:∀(k:Nat) (l t:List UInt8) (n:aW),qa k l=some (n,t)→l=dE n++t∧(i5 n=true∧wN n∧(n.kids.length=0∨n.kids.length=2))
 |0,_,_,_,h=>by cases h
 |k+1,l,t,n,h=>by
  simp only[qa] at h
  obtain⟨p1,h1,h⟩:=Option.bind_eq_some_iff.1 h
  obtain⟨p2,h2,h⟩:=Option.bind_eq_some_iff.1 h
  have a1:=Eo (n:=p1.1) (t:=p1.2) h1
  have a2:=FN (xs:=p2.1) (t:=p2.2) h2
  split at h
  ·rename_i hk
   obtain⟨p3,h3,h⟩:=Option.bind_eq_some_iff.1 h
   simp only[Option.some.injEq,Prod.mk.injEq] at h
   obtain⟨rfl,rfl⟩:=h
   have a3:=Er (xs:=p3.1) (t:=p3.2) h3
   refine⟨?_,?_,?_,.inl rfl⟩
   ·simp only[dE]
    rw[List.append_assoc,List.append_assoc,←a3.1,←a2.1,show decide (p1.1=1)=bT p1.1 from rfl,←Bw (by omega),←a1.1]
   ·simp only[i5,wG,a3.2.2.1,a2.2.2.1,li,KN]
    decide
   ·simp only[wN,KT,and_true]
    exact⟨a2.2.2.2,⟨by show lB 0;unfold lB;omega,by show lB 0;unfold lB;omega⟩,a3.2.2.2⟩
  ·rename_i hk
   obtain⟨p3,h3,h⟩:=Option.bind_eq_some_iff.1 h
   obtain⟨p4,h4,h⟩:=Option.bind_eq_some_iff.1 h
   obtain⟨p5,h5,h⟩:=Option.bind_eq_some_iff.1 h
   simp only[Option.some.injEq,Prod.mk.injEq] at h
   obtain⟨rfl,rfl⟩:=h
   have a3:=Ep (d:=p3.1) (t:=p3.2) h3
   have a4:=wI k _ p4.2 p4.1 h4
   have a5:=wI k _ p5.2 p5.1 h5
   have h2:p1.1=2:=by omega
   refine⟨?_,?_,?_,.inr rfl⟩
   ·have u2:uv 2=[2]:=iV (by omega)
    rw[h2,u2] at a1
    simp only[dE,vV,List.append_assoc,List.nil_append]
    rw[←a5.1,←a4.1,←a3.1,←a2.1,←a1.1]
   ·simp only[i5,wG,a2.2.2.1,a3.2.1,a4.2.1,a5.2.1]
    decide
   ·simp only[wN,KT,and_true]
    exact⟨a2.2.2.2,a3.2.2,fun _ h=>by simp at h,a4.2.2.1,a5.2.2.1⟩
theorem HQ {l t:List UInt8} {n:aW} (h:gT l=some (n,t)):l=dE n++t∧(i5 n=true∧wN n∧(n.kids.length=0∨n.kids.length=2)):=wI l.length l t n h
theorem jA (q:fi):4*(q.2.1.length+q.2.2.length)≤(gj q).length:=by
 have h:∀n:List UInt32,4*n.length≤(jf n).length:=fun n=>by simp only[jf,List.length_append,eJ];omega
 have h1:=h q.2.1
 have h2:=h q.2.2
 simp only[gj,oc,List.length_append,List.length_cons,List.length_nil]
 omega
end Go.Rl
namespace Go.Rl
def lcp:List UInt8→List UInt8→Nat
 |a::l,b::m=>if a=b then lcp l m+1 else 0
 |_,_=>0
def ml (d:List UInt8) (i k:Nat):Nat:=lcp (d.drop i) (d.drop (i-k))
def bst (d:List UInt8) (i:Nat):Nat→Nat×Nat
 |0=>(0,0)
 |j+1=>if 4≤ml d i (j+1)∧(bst d i j).1<ml d i (j+1) then(ml d i (j+1),j+1) else bst d i j
def Jd (d:List UInt8) (i:Nat):Nat×Nat:=bst d i (min i 4096)
def pk (d:List UInt8) (i run:Nat):List UInt8:=
 if _h:i<d.length then
  if hn:(Jd d i).1=0 then pk d (i+1) (run+1)
  else uv run++(d.drop (i-run)).take run++uv ((Jd d i).1-4)++uv ((Jd d i).2-1)++pk d (i+(Jd d i).1) 0
 else if 0<run then uv run++d.drop (d.length-run) else[]
termination_by d.length-i
decreasing_by all_goals omega
def HR (d:List UInt8):List UInt8:=uv d.length++pk d 0 0
def cpy (k:Nat):Nat→List UInt8→List UInt8
 |0,out=>out
 |m+1,out=>cpy k m (out++[out.getD (out.length-k) 0])
def unp (total:Nat):Nat→List UInt8→List UInt8→Option (List UInt8)
 |0,_,_=>none
 |f+1,rest,out=>
  if out.length<total then
   (eK rest).bind fun p=>
     if total-out.length<p.1∨p.2.length<p.1 then none
     else if total-out.length=p.1 then(if p.2.drop p.1=[] then some (out++p.2.take p.1) else none)
     else(eK (p.2.drop p.1)).bind fun q=>
      if total-out.length-p.1<4∨total-out.length-p.1-4<q.1 then none
      else(eK q.2).bind fun r=>
       if 4096≤r.1∨(out++p.2.take p.1).length≤r.1 then none
       else unp total f r.2 (cpy (r.1+1) (q.1+4) (out++p.2.take p.1))
  else if rest=[] then some out else none
end Go.Rl
namespace Go.Rl
def unr (total:Nat):Nat→List UInt8→List UInt8→Option (List UInt8×List UInt8)
 |0,_,_=>none
 |f+1,rest,out=>
  if out.length<total then
   (p9 rest).bind fun p=>
     if (out++p.1).length<total then
      (eK p.2).bind fun q=>(eK q.2).bind fun r=>
        if total≤q.1∨(out++p.1).length≤r.1 then none
        else unr total f r.2 (cpy (r.1+1) (min (q.1+4) (total-(out++p.1).length)) (out++p.1))
     else some (out++p.1,p.2)
  else some (out,rest)
def vp (l t:List UInt8) (total:Nat):Option (List UInt8):=(unp total (total+1) t []).bind fun out=>if HR out=l then some out else none
def vr (l t:List UInt8) (total:Nat):Option (List UInt8):=(unr total (total+1) t []).bind fun p=>if p.2=[]∧HR p.1=l then some p.1 else none
end Go.Rl
namespace Go.Rl
def pos (d q:List UInt8) (n:Nat):List Nat:=(List.range n).filter fun p=>(d.drop p).take 4==q
end Go.Rl
namespace Go.Rl
open Go.RowKit Go.Proofs
open Go.Maps (Keyed)
end Go.Rl
namespace Go.Rl
open Go.RowKit Go.Proofs
end Go.Rl
namespace Go.Rl
open Go.RowKit Go.Proofs
theorem n64 {n:Nat} (h:n<18446744073709551616):(UInt64.ofNat n).toNat=n:=by rw[UInt64.toNat_ofNat'];omega
end Go.Rl
namespace Go.Rl
open Go.RowKit Go.Proofs
theorem Bx:aG Tryz.prog 43:=⟨_,Tryz.func43,by kernel_rfl,rfl⟩
theorem By {w:World} {l m:List UInt8} {v u:Value} (hv:cz l v w) (hu:cz m u w):
 Calls Tryz.prog 43 #[v,u] w (bE fun r w'=>aK w w'∧r=B (decide (l=m))):=by
 refine enter (vs:=[v,u]) Tryz.func43 MI MI MI ?_
 have hll:=hv.len
 refine af (aa (ac MI MI (ag (ab (af (af (aa (ae MI MI (aP MI MI (cN hv) (ae MI MI (aP MI MI (cN hu) (al MI MI MI (cT) ?_))))))))))))
 refine ag (ab ?_)
 refine bw MI (fun h10=>?_) (fun h10=>?_)
 ·have hne:l≠m:=fun h=>h10 (by rw[h])
  refine af (aa (ac MI MI (ag (ab (aw (ay (az MI MI ?_)))))))
  exact⟨_,rfl,aK.refl _,congrArg B (decide_eq_false hne).symm⟩
 ·have hlen:l.length=m.length:=by omega
  refine aA (ab (af (af (aa (ae MI MI (aP MI MI (cN hv) (ae MI MI (ag (ab (aF ?_))))))))))
  refine cg (α:=Nat) (fun x=>[(0,v),(1,u),(12,I (l.length:Int)),(13,I (x:Int))]) (fun x w'=>aK w w'∧x≤l.length∧l.take x=m.take x) (fun x=>l.length-x) (0) ⟨rfl,rfl,rfl,rfl,trivial⟩ ⟨aK.refl _,by omega,rfl⟩ ?_
  rintro i w4 ⟨e4,hi,ht⟩
  refine af (aa (al MI MI MI (a9) (ag (ab (af ?_)))))
  refine bw MI (fun h14=>?_) (fun h14=>?_)
  ·refine aA (ab (af (aF (af (aa (ae MI MI (ac MI MI (ag (ab (af (bP 8 [0,1,12,13,19,23] (by kernel_rfl) (by kernel_rfl) ?_)))))))))))
   refine aC MI MI (aC MI MI ?_)
   obtain⟨a18,p18,q18⟩:=gN (hv.ext e4) (i:=i) (by omega) .i64
   refine aE MI MI MI (fun w _=>p18 w) (aO MI MI (fun w hw=>ai Mh MI (hw.cell_some q18)) (aC MI MI (aC MI MI ?_)))
   obtain⟨a22,p22,q22⟩:=gN (hu.ext e4) (i:=i) (by omega) .i64
   refine aE MI MI MI (fun w _=>p22 w) (aO MI MI (fun w hw=>ai Mh MI (hw.cell_some q22)) (cp ?_))
   intro wg6 xg6
   rintro _ hq0
   obtain rfl:=Eq.symm hq0
   rintro _ hq1
   obtain rfl:=Eq.symm hq1
   rintro _ rfl
   rintro _ rfl
   rintro _ rfl
   rintro _ rfl
   refine al MI MI MI (GA) (ag (ab ?_))
   refine bw MI (fun h24=>?_) (fun h24=>?_)
   ·have hne:l≠m:=fun h=>h24 (by subst h;rfl)
    refine af (aa (ac MI MI (ag (ab (aw (aX (ay (ay (aX (ay (az MI MI ?_)))))))))))
    exact⟨_,rfl,(e4.trans xg6),congrArg B (decide_eq_false hne).symm⟩
   ·have he:l[i]'(by omega)=m[i]'(by omega):=Classical.byContradiction fun h=>h24 h
    refine aA (aS (ab (aa (al (r:=I ((i+1:Nat):Int)) MI MI MI (by have e:((i+1:Nat):Int)=(i:Int)+1:=(by omega);rw[e];exact aN (by omega) (by omega)) ?_))))
    refine ae MI MI (ag ?_)
    refine bR (i+1) ⟨rfl,rfl,rfl,rfl,trivial⟩ ⟨(e4.trans xg6),by omega,by rw[List.take_succ_eq_append_getElem (by omega),List.take_succ_eq_append_getElem (by omega),ht,he]⟩ (by omega)
  ·refine bc (aJ (aJ (bf (ab (af (aa (ac MI MI (ag (ab (aw (az MI MI ?_)))))))))))
   exact⟨_,rfl,e4,by
    rw[List.take_of_length_le (by omega),List.take_of_length_le (by omega)] at ht
    rw[decide_eq_true ht];rfl⟩
end Go.Rl
namespace Go.Rl
open Go.RowKit Go.Proofs
section
variable {w:World} {g:Nat} {st:Option (List UInt8)}
theorem HS (hr:cO g st w):Calls Tryz.prog 90 #[.pointer (some ⟨g,0,none⟩)] w (bE fun r w'=>w=w'∧r=I ((st.getD []).length:Nat)):=(Fx hr).mono fun _ _ ⟨v,h,h1,h2⟩=>⟨v,h,h2.symm,h1⟩
end
end Go.Rl
namespace Go.Rl
open Go.RowKit Go.Proofs
theorem z7 {l t':List UInt8} {n:Nat} (h:eK (l.take 10)=some (n,t')):eK l=some (n,l.drop (uv n).length)∧(uv n).length+t'.length=min l.length 10:=by
 obtain⟨h1,h2⟩:=gd h
 have hlen:(uv n).length+t'.length=min l.length 10:=by
  have:=congrArg List.length h1
  rw[List.length_take,List.length_append] at this
  omega
 have e:l=uv n++(t'++l.drop 10):=by
  rw[←List.append_assoc,←h1,List.take_append_drop]
 refine⟨?_,hlen⟩
 have hd:l.drop (uv n).length=t'++l.drop 10:=by
  conv=>lhs;rw[e]
  rw[List.drop_left' rfl]
 rw[hd]
 conv=>lhs;rw[e]
 exact qr h2 _
theorem z8 {l:List UInt8} (h:eK (l.take 10)=none):eK l=none:=by
 cases hr:eK l with
 |none=>rfl
 |some p=>
  obtain⟨n,t⟩:=p
  obtain⟨h1,h2⟩:=gd hr
  have hl:=fR (n:=n) h2
  have e:l.take 10=uv n++t.take (10-(uv n).length):=by
   rw[h1,List.take_append]
   congr 1
   exact List.take_of_length_le (by omega)
  rw[e,qr h2] at h
  cases h
theorem Je {P:Program} {w:World} {ts:Array TypeId} {ty:TypeId} {n:Nat}:(Builtin.min_ ts ty #[I (n:Int),I 10]).run P w=.ok (I ((min n 10:Nat):Int)) w:=by
 have e:((min n 10:Nat):Int)=if (10:Int)<(n:Int) then 10 else(n:Int):=by split<;>omega
 rw[e];rfl
theorem HT {P:Program} {w:World} {t:TypeId} {x y:Operand} {a b c:Nat} (h:c+b=a) (ha:a≤1099511627776):(bin .sub t x y (I (a:Int)) (I (b:Int))).run P w=.ok (I (c:Int)) w:=by
 have e:(c:Int)=(a:Int)-(b:Int):=by omega
 rw[e]
 exact bC (by omega) (by omega)
end Go.Rl
namespace Go.Rl
open Go.RowKit Go.Proofs
end Go.Rl
namespace Go.Rl
open Go.RowKit Go.Proofs
end Go.Rl
namespace Go.Rl
open Go.RowKit Go.Proofs
theorem KU {l t:List UInt8} {n:Nat} (h:eK l=some (n,t)):t.length≤l.length:=by
 obtain⟨h1,_⟩:=gd h
 rw[h1,List.length_append];omega
theorem HU {l a t:List UInt8} (h:p9 l=some (a,t)):a.length+t.length≤l.length:=by
 unfold p9 at h
 cases hU:eK l with
 |none=>rw[hU] at h;cases h
 |some p=>
  obtain⟨n,u⟩:=p
  rw[hU] at h
  have h:(if n≤u.length then some (u.take n,u.drop n) else none)=some (a,t):=h
  have:=KU hU
  split at h
  ·simp only[Option.some.injEq,Prod.mk.injEq] at h
   rw[←h.1,←h.2,List.length_take,List.length_drop]
   omega
  ·cases h
end Go.Rl
namespace Go.Rl
open Go.RowKit Go.Proofs
end Go.Rl
namespace Go.Rl
open Go.RowKit Go.Proofs
end Go.Rl
namespace Go.Rl
open Go.RowKit Go.Proofs
end Go.Rl
namespace Go.Rl
open Go.RowKit Go.Proofs
end Go.Rl
namespace Go.Rl
end Go.Rl
namespace Go.Rl
open Go.RowKit Go.Proofs
end Go.Rl
namespace Go.Rl
open Go.RowKit Go.Proofs
end Go.Rl
namespace Go.Rl
open Go.RowKit Go.Proofs
theorem wJ:(Tryz.prog.info? 200).map (·.zero)=some (some (.agg (List.replicate 64 (bH 0)).toArray)):=by kernel_rfl
theorem wK:(Tryz.prog.info? 200).map (·.size)=some 64:=by kernel_rfl
theorem fx:aG Tryz.prog 122:=⟨_,Tryz.func122,by kernel_rfl,rfl⟩
theorem wO:aG Tryz.prog 123:=⟨_,Tryz.func123,by kernel_rfl,rfl⟩
theorem fy {w:World} {x:UInt32} (n:Nat) (h0:0<n) (h1:n<32):
 Calls Tryz.prog 122 #[bH x,I (n:Int)] w (bE fun r w'=>aK w w'∧r=bH (i0 x n)):=by
 refine enter (vs:=[bH x,I (n:Int)]) Tryz.func122 MI MI MI ?_
 refine af (aa (ac MI MI (ag (ab (af ?_)))))
 have e:(32:Int)-(n:Int)=((32-n:Nat):Int):=by omega
 refine bP 8 [12] (by kernel_rfl) (by kernel_rfl) ?_
 refine aC MI MI (aC MI MI ?_)
 refine ba MI MI MI (fun w _=>cV n h1) ?_
 refine aC MI MI (aC MI MI ?_)
 refine ba (r:=I ((32-n:Nat):Int)) MI MI MI (fun w _=>by rw[←e];exact bC (by omega) (by omega)) ?_
 refine ba MI MI MI (fun w _=>fj (32-n) (by omega)) ?_
 refine ba MI MI MI (fun w _=>fE) ?_
 refine cp ?_
 intro w' hw
 rintro _ rfl
 refine ac MI MI (ag (ab (aw ?_)))
 refine az MI MI ?_
 exact⟨_,rfl,hw,rfl⟩
theorem wQ (w:World):
 Calls Tryz.prog 123 #[] w (bE fun r w'=>aK w w'∧r=.agg (kc.map bH).toArray):=by
 refine enter (vs:=[]) Tryz.func123 MI MI MI ?_
 refine af (aa (aV MI (zr wJ) (ag (ab (af (aa ?_))))))
 refine bz MI MI (run_build _ _ _ (kc.map bH).toArray (by kernel_rfl)) ?_
 have hb:=ci.new (w:=w) (T:=200) (.agg (List.replicate 64 (bH 0)).toArray) rfl
 refine ar MI MI (jO hb MI wK (kP _)) ?_
 refine ag (ab (aw ?_))
 refine dt MI MI (hb.row _) MH MI wK ?_
 refine⟨_,rfl,?_,rfl⟩
 exact(aK.new w _).of_grown (bK _ _ _) fun k hk=>by
  obtain rfl:=Option.some.inj hk
  exact Nat.le_refl _
theorem eP:aG Tryz.prog 121:=⟨_,Tryz.func121,by kernel_rfl,rfl⟩
theorem uE:aG Tryz.prog 120:=⟨_,Tryz.func120,by kernel_rfl,rfl⟩
theorem eQ {w:World} {x:UInt32} (n:Nat) (h0:0<n) (h1:n<32):
 Calls Tryz.prog 121 #[bH x,I (n:Int)] w (bE fun r w'=>aK w w'∧r=bH (i0 x n)):=by
 refine enter (vs:=[bH x,I (n:Int)]) Tryz.func121 MI MI MI ?_
 refine af (aa (ac MI MI (ag (ab (af ?_)))))
 have e:(32:Int)-(n:Int)=((32-n:Nat):Int):=by omega
 refine bP 8 [12] (by kernel_rfl) (by kernel_rfl) ?_
 refine aC MI MI (aC MI MI ?_)
 refine ba MI MI MI (fun w _=>cV n h1) ?_
 refine aC MI MI (aC MI MI ?_)
 refine ba (r:=I ((32-n:Nat):Int)) MI MI MI (fun w _=>by rw[←e];exact bC (by omega) (by omega)) ?_
 refine ba MI MI MI (fun w _=>fj (32-n) (by omega)) ?_
 refine ba MI MI MI (fun w _=>fE) ?_
 refine cp ?_
 intro w' hw
 rintro _ rfl
 refine ac MI MI (ag (ab (aw ?_)))
 refine az MI MI ?_
 exact⟨_,rfl,hw,rfl⟩
theorem uF (w:World):
 Calls Tryz.prog 120 #[] w (bE fun r w'=>aK w w'∧r=.agg (kc.map bH).toArray):=by
 refine enter (vs:=[]) Tryz.func120 MI MI MI ?_
 refine af (aa (aV MI (zr wJ) (ag (ab (af (aa ?_))))))
 refine bz MI MI (run_build _ _ _ (kc.map bH).toArray (by kernel_rfl)) ?_
 have hb:=ci.new (w:=w) (T:=200) (.agg (List.replicate 64 (bH 0)).toArray) rfl
 refine ar MI MI (jO hb MI wK (kP _)) ?_
 refine ag (ab (aw ?_))
 refine dt MI MI (hb.row _) MH MI wK ?_
 refine⟨_,rfl,?_,rfl⟩
 exact(aK.new w _).of_grown (bK _ _ _) fun k hk=>by
  obtain rfl:=Option.some.inj hk
  exact Nat.le_refl _
end Go.Rl
namespace Go.Rl
open Go.RowKit Go.Proofs
theorem Es:(Tryz.prog.info? 150).map (·.zero)=some (some (.agg (List.replicate 8 (bH 0)).toArray)):=by kernel_rfl
theorem oT:(Tryz.prog.info? 150).map (·.size)=some 8:=by kernel_rfl
section
variable {w:World} {g o:Nat} {T:TypeId}
theorem dZ (i:Nat) (hi:i<8):(Instr.indexAt 150 (.pointer (some ⟨g,0,none⟩)) (I (i:Int))).run Tryz.prog w=.ok (.pointer (some ⟨g,i,none⟩)) w:=by
 have:=iF (P:=Tryz.prog) (w:=w) (g:=g) (o:=0) MC eI hi .i64
 rwa [Nat.zero_add] at this
theorem ip (i:Nat) (hi:i<64):(Instr.indexAt 200 (.pointer (some ⟨g,0,none⟩)) (I (i:Int))).run Tryz.prog w=.ok (.pointer (some ⟨g,i,none⟩)) w:=by
 have:=iF (P:=Tryz.prog) (w:=w) (g:=g) (o:=0) MH eI hi .i64
 rwa [Nat.zero_add] at this
theorem dq {m:List UInt32} (h:ci g T (m.map bH) w) (i:Nat) (hi:i<m.length):(Instr.loadAt 149 (.pointer (some ⟨g,i,none⟩))).run Tryz.prog w=.ok (bH (m.getD i 0)) w:=
 ai Tryz.underlying149 rfl (h.cell (by simp[hi]))
theorem Bz {m:List UInt32} {x:UInt32} (h:ci g T (m.map bH) w) (i:Nat) (hi:i<m.length):(Instr.storeAt 149 (.pointer (some ⟨g,i,none⟩)) (bH x)).run Tryz.prog w=.ok () (w.setCell ⟨g,i,none⟩ (bH x)):=
 ei eI rfl h (by simpa using hi)
theorem ci.setU {m:List UInt32} (h:ci g T (m.map bH) w) (i:Nat) (x:UInt32):ci g T ((m.set i x).map bH) (w.setCell ⟨g,i,none⟩ (bH x)):=by
 have:=h.set i (bH x)
 rwa [←List.map_set] at this
end
def dB (l:List UInt32):List UInt32:=l++List.replicate (64-l.length) 0
theorem nC {l:List UInt32} (h:l.length≤64):(dB l).length=64:=by simp[dB];omega
theorem gy {l:List UInt32} {i:Nat} (h:i<l.length):(dB l).getD i 0=l.getD i 0:=by
 simp[dB,List.getD,List.getElem?_append_left h]
theorem nD {l:List UInt32} (x:UInt32) (h:l.length<64):(dB l).set l.length x=dB (l++[x]):=by
 unfold dB
 rw[List.set_append_right _ _ (Nat.le_refl _),Nat.sub_self]
 have:64-l.length=(64-(l++[x]).length)+1:=by simp;omega
 rw[this,List.replicate_succ,List.set_cons_zero,List.append_assoc]
 rfl
theorem wS (b:List UInt8) (k:Nat):jy b (k+1)=jy b k++[rZ b k]:=by simp[jy,List.range_succ]
theorem kq (b:List UInt8) (k:Nat):(jy b k).length=k:=by simp[jy]
def jB (s v:List UInt32) (i:Nat):List UInt32:=List.zipWith (· + ·) (s.take i) (v.take i)++s.drop i
theorem FO {s v:List UInt32} (hs:s.length=8) (hv:v.length=8) {i:Nat} (hi:i≤8):(jB s v i).length=8:=by
 simp[jB,hs,hv];omega
theorem yA {s v:List UInt32} (hs:s.length=8) (hv:v.length=8) {i:Nat} (hi:i<8):(jB s v i).getD i 0=s.getD i 0:=by
 have h:(List.zipWith (· + ·) (s.take i) (v.take i)).length=i:=by simp[hs,hv];omega
 simp only[jB,List.getD_eq_getElem?_getD]
 rw[List.getElem?_append_right (by omega),h]
 simp
theorem yB {s v:List UInt32} (hs:s.length=8) (hv:v.length=8) {i:Nat} (hi:i<8):(jB s v i).set i (s.getD i 0+v.getD i 0)=jB s v (i+1):=by
 have h:(List.zipWith (· + ·) (s.take i) (v.take i)).length=i:=by simp[hs,hv];omega
 have h1:s.getD i 0=s[i]:=by simp[List.getD,hs,hi]
 have h2:v.getD i 0=v[i]:=by simp[List.getD,hv,hi]
 unfold jB
 rw[List.set_append_right _ _ (by omega),h,Nat.sub_self,h1,h2]
 rw[List.drop_eq_getElem_cons (by omega:i<s.length),List.set_cons_zero,List.take_succ_eq_append_getElem (by omega:i<s.length),List.take_succ_eq_append_getElem (by omega:i<v.length)]
 rw[List.zipWith_append (by simp[hs,hv])]
 simp
theorem yC {s v:List UInt32} (hs:s.length=8) (hv:v.length=8):jB s v 8=List.zipWith (· + ·) s v:=by
 have h1:s.take 8=s:=List.take_of_length_le (by omega)
 have h2:v.take 8=v:=List.take_of_length_le (by omega)
 have h3:s.drop 8=[]:=List.drop_eq_nil_of_le (by omega)
 unfold jB
 rw[h1,h2,h3,List.append_nil]
end Go.Rl
namespace Go.Rl
open Go.RowKit Go.Proofs
theorem BA:aG Tryz.prog 86:=⟨_,Tryz.func86,by kernel_rfl,rfl⟩
theorem C1 {P:Program} {w:World} {t:TypeId} {v:Value} {l:List Value} (hv:v.cells=l.toArray):∃g w',(Instr.box t v).run P w=.ok (.pointer (some ⟨g,0,none⟩)) w'∧w.heap.size≤g∧aK w w'∧ci g t l w':=
 ⟨_,_,vg,Nat.le_refl _,aK.new w _,ci.new v hv⟩
theorem cz.reads {b:List UInt8} {v:Value} {w:World} (h:cz b v w):∃ad:Nat→Addr,∀i,i<b.length→
 (∀w':World,(Instr.indexAt 22 v (I (i:Int))).run Tryz.prog w'=.ok (.pointer (some (ad i))) w')∧∀w',aK w w'→(Instr.loadAt 5 (.pointer (some (ad i)))).run Tryz.prog w'=.ok (U8 (b.getD i 0)) w':=by
 have hall:∀i:Nat,∃ad:Addr,i<b.length→(∀w':World,(Instr.indexAt 22 v (I (i:Int))).run Tryz.prog w'=.ok (.pointer (some ad)) w')∧∀w',aK w w'→(Instr.loadAt 5 (.pointer (some ad))).run Tryz.prog w'=.ok (U8 (b.getD i 0)) w':=fun i=>by
  by_cases hi:i<b.length
  ·obtain⟨ad,had,hcell⟩:=gN h hi .i64
   refine⟨ad,fun _=>⟨had,fun w' hw'=>?_⟩⟩
   obtain⟨ad',had',hcell'⟩:=gN (h.ext hw') hi .i64
   have:=(had w').symm.trans (had' w')
   simp only[Result.ok.injEq,Value.pointer.injEq,Option.some.injEq,and_true] at this
   subst this
   have e:b.getD i 0=b[i]:=by simp[List.getD,hi]
   rw[e]
   exact JY hcell'
  ·exact⟨⟨0,0,none⟩,fun h=>absurd h hi⟩
 exact⟨fun i=>Classical.choose (hall i),fun i hi=>Classical.choose_spec (hall i) hi⟩
theorem BB {w:World} {s:List UInt32} {b:List UInt8} {v:Value} (hs:s.length=8) (hbl:b.length=64) (hv:cz b v w):
 Calls Tryz.prog 86 #[.agg (s.map bH).toArray,v] w (bE fun r w'=>aK w w'∧r=.agg ((xA s b).map bH).toArray):=by
 refine enter (vs:=[.agg (s.map bH).toArray,v]) Tryz.func86 MI MI MI ?_
 obtain⟨g2,w1,hr,n2,x1,b2⟩:=C1 (P:=Tryz.prog) (w:=w) (t:=150) (v:=.agg (s.map bH).toArray) (l:=s.map bH) rfl
 refine af (aa (cG MI MI hr ?_))
 obtain⟨g4,w2,hr,n4,x2,b4⟩:=aY (P:=Tryz.prog) (w:=w1) (l:=(List.replicate 8 0).map bH) Es rfl
 refine aV MI hr (ag (ab (af (aa ?_))))
 refine am (vs:=[]) uE MI MI (uF w2) ?_
 rintro _ w3 ⟨x3,rfl⟩
 obtain⟨g5,w4,hr,n5,x4,b5⟩:=aY (P:=Tryz.prog) (w:=w3) (l:=List.replicate 64 (bH 0)) wJ rfl
 refine aV MI hr ?_
 refine ar MI MI (jO b5 MI wK (kP _)) ?_
 have b5':=b5.row (kc.map bH)
 have q5:=bK w4 g5 (kc.map bH).toArray
 revert b5' q5
 generalize w4.setRow g5 (kc.map bH).toArray=w5
 intro b5' q5
 refine ag (ab (af (aa ?_)))
 obtain⟨g6,w6,hr,n6,x6,b6⟩:=aY (P:=Tryz.prog) (w:=w5) (l:=(dB []).map bH) wJ rfl
 refine aV MI hr (ag (ab ?_))
 have l24:g2<g4:=Nat.lt_of_lt_of_le b2.lt n4
 have l45:g4<g5:=Nat.lt_of_lt_of_le b4.lt (Nat.le_trans x3.size n5)
 have l56:g5<g6:=Nat.lt_of_lt_of_le b5'.lt n6
 have ne4:some g4≠some g5:=fun h=>by cases h;omega
 have ne2:some g2≠some g5:=fun h=>by cases h;omega
 have B2:ci g2 _ _ w6:=((((b2.ext x2).ext x3).ext x4).other q5 ne2).ext x6
 have B4:ci g4 _ _ w6:=(((b4.ext x3).ext x4).other q5 ne4).ext x6
 have B5:ci g5 _ _ w6:=b5'.ext x6
 have E6:aK w w6:=((((x1.trans x2).trans x3).trans x4).of_new q5 (by omega)).trans x6
 have hw6:w.heap.size≤g6:=by omega
 obtain⟨ad,had⟩:=hv.reads
 refine af (eW (fun _:Unit=>[(2,.pointer (some ⟨g2,0,none⟩)),(4,.pointer (some ⟨g4,0,none⟩)),(5,.pointer (some ⟨g5,0,none⟩)),(6,.pointer (some ⟨g6,0,none⟩))]) (fun _ w'=>w6.grownBy w' (some g6)∧ci g6 200 ((dB (bI b 0)).map bH) w') ?_ ?_)
 ·refine af (aa (ac MI MI (ag (ab (aF ?_)))))
  refine cg (α:=Nat) (fun k=>[(1,v),(2,.pointer (some ⟨g2,0,none⟩)),(4,.pointer (some ⟨g4,0,none⟩)),(5,.pointer (some ⟨g5,0,none⟩)),(6,.pointer (some ⟨g6,0,none⟩)),(7,I (k:Int))])
   (fun k w'=>w6.grownBy w' (some g6)∧ci g6 200 ((dB (jy b k)).map bH) w'∧k≤16) (fun k=>16-k) 0 ⟨rfl,rfl,rfl,rfl,rfl,rfl,trivial⟩
   ⟨dH (aK.refl _),b6,by omega⟩ ?_
  rintro k w7 ⟨q7,b7,hk⟩
  refine af (af (aa (ae MI MI ?_)))
  refine al MI MI MI (a9) ?_
  refine ag (ab ?_)
  refine bw MI (fun h=>?_) (fun h=>?_)
  ·have hk16:k<16:=by omega
   have E7:aK w w7:=E6.of_new q7 hw6
   refine aA (ab (af (aF ?_)))
   have e0:(4:Int)*(k:Int)=((4*k:Nat):Int):=by omega
   have e1:((4*k:Nat):Int)+1=((4*k+1:Nat):Int):=by omega
   have e2:((4*k:Nat):Int)+2=((4*k+2:Nat):Int):=by omega
   have e3:((4*k:Nat):Int)+3=((4*k+3:Nat):Int):=by omega
   refine bP 35 [1,2,4,5,6,7,58,59] (by kernel_rfl) (by kernel_rfl) ?_
   refine aC MI MI (aC MI MI (aC MI MI ?_))
   refine ba (r:=I ((4*k:Nat):Int)) MI MI MI (fun w _=>by rw[←e0];exact fB (by omega) (by omega)) ?_
   refine aE MI MI MI (fun w _=>(had (4*k) (by omega)).1 w) ?_
   refine aO MI MI (fun w' hw=>(had (4*k) (by omega)).2 w' (E7.trans hw)) ?_
   refine dG MI MI (fun w _=>eG Mh Ma) ?_
   refine ba MI MI MI (fun w _=>fj 24 (by omega)) ?_
   refine aC MI MI (aC MI MI ?_)
   refine ba (r:=I ((4*k:Nat):Int)) MI MI MI (fun w _=>by rw[←e0];exact fB (by omega) (by omega)) ?_
   refine ba (r:=I ((4*k+1:Nat):Int)) MI MI MI (fun w _=>by rw[←e1];exact aN (by omega) (by omega)) ?_
   refine aE MI MI MI (fun w _=>(had (4*k+1) (by omega)).1 w) ?_
   refine aO MI MI (fun w' hw=>(had (4*k+1) (by omega)).2 w' (E7.trans hw)) ?_
   refine dG MI MI (fun w _=>eG Mh Ma) ?_
   refine ba MI MI MI (fun w _=>fj 16 (by omega)) ?_
   refine ba MI MI MI (fun w _=>fE) ?_
   refine aC MI MI (aC MI MI ?_)
   refine ba (r:=I ((4*k:Nat):Int)) MI MI MI (fun w _=>by rw[←e0];exact fB (by omega) (by omega)) ?_
   refine ba (r:=I ((4*k+2:Nat):Int)) MI MI MI (fun w _=>by rw[←e2];exact aN (by omega) (by omega)) ?_
   refine aE MI MI MI (fun w _=>(had (4*k+2) (by omega)).1 w) ?_
   refine aO MI MI (fun w' hw=>(had (4*k+2) (by omega)).2 w' (E7.trans hw)) ?_
   refine dG MI MI (fun w _=>eG Mh Ma) ?_
   refine ba MI MI MI (fun w _=>fj 8 (by omega)) ?_
   refine ba MI MI MI (fun w _=>fE) ?_
   refine aC MI MI (aC MI MI ?_)
   refine ba (r:=I ((4*k:Nat):Int)) MI MI MI (fun w _=>by rw[←e0];exact fB (by omega) (by omega)) ?_
   refine ba (r:=I ((4*k+3:Nat):Int)) MI MI MI (fun w _=>by rw[←e3];exact aN (by omega) (by omega)) ?_
   refine aE MI MI MI (fun w _=>(had (4*k+3) (by omega)).1 w) ?_
   refine aO MI MI (fun w' hw=>(had (4*k+3) (by omega)).2 w' (E7.trans hw)) ?_
   refine dG MI MI (fun w _=>eG Mh Ma) ?_
   refine ba MI MI MI (fun w _=>fE) ?_
   refine aE MI MI MI (fun w _=>ip k (by omega)) ?_
   refine cp ?_
   intro w8 hx8
   rintro _ rfl _ rfl _ rfl _ rfl _ rfl _ rfl _ rfl _ rfl
   have hlen:(dB (jy b k)).length=64:=nC (by rw[kq];omega)
   refine ar MI MI (Bz (x:=rZ b k) (b7.ext hx8) k (by omega)) ?_
   have b8:=(b7.ext hx8).setU k (rZ b k)
   have q8:=(q7.trans (dH hx8)).trans (bi w8 g6 k (bH (rZ b k)))
   have hset:(dB (jy b k)).set k (rZ b k)=dB (jy b (k+1)):=by
    have:=nD (l:=jy b k) (rZ b k) (by rw[kq];omega)
    rw[kq] at this
    rw[this,wS]
   rw[hset] at b8
   refine ag (aS (ab (aa (ae MI MI ?_))))
   refine al MI MI MI (aN (by omega) (by omega)) ?_
   refine ac MI MI (ag ?_)
   exact bR (k+1) ⟨rfl,rfl,rfl,rfl,rfl,rfl,trivial⟩ ⟨q8,b8,by omega⟩ (by omega)
  ·have hk':k=16:=by omega
   subst hk'
   exact bc (aJ (aJ (bf (ck () ⟨rfl,rfl,rfl,rfl,trivial⟩ ⟨q7,b7⟩))))
 rintro _ w7 ⟨q7,b7⟩
 refine ab ?_
 refine af (eW (fun _:Unit=>[(2,.pointer (some ⟨g2,0,none⟩)),(4,.pointer (some ⟨g4,0,none⟩)),(5,.pointer (some ⟨g5,0,none⟩)),(6,.pointer (some ⟨g6,0,none⟩))]) (fun _ w'=>w6.grownBy w' (some g6)∧ci g6 200 ((bI b 48).map bH) w') ?_ ?_)
 ·refine af (aa (ac MI MI (ag (ab (aF ?_)))))
  refine cg (α:=Nat) (fun k=>[(2,.pointer (some ⟨g2,0,none⟩)),(4,.pointer (some ⟨g4,0,none⟩)),(5,.pointer (some ⟨g5,0,none⟩)),(6,.pointer (some ⟨g6,0,none⟩)),(8,I ((16+k:Nat):Int))])
   (fun k w'=>w6.grownBy w' (some g6)∧ci g6 200 ((dB (bI b k)).map bH) w'∧k≤48) (fun k=>48-k) 0 ⟨rfl,rfl,rfl,rfl,rfl,trivial⟩
   ⟨q7,b7,by omega⟩ ?_
  clear q7 b7
  rintro k w7 ⟨q7,b7,hk⟩
  have hL:=mh b k
  refine af (af (aa (ae MI MI ?_)))
  refine al MI MI MI (a9) ?_
  refine ag (ab ?_)
  refine bw MI (fun h=>?_) (fun h=>?_)
  ·have hk48:k<48:=by omega
   refine aA (ab (af (aF (af ?_))))
   have e15:((16+k:Nat):Int)-15=(((bI b k).length-15:Nat):Int):=by omega
   have e2:((16+k:Nat):Int)-2=(((bI b k).length-2:Nat):Int):=by omega
   have e16:((16+k:Nat):Int)-16=(((bI b k).length-16:Nat):Int):=by omega
   have e7:((16+k:Nat):Int)-7=(((bI b k).length-7:Nat):Int):=by omega
   have f15:=gy (l:=bI b k) (i:=(bI b k).length-15) (by omega)
   have f2:=gy (l:=bI b k) (i:=(bI b k).length-2) (by omega)
   have f16:=gy (l:=bI b k) (i:=(bI b k).length-16) (by omega)
   have f7:=gy (l:=bI b k) (i:=(bI b k).length-7) (by omega)
   have hlen:(dB (bI b k)).length=64:=nC (by omega)
   refine bP 9 [2,4,5,6,8,9,71] (by kernel_rfl) (by kernel_rfl) ?_
   refine aC MI MI ?_
   refine ba (r:=I (((bI b k).length-15:Nat):Int)) MI MI MI (fun w _=>by rw[←e15];exact bC (by omega) (by omega)) ?_
   refine aE MI MI MI (fun w _=>ip _ (by omega)) ?_
   refine aO (r:=bH ((bI b k).getD ((bI b k).length-15) 0)) MI MI (fun w' hw=>by rw[←f15];exact dq (b7.ext hw) _ (by omega)) ?_
   refine aC MI MI ?_
   refine ba (r:=I (((bI b k).length-2:Nat):Int)) MI MI MI (fun w _=>by rw[←e2];exact bC (by omega) (by omega)) ?_
   refine aE MI MI MI (fun w _=>ip _ (by omega)) ?_
   refine aO (r:=bH ((bI b k).getD ((bI b k).length-2) 0)) MI MI (fun w' hw=>by rw[←f2];exact dq (b7.ext hw) _ (by omega)) ?_
   refine gn MI MI (cp ?_)
   intro w8 hx8
   rintro _ rfl _ rfl _ rfl _ rfl _ rfl _ rfl _ rfl
   refine ac MI MI (ag (ab (af (aa (ae MI MI ?_)))))
   refine am eP MI MI (eQ 7 (by omega) (by omega)) ?_
   rintro _ w9 ⟨hx9,rfl⟩
   refine ae MI MI ?_
   refine am eP MI MI (eQ 18 (by omega) (by omega)) ?_
   rintro _ w10 ⟨hx10,rfl⟩
   refine al MI MI MI (cR) ?_
   refine ae MI MI ?_
   refine al MI MI MI (cV 3 (by omega)) ?_
   refine al MI MI MI (cR) ?_
   refine ac MI MI (ag (ab (af (aa (ae MI MI ?_)))))
   refine am eP MI MI (eQ 17 (by omega) (by omega)) ?_
   rintro _ w11 ⟨hx11,rfl⟩
   refine ae MI MI ?_
   refine am eP MI MI (eQ 19 (by omega) (by omega)) ?_
   rintro _ w12 ⟨hx12,rfl⟩
   refine al MI MI MI (cR) ?_
   refine ae MI MI ?_
   refine al MI MI MI (cV 10 (by omega)) ?_
   refine al MI MI MI (cR) ?_
   refine ac MI MI (ag (ab ?_))
   have x12:=(((hx8.trans hx9).trans hx10).trans hx11).trans hx12
   have b12:=b7.ext x12
   refine bP 15 [2,4,5,6,8,101,102] (by kernel_rfl) (by kernel_rfl) ?_
   refine aC MI MI (aC MI MI ?_)
   refine ba (r:=I (((bI b k).length-16:Nat):Int)) MI MI MI (fun w _=>by rw[←e16];exact bC (by omega) (by omega)) ?_
   refine aE MI MI MI (fun w _=>ip _ (by omega)) ?_
   refine aO (r:=bH ((bI b k).getD ((bI b k).length-16) 0)) MI MI (fun w' hw=>by rw[←f16];exact dq (b12.ext hw) _ (by omega)) ?_
   refine aC MI MI ?_
   refine ba MI MI MI (fun w _=>cr) ?_
   refine aC MI MI ?_
   refine ba (r:=I (((bI b k).length-7:Nat):Int)) MI MI MI (fun w _=>by rw[←e7];exact bC (by omega) (by omega)) ?_
   refine aE MI MI MI (fun w _=>ip _ (by omega)) ?_
   refine aO (r:=bH ((bI b k).getD ((bI b k).length-7) 0)) MI MI (fun w' hw=>by rw[←f7];exact dq (b12.ext hw) _ (by omega)) ?_
   refine ba MI MI MI (fun w _=>cr) ?_
   refine aC MI MI ?_
   refine ba MI MI MI (fun w _=>cr) ?_
   refine aE MI MI MI (fun w _=>ip (16+k) (by omega)) ?_
   refine cp ?_
   intro w13 hx13
   rintro _ rfl _ rfl _ rfl _ rfl _ rfl _ rfl _ rfl
   refine ar MI MI (Bz (x:=oH (bI b k)) (b12.ext hx13) (16+k) (by omega)) ?_
   have b13:=(b12.ext hx13).setU (16+k) (oH (bI b k))
   have q13:=((q7.trans (dH x12)).trans (dH hx13)).trans (bi w13 g6 (16+k) (bH (oH (bI b k))))
   have hset:(dB (bI b k)).set (16+k) (oH (bI b k))=dB (bI b (k+1)):=by
    have:=nD (l:=bI b k) (oH (bI b k)) (by omega)
    rw[hL] at this
    exact this
   rw[hset] at b13
   refine ag (aS (ab (aa (ae MI MI ?_))))
   refine al MI MI MI (aN (by omega) (by omega)) ?_
   refine ac MI MI (ag ?_)
   exact bR (k+1) ⟨rfl,rfl,rfl,rfl,rfl,trivial⟩ ⟨q13,b13,by omega⟩ (by omega)
  ·have hk':k=48:=by omega
   subst hk'
   have hf:dB (bI b 48)=bI b 48:=by
    unfold dB
    rw[hL]
    exact List.append_nil _
   rw[hf] at b7
   exact bc (aJ (aJ (bf (ck () ⟨rfl,rfl,rfl,rfl,trivial⟩ ⟨q7,b7⟩))))
 clear q7 b7
 rintro _ w7 ⟨q7,b7⟩
 refine ab ?_
 have E7:aK w w7:=E6.of_new q7 hw6
 have ne26:some g2≠some g6:=fun h=>by cases h;omega
 have ne46:some g4≠some g6:=fun h=>by cases h;omega
 have ne56:some g5≠some g6:=fun h=>by cases h;omega
 have C2:=B2.other q7 ne26
 have C4:=B4.other q7 ne46
 have C5:=B5.other q7 ne56
 have hlen8:(Tryz.prog.info? 150).map (·.size)=some (s.map bH).length:=by rw[List.length_map,hs];exact oT
 refine af (aa ?_)
 refine ak MI MI (oh (m:=s.map bH) C2 (fun j v h=>by rwa [Nat.zero_add]) MC MI hlen8) ?_
 obtain⟨g13,w8,hr,n13,x8,b13⟩:=aY (P:=Tryz.prog) (w:=w7) (l:=(List.replicate 8 0).map bH) Es rfl
 refine aV MI hr ?_
 refine ar MI MI (jO b13 (by simp[hs]) hlen8 (kP _)) ?_
 have b13':=b13.row (s.map bH)
 have q13:=bK w8 g13 (s.map bH).toArray
 have l13:g6<g13:=Nat.lt_of_lt_of_le b7.lt n13
 have ne213:some g2≠some g13:=fun h=>by cases h;omega
 have ne413:some g4≠some g13:=fun h=>by cases h;omega
 have ne513:some g5≠some g13:=fun h=>by cases h;omega
 have ne613:some g6≠some g13:=fun h=>by cases h;omega
 have D2:=(C2.ext x8).other q13 ne213
 have D4:=(C4.ext x8).other q13 ne413
 have D5:=(C5.ext x8).other q13 ne513
 have D6:=(b7.ext x8).other q13 ne613
 have E8:aK w (w8.setRow g13 (s.map bH).toArray):=(E7.trans x8).of_new q13 (by omega)
 revert b13' D2 D4 D5 D6 E8
 generalize w8.setRow g13 (s.map bH).toArray=w9
 intro b13' D2 D4 D5 D6 E9
 refine ag (ab ?_)
 refine af (eW (fun _:Unit=>[(2,.pointer (some ⟨g2,0,none⟩)),(4,.pointer (some ⟨g4,0,none⟩)),(13,.pointer (some ⟨g13,0,none⟩))]) (fun _ w'=>w9.grownBy w' (some g13)∧ci g13 150 ((ek b s 64).map bH) w') ?_ ?_)
 ·refine af (aa (ac MI MI (ag (ab (aF ?_)))))
  refine cg (α:=Nat) (fun i=>[(2,.pointer (some ⟨g2,0,none⟩)),(4,.pointer (some ⟨g4,0,none⟩)),(5,.pointer (some ⟨g5,0,none⟩)),(6,.pointer (some ⟨g6,0,none⟩)),(13,.pointer (some ⟨g13,0,none⟩)),(14,I (i:Int))])
   (fun i w'=>w9.grownBy w' (some g13)∧ci g13 150 ((ek b s i).map bH) w'∧i≤64) (fun i=>64-i) 0 ⟨rfl,rfl,rfl,rfl,rfl,rfl,trivial⟩
   ⟨dH (aK.refl _),b13',by omega⟩ ?_
  rintro i w10 ⟨q10,b10,hi⟩
  have hv8:=il b s hs i
  refine af (af (aa (ae MI MI ?_)))
  refine al MI MI MI (a9) ?_
  refine ag (ab ?_)
  refine bw MI (fun h=>?_) (fun h=>?_)
  ·have hi64:i<64:=by omega
   refine aA (ab (af (aF (af ?_))))
   have V:=b10
   have K5:=D5.other q10 ne513
   have K6:=D6.other q10 ne613
   have hkc:kc.length=64:=rfl
   have hsl:(bI b 48).length=64:=mh b 48
   refine bP 5 [2,4,5,6,13,14,15,111] (by kernel_rfl) (by kernel_rfl) ?_
   refine aE MI MI MI (fun w _=>dZ 0 (by omega)) ?_
   refine aO MI MI (fun w' hw=>dq (V.ext hw) 0 (by omega)) ?_
   refine aE MI MI MI (fun w _=>dZ 4 (by omega)) ?_
   refine aO MI MI (fun w' hw=>dq (V.ext hw) 4 (by omega)) ?_
   refine gn MI MI (cp ?_)
   intro w11 hx11
   rintro _ rfl _ rfl _ rfl _ rfl _ rfl _ rfl _ rfl _ rfl
   refine ac MI MI (ag (ab (af ?_)))
   replace V:=V.ext hx11
   replace K5:=K5.ext hx11
   replace K6:=K6.ext hx11
   refine bP 30 [2,4,5,6,13,14,15,16,141] (by kernel_rfl) (by kernel_rfl) ?_
   refine aE MI MI MI (fun w _=>dZ 7 (by omega)) ?_
   refine aO MI MI (fun w' hw=>dq (V.ext hw) 7 (by omega)) ?_
   refine aC MI MI ?_
   refine cm (S:=Is (bH (i0 _ 6))) eP (ca.is _) MI (fun w' _=>by
    rintro _ rfl _ rfl
    exact bE.mono (eQ 6 (by omega) (by omega)) fun v w'' h=>⟨h.1,h.2⟩) ?_
   refine aC MI MI ?_
   refine cm (S:=Is (bH (i0 _ 11))) eP (ca.is _) MI (fun w' _=>by
    rintro _ rfl _ rfl
    exact bE.mono (eQ 11 (by omega) (by omega)) fun v w'' h=>⟨h.1,h.2⟩) ?_
   refine ba MI MI MI (fun w _=>cR) ?_
   refine aC MI MI ?_
   refine cm (S:=Is (bH (i0 _ 25))) eP (ca.is _) MI (fun w' _=>by
    rintro _ rfl _ rfl
    exact bE.mono (eQ 25 (by omega) (by omega)) fun v w'' h=>⟨h.1,h.2⟩) ?_
   refine ba MI MI MI (fun w _=>cR) ?_
   refine ba MI MI MI (fun w _=>cr) ?_
   refine aC MI MI ?_
   refine aE MI MI MI (fun w _=>dZ 5 (by omega)) ?_
   refine aO MI MI (fun w' hw=>dq (V.ext hw) 5 (by omega)) ?_
   refine ba MI MI MI (fun w _=>fD) ?_
   refine aC MI MI ?_
   refine u5 MI MI (fun w _=>t6) ?_
   refine aE MI MI MI (fun w _=>dZ 6 (by omega)) ?_
   refine aO MI MI (fun w' hw=>dq (V.ext hw) 6 (by omega)) ?_
   refine ba MI MI MI (fun w _=>fD) ?_
   refine ba MI MI MI (fun w _=>cR) ?_
   refine ba MI MI MI (fun w _=>cr) ?_
   refine aC MI MI ?_
   refine aE MI MI MI (fun w _=>ip i (by omega)) ?_
   refine aO MI MI (fun w' hw=>dq (K5.ext hw) i (by omega)) ?_
   refine ba MI MI MI (fun w _=>cr) ?_
   refine aC MI MI ?_
   refine aE MI MI MI (fun w _=>ip i (by omega)) ?_
   refine aO MI MI (fun w' hw=>dq (K6.ext hw) i (by omega)) ?_
   refine ba MI MI MI (fun w _=>cr) ?_
   refine cp ?_
   intro w12 hx12
   rintro _ rfl _ rfl _ rfl _ rfl _ rfl _ rfl _ rfl _ rfl _ rfl
   refine ac MI MI (ag (ab (af ?_)))
   replace V:=V.ext hx12
   refine bP 24 [2,4,5,6,13,14,15,16,17,165] (by kernel_rfl) (by kernel_rfl) ?_
   refine aC MI MI ?_
   refine cm (S:=Is (bH (i0 _ 2))) eP (ca.is _) MI (fun w' _=>by
    rintro _ rfl _ rfl
    exact bE.mono (eQ 2 (by omega) (by omega)) fun v w'' h=>⟨h.1,h.2⟩) ?_
   refine aC MI MI ?_
   refine cm (S:=Is (bH (i0 _ 13))) eP (ca.is _) MI (fun w' _=>by
    rintro _ rfl _ rfl
    exact bE.mono (eQ 13 (by omega) (by omega)) fun v w'' h=>⟨h.1,h.2⟩) ?_
   refine ba MI MI MI (fun w _=>cR) ?_
   refine aC MI MI ?_
   refine cm (S:=Is (bH (i0 _ 22))) eP (ca.is _) MI (fun w' _=>by
    rintro _ rfl _ rfl
    exact bE.mono (eQ 22 (by omega) (by omega)) fun v w'' h=>⟨h.1,h.2⟩) ?_
   refine ba MI MI MI (fun w _=>cR) ?_
   refine aC MI MI ?_
   refine aE MI MI MI (fun w _=>dZ 1 (by omega)) ?_
   refine aO MI MI (fun w' hw=>dq (V.ext hw) 1 (by omega)) ?_
   refine ba MI MI MI (fun w _=>fD) ?_
   refine aC MI MI ?_
   refine aE MI MI MI (fun w _=>dZ 2 (by omega)) ?_
   refine aO MI MI (fun w' hw=>dq (V.ext hw) 2 (by omega)) ?_
   refine ba MI MI MI (fun w _=>fD) ?_
   refine ba MI MI MI (fun w _=>cR) ?_
   refine aE MI MI MI (fun w _=>dZ 1 (by omega)) ?_
   refine aO MI MI (fun w' hw=>dq (V.ext hw) 1 (by omega)) ?_
   refine aE MI MI MI (fun w _=>dZ 2 (by omega)) ?_
   refine aO MI MI (fun w' hw=>dq (V.ext hw) 2 (by omega)) ?_
   refine ba MI MI MI (fun w _=>fD) ?_
   refine ba MI MI MI (fun w _=>cR) ?_
   refine ba MI MI MI (fun w _=>cr) ?_
   refine cp ?_
   intro w13 hx13
   rintro _ rfl _ rfl _ rfl _ rfl _ rfl _ rfl _ rfl _ rfl _ rfl _ rfl
   refine ac MI MI (ag (ab (aa (ae MI MI (ae MI MI ?_)))))
   replace V:=V.ext hx13
   refine al MI MI MI (cr) ?_
   refine ae MI MI ?_
   refine av MI MI MI (dZ 1 (by omega)) ?_
   refine ak MI MI (dq V 1 (by omega)) ?_
   refine av MI MI MI (dZ 2 (by omega)) ?_
   refine ak MI MI (dq V 2 (by omega)) ?_
   refine av MI MI MI (dZ 3 (by omega)) ?_
   refine ak MI MI (dq V 3 (by omega)) ?_
   refine ae MI MI ?_
   refine al MI MI MI (cr) ?_
   refine ae MI MI ?_
   refine av MI MI MI (dZ 5 (by omega)) ?_
   refine ak MI MI (dq V 5 (by omega)) ?_
   refine av MI MI MI (dZ 6 (by omega)) ?_
   refine ak MI MI (dq V 6 (by omega)) ?_
   refine bz MI MI (run_build _ _ _ ((ek b s (i+1)).map bH).toArray (by kernel_rfl)) ?_
   have hn8:=il b s hs (i+1)
   refine ar MI MI (jO V (by simp[hv8,hn8]) (by rw[List.length_map,hn8];exact oT) (kP _)) ?_
   have V':=V.row ((ek b s (i+1)).map bH)
   have q14:=(q10.trans (dH ((hx11.trans hx12).trans hx13))).trans (bK w13 g13 ((ek b s (i+1)).map bH).toArray)
   refine ag (aS (ab (aa (ae MI MI ?_))))
   refine al MI MI MI (aN (by omega) (by omega)) ?_
   refine ac MI MI (ag ?_)
   exact bR (i+1) ⟨rfl,rfl,rfl,rfl,rfl,rfl,trivial⟩ ⟨q14,V',by omega⟩ (by omega)
  ·have hi':i=64:=by omega
   subst hi'
   exact bc (aJ (aJ (bf (ck () ⟨rfl,rfl,rfl,trivial⟩ ⟨q10,b10⟩))))
 rintro _ w10 ⟨q10,b10⟩
 refine ab ?_
 have hv8:=il b s hs 64
 have F2:=D2.other q10 ne213
 have F4:=D4.other q10 ne413
 have E10:aK w w10:=E9.of_new q10 (by omega)
 have ha0:jB s (ek b s 64) 0=s:=by simp[jB]
 refine af (eW (fun _:Unit=>[(2,.pointer (some ⟨g2,0,none⟩)),(4,.pointer (some ⟨g4,0,none⟩))]) (fun _ w'=>w10.grownBy w' (some g2)∧ci g2 150 ((jB s (ek b s 64) 8).map bH) w') ?_ ?_)
 ·refine af (aa (ac MI MI (ag (ab (aF ?_)))))
  refine cg (α:=Nat) (fun i=>[(2,.pointer (some ⟨g2,0,none⟩)),(4,.pointer (some ⟨g4,0,none⟩)),(13,.pointer (some ⟨g13,0,none⟩)),(19,I (i:Int))])
   (fun i w'=>w10.grownBy w' (some g2)∧ci g2 150 ((jB s (ek b s 64) i).map bH) w'∧i≤8) (fun i=>8-i) 0 ⟨rfl,rfl,rfl,rfl,trivial⟩
   ⟨dH (aK.refl _),by rw[ha0];exact F2,by omega⟩ ?_
  rintro i w11 ⟨q11,b11,hi⟩
  refine af (af (aa (ae MI MI ?_)))
  refine al MI MI MI (a9) ?_
  refine ag (ab ?_)
  refine bw MI (fun h=>?_) (fun h=>?_)
  ·have hi8:i<8:=by omega
   have hal:=FO hs hv8 hi
   have hag:=yA hs hv8 hi8
   have K13:=b10.other q11 (fun h=>by cases h;omega)
   refine aA (ab (af (aF ?_)))
   refine bP 8 [2,4,13,19,194,195] (by kernel_rfl) (by kernel_rfl) ?_
   refine aC MI MI ?_
   refine aE MI MI MI (fun w _=>dZ i (by omega)) ?_
   refine aO (r:=bH (s.getD i 0)) MI MI (fun w' hw=>by rw[←hag];exact dq (b11.ext hw) i (by omega)) ?_
   refine aC MI MI ?_
   refine aE MI MI MI (fun w _=>dZ i (by omega)) ?_
   refine aO MI MI (fun w' hw=>dq (K13.ext hw) i (by omega)) ?_
   refine ba MI MI MI (fun w _=>cr) ?_
   refine aE MI MI MI (fun w _=>dZ i (by omega)) ?_
   refine cp ?_
   intro w12 hx12
   rintro _ rfl _ rfl _ rfl _ rfl _ rfl _ rfl
   refine ar MI MI (Bz (b11.ext hx12) i (by omega)) ?_
   have b12:=(b11.ext hx12).setU i (s.getD i 0+(ek b s 64).getD i 0)
   rw[yB hs hv8 hi8] at b12
   have q12:=(q11.trans (dH hx12)).trans (bi w12 g2 i (bH (s.getD i 0+(ek b s 64).getD i 0)))
   refine ag (aS (ab (aa (ae MI MI ?_))))
   refine al MI MI MI (aN (by omega) (by omega)) ?_
   refine ac MI MI (ag ?_)
   exact bR (i+1) ⟨rfl,rfl,rfl,rfl,trivial⟩ ⟨q12,b12,by omega⟩ (by omega)
  ·have hi':i=8:=by omega
   subst hi'
   exact bc (aJ (aJ (bf (ck () ⟨rfl,rfl,trivial⟩ ⟨q11,b11⟩))))
 rintro _ w11 ⟨q11,b11⟩
 rw[yC hs hv8] at b11
 have hc8:=Bq s b hs
 have hlen8':(Tryz.prog.info? 150).map (·.size)=some ((xA s b).map bH).length:=by rw[List.length_map,hc8];exact oT
 have G4:=F4.other q11 (fun h=>by cases h;omega)
 refine ab (af (aa ?_))
 refine ak MI MI (oh (m:=(xA s b).map bH) b11 (fun j v h=>by rw[Nat.zero_add];exact h) MC MI hlen8') ?_
 refine ar MI MI (jO G4 (by simp[hc8]) hlen8' (kP _)) ?_
 refine ag (ab (aw ?_))
 refine dt MI MI (G4.row _) MC MI hlen8' ?_
 exact⟨_,rfl,(E10.of_new q11 (by omega)).of_new (bK _ _ _) (by omega),rfl⟩
end Go.Rl
namespace Go.Rl
open Go.RowKit Go.Proofs
theorem iq:(Tryz.prog.info? 24).map (·.zero)=some (some (.agg (List.replicate 32 (U8 0)).toArray)):=by kernel_rfl
theorem ir:(Tryz.prog.info? 24).map (·.size)=some 32:=by kernel_rfl
section
variable {w:World} {g o:Nat} {T:TypeId}
theorem wT (i:Nat) (hi:i<32):(Instr.indexAt 24 (.pointer (some ⟨g,0,none⟩)) (I (i:Int))).run Tryz.prog w=.ok (.pointer (some ⟨g,i,none⟩)) w:=by
 have:=iF (P:=Tryz.prog) (w:=w) (g:=g) (o:=0) Mo fC hi .i64
 rwa [Nat.zero_add] at this
theorem yD {m:List UInt8} {x:UInt8} (h:ci g T (m.map U8) w) (i:Nat) (hi:i<m.length):(Instr.storeAt 5 (.pointer (some ⟨g,i,none⟩)) (U8 x)).run Tryz.prog w=.ok () (w.setCell ⟨g,i,none⟩ (U8 x)):=
 ei fC rfl h (by simpa using hi)
theorem ci.setB {m:List UInt8} (h:ci g T (m.map U8) w) (i:Nat) (x:UInt8):ci g T ((m.set i x).map U8) (w.setCell ⟨g,i,none⟩ (U8 x)):=by
 have:=h.set i (U8 x)
 rwa [←List.map_set] at this
end
theorem su (m:List UInt8):∀v∈m.map U8,v.oneCell'=true:=by
 intro u hu
 obtain⟨b,_,rfl⟩:=List.mem_map.1 hu
 rfl
def fK (d:List UInt8) (n j:Nat):List UInt8:=d.take j++List.replicate (n-j) 0
theorem kt {d:List UInt8} {n j:Nat} (hd:d.length=n) (hj:j≤n):(fK d n j).length=n:=by simp[fK,hd];omega
theorem ku {d:List UInt8} {n j:Nat} (hd:d.length=n) (hj:j<n):(fK d n j).set j (d.getD j 0)=fK d n (j+1):=by
 have h:(d.take j).length=j:=by simp[hd];omega
 have h1:d.getD j 0=d[j]:=by simp[List.getD,hd,hj]
 unfold fK
 rw[List.set_append_right _ _ (by omega),h,Nat.sub_self,h1,List.take_succ_eq_append_getElem (by omega:j<d.length)]
 have:n-j=(n-(j+1))+1:=by omega
 rw[this,List.replicate_succ,List.set_cons_zero,List.append_assoc]
 rfl
theorem tO {d:List UInt8} {n:Nat} (hd:d.length=n):fK d n n=d:=by
 simp[fK,←hd]
theorem BC (s:List UInt32):(s.flatMap xx).length=4*s.length:=by
 induction s with
 |nil=>rfl
 |cons x s ih=>
  have:(x::s).flatMap xx=xx x++s.flatMap xx:=by simp
  rw[this,List.length_append,ih]
  simp[xx];omega
theorem mD:∀(s:List UInt32) (i k:Nat),i<s.length→k<4→(s.flatMap xx).getD (4*i+k) 0=(s.getD i 0>>>UInt32.ofNat (24-8*k)).toUInt8
 |[],_,_,h,_=>by simp at h
 |x::s,0,k,_,hk=>by
  have e:(x::s).flatMap xx=xx x++s.flatMap xx:=by simp
  rw[e]
  match k,hk with
  |0,_=>rfl
  |1,_=>rfl
  |2,_=>rfl
  |3,_=>
   show x.toUInt8=(x>>>UInt32.ofNat 0).toUInt8
   rw[show UInt32.ofNat 0=0 from rfl,UInt32.shiftRight_zero]
 |x::s,i+1,k,h,hk=>by
  have e:(x::s).flatMap xx=xx x++s.flatMap xx:=by simp
  rw[e]
  have h4:(xx x).length=4:=rfl
  have:=mD s i k (by simpa using h) hk
  rw[List.getD_eq_getElem?_getD,List.getElem?_append_right (by omega),h4,show 4*(i+1)+k-4=4*i+k by omega,←List.getD_eq_getElem?_getD,this]
  rfl
theorem dK (m:List UInt8):(kT m).length=32:=by
 unfold kT
 rw[BC,Hs]
theorem z9 (n:UInt64):(Br n).length=8:=by simp[Br]
theorem HV (n:UInt64) {j:Nat} (hj:j<8):(Br n).take (j+1)=(Br n).take j++[(n>>>UInt64.ofNat (56-8*j)).toUInt8]:=by
 rw[List.take_succ_eq_append_getElem (by rw[z9];exact hj)]
 simp[Br]
theorem HW (M:List UInt8) (k:Nat):yp M (k+1)=xA (yp M k) ((M.take (64*k+64)).drop (64*k)):=by
 rw[yp,List.drop_take,Nat.add_sub_cancel_left]
end Go.Rl
namespace Go.Rl
open Go.RowKit Go.Proofs
theorem FP:aG Tryz.prog 38:=⟨_,Tryz.func38,by kernel_rfl,rfl⟩
theorem FQ {w:World} {l:List UInt8} {v:Value} (hv:cz l v w) (hl:l.length≤1099511627776):
 Calls Tryz.prog 38 #[v] w (bE fun r w'=>aK w w'∧r=.agg ((kT l).map U8).toArray):=by
 refine enter (vs:=[v]) Tryz.func38 MI MI MI ?_
 obtain⟨g2,w1,hr,n2,x1,b2⟩:=aY (P:=Tryz.prog) (w:=w) (l:=(List.replicate 32 0).map U8) iq rfl
 refine af (aa (aV MI hr (ag (ab (af (aa ?_))))))
 obtain⟨r3,w3,hr,x3,o3,_⟩:=dX (w:=w1) w1.heap.size [] (by simp) (Nat.le_refl _)
 refine aI (vs:=[]) MI MI hr ?_
 refine ae MI MI ?_
 have e3:=x1.trans x3
 obtain⟨r4,w4,hr,o4,g4⟩:=dj (ty:=22) o3 (hv.ext e3) (by simp only[List.length_nil];omega) x3.size
 have x4:=x3.of_grew g4 o3.ge
 refine a6 MI MI hr ?_
 obtain⟨r5,w5,hr,x5,o5,_⟩:=dX (w:=w4) w4.heap.size [128] (by simp) (Nat.le_refl _)
 refine aI (vs:=[(0,U8 128)]) MI MI hr ?_
 obtain⟨r6,w6,hr,o6,g6⟩:=dj (ty:=22) (o4.ext x5) o5.bts (by simp only[List.nil_append,List.length_cons,List.length_nil];omega) (x4.trans x5).size
 have x6:=(x4.trans x5).of_grew g6 o4.ge
 refine a6 MI MI hr ?_
 rw[List.nil_append] at o6
 have B2:=b2.ext x6
 refine ac MI MI (ag (ab ?_))
 refine af (eW (fun m:Value=>[(0,v),(2,.pointer (some ⟨g2,0,none⟩)),(3,m)]) (fun m w'=>cW w1.heap.size (l++[128]++List.replicate (im l.length) 0) m w'∧aK w1 w') ?_ ?_)
 ·refine aF ?_
  refine cg (α:=Nat×Value) (fun x=>[(0,v),(2,.pointer (some ⟨g2,0,none⟩)),(3,x.2)])
   (fun x w'=>cW w1.heap.size (l++[128]++List.replicate x.1 0) x.2 w'∧aK w1 w'∧x.1≤im l.length) (fun x=>im l.length-x.1) (0,r6) ⟨rfl,rfl,rfl,trivial⟩
   ⟨by simpa using o6,x6,by simp⟩ ?_
  rintro⟨k,m⟩ w7 ⟨o7,x7,hk⟩
  dsimp only at o7 x7 hk
  have hp:im l.length<64:=by unfold im;omega
  have hm:(l++[128]++List.replicate k 0).length=l.length+1+k:=by simp;omega
  refine af (af (aa (ae MI MI ?_)))
  refine aP MI MI (cN o7.bts) ?_
  refine al MI MI MI (pp (by omega) (by omega)) ?_
  refine al MI MI MI (cT) ?_
  refine ag (ab ?_)
  rw[hm]
  refine bw MI (fun h=>?_) (fun h=>?_)
  ·have hlt:k<im l.length:=by
    rcases Nat.lt_or_ge k (im l.length) with h1|h1
    ·exact h1
    ·have:k=im l.length:=by omega
     subst this
     exfalso
     unfold im at h
     omega
   refine aA (ab (aF (aa (ae MI MI ?_))))
   obtain⟨r8,w8,hr,x8,o8,_⟩:=dX (w:=w7) w7.heap.size [0] (by simp) (Nat.le_refl _)
   refine aI (vs:=[(0,U8 0)]) MI MI hr ?_
   obtain⟨r9,w9,hr,o9,g9⟩:=dj (ty:=22) (o7.ext x8) o8.bts (by rw[hm];simp only[List.length_cons,List.length_nil];omega) (x7.trans x8).size
   refine a6 MI MI hr ?_
   refine ac MI MI (ag (aS ?_))
   refine bR (k+1,r9) ⟨rfl,rfl,rfl,trivial⟩ ⟨?_,(x7.trans x8).of_grew g9 o7.ge,hlt⟩ (by show im l.length-(k+1)<im l.length-k;omega)
   show cW _ (l++[128]++List.replicate (k+1) 0) r9 w9
   rw[List.replicate_succ',←List.append_assoc]
   exact o9
  ·have hk':k=im l.length:=by
    unfold im at hk hp⊢
    omega
   subst hk'
   exact bc (aJ (aJ (bf (ck m ⟨rfl,rfl,rfl,trivial⟩ ⟨o7,x7⟩))))
 rintro m7 w7 ⟨o7,x7⟩
 refine ab (af (aa (ae MI MI ?_)))
 refine aP MI MI (cN (hv.ext (x1.trans x7))) ?_
 refine aZ MI MI (fk Me Mf) ?_
 refine al (u:=bF 8) MI MI MI (gE) ?_
 rw[UInt64.mul_comm]
 refine ac MI MI (ag (ab ?_))
 have hp:im l.length<64:=by unfold im;omega
 have hb8:=z9 (UInt64.ofNat l.length*8)
 refine af (eW (fun m:Value=>[(2,.pointer (some ⟨g2,0,none⟩)),(3,m)]) (fun m w'=>cW w1.heap.size (fe l) m w'∧aK w1 w') ?_ ?_)
 ·refine af (aa (ac MI MI (ag (ab (aF ?_)))))
  refine cg (α:=Nat×Value) (fun x=>[(2,.pointer (some ⟨g2,0,none⟩)),(3,x.2),(4,bF (UInt64.ofNat l.length*8)),(5,I (7-(x.1:Int)))])
   (fun x w'=>cW w1.heap.size (l++[128]++List.replicate (im l.length) 0++(Br (UInt64.ofNat l.length*8)).take x.1) x.2 w'∧aK w1 w'∧x.1≤8) (fun x=>8-x.1) (0,m7) ⟨rfl,rfl,rfl,rfl,trivial⟩
   ⟨by simpa using o7,x7,by simp⟩ ?_
  rintro⟨j,m⟩ w8 ⟨o8,x8,hj⟩
  dsimp only at o8 x8 hj
  refine af (af (aa (ae MI MI ?_)))
  refine al MI MI MI (iS) ?_
  refine ag (ab ?_)
  refine bw MI (fun h=>?_) (fun h=>?_)
  ·have hj8:j<8:=by omega
   refine aA (ab (af (aF (aa (ae MI MI (ae MI MI (ae MI MI ?_)))))))
   have e8:(8:Int)*(7-(j:Int))=((56-8*j:Nat):Int):=by omega
   refine al (r:=I ((56-8*j:Nat):Int)) MI MI MI (by rw[←e8];exact fB (by omega) (by omega)) ?_
   refine al MI MI MI (dC (56-8*j) (by omega)) ?_
   refine aZ MI MI (lU Mf Mh) ?_
   obtain⟨r9,w9,hr,x9,o9,_⟩:=dX (w:=w8) w8.heap.size [((UInt64.ofNat l.length*8)>>>UInt64.ofNat (56-8*j)).toUInt8] (by simp) (Nat.le_refl _)
   refine aI (vs:=[(0,U8 ((UInt64.ofNat l.length*8)>>>UInt64.ofNat (56-8*j)).toUInt8)]) MI MI hr ?_
   obtain⟨r10,w10,hr,o10,g10⟩:=dj (ty:=22) (o8.ext x9) o9.bts (by simp only[List.length_append,List.length_cons,List.length_nil,List.length_replicate,List.length_take];omega) (x8.trans x9).size
   refine a6 MI MI hr ?_
   refine ac MI MI (ag (aS (ab (aa (ae MI MI ?_)))))
   refine al MI MI MI (bC (by omega) (by omega)) ?_
   refine ac MI MI (ag ?_)
   have e1:(7:Int)-(j:Int)-1=7-((j+1:Nat):Int):=by omega
   rw[e1]
   refine bR (j+1,r10) ⟨rfl,rfl,rfl,rfl,trivial⟩ ⟨?_,(x8.trans x9).of_grew g10 o8.ge,hj8⟩ (by show 8-(j+1)<8-j;omega)
   show cW _ (l++[128]++List.replicate (im l.length) 0++(Br (UInt64.ofNat l.length*8)).take (j+1)) r10 w10
   rw[HV _ hj8,←List.append_assoc]
   exact o10
  ·have hj':j=8:=by omega
   subst hj'
   rw[List.take_of_length_le (by omega)] at o8
   exact bc (aJ (aJ (bf (ck m ⟨rfl,rfl,trivial⟩ ⟨o8,x8⟩))))
 clear o7 x7
 rintro m8 w8 ⟨o8,x8⟩
 have hM:=CQ l
 have hMl:(fe l).length≤1099511627776+80:=by
  simp only[fe,List.length_append,List.length_cons,List.length_nil,List.length_replicate];omega
 generalize hMM:fe l=M at o8 hM hMl
 refine ab (af (aa ?_))
 refine bz MI MI (run_build _ _ _ (iv.map bH).toArray (by kernel_rfl)) ?_
 obtain⟨g6',w9,hr,n9,x9,b9⟩:=aY (P:=Tryz.prog) (w:=w8) (l:=(List.replicate 8 0).map bH) Es rfl
 refine aV MI hr ?_
 refine ar MI MI (jO b9 MI oT (kP _)) ?_
 have b9':=b9.row (iv.map bH)
 have q9:=bK w9 g6' (iv.map bH).toArray
 have l26:g2<g6':=Nat.lt_of_lt_of_le b2.lt (Nat.le_trans x8.size n9)
 have hw6:w1.heap.size≤g6':=Nat.le_trans x8.size n9
 have E9:aK w1 (w9.setRow g6' (iv.map bH).toArray):=(x8.trans x9).of_new q9 hw6
 have ne2:some g2≠some g6':=fun h=>by cases h;omega
 have hm9:cW w1.heap.size M m8 (w9.setRow g6' (iv.map bH).toArray):=by
  obtain⟨n,h⟩:=o8.ext x9
  exact⟨n,World.ownsRow.kept h q9 (.inr fun he=>by have:=o8.lt g6' he;omega)⟩
 have C9:=((b2.ext x8).ext x9).other q9 ne2
 revert b9' E9 hm9 C9
 generalize w9.setRow g6' (iv.map bH).toArray=w10
 intro b10 E10 o10 C10
 refine ag (ab ?_)
 have l28:∀k,m8.ownBlock=some k→k<w8.heap.size:=o8.lt
 refine af (eW (fun _:Unit=>[(2,.pointer (some ⟨g2,0,none⟩)),(6,.pointer (some ⟨g6',0,none⟩))]) (fun _ w'=>w10.grownBy w' (some g6')∧ci g6' 150 ((yp M (M.length/64)).map bH) w') ?_ ?_)
 ·refine af (aa (ac MI MI (ag (ab (aF ?_)))))
  refine cg (α:=Nat) (fun k=>[(2,.pointer (some ⟨g2,0,none⟩)),(3,m8),(6,.pointer (some ⟨g6',0,none⟩)),(7,I ((64*k:Nat):Int))])
   (fun k w'=>w10.grownBy w' (some g6')∧ci g6' 150 ((yp M k).map bH) w'∧k≤M.length/64) (fun k=>M.length/64-k) 0 ⟨rfl,rfl,rfl,rfl,trivial⟩
   ⟨dH (aK.refl _),b10,by omega⟩ ?_
  rintro k w11 ⟨q11,b11,hk⟩
  have o11:cW w1.heap.size M m8 w11:=by
   obtain⟨n,h⟩:=o10
   exact⟨n,World.ownsRow.kept h q11 (.inr fun he=>by have:=l28 g6' he;omega)⟩
  have hs8:=pD M k
  refine af (af (aa (ae MI MI (ae MI MI ?_))))
  refine aP MI MI (cN o11.bts) ?_
  refine al MI MI MI (a9) ?_
  refine ag (ab ?_)
  refine bw MI (fun h=>?_) (fun h=>?_)
  ·have hlt:64*k+64≤M.length:=by omega
   have e64:((64*k:Nat):Int)+64=((64*k+64:Nat):Int):=by omega
   have hbl:((M.take (64*k+64)).drop (64*k)).length=64:=by simp;omega
   obtain⟨r12,hr12,bt12⟩:=t8 o11.bts (lo:=64*k) (hi:=64*k+64) (by omega) hlt .i64 .i64
   have hszk:(Tryz.prog.info? 150).map (·.size)=some ((yp M k).map bH).length:=by rw[List.length_map,hs8];exact oT
   have hszk':(Tryz.prog.info? 150).map (·.size)=some ((yp M (k+1)).map bH).length:=by rw[List.length_map,pD];exact oT
   refine aA (ab (af (aF ?_)))
   refine bP 7 [2,3,6,7,52] (by kernel_rfl) (by kernel_rfl) ?_
   refine aO MI MI (fun w' hw=>oh (m:=(yp M k).map bH) (b11.ext hw) (fun j v h=>by rwa [Nat.zero_add]) MC MI hszk) ?_
   refine aC MI MI (aC MI MI (aC MI MI ?_))
   refine ba (r:=I ((64*k+64:Nat):Int)) MI MI MI (fun w _=>by rw[←e64];exact aN (by omega) (by omega)) ?_
   refine jo (a:=some (I ((64*k:Nat):Int))) (b:=some (I ((64*k+64:Nat):Int))) MI MI MI MI (fun w _=>hr12 w) ?_
   refine cm (S:=Is (.agg ((yp M (k+1)).map bH).toArray)) BA (ca.is _) MI (fun w' hw=>by
    rintro _ rfl _ rfl
    exact bE.mono (BB hs8 hbl (bt12.ext hw)) fun v w'' h=>⟨h.1,by rw[HW];exact h.2⟩) ?_
   refine cp ?_
   intro w12 hx12
   rintro _ rfl _ rfl _ rfl _ rfl _ rfl
   refine ar MI MI (jO (b11.ext hx12) (by simp[pD]) hszk' (kP _)) ?_
   have b12:=(b11.ext hx12).row ((yp M (k+1)).map bH)
   have q12:=(q11.trans (dH hx12)).trans (bK w12 g6' ((yp M (k+1)).map bH).toArray)
   refine ag (aS (ab (aa (ae MI MI ?_))))
   refine al MI MI MI (aN (by omega) (by omega)) ?_
   refine ac MI MI (ag ?_)
   exact bR (k+1) ⟨rfl,rfl,rfl,rfl,trivial⟩ ⟨q12,b12,by omega⟩ (by omega)
  ·have hk':k=M.length/64:=by omega
   subst hk'
   exact bc (aJ (aJ (bf (ck () ⟨rfl,rfl,trivial⟩ ⟨q11,b11⟩))))
 rintro _ w11 ⟨q11,b11⟩
 have C2:=C10.other q11 ne2
 have E11:aK w1 w11:=E10.of_new q11 hw6
 have hs8:=pD M (M.length/64)
 generalize hst:yp M (M.length/64)=st at b11 hs8
 have hD:(st.flatMap xx).length=32:=by rw[BC,hs8]
 refine ab (af (aa ?_))
 obtain⟨g8,w12,hr,n12,x12,b12⟩:=aY (P:=Tryz.prog) (w:=w11) (l:=(fK (st.flatMap xx) 32 0).map U8) iq rfl
 refine aV MI hr (ag (ab ?_))
 have l68:g6'<g8:=Nat.lt_of_lt_of_le b11.lt n12
 have ne68:some g6'≠some g8:=fun h=>by cases h;omega
 have ne28:some g2≠some g8:=fun h=>by cases h;omega
 have c11:=b11.ext x12
 have D2:=C2.ext x12
 refine af (eW (fun _:Unit=>[(2,.pointer (some ⟨g2,0,none⟩)),(8,.pointer (some ⟨g8,0,none⟩))]) (fun _ w'=>w12.grownBy w' (some g8)∧ci g8 24 ((st.flatMap xx).map U8) w') ?_ ?_)
 ·refine af (aa (ac MI MI (ag (ab (aF ?_)))))
  refine cg (α:=Nat) (fun i=>[(2,.pointer (some ⟨g2,0,none⟩)),(6,.pointer (some ⟨g6',0,none⟩)),(8,.pointer (some ⟨g8,0,none⟩)),(9,I (i:Int))])
   (fun i w'=>w12.grownBy w' (some g8)∧ci g8 24 ((fK (st.flatMap xx) 32 (4*i)).map U8) w'∧i≤8) (fun i=>8-i) 0 ⟨rfl,rfl,rfl,rfl,trivial⟩
   ⟨dH (aK.refl _),b12,by omega⟩ ?_
  rintro i w13 ⟨q13,b13,hi⟩
  refine af (af (aa (ae MI MI ?_)))
  refine al MI MI MI (a9) ?_
  refine ag (ab ?_)
  refine bw MI (fun h=>?_) (fun h=>?_)
  ·have hi8:i<8:=by omega
   refine aA (ab (af (aF (af (aa (ac MI MI (ag (ab (aF ?_)))))))))
   refine cg (α:=Nat) (fun k=>[(2,.pointer (some ⟨g2,0,none⟩)),(6,.pointer (some ⟨g6',0,none⟩)),(8,.pointer (some ⟨g8,0,none⟩)),(9,I (i:Int)),(10,I (k:Int))])
    (fun k w'=>w12.grownBy w' (some g8)∧ci g8 24 ((fK (st.flatMap xx) 32 (4*i+k)).map U8) w'∧k≤4) (fun k=>4-k) 0 ⟨rfl,rfl,rfl,rfl,rfl,trivial⟩
    ⟨q13,b13,by omega⟩ ?_
   rintro k w14 ⟨q14,b14,hk⟩
   refine af (af (aa (ae MI MI ?_)))
   refine al MI MI MI (a9) ?_
   refine ag (ab ?_)
   refine bw MI (fun h=>?_) (fun h=>?_)
   ·have hk4:k<4:=by omega
    have c14:=c11.other q14 ne68
    have hfl:=kt (j:=4*i+k) hD (by omega)
    have e4:(4:Int)*(i:Int)=((4*i:Nat):Int):=by omega
    have e5:((4*i:Nat):Int)+(k:Int)=((4*i+k:Nat):Int):=by omega
    have e6:(24:Int)-8*(k:Int)=((24-8*k:Nat):Int):=by omega
    refine aA (ab (af (aF (aa (ae MI MI ?_)))))
    refine al (r:=I ((4*i:Nat):Int)) MI MI MI (by rw[←e4];exact fB (by omega) (by omega)) ?_
    refine ae MI MI ?_
    refine al (r:=I ((4*i+k:Nat):Int)) MI MI MI (by rw[←e5];exact aN (by omega) (by omega)) ?_
    refine ae MI MI ?_
    refine av MI MI MI (dZ i (by omega)) ?_
    refine ak MI MI (dq c14 i (by omega)) ?_
    refine ae MI MI ?_
    refine al MI MI MI (fB (by omega) (by omega)) ?_
    refine al (r:=I ((24-8*k:Nat):Int)) MI MI MI (by rw[←e6];exact bC (by omega) (by omega)) ?_
    refine al MI MI MI (cV (24-8*k) (by omega)) ?_
    refine aZ MI MI (ej Ma Mh) ?_
    refine av MI MI MI (wT (4*i+k) (by omega)) ?_
    refine ar MI MI (yD b14 (4*i+k) (by omega)) ?_
    have b15:=b14.setB (4*i+k) (st.getD i 0>>>UInt32.ofNat (24-8*k)).toUInt8
    have hset:(fK (st.flatMap xx) 32 (4*i+k)).set (4*i+k) (st.getD i 0>>>UInt32.ofNat (24-8*k)).toUInt8=fK (st.flatMap xx) 32 (4*i+(k+1)):=by
     rw[←mD st i k (by omega) hk4]
     exact ku hD (by omega)
    rw[hset] at b15
    refine ag (aS (ab (aa (ae MI MI ?_))))
    refine al MI MI MI (aN (by omega) (by omega)) ?_
    refine ac MI MI (ag ?_)
    exact bR (k+1) ⟨rfl,rfl,rfl,rfl,rfl,trivial⟩ ⟨q14.trans (bi w14 g8 _ _),b15,by omega⟩ (by omega)
   ·have hk':k=4:=by omega
    subst hk'
    refine bc (aJ (aJ (bf (aS (ab (aa (ae MI MI ?_)))))))
    refine al MI MI MI (aN (by omega) (by omega)) ?_
    refine ac MI MI (ag ?_)
    exact bR (i+1) ⟨rfl,rfl,rfl,rfl,trivial⟩ ⟨q14,b14,by omega⟩ (by omega)
  ·have hi':i=8:=by omega
   subst hi'
   rw[show 4*8=32 from rfl,tO hD] at b13
   exact bc (aJ (aJ (bf (ck () ⟨rfl,rfl,trivial⟩ ⟨q13,b13⟩))))
 rintro _ w13 ⟨q13,b13⟩
 have hdig:st.flatMap xx=kT l:=by
  unfold kT sh
  rw[hMM,hst]
 rw[hdig] at b13
 have hsz:(Tryz.prog.info? 24).map (·.size)=some ((kT l).map U8).length:=by rw[List.length_map,dK];exact ir
 have F2:=D2.other q13 ne28
 refine ab (af (aa ?_))
 refine ak MI MI (oh (m:=(kT l).map U8) b13 (fun j v h=>by rwa [Nat.zero_add]) Mo MI hsz) ?_
 refine ar MI MI (jO F2 (by simp[dK]) hsz (su _)) ?_
 refine ag (ab (aw ?_))
 refine dt MI MI (F2.row _) Mo MI hsz ?_
 have E13:aK w w13:=(x1.trans (E11.trans x12)).of_new q13 (by have:=x1.size;omega)
 exact⟨_,rfl,E13.of_new (bK _ _ _) n2,rfl⟩
end Go.Rl
namespace Go.Rl
open Go.RowKit Go.Proofs
def dl (st:List UInt32) (blk:List UInt8) (u:Int) (tot:UInt64):List Value:=st.map bH++(blk.map U8++[I u,bF tot])
structure HC (g:Nat) (st:List UInt32) (blk:List UInt8) (u:Int) (tot:UInt64) (w:World):Prop where
 hb:ci g 154 (dl st blk u tot) w
 ls:st.length=8
 lb:blk.length=64
section
variable {w w':World} {g:Nat} {st:List UInt32} {blk:List UInt8} {u:Int} {tot:UInt64}
theorem it (hs:st.length=8) (hb:blk.length=64):(dl st blk u tot).length=74:=by simp[dl,hs,hb]
theorem HC.ext (h:HC g st blk u tot w) (hx:aK w w'):HC g st blk u tot w':=⟨h.hb.ext hx,h.ls,h.lb⟩
theorem HC.other {row:Option Nat} (h:HC g st blk u tot w) (hg:w.grownBy w' row) (hne:some g≠row):HC g st blk u tot w':=⟨h.hb.other hg hne,h.ls,h.lb⟩
theorem HC.lt (h:HC g st blk u tot w):g<w.heap.size:=h.hb.lt
theorem HC.cellS (h:HC g st blk u tot w) {i:Nat} (hi:i<8):w.cell? ⟨g,i,none⟩=some (bH (st.getD i 0)):=
 h.hb.cell (by simp[dl,List.getElem?_append,h.ls,hi])
theorem HC.cellU (h:HC g st blk u tot w):w.cell? ⟨g,72,none⟩=some (I u):=
 h.hb.cell (by unfold dl;rw[List.getElem?_append_right (by simp[h.ls]),List.length_map,h.ls,List.getElem?_append_right (by simp[h.lb]),List.length_map,h.lb];rfl)
theorem HC.cellT (h:HC g st blk u tot w):w.cell? ⟨g,73,none⟩=some (bF tot):=
 h.hb.cell (by unfold dl;rw[List.getElem?_append_right (by simp[h.ls]),List.length_map,h.ls,List.getElem?_append_right (by simp[h.lb]),List.length_map,h.lb];rfl)
theorem HC.setS (h:HC g st blk u tot w) (i:Nat) (hi:i<8) (x:UInt32):HC g (st.set i x) blk u tot (w.setCell ⟨g,i,none⟩ (bH x)):=by
 refine⟨?_,by simp[h.ls],h.lb⟩
 have:=h.hb.set i (bH x)
 unfold dl at this
 rw[List.set_append_left _ _ (by simpa [h.ls] using hi),←List.map_set] at this
 exact this
theorem HC.setU (h:HC g st blk u tot w) (x:Int):HC g st blk x tot (w.setCell ⟨g,72,none⟩ (I x)):=by
 refine⟨?_,h.ls,h.lb⟩
 have:=h.hb.set 72 (I x)
 unfold dl at this
 rw[List.set_append_right _ _ (by simp[h.ls]),List.length_map,h.ls,List.set_append_right _ _ (by simp[h.lb]),List.length_map,h.lb] at this
 exact this
theorem HC.setT (h:HC g st blk u tot w) (x:UInt64):HC g st blk u x (w.setCell ⟨g,73,none⟩ (bF x)):=by
 refine⟨?_,h.ls,h.lb⟩
 have:=h.hb.set 73 (bF x)
 unfold dl at this
 rw[List.set_append_right _ _ (by simp[h.ls]),List.length_map,h.ls,List.set_append_right _ _ (by simp[h.lb]),List.length_map,h.lb] at this
 exact this
theorem BD:(Tryz.prog.info? 107).map (·.size)=some 1:=by kernel_rfl
theorem HX:(Tryz.prog.info? 152).map (·.size)=some 64:=by kernel_rfl
theorem yE:(Tryz.prog.info? 154).map (·.size)=some 74:=by kernel_rfl
theorem Fsz:(Tryz.prog.info? 154).map (·.zero)=some (some (.agg (dl (List.replicate 8 0) (List.replicate 64 0) 0 0).toArray)):=by kernel_rfl
theorem Jf:(Instr.fieldAt 154 (.pointer (some ⟨g,0,none⟩)) 0).run Tryz.prog w=.ok (.pointer (some ⟨g,0,none⟩)) w:=by
 have h:=ct (P:=Tryz.prog) (w:=w) (n:=0) (a:=⟨g,0,none⟩) MF rfl oT (Nat.succ_ne_zero 7)
 exact h
theorem LR:(Instr.fieldAt 154 (.pointer (some ⟨g,0,none⟩)) 1).run Tryz.prog w=.ok (.pointer (some ⟨g,8,none⟩)) w:=by
 have h:=ct (P:=Tryz.prog) (w:=w) (n:=1) (a:=⟨g,0,none⟩) MF rfl HX (Nat.succ_ne_zero 63)
 exact h
theorem FT:(Instr.fieldAt 154 (.pointer (some ⟨g,0,none⟩)) 2).run Tryz.prog w=.ok (.pointer (some ⟨g,72,none⟩)) w:=by
 have h:=ct (P:=Tryz.prog) (w:=w) (n:=2) (a:=⟨g,0,none⟩) MF rfl gr (Nat.succ_ne_zero 0)
 exact h
theorem KV:(Instr.fieldAt 154 (.pointer (some ⟨g,0,none⟩)) 3).run Tryz.prog w=.ok (.pointer (some ⟨g,73,none⟩)) w:=by
 have h:=ct (P:=Tryz.prog) (w:=w) (n:=3) (a:=⟨g,0,none⟩) MF rfl BD (Nat.succ_ne_zero 0)
 exact h
theorem HC.bts (h:HC g st blk u tot w) {lo:Nat} (hlo:lo<64):cz (blk.drop lo) (.slice (some ⟨g,8+lo,none⟩) (64-lo) (64-lo)) w:=by
 refine⟨_,_,_,rfl,Nat.le_refl _,by unfold maxLen;omega,by simp[h.lb],fun _=>⟨_,rfl,fun j v hj=>?_⟩,fun h=>by cases h⟩
 rw[Addr.add_mid]
 refine h.hb.cell ?_
 unfold dl
 rw[List.getElem?_append_right (by simp[h.ls];omega),List.length_map,h.ls,show 8+lo+j-8=lo+j by omega]
 have hjl:lo+j<(blk.map U8).length:=by
  have:=(List.getElem?_eq_some_iff.1 hj).1
  simp only[List.length_map,List.length_drop] at this⊢
  omega
 rw[List.getElem?_append_left hjl]
 rw[List.map_drop,List.getElem?_drop] at hj
 exact hj
theorem Kd {lo:Nat} (hlo:lo<64):(Instr.sliceAt 152 (.pointer (some ⟨g,8,none⟩)) (some (I (lo:Int))) none none).run Tryz.prog w=.ok (.slice (some ⟨g,8+lo,none⟩) (64-lo) (64-lo)) w:=
 GJ Tryz.underlying152 fC hlo .i64
theorem HC.ldS (h:HC g st blk u tot w):(Instr.loadAt 150 (.pointer (some ⟨g,0,none⟩))).run Tryz.prog w=.ok (.agg (st.map bH).toArray) w:=
 oh (m:=st.map bH) h.hb (fun j v hj=>by
  rw[Nat.zero_add]
  unfold dl
  rw[List.getElem?_append_left (List.getElem?_eq_some_iff.1 hj).1]
  exact hj) MC rfl (by rw[List.length_map,h.ls];exact oT)
end
theorem FU (b:List UInt8) (i j:Nat):(b.drop i).getD j 0=b.getD (i+j) 0:=by simp[List.getD]
end Go.Rl
namespace Go.Rl
open Go.RowKit Go.Proofs
theorem Aa:aG Tryz.prog 87:=⟨_,Tryz.func87,by kernel_rfl,rfl⟩
theorem FV (b:List UInt8) (k:Nat):rZ b k=((((b.drop (4*k)).getD 0 0).toUInt32<<<UInt32.ofNat 24|||((b.drop (4*k)).getD 1 0).toUInt32<<<UInt32.ofNat 16)|||((b.drop (4*k)).getD 2 0).toUInt32<<<UInt32.ofNat 8)|||((b.drop (4*k)).getD 3 0).toUInt32:=by
 simp only[FU,rZ,Nat.add_zero]
theorem wU {m:List UInt32} {i:Nat} (h:i<m.length):(m.map bH)[i]? =some (bH (m.getD i 0)):=by simp[h]
theorem Ab {w:World} {g:Nat} {s:List UInt32} {b:List UInt8} {u:Int} {tot:UInt64} (hc:HC g s b u tot w):
 Calls Tryz.prog 87 #[.pointer (some ⟨g,0,none⟩)] w (bE fun _ w'=>w.grownBy w' (some g)∧HC g (xA s b) b 0 tot w'):=by
 have hs:=hc.ls
 have hbl:=hc.lb
 refine enter (vs:=[.pointer (some ⟨g,0,none⟩)]) Tryz.func87 MI MI MI ?_
 obtain⟨g2,w1,hr,n2,x1,b2⟩:=aY (P:=Tryz.prog) (w:=w) (l:=(dB []).map bH) wJ rfl
 refine af (aa (aV MI hr (ag (ab ?_))))
 have lg:=hc.lt
 have hc1:=hc.ext x1
 have neg:some g≠some g2:=fun h=>by cases h;omega
 refine af (eW (fun _:Unit=>[(0,.pointer (some ⟨g,0,none⟩)),(2,.pointer (some ⟨g2,0,none⟩))]) (fun _ w'=>w1.grownBy w' (some g2)∧ci g2 200 ((dB (bI b 0)).map bH) w') ?_ ?_)
 ·refine af (aa (ae MI MI (ag (ab (aF ?_)))))
  refine cg (α:=Nat) (fun k=>[(0,.pointer (some ⟨g,0,none⟩)),(2,.pointer (some ⟨g2,0,none⟩)),(17,I (k:Int))])
   (fun k w'=>w1.grownBy w' (some g2)∧ci g2 200 ((dB (jy b k)).map bH) w'∧k≤16) (fun k=>16-k) 0 ⟨rfl,rfl,rfl,trivial⟩
   ⟨dH (aK.refl _),b2,by omega⟩ ?_
  rintro k w7 ⟨q7,b7,hk⟩
  refine af (aa ?_)
  refine al MI MI MI (a9) ?_
  refine ag (ab (af ?_))
  refine bw MI (fun h=>?_) (fun h=>?_)
  ·have hk16:k<16:=by omega
   have e0:(4:Int)*(k:Int)=((4*k:Nat):Int):=by omega
   refine aA (ab (af (aF (af (aa (ae MI MI (ac MI MI (ag (ab (af (aa (ae MI MI ?_))))))))))))
   refine ax MI MI ?_
   refine ah MI MI LR ?_
   refine ae MI MI ?_
   refine al (r:=I ((4*k:Nat):Int)) MI MI MI (by rw[←e0];exact fB (by omega) (by omega)) ?_
   refine cE (a:=some (I ((4*k:Nat):Int))) MI MI MI MI MI (Kd (by omega)) ?_
   refine ac MI MI (ag (ab ?_))
   have hbt:=(hc1.other q7 neg).bts (lo:=4*k) (by omega)
   obtain⟨ad,had⟩:=hbt.reads
   rw[List.length_drop,hbl] at had
   refine bP 24 [0,2,17,48,49] (by kernel_rfl) (by kernel_rfl) ?_
   refine aC MI MI (aC MI MI ?_)
   refine aE MI MI MI (fun w _=>(had 0 (by omega)).1 w) ?_
   refine aO MI MI (fun w' hw=>(had 0 (by omega)).2 w' hw) ?_
   refine dG MI MI (fun w _=>eG Mh Ma) ?_
   refine ba MI MI MI (fun w _=>fj 24 (by omega)) ?_
   refine aC MI MI ?_
   refine aE MI MI MI (fun w _=>(had 1 (by omega)).1 w) ?_
   refine aO MI MI (fun w' hw=>(had 1 (by omega)).2 w' hw) ?_
   refine dG MI MI (fun w _=>eG Mh Ma) ?_
   refine ba MI MI MI (fun w _=>fj 16 (by omega)) ?_
   refine ba MI MI MI (fun w _=>fE) ?_
   refine aC MI MI ?_
   refine aE MI MI MI (fun w _=>(had 2 (by omega)).1 w) ?_
   refine aO MI MI (fun w' hw=>(had 2 (by omega)).2 w' hw) ?_
   refine dG MI MI (fun w _=>eG Mh Ma) ?_
   refine ba MI MI MI (fun w _=>fj 8 (by omega)) ?_
   refine ba MI MI MI (fun w _=>fE) ?_
   refine aC MI MI ?_
   refine aE MI MI MI (fun w _=>(had 3 (by omega)).1 w) ?_
   refine aO MI MI (fun w' hw=>(had 3 (by omega)).2 w' hw) ?_
   refine dG MI MI (fun w _=>eG Mh Ma) ?_
   refine ba MI MI MI (fun w _=>fE) ?_
   refine aE MI MI MI (fun w _=>ip k (by omega)) ?_
   refine cp ?_
   intro w8 hx8
   rintro _ rfl _ rfl _ rfl _ rfl _ rfl
   have hlen:(dB (jy b k)).length=64:=nC (by rw[kq];omega)
   rw[←FV]
   refine ar MI MI (Bz (x:=rZ b k) (b7.ext hx8) k (by omega)) ?_
   have b8:=(b7.ext hx8).setU k (rZ b k)
   have q8:=(q7.trans (dH hx8)).trans (bi w8 g2 k (bH (rZ b k)))
   have hset:(dB (jy b k)).set k (rZ b k)=dB (jy b (k+1)):=by
    have:=nD (l:=jy b k) (rZ b k) (by rw[kq];omega)
    rw[kq] at this
    rw[this,wS]
   rw[hset] at b8
   refine ag (aS (ab (aa ?_)))
   refine al MI MI MI (aN (by omega) (by omega)) ?_
   refine ae MI MI (ag ?_)
   exact bR (k+1) ⟨rfl,rfl,rfl,trivial⟩ ⟨q8,b8,by omega⟩ (by omega)
  ·have hk':k=16:=by omega
   subst hk'
   exact bc (aJ (aJ (bf (ck () ⟨rfl,rfl,trivial⟩ ⟨q7,b7⟩))))
 rintro _ w7 ⟨q7,b7⟩
 refine ab ?_
 refine af (eW (fun _:Unit=>[(0,.pointer (some ⟨g,0,none⟩)),(2,.pointer (some ⟨g2,0,none⟩))]) (fun _ w'=>w1.grownBy w' (some g2)∧ci g2 200 ((bI b 48).map bH) w') ?_ ?_)
 ·refine af (aa (ac MI MI (ag (ab (aF ?_)))))
  refine cg (α:=Nat) (fun k=>[(0,.pointer (some ⟨g,0,none⟩)),(2,.pointer (some ⟨g2,0,none⟩)),(5,I ((16+k:Nat):Int))])
   (fun k w'=>w1.grownBy w' (some g2)∧ci g2 200 ((dB (bI b k)).map bH) w'∧k≤48) (fun k=>48-k) 0 ⟨rfl,rfl,rfl,trivial⟩
   ⟨q7,b7,by omega⟩ ?_
  clear q7 b7
  rintro k w7 ⟨q7,b7,hk⟩
  have hL:=mh b k
  refine af (af (aa (ae MI MI ?_)))
  refine al MI MI MI (a9) ?_
  refine ag (ab ?_)
  refine bw MI (fun h=>?_) (fun h=>?_)
  ·have hk48:k<48:=by omega
   refine aA (ab (af (aF (af ?_))))
   have e15:((16+k:Nat):Int)-15=(((bI b k).length-15:Nat):Int):=by omega
   have f15:=gy (l:=bI b k) (i:=(bI b k).length-15) (by omega)
   have e2:((16+k:Nat):Int)-2=(((bI b k).length-2:Nat):Int):=by omega
   have f2:=gy (l:=bI b k) (i:=(bI b k).length-2) (by omega)
   have e16:((16+k:Nat):Int)-16=(((bI b k).length-16:Nat):Int):=by omega
   have f16:=gy (l:=bI b k) (i:=(bI b k).length-16) (by omega)
   have e7:((16+k:Nat):Int)-7=(((bI b k).length-7:Nat):Int):=by omega
   have f7:=gy (l:=bI b k) (i:=(bI b k).length-7) (by omega)
   have hlen:(dB (bI b k)).length=64:=nC (by omega)
   refine bP 9 [0,2,5,6,62] (by kernel_rfl) (by kernel_rfl) ?_
   refine aC MI MI ?_
   refine ba (r:=I (((bI b k).length-15:Nat):Int)) MI MI MI (fun w _=>by rw[←e15];exact bC (by omega) (by omega)) ?_
   refine aE MI MI MI (fun w _=>ip _ (by omega)) ?_
   refine aO (r:=bH ((bI b k).getD ((bI b k).length-15) 0)) MI MI (fun w' hw=>by rw[←f15];exact dq (b7.ext hw) _ (by omega)) ?_
   refine aC MI MI ?_
   refine ba (r:=I (((bI b k).length-2:Nat):Int)) MI MI MI (fun w _=>by rw[←e2];exact bC (by omega) (by omega)) ?_
   refine aE MI MI MI (fun w _=>ip _ (by omega)) ?_
   refine aO (r:=bH ((bI b k).getD ((bI b k).length-2) 0)) MI MI (fun w' hw=>by rw[←f2];exact dq (b7.ext hw) _ (by omega)) ?_
   refine gn MI MI (cp ?_)
   intro w8 hx8
   rintro _ rfl _ rfl _ rfl _ rfl _ rfl
   refine ac MI MI (ag (ab ?_))
   have b12:=b7.ext hx8
   refine bP 29 [0,2,5,90,91] (by kernel_rfl) (by kernel_rfl) ?_
   refine aC MI MI (aC MI MI ?_)
   refine ba (r:=I (((bI b k).length-16:Nat):Int)) MI MI MI (fun w _=>by rw[←e16];exact bC (by omega) (by omega)) ?_
   refine aE MI MI MI (fun w _=>ip _ (by omega)) ?_
   refine aO (r:=bH ((bI b k).getD ((bI b k).length-16) 0)) MI MI (fun w' hw=>by rw[←f16];exact dq (b12.ext hw) _ (by omega)) ?_
   refine aC MI MI ?_
   refine cm (S:=Is (bH (i0 _ 7))) fx (ca.is _) MI (fun w' _=>by
    rintro _ rfl _ rfl
    exact bE.mono (fy 7 (by omega) (by omega)) fun v w'' h=>⟨h.1,h.2⟩) ?_
   refine aC MI MI ?_
   refine cm (S:=Is (bH (i0 _ 18))) fx (ca.is _) MI (fun w' _=>by
    rintro _ rfl _ rfl
    exact bE.mono (fy 18 (by omega) (by omega)) fun v w'' h=>⟨h.1,h.2⟩) ?_
   refine ba MI MI MI (fun w _=>cR) ?_
   refine aC MI MI ?_
   refine ba MI MI MI (fun w _=>cV 3 (by omega)) ?_
   refine ba MI MI MI (fun w _=>cR) ?_
   refine ba MI MI MI (fun w _=>cr) ?_
   refine aC MI MI ?_
   refine ba (r:=I (((bI b k).length-7:Nat):Int)) MI MI MI (fun w _=>by rw[←e7];exact bC (by omega) (by omega)) ?_
   refine aE MI MI MI (fun w _=>ip _ (by omega)) ?_
   refine aO (r:=bH ((bI b k).getD ((bI b k).length-7) 0)) MI MI (fun w' hw=>by rw[←f7];exact dq (b12.ext hw) _ (by omega)) ?_
   refine ba MI MI MI (fun w _=>cr) ?_
   refine aC MI MI ?_
   refine cm (S:=Is (bH (i0 _ 17))) fx (ca.is _) MI (fun w' _=>by
    rintro _ rfl _ rfl
    exact bE.mono (fy 17 (by omega) (by omega)) fun v w'' h=>⟨h.1,h.2⟩) ?_
   refine aC MI MI ?_
   refine cm (S:=Is (bH (i0 _ 19))) fx (ca.is _) MI (fun w' _=>by
    rintro _ rfl _ rfl
    exact bE.mono (fy 19 (by omega) (by omega)) fun v w'' h=>⟨h.1,h.2⟩) ?_
   refine ba MI MI MI (fun w _=>cR) ?_
   refine aC MI MI ?_
   refine ba MI MI MI (fun w _=>cV 10 (by omega)) ?_
   refine ba MI MI MI (fun w _=>cR) ?_
   refine ba MI MI MI (fun w _=>cr) ?_
   refine aE MI MI MI (fun w _=>ip (16+k) (by omega)) ?_
   refine cp ?_
   intro w13 hx13
   rintro _ rfl _ rfl _ rfl _ rfl _ rfl
   refine ar MI MI (Bz (x:=oH (bI b k)) (b12.ext hx13) (16+k) (by omega)) ?_
   have b13:=(b12.ext hx13).setU (16+k) (oH (bI b k))
   have q13:=((q7.trans (dH hx8)).trans (dH hx13)).trans (bi w13 g2 (16+k) (bH (oH (bI b k))))
   have hset:(dB (bI b k)).set (16+k) (oH (bI b k))=dB (bI b (k+1)):=by
    have:=nD (l:=bI b k) (oH (bI b k)) (by omega)
    rw[hL] at this
    exact this
   rw[hset] at b13
   refine ag (aS (ab (aa (ae MI MI ?_))))
   refine al MI MI MI (aN (by omega) (by omega)) ?_
   refine ac MI MI (ag ?_)
   exact bR (k+1) ⟨rfl,rfl,rfl,trivial⟩ ⟨q13,b13,by omega⟩ (by omega)
  ·have hk':k=48:=by omega
   subst hk'
   have hf:dB (bI b 48)=bI b 48:=by
    unfold dB
    rw[hL]
    exact List.append_nil _
   rw[hf] at b7
   exact bc (aJ (aJ (bf (ck () ⟨rfl,rfl,trivial⟩ ⟨q7,b7⟩))))
 clear q7 b7
 rintro _ w7 ⟨q7,b7⟩
 have hc7:=hc1.other q7 neg
 refine ab (af (aa (ae MI MI ?_)))
 refine ax MI MI ?_
 refine ah MI MI Jf ?_
 refine ak MI MI hc7.ldS ?_
 have hlen8:(Tryz.prog.info? 150).map (·.size)=some (s.map bH).length:=by rw[List.length_map,hs];exact oT
 obtain⟨g8,w8,hr,n8,x8,b8⟩:=aY (P:=Tryz.prog) (w:=w7) (l:=(List.replicate 8 0).map bH) Es rfl
 refine aV MI hr ?_
 refine ar MI MI (jO b8 (by simp[hs]) hlen8 (kP _)) ?_
 have b8':=b8.row (s.map bH)
 have q8:=bK w8 g8 (s.map bH).toArray
 have l28:g2<g8:=Nat.lt_of_lt_of_le b7.lt n8
 have lg7:=hc7.lt
 have ne28:some g2≠some g8:=fun h=>by cases h;omega
 have neg8:some g≠some g8:=fun h=>by cases h;omega
 have D2:=(b7.ext x8).other q8 ne28
 have hc8:=(hc7.ext x8).other q8 neg8
 have Q8:w.grownBy (w8.setRow g8 (s.map bH).toArray) (some g):=by
  have h1:aK w w7:=x1.of_new q7 n2
  exact dH ((h1.trans x8).of_new q8 (by have:=h1.size;omega))
 revert b8' D2 hc8 Q8
 generalize w8.setRow g8 (s.map bH).toArray=w9
 intro b9 D2 hc9 Q9
 refine ag (ab ?_)
 refine af (eW (fun _:Unit=>[(0,.pointer (some ⟨g,0,none⟩)),(8,.pointer (some ⟨g8,0,none⟩))]) (fun _ w'=>w9.grownBy w' (some g8)∧ci g8 150 ((ek b s 64).map bH) w') ?_ ?_)
 ·refine af (aa ?_)
  refine am (vs:=[]) wO MI MI (wQ w9) ?_
  rintro _ w10 ⟨x10,rfl⟩
  refine ae MI MI (ag (ab (aF ?_)))
  refine cg (α:=Nat) (fun i=>[(0,.pointer (some ⟨g,0,none⟩)),(2,.pointer (some ⟨g2,0,none⟩)),(8,.pointer (some ⟨g8,0,none⟩)),(96,.agg (kc.map bH).toArray),(97,I (i:Int))])
   (fun i w'=>w9.grownBy w' (some g8)∧ci g8 150 ((ek b s i).map bH) w'∧i≤64) (fun i=>64-i) 0 ⟨rfl,rfl,rfl,rfl,rfl,trivial⟩
   ⟨dH x10,b9.ext x10,by omega⟩ ?_
  clear x10 w10
  rintro i w10 ⟨q10,b10,hi⟩
  have hv8:=il b s hs i
  refine af (aa ?_)
  refine al MI MI MI (a9) ?_
  refine ag (ab (af ?_))
  refine bw MI (fun h=>?_) (fun h=>?_)
  ·have hi64:i<64:=by omega
   have hkc:kc.length=64:=rfl
   have hsl:(bI b 48).length=64:=mh b 48
   refine aA (ab (af (aF (af (aa (ae MI MI ?_))))))
   refine mW MI MI MI (GI (l:=kc.map bH) MH eI Ma hi64 .i64 (wU (by omega))) ?_
   refine ac MI MI (ac MI MI (ag (ab (af ?_))))
   have V:=b10
   have K6:=D2.other q10 ne28
   refine bP 5 [0,2,8,9,10,11,96,97,104] (by kernel_rfl) (by kernel_rfl) ?_
   refine aE MI MI MI (fun w _=>dZ 0 (by omega)) ?_
   refine aO MI MI (fun w' hw=>dq (V.ext hw) 0 (by omega)) ?_
   refine aE MI MI MI (fun w _=>dZ 4 (by omega)) ?_
   refine aO MI MI (fun w' hw=>dq (V.ext hw) 4 (by omega)) ?_
   refine gn MI MI (cp ?_)
   intro w11 hx11
   rintro _ rfl _ rfl _ rfl _ rfl _ rfl _ rfl _ rfl _ rfl _ rfl
   refine ac MI MI (ag (ab (af ?_)))
   replace V:=V.ext hx11
   replace K6:=K6.ext hx11
   refine bP 28 [0,2,8,11,96,97,132] (by kernel_rfl) (by kernel_rfl) ?_
   refine aE MI MI MI (fun w _=>dZ 7 (by omega)) ?_
   refine aO MI MI (fun w' hw=>dq (V.ext hw) 7 (by omega)) ?_
   refine aC MI MI ?_
   refine cm (S:=Is (bH (i0 _ 6))) fx (ca.is _) MI (fun w' _=>by
    rintro _ rfl _ rfl
    exact bE.mono (fy 6 (by omega) (by omega)) fun v w'' h=>⟨h.1,h.2⟩) ?_
   refine aC MI MI ?_
   refine cm (S:=Is (bH (i0 _ 11))) fx (ca.is _) MI (fun w' _=>by
    rintro _ rfl _ rfl
    exact bE.mono (fy 11 (by omega) (by omega)) fun v w'' h=>⟨h.1,h.2⟩) ?_
   refine ba MI MI MI (fun w _=>cR) ?_
   refine aC MI MI ?_
   refine cm (S:=Is (bH (i0 _ 25))) fx (ca.is _) MI (fun w' _=>by
    rintro _ rfl _ rfl
    exact bE.mono (fy 25 (by omega) (by omega)) fun v w'' h=>⟨h.1,h.2⟩) ?_
   refine ba MI MI MI (fun w _=>cR) ?_
   refine ba MI MI MI (fun w _=>cr) ?_
   refine aC MI MI ?_
   refine aE MI MI MI (fun w _=>dZ 5 (by omega)) ?_
   refine aO MI MI (fun w' hw=>dq (V.ext hw) 5 (by omega)) ?_
   refine ba MI MI MI (fun w _=>fD) ?_
   refine aC MI MI ?_
   refine u5 MI MI (fun w _=>t6) ?_
   refine aE MI MI MI (fun w _=>dZ 6 (by omega)) ?_
   refine aO MI MI (fun w' hw=>dq (V.ext hw) 6 (by omega)) ?_
   refine ba MI MI MI (fun w _=>fD) ?_
   refine ba MI MI MI (fun w _=>cR) ?_
   refine ba MI MI MI (fun w _=>cr) ?_
   refine aC MI MI ?_
   refine ba MI MI MI (fun w _=>cr) ?_
   refine aC MI MI ?_
   refine aE MI MI MI (fun w _=>ip i (by omega)) ?_
   refine aO MI MI (fun w' hw=>dq (K6.ext hw) i (by omega)) ?_
   refine ba MI MI MI (fun w _=>cr) ?_
   refine cp ?_
   intro w12 hx12
   rintro _ rfl _ rfl _ rfl _ rfl _ rfl _ rfl _ rfl
   refine ac MI MI (ag (ab (af ?_)))
   replace V:=V.ext hx12
   refine bP 24 [0,2,8,13,96,97,156] (by kernel_rfl) (by kernel_rfl) ?_
   refine aC MI MI ?_
   refine cm (S:=Is (bH (i0 _ 2))) fx (ca.is _) MI (fun w' _=>by
    rintro _ rfl _ rfl
    exact bE.mono (fy 2 (by omega) (by omega)) fun v w'' h=>⟨h.1,h.2⟩) ?_
   refine aC MI MI ?_
   refine cm (S:=Is (bH (i0 _ 13))) fx (ca.is _) MI (fun w' _=>by
    rintro _ rfl _ rfl
    exact bE.mono (fy 13 (by omega) (by omega)) fun v w'' h=>⟨h.1,h.2⟩) ?_
   refine ba MI MI MI (fun w _=>cR) ?_
   refine aC MI MI ?_
   refine cm (S:=Is (bH (i0 _ 22))) fx (ca.is _) MI (fun w' _=>by
    rintro _ rfl _ rfl
    exact bE.mono (fy 22 (by omega) (by omega)) fun v w'' h=>⟨h.1,h.2⟩) ?_
   refine ba MI MI MI (fun w _=>cR) ?_
   refine aC MI MI ?_
   refine aE MI MI MI (fun w _=>dZ 1 (by omega)) ?_
   refine aO MI MI (fun w' hw=>dq (V.ext hw) 1 (by omega)) ?_
   refine ba MI MI MI (fun w _=>fD) ?_
   refine aC MI MI ?_
   refine aE MI MI MI (fun w _=>dZ 2 (by omega)) ?_
   refine aO MI MI (fun w' hw=>dq (V.ext hw) 2 (by omega)) ?_
   refine ba MI MI MI (fun w _=>fD) ?_
   refine ba MI MI MI (fun w _=>cR) ?_
   refine aE MI MI MI (fun w _=>dZ 1 (by omega)) ?_
   refine aO MI MI (fun w' hw=>dq (V.ext hw) 1 (by omega)) ?_
   refine aE MI MI MI (fun w _=>dZ 2 (by omega)) ?_
   refine aO MI MI (fun w' hw=>dq (V.ext hw) 2 (by omega)) ?_
   refine ba MI MI MI (fun w _=>fD) ?_
   refine ba MI MI MI (fun w _=>cR) ?_
   refine ba MI MI MI (fun w _=>cr) ?_
   refine cp ?_
   intro w13 hx13
   rintro _ rfl _ rfl _ rfl _ rfl _ rfl _ rfl _ rfl
   refine ac MI MI (ag (ab (aa (ae MI MI (ae MI MI ?_)))))
   replace V:=V.ext hx13
   refine al MI MI MI (cr) ?_
   refine av MI MI MI (dZ 0 (by omega)) ?_
   refine ak MI MI (dq V 0 (by omega)) ?_
   refine av MI MI MI (dZ 1 (by omega)) ?_
   refine ak MI MI (dq V 1 (by omega)) ?_
   refine av MI MI MI (dZ 2 (by omega)) ?_
   refine ak MI MI (dq V 2 (by omega)) ?_
   refine av MI MI MI (dZ 3 (by omega)) ?_
   refine ak MI MI (dq V 3 (by omega)) ?_
   refine ae MI MI ?_
   refine al MI MI MI (cr) ?_
   refine av MI MI MI (dZ 4 (by omega)) ?_
   refine ak MI MI (dq V 4 (by omega)) ?_
   refine av MI MI MI (dZ 5 (by omega)) ?_
   refine ak MI MI (dq V 5 (by omega)) ?_
   refine av MI MI MI (dZ 6 (by omega)) ?_
   refine ak MI MI (dq V 6 (by omega)) ?_
   refine bz MI MI (run_build _ _ _ ((ek b s (i+1)).map bH).toArray (by kernel_rfl)) ?_
   have hn8:=il b s hs (i+1)
   refine ar MI MI (jO V (by simp[hv8,hn8]) (by rw[List.length_map,hn8];exact oT) (kP _)) ?_
   have V':=V.row ((ek b s (i+1)).map bH)
   have q14:=(q10.trans (dH ((hx11.trans hx12).trans hx13))).trans (bK w13 g8 ((ek b s (i+1)).map bH).toArray)
   refine ag (aS (ab (aa ?_)))
   refine al MI MI MI (aN (by omega) (by omega)) ?_
   refine ae MI MI (ag ?_)
   exact bR (i+1) ⟨rfl,rfl,rfl,rfl,rfl,trivial⟩ ⟨q14,V',by omega⟩ (by omega)
  ·have hi':i=64:=by omega
   subst hi'
   exact bc (aJ (aJ (bf (ck () ⟨rfl,rfl,trivial⟩ ⟨q10,b10⟩))))
 rintro _ w10 ⟨q10,b10⟩
 refine ab ?_
 have hv8:=il b s hs 64
 have hc10:=hc9.other q10 neg8
 have ha0:jB s (ek b s 64) 0=s:=by simp[jB]
 refine af (eW (fun _:Unit=>[(0,.pointer (some ⟨g,0,none⟩))]) (fun _ w'=>w10.grownBy w' (some g)∧HC g (jB s (ek b s 64) 8) b u tot w') ?_ ?_)
 ·refine af (aa ?_)
  refine ak MI MI (oh (m:=(ek b s 64).map bH) b10 (fun j v h=>by rwa [Nat.zero_add]) MC MI (by rw[List.length_map,hv8];exact oT)) ?_
  refine ae MI MI (ag (ab (aF ?_)))
  refine cg (α:=Nat) (fun i=>[(0,.pointer (some ⟨g,0,none⟩)),(178,.agg ((ek b s 64).map bH).toArray),(179,I (i:Int))])
   (fun i w'=>w10.grownBy w' (some g)∧HC g (jB s (ek b s 64) i) b u tot w'∧i≤8) (fun i=>8-i) 0 ⟨rfl,rfl,rfl,trivial⟩
   ⟨dH (aK.refl _),by rw[ha0];exact hc10,by omega⟩ ?_
  rintro i w11 ⟨q11,c11,hi⟩
  refine af (aa ?_)
  refine al MI MI MI (a9) ?_
  refine ag (ab (af ?_))
  refine bw MI (fun h=>?_) (fun h=>?_)
  ·have hi8:i<8:=by omega
   have hag:=yA hs hv8 hi8
   refine aA (ab (af (aF (af (aa (ae MI MI ?_))))))
   refine mW MI MI MI (GI (l:=(ek b s 64).map bH) MC eI Ma hi8 .i64 (wU (by omega))) ?_
   refine ac MI MI (ac MI MI (ag (ab ?_)))
   refine bP 11 [0,178,179,190,193] (by kernel_rfl) (by kernel_rfl) ?_
   refine aC MI MI (aC MI MI ?_)
   refine dc MI MI ?_
   refine aT MI MI (fun w _=>Jf) ?_
   refine aE MI MI MI (fun w _=>dZ i (by omega)) ?_
   refine aO (r:=bH (s.getD i 0)) MI MI (fun w' hw=>by rw[←hag];exact ai Ma MI ((c11.ext hw).cellS hi8)) ?_
   refine aC MI MI ?_
   refine ba MI MI MI (fun w _=>cr) ?_
   refine dc MI MI ?_
   refine aT MI MI (fun w _=>Jf) ?_
   refine aE MI MI MI (fun w _=>dZ i (by omega)) ?_
   refine cp ?_
   intro w12 hx12
   rintro _ rfl _ rfl _ rfl _ rfl _ rfl
   have hcl:=it (u:=u) (tot:=tot) c11.ls c11.lb
   refine ar MI MI (ei eI MI (c11.ext hx12).hb (by rw[List.size_toArray,hcl];omega)) ?_
   have c12:=(c11.ext hx12).setS i hi8 (s.getD i 0+(ek b s 64).getD i 0)
   rw[yB hs hv8 hi8] at c12
   have q12:=(q11.trans (dH hx12)).trans (bi w12 g i (bH (s.getD i 0+(ek b s 64).getD i 0)))
   refine ag (aS (ab (aa ?_)))
   refine al MI MI MI (aN (by omega) (by omega)) ?_
   refine ae MI MI (ag ?_)
   exact bR (i+1) ⟨rfl,rfl,rfl,trivial⟩ ⟨q12,c12,by omega⟩ (by omega)
  ·have hi':i=8:=by omega
   subst hi'
   exact bc (aJ (aJ (bf (ck () ⟨rfl,trivial⟩ ⟨q11,c11⟩))))
 rintro _ w11 ⟨q11,c11⟩
 rw[yC hs hv8] at c11
 have hcl:=it (u:=u) (tot:=tot) c11.ls c11.lb
 refine ab (aa (ae MI MI ?_))
 refine ax MI MI ?_
 refine ah MI MI FT ?_
 refine ar MI MI (ei (i:=72) gr MI c11.hb (by rw[List.size_toArray,hcl];omega)) ?_
 have c12:=c11.setU 0
 refine ag ?_
 refine jS MI ?_
 refine⟨_,rfl,?_,c12⟩
 have Q10:w.grownBy w10 (some g):=by
  have h:w.grownBy w9 (some g):=Q9
  refine⟨q10.os.trans h.os,q10.tape.trans h.tape,q10.output.trans h.output,Nat.le_trans h.size q10.size,fun k hk hne=>?_⟩
  exact(q10.block k (Nat.lt_of_lt_of_le hk h.size) (fun he=>by cases he;omega)).trans (h.block k hk hne)
 exact(Q10.trans q11).trans (bi w11 g 72 (I 0))
end Go.Rl
namespace Go.Rl
open Go.RowKit Go.Proofs
def HA (g:Nat) (m:List UInt8) (tot:UInt64) (w:World):Prop:=∃blk,HC g (sh m) blk ((m.length%64:Nat):Int) tot w∧blk.take (m.length%64)=m.drop (64*(m.length/64))
theorem HA.ext {g:Nat} {m:List UInt8} {tot:UInt64} {w w':World} (h:HA g m tot w) (hx:aK w w'):HA g m tot w':=by
 obtain⟨blk,h1,h2⟩:=h
 exact⟨blk,h1.ext hx,h2⟩
theorem HA.other {g:Nat} {m:List UInt8} {tot:UInt64} {w w':World} {row:Option Nat} (h:HA g m tot w) (hg:w.grownBy w' row) (hne:some g≠row):HA g m tot w':=by
 obtain⟨blk,h1,h2⟩:=h
 exact⟨blk,h1.other hg hne,h2⟩
theorem HA.lt {g:Nat} {m:List UInt8} {tot:UInt64} {w:World} (h:HA g m tot w):g<w.heap.size:=by
 obtain⟨blk,h1,h2⟩:=h
 exact h1.lt
theorem Jg (m y:List UInt8) (h:m.length%64+y.length<64):sh (m++y)=sh m:=by
 have hm:m=m.take (64*(m.length/64))++m.drop (64*(m.length/64)):=(List.take_append_drop _ _).symm
 have hl:(m.take (64*(m.length/64))).length=64*(m.length/64):=by simp;omega
 have hd:(m.drop (64*(m.length/64))).length=m.length%64:=by simp;omega
 rw[hm,List.append_assoc,zI _ _ (by omega) (by rw[List.length_append,hd];exact h),zI _ _ (by omega) (by omega)]
theorem Jh (m y:List UInt8) (h:m.length%64+y.length=64):sh (m++y)=xA (sh m) (m.drop (64*(m.length/64))++y):=by
 have hm:m=m.take (64*(m.length/64))++m.drop (64*(m.length/64)):=(List.take_append_drop _ _).symm
 have hl:(m.take (64*(m.length/64))).length=64*(m.length/64):=by simp;omega
 have hd:(m.drop (64*(m.length/64))).length=m.length%64:=by simp;omega
 have e1:sh (m++y)=sh (m.take (64*(m.length/64))++(m.drop (64*(m.length/64))++y)):=by
  rw[←List.append_assoc,List.take_append_drop]
 have e2:sh m=sh (m.take (64*(m.length/64))):=by
  conv=>lhs;rw[hm]
  exact zI _ _ (by omega) (by omega)
 rw[e1,e2,Ht _ _ (by omega) (by rw[List.length_append,hd];exact h)]
def Ac (g:Nat) (v:Value):Prop:=∀a n c,v=.slice (some a) n c→a.block≠g
theorem cz.away {l:List UInt8} {v:Value} {g:Nat} {w w':World} (h:cz l v w) (ha:0<l.length→Ac g v) (hg:w.grownBy w' (some g)):cz l v w':=by
 obtain⟨A,n,c,rfl,h1,h2,h3,h4,h5⟩:=h
 refine⟨A,n,c,rfl,h1,h2,h3,fun hn=>?_,h5⟩
 obtain⟨ad,rfl,hc⟩:=h4 hn
 have hlen:0<l.length:=by
  have:l.length=n:=by simpa using h3
  omega
 refine⟨ad,rfl,fun j u hu=>?_⟩
 have hb:(ad.add j).block=ad.block:=by unfold Addr.add;split<;>rfl
 exact hg.cell (hc j u hu) (by rw[hb];intro he;exact ha hlen ad n c rfl (Option.some.inj he))
theorem C3 {l:List UInt8} {v:Value} {g:Nat} {w:World} (h:cz l v w) {lo:Nat} (hlo:lo≤l.length) (ha:Ac g v):
 ∃r,(∀w':World,(Instr.sliceAt 22 v (some (I (lo:Int))) none none).run Tryz.prog w'=.ok r w')∧cz (l.drop lo) r w∧Ac g r:=by
 obtain⟨r,hr,hb⟩:=gq h hlo .i64
 refine⟨r,hr,hb,?_⟩
 obtain⟨A,n,c,rfl,h1,h2,h3,h4,h5⟩:=h
 have hln:lo≤n:=by
  have:l.length=n:=by simpa using h3
  omega
 have hbd:(Instr.sliceBounds true n c (some (.int .i64 (lo:Int))) none none).run Tryz.prog w=.ok (lo,n,c) w:=by
  have a2:=run_sliceBound (P:=Tryz.prog) (w:=w) .i64 (lo:Int) n .sliceB (by omega) (by omega)
  simp only[Int.toNat_natCast] at a2
  simp[Instr.sliceBounds,a2]
 have hrun:(Instr.sliceAt 22 (.slice A n c) (some (.int .i64 (lo:Int))) none none).run Tryz.prog w=.ok (.slice (if c=lo then A else A.map (·.add (lo*1))) (n-lo) (c-lo)) w:=by
  simp[Instr.sliceAt,Instr.slice,run_underlying Tryz.underlying22,hbd,eZ fC]
 have e:=(hr w).symm.trans hrun
 simp only[Result.ok.injEq,and_true] at e
 subst e
 intro a n' c' he
 simp only[Value.slice.injEq] at he
 obtain⟨he,_,_⟩:=he
 split at he
 ·exact ha a n c (by rw[he])
 ·obtain⟨a0,h0,rfl⟩:=Option.map_eq_some_iff.1 he
  have:(a0.add (lo*1)).block=a0.block:=by unfold Addr.add;split<;>rfl
  rw[this]
  exact ha a0 n c (by rw[h0])
theorem Ji {g:Nat} {st:List UInt32} {blk x:List UInt8} {u:Int} {tot:UInt64} {w:World} {v:Value} {ty:TypeId} {o:Nat} (h:HC g st blk u tot w) (ho:o<64) (hx:cz x v w) (hne:0<x.length):
 ∃w',(Builtin.copy_ #[22,22] ty #[.slice (some ⟨g,8+o,none⟩) (64-o) (64-o),v]).run Tryz.prog w=.ok (I ((min x.length (64-o):Nat):Int)) w'∧w.grownBy w' (some g)∧
  HC g st (blk.take o++x.take (64-o)++blk.drop (o+min x.length (64-o))) u tot w':=by
 obtain⟨A,n,c,rfl,h1,h2,h3,h4,h5⟩:=hx
 have hxn:x.length=n:=by simpa using h3
 obtain⟨ad,rfl,hc⟩:=h4 (by omega)
 have hcs:((x.take (64-o)).map U8).length=min n (64-o):=by simp[hxn,Nat.min_comm]
 have hr:=run_copy_row (P:=Tryz.prog) w 22 22 ty 5 g (8+o) (64-o) (64-o) ad n c _ 154 ((x.take (64-o)).map U8) Mg fC h.hb hcs
  (fun j u hj=>hc j u (by
    rw[List.map_take,List.getElem?_take] at hj
    split at hj
    ·exact hj
    ·cases hj)) (by rw[hcs,List.size_toArray,it h.ls h.lb];omega) (su _)
 rw[hcs] at hr
 refine⟨_,by rw[hxn];exact hr,bK _ _ _,?_,h.ls,?_⟩
 ·have:=h.hb.row (dl st (blk.take o++x.take (64-o)++blk.drop (o+min n (64-o))) u tot)
  rw[hxn]
  have e:((dl st blk u tot).toArray.toList.take (8+o)++(x.take (64-o)).map U8++(dl st blk u tot).toArray.toList.drop (8+o+min n (64-o)))=dl st (blk.take o++x.take (64-o)++blk.drop (o+min n (64-o))) u tot:=by
   have l8:(st.map bH).length=8:=by simp[h.ls]
   have l64:(blk.map U8).length=64:=by simp[h.lb]
   unfold dl
   rw[List.take_append,l8,List.drop_append,l8,show 8+o-8=o by omega,show 8+o+min n (64-o)-8=o+min n (64-o) by omega]
   rw[List.take_of_length_le (by omega),List.drop_eq_nil_of_le (by omega),List.nil_append]
   rw[List.take_append,l64,show o-64=0 by omega,List.take_zero,List.append_nil,List.drop_append,l64,show o+min n (64-o)-64=0 by omega,List.drop_zero]
   simp only[List.map_append,List.map_take,List.map_drop,List.append_assoc]
  rw[e]
  exact this
 ·simp only[List.length_append,List.length_take,List.length_drop,h.lb];omega
end Go.Rl

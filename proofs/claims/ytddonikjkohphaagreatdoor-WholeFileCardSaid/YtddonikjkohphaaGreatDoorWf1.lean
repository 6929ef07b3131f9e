/- Part 1 of a proof: plain facts and walks of functions, merged by a program. Conditions: each lemma names its own. -/
import Derived.StillTail
import Derived.Below
import Derived.Laws.Entries
import Derived.Maps.AppendAt
import Derived.Laws.BytesString
import Derived.Laws.Slices
import Derived.Laws.MakeOwn
import Derived.Laws.Rows
import Derived.OwnWalk
import Derived.Laws.BitsAllLaws
import Derived.Laws.Strings
import Derived.Test.YtddonikjkohphaaGreatDoorProg
import Derived.KernelRfl
import Derived.Laws.OwnMore
import Derived.Deep.MidRow
import Derived.Laws.CopyRow
import Derived.RowKit
import Derived.OrdersHeld
import Derived.Lib.AppendStr
import Derived.Laws.IdiomStrings
import Derived.Lib.SlBytesConst
import Derived.ArgAppend
import Derived.ProofKit
import Derived.OpenShut
import Derived.ChangeArms
import Derived.RangeFuncWrites
import Derived.RangeFuncLeaves
import Derived.TacticsIn
import Derived.OwnWalkIn
import Derived.Maps.Keyed
import Derived.DeepKeys5
import Derived.ShutString
import Derived.SliceStrings
import Derived.ChangeOld
import Derived.ChangeKeysEq
import Derived.Laws.StructEq
import Derived.Shelf.Strings.OnBuilder
import Derived.Shelf.Strings.Repeat
import Derived.Shelf.Strconv.Itoa3
import Derived.Shelf.Slices.ReverseS
import Derived.Test.YtddonikjkohphaaGreatDoorCards
import Derived.Test.YtddonikjkohphaaGreatDoorTie
import Derived.Lib.LaidTab
import Derived.Lib.SmallJoins
import Derived.Lib.AppendIntMem
import Derived.Lib.OwnBridge
import Derived.OrdersIn
import Derived.Scope
import Derived.Test.YtddonikjkohphaaGreatDoorRows
abbrev Eq.ai.{u}:=@Eq.trans.{u}
abbrev Nat.le.ai:=@Nat.le_trans
abbrev Go.World.grownBy.ai:=@Go.World.grownBy.trans
abbrev Iff.ai:=@Iff.trans
abbrev Go.RowKit.Below.ai:=@Go.RowKit.Below.trans
namespace Go.Rl
abbrev aE:=@Go.Proofs.Tryz.underlying3
abbrev aT:=@Go.Proofs.Tryz.underlying47
abbrev bI:=@Go.Proofs.Tryz.underlying49
abbrev bN:=@Go.Proofs.Tryz.underlying253
abbrev cd:=@Go.Proofs.Tryz.underlying22
abbrev cn:=@Go.Proofs.Tryz.underlying42
abbrev cO:=@Go.Proofs.Tryz.underlying34
abbrev cU:=@Go.Proofs.Tryz.underlying175
abbrev dw:=@Go.Proofs.Tryz.underlying4
abbrev dx:=@Go.Proofs.Tryz.underlying51
abbrev dG:=@Go.Proofs.Tryz.underlying78
abbrev dP:=@Go.Proofs.Tryz.underlying23
abbrev eo:=@Go.Proofs.Tryz.underlying45
abbrev fo:=@Go.Proofs.Tryz.underlying5
abbrev fz:=@Go.Proofs.Tryz.underlying25
abbrev gC:=@Go.Proofs.Tryz.underlying80
abbrev ij:=@Go.Proofs.Tryz.underlying36
abbrev iB:=@Go.Proofs.Tryz.underlying28
abbrev iM:=@Go.Proofs.Tryz.underlying155
abbrev iN:=@Go.Proofs.Tryz.underlying46
abbrev lN:=@Go.Proofs.Tryz.underlying265
abbrev oR:=@Go.Proofs.Tryz.underlying184
abbrev qG:=@Go.Proofs.Tryz.underlying86
abbrev qH:=@Go.Proofs.Tryz.underlying93
abbrev ur:=@Go.Proofs.Tryz.underlying189
abbrev ut:=@Go.Proofs.Tryz.underlying230
abbrev uu:=@Go.Proofs.Tryz.underlying9
abbrev uw:=@Go.Proofs.Tryz.underlying90
abbrev vH:=@Go.Proofs.Tryz.underlying103
abbrev vI:=@Go.Proofs.Tryz.underlying156
abbrev vJ:=@Go.Proofs.Tryz.underlying167
abbrev vK:=@Go.Proofs.Tryz.underlying237
abbrev zN:=@Go.Proofs.Tryz.underlying100
abbrev BW:=@Go.Proofs.Tryz.underlying107
abbrev BX:=@Go.Proofs.Tryz.underlying254
abbrev BY:=@Go.Proofs.Tryz.underlying257
abbrev Fm:=@Go.Proofs.Tryz.underlying0
abbrev Fo:=@Go.Proofs.Tryz.underlying330
abbrev JR:=@Go.Proofs.Tryz.underlying232
abbrev JS:=@Go.Proofs.Tryz.underlying312
abbrev JT:=@Go.Proofs.Tryz.underlying325
abbrev aB.{u,v}:=@congrArg.{u,v}
abbrev bi:=@decide_eq_false
abbrev bU.{u}:=@Eq.symm.{u}
abbrev bV:=@Nat.le_refl
abbrev bZ.{u,v}:=@Prod.mk.inj.{u,v}
abbrev cf:=@Nat.le_trans
abbrev cr.{u}:=@List.length_append.{u}
abbrev cw.{u}:=@List.length_cons.{u}
abbrev cA:=@decide_eq_decide
abbrev cC.{u}:=@Option.some.inj.{u}
abbrev c8.{u}:=@List.length_nil.{u}
abbrev dH:=@decide_eq_true
abbrev dN.{u,v}:=@List.length_map.{u,v}
abbrev ex:=@Bool.and_eq_true
abbrev eK.{u}:=@List.getElem_mem.{u}
abbrev eN:=@Nat.mod_eq_of_lt
abbrev eS.{u}:=@List.length_take.{u}
abbrev eT:=@Nat.lt_of_lt_of_le
abbrev fh.{u}:=@List.append_assoc.{u}
abbrev fi.{u}:=@List.take_succ_eq_append_getElem.{u}
abbrev fk:=@Nat.add_mul
abbrev fm:=@Nat.eq_zero_or_pos
abbrev fu:=@Nat.mul_assoc
abbrev fw:=@Nat.mul_comm
abbrev fy.{u}:=@List.getElem?_eq_getElem.{u}
abbrev fF.{u,v}:=@List.mem_map.{u,v}
abbrev fG.{u}:=@List.take_of_length_le.{u}
abbrev fH:=@Nat.mul_le_mul_right
abbrev fL.{u}:=@List.take_length.{u}
abbrev f6:=@Nat.mul_add
abbrev gi:=@Nat.mul_le_mul
abbrev gj:=@Nat.pow_succ
abbrev gz:=@Int.mul_le_mul
abbrev gA.{u}:=@List.length_drop.{u}
abbrev gB:=@Nat.zero_add
abbrev gI:=@decide_eq_true_eq
abbrev gT.{u}:=@List.eq_nil_of_length_eq_zero.{u}
abbrev gU.{u,v}:=@Option.map_eq_some_iff.{u,v}
abbrev ip:=@of_decide_eq_true
abbrev iy.{u,v}:=@List.map_cons.{u,v}
abbrev iI:=@Int.mul_nonneg
abbrev iJ.{u,v}:=@Option.bind_some.{u,v}
abbrev iZ:=@Nat.min_eq_left
abbrev i8.{u,v}:=@Option.bind_eq_some_iff.{u,v}
abbrev jn:=@Nat.lt_or_ge
abbrev jo:=@UInt64.toNat_ofNat'
abbrev jB.{u}:=@Array.getElem?_eq_some_iff.{u}
abbrev jD:=@List.mem_range
abbrev jF:=@Nat.pow_add
abbrev jU.{u}:=@List.append_nil.{u}
abbrev jV:=@Nat.mod_lt
abbrev kP:=@Int.toNat_natCast
abbrev kR.{u}:=@List.all_eq_true.{u}
abbrev kT.{u}:=@List.drop_of_length_le.{u}
abbrev kW:=@UInt64.lt_iff_toNat_lt
abbrev lE.{u}:=@List.drop_eq_getElem_cons.{u}
abbrev lF.{u}:=@List.mem_cons.{u}
abbrev lG:=@Nat.add_zero
abbrev lH:=@Nat.pow_le_pow_right
abbrev lI:=@Nat.pow_pos
abbrev me:=@Int.le_refl
abbrev mg.{u,v}:=@List.map_append.{u,v}
abbrev mU.{u}:=@List.getD_eq_getElem?_getD.{u}
abbrev nz.{u}:=@List.take_append_drop.{u}
abbrev nA:=@Nat.lt_of_le_of_lt
abbrev nB:=@Nat.lt_of_not_le
abbrev nC:=@Nat.one_mul
abbrev nU.{u}:=@List.cons_append.{u}
abbrev nV.{u}:=@List.getElem?_toArray.{u}
abbrev nW.{u,v}:=@List.map_nil.{u,v}
abbrev nX.{u,v}:=@List.map_toArray.{u,v}
abbrev nY:=@Nat.mul_le_mul_left
abbrev nZ:=@Nat.succ_mul
abbrev n9.{u,v}:=@Option.map_some.{u,v}
abbrev oJ:=@Classical.byContradiction
abbrev oK.{u}:=@List.mem_append.{u}
abbrev oN:=@Nat.mul_pos
abbrev oP.{u,v}:=@Prod.ext.{u,v}
abbrev pl.{u}:=@List.getElem?_eq_some_iff.{u}
abbrev pm:=@Nat.add_assoc
abbrev pn:=@Nat.add_sub_cancel
abbrev pp:=@Nat.div_eq_of_lt
abbrev pq:=@Nat.zero_le
abbrev qu:=@Int.natCast_mul
abbrev qw.{u}:=@List.length_singleton.{u}
abbrev qB.{u}:=@List.nil_append.{u}
abbrev qD:=@Nat.le_mul_of_pos_right
abbrev qU:=@decide_eq_true_iff
abbrev rN.{u}:=@List.getElem?_append_right.{u}
abbrev rO.{u}:=@List.getElem?_drop.{u}
abbrev rP:=@Nat.add_comm
abbrev rQ:=@Nat.div_add_mod
abbrev rR:=@Nat.mul_one
abbrev rS:=@Nat.pow_mul
abbrev rT:=@Nat.shiftLeft_eq
abbrev rU:=@Nat.shiftRight_eq_div_pow
abbrev tq.{u}:=@List.drop_drop.{u}
abbrev tt.{u}:=@List.drop_zero.{u}
abbrev tu.{u,v}:=@List.getElem?_map.{u,v}
abbrev tz.{u,v,w}:=@List.map_map.{u,v,w}
abbrev tA.{u}:=@List.mem_of_getElem?.{u}
abbrev uh:=@List.length_range
abbrev uj.{u}:=@Ne.symm.{u}
abbrev vu.{u}:=@List.getElem?_append_left.{u}
abbrev vw.{u}:=@List.not_mem_nil.{u}
abbrev vx.{u}:=@List.set_append_right.{u}
abbrev vC:=@Nat.div_one
abbrev vD:=@Nat.gcd_comm
abbrev vE:=@Nat.le_of_not_lt
abbrev vL:=@UInt32.toNat_ofNat'
abbrev vM:=@UInt64.le_iff_toNat_le
abbrev vP:=@and_true
abbrev wm.{u}:=@dif_pos.{u}
abbrev xe:=@or_false
abbrev xF.{u}:=@Array.getD_eq_getD_getElem?.{u}
abbrev xG:=@Bool.or_eq_true
abbrev xH.{u}:=@Eq.trans.{u}
abbrev xI.{u}:=@List.all_cons.{u}
abbrev xJ.{u,v}:=@List.foldl_append.{u,v}
abbrev xK.{u,v}:=@List.map_drop.{u,v}
abbrev xL.{u,v}:=@List.map_take.{u,v}
abbrev xN:=@Nat.add_mul_div_left
abbrev xO:=@Nat.div_lt_iff_lt_mul
abbrev xP:=@Nat.le_of_eq
abbrev xQ:=@Nat.mul_left_comm
abbrev xR:=@Nat.mul_zero
abbrev xT:=@Nat.or_comm
abbrev xZ:=@UInt64.toNat_div
abbrev ya:=@UInt64.toNat_mod
abbrev yb:=@UInt8.lt_iff_toNat_lt
abbrev zp.{u}:=@List.any_eq_true.{u}
abbrev zq.{u}:=@List.drop_set_of_lt.{u}
abbrev zr.{u,v}:=@List.flatMap_cons.{u,v}
abbrev zt.{u}:=@List.getElem?_eq_none.{u}
abbrev zu.{u}:=@List.getElem?_eq_none_iff.{u}
abbrev zv.{u}:=@List.length_eq_one_iff.{u}
abbrev zw.{u}:=@List.length_replicate.{u}
abbrev zx.{u,v}:=@List.map_set.{u,v}
abbrev zy.{u}:=@List.mem_of_mem_take.{u}
abbrev zz.{u}:=@List.size_toArray.{u}
abbrev zE:=@Nat.le_of_lt
abbrev zG:=@Nat.le_of_mul_le_mul_right
abbrev zH:=@Nat.mul_right_comm
abbrev zK:=@Rat.mkRat_self
abbrev zO:=@UInt32.toNat_shiftRight
abbrev zP:=@UInt32.toNat_toUInt8
abbrev Bw:=@Bool.true_and
abbrev Bz:=@Int.natAbs_mul
abbrev BA:=@Int.toNat_of_nonneg
abbrev BE.{u,v}:=@List.foldl_cons.{u,v}
abbrev BF.{u}:=@List.getElem_of_mem.{u}
abbrev BG.{u}:=@List.length_reverse.{u}
abbrev BH.{u,v}:=@List.mem_flatMap.{u,v}
abbrev BI:=@List.range_succ
abbrev BK:=@Nat.add_mul_mod_self_left
abbrev BL:=@Nat.blt_eq
abbrev BM:=@Nat.div_div_eq_div_mul
abbrev BN:=@Nat.lt_of_mul_lt_mul_right
abbrev BO:=@Nat.mul_lt_mul_of_pos_right
abbrev BP:=@Nat.sub_self
abbrev BU:=@Rat.mul_one
abbrev BZ:=@UInt64.toNat_shiftRight
abbrev Eh.{u}:=@Array.empty_append.{u}
abbrev Ei.{u}:=@Array.size_replicate.{u}
abbrev Ek:=@Decidable.em
abbrev Ep:=@Int.lt_trichotomy
abbrev Er:=@Int.mul_assoc
abbrev Es:=@Int.mul_le_mul_of_nonneg_right
abbrev Et:=@Int.natAbs_natCast
abbrev Eu:=@Int.natCast_add
abbrev Ev:=@Int64.toInt_ofInt_of_le
abbrev EC.{u}:=@List.drop_eq_nil_of_le.{u}
abbrev ED.{u}:=@List.drop_length.{u}
abbrev EE.{u}:=@List.getD_cons_succ.{u}
abbrev EF.{u}:=@List.getElem?_take.{u}
abbrev EG.{u}:=@List.mem_cons_of_mem.{u}
abbrev EH.{u}:=@List.mem_cons_self.{u}
abbrev EI.{u,v}:=@List.mem_map_of_mem.{u,v}
abbrev EJ.{u}:=@List.replicate_succ.{u}
abbrev EK.{u}:=@List.take_left'.{u}
abbrev EM.{u}:=@List.take_zero.{u}
abbrev EQ:=@Nat.div_le_self
abbrev ER:=@Nat.eq_of_mul_eq_mul_right
abbrev ES:=@Nat.lt_trans
abbrev ET:=@Nat.mul_add_div
abbrev EU:=@Nat.mul_add_mod
abbrev EV:=@Nat.pow_lt_pow_iff_right
abbrev EW:=@Nat.pow_zero
abbrev EX:=@Nat.shiftLeft_add_eq_or_of_lt
abbrev EY:=@Nat.succ_ne_zero
abbrev EZ:=@Nat.zero_mul
abbrev E0.{u}:=@Option.getD_some.{u}
abbrev Fq:=@UInt64.toNat_shiftLeft
abbrev Fs:=@UInt64.toNat_sub_of_le
abbrev Ft:=@UInt8.toNat_ofNat'
abbrev Gu.{u}:=@forall_eq_or_imp.{u}
abbrev G9:=@of_decide_eq_false
abbrev Ir.{u}:=@Array.append_empty.{u}
abbrev It.{u}:=@Array.getElem?_setIfInBounds_ne.{u}
abbrev Iu:=@BitVec.eq_of_toNat_eq
abbrev Iv:=@BitVec.ofInt_natCast
abbrev IH:=@Int.fdiv_eq_ediv_of_nonneg
abbrev II:=@Int.natAbs_add_le
abbrev IS.{u}:=@List.ext_getElem.{u}
abbrev IT.{u,v}:=@List.flatMap_append.{u,v}
abbrev IU.{u}:=@List.getElem?_cons_zero.{u}
abbrev IV.{u}:=@List.getElem_append_left.{u}
abbrev IW.{u}:=@List.getElem_append_right.{u}
abbrev IX.{u}:=@List.mem_append_left.{u}
abbrev IY.{u}:=@List.mem_of_mem_drop.{u}
abbrev I0.{u}:=@List.replicate_succ'.{u}
abbrev I1.{u}:=@List.set_cons_zero.{u}
abbrev Jh:=@Nat.gcd_dvd_left
abbrev Ji:=@Nat.gcd_one_right
abbrev Jj:=@Nat.gcd_pos_of_pos_right
abbrev Jk:=@Nat.gcd_zero_right
abbrev Jl:=@Nat.le_add_right
abbrev Jm:=@Nat.le_mul_of_pos_left
abbrev Jn:=@Nat.min_eq_right
abbrev JB:=@Rat.intCast_natCast
abbrev JC:=@Rat.mkRat_add_mkRat
abbrev JD:=@Rat.mkRat_eq_div
abbrev JV:=@UInt32.lt_iff_toNat_lt
abbrev JW:=@UInt32.toNat_shiftLeft
abbrev JX:=@UInt64.toNat_mul
abbrev JY:=@UInt64.toNat_toUInt32
abbrev Q5:=@Int.mul_le_mul_of_nonneg_left
abbrev Re.{u}:=@List.drop_append_of_le_length.{u}
abbrev Rf.{u}:=@List.take_append_of_le_length.{u}
open Go.RowKit Go.Proofs
variable {a ad:Addr} {w w' w0 w1 w2:World} {R i n g j N sz k o q g' BB g1 kw ch kh C nn:Nat} {v y u z v1 x0 x1 fv sv xv tv:Value} {l m:List UInt32} {fn:Func} {vs xs sp cs cs' zs:List Value} {s ty T':TypeId} {P:Program} {A ns:List Int} {p ks:List Nat} {ts:List TypeId} {rd:Option Nat} {h:Int}
theorem H.{u} {α:Sort u} {a:α}:a=a:=rfl
abbrev aa.{u}:=@H.{u}
theorem G {p:Prop} (h:p:=by omega):p:=h
theorem am {p:Prop} (h:p:=by kernel_rfl):p:=h
theorem aF {p:Prop} (h:p:=by decide):p:=h
theorem aj {p:Prop} (h:p:=by simp):p:=h
theorem fZ {p:Prop} (h:p:=by simp only[List.length_cons,List.length_nil];omega):p:=h
theorem mQ {p:Prop} (h:p:=by simp only[List.length_append,List.length_cons,List.length_nil];omega):p:=h
theorem jZ {p:Prop} (h:p:=by exact run_build _ _ _ _ (by kernel_rfl)):p:=h
theorem dT {p:Prop} (h:p:=by simp;omega):p:=h
theorem lw {p:Prop} (h:p:=by simp[Op.operands]):p:=h
def ao (w w':World):Prop:=Below w.heap.size w w'
theorem ao.refl (w:World):ao w w:=Below.refl _ _
theorem ao.ai {a b c:World} (h:ao a b) (k:ao b c):ao a c:=Below.trans h (Below.mono k h.size)
theorem ao.alloc {a w:World} (h:ao a w) (o:Obj):ao a (w.alloc o):=Below.alloc h h.size o
theorem ao.drew {a w:World} (h:ao a w):ao a w.drew:=Below.drew h
abbrev cT:=Value→World→Prop
abbrev dO:=Tmp→cT
def Is (c:Value):cT:=λv _=>v=c
def Any:cT:=λ_ _=>True
def eG (Rl:World→World→Prop) (S:cT):Prop:=∀v w w',S v w→Rl w w'→S v w'
abbrev cN (S:cT):Prop:=eG ao S
theorem cN.is {Rl:World→World→Prop} (c:Value):eG Rl (Is c):=λ_ _ _ h _=>h
theorem cN.any {Rl:World→World→Prop}:eG Rl Any:=λ_ _ _ h _=>h
abbrev ee:=World→Prop
def ig (Z:ee):Prop:=∀w w',Z w→ao w w'→Z w'
theorem ig.dg:ig (λ_=>True):=λ_ _ _ _=>trivial
def di (F:dO) (d:Option Tmp) (S:cT):dO:=
 match d with
 |none=>F
 |some d=>λt=>match Nat.beq t d with|true=>S|false=>F t
theorem zd (F:dO) (d:Tmp) (S:cT):di F (some d) S d=S:=by simp[di]
theorem vf (F:dO) {d t:Tmp} (S:cT) (h:t≠d):di F (some d) S t=F t:=by
 have:Nat.beq t d=false:=by
  cases a:Nat.beq t d
  ·rfl
  ·exact absurd (Nat.eq_of_beq_eq_true a) h
 simp[di,this]
theorem PD (F:dO) {d:Option Tmp} {t:Tmp} (S:cT) (h:∀e,d=some e→e≠t):di F d S t=F t:=by
 cases d with
 |none=>rfl
 |some d=>exact vf F S (λe=>h d rfl e.symm)
theorem aau (F:dO) {x y:Option Tmp} (S R:cT) (h:∀d,x=some d→y≠some d):di (di F x S) y R=di (di F y R) x S:=by
 cases x with
 |none=>rfl
 |some d=>
  cases y with
  |none=>rfl
  |some e=>
   have f:d≠e:=λc=>h d rfl (c▸rfl)
   funext t
   by_cases a:t=e
   ·subst a
    rw[zd,vf _ _ (uj f),zd]
   ·rw[vf _ _ a]
    by_cases b:t=d
    ·subst b
     rw[zd,zd]
    ·rw[vf _ _ b,vf _ _ b,vf _ _ a]
section
variable {P:Program} {ops:Array Oper} {md:Region.Mode} {Env:World→Prop} {Rl:World→World→Prop} {mo:Bool} {Pn:List PanicEntry→World→Prop} {N:Nat}
structure ki (Env:World→Prop) (Rl:World→World→Prop):Prop where
 aL:∀w w',ao w w'→Rl w w'
 keep:∀w w',Env w→Rl w w'→Env w'
theorem ki.plain (w:World):ki (ao w) ao:=⟨λ_ _ h=>h,λ_ _ h k=>h.ai k⟩
theorem eG.aL {S:cT} (h:eG Rl S) (a:ki Env Rl):cN S:=λv w w' hs b=>h v w w' hs (a.aL w w' b)
def qf (ops:Array Oper) (o:Oper) (F:dO) (a:Act) (w:World):Prop:=∀t∈o.looksAt ops,F t (a.tmps.getD t undef) w
structure lL (N:Nat) (D:List Deferred) (F:dO) (a:Act) (w:World):Prop where
 size:a.tmps.size=N
 defers:a.defers=D
 at_:∀t,F t (a.tmps.getD t undef) w
def CF (P:Program) (w:World) (S:cT):Result Next→Prop
 |.ok (.value v) w'=>ao w w'∧S v w'
 |.ok .skip w'=>ao w w'∧S undef w'
 |.ok (.enter f args) w'=>ao w w'∧Calls P f args w' (λe w''=>∃v,e=.returned v∧ao w w''∧S v w'')
 |_=>False
def Gv (P:Program) (Rl:World→World→Prop) (Pn:List PanicEntry→World→Prop) (w:World) (S:cT) (Z:ee):Result Next→Prop
 |.ok (.enter f args) w'=>Calls P f args w' (λe w''=>(∃v,e=.returned v∧Rl w w''∧S v w''∧Z w'')∨∃c,e=.panicked c∧Pn c w'')
 |.ok .skip w'=>Rl w w'∧S undef w'∧Z w'
 |.ok (.value v) w'=>Rl w w'∧S v w'∧Z w'
 |_=>False
def uH (o:Oper):Bool:=match o.op with|.call c=>(match c.callee with|.builtin .append=>true|.builtin _=>false|_=>true)|.store .. =>true|_=>false
structure RP (P:Program) (ops:Array Oper) (Env:World→Prop) (Rl:World→World→Prop) (N:Nat) (F:dO) (o:Oper) (S:cT):Prop where
 a3:eG Rl S
 dst:∀d,o.dst=some d→d<N
 yes:∀a w,a.tmps.size=N→Env w→qf ops o F a w→Region.wanted o (yielded ops a.tmps)=true→CF P w S ((execOp a.eval o).run P w)
 no:∀a w,a.tmps.size=N→Env w→qf ops o F a w→Region.wanted o (yielded ops a.tmps)=false→S undef w
structure RO (P:Program) (ops:Array Oper) (Env:World→Prop) (Rl:World→World→Prop) (Pn:List PanicEntry→World→Prop) (N:Nat) (F:dO) (Z:ee) (o:Oper) (S:cT) (Z':ee):Prop where
 call:uH o=true
 a3:eG Rl S
 dz:ig Z'
 dst:∀d,o.dst=some d→d<N
 yes:∀a w,a.tmps.size=N→Env w→qf ops o F a w→Z w→Region.wanted o (yielded ops a.tmps)=true→Gv P Rl Pn w S Z' ((execOp a.eval o).run P w)
 no:∀a w,a.tmps.size=N→Env w→qf ops o F a w→Z w→Region.wanted o (yielded ops a.tmps)=false→S undef w∧Z' w
def GStep (P:Program) (ops:Array Oper) (Env:World→Prop) (Rl:World→World→Prop) (mo:Bool) (Pn:List PanicEntry→World→Prop) (N:Nat) (F:dO) (Z:ee) (o:Oper) (S:cT) (Z':ee):Prop:=
 (RP P ops Env Rl N F o S∧Z'=Z)∨(mo=true∧RO P ops Env Rl Pn N F Z o S Z')
def cj (P:Program) (ops:Array Oper) (Env:World→Prop) (Rl:World→World→Prop) (mo:Bool) (Pn:List PanicEntry→World→Prop) (N:Nat):List Oper→dO→ee→(dO→ee→Prop)→Prop
 |[],F,Z,K=>K F Z
 |o::rest,F,Z,K=>(∀t,eG Rl (F t))→ig Z→∃S Z',GStep P ops Env Rl mo Pn N F Z o S Z'∧cj P ops Env Rl mo Pn N rest (di F o.dst S) Z' K
theorem tm:∀(l:List Oper) (F:dO) (Z:ee) {K a:dO→ee→Prop},(∀F Z,K F Z→a F Z)→cj P ops Env Rl mo Pn N l F Z K→cj P ops Env Rl mo Pn N l F Z a
 |[],F,Z,_,_,hK,h=>hK _ _ h
 |o::l,F,Z,_,_,hK,h=>λd e=>by
  obtain⟨S,Z',b,c⟩:=h d e
  exact⟨S,Z',b,tm l _ _ hK c⟩
theorem u6 {o:Oper} {F:dO} {d:Option Tmp} {S:cT} (h:∀e,d=some e→e∉o.looksAt ops) (a:Act) (w:World):qf ops o (di F d S) a w↔qf ops o F a w:=by
 unfold qf
 constructor
 ·intro hs t b
  have:=hs t b
  rwa [PD F S (λe c=>by rintro rfl;exact h _ c b)] at this
 ·intro hs t b
  rw[PD F S (λe c=>by rintro rfl;exact h _ c b)]
  exact hs t b
theorem GStep.e3 {o:Oper} {F:dO} {Z Z':ee} {d:Option Tmp} {S R:cT} (h:∀e,d=some e→e∉o.looksAt ops) (hs:GStep P ops Env Rl mo Pn N (di F d S) Z o R Z'):GStep P ops Env Rl mo Pn N F Z o R Z':=by
 rcases hs with⟨hs,g⟩|⟨hm,hs⟩
 ·exact .inl ⟨⟨hs.a3,hs.dst,λa w b c f=>hs.yes a w b c ((u6 h a w).2 f),λa w b c f=>hs.no a w b c ((u6 h a w).2 f)⟩,g⟩
 ·exact .inr ⟨hm,⟨hs.call,hs.a3,hs.dz,hs.dst,λa w b c f=>hs.yes a w b c ((u6 h a w).2 f),λa w b c f=>hs.no a w b c ((u6 h a w).2 f)⟩⟩
theorem GStep.eb {o:Oper} {F:dO} {Z Z':ee} {d:Option Tmp} {S R:cT} (h:∀e,d=some e→e∉o.looksAt ops) (hs:GStep P ops Env Rl mo Pn N F Z o R Z'):GStep P ops Env Rl mo Pn N (di F d S) Z o R Z':=by
 rcases hs with⟨hs,g⟩|⟨hm,hs⟩
 ·exact .inl ⟨⟨hs.a3,hs.dst,λa w b c f=>hs.yes a w b c ((u6 h a w).1 f),λa w b c f=>hs.no a w b c ((u6 h a w).1 f)⟩,g⟩
 ·exact .inr ⟨hm,⟨hs.call,hs.a3,hs.dz,hs.dst,λa w b c f=>hs.yes a w b c ((u6 h a w).1 f),λa w b c f=>hs.no a w b c ((u6 h a w).1 f)⟩⟩
theorem GStep.a3 {o:Oper} {F:dO} {Z Z':ee} {S:cT} (h:GStep P ops Env Rl mo Pn N F Z o S Z'):eG Rl S:=h.elim (·.1.a3) (·.2.a3)
theorem GStep.dz {o:Oper} {F:dO} {Z Z':ee} {S:cT} (h:GStep P ops Env Rl mo Pn N F Z o S Z') (a:ig Z):ig Z':=h.elim (λh=>h.2▸a) (·.2.dz)
theorem GStep.swap {a b:Oper} {F:dO} {Z Z' d:ee} {S R:cT} (hi:GStep P ops Env Rl mo Pn N F Z a S Z') (c:GStep P ops Env Rl mo Pn N (di F a.dst S) Z' b R d)
 (j:∀e,a.dst=some e→e∉b.looksAt ops) (i:∀e,b.dst=some e→e∉a.looksAt ops) (l:¬(mo=true∧uH a=true∧uH b=true)):
 ∃h,GStep P ops Env Rl mo Pn N F Z b R h∧GStep P ops Env Rl mo Pn N (di F b.dst R) h a S d:=by
 have c:=c.e3 j
 have k:=hi
 rcases k with⟨f,rfl⟩|⟨hm,f⟩
 ·refine⟨d,c,GStep.eb i (.inl ⟨f,H⟩)⟩
 ·rcases c with⟨g,rfl⟩|⟨_,g⟩
  ·exact⟨Z,.inl ⟨g,H⟩,GStep.eb i hi⟩
  ·exact absurd ⟨hm,f.call,g.call⟩ l
def pj (P:Program) (md:Region.Mode) (ops:Array Oper) (Env:World→Prop) (Rl:World→World→Prop) (mo:Bool) (Pn:List PanicEntry→World→Prop) (N n:Nat) (L:Array Bool→dO→ee→Prop):Nat→Array Bool→dO→ee→Prop
 |0,listed,F,Z=>L listed F Z
 |f+1,listed,F,Z=>
  Region.ready md ops listed≠[]∧∀i∈Region.ready md ops listed,i<n∧∃o S Z',ops[i]? =some o∧GStep P ops Env Rl mo Pn N F Z o S Z'∧pj P md ops Env Rl mo Pn N n L f (listed.setIfInBounds i true) (di F o.dst S) Z'
theorem lL.put {D:List Deferred} {F:dO} {a:Act} {w w':World} (hs:lL N D F a w) (f:∀t,eG Rl (F t)) (e:Rl w w') {b:Option Tmp} (g:∀d,b=some d→d<N) {S:cT} {v:Value} (i:S v w'):
 lL N D (di F b S) (a.put b v) w':=by
 cases b with
 |none=>exact⟨hs.size,hs.defers,λt=>f t _ _ _ (hs.at_ t) e⟩
 |some d=>
  refine⟨by simp[Act.put,hs.size],hs.defers,λt=>?_⟩
  have h:=g d rfl
  by_cases c:t=d
  ·subst c
   rw[zd]
   have:(a.put (some t) v).tmps.getD t undef=v:=by
    simp[Act.put,hs.size,h]
   rw[this]
   exact i
  ·rw[vf F S c]
   have:(a.put (some d) v).tmps.getD t undef=a.tmps.getD t undef:=by
    simp[Act.put,It (uj c)]
   rw[this]
   exact f t _ _ _ (hs.at_ t) e
theorem DW {F:dO} (a:∀t,eG Rl (F t)) {d:Option Tmp} {S:cT} (b:eG Rl S):∀t,eG Rl (di F d S t):=by
 intro t
 cases d with
 |none=>exact a t
 |some d=>
  by_cases h:t=d
  ·subst h;rw[zd];exact b
  ·rw[vf F S h];exact a t
def ny (l0:List (Nat×Value)) (a:Act):Prop:=∀p∈l0,a.tmps.getD p.1 undef=p.2
theorem ny.put {l0:List (Nat×Value)} {a:Act} (h:ny l0 a) {b:Option Tmp} (e:∀d,b=some d→∀p∈l0,p.1≠d) (v:Value):ny l0 (a.put b v):=λp c=>by
 cases b with
 |none=>exact h p c
 |some d=>
  have:(a.put (some d) v).tmps.getD p.1 undef=a.tmps.getD p.1 undef:=by
   simp[Act.put,It (uj (e d rfl p c))]
  rw[this]
  exact h p c
theorem aaN {l0:List (Nat×Value)} {D:List Deferred} {o:Oper} {F:dO} {Z Z':ee} {S:cT} {a:Act} {K:Act→World→Prop} {Q:Exit→Act→World→Prop} (j:ki Env Rl) (J:∀c a w,a.tmps.size=N→a.defers=D→ny l0 a→Pn c w→Q (.panic c) a w) (hi:ops[i]? =some o) (hs:GStep P ops Env Rl mo Pn N F Z o S Z')
 (m:∀t,eG Rl (F t)) (C:ig Z) (k:Env w) (g:lL N D F a w) (l:ny l0 a) (q:∀d,o.dst=some d→∀p∈l0,p.1≠d) (y:Z w) (h:∀A w',Env w'→lL N D (di F o.dst S) A w'→ny l0 A→Z' w'→K A w'):wpOp P ops Q i K a w:=by
 have H:∀w,Rl w w:=λw=>j.aL w w (ao.refl w)
 unfold wpOp
 simp only[hi]
 have z:qf ops o F a w:=λt _=>g.at_ t
 split
 ·rename_i s
  refine .inl ?_
  rcases hs with⟨hs,rfl⟩|⟨_,hs⟩
  ·have b:=hs.yes a w g.size k z s
   unfold Oper.wp
   generalize (execOp a.eval o).run P w=r at b
   cases r with
   |ok n w'=>
    cases n<;>simp only[CF] at b<;>simp only[Oper.upon]
    case value v=>exact h _ _ (j.keep _ _ k (j.aL _ _ b.1)) (g.put m (j.aL _ _ b.1) hs.dst b.2) (l.put q _) (C _ _ y b.1)
    case skip=>exact h _ _ (j.keep _ _ k (j.aL _ _ b.1)) (g.put m (j.aL _ _ b.1) hs.dst b.2) (l.put q _) (C _ _ y b.1)
    case enter f args=>
     refine b.2.mono ?_
     rintro e O ⟨v,rfl,u,G⟩
     exact h _ _ (j.keep _ _ k (j.aL _ _ u)) (g.put m (j.aL _ _ u) hs.dst G) (l.put q _) (C _ _ y u)
   |halt x w'=>simp only[CF] at b
  ·have b:=hs.yes a w g.size k z y s
   unfold Oper.wp
   generalize (execOp a.eval o).run P w=r at b
   cases r with
   |ok n w'=>
    cases n<;>simp only[Gv] at b<;>simp only[Oper.upon]
    case enter f args=>
     refine b.mono ?_
     rintro e O (⟨v,rfl,u,G,M⟩|⟨c,rfl,L⟩)
     ·exact h _ _ (j.keep _ _ k u) (g.put m u hs.dst G) (l.put q _) M
     ·exact J _ _ _ g.size g.defers l L
    case skip=>exact h _ _ (j.keep _ _ k b.1) (g.put m b.1 hs.dst b.2.1) (l.put q _) b.2.2
    case value v=>exact h _ _ (j.keep _ _ k b.1) (g.put m b.1 hs.dst b.2.1) (l.put q _) b.2.2
   |halt x w'=>simp only[Gv] at b
 ·rename_i s
  have s:Region.wanted o (yielded ops a.tmps)=false:=by simpa using s
  rcases hs with⟨hs,rfl⟩|⟨_,hs⟩
  ·exact h _ _ k (g.put m (H _) hs.dst (hs.no a w g.size k z s)) (l.put q _) y
  ·have b:=hs.no a w g.size k z y s
   exact h _ _ k (g.put m (H _) hs.dst b.1) (l.put q _) b.2
theorem Br {l0:List (Nat×Value)} {D:List Deferred} {n g:Nat} {L:Array Bool→dO→ee→Prop} {Q':Exit→Act→World→Prop} (e:ki Env Rl) (k:∀c a w,a.tmps.size=N→a.defers=D→ny l0 a→Pn c w→Q' (.panic c) a w)
 (l:∀i o,i<n→ops[i]? =some o→∀d,o.dst=some d→∀p∈l0,p.1≠d)
 (j:∀listed F Z,L listed F Z→(∀t,eG Rl (F t))→ig Z→∀a w,Env w→lL N D F a w→Z w→wpAny P md ops Q' g listed a w):
 ∀(f:Nat) (listed:Array Bool) (F:dO) (Z:ee),pj P md ops Env Rl mo Pn N n L f listed F Z→(∀t,eG Rl (F t))→ig Z→∀a w,Env w→lL N D F a w→ny l0 a→Z w→wpAny P md ops Q' (f+g) listed a w
 |0,listed,F,Z,h,hF,hZ,a,w,he,hs,_,hz=>by rw[gB];exact j _ _ _ h hF hZ a w he hs hz
 |f+1,listed,F,Z,h,hF,hZ,a,w,he,hs,hk,hz=>by
  rw[show f+1+g=(f+g)+1 by omega]
  refine⟨λr=>absurd r h.1,λi hi=>?_⟩
  obtain⟨u,o,S,Z',m,b,x⟩:=h.2 i hi
  exact aaN e k m b hF hZ he hs hk (l i o u m) hz (λq w' s y v z=>Br e k l j f _ _ _ x (DW hF b.a3) (b.dz hZ) q w' s y v z)
def xp (md:Region.Mode) (ops:Array Oper):Nat→Nat→Nat→Bool
 |0,_,_=>false
 |f+1,j,i=>Region.waitsFor md ops j i||(List.range ops.size).any λk=>Region.waitsFor md ops j k&&xp md ops f k i
def FG (ops:Array Oper) (i:Nat):Bool:=match ops[i]? with|some o=>uH o|none=>false
def nE (md:Region.Mode) (ops:Array Oper):Bool:=(List.range ops.size).all λj=> !FG ops j||(List.range j).all λi=> !FG ops i||xp md ops ops.size j i
theorem DH {n:Nat} {listed:Array Bool} (m:HeadInv md ops n listed) {i:Nat}:∀(f j:Nat),xp md ops f j i=true→(∀a,ops[j]? =some a→∀e∈a.after,Region.binds md e=true→listed.getD e.on false=true)→listed.getD i false=true
 |0,_,h,_=>by simp[xp] at h
 |f+1,j,h,hj=>by
  simp only[xp,xG,zp,ex] at h
  rcases h with h|⟨k,_,o,p⟩
  ·obtain⟨a,d,e,c,b,g⟩:=Region.waitsFor_spec h
   rw[←g]
   exact hj a d e c b
  ·obtain⟨a,d,e,c,b,g⟩:=Region.waitsFor_spec o
   have l:=hj a d e c b
   rw[g] at l
   exact DH m f k p λok q e c b=>m.closed k ok q l e c b
theorem Vo {listed:Array Bool} (s:nE md ops=true) (z:HeadInv md ops n listed) {a b:Oper} (hi:i∈Region.ready md ops listed) (k:j∈Region.ready md ops listed) (l:ops[i]? =some a) (c:ops[j]? =some b) (C:j≠i):¬(uH a=true∧uH b=true):=by
 rintro⟨d,f⟩
 have key:∀{i j:Nat} {a b:Oper},i∈Region.ready md ops listed→j∈Region.ready md ops listed→ops[i]? =some a→ops[j]? =some b→uH a=true→uH b=true→i<j→False:=by
  intro i j a b hi k l c d f v
  obtain⟨y,_⟩:=mem_ready.1 hi
  obtain⟨_,A,x,q⟩:=mem_ready.1 k
  have u:j<ops.size:=(jB.1 c).1
  have m:=kR.1 s j (jD.2 u)
  simp only[FG,c,f,Bool.not_true,Bool.false_or,kR,jD,xG,Bool.not_eq_true'] at m
  have g:=m i v
  simp only[l,d] at g
  have g:=g.resolve_left aj
  have p:=DH z _ _ g λo w e t r=>by
   have:o=A:=cC (w.symm.ai x)
   subst this
   exact q e t r
  rw[getD_both y] at p
  cases p
 rcases jn i j with h|h
 ·exact key hi k l c d f h
 ·exact key k hi c l f d G
theorem Ig {l:Oper} {S:cT} {L:Array Bool→dO→ee→Prop} (hi:ops[i]? =some l) (G:mo=true→nE md ops=true) (af:i<n)
 (w:∀listed,HeadInv md ops n listed→listed.getD i true=false→∀t,n≤t→t∉Region.ready md ops listed)
 (J:∀listed F Z,L listed F Z→∀j∈Region.ready md ops listed,n≤j):
 ∀(f:Nat) (listed:Array Bool) (F:dO) (Z Z':ee),HeadInv md ops n listed→
  (∀j d,ops[j]? =some d→j≠i→listed.getD j true=false→(∀e∈d.after,Region.binds md e=true→e.on≠i)→l.apart ops d=true)→
  i∈Region.ready md ops listed→GStep P ops Env Rl mo Pn N F Z l S Z'→
  pj P md ops Env Rl mo Pn N n L f (listed.setIfInBounds i true) (di F l.dst S) Z'→pj P md ops Env Rl mo Pn N n L (f+1) listed F Z:=by
 intro f
 induction f with
 |zero=>
  intro listed F Z Z' m _ b r H
  have g:=(mem_ready.1 b).1
  refine⟨λh=>(by rw[h] at b;cases b),λj c=>?_⟩
  have p:j<n:=by
   rcases jn j n with h|h
   ·exact h
   ·exact absurd c (w listed m g j h)
  refine⟨p,?_⟩
  by_cases a:j=i
  ·subst a;exact⟨l,S,Z',hi,r,H⟩
  ·have:=J _ _ _ H j (ready_mono c a)
   omega
 |succ f ih=>
  intro listed F Z Z' m s b r H
  have g:=(mem_ready.1 b).1
  refine⟨λh=>(by rw[h] at b;cases b),λj c=>?_⟩
  have p:j<n:=by
   rcases jn j n with h|h
   ·exact h
   ·exact absurd c (w listed m g j h)
  refine⟨p,?_⟩
  by_cases a:j=i
  ·subst a;exact⟨l,S,Z',hi,r,H⟩
  ·obtain⟨_,d,R,ae,q,ab,X⟩:=H.2 j (ready_mono c a)
   obtain⟨v,ad,W,A⟩:=mem_ready.1 c
   obtain rfl:d=ad:=cC (q.symm.ai W)
   have V:∀e∈d.after,Region.binds md e=true→e.on≠i:=λe K C M=>by
    have o:=A e K C
    rw[M,getD_both g] at o
    cases o
   obtain⟨o,y,z⟩:=Oper.apart_spec (s j d q a v V)
   have O:∀k ok,ops[k]? =some ok→k≠i→(listed.setIfInBounds j true).getD k true=false→
    (∀e∈ok.after,Region.binds md e=true→e.on≠i)→l.apart ops ok=true:=λk ok Q T g U=>by
    refine s k ok Q T ?_ U
    by_cases u:j=k
    ·subst u;exact v
    ·rw[getD_set_ne true u] at g;exact g
   obtain⟨x,aa,Y⟩:=GStep.swap r ab o z λ⟨hm,D⟩=>Vo (G hm) m b c hi q a D
   refine⟨d,R,x,q,aa,ih (listed.setIfInBounds j true) _ _ _ (m.set c p) O (ready_mono b (uj a)) Y ?_⟩
   rw[Array.setIfInBounds_comm _ _ a,←aau F S R y]
   exact X
theorem aaJ {a:Oper} {S:cT} {L:Array Bool→dO→ee→Prop} (hi:ops[i]? =some a) (g:mo=true→nE md ops=true)
 (hs:Region.sinkB md ops n=true) (d:Region.chainB md ops n=true) (k:n<ops.size) (c:i<n)
 (h:∀listed F Z,L listed F Z→∀j∈Region.ready md ops listed,n≤j):
 ∀(f:Nat) (listed:Array Bool) (F:dO) (Z Z':ee),HeadInv md ops n listed→
  (∀j b,ops[j]? =some b→j≠i→listed.getD j true=false→(∀e∈b.after,Region.binds md e=true→e.on≠i)→a.apart ops b=true)→
  i∈Region.ready md ops listed→GStep P ops Env Rl mo Pn N F Z a S Z'→
  pj P md ops Env Rl mo Pn N n L f (listed.setIfInBounds i true) (di F a.dst S) Z'→pj P md ops Env Rl mo Pn N n L (f+1) listed F Z:=
 Ig hi g c (λ_ o m t l=>tail_waits hs d k o _ i rfl c m t l) h
theorem Ih {n g:Nat} {Lq:dO→ee→Prop} (e:mo=true→nE md ops=true) (hs:Region.sinkB md ops n=true) (d:Region.chainB md ops n=true) (i:n<ops.size):
 ∀(l:List Oper) (k:Nat) (listed:Array Bool) (F:dO) (Z:ee),(∀j,j<l.length→l[j]? =ops[k+j]?)→k+l.length=n→HeadInv md ops n listed→
 Region.lexHead md ops g l.length k listed=true→(∀t,eG Rl (F t))→ig Z→cj P ops Env Rl mo Pn N l F Z Lq→
 pj P md ops Env Rl mo Pn N n (λp b Z'=>Region.seqB md ops g n p=true∧Lq b Z') l.length listed F Z
 |[],k,listed,F,Z,_,hk,_,hB,_,_,h=>by
  have:k=n:=by simpa using hk
  subst this
  exact⟨by simpa [Region.lexHead] using hB,h⟩
 |o::l,k,listed,F,Z,hl,hk,inv,hB,hF,hZ,h=>by
  have c:ops[k]? =some o:=by simpa using(hl 0 aj).symm
  simp only[cw,Region.lexHead,ex] at hB
  obtain⟨⟨u,s⟩,q⟩:=hB
  have f:k<n:=by simp only[cw] at hk;omega
  have m:k∈Region.ready md ops listed:=by simpa using u
  obtain⟨S,Z',a,v⟩:=h hF hZ
  exact aaJ c e hs d i f (λp b Z' r=>seqB_ready r.1) l.length listed F Z Z' inv (Region.free_spec c s) m a
   (Ih e hs d i l (k+1) _ _ _ (λj w=>by have:=hl (j+1) dT;simpa [pm,rP 1 j] using this) (by simp only[cw] at hk;omega) (inv.set m f) q (DW hF a.a3) (a.dz hZ) v)
theorem aaO {l0:List (Nat×Value)} {id:Nat} {Q:Exit→Act→World→Prop} {a:Act} {D:List Deferred} {F:dO} {Z:ee} {l:List Oper} (n N:Nat) (k:ki Env Rl) (R:ny l0 a) (L:∀o∈l.take n,∀d,o.dst=some d→∀p∈l0,p.1≠d) (G:∀c a w,a.tmps.size=N→a.defers=D→ny l0 a→Pn c w→Q (.panic c) a w) (K:mo=true→nE .any l.toArray=true) (hm:P.follows .mixedOrders=true) (u:Region.lexTailB .any l.toArray n=true)
 (m:∀t,eG Rl (F t)) (e:ig Z) (s:Z w) (q:Env w) (r:lL N D F a {w with drawn:=w.drawn+1})
 (h:cj P l.toArray Env Rl mo Pn N (l.take n) F Z (λF Z=>∀b w',Env w'→lL N D F b w'→Z w'→wpList P l.toArray Q (l.drop n) b w')):(Code.region id l.toArray true).wp P Q a w:=by
 have y:ao w {w with drawn:=w.drawn+1}:=⟨rfl,rfl,rfl,bV _,λ_ _=>rfl⟩
 simp only[Region.lexTailB,ex,gI] at u
 obtain⟨⟨⟨⟨_,C⟩,hs⟩,J⟩,S⟩:=u
 have W:n<l.length:=by simpa using C
 have f:(l.take n).length=n:=dT
 have x:(l.drop n).length=l.toArray.size-n:=aj
 have V:HeadInv .any l.toArray n (Array.replicate l.toArray.size false):=
  ⟨aj,λj X _ A=>(by rw[getD_replicate_false] at A;cases A),λt _ U=>getD_in (by simpa using U) (getD_replicate_false _ _)⟩
 have H:=Ih (md:=.any) (g:=l.toArray.size-n) K hs J C (l.take n) 0 _ _ _ (λj z=>by
  have O:j<n:=by rw[f] at z;exact z
  simp[O]) (by simpa using f) V (by rw[f];exact S) m e h
 refine wp_region_any hm ?_
 have:=Br (D:=D) (Q':=Q) (g:=l.toArray.size-n) k G (λi o M T=>L o (tA (i:=i) (by rw[List.getElem?_take_of_lt M];simpa using T))) (λlisted F Z v m e b w' q r s=>by
  have:=wpAny_of_seq (md:=.any) (Q':=Q) (l.drop n) n listed b w' (λj=>by simp[rO]) (by rw[x];exact v.1) (v.2 b w' q r s)
  rwa [x] at this) _ _ _ _ H m e a {w with drawn:=w.drawn+1} (k.keep _ _ q (k.aL _ _ y)) r R (e _ _ s y)
 rw[f,show n+(l.toArray.size-n)=l.toArray.size by omega] at this
 exact this
abbrev rV:List PanicEntry→World→Prop:=λ_ _=>False
end
abbrev Fr:=List (Nat×Value)
def lk:Fr→Nat→Option Value
 |[],_=>none
 |(t,v)::l,s=>match Nat.beq t s with|true=>some v|false=>lk l s
def ev (l:Fr):Operand→Option Value
 |.tmp t=>lk l t
 |.const v=>some v
 |.global g=>some (.pointer (some ⟨g,0,none⟩))
 |.func f=>some (.func (.func f) #[] #[])
structure At (N:Nat) (D:List Deferred) (l:Fr) (a:Act):Prop where
 size:a.tmps.size=N
 defers:a.defers=D
 at_:∀t v,lk l t=some v→a.tmps.getD t undef=v
theorem At.ev {N:Nat} {D:List Deferred} {l:Fr} {a:Act} (h:At N D l a) {x:Operand} {v:Value} (b:ev l x=some v):a.eval x=v:=by
 cases x with
 |tmp t=>exact h.at_ t v b
 |const c=>exact cC b
 |global g=>exact cC b
 |func f=>exact cC b
theorem CW (d:Nat) (v:Value) (l:Fr):lk ((d,v)::l) d=some v:=by simp[lk]
theorem CV {d t:Nat} (v:Value) (l:Fr) (h:t≠d):lk ((d,v)::l) t=lk l t:=by
 have:Nat.beq d t=false:=by
  cases a:Nat.beq d t
  ·rfl
  ·exact absurd (Nat.eq_of_beq_eq_true a).symm h
 simp[lk,this]
theorem At.put {N:Nat} {D:List Deferred} {l:Fr} {a:Act} (h:At N D l a) {d:Nat} (e:Nat.blt d N=true) (v:Value):At N D ((d,v)::l) (a.put (some d) v):=by
 have f:d<N:=by simpa [BL] using e
 refine⟨by simp[Act.put,h.size],h.defers,λt u b=>?_⟩
 by_cases c:t=d
 ·subst c
  rw[CW] at b
  obtain rfl:=cC b
  simp[Act.put,h.size,f]
 ·rw[CV v l c] at b
  have:=h.at_ t u b
  rw[←this]
  simp[Act.put,It (uj c)]
def Sub:Fr→Fr→Prop
 |[],_=>True
 |(t,v)::l',l=>lk l t=some v∧Sub l' l
theorem M9:∀{l' l:Fr},Sub l' l→∀t v,lk l' t=some v→lk l t=some v
 |[],_,_,t,v,h=>by simp[lk] at h
 |(s,u)::l',l,hs,t,v,h=>by
  by_cases a:t=s
  ·subst a
   rw[CW] at h
   obtain rfl:=cC h
   exact hs.1
  ·rw[CV u l' a] at h
   exact M9 hs.2 t v h
theorem aP:∀{l' l:Fr},l'.map (λp=>lk l p.1)=l'.map (λp=>some p.2)→Sub l' l
 |[],_,_=>trivial
 |_::_,_,h=>⟨(List.cons.inj h).1,aP (List.cons.inj h).2⟩
theorem At.bd {D:List Deferred} {l l':Fr} {a:Act} (h:At N D l a) (hs:Sub l' l):At N D l' a:=⟨h.size,h.defers,λt v b=>h.at_ t v (M9 hs t v b)⟩
abbrev eV:=Exit→Act→World→Prop
section
variable {P:Program} {ops:Array Oper} {Q:eV} {N:Nat} {D:List Deferred}
def bK (P:Program) (ops:Array Oper) (Q:eV) (N:Nat) (D:List Deferred) (l:Fr) (w:World) (os:List Oper):Prop:=∀a,At N D l a→wpList P ops Q os a w
def dS (P:Program) (Q:eV) (N:Nat) (D:List Deferred) (l:Fr) (w:World) (c:Code):Prop:=∀a,At N D l a→c.wp P Q a w
def ie (Q:eV) (N:Nat) (D:List Deferred) (l:Fr) (w:World):Prop:=∀a,At N D l a→Q .normal a w
def gZ (Q:eV) (N:Nat) (D:List Deferred) (l:Fr) (w:World) (e:Exit):Prop:=∀a,At N D l a→Q e a w
section code
variable {l l':Fr} {w:World}
theorem dS.bd {c:Code} (hs:Sub l' l) (h:dS P Q N D l' w c):dS P Q N D l w c:=λa b=>h a (b.bd hs)
theorem ah {x y:Code} (h:dS P (Exit.then (y.wp P Q) Q) N D l w x):dS P Q N D l w (.seq x y):=λa b=>wp_seq (h a b)
theorem aH (h:ie Q N D l w):dS P Q N D l w .skip:=λa b=>wp_skip (h a b)
theorem al {y:Code} {Q':eV} (h:dS P Q N D l w y):ie (Exit.then (y.wp P Q) Q') N D l w:=λa b=>h a b
theorem bE {id:Nat} (h:ie Q N D l w):ie (Exit.inBlock id Q) N D l w:=λa b=>h a b
theorem aR {id:Nat} {c:Code} (h:dS P (Exit.inBlock id Q) N D l w c):dS P Q N D l w (.block id c):=λa b=>wp_block (h a b)
theorem ce {id:Nat} (h:gZ Q N D l w (.exit id)):dS P Q N D l w (.exit id):=λa b=>wp_exit (h a b)
theorem aU {K:Act→World→Prop} {id:Nat} (h:gZ Q N D l w (.exit id)):gZ (Exit.then K Q) N D l w (.exit id):=λa b=>h a b
theorem cg {id:Nat} (h:ie Q N D l w):gZ (Exit.inBlock id Q) N D l w (.exit id):=λa b=>by
 show(if id=id then Q .normal a w else Q (.exit id) a w)
 rw[if_pos rfl]
 exact h a b
theorem Il {id:Nat} (c:Nat.beq i id=false) (h:gZ Q N D l w (.exit i)):gZ (Exit.inBlock id Q) N D l w (.exit i):=λa b=>by
 show(if i=id then Q .normal a w else Q (.exit i) a w)
 rw[if_neg (λe=>by subst e;simp at c)]
 exact h a b
theorem aA (h:gZ Q N D l w .ret):dS P Q N D l w .ret:=λa b=>wp_ret (h a b)
theorem aI {K:Act→World→Prop} (h:gZ Q N D l w .ret):gZ (Exit.then K Q) N D l w .ret:=λa b=>h a b
theorem bD {id:Nat} (h:gZ Q N D l w .ret):gZ (Exit.inBlock id Q) N D l w .ret:=λa b=>h a b
theorem NY {R:Ending→World→Prop} (c:fn.results= #[]) (h:R (.returned (.tuple #[])) w):gZ (bodyPost P fn R) N [] l w .ret:=λa b=>
 ⟨b.defers,_,by simp[results,c],h⟩
theorem YA {R:Ending→World→Prop} {t:Tmp} (c:fn.results= #[.tmp t]) (d:lk l t=some v) (h:R (.returned v) w):gZ (bodyPost P fn R) N [] l w .ret:=λa b=>
 ⟨b.defers,v,by simp only[results,c];simp[←b.at_ t v d],h⟩
theorem aM {R:Ending→World→Prop} {t:Tmp} (a:(fn.results,lk l t)=(#[.tmp t],some v)) (h:R (.returned v) w):gZ (bodyPost P fn R) N [] l w .ret:=YA (bZ a).1 (bZ a).2 h
theorem YB {R:Ending→World→Prop} {t s:Tmp} (c:fn.results= #[.tmp t,.tmp s]) (e:lk l t=some v) (d:lk l s=some u) (h:R (.returned (.tuple #[v,u])) w):gZ (bodyPost P fn R) N [] l w .ret:=λa b=>
 ⟨b.defers,.tuple #[v,u],by simp only[results,c];simp[←b.at_ t v e,←b.at_ s u d],h⟩
theorem dt {R:Ending→World→Prop} {t s:Tmp} (a:(fn.results,lk l t,lk l s)=(#[.tmp t,.tmp s],some v,some u)) (h:R (.returned (.tuple #[v,u])) w):gZ (bodyPost P fn R) N [] l w .ret:=YB (bZ a).1 (bZ (bZ a).2).1 (bZ (bZ a).2).2 h
theorem YC {R:Ending→World→Prop} {t s r:Tmp} (c:fn.results= #[.tmp t,.tmp s,.tmp r]) (e:lk l t=some v) (d:lk l s=some u) (f:lk l r=some z) (h:R (.returned (.tuple #[v,u,z])) w):gZ (bodyPost P fn R) N [] l w .ret:=λa b=>
 ⟨b.defers,.tuple #[v,u,z],by simp only[results,c];simp[←b.at_ t v e,←b.at_ s u d,←b.at_ r z f],h⟩
theorem sW {R:Ending→World→Prop} {t s r:Tmp} (a:(fn.results,lk l t,lk l s,lk l r)=(#[.tmp t,.tmp s,.tmp r],some v,some u,some z)) (h:R (.returned (.tuple #[v,u,z])) w):gZ (bodyPost P fn R) N [] l w .ret:=YC (bZ a).1 (bZ (bZ a).2).1 (bZ (bZ (bZ a).2).2).1 (bZ (bZ (bZ a).2).2).2 h
theorem pL {R:Ending→World→Prop} (c:fn.results= #[]) (h:R (.returned (.tuple #[])) w):ie (bodyPost P fn R) N [] l w:=λa b=>
 ⟨b.defers,_,by simp[results,c],h⟩
theorem lQ {c:Operand} {x y:Code} {b:Bool} (e:ev l c=some (.bool b)) (g:b=true→dS P Q N D l w x) (f:b=false→dS P Q N D l w y):dS P Q N D l w (.cond c x y):=λa d=>
 wp_cond_split (d.ev e) (λh=>g h a d) (λh=>f h a d)
theorem bc {c:Operand} {x y:Code} {p:Prop} {a:Decidable p} (b:ev l c=some (.bool (@decide p a))) (e:p→dS P Q N D l w x) (d:¬p→dS P Q N D l w y):dS P Q N D l w (.cond c x y):=
 lQ b (λh=>e (ip h)) (λh=>d (G9 h))
theorem bT {c:Operand} {x y:Code} (a:ev l c=some (.bool true)) (b:dS P Q N D l w x):dS P Q N D l w (.cond c x y):=lQ a (λ_=>b) (λh=>by cases h)
theorem be {c:Operand} {x y:Code} (a:ev l c=some (.bool false)) (b:dS P Q N D l w y):dS P Q N D l w (.cond c x y):=lQ a (λh=>by cases h) (λ_=>b)
theorem iS {c:Code} {α:Type} (fr:α→Fr) (H:α→World→Prop) (h:dS P (Exit.then (λa w'=>∃x,At N D (fr x) a∧H x w') Q) N D l w c) (k:∀x w',H x w'→ie Q N D (fr x) w'):dS P Q N D l w c:=λa g=>
 wp_mono (h a g) λe d w' b=>by
  cases e with
  |normal=>
   obtain⟨x,i,f⟩:=b
   exact k x w' f d i
  |_=>exact b
theorem eu {α:Type} {fr:α→Fr} {H:α→World→Prop} (x:α) (hs:Sub (fr x) l) (b:H x w):ie (Exit.then (λa w'=>∃x,At N D (fr x) a∧H x w') Q) N D l w:=λ_ c=>⟨x,c.bd hs,b⟩
theorem eg {c:Code} {α:Type} (fr:α→Fr) (H:α→World→Prop) (i:α→Nat) (x0:α) (hs:Sub (fr x0) l) (o:H x0 w)
 (round:∀x w',H x w'→dS P (Exit.then (λa C=>∃y,At N D (fr y) a∧H y C∧i y<i x) Q) N D (fr x) w' c):dS P Q N D l w (.loop c):=λa r=>by
 intro b k cs
 have m:∀(n:Nat) (x:α) (a:Act) (w:World),i x<n→At N D (fr x) a→H x w→
  ∃e h w',Q e h w'∧Arrives P (lone (b.at a (.code c::.inLoop c::k)) cs w) b k cs e h w':=by
  intro n
  induction n with
  |zero=>intro x a w u;omega
  |succ n A=>
   intro x a w u t p
   obtain⟨e,g,w1,f,d⟩:=round x w p a t b (.inLoop c::k) cs
   cases e with
   |normal=>
    obtain⟨y,z,q,hm⟩:=f
    obtain⟨j,a2,w2,v,s⟩:=A y g w1 G z q
    exact⟨j,a2,w2,v,.of_steps (Steps.trans d (.one step_inLoop)) s⟩
   |exit id=>exact⟨_,g,w1,f,.pass (x:=.inLoop c) rfl (λ_ _=>.inl aj) d⟩
   |goto l=>exact⟨_,g,w1,f,.pass (x:=.inLoop c) rfl (λ_ _=>.inl aj) d⟩
   |ret=>exact⟨_,g,w1,f,.pass (x:=.inLoop c) rfl (λ_ _=>.inl aj) d⟩
   |panic ch=>exact⟨_,g,w1,f,.pass (x:=.inLoop c) rfl (λ_ _=>.inl aj) d⟩
   |outgrown=>exact⟨_,g,w1,f,.pass (x:=.inLoop c) rfl (λ_ _=>.inl aj) d⟩
 obtain⟨e,h,w',f,d⟩:=m (i x0+1) x0 a w G (r.bd hs) o
 exact⟨e,h,w',f,.of_steps (.one step_loop) d⟩
theorem ew {α:Type} {fr:α→Fr} {H:α→World→Prop} {b:α→Nat} {m:Nat} (y:α) (hs:Sub (fr y) l) (c:H y w) (hm:b y<m):ie (Exit.then (λa e=>∃y,At N D (fr y) a∧H y e∧b y<m) Q) N D l w:=λ_ d=>⟨y,d.bd hs,c,hm⟩
theorem ap {id:Nat} {os:List Oper} (h:bK P os.toArray Q N D l w os):dS P Q N D l w (.region id os.toArray false):=λa b=>wp_region_lit (h a b)
theorem f (h:ie Q N D l w):bK P ops Q N D l w []:=λa b=>h a b
abbrev ax:=@f
end code
def gO:Nat→List Value→Fr
 |_,[]=>[]
 |i,v::vs=>(i,v)::gO (i+1) vs
theorem GV:∀(vs:List Value) (i t:Nat) (v:Value),lk (gO i vs) t=some v→i≤t∧vs[t-i]? =some v
 |[],_,_,_,h=>by simp[gO,lk] at h
 |u::vs,i,t,v,h=>by
  by_cases a:t=i
  ·subst a
   rw[gO,CW] at h
   exact⟨bV _,by simpa using h⟩
  ·rw[gO,CV u _ a] at h
   obtain⟨c,b⟩:=GV vs (i+1) t v h
   refine⟨G,?_⟩
   rw[show t-i=(t-(i+1))+1 by omega]
   simpa using b
theorem enter {f:FuncId} {c:Code} {R:Ending→World→Prop} (i:P.funcs[f]? =some fn) (g:fn.body=some c) (e:fn.ntmps=N) (j:Nat.ble vs.length N=true)
 (h:dS P (bodyPost P fn R) N [] (gO 0 vs) w c):Calls P f vs.toArray w R:=by
 have l:vs.length≤N:=by simpa using j
 refine calls_of_wp i g (h _ ⟨?_,H,λt v k=>?_⟩)
 ·simp[e];omega
 ·obtain⟨_,d⟩:=GV vs 0 t v k
  have a:vs[t]? =some v:=by simpa using d
  have b:t<vs.length:=by
   rcases jn t vs.length with h|h
   ·exact h
   ·rw[zt h] at a;cases a
  rw[fy b] at a
  simpa [Array.getElem?_append,b] using a
section ops
variable {l:Fr} {w w':World} {rest:List Oper} {d:Nat} {op:Op} {ty:TypeId} {pos:String} {aft:Array Edge}
def rH (l:Fr) (ρ:Operand→Value):Prop:=∀x v,ev l x=some v→ρ x=v
theorem j4 (e:Nat.blt d N=true) (f:∀ρ,rH l ρ→(execOp ρ ⟨some d,op,ty,pos,aft,none⟩).run P w=.ok (.value v) w') (k:bK P ops Q N D ((d,v)::l) w' rest):
 bK P ops Q N D l w (⟨some d,op,ty,pos,aft,none⟩::rest):=λa b=>by
 refine wpList_plain H λK c=>?_
 unfold Oper.wp
 rw[f a.eval λx v g=>b.ev g]
 exact c _ _ (k _ (b.put e v))
theorem G6 {op:Op} (d:∀ρ,rH l ρ→(execOp ρ ⟨none,op,ty,pos,aft,none⟩).run P w=.ok .skip w') (k:bK P ops Q N D l w' rest):
 bK P ops Q N D l w (⟨none,op,ty,pos,aft,none⟩::rest):=λa b=>by
 refine wpList_plain H λK c=>?_
 unfold Oper.wp
 rw[d a.eval λx v e=>b.ev e]
 exact c _ _ (k _ b)
def gv (ops:Array Oper) (l:Fr) (j:Nat):Option Value:=((ops[j]?).bind (·.dst)).bind (lk l)
theorem Qa {a:Act} (f:At N D l a) {b:Bool} (h:gv ops l j=some (.bool b)):yielded ops a.tmps j=some b:=by
 unfold gv at h
 unfold yielded
 cases d:(ops[j]?).bind (·.dst) with
 |none=>simp[d] at h
 |some t=>
  simp only[d,iJ] at h⊢
  have c:=f.at_ t _ h
  have:a.tmps[t]? =some (.bool b):=by
   cases e:a.tmps[t]? with
   |none=>
    rw[xF,e] at c
    simp[undef] at c
   |some u=>
    rw[xF,e] at c
    simpa using c
  rw[this]
theorem V {c:Option Tmp} {b:Bool} (e:gv ops l j=some (.bool b)) (k:bK P ops Q N D l w (⟨c,op,ty,pos,aft,none⟩::rest)):bK P ops Q N D l w (⟨c,op,ty,pos,aft,some (j,b)⟩::rest):=λa d=>by
 have h:=k a d
 have f:Region.wanted ⟨c,op,ty,pos,aft,none⟩ (yielded ops a.tmps)=true:=rfl
 have g:Region.wanted ⟨c,op,ty,pos,aft,some (j,b)⟩ (yielded ops a.tmps)=true:=by simp[Region.wanted,Qa d e]
 unfold wpList at h⊢
 rw[if_pos f] at h
 rw[if_pos g]
 exact h
theorem g_no {b b':Bool} (f:Nat.blt d N=true) (g:gv ops l j=some (.bool b')) (e:b'= !b) (k:bK P ops Q N D ((d,undef)::l) w rest):bK P ops Q N D l w (⟨some d,op,ty,pos,aft,some (j,b)⟩::rest):=λa c=>by
 have h:Region.wanted ⟨some d,op,ty,pos,aft,some (j,b)⟩ (yielded ops a.tmps)=false:=by
  subst e;simp[Region.wanted,Qa c g]
 unfold wpList
 rw[if_neg (by rw[h];simp)]
 exact k _ (c.put f undef)
theorem L {j:Nat} {b b':Bool} (a:(Nat.blt d N,gv ops l j,b')=(true,some (.bool b'),!b)) (k:bK P ops Q N D ((d,undef)::l) w rest):bK P ops Q N D l w (⟨some d,op,ty,pos,aft,some (j,b)⟩::rest):=g_no (bZ a).1 (bZ (bZ a).2).1 (bZ (bZ a).2).2 k
abbrev ag:=@L
theorem Wz {b:Bool} {t:Tmp} (f:Nat.blt d N=true) (h:(ops[j]?).bind (·.dst)=some t) (g:lk l t=some undef) (k:bK P ops Q N D ((d,undef)::l) w rest):bK P ops Q N D l w (⟨some d,op,ty,pos,aft,some (j,b)⟩::rest):=λa e=>by
 have c:=e.at_ t _ g
 have i:Region.wanted ⟨some d,op,ty,pos,aft,some (j,b)⟩ (yielded ops a.tmps)=false:=by
  have:yielded ops a.tmps j=none:=by
   unfold yielded
   rw[h,iJ]
   cases m:a.tmps[t]? with
   |none=>rfl
   |some u=>
    rw[xF,m] at c
    simp only[E0] at c
    subst c
    rfl
  simp[Region.wanted,this]
 unfold wpList
 rw[if_neg (by rw[i];simp)]
 exact k _ (e.put f undef)
theorem sG {b:Bool} {t:Tmp} (a:(Nat.blt d N,(ops[j]?).bind (·.dst),lk l t)=(true,some t,some undef)) (k:bK P ops Q N D ((d,undef)::l) w rest):bK P ops Q N D l w (⟨some d,op,ty,pos,aft,some (j,b)⟩::rest):=Wz (bZ a).1 (bZ (bZ a).2).1 (bZ (bZ a).2).2 k
theorem XZ {x:Operand} (b:ev l x=some v) (a:Nat.blt d N=true) (k:bK P ops Q N D ((d,v)::l) w rest):bK P ops Q N D l w (⟨some d,.move x,ty,pos,aft,none⟩::rest):=
 j4 a (λρ c=>by show Result.ok (Next.value (ρ x)) w=_;rw[c x v b]) k
theorem J {x:Operand} {v:Value} (a:(ev l x,Nat.blt d N)=(some v,true)) (k:bK P ops Q N D ((d,v)::l) w rest):bK P ops Q N D l w (⟨some d,.move x,ty,pos,aft,none⟩::rest):=XZ (bZ a).1 (bZ a).2 k
abbrev ae:=@J
theorem XN {x:Operand} (b:ev l x=some v) (a:Nat.blt d N=true) (k:bK P ops Q N D ((d,v)::l) w rest):bK P ops Q N D l w (⟨some d,.assign x,ty,pos,aft,none⟩::rest):=
 j4 a (λρ c=>by show Result.ok (Next.value (ρ x)) w=_;rw[c x v b]) k
theorem Z {x:Operand} {v:Value} (a:(ev l x,Nat.blt d N)=(some v,true)) (k:bK P ops Q N D ((d,v)::l) w rest):bK P ops Q N D l w (⟨some d,.assign x,ty,pos,aft,none⟩::rest):=XN (bZ a).1 (bZ a).2 k
abbrev af:=@Z
theorem X4 {c x y:Operand} (b:ev l c=some (.bool true)) (f:ev l x=some u) (e:Nat.blt d N=true)
 (k:bK P ops Q N D ((d,u)::l) w rest):bK P ops Q N D l w (⟨some d,.pick c x y,ty,pos,aft,none⟩::rest):=
 j4 e (λρ a=>by simp[execOp,a c _ b,asBool,a x _ f]) k
theorem bA {c x y:Operand} (a:(ev l c,ev l x,Nat.blt d N)=(some (.bool true),some u,true)) (k:bK P ops Q N D ((d,u)::l) w rest):bK P ops Q N D l w (⟨some d,.pick c x y,ty,pos,aft,none⟩::rest):=X4 (bZ a).1 (bZ (bZ a).2).1 (bZ (bZ a).2).2 k
theorem X3 {c x y:Operand} (b:ev l c=some (.bool false)) (f:ev l y=some v) (e:Nat.blt d N=true)
 (k:bK P ops Q N D ((d,v)::l) w rest):bK P ops Q N D l w (⟨some d,.pick c x y,ty,pos,aft,none⟩::rest):=
 j4 e (λρ a=>by simp[execOp,a c _ b,asBool,a y _ f]) k
theorem t {c x y:Operand} {v:Value} (a:(ev l c,ev l y,Nat.blt d N)=(some (.bool false),some v,true)) (k:bK P ops Q N D ((d,v)::l) w rest):bK P ops Q N D l w (⟨some d,.pick c x y,ty,pos,aft,none⟩::rest):=X3 (bZ a).1 (bZ (bZ a).2).1 (bZ (bZ a).2).2 k
abbrev aK:=@t
def bin (op:BinOp) (t:TypeId) (x y:Operand) (a b:Value):Sem Value:=do eqGuard op t x y a b;binOp op t a b
theorem jP {b:BinOp} {t t2:TypeId} {x y:Operand} {r:Value} (f:ev l x=some u) (g:ev l y=some v) (c:Nat.blt d N=true) (e:(bin b t x y u v).run P w=.ok r w)
 (k:bK P ops Q N D ((d,r)::l) w rest):bK P ops Q N D l w (⟨some d,.binOp b t x y t2,ty,pos,aft,none⟩::rest):=
 j4 c (λρ a=>by
  have:execOp ρ ⟨some d,.binOp b t x y t2,ty,pos,aft,none⟩=(do pure (Next.value (←bin b t x y (ρ x) (ρ y))):Sem Next):=rfl
  rw[this,a x _ f,a y _ g,Sem.run_bind,e];rfl) k
theorem U {b:BinOp} {t t2:TypeId} {x y:Operand} {u v r:Value} (a:(ev l x,ev l y,Nat.blt d N)=(some u,some v,true)) (c:(bin b t x y u v).run P w=.ok r w) (k:bK P ops Q N D ((d,r)::l) w rest):bK P ops Q N D l w (⟨some d,.binOp b t x y t2,ty,pos,aft,none⟩::rest):=jP (bZ a).1 (bZ (bZ a).2).1 (bZ (bZ a).2).2 c k
abbrev an:=@U
theorem yL {x:Operand} {r:Value} {f:Value→Sem Value} (b:∀ρ,execOp ρ ⟨some d,op,ty,pos,aft,none⟩=(do pure (Next.value (←f (ρ x))):Sem Next)) (e:ev l x=some u) (a:Nat.blt d N=true) (c:(f u).run P w=.ok r w')
 (k:bK P ops Q N D ((d,r)::l) w' rest):bK P ops Q N D l w (⟨some d,op,ty,pos,aft,none⟩::rest):=
 j4 a (λρ g=>by rw[b,g x _ e,Sem.run_bind,c];rfl) k
theorem X2 {t:TypeId} {x:Operand} {r:Value} {b:UnOp} (e:ev l x=some u) (a:Nat.blt d N=true) (c:(Op.unary b u).run P w=.ok r w)
 (k:bK P ops Q N D ((d,r)::l) w rest):bK P ops Q N D l w (⟨some d,.unOp b t x,ty,pos,aft,none⟩::rest):=yL (f:=Op.unary b) (λ_=>rfl) e a c k
theorem cP {t:TypeId} {x:Operand} {r:Value} {b:UnOp} (a:(ev l x,Nat.blt d N)=(some u,true)) (c:(Op.unary b u).run P w=.ok r w) (k:bK P ops Q N D ((d,r)::l) w rest):bK P ops Q N D l w (⟨some d,.unOp b t x,ty,pos,aft,none⟩::rest):=X2 (bZ a).1 (bZ a).2 c k
theorem XO {t:TypeId} {x:Operand} {r:Value} (c:ev l x=some u) (a:Nat.blt d N=true) (b:(convert s t u).run P w=.ok r w')
 (k:bK P ops Q N D ((d,r)::l) w' rest):bK P ops Q N D l w (⟨some d,.convert s t x,ty,pos,aft,none⟩::rest):=yL (f:=convert s t) (λ_=>rfl) c a b k
theorem cJ {t:TypeId} {x:Operand} {r:Value} (a:(ev l x,Nat.blt d N)=(some u,true)) (b:(convert s t u).run P w=.ok r w') (k:bK P ops Q N D ((d,r)::l) w' rest):bK P ops Q N D l w (⟨some d,.convert s t x,ty,pos,aft,none⟩::rest):=XO (bZ a).1 (bZ a).2 b k
theorem XT {t:TypeId} {x:Operand} {r:Value} (c:ev l x=some u) (a:Nat.blt d N=true) (b:(Instr.loadAt t u).run P w=.ok r w)
 (k:bK P ops Q N D ((d,r)::l) w rest):bK P ops Q N D l w (⟨some d,.load t x,ty,pos,aft,none⟩::rest):=yL (f:=Instr.loadAt t) (λ_=>rfl) c a b k
theorem Y {t:TypeId} {x:Operand} {u r:Value} (a:(ev l x,Nat.blt d N)=(some u,true)) (b:(Instr.loadAt t u).run P w=.ok r w) (k:bK P ops Q N D ((d,r)::l) w rest):bK P ops Q N D l w (⟨some d,.load t x,ty,pos,aft,none⟩::rest):=XT (bZ a).1 (bZ a).2 b k
abbrev au:=@Y
theorem C8 {t:TypeId} {x y:Operand} (c:ev l x=some u) (d:ev l y=some v) (b:(Instr.storeAt t u v).run P w=.ok () w')
 (k:bK P ops Q N D l w' rest):bK P ops Q N D l w (⟨none,.store t x y,ty,pos,aft,none⟩::rest):=
 G6 (λρ a=>by
  have:execOp ρ ⟨none,.store t x y,ty,pos,aft,none⟩=(do Instr.storeAt t (ρ x) (ρ y);pure Next.skip:Sem Next):=rfl
  rw[this,a x _ c,a y _ d,Sem.run_bind,b];rfl) k
theorem cZ {t:TypeId} {x y:Operand} (a:(ev l x,ev l y)=(some u,some v)) (b:(Instr.storeAt t u v).run P w=.ok () w') (k:bK P ops Q N D l w' rest):bK P ops Q N D l w (⟨none,.store t x y,ty,pos,aft,none⟩::rest):=C8 (bZ a).1 (bZ a).2 b k
theorem XR {x:Operand} {r:Value} (c:ev l x=some u) (a:Nat.blt d N=true) (b:(Instr.fieldAt s u n).run P w=.ok r w)
 (k:bK P ops Q N D ((d,r)::l) w rest):bK P ops Q N D l w (⟨some d,.fieldAddr s x n,ty,pos,aft,none⟩::rest):=yL (f:=λu=>Instr.fieldAt s u n) (λ_=>rfl) c a b k
theorem c {s:TypeId} {x:Operand} {n:Nat} {u r:Value} (a:(ev l x,Nat.blt d N)=(some u,true)) (b:(Instr.fieldAt s u n).run P w=.ok r w) (k:bK P ops Q N D ((d,r)::l) w rest):bK P ops Q N D l w (⟨some d,.fieldAddr s x n,ty,pos,aft,none⟩::rest):=XR (bZ a).1 (bZ a).2 b k
abbrev az:=@c
theorem XQ {x:Operand} {r:Value} (c:ev l x=some u) (a:Nat.blt d N=true) (b:(Instr.extract u n).run P w=.ok r w)
 (k:bK P ops Q N D ((d,r)::l) w rest):bK P ops Q N D l w (⟨some d,.extract x n,ty,pos,aft,none⟩::rest):=yL (f:=λu=>Instr.extract u n) (λ_=>rfl) c a b k
theorem aZ {x:Operand} {r:Value} (a:(ev l x,Nat.blt d N)=(some u,true)) (b:(Instr.extract u n).run P w=.ok r w) (k:bK P ops Q N D ((d,r)::l) w rest):bK P ops Q N D l w (⟨some d,.extract x n,ty,pos,aft,none⟩::rest):=XQ (bZ a).1 (bZ a).2 b k
theorem NA {t:TypeId} {x:Operand} {r:Value} (c:ev l x=some u) (a:Nat.blt d N=true) (b:(Instr.box t u).run P w=.ok r w')
 (k:bK P ops Q N D ((d,r)::l) w' rest):bK P ops Q N D l w (⟨some d,.box t x,ty,pos,aft,none⟩::rest):=yL (f:=Instr.box t) (λ_=>rfl) c a b k
theorem nL {t:TypeId} {x:Operand} {r:Value} (a:(ev l x,Nat.blt d N)=(some u,true)) (b:(Instr.box t u).run P w=.ok r w') (k:bK P ops Q N D ((d,r)::l) w' rest):bK P ops Q N D l w (⟨some d,.box t x,ty,pos,aft,none⟩::rest):=NA (bZ a).1 (bZ a).2 b k
theorem fY {t:TypeId} {r:Value} (a:Nat.blt d N=true) (b:(Instr.alloc t true (.tuple #[])).run P w=.ok r w')
 (k:bK P ops Q N D ((d,r)::l) w' rest):bK P ops Q N D l w (⟨some d,.alloc t,ty,pos,aft,none⟩::rest):=
 j4 a (λρ _=>by
  have:execOp ρ ⟨some d,.alloc t,ty,pos,aft,none⟩=(do pure (Next.value (←Instr.alloc t true (.tuple #[]))):Sem Next):=rfl
  rw[this,Sem.run_bind,b];rfl) k
theorem XS {t:TypeId} {x y:Operand} {r:Value} (e:ev l x=some u) (f:ev l y=some v) (b:Nat.blt d N=true) (c:(Instr.indexAt t u v).run P w=.ok r w)
 (k:bK P ops Q N D ((d,r)::l) w rest):bK P ops Q N D l w (⟨some d,.indexAddr t x y,ty,pos,aft,none⟩::rest):=
 j4 b (λρ a=>by
  have:execOp ρ ⟨some d,.indexAddr t x y,ty,pos,aft,none⟩=(do pure (Next.value (←Instr.indexAt t (ρ x) (ρ y))):Sem Next):=rfl
  rw[this,a x _ e,a y _ f,Sem.run_bind,c];rfl) k
theorem bF {t:TypeId} {x y:Operand} {r:Value} (a:(ev l x,ev l y,Nat.blt d N)=(some u,some v,true)) (b:(Instr.indexAt t u v).run P w=.ok r w) (k:bK P ops Q N D ((d,r)::l) w rest):bK P ops Q N D l w (⟨some d,.indexAddr t x y,ty,pos,aft,none⟩::rest):=XS (bZ a).1 (bZ (bZ a).2).1 (bZ (bZ a).2).2 b k
theorem AZ {t:TypeId} {x y:Operand} {r:Value} (e:ev l x=some u) (f:ev l y=some v) (b:Nat.blt d N=true) (c:(Instr.index t u v).run P w=.ok r w)
 (k:bK P ops Q N D ((d,r)::l) w rest):bK P ops Q N D l w (⟨some d,.index t x y,ty,pos,aft,none⟩::rest):=
 j4 b (λρ a=>by
  have:execOp ρ ⟨some d,.index t x y,ty,pos,aft,none⟩=(do pure (Next.value (←Instr.index t (ρ x) (ρ y))):Sem Next):=rfl
  rw[this,a x _ e,a y _ f,Sem.run_bind,c];rfl) k
theorem G7 {t:TypeId} {x y:Operand} {r:Value} (a:(ev l x,ev l y,Nat.blt d N)=(some u,some v,true)) (b:(Instr.index t u v).run P w=.ok r w) (k:bK P ops Q N D ((d,r)::l) w rest):bK P ops Q N D l w (⟨some d,.index t x y,ty,pos,aft,none⟩::rest):=AZ (bZ a).1 (bZ (bZ a).2).1 (bZ (bZ a).2).2 b k
theorem XV {t:TypeId} {x y:Operand} {r:Value} (e:ev l x=some u) (f:ev l y=some v) (b:Nat.blt d N=true) (c:(Instr.makeSlice t u v).run P w=.ok r w')
 (k:bK P ops Q N D ((d,r)::l) w' rest):bK P ops Q N D l w (⟨some d,.makeSlice t x y,ty,pos,aft,none⟩::rest):=
 j4 b (λρ a=>by
  have:execOp ρ ⟨some d,.makeSlice t x y,ty,pos,aft,none⟩=(do pure (Next.value (←Instr.makeSlice t (ρ x) (ρ y))):Sem Next):=rfl
  rw[this,a x _ e,a y _ f,Sem.run_bind,c];rfl) k
theorem sQ {t:TypeId} {x y:Operand} {r:Value} (a:(ev l x,ev l y,Nat.blt d N)=(some u,some v,true)) (b:(Instr.makeSlice t u v).run P w=.ok r w') (k:bK P ops Q N D ((d,r)::l) w' rest):bK P ops Q N D l w (⟨some d,.makeSlice t x y,ty,pos,aft,none⟩::rest):=XV (bZ a).1 (bZ (bZ a).2).1 (bZ (bZ a).2).2 b k
def wn (l:Fr):Option Operand→Option (Option Value)
 |none=>some none
 |some x=>(ev l x).map some
theorem Gi {ρ:Operand→Value} (b:rH l ρ):∀{x:Option Operand} {v:Option Value},wn l x=some v→x.map ρ=v
 |none,v,h=>by simpa [wn] using h
 |some x,v,h=>by
  cases a:ev l x with
  |none=>simp[wn,a] at h
  |some u=>
   simp only[wn,a,n9,Option.some.injEq] at h
   subst h
   simp[b x u a]
theorem jx {t:TypeId} {x:Operand} {lo hi f:Option Operand} {r:Value} {a b c:Option Value} (n:ev l x=some u) (i:wn l lo=some a) (h:wn l hi=some b) (j:wn l f=some c) (g:Nat.blt d N=true)
 (m:(Instr.sliceAt t u a b c).run P w=.ok r w) (k:bK P ops Q N D ((d,r)::l) w rest):bK P ops Q N D l w (⟨some d,.slice t x lo hi f,ty,pos,aft,none⟩::rest):=
 j4 g (λρ e=>by
  have:execOp ρ ⟨some d,.slice t x lo hi f,ty,pos,aft,none⟩=(do pure (Next.value (←Instr.sliceAt t (ρ x) (lo.map ρ) (hi.map ρ) (f.map ρ))):Sem Next):=rfl
  rw[this,e x _ n,Gi e i,Gi e h,Gi e j,Sem.run_bind,m];rfl) k
def jY (l:Fr):List Operand→Option (List Value)
 |[]=>some []
 |x::xs=>match ev l x,jY l xs with|some v,some vs=>some (v::vs)|_,_=>none
theorem qX {ρ:Operand→Value} (c:rH l ρ):∀{xs:List Operand} {vs:List Value},jY l xs=some vs→xs.map ρ=vs
 |[],vs,h=>by simpa [jY] using h
 |x::xs,vs,h=>by
  cases a:ev l x with
  |none=>simp[jY,a] at h
  |some v=>
   cases b:jY l xs with
   |none=>simp[jY,a,b] at h
   |some d=>
    simp only[jY,a,b,Option.some.injEq] at h
    subst h
    simp[c x v a,qX c b]
def qW (l:Fr):List (Nat×Operand)→Option (List (Nat×Value))
 |[]=>some []
 |(i,x)::xs=>match ev l x,qW l xs with|some v,some vs=>some ((i,v)::vs)|_,_=>none
theorem Gj {ρ:Operand→Value} (c:rH l ρ):∀{xs:List (Nat×Operand)} {vs:List (Nat×Value)},qW l xs=some vs→xs.map (λ(i,x)=>(i,ρ x))=vs
 |[],vs,h=>by simpa [qW] using h
 |(i,x)::xs,vs,h=>by
  cases a:ev l x with
  |none=>simp[qW,a] at h
  |some v=>
   cases b:qW l xs with
   |none=>simp[qW,a,b] at h
   |some d=>
    simp only[qW,a,b,Option.some.injEq] at h
    subst h
    simp[c x v a,Gj c b]
theorem AY {t:TypeId} {ps:List (Nat×Operand)} {vs:List (Nat×Value)} {r:Value} (b:qW l ps=some vs) (a:Nat.blt d N=true) (c:(Instr.build t vs.toArray).run P w=.ok r w)
 (k:bK P ops Q N D ((d,r)::l) w rest):bK P ops Q N D l w (⟨some d,.build t ps.toArray,ty,pos,aft,none⟩::rest):=
 j4 a (λρ e=>by
  have:execOp ρ ⟨some d,.build t ps.toArray,ty,pos,aft,none⟩=(do pure (Next.value (←Instr.build t (ps.toArray.map λ(i,x)=>(i,ρ x)))):Sem Next):=rfl
  rw[this,nX,Gj e b,Sem.run_bind,c];rfl) k
theorem dY {t:TypeId} {ps:List (Nat×Operand)} {vs:List (Nat×Value)} {r:Value} (a:(qW l ps,Nat.blt d N)=(some vs,true)) (b:(Instr.build t vs.toArray).run P w=.ok r w) (k:bK P ops Q N D ((d,r)::l) w rest):bK P ops Q N D l w (⟨some d,.build t ps.toArray,ty,pos,aft,none⟩::rest):=AY (bZ a).1 (bZ a).2 b k
theorem j3 {t:TypeId} {ps:List (Nat×Operand)} {vs:List (Nat×Value)} {r:Value} (b:qW l ps=some vs) (a:Nat.blt d N=true) (c:(Instr.buildSlice t n vs.toArray).run P w=.ok r w')
 (k:bK P ops Q N D ((d,r)::l) w' rest):bK P ops Q N D l w (⟨some d,.buildSlice t n ps.toArray,ty,pos,aft,none⟩::rest):=
 j4 a (λρ e=>by
  have:execOp ρ ⟨some d,.buildSlice t n ps.toArray,ty,pos,aft,none⟩=(do pure (Next.value (←Instr.buildSlice t n (ps.toArray.map λ(i,x)=>(i,ρ x)))):Sem Next):=rfl
  rw[this,nX,Gj e b,Sem.run_bind,c];rfl) k
theorem dJ {t:TypeId} {ps:List (Nat×Operand)} {vs:List (Nat×Value)} {r:Value} (a:(qW l ps,Nat.blt d N)=(some vs,true)) (b:(Instr.buildSlice t n vs.toArray).run P w=.ok r w') (k:bK P ops Q N D ((d,r)::l) w' rest):bK P ops Q N D l w (⟨some d,.buildSlice t n ps.toArray,ty,pos,aft,none⟩::rest):=j3 (bZ a).1 (bZ a).2 b k
theorem X0 {x:Operand} (c:ev l x=some (.pointer (some a))) (b:Nat.blt d N=true) (k:bK P ops Q N D ((d,.pointer (some a))::l) w rest):bK P ops Q N D l w (⟨some d,.nilCheck x,ty,pos,aft,none⟩::rest):=
 j4 b (λρ e=>by simp[execOp,e x _ c]) k
theorem dq {x:Operand} (b:(ev l x,Nat.blt d N)=(some (.pointer (some a)),true)) (k:bK P ops Q N D ((d,.pointer (some a))::l) w rest):bK P ops Q N D l w (⟨some d,.nilCheck x,ty,pos,aft,none⟩::rest):=X0 (bZ b).1 (bZ b).2 k
theorem XM {xs:List Operand} {ts:Array TypeId} {r:Value} (b:jY l xs=some vs) (a:Nat.blt d N=true) (c:(Builtin.append_ ts ty vs.toArray).run P w=.ok r w')
 (k:bK P ops Q N D ((d,r)::l) w' rest):bK P ops Q N D l w (⟨some d,.call {callee:=.builtin .append,args:=xs.toArray,argTypes:=ts},ty,pos,aft,none⟩::rest):=
 j4 a (λρ e=>by
  simp only[execOp,resolve,invoke,builtin,Sem.run_bind,Sem.run_pure,Result.andThen_ok,nX,qX e b,c]) k
theorem dW {xs:List Operand} {ts:Array TypeId} {r:Value} (a:(jY l xs,Nat.blt d N)=(some vs,true)) (b:(Builtin.append_ ts ty vs.toArray).run P w=.ok r w') (k:bK P ops Q N D ((d,r)::l) w' rest):bK P ops Q N D l w (⟨some d,.call {callee:=.builtin .append,args:=xs.toArray,argTypes:=ts},ty,pos,aft,none⟩::rest):=XM (bZ a).1 (bZ a).2 b k
theorem oo {xs:List Operand} {ts:Array TypeId} {r:Value} (b:jY l xs=some vs) (a:Nat.blt d N=true) (c:(Builtin.len_ ts ty vs.toArray).run P w=.ok r w)
 (k:bK P ops Q N D ((d,r)::l) w rest):bK P ops Q N D l w (⟨some d,.call {callee:=.builtin .len,args:=xs.toArray,argTypes:=ts},ty,pos,aft,none⟩::rest):=
 j4 a (λρ e=>by
  simp only[execOp,resolve,invoke,builtin,Sem.run_bind,Sem.run_pure,Result.andThen_ok,nX,qX e b,c]) k
theorem aW {xs:List Operand} {ts:Array TypeId} {r:Value} (a:(jY l xs,Nat.blt d N)=(some vs,true)) (b:(Builtin.len_ ts ty vs.toArray).run P w=.ok r w) (k:bK P ops Q N D ((d,r)::l) w rest):bK P ops Q N D l w (⟨some d,.call {callee:=.builtin .len,args:=xs.toArray,argTypes:=ts},ty,pos,aft,none⟩::rest):=oo (bZ a).1 (bZ a).2 b k
theorem XY {xs:List Operand} {ts:Array TypeId} {r:Value} (b:jY l xs=some vs) (a:Nat.blt d N=true) (c:(Builtin.max_ ts ty vs.toArray).run P w=.ok r w)
 (k:bK P ops Q N D ((d,r)::l) w rest):bK P ops Q N D l w (⟨some d,.call {callee:=.builtin .max,args:=xs.toArray,argTypes:=ts},ty,pos,aft,none⟩::rest):=
 j4 a (λρ e=>by
  simp only[execOp,resolve,invoke,builtin,Sem.run_bind,Sem.run_pure,Result.andThen_ok,nX,qX e b,c]) k
theorem XP {xs:List Operand} {ts:Array TypeId} {r:Value} (b:jY l xs=some vs) (a:Nat.blt d N=true) (c:(Builtin.copy_ ts ty vs.toArray).run P w=.ok r w')
 (k:bK P ops Q N D ((d,r)::l) w' rest):bK P ops Q N D l w (⟨some d,.call {callee:=.builtin .copy,args:=xs.toArray,argTypes:=ts},ty,pos,aft,none⟩::rest):=
 j4 a (λρ e=>by
  simp only[execOp,resolve,invoke,builtin,Sem.run_bind,Sem.run_pure,Result.andThen_ok,nX,qX e b,c]) k
def aY (P:Program) (f:FuncId):Prop:=∃fn,P.funcs[f]? =some fn∧(fn.name== "runtime.NumGoroutine")=false∧fn.body.isNone=false
theorem Bh {f:FuncId} (h:aY P f) (args:Array Value) (w:World):(callFunc f args).run P w=.ok (.enter f args) w:=by
 obtain⟨fn,a,b,d⟩:=h
 have c:¬fn.name= "runtime.NumGoroutine" :=by simpa using b
 have e:¬fn.body=none:=by intro h;simp[h] at d
 unfold callFunc
 simp[Sem.run_bind,program,Sem.run,a,c,e]
def aJ (T:Value→World→Prop):Ending→World→Prop:=λe w'=>∃v,e=.returned v∧T v w'
theorem aJ.mono {P:Program} {f:FuncId} {args:Array Value} {w:World} {T T':Value→World→Prop} (h:Calls P f args w (aJ T)) (a:∀v w',T v w'→T' v w'):Calls P f args w (aJ T'):=
 Calls.mono h λ_ _ ⟨v,b,c⟩=>⟨v,b,a _ _ c⟩
theorem aC {f:FuncId} {xs:List Operand} {ts:Array TypeId} {T:Value→World→Prop} (i:aY P f) (j:jY l xs=some vs) (h:Nat.blt d N=true) (g:Calls P f vs.toArray w (aJ T))
 (k:∀v w',T v w'→bK P ops Q N D ((d,v)::l) w' rest):bK P ops Q N D l w (⟨some d,.call {callee:=.value (.func f),args:=xs.toArray,argTypes:=ts},ty,pos,aft,none⟩::rest):=λa b=>by
 refine wpList_plain H λK c=>?_
 unfold Oper.wp
 have m:(execOp a.eval ⟨some d,.call {callee:=.value (.func f),args:=xs.toArray,argTypes:=ts},ty,pos,aft,none⟩).run P w=.ok (.enter f vs.toArray) w:=by
  have p:rH l a.eval:=λx v o=>b.ev o
  simp only[execOp,resolve,nX,qX p j,Act.eval,Deferred.ofValue,Sem.run_bind,Sem.run_pure,Result.andThen_ok,invoke,Ir,Bh i,Eh]
 rw[m]
 refine g.mono ?_
 rintro e w' ⟨v,rfl,n⟩
 exact c _ _ (k v w' n _ (b.put h v))
end ops
end
def iU (l:Fr):dO:=λt=>match lk l t with|some v=>Is v|none=>Any
theorem ww {Rl:World→World→Prop} (l:Fr):∀t,eG Rl (iU l t):=λt=>by
 unfold iU
 split
 ·exact cN.is _
 ·exact cN.any
def look (F:dO):Operand→cT
 |.tmp t=>F t
 |.const c=>Is c
 |.global g=>Is (.pointer (some ⟨g,0,none⟩))
 |.func f=>Is (.func (.func f) #[] #[])
theorem CX {Rl:World→World→Prop} {F:dO} (a:∀t,eG Rl (F t)) (x:Operand):eG Rl (look F x):=by
 cases x with
 |tmp t=>exact a t
 |_=>exact cN.is _
def oI:List cT→World→(List Value→Prop)→Prop
 |[],_,K=>K []
 |S::Ss,w,K=>∀v,S v w→oI Ss w (λvs=>K (v::vs))
def zl (w:World):List cT→List Value→Prop
 |[],[]=>True
 |S::Ss,v::vs=>S v w∧zl w Ss vs
 |_,_=>False
theorem oI.use:∀{a:List cT} {w:World} {K:List Value→Prop} {vs:List Value},oI a w K→zl w a vs→K vs
 |[],_,_,[],h,_=>h
 |[],_,_,_::_,_,h=>h.elim
 |_::_,_,_,[],_,h=>h.elim
 |_::_,_,K,v::_,h,b=>oI.use (K:=λvs=>K (v::vs)) (h _ b.1) b.2
def kU (F:dO) (w:World):List Nat→(Fr→Prop)→Prop
 |[],K=>K []
 |t::ts,K=>∀v,F t v w→kU F w ts (λl=>K ((t,v)::l))
theorem kU.use {F:dO} {w:World} {N:Nat} {D:List Deferred} {a:Act} (hs:lL N D F a w):∀{ts:List Nat} {K:Fr→Prop},kU F w ts K→∃l,At N D l a∧K l
 |[],_,h=>⟨[],⟨hs.size,hs.defers,λt v f=>by simp[lk] at f⟩,h⟩
 |t::ts,_,h=>by
  obtain⟨l,e,d⟩:=kU.use hs (h _ (hs.at_ t))
  refine⟨_,⟨hs.size,hs.defers,λs v b=>?_⟩,d⟩
  by_cases c:s=t
  ·subst c
   rw[CW] at b
   exact cC b
  ·rw[CV _ l c] at b
   exact e.at_ s v b
section
variable {P:Program} {ops:Array Oper} {Env:World→Prop} {Rl:World→World→Prop} {mo:Bool} {Pn:List PanicEntry→World→Prop} {Z:ee} {N:Nat} {D:List Deferred} {F:dO} {K:dO→ee→Prop} {rest:List Oper} {d:Nat} {op:Op} {ty:TypeId} {pos:String} {aft:Array Edge}
def GF (os:List Oper) (l0:List (Nat×Value)):Bool:=os.all λo=>match o.dst with|some d=>l0.all λp=> !(Nat.beq p.1 d)|none=>true
theorem W9 (os:List Oper):GF os []=true:=kR.2 λo _=>by cases o.dst<;>rfl
theorem Xa {os:List Oper} {l0:List (Nat×Value)} (h:GF os l0=true):∀o∈os,∀d,o.dst=some d→∀p∈l0,p.1≠d:=λo f d c p g e=>by
 have a:=kR.1 h o f
 simp only[c] at a
 have b:=kR.1 a p g
 rw[e] at b
 simp at b
def Fi:List (Nat×Value)→Fr→Prop
 |[],_=>True
 |p::l0,l=>lk l p.1=some p.2∧Fi l0 l
theorem ny.of:∀{l0:List (Nat×Value)} {l:Fr} {a:Act},Fi l0 l→At N D l a→ny l0 a
 |[],_,_,_,_=>λ_ h=>by cases h
 |q::l0,_,_,h,ha=>λp b=>by
  rcases lF.1 b with rfl|b
  ·exact ha.at_ _ _ h.1
  ·exact ny.of h.2 ha p b
theorem Tr {Q:eV} {l:Fr} {id:Nat} {os:List Oper} (n:Nat) (ts:List Nat) (l0:List (Nat×Value)) (Env:World→Prop) (Rl:World→World→Prop) (mo:Bool) (Pn:List PanicEntry→World→Prop) (Z:ee) (i:ki Env Rl) (d:Env w) (m:ig Z) (e:Z w) (s:Fi l0 l) (q:GF (os.take n) l0=true) (k:∀c a w,a.tmps.size=N→a.defers=D→ny l0 a→Pn c w→Q (.panic c) a w) (o:mo=true→nE .any os.toArray=true) (hm:P.follows .mixedOrders=true) (g:Region.lexTailB .any os.toArray n=true)
 (h:cj P os.toArray Env Rl mo Pn N (os.take n) (iU l) Z (λF Z=>∀w',Env w'→Z w'→kU F w' ts (λl'=>bK P os.toArray Q N D l' w' (os.drop n)))):dS P Q N D l w (.region id os.toArray true):=λa b=>by
 refine aaO (D:=D) (F:=iU l) (Z:=Z) (l0:=l0) n N i (ny.of s b) (Xa q) k o hm g (ww l) m e d ⟨b.size,b.defers,λt=>?_⟩ (tm _ _ _ (λF Z j f w' d hs e=>?_) h)
 ·show iU l t (a.tmps.getD t undef) _
  unfold iU
  cases u:lk l t with
  |some v=>exact b.at_ t v u
  |none=>trivial
 ·obtain⟨l',r,p⟩:=kU.use hs (j w' d e)
  exact p f r
theorem Ce {Q:eV} {l:Fr} {id:Nat} {os:List Oper} (n:Nat) (ts:List Nat) (Env:World→Prop) (Rl:World→World→Prop) (mo:Bool) (Pn:List PanicEntry→World→Prop) (Z:ee) (d:ki Env Rl) (j:Env w) (f:ig Z) (m:Z w) (e:∀c a w,a.defers=D→Pn c w→Q (.panic c) a w) (g:mo=true→nE .any os.toArray=true) (hm:P.follows .mixedOrders=true) (b:Region.lexTailB .any os.toArray n=true)
 (h:cj P os.toArray Env Rl mo Pn N (os.take n) (iU l) Z (λF Z=>∀w',Env w'→Z w'→kU F w' ts (λl'=>bK P os.toArray Q N D l' w' (os.drop n)))):dS P Q N D l w (.region id os.toArray true):=
 Tr n ts [] Env Rl mo Pn Z d j f m trivial (W9 _) (λc a w _ i _ k=>e c a w i k) g hm b h
theorem cz {Q:eV} {l:Fr} {id:Nat} {os:List Oper} (n:Nat) (ts:List Nat) (hm:P.follows .mixedOrders=true) (a:Region.lexTailB .any os.toArray n=true)
 (h:cj P os.toArray (ao w) ao false rV N (os.take n) (iU l) (λ_=>True) (λF _=>∀w',ao w w'→kU F w' ts (λl'=>bK P os.toArray Q N D l' w' (os.drop n)))):dS P Q N D l w (.region id os.toArray true):=
 Ce n ts (ao w) ao false rV (λ_=>True) (ki.plain w) (ao.refl w) ig.dg trivial (λ_ _ _ _ h=>h.elim) (λh=>by cases h) hm a (tm _ _ _ (λ_ _ h w' b _=>h w' b) h)
theorem cq (h:K F Z):cj P ops Env Rl mo Pn N [] F Z K:=h
theorem tM {S:cT} (i:(∀t,eG Rl (F t))→eG Rl S) (f:Nat.blt d N=true)
 (h:∀(a:Act) (w:World),Env w→(∀x∈op.operands.toList,look F x (a.eval x) w)→CF P w S ((execOp a.eval ⟨some d,op,ty,pos,aft,none⟩).run P w))
 (k:cj P ops Env Rl mo Pn N rest (di F (some d) S) Z K):cj P ops Env Rl mo Pn N (⟨some d,op,ty,pos,aft,none⟩::rest) F Z K:=λc _=>by
 have g:d<N:=by simpa [BL] using f
 refine⟨S,Z,.inl ⟨⟨i c,λe b=>by obtain rfl:=cC b;exact g,λa w _ b hs _=>h a w b λx l=>?_,λa w _ _ _ j=>by simp[Region.wanted] at j⟩,H⟩,k⟩
 cases x with
 |tmp t=>exact hs t (IX _ (List.mem_filterMap.2 ⟨.tmp t,l,rfl⟩))
 |_=>rfl
theorem Wv {b:Bool} {t:Tmp} (l:(ops[j]?).bind (·.dst)=some t) (r:F t=Is (.bool b)) (k:cj P ops Env Rl mo Pn N (⟨some d,op,ty,pos,aft,none⟩::rest) F Z K):
 cj P ops Env Rl mo Pn N (⟨some d,op,ty,pos,aft,some (j,b)⟩::rest) F Z K:=λp q=>by
 obtain⟨S,Z',hs,i⟩:=k p q
 have val:∀(a:Act) (w:World),qf ops ⟨some d,op,ty,pos,aft,some (j,b)⟩ F a w→yielded ops a.tmps j=some b:=λa w h=>by
  have c:F t (a.tmps.getD t undef) w:=h t (List.mem_append_right _ (by simp[l]))
  rw[r] at c
  have c:a.tmps.getD t undef=.bool b:=c
  unfold yielded
  rw[l,iJ]
  cases m:a.tmps[t]? with
  |none=>rw[xF,m] at c;simp[undef] at c
  |some u=>rw[xF,m] at c;simp only[E0] at c;rw[c]
 have n:∀(a:Act) (w:World),qf ops ⟨some d,op,ty,pos,aft,some (j,b)⟩ F a w→qf ops ⟨some d,op,ty,pos,aft,none⟩ F a w:=λa w h s hs=>h s (by
  simp only[Oper.looksAt,jU] at hs
  exact IX _ hs)
 rcases hs with⟨hs,v⟩|⟨hm,hs⟩
 ·exact⟨S,Z',.inl ⟨⟨hs.a3,hs.dst,λa w c f e _=>hs.yes a w c f (n a w e) H,λa w _ _ e g=>by simp[Region.wanted,val a w e] at g⟩,v⟩,i⟩
 ·exact⟨S,Z',.inr ⟨hm,⟨hs.call,hs.a3,hs.dz,hs.dst,λa w c f e o _=>hs.yes a w c f (n a w e) o H,λa w _ _ e _ g=>by simp[Region.wanted,val a w e] at g⟩⟩,i⟩
theorem X {b:Bool} {t:Tmp} (a:((ops[j]?).bind (·.dst),F t)=(some t,Is (.bool b))) (k:cj P ops Env Rl mo Pn N (⟨some d,op,ty,pos,aft,none⟩::rest) F Z K):cj P ops Env Rl mo Pn N (⟨some d,op,ty,pos,aft,some (j,b)⟩::rest) F Z K:=Wv (bZ a).1 (bZ a).2 k
theorem Mc {b:Bool} {t:Tmp} (l:Nat.blt d N=true) (f:(ops[j]?).bind (·.dst)=some t) (n:F t=Is u) (p:u=undef∨u=.bool (!b)) (k:cj P ops Env Rl mo Pn N rest (di F (some d) (Is undef)) Z K):
 cj P ops Env Rl mo Pn N (⟨some d,op,ty,pos,aft,some (j,b)⟩::rest) F Z K:=λ_ _=>by
 have o:d<N:=by simpa [BL] using l
 have val:∀(a:Act) (w:World),qf ops ⟨some d,op,ty,pos,aft,some (j,b)⟩ F a w→yielded ops a.tmps j≠some b:=λa w h=>by
  have c:F t (a.tmps.getD t undef) w:=h t (List.mem_append_right _ (by simp[f]))
  rw[n] at c
  have c:a.tmps.getD t undef=u:=c
  unfold yielded
  rw[f,iJ]
  cases q:a.tmps[t]? with
  |none=>simp
  |some z=>
   rw[xF,q] at c
   simp only[E0] at c
   subst c
   rcases p with rfl|rfl
   ·simp[undef]
   ·simp
 exact⟨Is undef,Z,.inl ⟨⟨cN.is _,λe m=>by obtain rfl:=cC m;exact o,λa w _ _ i g=>by
  have:=val a w i
  simp[Region.wanted] at g
  exact absurd g this,λ_ _ _ _ _ _=>rfl⟩,H⟩,k⟩
theorem f_no {b:Bool} {t:Tmp} (a:Nat.blt d N=true) (e:(ops[j]?).bind (·.dst)=some t) (c:F t=Is (.bool (!b))) (k:cj P ops Env Rl mo Pn N rest (di F (some d) (Is undef)) Z K):
 cj P ops Env Rl mo Pn N (⟨some d,op,ty,pos,aft,some (j,b)⟩::rest) F Z K:=Mc a e c (.inr rfl) k
theorem M {b:Bool} {t:Tmp} (a:(Nat.blt d N,(ops[j]?).bind (·.dst),F t)=(true,some t,Is (.bool (!b)))) (k:cj P ops Env Rl mo Pn N rest (di F (some d) (Is undef)) Z K):cj P ops Env Rl mo Pn N (⟨some d,op,ty,pos,aft,some (j,b)⟩::rest) F Z K:=f_no (bZ a).1 (bZ (bZ a).2).1 (bZ (bZ a).2).2 k
theorem Wu {b:Bool} {t:Tmp} (a:Nat.blt d N=true) (e:(ops[j]?).bind (·.dst)=some t) (c:F t=Is undef) (k:cj P ops Env Rl mo Pn N rest (di F (some d) (Is undef)) Z K):
 cj P ops Env Rl mo Pn N (⟨some d,op,ty,pos,aft,some (j,b)⟩::rest) F Z K:=Mc a e c (.inl rfl) k
theorem dc {b:Bool} {t:Tmp} (a:(Nat.blt d N,(ops[j]?).bind (·.dst),F t)=(true,some t,Is undef)) (k:cj P ops Env Rl mo Pn N rest (di F (some d) (Is undef)) Z K):cj P ops Env Rl mo Pn N (⟨some d,op,ty,pos,aft,some (j,b)⟩::rest) F Z K:=Wu (bZ a).1 (bZ (bZ a).2).1 (bZ (bZ a).2).2 k
theorem Wo {x:Operand} {S:cT} (b:look F x=S) (e:Nat.blt d N=true) (k:cj P ops Env Rl mo Pn N rest (di F (some d) S) Z K):cj P ops Env Rl mo Pn N (⟨some d,.move x,ty,pos,aft,none⟩::rest) F Z K:=
 tM (λc=>b▸CX c x) e (λa w _ h=>by subst b;exact⟨ao.refl _,h x lw⟩) k
theorem W {x:Operand} {S:cT} (a:(look F x,Nat.blt d N)=(S,true)) (k:cj P ops Env Rl mo Pn N rest (di F (some d) S) Z K):cj P ops Env Rl mo Pn N (⟨some d,.move x,ty,pos,aft,none⟩::rest) F Z K:=Wo (bZ a).1 (bZ a).2 k
abbrev aG:=@W
theorem Wj {x:Operand} {S:cT} (b:look F x=S) (e:Nat.blt d N=true) (k:cj P ops Env Rl mo Pn N rest (di F (some d) S) Z K):cj P ops Env Rl mo Pn N (⟨some d,.assign x,ty,pos,aft,none⟩::rest) F Z K:=
 tM (λc=>b▸CX c x) e (λa w _ h=>by subst b;exact⟨ao.refl _,h x lw⟩) k
theorem gK {x:Operand} {S:cT} (a:(look F x,Nat.blt d N)=(S,true)) (k:cj P ops Env Rl mo Pn N rest (di F (some d) S) Z K):cj P ops Env Rl mo Pn N (⟨some d,.assign x,ty,pos,aft,none⟩::rest) F Z K:=Wj (bZ a).1 (bZ a).2 k
theorem Ws {c x y:Operand} {S:cT} (g:look F c=Is (.bool true)) (e:look F x=S) (i:Nat.blt d N=true) (k:cj P ops Env Rl mo Pn N rest (di F (some d) S) Z K):cj P ops Env Rl mo Pn N (⟨some d,.pick c x y,ty,pos,aft,none⟩::rest) F Z K:=
 tM (λf=>e▸CX f x) i (λa w _ h=>by
  subst e
  have b:look F c (a.eval c) w:=h c lw
  rw[g] at b
  have b:a.eval c=.bool true:=b
  have:(execOp a.eval ⟨some d,.pick c x y,ty,pos,aft,none⟩).run P w=.ok (.value (a.eval x)) w:=by simp[execOp,b,asBool]
  rw[this]
  exact⟨ao.refl _,h x lw⟩) k
theorem jN {c x y:Operand} {S:cT} (a:(look F c,look F x,Nat.blt d N)=(Is (.bool true),S,true)) (k:cj P ops Env Rl mo Pn N rest (di F (some d) S) Z K):cj P ops Env Rl mo Pn N (⟨some d,.pick c x y,ty,pos,aft,none⟩::rest) F Z K:=Ws (bZ a).1 (bZ (bZ a).2).1 (bZ (bZ a).2).2 k
theorem Wr {c x y:Operand} {S:cT} (g:look F c=Is (.bool false)) (e:look F y=S) (i:Nat.blt d N=true) (k:cj P ops Env Rl mo Pn N rest (di F (some d) S) Z K):cj P ops Env Rl mo Pn N (⟨some d,.pick c x y,ty,pos,aft,none⟩::rest) F Z K:=
 tM (λf=>e▸CX f y) i (λa w _ h=>by
  subst e
  have b:look F c (a.eval c) w:=h c lw
  rw[g] at b
  have b:a.eval c=.bool false:=b
  have:(execOp a.eval ⟨some d,.pick c x y,ty,pos,aft,none⟩).run P w=.ok (.value (a.eval y)) w:=by simp[execOp,b,asBool]
  rw[this]
  exact⟨ao.refl _,h y lw⟩) k
theorem gV {c x y:Operand} {S:cT} (a:(look F c,look F y,Nat.blt d N)=(Is (.bool false),S,true)) (k:cj P ops Env Rl mo Pn N rest (di F (some d) S) Z K):cj P ops Env Rl mo Pn N (⟨some d,.pick c x y,ty,pos,aft,none⟩::rest) F Z K:=Wr (bZ a).1 (bZ (bZ a).2).1 (bZ (bZ a).2).2 k
theorem Ax {xs:List Operand} {S:cT} {f:List Value→Sem Value} (b:∀ρ,execOp ρ ⟨some d,op,ty,pos,aft,none⟩=(do pure (Next.value (←f (xs.map ρ))):Sem Next)) (hm:∀x∈xs,x∈op.operands.toList)
 (m:eG Rl S) (l:Nat.blt d N=true) (c:∀w,Env w→oI (xs.map (look F)) w (λvs=>∃r w',(f vs).run P w=.ok r w'∧ao w w'∧S r w'))
 (k:cj P ops Env Rl mo Pn N rest (di F (some d) S) Z K):cj P ops Env Rl mo Pn N (⟨some d,op,ty,pos,aft,none⟩::rest) F Z K:=
 tM (λ_=>m) l (λa w n h=>by
  have j:zl w (xs.map (look F)) (xs.map a.eval):=by
   clear c b
   induction xs with
   |nil=>trivial
   |cons x xs p=>exact⟨h x (hm x aj),p (λy o=>hm y (by simp[o]))⟩
  obtain⟨r,w',e,g,i⟩:=oI.use (c w n) j
  rw[b,Sem.run_bind,e]
  exact⟨g,i⟩) k
theorem uF {xs:List Operand} {r:Value} {f:List Value→Sem Value} (e:∀ρ,execOp ρ ⟨some d,op,ty,pos,aft,none⟩=(do pure (Next.value (←f (xs.map ρ))):Sem Next)) (hm:∀x∈xs,x∈op.operands.toList)
 (b:xs.map (look F)=vs.map Is) (j:Nat.blt d N=true) (g:∀w,Env w→(f vs).run P w=.ok r w)
 (k:cj P ops Env Rl mo Pn N rest (di F (some d) (Is r)) Z K):cj P ops Env Rl mo Pn N (⟨some d,op,ty,pos,aft,none⟩::rest) F Z K:=
 tM (λ_=>cN.is _) j (λa w l h=>by
  have i:xs.map a.eval=vs:=by
   clear g e
   induction xs generalizing vs with
   |nil=>cases vs with
    |nil=>rfl
    |cons v vs=>simp at b
   |cons x xs n=>cases vs with
    |nil=>simp at b
    |cons v vs=>
     simp only[iy,List.cons.injEq] at b⊢
     have c:=h x (hm x aj)
     rw[b.1] at c
     exact⟨c,n (λy m=>hm y (by simp[m])) b.2⟩
  rw[e,Sem.run_bind,i,g w l]
  exact⟨ao.refl _,H⟩) k
theorem sF {b:BinOp} {t t2:TypeId} {x y:Operand} {r:Value} (h:look F x=Is u) (i:look F y=Is v) (e:Nat.blt d N=true) (g:∀w,Env w→(bin b t x y u v).run P w=.ok r w)
 (k:cj P ops Env Rl mo Pn N rest (di F (some d) (Is r)) Z K):cj P ops Env Rl mo Pn N (⟨some d,.binOp b t x y t2,ty,pos,aft,none⟩::rest) F Z K:=
 uF (xs:=[x,y]) (vs:=[u,v]) (f:=λ|[a,c]=>bin b t x y a c|_=>stuck "") (λ_=>rfl) lw (by simp[h,i]) e g k
theorem bn {b:BinOp} {t t2:TypeId} {x y:Operand} {r:Value} (a:(look F x,look F y,Nat.blt d N)=(Is u,Is v,true)) (c:∀w,Env w→(bin b t x y u v).run P w=.ok r w) (k:cj P ops Env Rl mo Pn N rest (di F (some d) (Is r)) Z K):cj P ops Env Rl mo Pn N (⟨some d,.binOp b t x y t2,ty,pos,aft,none⟩::rest) F Z K:=sF (bZ a).1 (bZ (bZ a).2).1 (bZ (bZ a).2).2 c k
theorem Wq {b:UnOp} {t:TypeId} {x:Operand} {r:Value} (g:look F x=Is u) (c:Nat.blt d N=true) (e:∀w,Env w→(Op.unary b u).run P w=.ok r w)
 (k:cj P ops Env Rl mo Pn N rest (di F (some d) (Is r)) Z K):cj P ops Env Rl mo Pn N (⟨some d,.unOp b t x,ty,pos,aft,none⟩::rest) F Z K:=
 uF (xs:=[x]) (vs:=[u]) (f:=λ|[a]=>Op.unary b a|_=>stuck "") (λ_=>rfl) lw (by simp[g]) c e k
theorem CA {b:UnOp} {t:TypeId} {x:Operand} {r:Value} (a:(look F x,Nat.blt d N)=(Is u,true)) (c:∀w,Env w→(Op.unary b u).run P w=.ok r w) (k:cj P ops Env Rl mo Pn N rest (di F (some d) (Is r)) Z K):cj P ops Env Rl mo Pn N (⟨some d,.unOp b t x,ty,pos,aft,none⟩::rest) F Z K:=Wq (bZ a).1 (bZ a).2 c k
theorem mD {t:TypeId} {x:Operand} {r:Value} (e:look F x=Is u) (b:Nat.blt d N=true) (c:∀w,Env w→(convert s t u).run P w=.ok r w)
 (k:cj P ops Env Rl mo Pn N rest (di F (some d) (Is r)) Z K):cj P ops Env Rl mo Pn N (⟨some d,.convert s t x,ty,pos,aft,none⟩::rest) F Z K:=
 uF (xs:=[x]) (vs:=[u]) (f:=λ|[a]=>convert s t a|_=>stuck "") (λ_=>rfl) lw (by simp[e]) b c k
theorem Ay {t:TypeId} {x:Operand} {r:Value} (e:look F x=Is u) (b:Nat.blt d N=true) (c:∀w,Env w→(Instr.loadAt t u).run P w=.ok r w)
 (k:cj P ops Env Rl mo Pn N rest (di F (some d) (Is r)) Z K):cj P ops Env Rl mo Pn N (⟨some d,.load t x,ty,pos,aft,none⟩::rest) F Z K:=
 uF (xs:=[x]) (vs:=[u]) (f:=λ|[a]=>Instr.loadAt t a|_=>stuck "") (λ_=>rfl) lw (by simp[e]) b c k
theorem aQ {t:TypeId} {x:Operand} {r:Value} (a:(look F x,Nat.blt d N)=(Is u,true)) (b:∀w,Env w→(Instr.loadAt t u).run P w=.ok r w) (k:cj P ops Env Rl mo Pn N rest (di F (some d) (Is r)) Z K):cj P ops Env Rl mo Pn N (⟨some d,.load t x,ty,pos,aft,none⟩::rest) F Z K:=Ay (bZ a).1 (bZ a).2 b k
theorem Wl {x:Operand} {r:Value} (e:look F x=Is u) (b:Nat.blt d N=true) (c:∀w,Env w→(Instr.fieldAt s u n).run P w=.ok r w)
 (k:cj P ops Env Rl mo Pn N rest (di F (some d) (Is r)) Z K):cj P ops Env Rl mo Pn N (⟨some d,.fieldAddr s x n,ty,pos,aft,none⟩::rest) F Z K:=
 uF (xs:=[x]) (vs:=[u]) (f:=λ|[a]=>Instr.fieldAt s a n|_=>stuck "") (λ_=>rfl) lw (by simp[e]) b c k
theorem bH {x:Operand} {r:Value} (a:(look F x,Nat.blt d N)=(Is u,true)) (b:∀w,Env w→(Instr.fieldAt s u n).run P w=.ok r w) (k:cj P ops Env Rl mo Pn N rest (di F (some d) (Is r)) Z K):cj P ops Env Rl mo Pn N (⟨some d,.fieldAddr s x n,ty,pos,aft,none⟩::rest) F Z K:=Wl (bZ a).1 (bZ a).2 b k
theorem yv {x:Operand} {S S':cT} (l:look F x=S) (h:eG Rl S') (e:Nat.blt d N=true) (g:∀w v,Env w→S v w→∃r,(Instr.extract v n).run P w=.ok r w∧S' r w)
 (k:cj P ops Env Rl mo Pn N rest (di F (some d) S') Z K):cj P ops Env Rl mo Pn N (⟨some d,.extract x n,ty,pos,aft,none⟩::rest) F Z K:=
 Ax (xs:=[x]) (f:=λ|[a]=>Instr.extract a n|_=>stuck "") (λ_=>rfl) lw h e (λw j v i=>by
  subst l
  obtain⟨r,b,c⟩:=g w v j i
  exact⟨r,w,b,ao.refl _,c⟩) k
theorem Wp {x:Operand} (f:look F x=Is (.pointer (some a))) (e:Nat.blt d N=true) (k:cj P ops Env Rl mo Pn N rest (di F (some d) (Is (.pointer (some a)))) Z K):cj P ops Env Rl mo Pn N (⟨some d,.nilCheck x,ty,pos,aft,none⟩::rest) F Z K:=
 tM (λ_=>cN.is _) e (λb w _ h=>by
  have c:look F x (b.eval x) w:=h x lw
  rw[f] at c
  have c:b.eval x=.pointer (some a):=c
  have:(execOp b.eval ⟨some d,.nilCheck x,ty,pos,aft,none⟩).run P w=.ok (.value (.pointer (some a))) w:=by simp[execOp,c]
  rw[this]
  exact⟨ao.refl _,H⟩) k
theorem ji {x:Operand} (b:(look F x,Nat.blt d N)=(Is (.pointer (some a)),true)) (k:cj P ops Env Rl mo Pn N rest (di F (some d) (Is (.pointer (some a)))) Z K):cj P ops Env Rl mo Pn N (⟨some d,.nilCheck x,ty,pos,aft,none⟩::rest) F Z K:=Wp (bZ b).1 (bZ b).2 k
theorem Wm {t:TypeId} {x y:Operand} {r:Value} (g:look F x=Is u) (h:look F y=Is v) (b:Nat.blt d N=true) (e:∀w,Env w→(Instr.indexAt t u v).run P w=.ok r w)
 (k:cj P ops Env Rl mo Pn N rest (di F (some d) (Is r)) Z K):cj P ops Env Rl mo Pn N (⟨some d,.indexAddr t x y,ty,pos,aft,none⟩::rest) F Z K:=
 uF (xs:=[x,y]) (vs:=[u,v]) (f:=λ|[a,c]=>Instr.indexAt t a c|_=>stuck "") (λ_=>rfl) lw (by simp[g,h]) b e k
theorem cF {t:TypeId} {x y:Operand} {r:Value} (a:(look F x,look F y,Nat.blt d N)=(Is u,Is v,true)) (b:∀w,Env w→(Instr.indexAt t u v).run P w=.ok r w) (k:cj P ops Env Rl mo Pn N rest (di F (some d) (Is r)) Z K):cj P ops Env Rl mo Pn N (⟨some d,.indexAddr t x y,ty,pos,aft,none⟩::rest) F Z K:=Wm (bZ a).1 (bZ (bZ a).2).1 (bZ (bZ a).2).2 b k
theorem Wi {t:TypeId} {S:cT} (c:eG Rl S) (a:Nat.blt d N=true) (b:∀w,Env w→∃r w',(Instr.alloc t true (.tuple #[])).run P w=.ok r w'∧ao w w'∧S r w')
 (k:cj P ops Env Rl mo Pn N rest (di F (some d) S) Z K):cj P ops Env Rl mo Pn N (⟨some d,.alloc t,ty,pos,aft,none⟩::rest) F Z K:=
 Ax (xs:=[]) (f:=λ_=>Instr.alloc t true (.tuple #[])) (λ_=>rfl) aj c a b k
theorem yw {t:TypeId} {x:Operand} {lo hi:Option Operand} {r:Value} {a b:Option Value} (v:look F x=Is u) (n:lo.map (look F)=a.map Is) (m:hi.map (look F)=b.map Is) (l:Nat.blt d N=true)
 (p:∀w,Env w→(Instr.sliceAt t u a b none).run P w=.ok r w)
 (k:cj P ops Env Rl mo Pn N rest (di F (some d) (Is r)) Z K):cj P ops Env Rl mo Pn N (⟨some d,.slice t x lo hi none,ty,pos,aft,none⟩::rest) F Z K:=
 tM (λ_=>cN.is _) l (λs w q h=>by
  have j:∀{o:Option Operand} {c:Option Value},o.map (look F)=c.map Is→(∀y,o=some y→y∈(Op.slice t x lo hi none).operands.toList)→o.map s.eval=c:=λ{o c} f hm=>by
   cases o with
   |none=>cases c with
    |none=>rfl
    |some c=>simp at f
   |some y=>cases c with
    |none=>simp at f
    |some c=>
     simp only[n9,Option.some.injEq] at f⊢
     have i:=h y (hm y rfl)
     rw[f] at i
     exact i
  have e:look F x (s.eval x) w:=h x lw
  rw[v] at e
  have e:s.eval x=u:=e
  have:execOp s.eval ⟨some d,.slice t x lo hi none,ty,pos,aft,none⟩=(do pure (Next.value (←Instr.sliceAt t (s.eval x) (lo.map s.eval) (hi.map s.eval) none)):Sem Next):=rfl
  rw[this,e,j n (λy g=>by subst g;simp[Op.operands]),j m (λy g=>by subst g;simp[Op.operands]),Sem.run_bind,p w q]
  exact⟨ao.refl _,H⟩) k
theorem Mb {ps:List (Nat×Operand)} {S:cT} {f:Array (Nat×Value)→Sem Value} (a:∀ρ,execOp ρ ⟨some d,op,ty,pos,aft,none⟩=(do pure (Next.value (←f (ps.toArray.map λ(i,x)=>(i,ρ x)))):Sem Next)) (hm:∀x∈ps,x.2∈op.operands.toList)
 (g:eG Rl S) (c:Nat.blt d N=true) (b:∀w,Env w→oI (ps.map λp=>look F p.2) w (λvs=>∃r w',(f ((ps.map (·.1)).zip vs).toArray).run P w=.ok r w'∧ao w w'∧S r w'))
 (k:cj P ops Env Rl mo Pn N rest (di F (some d) S) Z K):cj P ops Env Rl mo Pn N (⟨some d,op,ty,pos,aft,none⟩::rest) F Z K:=
 Ax (xs:=ps.map (·.2)) (f:=λvs=>f ((ps.map (·.1)).zip vs).toArray) (λρ=>by
  rw[a]
  have:(ps.toArray.map λ(i,x)=>(i,ρ x))=((ps.map (·.1)).zip ((ps.map (·.2)).map ρ)).toArray:=by
   rw[nX]
   congr 1
   clear hm a b
   induction ps with
   |nil=>rfl
   |cons p ps l=>simp only[iy,List.zip_cons_cons,l]
  rw[this]) (λx j=>by
   obtain⟨p,e,rfl⟩:=fF.1 j
   exact hm p e) g c (λw h=>by
   have:=b w h
   rwa [tz]) k
theorem Aw {t:TypeId} {ps:List (Nat×Operand)} {S:cT} (c:eG Rl S) (a:Nat.blt d N=true) (b:∀w,Env w→oI (ps.map λp=>look F p.2) w (λvs=>∃r w',(Instr.build t ((ps.map (·.1)).zip vs).toArray).run P w=.ok r w'∧ao w w'∧S r w'))
 (k:cj P ops Env Rl mo Pn N rest (di F (some d) S) Z K):cj P ops Env Rl mo Pn N (⟨some d,.build t ps.toArray,ty,pos,aft,none⟩::rest) F Z K:=
 Mb (ps:=ps) (λ_=>rfl) (λx e=>by simp[Op.operands];exact⟨x.1,e⟩) c a b k
theorem wr {t:TypeId} {ps:List (Nat×Operand)} {S:cT} (c:eG Rl S) (a:Nat.blt d N=true) (b:∀w,Env w→oI (ps.map λp=>look F p.2) w (λvs=>∃r w',(Instr.buildSlice t n ((ps.map (·.1)).zip vs).toArray).run P w=.ok r w'∧ao w w'∧S r w'))
 (k:cj P ops Env Rl mo Pn N rest (di F (some d) S) Z K):cj P ops Env Rl mo Pn N (⟨some d,.buildSlice t n ps.toArray,ty,pos,aft,none⟩::rest) F Z K:=
 Mb (ps:=ps) (λ_=>rfl) (λx e=>by simp[Op.operands];exact⟨x.1,e⟩) c a b k
theorem eh {f:FuncId} {xs:List Operand} {ts:Array TypeId} {S:cT} (j:aY P f) (m:eG Rl S) (i:Nat.blt d N=true)
 (b:∀w,Env w→oI (xs.map (look F)) w (λvs=>Calls P f vs.toArray w (aJ λv w'=>ao w w'∧S v w')))
 (k:cj P ops Env Rl mo Pn N rest (di F (some d) S) Z K):cj P ops Env Rl mo Pn N (⟨some d,.call {callee:=.value (.func f),args:=xs.toArray,argTypes:=ts},ty,pos,aft,none⟩::rest) F Z K:=
 tM (λ_=>m) i (λa w o h=>by
  have g:zl w (xs.map (look F)) (xs.map a.eval):=by
   have hm:∀x∈xs,look F x (a.eval x) w:=λx p=>h x (by simp[Op.operands,Call.operands,p])
   clear b h
   induction xs with
   |nil=>trivial
   |cons x xs r=>exact⟨hm x aj,r (λy q=>hm y (by simp[q]))⟩
  have c:=oI.use (b w o) g
  have l:(execOp a.eval ⟨some d,.call {callee:=.value (.func f),args:=xs.toArray,argTypes:=ts},ty,pos,aft,none⟩).run P w=.ok (.enter f (xs.map a.eval).toArray) w:=by
   simp only[execOp,resolve,nX,Act.eval,Deferred.ofValue,Sem.run_bind,Sem.run_pure,Result.andThen_ok,invoke,Ir,Bh j,Eh]
  rw[l]
  refine⟨ao.refl _,c.mono ?_⟩
  rintro e s ⟨v,rfl,n⟩
  exact⟨v,H,n⟩) k
theorem Wk {f:FuncId} {xs:List Operand} {ts:Array TypeId} {S:cT} {Z':ee} (n:aY P f) (hm:mo=true) (q:eG Rl S) (g:ig Z') (l:Nat.blt d N=true)
 (h:∀w,Env w→Z w→oI (xs.map (look F)) w (λvs=>Calls P f vs.toArray w (λe w'=>(∃v,e=.returned v∧Rl w w'∧S v w'∧Z' w')∨∃c,e=.panicked c∧Pn c w')))
 (k:cj P ops Env Rl mo Pn N rest (di F (some d) S) Z' K):cj P ops Env Rl mo Pn N (⟨some d,.call {callee:=.value (.func f),args:=xs.toArray,argTypes:=ts},ty,pos,aft,none⟩::rest) F Z K:=λ_ _=>by
 have o:d<N:=by simpa [BL] using l
 refine⟨S,Z',.inr ⟨hm,⟨H,q,g,λe m=>by obtain rfl:=cC m;exact o,λa w _ b hs g r=>?_,λa w _ _ _ _ b=>by simp[Region.wanted] at b⟩⟩,k⟩
 have j:zl w (xs.map (look F)) (xs.map a.eval):=by
  have hm:∀x∈xs,look F x (a.eval x) w:=λx s=>by
   cases x with
   |tmp t=>exact hs t (IX _ (List.mem_filterMap.2 ⟨.tmp t,by simp[Op.operands,Call.operands,s],rfl⟩))
   |_=>rfl
  clear h hs r
  induction xs with
  |nil=>trivial
  |cons x xs z=>exact⟨hm x aj,z (λy u=>hm y (by simp[u]))⟩
 have i:=oI.use (h w b g) j
 have p:(execOp a.eval ⟨some d,.call {callee:=.value (.func f),args:=xs.toArray,argTypes:=ts},ty,pos,aft,none⟩).run P w=.ok (.enter f (xs.map a.eval).toArray) w:=by
  simp only[execOp,resolve,nX,Act.eval,Deferred.ofValue,Sem.run_bind,Sem.run_pure,Result.andThen_ok,invoke,Ir,Bh n,Eh]
 rw[p]
 exact i
theorem Wn {xs:List Operand} {ts:Array TypeId} {r:Value} (a:xs.map (look F)=vs.map Is) (b:Nat.blt d N=true) (c:∀w,Env w→(Builtin.len_ ts ty vs.toArray).run P w=.ok r w)
 (k:cj P ops Env Rl mo Pn N rest (di F (some d) (Is r)) Z K):cj P ops Env Rl mo Pn N (⟨some d,.call {callee:=.builtin .len,args:=xs.toArray,argTypes:=ts},ty,pos,aft,none⟩::rest) F Z K:=
 uF (xs:=xs) (vs:=vs) (f:=λvs=>Builtin.len_ ts ty vs.toArray) (λρ=>by simp only[execOp,resolve,invoke,builtin,pure_bind,nX]) (λx a=>by simp[Op.operands,Call.operands,a]) a b c k
theorem mE {xs:List Operand} {ts:Array TypeId} {r:Value} (a:(xs.map (look F),Nat.blt d N)=(vs.map Is,true)) (b:∀w,Env w→(Builtin.len_ ts ty vs.toArray).run P w=.ok r w) (k:cj P ops Env Rl mo Pn N rest (di F (some d) (Is r)) Z K):cj P ops Env Rl mo Pn N (⟨some d,.call {callee:=.builtin .len,args:=xs.toArray,argTypes:=ts},ty,pos,aft,none⟩::rest) F Z K:=Wn (bZ a).1 (bZ a).2 b k
end
def U8 (b:UInt8):Value:=.int .u8 (b.toNat:Int)
def bz (x:UInt32):Value:=.int .u32 (x.toNat:Int)
def bk (x:UInt64):Value:=.int .u64 (x.toNat:Int)
def I (n:Int):Value:=.int .i64 n
def B (b:Bool):Value:=.bool b
theorem ao.cell {w w':World} (h:ao w w') {a:Addr} (b:a.block<w.heap.size):w'.cell? a=w.cell? a:=Below.cell h b
theorem ao.a0 (h:ao w w') (b:w.cell? a=some v):w'.cell? a=some v:=(h.cell (World.block_lt_of_cell? w a b)).ai b
theorem ao.heap {w w':World} (h:ao w w') {g:Nat} (a:g<w.heap.size):w'.heap[g]? =w.heap[g]? :=h.block g a
theorem ao.bM (h:ao w w') {o:Obj} (a:w.heap[g]? =some o):w'.heap[g]? =some o:=
 (h.heap (jB.1 a).1).ai a
theorem ao.size {w w':World} (h:ao w w'):w.heap.size≤w'.heap.size:=Below.size h
theorem ao.new (w:World) (o:Obj):ao w (w.alloc o):=(ao.refl w).alloc o
theorem ao.a7 (h:ao w0 w) {a:Option Nat} (b:w.grownBy w' a) (c:∀k,a=some k→w0.heap.size≤k):ao w0 w':=
 Below.grown h b h.size c
def ez (w:World) (a:Addr) (xs:List Value):Prop:=∀j u,xs[j]? =some u→w.cell? (a.add j)=some u
theorem vN (a:Addr) (n:Nat):(a.add n).block=a.block:=by unfold Addr.add;split<;>rfl
theorem Fy (a:Addr) (i j:Nat):(a.add i).add j=a.add (i+j):=by
 unfold Addr.add
 by_cases hi:i=0<;>by_cases b:j=0<;>simp[hi,b,pm]
theorem tD (a:Addr):a.add 0=a:=by simp[Addr.add]
theorem vO (b o n:Nat):(⟨b,o,none⟩:Addr).add n=⟨b,o+n,none⟩:=by
 unfold Addr.add
 split
 ·rename_i h;subst h;rfl
 ·rfl
theorem ez.aL (h:ez w a xs) (c:ao w w'):ez w' a xs:=λj u b=>c.a0 (h j u b)
theorem ez.drop {w:World} {a:Addr} {xs:List Value} (h:ez w a xs) (k:Nat):ez w (a.add k) (xs.drop k):=λj u b=>by
 rw[Fy]
 exact h (k+j) u (by rw[←b,rO])
theorem ez.take {w:World} {a:Addr} {xs:List Value} (h:ez w a xs) (k:Nat):ez w a (xs.take k):=λj u b=>by
 rw[EF] at b
 split at b
 ·exact h j u b
 ·cases b
def Sl (sz:Nat) (xs:List Value):cT:=λv w=>∃A n c,v=.slice A n c∧n≤c∧c≤maxLen∧xs.length=n*sz∧(0<n→∃ad,A=some ad∧ez w ad xs)∧(A=none→c=0)
theorem Sl.a3 (sz:Nat) (xs:List Value):cN (Sl sz xs):=λv w w' h j=>by
 obtain⟨A,n,c,a,b,d,e,f,g⟩:=h
 exact⟨A,n,c,a,b,d,e,λi=>(f i).imp λad h=>⟨h.1,h.2.aL j⟩,g⟩
theorem Sl.aL (h:Sl sz xs v w) (a:ao w w'):Sl sz xs v w':=Sl.a3 sz xs v w w' h a
theorem Sl.nil (sz:Nat) (w:World):Sl sz [] (.slice none 0 0) w:=⟨none,0,0,rfl,bV _,pq _,aj,λh=>absurd h G,λ_=>rfl⟩
theorem Sl.b2 {base:Nat} {e:TypeId} (h:w.ownsRow base e sz v n xs):Sl sz xs v w:=by
 rcases h.2 with⟨rfl,rfl⟩|⟨g,a,cur,rfl,c,d,b,hm,hs,f⟩
 ·have:xs=[]:=gT (by simpa using h.1)
  subst this
  exact Sl.nil sz w
 ·exact⟨some ⟨g,0,none⟩,n,a,H,b,hm,h.1,λ_=>⟨_,H,h.cells (g:=g) H⟩,λh=>by cases h⟩
theorem uN {base:Nat} {e:TypeId} (h:w.ownsRow base e sz v n xs) (d:ao w w'):w'.ownsRow base e sz v n xs:=by
 refine⟨h.1,?_⟩
 rcases h.2 with h|⟨g,a,cur,rfl,b,c,rest⟩
 ·exact .inl h
 ·exact .inr ⟨g,a,cur,H,b,d.bM c,rest⟩
theorem Hb {base a:Nat} {e:TypeId} (h:w.ownsRow base e sz v n xs) (c:∀k,v.ownBlock=some k→a≤k):w.ownsRow a e sz v n xs:=by
 refine⟨h.1,?_⟩
 rcases h.2 with h|⟨g,b,cur,rfl,_,d,rest⟩
 ·exact .inl h
 ·exact .inr ⟨g,b,cur,H,c g H,d,rest⟩
structure d9 (w w':World) (v v':Value):Prop where
 grown:w.grownBy w' v.ownBlock
 own:v'.ownBlock=v.ownBlock∨∀k,v'.ownBlock=some k→w.heap.size≤k
theorem d9.ai {a b c:World} {v u z:Value} (h:d9 a b v u) (k:d9 b c u z):d9 a c v z:=by
 refine⟨⟨k.grown.os.ai h.grown.os,k.grown.tape.ai h.grown.tape,k.grown.output.ai h.grown.output,cf h.grown.size k.grown.size,λi hi f=>?_⟩,?_⟩
 ·refine(k.grown.block i (eT hi h.grown.size) ?_).ai (h.grown.block i hi f)
  rcases h.own with d|d
  ·rw[d];exact f
  ·intro l
   have:=d i l.symm
   omega
 ·rcases k.own with e|e
  ·rw[e];exact h.own
  ·exact .inr λj g=>cf h.grown.size (e j g)
theorem d9.aL {a b c:World} (h:d9 a b v u) (k:ao b c):d9 a c v u:=
 ⟨⟨xH k.os h.grown.os,xH k.tape h.grown.tape,xH k.output h.grown.output,cf h.grown.size k.size,λi hi d=>(k.heap (eT hi h.grown.size)).ai (h.grown.block i hi d)⟩,h.own⟩
theorem d9.a8 {a b:World} (h:ao a b) (c:u.ownBlock=v.ownBlock∨∀k,u.ownBlock=some k→a.heap.size≤k):d9 a b v u:=
 ⟨⟨h.os,h.tape,h.output,h.size,λ_ hi _=>h.heap hi⟩,c⟩
theorem d9.before {a b c:World} (h:ao a b) (k:d9 b c v u):d9 a c v u:=
 ⟨⟨k.grown.os.ai h.os,k.grown.tape.ai h.tape,k.grown.output.ai h.output,cf h.size k.grown.size,λi hi f=>(k.grown.block i (eT hi h.size) f).ai (h.heap hi)⟩,k.own.imp_right λd j e=>cf h.size (d j e)⟩
inductive Item where
 |blk (g:Nat) (T:TypeId) (cs:Array Value)
 |row (v:Value) (e:TypeId) (sz n:Nat) (xs:List Value)
def Item.dd:Item→Option Nat
 |.blk g _ _=>some g
 |.row v _ _ _ _=>v.ownBlock
def Item.holds (base:Nat) (w:World):Item→Prop
 |.blk g T cs=>base≤g∧w.heap[g]? =some (.cells cs T (0,0))
 |.row v e sz n xs=>w.ownsRow base e sz v n xs
def Item.off (a b:Item):Prop:=a.dd=none∨a.dd≠b.dd
theorem Item.eW {base:Nat} {a:Item} (h:a.holds base w) (b:a.dd=some k):base≤k∧k<w.heap.size:=by
 cases a with
 |blk g T cs=>
  obtain rfl:g=k:=by simpa [Item.dd] using b
  exact⟨h.1,(jB.1 h.2).1⟩
 |row v e sz n xs=>exact World.ownsRow.lt h k b
theorem Item.d8 {base:Nat} {a:Item} (h:a.holds base w) (b:ao w w'):a.holds base w':=by
 cases a with
 |blk g T cs=>exact⟨h.1,b.bM h.2⟩
 |row v e sz n xs=>exact uN h b
structure Hp (w0 w:World) (its:List Item):Prop where
 aL:ao w0 w
 holds:∀it∈its,it.holds w0.heap.size w
 apart:its.Pairwise Item.off
section
variable {w0 w w':World} {its:List Item} {a b c d:Item}
theorem Hp.nil (w:World):Hp w w []:=⟨ao.refl w,aj,List.Pairwise.nil⟩
theorem Hp.grow (h:Hp w0 w its) (a:ao w w'):Hp w0 w' its:=⟨h.aL.ai a,λb hi=>Item.d8 (h.holds b hi) a,h.apart⟩
theorem Hp.drop (h:Hp w0 w (a::its)):Hp w0 w its:=⟨h.aL,λb hi=>h.holds b (by simp[hi]),(List.pairwise_cons.1 h.apart).2⟩
theorem Hp.one (h:Hp w0 w (a::its)):a.holds w0.heap.size w:=h.holds a aj
theorem Hp.add (h:Hp w0 w its) (i:ao w w') (f:a.holds w0.heap.size w') (g:∀k,a.dd=some k→w.heap.size≤k):Hp w0 w' (a::its):=by
 have b:=h.grow i
 refine⟨b.aL,λc hi=>?_,List.pairwise_cons.2 ⟨λc hi=>?_,b.apart⟩⟩
 ·rcases lF.1 hi with rfl|hi
  ·exact f
  ·exact b.holds c hi
 ·unfold Item.off
  cases e:a.dd with
  |none=>exact .inl rfl
  |some k=>
   refine .inr λd=>?_
   have j:=(Item.eW (h.holds c hi) d.symm).2
   have l:=g k e
   omega
theorem mF (w:World) (g i:Nat) (u:Value):w.grownBy (w.setCell ⟨g,i,none⟩ u) (some g):=
 ⟨rfl,rfl,rfl,by simp[World.setCell],λk _ a=>Below.heap_setCell w ⟨g,i,none⟩ u k (λe=>a (by rw[e]))⟩
theorem yC {T:TypeId} {cs:Array Value} (h:w.heap[g]? =some (.cells cs T (0,0))) (i:Nat) (u:Value):(w.setCell ⟨g,i,none⟩ u).heap[g]? =some (.cells (cs.setIfInBounds i u) T (0,0)):=by
 simp[World.setCell,Array.getElem?_modify,h]
theorem Hp.cell {g:Nat} {T:TypeId} {cs:Array Value} (h:Hp w0 w (.blk g T cs::its)) (i:Nat):w.cell? ⟨g,i,none⟩=cs[i]? :=cell_of_row w g i cs T (0,0) h.one.2
end
section
variable {P:Program} {w:World}
theorem D {t:TypeId} {d:TypeDesc} {a:Addr} {v:Value} (e:P.underlying t=some d) (f:(match d with|.struct _|.array _ _=>true|_=>false)=false) (c:w.cell? a=some v):
 (Instr.loadAt t (.pointer (some a))).run P w=.ok v w:=by
 have b:(isAgg t).run P w=.ok false w:=by
  unfold isAgg
  simp only[Sem.run_bind,run_underlying e,Result.andThen_ok]
  cases d<;>simp_all
 simp only[Instr.loadAt,Instr.sureAddr,loadVar,Sem.run_bind,Sem.run_pure,Result.andThen_ok,b,Bool.false_eq_true,if_false]
 simp[c]
abbrev aw:=@D
theorem pZ {t:TypeId} {cs:Array Value} {T:TypeId} (hs:(P.info? t).map (·.size)=some 1) (b:v.oneCell'=true) (a:w.heap[g]? =some (.cells cs T (0,0))) (hi:i<cs.size):
 (Instr.storeAt t (.pointer (some ⟨g,i,none⟩)) v).run P w=.ok () (w.setCell ⟨g,i,none⟩ v):=by
 obtain⟨l,k,j⟩:=gU.1 hs
 have fV:v.cells= #[v]:=by cases v<;>first|rfl|cases b
 have c:w.cell? ⟨g,i,none⟩=some cs[i]:=by rw[cell_of_row w g i cs T (0,0) a];simp[hi]
 have d:w.frozen? ⟨g,i,none⟩=false:=frozen_of_row w g i cs T a
 have f:=run_store P w ⟨g,i,none⟩ v .plain b
 have e:stored P w ⟨g,i,none⟩ v .plain=.ok () (w.setCell ⟨g,i,none⟩ v):=by simp[stored,c,d]
 simp only[Instr.storeAt,Instr.sureAddr,storeVar,Sem.run_bind,Sem.run_pure,Result.andThen_ok,sizeOf,typeInfo,k,program,Sem.run,fV,storeCells]
 have h:(store ⟨g,i,none⟩ v).run P w=.ok () (w.setCell ⟨g,i,none⟩ v):=f.ai e
 simp[j,tD,h]
theorem Do {base:Nat} {t e:TypeId} {size bytes:Nat} (f:P.underlying t=some (.slice e)) (hi:(P.info? e).map (λi=>(i.zero,i.size,i.bytes))=some (some z,size,bytes)) (K:z.cells.size=size) (r:0<size)
 (d:w.ownsRow base e size v n xs) {x:Value} {a:List Value} (T:Sl size a x w) (M:∀u∈a,u.oneCell'=true)
   (y:(xs.length+a.length)*bytes≤140737488355328*size) (N:0<bytes) (C:base≤w.heap.size):
   ∃v' w' U,(Builtin.append_ #[t,t] ty #[v,x]).run P w=.ok v' w'∧w'.ownsRow base e size v' U (xs++a)∧d9 w w' v v':=by
  obtain⟨i,hi,J,G,D⟩:=info_parts hi
  obtain⟨A,m,c,rfl,X,W,q,fV,Y⟩:=T
  have F:(n+m)*bytes≤140737488355328:=by
   have L:xs.length+a.length=(n+m)*size:=by rw[d.1,q,fk]
   rw[L] at y
   have:(n+m)*bytes*size≤140737488355328*size:=by rw[zH];exact y
   exact zG this r
  have s:n+m≤maxLen:=by
   have:n+m≤(n+m)*bytes:=qD _ N
   unfold maxLen;omega
  rcases fm m with rfl|hm
  ·have Q:a=[]:=gT (by simpa using q)
   subst Q
   cases A with
   |none=>
    have S:(Builtin.append_ #[t,t] ty #[v,.slice none 0 c]).run P w=.ok v w:=by
     rcases d.2 with⟨rfl,rfl⟩|⟨g,V,cur,rfl,_,_,R,_⟩
     ·simp[Builtin.append_,run_underlying f,sizeOf,typeInfo,hi,Builtin.lenOf,Builtin.firstCells]
     ·simp[Builtin.append_,run_underlying f,sizeOf,typeInfo,hi,Builtin.lenOf,Builtin.firstCells,R,storeCells]
    exact⟨v,w,n,S,by simpa using d,d9.a8 (ao.refl w) (.inl H)⟩
   |some ad=>
    obtain⟨v',w',j,l,o,_,p⟩:=run_append_own_at (P:=P) w base t ty e i z size bytes f hi J G D K r v n xs d ad 0 c [] aj aj aj s F C
    exact⟨v',w',_,j,l,o,p.imp_right λh k b=>by rw[h] at b;exact xP (cC b)⟩
  ·obtain⟨ad,rfl,O⟩:=fV hm
   obtain⟨v',w',j,l,o,_,p⟩:=run_append_own_at (P:=P) w base t ty e i z size bytes f hi J G D K r v n xs d ad m c a q O M s F C
   exact⟨v',w',_,j,l,o,p.imp_right λh k b=>by rw[h] at b;exact xP (cC b)⟩
theorem Hl {t:TypeId} {e:TypeId} (f:P.underlying t=some (.slice e)) (h:Sl sz xs v w):∃n,xs.length=n*sz∧n≤maxLen∧(Builtin.len_ #[t] ty #[v]).run P w=.ok (I n) w:=by
 obtain⟨A,n,c,rfl,d,a,b,_,_⟩:=h
 refine⟨n,b,cf d a,?_⟩
 simp[Builtin.len_,run_underlying f,goInt,I]
theorem Oh {t e:TypeId} (s:P.underlying t=some (.slice e)) (q:(P.info? e).map (·.size)=some sz) (h:Sl sz xs v w) {lo hi:Nat} (u:lo≤hi) (a:hi*sz≤xs.length) (j:0<sz) (d kh:IntKind):
 ∃r,(∀w':World,(Instr.sliceAt t v (some (.int d lo)) (some (.int kh hi)) none).run P w'=.ok r w')∧Sl sz ((xs.take (hi*sz)).drop (lo*sz)) r w:=by
 obtain⟨A,n,c,rfl,C,x,p,l,g⟩:=h
 obtain⟨i,o,hs⟩:=gU.1 q
 have y:hi≤n:=by
  rw[p] at a
  exact zG a j
 have k:∀w:World,(Instr.sliceBounds true n c (some (.int d lo)) (some (.int kh hi)) none).run P w=.ok (lo,hi,c) w:=λw=>by
  have f:=run_sliceBound (P:=P) (w:=w) kh (hi:Int) c .sliceAcap G G
  have a2:=run_sliceBound (P:=P) (w:=w) d (lo:Int) hi .sliceB G G
  simp only[kP] at f a2
  simp[Instr.sliceBounds,f,a2]
 refine⟨.slice (if c=lo then A else A.map (·.add (lo*sz))) (hi-lo) (c-lo),?_,?_⟩
 ·intro w';simp[Instr.sliceAt,Instr.slice,run_underlying s,k,sizeOf,typeInfo,o,hs]
 ·refine⟨_,_,_,H,G,G,?_,λz=>?_,λb=>?_⟩
  ·rw[gA,eS,iZ a,←Nat.sub_mul]
  ·obtain⟨ad,rfl,m⟩:=l G
   rw[if_neg G]
   exact⟨_,H,(m.take _).drop _⟩
  ·split at b
   ·have:=g b;omega
   ·cases A with
    |none=>have:=g rfl;omega
    |some ad=>cases b
theorem Hs {t e:TypeId} (q:P.underlying t=some (.slice e)) (p:(P.info? e).map (·.size)=some sz) (h:Sl sz xs v w) {lo:Nat} (d:lo*sz≤xs.length) (j:0<sz) (b:IntKind):
 ∃r,(∀w':World,(Instr.sliceAt t v (some (.int b lo)) none none).run P w'=.ok r w')∧Sl sz (xs.drop (lo*sz)) r w:=by
 obtain⟨A,n,c,rfl,y,s,f,l,g⟩:=h
 obtain⟨i,o,hs⟩:=gU.1 p
 have u:lo≤n:=by
  rw[f] at d
  exact zG d j
 have k:∀w:World,(Instr.sliceBounds true n c (some (.int b lo)) none none).run P w=.ok (lo,n,c) w:=λw=>by
  have a2:=run_sliceBound (P:=P) (w:=w) b (lo:Int) n .sliceB G G
  simp only[kP] at a2
  simp[Instr.sliceBounds,a2]
 refine⟨.slice (if c=lo then A else A.map (·.add (lo*sz))) (n-lo) (c-lo),?_,?_⟩
 ·intro w';simp[Instr.sliceAt,Instr.slice,run_underlying q,k,sizeOf,typeInfo,o,hs]
 ·refine⟨_,_,_,H,G,G,?_,λx=>?_,λa=>?_⟩
  ·rw[gA,f,←Nat.sub_mul]
  ·obtain⟨ad,rfl,m⟩:=l G
   rw[if_neg G]
   exact⟨_,H,m.drop _⟩
  ·split at a
   ·have:=g a;omega
   ·cases A with
    |none=>have:=g rfl;omega
    |some ad=>cases a
theorem Hr {t e:TypeId} (s:P.underlying t=some (.slice e)) (q:(P.info? e).map (·.size)=some sz) (h:Sl sz xs v w) {hi:Nat} (a:hi*sz≤xs.length) (d:0<sz) (kh:IntKind):
 ∃r,(∀w':World,(Instr.sliceAt t v none (some (.int kh hi)) none).run P w'=.ok r w')∧Sl sz (xs.take (hi*sz)) r w:=by
 obtain⟨A,n,c,rfl,z,u,o,k,p⟩:=h
 obtain⟨i,m,hs⟩:=gU.1 q
 have x:hi≤n:=by
  rw[o] at a
  exact zG a d
 have j:∀w:World,(Instr.sliceBounds true n c none (some (.int kh hi)) none).run P w=.ok (0,hi,c) w:=λw=>by
  have b:=run_sliceBound (P:=P) (w:=w) kh (hi:Int) c .sliceAcap G G
  simp only[kP] at b
  simp[Instr.sliceBounds,b]
 refine⟨.slice (if c=0 then A else A.map (·.add (0*sz))) (hi-0) (c-0),?_,?_⟩
 ·intro w';simp[Instr.sliceAt,Instr.slice,run_underlying s,j,sizeOf,typeInfo,m,hs]
 ·have g:(if c=0 then A else A.map (·.add (0*sz)))=A:=by
   split
   ·rfl
   ·cases A<;>simp[tD]
  rw[g]
  refine⟨_,_,_,H,G,G,?_,λy=>?_,λf=>by have:=p f;omega⟩
  ·rw[eS,iZ a];simp
  ·obtain⟨ad,rfl,l⟩:=k G
   exact⟨_,H,l.take _⟩
theorem Dx {t e:TypeId} (o:P.underlying t=some (.slice e)) (m:(P.info? e).map (·.size)=some sz) (h:Sl sz xs v w) (a:(i+1)*sz≤xs.length) (b:0<sz) (k:IntKind):
 ∃ad,(∀w':World,(Instr.indexAt t v (.int k i)).run P w'=.ok (.pointer (some ad)) w')∧ez w ad ((xs.drop (i*sz)).take sz):=by
 obtain⟨A,n,c,rfl,q,p,l,d,r⟩:=h
 obtain⟨s,g,hs⟩:=gU.1 m
 have j:i<n:=by
  rw[l] at a
  exact zG a b
 obtain⟨ad,rfl,f⟩:=d G
 refine⟨ad.add (i*sz),?_,(f.drop _).take _⟩
 intro w'
 simp[Instr.indexAt,asIntOf,run_underlying o,j,sizeOf,typeInfo,g,hs]
end
section
variable {P:Program} {w:World} {t:TypeId} {x y:Operand}
theorem fg {op:BinOp} {k c:IntKind} {a b:Int}:(bin op t x y (.int k a) (.int c b)).run P w=(binOp op t (.int k a) (.int c b)).run P w:=by
 unfold bin eqGuard
 cases op<;>rfl
theorem xB {n:Int} (a: -9223372036854775808≤n) (b:n≤9223372036854775807):IntKind.i64.wrap n=n:=by rw[IntKind.wrap_i64];omega
theorem dB {a b:Int} (c: -9223372036854775808≤a+b:=by omega) (d:a+b≤9223372036854775807:=by omega):(bin .add t x y (I a) (I b)).run P w=.ok (I (a+b)) w:=by
 unfold I;rw[fg];simp[binOp,Op.intArith,xB c d]
theorem cD (h:n<9223372036854775807:=by omega):(bin .add t x y (I (n:Int)) (I 1)).run P w=.ok (I ((n+1:Nat):Int)) w:=by
 have e:((n+1:Nat):Int)=(n:Int)+1:=G
 rw[e]
 exact dB
theorem dM {a b:Int} (c: -9223372036854775808≤a-b:=by omega) (d:a-b≤9223372036854775807:=by omega):(bin .sub t x y (I a) (I b)).run P w=.ok (I (a-b)) w:=by
 unfold I;rw[fg];simp[binOp,Op.intArith,xB c d]
theorem dh {a b:Int} (c: -9223372036854775808≤a*b) (d:a*b≤9223372036854775807):(bin .mul t x y (I a) (I b)).run P w=.ok (I (a*b)) w:=by
 unfold I;rw[fg];simp[binOp,Op.intArith,xB c d]
theorem tf {a b:Int} (c:0≤a) (g:0<b) (h:a≤9223372036854775807):(bin .quo t x y (I a) (I b)).run P w=.ok (I (a/b)) w:=by
 unfold I;rw[fg]
 have e:a.tdiv b=a/b:=Int.tdiv_eq_ediv_of_nonneg c
 have i:0≤a/b:=Int.ediv_nonneg c G
 have j:a/b≤a:=Int.ediv_le_self b c
 have d:IntKind.i64.wrap (a/b)=a/b:=xB G G
 have f:b≠0:=G
 simp[binOp,Op.intDiv,f,e,d]
theorem xo {a b:Int} (c:0≤a) (f:0<b):(bin .rem t x y (I a) (I b)).run P w=.ok (I (a%b)) w:=by
 unfold I;rw[fg]
 have e:a.tmod b=a%b:=Int.tmod_eq_emod_of_nonneg c
 have d:b≠0:=G
 simp[binOp,Op.intDiv,d,e]
theorem bO {a b:Int}:(bin .lss t x y (I a) (I b)).run P w=.ok (B (decide (a<b))) w:=by unfold I;rw[fg];rfl
theorem uT {a b:Int}:(bin .leq t x y (I a) (I b)).run P w=.ok (B (decide (a≤b))) w:=by unfold I;rw[fg];rfl
theorem cY {a b:Int}:(bin .gtr t x y (I a) (I b)).run P w=.ok (B (decide (a>b))) w:=by unfold I;rw[fg];rfl
theorem eU {a b:Int}:(bin .geq t x y (I a) (I b)).run P w=.ok (B (decide (a≥b))) w:=by unfold I;rw[fg];rfl
theorem FA {a b:Int}:(a==b)=decide (a=b):=rfl
theorem Kk {a b:Int}:(a !=b)=decide (a≠b):=by
 by_cases h:a=b<;>simp[h]
theorem aV {a b:Int}:(bin .eql t x y (I a) (I b)).run P w=.ok (B (decide (a=b))) w:=by unfold I;rw[fg];rfl
theorem dZ {a b:Int}:(bin .neq t x y (I a) (I b)).run P w=.ok (B (decide (a≠b))) w:=by
 unfold I;rw[fg,←Kk];rfl
theorem Y7 {a:Int} {k:IntKind} (s:Nat) (hs:s<64):(bin .shr t x y (I a) (.int k (s:Int))).run P w=.ok (I (a/2^s)) w:=by
 unfold I;rw[fg]
 have b:¬((s:Int)<0):=G
 have c:min s 64=s:=G
 have e:a.fdiv (2^s)=a/2^s:=IH _ (by exact Int.le_of_lt (Int.pow_pos G))
 simp only[binOp,Op.shift,if_neg b,kP,IntKind.bits,c,e]
 rfl
theorem Od {a:Int} (b: -9223372036854775808≤ -a) (c: -a≤9223372036854775807):(Op.unary .neg (I a)).run P w=.ok (I (-a)) w:=by
 have:IntKind.i64.wrap (0-a)= -a:=by rw[Int.zero_sub];exact xB b c
 simp only[I,Op.unary,Op.intArith,this];rfl
theorem Ok {a b:Int64}:(bin .xor t x y (I a.toInt) (I b.toInt)).run P w=.ok (I (a^^^b).toInt) w:=by
 unfold I;rw[fg]
 have e:IntKind.i64.wrap ((BitVec.ofInt 64 a.toInt^^^BitVec.ofInt 64 b.toInt).toNat:Int)=(a^^^b).toInt:=by
  have c:BitVec.ofInt 64 a.toInt=a.toBitVec:=BitVec.ofInt_toInt
  have d:BitVec.ofInt 64 b.toInt=b.toBitVec:=BitVec.ofInt_toInt
  rw[c,d,IntKind.wrap_i64]
  show _=(a.toBitVec^^^b.toBitVec).toInt
  rw[BitVec.toInt_eq_toNat_cond]
  have:=(a.toBitVec^^^b.toBitVec).isLt
  split<;>omega
 show Result.ok (Value.int .i64 (IntKind.i64.wrap ((BitVec.ofInt 64 a.toInt^^^BitVec.ofInt 64 b.toInt).toNat:Int))) w=_
 rw[e]
theorem cu {p:Prop} {a:Decidable p} {s:Sem Value} (h:p) (b:s.run P w=.ok (B (@decide p a)) w'):s.run P w=.ok (B true) w':=by rw[b,dH h]
theorem aX {p:Prop} {a:Decidable p} {s:Sem Value} (h:¬p) (b:s.run P w=.ok (B (@decide p a)) w'):s.run P w=.ok (B false) w':=by rw[b,bi h]
theorem cW {b:Bool}:(Op.unary .not (B b)).run P w=.ok (B (!b)) w:=rfl
theorem Bf {p:Prop} {a:Decidable p}:(Op.unary .not (B (@decide p a))).run P w=.ok (B (decide (¬p))) w:=by
 show Result.ok (Value.bool (!decide p)) w=_
 rw[←decide_not];rfl
theorem D9 (n:Nat):IntKind.u8.wrap (n:Int)=((n%256:Nat):Int):=by rw[IntKind.wrap_u8];omega
theorem GX (a:UInt8):a.toNat<256:=a.toNat_lt
theorem ofInt_u8 (a:UInt8):BitVec.ofInt 8 (a.toNat:Int)=a.toBitVec:=by
 rw[Iv];exact Iu aj
theorem Wd {a b:UInt8} (h:a.toNat=b.toNat):a=b:=UInt8.toNat_inj.1 h
theorem YZ {a b:UInt8}:(bin .lss t x y (U8 a) (U8 b)).run P w=.ok (B (decide (a<b))) w:=by
 unfold U8;rw[fg]
 have:decide (((a.toNat:Int))<(b.toNat:Int))=decide (a<b):=cA.2 (by rw[yb];omega)
 show Result.ok (Value.bool (decide (((a.toNat:Int))<(b.toNat:Int)))) w=_
 rw[this];rfl
theorem Hh {a b:UInt8}:(bin .gtr t x y (U8 a) (U8 b)).run P w=.ok (B (decide (a>b))) w:=by
 unfold U8;rw[fg]
 have:decide (((a.toNat:Int))>(b.toNat:Int))=decide (a>b):=cA.2 (by show _↔b<a;rw[yb];omega)
 show Result.ok (Value.bool (decide (((a.toNat:Int))>(b.toNat:Int)))) w=_
 rw[this];rfl
theorem Bb {a b:UInt8}:(bin .eql t x y (U8 a) (U8 b)).run P w=.ok (B (decide (a=b))) w:=by
 unfold U8;rw[fg]
 have:(((a.toNat:Int))==(b.toNat:Int))=decide (a=b):=by
  rw[FA];exact cA.2 ⟨λh=>Wd G,λh=>by rw[h]⟩
 show Result.ok (Value.bool (((a.toNat:Int))==(b.toNat:Int))) w=_
 rw[this];rfl
theorem Yz {a b:UInt8}:(bin .and t x y (U8 a) (U8 b)).run P w=.ok (U8 (a&&&b)) w:=by
 unfold U8;rw[fg]
 show Result.ok (Value.int .u8 (IntKind.u8.wrap ((BitVec.ofInt 8 (a.toNat:Int)&&&BitVec.ofInt 8 (b.toNat:Int)).toNat:Int))) w=_
 rw[ofInt_u8,ofInt_u8,D9,eN (by have:=(a.toBitVec&&&b.toBitVec).isLt;simpa using this)]
 rfl
theorem Y5 {a b:UInt8}:(bin .or t x y (U8 a) (U8 b)).run P w=.ok (U8 (a|||b)) w:=by
 unfold U8;rw[fg]
 show Result.ok (Value.int .u8 (IntKind.u8.wrap ((BitVec.ofInt 8 (a.toNat:Int)|||BitVec.ofInt 8 (b.toNat:Int)).toNat:Int))) w=_
 rw[ofInt_u8,ofInt_u8,D9,eN (by have:=(a.toBitVec|||b.toBitVec).isLt;simpa using this)]
 rfl
theorem vk (n:Nat):IntKind.u32.wrap (n:Int)=((n%4294967296:Nat):Int):=by rw[IntKind.wrap_u32];omega
theorem Nd (a:UInt32):a.toNat<4294967296:=a.toNat_lt
theorem ofInt_u32 (a:UInt32):BitVec.ofInt 32 (a.toNat:Int)=a.toBitVec:=by
 rw[Iv];exact Iu aj
theorem L9 {a b:UInt32} (h:a.toNat=b.toNat):a=b:=UInt32.toNat_inj.1 h
theorem pV {a b:UInt32}:(bin .add t x y (bz a) (bz b)).run P w=.ok (bz (a+b)) w:=by
 unfold bz;rw[fg]
 show Result.ok (Value.int .u32 (IntKind.u32.wrap (((a.toNat:Int))+(b.toNat:Int)))) w=_
 rw[←Eu,vk,UInt32.toNat_add]
theorem Ob {a b:UInt32}:(bin .lss t x y (bz a) (bz b)).run P w=.ok (B (decide (a<b))) w:=by
 unfold bz;rw[fg]
 have:decide (((a.toNat:Int))<(b.toNat:Int))=decide (a<b):=cA.2 (by rw[JV];omega)
 show Result.ok (Value.bool (decide (((a.toNat:Int))<(b.toNat:Int)))) w=_
 rw[this];rfl
theorem N5 {a b:UInt32}:(bin .gtr t x y (bz a) (bz b)).run P w=.ok (B (decide (a>b))) w:=by
 unfold bz;rw[fg]
 have:decide (((a.toNat:Int))>(b.toNat:Int))=decide (a>b):=cA.2 (by show _↔b<a;rw[JV];omega)
 show Result.ok (Value.bool (decide (((a.toNat:Int))>(b.toNat:Int)))) w=_
 rw[this];rfl
theorem Hg {a b:UInt32}:(bin .geq t x y (bz a) (bz b)).run P w=.ok (B (decide (a≥b))) w:=by
 unfold bz;rw[fg]
 have:decide (((a.toNat:Int))≥(b.toNat:Int))=decide (a≥b):=cA.2 (by show _↔b≤a;rw[UInt32.le_iff_toNat_le];omega)
 show Result.ok (Value.bool (decide (((a.toNat:Int))≥(b.toNat:Int)))) w=_
 rw[this];rfl
theorem Dq {a b:UInt32}:(bin .eql t x y (bz a) (bz b)).run P w=.ok (B (decide (a=b))) w:=by
 unfold bz;rw[fg]
 have:(((a.toNat:Int))==(b.toNat:Int))=decide (a=b):=by
  rw[FA];exact cA.2 ⟨λh=>L9 G,λh=>by rw[h]⟩
 show Result.ok (Value.bool (((a.toNat:Int))==(b.toNat:Int))) w=_
 rw[this];rfl
theorem yY {a b:UInt32}:(bin .neq t x y (bz a) (bz b)).run P w=.ok (B (decide (a≠b))) w:=by
 unfold bz;rw[fg]
 have:(((a.toNat:Int)) !=(b.toNat:Int))=decide (a≠b):=by
  rw[Kk];exact cA.2 ⟨λh c=>h (by rw[c]),λh c=>h (L9 G)⟩
 show Result.ok (Value.bool (((a.toNat:Int)) !=(b.toNat:Int))) w=_
 rw[this];rfl
theorem yQ {a b:UInt32}:(bin .and t x y (bz a) (bz b)).run P w=.ok (bz (a&&&b)) w:=by
 unfold bz;rw[fg]
 show Result.ok (Value.int .u32 (IntKind.u32.wrap ((BitVec.ofInt 32 (a.toNat:Int)&&&BitVec.ofInt 32 (b.toNat:Int)).toNat:Int))) w=_
 rw[ofInt_u32,ofInt_u32,vk,eN (by have:=(a.toBitVec&&&b.toBitVec).isLt;simpa using this)]
 rfl
theorem tY {a b:UInt32}:(bin .or t x y (bz a) (bz b)).run P w=.ok (bz (a|||b)) w:=by
 unfold bz;rw[fg]
 show Result.ok (Value.int .u32 (IntKind.u32.wrap ((BitVec.ofInt 32 (a.toNat:Int)|||BitVec.ofInt 32 (b.toNat:Int)).toNat:Int))) w=_
 rw[ofInt_u32,ofInt_u32,vk,eN (by have:=(a.toBitVec|||b.toBitVec).isLt;simpa using this)]
 rfl
theorem rt {a b:UInt32}:(bin .xor t x y (bz a) (bz b)).run P w=.ok (bz (a^^^b)) w:=by
 unfold bz;rw[fg]
 show Result.ok (Value.int .u32 (IntKind.u32.wrap ((BitVec.ofInt 32 (a.toNat:Int)^^^BitVec.ofInt 32 (b.toNat:Int)).toNat:Int))) w=_
 rw[ofInt_u32,ofInt_u32,vk,eN (by have:=(a.toBitVec^^^b.toBitVec).isLt;simpa using this)]
 rfl
theorem YI {a:UInt32}:(Op.unary .xor (bz a)).run P w=.ok (bz (~~~a)) w:=by
 show Result.ok (Value.int .u32 (IntKind.u32.wrap ((BitVec.ofInt 32 (4294967295:Int)^^^BitVec.ofInt 32 (a.toNat:Int)).toNat:Int))) w=_
 have e:BitVec.ofInt 32 (4294967295:Int)=BitVec.allOnes 32:=aF
 rw[ofInt_u32,e,BitVec.allOnes_xor,vk,eN (by have:=(~~~a.toBitVec).isLt;simpa using this)]
 rfl
theorem oz {a:UInt32} {k:IntKind} (s:Nat) (hs:s<32):(bin .shr t x y (bz a) (.int k (s:Int))).run P w=.ok (bz (a>>>UInt32.ofNat s)) w:=by
 unfold bz;rw[fg]
 have c:¬((s:Int)<0):=G
 have d:min s 32=s:=G
 have e:((a.toNat:Int)).fdiv (2^s)=((a.toNat/2^s:Nat):Int):=by
  rw[IH _ (by exact Int.le_of_lt (Int.pow_pos G))]
  simp
 have b:(a>>>UInt32.ofNat s).toNat=a.toNat/2^s:=by
  rw[zO,rU]
  have:(UInt32.ofNat s).toNat%32=s:=by rw[vL];omega
  rw[this]
 simp only[binOp,Op.shift,if_neg c,kP,IntKind.bits,d,e,←b]
 rfl
theorem uV {a:UInt32} {k:IntKind} (s:Nat) (hs:s<32):(bin .shl t x y (bz a) (.int k (s:Int))).run P w=.ok (bz (a<<<UInt32.ofNat s)) w:=by
 unfold bz;rw[fg]
 have c:¬((s:Int)<0):=G
 have d:min s 32=s:=G
 have b:(a<<<UInt32.ofNat s).toNat=a.toNat*2^s%4294967296:=by
  rw[JW,rT]
  have:(UInt32.ofNat s).toNat%32=s:=by rw[vL];omega
  rw[this]
 have e:((a.toNat:Int))*2^s=((a.toNat*2^s:Nat):Int):=aj
 simp only[binOp,Op.shift,if_neg c,kP,IntKind.bits,d,e,vk,←b]
 rfl
theorem tn (n:Nat):IntKind.u64.wrap (n:Int)=((n%18446744073709551616:Nat):Int):=by rw[IntKind.wrap_u64];omega
theorem uK (a:UInt64):a.toNat<18446744073709551616:=a.toNat_lt
theorem ofInt_u64 (a:UInt64):BitVec.ofInt 64 (a.toNat:Int)=a.toBitVec:=by
 rw[Iv];exact Iu aj
theorem Gk {a b:UInt64} (h:a.toNat=b.toNat):a=b:=UInt64.toNat_inj.1 h
theorem np {a b:UInt64}:(bin .add t x y (bk a) (bk b)).run P w=.ok (bk (a+b)) w:=by
 unfold bk;rw[fg]
 show Result.ok (Value.int .u64 (IntKind.u64.wrap (((a.toNat:Int))+(b.toNat:Int)))) w=_
 rw[←Eu,tn,UInt64.toNat_add]
theorem nO {a b:UInt64}:(bin .sub t x y (bk a) (bk b)).run P w=.ok (bk (a-b)) w:=by
 unfold bk;rw[fg]
 show Result.ok (Value.int .u64 (IntKind.u64.wrap (((a.toNat:Int))-(b.toNat:Int)))) w=_
 rw[IntKind.wrap_u64,UInt64.toNat_sub]
 have:=uK a;have:=uK b
 have e:((a.toNat:Int)-(b.toNat:Int))%18446744073709551616=(((18446744073709551616-b.toNat+a.toNat)%18446744073709551616:Nat):Int):=G
 rw[e]
theorem Be {a b:UInt64}:(bin .mul t x y (bk a) (bk b)).run P w=.ok (bk (a*b)) w:=by
 unfold bk;rw[fg]
 show Result.ok (Value.int .u64 (IntKind.u64.wrap (((a.toNat:Int))*(b.toNat:Int)))) w=_
 rw[←qu,tn,JX]
theorem Dz {a b:UInt64} (d:b≠0):(bin .quo t x y (bk a) (bk b)).run P w=.ok (bk (a/b)) w:=by
 unfold bk;rw[fg]
 have g:b.toNat≠0:=λh=>d (Gk (by simpa using h))
 have c:(b.toNat:Int)≠0:=G
 have e:((a.toNat:Int)).tdiv (b.toNat:Int)=((a.toNat/b.toNat:Nat):Int):=rfl
 have f:a.toNat/b.toNat<18446744073709551616:=nA (EQ _ _) (uK a)
 simp only[binOp,Op.intDiv,ne_eq,not_true_eq_false,if_false,if_neg c,e,tn,eN f,xZ]
 rfl
theorem DA {a b:UInt64} (d:b≠0):(bin .rem t x y (bk a) (bk b)).run P w=.ok (bk (a%b)) w:=by
 unfold bk;rw[fg]
 have f:b.toNat≠0:=λh=>d (Gk (by simpa using h))
 have c:(b.toNat:Int)≠0:=G
 have e:((a.toNat:Int)).tmod (b.toNat:Int)=((a.toNat%b.toNat:Nat):Int):=rfl
 simp only[binOp,Op.intDiv,ne_eq,not_true_eq_false,if_false,if_neg c,e,ya]
 rfl
theorem Oc {a b:UInt64}:(bin .lss t x y (bk a) (bk b)).run P w=.ok (B (decide (a<b))) w:=by
 unfold bk;rw[fg]
 have:decide (((a.toNat:Int))<(b.toNat:Int))=decide (a<b):=cA.2 (by rw[kW];omega)
 show Result.ok (Value.bool (decide (((a.toNat:Int))<(b.toNat:Int)))) w=_
 rw[this];rfl
theorem oy {a b:UInt64}:(bin .gtr t x y (bk a) (bk b)).run P w=.ok (B (decide (a>b))) w:=by
 unfold bk;rw[fg]
 have:decide (((a.toNat:Int))>(b.toNat:Int))=decide (a>b):=cA.2 (by show _↔b<a;rw[kW];omega)
 show Result.ok (Value.bool (decide (((a.toNat:Int))>(b.toNat:Int)))) w=_
 rw[this];rfl
theorem Bc {a b:UInt64}:(bin .geq t x y (bk a) (bk b)).run P w=.ok (B (decide (a≥b))) w:=by
 unfold bk;rw[fg]
 have:decide (((a.toNat:Int))≥(b.toNat:Int))=decide (a≥b):=cA.2 (by show _↔b≤a;rw[vM];omega)
 show Result.ok (Value.bool (decide (((a.toNat:Int))≥(b.toNat:Int)))) w=_
 rw[this];rfl
theorem Dr {a b:UInt64}:(bin .eql t x y (bk a) (bk b)).run P w=.ok (B (decide (a=b))) w:=by
 unfold bk;rw[fg]
 have:(((a.toNat:Int))==(b.toNat:Int))=decide (a=b):=by
  rw[FA];exact cA.2 ⟨λh=>Gk G,λh=>by rw[h]⟩
 show Result.ok (Value.bool (((a.toNat:Int))==(b.toNat:Int))) w=_
 rw[this];rfl
theorem NV {a b:UInt64}:(bin .and t x y (bk a) (bk b)).run P w=.ok (bk (a&&&b)) w:=by
 unfold bk;rw[fg]
 show Result.ok (Value.int .u64 (IntKind.u64.wrap ((BitVec.ofInt 64 (a.toNat:Int)&&&BitVec.ofInt 64 (b.toNat:Int)).toNat:Int))) w=_
 rw[ofInt_u64,ofInt_u64,tn,eN (by have:=(a.toBitVec&&&b.toBitVec).isLt;simpa using this)]
 rfl
theorem uU {a b:UInt64}:(bin .or t x y (bk a) (bk b)).run P w=.ok (bk (a|||b)) w:=by
 unfold bk;rw[fg]
 show Result.ok (Value.int .u64 (IntKind.u64.wrap ((BitVec.ofInt 64 (a.toNat:Int)|||BitVec.ofInt 64 (b.toNat:Int)).toNat:Int))) w=_
 rw[ofInt_u64,ofInt_u64,tn,eN (by have:=(a.toBitVec|||b.toBitVec).isLt;simpa using this)]
 rfl
theorem Zj {a b:UInt64}:(bin .xor t x y (bk a) (bk b)).run P w=.ok (bk (a^^^b)) w:=by
 unfold bk;rw[fg]
 show Result.ok (Value.int .u64 (IntKind.u64.wrap ((BitVec.ofInt 64 (a.toNat:Int)^^^BitVec.ofInt 64 (b.toNat:Int)).toNat:Int))) w=_
 rw[ofInt_u64,ofInt_u64,tn,eN (by have:=(a.toBitVec^^^b.toBitVec).isLt;simpa using this)]
 rfl
theorem j6 {a:UInt64} {k:IntKind} (s:Nat) (hs:s<64):(bin .shr t x y (bk a) (.int k (s:Int))).run P w=.ok (bk (a>>>UInt64.ofNat s)) w:=by
 unfold bk;rw[fg]
 have c:¬((s:Int)<0):=G
 have d:min s 64=s:=G
 have e:((a.toNat:Int)).fdiv (2^s)=((a.toNat/2^s:Nat):Int):=by
  rw[IH _ (by exact Int.le_of_lt (Int.pow_pos G))]
  simp
 have b:(a>>>UInt64.ofNat s).toNat=a.toNat/2^s:=by
  rw[BZ,rU]
  have:(UInt64.ofNat s).toNat%64=s:=by rw[jo];omega
  rw[this]
 simp only[binOp,Op.shift,if_neg c,kP,IntKind.bits,d,e,←b]
 rfl
theorem tg {a:UInt64} {k:IntKind} (s:Nat) (hs:s<64):(bin .shl t x y (bk a) (.int k (s:Int))).run P w=.ok (bk (a<<<UInt64.ofNat s)) w:=by
 unfold bk;rw[fg]
 have c:¬((s:Int)<0):=G
 have d:min s 64=s:=G
 have b:(a<<<UInt64.ofNat s).toNat=a.toNat*2^s%18446744073709551616:=by
  rw[Fq,rT]
  have:(UInt64.ofNat s).toNat%64=s:=by rw[jo];omega
  rw[this]
 have e:((a.toNat:Int))*2^s=((a.toNat*2^s:Nat):Int):=aj
 simp only[binOp,Op.shift,if_neg c,kP,IntKind.bits,d,e,tn,←b]
 rfl
theorem sY {d:TypeId} {ds:TypeDesc} {j k:IntKind} {n:Int} (hs:P.underlying s=some ds) (a:P.underlying d=some (.int k)):(convert s d (.int j n)).run P w=.ok (.int k (k.wrap n)) w:=by
 simp only[convert,Sem.run_bind,run_underlying hs,run_underlying a,Result.andThen_ok]
 rfl
section
variable {s d:TypeId} {ds:TypeDesc} (hs:P.underlying s=some ds)
include hs
theorem uX {a:UInt8} (b:P.underlying d=some (.int .u32)):(convert s d (U8 a)).run P w=.ok (bz a.toUInt32) w:=by
 unfold U8 bz;rw[sY hs b,vk]
 have:=GX a
 have e:a.toUInt32.toNat=a.toNat%4294967296:=aj
 rw[e]
theorem Zg {a:UInt8} (b:P.underlying d=some (.int .u64)):(convert s d (U8 a)).run P w=.ok (bk a.toUInt64) w:=by
 unfold U8 bk;rw[sY hs b,tn]
 have:=GX a
 have e:a.toUInt64.toNat=a.toNat%18446744073709551616:=aj
 rw[e]
theorem DE {a:UInt8} (b:P.underlying d=some (.int .i64)):(convert s d (U8 a)).run P w=.ok (I (a.toNat:Int)) w:=by
 unfold U8 I;have:=GX a;rw[sY hs b,xB G G]
theorem qe {a:UInt32} (b:P.underlying d=some (.int .u8)):(convert s d (bz a)).run P w=.ok (U8 a.toUInt8) w:=by
 unfold bz U8;rw[sY hs b,D9]
 have:=Nd a
 have e:a.toUInt8.toNat=a.toNat%256:=aj
 rw[e]
theorem fK {a:UInt32} (b:P.underlying d=some (.int .u64)):(convert s d (bz a)).run P w=.ok (bk a.toUInt64) w:=by
 unfold bz bk;rw[sY hs b,tn]
 have:=Nd a
 have e:a.toUInt64.toNat=a.toNat%18446744073709551616:=aj
 rw[e]
theorem Ht {a:UInt64} (b:P.underlying d=some (.int .u8)):(convert s d (bk a)).run P w=.ok (U8 a.toUInt8) w:=by
 unfold bk U8;rw[sY hs b,D9]
 have:=uK a
 have e:a.toUInt8.toNat=a.toNat%256:=aj
 rw[e]
theorem gL {a:UInt64} (b:P.underlying d=some (.int .u32)):(convert s d (bk a)).run P w=.ok (bz a.toUInt32) w:=by
 unfold bk bz;rw[sY hs b,vk]
 have:=uK a
 have e:a.toUInt32.toNat=a.toNat%4294967296:=aj
 rw[e]
theorem yV {a:Int} (c:P.underlying d=some (.int .u64)):(convert s d (I a)).run P w=.ok (bk (UInt64.ofInt a)) w:=by
 unfold I bk;rw[sY hs c,IntKind.wrap_u64]
 have e:((UInt64.ofInt a).toNat:Int)=a%18446744073709551616:=by
  have b:(2:Int)^64=18446744073709551616:=aF
  rw[UInt64.ofInt,b,jo];omega
 rw[e]
theorem yX {a:Nat} (b:P.underlying d=some (.int .u64)):(convert s d (I (a:Int))).run P w=.ok (bk (UInt64.ofNat a)) w:=by
 unfold I bk;rw[sY hs b,tn,jo]
theorem DD {a:UInt64} (b:P.underlying d=some (.int .i64)) (h:a.toNat<9223372036854775808):(convert s d (bk a)).run P w=.ok (I (a.toNat:Int)) w:=by
 unfold bk I;rw[sY hs b,xB G G]
end
def S (l:List UInt8):Value:=.string ⟨l.toArray⟩
theorem YL {a b:List UInt8}:(bin .eql t x y (S a) (S b)).run P w=.ok (B (decide (a=b))) w:=by
 show Result.ok (Value.bool ((⟨a.toArray⟩:ByteArray).toList==(⟨b.toArray⟩:ByteArray).toList)) w=_
 rw[ByteArray.toList_mk,ByteArray.toList_mk]
 have e:(a==b)=decide (a=b):=by by_cases h:a=b<;>simp[h]
 rw[e];rfl
theorem Hn {a b:List UInt8}:(bin .neq t x y (S a) (S b)).run P w=.ok (B (decide (a≠b))) w:=by
 show Result.ok (Value.bool (!((⟨a.toArray⟩:ByteArray).toList==(⟨b.toArray⟩:ByteArray).toList))) w=_
 rw[ByteArray.toList_mk,ByteArray.toList_mk]
 have e:(!(a==b))=decide (a≠b):=by by_cases h:a=b<;>simp[h]
 rw[e];rfl
theorem Tb (a b:List UInt8):(⟨a.toArray⟩:ByteArray)++⟨b.toArray⟩=⟨(a++b).toArray⟩:=by
 apply ByteArray.ext
 simp
theorem nm {a b:List UInt8} (h:a.length+b.length≤9223372036854775807):(bin .add t x y (S a) (S b)).run P w=.ok (S (a++b)) w:=by
 have e:IntKind.i64.max=9223372036854775807:=aF
 have:¬(((((⟨a.toArray⟩:ByteArray).size+(⟨b.toArray⟩:ByteArray).size:Nat)):Int)>IntKind.i64.max):=by
  have c:(⟨a.toArray⟩:ByteArray).size=a.length:=by simp[ByteArray.size]
  have d:(⟨b.toArray⟩:ByteArray).size=b.length:=by simp[ByteArray.size]
  rw[e,c,d];omega
 show(Op.stringOp .add ⟨a.toArray⟩ ⟨b.toArray⟩).run P w=_
 simp only[Op.stringOp,if_neg this,Tb];rfl
end
def val:List UInt32→Nat
 |[]=>0
 |x::l=>x.toNat+4294967296*val l
def tr:List UInt32→List UInt32
 |[]=>[]
 |x::l=>match tr l with
  |[]=>if x=0 then[] else[x]
  |y::m=>x::y::m
def tN:Nat→Nat→List UInt32
 |0,_=>[]
 |f+1,n=>if n=0 then[] else UInt32.ofNat (n%4294967296)::tN f (n/4294967296)
def lb (n:Nat):List UInt32:=tN n n
theorem MP:∀(f g n:Nat),n≤f→n≤g→tN f n=tN g n
 |0,0,n,_,_=>rfl
 |0,g+1,n,h,_=>by simp[tN,show n=0 by omega]
 |f+1,0,n,_,h=>by simp[tN,show n=0 by omega]
 |f+1,g+1,n,a,b=>by
  simp only[tN]
  split
  ·rfl
  ·rw[MP f g (n/4294967296) G G]
theorem nh:lb 0=[]:=rfl
theorem wR (h:0<n):lb n=UInt32.ofNat (n%4294967296)::lb (n/4294967296):=by
 obtain⟨m,rfl⟩:∃m,n=m+1:=⟨n-1,G⟩
 show tN (m+1) (m+1)=_
 simp only[tN]
 rw[if_neg G,MP m ((m+1)/4294967296) _ G (bV _)]
 rfl
theorem ep (x:UInt32):x.toNat<4294967296:=x.toNat_lt
theorem H5 (h:n<4294967296):(UInt32.ofNat n).toNat=n:=by rw[vL];omega
theorem ve {x y:UInt32} (h:x.toNat=y.toNat):x=y:=UInt32.toNat_inj.1 h
theorem aap {x:UInt32} (h:x≠0):0<x.toNat:=by
 rcases fm x.toNat with a|a
 ·exact absurd (ve (y:=0) a) h
 ·exact a
theorem cH (n:Nat):val (lb n)=n:=by
 induction n using Nat.strongRecOn with
 |ind n a=>
  rcases fm n with rfl|h
  ·rfl
  ·rw[wR h,val,a _ G,H5 G]
   omega
theorem rE:∀(l m:List UInt32),val (l++m)=val l+4294967296^l.length*val m
 |[],m=>by simp[val]
 |x::l,m=>by
  rw[nU,val,rE l m,val,cw,gj,f6,←fu,fw (4294967296^l.length),pm]
theorem en:∀(l:List UInt32),val l<4294967296^l.length
 |[]=>by simp[val]
 |x::l=>by
  have:=en l
  have a:=ep x
  rw[val,cw,gj]
  have:4294967296*(val l+1)≤4294967296*4294967296^l.length:=nY _ this
  rw[fw (4294967296^l.length)]
  omega
theorem D5 (n:Nat):val (List.replicate n 0)=0:=by
 induction n with
 |zero=>rfl
 |succ n a=>rw[EJ,val,a];rfl
theorem xy (x:UInt32):val [x]=x.toNat:=by simp[val]
theorem kO (h:i<l.length):val (l.take (i+1))=val (l.take i)+4294967296^i*l[i].toNat:=by
 rw[fi h,rE,xy,eS,iZ G]
theorem nQ (h:i<l.length):val (l.drop i)=l[i].toNat+4294967296*val (l.drop (i+1)):=by
 rw[lE h,val]
theorem nR (l:List UInt32) (i:Nat) (h:i≤l.length):val l=val (l.take i)+4294967296^i*val (l.drop i):=by
 conv=>lhs;rw[←nz i l]
 rw[rE,eS,iZ h]
theorem PL:∀(l:List UInt32),val (tr l)=val l
 |[]=>rfl
 |x::l=>by
  have a:=PL l
  rw[tr]
  split
  ·rename_i h
   rw[h] at a
   split
   ·rename_i b;subst b;simp[val,←a]
   ·simp[val,←a]
  ·rename_i y m h
   rw[h] at a
   rw[val,a,val]
theorem Pq:∀(l:List UInt32),tr l=lb (val l)
 |[]=>rfl
 |x::l=>by
  have c:=Pq l
  have b:=ep x
  rw[tr,val]
  rcases fm (val l) with h|h
  ·rw[h,nh] at c
   rw[c,h,xR,lG]
   by_cases a:x=0
   ·subst a;simp[nh]
   ·have:=aap a
    have e:UInt32.ofNat x.toNat=x:=ve (by rw[H5 b])
    simp only[if_neg a]
    rw[wR this,eN b,pp b,nh,e]
  ·rw[wR (n:=x.toNat+4294967296*val l) G,BK,xN _ _ G,pp b,gB,eN b,←c]
   have d:tr l≠[]:=λa=>by
    have:=PL l
    rw[a,val] at this
    omega
   split
   ·rename_i a;exact absurd a d
   ·rename_i y m a
    rw[a]
    congr 1
    exact ve (by rw[H5 b])
theorem Pr {x:UInt32} (h:x≠0):∀(l:List UInt32),tr (l++[x])=l++[x]
 |[]=>by simp[tr,h]
 |y::l=>by
  rw[nU,tr,Pr h l]
  cases l<;>rfl
theorem gw (h:n<4294967296^k):(lb n).length≤k:=by
 induction k generalizing n with
 |zero=>have:n=0:=by simpa using h
        subst this;simp[nh]
 |succ k b=>
  rcases fm n with rfl|a
  ·simp[nh]
  ·rw[wR a,cw]
   have:n/4294967296<4294967296^k:=by
    rw[xO G,←gj];exact h
   have:=b this
   omega
theorem CP (h:0<n):4294967296^((lb n).length-1)≤n:=by
 induction n using Nat.strongRecOn with
 |ind n e=>
  rw[wR h,cw,pn]
  rcases fm (n/4294967296) with a|a
  ·rw[a,nh];exact h
  ·have c:=e (n/4294967296) G a
   have d:0<(lb (n/4294967296)).length:=by rw[wR a];simp
   obtain⟨k,b⟩:∃k,(lb (n/4294967296)).length=k+1:=⟨_,(Nat.sub_add_cancel d).symm⟩
   rw[b,pn] at c
   rw[b,gj]
   omega
theorem lh {n:Nat}:(lb n).length=0↔n=0:=by
 constructor
 ·intro h
  rcases fm n with a|a
  ·exact a
  ·rw[wR a] at h;simp at h
 ·rintro rfl;rfl
theorem MS {m:Nat} (h:lb n=lb m):n=m:=by rw[←cH n,←cH m,h]
theorem CR {m:Nat} (h:(lb n).length<(lb m).length):n<m:=by
 have a:=en (lb n)
 rw[cH] at a
 have hm:0<m:=by
  rcases fm m with rfl|b
  ·simp[nh] at h
  ·exact b
 have c:=CP hm
 exact eT a (cf (lH G G) c)
theorem GN (h:i+1=(lb n).length):0<((lb n)[i]'G).toNat:=by
 have e:0<n:=by
  rcases fm n with a|a
  ·subst a;simp[nh] at h
  ·exact a
 have c:=CP e
 have b:val (lb n)=val ((lb n).take i)+4294967296^i*((lb n)[i]'G).toNat:=by
  rw[←kO G,h,fL]
 rw[cH] at b
 have d:=en ((lb n).take i)
 rw[eS,iZ G] at d
 rw[←h,pn] at c
 rcases fm ((lb n)[i]'G).toNat with a|a
 ·rw[a] at b;omega
 ·exact a
def mY (x y:Nat):Int:=if x<y then-1 else if y<x then 1 else 0
theorem PG (d:i<l.length) (hm:i<m.length) (c:l.drop (i+1)=m.drop (i+1)) (h:l[i].toNat<m[i].toNat):val l<val m:=by
 rw[nR l (i+1) G,nR m (i+1) G,c,kO d,kO hm]
 have a:=en (l.take i)
 rw[eS,iZ G] at a
 have b:4294967296^i*(l[i].toNat+1)≤4294967296^i*m[i].toNat:=nY _ h
 rw[f6,rR] at b
 omega
theorem Cb (i:Nat):0<4294967296^i:=lI G
theorem Gs (vs:List Value):∀(a b:List Value),(∀v∈vs,v.cells= #[v])→b.length=vs.length→
 Instr.fill (λi=>some (i*1,1)) (a++b).toArray (gO a.length vs)=some (a++vs).toArray:=by
 induction vs with
 |nil=>
  intro a b _ d
  have:b=[]:=gT (by simpa using d)
  subst this
  rfl
 |cons v vs l=>
  intro a b e d
  cases b with
  |nil=>simp at d
  |cons b0 b=>
   have f:v.cells= #[v]:=e v aj
   have k:v.cells.zipIdx.foldl (λ(cs:Array Value) (c,j)=>cs.setIfInBounds (a.length*1+j) c) (a++b0::b).toArray=((a++[v])++b).toArray:=by
    rw[f];simp
   have g:(v.cells.size≠1||decide (a.length*1+v.cells.size>(a++b0::b).toArray.size))=false:=by rw[f];simp
   have:=l (a++[v]) b (λu h=>e u (by simp[h])) (by simpa using d)
   simp only[gO,Instr.fill]
   rw[g,k]
   simp only[cr,cw,c8,gB] at this
   simpa using this
theorem Ha (h:v.oneCell'=true):v.cells= #[v]:=by cases v<;>first|rfl|cases h
section
variable {P:Program} {w:World}
theorem sX {base:Nat} {t e:TypeId} {bytes:Nat} (k:P.underlying t=some (.slice e)) (hi:(P.info? e).map (λi=>(i.zero,i.size,i.bytes))=some (some z,1,bytes))
 (vs:List Value) (d:∀v∈vs,v.oneCell'=true) (o:vs.length≤16777216) (g:base≤w.heap.size):
 ∃r w',(Instr.buildSlice t vs.length (gO 0 vs).toArray).run P w=.ok r w'∧ao w w'∧w'.ownsRow base e 1 r vs.length vs∧r.ownBlock=some w.heap.size:=by
 obtain⟨i,hi,m,hs,_⟩:=info_parts hi
 refine⟨.slice (some ⟨w.heap.size,0,none⟩) vs.length vs.length,w.alloc (.cells vs.toArray e),?_,ao.new w _,?_,H⟩
 ·have b:∀Z:Array Value,Z.size=vs.length→Instr.fill (λi=>some (i*1,1)) Z (gO 0 vs)=some vs.toArray:=λZ f=>by
   have:=Gs vs [] Z.toList (λv l=>Ha (d v l)) (by simpa using f)
   simpa using this
  have h:¬(vs.length*1>2^24):=G
  have c:(typeInfo e).run P w=.ok i w:=by simp[typeInfo,hi]
  have j:(sizeOf e).run P w=.ok 1 w:=by simp[sizeOf,c,hs]
  have n:(zeroValue e).run P w=.ok z w:=by simp[zeroValue,c,m]
  simp only[Instr.buildSlice,Sem.run_bind,run_underlying k,Result.andThen_ok,j,if_neg h]
  by_cases a:vs.length*1=0
  ·rw[if_pos a]
   simp only[Sem.run_bind,Sem.run_pure,Result.andThen_ok]
   rw[b _ aj]
   simp[newRow]
  ·rw[if_neg a]
   simp only[Sem.run_bind,Sem.run_pure,Result.andThen_ok,n]
   rw[b _ aj]
   simp[newRow]
 ·exact World.ownsRow_lit w vs.toArray vs.length g (by unfold maxLen;omega) aj
theorem dm:(Instr.extract (.tuple #[u,v]) 0).run P w=.ok u w:=rfl
theorem dn:(Instr.extract (.tuple #[u,v]) 1).run P w=.ok v w:=rfl
theorem ov:(Instr.extract (.tuple #[u,v,z]) 0).run P w=.ok u w:=rfl
theorem ow:(Instr.extract (.tuple #[u,v,z]) 1).run P w=.ok v w:=rfl
theorem ox:(Instr.extract (.tuple #[u,v,z]) 2).run P w=.ok z w:=rfl
theorem Ds {t e:TypeId} (a:P.underlying t=some (.slice e)) {x y:Operand} {A:Option Addr} {c:Nat}:(bin .eql t x y (.slice A n c) (.slice none 0 0)).run P w=.ok (B A.isNone) w:=by
 have h:(Op.equal t (.slice A n c) (.slice none 0 0)).run P w=.ok A.isNone w:=by
  show(Op.equalIn (9999+1) t (.slice A n c) (.slice none 0 0)).run P w=_
  unfold Op.equalIn
  cases A<;>simp[run_underlying a]
 show(do pure (Value.bool (←Op.equal t (.slice A n c) (.slice none 0 0))):Sem Value).run P w=_
 rw[Sem.run_bind,h];rfl
theorem Du {t e:TypeId} (b:P.underlying t=some (.pointer e)) {x y:Operand} {a:Option Addr}:(bin .eql t x y (.pointer a) (.pointer none)).run P w=.ok (B a.isNone) w:=by
 have h:(Op.equal t (.pointer a) (.pointer none)).run P w=.ok a.isNone w:=by
  show(Op.equalIn (9999+1) t (.pointer a) (.pointer none)).run P w=_
  unfold Op.equalIn
  cases a<;>simp[run_underlying b]
 show(do pure (Value.bool (←Op.equal t (.pointer a) (.pointer none))):Sem Value).run P w=_
 rw[Sem.run_bind,h];rfl
theorem Y3 {t e:TypeId} (b:P.underlying t=some (.pointer e)) {x y:Operand} {a:Option Addr}:(bin .neq t x y (.pointer a) (.pointer none)).run P w=.ok (B a.isSome) w:=by
 have h:(Op.equal t (.pointer a) (.pointer none)).run P w=.ok a.isNone w:=by
  show(Op.equalIn (9999+1) t (.pointer a) (.pointer none)).run P w=_
  unfold Op.equalIn
  cases a<;>simp[run_underlying b]
 show(do pure (Value.bool (!(←Op.equal t (.pointer a) (.pointer none)))):Sem Value).run P w=_
 rw[Sem.run_bind,h]
 cases a<;>rfl
end
section
variable {w:World}
def cV (l:List UInt8):cT:=Sl 1 (l.map U8)
def eH (base:Nat) (l:List UInt8):cT:=λv w=>∃n,w.ownsRow base 5 1 v n (l.map U8)
theorem cV.a3 (l:List UInt8):cN (cV l):=Sl.a3 _ _
theorem cV.aL {l:List UInt8} {v:Value} {w w':World} (h:cV l v w) (a:ao w w'):cV l v w':=Sl.aL h a
theorem eH.b8 {base:Nat} {l:List UInt8} (h:eH base l v w):cV l v w:=h.elim λ_ h=>Sl.b2 h
theorem eH.a3 (base:Nat) (l:List UInt8):cN (eH base l):=λ_ _ _ h a=>h.elim λn h=>⟨n,uN h a⟩
theorem eH.aL {base:Nat} {l:List UInt8} {w:World} (h:eH base l v w) (a:ao w w'):eH base l v w':=eH.a3 _ _ _ _ _ h a
theorem Dd (l:List UInt8):∀u∈l.map U8,u.oneCell'=true:=by
 intro u a
 obtain⟨b,_,rfl⟩:=fF.1 a
 rfl
theorem AC:(Tryz.prog.info? 5).map (λi=>(i.zero,i.size,i.bytes))=some (some (.int .u8 0),1,1):=by kernel_rfl
theorem pi:(Tryz.prog.info? 5).map (·.size)=some 1:=by kernel_rfl
theorem Yu (l:List UInt8):∀(s:ByteArray),(l.map (λb=>(b.toNat:Int))).foldl (λr n=>r.push (UInt8.ofNat n.toNat)) s=⟨(s.data.toList++l).toArray⟩:=by
 induction l with
 |nil=>intro s;simp
 |cons b l a=>
  intro s
  rw[iy,BE,a]
  simp[ByteArray.push]
theorem Oj {l:List UInt8} (h:cV l v w):(convert 28 9 v).run Tryz.prog w=.ok (S l) w:=by
 obtain⟨A,n,c,rfl,s,r,k,f,p⟩:=h
 have m:l.length=n:=by simpa using k
 rw[run_convert_bytes_string w _ _ _ A n c iB fo uu]
 have g:n=0→l=[]:=λh=>gT G
 cases A with
 |none=>
  have:=p rfl
  rw[g G]
  rfl
 |some a=>
  have fV:ez w a (l.map U8):=by
   rcases fm n with e|e
   ·rw[g e];intro j u q;simp at q
   ·obtain⟨ad,i,f⟩:=f e
    obtain rfl:=cC i
    exact f
  have d:=run_loadCells_list (P:=Tryz.prog) (w:=w) a (l.map U8) fV
  have o:(l.map U8)=(l.map (λb=>(b.toNat:Int))).map (Value.int .u8):=by rw[tz];rfl
  rw[o] at d
  simp only[dN] at d
  rw[m] at d
  rw[run_bytesToString w a n c _ d,Yu]
  rfl
theorem ro {l:List UInt8} (h:cV l v w):(Builtin.len_ #[28] ty #[v]).run Tryz.prog w=.ok (I l.length) w:=by
 obtain⟨n,a,_,b⟩:=Hl (P:=Tryz.prog) (ty:=ty) iB h
 have:l.length=n:=by simpa using a
 rw[b,this]
theorem YT {l:List UInt8}:(Builtin.len_ #[9] ty #[S l]).run Tryz.prog w=.ok (I l.length) w:=by
 have e:(⟨l.toArray⟩:ByteArray).size=l.length:=by simp[ByteArray.size]
 simp[Builtin.len_,run_underlying Tryz.underlying9,goInt,I,S,e]
theorem cV.len {l:List UInt8} (h:cV l v w):l.length≤9223372036854775807:=by
 obtain⟨A,n,c,rfl,d,a,b,_⟩:=h
 have:l.length=n:=by simpa using b
 unfold maxLen at a;omega
theorem uP {base:Nat} {l m:List UInt8} {x:Value} (a:eH base l v w) (g:cV m x w) (e:l.length+m.length≤140737488355328) (f:base≤w.heap.size):
 ∃r w',(Builtin.append_ #[28,28] ty #[v,x]).run Tryz.prog w=.ok r w'∧eH base (l++m) r w'∧d9 w w' v r:=by
 obtain⟨n,a⟩:=a
 obtain⟨r,w',h,b,c,d⟩:=Do (P:=Tryz.prog) (ty:=ty) Tryz.underlying28 AC rfl G a g (Dd m) (by simpa using e) G f
 exact⟨r,w',b,⟨h,by rw[mg];exact c⟩,d⟩
theorem uR (base:Nat) (l:List UInt8) (f:l.length≤16777216) (e:base≤w.heap.size):
 ∃r w',(Instr.buildSlice 28 l.length (gO 0 (l.map U8)).toArray).run Tryz.prog w=.ok r w'∧ao w w'∧eH base l r w'∧r.ownBlock=some w.heap.size:=by
 have:=sX (P:=Tryz.prog) (w:=w) Tryz.underlying28 AC (l.map U8) (Dd l) (by simpa using f) e
 simp only[dN] at this
 obtain⟨r,w',a,b,c,d⟩:=this
 exact⟨r,w',a,b,⟨_,c⟩,d⟩
theorem Zb {l:List UInt8} (h:cV l v w) {lo hi:Nat} (b:lo≤hi) (c:hi≤l.length) (a kh:IntKind):
 ∃r,(∀w':World,(Instr.sliceAt 28 v (some (.int a lo)) (some (.int kh hi)) none).run Tryz.prog w'=.ok r w')∧cV ((l.take hi).drop lo) r w:=by
 obtain⟨r,d,e⟩:=Oh (P:=Tryz.prog) Tryz.underlying28 pi h b (by simpa using c) G a kh
 exact⟨r,d,by simpa [cV,xK,xL] using e⟩
theorem DB {l:List UInt8} (h:cV l v w) {lo:Nat} (b:lo≤l.length) (a:IntKind):
 ∃r,(∀w':World,(Instr.sliceAt 28 v (some (.int a lo)) none none).run Tryz.prog w'=.ok r w')∧cV (l.drop lo) r w:=by
 obtain⟨r,c,d⟩:=Hs (P:=Tryz.prog) Tryz.underlying28 pi h (lo:=lo) (by simpa using b) G a
 exact⟨r,c,by simpa [cV,xK] using d⟩
theorem Ho {l:List UInt8} (h:cV l v w) {hi:Nat} (a:hi≤l.length) (kh:IntKind):
 ∃r,(∀w':World,(Instr.sliceAt 28 v none (some (.int kh hi)) none).run Tryz.prog w'=.ok r w')∧cV (l.take hi) r w:=by
 obtain⟨r,b,c⟩:=Hr (P:=Tryz.prog) Tryz.underlying28 pi h (hi:=hi) (by simpa using a) G kh
 exact⟨r,b,by simpa [cV,xL] using c⟩
theorem rn {l:List UInt8} (h:cV l v w) (hi:i<l.length) (k:IntKind):
 ∃ad,(∀w':World,(Instr.indexAt 28 v (.int k i)).run Tryz.prog w'=.ok (.pointer (some ad)) w')∧w.cell? ad=some (U8 l[i]):=by
 obtain⟨ad,a,b⟩:=Dx (P:=Tryz.prog) iB pi h (i:=i) dT G k
 refine⟨ad,a,?_⟩
 have:=b 0 (U8 l[i]) (by simp[hi])
 rwa [tD] at this
theorem N9 {b:UInt8} (h:w.cell? ad=some (U8 b)):(Instr.loadAt 5 (.pointer (some ad))).run Tryz.prog w=.ok (U8 b) w:=D fo rfl h
def Txs (l:List (List UInt8)):cT:=Sl 1 (l.map S)
theorem Txs.aL {l:List (List UInt8)} {v:Value} {w w':World} (h:Txs l v w) (a:ao w w'):Txs l v w':=Sl.aL h a
def aO (l:List UInt32):cT:=Sl 1 (l.map bz)
def ej (base:Nat) (l:List UInt32):cT:=λv w=>∃n,w.ownsRow base 253 1 v n (l.map bz)
theorem aO.a3 (l:List UInt32):cN (aO l):=Sl.a3 _ _
theorem aO.aL {l:List UInt32} {v:Value} {w w':World} (h:aO l v w) (a:ao w w'):aO l v w':=Sl.aL h a
theorem ej.bL {base:Nat} (h:ej base l v w):aO l v w:=h.elim λ_ h=>Sl.b2 h
theorem ej.a3 (base:Nat) (l:List UInt32):cN (ej base l):=λ_ _ _ h a=>h.elim λn h=>⟨n,uN h a⟩
theorem ej.aL {base:Nat} {w:World} (h:ej base l v w) (a:ao w w'):ej base l v w':=ej.a3 _ _ _ _ _ h a
theorem ej.nil (base:Nat) (w:World):ej base [] (.slice none 0 0) w:=⟨0,World.ownsRow_nil _ _ _ _⟩
theorem eH.nil (base:Nat) (w:World):eH base [] (.slice none 0 0) w:=⟨0,World.ownsRow_nil _ _ _ _⟩
theorem cV.nil (w:World):cV [] (.slice none 0 0) w:=Sl.nil _ _
theorem aO.nil (w:World):aO [] (.slice none 0 0) w:=Sl.nil _ _
theorem NE (l:List UInt32):∀u∈l.map bz,u.oneCell'=true:=by
 intro u a
 obtain⟨b,_,rfl⟩:=fF.1 a
 rfl
theorem GA:(Tryz.prog.info? 253).map (λi=>(i.zero,i.size,i.bytes))=some (some (.int .u32 0),1,4):=by kernel_rfl
theorem nt:(Tryz.prog.info? 253).map (·.size)=some 1:=by kernel_rfl
theorem cI {t:TypeId} (c:Tryz.prog.underlying t=some (.slice 253)) (h:aO l v w):(Builtin.len_ #[t] ty #[v]).run Tryz.prog w=.ok (I l.length) w:=by
 obtain⟨n,a,_,b⟩:=Hl (P:=Tryz.prog) (ty:=ty) c h
 have:l.length=n:=by simpa using a
 rw[b,this]
theorem aO.len (h:aO l v w):l.length≤9223372036854775807:=by
 obtain⟨A,n,c,rfl,d,a,b,_⟩:=h
 have:l.length=n:=by simpa using b
 unfold maxLen at a;omega
theorem ei {t:TypeId} (c:Tryz.prog.underlying t=some (.slice 253)) (h:aO l v w) (hi:i<l.length) (k:IntKind):
 ∃ad,(∀w':World,(Instr.indexAt t v (.int k i)).run Tryz.prog w'=.ok (.pointer (some ad)) w')∧w.cell? ad=some (bz l[i]):=by
 obtain⟨ad,a,b⟩:=Dx (P:=Tryz.prog) c nt h (i:=i) dT G k
 refine⟨ad,a,?_⟩
 have:=b 0 (bz l[i]) (by simp[hi])
 rwa [tD] at this
theorem YQ {b:UInt32} (h:w.cell? ad=some (bz b)):(Instr.loadAt 253 (.pointer (some ad))).run Tryz.prog w=.ok (bz b) w:=D bN rfl h
theorem sU {base:Nat} {t:TypeId} (f:Tryz.prog.underlying t=some (.slice 253)) {x:Value} (a:ej base l v w) (g:aO m x w) (i:l.length+m.length≤35184372088832) (e:base≤w.heap.size):
 ∃r w',(Builtin.append_ #[t,t] ty #[v,x]).run Tryz.prog w=.ok r w'∧ej base (l++m) r w'∧d9 w w' v r:=by
 obtain⟨n,a⟩:=a
 obtain⟨r,w',h,b,c,d⟩:=Do (P:=Tryz.prog) (ty:=ty) f GA rfl G a g (NE m) dT G e
 exact⟨r,w',b,⟨h,by rw[mg];exact c⟩,d⟩
theorem mK {t:TypeId} (g:Tryz.prog.underlying t=some (.slice 253)) (base:Nat) (l:List UInt32) (f:l.length≤16777216) (e:base≤w.heap.size):
 ∃r w',(Instr.buildSlice t l.length (gO 0 (l.map bz)).toArray).run Tryz.prog w=.ok r w'∧ao w w'∧ej base l r w'∧r.ownBlock=some w.heap.size:=by
 have:=sX (P:=Tryz.prog) (w:=w) g GA (l.map bz) (NE l) (by simpa using f) e
 simp only[dN] at this
 obtain⟨r,w',a,b,c,d⟩:=this
 exact⟨r,w',a,b,⟨_,c⟩,d⟩
end
section
variable {P:Program} {w w':World}
theorem pY {t:TypeId} (h:(P.info? t).map (·.size)=some n):(sizeOf t).run P w=.ok n w:=by
 obtain⟨i,hi,rfl⟩:=gU.1 h
 simp[sizeOf,typeInfo,hi]
theorem Hu {t:TypeId} (h:(P.info? t).map (·.zero)=some (some z)):(zeroValue t).run P w=.ok z w:=by
 obtain⟨i,hi,h⟩:=gU.1 h
 simp[zeroValue,typeInfo,hi,h]
theorem uQ {t:TypeId}:(Instr.box t v).run P w=.ok (.pointer (some ⟨w.heap.size,0,none⟩)) (w.alloc (.cells v.cells t)):=by
 simp[Instr.box,newVar,newRow]
theorem Dn {t:TypeId} (h:(P.info? t).map (·.zero)=some (some z)):(Instr.alloc t true (.tuple #[])).run P w=.ok (.pointer (some ⟨w.heap.size,0,none⟩)) (w.alloc (.cells z.cells t)):=by
 simp[Instr.alloc,Hu h,newVar,newRow]
theorem jR {fs:Array Field} {f:Field} (hs:P.underlying s=some (.struct fs)) (b:fs[n]? =some f) (d:(P.info? f.type).map (·.size)=some k) (c:k≠0):
 (Instr.fieldAt s (.pointer (some a)) n).run P w=.ok (.pointer (some (a.add f.offset))) w:=by
 simp[Instr.fieldAt,run_underlying hs,b,Instr.sureAddr,fieldPlace,pY d,c]
theorem qR {cs:Array Value} {T:TypeId} {fr:Nat×Nat} (h:w.heap[g]? =some (.cells cs T fr)) (hi:cs[i]? =some v):w.cell? ⟨g,i,none⟩=some v:=(cell_of_row w g i cs T fr h).ai hi
theorem Sl.keep {cs:Array Value} {T:TypeId} {fr:Nat×Nat} (h:Sl sz xs v w) (t:w.heap[g]? =some (.cells cs T fr)) (r:∀(j:Nat) (u:Value),u∈xs→cs[j]? ≠some u) (D:w.grownBy w' (some g)):Sl sz xs v w':=by
 obtain⟨A,n,c,rfl,i,k,l,m,p⟩:=h
 refine⟨A,n,c,H,i,k,l,λz=>?_,p⟩
 obtain⟨ad,rfl,q⟩:=m z
 refine⟨ad,H,λj u f=>?_⟩
 have a:=q j u f
 have C:(ad.add j).block≠g:=λd=>by
  have y:u∈xs:=tA f
  have:w.cell? (ad.add j)=cs[(ad.add j).off]? :=by
   have hs:(ad.add j).spot=none:=World.cell?_spot a
   have e:ad.add j=⟨g,(ad.add j).off,none⟩:=by
    cases F:ad.add j with
    |mk b o s=>
     rw[F] at hs d
     simp only at hs d
     rw[hs,d]
   rw[e]
   exact cell_of_row w g _ cs T fr t
  rw[a] at this
  exact r _ u y this.symm
 have x:=World.block_lt_of_cell? w (ad.add j) a
 exact(World.cell?_of_block (D.block _ x (λe=>C (cC e)))).ai a
end
section
variable {P:Program} {ops:Array Oper} {Q:eV} {N:Nat} {D:List Deferred} {l:Fr} {w:World} {rest:List Oper} {d:Nat}
theorem cK {p:Prop} {a:Decidable p} (c:p→bK P ops Q N D ((d,B true)::l) w rest) (b:¬p→bK P ops Q N D ((d,B false)::l) w rest):bK P ops Q N D ((d,B (@decide p a))::l) w rest:=by
 by_cases h:p
 ·rw[dH h];exact c h
 ·rw[bi h];exact b h
end
theorem ao.a6 {r:Value} (h:ao w0 w) (a:d9 w w' v r) (b:∀k,v.ownBlock=some k→w0.heap.size≤k):ao w0 w':=h.a7 a.grown b
theorem eH.ge {base:Nat} {l:List UInt8} (h:eH base l v w):∀k,v.ownBlock=some k→base≤k:=λk a=>h.elim λ_ h=>(World.ownsRow.lt h k a).1
theorem ao.a2 (c:ao w w1) (a:w1.grownBy w2 (some g)) (h:w.heap.size≤g):ao w w2:=
 c.a7 a λk b=>by
  obtain rfl:=cC b
  exact h
theorem oZ {a:Option Nat} (h:ao w w'):w.grownBy w' a:=⟨h.os,h.tape,h.output,h.size,λ_ hi _=>h.heap hi⟩
section
variable {w:World}
theorem eH.kept {base:Nat} {l:List UInt8} {v:Value} {w':World} (h:eH base l v w) {a:Option Nat} (b:w.grownBy w' a) (c:v.ownBlock=none∨v.ownBlock≠a):eH base l v w':=
 h.elim λn h=>⟨n,World.ownsRow.kept h b c⟩
theorem eH.off {base:Nat} {l:List UInt8} (h:eH base l v w) (b:g<base):v.ownBlock≠some g:=λa=>by
 obtain⟨n,h⟩:=h
 have:=(World.ownsRow.lt h g a).1
 omega
end
section
variable {P:Program} {Q:eV} {N:Nat} {D:List Deferred} {l:Fr} {w:World}
theorem fp {c:Code} {α β:Type} (fr:α→β→Fr) (H:α→β→World→Prop) (f:α→β→Nat) (x0:α) (g:β) (hs:Sub (fr x0 g) l) (k:H x0 g w)
 (round:∀x y w',H x y w'→dS P (Exit.then (λa j=>∃b d,At N D (fr b d) a∧H b d j∧f b d<f x y) Q) N D (fr x y) w' c):dS P Q N D l w (.loop c):=
 eg (α:=α×β) (λp=>fr p.1 p.2) (λp=>H p.1 p.2) (λp=>f p.1 p.2) (x0,g) hs k λp w' h a q=>
  wp_mono (round p.1 p.2 w' h a q) λe r j i=>by
   cases e with
   |normal=>
    obtain⟨b,d,m,n,o⟩:=i
    exact⟨(b,d),m,n,o⟩
   |_=>exact i
theorem eI {α β:Type} {fr:α→β→Fr} {H:α→β→World→Prop} {d:α→β→Nat} {m:Nat} (x:α) (y:β) (hs:Sub (fr x y) l) (e:H x y w) (hm:d x y<m):ie (Exit.then (λa g=>∃b c,At N D (fr b c) a∧H b c g∧d b c<m) Q) N D l w:=
 λ_ f=>⟨x,y,f.bd hs,e,hm⟩
theorem ob {c:Code} {α β γ:Type} (fr:α→β→γ→Fr) (H:α→β→γ→World→Prop) (g:α→β→γ→Nat) (x0:α) (i:β) (z0:γ) (hs:Sub (fr x0 i z0) l) (m:H x0 i z0 w)
 (round:∀x y z w',H x y z w'→dS P (Exit.then (λa k=>∃b d f,At N D (fr b d f) a∧H b d f k∧g b d f<g x y z) Q) N D (fr x y z) w' c):dS P Q N D l w (.loop c):=
 eg (α:=α×β×γ) (λp=>fr p.1 p.2.1 p.2.2) (λp=>H p.1 p.2.1 p.2.2) (λp=>g p.1 p.2.1 p.2.2) (x0,i,z0) hs m λp w' h a r=>
  wp_mono (round p.1 p.2.1 p.2.2 w' h a r) λe s k j=>by
   cases e with
   |normal=>
    obtain⟨b,d,f,n,o,q⟩:=j
    exact⟨(b,d,f),n,o,q⟩
   |_=>exact j
theorem lj {α β γ:Type} {fr:α→β→γ→Fr} {H:α→β→γ→World→Prop} {e:α→β→γ→Nat} {m:Nat} (x:α) (y:β) (z:γ) (hs:Sub (fr x y z) l) (f:H x y z w) (hm:e x y z<m):ie (Exit.then (λa h=>∃b c d,At N D (fr b c d) a∧H b c d h∧e b c d<m) Q) N D l w:=
 λ_ g=>⟨x,y,z,g.bd hs,f,hm⟩
theorem pv {c:Code} {α β γ δ:Type} (fr:α→β→γ→δ→Fr) (H:α→β→γ→δ→World→Prop) (g:α→β→γ→δ→Nat) (x0:α) (j:β) (z0:γ) (i:δ) (hs:Sub (fr x0 j z0 i) l) (n:H x0 j z0 i w)
 (round:∀x y z u w',H x y z u w'→dS P (Exit.then (λa m=>∃b d f u',At N D (fr b d f u') a∧H b d f u' m∧g b d f u'<g x y z u) Q) N D (fr x y z u) w' c):dS P Q N D l w (.loop c):=
 eg (α:=α×β×γ×δ) (λp=>fr p.1 p.2.1 p.2.2.1 p.2.2.2) (λp=>H p.1 p.2.1 p.2.2.1 p.2.2.2) (λp=>g p.1 p.2.1 p.2.2.1 p.2.2.2) (x0,j,z0,i) hs n λp w' h a s=>
  wp_mono (round p.1 p.2.1 p.2.2.1 p.2.2.2 w' h a s) λe t m k=>by
   cases e with
   |normal=>
    obtain⟨b,d,f,u',o,q,r⟩:=k
    exact⟨(b,d,f,u'),o,q,r⟩
   |_=>exact k
theorem nK {α β γ δ:Type} {fr:α→β→γ→δ→Fr} {H:α→β→γ→δ→World→Prop} {e:α→β→γ→δ→Nat} {m:Nat} (x:α) (y:β) (z:γ) (u:δ) (hs:Sub (fr x y z u) l) (f:H x y z u w) (hm:e x y z u<m):ie (Exit.then (λa h=>∃b c d u',At N D (fr b c d u') a∧H b c d u' h∧e b c d u'<m) Q) N D l w:=
 λ_ g=>⟨x,y,z,u,g.bd hs,f,hm⟩
theorem FF {c:Code} {α β γ δ ε:Type} (fr:α→β→γ→δ→ε→Fr) (H:α→β→γ→δ→ε→World→Prop) (g:α→β→γ→δ→ε→Nat) (x0:α) (j:β) (z0:γ) (i:δ) (v0:ε) (hs:Sub (fr x0 j z0 i v0) l) (n:H x0 j z0 i v0 w)
 (round:∀x y z u v w',H x y z u v w'→dS P (Exit.then (λa m=>∃b d f u' v',At N D (fr b d f u' v') a∧H b d f u' v' m∧g b d f u' v'<g x y z u v) Q) N D (fr x y z u v) w' c):dS P Q N D l w (.loop c):=
 eg (α:=α×β×γ×δ×ε) (λp=>fr p.1 p.2.1 p.2.2.1 p.2.2.2.1 p.2.2.2.2) (λp=>H p.1 p.2.1 p.2.2.1 p.2.2.2.1 p.2.2.2.2) (λp=>g p.1 p.2.1 p.2.2.1 p.2.2.2.1 p.2.2.2.2) (x0,j,z0,i,v0) hs n λp w' h a s=>
  wp_mono (round p.1 p.2.1 p.2.2.1 p.2.2.2.1 p.2.2.2.2 w' h a s) λe t m k=>by
   cases e with
   |normal=>
    obtain⟨b,d,f,u',v',o,q,r⟩:=k
    exact⟨(b,d,f,u',v'),o,q,r⟩
   |_=>exact k
theorem C7 {α β γ δ ε:Type} {fr:α→β→γ→δ→ε→Fr} {H:α→β→γ→δ→ε→World→Prop} {e:α→β→γ→δ→ε→Nat} {m:Nat} (x:α) (y:β) (z:γ) (u:δ) (v:ε) (hs:Sub (fr x y z u v) l) (f:H x y z u v w) (hm:e x y z u v<m):ie (Exit.then (λa h=>∃b c d u' v',At N D (fr b c d u' v') a∧H b c d u' v' h∧e b c d u' v'<m) Q) N D l w:=
 λ_ g=>⟨x,y,z,u,v,g.bd hs,f,hm⟩
end
section
variable {w:World} {t:TypeId}
theorem Ze (e:Tryz.prog.underlying t=some (.slice 253)) (h:aO l v w) {lo:Nat} (b:lo≤l.length) (a:IntKind):
 ∃r,(∀w':World,(Instr.sliceAt t v (some (.int a lo)) none none).run Tryz.prog w'=.ok r w')∧aO (l.drop lo) r w:=by
 obtain⟨r,c,d⟩:=Hs (P:=Tryz.prog) e nt h (lo:=lo) (by simpa using b) G a
 exact⟨r,c,by simpa [aO,xK] using d⟩
theorem Hq (d:Tryz.prog.underlying t=some (.slice 253)) (h:aO l v w) {hi:Nat} (a:hi≤l.length) (kh:IntKind):
 ∃r,(∀w':World,(Instr.sliceAt t v none (some (.int kh hi)) none).run Tryz.prog w'=.ok r w')∧aO (l.take hi) r w:=by
 obtain⟨r,b,c⟩:=Hr (P:=Tryz.prog) d nt h (hi:=hi) (by simpa using a) G kh
 exact⟨r,b,by simpa [aO,xL] using c⟩
theorem tX (f:Tryz.prog.underlying t=some (.slice 253)) (base:Nat) (h:n≤70368744177664) (b:base≤w.heap.size):
 ∃r w',(Instr.makeSlice t (I (n:Int)) (I (n:Int))).run Tryz.prog w=.ok r w'∧ao w w'∧ej base (List.replicate n 0) r w'∧r.ownBlock=some w.heap.size:=by
 obtain⟨i,hi,g,hs,c⟩:=info_parts GA
 have d:=run_make (P:=Tryz.prog) w t 253 i _ f hi g .i64 .i64 (n:Int) (n:Int) G G (by rw[c];omega) G
 refine⟨_,_,d,ao.new _ _,⟨n,?_⟩,H⟩
 have:=World.ownsRow_lit (base:=base) (e:=253) (size:=1) w (madeCells (Value.int .u32 0).cells ((n:Int).toNat*i.size)) n b (by unfold maxLen;omega) (by rw[hs];simp[madeCells])
 have e:(madeCells (Value.int .u32 0).cells ((n:Int).toNat*i.size)).toList=(List.replicate n (0:UInt32)).map bz:=by
  rw[hs]
  have a:=toList_madeCells_one (.int .u32 0) n
  simp only[Value.cells,kP,rR,List.map_replicate] at a⊢
  rw[a];rfl
 rw[e] at this
 simpa using this
theorem ej.b9 (j:Tryz.prog.underlying t=some (.slice 253)) {base:Nat} (h:ej base l v w) (hi:i<l.length) (x:UInt32):
 ∃g w',(∀u:World,(Instr.indexAt t v (I (i:Int))).run Tryz.prog u=.ok (.pointer (some ⟨g,i,none⟩)) u)∧(Instr.storeAt 253 (.pointer (some ⟨g,i,none⟩)) (bz x)).run Tryz.prog w=.ok () w'∧
  ej base (l.set i x) v w'∧w.grownBy w' (some g)∧base≤g∧w.cell? ⟨g,i,none⟩=some (bz l[i])∧v.ownBlock=some g:=by
 obtain⟨n,f⟩:=id h
 have A:l.length=n:=by simpa using f.1
 obtain⟨ad,e,o⟩:=ei j h.bL hi .i64
 rcases f.2 with⟨_,D⟩|⟨g,b,cur,rfl,c,d,z,p,q,C⟩
 ·omega
 ·have y:i<cur.size:=G
  have m:ad=⟨g,i,none⟩:=by
   have a:=e w
   obtain⟨F,r,hs⟩:=gU.1 nt
   have s:i<n:=G
   have k:(Instr.indexAt t (.slice (some ⟨g,0,none⟩) n b) (.int .i64 i)).run Tryz.prog w=.ok (.pointer (some ⟨g,i,none⟩)) w:=by
    simp[Instr.indexAt,asIntOf,run_underlying j,s,sizeOf,typeInfo,r,hs,vO]
   rw[k] at a
   simp at a
   exact a.symm
  subst m
  refine⟨g,w.setCell ⟨g,i,none⟩ (bz x),e,pZ nt H d y,⟨n,?_,.inr ⟨g,b,cur.setIfInBounds i (bz x),H,c,yC d i (bz x),z,p,by simpa using q,?_⟩⟩,mF w g i _,c,o,H⟩
  ·simpa using A
  ·rw[zx,←C,Array.toList_setIfInBounds,List.take_set]
theorem ej.kept {base:Nat} {l:List UInt32} {v:Value} {w':World} (h:ej base l v w) {a:Option Nat} (b:w.grownBy w' a) (c:v.ownBlock=none∨v.ownBlock≠a):ej base l v w':=
 h.elim λn h=>⟨n,World.ownsRow.kept h b c⟩
theorem ej.ge {base:Nat} (h:ej base l v w):∀k,v.ownBlock=some k→base≤k:=λk a=>h.elim λ_ h=>(World.ownsRow.lt h k a).1
theorem ej.lt {base:Nat} {l:List UInt32} {v:Value} (h:ej base l v w):∀k,v.ownBlock=some k→k<w.heap.size:=λk a=>h.elim λ_ h=>(World.ownsRow.lt h k a).2
theorem Tc {w:World} {t t2 e c:TypeId} (d:P.underlying t=some (.slice e)) (f:P.underlying t2=some (.slice c)) (a b:Value):(Builtin.append_ #[t,t2] ty #[a,b]).run P w=(Builtin.append_ #[t,t] ty #[a,b]).run P w:=by
 unfold Builtin.append_
 cases a<;>simp[Sem.run_bind,run_underlying d,run_underlying f]
theorem NX {base:Nat} {t2:TypeId} (a:Tryz.prog.underlying t=some (.slice 253)) (f:Tryz.prog.underlying t2=some (.slice 253)) {x:Value} (g:ej base l v w) (h:aO m x w) (d:l.length+m.length≤35184372088832) (e:base≤w.heap.size):
 ∃r w',(Builtin.append_ #[t,t2] ty #[v,x]).run Tryz.prog w=.ok r w'∧ej base (l++m) r w'∧d9 w w' v r:=by
 obtain⟨r,w',b,c⟩:=sU (ty:=ty) a g h d e
 exact⟨r,w',(Tc a f v x).ai b,c⟩
theorem Y0 {t:TypeId} {a b:Nat}:(Builtin.max_ #[t,t] ty #[I (a:Int),I (b:Int)]).run P w=.ok (I ((max a b:Nat):Int)) w:=by
 have:(Builtin.max_ #[t,t] ty #[I (a:Int),I (b:Int)])=pure (.int .i64 (if (b:Int)>(a:Int) then(b:Int) else(a:Int))):=rfl
 rw[this,Sem.run_pure]
 congr 2
 split<;>omega
structure PW (g:Nat) (pre:List Value) (L:List UInt32) (post:List Value) (v:Value) (w:World):Prop where
 eE:∃c,v=.slice (some ⟨g,pre.length,none⟩) L.length c∧L.length≤c∧c≤maxLen
 row:w.heap[g]? =some (.cells (pre++(L.map bz++post)).toArray 253 (0,0))
theorem PW.cell {g:Nat} {a:List Value} {L:List UInt32} {b:List Value} {v:Value} (h:PW g a L b v w) {i:Nat} (hi:i<L.length):w.cell? ⟨g,a.length+i,none⟩=some (bz L[i]):=by
 rw[cell_of_row w g _ _ _ _ h.row,nV,rN G,Nat.add_sub_cancel_left,vu (by simpa using hi),tu,fy hi]
 rfl
theorem PW.bL {k:List Value} {L:List UInt32} {i:List Value} (h:PW g k L i v w):aO L v w:=by
 obtain⟨c,rfl,b,d⟩:=h.eE
 refine⟨_,_,_,H,b,d,aj,λ_=>⟨_,H,λj u a=>?_⟩,λh=>by cases h⟩
 rw[tu,gU] at a
 obtain⟨x,f,rfl⟩:=a
 obtain⟨e,rfl⟩:=pl.1 f
 rw[vO]
 exact h.cell e
theorem PW.ec (f:Tryz.prog.underlying t=some (.slice 253)) {a:List Value} {L:List UInt32} {b:List Value} (h:PW g a L b v w) (hi:i<L.length) (x:UInt32):
 ∃w',(∀u:World,(Instr.indexAt t v (I (i:Int))).run Tryz.prog u=.ok (.pointer (some ⟨g,a.length+i,none⟩)) u)∧(Instr.storeAt 253 (.pointer (some ⟨g,a.length+i,none⟩)) (bz x)).run Tryz.prog w=.ok () w'∧
  PW g a (L.set i x) b v w'∧w.grownBy w' (some g)∧w.cell? ⟨g,a.length+i,none⟩=some (bz L[i]):=by
 obtain⟨c,rfl,d,e⟩:=h.eE
 obtain⟨k,j,hs⟩:=gU.1 nt
 refine⟨w.setCell ⟨g,a.length+i,none⟩ (bz x),λu=>?_,pZ nt H h.row dT,⟨⟨c,aj,by simpa using d,e⟩,?_⟩,mF w g _ _,h.cell hi⟩
 ·show(Instr.indexAt t (.slice (some ⟨g,a.length,none⟩) L.length c) (.int .i64 (i:Int))).run Tryz.prog u=_
  simp[Instr.indexAt,asIntOf,run_underlying f,hi,sizeOf,typeInfo,j,hs,vO]
 ·have:=yC h.row (a.length+i) (bz x)
  rw[this,List.setIfInBounds_toArray,vx _ _ G,Nat.add_sub_cancel_left,List.set_append_left _ _ (by simpa using hi),zx]
theorem aO.c3 (h:aO l v w) (a:v.ownBlock=none∨v.ownBlock≠some g) (q:w.grownBy w' (some g)):aO l v w':=by
 obtain⟨A,n,c,rfl,d,f,i,k,m⟩:=h
 refine⟨A,n,c,H,d,f,i,λs=>?_,m⟩
 obtain⟨ad,rfl,p⟩:=k s
 refine⟨ad,H,λj u t=>?_⟩
 have b:=p j u t
 have o:ad.block≠g:=by
  rcases a with a|a
  ·simp[Value.ownBlock] at a
  ·intro e;exact a (by simp[Value.ownBlock,e])
 have r:=World.block_lt_of_cell? w (ad.add j) b
 refine(World.cell?_of_block (q.block _ r λe=>o ?_)).ai b
 rw[vN] at e
 exact cC e
theorem Og (f:Tryz.prog.underlying t=some (.slice 253)) (h:aO l v w) {hi:Nat} (g:hi≤l.length) (kh:IntKind):
 ∃r,(∀w':World,(Instr.sliceAt t v none (some (.int kh hi)) none).run Tryz.prog w'=.ok r w')∧aO (l.take hi) r w∧r.ownBlock=v.ownBlock:=by
 obtain⟨r,d,i⟩:=Hq f h g kh
 refine⟨r,d,i,?_⟩
 obtain⟨A,n,c,rfl,p,_,k,_,_⟩:=h
 have e:=d w
 obtain⟨q,m,hs⟩:=gU.1 nt
 have o:hi≤n:=by simp at k;omega
 have j:(Instr.sliceBounds true n c none (some (.int kh hi)) none).run Tryz.prog w=.ok (0,hi,c) w:=by
  have b:=run_sliceBound (P:=Tryz.prog) (w:=w) kh (hi:Int) c .sliceAcap G G
  simp only[kP] at b
  simp[Instr.sliceBounds,b]
 simp[Instr.sliceAt,Instr.slice,run_underlying f,j,sizeOf,typeInfo,m,hs] at e
 subst e
 cases A with
 |none=>split<;>rfl
 |some a=>split<;>simp[Value.ownBlock,vN]
theorem ej.off {base:Nat} (h:ej base l v w) (b:g<base):v.ownBlock≠some g:=λa=>by
 have:=h.ge g a
 omega
theorem ej.low {base a:Nat} (h:ej base l v w) (b:a≤base):ej a l v w:=h.elim λn h=>⟨n,Hb h λk c=>cf b (World.ownsRow.lt h k c).1⟩
theorem ej.pw {base:Nat} {L:List UInt32} (h:ej base L v w) (i:0<L.length):∃g sp,base≤g∧v.ownBlock=some g∧PW g [] L sp v w:=by
 obtain⟨n,h⟩:=h
 have e:L.length=n:=by simpa using h.1
 rcases h.2 with⟨_,j⟩|⟨g,a,cur,rfl,b,d,l,c,k,f⟩
 ·omega
 ·refine⟨g,cur.toList.drop (n*1),b,H,⟨a,by rw[e];rfl,G,c⟩,?_⟩
  rw[qB,←f,nz]
  exact d
theorem PW.aL {b:List Value} {L:List UInt32} {a:List Value} (h:PW g b L a v w) (c:ao w w'):PW g b L a v w':=⟨h.eE,c.bM h.row⟩
theorem PW.lt {b:List Value} {L:List UInt32} {a:List Value} (h:PW g b L a v w):g<w.heap.size:=(jB.1 h.row).1
theorem PW.kept {b:List Value} {L:List UInt32} {a:List Value} (h:PW g b L a v w) {c:Option Nat} (d:w.grownBy w' c) (e:some g≠c):PW g b L a v w':=⟨h.eE,(d.block g h.lt e).ai h.row⟩
theorem Zd (m:Tryz.prog.underlying t=some (.slice 253)) {L:List UInt32} (h:PW g [] L sp v w) {lo hi:Nat} (n:lo<hi) (d:hi≤L.length) (a kh:IntKind):
 ∃r,(∀w':World,(Instr.sliceAt t v (some (.int a lo)) (some (.int kh hi)) none).run Tryz.prog w'=.ok r w')∧PW g ((L.take lo).map bz) ((L.take hi).drop lo) ((L.drop hi).map bz++sp) r w:=by
 obtain⟨c,rfl,o,p⟩:=h.eE
 obtain⟨i,k,hs⟩:=gU.1 nt
 have j:∀w:World,(Instr.sliceBounds true L.length c (some (.int a lo)) (some (.int kh hi)) none).run Tryz.prog w=.ok (lo,hi,c) w:=λw=>by
  have b:=run_sliceBound (P:=Tryz.prog) (w:=w) kh (hi:Int) c .sliceAcap G G
  have a2:=run_sliceBound (P:=Tryz.prog) (w:=w) a (lo:Int) hi .sliceB G G
  simp only[kP] at b a2
  simp[Instr.sliceBounds,b,a2]
 have l:¬c=lo:=G
 refine⟨.slice (some ⟨g,lo,none⟩) (hi-lo) (c-lo),λw'=>?_,⟨c-lo,?_,?_,G⟩,?_⟩
 ·simp[Instr.sliceAt,Instr.slice,run_underlying m,j,sizeOf,typeInfo,k,hs,l,vO]
 ·simp only[dN,eS,gA,iZ d,iZ (show lo≤L.length by omega)]
 ·simp only[eS,gA,iZ d];omega
 ·have e:L.take lo++(L.take hi).drop lo=L.take hi:=by
   have:=nz lo (L.take hi)
   rwa [List.take_take,iZ G] at this
  have f:([]:List Value)++(L.map bz++sp)=(L.take lo).map bz++(((L.take hi).drop lo).map bz++((L.drop hi).map bz++sp)):=by
   rw[qB,←fh,←fh,←mg,←mg,e,nz]
  rw[h.row,f]
theorem PW.join {L F:List UInt32} {r:Value} {lo hi:Nat} (h:PW g [] L sp v w0) (f:lo≤hi) (i:hi≤L.length) (d:F.length=hi-lo) (a:PW g ((L.take lo).map bz) F ((L.drop hi).map bz++sp) r w):PW g [] (L.take lo++F++L.drop hi) sp v w:=by
 obtain⟨c,rfl,j,b⟩:=h.eE
 have e:(L.take lo++F++L.drop hi).length=L.length:=by simp[d];omega
 refine⟨⟨c,by rw[e],G,b⟩,?_⟩
 rw[a.row]
 simp only[qB,mg,fh]
end
theorem jf:aY Tryz.prog 261:=⟨_,Tryz.func261,am,rfl⟩
theorem TN:aY Tryz.prog 339:=⟨_,Tryz.func339,am,rfl⟩
theorem Ag:aY Tryz.prog 305:=⟨_,Tryz.func305,am,rfl⟩
theorem KR:aY Tryz.prog 186:=⟨_,Tryz.func186,am,rfl⟩
theorem Ah:aY Tryz.prog 274:=⟨_,Tryz.func274,am,rfl⟩
theorem FT:aY Tryz.prog 285:=⟨_,Tryz.func285,am,rfl⟩
theorem vW:aY Tryz.prog 187:=⟨_,Tryz.func187,am,rfl⟩
theorem H1 (a:0<n) (b:n≤l.length) (h:l[n-1]'G=0):val (l.take (n-1))=val (l.take n):=by
 obtain⟨m,rfl⟩:∃m,n=m+1:=⟨n-1,G⟩
 simp only[pn] at h⊢
 rw[kO G,h];simp
theorem Bj (a:0<n) (b:n≤l.length) (h:¬l[n-1]'G=0):lb (val (l.take n))=l.take n:=by
 obtain⟨m,rfl⟩:∃m,n=m+1:=⟨n-1,G⟩
 simp only[pn] at h
 rw[←Pq,fi G,Pr h]
theorem Cp (a:0<l.length):l[l.length-1]'G≠0↔lb (val l)=l:=by
 constructor
 ·intro h
  have:=Bj (n:=l.length) a (bV _) h
  rwa [fL] at this
 ·intro h c
  have b:=H1 (n:=l.length) a (bV _) c
  rw[fL] at b
  have d:(lb (val l)).length≤l.length-1:=by
   refine gw ?_
   rw[←b]
   have:=en (l.take (l.length-1))
   rwa [eS,iZ G] at this
  rw[h] at d
  omega
theorem Px (x:UInt64):(x>>>UInt64.ofNat 32).toNat=x.toNat/4294967296:=by
 rw[BZ]
 show x.toNat>>>32=_
 rw[rU]
theorem Ps (b:aO l v w):
 Calls Tryz.prog 261 #[v] w (aJ λr w'=>w=w'∧aO (lb (val l)) r w∧(r.ownBlock=none∨r.ownBlock=v.ownBlock)):=by
 refine enter Tryz.func261 H H H ?_
 have u:=b.len
 refine ah (ap (Z H (f (al (ah (ap (J H (aW H (cI aT b) (Z H (f (al (ah (aR (eg (α:=Nat) (λn=>[(0,v),(3,I (n:Int))]) (λn w'=>w=w'∧n≤l.length∧val (l.take n)=val l) (λn=>n) (l.length) (aP H) ⟨H,bV _,by rw[fL]⟩ ?_))))))))))))))
 rintro n _ ⟨rfl,a,c⟩
 refine ah (ah (ap (J H (U H (cY) (J H (cK (λm=>?_) (λm=>?_)))))))
 ·refine V H (J H (V H (J H (V H (U (r:=I ((n-1:Nat):Int)) H (by have e:((n-1:Nat):Int)=(n:Int)-1:=G;rw[e];exact dM G G) ?_)))))
  refine V H ?_
  obtain⟨s,o,p⟩:=ei aT b (i:=(n-1:Nat)) G .i64
  refine bF H (o _) (V H (Y H (D bN H p) (V H (U (v:=bz 0) H (Dq) (bA H (f (al (bc H (λd=>?_) (λd=>?_)))))))))
  ·refine aH (al (aR (ap (J H (U (r:=I ((n-1:Nat):Int)) H (by have e:((n-1:Nat):Int)=(n:Int)-1:=G;rw[e];exact dM G G) ?_)))))
   refine Z H (f (bE (ew (n-1) (aP H) ⟨H,G,by rw[H1 G a d];exact c⟩ G)))
  ·refine ce (aU (aU (cg (al (ah (ah (ap (J H (U H (aV) (f (al ?_)))))))))))
   refine bc H (λh=>?_) (λh=>?_)
   ·refine ah (ap (Z H (f (al (aA (aI (aM H ?_)))))))
    exact⟨_,H,H,by
     obtain rfl:n=0:=by omega
     rw[←c];exact aO.nil _,.inl rfl⟩
   ·refine aH (al (ah (ap (J H (J H ?_)))))
    obtain⟨q,k,g,j⟩:=Og aT b (hi:=n) a .i64
    refine jx H H H H H (k _) (Z H (f (al (aA (aM H ?_)))))
    exact⟨_,H,H,by
     first
     |(exfalso;omega)
     |(rw[←c,Bj G a d];exact g),.inr j⟩
 ·refine L H (L H (L H (L H (L H (L H (t H (f (al (be H (ce (aU (aU ?_))))))))))))
  refine cg (al (ah (ah (ap (J H (U H (aV) (f (al (bc H (λh=>?_) (λh=>?_))))))))))
  ·refine ah (ap (Z H (f (al (aA (aI (aM H ?_)))))))
   exact⟨_,H,H,by
    obtain rfl:n=0:=by omega
    rw[←c];exact aO.nil _,.inl rfl⟩
  ·refine aH (al (ah (ap (J H (J H ?_)))))
   obtain⟨q,k,g,j⟩:=Og aT b (hi:=n) a .i64
   refine jx H H H H H (k _) (Z H (f (al (aA (aM H ?_)))))
   exact⟨_,H,H,by
    first
    |(exfalso;omega)
    |(rw[←c,Bj G a d];exact g),.inr j⟩
theorem jz (d:aO l v w):
 Calls Tryz.prog 261 #[v] w (aJ λr w'=>w=w'∧aO (lb (val l)) r w):=
 (Ps d).mono λ_ _ ⟨r,c,a,b,_⟩=>⟨r,c,a,b⟩
theorem Qz (d:aO l v w) (u:l.length≤17592186044416):
 Calls Tryz.prog 339 #[v] w (aJ λr w'=>ao w w'∧ej w.heap.size l r w'):=by
 obtain⟨A,n,c,rfl,x,t,i,s,k⟩:=id d
 refine enter Tryz.func339 H H H (ah (ap (Z H (f (al (ah (ah (ap (J H (U H (Ds aT) (f (al (lQ H (λb=>?_) (λb=>?_))))))))))))))
 ·refine ah (ap (Z H (f (al (aA (aI (aM H ?_)))))))
  have h:A=none:=by simpa using b
  have:=k h
  have j:l=[]:=gT (by simp at i;omega)
  subst j
  exact⟨_,H,ao.refl _,ej.nil _ _⟩
 ·refine aH (al (ah (ap ?_)))
  obtain⟨v5,C,m,a,e,y⟩:=mK aT (w:=w) w.heap.size [] aj (bV _)
  refine dJ (vs:=[]) H m (J H ?_)
  obtain⟨z,D,o,p,g⟩:=sU aT (ty:=47) e (d.aL a) dT (a).size
  have q:=ao.a6 (a) g e.ge
  refine dW H o (Z H (f (al (aA (aM H ?_)))))
  exact⟨_,H,q,by simpa using p⟩
theorem zC (b:aO l v w) (e:l.length≤17592186044416):
 Calls Tryz.prog 305 #[v] w (aJ λr w'=>ao w w'∧aO (lb (val l)) r w'):=by
 refine enter Tryz.func305 H H H ?_
 have g:=gw (en l)
 refine ah (ap (Z H (f (al (ah (ap (J H (aC jf H H (jz b) ?_))))))))
 rintro v4 _ ⟨rfl,a⟩
 refine aC TN H H (Qz a G) ?_
 rintro v5 h ⟨d,c⟩
 refine Z H (f (al (aA (aM H ?_))))
 exact⟨_,H,d,c.bL⟩
theorem Jg (a:aO l v w):
 Calls Tryz.prog 186 #[v] w (aJ λr w'=>w=w'∧r=B (decide (lb (val l)=l))):=by
 refine enter Tryz.func186 H H H ?_
 have j:=a.len
 refine ah (ap (Z H (f (al (ah (ap (J H (aW H (cI aT a) (U H (aV) (J H (cK (λc=>?_) (λc=>?_))))))))))))
 ·refine L H (L H (L H (L H (L H (L H (L H (bA H (Z H (f ?_)))))))))
  refine al (aA (aM H ?_))
  exact⟨_,H,H,by
   first
   |(have b:l=[]:=gT G
     subst b;rfl)
   |exact aB B (cA.2 (Cp G))⟩
 ·refine V H (J H (V H (J H (V H (aW H (cI aT a) (V H (U (r:=I ((l.length-1:Nat):Int)) H (by have e:((l.length-1:Nat):Int)=(l.length:Int)-1:=G;rw[e];exact dM G G) ?_)))))))
  refine V H ?_
  obtain⟨h,d,g⟩:=ei aT a (i:=(l.length-1:Nat)) G .i64
  refine bF H (d _) (V H (Y H (D bN H g) (V H (U (v:=bz 0) H (yY) (t H (Z H (f (al (aA (aM H ?_))))))))))
  exact⟨_,H,H,by
   first
   |(have b:l=[]:=gT G
     subst b;rfl)
   |exact aB B (cA.2 (Cp G))⟩
theorem zD {x:UInt64}:
 Calls Tryz.prog 274 #[bk x] w (aJ λr w'=>ao w w'∧aO (lb x.toNat) r w'):=by
 refine enter Tryz.func274 H H H (ah (ap (Z H (f (al (ah (ap (J H (cJ H (gL cU bN) (J H (U H (j6 32 G) (cJ H (gL cU bN) ?_))))))))))))
 obtain⟨j,k,d,h,g,i⟩:=mK aT (w:=w) w.heap.size [x.toUInt32,(x>>>UInt64.ofNat 32).toUInt32] aj (bV _)
 refine j3 (vs:=[(0,bz (x.toUInt32)),(1,bz ((x>>>UInt64.ofNat 32).toUInt32))]) H H d (aC jf H H (jz g.bL) ?_)
 rintro v9 _ ⟨rfl,a⟩
 refine Z H (f (al (aA (aM H ?_))))
 exact⟨_,H,h,by
  have e:val [x.toUInt32,(x>>>UInt64.ofNat 32).toUInt32]=x.toNat:=by
   have b:(x.toUInt32).toNat=x.toNat%4294967296:=JY x
   have c:((x>>>UInt64.ofNat 32).toUInt32).toNat=x.toNat/4294967296:=by
    have:=x.toNat_lt
    rw[JY,Px]
    omega
   simp only[val,b,c];omega
  rw[e] at a;exact a⟩
theorem Bn (x:UInt64):x.toNat<18446744073709551616:=x.toNat_lt
theorem AQ (x:UInt64) {s:Nat} (hs:s<64):(x<<<UInt64.ofNat s).toNat=x.toNat*2^s%18446744073709551616:=by
 rw[Fq,jo,eN (ES hs aF),eN hs,rT]
theorem rh (x:UInt64) {s:Nat} (hs:s<64):(x>>>UInt64.ofNat s).toNat=x.toNat/2^s:=by
 rw[BZ,jo,eN (ES hs aF),eN hs,rU]
theorem XF (x:UInt32) {s:Nat} (hs:s<32):(x<<<UInt32.ofNat s).toNat=x.toNat*2^s%4294967296:=by
 rw[JW,vL,eN (ES hs aF),eN hs,rT]
theorem AR (x:UInt32) {s:Nat} (hs:s<32):(x>>>UInt32.ofNat s).toNat=x.toNat/2^s:=by
 rw[zO,vL,eN (ES hs aF),eN hs,rU]
theorem eP (x:UInt32):x.toUInt64.toNat=x.toNat:=UInt32.toNat_toUInt64 x
theorem iV (x:UInt64):x.toUInt32.toNat=x.toNat%4294967296:=JY x
theorem nJ (x y:UInt64):(x+y).toNat=(x.toNat+y.toNat)%18446744073709551616:=UInt64.toNat_add x y
theorem wV (x y:UInt64):(x*y).toNat=x.toNat*y.toNat%18446744073709551616:=JX x y
theorem pO (x y:UInt64):(x-y).toNat=(18446744073709551616-y.toNat+x.toNat)%18446744073709551616:=UInt64.toNat_sub x y
theorem yK (a b i:Nat) (h:a<2^i):a|||2^i*b=a+2^i*b:=by
 rw[xT,←Nat.two_pow_add_eq_or_of_lt h,rP]
theorem C6 (x y:UInt64):(x|||y).toNat=x.toNat|||y.toNat:=UInt64.toNat_or x y
theorem Np (x y:UInt32):(x|||y).toNat=x.toNat|||y.toNat:=UInt32.toNat_or x y
theorem wW (r:UInt64) (d:UInt32) (b:r.toNat<4294967296):(r<<<UInt64.ofNat 32|||d.toUInt64).toNat=r.toNat*4294967296+d.toNat:=by
 have a:=ep d
 rw[C6,AQ r G,eP,eN G,xT]
 have:=yK d.toNat r.toNat 32 a
 simp only[Nat.reducePow] at this⊢
 rw[fw r.toNat,this];omega
theorem ua (h:i<l.length) (x:UInt32):val ((l.set i x).take (i+1))=val (l.take i)+4294967296^i*x.toNat:=by
 rw[kO (by simpa using h),List.take_set_of_le (bV _)]
 simp
theorem Ia (h:i<l.length) (x:UInt32):val ((l.set i x).drop i)=x.toNat+4294967296*val (l.drop (i+1)):=by
 rw[nQ (by simpa using h),zq G]
 simp
theorem Xl {L:List UInt32} {d:UInt32} (t:k<32) (hi:i<l.length) (o:d=l[i]) (s:L.length=l.length+1) (m:val (L.take (i+1))=val (l.take i)*2^k) (n:(L[i]'G).toNat<2^k):
 val (((L.set i (L[i]'G|||(d.toUInt64<<<UInt64.ofNat k).toUInt32)).set (i+1) ((d.toUInt64<<<UInt64.ofNat k)>>>UInt64.ofNat 32).toUInt32).take (i+1+1))=val (l.take (i+1))*2^k∧
  ((d.toUInt64<<<UInt64.ofNat k)>>>UInt64.ofNat 32).toUInt32.toNat<2^k:=by
 have f:=ep d
 have r:2^k*2^(32-k)=4294967296:=by rw[←jF,show k+(32-k)=32 by omega]
 have j:0<2^k:=lI G
 have b:(d.toUInt64<<<UInt64.ofNat k).toNat=d.toNat*2^k:=by
  rw[AQ _ G,eP,eN]
  have c:d.toNat*2^k≤4294967296*2^k:=fH _ G
  have e:2^k≤2^31:=lH G G
  omega
 have h:(d.toUInt64<<<UInt64.ofNat k).toUInt32.toNat=2^k*(d.toNat%2^(32-k)):=by
  rw[iV,b,←r,fw d.toNat,Nat.mul_mod_mul_left]
 have a:((d.toUInt64<<<UInt64.ofNat k)>>>UInt64.ofNat 32).toUInt32.toNat=d.toNat*2^k/4294967296:=by
  rw[iV,rh _ G,b,eN]
  have c:d.toNat*2^k<4294967296*2^k:=BO f j
  have e:2^k≤2^31:=lH G G
  simp only[Nat.reducePow] at e⊢
  omega
 have p:(L[i]'G|||(d.toUInt64<<<UInt64.ofNat k).toUInt32).toNat=(L[i]'G).toNat+2^k*(d.toNat%2^(32-k)):=by
  rw[Np,h,yK _ _ _ n]
 have g:2^k*(d.toNat%2^(32-k))+4294967296*(d.toNat*2^k/4294967296)=d.toNat*2^k:=by
  have c:=Nat.mod_add_div (d.toNat*2^k) 4294967296
  rw[iV,b] at h
  omega
 refine⟨?_,?_⟩
 ·generalize d.toNat*2^k/4294967296=q at a g
  rw[ua dT,a,ua G,p,kO hi,←o]
  rw[kO G] at m
  rw[fk,←m,fu,←g,gj]
  rw[f6 (4294967296^i),f6 (4294967296^i),fu (4294967296^i),pm,pm,pm]
 ·rw[a,xO G,fw]
  exact Nat.mul_lt_mul_of_pos_left f j
theorem Z9 {L:List UInt32} {d:UInt32} {r:UInt64} (a:0<d.toNat) (c:j<l.length) (k:L.length=l.length) (h:val (L.drop (j+1))*d.toNat+r.toNat=val (l.drop (j+1))) (g:r.toNat<d.toNat):
 val ((L.set j ((r<<<UInt64.ofNat 32|||l[j].toUInt64)/d.toUInt64).toUInt32).drop j)*d.toNat+((r<<<UInt64.ofNat 32|||l[j].toUInt64)%d.toUInt64).toNat=val (l.drop j)∧
  ((r<<<UInt64.ofNat 32|||l[j].toUInt64)%d.toUInt64).toNat<d.toNat:=by
 have m:=ep d
 have b:=wW r l[j] G
 have f:((r<<<UInt64.ofNat 32|||l[j].toUInt64)/d.toUInt64).toNat=(r.toNat*4294967296+l[j].toNat)/d.toNat:=by rw[xZ,b,eP]
 have hm:((r<<<UInt64.ofNat 32|||l[j].toUInt64)%d.toUInt64).toNat=(r.toNat*4294967296+l[j].toNat)%d.toNat:=by rw[ya,b,eP]
 have e:(r.toNat*4294967296+l[j].toNat)/d.toNat<4294967296:=by
  rw[xO a]
  have:=ep l[j]
  have i:(r.toNat+1)*4294967296≤d.toNat*4294967296:=fH _ g
  omega
 refine⟨?_,by rw[hm];exact jV _ a⟩
 rw[Ia G,iV,f,hm,eN e,nQ c,←h]
 have:=rQ (r.toNat*4294967296+l[j].toNat) d.toNat
 rw[fk,fu,fw ((r.toNat*4294967296+l[j].toNat)/d.toNat)]
 omega
theorem aaa {x:UInt64} {d s:Nat} (hs:s<32) (i:x.toNat=d+4294967296*(R%4294967296)):
 ((x>>>UInt64.ofNat s).toUInt32).toNat+4294967296*(R/2^s)=(d+4294967296*R)/2^s∨4294967296≤d:=by
 by_cases f:4294967296≤d
 ·exact .inr f
 left
 have g:2^s*2^(32-s)=4294967296:=by rw[←jF,show s+(32-s)=32 by omega]
 have h:0<2^s:=lI G
 have b:d+4294967296*R=x.toNat+2^s*(2^(32-s)*(4294967296*(R/4294967296))):=by
  rw[←fu,g,i];omega
 have c:(d+4294967296*R)/2^s=x.toNat/2^s+4294967296*(2^(32-s)*(R/4294967296)):=by
  rw[b,xN _ _ h,xQ]
 have e:(d+4294967296*R)/2^s/4294967296=R/2^s:=by
  rw[BM,fw (2^s),←BM]
  congr 1
  omega
 have a:=Nat.mod_add_div ((d+4294967296*R)/2^s) 4294967296
 rw[e] at a
 rw[iV,rh _ G]
 rw[←a]
 congr 1
 rw[c,BK]
theorem MZ {x:UInt64} {a:Nat} {e:UInt32} (c:x.toNat=a) (b:a<4294967296):(x|||e.toUInt64<<<UInt64.ofNat 32).toNat=a+4294967296*e.toNat:=by
 have d:=ep e
 rw[C6,AQ _ G,eP,eN G,c]
 have:=yK a e.toNat 32 b
 simp only[Nat.reducePow] at this⊢
 rw[fw e.toNat,this]
def bl (n:Nat):Nat:=if n=0 then 0 else Nat.log2 n+1
theorem Kj:bl 0=0:=rfl
theorem yc (h:0<n):2^(bl n-1)≤n∧n<2^bl n:=by
 unfold bl
 rw[if_neg G,pn]
 exact⟨Nat.log2_self_le G,Nat.lt_log2_self⟩
theorem vQ (h:0<n):0<bl n:=by unfold bl;rw[if_neg G];omega
theorem Ti (c:2^k≤n) (e:n<2^(k+1)):bl n=k+1:=by
 have d:0<n:=eT (lI G) c
 obtain⟨f,g⟩:=yc d
 have h:=vQ d
 have a:k<bl n:=(EV (a:=2) G).1 (nA c g)
 have b:bl n-1<k+1:=(EV (a:=2) G).1 (nA f e)
 omega
theorem zY {s:Nat} (h:2^s≤n):bl n=s+bl (n/2^s):=by
 have d:0<2^s:=lI G
 have e:0<n/2^s:=Nat.div_pos h d
 obtain⟨a,b⟩:=yc e
 have f:=vQ e
 obtain⟨k,c⟩:∃k,bl (n/2^s)=k+1:=⟨_,(Nat.sub_add_cancel f).symm⟩
 rw[c,pn] at a
 rw[c] at b⊢
 refine(Ti (k:=s+k) ?_ ?_)
 ·rw[jF,fw]
  exact cf (fH _ a) (Nat.div_mul_le_self _ _)
 ·rw[show s+k+1=s+(k+1) by omega,jF,fw]
  exact(xO d).1 b
theorem nD (h:n<2^k):bl n≤k:=by
 rcases fm n with rfl|b
 ·simp[Kj]
 ·have c:=(yc b).1
  have d:=vQ b
  have:=(EV (a:=2) G).1 (nA c h)
  omega
theorem Kh (h:i+1=(lb n).length):bl n=32*i+bl ((lb n)[i]'G).toNat:=by
 have d:=GN h
 have a:n=val ((lb n).take i)+4294967296^i*((lb n)[i]'G).toNat:=by
  rw[←kO G,h,fL,cH]
 have b:=en ((lb n).take i)
 rw[eS,iZ G] at b
 have e:(4294967296:Nat)^i=2^(32*i):=by rw[rS]
 rw[e] at a b
 have c:2^(32*i)≤n:=by
  rw[a]
  have:2^(32*i)*1≤2^(32*i)*((lb n)[i]'G).toNat:=nY _ d
  omega
 rw[zY c]
 congr 2
 have:n/2^(32*i)=(val ((lb n).take i)+2^(32*i)*((lb n)[i]'G).toNat)/2^(32*i):=by rw[←a]
 rw[this,xN _ _ (lI G),pp b,gB]
theorem KP:aY Tryz.prog 323:=⟨_,Tryz.func323,am,rfl⟩
theorem UH:aY Tryz.prog 321:=⟨_,Tryz.func321,am,rfl⟩
theorem UI:aY Tryz.prog 326:=⟨_,Tryz.func326,am,rfl⟩
theorem KO:aY Tryz.prog 299:=⟨_,Tryz.func299,am,rfl⟩
theorem KG:aY Tryz.prog 338:=⟨_,Tryz.func338,am,rfl⟩
theorem Um:aY Tryz.prog 322:=⟨_,Tryz.func322,am,rfl⟩
theorem aar {t:List UInt32} {x:UInt64} (e:t.length≤2) (hi:i<t.length) (c:x.toNat=val (t.take i)):(x|||t[i].toUInt64<<<UInt64.ofNat (32*i)).toNat=val (t.take (i+1)):=by
 have a:=en (t.take i)
 rw[eS,iZ G] at a
 have f:=ep t[i]
 rw[kO hi,←c,C6,AQ _ G,eP]
 have b:(4294967296:Nat)^i=2^(32*i):=by rw[rS]
 rw[b,←c] at a
 have d:2^(32*i)≤2^32:=lH G G
 rw[eN,fw,yK _ _ _ a,b]
 have:t[i].toNat*2^(32*i)≤4294967295*2^32:=gi G d
 omega
theorem Gb {x y:Nat} (h:x<y):mY x y= -1:=by unfold mY;rw[if_pos h]
theorem Ga {x y:Nat} (h:y<x):mY x y=1:=by unfold mY;rw[if_neg G,if_pos h]
theorem Lj {x:Nat}:mY x x=0:=by unfold mY;rw[if_neg G,if_neg G]
theorem uJ {a b:UInt32}:a<b↔a.toNat<b.toNat:=JV
theorem MR {x y:Nat} (a:j<(lb x).length) (b:j<(lb y).length) (c:(lb x).drop (j+1)=(lb y).drop (j+1)) (h:(lb x)[j]<(lb y)[j]):x<y:=by
 have:=PG a b c (uJ.1 h)
 rwa [cH,cH] at this
theorem EP (m:aO l v w):
 Calls Tryz.prog 285 #[v] w (aJ λr w'=>w=w'∧((18446744073709551616≤val l∧r=.tuple #[bk 0,B false])∨∃x:UInt64,x.toNat=val l∧r=.tuple #[bk x,B true])):=by
 refine enter Tryz.func285 H H H (ah (ap (Z H (Z H (f (al (ah (ap (J H (aC jf H H (jz m) ?_))))))))))
 rintro s _ ⟨rfl,a⟩
 refine Z H (f (al (ah (ah (ap (J H (aW H (cI aT a) (U H (cY) (f (al (bc H (λb=>?_) (λb=>?_))))))))))))
 ·refine ah (ap (Z H (Z H (f (al (aA (aI (dt H ?_))))))))
  exact⟨_,H,H,.inl ⟨by
   rcases jn (val l) 18446744073709551616 with h|h
   ·have:=gw (n:=val l) (k:=2) h
    omega
   ·exact h,H⟩⟩
 ·obtain⟨t,c⟩:∃t,t=lb (val l):=⟨_,rfl⟩
  have o:val t=val l:=by rw[c,cH]
  rw[←c] at a b⊢
  have j:t.length≤2:=G
  refine aH (al (ah (ap (Z H (f (al (ah (ah (ap (J H (aW (r:=I (t.length:Int)) H (cI aT a) (J H (f (al (aR (fp (λ(i:Nat) (x:UInt64)=>[(4,bk x),(12,s),(13,I (t.length:Int)),(14,I (i:Int))]) (λ(i:Nat) (x:UInt64) w'=>w=w'∧i≤t.length∧x.toNat=val (t.take i)) (λ(i:Nat) (x:UInt64)=>t.length-i) (0) (0) (aP H) ⟨H,aj,H⟩ ?_))))))))))))))))
  rintro i x _ ⟨rfl,hi,d⟩
  refine ah (ap (U H (bO) (f (al (ah (bc H (λg=>?_) (λg=>?_)))))))
  ·refine aH (al (ah (aR (ah (ap (J H ?_))))))
   obtain⟨u,p,q⟩:=ei aT a (i:=i) G .i64
   refine bF H (p _) (Y H (D bN H q) (Z H (Z H (f (al (ap (J H (J H (cJ H (fK bN cU) (J H (U (r:=I ((32*i:Nat):Int)) H (by have e:((32*i:Nat):Int)=32*(i:Int):=G;rw[e];exact dh G G) (U H (tg ((32*i:Nat)) G) (U H (uU) (Z H (f (bE (al (ap (U H cD (J H (f (eI (i+1) (x|||t[i].toUInt64<<<UInt64.ofNat (32*i)) (aP H) ⟨H,by show i+1≤_;omega,aar j G d⟩ (by show t.length-(i+1)<t.length-i;omega)))))))))))))))))))))))
  ·refine ce (aU (aU (cg (al (ah (ap (J H (Z H (Z H (f (al (aA (dt H ?_)))))))))))))
   exact⟨_,H,H,.inr ⟨x,by rw[d,fG G,o],rfl⟩⟩
theorem vz (F:aO l v w) (C:aO m u w):
 Calls Tryz.prog 187 #[v,u] w (aJ λr w'=>ao w w'∧r=I (mY (val l) (val m))):=by
 refine enter Tryz.func187 H H H (ah (ap (Z H (f (al (ah (ap (J H (aC jf H H (jz F) ?_)))))))))
 rintro S _ ⟨rfl,c⟩
 refine J H (aC jf H H (jz C) ?_)
 rintro v9 _ ⟨rfl,d⟩
 have hx:=c.len
 have hy:=d.len
 refine Z H (Z H (f (al (ah (ah (ap (J H (aW H (cI aT c) (J H (aW H (cI aT d) (U H (dZ) (f (al (bc H (λs=>?_) (λs=>?_)))))))))))))))
 ·refine ah (ah (ap (J H (aW H (cI aT c) (J H (aW H (cI aT d) ?_))))))
  refine U H (bO) (f (al (bc H (λt=>?_) (λt=>?_))))
  ·refine ah (ap (Z H (f (al (aA (aI (aI (aM H ?_))))))))
   exact⟨_,H,ao.refl _,aB I (Gb (CR G)).symm⟩
  ·refine aH (al (ah (ap (Z H (f (al (aA (aI (aM H ?_)))))))))
   exact⟨_,H,ao.refl _,aB I (Ga (CR G)).symm⟩
 ·refine aH (al (ah (ah (ap ?_))))
  have aa:(lb (val l)).length=(lb (val m)).length:=G
  refine J H (aW H (cI aT c) (U H (dM G G) (Z H (f (al (aR (eg (α:=Nat) (λk=>[(0,S),(1,v9),(5,I ((k:Int)-1))]) (λk w'=>ao w w'∧k≤(lb (val l)).length∧(lb (val l)).drop k=(lb (val m)).drop k) (λk=>k) ((lb (val l)).length) (aP H) ⟨ao.refl _,bV _,by rw[kT (bV _),kT G]⟩ ?_)))))))
  rintro k w7 ⟨a,hk,g⟩
  refine ah (ah (ap (J H (U H (eU) (f (al (bc H (λx=>?_) (λx=>?_))))))))
  ·obtain⟨j,rfl⟩:∃j,k=j+1:=⟨k-1,G⟩
   have e:((j+1:Nat):Int)-1=(j:Int):=G
   rw[e]
   refine aH (al (ah (aR (ah (cz 8 [0,1,5,30,34] am am (W H (W H ?_)))))))
   obtain⟨T,K,O⟩:=ei aT (c.aL a) (i:=j) G .i64
   refine cF H (λw _=>K w) (aQ H (λw b=>D bN H (b.a0 O)) (W H (W H ?_)))
   obtain⟨V,L,P⟩:=ei aT (d.aL a) (i:=j) G .i64
   refine cF H (λw _=>L w) (aQ H (λw b=>D bN H (b.a0 P)) (cq ?_))
   rintro ad n _ z
   obtain rfl:=bU z
   rintro _ A
   obtain rfl:=bU A
   rintro _ rfl _ rfl _ rfl
   refine U H (yY) (f (al (bc H (λo=>?_) (λo=>?_))))
   ·refine ah (ah (cz 8 [39,43] am am ?_))
    refine W H (W H ?_)
    obtain⟨X,M,Q⟩:=ei aT (c.aL (a.ai n)) (i:=j) G .i64
    refine cF H (λw _=>M w) (aQ H (λw b=>D bN H (b.a0 Q)) (W H (W H ?_)))
    obtain⟨Y,N,R⟩:=ei aT (d.aL (a.ai n)) (i:=j) G .i64
    refine cF H (λw _=>N w) (aQ H (λw b=>D bN H (b.a0 R)) (cq ?_))
    rintro ab q _ rfl _ rfl
    refine U H (Ob) (f (al (bc H (λp=>?_) (λp=>?_))))
    ·refine ah (ap (Z H (f (al (aA (aI (bD (aI (aI (bD (aI (aM H ?_))))))))))))
     exact⟨_,H,((a.ai n).ai q),aB I (Gb (MR G G g p)).symm⟩
    ·refine aH (al (ah (ap (Z H (f (al (aA (bD (aI (aI (bD (aI (aM H ?_)))))))))))))
     exact⟨_,H,((a.ai n).ai q),by
      refine aB I (Ga (MR G G g.symm ?_)).symm
      rw[uJ] at p⊢
      have:(lb (val l))[j].toNat≠(lb (val m))[j].toNat:=λy=>o (ve y)
      omega⟩
   ·refine aH (bE (al (ap (J H (U H (dM G G) (Z H (f ?_)))))))
    refine ew j (aP H) ⟨(a.ai n),G,by rw[lE (show j<(lb (val l)).length by omega),lE (show j<(lb (val m)).length by omega),g,show(lb (val l))[j]=(lb (val m))[j] from oJ λh=>o h]⟩ G
  ·refine ce (aU (aU (cg (al (ah (ap (Z H (f (al (aA (aM H ?_)))))))))))
   exact⟨_,H,a,by
    obtain rfl:k=0:=by omega
    rw[tt,tt] at g
    rw[MS g,Lj];rfl⟩
theorem Je (c:aO l v w) (hl:l.length≤1099511627776) (t:k<32):
 Calls Tryz.prog 323 #[v,I (k:Int)] w (aJ λr w'=>ao w w'∧∃L,ej w.heap.size L r w'∧L.length=l.length+1∧val L=val l*2^k):=by
 refine enter Tryz.func323 H H H (ah (ap (Z H (f (al (ah (ap (J H (aW H (cI aT c) (jP (r:=I (((l.length)+1:Nat):Int)) H H H (by have e:(((l.length)+1:Nat):Int)=(l.length:Int)+1:=G;rw[e];exact dB G G) ?_))))))))))
 obtain⟨j,ai,u,m,x,ae⟩:=tX aT (w:=w) w.heap.size (n:=l.length+1) G (bV _)
 refine sQ H u (Z H (f (al (ah (ah (ap (J H (aW H (cI Tryz.underlying47 (c.aL m)) (J H (f (al (aR (fp (λ(i:Nat) (L:List UInt32)=>[(1,I (k:Int)),(5,j),(13,v),(14,I (l.length:Int)),(15,I (i:Int))]) (λ(i:Nat) (L:List UInt32) w'=>ej w.heap.size L j w'∧ao w w'∧i≤l.length∧L.length=l.length+1∧val (L.take (i+1))=val (l.take i)*2^k∧∀h:i<L.length,L[i].toNat<2^k) (λ(i:Nat) (L:List UInt32)=>l.length-i) (0) (List.replicate (l.length+1) 0) (aP H) ⟨x,m,aj,aj,by simp[val],λ_=>by simp;exact lI G⟩ ?_)))))))))))))
 rintro i L w3 ⟨g,a,hi,b,d,s⟩
 refine ah (ap (U H (bO) (f (al (ah (bc H (λo=>?_) (λo=>?_)))))))
 ·refine aH (al (ah (aR (ah (ap (J H ?_))))))
  obtain⟨V,A,M⟩:=ei aT (c.aL a) (i:=i) G .i64
  refine bF H (A _) (Y H (D bN H M) (Z H (Z H (f (al (ah (ap (J H (cJ H (fK bN cU) (J H (U H (tg (k) G) (Z H (f (al (ah (ap (J H (J H ?_))))))))))))))))))
  obtain⟨W,C,N⟩:=ei aT g.bL (i:=i) G .i64
  refine bF H (C _) (Y H (D bN H N) (J H (cJ H (gL cU bN) (U H (tY) ?_))))
  obtain⟨ab,ak,F,Q,y,O,p,X,af⟩:=(g).b9 aT (i:=i) G (L[i]'G|||(l[i].toUInt64<<<UInt64.ofNat k).toUInt32)
  refine bF H (F _) (cZ H Q ?_)
  have S:=ao.a2 (a) O p
  refine f (al (ap (J H (J H (U H cD (J H (U H (j6 32 G) (cJ H (gL cU bN) ?_))))))))
  obtain⟨ad,am,K,R,z,P,q,aa,ag⟩:=(y).b9 aT (i:=(i+1)) dT ((l[i].toUInt64<<<UInt64.ofNat k>>>UInt64.ofNat 32).toUInt32)
  refine bF H (K _) (cZ H R ?_)
  have T:=ao.a2 (S) P q
  refine f (bE (al (ap (U H cD (J H (f ?_))))))
  have st:=Xl t (show i<l.length by omega) rfl b d (s G)
  refine eI (i+1) (_) (aP H) ⟨z,T,by show i+1≤_;omega,by simpa using b,st.1,λ_=>by simpa using st.2⟩ (by show l.length-(i+1)<l.length-i;omega)
 ·refine ce (aU (aU (cg (al (ah (ap (J H (Z H (f (al (aA (aM H ?_))))))))))))
  exact⟨_,H,a,L,g,b,by
   obtain rfl:i=l.length:=by omega
   rw[fG G,fL] at d
   exact d⟩
theorem RG {d:UInt32} (m:aO l v w) (hl:l.length≤1099511627776) (c:0<d.toNat):
 Calls Tryz.prog 321 #[v,bz d] w (aJ λr w'=>ao w w'∧∃q s,r=.tuple #[q,s]∧aO (lb (val l/d.toNat)) q w'∧aO (lb (val l%d.toNat)) s w'):=by
 refine enter Tryz.func321 H H H ?_
 have p:d.toUInt64≠0:=λh=>by
  have:=aB UInt64.toNat h
  rw[eP] at this
  simp at this
  omega
 refine ah (ap (Z H (Z H (f (al (ah (ap (J H (aW H (cI aT m) ?_)))))))))
 obtain⟨u,ag,M,x,N,ab⟩:=tX aT (w:=w) w.heap.size (n:=l.length) G (bV _)
 refine sQ H M (Z H (f (al (ah (ap (Z H (f (al (ah (ah (ap (J H (aW H (cI Tryz.underlying47 (m.aL x)) (U H (dM G G) (Z H (f (al (aR (ob (λ(k:Nat) (L:List UInt32) (r:UInt64)=>[(0,v),(1,bz d),(6,u),(7,bk r),(8,I ((k:Int)-1))]) (λ(k:Nat) (L:List UInt32) (r:UInt64) w'=>ej w.heap.size L u w'∧ao w w'∧k≤l.length∧L.length=l.length∧val (L.drop k)*d.toNat+r.toNat=val (l.drop k)∧r.toNat<d.toNat) (λ(k:Nat) (L:List UInt32) (r:UInt64)=>k) (l.length) (List.replicate l.length 0) (0) (aP H) ⟨N,x,bV _,aj,by simp[kT,val],c⟩ ?_)))))))))))))))))))
 rintro k L r w4 ⟨t,b,hk,o,a,g⟩
 refine ah (ah (ap (J H (U H (eU) (f (al (bc H (λC=>?_) (λC=>?_))))))))
 ·obtain⟨j,rfl⟩:∃j,k=j+1:=⟨k-1,G⟩
  have e:((j+1:Nat):Int)-1=(j:Int):=G
  rw[e]
  have st:=Z9 c (show j<l.length by omega) o a g
  refine aH (al (ah (aR (ah (ap (J H (U H (tg 32 G) (J H (J H ?_)))))))))
  obtain⟨W,P,R⟩:=ei aT (m.aL b) (i:=j) G .i64
  refine bF H (P _) (Y H (D bN H R) (cJ H (fK bN cU) (U H (uU) (Z H (f (al (ah (ap (J H (J H (J H (J H (cJ H (fK bN cU) (U H (Dz p) (cJ H (gL cU bN) ?_)))))))))))))))
  obtain⟨aa,ai,Q,T,O,S,F,X,ad⟩:=(t).b9 aT (i:=j) G (((r<<<UInt64.ofNat 32|||l[j].toUInt64)/d.toUInt64).toUInt32)
  refine bF H (Q _) (cZ H T ?_)
  have V:=ao.a2 (b) S F
  refine f (al (ap (J H (J H (cJ H (fK Tryz.underlying253 Tryz.underlying175) (U H (DA p) (Z H (f (bE (al (ap (J H (U H (dM G G) (Z H (f (lj (j) (_) ((r<<<UInt64.ofNat 32|||l[j].toUInt64)%d.toUInt64) (aP H) ⟨O,V,by show j≤_;omega,by simpa using o,st.1,st.2⟩ (by show j<j+1;omega)))))))))))))))))
 ·refine ce (aU (aU (cg (al (ah (ap ?_))))))
  obtain rfl:k=0:=by omega
  rw[tt,tt] at a
  have K:val l/d.toNat=val L:=by rw[←a,fw,ET c,pp g,lG]
  have hm:val l%d.toNat=r.toNat:=by rw[←a,fw,EU,eN g]
  refine J H (aC jf H H (jz t.bL) ?_)
  rintro ae _ ⟨rfl,z⟩
  refine J H (aC Ah H H (zD) ?_)
  rintro af ak ⟨y,A⟩
  refine Z H (Z H (f (al (aA (dt H ?_)))))
  exact⟨_,H,(b.ai y),_,_,H,by rw[K];exact z.aL y,by rw[hm];exact A⟩
def rA:List UInt8:=(List.range 256).map λn=>UInt8.ofNat (bl n)
theorem bl8 (y:UInt8):(UInt8.ofNat (bl y.toNat)).toNat=bl y.toNat∧bl y.toNat≤8:=by
 have:=nD (n:=y.toNat) (k:=8) y.toNat_lt
 exact⟨by rw[Ft];omega,this⟩
theorem DC (y:UInt8):(Instr.index 9 (S rA) (U8 y)).run Tryz.prog w=.ok (U8 (UInt8.ofNat (bl y.toNat))) w:=by
 have a:=y.toNat_lt
 have hs:(⟨rA.toArray⟩:ByteArray).size=256:=by simp[ByteArray.size,rA]
 rw[S,U8,run_index_string _ _ _ _ _ uu,wm (by rw[hs];omega)]
 have e:(⟨rA.toArray⟩:ByteArray)[((y.toNat:Int)).toNat]'(by rw[hs];omega)=UInt8.ofNat (bl y.toNat):=by
  show rA.toArray[((y.toNat:Int)).toNat]'(by simp[rA];omega)=_
  simp[rA]
 rw[e];rfl
theorem Ca (x:UInt32) (h:x.toNat<256):bl x.toUInt8.toNat=bl x.toNat:=by
 have:x.toUInt8.toNat=x.toNat%256:=zP x
 rw[this,eN h]
theorem yz {a b:UInt32}:a≥b↔b.toNat≤a.toNat:=UInt32.le_iff_toNat_le
theorem IQ {x:UInt32}:
 Calls Tryz.prog 338 #[bz x] w (aJ λr w'=>w=w'∧r=I ((bl x.toNat:Nat):Int)):=by
 refine enter Tryz.func338 H H H ?_
 have m:=ep x
 refine ah (ap (Z H (f (al (ah (ah (ap (J H (U (v:=bz 65536) H (Hg) (f (al (bc H (λi=>?_) (λi=>?_)))))))))))))
 ·have l:65536≤x.toNat:=yz.1 i
  have d:=zY (n:=x.toNat) (s:=16) G
  have e:=AR x (s:=16) G
  refine ah (ap (J H (U H (oz 16 G) (Z H (f (al (ap (Z H (f (al (ah (ah (ap (J H (U (v:=bz 256) H (Hg) (f (al (bc H (λg=>?_) (λg=>?_)))))))))))))))))))
  ·have j:256≤((((x)>>>UInt32.ofNat 16))).toNat:=yz.1 g
   have b:=zY (n:=((((x)>>>UInt32.ofNat 16))).toNat) (s:=8) G
   have c:=AR (((x)>>>UInt32.ofNat 16)) (s:=8) G
   refine ah (ap (J H (U H (oz 8 G) (Z H (f (al (ap (J H (U H (dB G G) (Z H (f (al (ah (ap (J H ?_)))))))))))))))
   have a:=Ca (((((x)>>>UInt32.ofNat 16))>>>UInt32.ofNat 8)) (by first|omega|(rw[c];omega))
   refine J H (cJ H (qe bN fo) ?_)
   have k:=bl8 ((((((x)>>>UInt32.ofNat 16))>>>UInt32.ofNat 8))).toUInt8
   refine AZ (u:=S rA) (v:=U8 ((((((x)>>>UInt32.ofNat 16))>>>UInt32.ofNat 8))).toUInt8) am H H (DC _) (cJ H (DE fo aE) (U H (dB G G) (Z H (f (al (aA (aM H ?_)))))))
   exact⟨_,H,H,aB I (by
    try simp only[Nat.reducePow] at*
    first
    |(rw[c] at a;rw[e] at b a;rw[d,b];omega)
    |(rw[c] at a;rw[b];omega)
    |(rw[e] at a;rw[d];omega)
    |omega)⟩
  ·have j:((((x)>>>UInt32.ofNat 16))).toNat<256:=nB λh=>g (yz.2 h)
   refine aH (al (ah (ap (J H ?_))))
   have a:=Ca (((x)>>>UInt32.ofNat 16)) (by first|omega|(rw[c];omega))
   refine J H (cJ H (qe bN fo) ?_)
   have k:=bl8 ((((x)>>>UInt32.ofNat 16))).toUInt8
   refine AZ (u:=S rA) (v:=U8 ((((x)>>>UInt32.ofNat 16))).toUInt8) am H H (DC _) (cJ H (DE fo aE) (U H (dB G G) (Z H (f (al (aA (aM H ?_)))))))
   exact⟨_,H,H,aB I (by
    try simp only[Nat.reducePow] at*
    first
    |(rw[c] at a;rw[e] at b a;rw[d,b];omega)
    |(rw[c] at a;rw[b];omega)
    |(rw[e] at a;rw[d];omega)
    |omega)⟩
 ·have l:x.toNat<65536:=nB λh=>i (yz.2 h)
  refine aH (al (ah (ah (ap (J H (U (v:=bz 256) H (Hg) (f (al (bc H (λg=>?_) (λg=>?_))))))))))
  ·have j:256≤((x)).toNat:=yz.1 g
   have b:=zY (n:=((x)).toNat) (s:=8) G
   have c:=AR (x) (s:=8) G
   refine ah (ap (J H (U H (oz 8 G) (Z H (f (al (ap (J H (U H (dB G G) (Z H (f (al (ah (ap (J H ?_)))))))))))))))
   have a:=Ca (((x)>>>UInt32.ofNat 8)) (by first|omega|(rw[c];omega))
   refine J H (cJ H (qe bN fo) ?_)
   have k:=bl8 ((((x)>>>UInt32.ofNat 8))).toUInt8
   refine AZ (u:=S rA) (v:=U8 ((((x)>>>UInt32.ofNat 8))).toUInt8) am H H (DC _) (cJ H (DE fo aE) (U H (dB G G) (Z H (f (al (aA (aM H ?_)))))))
   exact⟨_,H,H,aB I (by
    try simp only[Nat.reducePow] at*
    first
    |(rw[c] at a;rw[e] at b a;rw[d,b];omega)
    |(rw[c] at a;rw[b];omega)
    |(rw[e] at a;rw[d];omega)
    |omega)⟩
  ·have j:((x)).toNat<256:=nB λh=>g (yz.2 h)
   refine aH (al (ah (ap (J H ?_))))
   have a:=Ca (x) (by first|omega|(rw[c];omega))
   refine J H (cJ H (qe bN fo) ?_)
   have k:=bl8 ((x)).toUInt8
   refine AZ (u:=S rA) (v:=U8 ((x)).toUInt8) am H H (DC _) (cJ H (DE fo aE) (U H (dB G G) (Z H (f (al (aA (aM H ?_)))))))
   exact⟨_,H,H,aB I (by
    try simp only[Nat.reducePow] at*
    first
    |(rw[c] at a;rw[e] at b a;rw[d,b];omega)
    |(rw[c] at a;rw[b];omega)
    |(rw[e] at a;rw[d];omega)
    |omega)⟩
theorem Rd {x:UInt32}:
 Calls Tryz.prog 322 #[bz x] w (aJ λr w'=>w=w'∧r=I ((32-bl x.toNat:Nat):Int)):=by
 refine enter Tryz.func322 H H H ?_
 have a:=nD (n:=x.toNat) (k:=32) x.toNat_lt
 refine ah (ap (Z H (f (al (ah (ap (J H (aC KG H H (IQ) ?_))))))))
 rintro v4 _ ⟨rfl,rfl⟩
 refine U (r:=I ((32-bl x.toNat:Nat):Int)) H (by have e:((32-bl x.toNat:Nat):Int)=32-((bl x.toNat:Nat):Int):=G;rw[e];exact dM G G) (Z H (f (al (aA (aM H ?_)))))
 exact⟨_,H,H,H⟩
theorem Jd (d:aO l v w) (o:l.length≤1099511627776):
 Calls Tryz.prog 299 #[v] w (aJ λr w'=>w=w'∧r=I ((bl (val l):Nat):Int)):=by
 refine enter Tryz.func299 H H H ?_
 have p:=gw (en l)
 refine ah (ap (Z H (f (al (ah (ap (J H (aC jf H H (jz d) ?_))))))))
 rintro v4 _ ⟨rfl,a⟩
 refine Z H (f (al (ah (ah (ap (J H (oo (r:=I ((lb (val l)).length:Int)) H H (cI aT a) (U H (aV) (f (al (bc H (λb=>?_) (λb=>?_))))))))))))
 ·refine ah (ap (Z H (f (al (aA (aI (aM H ?_)))))))
  exact⟨_,H,H,by
   have:val l=0:=lh.1 G
   rw[this];rfl⟩
 ·refine aH (al (ah (ap (J H (oo (r:=I ((lb (val l)).length:Int)) H H (cI aT a) (jP (r:=I (((lb (val l)).length-1:Nat):Int)) H H H (by have e:(((lb (val l)).length-1:Nat):Int)=((lb (val l)).length:Int)-1:=G;rw[e];exact dM G G) ?_))))))
  refine jP (r:=I ((32*((lb (val l)).length-1:Nat):Nat):Int)) H H H (by have e:((32*((lb (val l)).length-1:Nat):Nat):Int)=32*(((lb (val l)).length-1:Nat):Int):=G;rw[e];exact dh G G) (J H (J H (oo (r:=I ((lb (val l)).length:Int)) H H (cI aT a) (jP (r:=I (((lb (val l)).length-1:Nat):Int)) H H H (by have e:(((lb (val l)).length-1:Nat):Int)=((lb (val l)).length:Int)-1:=G;rw[e];exact dM G G) ?_))))
  obtain⟨j,g,h⟩:=ei aT a (i:=((lb (val l)).length-1:Nat)) G .i64
  refine bF H (g _) (Y H (D bN H h) (aC KG H H (IQ) ?_))
  rintro q _ ⟨rfl,rfl⟩
  have c:=Kh (n:=val l) (i:=(lb (val l)).length-1) G
  have m:=nD (n:=((lb (val l))[(lb (val l)).length-1]'G).toNat) (k:=32) (ep _)
  refine jP (r:=I ((((32*((lb (val l)).length-1:Nat):Nat))+(bl ((lb (val l))[(lb (val l)).length-1]'G).toNat:Nat):Nat):Int)) H H H (by have e:((((32*((lb (val l)).length-1:Nat):Nat))+(bl ((lb (val l))[(lb (val l)).length-1]'G).toNat:Nat):Nat):Int)=((32*((lb (val l)).length-1:Nat):Nat):Int)+((bl ((lb (val l))[(lb (val l)).length-1]'G).toNat:Nat):Int):=G;rw[e];exact dB G G) (Z H (f (al (aA (aM H ?_)))))
  exact⟨_,H,H,by rw[c]⟩
theorem O8 {a L:List UInt32} {s V:Nat} {o:UInt32} (hi:i<a.length) (c:L.length=a.length) (b:val (L.take i)+4294967296^i*(val (a.drop i)/2^s)=V)
 (st:o.toNat+4294967296*(val (a.drop (i+1))/2^s)=(a[i].toNat+4294967296*val (a.drop (i+1)))/2^s):val ((L.set i o).take (i+1))+4294967296^(i+1)*(val (a.drop (i+1))/2^s)=V:=by
 rw[ua G,pm,gj,fu,←f6,st,←nQ hi,b]
theorem O9 {a:List UInt32} {x:UInt64} (hi:i<a.length) (b:(∃h:i+1<a.length,x=a[i].toUInt64|||a[i+1].toUInt64<<<UInt64.ofNat 32)∨(a.length≤i+1∧x=a[i].toUInt64)) {s:Nat} (hs:s<32):
 ((x>>>UInt64.ofNat s).toUInt32).toNat+4294967296*(val (a.drop (i+1))/2^s)=(a[i].toNat+4294967296*val (a.drop (i+1)))/2^s:=by
 refine(aaa hs ?_).resolve_right (by have:=ep a[i];omega)
 rcases b with⟨h,rfl⟩|⟨h,rfl⟩
 ·rw[MZ (eP _) (ep _),nQ h]
  have:=ep a[i+1]
  rw[BK,eN this]
 ·rw[eP,kT h];simp[val]
theorem RH (hv:aO l v w) (hl:l.length≤1099511627776) (hk:k≤1048576):
 Calls Tryz.prog 326 #[v,I (k:Int)] w (aJ λr w'=>ao w w'∧∃q,r=.tuple #[q,I 0]∧aO (lb (val l/2^k)) q w'):=by
 refine enter Tryz.func326 H H H ?_
 have av:=gw (en l)
 refine ah (ap (Z H (Z H (f (al (ah (ah (ap (J H (U H (aX G bO) (J H (V H (J H (V H (U H (aX G cY) (t H (f (al (be H (aH (al (ah (ap (J H (aC jf H H (jz hv) ?_)))))))))))))))))))))))))
 rintro ax _ ⟨rfl,F⟩
 refine Z H (f (al (ah (ah (ap (J H (U (r:=I ((k/32:Nat):Int)) H (by have e:((k/32:Nat):Int)=(k:Int)/32:=G;rw[e];exact tf G G G) (J H (aW H (cI aT F) (U H (eU) (f (al (bc H (λS=>?_) (λS=>?_))))))))))))))
 ·refine ah (ap (Z H (Z H (f (al (aA (aI (dt H ?_))))))))
  exact⟨_,H,ao.refl _,_,H,by
   have g:=en (lb (val l))
   rw[cH] at g
   have j:(4294967296:Nat)^(lb (val l)).length=2^(32*(lb (val l)).length):=by rw[rS]
   have K:2^(32*(lb (val l)).length)≤2^k:=lH G G
   rw[pp G]
   exact aO.nil _⟩
 ·refine aH (al (ah (ap (J H (J H (U (r:=I ((k/32:Nat):Int)) H (by have e:((k/32:Nat):Int)=(k:Int)/32:=G;rw[e];exact tf G G G) ?_))))))
  obtain⟨M,af,b⟩:=Ze aT F (lo:=k/32) G .i64
  refine jx H H H H H (af _) (Z H (f (al (ah ?_))))
  obtain⟨a,o⟩:∃a,a=(lb (val l)).drop (k/32):=⟨_,rfl⟩
  have ab:val a=val l/2^(32*(k/32)):=by
   have g:=nR (lb (val l)) (k/32) G
   have j:=en ((lb (val l)).take (k/32))
   rw[eS,iZ G] at j
   rw[cH] at g
   have K:(4294967296:Nat)^(k/32)=2^(32*(k/32)):=by rw[rS]
   rw[K] at g j
   rw[o]
   conv=>rhs;rw[g]
   rw[xN _ _ (lI G),pp j,gB]
  have au:a.length≤1099511627776:=by rw[o,gA];omega
  rw[←o] at b
  refine ap (J H (aW (r:=I (a.length:Int)) H (cI aT b) ?_))
  obtain⟨N,az,aa,O,ad,aw⟩:=tX aT (w:=w) w.heap.size (n:=a.length) G (bV _)
  refine sQ H aa (Z H (f (al (ah (ah (ap (J H (aW (r:=I (a.length:Int)) H (cI Tryz.underlying47 (b.aL O)) (J H (f (al (aR (fp (λ(i:Nat) (L:List UInt32)=>[(0,M),(1,I (k:Int)),(6,N),(30,M),(31,I (a.length:Int)),(32,I (i:Int))]) (λ(i:Nat) (L:List UInt32) w'=>ej w.heap.size L N w'∧ao w w'∧i≤a.length∧L.length=a.length∧val (L.take i)+4294967296^i*(val (a.drop i)/2^(k%32))=val a/2^(k%32)) (λ(i:Nat) (L:List UInt32)=>a.length-i) (0) (List.replicate a.length 0) (aP H) ⟨ad,O,aj,aj,by simp[val]⟩ ?_)))))))))))))
  rintro i L w9 ⟨u,c,hi,m,h⟩
  refine ah (ap (U H (bO) (f (al (ah (bc H (λT=>?_) (λT=>?_)))))))
  ·have d:i<a.length:=G
   refine aH (al (ah (aR (ah (ap (J H ?_))))))
   obtain⟨aq,ag,ak⟩:=ei aT (b.aL c) (i:=i) G .i64
   refine bF H (ag _) (Y H (D bN H ak) (Z H (Z H (f (al (ah (ap (J H (cJ H (fK bN cU) (Z H (f (al (ah (ah (ap (J H (U H cD (J H (aW (r:=I (a.length:Int)) H (cI aT (b.aL c)) (U H (bO) (f (al (bc H (λW=>?_) (λW=>?_))))))))))))))))))))))))
   ·refine ap (J H (J H (J H (U H cD ?_))))
    obtain⟨ar,ai,am⟩:=ei aT (b.aL c) (i:=(i+1:Nat)) G .i64
    refine bF H (ai _) (Y H (D bN H am) (cJ H (fK bN cU) (U H (tg 32 G) (U H (uU) (Z H (f (al (ap (J H (J H (J H (J H (U (r:=I ((k%32:Nat):Int)) H (by have e:((k%32:Nat):Int)=(k:Int)%32:=G;rw[e];exact xo G G) (U H (j6 ((k%32:Nat)) G) (cJ H (gL cU bN) ?_)))))))))))))))
    have st:=O9 (x:=(((((a[i])).toUInt64)|||(((((a[(i+1:Nat)])).toUInt64)<<<UInt64.ofNat 32))))) d (by first|exact .inl ⟨G,rfl⟩|exact .inr ⟨G,rfl⟩) (jV k (show 0<32 by omega))
    obtain⟨R,an,y,A,s,z,p,Q,ae⟩:=(u).b9 aT (i:=i) G (((((((a[i])).toUInt64)|||(((((a[(i+1:Nat)])).toUInt64)<<<UInt64.ofNat 32))))>>>UInt64.ofNat (k%32)).toUInt32)
    refine bF H (y _) (cZ H A ?_)
    have C:=ao.a2 (c) z p
    refine f (bE (al (ap (U H cD (J H (f (eI (i+1) (_) (aP H) ⟨s,C,d,by simpa using m,O8 d m h st⟩ (by show a.length-(i+1)<a.length-i;omega))))))))
   ·refine aH (al (ap (J H (J H (J H (J H (U (r:=I ((k%32:Nat):Int)) H (by have e:((k%32:Nat):Int)=(k:Int)%32:=G;rw[e];exact xo G G) ?_)))))))
    refine U H (j6 ((k%32:Nat)) G) (cJ H (gL cU bN) ?_)
    have st:=O9 (x:=(((a[i])).toUInt64)) d (by first|exact .inl ⟨G,rfl⟩|exact .inr ⟨G,rfl⟩) (jV k (show 0<32 by omega))
    obtain⟨R,an,y,A,s,z,p,Q,ae⟩:=(u).b9 aT (i:=i) G (((((a[i])).toUInt64)>>>UInt64.ofNat (k%32)).toUInt32)
    refine bF H (y _) (cZ H A ?_)
    have C:=ao.a2 (c) z p
    refine f (bE (al (ap (U H cD (J H (f (eI (i+1) (_) (aP H) ⟨s,C,d,by simpa using m,O8 d m h st⟩ (by show a.length-(i+1)<a.length-i;omega))))))))
  ·refine ce (aU (aU (cg (al (ah (ap ?_))))))
   have X:val L=val l/2^k:=by
    rw[fG G,kT G] at h
    simp only[val,Nat.zero_div,xR,lG] at h
    rw[h,ab,BM,←jF,rQ]
   refine J H (aC jf H H (jz u.bL) ?_)
   rintro ay _ ⟨rfl,P⟩
   refine Z H (Z H (f (al (aA (dt H ?_)))))
   exact⟨_,H,c,_,H,by rw[←X];exact P⟩
theorem LX {V U v1 v2 a u2 P c b r:Nat} (f:V=(v1*4294967296+v2)*P+c) (j:U=(a*4294967296+u2)*P+b) (k:b<P) (g:q*v1+r=a)
 (h:r*4294967296+u2<q*v2):U<q*V:=by
 have d:a*4294967296+u2+1≤q*(v1*4294967296+v2):=by
  rw[←g,f6,←fu,fk];omega
 have e:(a*4294967296+u2+1)*P≤q*(v1*4294967296+v2)*P:=fH _ d
 have i:q*(v1*4294967296+v2)*P≤q*V:=by
  rw[f,fu];exact nY _ (Jl _ _)
 rw[fk _ 1] at e
 omega
theorem V9 {V U v1 v2 d u2 P c e:Nat} (g:V=(v1*4294967296+v2)*P+c) (k:U=(d*4294967296+u2)*P+e) (l:c<P) (i:0<v1) (n:0<q) (o:q≤4294967296)
 (h:q*(v1*4294967296+v2)≤d*4294967296+u2):(q-1)*V≤U:=by
 obtain⟨m,rfl⟩:∃m,q=m+1:=⟨q-1,G⟩
 rw[pn]
 have f:(m+1)*(v1*4294967296+v2)*P≤(d*4294967296+u2)*P:=fH _ h
 have j:m*c≤(v1*4294967296+v2)*P:=by
  have a:m*c≤4294967296*P:=gi G G
  have b:4294967296*P≤(v1*4294967296+v2)*P:=fH _ G
  omega
 rw[g,f6,←fu]
 rw[fk m 1,nC,fk] at f
 omega
theorem yt {V U v1 v2 b u2 P a c r:Nat} (f:V=(v1*4294967296+v2)*P+a) (e:U=(b*4294967296+u2)*P+c) (g:a<P) (d:0<v1) (m:v2<4294967296) (k:q<4294967296) (l:q*v1+r=b)
 (h:4294967296≤r∨q*v2≤r*4294967296+u2):(q-1)*V≤U:=by
 rcases fm q with rfl|i
 ·simp
 ·refine V9 f e g d i G ?_
  rw[f6,←fu]
  have j:q*v2≤4294967295*4294967295:=gi G G
  omega
theorem LY {v1 a u1 r:Nat} (d:a≤v1) (e:u1<4294967296) (b:q*v1+r=a*4294967296+u1) (c:4294967296≤r):q<4294967296:=by
 rcases jn q 4294967296 with h|h
 ·exact h
 ·have:=fH v1 h
  omega
theorem Wa {V U v1 a P Q:Nat} (d:v1*P≤V) (f:U<(a+1)*P) (b:0<v1) (h:Q*V≤U):Q≤a/v1:=by
 rw[Nat.le_div_iff_mul_le b]
 have e:Q*v1*P≤Q*V:=by rw[fu];exact nY _ d
 have c:Q*v1*P<(a+1)*P:=G
 have:=BN c
 omega
theorem Pm {u lo b:Nat} (d:u<4294967296) (c:lo<4294967296) (a:b≤1) {x:UInt64} (e:x.toNat=(18446744073709551616-b+(18446744073709551616-lo+u)%18446744073709551616)%18446744073709551616):
 x.toNat%4294967296+lo+b=u+4294967296*(x.toNat/9223372036854775808)∧x.toNat/9223372036854775808≤1:=by
 omega
theorem aaj {L v:List UInt32} {M:List UInt32} {q c b x:UInt64} (hi:i<v.length) (t:v.length<L.length) (u:M.length=L.length) (C:q.toNat<4294967296) (w:c.toNat<4294967296) (m:b.toNat≤1)
 (f:M.drop i=L.drop i) (n:val (L.take i)+4294967296^i*(c.toNat+b.toNat)=val (M.take i)+q.toNat*val (v.take i))
 (r:x=(M[i]'G).toUInt64-((c+q*v[i].toUInt64).toUInt32).toUInt64-b):
 (M.set i x.toUInt32).drop (i+1)=L.drop (i+1)∧((c+q*v[i].toUInt64)>>>UInt64.ofNat 32).toNat<4294967296∧(x>>>UInt64.ofNat 63).toNat≤1∧
   val (L.take (i+1))+4294967296^(i+1)*(((c+q*v[i].toUInt64)>>>UInt64.ofNat 32).toNat+(x>>>UInt64.ofNat 63).toNat)=val ((M.set i x.toUInt32).take (i+1))+q.toNat*val (v.take (i+1)):=by
 have y:=ep v[i]
 have l:M[i]'G=L[i]'G:=by
  have a:=rO (xs:=M) (i:=i) (j:=0)
  have d:=rO (xs:=L) (i:=i) (j:=0)
  rw[f] at a
  rw[a,lG,fy G,fy G] at d
  exact cC d
 have p:=ep (M[i]'G)
 have A:q.toNat*v[i].toNat≤4294967295*4294967295:=gi G G
 have e:(c+q*v[i].toUInt64).toNat=c.toNat+q.toNat*v[i].toNat:=by
  rw[nJ,wV,eP];omega
 have h:((c+q*v[i].toUInt64)>>>UInt64.ofNat 32).toNat=(c.toNat+q.toNat*v[i].toNat)/4294967296:=by rw[rh _ G,e]
 have g:(x>>>UInt64.ofNat 63).toNat=x.toNat/9223372036854775808:=by rw[rh _ G]
 have s:x.toNat=(18446744073709551616-b.toNat+(18446744073709551616-(c.toNat+q.toNat*v[i].toNat)%4294967296+(M[i]'G).toNat)%18446744073709551616)%18446744073709551616:=by
  rw[r,pO,pO,eP,eP,iV,e]
 obtain⟨D,o⟩:=Pm p (jV _ G) m s
 refine⟨?_,by rw[h];omega,by rw[g];exact o,?_⟩
 ·rw[zq G]
  have:=aB (List.drop 1) f
  rwa [tq,tq] at this
 ·rw[ua G,kO G,kO hi,h,g,iV,←l,gj,f6 q.toNat,xQ q.toNat]
  have z:=rQ (c.toNat+q.toNat*v[i].toNat) 4294967296
  have key:(M[i]'G).toNat+4294967296*((c.toNat+q.toNat*v[i].toNat)/4294967296+x.toNat/9223372036854775808)=x.toNat%4294967296+q.toNat*v[i].toNat+(c.toNat+b.toNat):=G
  have k:=aB (4294967296^i* ·) key
  simp only[f6] at k n⊢
  simp only[fu] at k⊢
  omega
theorem SY {M v L:List UInt32} {c:UInt64} (hi:i<v.length) (l:v.length<L.length) (m:M.length=L.length) (n:c.toNat≤1)
 (e:M.drop i=L.drop i) (k:val (M.take i)+4294967296^i*c.toNat=val (L.take i)+val (v.take i)):
 (M.set i (c+((M[i]'G).toUInt64+v[i].toUInt64)).toUInt32).drop (i+1)=L.drop (i+1)∧((c+((M[i]'G).toUInt64+v[i].toUInt64))>>>UInt64.ofNat 32).toNat≤1∧
   val ((M.set i (c+((M[i]'G).toUInt64+v[i].toUInt64)).toUInt32).take (i+1))+4294967296^(i+1)*((c+((M[i]'G).toUInt64+v[i].toUInt64))>>>UInt64.ofNat 32).toNat=val (L.take (i+1))+val (v.take (i+1)):=by
 have o:=ep v[i]
 have h:M[i]'G=L[i]'G:=by
  have a:=rO (xs:=M) (i:=i) (j:=0)
  have b:=rO (xs:=L) (i:=i) (j:=0)
  rw[e] at a
  rw[a,lG,fy G,fy G] at b
  exact cC b
 have p:=ep (M[i]'G)
 have d:(c+((M[i]'G).toUInt64+v[i].toUInt64)).toNat=c.toNat+((M[i]'G).toNat+v[i].toNat):=by
  rw[nJ,nJ,eP,eP];omega
 have f:((c+((M[i]'G).toUInt64+v[i].toUInt64))>>>UInt64.ofNat 32).toNat=(c.toNat+((M[i]'G).toNat+v[i].toNat))/4294967296:=by rw[rh _ G,d]
 refine⟨?_,by rw[f];omega,?_⟩
 ·rw[zq G]
  have:=aB (List.drop 1) e
  rwa [tq,tq] at this
 ·rw[ua G,kO G,kO hi,f,iV,d,←h,gj]
  have key:(c.toNat+((M[i]'G).toNat+v[i].toNat))%4294967296+4294967296*((c.toNat+((M[i]'G).toNat+v[i].toNat))/4294967296)=(M[i]'G).toNat+v[i].toNat+c.toNat:=G
  have g:=aB (4294967296^i* ·) key
  simp only[f6] at g k⊢
  simp only[fu] at g⊢
  omega
theorem Xi (d:4294967296^j≤n) (e:n<4294967296^(j+1)):(lb n).length=j+1:=by
 have a:=gw e
 have b:=en (lb n)
 rw[cH] at b
 have c:=(EV (a:=4294967296) G).1 (nA d b)
 omega
theorem uD {x y:Nat}:mY x y<0↔x<y:=by
 unfold mY
 split
 ·simp;assumption
 ·split
  ·simp;omega
  ·simp;omega
theorem XI (h:(lb n).length=k+2):
 32-bl ((lb n)[k+1]'G).toNat<32∧(lb (n*2^(32-bl ((lb n)[k+1]'G).toNat))).length=k+2:=by
 have o:0<n:=by
  rcases fm n with d|d
  ·subst d;simp[nh] at h
  ·exact d
 have g:=GN (n:=n) (i:=k+1) G
 have f:=CP o
 rw[h] at f
 have m:=(yc g).2
 have r:=vQ g
 have q:=nD (n:=((lb n)[k+1]'G).toNat) (k:=32) (ep _)
 have p:n<(((lb n)[k+1]'G).toNat+1)*4294967296^(k+1):=by
  have e:=kO (l:=lb n) (i:=k+1) G
  rw[fG G,cH] at e
  have:=en ((lb n).take (k+1))
  rw[eS,iZ G] at this
  rw[fw,f6]
  omega
 generalize ((lb n)[k+1]'G).toNat=t at*
 refine⟨G,Xi (j:=k+1) ?_ ?_⟩
 ·exact cf f (qD _ (lI G))
 ·have hs:0<2^(32-bl t):=lI G
  have a:n*2^(32-bl t)<(t+1)*4294967296^(k+1)*2^(32-bl t):=BO p hs
  have b:(t+1)*4294967296^(k+1)*2^(32-bl t)≤2^bl t*4294967296^(k+1)*2^(32-bl t):=fH _ (fH _ m)
  have c:2^bl t*4294967296^(k+1)*2^(32-bl t)=4294967296^(k+1+1):=by
   rw[zH,←jF,show bl t+(32-bl t)=32 by omega,gj 4294967296 (k+1),fw]
  omega
theorem aaq {x:UInt64} (h:x.toNat=0):x=0:=UInt64.toNat_inj.1 h
theorem HN {M:List UInt32} (h:M.length=n+1) (x:UInt32):val (M.set n x)=val (M.take n)+4294967296^n*x.toNat:=by
 have:=ua (l:=M) (i:=n) G x
 rwa [fG dT] at this
theorem PI {M:List UInt32} (h:M.length=n+1):val M=val (M.take n)+4294967296^n*(M[n]'G).toNat:=by
 rw[←kO G,fG G]
theorem Gg {M L:List UInt32} (h:M.drop i=L.drop i) (c:i<M.length) (d:i<L.length):M[i]=L[i]:=by
 have a:=rO (xs:=M) (i:=i) (j:=0)
 have b:=rO (xs:=L) (i:=i) (j:=0)
 rw[h] at a
 rw[a,lG,fy c,fy d] at b
 exact cC b
theorem Zx {L v M:List UInt32} {q c b x:UInt64} (e:L.length=v.length+1) (o:M.length=L.length) (h:c.toNat<4294967296) (g:b.toNat≤1)
 (f:M.drop v.length=L.drop v.length) (a:val (L.take v.length)+4294967296^v.length*(c.toNat+b.toNat)=val (M.take v.length)+q.toNat*val (v.take v.length))
 (m:x=(M[v.length]'G).toUInt64-c-b):
 val L+4294967296^(v.length+1)*(x.toNat/9223372036854775808)=val (M.set v.length x.toUInt32)+q.toNat*val v∧x.toNat/9223372036854775808≤1:=by
 have k:=ep (M[v.length]'G)
 have n:x.toNat=(18446744073709551616-b.toNat+(18446744073709551616-c.toNat+(M[v.length]'G).toNat)%18446744073709551616)%18446744073709551616:=by
  rw[m,pO,pO,eP]
 obtain⟨i,j⟩:=Pm k h g n
 refine⟨?_,j⟩
 rw[HN G,iV,PI e,←Gg f G G,gj]
 rw[fL (l:=v)] at a
 have d:=aB (4294967296^v.length* ·) i
 simp only[f6] at d a⊢
 simp only[fu] at d⊢
 omega
theorem Zw {L v N M:List UInt32} {c:UInt64} (i:L.length=v.length+1) (k:N.length=L.length) (u:M.length=L.length) (w:c.toNat≤1) (j:M.drop v.length=N.drop v.length)
 (o:val (M.take v.length)+4294967296^v.length*c.toNat=val (N.take v.length)+val (v.take v.length)) (t:val L+4294967296^(v.length+1)=val N+q*val v) (d:(q-1)*val v≤val L):
 0<q∧val L=(q-1)*val v+val (M.set v.length ((M[v.length]'G)+c.toUInt32))∧val (M.set v.length ((M[v.length]'G)+c.toUInt32))<val v:=by
 have y:=ep (M[v.length]'G)
 have m:=en N
 rw[k,i] at m
 have x:0<q:=by
  rcases fm q with h|h
  ·subst h;omega
  ·exact h
 obtain⟨p,rfl⟩:∃p,q=p+1:=⟨q-1,G⟩
 rw[pn] at d⊢
 rw[fk,nC] at t
 have r:((M[v.length]'G)+c.toUInt32).toNat=((M[v.length]'G).toNat+c.toNat)%4294967296:=by
  rw[UInt32.toNat_add,iV];omega
 have e:=HN (show M.length=v.length+1 by omega) ((M[v.length]'G)+c.toUInt32)
 have g:=en (M.set v.length ((M[v.length]'G)+c.toUInt32))
 have f:(M.set v.length ((M[v.length]'G)+c.toUInt32)).length=v.length+1:=dT
 rw[f] at g
 have a:=PI (show N.length=v.length+1 by omega)
 rw[←Gg j G G] at a
 rw[fL (l:=v)] at o
 have n:=rQ ((M[v.length]'G).toNat+c.toNat) 4294967296
 have hs:((M[v.length]'G).toNat+c.toNat)/4294967296≤1:=G
 have key:val (M.set v.length ((M[v.length]'G)+c.toUInt32))+4294967296^(v.length+1)*(((M[v.length]'G).toNat+c.toNat)/4294967296)=val N+val v:=by
  rw[e,r,a,gj]
  have b:=aB (4294967296^v.length* ·) n
  simp only[f6] at b⊢
  simp only[fu] at b⊢
  omega
 generalize val (M.set v.length ((M[v.length]'G)+c.toUInt32))=F at*
 generalize ((M[v.length]'G).toNat+c.toNat)/4294967296=s at*
 rcases(show s=0∨s=1 by omega) with rfl|rfl
 ·omega
 ·refine⟨G,G,G⟩
theorem V5 {A Q V X lo part a P:Nat} (e:X=lo+P*part) (h:lo<P) (d:A=Q*(P*4294967296)*V+X) (f:part=q*V+a) (g:a<V):
 A=(q+4294967296*Q)*P*V+(lo+P*a)∧lo+P*a<P*V:=by
 constructor
 ·rw[d,e,f,f6 P,fk q,fk]
  have b:4294967296*Q*P*V=Q*(P*4294967296)*V:=by
   rw[fw 4294967296 Q,fu Q,fw 4294967296 P]
  have c:q*P*V=P*(q*V):=by rw[fw q P,fu]
  rw[b,c];omega
 ·have:P*(a+1)≤P*V:=nY _ g
  rw[f6] at this
  omega
theorem vh (l:List UInt32) (i:Nat):val (l.take (i+1))=val (l.take i)+4294967296^i*(l.getD i 0).toNat:=by
 rcases jn i l.length with h|h
 ·rw[kO h];simp[List.getD,fy h]
 ·rw[fG h,fG G];simp[List.getD,zt h]
theorem vg (l:List UInt32) (h:l.length≤i):val (l.take i)=val l:=by rw[fG h]
def pad (l:List UInt32) (n:Nat):List UInt32:=l++List.replicate (n-l.length) 0
theorem yO (h:l.length≤n):(pad l n).length=n:=by simp[pad];omega
theorem Dk (l:List UInt32) (n:Nat):val (pad l n)=val l:=by simp[pad,rE,D5]
theorem Dj (h:i<(pad l n).length):(pad l n)[i]=l.getD i 0:=by
 unfold pad at h⊢
 rcases jn i l.length with a|a
 ·rw[IV a];simp[List.getD,fy a]
 ·rw[IW a];simp[List.getD,zt a]
theorem NK (c:l.length≤n) (hm:m.length≤n) (a:j<n) (b:(pad l n).drop (j+1)=(pad m n).drop (j+1)) (h:(l.getD j 0).toNat<(m.getD j 0).toNat):val l<val m:=by
 rw[←Dk l n,←Dk m n]
 exact PG (by rw[yO c];exact a) (by rw[yO hm];exact a) b (by rw[Dj,Dj];exact h)
theorem Yo (e:l.length≤n) (hm:m.length≤n) (a:j<n) (d:(pad l n).drop (j+1)=(pad m n).drop (j+1)) (h:(l.getD j 0).toNat=(m.getD j 0).toNat):(pad l n).drop j=(pad m n).drop j:=by
 have b:=lE (l:=pad l n) (i:=j) (by rw[yO e];exact a)
 have c:=lE (l:=pad m n) (i:=j) (by rw[yO hm];exact a)
 rw[b,c,d,Dj,Dj,ve h]
theorem Yn (h:pad l n=pad m n):val l=val m:=by rw[←Dk l n,←Dk m n,h]
theorem Ol {a b O:List UInt32} {c:UInt64} (g:O.length=i) (l:c.toNat≤1) (h:val O+4294967296^i*c.toNat=val (a.take i)+val (b.take i)):
 val (O++[(c+((a.getD i 0).toUInt64+(b.getD i 0).toUInt64)).toUInt32])+4294967296^(i+1)*((c+((a.getD i 0).toUInt64+(b.getD i 0).toUInt64))>>>UInt64.ofNat 32).toNat=val (a.take (i+1))+val (b.take (i+1))∧
  ((c+((a.getD i 0).toUInt64+(b.getD i 0).toUInt64))>>>UInt64.ofNat 32).toNat≤1:=by
 have j:=ep (a.getD i 0)
 have k:=ep (b.getD i 0)
 have d:(c+((a.getD i 0).toUInt64+(b.getD i 0).toUInt64)).toNat=c.toNat+((a.getD i 0).toNat+(b.getD i 0).toNat):=by rw[nJ,nJ,eP,eP];omega
 have e:((c+((a.getD i 0).toUInt64+(b.getD i 0).toUInt64))>>>UInt64.ofNat 32).toNat=(c.toNat+((a.getD i 0).toNat+(b.getD i 0).toNat))/4294967296:=by rw[rh _ G,d]
 refine⟨?_,by rw[e];omega⟩
 rw[rE,xy,g,iV,e,d,vh,vh,gj]
 have key:=rQ (c.toNat+((a.getD i 0).toNat+(b.getD i 0).toNat)) 4294967296
 have f:=aB (4294967296^i* ·) key
 simp only[f6] at f h⊢
 simp only[fu] at f⊢
 omega
theorem Zk {O:List UInt32} {c:UInt64} (a:O.length=i) (b:c.toNat≤1):val (O++[c.toUInt32])=val O+4294967296^i*c.toNat:=by
 rw[rE,xy,a,iV,eN G]
theorem OQ {a b O:List UInt32} {d:UInt64} (j:O.length=i) (o:d.toNat≤1) (k:val (a.take i)+4294967296^i*d.toNat=val O+val (b.take i)) {x y:UInt64}
 (h:(x=(a.getD i 0).toUInt64+4294967296∧(a.getD i 0).toNat<(b.getD i 0).toNat+d.toNat∧y=1)∨(x=(a.getD i 0).toUInt64∧(b.getD i 0).toNat+d.toNat≤(a.getD i 0).toNat∧y=0)):
 val (a.take (i+1))+4294967296^(i+1)*y.toNat=val (O++[(x-((b.getD i 0).toUInt64+d)).toUInt32])+val (b.take (i+1))∧y.toNat≤1:=by
 have m:=ep (a.getD i 0)
 have n:=ep (b.getD i 0)
 have c:((b.getD i 0).toUInt64+d).toNat=(b.getD i 0).toNat+d.toNat:=by rw[nJ,eP];omega
 have g:(1:UInt64).toNat=1:=rfl
 have f:(0:UInt64).toNat=0:=rfl
 have key:(a.getD i 0).toNat+4294967296*y.toNat=(x-((b.getD i 0).toUInt64+d)).toUInt32.toNat+((b.getD i 0).toNat+d.toNat)∧y.toNat≤1:=by
  rcases h with⟨rfl,h,rfl⟩|⟨rfl,h,rfl⟩
  ·have l:((a.getD i 0).toUInt64+4294967296).toNat=(a.getD i 0).toNat+4294967296:=by
    rw[nJ,eP]
    show((a.getD i 0).toNat+4294967296)%18446744073709551616=_
    omega
   rw[iV,pO,c,l,g]
   omega
  ·rw[iV,pO,c,eP,f]
   omega
 refine⟨?_,key.2⟩
 rw[rE,xy,j,vh,vh,gj]
 have e:=aB (4294967296^i* ·) key.1
 simp only[f6] at e k⊢
 simp only[fu] at e⊢
 omega
theorem ZG {a O:List UInt32} {s:Nat} {c:UInt64} (hs:s<32) (hi:i<a.length) (h:O.length=q+i) (k:c.toNat<2^s) (l:val O+4294967296^(q+i)*c.toNat=val (a.take i)*(4294967296^q*2^s)):
 val (O++[(c|||a[i].toUInt64<<<UInt64.ofNat s).toUInt32])+4294967296^(q+(i+1))*((c|||a[i].toUInt64<<<UInt64.ofNat s)>>>UInt64.ofNat 32).toNat=val (a.take (i+1))*(4294967296^q*2^s)∧
  ((c|||a[i].toUInt64<<<UInt64.ofNat s)>>>UInt64.ofNat 32).toNat<2^s:=by
 have j:=ep a[i]
 have m:2^s≤2^31:=lH G G
 have n:(a[i].toUInt64<<<UInt64.ofNat s).toNat=2^s*a[i].toNat:=by
  rw[AQ _ G,eP,eN,fw]
  have:a[i].toNat*2^s≤4294967295*2^31:=gi G m
  omega
 have b:(c|||a[i].toUInt64<<<UInt64.ofNat s).toNat=c.toNat+2^s*a[i].toNat:=by rw[C6,n,yK _ _ _ k]
 have d:((c|||a[i].toUInt64<<<UInt64.ofNat s)>>>UInt64.ofNat 32).toNat=(c.toNat+2^s*a[i].toNat)/4294967296:=by rw[rh _ G,b]
 refine⟨?_,?_⟩
 ·rw[rE,xy,h,iV,d,b,kO hi,fk,←l,←pm q i 1,gj,jF]
  have key:=rQ (c.toNat+2^s*a[i].toNat) 4294967296
  have f:=aB (4294967296^q*4294967296^i* ·) key
  have e:4294967296^i*a[i].toNat*(4294967296^q*2^s)=4294967296^q*4294967296^i*(2^s*a[i].toNat):=by
   simp only[fw,xQ,fu]
  rw[e]
  simp only[f6] at f⊢
  simp only[fu] at f⊢
  omega
 ·rw[d,xO G]
  have g:2^s*(a[i].toNat+1)≤2^s*4294967296:=nY _ j
  rw[f6] at g
  omega
theorem Th {a:List UInt32} (hi:i/32<a.length):((a[i/32]>>>UInt32.ofNat (i%32))&&&1).toNat=val a/2^i%2:=by
 have hs:i%32<32:=jV _ G
 have d:((a[i/32]>>>UInt32.ofNat (i%32))&&&1).toNat=a[i/32].toNat/2^(i%32)%2:=by
  rw[UInt32.toNat_and,AR _ hs]
  show _&&&1=_
  rw[Nat.and_one_is_mod]
 have c:=nR a (i/32) G
 have b:=en (a.take (i/32))
 rw[eS,iZ G] at b
 have e:(4294967296:Nat)^(i/32)=2^(32*(i/32)):=by rw[rS]
 rw[e] at c b
 have f:val a/2^(32*(i/32))=val (a.drop (i/32)):=by
  rw[c,xN _ _ (lI G),pp b,gB]
 have g:val a/2^i=val (a.drop (i/32))/2^(i%32):=by
  rw[←f,BM,←jF,rQ]
 rw[d,g,nQ hi]
 have j:2^(i%32)*2^(32-i%32)=4294967296:=by rw[←jF,show i%32+(32-i%32)=32 by omega]
 obtain⟨k,h⟩:∃k,32-i%32=k+1:=⟨31-i%32,G⟩
 rw[←j,fu,xN _ _ (lI G),h,gj,fw (2^k) 2,fu,BK]
theorem ZY {a:List UInt32} {t:Nat} (hi:i/32<a.length) (p:val a=2^(i+1)*t):val (a.set (i/32) (a[i/32]|||(1:UInt32)<<<UInt32.ofNat (i%32)))=val a+2^i:=by
 have hs:i%32<32:=jV _ G
 have c:=nR a (i/32) G
 have b:=en (a.take (i/32))
 rw[eS,iZ G] at b
 have f:(4294967296:Nat)^(i/32)=2^(32*(i/32)):=by rw[rS]
 have j:val (a.drop (i/32))=2^(i%32+1)*t:=by
  have e:val a/2^(32*(i/32))=val (a.drop (i/32)):=by
   rw[f] at c b
   rw[c,xN _ _ (lI G),pp b,gB]
  rw[←e,p,show i+1=32*(i/32)+(i%32+1) by omega,jF,fu,Nat.mul_div_cancel_left _ (lI G)]
 have k:a[i/32].toNat=2^(i%32+1)*(t%2^(31-i%32)):=by
  have e:=nQ hi
  rw[j] at e
  have h:a[i/32].toNat=2^(i%32+1)*t%4294967296:=by
   rw[e,BK,eN (ep _)]
  have o:2^(i%32+1)*2^(31-i%32)=4294967296:=by rw[←jF,show i%32+1+(31-i%32)=32 by omega]
  rw[h,←o,Nat.mul_mod_mul_left]
 have l:((1:UInt32)<<<UInt32.ofNat (i%32)).toNat=2^(i%32):=by
  rw[XF _ hs]
  show 1*2^(i%32)%4294967296=_
  have:2^(i%32)≤2^31:=lH G G
  rw[nC,eN G]
 have m:(a[i/32]|||(1:UInt32)<<<UInt32.ofNat (i%32)).toNat=a[i/32].toNat+2^(i%32):=by
  rw[Np,l,k,xT,yK _ _ _ (Nat.pow_lt_pow_right G G),rP]
 have n:=ua hi (a[i/32]|||(1:UInt32)<<<UInt32.ofNat (i%32))
 have g:=nR (a.set (i/32) (a[i/32]|||(1:UInt32)<<<UInt32.ofNat (i%32))) (i/32+1) dT
 rw[n,zq G,m] at g
 have d:=nR a (i/32+1) G
 rw[kO hi] at d
 rw[g,d,f6]
 have e:4294967296^(i/32)*2^(i%32)=2^i:=by rw[f,←jF,rQ]
 rw[e];omega
theorem Zv {V:Nat} (a:0<V):
 N/2^i=2*(N/2^(i+1))+N/2^i%2∧(V≤2*(N/2^(i+1)%V)+N/2^i%2→N/2^i%V=2*(N/2^(i+1)%V)+N/2^i%2-V∧N/2^i/V=2*(N/2^(i+1)/V)+1)∧
  (2*(N/2^(i+1)%V)+N/2^i%2<V→N/2^i%V=2*(N/2^(i+1)%V)+N/2^i%2∧N/2^i/V=2*(N/2^(i+1)/V)):=by
 have e:N/2^(i+1)=N/2^i/2:=by rw[gj,BM]
 rw[e]
 generalize N/2^i=M
 have c:M=2*(M/2)+M%2:=G
 have d:=rQ (M/2) V
 have f:=jV (M/2) a
 refine⟨c,λh=>?_,λh=>?_⟩
 ·have key:M=V*(2*(M/2/V)+1)+(2*(M/2%V)+M%2-V):=by
   rw[f6,xQ];omega
  have b:2*(M/2%V)+M%2-V<V:=G
  constructor
  ·conv=>lhs;rw[key]
   rw[EU,eN b]
  ·conv=>lhs;rw[key]
   rw[ET a,pp b,lG]
 ·have key:M=V*(2*(M/2/V))+(2*(M/2%V)+M%2):=by
   rw[xQ];omega
  constructor
  ·conv=>lhs;rw[key]
   rw[EU,eN h]
  ·conv=>lhs;rw[key]
   rw[ET a,pp h,lG]
theorem Ki (h:0<n):bl n=bl (n/2)+1:=by
 rcases(show n=1∨2≤n by omega) with rfl|a
 ·rfl
 ·have:=zY (n:=n) (s:=1) G
  rw[Nat.pow_one] at this
  omega
theorem qP:aY Tryz.prog 222:=⟨_,Tryz.func222,am,rfl⟩
theorem Cm:aY Tryz.prog 162:=⟨_,Tryz.func162,am,rfl⟩
theorem KY:aY Tryz.prog 296:=⟨_,Tryz.func296,am,rfl⟩
theorem sc:aY Tryz.prog 221:=⟨_,Tryz.func221,am,rfl⟩
theorem KV:aY Tryz.prog 295:=⟨_,Tryz.func295,am,rfl⟩
theorem KX:aY Tryz.prog 126:=⟨_,Tryz.func126,am,rfl⟩
theorem UT:aY Tryz.prog 223:=⟨_,Tryz.func223,am,rfl⟩
theorem UZ:aY Tryz.prog 224:=⟨_,Tryz.func224,am,rfl⟩
theorem UY:aY Tryz.prog 298:=⟨_,Tryz.func298,am,rfl⟩
theorem UU:aY Tryz.prog 297:=⟨_,Tryz.func297,am,rfl⟩
theorem Jy (h:aO l v w) (P:l.length≤8796093022208):
 Calls Tryz.prog 222 #[v] w (aJ λr w'=>ao w w'∧ej w.heap.size (lb (val l)) r w'):=by
 refine enter Tryz.func222 H H H (ah (ap (Z H (f (al (ah (ap (J H (aW H (cI iN h) (Z H (f (al (ah (aR (eg (α:=Nat) (λn=>[(0,v),(3,I (n:Int))]) (λn w'=>w=w'∧n≤l.length∧val (l.take n)=val l) (λn=>n) (l.length) (aP H) ⟨H,bV _,by rw[fL]⟩ ?_)))))))))))))))
 rintro n _ ⟨rfl,b,c⟩
 refine ah (ah (ap (J H (U H (cY) (J H (cK (λx=>?_) (λx=>?_)))))))
 ·refine V H (J H (V H (J H (V H (U (r:=I ((n-1:Nat):Int)) H (by have e:((n-1:Nat):Int)=(n:Int)-1:=G;rw[e];exact dM G G) ?_)))))
  refine V H ?_
  obtain⟨O,z,A⟩:=ei iN h (i:=(n-1:Nat)) G .i64
  refine bF H (z _) (V H (Y H (D bN H A) (V H (U (v:=bz 0) H (Dq) (bA H (f (al (bc H (λg=>?_) (λg=>?_)))))))))
  ·refine aH (al (aR (ap (J H (U (r:=I ((n-1:Nat):Int)) H (by have e:((n-1:Nat):Int)=(n:Int)-1:=G;rw[e];exact dM G G) ?_)))))
   refine Z H (f (bE (ew (n-1) (aP H) ⟨H,G,by rw[H1 G b g];exact c⟩ G)))
  ·refine ce (aU (aU (cg (al (ah (ap ?_))))))
   obtain⟨C,M,o,a,d,y⟩:=mK aT (w:=w) w.heap.size [] aj (bV _)
   refine dJ (vs:=[]) H o (J H (J H ?_))
   obtain⟨F,s,j⟩:=Hq iN (h.aL a) (hi:=n) b .i64
   refine jx H H H H H (s _) ?_
   obtain⟨K,N,p,q,k⟩:=NX aT iN (ty:=47) d j dT (a).size
   have u:=ao.a6 (a) k d.ge
   refine dW H p (Z H (f (al (aA (aM H ?_)))))
   exact⟨_,H,u,by
    have e:lb (val l)=l.take n:=by
     first
     |rw[←c,Bj G b g]
     |(have m:n=0:=by omega
       subst m
       rw[←c];rfl)
    rw[e];simpa using q⟩
 ·refine L H (L H (L H (L H (L H (L H (t H (f (al (be H (ce (aU (aU ?_))))))))))))
  refine cg (al (ah (ap ?_)))
  obtain⟨C,M,o,a,d,y⟩:=mK aT (w:=w) w.heap.size [] aj (bV _)
  refine dJ (vs:=[]) H o (J H (J H ?_))
  obtain⟨F,s,j⟩:=Hq iN (h.aL a) (hi:=n) b .i64
  refine jx H H H H H (s _) ?_
  obtain⟨K,N,p,q,k⟩:=NX aT iN (ty:=47) d j dT (a).size
  have u:=ao.a6 (a) k d.ge
  refine dW H p (Z H (f (al (aA (aM H ?_)))))
  exact⟨_,H,u,by
   have e:lb (val l)=l.take n:=by
    first
    |rw[←c,Bj G b g]
    |(have m:n=0:=by omega
      subst m
      rw[←c];rfl)
   rw[e];simpa using q⟩
theorem rX (e:aO l v w) (d:l.length≤8796093022208):
 Calls Tryz.prog 222 #[v] w (aJ λr w'=>ao w w'∧aO (lb (val l)) r w'):=
 (Jy e d).mono λ_ _ ⟨r,c,a,b⟩=>⟨r,c,a,b.bL⟩
theorem BT {x:UInt64}:
 Calls Tryz.prog 162 #[bk x] w (aJ λr w'=>ao w w'∧aO (lb x.toNat) r w'):=by
 refine enter Tryz.func162 H H H (ah (ap (Z H (f (al (ah (ap (J H (cJ H (gL cU bN) (J H (U H (j6 32 G) (cJ H (gL cU bN) ?_))))))))))))
 obtain⟨k,l,d,h,g,j⟩:=mK iN (w:=w) w.heap.size [x.toUInt32,(x>>>UInt64.ofNat 32).toUInt32] aj (bV _)
 refine j3 (vs:=[(0,bz (x.toUInt32)),(1,bz ((x>>>UInt64.ofNat 32).toUInt32))]) H H d (aC qP H H (rX g.bL aj) ?_)
 rintro v9 m ⟨i,a⟩
 refine Z H (f (al (aA (aM H ?_))))
 exact⟨_,H,(h.ai i),by
  have e:val [x.toUInt32,(x>>>UInt64.ofNat 32).toUInt32]=x.toNat:=by
   have b:=iV x
   have c:((x>>>UInt64.ofNat 32).toUInt32).toNat=x.toNat/4294967296:=by
    have:=Bn x
    rw[iV,Px]
    omega
   simp only[val,b,c];omega
  rw[e] at a;exact a⟩
theorem rW (a:aO l v w):
 Calls Tryz.prog 221 #[v,I (i:Int)] w (aJ λr w'=>w=w'∧r=bz (l.getD i 0)):=by
 refine enter Tryz.func221 H H H (ah (ap (Z H (f (al (ah (ah (ap (J H (J H (aW H (cI aT a) (U H (bO) (f (al (bc H (λb=>?_) (λb=>?_))))))))))))))))
 ·refine ah (ap (J H (J H ?_)))
  obtain⟨e,c,d⟩:=ei aT a (i:=i) G .i64
  refine bF H (c _) (Y H (D bN H d) (Z H (f (al (aA (aI (aM H ?_)))))))
  exact⟨_,H,H,by simp[List.getD,fy (show i<l.length by omega)]⟩
 ·refine aH (al (ah (ap (Z H (f (al (aA (aM H ?_))))))))
  exact⟨_,H,H,by simp[List.getD,zt (show l.length≤i by omega)];rfl⟩
theorem Ju (i:aO l v w) (h:aO m u w):
 Calls Tryz.prog 295 #[v,u] w (aJ λr w'=>w=w'∧r=I (mY (val l) (val m))):=by
 refine enter Tryz.func295 H H H ?_
 have x:=i.len
 have y:=h.len
 obtain⟨n,s⟩:∃n,n=max l.length m.length:=⟨_,rfl⟩
 have d:l.length≤n:=G
 have g:m.length≤n:=G
 refine ah (ap (Z H (f (al (ah (ah (ap (J H (aW H (cI aT i) (J H (aW H (cI aT h) (XY (r:=I ((n:Nat):Int)) (vs:=[I (l.length:Int),I (m.length:Int)]) H H (by rw[s];exact Y0) (U H (dM G G) (Z H (f (al (aR (eg (α:=Nat) (λk=>[(0,v),(1,u),(5,I ((k:Int)-1))]) (λk w'=>w=w'∧k≤n∧(pad l n).drop k=(pad m n).drop k) (λk=>k) (n) (aP H) ⟨H,bV _,by rw[kT (by rw[yO d];exact bV _),kT (by rw[yO g];exact bV _)]⟩ ?_))))))))))))))))))
 rintro k _ ⟨rfl,t,c⟩
 refine ah (ah (ap (J H (U H (eU) (f (al (bc H (λq=>?_) (λq=>?_))))))))
 ·obtain⟨j,rfl⟩:∃j,k=j+1:=⟨k-1,G⟩
  have e:((j+1:Nat):Int)-1=(j:Int):=G
  rw[e]
  refine aH (al (ah (aR (ah (ah (ap (J H (J H (aC sc H H (rW i) ?_)))))))))
  rintro z _ ⟨rfl,rfl⟩
  refine J H (J H (aC sc H H (rW h) ?_))
  rintro A _ ⟨rfl,rfl⟩
  refine U H (Ob) (f (al (bc H (λo=>?_) (λo=>?_))))
  ·refine ah (ap (Z H (f (al (aA (aI (bD (aI (aI (bD (aI (aM H ?_))))))))))))
   exact⟨_,H,H,aB I (Gb (NK d g G c (uJ.1 o))).symm⟩
  ·refine aH (al (ah (ap (J H (J H (aC sc H H (rW i) ?_))))))
   rintro C _ ⟨rfl,rfl⟩
   refine J H (J H (aC sc H H (rW h) ?_))
   rintro D _ ⟨rfl,rfl⟩
   refine U H (N5) (f (al (bc H (λp=>?_) (λp=>?_))))
   ·refine ah (ap (Z H (f (al (aA (bD (aI (aI (bD (aI (aM H ?_)))))))))))
    exact⟨_,H,H,aB I (Ga (NK g d G c.symm (uJ.1 p))).symm⟩
   ·refine aH (bE (al (ap (J H (U H (dM G G) (Z H (f ?_)))))))
    refine ew j (aP H) ⟨H,G,Yo d g G c (by
     have a:=mt uJ.2 o
     have b:=mt (uJ (a:=m.getD j 0) (b:=l.getD j 0)).2 p
     omega)⟩ G
 ·refine ce (aU (aU (cg (al (ah (ap (Z H (f (al (aA (aM H ?_)))))))))))
  exact⟨_,H,H,by
   obtain rfl:k=0:=by omega
   rw[tt,tt] at c
   rw[Yn c,Lj];rfl⟩
theorem Jz (b:aO l v w) (j:aO m u w):
 Calls Tryz.prog 126 #[v,u] w (aJ λr w'=>ao w w'∧r=B (decide (l=m))):=by
 refine enter Tryz.func126 H H H ?_
 have F:=b.len
 refine ah (ap (Z H (f (al (ah (ah (ap (J H (aW H (cI aT b) (J H (aW H (cI aT j) (U H (dZ) (f (al (bc H (λg=>?_) (λg=>?_))))))))))))))))
 ·refine ah (ap (Z H (f (al (aA (aI (aM H ?_)))))))
  exact⟨_,H,ao.refl _,aB B (bi λh=>by subst h;exact g H).symm⟩
 ·have C:l.length=m.length:=G
  refine aH (al (ah (ah (ap (Z H (f (al (aR (eg (α:=Nat) (λi=>[(0,v),(1,u),(5,I (i:Int))]) (λi w'=>ao w w'∧i≤l.length∧l.take i=m.take i) (λi=>l.length-i) (0) (aP H) ⟨ao.refl _,G,H⟩ ?_)))))))))
  rintro i w4 ⟨a,hi,d⟩
  refine ah (ah (ap (J H (J H (aW H (cI aT (b.aL a)) (U H (bO) (f (al (bc H (λn=>?_) (λn=>?_))))))))))
  ·refine aH (al (ah (aR (ah (cz 8 [0,1,5,20,24] am am ?_)))))
   refine W H (W H ?_)
   obtain⟨z,s,x⟩:=ei aT (b.aL a) (i:=i) G .i64
   refine cF H (λw _=>s w) (aQ H (λw e=>D bN H (e.a0 x)) (W H (W H ?_)))
   obtain⟨A,t,y⟩:=ei aT (j.aL a) (i:=i) G .i64
   refine cF H (λw _=>t w) (aQ H (λw e=>D bN H (e.a0 y)) (cq ?_))
   rintro K k _ p
   obtain rfl:=bU p
   rintro _ q
   obtain rfl:=bU q
   rintro _ rfl _ rfl _ rfl
   refine U H (yY) (f (al (bc H (λc=>?_) (λc=>?_))))
   ·have o:l≠m:=λh=>by subst h;exact c rfl
    refine ah (ap (Z H (f (al (aA (bD (aI (aI (bD (aI (aM H ?_)))))))))))
    exact⟨_,H,(a.ai k),aB B (bi o).symm⟩
   ·refine aH (bE (al (ap (J H (U H cD ?_)))))
    refine Z H (f (ew (i+1) (aP H) ⟨(a.ai k),G,by rw[fi (show i<l.length by omega),fi (show i<m.length by omega),d,show l[i]=m[i] from oJ λh=>c h]⟩ G))
  ·refine ce (aU (aU (cg (al (ah (ap (Z H (f (al (aA (aM H ?_)))))))))))
   exact⟨_,H,a,aB B (dH (by
    rw[fG G,fG G] at d
    exact d)).symm⟩
theorem JA (s:aO l v w) (q:l.length≤8796093022208):
 Calls Tryz.prog 296 #[v] w (aJ λr w'=>ao w w'∧((18446744073709551616≤val l∧r=.tuple #[bk 0,B false])∨∃x:UInt64,x.toNat=val l∧r=.tuple #[bk x,B true])):=by
 refine enter Tryz.func296 H H H (ah (ap (Z H (Z H (f (al (ah (ap (J H (aC qP H H (rX s q) ?_))))))))))
 rintro v5 P ⟨b,a⟩
 refine Z H (f (al (ah (ah ?_))))
 obtain⟨t,d⟩:∃t,t=lb (val l):=⟨_,rfl⟩
 have e:val t=val l:=by rw[d,cH]
 have O:t.length≤2∨18446744073709551616≤val l:=by
  rcases jn (val l) 18446744073709551616 with h|h
  ·exact .inl (by rw[d];exact gw (n:=val l) (k:=2) h)
  ·exact .inr h
 rw[←d] at a
 refine ap (J H (aW H (cI aT a) (f (al (aR (ah (ap (U H (aV) (Z H (f (al (bc H (λp=>?_) (λp=>?_)))))))))))))
 ·refine ah (ap (Z H (Z H (f (al (aA (bD (aI (dt H ?_)))))))))
  exact⟨_,H,b,.inr ⟨0,by
   have:t=[]:=gT G
   rw[←e,this];rfl,rfl⟩⟩
 ·refine ah (ap (U H (aV) (Z H (f (al ?_)))))
  refine bc H (λm=>?_) (λm=>?_)
  ·refine ah (ap (J H ?_))
   obtain⟨L,u,A⟩:=ei aT a (i:=0) G .i64
   refine bF H (u _) (Y H (D bN H A) (cJ H (fK bN cU) (Z H (Z H (f (al (aA (bD (aI (dt H ?_))))))))))
   exact⟨_,H,b,.inr ⟨_,by
    obtain⟨x,rfl⟩:=zv.1 (show t.length=1 by omega)
    rw[eP,←e];simp[val],rfl⟩⟩
  ·refine ah (ap (U H (aV) (Z H (f (al ?_)))))
   refine bc H (λo=>?_) (λo=>?_)
   ·refine ah (cz 11 [2] am am ?_)
    refine W H ?_
    obtain⟨M,y,C⟩:=ei aT a (i:=0) G .i64
    refine cF H (λw _=>y w) (aQ H (λw g=>D bN H (g.a0 C)) (mD H H (λw _=>fK bN cU) (W H ?_)))
    obtain⟨N,z,F⟩:=ei aT a (i:=1) G .i64
    refine cF H (λw _=>z w) (aQ H (λw g=>D bN H (g.a0 F)) (mD H H (λw _=>fK bN cU) (bn (v:=bk 32) H (λw _=>tg 32 G) (bn H (λw _=>uU) (gK H (cq ?_))))))
    rintro Q K _ rfl
    refine Z H (f (al (aA (bD (aI (dt H ?_))))))
    exact⟨_,H,(b.ai K),.inr ⟨_,by
     have j:=nQ (l:=t) (i:=0) G
     have c:=nQ (l:=t) (i:=1) G
     simp only[gB,Nat.reduceAdd,tt] at j c
     rw[kT (show t.length≤2 by omega)] at c
     rw[MZ (eP _) (ep _),←e,j,c]
     simp[val],rfl⟩⟩
   ·refine aH (bE (al (ah (ap (Z H (Z H (f (al (aA (dt H ?_))))))))))
    exact⟨_,H,b,.inl ⟨G,H⟩⟩
theorem Sb (A:aO l v w) (z:aO m u w) (hl:l.length≤1099511627776) (hm:m.length≤1099511627776):
 Calls Tryz.prog 223 #[v,u] w (aJ λr w'=>ao w w'∧aO (lb (val l+val m)) r w'):=by
 refine enter Tryz.func223 H H H (ah (ap (Z H (f (al (ah (ap (Z H (f (al (ah (ap (Z H (f (al (ah (ah (ap (Z H (f (al (aR (pv (λ(i:Nat) (j:Value) (O:List UInt32) (c:UInt64)=>[(0,v),(1,u),(5,j),(6,bk c),(7,I (i:Int))]) (λ(i:Nat) (j:Value) (O:List UInt32) (c:UInt64) w'=>ao w w'∧ej w.heap.size O j w'∧O.length=i∧i≤max l.length m.length∧c.toNat≤1∧val O+4294967296^i*c.toNat=val (l.take i)+val (m.take i)) (λ(i:Nat) (j:Value) (O:List UInt32) (c:UInt64)=>max l.length m.length-i) (0) (.slice none 0 0) ([]) (0) (aP H) ⟨ao.refl _,ej.nil _ _,H,aj,aj,by simp[val]⟩ ?_)))))))))))))))))))))))
 rintro i j O c w4 ⟨d,g,h,hi,s,n⟩
 refine ah (ah (ap (J H (J H (aW H (cI aT (A.aL d)) (U H (bO) (J H (cK (λq=>?_) (λq=>?_)))))))))
 ·refine L H (L H (L H (L H (bA H (f (al (bT H (aH (al (ah (aR (ah ?_))))))))))))
  have N:i<max l.length m.length:=by
   first
   |(have:=q;omega)
   |(have:=k;omega)
  have st:=Ol (a:=l) (b:=m) h s n
  refine ap (J H (J H (J H (aC sc H H (rW (A.aL d)) ?_))))
  rintro W _ ⟨rfl,rfl⟩
  refine cJ H (fK bN cU) (J H (J H (aC sc H H (rW (z.aL d)) ?_)))
  rintro X _ ⟨rfl,rfl⟩
  refine cJ H (fK bN cU) (U H (np) (U H (np) (Z H (f (al (ah (ap (J H (J H (cJ H (gL cU bN) ?_))))))))))
  obtain⟨Y,ab,x,e,C,T⟩:=mK iN (w:=w4) w4.heap.size [((((c)+(((((l.getD i 0)).toUInt64)+(((m.getD i 0)).toUInt64))))).toUInt32)] aj (bV _)
  refine j3 (vs:=[(0,bz (((((c)+(((((l.getD i 0)).toUInt64)+(((m.getD i 0)).toUInt64))))).toUInt32)))]) H H x ?_
  obtain⟨aa,ad,y,D,p⟩:=sU iN (ty:=46) (g.aL e) C.bL dT ((d.ai e)).size
  have F:=ao.a6 ((d.ai e)) p (g.aL e).ge
  refine dW H y (Z H (f (al (ap (J H (U H (j6 32 G) (Z H (f (bE (al (ap (J H (U H cD (Z H (f (nK (i+1) (_) (_) (_) (aP H) ⟨F,D,by simp[h],G,st.2,st.1⟩ G))))))))))))))))
 ·refine V H (J H (V H (J H (V H (aW H (cI aT (z.aL d)) (V H (U H (bO) ?_)))))))
  refine t H (f (al (bc H (λk=>?_) (λk=>?_))))
  ·refine aH (al (ah (aR (ah ?_))))
   have N:i<max l.length m.length:=by
    first
    |(have:=q;omega)
    |(have:=k;omega)
   have st:=Ol (a:=l) (b:=m) h s n
   refine ap (J H (J H (J H (aC sc H H (rW (A.aL d)) ?_))))
   rintro W _ ⟨rfl,rfl⟩
   refine cJ H (fK bN cU) (J H (J H (aC sc H H (rW (z.aL d)) ?_)))
   rintro X _ ⟨rfl,rfl⟩
   refine cJ H (fK bN cU) (U H (np) (U H (np) (Z H (f (al (ah (ap (J H (J H (cJ H (gL cU bN) ?_))))))))))
   obtain⟨Y,ab,x,e,C,T⟩:=mK iN (w:=w4) w4.heap.size [((((c)+(((((l.getD i 0)).toUInt64)+(((m.getD i 0)).toUInt64))))).toUInt32)] aj (bV _)
   refine j3 (vs:=[(0,bz (((((c)+(((((l.getD i 0)).toUInt64)+(((m.getD i 0)).toUInt64))))).toUInt32)))]) H H x ?_
   obtain⟨aa,ad,y,D,p⟩:=sU iN (ty:=46) (g.aL e) C.bL dT ((d.ai e)).size
   have F:=ao.a6 ((d.ai e)) p (g.aL e).ge
   refine dW H y (Z H (f (al (ap (J H (U H (j6 32 G) (Z H (f (bE (al (ap (J H (U H cD (Z H (f (nK (i+1) (_) (_) (_) (aP H) ⟨F,D,by simp[h],G,st.2,st.1⟩ G))))))))))))))))
  ·refine ce (aU (aU (cg (al (ah ?_)))))
   have ag:max l.length m.length≤i:=by
    first
    |(have:=k;omega)
   rw[vg _ G,vg _ G] at n
   refine ap (J H (J H (cJ H (gL cU bN) ?_)))
   obtain⟨ak,aq,P,o,R,ai⟩:=mK iN (w:=w4) w4.heap.size [((c).toUInt32)] aj (bV _)
   refine j3 (vs:=[(0,bz (((c).toUInt32)))]) H H P ?_
   obtain⟨am,ar,Q,S,M⟩:=sU iN (ty:=46) (g.aL o) R.bL dT ((d.ai o)).size
   have ae:=ao.a6 ((d.ai o)) M (g.aL o).ge
   refine dW H Q (aC qP H H (rX S.bL dT) ?_)
   rintro an au ⟨af,K⟩
   refine Z H (f (al (aA (aM H ?_))))
   exact⟨_,H,(ae.ai af),by rw[←n,←Zk h s];exact K⟩
theorem Sj (A:aO l v w) (M:aO m u w) (hl:l.length≤1099511627776) (ai:val m≤val l):
 Calls Tryz.prog 224 #[v,u] w (aJ λr w'=>ao w w'∧∃d,r=.tuple #[d,I 0]∧ej w.heap.size (lb (val l-val m)) d w'):=by
 refine enter Tryz.func224 H H H (ah (ap (Z H (Z H (f (al (ah (ah (ap (J H (J H (aC KV H H (Ju A M) ?_))))))))))))
 rintro an _ ⟨rfl,rfl⟩
 refine U H (aX (λh=>by have:=uD.1 h;omega) bO) (f (al (be H (aH (al (ah (ap (Z H (f (al (ah (ap (Z H (f (al (ah (ah (ap (Z H (f (al (aR (pv (λ(i:Nat) (p:Value) (O:List UInt32) (d:UInt64)=>[(0,v),(1,u),(6,p),(7,bk d),(8,I (i:Int))]) (λ(i:Nat) (p:Value) (O:List UInt32) (d:UInt64) w'=>ao w w'∧ej w.heap.size O p w'∧O.length=i∧i≤l.length∧d.toNat≤1∧val (l.take i)+4294967296^i*d.toNat=val O+val (m.take i)) (λ(i:Nat) (p:Value) (O:List UInt32) (d:UInt64)=>l.length-i) (0) (.slice none 0 0) ([]) (0) (aP H) ⟨ao.refl _,ej.nil _ _,H,aj,aj,by simp[val]⟩ ?_)))))))))))))))))))))))
 rintro i p O d q ⟨c,o,j,hi,K,n⟩
 refine ah (ah (ap (J H (J H (aW H (cI aT (A.aL c)) (U H (bO) (f (al (bc H (λR=>?_) (λR=>?_))))))))))
 ·refine aH (al (ah (aR (ah ?_))))
  have am:i<l.length:=G
  have N:=eP (l.getD i 0)
  have P:((m.getD i 0).toUInt64+d).toNat=(m.getD i 0).toNat+d.toNat:=by
   have:=ep (m.getD i 0)
   rw[nJ,eP];omega
  refine ap (J H (J H (aC sc H H (rW (A.aL c)) ?_)))
  rintro aq _ ⟨rfl,rfl⟩
  refine cJ H (fK bN cU) (J H (J H (aC sc H H (rW (M.aL c)) ?_)))
  rintro ar _ ⟨rfl,rfl⟩
  refine cJ H (fK bN cU) (J H (U H (np) (Z H (Z H (f (al (ah (ap (Z H (f (al (ah (ah (ap (J H (J H (U H (Oc) (f (al (bc H (λx=>?_) (λx=>?_)))))))))))))))))))))
  ·have W:(l.getD i 0).toNat<(m.getD i 0).toNat+d.toNat:=by
    have:=kW.1 x
    rwa [N,P] at this
   have st:=OQ (a:=l) (b:=m) j K n (.inl ⟨rfl,W,rfl⟩)
   refine ah (ap (J H (U (v:=bk 4294967296) H (np) (Z H (f (al (ap (Z H (f (al (ap (J H (J H (J H (U H (nO) (cJ H (gL cU bN) ?_))))))))))))))))
   obtain⟨ab,ae,y,e,C,aa⟩:=mK iN (w:=q) q.heap.size [((((((((l.getD i 0)).toUInt64)+(4294967296)))-(((((m.getD i 0)).toUInt64)+(d))))).toUInt32)] aj (bV _)
   refine j3 (vs:=[(0,bz (((((((((l.getD i 0)).toUInt64)+(4294967296)))-(((((m.getD i 0)).toUInt64)+(d))))).toUInt32)))]) H H y ?_
   obtain⟨ad,af,z,D,s⟩:=sU iN (ty:=46) (o.aL e) C.bL dT ((c.ai e)).size
   have F:=ao.a6 ((c.ai e)) s (o.aL e).ge
   refine dW H z (Z H (f (bE (al (ap (J H (U H cD (Z H (f (nK (i+1) (_) (_) (_) (aP H) ⟨F,D,by simp[j],G,st.2,st.1⟩ G))))))))))
  ·have V:(m.getD i 0).toNat+d.toNat≤(l.getD i 0).toNat:=by
    have:=mt kW.2 x
    rw[N,P] at this
    omega
   have st:=OQ (a:=l) (b:=m) j K n (.inr ⟨rfl,V,rfl⟩)
   refine aH (al (ap (J H (J H (J H (U H (nO) (cJ H (gL cU bN) ?_)))))))
   obtain⟨ab,ae,y,e,C,aa⟩:=mK iN (w:=q) q.heap.size [((((((l.getD i 0)).toUInt64)-(((((m.getD i 0)).toUInt64)+(d))))).toUInt32)] aj (bV _)
   refine j3 (vs:=[(0,bz (((((((l.getD i 0)).toUInt64)-(((((m.getD i 0)).toUInt64)+(d))))).toUInt32)))]) H H y ?_
   obtain⟨ad,af,z,D,s⟩:=sU iN (ty:=46) (o.aL e) C.bL dT ((c.ai e)).size
   have F:=ao.a6 ((c.ai e)) s (o.aL e).ge
   refine dW H z (Z H (f (bE (al (ap (J H (U H cD (Z H (f (nK (i+1) (_) (_) (_) (aP H) ⟨F,D,by simp[j],G,st.2,st.1⟩ G))))))))))
 ·refine ce (aU (aU (cg (al (ah ?_)))))
  have k:i=l.length:=G
  have T:=en O
  rw[j,k] at T
  have L:val (m.take i)=val m∧d.toNat=0:=by
   have g:=nR m (min i m.length) G
   have S:m.take (min i m.length)=m.take i:=by
    rcases Nat.le_total i m.length with h|h
    ·rw[iZ h]
    ·rw[Jn h,fG (bV _),fG h]
   rw[S] at g
   have ak:=en l
   rw[k,fL] at n
   have Y:val (m.drop (min i m.length))=0:=by
    rcases Nat.le_total i m.length with h|h
    ·rw[iZ h] at g⊢
     rcases fm (val (m.drop i)) with t|t
     ·exact t
     ·have:4294967296^i*1≤4294967296^i*val (m.drop i):=nY _ t
      rw[k] at this g
      omega
    ·rw[Jn h,kT (bV _)];rfl
   rw[Y,xR,lG] at g
   refine⟨g.symm,?_⟩
   rcases(show d.toNat=0∨d.toNat=1 by omega) with h|h
   ·exact h
   ·rw[k] at g
    rw[h,rR,←g] at n
    omega
  have X:val l-val m=val O:=by
   rw[L.1,L.2,k,fL] at n
   omega
  refine ap (J H (aC qP H H (Jy o.bL G) ?_))
  rintro au av ⟨ag,Q⟩
  refine Z H (Z H (f (al (aA (dt H ?_)))))
  exact⟨_,H,(c.ai ag),_,H,by rw[X];exact Q.low c.size⟩
theorem Si (p:aO l v w) (hl:l.length≤1099511627776) (hk:k≤1099511627776):
 Calls Tryz.prog 298 #[v,I (k:Int)] w (aJ λr w'=>ao w w'∧aO (lb (val l*2^k)) r w'):=by
 refine enter Tryz.func298 H H H (ah (ap (Z H (f (al (ah (ap (J H (U (r:=I ((k/32:Nat):Int)) H (by have e:((k/32:Nat):Int)=(k:Int)/32:=G;rw[e];exact tf G G G) ?_)))))))))
 obtain⟨X,aq,F,aa,P,af⟩:=tX iN (w:=w) w.heap.size (n:=k/32) G (bV _)
 refine sQ H F (Z H (f (al (ah (ap (Z H (f (al (ah (ah (ap (Z H (f (al (aR (pv (λ(i:Nat) (b:Value) (O:List UInt32) (c:UInt64)=>[(0,v),(1,I (k:Int)),(5,b),(6,bk c),(7,I (i:Int))]) (λ(i:Nat) (b:Value) (O:List UInt32) (c:UInt64) w'=>ao w w'∧ej w.heap.size O b w'∧O.length=k/32+i∧i≤l.length∧c.toNat<2^(k%32)∧val O+4294967296^(k/32+i)*c.toNat=val (l.take i)*(4294967296^(k/32)*2^(k%32))) (λ(i:Nat) (b:Value) (O:List UInt32) (c:UInt64)=>l.length-i) (0) (X) (List.replicate (k/32) 0) (0) (aP H) ⟨aa,P,aj,aj,by simp;exact lI G,by simp[val,D5]⟩ ?_))))))))))))))))
 rintro i b O c w4 ⟨a,d,j,hi,o,m⟩
 refine ah (ah (ap (J H (J H (aW H (cI aT (p.aL a)) (U H (bO) (f (al (bc H (λx=>?_) (λx=>?_))))))))))
 ·refine aH (al (ah (aR (ah ?_))))
  have C:i<l.length:=G
  have st:=ZG (jV k (show 0<32 by omega)) C j o m
  refine ap (J H (J H (J H ?_)))
  obtain⟨a20,V,W⟩:=ei aT (p.aL a) (i:=i) G .i64
  refine bF H (V _) (Y H (D bN H W) (cJ H (fK bN cU) (J H (U (r:=I ((k%32:Nat):Int)) H (by have e:((k%32:Nat):Int)=(k:Int)%32:=G;rw[e];exact xo G G) (U H (tg ((k%32:Nat)) G) (U H (uU) (Z H (f (al (ah (ap (J H (J H (cJ H (gL cU bN) ?_))))))))))))))
  obtain⟨ak,ar,K,g,Q,ag⟩:=mK iN (w:=w4) w4.heap.size [((((c)|||(((((l[i])).toUInt64)<<<UInt64.ofNat ((k%32:Nat)))))).toUInt32)] aj (bV _)
  refine j3 (vs:=[(0,bz (((((c)|||(((((l[i])).toUInt64)<<<UInt64.ofNat ((k%32:Nat)))))).toUInt32)))]) H H K ?_
  obtain⟨v31,au,L,R,t⟩:=sU iN (ty:=46) (d.aL g) Q.bL dT ((a.ai g)).size
  have ab:=ao.a6 ((a.ai g)) t (d.aL g).ge
  refine dW H L (Z H (f (al (ap (J H (U H (j6 32 G) (Z H (f (bE (al (ap (J H (U H cD (Z H (f (nK (i+1) (_) (_) (_) (aP H) ⟨ab,R,by simp[j];omega,G,st.2,st.1⟩ G))))))))))))))))
 ·refine ce (aU (aU (cg (al (ah ?_)))))
  rw[vg _ G] at m
  have s:4294967296^(k/32)*2^(k%32)=2^k:=by
   have y:(4294967296:Nat)^(k/32)=2^(32*(k/32)):=by rw[rS]
   rw[y,←jF,rQ]
  have z:c.toNat<4294967296:=eT o (lH (show 0<2 by omega) (show k%32≤32 by omega))
  have A:val (O++[c.toUInt32])=val l*2^k:=by
   rw[rE,xy,j,iV,eN z,m,s]
  refine ap (J H (J H (cJ H (gL cU bN) ?_)))
  obtain⟨v37,av,M,h,S,ai⟩:=mK iN (w:=w4) w4.heap.size [((c).toUInt32)] aj (bV _)
  refine j3 (vs:=[(0,bz (((c).toUInt32)))]) H H M ?_
  obtain⟨am,aw,N,T,u⟩:=sU iN (ty:=46) (d.aL h) S.bL dT ((a.ai h)).size
  have ad:=ao.a6 ((a.ai h)) u (d.aL h).ge
  refine dW H N (aC qP H H (rX T.bL dT) ?_)
  rintro an ax ⟨ae,q⟩
  refine Z H (f (al (aA (aM H ?_))))
  exact⟨_,H,(ad.ai ae),by rw[←A];exact q⟩
theorem Sc (o:aO l v w) (A:l.length≤1099511627776):
 Calls Tryz.prog 297 #[v] w (aJ λr w'=>ao w w'∧r=I ((bl (val l):Nat):Int)):=by
 refine enter Tryz.func297 H H H ?_
 have C:=gw (en l)
 refine ah (ap (Z H (f (al (ah (ap (J H (aC qP H H (rX o G) ?_))))))))
 rintro F t ⟨j,c⟩
 refine Z H (f (al (ah (ah (ap (J H (oo (r:=I ((lb (val l)).length:Int)) H H (cI aT c) (U H (aV) (f (al (bc H (λm=>?_) (λm=>?_))))))))))))
 ·refine ah (ap (Z H (f (al (aA (aI (aM H ?_)))))))
  exact⟨_,H,j,by
   have:val l=0:=lh.1 G
   rw[this];rfl⟩
 ·refine aH (al (ah (ap (J H (oo (r:=I ((lb (val l)).length:Int)) H H (cI aT c) (jP (r:=I (((lb (val l)).length-1:Nat):Int)) H H H (by have e:(((lb (val l)).length-1:Nat):Int)=((lb (val l)).length:Int)-1:=G;rw[e];exact dM G G) ?_))))))
  refine jP (r:=I ((32*((lb (val l)).length-1:Nat):Nat):Int)) H H H (by have e:((32*((lb (val l)).length-1:Nat):Nat):Int)=32*(((lb (val l)).length-1:Nat):Int):=G;rw[e];exact dh G G) (Z H (f (al (ah (ah (ap (J H (J H (oo (r:=I ((lb (val l)).length:Int)) H H (cI aT c) (jP (r:=I (((lb (val l)).length-1:Nat):Int)) H H H (by have e:(((lb (val l)).length-1:Nat):Int)=((lb (val l)).length:Int)-1:=G;rw[e];exact dM G G) ?_))))))))))
  obtain⟨u,p,q⟩:=ei aT c (i:=((lb (val l)).length-1:Nat)) G .i64
  refine bF H (p _) (Y H (D bN H q) (Z H (f (al (aR (fp (λ(k:Nat) (x:UInt32)=>[(3,I (k:Int)),(4,bz x)]) (λ(k:Nat) (x:UInt32) w'=>t=w'∧k+bl x.toNat=bl (val l)) (λ(k:Nat) (x:UInt32)=>x.toNat) (32*((lb (val l)).length-1)) ((lb (val l))[(lb (val l)).length-1]'G) (aP H) ⟨H,(Kh G).symm⟩ ?_))))))
  rintro k x _ ⟨rfl,h⟩
  refine ah (ah (ap (J H (U (v:=bz 0) H (N5) (f (al (bc H (λd=>?_) (λd=>?_))))))))
  ·have g:0<x.toNat:=uJ.1 d
   have y:=Ki g
   have hs:(x>>>UInt32.ofNat 1).toNat=x.toNat/2:=AR x (s:=1) G
   have z:=nD (n:=val l) (k:=32*l.length) (by have:=en l;rwa [show(4294967296:Nat)^l.length=2^(32*l.length) by rw[rS]] at this)
   refine aH (al (ah (aR (ap (J H (U H cD (Z H (f (bE (al (ap (J H (U H (oz 1 G) (Z H (f (eI (k+1) (_) (aP H) ⟨H,by rw[hs];omega⟩ G))))))))))))))))
  ·refine ce (aU (aU (cg (al (ah (ap (J H (Z H (f (al (aA (aM H ?_))))))))))))
   exact⟨_,H,j,by
    have g:x.toNat=0:=by
     have:=mt (uJ (a:=0) (b:=x)).2 d
     have e:(0:UInt32).toNat=0:=rfl
     omega
    rw[g,Kj,lG] at h
    rw[h]⟩
theorem UC:aY Tryz.prog 325:=⟨_,Tryz.func325,am,rfl⟩
theorem UF:aY Tryz.prog 324:=⟨_,Tryz.func324,am,rfl⟩
theorem top2 (h:m.length=k+2):val m=((m[k+1]'G).toNat*4294967296+(m[k]'G).toNat)*4294967296^k+val (m.take k):=by
 rw[nR m k G,nQ (show k<m.length by omega),nQ (show k+1<m.length by omega),kT (show m.length≤k+1+1 by omega),fw (4294967296^k),rP]
 congr 2
 simp only[val]
 omega
theorem top3 (h:m.length=k+3):val m=(((m[k+2]'G).toNat*4294967296+(m[k+1]'G).toNat)*4294967296+(m[k]'G).toNat)*4294967296^k+val (m.take k):=by
 rw[nR m k G,nQ (show k<m.length by omega),nQ (show k+1<m.length by omega),nQ (show k+1+1<m.length by omega),kT (show m.length≤k+1+1+1 by omega),fw (4294967296^k),rP]
 congr 2
 simp only[val,pm,Nat.reduceAdd]
 omega
theorem rf {a b:UInt64}:a≥b↔b.toNat≤a.toNat:=vM
theorem wH {a b:UInt64}:a>b↔b.toNat<a.toNat:=kW
theorem RC {L:List UInt32} (hu:aO L u w) (T:aO m v w) (hm:m.length=k+2) (hL:L.length=k+3) (hk:k≤1099511627776) (y:0<(m[k+1]'G).toNat) (a2:val L<4294967296*val m):
 Calls Tryz.prog 325 #[u,v] w (aJ λr w'=>ao w w'∧∃q:UInt64,r=bk q∧q.toNat<4294967296∧(q.toNat-1)*val m≤val L∧val L<(q.toNat+1)*val m):=by
 refine enter Tryz.func325 H H H ?_
 have n:=top2 hm
 have x:=top3 hL
 have a1:=Cb k
 have K:=en (m.take k)
 have ad:=en (L.take k)
 rw[eS,iZ G] at K ad
 have b0:=ep (L[k]'G)
 have b1:=ep (L[k+1]'G)
 have b2:=ep (L[k+2]'G)
 have c1:=ep (m[k+1]'G)
 have O:=ep (m[k]'G)
 have a3:0<val m:=by
  rw[n]
  have:=fH (4294967296^k) (show 1≤(m[k+1]'G).toNat*4294967296+(m[k]'G).toNat by omega)
  omega
 have ar:(L[k+2]'G).toNat≤(m[k+1]'G).toNat:=by
  rcases jn (m[k+1]'G).toNat (L[k+2]'G).toNat with h|h
  ·have e1:((m[k+1]'G).toNat*4294967296+(m[k]'G).toNat+1)*4294967296^k*4294967296≤(((L[k+2]'G).toNat*4294967296+(L[k+1]'G).toNat)*4294967296+(L[k]'G).toNat)*4294967296^k:=by
    rw[fu,fw (4294967296^k),←fu]
    exact fH _ G
   rw[fk _ 1] at e1
   omega
  ·exact h
 have aq:(m[k+1]'G).toUInt64≠0:=λh=>by
  have:=aB UInt64.toNat h
  rw[eP] at this
  simp at this
  omega
 have ab:=wW (L[k+2]'G).toUInt64 (L[k+1]'G) (by rw[eP];exact b2)
 rw[eP] at ab
 refine ah (ap (Z H (f (al (ah (ap (J H (aW (r:=I ((k+2:Nat):Int)) H ((by rw[←hm];exact cI aT T)) (Z H (f (al (ah (cz 13 [0,1,5,23] am am (W H (W H ?_)))))))))))))))
 obtain⟨aS,av,aD⟩:=ei aT hu (i:=(k+2:Nat)) G .i64
 refine cF H (λw _=>av w) (aQ H (λw g=>D bN H (g.a0 aD)) (mD H H (λw _=>fK bN cU) (bn (v:=bk 32) H (λw _=>tg 32 G) (W H (W H (bn (r:=I ((k+1:Nat):Int)) H (λw _=>by have e:((k+1:Nat):Int)=((k+2:Nat):Int)-1:=G;rw[e];exact dM G G) ?_))))))
 obtain⟨a20,aw,aE⟩:=ei aT hu (i:=(k+1:Nat)) G .i64
 refine cF H (λw _=>aw w) (aQ H (λw g=>D bN H (g.a0 aE)) (mD H H (λw _=>fK bN cU) (bn H (λw _=>uU) (cq ?_))))
 rintro a4 ak _ s
 obtain rfl:=bU s
 rintro _ d
 obtain rfl:=bU d
 rintro _ rfl _ rfl
 refine Z H (f (al (ah (cz 17 [0,1,5,7,39] am am (W H (W H (W H (bn (r:=I ((k+1:Nat):Int)) H (λw _=>by have e:((k+1:Nat):Int)=((k+2:Nat):Int)-1:=G;rw[e];exact dM G G) ?_))))))))
 obtain⟨aV,ax,aF⟩:=ei aT (T.aL ak) (i:=(k+1:Nat)) G .i64
 refine cF H (λw _=>ax w) (aQ H (λw g=>D bN H (g.a0 aF)) (mD H H (λw _=>fK bN cU) (bn H (λw _=>Dz aq) (W H (W H (W H (bn (r:=I ((k+1:Nat):Int)) H (λw _=>by have e:((k+1:Nat):Int)=((k+2:Nat):Int)-1:=G;rw[e];exact dM G G) ?_)))))))
 obtain⟨aY,ay,aG⟩:=ei aT (T.aL ak) (i:=(k+1:Nat)) G .i64
 refine cF H (λw _=>ay w) (aQ H (λw g=>D bN H (g.a0 aG)) (mD H H (λw _=>fK bN cU) (bn H (λw _=>DA aq) (gK H (cq ?_)))))
 rintro a5 aN _ s
 obtain rfl:=bU s
 rintro _ d
 obtain rfl:=bU d
 rintro _ rfl _ rfl _ rfl
 refine Z H (f (al (ah (aR ?_))))
 refine fp (λ(q:UInt64) (r:UInt64)=>[(0,u),(1,v),(5,I ((k+2:Nat):Int)),(7,bk q),(8,bk r)]) (λ(q:UInt64) (r:UInt64) w'=>ao w w'∧q.toNat*(m[k+1]'G).toNat+r.toNat=(L[k+2]'G).toNat*4294967296+(L[k+1]'G).toNat∧r.toNat<4294967296∧∀Q,Q*val m≤val L→Q≤q.toNat) (λ(q:UInt64) (r:UInt64)=>q.toNat) (_) (_) (aP H) ⟨(ak.ai aN),by rw[xZ,ya,ab,eP,fw];exact rQ _ _,by rw[ya,ab,eP];have:=jV ((L[k+2]'G).toNat*4294967296+(L[k+1]'G).toNat) y;omega,λQ hQ=>by
  rw[xZ,ab,eP]
  refine Wa (V:=val m) (U:=val L) (P:=4294967296^k*4294967296) ?_ ?_ y hQ
  ·rw[n,fw (4294967296^k),←fu]
   have:=fH (4294967296^k) (Jl ((m[k+1]'G).toNat*4294967296) (m[k]'G).toNat)
   omega
  ·rw[x,fw (4294967296^k),←fu]
   have:=fH (4294967296^k) (show((L[k+2]'G).toNat*4294967296+(L[k+1]'G).toNat)*4294967296+(L[k]'G).toNat+1≤((L[k+2]'G).toNat*4294967296+(L[k+1]'G).toNat+1)*4294967296 by omega)
   rw[fk _ 1] at this
   omega⟩ ?_
 rintro q r w4 ⟨b,N,hr,af⟩
 refine ah (ah ?_)
 by_cases o:q≥4294967296
 ·refine cz 21 [0,1,5,7,8,42,60] am am ?_
  refine W H (bn (v:=bk 4294967296) H (λw _=>cu o Bc) (W H (M H (M H (M H (M H (M H (M H (M H (M H (M H (M H (M H (M H (M H (M H (M H (M H (M H (M H (cq ?_)))))))))))))))))))))
  rintro aL j _ s
  obtain rfl:=bU s
  rintro _ d
  obtain rfl:=bU d
  rintro _ rfl _ rfl _ rfl _ rfl _ rfl
  refine bA H (f (al (bT H (aH (al (aR (ah (ap ?_))))))))
  have aa:∀Q,Q*val m≤val L→Q+1≤q.toNat:=by
   intro Q hQ
   first
   |(have c:4294967296≤q.toNat:=rf.1 o
     have h2:Q*val m<4294967296*val m:=G
     have:=BN h2
     omega)
   |(have c:q.toNat<4294967296:=nB λh=>o (rf.2 h)
     have a:=wH.1 R
     have z:q.toNat*(m[k]'G).toNat≤4294967295*4294967295:=gi G G
     rw[wW r _ hr,wV,eP,eN G] at a
     have h2:=LX n x ad N a
     have h3:Q*val m<q.toNat*val m:=G
     exact BN h3)
  have s:=aa 0 aj
  have d:(q-1).toNat=q.toNat-1:=by
   have:=Bn q
   rw[pO]
   show(18446744073709551616-1+q.toNat)%18446744073709551616=_
   omega
  have ae:(r+(m[k+1]'G).toUInt64).toNat=r.toNat+(m[k+1]'G).toNat:=by rw[nJ,eP];omega
  have A:(q-1).toNat*(m[k+1]'G).toNat+(r+(m[k+1]'G).toUInt64).toNat=(L[k+2]'G).toNat*4294967296+(L[k+1]'G).toNat:=by
   rw[d,ae,←N]
   obtain⟨p,z⟩:∃p,q.toNat=p+1:=⟨q.toNat-1,G⟩
   rw[z,pn,fk];omega
  have S:∀Q,Q*val m≤val L→Q≤(q-1).toNat:=λQ hQ=>by
   have:=aa Q hQ
   omega
  refine J H (an (v:=bk 1) H (nO) (Z H (f (al (ah (ap (J H (J H (J H (an (r:=I ((k+1:Nat):Int)) H (by have e:((k+1:Nat):Int)=((k+2:Nat):Int)-1:=G;rw[e];exact dM G G) ?_))))))))))
  obtain⟨au,ag,ai⟩:=ei aT (T.aL (b.ai j)) (i:=(k+1:Nat)) G .i64
  refine bF H (ag _) (Y H (D bN H ai) (cJ H (fK bN cU) (an H (np) (Z H (f (al (ah (ap (J H (an (v:=bk 4294967296) H (Bc) (f (al (bc H (λC=>?_) (λC=>?_))))))))))))))
  ·have l:4294967296≤(r+(m[k+1]'G).toUInt64).toNat:=rf.1 C
   have F:=LY ar b1 A l
   refine ce (Il H (aU (cg (al (ah (ap (J H (Z H (f (al (aA (aM H ?_))))))))))))
   first
   |exact⟨_,rfl,(b.ai j),_,rfl,F,yt n x K y O F A (.inl l),nB λh=>absurd (S _ h) G⟩
   |(have c:q.toNat<4294967296:=nB λh=>o (rf.2 h)
     have a:(q*(m[k]'G).toUInt64).toNat≤(r<<<UInt64.ofNat 32|||(L[k]'G).toUInt64).toNat:=vE λh=>R (wH.2 h)
     have z:q.toNat*(m[k]'G).toNat≤4294967295*4294967295:=gi G G
     rw[wW r _ hr,wV,eP,eN G] at a
     exact⟨_,H,(b.ai j),_,H,c,yt n x K y O c N (.inr a),nB λh=>absurd (af _ h) G⟩)
  ·have l:(r+(m[k+1]'G).toUInt64).toNat<4294967296:=nB λh=>C (rf.2 h)
   refine aH (bE (eI (q-1) (r+(m[k+1]'G).toUInt64) (aP H) ⟨(b.ai j),A,l,S⟩ (by show(q-1).toNat<q.toNat;omega)))
 ·refine cz 21 [0,1,5,7,8,42,60] am am ?_
  refine W H (bn (v:=bk 4294967296) H (λw _=>aX o Bc) (W H (X H (W H (X H (W H (X H (W H (X H (bn (r:=I ((k:Nat):Int)) H (λw _=>by have e:((k:Nat):Int)=((k+2:Nat):Int)-2:=G;rw[e];exact dM G G) (X H ?_)))))))))))
  obtain⟨aZ,az,aI⟩:=ei aT (T.aL b) (i:=(k:Nat)) G .i64
  refine cF H (λw _=>az w) (X H (aQ H (λw g=>D bN H (g.a0 aI)) (X H (mD H H (λw _=>fK bN cU) (X H (bn H (λw _=>Be) (X H (W H (X H (bn (v:=bk 32) H (λw _=>tg 32 G) (X H (W H (X H (W H (X H (bn (r:=I ((k:Nat):Int)) H (λw _=>by have e:((k:Nat):Int)=((k+2:Nat):Int)-2:=G;rw[e];exact dM G G) (X H ?_)))))))))))))))))
  obtain⟨a0,aC,aK⟩:=ei aT (hu.aL b) (i:=(k:Nat)) G .i64
  refine cF H (λw _=>aC w) (X H (aQ H (λw g=>D bN H (g.a0 aK)) (X H (mD H H (λw _=>fK bN cU) (X H (bn H (λw _=>uU) (X H (bn H (λw _=>oy) (cq ?_)))))))))
  rintro aL j _ s
  obtain rfl:=bU s
  rintro _ d
  obtain rfl:=bU d
  rintro _ rfl _ rfl _ rfl _ rfl _ rfl
  refine t H (f (al (bc H (λR=>?_) (λR=>?_))))
  ·refine aH (al (aR (ah (ap ?_))))
   have aa:∀Q,Q*val m≤val L→Q+1≤q.toNat:=by
    intro Q hQ
    first
    |(have c:4294967296≤q.toNat:=rf.1 o
      have h2:Q*val m<4294967296*val m:=G
      have:=BN h2
      omega)
    |(have c:q.toNat<4294967296:=nB λh=>o (rf.2 h)
      have a:=wH.1 R
      have z:q.toNat*(m[k]'G).toNat≤4294967295*4294967295:=gi G G
      rw[wW r _ hr,wV,eP,eN G] at a
      have h2:=LX n x ad N a
      have h3:Q*val m<q.toNat*val m:=G
      exact BN h3)
   have s:=aa 0 aj
   have d:(q-1).toNat=q.toNat-1:=by
    have:=Bn q
    rw[pO]
    show(18446744073709551616-1+q.toNat)%18446744073709551616=_
    omega
   have ae:(r+(m[k+1]'G).toUInt64).toNat=r.toNat+(m[k+1]'G).toNat:=by rw[nJ,eP];omega
   have A:(q-1).toNat*(m[k+1]'G).toNat+(r+(m[k+1]'G).toUInt64).toNat=(L[k+2]'G).toNat*4294967296+(L[k+1]'G).toNat:=by
    rw[d,ae,←N]
    obtain⟨p,z⟩:∃p,q.toNat=p+1:=⟨q.toNat-1,G⟩
    rw[z,pn,fk];omega
   have S:∀Q,Q*val m≤val L→Q≤(q-1).toNat:=λQ hQ=>by
    have:=aa Q hQ
    omega
   refine J H (an (v:=bk 1) H (nO) (Z H (f (al (ah (ap (J H (J H (J H (an (r:=I ((k+1:Nat):Int)) H (by have e:((k+1:Nat):Int)=((k+2:Nat):Int)-1:=G;rw[e];exact dM G G) ?_))))))))))
   obtain⟨au,ag,ai⟩:=ei aT (T.aL (b.ai j)) (i:=(k+1:Nat)) G .i64
   refine bF H (ag _) (Y H (D bN H ai) (cJ H (fK bN cU) (an H (np) (Z H (f (al (ah (ap (J H (an (v:=bk 4294967296) H (Bc) (f (al (bc H (λC=>?_) (λC=>?_))))))))))))))
   ·have l:4294967296≤(r+(m[k+1]'G).toUInt64).toNat:=rf.1 C
    have F:=LY ar b1 A l
    refine ce (Il H (aU (cg (al (ah (ap (J H (Z H (f (al (aA (aM H ?_))))))))))))
    first
    |exact⟨_,rfl,(b.ai j),_,rfl,F,yt n x K y O F A (.inl l),nB λh=>absurd (S _ h) G⟩
    |(have c:q.toNat<4294967296:=nB λh=>o (rf.2 h)
      have a:(q*(m[k]'G).toUInt64).toNat≤(r<<<UInt64.ofNat 32|||(L[k]'G).toUInt64).toNat:=vE λh=>R (wH.2 h)
      have z:q.toNat*(m[k]'G).toNat≤4294967295*4294967295:=gi G G
      rw[wW r _ hr,wV,eP,eN G] at a
      exact⟨_,H,(b.ai j),_,H,c,yt n x K y O c N (.inr a),nB λh=>absurd (af _ h) G⟩)
   ·have l:(r+(m[k+1]'G).toUInt64).toNat<4294967296:=nB λh=>C (rf.2 h)
    refine aH (bE (eI (q-1) (r+(m[k+1]'G).toUInt64) (aP H) ⟨(b.ai j),A,l,S⟩ (by show(q-1).toNat<q.toNat;omega)))
  ·refine ce (aU (aU (cg (al (ah (ap (J H (Z H (f (al (aA (aM H ?_))))))))))))
   first
   |exact⟨_,rfl,(b.ai j),_,rfl,F,yt n x K y O F A (.inl l),nB λh=>absurd (S _ h) G⟩
   |(have c:q.toNat<4294967296:=nB λh=>o (rf.2 h)
     have a:(q*(m[k]'G).toUInt64).toNat≤(r<<<UInt64.ofNat 32|||(L[k]'G).toUInt64).toNat:=vE λh=>R (wH.2 h)
     have z:q.toNat*(m[k]'G).toNat≤4294967295*4294967295:=gi G G
     rw[wW r _ hr,wV,eP,eN G] at a
     exact⟨_,H,(b.ai j),_,H,c,yt n x K y O c N (.inr a),nB λh=>absurd (af _ h) G⟩)
theorem RF {y t:List Value} {L:List UInt32} {q:UInt64} (hu:PW g y L t u w) (P:aO m v w) (O:v.ownBlock=none∨v.ownBlock≠some g) (W:L.length=m.length+1) (hm:m.length≤1099511627776)
 (hq:q.toNat<4294967296) (h1:(q.toNat-1)*val m≤val L) (h2:val L<(q.toNat+1)*val m):
 Calls Tryz.prog 324 #[u,v,bk q] w (aJ λr w'=>∃x F,r=bz x∧w.grownBy w' (some g)∧PW g y F t u w'∧F.length=L.length∧val L=x.toNat*val m+val F∧val F<val m):=by
 refine enter Tryz.func324 H H H (ah (ap (Z H (f (al (ah (ap (Z H (Z H (f (al (ah (ah (ap (J H (aW H (cI Tryz.underlying47 P) (J H (f (al (aR (pv (λ(i:Nat) (M:List UInt32) (c:UInt64) (b:UInt64)=>[(0,u),(1,v),(2,bk q),(7,bk c),(8,bk b),(15,v),(16,I (m.length:Int)),(17,I (i:Int))]) (λ(i:Nat) (M:List UInt32) (c:UInt64) (b:UInt64) w'=>w.grownBy w' (some g)∧PW g y M t u w'∧M.length=L.length∧i≤m.length∧M.drop i=L.drop i∧c.toNat<4294967296∧b.toNat≤1∧val (L.take i)+4294967296^i*(c.toNat+b.toNat)=val (M.take i)+q.toNat*val (m.take i)) (λ(i:Nat) (M:List UInt32) (c:UInt64) (b:UInt64)=>m.length-i) (0) (L) (0) (0) (aP H) ⟨oZ (ao.refl _),hu,H,aj,H,aj,aj,by simp[val]⟩ ?_)))))))))))))))))))))
 rintro i M c b w3 ⟨z,p,l,hi,aa,hc,hb,ab⟩
 refine ah ?_
 have v3:=P.c3 O z
 refine ap (U H (bO) (f (al (ah (bc H (λaf=>?_) (λaf=>?_))))))
 ·refine aH (al (ah (aR (ah (ap (J H ?_))))))
  obtain⟨a20,am,aB⟩:=ei aT v3 (i:=i) G .i64
  refine bF H (am _) (Y H (D bN H aB) (Z H (Z H (f (al (ah (ap (J H (J H (J H (cJ H (fK bN cU) (U H (Be) (U H (np) (Z H (f (al (ah (ap (J H (J H ?_))))))))))))))))))))
  obtain⟨aY,an,aC⟩:=ei aT p.bL (i:=i) G .i64
  refine bF H (an _) (Y H (D bN H aC) (cJ H (fK bN cU) (J H (cJ H (gL cU bN) (cJ H (fK bN cU) (U H (nO) (J H (U H (nO) (Z H (f (al (ah (ap (J H (J H (J H (cJ H (gL cU bN) ?_)))))))))))))))))
  obtain⟨a8,aq,aQ,k,aD,a3⟩:=p.ec aT (i:=i) G ((((((((M[i])).toUInt64)-(((((c)+(((q)*(((m[i])).toUInt64))))).toUInt32).toUInt64)))-(b)))).toUInt32
  refine bF H (aq _) (cZ H (aQ) (f (al (ah (ap (J H (U H (j6 63 G) (Z H (f (al (ap (J H (U H (j6 32 G) (Z H (f (bE (al (ap (U H cD (J H (f ?_)))))))))))))))))))))
  have st:=aaj (L:=L) (v:=m) (M:=M) (i:=i) (q:=q) (c:=c) (b:=b) G G l hq hc hb aa ab rfl
  refine nK (i+1) (_) (_) (_) (aP H) ⟨z.ai aD,k,by simpa using l,G,st.1,st.2.1,st.2.2.1,st.2.2.2⟩ G
 ·refine ce (aU (aU (cg (al (ah ?_)))))
  obtain rfl:i=m.length:=by omega
  refine ap (J H (J H (aW H (cI aT v3) ?_)))
  obtain⟨aZ,ar,aE⟩:=ei aT p.bL (i:=m.length) G .i64
  refine bF H (ar _) (Y H (D bN H aE) (cJ H (fK bN cU) (J H (U H (nO) (J H (U H (nO) (Z H (f (al (ah (ap (J H (J H (aW H (cI aT v3) (J H (cJ H (gL cU bN) ?_))))))))))))))))
  obtain⟨a9,au,aS,k,S,a4⟩:=p.ec aT (i:=m.length) G ((((((((M[m.length])).toUInt64)-(c)))-(b)))).toUInt32
  refine bF H (au _) (cZ H (aS) ?_)
  have aX:=v3.c3 O S
  have a:=Zx (q:=q) W l hc hb aa ab rfl
  have j:=rh ((((((((M[m.length])).toUInt64)-(c)))-(b)))) (s:=63) G
  simp only[Nat.reducePow] at j
  have n:(M.set m.length ((((((((M[m.length])).toUInt64)-(c)))-(b)))).toUInt32).length=L.length:=by simpa using l
  have ai:=en (M.set m.length ((((((((M[m.length])).toUInt64)-(c)))-(b)))).toUInt32)
  generalize M.set m.length ((((((((M[m.length])).toUInt64)-(c)))-(b)))).toUInt32=N at k a n ai
  generalize hX:(((((((M[m.length])).toUInt64)-(c)))-(b)))=X at a j
  refine f (al (ah (ah (ap (J H (U H (j6 63 G) (U (v:=bk 0) H (Dr) (f (al (bc H (λA=>?_) (λA=>?_)))))))))))
  ·rw[A] at j
   rw[←j] at a
   refine ah (ap (J H (cJ H (gL cU bN) (Z H (f (al (aA (aI (aM H ?_)))))))))
   exact⟨_,H,q.toUInt32,N,H,z.ai S,k,n,by
    have e:q.toUInt32.toNat=q.toNat:=by rw[iV];omega
    have:=a.1
    rw[e]
    simp at this
    omega,by
    have:=a.1
    rw[fk,nC] at h2
    simp at this
    omega⟩
  ·have hs:X.toNat/9223372036854775808=1:=by
    rcases fm (X.toNat/9223372036854775808) with h|h
    ·exact absurd (aaq (j.ai h)) A
    ·have:=a.2
     omega
   rw[hs,rR] at a
   refine aH (al (ah (ap (Z H (f (al (ah (ah (ap (J H (aW H (cI Tryz.underlying47 aX) (J H (f (al (aR (ob (λ(i:Nat) (K:List UInt32) (d:UInt64)=>[(0,u),(1,v),(2,bk q),(7,bk d),(70,v),(71,I (m.length:Int)),(72,I (i:Int))]) (λ(i:Nat) (K:List UInt32) (d:UInt64) w'=>w.grownBy w' (some g)∧PW g y K t u w'∧K.length=L.length∧i≤m.length∧K.drop i=N.drop i∧d.toNat≤1∧val (K.take i)+4294967296^i*d.toNat=val (N.take i)+val (m.take i)) (λ(i:Nat) (K:List UInt32) (d:UInt64)=>m.length-i) (0) (N) (0) (aP H) ⟨z.ai S,k,n,aj,H,aj,by simp[val]⟩ ?_))))))))))))))))
   rintro i K d a7 ⟨R,o,C,hi,V,hd,ad⟩
   refine ah ?_
   have ae:=P.c3 O R
   refine ap (U H (bO) (f (al (ah (bc H (λag=>?_) (λag=>?_))))))
   ·refine aH (al (ah (aR (ah (ap (J H ?_))))))
    obtain⟨a75,av,aF⟩:=ei aT ae (i:=i) G .i64
    refine bF H (av _) (Y H (D bN H aF) (Z H (Z H (f (al (ah (ap (J H (J H (J H ?_))))))))))
    obtain⟨a0,aw,aG⟩:=ei aT o.bL (i:=i) G .i64
    refine bF H (aw _) (Y H (D bN H aG) (cJ H (fK bN cU) (J H (cJ H (fK bN cU) (U H (np) (U H (np) (Z H (f (al (ah (ap (J H (J H (J H (cJ H (gL cU bN) ?_)))))))))))))))
    obtain⟨ba,ax,aV,Q,aK,a5⟩:=o.ec aT (i:=i) G ((((d)+(((((K[i])).toUInt64)+(((m[i])).toUInt64)))))).toUInt32
    refine bF H (ax _) (cZ H (aV) (f (al (ap (J H (U H (j6 32 G) (Z H (f (bE (al (ap (U H cD (J H (f ?_))))))))))))))
    have st:=SY (L:=N) (v:=m) (M:=K) (i:=i) (c:=d) G G G hd V ad
    refine lj (i+1) (_) (_) (aP H) ⟨R.ai aK,Q,by simpa using C,G,st.1,st.2.1,st.2.2⟩ G
   ·refine ce (aU (aU (cg (al (ah ?_)))))
    obtain rfl:i=m.length:=by omega
    refine ap (J H (J H (aW H (cI aT ae) ?_)))
    obtain⟨a1,ay,aL⟩:=ei aT o.bL (i:=m.length) G .i64
    refine bF H (ay _) (Y H (D bN H aL) (J H (cJ H (gL cU bN) (U H (pV) ?_))))
    obtain⟨a6,ak,aN,Q,az,a2⟩:=o.ec aT (i:=m.length) G (K[m.length]'G+d.toUInt32)
    refine bF H (ak _) (cZ H (aN) (f (al (ah (ap (J H (U (v:=bk 1) H (nO) (cJ H (gL cU bN) (Z H (f (al (aA (aM H ?_)))))))))))))
    have T:=Zw (q:=q.toNat) W n C hd V ad a.1 h1
    exact⟨_,H,(q-1).toUInt32,_,H,R.ai az,Q,by simpa using C,by
     have e:(q-1).toUInt32.toNat=q.toNat-1:=by
      have h0:=T.1
      rw[iV,pO]
      show(18446744073709551616-1+q.toNat)%18446744073709551616%_=_
      omega
     rw[e];exact T.2.1,T.2.2⟩
theorem Af:aY Tryz.prog 284:=⟨_,Tryz.func284,am,rfl⟩
theorem aax {U:List UInt32} {V:Nat} (h:val U<4294967296^(i+1)*V) (d:V<4294967296^j) (hi:i+j+1≤U.length):val (U.drop (i+j+1))=0:=by
 rw[nR U (i+j+1) hi] at h
 rcases fm (val (U.drop (i+j+1))) with c|c
 ·exact c
 ·have a:4294967296^(i+1)*V≤4294967296^(i+1)*4294967296^j:=nY _ (zE d)
  rw[←jF,show i+1+j=i+j+1 by omega] at a
  have b:4294967296^(i+j+1)*1≤4294967296^(i+j+1)*val (U.drop (i+j+1)):=nY _ c
  omega
theorem aaz {U:List UInt32} (h:i+n≤U.length) (c:val (U.drop (i+n))=0):val U=val (U.take i)+4294967296^i*val ((U.take (i+n)).drop i):=by
 have a:=nR U (i+n) h
 rw[c,xR,lG] at a
 have b:=nR (U.take (i+n)) i dT
 rw[List.take_take,iZ G] at b
 rw[a,b]
theorem aay {U F:List UInt32} (h:i+n≤U.length) (a:val (U.drop (i+n))=0):val (U.take i++F++U.drop (i+n))=val (U.take i)+4294967296^i*val F:=by
 rw[rE,rE,a,eS,iZ G];simp
theorem zB (hv:aO l v w) (hu:aO m u w) (hl:l.length≤549755813888) (bM:m.length≤549755813888) (hm:0<val m):
 Calls Tryz.prog 284 #[v,u] w (aJ λr w'=>ao w w'∧∃q s,r=.tuple #[q,s,I 0]∧aO (lb (val l/val m)) q w'∧aO (lb (val l%val m)) s w'):=by
 refine enter Tryz.func284 H H H ?_
 have bL:=gw (en l)
 have bP:=gw (en m)
 have bB:0<(lb (val m)).length:=by
  rcases fm (lb (val m)).length with h|h
  ·have:=lh.1 h
   omega
  ·exact h
 refine ah (ap (Z H (Z H (Z H (f (al (ah (ap (J H (aC jf H H (jz hv) ?_))))))))))
 rintro bT _ ⟨rfl,d⟩
 refine J H (aC jf H H (jz hu) ?_)
 rintro v20 _ ⟨rfl,b⟩
 refine Z H (Z H (f (al (ah (aR (ah (ap (J H (oo (r:=I ((lb (val m)).length:Int)) H H (cI aT b) (an H (aX G aV) (Z H (f (al (be H (ah (ap (J H (J H (aC vW H H ((by have:=vz d b;rw[cH,cH] at this;exact this)) ?_)))))))))))))))))))
 rintro bU b5 ⟨a,rfl⟩
 refine an H (bO) (Z H (f (al (bc H (λR=>?_) (λR=>?_)))))
 ·have aw:=uD.1 R
  refine ah (ap (J H (aC Ag H H ((by have:=zC (d.aL a) G;rw[cH] at this;exact this)) ?_)))
  rintro v31 b6 ⟨br,aG⟩
  refine Z H (Z H (Z H (f (al (aA (bD (aI (sW H ?_))))))))
  exact⟨_,H,(a.ai br),_,_,H,by rw[pp aw];exact aO.nil _,by rw[eN aw];exact aG⟩
 ·have bI:val m≤val l:=vE λh=>R (uD.2 h)
  have bK:(lb (val m)).length≤(lb (val l)).length:=vE λh=>by have:=CR h;omega
  refine ah (ap (J H (oo (r:=I ((lb (val m)).length:Int)) H H (cI aT (b.aL a)) (an H (aV) (Z H (f (al (bc H (λaS=>?_) (λaS=>?_)))))))))
  ·refine ah (ap (J H (J H ?_)))
   have ar:val m=((lb (val m))[0]'G).toNat:=by
    have e:=nQ (l:=lb (val m)) (i:=0) G
    rw[tt,cH,kT G] at e
    simpa [val] using e
   obtain⟨bx,bf,bm⟩:=ei aT (b.aL a) (i:=0) G .i64
   refine bF H (bf _) (Y H (D bN H bm) (aC UH H H ((RG (d.aL a) G (by rw[←ar];exact hm))) ?_))
   rintro bW b7 ⟨bt,q,s,rfl,bq,bs⟩
   refine J H (aZ H dm (aZ H dn (Z H (Z H (f (al (ah (ap (J H (J H (Z H (Z H (Z H (f (al (aA (bD (aI (sW H ?_)))))))))))))))))))
   rw[cH,←ar] at bq bs
   exact⟨_,H,(a.ai bt),_,_,H,bq,bs⟩
  ·refine aH (bE (al (ah ?_)))
   obtain⟨k,hk⟩:∃k,(lb (val m)).length=k+2:=⟨(lb (val m)).length-2,G⟩
   obtain⟨T,p⟩:=XI hk
   have ba:(lb (val m))[(lb (val m)).length-1]'G=(lb (val m))[k+1]'G:=by congr 1;omega
   refine ap (J H (J H (oo (r:=I ((lb (val m)).length:Int)) H H (cI aT (b.aL a)) (jP (r:=I (((lb (val m)).length-1:Nat):Int)) H H H (by have e:(((lb (val m)).length-1:Nat):Int)=((lb (val m)).length:Int)-1:=G;rw[e];exact dM G G) ?_))))
   obtain⟨bz,bg,bn⟩:=ei aT (b.aL a) (i:=((lb (val m)).length-1:Nat)) G .i64
   refine bF H (bg _) (Y H (D bN H bn) (aC Um H H (Rd) ?_))
   rintro bX _ ⟨rfl,rfl⟩
   rw[ba]
   obtain⟨s,hs⟩:∃s,s=32-bl ((lb (val m))[k+1]'G).toNat:=⟨_,rfl⟩
   rw[←hs] at T p⊢
   refine Z H (f (al (ah (ap (J H (J H (aC KP H H (Je (d.aL a) G T) ?_)))))))
   rintro aD bp ⟨ae,U,oU,a1,S⟩
   refine J H (J H (aC KP H H (Je (b.aL (a.ai ae)) G T) ?_))
   rintro bY ad ⟨t,V,oV,bC,au⟩
   refine aC jf H H (Ps oV.bL) ?_
   rintro L _ ⟨rfl,ag,az⟩
   rw[cH] at S au
   rw[au] at ag
   obtain⟨g,sp,bH,bJ,pU⟩:=oU.pw G
   have a2:0<val m*2^s:=oN hm (lI G)
   have a4:g<bp.heap.size:=pU.lt
   have aB:L.ownBlock=none∨L.ownBlock≠some g:=by
    rcases az with h|h
    ·exact .inl h
    ·exact .inr (by rw[h];exact oV.off a4)
   have N:=(a.ai ae).ai t
   refine Z H (Z H (f (al (ah (ap (J H (oo (r:=I ((lb (val l)).length:Int)) H H (cI aT (d.aL N)) (J H (oo (r:=I ((lb (val m)).length:Int)) H H (cI aT (b.aL N)) (jP (r:=I (((lb (val l)).length-(lb (val m)).length:Nat):Int)) H H H (by have e:(((lb (val l)).length-(lb (val m)).length:Nat):Int)=((lb (val l)).length:Int)-((lb (val m)).length:Int):=G;rw[e];exact dM G G) (jP (r:=I (((((lb (val l)).length-(lb (val m)).length:Nat))+1:Nat):Int)) H H H (by have e:(((((lb (val l)).length-(lb (val m)).length:Nat))+1:Nat):Int)=(((lb (val l)).length-(lb (val m)).length:Nat):Int)+1:=G;rw[e];exact dB G G) ?_)))))))))))
   obtain⟨aE,b8,a9,af,ay,bQ⟩:=tX aT (w:=ad) ad.heap.size (n:=(lb (val l)).length-(lb (val m)).length+1) G (bV _)
   refine sQ H a9 (Z H (f (al (ah (ah (ap (J H (oo (r:=I (((lb (val l)).length-(lb (val m)).length+1:Nat):Int)) H H ((by simpa using cI Tryz.underlying47 ay.bL)) (an H (dM G G) (Z H (f (al (aR ?_)))))))))))))
   refine ob (λ(j:Nat) (X:List UInt32) (O:List UInt32)=>[(9,I (s:Int)),(10,aD),(11,L),(12,aE),(13,I ((j:Int)-1))]) (λ(j:Nat) (X:List UInt32) (O:List UInt32) w'=>ao w w'∧PW g [] X sp aD w'∧ej ad.heap.size O aE w'∧aO (lb (val m*2^s)) L w'∧X.length=(lb (val l)).length+1∧O.length=(lb (val l)).length-(lb (val m)).length+1∧j≤O.length∧val l*2^s=val (O.drop j)*4294967296^j*(val m*2^s)+val X∧val X<4294967296^j*(val m*2^s)) (λ(j:Nat) (X:List UInt32) (O:List UInt32)=>j) ((lb (val l)).length-(lb (val m)).length+1) (U) (List.replicate ((lb (val l)).length-(lb (val m)).length+1) 0) (aP H) ⟨(N.ai af),(pU.aL t).aL af,ay,ag.aL af,a1,aj,aj,by rw[kT aj];simp[val,S],by
    have o:=en (lb (val l))
    have h2:=CP hm
    rw[cH] at o
    rw[S,←fu]
    refine BO ?_ (lI G)
    have h3:4294967296^(lb (val l)).length=4294967296^((lb (val l)).length-(lb (val m)).length+1)*4294967296^((lb (val m)).length-1):=by
     rw[←jF,show(lb (val l)).length-(lb (val m)).length+1+((lb (val m)).length-1)=(lb (val l)).length by omega]
    rw[h3] at o
    exact eT o (nY _ h2)⟩ ?_
   rintro j X O b4 ⟨ai,pX,W,z,a3,a0,hj,C,c⟩
   refine ah (ah (ap (J H (an H (eU) (f (al (bc H (λaY=>?_) (λaY=>?_))))))))
   ·obtain⟨i,rfl⟩:∃i,j=i+1:=⟨j-1,G⟩
    have e:((i+1:Nat):Int)-1=(i:Int):=G
    rw[e]
    have hz:=aax c (by have:=en (lb (val m*2^s));rwa [cH,p] at this) (j:=k+2) G
    have av:=aaz (U:=X) (i:=i) (n:=k+3) G hz
    refine aH (al (ah (aR (ah (ap (J H (J H (J H (J H (aW (r:=I ((k+2:Nat):Int)) H ((by rw[←p];exact cI aT z)) (jP (r:=I ((i+(k+2:Nat):Nat):Int)) H H H (by have e:((i+(k+2:Nat):Nat):Int)=(i:Int)+((k+2:Nat):Int):=G;rw[e];exact dB G G) (jP (r:=I ((((i+(k+2:Nat):Nat))+1:Nat):Int)) H H H (by have e:((((i+(k+2:Nat):Nat))+1:Nat):Int)=((i+(k+2:Nat):Nat):Int)+1:=G;rw[e];exact dB G G) ?_))))))))))))
    obtain⟨bZ,bh,pP⟩:=Zd aT pX (lo:=i) (hi:=i+(k+2)+1) G G .i64 .i64
    refine jx H H H H H (bh _) ?_
    have K:((X.take (i+(k+2)+1)).drop i).length=k+3:=dT
    refine Z H (f (al (ap (J H (J H (J H (J H (J H (J H (aC UC H H (RC pP.bL z p K G (GN G) (by
 rw[cH]
 have o:4294967296^i*val ((X.take (i+(k+3))).drop i)≤val X:=by rw[av];omega
 rw[gj,fu] at c
 exact Nat.lt_of_mul_lt_mul_left (nA o c))) ?_))))))))))
    rintro b0 b9 ⟨y,q,rfl,a8,a6,a7⟩
    refine aC UF H H (RF (pP.aL y) (z.aL y) aB (by rw[K,p]) G a8 a6 a7) ?_
    rintro b1 ca ⟨x,F,rfl,aa,pF,ak,aq,am⟩
    have bu:=(ai.ai y).a2 aa (by have:=a.size;omega)
    have bb:=(W.aL y).kept aa (.inr (W.off (by have:=t.size;omega)))
    have bi:=pX.join G G (by rw[ak,K];omega) pF
    have aM:=(z.aL y).c3 aB aa
    obtain⟨aQ,cb,bj,bo,bd,ab,bG,bA,bR⟩:=bb.b9 aT (i:=i) G x
    refine bF H (bj _) (cZ H (bo) ?_)
    have bw:=bu.a2 ab (by have:=a.size;have:=ae.size;have:=t.size;omega)
    have bk:=bi.kept ab (λh=>by have:=cC h;have:=t.size;omega)
    have aN:=aM.c3 (by
     rcases az with h|h
     ·exact .inl h
     ·refine .inr λhe=>?_
      rw[h] at he
      have:=oV.lt aQ he
      omega) ab
    have a5:=aay (U:=X) (F:=F) (i:=i) (n:=k+3) G hz
    rw[cH] at aq am
    have M:=V5 (A:=val l*2^s) (P:=4294967296^i) (Q:=val (O.drop (i+1))) (V:=val m*2^s) av (by have:=en (X.take i);rwa [eS,iZ G] at this) (by rw[←gj];exact C) aq am
    rw[←a5,←Ia G] at M
    refine f (bE (al (ap (J H (an H (dM G G) (Z H (f (lj (i) (_) (_) (aP H) ⟨bw,bk,bd,aN,by simp[ak,K,a3];omega,by simpa using a0,dT,M.1,M.2⟩ G))))))))
   ·refine ce (aU (aU (cg (al (ah ?_)))))
    obtain rfl:j=0:=by omega
    rw[EW,rR,tt] at C
    rw[EW,nC] at c
    have ax:0<2^s:=lI G
    have hQ:val l/val m=val O:=by
     rw[←Nat.mul_div_mul_right _ _ ax,C,fw (val O),ET a2,pp c,lG]
    have hR:val X/2^s=val l%val m:=by
     have e1:val X=val l*2^s%(val m*2^s):=by rw[C,fw (val O),EU,eN c]
     rw[e1,Nat.mul_mod_mul_right,Nat.mul_div_cancel _ ax]
    refine ap (J H (J H (aC UI H H (RH pX.bL G G) ?_)))
    rintro b2 cc ⟨aF,bS,rfl,aK⟩
    refine J H (aZ H dm (aZ H dn (Z H (Z H (f (al (ah (ap (J H (aC jf H H (jz ((W.aL aF).bL)) ?_))))))))))
    rintro b3 _ ⟨rfl,aL⟩
    refine J H (Z H (Z H (Z H (f (al (aA (sW H ?_)))))))
    exact⟨_,H,(ai.ai aF),_,_,H,by rw[hQ];exact aL,by rw[←hR];exact aK⟩
theorem FY:aY Tryz.prog 226:=⟨_,Tryz.func226,am,rfl⟩
theorem UV:aY Tryz.prog 225:=⟨_,Tryz.func225,am,rfl⟩
theorem UD:aY Tryz.prog 307:=⟨_,Tryz.func307,am,rfl⟩
theorem wQ {m:Nat} (h:n≤m):(lb n).length≤(lb m).length:=by
 rcases jn (lb m).length (lb n).length with a|a
 ·have:=CR a;omega
 ·exact a
theorem Ff (M:aO l v w) (hu:aO m u w) (hl:l.length≤274877906944) (bH:m.length≤274877906944) (hm:0<val m):
 Calls Tryz.prog 226 #[v,u] w (aJ λr w'=>ao w w'∧∃q s,r=.tuple #[q,s,I 0]∧aO (lb (val l/val m)) q w'∧aO (lb (val l%val m)) s w'):=by
 refine enter Tryz.func226 H H H (ah (ap (Z H (Z H (Z H (f (al (ah (ap (J H (aC KY H H (JA M G) ?_)))))))))))
 rintro bm bZ ⟨A,aN⟩
 obtain⟨x,bx,rfl,aM⟩:∃(x:UInt64) (bx:Bool),bm=.tuple #[bk x,B bx]∧(bx=true→x.toNat=val l):=by
  rcases aN with⟨_,rfl⟩|⟨x,Q,rfl⟩
  ·exact⟨0,false,H,λh=>by cases h⟩
  ·exact⟨x,true,H,λ_=>Q⟩
 refine J H (aZ H dm (aZ H (dn) (Z H (Z H (f (al (ah (ap (J H (aC KY H H (JA (hu.aL A) G) ?_))))))))))
 rintro bo z ⟨X,aS⟩
 obtain⟨y,c,rfl,an⟩:∃(y:UInt64) (c:Bool),bo=.tuple #[bk y,B c]∧(c=true→y.toNat=val m):=by
  rcases aS with⟨_,rfl⟩|⟨y,R,rfl⟩
  ·exact⟨0,false,H,λh=>by cases h⟩
  ·exact⟨y,true,H,λ_=>R⟩
 refine J H (aZ H dm (aZ H (dn) ?_))
 have aq:c=true→¬y=0:=λh h0=>by
  have:=an h
  rw[h0] at this
  have e:(0:UInt64).toNat=0:=rfl
  omega
 refine Z H (Z H (f (al (ah (iS (λ_:Unit=>[(0,v),(1,u),(7,bk x),(8,B bx),(9,bk y),(10,B c)]) (λ_ w'=>z=w') ?_ ?_)))))
 ·refine ah ?_
  cases c
  ·refine ap (J H (J H (L H (L H (t H (f (al (be H (aH ?_)))))))))
   exact eu () (aP H) H
  ·refine ap (J H (J H (V H (J H (V H (U (v:=bk 0) H (aX (aq H) Dr) (bA H (f ?_))))))))
   refine al (be H (aH ?_))
   exact eu () (aP H) H
 rintro⟨⟩ _ rfl
 refine al (ah (iS (λ_:Unit=>[(0,v),(1,u)]) (λ_ w'=>z=w') ?_ ?_))
 ·refine ah ?_
  rcases bx with _|_<;>rcases c with _|_
  ·refine ap (J H (J H (L H (t H (f (al (be H (aH ?_))))))))
   exact eu () (aP H) H
  ·refine ap (J H (J H (L H (t H (f (al (be H (aH ?_))))))))
   exact eu () (aP H) H
  ·refine ap (J H (J H (V H (J H (bA H (f (al (be H (aH ?_)))))))))
   exact eu () (aP H) H
  ·have Q:=aM rfl
   have R:=an rfl
   have ar:=aq rfl
   refine ap (J H (J H (V H (J H (bA H (f (al (bT H (ah (cz 10 [4,5] am am (W H (W H (bn H (λw _=>Dz ar) (eh (S:=aO (lb (val l/val m))) Cm (aO.a3 _) H (λw P=>by rintro _ rfl;exact aJ.mono BT λv w' h=>⟨h.1,by have:=h.2;rwa [xZ,Q,R] at this⟩) (W H (W H (bn H (λw _=>DA ar) (eh (S:=aO (lb (val l%val m))) Cm (aO.a3 _) H (λw P=>by rintro _ rfl;exact aJ.mono BT λv w' h=>⟨h.1,by have:=h.2;rwa [ya,Q,R] at this⟩) (gK H (gK H (cq ?_)))))))))))))))))))))
   intro b9 bu bW b4 bX b5
   refine Z H (f (al (aA (aI (sW H ?_)))))
   exact⟨_,H,((A.ai X).ai bu),_,_,H,b4,b5⟩
 rintro⟨⟩ _ rfl
 refine al (ah (ap (J H (aW H (cI aT (M.aL (A.ai X))) ?_))))
 obtain⟨av,aw,a4,bt,a7,bK⟩:=tX iN (w:=z) z.heap.size (n:=l.length) G (bV _)
 refine sQ H a4 ?_
 obtain⟨bp,b0,a5,ay,a8,bL⟩:=mK aT (w:=aw) aw.heap.size [] aj (bV _)
 have e1:=((A.ai X).ai bt).ai ay
 refine dJ (vs:=[]) H a5 (Z H (Z H (f (al (ah (ah (ap (J H (aC UU H H (Sc (M.aL e1) G) ?_)))))))))
 rintro v46 b1 ⟨ae,rfl⟩
 have bG:bl (val l)≤32*l.length:=nD (by have:=en l;rwa [show(4294967296:Nat)^l.length=2^(32*l.length) by rw[rS]] at this)
 have ak:val l/2^bl (val l)=0:=by
  rcases fm (val l) with h|h
  ·rw[h];simp
  ·exact pp (yc h).2
 refine U H (dM G G) (Z H (f (al (aR (ob (λ(j:Nat) (O:List UInt32) (p:Value)=>[(0,v),(1,u),(11,av),(12,p),(13,I ((j:Int)-1))]) (λ(j:Nat) (O:List UInt32) (p:Value) w'=>ao w w'∧ej z.heap.size O av w'∧O.length=l.length∧aO (lb (val l/2^j%val m)) p w'∧j≤bl (val l)∧val O=2^j*(val l/2^j/val m)) (λ(j:Nat) (O:List UInt32) (p:Value)=>j) (bl (val l)) (List.replicate l.length 0) (bp) (aP H) ⟨(e1.ai ae),(a7.aL ay).aL ae,aj,by rw[ak,Nat.zero_mod];exact(a8.aL ae).bL,bV _,by rw[ak];simp[D5]⟩ ?_)))))
 rintro j O p w9 ⟨d,T,hO,br,hj,o⟩
 refine ah (ah (ap (J H (U H (eU) (f (al (bc H (λaL=>?_) (λaL=>?_))))))))
 ·obtain⟨i,rfl⟩:∃i,j=i+1:=⟨j-1,G⟩
  have e:((i+1:Nat):Int)-1=(i:Int):=G
  rw[e]
  have aV:i/32<l.length:=G
  have bI:(lb (val l/2^(i+1)%val m)).length≤m.length:=cf (wQ (zE (jV _ hm))) (gw (en m))
  obtain⟨bO,bi,bj⟩:=Zv (N:=val l) (i:=i) hm
  refine aH (al (ah (aR (ah (ap (J H ?_))))))
  have bC:=en m
  have bJ:=jV (val l/2^(i+1)) hm
  have ag:∀b,b≤1→(lb (2*(val l/2^(i+1)%val m)+b)).length≤m.length+1:=λb hb=>gw (by have e:(4294967296:Nat)^(m.length+1)=4294967296^m.length*4294967296:=gj ..;rw[e];have:=Cb m.length;omega)
  refine aC UY H H (Si (k:=1) br G G) ?_
  rintro v53 ax ⟨C,aD⟩
  refine Z H (f (al (ah (ap (J H (J H (J H (U (r:=I ((i/32:Nat):Int)) H (by have e:((i/32:Nat):Int)=(i:Int)/32:=G;rw[e];exact tf G G G) ?_))))))))
  obtain⟨bw,bb,bg⟩:=ei aT (M.aL (d.ai C)) (i:=(i/32:Nat)) G .i64
  refine bF H (bb _) (Y H (D bN H bg) (J H (U (r:=I ((i%32:Nat):Int)) H (by have e:((i%32:Nat):Int)=(i:Int)%32:=G;rw[e];exact xo G G) (U H (oz ((i%32:Nat)) G) (U (v:=bz 1) H (yQ) ?_)))))
  obtain⟨bP,b2,a6,F,a9,bM⟩:=mK aT (w:=ax) ax.heap.size [((((((l[(i/32:Nat)]))>>>UInt32.ofNat ((i%32:Nat))))&&&(1)))] aj (bV _)
  refine j3 (vs:=[(0,bz (((((((l[(i/32:Nat)]))>>>UInt32.ofNat ((i%32:Nat))))&&&(1)))))]) H H a6 (aC UT H H (Sb (aD.aL F) a9.bL (by rw[cH,Nat.pow_one,fw];have:=ag 0 G;rw[lG] at this;omega) aj) ?_)
  rintro bq b3 ⟨aa,g⟩
  rw[cH,cH,xy,Th aV,Nat.pow_one,fw] at g
  have x6:=(C.ai F).ai aa
  refine Z H (f (al (ah (ap (J H (J H (aC KV H H (Ju g (hu.aL (((d.ai C).ai F).ai aa))) ?_)))))))
  rintro bQ _ ⟨rfl,rfl⟩
  refine U H (eU) (f (al (bc H (λai=>?_) (λai=>?_))))
  ·have ab:val m≤val (lb (2*(val l/2^(i+1)%val m)+val l/2^i%2)):=vE λh=>by have:=uD.2 h;omega
   refine ah (ap (J H (J H (aC UZ H H (Sj g (hu.aL (((d.ai C).ai F).ai aa)) (by have:=ag (val l/2^i%2) G;omega) ab) ?_))))
   rintro bR b6 ⟨az,aG,rfl,K⟩
   rw[cH] at K ab
   obtain⟨rm,rq⟩:=bi ab
   rw[←rm] at K
   have ad:=(T.aL x6).aL az
   obtain⟨aK,_,bf,_,_,_,_,_,au⟩:=ad.b9 iN (i:=i/32) G (O[i/32]'G|||(1:UInt32)<<<UInt32.ofNat (i%32))
   refine J H (aZ H (dm) (aZ H dn (Z H (f (al (cz 10 [0,1,11,12,13,84,85] am am (W H (W H (bn (r:=I ((i/32:Nat):Int)) H (λw _=>by have e:((i/32:Nat):Int)=(i:Int)/32:=G;rw[e];exact tf G G G) ?_)))))))))
   obtain⟨bB,bd,bh⟩:=ei iN ad.bL (i:=(i/32:Nat)) G .i64
   refine cF H (λw _=>bd w) (aQ H (λw P=>D bN H (P.a0 bh)) (W H (bn (r:=I ((i%32:Nat):Int)) H (λw _=>by have e:((i%32:Nat):Int)=(i:Int)%32:=G;rw[e];exact xo G G) (bn (u:=bz 1) H (λw _=>uV ((i%32:Nat)) G) (bn H (λw _=>tY) (cF H (λw P=>bf w) (cq ?_)))))))
   rintro b8 af _ a0
   obtain rfl:=bU a0
   rintro _ a1
   obtain rfl:=bU a1
   rintro _ a2
   obtain rfl:=bU a2
   rintro _ a3
   obtain rfl:=bU a3
   rintro _ rfl _ rfl _ rfl
   obtain⟨g',w',p',s',o',q',bD,c',ba⟩:=(ad.aL af).b9 iN (i:=i/32) G (O[i/32]'G|||(1:UInt32)<<<UInt32.ofNat (i%32))
   obtain rfl:aK=g':=cC (au.symm.ai ba)
   refine cZ H (s') ?_
   have bs:=(((d.ai x6).ai az).ai af).a2 q' (by have:=A.size;have:=X.size;omega)
   have sb:=ZY (a:=O) (i:=i) G o
   have aF:=((K.aL af).kept q' (.inr (K.off (by have:=T.lt _ au;have:=x6.size;omega)))).bL
   refine f (bE (al (ap (J H (U H (dM G G) (Z H (f (lj (i) (_) (aG) (aP H) ⟨bs,o',by simpa using hO,aF,G,by rw[sb,o,rq,gj,fu,f6,rR]⟩ G))))))))
  ·have aY:2*(val l/2^(i+1)%val m)+val l/2^i%2<val m:=by
    rcases jn (2*(val l/2^(i+1)%val m)+val l/2^i%2) (val m) with h|h
    ·exact h
    ·refine absurd ?_ ai
     rw[cH]
     have:¬mY (2*(val l/2^(i+1)%val m)+val l/2^i%2) (val m)<0:=λh'=>by have:=uD.1 h';omega
     omega
   obtain⟨rm,rq⟩:=bj aY
   rw[←rm] at g
   refine aH (bE (al (ap (J H (U H (dM G G) (Z H (f (lj (i) (O) (bq) (aP H) ⟨(((d.ai C).ai F).ai aa),T.aL x6,hO,g,G,by rw[o,rq,gj,fu]⟩ G))))))))
 ·refine ce (aU (aU (cg (al (ah ?_)))))
  obtain rfl:j=0:=by omega
  rw[EW,vC,nC] at o
  rw[EW,vC] at br
  refine ap (J H (aC qP H H (rX T.bL G) ?_))
  rintro bS b7 ⟨aB,aE⟩
  refine J H (Z H (Z H (Z H (f (al (aA (sW H ?_)))))))
  exact⟨_,H,(d.ai aB),_,_,H,by rw[←o];exact aE,br.aL aB⟩
theorem Sd (A:aO l v w) (z:aO m u w) (F:l.length≤274877906944) (M:m.length≤274877906944):
 Calls Tryz.prog 225 #[v,u] w (aJ λr w'=>ao w w'∧aO (lb (Nat.gcd (val l) (val m))) r w'):=by
 refine enter Tryz.func225 H H H ?_
 have L:=gw (en l)
 have N:=gw (en m)
 refine ah (ap (Z H (f (al (ah (ap (J H (aC qP H H (rX A G) ?_))))))))
 rintro v9 R ⟨t,y⟩
 refine J H (aC qP H H (rX (z.aL t) G) ?_)
 rintro C P ⟨p,x⟩
 refine Z H (Z H (f (al (ah (aR (pv (λ(a:Nat) (b:Nat) (va:Value) (c:Value)=>[(0,va),(1,c)]) (λ(a:Nat) (b:Nat) (va:Value) (c:Value) w'=>ao w w'∧aO (lb a) va w'∧aO (lb b) c w'∧Nat.gcd a b=Nat.gcd (val l) (val m)∧(lb a).length≤274877906944∧(lb b).length≤274877906944) (λ(a:Nat) (b:Nat) (va:Value) (c:Value)=>b) (val l) (val m) (v9) (C) (aP H) ⟨(t.ai p),y.aL p,x,H,G,G⟩ ?_))))))
 rintro a b va c w2 ⟨i,k,e,n,K,o⟩
 refine ah (ah (ap (J H (aW (r:=I ((lb b).length:Int)) H (cI aT e) (U H (cY) (f (al (bc H (λj=>?_) (λj=>?_)))))))))
 ·have d:0<b:=by
   rcases fm b with h|h
   ·subst h;simp[nh] at j
   ·exact h
  refine aH (al (aR (ah (ap (J H (J H (aC FY H H (Ff k e G G (by rw[cH];exact d)) ?_)))))))
  rintro O Q ⟨s,q,r,rfl,D,g⟩
  rw[cH,cH] at g
  refine J H (aZ H ov (aZ H (ow) (aZ H ox (Z H (Z H (Z H (f (al (ap (J H (J H (Z H (Z H (f (bE (nK (b) (a%b) (c) (r) (aP H) ⟨(i.ai s),e.aL s,g,by rw[←n,vD b,←Nat.gcd_rec,vD],o,cf (wQ (zE (jV a d))) o⟩ (jV a d)))))))))))))))))
 ·refine ce (aU (aU (cg (al (ah (ap (J H (Z H (f (al (aA (aM H ?_))))))))))))
  exact⟨_,H,i,by
   have d:b=0:=by
    refine lh.1 ?_
    omega
   rw[←n,d,Jk];exact k⟩
theorem RD (V:aO l v w) (T:aO m u w) (hl:l.length≤274877906944) (ar:m.length≤274877906944):
 Calls Tryz.prog 307 #[v,u] w (aJ λr w'=>ao w w'∧aO (lb (Nat.gcd (val l) (val m))) r w'):=by
 refine enter Tryz.func307 H H H ?_
 have aq:=gw (en l)
 have au:=gw (en m)
 refine ah (ap (Z H (f (al (ah (ap (J H (aC jf H H (jz V) ?_))))))))
 rintro ab _ ⟨rfl,P⟩
 refine J H (aC jf H H (jz T) ?_)
 rintro ad _ ⟨rfl,Q⟩
 refine Z H (Z H (f (al (ah (aR (pv (λ(a:Nat) (b:Nat) (va:Value) (i:Value)=>[(0,va),(1,i)]) (λ(a:Nat) (b:Nat) (va:Value) (i:Value) w'=>ao w w'∧aO (lb a) va w'∧aO (lb b) i w'∧Nat.gcd a b=Nat.gcd (val l) (val m)∧(lb a).length≤274877906944∧(lb b).length≤274877906944) (λ(a:Nat) (b:Nat) (va:Value) (i:Value)=>b) (val l) (val m) (ab) (ad) (aP H) ⟨ao.refl _,P,Q,H,G,G⟩ ?_))))))
 rintro a b va i w2 ⟨o,s,g,t,an,L⟩
 refine ah (ah (ap (J H (aW (r:=I ((lb b).length:Int)) H (cI aT g) (U H (cY) (f (al (bc H (λC=>?_) (λC=>?_)))))))))
 ·have d:0<b:=by
   rcases fm b with h|h
   ·subst h;simp[nh] at C
   ·exact h
  refine aH (al (aR (ah (ap (J H (J H (aC Af H H (zB s g G G (by rw[cH];exact d)) ?_)))))))
  rintro av aB ⟨N,q,r,rfl,S,k⟩
  rw[cH,cH] at k
  refine J H (aZ H ov (aZ H (ow) (aZ H ox (Z H (Z H (Z H (f (al (ap (J H (J H (Z H (Z H (f (bE (nK (b) (a%b) (i) (r) (aP H) ⟨(o.ai N),g.aL N,k,by rw[←t,vD b,←Nat.gcd_rec,vD],L,cf (wQ (zE (jV a d))) L⟩ (jV a d)))))))))))))))))
 ·refine ce (aU (aU (cg (al (ah (ah (ap (J H (aW (r:=I ((lb b).length:Int)) H (cI aT g) ?_)))))))))
  refine U H (aV) (f (al (bc H (λD=>?_) (λD=>?_))))
  ·have d:b=0:=by
    refine lh.1 ?_
    omega
   refine ah (ap (J H (aC Ag H H (zC s G) ?_)))
   rintro aw aD ⟨ag,z⟩
   refine Z H (f (al (aA (aI (aM H ?_)))))
   exact⟨_,H,(o.ai ag),by
    rw[cH] at z
    rw[←t,d,Jk];exact z⟩
  ·have d:0<b:=by
    rcases fm b with h|h
    ·subst h;simp[nh] at D
    ·exact h
   have ak:b<18446744073709551616:=by
    have:=en (lb b)
    rw[cH] at this
    have h2:(4294967296:Nat)^(lb b).length≤4294967296^2:=lH G G
    omega
   refine aH (al (ah (ap (J H (J H (aC Af H H (zB s g G G (by rw[cH];exact d)) ?_))))))
   rintro ax aE ⟨O,q,r,rfl,S,k⟩
   rw[cH,cH] at k
   refine J H (aZ H ov (aZ H (ow) (aZ H ox (Z H (Z H (Z H (f (al (ah (ap (J H (aC FT H H (EP (g.aL O)) ?_))))))))))))
   rintro ae _ ⟨rfl,F⟩
   obtain⟨x,X,rfl⟩:∃x:UInt64,x.toNat=b∧ae=.tuple #[bk x,B true]:=by
    rw[cH] at F
    rcases F with⟨h,_⟩|h
    ·omega
    ·exact h
   refine J H (aZ H dm (aZ H dn (Z H (Z H (f (al (ah (ap (J H (aC FT H H (EP k) ?_))))))))))
   rintro af _ ⟨rfl,K⟩
   obtain⟨y,Y,rfl⟩:∃y:UInt64,y.toNat=a%b∧af=.tuple #[bk y,B true]:=by
    have:=jV a d
    rw[cH] at K
    rcases K with⟨h,_⟩|h
    ·omega
    ·exact h
   refine J H (aZ H dm (aZ H dn (Z H (Z H (f (al (ah (aR (fp (λ(j:UInt64) (c:UInt64)=>[(11,bk j),(13,bk c)]) (λ(j:UInt64) (c:UInt64) w'=>ao w w'∧Nat.gcd j.toNat c.toNat=Nat.gcd (val l) (val m)) (λ(j:UInt64) (c:UInt64)=>c.toNat) (x) (y) (aP H) ⟨(o.ai O),by rw[X,Y,←t,vD b,←Nat.gcd_rec,vD]⟩ ?_)))))))))
   rintro j c az ⟨A,M⟩
   refine ah (ah (ap (J H (U (v:=bk 0) H (oy) (f (al (bc H (λp=>?_) (λp=>?_))))))))
   ·have n:0<c.toNat:=wH.1 p
    have aa:c≠0:=λh=>by
     rw[h] at n
     exact absurd n aF
    refine aH (al (aR (cz 5 [11,58] am am (W H (W H (W H (bn H (λw _=>DA aa) (gK H (cq ?_)))))))))
    rintro aK aj _ rfl _ rfl
    refine Z H (f (bE (eI (c) (j%c) (aP H) ⟨(A.ai aj),by rw[ya,←M,vD c.toNat,←Nat.gcd_rec,vD]⟩ (by rw[ya];exact jV _ n))))
   ·have n:c.toNat=0:=by
     have:=mt wH.2 p
     have e:(0:UInt64).toNat=0:=rfl
     omega
    refine ce (aU (aU (cg (al (ah (ap (J H (aC Ah H H (zD) ?_))))))))
    rintro ay aG ⟨ai,R⟩
    refine Z H (f (al (aA (aM H ?_))))
    exact⟨_,H,(A.ai ai),by rw[←M,n,Jk];exact R⟩
section
variable {P:Program} {w w':World} {t e T:TypeId} {n g o:Nat} {l:List Value}
def bm (g:Nat) (T:TypeId) (l:List Value) (w:World):Prop:=w.heap[g]? =some (.cells l.toArray T (0,0))
theorem bm.aL (h:bm g T l w) (a:ao w w'):bm g T l w':=a.bM h
theorem bm.lt (h:bm g T l w):g<w.heap.size:=(jB.1 h).1
theorem bm.a4 {a:Option Nat} (h:bm g T l w) (b:w.grownBy w' a) (c:some g≠a):bm g T l w':=(b.block g h.lt c).ai h
theorem bm.cell (h:bm g T l w) {i:Nat} {v:Value} (hi:l[i]? =some v):w.cell? ⟨g,i,none⟩=some v:=qR h (by simpa using hi)
theorem bm.set (h:bm g T l w) (i:Nat) (u:Value):bm g T (l.set i u) (w.setCell ⟨g,i,none⟩ u):=by
 have:=yC h i u
 simpa [bm] using this
theorem bm.new (v:Value) (a:v.cells=l.toArray):bm w.heap.size T l (w.alloc (.cells v.cells T)):=by
 have:=heap_alloc_new w (.cells v.cells T)
 rw[a] at this⊢
 exact this
theorem bm.range (h:bm g T l w) {m:List Value} (hm:∀j v,m[j]? =some v→l[o+j]? =some v):w.rangeAt g o m:=λj v a=>h.cell (hm j v a)
theorem yW (a:P.underlying t=some (.array n e)) (hs:(P.info? e).map (·.size)=some 1) (hi:i<n) (k:IntKind):
 (Instr.indexAt t (.pointer (some ⟨g,o,none⟩)) (.int k i)).run P w=.ok (.pointer (some ⟨g,o+i,none⟩)) w:=by
 simp[Instr.indexAt,asIntOf,run_underlying a,Instr.sureAddr,pY hs,hi,Addr.add_mid]
theorem Hi (d:P.underlying t=some (.array n e)) (hs:(P.info? e).map (·.size)=some 1) {q:IntKind} (b:P.underlying e=some (.int q)) (hi:i<n) (k:IntKind) (f:l[i]? =some v):
 (Instr.index t (.agg l.toArray) (.int k i)).run P w=.ok v w:=by
 have a:(isAgg e).run P w=.ok false w:=by simp[isAgg,run_underlying b]
 have c:(part e l.toArray i).run P w=.ok v w:=by simp[part,a,f]
 simp[Instr.index,asIntOf,run_underlying d,hi,pY hs,c]
theorem xn {d:TypeDesc} {m:List Value} (h:bm g T l w) (hm:∀j v,m[j]? =some v→l[o+j]? =some v) (b:P.underlying t=some d) (a:d.isRow=true) (hi:(P.info? t).map (·.size)=some m.length):
 (Instr.loadAt t (.pointer (some ⟨g,o,none⟩))).run P w=.ok (.agg m.toArray) w:=run_loadAt_mid w g o t m d (h.range hm) b a hi
theorem uW {m:List Value} (h:bm g T l w) (b:l.length=m.length) (hi:(P.info? t).map (·.size)=some m.length) (a:∀v∈m,v.oneCell'=true):
 (Instr.storeAt t (.pointer (some ⟨g,0,none⟩)) (.agg m.toArray)).run P w=.ok () (w.setRow g m.toArray):=by
 have:=run_storeVar_row (P:=P) w g T t l.toArray m.toArray h (by simpa using hi) (by simpa using b) (by simpa using a)
 simp only[Instr.storeAt,Instr.sureAddr,Sem.run_bind,Sem.run_pure,Result.andThen_ok,this]
theorem bm.row (h:bm g T l w) (m:List Value):bm g T m (w.setRow g m.toArray):=setRow_heap w g _ _ T (0,0) h
theorem pD (w:World) (g:Nat) (cs:Array Value):w.grownBy (w.setRow g cs) (some g):=
 ⟨rfl,rfl,rfl,by simp[World.setRow],λk _ a=>setRow_other w g k cs λe=>a (by rw[e])⟩
theorem Za (c:P.underlying t=some (.array n e)) (hs:(P.info? e).map (·.size)=some 1) {lo:Nat} (hi:lo<n) (k:IntKind):
 (Instr.sliceAt t (.pointer (some ⟨g,o,none⟩)) (some (.int k lo)) none none).run P w=.ok (.slice (some ⟨g,o+lo,none⟩) (n-lo) (n-lo)) w:=by
 have a:(Instr.sliceBounds false n n (some (.int k lo)) none none).run P w=.ok (lo,n,n) w:=by
  have a2:=run_sliceBound (P:=P) (w:=w) k (lo:Int) n .sliceB G G
  simp only[kP] at a2
  simp[Instr.sliceBounds,a2]
 have b:¬n=lo:=G
 simp[Instr.sliceAt,run_underlying c,Instr.sureAddr,a,pY hs,b,Addr.add_mid]
theorem pW {R:Ending→World→Prop} {fr:Fr} {p:Tmp} {d:TypeDesc} (f:fn.results= #[.cell p t]) (j:lk fr p=some (.pointer (some ⟨g,0,none⟩))) (c:bm g T l w) (i:P.underlying t=some d) (e:d.isRow=true) (hi:(P.info? t).map (·.size)=some l.length)
 (h:R (.returned (.agg l.toArray)) w):gZ (bodyPost P fn R) N [] fr w .ret:=λa b=>
 ⟨b.defers,.agg l.toArray,results_cell_row f a.tmps w g T l.toArray (0,0) d (b.at_ p _ j) c i (by cases d<;>first|rfl|exact e) (by simpa using hi),h⟩
theorem De (m:List UInt32):∀v∈m.map bz,v.oneCell'=true:=by
 intro u a
 obtain⟨b,_,rfl⟩:=fF.1 a
 rfl
end
theorem iW {t:TypeId} {l:List Value} (h:(P.info? t).map (·.zero)=some (some z)) (a:z.cells=l.toArray):∃g w',(Instr.alloc t true (.tuple #[])).run P w=.ok (.pointer (some ⟨g,0,none⟩)) w'∧w.heap.size≤g∧ao w w'∧bm g t l w':=
 ⟨_,_,Dn h,bV _,ao.new w _,bm.new z a⟩
def rB:Nat→Nat→List UInt8
 |0,n=>[UInt8.ofNat n]
 |f+1,n=>if 128≤n then UInt8.ofNat (n%128+128)::rB f (n/128) else[UInt8.ofNat n]
def uv (n:Nat):List UInt8:=rB n n
theorem PE:∀(f g n:Nat),n≤f→n≤g→rB f n=rB g n
 |0,0,n,_,_=>rfl
 |0,g+1,n,h,_=>by
  obtain rfl:n=0:=by omega
  simp[rB]
 |f+1,0,n,_,h=>by
  obtain rfl:n=0:=by omega
  simp[rB]
 |f+1,g+1,n,hf,hg=>by
  simp only[rB]
  by_cases h:128≤n
  ·rw[if_pos h,if_pos h,PE f g (n/128) G G]
  ·rw[if_neg h,if_neg h]
theorem Bo (h:128≤n):uv n=UInt8.ofNat (n%128+128)::uv (n/128):=by
 unfold uv
 cases n with
 |zero=>omega
 |succ m=>
  have e:rB (m+1) (m+1)=if 128≤m+1 then UInt8.ofNat ((m+1)%128+128)::rB m ((m+1)/128) else[UInt8.ofNat (m+1)]:=rfl
  rw[e,if_pos h,PE m ((m+1)/128) ((m+1)/128) G G]
theorem ze (h:n<128):uv n=[UInt8.ofNat n]:=by
 unfold uv
 cases n with
 |zero=>rfl
 |succ m=>
  have e:rB (m+1) (m+1)=if 128≤m+1 then UInt8.ofNat ((m+1)%128+128)::rB m ((m+1)/128) else[UInt8.ofNat (m+1)]:=rfl
  rw[e,if_neg G]
theorem PF:∀(k n:Nat),n<128^(k+1)→(uv n).length≤k+1
 |0,n,h=>by rw[ze (by simpa using h)];simp
 |k+1,n,h=>by
  by_cases a:128≤n
  ·rw[Bo a]
   have:=PF k (n/128) (by rw[xO G];rw[gj] at h;exact h)
   simp;omega
  ·rw[ze G];simp
theorem rD (h:n<18446744073709551616):(uv n).length≤10:=PF 9 n (eT h aF)
theorem H7 (n:Nat):1≤(uv n).length:=by
 by_cases h:128≤n
 ·rw[Bo h];simp
 ·rw[ze G];simp
theorem WE (n:UInt64):n.toUInt8|||128=UInt8.ofNat (n.toNat%128+128):=by
 apply UInt8.toNat_inj.1
 have h:∀a:Nat,a<256→a|||128=a%128+128:=by decide+kernel
 rw[UInt8.toNat_or,Ft,UInt64.toNat_toUInt8]
 have:=h (n.toNat%256) G
 show n.toNat%256|||128=_
 rw[this];omega
theorem Xs (n:UInt64):n.toUInt8=UInt8.ofNat n.toNat:=by
 apply UInt8.toNat_inj.1
 rw[Ft,UInt64.toNat_toUInt8]
theorem O7 (n:UInt64):(n>>>UInt64.ofNat 7).toNat=n.toNat/128:=by
 rw[BZ,rU]
 rfl
def oE:Nat→Nat→List UInt8→Option (Nat×List UInt8)
 |0,_,_=>none
 |_+1,_,[]=>none
 |f+1,k,c::l=>
  if (k=9∧1<c.toNat)∨(0<k∧c.toNat=0) then none
  else if c.toNat<128 then some (c.toNat*128^k,l)
  else(oE f (k+1) l).map λp=>(p.1+(c.toNat%128)*128^k,p.2)
def eY (l:List UInt8):Option (Nat×List UInt8):=oE 10 0 l
theorem Zt (f k:Nat):oE f k []=none:=by cases f<;>rfl
theorem Ko (n:Nat) (h:n<256):(UInt8.ofNat n).toNat=n:=by rw[Ft];omega
theorem OG:∀(f k n:Nat) (t:List UInt8),f+k=10→n<128^f→(k≤9→n*128^k<18446744073709551616)→0<f→(0<k→0<n)→
 oE f k (uv n++t)=some (n*128^k,t)
 |0,_,_,_,_,_,_,h,_=>by omega
 |f+1,k,n,t,hfk,hn,c,_,m=>by
  by_cases j:128≤n
  ·rw[Bo j,nU]
   have a:(UInt8.ofNat (n%128+128)).toNat=n%128+128:=Ko _ G
   have d:k≠9:=λb=>by
    subst b
    have:f=0:=G
    subst this
    simp at hn
    omega
   have l:0<f:=G
   simp only[oE,a]
   rw[if_neg G,if_neg G]
   have p:n/128<128^f:=by rw[xO G];rw[gj] at hn;exact hn
   have g:128^(k+1)=128^k*128:=gj ..
   have hm:n/128*128≤n:=Nat.div_mul_le_self n 128
   have o:n/128*128^(k+1)≤n*128^k:=by
    rw[g,fw (128^k) 128,←fu]
    exact fH _ hm
   rw[OG f (k+1) (n/128) t G p (λ_=>nA o (c G)) l (λ_=>by omega)]
   simp only[n9,Option.some.injEq,Prod.mk.injEq,vP]
   have i:(n%128+128)%128=n%128:=G
   rw[i,g,fw (128^k) 128,←fu,←fk]
   congr 1
   omega
  ·rw[ze G,nU]
   have a:(UInt8.ofNat n).toNat=n:=Ko _ G
   simp only[oE,a,qB]
   have d:¬(k=9∧1<n):=λ⟨b,q⟩=>by
    subst b
    have:=c G
    have e:(128:Nat)^9=9223372036854775808:=aF
    rw[e] at this
    omega
   rw[if_neg (by intro h;rcases h with h|h;exact d h;have:=m h.1;omega),if_pos G]
theorem HE (h:n<18446744073709551616) (t:List UInt8):eY (uv n++t)=some (n,t):=by
 have:=OG 10 0 n t rfl (eT h aF) (by simpa using h) G G
 simpa [eY] using this
theorem OF:∀(f k:Nat) (l t:List UInt8) (m:Nat),f+k=10→oE f k l=some (m,t)→∃n,m=n*128^k∧l=uv n++t∧(0<k→0<n)∧n*128^k<18446744073709551616
 |0,_,_,_,_,_,h=>by cases h
 |f+1,k,[],_,_,_,h=>by cases h
 |f+1,k,c::l,t,m,hfk,h=>by
  simp only[oE] at h
  have A:=c.toNat_lt
  split at h
  ·cases h
  ·rename_i F
   split at h
   ·rename_i w
    simp only[Option.some.injEq,Prod.mk.injEq] at h
    refine⟨c.toNat,h.1.symm,?_,λg=>by omega,?_⟩
    ·rw[ze w,←h.2]
     simp
    ·have g:k≤9:=G
     rcases jn k 9 with r|r
     ·have:c.toNat*128^k≤127*128^8:=gi G (lH G G)
      have e:127*128^8<18446744073709551616:=aF
      omega
     ·have:k=9:=G
      subst this
      have e:(128:Nat)^9=9223372036854775808:=aF
      rw[e];omega
   ·rename_i C
    cases a:oE f (k+1) l with
    |none=>rw[a] at h;cases h
    |some p=>
     rw[a] at h
     simp only[n9,Option.some.injEq,Prod.mk.injEq] at h
     obtain⟨n,j,o,q,b⟩:=OF f (k+1) l p.2 p.1 G (by rw[a])
     have D:0<n:=q G
     have i:128^(k+1)=128*128^k:=by rw[gj,fw]
     have u:(n*128+c.toNat%128)/128=n:=G
     have x:(n*128+c.toNat%128)%128+128=c.toNat:=G
     refine⟨n*128+c.toNat%128,?_,?_,λ_=>by omega,?_⟩
     ·rw[←h.1,j,i,fk,←fu]
     ·rw[Bo G,u,x,nU,←h.2,←o]
      simp
     ·have g:k+1≤9:=by
       rcases jn f 1 with v|v
       ·have:f=0:=G
        subst this
        cases a
       ·omega
      have s:n*128^(k+1)=n*128*128^k:=by rw[i,←fu]
      rw[s] at b
      have d:18446744073709551616=128^k*(18446744073709551616/128^k):=by
       have:k=0∨k=1∨k=2∨k=3∨k=4∨k=5∨k=6∨k=7∨k=8:=G
       rcases this with rfl|rfl|rfl|rfl|rfl|rfl|rfl|rfl|rfl<;>decide
      have H:18446744073709551616/128^k=128*(18446744073709551616/128^k/128):=by
       have:k=0∨k=1∨k=2∨k=3∨k=4∨k=5∨k=6∨k=7∨k=8:=G
       rcases this with rfl|rfl|rfl|rfl|rfl|rfl|rfl|rfl|rfl<;>decide
      have y:0<128^k:=lI G
      rw[d,fw] at b
      have z:n*128<18446744073709551616/128^k:=Nat.lt_of_mul_lt_mul_left b
      rw[d,fw]
      exact Nat.mul_lt_mul_of_pos_left G y
theorem yZ {l t:List UInt8} (h:eY l=some (n,t)):l=uv n++t∧n<18446744073709551616:=by
 obtain⟨m,a,c,_,b⟩:=OF 10 0 l t n rfl h
 simp at a b
 subst a
 exact⟨c,b⟩
theorem Yi {acc:UInt64} {c:UInt8} (i:acc.toNat<128^k) (m:k≤9) (g:k=9→c.toNat%128≤1):
 (acc|||((c&&&127).toUInt64<<<UInt64.ofNat (7*k))).toNat=acc.toNat+(c.toNat%128)*128^k:=by
 have a:2^(7*k)=128^k:=by rw[rS]
 have b:(c&&&127).toUInt64.toNat=c.toNat%128:=by
  rw[UInt8.toNat_toUInt64,UInt8.toNat_and]
  exact Nat.and_two_pow_sub_one_eq_mod c.toNat 7
 have j:(c.toNat%128)*128^k<18446744073709551616:=by
  rcases jn k 9 with h|h
  ·have l:(c.toNat%128)*128^k≤127*128^8:=gi G (lH G G)
   have e:127*128^8<18446744073709551616:=aF
   omega
  ·have f:k=9:=G
   subst f
   have:=g rfl
   have e:(128:Nat)^9=9223372036854775808:=aF
   rw[e];omega
 have d:((c&&&127).toUInt64<<<UInt64.ofNat (7*k)).toNat=(c.toNat%128)<<<(7*k):=by
  rw[Fq,b]
  have:(UInt64.ofNat (7*k)).toNat%64=7*k:=by rw[jo];omega
  rw[this,rT,a]
  exact eN j
 rw[UInt64.toNat_or,d,xT,←EX (by rw[a];exact i),rT,a]
 omega
def vm (n:Int):Nat:=if 0≤n then(2*n).toNat else(-2*n-1).toNat
theorem X5 (n:Int):(UInt64.ofInt n).toNat=(n%18446744073709551616).toNat:=by
 have a:(2:Int)^64=18446744073709551616:=aF
 rw[UInt64.ofInt,a,jo];omega
theorem aaX {n:Int} (g: -9223372036854775808≤n) (h:n≤9223372036854775807):
 ((UInt64.ofInt n<<<UInt64.ofNat 1)^^^UInt64.ofInt (n/2^63)).toNat=vm n:=by
 have d:(2:Int)^63=9223372036854775808:=aF
 have es:(UInt64.ofInt n<<<UInt64.ofNat 1).toNat=(UInt64.ofInt n).toNat*2%18446744073709551616:=by
  rw[Fq,rT];rfl
 rw[X5] at es
 unfold vm
 by_cases e:0≤n
 ·have b:n/2^63=0:=by rw[d];omega
  have c:UInt64.ofInt (n/2^63)=0:=by rw[b];rfl
  rw[c,UInt64.xor_zero,es,if_pos e];omega
 ·have b:n/2^63= -1:=by rw[d];omega
  have c:UInt64.ofInt (n/2^63)= -1:=by rw[b];rfl
  rw[c,if_neg e]
  have f:∀a:UInt64,a^^^(-1)= ~~~a:=λa=>by
   apply UInt64.toBitVec_inj.1
   rw[UInt64.toBitVec_xor,UInt64.toBitVec_not]
   have:(-1:UInt64).toBitVec=BitVec.allOnes 64:=aF
   rw[this,BitVec.xor_allOnes]
  rw[f,UInt64.toNat_not,es]
  have:UInt64.size=18446744073709551616:=rfl
  omega
theorem Qc {n:Int} (a: -9223372036854775808≤n) (b:n≤9223372036854775807):vm n<18446744073709551616:=by
 unfold vm;split<;>omega
theorem Aa:aY Tryz.prog 103:=⟨_,Tryz.func103,am,rfl⟩
theorem F7:aY Tryz.prog 188:=⟨_,Tryz.func188,am,rfl⟩
theorem TF:aY Tryz.prog 97:=⟨_,Tryz.func97,am,rfl⟩
theorem TD:aY Tryz.prog 98:=⟨_,Tryz.func98,am,rfl⟩
theorem zk {l:List UInt8} (d:cV l v w) (i:l.length≤140737488355328):
 Calls Tryz.prog 103 #[v] w (aJ λr w'=>ao w w'∧eH w.heap.size l r w'):=by
 obtain⟨A,n,c,rfl,x,u,j,t,m⟩:=id d
 refine enter Tryz.func103 H H H (ah (ap (Z H (f (al (ah (ah (ap (J H (U H (Ds iB) (f (al (lQ H (λh=>?_) (λh=>?_))))))))))))))
 ·refine ah (ap (Z H (f (al (aA (aI ?_))))))
  refine aM H ?_
  have e:A=none:=by simpa using h
  have:=m e
  have k:l=[]:=gT (by simp at j;omega)
  subst k
  exact⟨_,H,ao.refl _,eH.nil _ _⟩
 ·refine aH (al (ah (ap ?_)))
  obtain⟨y,C,p,a,b,s⟩:=uR (w:=w) w.heap.size [] aj (bV _)
  refine dJ H p (J H ?_)
  obtain⟨z,D,q,o,g⟩:=uP (ty:=28) b (d.aL a) (by simpa using i) a.size
  refine dW H q (Z H (f (al (aA (aM H ?_)))))
  exact⟨_,H,a.a6 g b.ge,o⟩
theorem H8 {base:Nat} {l:List UInt8} {n:UInt64} (y:eH base l v w) (D:l.length≤70368744177664) (t:base≤w.heap.size):
 Calls Tryz.prog 188 #[v,bk n] w (aJ λr w'=>eH base (l++uv n.toNat) r w'∧d9 w w' v r):=by
 refine enter Tryz.func188 H H H (ah (ap (Z H (f (al (ah (aR (eg (α:=Value×UInt64×List UInt8) (λx=>[(0,x.1),(1,bk x.2.1)]) (λx w'=>eH base x.2.2 x.1 w'∧d9 w w' v x.1∧x.2.2++uv x.2.1.toNat=l++uv n.toNat) (λx=>x.2.1.toNat) (v,n,l) (aP H) ⟨y,d9.a8 (ao.refl w) (.inl H),H⟩ ?_))))))))
 rintro⟨b,m,done⟩ w1 ⟨g,d,c⟩
 dsimp only at g d c
 have C:done.length≤l.length+10:=by
  have:=aB List.length c
  simp only[cr] at this
  have:=rD (n:=n.toNat) n.toNat_lt
  omega
 have q:base≤w1.heap.size:=cf t d.grown.size
 refine ah (ah (ap (J H (U (v:=bk 128) H (Bc) (f (al (bc H (λh=>?_) (λh=>?_))))))))
 ·have e:128≤m.toNat:=by simpa [vM] using h
  refine aH (al (ah (aR (ap (J H (J H (cJ H (Ht cU fo) (U (v:=U8 128) H (Y5) ?_))))))))
  obtain⟨z,w2,o,a,j,_⟩:=uR (w:=w1) w1.heap.size [m.toUInt8|||128] aj (bV _)
  refine dJ H o ?_
  obtain⟨s,A,p,k,i⟩:=uP (ty:=28) (g.aL a) j.b8 dT (cf q a.size)
  refine dW H p (Z H (f (bE (al (ap (J H (U H (j6 7 G) (Z H (f (ew (s,m>>>UInt64.ofNat 7,done++[m.toUInt8|||128]) (aP H) ⟨k,d.ai (d9.before a i),?_⟩ ?_))))))))))
  ·show done++[m.toUInt8|||128]++uv (m>>>UInt64.ofNat 7).toNat=_
   rw[←c,Bo e,WE,O7];simp
  ·show(m>>>UInt64.ofNat 7).toNat<m.toNat
   rw[O7];omega
 ·have e:m.toNat<128:=by
   have:¬(128≤m.toNat):=λu=>h (by show(128:UInt64)≤m;rw[vM];exact u)
   omega
  refine ce (aU (aU (cg (al (ah (ap (J H (J H (cJ H (Ht cU fo) ?_)))))))))
  obtain⟨z,w2,o,a,j,_⟩:=uR (w:=w1) w1.heap.size [m.toUInt8] aj (bV _)
  refine dJ H o ?_
  obtain⟨s,A,p,k,i⟩:=uP (ty:=28) (g.aL a) j.b8 dT (cf q a.size)
  refine dW H p (Z H (f (al (aA (aM H (⟨_,H,?_,d.ai (d9.before a i)⟩))))))
  rw[←c,ze e,←Xs]
  exact k
theorem Qn {l:List UInt8} {n:UInt64} (g:cV l v w) (d:l.length≤70368744177664):
 Calls Tryz.prog 97 #[v,bk n] w (aJ λr w'=>ao w w'∧eH w.heap.size (l++uv n.toNat) r w'):=by
 refine enter Tryz.func97 H H H (ah (ap (Z H (f (al (ah (ap (J H (aC Aa H H (zk g G) ?_)))))))))
 rintro h w1 ⟨b,a⟩
 refine J H (aC F7 H H (H8 a d b.size) ?_)
 rintro i w2 ⟨e,c⟩
 refine Z H (f (al (aA (aM H ?_))))
 exact⟨_,H,b.a6 c a.ge,e⟩
theorem Ql {l:List UInt8} {n:Int} (i:cV l v w) (h:l.length≤70368744177664) (d: -9223372036854775808≤n) (e:n≤9223372036854775807):
 Calls Tryz.prog 98 #[v,I n] w (aJ λr w'=>ao w w'∧eH w.heap.size (l++uv (vm n)) r w'):=by
 refine enter Tryz.func98 H H H (ah (ap (Z H (f (al (ah (ap (J H (aC Aa H H (zk i G) ?_)))))))))
 rintro j w1 ⟨c,a⟩
 refine J H (cJ H (yV aE cU) (U H (tg 1 G) (J H (U H (Y7 63 G) (cJ H (yV aE cU) (U H (Zj) (aC F7 H H (H8 a h c.size) ?_)))))))
 rintro k w2 ⟨b,g⟩
 refine Z H (f (al (aA (aM H ?_))))
 rw[aaX d e] at b
 exact⟨_,H,c.a6 g a.ge,b⟩
end Go.Rl

/-
  NARROWER THAN 'FOR EVERY INPUT', by the rows' own cells (each row's printed sentence says how): CertfileEncode: loops, laid · CertfileDecode: laid · CertfileSealed: laid · CertfilePacked: laid · CertfileChanged: loops, laid · CertfileDigest: laid · JournalRecovers: loops, laid · JournalCut: loops, laid · JournalAny: laid · JournalDamage: loops, laid · JournalWrites: loops, laid · JournalPayload: loops, laid.
  DERIVED. THE GIVEN ROWS OF THIS SEAT. 12 by the template 'for every input the law returns true; each argument reads behind the call as it read before'; 0 by the template 'total and deterministic' (their statements: YtaajaakbcelmfaaGreatDoorTotals.lean).
  GIVEN WITH THE SEED: the statements are not yours to turn. If you find one false, say at which input.
  Laid BY PROGRAM, IN A SANDBOX (cutbox-rows.mjs): the forced cells as the released guide's own fill.sh prints them over the translation eb9daca147dacbb4… (all of the seat's roots in one cut). By AI agents, Wed Nov 11 2026. No macro, syntax, notation, axiom, sorry.
-/
import Derived.Test.YtaajaakbcelmfaaGreatDoorChecked
import GoSem.Claim
import GoSem.ClaimJoined
import GoSem.ClaimMapViews
import Derived.JoinedTies
import Derived.KernelRfl
namespace Go.Proofs.YtaajaakbcelmfaaGreatDoor
/- THE CELL 'sum', in the pinned program and in every row, IS THE sha256 OF THE DUMP (.gsa) THAT YtaajaakbcelmfaaGreatDoorProg.lean LOADS. Nothing in Lean hashes anything: it is a label: what it is worth is what the hold of that sum in a sandbox is worth. -/
noncomputable def Tryz.pinned : Pinned := { name := "ytaajaakbcelmfaagreatdoor", sum := "eb9daca147dacbb4e9a27993a548a10e881258566a3940b986da3ac6960f4d24", checked := Tryz.checked }
namespace Rows
def none {H : Type} : Left H := { results := [], args := [] }

/- WHAT THE LISTED PACKAGE-LEVEL VARIABLES READ AS WHEN THE CALL BEGINS. Each datum BY PROGRAM (the guide's laid-datum.mjs) off the statement by which the dump's own 'gosem.cut.vars' lays the variable. In a bare row this is a premise. The card (YtaajaakbcelmfaaGreatDoorCards.lean) ties it to the program's text. -/
def laid_relucert_phase_opposites {H : Type} : DataW H := .agg [.lit (.int .i64 0), .lit (.int .i64 2), .lit (.int .i64 1), .lit (.int .i64 4), .lit (.int .i64 3)]

/-- 'relucertlaw46.CertfileEncode': WHATEVER THE INPUT: true; the input reads as it did. -/
def certfileEncodeSpec : ChangeSpec := { name := "certfileEncode", fn := fun _ => fun
  | [d] => { results := [.lit (.bool true)], args := [d] }
  | _ => none }
def certfileEncodeRow : OpenClaim := { program := "ytaajaakbcelmfaagreatdoor", sum := "eb9daca147dacbb4e9a27993a548a10e881258566a3940b986da3ac6960f4d24", func := "relucert/relucertlaw46.CertfileEncode", spec := "certfileEncode", unfollowed := true, recurses := true, named := ["relucert/phase.opposites"], loops := true, plainKeys := false, apart := false, laid := [("relucert/phase.opposites", laid_relucert_phase_opposites)] }
def CertfileEncodeSaid : Prop := certfileEncodeRow.holds Tryz.pinned (OpenSpec.ofChange certfileEncodeSpec)

/-- ITS FALSE NEIGHBOUR: 'it returns false'. Refute it at one input. -/
def certfileEncodeWrong : ChangeSpec := { name := "certfileEncode", fn := fun _ => fun
  | [d] => { results := [.lit (.bool false)], args := [d] }
  | _ => none }
def CertfileEncodeWrongFalsely : Prop := certfileEncodeRow.holds Tryz.pinned (OpenSpec.ofChange certfileEncodeWrong)

/-- 'relucertlaw46.CertfileDecode': WHATEVER THE INPUT: true; the input reads as it did. -/
def certfileDecodeSpec : ChangeSpec := { name := "certfileDecode", fn := fun _ => fun
  | [d] => { results := [.lit (.bool true)], args := [d] }
  | _ => none }
def certfileDecodeRow : OpenClaim := { program := "ytaajaakbcelmfaagreatdoor", sum := "eb9daca147dacbb4e9a27993a548a10e881258566a3940b986da3ac6960f4d24", func := "relucert/relucertlaw46.CertfileDecode", spec := "certfileDecode", unfollowed := true, recurses := true, named := ["relucert/phase.opposites"], plainKeys := false, apart := false, laid := [("relucert/phase.opposites", laid_relucert_phase_opposites)] }
def CertfileDecodeSaid : Prop := certfileDecodeRow.holds Tryz.pinned (OpenSpec.ofChange certfileDecodeSpec)

/-- ITS FALSE NEIGHBOUR: 'it returns false'. Refute it at one input. -/
def certfileDecodeWrong : ChangeSpec := { name := "certfileDecode", fn := fun _ => fun
  | [d] => { results := [.lit (.bool false)], args := [d] }
  | _ => none }
def CertfileDecodeWrongFalsely : Prop := certfileDecodeRow.holds Tryz.pinned (OpenSpec.ofChange certfileDecodeWrong)

/-- 'relucertlaw46.CertfileSealed': WHATEVER THE INPUT: true; the input reads as it did. -/
def certfileSealedSpec : ChangeSpec := { name := "certfileSealed", fn := fun _ => fun
  | [d1, d2] => { results := [.lit (.bool true)], args := [d1, d2] }
  | _ => none }
def certfileSealedRow : OpenClaim := { program := "ytaajaakbcelmfaagreatdoor", sum := "eb9daca147dacbb4e9a27993a548a10e881258566a3940b986da3ac6960f4d24", func := "relucert/relucertlaw46.CertfileSealed", spec := "certfileSealed", unfollowed := true, recurses := true, named := ["relucert/phase.opposites"], plainKeys := false, apart := false, laid := [("relucert/phase.opposites", laid_relucert_phase_opposites)] }
def CertfileSealedSaid : Prop := certfileSealedRow.holds Tryz.pinned (OpenSpec.ofChange certfileSealedSpec)

/-- ITS FALSE NEIGHBOUR: 'it returns false'. Refute it at one input. -/
def certfileSealedWrong : ChangeSpec := { name := "certfileSealed", fn := fun _ => fun
  | [d1, d2] => { results := [.lit (.bool false)], args := [d1, d2] }
  | _ => none }
def CertfileSealedWrongFalsely : Prop := certfileSealedRow.holds Tryz.pinned (OpenSpec.ofChange certfileSealedWrong)

/-- 'relucertlaw46.CertfilePacked': WHATEVER THE INPUT: true; the input reads as it did. -/
def certfilePackedSpec : ChangeSpec := { name := "certfilePacked", fn := fun _ => fun
  | [d1, d2] => { results := [.lit (.bool true)], args := [d1, d2] }
  | _ => none }
def certfilePackedRow : OpenClaim := { program := "ytaajaakbcelmfaagreatdoor", sum := "eb9daca147dacbb4e9a27993a548a10e881258566a3940b986da3ac6960f4d24", func := "relucert/relucertlaw46.CertfilePacked", spec := "certfilePacked", unfollowed := true, recurses := true, named := ["relucert/phase.opposites"], plainKeys := false, apart := false, laid := [("relucert/phase.opposites", laid_relucert_phase_opposites)] }
def CertfilePackedSaid : Prop := certfilePackedRow.holds Tryz.pinned (OpenSpec.ofChange certfilePackedSpec)

/-- ITS FALSE NEIGHBOUR: 'it returns false'. Refute it at one input. -/
def certfilePackedWrong : ChangeSpec := { name := "certfilePacked", fn := fun _ => fun
  | [d1, d2] => { results := [.lit (.bool false)], args := [d1, d2] }
  | _ => none }
def CertfilePackedWrongFalsely : Prop := certfilePackedRow.holds Tryz.pinned (OpenSpec.ofChange certfilePackedWrong)

/-- 'relucertlaw46.CertfileChanged': WHATEVER THE INPUT: true; the input reads as it did. -/
def certfileChangedSpec : ChangeSpec := { name := "certfileChanged", fn := fun _ => fun
  | [d1, d2, d3] => { results := [.lit (.bool true)], args := [d1, d2, d3] }
  | _ => none }
def certfileChangedRow : OpenClaim := { program := "ytaajaakbcelmfaagreatdoor", sum := "eb9daca147dacbb4e9a27993a548a10e881258566a3940b986da3ac6960f4d24", func := "relucert/relucertlaw46.CertfileChanged", spec := "certfileChanged", unfollowed := true, recurses := true, named := ["relucert/phase.opposites"], loops := true, plainKeys := false, apart := false, laid := [("relucert/phase.opposites", laid_relucert_phase_opposites)] }
def CertfileChangedSaid : Prop := certfileChangedRow.holds Tryz.pinned (OpenSpec.ofChange certfileChangedSpec)

/-- ITS FALSE NEIGHBOUR: 'it returns false'. Refute it at one input. -/
def certfileChangedWrong : ChangeSpec := { name := "certfileChanged", fn := fun _ => fun
  | [d1, d2, d3] => { results := [.lit (.bool false)], args := [d1, d2, d3] }
  | _ => none }
def CertfileChangedWrongFalsely : Prop := certfileChangedRow.holds Tryz.pinned (OpenSpec.ofChange certfileChangedWrong)

/-- 'relucertlaw46.CertfileDigest': WHATEVER THE INPUT: true; the input reads as it did. -/
def certfileDigestSpec : ChangeSpec := { name := "certfileDigest", fn := fun _ => fun
  | [d1, d2] => { results := [.lit (.bool true)], args := [d1, d2] }
  | _ => none }
def certfileDigestRow : OpenClaim := { program := "ytaajaakbcelmfaagreatdoor", sum := "eb9daca147dacbb4e9a27993a548a10e881258566a3940b986da3ac6960f4d24", func := "relucert/relucertlaw46.CertfileDigest", spec := "certfileDigest", unfollowed := true, recurses := true, named := ["relucert/phase.opposites"], plainKeys := false, apart := false, laid := [("relucert/phase.opposites", laid_relucert_phase_opposites)] }
def CertfileDigestSaid : Prop := certfileDigestRow.holds Tryz.pinned (OpenSpec.ofChange certfileDigestSpec)

/-- ITS FALSE NEIGHBOUR: 'it returns false'. Refute it at one input. -/
def certfileDigestWrong : ChangeSpec := { name := "certfileDigest", fn := fun _ => fun
  | [d1, d2] => { results := [.lit (.bool false)], args := [d1, d2] }
  | _ => none }
def CertfileDigestWrongFalsely : Prop := certfileDigestRow.holds Tryz.pinned (OpenSpec.ofChange certfileDigestWrong)

/-- 'relucertlaw47.JournalRecovers': WHATEVER THE INPUT: true; the input reads as it did. -/
def journalRecoversSpec : ChangeSpec := { name := "journalRecovers", fn := fun _ => fun
  | [d1, d2] => { results := [.lit (.bool true)], args := [d1, d2] }
  | _ => none }
def journalRecoversRow : OpenClaim := { program := "ytaajaakbcelmfaagreatdoor", sum := "eb9daca147dacbb4e9a27993a548a10e881258566a3940b986da3ac6960f4d24", func := "relucert/relucertlaw47.JournalRecovers", spec := "journalRecovers", unfollowed := true, recurses := true, named := ["relucert/phase.opposites"], loops := true, plainKeys := false, apart := false, laid := [("relucert/phase.opposites", laid_relucert_phase_opposites)] }
def JournalRecoversSaid : Prop := journalRecoversRow.holds Tryz.pinned (OpenSpec.ofChange journalRecoversSpec)

/-- ITS FALSE NEIGHBOUR: 'it returns false'. Refute it at one input. -/
def journalRecoversWrong : ChangeSpec := { name := "journalRecovers", fn := fun _ => fun
  | [d1, d2] => { results := [.lit (.bool false)], args := [d1, d2] }
  | _ => none }
def JournalRecoversWrongFalsely : Prop := journalRecoversRow.holds Tryz.pinned (OpenSpec.ofChange journalRecoversWrong)

/-- 'relucertlaw47.JournalCut': WHATEVER THE INPUT: true; the input reads as it did. -/
def journalCutSpec : ChangeSpec := { name := "journalCut", fn := fun _ => fun
  | [d1, d2, d3] => { results := [.lit (.bool true)], args := [d1, d2, d3] }
  | _ => none }
def journalCutRow : OpenClaim := { program := "ytaajaakbcelmfaagreatdoor", sum := "eb9daca147dacbb4e9a27993a548a10e881258566a3940b986da3ac6960f4d24", func := "relucert/relucertlaw47.JournalCut", spec := "journalCut", unfollowed := true, recurses := true, named := ["relucert/phase.opposites"], loops := true, plainKeys := false, apart := false, laid := [("relucert/phase.opposites", laid_relucert_phase_opposites)] }
def JournalCutSaid : Prop := journalCutRow.holds Tryz.pinned (OpenSpec.ofChange journalCutSpec)

/-- ITS FALSE NEIGHBOUR: 'it returns false'. Refute it at one input. -/
def journalCutWrong : ChangeSpec := { name := "journalCut", fn := fun _ => fun
  | [d1, d2, d3] => { results := [.lit (.bool false)], args := [d1, d2, d3] }
  | _ => none }
def JournalCutWrongFalsely : Prop := journalCutRow.holds Tryz.pinned (OpenSpec.ofChange journalCutWrong)

/-- 'relucertlaw47.JournalAny': WHATEVER THE INPUT: true; the input reads as it did. -/
def journalAnySpec : ChangeSpec := { name := "journalAny", fn := fun _ => fun
  | [d] => { results := [.lit (.bool true)], args := [d] }
  | _ => none }
def journalAnyRow : OpenClaim := { program := "ytaajaakbcelmfaagreatdoor", sum := "eb9daca147dacbb4e9a27993a548a10e881258566a3940b986da3ac6960f4d24", func := "relucert/relucertlaw47.JournalAny", spec := "journalAny", unfollowed := true, recurses := true, named := ["relucert/phase.opposites"], plainKeys := false, apart := false, laid := [("relucert/phase.opposites", laid_relucert_phase_opposites)] }
def JournalAnySaid : Prop := journalAnyRow.holds Tryz.pinned (OpenSpec.ofChange journalAnySpec)

/-- ITS FALSE NEIGHBOUR: 'it returns false'. Refute it at one input. -/
def journalAnyWrong : ChangeSpec := { name := "journalAny", fn := fun _ => fun
  | [d] => { results := [.lit (.bool false)], args := [d] }
  | _ => none }
def JournalAnyWrongFalsely : Prop := journalAnyRow.holds Tryz.pinned (OpenSpec.ofChange journalAnyWrong)

/-- 'relucertlaw47.JournalDamage': WHATEVER THE INPUT: true; the input reads as it did. -/
def journalDamageSpec : ChangeSpec := { name := "journalDamage", fn := fun _ => fun
  | [d1, d2, d3] => { results := [.lit (.bool true)], args := [d1, d2, d3] }
  | _ => none }
def journalDamageRow : OpenClaim := { program := "ytaajaakbcelmfaagreatdoor", sum := "eb9daca147dacbb4e9a27993a548a10e881258566a3940b986da3ac6960f4d24", func := "relucert/relucertlaw47.JournalDamage", spec := "journalDamage", unfollowed := true, recurses := true, named := ["relucert/phase.opposites"], loops := true, plainKeys := false, apart := false, laid := [("relucert/phase.opposites", laid_relucert_phase_opposites)] }
def JournalDamageSaid : Prop := journalDamageRow.holds Tryz.pinned (OpenSpec.ofChange journalDamageSpec)

/-- ITS FALSE NEIGHBOUR: 'it returns false'. Refute it at one input. -/
def journalDamageWrong : ChangeSpec := { name := "journalDamage", fn := fun _ => fun
  | [d1, d2, d3] => { results := [.lit (.bool false)], args := [d1, d2, d3] }
  | _ => none }
def JournalDamageWrongFalsely : Prop := journalDamageRow.holds Tryz.pinned (OpenSpec.ofChange journalDamageWrong)

/-- 'relucertlaw47.JournalWrites': WHATEVER THE INPUT: true; the input reads as it did. -/
def journalWritesSpec : ChangeSpec := { name := "journalWrites", fn := fun _ => fun
  | [d1, d2] => { results := [.lit (.bool true)], args := [d1, d2] }
  | _ => none }
def journalWritesRow : OpenClaim := { program := "ytaajaakbcelmfaagreatdoor", sum := "eb9daca147dacbb4e9a27993a548a10e881258566a3940b986da3ac6960f4d24", func := "relucert/relucertlaw47.JournalWrites", spec := "journalWrites", unfollowed := true, recurses := true, named := ["relucert/phase.opposites"], loops := true, plainKeys := false, apart := false, laid := [("relucert/phase.opposites", laid_relucert_phase_opposites)] }
def JournalWritesSaid : Prop := journalWritesRow.holds Tryz.pinned (OpenSpec.ofChange journalWritesSpec)

/-- ITS FALSE NEIGHBOUR: 'it returns false'. Refute it at one input. -/
def journalWritesWrong : ChangeSpec := { name := "journalWrites", fn := fun _ => fun
  | [d1, d2] => { results := [.lit (.bool false)], args := [d1, d2] }
  | _ => none }
def JournalWritesWrongFalsely : Prop := journalWritesRow.holds Tryz.pinned (OpenSpec.ofChange journalWritesWrong)

/-- 'relucertlaw47.JournalPayload': WHATEVER THE INPUT: true; the input reads as it did. -/
def journalPayloadSpec : ChangeSpec := { name := "journalPayload", fn := fun _ => fun
  | [d1, d2] => { results := [.lit (.bool true)], args := [d1, d2] }
  | _ => none }
def journalPayloadRow : OpenClaim := { program := "ytaajaakbcelmfaagreatdoor", sum := "eb9daca147dacbb4e9a27993a548a10e881258566a3940b986da3ac6960f4d24", func := "relucert/relucertlaw47.JournalPayload", spec := "journalPayload", unfollowed := true, recurses := true, named := ["relucert/phase.opposites"], loops := true, plainKeys := false, apart := false, laid := [("relucert/phase.opposites", laid_relucert_phase_opposites)] }
def JournalPayloadSaid : Prop := journalPayloadRow.holds Tryz.pinned (OpenSpec.ofChange journalPayloadSpec)

/-- ITS FALSE NEIGHBOUR: 'it returns false'. Refute it at one input. -/
def journalPayloadWrong : ChangeSpec := { name := "journalPayload", fn := fun _ => fun
  | [d1, d2] => { results := [.lit (.bool false)], args := [d1, d2] }
  | _ => none }
def JournalPayloadWrongFalsely : Prop := journalPayloadRow.holds Tryz.pinned (OpenSpec.ofChange journalPayloadWrong)

/- THE SECOND FORM. 'bulk': how many values and letters a reading holds, each counted each time it is reached (what is shared counts as often as it is met; a slice's spare places count too). A statement '..UptoSaid' is the law's where the arguments, and the package variables that the reading takes, are together of bulk at most 1048576: NARROWER than '..Said'. Prove '..Said' where nothing that the law and all that it calls make is longer than what came in: it says more and counts as full. Else prove '..UptoSaid'. A law counts once. -/
mutual
def uptoBulk {H : Type} : DataW H → Nat
  | .lit (.string bytes) => bytes.length + 1
  | .lit _ => 1
  | .nil => 1
  | .ptr d => uptoBulk d + 1
  | .slice elems spare => uptoBulkAll elems + uptoBulkAll spare + 1
  | .agg parts => uptoBulkAll parts + 1
  | .iface _ d => uptoBulk d + 1
  | .map entries => uptoBulkEntries entries + 1
  | .held _ => 1
def uptoBulkAll {H : Type} : List (DataW H) → Nat
  | [] => 0
  | d :: r => uptoBulk d + uptoBulkAll r
def uptoBulkEntries {H : Type} : List (Lit × DataW H) → Nat
  | [] => 0
  | x :: r => uptoBulkEntry x + uptoBulkEntries r
def uptoBulkEntry {H : Type} : Lit × DataW H → Nat
  | (.string bytes, d) => bytes.length + uptoBulk d + 1
  | (_, d) => uptoBulk d + 1
 end
def uptoSmall : (H : Type) → List (DataW H) → Bool := fun _ ds => decide (uptoBulkAll ds ≤ 1048576)
def OpenSpec.upto (s : _root_.Go.ChangeSpec) : _root_.Go.OpenSpec := { _root_.Go.OpenSpec.ofChange s with cond := some uptoSmall }

/-- 'relucertlaw46.CertfileEncode', WHERE WHAT IT READS IS OF BULK AT MOST 1048576: true; the input reads as it did. -/
def certfileEncodeUptoRow : OpenClaim := { program := "ytaajaakbcelmfaagreatdoor", sum := "eb9daca147dacbb4e9a27993a548a10e881258566a3940b986da3ac6960f4d24", func := "relucert/relucertlaw46.CertfileEncode", spec := "certfileEncode", unfollowed := true, recurses := true, named := ["relucert/phase.opposites"], loops := true, plainKeys := false, apart := false, laid := [("relucert/phase.opposites", laid_relucert_phase_opposites)], narrowed := true }
def CertfileEncodeUptoSaid : Prop := certfileEncodeUptoRow.holds Tryz.pinned (OpenSpec.upto certfileEncodeSpec)

/-- 'relucertlaw46.CertfileDecode', WHERE WHAT IT READS IS OF BULK AT MOST 1048576: true; the input reads as it did. -/
def certfileDecodeUptoRow : OpenClaim := { program := "ytaajaakbcelmfaagreatdoor", sum := "eb9daca147dacbb4e9a27993a548a10e881258566a3940b986da3ac6960f4d24", func := "relucert/relucertlaw46.CertfileDecode", spec := "certfileDecode", unfollowed := true, recurses := true, named := ["relucert/phase.opposites"], plainKeys := false, apart := false, laid := [("relucert/phase.opposites", laid_relucert_phase_opposites)], narrowed := true }
def CertfileDecodeUptoSaid : Prop := certfileDecodeUptoRow.holds Tryz.pinned (OpenSpec.upto certfileDecodeSpec)

/-- 'relucertlaw46.CertfileSealed', WHERE WHAT IT READS IS OF BULK AT MOST 1048576: true; the input reads as it did. -/
def certfileSealedUptoRow : OpenClaim := { program := "ytaajaakbcelmfaagreatdoor", sum := "eb9daca147dacbb4e9a27993a548a10e881258566a3940b986da3ac6960f4d24", func := "relucert/relucertlaw46.CertfileSealed", spec := "certfileSealed", unfollowed := true, recurses := true, named := ["relucert/phase.opposites"], plainKeys := false, apart := false, laid := [("relucert/phase.opposites", laid_relucert_phase_opposites)], narrowed := true }
def CertfileSealedUptoSaid : Prop := certfileSealedUptoRow.holds Tryz.pinned (OpenSpec.upto certfileSealedSpec)

/-- 'relucertlaw46.CertfilePacked', WHERE WHAT IT READS IS OF BULK AT MOST 1048576: true; the input reads as it did. -/
def certfilePackedUptoRow : OpenClaim := { program := "ytaajaakbcelmfaagreatdoor", sum := "eb9daca147dacbb4e9a27993a548a10e881258566a3940b986da3ac6960f4d24", func := "relucert/relucertlaw46.CertfilePacked", spec := "certfilePacked", unfollowed := true, recurses := true, named := ["relucert/phase.opposites"], plainKeys := false, apart := false, laid := [("relucert/phase.opposites", laid_relucert_phase_opposites)], narrowed := true }
def CertfilePackedUptoSaid : Prop := certfilePackedUptoRow.holds Tryz.pinned (OpenSpec.upto certfilePackedSpec)

/-- 'relucertlaw46.CertfileChanged', WHERE WHAT IT READS IS OF BULK AT MOST 1048576: true; the input reads as it did. -/
def certfileChangedUptoRow : OpenClaim := { program := "ytaajaakbcelmfaagreatdoor", sum := "eb9daca147dacbb4e9a27993a548a10e881258566a3940b986da3ac6960f4d24", func := "relucert/relucertlaw46.CertfileChanged", spec := "certfileChanged", unfollowed := true, recurses := true, named := ["relucert/phase.opposites"], loops := true, plainKeys := false, apart := false, laid := [("relucert/phase.opposites", laid_relucert_phase_opposites)], narrowed := true }
def CertfileChangedUptoSaid : Prop := certfileChangedUptoRow.holds Tryz.pinned (OpenSpec.upto certfileChangedSpec)

/-- 'relucertlaw46.CertfileDigest', WHERE WHAT IT READS IS OF BULK AT MOST 1048576: true; the input reads as it did. -/
def certfileDigestUptoRow : OpenClaim := { program := "ytaajaakbcelmfaagreatdoor", sum := "eb9daca147dacbb4e9a27993a548a10e881258566a3940b986da3ac6960f4d24", func := "relucert/relucertlaw46.CertfileDigest", spec := "certfileDigest", unfollowed := true, recurses := true, named := ["relucert/phase.opposites"], plainKeys := false, apart := false, laid := [("relucert/phase.opposites", laid_relucert_phase_opposites)], narrowed := true }
def CertfileDigestUptoSaid : Prop := certfileDigestUptoRow.holds Tryz.pinned (OpenSpec.upto certfileDigestSpec)

/-- 'relucertlaw47.JournalRecovers', WHERE WHAT IT READS IS OF BULK AT MOST 1048576: true; the input reads as it did. -/
def journalRecoversUptoRow : OpenClaim := { program := "ytaajaakbcelmfaagreatdoor", sum := "eb9daca147dacbb4e9a27993a548a10e881258566a3940b986da3ac6960f4d24", func := "relucert/relucertlaw47.JournalRecovers", spec := "journalRecovers", unfollowed := true, recurses := true, named := ["relucert/phase.opposites"], loops := true, plainKeys := false, apart := false, laid := [("relucert/phase.opposites", laid_relucert_phase_opposites)], narrowed := true }
def JournalRecoversUptoSaid : Prop := journalRecoversUptoRow.holds Tryz.pinned (OpenSpec.upto journalRecoversSpec)

/-- 'relucertlaw47.JournalCut', WHERE WHAT IT READS IS OF BULK AT MOST 1048576: true; the input reads as it did. -/
def journalCutUptoRow : OpenClaim := { program := "ytaajaakbcelmfaagreatdoor", sum := "eb9daca147dacbb4e9a27993a548a10e881258566a3940b986da3ac6960f4d24", func := "relucert/relucertlaw47.JournalCut", spec := "journalCut", unfollowed := true, recurses := true, named := ["relucert/phase.opposites"], loops := true, plainKeys := false, apart := false, laid := [("relucert/phase.opposites", laid_relucert_phase_opposites)], narrowed := true }
def JournalCutUptoSaid : Prop := journalCutUptoRow.holds Tryz.pinned (OpenSpec.upto journalCutSpec)

/-- 'relucertlaw47.JournalAny', WHERE WHAT IT READS IS OF BULK AT MOST 1048576: true; the input reads as it did. -/
def journalAnyUptoRow : OpenClaim := { program := "ytaajaakbcelmfaagreatdoor", sum := "eb9daca147dacbb4e9a27993a548a10e881258566a3940b986da3ac6960f4d24", func := "relucert/relucertlaw47.JournalAny", spec := "journalAny", unfollowed := true, recurses := true, named := ["relucert/phase.opposites"], plainKeys := false, apart := false, laid := [("relucert/phase.opposites", laid_relucert_phase_opposites)], narrowed := true }
def JournalAnyUptoSaid : Prop := journalAnyUptoRow.holds Tryz.pinned (OpenSpec.upto journalAnySpec)

/-- 'relucertlaw47.JournalDamage', WHERE WHAT IT READS IS OF BULK AT MOST 1048576: true; the input reads as it did. -/
def journalDamageUptoRow : OpenClaim := { program := "ytaajaakbcelmfaagreatdoor", sum := "eb9daca147dacbb4e9a27993a548a10e881258566a3940b986da3ac6960f4d24", func := "relucert/relucertlaw47.JournalDamage", spec := "journalDamage", unfollowed := true, recurses := true, named := ["relucert/phase.opposites"], loops := true, plainKeys := false, apart := false, laid := [("relucert/phase.opposites", laid_relucert_phase_opposites)], narrowed := true }
def JournalDamageUptoSaid : Prop := journalDamageUptoRow.holds Tryz.pinned (OpenSpec.upto journalDamageSpec)

/-- 'relucertlaw47.JournalWrites', WHERE WHAT IT READS IS OF BULK AT MOST 1048576: true; the input reads as it did. -/
def journalWritesUptoRow : OpenClaim := { program := "ytaajaakbcelmfaagreatdoor", sum := "eb9daca147dacbb4e9a27993a548a10e881258566a3940b986da3ac6960f4d24", func := "relucert/relucertlaw47.JournalWrites", spec := "journalWrites", unfollowed := true, recurses := true, named := ["relucert/phase.opposites"], loops := true, plainKeys := false, apart := false, laid := [("relucert/phase.opposites", laid_relucert_phase_opposites)], narrowed := true }
def JournalWritesUptoSaid : Prop := journalWritesUptoRow.holds Tryz.pinned (OpenSpec.upto journalWritesSpec)

/-- 'relucertlaw47.JournalPayload', WHERE WHAT IT READS IS OF BULK AT MOST 1048576: true; the input reads as it did. -/
def journalPayloadUptoRow : OpenClaim := { program := "ytaajaakbcelmfaagreatdoor", sum := "eb9daca147dacbb4e9a27993a548a10e881258566a3940b986da3ac6960f4d24", func := "relucert/relucertlaw47.JournalPayload", spec := "journalPayload", unfollowed := true, recurses := true, named := ["relucert/phase.opposites"], loops := true, plainKeys := false, apart := false, laid := [("relucert/phase.opposites", laid_relucert_phase_opposites)], narrowed := true }
def JournalPayloadUptoSaid : Prop := journalPayloadUptoRow.holds Tryz.pinned (OpenSpec.upto journalPayloadSpec)

end Rows
end Go.Proofs.YtaajaakbcelmfaaGreatDoor

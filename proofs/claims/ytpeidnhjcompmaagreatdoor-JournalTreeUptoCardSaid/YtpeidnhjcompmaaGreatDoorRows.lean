/-
  NARROWER THAN 'FOR EVERY INPUT', by the rows' own cells (each row's printed sentence says how): JournalAny: laid · JournalRecovers: loops, laid · JournalCut: loops, laid · JournalDamage: loops, laid · JournalWrites: loops, laid · JournalPayload: loops, laid · JournalBuild: loops, laid · JournalTree: loops, laid · CertfileDigest: laid.
  DERIVED. THE GIVEN ROWS OF THIS SEAT. 9 by the template 'for every input the law returns true; each argument reads behind the call as it read before'; 0 by the template 'total and deterministic' (their statements: YtpeidnhjcompmaaGreatDoorTotals.lean).
  GIVEN WITH THE SEED: the statements are not yours to turn. If you find one false, say at which input.
  Laid BY PROGRAM, IN A SANDBOX (cutbox-rows.mjs): the forced cells as the released guide's own fill.sh prints them over the translation 8c2fe2581675e20a… (all of the seat's roots in one cut). By AI agents, Wed Nov 11 2026. No macro, syntax, notation, axiom, sorry.
-/
import Derived.Test.YtpeidnhjcompmaaGreatDoorChecked
import GoSem.Claim
import GoSem.ClaimJoined
import GoSem.ClaimMapViews
import Derived.JoinedTies
import Derived.KernelRfl
namespace Go.Proofs.YtpeidnhjcompmaaGreatDoor
/- THE CELL 'sum', in the pinned program and in every row, IS THE sha256 OF THE DUMP (.gsa) THAT YtpeidnhjcompmaaGreatDoorProg.lean LOADS. Nothing in Lean hashes anything: it is a label: what it is worth is what the hold of that sum in a sandbox is worth. -/
noncomputable def Tryz.pinned : Pinned := { name := "ytpeidnhjcompmaagreatdoor", sum := "8c2fe2581675e20abe4e620b28d8d4539dd3a939d213b01902dc009e33d63953", checked := Tryz.checked }
namespace Rows
def none {H : Type} : Left H := { results := [], args := [] }

/- WHAT THE LISTED PACKAGE-LEVEL VARIABLES READ AS WHEN THE CALL BEGINS. Each datum BY PROGRAM (the guide's laid-datum.mjs) off the statement by which the dump's own 'gosem.cut.vars' lays the variable. In a bare row this is a premise. The card (YtpeidnhjcompmaaGreatDoorCards.lean) ties it to the program's text. -/
def laid_relucert_phase_opposites {H : Type} : DataW H := .agg [.lit (.int .i64 0), .lit (.int .i64 2), .lit (.int .i64 1), .lit (.int .i64 4), .lit (.int .i64 3)]

/-- 'relucertlaw47.JournalAny': WHATEVER THE INPUT: true; the input reads as it did. -/
def journalAnySpec : ChangeSpec := { name := "journalAny", fn := fun _ => fun
  | [d] => { results := [.lit (.bool true)], args := [d] }
  | _ => none }
def journalAnyRow : OpenClaim := { program := "ytpeidnhjcompmaagreatdoor", sum := "8c2fe2581675e20abe4e620b28d8d4539dd3a939d213b01902dc009e33d63953", func := "relucert/relucertlaw47.JournalAny", spec := "journalAny", unfollowed := true, recurses := true, named := ["relucert/phase.opposites"], plainKeys := false, apart := false, laid := [("relucert/phase.opposites", laid_relucert_phase_opposites)] }
def JournalAnySaid : Prop := journalAnyRow.holds Tryz.pinned (OpenSpec.ofChange journalAnySpec)

/-- ITS FALSE NEIGHBOUR: 'it returns false'. Refute it at one input. -/
def journalAnyWrong : ChangeSpec := { name := "journalAny", fn := fun _ => fun
  | [d] => { results := [.lit (.bool false)], args := [d] }
  | _ => none }
def JournalAnyWrongFalsely : Prop := journalAnyRow.holds Tryz.pinned (OpenSpec.ofChange journalAnyWrong)

/-- 'relucertlaw47.JournalRecovers': WHATEVER THE INPUT: true; the input reads as it did. -/
def journalRecoversSpec : ChangeSpec := { name := "journalRecovers", fn := fun _ => fun
  | [d1, d2] => { results := [.lit (.bool true)], args := [d1, d2] }
  | _ => none }
def journalRecoversRow : OpenClaim := { program := "ytpeidnhjcompmaagreatdoor", sum := "8c2fe2581675e20abe4e620b28d8d4539dd3a939d213b01902dc009e33d63953", func := "relucert/relucertlaw47.JournalRecovers", spec := "journalRecovers", unfollowed := true, recurses := true, named := ["relucert/phase.opposites"], loops := true, plainKeys := false, apart := false, laid := [("relucert/phase.opposites", laid_relucert_phase_opposites)] }
def JournalRecoversSaid : Prop := journalRecoversRow.holds Tryz.pinned (OpenSpec.ofChange journalRecoversSpec)

/-- ITS FALSE NEIGHBOUR: 'it returns false'. Refute it at one input. -/
def journalRecoversWrong : ChangeSpec := { name := "journalRecovers", fn := fun _ => fun
  | [d1, d2] => { results := [.lit (.bool false)], args := [d1, d2] }
  | _ => none }
def JournalRecoversWrongFalsely : Prop := journalRecoversRow.holds Tryz.pinned (OpenSpec.ofChange journalRecoversWrong)

/-- 'relucertlaw47.JournalCut': WHATEVER THE INPUT: true; the input reads as it did. -/
def journalCutSpec : ChangeSpec := { name := "journalCut", fn := fun _ => fun
  | [d1, d2, d3] => { results := [.lit (.bool true)], args := [d1, d2, d3] }
  | _ => none }
def journalCutRow : OpenClaim := { program := "ytpeidnhjcompmaagreatdoor", sum := "8c2fe2581675e20abe4e620b28d8d4539dd3a939d213b01902dc009e33d63953", func := "relucert/relucertlaw47.JournalCut", spec := "journalCut", unfollowed := true, recurses := true, named := ["relucert/phase.opposites"], loops := true, plainKeys := false, apart := false, laid := [("relucert/phase.opposites", laid_relucert_phase_opposites)] }
def JournalCutSaid : Prop := journalCutRow.holds Tryz.pinned (OpenSpec.ofChange journalCutSpec)

/-- ITS FALSE NEIGHBOUR: 'it returns false'. Refute it at one input. -/
def journalCutWrong : ChangeSpec := { name := "journalCut", fn := fun _ => fun
  | [d1, d2, d3] => { results := [.lit (.bool false)], args := [d1, d2, d3] }
  | _ => none }
def JournalCutWrongFalsely : Prop := journalCutRow.holds Tryz.pinned (OpenSpec.ofChange journalCutWrong)

/-- 'relucertlaw47.JournalDamage': WHATEVER THE INPUT: true; the input reads as it did. -/
def journalDamageSpec : ChangeSpec := { name := "journalDamage", fn := fun _ => fun
  | [d1, d2, d3] => { results := [.lit (.bool true)], args := [d1, d2, d3] }
  | _ => none }
def journalDamageRow : OpenClaim := { program := "ytpeidnhjcompmaagreatdoor", sum := "8c2fe2581675e20abe4e620b28d8d4539dd3a939d213b01902dc009e33d63953", func := "relucert/relucertlaw47.JournalDamage", spec := "journalDamage", unfollowed := true, recurses := true, named := ["relucert/phase.opposites"], loops := true, plainKeys := false, apart := false, laid := [("relucert/phase.opposites", laid_relucert_phase_opposites)] }
def JournalDamageSaid : Prop := journalDamageRow.holds Tryz.pinned (OpenSpec.ofChange journalDamageSpec)

/-- ITS FALSE NEIGHBOUR: 'it returns false'. Refute it at one input. -/
def journalDamageWrong : ChangeSpec := { name := "journalDamage", fn := fun _ => fun
  | [d1, d2, d3] => { results := [.lit (.bool false)], args := [d1, d2, d3] }
  | _ => none }
def JournalDamageWrongFalsely : Prop := journalDamageRow.holds Tryz.pinned (OpenSpec.ofChange journalDamageWrong)

/-- 'relucertlaw47.JournalWrites': WHATEVER THE INPUT: true; the input reads as it did. -/
def journalWritesSpec : ChangeSpec := { name := "journalWrites", fn := fun _ => fun
  | [d1, d2] => { results := [.lit (.bool true)], args := [d1, d2] }
  | _ => none }
def journalWritesRow : OpenClaim := { program := "ytpeidnhjcompmaagreatdoor", sum := "8c2fe2581675e20abe4e620b28d8d4539dd3a939d213b01902dc009e33d63953", func := "relucert/relucertlaw47.JournalWrites", spec := "journalWrites", unfollowed := true, recurses := true, named := ["relucert/phase.opposites"], loops := true, plainKeys := false, apart := false, laid := [("relucert/phase.opposites", laid_relucert_phase_opposites)] }
def JournalWritesSaid : Prop := journalWritesRow.holds Tryz.pinned (OpenSpec.ofChange journalWritesSpec)

/-- ITS FALSE NEIGHBOUR: 'it returns false'. Refute it at one input. -/
def journalWritesWrong : ChangeSpec := { name := "journalWrites", fn := fun _ => fun
  | [d1, d2] => { results := [.lit (.bool false)], args := [d1, d2] }
  | _ => none }
def JournalWritesWrongFalsely : Prop := journalWritesRow.holds Tryz.pinned (OpenSpec.ofChange journalWritesWrong)

/-- 'relucertlaw47.JournalPayload': WHATEVER THE INPUT: true; the input reads as it did. -/
def journalPayloadSpec : ChangeSpec := { name := "journalPayload", fn := fun _ => fun
  | [d1, d2] => { results := [.lit (.bool true)], args := [d1, d2] }
  | _ => none }
def journalPayloadRow : OpenClaim := { program := "ytpeidnhjcompmaagreatdoor", sum := "8c2fe2581675e20abe4e620b28d8d4539dd3a939d213b01902dc009e33d63953", func := "relucert/relucertlaw47.JournalPayload", spec := "journalPayload", unfollowed := true, recurses := true, named := ["relucert/phase.opposites"], loops := true, plainKeys := false, apart := false, laid := [("relucert/phase.opposites", laid_relucert_phase_opposites)] }
def JournalPayloadSaid : Prop := journalPayloadRow.holds Tryz.pinned (OpenSpec.ofChange journalPayloadSpec)

/-- ITS FALSE NEIGHBOUR: 'it returns false'. Refute it at one input. -/
def journalPayloadWrong : ChangeSpec := { name := "journalPayload", fn := fun _ => fun
  | [d1, d2] => { results := [.lit (.bool false)], args := [d1, d2] }
  | _ => none }
def JournalPayloadWrongFalsely : Prop := journalPayloadRow.holds Tryz.pinned (OpenSpec.ofChange journalPayloadWrong)

/-- 'relucertlaw47.JournalBuild': WHATEVER THE INPUT: true; the input reads as it did. -/
def journalBuildSpec : ChangeSpec := { name := "journalBuild", fn := fun _ => fun
  | [d] => { results := [.lit (.bool true)], args := [d] }
  | _ => none }
def journalBuildRow : OpenClaim := { program := "ytpeidnhjcompmaagreatdoor", sum := "8c2fe2581675e20abe4e620b28d8d4539dd3a939d213b01902dc009e33d63953", func := "relucert/relucertlaw47.JournalBuild", spec := "journalBuild", unfollowed := true, recurses := true, named := ["relucert/phase.opposites"], loops := true, plainKeys := false, apart := false, laid := [("relucert/phase.opposites", laid_relucert_phase_opposites)] }
def JournalBuildSaid : Prop := journalBuildRow.holds Tryz.pinned (OpenSpec.ofChange journalBuildSpec)

/-- ITS FALSE NEIGHBOUR: 'it returns false'. Refute it at one input. -/
def journalBuildWrong : ChangeSpec := { name := "journalBuild", fn := fun _ => fun
  | [d] => { results := [.lit (.bool false)], args := [d] }
  | _ => none }
def JournalBuildWrongFalsely : Prop := journalBuildRow.holds Tryz.pinned (OpenSpec.ofChange journalBuildWrong)

/-- 'relucertlaw47.JournalTree': WHATEVER THE INPUT: true; the input reads as it did. -/
def journalTreeSpec : ChangeSpec := { name := "journalTree", fn := fun _ => fun
  | [d1, d2, d3] => { results := [.lit (.bool true)], args := [d1, d2, d3] }
  | _ => none }
def journalTreeRow : OpenClaim := { program := "ytpeidnhjcompmaagreatdoor", sum := "8c2fe2581675e20abe4e620b28d8d4539dd3a939d213b01902dc009e33d63953", func := "relucert/relucertlaw47.JournalTree", spec := "journalTree", unfollowed := true, recurses := true, named := ["relucert/phase.opposites"], loops := true, plainKeys := false, apart := false, laid := [("relucert/phase.opposites", laid_relucert_phase_opposites)] }
def JournalTreeSaid : Prop := journalTreeRow.holds Tryz.pinned (OpenSpec.ofChange journalTreeSpec)

/-- ITS FALSE NEIGHBOUR: 'it returns false'. Refute it at one input. -/
def journalTreeWrong : ChangeSpec := { name := "journalTree", fn := fun _ => fun
  | [d1, d2, d3] => { results := [.lit (.bool false)], args := [d1, d2, d3] }
  | _ => none }
def JournalTreeWrongFalsely : Prop := journalTreeRow.holds Tryz.pinned (OpenSpec.ofChange journalTreeWrong)

/-- 'relucertlaw46.CertfileDigest': WHATEVER THE INPUT: true; the input reads as it did. -/
def certfileDigestSpec : ChangeSpec := { name := "certfileDigest", fn := fun _ => fun
  | [d1, d2] => { results := [.lit (.bool true)], args := [d1, d2] }
  | _ => none }
def certfileDigestRow : OpenClaim := { program := "ytpeidnhjcompmaagreatdoor", sum := "8c2fe2581675e20abe4e620b28d8d4539dd3a939d213b01902dc009e33d63953", func := "relucert/relucertlaw46.CertfileDigest", spec := "certfileDigest", unfollowed := true, recurses := true, named := ["relucert/phase.opposites"], plainKeys := false, apart := false, laid := [("relucert/phase.opposites", laid_relucert_phase_opposites)] }
def CertfileDigestSaid : Prop := certfileDigestRow.holds Tryz.pinned (OpenSpec.ofChange certfileDigestSpec)

/-- ITS FALSE NEIGHBOUR: 'it returns false'. Refute it at one input. -/
def certfileDigestWrong : ChangeSpec := { name := "certfileDigest", fn := fun _ => fun
  | [d1, d2] => { results := [.lit (.bool false)], args := [d1, d2] }
  | _ => none }
def CertfileDigestWrongFalsely : Prop := certfileDigestRow.holds Tryz.pinned (OpenSpec.ofChange certfileDigestWrong)

/- THE SECOND FORM. 'bulk': how many values and letters a reading holds, each counted each time it is reached (what is shared counts as often as it is met; a slice's spare places count too). A statement '..UptoSaid' is the law's where the arguments, and the package variables that the reading takes, are together of bulk at most 1048576: NARROWER than '..Said'. Prove '..Said' where nothing that the law and all that it calls make is longer than what came in: it says more and counts as full. Else prove '..UptoSaid'. A law counts once. -/
mutual
def uptoBulk {H : Type} : DataW H → Nat
  | .lit (.string bytes) => bytes.length + 1
  | .lit _ => 1
  | .nil => 1
  | .ptr d => uptoBulk d + 1
  | .slice elems spare => uptoBulkAll elems + uptoBulkAll spare + 1
  | .agg parts => uptoBulkAll parts + 1
  | .iface _ d => uptoBulk d + 1
  | .map entries => uptoBulkEntries entries + 1
  | .held _ => 1
def uptoBulkAll {H : Type} : List (DataW H) → Nat
  | [] => 0
  | d :: r => uptoBulk d + uptoBulkAll r
def uptoBulkEntries {H : Type} : List (Lit × DataW H) → Nat
  | [] => 0
  | x :: r => uptoBulkEntry x + uptoBulkEntries r
def uptoBulkEntry {H : Type} : Lit × DataW H → Nat
  | (.string bytes, d) => bytes.length + uptoBulk d + 1
  | (_, d) => uptoBulk d + 1
 end
def uptoSmall : (H : Type) → List (DataW H) → Bool := fun _ ds => decide (uptoBulkAll ds ≤ 1048576)
def OpenSpec.upto (s : _root_.Go.ChangeSpec) : _root_.Go.OpenSpec := { _root_.Go.OpenSpec.ofChange s with cond := some uptoSmall }

/-- 'relucertlaw47.JournalAny', WHERE WHAT IT READS IS OF BULK AT MOST 1048576: true; the input reads as it did. -/
def journalAnyUptoRow : OpenClaim := { program := "ytpeidnhjcompmaagreatdoor", sum := "8c2fe2581675e20abe4e620b28d8d4539dd3a939d213b01902dc009e33d63953", func := "relucert/relucertlaw47.JournalAny", spec := "journalAny", unfollowed := true, recurses := true, named := ["relucert/phase.opposites"], plainKeys := false, apart := false, laid := [("relucert/phase.opposites", laid_relucert_phase_opposites)], narrowed := true }
def JournalAnyUptoSaid : Prop := journalAnyUptoRow.holds Tryz.pinned (OpenSpec.upto journalAnySpec)

/-- 'relucertlaw47.JournalRecovers', WHERE WHAT IT READS IS OF BULK AT MOST 1048576: true; the input reads as it did. -/
def journalRecoversUptoRow : OpenClaim := { program := "ytpeidnhjcompmaagreatdoor", sum := "8c2fe2581675e20abe4e620b28d8d4539dd3a939d213b01902dc009e33d63953", func := "relucert/relucertlaw47.JournalRecovers", spec := "journalRecovers", unfollowed := true, recurses := true, named := ["relucert/phase.opposites"], loops := true, plainKeys := false, apart := false, laid := [("relucert/phase.opposites", laid_relucert_phase_opposites)], narrowed := true }
def JournalRecoversUptoSaid : Prop := journalRecoversUptoRow.holds Tryz.pinned (OpenSpec.upto journalRecoversSpec)

/-- 'relucertlaw47.JournalCut', WHERE WHAT IT READS IS OF BULK AT MOST 1048576: true; the input reads as it did. -/
def journalCutUptoRow : OpenClaim := { program := "ytpeidnhjcompmaagreatdoor", sum := "8c2fe2581675e20abe4e620b28d8d4539dd3a939d213b01902dc009e33d63953", func := "relucert/relucertlaw47.JournalCut", spec := "journalCut", unfollowed := true, recurses := true, named := ["relucert/phase.opposites"], loops := true, plainKeys := false, apart := false, laid := [("relucert/phase.opposites", laid_relucert_phase_opposites)], narrowed := true }
def JournalCutUptoSaid : Prop := journalCutUptoRow.holds Tryz.pinned (OpenSpec.upto journalCutSpec)

/-- 'relucertlaw47.JournalDamage', WHERE WHAT IT READS IS OF BULK AT MOST 1048576: true; the input reads as it did. -/
def journalDamageUptoRow : OpenClaim := { program := "ytpeidnhjcompmaagreatdoor", sum := "8c2fe2581675e20abe4e620b28d8d4539dd3a939d213b01902dc009e33d63953", func := "relucert/relucertlaw47.JournalDamage", spec := "journalDamage", unfollowed := true, recurses := true, named := ["relucert/phase.opposites"], loops := true, plainKeys := false, apart := false, laid := [("relucert/phase.opposites", laid_relucert_phase_opposites)], narrowed := true }
def JournalDamageUptoSaid : Prop := journalDamageUptoRow.holds Tryz.pinned (OpenSpec.upto journalDamageSpec)

/-- 'relucertlaw47.JournalWrites', WHERE WHAT IT READS IS OF BULK AT MOST 1048576: true; the input reads as it did. -/
def journalWritesUptoRow : OpenClaim := { program := "ytpeidnhjcompmaagreatdoor", sum := "8c2fe2581675e20abe4e620b28d8d4539dd3a939d213b01902dc009e33d63953", func := "relucert/relucertlaw47.JournalWrites", spec := "journalWrites", unfollowed := true, recurses := true, named := ["relucert/phase.opposites"], loops := true, plainKeys := false, apart := false, laid := [("relucert/phase.opposites", laid_relucert_phase_opposites)], narrowed := true }
def JournalWritesUptoSaid : Prop := journalWritesUptoRow.holds Tryz.pinned (OpenSpec.upto journalWritesSpec)

/-- 'relucertlaw47.JournalPayload', WHERE WHAT IT READS IS OF BULK AT MOST 1048576: true; the input reads as it did. -/
def journalPayloadUptoRow : OpenClaim := { program := "ytpeidnhjcompmaagreatdoor", sum := "8c2fe2581675e20abe4e620b28d8d4539dd3a939d213b01902dc009e33d63953", func := "relucert/relucertlaw47.JournalPayload", spec := "journalPayload", unfollowed := true, recurses := true, named := ["relucert/phase.opposites"], loops := true, plainKeys := false, apart := false, laid := [("relucert/phase.opposites", laid_relucert_phase_opposites)], narrowed := true }
def JournalPayloadUptoSaid : Prop := journalPayloadUptoRow.holds Tryz.pinned (OpenSpec.upto journalPayloadSpec)

/-- 'relucertlaw47.JournalBuild', WHERE WHAT IT READS IS OF BULK AT MOST 1048576: true; the input reads as it did. -/
def journalBuildUptoRow : OpenClaim := { program := "ytpeidnhjcompmaagreatdoor", sum := "8c2fe2581675e20abe4e620b28d8d4539dd3a939d213b01902dc009e33d63953", func := "relucert/relucertlaw47.JournalBuild", spec := "journalBuild", unfollowed := true, recurses := true, named := ["relucert/phase.opposites"], loops := true, plainKeys := false, apart := false, laid := [("relucert/phase.opposites", laid_relucert_phase_opposites)], narrowed := true }
def JournalBuildUptoSaid : Prop := journalBuildUptoRow.holds Tryz.pinned (OpenSpec.upto journalBuildSpec)

/-- 'relucertlaw47.JournalTree', WHERE WHAT IT READS IS OF BULK AT MOST 1048576: true; the input reads as it did. -/
def journalTreeUptoRow : OpenClaim := { program := "ytpeidnhjcompmaagreatdoor", sum := "8c2fe2581675e20abe4e620b28d8d4539dd3a939d213b01902dc009e33d63953", func := "relucert/relucertlaw47.JournalTree", spec := "journalTree", unfollowed := true, recurses := true, named := ["relucert/phase.opposites"], loops := true, plainKeys := false, apart := false, laid := [("relucert/phase.opposites", laid_relucert_phase_opposites)], narrowed := true }
def JournalTreeUptoSaid : Prop := journalTreeUptoRow.holds Tryz.pinned (OpenSpec.upto journalTreeSpec)

/-- 'relucertlaw46.CertfileDigest', WHERE WHAT IT READS IS OF BULK AT MOST 1048576: true; the input reads as it did. -/
def certfileDigestUptoRow : OpenClaim := { program := "ytpeidnhjcompmaagreatdoor", sum := "8c2fe2581675e20abe4e620b28d8d4539dd3a939d213b01902dc009e33d63953", func := "relucert/relucertlaw46.CertfileDigest", spec := "certfileDigest", unfollowed := true, recurses := true, named := ["relucert/phase.opposites"], plainKeys := false, apart := false, laid := [("relucert/phase.opposites", laid_relucert_phase_opposites)], narrowed := true }
def CertfileDigestUptoSaid : Prop := certfileDigestUptoRow.holds Tryz.pinned (OpenSpec.upto certfileDigestSpec)

end Rows
end Go.Proofs.YtpeidnhjcompmaaGreatDoor

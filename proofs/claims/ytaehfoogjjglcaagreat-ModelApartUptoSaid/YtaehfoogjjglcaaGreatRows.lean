/-
  No cell of these rows narrows 'for every input' (looked for: loops, veiled, ifaces, maps, wideKeys, modest, calm, conditions, laid).
  DERIVED. THE GIVEN ROWS OF THIS SEAT. 5 by the template 'for every input the law returns true; each argument reads behind the call as it read before'; 0 by the template 'total and deterministic' (their statements: YtaehfoogjjglcaaGreatTotals.lean).
  GIVEN WITH THE SEED: the statements are not yours to turn. If you find one false, say at which input.
  Laid BY PROGRAM, IN A SANDBOX (cutbox-rows.mjs): the forced cells as the released guide's own fill.sh prints them over the translation 18a0b9751cf24fa8… (all of the seat's roots in one cut). By AI agents, Wed Nov 11 2026. No macro, syntax, notation, axiom, sorry.
-/
import Derived.Test.YtaehfoogjjglcaaGreatChecked
import GoSem.Claim
import GoSem.ClaimJoined
import GoSem.ClaimMapViews
import Derived.JoinedTies
import Derived.KernelRfl
namespace Go.Proofs.YtaehfoogjjglcaaGreat
/- THE CELL 'sum', in the pinned program and in every row, IS THE sha256 OF THE DUMP (.gsa) THAT YtaehfoogjjglcaaGreatProg.lean LOADS. Nothing in Lean hashes anything: it is a label: what it is worth is what the hold of that sum in a sandbox is worth. -/
noncomputable def Tryz.pinned : Pinned := { name := "ytaehfoogjjglcaagreat", sum := "18a0b9751cf24fa841d0219f745b734f7edcf7db2f9c396500dd99b0779bcac7", checked := Tryz.checked }
namespace Rows
def none {H : Type} : Left H := { results := [], args := [] }

/-- 'relucertlaw12.ModelEncode': WHATEVER THE INPUT: true; the input reads as it did. -/
def modelEncodeSpec : ChangeSpec := { name := "modelEncode", fn := fun _ => fun
  | [d] => { results := [.lit (.bool true)], args := [d] }
  | _ => none }
def modelEncodeRow : OpenClaim := { program := "ytaehfoogjjglcaagreat", sum := "18a0b9751cf24fa841d0219f745b734f7edcf7db2f9c396500dd99b0779bcac7", func := "relucert/relucertlaw12.ModelEncode", spec := "modelEncode", unfollowed := true, recurses := true, apart := false }
def ModelEncodeSaid : Prop := modelEncodeRow.holds Tryz.pinned (OpenSpec.ofChange modelEncodeSpec)

/-- ITS FALSE NEIGHBOUR: 'it returns false'. Refute it at one input. -/
def modelEncodeWrong : ChangeSpec := { name := "modelEncode", fn := fun _ => fun
  | [d] => { results := [.lit (.bool false)], args := [d] }
  | _ => none }
def ModelEncodeWrongFalsely : Prop := modelEncodeRow.holds Tryz.pinned (OpenSpec.ofChange modelEncodeWrong)

/-- 'relucertlaw12.ModelRoundTrip': WHATEVER THE INPUT: true; the input reads as it did. -/
def modelRoundTripSpec : ChangeSpec := { name := "modelRoundTrip", fn := fun _ => fun
  | [d] => { results := [.lit (.bool true)], args := [d] }
  | _ => none }
def modelRoundTripRow : OpenClaim := { program := "ytaehfoogjjglcaagreat", sum := "18a0b9751cf24fa841d0219f745b734f7edcf7db2f9c396500dd99b0779bcac7", func := "relucert/relucertlaw12.ModelRoundTrip", spec := "modelRoundTrip", unfollowed := true, recurses := true, apart := false }
def ModelRoundTripSaid : Prop := modelRoundTripRow.holds Tryz.pinned (OpenSpec.ofChange modelRoundTripSpec)

/-- ITS FALSE NEIGHBOUR: 'it returns false'. Refute it at one input. -/
def modelRoundTripWrong : ChangeSpec := { name := "modelRoundTrip", fn := fun _ => fun
  | [d] => { results := [.lit (.bool false)], args := [d] }
  | _ => none }
def ModelRoundTripWrongFalsely : Prop := modelRoundTripRow.holds Tryz.pinned (OpenSpec.ofChange modelRoundTripWrong)

/-- 'relucertlaw12.ModelChanged': WHATEVER THE INPUT: true; the input reads as it did. -/
def modelChangedSpec : ChangeSpec := { name := "modelChanged", fn := fun _ => fun
  | [d1, d2, d3] => { results := [.lit (.bool true)], args := [d1, d2, d3] }
  | _ => none }
def modelChangedRow : OpenClaim := { program := "ytaehfoogjjglcaagreat", sum := "18a0b9751cf24fa841d0219f745b734f7edcf7db2f9c396500dd99b0779bcac7", func := "relucert/relucertlaw12.ModelChanged", spec := "modelChanged", unfollowed := true, recurses := true, apart := false }
def ModelChangedSaid : Prop := modelChangedRow.holds Tryz.pinned (OpenSpec.ofChange modelChangedSpec)

/-- ITS FALSE NEIGHBOUR: 'it returns false'. Refute it at one input. -/
def modelChangedWrong : ChangeSpec := { name := "modelChanged", fn := fun _ => fun
  | [d1, d2, d3] => { results := [.lit (.bool false)], args := [d1, d2, d3] }
  | _ => none }
def ModelChangedWrongFalsely : Prop := modelChangedRow.holds Tryz.pinned (OpenSpec.ofChange modelChangedWrong)

/-- 'relucertlaw12.ModelApart': WHATEVER THE INPUT: true; the input reads as it did. -/
def modelApartSpec : ChangeSpec := { name := "modelApart", fn := fun _ => fun
  | [d] => { results := [.lit (.bool true)], args := [d] }
  | _ => none }
def modelApartRow : OpenClaim := { program := "ytaehfoogjjglcaagreat", sum := "18a0b9751cf24fa841d0219f745b734f7edcf7db2f9c396500dd99b0779bcac7", func := "relucert/relucertlaw12.ModelApart", spec := "modelApart", unfollowed := true, recurses := true, apart := false }
def ModelApartSaid : Prop := modelApartRow.holds Tryz.pinned (OpenSpec.ofChange modelApartSpec)

/-- ITS FALSE NEIGHBOUR: 'it returns false'. Refute it at one input. -/
def modelApartWrong : ChangeSpec := { name := "modelApart", fn := fun _ => fun
  | [d] => { results := [.lit (.bool false)], args := [d] }
  | _ => none }
def ModelApartWrongFalsely : Prop := modelApartRow.holds Tryz.pinned (OpenSpec.ofChange modelApartWrong)

/-- 'relucertlaw12.ModelValid': WHATEVER THE INPUT: true; the input reads as it did. -/
def modelValidSpec : ChangeSpec := { name := "modelValid", fn := fun _ => fun
  | [d] => { results := [.lit (.bool true)], args := [d] }
  | _ => none }
def modelValidRow : OpenClaim := { program := "ytaehfoogjjglcaagreat", sum := "18a0b9751cf24fa841d0219f745b734f7edcf7db2f9c396500dd99b0779bcac7", func := "relucert/relucertlaw12.ModelValid", spec := "modelValid", unfollowed := true, recurses := true, apart := false }
def ModelValidSaid : Prop := modelValidRow.holds Tryz.pinned (OpenSpec.ofChange modelValidSpec)

/-- ITS FALSE NEIGHBOUR: 'it returns false'. Refute it at one input. -/
def modelValidWrong : ChangeSpec := { name := "modelValid", fn := fun _ => fun
  | [d] => { results := [.lit (.bool false)], args := [d] }
  | _ => none }
def ModelValidWrongFalsely : Prop := modelValidRow.holds Tryz.pinned (OpenSpec.ofChange modelValidWrong)

/- THE SECOND FORM. 'bulk': how many values and letters a reading holds, each counted each time it is reached (what is shared counts as often as it is met; a slice's spare places count too). A statement '..UptoSaid' is the law's where the arguments, and the package variables that the reading takes, are together of bulk at most 1048576: NARROWER than '..Said'. Prove '..Said' where nothing that the law and all that it calls make is longer than what came in: it says more and counts as full. Else prove '..UptoSaid'. A law counts once. -/
mutual
def uptoBulk {H : Type} : DataW H → Nat
  | .lit (.string bytes) => bytes.length + 1
  | .lit _ => 1
  | .nil => 1
  | .ptr d => uptoBulk d + 1
  | .slice elems spare => uptoBulkAll elems + uptoBulkAll spare + 1
  | .agg parts => uptoBulkAll parts + 1
  | .iface _ d => uptoBulk d + 1
  | .map entries => uptoBulkEntries entries + 1
  | .held _ => 1
def uptoBulkAll {H : Type} : List (DataW H) → Nat
  | [] => 0
  | d :: r => uptoBulk d + uptoBulkAll r
def uptoBulkEntries {H : Type} : List (Lit × DataW H) → Nat
  | [] => 0
  | x :: r => uptoBulkEntry x + uptoBulkEntries r
def uptoBulkEntry {H : Type} : Lit × DataW H → Nat
  | (.string bytes, d) => bytes.length + uptoBulk d + 1
  | (_, d) => uptoBulk d + 1
 end
def uptoSmall : (H : Type) → List (DataW H) → Bool := fun _ ds => decide (uptoBulkAll ds ≤ 1048576)
def OpenSpec.upto (s : _root_.Go.ChangeSpec) : _root_.Go.OpenSpec := { _root_.Go.OpenSpec.ofChange s with cond := some uptoSmall }

/-- 'relucertlaw12.ModelEncode', WHERE WHAT IT READS IS OF BULK AT MOST 1048576: true; the input reads as it did. -/
def modelEncodeUptoRow : OpenClaim := { program := "ytaehfoogjjglcaagreat", sum := "18a0b9751cf24fa841d0219f745b734f7edcf7db2f9c396500dd99b0779bcac7", func := "relucert/relucertlaw12.ModelEncode", spec := "modelEncode", unfollowed := true, recurses := true, apart := false, narrowed := true }
def ModelEncodeUptoSaid : Prop := modelEncodeUptoRow.holds Tryz.pinned (OpenSpec.upto modelEncodeSpec)

/-- 'relucertlaw12.ModelRoundTrip', WHERE WHAT IT READS IS OF BULK AT MOST 1048576: true; the input reads as it did. -/
def modelRoundTripUptoRow : OpenClaim := { program := "ytaehfoogjjglcaagreat", sum := "18a0b9751cf24fa841d0219f745b734f7edcf7db2f9c396500dd99b0779bcac7", func := "relucert/relucertlaw12.ModelRoundTrip", spec := "modelRoundTrip", unfollowed := true, recurses := true, apart := false, narrowed := true }
def ModelRoundTripUptoSaid : Prop := modelRoundTripUptoRow.holds Tryz.pinned (OpenSpec.upto modelRoundTripSpec)

/-- 'relucertlaw12.ModelChanged', WHERE WHAT IT READS IS OF BULK AT MOST 1048576: true; the input reads as it did. -/
def modelChangedUptoRow : OpenClaim := { program := "ytaehfoogjjglcaagreat", sum := "18a0b9751cf24fa841d0219f745b734f7edcf7db2f9c396500dd99b0779bcac7", func := "relucert/relucertlaw12.ModelChanged", spec := "modelChanged", unfollowed := true, recurses := true, apart := false, narrowed := true }
def ModelChangedUptoSaid : Prop := modelChangedUptoRow.holds Tryz.pinned (OpenSpec.upto modelChangedSpec)

/-- 'relucertlaw12.ModelApart', WHERE WHAT IT READS IS OF BULK AT MOST 1048576: true; the input reads as it did. -/
def modelApartUptoRow : OpenClaim := { program := "ytaehfoogjjglcaagreat", sum := "18a0b9751cf24fa841d0219f745b734f7edcf7db2f9c396500dd99b0779bcac7", func := "relucert/relucertlaw12.ModelApart", spec := "modelApart", unfollowed := true, recurses := true, apart := false, narrowed := true }
def ModelApartUptoSaid : Prop := modelApartUptoRow.holds Tryz.pinned (OpenSpec.upto modelApartSpec)

/-- 'relucertlaw12.ModelValid', WHERE WHAT IT READS IS OF BULK AT MOST 1048576: true; the input reads as it did. -/
def modelValidUptoRow : OpenClaim := { program := "ytaehfoogjjglcaagreat", sum := "18a0b9751cf24fa841d0219f745b734f7edcf7db2f9c396500dd99b0779bcac7", func := "relucert/relucertlaw12.ModelValid", spec := "modelValid", unfollowed := true, recurses := true, apart := false, narrowed := true }
def ModelValidUptoSaid : Prop := modelValidUptoRow.holds Tryz.pinned (OpenSpec.upto modelValidSpec)

end Rows
end Go.Proofs.YtaehfoogjjglcaaGreat

/-
  No cell of these rows narrows 'for every input' (looked for: loops, veiled, ifaces, maps, wideKeys, modest, calm, conditions, laid).
  DERIVED. THE GIVEN ROWS OF THIS SEAT. 11 by the template 'for every input the law returns true; each argument reads behind the call as it read before'; 0 by the template 'total and deterministic' (their statements: YtifjnhdnpglbpaaTotals.lean).
  GIVEN WITH THE SEED: the statements are not yours to turn. If you find one false, say at which input.
  Laid BY PROGRAM, IN A SANDBOX (cutbox-rows.mjs): the forced cells as the released guide's own fill.sh prints them over the translation 6026d89af9a90542… (all of the seat's roots in one cut). By AI agents, Wed Nov 11 2026. No macro, syntax, notation, axiom, sorry.
-/
import Derived.Test.YtifjnhdnpglbpaaChecked
import GoSem.Claim
import GoSem.ClaimJoined
import GoSem.ClaimMapViews
import Derived.JoinedTies
import Derived.KernelRfl
namespace Go.Proofs.Ytifjnhdnpglbpaa
/- THE CELL 'sum', in the pinned program and in every row, IS THE sha256 OF THE DUMP (.gsa) THAT YtifjnhdnpglbpaaProg.lean LOADS. Nothing in Lean hashes anything: it is a label: what it is worth is what the hold of that sum in a sandbox is worth. -/
noncomputable def Try.pinned : Pinned := { name := "ytifjnhdnpglbpaa", sum := "6026d89af9a90542dc1276da1411b55a61e525c4ed9ead910c0cd182a3d96f0e", checked := Try.checked }
namespace Rows
def none {H : Type} : Left H := { results := [], args := [] }

/-- 'relucertlaw10.CompressPack': WHATEVER THE INPUT: true; the input reads as it did. -/
def compressPackSpec : ChangeSpec := { name := "compressPack", fn := fun _ => fun
  | [d] => { results := [.lit (.bool true)], args := [d] }
  | _ => none }
def compressPackRow : OpenClaim := { program := "ytifjnhdnpglbpaa", sum := "6026d89af9a90542dc1276da1411b55a61e525c4ed9ead910c0cd182a3d96f0e", func := "relucert/relucertlaw10.CompressPack", spec := "compressPack", unfollowed := true, recurses := true, plainKeys := false, apart := false }
def CompressPackSaid : Prop := compressPackRow.holds Try.pinned (OpenSpec.ofChange compressPackSpec)

/-- ITS FALSE NEIGHBOUR: 'it returns false'. Refute it at one input. -/
def compressPackWrong : ChangeSpec := { name := "compressPack", fn := fun _ => fun
  | [d] => { results := [.lit (.bool false)], args := [d] }
  | _ => none }
def CompressPackWrongFalsely : Prop := compressPackRow.holds Try.pinned (OpenSpec.ofChange compressPackWrong)

/-- 'relucertlaw10.CompressUnpack': WHATEVER THE INPUT: true; the input reads as it did. -/
def compressUnpackSpec : ChangeSpec := { name := "compressUnpack", fn := fun _ => fun
  | [d1, d2] => { results := [.lit (.bool true)], args := [d1, d2] }
  | _ => none }
def compressUnpackRow : OpenClaim := { program := "ytifjnhdnpglbpaa", sum := "6026d89af9a90542dc1276da1411b55a61e525c4ed9ead910c0cd182a3d96f0e", func := "relucert/relucertlaw10.CompressUnpack", spec := "compressUnpack", unfollowed := true, recurses := true, plainKeys := false, apart := false }
def CompressUnpackSaid : Prop := compressUnpackRow.holds Try.pinned (OpenSpec.ofChange compressUnpackSpec)

/-- ITS FALSE NEIGHBOUR: 'it returns false'. Refute it at one input. -/
def compressUnpackWrong : ChangeSpec := { name := "compressUnpack", fn := fun _ => fun
  | [d1, d2] => { results := [.lit (.bool false)], args := [d1, d2] }
  | _ => none }
def CompressUnpackWrongFalsely : Prop := compressUnpackRow.holds Try.pinned (OpenSpec.ofChange compressUnpackWrong)

/-- 'relucertlaw10.CompressInverse': WHATEVER THE INPUT: true; the input reads as it did. -/
def compressInverseSpec : ChangeSpec := { name := "compressInverse", fn := fun _ => fun
  | [d1, d2] => { results := [.lit (.bool true)], args := [d1, d2] }
  | _ => none }
def compressInverseRow : OpenClaim := { program := "ytifjnhdnpglbpaa", sum := "6026d89af9a90542dc1276da1411b55a61e525c4ed9ead910c0cd182a3d96f0e", func := "relucert/relucertlaw10.CompressInverse", spec := "compressInverse", unfollowed := true, recurses := true, plainKeys := false, apart := false }
def CompressInverseSaid : Prop := compressInverseRow.holds Try.pinned (OpenSpec.ofChange compressInverseSpec)

/-- ITS FALSE NEIGHBOUR: 'it returns false'. Refute it at one input. -/
def compressInverseWrong : ChangeSpec := { name := "compressInverse", fn := fun _ => fun
  | [d1, d2] => { results := [.lit (.bool false)], args := [d1, d2] }
  | _ => none }
def CompressInverseWrongFalsely : Prop := compressInverseRow.holds Try.pinned (OpenSpec.ofChange compressInverseWrong)

/-- 'relucertlaw10.CompressUnique': WHATEVER THE INPUT: true; the input reads as it did. -/
def compressUniqueSpec : ChangeSpec := { name := "compressUnique", fn := fun _ => fun
  | [d] => { results := [.lit (.bool true)], args := [d] }
  | _ => none }
def compressUniqueRow : OpenClaim := { program := "ytifjnhdnpglbpaa", sum := "6026d89af9a90542dc1276da1411b55a61e525c4ed9ead910c0cd182a3d96f0e", func := "relucert/relucertlaw10.CompressUnique", spec := "compressUnique", unfollowed := true, recurses := true, plainKeys := false, apart := false }
def CompressUniqueSaid : Prop := compressUniqueRow.holds Try.pinned (OpenSpec.ofChange compressUniqueSpec)

/-- ITS FALSE NEIGHBOUR: 'it returns false'. Refute it at one input. -/
def compressUniqueWrong : ChangeSpec := { name := "compressUnique", fn := fun _ => fun
  | [d] => { results := [.lit (.bool false)], args := [d] }
  | _ => none }
def CompressUniqueWrongFalsely : Prop := compressUniqueRow.holds Try.pinned (OpenSpec.ofChange compressUniqueWrong)

/-- 'relucertlaw10.CompressSize': WHATEVER THE INPUT: true; the input reads as it did. -/
def compressSizeSpec : ChangeSpec := { name := "compressSize", fn := fun _ => fun
  | [d] => { results := [.lit (.bool true)], args := [d] }
  | _ => none }
def compressSizeRow : OpenClaim := { program := "ytifjnhdnpglbpaa", sum := "6026d89af9a90542dc1276da1411b55a61e525c4ed9ead910c0cd182a3d96f0e", func := "relucert/relucertlaw10.CompressSize", spec := "compressSize", unfollowed := true, recurses := true, plainKeys := false, apart := false }
def CompressSizeSaid : Prop := compressSizeRow.holds Try.pinned (OpenSpec.ofChange compressSizeSpec)

/-- ITS FALSE NEIGHBOUR: 'it returns false'. Refute it at one input. -/
def compressSizeWrong : ChangeSpec := { name := "compressSize", fn := fun _ => fun
  | [d] => { results := [.lit (.bool false)], args := [d] }
  | _ => none }
def CompressSizeWrongFalsely : Prop := compressSizeRow.holds Try.pinned (OpenSpec.ofChange compressSizeWrong)

/-- 'relucertlaw10.CompressRepeats': WHATEVER THE INPUT: true; the input reads as it did. -/
def compressRepeatsSpec : ChangeSpec := { name := "compressRepeats", fn := fun _ => fun
  | [d1, d2] => { results := [.lit (.bool true)], args := [d1, d2] }
  | _ => none }
def compressRepeatsRow : OpenClaim := { program := "ytifjnhdnpglbpaa", sum := "6026d89af9a90542dc1276da1411b55a61e525c4ed9ead910c0cd182a3d96f0e", func := "relucert/relucertlaw10.CompressRepeats", spec := "compressRepeats", unfollowed := true, recurses := true, plainKeys := false, apart := false }
def CompressRepeatsSaid : Prop := compressRepeatsRow.holds Try.pinned (OpenSpec.ofChange compressRepeatsSpec)

/-- ITS FALSE NEIGHBOUR: 'it returns false'. Refute it at one input. -/
def compressRepeatsWrong : ChangeSpec := { name := "compressRepeats", fn := fun _ => fun
  | [d1, d2] => { results := [.lit (.bool false)], args := [d1, d2] }
  | _ => none }
def CompressRepeatsWrongFalsely : Prop := compressRepeatsRow.holds Try.pinned (OpenSpec.ofChange compressRepeatsWrong)

/-- 'relucertlaw10.CompressFar': WHATEVER THE INPUT: true; the input reads as it did. -/
def compressFarSpec : ChangeSpec := { name := "compressFar", fn := fun _ => fun
  | [d1, d2] => { results := [.lit (.bool true)], args := [d1, d2] }
  | _ => none }
def compressFarRow : OpenClaim := { program := "ytifjnhdnpglbpaa", sum := "6026d89af9a90542dc1276da1411b55a61e525c4ed9ead910c0cd182a3d96f0e", func := "relucert/relucertlaw10.CompressFar", spec := "compressFar", unfollowed := true, recurses := true, plainKeys := false, apart := false }
def CompressFarSaid : Prop := compressFarRow.holds Try.pinned (OpenSpec.ofChange compressFarSpec)

/-- ITS FALSE NEIGHBOUR: 'it returns false'. Refute it at one input. -/
def compressFarWrong : ChangeSpec := { name := "compressFar", fn := fun _ => fun
  | [d1, d2] => { results := [.lit (.bool false)], args := [d1, d2] }
  | _ => none }
def CompressFarWrongFalsely : Prop := compressFarRow.holds Try.pinned (OpenSpec.ofChange compressFarWrong)

/-- 'relucertlaw08.WireRoundTrip': WHATEVER THE INPUT: true; the input reads as it did. -/
def wireRoundTripSpec : ChangeSpec := { name := "wireRoundTrip", fn := fun _ => fun
  | [d] => { results := [.lit (.bool true)], args := [d] }
  | _ => none }
def wireRoundTripRow : OpenClaim := { program := "ytifjnhdnpglbpaa", sum := "6026d89af9a90542dc1276da1411b55a61e525c4ed9ead910c0cd182a3d96f0e", func := "relucert/relucertlaw08.WireRoundTrip", spec := "wireRoundTrip", plainKeys := false, apart := false }
def WireRoundTripSaid : Prop := wireRoundTripRow.holds Try.pinned (OpenSpec.ofChange wireRoundTripSpec)

/-- ITS FALSE NEIGHBOUR: 'it returns false'. Refute it at one input. -/
def wireRoundTripWrong : ChangeSpec := { name := "wireRoundTrip", fn := fun _ => fun
  | [d] => { results := [.lit (.bool false)], args := [d] }
  | _ => none }
def WireRoundTripWrongFalsely : Prop := wireRoundTripRow.holds Try.pinned (OpenSpec.ofChange wireRoundTripWrong)

/-- 'relucertlaw08.WireReads': WHATEVER THE INPUT: true; the input reads as it did. -/
def wireReadsSpec : ChangeSpec := { name := "wireReads", fn := fun _ => fun
  | [d1, d2] => { results := [.lit (.bool true)], args := [d1, d2] }
  | _ => none }
def wireReadsRow : OpenClaim := { program := "ytifjnhdnpglbpaa", sum := "6026d89af9a90542dc1276da1411b55a61e525c4ed9ead910c0cd182a3d96f0e", func := "relucert/relucertlaw08.WireReads", spec := "wireReads", plainKeys := false, apart := false }
def WireReadsSaid : Prop := wireReadsRow.holds Try.pinned (OpenSpec.ofChange wireReadsSpec)

/-- ITS FALSE NEIGHBOUR: 'it returns false'. Refute it at one input. -/
def wireReadsWrong : ChangeSpec := { name := "wireReads", fn := fun _ => fun
  | [d1, d2] => { results := [.lit (.bool false)], args := [d1, d2] }
  | _ => none }
def WireReadsWrongFalsely : Prop := wireReadsRow.holds Try.pinned (OpenSpec.ofChange wireReadsWrong)

/-- 'relucertlaw08.WireUnique': WHATEVER THE INPUT: true; the input reads as it did. -/
def wireUniqueSpec : ChangeSpec := { name := "wireUnique", fn := fun _ => fun
  | [d1, d2] => { results := [.lit (.bool true)], args := [d1, d2] }
  | _ => none }
def wireUniqueRow : OpenClaim := { program := "ytifjnhdnpglbpaa", sum := "6026d89af9a90542dc1276da1411b55a61e525c4ed9ead910c0cd182a3d96f0e", func := "relucert/relucertlaw08.WireUnique", spec := "wireUnique", plainKeys := false, apart := false }
def WireUniqueSaid : Prop := wireUniqueRow.holds Try.pinned (OpenSpec.ofChange wireUniqueSpec)

/-- ITS FALSE NEIGHBOUR: 'it returns false'. Refute it at one input. -/
def wireUniqueWrong : ChangeSpec := { name := "wireUnique", fn := fun _ => fun
  | [d1, d2] => { results := [.lit (.bool false)], args := [d1, d2] }
  | _ => none }
def WireUniqueWrongFalsely : Prop := wireUniqueRow.holds Try.pinned (OpenSpec.ofChange wireUniqueWrong)

/-- 'relucertlaw08.WireNil': WHATEVER THE INPUT: true; the input reads as it did. -/
def wireNilSpec : ChangeSpec := { name := "wireNil", fn := fun _ => fun
  | [d] => { results := [.lit (.bool true)], args := [d] }
  | _ => none }
def wireNilRow : OpenClaim := { program := "ytifjnhdnpglbpaa", sum := "6026d89af9a90542dc1276da1411b55a61e525c4ed9ead910c0cd182a3d96f0e", func := "relucert/relucertlaw08.WireNil", spec := "wireNil", plainKeys := false, apart := false }
def WireNilSaid : Prop := wireNilRow.holds Try.pinned (OpenSpec.ofChange wireNilSpec)

/-- ITS FALSE NEIGHBOUR: 'it returns false'. Refute it at one input. -/
def wireNilWrong : ChangeSpec := { name := "wireNil", fn := fun _ => fun
  | [d] => { results := [.lit (.bool false)], args := [d] }
  | _ => none }
def WireNilWrongFalsely : Prop := wireNilRow.holds Try.pinned (OpenSpec.ofChange wireNilWrong)

/- THE SECOND FORM. 'bulk': how many values and letters a reading holds, each counted each time it is reached (what is shared counts as often as it is met; a slice's spare places count too). A statement '..UptoSaid' is the law's where the arguments, and the package variables that the reading takes, are together of bulk at most 1048576: NARROWER than '..Said'. Prove '..Said' where nothing that the law and all that it calls make is longer than what came in: it says more and counts as full. Else prove '..UptoSaid'. A law counts once. -/
mutual
def uptoBulk {H : Type} : DataW H → Nat
  | .lit (.string bytes) => bytes.length + 1
  | .lit _ => 1
  | .nil => 1
  | .ptr d => uptoBulk d + 1
  | .slice elems spare => uptoBulkAll elems + uptoBulkAll spare + 1
  | .agg parts => uptoBulkAll parts + 1
  | .iface _ d => uptoBulk d + 1
  | .map entries => uptoBulkEntries entries + 1
  | .held _ => 1
def uptoBulkAll {H : Type} : List (DataW H) → Nat
  | [] => 0
  | d :: r => uptoBulk d + uptoBulkAll r
def uptoBulkEntries {H : Type} : List (Lit × DataW H) → Nat
  | [] => 0
  | x :: r => uptoBulkEntry x + uptoBulkEntries r
def uptoBulkEntry {H : Type} : Lit × DataW H → Nat
  | (.string bytes, d) => bytes.length + uptoBulk d + 1
  | (_, d) => uptoBulk d + 1
 end
def uptoSmall : (H : Type) → List (DataW H) → Bool := fun _ ds => decide (uptoBulkAll ds ≤ 1048576)
def OpenSpec.upto (s : _root_.Go.ChangeSpec) : _root_.Go.OpenSpec := { _root_.Go.OpenSpec.ofChange s with cond := some uptoSmall }

/-- 'relucertlaw10.CompressPack', WHERE WHAT IT READS IS OF BULK AT MOST 1048576: true; the input reads as it did. -/
def compressPackUptoRow : OpenClaim := { program := "ytifjnhdnpglbpaa", sum := "6026d89af9a90542dc1276da1411b55a61e525c4ed9ead910c0cd182a3d96f0e", func := "relucert/relucertlaw10.CompressPack", spec := "compressPack", unfollowed := true, recurses := true, plainKeys := false, apart := false, narrowed := true }
def CompressPackUptoSaid : Prop := compressPackUptoRow.holds Try.pinned (OpenSpec.upto compressPackSpec)

/-- 'relucertlaw10.CompressUnpack', WHERE WHAT IT READS IS OF BULK AT MOST 1048576: true; the input reads as it did. -/
def compressUnpackUptoRow : OpenClaim := { program := "ytifjnhdnpglbpaa", sum := "6026d89af9a90542dc1276da1411b55a61e525c4ed9ead910c0cd182a3d96f0e", func := "relucert/relucertlaw10.CompressUnpack", spec := "compressUnpack", unfollowed := true, recurses := true, plainKeys := false, apart := false, narrowed := true }
def CompressUnpackUptoSaid : Prop := compressUnpackUptoRow.holds Try.pinned (OpenSpec.upto compressUnpackSpec)

/-- 'relucertlaw10.CompressInverse', WHERE WHAT IT READS IS OF BULK AT MOST 1048576: true; the input reads as it did. -/
def compressInverseUptoRow : OpenClaim := { program := "ytifjnhdnpglbpaa", sum := "6026d89af9a90542dc1276da1411b55a61e525c4ed9ead910c0cd182a3d96f0e", func := "relucert/relucertlaw10.CompressInverse", spec := "compressInverse", unfollowed := true, recurses := true, plainKeys := false, apart := false, narrowed := true }
def CompressInverseUptoSaid : Prop := compressInverseUptoRow.holds Try.pinned (OpenSpec.upto compressInverseSpec)

/-- 'relucertlaw10.CompressUnique', WHERE WHAT IT READS IS OF BULK AT MOST 1048576: true; the input reads as it did. -/
def compressUniqueUptoRow : OpenClaim := { program := "ytifjnhdnpglbpaa", sum := "6026d89af9a90542dc1276da1411b55a61e525c4ed9ead910c0cd182a3d96f0e", func := "relucert/relucertlaw10.CompressUnique", spec := "compressUnique", unfollowed := true, recurses := true, plainKeys := false, apart := false, narrowed := true }
def CompressUniqueUptoSaid : Prop := compressUniqueUptoRow.holds Try.pinned (OpenSpec.upto compressUniqueSpec)

/-- 'relucertlaw10.CompressSize', WHERE WHAT IT READS IS OF BULK AT MOST 1048576: true; the input reads as it did. -/
def compressSizeUptoRow : OpenClaim := { program := "ytifjnhdnpglbpaa", sum := "6026d89af9a90542dc1276da1411b55a61e525c4ed9ead910c0cd182a3d96f0e", func := "relucert/relucertlaw10.CompressSize", spec := "compressSize", unfollowed := true, recurses := true, plainKeys := false, apart := false, narrowed := true }
def CompressSizeUptoSaid : Prop := compressSizeUptoRow.holds Try.pinned (OpenSpec.upto compressSizeSpec)

/-- 'relucertlaw10.CompressRepeats', WHERE WHAT IT READS IS OF BULK AT MOST 1048576: true; the input reads as it did. -/
def compressRepeatsUptoRow : OpenClaim := { program := "ytifjnhdnpglbpaa", sum := "6026d89af9a90542dc1276da1411b55a61e525c4ed9ead910c0cd182a3d96f0e", func := "relucert/relucertlaw10.CompressRepeats", spec := "compressRepeats", unfollowed := true, recurses := true, plainKeys := false, apart := false, narrowed := true }
def CompressRepeatsUptoSaid : Prop := compressRepeatsUptoRow.holds Try.pinned (OpenSpec.upto compressRepeatsSpec)

/-- 'relucertlaw10.CompressFar', WHERE WHAT IT READS IS OF BULK AT MOST 1048576: true; the input reads as it did. -/
def compressFarUptoRow : OpenClaim := { program := "ytifjnhdnpglbpaa", sum := "6026d89af9a90542dc1276da1411b55a61e525c4ed9ead910c0cd182a3d96f0e", func := "relucert/relucertlaw10.CompressFar", spec := "compressFar", unfollowed := true, recurses := true, plainKeys := false, apart := false, narrowed := true }
def CompressFarUptoSaid : Prop := compressFarUptoRow.holds Try.pinned (OpenSpec.upto compressFarSpec)

/-- 'relucertlaw08.WireRoundTrip', WHERE WHAT IT READS IS OF BULK AT MOST 1048576: true; the input reads as it did. -/
def wireRoundTripUptoRow : OpenClaim := { program := "ytifjnhdnpglbpaa", sum := "6026d89af9a90542dc1276da1411b55a61e525c4ed9ead910c0cd182a3d96f0e", func := "relucert/relucertlaw08.WireRoundTrip", spec := "wireRoundTrip", plainKeys := false, apart := false, narrowed := true }
def WireRoundTripUptoSaid : Prop := wireRoundTripUptoRow.holds Try.pinned (OpenSpec.upto wireRoundTripSpec)

/-- 'relucertlaw08.WireReads', WHERE WHAT IT READS IS OF BULK AT MOST 1048576: true; the input reads as it did. -/
def wireReadsUptoRow : OpenClaim := { program := "ytifjnhdnpglbpaa", sum := "6026d89af9a90542dc1276da1411b55a61e525c4ed9ead910c0cd182a3d96f0e", func := "relucert/relucertlaw08.WireReads", spec := "wireReads", plainKeys := false, apart := false, narrowed := true }
def WireReadsUptoSaid : Prop := wireReadsUptoRow.holds Try.pinned (OpenSpec.upto wireReadsSpec)

/-- 'relucertlaw08.WireUnique', WHERE WHAT IT READS IS OF BULK AT MOST 1048576: true; the input reads as it did. -/
def wireUniqueUptoRow : OpenClaim := { program := "ytifjnhdnpglbpaa", sum := "6026d89af9a90542dc1276da1411b55a61e525c4ed9ead910c0cd182a3d96f0e", func := "relucert/relucertlaw08.WireUnique", spec := "wireUnique", plainKeys := false, apart := false, narrowed := true }
def WireUniqueUptoSaid : Prop := wireUniqueUptoRow.holds Try.pinned (OpenSpec.upto wireUniqueSpec)

/-- 'relucertlaw08.WireNil', WHERE WHAT IT READS IS OF BULK AT MOST 1048576: true; the input reads as it did. -/
def wireNilUptoRow : OpenClaim := { program := "ytifjnhdnpglbpaa", sum := "6026d89af9a90542dc1276da1411b55a61e525c4ed9ead910c0cd182a3d96f0e", func := "relucert/relucertlaw08.WireNil", spec := "wireNil", plainKeys := false, apart := false, narrowed := true }
def WireNilUptoSaid : Prop := wireNilUptoRow.holds Try.pinned (OpenSpec.upto wireNilSpec)

end Rows
end Go.Proofs.Ytifjnhdnpglbpaa

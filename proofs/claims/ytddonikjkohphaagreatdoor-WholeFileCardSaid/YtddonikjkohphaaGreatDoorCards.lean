/-
  DERIVED. GIVEN WITH THE SEED: THE CARDS: each row of YtddonikjkohphaaGreatDoorRows.lean that lists a variable, with what it lists TIED to the program's text (the seventh form; the later family's looks); each row that meets fmt, with fmt's text TOLD by the authors' own Lean function (tested against real Go, not proved from fmt's source: count such statements apart). THE CARD IS WHAT COUNTS. Prove the row's statement (the work); the ties are given (YtddonikjkohphaaGreatDoorTie.lean); close each card by the builder's one call (the guide's Derived/Test/ToyasCard.lean, 'card_holds'). Laid BY PROGRAM, IN A SANDBOX (cutbox-door.mjs). By AI agents, Wed Nov 11 2026. No macro, syntax, notation, axiom, sorry.
-/
import Derived.Test.YtddonikjkohphaaGreatDoorRows
import GoSem.ClaimSeven
namespace Go.Proofs.YtddonikjkohphaaGreatDoor
namespace Rows

/-- THE TIED CARD OF 'relucerttop.WholeFile'. -/
def wholeFileCard : Claim7 := { stood := { row := wholeFileRow, standIns := [], harness := (true, "e3635f7974f6fddc51a7ce2616b6181ea052a23c77db74014a52c41a3517e3d2"), looks := false }, kinds := [], alts := [], laidByText := true, laidKinds := [.data, .data, .data], laidTests := true, laidLooks := .later }
def WholeFileCardSaid : Prop := Claim7.holds Tryz.pinned (.plain (OpenSpec.ofChange wholeFileSpec)) wholeFileCard

/-- THE TIED CARD OF 'relucerttop.WholeParts'. -/
def wholePartsCard : Claim7 := { stood := { row := wholePartsRow, standIns := [], harness := (true, "e3635f7974f6fddc51a7ce2616b6181ea052a23c77db74014a52c41a3517e3d2"), looks := false }, kinds := [], alts := [], laidByText := true, laidKinds := [.data], laidTests := true, laidLooks := .later }
def WholePartsCardSaid : Prop := Claim7.holds Tryz.pinned (.plain (OpenSpec.ofChange wholePartsSpec)) wholePartsCard

/-- THE TIED CARD OF 'relucerttop.WholeTighter'. -/
def wholeTighterCard : Claim7 := { stood := { row := wholeTighterRow, standIns := [], harness := (true, "e3635f7974f6fddc51a7ce2616b6181ea052a23c77db74014a52c41a3517e3d2"), looks := false }, kinds := [], alts := [], laidByText := true, laidKinds := [.data], laidTests := true, laidLooks := .later }
def WholeTighterCardSaid : Prop := Claim7.holds Tryz.pinned (.plain (OpenSpec.ofChange wholeTighterSpec)) wholeTighterCard

/-- THE SECOND FORM's CARD OF 'relucerttop.WholeFile'. -/
def wholeFileUptoCard : Claim7 := { stood := { row := wholeFileUptoRow, standIns := [], harness := (true, "e3635f7974f6fddc51a7ce2616b6181ea052a23c77db74014a52c41a3517e3d2"), looks := false }, kinds := [], alts := [], laidByText := true, laidKinds := [.data, .data, .data], laidTests := true, laidLooks := .later }
def WholeFileUptoCardSaid : Prop := Claim7.holds Tryz.pinned (.plain (OpenSpec.upto wholeFileSpec)) wholeFileUptoCard

/-- THE SECOND FORM's CARD OF 'relucerttop.WholeParts'. -/
def wholePartsUptoCard : Claim7 := { stood := { row := wholePartsUptoRow, standIns := [], harness := (true, "e3635f7974f6fddc51a7ce2616b6181ea052a23c77db74014a52c41a3517e3d2"), looks := false }, kinds := [], alts := [], laidByText := true, laidKinds := [.data], laidTests := true, laidLooks := .later }
def WholePartsUptoCardSaid : Prop := Claim7.holds Tryz.pinned (.plain (OpenSpec.upto wholePartsSpec)) wholePartsUptoCard

/-- THE SECOND FORM's CARD OF 'relucerttop.WholeTighter'. -/
def wholeTighterUptoCard : Claim7 := { stood := { row := wholeTighterUptoRow, standIns := [], harness := (true, "e3635f7974f6fddc51a7ce2616b6181ea052a23c77db74014a52c41a3517e3d2"), looks := false }, kinds := [], alts := [], laidByText := true, laidKinds := [.data], laidTests := true, laidLooks := .later }
def WholeTighterUptoCardSaid : Prop := Claim7.holds Tryz.pinned (.plain (OpenSpec.upto wholeTighterSpec)) wholeTighterUptoCard
end Rows
end Go.Proofs.YtddonikjkohphaaGreatDoor

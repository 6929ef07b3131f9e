/-
  DERIVED. GIVEN WITH THE SEED: THE CARDS: each row of YtpeidnhjcompmaaGreatDoorRows.lean that lists a variable, with what it lists TIED to the program's text (the seventh form; the later family's looks); each row that meets fmt, with fmt's text TOLD by the authors' own Lean function (tested against real Go, not proved from fmt's source: count such statements apart). THE CARD IS WHAT COUNTS. Prove the row's statement (the work); the ties are given (YtpeidnhjcompmaaGreatDoorTie.lean); close each card by the builder's one call (the guide's Derived/Test/ToyasCard.lean, 'card_holds'). Laid BY PROGRAM, IN A SANDBOX (cutbox-door.mjs). By AI agents, Wed Nov 11 2026. No macro, syntax, notation, axiom, sorry.
-/
import Derived.Test.YtpeidnhjcompmaaGreatDoorRows
import GoSem.ClaimSeven
namespace Go.Proofs.YtpeidnhjcompmaaGreatDoor
namespace Rows

/-- THE TIED CARD OF 'relucertlaw47.JournalAny'. -/
def journalAnyCard : Claim7 := { stood := { row := journalAnyRow, standIns := [], harness := (true, "d33503a98916d27d8378d9c7a8417f883436486f02af36abc8d758fe46c2343d"), looks := true }, kinds := [], alts := [], laidByText := true, laidKinds := [.data], laidTests := true, laidLooks := .later }
def JournalAnyCardSaid : Prop := Claim7.holds Tryz.pinned (.plain (OpenSpec.ofChange journalAnySpec)) journalAnyCard

/-- THE TIED CARD OF 'relucertlaw47.JournalRecovers'. -/
def journalRecoversCard : Claim7 := { stood := { row := journalRecoversRow, standIns := [], harness := (true, "d33503a98916d27d8378d9c7a8417f883436486f02af36abc8d758fe46c2343d"), looks := true }, kinds := [], alts := [], laidByText := true, laidKinds := [.data], laidTests := true, laidLooks := .later }
def JournalRecoversCardSaid : Prop := Claim7.holds Tryz.pinned (.plain (OpenSpec.ofChange journalRecoversSpec)) journalRecoversCard

/-- THE TIED CARD OF 'relucertlaw47.JournalCut'. -/
def journalCutCard : Claim7 := { stood := { row := journalCutRow, standIns := [], harness := (true, "d33503a98916d27d8378d9c7a8417f883436486f02af36abc8d758fe46c2343d"), looks := true }, kinds := [], alts := [], laidByText := true, laidKinds := [.data], laidTests := true, laidLooks := .later }
def JournalCutCardSaid : Prop := Claim7.holds Tryz.pinned (.plain (OpenSpec.ofChange journalCutSpec)) journalCutCard

/-- THE TIED CARD OF 'relucertlaw47.JournalDamage'. -/
def journalDamageCard : Claim7 := { stood := { row := journalDamageRow, standIns := [], harness := (true, "d33503a98916d27d8378d9c7a8417f883436486f02af36abc8d758fe46c2343d"), looks := true }, kinds := [], alts := [], laidByText := true, laidKinds := [.data], laidTests := true, laidLooks := .later }
def JournalDamageCardSaid : Prop := Claim7.holds Tryz.pinned (.plain (OpenSpec.ofChange journalDamageSpec)) journalDamageCard

/-- THE TIED CARD OF 'relucertlaw47.JournalWrites'. -/
def journalWritesCard : Claim7 := { stood := { row := journalWritesRow, standIns := [], harness := (true, "d33503a98916d27d8378d9c7a8417f883436486f02af36abc8d758fe46c2343d"), looks := true }, kinds := [], alts := [], laidByText := true, laidKinds := [.data], laidTests := true, laidLooks := .later }
def JournalWritesCardSaid : Prop := Claim7.holds Tryz.pinned (.plain (OpenSpec.ofChange journalWritesSpec)) journalWritesCard

/-- THE TIED CARD OF 'relucertlaw47.JournalPayload'. -/
def journalPayloadCard : Claim7 := { stood := { row := journalPayloadRow, standIns := [], harness := (true, "d33503a98916d27d8378d9c7a8417f883436486f02af36abc8d758fe46c2343d"), looks := true }, kinds := [], alts := [], laidByText := true, laidKinds := [.data], laidTests := true, laidLooks := .later }
def JournalPayloadCardSaid : Prop := Claim7.holds Tryz.pinned (.plain (OpenSpec.ofChange journalPayloadSpec)) journalPayloadCard

/-- THE TIED CARD OF 'relucertlaw47.JournalBuild'. -/
def journalBuildCard : Claim7 := { stood := { row := journalBuildRow, standIns := [], harness := (true, "d33503a98916d27d8378d9c7a8417f883436486f02af36abc8d758fe46c2343d"), looks := true }, kinds := [], alts := [], laidByText := true, laidKinds := [.data], laidTests := true, laidLooks := .later }
def JournalBuildCardSaid : Prop := Claim7.holds Tryz.pinned (.plain (OpenSpec.ofChange journalBuildSpec)) journalBuildCard

/-- THE TIED CARD OF 'relucertlaw47.JournalTree'. -/
def journalTreeCard : Claim7 := { stood := { row := journalTreeRow, standIns := [], harness := (true, "d33503a98916d27d8378d9c7a8417f883436486f02af36abc8d758fe46c2343d"), looks := true }, kinds := [], alts := [], laidByText := true, laidKinds := [.data], laidTests := true, laidLooks := .later }
def JournalTreeCardSaid : Prop := Claim7.holds Tryz.pinned (.plain (OpenSpec.ofChange journalTreeSpec)) journalTreeCard

/-- THE TIED CARD OF 'relucertlaw46.CertfileDigest'. -/
def certfileDigestCard : Claim7 := { stood := { row := certfileDigestRow, standIns := [], harness := (true, "d33503a98916d27d8378d9c7a8417f883436486f02af36abc8d758fe46c2343d"), looks := true }, kinds := [], alts := [], laidByText := true, laidKinds := [.data], laidTests := true, laidLooks := .later }
def CertfileDigestCardSaid : Prop := Claim7.holds Tryz.pinned (.plain (OpenSpec.ofChange certfileDigestSpec)) certfileDigestCard

/-- THE SECOND FORM's CARD OF 'relucertlaw47.JournalAny'. -/
def journalAnyUptoCard : Claim7 := { stood := { row := journalAnyUptoRow, standIns := [], harness := (true, "d33503a98916d27d8378d9c7a8417f883436486f02af36abc8d758fe46c2343d"), looks := true }, kinds := [], alts := [], laidByText := true, laidKinds := [.data], laidTests := true, laidLooks := .later }
def JournalAnyUptoCardSaid : Prop := Claim7.holds Tryz.pinned (.plain (OpenSpec.upto journalAnySpec)) journalAnyUptoCard

/-- THE SECOND FORM's CARD OF 'relucertlaw47.JournalRecovers'. -/
def journalRecoversUptoCard : Claim7 := { stood := { row := journalRecoversUptoRow, standIns := [], harness := (true, "d33503a98916d27d8378d9c7a8417f883436486f02af36abc8d758fe46c2343d"), looks := true }, kinds := [], alts := [], laidByText := true, laidKinds := [.data], laidTests := true, laidLooks := .later }
def JournalRecoversUptoCardSaid : Prop := Claim7.holds Tryz.pinned (.plain (OpenSpec.upto journalRecoversSpec)) journalRecoversUptoCard

/-- THE SECOND FORM's CARD OF 'relucertlaw47.JournalCut'. -/
def journalCutUptoCard : Claim7 := { stood := { row := journalCutUptoRow, standIns := [], harness := (true, "d33503a98916d27d8378d9c7a8417f883436486f02af36abc8d758fe46c2343d"), looks := true }, kinds := [], alts := [], laidByText := true, laidKinds := [.data], laidTests := true, laidLooks := .later }
def JournalCutUptoCardSaid : Prop := Claim7.holds Tryz.pinned (.plain (OpenSpec.upto journalCutSpec)) journalCutUptoCard

/-- THE SECOND FORM's CARD OF 'relucertlaw47.JournalDamage'. -/
def journalDamageUptoCard : Claim7 := { stood := { row := journalDamageUptoRow, standIns := [], harness := (true, "d33503a98916d27d8378d9c7a8417f883436486f02af36abc8d758fe46c2343d"), looks := true }, kinds := [], alts := [], laidByText := true, laidKinds := [.data], laidTests := true, laidLooks := .later }
def JournalDamageUptoCardSaid : Prop := Claim7.holds Tryz.pinned (.plain (OpenSpec.upto journalDamageSpec)) journalDamageUptoCard

/-- THE SECOND FORM's CARD OF 'relucertlaw47.JournalWrites'. -/
def journalWritesUptoCard : Claim7 := { stood := { row := journalWritesUptoRow, standIns := [], harness := (true, "d33503a98916d27d8378d9c7a8417f883436486f02af36abc8d758fe46c2343d"), looks := true }, kinds := [], alts := [], laidByText := true, laidKinds := [.data], laidTests := true, laidLooks := .later }
def JournalWritesUptoCardSaid : Prop := Claim7.holds Tryz.pinned (.plain (OpenSpec.upto journalWritesSpec)) journalWritesUptoCard

/-- THE SECOND FORM's CARD OF 'relucertlaw47.JournalPayload'. -/
def journalPayloadUptoCard : Claim7 := { stood := { row := journalPayloadUptoRow, standIns := [], harness := (true, "d33503a98916d27d8378d9c7a8417f883436486f02af36abc8d758fe46c2343d"), looks := true }, kinds := [], alts := [], laidByText := true, laidKinds := [.data], laidTests := true, laidLooks := .later }
def JournalPayloadUptoCardSaid : Prop := Claim7.holds Tryz.pinned (.plain (OpenSpec.upto journalPayloadSpec)) journalPayloadUptoCard

/-- THE SECOND FORM's CARD OF 'relucertlaw47.JournalBuild'. -/
def journalBuildUptoCard : Claim7 := { stood := { row := journalBuildUptoRow, standIns := [], harness := (true, "d33503a98916d27d8378d9c7a8417f883436486f02af36abc8d758fe46c2343d"), looks := true }, kinds := [], alts := [], laidByText := true, laidKinds := [.data], laidTests := true, laidLooks := .later }
def JournalBuildUptoCardSaid : Prop := Claim7.holds Tryz.pinned (.plain (OpenSpec.upto journalBuildSpec)) journalBuildUptoCard

/-- THE SECOND FORM's CARD OF 'relucertlaw47.JournalTree'. -/
def journalTreeUptoCard : Claim7 := { stood := { row := journalTreeUptoRow, standIns := [], harness := (true, "d33503a98916d27d8378d9c7a8417f883436486f02af36abc8d758fe46c2343d"), looks := true }, kinds := [], alts := [], laidByText := true, laidKinds := [.data], laidTests := true, laidLooks := .later }
def JournalTreeUptoCardSaid : Prop := Claim7.holds Tryz.pinned (.plain (OpenSpec.upto journalTreeSpec)) journalTreeUptoCard

/-- THE SECOND FORM's CARD OF 'relucertlaw46.CertfileDigest'. -/
def certfileDigestUptoCard : Claim7 := { stood := { row := certfileDigestUptoRow, standIns := [], harness := (true, "d33503a98916d27d8378d9c7a8417f883436486f02af36abc8d758fe46c2343d"), looks := true }, kinds := [], alts := [], laidByText := true, laidKinds := [.data], laidTests := true, laidLooks := .later }
def CertfileDigestUptoCardSaid : Prop := Claim7.holds Tryz.pinned (.plain (OpenSpec.upto certfileDigestSpec)) certfileDigestUptoCard
end Rows
end Go.Proofs.YtpeidnhjcompmaaGreatDoor

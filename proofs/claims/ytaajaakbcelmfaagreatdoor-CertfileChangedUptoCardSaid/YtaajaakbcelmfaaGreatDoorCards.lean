/-
  DERIVED. GIVEN WITH THE SEED: THE CARDS: each row of YtaajaakbcelmfaaGreatDoorRows.lean that lists a variable, with what it lists TIED to the program's text (the seventh form; the later family's looks); each row that meets fmt, with fmt's text TOLD by the authors' own Lean function (tested against real Go, not proved from fmt's source: count such statements apart). THE CARD IS WHAT COUNTS. Prove the row's statement (the work); the ties are given (YtaajaakbcelmfaaGreatDoorTie.lean); close each card by the builder's one call (the guide's Derived/Test/ToyasCard.lean, 'card_holds'). Laid BY PROGRAM, IN A SANDBOX (cutbox-door.mjs). By AI agents, Wed Nov 11 2026. No macro, syntax, notation, axiom, sorry.
-/
import Derived.Test.YtaajaakbcelmfaaGreatDoorRows
import GoSem.ClaimSeven
namespace Go.Proofs.YtaajaakbcelmfaaGreatDoor
namespace Rows

/-- THE TIED CARD OF 'relucertlaw46.CertfileEncode'. -/
def certfileEncodeCard : Claim7 := { stood := { row := certfileEncodeRow, standIns := [], harness := (true, "3968005b7c32e10ded82b869d37c05144495c3c0f771093749fb3929a547afc7"), looks := true }, kinds := [], alts := [], laidByText := true, laidKinds := [.data], laidTests := true, laidLooks := .later }
def CertfileEncodeCardSaid : Prop := Claim7.holds Tryz.pinned (.plain (OpenSpec.ofChange certfileEncodeSpec)) certfileEncodeCard

/-- THE TIED CARD OF 'relucertlaw46.CertfileDecode'. -/
def certfileDecodeCard : Claim7 := { stood := { row := certfileDecodeRow, standIns := [], harness := (true, "3968005b7c32e10ded82b869d37c05144495c3c0f771093749fb3929a547afc7"), looks := true }, kinds := [], alts := [], laidByText := true, laidKinds := [.data], laidTests := true, laidLooks := .later }
def CertfileDecodeCardSaid : Prop := Claim7.holds Tryz.pinned (.plain (OpenSpec.ofChange certfileDecodeSpec)) certfileDecodeCard

/-- THE TIED CARD OF 'relucertlaw46.CertfileSealed'. -/
def certfileSealedCard : Claim7 := { stood := { row := certfileSealedRow, standIns := [], harness := (true, "3968005b7c32e10ded82b869d37c05144495c3c0f771093749fb3929a547afc7"), looks := true }, kinds := [], alts := [], laidByText := true, laidKinds := [.data], laidTests := true, laidLooks := .later }
def CertfileSealedCardSaid : Prop := Claim7.holds Tryz.pinned (.plain (OpenSpec.ofChange certfileSealedSpec)) certfileSealedCard

/-- THE TIED CARD OF 'relucertlaw46.CertfilePacked'. -/
def certfilePackedCard : Claim7 := { stood := { row := certfilePackedRow, standIns := [], harness := (true, "3968005b7c32e10ded82b869d37c05144495c3c0f771093749fb3929a547afc7"), looks := true }, kinds := [], alts := [], laidByText := true, laidKinds := [.data], laidTests := true, laidLooks := .later }
def CertfilePackedCardSaid : Prop := Claim7.holds Tryz.pinned (.plain (OpenSpec.ofChange certfilePackedSpec)) certfilePackedCard

/-- THE TIED CARD OF 'relucertlaw46.CertfileChanged'. -/
def certfileChangedCard : Claim7 := { stood := { row := certfileChangedRow, standIns := [], harness := (true, "3968005b7c32e10ded82b869d37c05144495c3c0f771093749fb3929a547afc7"), looks := true }, kinds := [], alts := [], laidByText := true, laidKinds := [.data], laidTests := true, laidLooks := .later }
def CertfileChangedCardSaid : Prop := Claim7.holds Tryz.pinned (.plain (OpenSpec.ofChange certfileChangedSpec)) certfileChangedCard

/-- THE TIED CARD OF 'relucertlaw46.CertfileDigest'. -/
def certfileDigestCard : Claim7 := { stood := { row := certfileDigestRow, standIns := [], harness := (true, "3968005b7c32e10ded82b869d37c05144495c3c0f771093749fb3929a547afc7"), looks := true }, kinds := [], alts := [], laidByText := true, laidKinds := [.data], laidTests := true, laidLooks := .later }
def CertfileDigestCardSaid : Prop := Claim7.holds Tryz.pinned (.plain (OpenSpec.ofChange certfileDigestSpec)) certfileDigestCard

/-- THE TIED CARD OF 'relucertlaw47.JournalRecovers'. -/
def journalRecoversCard : Claim7 := { stood := { row := journalRecoversRow, standIns := [], harness := (true, "3968005b7c32e10ded82b869d37c05144495c3c0f771093749fb3929a547afc7"), looks := true }, kinds := [], alts := [], laidByText := true, laidKinds := [.data], laidTests := true, laidLooks := .later }
def JournalRecoversCardSaid : Prop := Claim7.holds Tryz.pinned (.plain (OpenSpec.ofChange journalRecoversSpec)) journalRecoversCard

/-- THE TIED CARD OF 'relucertlaw47.JournalCut'. -/
def journalCutCard : Claim7 := { stood := { row := journalCutRow, standIns := [], harness := (true, "3968005b7c32e10ded82b869d37c05144495c3c0f771093749fb3929a547afc7"), looks := true }, kinds := [], alts := [], laidByText := true, laidKinds := [.data], laidTests := true, laidLooks := .later }
def JournalCutCardSaid : Prop := Claim7.holds Tryz.pinned (.plain (OpenSpec.ofChange journalCutSpec)) journalCutCard

/-- THE TIED CARD OF 'relucertlaw47.JournalAny'. -/
def journalAnyCard : Claim7 := { stood := { row := journalAnyRow, standIns := [], harness := (true, "3968005b7c32e10ded82b869d37c05144495c3c0f771093749fb3929a547afc7"), looks := true }, kinds := [], alts := [], laidByText := true, laidKinds := [.data], laidTests := true, laidLooks := .later }
def JournalAnyCardSaid : Prop := Claim7.holds Tryz.pinned (.plain (OpenSpec.ofChange journalAnySpec)) journalAnyCard

/-- THE TIED CARD OF 'relucertlaw47.JournalDamage'. -/
def journalDamageCard : Claim7 := { stood := { row := journalDamageRow, standIns := [], harness := (true, "3968005b7c32e10ded82b869d37c05144495c3c0f771093749fb3929a547afc7"), looks := true }, kinds := [], alts := [], laidByText := true, laidKinds := [.data], laidTests := true, laidLooks := .later }
def JournalDamageCardSaid : Prop := Claim7.holds Tryz.pinned (.plain (OpenSpec.ofChange journalDamageSpec)) journalDamageCard

/-- THE TIED CARD OF 'relucertlaw47.JournalWrites'. -/
def journalWritesCard : Claim7 := { stood := { row := journalWritesRow, standIns := [], harness := (true, "3968005b7c32e10ded82b869d37c05144495c3c0f771093749fb3929a547afc7"), looks := true }, kinds := [], alts := [], laidByText := true, laidKinds := [.data], laidTests := true, laidLooks := .later }
def JournalWritesCardSaid : Prop := Claim7.holds Tryz.pinned (.plain (OpenSpec.ofChange journalWritesSpec)) journalWritesCard

/-- THE TIED CARD OF 'relucertlaw47.JournalPayload'. -/
def journalPayloadCard : Claim7 := { stood := { row := journalPayloadRow, standIns := [], harness := (true, "3968005b7c32e10ded82b869d37c05144495c3c0f771093749fb3929a547afc7"), looks := true }, kinds := [], alts := [], laidByText := true, laidKinds := [.data], laidTests := true, laidLooks := .later }
def JournalPayloadCardSaid : Prop := Claim7.holds Tryz.pinned (.plain (OpenSpec.ofChange journalPayloadSpec)) journalPayloadCard

/-- THE SECOND FORM's CARD OF 'relucertlaw46.CertfileEncode'. -/
def certfileEncodeUptoCard : Claim7 := { stood := { row := certfileEncodeUptoRow, standIns := [], harness := (true, "3968005b7c32e10ded82b869d37c05144495c3c0f771093749fb3929a547afc7"), looks := true }, kinds := [], alts := [], laidByText := true, laidKinds := [.data], laidTests := true, laidLooks := .later }
def CertfileEncodeUptoCardSaid : Prop := Claim7.holds Tryz.pinned (.plain (OpenSpec.upto certfileEncodeSpec)) certfileEncodeUptoCard

/-- THE SECOND FORM's CARD OF 'relucertlaw46.CertfileDecode'. -/
def certfileDecodeUptoCard : Claim7 := { stood := { row := certfileDecodeUptoRow, standIns := [], harness := (true, "3968005b7c32e10ded82b869d37c05144495c3c0f771093749fb3929a547afc7"), looks := true }, kinds := [], alts := [], laidByText := true, laidKinds := [.data], laidTests := true, laidLooks := .later }
def CertfileDecodeUptoCardSaid : Prop := Claim7.holds Tryz.pinned (.plain (OpenSpec.upto certfileDecodeSpec)) certfileDecodeUptoCard

/-- THE SECOND FORM's CARD OF 'relucertlaw46.CertfileSealed'. -/
def certfileSealedUptoCard : Claim7 := { stood := { row := certfileSealedUptoRow, standIns := [], harness := (true, "3968005b7c32e10ded82b869d37c05144495c3c0f771093749fb3929a547afc7"), looks := true }, kinds := [], alts := [], laidByText := true, laidKinds := [.data], laidTests := true, laidLooks := .later }
def CertfileSealedUptoCardSaid : Prop := Claim7.holds Tryz.pinned (.plain (OpenSpec.upto certfileSealedSpec)) certfileSealedUptoCard

/-- THE SECOND FORM's CARD OF 'relucertlaw46.CertfilePacked'. -/
def certfilePackedUptoCard : Claim7 := { stood := { row := certfilePackedUptoRow, standIns := [], harness := (true, "3968005b7c32e10ded82b869d37c05144495c3c0f771093749fb3929a547afc7"), looks := true }, kinds := [], alts := [], laidByText := true, laidKinds := [.data], laidTests := true, laidLooks := .later }
def CertfilePackedUptoCardSaid : Prop := Claim7.holds Tryz.pinned (.plain (OpenSpec.upto certfilePackedSpec)) certfilePackedUptoCard

/-- THE SECOND FORM's CARD OF 'relucertlaw46.CertfileChanged'. -/
def certfileChangedUptoCard : Claim7 := { stood := { row := certfileChangedUptoRow, standIns := [], harness := (true, "3968005b7c32e10ded82b869d37c05144495c3c0f771093749fb3929a547afc7"), looks := true }, kinds := [], alts := [], laidByText := true, laidKinds := [.data], laidTests := true, laidLooks := .later }
def CertfileChangedUptoCardSaid : Prop := Claim7.holds Tryz.pinned (.plain (OpenSpec.upto certfileChangedSpec)) certfileChangedUptoCard

/-- THE SECOND FORM's CARD OF 'relucertlaw46.CertfileDigest'. -/
def certfileDigestUptoCard : Claim7 := { stood := { row := certfileDigestUptoRow, standIns := [], harness := (true, "3968005b7c32e10ded82b869d37c05144495c3c0f771093749fb3929a547afc7"), looks := true }, kinds := [], alts := [], laidByText := true, laidKinds := [.data], laidTests := true, laidLooks := .later }
def CertfileDigestUptoCardSaid : Prop := Claim7.holds Tryz.pinned (.plain (OpenSpec.upto certfileDigestSpec)) certfileDigestUptoCard

/-- THE SECOND FORM's CARD OF 'relucertlaw47.JournalRecovers'. -/
def journalRecoversUptoCard : Claim7 := { stood := { row := journalRecoversUptoRow, standIns := [], harness := (true, "3968005b7c32e10ded82b869d37c05144495c3c0f771093749fb3929a547afc7"), looks := true }, kinds := [], alts := [], laidByText := true, laidKinds := [.data], laidTests := true, laidLooks := .later }
def JournalRecoversUptoCardSaid : Prop := Claim7.holds Tryz.pinned (.plain (OpenSpec.upto journalRecoversSpec)) journalRecoversUptoCard

/-- THE SECOND FORM's CARD OF 'relucertlaw47.JournalCut'. -/
def journalCutUptoCard : Claim7 := { stood := { row := journalCutUptoRow, standIns := [], harness := (true, "3968005b7c32e10ded82b869d37c05144495c3c0f771093749fb3929a547afc7"), looks := true }, kinds := [], alts := [], laidByText := true, laidKinds := [.data], laidTests := true, laidLooks := .later }
def JournalCutUptoCardSaid : Prop := Claim7.holds Tryz.pinned (.plain (OpenSpec.upto journalCutSpec)) journalCutUptoCard

/-- THE SECOND FORM's CARD OF 'relucertlaw47.JournalAny'. -/
def journalAnyUptoCard : Claim7 := { stood := { row := journalAnyUptoRow, standIns := [], harness := (true, "3968005b7c32e10ded82b869d37c05144495c3c0f771093749fb3929a547afc7"), looks := true }, kinds := [], alts := [], laidByText := true, laidKinds := [.data], laidTests := true, laidLooks := .later }
def JournalAnyUptoCardSaid : Prop := Claim7.holds Tryz.pinned (.plain (OpenSpec.upto journalAnySpec)) journalAnyUptoCard

/-- THE SECOND FORM's CARD OF 'relucertlaw47.JournalDamage'. -/
def journalDamageUptoCard : Claim7 := { stood := { row := journalDamageUptoRow, standIns := [], harness := (true, "3968005b7c32e10ded82b869d37c05144495c3c0f771093749fb3929a547afc7"), looks := true }, kinds := [], alts := [], laidByText := true, laidKinds := [.data], laidTests := true, laidLooks := .later }
def JournalDamageUptoCardSaid : Prop := Claim7.holds Tryz.pinned (.plain (OpenSpec.upto journalDamageSpec)) journalDamageUptoCard

/-- THE SECOND FORM's CARD OF 'relucertlaw47.JournalWrites'. -/
def journalWritesUptoCard : Claim7 := { stood := { row := journalWritesUptoRow, standIns := [], harness := (true, "3968005b7c32e10ded82b869d37c05144495c3c0f771093749fb3929a547afc7"), looks := true }, kinds := [], alts := [], laidByText := true, laidKinds := [.data], laidTests := true, laidLooks := .later }
def JournalWritesUptoCardSaid : Prop := Claim7.holds Tryz.pinned (.plain (OpenSpec.upto journalWritesSpec)) journalWritesUptoCard

/-- THE SECOND FORM's CARD OF 'relucertlaw47.JournalPayload'. -/
def journalPayloadUptoCard : Claim7 := { stood := { row := journalPayloadUptoRow, standIns := [], harness := (true, "3968005b7c32e10ded82b869d37c05144495c3c0f771093749fb3929a547afc7"), looks := true }, kinds := [], alts := [], laidByText := true, laidKinds := [.data], laidTests := true, laidLooks := .later }
def JournalPayloadUptoCardSaid : Prop := Claim7.holds Tryz.pinned (.plain (OpenSpec.upto journalPayloadSpec)) journalPayloadUptoCard
end Rows
end Go.Proofs.YtaajaakbcelmfaaGreatDoor

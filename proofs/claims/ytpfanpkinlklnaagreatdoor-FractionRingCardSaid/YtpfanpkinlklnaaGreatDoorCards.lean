/-
  DERIVED. GIVEN WITH THE SEED: THE CARDS: each row of YtpfanpkinlklnaaGreatDoorRows.lean that lists a variable, with what it lists TIED to the program's text (the seventh form; the later family's looks); each row that meets fmt, with fmt's text TOLD by the authors' own Lean function (tested against real Go, not proved from fmt's source: count such statements apart). THE CARD IS WHAT COUNTS. Prove the row's statement (the work); the ties are given (YtpfanpkinlklnaaGreatDoorTie.lean); close each card by the builder's one call (the guide's Derived/Test/ToyasCard.lean, 'card_holds'). Laid BY PROGRAM, IN A SANDBOX (cutbox-door.mjs). By AI agents, Wed Nov 11 2026. No macro, syntax, notation, axiom, sorry.
-/
import Derived.Test.YtpfanpkinlklnaaGreatDoorRows
import GoSem.ClaimSeven
namespace Go.Proofs.YtpfanpkinlklnaaGreatDoor
namespace Rows

/-- THE TIED CARD OF 'pneumaticlaw01.FractionMakes'. -/
def fractionMakesCard : Claim7 := { stood := { row := fractionMakesRow, standIns := [], harness := (true, "39cd2a98cb1d3015000321658aa19b9928d95f48492fdb6ef5326c6fd6702051"), looks := true }, kinds := [], alts := [], laidByText := true, laidKinds := [.data, .data, .data, .data, .sentinel, .sentinel, .pinned], laidTests := true, laidLooks := .later }
def FractionMakesCardSaid : Prop := Claim7.holds Tryz.pinned (.plain (OpenSpec.ofChange fractionMakesSpec)) fractionMakesCard

/-- THE TIED CARD OF 'pneumaticlaw01.FractionCounts'. -/
def fractionCountsCard : Claim7 := { stood := { row := fractionCountsRow, standIns := [], harness := (true, "39cd2a98cb1d3015000321658aa19b9928d95f48492fdb6ef5326c6fd6702051"), looks := true }, kinds := [], alts := [], laidByText := true, laidKinds := [.data, .data, .data, .data, .sentinel, .sentinel, .pinned], laidTests := true, laidLooks := .later }
def FractionCountsCardSaid : Prop := Claim7.holds Tryz.pinned (.plain (OpenSpec.ofChange fractionCountsSpec)) fractionCountsCard

/-- THE TIED CARD OF 'pneumaticlaw01.FractionRounds'. -/
def fractionRoundsCard : Claim7 := { stood := { row := fractionRoundsRow, standIns := [], harness := (true, "39cd2a98cb1d3015000321658aa19b9928d95f48492fdb6ef5326c6fd6702051"), looks := true }, kinds := [], alts := [], laidByText := true, laidKinds := [.data, .data, .data, .data, .sentinel, .sentinel, .pinned], laidTests := true, laidLooks := .later }
def FractionRoundsCardSaid : Prop := Claim7.holds Tryz.pinned (.plain (OpenSpec.ofChange fractionRoundsSpec)) fractionRoundsCard

/-- THE TIED CARD OF 'pneumaticlaw01.FractionSums'. -/
def fractionSumsCard : Claim7 := { stood := { row := fractionSumsRow, standIns := [], harness := (true, "39cd2a98cb1d3015000321658aa19b9928d95f48492fdb6ef5326c6fd6702051"), looks := true }, kinds := [], alts := [], laidByText := true, laidKinds := [.data, .data, .data, .data, .sentinel, .sentinel, .pinned], laidTests := true, laidLooks := .later }
def FractionSumsCardSaid : Prop := Claim7.holds Tryz.pinned (.plain (OpenSpec.ofChange fractionSumsSpec)) fractionSumsCard

/-- THE TIED CARD OF 'pneumaticlaw01.FractionComputes'. -/
def fractionComputesCard : Claim7 := { stood := { row := fractionComputesRow, standIns := [], harness := (true, "39cd2a98cb1d3015000321658aa19b9928d95f48492fdb6ef5326c6fd6702051"), looks := true }, kinds := [], alts := [], laidByText := true, laidKinds := [.data, .data, .data, .data, .sentinel, .sentinel, .pinned], laidTests := true, laidLooks := .later }
def FractionComputesCardSaid : Prop := Claim7.holds Tryz.pinned (.plain (OpenSpec.ofChange fractionComputesSpec)) fractionComputesCard

/-- THE TIED CARD OF 'pneumaticlaw01.FractionParts'. -/
def fractionPartsCard : Claim7 := { stood := { row := fractionPartsRow, standIns := [], harness := (true, "39cd2a98cb1d3015000321658aa19b9928d95f48492fdb6ef5326c6fd6702051"), looks := true }, kinds := [], alts := [], laidByText := true, laidKinds := [.data, .data, .data, .data, .sentinel, .sentinel, .pinned], laidTests := true, laidLooks := .later }
def FractionPartsCardSaid : Prop := Claim7.holds Tryz.pinned (.plain (OpenSpec.ofChange fractionPartsSpec)) fractionPartsCard

/-- THE TIED CARD OF 'pneumaticlaw01.FractionRing'. -/
def fractionRingCard : Claim7 := { stood := { row := fractionRingRow, standIns := [], harness := (true, "39cd2a98cb1d3015000321658aa19b9928d95f48492fdb6ef5326c6fd6702051"), looks := true }, kinds := [], alts := [], laidByText := true, laidKinds := [.data, .data, .data, .data, .sentinel, .sentinel, .pinned], laidTests := true, laidLooks := .later }
def FractionRingCardSaid : Prop := Claim7.holds Tryz.pinned (.plain (OpenSpec.ofChange fractionRingSpec)) fractionRingCard

/-- THE TIED CARD OF 'pneumaticlaw01.FractionChecks'. -/
def fractionChecksCard : Claim7 := { stood := { row := fractionChecksRow, standIns := [], harness := (true, "39cd2a98cb1d3015000321658aa19b9928d95f48492fdb6ef5326c6fd6702051"), looks := true }, kinds := [], alts := [], laidByText := true, laidKinds := [.data, .data, .data, .data, .sentinel, .sentinel, .pinned], laidTests := true, laidLooks := .later }
def FractionChecksCardSaid : Prop := Claim7.holds Tryz.pinned (.plain (OpenSpec.ofChange fractionChecksSpec)) fractionChecksCard

/-- THE TIED CARD OF 'pneumaticlaw01.FractionOrders'. -/
def fractionOrdersCard : Claim7 := { stood := { row := fractionOrdersRow, standIns := [], harness := (true, "39cd2a98cb1d3015000321658aa19b9928d95f48492fdb6ef5326c6fd6702051"), looks := true }, kinds := [], alts := [], laidByText := true, laidKinds := [.data, .data, .data, .data, .sentinel, .sentinel, .pinned], laidTests := true, laidLooks := .later }
def FractionOrdersCardSaid : Prop := Claim7.holds Tryz.pinned (.plain (OpenSpec.ofChange fractionOrdersSpec)) fractionOrdersCard

/-- THE SECOND FORM's CARD OF 'pneumaticlaw01.FractionMakes'. -/
def fractionMakesUptoCard : Claim7 := { stood := { row := fractionMakesUptoRow, standIns := [], harness := (true, "39cd2a98cb1d3015000321658aa19b9928d95f48492fdb6ef5326c6fd6702051"), looks := true }, kinds := [], alts := [], laidByText := true, laidKinds := [.data, .data, .data, .data, .sentinel, .sentinel, .pinned], laidTests := true, laidLooks := .later }
def FractionMakesUptoCardSaid : Prop := Claim7.holds Tryz.pinned (.plain (OpenSpec.upto fractionMakesSpec)) fractionMakesUptoCard

/-- THE SECOND FORM's CARD OF 'pneumaticlaw01.FractionCounts'. -/
def fractionCountsUptoCard : Claim7 := { stood := { row := fractionCountsUptoRow, standIns := [], harness := (true, "39cd2a98cb1d3015000321658aa19b9928d95f48492fdb6ef5326c6fd6702051"), looks := true }, kinds := [], alts := [], laidByText := true, laidKinds := [.data, .data, .data, .data, .sentinel, .sentinel, .pinned], laidTests := true, laidLooks := .later }
def FractionCountsUptoCardSaid : Prop := Claim7.holds Tryz.pinned (.plain (OpenSpec.upto fractionCountsSpec)) fractionCountsUptoCard

/-- THE SECOND FORM's CARD OF 'pneumaticlaw01.FractionRounds'. -/
def fractionRoundsUptoCard : Claim7 := { stood := { row := fractionRoundsUptoRow, standIns := [], harness := (true, "39cd2a98cb1d3015000321658aa19b9928d95f48492fdb6ef5326c6fd6702051"), looks := true }, kinds := [], alts := [], laidByText := true, laidKinds := [.data, .data, .data, .data, .sentinel, .sentinel, .pinned], laidTests := true, laidLooks := .later }
def FractionRoundsUptoCardSaid : Prop := Claim7.holds Tryz.pinned (.plain (OpenSpec.upto fractionRoundsSpec)) fractionRoundsUptoCard

/-- THE SECOND FORM's CARD OF 'pneumaticlaw01.FractionSums'. -/
def fractionSumsUptoCard : Claim7 := { stood := { row := fractionSumsUptoRow, standIns := [], harness := (true, "39cd2a98cb1d3015000321658aa19b9928d95f48492fdb6ef5326c6fd6702051"), looks := true }, kinds := [], alts := [], laidByText := true, laidKinds := [.data, .data, .data, .data, .sentinel, .sentinel, .pinned], laidTests := true, laidLooks := .later }
def FractionSumsUptoCardSaid : Prop := Claim7.holds Tryz.pinned (.plain (OpenSpec.upto fractionSumsSpec)) fractionSumsUptoCard

/-- THE SECOND FORM's CARD OF 'pneumaticlaw01.FractionComputes'. -/
def fractionComputesUptoCard : Claim7 := { stood := { row := fractionComputesUptoRow, standIns := [], harness := (true, "39cd2a98cb1d3015000321658aa19b9928d95f48492fdb6ef5326c6fd6702051"), looks := true }, kinds := [], alts := [], laidByText := true, laidKinds := [.data, .data, .data, .data, .sentinel, .sentinel, .pinned], laidTests := true, laidLooks := .later }
def FractionComputesUptoCardSaid : Prop := Claim7.holds Tryz.pinned (.plain (OpenSpec.upto fractionComputesSpec)) fractionComputesUptoCard

/-- THE SECOND FORM's CARD OF 'pneumaticlaw01.FractionParts'. -/
def fractionPartsUptoCard : Claim7 := { stood := { row := fractionPartsUptoRow, standIns := [], harness := (true, "39cd2a98cb1d3015000321658aa19b9928d95f48492fdb6ef5326c6fd6702051"), looks := true }, kinds := [], alts := [], laidByText := true, laidKinds := [.data, .data, .data, .data, .sentinel, .sentinel, .pinned], laidTests := true, laidLooks := .later }
def FractionPartsUptoCardSaid : Prop := Claim7.holds Tryz.pinned (.plain (OpenSpec.upto fractionPartsSpec)) fractionPartsUptoCard

/-- THE SECOND FORM's CARD OF 'pneumaticlaw01.FractionRing'. -/
def fractionRingUptoCard : Claim7 := { stood := { row := fractionRingUptoRow, standIns := [], harness := (true, "39cd2a98cb1d3015000321658aa19b9928d95f48492fdb6ef5326c6fd6702051"), looks := true }, kinds := [], alts := [], laidByText := true, laidKinds := [.data, .data, .data, .data, .sentinel, .sentinel, .pinned], laidTests := true, laidLooks := .later }
def FractionRingUptoCardSaid : Prop := Claim7.holds Tryz.pinned (.plain (OpenSpec.upto fractionRingSpec)) fractionRingUptoCard

/-- THE SECOND FORM's CARD OF 'pneumaticlaw01.FractionChecks'. -/
def fractionChecksUptoCard : Claim7 := { stood := { row := fractionChecksUptoRow, standIns := [], harness := (true, "39cd2a98cb1d3015000321658aa19b9928d95f48492fdb6ef5326c6fd6702051"), looks := true }, kinds := [], alts := [], laidByText := true, laidKinds := [.data, .data, .data, .data, .sentinel, .sentinel, .pinned], laidTests := true, laidLooks := .later }
def FractionChecksUptoCardSaid : Prop := Claim7.holds Tryz.pinned (.plain (OpenSpec.upto fractionChecksSpec)) fractionChecksUptoCard

/-- THE SECOND FORM's CARD OF 'pneumaticlaw01.FractionOrders'. -/
def fractionOrdersUptoCard : Claim7 := { stood := { row := fractionOrdersUptoRow, standIns := [], harness := (true, "39cd2a98cb1d3015000321658aa19b9928d95f48492fdb6ef5326c6fd6702051"), looks := true }, kinds := [], alts := [], laidByText := true, laidKinds := [.data, .data, .data, .data, .sentinel, .sentinel, .pinned], laidTests := true, laidLooks := .later }
def FractionOrdersUptoCardSaid : Prop := Claim7.holds Tryz.pinned (.plain (OpenSpec.upto fractionOrdersSpec)) fractionOrdersUptoCard
end Rows
end Go.Proofs.YtpfanpkinlklnaaGreatDoor

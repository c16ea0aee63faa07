/-
  DERIVED. GIVEN WITH THE SEED: THE CARDS: each row of YtlhpfhnbeagnaaaGreatDoorRows.lean that lists a variable, with what it lists TIED to the program's text (the seventh form; the later family's looks); each row that meets fmt, with fmt's text TOLD by the authors' own Lean function (tested against real Go, not proved from fmt's source: count such statements apart). THE CARD IS WHAT COUNTS. Prove the row's statement (the work); the ties are given (YtlhpfhnbeagnaaaGreatDoorTie.lean); close each card by the builder's one call (the guide's Derived/Test/ToyasCard.lean, 'card_holds'). Laid BY PROGRAM, IN A SANDBOX (cutbox-door.mjs). By AI agents, Wed Nov 11 2026. No macro, syntax, notation, axiom, sorry.
-/
import Derived.Test.YtlhpfhnbeagnaaaGreatDoorRows
import GoSem.ClaimSeven
namespace Go.Proofs.YtlhpfhnbeagnaaaGreatDoor
namespace Rows

/-- THE TIED CARD OF 'pneumaticlaw54.CutsetFails'. -/
def cutsetFailsCard : Claim7 := { stood := { row := cutsetFailsRow, standIns := [], harness := (true, "ad2ec28c73e88b353bdada806161ce27b04042f8effe549d290cec381d0ed3f2"), looks := true }, kinds := [], alts := [], laidByText := true, laidKinds := [.data, .data, .data, .data, .sentinel, .sentinel, .pinned], laidTests := true, laidLooks := .later }
def CutsetFailsCardSaid : Prop := Claim7.holds Tryz.pinned (.plain (OpenSpec.ofChange cutsetFailsSpec)) cutsetFailsCard

/-- THE TIED CARD OF 'pneumaticlaw54.CutsetChances'. -/
def cutsetChancesCard : Claim7 := { stood := { row := cutsetChancesRow, standIns := [], harness := (true, "ad2ec28c73e88b353bdada806161ce27b04042f8effe549d290cec381d0ed3f2"), looks := true }, kinds := [], alts := [], laidByText := true, laidKinds := [.data, .data, .data, .data, .sentinel, .sentinel, .pinned], laidTests := true, laidLooks := .later }
def CutsetChancesCardSaid : Prop := Claim7.holds Tryz.pinned (.plain (OpenSpec.ofChange cutsetChancesSpec)) cutsetChancesCard

/-- THE TIED CARD OF 'pneumaticlaw54.CutsetMinimal'. -/
def cutsetMinimalCard : Claim7 := { stood := { row := cutsetMinimalRow, standIns := [], harness := (true, "ad2ec28c73e88b353bdada806161ce27b04042f8effe549d290cec381d0ed3f2"), looks := true }, kinds := [], alts := [], laidByText := true, laidKinds := [.data, .data, .data, .data, .sentinel, .sentinel, .pinned], laidTests := true, laidLooks := .later }
def CutsetMinimalCardSaid : Prop := Claim7.holds Tryz.pinned (.plain (OpenSpec.ofChange cutsetMinimalSpec)) cutsetMinimalCard

/-- THE TIED CARD OF 'pneumaticlaw54.CutsetDuals'. -/
def cutsetDualsCard : Claim7 := { stood := { row := cutsetDualsRow, standIns := [], harness := (true, "ad2ec28c73e88b353bdada806161ce27b04042f8effe549d290cec381d0ed3f2"), looks := true }, kinds := [], alts := [], laidByText := true, laidKinds := [.data, .data, .data, .data, .sentinel, .sentinel, .pinned], laidTests := true, laidLooks := .later }
def CutsetDualsCardSaid : Prop := Claim7.holds Tryz.pinned (.plain (OpenSpec.ofChange cutsetDualsSpec)) cutsetDualsCard

/-- THE TIED CARD OF 'pneumaticlaw54.CutsetCrosses'. -/
def cutsetCrossesCard : Claim7 := { stood := { row := cutsetCrossesRow, standIns := [], harness := (true, "ad2ec28c73e88b353bdada806161ce27b04042f8effe549d290cec381d0ed3f2"), looks := true }, kinds := [], alts := [], laidByText := true, laidKinds := [.data, .data, .data, .data, .sentinel, .sentinel, .pinned], laidTests := true, laidLooks := .later }
def CutsetCrossesCardSaid : Prop := Claim7.holds Tryz.pinned (.plain (OpenSpec.ofChange cutsetCrossesSpec)) cutsetCrossesCard

/-- THE TIED CARD OF 'pneumaticlaw54.CutsetSplits'. -/
def cutsetSplitsCard : Claim7 := { stood := { row := cutsetSplitsRow, standIns := [], harness := (true, "ad2ec28c73e88b353bdada806161ce27b04042f8effe549d290cec381d0ed3f2"), looks := true }, kinds := [], alts := [], laidByText := true, laidKinds := [.data, .data, .data, .data, .sentinel, .sentinel, .pinned], laidTests := true, laidLooks := .later }
def CutsetSplitsCardSaid : Prop := Claim7.holds Tryz.pinned (.plain (OpenSpec.ofChange cutsetSplitsSpec)) cutsetSplitsCard

/-- THE TIED CARD OF 'pneumaticlaw54.CutsetCuts'. -/
def cutsetCutsCard : Claim7 := { stood := { row := cutsetCutsRow, standIns := [], harness := (true, "ad2ec28c73e88b353bdada806161ce27b04042f8effe549d290cec381d0ed3f2"), looks := true }, kinds := [], alts := [], laidByText := true, laidKinds := [.data, .data, .data, .data, .sentinel, .sentinel, .pinned], laidTests := true, laidLooks := .later }
def CutsetCutsCardSaid : Prop := Claim7.holds Tryz.pinned (.plain (OpenSpec.ofChange cutsetCutsSpec)) cutsetCutsCard

/-- THE SECOND FORM's CARD OF 'pneumaticlaw54.CutsetFails'. -/
def cutsetFailsUptoCard : Claim7 := { stood := { row := cutsetFailsUptoRow, standIns := [], harness := (true, "ad2ec28c73e88b353bdada806161ce27b04042f8effe549d290cec381d0ed3f2"), looks := true }, kinds := [], alts := [], laidByText := true, laidKinds := [.data, .data, .data, .data, .sentinel, .sentinel, .pinned], laidTests := true, laidLooks := .later }
def CutsetFailsUptoCardSaid : Prop := Claim7.holds Tryz.pinned (.plain (OpenSpec.upto cutsetFailsSpec)) cutsetFailsUptoCard

/-- THE SECOND FORM's CARD OF 'pneumaticlaw54.CutsetChances'. -/
def cutsetChancesUptoCard : Claim7 := { stood := { row := cutsetChancesUptoRow, standIns := [], harness := (true, "ad2ec28c73e88b353bdada806161ce27b04042f8effe549d290cec381d0ed3f2"), looks := true }, kinds := [], alts := [], laidByText := true, laidKinds := [.data, .data, .data, .data, .sentinel, .sentinel, .pinned], laidTests := true, laidLooks := .later }
def CutsetChancesUptoCardSaid : Prop := Claim7.holds Tryz.pinned (.plain (OpenSpec.upto cutsetChancesSpec)) cutsetChancesUptoCard

/-- THE SECOND FORM's CARD OF 'pneumaticlaw54.CutsetMinimal'. -/
def cutsetMinimalUptoCard : Claim7 := { stood := { row := cutsetMinimalUptoRow, standIns := [], harness := (true, "ad2ec28c73e88b353bdada806161ce27b04042f8effe549d290cec381d0ed3f2"), looks := true }, kinds := [], alts := [], laidByText := true, laidKinds := [.data, .data, .data, .data, .sentinel, .sentinel, .pinned], laidTests := true, laidLooks := .later }
def CutsetMinimalUptoCardSaid : Prop := Claim7.holds Tryz.pinned (.plain (OpenSpec.upto cutsetMinimalSpec)) cutsetMinimalUptoCard

/-- THE SECOND FORM's CARD OF 'pneumaticlaw54.CutsetDuals'. -/
def cutsetDualsUptoCard : Claim7 := { stood := { row := cutsetDualsUptoRow, standIns := [], harness := (true, "ad2ec28c73e88b353bdada806161ce27b04042f8effe549d290cec381d0ed3f2"), looks := true }, kinds := [], alts := [], laidByText := true, laidKinds := [.data, .data, .data, .data, .sentinel, .sentinel, .pinned], laidTests := true, laidLooks := .later }
def CutsetDualsUptoCardSaid : Prop := Claim7.holds Tryz.pinned (.plain (OpenSpec.upto cutsetDualsSpec)) cutsetDualsUptoCard

/-- THE SECOND FORM's CARD OF 'pneumaticlaw54.CutsetCrosses'. -/
def cutsetCrossesUptoCard : Claim7 := { stood := { row := cutsetCrossesUptoRow, standIns := [], harness := (true, "ad2ec28c73e88b353bdada806161ce27b04042f8effe549d290cec381d0ed3f2"), looks := true }, kinds := [], alts := [], laidByText := true, laidKinds := [.data, .data, .data, .data, .sentinel, .sentinel, .pinned], laidTests := true, laidLooks := .later }
def CutsetCrossesUptoCardSaid : Prop := Claim7.holds Tryz.pinned (.plain (OpenSpec.upto cutsetCrossesSpec)) cutsetCrossesUptoCard

/-- THE SECOND FORM's CARD OF 'pneumaticlaw54.CutsetSplits'. -/
def cutsetSplitsUptoCard : Claim7 := { stood := { row := cutsetSplitsUptoRow, standIns := [], harness := (true, "ad2ec28c73e88b353bdada806161ce27b04042f8effe549d290cec381d0ed3f2"), looks := true }, kinds := [], alts := [], laidByText := true, laidKinds := [.data, .data, .data, .data, .sentinel, .sentinel, .pinned], laidTests := true, laidLooks := .later }
def CutsetSplitsUptoCardSaid : Prop := Claim7.holds Tryz.pinned (.plain (OpenSpec.upto cutsetSplitsSpec)) cutsetSplitsUptoCard

/-- THE SECOND FORM's CARD OF 'pneumaticlaw54.CutsetCuts'. -/
def cutsetCutsUptoCard : Claim7 := { stood := { row := cutsetCutsUptoRow, standIns := [], harness := (true, "ad2ec28c73e88b353bdada806161ce27b04042f8effe549d290cec381d0ed3f2"), looks := true }, kinds := [], alts := [], laidByText := true, laidKinds := [.data, .data, .data, .data, .sentinel, .sentinel, .pinned], laidTests := true, laidLooks := .later }
def CutsetCutsUptoCardSaid : Prop := Claim7.holds Tryz.pinned (.plain (OpenSpec.upto cutsetCutsSpec)) cutsetCutsUptoCard
end Rows
end Go.Proofs.YtlhpfhnbeagnaaaGreatDoor

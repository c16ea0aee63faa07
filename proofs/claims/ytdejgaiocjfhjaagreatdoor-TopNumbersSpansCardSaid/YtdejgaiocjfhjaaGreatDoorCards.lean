/-
  DERIVED. GIVEN WITH THE SEED: THE CARDS: each row of YtdejgaiocjfhjaaGreatDoorRows.lean that lists a variable, with what it lists TIED to the program's text (the seventh form; the later family's looks); each row that meets fmt, with fmt's text TOLD by the authors' own Lean function (tested against real Go, not proved from fmt's source: count such statements apart). THE CARD IS WHAT COUNTS. Prove the row's statement (the work); the ties are given (YtdejgaiocjfhjaaGreatDoorTie.lean); close each card by the builder's one call (the guide's Derived/Test/ToyasCard.lean, 'card_holds'). Laid BY PROGRAM, IN A SANDBOX (cutbox-door.mjs). By AI agents, Wed Nov 11 2026. No macro, syntax, notation, axiom, sorry.
-/
import Derived.Test.YtdejgaiocjfhjaaGreatDoorRows
import GoSem.ClaimSeven
namespace Go.Proofs.YtdejgaiocjfhjaaGreatDoor
namespace Rows

/-- THE TIED CARD OF 'pneumaticlaw02.EnclosureSquares'. -/
def enclosureSquaresCard : Claim7 := { stood := { row := enclosureSquaresRow, standIns := [], harness := (true, "b6e5e3d388d01307972fb4ba064be502c90a59c46e4d20c669c035a144fd3e3b"), looks := true }, kinds := [], alts := [], laidByText := true, laidKinds := [.data, .data, .data, .data, .sentinel, .sentinel, .pinned], laidTests := true, laidLooks := .later }
def EnclosureSquaresCardSaid : Prop := Claim7.holds Tryz.pinned (.plain (OpenSpec.ofChange enclosureSquaresSpec)) enclosureSquaresCard

/-- THE TIED CARD OF 'pneumaticlaw02.EnclosureComputes'. -/
def enclosureComputesCard : Claim7 := { stood := { row := enclosureComputesRow, standIns := [], harness := (true, "b6e5e3d388d01307972fb4ba064be502c90a59c46e4d20c669c035a144fd3e3b"), looks := true }, kinds := [], alts := [], laidByText := true, laidKinds := [.data, .data, .data, .data, .sentinel, .sentinel, .pinned], laidTests := true, laidLooks := .later }
def EnclosureComputesCardSaid : Prop := Claim7.holds Tryz.pinned (.plain (OpenSpec.ofChange enclosureComputesSpec)) enclosureComputesCard

/-- THE TIED CARD OF 'pneumaticlaw02.EnclosureCompares'. -/
def enclosureComparesCard : Claim7 := { stood := { row := enclosureComparesRow, standIns := [], harness := (true, "b6e5e3d388d01307972fb4ba064be502c90a59c46e4d20c669c035a144fd3e3b"), looks := true }, kinds := [], alts := [], laidByText := true, laidKinds := [.data, .data, .data, .data, .sentinel, .sentinel, .pinned], laidTests := true, laidLooks := .later }
def EnclosureComparesCardSaid : Prop := Claim7.holds Tryz.pinned (.plain (OpenSpec.ofChange enclosureComparesSpec)) enclosureComparesCard

/-- THE TIED CARD OF 'pneumaticlaw02.EnclosureMeets'. -/
def enclosureMeetsCard : Claim7 := { stood := { row := enclosureMeetsRow, standIns := [], harness := (true, "b6e5e3d388d01307972fb4ba064be502c90a59c46e4d20c669c035a144fd3e3b"), looks := true }, kinds := [], alts := [], laidByText := true, laidKinds := [.data, .data, .data, .data, .sentinel, .sentinel, .pinned], laidTests := true, laidLooks := .later }
def EnclosureMeetsCardSaid : Prop := Claim7.holds Tryz.pinned (.plain (OpenSpec.ofChange enclosureMeetsSpec)) enclosureMeetsCard

/-- THE TIED CARD OF 'pneumaticlaw02.EnclosureChecks'. -/
def enclosureChecksCard : Claim7 := { stood := { row := enclosureChecksRow, standIns := [], harness := (true, "b6e5e3d388d01307972fb4ba064be502c90a59c46e4d20c669c035a144fd3e3b"), looks := true }, kinds := [], alts := [], laidByText := true, laidKinds := [.data, .data, .data, .data, .sentinel, .sentinel, .pinned], laidTests := true, laidLooks := .later }
def EnclosureChecksCardSaid : Prop := Claim7.holds Tryz.pinned (.plain (OpenSpec.ofChange enclosureChecksSpec)) enclosureChecksCard

/-- THE TIED CARD OF 'pneumaticlaw02.EnclosureEncloses'. -/
def enclosureEnclosesCard : Claim7 := { stood := { row := enclosureEnclosesRow, standIns := [], harness := (true, "b6e5e3d388d01307972fb4ba064be502c90a59c46e4d20c669c035a144fd3e3b"), looks := true }, kinds := [], alts := [], laidByText := true, laidKinds := [.data, .data, .data, .data, .sentinel, .sentinel, .pinned], laidTests := true, laidLooks := .later }
def EnclosureEnclosesCardSaid : Prop := Claim7.holds Tryz.pinned (.plain (OpenSpec.ofChange enclosureEnclosesSpec)) enclosureEnclosesCard

/-- THE TIED CARD OF 'pneumaticlaw02.EnclosureSelf'. -/
def enclosureSelfCard : Claim7 := { stood := { row := enclosureSelfRow, standIns := [], harness := (true, "b6e5e3d388d01307972fb4ba064be502c90a59c46e4d20c669c035a144fd3e3b"), looks := true }, kinds := [], alts := [], laidByText := true, laidKinds := [.data, .data, .data, .data, .sentinel, .sentinel, .pinned], laidTests := true, laidLooks := .later }
def EnclosureSelfCardSaid : Prop := Claim7.holds Tryz.pinned (.plain (OpenSpec.ofChange enclosureSelfSpec)) enclosureSelfCard

/-- THE TIED CARD OF 'pneumaticlaw02.EnclosureNarrows'. -/
def enclosureNarrowsCard : Claim7 := { stood := { row := enclosureNarrowsRow, standIns := [], harness := (true, "b6e5e3d388d01307972fb4ba064be502c90a59c46e4d20c669c035a144fd3e3b"), looks := true }, kinds := [], alts := [], laidByText := true, laidKinds := [.data, .data, .data, .data, .sentinel, .sentinel, .pinned], laidTests := true, laidLooks := .later }
def EnclosureNarrowsCardSaid : Prop := Claim7.holds Tryz.pinned (.plain (OpenSpec.ofChange enclosureNarrowsSpec)) enclosureNarrowsCard

/-- THE TIED CARD OF 'pneumatictop.TopNumbersSeries'. -/
def topNumbersSeriesCard : Claim7 := { stood := { row := topNumbersSeriesRow, standIns := [], harness := (true, "b6e5e3d388d01307972fb4ba064be502c90a59c46e4d20c669c035a144fd3e3b"), looks := true }, kinds := [], alts := [], laidByText := true, laidKinds := [.data, .data, .data, .data, .sentinel, .sentinel, .pinned], laidTests := true, laidLooks := .later }
def TopNumbersSeriesCardSaid : Prop := Claim7.holds Tryz.pinned (.plain (OpenSpec.ofChange topNumbersSeriesSpec)) topNumbersSeriesCard

/-- THE TIED CARD OF 'pneumatictop.TopNumbersCircles'. -/
def topNumbersCirclesCard : Claim7 := { stood := { row := topNumbersCirclesRow, standIns := [], harness := (true, "b6e5e3d388d01307972fb4ba064be502c90a59c46e4d20c669c035a144fd3e3b"), looks := true }, kinds := [], alts := [], laidByText := true, laidKinds := [.data, .data, .data, .data, .sentinel, .sentinel, .pinned], laidTests := true, laidLooks := .later }
def TopNumbersCirclesCardSaid : Prop := Claim7.holds Tryz.pinned (.plain (OpenSpec.ofChange topNumbersCirclesSpec)) topNumbersCirclesCard

/-- THE TIED CARD OF 'pneumatictop.TopNumbersSpans'. -/
def topNumbersSpansCard : Claim7 := { stood := { row := topNumbersSpansRow, standIns := [], harness := (true, "b6e5e3d388d01307972fb4ba064be502c90a59c46e4d20c669c035a144fd3e3b"), looks := true }, kinds := [], alts := [], laidByText := true, laidKinds := [.data, .data, .data, .data, .sentinel, .sentinel, .pinned], laidTests := true, laidLooks := .later }
def TopNumbersSpansCardSaid : Prop := Claim7.holds Tryz.pinned (.plain (OpenSpec.ofChange topNumbersSpansSpec)) topNumbersSpansCard

/-- THE SECOND FORM's CARD OF 'pneumaticlaw02.EnclosureSquares'. -/
def enclosureSquaresUptoCard : Claim7 := { stood := { row := enclosureSquaresUptoRow, standIns := [], harness := (true, "b6e5e3d388d01307972fb4ba064be502c90a59c46e4d20c669c035a144fd3e3b"), looks := true }, kinds := [], alts := [], laidByText := true, laidKinds := [.data, .data, .data, .data, .sentinel, .sentinel, .pinned], laidTests := true, laidLooks := .later }
def EnclosureSquaresUptoCardSaid : Prop := Claim7.holds Tryz.pinned (.plain (OpenSpec.upto enclosureSquaresSpec)) enclosureSquaresUptoCard

/-- THE SECOND FORM's CARD OF 'pneumaticlaw02.EnclosureComputes'. -/
def enclosureComputesUptoCard : Claim7 := { stood := { row := enclosureComputesUptoRow, standIns := [], harness := (true, "b6e5e3d388d01307972fb4ba064be502c90a59c46e4d20c669c035a144fd3e3b"), looks := true }, kinds := [], alts := [], laidByText := true, laidKinds := [.data, .data, .data, .data, .sentinel, .sentinel, .pinned], laidTests := true, laidLooks := .later }
def EnclosureComputesUptoCardSaid : Prop := Claim7.holds Tryz.pinned (.plain (OpenSpec.upto enclosureComputesSpec)) enclosureComputesUptoCard

/-- THE SECOND FORM's CARD OF 'pneumaticlaw02.EnclosureCompares'. -/
def enclosureComparesUptoCard : Claim7 := { stood := { row := enclosureComparesUptoRow, standIns := [], harness := (true, "b6e5e3d388d01307972fb4ba064be502c90a59c46e4d20c669c035a144fd3e3b"), looks := true }, kinds := [], alts := [], laidByText := true, laidKinds := [.data, .data, .data, .data, .sentinel, .sentinel, .pinned], laidTests := true, laidLooks := .later }
def EnclosureComparesUptoCardSaid : Prop := Claim7.holds Tryz.pinned (.plain (OpenSpec.upto enclosureComparesSpec)) enclosureComparesUptoCard

/-- THE SECOND FORM's CARD OF 'pneumaticlaw02.EnclosureMeets'. -/
def enclosureMeetsUptoCard : Claim7 := { stood := { row := enclosureMeetsUptoRow, standIns := [], harness := (true, "b6e5e3d388d01307972fb4ba064be502c90a59c46e4d20c669c035a144fd3e3b"), looks := true }, kinds := [], alts := [], laidByText := true, laidKinds := [.data, .data, .data, .data, .sentinel, .sentinel, .pinned], laidTests := true, laidLooks := .later }
def EnclosureMeetsUptoCardSaid : Prop := Claim7.holds Tryz.pinned (.plain (OpenSpec.upto enclosureMeetsSpec)) enclosureMeetsUptoCard

/-- THE SECOND FORM's CARD OF 'pneumaticlaw02.EnclosureChecks'. -/
def enclosureChecksUptoCard : Claim7 := { stood := { row := enclosureChecksUptoRow, standIns := [], harness := (true, "b6e5e3d388d01307972fb4ba064be502c90a59c46e4d20c669c035a144fd3e3b"), looks := true }, kinds := [], alts := [], laidByText := true, laidKinds := [.data, .data, .data, .data, .sentinel, .sentinel, .pinned], laidTests := true, laidLooks := .later }
def EnclosureChecksUptoCardSaid : Prop := Claim7.holds Tryz.pinned (.plain (OpenSpec.upto enclosureChecksSpec)) enclosureChecksUptoCard

/-- THE SECOND FORM's CARD OF 'pneumaticlaw02.EnclosureEncloses'. -/
def enclosureEnclosesUptoCard : Claim7 := { stood := { row := enclosureEnclosesUptoRow, standIns := [], harness := (true, "b6e5e3d388d01307972fb4ba064be502c90a59c46e4d20c669c035a144fd3e3b"), looks := true }, kinds := [], alts := [], laidByText := true, laidKinds := [.data, .data, .data, .data, .sentinel, .sentinel, .pinned], laidTests := true, laidLooks := .later }
def EnclosureEnclosesUptoCardSaid : Prop := Claim7.holds Tryz.pinned (.plain (OpenSpec.upto enclosureEnclosesSpec)) enclosureEnclosesUptoCard

/-- THE SECOND FORM's CARD OF 'pneumaticlaw02.EnclosureSelf'. -/
def enclosureSelfUptoCard : Claim7 := { stood := { row := enclosureSelfUptoRow, standIns := [], harness := (true, "b6e5e3d388d01307972fb4ba064be502c90a59c46e4d20c669c035a144fd3e3b"), looks := true }, kinds := [], alts := [], laidByText := true, laidKinds := [.data, .data, .data, .data, .sentinel, .sentinel, .pinned], laidTests := true, laidLooks := .later }
def EnclosureSelfUptoCardSaid : Prop := Claim7.holds Tryz.pinned (.plain (OpenSpec.upto enclosureSelfSpec)) enclosureSelfUptoCard

/-- THE SECOND FORM's CARD OF 'pneumaticlaw02.EnclosureNarrows'. -/
def enclosureNarrowsUptoCard : Claim7 := { stood := { row := enclosureNarrowsUptoRow, standIns := [], harness := (true, "b6e5e3d388d01307972fb4ba064be502c90a59c46e4d20c669c035a144fd3e3b"), looks := true }, kinds := [], alts := [], laidByText := true, laidKinds := [.data, .data, .data, .data, .sentinel, .sentinel, .pinned], laidTests := true, laidLooks := .later }
def EnclosureNarrowsUptoCardSaid : Prop := Claim7.holds Tryz.pinned (.plain (OpenSpec.upto enclosureNarrowsSpec)) enclosureNarrowsUptoCard

/-- THE SECOND FORM's CARD OF 'pneumatictop.TopNumbersSeries'. -/
def topNumbersSeriesUptoCard : Claim7 := { stood := { row := topNumbersSeriesUptoRow, standIns := [], harness := (true, "b6e5e3d388d01307972fb4ba064be502c90a59c46e4d20c669c035a144fd3e3b"), looks := true }, kinds := [], alts := [], laidByText := true, laidKinds := [.data, .data, .data, .data, .sentinel, .sentinel, .pinned], laidTests := true, laidLooks := .later }
def TopNumbersSeriesUptoCardSaid : Prop := Claim7.holds Tryz.pinned (.plain (OpenSpec.upto topNumbersSeriesSpec)) topNumbersSeriesUptoCard

/-- THE SECOND FORM's CARD OF 'pneumatictop.TopNumbersCircles'. -/
def topNumbersCirclesUptoCard : Claim7 := { stood := { row := topNumbersCirclesUptoRow, standIns := [], harness := (true, "b6e5e3d388d01307972fb4ba064be502c90a59c46e4d20c669c035a144fd3e3b"), looks := true }, kinds := [], alts := [], laidByText := true, laidKinds := [.data, .data, .data, .data, .sentinel, .sentinel, .pinned], laidTests := true, laidLooks := .later }
def TopNumbersCirclesUptoCardSaid : Prop := Claim7.holds Tryz.pinned (.plain (OpenSpec.upto topNumbersCirclesSpec)) topNumbersCirclesUptoCard

/-- THE SECOND FORM's CARD OF 'pneumatictop.TopNumbersSpans'. -/
def topNumbersSpansUptoCard : Claim7 := { stood := { row := topNumbersSpansUptoRow, standIns := [], harness := (true, "b6e5e3d388d01307972fb4ba064be502c90a59c46e4d20c669c035a144fd3e3b"), looks := true }, kinds := [], alts := [], laidByText := true, laidKinds := [.data, .data, .data, .data, .sentinel, .sentinel, .pinned], laidTests := true, laidLooks := .later }
def TopNumbersSpansUptoCardSaid : Prop := Claim7.holds Tryz.pinned (.plain (OpenSpec.upto topNumbersSpansSpec)) topNumbersSpansUptoCard
end Rows
end Go.Proofs.YtdejgaiocjfhjaaGreatDoor

/-
  DERIVED. GIVEN WITH THE SEED: THE CARDS: each row of YtmndcdjcodfchaaGreatDoorRows.lean that lists a variable, with what it lists TIED to the program's text (the seventh form; the later family's looks); each row that meets fmt, with fmt's text TOLD by the authors' own Lean function (tested against real Go, not proved from fmt's source: count such statements apart). THE CARD IS WHAT COUNTS. Prove the row's statement (the work); the ties are given (YtmndcdjcodfchaaGreatDoorTie.lean); close each card by the builder's one call (the guide's Derived/Test/ToyasCard.lean, 'card_holds'). Laid BY PROGRAM, IN A SANDBOX (cutbox-door.mjs). By AI agents, Wed Nov 11 2026. No macro, syntax, notation, axiom, sorry.
-/
import Derived.Test.YtmndcdjcodfchaaGreatDoorRows
import GoSem.ClaimSeven
namespace Go.Proofs.YtmndcdjcodfchaaGreatDoor
namespace Rows

/-- THE TIED CARD OF 'pneumaticlaw57.StockOrders'. -/
def stockOrdersCard : Claim7 := { stood := { row := stockOrdersRow, standIns := [], harness := (true, "1f00dc0f6e9652b91b56c464b723450dc1ec2069e8308a6b199e24615dd447bf"), looks := true }, kinds := [], alts := [], laidByText := true, laidKinds := [.data, .data, .data, .data, .sentinel, .sentinel, .pinned], laidTests := true, laidLooks := .later }
def StockOrdersCardSaid : Prop := Claim7.holds Tryz.pinned (.plain (OpenSpec.ofChange stockOrdersSpec)) stockOrdersCard

/-- THE TIED CARD OF 'pneumaticlaw57.StockBounds'. -/
def stockBoundsCard : Claim7 := { stood := { row := stockBoundsRow, standIns := [], harness := (true, "1f00dc0f6e9652b91b56c464b723450dc1ec2069e8308a6b199e24615dd447bf"), looks := true }, kinds := [], alts := [], laidByText := true, laidKinds := [.data, .data, .data, .data, .sentinel, .sentinel, .pinned], laidTests := true, laidLooks := .later }
def StockBoundsCardSaid : Prop := Claim7.holds Tryz.pinned (.plain (OpenSpec.ofChange stockBoundsSpec)) stockBoundsCard

/-- THE TIED CARD OF 'pneumaticlaw57.StockCosts'. -/
def stockCostsCard : Claim7 := { stood := { row := stockCostsRow, standIns := [], harness := (true, "1f00dc0f6e9652b91b56c464b723450dc1ec2069e8308a6b199e24615dd447bf"), looks := true }, kinds := [], alts := [], laidByText := true, laidKinds := [.data, .data, .data, .data, .sentinel, .sentinel, .pinned], laidTests := true, laidLooks := .later }
def StockCostsCardSaid : Prop := Claim7.holds Tryz.pinned (.plain (OpenSpec.ofChange stockCostsSpec)) stockCostsCard

/-- THE TIED CARD OF 'pneumaticlaw57.StockLeast'. -/
def stockLeastCard : Claim7 := { stood := { row := stockLeastRow, standIns := [], harness := (true, "1f00dc0f6e9652b91b56c464b723450dc1ec2069e8308a6b199e24615dd447bf"), looks := true }, kinds := [], alts := [], laidByText := true, laidKinds := [.data, .data, .data, .data, .sentinel, .sentinel, .pinned], laidTests := true, laidLooks := .later }
def StockLeastCardSaid : Prop := Claim7.holds Tryz.pinned (.plain (OpenSpec.ofChange stockLeastSpec)) stockLeastCard

/-- THE TIED CARD OF 'pneumaticlaw57.StockLevels'. -/
def stockLevelsCard : Claim7 := { stood := { row := stockLevelsRow, standIns := [], harness := (true, "1f00dc0f6e9652b91b56c464b723450dc1ec2069e8308a6b199e24615dd447bf"), looks := true }, kinds := [], alts := [], laidByText := true, laidKinds := [.data, .data, .data, .data, .sentinel, .sentinel, .pinned], laidTests := true, laidLooks := .later }
def StockLevelsCardSaid : Prop := Claim7.holds Tryz.pinned (.plain (OpenSpec.ofChange stockLevelsSpec)) stockLevelsCard

/-- THE TIED CARD OF 'pneumaticlaw57.StockSpares'. -/
def stockSparesCard : Claim7 := { stood := { row := stockSparesRow, standIns := [], harness := (true, "1f00dc0f6e9652b91b56c464b723450dc1ec2069e8308a6b199e24615dd447bf"), looks := true }, kinds := [], alts := [], laidByText := true, laidKinds := [.data, .data, .data, .data, .sentinel, .sentinel, .pinned], laidTests := true, laidLooks := .later }
def StockSparesCardSaid : Prop := Claim7.holds Tryz.pinned (.plain (OpenSpec.ofChange stockSparesSpec)) stockSparesCard

/-- THE SECOND FORM's CARD OF 'pneumaticlaw57.StockOrders'. -/
def stockOrdersUptoCard : Claim7 := { stood := { row := stockOrdersUptoRow, standIns := [], harness := (true, "1f00dc0f6e9652b91b56c464b723450dc1ec2069e8308a6b199e24615dd447bf"), looks := true }, kinds := [], alts := [], laidByText := true, laidKinds := [.data, .data, .data, .data, .sentinel, .sentinel, .pinned], laidTests := true, laidLooks := .later }
def StockOrdersUptoCardSaid : Prop := Claim7.holds Tryz.pinned (.plain (OpenSpec.upto stockOrdersSpec)) stockOrdersUptoCard

/-- THE SECOND FORM's CARD OF 'pneumaticlaw57.StockBounds'. -/
def stockBoundsUptoCard : Claim7 := { stood := { row := stockBoundsUptoRow, standIns := [], harness := (true, "1f00dc0f6e9652b91b56c464b723450dc1ec2069e8308a6b199e24615dd447bf"), looks := true }, kinds := [], alts := [], laidByText := true, laidKinds := [.data, .data, .data, .data, .sentinel, .sentinel, .pinned], laidTests := true, laidLooks := .later }
def StockBoundsUptoCardSaid : Prop := Claim7.holds Tryz.pinned (.plain (OpenSpec.upto stockBoundsSpec)) stockBoundsUptoCard

/-- THE SECOND FORM's CARD OF 'pneumaticlaw57.StockCosts'. -/
def stockCostsUptoCard : Claim7 := { stood := { row := stockCostsUptoRow, standIns := [], harness := (true, "1f00dc0f6e9652b91b56c464b723450dc1ec2069e8308a6b199e24615dd447bf"), looks := true }, kinds := [], alts := [], laidByText := true, laidKinds := [.data, .data, .data, .data, .sentinel, .sentinel, .pinned], laidTests := true, laidLooks := .later }
def StockCostsUptoCardSaid : Prop := Claim7.holds Tryz.pinned (.plain (OpenSpec.upto stockCostsSpec)) stockCostsUptoCard

/-- THE SECOND FORM's CARD OF 'pneumaticlaw57.StockLeast'. -/
def stockLeastUptoCard : Claim7 := { stood := { row := stockLeastUptoRow, standIns := [], harness := (true, "1f00dc0f6e9652b91b56c464b723450dc1ec2069e8308a6b199e24615dd447bf"), looks := true }, kinds := [], alts := [], laidByText := true, laidKinds := [.data, .data, .data, .data, .sentinel, .sentinel, .pinned], laidTests := true, laidLooks := .later }
def StockLeastUptoCardSaid : Prop := Claim7.holds Tryz.pinned (.plain (OpenSpec.upto stockLeastSpec)) stockLeastUptoCard

/-- THE SECOND FORM's CARD OF 'pneumaticlaw57.StockLevels'. -/
def stockLevelsUptoCard : Claim7 := { stood := { row := stockLevelsUptoRow, standIns := [], harness := (true, "1f00dc0f6e9652b91b56c464b723450dc1ec2069e8308a6b199e24615dd447bf"), looks := true }, kinds := [], alts := [], laidByText := true, laidKinds := [.data, .data, .data, .data, .sentinel, .sentinel, .pinned], laidTests := true, laidLooks := .later }
def StockLevelsUptoCardSaid : Prop := Claim7.holds Tryz.pinned (.plain (OpenSpec.upto stockLevelsSpec)) stockLevelsUptoCard

/-- THE SECOND FORM's CARD OF 'pneumaticlaw57.StockSpares'. -/
def stockSparesUptoCard : Claim7 := { stood := { row := stockSparesUptoRow, standIns := [], harness := (true, "1f00dc0f6e9652b91b56c464b723450dc1ec2069e8308a6b199e24615dd447bf"), looks := true }, kinds := [], alts := [], laidByText := true, laidKinds := [.data, .data, .data, .data, .sentinel, .sentinel, .pinned], laidTests := true, laidLooks := .later }
def StockSparesUptoCardSaid : Prop := Claim7.holds Tryz.pinned (.plain (OpenSpec.upto stockSparesSpec)) stockSparesUptoCard
end Rows
end Go.Proofs.YtmndcdjcodfchaaGreatDoor

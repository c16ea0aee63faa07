/-
  DERIVED. GIVEN WITH THE SEED: THE CARDS: each row of YtdolibeceijnnaaDoorRows.lean that lists a variable, with what it lists TIED to the program's text (the seventh form; the later family's looks); each row that meets fmt, with fmt's text TOLD by the authors' own Lean function (tested against real Go, not proved from fmt's source: count such statements apart). THE CARD IS WHAT COUNTS. Prove the row's statement (the work); the ties are given (YtdolibeceijnnaaDoorTie.lean); close each card by the builder's one call (the guide's Derived/Test/ToyasCard.lean, 'card_holds'). Laid BY PROGRAM, IN A SANDBOX (cutbox-door.mjs). By AI agents, Wed Nov 11 2026. No macro, syntax, notation, axiom, sorry.
-/
import Derived.Test.YtdolibeceijnnaaDoorRows
import GoSem.ClaimSeven
namespace Go.Proofs.YtdolibeceijnnaaDoor
namespace Rows

/-- THE TIED CARD OF 'pneumatictop.TopGroupsTurns'. -/
def topGroupsTurnsCard : Claim7 := { stood := { row := topGroupsTurnsRow, standIns := [], harness := (true, "51e3cb3a8846eb7bab81f3d76c63f6a1f6dde01b6d6f1b2c1106dc82c278ee4b"), looks := false }, kinds := [], alts := [], laidByText := true, laidKinds := [.data], laidTests := true, laidLooks := .later }
def TopGroupsTurnsCardSaid : Prop := Claim7.holds Tryd.pinned (.plain (OpenSpec.ofChange topGroupsTurnsSpec)) topGroupsTurnsCard

/-- THE TIED CARD OF 'pneumatictop.TopGroupsLetters'. -/
def topGroupsLettersCard : Claim7 := { stood := { row := topGroupsLettersRow, standIns := [], harness := (true, "51e3cb3a8846eb7bab81f3d76c63f6a1f6dde01b6d6f1b2c1106dc82c278ee4b"), looks := false }, kinds := [], alts := [], laidByText := true, laidKinds := [.data], laidTests := true, laidLooks := .later }
def TopGroupsLettersCardSaid : Prop := Claim7.holds Tryd.pinned (.plain (OpenSpec.ofChange topGroupsLettersSpec)) topGroupsLettersCard

/-- THE TIED CARD OF 'pneumatictop.TopGroupsMerge'. -/
def topGroupsMergeCard : Claim7 := { stood := { row := topGroupsMergeRow, standIns := [], harness := (true, "51e3cb3a8846eb7bab81f3d76c63f6a1f6dde01b6d6f1b2c1106dc82c278ee4b"), looks := false }, kinds := [], alts := [], laidByText := true, laidKinds := [.data], laidTests := true, laidLooks := .later }
def TopGroupsMergeCardSaid : Prop := Claim7.holds Tryd.pinned (.plain (OpenSpec.ofChange topGroupsMergeSpec)) topGroupsMergeCard

/-- THE TIED CARD OF 'pneumatictop.TopGroupsJoin'. -/
def topGroupsJoinCard : Claim7 := { stood := { row := topGroupsJoinRow, standIns := [], harness := (true, "51e3cb3a8846eb7bab81f3d76c63f6a1f6dde01b6d6f1b2c1106dc82c278ee4b"), looks := false }, kinds := [], alts := [], laidByText := true, laidKinds := [.data], laidTests := true, laidLooks := .later }
def TopGroupsJoinCardSaid : Prop := Claim7.holds Tryd.pinned (.plain (OpenSpec.ofChange topGroupsJoinSpec)) topGroupsJoinCard

/-- THE SECOND FORM's CARD OF 'pneumatictop.TopGroupsTurns'. -/
def topGroupsTurnsUptoCard : Claim7 := { stood := { row := topGroupsTurnsUptoRow, standIns := [], harness := (true, "51e3cb3a8846eb7bab81f3d76c63f6a1f6dde01b6d6f1b2c1106dc82c278ee4b"), looks := false }, kinds := [], alts := [], laidByText := true, laidKinds := [.data], laidTests := true, laidLooks := .later }
def TopGroupsTurnsUptoCardSaid : Prop := Claim7.holds Tryd.pinned (.plain (OpenSpec.upto topGroupsTurnsSpec)) topGroupsTurnsUptoCard

/-- THE SECOND FORM's CARD OF 'pneumatictop.TopGroupsLetters'. -/
def topGroupsLettersUptoCard : Claim7 := { stood := { row := topGroupsLettersUptoRow, standIns := [], harness := (true, "51e3cb3a8846eb7bab81f3d76c63f6a1f6dde01b6d6f1b2c1106dc82c278ee4b"), looks := false }, kinds := [], alts := [], laidByText := true, laidKinds := [.data], laidTests := true, laidLooks := .later }
def TopGroupsLettersUptoCardSaid : Prop := Claim7.holds Tryd.pinned (.plain (OpenSpec.upto topGroupsLettersSpec)) topGroupsLettersUptoCard

/-- THE SECOND FORM's CARD OF 'pneumatictop.TopGroupsMerge'. -/
def topGroupsMergeUptoCard : Claim7 := { stood := { row := topGroupsMergeUptoRow, standIns := [], harness := (true, "51e3cb3a8846eb7bab81f3d76c63f6a1f6dde01b6d6f1b2c1106dc82c278ee4b"), looks := false }, kinds := [], alts := [], laidByText := true, laidKinds := [.data], laidTests := true, laidLooks := .later }
def TopGroupsMergeUptoCardSaid : Prop := Claim7.holds Tryd.pinned (.plain (OpenSpec.upto topGroupsMergeSpec)) topGroupsMergeUptoCard

/-- THE SECOND FORM's CARD OF 'pneumatictop.TopGroupsJoin'. -/
def topGroupsJoinUptoCard : Claim7 := { stood := { row := topGroupsJoinUptoRow, standIns := [], harness := (true, "51e3cb3a8846eb7bab81f3d76c63f6a1f6dde01b6d6f1b2c1106dc82c278ee4b"), looks := false }, kinds := [], alts := [], laidByText := true, laidKinds := [.data], laidTests := true, laidLooks := .later }
def TopGroupsJoinUptoCardSaid : Prop := Claim7.holds Tryd.pinned (.plain (OpenSpec.upto topGroupsJoinSpec)) topGroupsJoinUptoCard
end Rows
end Go.Proofs.YtdolibeceijnnaaDoor

/-
  DERIVED. GIVEN WITH THE SEED: THE CARDS: each row of YtbpjbhbbkonjlaaGreatDoorRows.lean that lists a variable, with what it lists TIED to the program's text (the seventh form; the later family's looks); each row that meets fmt, with fmt's text TOLD by the authors' own Lean function (tested against real Go, not proved from fmt's source: count such statements apart). THE CARD IS WHAT COUNTS. Prove the row's statement (the work); the ties are given (YtbpjbhbbkonjlaaGreatDoorTie.lean); close each card by the builder's one call (the guide's Derived/Test/ToyasCard.lean, 'card_holds'). Laid BY PROGRAM, IN A SANDBOX (cutbox-door.mjs). By AI agents, Wed Nov 11 2026. No macro, syntax, notation, axiom, sorry.
-/
import Derived.Test.YtbpjbhbbkonjlaaGreatDoorRows
import GoSem.ClaimSeven
namespace Go.Proofs.YtbpjbhbbkonjlaaGreatDoor
namespace Rows

/-- THE TIED CARD OF 'pneumatictop.TopAirCycle'. -/
def topAirCycleCard : Claim7 := { stood := { row := topAirCycleRow, standIns := [], harness := (true, "53b2fb93b7fe40bdc0846d946b90d798610eac329e09c78cfdbbc3920de8ad7f"), looks := true }, kinds := [], alts := [], laidByText := true, laidKinds := [.data, .data, .data, .data, .sentinel, .sentinel, .pinned], laidTests := true, laidLooks := .later }
def TopAirCycleCardSaid : Prop := Claim7.holds Tryz.pinned (.plain (OpenSpec.ofChange topAirCycleSpec)) topAirCycleCard

/-- THE SECOND FORM's CARD OF 'pneumatictop.TopAirCycle'. -/
def topAirCycleUptoCard : Claim7 := { stood := { row := topAirCycleUptoRow, standIns := [], harness := (true, "53b2fb93b7fe40bdc0846d946b90d798610eac329e09c78cfdbbc3920de8ad7f"), looks := true }, kinds := [], alts := [], laidByText := true, laidKinds := [.data, .data, .data, .data, .sentinel, .sentinel, .pinned], laidTests := true, laidLooks := .later }
def TopAirCycleUptoCardSaid : Prop := Claim7.holds Tryz.pinned (.plain (OpenSpec.upto topAirCycleSpec)) topAirCycleUptoCard
end Rows
end Go.Proofs.YtbpjbhbbkonjlaaGreatDoor

/-
  DERIVED. GIVEN WITH THE SEED: THE CARDS: each row of YtlnonmmaknhppaaGreatDoorRows.lean that lists a variable, with what it lists TIED to the program's text (the seventh form; the later family's looks); each row that meets fmt, with fmt's text TOLD by the authors' own Lean function (tested against real Go, not proved from fmt's source: count such statements apart). THE CARD IS WHAT COUNTS. Prove the row's statement (the work); the ties are given (YtlnonmmaknhppaaGreatDoorTie.lean); close each card by the builder's one call (the guide's Derived/Test/ToyasCard.lean, 'card_holds'). Laid BY PROGRAM, IN A SANDBOX (cutbox-door.mjs). By AI agents, Wed Nov 11 2026. No macro, syntax, notation, axiom, sorry.
-/
import Derived.Test.YtlnonmmaknhppaaGreatDoorRows
import GoSem.ClaimSeven
namespace Go.Proofs.YtlnonmmaknhppaaGreatDoor
namespace Rows

/-- THE TIED CARD OF 'pneumaticlaw55.AirChooses'. -/
def airChoosesCard : Claim7 := { stood := { row := airChoosesRow, standIns := [], harness := (true, "fbc220e96b64a15da7544db7f7a82a218ccdc231a24268d66ff07f644c363b71"), looks := true }, kinds := [], alts := [], laidByText := true, laidKinds := [.data, .data, .data, .data, .sentinel, .sentinel, .pinned], laidTests := true, laidLooks := .later }
def AirChoosesCardSaid : Prop := Claim7.holds Tryz.pinned (.plain (OpenSpec.ofChange airChoosesSpec)) airChoosesCard

/-- THE TIED CARD OF 'pneumaticlaw55.AirStores'. -/
def airStoresCard : Claim7 := { stood := { row := airStoresRow, standIns := [], harness := (true, "fbc220e96b64a15da7544db7f7a82a218ccdc231a24268d66ff07f644c363b71"), looks := true }, kinds := [], alts := [], laidByText := true, laidKinds := [.data, .data, .data, .data, .sentinel, .sentinel, .pinned], laidTests := true, laidLooks := .later }
def AirStoresCardSaid : Prop := Claim7.holds Tryz.pinned (.plain (OpenSpec.ofChange airStoresSpec)) airStoresCard

/-- THE TIED CARD OF 'pneumaticlaw55.AirMeasures'. -/
def airMeasuresCard : Claim7 := { stood := { row := airMeasuresRow, standIns := [], harness := (true, "fbc220e96b64a15da7544db7f7a82a218ccdc231a24268d66ff07f644c363b71"), looks := true }, kinds := [], alts := [], laidByText := true, laidKinds := [.data, .data, .data, .data, .sentinel, .sentinel, .pinned], laidTests := true, laidLooks := .later }
def AirMeasuresCardSaid : Prop := Claim7.holds Tryz.pinned (.plain (OpenSpec.ofChange airMeasuresSpec)) airMeasuresCard

/-- THE TIED CARD OF 'pneumaticlaw55.AirPresses'. -/
def airPressesCard : Claim7 := { stood := { row := airPressesRow, standIns := [], harness := (true, "fbc220e96b64a15da7544db7f7a82a218ccdc231a24268d66ff07f644c363b71"), looks := true }, kinds := [], alts := [], laidByText := true, laidKinds := [.data, .data, .data, .data, .sentinel, .sentinel, .pinned], laidTests := true, laidLooks := .later }
def AirPressesCardSaid : Prop := Claim7.holds Tryz.pinned (.plain (OpenSpec.ofChange airPressesSpec)) airPressesCard

/-- THE TIED CARD OF 'pneumaticlaw55.AirKeeps'. -/
def airKeepsCard : Claim7 := { stood := { row := airKeepsRow, standIns := [], harness := (true, "fbc220e96b64a15da7544db7f7a82a218ccdc231a24268d66ff07f644c363b71"), looks := true }, kinds := [], alts := [], laidByText := true, laidKinds := [.data, .data, .data, .data, .sentinel, .sentinel, .pinned], laidTests := true, laidLooks := .later }
def AirKeepsCardSaid : Prop := Claim7.holds Tryz.pinned (.plain (OpenSpec.ofChange airKeepsSpec)) airKeepsCard

/-- THE TIED CARD OF 'pneumaticlaw55.AirRates'. -/
def airRatesCard : Claim7 := { stood := { row := airRatesRow, standIns := [], harness := (true, "fbc220e96b64a15da7544db7f7a82a218ccdc231a24268d66ff07f644c363b71"), looks := true }, kinds := [], alts := [], laidByText := true, laidKinds := [.data, .data, .data, .data, .sentinel, .sentinel, .pinned], laidTests := true, laidLooks := .later }
def AirRatesCardSaid : Prop := Claim7.holds Tryz.pinned (.plain (OpenSpec.ofChange airRatesSpec)) airRatesCard

/-- THE TIED CARD OF 'pneumaticlaw55.AirGrows'. -/
def airGrowsCard : Claim7 := { stood := { row := airGrowsRow, standIns := [], harness := (true, "fbc220e96b64a15da7544db7f7a82a218ccdc231a24268d66ff07f644c363b71"), looks := true }, kinds := [], alts := [], laidByText := true, laidKinds := [.data, .data, .data, .data, .sentinel, .sentinel, .pinned], laidTests := true, laidLooks := .later }
def AirGrowsCardSaid : Prop := Claim7.holds Tryz.pinned (.plain (OpenSpec.ofChange airGrowsSpec)) airGrowsCard

/-- THE TIED CARD OF 'pneumaticlaw55.AirSums'. -/
def airSumsCard : Claim7 := { stood := { row := airSumsRow, standIns := [], harness := (true, "fbc220e96b64a15da7544db7f7a82a218ccdc231a24268d66ff07f644c363b71"), looks := true }, kinds := [], alts := [], laidByText := true, laidKinds := [.data, .data, .data, .data, .sentinel, .sentinel, .pinned], laidTests := true, laidLooks := .later }
def AirSumsCardSaid : Prop := Claim7.holds Tryz.pinned (.plain (OpenSpec.ofChange airSumsSpec)) airSumsCard

/-- THE TIED CARD OF 'pneumaticlaw55.AirCycles'. -/
def airCyclesCard : Claim7 := { stood := { row := airCyclesRow, standIns := [], harness := (true, "fbc220e96b64a15da7544db7f7a82a218ccdc231a24268d66ff07f644c363b71"), looks := true }, kinds := [], alts := [], laidByText := true, laidKinds := [.data, .data, .data, .data, .sentinel, .sentinel, .pinned], laidTests := true, laidLooks := .later }
def AirCyclesCardSaid : Prop := Claim7.holds Tryz.pinned (.plain (OpenSpec.ofChange airCyclesSpec)) airCyclesCard

/-- THE SECOND FORM's CARD OF 'pneumaticlaw55.AirChooses'. -/
def airChoosesUptoCard : Claim7 := { stood := { row := airChoosesUptoRow, standIns := [], harness := (true, "fbc220e96b64a15da7544db7f7a82a218ccdc231a24268d66ff07f644c363b71"), looks := true }, kinds := [], alts := [], laidByText := true, laidKinds := [.data, .data, .data, .data, .sentinel, .sentinel, .pinned], laidTests := true, laidLooks := .later }
def AirChoosesUptoCardSaid : Prop := Claim7.holds Tryz.pinned (.plain (OpenSpec.upto airChoosesSpec)) airChoosesUptoCard

/-- THE SECOND FORM's CARD OF 'pneumaticlaw55.AirStores'. -/
def airStoresUptoCard : Claim7 := { stood := { row := airStoresUptoRow, standIns := [], harness := (true, "fbc220e96b64a15da7544db7f7a82a218ccdc231a24268d66ff07f644c363b71"), looks := true }, kinds := [], alts := [], laidByText := true, laidKinds := [.data, .data, .data, .data, .sentinel, .sentinel, .pinned], laidTests := true, laidLooks := .later }
def AirStoresUptoCardSaid : Prop := Claim7.holds Tryz.pinned (.plain (OpenSpec.upto airStoresSpec)) airStoresUptoCard

/-- THE SECOND FORM's CARD OF 'pneumaticlaw55.AirMeasures'. -/
def airMeasuresUptoCard : Claim7 := { stood := { row := airMeasuresUptoRow, standIns := [], harness := (true, "fbc220e96b64a15da7544db7f7a82a218ccdc231a24268d66ff07f644c363b71"), looks := true }, kinds := [], alts := [], laidByText := true, laidKinds := [.data, .data, .data, .data, .sentinel, .sentinel, .pinned], laidTests := true, laidLooks := .later }
def AirMeasuresUptoCardSaid : Prop := Claim7.holds Tryz.pinned (.plain (OpenSpec.upto airMeasuresSpec)) airMeasuresUptoCard

/-- THE SECOND FORM's CARD OF 'pneumaticlaw55.AirPresses'. -/
def airPressesUptoCard : Claim7 := { stood := { row := airPressesUptoRow, standIns := [], harness := (true, "fbc220e96b64a15da7544db7f7a82a218ccdc231a24268d66ff07f644c363b71"), looks := true }, kinds := [], alts := [], laidByText := true, laidKinds := [.data, .data, .data, .data, .sentinel, .sentinel, .pinned], laidTests := true, laidLooks := .later }
def AirPressesUptoCardSaid : Prop := Claim7.holds Tryz.pinned (.plain (OpenSpec.upto airPressesSpec)) airPressesUptoCard

/-- THE SECOND FORM's CARD OF 'pneumaticlaw55.AirKeeps'. -/
def airKeepsUptoCard : Claim7 := { stood := { row := airKeepsUptoRow, standIns := [], harness := (true, "fbc220e96b64a15da7544db7f7a82a218ccdc231a24268d66ff07f644c363b71"), looks := true }, kinds := [], alts := [], laidByText := true, laidKinds := [.data, .data, .data, .data, .sentinel, .sentinel, .pinned], laidTests := true, laidLooks := .later }
def AirKeepsUptoCardSaid : Prop := Claim7.holds Tryz.pinned (.plain (OpenSpec.upto airKeepsSpec)) airKeepsUptoCard

/-- THE SECOND FORM's CARD OF 'pneumaticlaw55.AirRates'. -/
def airRatesUptoCard : Claim7 := { stood := { row := airRatesUptoRow, standIns := [], harness := (true, "fbc220e96b64a15da7544db7f7a82a218ccdc231a24268d66ff07f644c363b71"), looks := true }, kinds := [], alts := [], laidByText := true, laidKinds := [.data, .data, .data, .data, .sentinel, .sentinel, .pinned], laidTests := true, laidLooks := .later }
def AirRatesUptoCardSaid : Prop := Claim7.holds Tryz.pinned (.plain (OpenSpec.upto airRatesSpec)) airRatesUptoCard

/-- THE SECOND FORM's CARD OF 'pneumaticlaw55.AirGrows'. -/
def airGrowsUptoCard : Claim7 := { stood := { row := airGrowsUptoRow, standIns := [], harness := (true, "fbc220e96b64a15da7544db7f7a82a218ccdc231a24268d66ff07f644c363b71"), looks := true }, kinds := [], alts := [], laidByText := true, laidKinds := [.data, .data, .data, .data, .sentinel, .sentinel, .pinned], laidTests := true, laidLooks := .later }
def AirGrowsUptoCardSaid : Prop := Claim7.holds Tryz.pinned (.plain (OpenSpec.upto airGrowsSpec)) airGrowsUptoCard

/-- THE SECOND FORM's CARD OF 'pneumaticlaw55.AirSums'. -/
def airSumsUptoCard : Claim7 := { stood := { row := airSumsUptoRow, standIns := [], harness := (true, "fbc220e96b64a15da7544db7f7a82a218ccdc231a24268d66ff07f644c363b71"), looks := true }, kinds := [], alts := [], laidByText := true, laidKinds := [.data, .data, .data, .data, .sentinel, .sentinel, .pinned], laidTests := true, laidLooks := .later }
def AirSumsUptoCardSaid : Prop := Claim7.holds Tryz.pinned (.plain (OpenSpec.upto airSumsSpec)) airSumsUptoCard

/-- THE SECOND FORM's CARD OF 'pneumaticlaw55.AirCycles'. -/
def airCyclesUptoCard : Claim7 := { stood := { row := airCyclesUptoRow, standIns := [], harness := (true, "fbc220e96b64a15da7544db7f7a82a218ccdc231a24268d66ff07f644c363b71"), looks := true }, kinds := [], alts := [], laidByText := true, laidKinds := [.data, .data, .data, .data, .sentinel, .sentinel, .pinned], laidTests := true, laidLooks := .later }
def AirCyclesUptoCardSaid : Prop := Claim7.holds Tryz.pinned (.plain (OpenSpec.upto airCyclesSpec)) airCyclesUptoCard
end Rows
end Go.Proofs.YtlnonmmaknhppaaGreatDoor

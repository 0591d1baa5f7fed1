/-
  DERIVED. GIVEN WITH THE SEED: THE CARDS: each row of YtimbigpplbbjaaaGreatDoorRows.lean that lists a variable, with what it lists TIED to the program's text (the seventh form; the later family's looks); each row that meets fmt, with fmt's text TOLD by the authors' own Lean function (tested against real Go, not proved from fmt's source: count such statements apart). THE CARD IS WHAT COUNTS. Prove the row's statement (the work); the ties are given (YtimbigpplbbjaaaGreatDoorTie.lean); close each card by the builder's one call (the guide's Derived/Test/ToyasCard.lean, 'card_holds'). Laid BY PROGRAM, IN A SANDBOX (cutbox-door.mjs). By AI agents, Wed Nov 11 2026. No macro, syntax, notation, axiom, sorry.
-/
import Derived.Test.YtimbigpplbbjaaaGreatDoorRows
import GoSem.ClaimSeven
namespace Go.Proofs.YtimbigpplbbjaaaGreatDoor
namespace Rows

/-- THE TIED CARD OF 'jetsamlaw04.CheckBents'. -/
def checkBentsCard : Claim7 := { stood := { row := checkBentsRow, standIns := [], harness := (true, "5d7a4587cdd5b80cb658476ac580302d3880bb2c658644ded9e5d4192efca292"), looks := true }, kinds := [], alts := [], laidByText := true, laidKinds := [.data, .data, .data, .data, .sentinel, .sentinel, .data, .data, .data, .pinned], laidTests := true, laidLooks := .later }
def CheckBentsCardSaid : Prop := Claim7.holds Tryz.pinned (.plain (OpenSpec.ofChange checkBentsSpec)) checkBentsCard

/-- THE TIED CARD OF 'jetsamlaw04.CheckPlaces'. -/
def checkPlacesCard : Claim7 := { stood := { row := checkPlacesRow, standIns := [], harness := (true, "5d7a4587cdd5b80cb658476ac580302d3880bb2c658644ded9e5d4192efca292"), looks := true }, kinds := [], alts := [], laidByText := true, laidKinds := [.data, .data, .data, .data, .sentinel, .sentinel, .data, .data, .data, .pinned], laidTests := true, laidLooks := .later }
def CheckPlacesCardSaid : Prop := Claim7.holds Tryz.pinned (.plain (OpenSpec.ofChange checkPlacesSpec)) checkPlacesCard

/-- THE TIED CARD OF 'jetsamlaw04.CheckRules'. -/
def checkRulesCard : Claim7 := { stood := { row := checkRulesRow, standIns := [], harness := (true, "5d7a4587cdd5b80cb658476ac580302d3880bb2c658644ded9e5d4192efca292"), looks := true }, kinds := [], alts := [], laidByText := true, laidKinds := [.data, .data, .data, .data, .sentinel, .sentinel, .data, .data, .data, .pinned], laidTests := true, laidLooks := .later }
def CheckRulesCardSaid : Prop := Claim7.holds Tryz.pinned (.plain (OpenSpec.ofChange checkRulesSpec)) checkRulesCard

/-- THE TIED CARD OF 'jetsamlaw04.CheckNames'. -/
def checkNamesCard : Claim7 := { stood := { row := checkNamesRow, standIns := [], harness := (true, "5d7a4587cdd5b80cb658476ac580302d3880bb2c658644ded9e5d4192efca292"), looks := true }, kinds := [], alts := [], laidByText := true, laidKinds := [.data, .data, .data, .data, .sentinel, .sentinel, .data, .data, .data, .pinned], laidTests := true, laidLooks := .later }
def CheckNamesCardSaid : Prop := Claim7.holds Tryz.pinned (.plain (OpenSpec.ofChange checkNamesSpec)) checkNamesCard

/-- THE TIED CARD OF 'jetsamlaw04.CheckTells'. -/
def checkTellsCard : Claim7 := { stood := { row := checkTellsRow, standIns := [], harness := (true, "5d7a4587cdd5b80cb658476ac580302d3880bb2c658644ded9e5d4192efca292"), looks := true }, kinds := [], alts := [], laidByText := true, laidKinds := [.data, .data, .data, .data, .sentinel, .sentinel, .data, .data, .data, .pinned], laidTests := true, laidLooks := .later }
def CheckTellsCardSaid : Prop := Claim7.holds Tryz.pinned (.plain (OpenSpec.ofChange checkTellsSpec)) checkTellsCard

/-- THE SECOND FORM's CARD OF 'jetsamlaw04.CheckBents'. -/
def checkBentsUptoCard : Claim7 := { stood := { row := checkBentsUptoRow, standIns := [], harness := (true, "5d7a4587cdd5b80cb658476ac580302d3880bb2c658644ded9e5d4192efca292"), looks := true }, kinds := [], alts := [], laidByText := true, laidKinds := [.data, .data, .data, .data, .sentinel, .sentinel, .data, .data, .data, .pinned], laidTests := true, laidLooks := .later }
def CheckBentsUptoCardSaid : Prop := Claim7.holds Tryz.pinned (.plain (OpenSpec.upto checkBentsSpec)) checkBentsUptoCard

/-- THE SECOND FORM's CARD OF 'jetsamlaw04.CheckPlaces'. -/
def checkPlacesUptoCard : Claim7 := { stood := { row := checkPlacesUptoRow, standIns := [], harness := (true, "5d7a4587cdd5b80cb658476ac580302d3880bb2c658644ded9e5d4192efca292"), looks := true }, kinds := [], alts := [], laidByText := true, laidKinds := [.data, .data, .data, .data, .sentinel, .sentinel, .data, .data, .data, .pinned], laidTests := true, laidLooks := .later }
def CheckPlacesUptoCardSaid : Prop := Claim7.holds Tryz.pinned (.plain (OpenSpec.upto checkPlacesSpec)) checkPlacesUptoCard

/-- THE SECOND FORM's CARD OF 'jetsamlaw04.CheckRules'. -/
def checkRulesUptoCard : Claim7 := { stood := { row := checkRulesUptoRow, standIns := [], harness := (true, "5d7a4587cdd5b80cb658476ac580302d3880bb2c658644ded9e5d4192efca292"), looks := true }, kinds := [], alts := [], laidByText := true, laidKinds := [.data, .data, .data, .data, .sentinel, .sentinel, .data, .data, .data, .pinned], laidTests := true, laidLooks := .later }
def CheckRulesUptoCardSaid : Prop := Claim7.holds Tryz.pinned (.plain (OpenSpec.upto checkRulesSpec)) checkRulesUptoCard

/-- THE SECOND FORM's CARD OF 'jetsamlaw04.CheckNames'. -/
def checkNamesUptoCard : Claim7 := { stood := { row := checkNamesUptoRow, standIns := [], harness := (true, "5d7a4587cdd5b80cb658476ac580302d3880bb2c658644ded9e5d4192efca292"), looks := true }, kinds := [], alts := [], laidByText := true, laidKinds := [.data, .data, .data, .data, .sentinel, .sentinel, .data, .data, .data, .pinned], laidTests := true, laidLooks := .later }
def CheckNamesUptoCardSaid : Prop := Claim7.holds Tryz.pinned (.plain (OpenSpec.upto checkNamesSpec)) checkNamesUptoCard

/-- THE SECOND FORM's CARD OF 'jetsamlaw04.CheckTells'. -/
def checkTellsUptoCard : Claim7 := { stood := { row := checkTellsUptoRow, standIns := [], harness := (true, "5d7a4587cdd5b80cb658476ac580302d3880bb2c658644ded9e5d4192efca292"), looks := true }, kinds := [], alts := [], laidByText := true, laidKinds := [.data, .data, .data, .data, .sentinel, .sentinel, .data, .data, .data, .pinned], laidTests := true, laidLooks := .later }
def CheckTellsUptoCardSaid : Prop := Claim7.holds Tryz.pinned (.plain (OpenSpec.upto checkTellsSpec)) checkTellsUptoCard
end Rows
end Go.Proofs.YtimbigpplbbjaaaGreatDoor

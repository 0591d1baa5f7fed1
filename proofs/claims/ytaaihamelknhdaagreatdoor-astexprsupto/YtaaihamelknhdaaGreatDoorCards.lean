/-
  DERIVED. GIVEN WITH THE SEED: THE CARDS: each row of YtaaihamelknhdaaGreatDoorRows.lean that lists a variable, with what it lists TIED to the program's text (the seventh form; the later family's looks); each row that meets fmt, with fmt's text TOLD by the authors' own Lean function (tested against real Go, not proved from fmt's source: count such statements apart). THE CARD IS WHAT COUNTS. Prove the row's statement (the work); the ties are given (YtaaihamelknhdaaGreatDoorTie.lean); close each card by the builder's one call (the guide's Derived/Test/ToyasCard.lean, 'card_holds'). Laid BY PROGRAM, IN A SANDBOX (cutbox-door.mjs). By AI agents, Wed Nov 11 2026. No macro, syntax, notation, axiom, sorry.
-/
import Derived.Test.YtaaihamelknhdaaGreatDoorRows
import GoSem.ClaimSeven
namespace Go.Proofs.YtaaihamelknhdaaGreatDoor
namespace Rows

/-- THE TIED CARD OF 'jetsamlaw02.AstExprs'. -/
def astExprsCard : Claim7 := { stood := { row := astExprsRow, standIns := [], harness := (true, "3282e7207ae40a8daca65759ca00b883ece91380b42cb1f457fcdc0887efaa03"), looks := true }, kinds := [], alts := [], laidByText := true, laidKinds := [.data, .data, .data, .data, .sentinel, .sentinel, .data, .data, .data, .pinned], laidTests := true, laidLooks := .later }
def AstExprsCardSaid : Prop := Claim7.holds Tryz.pinned (.plain (OpenSpec.ofChange astExprsSpec)) astExprsCard

/-- THE TIED CARD OF 'jetsamlaw02.AstTexts'. -/
def astTextsCard : Claim7 := { stood := { row := astTextsRow, standIns := [], harness := (true, "3282e7207ae40a8daca65759ca00b883ece91380b42cb1f457fcdc0887efaa03"), looks := true }, kinds := [], alts := [], laidByText := true, laidKinds := [.data, .data, .data, .data, .sentinel, .sentinel, .data, .data, .data, .pinned], laidTests := true, laidLooks := .later }
def AstTextsCardSaid : Prop := Claim7.holds Tryz.pinned (.plain (OpenSpec.ofChange astTextsSpec)) astTextsCard

/-- THE SECOND FORM's CARD OF 'jetsamlaw02.AstExprs'. -/
def astExprsUptoCard : Claim7 := { stood := { row := astExprsUptoRow, standIns := [], harness := (true, "3282e7207ae40a8daca65759ca00b883ece91380b42cb1f457fcdc0887efaa03"), looks := true }, kinds := [], alts := [], laidByText := true, laidKinds := [.data, .data, .data, .data, .sentinel, .sentinel, .data, .data, .data, .pinned], laidTests := true, laidLooks := .later }
def AstExprsUptoCardSaid : Prop := Claim7.holds Tryz.pinned (.plain (OpenSpec.upto astExprsSpec)) astExprsUptoCard

/-- THE SECOND FORM's CARD OF 'jetsamlaw02.AstTexts'. -/
def astTextsUptoCard : Claim7 := { stood := { row := astTextsUptoRow, standIns := [], harness := (true, "3282e7207ae40a8daca65759ca00b883ece91380b42cb1f457fcdc0887efaa03"), looks := true }, kinds := [], alts := [], laidByText := true, laidKinds := [.data, .data, .data, .data, .sentinel, .sentinel, .data, .data, .data, .pinned], laidTests := true, laidLooks := .later }
def AstTextsUptoCardSaid : Prop := Claim7.holds Tryz.pinned (.plain (OpenSpec.upto astTextsSpec)) astTextsUptoCard
end Rows
end Go.Proofs.YtaaihamelknhdaaGreatDoor

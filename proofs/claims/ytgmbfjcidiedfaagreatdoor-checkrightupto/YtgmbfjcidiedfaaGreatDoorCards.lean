/-
  DERIVED. GIVEN WITH THE SEED: THE CARDS: each row of YtgmbfjcidiedfaaGreatDoorRows.lean that lists a variable, with what it lists TIED to the program's text (the seventh form; the later family's looks); each row that meets fmt, with fmt's text TOLD by the authors' own Lean function (tested against real Go, not proved from fmt's source: count such statements apart). THE CARD IS WHAT COUNTS. Prove the row's statement (the work); the ties are given (YtgmbfjcidiedfaaGreatDoorTie.lean); close each card by the builder's one call (the guide's Derived/Test/ToyasCard.lean, 'card_holds'). Laid BY PROGRAM, IN A SANDBOX (cutbox-door.mjs). By AI agents, Wed Nov 11 2026. No macro, syntax, notation, axiom, sorry.
-/
import Derived.Test.YtgmbfjcidiedfaaGreatDoorRows
import GoSem.ClaimSeven
namespace Go.Proofs.YtgmbfjcidiedfaaGreatDoor
namespace Rows

/-- THE TIED CARD OF 'jetsamlaw04.CheckRight'. -/
def checkRightCard : Claim7 := { stood := { row := checkRightRow, standIns := [], harness := (true, "f6e9e9825a696d86864f9ba468e46a5790112438dc9baa74275dd6bbffa9800b"), looks := true }, kinds := [], alts := [], laidByText := true, laidKinds := [.data, .data, .data, .data, .sentinel, .sentinel, .data, .data, .data, .pinned], laidTests := true, laidLooks := .later }
def CheckRightCardSaid : Prop := Claim7.holds Tryz.pinned (.plain (OpenSpec.ofChange checkRightSpec)) checkRightCard

/-- THE SECOND FORM's CARD OF 'jetsamlaw04.CheckRight'. -/
def checkRightUptoCard : Claim7 := { stood := { row := checkRightUptoRow, standIns := [], harness := (true, "f6e9e9825a696d86864f9ba468e46a5790112438dc9baa74275dd6bbffa9800b"), looks := true }, kinds := [], alts := [], laidByText := true, laidKinds := [.data, .data, .data, .data, .sentinel, .sentinel, .data, .data, .data, .pinned], laidTests := true, laidLooks := .later }
def CheckRightUptoCardSaid : Prop := Claim7.holds Tryz.pinned (.plain (OpenSpec.upto checkRightSpec)) checkRightUptoCard
end Rows
end Go.Proofs.YtgmbfjcidiedfaaGreatDoor

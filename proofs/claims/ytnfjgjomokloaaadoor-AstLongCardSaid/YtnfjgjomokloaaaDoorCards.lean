/-
  DERIVED. GIVEN WITH THE SEED: THE CARDS: each row of YtnfjgjomokloaaaDoorRows.lean that lists a variable, with what it lists TIED to the program's text (the seventh form; the later family's looks); each row that meets fmt, with fmt's text TOLD by the authors' own Lean function (tested against real Go, not proved from fmt's source: count such statements apart). THE CARD IS WHAT COUNTS. Prove the row's statement (the work); the ties are given (YtnfjgjomokloaaaDoorTie.lean); close each card by the builder's one call (the guide's Derived/Test/ToyasCard.lean, 'card_holds'). Laid BY PROGRAM, IN A SANDBOX (cutbox-door.mjs). By AI agents, Wed Nov 11 2026. No macro, syntax, notation, axiom, sorry.
-/
import Derived.Test.YtnfjgjomokloaaaDoorRows
import GoSem.ClaimSeven
namespace Go.Proofs.YtnfjgjomokloaaaDoor
namespace Rows

/-- THE TIED CARD OF 'jetsamlaw02.AstLong'. -/
def astLongCard : Claim7 := { stood := { row := astLongRow, standIns := [], harness := (true, "d67792eb32de700b3cdcaba96ea86b4168c25c2d97bd05751a1484e3a45f57e9"), looks := true }, kinds := [], alts := [], laidByText := true, laidKinds := [.data, .data, .data, .data, .sentinel, .sentinel, .data, .data, .data, .pinned], laidTests := true, laidLooks := .later }
def AstLongCardSaid : Prop := Claim7.holds Tryd.pinned (.plain (OpenSpec.ofChange astLongSpec)) astLongCard

/-- THE TIED CARD OF 'jetsamlaw02.AstNames'. -/
def astNamesCard : Claim7 := { stood := { row := astNamesRow, standIns := [], harness := (true, "d67792eb32de700b3cdcaba96ea86b4168c25c2d97bd05751a1484e3a45f57e9"), looks := true }, kinds := [], alts := [], laidByText := true, laidKinds := [.data, .data, .data, .data, .sentinel, .sentinel, .data, .data, .data, .pinned], laidTests := true, laidLooks := .later }
def AstNamesCardSaid : Prop := Claim7.holds Tryd.pinned (.plain (OpenSpec.ofChange astNamesSpec)) astNamesCard

/-- THE SECOND FORM's CARD OF 'jetsamlaw02.AstLong'. -/
def astLongUptoCard : Claim7 := { stood := { row := astLongUptoRow, standIns := [], harness := (true, "d67792eb32de700b3cdcaba96ea86b4168c25c2d97bd05751a1484e3a45f57e9"), looks := true }, kinds := [], alts := [], laidByText := true, laidKinds := [.data, .data, .data, .data, .sentinel, .sentinel, .data, .data, .data, .pinned], laidTests := true, laidLooks := .later }
def AstLongUptoCardSaid : Prop := Claim7.holds Tryd.pinned (.plain (OpenSpec.upto astLongSpec)) astLongUptoCard

/-- THE SECOND FORM's CARD OF 'jetsamlaw02.AstNames'. -/
def astNamesUptoCard : Claim7 := { stood := { row := astNamesUptoRow, standIns := [], harness := (true, "d67792eb32de700b3cdcaba96ea86b4168c25c2d97bd05751a1484e3a45f57e9"), looks := true }, kinds := [], alts := [], laidByText := true, laidKinds := [.data, .data, .data, .data, .sentinel, .sentinel, .data, .data, .data, .pinned], laidTests := true, laidLooks := .later }
def AstNamesUptoCardSaid : Prop := Claim7.holds Tryd.pinned (.plain (OpenSpec.upto astNamesSpec)) astNamesUptoCard
end Rows
end Go.Proofs.YtnfjgjomokloaaaDoor

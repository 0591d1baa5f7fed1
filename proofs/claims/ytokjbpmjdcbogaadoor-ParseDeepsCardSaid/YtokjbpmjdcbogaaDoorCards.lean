/-
  DERIVED. GIVEN WITH THE SEED: THE CARDS: each row of YtokjbpmjdcbogaaDoorRows.lean that lists a variable, with what it lists TIED to the program's text (the seventh form; the later family's looks); each row that meets fmt, with fmt's text TOLD by the authors' own Lean function (tested against real Go, not proved from fmt's source: count such statements apart). THE CARD IS WHAT COUNTS. Prove the row's statement (the work); the ties are given (YtokjbpmjdcbogaaDoorTie.lean); close each card by the builder's one call (the guide's Derived/Test/ToyasCard.lean, 'card_holds'). Laid BY PROGRAM, IN A SANDBOX (cutbox-door.mjs). By AI agents, Wed Nov 11 2026. No macro, syntax, notation, axiom, sorry.
-/
import Derived.Test.YtokjbpmjdcbogaaDoorRows
import GoSem.ClaimSeven
namespace Go.Proofs.YtokjbpmjdcbogaaDoor
namespace Rows

/-- THE TIED CARD OF 'jetsamlaw03.ParseDeeps'. -/
def parseDeepsCard : Claim7 := { stood := { row := parseDeepsRow, standIns := [], harness := (true, "1f01a4504bb8742ee4ab14f63885c3cce8d5d48901a577fcd323e1ba9474920f"), looks := true }, kinds := [], alts := [], laidByText := true, laidKinds := [.data, .data, .data, .data, .sentinel, .sentinel, .pinned], laidTests := true, laidLooks := .later }
def ParseDeepsCardSaid : Prop := Claim7.holds Tryd.pinned (.plain (OpenSpec.ofChange parseDeepsSpec)) parseDeepsCard

/-- THE SECOND FORM's CARD OF 'jetsamlaw03.ParseDeeps'. -/
def parseDeepsUptoCard : Claim7 := { stood := { row := parseDeepsUptoRow, standIns := [], harness := (true, "1f01a4504bb8742ee4ab14f63885c3cce8d5d48901a577fcd323e1ba9474920f"), looks := true }, kinds := [], alts := [], laidByText := true, laidKinds := [.data, .data, .data, .data, .sentinel, .sentinel, .pinned], laidTests := true, laidLooks := .later }
def ParseDeepsUptoCardSaid : Prop := Claim7.holds Tryd.pinned (.plain (OpenSpec.upto parseDeepsSpec)) parseDeepsUptoCard
end Rows
end Go.Proofs.YtokjbpmjdcbogaaDoor

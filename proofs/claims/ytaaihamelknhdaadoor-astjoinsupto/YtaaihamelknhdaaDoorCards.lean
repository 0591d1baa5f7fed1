/-
  DERIVED. GIVEN WITH THE SEED: THE CARDS: each row of YtaaihamelknhdaaDoorRows.lean that lists a variable, with what it lists TIED to the program's text (the seventh form; the later family's looks); each row that meets fmt, with fmt's text TOLD by the authors' own Lean function (tested against real Go, not proved from fmt's source: count such statements apart). THE CARD IS WHAT COUNTS. Prove the row's statement (the work); the ties are given (YtaaihamelknhdaaDoorTie.lean); close each card by the builder's one call (the guide's Derived/Test/ToyasCard.lean, 'card_holds'). Laid BY PROGRAM, IN A SANDBOX (cutbox-door.mjs). By AI agents, Wed Nov 11 2026. No macro, syntax, notation, axiom, sorry.
-/
import Derived.Test.YtaaihamelknhdaaDoorRows
import GoSem.ClaimSeven
namespace Go.Proofs.YtaaihamelknhdaaDoor
namespace Rows

/-- THE TIED CARD OF 'jetsamlaw02.AstDeeps'. -/
def astDeepsCard : Claim7 := { stood := { row := astDeepsRow, standIns := [], harness := (true, "971105b54d318db4f0e9f0cc2092b673ed4f1fd99e354e62d844a06bcc4037b5"), looks := true }, kinds := [], alts := [], laidByText := true, laidKinds := [.data, .data, .data, .data, .sentinel, .sentinel, .data, .data, .data, .pinned], laidTests := true, laidLooks := .later }
def AstDeepsCardSaid : Prop := Claim7.holds Tryd.pinned (.plain (OpenSpec.ofChange astDeepsSpec)) astDeepsCard

/-- THE TIED CARD OF 'jetsamlaw02.AstLong'. -/
def astLongCard : Claim7 := { stood := { row := astLongRow, standIns := [], harness := (true, "971105b54d318db4f0e9f0cc2092b673ed4f1fd99e354e62d844a06bcc4037b5"), looks := true }, kinds := [], alts := [], laidByText := true, laidKinds := [.data, .data, .data, .data, .sentinel, .sentinel, .data, .data, .data, .pinned], laidTests := true, laidLooks := .later }
def AstLongCardSaid : Prop := Claim7.holds Tryd.pinned (.plain (OpenSpec.ofChange astLongSpec)) astLongCard

/-- THE TIED CARD OF 'jetsamlaw02.AstEmpty'. -/
def astEmptyCard : Claim7 := { stood := { row := astEmptyRow, standIns := [], harness := (true, "971105b54d318db4f0e9f0cc2092b673ed4f1fd99e354e62d844a06bcc4037b5"), looks := true }, kinds := [], alts := [], laidByText := true, laidKinds := [.data, .data, .data, .data, .sentinel, .sentinel, .data, .data, .data, .pinned], laidTests := true, laidLooks := .later }
def AstEmptyCardSaid : Prop := Claim7.holds Tryd.pinned (.plain (OpenSpec.ofChange astEmptySpec)) astEmptyCard

/-- THE TIED CARD OF 'jetsamlaw02.AstJoins'. -/
def astJoinsCard : Claim7 := { stood := { row := astJoinsRow, standIns := [], harness := (true, "971105b54d318db4f0e9f0cc2092b673ed4f1fd99e354e62d844a06bcc4037b5"), looks := true }, kinds := [], alts := [], laidByText := true, laidKinds := [.data, .data, .data, .data, .sentinel, .sentinel, .data, .data, .data, .pinned], laidTests := true, laidLooks := .later }
def AstJoinsCardSaid : Prop := Claim7.holds Tryd.pinned (.plain (OpenSpec.ofChange astJoinsSpec)) astJoinsCard

/-- THE TIED CARD OF 'jetsamlaw02.AstNames'. -/
def astNamesCard : Claim7 := { stood := { row := astNamesRow, standIns := [], harness := (true, "971105b54d318db4f0e9f0cc2092b673ed4f1fd99e354e62d844a06bcc4037b5"), looks := true }, kinds := [], alts := [], laidByText := true, laidKinds := [.data, .data, .data, .data, .sentinel, .sentinel, .data, .data, .data, .pinned], laidTests := true, laidLooks := .later }
def AstNamesCardSaid : Prop := Claim7.holds Tryd.pinned (.plain (OpenSpec.ofChange astNamesSpec)) astNamesCard

/-- THE SECOND FORM's CARD OF 'jetsamlaw02.AstDeeps'. -/
def astDeepsUptoCard : Claim7 := { stood := { row := astDeepsUptoRow, standIns := [], harness := (true, "971105b54d318db4f0e9f0cc2092b673ed4f1fd99e354e62d844a06bcc4037b5"), looks := true }, kinds := [], alts := [], laidByText := true, laidKinds := [.data, .data, .data, .data, .sentinel, .sentinel, .data, .data, .data, .pinned], laidTests := true, laidLooks := .later }
def AstDeepsUptoCardSaid : Prop := Claim7.holds Tryd.pinned (.plain (OpenSpec.upto astDeepsSpec)) astDeepsUptoCard

/-- THE SECOND FORM's CARD OF 'jetsamlaw02.AstLong'. -/
def astLongUptoCard : Claim7 := { stood := { row := astLongUptoRow, standIns := [], harness := (true, "971105b54d318db4f0e9f0cc2092b673ed4f1fd99e354e62d844a06bcc4037b5"), looks := true }, kinds := [], alts := [], laidByText := true, laidKinds := [.data, .data, .data, .data, .sentinel, .sentinel, .data, .data, .data, .pinned], laidTests := true, laidLooks := .later }
def AstLongUptoCardSaid : Prop := Claim7.holds Tryd.pinned (.plain (OpenSpec.upto astLongSpec)) astLongUptoCard

/-- THE SECOND FORM's CARD OF 'jetsamlaw02.AstEmpty'. -/
def astEmptyUptoCard : Claim7 := { stood := { row := astEmptyUptoRow, standIns := [], harness := (true, "971105b54d318db4f0e9f0cc2092b673ed4f1fd99e354e62d844a06bcc4037b5"), looks := true }, kinds := [], alts := [], laidByText := true, laidKinds := [.data, .data, .data, .data, .sentinel, .sentinel, .data, .data, .data, .pinned], laidTests := true, laidLooks := .later }
def AstEmptyUptoCardSaid : Prop := Claim7.holds Tryd.pinned (.plain (OpenSpec.upto astEmptySpec)) astEmptyUptoCard

/-- THE SECOND FORM's CARD OF 'jetsamlaw02.AstJoins'. -/
def astJoinsUptoCard : Claim7 := { stood := { row := astJoinsUptoRow, standIns := [], harness := (true, "971105b54d318db4f0e9f0cc2092b673ed4f1fd99e354e62d844a06bcc4037b5"), looks := true }, kinds := [], alts := [], laidByText := true, laidKinds := [.data, .data, .data, .data, .sentinel, .sentinel, .data, .data, .data, .pinned], laidTests := true, laidLooks := .later }
def AstJoinsUptoCardSaid : Prop := Claim7.holds Tryd.pinned (.plain (OpenSpec.upto astJoinsSpec)) astJoinsUptoCard

/-- THE SECOND FORM's CARD OF 'jetsamlaw02.AstNames'. -/
def astNamesUptoCard : Claim7 := { stood := { row := astNamesUptoRow, standIns := [], harness := (true, "971105b54d318db4f0e9f0cc2092b673ed4f1fd99e354e62d844a06bcc4037b5"), looks := true }, kinds := [], alts := [], laidByText := true, laidKinds := [.data, .data, .data, .data, .sentinel, .sentinel, .data, .data, .data, .pinned], laidTests := true, laidLooks := .later }
def AstNamesUptoCardSaid : Prop := Claim7.holds Tryd.pinned (.plain (OpenSpec.upto astNamesSpec)) astNamesUptoCard
end Rows
end Go.Proofs.YtaaihamelknhdaaDoor

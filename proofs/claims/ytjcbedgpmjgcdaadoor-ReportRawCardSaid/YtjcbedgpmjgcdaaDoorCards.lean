/-
  DERIVED. GIVEN WITH THE SEED: THE CARDS: each row of YtjcbedgpmjgcdaaDoorRows.lean that lists a variable, with what it lists TIED to the program's text (the seventh form; the later family's looks); each row that meets fmt, with fmt's text TOLD by the authors' own Lean function (tested against real Go, not proved from fmt's source: count such statements apart). THE CARD IS WHAT COUNTS. Prove the row's statement (the work); the ties are given (YtjcbedgpmjgcdaaDoorTie.lean); close each card by the builder's one call (the guide's Derived/Test/ToyasCard.lean, 'card_holds'). Laid BY PROGRAM, IN A SANDBOX (cutbox-door.mjs). By AI agents, Wed Nov 11 2026. No macro, syntax, notation, axiom, sorry.
-/
import Derived.Test.YtjcbedgpmjgcdaaDoorRows
import GoSem.ClaimSeven
namespace Go.Proofs.YtjcbedgpmjgcdaaDoor
namespace Rows

/-- THE TIED CARD OF 'jetsamlaw17.ReportItvs'. -/
def reportItvsCard : Claim7 := { stood := { row := reportItvsRow, standIns := [], harness := (true, "246a6dfe0f5f01345e896fc701baa9913c652a503ae89d2ffd190aead96b4069"), looks := true }, kinds := [], alts := [], laidByText := true, laidKinds := [.data, .data, .data, .data], laidTests := true, laidLooks := .later }
def ReportItvsCardSaid : Prop := Claim7.holds Tryd.pinned (.plain (OpenSpec.ofChange reportItvsSpec)) reportItvsCard

/-- THE TIED CARD OF 'jetsamlaw17.ReportRaw'. -/
def reportRawCard : Claim7 := { stood := { row := reportRawRow, standIns := [], harness := (true, "246a6dfe0f5f01345e896fc701baa9913c652a503ae89d2ffd190aead96b4069"), looks := true }, kinds := [], alts := [], laidByText := true, laidKinds := [.data, .data, .data, .data], laidTests := true, laidLooks := .later }
def ReportRawCardSaid : Prop := Claim7.holds Tryd.pinned (.plain (OpenSpec.ofChange reportRawSpec)) reportRawCard

/-- THE TIED CARD OF 'jetsamlaw01.LexReads'. -/
def lexReadsCard : Claim7 := { stood := { row := lexReadsRow, standIns := [], harness := (true, "246a6dfe0f5f01345e896fc701baa9913c652a503ae89d2ffd190aead96b4069"), looks := true }, kinds := [], alts := [], laidByText := true, laidKinds := [.data, .data, .data, .data, .sentinel, .sentinel, .pinned], laidTests := true, laidLooks := .later }
def LexReadsCardSaid : Prop := Claim7.holds Tryd.pinned (.plain (OpenSpec.ofChange lexReadsSpec)) lexReadsCard

/-- THE TIED CARD OF 'jetsamlaw01.LexJoins'. -/
def lexJoinsCard : Claim7 := { stood := { row := lexJoinsRow, standIns := [], harness := (true, "246a6dfe0f5f01345e896fc701baa9913c652a503ae89d2ffd190aead96b4069"), looks := true }, kinds := [], alts := [], laidByText := true, laidKinds := [.data, .data, .data, .data, .sentinel, .sentinel, .pinned], laidTests := true, laidLooks := .later }
def LexJoinsCardSaid : Prop := Claim7.holds Tryd.pinned (.plain (OpenSpec.ofChange lexJoinsSpec)) lexJoinsCard

/-- THE TIED CARD OF 'jetsamlaw01.LexNumbers'. -/
def lexNumbersCard : Claim7 := { stood := { row := lexNumbersRow, standIns := [], harness := (true, "246a6dfe0f5f01345e896fc701baa9913c652a503ae89d2ffd190aead96b4069"), looks := true }, kinds := [], alts := [], laidByText := true, laidKinds := [.data, .data, .data, .data, .sentinel, .sentinel, .pinned], laidTests := true, laidLooks := .later }
def LexNumbersCardSaid : Prop := Claim7.holds Tryd.pinned (.plain (OpenSpec.ofChange lexNumbersSpec)) lexNumbersCard

/-- THE TIED CARD OF 'jetsamlaw01.LexReserved'. -/
def lexReservedCard : Claim7 := { stood := { row := lexReservedRow, standIns := [], harness := (true, "246a6dfe0f5f01345e896fc701baa9913c652a503ae89d2ffd190aead96b4069"), looks := true }, kinds := [], alts := [], laidByText := true, laidKinds := [.data, .data, .data, .data, .sentinel, .sentinel, .pinned], laidTests := true, laidLooks := .later }
def LexReservedCardSaid : Prop := Claim7.holds Tryd.pinned (.plain (OpenSpec.ofChange lexReservedSpec)) lexReservedCard

/-- THE TIED CARD OF 'jetsamlaw01.LexLong'. -/
def lexLongCard : Claim7 := { stood := { row := lexLongRow, standIns := [], harness := (true, "246a6dfe0f5f01345e896fc701baa9913c652a503ae89d2ffd190aead96b4069"), looks := true }, kinds := [], alts := [], laidByText := true, laidKinds := [.data, .data, .data, .data, .sentinel, .sentinel, .pinned], laidTests := true, laidLooks := .later }
def LexLongCardSaid : Prop := Claim7.holds Tryd.pinned (.plain (OpenSpec.ofChange lexLongSpec)) lexLongCard

/-- THE TIED CARD OF 'jetsamlaw01.LexBlanks'. -/
def lexBlanksCard : Claim7 := { stood := { row := lexBlanksRow, standIns := [], harness := (true, "246a6dfe0f5f01345e896fc701baa9913c652a503ae89d2ffd190aead96b4069"), looks := true }, kinds := [], alts := [], laidByText := true, laidKinds := [.data, .data, .data, .data, .sentinel, .sentinel, .pinned], laidTests := true, laidLooks := .later }
def LexBlanksCardSaid : Prop := Claim7.holds Tryd.pinned (.plain (OpenSpec.ofChange lexBlanksSpec)) lexBlanksCard

/-- THE TIED CARD OF 'jetsamlaw01.LexNames'. -/
def lexNamesCard : Claim7 := { stood := { row := lexNamesRow, standIns := [], harness := (true, "246a6dfe0f5f01345e896fc701baa9913c652a503ae89d2ffd190aead96b4069"), looks := true }, kinds := [], alts := [], laidByText := true, laidKinds := [.data, .data, .data, .data, .sentinel, .sentinel, .pinned], laidTests := true, laidLooks := .later }
def LexNamesCardSaid : Prop := Claim7.holds Tryd.pinned (.plain (OpenSpec.ofChange lexNamesSpec)) lexNamesCard

/-- THE TIED CARD OF 'jetsamlaw01.LexSigns'. -/
def lexSignsCard : Claim7 := { stood := { row := lexSignsRow, standIns := [], harness := (true, "246a6dfe0f5f01345e896fc701baa9913c652a503ae89d2ffd190aead96b4069"), looks := true }, kinds := [], alts := [], laidByText := true, laidKinds := [.data, .data, .data, .data, .sentinel, .sentinel, .pinned], laidTests := true, laidLooks := .later }
def LexSignsCardSaid : Prop := Claim7.holds Tryd.pinned (.plain (OpenSpec.ofChange lexSignsSpec)) lexSignsCard

/-- THE SECOND FORM's CARD OF 'jetsamlaw17.ReportItvs'. -/
def reportItvsUptoCard : Claim7 := { stood := { row := reportItvsUptoRow, standIns := [], harness := (true, "246a6dfe0f5f01345e896fc701baa9913c652a503ae89d2ffd190aead96b4069"), looks := true }, kinds := [], alts := [], laidByText := true, laidKinds := [.data, .data, .data, .data], laidTests := true, laidLooks := .later }
def ReportItvsUptoCardSaid : Prop := Claim7.holds Tryd.pinned (.plain (OpenSpec.upto reportItvsSpec)) reportItvsUptoCard

/-- THE SECOND FORM's CARD OF 'jetsamlaw17.ReportRaw'. -/
def reportRawUptoCard : Claim7 := { stood := { row := reportRawUptoRow, standIns := [], harness := (true, "246a6dfe0f5f01345e896fc701baa9913c652a503ae89d2ffd190aead96b4069"), looks := true }, kinds := [], alts := [], laidByText := true, laidKinds := [.data, .data, .data, .data], laidTests := true, laidLooks := .later }
def ReportRawUptoCardSaid : Prop := Claim7.holds Tryd.pinned (.plain (OpenSpec.upto reportRawSpec)) reportRawUptoCard

/-- THE SECOND FORM's CARD OF 'jetsamlaw01.LexReads'. -/
def lexReadsUptoCard : Claim7 := { stood := { row := lexReadsUptoRow, standIns := [], harness := (true, "246a6dfe0f5f01345e896fc701baa9913c652a503ae89d2ffd190aead96b4069"), looks := true }, kinds := [], alts := [], laidByText := true, laidKinds := [.data, .data, .data, .data, .sentinel, .sentinel, .pinned], laidTests := true, laidLooks := .later }
def LexReadsUptoCardSaid : Prop := Claim7.holds Tryd.pinned (.plain (OpenSpec.upto lexReadsSpec)) lexReadsUptoCard

/-- THE SECOND FORM's CARD OF 'jetsamlaw01.LexJoins'. -/
def lexJoinsUptoCard : Claim7 := { stood := { row := lexJoinsUptoRow, standIns := [], harness := (true, "246a6dfe0f5f01345e896fc701baa9913c652a503ae89d2ffd190aead96b4069"), looks := true }, kinds := [], alts := [], laidByText := true, laidKinds := [.data, .data, .data, .data, .sentinel, .sentinel, .pinned], laidTests := true, laidLooks := .later }
def LexJoinsUptoCardSaid : Prop := Claim7.holds Tryd.pinned (.plain (OpenSpec.upto lexJoinsSpec)) lexJoinsUptoCard

/-- THE SECOND FORM's CARD OF 'jetsamlaw01.LexNumbers'. -/
def lexNumbersUptoCard : Claim7 := { stood := { row := lexNumbersUptoRow, standIns := [], harness := (true, "246a6dfe0f5f01345e896fc701baa9913c652a503ae89d2ffd190aead96b4069"), looks := true }, kinds := [], alts := [], laidByText := true, laidKinds := [.data, .data, .data, .data, .sentinel, .sentinel, .pinned], laidTests := true, laidLooks := .later }
def LexNumbersUptoCardSaid : Prop := Claim7.holds Tryd.pinned (.plain (OpenSpec.upto lexNumbersSpec)) lexNumbersUptoCard

/-- THE SECOND FORM's CARD OF 'jetsamlaw01.LexReserved'. -/
def lexReservedUptoCard : Claim7 := { stood := { row := lexReservedUptoRow, standIns := [], harness := (true, "246a6dfe0f5f01345e896fc701baa9913c652a503ae89d2ffd190aead96b4069"), looks := true }, kinds := [], alts := [], laidByText := true, laidKinds := [.data, .data, .data, .data, .sentinel, .sentinel, .pinned], laidTests := true, laidLooks := .later }
def LexReservedUptoCardSaid : Prop := Claim7.holds Tryd.pinned (.plain (OpenSpec.upto lexReservedSpec)) lexReservedUptoCard

/-- THE SECOND FORM's CARD OF 'jetsamlaw01.LexLong'. -/
def lexLongUptoCard : Claim7 := { stood := { row := lexLongUptoRow, standIns := [], harness := (true, "246a6dfe0f5f01345e896fc701baa9913c652a503ae89d2ffd190aead96b4069"), looks := true }, kinds := [], alts := [], laidByText := true, laidKinds := [.data, .data, .data, .data, .sentinel, .sentinel, .pinned], laidTests := true, laidLooks := .later }
def LexLongUptoCardSaid : Prop := Claim7.holds Tryd.pinned (.plain (OpenSpec.upto lexLongSpec)) lexLongUptoCard

/-- THE SECOND FORM's CARD OF 'jetsamlaw01.LexBlanks'. -/
def lexBlanksUptoCard : Claim7 := { stood := { row := lexBlanksUptoRow, standIns := [], harness := (true, "246a6dfe0f5f01345e896fc701baa9913c652a503ae89d2ffd190aead96b4069"), looks := true }, kinds := [], alts := [], laidByText := true, laidKinds := [.data, .data, .data, .data, .sentinel, .sentinel, .pinned], laidTests := true, laidLooks := .later }
def LexBlanksUptoCardSaid : Prop := Claim7.holds Tryd.pinned (.plain (OpenSpec.upto lexBlanksSpec)) lexBlanksUptoCard

/-- THE SECOND FORM's CARD OF 'jetsamlaw01.LexNames'. -/
def lexNamesUptoCard : Claim7 := { stood := { row := lexNamesUptoRow, standIns := [], harness := (true, "246a6dfe0f5f01345e896fc701baa9913c652a503ae89d2ffd190aead96b4069"), looks := true }, kinds := [], alts := [], laidByText := true, laidKinds := [.data, .data, .data, .data, .sentinel, .sentinel, .pinned], laidTests := true, laidLooks := .later }
def LexNamesUptoCardSaid : Prop := Claim7.holds Tryd.pinned (.plain (OpenSpec.upto lexNamesSpec)) lexNamesUptoCard

/-- THE SECOND FORM's CARD OF 'jetsamlaw01.LexSigns'. -/
def lexSignsUptoCard : Claim7 := { stood := { row := lexSignsUptoRow, standIns := [], harness := (true, "246a6dfe0f5f01345e896fc701baa9913c652a503ae89d2ffd190aead96b4069"), looks := true }, kinds := [], alts := [], laidByText := true, laidKinds := [.data, .data, .data, .data, .sentinel, .sentinel, .pinned], laidTests := true, laidLooks := .later }
def LexSignsUptoCardSaid : Prop := Claim7.holds Tryd.pinned (.plain (OpenSpec.upto lexSignsSpec)) lexSignsUptoCard
end Rows
end Go.Proofs.YtjcbedgpmjgcdaaDoor

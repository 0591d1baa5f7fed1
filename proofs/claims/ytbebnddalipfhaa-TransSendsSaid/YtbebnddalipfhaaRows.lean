/-
  No cell of these rows narrows 'for every input' (looked for: loops, veiled, ifaces, maps, wideKeys, modest, calm, conditions, laid).
  DERIVED. THE GIVEN ROWS OF THIS SEAT. 3 by the template 'for every input the law returns true; each argument reads behind the call as it read before'; 0 by the template 'total and deterministic' (their statements: YtbebnddalipfhaaTotals.lean).
  GIVEN WITH THE SEED: the statements are not yours to turn. If you find one false, say at which input.
  Laid BY PROGRAM, IN A SANDBOX (cutbox-rows.mjs): the forced cells as the released guide's own fill.sh prints them over the translation 5f42bed17c525cee… (all of the seat's roots in one cut). By AI agents, Wed Nov 11 2026. No macro, syntax, notation, axiom, sorry.
-/
import Derived.Test.YtbebnddalipfhaaChecked
import GoSem.Claim
import GoSem.ClaimJoined
import GoSem.ClaimMapViews
import Derived.JoinedTies
import Derived.KernelRfl
namespace Go.Proofs.Ytbebnddalipfhaa
/- THE CELL 'sum', in the pinned program and in every row, IS THE sha256 OF THE DUMP (.gsa) THAT YtbebnddalipfhaaProg.lean LOADS. Nothing in Lean hashes anything: it is a label: what it is worth is what the hold of that sum in a sandbox is worth. -/
noncomputable def Try.pinned : Pinned := { name := "ytbebnddalipfhaa", sum := "5f42bed17c525cee00cbbb4cb5c177361f291fcf5b19f6357ab155a6986d69eb", checked := Try.checked }
namespace Rows
def none {H : Type} : Left H := { results := [], args := [] }

/-- 'jetsamlaw14.TransErrors': WHATEVER THE INPUT: true; the input reads as it did. -/
def transErrorsSpec : ChangeSpec := { name := "transErrors", fn := fun _ => fun
  | [d1, d2, d3] => { results := [.lit (.bool true)], args := [d1, d2, d3] }
  | _ => none }
def transErrorsRow : OpenClaim := { program := "ytbebnddalipfhaa", sum := "5f42bed17c525cee00cbbb4cb5c177361f291fcf5b19f6357ab155a6986d69eb", func := "jetsam/jetsamlaw14.TransErrors", spec := "transErrors", unfollowed := true, recurses := true, apart := false }
def TransErrorsSaid : Prop := transErrorsRow.holds Try.pinned (OpenSpec.ofChange transErrorsSpec)

/-- ITS FALSE NEIGHBOUR: 'it returns false'. Refute it at one input. -/
def transErrorsWrong : ChangeSpec := { name := "transErrors", fn := fun _ => fun
  | [d1, d2, d3] => { results := [.lit (.bool false)], args := [d1, d2, d3] }
  | _ => none }
def TransErrorsWrongFalsely : Prop := transErrorsRow.holds Try.pinned (OpenSpec.ofChange transErrorsWrong)

/-- 'jetsamlaw14.TransSends': WHATEVER THE INPUT: true; the input reads as it did. -/
def transSendsSpec : ChangeSpec := { name := "transSends", fn := fun _ => fun
  | [d1, d2, d3] => { results := [.lit (.bool true)], args := [d1, d2, d3] }
  | _ => none }
def transSendsRow : OpenClaim := { program := "ytbebnddalipfhaa", sum := "5f42bed17c525cee00cbbb4cb5c177361f291fcf5b19f6357ab155a6986d69eb", func := "jetsam/jetsamlaw14.TransSends", spec := "transSends", unfollowed := true, recurses := true, apart := false }
def TransSendsSaid : Prop := transSendsRow.holds Try.pinned (OpenSpec.ofChange transSendsSpec)

/-- ITS FALSE NEIGHBOUR: 'it returns false'. Refute it at one input. -/
def transSendsWrong : ChangeSpec := { name := "transSends", fn := fun _ => fun
  | [d1, d2, d3] => { results := [.lit (.bool false)], args := [d1, d2, d3] }
  | _ => none }
def TransSendsWrongFalsely : Prop := transSendsRow.holds Try.pinned (OpenSpec.ofChange transSendsWrong)

/-- 'jetsamlaw14.TransTakes': WHATEVER THE INPUT: true; the input reads as it did. -/
def transTakesSpec : ChangeSpec := { name := "transTakes", fn := fun _ => fun
  | [d1, d2, d3] => { results := [.lit (.bool true)], args := [d1, d2, d3] }
  | _ => none }
def transTakesRow : OpenClaim := { program := "ytbebnddalipfhaa", sum := "5f42bed17c525cee00cbbb4cb5c177361f291fcf5b19f6357ab155a6986d69eb", func := "jetsam/jetsamlaw14.TransTakes", spec := "transTakes", unfollowed := true, recurses := true, apart := false }
def TransTakesSaid : Prop := transTakesRow.holds Try.pinned (OpenSpec.ofChange transTakesSpec)

/-- ITS FALSE NEIGHBOUR: 'it returns false'. Refute it at one input. -/
def transTakesWrong : ChangeSpec := { name := "transTakes", fn := fun _ => fun
  | [d1, d2, d3] => { results := [.lit (.bool false)], args := [d1, d2, d3] }
  | _ => none }
def TransTakesWrongFalsely : Prop := transTakesRow.holds Try.pinned (OpenSpec.ofChange transTakesWrong)

/- THE SECOND FORM. 'bulk': how many values and letters a reading holds, each counted each time it is reached (what is shared counts as often as it is met; a slice's spare places count too). A statement '..UptoSaid' is the law's where the arguments, and the package variables that the reading takes, are together of bulk at most 1048576: NARROWER than '..Said'. Prove '..Said' where nothing that the law and all that it calls make is longer than what came in: it says more and counts as full. Else prove '..UptoSaid'. A law counts once. -/
mutual
def uptoBulk {H : Type} : DataW H → Nat
  | .lit (.string bytes) => bytes.length + 1
  | .lit _ => 1
  | .nil => 1
  | .ptr d => uptoBulk d + 1
  | .slice elems spare => uptoBulkAll elems + uptoBulkAll spare + 1
  | .agg parts => uptoBulkAll parts + 1
  | .iface _ d => uptoBulk d + 1
  | .map entries => uptoBulkEntries entries + 1
  | .held _ => 1
def uptoBulkAll {H : Type} : List (DataW H) → Nat
  | [] => 0
  | d :: r => uptoBulk d + uptoBulkAll r
def uptoBulkEntries {H : Type} : List (Lit × DataW H) → Nat
  | [] => 0
  | x :: r => uptoBulkEntry x + uptoBulkEntries r
def uptoBulkEntry {H : Type} : Lit × DataW H → Nat
  | (.string bytes, d) => bytes.length + uptoBulk d + 1
  | (_, d) => uptoBulk d + 1
 end
def uptoSmall : (H : Type) → List (DataW H) → Bool := fun _ ds => decide (uptoBulkAll ds ≤ 1048576)
def OpenSpec.upto (s : _root_.Go.ChangeSpec) : _root_.Go.OpenSpec := { _root_.Go.OpenSpec.ofChange s with cond := some uptoSmall }

/-- 'jetsamlaw14.TransErrors', WHERE WHAT IT READS IS OF BULK AT MOST 1048576: true; the input reads as it did. -/
def transErrorsUptoRow : OpenClaim := { program := "ytbebnddalipfhaa", sum := "5f42bed17c525cee00cbbb4cb5c177361f291fcf5b19f6357ab155a6986d69eb", func := "jetsam/jetsamlaw14.TransErrors", spec := "transErrors", unfollowed := true, recurses := true, apart := false, narrowed := true }
def TransErrorsUptoSaid : Prop := transErrorsUptoRow.holds Try.pinned (OpenSpec.upto transErrorsSpec)

/-- 'jetsamlaw14.TransSends', WHERE WHAT IT READS IS OF BULK AT MOST 1048576: true; the input reads as it did. -/
def transSendsUptoRow : OpenClaim := { program := "ytbebnddalipfhaa", sum := "5f42bed17c525cee00cbbb4cb5c177361f291fcf5b19f6357ab155a6986d69eb", func := "jetsam/jetsamlaw14.TransSends", spec := "transSends", unfollowed := true, recurses := true, apart := false, narrowed := true }
def TransSendsUptoSaid : Prop := transSendsUptoRow.holds Try.pinned (OpenSpec.upto transSendsSpec)

/-- 'jetsamlaw14.TransTakes', WHERE WHAT IT READS IS OF BULK AT MOST 1048576: true; the input reads as it did. -/
def transTakesUptoRow : OpenClaim := { program := "ytbebnddalipfhaa", sum := "5f42bed17c525cee00cbbb4cb5c177361f291fcf5b19f6357ab155a6986d69eb", func := "jetsam/jetsamlaw14.TransTakes", spec := "transTakes", unfollowed := true, recurses := true, apart := false, narrowed := true }
def TransTakesUptoSaid : Prop := transTakesUptoRow.holds Try.pinned (OpenSpec.upto transTakesSpec)

end Rows
end Go.Proofs.Ytbebnddalipfhaa

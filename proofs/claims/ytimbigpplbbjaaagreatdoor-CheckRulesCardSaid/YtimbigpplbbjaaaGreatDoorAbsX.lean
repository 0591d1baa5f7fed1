/- A row of an array of arrays that is a value. -/
import Derived.Test.YtimbigpplbbjaaaGreatDoorAbsT
namespace Go.Proofs.YtimbigpplbbjaaaGreatDoor.Abs
open Go Go.RowKit
set_option linter.unusedVariables false
set_option linter.unusedSimpArgs false
section
variable {P:Program} {G:Nat→Option (List PV)} {o:Oper} {n m:Nat} {env:List (Nat × List XV)} {st:z0q}
variable {α:Type} {e:α→PV} {D2:Nat→Nat→α} {n1 n2 k:Nat} {cs ys:List BV}
end
end Go.Proofs.YtimbigpplbbjaaaGreatDoor.Abs

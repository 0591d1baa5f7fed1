/- Abstract states of the machine: arrays at a place, bytes as a string. -/
import Derived.Test.YtbebnddalipfhaaAbsN
import Derived.Laws.BytesArg
namespace Go.Proofs.Ytbebnddalipfhaa.Abs
open Go Go.RowKit
set_option linter.unusedVariables false
set_option linter.unusedSimpArgs false
section
variable {P : Program} {G : Nat → Option (List PV)} {o : Oper} {n m : Nat} {env : List (Nat × List XV)} {st : Store}
variable {α : Type} {e : α → List PV}
end
end Go.Proofs.Ytbebnddalipfhaa.Abs

/- From a row's data to typed values, with what they weigh. -/
import Derived.Test.YtimbigpplbbjaaaGreatDoorAbsW
import Derived.Test.YtimbigpplbbjaaaGreatDoorRows
namespace Go.Proofs.YtimbigpplbbjaaaGreatDoor.Abs
open Go Go.RowKit
set_option linter.unusedVariables false
set_option linter.unusedSimpArgs false
section
variable {P:Program} {H:Type} {enc:TypeId × Value→H} {w:World}
end
end Go.Proofs.YtimbigpplbbjaaaGreatDoor.Abs

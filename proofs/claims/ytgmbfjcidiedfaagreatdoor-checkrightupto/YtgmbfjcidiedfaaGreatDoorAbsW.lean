/- From a row's data to typed values: arrays, and parameters that are one cell. -/
import Derived.Test.YtgmbfjcidiedfaaGreatDoorAbsV
import Derived.OpenShut
import Derived.WideShapes
namespace Go.Proofs.YtgmbfjcidiedfaaGreatDoor.Abs
open Go Go.RowKit
set_option linter.unusedVariables false
set_option linter.unusedSimpArgs false
section
variable {P : Program} {H : Type} {enc : TypeId × Value → H} {w : World}
end
end Go.Proofs.YtgmbfjcidiedfaaGreatDoor.Abs

/- From a row's data to typed values: arrays, and parameters that are one cell. -/
import Derived.Test.YtnfjgjomokloaaaDoorAbsV
import Derived.OpenShut
import Derived.WideShapes
namespace Go.Proofs.YtnfjgjomokloaaaDoor.Abs
open Go Go.RowKit
set_option linter.unusedVariables false
set_option linter.unusedSimpArgs false
section
variable {P : Program} {H : Type} {enc : TypeId × Value → H} {w : World}
theorem zlo {t : TypeId} {k : IntKind} {W : World} {r : Reach} {base : Nat} {v : Value} (ht : P.underlying t = some (.int k)) (h : Value.okWide P W r base t v) : ∀ cs, v ≠ .agg cs := fun cs e => by
 subst e
 obtain ⟨n, hn⟩ := WideShapes.okWide_int ht h
 cases hn
end
end Go.Proofs.YtnfjgjomokloaaaDoor.Abs

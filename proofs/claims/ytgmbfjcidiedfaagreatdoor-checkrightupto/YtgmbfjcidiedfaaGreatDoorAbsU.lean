/- Plain laws for the typed functions: numbers in their range, strings by lists, loops. -/
import Derived.Test.YtgmbfjcidiedfaaGreatDoorAbsT
import Derived.Laws.Bits64
import Derived.Laws.BitsLemmas
namespace Go.Proofs.YtgmbfjcidiedfaaGreatDoor.Abs
open Go Go.RowKit
set_option linter.unusedVariables false
set_option linter.unusedSimpArgs false
theorem w64 {n : Int} (h0 : -9223372036854775808 ≤ n) (h1 : n ≤ 9223372036854775807) : IntKind.i64.wrap n = n := by rw [IntKind.wrap_i64]; omega
theorem zp0 {α : Type} {L : List α} {i : Nat} {x : α} (h : L[i]? = some x) : idx L (i : Int) = some x := by
 unfold idx; rw [if_pos (by omega)]; simpa using h
theorem sb {α β : Type} (x : α) (f : α → Option β) : (some x >>= f) = f x := rfl
end Go.Proofs.YtgmbfjcidiedfaaGreatDoor.Abs

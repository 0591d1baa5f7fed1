/- Abstract states of the machine: arrays by functions of their places. -/
import Derived.Test.YtnfjgjomokloaaaDoorAbsP
namespace Go.Proofs.YtnfjgjomokloaaaDoor.Abs
open Go Go.RowKit
set_option linter.unusedVariables false
set_option linter.unusedSimpArgs false
section
variable {P : Program} {G : Nat → Option (List PV)} {ops : Array Oper} {o : Oper} {l : List Oper} {n m t : Nat} {env env' : List (Nat × List XV)} {st st' : z0d} {K : Sx → Prop} {Q : Exit → Sx → Prop}

/-- An array's cells. -/
def ar {α : Type} (n : Nat) (f : Nat → List α) : List α := (List.range n).flatMap f
/-! ### An array's cells at places that are reckoned -/
section arrays
variable {α : Type} {e : α → PV} {len : Nat} {D : Nat → α} {D2 : Nat → Nat → α} {n1 n2 k k1 k2 : Nat}
end arrays
/-- An element's address, where the place is reckoned. -/
theorem zli {T E : TypeId} {x ix : Operand} {k : IntKind} {i : Int} {b off len sz kk : Nat} {agg : Bool} (ho : o.op = .indexAddr T x ix) (hu : P.underlying T = some (.array len E)) (hT : Ty P E agg sz)
  (hx : val G env x = some (.c (.box b off))) (hi : val G env ix = some (.c (.pv (.int k i)))) (h : inA len i = some kk) : LtT P G o ⟨n, m, env, st⟩ [.c (.box b (off + kk * sz))] := by
 obtain ⟨h0, h1, rfl⟩ := inAE h
 exact zbu ho hu hT hx hi h0 h1
end
end Go.Proofs.YtnfjgjomokloaaaDoor.Abs

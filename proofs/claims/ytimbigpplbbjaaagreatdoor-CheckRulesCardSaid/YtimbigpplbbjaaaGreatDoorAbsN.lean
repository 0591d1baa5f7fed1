/- Abstract states of the machine: ways that meet, and loops, whatever is behind them. -/
import Derived.Test.YtimbigpplbbjaaaGreatDoorAbsM
namespace Go.Proofs.YtimbigpplbbjaaaGreatDoor.Abs
open Go Go.RowKit
set_option linter.unusedVariables false
set_option linter.unusedSimpArgs false
section
variable {P:Program} {G:Nat→Option (List PV)} {Q:Exit→Sx→Prop}
def WkN (G:Nat→Option (List PV)) (Q:Exit→Sx→Prop):Prop:=∀ s s',Weak G s s'→Q .normal s'→Q .normal s
theorem wT {y:Code}:WkN G (Then P G y Q):=fun s s' h hq=>z9w.weak h hq
theorem wB {id:Nat} (h:WkN G Q):WkN G (zlh id Q):=fun s s' hw hq=>h s s' hw hq
theorem wM {α:Type} {σ:α→Sx} {j:α}:WkN G (z09k G σ j):=fun s s' hw hq=>⟨rfl,hw.trans hq.2⟩
theorem owT {P:Program} {G:Nat→Option (List PV)} {ops:Array Oper} {W:List (List Bool)} {n m:Nat} {env0:List (Nat × List XV)} {st:z0q} {T A T':List Ent} {e:Ent} (hc:(forced W T e || zjg e)=true) (h':Owed P G ops W n m env0 st T (A++[e]) T'):Owed P G ops W n m env0 st T A (e::T'):=⟨by rw [if_pos hc];trivial,h'⟩
theorem owF {P:Program} {G:Nat→Option (List PV)} {ops:Array Oper} {W:List (List Bool)} {n m:Nat} {env0:List (Nat × List XV)} {st:z0q} {T A T':List Ent} {e:Ent} (hc:(forced W T e || zjg e)=false) (h:zll P G ops W n m env0 st A e T') (h':Owed P G ops W n m env0 st T (A++[e]) T'):Owed P G ops W n m env0 st T A (e::T'):=⟨by rw [if_neg (by rw [hc];simp)];exact h,h'⟩
end
end Go.Proofs.YtimbigpplbbjaaaGreatDoor.Abs

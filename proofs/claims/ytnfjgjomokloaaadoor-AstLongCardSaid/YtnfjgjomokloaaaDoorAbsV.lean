/- From a row's data to typed values, and from a walk to a row. -/
import Derived.Test.YtnfjgjomokloaaaDoorAbsU
import Derived.RowKit3
import Derived.Carry
import Derived.Lib.LaidTab
import Derived.ChangeArms
namespace Go.Proofs.YtnfjgjomokloaaaDoor.Abs
open Go Go.RowKit
set_option linter.unusedVariables false
set_option linter.unusedSimpArgs false
section
variable {P : Program} {H : Type} {enc : TypeId × Value → H} {w : World}
def Old (w : World) : Nat → Prop := fun k => k < w.heap.size
/-- What reads as data of a type is a typed value's cells. -/
def Dec (P : Program) (enc : TypeId × Value → H) (w : World) (fuel : Nat) (T : TypeId) {τ : Type} (e : τ → List PV) (ok : τ → Prop) : Prop :=
 ∀ cs d ps, DataW.trod enc P w 0 (fun _ => true) true fuel T cs = some (d, ps) → ∃ x : τ, ok x ∧ L2 (Rd w (Old w)) (e x) cs
structure InK (k : IntKind) (n : Int) : Prop where
 lo : k.min ≤ n
 hi : n ≤ k.max
theorem zln {T : TypeId} {k : IntKind} (hu : P.underlying T = some (.int k)) (fuel : Nat) : Dec P enc w fuel T (fun n : Int => [.int k n]) (InK k) := by
 intro cs d ps h
 obtain ⟨n, rfl, _, hw⟩ := DataW.trod_int hu h
 simp only [Lit.wf, Bool.and_eq_true, decide_eq_true_eq] at hw
 exact ⟨n, ⟨hw.1, hw.2⟩, L2.cons (.int _ _) L2.nil⟩
theorem zn7 {p : PV} {v : Value} {J : Nat → Prop} {η : Hd} (h : L2 (Rd w J) [p] v.cells.toList) (hv : ∀ cs, v ≠ .agg cs) : XVr η J w (.c (.pv p)) v := by
 have hc : v.cells.toList = [v] := by
  cases v <;> first | rfl | exact absurd rfl (hv _)
 rw [hc] at h
 obtain ⟨y, ys, hy, hr, _⟩ := h.uncons
 injection hy with hy _
 subst hy; exact hr
/-- A walk, as a row wants it. -/
theorem zjn {G : Nat → Option (List PV)} {f : FuncId} {args res : List XV} {vs : List Value} (h : z9o P G f args res) (hG : Glob G (Old w) w) (hl : L2 (XVr ⟨fun _ => undef, fun _ => False⟩ (Old w) w) args vs) :
  Calls P f vs.toArray w fun e w' => ∃ v, e = .returned v ∧ (∃ η J, Rs η J w' res v) ∧ Below w.heap.size w w' := by
 have hok : Ok G ⟨fun _ => undef, fun _ => False⟩ (Old w) w [] := ⟨fun b hb => hb.elim, fun b hb => hb, fun b o ho => by simp at ho, fun b c o o' k ho => by simp at ho, fun b o k ho => by simp at ho, hG⟩
 refine (h _ _ w vs hok hl).mono ?_
 rintro e w' ⟨v, η', J', r, st', rfl, ⟨rfl, hp, rfl⟩, hR, hok', hex⟩
 exact ⟨v, rfl, ⟨η', J', hR⟩, hex.os, hex.tape, hex.output, hex.size, fun k hk => hex.keep k hk zap⟩
theorem zfw {G : Nat → Option (List PV)} {f : FuncId} {args : List XV} {vs : List Value} (h : z9o P G f args [.c (.pv (.bool true))]) (hG : Glob G (Old w) w) (hl : L2 (XVr ⟨fun _ => undef, fun _ => False⟩ (Old w) w) args vs) :
  Calls P f vs.toArray w fun e w' => e = .returned (.bool true) ∧ Below w.heap.size w w' :=
 (zjn h hG hl).mono fun e w' ⟨v, he, ⟨η, J, hr⟩, hb⟩ => ⟨by rw [he, z5p hr], hb⟩
end
end Go.Proofs.YtnfjgjomokloaaaDoor.Abs

/- The law TransSends of the given program holds: whatever the input, it returns true, and the input reads as it did. -/
import Derived.Test.YtbebnddalipfhaaRows
import Derived.Test.YtbebnddalipfhaaGbW4
import Derived.Test.YtbebnddalipfhaaSendA
import Derived.Test.YtbebnddalipfhaaAbsW
import Derived.WalkKit
import Derived.ProofKit
import Derived.OpenShut
import Derived.ChangeOld
import Derived.Below
import Derived.SizedLaws
import Derived.Lay
import Derived.LaidMore
import Derived.SevenTiedAt
import Derived.Stop.Joined
namespace Go.Proofs.Ytbebnddalipfhaa.transSends
open Go Go.ChangeShapes Go.WideShapes Go.ChangeAt Go.RowKit Go.Proofs.Ytbebnddalipfhaa.Abs
set_option linter.unusedVariables false
theorem laidOut : laidOutB Try.prog = true := by kernel_rfl
set_option maxRecDepth 100000 in
theorem lifted (os : Os) (started : os.Started) (H : Type) (enc : TypeId × Value → H) :
    ReturnsInHanded {} Try.checked os 4 .any (Rows.transSendsSpec.pre6 enc Try.prog Try.f4 [] false) (Rows.transSendsSpec.post enc Try.prog Try.f4 false true false false) := by
  refine returnsInHanded_of_change (C := Try.checked) (by kernel_rfl) started (by kernel_rfl) Try.func4
    (ChangeSpec.witness6 (enc := enc) (C := Try.checked) false ⟨#[], #[.int .i64 0, .int .i64 0, .int .i64 0], []⟩ 8 (by kernel_rfl) (by kernel_rfl) (by kernel_rfl) (by kernel_rfl)) ?_
  intro W base args ds gs before hval0 hW _ _
  have hval : ∀ (j : Nat) t v, Try.f4.params[j]? = some t → args[j]? = some v → Value.okWide Try.prog W .any base t v := hval0
  have hW' := hW
  obtain ⟨p, q, hA0, hV, rfl, hfz, hnd⟩ := hW
  have hA : DataW.TrodAll enc Try.prog W 0 (fun _ => true) true Try.f4.params.toList args.toList ds p := hA0
  rw [Try.params4] at hA hval
  obtain ⟨v0, vs0, d0, ds0, p0, q0, hargs, rfl, rfl, h0, r0⟩ := trodAll_cons hA
  obtain ⟨v1, vs1, d1, ds1, p1, q1, rfl, rfl, rfl, h1, r1⟩ := trodAll_cons r0
  obtain ⟨v2, vs2, d2, ds2, p2, q2, rfl, rfl, rfl, h2, r2⟩ := trodAll_cons r1
  obtain ⟨rfl, rfl, rfl⟩ := trodAll_nil r2
  obtain rfl : args = #[v0, v1, v2] := by cases args; simp_all
  obtain ⟨rfl, rfl⟩ := trodVars_none hV
  have h0k := h0
  obtain ⟨fuel0, hf0⟩ := h0
  obtain ⟨a0, ok0, l0⟩ := (dec_int Try.underlying3 fuel0) _ _ _ hf0
  have g0 : ∀ cs, v0 ≠ .agg cs := int_one Try.underlying3 (hval 0 3 _ rfl rfl)
  have h1k := h1
  obtain ⟨fuel1, hf1⟩ := h1
  obtain ⟨a1, ok1, l1⟩ := (dec_int Try.underlying3 fuel1) _ _ _ hf1
  have g1 : ∀ cs, v1 ≠ .agg cs := int_one Try.underlying3 (hval 1 3 _ rfl rfl)
  have h2k := h2
  obtain ⟨fuel2, hf2⟩ := h2
  obtain ⟨a2, ok2, l2⟩ := (dec_int Try.underlying3 fuel2) _ _ _ hf2
  have g2 : ∀ cs, v2 ≠ .agg cs := int_one Try.underlying3 (hval 2 3 _ rfl rfl)
  have hm := l14_TransSends_meets (a0 := a0) (a1 := a1) (a2 := a2) (r := true) (sends_law a0 a1 a2)
  refine (calls_true hm (fun g cs hg => by cases hg) (L2.cons (one_of l0 g0) (L2.cons (one_of l1 g1) (L2.cons (one_of l2 g2) L2.nil)))).mono fun e W' ⟨he, bel⟩ => ?_
  subst he
  exact ⟨_, rfl, _, _, _, [], _, [], hW', trodAll_mk1 (shut_bool Try.underlying4 _), (trodAll_cons_mk (Below.trod laidOut (by kernel_rfl) (of_decide_eq_true (by kernel_rfl)) h0k bel (fun x hx => hW'.lt x (by simp [hx]))) (trodAll_cons_mk (Below.trod laidOut (by kernel_rfl) (of_decide_eq_true (by kernel_rfl)) h1k bel (fun x hx => hW'.lt x (by simp [hx]))) (trodAll_cons_mk (Below.trod laidOut (by kernel_rfl) (of_decide_eq_true (by kernel_rfl)) h2k bel (fun x hx => hW'.lt x (by simp [hx]))) trodAll_mk0))), rfl, bel.frame _, fun h => by cases h⟩
theorem over : Rows.transSendsRow.holds Try.pinned (OpenSpec.ofChange Rows.transSendsSpec) :=
  OpenClaim.holds_of_wide 4 Try.f4 rfl rfl rfl rfl rfl rfl rfl ⟨rfl, rfl, rfl, rfl, rfl⟩ rfl rfl rfl rfl rfl (by kernel_rfl) Try.func4 (by kernel_rfl)
    (of_decide_eq_true (by kernel_rfl)) (by unfold Func.isWrapper; first | (rw [if_pos (by decide +kernel)]; kernel_rfl) | (rw [if_neg (by decide +kernel)]; exact ⟨rfl, rfl⟩))
    (fun os started H enc _ => lifted os started H enc)
#print axioms over
end Go.Proofs.Ytbebnddalipfhaa.transSends
namespace Go.Proofs.Ytbebnddalipfhaa
theorem transSends_said : Rows.TransSendsSaid := transSends.over
end Go.Proofs.Ytbebnddalipfhaa

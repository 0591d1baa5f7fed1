/- The law TransSkips of the given program holds: whatever the input, it returns true, and the input reads as it did. -/
import Derived.Test.YtbebnddalipfhaaGreatRows
import Derived.Test.YtbebnddalipfhaaGreatGbW4
import Derived.Test.YtbebnddalipfhaaGreatSkipA
import Derived.Test.YtbebnddalipfhaaGreatAbsW
import Derived.WalkKit
import Derived.ProofKit
import Derived.OpenShut
import Derived.ChangeOld
import Derived.Below
import Derived.SizedLaws
import Derived.Lay
import Derived.LaidMore
import Derived.SevenTiedAt
import Derived.Stop.Joined
namespace Go.Proofs.YtbebnddalipfhaaGreat.transSkips
open Go Go.ChangeShapes Go.WideShapes Go.ChangeAt Go.RowKit Go.Proofs.YtbebnddalipfhaaGreat.Abs
set_option linter.unusedVariables false
theorem laidOut : laidOutB Tryz.prog = true := by kernel_rfl
def e_T44 (x : (Nat → Int)) : List PV := [.int .i32 (x 0), .int .i32 (x 1)]
def e_l14_More (x : l14_More) : List PV := [.sl (List.map e_i32 x.Vars), .int .i64 x.Counts, .int .u8 x.Rules]
def ok_T44 (x : (Nat → Int)) : Prop := InK .i32 (x 0) ∧ InK .i32 (x 1)
theorem dec_T44 {H : Type} {enc : TypeId × Value → H} {w : World} (fuel : Nat) : Dec Tryz.prog enc w fuel 44 e_T44 ok_T44 := by
  cases fuel with
  | zero => exact dec0
  | succ fuel => exact dec_arr (n := 2) (sz := 1) (e := e_i32) (ok := fun x => InK .i32 x) 0 Tryz.underlying44 (by kernel_rfl) (by kernel_rfl) (dec_int Tryz.underlying21 fuel) (fun _ => rfl) (fun x h => ⟨h 0 (by decide), h 1 (by decide)⟩)

def ok_T45 (l : (List Int)) : Prop := (∀ x ∈ l, InK .i32 x) ∧ l.length ≤ maxLen
theorem dec_T45 {H : Type} {enc : TypeId × Value → H} {w : World} (fuel : Nat) : Dec Tryz.prog enc w fuel 45 (fun l : (List Int) => [.sl (List.map e_i32 l)]) ok_T45 := by
  cases fuel with
  | zero => exact dec0
  | succ fuel => exact dec_slice (e := e_i32) (sz := 1) (ok := fun x => InK .i32 x) Tryz.underlying45 (by kernel_rfl) (by decide) (fun _ => rfl) (dec_int Tryz.underlying21 fuel)

def ok_T47 (x : l14_More) : Prop := ok_T45 x.Vars ∧ InK .i64 x.Counts ∧ InK .u8 x.Rules
theorem dec_T47 {H : Type} {enc : TypeId × Value → H} {w : World} (fuel : Nat) : Dec Tryz.prog enc w fuel 47 e_l14_More ok_T47 := by
  cases fuel with
  | zero => exact dec0
  | succ fuel => exact dec_struct (N := 3) (fun x : (List Int) × Int × Int × Unit => l14_More.mk x.1 x.2.1 x.2.2.1) Tryz.underlying47 (by kernel_rfl) (seg_cons (sz := 1) rfl (by kernel_rfl) (dec_T45 fuel) (seg_cons (sz := 1) rfl (by kernel_rfl) (dec_int Tryz.underlying3 fuel) (seg_cons (sz := 1) rfl (by kernel_rfl) (dec_int Tryz.underlying5 fuel) (seg_nil (by decide))))) (fun _ => rfl) (fun x h => ⟨h.1, h.2.1, h.2.2.1⟩)
set_option maxRecDepth 100000 in
theorem lifted (os : Os) (started : os.Started) (H : Type) (enc : TypeId × Value → H) :
    ReturnsInHanded {} Tryz.checked os 4 .any (Rows.transSkipsSpec.pre6 enc Tryz.prog Tryz.f4 [] false) (Rows.transSkipsSpec.post enc Tryz.prog Tryz.f4 false true false false) := by
  refine returnsInHanded_of_change (C := Tryz.checked) (by kernel_rfl) started (by kernel_rfl) Tryz.func4
    (ChangeSpec.witness6 (enc := enc) (C := Tryz.checked) false ⟨#[], #[.agg #[(.int .i32 0), (.int .i32 0)], .agg #[(.slice none 0 0), (.int .i64 0), (.int .u8 0)]], []⟩ 8 (by kernel_rfl) (by kernel_rfl) (by kernel_rfl) (by kernel_rfl)) ?_
  intro W base args ds gs before hval0 hW _ _
  have hval : ∀ (j : Nat) t v, Tryz.f4.params[j]? = some t → args[j]? = some v → Value.okWide Tryz.prog W .any base t v := hval0
  have hW' := hW
  obtain ⟨p, q, hA0, hV, rfl, hfz, hnd⟩ := hW
  have hA : DataW.TrodAll enc Tryz.prog W 0 (fun _ => true) true Tryz.f4.params.toList args.toList ds p := hA0
  rw [Tryz.params4] at hA hval
  obtain ⟨v0, vs0, d0, ds0, p0, q0, hargs, rfl, rfl, h0, r0⟩ := trodAll_cons hA
  obtain ⟨v1, vs1, d1, ds1, p1, q1, rfl, rfl, rfl, h1, r1⟩ := trodAll_cons r0
  obtain ⟨rfl, rfl, rfl⟩ := trodAll_nil r1
  obtain rfl : args = #[v0, v1] := by cases args; simp_all
  obtain ⟨rfl, rfl⟩ := trodVars_none hV
  have h0k := h0
  obtain ⟨fuel0, hf0⟩ := h0
  obtain ⟨a0, ok0, l0⟩ := (dec_T44 fuel0) _ _ _ hf0
  have h1k := h1
  obtain ⟨fuel1, hf1⟩ := h1
  obtain ⟨a1, ok1, l1⟩ := (dec_T47 fuel1) _ _ _ hf1
  have hm := l14_TransSkips_meets (a0 := a0) (a1 := a1) (r := true) (skips_law ⟨ok0.1.1, ok0.1.2⟩ ⟨ok0.2.1, ok0.2.2⟩)
  refine (calls_true hm (fun g cs hg => by cases hg) (L2.cons (agg_of l0 (Nat.le_of_ble_eq_true rfl)) (L2.cons (agg_of l1 (Nat.le_of_ble_eq_true rfl)) L2.nil))).mono fun e W' ⟨he, bel⟩ => ?_
  subst he
  exact ⟨_, rfl, _, _, _, [], _, [], hW', trodAll_mk1 (shut_bool Tryz.underlying4 _), (trodAll_cons_mk (Below.trod laidOut (by kernel_rfl) (of_decide_eq_true (by kernel_rfl)) h0k bel (fun x hx => hW'.lt x (by simp [hx]))) (trodAll_cons_mk (Below.trod laidOut (by kernel_rfl) (of_decide_eq_true (by kernel_rfl)) h1k bel (fun x hx => hW'.lt x (by simp [hx]))) trodAll_mk0)), rfl, bel.frame _, fun h => by cases h⟩
theorem over : Rows.transSkipsRow.holds Tryz.pinned (OpenSpec.ofChange Rows.transSkipsSpec) :=
  OpenClaim.holds_of_wide 4 Tryz.f4 rfl rfl rfl rfl rfl rfl rfl ⟨rfl, rfl, rfl, rfl, rfl⟩ rfl rfl rfl rfl rfl (by kernel_rfl) Tryz.func4 (by kernel_rfl)
    (of_decide_eq_true (by kernel_rfl)) (by unfold Func.isWrapper; first | (rw [if_pos (by decide +kernel)]; kernel_rfl) | (rw [if_neg (by decide +kernel)]; exact ⟨rfl, rfl⟩))
    (fun os started H enc _ => lifted os started H enc)
#print axioms over
end Go.Proofs.YtbebnddalipfhaaGreat.transSkips
namespace Go.Proofs.YtbebnddalipfhaaGreat
theorem transSkips_said : Rows.TransSkipsSaid := transSkips.over
end Go.Proofs.YtbebnddalipfhaaGreat

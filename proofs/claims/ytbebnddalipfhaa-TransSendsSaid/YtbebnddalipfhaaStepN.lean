/- Plain laws of steps: one assignment of a number. -/
import Derived.Test.YtbebnddalipfhaaStepK
namespace Go.Proofs.Ytbebnddalipfhaa.Abs
open Go Go.RowKit
set_option linter.unusedVariables false
set_option linter.unusedSimpArgs false
/-- x is a number. -/
theorem Copy0_law {n : Nat} {v v' : Nat → Int} (hv : Va n v) (hv' : Va n v') {a : num_Num} (h : NSat n v a) (x : Nat) (hx : x < n) (by_ : Int) (hb : -1099511627776 ≤ by_ ∧ by_ ≤ 1099511627776) (he : ∀ i, i ≠ x + 1 → v' i = v i) (hc : v' (x + 1) = by_) :
    ∃ b, num_Copy a (x : Int) (-1) by_ = some b ∧ NSat n v' b := by
  have hn := hv.n6
  have ey : v' 0 = 0 := hv'.z
  obtain ⟨z1, q1, s1, _⟩ := forget_law hv hv' h.z (x + 1) (by omega) he
  obtain ⟨⟨N2, b2, D2⟩, q2, s2, _⟩ := close_law hv' s1
  have s3 := s2.put (k := x + 1) (l := 0) (x := by_) (by omega) hb.2
  have s4 := s3.put (k := 0) (l := x + 1) (x := - by_) (by omega) (by omega)
  obtain ⟨z5, q5, s5, _⟩ := close_law hv' s4
  refine ⟨⟨false, nI z5 n, z5⟩, ?_, nsat_of s5⟩
  have hmm : min (max by_ (-1099511627776)) 1099511627776 = by_ := by omega
  have oy := orNought_ok hv h.z (y := 0) (by omega)
  rw [show (((0 : Nat) : Int) - 1) = -1 by omega] at oy
  have hw : IntKind.i64.wrap (0 - by_) = - by_ := by rw [w64 (by omega) (by omega)]; omega
  have h0 : IntKind.i64.wrap (-1 + 1) = ((0 : Nat) : Int) := rfl
  unfold num_Copy zone_Copy
  rw [variable_ok hv h.z hx, sb, if_neg (by simp), oy, sb, sb, if_neg (by simp), if_neg (by simp), wsucc (by omega), h0, q1, sb, q2, sb, inA_nat (show x + 1 < 7 by omega), inA_nat (show 0 < 7 by omega), hmm, hw]
  simp only [sb]
  rw [q5, sb, sb, of_law hv' s5]; rfl
theorem Eval_num {a : num_Num} (ha : a.None = false) {n : Int} (hn : In n) : eval_Eval (xN n) a = some (pt n, no) :=
  unf_at 1 (fun m => EvalN_num ha hn m) fun m hm => by
    have : m = 0 := by omega
    subst this; rw [eval_EvalN]
theorem linear_num {n : Int} (hn : 0 ≤ n ∧ n ≤ 2147483647) : eval_linear (xN n) = some (⟨-1, n⟩, true) :=
  unf_at 1 (fun m => linearN_num hn m) fun m hm => by
    have : m = 0 := by omega
    subst this; rw [eval_linearN]
def C0 : check_Cond := ⟨0, ⟨0, 0, 0, []⟩, ⟨0, 0, 0, []⟩⟩
def ed3 : flow_Edge := ⟨0, 1, 1, 0, 0, 0, xN 3, C0⟩
theorem Assign3 {a : num_Num} (h : Pt 1 (fun _ => 0) 1 a) : ∃ b, eval_Assign a 0 (xN 3) = some (b, no) ∧ b.I = [pt 3] ∧ b.None = false := by
  have hv : Va 1 (fun _ => 0) := ⟨by decide, rfl, fun _ _ => by constructor <;> decide⟩
  have hv' : Va 1 (fun i => if i = 1 then 3 else 0) := ⟨by decide, rfl, fun i _ => by split <;> constructor <;> decide⟩
  obtain ⟨b1, q1, s1⟩ := Copy0_law hv hv' h.s 0 (by decide) 3 (by decide) (fun i hi => by rw [if_neg (by omega)]) rfl
  obtain ⟨z, q2, s2, _, u, d, _⟩ := held_law hv' s1.z 0 (by decide) (pt 3) (show IHas (pt 3) 3 from has_pt) ⟨by decide, by decide⟩
  have hp : Pt 1 (fun i => if i = 1 then 3 else 0) 1 ⟨false, nI z 1, z⟩ := ⟨nsat_of s2, fun x hx => by
    have : x = 0 := by omega
    subst this; exact u, fun x hx => by
    have : x = 0 := by omega
    subst this; exact d⟩
  refine ⟨⟨false, nI z 1, z⟩, ?_, hp.I hv', rfl⟩
  unfold eval_Assign
  rw [Eval_num h.s.none ⟨by decide, by decide⟩, sb, emp_pt, sb, if_neg (by simp)]
  have hl : eval_Linear (xN 3) = some (-1, 3, true) := by
    unfold eval_Linear
    rw [linear_num ⟨by decide, by decide⟩]; rfl
  rw [hl, sb, if_pos rfl]
  show (num_Copy a ((0 : Nat) : Int) (-1) 3 >>= _) = _
  rw [q1, sb]
  have hm : num_Meet b1 0 (pt 3) = some ⟨false, nI z 1, z⟩ := by
    unfold num_Meet
    show (num_held b1.Z ((0 : Nat) : Int) (pt 3) >>= _) = _
    rw [q2, sb, of_law hv' s2]; rfl
  show (num_Meet b1 0 (pt 3) >>= _) = _
  rw [hm]; rfl
end Go.Proofs.Ytbebnddalipfhaa.Abs

/- Plain laws of steps: kinds, systems of one edge. -/
import Derived.Test.YtbebnddalipfhaaEvalB
namespace Go.Proofs.Ytbebnddalipfhaa.Abs
open Go Go.RowKit
set_option linter.unusedVariables false
set_option linter.unusedSimpArgs false
def kindsOf (f : Nat → Bool) (k : Nat) : List Int := ((List.range k).filter f).map fun (i : Nat) => (i : Int)
theorem kindsOf_s (f : Nat → Bool) (k : Nat) : kindsOf f (k + 1) = kindsOf f k ++ if f k then [(k : Int)] else [] := by
  unfold kindsOf
  rw [List.range_succ, List.filter_append, List.map_append]
  congr 1
  by_cases h : f k <;> simp [h]
theorem kindsOf_len (f : Nat → Bool) (k : Nat) : (kindsOf f k).length ≤ k := by
  unfold kindsOf
  rw [List.length_map]
  exact Nat.le_trans (List.length_filter_le _ _) (by simp)
theorem kinds_law (s : trans_stepper) : trans_stepper_kinds s = some (kindsOf s.f_errors 7) := by
  obtain ⟨o, h1, h2⟩ := iter_inv (body := trans_stepper_kinds_l2 s) 7 (fun i x => x = ((i : Int), kindsOf s.f_errors i)) (fun o => o = .inr (kindsOf s.f_errors 7)) (fun i x hi hx => by
    subst hx
    refine ⟨(((i + 1 : Nat) : Int), kindsOf s.f_errors (i + 1)), ?_, rfl⟩
    unfold trans_stepper_kinds_l2
    simp only
    rw [if_pos (by simpa using (show (i : Int) < 7 by omega)), inA_nat hi, sb, kindsOf_s, wsucc (by omega)]
    have hl := kindsOf_len s.f_errors i
    by_cases h : s.f_errors i = true
    · rw [if_pos h, if_pos h, app_some (by simp only [List.length_cons, List.length_nil]; omega)]; rfl
    · rw [if_neg h, if_neg h, List.append_nil]; rfl) (fun x hx => by
    subst hx
    refine ⟨_, ?_, rfl⟩
    unfold trans_stepper_kinds_l2
    rfl) (0, []) rfl
  subst h2
  unfold trans_stepper_kinds
  rw [h1]; rfl
def f0 : Nat → Bool := arr false [false, false, false, false, false, false, false]
def sys (e : flow_Edge) (n : Int) : flow_Sys := ⟨[], [⟨2, [e], []⟩], [n]⟩
def wrl (e : flow_Edge) (n : Int) : trans_World := ⟨sys e n, [], []⟩
def ste (e : flow_Edge) (n : Int) (a : num_Num) : trans_stepper := ⟨wrl e n, 0, [0], 0, e, ⟨a, [], []⟩, ⟨-1, 0, ⟨1, 0⟩⟩, f0⟩
theorem Out_law (e : flow_Edge) : flow_Out ⟨2, [e], []⟩ e.From = some [0] := by
  have b0 : flow_Out_l2 ⟨2, [e], []⟩ e.From (0, []) = some (.inl (1, [0])) := by
    unfold flow_Out_l2
    simp only
    rw [if_pos (show decide ((0 : Int) < (([e] : List flow_Edge).length : Nat)) = true from rfl), show idx [e] 0 = some e from rfl, sb, if_pos (by simp), app_some (by decide)]; rfl
  unfold flow_Out
  rw [iter_eq, b0]
  show (iter _ (1, [0]) >>= _) = _
  rw [iter_eq, show flow_Out_l2 ⟨2, [e], []⟩ e.From (1, [0]) = some (.inr (.inr [0])) from rfl]
  rfl
theorem vars_law (e : flow_Edge) (n : Int) : trans_vars (sys e n) 0 = some n := rfl
theorem NoneS_law (e : flow_Edge) {n : Nat} (hn : n ≤ 6) : ∃ t, trans_None (sys e n) 0 = some t ∧ t.N.None = true := by
  obtain ⟨a, q, ha⟩ := None_law hn
  refine ⟨⟨a, [], []⟩, ?_, ha⟩
  unfold trans_None
  rw [vars_law, sb, q, sb, iter_eq]
  rfl
theorem Start_law (e : flow_Edge) {n : Nat} (hn : n ≤ 6) : ∃ a, trans_Start (sys e n) 0 = some ⟨a, [], []⟩ ∧ Pt n (fun _ => 0) n a := by
  obtain ⟨a, q, ha⟩ := Zeros_law hn
  refine ⟨a, ?_, ha⟩
  unfold trans_Start
  rw [vars_law, sb, q, sb, iter_eq]
  rfl
theorem Step_law {e : flow_Edge} {n : Int} {a : num_Num} (hN : a.None = false) {s : trans_stepper} (hs : trans_stepper_step (ste e n a) = some s) : trans_Step (wrl e n) 0 0 ⟨a, [], []⟩ = some (s.f_a, s.f_sent, kindsOf s.f_errors 7) := by
  have g0 : idx (wrl e n).S.Graphs 0 = some ⟨2, [e], []⟩ := rfl
  have e0 : idx (flow_Graph.mk 2 [e] []).Edges 0 = some e := rfl
  have hemp : trans_Empty ⟨a, [], []⟩ = some false := by unfold trans_Empty; rw [hN]
  have hcop : trans_copied ⟨a, [], []⟩ = some ⟨a, [], []⟩ := by
    unfold trans_copied itv_Itv_ rule_Set_
    rw [app_some (Nat.le_of_ble_eq_true rfl), app_some (Nat.le_of_ble_eq_true rfl)]; rfl
  unfold trans_Step
  rw [show itv_None = some ⟨1, 0⟩ from rfl, sb, if_neg (by decide), if_neg (by simp [wrl, sys]), if_neg (by decide), g0, sb, sb, if_neg (by simp), hemp, sb, sb, if_neg (by simp), e0, sb, sb, Out_law, sb, hcop, sb]
  show (trans_stepper_step (ste e n a) >>= _) = _
  rw [hs, sb, kinds_law]; rfl
end Go.Proofs.Ytbebnddalipfhaa.Abs

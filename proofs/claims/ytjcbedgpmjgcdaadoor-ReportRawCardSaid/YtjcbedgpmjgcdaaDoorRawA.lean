/- Plain law of ReportRaw: it answers true. -/
import Derived.Test.YtjcbedgpmjgcdaaDoorRepE
namespace Go.Proofs.YtjcbedgpmjgcdaaDoor.Abs
open Go Go.RowKit
set_option linter.unusedVariables false
set_option linter.unusedSimpArgs false
def rcv (x : r08_Itv) : itv_Itv := ⟨x.Lo, x.Hi⟩
structure OkW (w : l17_Raw) : Prop where
  s : I64 w.Steps
  n : ∀ x ∈ w.Nodes, I64 x.Lo ∧ I64 x.Hi
  e : ∀ x ∈ w.Elem, I64 x.Lo ∧ I64 x.Hi
  a : ∀ x ∈ w.Alarms, I64 x.Proc ∧ I64 x.Edge ∧ I64 x.Kind
theorem cond9 {i n : Nat} (h : i < n) (h9 : i < 9) : (if decide ((i : Int) < (n : Int)) = true then some (decide ((i : Int) < 9)) else some false : Option Bool) = some true := by
  rw [if_pos (i_lt h)]
  have : decide ((i : Int) < 9) = true := decide_eq_true (by omega)
  rw [this]
theorem cond9n {n : Nat} : (if decide (((min n 9 : Nat) : Int) < (n : Int)) = true then some (decide (((min n 9 : Nat) : Int) < 9)) else some false : Option Bool) = some false := by
  by_cases h : decide (((min n 9 : Nat) : Int) < (n : Int)) = true
  · rw [if_pos h]
    have h' : ((min n 9 : Nat) : Int) < (n : Int) := by simpa using h
    have : decide (((min n 9 : Nat) : Int) < 9) = false := decide_eq_false (by omega)
    rw [this]
  · rw [if_neg h]
theorem loop2 (w : l17_Raw) (Z : zone_Zone) :
    iter (l17_ReportRaw_l2 w) (0, ⟨⟨w.Never, [], Z⟩, [], []⟩, []) = some (.inr (⟨⟨w.Never, (w.Nodes.take (min w.Nodes.length 9)).map rcv, Z⟩, [], []⟩, (w.Nodes.take (min w.Nodes.length 9)).map rcv)) := by
  refine iter_for (body := l17_ReportRaw_l2 w) (min w.Nodes.length 9) (fun i => ((i : Int), ⟨⟨w.Never, (w.Nodes.take i).map rcv, Z⟩, [], []⟩, (w.Nodes.take i).map rcv)) _ (fun i hi => ?_) ?_
  · have h1 : i < w.Nodes.length := by omega
    unfold l17_ReportRaw_l2
    simp only
    rw [cond9 h1 (by omega), sb, if_pos rfl, idx_at h1, sb, sb, app_some (by simp only [List.length_map, List.length_take, List.length_cons, List.length_nil]; omega), sb, sb, w_succ (by omega), List.take_succ_eq_append_getElem h1, List.map_append]
    rfl
  · unfold l17_ReportRaw_l2
    simp only
    rw [cond9n, sb, if_neg (by simp)]
theorem loop5 (w : l17_Raw) : iter (l17_ReportRaw_l5 w) (0, []) = some (.inr ((w.Elem.take (min w.Elem.length 9)).map rcv)) := by
  refine iter_for (body := l17_ReportRaw_l5 w) (min w.Elem.length 9) (fun i => ((i : Int), (w.Elem.take i).map rcv)) _ (fun i hi => ?_) ?_
  · have h1 : i < w.Elem.length := by omega
    unfold l17_ReportRaw_l5
    simp only
    rw [cond9 h1 (by omega), sb, if_pos rfl, idx_at h1, sb, sb, app_some (by simp only [List.length_map, List.length_take, List.length_cons, List.length_nil]; omega), sb, w_succ (by omega), List.take_succ_eq_append_getElem h1, List.map_append]
    rfl
  · unfold l17_ReportRaw_l5
    simp only
    rw [cond9n, sb, if_neg (by simp)]
theorem raw_law {w : l17_Raw} (h : OkW w) : l17_ReportRaw w = some true := by
  unfold l17_ReportRaw
  generalize (zone_Zone.mk 0 false (arr (arr 0 []) [(arr 0 [0, 0, 0, 0, 0, 0, 0]), (arr 0 [0, 0, 0, 0, 0, 0, 0]), (arr 0 [0, 0, 0, 0, 0, 0, 0]), (arr 0 [0, 0, 0, 0, 0, 0, 0]), (arr 0 [0, 0, 0, 0, 0, 0, 0]), (arr 0 [0, 0, 0, 0, 0, 0, 0]), (arr 0 [0, 0, 0, 0, 0, 0, 0])])) = Z
  rw [loop2 w Z, sb, Sum.elim_inr, show itv_Of 0 2 = some ⟨0, 2⟩ from rfl, sb, loop5, sb, Sum.elim_inr]
  have hm : min (w.Alarms.length : Int) 9 = ((min w.Alarms.length 9 : Nat) : Int) := by omega
  have hsub : lsub w.Alarms 0 (min (w.Alarms.length : Int) 9) = some (w.Alarms.take (min w.Alarms.length 9)) := by
    unfold lsub
    rw [hm, if_pos (by omega)]
    simp
  rw [hsub, sb, says_true, sb, if_pos rfl]
  simp only
  generalize hr : outer_Result.mk _ _ _ _ = r
  have z0 : I64 0 := ⟨by decide, by decide⟩
  have z2 : I64 2 := ⟨by decide, by decide⟩
  have hok : OkR r := by
    have hN : OkS ⟨⟨w.Never, (w.Nodes.take (min w.Nodes.length 9)).map rcv, Z⟩, [], []⟩ := ⟨fun x hx => by
      obtain ⟨y, hy, rfl⟩ := List.mem_map.1 hx
      have := h.n y (List.mem_of_mem_take hy)
      exact ⟨this.1, this.2⟩, by simp only [List.length_map, List.length_take]; omega⟩
    have h0 : OkS ⟨⟨false, [], Z⟩, [], []⟩ := ⟨(fun x hx => by cases hx), by simp⟩
    subst hr
    refine ⟨h.s, by simp, fun l hl => ?_, by simp, fun e he => ?_, by simp only [List.length_take]; omega, fun a ha => h.a a (List.mem_of_mem_take ha)⟩
    · simp only [List.mem_cons, List.not_mem_nil, or_false] at hl
      rcases hl with rfl | rfl
      · refine ⟨by simp, fun a ha => ?_⟩
        simp only [List.mem_cons, List.not_mem_nil, or_false] at ha
        rcases ha with rfl | rfl
        · exact hN
        · exact h0
      · exact ⟨by simp, fun a ha => by cases ha⟩
    · simp only [List.mem_cons, List.not_mem_nil, or_false] at he
      rcases he with rfl | rfl
      · refine ⟨⟨z0, z2⟩, fun x hx => ?_, by simp only [List.length_map, List.length_take]; omega⟩
        obtain ⟨y, hy, rfl⟩ := List.mem_map.1 hx
        have := h.e y (List.mem_of_mem_take hy)
        exact ⟨this.1, this.2⟩
      · exact ⟨⟨z0, z0⟩, (fun x hx => by cases hx), by simp⟩
  rw [Text_eq hok, sb, ref_Text hok, sb, sb, eqT]
end Go.Proofs.YtjcbedgpmjgcdaaDoor.Abs

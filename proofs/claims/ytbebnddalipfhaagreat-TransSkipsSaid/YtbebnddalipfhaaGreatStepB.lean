/- Plain laws of steps: assign and assert by a stepper, and the law's own steps. -/
import Derived.Test.YtbebnddalipfhaaGreatStepA
namespace Go.Proofs.YtbebnddalipfhaaGreat.Abs
open Go Go.RowKit
set_option linter.unusedVariables false
set_option linter.unusedSimpArgs false
def kindsOf (f : Nat → Bool) (k : Nat) : List Int := ((List.range k).filter f).map fun (i : Nat) => (i : Int)
theorem kindsOf_s (f : Nat → Bool) (k : Nat) : kindsOf f (k + 1) = kindsOf f k ++ if f k then [(k : Int)] else [] := by
  unfold kindsOf
  rw [List.range_succ, List.filter_append, List.map_append]
  congr 1
  by_cases h : f k <;> simp [h]
theorem kindsOf_len (f : Nat → Bool) (k : Nat) : (kindsOf f k).length ≤ k := by
  unfold kindsOf
  rw [List.length_map]
  exact Nat.le_trans (List.length_filter_le _ _) (by simp)
theorem kinds_law (s : trans_stepper) : trans_stepper_kinds s = some (kindsOf s.f_errors 7) := by
  obtain ⟨o, h1, h2⟩ := iter_inv (body := trans_stepper_kinds_l2 s) 7 (fun i x => x = ((i : Int), kindsOf s.f_errors i)) (fun o => o = .inr (kindsOf s.f_errors 7)) (fun i x hi hx => by
    subst hx
    refine ⟨(((i + 1 : Nat) : Int), kindsOf s.f_errors (i + 1)), ?_, rfl⟩
    unfold trans_stepper_kinds_l2
    simp only
    rw [if_pos (by simpa using (show (i : Int) < 7 by omega)), inA_nat hi, sb, kindsOf_s, wsucc (by omega)]
    have hl := kindsOf_len s.f_errors i
    by_cases h : s.f_errors i = true
    · rw [if_pos h, if_pos h, app_some (by simp only [List.length_cons, List.length_nil]; omega)]; rfl
    · rw [if_neg h, if_neg h, List.append_nil]; rfl) (fun x hx => by
    subst hx
    refine ⟨_, ?_, rfl⟩
    unfold trans_stepper_kinds_l2
    rfl) (0, []) rfl
  subst h2
  unfold trans_stepper_kinds
  rw [h1]; rfl
def f0 : Nat → Bool := arr false [false, false, false, false, false, false, false]
def sys (e : flow_Edge) (n : Int) : flow_Sys := ⟨[], [⟨2, [e], []⟩], [n]⟩
def wrl (e : flow_Edge) (n : Int) : trans_World := ⟨sys e n, [], []⟩
def ste (e : flow_Edge) (n : Int) (a : num_Num) : trans_stepper := ⟨wrl e n, 0, [0], 0, e, ⟨a, [], []⟩, ⟨-1, 0, ⟨1, 0⟩⟩, f0⟩
theorem Out_law (e : flow_Edge) : flow_Out ⟨2, [e], []⟩ e.From = some [0] := by
  have b0 : flow_Out_l2 ⟨2, [e], []⟩ e.From (0, []) = some (.inl (1, [0])) := by
    unfold flow_Out_l2
    simp only
    rw [if_pos (show decide ((0 : Int) < (([e] : List flow_Edge).length : Nat)) = true from rfl), show idx [e] 0 = some e from rfl, sb, if_pos (by simp), app_some (by decide)]; rfl
  unfold flow_Out
  rw [iter_eq, b0]
  show (iter _ (1, [0]) >>= _) = _
  rw [iter_eq, show flow_Out_l2 ⟨2, [e], []⟩ e.From (1, [0]) = some (.inr (.inr [0])) from rfl]
  rfl
theorem vars_law (e : flow_Edge) (n : Int) : trans_vars (sys e n) 0 = some n := rfl
theorem NoneS_law (e : flow_Edge) {n : Nat} (hn : n ≤ 6) : ∃ t, trans_None (sys e n) 0 = some t ∧ t.N.None = true := by
  obtain ⟨a, q, ha⟩ := None_law hn
  refine ⟨⟨a, [], []⟩, ?_, ha⟩
  unfold trans_None
  rw [vars_law, sb, q, sb, iter_eq]
  rfl
theorem Start_law (e : flow_Edge) {n : Nat} (hn : n ≤ 6) : ∃ a, trans_Start (sys e n) 0 = some ⟨a, [], []⟩ ∧ Pt n (fun _ => 0) n a := by
  obtain ⟨a, q, ha⟩ := Zeros_law hn
  refine ⟨a, ?_, ha⟩
  unfold trans_Start
  rw [vars_law, sb, q, sb, iter_eq]
  rfl
theorem Step_law {e : flow_Edge} {n : Int} {a : num_Num} (hN : a.None = false) {s : trans_stepper} (hs : trans_stepper_step (ste e n a) = some s) : trans_Step (wrl e n) 0 0 ⟨a, [], []⟩ = some (s.f_a, s.f_sent, kindsOf s.f_errors 7) := by
  have g0 : idx (wrl e n).S.Graphs 0 = some ⟨2, [e], []⟩ := rfl
  have e0 : idx (flow_Graph.mk 2 [e] []).Edges 0 = some e := rfl
  have hemp : trans_Empty ⟨a, [], []⟩ = some false := by unfold trans_Empty; rw [hN]
  have hcop : trans_copied ⟨a, [], []⟩ = some ⟨a, [], []⟩ := by
    unfold trans_copied itv_Itv_ rule_Set_
    rw [app_some (Nat.le_of_ble_eq_true rfl), app_some (Nat.le_of_ble_eq_true rfl)]; rfl
  unfold trans_Step
  rw [show itv_None = some ⟨1, 0⟩ from rfl, sb, if_neg (by decide), if_neg (by simp [wrl, sys]), if_neg (by decide), g0, sb, sb, if_neg (by simp), hemp, sb, sb, if_neg (by simp), e0, sb, sb, Out_law, sb, hcop, sb]
  show (trans_stepper_step (ste e n a) >>= _) = _
  rw [hs, sb, kinds_law]; rfl
/-- A stepper's end: the stop of an empty one. -/
theorem end_law {e : flow_Edge} {n : Nat} (hn : n ≤ 6) (s : trans_stepper) (hw : s.f_w = wrl e n) (hp : s.f_proc = 0) (b : num_Num) (hb : s.f_a.N = b) :
    ∃ s', (trans_Empty ⟨s.f_a.N, s.f_a.Counts, s.f_a.Rules⟩ >>= fun v8 => if v8 then (trans_stepper_stops (trans_stepper.mk s.f_w s.f_proc s.f_out s.f_at s.f_e (trans_State.mk s.f_a.N s.f_a.Counts s.f_a.Rules) s.f_sent s.f_errors) >>= fun v9 => some v9) else (some (trans_stepper.mk s.f_w s.f_proc s.f_out s.f_at s.f_e (trans_State.mk s.f_a.N s.f_a.Counts s.f_a.Rules) s.f_sent s.f_errors))) = some s' ∧ s'.f_errors = s.f_errors ∧ s'.f_sent = s.f_sent ∧ s'.f_a.N.None = b.None ∧ (b.None = false → s'.f_a.N = b) := by
  obtain ⟨w, p, o, at_, e', ⟨N, c, r⟩, sn, er⟩ := s
  simp only at hw hp hb
  subst hw hp hb
  unfold trans_Empty
  simp only
  cases h : N.None
  · exact ⟨_, rfl, rfl, rfl, h, fun _ => rfl⟩
  · obtain ⟨t, q, ht⟩ := NoneS_law e hn
    refine ⟨⟨wrl e n, 0, o, at_, e', t, sn, er⟩, ?_, rfl, rfl, ht, fun c => absurd c (by simp)⟩
    rw [sb, if_pos rfl]
    unfold trans_stepper_stops
    show ((trans_None (sys e n) 0 >>= _) >>= _) = _
    rw [q]; rfl
theorem assign_step {e : flow_Edge} {n : Nat} (hn : n ≤ 6) {a b : num_Num} {er : itv_Errs} (hk : e.Kind = 1) (hq : eval_Assign a e.Var e.E = some (b, er)) :
    ∃ s, trans_stepper_step (ste e n a) = some s ∧ kindsOf s.f_errors 7 = (if er.Overflow then [2] else []) ++ (if er.DivZero then [3] else []) ∧ s.f_sent = ⟨-1, 0, ⟨1, 0⟩⟩ ∧ s.f_a.N.None = b.None ∧ (b.None = false → s.f_a.N = b) := by
  have hass : ∃ s, trans_stepper_assign (ste e n a) = some s ∧ s.f_w = wrl e n ∧ s.f_proc = 0 ∧ s.f_a.N = b ∧ s.f_sent = ⟨-1, 0, ⟨1, 0⟩⟩ ∧ kindsOf s.f_errors 7 = (if er.Overflow then [2] else []) ++ (if er.DivZero then [3] else []) := by
    unfold trans_stepper_assign
    show ∃ s, (eval_Assign a e.Var e.E >>= _) = some s ∧ _
    rw [hq]
    obtain ⟨ov, dz⟩ := er
    refine ⟨_, rfl, rfl, rfl, rfl, rfl, ?_⟩
    cases ov <;> cases dz <;> rfl
  obtain ⟨s, q, h1, h2, h3, h4, h5⟩ := hass
  obtain ⟨s', r, k1, k2, k3, k4⟩ := end_law (e := e) hn s h1 h2 b h3
  refine ⟨s', ?_, by rw [k1]; exact h5, by rw [k2]; exact h4, k3, k4⟩
  have hk' : ((ste e n a).f_e.Kind == 1) = true := by show (e.Kind == 1) = true; rw [hk]; rfl
  unfold trans_stepper_step
  rw [if_pos hk', q]
  exact r
theorem assert_step {e : flow_Edge} {n : Nat} (hn : n ≤ 6) {a b c : num_Num} (hk : e.Kind = 5) (ho : e.C.Op = 3) (hq : eval_Assume a e.C = some (b, no)) (hr : eval_Assume a ⟨6, e.C.L, e.C.R⟩ = some (c, no)) :
    ∃ s, trans_stepper_step (ste e n a) = some s ∧ kindsOf s.f_errors 7 = (if c.None then [] else [1]) ∧ s.f_a.N.None = b.None ∧ (b.None = false → s.f_a.N = b) := by
  have hass : ∃ s, trans_stepper_assert (ste e n a) = some s ∧ s.f_w = wrl e n ∧ s.f_proc = 0 ∧ s.f_a.N = b ∧ kindsOf s.f_errors 7 = (if c.None then [] else [1]) := by
    unfold trans_stepper_assert
    show ∃ s, (flow_Not e.C.Op >>= _) = some s ∧ _
    rw [ho, show flow_Not 3 = some 6 from rfl, sb]
    show ∃ s, (eval_Assume a ⟨6, e.C.L, e.C.R⟩ >>= _) = some s ∧ _
    rw [hr, sb]
    show ∃ s, (eval_Assume a e.C >>= _) = some s ∧ _
    rw [hq]
    obtain ⟨cn, cI, cZ⟩ := c
    refine ⟨_, rfl, rfl, rfl, rfl, ?_⟩
    cases cn <;> rfl
  obtain ⟨s, q, h1, h2, h3, h5⟩ := hass
  obtain ⟨s', r, k1, k2, k3, k4⟩ := end_law (e := e) hn s h1 h2 b h3
  refine ⟨s', ?_, by rw [k1]; exact h5, k3, k4⟩
  have hk' : ((ste e n a).f_e.Kind) = 5 := hk
  unfold trans_stepper_step
  rw [hk', if_neg (by decide), if_neg (by decide), if_pos (by decide), q]
  exact r
end Go.Proofs.YtbebnddalipfhaaGreat.Abs

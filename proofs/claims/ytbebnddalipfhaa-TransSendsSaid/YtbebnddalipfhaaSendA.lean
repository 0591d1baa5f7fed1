/- The plain law of TransSends. -/
import Derived.Test.YtbebnddalipfhaaStepN
namespace Go.Proofs.Ytbebnddalipfhaa.Abs
open Go Go.RowKit
set_option linter.unusedVariables false
set_option linter.unusedSimpArgs false
/-! ### steps, as they are printed here -/
theorem end2_law {e : flow_Edge} {n : Nat} (hn : n ≤ 6) (s : trans_stepper) (hw : s.f_w = wrl e n) (hp : s.f_proc = 0) (hb : s.f_a.N.None = false) :
    (trans_Empty s.f_a >>= fun v8 => if v8 then (trans_stepper_stops_2 s >>= fun v9 => some v9) else (some s)) = some s := by
  unfold trans_Empty
  rw [hb, sb, if_neg (by simp)]
theorem steps_law : l14_steps = some true := by
  obtain ⟨a, qa, pa⟩ := Start_law ed3 (n := 1) (by decide)
  obtain ⟨b, qb, hI, hn⟩ := Assign3 pa
  have hass : ∃ s, trans_stepper_assign (ste ed3 1 a) = some s ∧ s.f_w = wrl ed3 1 ∧ s.f_proc = 0 ∧ s.f_a.N = b ∧ s.f_sent = ⟨-1, 0, ⟨1, 0⟩⟩ ∧ kindsOf s.f_errors 7 = [] := by
    unfold trans_stepper_assign
    show ∃ s, (eval_Assign a 0 (xN 3) >>= _) = some s ∧ _
    rw [qb]
    exact ⟨_, rfl, rfl, rfl, rfl, rfl, rfl⟩
  obtain ⟨s, q, h1, h2, h3, hsn, hk⟩ := hass
  have qs : trans_stepper_step (ste ed3 1 a) = some s := by
    unfold trans_stepper_step
    rw [if_pos (show ((ste ed3 1 a).f_e.Kind == 1) = true from rfl), q]
    exact end2_law (e := ed3) (n := 1) (by decide) s h1 h2 (by rw [h3]; exact hn)
  have hst := Step_law (e := ed3) (n := 1) pa.s.none qs
  obtain ⟨t, qt, ht⟩ := NoneS_law ed3 (n := 1) (by decide)
  unfold l14_steps
  show (trans_Start (sys ed3 ((1 : Nat) : Int)) 0 >>= _) = _
  rw [qa, sb]
  show (trans_Step (wrl ed3 1) 0 0 ⟨a, [], []⟩ >>= _) = _
  rw [hst, sb]
  have c1 : trans_Empty s.f_a = some false := by unfold trans_Empty; rw [h3, hn]
  simp only [c1, sb, h3, hI, hsn, hk]
  show ((trans_None (sys ed3 ((1 : Nat) : Int)) 0 >>= fun v11 => trans_Empty v11 >>= fun v13 => some v13) >>= fun j1 => some j1) = some true
  rw [qt, sb]
  unfold trans_Empty
  rw [ht]; rfl
/-! ### the law's system -/
def ch (k z : Int) : check_Chan := ⟨k, z, 0, 1, 1, []⟩
def es : flow_Edge := ⟨0, 1, 3, 0, 0, 0, xN 5, C0⟩
def eo : flow_Edge := ⟨0, 1, 0, 0, 0, 0, ⟨0, 0, 0, []⟩, C0⟩
def sS (k z : Int) : flow_Sys := ⟨[ch k z], [⟨2, [es], []⟩, ⟨2, [eo], []⟩], [0, 0]⟩
theorem Repeat1 : slices_Repeat_bool_bool_ [true] 1 = some [true] := by
  have hm : bits_Mul (IntKind.u64.wrap (([true] : List Bool).length : Int)) (IntKind.u64.wrap 1) = some (0, 1) := by rfl
  unfold slices_Repeat_bool_bool_
  rw [if_neg (by decide), hm, sb, if_neg (by decide), sb, if_neg (by decide), show mkN 1 (IntKind.i64.wrap (0, (1 : Int)).2) = some 1 from rfl, sb, iter_eq, show slices_Repeat_bool_bool__l2 [true] 1 () = some (.inr (.inr ())) from rfl]
  rfl
theorem Deaf_law (k z : Int) : trans_Deaf (sS k z) = some [true] := by
  have e1 : iter (trans_Deaf_l2 ⟨2, [es], []⟩) (0, [true]) = some (.inr [true]) := by
    rw [iter_eq, show trans_Deaf_l2 ⟨2, [es], []⟩ (0, [true]) = some (.inl (1, [true])) from rfl]
    show iter _ (1, [true]) = _
    rw [iter_eq, show trans_Deaf_l2 ⟨2, [es], []⟩ (1, [true]) = some (.inr (.inr [true])) from rfl]
    rfl
  have e2 : iter (trans_Deaf_l2 ⟨2, [eo], []⟩) (0, [true]) = some (.inr [true]) := by
    rw [iter_eq, show trans_Deaf_l2 ⟨2, [eo], []⟩ (0, [true]) = some (.inl (1, [true])) from rfl]
    show iter _ (1, [true]) = _
    rw [iter_eq, show trans_Deaf_l2 ⟨2, [eo], []⟩ (1, [true]) = some (.inr (.inr [true])) from rfl]
    rfl
  have b0 : trans_Deaf_l1 (sS k z) (0, [true]) = some (.inl (1, [true])) := by
    unfold trans_Deaf_l1
    show (iter (trans_Deaf_l2 ⟨2, [es], []⟩) (0, [true]) >>= _) = _
    rw [e1]; rfl
  have b1 : trans_Deaf_l1 (sS k z) (1, [true]) = some (.inl (2, [true])) := by
    unfold trans_Deaf_l1
    show (iter (trans_Deaf_l2 ⟨2, [eo], []⟩) (0, [true]) >>= _) = _
    rw [e2]; rfl
  have b2 : trans_Deaf_l1 (sS k z) (2, [true]) = some (.inr (.inr [true])) := by unfold trans_Deaf_l1; rfl
  unfold trans_Deaf
  show (slices_Repeat_bool_bool_ [true] 1 >>= _) = _
  rw [Repeat1, sb, iter_eq, b0]
  show (iter _ (1, [true]) >>= _) = _
  rw [iter_eq, b1]
  show (iter _ (2, [true]) >>= _) = _
  rw [iter_eq, b2]; rfl
theorem QNone_law (k z : Int) : queue_None (ch k z) = some ⟨⟨0, 0⟩, [⟨1, 0⟩]⟩ := by
  unfold queue_None
  rw [show itv_Const 0 = some (itv_Itv.mk 0 0) from rfl, sb, iter_eq, show queue_None_l2 (ch k z) (0, []) = some (.inl (1, [itv_Itv.mk 1 0])) from rfl]
  show (iter _ (1, [itv_Itv.mk 1 0]) >>= _) = _
  rw [iter_eq, show queue_None_l2 (ch k z) (1, [itv_Itv.mk 1 0]) = some (.inr (.inr [itv_Itv.mk 1 0])) from rfl]
  rfl
def stt (a : num_Num) (m : Int) : trans_State := ⟨a, [⟨m, m⟩], [1]⟩
theorem StartS_law (k z : Int) : ∃ a, trans_Start (sS k z) 0 = some (stt a 0) ∧ a.None = false := by
  obtain ⟨a, q, ha⟩ := Zeros_law (n := 0) (by decide)
  refine ⟨a, ?_, ha.s.none⟩
  unfold trans_Start
  show (num_Zeros 0 >>= _) = _
  rw [show num_Zeros 0 = some a from q, sb, iter_eq, show trans_Start_l3 (sS k z) (0, ⟨a, [], []⟩, [], []) = some (.inl (1, ⟨a, [⟨0, 0⟩], [1]⟩, [⟨0, 0⟩], [1])) from rfl]
  show (iter _ (1, _) >>= _) = _
  rw [iter_eq, show trans_Start_l3 (sS k z) (1, ⟨a, [⟨0, 0⟩], [1]⟩, [⟨0, 0⟩], [1]) = some (.inr (.inr (⟨a, [⟨0, 0⟩], [1]⟩, [⟨0, 0⟩], [1]))) from rfl]
  rfl
theorem NoneSS_law (k z : Int) : ∃ t, trans_None (sS k z) 0 = some t ∧ t.N.None = true := by
  obtain ⟨a, q, ha⟩ := None_law (n := 0) (by decide)
  refine ⟨⟨a, [⟨1, 0⟩], [0]⟩, ?_, ha⟩
  unfold trans_None
  show (num_None 0 >>= _) = _
  rw [show num_None 0 = some a from q, sb, iter_eq, show trans_None_l3 (sS k z) (0, ⟨a, [], []⟩, [], []) = some (.inl (1, ⟨a, [⟨1, 0⟩], [0]⟩, [⟨1, 0⟩], [0])) from rfl]
  show (iter _ (1, _) >>= _) = _
  rw [iter_eq, show trans_None_l3 (sS k z) (1, ⟨a, [⟨1, 0⟩], [0]⟩, [⟨1, 0⟩], [0]) = some (.inr (.inr (⟨a, [⟨1, 0⟩], [0]⟩, [⟨1, 0⟩], [0]))) from rfl]
  rfl
def wS (k z : Int) : trans_World := ⟨sS k z, [⟨⟨0, 0⟩, [⟨1, 0⟩]⟩], [true]⟩
def steS (k z : Int) (a : num_Num) (m : Int) : trans_stepper := ⟨wS k z, 0, [0], 0, es, stt a m, ⟨-1, 0, ⟨1, 0⟩⟩, f0⟩
def roomV (k z m : Int) : itv_Itv := if k = 2 ∨ m ≤ z - 1 then ⟨m, m⟩ else ⟨1, 0⟩
theorem room_law {k z m : Int} {a : num_Num} (hz : 1 ≤ z ∧ z ≤ 16) (hm : 0 ≤ m ∧ m ≤ 17) : trans_stepper_room (steS k z a m) (ch k z) ⟨m, m⟩ = some (roomV k z m) := by
  unfold trans_stepper_room roomV
  by_cases e : k = 2
  · rw [if_pos (show ((ch k z).Kind == 2) = true by show (k == 2) = true; simpa using e), sb, if_pos rfl, if_pos (.inl e)]
  · rw [if_neg (show ¬ ((ch k z).Kind == 2) = true by show ¬ (k == 2) = true; simpa using e)]
    show ((some (!true) >>= _)) = _
    rw [sb, if_neg (by simp)]
    show (itv_Of 0 (IntKind.i64.wrap (z - 1)) >>= _) = _
    rw [w64 (by omega) (by omega), itv_Of_eq, sb, Meet_eq, sb]
    unfold ivO
    rw [if_neg (by omega)]
    unfold mt nm
    by_cases d : m ≤ z - 1
    · rw [if_neg (by simp only; omega), if_neg (by simp only; omega), if_pos (.inr d)]
      congr 1
      simp only [itv_Itv.mk.injEq]; omega
    · rw [if_neg (by simp only; omega), if_pos (by simp only; omega), if_neg (by omega)]
def overV (k z m : Int) : Prop := k ≠ 2 ∧ z ≤ m
theorem send_step {k z m : Int} {a : num_Num} (ha : a.None = false) (hk : 0 ≤ k ∧ k ≤ 2) (hz : 1 ≤ z ∧ z ≤ 16) (hm : 0 ≤ m ∧ m ≤ 17) :
    ∃ s, trans_stepper_step (steS k z a m) = some s ∧ ((overV k z m ∧ s.f_a.N.None = true ∧ s.f_sent = ⟨-1, 0, ⟨1, 0⟩⟩ ∧ kindsOf s.f_errors 7 = (if k = 1 then [4] else [])) ∨
      (¬ overV k z m ∧ s.f_a = stt a (min (m + 1) (z + 1)) ∧ s.f_sent = ⟨0, 0, pt 5⟩ ∧ kindsOf s.f_errors 7 = [])) := by
  obtain ⟨t, qt, ht⟩ := NoneSS_law k z
  have i0 : idx (steS k z a m).f_w.S.Chans (steS k z a m).f_e.Chan = some (ch k z) := rfl
  have i1 : idx (steS k z a m).f_a.Counts (steS k z a m).f_e.Chan = some ⟨m, m⟩ := rfl
  have hE : eval_Eval (steS k z a m).f_e.E (steS k z a m).f_a.N = some (pt 5, no) := Eval_num ha ⟨by decide, by decide⟩
  have key : ∃ s, trans_stepper_send (steS k z a m) = some s ∧ s.f_w = wS k z ∧ s.f_proc = 0 ∧ ((overV k z m ∧ s.f_a.N.None = true ∧ s.f_sent = ⟨-1, 0, ⟨1, 0⟩⟩ ∧ kindsOf s.f_errors 7 = (if k = 1 then [4] else [])) ∨
      (¬ overV k z m ∧ s.f_a = stt a (min (m + 1) (z + 1)) ∧ s.f_sent = ⟨0, 0, pt 5⟩ ∧ kindsOf s.f_errors 7 = [])) := by
    unfold trans_stepper_send
    rw [i0, sb, i1, sb, room_law hz hm, sb]
    by_cases ho : overV k z m
    · obtain ⟨h2, hzm⟩ := ho
      have hr : roomV k z m = ⟨1, 0⟩ := by unfold roomV; rw [if_neg (by omega)]
      rw [hr]
      by_cases k0 : k = 0
      · subst k0
        refine ⟨⟨wS 0 z, 0, [0], 0, es, t, ⟨-1, 0, ⟨1, 0⟩⟩, f0⟩, ?_, rfl, rfl, .inl ⟨⟨by decide, hzm⟩, ht, rfl, rfl⟩⟩
        rw [if_pos (show ((ch 0 z).Kind == 0) = true from rfl), show itv_Empty ⟨1, 0⟩ = some true from rfl, sb, sb, if_pos rfl]
        unfold trans_stepper_stops
        show ((trans_None (sS 0 z) 0 >>= _) >>= _) = _
        rw [qt]; rfl
      · have k1 : k = 1 := by omega
        subst k1
        obtain ⟨er, hmay, e0, e1, e2, e3, e4, e5, e6⟩ : ∃ er, trans_stepper_may (steS 1 z a m) no = some ⟨wS 1 z, 0, [0], 0, es, stt a m, ⟨-1, 0, ⟨1, 0⟩⟩, er⟩ ∧ er 0 = false ∧ er 1 = false ∧ er 2 = false ∧ er 3 = false ∧ er 4 = false ∧ er 5 = false ∧ er 6 = false := ⟨_, rfl, rfl, rfl, rfl, rfl, rfl, rfl, rfl⟩
        have hrul : trans_stepper_ruled ⟨wS 1 z, 0, [0], 0, es, stt a m, ⟨-1, 0, ⟨1, 0⟩⟩, er⟩ (ch 1 z) = some (⟨wS 1 z, 0, [0], 0, es, stt a m, ⟨-1, 0, ⟨1, 0⟩⟩, arr false [er 0, er 1, er 2, er 3, er 4, er 5, false]⟩, true) := rfl
        refine ⟨⟨wS 1 z, 0, [0], 0, es, t, ⟨-1, 0, ⟨1, 0⟩⟩, arr false [er 0, er 1, er 2, er 3, decide (m ≥ z), er 5, false]⟩, ?_, rfl, rfl, .inl ⟨⟨by decide, hzm⟩, ht, rfl, ?_⟩⟩
        · rw [if_neg (show ¬ ((ch 1 z).Kind == 0) = true by show ¬ ((1 : Int) == 0) = true; decide), sb, if_neg (by simp), hE, sb]
          show (trans_stepper_may (steS 1 z a m) no >>= _) = _
          rw [hmay, sb]
          show (((itv_Empty (pt 5) >>= _)) >>= _) = _
          rw [emp_pt, sb, if_neg (by simp), hrul, sb, sb, if_neg (by simp), if_pos (show ((ch 1 z).Kind == 1) = true from rfl), sb, sb, show itv_Empty ⟨1, 0⟩ = some true from rfl, sb, if_pos rfl]
          unfold trans_stepper_stops
          show ((trans_None (sS 1 z) 0 >>= _) >>= _) = _
          rw [qt]; rfl
        · show kindsOf (arr false [er 0, er 1, er 2, er 3, decide (m ≥ z), er 5, false]) 7 = _
          rw [e0, e1, e2, e3, e5, show decide (m ≥ z) = true from decide_eq_true hzm]; rfl
    · have hr : roomV k z m = ⟨m, m⟩ := by
        unfold roomV
        refine if_pos ?_
        unfold overV at ho
        omega
      rw [hr]
      obtain ⟨er, hmay, e0, e1, e2, e3, e4, e5, e6⟩ : ∃ er, trans_stepper_may (steS k z a m) no = some ⟨wS k z, 0, [0], 0, es, stt a m, ⟨-1, 0, ⟨1, 0⟩⟩, er⟩ ∧ er 0 = false ∧ er 1 = false ∧ er 2 = false ∧ er 3 = false ∧ er 4 = false ∧ er 5 = false ∧ er 6 = false := ⟨_, rfl, rfl, rfl, rfl, rfl, rfl, rfl, rfl⟩
      have hrul : trans_stepper_ruled ⟨wS k z, 0, [0], 0, es, stt a m, ⟨-1, 0, ⟨1, 0⟩⟩, er⟩ (ch k z) = some (⟨wS k z, 0, [0], 0, es, stt a m, ⟨-1, 0, ⟨1, 0⟩⟩, arr false [er 0, er 1, er 2, er 3, er 4, er 5, false]⟩, true) := rfl
      have hj1 : ((if ((ch k z).Kind == 0) then (itv_Empty ⟨m, m⟩ >>= fun v4 => some v4) else (some false)) : Option Bool) = some false := by
        split
        · unfold itv_Empty; simp [sb]
        · rfl
      have hem : itv_Empty ⟨m, m⟩ = some false := by unfold itv_Empty; simp
      have hcnt : ∀ w1 w2 : Int, w1 = m + 1 → w2 = z + 1 → seti [itv_Itv.mk m m] 0 ⟨min w1 w2, min w1 w2⟩ = [⟨min (m + 1) (z + 1), min (m + 1) (z + 1)⟩] := fun w1 w2 h1 h2 => by subst h1; subst h2; rfl
      have hfin : ∀ b4 : Bool, b4 = false → ∃ s, (idx (stt a m).Counts 0 >>= fun v16 : itv_Itv => (some (trans_stepper.mk (wS k z) 0 [0] 0 es (trans_State.mk a (seti (stt a m).Counts 0 (itv_Itv.mk (min (IntKind.i64.wrap (m + 1)) (IntKind.i64.wrap (z + 1))) (min (IntKind.i64.wrap (m + 1)) (IntKind.i64.wrap (z + 1))))) [1]) (trans_Sent.mk 0 0 (pt 5)) (arr false [er 0, er 1, er 2, er 3, b4, er 5, false])) : Option trans_stepper)) = some s ∧ s.f_w = wS k z ∧ s.f_proc = 0 ∧ s.f_a = stt a (min (m + 1) (z + 1)) ∧ s.f_sent = ⟨0, 0, pt 5⟩ ∧ kindsOf s.f_errors 7 = [] := fun b4 hb4 => by
        refine ⟨_, rfl, rfl, rfl, ?_, rfl, ?_⟩
        · show trans_State.mk a (seti [itv_Itv.mk m m] 0 _) [1] = _
          rw [hcnt _ _ (w64 (by omega) (by omega)) (w64 (by omega) (by omega))]; rfl
        · show kindsOf (arr false [er 0, er 1, er 2, er 3, b4, er 5, false]) 7 = _
          rw [e0, e1, e2, e3, e5, hb4]; rfl
      have h4 : k = 1 → decide (m ≥ z) = false := fun h => decide_eq_false (by
        unfold overV at ho
        omega)
      by_cases k1 : k = 1
      · obtain ⟨s, q1, q2, q3, q4, q5, q6⟩ := hfin (decide (m ≥ z)) (h4 k1)
        refine ⟨s, ?_, q2, q3, .inr ⟨ho, q4, q5, q6⟩⟩
        rw [hj1, sb, if_neg (by simp), hE, sb]
        show (trans_stepper_may (steS k z a m) no >>= _) = _
        rw [hmay, sb]
        show (((itv_Empty (pt 5) >>= _)) >>= _) = _
        rw [emp_pt, sb, if_neg (by simp), hrul, sb, sb, if_neg (by simp), if_pos (show ((ch k z).Kind == 1) = true by show (k == 1) = true; simpa using k1), sb, sb, hem, sb, if_neg (by simp)]
        exact q1
      · obtain ⟨s, q1, q2, q3, q4, q5, q6⟩ := hfin false rfl
        refine ⟨s, ?_, q2, q3, .inr ⟨ho, q4, q5, q6⟩⟩
        rw [hj1, sb, if_neg (by simp), hE, sb]
        show (trans_stepper_may (steS k z a m) no >>= _) = _
        rw [hmay, sb]
        show (((itv_Empty (pt 5) >>= _)) >>= _) = _
        rw [emp_pt, sb, if_neg (by simp), hrul, sb, sb, if_neg (by simp), if_neg (show ¬ ((ch k z).Kind == 1) = true by show ¬ (k == 1) = true; simpa using k1), sb, sb, hem, sb, if_neg (by simp)]
        exact q1
  obtain ⟨s, q, hw, hp, hc⟩ := key
  have hstep : trans_stepper_step (steS k z a m) = (trans_Empty s.f_a >>= fun v8 => if v8 then (trans_stepper_stops_2 s >>= fun v9 => some v9) else (some s)) := by
    unfold trans_stepper_step
    rw [show (steS k z a m).f_e.Kind = 3 from rfl, if_neg (by decide), if_neg (by decide), if_neg (by decide), if_neg (by decide), if_pos (by decide), q]
    rfl
  rw [hstep]
  rcases hc with ⟨ho, hN, hs, hk'⟩ | ⟨ho, hA, hs, hk'⟩
  · refine ⟨⟨s.f_w, s.f_proc, s.f_out, s.f_at, s.f_e, t, s.f_sent, s.f_errors⟩, ?_, .inl ⟨ho, ht, hs, hk'⟩⟩
    unfold trans_Empty
    rw [hN, sb, if_pos rfl]
    unfold trans_stepper_stops_2
    rw [hw, hp]
    show ((trans_None (sS k z) 0 >>= _) >>= _) = _
    rw [qt]; rfl
  · refine ⟨s, ?_, .inr ⟨ho, hA, hs, hk'⟩⟩
    unfold trans_Empty
    rw [show s.f_a.N.None = false by rw [hA]; exact ha, sb, if_neg (by simp)]
theorem StepS_law {k z m : Int} {a : num_Num} (ha : a.None = false) {s : trans_stepper} (hs : trans_stepper_step (steS k z a m) = some s) : trans_Step (wS k z) 0 0 (stt a m) = some (s.f_a, s.f_sent, kindsOf s.f_errors 7) := by
  have g0 : idx (wS k z).S.Graphs 0 = some ⟨2, [es], []⟩ := rfl
  have e0 : idx (flow_Graph.mk 2 [es] []).Edges 0 = some es := rfl
  have hemp : trans_Empty (stt a m) = some false := by unfold trans_Empty; show some a.None = _; rw [ha]
  have hcop : trans_copied (stt a m) = some (stt a m) := by
    unfold trans_copied itv_Itv_ rule_Set_
    rw [app_some (Nat.le_of_ble_eq_true rfl), app_some (Nat.le_of_ble_eq_true rfl)]; rfl
  unfold trans_Step
  rw [show itv_None = some ⟨1, 0⟩ from rfl, sb, if_neg (by decide), if_neg (by simp [wS, sS]), if_neg (by decide), g0, sb, sb, if_neg (by simp), hemp, sb, sb, if_neg (by simp), e0, sb, sb, Out_law, sb, hcop, sb]
  show (trans_stepper_step (steS k z a m) >>= _) = _
  rw [hs, sb, kinds_law]; rfl
theorem send_l1 {k v2 v3 i : Int} {a : num_Num} (ha : a.None = false) (hk : 0 ≤ k ∧ k ≤ 2) (h2 : 0 ≤ v2 ∧ v2 ≤ 15) (h3 : 0 ≤ v3 ∧ v3 ≤ 19) (hi : 0 ≤ i ∧ i < v3) (hkz : k ≠ 2 → i ≤ 1 + v2) :
    l14_TransSends_l1 k v2 v3 ⟨⟨0, 0⟩, [⟨1, 0⟩]⟩ [true] (i, stt a (min i (1 + v2 + 1))) = some (if k ≠ 2 ∧ 1 + v2 ≤ i then .inr (.inr ()) else .inl (i + 1, stt a (min (i + 1) (1 + v2 + 1)))) := by
  obtain ⟨s, qs, hc⟩ := send_step (k := k) (z := 1 + v2) (m := min i (1 + v2 + 1)) ha hk (by omega) (by omega)
  have hst := StepS_law ha qs
  unfold l14_TransSends_l1
  simp only
  rw [w64 (n := v3) (by omega) (by omega), w64 (n := k) (by omega) (by omega), w64 (n := v2) (by omega) (by omega), w64 (n := 1 + v2) (by omega) (by omega), if_pos (by simpa using hi.2)]
  show (trans_Step (wS k (1 + v2)) 0 0 (stt a (min i (1 + v2 + 1))) >>= _) = _
  rw [hst, sb]
  rcases hc with ⟨⟨o1, o2⟩, hN, hs, hkd⟩ | ⟨ho, hA, hs, hkd⟩
  · have ov : 1 + v2 ≤ i := by omega
    have hE : trans_Empty s.f_a = some true := by unfold trans_Empty; rw [hN]
    have hp : k ≠ 2 ∧ 1 + v2 ≤ i := ⟨o1, ov⟩
    rw [if_pos hp]
    have hge : decide (i ≥ 1 + v2) = true := decide_eq_true ov
    by_cases k0 : k = 0
    · subst k0
      simp only [hge, hE, hs, hkd, sb]
      rfl
    · have k1 : k = 1 := by omega
      subst k1
      simp only [hge, hE, hs, hkd, sb]
      rfl
  · have hnot : ¬ (k ≠ 2 ∧ 1 + v2 ≤ i) := by unfold overV at ho; omega
    rw [if_neg hnot]
    have hE : trans_Empty s.f_a = some false := by unfold trans_Empty; rw [hA]; show some a.None = _; rw [ha]
    have c1 : (if decide (i ≥ 1 + v2) = true then some (k == 0) else some false : Option Bool) = some false := by
      split
      · rename_i h; have : 1 + v2 ≤ i := by simpa using h
        have : k = 2 := by omega
        subst this; rfl
      · rfl
    have c2 : (if decide (i ≥ 1 + v2) = true then some (k == 1) else some false : Option Bool) = some false := by
      split
      · rename_i h; have : 1 + v2 ≤ i := by simpa using h
        have : k = 2 := by omega
        subst this; rfl
      · rfl
    have hm : min (min i (1 + v2 + 1) + 1) (1 + v2 + 1) = min (i + 1) (1 + v2 + 1) := by omega
    have hC : itv_Const (min (IntKind.i64.wrap (i + 1)) (IntKind.i64.wrap (1 + v2 + 1))) = some (pt (min (i + 1) (1 + v2 + 1))) := by
      rw [w64 (by omega) (by omega), w64 (by omega) (by omega)]
      exact Const_pt ⟨by omega, by omega⟩
    rw [c1, sb, if_neg (by simp), c2, sb, if_neg (by simp)]
    simp only [hE, hA, hs, hkd, hm, hC, sb]
    have i5 : itv_Const 5 = some (pt 5) := Const_pt ⟨by decide, by decide⟩
    have ix : idx (stt a (min (i + 1) (1 + v2 + 1))).Counts 0 = some (pt (min (i + 1) (1 + v2 + 1))) := rfl
    rw [i5, ix]
    simp [sb, stt, pt, w64 (n := i + 1) (by omega) (by omega), Sum.elim, trans_Empty, ha]
theorem sends_it {k v2 v3 : Int} {a : num_Num} (ha : a.None = false) (hk : 0 ≤ k ∧ k ≤ 2) (h2 : 0 ≤ v2 ∧ v2 ≤ 15) (h3 : 0 ≤ v3 ∧ v3 ≤ 19) : ∀ (d : Nat) (i : Int), 0 ≤ i → i + d = v3 → (k ≠ 2 → i ≤ 1 + v2) →
    iter (l14_TransSends_l1 k v2 v3 ⟨⟨0, 0⟩, [⟨1, 0⟩]⟩ [true]) (i, stt a (min i (1 + v2 + 1))) = some (.inr ())
  | 0, i, h0, hd, _ => by
    rw [iter_eq]
    have : l14_TransSends_l1 k v2 v3 ⟨⟨0, 0⟩, [⟨1, 0⟩]⟩ [true] (i, stt a (min i (1 + v2 + 1))) = some (.inr (.inr ())) := by
      unfold l14_TransSends_l1
      simp only
      rw [w64 (n := v3) (by omega) (by omega), if_neg (by simp; omega)]
    rw [this]; rfl
  | d + 1, i, h0, hd, hz => by
    rw [iter_eq, send_l1 ha hk h2 h3 ⟨h0, by omega⟩ hz]
    by_cases c : k ≠ 2 ∧ 1 + v2 ≤ i
    · rw [if_pos c]; rfl
    · rw [if_neg c]
      exact sends_it ha hk h2 h3 d (i + 1) (by omega) (by omega) (fun h => by omega)
theorem rem_nat {a n : Int} (hn : 1 ≤ n) (ha : 0 ≤ a) : ∃ r, rem a n = some r ∧ 0 ≤ r ∧ r ≤ n - 1 := by
  refine ⟨a.tmod n, by unfold rem; rw [if_neg (by omega)], Int.tmod_nonneg _ ha, ?_⟩
  have := Int.tmod_lt_of_pos a (show (0 : Int) < n by omega); omega
theorem u64nn (n : Int) : 0 ≤ IntKind.u64.wrap n := by rw [IntKind.wrap_u64]; omega
theorem sends_law (a0 a1 a2 : Int) : l14_TransSends a0 a1 a2 = some true := by
  obtain ⟨k, q1, hk0, hk1⟩ := rem_nat (a := IntKind.u64.wrap a0) (n := 3) (by decide) (u64nn _)
  obtain ⟨v2, q2, h20, h21⟩ := rem_nat (a := IntKind.u64.wrap a1) (n := 16) (by decide) (u64nn _)
  obtain ⟨v3, q3, h30, h31⟩ := rem_nat (a := IntKind.u64.wrap a2) (n := 20) (by decide) (u64nn _)
  obtain ⟨a, qa, ha⟩ := StartS_law k (1 + v2)
  have it := sends_it (k := k) (v2 := v2) (v3 := v3) ha ⟨hk0, by omega⟩ ⟨h20, by omega⟩ ⟨h30, by omega⟩ v3.toNat 0 (by decide) (by omega) (fun _ => by omega)
  rw [show min (0 : Int) (1 + v2 + 1) = 0 by omega] at it
  unfold l14_TransSends
  rw [q1, sb, q2, sb, q3, sb, w64 (n := k) (by omega) (by omega), w64 (n := v2) (by omega) (by omega), w64 (n := 1 + v2) (by omega) (by omega)]
  show (queue_None (ch k (1 + v2)) >>= _) = _
  rw [QNone_law, sb]
  show (trans_Deaf (sS k (1 + v2)) >>= _) = _
  rw [Deaf_law, sb]
  show (trans_Start (sS k (1 + v2)) 0 >>= _) = _
  rw [qa, sb, it, sb, Sum.elim_inr, steps_law, sb, if_pos rfl]
  rfl
end Go.Proofs.Ytbebnddalipfhaa.Abs

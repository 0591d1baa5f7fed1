/- The plain law of TransErrors. -/
import Derived.Test.YtbebnddalipfhaaStepB
namespace Go.Proofs.Ytbebnddalipfhaa.Abs
open Go Go.RowKit
set_option linter.unusedVariables false
set_option linter.unusedSimpArgs false
/-- x is a number. -/
theorem Copy0_law {n : Nat} {v v' : Nat → Int} (hv : Va n v) (hv' : Va n v') {a : num_Num} (h : NSat n v a) (x : Nat) (hx : x < n) (by_ : Int) (hb : -1099511627776 ≤ by_ ∧ by_ ≤ 1099511627776) (he : ∀ i, i ≠ x + 1 → v' i = v i) (hc : v' (x + 1) = by_) :
    ∃ b, num_Copy a (x : Int) (-1) by_ = some b ∧ NSat n v' b := by
  have hn := hv.n6
  have ey : v' 0 = 0 := hv'.z
  obtain ⟨z1, q1, s1, _⟩ := forget_law hv hv' h.z (x + 1) (by omega) he
  obtain ⟨⟨N2, b2, D2⟩, q2, s2, _⟩ := close_law hv' s1
  have s3 := s2.put (k := x + 1) (l := 0) (x := by_) (by omega) hb.2
  have s4 := s3.put (k := 0) (l := x + 1) (x := - by_) (by omega) (by omega)
  obtain ⟨z5, q5, s5, _⟩ := close_law hv' s4
  refine ⟨⟨false, nI z5 n, z5⟩, ?_, nsat_of s5⟩
  have hmm : min (max by_ (-1099511627776)) 1099511627776 = by_ := by omega
  have oy := orNought_ok hv h.z (y := 0) (by omega)
  rw [show (((0 : Nat) : Int) - 1) = -1 by omega] at oy
  have hw : IntKind.i64.wrap (0 - by_) = - by_ := by rw [w64 (by omega) (by omega)]; omega
  have h0 : IntKind.i64.wrap (-1 + 1) = ((0 : Nat) : Int) := rfl
  unfold num_Copy zone_Copy
  rw [variable_ok hv h.z hx, sb, if_neg (by simp), oy, sb, sb, if_neg (by simp), if_neg (by simp), wsucc (by omega), h0, q1, sb, q2, sb, inA_nat (show x + 1 < 7 by omega), inA_nat (show 0 < 7 by omega), hmm, hw]
  simp only [sb]
  rw [q5, sb, sb, of_law hv' s5]; rfl
theorem Eval_num {a : num_Num} (ha : a.None = false) {n : Int} (hn : In n) : eval_Eval (xN n) a = some (pt n, no) :=
  unf_at 1 (fun m => EvalN_num ha hn m) fun m hm => by
    have : m = 0 := by omega
    subst this; rw [eval_EvalN]
theorem linear_num {n : Int} (hn : 0 ≤ n ∧ n ≤ 2147483647) : eval_linear (xN n) = some (⟨-1, n⟩, true) :=
  unf_at 1 (fun m => linearN_num hn m) fun m hm => by
    have : m = 0 := by omega
    subst this; rw [eval_linearN]
def C0 : check_Cond := ⟨0, ⟨0, 0, 0, []⟩, ⟨0, 0, 0, []⟩⟩
def ed3 : flow_Edge := ⟨0, 1, 1, 0, 0, 0, xN 3, C0⟩
theorem Assign3 {a : num_Num} (h : Pt 1 (fun _ => 0) 1 a) : ∃ b, eval_Assign a 0 (xN 3) = some (b, no) ∧ b.I = [pt 3] ∧ b.None = false := by
  have hv : Va 1 (fun _ => 0) := ⟨by decide, rfl, fun _ _ => by constructor <;> decide⟩
  have hv' : Va 1 (fun i => if i = 1 then 3 else 0) := ⟨by decide, rfl, fun i _ => by split <;> constructor <;> decide⟩
  obtain ⟨b1, q1, s1⟩ := Copy0_law hv hv' h.s 0 (by decide) 3 (by decide) (fun i hi => by rw [if_neg (by omega)]) rfl
  obtain ⟨z, q2, s2, _, u, d⟩ := held_law hv' s1.z 0 (by decide) (pt 3) (show IHas (pt 3) 3 from has_pt) ⟨by decide, by decide⟩
  have hp : Pt 1 (fun i => if i = 1 then 3 else 0) 1 ⟨false, nI z 1, z⟩ := ⟨nsat_of s2, fun x hx => by
    have : x = 0 := by omega
    subst this; exact u, fun x hx => by
    have : x = 0 := by omega
    subst this; exact d⟩
  refine ⟨⟨false, nI z 1, z⟩, ?_, hp.I hv', rfl⟩
  unfold eval_Assign
  rw [Eval_num h.s.none ⟨by decide, by decide⟩, sb, emp_pt, sb, if_neg (by simp)]
  have hl : eval_Linear (xN 3) = some (-1, 3, true) := by
    unfold eval_Linear
    rw [linear_num ⟨by decide, by decide⟩]; rfl
  rw [hl, sb, if_pos rfl]
  show (num_Copy a ((0 : Nat) : Int) (-1) 3 >>= _) = _
  rw [q1, sb]
  have hm : num_Meet b1 0 (pt 3) = some ⟨false, nI z 1, z⟩ := by
    unfold num_Meet
    show (num_held b1.Z ((0 : Nat) : Int) (pt 3) >>= _) = _
    rw [q2, sb, of_law hv' s2]; rfl
  show (num_Meet b1 0 (pt 3) >>= _) = _
  rw [hm]; rfl
theorem steps_law : l14_steps = some true := by
  obtain ⟨a, qa, pa⟩ := Start_law ed3 (n := 1) (by decide)
  obtain ⟨b, qb, hI, hn⟩ := Assign3 pa
  obtain ⟨s, qs, hk, hsn, _, hN⟩ := assign_step (e := ed3) (n := 1) (by decide) rfl qb
  have hst := Step_law (e := ed3) (n := 1) pa.s.none qs
  obtain ⟨t, qt, ht⟩ := NoneS_law ed3 (n := 1) (by decide)
  have hN' := hN hn
  unfold l14_steps
  show (trans_Start (sys ed3 ((1 : Nat) : Int)) 0 >>= _) = _
  rw [qa, sb]
  show (trans_Step (wrl ed3 1) 0 0 ⟨a, [], []⟩ >>= _) = _
  rw [hst, sb]
  have c1 : trans_Empty s.f_a = some false := by unfold trans_Empty; rw [hN', hn]
  simp only [c1, sb, hN', hI, hsn, hk]
  show ((trans_None (sys ed3 ((1 : Nat) : Int)) 0 >>= fun v11 => trans_Empty v11 >>= fun v13 => some v13) >>= fun j1 => some j1) = some true
  rw [qt, sb]
  unfold trans_Empty
  rw [ht]; rfl
/-! ### the law -/
theorem l1_0 {a0 : Nat → Int} {v1 v2 : Int} (hx : In (a0 0)) (hy : In (a0 1)) (h1 : 0 ≤ v1 ∧ v1 ≤ 2147483647) (h2 : 0 ≤ v2 ∧ v2 ≤ 4) : l14_TransErrors_l1 a0 v1 v2 0 = some (.inl 1) := by
  have x1 := hx.lo; have x2 := hx.hi; have y1 := hy.lo; have y2 := hy.hi
  unfold l14_TransErrors_l1
  rw [w64 (n := a0 0) (by omega) (by omega), w64 (n := a0 1) (by omega) (by omega), w64 (n := v1) (by omega) (by omega), w64 (n := v2) (by omega) (by omega), w64 (n := 4 + v2) (by omega) (by omega)]
  generalize a0 0 = x at *
  generalize a0 1 = y at *
  have hk : 4 ≤ 4 + v2 ∧ 4 + v2 ≤ 8 := by omega
  generalize 4 + v2 = k at hk
  obtain ⟨e, he⟩ : ∃ e : flow_Edge, e = ⟨0, 1, 1, 1, 0, 0, xO k v1, C0⟩ := ⟨_, rfl⟩
  obtain ⟨a, qa, _⟩ := Start_law e (n := 2) (by decide)
  obtain ⟨_, r, qr, pr⟩ := row_law [x, y] (Nat.le_of_ble_eq_true rfl) fun z hz => by
    simp only [List.mem_cons, List.not_mem_nil, or_false] at hz
    rcases hz with rfl | rfl <;> constructor <;> assumption
  replace pr : Pt 2 (va [x, y] 2) 2 r := pr
  obtain ⟨b, qb, hb⟩ := Assign_law hx hy hk h1 pr
  obtain ⟨s, qs, hkd, _, hNn, hN⟩ := assign_step (e := e) (n := 2) (by decide) (by rw [he]) (er := (ansV (opV k x v1)).2) (b := b) (a := r) (by rw [he]; exact qb)
  have hst := Step_law (e := e) (n := 2) pr.s.none qs
  have hr7 := r07_two (q := y) hk hx h1
  rw [if_pos (by decide), show lsub [flow_Edge.mk 0 1 1 1 0 0 (check_Expr.mk k 0 0 [check_Expr.mk 2 0 0 [], check_Expr.mk 1 v1 0 []]) (check_Cond.mk 0 (check_Expr.mk 0 0 0 []) (check_Expr.mk 0 0 0 [])), flow_Edge.mk 0 1 5 0 0 0 (check_Expr.mk 0 0 0 []) (check_Cond.mk 3 (check_Expr.mk 2 0 0 []) (check_Expr.mk 2 0 1 []))] 0 (IntKind.i64.wrap (0 + 1)) = some [e] by rw [he]; rfl, sb]
  show ((trans_Start (sys e ((2 : Nat) : Int)) 0 >>= _) >>= _) = _
  rw [qa, sb, qr, sb, sb]
  show ((trans_Step (wrl e 2) 0 0 ⟨r, [], []⟩ >>= _) >>= _) = _
  rw [hst, sb]
  show ((r07_Eval (rO k v1) [x, y] >>= _) >>= _) = _
  rw [hr7, sb, if_neg (by decide), sb]
  have hans : ∀ r : Int × Int, (ansV r).2 = ⟨decide (r.2 = 2), decide (r.2 = 3)⟩ := fun r => by
    unfold ansV
    split
    · rename_i c; rw [c]; rfl
    · rfl
  rw [hans] at hkd
  have hcode : (opV k x v1).2 = 0 ∨ (opV k x v1).2 = 2 ∨ (opV k x v1).2 = 3 := by
    have hr : ∀ m, (rng m).2 = 0 ∨ (rng m).2 = 2 := fun m => by unfold rng; split <;> simp
    unfold opV
    repeat' split
    all_goals first | exact (hr _).elim .inl (fun h => .inr (.inl h)) | exact .inr (.inr rfl)
  rcases hb with ⟨hne, hbn⟩ | ⟨hz, hs⟩
  · have c0 : trans_Empty s.f_a = some true := by unfold trans_Empty; rw [hNn, hbn]
    rw [if_pos (by simp; omega), c0, sb, if_neg (by simp)]
    rcases hcode with c | c | c
    · exact absurd c hne
    · simp only [c] at hkd ⊢
      rw [hkd]; rfl
    · simp only [c] at hkd ⊢
      rw [hkd]; rfl
  · rw [if_neg (by simp; omega)]
    simp only [hz] at hkd
    simp only [hkd]
    have hn' : b.None = false := hs.none
    have hH := Has_law (va_ok hx (opV_in hz).1) hs (vals := [x, (opV k x v1).1]) rfl (fun i z hz => by
      match i, hz with
      | 0, h => exact Option.some.inj h
      | 1, h => exact Option.some.inj h
      | i + 2, h => exact absurd h (by simp))
    rw [if_neg (by decide), show idx [x, y] 0 = some x from rfl, sb, hN hn', hH]; rfl
theorem l1_1 {a0 : Nat → Int} {v1 v2 : Int} (hx : In (a0 0)) (hy : In (a0 1)) (h1 : 0 ≤ v1 ∧ v1 ≤ 2147483647) (h2 : 0 ≤ v2 ∧ v2 ≤ 4) : l14_TransErrors_l1 a0 v1 v2 1 = some (.inl 2) := by
  have x1 := hx.lo; have x2 := hx.hi; have y1 := hy.lo; have y2 := hy.hi
  unfold l14_TransErrors_l1
  rw [w64 (n := a0 0) (by omega) (by omega), w64 (n := a0 1) (by omega) (by omega), w64 (n := v1) (by omega) (by omega), w64 (n := v2) (by omega) (by omega), w64 (n := 4 + v2) (by omega) (by omega)]
  generalize a0 0 = x at *
  generalize a0 1 = y at *
  have hk : 4 ≤ 4 + v2 ∧ 4 + v2 ≤ 8 := by omega
  generalize 4 + v2 = k at hk
  obtain ⟨e, he⟩ : ∃ e : flow_Edge, e = ⟨0, 1, 5, 0, 0, 0, ⟨0, 0, 0, []⟩, ⟨3, xV 0, xV 1⟩⟩ := ⟨_, rfl⟩
  obtain ⟨a, qa, _⟩ := Start_law e (n := 2) (by decide)
  obtain ⟨_, r, qr, pr⟩ := row_law [x, y] (Nat.le_of_ble_eq_true rfl) fun z hz => by
    simp only [List.mem_cons, List.not_mem_nil, or_false] at hz
    rcases hz with rfl | rfl <;> constructor <;> assumption
  replace pr : Pt 2 (va [x, y] 2) 2 r := pr
  obtain ⟨b, qb, hb⟩ := Assume_law hx hy (op := 3) (.inl rfl) pr
  obtain ⟨c, qc, hc⟩ := Assume_law hx hy (op := 6) (.inr rfl) pr
  obtain ⟨s, qs, hkd, hNn, hN⟩ := assert_step (e := e) (n := 2) (by decide) (a := r) (b := b) (c := c) (by rw [he]) (by rw [he]) (by rw [he]; exact qb) (by rw [he]; exact qc)
  have hst := Step_law (e := e) (n := 2) pr.s.none qs
  have hr7 := r07_two (q := y) hk hx h1
  rw [if_pos (by decide), show lsub [flow_Edge.mk 0 1 1 1 0 0 (check_Expr.mk k 0 0 [check_Expr.mk 2 0 0 [], check_Expr.mk 1 v1 0 []]) (check_Cond.mk 0 (check_Expr.mk 0 0 0 []) (check_Expr.mk 0 0 0 [])), flow_Edge.mk 0 1 5 0 0 0 (check_Expr.mk 0 0 0 []) (check_Cond.mk 3 (check_Expr.mk 2 0 0 []) (check_Expr.mk 2 0 1 []))] 1 (IntKind.i64.wrap (1 + 1)) = some [e] by rw [he]; rfl, sb]
  show ((trans_Start (sys e ((2 : Nat) : Int)) 0 >>= _) >>= _) = _
  rw [qa, sb, qr, sb, sb]
  show ((trans_Step (wrl e 2) 0 0 ⟨r, [], []⟩ >>= _) >>= _) = _
  rw [hst, sb]
  show ((r07_Eval (rO k v1) [x, y] >>= _) >>= _) = _
  rw [hr7, sb, if_pos (by decide), show idx [x, y] 0 = some x from rfl, show idx [x, y] 1 = some y from rfl, sb, sb, sb]
  rw [if_pos rfl] at hb
  rw [if_neg (by decide)] at hc
  by_cases hxy : y ≤ x
  · have hc' : c.None = false := by
      rcases hc with ⟨h, _⟩ | ⟨_, h⟩
      · exact absurd hxy h
      · exact h.none
    have hb' : b.None = true := by
      rcases hb with ⟨_, h⟩ | ⟨h, _⟩
      · exact h
      · omega
    have c0 : trans_Empty s.f_a = some true := by unfold trans_Empty; rw [hNn, hb']
    rw [hc'] at hkd
    rw [if_pos (by simpa using hxy), sb, if_pos (show decide ((1 : Int) > 0) = true from rfl), c0, sb, if_neg (by simp), hkd]; rfl
  · have hc' : c.None = true := by
      rcases hc with ⟨_, h⟩ | ⟨h, _⟩
      · exact h
      · exact absurd h hxy
    have hb' : NSat 2 (va [x, y] 2) b := by
      rcases hb with ⟨h, _⟩ | ⟨_, h⟩
      · omega
      · exact h
    rw [hc', if_pos rfl] at hkd
    have hH := Has_law (va_ok hx hy) hb' (vals := [x, y]) rfl (fun i z hz => by
      match i, hz with
      | 0, h => exact Option.some.inj h
      | 1, h => exact Option.some.inj h
      | i + 2, h => exact absurd h (by simp))
    rw [if_neg (by simpa using hxy), sb, if_neg (show ¬ decide ((0 : Int) > 0) = true by decide), hkd, if_neg (show ¬ ((([] : List Int).length : Int) != 0) = true by decide), sb, hN hb'.none, hH]; rfl
theorem errors_law {a0 a1 : Nat → Int} {a2 : Int} (hx : In (a0 0)) (hy : In (a0 1)) : l14_TransErrors a0 a1 a2 = some true := by
  unfold l14_TransErrors
  have hr1 : ∃ v1, rem (IntKind.u32.wrap (a1 0)) 2147483648 = some v1 ∧ 0 ≤ v1 ∧ v1 ≤ 2147483647 := by
    have h0 : 0 ≤ IntKind.u32.wrap (a1 0) := by rw [IntKind.wrap_u32]; omega
    refine ⟨(IntKind.u32.wrap (a1 0)).tmod 2147483648, by unfold rem; rw [if_neg (by decide)], ?_, ?_⟩
    · exact Int.tmod_nonneg _ h0
    · have := Int.tmod_lt_of_pos (IntKind.u32.wrap (a1 0)) (show (0 : Int) < 2147483648 by decide); omega
  have hr2 : ∃ v2, rem (IntKind.u64.wrap a2) 5 = some v2 ∧ 0 ≤ v2 ∧ v2 ≤ 4 := by
    have h0 : 0 ≤ IntKind.u64.wrap a2 := by rw [IntKind.wrap_u64]; omega
    refine ⟨(IntKind.u64.wrap a2).tmod 5, by unfold rem; rw [if_neg (by decide)], ?_, ?_⟩
    · exact Int.tmod_nonneg _ h0
    · have := Int.tmod_lt_of_pos (IntKind.u64.wrap a2) (show (0 : Int) < 5 by decide); omega
  obtain ⟨v1, q1, h1⟩ := hr1
  obtain ⟨v2, q2, h2⟩ := hr2
  rw [q1, sb, q2, sb, iter_eq, l1_0 hx hy h1 h2]
  show (iter _ 1 >>= _) = _
  rw [iter_eq, l1_1 hx hy h1 h2]
  show (iter _ 2 >>= _) = _
  rw [iter_eq, show l14_TransErrors_l1 a0 v1 v2 2 = some (.inr (.inr ())) by unfold l14_TransErrors_l1; rfl]
  show (l14_steps >>= _) = _
  rw [steps_law]; rfl
end Go.Proofs.Ytbebnddalipfhaa.Abs

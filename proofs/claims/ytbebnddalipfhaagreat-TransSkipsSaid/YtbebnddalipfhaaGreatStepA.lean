/- Plain laws of steps at one row of two numbers: assign and assume. -/
import Derived.Test.YtbebnddalipfhaaGreatEvalB
namespace Go.Proofs.YtbebnddalipfhaaGreat.Abs
open Go Go.RowKit
set_option linter.unusedVariables false
set_option linter.unusedSimpArgs false
theorem va0 (x y : Int) : va [x, y] 2 0 = 0 := rfl
theorem va1 (x y : Int) : va [x, y] 2 1 = x := rfl
theorem va2 (x y : Int) : va [x, y] 2 2 = y := rfl
theorem va_ok {x y : Int} (hx : In x) (hy : In y) : Va 2 (va [x, y] 2) := by
  refine (row_law [x, y] (Nat.le_of_ble_eq_true rfl) fun z hz => ?_).1
  simp only [List.mem_cons, List.not_mem_nil, or_false] at hz
  rcases hz with rfl | rfl
  · exact ⟨hx.lo, hx.hi⟩
  · exact ⟨hy.lo, hy.hi⟩
theorem va_eq {x y y' : Int} (i : Nat) (h : i ≠ 1 + 1) : va [x, y'] 2 i = va [x, y] 2 i := by
  match i, h with
  | 0, _ => rfl
  | 1, _ => rfl
  | i + 3, _ => unfold va; rw [if_pos (by omega), if_pos (by omega)]
theorem Pt.at {x y : Int} (hx : In x) (hy : In y) {a : num_Num} (h : Pt 2 (va [x, y] 2) 2 a) : a.I = [pt x, pt y] := by
  rw [h.I (va_ok hx hy)]; rfl
theorem emp_ans {r : Int × Int} : itv_Empty (ansV r).1 = some (decide (r.2 ≠ 0)) := by
  unfold itv_Empty ansV pt
  split
  · rename_i e; simp [e]
  · rename_i e; simp [e]
theorem opV_in {k p n : Int} (h : (opV k p n).2 = 0) : In (opV k p n).1 ∧ (k = 4 → (opV k p n).1 = p + n) ∧ (k = 5 → (opV k p n).1 = p - n) := by
  have hr : ∀ m, (rng m).2 = 0 → In (rng m).1 ∧ (rng m).1 = m := fun m hm => by
    unfold rng at hm ⊢
    split
    · rename_i c; rw [if_pos c] at hm; exact absurd hm (by decide)
    · rename_i c; exact ⟨⟨by simp only; omega, by simp only; omega⟩, rfl⟩
  unfold opV at h ⊢
  split
  · rename_i e
    rw [if_pos e] at h
    exact ⟨(hr _ h).1, fun _ => (hr _ h).2, fun c => by omega⟩
  · rename_i e
    rw [if_neg e] at h
    split
    · rename_i e
      rw [if_pos e] at h
      exact ⟨(hr _ h).1, fun c => by omega, fun _ => (hr _ h).2⟩
    · rename_i e5
      rw [if_neg e5] at h
      refine ⟨?_, fun c => by omega, fun c => by omega⟩
      split
      · rename_i e; rw [if_pos e] at h; exact (hr _ h).1
      · rename_i e
        rw [if_neg e] at h
        split
        · rename_i e; rw [if_pos e] at h; exact absurd h (by decide)
        · rename_i e
          rw [if_neg e] at h
          split
          · rename_i e; rw [if_pos e] at h; exact (hr _ h).1
          · rename_i e; rw [if_neg e] at h; exact (hr _ h).1
theorem has_pt {m : Int} : IHas (pt m) m := ⟨Int.le_refl _, Int.le_refl _⟩
theorem Assign_law {k x y n : Int} (hx : In x) (hy : In y) (hk : 4 ≤ k ∧ k ≤ 8) (hn : 0 ≤ n ∧ n ≤ 2147483647) {a : num_Num} (h : Pt 2 (va [x, y] 2) 2 a) :
    ∃ b, eval_Assign a 1 (xO k n) = some (b, (ansV (opV k x n)).2) ∧ (((opV k x n).2 ≠ 0 ∧ b.None = true) ∨ ((opV k x n).2 = 0 ∧ NSat 2 (va [x, (opV k x n).1] 2) b)) := by
  have hv := va_ok hx hy
  have ha := h.s.none
  have hI := h.at hx hy
  have ev := Eval_two (a := a) ha (k := k) (p := x) (n := n) (by rw [hI]; rfl) hk hx hn
  unfold eval_Assign
  rw [ev, sb, emp_ans, sb]
  by_cases e : (opV k x n).2 = 0
  · obtain ⟨hm, h4, h5⟩ := opV_in e
    have hv' := va_ok hx hm
    have hans : ansV (opV k x n) = (pt (opV k x n).1, no) := by unfold ansV; rw [if_pos e]; rfl
    have hmlo := hm.lo; have hmhi := hm.hi
    rw [if_neg (by simpa using e), Linear_two hk hn, sb, hans]
    simp only
    by_cases c : k = 4 ∨ k = 5
    · have hl : ∃ d, linV k n = (0, d, true) ∧ (opV k x n).1 = x + d ∧ -2147483648 ≤ d ∧ d ≤ 2147483648 := by
        unfold linV
        by_cases k4 : k = 4
        · exact ⟨n, if_pos k4, h4 k4, by omega, by omega⟩
        · have k5 : k = 5 := by omega
          exact ⟨-n, by rw [if_neg k4, if_pos k5], by rw [h5 k5]; omega, by omega, by omega⟩
      obtain ⟨d, hd, hxd, hd1, hd2⟩ := hl
      obtain ⟨b, q1, s1⟩ := Copy_law (v' := va [x, (opV k x n).1] 2) hv hv' h.s 1 0 (by decide) (by decide) (by decide) d (by omega) (fun i hi => va_eq i hi) hxd
      obtain ⟨b2, q2, s2, _⟩ := Meet_law hv' s1 1 (by decide) (pt (opV k x n).1) has_pt ⟨hmlo, by unfold pt; simp only; omega⟩
      refine ⟨b2, ?_, .inr ⟨e, s2⟩⟩
      rw [hd, if_pos rfl]
      show (num_Copy a ((1 : Nat) : Int) ((0 : Nat) : Int) d >>= _) = _
      rw [q1, sb]
      show (num_Meet b ((1 : Nat) : Int) (pt (opV k x n).1) >>= _) = _
      rw [q2]; rfl
    · have hl : linV k n = (0, 0, false) := by unfold linV; rw [if_neg (by omega), if_neg (by omega)]
      obtain ⟨b, q1, s1, _⟩ := Set_law (v' := va [x, (opV k x n).1] 2) hv hv' h.s 1 (by decide) (fun i hi => va_eq i hi) (pt (opV k x n).1) has_pt ⟨hmlo, by unfold pt; simp only; omega⟩
      refine ⟨b, ?_, .inr ⟨e, s1⟩⟩
      rw [hl, if_neg (by simp)]
      show (num_Set a ((1 : Nat) : Int) (pt (opV k x n).1) >>= _) = _
      rw [q1]; rfl
  · obtain ⟨b, q, hb⟩ := None_law (n := 2) (by decide)
    refine ⟨b, ?_, .inl ⟨e, hb⟩⟩
    rw [if_pos (by simpa using e), hI]
    show (num_None ((2 : Nat) : Int) >>= _) = _
    rw [q]; rfl
/-! ### conditions -/
theorem mt_pt {x : Int} {i : itv_Itv} : mt (pt x) i = if i.Lo ≤ x ∧ x ≤ i.Hi then pt x else ⟨1, 0⟩ := by
  unfold mt nm pt
  simp only
  split
  · rename_i c; rw [if_neg (by omega)]
  · rename_i c
    split
    · rename_i d; rw [if_neg (by omega)]
    · rename_i d
      rw [if_pos (by omega)]
      simp only [itv_Itv.mk.injEq]; omega
theorem ivO_mem {x lo hi : Int} (hx : In x) : ((ivO lo hi).Lo ≤ x ∧ x ≤ (ivO lo hi).Hi) ↔ (lo ≤ x ∧ x ≤ hi) := by
  have x1 := hx.lo; have x2 := hx.hi
  unfold ivO
  split
  · simp only; omega
  · simp only; omega
theorem below_pt {x y d : Int} (hx : In x) (hy : In y) (hd : 0 ≤ d ∧ d ≤ 1) : itv_below (pt x) (pt y) d = some (if x + d ≤ y then pt x else ⟨1, 0⟩) := by
  have x1 := hx.lo; have x2 := hx.hi; have y1 := hy.lo; have y2 := hy.hi
  unfold itv_below
  rw [show IntKind.i64.wrap ((pt y).Hi - d) = y - d from w64 (by unfold pt; simp only; omega) (by unfold pt; simp only; omega), itv_Of_eq, sb, Meet_eq, sb, mt_pt]
  simp only [ivO_mem hx]
  congr 1
  by_cases c : x + d ≤ y
  · rw [if_pos (by omega), if_pos c]
  · rw [if_neg (by omega), if_neg c]
theorem above_pt {x y d : Int} (hx : In x) (hy : In y) (hd : 0 ≤ d ∧ d ≤ 1) : itv_above (pt x) (pt y) d = some (if y + d ≤ x then pt x else ⟨1, 0⟩) := by
  have x1 := hx.lo; have x2 := hx.hi; have y1 := hy.lo; have y2 := hy.hi
  unfold itv_above
  rw [show IntKind.i64.wrap ((pt y).Lo + d) = y + d from w64 (by unfold pt; simp only; omega) (by unfold pt; simp only; omega), itv_Of_eq, sb, Meet_eq, sb, mt_pt]
  simp only [ivO_mem hx]
  congr 1
  by_cases c : y + d ≤ x
  · rw [if_pos (by omega), if_pos c]
  · rw [if_neg (by omega), if_neg c]
theorem emp_pt (m : Int) : itv_Empty (pt m) = some false := by unfold itv_Empty pt; simp
def ite2 (c : Prop) [Decidable c] (x y : Int) : itv_Itv × itv_Itv := if c then (pt x, pt y) else (⟨1, 0⟩, ⟨1, 0⟩)
theorem Test_lt {x y : Int} (hx : In x) (hy : In y) : itv_Test 3 (pt x) (pt y) = some (ite2 (x < y) x y) := by
  unfold itv_Test
  rw [show itv_All = some ⟨-2147483648, 2147483647⟩ from rfl, sb, Meet_eq, sb, sb, Meet_eq, sb, mt_all hx, mt_all hy, emp_pt, sb, if_neg (by simp), emp_pt, sb, sb, if_neg (by simp), if_neg (by decide), if_neg (by decide), if_pos (by decide), below_pt hx hy ⟨by decide, by decide⟩, sb, above_pt hy hx ⟨by decide, by decide⟩, sb]
  unfold ite2
  by_cases c : x < y
  · rw [if_pos (by omega), if_pos (by omega), if_pos c]
  · rw [if_neg (by omega), if_neg (by omega), if_neg c]
theorem Test_ge {x y : Int} (hx : In x) (hy : In y) : itv_Test 6 (pt x) (pt y) = some (ite2 (y ≤ x) x y) := by
  unfold itv_Test
  rw [show itv_All = some ⟨-2147483648, 2147483647⟩ from rfl, sb, Meet_eq, sb, sb, Meet_eq, sb, mt_all hx, mt_all hy, emp_pt, sb, if_neg (by simp), emp_pt, sb, sb, if_neg (by simp), if_neg (by decide), if_neg (by decide), if_neg (by decide), if_neg (by decide), if_neg (by decide), if_pos (by decide), above_pt hx hy ⟨by decide, by decide⟩, sb, below_pt hy hx ⟨by decide, by decide⟩, sb]
  unfold ite2
  by_cases c : y ≤ x
  · rw [if_pos (by omega), if_pos (by omega), if_pos c]
  · rw [if_neg (by omega), if_neg (by omega), if_neg c]
theorem Assume_law {x y op : Int} (hx : In x) (hy : In y) (hop : op = 3 ∨ op = 6) {a : num_Num} (h : Pt 2 (va [x, y] 2) 2 a) :
    ∃ b, eval_Assume a ⟨op, xV 0, xV 1⟩ = some (b, no) ∧ ((¬ (if op = 3 then x < y else y ≤ x) ∧ b.None = true) ∨ ((if op = 3 then x < y else y ≤ x) ∧ NSat 2 (va [x, y] 2) b)) := by
  have hv := va_ok hx hy
  have ha := h.s.none
  have hI := h.at hx hy
  have x1 := hx.lo; have x2 := hx.hi; have y1 := hy.lo; have y2 := hy.hi
  have e0 := Eval_var ha (x := 0) (i := pt x) (by rw [hI]; rfl)
  have e1 := Eval_var ha (x := 1) (i := pt y) (by rw [hI]; rfl)
  have hs : eval_sides a ⟨op, xV 0, xV 1⟩ = some (pt x, pt y, no) := by
    unfold eval_sides
    show (eval_Eval (xV ((0 : Nat) : Int)) a >>= _) = _
    rw [e0, sb, emp_pt, sb, if_neg (by simp)]
    show (eval_Eval (xV ((1 : Nat) : Int)) a >>= _) = _
    rw [e1, sb, either_no]; rfl
  have ht : itv_Test op (pt x) (pt y) = some (ite2 (if op = 3 then x < y else y ≤ x) x y) := by
    rcases hop with rfl | rfl
    · rw [Test_lt hx hy]; simp
    · rw [Test_ge hx hy]; simp
  unfold eval_Assume
  rw [hs, sb]
  simp only [ht, sb]
  unfold ite2
  by_cases c : (if op = 3 then x < y else y ≤ x)
  · simp only [if_pos c, emp_pt, sb]
    obtain ⟨b1, q1, s1, _⟩ := Meet_law hv h.s 0 (by decide) (pt x) (has_pt (m := x)) ⟨x1, by unfold pt; simp only; omega⟩
    obtain ⟨b2, q2, s2, _⟩ := Meet_law hv s1 1 (by decide) (pt y) (has_pt (m := y)) ⟨y1, by unfold pt; simp only; omega⟩
    have hm : ∀ m, In m → eval_moved (pt m) 0 = some (pt m) := fun m hm => by
      have := hm.lo; have := hm.hi
      unfold eval_moved pt
      simp only
      rw [w64 (by omega) (by omega), Int.sub_zero]
    have h1 : eval_held a ⟨0, 0⟩ (pt x) = some b1 := by
      unfold eval_held
      rw [if_neg (by simp), hm x hx, sb]
      show (num_Meet a ((0 : Nat) : Int) (pt x) >>= _) = _
      rw [q1]; rfl
    have h2 : eval_held b1 ⟨1, 0⟩ (pt y) = some b2 := by
      unfold eval_held
      rw [if_neg (by simp), hm y hy, sb]
      show (num_Meet b1 ((1 : Nat) : Int) (pt y) >>= _) = _
      rw [q2]; rfl
    have h3 : ∃ b3, eval_compared b2 op ⟨0, 0⟩ ⟨1, 0⟩ = some b3 ∧ NSat 2 (va [x, y] 2) b3 := by
      rcases hop with rfl | rfl
      · rw [if_pos rfl] at c
        obtain ⟨b3, q3, s3, _⟩ := NBound_law hv s2 1 2 (by decide) (by decide) (-1) (by rw [va1, va2]; omega) 0 1 rfl rfl
        refine ⟨b3, ?_, s3⟩
        unfold eval_compared eval_below
        rw [if_neg (by decide), if_pos (by decide), if_neg (by simp)]
        show ((num_Bound b2 0 1 (-1) >>= _) >>= _) = _
        rw [q3]; rfl
      · rw [if_neg (by decide)] at c
        obtain ⟨b3, q3, s3, _⟩ := NBound_law hv s2 2 1 (by decide) (by decide) 0 (by rw [va1, va2]; omega) 1 0 rfl rfl
        refine ⟨b3, ?_, s3⟩
        unfold eval_compared eval_below
        rw [if_neg (by decide), if_neg (by decide), if_neg (by decide), if_neg (by decide), if_pos (by decide), if_neg (by simp)]
        show ((num_Bound b2 1 0 0 >>= _) >>= _) = _
        rw [q3]; rfl
    obtain ⟨b3, q3, s3⟩ := h3
    refine ⟨b3, ?_, .inr ⟨c, s3⟩⟩
    rw [if_neg (by simp), sb, if_neg (by simp), linear_var, sb, linear_var, sb]
    simp only [if_true, h1, h2, q3, sb]
  · obtain ⟨b, q, hb⟩ := None_law (n := 2) (by decide)
    refine ⟨b, ?_, .inl ⟨c, hb⟩⟩
    simp only [if_neg c]
    rw [show itv_Empty ⟨1, 0⟩ = some true from rfl, sb, if_pos rfl, sb, if_pos rfl, hI]
    show (num_None ((2 : Nat) : Int) >>= _) = _
    rw [q]; rfl
end Go.Proofs.YtbebnddalipfhaaGreat.Abs

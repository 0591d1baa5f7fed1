/- Plain laws of expressions: the Itv of one operation at one row of numbers, and what the reference says of it. -/
import Derived.Test.YtbebnddalipfhaaEvalA
namespace Go.Proofs.Ytbebnddalipfhaa.Abs
open Go Go.RowKit
set_option linter.unusedVariables false
set_option linter.unusedSimpArgs false
theorem unf_at {O : Type} {f : Nat → Option O} {r : O} (k : Nat) (h : ∀ m, f (m + k) = some r) (h0 : ∀ m, m < k → f m = none) : unf f = some r := by
  refine unf_of k (by simpa using h 0) fun m s hs => ?_
  by_cases c : m < k
  · rw [h0 m c] at hs; exact absurd hs (by simp)
  · have e := h (m - k)
    rw [Nat.sub_add_cancel (by omega), hs] at e
    exact Option.some.inj e
def xV (x : Int) : check_Expr := ⟨2, 0, x, []⟩
def xN (n : Int) : check_Expr := ⟨1, n, 0, []⟩
def xO (k n : Int) : check_Expr := ⟨k, 0, 0, [xV 0, xN n]⟩
def no : itv_Errs := ⟨false, false⟩
theorem EvalN_var {a : num_Num} (ha : a.None = false) {x : Nat} {i : itv_Itv} (hi : a.I[x]? = some i) (m : Nat) : eval_EvalN (m + 1) (xV x) a = some (i, no) := by
  have hl : x < a.I.length := by
    rcases Nat.lt_or_ge x a.I.length with h | h
    · exact h
    · rw [List.getElem?_eq_none h] at hi; exact absurd hi (by simp)
  rw [eval_EvalN]
  unfold xV
  simp only [ha]
  rw [if_neg (by simp), if_neg (by decide), if_pos (by decide), if_pos (by simp), sb, if_pos (by simpa using hl), idx_nat hi]
  rfl
theorem EvalN_num {a : num_Num} (ha : a.None = false) {n : Int} (hn : In n) (m : Nat) : eval_EvalN (m + 1) (xN n) a = some (pt n, no) := by
  rw [eval_EvalN]
  unfold xN
  simp only [ha]
  rw [if_neg (by simp), if_pos (by decide), Const_pt hn]
  rfl
theorem either_no (e : itv_Errs) : eval_either no e = some e := by
  unfold eval_either no
  rw [if_neg (by simp), if_neg (by simp)]; rfl
theorem Eval_two {a : num_Num} (ha : a.None = false) {k p n : Int} (hi : a.I[0]? = some (pt p)) (hk : 4 ≤ k ∧ k ≤ 8) (hp : In p) (hn : 0 ≤ n ∧ n ≤ 2147483647) : eval_Eval (xO k n) a = some (ansV (opV k p n)) := by
  have htwo : ∀ m, eval_twoN (m + 2) (xO k n) a = some (ansV (opV k p n)) := fun m => by
    rw [eval_twoN]
    have k0 : idx (xO k n).Kids 0 = some (xV 0) := rfl
    have k1 : idx (xO k n).Kids 1 = some (xN n) := rfl
    have e : itv_Empty (pt p) = some false := by unfold itv_Empty pt; simp
    have v0 := EvalN_var ha (x := 0) hi m
    rw [show ((0 : Nat) : Int) = 0 from rfl] at v0
    rw [k0, sb, v0, sb, e, sb, if_neg (by simp), k1, sb, EvalN_num ha ⟨by omega, by omega⟩, sb, either_no, sb]
    show (itv_Do k (pt p) (pt n) >>= _) = _
    rw [do_pt hk hp hn, sb, either_no]
    rfl
  have hev : ∀ m, eval_EvalN (m + 1) (xO k n) a = (eval_twoN m (xO k n) a >>= fun v9 => some (v9.1, v9.2)) := fun m => by
    rw [eval_EvalN]
    have g1 : ¬ ((k == 1) = true) := by simp; omega
    have g2 : ¬ ((k == 2) = true) := by simp; omega
    have g3 : ¬ ((k == 3) = true) := by simp; omega
    have e1 : (xO k n).Kind = k := rfl
    have e2 : (((xO k n).Kids.length : Int) == 2) = true := rfl
    simp only [ha, e1, e2]
    rw [if_neg (by simp), if_neg g1, if_neg g2, sb, if_neg (by simp), if_neg g3, sb, if_neg (by simp), if_pos (by simpa using hk.1), if_pos (by simpa using hk.2), sb, if_pos rfl]
    cases eval_twoN m (xO k n) a <;> rfl
  refine unf_at 3 (fun m => ?_) fun m hm => ?_
  · show eval_EvalN (m + 2 + 1) _ _ = _
    rw [hev, htwo]; rfl
  · match m, hm with
    | 0, _ => rw [eval_EvalN]
    | 1, _ => rw [hev 0, eval_twoN]; rfl
    | 2, _ =>
      rw [hev 1, eval_twoN]
      have k0 : idx (xO k n).Kids 0 = some (xV 0) := rfl
      rw [k0, sb, eval_EvalN]; rfl
theorem Eval_var {a : num_Num} (ha : a.None = false) {x : Nat} {i : itv_Itv} (hi : a.I[x]? = some i) : eval_Eval (xV x) a = some (i, no) :=
  unf_at 1 (fun m => EvalN_var ha hi m) fun m hm => by
    have : m = 0 := by omega
    subst this; rw [eval_EvalN]
theorem linearN_var {x : Int} (m : Nat) : eval_linearN (m + 1) (xV x) = some (⟨x, 0⟩, true) := by
  rw [eval_linearN]; rfl
theorem linear_var {x : Int} : eval_linear (xV x) = some (⟨x, 0⟩, true) :=
  unf_at 1 (fun m => linearN_var m) fun m hm => by
    have : m = 0 := by omega
    subst this; rw [eval_linearN]
theorem linearN_num {n : Int} (hn : 0 ≤ n ∧ n ≤ 2147483647) (m : Nat) : eval_linearN (m + 1) (xN n) = some (⟨-1, n⟩, true) := by
  rw [eval_linearN]
  unfold xN
  simp only
  rw [if_pos (by decide), sb, if_pos (by rfl), sb, if_pos rfl, if_pos (by simp; omega), sb]
  have : decide (n ≥ -1099511627776) = true := decide_eq_true (by omega)
  rw [this]
def linV (k n : Int) : Int × Int × Bool := if k = 4 then (0, n, true) else if k = 5 then (0, -n, true) else (0, 0, false)
theorem Linear_two {k n : Int} (hk : 4 ≤ k ∧ k ≤ 8) (hn : 0 ≤ n ∧ n ≤ 2147483647) : eval_Linear (xO k n) = some (linV k n) := by
  have k0 : idx (xO k n).Kids 0 = some (xV 0) := rfl
  have k1 : idx (xO k n).Kids 1 = some (xN n) := rfl
  have g1 : ¬ ((k == 1) = true) := by simp; omega
  have g2 : ¬ ((k == 2) = true) := by simp; omega
  have e1 : (xO k n).Kind = k := rfl
  have e2 : (((xO k n).Kids.length : Int) == 2) = true := rfl
  by_cases h45 : k = 4 ∨ k = 5
  · have hb : ∃ b : Int, (b = if k = 5 then -n else n) ∧ -2147483647 ≤ b ∧ b ≤ 2147483647 := ⟨if k = 5 then -n else n, rfl, by split <;> omega, by split <;> omega⟩
    obtain ⟨b, hb, hb1, hb2⟩ := hb
    have hp : ∀ m, eval_pairN (m + 2) (xO k n) = some (⟨0, b⟩, true) := fun m => by
      rw [eval_pairN, k0, sb, linearN_var, sb, k1, sb, linearN_num hn, sb]
      show (some false >>= _) = _
      rw [sb, if_neg (by simp)]
      show (some false >>= _) = _
      rw [sb, if_neg (by simp), e1]
      by_cases k5 : k = 5
      · rw [if_pos (by simpa using k5)]
        show some (eval_form.mk 0 (IntKind.i64.wrap (0 - n)), true) = _
        rw [w64 (by omega) (by omega), hb, if_pos k5, Int.zero_sub]
      · rw [if_neg (by simpa using k5)]
        show some (eval_form.mk (max 0 (-1)) (IntKind.i64.wrap (0 + n)), true) = _
        rw [w64 (by omega) (by omega), hb, if_neg k5, Int.zero_add]; rfl
    have hl : ∀ m, eval_linearN (m + 1) (xO k n) = (eval_pairN m (xO k n) >>= fun v1 => (((if v1.2 then (if decide (v1.1.f_by ≤ 1099511627776) then some (decide (v1.1.f_by ≥ (-1099511627776))) else some false) else some false : Option Bool)) >>= fun j5 => some (eval_form.mk v1.1.f_v v1.1.f_by, j5))) := fun m => by
      rw [eval_linearN, e1, e2, if_neg g1, sb, if_neg (by simp), if_neg g2, sb, if_neg (by simp)]
      have : (if (k == 4) = true then some true else if (k == 5) = true then some true else some false) = some true := by
        rcases h45 with rfl | rfl <;> rfl
      rw [this, sb, if_pos rfl]
      cases eval_pairN m (xO k n) <;> rfl
    have hh : eval_linear (xO k n) = some (⟨0, b⟩, true) := by
      refine unf_at 3 (fun m => ?_) fun m hm => ?_
      · show eval_linearN (m + 2 + 1) _ = _
        rw [hl, hp, sb]
        simp only [if_true]
        rw [if_pos (by simp; omega), sb]
        have : decide (b ≥ -1099511627776) = true := decide_eq_true (by omega)
        rw [this]
      · match m, hm with
        | 0, _ => rw [eval_linearN]
        | 1, _ => rw [hl 0, eval_pairN]; rfl
        | 2, _ => rw [hl 1, eval_pairN, k0, sb, eval_linearN]; rfl
    unfold eval_Linear
    rw [hh, sb, if_neg (by simp)]
    unfold linV
    rcases h45 with rfl | rfl
    · rw [if_pos rfl, hb]; rfl
    · rw [if_neg (by decide), if_pos rfl, hb]; rfl
  · have hh : eval_linear (xO k n) = some (⟨-1, 0⟩, false) := by
      refine unf_at 1 (fun m => ?_) fun m hm => ?_
      · rw [eval_linearN, e1, e2, if_neg g1, sb, if_neg (by simp), if_neg g2, sb, if_neg (by simp)]
        have : (if (k == 4) = true then some true else if (k == 5) = true then some true else some false) = some false := by
          rw [if_neg (by simp; omega), if_neg (by simp; omega)]
        rw [this, sb, if_neg (by simp)]; rfl
      · have : m = 0 := by omega
        subst this; rw [eval_linearN]
    unfold eval_Linear
    rw [hh, sb, if_pos (show (!((eval_form.mk (-1) 0, false) : eval_form × Bool).2) = true from rfl)]
    unfold linV
    rw [if_neg (by omega), if_neg (by omega)]
theorem emp_pt (m : Int) : itv_Empty (pt m) = some false := by unfold itv_Empty pt; simp
theorem has_pt {m : Int} : IHas (pt m) m := ⟨Int.le_refl _, Int.le_refl _⟩
end Go.Proofs.Ytbebnddalipfhaa.Abs

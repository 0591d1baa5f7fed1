/- Plain laws of expressions at one row of numbers: an operation's Itv and errors are the reference's. -/
import Derived.Test.YtbebnddalipfhaaZoneC
namespace Go.Proofs.Ytbebnddalipfhaa.Abs
open Go Go.RowKit
set_option linter.unusedVariables false
set_option linter.unusedSimpArgs false
structure In (n : Int) : Prop where
  lo : -2147483648 ≤ n
  hi : n ≤ 2147483647
def pt (n : Int) : itv_Itv := ⟨n, n⟩
def rng (m : Int) : Int × Int := if m < -2147483648 ∨ m > 2147483647 then (0, 2) else (m, 0)
def opV (k p n : Int) : Int × Int :=
  if k = 4 then rng (p + n) else if k = 5 then rng (p - n) else if k = 6 then rng (p * n) else if n = 0 then (0, 3) else if k = 7 then rng (p.tdiv n) else rng (p.tmod n)
def ansV (r : Int × Int) : itv_Itv × itv_Errs := if r.2 = 0 then (pt r.1, ⟨false, false⟩) else (⟨1, 0⟩, ⟨decide (r.2 = 2), decide (r.2 = 3)⟩)
theorem Const_pt {n : Int} (h : In n) : itv_Const n = some (pt n) := by
  have := h.lo; have := h.hi
  unfold itv_Const
  rw [itv_Of_eq]
  unfold ivO pt
  rw [if_neg (by omega), sb, show max n (-2147483648) = n by omega, show min n 2147483647 = n by omega]
theorem cut_pt (m : Int) : itv_cut m m = some (ansV (rng m)) := by
  unfold itv_cut rng ansV
  rw [itv_Of_eq]
  unfold ivO
  by_cases e : m < -2147483648 ∨ m > 2147483647
  · rw [if_pos (by omega), sb]
    have h2 : (if m < -2147483648 ∨ m > 2147483647 then ((0 : Int), (2 : Int)) else (m, 0)) = (0, 2) := if_pos e
    rw [h2]
    by_cases e1 : m < -2147483648
    · rw [if_pos (by simpa using e1)]; rfl
    · rw [if_neg (by simpa using e1)]
      have : decide (m > 2147483647) = true := decide_eq_true (by omega)
      rw [this]; rfl
  · have h2 : (if m < -2147483648 ∨ m > 2147483647 then ((0 : Int), (2 : Int)) else (m, 0)) = (m, 0) := if_neg e
    rw [if_neg (by omega), sb, h2, if_neg (by simpa using (show -2147483648 ≤ m by omega))]
    have : decide (m > 2147483647) = false := decide_eq_false (by omega)
    rw [this, show max m (-2147483648) = m by omega, show min m 2147483647 = m by omega]
    rfl
def nm (i : itv_Itv) : itv_Itv := if i.Lo > i.Hi then ⟨1, 0⟩ else i
theorem norm_eq (i : itv_Itv) : itv_norm i = some (nm i) := by
  unfold itv_norm itv_Empty itv_None nm
  simp only [sb]
  by_cases e : i.Lo > i.Hi
  · rw [if_pos (by simpa using e), if_pos e]
  · rw [if_neg (by simpa using e), if_neg e]
def mt (a b : itv_Itv) : itv_Itv := if a.Lo > a.Hi ∨ b.Lo > b.Hi then ⟨1, 0⟩ else nm ⟨max a.Lo b.Lo, min a.Hi b.Hi⟩
theorem Meet_eq (a b : itv_Itv) : itv_Meet a b = some (mt a b) := by
  unfold itv_Meet itv_Empty itv_None mt
  simp only [sb, norm_eq]
  by_cases e : a.Lo > a.Hi
  · rw [if_pos (by simpa using e), if_pos (.inl e)]; rfl
  · rw [if_neg (by simpa using e)]
    by_cases e2 : b.Lo > b.Hi
    · rw [if_pos (.inr e2)]
      have : decide (b.Lo > b.Hi) = true := by simpa using e2
      rw [this]; rfl
    · rw [if_neg (by omega)]
      have : decide (b.Lo > b.Hi) = false := by simpa using e2
      rw [this]; rfl
theorem mt_all {p : Int} (h : In p) : mt (pt p) ⟨-2147483648, 2147483647⟩ = pt p := by
  have := h.lo; have := h.hi
  unfold mt nm pt
  rw [if_neg (by simp only; omega), if_neg (by simp only; omega)]
  simp only [itv_Itv.mk.injEq]
  omega
theorem mulN (a : Int) : itv_Do_1 a = fun b => some (IntKind.i64.wrap (a * b)) := rfl
theorem tdiv_le {p n : Int} (hn : 1 ≤ n) (hp : In p) : In (p.tdiv n) := by
  have h1 := hp.lo; have h2 := hp.hi
  have h3 : (p.tdiv n).natAbs = p.natAbs / n.natAbs := Int.natAbs_tdiv p n
  have h4 : p.natAbs / n.natAbs ≤ p.natAbs := Nat.div_le_self _ _
  rw [← h3] at h4
  by_cases hneg : 0 ≤ p
  · have := Int.tdiv_nonneg hneg (show (0:Int) ≤ n by omega)
    constructor <;> omega
  · have h5 : (-p).tdiv n = -(p.tdiv n) := Int.neg_tdiv p n
    have := Int.tdiv_nonneg (show 0 ≤ -p by omega) (show (0:Int) ≤ n by omega)
    constructor <;> omega
theorem tmod_le {p n : Int} (hn : 1 ≤ n) (hn2 : n ≤ 2147483647) : In (p.tmod n) := by
  have h1 := Int.tmod_lt_of_pos p (b := n) (by omega)
  have h2 := Int.lt_tmod_of_pos p (b := n) (by omega)
  constructor <;> omega
theorem quo64 {p n : Int} (hn : 1 ≤ n) (hp : In p) : quo .i64 p n = some (p.tdiv n) := by
  have h0 := tdiv_le hn hp
  have h1 := h0.lo; have h2 := h0.hi
  unfold quo
  rw [if_neg (by omega), w64 (by omega) (by omega)]
theorem quotient_pt {p n : Int} (hn : 1 ≤ n) (hn2 : n ≤ 2147483647) (hp : In p) : itv_quotient (pt p) (pt n) = some (pt (p.tdiv n), ⟨false, false⟩) := by
  have hd := tdiv_le hn hp
  have d1 := hd.lo; have d2 := hd.hi
  have e1 : ivO (-2147483648) (-1) = ⟨-2147483648, -1⟩ := rfl
  have e2 : ivO 1 2147483647 = ⟨1, 2147483647⟩ := rfl
  have m1 : mt (pt n) ⟨-2147483648, -1⟩ = ⟨1, 0⟩ := by
    unfold mt nm pt
    rw [if_neg (by simp only; omega), if_pos (by simp only; omega)]
  have m2 : mt (pt n) ⟨1, 2147483647⟩ = pt n := by
    unfold mt nm pt
    rw [if_neg (by simp only; omega), if_neg (by simp only; omega)]
    simp only [itv_Itv.mk.injEq]; omega
  have hc : itv_corners_itv_quotient_1 (pt p) (pt n) = some (p.tdiv n, p.tdiv n) := by
    unfold itv_corners_itv_quotient_1 itv_quotient_1 pt
    simp only [quo64 hn hp, sb, Int.min_self, Int.max_self]
  have hr : rng (p.tdiv n) = (p.tdiv n, 0) := by unfold rng; rw [if_neg (by omega)]
  have b0 : itv_quotient_l1 (pt p) ⟨1, 0⟩ (pt n) (false, 0, 1, 0) = some (.inl (false, 1, 1, 0)) := by
    unfold itv_quotient_l1; rfl
  have b1 : itv_quotient_l1 (pt p) ⟨1, 0⟩ (pt n) (false, 1, 1, 0) = some (.inl (false, 2, p.tdiv n, p.tdiv n)) := by
    unfold itv_quotient_l1
    have i1 : idx [itv_Itv.mk 1 0, pt n] 1 = some (pt n) := rfl
    simp only
    rw [if_pos (show decide ((1:Int) < (([itv_Itv.mk 1 0, pt n] : List itv_Itv).length : Nat)) = true from rfl), i1, sb]
    have j1 : itv_Empty (pt n) = some false := by unfold itv_Empty pt; simp
    have j2 : itv_Join ⟨1, 0⟩ (pt (p.tdiv n)) = some (pt (p.tdiv n)) := by
      unfold itv_Join
      rw [show itv_Empty ⟨1, 0⟩ = some true from rfl, sb, if_pos rfl, norm_eq, sb]
      unfold nm pt
      rw [if_neg (by simp)]
    rw [j1, sb, if_neg (by simp), hc, sb, cut_pt, sb, hr]
    unfold ansV
    rw [if_pos rfl, j2, sb, if_neg (by simp)]
    rfl
  have b2 : itv_quotient_l1 (pt p) ⟨1, 0⟩ (pt n) (false, 2, p.tdiv n, p.tdiv n) = some (.inr (.inr (false, p.tdiv n, p.tdiv n))) := by
    unfold itv_quotient_l1; rfl
  unfold itv_quotient
  rw [show itv_None = some ⟨1, 0⟩ from rfl, sb, itv_Of_eq, sb, e1, Meet_eq, sb, itv_Of_eq, sb, e2, Meet_eq, sb, m1, m2, iter_eq, b0]
  show (iter _ (false, 1, 1, 0) >>= _) = _
  rw [iter_eq, b1]
  show (iter _ (false, 2, p.tdiv n, p.tdiv n) >>= _) = _
  rw [iter_eq, b2]
  rfl
theorem do_pt {k p n : Int} (hk : 4 ≤ k ∧ k ≤ 8) (hp : In p) (hn : 0 ≤ n ∧ n ≤ 2147483647) : itv_Do k (pt p) (pt n) = some (ansV (opV k p n)) := by
  have p1 := hp.lo; have p2 := hp.hi
  have hn' : In n := ⟨by omega, by omega⟩
  have e1 : ∀ m, itv_Empty (pt m) = some false := fun m => by unfold itv_Empty pt; simp
  unfold itv_Do
  rw [e1, sb, if_neg (by simp), e1, sb, sb, if_neg (by simp), show itv_All = some ⟨-2147483648, 2147483647⟩ from rfl, sb, Meet_eq, sb, sb, Meet_eq, sb, mt_all hp, mt_all hn', e1, sb, if_neg (by simp), e1, sb, sb, if_neg (by simp)]
  unfold opV
  have hmul : -9223372036854775808 ≤ p * n ∧ p * n ≤ 9223372036854775807 := by
    have h1 : p * n ≤ 2147483647 * 2147483647 := by
      have a1 : p * n ≤ 2147483647 * n := Int.mul_le_mul_of_nonneg_right p2 (by omega)
      omega
    have h2 : -2147483648 * 2147483647 ≤ p * n := by
      have a1 : -2147483648 * n ≤ p * n := Int.mul_le_mul_of_nonneg_right p1 (by omega)
      omega
    omega
  by_cases k4 : k = 4
  · rw [if_pos (by simpa using k4), if_pos k4]
    show (itv_cut (IntKind.i64.wrap (p + n)) (IntKind.i64.wrap (p + n)) >>= _) = _
    rw [w64 (by omega) (by omega), cut_pt]; rfl
  · rw [if_neg (by simpa using k4), if_neg k4]
    by_cases k5 : k = 5
    · rw [if_pos (by simpa using k5), if_pos k5]
      show (itv_cut (IntKind.i64.wrap (p - n)) (IntKind.i64.wrap (p - n)) >>= _) = _
      rw [w64 (by omega) (by omega), cut_pt]; rfl
    · rw [if_neg (by simpa using k5), if_neg k5]
      by_cases k6 : k = 6
      · rw [if_pos (by simpa using k6), if_pos k6]
        have hc : itv_corners_itv_Do_1 (pt p) (pt n) = some (p * n, p * n) := by
          unfold itv_corners_itv_Do_1 itv_Do_1 pt
          simp only [sb, w64 hmul.1 hmul.2, Int.min_self, Int.max_self]
        rw [hc, sb, cut_pt]; rfl
      · rw [if_neg (by simpa using k6), if_neg k6]
        have hj : ((if (k == 7) = true then some (k == 7) else some (k == 8)) : Option Bool) = some true := by
          by_cases k7 : k = 7
          · subst k7; rfl
          · have k8 : k = 8 := by omega
            subst k8; rfl
        rw [hj, sb, if_pos rfl]
        unfold itv_divided itv_Has
        by_cases n0 : n = 0
        · subst n0; rfl
        · have hh : ((if decide ((pt n).Lo ≤ 0) = true then some (decide (0 ≤ (pt n).Hi)) else some false) : Option Bool) = some false := by
            rw [if_neg (by unfold pt; simp; omega)]
          rw [hh, sb, sb, Const_pt ⟨by decide, by decide⟩, sb, if_neg (by unfold pt; simp; omega), if_neg n0]
          by_cases k8 : k = 8
          · subst k8
            have hr : In (p.tmod n) := tmod_le (by omega) hn.2
            have hrest : itv_rest (pt p) (pt n) = some (pt (p.tmod n)) := by
              unfold itv_rest rem pt
              simp only [beq_self_eq_true, if_true, sb, if_neg n0]
              rw [Const_pt hr]; rfl
            rw [if_pos (show ((8:Int) == 8) = true from rfl), hrest]
            have : rng (p.tmod n) = (p.tmod n, 0) := by unfold rng; have := hr.lo; have := hr.hi; rw [if_neg (by omega)]
            rw [if_neg (by decide), this]; rfl
          · have k7 : k = 7 := by omega
            subst k7
            have hr := tdiv_le (p := p) (n := n) (by omega) hp
            have : rng (p.tdiv n) = (p.tdiv n, 0) := by unfold rng; have := hr.lo; have := hr.hi; rw [if_neg (by omega)]
            rw [if_neg (show ¬ ((7:Int) == 8) = true by decide), quotient_pt (by omega) hn.2 hp, if_pos rfl, this]; rfl
end Go.Proofs.Ytbebnddalipfhaa.Abs

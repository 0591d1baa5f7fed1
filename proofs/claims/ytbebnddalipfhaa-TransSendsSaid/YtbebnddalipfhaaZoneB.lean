/- Plain laws of zones, further: Forget, Bound, Copy, and numbers of variables. -/
import Derived.Test.YtbebnddalipfhaaZoneA
namespace Go.Proofs.Ytbebnddalipfhaa.Abs
open Go Go.RowKit
set_option linter.unusedVariables false
set_option linter.unusedSimpArgs false
theorem forget_law {n : Nat} {v v' : Nat → Int} (hv : Va n v) (hv' : Va n v') {z : zone_Zone} (h : Sat n v z) (r : Nat) (hr : r ≤ n) (he : ∀ i, i ≠ r → v' i = v i) :
    ∃ z', zone_Zone_forget z (r : Int) = some z' ∧ Sat n v' z' ∧ (∀ i j, i ≤ n → j ≤ n → i ≠ r → j ≠ r → z'.D i j ≤ z.D i j) ∧ (∀ i j, n < i ∨ n < j → z'.D i j = z.D i j) := by
  have hn := hv.n6
  obtain ⟨o, h1, h2⟩ := iter_inv (body := zone_Zone_forget_l1 (r : Int)) (n + 1)
    (fun i x => x.1 = (i : Int) ∧ x.2.N = (n : Int) ∧ x.2.None = false ∧ (∀ p q, p ≤ n → q ≤ n → p ≠ r → q ≠ r → x.2.D p q = z.D p q) ∧ x.2.D r r = z.D r r ∧ (∀ p, p < i → p ≠ r → x.2.D p r = 1099511627776 ∧ x.2.D r p = 1099511627776) ∧ (∀ p q, n < p ∨ n < q → x.2.D p q = z.D p q))
    (fun o => ∃ z', o = .inr z' ∧ z'.N = (n : Int) ∧ z'.None = false ∧ (∀ p q, p ≤ n → q ≤ n → p ≠ r → q ≠ r → z'.D p q = z.D p q) ∧ z'.D r r = z.D r r ∧ (∀ p, p ≤ n → p ≠ r → z'.D p r = 1099511627776 ∧ z'.D r p = 1099511627776) ∧ (∀ p q, n < p ∨ n < q → z'.D p q = z.D p q)) (fun i x hi hx => by
    obtain ⟨x1, ⟨N, b, D⟩⟩ := x
    obtain ⟨rfl, hN, hb, ha, hrr, hf, ho⟩ := hx
    simp only at hN hb ha hrr hf ho
    by_cases e : i = r
    · subst e
      refine ⟨(IntKind.i64.wrap ((i : Int) + 1), ⟨N, b, D⟩), ?_, wsucc (by omega), hN, hb, ha, hrr, fun p hp hpr => hf p (by omega) hpr, ho⟩
      unfold zone_Zone_forget_l1
      simp only
      rw [hN, if_pos (d_le (by omega)), if_neg (by simp), sb]
    · refine ⟨(IntKind.i64.wrap ((i : Int) + 1), ⟨N, b, upd2 (upd2 D i r 1099511627776) r i 1099511627776⟩), ?_, wsucc (by omega), hN, hb, fun p q hp hq hpr hqr => ?_, ?_, fun p hp hpr => ?_, fun p q hpq => ?_⟩
      · unfold zone_Zone_forget_l1
        simp only
        rw [hN, if_pos (d_le (by omega)), if_pos (by simp; omega), inA_nat (show i < 7 by omega), inA_nat (show r < 7 by omega)]
        rfl
      · show upd2 (upd2 D i r _) r i _ p q = _
        rw [u2, if_neg (fun c => hpr c.1), u2, if_neg (fun c => hqr c.2)]
        exact ha p q hp hq hpr hqr
      · show upd2 (upd2 D i r _) r i _ r r = _
        rw [u2, if_neg (fun c => e c.2.symm), u2, if_neg (fun c => e c.1.symm)]
        exact hrr
      · show upd2 (upd2 D i r _) r i _ p r = _ ∧ upd2 (upd2 D i r _) r i _ r p = _
        by_cases e2 : p = i
        · subst e2
          refine ⟨?_, ?_⟩
          · rw [u2, if_neg (fun c => e c.1), u2, if_pos ⟨rfl, rfl⟩]
          · rw [u2, if_pos ⟨rfl, rfl⟩]
        · obtain ⟨f1, f2⟩ := hf p (by omega) hpr
          refine ⟨?_, ?_⟩
          · rw [u2, if_neg (fun c => hpr c.1), u2, if_neg (fun c => e2 c.1)]; exact f1
          · rw [u2, if_neg (fun c => e2 c.2), u2, if_neg (fun c => e c.1.symm)]; exact f2
      · show upd2 (upd2 D i r _) r i _ p q = _
        rw [u2, if_neg (by omega), u2, if_neg (by omega)]
        exact ho p q hpq) (fun x hx => by
    obtain ⟨x1, ⟨N, b, D⟩⟩ := x
    obtain ⟨rfl, hN, hb, ha, hrr, hf, ho⟩ := hx
    simp only at hN hb ha hrr hf ho
    refine ⟨_, ?_, ⟨N, b, D⟩, rfl, hN, hb, ha, hrr, fun p hp hpr => hf p (by omega) hpr, ho⟩
    unfold zone_Zone_forget_l1
    simp only
    rw [hN, if_neg d_gt]) (0, z) ⟨rfl, h.N, h.none, fun _ _ _ _ _ _ => rfl, rfl, fun p hp => by omega, fun _ _ _ => rfl⟩
  obtain ⟨z', rfl, hN, hb, ha, hrr, hf, ho⟩ := h2
  refine ⟨z', ?_, ⟨hN, hb, fun i j hi hj => ?_, fun i j hi hj => ?_⟩, fun i j hi hj hir hjr => by rw [ha i j hi hj hir hjr]; exact Int.le_refl _, ho⟩
  · unfold zone_Zone_forget
    have e0 : ((0 : Int), z) = (((0 : Nat) : Int), z) := rfl
    rw [h1]; rfl
  · by_cases e1 : i = r
    · by_cases e2 : j = r
      · subst e1; subst e2; rw [hrr]; have := h.lo _ _ hi hi; omega
      · subst e1; rw [(hf j hj e2).2]; have a := hv'.r i hi; have b := hv'.r j hj; omega
    · by_cases e2 : j = r
      · subst e2; rw [(hf i hi e1).1]; have a := hv'.r i hi; have b := hv'.r j hj; omega
      · rw [ha i j hi hj e1 e2, he i e1, he j e2]; exact h.lo i j hi hj
  · by_cases e1 : i = r
    · by_cases e2 : j = r
      · subst e1; subst e2; rw [hrr]; exact h.hi _ _ hi hi
      · subst e1; rw [(hf j hj e2).2]; exact Int.le_refl _
    · by_cases e2 : j = r
      · subst e2; rw [(hf i hi e1).1]; exact Int.le_refl _
      · rw [ha i j hi hj e1 e2]; exact h.hi i j hi hj
theorem Forget_law {n : Nat} {v v' : Nat → Int} (hv : Va n v) (hv' : Va n v') {z : zone_Zone} (h : Sat n v z) (x : Nat) (hx : x < n) (he : ∀ i, i ≠ x + 1 → v' i = v i) :
    ∃ z', zone_Forget z (x : Int) = some z' ∧ Sat n v' z' ∧ (∀ i j, i ≤ n → j ≤ n → i ≠ x + 1 → j ≠ x + 1 → z'.D i j ≤ z.D i j) ∧ (∀ i j, n < i ∨ n < j → z'.D i j = z.D i j) := by
  have hn := hv.n6
  obtain ⟨z1, q1, s1, l1, o1⟩ := forget_law hv hv' h (x + 1) (by omega) he
  obtain ⟨z2, q2, s2, l2⟩ := close_law hv' s1
  refine ⟨z2, ?_, s2, fun i j hi hj hir hjr => Int.le_trans (l2.le i j hi hj) (l1 i j hi hj hir hjr), fun i j hij => (l2.out i j hij).trans (o1 i j hij)⟩
  unfold zone_Forget
  rw [variable_ok hv h hx, sb, if_neg (by simp), wsucc (by omega), q1, sb, q2]; rfl
theorem orNought_ok {n y : Nat} {v : Nat → Int} (hv : Va n v) {z : zone_Zone} (h : Sat n v z) (hy : y ≤ n) : zone_orNought z ((y : Int) - 1) = some true := by
  unfold zone_orNought
  cases y with
  | zero =>
    rw [if_pos (by simp), h.N, count_ok hv.n6, sb, if_pos rfl, h.none, if_pos (show (!false) = true from rfl)]; rfl
  | succ y =>
    rw [show (((y + 1 : Nat) : Int) - 1) = (y : Int) by omega, if_neg (by simp), variable_ok hv h (by omega)]; rfl
theorem Bound_law {n : Nat} {v : Nat → Int} (hv : Va n v) {z : zone_Zone} (h : Sat n v z) (p q : Nat) (hp : p ≤ n) (hq : q ≤ n) (by_ : Int) (hb : v p - v q ≤ by_) (x y : Int) (ex : x = (p : Int) - 1) (ey : y = (q : Int) - 1) :
    ∃ z', zone_Bound z x y by_ = some z' ∧ Sat n v z' ∧ Le n z z' ∧ z'.D p q ≤ by_ ∧ (∀ i j, i ≤ n → j ≤ n → z'.D i j ≤ (if i = p ∧ q = 0 then min (z.D i 0) (max by_ (-1099511627776)) else z.D i 0) + (if p = 0 ∧ j = q then min (z.D 0 j) (max by_ (-1099511627776)) else z.D 0 j)) := by
  have hn := hv.n6
  subst ex; subst ey
  obtain ⟨N, b, D⟩ := z
  have r1 := hv.r p hp
  have r2 := hv.r q hq
  have a := h.lo p q hp hq
  simp only at a
  obtain ⟨s1, l1⟩ := h.set hv (k := p) (l := q) (x := min (D p q) (max by_ (-1099511627776))) (by omega) (by omega) (fun _ _ => by omega) (by omega)
  obtain ⟨z2, q2, s2, l2, v2⟩ := close_via hv s1
  refine ⟨z2, ?_, s2, l1.tr l2, ?_, fun i j hi hj => ?_⟩
  · unfold zone_Bound
    have wp : IntKind.i64.wrap ((p : Int) - 1 + 1) = (p : Int) := by rw [w64 (by omega) (by omega)]; omega
    have wq : IntKind.i64.wrap ((q : Int) - 1 + 1) = (q : Int) := by rw [w64 (by omega) (by omega)]; omega
    rw [orNought_ok hv h hp, sb, if_neg (by simp), orNought_ok hv h hq, sb, sb, if_neg (by simp), wp, wq, inA_nat (show p < 7 by omega), inA_nat (show q < 7 by omega), sb, sb, sb, sb, sb, q2]
    rfl
  · have := l2.le p q hp hq
    simp only [u2, and_self, if_true] at this
    omega
  · have := v2 i j hi hj
    simp only [u2] at this
    refine Int.le_trans this (Int.add_le_add ?_ ?_)
    · by_cases c : i = p ∧ (0 : Nat) = q
      · obtain ⟨rfl, rfl⟩ := c; rw [if_pos ⟨rfl, rfl⟩]; exact Int.le_refl _
      · rw [if_neg c, if_neg (fun d => c ⟨d.1, d.2.symm⟩)]; exact Int.le_refl _
    · by_cases c : (0 : Nat) = p ∧ j = q
      · obtain ⟨rfl, rfl⟩ := c; rw [if_pos ⟨rfl, rfl⟩]; exact Int.le_refl _
      · rw [if_neg c, if_neg (fun d => c ⟨d.1.symm, d.2⟩)]; exact Int.le_refl _
/-! ### Numbers of variables -/
def ivO (lo hi : Int) : itv_Itv := if max lo (-2147483648) > min hi 2147483647 then ⟨1, 0⟩ else ⟨max lo (-2147483648), min hi 2147483647⟩
theorem itv_Of_eq (lo hi : Int) : itv_Of lo hi = some (ivO lo hi) := by
  unfold itv_Of itv_norm itv_Empty itv_None ivO
  simp only [sb]
  by_cases e : max lo (-2147483648) > min hi 2147483647
  · rw [if_pos (by simpa using e), if_pos e]; rfl
  · rw [if_neg (by simpa using e), if_neg e]; rfl
def zI (z : zone_Zone) (x : Nat) : itv_Itv := ivO (- z.D 0 (x + 1)) (z.D (x + 1) 0)
theorem zItv_law {n x : Nat} {v : Nat → Int} (hv : Va n v) {z : zone_Zone} (h : Sat n v z) (hx : x < n) : zone_Itv z (x : Int) = some (zI z x) := by
  have hn := hv.n6
  have a := h.lo 0 (x + 1) (by omega) (by omega)
  have b := h.hi 0 (x + 1) (by omega) (by omega)
  have r := hv.r (x + 1) (by omega)
  have z0 := hv.z
  unfold zone_Itv zI
  rw [variable_ok hv h hx, sb, if_neg (by simp), wsucc (by omega), inA_nat (show x + 1 < 7 by omega), sb, sb, w64 (by omega) (by omega), itv_Of_eq, sb, Int.zero_sub]
def nI (z : zone_Zone) (n : Nat) : List itv_Itv := (List.range n).map (zI z)
theorem of_law {n : Nat} {v : Nat → Int} (hv : Va n v) {z : zone_Zone} (h : Sat n v z) : num_of z = some ⟨false, nI z n, z⟩ := by
  have hn := hv.n6
  have hN : min (max z.N 0) 6 = (n : Int) := by rw [h.N]; omega
  obtain ⟨o, h1, h2⟩ := iter_inv (body := num_of_l2 z) n (fun i x => x.1 = (i : Int) ∧ x.2.1.None = false ∧ x.2.1.Z = z ∧ x.2.2 = nI z i) (fun o => o = .inr (⟨false, nI z n, z⟩, nI z n)) (fun i x hi hx => by
    obtain ⟨x1, ⟨b, l, w⟩, l2⟩ := x
    obtain ⟨rfl, hb, hw, hl⟩ := hx
    simp only at hb hw hl
    subst hb; subst hw; subst hl
    refine ⟨(IntKind.i64.wrap ((i : Int) + 1), ⟨false, nI w (i + 1), w⟩, nI w (i + 1)), ?_, wsucc (by omega), rfl, rfl, rfl⟩
    have e1 : nI w i ++ [zI w i] = nI w (i + 1) := by unfold nI; rw [List.range_succ, List.map_append]; rfl
    unfold num_of_l2
    simp only
    rw [hN, if_pos (by simpa using hi), zItv_law hv h hi, sb, app_some (by simp [nI]; omega), sb, sb, e1]) (fun x hx => by
    obtain ⟨x1, ⟨b, l, w⟩, l2⟩ := x
    obtain ⟨rfl, hb, hw, hl⟩ := hx
    simp only at hb hw hl
    subst hb; subst hw; subst hl
    refine ⟨_, ?_, rfl⟩
    unfold num_of_l2
    simp only
    rw [hN, if_neg (by simp)]) (0, ⟨z.None, [], z⟩, []) ⟨rfl, h.none, rfl, rfl⟩
  unfold num_of
  rw [h1, h2]; rfl
/-- What a Num says of a row of numbers. -/
structure NSat (n : Nat) (v : Nat → Int) (a : num_Num) : Prop where
  z : Sat n v a.Z
  I : a.I = nI a.Z n
  none : a.None = false
theorem nsat_of {n : Nat} {v : Nat → Int} {z : zone_Zone} (h : Sat n v z) : NSat n v ⟨false, nI z n, z⟩ := ⟨h, rfl, rfl⟩
/-- An Itv has a number. -/
def IHas (i : itv_Itv) (m : Int) : Prop := i.Lo ≤ m ∧ m ≤ i.Hi
theorem zI_has {n x : Nat} {v : Nat → Int} (hv : Va n v) {z : zone_Zone} (h : Sat n v z) (hx : x < n) : IHas (zI z x) (v (x + 1)) ∧ -2147483648 ≤ (zI z x).Lo ∧ (zI z x).Hi ≤ 2147483647 := by
  have a := h.lo 0 (x + 1) (by omega) (by omega)
  have b := h.lo (x + 1) 0 (by omega) (by omega)
  have r := hv.r (x + 1) (by omega)
  have z0 := hv.z
  unfold zI ivO IHas
  rw [if_neg (by omega)]
  exact ⟨⟨by simp only; omega, by simp only; omega⟩, by simp only; omega, by simp only; omega⟩
theorem held_law {n : Nat} {v : Nat → Int} (hv : Va n v) {z : zone_Zone} (h : Sat n v z) (x : Nat) (hx : x < n) (i : itv_Itv) (hi : IHas i (v (x + 1))) (hr : -2147483648 ≤ i.Lo ∧ i.Hi ≤ 9223372036854775807) :
    ∃ z', num_held z (x : Int) i = some z' ∧ Sat n v z' ∧ Le n z z' ∧ z'.D (x + 1) 0 ≤ i.Hi ∧ z'.D 0 (x + 1) ≤ - i.Lo ∧ (-2147483648 ≤ i.Hi → ∀ j, j ≤ n → z'.D (x + 1) j ≤ i.Hi + z.D 0 j) ∧ (i.Lo ≤ 2147483648 → ∀ j, j ≤ n → z'.D j (x + 1) ≤ z.D j 0 + - i.Lo) ∧ (i.Lo ≤ 2147483648 → z'.D (x + 1) (x + 1) ≤ i.Hi + - i.Lo) := by
  have hn := hv.n6
  have z0 := hv.z
  have r := hv.r (x + 1) (by omega)
  obtain ⟨l, u⟩ := hi
  obtain ⟨z1, q1, s1, l1, b1, v1⟩ := Bound_law hv h (x + 1) 0 (by omega) (by omega) i.Hi (by omega) (x : Int) (-1) (by omega) (by omega)
  obtain ⟨z2, q2, s2, l2, b2, v2⟩ := Bound_law hv s1 0 (x + 1) (by omega) (by omega) (- i.Lo) (by omega) (-1) (x : Int) (by omega) (by omega)
  refine ⟨z2, ?_, s2, l1.tr l2, Int.le_trans (l2.le (x + 1) 0 (by omega) (by omega)) b1, b2, fun h0 j hj => ?_, fun h0 j hj => ?_, fun h0 => ?_⟩
  rotate_left
  · have r1 := v1 (x + 1) j (by omega) hj
    have r2 := l2.le (x + 1) j (by omega) hj
    rw [if_pos ⟨rfl, rfl⟩, if_neg (by omega)] at r1
    omega
  · have r1 := v2 j (x + 1) hj (by omega)
    rw [if_neg (by omega), if_pos ⟨rfl, rfl⟩] at r1
    have r2 := l1.le j 0 hj (by omega)
    omega
  · have r1 := v2 (x + 1) (x + 1) (by omega) (by omega)
    rw [if_neg (by omega), if_pos ⟨rfl, rfl⟩] at r1
    omega
  unfold num_held itv_Empty
  rw [if_neg (by simp), h.N, sb, if_neg (by simp; omega), sb, if_neg (by simp; omega), q1, sb, w64 (by omega) (by omega), Int.zero_sub, q2]; rfl
theorem Meet_law {n : Nat} {v : Nat → Int} (hv : Va n v) {a : num_Num} (h : NSat n v a) (x : Nat) (hx : x < n) (i : itv_Itv) (hi : IHas i (v (x + 1))) (hr : -2147483648 ≤ i.Lo ∧ i.Hi ≤ 9223372036854775807) :
    ∃ b, num_Meet a (x : Int) i = some b ∧ NSat n v b ∧ Le n a.Z b.Z := by
  obtain ⟨z', q, s, l, _, _⟩ := held_law hv h.z x hx i hi hr
  refine ⟨_, ?_, nsat_of s, l⟩
  unfold num_Meet
  rw [q, sb, of_law hv s]; rfl
theorem SetT_law {n : Nat} {v v' : Nat → Int} (hv : Va n v) (hv' : Va n v') {a : num_Num} (h : NSat n v a) (x : Nat) (hx : x < n) (he : ∀ i, i ≠ x + 1 → v' i = v i) (i : itv_Itv) (hi : IHas i (v' (x + 1))) (hr : -2147483648 ≤ i.Lo ∧ i.Hi ≤ 9223372036854775807) :
    ∃ b, num_Set a (x : Int) i = some b ∧ NSat n v' b ∧ (∀ p q, p ≤ n → q ≤ n → p ≠ x + 1 → q ≠ x + 1 → b.Z.D p q ≤ a.Z.D p q) ∧ b.Z.D (x + 1) 0 ≤ i.Hi ∧ b.Z.D 0 (x + 1) ≤ - i.Lo ∧ (∀ p q, n < p ∨ n < q → b.Z.D p q = a.Z.D p q) ∧
      (∀ j, j ≤ n → j ≠ x + 1 → b.Z.D (x + 1) j ≤ i.Hi + a.Z.D 0 j) ∧ (∀ j, j ≤ n → j ≠ x + 1 → b.Z.D j (x + 1) ≤ a.Z.D j 0 + - i.Lo) ∧ b.Z.D (x + 1) (x + 1) ≤ i.Hi + - i.Lo := by
  have r := hv'.r (x + 1) (by omega)
  obtain ⟨i1, i2⟩ := hi
  obtain ⟨z1, q1, s1, l1, o1⟩ := Forget_law hv hv' h.z x hx he
  obtain ⟨z2, q2, s2, l2, b1, b2, v1, v2, v3⟩ := held_law hv' s1 x hx i ⟨i1, i2⟩ hr
  refine ⟨⟨false, nI z2 n, z2⟩, ?_, nsat_of s2, fun p q hp hq hpx hqx => Int.le_trans (l2.le p q hp hq) (l1 p q hp hq hpx hqx), b1, b2, fun p q hpq => (l2.out p q hpq).trans (o1 p q hpq), fun j hj hjx => ?_, fun j hj hjx => ?_, v3 (by omega)⟩
  · unfold num_Set
    rw [q1, sb, q2, sb, of_law hv' s2]; rfl
  · exact Int.le_trans (v1 (by omega) j hj) (Int.add_le_add_left (l1 0 j (by omega) hj (by omega) hjx) _)
  · exact Int.le_trans (v2 (by omega) j hj) (Int.add_le_add_right (l1 j 0 hj (by omega) hjx (by omega)) _)
theorem Set_law {n : Nat} {v v' : Nat → Int} (hv : Va n v) (hv' : Va n v') {a : num_Num} (h : NSat n v a) (x : Nat) (hx : x < n) (he : ∀ i, i ≠ x + 1 → v' i = v i) (i : itv_Itv) (hi : IHas i (v' (x + 1))) (hr : -2147483648 ≤ i.Lo ∧ i.Hi ≤ 9223372036854775807) :
    ∃ b, num_Set a (x : Int) i = some b ∧ NSat n v' b ∧ (∀ p q, p ≤ n → q ≤ n → p ≠ x + 1 → q ≠ x + 1 → b.Z.D p q ≤ a.Z.D p q) ∧ b.Z.D (x + 1) 0 ≤ i.Hi ∧ b.Z.D 0 (x + 1) ≤ - i.Lo := by
  obtain ⟨b, a1, a2, a3, a4, a5, _⟩ := SetT_law hv hv' h x hx he i hi hr
  exact ⟨b, a1, a2, a3, a4, a5⟩
end Go.Proofs.Ytbebnddalipfhaa.Abs

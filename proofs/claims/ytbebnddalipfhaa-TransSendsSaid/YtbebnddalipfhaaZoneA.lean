/- Plain laws of zones: what they have is kept by their operations, and their bounds only fall. -/
import Derived.Test.YtbebnddalipfhaaGbD
import Derived.Test.YtbebnddalipfhaaAbsU
namespace Go.Proofs.Ytbebnddalipfhaa.Abs
open Go Go.RowKit
set_option linter.unusedVariables false
set_option linter.unusedSimpArgs false
theorem iter_inv {X O : Type} {body : X → Option (Sum X O)} (n : Nat) (I : Nat → X → Prop) (R : O → Prop) (hs : ∀ i x, i < n → I i x → ∃ x', body x = some (.inl x') ∧ I (i + 1) x') (he : ∀ x, I n x → ∃ o, body x = some (.inr o) ∧ R o) : ∀ x, I 0 x → ∃ o, iter body x = some o ∧ R o := by
  have key : ∀ k i x, i + k = n → I i x → ∃ o, iter body x = some o ∧ R o := by
    intro k
    induction k with
    | zero =>
      intro i x hi hx
      have : i = n := by omega
      subst this
      obtain ⟨o, h1, h2⟩ := he x hx
      exact ⟨o, by rw [iter_eq, h1]; rfl, h2⟩
    | succ k ih =>
      intro i x hi hx
      obtain ⟨x', h1, h2⟩ := hs i x (by omega) hx
      obtain ⟨o, h3, h4⟩ := ih (i + 1) x' (by omega) h2
      exact ⟨o, by rw [iter_eq, h1]; exact h3, h4⟩
  exact fun x hx => key n 0 x (by omega) hx
theorem inA_nat {n i : Nat} (h : i < n) : inA n (i : Int) = some i := by unfold inA; rw [if_pos (by omega)]; simp
theorem wsucc {i : Nat} (h : i ≤ 1000000) : IntKind.i64.wrap ((i : Int) + 1) = ((i + 1 : Nat) : Int) := by rw [w64 (by omega) (by omega)]; rfl
theorem d_le {i n : Nat} (h : i ≤ n) : decide ((i : Int) ≤ (n : Int)) = true := by simpa using h
theorem d_gt {n : Nat} : ¬ (decide (((n + 1 : Nat) : Int) ≤ (n : Int)) = true) := by simp; omega
/-- A row of numbers. -/
structure Va (n : Nat) (v : Nat → Int) : Prop where
  n6 : n ≤ 6
  z : v 0 = 0
  r : ∀ i, i ≤ n → -2147483648 ≤ v i ∧ v i ≤ 2147483647
/-- A zone has it, and its bounds are no farther than Far. -/
structure Sat (n : Nat) (v : Nat → Int) (z : zone_Zone) : Prop where
  N : z.N = (n : Int)
  none : z.None = false
  lo : ∀ i j, i ≤ n → j ≤ n → v i - v j ≤ z.D i j
  hi : ∀ i j, i ≤ n → j ≤ n → z.D i j ≤ 1099511627776
/-- The bounds only fall, and what lies beyond them is left. -/
structure Le (n : Nat) (z z' : zone_Zone) : Prop where
  le : ∀ i j, i ≤ n → j ≤ n → z'.D i j ≤ z.D i j
  out : ∀ i j, n < i ∨ n < j → z'.D i j = z.D i j
theorem Le.rfl' {n : Nat} {z : zone_Zone} : Le n z z := ⟨fun i j _ _ => Int.le_refl _, fun _ _ _ => rfl⟩
theorem Le.tr {n : Nat} {a b c : zone_Zone} (h : Le n a b) (h' : Le n b c) : Le n a c := ⟨fun i j hi hj => Int.le_trans (h'.le i j hi hj) (h.le i j hi hj), fun i j q => (h'.out i j q).trans (h.out i j q)⟩
theorem u2 {D : Nat → Nat → Int} {k l : Nat} {x : Int} (i j : Nat) : upd2 D k l x i j = if i = k ∧ j = l then x else D i j := upd2_eq D k l x i j
/-- One bound turned. -/
theorem Sat.set {n : Nat} {v : Nat → Int} {N : Int} {b : Bool} {D : Nat → Nat → Int} (hv : Va n v) (h : Sat n v ⟨N, b, D⟩) {k l : Nat} {x : Int} (hk : k ≤ n) (hl : l ≤ n) (h1 : k ≤ n → l ≤ n → v k - v l ≤ x) (h2 : x ≤ D k l) : Sat n v ⟨N, b, upd2 D k l x⟩ ∧ Le n ⟨N, b, D⟩ ⟨N, b, upd2 D k l x⟩ := by
  refine ⟨⟨h.N, h.none, fun i j hi hj => ?_, fun i j hi hj => ?_⟩, fun i j hi hj => ?_, fun i j q => ?_⟩
  · show _ ≤ upd2 D k l x i j
    rw [u2]
    split
    · rename_i e; obtain ⟨rfl, rfl⟩ := e; exact h1 hi hj
    · exact h.lo i j hi hj
  · show upd2 D k l x i j ≤ _
    rw [u2]
    split
    · rename_i e; obtain ⟨rfl, rfl⟩ := e; exact Int.le_trans h2 (h.hi i j hi hj)
    · exact h.hi i j hi hj
  · show upd2 D k l x i j ≤ D i j
    rw [u2]
    split
    · rename_i e; obtain ⟨rfl, rfl⟩ := e; exact h2
    · exact Int.le_refl _
  · show upd2 D k l x i j = D i j
    rw [u2, if_neg (by omega)]
theorem own_law {n : Nat} {v : Nat → Int} (hv : Va n v) {z : zone_Zone} (h : Sat n v z) : ∃ z', zone_Zone_own z = some z' ∧ Sat n v z' ∧ Le n z z' := by
  have hn := hv.n6
  have hz := hv.z
  obtain ⟨o, h1, h2⟩ := iter_inv (body := zone_Zone_own_l1) n (fun i x => x.1 = ((i + 1 : Nat) : Int) ∧ Sat n v x.2 ∧ Le n z x.2) (fun o => ∃ z', o = .inr z' ∧ Sat n v z' ∧ Le n z z') (fun i x hi hx => by
    obtain ⟨x1, ⟨N, b, D⟩⟩ := x
    obtain ⟨rfl, hs, hle⟩ := hx
    have hN : N = (n : Int) := hs.N
    have r1 := hv.r (i + 1) (by omega)
    have r2 := hs.lo (i + 1) 0 (by omega) (by omega)
    have r3 := hs.lo 0 (i + 1) (by omega) (by omega)
    simp only at r2 r3
    obtain ⟨s1, l1⟩ := hs.set hv (k := i + 1) (l := 0) (x := min (D (i + 1) 0) 2147483647) (by omega) (by omega) (fun _ _ => by omega) (by omega)
    obtain ⟨s2, l2⟩ := s1.set hv (k := 0) (l := i + 1) (x := min (upd2 D (i + 1) 0 (min (D (i + 1) 0) 2147483647) 0 (i + 1)) 2147483648) (by omega) (by omega) (fun _ _ => by
      have := s1.lo 0 (i + 1) (by omega) (by omega)
      simp only at this
      omega) (by omega)
    refine ⟨(IntKind.i64.wrap (((i + 1 : Nat) : Int) + 1), _), ?_, wsucc (by omega), s2, hle.tr (l1.tr l2)⟩
    unfold zone_Zone_own_l1
    simp only
    rw [hN, if_pos (d_le (by omega)), inA_nat (by omega)]
    rfl) (fun x hx => by
    obtain ⟨x1, ⟨N, b, D⟩⟩ := x
    obtain ⟨rfl, hs, hle⟩ := hx
    have hN : N = (n : Int) := hs.N
    refine ⟨_, ?_, ⟨N, b, D⟩, rfl, hs, hle⟩
    unfold zone_Zone_own_l1
    simp only
    rw [hN, if_neg d_gt]) (1, z) ⟨rfl, h, Le.rfl'⟩
  obtain ⟨z', rfl, h3, h4⟩ := h2
  refine ⟨z', ?_, h3, h4⟩
  unfold zone_Zone_own
  rw [h1]; rfl
theorem close4 {n : Nat} {v : Nat → Int} (hv : Va n v) (k i : Nat) (hk : k ≤ n) (hi : i ≤ n) (x2 x3 : Int × zone_Zone) (e2 : x2.1 = (k : Int)) (e3 : x3.1 = (i : Int)) {z : zone_Zone} (h : Sat n v z) :
    ∃ z', iter (zone_Zone_close_l4 x2 x3) (0, z) = some (.inr z') ∧ Sat n v z' ∧ Le n z z' ∧ ∀ j, j ≤ n → z'.D i j ≤ z.D i k + z.D k j := by
  have hn := hv.n6
  obtain ⟨o, h1, h2⟩ := iter_inv (body := zone_Zone_close_l4 x2 x3) (n + 1) (fun j x => x.1 = (j : Int) ∧ Sat n v x.2 ∧ Le n z x.2 ∧ ∀ l, l < j → x.2.D i l ≤ z.D i k + z.D k l) (fun o => ∃ z', o = .inr z' ∧ Sat n v z' ∧ Le n z z' ∧ ∀ l, l ≤ n → z'.D i l ≤ z.D i k + z.D k l) (fun j x hj hx => by
    obtain ⟨x1, ⟨N, b, D⟩⟩ := x
    obtain ⟨rfl, hs, hle, hvia⟩ := hx
    have hN : N = (n : Int) := hs.N
    have a1 := hs.lo i k hi hk
    have a2 := hs.lo k j hk (by omega)
    have a3 := hs.lo i j hi (by omega)
    have b1 := hs.hi i k hi hk
    have b2 := hs.hi k j hk (by omega)
    have r1 := hv.r i hi
    have r2 := hv.r j (by omega)
    have r3 := hv.r k hk
    simp only at a1 a2 a3 b1 b2
    have hw : IntKind.i64.wrap (D i k + D k j) = D i k + D k j := w64 (by omega) (by omega)
    obtain ⟨s1, l1⟩ := hs.set hv (k := i) (l := j) (x := min (D i j) (D i k + D k j)) (by omega) (by omega) (fun _ _ => by omega) (by omega)
    refine ⟨(IntKind.i64.wrap ((j : Int) + 1), _), ?_, wsucc (by omega), s1, hle.tr l1, fun l hl => ?_⟩
    rotate_left
    · show upd2 D i j _ i l ≤ _
      have q1 := hle.le i k hi hk
      have q2 := hle.le k j hk (by omega)
      simp only at q1 q2
      rw [u2]
      by_cases e : l = j
      · subst e; rw [if_pos ⟨rfl, rfl⟩]; omega
      · rw [if_neg (fun c => e c.2)]; exact hvia l (by omega)
    unfold zone_Zone_close_l4
    simp only
    rw [hN, if_pos (d_le (by omega)), e2, e3, inA_nat (show i < 7 by omega), inA_nat (show k < 7 by omega), inA_nat (show j < 7 by omega)]
    simp only [sb, hw]) (fun x hx => by
    obtain ⟨x1, ⟨N, b, D⟩⟩ := x
    obtain ⟨rfl, hs, hle, hvia⟩ := hx
    have hN : N = (n : Int) := hs.N
    refine ⟨_, ?_, ⟨N, b, D⟩, rfl, hs, hle, fun l hl => hvia l (by omega)⟩
    unfold zone_Zone_close_l4
    simp only
    rw [hN, if_neg d_gt]) (0, z) ⟨rfl, h, Le.rfl', fun l hl => absurd hl (by omega)⟩
  obtain ⟨z', rfl, h3, h4, h5⟩ := h2
  exact ⟨z', h1, h3, h4, h5⟩
theorem close3 {n : Nat} {v : Nat → Int} (hv : Va n v) (k : Nat) (hk : k ≤ n) (x2 : Int × zone_Zone) (e2 : x2.1 = (k : Int)) {z : zone_Zone} (h : Sat n v z) :
    ∃ z', iter (zone_Zone_close_l3 x2) (0, z) = some (.inr z') ∧ Sat n v z' ∧ Le n z z' ∧ ∀ i j, i ≤ n → j ≤ n → z'.D i j ≤ z.D i k + z.D k j := by
  have hn := hv.n6
  obtain ⟨o, h1, h2⟩ := iter_inv (body := zone_Zone_close_l3 x2) (n + 1) (fun i x => x.1 = (i : Int) ∧ Sat n v x.2 ∧ Le n z x.2 ∧ ∀ p j, p < i → j ≤ n → x.2.D p j ≤ z.D p k + z.D k j) (fun o => ∃ z', o = .inr z' ∧ Sat n v z' ∧ Le n z z' ∧ ∀ p j, p ≤ n → j ≤ n → z'.D p j ≤ z.D p k + z.D k j) (fun i x hi hx => by
    obtain ⟨x1, w⟩ := x
    obtain ⟨rfl, hs, hle, hvia⟩ := hx
    obtain ⟨z', q1, q2, q3, q4⟩ := close4 hv k i hk (by omega) x2 ((i : Int), w) e2 rfl hs
    refine ⟨(IntKind.i64.wrap ((i : Int) + 1), _), ?_, wsucc (by omega), q2, hle.tr q3, fun p j hp hj => ?_⟩
    rotate_left
    · by_cases e : p = i
      · subst e
        have r1 := q4 j hj
        have r2 := hle.le p k (by omega) hk
        have r3 := hle.le k j hk hj
        simp only at r1 r2 r3 ⊢
        omega
      · exact Int.le_trans (q3.le p j (by omega) hj) (hvia p j (by omega) hj)
    unfold zone_Zone_close_l3
    simp only
    rw [hs.N, if_pos (d_le (by omega)), q1]
    rfl) (fun x hx => by
    obtain ⟨x1, w⟩ := x
    obtain ⟨rfl, hs, hle, hvia⟩ := hx
    refine ⟨_, ?_, w, rfl, hs, hle, fun p j hp hj => hvia p j (by omega) hj⟩
    unfold zone_Zone_close_l3
    simp only
    rw [hs.N, if_neg d_gt]) (0, z) ⟨rfl, h, Le.rfl', fun p j hp _ => absurd hp (by omega)⟩
  obtain ⟨z', rfl, h3, h4, h5⟩ := h2
  exact ⟨z', h1, h3, h4, h5⟩
theorem close2 {n : Nat} {v : Nat → Int} (hv : Va n v) {z : zone_Zone} (h : Sat n v z) :
    ∃ z', iter zone_Zone_close_l2 (0, z) = some (.inr z') ∧ Sat n v z' ∧ Le n z z' ∧ ∀ i j, i ≤ n → j ≤ n → z'.D i j ≤ z.D i 0 + z.D 0 j := by
  have hn := hv.n6
  obtain ⟨o, h1, h2⟩ := iter_inv (body := zone_Zone_close_l2) (n + 1) (fun i x => x.1 = (i : Int) ∧ Sat n v x.2 ∧ Le n z x.2 ∧ (0 < i → ∀ p j, p ≤ n → j ≤ n → x.2.D p j ≤ z.D p 0 + z.D 0 j)) (fun o => ∃ z', o = .inr z' ∧ Sat n v z' ∧ Le n z z' ∧ ∀ p j, p ≤ n → j ≤ n → z'.D p j ≤ z.D p 0 + z.D 0 j) (fun i x hi hx => by
    obtain ⟨x1, w⟩ := x
    obtain ⟨rfl, hs, hle, hvia⟩ := hx
    obtain ⟨z', q1, q2, q3, q4⟩ := close3 hv i (by omega) ((i : Int), w) rfl hs
    refine ⟨(IntKind.i64.wrap ((i : Int) + 1), _), ?_, wsucc (by omega), q2, hle.tr q3, fun _ p j hp hj => ?_⟩
    rotate_left
    · by_cases e : i = 0
      · subst e
        have r1 := q4 p j hp hj
        have r2 := hle.le p 0 hp (by omega)
        have r3 := hle.le 0 j (by omega) hj
        simp only at r1 r2 r3 ⊢
        omega
      · exact Int.le_trans (q3.le p j hp hj) (hvia (by omega) p j hp hj)
    unfold zone_Zone_close_l2
    simp only
    rw [hs.N, if_pos (d_le (by omega)), q1]
    rfl) (fun x hx => by
    obtain ⟨x1, w⟩ := x
    obtain ⟨rfl, hs, hle, hvia⟩ := hx
    refine ⟨_, ?_, w, rfl, hs, hle, hvia (by omega)⟩
    unfold zone_Zone_close_l2
    simp only
    rw [hs.N, if_neg d_gt]) (0, z) ⟨rfl, h, Le.rfl', fun h0 => absurd h0 (by omega)⟩
  obtain ⟨z', rfl, h3, h4, h5⟩ := h2
  exact ⟨z', h1, h3, h4, h5⟩
theorem close5 {n : Nat} {v : Nat → Int} (hv : Va n v) {z : zone_Zone} (h : Sat n v z) : iter (zone_Zone_close_l5 z) 0 = some (.inr ()) := by
  have hn := hv.n6
  obtain ⟨o, h1, h2⟩ := iter_inv (body := zone_Zone_close_l5 z) (n + 1) (fun i x => x = (i : Int)) (fun o => o = .inr ()) (fun i x hi hx => by
    subst hx
    have a := h.lo i i (by omega) (by omega)
    refine ⟨IntKind.i64.wrap ((i : Int) + 1), ?_, wsucc (by omega)⟩
    unfold zone_Zone_close_l5
    rw [h.N, if_pos (d_le (by omega)), inA_nat (show i < 7 by omega), sb, sb, if_neg (by simp; omega)]) (fun x hx => by
    subst hx
    refine ⟨_, ?_, rfl⟩
    unfold zone_Zone_close_l5
    rw [h.N, if_neg d_gt]) 0 rfl
  rw [h1, h2]
theorem count_ok {n : Nat} (h : n ≤ 6) : zone_count (n : Int) = some true := by
  unfold zone_count
  rw [if_pos (by simp), sb]
  simp; omega
theorem close_via {n : Nat} {v : Nat → Int} (hv : Va n v) {z : zone_Zone} (h : Sat n v z) : ∃ z', zone_Zone_close z = some z' ∧ Sat n v z' ∧ Le n z z' ∧ ∀ i j, i ≤ n → j ≤ n → z'.D i j ≤ z.D i 0 + z.D 0 j := by
  obtain ⟨z1, q1, s1, l1⟩ := own_law hv h
  obtain ⟨z2, q2, s2, l2, v2⟩ := close2 hv s1
  refine ⟨z2, ?_, s2, l1.tr l2, fun i j hi hj => ?_⟩
  · unfold zone_Zone_close
    rw [if_neg (by rw [h.none]; simp), h.N, count_ok hv.n6, sb, sb, if_neg (by simp), q1, sb, q2]
    show (iter (zone_Zone_close_l5 z2) 0 >>= _) = _
    rw [close5 hv s2]
    rfl
  · have r1 := v2 i j hi hj
    have r2 := l1.le i 0 hi (by omega)
    have r3 := l1.le 0 j (by omega) hj
    omega
theorem close_law {n : Nat} {v : Nat → Int} (hv : Va n v) {z : zone_Zone} (h : Sat n v z) : ∃ z', zone_Zone_close z = some z' ∧ Sat n v z' ∧ Le n z z' := by
  obtain ⟨z', a, b, c, _⟩ := close_via hv h
  exact ⟨z', a, b, c⟩
theorem variable_ok {n x : Nat} {v : Nat → Int} (hv : Va n v) {z : zone_Zone} (h : Sat n v z) (hx : x < n) : zone_variable z (x : Int) = some true := by
  unfold zone_variable
  rw [h.N, count_ok hv.n6, sb, if_pos rfl, h.none, if_pos (show (!false) = true from rfl), if_pos (by simp), sb]
  simp; exact hx
end Go.Proofs.Ytbebnddalipfhaa.Abs

/- Plain laws of numbers of variables: Copy, Bound, Has, Zeros, one row of numbers. -/
import Derived.Test.YtbebnddalipfhaaGreatZoneB
namespace Go.Proofs.YtbebnddalipfhaaGreat.Abs
open Go Go.RowKit
set_option linter.unusedVariables false
set_option linter.unusedSimpArgs false
theorem Sat.put {n : Nat} {v : Nat → Int} {N : Int} {b : Bool} {D : Nat → Nat → Int} (h : Sat n v ⟨N, b, D⟩) {k l : Nat} {x : Int} (h1 : v k - v l ≤ x) (h2 : x ≤ 1099511627776) : Sat n v ⟨N, b, upd2 D k l x⟩ := by
  refine ⟨h.N, h.none, fun i j hi hj => ?_, fun i j hi hj => ?_⟩
  · show _ ≤ upd2 D k l x i j
    rw [u2]
    split
    · rename_i e; obtain ⟨rfl, rfl⟩ := e; exact h1
    · exact h.lo i j hi hj
  · show upd2 D k l x i j ≤ _
    rw [u2]
    split
    · exact h2
    · exact h.hi i j hi hj
theorem NBound_law {n : Nat} {v : Nat → Int} (hv : Va n v) {a : num_Num} (h : NSat n v a) (p q : Nat) (hp : p ≤ n) (hq : q ≤ n) (by_ : Int) (hb : v p - v q ≤ by_) (x y : Int) (ex : x = (p : Int) - 1) (ey : y = (q : Int) - 1) :
    ∃ b, num_Bound a x y by_ = some b ∧ NSat n v b ∧ Le n a.Z b.Z := by
  obtain ⟨z', q1, s, l, _⟩ := Bound_law hv h.z p q hp hq by_ hb x y ex ey
  refine ⟨_, ?_, nsat_of s, l⟩
  unfold num_Bound
  rw [q1, sb, of_law hv s]; rfl
/-- x is y and so much more. -/
theorem Copy_law {n : Nat} {v v' : Nat → Int} (hv : Va n v) (hv' : Va n v') {a : num_Num} (h : NSat n v a) (x y : Nat) (hx : x < n) (hy : y < n) (hxy : x ≠ y) (by_ : Int) (hb : -1099511627776 ≤ by_ ∧ by_ ≤ 1099511627776) (he : ∀ i, i ≠ x + 1 → v' i = v i) (hc : v' (x + 1) = v (y + 1) + by_) :
    ∃ b, num_Copy a (x : Int) (y : Int) by_ = some b ∧ NSat n v' b := by
  have hn := hv.n6
  have ey : v' (y + 1) = v (y + 1) := he _ (by omega)
  obtain ⟨z1, q1, s1, _⟩ := forget_law hv hv' h.z (x + 1) (by omega) he
  obtain ⟨⟨N2, b2, D2⟩, q2, s2, _⟩ := close_law hv' s1
  have s3 := s2.put (k := x + 1) (l := y + 1) (x := by_) (by omega) hb.2
  have s4 := s3.put (k := y + 1) (l := x + 1) (x := - by_) (by omega) (by omega)
  obtain ⟨z5, q5, s5, _⟩ := close_law hv' s4
  refine ⟨⟨false, nI z5 n, z5⟩, ?_, nsat_of s5⟩
  have hmm : min (max by_ (-1099511627776)) 1099511627776 = by_ := by omega
  have oy := orNought_ok hv h.z (y := y + 1) (by omega)
  rw [show (((y + 1 : Nat) : Int) - 1) = (y : Int) by omega] at oy
  have hw : IntKind.i64.wrap (0 - by_) = - by_ := by rw [w64 (by omega) (by omega)]; omega
  unfold num_Copy zone_Copy
  rw [variable_ok hv h.z hx, sb, if_neg (by simp), oy, sb, sb, if_neg (by simp), if_neg (by simp; omega), wsucc (by omega), wsucc (by omega), q1, sb, q2, sb, inA_nat (show x + 1 < 7 by omega), inA_nat (show y + 1 < 7 by omega), hmm, hw]
  simp only [sb]
  rw [q5, sb, sb, of_law hv' s5]; rfl
/-! ### Zeros, one row -/
theorem zero_arr (i j : Nat) : (arr (arr 0 []) [(arr 0 [0, 0, 0, 0, 0, 0, 0]), (arr 0 [0, 0, 0, 0, 0, 0, 0]), (arr 0 [0, 0, 0, 0, 0, 0, 0]), (arr 0 [0, 0, 0, 0, 0, 0, 0]), (arr 0 [0, 0, 0, 0, 0, 0, 0]), (arr 0 [0, 0, 0, 0, 0, 0, 0]), (arr 0 [0, 0, 0, 0, 0, 0, 0])] : Nat → Nat → Int) i j = 0 := by
  have e : ∀ j, (arr (0 : Int) [0, 0, 0, 0, 0, 0, 0] j) = 0 := fun j => by
    unfold arr
    match j with
    | 0 | 1 | 2 | 3 | 4 | 5 | 6 => rfl
    | _ + 7 => rfl
  match i with
  | 0 | 1 | 2 | 3 | 4 | 5 | 6 => exact e j
  | _ + 7 => rfl
/-- The Num of one row: its Itvs are its numbers. -/
structure Pt (n : Nat) (v : Nat → Int) (k : Nat) (a : num_Num) : Prop where
  s : NSat n v a
  up : ∀ x, x < k → a.Z.D (x + 1) 0 ≤ v (x + 1)
  dn : ∀ x, x < k → a.Z.D 0 (x + 1) ≤ - v (x + 1)
theorem Pt.I {n : Nat} {v : Nat → Int} (hv : Va n v) {a : num_Num} (h : Pt n v n a) : a.I = (List.range n).map fun x => itv_Itv.mk (v (x + 1)) (v (x + 1)) := by
  rw [h.s.I]
  unfold nI
  refine List.map_congr_left fun x hx => ?_
  have hx : x < n := List.mem_range.1 hx
  have a1 := h.up x hx
  have a2 := h.dn x hx
  have b1 := h.s.z.lo (x + 1) 0 (by omega) (by omega)
  have b2 := h.s.z.lo 0 (x + 1) (by omega) (by omega)
  have z0 := hv.z
  have r := hv.r (x + 1) (by omega)
  unfold zI ivO
  rw [if_neg (by omega)]
  congr 1 <;> omega
theorem Zeros_law {n : Nat} (hn : n ≤ 6) : ∃ a, num_Zeros (n : Int) = some a ∧ Pt n (fun _ => 0) n a := by
  have hv : Va n (fun _ => 0) := ⟨hn, rfl, fun _ _ => by constructor <;> decide⟩
  have hN : min (max (n : Int) 0) 6 = (n : Int) := by omega
  have hs : Sat n (fun _ => 0) (zone_Zone.mk (n : Int) false (arr (arr 0 []) [(arr 0 [0, 0, 0, 0, 0, 0, 0]), (arr 0 [0, 0, 0, 0, 0, 0, 0]), (arr 0 [0, 0, 0, 0, 0, 0, 0]), (arr 0 [0, 0, 0, 0, 0, 0, 0]), (arr 0 [0, 0, 0, 0, 0, 0, 0]), (arr 0 [0, 0, 0, 0, 0, 0, 0]), (arr 0 [0, 0, 0, 0, 0, 0, 0])])) :=
    ⟨rfl, rfl, fun i j _ _ => by simp only [zero_arr]; omega, fun i j _ _ => by simp only [zero_arr]; omega⟩
  refine ⟨_, ?_, nsat_of hs, fun x _ => by simp only [zero_arr]; omega, fun x _ => by simp only [zero_arr]; omega⟩
  unfold num_Zeros zone_Zeros
  rw [hN, sb, of_law hv hs]; rfl
def va (l : List Int) (k : Nat) : Nat → Int := fun i => if i = 0 ∨ k < i then 0 else l.getD (i - 1) 0
theorem row_law (l : List Int) (hl : l.length ≤ 6) (hr : ∀ x ∈ l, -2147483648 ≤ x ∧ x ≤ 2147483647) : Va l.length (va l l.length) ∧ ∃ a, l14_row l = some a ∧ Pt l.length (va l l.length) l.length a := by
  have hva : ∀ k, k ≤ l.length → Va l.length (va l k) := fun k hk => ⟨hl, by unfold va; simp, fun i hi => by
    unfold va
    split
    · constructor <;> decide
    · have hlt : i - 1 < l.length := by omega
      rw [List.getD_eq_getElem?_getD, List.getElem?_eq_getElem hlt]
      exact hr _ (List.getElem_mem hlt)⟩
  refine ⟨hva _ (Nat.le_refl _), ?_⟩
  obtain ⟨a0, q0, p0⟩ := Zeros_law hl
  have e0 : va l 0 = fun _ => 0 := by funext i; unfold va; rw [if_pos (by omega)]
  obtain ⟨o, h1, h2⟩ := iter_inv (body := l14_row_l1 l) l.length (fun i x => x.1 = (i : Int) ∧ Pt l.length (va l i) i x.2) (fun o => ∃ a, o = .inr a ∧ Pt l.length (va l l.length) l.length a) (fun i x hi hx => by
    obtain ⟨x1, a⟩ := x
    obtain ⟨rfl, hp⟩ := hx
    simp only at hp
    have hm := hr _ (List.getElem_mem hi)
    have ev : va l (i + 1) (i + 1) = l[i] := by
      unfold va
      rw [if_neg (by omega), List.getD_eq_getElem?_getD, show i + 1 - 1 = i by omega, List.getElem?_eq_getElem hi]; rfl
    have hc : itv_Const l[i] = some ⟨l[i], l[i]⟩ := by
      unfold itv_Const
      rw [itv_Of_eq]
      unfold ivO
      rw [if_neg (by omega), sb, show max l[i] (-2147483648) = l[i] by omega, show min l[i] 2147483647 = l[i] by omega]
    have hee : ∀ j, j ≠ i + 1 → va l (i + 1) j = va l i j := fun j hj => by
      unfold va
      by_cases c : j = 0 ∨ i < j
      · rw [if_pos c, if_pos (by omega)]
      · rw [if_neg c, if_neg (by omega)]
    obtain ⟨b, q, s, d, u1, u2⟩ := Set_law (hva i (by omega)) (hva (i + 1) (by omega)) hp.s i hi hee ⟨l[i], l[i]⟩ (by rw [ev]; exact ⟨Int.le_refl _, Int.le_refl _⟩) ⟨hm.1, by simp only; omega⟩
    refine ⟨(IntKind.i64.wrap ((i : Int) + 1), b), ?_, wsucc (by omega), s, fun x hx => ?_, fun x hx => ?_⟩
    · unfold l14_row_l1
      simp only
      rw [if_pos (by simpa using hi), idx_nat (List.getElem?_eq_getElem hi), sb, hc, sb, q]; rfl
    · by_cases c : x = i
      · subst c; rw [ev]; exact u1
      · rw [hee (x + 1) (by omega)]
        exact Int.le_trans (d (x + 1) 0 (by omega) (by omega) (by omega) (by omega)) (hp.up x (by omega))
    · by_cases c : x = i
      · subst c; rw [ev]; exact u2
      · rw [hee (x + 1) (by omega)]
        exact Int.le_trans (d 0 (x + 1) (by omega) (by omega) (by omega) (by omega)) (hp.dn x (by omega))) (fun x hx => by
    obtain ⟨x1, a⟩ := x
    obtain ⟨rfl, hp⟩ := hx
    refine ⟨_, ?_, a, rfl, hp⟩
    unfold l14_row_l1
    simp only
    rw [if_neg (by simp)]) (0, a0) ⟨rfl, by rw [e0]; exact ⟨p0.s, fun x hx => by omega, fun x hx => by omega⟩⟩
  obtain ⟨a, rfl, hp⟩ := h2
  refine ⟨a, ?_, hp⟩
  unfold l14_row
  rw [q0, sb, h1]; rfl
theorem None_law {n : Nat} (hn : n ≤ 6) : ∃ a, num_None (n : Int) = some a ∧ a.None = true := by
  have hN : min (max (n : Int) 0) 6 = (n : Int) := by omega
  have hI : ∀ (z : zone_Zone) (x : Nat), z.None = true → z.N = (n : Int) → zone_Itv z (x : Int) = some ⟨1, 0⟩ := fun z x hz hN' => by
    unfold zone_Itv zone_variable
    rw [hN', count_ok hn, sb, if_pos rfl, hz, if_neg (by simp), sb, sb, if_pos (by rfl)]; rfl
  unfold num_None
  rw [hN]
  generalize hz : (zone_Zone.mk (n : Int) true _) = z
  have z1 : z.None = true := by rw [← hz]
  have z2 : z.N = (n : Int) := by rw [← hz]
  obtain ⟨o, h1, h2⟩ := iter_inv (body := num_of_l2 z) n (fun i x => x.1 = (i : Int) ∧ x.2.1.None = true ∧ x.2.2.length = i) (fun o => ∃ a l, o = .inr (a, l) ∧ a.None = true) (fun i x hi hx => by
    obtain ⟨x1, ⟨b, l, w⟩, l2⟩ := x
    obtain ⟨rfl, hb, hl⟩ := hx
    simp only at hb hl
    subst hb
    refine ⟨(IntKind.i64.wrap ((i : Int) + 1), ⟨true, l2 ++ [⟨1, 0⟩], w⟩, l2 ++ [⟨1, 0⟩]), ?_, wsucc (by omega), rfl, by simp; exact hl⟩
    unfold num_of_l2
    simp only
    rw [z2, hN, if_pos (by simpa using hi), hI z i z1 z2, sb, app_some (by simp; omega)]; rfl) (fun x hx => by
    obtain ⟨x1, ⟨b, l, w⟩, l2⟩ := x
    obtain ⟨rfl, hb, hl⟩ := hx
    simp only at hb
    subst hb
    refine ⟨.inr (⟨true, l2, w⟩, l2), ?_, ⟨true, l2, w⟩, l2, rfl, rfl⟩
    unfold num_of_l2
    simp only
    rw [z2, hN, if_neg (by simp)]) (0, ⟨z.None, [], z⟩, []) ⟨rfl, z1, rfl⟩
  obtain ⟨a, l, rfl, ha⟩ := h2
  refine ⟨⟨a.None, l, a.Z⟩, ?_, ha⟩
  unfold num_of
  rw [h1]; rfl
end Go.Proofs.YtbebnddalipfhaaGreat.Abs

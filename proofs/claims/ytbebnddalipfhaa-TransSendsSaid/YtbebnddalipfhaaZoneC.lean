/- Plain laws of numbers of variables: Copy, Bound, Has, Zeros, one row of numbers. -/
import Derived.Test.YtbebnddalipfhaaZoneB
namespace Go.Proofs.Ytbebnddalipfhaa.Abs
open Go Go.RowKit
set_option linter.unusedVariables false
set_option linter.unusedSimpArgs false
theorem Sat.put {n : Nat} {v : Nat → Int} {N : Int} {b : Bool} {D : Nat → Nat → Int} (h : Sat n v ⟨N, b, D⟩) {k l : Nat} {x : Int} (h1 : v k - v l ≤ x) (h2 : x ≤ 1099511627776) : Sat n v ⟨N, b, upd2 D k l x⟩ := by
  refine ⟨h.N, h.none, fun i j hi hj => ?_, fun i j hi hj => ?_⟩
  · show _ ≤ upd2 D k l x i j
    rw [u2]
    split
    · rename_i e; obtain ⟨rfl, rfl⟩ := e; exact h1
    · exact h.lo i j hi hj
  · show upd2 D k l x i j ≤ _
    rw [u2]
    split
    · exact h2
    · exact h.hi i j hi hj
/-- x is y and so much more. -/
theorem Copy_law {n : Nat} {v v' : Nat → Int} (hv : Va n v) (hv' : Va n v') {a : num_Num} (h : NSat n v a) (x y : Nat) (hx : x < n) (hy : y < n) (hxy : x ≠ y) (by_ : Int) (hb : -1099511627776 ≤ by_ ∧ by_ ≤ 1099511627776) (he : ∀ i, i ≠ x + 1 → v' i = v i) (hc : v' (x + 1) = v (y + 1) + by_) :
    ∃ b, num_Copy a (x : Int) (y : Int) by_ = some b ∧ NSat n v' b := by
  have hn := hv.n6
  have ey : v' (y + 1) = v (y + 1) := he _ (by omega)
  obtain ⟨z1, q1, s1, _⟩ := forget_law hv hv' h.z (x + 1) (by omega) he
  obtain ⟨⟨N2, b2, D2⟩, q2, s2, _⟩ := close_law hv' s1
  have s3 := s2.put (k := x + 1) (l := y + 1) (x := by_) (by omega) hb.2
  have s4 := s3.put (k := y + 1) (l := x + 1) (x := - by_) (by omega) (by omega)
  obtain ⟨z5, q5, s5, _⟩ := close_law hv' s4
  refine ⟨⟨false, nI z5 n, z5⟩, ?_, nsat_of s5⟩
  have hmm : min (max by_ (-1099511627776)) 1099511627776 = by_ := by omega
  have oy := orNought_ok hv h.z (y := y + 1) (by omega)
  rw [show (((y + 1 : Nat) : Int) - 1) = (y : Int) by omega] at oy
  have hw : IntKind.i64.wrap (0 - by_) = - by_ := by rw [w64 (by omega) (by omega)]; omega
  unfold num_Copy zone_Copy
  rw [variable_ok hv h.z hx, sb, if_neg (by simp), oy, sb, sb, if_neg (by simp), if_neg (by simp; omega), wsucc (by omega), wsucc (by omega), q1, sb, q2, sb, inA_nat (show x + 1 < 7 by omega), inA_nat (show y + 1 < 7 by omega), hmm, hw]
  simp only [sb]
  rw [q5, sb, sb, of_law hv' s5]; rfl
/-! ### Zeros, one row -/
theorem zero_arr (i j : Nat) : (arr (arr 0 []) [(arr 0 [0, 0, 0, 0, 0, 0, 0]), (arr 0 [0, 0, 0, 0, 0, 0, 0]), (arr 0 [0, 0, 0, 0, 0, 0, 0]), (arr 0 [0, 0, 0, 0, 0, 0, 0]), (arr 0 [0, 0, 0, 0, 0, 0, 0]), (arr 0 [0, 0, 0, 0, 0, 0, 0]), (arr 0 [0, 0, 0, 0, 0, 0, 0])] : Nat → Nat → Int) i j = 0 := by
  have e : ∀ j, (arr (0 : Int) [0, 0, 0, 0, 0, 0, 0] j) = 0 := fun j => by
    unfold arr
    match j with
    | 0 | 1 | 2 | 3 | 4 | 5 | 6 => rfl
    | _ + 7 => rfl
  match i with
  | 0 | 1 | 2 | 3 | 4 | 5 | 6 => exact e j
  | _ + 7 => rfl
/-- The Num of one row: its Itvs are its numbers. -/
structure Pt (n : Nat) (v : Nat → Int) (k : Nat) (a : num_Num) : Prop where
  s : NSat n v a
  up : ∀ x, x < k → a.Z.D (x + 1) 0 ≤ v (x + 1)
  dn : ∀ x, x < k → a.Z.D 0 (x + 1) ≤ - v (x + 1)
theorem Pt.I {n : Nat} {v : Nat → Int} (hv : Va n v) {a : num_Num} (h : Pt n v n a) : a.I = (List.range n).map fun x => itv_Itv.mk (v (x + 1)) (v (x + 1)) := by
  rw [h.s.I]
  unfold nI
  refine List.map_congr_left fun x hx => ?_
  have hx : x < n := List.mem_range.1 hx
  have a1 := h.up x hx
  have a2 := h.dn x hx
  have b1 := h.s.z.lo (x + 1) 0 (by omega) (by omega)
  have b2 := h.s.z.lo 0 (x + 1) (by omega) (by omega)
  have z0 := hv.z
  have r := hv.r (x + 1) (by omega)
  unfold zI ivO
  rw [if_neg (by omega)]
  congr 1 <;> omega
theorem Zeros_law {n : Nat} (hn : n ≤ 6) : ∃ a, num_Zeros (n : Int) = some a ∧ Pt n (fun _ => 0) n a := by
  have hv : Va n (fun _ => 0) := ⟨hn, rfl, fun _ _ => by constructor <;> decide⟩
  have hN : min (max (n : Int) 0) 6 = (n : Int) := by omega
  have hs : Sat n (fun _ => 0) (zone_Zone.mk (n : Int) false (arr (arr 0 []) [(arr 0 [0, 0, 0, 0, 0, 0, 0]), (arr 0 [0, 0, 0, 0, 0, 0, 0]), (arr 0 [0, 0, 0, 0, 0, 0, 0]), (arr 0 [0, 0, 0, 0, 0, 0, 0]), (arr 0 [0, 0, 0, 0, 0, 0, 0]), (arr 0 [0, 0, 0, 0, 0, 0, 0]), (arr 0 [0, 0, 0, 0, 0, 0, 0])])) :=
    ⟨rfl, rfl, fun i j _ _ => by simp only [zero_arr]; omega, fun i j _ _ => by simp only [zero_arr]; omega⟩
  refine ⟨_, ?_, nsat_of hs, fun x _ => by simp only [zero_arr]; omega, fun x _ => by simp only [zero_arr]; omega⟩
  unfold num_Zeros zone_Zeros
  rw [hN, sb, of_law hv hs]; rfl
theorem None_law {n : Nat} (hn : n ≤ 6) : ∃ a, num_None (n : Int) = some a ∧ a.None = true := by
  have hN : min (max (n : Int) 0) 6 = (n : Int) := by omega
  have hI : ∀ (z : zone_Zone) (x : Nat), z.None = true → z.N = (n : Int) → zone_Itv z (x : Int) = some ⟨1, 0⟩ := fun z x hz hN' => by
    unfold zone_Itv zone_variable
    rw [hN', count_ok hn, sb, if_pos rfl, hz, if_neg (by simp), sb, sb, if_pos (by rfl)]; rfl
  unfold num_None
  rw [hN]
  generalize hz : (zone_Zone.mk (n : Int) true _) = z
  have z1 : z.None = true := by rw [← hz]
  have z2 : z.N = (n : Int) := by rw [← hz]
  obtain ⟨o, h1, h2⟩ := iter_inv (body := num_of_l2 z) n (fun i x => x.1 = (i : Int) ∧ x.2.1.None = true ∧ x.2.2.length = i) (fun o => ∃ a l, o = .inr (a, l) ∧ a.None = true) (fun i x hi hx => by
    obtain ⟨x1, ⟨b, l, w⟩, l2⟩ := x
    obtain ⟨rfl, hb, hl⟩ := hx
    simp only at hb hl
    subst hb
    refine ⟨(IntKind.i64.wrap ((i : Int) + 1), ⟨true, l2 ++ [⟨1, 0⟩], w⟩, l2 ++ [⟨1, 0⟩]), ?_, wsucc (by omega), rfl, by simp; exact hl⟩
    unfold num_of_l2
    simp only
    rw [z2, hN, if_pos (by simpa using hi), hI z i z1 z2, sb, app_some (by simp; omega)]; rfl) (fun x hx => by
    obtain ⟨x1, ⟨b, l, w⟩, l2⟩ := x
    obtain ⟨rfl, hb, hl⟩ := hx
    simp only at hb
    subst hb
    refine ⟨.inr (⟨true, l2, w⟩, l2), ?_, ⟨true, l2, w⟩, l2, rfl, rfl⟩
    unfold num_of_l2
    simp only
    rw [z2, hN, if_neg (by simp)]) (0, ⟨z.None, [], z⟩, []) ⟨rfl, z1, rfl⟩
  obtain ⟨a, l, rfl, ha⟩ := h2
  refine ⟨⟨a.None, l, a.Z⟩, ?_, ha⟩
  unfold num_of
  rw [h1]; rfl
end Go.Proofs.Ytbebnddalipfhaa.Abs

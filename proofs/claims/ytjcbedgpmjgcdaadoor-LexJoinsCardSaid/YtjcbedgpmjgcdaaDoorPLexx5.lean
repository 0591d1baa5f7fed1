-- Written for this claim by a program of this session, which runs the kit's printer with contracts by hand put in. Lean checks it.
import Derived.Test.YtjcbedgpmjgcdaaDoorPLexx0
import Derived.Test.YtjcbedgpmjgcdaaDoorPLexx3
import Derived.Test.YtjcbedgpmjgcdaaDoorPLexx4
namespace Go.Proofs.YtjcbedgpmjgcdaaDoor.PLex
open Go.RowKit Go.Proofs.YtjcbedgpmjgcdaaDoor.Hand Go.Proofs.YtjcbedgpmjgcdaaDoorW.PrintWords Go.Proofs.YtjcbedgpmjgcdaaDoorW.PrintLast Go.Proofs.YtjcbedgpmjgcdaaDoorW.PrintMore
attribute [local go_sem] cell?_setCell_twice max2_int min2_int max_two min_two max_three min_three max_four min_four   -- for this text's walks alone
set_option linter.unusedVariables false
set_option linter.unusedSimpArgs false

/-! ### jetsamref01_Lex: function 23 -/
mutual
def jetsamref01_Lex.l0 : Nat → ByteArray → List (S68) → Int → Option ((List (S68)) × Int × Int)
  | 0, _, _, _ => none
  | k + 1, x0, x5, x6 => if x6 < (x0.size : Int) then (if 0 ≤ x6 then (if (bt x0 x6) = 32 then (jetsamref01_Lex.j1 k x0 x5 x6 (bt x0 x6) true) else (jetsamref01_Lex.j1 k x0 x5 x6 (bt x0 x6) ((bt x0 x6) == 10))) else (none)) else (if (x5.length : Int) > 2000 then (some (([] : List (S68)), (x0.size : Int), 4)) else (some (x5, 0, 0)))
def jetsamref01_Lex.j1 : Nat → ByteArray → List (S68) → Int → Int → Bool → Option ((List (S68)) × Int × Int)
  | 0, _, _, _, _, _ => none
  | k + 1, x0, x5, x6, x7, x24 => if x24 = true then (jetsamref01_Lex.l0 k x0 x5 (wrap64 (x6 + 1))) else (jetsamref01_Lex.l1 k x0 x5 x6 x7 x6)
def jetsamref01_Lex.j3 : Nat → ByteArray → List (S68) → Int → Int → Int → Option ((List (S68)) × Int × Int)
  | 0, _, _, _, _, _ => none
  | k + 1, x0, x5, x6, x7, x8 => (jetsamref01_letter.f x7).bind fun t147 => (if t147 = true then (if 0 ≤ x6 then (if x6 ≤ x8 then (if x8 ≤ (x0.size : Int) then ((jetsamref01_Reserved.f k (x0.extract (x6 : Int).toNat (x8 : Int).toNat)).bind fun t148 => (if t148 = true then (if ((x0.extract (x6 : Int).toNat (x8 : Int).toNat).size : Int) > 12 then (some (([] : List (S68)), x6, 3)) else (if x5.length < 3518437208883 then (jetsamref01_Lex.l0 k x0 (x5 ++ [(⟨4, x0.extract (x6 : Int).toNat (x8 : Int).toNat, 0, x6⟩ : S68)]) x8) else (none))) else (if ((x0.extract (x6 : Int).toNat (x8 : Int).toNat).size : Int) > 12 then (some (([] : List (S68)), x6, 3)) else (if x5.length < 3518437208883 then (jetsamref01_Lex.l0 k x0 (x5 ++ [(⟨1, x0.extract (x6 : Int).toNat (x8 : Int).toNat, 0, x6⟩ : S68)]) x8) else (none))))) else (none)) else (none)) else (none)) else ((jetsamref01_digit.f x7).bind fun t155 => (if t155 = true then (if 0 ≤ x6 then (if x6 ≤ x8 then (if x8 ≤ (x0.size : Int) then (if ((x0.extract (x6 : Int).toNat (x8 : Int).toNat).size : Int) > 10 then (jetsamref01_Lex.j4 k x0 x5 x6 x8 true 2 (x0.extract (x6 : Int).toNat (x8 : Int).toNat) 0 x6) else (if ((x0.extract (x6 : Int).toNat (x8 : Int).toNat).size : Int) > 1 then (jetsamref01_Lex.j4 k x0 x5 x6 x8 (x7 == 48) 2 (x0.extract (x6 : Int).toNat (x8 : Int).toNat) 0 x6) else (jetsamref01_Lex.j4 k x0 x5 x6 x8 false 2 (x0.extract (x6 : Int).toNat (x8 : Int).toNat) 0 x6))) else (none)) else (none)) else (none)) else ((jetsamref01_sign.f k x0 x6).bind fun t160 => (if t160 = 0 then (some (([] : List (S68)), x6, 2)) else (if 0 ≤ x6 then (if x6 ≤ (wrap64 (x6 + t160)) then (if (wrap64 (x6 + t160)) ≤ (x0.size : Int) then (if x5.length < 3518437208883 then (jetsamref01_Lex.l0 k x0 (x5 ++ [(⟨3, x0.extract (x6 : Int).toNat ((wrap64 (x6 + t160)) : Int).toNat, 0, x6⟩ : S68)]) (wrap64 (x6 + t160))) else (none)) else (none)) else (none)) else (none)))))))
def jetsamref01_Lex.j4 : Nat → ByteArray → List (S68) → Int → Int → Bool → Int → ByteArray → Int → Int → Option ((List (S68)) × Int × Int)
  | 0, _, _, _, _, _, _, _, _, _ => none
  | k + 1, x0, x5, x6, x8, x111, x147000, x147001, x147002, x147003 => if x111 = true then (some (([] : List (S68)), x6, 3)) else (jetsamref01_Lex.l2 k x0 x5 x6 x8 0 x147000 x147001 x147002 x147003)
def jetsamref01_Lex.l2 : Nat → ByteArray → List (S68) → Int → Int → Int → Int → ByteArray → Int → Int → Option ((List (S68)) × Int × Int)
  | 0, _, _, _, _, _, _, _, _, _ => none
  | k + 1, x0, x5, x6, x8, x10, x147000, x147001, x147002, x147003 => if x10 < (x147001.size : Int) then (if 0 ≤ x10 then ((jetsamref01_digit.f (bt x147001 x10)).bind fun t156 => (if t156 = true then (jetsamref01_Lex.l2 k x0 x5 x6 x8 (wrap64 (x10 + 1)) x147000 x147001 (wrap64 ((wrap64 (10 * x147002)) + (((bt x147001 x10) - 48) % 256))) x147003) else (some (([] : List (S68)), x6, 3)))) else (none)) else (if x147002 > 2147483647 then (some (([] : List (S68)), x6, 3)) else (if x5.length < 3518437208883 then (jetsamref01_Lex.l0 k x0 (x5 ++ [(⟨x147000, x147001, x147002, x147003⟩ : S68)]) x8) else (none)))
def jetsamref01_Lex.l1 : Nat → ByteArray → List (S68) → Int → Int → Int → Option ((List (S68)) × Int × Int)
  | 0, _, _, _, _, _ => none
  | k + 1, x0, x5, x6, x7, x8 => if x8 < (x0.size : Int) then ((jetsamref01_letter.f x7).bind fun t140 => (if t140 = true then (if 0 ≤ x8 then ((jetsamref01_letter.f (bt x0 x8)).bind fun t141 => (if t141 = true then (jetsamref01_Lex.l1 k x0 x5 x6 x7 (wrap64 (x8 + 1))) else ((jetsamref01_digit.f (bt x0 x8)).bind fun t142 => (if t142 = true then (jetsamref01_Lex.l1 k x0 x5 x6 x7 (wrap64 (x8 + 1))) else (jetsamref01_Lex.j3 k x0 x5 x6 x7 x8))))) else (none)) else ((jetsamref01_digit.f x7).bind fun t143 => (if t143 = true then (if 0 ≤ x8 then ((jetsamref01_letter.f (bt x0 x8)).bind fun t144 => (if t144 = true then (jetsamref01_Lex.l1 k x0 x5 x6 x7 (wrap64 (x8 + 1))) else ((jetsamref01_digit.f (bt x0 x8)).bind fun t145 => (if t145 = true then (jetsamref01_Lex.l1 k x0 x5 x6 x7 (wrap64 (x8 + 1))) else (jetsamref01_Lex.j3 k x0 x5 x6 x7 x8))))) else (none)) else (jetsamref01_Lex.j3 k x0 x5 x6 x7 x8))))) else (jetsamref01_Lex.j3 k x0 x5 x6 x7 x8)
end
def jetsamref01_Lex.f (k : Nat) (a0 : ByteArray) : Option ((List (S68)) × Int × Int) := jetsamref01_Lex.l0 k a0 ([] : List (S68)) 0
theorem jetsamref01_Lex.mono_l : ∀ k, (∀ y0 y1 y2, LeO (jetsamref01_Lex.l0 k y0 y1 y2) (jetsamref01_Lex.l0 (k + 1) y0 y1 y2)) ∧ (∀ y0 y1 y2 y3 y4, LeO (jetsamref01_Lex.j1 k y0 y1 y2 y3 y4) (jetsamref01_Lex.j1 (k + 1) y0 y1 y2 y3 y4)) ∧ (∀ y0 y1 y2 y3 y4, LeO (jetsamref01_Lex.j3 k y0 y1 y2 y3 y4) (jetsamref01_Lex.j3 (k + 1) y0 y1 y2 y3 y4)) ∧ (∀ y0 y1 y2 y3 y4 y5 y6 y7 y8, LeO (jetsamref01_Lex.j4 k y0 y1 y2 y3 y4 y5 y6 y7 y8) (jetsamref01_Lex.j4 (k + 1) y0 y1 y2 y3 y4 y5 y6 y7 y8)) ∧ (∀ y0 y1 y2 y3 y4 y5 y6 y7 y8, LeO (jetsamref01_Lex.l2 k y0 y1 y2 y3 y4 y5 y6 y7 y8) (jetsamref01_Lex.l2 (k + 1) y0 y1 y2 y3 y4 y5 y6 y7 y8)) ∧ (∀ y0 y1 y2 y3 y4, LeO (jetsamref01_Lex.l1 k y0 y1 y2 y3 y4) (jetsamref01_Lex.l1 (k + 1) y0 y1 y2 y3 y4))
  | 0 => ⟨fun _ _ _ r h => by simp [jetsamref01_Lex.l0] at h, fun _ _ _ _ _ r h => by simp [jetsamref01_Lex.j1] at h, fun _ _ _ _ _ r h => by simp [jetsamref01_Lex.j3] at h, fun _ _ _ _ _ _ _ _ _ r h => by simp [jetsamref01_Lex.j4] at h, fun _ _ _ _ _ _ _ _ _ r h => by simp [jetsamref01_Lex.l2] at h, fun _ _ _ _ _ r h => by simp [jetsamref01_Lex.l1] at h⟩
  | k + 1 => by
    obtain ⟨ih0, ih1, ih2, ih3, ih4, ih5⟩ := jetsamref01_Lex.mono_l k
    refine ⟨?_, ?_, ?_, ?_, ?_, ?_⟩
    · intro y0 y1 y2
      unfold jetsamref01_Lex.l0
      repeat' first
      | (with_reducible exact ih0 _ _ _)
      | (with_reducible exact ih1 _ _ _ _ _)
      | (with_reducible exact ih2 _ _ _ _ _)
      | (with_reducible exact ih3 _ _ _ _ _ _ _ _ _)
      | (with_reducible exact ih4 _ _ _ _ _ _ _ _ _)
      | (with_reducible exact ih5 _ _ _ _ _)
      | (with_reducible exact jetsamref01_Reserved.mono _ _)
      | (with_reducible exact jetsamref01_sign.mono _ _ _)
      | (with_reducible exact LeO.refl _)
      | (with_reducible exact LeO.none _)
      | (with_reducible refine LeO.ite ?_ ?_)
      | (with_reducible refine LeO.bind ?_ (fun _ => ?_))
      | exact ih0 _ _ _
      | exact ih1 _ _ _ _ _
      | exact ih2 _ _ _ _ _
      | exact ih3 _ _ _ _ _ _ _ _ _
      | exact ih4 _ _ _ _ _ _ _ _ _
      | exact ih5 _ _ _ _ _
      | exact jetsamref01_Reserved.mono _ _
      | exact jetsamref01_sign.mono _ _ _
      | exact LeO.none _
      | refine LeO.ite ?_ ?_
      | refine LeO.bind ?_ (fun _ => ?_)
    · intro y0 y1 y2 y3 y4
      unfold jetsamref01_Lex.j1
      repeat' first
      | (with_reducible exact ih0 _ _ _)
      | (with_reducible exact ih1 _ _ _ _ _)
      | (with_reducible exact ih2 _ _ _ _ _)
      | (with_reducible exact ih3 _ _ _ _ _ _ _ _ _)
      | (with_reducible exact ih4 _ _ _ _ _ _ _ _ _)
      | (with_reducible exact ih5 _ _ _ _ _)
      | (with_reducible exact jetsamref01_Reserved.mono _ _)
      | (with_reducible exact jetsamref01_sign.mono _ _ _)
      | (with_reducible exact LeO.refl _)
      | (with_reducible exact LeO.none _)
      | (with_reducible refine LeO.ite ?_ ?_)
      | (with_reducible refine LeO.bind ?_ (fun _ => ?_))
      | exact ih0 _ _ _
      | exact ih1 _ _ _ _ _
      | exact ih2 _ _ _ _ _
      | exact ih3 _ _ _ _ _ _ _ _ _
      | exact ih4 _ _ _ _ _ _ _ _ _
      | exact ih5 _ _ _ _ _
      | exact jetsamref01_Reserved.mono _ _
      | exact jetsamref01_sign.mono _ _ _
      | exact LeO.none _
      | refine LeO.ite ?_ ?_
      | refine LeO.bind ?_ (fun _ => ?_)
    · intro y0 y1 y2 y3 y4
      unfold jetsamref01_Lex.j3
      repeat' first
      | (with_reducible exact ih0 _ _ _)
      | (with_reducible exact ih1 _ _ _ _ _)
      | (with_reducible exact ih2 _ _ _ _ _)
      | (with_reducible exact ih3 _ _ _ _ _ _ _ _ _)
      | (with_reducible exact ih4 _ _ _ _ _ _ _ _ _)
      | (with_reducible exact ih5 _ _ _ _ _)
      | (with_reducible exact jetsamref01_Reserved.mono _ _)
      | (with_reducible exact jetsamref01_sign.mono _ _ _)
      | (with_reducible exact LeO.refl _)
      | (with_reducible exact LeO.none _)
      | (with_reducible refine LeO.ite ?_ ?_)
      | (with_reducible refine LeO.bind ?_ (fun _ => ?_))
      | exact ih0 _ _ _
      | exact ih1 _ _ _ _ _
      | exact ih2 _ _ _ _ _
      | exact ih3 _ _ _ _ _ _ _ _ _
      | exact ih4 _ _ _ _ _ _ _ _ _
      | exact ih5 _ _ _ _ _
      | exact jetsamref01_Reserved.mono _ _
      | exact jetsamref01_sign.mono _ _ _
      | exact LeO.none _
      | refine LeO.ite ?_ ?_
      | refine LeO.bind ?_ (fun _ => ?_)
    · intro y0 y1 y2 y3 y4 y5 y6 y7 y8
      unfold jetsamref01_Lex.j4
      repeat' first
      | (with_reducible exact ih0 _ _ _)
      | (with_reducible exact ih1 _ _ _ _ _)
      | (with_reducible exact ih2 _ _ _ _ _)
      | (with_reducible exact ih3 _ _ _ _ _ _ _ _ _)
      | (with_reducible exact ih4 _ _ _ _ _ _ _ _ _)
      | (with_reducible exact ih5 _ _ _ _ _)
      | (with_reducible exact jetsamref01_Reserved.mono _ _)
      | (with_reducible exact jetsamref01_sign.mono _ _ _)
      | (with_reducible exact LeO.refl _)
      | (with_reducible exact LeO.none _)
      | (with_reducible refine LeO.ite ?_ ?_)
      | (with_reducible refine LeO.bind ?_ (fun _ => ?_))
      | exact ih0 _ _ _
      | exact ih1 _ _ _ _ _
      | exact ih2 _ _ _ _ _
      | exact ih3 _ _ _ _ _ _ _ _ _
      | exact ih4 _ _ _ _ _ _ _ _ _
      | exact ih5 _ _ _ _ _
      | exact jetsamref01_Reserved.mono _ _
      | exact jetsamref01_sign.mono _ _ _
      | exact LeO.none _
      | refine LeO.ite ?_ ?_
      | refine LeO.bind ?_ (fun _ => ?_)
    · intro y0 y1 y2 y3 y4 y5 y6 y7 y8
      unfold jetsamref01_Lex.l2
      repeat' first
      | (with_reducible exact ih0 _ _ _)
      | (with_reducible exact ih1 _ _ _ _ _)
      | (with_reducible exact ih2 _ _ _ _ _)
      | (with_reducible exact ih3 _ _ _ _ _ _ _ _ _)
      | (with_reducible exact ih4 _ _ _ _ _ _ _ _ _)
      | (with_reducible exact ih5 _ _ _ _ _)
      | (with_reducible exact jetsamref01_Reserved.mono _ _)
      | (with_reducible exact jetsamref01_sign.mono _ _ _)
      | (with_reducible exact LeO.refl _)
      | (with_reducible exact LeO.none _)
      | (with_reducible refine LeO.ite ?_ ?_)
      | (with_reducible refine LeO.bind ?_ (fun _ => ?_))
      | exact ih0 _ _ _
      | exact ih1 _ _ _ _ _
      | exact ih2 _ _ _ _ _
      | exact ih3 _ _ _ _ _ _ _ _ _
      | exact ih4 _ _ _ _ _ _ _ _ _
      | exact ih5 _ _ _ _ _
      | exact jetsamref01_Reserved.mono _ _
      | exact jetsamref01_sign.mono _ _ _
      | exact LeO.none _
      | refine LeO.ite ?_ ?_
      | refine LeO.bind ?_ (fun _ => ?_)
    · intro y0 y1 y2 y3 y4
      unfold jetsamref01_Lex.l1
      repeat' first
      | (with_reducible exact ih0 _ _ _)
      | (with_reducible exact ih1 _ _ _ _ _)
      | (with_reducible exact ih2 _ _ _ _ _)
      | (with_reducible exact ih3 _ _ _ _ _ _ _ _ _)
      | (with_reducible exact ih4 _ _ _ _ _ _ _ _ _)
      | (with_reducible exact ih5 _ _ _ _ _)
      | (with_reducible exact jetsamref01_Reserved.mono _ _)
      | (with_reducible exact jetsamref01_sign.mono _ _ _)
      | (with_reducible exact LeO.refl _)
      | (with_reducible exact LeO.none _)
      | (with_reducible refine LeO.ite ?_ ?_)
      | (with_reducible refine LeO.bind ?_ (fun _ => ?_))
      | exact ih0 _ _ _
      | exact ih1 _ _ _ _ _
      | exact ih2 _ _ _ _ _
      | exact ih3 _ _ _ _ _ _ _ _ _
      | exact ih4 _ _ _ _ _ _ _ _ _
      | exact ih5 _ _ _ _ _
      | exact jetsamref01_Reserved.mono _ _
      | exact jetsamref01_sign.mono _ _ _
      | exact LeO.none _
      | refine LeO.ite ?_ ?_
      | refine LeO.bind ?_ (fun _ => ?_)
theorem jetsamref01_Lex.mono : ∀ a0 k, LeO (jetsamref01_Lex.f k a0) (jetsamref01_Lex.f (k + 1) a0) := by
  intro a0 k
  obtain ⟨ih0, ih1, ih2, ih3, ih4, ih5⟩ := jetsamref01_Lex.mono_l k
  unfold jetsamref01_Lex.f
  repeat' first
      | (with_reducible exact ih0 _ _ _)
      | (with_reducible exact ih1 _ _ _ _ _)
      | (with_reducible exact ih2 _ _ _ _ _)
      | (with_reducible exact ih3 _ _ _ _ _ _ _ _ _)
      | (with_reducible exact ih4 _ _ _ _ _ _ _ _ _)
      | (with_reducible exact ih5 _ _ _ _ _)
      | (with_reducible exact jetsamref01_Reserved.mono _ _)
      | (with_reducible exact jetsamref01_sign.mono _ _ _)
      | (with_reducible exact LeO.refl _)
      | (with_reducible exact LeO.none _)
      | (with_reducible refine LeO.ite ?_ ?_)
      | (with_reducible refine LeO.bind ?_ (fun _ => ?_))
      | exact ih0 _ _ _
      | exact ih1 _ _ _ _ _
      | exact ih2 _ _ _ _ _
      | exact ih3 _ _ _ _ _ _ _ _ _
      | exact ih4 _ _ _ _ _ _ _ _ _
      | exact ih5 _ _ _ _ _
      | exact jetsamref01_Reserved.mono _ _
      | exact jetsamref01_sign.mono _ _ _
      | exact LeO.none _
      | refine LeO.ite ?_ ?_
      | refine LeO.bind ?_ (fun _ => ?_)
def jetsamref01_Lex.T15 : Bool × List (List Nat × List Nat) := (true, [([], []), ([], []), ([], []), ([0, 1, 2], [0, 1, 2]), ([], []), ([4], [4]), ([0, 1, 2, 3, 4, 5], []), ([6, 3, 5, 0, 1, 2, 3, 4, 5], [3, 6])])
def jetsamref01_Lex.B15 : List Nat := [0, 0, 0, 7, 0, 16, 63, 127]
theorem jetsamref01_Lex.tab15 : rtab .any (opsOf Tryd.f23 15) = jetsamref01_Lex.T15 := by kernel_rfl
theorem jetsamref01_Lex.bits15 : waitsOk jetsamref01_Lex.T15.2 jetsamref01_Lex.B15 = true := by kernel_rfl
def jetsamref01_Lex.T17 : Bool × List (List Nat × List Nat) := (true, [([], []), ([], []), ([], []), ([0, 1, 2], [0, 1, 2]), ([], []), ([4], [4]), ([0, 1, 2, 3, 4, 5], []), ([6, 3, 5, 0, 1, 2, 3, 4, 5], [3, 6])])
def jetsamref01_Lex.B17 : List Nat := [0, 0, 0, 7, 0, 16, 63, 127]
theorem jetsamref01_Lex.tab17 : rtab .any (opsOf Tryd.f23 17) = jetsamref01_Lex.T17 := by kernel_rfl
theorem jetsamref01_Lex.bits17 : waitsOk jetsamref01_Lex.T17.2 jetsamref01_Lex.B17 = true := by kernel_rfl
def jetsamref01_Lex.T23 : Bool × List (List Nat × List Nat) := (true, [([], []), ([], []), ([], []), ([0, 1, 2], [0, 1, 2]), ([], []), ([4], [4]), ([0, 1, 2, 3, 4, 5], []), ([6, 3, 5, 0, 1, 2, 3, 4, 5], [3, 6])])
def jetsamref01_Lex.B23 : List Nat := [0, 0, 0, 7, 0, 16, 63, 127]
theorem jetsamref01_Lex.tab23 : rtab .any (opsOf Tryd.f23 23) = jetsamref01_Lex.T23 := by kernel_rfl
theorem jetsamref01_Lex.bits23 : waitsOk jetsamref01_Lex.T23.2 jetsamref01_Lex.B23 = true := by kernel_rfl
def jetsamref01_Lex.T31 : Bool × List (List Nat × List Nat) := (true, [([], []), ([0], [0]), ([1], [1]), ([], []), ([3], [3]), ([], []), ([4, 5], [4, 5]), ([6], [6]), ([7], [7]), ([2, 8], [2, 8]), ([0, 1, 2, 3, 4, 5, 6, 7, 8, 9], []), ([10, 9, 0, 1, 2, 3, 4, 5, 6, 7, 8, 9], [9, 10])])
def jetsamref01_Lex.B31 : List Nat := [0, 1, 3, 0, 8, 0, 56, 120, 248, 511, 1023, 2047]
theorem jetsamref01_Lex.tab31 : rtab .any (opsOf Tryd.f23 31) = jetsamref01_Lex.T31 := by kernel_rfl
theorem jetsamref01_Lex.bits31 : waitsOk jetsamref01_Lex.T31.2 jetsamref01_Lex.B31 = true := by kernel_rfl
set_option maxHeartbeats 80000000 in
set_option maxRecDepth 100000 in
theorem jetsamref01_Lex.calls (k : Nat) (a0 : ByteArray) (r1 : List (S68)) (r2 : Int) (r3 : Int) (w : World) (h : jetsamref01_Lex.f k a0 = some (r1, r2, r3)) :
    Calls Tryd.prog 23 #[.string a0] w fun e w' => ∃ v0_ : Value, e = .returned (.tuple #[v0_, .int .i64 r2, .int .i64 r3]) ∧ Kd.R k68 68 w' w.heap.size (fun _ => True) v0_ r1 ∧ Below w.heap.size w w' := by
  have hu68 := Tryd.underlying68
  have HB := Aside0.mk (Below.refl w.heap.size w)
  have H : (jetsamref01_Lex.l0 k a0 ([] : List (S68)) 0) = some (r1, r2, r3) := h
  clear h
  have H' := Aside0.mk H
  clear H
  go_enter Tryd.func23, Tryd.ntmps23
  go_wp2
  go_loopg [5, 6] k (fun kq v5 v6 w' => ∃ (x5_1 : List (S68)) (x6_1 : Int), v6 = .int .i64 x6_1 ∧ Aside0 (jetsamref01_Lex.l0 kq a0 x5_1 x6_1 = some (r1, r2, r3)) ∧ Aside0 (kq ≤ k) ∧ Aside0 (Kd.R k68 68 w' w.heap.size (fun _ => True) v5 x5_1) ∧ Aside0 (Below w.heap.size w w'))
  case atStart => exact ⟨(([] : List (S68))), (0), (by first | rfl | (simp; done) | (simp [*]; done)), H', ⟨Nat.le_refl _⟩, ⟨by first | exact Kd.R_nil _ _ _ _ _ | exact Kd.N_nil _ _ _ _ _ | exact Kd.V_nil _ _ _ _ _ | exact Kd.Q_nil _ _ _ _ _ | exact Kd.S_nil _ _ _ _ _⟩, ⟨by repeat (first | (with_reducible first | exact HB.out | apply below_alloc | apply pw_below_drewN | apply below_drew1) | exact HB.out)⟩⟩
  case round =>
    clear H'
    obtain ⟨x5_1, x6_1, rfl, HA, HK1, HO_5, HB⟩ := hrel
    cases gk with
    | zero => exact absurd HA.out (by simp [jetsamref01_Lex.l0])
    | succ k1 =>
      have H := HA.out
      clear HA
      simp only [jetsamref01_Lex.l0] at H
      by_cases c2 : x6_1 < (a0.size : Int)
      · rw [if_pos c2] at H
        have c2b0 : decide (x6_1 < (a0.size : Int)) = true := decide_eq_true c2
        clear c2
        by_cases c3 : 0 ≤ x6_1
        · rw [if_pos c3] at H
          have c3b0 : decide (0 ≤ x6_1) = true := decide_eq_true c3
          clear c3
          have HC5 := Aside0.mk H
          clear H
          have p4 : 0 ≤ (x6_1 : Int) := of_decide_eq_true (by first | (with_reducible assumption) | assumption)
          have q4 : x6_1 < (a0.size : Int) := of_decide_eq_true (by first | (with_reducible assumption) | assumption)
          have hx4 := bt_at a0 x6_1
          replace p4 := eq_true p4
          replace q4 := eq_true q4
          go_upto_region 5 with (fail)
          go_cut [24] (fun v24 wc => ∃ (kq : Nat) (x24_4 : Bool), v24 = .bool x24_4 ∧ Aside0 (jetsamref01_Lex.j1 kq a0 x5_1 x6_1 (bt a0 x6_1) x24_4 = some (r1, r2, r3)) ∧ Aside0 (kq ≤ k1) ∧ Aside0 (Kd.R k68 68 wc w.heap.size (fun _ => True) u5 x5_1) ∧ Aside0 (Below w.heap.size w wc))
          case first =>
            have H := HC5.out
            clear HC5
            by_cases c6 : (bt a0 x6_1) = 32
            · rw [if_pos c6] at H
              have c6b0 : ((bt a0 x6_1) == 32) = true := beq_iff_eq.mpr c6
              have c6b1 : ((bt a0 x6_1) != 32) = false := bne_eq_false_iff_eq.mpr c6
              clear c6
              (first | rw [c6b0] | (simp only [i64_w, i32_w]; rw [c6b0]) | skip)
              have H' := Aside0.mk H
              clear H
              go_wp2
              go_meet
              case rel => exact ⟨_, (true), (by first | rfl | (simp; done) | (simp [*]; done)), H', ⟨by have := HK1.out; first | omega | exact Nat.le_refl _⟩, ⟨by (with_reducible repeat (first | apply Kd.R_alloc | apply Kd.R_drewN | apply Kd.R_drew)); exact HO_5.out⟩, ⟨by repeat (first | (with_reducible first | exact HB.out | apply below_alloc | apply pw_below_drewN | apply below_drew1) | exact HB.out)⟩⟩
            · rw [if_neg c6] at H
              have c6b0 : ((bt a0 x6_1) == 32) = false := beq_eq_false_iff_ne.mpr c6
              have c6b1 : ((bt a0 x6_1) != 32) = true := bne_iff_ne.mpr c6
              (first | rw [c6b0] | (simp only [i64_w, i32_w]; rw [c6b0]) | skip)
              have H' := Aside0.mk H
              clear H
              go_wp2
              go_meet
              case rel => exact ⟨_, (((bt a0 x6_1) == 10)), (by first | rfl | (simp; done) | (simp [*]; done)), H', ⟨by have := HK1.out; first | omega | exact Nat.le_refl _⟩, ⟨by (with_reducible repeat (first | apply Kd.R_alloc | apply Kd.R_drewN | apply Kd.R_drew)); exact HO_5.out⟩, ⟨by repeat (first | (with_reducible first | exact HB.out | apply below_alloc | apply pw_below_drewN | apply below_drew1) | exact HB.out)⟩⟩
          case rest =>
            clear HC5
            try clear c2
            try clear c2b0
            try clear p2
            try clear c3
            try clear c3b0
            try clear p4
            try clear q4
            try clear hx4
            try clear c6
            try clear c6b0
            try clear c6b1
            try clear p4
            try clear q4
            obtain ⟨kq, x24_4, rfl, HA, HJ4, HO_5, HB⟩ := hcut
            cases kq with
            | zero => exact absurd HA.out (by simp [jetsamref01_Lex.j1])
            | succ kj4 =>
              have H := HA.out
              clear HA
              simp only [jetsamref01_Lex.j1] at H
              by_cases c7 : x24_4 = true
              · subst c7
                have H1 : (jetsamref01_Lex.l0 kj4 a0 x5_1 (wrap64 (x6_1 + 1))) = some (r1, r2, r3) := by rw [if_pos rfl] at H; exact H
                clear H
                have H := H1
                clear H1
                have H' := Aside0.mk H
                clear H
                go_wp2
                go_roundg kj4
                case measure => have := HK1.out; have := HJ4.out; omega
                case rel => exact ⟨(x5_1), (wrap64 (x6_1 + 1)), (by first | rfl | (simp; done) | (simp [*]; done)), H', ⟨by have := HK1.out; have := HJ4.out; omega⟩, ⟨by (with_reducible repeat (first | apply Kd.R_alloc | apply Kd.R_drewN | apply Kd.R_drew)); exact HO_5.out⟩, ⟨by repeat (first | (with_reducible first | exact HB.out | apply below_alloc | apply pw_below_drewN | apply below_drew1) | exact HB.out)⟩⟩
              · replace c7 := Bool.eq_false_iff.mpr c7
                subst c7
                have H1 : (jetsamref01_Lex.l1 kj4 a0 x5_1 x6_1 (bt a0 x6_1) x6_1) = some (r1, r2, r3) := by rw [if_neg (show ¬ (false = true) by decide)] at H; exact H
                clear H
                have H := H1
                clear H1
                have HC8 := Aside0.mk H
                clear H
                go_upto_block 2 with (fail)
                go_cut [8] (fun v8 wc => ∃ (kq : Nat) (x8_7 : Int), v8 = .int .i64 x8_7 ∧ Aside0 (jetsamref01_Lex.j3 kq a0 x5_1 x6_1 (bt a0 x6_1) x8_7 = some (r1, r2, r3)) ∧ Aside0 (kq ≤ kj4) ∧ Aside0 (Kd.R k68 68 wc w.heap.size (fun _ => True) u5 x5_1) ∧ Aside0 (Below w.heap.size w wc))
                case first =>
                  have H := HC8.out
                  clear HC8
                  have H' := Aside0.mk H
                  clear H
                  go_wp2
                  go_loopg [8] kj4 (fun kq v8 w' => ∃ (x8_3 : Int), v8 = .int .i64 x8_3 ∧ Aside0 (jetsamref01_Lex.l1 kq a0 x5_1 x6_1 (bt a0 x6_1) x8_3 = some (r1, r2, r3)) ∧ Aside0 (kq ≤ kj4) ∧ Aside0 (Kd.R k68 68 w' w.heap.size (fun _ => True) u5 x5_1) ∧ Aside0 (Below w.heap.size w w'))
                  case atStart => exact ⟨(x6_1), (by first | rfl | (simp; done) | (simp [*]; done)), H', ⟨Nat.le_refl _⟩, ⟨by (with_reducible repeat (first | apply Kd.R_alloc | apply Kd.R_drewN | apply Kd.R_drew)); exact HO_5.out⟩, ⟨by repeat (first | (with_reducible first | exact HB.out | apply below_alloc | apply pw_below_drewN | apply below_drew1) | exact HB.out)⟩⟩
                  case round =>
                    clear H'
                    try clear c2
                    try clear c2b0
                    try clear p2
                    try clear c3
                    try clear c3b0
                    try clear p4
                    try clear q4
                    try clear hx4
                    try clear c6
                    try clear c6b0
                    try clear c6b1
                    try clear p6
                    try clear c7
                    try clear p2
                    try clear p4
                    try clear q4
                    obtain ⟨x8_3, rfl, HA, HK3, HO_5, HB⟩ := hrel
                    cases gk with
                    | zero => exact absurd HA.out (by simp [jetsamref01_Lex.l1])
                    | succ k3 =>
                      have H := HA.out
                      clear HA
                      simp only [jetsamref01_Lex.l1] at H
                      by_cases c9 : x8_3 < (a0.size : Int)
                      · rw [if_pos c9] at H
                        have c9b0 : decide (x8_3 < (a0.size : Int)) = true := decide_eq_true c9
                        clear c9
                        (first | rw [c9b0] | (simp only [i64_w, i32_w]; rw [c9b0]) | skip)
                        replace H := Option.bind_eq_some_iff.mp H
                        obtain ⟨t140, A100, H⟩ := H
                        replace H : (if t140 = true then (if 0 ≤ x8_3 then ((jetsamref01_letter.f (bt a0 x8_3)).bind fun t141 => (if t141 = true then (jetsamref01_Lex.l1 k3 a0 x5_1 x6_1 (bt a0 x6_1) (wrap64 (x8_3 + 1))) else ((jetsamref01_digit.f (bt a0 x8_3)).bind fun t142 => (if t142 = true then (jetsamref01_Lex.l1 k3 a0 x5_1 x6_1 (bt a0 x6_1) (wrap64 (x8_3 + 1))) else (jetsamref01_Lex.j3 k3 a0 x5_1 x6_1 (bt a0 x6_1) x8_3))))) else (none)) else ((jetsamref01_digit.f (bt a0 x6_1)).bind fun t143 => (if t143 = true then (if 0 ≤ x8_3 then ((jetsamref01_letter.f (bt a0 x8_3)).bind fun t144 => (if t144 = true then (jetsamref01_Lex.l1 k3 a0 x5_1 x6_1 (bt a0 x6_1) (wrap64 (x8_3 + 1))) else ((jetsamref01_digit.f (bt a0 x8_3)).bind fun t145 => (if t145 = true then (jetsamref01_Lex.l1 k3 a0 x5_1 x6_1 (bt a0 x6_1) (wrap64 (x8_3 + 1))) else (jetsamref01_Lex.j3 k3 a0 x5_1 x6_1 (bt a0 x6_1) x8_3))))) else (none)) else (jetsamref01_Lex.j3 k3 a0 x5_1 x6_1 (bt a0 x6_1) x8_3)))) = some (r1, r2, r3) := H
                        have A10 := Aside0.mk A100
                        clear A100
                        by_cases c11 : t140 = true
                        · subst c11
                          have H1 : (if 0 ≤ x8_3 then ((jetsamref01_letter.f (bt a0 x8_3)).bind fun t141 => (if t141 = true then (jetsamref01_Lex.l1 k3 a0 x5_1 x6_1 (bt a0 x6_1) (wrap64 (x8_3 + 1))) else ((jetsamref01_digit.f (bt a0 x8_3)).bind fun t142 => (if t142 = true then (jetsamref01_Lex.l1 k3 a0 x5_1 x6_1 (bt a0 x6_1) (wrap64 (x8_3 + 1))) else (jetsamref01_Lex.j3 k3 a0 x5_1 x6_1 (bt a0 x6_1) x8_3))))) else (none)) = some (r1, r2, r3) := by rw [if_pos rfl] at H; exact H
                          clear H
                          have H := H1
                          clear H1
                          by_cases c12 : 0 ≤ x8_3
                          · rw [if_pos c12] at H
                            have c12b0 : decide (0 ≤ x8_3) = true := decide_eq_true c12
                            clear c12
                            replace H := Option.bind_eq_some_iff.mp H
                            obtain ⟨t141, A140, H⟩ := H
                            replace H : (if t141 = true then (jetsamref01_Lex.l1 k3 a0 x5_1 x6_1 (bt a0 x6_1) (wrap64 (x8_3 + 1))) else ((jetsamref01_digit.f (bt a0 x8_3)).bind fun t142 => (if t142 = true then (jetsamref01_Lex.l1 k3 a0 x5_1 x6_1 (bt a0 x6_1) (wrap64 (x8_3 + 1))) else (jetsamref01_Lex.j3 k3 a0 x5_1 x6_1 (bt a0 x6_1) x8_3)))) = some (r1, r2, r3) := H
                            have A14 := Aside0.mk A140
                            clear A140
                            by_cases c15 : t141 = true
                            · subst c15
                              have H1 : (jetsamref01_Lex.l1 k3 a0 x5_1 x6_1 (bt a0 x6_1) (wrap64 (x8_3 + 1))) = some (r1, r2, r3) := by rw [if_pos rfl] at H; exact H
                              clear H
                              have H := H1
                              clear H1
                              have H' := Aside0.mk H
                              clear H
                              go_wp2_with (first | (go_at_call 38; (with_reducible refine (jetsamref01_letter.calls (bt a0 x6_1) true _ A10.out).mono ?_); rintro e w' ⟨rfl, ⟨nd, rfl⟩⟩; have p13 : 0 ≤ (x8_3 : Int) := of_decide_eq_true (by first | (with_reducible assumption) | assumption); have q13 : x8_3 < (a0.size : Int) := of_decide_eq_true (by first | (with_reducible assumption) | assumption); have hx13 := bt_at a0 x8_3; replace p13 := eq_true p13; replace q13 := eq_true q13) | (go_at_call 38; (with_reducible refine (jetsamref01_letter.calls (bt a0 x8_3) true _ A14.out).mono ?_); rintro e w' ⟨rfl, ⟨nd, rfl⟩⟩))
                              go_roundg k3
                              case measure => have := HK1.out; have := HJ4.out; have := HK3.out; omega
                              case rel => exact ⟨(wrap64 (x8_3 + 1)), (by first | rfl | (simp; done) | (simp [*]; done)), H', ⟨by have := HK1.out; have := HJ4.out; have := HK3.out; omega⟩, ⟨by (with_reducible repeat (first | apply Kd.R_alloc | apply Kd.R_drewN | apply Kd.R_drew)); exact HO_5.out⟩, ⟨by repeat (first | (with_reducible first | exact HB.out | apply below_alloc | apply pw_below_drewN | apply below_drew1) | exact HB.out)⟩⟩
                            · replace c15 := Bool.eq_false_iff.mpr c15
                              subst c15
                              have H1 : ((jetsamref01_digit.f (bt a0 x8_3)).bind fun t142 => (if t142 = true then (jetsamref01_Lex.l1 k3 a0 x5_1 x6_1 (bt a0 x6_1) (wrap64 (x8_3 + 1))) else (jetsamref01_Lex.j3 k3 a0 x5_1 x6_1 (bt a0 x6_1) x8_3))) = some (r1, r2, r3) := by rw [if_neg (show ¬ (false = true) by decide)] at H; exact H
                              clear H
                              have H := H1
                              clear H1
                              replace H := Option.bind_eq_some_iff.mp H
                              obtain ⟨t142, A170, H⟩ := H
                              replace H : (if t142 = true then (jetsamref01_Lex.l1 k3 a0 x5_1 x6_1 (bt a0 x6_1) (wrap64 (x8_3 + 1))) else (jetsamref01_Lex.j3 k3 a0 x5_1 x6_1 (bt a0 x6_1) x8_3)) = some (r1, r2, r3) := H
                              have A17 := Aside0.mk A170
                              clear A170
                              by_cases c18 : t142 = true
                              · subst c18
                                have H1 : (jetsamref01_Lex.l1 k3 a0 x5_1 x6_1 (bt a0 x6_1) (wrap64 (x8_3 + 1))) = some (r1, r2, r3) := by rw [if_pos rfl] at H; exact H
                                clear H
                                have H := H1
                                clear H1
                                have H' := Aside0.mk H
                                clear H
                                go_wp2_with (first | (go_at_call 38; (with_reducible refine (jetsamref01_letter.calls (bt a0 x6_1) true _ A10.out).mono ?_); rintro e w' ⟨rfl, ⟨nd, rfl⟩⟩; have p13 : 0 ≤ (x8_3 : Int) := of_decide_eq_true (by first | (with_reducible assumption) | assumption); have q13 : x8_3 < (a0.size : Int) := of_decide_eq_true (by first | (with_reducible assumption) | assumption); have hx13 := bt_at a0 x8_3; replace p13 := eq_true p13; replace q13 := eq_true q13) | (go_at_call 38; (with_reducible refine (jetsamref01_letter.calls (bt a0 x8_3) false _ A14.out).mono ?_); rintro e w' ⟨rfl, ⟨nd, rfl⟩⟩; have p16 : 0 ≤ (x8_3 : Int) := of_decide_eq_true (by first | (with_reducible assumption) | assumption); have q16 : x8_3 < (a0.size : Int) := of_decide_eq_true (by first | (with_reducible assumption) | assumption); have hx16 := bt_at a0 x8_3; replace p16 := eq_true p16; replace q16 := eq_true q16) | (go_at_call 39; (with_reducible refine (jetsamref01_digit.calls (bt a0 x8_3) true _ A17.out).mono ?_); rintro e w' ⟨rfl, ⟨nd, rfl⟩⟩))
                                go_roundg k3
                                case measure => have := HK1.out; have := HJ4.out; have := HK3.out; omega
                                case rel => exact ⟨(wrap64 (x8_3 + 1)), (by first | rfl | (simp; done) | (simp [*]; done)), H', ⟨by have := HK1.out; have := HJ4.out; have := HK3.out; omega⟩, ⟨by (with_reducible repeat (first | apply Kd.R_alloc | apply Kd.R_drewN | apply Kd.R_drew)); exact HO_5.out⟩, ⟨by repeat (first | (with_reducible first | exact HB.out | apply below_alloc | apply pw_below_drewN | apply below_drew1) | exact HB.out)⟩⟩
                              · replace c18 := Bool.eq_false_iff.mpr c18
                                subst c18
                                have H1 : (jetsamref01_Lex.j3 k3 a0 x5_1 x6_1 (bt a0 x6_1) x8_3) = some (r1, r2, r3) := by rw [if_neg (show ¬ (false = true) by decide)] at H; exact H
                                clear H
                                have H := H1
                                clear H1
                                have H' := Aside0.mk H
                                clear H
                                go_wp2_with (first | (go_at_call 38; (with_reducible refine (jetsamref01_letter.calls (bt a0 x6_1) true _ A10.out).mono ?_); rintro e w' ⟨rfl, ⟨nd, rfl⟩⟩; have p13 : 0 ≤ (x8_3 : Int) := of_decide_eq_true (by first | (with_reducible assumption) | assumption); have q13 : x8_3 < (a0.size : Int) := of_decide_eq_true (by first | (with_reducible assumption) | assumption); have hx13 := bt_at a0 x8_3; replace p13 := eq_true p13; replace q13 := eq_true q13) | (go_at_call 38; (with_reducible refine (jetsamref01_letter.calls (bt a0 x8_3) false _ A14.out).mono ?_); rintro e w' ⟨rfl, ⟨nd, rfl⟩⟩; have p16 : 0 ≤ (x8_3 : Int) := of_decide_eq_true (by first | (with_reducible assumption) | assumption); have q16 : x8_3 < (a0.size : Int) := of_decide_eq_true (by first | (with_reducible assumption) | assumption); have hx16 := bt_at a0 x8_3; replace p16 := eq_true p16; replace q16 := eq_true q16) | (go_at_call 39; (with_reducible refine (jetsamref01_digit.calls (bt a0 x8_3) false _ A17.out).mono ?_); rintro e w' ⟨rfl, ⟨nd, rfl⟩⟩))
                                go_meet
                                case rel => exact ⟨_, (x8_3), (by first | rfl | (simp; done) | (simp [*]; done)), H', ⟨by have := HK1.out; have := HJ4.out; have := HK3.out; first | omega | exact Nat.le_refl _⟩, ⟨by (with_reducible repeat (first | apply Kd.R_alloc | apply Kd.R_drewN | apply Kd.R_drew)); exact HO_5.out⟩, ⟨by repeat (first | (with_reducible first | exact HB.out | apply below_alloc | apply pw_below_drewN | apply below_drew1) | exact HB.out)⟩⟩
                          · rw [if_neg c12] at H
                            exact absurd H (by simp)
                        · replace c11 := Bool.eq_false_iff.mpr c11
                          subst c11
                          have H1 : ((jetsamref01_digit.f (bt a0 x6_1)).bind fun t143 => (if t143 = true then (if 0 ≤ x8_3 then ((jetsamref01_letter.f (bt a0 x8_3)).bind fun t144 => (if t144 = true then (jetsamref01_Lex.l1 k3 a0 x5_1 x6_1 (bt a0 x6_1) (wrap64 (x8_3 + 1))) else ((jetsamref01_digit.f (bt a0 x8_3)).bind fun t145 => (if t145 = true then (jetsamref01_Lex.l1 k3 a0 x5_1 x6_1 (bt a0 x6_1) (wrap64 (x8_3 + 1))) else (jetsamref01_Lex.j3 k3 a0 x5_1 x6_1 (bt a0 x6_1) x8_3))))) else (none)) else (jetsamref01_Lex.j3 k3 a0 x5_1 x6_1 (bt a0 x6_1) x8_3))) = some (r1, r2, r3) := by rw [if_neg (show ¬ (false = true) by decide)] at H; exact H
                          clear H
                          have H := H1
                          clear H1
                          replace H := Option.bind_eq_some_iff.mp H
                          obtain ⟨t143, A190, H⟩ := H
                          replace H : (if t143 = true then (if 0 ≤ x8_3 then ((jetsamref01_letter.f (bt a0 x8_3)).bind fun t144 => (if t144 = true then (jetsamref01_Lex.l1 k3 a0 x5_1 x6_1 (bt a0 x6_1) (wrap64 (x8_3 + 1))) else ((jetsamref01_digit.f (bt a0 x8_3)).bind fun t145 => (if t145 = true then (jetsamref01_Lex.l1 k3 a0 x5_1 x6_1 (bt a0 x6_1) (wrap64 (x8_3 + 1))) else (jetsamref01_Lex.j3 k3 a0 x5_1 x6_1 (bt a0 x6_1) x8_3))))) else (none)) else (jetsamref01_Lex.j3 k3 a0 x5_1 x6_1 (bt a0 x6_1) x8_3)) = some (r1, r2, r3) := H
                          have A19 := Aside0.mk A190
                          clear A190
                          by_cases c20 : t143 = true
                          · subst c20
                            have H1 : (if 0 ≤ x8_3 then ((jetsamref01_letter.f (bt a0 x8_3)).bind fun t144 => (if t144 = true then (jetsamref01_Lex.l1 k3 a0 x5_1 x6_1 (bt a0 x6_1) (wrap64 (x8_3 + 1))) else ((jetsamref01_digit.f (bt a0 x8_3)).bind fun t145 => (if t145 = true then (jetsamref01_Lex.l1 k3 a0 x5_1 x6_1 (bt a0 x6_1) (wrap64 (x8_3 + 1))) else (jetsamref01_Lex.j3 k3 a0 x5_1 x6_1 (bt a0 x6_1) x8_3))))) else (none)) = some (r1, r2, r3) := by rw [if_pos rfl] at H; exact H
                            clear H
                            have H := H1
                            clear H1
                            by_cases c21 : 0 ≤ x8_3
                            · rw [if_pos c21] at H
                              have c21b0 : decide (0 ≤ x8_3) = true := decide_eq_true c21
                              clear c21
                              replace H := Option.bind_eq_some_iff.mp H
                              obtain ⟨t144, A230, H⟩ := H
                              replace H : (if t144 = true then (jetsamref01_Lex.l1 k3 a0 x5_1 x6_1 (bt a0 x6_1) (wrap64 (x8_3 + 1))) else ((jetsamref01_digit.f (bt a0 x8_3)).bind fun t145 => (if t145 = true then (jetsamref01_Lex.l1 k3 a0 x5_1 x6_1 (bt a0 x6_1) (wrap64 (x8_3 + 1))) else (jetsamref01_Lex.j3 k3 a0 x5_1 x6_1 (bt a0 x6_1) x8_3)))) = some (r1, r2, r3) := H
                              have A23 := Aside0.mk A230
                              clear A230
                              by_cases c24 : t144 = true
                              · subst c24
                                have H1 : (jetsamref01_Lex.l1 k3 a0 x5_1 x6_1 (bt a0 x6_1) (wrap64 (x8_3 + 1))) = some (r1, r2, r3) := by rw [if_pos rfl] at H; exact H
                                clear H
                                have H := H1
                                clear H1
                                have H' := Aside0.mk H
                                clear H
                                go_wp2_with (first | (go_at_call 38; (with_reducible refine (jetsamref01_letter.calls (bt a0 x6_1) false _ A10.out).mono ?_); rintro e w' ⟨rfl, ⟨nd, rfl⟩⟩) | (go_at_call 39; (with_reducible refine (jetsamref01_digit.calls (bt a0 x6_1) true _ A19.out).mono ?_); rintro e w' ⟨rfl, ⟨nd, rfl⟩⟩; have p22 : 0 ≤ (x8_3 : Int) := of_decide_eq_true (by first | (with_reducible assumption) | assumption); have q22 : x8_3 < (a0.size : Int) := of_decide_eq_true (by first | (with_reducible assumption) | assumption); have hx22 := bt_at a0 x8_3; replace p22 := eq_true p22; replace q22 := eq_true q22) | (go_at_call 38; (with_reducible refine (jetsamref01_letter.calls (bt a0 x8_3) true _ A23.out).mono ?_); rintro e w' ⟨rfl, ⟨nd, rfl⟩⟩))
                                go_roundg k3
                                case measure => have := HK1.out; have := HJ4.out; have := HK3.out; omega
                                case rel => exact ⟨(wrap64 (x8_3 + 1)), (by first | rfl | (simp; done) | (simp [*]; done)), H', ⟨by have := HK1.out; have := HJ4.out; have := HK3.out; omega⟩, ⟨by (with_reducible repeat (first | apply Kd.R_alloc | apply Kd.R_drewN | apply Kd.R_drew)); exact HO_5.out⟩, ⟨by repeat (first | (with_reducible first | exact HB.out | apply below_alloc | apply pw_below_drewN | apply below_drew1) | exact HB.out)⟩⟩
                              · replace c24 := Bool.eq_false_iff.mpr c24
                                subst c24
                                have H1 : ((jetsamref01_digit.f (bt a0 x8_3)).bind fun t145 => (if t145 = true then (jetsamref01_Lex.l1 k3 a0 x5_1 x6_1 (bt a0 x6_1) (wrap64 (x8_3 + 1))) else (jetsamref01_Lex.j3 k3 a0 x5_1 x6_1 (bt a0 x6_1) x8_3))) = some (r1, r2, r3) := by rw [if_neg (show ¬ (false = true) by decide)] at H; exact H
                                clear H
                                have H := H1
                                clear H1
                                replace H := Option.bind_eq_some_iff.mp H
                                obtain ⟨t145, A260, H⟩ := H
                                replace H : (if t145 = true then (jetsamref01_Lex.l1 k3 a0 x5_1 x6_1 (bt a0 x6_1) (wrap64 (x8_3 + 1))) else (jetsamref01_Lex.j3 k3 a0 x5_1 x6_1 (bt a0 x6_1) x8_3)) = some (r1, r2, r3) := H
                                have A26 := Aside0.mk A260
                                clear A260
                                by_cases c27 : t145 = true
                                · subst c27
                                  have H1 : (jetsamref01_Lex.l1 k3 a0 x5_1 x6_1 (bt a0 x6_1) (wrap64 (x8_3 + 1))) = some (r1, r2, r3) := by rw [if_pos rfl] at H; exact H
                                  clear H
                                  have H := H1
                                  clear H1
                                  have H' := Aside0.mk H
                                  clear H
                                  go_wp2_with (first | (go_at_call 38; (with_reducible refine (jetsamref01_letter.calls (bt a0 x6_1) false _ A10.out).mono ?_); rintro e w' ⟨rfl, ⟨nd, rfl⟩⟩) | (go_at_call 39; (with_reducible refine (jetsamref01_digit.calls (bt a0 x6_1) true _ A19.out).mono ?_); rintro e w' ⟨rfl, ⟨nd, rfl⟩⟩; have p22 : 0 ≤ (x8_3 : Int) := of_decide_eq_true (by first | (with_reducible assumption) | assumption); have q22 : x8_3 < (a0.size : Int) := of_decide_eq_true (by first | (with_reducible assumption) | assumption); have hx22 := bt_at a0 x8_3; replace p22 := eq_true p22; replace q22 := eq_true q22) | (go_at_call 38; (with_reducible refine (jetsamref01_letter.calls (bt a0 x8_3) false _ A23.out).mono ?_); rintro e w' ⟨rfl, ⟨nd, rfl⟩⟩; have p25 : 0 ≤ (x8_3 : Int) := of_decide_eq_true (by first | (with_reducible assumption) | assumption); have q25 : x8_3 < (a0.size : Int) := of_decide_eq_true (by first | (with_reducible assumption) | assumption); have hx25 := bt_at a0 x8_3; replace p25 := eq_true p25; replace q25 := eq_true q25) | (go_at_call 39; (with_reducible refine (jetsamref01_digit.calls (bt a0 x8_3) true _ A26.out).mono ?_); rintro e w' ⟨rfl, ⟨nd, rfl⟩⟩))
                                  go_roundg k3
                                  case measure => have := HK1.out; have := HJ4.out; have := HK3.out; omega
                                  case rel => exact ⟨(wrap64 (x8_3 + 1)), (by first | rfl | (simp; done) | (simp [*]; done)), H', ⟨by have := HK1.out; have := HJ4.out; have := HK3.out; omega⟩, ⟨by (with_reducible repeat (first | apply Kd.R_alloc | apply Kd.R_drewN | apply Kd.R_drew)); exact HO_5.out⟩, ⟨by repeat (first | (with_reducible first | exact HB.out | apply below_alloc | apply pw_below_drewN | apply below_drew1) | exact HB.out)⟩⟩
                                · replace c27 := Bool.eq_false_iff.mpr c27
                                  subst c27
                                  have H1 : (jetsamref01_Lex.j3 k3 a0 x5_1 x6_1 (bt a0 x6_1) x8_3) = some (r1, r2, r3) := by rw [if_neg (show ¬ (false = true) by decide)] at H; exact H
                                  clear H
                                  have H := H1
                                  clear H1
                                  have H' := Aside0.mk H
                                  clear H
                                  go_wp2_with (first | (go_at_call 38; (with_reducible refine (jetsamref01_letter.calls (bt a0 x6_1) false _ A10.out).mono ?_); rintro e w' ⟨rfl, ⟨nd, rfl⟩⟩) | (go_at_call 39; (with_reducible refine (jetsamref01_digit.calls (bt a0 x6_1) true _ A19.out).mono ?_); rintro e w' ⟨rfl, ⟨nd, rfl⟩⟩; have p22 : 0 ≤ (x8_3 : Int) := of_decide_eq_true (by first | (with_reducible assumption) | assumption); have q22 : x8_3 < (a0.size : Int) := of_decide_eq_true (by first | (with_reducible assumption) | assumption); have hx22 := bt_at a0 x8_3; replace p22 := eq_true p22; replace q22 := eq_true q22) | (go_at_call 38; (with_reducible refine (jetsamref01_letter.calls (bt a0 x8_3) false _ A23.out).mono ?_); rintro e w' ⟨rfl, ⟨nd, rfl⟩⟩; have p25 : 0 ≤ (x8_3 : Int) := of_decide_eq_true (by first | (with_reducible assumption) | assumption); have q25 : x8_3 < (a0.size : Int) := of_decide_eq_true (by first | (with_reducible assumption) | assumption); have hx25 := bt_at a0 x8_3; replace p25 := eq_true p25; replace q25 := eq_true q25) | (go_at_call 39; (with_reducible refine (jetsamref01_digit.calls (bt a0 x8_3) false _ A26.out).mono ?_); rintro e w' ⟨rfl, ⟨nd, rfl⟩⟩))
                                  go_meet
                                  case rel => exact ⟨_, (x8_3), (by first | rfl | (simp; done) | (simp [*]; done)), H', ⟨by have := HK1.out; have := HJ4.out; have := HK3.out; first | omega | exact Nat.le_refl _⟩, ⟨by (with_reducible repeat (first | apply Kd.R_alloc | apply Kd.R_drewN | apply Kd.R_drew)); exact HO_5.out⟩, ⟨by repeat (first | (with_reducible first | exact HB.out | apply below_alloc | apply pw_below_drewN | apply below_drew1) | exact HB.out)⟩⟩
                            · rw [if_neg c21] at H
                              exact absurd H (by simp)
                          · replace c20 := Bool.eq_false_iff.mpr c20
                            subst c20
                            have H1 : (jetsamref01_Lex.j3 k3 a0 x5_1 x6_1 (bt a0 x6_1) x8_3) = some (r1, r2, r3) := by rw [if_neg (show ¬ (false = true) by decide)] at H; exact H
                            clear H
                            have H := H1
                            clear H1
                            have H' := Aside0.mk H
                            clear H
                            go_wp2_with (first | (go_at_call 38; (with_reducible refine (jetsamref01_letter.calls (bt a0 x6_1) false _ A10.out).mono ?_); rintro e w' ⟨rfl, ⟨nd, rfl⟩⟩) | (go_at_call 39; (with_reducible refine (jetsamref01_digit.calls (bt a0 x6_1) false _ A19.out).mono ?_); rintro e w' ⟨rfl, ⟨nd, rfl⟩⟩))
                            go_meet
                            case rel => exact ⟨_, (x8_3), (by first | rfl | (simp; done) | (simp [*]; done)), H', ⟨by have := HK1.out; have := HJ4.out; have := HK3.out; first | omega | exact Nat.le_refl _⟩, ⟨by (with_reducible repeat (first | apply Kd.R_alloc | apply Kd.R_drewN | apply Kd.R_drew)); exact HO_5.out⟩, ⟨by repeat (first | (with_reducible first | exact HB.out | apply below_alloc | apply pw_below_drewN | apply below_drew1) | exact HB.out)⟩⟩
                      · rw [if_neg c9] at H
                        have c9b0 : decide (x8_3 < (a0.size : Int)) = false := decide_eq_false c9
                        clear c9
                        (first | rw [c9b0] | (simp only [i64_w, i32_w]; rw [c9b0]) | skip)
                        have H' := Aside0.mk H
                        clear H
                        go_wp2
                        go_meet
                        case rel => exact ⟨_, (x8_3), (by first | rfl | (simp; done) | (simp [*]; done)), H', ⟨by have := HK1.out; have := HJ4.out; have := HK3.out; first | omega | exact Nat.le_refl _⟩, ⟨by (with_reducible repeat (first | apply Kd.R_alloc | apply Kd.R_drewN | apply Kd.R_drew)); exact HO_5.out⟩, ⟨by repeat (first | (with_reducible first | exact HB.out | apply below_alloc | apply pw_below_drewN | apply below_drew1) | exact HB.out)⟩⟩
                case rest =>
                  clear HC8
                  try clear c1
                  try clear p1
                  try clear q1
                  try clear hx1
                  try clear c2
                  try clear c2b0
                  try clear p2
                  try clear q2
                  try clear hx2
                  try clear c3
                  try clear c3b0
                  try clear p4
                  try clear q4
                  try clear hx4
                  try clear c6
                  try clear c6b0
                  try clear c6b1
                  try clear p6
                  try clear c7
                  try clear c9
                  try clear c9b0
                  try clear c11
                  try clear c12
                  try clear c12b0
                  try clear p13
                  try clear q13
                  try clear hx13
                  try clear c15
                  try clear p16
                  try clear q16
                  try clear hx16
                  try clear c18
                  try clear c20
                  try clear c21
                  try clear c21b0
                  try clear p22
                  try clear q22
                  try clear hx22
                  try clear c23
                  try clear c24
                  try clear p25
                  try clear q25
                  try clear hx25
                  try clear c27
                  try clear p13
                  try clear p16
                  try clear p2
                  try clear p22
                  try clear p25
                  try clear p4
                  try clear p6
                  try clear q13
                  try clear q16
                  try clear q22
                  try clear q25
                  try clear q4
                  obtain ⟨kq, x8_7, rfl, HA, HJ7, HO_5, HB⟩ := hcut
                  cases kq with
                  | zero => exact absurd HA.out (by simp [jetsamref01_Lex.j3])
                  | succ kj7 =>
                    have H := HA.out
                    clear HA
                    simp only [jetsamref01_Lex.j3] at H
                    replace H := Option.bind_eq_some_iff.mp H
                    obtain ⟨t147, A280, H⟩ := H
                    replace H : (if t147 = true then (if 0 ≤ x6_1 then (if x6_1 ≤ x8_7 then (if x8_7 ≤ (a0.size : Int) then ((jetsamref01_Reserved.f kj7 (a0.extract (x6_1 : Int).toNat (x8_7 : Int).toNat)).bind fun t148 => (if t148 = true then (if ((a0.extract (x6_1 : Int).toNat (x8_7 : Int).toNat).size : Int) > 12 then (some (([] : List (S68)), x6_1, 3)) else (if x5_1.length < 3518437208883 then (jetsamref01_Lex.l0 kj7 a0 (x5_1 ++ [(⟨4, a0.extract (x6_1 : Int).toNat (x8_7 : Int).toNat, 0, x6_1⟩ : S68)]) x8_7) else (none))) else (if ((a0.extract (x6_1 : Int).toNat (x8_7 : Int).toNat).size : Int) > 12 then (some (([] : List (S68)), x6_1, 3)) else (if x5_1.length < 3518437208883 then (jetsamref01_Lex.l0 kj7 a0 (x5_1 ++ [(⟨1, a0.extract (x6_1 : Int).toNat (x8_7 : Int).toNat, 0, x6_1⟩ : S68)]) x8_7) else (none))))) else (none)) else (none)) else (none)) else ((jetsamref01_digit.f (bt a0 x6_1)).bind fun t155 => (if t155 = true then (if 0 ≤ x6_1 then (if x6_1 ≤ x8_7 then (if x8_7 ≤ (a0.size : Int) then (if ((a0.extract (x6_1 : Int).toNat (x8_7 : Int).toNat).size : Int) > 10 then (jetsamref01_Lex.j4 kj7 a0 x5_1 x6_1 x8_7 true 2 (a0.extract (x6_1 : Int).toNat (x8_7 : Int).toNat) 0 x6_1) else (if ((a0.extract (x6_1 : Int).toNat (x8_7 : Int).toNat).size : Int) > 1 then (jetsamref01_Lex.j4 kj7 a0 x5_1 x6_1 x8_7 ((bt a0 x6_1) == 48) 2 (a0.extract (x6_1 : Int).toNat (x8_7 : Int).toNat) 0 x6_1) else (jetsamref01_Lex.j4 kj7 a0 x5_1 x6_1 x8_7 false 2 (a0.extract (x6_1 : Int).toNat (x8_7 : Int).toNat) 0 x6_1))) else (none)) else (none)) else (none)) else ((jetsamref01_sign.f kj7 a0 x6_1).bind fun t160 => (if t160 = 0 then (some (([] : List (S68)), x6_1, 2)) else (if 0 ≤ x6_1 then (if x6_1 ≤ (wrap64 (x6_1 + t160)) then (if (wrap64 (x6_1 + t160)) ≤ (a0.size : Int) then (if x5_1.length < 3518437208883 then (jetsamref01_Lex.l0 kj7 a0 (x5_1 ++ [(⟨3, a0.extract (x6_1 : Int).toNat ((wrap64 (x6_1 + t160)) : Int).toNat, 0, x6_1⟩ : S68)]) (wrap64 (x6_1 + t160))) else (none)) else (none)) else (none)) else (none))))))) = some (r1, r2, r3) := H
                    have A28 := Aside0.mk A280
                    clear A280
                    by_cases c29 : t147 = true
                    · subst c29
                      have H1 : (if 0 ≤ x6_1 then (if x6_1 ≤ x8_7 then (if x8_7 ≤ (a0.size : Int) then ((jetsamref01_Reserved.f kj7 (a0.extract (x6_1 : Int).toNat (x8_7 : Int).toNat)).bind fun t148 => (if t148 = true then (if ((a0.extract (x6_1 : Int).toNat (x8_7 : Int).toNat).size : Int) > 12 then (some (([] : List (S68)), x6_1, 3)) else (if x5_1.length < 3518437208883 then (jetsamref01_Lex.l0 kj7 a0 (x5_1 ++ [(⟨4, a0.extract (x6_1 : Int).toNat (x8_7 : Int).toNat, 0, x6_1⟩ : S68)]) x8_7) else (none))) else (if ((a0.extract (x6_1 : Int).toNat (x8_7 : Int).toNat).size : Int) > 12 then (some (([] : List (S68)), x6_1, 3)) else (if x5_1.length < 3518437208883 then (jetsamref01_Lex.l0 kj7 a0 (x5_1 ++ [(⟨1, a0.extract (x6_1 : Int).toNat (x8_7 : Int).toNat, 0, x6_1⟩ : S68)]) x8_7) else (none))))) else (none)) else (none)) else (none)) = some (r1, r2, r3) := by rw [if_pos rfl] at H; exact H
                      clear H
                      have H := H1
                      clear H1
                      by_cases c30 : 0 ≤ x6_1
                      · rw [if_pos c30] at H
                        have c30b0 := eq_true c30
                        have c30b1 : decide (0 ≤ x6_1) = true := decide_eq_true c30
                        clear c30
                        by_cases c31 : x6_1 ≤ x8_7
                        · rw [if_pos c31] at H
                          have c31b0 := eq_true c31
                          have c31b1 : decide (x6_1 ≤ x8_7) = true := decide_eq_true c31
                          clear c31
                          by_cases c32 : x8_7 ≤ (a0.size : Int)
                          · rw [if_pos c32] at H
                            have c32b0 := eq_true c32
                            have c32b1 : decide (x8_7 ≤ (a0.size : Int)) = true := decide_eq_true c32
                            clear c32
                            replace H := Option.bind_eq_some_iff.mp H
                            obtain ⟨t148, A330, H⟩ := H
                            replace H : (if t148 = true then (if ((a0.extract (x6_1 : Int).toNat (x8_7 : Int).toNat).size : Int) > 12 then (some (([] : List (S68)), x6_1, 3)) else (if x5_1.length < 3518437208883 then (jetsamref01_Lex.l0 kj7 a0 (x5_1 ++ [(⟨4, a0.extract (x6_1 : Int).toNat (x8_7 : Int).toNat, 0, x6_1⟩ : S68)]) x8_7) else (none))) else (if ((a0.extract (x6_1 : Int).toNat (x8_7 : Int).toNat).size : Int) > 12 then (some (([] : List (S68)), x6_1, 3)) else (if x5_1.length < 3518437208883 then (jetsamref01_Lex.l0 kj7 a0 (x5_1 ++ [(⟨1, a0.extract (x6_1 : Int).toNat (x8_7 : Int).toNat, 0, x6_1⟩ : S68)]) x8_7) else (none)))) = some (r1, r2, r3) := H
                            have A33 := Aside0.mk A330
                            clear A330
                            by_cases c34 : t148 = true
                            · subst c34
                              have H1 : (if ((a0.extract (x6_1 : Int).toNat (x8_7 : Int).toNat).size : Int) > 12 then (some (([] : List (S68)), x6_1, 3)) else (if x5_1.length < 3518437208883 then (jetsamref01_Lex.l0 kj7 a0 (x5_1 ++ [(⟨4, a0.extract (x6_1 : Int).toNat (x8_7 : Int).toNat, 0, x6_1⟩ : S68)]) x8_7) else (none))) = some (r1, r2, r3) := by rw [if_pos rfl] at H; exact H
                              clear H
                              have H := H1
                              clear H1
                              by_cases c35 : ((a0.extract (x6_1 : Int).toNat (x8_7 : Int).toNat).size : Int) > 12
                              · rw [if_pos c35] at H
                                have c35b0 : decide (12 < ((a0.extract (x6_1 : Int).toNat (x8_7 : Int).toNat).size : Int)) = true := decide_eq_true c35
                                try ((have h_ : x8_7 ≤ (a0.size : Int) := by first | exact of_eq_true (by assumption) | exact of_decide_eq_true (by assumption)); (have e_ : (a0.extract (x6_1 : Int).toNat (x8_7 : Int).toNat).size = (x8_7 : Int).toNat - (x6_1 : Int).toNat := by rw [ByteArray.size_extract]; omega); (have c35b0e : decide (12 < (((x8_7 : Int).toNat - (x6_1 : Int).toNat : Nat) : Int)) = true := by rw [← e_]; exact c35b0); clear h_ e_)
                                have c35b0m : decide (12 < ((min (x8_7 : Int).toNat a0.size - (x6_1 : Int).toNat : Nat) : Int)) = true := by rw [← ByteArray.size_extract]; exact c35b0
                                have c35b1 : decide (12 < (a0.extract (x6_1 : Int).toNat (x8_7 : Int).toNat).size) = true := decide_eq_true (by omega)
                                try ((have h_ : x8_7 ≤ (a0.size : Int) := by first | exact of_eq_true (by assumption) | exact of_decide_eq_true (by assumption)); (have e_ : (a0.extract (x6_1 : Int).toNat (x8_7 : Int).toNat).size = (x8_7 : Int).toNat - (x6_1 : Int).toNat := by rw [ByteArray.size_extract]; omega); (have c35b1e : decide (12 < ((x8_7 : Int).toNat - (x6_1 : Int).toNat : Nat)) = true := by rw [← e_]; exact c35b1); clear h_ e_)
                                have c35b1m : decide (12 < (min (x8_7 : Int).toNat a0.size - (x6_1 : Int).toNat : Nat)) = true := by rw [← ByteArray.size_extract]; exact c35b1
                                clear c35
                                simp only [Option.some.injEq, Prod.mk.injEq] at H
                                obtain ⟨rfl, rfl, rfl⟩ := H
                                try go_wp2_with (first | ((with_reducible refine gate_dst (N := 9) rfl ?_); (try (refine gate_guard (by rfl) ?_; dsimp only)); refine box_event ?hg (N := 9) ?hd (cs := #[.int .i64 0, .string (⟨#[]⟩ : ByteArray), .int .i64 0, .int .i64 0]) (t := 68) ?hr ?_; (case hd => rfl); (case hg => rfl); (case hr => first | (go_simp; done) | (go_simp; rfl)); intro gb146 hg w36 hbox hb; have n0_ := Aside0.mk (Kd.R_below (Kd.R_elderB (by (with_reducible repeat (first | apply Kd.R_alloc | apply Kd.R_drewN | apply Kd.R_drew)); exact HO_5.out) gb146 (Nat.le_of_eq hg.symm)) hb); have n1_ := Aside0.mk (below_step (by repeat (first | (with_reducible first | exact HB.out | apply below_alloc | apply pw_below_drewN | apply below_drew1) | exact HB.out)) hb); have n2_ := Aside0.mk (hbox); have n3_ := Aside0.mk ((by rw [hg]; exact (below_size (by repeat (first | (with_reducible first | exact HB.out | apply below_alloc | apply pw_below_drewN | apply below_drew1) | exact HB.out))) : w.heap.size ≤ gb146)); have n4_ := Aside0.mk ((by rw [hg]; exact (below_size (by repeat (first | (with_reducible first | exact HB.out | apply below_alloc | apply pw_below_drewN | apply below_drew1) | exact HB.out))) : w.heap.size ≤ gb146)); clear HO_5; clear HB; have HO_5 := n0_; have HB := n1_; have BK146 := n2_; have GW146 := n3_; have GE146 := n4_; clear n0_ n1_ n2_ n3_ n4_; clear hb hbox hg; have hcz37_0 : w36.cell? ⟨gb146, 0, none⟩ = some (.int .i64 0) := (blk_cell BK146.out 0).trans rfl; have hcz37_1 : w36.cell? ⟨gb146, 1, none⟩ = some (.string (⟨#[]⟩ : ByteArray)) := (blk_cell BK146.out 1).trans rfl; have hcz37_2 : w36.cell? ⟨gb146, 2, none⟩ = some (.int .i64 0) := (blk_cell BK146.out 2).trans rfl; have hcz37_3 : w36.cell? ⟨gb146, 3, none⟩ = some (.int .i64 0) := (blk_cell BK146.out 3).trans rfl; have hfz37_0 := blk_frozen BK146.out 0; have hfz37_1 := blk_frozen BK146.out 1; have hfz37_2 := blk_frozen BK146.out 2; have hfz37_3 := blk_frozen BK146.out 3) | ((with_reducible refine gate_callee (f := 38) rfl ?_); refine goesL_ (some 73) rfl rfl Tryd.func38 (by kernel_rfl) rfl #[.int .u8 (bt a0 x6_1)] rfl (by (try simp only [List.map_toArray, List.map_cons, List.map_nil]); first | done | rfl | (simp only [List.length_drop, List.length_take]; rfl)) ?_; (with_reducible refine (jetsamref01_letter.calls (bt a0 x6_1) true _ A28.out).mono ?_); rintro e w' ⟨rfl, ⟨nd, rfl⟩⟩; refine ⟨_, rfl, ?_⟩))
                                have n0_ : Aside0 (Kd.R k68 68 ((((w36.setCell ⟨gb146, 0, none⟩ (.int .i64 0)).setCell ⟨gb146, 1, none⟩ (.string (⟨#[]⟩ : ByteArray))).setCell ⟨gb146, 2, none⟩ (.int .i64 0)).setCell ⟨gb146, 3, none⟩ (.int .i64 x6_1)) w.heap.size (fun k_ => k_ ≠ gb146) u5 x5_1) := ⟨by (with_reducible repeat (first | apply Kd.R_alloc | apply Kd.R_drewN | apply Kd.R_drew)); exact Kd.R_mono (Kd.R_far (p := ⟨gb146, 3, none⟩) (Kd.R_far (p := ⟨gb146, 2, none⟩) (Kd.R_far (p := ⟨gb146, 1, none⟩) (Kd.R_far (p := ⟨gb146, 0, none⟩) (Kd.R_mono HO_5.out (fun k_ hk => (⟨hk, hk.2⟩ : _ ∧ k_ ≠ gb146))) (fun _ hk => hk.2) (.int .i64 0)) (fun _ hk => hk.2) (.string (⟨#[]⟩ : ByteArray))) (fun _ hk => hk.2) (.int .i64 0)) (fun _ hk => hk.2) (.int .i64 x6_1)) (fun _ hk => hk.1.2)⟩
                                have n1_ : Aside0 (((((w36.setCell ⟨gb146, 0, none⟩ (.int .i64 0)).setCell ⟨gb146, 1, none⟩ (.string (⟨#[]⟩ : ByteArray))).setCell ⟨gb146, 2, none⟩ (.int .i64 0)).setCell ⟨gb146, 3, none⟩ (.int .i64 x6_1)).heap[gb146]? = some (.cells #[.int .i64 0, .string (⟨#[]⟩ : ByteArray), .int .i64 0, .int .i64 x6_1] 68 (0, 0))) := ⟨by (with_reducible repeat (first | refine blk_drewN ?_ _ | refine blk_drew ?_ | refine blk_alloc ?_ _)); refine blk_put (cs := #[.int .i64 0, .string (⟨#[]⟩ : ByteArray), .int .i64 0, .int .i64 0]) ?_ 3 _ rfl; (with_reducible repeat (first | refine blk_drewN ?_ _ | refine blk_drew ?_ | refine blk_alloc ?_ _)); refine blk_put (cs := #[.int .i64 0, .string (⟨#[]⟩ : ByteArray), .int .i64 0, .int .i64 0]) ?_ 2 _ rfl; (with_reducible repeat (first | refine blk_drewN ?_ _ | refine blk_drew ?_ | refine blk_alloc ?_ _)); refine blk_put (cs := #[.int .i64 0, .string (⟨#[]⟩ : ByteArray), .int .i64 0, .int .i64 0]) ?_ 1 _ rfl; (with_reducible repeat (first | refine blk_drewN ?_ _ | refine blk_drew ?_ | refine blk_alloc ?_ _)); refine blk_put (cs := #[.int .i64 0, .string (⟨#[]⟩ : ByteArray), .int .i64 0, .int .i64 0]) ?_ 0 _ rfl; (with_reducible repeat (first | refine blk_drewN ?_ _ | refine blk_drew ?_ | refine blk_alloc ?_ _)); exact BK146.out⟩
                                have n2_ : Aside0 (Below w.heap.size w ((((w36.setCell ⟨gb146, 0, none⟩ (.int .i64 0)).setCell ⟨gb146, 1, none⟩ (.string (⟨#[]⟩ : ByteArray))).setCell ⟨gb146, 2, none⟩ (.int .i64 0)).setCell ⟨gb146, 3, none⟩ (.int .i64 x6_1))) := ⟨by repeat (first | (with_reducible first | exact HB.out | apply below_alloc | apply pw_below_drewN | apply below_drew1 | refine below_set ?_ GE146.out) | exact HB.out)⟩
                                (try clear HO_5)
                                (try clear BK146)
                                (try clear HB)
                                generalize ((((w36.setCell ⟨gb146, 0, none⟩ (.int .i64 0)).setCell ⟨gb146, 1, none⟩ (.string (⟨#[]⟩ : ByteArray))).setCell ⟨gb146, 2, none⟩ (.int .i64 0)).setCell ⟨gb146, 3, none⟩ (.int .i64 x6_1)) = w38 at n0_ n1_ n2_ ⊢
                                have HO_5 := n0_
                                have BK146 := n1_
                                have HB := n2_
                                clear n0_ n1_ n2_
                                (try (rw [drewN_self w38]; generalize hq_ : World.drewN w38 _ = w38; have n0_ : Aside0 (Kd.R k68 68 w38 w.heap.size (fun k_ => k_ ≠ gb146) u5 x5_1) := ⟨by rw [← hq_]; exact (by (with_reducible repeat (first | apply Kd.R_alloc | apply Kd.R_drewN | apply Kd.R_drew)); exact HO_5.out)⟩; have n1_ : Aside0 (w38.heap[gb146]? = some (.cells #[.int .i64 0, .string (⟨#[]⟩ : ByteArray), .int .i64 0, .int .i64 x6_1] 68 (0, 0))) := ⟨by rw [← hq_]; exact (by (with_reducible repeat (first | refine blk_drewN ?_ _ | refine blk_drew ?_ | refine blk_alloc ?_ _)); exact BK146.out)⟩; have n2_ : Aside0 (Below w.heap.size w w38) := ⟨by rw [← hq_]; exact (by repeat (first | (with_reducible first | exact HB.out | apply below_alloc | apply pw_below_drewN | apply below_drew1 | refine below_set ?_ GE146.out) | exact HB.out))⟩; clear HO_5 BK146 HB hq_; have HO_5 := n0_; have BK146 := n1_; have HB := n2_; clear n0_ n1_ n2_))
                                have n0_ := Aside0.mk (Kd.R_drew HO_5.out)
                                have n1_ := Aside0.mk (blk_drew BK146.out)
                                have n2_ := Aside0.mk (below_drew1 HB.out)
                                clear HO_5
                                clear BK146
                                clear HB
                                have HO_5 := n0_
                                have BK146 := n1_
                                have HB := n2_
                                clear n0_ n1_ n2_
                                refine start_ (n := 8) (S := fun w' => True) (ds := []) #[false, false, false, false, false, false, false, false] (by kernel_rfl) rfl rfl trivial (fun hHeld => ?_); refine with_tabW jetsamref01_Lex.tab17 jetsamref01_Lex.bits17 (fun HT_ HW_ => ?_)
                                generalize w38.drew = w39 at HO_5 BK146 HB hHeld ⊢
                                refine pure_ (i := 0) (N := some 74) (v := ?_) (a' := ?_) #[true, false, false, false, false, false, false, false] rfl rfl (any_of HT_.out (by kernel_rfl)) (fun _ _ _ h => h) (Or.inl ⟨by rfl, ?_⟩) ?_ ?_
                                rotate_left
                                · intro w'
                                  go_simp
                                  with_reducible rfl
                                rotate_left
                                · simp only [Act.put, List.setIfInBounds_toArray, List.set_cons_zero, List.set_cons_succ, i64_w, i32_w]
                                  rfl
                                refine pure_ (i := 1) (N := some 75) (v := ?_) (a' := ?_) #[true, true, false, false, false, false, false, false] rfl rfl (any_of HT_.out (by kernel_rfl)) (fun _ _ _ h => h) (Or.inl ⟨by rfl, ?_⟩) ?_ ?_
                                rotate_left
                                · intro w'
                                  go_simp
                                  with_reducible rfl
                                rotate_left
                                · simp only [Act.put, List.setIfInBounds_toArray, List.set_cons_zero, List.set_cons_succ, i64_w, i32_w]
                                  rfl
                                refine pure_ (i := 2) (N := some 76) (v := ?_) (a' := ?_) #[true, true, true, false, false, false, false, false] rfl rfl (any_of HT_.out (by kernel_rfl)) (fun _ _ _ h => h) (Or.inl ⟨by rfl, ?_⟩) ?_ ?_
                                rotate_left
                                · intro w'
                                  go_simp
                                  with_reducible rfl
                                rotate_left
                                · simp only [Act.put, List.setIfInBounds_toArray, List.set_cons_zero, List.set_cons_succ, i64_w, i32_w]
                                  rfl
                                refine pure_ (i := 3) (N := some 77) (v := ?_) (a' := ?_) #[true, true, true, true, false, false, false, false] rfl rfl (any_of HT_.out (by kernel_rfl)) (fun _ _ _ h => h) (Or.inl ⟨by rfl, ?_⟩) ?_ ?_
                                rotate_left
                                · intro w'
                                  go_simp
                                  with_reducible rfl
                                rotate_left
                                · simp only [Act.put, List.setIfInBounds_toArray, List.set_cons_zero, List.set_cons_succ, i64_w, i32_w]
                                  rfl
                                refine pure_ (i := 4) (N := some 78) (v := ?_) (a' := ?_) #[true, true, true, true, true, false, false, false] rfl rfl (any_of HT_.out (by kernel_rfl)) (fun _ _ _ h => h) (Or.inl ⟨by rfl, ?_⟩) ?_ ?_
                                rotate_left
                                · intro w'
                                  go_simp
                                  with_reducible rfl
                                rotate_left
                                · simp only [Act.put, List.setIfInBounds_toArray, List.set_cons_zero, List.set_cons_succ, i64_w, i32_w]
                                  rfl
                                refine one_ (i := 5) (N := none) #[true, true, true, true, true, true, false, false] rfl rfl (one_of HT_.out (by kernel_rfl)) (by decide) (fun K hK => ?_)
                                have hs40 : w39.cell? ⟨gb146, 0, none⟩ = some (.int .i64 0) := (blk_cell BK146.out 0).trans rfl
                                have hfs40 := blk_frozen BK146.out 0
                                refine skip_ (w1 := ?_) (by rfl) rfl ?_ ?_
                                rotate_left
                                · go_simp
                                  rfl
                                refine hK.out _ _ trivial (fun hHeld => ?_)
                                clear hK K
                                refine pure_ (i := 6) (N := some 79) (v := ?_) (a' := ?_) #[true, true, true, true, true, true, true, false] rfl rfl (any_of HT_.out (by kernel_rfl)) (fun _ _ _ h => h) (Or.inl ⟨by rfl, ?_⟩) ?_ ?_
                                rotate_left
                                · intro w'
                                  go_simp
                                  with_reducible rfl
                                rotate_left
                                · simp only [Act.put, List.setIfInBounds_toArray, List.set_cons_zero, List.set_cons_succ, i64_w, i32_w]
                                  rfl
                                refine one_ (i := 7) (N := none) #[true, true, true, true, true, true, true, true] rfl rfl (one_of HT_.out (by kernel_rfl)) (by decide) (fun K hK => ?_)
                                have hs41 : w39.cell? ⟨gb146, 1, none⟩ = some (.string (⟨#[]⟩ : ByteArray)) := (blk_cell BK146.out 1).trans rfl
                                have hfs41 := blk_frozen BK146.out 1
                                refine skip_ (w1 := ?_) (by rfl) rfl ?_ ?_
                                rotate_left
                                · go_simp
                                  rfl
                                refine hK.out _ _ trivial (fun hHeld => ?_)
                                clear hK K
                                refine done_ (done_of HT_.out (by kernel_rfl)) ?_
                                have hcz42_0 : w39.cell? ⟨gb146, 0, none⟩ = some (.int .i64 0) := (blk_cell BK146.out 0).trans rfl
                                have hcz42_1 : w39.cell? ⟨gb146, 1, none⟩ = some (.string (⟨#[]⟩ : ByteArray)) := (blk_cell BK146.out 1).trans rfl
                                have hcz42_2 : w39.cell? ⟨gb146, 2, none⟩ = some (.int .i64 0) := (blk_cell BK146.out 2).trans rfl
                                have hcz42_3 : w39.cell? ⟨gb146, 3, none⟩ = some (.int .i64 x6_1) := (blk_cell BK146.out 3).trans rfl
                                have hfz42_0 := blk_frozen BK146.out 0
                                have hfz42_1 := blk_frozen BK146.out 1
                                have hfz42_2 := blk_frozen BK146.out 2
                                have hfz42_3 := blk_frozen BK146.out 3
                                try go_wp2_with (first | ((with_reducible refine gate_callee (f := 26) rfl ?_); refine goesL_ (some 82) rfl rfl Tryd.func26 (by kernel_rfl) rfl #[.string (a0.extract (x6_1 : Int).toNat (x8_7 : Int).toNat)] rfl (by (try simp only [List.map_toArray, List.map_cons, List.map_nil]); first | done | rfl | (simp only [List.length_drop, List.length_take]; rfl)) ?_; (with_reducible refine (jetsamref01_Reserved.calls kj7 (a0.extract (x6_1 : Int).toNat (x8_7 : Int).toNat) true _ A33.out).mono ?_); rintro e w43 ⟨rfl, hb⟩; refine ⟨_, rfl, ?_⟩; have n0_ := Aside0.mk (Kd.R_below (by (with_reducible repeat (first | apply Kd.R_alloc | apply Kd.R_drewN | apply Kd.R_drew)); exact (Kd.R_mono (Kd.R_far (p := ⟨gb146, 1, none⟩) (Kd.R_far (p := ⟨gb146, 0, none⟩) (Kd.R_mono HO_5.out (fun k_ hk => (⟨hk, hk⟩ : _ ∧ k_ ≠ gb146))) (fun _ hk => hk.2) (.int .i64 1)) (fun _ hk => hk.2) (.string (a0.extract (x6_1 : Int).toNat (x8_7 : Int).toNat))) (fun _ h_ => h_.1))) hb); have n1_ := Aside0.mk (blk_below (g := gb146) (o := .cells #[.int .i64 1, .string (a0.extract (x6_1 : Int).toNat (x8_7 : Int).toNat), .int .i64 0, .int .i64 x6_1] 68 (0, 0)) (by (with_reducible repeat (first | refine blk_drewN ?_ _ | refine blk_drew ?_ | refine blk_alloc ?_ _)); refine blk_put (cs := #[.int .i64 1, .string (⟨#[]⟩ : ByteArray), .int .i64 0, .int .i64 x6_1]) ?_ 1 _ rfl; (with_reducible repeat (first | refine blk_drewN ?_ _ | refine blk_drew ?_ | refine blk_alloc ?_ _)); refine blk_put (cs := #[.int .i64 0, .string (⟨#[]⟩ : ByteArray), .int .i64 0, .int .i64 x6_1]) ?_ 0 _ rfl; (with_reducible repeat (first | refine blk_drewN ?_ _ | refine blk_drew ?_ | refine blk_alloc ?_ _)); exact BK146.out) hb); have n2_ := Aside0.mk (below_step (by repeat (first | (with_reducible first | exact HB.out | apply below_alloc | apply pw_below_drewN | apply below_drew1 | refine below_set ?_ GE146.out) | exact HB.out)) hb); clear HO_5; clear BK146; clear HB; have HO_5 := n0_; have BK146 := n1_; have HB := n2_; clear n0_ n1_ n2_; (try clear hb); (try clear hb2); (try clear hk); (try clear hi); have hcz44_0 : w43.cell? ⟨gb146, 0, none⟩ = some (.int .i64 1) := (blk_cell BK146.out 0).trans rfl; have hcz44_1 : w43.cell? ⟨gb146, 1, none⟩ = some (.string (a0.extract (x6_1 : Int).toNat (x8_7 : Int).toNat)) := (blk_cell BK146.out 1).trans rfl; have hcz44_2 : w43.cell? ⟨gb146, 2, none⟩ = some (.int .i64 0) := (blk_cell BK146.out 2).trans rfl; have hcz44_3 : w43.cell? ⟨gb146, 3, none⟩ = some (.int .i64 x6_1) := (blk_cell BK146.out 3).trans rfl; have hfz44_0 := blk_frozen BK146.out 0; have hfz44_1 := blk_frozen BK146.out 1; have hfz44_2 := blk_frozen BK146.out 2; have hfz44_3 := blk_frozen BK146.out 3))
                                go_ret3
                                exact ⟨_, by first | rfl | (simp [errW_none, errW_some] <;> rfl) | (simp [*, errW_none, errW_some] <;> rfl), by first | exact Kd.R_nil _ _ _ _ _ | exact Kd.N_nil _ _ _ _ _ | exact Kd.V_nil _ _ _ _ _ | exact Kd.Q_nil _ _ _ _ _ | exact Kd.S_nil _ _ _ _ _, by repeat (first | (with_reducible first | exact HB.out | apply below_alloc | apply pw_below_drewN | apply below_drew1 | refine below_set ?_ GE146.out) | exact HB.out)⟩
                              · rw [if_neg c35] at H
                                have c35b0 : decide (12 < ((a0.extract (x6_1 : Int).toNat (x8_7 : Int).toNat).size : Int)) = false := decide_eq_false c35
                                try ((have h_ : x8_7 ≤ (a0.size : Int) := by first | exact of_eq_true (by assumption) | exact of_decide_eq_true (by assumption)); (have e_ : (a0.extract (x6_1 : Int).toNat (x8_7 : Int).toNat).size = (x8_7 : Int).toNat - (x6_1 : Int).toNat := by rw [ByteArray.size_extract]; omega); (have c35b0e : decide (12 < (((x8_7 : Int).toNat - (x6_1 : Int).toNat : Nat) : Int)) = false := by rw [← e_]; exact c35b0); clear h_ e_)
                                have c35b0m : decide (12 < ((min (x8_7 : Int).toNat a0.size - (x6_1 : Int).toNat : Nat) : Int)) = false := by rw [← ByteArray.size_extract]; exact c35b0
                                have c35b1 : decide (12 < (a0.extract (x6_1 : Int).toNat (x8_7 : Int).toNat).size) = false := decide_eq_false (by omega)
                                try ((have h_ : x8_7 ≤ (a0.size : Int) := by first | exact of_eq_true (by assumption) | exact of_decide_eq_true (by assumption)); (have e_ : (a0.extract (x6_1 : Int).toNat (x8_7 : Int).toNat).size = (x8_7 : Int).toNat - (x6_1 : Int).toNat := by rw [ByteArray.size_extract]; omega); (have c35b1e : decide (12 < ((x8_7 : Int).toNat - (x6_1 : Int).toNat : Nat)) = false := by rw [← e_]; exact c35b1); clear h_ e_)
                                have c35b1m : decide (12 < (min (x8_7 : Int).toNat a0.size - (x6_1 : Int).toNat : Nat)) = false := by rw [← ByteArray.size_extract]; exact c35b1
                                clear c35
                                by_cases c45 : x5_1.length < 3518437208883
                                · rw [if_pos c45] at H
                                  have LMc45 := Aside0.mk c45
                                  clear c45
                                  obtain ⟨y149, hy149⟩ : ∃ y_ : List (S68), y_ = (x5_1 ++ [(⟨4, a0.extract (x6_1 : Int).toNat (x8_7 : Int).toNat, 0, x6_1⟩ : S68)]) := ⟨_, rfl⟩
                                  replace H : (jetsamref01_Lex.l0 kj7 a0 y149 x8_7) = some (r1, r2, r3) := by first | (rw [hy149]; with_reducible exact H) | (have H2_ := (Option.bind_some _ _).symm.trans H; rw [hy149]; with_reducible exact H2_) | (have H2_ := (Option.bind_some _ _).symm.trans H; with_reducible exact H2_) | with_reducible exact H | (rw [hy149]; exact H) | exact H
                                  have Ny149 := Aside0.mk hy149
                                  clear hy149
                                  have H' := Aside0.mk H
                                  clear H
                                  try go_wp2_with (first | ((with_reducible refine gate_dst (N := 9) rfl ?_); (try (refine gate_guard (by rfl) ?_; dsimp only)); refine box_event ?hg (N := 9) ?hd (cs := #[.int .i64 0, .string (⟨#[]⟩ : ByteArray), .int .i64 0, .int .i64 0]) (t := 68) ?hr ?_; (case hd => rfl); (case hg => rfl); (case hr => first | (go_simp; done) | (go_simp; rfl)); intro gb146 hg w46 hbox hb; have n0_ := Aside0.mk (Kd.R_below (Kd.R_elderB (by (with_reducible repeat (first | apply Kd.R_alloc | apply Kd.R_drewN | apply Kd.R_drew)); exact HO_5.out) gb146 (Nat.le_of_eq hg.symm)) hb); have n1_ := Aside0.mk (below_step (by repeat (first | (with_reducible first | exact HB.out | apply below_alloc | apply pw_below_drewN | apply below_drew1) | exact HB.out)) hb); have n2_ := Aside0.mk (hbox); have n3_ := Aside0.mk ((by rw [hg]; exact (below_size (by repeat (first | (with_reducible first | exact HB.out | apply below_alloc | apply pw_below_drewN | apply below_drew1) | exact HB.out))) : w.heap.size ≤ gb146)); have n4_ := Aside0.mk ((by rw [hg]; exact (below_size (by repeat (first | (with_reducible first | exact HB.out | apply below_alloc | apply pw_below_drewN | apply below_drew1) | exact HB.out))) : w.heap.size ≤ gb146)); clear HO_5; clear HB; have HO_5 := n0_; have HB := n1_; have BK146 := n2_; have GW146 := n3_; have GE146 := n4_; clear n0_ n1_ n2_ n3_ n4_; clear hb hbox hg; have hcz47_0 : w46.cell? ⟨gb146, 0, none⟩ = some (.int .i64 0) := (blk_cell BK146.out 0).trans rfl; have hcz47_1 : w46.cell? ⟨gb146, 1, none⟩ = some (.string (⟨#[]⟩ : ByteArray)) := (blk_cell BK146.out 1).trans rfl; have hcz47_2 : w46.cell? ⟨gb146, 2, none⟩ = some (.int .i64 0) := (blk_cell BK146.out 2).trans rfl; have hcz47_3 : w46.cell? ⟨gb146, 3, none⟩ = some (.int .i64 0) := (blk_cell BK146.out 3).trans rfl; have hfz47_0 := blk_frozen BK146.out 0; have hfz47_1 := blk_frozen BK146.out 1; have hfz47_2 := blk_frozen BK146.out 2; have hfz47_3 := blk_frozen BK146.out 3) | ((with_reducible refine gate_callee (f := 38) rfl ?_); refine goesL_ (some 73) rfl rfl Tryd.func38 (by kernel_rfl) rfl #[.int .u8 (bt a0 x6_1)] rfl (by (try simp only [List.map_toArray, List.map_cons, List.map_nil]); first | done | rfl | (simp only [List.length_drop, List.length_take]; rfl)) ?_; (with_reducible refine (jetsamref01_letter.calls (bt a0 x6_1) true _ A28.out).mono ?_); rintro e w' ⟨rfl, ⟨nd, rfl⟩⟩; refine ⟨_, rfl, ?_⟩))
                                  have n0_ : Aside0 (Kd.R k68 68 ((((w46.setCell ⟨gb146, 0, none⟩ (.int .i64 0)).setCell ⟨gb146, 1, none⟩ (.string (⟨#[]⟩ : ByteArray))).setCell ⟨gb146, 2, none⟩ (.int .i64 0)).setCell ⟨gb146, 3, none⟩ (.int .i64 x6_1)) w.heap.size (fun k_ => k_ ≠ gb146) u5 x5_1) := ⟨by (with_reducible repeat (first | apply Kd.R_alloc | apply Kd.R_drewN | apply Kd.R_drew)); exact Kd.R_mono (Kd.R_far (p := ⟨gb146, 3, none⟩) (Kd.R_far (p := ⟨gb146, 2, none⟩) (Kd.R_far (p := ⟨gb146, 1, none⟩) (Kd.R_far (p := ⟨gb146, 0, none⟩) (Kd.R_mono HO_5.out (fun k_ hk => (⟨hk, hk.2⟩ : _ ∧ k_ ≠ gb146))) (fun _ hk => hk.2) (.int .i64 0)) (fun _ hk => hk.2) (.string (⟨#[]⟩ : ByteArray))) (fun _ hk => hk.2) (.int .i64 0)) (fun _ hk => hk.2) (.int .i64 x6_1)) (fun _ hk => hk.1.2)⟩
                                  have n1_ : Aside0 (((((w46.setCell ⟨gb146, 0, none⟩ (.int .i64 0)).setCell ⟨gb146, 1, none⟩ (.string (⟨#[]⟩ : ByteArray))).setCell ⟨gb146, 2, none⟩ (.int .i64 0)).setCell ⟨gb146, 3, none⟩ (.int .i64 x6_1)).heap[gb146]? = some (.cells #[.int .i64 0, .string (⟨#[]⟩ : ByteArray), .int .i64 0, .int .i64 x6_1] 68 (0, 0))) := ⟨by (with_reducible repeat (first | refine blk_drewN ?_ _ | refine blk_drew ?_ | refine blk_alloc ?_ _)); refine blk_put (cs := #[.int .i64 0, .string (⟨#[]⟩ : ByteArray), .int .i64 0, .int .i64 0]) ?_ 3 _ rfl; (with_reducible repeat (first | refine blk_drewN ?_ _ | refine blk_drew ?_ | refine blk_alloc ?_ _)); refine blk_put (cs := #[.int .i64 0, .string (⟨#[]⟩ : ByteArray), .int .i64 0, .int .i64 0]) ?_ 2 _ rfl; (with_reducible repeat (first | refine blk_drewN ?_ _ | refine blk_drew ?_ | refine blk_alloc ?_ _)); refine blk_put (cs := #[.int .i64 0, .string (⟨#[]⟩ : ByteArray), .int .i64 0, .int .i64 0]) ?_ 1 _ rfl; (with_reducible repeat (first | refine blk_drewN ?_ _ | refine blk_drew ?_ | refine blk_alloc ?_ _)); refine blk_put (cs := #[.int .i64 0, .string (⟨#[]⟩ : ByteArray), .int .i64 0, .int .i64 0]) ?_ 0 _ rfl; (with_reducible repeat (first | refine blk_drewN ?_ _ | refine blk_drew ?_ | refine blk_alloc ?_ _)); exact BK146.out⟩
                                  have n2_ : Aside0 (Below w.heap.size w ((((w46.setCell ⟨gb146, 0, none⟩ (.int .i64 0)).setCell ⟨gb146, 1, none⟩ (.string (⟨#[]⟩ : ByteArray))).setCell ⟨gb146, 2, none⟩ (.int .i64 0)).setCell ⟨gb146, 3, none⟩ (.int .i64 x6_1))) := ⟨by repeat (first | (with_reducible first | exact HB.out | apply below_alloc | apply pw_below_drewN | apply below_drew1 | refine below_set ?_ GE146.out) | exact HB.out)⟩
                                  (try clear HO_5)
                                  (try clear BK146)
                                  (try clear HB)
                                  generalize ((((w46.setCell ⟨gb146, 0, none⟩ (.int .i64 0)).setCell ⟨gb146, 1, none⟩ (.string (⟨#[]⟩ : ByteArray))).setCell ⟨gb146, 2, none⟩ (.int .i64 0)).setCell ⟨gb146, 3, none⟩ (.int .i64 x6_1)) = w48 at n0_ n1_ n2_ ⊢
                                  have HO_5 := n0_
                                  have BK146 := n1_
                                  have HB := n2_
                                  clear n0_ n1_ n2_
                                  (try (rw [drewN_self w48]; generalize hq_ : World.drewN w48 _ = w48; have n0_ : Aside0 (Kd.R k68 68 w48 w.heap.size (fun k_ => k_ ≠ gb146) u5 x5_1) := ⟨by rw [← hq_]; exact (by (with_reducible repeat (first | apply Kd.R_alloc | apply Kd.R_drewN | apply Kd.R_drew)); exact HO_5.out)⟩; have n1_ : Aside0 (w48.heap[gb146]? = some (.cells #[.int .i64 0, .string (⟨#[]⟩ : ByteArray), .int .i64 0, .int .i64 x6_1] 68 (0, 0))) := ⟨by rw [← hq_]; exact (by (with_reducible repeat (first | refine blk_drewN ?_ _ | refine blk_drew ?_ | refine blk_alloc ?_ _)); exact BK146.out)⟩; have n2_ : Aside0 (Below w.heap.size w w48) := ⟨by rw [← hq_]; exact (by repeat (first | (with_reducible first | exact HB.out | apply below_alloc | apply pw_below_drewN | apply below_drew1 | refine below_set ?_ GE146.out) | exact HB.out))⟩; clear HO_5 BK146 HB hq_; have HO_5 := n0_; have BK146 := n1_; have HB := n2_; clear n0_ n1_ n2_))
                                  have n0_ := Aside0.mk (Kd.R_drew HO_5.out)
                                  have n1_ := Aside0.mk (blk_drew BK146.out)
                                  have n2_ := Aside0.mk (below_drew1 HB.out)
                                  clear HO_5
                                  clear BK146
                                  clear HB
                                  have HO_5 := n0_
                                  have BK146 := n1_
                                  have HB := n2_
                                  clear n0_ n1_ n2_
                                  refine start_ (n := 8) (S := fun w' => True) (ds := []) #[false, false, false, false, false, false, false, false] (by kernel_rfl) rfl rfl trivial (fun hHeld => ?_); refine with_tabW jetsamref01_Lex.tab17 jetsamref01_Lex.bits17 (fun HT_ HW_ => ?_)
                                  generalize w48.drew = w49 at HO_5 BK146 HB hHeld ⊢
                                  refine pure_ (i := 0) (N := some 74) (v := ?_) (a' := ?_) #[true, false, false, false, false, false, false, false] rfl rfl (any_of HT_.out (by kernel_rfl)) (fun _ _ _ h => h) (Or.inl ⟨by rfl, ?_⟩) ?_ ?_
                                  rotate_left
                                  · intro w'
                                    go_simp
                                    with_reducible rfl
                                  rotate_left
                                  · simp only [Act.put, List.setIfInBounds_toArray, List.set_cons_zero, List.set_cons_succ, i64_w, i32_w]
                                    rfl
                                  refine pure_ (i := 1) (N := some 75) (v := ?_) (a' := ?_) #[true, true, false, false, false, false, false, false] rfl rfl (any_of HT_.out (by kernel_rfl)) (fun _ _ _ h => h) (Or.inl ⟨by rfl, ?_⟩) ?_ ?_
                                  rotate_left
                                  · intro w'
                                    go_simp
                                    with_reducible rfl
                                  rotate_left
                                  · simp only [Act.put, List.setIfInBounds_toArray, List.set_cons_zero, List.set_cons_succ, i64_w, i32_w]
                                    rfl
                                  refine pure_ (i := 2) (N := some 76) (v := ?_) (a' := ?_) #[true, true, true, false, false, false, false, false] rfl rfl (any_of HT_.out (by kernel_rfl)) (fun _ _ _ h => h) (Or.inl ⟨by rfl, ?_⟩) ?_ ?_
                                  rotate_left
                                  · intro w'
                                    go_simp
                                    with_reducible rfl
                                  rotate_left
                                  · simp only [Act.put, List.setIfInBounds_toArray, List.set_cons_zero, List.set_cons_succ, i64_w, i32_w]
                                    rfl
                                  refine pure_ (i := 3) (N := some 77) (v := ?_) (a' := ?_) #[true, true, true, true, false, false, false, false] rfl rfl (any_of HT_.out (by kernel_rfl)) (fun _ _ _ h => h) (Or.inl ⟨by rfl, ?_⟩) ?_ ?_
                                  rotate_left
                                  · intro w'
                                    go_simp
                                    with_reducible rfl
                                  rotate_left
                                  · simp only [Act.put, List.setIfInBounds_toArray, List.set_cons_zero, List.set_cons_succ, i64_w, i32_w]
                                    rfl
                                  refine pure_ (i := 4) (N := some 78) (v := ?_) (a' := ?_) #[true, true, true, true, true, false, false, false] rfl rfl (any_of HT_.out (by kernel_rfl)) (fun _ _ _ h => h) (Or.inl ⟨by rfl, ?_⟩) ?_ ?_
                                  rotate_left
                                  · intro w'
                                    go_simp
                                    with_reducible rfl
                                  rotate_left
                                  · simp only [Act.put, List.setIfInBounds_toArray, List.set_cons_zero, List.set_cons_succ, i64_w, i32_w]
                                    rfl
                                  refine one_ (i := 5) (N := none) #[true, true, true, true, true, true, false, false] rfl rfl (one_of HT_.out (by kernel_rfl)) (by decide) (fun K hK => ?_)
                                  have hs50 : w49.cell? ⟨gb146, 0, none⟩ = some (.int .i64 0) := (blk_cell BK146.out 0).trans rfl
                                  have hfs50 := blk_frozen BK146.out 0
                                  refine skip_ (w1 := ?_) (by rfl) rfl ?_ ?_
                                  rotate_left
                                  · go_simp
                                    rfl
                                  refine hK.out _ _ trivial (fun hHeld => ?_)
                                  clear hK K
                                  refine pure_ (i := 6) (N := some 79) (v := ?_) (a' := ?_) #[true, true, true, true, true, true, true, false] rfl rfl (any_of HT_.out (by kernel_rfl)) (fun _ _ _ h => h) (Or.inl ⟨by rfl, ?_⟩) ?_ ?_
                                  rotate_left
                                  · intro w'
                                    go_simp
                                    with_reducible rfl
                                  rotate_left
                                  · simp only [Act.put, List.setIfInBounds_toArray, List.set_cons_zero, List.set_cons_succ, i64_w, i32_w]
                                    rfl
                                  refine one_ (i := 7) (N := none) #[true, true, true, true, true, true, true, true] rfl rfl (one_of HT_.out (by kernel_rfl)) (by decide) (fun K hK => ?_)
                                  have hs51 : w49.cell? ⟨gb146, 1, none⟩ = some (.string (⟨#[]⟩ : ByteArray)) := (blk_cell BK146.out 1).trans rfl
                                  have hfs51 := blk_frozen BK146.out 1
                                  refine skip_ (w1 := ?_) (by rfl) rfl ?_ ?_
                                  rotate_left
                                  · go_simp
                                    rfl
                                  refine hK.out _ _ trivial (fun hHeld => ?_)
                                  clear hK K
                                  refine done_ (done_of HT_.out (by kernel_rfl)) ?_
                                  have hcz52_0 : w49.cell? ⟨gb146, 0, none⟩ = some (.int .i64 0) := (blk_cell BK146.out 0).trans rfl
                                  have hcz52_1 : w49.cell? ⟨gb146, 1, none⟩ = some (.string (⟨#[]⟩ : ByteArray)) := (blk_cell BK146.out 1).trans rfl
                                  have hcz52_2 : w49.cell? ⟨gb146, 2, none⟩ = some (.int .i64 0) := (blk_cell BK146.out 2).trans rfl
                                  have hcz52_3 : w49.cell? ⟨gb146, 3, none⟩ = some (.int .i64 x6_1) := (blk_cell BK146.out 3).trans rfl
                                  have hfz52_0 := blk_frozen BK146.out 0
                                  have hfz52_1 := blk_frozen BK146.out 1
                                  have hfz52_2 := blk_frozen BK146.out 2
                                  have hfz52_3 := blk_frozen BK146.out 3
                                  try go_wp2_with (first | ((with_reducible refine gate_callee (f := 26) rfl ?_); refine goesL_ (some 82) rfl rfl Tryd.func26 (by kernel_rfl) rfl #[.string (a0.extract (x6_1 : Int).toNat (x8_7 : Int).toNat)] rfl (by (try simp only [List.map_toArray, List.map_cons, List.map_nil]); first | done | rfl | (simp only [List.length_drop, List.length_take]; rfl)) ?_; (with_reducible refine (jetsamref01_Reserved.calls kj7 (a0.extract (x6_1 : Int).toNat (x8_7 : Int).toNat) true _ A33.out).mono ?_); rintro e w53 ⟨rfl, hb⟩; refine ⟨_, rfl, ?_⟩; have n0_ := Aside0.mk (Kd.R_below (by (with_reducible repeat (first | apply Kd.R_alloc | apply Kd.R_drewN | apply Kd.R_drew)); exact (Kd.R_mono (Kd.R_far (p := ⟨gb146, 1, none⟩) (Kd.R_far (p := ⟨gb146, 0, none⟩) (Kd.R_mono HO_5.out (fun k_ hk => (⟨hk, hk⟩ : _ ∧ k_ ≠ gb146))) (fun _ hk => hk.2) (.int .i64 1)) (fun _ hk => hk.2) (.string (a0.extract (x6_1 : Int).toNat (x8_7 : Int).toNat))) (fun _ h_ => h_.1))) hb); have n1_ := Aside0.mk (blk_below (g := gb146) (o := .cells #[.int .i64 1, .string (a0.extract (x6_1 : Int).toNat (x8_7 : Int).toNat), .int .i64 0, .int .i64 x6_1] 68 (0, 0)) (by (with_reducible repeat (first | refine blk_drewN ?_ _ | refine blk_drew ?_ | refine blk_alloc ?_ _)); refine blk_put (cs := #[.int .i64 1, .string (⟨#[]⟩ : ByteArray), .int .i64 0, .int .i64 x6_1]) ?_ 1 _ rfl; (with_reducible repeat (first | refine blk_drewN ?_ _ | refine blk_drew ?_ | refine blk_alloc ?_ _)); refine blk_put (cs := #[.int .i64 0, .string (⟨#[]⟩ : ByteArray), .int .i64 0, .int .i64 x6_1]) ?_ 0 _ rfl; (with_reducible repeat (first | refine blk_drewN ?_ _ | refine blk_drew ?_ | refine blk_alloc ?_ _)); exact BK146.out) hb); have n2_ := Aside0.mk (below_step (by repeat (first | (with_reducible first | exact HB.out | apply below_alloc | apply pw_below_drewN | apply below_drew1 | refine below_set ?_ GE146.out) | exact HB.out)) hb); clear HO_5; clear BK146; clear HB; have HO_5 := n0_; have BK146 := n1_; have HB := n2_; clear n0_ n1_ n2_; (try clear hb); (try clear hb2); (try clear hk); (try clear hi); have hcz54_0 : w53.cell? ⟨gb146, 0, none⟩ = some (.int .i64 1) := (blk_cell BK146.out 0).trans rfl; have hcz54_1 : w53.cell? ⟨gb146, 1, none⟩ = some (.string (a0.extract (x6_1 : Int).toNat (x8_7 : Int).toNat)) := (blk_cell BK146.out 1).trans rfl; have hcz54_2 : w53.cell? ⟨gb146, 2, none⟩ = some (.int .i64 0) := (blk_cell BK146.out 2).trans rfl; have hcz54_3 : w53.cell? ⟨gb146, 3, none⟩ = some (.int .i64 x6_1) := (blk_cell BK146.out 3).trans rfl; have hfz54_0 := blk_frozen BK146.out 0; have hfz54_1 := blk_frozen BK146.out 1; have hfz54_2 := blk_frozen BK146.out 2; have hfz54_3 := blk_frozen BK146.out 3) | ((with_reducible refine gate_builtin (b := .append) (xs := #[.tmp 142, .tmp 144]) rfl ?_); (try (refine gate_guard (by rfl) ?_; dsimp only)); at_builtin; refine Kd.R_append k68 (w0 := w) w.heap.size rfl (.tmp 142) (.tmp 144) 63 68 (.agg #[(.int .i64 0), (.string ⟨#[]⟩), (.int .i64 0), (.int .i64 0)]) 40 rfl Tryd.underlying63 info68 rfl (by decide) (by omega) u5 x5_1 (⟨4, a0.extract (x6_1 : Int).toNat (x8_7 : Int).toNat, 0, x6_1⟩ : S68) [.int .i64 4, .string (a0.extract (x6_1 : Int).toNat (x8_7 : Int).toNat), .int .i64 0, .int .i64 x6_1] (fun k_ => k_ ≠ gb146) (fun _ => False) rfl (by first | (go_simp; done) | (go_simp; rfl)) ?aP (fun _ hk => hk.elim) ?aF ?aO ?aB ?aS ?aL ?_; (case aP => exact k68_mkM _ _ _ (⟨4, a0.extract (x6_1 : Int).toNat (x8_7 : Int).toNat, 0, x6_1⟩ : S68)); (case aB => exact (by repeat (first | (with_reducible first | exact HB.out | apply below_alloc | apply pw_below_drewN | apply below_drew1 | refine below_set ?_ GE146.out) | exact HB.out))); (case aF => exact (fun k_ hk => Kd.freshB (g := gb146) (o := .cells #[.int .i64 4, .string (a0.extract (x6_1 : Int).toNat (x8_7 : Int).toNat), .int .i64 0, .int .i64 x6_1] 68 (0, 0)) (by (with_reducible repeat (first | refine blk_drewN ?_ _ | refine blk_drew ?_ | refine blk_alloc ?_ _)); refine blk_put (cs := #[.int .i64 1, .string (a0.extract (x6_1 : Int).toNat (x8_7 : Int).toNat), .int .i64 0, .int .i64 x6_1]) ?_ 0 _ rfl; (with_reducible repeat (first | refine blk_drewN ?_ _ | refine blk_drew ?_ | refine blk_alloc ?_ _)); exact BK146.out) k_ hk)); (case aO => exact (by (with_reducible repeat (first | apply Kd.R_alloc | apply Kd.R_drewN | apply Kd.R_drew)); exact Kd.R_mono (Kd.R_far (p := ⟨gb146, 0, none⟩) (Kd.R_mono HO_5.out (fun k_ hk => (⟨hk, hk⟩ : _ ∧ k_ ≠ gb146))) (fun _ hk => hk.2) (.int .i64 4)) (fun _ hk => hk.1))); (case aS => exact (below_size (by repeat (first | (with_reducible first | exact HB.out | apply below_alloc | apply pw_below_drewN | apply below_drew1 | refine below_set ?_ GE146.out) | exact HB.out)))); (case aL => have := LMc45.out; omega); intro v150 w55 ho hb hg hat; rw [← Ny149.out] at ho; have n0_ := Aside0.mk (blk_grown (g := gb146) (o := .cells #[.int .i64 4, .string (a0.extract (x6_1 : Int).toNat (x8_7 : Int).toNat), .int .i64 0, .int .i64 x6_1] 68 (0, 0)) (by (with_reducible repeat (first | refine blk_drewN ?_ _ | refine blk_drew ?_ | refine blk_alloc ?_ _)); refine blk_put (cs := #[.int .i64 1, .string (a0.extract (x6_1 : Int).toNat (x8_7 : Int).toNat), .int .i64 0, .int .i64 x6_1]) ?_ 0 _ rfl; (with_reducible repeat (first | refine blk_drewN ?_ _ | refine blk_drew ?_ | refine blk_alloc ?_ _)); exact BK146.out) hg (Kd.R_away HO_5.out (fun _ hk => hk))); have n1_ := Aside0.mk (hb); have n2_ := Aside0.mk (ho); clear BK146; clear HB; clear HO_5; have BK146 := n0_; have HB := n1_; have HO151 := n2_; clear n0_ n1_ n2_; clear ho hb hg hat))
                                  go_roundg kj7
                                  case measure => have := HK1.out; have := HJ4.out; have := HJ7.out; omega
                                  case rel => exact ⟨(y149), (x8_7), (by first | rfl | (simp; done) | (simp [*]; done)), H', ⟨by have := HK1.out; have := HJ4.out; have := HJ7.out; omega⟩, ⟨by (with_reducible repeat (first | apply Kd.R_alloc | apply Kd.R_drewN | apply Kd.R_drew)); exact Kd.R_mono HO151.out (fun _ hk => trivial)⟩, ⟨by repeat (first | (with_reducible first | exact HB.out | apply below_alloc | apply pw_below_drewN | apply below_drew1 | refine below_set ?_ GE146.out) | exact HB.out)⟩⟩
                                · rw [if_neg c45] at H
                                  exact absurd H (by simp)
                            · replace c34 := Bool.eq_false_iff.mpr c34
                              subst c34
                              have H1 : (if ((a0.extract (x6_1 : Int).toNat (x8_7 : Int).toNat).size : Int) > 12 then (some (([] : List (S68)), x6_1, 3)) else (if x5_1.length < 3518437208883 then (jetsamref01_Lex.l0 kj7 a0 (x5_1 ++ [(⟨1, a0.extract (x6_1 : Int).toNat (x8_7 : Int).toNat, 0, x6_1⟩ : S68)]) x8_7) else (none))) = some (r1, r2, r3) := by rw [if_neg (show ¬ (false = true) by decide)] at H; exact H
                              clear H
                              have H := H1
                              clear H1
                              by_cases c56 : ((a0.extract (x6_1 : Int).toNat (x8_7 : Int).toNat).size : Int) > 12
                              · rw [if_pos c56] at H
                                have c56b0 : decide (12 < ((a0.extract (x6_1 : Int).toNat (x8_7 : Int).toNat).size : Int)) = true := decide_eq_true c56
                                try ((have h_ : x8_7 ≤ (a0.size : Int) := by first | exact of_eq_true (by assumption) | exact of_decide_eq_true (by assumption)); (have e_ : (a0.extract (x6_1 : Int).toNat (x8_7 : Int).toNat).size = (x8_7 : Int).toNat - (x6_1 : Int).toNat := by rw [ByteArray.size_extract]; omega); (have c56b0e : decide (12 < (((x8_7 : Int).toNat - (x6_1 : Int).toNat : Nat) : Int)) = true := by rw [← e_]; exact c56b0); clear h_ e_)
                                have c56b0m : decide (12 < ((min (x8_7 : Int).toNat a0.size - (x6_1 : Int).toNat : Nat) : Int)) = true := by rw [← ByteArray.size_extract]; exact c56b0
                                have c56b1 : decide (12 < (a0.extract (x6_1 : Int).toNat (x8_7 : Int).toNat).size) = true := decide_eq_true (by omega)
                                try ((have h_ : x8_7 ≤ (a0.size : Int) := by first | exact of_eq_true (by assumption) | exact of_decide_eq_true (by assumption)); (have e_ : (a0.extract (x6_1 : Int).toNat (x8_7 : Int).toNat).size = (x8_7 : Int).toNat - (x6_1 : Int).toNat := by rw [ByteArray.size_extract]; omega); (have c56b1e : decide (12 < ((x8_7 : Int).toNat - (x6_1 : Int).toNat : Nat)) = true := by rw [← e_]; exact c56b1); clear h_ e_)
                                have c56b1m : decide (12 < (min (x8_7 : Int).toNat a0.size - (x6_1 : Int).toNat : Nat)) = true := by rw [← ByteArray.size_extract]; exact c56b1
                                clear c56
                                simp only [Option.some.injEq, Prod.mk.injEq] at H
                                obtain ⟨rfl, rfl, rfl⟩ := H
                                try go_wp2_with (first | ((with_reducible refine gate_dst (N := 9) rfl ?_); (try (refine gate_guard (by rfl) ?_; dsimp only)); refine box_event ?hg (N := 9) ?hd (cs := #[.int .i64 0, .string (⟨#[]⟩ : ByteArray), .int .i64 0, .int .i64 0]) (t := 68) ?hr ?_; (case hd => rfl); (case hg => rfl); (case hr => first | (go_simp; done) | (go_simp; rfl)); intro gb146 hg w57 hbox hb; have n0_ := Aside0.mk (Kd.R_below (Kd.R_elderB (by (with_reducible repeat (first | apply Kd.R_alloc | apply Kd.R_drewN | apply Kd.R_drew)); exact HO_5.out) gb146 (Nat.le_of_eq hg.symm)) hb); have n1_ := Aside0.mk (below_step (by repeat (first | (with_reducible first | exact HB.out | apply below_alloc | apply pw_below_drewN | apply below_drew1) | exact HB.out)) hb); have n2_ := Aside0.mk (hbox); have n3_ := Aside0.mk ((by rw [hg]; exact (below_size (by repeat (first | (with_reducible first | exact HB.out | apply below_alloc | apply pw_below_drewN | apply below_drew1) | exact HB.out))) : w.heap.size ≤ gb146)); have n4_ := Aside0.mk ((by rw [hg]; exact (below_size (by repeat (first | (with_reducible first | exact HB.out | apply below_alloc | apply pw_below_drewN | apply below_drew1) | exact HB.out))) : w.heap.size ≤ gb146)); clear HO_5; clear HB; have HO_5 := n0_; have HB := n1_; have BK146 := n2_; have GW146 := n3_; have GE146 := n4_; clear n0_ n1_ n2_ n3_ n4_; clear hb hbox hg; have hcz58_0 : w57.cell? ⟨gb146, 0, none⟩ = some (.int .i64 0) := (blk_cell BK146.out 0).trans rfl; have hcz58_1 : w57.cell? ⟨gb146, 1, none⟩ = some (.string (⟨#[]⟩ : ByteArray)) := (blk_cell BK146.out 1).trans rfl; have hcz58_2 : w57.cell? ⟨gb146, 2, none⟩ = some (.int .i64 0) := (blk_cell BK146.out 2).trans rfl; have hcz58_3 : w57.cell? ⟨gb146, 3, none⟩ = some (.int .i64 0) := (blk_cell BK146.out 3).trans rfl; have hfz58_0 := blk_frozen BK146.out 0; have hfz58_1 := blk_frozen BK146.out 1; have hfz58_2 := blk_frozen BK146.out 2; have hfz58_3 := blk_frozen BK146.out 3) | ((with_reducible refine gate_callee (f := 38) rfl ?_); refine goesL_ (some 73) rfl rfl Tryd.func38 (by kernel_rfl) rfl #[.int .u8 (bt a0 x6_1)] rfl (by (try simp only [List.map_toArray, List.map_cons, List.map_nil]); first | done | rfl | (simp only [List.length_drop, List.length_take]; rfl)) ?_; (with_reducible refine (jetsamref01_letter.calls (bt a0 x6_1) true _ A28.out).mono ?_); rintro e w' ⟨rfl, ⟨nd, rfl⟩⟩; refine ⟨_, rfl, ?_⟩))
                                have n0_ : Aside0 (Kd.R k68 68 ((((w57.setCell ⟨gb146, 0, none⟩ (.int .i64 0)).setCell ⟨gb146, 1, none⟩ (.string (⟨#[]⟩ : ByteArray))).setCell ⟨gb146, 2, none⟩ (.int .i64 0)).setCell ⟨gb146, 3, none⟩ (.int .i64 x6_1)) w.heap.size (fun k_ => k_ ≠ gb146) u5 x5_1) := ⟨by (with_reducible repeat (first | apply Kd.R_alloc | apply Kd.R_drewN | apply Kd.R_drew)); exact Kd.R_mono (Kd.R_far (p := ⟨gb146, 3, none⟩) (Kd.R_far (p := ⟨gb146, 2, none⟩) (Kd.R_far (p := ⟨gb146, 1, none⟩) (Kd.R_far (p := ⟨gb146, 0, none⟩) (Kd.R_mono HO_5.out (fun k_ hk => (⟨hk, hk.2⟩ : _ ∧ k_ ≠ gb146))) (fun _ hk => hk.2) (.int .i64 0)) (fun _ hk => hk.2) (.string (⟨#[]⟩ : ByteArray))) (fun _ hk => hk.2) (.int .i64 0)) (fun _ hk => hk.2) (.int .i64 x6_1)) (fun _ hk => hk.1.2)⟩
                                have n1_ : Aside0 (((((w57.setCell ⟨gb146, 0, none⟩ (.int .i64 0)).setCell ⟨gb146, 1, none⟩ (.string (⟨#[]⟩ : ByteArray))).setCell ⟨gb146, 2, none⟩ (.int .i64 0)).setCell ⟨gb146, 3, none⟩ (.int .i64 x6_1)).heap[gb146]? = some (.cells #[.int .i64 0, .string (⟨#[]⟩ : ByteArray), .int .i64 0, .int .i64 x6_1] 68 (0, 0))) := ⟨by (with_reducible repeat (first | refine blk_drewN ?_ _ | refine blk_drew ?_ | refine blk_alloc ?_ _)); refine blk_put (cs := #[.int .i64 0, .string (⟨#[]⟩ : ByteArray), .int .i64 0, .int .i64 0]) ?_ 3 _ rfl; (with_reducible repeat (first | refine blk_drewN ?_ _ | refine blk_drew ?_ | refine blk_alloc ?_ _)); refine blk_put (cs := #[.int .i64 0, .string (⟨#[]⟩ : ByteArray), .int .i64 0, .int .i64 0]) ?_ 2 _ rfl; (with_reducible repeat (first | refine blk_drewN ?_ _ | refine blk_drew ?_ | refine blk_alloc ?_ _)); refine blk_put (cs := #[.int .i64 0, .string (⟨#[]⟩ : ByteArray), .int .i64 0, .int .i64 0]) ?_ 1 _ rfl; (with_reducible repeat (first | refine blk_drewN ?_ _ | refine blk_drew ?_ | refine blk_alloc ?_ _)); refine blk_put (cs := #[.int .i64 0, .string (⟨#[]⟩ : ByteArray), .int .i64 0, .int .i64 0]) ?_ 0 _ rfl; (with_reducible repeat (first | refine blk_drewN ?_ _ | refine blk_drew ?_ | refine blk_alloc ?_ _)); exact BK146.out⟩
                                have n2_ : Aside0 (Below w.heap.size w ((((w57.setCell ⟨gb146, 0, none⟩ (.int .i64 0)).setCell ⟨gb146, 1, none⟩ (.string (⟨#[]⟩ : ByteArray))).setCell ⟨gb146, 2, none⟩ (.int .i64 0)).setCell ⟨gb146, 3, none⟩ (.int .i64 x6_1))) := ⟨by repeat (first | (with_reducible first | exact HB.out | apply below_alloc | apply pw_below_drewN | apply below_drew1 | refine below_set ?_ GE146.out) | exact HB.out)⟩
                                (try clear HO_5)
                                (try clear BK146)
                                (try clear HB)
                                generalize ((((w57.setCell ⟨gb146, 0, none⟩ (.int .i64 0)).setCell ⟨gb146, 1, none⟩ (.string (⟨#[]⟩ : ByteArray))).setCell ⟨gb146, 2, none⟩ (.int .i64 0)).setCell ⟨gb146, 3, none⟩ (.int .i64 x6_1)) = w59 at n0_ n1_ n2_ ⊢
                                have HO_5 := n0_
                                have BK146 := n1_
                                have HB := n2_
                                clear n0_ n1_ n2_
                                (try (rw [drewN_self w59]; generalize hq_ : World.drewN w59 _ = w59; have n0_ : Aside0 (Kd.R k68 68 w59 w.heap.size (fun k_ => k_ ≠ gb146) u5 x5_1) := ⟨by rw [← hq_]; exact (by (with_reducible repeat (first | apply Kd.R_alloc | apply Kd.R_drewN | apply Kd.R_drew)); exact HO_5.out)⟩; have n1_ : Aside0 (w59.heap[gb146]? = some (.cells #[.int .i64 0, .string (⟨#[]⟩ : ByteArray), .int .i64 0, .int .i64 x6_1] 68 (0, 0))) := ⟨by rw [← hq_]; exact (by (with_reducible repeat (first | refine blk_drewN ?_ _ | refine blk_drew ?_ | refine blk_alloc ?_ _)); exact BK146.out)⟩; have n2_ : Aside0 (Below w.heap.size w w59) := ⟨by rw [← hq_]; exact (by repeat (first | (with_reducible first | exact HB.out | apply below_alloc | apply pw_below_drewN | apply below_drew1 | refine below_set ?_ GE146.out) | exact HB.out))⟩; clear HO_5 BK146 HB hq_; have HO_5 := n0_; have BK146 := n1_; have HB := n2_; clear n0_ n1_ n2_))
                                have n0_ := Aside0.mk (Kd.R_drew HO_5.out)
                                have n1_ := Aside0.mk (blk_drew BK146.out)
                                have n2_ := Aside0.mk (below_drew1 HB.out)
                                clear HO_5
                                clear BK146
                                clear HB
                                have HO_5 := n0_
                                have BK146 := n1_
                                have HB := n2_
                                clear n0_ n1_ n2_
                                refine start_ (n := 8) (S := fun w' => True) (ds := []) #[false, false, false, false, false, false, false, false] (by kernel_rfl) rfl rfl trivial (fun hHeld => ?_); refine with_tabW jetsamref01_Lex.tab17 jetsamref01_Lex.bits17 (fun HT_ HW_ => ?_)
                                generalize w59.drew = w60 at HO_5 BK146 HB hHeld ⊢
                                refine pure_ (i := 0) (N := some 74) (v := ?_) (a' := ?_) #[true, false, false, false, false, false, false, false] rfl rfl (any_of HT_.out (by kernel_rfl)) (fun _ _ _ h => h) (Or.inl ⟨by rfl, ?_⟩) ?_ ?_
                                rotate_left
                                · intro w'
                                  go_simp
                                  with_reducible rfl
                                rotate_left
                                · simp only [Act.put, List.setIfInBounds_toArray, List.set_cons_zero, List.set_cons_succ, i64_w, i32_w]
                                  rfl
                                refine pure_ (i := 1) (N := some 75) (v := ?_) (a' := ?_) #[true, true, false, false, false, false, false, false] rfl rfl (any_of HT_.out (by kernel_rfl)) (fun _ _ _ h => h) (Or.inl ⟨by rfl, ?_⟩) ?_ ?_
                                rotate_left
                                · intro w'
                                  go_simp
                                  with_reducible rfl
                                rotate_left
                                · simp only [Act.put, List.setIfInBounds_toArray, List.set_cons_zero, List.set_cons_succ, i64_w, i32_w]
                                  rfl
                                refine pure_ (i := 2) (N := some 76) (v := ?_) (a' := ?_) #[true, true, true, false, false, false, false, false] rfl rfl (any_of HT_.out (by kernel_rfl)) (fun _ _ _ h => h) (Or.inl ⟨by rfl, ?_⟩) ?_ ?_
                                rotate_left
                                · intro w'
                                  go_simp
                                  with_reducible rfl
                                rotate_left
                                · simp only [Act.put, List.setIfInBounds_toArray, List.set_cons_zero, List.set_cons_succ, i64_w, i32_w]
                                  rfl
                                refine pure_ (i := 3) (N := some 77) (v := ?_) (a' := ?_) #[true, true, true, true, false, false, false, false] rfl rfl (any_of HT_.out (by kernel_rfl)) (fun _ _ _ h => h) (Or.inl ⟨by rfl, ?_⟩) ?_ ?_
                                rotate_left
                                · intro w'
                                  go_simp
                                  with_reducible rfl
                                rotate_left
                                · simp only [Act.put, List.setIfInBounds_toArray, List.set_cons_zero, List.set_cons_succ, i64_w, i32_w]
                                  rfl
                                refine pure_ (i := 4) (N := some 78) (v := ?_) (a' := ?_) #[true, true, true, true, true, false, false, false] rfl rfl (any_of HT_.out (by kernel_rfl)) (fun _ _ _ h => h) (Or.inl ⟨by rfl, ?_⟩) ?_ ?_
                                rotate_left
                                · intro w'
                                  go_simp
                                  with_reducible rfl
                                rotate_left
                                · simp only [Act.put, List.setIfInBounds_toArray, List.set_cons_zero, List.set_cons_succ, i64_w, i32_w]
                                  rfl
                                refine one_ (i := 5) (N := none) #[true, true, true, true, true, true, false, false] rfl rfl (one_of HT_.out (by kernel_rfl)) (by decide) (fun K hK => ?_)
                                have hs61 : w60.cell? ⟨gb146, 0, none⟩ = some (.int .i64 0) := (blk_cell BK146.out 0).trans rfl
                                have hfs61 := blk_frozen BK146.out 0
                                refine skip_ (w1 := ?_) (by rfl) rfl ?_ ?_
                                rotate_left
                                · go_simp
                                  rfl
                                refine hK.out _ _ trivial (fun hHeld => ?_)
                                clear hK K
                                refine pure_ (i := 6) (N := some 79) (v := ?_) (a' := ?_) #[true, true, true, true, true, true, true, false] rfl rfl (any_of HT_.out (by kernel_rfl)) (fun _ _ _ h => h) (Or.inl ⟨by rfl, ?_⟩) ?_ ?_
                                rotate_left
                                · intro w'
                                  go_simp
                                  with_reducible rfl
                                rotate_left
                                · simp only [Act.put, List.setIfInBounds_toArray, List.set_cons_zero, List.set_cons_succ, i64_w, i32_w]
                                  rfl
                                refine one_ (i := 7) (N := none) #[true, true, true, true, true, true, true, true] rfl rfl (one_of HT_.out (by kernel_rfl)) (by decide) (fun K hK => ?_)
                                have hs62 : w60.cell? ⟨gb146, 1, none⟩ = some (.string (⟨#[]⟩ : ByteArray)) := (blk_cell BK146.out 1).trans rfl
                                have hfs62 := blk_frozen BK146.out 1
                                refine skip_ (w1 := ?_) (by rfl) rfl ?_ ?_
                                rotate_left
                                · go_simp
                                  rfl
                                refine hK.out _ _ trivial (fun hHeld => ?_)
                                clear hK K
                                refine done_ (done_of HT_.out (by kernel_rfl)) ?_
                                have hcz63_0 : w60.cell? ⟨gb146, 0, none⟩ = some (.int .i64 0) := (blk_cell BK146.out 0).trans rfl
                                have hcz63_1 : w60.cell? ⟨gb146, 1, none⟩ = some (.string (⟨#[]⟩ : ByteArray)) := (blk_cell BK146.out 1).trans rfl
                                have hcz63_2 : w60.cell? ⟨gb146, 2, none⟩ = some (.int .i64 0) := (blk_cell BK146.out 2).trans rfl
                                have hcz63_3 : w60.cell? ⟨gb146, 3, none⟩ = some (.int .i64 x6_1) := (blk_cell BK146.out 3).trans rfl
                                have hfz63_0 := blk_frozen BK146.out 0
                                have hfz63_1 := blk_frozen BK146.out 1
                                have hfz63_2 := blk_frozen BK146.out 2
                                have hfz63_3 := blk_frozen BK146.out 3
                                try go_wp2_with (first | ((with_reducible refine gate_callee (f := 26) rfl ?_); refine goesL_ (some 82) rfl rfl Tryd.func26 (by kernel_rfl) rfl #[.string (a0.extract (x6_1 : Int).toNat (x8_7 : Int).toNat)] rfl (by (try simp only [List.map_toArray, List.map_cons, List.map_nil]); first | done | rfl | (simp only [List.length_drop, List.length_take]; rfl)) ?_; (with_reducible refine (jetsamref01_Reserved.calls kj7 (a0.extract (x6_1 : Int).toNat (x8_7 : Int).toNat) false _ A33.out).mono ?_); rintro e w64 ⟨rfl, hb⟩; refine ⟨_, rfl, ?_⟩; have n0_ := Aside0.mk (Kd.R_below (by (with_reducible repeat (first | apply Kd.R_alloc | apply Kd.R_drewN | apply Kd.R_drew)); exact (Kd.R_mono (Kd.R_far (p := ⟨gb146, 1, none⟩) (Kd.R_far (p := ⟨gb146, 0, none⟩) (Kd.R_mono HO_5.out (fun k_ hk => (⟨hk, hk⟩ : _ ∧ k_ ≠ gb146))) (fun _ hk => hk.2) (.int .i64 1)) (fun _ hk => hk.2) (.string (a0.extract (x6_1 : Int).toNat (x8_7 : Int).toNat))) (fun _ h_ => h_.1))) hb); have n1_ := Aside0.mk (blk_below (g := gb146) (o := .cells #[.int .i64 1, .string (a0.extract (x6_1 : Int).toNat (x8_7 : Int).toNat), .int .i64 0, .int .i64 x6_1] 68 (0, 0)) (by (with_reducible repeat (first | refine blk_drewN ?_ _ | refine blk_drew ?_ | refine blk_alloc ?_ _)); refine blk_put (cs := #[.int .i64 1, .string (⟨#[]⟩ : ByteArray), .int .i64 0, .int .i64 x6_1]) ?_ 1 _ rfl; (with_reducible repeat (first | refine blk_drewN ?_ _ | refine blk_drew ?_ | refine blk_alloc ?_ _)); refine blk_put (cs := #[.int .i64 0, .string (⟨#[]⟩ : ByteArray), .int .i64 0, .int .i64 x6_1]) ?_ 0 _ rfl; (with_reducible repeat (first | refine blk_drewN ?_ _ | refine blk_drew ?_ | refine blk_alloc ?_ _)); exact BK146.out) hb); have n2_ := Aside0.mk (below_step (by repeat (first | (with_reducible first | exact HB.out | apply below_alloc | apply pw_below_drewN | apply below_drew1 | refine below_set ?_ GE146.out) | exact HB.out)) hb); clear HO_5; clear BK146; clear HB; have HO_5 := n0_; have BK146 := n1_; have HB := n2_; clear n0_ n1_ n2_; (try clear hb); (try clear hb2); (try clear hk); (try clear hi); have hcz65_0 : w64.cell? ⟨gb146, 0, none⟩ = some (.int .i64 1) := (blk_cell BK146.out 0).trans rfl; have hcz65_1 : w64.cell? ⟨gb146, 1, none⟩ = some (.string (a0.extract (x6_1 : Int).toNat (x8_7 : Int).toNat)) := (blk_cell BK146.out 1).trans rfl; have hcz65_2 : w64.cell? ⟨gb146, 2, none⟩ = some (.int .i64 0) := (blk_cell BK146.out 2).trans rfl; have hcz65_3 : w64.cell? ⟨gb146, 3, none⟩ = some (.int .i64 x6_1) := (blk_cell BK146.out 3).trans rfl; have hfz65_0 := blk_frozen BK146.out 0; have hfz65_1 := blk_frozen BK146.out 1; have hfz65_2 := blk_frozen BK146.out 2; have hfz65_3 := blk_frozen BK146.out 3))
                                go_ret3
                                exact ⟨_, by first | rfl | (simp [errW_none, errW_some] <;> rfl) | (simp [*, errW_none, errW_some] <;> rfl), by first | exact Kd.R_nil _ _ _ _ _ | exact Kd.N_nil _ _ _ _ _ | exact Kd.V_nil _ _ _ _ _ | exact Kd.Q_nil _ _ _ _ _ | exact Kd.S_nil _ _ _ _ _, by repeat (first | (with_reducible first | exact HB.out | apply below_alloc | apply pw_below_drewN | apply below_drew1 | refine below_set ?_ GE146.out) | exact HB.out)⟩
                              · rw [if_neg c56] at H
                                have c56b0 : decide (12 < ((a0.extract (x6_1 : Int).toNat (x8_7 : Int).toNat).size : Int)) = false := decide_eq_false c56
                                try ((have h_ : x8_7 ≤ (a0.size : Int) := by first | exact of_eq_true (by assumption) | exact of_decide_eq_true (by assumption)); (have e_ : (a0.extract (x6_1 : Int).toNat (x8_7 : Int).toNat).size = (x8_7 : Int).toNat - (x6_1 : Int).toNat := by rw [ByteArray.size_extract]; omega); (have c56b0e : decide (12 < (((x8_7 : Int).toNat - (x6_1 : Int).toNat : Nat) : Int)) = false := by rw [← e_]; exact c56b0); clear h_ e_)
                                have c56b0m : decide (12 < ((min (x8_7 : Int).toNat a0.size - (x6_1 : Int).toNat : Nat) : Int)) = false := by rw [← ByteArray.size_extract]; exact c56b0
                                have c56b1 : decide (12 < (a0.extract (x6_1 : Int).toNat (x8_7 : Int).toNat).size) = false := decide_eq_false (by omega)
                                try ((have h_ : x8_7 ≤ (a0.size : Int) := by first | exact of_eq_true (by assumption) | exact of_decide_eq_true (by assumption)); (have e_ : (a0.extract (x6_1 : Int).toNat (x8_7 : Int).toNat).size = (x8_7 : Int).toNat - (x6_1 : Int).toNat := by rw [ByteArray.size_extract]; omega); (have c56b1e : decide (12 < ((x8_7 : Int).toNat - (x6_1 : Int).toNat : Nat)) = false := by rw [← e_]; exact c56b1); clear h_ e_)
                                have c56b1m : decide (12 < (min (x8_7 : Int).toNat a0.size - (x6_1 : Int).toNat : Nat)) = false := by rw [← ByteArray.size_extract]; exact c56b1
                                clear c56
                                by_cases c66 : x5_1.length < 3518437208883
                                · rw [if_pos c66] at H
                                  have LMc66 := Aside0.mk c66
                                  clear c66
                                  obtain ⟨y152, hy152⟩ : ∃ y_ : List (S68), y_ = (x5_1 ++ [(⟨1, a0.extract (x6_1 : Int).toNat (x8_7 : Int).toNat, 0, x6_1⟩ : S68)]) := ⟨_, rfl⟩
                                  replace H : (jetsamref01_Lex.l0 kj7 a0 y152 x8_7) = some (r1, r2, r3) := by first | (rw [hy152]; with_reducible exact H) | (have H2_ := (Option.bind_some _ _).symm.trans H; rw [hy152]; with_reducible exact H2_) | (have H2_ := (Option.bind_some _ _).symm.trans H; with_reducible exact H2_) | with_reducible exact H | (rw [hy152]; exact H) | exact H
                                  have Ny152 := Aside0.mk hy152
                                  clear hy152
                                  have H' := Aside0.mk H
                                  clear H
                                  try go_wp2_with (first | ((with_reducible refine gate_dst (N := 9) rfl ?_); (try (refine gate_guard (by rfl) ?_; dsimp only)); refine box_event ?hg (N := 9) ?hd (cs := #[.int .i64 0, .string (⟨#[]⟩ : ByteArray), .int .i64 0, .int .i64 0]) (t := 68) ?hr ?_; (case hd => rfl); (case hg => rfl); (case hr => first | (go_simp; done) | (go_simp; rfl)); intro gb146 hg w67 hbox hb; have n0_ := Aside0.mk (Kd.R_below (Kd.R_elderB (by (with_reducible repeat (first | apply Kd.R_alloc | apply Kd.R_drewN | apply Kd.R_drew)); exact HO_5.out) gb146 (Nat.le_of_eq hg.symm)) hb); have n1_ := Aside0.mk (below_step (by repeat (first | (with_reducible first | exact HB.out | apply below_alloc | apply pw_below_drewN | apply below_drew1) | exact HB.out)) hb); have n2_ := Aside0.mk (hbox); have n3_ := Aside0.mk ((by rw [hg]; exact (below_size (by repeat (first | (with_reducible first | exact HB.out | apply below_alloc | apply pw_below_drewN | apply below_drew1) | exact HB.out))) : w.heap.size ≤ gb146)); have n4_ := Aside0.mk ((by rw [hg]; exact (below_size (by repeat (first | (with_reducible first | exact HB.out | apply below_alloc | apply pw_below_drewN | apply below_drew1) | exact HB.out))) : w.heap.size ≤ gb146)); clear HO_5; clear HB; have HO_5 := n0_; have HB := n1_; have BK146 := n2_; have GW146 := n3_; have GE146 := n4_; clear n0_ n1_ n2_ n3_ n4_; clear hb hbox hg; have hcz68_0 : w67.cell? ⟨gb146, 0, none⟩ = some (.int .i64 0) := (blk_cell BK146.out 0).trans rfl; have hcz68_1 : w67.cell? ⟨gb146, 1, none⟩ = some (.string (⟨#[]⟩ : ByteArray)) := (blk_cell BK146.out 1).trans rfl; have hcz68_2 : w67.cell? ⟨gb146, 2, none⟩ = some (.int .i64 0) := (blk_cell BK146.out 2).trans rfl; have hcz68_3 : w67.cell? ⟨gb146, 3, none⟩ = some (.int .i64 0) := (blk_cell BK146.out 3).trans rfl; have hfz68_0 := blk_frozen BK146.out 0; have hfz68_1 := blk_frozen BK146.out 1; have hfz68_2 := blk_frozen BK146.out 2; have hfz68_3 := blk_frozen BK146.out 3) | ((with_reducible refine gate_callee (f := 38) rfl ?_); refine goesL_ (some 73) rfl rfl Tryd.func38 (by kernel_rfl) rfl #[.int .u8 (bt a0 x6_1)] rfl (by (try simp only [List.map_toArray, List.map_cons, List.map_nil]); first | done | rfl | (simp only [List.length_drop, List.length_take]; rfl)) ?_; (with_reducible refine (jetsamref01_letter.calls (bt a0 x6_1) true _ A28.out).mono ?_); rintro e w' ⟨rfl, ⟨nd, rfl⟩⟩; refine ⟨_, rfl, ?_⟩))
                                  have n0_ : Aside0 (Kd.R k68 68 ((((w67.setCell ⟨gb146, 0, none⟩ (.int .i64 0)).setCell ⟨gb146, 1, none⟩ (.string (⟨#[]⟩ : ByteArray))).setCell ⟨gb146, 2, none⟩ (.int .i64 0)).setCell ⟨gb146, 3, none⟩ (.int .i64 x6_1)) w.heap.size (fun k_ => k_ ≠ gb146) u5 x5_1) := ⟨by (with_reducible repeat (first | apply Kd.R_alloc | apply Kd.R_drewN | apply Kd.R_drew)); exact Kd.R_mono (Kd.R_far (p := ⟨gb146, 3, none⟩) (Kd.R_far (p := ⟨gb146, 2, none⟩) (Kd.R_far (p := ⟨gb146, 1, none⟩) (Kd.R_far (p := ⟨gb146, 0, none⟩) (Kd.R_mono HO_5.out (fun k_ hk => (⟨hk, hk.2⟩ : _ ∧ k_ ≠ gb146))) (fun _ hk => hk.2) (.int .i64 0)) (fun _ hk => hk.2) (.string (⟨#[]⟩ : ByteArray))) (fun _ hk => hk.2) (.int .i64 0)) (fun _ hk => hk.2) (.int .i64 x6_1)) (fun _ hk => hk.1.2)⟩
                                  have n1_ : Aside0 (((((w67.setCell ⟨gb146, 0, none⟩ (.int .i64 0)).setCell ⟨gb146, 1, none⟩ (.string (⟨#[]⟩ : ByteArray))).setCell ⟨gb146, 2, none⟩ (.int .i64 0)).setCell ⟨gb146, 3, none⟩ (.int .i64 x6_1)).heap[gb146]? = some (.cells #[.int .i64 0, .string (⟨#[]⟩ : ByteArray), .int .i64 0, .int .i64 x6_1] 68 (0, 0))) := ⟨by (with_reducible repeat (first | refine blk_drewN ?_ _ | refine blk_drew ?_ | refine blk_alloc ?_ _)); refine blk_put (cs := #[.int .i64 0, .string (⟨#[]⟩ : ByteArray), .int .i64 0, .int .i64 0]) ?_ 3 _ rfl; (with_reducible repeat (first | refine blk_drewN ?_ _ | refine blk_drew ?_ | refine blk_alloc ?_ _)); refine blk_put (cs := #[.int .i64 0, .string (⟨#[]⟩ : ByteArray), .int .i64 0, .int .i64 0]) ?_ 2 _ rfl; (with_reducible repeat (first | refine blk_drewN ?_ _ | refine blk_drew ?_ | refine blk_alloc ?_ _)); refine blk_put (cs := #[.int .i64 0, .string (⟨#[]⟩ : ByteArray), .int .i64 0, .int .i64 0]) ?_ 1 _ rfl; (with_reducible repeat (first | refine blk_drewN ?_ _ | refine blk_drew ?_ | refine blk_alloc ?_ _)); refine blk_put (cs := #[.int .i64 0, .string (⟨#[]⟩ : ByteArray), .int .i64 0, .int .i64 0]) ?_ 0 _ rfl; (with_reducible repeat (first | refine blk_drewN ?_ _ | refine blk_drew ?_ | refine blk_alloc ?_ _)); exact BK146.out⟩
                                  have n2_ : Aside0 (Below w.heap.size w ((((w67.setCell ⟨gb146, 0, none⟩ (.int .i64 0)).setCell ⟨gb146, 1, none⟩ (.string (⟨#[]⟩ : ByteArray))).setCell ⟨gb146, 2, none⟩ (.int .i64 0)).setCell ⟨gb146, 3, none⟩ (.int .i64 x6_1))) := ⟨by repeat (first | (with_reducible first | exact HB.out | apply below_alloc | apply pw_below_drewN | apply below_drew1 | refine below_set ?_ GE146.out) | exact HB.out)⟩
                                  (try clear HO_5)
                                  (try clear BK146)
                                  (try clear HB)
                                  generalize ((((w67.setCell ⟨gb146, 0, none⟩ (.int .i64 0)).setCell ⟨gb146, 1, none⟩ (.string (⟨#[]⟩ : ByteArray))).setCell ⟨gb146, 2, none⟩ (.int .i64 0)).setCell ⟨gb146, 3, none⟩ (.int .i64 x6_1)) = w69 at n0_ n1_ n2_ ⊢
                                  have HO_5 := n0_
                                  have BK146 := n1_
                                  have HB := n2_
                                  clear n0_ n1_ n2_
                                  (try (rw [drewN_self w69]; generalize hq_ : World.drewN w69 _ = w69; have n0_ : Aside0 (Kd.R k68 68 w69 w.heap.size (fun k_ => k_ ≠ gb146) u5 x5_1) := ⟨by rw [← hq_]; exact (by (with_reducible repeat (first | apply Kd.R_alloc | apply Kd.R_drewN | apply Kd.R_drew)); exact HO_5.out)⟩; have n1_ : Aside0 (w69.heap[gb146]? = some (.cells #[.int .i64 0, .string (⟨#[]⟩ : ByteArray), .int .i64 0, .int .i64 x6_1] 68 (0, 0))) := ⟨by rw [← hq_]; exact (by (with_reducible repeat (first | refine blk_drewN ?_ _ | refine blk_drew ?_ | refine blk_alloc ?_ _)); exact BK146.out)⟩; have n2_ : Aside0 (Below w.heap.size w w69) := ⟨by rw [← hq_]; exact (by repeat (first | (with_reducible first | exact HB.out | apply below_alloc | apply pw_below_drewN | apply below_drew1 | refine below_set ?_ GE146.out) | exact HB.out))⟩; clear HO_5 BK146 HB hq_; have HO_5 := n0_; have BK146 := n1_; have HB := n2_; clear n0_ n1_ n2_))
                                  have n0_ := Aside0.mk (Kd.R_drew HO_5.out)
                                  have n1_ := Aside0.mk (blk_drew BK146.out)
                                  have n2_ := Aside0.mk (below_drew1 HB.out)
                                  clear HO_5
                                  clear BK146
                                  clear HB
                                  have HO_5 := n0_
                                  have BK146 := n1_
                                  have HB := n2_
                                  clear n0_ n1_ n2_
                                  refine start_ (n := 8) (S := fun w' => True) (ds := []) #[false, false, false, false, false, false, false, false] (by kernel_rfl) rfl rfl trivial (fun hHeld => ?_); refine with_tabW jetsamref01_Lex.tab17 jetsamref01_Lex.bits17 (fun HT_ HW_ => ?_)
                                  generalize w69.drew = w70 at HO_5 BK146 HB hHeld ⊢
                                  refine pure_ (i := 0) (N := some 74) (v := ?_) (a' := ?_) #[true, false, false, false, false, false, false, false] rfl rfl (any_of HT_.out (by kernel_rfl)) (fun _ _ _ h => h) (Or.inl ⟨by rfl, ?_⟩) ?_ ?_
                                  rotate_left
                                  · intro w'
                                    go_simp
                                    with_reducible rfl
                                  rotate_left
                                  · simp only [Act.put, List.setIfInBounds_toArray, List.set_cons_zero, List.set_cons_succ, i64_w, i32_w]
                                    rfl
                                  refine pure_ (i := 1) (N := some 75) (v := ?_) (a' := ?_) #[true, true, false, false, false, false, false, false] rfl rfl (any_of HT_.out (by kernel_rfl)) (fun _ _ _ h => h) (Or.inl ⟨by rfl, ?_⟩) ?_ ?_
                                  rotate_left
                                  · intro w'
                                    go_simp
                                    with_reducible rfl
                                  rotate_left
                                  · simp only [Act.put, List.setIfInBounds_toArray, List.set_cons_zero, List.set_cons_succ, i64_w, i32_w]
                                    rfl
                                  refine pure_ (i := 2) (N := some 76) (v := ?_) (a' := ?_) #[true, true, true, false, false, false, false, false] rfl rfl (any_of HT_.out (by kernel_rfl)) (fun _ _ _ h => h) (Or.inl ⟨by rfl, ?_⟩) ?_ ?_
                                  rotate_left
                                  · intro w'
                                    go_simp
                                    with_reducible rfl
                                  rotate_left
                                  · simp only [Act.put, List.setIfInBounds_toArray, List.set_cons_zero, List.set_cons_succ, i64_w, i32_w]
                                    rfl
                                  refine pure_ (i := 3) (N := some 77) (v := ?_) (a' := ?_) #[true, true, true, true, false, false, false, false] rfl rfl (any_of HT_.out (by kernel_rfl)) (fun _ _ _ h => h) (Or.inl ⟨by rfl, ?_⟩) ?_ ?_
                                  rotate_left
                                  · intro w'
                                    go_simp
                                    with_reducible rfl
                                  rotate_left
                                  · simp only [Act.put, List.setIfInBounds_toArray, List.set_cons_zero, List.set_cons_succ, i64_w, i32_w]
                                    rfl
                                  refine pure_ (i := 4) (N := some 78) (v := ?_) (a' := ?_) #[true, true, true, true, true, false, false, false] rfl rfl (any_of HT_.out (by kernel_rfl)) (fun _ _ _ h => h) (Or.inl ⟨by rfl, ?_⟩) ?_ ?_
                                  rotate_left
                                  · intro w'
                                    go_simp
                                    with_reducible rfl
                                  rotate_left
                                  · simp only [Act.put, List.setIfInBounds_toArray, List.set_cons_zero, List.set_cons_succ, i64_w, i32_w]
                                    rfl
                                  refine one_ (i := 5) (N := none) #[true, true, true, true, true, true, false, false] rfl rfl (one_of HT_.out (by kernel_rfl)) (by decide) (fun K hK => ?_)
                                  have hs71 : w70.cell? ⟨gb146, 0, none⟩ = some (.int .i64 0) := (blk_cell BK146.out 0).trans rfl
                                  have hfs71 := blk_frozen BK146.out 0
                                  refine skip_ (w1 := ?_) (by rfl) rfl ?_ ?_
                                  rotate_left
                                  · go_simp
                                    rfl
                                  refine hK.out _ _ trivial (fun hHeld => ?_)
                                  clear hK K
                                  refine pure_ (i := 6) (N := some 79) (v := ?_) (a' := ?_) #[true, true, true, true, true, true, true, false] rfl rfl (any_of HT_.out (by kernel_rfl)) (fun _ _ _ h => h) (Or.inl ⟨by rfl, ?_⟩) ?_ ?_
                                  rotate_left
                                  · intro w'
                                    go_simp
                                    with_reducible rfl
                                  rotate_left
                                  · simp only [Act.put, List.setIfInBounds_toArray, List.set_cons_zero, List.set_cons_succ, i64_w, i32_w]
                                    rfl
                                  refine one_ (i := 7) (N := none) #[true, true, true, true, true, true, true, true] rfl rfl (one_of HT_.out (by kernel_rfl)) (by decide) (fun K hK => ?_)
                                  have hs72 : w70.cell? ⟨gb146, 1, none⟩ = some (.string (⟨#[]⟩ : ByteArray)) := (blk_cell BK146.out 1).trans rfl
                                  have hfs72 := blk_frozen BK146.out 1
                                  refine skip_ (w1 := ?_) (by rfl) rfl ?_ ?_
                                  rotate_left
                                  · go_simp
                                    rfl
                                  refine hK.out _ _ trivial (fun hHeld => ?_)
                                  clear hK K
                                  refine done_ (done_of HT_.out (by kernel_rfl)) ?_
                                  have hcz73_0 : w70.cell? ⟨gb146, 0, none⟩ = some (.int .i64 0) := (blk_cell BK146.out 0).trans rfl
                                  have hcz73_1 : w70.cell? ⟨gb146, 1, none⟩ = some (.string (⟨#[]⟩ : ByteArray)) := (blk_cell BK146.out 1).trans rfl
                                  have hcz73_2 : w70.cell? ⟨gb146, 2, none⟩ = some (.int .i64 0) := (blk_cell BK146.out 2).trans rfl
                                  have hcz73_3 : w70.cell? ⟨gb146, 3, none⟩ = some (.int .i64 x6_1) := (blk_cell BK146.out 3).trans rfl
                                  have hfz73_0 := blk_frozen BK146.out 0
                                  have hfz73_1 := blk_frozen BK146.out 1
                                  have hfz73_2 := blk_frozen BK146.out 2
                                  have hfz73_3 := blk_frozen BK146.out 3
                                  try go_wp2_with (first | ((with_reducible refine gate_callee (f := 26) rfl ?_); refine goesL_ (some 82) rfl rfl Tryd.func26 (by kernel_rfl) rfl #[.string (a0.extract (x6_1 : Int).toNat (x8_7 : Int).toNat)] rfl (by (try simp only [List.map_toArray, List.map_cons, List.map_nil]); first | done | rfl | (simp only [List.length_drop, List.length_take]; rfl)) ?_; (with_reducible refine (jetsamref01_Reserved.calls kj7 (a0.extract (x6_1 : Int).toNat (x8_7 : Int).toNat) false _ A33.out).mono ?_); rintro e w74 ⟨rfl, hb⟩; refine ⟨_, rfl, ?_⟩; have n0_ := Aside0.mk (Kd.R_below (by (with_reducible repeat (first | apply Kd.R_alloc | apply Kd.R_drewN | apply Kd.R_drew)); exact (Kd.R_mono (Kd.R_far (p := ⟨gb146, 1, none⟩) (Kd.R_far (p := ⟨gb146, 0, none⟩) (Kd.R_mono HO_5.out (fun k_ hk => (⟨hk, hk⟩ : _ ∧ k_ ≠ gb146))) (fun _ hk => hk.2) (.int .i64 1)) (fun _ hk => hk.2) (.string (a0.extract (x6_1 : Int).toNat (x8_7 : Int).toNat))) (fun _ h_ => h_.1))) hb); have n1_ := Aside0.mk (blk_below (g := gb146) (o := .cells #[.int .i64 1, .string (a0.extract (x6_1 : Int).toNat (x8_7 : Int).toNat), .int .i64 0, .int .i64 x6_1] 68 (0, 0)) (by (with_reducible repeat (first | refine blk_drewN ?_ _ | refine blk_drew ?_ | refine blk_alloc ?_ _)); refine blk_put (cs := #[.int .i64 1, .string (⟨#[]⟩ : ByteArray), .int .i64 0, .int .i64 x6_1]) ?_ 1 _ rfl; (with_reducible repeat (first | refine blk_drewN ?_ _ | refine blk_drew ?_ | refine blk_alloc ?_ _)); refine blk_put (cs := #[.int .i64 0, .string (⟨#[]⟩ : ByteArray), .int .i64 0, .int .i64 x6_1]) ?_ 0 _ rfl; (with_reducible repeat (first | refine blk_drewN ?_ _ | refine blk_drew ?_ | refine blk_alloc ?_ _)); exact BK146.out) hb); have n2_ := Aside0.mk (below_step (by repeat (first | (with_reducible first | exact HB.out | apply below_alloc | apply pw_below_drewN | apply below_drew1 | refine below_set ?_ GE146.out) | exact HB.out)) hb); clear HO_5; clear BK146; clear HB; have HO_5 := n0_; have BK146 := n1_; have HB := n2_; clear n0_ n1_ n2_; (try clear hb); (try clear hb2); (try clear hk); (try clear hi); have hcz75_0 : w74.cell? ⟨gb146, 0, none⟩ = some (.int .i64 1) := (blk_cell BK146.out 0).trans rfl; have hcz75_1 : w74.cell? ⟨gb146, 1, none⟩ = some (.string (a0.extract (x6_1 : Int).toNat (x8_7 : Int).toNat)) := (blk_cell BK146.out 1).trans rfl; have hcz75_2 : w74.cell? ⟨gb146, 2, none⟩ = some (.int .i64 0) := (blk_cell BK146.out 2).trans rfl; have hcz75_3 : w74.cell? ⟨gb146, 3, none⟩ = some (.int .i64 x6_1) := (blk_cell BK146.out 3).trans rfl; have hfz75_0 := blk_frozen BK146.out 0; have hfz75_1 := blk_frozen BK146.out 1; have hfz75_2 := blk_frozen BK146.out 2; have hfz75_3 := blk_frozen BK146.out 3) | ((with_reducible refine gate_builtin (b := .append) (xs := #[.tmp 142, .tmp 144]) rfl ?_); (try (refine gate_guard (by rfl) ?_; dsimp only)); at_builtin; refine Kd.R_append k68 (w0 := w) w.heap.size rfl (.tmp 142) (.tmp 144) 63 68 (.agg #[(.int .i64 0), (.string ⟨#[]⟩), (.int .i64 0), (.int .i64 0)]) 40 rfl Tryd.underlying63 info68 rfl (by decide) (by omega) u5 x5_1 (⟨1, a0.extract (x6_1 : Int).toNat (x8_7 : Int).toNat, 0, x6_1⟩ : S68) [.int .i64 1, .string (a0.extract (x6_1 : Int).toNat (x8_7 : Int).toNat), .int .i64 0, .int .i64 x6_1] (fun k_ => k_ ≠ gb146) (fun _ => False) rfl rfl ?aP (fun _ hk => hk.elim) ?aF ?aO ?aB ?aS ?aL ?_; (case aP => exact k68_mkM _ _ _ (⟨1, a0.extract (x6_1 : Int).toNat (x8_7 : Int).toNat, 0, x6_1⟩ : S68)); (case aB => exact (by repeat (first | (with_reducible first | exact HB.out | apply below_alloc | apply pw_below_drewN | apply below_drew1 | refine below_set ?_ GE146.out) | exact HB.out))); (case aF => exact (fun k_ hk => Kd.freshB (g := gb146) (o := .cells #[.int .i64 1, .string (a0.extract (x6_1 : Int).toNat (x8_7 : Int).toNat), .int .i64 0, .int .i64 x6_1] 68 (0, 0)) (by (with_reducible repeat (first | refine blk_drewN ?_ _ | refine blk_drew ?_ | refine blk_alloc ?_ _)); exact BK146.out) k_ hk)); (case aO => exact (by (with_reducible repeat (first | apply Kd.R_alloc | apply Kd.R_drewN | apply Kd.R_drew)); exact HO_5.out)); (case aS => exact (below_size (by repeat (first | (with_reducible first | exact HB.out | apply below_alloc | apply pw_below_drewN | apply below_drew1 | refine below_set ?_ GE146.out) | exact HB.out)))); (case aL => have := LMc66.out; omega); intro v153 w76 ho hb hg hat; rw [← Ny152.out] at ho; have n0_ := Aside0.mk (blk_grown (g := gb146) (o := .cells #[.int .i64 1, .string (a0.extract (x6_1 : Int).toNat (x8_7 : Int).toNat), .int .i64 0, .int .i64 x6_1] 68 (0, 0)) (by (with_reducible repeat (first | refine blk_drewN ?_ _ | refine blk_drew ?_ | refine blk_alloc ?_ _)); exact BK146.out) hg (Kd.R_away HO_5.out (fun _ hk => hk))); have n1_ := Aside0.mk (hb); have n2_ := Aside0.mk (ho); clear BK146; clear HB; clear HO_5; have BK146 := n0_; have HB := n1_; have HO154 := n2_; clear n0_ n1_ n2_; clear ho hb hg hat))
                                  go_roundg kj7
                                  case measure => have := HK1.out; have := HJ4.out; have := HJ7.out; omega
                                  case rel => exact ⟨(y152), (x8_7), (by first | rfl | (simp; done) | (simp [*]; done)), H', ⟨by have := HK1.out; have := HJ4.out; have := HJ7.out; omega⟩, ⟨by (with_reducible repeat (first | apply Kd.R_alloc | apply Kd.R_drewN | apply Kd.R_drew)); exact Kd.R_mono HO154.out (fun _ hk => trivial)⟩, ⟨by repeat (first | (with_reducible first | exact HB.out | apply below_alloc | apply pw_below_drewN | apply below_drew1 | refine below_set ?_ GE146.out) | exact HB.out)⟩⟩
                                · rw [if_neg c66] at H
                                  exact absurd H (by simp)
                          · rw [if_neg c32] at H
                            exact absurd H (by simp)
                        · rw [if_neg c31] at H
                          exact absurd H (by simp)
                      · rw [if_neg c30] at H
                        exact absurd H (by simp)
                    · replace c29 := Bool.eq_false_iff.mpr c29
                      subst c29
                      have H1 : ((jetsamref01_digit.f (bt a0 x6_1)).bind fun t155 => (if t155 = true then (if 0 ≤ x6_1 then (if x6_1 ≤ x8_7 then (if x8_7 ≤ (a0.size : Int) then (if ((a0.extract (x6_1 : Int).toNat (x8_7 : Int).toNat).size : Int) > 10 then (jetsamref01_Lex.j4 kj7 a0 x5_1 x6_1 x8_7 true 2 (a0.extract (x6_1 : Int).toNat (x8_7 : Int).toNat) 0 x6_1) else (if ((a0.extract (x6_1 : Int).toNat (x8_7 : Int).toNat).size : Int) > 1 then (jetsamref01_Lex.j4 kj7 a0 x5_1 x6_1 x8_7 ((bt a0 x6_1) == 48) 2 (a0.extract (x6_1 : Int).toNat (x8_7 : Int).toNat) 0 x6_1) else (jetsamref01_Lex.j4 kj7 a0 x5_1 x6_1 x8_7 false 2 (a0.extract (x6_1 : Int).toNat (x8_7 : Int).toNat) 0 x6_1))) else (none)) else (none)) else (none)) else ((jetsamref01_sign.f kj7 a0 x6_1).bind fun t160 => (if t160 = 0 then (some (([] : List (S68)), x6_1, 2)) else (if 0 ≤ x6_1 then (if x6_1 ≤ (wrap64 (x6_1 + t160)) then (if (wrap64 (x6_1 + t160)) ≤ (a0.size : Int) then (if x5_1.length < 3518437208883 then (jetsamref01_Lex.l0 kj7 a0 (x5_1 ++ [(⟨3, a0.extract (x6_1 : Int).toNat ((wrap64 (x6_1 + t160)) : Int).toNat, 0, x6_1⟩ : S68)]) (wrap64 (x6_1 + t160))) else (none)) else (none)) else (none)) else (none)))))) = some (r1, r2, r3) := by rw [if_neg (show ¬ (false = true) by decide)] at H; exact H
                      clear H
                      have H := H1
                      clear H1
                      replace H := Option.bind_eq_some_iff.mp H
                      obtain ⟨t155, A770, H⟩ := H
                      replace H : (if t155 = true then (if 0 ≤ x6_1 then (if x6_1 ≤ x8_7 then (if x8_7 ≤ (a0.size : Int) then (if ((a0.extract (x6_1 : Int).toNat (x8_7 : Int).toNat).size : Int) > 10 then (jetsamref01_Lex.j4 kj7 a0 x5_1 x6_1 x8_7 true 2 (a0.extract (x6_1 : Int).toNat (x8_7 : Int).toNat) 0 x6_1) else (if ((a0.extract (x6_1 : Int).toNat (x8_7 : Int).toNat).size : Int) > 1 then (jetsamref01_Lex.j4 kj7 a0 x5_1 x6_1 x8_7 ((bt a0 x6_1) == 48) 2 (a0.extract (x6_1 : Int).toNat (x8_7 : Int).toNat) 0 x6_1) else (jetsamref01_Lex.j4 kj7 a0 x5_1 x6_1 x8_7 false 2 (a0.extract (x6_1 : Int).toNat (x8_7 : Int).toNat) 0 x6_1))) else (none)) else (none)) else (none)) else ((jetsamref01_sign.f kj7 a0 x6_1).bind fun t160 => (if t160 = 0 then (some (([] : List (S68)), x6_1, 2)) else (if 0 ≤ x6_1 then (if x6_1 ≤ (wrap64 (x6_1 + t160)) then (if (wrap64 (x6_1 + t160)) ≤ (a0.size : Int) then (if x5_1.length < 3518437208883 then (jetsamref01_Lex.l0 kj7 a0 (x5_1 ++ [(⟨3, a0.extract (x6_1 : Int).toNat ((wrap64 (x6_1 + t160)) : Int).toNat, 0, x6_1⟩ : S68)]) (wrap64 (x6_1 + t160))) else (none)) else (none)) else (none)) else (none))))) = some (r1, r2, r3) := H
                      have A77 := Aside0.mk A770
                      clear A770
                      by_cases c78 : t155 = true
                      · subst c78
                        have H1 : (if 0 ≤ x6_1 then (if x6_1 ≤ x8_7 then (if x8_7 ≤ (a0.size : Int) then (if ((a0.extract (x6_1 : Int).toNat (x8_7 : Int).toNat).size : Int) > 10 then (jetsamref01_Lex.j4 kj7 a0 x5_1 x6_1 x8_7 true 2 (a0.extract (x6_1 : Int).toNat (x8_7 : Int).toNat) 0 x6_1) else (if ((a0.extract (x6_1 : Int).toNat (x8_7 : Int).toNat).size : Int) > 1 then (jetsamref01_Lex.j4 kj7 a0 x5_1 x6_1 x8_7 ((bt a0 x6_1) == 48) 2 (a0.extract (x6_1 : Int).toNat (x8_7 : Int).toNat) 0 x6_1) else (jetsamref01_Lex.j4 kj7 a0 x5_1 x6_1 x8_7 false 2 (a0.extract (x6_1 : Int).toNat (x8_7 : Int).toNat) 0 x6_1))) else (none)) else (none)) else (none)) = some (r1, r2, r3) := by rw [if_pos rfl] at H; exact H
                        clear H
                        have H := H1
                        clear H1
                        by_cases c79 : 0 ≤ x6_1
                        · rw [if_pos c79] at H
                          have c79b0 := eq_true c79
                          have c79b1 : decide (0 ≤ x6_1) = true := decide_eq_true c79
                          clear c79
                          by_cases c80 : x6_1 ≤ x8_7
                          · rw [if_pos c80] at H
                            have c80b0 := eq_true c80
                            have c80b1 : decide (x6_1 ≤ x8_7) = true := decide_eq_true c80
                            clear c80
                            by_cases c81 : x8_7 ≤ (a0.size : Int)
                            · rw [if_pos c81] at H
                              have c81b0 := eq_true c81
                              have c81b1 : decide (x8_7 ≤ (a0.size : Int)) = true := decide_eq_true c81
                              clear c81
                              have HC82 := Aside0.mk H
                              clear H
                              try go_wp2_with (first | ((with_reducible refine gate_dst (N := 9) rfl ?_); (try (refine gate_guard (by rfl) ?_; dsimp only)); refine box_event ?hg (N := 9) ?hd (cs := #[.int .i64 0, .string (⟨#[]⟩ : ByteArray), .int .i64 0, .int .i64 0]) (t := 68) ?hr ?_; (case hd => rfl); (case hg => rfl); (case hr => first | (go_simp; done) | (go_simp; rfl)); intro gb146 hg w83 hbox hb; have n0_ := Aside0.mk (Kd.R_below (Kd.R_elderB (by (with_reducible repeat (first | apply Kd.R_alloc | apply Kd.R_drewN | apply Kd.R_drew)); exact HO_5.out) gb146 (Nat.le_of_eq hg.symm)) hb); have n1_ := Aside0.mk (below_step (by repeat (first | (with_reducible first | exact HB.out | apply below_alloc | apply pw_below_drewN | apply below_drew1) | exact HB.out)) hb); have n2_ := Aside0.mk (hbox); have n3_ := Aside0.mk ((by rw [hg]; exact (below_size (by repeat (first | (with_reducible first | exact HB.out | apply below_alloc | apply pw_below_drewN | apply below_drew1) | exact HB.out))) : w.heap.size ≤ gb146)); have n4_ := Aside0.mk ((by rw [hg]; exact (below_size (by repeat (first | (with_reducible first | exact HB.out | apply below_alloc | apply pw_below_drewN | apply below_drew1) | exact HB.out))) : w.heap.size ≤ gb146)); clear HO_5; clear HB; have HO_5 := n0_; have HB := n1_; have BK146 := n2_; have GW146 := n3_; have GE146 := n4_; clear n0_ n1_ n2_ n3_ n4_; clear hb hbox hg; have hcz84_0 : w83.cell? ⟨gb146, 0, none⟩ = some (.int .i64 0) := (blk_cell BK146.out 0).trans rfl; have hcz84_1 : w83.cell? ⟨gb146, 1, none⟩ = some (.string (⟨#[]⟩ : ByteArray)) := (blk_cell BK146.out 1).trans rfl; have hcz84_2 : w83.cell? ⟨gb146, 2, none⟩ = some (.int .i64 0) := (blk_cell BK146.out 2).trans rfl; have hcz84_3 : w83.cell? ⟨gb146, 3, none⟩ = some (.int .i64 0) := (blk_cell BK146.out 3).trans rfl; have hfz84_0 := blk_frozen BK146.out 0; have hfz84_1 := blk_frozen BK146.out 1; have hfz84_2 := blk_frozen BK146.out 2; have hfz84_3 := blk_frozen BK146.out 3) | ((with_reducible refine gate_callee (f := 38) rfl ?_); refine goesL_ (some 73) rfl rfl Tryd.func38 (by kernel_rfl) rfl #[.int .u8 (bt a0 x6_1)] rfl (by (try simp only [List.map_toArray, List.map_cons, List.map_nil]); first | done | rfl | (simp only [List.length_drop, List.length_take]; rfl)) ?_; (with_reducible refine (jetsamref01_letter.calls (bt a0 x6_1) false _ A28.out).mono ?_); rintro e w' ⟨rfl, ⟨nd, rfl⟩⟩; refine ⟨_, rfl, ?_⟩) | ((with_reducible refine gate_callee (f := 39) rfl ?_); refine goesL_ (some 91) rfl rfl Tryd.func39 (by kernel_rfl) rfl #[.int .u8 (bt a0 x6_1)] rfl (by (try simp only [List.map_toArray, List.map_cons, List.map_nil]); first | done | rfl | (simp only [List.length_drop, List.length_take]; rfl)) ?_; (with_reducible refine (jetsamref01_digit.calls (bt a0 x6_1) true _ A77.out).mono ?_); rintro e w' ⟨rfl, ⟨nd, rfl⟩⟩; refine ⟨_, rfl, ?_⟩))
                              have n0_ : Aside0 (Kd.R k68 68 ((((w83.setCell ⟨gb146, 0, none⟩ (.int .i64 0)).setCell ⟨gb146, 1, none⟩ (.string (⟨#[]⟩ : ByteArray))).setCell ⟨gb146, 2, none⟩ (.int .i64 0)).setCell ⟨gb146, 3, none⟩ (.int .i64 x6_1)) w.heap.size (fun k_ => k_ ≠ gb146) u5 x5_1) := ⟨by (with_reducible repeat (first | apply Kd.R_alloc | apply Kd.R_drewN | apply Kd.R_drew)); exact Kd.R_mono (Kd.R_far (p := ⟨gb146, 3, none⟩) (Kd.R_far (p := ⟨gb146, 2, none⟩) (Kd.R_far (p := ⟨gb146, 1, none⟩) (Kd.R_far (p := ⟨gb146, 0, none⟩) (Kd.R_mono HO_5.out (fun k_ hk => (⟨hk, hk.2⟩ : _ ∧ k_ ≠ gb146))) (fun _ hk => hk.2) (.int .i64 0)) (fun _ hk => hk.2) (.string (⟨#[]⟩ : ByteArray))) (fun _ hk => hk.2) (.int .i64 0)) (fun _ hk => hk.2) (.int .i64 x6_1)) (fun _ hk => hk.1.2)⟩
                              have n1_ : Aside0 (((((w83.setCell ⟨gb146, 0, none⟩ (.int .i64 0)).setCell ⟨gb146, 1, none⟩ (.string (⟨#[]⟩ : ByteArray))).setCell ⟨gb146, 2, none⟩ (.int .i64 0)).setCell ⟨gb146, 3, none⟩ (.int .i64 x6_1)).heap[gb146]? = some (.cells #[.int .i64 0, .string (⟨#[]⟩ : ByteArray), .int .i64 0, .int .i64 x6_1] 68 (0, 0))) := ⟨by (with_reducible repeat (first | refine blk_drewN ?_ _ | refine blk_drew ?_ | refine blk_alloc ?_ _)); refine blk_put (cs := #[.int .i64 0, .string (⟨#[]⟩ : ByteArray), .int .i64 0, .int .i64 0]) ?_ 3 _ rfl; (with_reducible repeat (first | refine blk_drewN ?_ _ | refine blk_drew ?_ | refine blk_alloc ?_ _)); refine blk_put (cs := #[.int .i64 0, .string (⟨#[]⟩ : ByteArray), .int .i64 0, .int .i64 0]) ?_ 2 _ rfl; (with_reducible repeat (first | refine blk_drewN ?_ _ | refine blk_drew ?_ | refine blk_alloc ?_ _)); refine blk_put (cs := #[.int .i64 0, .string (⟨#[]⟩ : ByteArray), .int .i64 0, .int .i64 0]) ?_ 1 _ rfl; (with_reducible repeat (first | refine blk_drewN ?_ _ | refine blk_drew ?_ | refine blk_alloc ?_ _)); refine blk_put (cs := #[.int .i64 0, .string (⟨#[]⟩ : ByteArray), .int .i64 0, .int .i64 0]) ?_ 0 _ rfl; (with_reducible repeat (first | refine blk_drewN ?_ _ | refine blk_drew ?_ | refine blk_alloc ?_ _)); exact BK146.out⟩
                              have n2_ : Aside0 (Below w.heap.size w ((((w83.setCell ⟨gb146, 0, none⟩ (.int .i64 0)).setCell ⟨gb146, 1, none⟩ (.string (⟨#[]⟩ : ByteArray))).setCell ⟨gb146, 2, none⟩ (.int .i64 0)).setCell ⟨gb146, 3, none⟩ (.int .i64 x6_1))) := ⟨by repeat (first | (with_reducible first | exact HB.out | apply below_alloc | apply pw_below_drewN | apply below_drew1 | refine below_set ?_ GE146.out) | exact HB.out)⟩
                              (try clear HO_5)
                              (try clear BK146)
                              (try clear HB)
                              generalize ((((w83.setCell ⟨gb146, 0, none⟩ (.int .i64 0)).setCell ⟨gb146, 1, none⟩ (.string (⟨#[]⟩ : ByteArray))).setCell ⟨gb146, 2, none⟩ (.int .i64 0)).setCell ⟨gb146, 3, none⟩ (.int .i64 x6_1)) = w85 at n0_ n1_ n2_ ⊢
                              have HO_5 := n0_
                              have BK146 := n1_
                              have HB := n2_
                              clear n0_ n1_ n2_
                              (try (rw [drewN_self w85]; generalize hq_ : World.drewN w85 _ = w85; have n0_ : Aside0 (Kd.R k68 68 w85 w.heap.size (fun k_ => k_ ≠ gb146) u5 x5_1) := ⟨by rw [← hq_]; exact (by (with_reducible repeat (first | apply Kd.R_alloc | apply Kd.R_drewN | apply Kd.R_drew)); exact HO_5.out)⟩; have n1_ : Aside0 (w85.heap[gb146]? = some (.cells #[.int .i64 0, .string (⟨#[]⟩ : ByteArray), .int .i64 0, .int .i64 x6_1] 68 (0, 0))) := ⟨by rw [← hq_]; exact (by (with_reducible repeat (first | refine blk_drewN ?_ _ | refine blk_drew ?_ | refine blk_alloc ?_ _)); exact BK146.out)⟩; have n2_ : Aside0 (Below w.heap.size w w85) := ⟨by rw [← hq_]; exact (by repeat (first | (with_reducible first | exact HB.out | apply below_alloc | apply pw_below_drewN | apply below_drew1 | refine below_set ?_ GE146.out) | exact HB.out))⟩; clear HO_5 BK146 HB hq_; have HO_5 := n0_; have BK146 := n1_; have HB := n2_; clear n0_ n1_ n2_))
                              have n0_ := Aside0.mk (Kd.R_drew HO_5.out)
                              have n1_ := Aside0.mk (blk_drew BK146.out)
                              have n2_ := Aside0.mk (below_drew1 HB.out)
                              clear HO_5
                              clear BK146
                              clear HB
                              have HO_5 := n0_
                              have BK146 := n1_
                              have HB := n2_
                              clear n0_ n1_ n2_
                              refine start_ (n := 8) (S := fun w' => True) (ds := []) #[false, false, false, false, false, false, false, false] (by kernel_rfl) rfl rfl trivial (fun hHeld => ?_); refine with_tabW jetsamref01_Lex.tab23 jetsamref01_Lex.bits23 (fun HT_ HW_ => ?_)
                              generalize w85.drew = w86 at HO_5 BK146 HB hHeld ⊢
                              refine pure_ (i := 0) (N := some 92) (v := ?_) (a' := ?_) #[true, false, false, false, false, false, false, false] rfl rfl (any_of HT_.out (by kernel_rfl)) (fun _ _ _ h => h) (Or.inl ⟨by rfl, ?_⟩) ?_ ?_
                              rotate_left
                              · intro w'
                                go_simp
                                with_reducible rfl
                              rotate_left
                              · simp only [Act.put, List.setIfInBounds_toArray, List.set_cons_zero, List.set_cons_succ, i64_w, i32_w]
                                rfl
                              refine pure_ (i := 1) (N := some 93) (v := ?_) (a' := ?_) #[true, true, false, false, false, false, false, false] rfl rfl (any_of HT_.out (by kernel_rfl)) (fun _ _ _ h => h) (Or.inl ⟨by rfl, ?_⟩) ?_ ?_
                              rotate_left
                              · intro w'
                                go_simp
                                with_reducible rfl
                              rotate_left
                              · simp only [Act.put, List.setIfInBounds_toArray, List.set_cons_zero, List.set_cons_succ, i64_w, i32_w]
                                rfl
                              refine pure_ (i := 2) (N := some 94) (v := ?_) (a' := ?_) #[true, true, true, false, false, false, false, false] rfl rfl (any_of HT_.out (by kernel_rfl)) (fun _ _ _ h => h) (Or.inl ⟨by rfl, ?_⟩) ?_ ?_
                              rotate_left
                              · intro w'
                                go_simp
                                with_reducible rfl
                              rotate_left
                              · simp only [Act.put, List.setIfInBounds_toArray, List.set_cons_zero, List.set_cons_succ, i64_w, i32_w]
                                rfl
                              refine pure_ (i := 3) (N := some 95) (v := ?_) (a' := ?_) #[true, true, true, true, false, false, false, false] rfl rfl (any_of HT_.out (by kernel_rfl)) (fun _ _ _ h => h) (Or.inl ⟨by rfl, ?_⟩) ?_ ?_
                              rotate_left
                              · intro w'
                                go_simp
                                with_reducible rfl
                              rotate_left
                              · simp only [Act.put, List.setIfInBounds_toArray, List.set_cons_zero, List.set_cons_succ, i64_w, i32_w]
                                rfl
                              refine pure_ (i := 4) (N := some 96) (v := ?_) (a' := ?_) #[true, true, true, true, true, false, false, false] rfl rfl (any_of HT_.out (by kernel_rfl)) (fun _ _ _ h => h) (Or.inl ⟨by rfl, ?_⟩) ?_ ?_
                              rotate_left
                              · intro w'
                                go_simp
                                with_reducible rfl
                              rotate_left
                              · simp only [Act.put, List.setIfInBounds_toArray, List.set_cons_zero, List.set_cons_succ, i64_w, i32_w]
                                rfl
                              refine one_ (i := 5) (N := none) #[true, true, true, true, true, true, false, false] rfl rfl (one_of HT_.out (by kernel_rfl)) (by decide) (fun K hK => ?_)
                              have hs87 : w86.cell? ⟨gb146, 0, none⟩ = some (.int .i64 0) := (blk_cell BK146.out 0).trans rfl
                              have hfs87 := blk_frozen BK146.out 0
                              refine skip_ (w1 := ?_) (by rfl) rfl ?_ ?_
                              rotate_left
                              · go_simp
                                rfl
                              refine hK.out _ _ trivial (fun hHeld => ?_)
                              clear hK K
                              refine pure_ (i := 6) (N := some 97) (v := ?_) (a' := ?_) #[true, true, true, true, true, true, true, false] rfl rfl (any_of HT_.out (by kernel_rfl)) (fun _ _ _ h => h) (Or.inl ⟨by rfl, ?_⟩) ?_ ?_
                              rotate_left
                              · intro w'
                                go_simp
                                with_reducible rfl
                              rotate_left
                              · simp only [Act.put, List.setIfInBounds_toArray, List.set_cons_zero, List.set_cons_succ, i64_w, i32_w]
                                rfl
                              refine one_ (i := 7) (N := none) #[true, true, true, true, true, true, true, true] rfl rfl (one_of HT_.out (by kernel_rfl)) (by decide) (fun K hK => ?_)
                              have hs88 : w86.cell? ⟨gb146, 1, none⟩ = some (.string (⟨#[]⟩ : ByteArray)) := (blk_cell BK146.out 1).trans rfl
                              have hfs88 := blk_frozen BK146.out 1
                              refine skip_ (w1 := ?_) (by rfl) rfl ?_ ?_
                              rotate_left
                              · go_simp
                                rfl
                              refine hK.out _ _ trivial (fun hHeld => ?_)
                              clear hK K
                              refine done_ (done_of HT_.out (by kernel_rfl)) ?_
                              go_upto_region 24 with (fail)
                              go_cut [111] (fun v111 wc => ∃ (kq : Nat) (x111_81 : Bool), v111 = .bool x111_81 ∧ Aside0 (jetsamref01_Lex.j4 kq a0 x5_1 x6_1 x8_7 x111_81 2 (a0.extract (x6_1 : Int).toNat (x8_7 : Int).toNat) 0 x6_1 = some (r1, r2, r3)) ∧ Aside0 (kq ≤ kj7) ∧ Aside0 (Kd.R k68 68 wc w.heap.size (fun k_ => k_ ≠ gb146) u5 x5_1) ∧ Aside0 (wc.heap[gb146]? = some (.cells #[.int .i64 2, .string (a0.extract (x6_1 : Int).toNat (x8_7 : Int).toNat), .int .i64 0, .int .i64 x6_1] 68 (0, 0))) ∧ Aside0 (Below w.heap.size w wc))
                              case first =>
                                have H := HC82.out
                                clear HC82
                                by_cases c89 : ((a0.extract (x6_1 : Int).toNat (x8_7 : Int).toNat).size : Int) > 10
                                · rw [if_pos c89] at H
                                  have c89b0 : decide (10 < ((a0.extract (x6_1 : Int).toNat (x8_7 : Int).toNat).size : Int)) = true := decide_eq_true c89
                                  try ((have h_ : x8_7 ≤ (a0.size : Int) := by first | exact of_eq_true (by assumption) | exact of_decide_eq_true (by assumption)); (have e_ : (a0.extract (x6_1 : Int).toNat (x8_7 : Int).toNat).size = (x8_7 : Int).toNat - (x6_1 : Int).toNat := by rw [ByteArray.size_extract]; omega); (have c89b0e : decide (10 < (((x8_7 : Int).toNat - (x6_1 : Int).toNat : Nat) : Int)) = true := by rw [← e_]; exact c89b0); clear h_ e_)
                                  have c89b0m : decide (10 < ((min (x8_7 : Int).toNat a0.size - (x6_1 : Int).toNat : Nat) : Int)) = true := by rw [← ByteArray.size_extract]; exact c89b0
                                  have c89b1 : decide (10 < (a0.extract (x6_1 : Int).toNat (x8_7 : Int).toNat).size) = true := decide_eq_true (by omega)
                                  try ((have h_ : x8_7 ≤ (a0.size : Int) := by first | exact of_eq_true (by assumption) | exact of_decide_eq_true (by assumption)); (have e_ : (a0.extract (x6_1 : Int).toNat (x8_7 : Int).toNat).size = (x8_7 : Int).toNat - (x6_1 : Int).toNat := by rw [ByteArray.size_extract]; omega); (have c89b1e : decide (10 < ((x8_7 : Int).toNat - (x6_1 : Int).toNat : Nat)) = true := by rw [← e_]; exact c89b1); clear h_ e_)
                                  have c89b1m : decide (10 < (min (x8_7 : Int).toNat a0.size - (x6_1 : Int).toNat : Nat)) = true := by rw [← ByteArray.size_extract]; exact c89b1
                                  clear c89
                                  (first | rw [c89b0] | (simp only [i64_w, i32_w]; rw [c89b0]) | skip)
                                  have H' := Aside0.mk H
                                  clear H
                                  have hcz90_0 : w86.cell? ⟨gb146, 0, none⟩ = some (.int .i64 0) := (blk_cell BK146.out 0).trans rfl
                                  have hcz90_1 : w86.cell? ⟨gb146, 1, none⟩ = some (.string (⟨#[]⟩ : ByteArray)) := (blk_cell BK146.out 1).trans rfl
                                  have hcz90_2 : w86.cell? ⟨gb146, 2, none⟩ = some (.int .i64 0) := (blk_cell BK146.out 2).trans rfl
                                  have hcz90_3 : w86.cell? ⟨gb146, 3, none⟩ = some (.int .i64 x6_1) := (blk_cell BK146.out 3).trans rfl
                                  have hfz90_0 := blk_frozen BK146.out 0
                                  have hfz90_1 := blk_frozen BK146.out 1
                                  have hfz90_2 := blk_frozen BK146.out 2
                                  have hfz90_3 := blk_frozen BK146.out 3
                                  go_wp2
                                  go_meet
                                  case rel => exact ⟨_, (true), (by first | rfl | (simp; done) | (simp [*]; done)), H', ⟨by have := HK1.out; have := HJ4.out; have := HJ7.out; first | omega | exact Nat.le_refl _⟩, ⟨by (with_reducible repeat (first | apply Kd.R_alloc | apply Kd.R_drewN | apply Kd.R_drew)); exact Kd.R_mono (Kd.R_far (p := ⟨gb146, 1, none⟩) (Kd.R_far (p := ⟨gb146, 0, none⟩) (Kd.R_mono HO_5.out (fun k_ hk => (⟨hk, hk⟩ : _ ∧ k_ ≠ gb146))) (fun _ hk => hk.2) (.int .i64 2)) (fun _ hk => hk.2) (.string (a0.extract (x6_1 : Int).toNat (x8_7 : Int).toNat))) (fun _ hk => hk.1)⟩, ⟨by (with_reducible repeat (first | refine blk_drewN ?_ _ | refine blk_drew ?_ | refine blk_alloc ?_ _)); refine blk_put (cs := #[.int .i64 2, .string (⟨#[]⟩ : ByteArray), .int .i64 0, .int .i64 x6_1]) ?_ 1 _ rfl; (with_reducible repeat (first | refine blk_drewN ?_ _ | refine blk_drew ?_ | refine blk_alloc ?_ _)); refine blk_put (cs := #[.int .i64 0, .string (⟨#[]⟩ : ByteArray), .int .i64 0, .int .i64 x6_1]) ?_ 0 _ rfl; (with_reducible repeat (first | refine blk_drewN ?_ _ | refine blk_drew ?_ | refine blk_alloc ?_ _)); exact BK146.out⟩, ⟨by repeat (first | (with_reducible first | exact HB.out | apply below_alloc | apply pw_below_drewN | apply below_drew1 | refine below_set ?_ GE146.out) | exact HB.out)⟩⟩
                                · rw [if_neg c89] at H
                                  have c89b0 : decide (10 < ((a0.extract (x6_1 : Int).toNat (x8_7 : Int).toNat).size : Int)) = false := decide_eq_false c89
                                  try ((have h_ : x8_7 ≤ (a0.size : Int) := by first | exact of_eq_true (by assumption) | exact of_decide_eq_true (by assumption)); (have e_ : (a0.extract (x6_1 : Int).toNat (x8_7 : Int).toNat).size = (x8_7 : Int).toNat - (x6_1 : Int).toNat := by rw [ByteArray.size_extract]; omega); (have c89b0e : decide (10 < (((x8_7 : Int).toNat - (x6_1 : Int).toNat : Nat) : Int)) = false := by rw [← e_]; exact c89b0); clear h_ e_)
                                  have c89b0m : decide (10 < ((min (x8_7 : Int).toNat a0.size - (x6_1 : Int).toNat : Nat) : Int)) = false := by rw [← ByteArray.size_extract]; exact c89b0
                                  have c89b1 : decide (10 < (a0.extract (x6_1 : Int).toNat (x8_7 : Int).toNat).size) = false := decide_eq_false (by omega)
                                  try ((have h_ : x8_7 ≤ (a0.size : Int) := by first | exact of_eq_true (by assumption) | exact of_decide_eq_true (by assumption)); (have e_ : (a0.extract (x6_1 : Int).toNat (x8_7 : Int).toNat).size = (x8_7 : Int).toNat - (x6_1 : Int).toNat := by rw [ByteArray.size_extract]; omega); (have c89b1e : decide (10 < ((x8_7 : Int).toNat - (x6_1 : Int).toNat : Nat)) = false := by rw [← e_]; exact c89b1); clear h_ e_)
                                  have c89b1m : decide (10 < (min (x8_7 : Int).toNat a0.size - (x6_1 : Int).toNat : Nat)) = false := by rw [← ByteArray.size_extract]; exact c89b1
                                  clear c89
                                  (first | rw [c89b0] | (simp only [i64_w, i32_w]; rw [c89b0]) | skip)
                                  by_cases c91 : ((a0.extract (x6_1 : Int).toNat (x8_7 : Int).toNat).size : Int) > 1
                                  · rw [if_pos c91] at H
                                    have c91b0 : decide (1 < ((a0.extract (x6_1 : Int).toNat (x8_7 : Int).toNat).size : Int)) = true := decide_eq_true c91
                                    try ((have h_ : x8_7 ≤ (a0.size : Int) := by first | exact of_eq_true (by assumption) | exact of_decide_eq_true (by assumption)); (have e_ : (a0.extract (x6_1 : Int).toNat (x8_7 : Int).toNat).size = (x8_7 : Int).toNat - (x6_1 : Int).toNat := by rw [ByteArray.size_extract]; omega); (have c91b0e : decide (1 < (((x8_7 : Int).toNat - (x6_1 : Int).toNat : Nat) : Int)) = true := by rw [← e_]; exact c91b0); clear h_ e_)
                                    have c91b0m : decide (1 < ((min (x8_7 : Int).toNat a0.size - (x6_1 : Int).toNat : Nat) : Int)) = true := by rw [← ByteArray.size_extract]; exact c91b0
                                    have c91b1 : decide (1 < (a0.extract (x6_1 : Int).toNat (x8_7 : Int).toNat).size) = true := decide_eq_true (by omega)
                                    try ((have h_ : x8_7 ≤ (a0.size : Int) := by first | exact of_eq_true (by assumption) | exact of_decide_eq_true (by assumption)); (have e_ : (a0.extract (x6_1 : Int).toNat (x8_7 : Int).toNat).size = (x8_7 : Int).toNat - (x6_1 : Int).toNat := by rw [ByteArray.size_extract]; omega); (have c91b1e : decide (1 < ((x8_7 : Int).toNat - (x6_1 : Int).toNat : Nat)) = true := by rw [← e_]; exact c91b1); clear h_ e_)
                                    have c91b1m : decide (1 < (min (x8_7 : Int).toNat a0.size - (x6_1 : Int).toNat : Nat)) = true := by rw [← ByteArray.size_extract]; exact c91b1
                                    clear c91
                                    have H' := Aside0.mk H
                                    clear H
                                    have hcz92_0 : w86.cell? ⟨gb146, 0, none⟩ = some (.int .i64 0) := (blk_cell BK146.out 0).trans rfl
                                    have hcz92_1 : w86.cell? ⟨gb146, 1, none⟩ = some (.string (⟨#[]⟩ : ByteArray)) := (blk_cell BK146.out 1).trans rfl
                                    have hcz92_2 : w86.cell? ⟨gb146, 2, none⟩ = some (.int .i64 0) := (blk_cell BK146.out 2).trans rfl
                                    have hcz92_3 : w86.cell? ⟨gb146, 3, none⟩ = some (.int .i64 x6_1) := (blk_cell BK146.out 3).trans rfl
                                    have hfz92_0 := blk_frozen BK146.out 0
                                    have hfz92_1 := blk_frozen BK146.out 1
                                    have hfz92_2 := blk_frozen BK146.out 2
                                    have hfz92_3 := blk_frozen BK146.out 3
                                    go_wp2
                                    go_meet
                                    case rel => exact ⟨_, (((bt a0 x6_1) == 48)), (by first | rfl | (simp; done) | (simp [*]; done)), H', ⟨by have := HK1.out; have := HJ4.out; have := HJ7.out; first | omega | exact Nat.le_refl _⟩, ⟨by (with_reducible repeat (first | apply Kd.R_alloc | apply Kd.R_drewN | apply Kd.R_drew)); exact Kd.R_mono (Kd.R_far (p := ⟨gb146, 1, none⟩) (Kd.R_far (p := ⟨gb146, 0, none⟩) (Kd.R_mono HO_5.out (fun k_ hk => (⟨hk, hk⟩ : _ ∧ k_ ≠ gb146))) (fun _ hk => hk.2) (.int .i64 2)) (fun _ hk => hk.2) (.string (a0.extract (x6_1 : Int).toNat (x8_7 : Int).toNat))) (fun _ hk => hk.1)⟩, ⟨by (with_reducible repeat (first | refine blk_drewN ?_ _ | refine blk_drew ?_ | refine blk_alloc ?_ _)); refine blk_put (cs := #[.int .i64 2, .string (⟨#[]⟩ : ByteArray), .int .i64 0, .int .i64 x6_1]) ?_ 1 _ rfl; (with_reducible repeat (first | refine blk_drewN ?_ _ | refine blk_drew ?_ | refine blk_alloc ?_ _)); refine blk_put (cs := #[.int .i64 0, .string (⟨#[]⟩ : ByteArray), .int .i64 0, .int .i64 x6_1]) ?_ 0 _ rfl; (with_reducible repeat (first | refine blk_drewN ?_ _ | refine blk_drew ?_ | refine blk_alloc ?_ _)); exact BK146.out⟩, ⟨by repeat (first | (with_reducible first | exact HB.out | apply below_alloc | apply pw_below_drewN | apply below_drew1 | refine below_set ?_ GE146.out) | exact HB.out)⟩⟩
                                  · rw [if_neg c91] at H
                                    have c91b0 : decide (1 < ((a0.extract (x6_1 : Int).toNat (x8_7 : Int).toNat).size : Int)) = false := decide_eq_false c91
                                    try ((have h_ : x8_7 ≤ (a0.size : Int) := by first | exact of_eq_true (by assumption) | exact of_decide_eq_true (by assumption)); (have e_ : (a0.extract (x6_1 : Int).toNat (x8_7 : Int).toNat).size = (x8_7 : Int).toNat - (x6_1 : Int).toNat := by rw [ByteArray.size_extract]; omega); (have c91b0e : decide (1 < (((x8_7 : Int).toNat - (x6_1 : Int).toNat : Nat) : Int)) = false := by rw [← e_]; exact c91b0); clear h_ e_)
                                    have c91b0m : decide (1 < ((min (x8_7 : Int).toNat a0.size - (x6_1 : Int).toNat : Nat) : Int)) = false := by rw [← ByteArray.size_extract]; exact c91b0
                                    have c91b1 : decide (1 < (a0.extract (x6_1 : Int).toNat (x8_7 : Int).toNat).size) = false := decide_eq_false (by omega)
                                    try ((have h_ : x8_7 ≤ (a0.size : Int) := by first | exact of_eq_true (by assumption) | exact of_decide_eq_true (by assumption)); (have e_ : (a0.extract (x6_1 : Int).toNat (x8_7 : Int).toNat).size = (x8_7 : Int).toNat - (x6_1 : Int).toNat := by rw [ByteArray.size_extract]; omega); (have c91b1e : decide (1 < ((x8_7 : Int).toNat - (x6_1 : Int).toNat : Nat)) = false := by rw [← e_]; exact c91b1); clear h_ e_)
                                    have c91b1m : decide (1 < (min (x8_7 : Int).toNat a0.size - (x6_1 : Int).toNat : Nat)) = false := by rw [← ByteArray.size_extract]; exact c91b1
                                    clear c91
                                    have H' := Aside0.mk H
                                    clear H
                                    have hcz93_0 : w86.cell? ⟨gb146, 0, none⟩ = some (.int .i64 0) := (blk_cell BK146.out 0).trans rfl
                                    have hcz93_1 : w86.cell? ⟨gb146, 1, none⟩ = some (.string (⟨#[]⟩ : ByteArray)) := (blk_cell BK146.out 1).trans rfl
                                    have hcz93_2 : w86.cell? ⟨gb146, 2, none⟩ = some (.int .i64 0) := (blk_cell BK146.out 2).trans rfl
                                    have hcz93_3 : w86.cell? ⟨gb146, 3, none⟩ = some (.int .i64 x6_1) := (blk_cell BK146.out 3).trans rfl
                                    have hfz93_0 := blk_frozen BK146.out 0
                                    have hfz93_1 := blk_frozen BK146.out 1
                                    have hfz93_2 := blk_frozen BK146.out 2
                                    have hfz93_3 := blk_frozen BK146.out 3
                                    go_wp2
                                    go_meet
                                    case rel => exact ⟨_, (false), (by first | rfl | (simp; done) | (simp [*]; done)), H', ⟨by have := HK1.out; have := HJ4.out; have := HJ7.out; first | omega | exact Nat.le_refl _⟩, ⟨by (with_reducible repeat (first | apply Kd.R_alloc | apply Kd.R_drewN | apply Kd.R_drew)); exact Kd.R_mono (Kd.R_far (p := ⟨gb146, 1, none⟩) (Kd.R_far (p := ⟨gb146, 0, none⟩) (Kd.R_mono HO_5.out (fun k_ hk => (⟨hk, hk⟩ : _ ∧ k_ ≠ gb146))) (fun _ hk => hk.2) (.int .i64 2)) (fun _ hk => hk.2) (.string (a0.extract (x6_1 : Int).toNat (x8_7 : Int).toNat))) (fun _ hk => hk.1)⟩, ⟨by (with_reducible repeat (first | refine blk_drewN ?_ _ | refine blk_drew ?_ | refine blk_alloc ?_ _)); refine blk_put (cs := #[.int .i64 2, .string (⟨#[]⟩ : ByteArray), .int .i64 0, .int .i64 x6_1]) ?_ 1 _ rfl; (with_reducible repeat (first | refine blk_drewN ?_ _ | refine blk_drew ?_ | refine blk_alloc ?_ _)); refine blk_put (cs := #[.int .i64 0, .string (⟨#[]⟩ : ByteArray), .int .i64 0, .int .i64 x6_1]) ?_ 0 _ rfl; (with_reducible repeat (first | refine blk_drewN ?_ _ | refine blk_drew ?_ | refine blk_alloc ?_ _)); exact BK146.out⟩, ⟨by repeat (first | (with_reducible first | exact HB.out | apply below_alloc | apply pw_below_drewN | apply below_drew1 | refine below_set ?_ GE146.out) | exact HB.out)⟩⟩
                              case rest =>
                                clear HC82
                                try clear c2
                                try clear p2
                                try clear c3
                                try clear c4
                                try clear c5
                                try clear c6
                                try clear p6
                                try clear c7
                                try clear c8
                                try clear c9
                                try clear c26
                                try clear c29
                                try clear c30
                                try clear c31
                                try clear c32
                                try clear c34
                                try clear c35
                                try clear c35b0
                                try clear c35b1
                                try clear c38
                                try clear c39
                                try clear c45
                                try clear c56
                                try clear c56b0
                                try clear c56b1
                                try clear p64
                                try clear c66
                                try clear c78
                                try clear c79
                                try clear c79b0
                                try clear c79b1
                                try clear c80
                                try clear c80b0
                                try clear c80b1
                                try clear c81
                                try clear c81b0
                                try clear c81b1
                                try clear c89
                                try clear c89b0
                                try clear c89b1
                                try clear c91
                                try clear c91b0
                                try clear c91b1
                                try clear hcz42_0
                                try clear hcz42_1
                                try clear hcz42_2
                                try clear hcz42_3
                                try clear hcz44_0
                                try clear hcz44_1
                                try clear hcz44_2
                                try clear hcz44_3
                                try clear hcz47_0
                                try clear hcz47_1
                                try clear hcz47_2
                                try clear hcz47_3
                                try clear hcz52_0
                                try clear hcz52_1
                                try clear hcz52_2
                                try clear hcz52_3
                                try clear hcz54_0
                                try clear hcz54_1
                                try clear hcz54_2
                                try clear hcz54_3
                                try clear hcz58_0
                                try clear hcz58_1
                                try clear hcz58_2
                                try clear hcz58_3
                                try clear hcz63_0
                                try clear hcz63_1
                                try clear hcz63_2
                                try clear hcz63_3
                                try clear hcz65_0
                                try clear hcz65_1
                                try clear hcz65_2
                                try clear hcz65_3
                                try clear hcz68_0
                                try clear hcz68_1
                                try clear hcz68_2
                                try clear hcz68_3
                                try clear hcz73_0
                                try clear hcz73_1
                                try clear hcz73_2
                                try clear hcz73_3
                                try clear hcz75_0
                                try clear hcz75_1
                                try clear hcz75_2
                                try clear hcz75_3
                                try clear hcz84_0
                                try clear hcz84_1
                                try clear hcz84_2
                                try clear hcz84_3
                                try clear hcz90_0
                                try clear hcz90_1
                                try clear hcz90_2
                                try clear hcz90_3
                                try clear hcz92_0
                                try clear hcz92_1
                                try clear hcz92_2
                                try clear hcz92_3
                                try clear hcz93_0
                                try clear hcz93_1
                                try clear hcz93_2
                                try clear hcz93_3
                                try clear hfz42_0
                                try clear hfz42_1
                                try clear hfz42_2
                                try clear hfz42_3
                                try clear hfz44_0
                                try clear hfz44_1
                                try clear hfz44_2
                                try clear hfz44_3
                                try clear hfz47_0
                                try clear hfz47_1
                                try clear hfz47_2
                                try clear hfz47_3
                                try clear hfz52_0
                                try clear hfz52_1
                                try clear hfz52_2
                                try clear hfz52_3
                                try clear hfz54_0
                                try clear hfz54_1
                                try clear hfz54_2
                                try clear hfz54_3
                                try clear hfz58_0
                                try clear hfz58_1
                                try clear hfz58_2
                                try clear hfz58_3
                                try clear hfz63_0
                                try clear hfz63_1
                                try clear hfz63_2
                                try clear hfz63_3
                                try clear hfz65_0
                                try clear hfz65_1
                                try clear hfz65_2
                                try clear hfz65_3
                                try clear hfz68_0
                                try clear hfz68_1
                                try clear hfz68_2
                                try clear hfz68_3
                                try clear hfz73_0
                                try clear hfz73_1
                                try clear hfz73_2
                                try clear hfz73_3
                                try clear hfz75_0
                                try clear hfz75_1
                                try clear hfz75_2
                                try clear hfz75_3
                                try clear hfz84_0
                                try clear hfz84_1
                                try clear hfz84_2
                                try clear hfz84_3
                                try clear hfz90_0
                                try clear hfz90_1
                                try clear hfz90_2
                                try clear hfz90_3
                                try clear hfz92_0
                                try clear hfz92_1
                                try clear hfz92_2
                                try clear hfz92_3
                                try clear hfz93_0
                                try clear hfz93_1
                                try clear hfz93_2
                                try clear hfz93_3
                                obtain ⟨kq, x111_81, rfl, HA, HJ81, HO_5, BK146, HB⟩ := hcut
                                cases kq with
                                | zero => exact absurd HA.out (by simp [jetsamref01_Lex.j4])
                                | succ kj81 =>
                                  have H := HA.out
                                  clear HA
                                  simp only [jetsamref01_Lex.j4] at H
                                  by_cases c94 : x111_81 = true
                                  · subst c94
                                    have H1 : (some (([] : List (S68)), x6_1, 3)) = some (r1, r2, r3) := by rw [if_pos rfl] at H; exact H
                                    clear H
                                    have H := H1
                                    clear H1
                                    simp only [Option.some.injEq, Prod.mk.injEq] at H
                                    obtain ⟨rfl, rfl, rfl⟩ := H
                                    go_wp2
                                    go_ret3
                                    exact ⟨_, by first | rfl | (simp [errW_none, errW_some] <;> rfl) | (simp [*, errW_none, errW_some] <;> rfl), by first | exact Kd.R_nil _ _ _ _ _ | exact Kd.N_nil _ _ _ _ _ | exact Kd.V_nil _ _ _ _ _ | exact Kd.Q_nil _ _ _ _ _ | exact Kd.S_nil _ _ _ _ _, by repeat (first | (with_reducible first | exact HB.out | apply below_alloc | apply pw_below_drewN | apply below_drew1 | refine below_set ?_ GE146.out) | exact HB.out)⟩
                                  · replace c94 := Bool.eq_false_iff.mpr c94
                                    subst c94
                                    have H1 : (jetsamref01_Lex.l2 kj81 a0 x5_1 x6_1 x8_7 0 2 (a0.extract (x6_1 : Int).toNat (x8_7 : Int).toNat) 0 x6_1) = some (r1, r2, r3) := by rw [if_neg (show ¬ (false = true) by decide)] at H; exact H
                                    clear H
                                    have H := H1
                                    clear H1
                                    have H' := Aside0.mk H
                                    clear H
                                    go_wp2
                                    go_loopg [10] kj81 (fun kq v10 w' => ∃ (x10_5 : Int) (x147002_5 : Int), v10 = .int .i64 x10_5 ∧ Aside0 (jetsamref01_Lex.l2 kq a0 x5_1 x6_1 x8_7 x10_5 2 (a0.extract (x6_1 : Int).toNat (x8_7 : Int).toNat) x147002_5 x6_1 = some (r1, r2, r3)) ∧ Aside0 (kq ≤ kj81) ∧ Aside0 (Kd.R k68 68 w' w.heap.size (fun k_ => k_ ≠ gb146) u5 x5_1) ∧ Aside0 (w'.heap[gb146]? = some (.cells #[.int .i64 2, .string (a0.extract (x6_1 : Int).toNat (x8_7 : Int).toNat), .int .i64 x147002_5, .int .i64 x6_1] 68 (0, 0))) ∧ Aside0 (Below w.heap.size w w'))
                                    case atStart => exact ⟨(0), (0), (by first | rfl | (simp; done) | (simp [*]; done)), H', ⟨Nat.le_refl _⟩, ⟨by (with_reducible repeat (first | apply Kd.R_alloc | apply Kd.R_drewN | apply Kd.R_drew)); exact HO_5.out⟩, ⟨by (with_reducible repeat (first | refine blk_drewN ?_ _ | refine blk_drew ?_ | refine blk_alloc ?_ _)); exact BK146.out⟩, ⟨by repeat (first | (with_reducible first | exact HB.out | apply below_alloc | apply pw_below_drewN | apply below_drew1 | refine below_set ?_ GE146.out) | exact HB.out)⟩⟩
                                    case round =>
                                      clear H'
                                      try clear c2
                                      try clear p2
                                      try clear c3
                                      try clear c4
                                      try clear c5
                                      try clear c6
                                      try clear p6
                                      try clear c7
                                      try clear c8
                                      try clear c9
                                      try clear c26
                                      try clear c29
                                      try clear c30
                                      try clear c31
                                      try clear c32
                                      try clear c34
                                      try clear c35
                                      try clear c35b0
                                      try clear c35b1
                                      try clear c38
                                      try clear c39
                                      try clear c45
                                      try clear c56
                                      try clear c56b0
                                      try clear c56b1
                                      try clear p64
                                      try clear c66
                                      try clear c78
                                      try clear c79
                                      try clear c79b0
                                      try clear c79b1
                                      try clear c80
                                      try clear c80b0
                                      try clear c80b1
                                      try clear c81
                                      try clear c81b0
                                      try clear c81b1
                                      try clear c89
                                      try clear c89b0
                                      try clear c89b1
                                      try clear c91
                                      try clear c91b0
                                      try clear c91b1
                                      try clear c94
                                      try clear hcz42_0
                                      try clear hcz42_1
                                      try clear hcz42_2
                                      try clear hcz42_3
                                      try clear hcz44_0
                                      try clear hcz44_1
                                      try clear hcz44_2
                                      try clear hcz44_3
                                      try clear hcz47_0
                                      try clear hcz47_1
                                      try clear hcz47_2
                                      try clear hcz47_3
                                      try clear hcz52_0
                                      try clear hcz52_1
                                      try clear hcz52_2
                                      try clear hcz52_3
                                      try clear hcz54_0
                                      try clear hcz54_1
                                      try clear hcz54_2
                                      try clear hcz54_3
                                      try clear hcz58_0
                                      try clear hcz58_1
                                      try clear hcz58_2
                                      try clear hcz58_3
                                      try clear hcz63_0
                                      try clear hcz63_1
                                      try clear hcz63_2
                                      try clear hcz63_3
                                      try clear hcz65_0
                                      try clear hcz65_1
                                      try clear hcz65_2
                                      try clear hcz65_3
                                      try clear hcz68_0
                                      try clear hcz68_1
                                      try clear hcz68_2
                                      try clear hcz68_3
                                      try clear hcz73_0
                                      try clear hcz73_1
                                      try clear hcz73_2
                                      try clear hcz73_3
                                      try clear hcz75_0
                                      try clear hcz75_1
                                      try clear hcz75_2
                                      try clear hcz75_3
                                      try clear hcz84_0
                                      try clear hcz84_1
                                      try clear hcz84_2
                                      try clear hcz84_3
                                      try clear hcz90_0
                                      try clear hcz90_1
                                      try clear hcz90_2
                                      try clear hcz90_3
                                      try clear hcz92_0
                                      try clear hcz92_1
                                      try clear hcz92_2
                                      try clear hcz92_3
                                      try clear hcz93_0
                                      try clear hcz93_1
                                      try clear hcz93_2
                                      try clear hcz93_3
                                      try clear hfz42_0
                                      try clear hfz42_1
                                      try clear hfz42_2
                                      try clear hfz42_3
                                      try clear hfz44_0
                                      try clear hfz44_1
                                      try clear hfz44_2
                                      try clear hfz44_3
                                      try clear hfz47_0
                                      try clear hfz47_1
                                      try clear hfz47_2
                                      try clear hfz47_3
                                      try clear hfz52_0
                                      try clear hfz52_1
                                      try clear hfz52_2
                                      try clear hfz52_3
                                      try clear hfz54_0
                                      try clear hfz54_1
                                      try clear hfz54_2
                                      try clear hfz54_3
                                      try clear hfz58_0
                                      try clear hfz58_1
                                      try clear hfz58_2
                                      try clear hfz58_3
                                      try clear hfz63_0
                                      try clear hfz63_1
                                      try clear hfz63_2
                                      try clear hfz63_3
                                      try clear hfz65_0
                                      try clear hfz65_1
                                      try clear hfz65_2
                                      try clear hfz65_3
                                      try clear hfz68_0
                                      try clear hfz68_1
                                      try clear hfz68_2
                                      try clear hfz68_3
                                      try clear hfz73_0
                                      try clear hfz73_1
                                      try clear hfz73_2
                                      try clear hfz73_3
                                      try clear hfz75_0
                                      try clear hfz75_1
                                      try clear hfz75_2
                                      try clear hfz75_3
                                      try clear hfz84_0
                                      try clear hfz84_1
                                      try clear hfz84_2
                                      try clear hfz84_3
                                      try clear hfz90_0
                                      try clear hfz90_1
                                      try clear hfz90_2
                                      try clear hfz90_3
                                      try clear hfz92_0
                                      try clear hfz92_1
                                      try clear hfz92_2
                                      try clear hfz92_3
                                      try clear hfz93_0
                                      try clear hfz93_1
                                      try clear hfz93_2
                                      try clear hfz93_3
                                      try clear p2
                                      try clear p6
                                      try clear p64
                                      obtain ⟨x10_5, x147002_5, rfl, HA, HK5, HO_5, BK146, HB⟩ := hrel
                                      cases gk with
                                      | zero => exact absurd HA.out (by simp [jetsamref01_Lex.l2])
                                      | succ k5 =>
                                        have H := HA.out
                                        clear HA
                                        simp only [jetsamref01_Lex.l2] at H
                                        by_cases c95 : x10_5 < ((a0.extract (x6_1 : Int).toNat (x8_7 : Int).toNat).size : Int)
                                        · rw [if_pos c95] at H
                                          have c95b0 : decide (x10_5 < ((a0.extract (x6_1 : Int).toNat (x8_7 : Int).toNat).size : Int)) = true := decide_eq_true c95
                                          try ((have h_ : x8_7 ≤ (a0.size : Int) := by first | exact of_eq_true (by assumption) | exact of_decide_eq_true (by assumption)); (have e_ : (a0.extract (x6_1 : Int).toNat (x8_7 : Int).toNat).size = (x8_7 : Int).toNat - (x6_1 : Int).toNat := by rw [ByteArray.size_extract]; omega); (have c95b0e : decide (x10_5 < (((x8_7 : Int).toNat - (x6_1 : Int).toNat : Nat) : Int)) = true := by rw [← e_]; exact c95b0); clear h_ e_)
                                          have c95b0m : decide (x10_5 < ((min (x8_7 : Int).toNat a0.size - (x6_1 : Int).toNat : Nat) : Int)) = true := by rw [← ByteArray.size_extract]; exact c95b0
                                          clear c95
                                          by_cases c96 : 0 ≤ x10_5
                                          · rw [if_pos c96] at H
                                            have c96b0 : decide (0 ≤ x10_5) = true := decide_eq_true c96
                                            clear c96
                                            replace H := Option.bind_eq_some_iff.mp H
                                            obtain ⟨t156, A980, H⟩ := H
                                            replace H : (if t156 = true then (jetsamref01_Lex.l2 k5 a0 x5_1 x6_1 x8_7 (wrap64 (x10_5 + 1)) 2 (a0.extract (x6_1 : Int).toNat (x8_7 : Int).toNat) (wrap64 ((wrap64 (10 * x147002_5)) + (((bt (a0.extract (x6_1 : Int).toNat (x8_7 : Int).toNat) x10_5) - 48) % 256))) x6_1) else (some (([] : List (S68)), x6_1, 3))) = some (r1, r2, r3) := H
                                            have A98 := Aside0.mk A980
                                            clear A980
                                            by_cases c99 : t156 = true
                                            · subst c99
                                              have H1 : (jetsamref01_Lex.l2 k5 a0 x5_1 x6_1 x8_7 (wrap64 (x10_5 + 1)) 2 (a0.extract (x6_1 : Int).toNat (x8_7 : Int).toNat) (wrap64 ((wrap64 (10 * x147002_5)) + (((bt (a0.extract (x6_1 : Int).toNat (x8_7 : Int).toNat) x10_5) - 48) % 256))) x6_1) = some (r1, r2, r3) := by rw [if_pos rfl] at H; exact H
                                              clear H
                                              have H := H1
                                              clear H1
                                              have H' := Aside0.mk H
                                              clear H
                                              have hcz101_0 : wr.cell? ⟨gb146, 0, none⟩ = some (.int .i64 2) := (blk_cell BK146.out 0).trans rfl
                                              have hcz101_1 : wr.cell? ⟨gb146, 1, none⟩ = some (.string (a0.extract (x6_1 : Int).toNat (x8_7 : Int).toNat)) := (blk_cell BK146.out 1).trans rfl
                                              have hcz101_2 : wr.cell? ⟨gb146, 2, none⟩ = some (.int .i64 x147002_5) := (blk_cell BK146.out 2).trans rfl
                                              have hcz101_3 : wr.cell? ⟨gb146, 3, none⟩ = some (.int .i64 x6_1) := (blk_cell BK146.out 3).trans rfl
                                              have hfz101_0 := blk_frozen BK146.out 0
                                              have hfz101_1 := blk_frozen BK146.out 1
                                              have hfz101_2 := blk_frozen BK146.out 2
                                              have hfz101_3 := blk_frozen BK146.out 3
                                              have p97 : 0 ≤ (x10_5 : Int) := of_decide_eq_true (by first | (with_reducible assumption) | assumption)
                                              have q97 : x10_5 < ((a0.extract (x6_1 : Int).toNat (x8_7 : Int).toNat).size : Int) := of_decide_eq_true (by first | (with_reducible assumption) | assumption)
                                              try ((have h_ : x8_7 ≤ (a0.size : Int) := by first | exact of_eq_true (by assumption) | exact of_decide_eq_true (by assumption)); (have e_ : (a0.extract (x6_1 : Int).toNat (x8_7 : Int).toNat).size = (x8_7 : Int).toNat - (x6_1 : Int).toNat := by rw [ByteArray.size_extract]; omega); (have q97e : (x10_5 < (((x8_7 : Int).toNat - (x6_1 : Int).toNat : Nat) : Int)) = True := eq_true (by rw [← e_]; exact q97)); clear h_ e_)
                                              have q97m : (x10_5 < ((min (x8_7 : Int).toNat a0.size - (x6_1 : Int).toNat : Nat) : Int)) = True := eq_true (by rw [← ByteArray.size_extract]; exact q97)
                                              have hx97 := bt_at (a0.extract (x6_1 : Int).toNat (x8_7 : Int).toNat) x10_5
                                              replace p97 := eq_true p97
                                              replace q97 := eq_true q97
                                              try go_wp2_with (first | ((with_reducible refine gate_callee (f := 39) rfl ?_); refine goesL_ (some 124) rfl rfl Tryd.func39 (by kernel_rfl) rfl #[.int .u8 (bt (a0.extract (x6_1 : Int).toNat (x8_7 : Int).toNat) x10_5)] rfl (by (try simp only [List.map_toArray, List.map_cons, List.map_nil]); first | done | rfl | (simp only [List.length_drop, List.length_take]; rfl)) ?_; (with_reducible refine (jetsamref01_digit.calls (bt (a0.extract (x6_1 : Int).toNat (x8_7 : Int).toNat) x10_5) true _ A98.out).mono ?_); rintro e w' ⟨rfl, ⟨nd, rfl⟩⟩; refine ⟨_, rfl, ?_⟩; (try (rw [drewN_self wr]; generalize hq_ : World.drewN wr _ = wr; have n0_ : Aside0 (Kd.R k68 68 wr w.heap.size (fun k_ => k_ ≠ gb146) u5 x5_1) := ⟨by rw [← hq_]; exact (by (with_reducible repeat (first | apply Kd.R_alloc | apply Kd.R_drewN | apply Kd.R_drew)); exact HO_5.out)⟩; have n1_ : Aside0 (wr.heap[gb146]? = some (.cells #[.int .i64 2, .string (a0.extract (x6_1 : Int).toNat (x8_7 : Int).toNat), .int .i64 x147002_5, .int .i64 x6_1] 68 (0, 0))) := ⟨by rw [← hq_]; exact (by (with_reducible repeat (first | refine blk_drewN ?_ _ | refine blk_drew ?_ | refine blk_alloc ?_ _)); exact BK146.out)⟩; have n2_ : Aside0 (Below w.heap.size w wr) := ⟨by rw [← hq_]; exact (by repeat (first | (with_reducible first | exact HB.out | apply below_alloc | apply pw_below_drewN | apply below_drew1 | refine below_set ?_ GE146.out) | exact HB.out))⟩; clear HO_5 BK146 HB hq_; have HO_5 := n0_; have BK146 := n1_; have HB := n2_; clear n0_ n1_ n2_))))
                                              have n0_ := Aside0.mk (Kd.R_drew HO_5.out)
                                              have n1_ := Aside0.mk (blk_drew BK146.out)
                                              have n2_ := Aside0.mk (below_drew1 HB.out)
                                              clear HO_5
                                              clear BK146
                                              clear HB
                                              have HO_5 := n0_
                                              have BK146 := n1_
                                              have HB := n2_
                                              clear n0_ n1_ n2_
                                              have p100 : 0 ≤ (x10_5 : Int) := of_decide_eq_true (by first | (with_reducible assumption) | assumption)
                                              have q100 : x10_5 < ((a0.extract (x6_1 : Int).toNat (x8_7 : Int).toNat).size : Int) := of_decide_eq_true (by first | (with_reducible assumption) | assumption)
                                              try ((have h_ : x8_7 ≤ (a0.size : Int) := by first | exact of_eq_true (by assumption) | exact of_decide_eq_true (by assumption)); (have e_ : (a0.extract (x6_1 : Int).toNat (x8_7 : Int).toNat).size = (x8_7 : Int).toNat - (x6_1 : Int).toNat := by rw [ByteArray.size_extract]; omega); (have q100e : (x10_5 < (((x8_7 : Int).toNat - (x6_1 : Int).toNat : Nat) : Int)) = True := eq_true (by rw [← e_]; exact q100)); clear h_ e_)
                                              have q100m : (x10_5 < ((min (x8_7 : Int).toNat a0.size - (x6_1 : Int).toNat : Nat) : Int)) = True := eq_true (by rw [← ByteArray.size_extract]; exact q100)
                                              have hx100 := bt_at (a0.extract (x6_1 : Int).toNat (x8_7 : Int).toNat) x10_5
                                              replace p100 := eq_true p100
                                              replace q100 := eq_true q100
                                              refine start_ (n := 12) (S := fun w' => w'.cell? ⟨gb146, 0, none⟩ = some (.int .i64 2) ∧ w'.cell? ⟨gb146, 1, none⟩ = some (.string (a0.extract (x6_1 : Int).toNat (x8_7 : Int).toNat)) ∧ w'.cell? ⟨gb146, 2, none⟩ = some (.int .i64 x147002_5) ∧ w'.cell? ⟨gb146, 3, none⟩ = some (.int .i64 x6_1)) (ds := [11]) #[false, false, false, false, false, false, false, false, false, false, false, false] (by kernel_rfl) rfl rfl ⟨(blk_cell BK146.out 0).trans rfl, (blk_cell BK146.out 1).trans rfl, (blk_cell BK146.out 2).trans rfl, (blk_cell BK146.out 3).trans rfl⟩ (fun hHeld => ?_); refine with_tabW jetsamref01_Lex.tab31 jetsamref01_Lex.bits31 (fun HT_ HW_ => ?_)
                                              generalize wr.drew = w102 at HO_5 BK146 HB hHeld ⊢
                                              refine pure_ (i := 0) (N := some 127) (v := ?_) (a' := ?_) #[true, false, false, false, false, false, false, false, false, false, false, false] rfl rfl (any_of HT_.out (by kernel_rfl)) (fun _ _ _ h => h) (Or.inl ⟨by rfl, ?_⟩) ?_ ?_
                                              rotate_left
                                              · intro w'
                                                go_simp
                                                with_reducible rfl
                                              rotate_left
                                              · simp only [Act.put, List.setIfInBounds_toArray, List.set_cons_zero, List.set_cons_succ, i64_w, i32_w]
                                                rfl
                                              refine pure_ (i := 3) (N := some 130) (v := ?_) (a' := ?_) #[true, false, false, true, false, false, false, false, false, false, false, false] rfl rfl (any_of HT_.out (by kernel_rfl)) (fun _ _ _ h => h) (Or.inl ⟨by rfl, ?_⟩) ?_ ?_
                                              rotate_left
                                              · intro w'
                                                go_simp
                                                with_reducible rfl
                                              rotate_left
                                              · simp only [Act.put, List.setIfInBounds_toArray, List.set_cons_zero, List.set_cons_succ, i64_w, i32_w]
                                                rfl
                                              refine pure_ (i := 5) (N := some 132) (v := ?_) (a' := ?_) #[true, false, false, true, false, true, false, false, false, false, false, false] rfl rfl (any_of HT_.out (by kernel_rfl)) (fun _ _ _ h => h) (Or.inl ⟨by rfl, ?_⟩) ?_ ?_
                                              rotate_left
                                              · intro w'
                                                go_simp
                                                with_reducible rfl
                                              rotate_left
                                              · simp only [Act.put, List.setIfInBounds_toArray, List.set_cons_zero, List.set_cons_succ, i64_w, i32_w]
                                                rfl
                                              refine take_ (i := 1) (N := some 128) (v := ?_) (a' := ?_) #[true, true, false, true, false, true, false, false, false, false, false, false] rfl rfl (take_ofW HT_.out HW_.out (by kernel_rfl)) (fun _ _ _ h => h) (Or.inl ⟨by rfl, ?_⟩) hHeld ?_ ?_
                                              rotate_left
                                              · rintro w' ⟨s0, s1, s2, s3⟩
                                                go_simp
                                                with_reducible rfl
                                              rotate_left
                                              · simp only [Act.put, List.setIfInBounds_toArray, List.set_cons_zero, List.set_cons_succ, i64_w, i32_w]
                                                rfl
                                              refine pure_ (i := 2) (N := some 129) (v := ?_) (a' := ?_) #[true, true, true, true, false, true, false, false, false, false, false, false] rfl rfl (any_of HT_.out (by kernel_rfl)) (fun _ _ _ h => h) (Or.inl ⟨by rfl, ?_⟩) ?_ ?_
                                              rotate_left
                                              · intro w'
                                                go_simp
                                                with_reducible rfl
                                              rotate_left
                                              · simp only [Act.put, List.setIfInBounds_toArray, List.set_cons_zero, List.set_cons_succ, i64_w, i32_w]
                                                rfl
                                              refine take_ (i := 4) (N := some 131) (v := ?_) (a' := ?_) #[true, true, true, true, true, true, false, false, false, false, false, false] rfl rfl (take_ofW HT_.out HW_.out (by kernel_rfl)) (fun _ _ _ h => h) (Or.inl ⟨by rfl, ?_⟩) hHeld ?_ ?_
                                              rotate_left
                                              · rintro w' ⟨s0, s1, s2, s3⟩
                                                go_simp
                                                with_reducible rfl
                                              rotate_left
                                              · simp only [Act.put, List.setIfInBounds_toArray, List.set_cons_zero, List.set_cons_succ, i64_w, i32_w]
                                                rfl
                                              refine take_ (i := 6) (N := some 133) (v := ?_) (a' := ?_) #[true, true, true, true, true, true, true, false, false, false, false, false] rfl rfl (take_ofW HT_.out HW_.out (by kernel_rfl)) (fun _ _ _ h => h) (Or.inl ⟨by rfl, ?_⟩) hHeld ?_ ?_
                                              rotate_left
                                              · rintro w' ⟨s0, s1, s2, s3⟩
                                                go_simp
                                                with_reducible rfl
                                              rotate_left
                                              · simp only [Act.put, List.setIfInBounds_toArray, List.set_cons_zero, List.set_cons_succ, i64_w, i32_w]
                                                rfl
                                              refine pure_ (i := 7) (N := some 134) (v := ?_) (a' := ?_) #[true, true, true, true, true, true, true, true, false, false, false, false] rfl rfl (any_of HT_.out (by kernel_rfl)) (fun _ _ _ h => h) (Or.inl ⟨by rfl, ?_⟩) ?_ ?_
                                              rotate_left
                                              · intro w'
                                                go_simp
                                                with_reducible rfl
                                              rotate_left
                                              · simp only [Act.put, List.setIfInBounds_toArray, List.set_cons_zero, List.set_cons_succ, i64_w, i32_w]
                                                rfl
                                              refine pure_ (i := 8) (N := some 135) (v := ?_) (a' := ?_) #[true, true, true, true, true, true, true, true, true, false, false, false] rfl rfl (any_of HT_.out (by kernel_rfl)) (fun _ _ _ h => h) (Or.inl ⟨by rfl, ?_⟩) ?_ ?_
                                              rotate_left
                                              · intro w'
                                                go_simp
                                                with_reducible rfl
                                              rotate_left
                                              · simp only [Act.put, List.setIfInBounds_toArray, List.set_cons_zero, List.set_cons_succ, i64_w, i32_w]
                                                rfl
                                              refine pure_ (i := 9) (N := some 136) (v := ?_) (a' := ?_) #[true, true, true, true, true, true, true, true, true, true, false, false] rfl rfl (any_of HT_.out (by kernel_rfl)) (fun _ _ _ h => h) (Or.inl ⟨by rfl, ?_⟩) ?_ ?_
                                              rotate_left
                                              · intro w'
                                                go_simp
                                                with_reducible rfl
                                              rotate_left
                                              · simp only [Act.put, List.setIfInBounds_toArray, List.set_cons_zero, List.set_cons_succ, i64_w, i32_w]
                                                rfl
                                              refine pure_ (i := 10) (N := some 137) (v := ?_) (a' := ?_) #[true, true, true, true, true, true, true, true, true, true, true, false] rfl rfl (any_of HT_.out (by kernel_rfl)) (fun _ _ _ h => h) (Or.inl ⟨by rfl, ?_⟩) ?_ ?_
                                              rotate_left
                                              · intro w'
                                                go_simp
                                                with_reducible rfl
                                              rotate_left
                                              · simp only [Act.put, List.setIfInBounds_toArray, List.set_cons_zero, List.set_cons_succ, i64_w, i32_w]
                                                rfl
                                              refine last_ (i := 11) (N := none) #[true, true, true, true, true, true, true, true, true, true, true, true] rfl rfl (one_of HT_.out (by kernel_rfl)) (by decide) (fun K hK => ?_)
                                              have hs103 : w102.cell? ⟨gb146, 2, none⟩ = some (.int .i64 x147002_5) := (blk_cell BK146.out 2).trans rfl
                                              have hfs103 := blk_frozen BK146.out 2
                                              refine skip_ (w1 := ?_) (by rfl) rfl ?_ ?_
                                              rotate_left
                                              · go_simp
                                                rfl
                                              refine hK.out _ _ ?_
                                              clear hK K
                                              refine done_ (done_of HT_.out (by kernel_rfl)) ?_
                                              try go_wp2
                                              go_roundg k5
                                              case measure => have := HK1.out; have := HJ4.out; have := HJ7.out; have := HJ81.out; have := HK5.out; omega
                                              case rel => (try simp only [wrap_u8]); exact ⟨(wrap64 (x10_5 + 1)), (wrap64 ((wrap64 (10 * x147002_5)) + (((bt (a0.extract (x6_1 : Int).toNat (x8_7 : Int).toNat) x10_5) - 48) % 256))), (by first | rfl | (simp; done) | (simp [*]; done)), H', ⟨by have := HK1.out; have := HJ4.out; have := HJ7.out; have := HJ81.out; have := HK5.out; omega⟩, ⟨by (with_reducible repeat (first | apply Kd.R_alloc | apply Kd.R_drewN | apply Kd.R_drew)); exact Kd.R_mono (Kd.R_far (p := ⟨gb146, 2, none⟩) (Kd.R_mono HO_5.out (fun k_ hk => (⟨hk, hk⟩ : _ ∧ k_ ≠ gb146))) (fun _ hk => hk.2) (.int .i64 (wrap64 ((wrap64 (10 * x147002_5)) + (((bt (a0.extract (x6_1 : Int).toNat (x8_7 : Int).toNat) x10_5) - 48) % 256))))) (fun _ hk => hk.1)⟩, ⟨by (with_reducible repeat (first | refine blk_drewN ?_ _ | refine blk_drew ?_ | refine blk_alloc ?_ _)); refine blk_put (cs := #[.int .i64 2, .string (a0.extract (x6_1 : Int).toNat (x8_7 : Int).toNat), .int .i64 x147002_5, .int .i64 x6_1]) ?_ 2 _ rfl; (with_reducible repeat (first | refine blk_drewN ?_ _ | refine blk_drew ?_ | refine blk_alloc ?_ _)); exact BK146.out⟩, ⟨by repeat (first | (with_reducible first | exact HB.out | apply below_alloc | apply pw_below_drewN | apply below_drew1 | refine below_set ?_ GE146.out) | exact HB.out)⟩⟩
                                            · replace c99 := Bool.eq_false_iff.mpr c99
                                              subst c99
                                              have H1 : (some (([] : List (S68)), x6_1, 3)) = some (r1, r2, r3) := by rw [if_neg (show ¬ (false = true) by decide)] at H; exact H
                                              clear H
                                              have H := H1
                                              clear H1
                                              simp only [Option.some.injEq, Prod.mk.injEq] at H
                                              obtain ⟨rfl, rfl, rfl⟩ := H
                                              have hcz104_0 : wr.cell? ⟨gb146, 0, none⟩ = some (.int .i64 2) := (blk_cell BK146.out 0).trans rfl
                                              have hcz104_1 : wr.cell? ⟨gb146, 1, none⟩ = some (.string (a0.extract (x6_1 : Int).toNat (x8_7 : Int).toNat)) := (blk_cell BK146.out 1).trans rfl
                                              have hcz104_2 : wr.cell? ⟨gb146, 2, none⟩ = some (.int .i64 x147002_5) := (blk_cell BK146.out 2).trans rfl
                                              have hcz104_3 : wr.cell? ⟨gb146, 3, none⟩ = some (.int .i64 x6_1) := (blk_cell BK146.out 3).trans rfl
                                              have hfz104_0 := blk_frozen BK146.out 0
                                              have hfz104_1 := blk_frozen BK146.out 1
                                              have hfz104_2 := blk_frozen BK146.out 2
                                              have hfz104_3 := blk_frozen BK146.out 3
                                              have p97 : 0 ≤ (x10_5 : Int) := of_decide_eq_true (by first | (with_reducible assumption) | assumption)
                                              have q97 : x10_5 < ((a0.extract (x6_1 : Int).toNat (x8_7 : Int).toNat).size : Int) := of_decide_eq_true (by first | (with_reducible assumption) | assumption)
                                              try ((have h_ : x8_7 ≤ (a0.size : Int) := by first | exact of_eq_true (by assumption) | exact of_decide_eq_true (by assumption)); (have e_ : (a0.extract (x6_1 : Int).toNat (x8_7 : Int).toNat).size = (x8_7 : Int).toNat - (x6_1 : Int).toNat := by rw [ByteArray.size_extract]; omega); (have q97e : (x10_5 < (((x8_7 : Int).toNat - (x6_1 : Int).toNat : Nat) : Int)) = True := eq_true (by rw [← e_]; exact q97)); clear h_ e_)
                                              have q97m : (x10_5 < ((min (x8_7 : Int).toNat a0.size - (x6_1 : Int).toNat : Nat) : Int)) = True := eq_true (by rw [← ByteArray.size_extract]; exact q97)
                                              have hx97 := bt_at (a0.extract (x6_1 : Int).toNat (x8_7 : Int).toNat) x10_5
                                              replace p97 := eq_true p97
                                              replace q97 := eq_true q97
                                              go_wp2_with (first | ((with_reducible refine gate_callee (f := 39) rfl ?_); refine goesL_ (some 124) rfl rfl Tryd.func39 (by kernel_rfl) rfl #[.int .u8 (bt (a0.extract (x6_1 : Int).toNat (x8_7 : Int).toNat) x10_5)] rfl (by (try simp only [List.map_toArray, List.map_cons, List.map_nil]); first | done | rfl | (simp only [List.length_drop, List.length_take]; rfl)) ?_; (with_reducible refine (jetsamref01_digit.calls (bt (a0.extract (x6_1 : Int).toNat (x8_7 : Int).toNat) x10_5) false _ A98.out).mono ?_); rintro e w' ⟨rfl, ⟨nd, rfl⟩⟩; refine ⟨_, rfl, ?_⟩))
                                              go_ret3
                                              exact ⟨_, by first | rfl | (simp [errW_none, errW_some] <;> rfl) | (simp [*, errW_none, errW_some] <;> rfl), by first | exact Kd.R_nil _ _ _ _ _ | exact Kd.N_nil _ _ _ _ _ | exact Kd.V_nil _ _ _ _ _ | exact Kd.Q_nil _ _ _ _ _ | exact Kd.S_nil _ _ _ _ _, by repeat (first | (with_reducible first | exact HB.out | apply below_alloc | apply pw_below_drewN | apply below_drew1 | refine below_set ?_ GE146.out) | exact HB.out)⟩
                                          · rw [if_neg c96] at H
                                            exact absurd H (by simp)
                                        · rw [if_neg c95] at H
                                          have c95b0 : decide (x10_5 < ((a0.extract (x6_1 : Int).toNat (x8_7 : Int).toNat).size : Int)) = false := decide_eq_false c95
                                          try ((have h_ : x8_7 ≤ (a0.size : Int) := by first | exact of_eq_true (by assumption) | exact of_decide_eq_true (by assumption)); (have e_ : (a0.extract (x6_1 : Int).toNat (x8_7 : Int).toNat).size = (x8_7 : Int).toNat - (x6_1 : Int).toNat := by rw [ByteArray.size_extract]; omega); (have c95b0e : decide (x10_5 < (((x8_7 : Int).toNat - (x6_1 : Int).toNat : Nat) : Int)) = false := by rw [← e_]; exact c95b0); clear h_ e_)
                                          have c95b0m : decide (x10_5 < ((min (x8_7 : Int).toNat a0.size - (x6_1 : Int).toNat : Nat) : Int)) = false := by rw [← ByteArray.size_extract]; exact c95b0
                                          clear c95
                                          by_cases c105 : x147002_5 > 2147483647
                                          · rw [if_pos c105] at H
                                            have c105b0 : decide (2147483647 < x147002_5) = true := decide_eq_true c105
                                            clear c105
                                            simp only [Option.some.injEq, Prod.mk.injEq] at H
                                            obtain ⟨rfl, rfl, rfl⟩ := H
                                            have hcz106_0 : wr.cell? ⟨gb146, 0, none⟩ = some (.int .i64 2) := (blk_cell BK146.out 0).trans rfl
                                            have hcz106_1 : wr.cell? ⟨gb146, 1, none⟩ = some (.string (a0.extract (x6_1 : Int).toNat (x8_7 : Int).toNat)) := (blk_cell BK146.out 1).trans rfl
                                            have hcz106_2 : wr.cell? ⟨gb146, 2, none⟩ = some (.int .i64 x147002_5) := (blk_cell BK146.out 2).trans rfl
                                            have hcz106_3 : wr.cell? ⟨gb146, 3, none⟩ = some (.int .i64 x6_1) := (blk_cell BK146.out 3).trans rfl
                                            have hfz106_0 := blk_frozen BK146.out 0
                                            have hfz106_1 := blk_frozen BK146.out 1
                                            have hfz106_2 := blk_frozen BK146.out 2
                                            have hfz106_3 := blk_frozen BK146.out 3
                                            go_wp2
                                            go_ret3
                                            exact ⟨_, by first | rfl | (simp [errW_none, errW_some] <;> rfl) | (simp [*, errW_none, errW_some] <;> rfl), by first | exact Kd.R_nil _ _ _ _ _ | exact Kd.N_nil _ _ _ _ _ | exact Kd.V_nil _ _ _ _ _ | exact Kd.Q_nil _ _ _ _ _ | exact Kd.S_nil _ _ _ _ _, by repeat (first | (with_reducible first | exact HB.out | apply below_alloc | apply pw_below_drewN | apply below_drew1 | refine below_set ?_ GE146.out) | exact HB.out)⟩
                                          · rw [if_neg c105] at H
                                            have c105b0 : decide (2147483647 < x147002_5) = false := decide_eq_false c105
                                            clear c105
                                            by_cases c107 : x5_1.length < 3518437208883
                                            · rw [if_pos c107] at H
                                              have LMc107 := Aside0.mk c107
                                              clear c107
                                              obtain ⟨y157, hy157⟩ : ∃ y_ : List (S68), y_ = (x5_1 ++ [(⟨2, (a0.extract (x6_1 : Int).toNat (x8_7 : Int).toNat), x147002_5, x6_1⟩ : S68)]) := ⟨_, rfl⟩
                                              replace H : (jetsamref01_Lex.l0 k5 a0 y157 x8_7) = some (r1, r2, r3) := by first | (rw [hy157]; with_reducible exact H) | (have H2_ := (Option.bind_some _ _).symm.trans H; rw [hy157]; with_reducible exact H2_) | (have H2_ := (Option.bind_some _ _).symm.trans H; with_reducible exact H2_) | with_reducible exact H | (rw [hy157]; exact H) | exact H
                                              have Ny157 := Aside0.mk hy157
                                              clear hy157
                                              have H' := Aside0.mk H
                                              clear H
                                              have hcz108_0 : wr.cell? ⟨gb146, 0, none⟩ = some (.int .i64 2) := (blk_cell BK146.out 0).trans rfl
                                              have hcz108_1 : wr.cell? ⟨gb146, 1, none⟩ = some (.string (a0.extract (x6_1 : Int).toNat (x8_7 : Int).toNat)) := (blk_cell BK146.out 1).trans rfl
                                              have hcz108_2 : wr.cell? ⟨gb146, 2, none⟩ = some (.int .i64 x147002_5) := (blk_cell BK146.out 2).trans rfl
                                              have hcz108_3 : wr.cell? ⟨gb146, 3, none⟩ = some (.int .i64 x6_1) := (blk_cell BK146.out 3).trans rfl
                                              have hfz108_0 := blk_frozen BK146.out 0
                                              have hfz108_1 := blk_frozen BK146.out 1
                                              have hfz108_2 := blk_frozen BK146.out 2
                                              have hfz108_3 := blk_frozen BK146.out 3
                                              go_wp2_with (first | ((with_reducible refine gate_builtin (b := .append) (xs := #[.tmp 142, .tmp 144]) rfl ?_); (try (refine gate_guard (by rfl) ?_; dsimp only)); at_builtin; refine Kd.R_append k68 (w0 := w) w.heap.size rfl (.tmp 142) (.tmp 144) 63 68 (.agg #[(.int .i64 0), (.string ⟨#[]⟩), (.int .i64 0), (.int .i64 0)]) 40 rfl Tryd.underlying63 info68 rfl (by decide) (by omega) u5 x5_1 (⟨2, (a0.extract (x6_1 : Int).toNat (x8_7 : Int).toNat), x147002_5, x6_1⟩ : S68) [.int .i64 2, .string (a0.extract (x6_1 : Int).toNat (x8_7 : Int).toNat), .int .i64 x147002_5, .int .i64 x6_1] (fun k_ => k_ ≠ gb146) (fun _ => False) rfl rfl ?aP (fun _ hk => hk.elim) ?aF ?aO ?aB ?aS ?aL ?_; (case aP => exact k68_mkM _ _ _ (⟨2, (a0.extract (x6_1 : Int).toNat (x8_7 : Int).toNat), x147002_5, x6_1⟩ : S68)); (case aB => exact (by repeat (first | (with_reducible first | exact HB.out | apply below_alloc | apply pw_below_drewN | apply below_drew1 | refine below_set ?_ GE146.out) | exact HB.out))); (case aF => exact (fun k_ hk => Kd.freshB (g := gb146) (o := .cells #[.int .i64 2, .string (a0.extract (x6_1 : Int).toNat (x8_7 : Int).toNat), .int .i64 x147002_5, .int .i64 x6_1] 68 (0, 0)) (by (with_reducible repeat (first | refine blk_drewN ?_ _ | refine blk_drew ?_ | refine blk_alloc ?_ _)); exact BK146.out) k_ hk)); (case aO => exact (by (with_reducible repeat (first | apply Kd.R_alloc | apply Kd.R_drewN | apply Kd.R_drew)); exact HO_5.out)); (case aS => exact (below_size (by repeat (first | (with_reducible first | exact HB.out | apply below_alloc | apply pw_below_drewN | apply below_drew1 | refine below_set ?_ GE146.out) | exact HB.out)))); (case aL => have := LMc107.out; omega); intro v158 w109 ho hb hg hat; rw [← Ny157.out] at ho; have n0_ := Aside0.mk (blk_grown (g := gb146) (o := .cells #[.int .i64 2, .string (a0.extract (x6_1 : Int).toNat (x8_7 : Int).toNat), .int .i64 x147002_5, .int .i64 x6_1] 68 (0, 0)) (by (with_reducible repeat (first | refine blk_drewN ?_ _ | refine blk_drew ?_ | refine blk_alloc ?_ _)); exact BK146.out) hg (Kd.R_away HO_5.out (fun _ hk => hk))); have n1_ := Aside0.mk (hb); have n2_ := Aside0.mk (ho); clear BK146; clear HB; clear HO_5; have BK146 := n0_; have HB := n1_; have HO159 := n2_; clear n0_ n1_ n2_; clear ho hb hg hat))
                                              go_roundg k5
                                              case measure => have := HK1.out; have := HJ4.out; have := HJ7.out; have := HJ81.out; have := HK5.out; omega
                                              case rel => exact ⟨(y157), (x8_7), (by first | rfl | (simp; done) | (simp [*]; done)), H', ⟨by have := HK1.out; have := HJ4.out; have := HJ7.out; have := HJ81.out; have := HK5.out; omega⟩, ⟨by (with_reducible repeat (first | apply Kd.R_alloc | apply Kd.R_drewN | apply Kd.R_drew)); exact Kd.R_mono HO159.out (fun _ hk => trivial)⟩, ⟨by repeat (first | (with_reducible first | exact HB.out | apply below_alloc | apply pw_below_drewN | apply below_drew1 | refine below_set ?_ GE146.out) | exact HB.out)⟩⟩
                                            · rw [if_neg c107] at H
                                              exact absurd H (by simp)
                            · rw [if_neg c81] at H
                              exact absurd H (by simp)
                          · rw [if_neg c80] at H
                            exact absurd H (by simp)
                        · rw [if_neg c79] at H
                          exact absurd H (by simp)
                      · replace c78 := Bool.eq_false_iff.mpr c78
                        subst c78
                        have H1 : ((jetsamref01_sign.f kj7 a0 x6_1).bind fun t160 => (if t160 = 0 then (some (([] : List (S68)), x6_1, 2)) else (if 0 ≤ x6_1 then (if x6_1 ≤ (wrap64 (x6_1 + t160)) then (if (wrap64 (x6_1 + t160)) ≤ (a0.size : Int) then (if x5_1.length < 3518437208883 then (jetsamref01_Lex.l0 kj7 a0 (x5_1 ++ [(⟨3, a0.extract (x6_1 : Int).toNat ((wrap64 (x6_1 + t160)) : Int).toNat, 0, x6_1⟩ : S68)]) (wrap64 (x6_1 + t160))) else (none)) else (none)) else (none)) else (none)))) = some (r1, r2, r3) := by rw [if_neg (show ¬ (false = true) by decide)] at H; exact H
                        clear H
                        have H := H1
                        clear H1
                        replace H := Option.bind_eq_some_iff.mp H
                        obtain ⟨t160, A1100, H⟩ := H
                        replace H : (if t160 = 0 then (some (([] : List (S68)), x6_1, 2)) else (if 0 ≤ x6_1 then (if x6_1 ≤ (wrap64 (x6_1 + t160)) then (if (wrap64 (x6_1 + t160)) ≤ (a0.size : Int) then (if x5_1.length < 3518437208883 then (jetsamref01_Lex.l0 kj7 a0 (x5_1 ++ [(⟨3, a0.extract (x6_1 : Int).toNat ((wrap64 (x6_1 + t160)) : Int).toNat, 0, x6_1⟩ : S68)]) (wrap64 (x6_1 + t160))) else (none)) else (none)) else (none)) else (none))) = some (r1, r2, r3) := H
                        have A110 := Aside0.mk A1100
                        clear A1100
                        by_cases c111 : t160 = 0
                        · rw [if_pos c111] at H
                          have c111b0 : (t160 == 0) = true := beq_iff_eq.mpr c111
                          have c111b1 : (t160 != 0) = false := bne_eq_false_iff_eq.mpr c111
                          clear c111
                          simp only [Option.some.injEq, Prod.mk.injEq] at H
                          obtain ⟨rfl, rfl, rfl⟩ := H
                          go_wp2_with (first | ((with_reducible refine gate_dst (N := 9) rfl ?_); (try (refine gate_guard (by rfl) ?_; dsimp only)); refine box_event ?hg (N := 9) ?hd (cs := #[.int .i64 0, .string (⟨#[]⟩ : ByteArray), .int .i64 0, .int .i64 0]) (t := 68) ?hr ?_; (case hd => rfl); (case hg => rfl); (case hr => first | (go_simp; done) | (go_simp; rfl)); intro gb146 hg w112 hbox hb; have n0_ := Aside0.mk (Kd.R_below (Kd.R_elderB (by (with_reducible repeat (first | apply Kd.R_alloc | apply Kd.R_drewN | apply Kd.R_drew)); exact HO_5.out) gb146 (Nat.le_of_eq hg.symm)) hb); have n1_ := Aside0.mk (below_step (by repeat (first | (with_reducible first | exact HB.out | apply below_alloc | apply pw_below_drewN | apply below_drew1) | exact HB.out)) hb); have n2_ := Aside0.mk (hbox); have n3_ := Aside0.mk ((by rw [hg]; exact (below_size (by repeat (first | (with_reducible first | exact HB.out | apply below_alloc | apply pw_below_drewN | apply below_drew1) | exact HB.out))) : w.heap.size ≤ gb146)); have n4_ := Aside0.mk ((by rw [hg]; exact (below_size (by repeat (first | (with_reducible first | exact HB.out | apply below_alloc | apply pw_below_drewN | apply below_drew1) | exact HB.out))) : w.heap.size ≤ gb146)); clear HO_5; clear HB; have HO_5 := n0_; have HB := n1_; have BK146 := n2_; have GW146 := n3_; have GE146 := n4_; clear n0_ n1_ n2_ n3_ n4_; clear hb hbox hg; have hcz113_0 : w112.cell? ⟨gb146, 0, none⟩ = some (.int .i64 0) := (blk_cell BK146.out 0).trans rfl; have hcz113_1 : w112.cell? ⟨gb146, 1, none⟩ = some (.string (⟨#[]⟩ : ByteArray)) := (blk_cell BK146.out 1).trans rfl; have hcz113_2 : w112.cell? ⟨gb146, 2, none⟩ = some (.int .i64 0) := (blk_cell BK146.out 2).trans rfl; have hcz113_3 : w112.cell? ⟨gb146, 3, none⟩ = some (.int .i64 0) := (blk_cell BK146.out 3).trans rfl; have hfz113_0 := blk_frozen BK146.out 0; have hfz113_1 := blk_frozen BK146.out 1; have hfz113_2 := blk_frozen BK146.out 2; have hfz113_3 := blk_frozen BK146.out 3) | ((with_reducible refine gate_callee (f := 38) rfl ?_); refine goesL_ (some 73) rfl rfl Tryd.func38 (by kernel_rfl) rfl #[.int .u8 (bt a0 x6_1)] rfl (by (try simp only [List.map_toArray, List.map_cons, List.map_nil]); first | done | rfl | (simp only [List.length_drop, List.length_take]; rfl)) ?_; (with_reducible refine (jetsamref01_letter.calls (bt a0 x6_1) false _ A28.out).mono ?_); rintro e w' ⟨rfl, ⟨nd, rfl⟩⟩; refine ⟨_, rfl, ?_⟩) | ((with_reducible refine gate_callee (f := 39) rfl ?_); refine goesL_ (some 91) rfl rfl Tryd.func39 (by kernel_rfl) rfl #[.int .u8 (bt a0 x6_1)] rfl (by (try simp only [List.map_toArray, List.map_cons, List.map_nil]); first | done | rfl | (simp only [List.length_drop, List.length_take]; rfl)) ?_; (with_reducible refine (jetsamref01_digit.calls (bt a0 x6_1) false _ A77.out).mono ?_); rintro e w' ⟨rfl, ⟨nd, rfl⟩⟩; refine ⟨_, rfl, ?_⟩) | ((with_reducible refine gate_callee (f := 40) rfl ?_); refine goesL_ (some 58) rfl rfl Tryd.func40 (by kernel_rfl) rfl #[.string a0, .int .i64 x6_1] rfl (by (try simp only [List.map_toArray, List.map_cons, List.map_nil]); first | done | rfl | (simp only [List.length_drop, List.length_take]; rfl)) ?_; (with_reducible refine (jetsamref01_sign.calls kj7 a0 x6_1 t160 _ A110.out).mono ?_); rintro e w114 ⟨rfl, hb⟩; refine ⟨_, rfl, ?_⟩; have n0_ := Aside0.mk (Kd.R_below (by (with_reducible repeat (first | apply Kd.R_alloc | apply Kd.R_drewN | apply Kd.R_drew)); exact (Kd.R_mono (Kd.R_far (p := ⟨gb146, 3, none⟩) (Kd.R_far (p := ⟨gb146, 2, none⟩) (Kd.R_far (p := ⟨gb146, 1, none⟩) (Kd.R_far (p := ⟨gb146, 0, none⟩) (Kd.R_mono HO_5.out (fun k_ hk => (⟨hk, hk.2⟩ : _ ∧ k_ ≠ gb146))) (fun _ hk => hk.2) (.int .i64 0)) (fun _ hk => hk.2) (.string (⟨#[]⟩ : ByteArray))) (fun _ hk => hk.2) (.int .i64 0)) (fun _ hk => hk.2) (.int .i64 x6_1)) (fun _ h_ => h_.1))) hb); have n1_ := Aside0.mk (blk_below (g := gb146) (o := .cells #[.int .i64 0, .string (⟨#[]⟩ : ByteArray), .int .i64 0, .int .i64 x6_1] 68 (0, 0)) (by (with_reducible repeat (first | refine blk_drewN ?_ _ | refine blk_drew ?_ | refine blk_alloc ?_ _)); refine blk_put (cs := #[.int .i64 0, .string (⟨#[]⟩ : ByteArray), .int .i64 0, .int .i64 0]) ?_ 3 _ rfl; (with_reducible repeat (first | refine blk_drewN ?_ _ | refine blk_drew ?_ | refine blk_alloc ?_ _)); refine blk_put (cs := #[.int .i64 0, .string (⟨#[]⟩ : ByteArray), .int .i64 0, .int .i64 0]) ?_ 2 _ rfl; (with_reducible repeat (first | refine blk_drewN ?_ _ | refine blk_drew ?_ | refine blk_alloc ?_ _)); refine blk_put (cs := #[.int .i64 0, .string (⟨#[]⟩ : ByteArray), .int .i64 0, .int .i64 0]) ?_ 1 _ rfl; (with_reducible repeat (first | refine blk_drewN ?_ _ | refine blk_drew ?_ | refine blk_alloc ?_ _)); refine blk_put (cs := #[.int .i64 0, .string (⟨#[]⟩ : ByteArray), .int .i64 0, .int .i64 0]) ?_ 0 _ rfl; (with_reducible repeat (first | refine blk_drewN ?_ _ | refine blk_drew ?_ | refine blk_alloc ?_ _)); exact BK146.out) hb); have n2_ := Aside0.mk (below_step (by repeat (first | (with_reducible first | exact HB.out | apply below_alloc | apply pw_below_drewN | apply below_drew1 | refine below_set ?_ GE146.out) | exact HB.out)) hb); clear HO_5; clear BK146; clear HB; have HO_5 := n0_; have BK146 := n1_; have HB := n2_; clear n0_ n1_ n2_; (try clear hb); (try clear hb2); (try clear hk); (try clear hi)))
                          go_ret3
                          exact ⟨_, by first | rfl | (simp [errW_none, errW_some] <;> rfl) | (simp [*, errW_none, errW_some] <;> rfl), by first | exact Kd.R_nil _ _ _ _ _ | exact Kd.N_nil _ _ _ _ _ | exact Kd.V_nil _ _ _ _ _ | exact Kd.Q_nil _ _ _ _ _ | exact Kd.S_nil _ _ _ _ _, by repeat (first | (with_reducible first | exact HB.out | apply below_alloc | apply pw_below_drewN | apply below_drew1 | refine below_set ?_ GE146.out) | exact HB.out)⟩
                        · rw [if_neg c111] at H
                          have c111b0 : (t160 == 0) = false := beq_eq_false_iff_ne.mpr c111
                          have c111b1 : (t160 != 0) = true := bne_iff_ne.mpr c111
                          by_cases c115 : 0 ≤ x6_1
                          · rw [if_pos c115] at H
                            have c115b0 := eq_true c115
                            have c115b1 : decide (0 ≤ x6_1) = true := decide_eq_true c115
                            clear c115
                            by_cases c116 : x6_1 ≤ (wrap64 (x6_1 + t160))
                            · rw [if_pos c116] at H
                              have c116b0 := eq_true c116
                              have c116b1 : decide (x6_1 ≤ (wrap64 (x6_1 + t160))) = true := decide_eq_true c116
                              by_cases c117 : (wrap64 (x6_1 + t160)) ≤ (a0.size : Int)
                              · rw [if_pos c117] at H
                                have c117b0 := eq_true c117
                                have c117b1 : decide ((wrap64 (x6_1 + t160)) ≤ (a0.size : Int)) = true := decide_eq_true c117
                                by_cases c118 : x5_1.length < 3518437208883
                                · rw [if_pos c118] at H
                                  have LMc118 := Aside0.mk c118
                                  clear c118
                                  obtain ⟨y161, hy161⟩ : ∃ y_ : List (S68), y_ = (x5_1 ++ [(⟨3, a0.extract (x6_1 : Int).toNat ((wrap64 (x6_1 + t160)) : Int).toNat, 0, x6_1⟩ : S68)]) := ⟨_, rfl⟩
                                  replace H : (jetsamref01_Lex.l0 kj7 a0 y161 (wrap64 (x6_1 + t160))) = some (r1, r2, r3) := by first | (rw [hy161]; with_reducible exact H) | (have H2_ := (Option.bind_some _ _).symm.trans H; rw [hy161]; with_reducible exact H2_) | (have H2_ := (Option.bind_some _ _).symm.trans H; with_reducible exact H2_) | with_reducible exact H | (rw [hy161]; exact H) | exact H
                                  have Ny161 := Aside0.mk hy161
                                  clear hy161
                                  have H' := Aside0.mk H
                                  clear H
                                  try go_wp2_with (first | ((with_reducible refine gate_dst (N := 9) rfl ?_); (try (refine gate_guard (by rfl) ?_; dsimp only)); refine box_event ?hg (N := 9) ?hd (cs := #[.int .i64 0, .string (⟨#[]⟩ : ByteArray), .int .i64 0, .int .i64 0]) (t := 68) ?hr ?_; (case hd => rfl); (case hg => rfl); (case hr => first | (go_simp; done) | (go_simp; rfl)); intro gb146 hg w119 hbox hb; have n0_ := Aside0.mk (Kd.R_below (Kd.R_elderB (by (with_reducible repeat (first | apply Kd.R_alloc | apply Kd.R_drewN | apply Kd.R_drew)); exact HO_5.out) gb146 (Nat.le_of_eq hg.symm)) hb); have n1_ := Aside0.mk (below_step (by repeat (first | (with_reducible first | exact HB.out | apply below_alloc | apply pw_below_drewN | apply below_drew1) | exact HB.out)) hb); have n2_ := Aside0.mk (hbox); have n3_ := Aside0.mk ((by rw [hg]; exact (below_size (by repeat (first | (with_reducible first | exact HB.out | apply below_alloc | apply pw_below_drewN | apply below_drew1) | exact HB.out))) : w.heap.size ≤ gb146)); have n4_ := Aside0.mk ((by rw [hg]; exact (below_size (by repeat (first | (with_reducible first | exact HB.out | apply below_alloc | apply pw_below_drewN | apply below_drew1) | exact HB.out))) : w.heap.size ≤ gb146)); clear HO_5; clear HB; have HO_5 := n0_; have HB := n1_; have BK146 := n2_; have GW146 := n3_; have GE146 := n4_; clear n0_ n1_ n2_ n3_ n4_; clear hb hbox hg; have hcz120_0 : w119.cell? ⟨gb146, 0, none⟩ = some (.int .i64 0) := (blk_cell BK146.out 0).trans rfl; have hcz120_1 : w119.cell? ⟨gb146, 1, none⟩ = some (.string (⟨#[]⟩ : ByteArray)) := (blk_cell BK146.out 1).trans rfl; have hcz120_2 : w119.cell? ⟨gb146, 2, none⟩ = some (.int .i64 0) := (blk_cell BK146.out 2).trans rfl; have hcz120_3 : w119.cell? ⟨gb146, 3, none⟩ = some (.int .i64 0) := (blk_cell BK146.out 3).trans rfl; have hfz120_0 := blk_frozen BK146.out 0; have hfz120_1 := blk_frozen BK146.out 1; have hfz120_2 := blk_frozen BK146.out 2; have hfz120_3 := blk_frozen BK146.out 3) | ((with_reducible refine gate_callee (f := 38) rfl ?_); refine goesL_ (some 73) rfl rfl Tryd.func38 (by kernel_rfl) rfl #[.int .u8 (bt a0 x6_1)] rfl (by (try simp only [List.map_toArray, List.map_cons, List.map_nil]); first | done | rfl | (simp only [List.length_drop, List.length_take]; rfl)) ?_; (with_reducible refine (jetsamref01_letter.calls (bt a0 x6_1) false _ A28.out).mono ?_); rintro e w' ⟨rfl, ⟨nd, rfl⟩⟩; refine ⟨_, rfl, ?_⟩) | ((with_reducible refine gate_callee (f := 39) rfl ?_); refine goesL_ (some 91) rfl rfl Tryd.func39 (by kernel_rfl) rfl #[.int .u8 (bt a0 x6_1)] rfl (by (try simp only [List.map_toArray, List.map_cons, List.map_nil]); first | done | rfl | (simp only [List.length_drop, List.length_take]; rfl)) ?_; (with_reducible refine (jetsamref01_digit.calls (bt a0 x6_1) false _ A77.out).mono ?_); rintro e w' ⟨rfl, ⟨nd, rfl⟩⟩; refine ⟨_, rfl, ?_⟩) | ((with_reducible refine gate_callee (f := 40) rfl ?_); refine goesL_ (some 58) rfl rfl Tryd.func40 (by kernel_rfl) rfl #[.string a0, .int .i64 x6_1] rfl (by (try simp only [List.map_toArray, List.map_cons, List.map_nil]); first | done | rfl | (simp only [List.length_drop, List.length_take]; rfl)) ?_; (with_reducible refine (jetsamref01_sign.calls kj7 a0 x6_1 t160 _ A110.out).mono ?_); rintro e w121 ⟨rfl, hb⟩; refine ⟨_, rfl, ?_⟩; have n0_ := Aside0.mk (Kd.R_below (by (with_reducible repeat (first | apply Kd.R_alloc | apply Kd.R_drewN | apply Kd.R_drew)); exact (Kd.R_mono (Kd.R_far (p := ⟨gb146, 3, none⟩) (Kd.R_far (p := ⟨gb146, 2, none⟩) (Kd.R_far (p := ⟨gb146, 1, none⟩) (Kd.R_far (p := ⟨gb146, 0, none⟩) (Kd.R_mono HO_5.out (fun k_ hk => (⟨hk, hk.2⟩ : _ ∧ k_ ≠ gb146))) (fun _ hk => hk.2) (.int .i64 0)) (fun _ hk => hk.2) (.string (⟨#[]⟩ : ByteArray))) (fun _ hk => hk.2) (.int .i64 0)) (fun _ hk => hk.2) (.int .i64 x6_1)) (fun _ h_ => h_.1))) hb); have n1_ := Aside0.mk (blk_below (g := gb146) (o := .cells #[.int .i64 0, .string (⟨#[]⟩ : ByteArray), .int .i64 0, .int .i64 x6_1] 68 (0, 0)) (by (with_reducible repeat (first | refine blk_drewN ?_ _ | refine blk_drew ?_ | refine blk_alloc ?_ _)); refine blk_put (cs := #[.int .i64 0, .string (⟨#[]⟩ : ByteArray), .int .i64 0, .int .i64 0]) ?_ 3 _ rfl; (with_reducible repeat (first | refine blk_drewN ?_ _ | refine blk_drew ?_ | refine blk_alloc ?_ _)); refine blk_put (cs := #[.int .i64 0, .string (⟨#[]⟩ : ByteArray), .int .i64 0, .int .i64 0]) ?_ 2 _ rfl; (with_reducible repeat (first | refine blk_drewN ?_ _ | refine blk_drew ?_ | refine blk_alloc ?_ _)); refine blk_put (cs := #[.int .i64 0, .string (⟨#[]⟩ : ByteArray), .int .i64 0, .int .i64 0]) ?_ 1 _ rfl; (with_reducible repeat (first | refine blk_drewN ?_ _ | refine blk_drew ?_ | refine blk_alloc ?_ _)); refine blk_put (cs := #[.int .i64 0, .string (⟨#[]⟩ : ByteArray), .int .i64 0, .int .i64 0]) ?_ 0 _ rfl; (with_reducible repeat (first | refine blk_drewN ?_ _ | refine blk_drew ?_ | refine blk_alloc ?_ _)); exact BK146.out) hb); have n2_ := Aside0.mk (below_step (by repeat (first | (with_reducible first | exact HB.out | apply below_alloc | apply pw_below_drewN | apply below_drew1 | refine below_set ?_ GE146.out) | exact HB.out)) hb); clear HO_5; clear BK146; clear HB; have HO_5 := n0_; have BK146 := n1_; have HB := n2_; clear n0_ n1_ n2_; (try clear hb); (try clear hb2); (try clear hk); (try clear hi)))
                                  have n0_ := Aside0.mk (Kd.R_drew HO_5.out)
                                  have n1_ := Aside0.mk (blk_drew BK146.out)
                                  have n2_ := Aside0.mk (below_drew1 HB.out)
                                  clear HO_5
                                  clear BK146
                                  clear HB
                                  have HO_5 := n0_
                                  have BK146 := n1_
                                  have HB := n2_
                                  clear n0_ n1_ n2_
                                  refine start_ (n := 8) (S := fun w' => True) (ds := []) #[false, false, false, false, false, false, false, false] (by kernel_rfl) rfl rfl trivial (fun hHeld => ?_); refine with_tabW jetsamref01_Lex.tab15 jetsamref01_Lex.bits15 (fun HT_ HW_ => ?_)
                                  generalize w121.drew = w122 at HO_5 BK146 HB hHeld ⊢
                                  refine pure_ (i := 0) (N := some 65) (v := ?_) (a' := ?_) #[true, false, false, false, false, false, false, false] rfl rfl (any_of HT_.out (by kernel_rfl)) (fun _ _ _ h => h) (Or.inl ⟨by rfl, ?_⟩) ?_ ?_
                                  rotate_left
                                  · intro w'
                                    go_simp
                                    with_reducible rfl
                                  rotate_left
                                  · simp only [Act.put, List.setIfInBounds_toArray, List.set_cons_zero, List.set_cons_succ, i64_w, i32_w]
                                    rfl
                                  refine pure_ (i := 1) (N := some 66) (v := ?_) (a' := ?_) #[true, true, false, false, false, false, false, false] rfl rfl (any_of HT_.out (by kernel_rfl)) (fun _ _ _ h => h) (Or.inl ⟨by rfl, ?_⟩) ?_ ?_
                                  rotate_left
                                  · intro w'
                                    go_simp
                                    with_reducible rfl
                                  rotate_left
                                  · simp only [Act.put, List.setIfInBounds_toArray, List.set_cons_zero, List.set_cons_succ, i64_w, i32_w]
                                    rfl
                                  refine pure_ (i := 2) (N := some 67) (v := ?_) (a' := ?_) #[true, true, true, false, false, false, false, false] rfl rfl (any_of HT_.out (by kernel_rfl)) (fun _ _ _ h => h) (Or.inl ⟨by rfl, ?_⟩) ?_ ?_
                                  rotate_left
                                  · intro w'
                                    go_simp
                                    with_reducible rfl
                                  rotate_left
                                  · simp only [Act.put, List.setIfInBounds_toArray, List.set_cons_zero, List.set_cons_succ, i64_w, i32_w]
                                    rfl
                                  refine pure_ (i := 3) (N := some 68) (v := ?_) (a' := ?_) #[true, true, true, true, false, false, false, false] rfl rfl (any_of HT_.out (by kernel_rfl)) (fun _ _ _ h => h) (Or.inl ⟨by rfl, ?_⟩) ?_ ?_
                                  rotate_left
                                  · intro w'
                                    go_simp
                                    with_reducible rfl
                                  rotate_left
                                  · simp only [Act.put, List.setIfInBounds_toArray, List.set_cons_zero, List.set_cons_succ, i64_w, i32_w]
                                    rfl
                                  refine pure_ (i := 4) (N := some 69) (v := ?_) (a' := ?_) #[true, true, true, true, true, false, false, false] rfl rfl (any_of HT_.out (by kernel_rfl)) (fun _ _ _ h => h) (Or.inl ⟨by rfl, ?_⟩) ?_ ?_
                                  rotate_left
                                  · intro w'
                                    go_simp
                                    with_reducible rfl
                                  rotate_left
                                  · simp only [Act.put, List.setIfInBounds_toArray, List.set_cons_zero, List.set_cons_succ, i64_w, i32_w]
                                    rfl
                                  refine one_ (i := 5) (N := none) #[true, true, true, true, true, true, false, false] rfl rfl (one_of HT_.out (by kernel_rfl)) (by decide) (fun K hK => ?_)
                                  have hs123 : w122.cell? ⟨gb146, 0, none⟩ = some (.int .i64 0) := (blk_cell BK146.out 0).trans rfl
                                  have hfs123 := blk_frozen BK146.out 0
                                  refine skip_ (w1 := ?_) (by rfl) rfl ?_ ?_
                                  rotate_left
                                  · go_simp
                                    rfl
                                  refine hK.out _ _ trivial (fun hHeld => ?_)
                                  clear hK K
                                  refine pure_ (i := 6) (N := some 70) (v := ?_) (a' := ?_) #[true, true, true, true, true, true, true, false] rfl rfl (any_of HT_.out (by kernel_rfl)) (fun _ _ _ h => h) (Or.inl ⟨by rfl, ?_⟩) ?_ ?_
                                  rotate_left
                                  · intro w'
                                    go_simp
                                    with_reducible rfl
                                  rotate_left
                                  · simp only [Act.put, List.setIfInBounds_toArray, List.set_cons_zero, List.set_cons_succ, i64_w, i32_w]
                                    rfl
                                  refine one_ (i := 7) (N := none) #[true, true, true, true, true, true, true, true] rfl rfl (one_of HT_.out (by kernel_rfl)) (by decide) (fun K hK => ?_)
                                  have hs124 : w122.cell? ⟨gb146, 1, none⟩ = some (.string (⟨#[]⟩ : ByteArray)) := (blk_cell BK146.out 1).trans rfl
                                  have hfs124 := blk_frozen BK146.out 1
                                  refine skip_ (w1 := ?_) (by rfl) rfl ?_ ?_
                                  rotate_left
                                  · go_simp
                                    rfl
                                  refine hK.out _ _ trivial (fun hHeld => ?_)
                                  clear hK K
                                  refine done_ (done_of HT_.out (by kernel_rfl)) ?_
                                  have hcz125_0 : w122.cell? ⟨gb146, 0, none⟩ = some (.int .i64 0) := (blk_cell BK146.out 0).trans rfl
                                  have hcz125_1 : w122.cell? ⟨gb146, 1, none⟩ = some (.string (⟨#[]⟩ : ByteArray)) := (blk_cell BK146.out 1).trans rfl
                                  have hcz125_2 : w122.cell? ⟨gb146, 2, none⟩ = some (.int .i64 0) := (blk_cell BK146.out 2).trans rfl
                                  have hcz125_3 : w122.cell? ⟨gb146, 3, none⟩ = some (.int .i64 x6_1) := (blk_cell BK146.out 3).trans rfl
                                  have hfz125_0 := blk_frozen BK146.out 0
                                  have hfz125_1 := blk_frozen BK146.out 1
                                  have hfz125_2 := blk_frozen BK146.out 2
                                  have hfz125_3 := blk_frozen BK146.out 3
                                  try go_wp2_with (first | ((with_reducible refine gate_builtin (b := .append) (xs := #[.tmp 142, .tmp 144]) rfl ?_); (try (refine gate_guard (by rfl) ?_; dsimp only)); at_builtin; refine Kd.R_append k68 (w0 := w) w.heap.size rfl (.tmp 142) (.tmp 144) 63 68 (.agg #[(.int .i64 0), (.string ⟨#[]⟩), (.int .i64 0), (.int .i64 0)]) 40 rfl Tryd.underlying63 info68 rfl (by decide) (by omega) u5 x5_1 (⟨3, a0.extract (x6_1 : Int).toNat ((wrap64 (x6_1 + t160)) : Int).toNat, 0, x6_1⟩ : S68) [.int .i64 3, .string (a0.extract (x6_1 : Int).toNat ((wrap64 (x6_1 + t160)) : Int).toNat), .int .i64 0, .int .i64 x6_1] (fun k_ => k_ ≠ gb146) (fun _ => False) rfl (by first | (go_simp; done) | (go_simp; rfl)) ?aP (fun _ hk => hk.elim) ?aF ?aO ?aB ?aS ?aL ?_; (case aP => exact k68_mkM _ _ _ (⟨3, a0.extract (x6_1 : Int).toNat ((wrap64 (x6_1 + t160)) : Int).toNat, 0, x6_1⟩ : S68)); (case aB => exact (by repeat (first | (with_reducible first | exact HB.out | apply below_alloc | apply pw_below_drewN | apply below_drew1 | refine below_set ?_ GE146.out) | exact HB.out))); (case aF => exact (fun k_ hk => Kd.freshB (g := gb146) (o := .cells #[.int .i64 3, .string (a0.extract (x6_1 : Int).toNat ((wrap64 (x6_1 + t160)) : Int).toNat), .int .i64 0, .int .i64 x6_1] 68 (0, 0)) (by (with_reducible repeat (first | refine blk_drewN ?_ _ | refine blk_drew ?_ | refine blk_alloc ?_ _)); refine blk_put (cs := #[.int .i64 3, .string (⟨#[]⟩ : ByteArray), .int .i64 0, .int .i64 x6_1]) ?_ 1 _ rfl; (with_reducible repeat (first | refine blk_drewN ?_ _ | refine blk_drew ?_ | refine blk_alloc ?_ _)); refine blk_put (cs := #[.int .i64 0, .string (⟨#[]⟩ : ByteArray), .int .i64 0, .int .i64 x6_1]) ?_ 0 _ rfl; (with_reducible repeat (first | refine blk_drewN ?_ _ | refine blk_drew ?_ | refine blk_alloc ?_ _)); exact BK146.out) k_ hk)); (case aO => exact (by (with_reducible repeat (first | apply Kd.R_alloc | apply Kd.R_drewN | apply Kd.R_drew)); exact Kd.R_mono (Kd.R_far (p := ⟨gb146, 1, none⟩) (Kd.R_far (p := ⟨gb146, 0, none⟩) (Kd.R_mono HO_5.out (fun k_ hk => (⟨hk, hk.2⟩ : _ ∧ k_ ≠ gb146))) (fun _ hk => hk.2) (.int .i64 3)) (fun _ hk => hk.2) (.string (a0.extract (x6_1 : Int).toNat ((wrap64 (x6_1 + t160)) : Int).toNat))) (fun _ hk => hk.1.2))); (case aS => exact (below_size (by repeat (first | (with_reducible first | exact HB.out | apply below_alloc | apply pw_below_drewN | apply below_drew1 | refine below_set ?_ GE146.out) | exact HB.out)))); (case aL => have := LMc118.out; omega); intro v162 w126 ho hb hg hat; rw [← Ny161.out] at ho; have n0_ := Aside0.mk (blk_grown (g := gb146) (o := .cells #[.int .i64 3, .string (a0.extract (x6_1 : Int).toNat ((wrap64 (x6_1 + t160)) : Int).toNat), .int .i64 0, .int .i64 x6_1] 68 (0, 0)) (by (with_reducible repeat (first | refine blk_drewN ?_ _ | refine blk_drew ?_ | refine blk_alloc ?_ _)); refine blk_put (cs := #[.int .i64 3, .string (⟨#[]⟩ : ByteArray), .int .i64 0, .int .i64 x6_1]) ?_ 1 _ rfl; (with_reducible repeat (first | refine blk_drewN ?_ _ | refine blk_drew ?_ | refine blk_alloc ?_ _)); refine blk_put (cs := #[.int .i64 0, .string (⟨#[]⟩ : ByteArray), .int .i64 0, .int .i64 x6_1]) ?_ 0 _ rfl; (with_reducible repeat (first | refine blk_drewN ?_ _ | refine blk_drew ?_ | refine blk_alloc ?_ _)); exact BK146.out) hg (Kd.R_away HO_5.out (fun _ hk => hk.2))); have n1_ := Aside0.mk (hb); have n2_ := Aside0.mk (ho); clear BK146; clear HB; clear HO_5; have BK146 := n0_; have HB := n1_; have HO163 := n2_; clear n0_ n1_ n2_; clear ho hb hg hat))
                                  go_roundg kj7
                                  case measure => have := HK1.out; have := HJ4.out; have := HJ7.out; omega
                                  case rel => exact ⟨(y161), (wrap64 (x6_1 + t160)), (by first | rfl | (simp; done) | (simp [*]; done)), H', ⟨by have := HK1.out; have := HJ4.out; have := HJ7.out; omega⟩, ⟨by (with_reducible repeat (first | apply Kd.R_alloc | apply Kd.R_drewN | apply Kd.R_drew)); exact Kd.R_mono HO163.out (fun _ hk => trivial)⟩, ⟨by repeat (first | (with_reducible first | exact HB.out | apply below_alloc | apply pw_below_drewN | apply below_drew1 | refine below_set ?_ GE146.out) | exact HB.out)⟩⟩
                                · rw [if_neg c118] at H
                                  exact absurd H (by simp)
                              · rw [if_neg c117] at H
                                exact absurd H (by simp)
                            · rw [if_neg c116] at H
                              exact absurd H (by simp)
                          · rw [if_neg c115] at H
                            exact absurd H (by simp)
        · rw [if_neg c3] at H
          exact absurd H (by simp)
      · rw [if_neg c2] at H
        have c2b0 : decide (x6_1 < (a0.size : Int)) = false := decide_eq_false c2
        clear c2
        by_cases c127 : (x5_1.length : Int) > 2000
        · rw [if_pos c127] at H
          have c127b0 : decide (2000 < (x5_1.length : Int)) = true := decide_eq_true c127
          have c127b1 : decide (2000 < x5_1.length) = true := decide_eq_true (by omega)
          clear c127
          simp only [Option.some.injEq, Prod.mk.injEq] at H
          obtain ⟨rfl, rfl, rfl⟩ := H
          obtain ⟨Ao128, co128, eo128⟩ := Kd.R_slice HO_5.out
          subst eo128
          go_wp2
          go_ret3
          exact ⟨_, by first | rfl | (simp [errW_none, errW_some] <;> rfl) | (simp [*, errW_none, errW_some] <;> rfl), by first | exact Kd.R_nil _ _ _ _ _ | exact Kd.N_nil _ _ _ _ _ | exact Kd.V_nil _ _ _ _ _ | exact Kd.Q_nil _ _ _ _ _ | exact Kd.S_nil _ _ _ _ _, by repeat (first | (with_reducible first | exact HB.out | apply below_alloc | apply pw_below_drewN | apply below_drew1) | exact HB.out)⟩
        · rw [if_neg c127] at H
          have c127b0 : decide (2000 < (x5_1.length : Int)) = false := decide_eq_false c127
          have c127b1 : decide (2000 < x5_1.length) = false := decide_eq_false (by omega)
          clear c127
          simp only [Option.some.injEq, Prod.mk.injEq] at H
          obtain ⟨rfl, rfl, rfl⟩ := H
          obtain ⟨Ao129, co129, eo129⟩ := Kd.R_slice HO_5.out
          subst eo129
          go_wp2
          go_ret3
          exact ⟨_, by first | rfl | (simp [errW_none, errW_some] <;> rfl) | (simp [*, errW_none, errW_some] <;> rfl), by (with_reducible repeat (first | apply Kd.R_alloc | apply Kd.R_drewN | apply Kd.R_drew)); exact HO_5.out, by repeat (first | (with_reducible first | exact HB.out | apply below_alloc | apply pw_below_drewN | apply below_drew1) | exact HB.out)⟩

end Go.Proofs.YtjcbedgpmjgcdaaDoor.PLex

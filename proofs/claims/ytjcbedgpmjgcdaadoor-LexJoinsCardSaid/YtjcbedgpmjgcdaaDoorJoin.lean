/- Written for this claim by a program of this session, which runs the kit's printer with contracts by hand put in. Lean checks it. -/
import Derived.Test.YtjcbedgpmjgcdaaDoorPLexx0
import Derived.Test.YtjcbedgpmjgcdaaDoorPLexx3
import Derived.Test.YtjcbedgpmjgcdaaDoorPLexx5
import Derived.Test.YtjcbedgpmjgcdaaDoorPLexx6
namespace Go.Proofs.YtjcbedgpmjgcdaaDoor.PLex
open Go.RowKit Go.Proofs.YtjcbedgpmjgcdaaDoor.Hand Go.Proofs.YtjcbedgpmjgcdaaDoorW.PrintWords Go.Proofs.YtjcbedgpmjgcdaaDoorW.PrintLast Go.Proofs.YtjcbedgpmjgcdaaDoorW.PrintMore
attribute [local go_sem] cell?_setCell_twice max2_int min2_int max_two min_two max_three min_three max_four min_four   -- for this text's walks alone
set_option linter.unusedVariables false
set_option linter.unusedSimpArgs false

/-- The first m bits of n. -/
def bitsJ (m n : Nat) : Array Bool := ((List.range m).map fun i => n.testBit i).toArray
/-! ### jetsamlaw01_LexJoins: function 6 -/
mutual
def jetsamlaw01_LexJoins.l0 : Nat → List ByteArray → Bool → ByteArray → List (S68) → Int → Option (Bool)
 | 0, _, _, _, _, _ => none
 | k + 1, x0, x1, x5, x6, x7 => if x7 < (x0.length : Int) then (jetsamlaw01_LexJoins.j1 k x0 x1 x5 x6 x7 (decide (x7 < 20))) else (jetsamlaw01_LexJoins.j1 k x0 x1 x5 x6 x7 false)
def jetsamlaw01_LexJoins.j1 : Nat → List ByteArray → Bool → ByteArray → List (S68) → Int → Bool → Option (Bool)
 | 0, _, _, _, _, _, _ => none
 | k + 1, x0, x1, x5, x6, x7, x22 => if x22 = true then (if 0 ≤ x7 then (if x7 < (x0.length : Int) then (if 0 ≤ (mn ((rdOf ByteArray.empty x0 x7).size : Int) 14) then (if (mn ((rdOf ByteArray.empty x0 x7).size : Int) 14) ≤ ((rdOf ByteArray.empty x0 x7).size : Int) then ((jetsamref01_Lex.f k ((rdOf ByteArray.empty x0 x7).extract 0 ((mn ((rdOf ByteArray.empty x0 x7).size : Int) 14) : Int).toNat)).bind fun bt177 => (if bt177.2.2 = 0 then (jetsamlaw01_LexJoins.j2 k x0 x1 x5 x6 x7 bt177.1 ((bt177.1.length : Int) != 1)) else (jetsamlaw01_LexJoins.j2 k x0 x1 x5 x6 x7 bt177.1 true))) else (none)) else (none)) else (none)) else (none)) else ((lex_Lex.f k x5).bind fun bt188 => ((jetsamlaw01_reads.f k).bind fun t193 => (if t193 = true then (if bt188.2.2 = 0 then (if bt188.2.1 = 0 then (jetsamlaw01_LexJoins.j3 k x6 bt188.1 ((bt188.1.length : Int) != (x6.length : Int))) else (jetsamlaw01_LexJoins.j3 k x6 bt188.1 true)) else (jetsamlaw01_LexJoins.j3 k x6 bt188.1 true)) else (jetsamlaw01_LexJoins.j3 k x6 bt188.1 true))))
def jetsamlaw01_LexJoins.j2 : Nat → List ByteArray → Bool → ByteArray → List (S68) → Int → List (S68) → Bool → Option (Bool)
 | 0, _, _, _, _, _, _, _ => none
 | k + 1, x0, x1, x5, x6, x7, x8, x47 => if x47 = true then (jetsamlaw01_LexJoins.l0 k x0 x1 x5 x6 (wrap64 (x7 + 1))) else (if 0 < (x8.length : Int) then ((some (x8.set (0 : Int).toNat (⟨(rd_T68 x8 0).f0, (rd_T68 x8 0).f1, (rd_T68 x8 0).f2, (x5.size : Int)⟩ : S68) : List (S68))).bind fun y182 => (if x6.length < 3518437208883 then ((some (x6 ++ [(⟨(rd_T68 y182 0).f0, (rd_T68 y182 0).f1, (rd_T68 y182 0).f2, (rd_T68 y182 0).f3⟩ : S68)] : List (S68))).bind fun y184 => (if x5.size + ((rd_T68 y182 0).f1).size ≤ 9223372036854775807 then (if x1 = true then (if (x5 ++ ((rd_T68 y182 0).f1)).size + 1 ≤ 9223372036854775807 then (jetsamlaw01_LexJoins.l0 k x0 x1 ((x5 ++ ((rd_T68 y182 0).f1)) ++ (⟨#[10]⟩ : ByteArray)) y184 (wrap64 (x7 + 1))) else (none)) else (if (x5 ++ ((rd_T68 y182 0).f1)).size + 1 ≤ 9223372036854775807 then (jetsamlaw01_LexJoins.l0 k x0 x1 ((x5 ++ ((rd_T68 y182 0).f1)) ++ (⟨#[32]⟩ : ByteArray)) y184 (wrap64 (x7 + 1))) else (none))) else (none))) else (none))) else (none))
def jetsamlaw01_LexJoins.j3 : Nat → List (S68) → List (S67) → Bool → Option (Bool)
 | 0, _, _, _ => none
 | k + 1, x6, x11, x92 => if x92 = true then (some false) else (jetsamlaw01_LexJoins.l1 k x6 x11 0)
def jetsamlaw01_LexJoins.l1 : Nat → List (S68) → List (S67) → Int → Option (Bool)
 | 0, _, _, _ => none
 | k + 1, x6, x11, x14 => if x14 < (x11.length : Int) then (if 0 ≤ x14 then (if x14 < (x6.length : Int) then (if ((rd_T67 x11 x14).f0) = ((rd_T68 x6 x14).f0) then (if ((rd_T67 x11 x14).f1).toList = ((rd_T68 x6 x14).f1).toList then (if ((rd_T67 x11 x14).f2) = ((rd_T68 x6 x14).f2) then (if ((rd_T67 x11 x14).f3) = ((rd_T68 x6 x14).f3) then (jetsamlaw01_LexJoins.l1 k x6 x11 (wrap64 (x14 + 1))) else (some false)) else (some false)) else (some false)) else (some false)) else (none)) else (none)) else (some true)
end
def jetsamlaw01_LexJoins.f (k : Nat) (l0 : List ByteArray) (a1 : Bool) : Option (Bool) := jetsamlaw01_LexJoins.l0 k l0 a1 (⟨#[]⟩ : ByteArray) ([] : List (S68)) 0
theorem jetsamlaw01_LexJoins.mono_l : ∀ k, (∀ y0 y1 y2 y3 y4, LeO (jetsamlaw01_LexJoins.l0 k y0 y1 y2 y3 y4) (jetsamlaw01_LexJoins.l0 (k + 1) y0 y1 y2 y3 y4)) ∧ (∀ y0 y1 y2 y3 y4 y5, LeO (jetsamlaw01_LexJoins.j1 k y0 y1 y2 y3 y4 y5) (jetsamlaw01_LexJoins.j1 (k + 1) y0 y1 y2 y3 y4 y5)) ∧ (∀ y0 y1 y2 y3 y4 y5 y6, LeO (jetsamlaw01_LexJoins.j2 k y0 y1 y2 y3 y4 y5 y6) (jetsamlaw01_LexJoins.j2 (k + 1) y0 y1 y2 y3 y4 y5 y6)) ∧ (∀ y0 y1 y2, LeO (jetsamlaw01_LexJoins.j3 k y0 y1 y2) (jetsamlaw01_LexJoins.j3 (k + 1) y0 y1 y2)) ∧ (∀ y0 y1 y2, LeO (jetsamlaw01_LexJoins.l1 k y0 y1 y2) (jetsamlaw01_LexJoins.l1 (k + 1) y0 y1 y2))
 | 0 => ⟨fun _ _ _ _ _ r h => by simp [jetsamlaw01_LexJoins.l0] at h, fun _ _ _ _ _ _ r h => by simp [jetsamlaw01_LexJoins.j1] at h, fun _ _ _ _ _ _ _ r h => by simp [jetsamlaw01_LexJoins.j2] at h, fun _ _ _ r h => by simp [jetsamlaw01_LexJoins.j3] at h, fun _ _ _ r h => by simp [jetsamlaw01_LexJoins.l1] at h⟩
 | k + 1 => by
  obtain ⟨ih0, ih1, ih2, ih3, ih4⟩ := jetsamlaw01_LexJoins.mono_l k
  refine ⟨?_, ?_, ?_, ?_, ?_⟩
  · intro y0 y1 y2 y3 y4
    unfold jetsamlaw01_LexJoins.l0
    repeat' first
    | (with_reducible exact ih0 _ _ _ _ _)
    | (with_reducible exact ih1 _ _ _ _ _ _)
    | (with_reducible exact ih2 _ _ _ _ _ _ _)
    | (with_reducible exact ih3 _ _ _)
    | (with_reducible exact ih4 _ _ _)
    | (with_reducible exact jetsamlaw01_reads.mono _)
    | (with_reducible exact jetsamref01_Lex.mono _ _)
    | (with_reducible exact lex_Lex.mono _ _)
    | (with_reducible exact LeO.refl _)
    | (with_reducible exact LeO.none _)
    | (with_reducible refine LeO.ite ?_ ?_)
    | (with_reducible refine LeO.bind ?_ (fun _ => ?_))
    | exact ih0 _ _ _ _ _
    | exact ih1 _ _ _ _ _ _
    | exact ih2 _ _ _ _ _ _ _
    | exact ih3 _ _ _
    | exact ih4 _ _ _
    | exact jetsamlaw01_reads.mono _
    | exact jetsamref01_Lex.mono _ _
    | exact lex_Lex.mono _ _
    | exact LeO.none _
    | refine LeO.ite ?_ ?_
    | refine LeO.bind ?_ (fun _ => ?_)
  · intro y0 y1 y2 y3 y4 y5
    unfold jetsamlaw01_LexJoins.j1
    repeat' first
    | (with_reducible exact ih0 _ _ _ _ _)
    | (with_reducible exact ih1 _ _ _ _ _ _)
    | (with_reducible exact ih2 _ _ _ _ _ _ _)
    | (with_reducible exact ih3 _ _ _)
    | (with_reducible exact ih4 _ _ _)
    | (with_reducible exact jetsamlaw01_reads.mono _)
    | (with_reducible exact jetsamref01_Lex.mono _ _)
    | (with_reducible exact lex_Lex.mono _ _)
    | (with_reducible exact LeO.refl _)
    | (with_reducible exact LeO.none _)
    | (with_reducible refine LeO.ite ?_ ?_)
    | (with_reducible refine LeO.bind ?_ (fun _ => ?_))
    | exact ih0 _ _ _ _ _
    | exact ih1 _ _ _ _ _ _
    | exact ih2 _ _ _ _ _ _ _
    | exact ih3 _ _ _
    | exact ih4 _ _ _
    | exact jetsamlaw01_reads.mono _
    | exact jetsamref01_Lex.mono _ _
    | exact lex_Lex.mono _ _
    | exact LeO.none _
    | refine LeO.ite ?_ ?_
    | refine LeO.bind ?_ (fun _ => ?_)
  · intro y0 y1 y2 y3 y4 y5 y6
    unfold jetsamlaw01_LexJoins.j2
    repeat' first
    | (with_reducible exact ih0 _ _ _ _ _)
    | (with_reducible exact ih1 _ _ _ _ _ _)
    | (with_reducible exact ih2 _ _ _ _ _ _ _)
    | (with_reducible exact ih3 _ _ _)
    | (with_reducible exact ih4 _ _ _)
    | (with_reducible exact jetsamlaw01_reads.mono _)
    | (with_reducible exact jetsamref01_Lex.mono _ _)
    | (with_reducible exact lex_Lex.mono _ _)
    | (with_reducible exact LeO.refl _)
    | (with_reducible exact LeO.none _)
    | (with_reducible refine LeO.ite ?_ ?_)
    | (with_reducible refine LeO.bind ?_ (fun _ => ?_))
    | exact ih0 _ _ _ _ _
    | exact ih1 _ _ _ _ _ _
    | exact ih2 _ _ _ _ _ _ _
    | exact ih3 _ _ _
    | exact ih4 _ _ _
    | exact jetsamlaw01_reads.mono _
    | exact jetsamref01_Lex.mono _ _
    | exact lex_Lex.mono _ _
    | exact LeO.none _
    | refine LeO.ite ?_ ?_
    | refine LeO.bind ?_ (fun _ => ?_)
  · intro y0 y1 y2
    unfold jetsamlaw01_LexJoins.j3
    repeat' first
    | (with_reducible exact ih0 _ _ _ _ _)
    | (with_reducible exact ih1 _ _ _ _ _ _)
    | (with_reducible exact ih2 _ _ _ _ _ _ _)
    | (with_reducible exact ih3 _ _ _)
    | (with_reducible exact ih4 _ _ _)
    | (with_reducible exact jetsamlaw01_reads.mono _)
    | (with_reducible exact jetsamref01_Lex.mono _ _)
    | (with_reducible exact lex_Lex.mono _ _)
    | (with_reducible exact LeO.refl _)
    | (with_reducible exact LeO.none _)
    | (with_reducible refine LeO.ite ?_ ?_)
    | (with_reducible refine LeO.bind ?_ (fun _ => ?_))
    | exact ih0 _ _ _ _ _
    | exact ih1 _ _ _ _ _ _
    | exact ih2 _ _ _ _ _ _ _
    | exact ih3 _ _ _
    | exact ih4 _ _ _
    | exact jetsamlaw01_reads.mono _
    | exact jetsamref01_Lex.mono _ _
    | exact lex_Lex.mono _ _
    | exact LeO.none _
    | refine LeO.ite ?_ ?_
    | refine LeO.bind ?_ (fun _ => ?_)
  · intro y0 y1 y2
    unfold jetsamlaw01_LexJoins.l1
    repeat' first
    | (with_reducible exact ih0 _ _ _ _ _)
    | (with_reducible exact ih1 _ _ _ _ _ _)
    | (with_reducible exact ih2 _ _ _ _ _ _ _)
    | (with_reducible exact ih3 _ _ _)
    | (with_reducible exact ih4 _ _ _)
    | (with_reducible exact jetsamlaw01_reads.mono _)
    | (with_reducible exact jetsamref01_Lex.mono _ _)
    | (with_reducible exact lex_Lex.mono _ _)
    | (with_reducible exact LeO.refl _)
    | (with_reducible exact LeO.none _)
    | (with_reducible refine LeO.ite ?_ ?_)
    | (with_reducible refine LeO.bind ?_ (fun _ => ?_))
    | exact ih0 _ _ _ _ _
    | exact ih1 _ _ _ _ _ _
    | exact ih2 _ _ _ _ _ _ _
    | exact ih3 _ _ _
    | exact ih4 _ _ _
    | exact jetsamlaw01_reads.mono _
    | exact jetsamref01_Lex.mono _ _
    | exact lex_Lex.mono _ _
    | exact LeO.none _
    | refine LeO.ite ?_ ?_
    | refine LeO.bind ?_ (fun _ => ?_)
theorem jetsamlaw01_LexJoins.mono : ∀ a0 a1 k, LeO (jetsamlaw01_LexJoins.f k a0 a1) (jetsamlaw01_LexJoins.f (k + 1) a0 a1) := by
 intro a0 a1 k
 obtain ⟨ih0, ih1, ih2, ih3, ih4⟩ := jetsamlaw01_LexJoins.mono_l k
 unfold jetsamlaw01_LexJoins.f
 repeat' first
  | (with_reducible exact ih0 _ _ _ _ _)
  | (with_reducible exact ih1 _ _ _ _ _ _)
  | (with_reducible exact ih2 _ _ _ _ _ _ _)
  | (with_reducible exact ih3 _ _ _)
  | (with_reducible exact ih4 _ _ _)
  | (with_reducible exact jetsamlaw01_reads.mono _)
  | (with_reducible exact jetsamref01_Lex.mono _ _)
  | (with_reducible exact lex_Lex.mono _ _)
  | (with_reducible exact LeO.refl _)
  | (with_reducible exact LeO.none _)
  | (with_reducible refine LeO.ite ?_ ?_)
  | (with_reducible refine LeO.bind ?_ (fun _ => ?_))
  | exact ih0 _ _ _ _ _
  | exact ih1 _ _ _ _ _ _
  | exact ih2 _ _ _ _ _ _ _
  | exact ih3 _ _ _
  | exact ih4 _ _ _
  | exact jetsamlaw01_reads.mono _
  | exact jetsamref01_Lex.mono _ _
  | exact lex_Lex.mono _ _
  | exact LeO.none _
  | refine LeO.ite ?_ ?_
  | refine LeO.bind ?_ (fun _ => ?_)
def jetsamlaw01_LexJoins.T6 : Bool × List (List Nat × List Nat) := (true, [([], []), ([], []), ([0, 1], [0, 1]), ([2], [2]), ([], []), ([], []), ([4, 5], [4, 5]), ([6], [6]), ([7], [7]), ([8], [8]), ([3, 9], [3, 9]), ([10], [10]), ([11], [11]), ([12], [12]), ([12], [12]), ([12], [12]), ([13, 11, 0, 1, 2, 3, 4, 5, 6, 7, 8, 9, 10, 11, 12, 13], [13]), ([14, 16, 0, 1, 2, 3, 4, 5, 6, 7, 8, 9, 10, 11, 12, 13, 14, 16], [14]), ([15, 17, 0, 1, 2, 3, 4, 5, 6, 7, 8, 9, 10, 11, 12, 13, 14, 15, 16, 17], [15])])
def jetsamlaw01_LexJoins.B6 : List Nat := [0, 0, 3, 7, 0, 0, 48, 112, 240, 496, 1023, 2047, 4095, 8191, 8191, 8191, 16383, 98303, 262143]
theorem jetsamlaw01_LexJoins.tab6 : rtab .any (opsOf Tryd.f6 6) = jetsamlaw01_LexJoins.T6 := by kernel_rfl
theorem jetsamlaw01_LexJoins.bits6 : waitsOk jetsamlaw01_LexJoins.T6.2 jetsamlaw01_LexJoins.B6 = true := by kernel_rfl
def jetsamlaw01_LexJoins.T20 : Bool × List (List Nat × List Nat) := (true, [([], []), ([], []), ([0, 1], [0, 1]), ([2], [2]), ([3], [3]), ([], []), ([], []), ([5, 6], [5, 6]), ([7], [7]), ([8], [8]), ([4, 9], [4, 9]), ([10], [10]), ([11], [11]), ([11], [11]), ([12, 13, 11], [11, 12, 13]), ([14, 11], [11, 14]), ([15, 11], [11, 15]), ([11], [11]), ([11], [11]), ([17, 18, 11], [11, 17, 18]), ([19, 11], [11, 19]), ([20, 11], [11, 20]), ([16, 21, 11], [11, 16, 21]), ([11, 22], [11, 22]), ([23, 11], [23]), ([24], [24]), ([24], [24]), ([25, 26, 24], [24, 25, 26]), ([27, 24], [24, 27]), ([28, 24], [24, 28]), ([24], [24]), ([24], [24]), ([30, 31, 24], [24, 30, 31]), ([32, 24], [24, 32]), ([33, 24], [24, 33]), ([29, 34, 24], [24, 29, 34]), ([24, 35], [24, 35]), ([36, 24], [36]), ([37], [37]), ([37], [37]), ([38, 39, 37], [37, 38, 39]), ([40, 37], [37, 40]), ([41, 37], [37, 41]), ([37], [37]), ([37], [37]), ([43, 44, 37], [37, 43, 44]), ([45, 37], [37, 45]), ([46, 37], [37, 46]), ([42, 47, 37], [37, 42, 47]), ([37, 48], [37, 48])])
def jetsamlaw01_LexJoins.B20 : List Nat := [0, 0, 3, 7, 15, 0, 0, 96, 224, 480, 1023, 2047, 4095, 4095, 16383, 32767, 65535, 4095, 4095, 397311, 921599, 1970175, 4194303, 8388607, 16777215, 33554431, 33554431, 134217727, 268435455, 536870911, 33554431, 33554431, 3254779903, 7549747199, 16139681791, 34359738367, 68719476735, 137438953471, 274877906943, 274877906943, 1099511627775, 2199023255551, 4398046511103, 274877906943, 274877906943, 26663156973567, 61847529062399, 132216273240063, 281474976710655, 562949953421311]
theorem jetsamlaw01_LexJoins.tab20 : rtab .any (opsOf Tryd.f6 20) = jetsamlaw01_LexJoins.T20 := by kernel_rfl
theorem jetsamlaw01_LexJoins.bits20 : waitsOk jetsamlaw01_LexJoins.T20.2 jetsamlaw01_LexJoins.B20 = true := by kernel_rfl
set_option maxHeartbeats 80000000 in
set_option maxRecDepth 100000 in
theorem jetsamlaw01_LexJoins.calls (k : Nat) (A0 : Option Addr) (c0 : Nat) (l0 : List ByteArray) (a1 : Bool) (r : Bool) (w : World) (hr0 : Kd.C Kd.string w A0 l0.length l0) (hc0 : l0.length ≤ c0) (h : jetsamlaw01_LexJoins.f k l0 a1 = some r) (hL : Aside0 (Laid w)) :
 Calls Tryd.prog 6 #[.slice A0 l0.length c0, .bool a1] w fun e w' => e = .returned (.bool r) ∧ Below w.heap.size w w' := by
 have hu68 := Tryd.underlying68
 have HR0 := Aside0.mk hr0
 have HC0 := Aside0.mk hc0
 clear hr0 hc0
 have HB := Aside0.mk (Below.refl w.heap.size w)
 have H : (jetsamlaw01_LexJoins.l0 k l0 a1 (⟨#[]⟩ : ByteArray) ([] : List (S68)) 0) = some r := h
 clear h
 have H' := Aside0.mk H
 clear H
 go_enter Tryd.func6, Tryd.ntmps6
 go_wp2
 go_loopg [5, 6, 7] k (fun kq v5 v6 v7 w' => ∃ (x5_1 : ByteArray) (x6_1 : List (S68)) (x7_1 : Int), v5 = .string x5_1 ∧ v7 = .int .i64 x7_1 ∧ Aside0 (jetsamlaw01_LexJoins.l0 kq l0 a1 x5_1 x6_1 x7_1 = some r) ∧ Aside0 (kq ≤ k) ∧ Aside0 (Kd.R k68 68 w' w.heap.size (fun _ => True) v6 x6_1) ∧ Aside0 (Below w.heap.size w w'))
 case atStart => exact ⟨((⟨#[]⟩ : ByteArray)), (([] : List (S68))), (0), (by first | rfl | (simp; done) | (simp [*]; done)), (by first | rfl | (simp; done) | (simp [*]; done)), H', ⟨Nat.le_refl _⟩, ⟨by first | exact Kd.R_nil _ _ _ _ _ | exact Kd.N_nil _ _ _ _ _ | exact Kd.V_nil _ _ _ _ _ | exact Kd.Q_nil _ _ _ _ _ | exact Kd.S_nil _ _ _ _ _⟩, ⟨by repeat (first | (with_reducible first | exact HB.out | apply below_alloc | apply pw_below_drewN | apply below_drew1) | exact HB.out)⟩⟩
 case round =>
  clear H'
  try clear p2
  obtain ⟨x5_1, x6_1, x7_1, rfl, rfl, HA, HK1, HO_6, HB⟩ := hrel
  cases gk with
  | zero => exact absurd HA.out (by simp [jetsamlaw01_LexJoins.l0])
  | succ k1 =>
   have H := HA.out
   clear HA
   simp only [jetsamlaw01_LexJoins.l0] at H
   have HC3 := Aside0.mk H
   clear H
   go_upto_region 4 with (fail)
   go_cut [22] (fun v22 wc => ∃ (kq : Nat) (x22_2 : Bool), v22 = .bool x22_2 ∧ Aside0 (jetsamlaw01_LexJoins.j1 kq l0 a1 x5_1 x6_1 x7_1 x22_2 = some r) ∧ Aside0 (kq ≤ k1) ∧ Aside0 (Kd.R k68 68 wc w.heap.size (fun _ => True) u6 x6_1) ∧ Aside0 (Below w.heap.size w wc))
   case first =>
    have H := HC3.out
    clear HC3
    by_cases c4 : x7_1 < (l0.length : Int)
    · rw [if_pos c4] at H
      have c4b0 : decide (x7_1 < (l0.length : Int)) = true := decide_eq_true c4
      clear c4
      (first | rw [c4b0] | (simp only [i64_w, i32_w]; rw [c4b0]) | skip)
      have H' := Aside0.mk H
      clear H
      go_wp2
      go_meet
      case rel => exact ⟨_, (decide (x7_1 < 20)), (by first | rfl | (simp; done) | (simp [*]; done)), H', ⟨by have := HK1.out; first | omega | exact Nat.le_refl _⟩, ⟨by (with_reducible repeat (first | apply Kd.R_alloc | apply Kd.R_drewN | apply Kd.R_drew)); exact HO_6.out⟩, ⟨by repeat (first | (with_reducible first | exact HB.out | apply below_alloc | apply pw_below_drewN | apply below_drew1) | exact HB.out)⟩⟩
    · rw [if_neg c4] at H
      have c4b0 : decide (x7_1 < (l0.length : Int)) = false := decide_eq_false c4
      clear c4
      (first | rw [c4b0] | (simp only [i64_w, i32_w]; rw [c4b0]) | skip)
      have H' := Aside0.mk H
      clear H
      go_wp2
      go_meet
      case rel => exact ⟨_, (false), (by first | rfl | (simp; done) | (simp [*]; done)), H', ⟨by have := HK1.out; first | omega | exact Nat.le_refl _⟩, ⟨by (with_reducible repeat (first | apply Kd.R_alloc | apply Kd.R_drewN | apply Kd.R_drew)); exact HO_6.out⟩, ⟨by repeat (first | (with_reducible first | exact HB.out | apply below_alloc | apply pw_below_drewN | apply below_drew1) | exact HB.out)⟩⟩
   case rest =>
    clear HC3
    try clear p2
    try clear c4
    try clear c4b0
    try clear p2
    obtain ⟨kq, x22_2, rfl, HA, HJ2, HO_6, HB⟩ := hcut
    cases kq with
    | zero => exact absurd HA.out (by simp [jetsamlaw01_LexJoins.j1])
    | succ kj2 =>
     have H := HA.out
     clear HA
     simp only [jetsamlaw01_LexJoins.j1] at H
     by_cases c5 : x22_2 = true
     · subst c5
       have H1 : (if 0 ≤ x7_1 then (if x7_1 < (l0.length : Int) then (if 0 ≤ (mn ((rdOf ByteArray.empty l0 x7_1).size : Int) 14) then (if (mn ((rdOf ByteArray.empty l0 x7_1).size : Int) 14) ≤ ((rdOf ByteArray.empty l0 x7_1).size : Int) then ((jetsamref01_Lex.f kj2 ((rdOf ByteArray.empty l0 x7_1).extract 0 ((mn ((rdOf ByteArray.empty l0 x7_1).size : Int) 14) : Int).toNat)).bind fun bt177 => (if bt177.2.2 = 0 then (jetsamlaw01_LexJoins.j2 kj2 l0 a1 x5_1 x6_1 x7_1 bt177.1 ((bt177.1.length : Int) != 1)) else (jetsamlaw01_LexJoins.j2 kj2 l0 a1 x5_1 x6_1 x7_1 bt177.1 true))) else (none)) else (none)) else (none)) else (none)) = some r := by rw [if_pos rfl] at H; exact H
       clear H
       have H := H1
       clear H1
       by_cases c6 : 0 ≤ x7_1
       · rw [if_pos c6] at H
         have c6b0 : decide (0 ≤ x7_1) = true := decide_eq_true c6
         clear c6
         by_cases c7 : x7_1 < (l0.length : Int)
         · rw [if_pos c7] at H
           have c7b0 : decide (x7_1 < (l0.length : Int)) = true := decide_eq_true c7
           clear c7
           obtain ⟨ji8, hji8⟩ : ∃ j_ : Int, (mn ((rdOf ByteArray.empty l0 x7_1).size : Int) 14) = j_ := ⟨_, rfl⟩
           replace H : (if 0 ≤ (ji8) then (if (ji8) ≤ ((rdOf ByteArray.empty l0 x7_1).size : Int) then ((jetsamref01_Lex.f kj2 ((rdOf ByteArray.empty l0 x7_1).extract 0 ((ji8) : Int).toNat)).bind fun bt177 => (if bt177.2.2 = 0 then (jetsamlaw01_LexJoins.j2 kj2 l0 a1 x5_1 x6_1 x7_1 bt177.1 ((bt177.1.length : Int) != 1)) else (jetsamlaw01_LexJoins.j2 kj2 l0 a1 x5_1 x6_1 x7_1 bt177.1 true))) else (none)) else (none)) = some r := by first | (rw [hji8] at H; exact H) | (simp only [hji8] at H ⊢; exact H)
           have hji8_ : (if 14 < ((rdOf ByteArray.empty l0 x7_1).size : Int) then 14 else ((rdOf ByteArray.empty l0 x7_1).size : Int)) = ji8 := hji8
           by_cases c9 : 0 ≤ (ji8)
           · rw [if_pos c9] at H
             have c9b0 := eq_true c9
             have c9b1 : decide (0 ≤ (ji8)) = true := decide_eq_true c9
             clear c9
             by_cases c10 : (ji8) ≤ ((rdOf ByteArray.empty l0 x7_1).size : Int)
             · rw [if_pos c10] at H
               have c10b0 := eq_true c10
               have c10b1 : decide ((ji8) ≤ ((rdOf ByteArray.empty l0 x7_1).size : Int)) = true := decide_eq_true c10
               clear c10
               replace H := Option.bind_eq_some_iff.mp H
               obtain ⟨⟨t177, t178, t179⟩, A110, H⟩ := H
               replace H : (if t179 = 0 then (jetsamlaw01_LexJoins.j2 kj2 l0 a1 x5_1 x6_1 x7_1 t177 ((t177.length : Int) != 1)) else (jetsamlaw01_LexJoins.j2 kj2 l0 a1 x5_1 x6_1 x7_1 t177 true)) = some r := H
               have A11 := Aside0.mk A110
               clear A110
               have HC12 := Aside0.mk H
               clear H
               try go_wp2
               have n0_ := Aside0.mk (Kd.R_drew HO_6.out)
               have n1_ := Aside0.mk (below_drew1 HB.out)
               clear HO_6
               clear HB
               have HO_6 := n0_
               have HB := n1_
               clear n0_ n1_
               have p175 : 0 ≤ (x7_1 : Int) := of_decide_eq_true (by first | (with_reducible assumption) | assumption)
               have q175 : x7_1 < (l0.length : Int) := of_decide_eq_true (by first | (with_reducible assumption) | assumption)
               obtain ⟨ad175, e175, hx175_0⟩ := Kd.at_string HR0.out x7_1 p175 q175
               have hw175_0 := hx175_0
               cases e175
               replace hx175_0 := (HB.out.cell (World.block_lt_of_cell? w _ hx175_0)).trans hx175_0
               replace p175 := eq_true p175
               replace q175 := eq_true q175
               have p176 : 0 ≤ (x7_1 : Int) := of_decide_eq_true (by first | (with_reducible assumption) | assumption)
               have q176 : x7_1 < (l0.length : Int) := of_decide_eq_true (by first | (with_reducible assumption) | assumption)
               obtain ⟨ad176, e176, hx176_0⟩ := Kd.at_string HR0.out x7_1 p176 q176
               have hw176_0 := hx176_0
               obtain rfl : ad175 = ad176 := (by injection e176)
               replace hx176_0 := (HB.out.cell (World.block_lt_of_cell? w _ hx176_0)).trans hx176_0
               replace p176 := eq_true p176
               replace q176 := eq_true q176
               refine start_ (n := 19) (S := fun w' => w'.cell? (ad175.add (x7_1).toNat) = some (.string (rdOf ByteArray.empty l0 x7_1)) ∧ w'.cell? (ad175.add (x7_1).toNat) = some (.string (rdOf ByteArray.empty l0 x7_1))) (ds := []) (bitsJ 19 0) (by kernel_rfl) rfl rfl ⟨((HB.out.cell (World.block_lt_of_cell? w _ hw175_0)).trans hw175_0), ((HB.out.cell (World.block_lt_of_cell? w _ hw176_0)).trans hw176_0)⟩ (fun hHeld => ?_); refine with_tabW jetsamlaw01_LexJoins.tab6 jetsamlaw01_LexJoins.bits6 (fun HT_ HW_ => ?_)
               generalize wc.drew = w13 at HO_6 HB hx175_0 hx176_0 hHeld ⊢
               refine pure_ (i := 0) (N := some 26) (v := ?_) (a' := ?_) (bitsJ 19 1) rfl rfl (any_of HT_.out (by kernel_rfl)) (fun _ _ _ h => h) (Or.inl ⟨by rfl, ?_⟩) ?_ ?_
               rotate_left
               · intro w'
                 go_simp
                 with_reducible rfl
               rotate_left
               · simp only [Act.put, List.setIfInBounds_toArray, List.set_cons_zero, List.set_cons_succ, i64_w, i32_w]
                 rfl
               refine pure_ (i := 1) (N := some 27) (v := ?_) (a' := ?_) (bitsJ 19 3) rfl rfl (any_of HT_.out (by kernel_rfl)) (fun _ _ _ h => h) (Or.inl ⟨by rfl, ?_⟩) ?_ ?_
               rotate_left
               · intro w'
                 go_simp
                 with_reducible rfl
               rotate_left
               · simp only [Act.put, List.setIfInBounds_toArray, List.set_cons_zero, List.set_cons_succ, i64_w, i32_w]
                 rfl
               refine pure_ (i := 2) (N := some 28) (v := ?_) (a' := ?_) (bitsJ 19 7) rfl rfl (any_of HT_.out (by kernel_rfl)) (fun _ _ _ h => h) (Or.inl ⟨by rfl, ?_⟩) ?_ ?_
               rotate_left
               · intro w'
                 go_simp
                 with_reducible rfl
               rotate_left
               · simp only [Act.put, List.setIfInBounds_toArray, List.set_cons_zero, List.set_cons_succ, i64_w, i32_w]
                 rfl
               refine pure_ (i := 4) (N := some 30) (v := ?_) (a' := ?_) (bitsJ 19 23) rfl rfl (any_of HT_.out (by kernel_rfl)) (fun _ _ _ h => h) (Or.inl ⟨by rfl, ?_⟩) ?_ ?_
               rotate_left
               · intro w'
                 go_simp
                 with_reducible rfl
               rotate_left
               · simp only [Act.put, List.setIfInBounds_toArray, List.set_cons_zero, List.set_cons_succ, i64_w, i32_w]
                 rfl
               refine pure_ (i := 5) (N := some 31) (v := ?_) (a' := ?_) (bitsJ 19 55) rfl rfl (any_of HT_.out (by kernel_rfl)) (fun _ _ _ h => h) (Or.inl ⟨by rfl, ?_⟩) ?_ ?_
               rotate_left
               · intro w'
                 go_simp
                 with_reducible rfl
               rotate_left
               · simp only [Act.put, List.setIfInBounds_toArray, List.set_cons_zero, List.set_cons_succ, i64_w, i32_w]
                 rfl
               refine pure_ (i := 6) (N := some 32) (v := ?_) (a' := ?_) (bitsJ 19 119) rfl rfl (any_of HT_.out (by kernel_rfl)) (fun _ _ _ h => h) (Or.inl ⟨by rfl, ?_⟩) ?_ ?_
               rotate_left
               · intro w'
                 go_simp
                 with_reducible rfl
               rotate_left
               · simp only [Act.put, List.setIfInBounds_toArray, List.set_cons_zero, List.set_cons_succ, i64_w, i32_w]
                 rfl
               refine take_ (i := 3) (N := some 29) (v := ?_) (a' := ?_) (bitsJ 19 127) rfl rfl (take_ofW HT_.out HW_.out (by kernel_rfl)) (fun _ _ _ h => h) (Or.inl ⟨by rfl, ?_⟩) hHeld ?_ ?_
               rotate_left
               · rintro w' ⟨s0, s1⟩
                 go_simp
                 with_reducible rfl
               rotate_left
               · simp only [Act.put, List.setIfInBounds_toArray, List.set_cons_zero, List.set_cons_succ, i64_w, i32_w]
                 rfl
               refine take_ (i := 7) (N := some 33) (v := ?_) (a' := ?_) (bitsJ 19 255) rfl rfl (take_ofW HT_.out HW_.out (by kernel_rfl)) (fun _ _ _ h => h) (Or.inl ⟨by rfl, ?_⟩) hHeld ?_ ?_
               rotate_left
               · rintro w' ⟨s0, s1⟩
                 go_simp
                 with_reducible rfl
               rotate_left
               · simp only [Act.put, List.setIfInBounds_toArray, List.set_cons_zero, List.set_cons_succ, i64_w, i32_w]
                 rfl
               refine pure_ (i := 8) (N := some 34) (v := ?_) (a' := ?_) (bitsJ 19 511) rfl rfl (any_of HT_.out (by kernel_rfl)) (fun _ _ _ h => h) (Or.inl ⟨by rfl, ?_⟩) ?_ ?_
               rotate_left
               · intro w'
                 go_simp
                 with_reducible rfl
               rotate_left
               · simp only [Act.put, List.setIfInBounds_toArray, List.set_cons_zero, List.set_cons_succ, i64_w, i32_w]
                 rfl
               refine pure_ (i := 9) (N := some 35) (v := ?_) (a' := ?_) (bitsJ 19 1023) rfl rfl (any_of HT_.out (by kernel_rfl)) (fun _ _ _ h => h) (Or.inl ⟨by rfl, ?_⟩) ?_ ?_
               rotate_left
               · intro w'
                 go_simp
                 with_reducible rfl
               rotate_left
               · simp only [Act.put, List.setIfInBounds_toArray, List.set_cons_zero, List.set_cons_succ, i64_w, i32_w]
                 rfl
               refine pure_ (i := 10) (N := some 36) (v := ?_) (a' := ?_) (bitsJ 19 2047) rfl rfl (any_of HT_.out (by kernel_rfl)) (fun _ _ _ h => h) (Or.inl ⟨by rfl, ?_⟩) ?_ ?_
               rotate_left
               · intro w'
                 go_simp
                 with_reducible rfl
               rotate_left
               · simp only [Act.put, List.setIfInBounds_toArray, List.set_cons_zero, List.set_cons_succ, i64_w, i32_w]
                 rfl
               refine one_ (i := 11) (N := some 37) (bitsJ 19 4095) rfl rfl (one_of HT_.out (by kernel_rfl)) (by decide) (fun K hK => ?_)
               refine goes_ Tryd.func23 (by kernel_rfl) rfl #[.string ((rdOf ByteArray.empty l0 x7_1).extract 0 ((ji8) : Int).toNat)] (by rfl) rfl rfl (by (try simp only [List.map_toArray, List.map_cons, List.map_nil]); first | done | (simp only [hji8]; rfl) | rfl | (simp only [List.length_drop, List.length_take]; rfl)) ?_
               with_reducible refine (jetsamref01_Lex.calls kj2 ((rdOf ByteArray.empty l0 x7_1).extract 0 ((ji8) : Int).toNat) t177 t178 t179 _ A11.out).mono ?_
               rintro e w14 ⟨v180, rfl, ho0, hb⟩
               refine ⟨_, rfl, ?_⟩
               have n0_ := Aside0.mk (Kd.R_elder' (by (with_reducible repeat (first | apply Kd.R_alloc | apply Kd.R_drewN | apply Kd.R_drew)); exact HO_6.out) (Kd.R_base ho0) hb)
               have n1_ := Aside0.mk (Kd.R_lower (Kd.R_new' ho0 (Kd.R_lt (by (with_reducible repeat (first | apply Kd.R_alloc | apply Kd.R_drewN | apply Kd.R_drew)); exact HO_6.out))) (below_size (by repeat (first | (with_reducible first | exact HB.out | apply below_alloc | apply pw_below_drewN | apply below_drew1) | exact HB.out))))
               have n2_ := Aside0.mk (below_step (by repeat (first | (with_reducible first | exact HB.out | apply below_alloc | apply pw_below_drewN | apply below_drew1) | exact HB.out)) hb)
               clear HO_6
               clear HB
               have HO_6 := n0_
               have HO181 := n1_
               have HB := n2_
               clear n0_ n1_ n2_
               (try clear hb)
               (try clear hb2)
               (try clear hk)
               (try clear hi)
               (try clear ho0)
               refine hK.out _ _ ⟨((HB.out.cell (World.block_lt_of_cell? w _ hw175_0)).trans hw175_0), ((HB.out.cell (World.block_lt_of_cell? w _ hw176_0)).trans hw176_0)⟩ (fun hHeld => ?_)
               clear hK K
               refine norm_ (a' := ?_) ?_ ?_
               rotate_left
               · show Act.put _ (some 37) _ = _
                 simp only [Act.put, List.setIfInBounds_toArray, List.set_cons_zero, List.set_cons_succ, i64_w, i32_w]
                 rfl
               refine pure_ (i := 12) (N := some 25) (v := ?_) (a' := ?_) (bitsJ 19 8191) rfl rfl (any_of HT_.out (by kernel_rfl)) (fun _ _ _ h => h) (Or.inl ⟨by rfl, ?_⟩) ?_ ?_
               rotate_left
               · intro w'
                 go_simp
                 with_reducible rfl
               rotate_left
               · simp only [Act.put, List.setIfInBounds_toArray, List.set_cons_zero, List.set_cons_succ, i64_w, i32_w]
                 rfl
               refine pure_ (i := 13) (N := some 38) (v := ?_) (a' := ?_) (bitsJ 19 16383) rfl rfl (any_of HT_.out (by kernel_rfl)) (fun _ _ _ h => h) (Or.inl ⟨by rfl, ?_⟩) ?_ ?_
               rotate_left
               · intro w'
                 go_simp
                 with_reducible rfl
               rotate_left
               · simp only [Act.put, List.setIfInBounds_toArray, List.set_cons_zero, List.set_cons_succ, i64_w, i32_w]
                 rfl
               refine pure_ (i := 14) (N := some 39) (v := ?_) (a' := ?_) (bitsJ 19 32767) rfl rfl (any_of HT_.out (by kernel_rfl)) (fun _ _ _ h => h) (Or.inl ⟨by rfl, ?_⟩) ?_ ?_
               rotate_left
               · intro w'
                 go_simp
                 with_reducible rfl
               rotate_left
               · simp only [Act.put, List.setIfInBounds_toArray, List.set_cons_zero, List.set_cons_succ, i64_w, i32_w]
                 rfl
               refine pure_ (i := 15) (N := some 40) (v := ?_) (a' := ?_) (bitsJ 19 65535) rfl rfl (any_of HT_.out (by kernel_rfl)) (fun _ _ _ h => h) (Or.inl ⟨by rfl, ?_⟩) ?_ ?_
               rotate_left
               · intro w'
                 go_simp
                 with_reducible rfl
               rotate_left
               · simp only [Act.put, List.setIfInBounds_toArray, List.set_cons_zero, List.set_cons_succ, i64_w, i32_w]
                 rfl
               refine pure_ (i := 16) (N := some 8) (v := ?_) (a' := ?_) (bitsJ 19 131071) rfl rfl (any_of HT_.out (by kernel_rfl)) (fun _ _ _ h => h) (Or.inl ⟨by rfl, ?_⟩) ?_ ?_
               rotate_left
               · intro w'
                 go_simp
                 with_reducible rfl
               rotate_left
               · simp only [Act.put, List.setIfInBounds_toArray, List.set_cons_zero, List.set_cons_succ, i64_w, i32_w]
                 rfl
               refine pure_ (i := 17) (N := some 9) (v := ?_) (a' := ?_) (bitsJ 19 262143) rfl rfl (any_of HT_.out (by kernel_rfl)) (fun _ _ _ h => h) (Or.inl ⟨by rfl, ?_⟩) ?_ ?_
               rotate_left
               · intro w'
                 go_simp
                 with_reducible rfl
               rotate_left
               · simp only [Act.put, List.setIfInBounds_toArray, List.set_cons_zero, List.set_cons_succ, i64_w, i32_w]
                 rfl
               refine pure_ (i := 18) (N := some 10) (v := ?_) (a' := ?_) #[true, true, true, true, true, true, true, true, true, true, true, true, true, true, true, true, true, true, true] rfl rfl (any_of HT_.out (by kernel_rfl)) (fun _ _ _ h => h) (Or.inl ⟨by rfl, ?_⟩) ?_ ?_
               rotate_left
               · intro w'
                 go_simp
                 with_reducible rfl
               rotate_left
               · simp only [Act.put, List.setIfInBounds_toArray, List.set_cons_zero, List.set_cons_succ, i64_w, i32_w]
                 rfl
               refine done_ (done_of HT_.out (by kernel_rfl)) ?_
               go_upto_region 7 with (fail)
               go_cut [47] (fun v47 wc => ∃ (kq : Nat) (x47_11 : Bool), v47 = .bool x47_11 ∧ Aside0 (jetsamlaw01_LexJoins.j2 kq l0 a1 x5_1 x6_1 x7_1 t177 x47_11 = some r) ∧ Aside0 (kq ≤ kj2) ∧ Aside0 (Kd.R k68 68 wc w.heap.size (fun k_ => some k_ ≠ (v180 : Value).ownBlock) u6 x6_1) ∧ Aside0 (Kd.R k68 68 wc w.heap.size (fun k_ => some k_ ≠ (u6 : Value).ownBlock) v180 t177) ∧ Aside0 (Below w.heap.size w wc))
               case first =>
                have H := HC12.out
                clear HC12
                by_cases c15 : t179 = 0
                · rw [if_pos c15] at H
                  have c15b0 : (t179 == 0) = true := beq_iff_eq.mpr c15
                  have c15b1 : (t179 != 0) = false := bne_eq_false_iff_eq.mpr c15
                  clear c15
                  (first | rw [c15b0] | (simp only [i64_w, i32_w]; rw [c15b0]) | skip)
                  have H' := Aside0.mk H
                  clear H
                  obtain ⟨Ao16, co16, eo16⟩ := Kd.R_slice HO181.out
                  subst eo16
                  go_wp2
                  go_meet
                  case rel => exact ⟨_, (((t177.length : Int) != 1)), (by first | rfl | (simp; done) | (simp [*]; done)), H', ⟨by have := HK1.out; have := HJ2.out; first | omega | exact Nat.le_refl _⟩, ⟨by (with_reducible repeat (first | apply Kd.R_alloc | apply Kd.R_drewN | apply Kd.R_drew)); exact Kd.R_mono HO_6.out (fun _ hk => hk.2)⟩, ⟨by (with_reducible repeat (first | apply Kd.R_alloc | apply Kd.R_drewN | apply Kd.R_drew)); exact Kd.R_mono HO181.out (fun _ hk => hk.2)⟩, ⟨by repeat (first | (with_reducible first | exact HB.out | apply below_alloc | apply pw_below_drewN | apply below_drew1) | exact HB.out)⟩⟩
                · rw [if_neg c15] at H
                  have c15b0 : (t179 == 0) = false := beq_eq_false_iff_ne.mpr c15
                  have c15b1 : (t179 != 0) = true := bne_iff_ne.mpr c15
                  (first | rw [c15b0] | (simp only [i64_w, i32_w]; rw [c15b0]) | skip)
                  have H' := Aside0.mk H
                  clear H
                  go_wp2
                  go_meet
                  case rel => exact ⟨_, (true), (by first | rfl | (simp; done) | (simp [*]; done)), H', ⟨by have := HK1.out; have := HJ2.out; first | omega | exact Nat.le_refl _⟩, ⟨by (with_reducible repeat (first | apply Kd.R_alloc | apply Kd.R_drewN | apply Kd.R_drew)); exact Kd.R_mono HO_6.out (fun _ hk => hk.2)⟩, ⟨by (with_reducible repeat (first | apply Kd.R_alloc | apply Kd.R_drewN | apply Kd.R_drew)); exact Kd.R_mono HO181.out (fun _ hk => hk.2)⟩, ⟨by repeat (first | (with_reducible first | exact HB.out | apply below_alloc | apply pw_below_drewN | apply below_drew1) | exact HB.out)⟩⟩
               case rest =>
                clear HC12
                try clear c1
                try clear p1
                try clear q1
                try clear hx1
                try clear c2
                try clear p2
                try clear c4
                try clear c4b0
                try clear c5
                try clear c6
                try clear c6b0
                try clear c7
                try clear c7b0
                try clear c9
                try clear c9b0
                try clear c9b1
                try clear c10
                try clear c10b0
                try clear c10b1
                try clear c15
                try clear c15b0
                try clear c15b1
                try clear hx175_0
                try clear hx176_0
                try clear p175
                try clear p176
                try clear p2
                try clear q175
                try clear q176
                obtain ⟨kq, x47_11, rfl, HA, HJ11, HO_6, HO_8, HB⟩ := hcut
                cases kq with
                | zero => exact absurd HA.out (by simp [jetsamlaw01_LexJoins.j2])
                | succ kj11 =>
                 have H := HA.out
                 clear HA
                 simp only [jetsamlaw01_LexJoins.j2] at H
                 by_cases c17 : x47_11 = true
                 · subst c17
                   have H1 : (jetsamlaw01_LexJoins.l0 kj11 l0 a1 x5_1 x6_1 (wrap64 (x7_1 + 1))) = some r := by rw [if_pos rfl] at H; exact H
                   clear H
                   have H := H1
                   clear H1
                   have H' := Aside0.mk H
                   clear H
                   go_wp2
                   go_roundg kj11
                   case measure => have := HK1.out; have := HJ2.out; have := HJ11.out; omega
                   case rel => exact ⟨(x5_1), (x6_1), (wrap64 (x7_1 + 1)), (by first | rfl | (simp; done) | (simp [*]; done)), (by first | rfl | (simp; done) | (simp [*]; done)), H', ⟨by have := HK1.out; have := HJ2.out; have := HJ11.out; omega⟩, ⟨by (with_reducible repeat (first | apply Kd.R_alloc | apply Kd.R_drewN | apply Kd.R_drew)); exact Kd.R_mono HO_6.out (fun _ hk => trivial)⟩, ⟨by repeat (first | (with_reducible first | exact HB.out | apply below_alloc | apply pw_below_drewN | apply below_drew1) | exact HB.out)⟩⟩
                 · replace c17 := Bool.eq_false_iff.mpr c17
                   subst c17
                   have H1 : (if 0 < (t177.length : Int) then ((some (t177.set (0 : Int).toNat (⟨(rd_T68 t177 0).f0, (rd_T68 t177 0).f1, (rd_T68 t177 0).f2, (x5_1.size : Int)⟩ : S68) : List (S68))).bind fun y182 => (if x6_1.length < 3518437208883 then ((some (x6_1 ++ [(⟨(rd_T68 y182 0).f0, (rd_T68 y182 0).f1, (rd_T68 y182 0).f2, (rd_T68 y182 0).f3⟩ : S68)] : List (S68))).bind fun y184 => (if x5_1.size + ((rd_T68 y182 0).f1).size ≤ 9223372036854775807 then (if a1 = true then (if (x5_1 ++ ((rd_T68 y182 0).f1)).size + 1 ≤ 9223372036854775807 then (jetsamlaw01_LexJoins.l0 kj11 l0 a1 ((x5_1 ++ ((rd_T68 y182 0).f1)) ++ (⟨#[10]⟩ : ByteArray)) y184 (wrap64 (x7_1 + 1))) else (none)) else (if (x5_1 ++ ((rd_T68 y182 0).f1)).size + 1 ≤ 9223372036854775807 then (jetsamlaw01_LexJoins.l0 kj11 l0 a1 ((x5_1 ++ ((rd_T68 y182 0).f1)) ++ (⟨#[32]⟩ : ByteArray)) y184 (wrap64 (x7_1 + 1))) else (none))) else (none))) else (none))) else (none)) = some r := by rw [if_neg (show ¬ (false = true) by decide)] at H; exact H
                   clear H
                   have H := H1
                   clear H1
                   by_cases c18 : 0 < (t177.length : Int)
                   · rw [if_pos c18] at H
                     have c18b0 : decide (0 < (t177.length : Int)) = true := decide_eq_true c18
                     have c18b1 : decide (0 < t177.length) = true := decide_eq_true (by omega)
                     clear c18
                     obtain ⟨y182, hy182⟩ : ∃ y_ : List (S68), y_ = (t177.set (0 : Int).toNat (⟨(rd_T68 t177 0).f0, (rd_T68 t177 0).f1, (rd_T68 t177 0).f2, (x5_1.size : Int)⟩ : S68)) := ⟨_, rfl⟩
                     replace H : (if x6_1.length < 3518437208883 then ((some (x6_1 ++ [(⟨(rd_T68 y182 0).f0, (rd_T68 y182 0).f1, (rd_T68 y182 0).f2, (rd_T68 y182 0).f3⟩ : S68)] : List (S68))).bind fun y184 => (if x5_1.size + ((rd_T68 y182 0).f1).size ≤ 9223372036854775807 then (if a1 = true then (if (x5_1 ++ ((rd_T68 y182 0).f1)).size + 1 ≤ 9223372036854775807 then (jetsamlaw01_LexJoins.l0 kj11 l0 a1 ((x5_1 ++ ((rd_T68 y182 0).f1)) ++ (⟨#[10]⟩ : ByteArray)) y184 (wrap64 (x7_1 + 1))) else (none)) else (if (x5_1 ++ ((rd_T68 y182 0).f1)).size + 1 ≤ 9223372036854775807 then (jetsamlaw01_LexJoins.l0 kj11 l0 a1 ((x5_1 ++ ((rd_T68 y182 0).f1)) ++ (⟨#[32]⟩ : ByteArray)) y184 (wrap64 (x7_1 + 1))) else (none))) else (none))) else (none)) = some r := by first | (rw [hy182]; with_reducible exact H) | (have H2_ := (Option.bind_some _ _).symm.trans H; rw [hy182]; with_reducible exact H2_) | (have H2_ := (Option.bind_some _ _).symm.trans H; with_reducible exact H2_) | with_reducible exact H | (rw [hy182]; exact H) | exact H
                     have Ny182 := Aside0.mk hy182
                     clear hy182
                     by_cases c20 : x6_1.length < 3518437208883
                     · rw [if_pos c20] at H
                       have LMc20 := Aside0.mk c20
                       clear c20
                       obtain ⟨y184, hy184⟩ : ∃ y_ : List (S68), y_ = (x6_1 ++ [(⟨(rd_T68 y182 0).f0, (rd_T68 y182 0).f1, (rd_T68 y182 0).f2, (rd_T68 y182 0).f3⟩ : S68)]) := ⟨_, rfl⟩
                       replace H : (if x5_1.size + ((rd_T68 y182 0).f1).size ≤ 9223372036854775807 then (if a1 = true then (if (x5_1 ++ ((rd_T68 y182 0).f1)).size + 1 ≤ 9223372036854775807 then (jetsamlaw01_LexJoins.l0 kj11 l0 a1 ((x5_1 ++ ((rd_T68 y182 0).f1)) ++ (⟨#[10]⟩ : ByteArray)) y184 (wrap64 (x7_1 + 1))) else (none)) else (if (x5_1 ++ ((rd_T68 y182 0).f1)).size + 1 ≤ 9223372036854775807 then (jetsamlaw01_LexJoins.l0 kj11 l0 a1 ((x5_1 ++ ((rd_T68 y182 0).f1)) ++ (⟨#[32]⟩ : ByteArray)) y184 (wrap64 (x7_1 + 1))) else (none))) else (none)) = some r := by first | (rw [hy184]; with_reducible exact H) | (have H2_ := (Option.bind_some _ _).symm.trans H; rw [hy184]; with_reducible exact H2_) | (have H2_ := (Option.bind_some _ _).symm.trans H; with_reducible exact H2_) | with_reducible exact H | (rw [hy184]; exact H) | exact H
                       have Ny184 := Aside0.mk hy184
                       clear hy184
                       by_cases c21 : x5_1.size + ((rd_T68 y182 0).f1).size ≤ 9223372036854775807
                       · rw [if_pos c21] at H
                         have c21b0 := eq_true c21
                         have c21b1 : decide (x5_1.size + ((rd_T68 y182 0).f1).size ≤ 9223372036854775807) = true := decide_eq_true c21
                         try have c21b2 : (9223372036854775807 < x5_1.size + ((rd_T68 y182 0).f1).size) = False := eq_false (Nat.not_lt.2 c21)
                         by_cases c22 : a1 = true
                         · subst c22
                           have H1 : (if (x5_1 ++ ((rd_T68 y182 0).f1)).size + 1 ≤ 9223372036854775807 then (jetsamlaw01_LexJoins.l0 kj11 l0 true ((x5_1 ++ ((rd_T68 y182 0).f1)) ++ (⟨#[10]⟩ : ByteArray)) y184 (wrap64 (x7_1 + 1))) else (none)) = some r := by rw [if_pos rfl] at H; exact H
                           clear H
                           have H := H1
                           clear H1
                           by_cases c23 : (x5_1 ++ ((rd_T68 y182 0).f1)).size + 1 ≤ 9223372036854775807
                           · rw [if_pos c23] at H
                             have c23b0 := eq_true c23
                             have c23b1 : decide ((x5_1 ++ ((rd_T68 y182 0).f1)).size + 1 ≤ 9223372036854775807) = true := decide_eq_true c23
                             try have c23b2 : (9223372036854775807 < (x5_1 ++ ((rd_T68 y182 0).f1)).size + 1) = False := eq_false (Nat.not_lt.2 c23)
                             have c23s : x5_1.size + ((rd_T68 y182 0).f1).size + 1 ≤ 9223372036854775807 := by rw [← ByteArray.size_append]; exact c23
                             have c23s1 : decide (x5_1.size + ((rd_T68 y182 0).f1).size + 1 ≤ 9223372036854775807) = true := decide_eq_true c23s
                             have c23s2 : (9223372036854775807 < x5_1.size + ((rd_T68 y182 0).f1).size + 1) = False := eq_false (Nat.not_lt.2 c23s)
                             have c23s3 : (x5_1.size + ((rd_T68 y182 0).f1).size + 1 ≤ 9223372036854775807) = True := eq_true c23s
                             have c23s4 : ¬ 9223372036854775807 < x5_1.size + ((rd_T68 y182 0).f1).size + 1 := Nat.not_lt.2 c23s
                             have c23s5 : ¬ 9223372036854775807 < (x5_1 ++ ((rd_T68 y182 0).f1)).size + 1 := Nat.not_lt.2 c23
                             have H' := Aside0.mk H
                             clear H
                             have p19 : 0 ≤ (0 : Int) := (by omega)
                             have q19 : (0 : Int) < ((t177.length : Int) : Int) := of_decide_eq_true (by first | (with_reducible assumption) | assumption)
                             have qi19 : (0 < t177.length) = True := eq_true (by omega)
                             obtain ⟨go19, co19, eo19, gb19, gl19, cl19, HG19⟩ := Kd.R_form HO_8.out (by omega)
                             (first | cases eo19 | (injection eo19 with ea_ en_ ec_; (first | subst ea_ | (injection ea_ with ea_; subst ea_)); subst ec_; clear en_))
                             have GB19 := Aside0.mk gb19
                             have GG19 := Aside0.mk HG19
                             clear gb19 gl19 HG19
                             obtain ⟨ce19, hcl19, hM19, hcc19, hfr19⟩ := Kd.R_elem HO_8.out z68 (0 : Int) p19 q19
                             obtain rfl := k68_openM hM19
                             have hx19_0 : wc.cell? ⟨go19, (0 : Int).toNat * 4, none⟩ = some (.int .i64 ((rd_T68 t177 0).f0)) := hcc19 0 _ rfl
                             have hx19_1 : wc.cell? ⟨go19, (0 : Int).toNat * 4 + 1, none⟩ = some (.string ((rd_T68 t177 0).f1)) := hcc19 1 _ rfl
                             have hx19_2 : wc.cell? ⟨go19, (0 : Int).toNat * 4 + 2, none⟩ = some (.int .i64 ((rd_T68 t177 0).f2)) := hcc19 2 _ rfl
                             have hx19_3 : wc.cell? ⟨go19, (0 : Int).toNat * 4 + 3, none⟩ = some (.int .i64 ((rd_T68 t177 0).f3)) := hcc19 3 _ rfl
                             have hf19_0 : wc.frozen? ⟨go19, (0 : Int).toNat * 4, none⟩ = false := hfr19 0
                             have hf19_1 : wc.frozen? ⟨go19, (0 : Int).toNat * 4 + 1, none⟩ = false := hfr19 1
                             have hf19_2 : wc.frozen? ⟨go19, (0 : Int).toNat * 4 + 2, none⟩ = false := hfr19 2
                             have hf19_3 : wc.frozen? ⟨go19, (0 : Int).toNat * 4 + 3, none⟩ = false := hfr19 3
                             clear hcl19 hcc19 hfr19 hM19
                             (try rw [show ((0 : Int)).toNat = 0 from rfl] at hx19_0)
                             (try simp only [Nat.reduceMul, Nat.zero_mul, Nat.zero_add, Nat.reduceAdd] at hx19_0)
                             (try rw [show ((0 : Int)).toNat = 0 from rfl] at hf19_0)
                             (try simp only [Nat.reduceMul, Nat.zero_mul, Nat.zero_add, Nat.reduceAdd] at hf19_0)
                             (try rw [show ((0 : Int)).toNat = 0 from rfl] at hx19_1)
                             (try simp only [Nat.reduceMul, Nat.zero_mul, Nat.zero_add, Nat.reduceAdd] at hx19_1)
                             (try rw [show ((0 : Int)).toNat = 0 from rfl] at hf19_1)
                             (try simp only [Nat.reduceMul, Nat.zero_mul, Nat.zero_add, Nat.reduceAdd] at hf19_1)
                             (try rw [show ((0 : Int)).toNat = 0 from rfl] at hx19_2)
                             (try simp only [Nat.reduceMul, Nat.zero_mul, Nat.zero_add, Nat.reduceAdd] at hx19_2)
                             (try rw [show ((0 : Int)).toNat = 0 from rfl] at hf19_2)
                             (try simp only [Nat.reduceMul, Nat.zero_mul, Nat.zero_add, Nat.reduceAdd] at hf19_2)
                             (try rw [show ((0 : Int)).toNat = 0 from rfl] at hx19_3)
                             (try simp only [Nat.reduceMul, Nat.zero_mul, Nat.zero_add, Nat.reduceAdd] at hx19_3)
                             (try rw [show ((0 : Int)).toNat = 0 from rfl] at hf19_3)
                             (try simp only [Nat.reduceMul, Nat.zero_mul, Nat.zero_add, Nat.reduceAdd] at hf19_3)
                             replace p19 := eq_true p19
                             replace q19 := eq_true q19
                             have HX24 := Aside0.mk (show Kd.R k68 68 wc w.heap.size (fun k_ => some k_ ≠ (u6 : Value).ownBlock) (.slice (some ⟨go19, 0, none⟩) t177.length co19) t177 from (by (with_reducible repeat (first | apply Kd.R_alloc | apply Kd.R_drewN | apply Kd.R_drew)); exact HO_8.out))
                             obtain ⟨ce24, hcl24, hM24, hcc24, hfr24⟩ := Kd.R_elem HX24.out z68 (0 : Int) (by omega) (by have h_ : (0 : Int) < ((t177.length : Int) : Int) := of_decide_eq_true (by first | (with_reducible assumption) | assumption); first | exact h_ | (have e_ := (Kd.R_reads' HO_8.out).1; omega) | simpa using h_)
                             obtain rfl := k68_openM hM24
                             have HP24 := Kd.R_seg HX24.out (0 : Int) (by omega) (by have h_ : (0 : Int) < ((t177.length : Int) : Int) := of_decide_eq_true (by first | (with_reducible assumption) | assumption); first | exact h_ | (have e_ := (Kd.R_reads' HO_8.out).1; omega) | simpa using h_) (seg := [.int .i64 (x5_1.size : Int)]) (j := 3) hcl24 hcc24 (show 4 ≤ 4 from by decide) (x' := (⟨(rd_T68 t177 0).f0, (rd_T68 t177 0).f1, (rd_T68 t177 0).f2, (x5_1.size : Int)⟩ : S68)) (k68_mkM _ _ _ (⟨(rd_T68 t177 0).f0, (rd_T68 t177 0).f1, (rd_T68 t177 0).f2, (x5_1.size : Int)⟩ : S68) ) (fun _ hk => hk)
                             have hx24_3 := hcc24 3 _ rfl
                             (try simp only [show (k68).sz = 4 from rfl, Nat.mul_one, Nat.add_zero] at hx24_3)
                             (try rw [show ((0 : Int)).toNat = 0 from rfl] at hx24_3)
                             (try simp only [Nat.reduceMul, Nat.zero_mul, Nat.zero_add, Nat.reduceAdd] at hx24_3)
                             have hf24_3 := hfr24 3
                             (try simp only [show (k68).sz = 4 from rfl, Nat.mul_one, Nat.add_zero] at hf24_3)
                             (try rw [show ((0 : Int)).toNat = 0 from rfl] at hf24_3)
                             (try simp only [Nat.reduceMul, Nat.zero_mul, Nat.zero_add, Nat.reduceAdd] at hf24_3)
                             clear hcl24 hcc24 hfr24 hM24
                             go_wp2_with (first | ((with_reducible refine gate_store (t := 3) (p := 52) rfl ?_); refine store_event (t := 3) (p := 52) (v := ?vo_w25) (w1 := (wc.setCell ⟨go19, 3, none⟩ (.int .i64 (x5_1.size : Int)))) ?hg ?ho ?hn ?hr ?_; (case ho => rfl); (case hg => rfl); (case hn => rfl); (case hr => first | (go_simp; done) | (go_simp; rfl)); intro w25 hw; have hg : wc.grownBy w25 (some go19) := (by rw [hw]; exact HP24.2); have hp_ : Kd.R k68 68 w25 w.heap.size (fun k_ => some k_ ≠ (u6 : Value).ownBlock) (.slice (some ⟨go19, 0, none⟩) t177.length co19) y182 := (by rw [hw, Ny182.out]; exact HP24.1); clear HP24; have n0_ := Aside0.mk (Kd.R_after (v := (.slice (some ⟨go19, 0, none⟩) t177.length co19)) (v1 := (.slice (some ⟨go19, 0, none⟩) t177.length co19)) (ok := (fun _ => True)) (by (with_reducible repeat (first | apply Kd.R_alloc | apply Kd.R_drewN | apply Kd.R_drew)); exact Kd.R_mono HO_6.out (fun _ hk => ⟨trivial, hk⟩)) hg (.inl rfl)); have n1_ := Aside0.mk (hp_); have n2_ := Aside0.mk ((by rw [hw]; exact below_set (HB.out) GB19.out : Below w.heap.size w w25)); clear HO_6; clear HO_8; clear HB; have HO_6 := n0_; have HO_8 := n1_; have HB := n2_; clear n0_ n1_ n2_; clear hg hw hp_; have p183 : 0 ≤ (0 : Int) := (by omega); have q183 : 0 < (y182.length : Int) := (by have h_ : (0 : Int) < ((t177.length : Int) : Int) := of_decide_eq_true (by first | (with_reducible assumption) | assumption); first | (have e_ := (Kd.R_reads' HO_8.out).1; omega) | simpa only [Ny182.out, List.length_set] using h_); have ql183 : ((0 : Int) < ((t177.length : Int) : Int)) = True := eq_true (of_decide_eq_true (by first | (with_reducible assumption) | assumption)); (try have qn183 : (0 < t177.length) = True := eq_true (by have h_ : (0 : Int) < ((t177.length : Int) : Int) := of_decide_eq_true (by first | (with_reducible assumption) | assumption); omega)); obtain ⟨ad183, e183, hx183_0, hx183_1, hx183_2, hx183_3⟩ := at_T68 (Kd.R_reads' HO_8.out).2.2 0 p183 q183; obtain rfl : (⟨go19, 0, none⟩ : Addr) = ad183 := (by injection e183); (first | simp only [add_plain] at hx183_0 | simp only [add_at] at hx183_0 | simp only [Addr.add, Nat.zero_add] at hx183_0 | skip); (first | simp only [add_plain] at hx183_1 | simp only [add_at] at hx183_1 | simp only [Addr.add, Nat.zero_add] at hx183_1 | skip); (first | simp only [add_plain] at hx183_2 | simp only [add_at] at hx183_2 | simp only [Addr.add, Nat.zero_add] at hx183_2 | skip); (first | simp only [add_plain] at hx183_3 | simp only [add_at] at hx183_3 | simp only [Addr.add, Nat.zero_add] at hx183_3 | skip); have qi183 : (0 < y182.length) = True := eq_true (by omega); (try rw [show ((0 : Int)).toNat = 0 from rfl] at hx183_0); (try rw [show 0 * 4 = 0 from rfl] at hx183_0); (try rw [Addr.add_zero'] at hx183_0); (try rw [show ((0 : Int)).toNat = 0 from rfl] at hx183_1); (try rw [show 0 * 4 = 0 from rfl] at hx183_1); (try rw [Addr.add_zero'] at hx183_1); (try rw [show ((0 : Int)).toNat = 0 from rfl] at hx183_2); (try rw [show 0 * 4 = 0 from rfl] at hx183_2); (try rw [Addr.add_zero'] at hx183_2); (try rw [show ((0 : Int)).toNat = 0 from rfl] at hx183_3); (try rw [show 0 * 4 = 0 from rfl] at hx183_3); (try rw [Addr.add_zero'] at hx183_3); replace p183 := eq_true p183; replace q183 := eq_true q183) | ((with_reducible refine gate_builtin (b := .append) (xs := #[.tmp 53, .tmp 57]) rfl ?_); (try (refine gate_guard (by rfl) ?_; dsimp only)); at_builtin; refine Kd.R_append k68 (w0 := w) w.heap.size rfl (.tmp 53) (.tmp 57) 63 68 (.agg #[(.int .i64 0), (.string ⟨#[]⟩), (.int .i64 0), (.int .i64 0)]) 40 rfl Tryd.underlying63 info68 rfl (by decide) (by omega) u6 x6_1 (⟨(rd_T68 y182 0).f0, (rd_T68 y182 0).f1, (rd_T68 y182 0).f2, (rd_T68 y182 0).f3⟩ : S68) [.int .i64 ((rd_T68 y182 0).f0), .string ((rd_T68 y182 0).f1), .int .i64 ((rd_T68 y182 0).f2), .int .i64 ((rd_T68 y182 0).f3)] (fun k_ => some k_ ≠ (.slice (some ⟨go19, 0, none⟩) t177.length co19 : Value).ownBlock) (fun _ => False) rfl rfl ?aP (fun _ hk => hk.elim) ?aF ?aO ?aB ?aS ?aL ?_; (case aP => exact k68_mkM _ _ _ (⟨(rd_T68 y182 0).f0, (rd_T68 y182 0).f1, (rd_T68 y182 0).f2, (rd_T68 y182 0).f3⟩ : S68)); (case aB => exact (by repeat (first | (with_reducible first | exact HB.out | apply below_alloc | apply pw_below_drewN | apply below_drew1) | exact HB.out))); (case aF => exact (fun k_ hk => Kd.fresh' (Kd.R_lt (by (with_reducible repeat (first | apply Kd.R_alloc | apply Kd.R_drewN | apply Kd.R_drew)); exact HO_8.out)) k_ hk)); (case aO => exact (by (with_reducible repeat (first | apply Kd.R_alloc | apply Kd.R_drewN | apply Kd.R_drew)); exact Kd.R_mono HO_6.out (fun _ hk => hk.2))); (case aS => exact (below_size (by repeat (first | (with_reducible first | exact HB.out | apply below_alloc | apply pw_below_drewN | apply below_drew1) | exact HB.out)))); (case aL => have := LMc20.out; omega); intro v185 w26 ho hb hg hat; rw [← Ny184.out] at ho; have n0_ := Aside0.mk (Kd.R_after (ok := (fun _ => True)) (by (with_reducible repeat (first | apply Kd.R_alloc | apply Kd.R_drewN | apply Kd.R_drew)); exact Kd.R_mono HO_8.out (fun _ hk => ⟨trivial, hk⟩)) hg hat); have n1_ := Aside0.mk (hb); have n2_ := Aside0.mk (ho); clear HO_8; clear HB; clear HO_6; have HO_8 := n0_; have HB := n1_; have HO186 := n2_; clear n0_ n1_ n2_; clear ho hb hg hat; have p187 : 0 ≤ (0 : Int) := (by omega); have q187 : 0 < (y182.length : Int) := (by have h_ : (0 : Int) < ((t177.length : Int) : Int) := of_decide_eq_true (by first | (with_reducible assumption) | assumption); first | (have e_ := (Kd.R_reads' HO_8.out).1; omega) | simpa only [Ny182.out, List.length_set] using h_); have ql187 : ((0 : Int) < ((t177.length : Int) : Int)) = True := eq_true (of_decide_eq_true (by first | (with_reducible assumption) | assumption)); (try have qn187 : (0 < t177.length) = True := eq_true (by have h_ : (0 : Int) < ((t177.length : Int) : Int) := of_decide_eq_true (by first | (with_reducible assumption) | assumption); omega)); obtain ⟨ad187, e187, hx187_0, hx187_1, hx187_2, hx187_3⟩ := at_T68 (Kd.R_reads' HO_8.out).2.2 0 p187 q187; obtain rfl : (⟨go19, 0, none⟩ : Addr) = ad187 := (by injection e187); (first | simp only [add_plain] at hx187_0 | simp only [add_at] at hx187_0 | simp only [Addr.add, Nat.zero_add] at hx187_0 | skip); (first | simp only [add_plain] at hx187_1 | simp only [add_at] at hx187_1 | simp only [Addr.add, Nat.zero_add] at hx187_1 | skip); (first | simp only [add_plain] at hx187_2 | simp only [add_at] at hx187_2 | simp only [Addr.add, Nat.zero_add] at hx187_2 | skip); (first | simp only [add_plain] at hx187_3 | simp only [add_at] at hx187_3 | simp only [Addr.add, Nat.zero_add] at hx187_3 | skip); have qi187 : (0 < y182.length) = True := eq_true (by omega); (try rw [show ((0 : Int)).toNat = 0 from rfl] at hx187_0); (try rw [show 0 * 4 = 0 from rfl] at hx187_0); (try rw [Addr.add_zero'] at hx187_0); (try rw [show ((0 : Int)).toNat = 0 from rfl] at hx187_1); (try rw [show 0 * 4 = 0 from rfl] at hx187_1); (try rw [Addr.add_zero'] at hx187_1); (try rw [show ((0 : Int)).toNat = 0 from rfl] at hx187_2); (try rw [show 0 * 4 = 0 from rfl] at hx187_2); (try rw [Addr.add_zero'] at hx187_2); (try rw [show ((0 : Int)).toNat = 0 from rfl] at hx187_3); (try rw [show 0 * 4 = 0 from rfl] at hx187_3); (try rw [Addr.add_zero'] at hx187_3); replace p187 := eq_true p187; replace q187 := eq_true q187))
                             go_roundg kj11
                             case measure => have := HK1.out; have := HJ2.out; have := HJ11.out; omega
                             case rel => exact ⟨((x5_1 ++ ((rd_T68 y182 0).f1)) ++ (⟨#[10]⟩ : ByteArray)), (y184), (wrap64 (x7_1 + 1)), (by first | rfl | (simp; done) | (simp [*]; done)), (by first | rfl | (simp; done) | (simp [*]; done)), H', ⟨by have := HK1.out; have := HJ2.out; have := HJ11.out; omega⟩, ⟨by (with_reducible repeat (first | apply Kd.R_alloc | apply Kd.R_drewN | apply Kd.R_drew)); exact Kd.R_mono HO186.out (fun _ hk => trivial)⟩, ⟨by repeat (first | (with_reducible first | exact HB.out | apply below_alloc | apply pw_below_drewN | apply below_drew1) | exact HB.out)⟩⟩
                           · rw [if_neg c23] at H
                             exact absurd H (by simp)
                         · replace c22 := Bool.eq_false_iff.mpr c22
                           subst c22
                           have H1 : (if (x5_1 ++ ((rd_T68 y182 0).f1)).size + 1 ≤ 9223372036854775807 then (jetsamlaw01_LexJoins.l0 kj11 l0 false ((x5_1 ++ ((rd_T68 y182 0).f1)) ++ (⟨#[32]⟩ : ByteArray)) y184 (wrap64 (x7_1 + 1))) else (none)) = some r := by rw [if_neg (show ¬ (false = true) by decide)] at H; exact H
                           clear H
                           have H := H1
                           clear H1
                           by_cases c27 : (x5_1 ++ ((rd_T68 y182 0).f1)).size + 1 ≤ 9223372036854775807
                           · rw [if_pos c27] at H
                             have c27b0 := eq_true c27
                             have c27b1 : decide ((x5_1 ++ ((rd_T68 y182 0).f1)).size + 1 ≤ 9223372036854775807) = true := decide_eq_true c27
                             try have c27b2 : (9223372036854775807 < (x5_1 ++ ((rd_T68 y182 0).f1)).size + 1) = False := eq_false (Nat.not_lt.2 c27)
                             have c27s : x5_1.size + ((rd_T68 y182 0).f1).size + 1 ≤ 9223372036854775807 := by rw [← ByteArray.size_append]; exact c27
                             have c27s1 : decide (x5_1.size + ((rd_T68 y182 0).f1).size + 1 ≤ 9223372036854775807) = true := decide_eq_true c27s
                             have c27s2 : (9223372036854775807 < x5_1.size + ((rd_T68 y182 0).f1).size + 1) = False := eq_false (Nat.not_lt.2 c27s)
                             have c27s3 : (x5_1.size + ((rd_T68 y182 0).f1).size + 1 ≤ 9223372036854775807) = True := eq_true c27s
                             have c27s4 : ¬ 9223372036854775807 < x5_1.size + ((rd_T68 y182 0).f1).size + 1 := Nat.not_lt.2 c27s
                             have c27s5 : ¬ 9223372036854775807 < (x5_1 ++ ((rd_T68 y182 0).f1)).size + 1 := Nat.not_lt.2 c27
                             have H' := Aside0.mk H
                             clear H
                             have p19 : 0 ≤ (0 : Int) := (by omega)
                             have q19 : (0 : Int) < ((t177.length : Int) : Int) := of_decide_eq_true (by first | (with_reducible assumption) | assumption)
                             have qi19 : (0 < t177.length) = True := eq_true (by omega)
                             obtain ⟨go19, co19, eo19, gb19, gl19, cl19, HG19⟩ := Kd.R_form HO_8.out (by omega)
                             (first | cases eo19 | (injection eo19 with ea_ en_ ec_; (first | subst ea_ | (injection ea_ with ea_; subst ea_)); subst ec_; clear en_))
                             have GB19 := Aside0.mk gb19
                             have GG19 := Aside0.mk HG19
                             clear gb19 gl19 HG19
                             obtain ⟨ce19, hcl19, hM19, hcc19, hfr19⟩ := Kd.R_elem HO_8.out z68 (0 : Int) p19 q19
                             obtain rfl := k68_openM hM19
                             have hx19_0 : wc.cell? ⟨go19, (0 : Int).toNat * 4, none⟩ = some (.int .i64 ((rd_T68 t177 0).f0)) := hcc19 0 _ rfl
                             have hx19_1 : wc.cell? ⟨go19, (0 : Int).toNat * 4 + 1, none⟩ = some (.string ((rd_T68 t177 0).f1)) := hcc19 1 _ rfl
                             have hx19_2 : wc.cell? ⟨go19, (0 : Int).toNat * 4 + 2, none⟩ = some (.int .i64 ((rd_T68 t177 0).f2)) := hcc19 2 _ rfl
                             have hx19_3 : wc.cell? ⟨go19, (0 : Int).toNat * 4 + 3, none⟩ = some (.int .i64 ((rd_T68 t177 0).f3)) := hcc19 3 _ rfl
                             have hf19_0 : wc.frozen? ⟨go19, (0 : Int).toNat * 4, none⟩ = false := hfr19 0
                             have hf19_1 : wc.frozen? ⟨go19, (0 : Int).toNat * 4 + 1, none⟩ = false := hfr19 1
                             have hf19_2 : wc.frozen? ⟨go19, (0 : Int).toNat * 4 + 2, none⟩ = false := hfr19 2
                             have hf19_3 : wc.frozen? ⟨go19, (0 : Int).toNat * 4 + 3, none⟩ = false := hfr19 3
                             clear hcl19 hcc19 hfr19 hM19
                             (try rw [show ((0 : Int)).toNat = 0 from rfl] at hx19_0)
                             (try simp only [Nat.reduceMul, Nat.zero_mul, Nat.zero_add, Nat.reduceAdd] at hx19_0)
                             (try rw [show ((0 : Int)).toNat = 0 from rfl] at hf19_0)
                             (try simp only [Nat.reduceMul, Nat.zero_mul, Nat.zero_add, Nat.reduceAdd] at hf19_0)
                             (try rw [show ((0 : Int)).toNat = 0 from rfl] at hx19_1)
                             (try simp only [Nat.reduceMul, Nat.zero_mul, Nat.zero_add, Nat.reduceAdd] at hx19_1)
                             (try rw [show ((0 : Int)).toNat = 0 from rfl] at hf19_1)
                             (try simp only [Nat.reduceMul, Nat.zero_mul, Nat.zero_add, Nat.reduceAdd] at hf19_1)
                             (try rw [show ((0 : Int)).toNat = 0 from rfl] at hx19_2)
                             (try simp only [Nat.reduceMul, Nat.zero_mul, Nat.zero_add, Nat.reduceAdd] at hx19_2)
                             (try rw [show ((0 : Int)).toNat = 0 from rfl] at hf19_2)
                             (try simp only [Nat.reduceMul, Nat.zero_mul, Nat.zero_add, Nat.reduceAdd] at hf19_2)
                             (try rw [show ((0 : Int)).toNat = 0 from rfl] at hx19_3)
                             (try simp only [Nat.reduceMul, Nat.zero_mul, Nat.zero_add, Nat.reduceAdd] at hx19_3)
                             (try rw [show ((0 : Int)).toNat = 0 from rfl] at hf19_3)
                             (try simp only [Nat.reduceMul, Nat.zero_mul, Nat.zero_add, Nat.reduceAdd] at hf19_3)
                             replace p19 := eq_true p19
                             replace q19 := eq_true q19
                             have HX28 := Aside0.mk (show Kd.R k68 68 wc w.heap.size (fun k_ => some k_ ≠ (u6 : Value).ownBlock) (.slice (some ⟨go19, 0, none⟩) t177.length co19) t177 from (by (with_reducible repeat (first | apply Kd.R_alloc | apply Kd.R_drewN | apply Kd.R_drew)); exact HO_8.out))
                             obtain ⟨ce28, hcl28, hM28, hcc28, hfr28⟩ := Kd.R_elem HX28.out z68 (0 : Int) (by omega) (by have h_ : (0 : Int) < ((t177.length : Int) : Int) := of_decide_eq_true (by first | (with_reducible assumption) | assumption); first | exact h_ | (have e_ := (Kd.R_reads' HO_8.out).1; omega) | simpa using h_)
                             obtain rfl := k68_openM hM28
                             have HP28 := Kd.R_seg HX28.out (0 : Int) (by omega) (by have h_ : (0 : Int) < ((t177.length : Int) : Int) := of_decide_eq_true (by first | (with_reducible assumption) | assumption); first | exact h_ | (have e_ := (Kd.R_reads' HO_8.out).1; omega) | simpa using h_) (seg := [.int .i64 (x5_1.size : Int)]) (j := 3) hcl28 hcc28 (show 4 ≤ 4 from by decide) (x' := (⟨(rd_T68 t177 0).f0, (rd_T68 t177 0).f1, (rd_T68 t177 0).f2, (x5_1.size : Int)⟩ : S68)) (k68_mkM _ _ _ (⟨(rd_T68 t177 0).f0, (rd_T68 t177 0).f1, (rd_T68 t177 0).f2, (x5_1.size : Int)⟩ : S68) ) (fun _ hk => hk)
                             have hx28_3 := hcc28 3 _ rfl
                             (try simp only [show (k68).sz = 4 from rfl, Nat.mul_one, Nat.add_zero] at hx28_3)
                             (try rw [show ((0 : Int)).toNat = 0 from rfl] at hx28_3)
                             (try simp only [Nat.reduceMul, Nat.zero_mul, Nat.zero_add, Nat.reduceAdd] at hx28_3)
                             have hf28_3 := hfr28 3
                             (try simp only [show (k68).sz = 4 from rfl, Nat.mul_one, Nat.add_zero] at hf28_3)
                             (try rw [show ((0 : Int)).toNat = 0 from rfl] at hf28_3)
                             (try simp only [Nat.reduceMul, Nat.zero_mul, Nat.zero_add, Nat.reduceAdd] at hf28_3)
                             clear hcl28 hcc28 hfr28 hM28
                             go_wp2_with (first | ((with_reducible refine gate_store (t := 3) (p := 52) rfl ?_); refine store_event (t := 3) (p := 52) (v := ?vo_w29) (w1 := (wc.setCell ⟨go19, 3, none⟩ (.int .i64 (x5_1.size : Int)))) ?hg ?ho ?hn ?hr ?_; (case ho => rfl); (case hg => rfl); (case hn => rfl); (case hr => first | (go_simp; done) | (go_simp; rfl)); intro w29 hw; have hg : wc.grownBy w29 (some go19) := (by rw [hw]; exact HP28.2); have hp_ : Kd.R k68 68 w29 w.heap.size (fun k_ => some k_ ≠ (u6 : Value).ownBlock) (.slice (some ⟨go19, 0, none⟩) t177.length co19) y182 := (by rw [hw, Ny182.out]; exact HP28.1); clear HP28; have n0_ := Aside0.mk (Kd.R_after (v := (.slice (some ⟨go19, 0, none⟩) t177.length co19)) (v1 := (.slice (some ⟨go19, 0, none⟩) t177.length co19)) (ok := (fun _ => True)) (by (with_reducible repeat (first | apply Kd.R_alloc | apply Kd.R_drewN | apply Kd.R_drew)); exact Kd.R_mono HO_6.out (fun _ hk => ⟨trivial, hk⟩)) hg (.inl rfl)); have n1_ := Aside0.mk (hp_); have n2_ := Aside0.mk ((by rw [hw]; exact below_set (HB.out) GB19.out : Below w.heap.size w w29)); clear HO_6; clear HO_8; clear HB; have HO_6 := n0_; have HO_8 := n1_; have HB := n2_; clear n0_ n1_ n2_; clear hg hw hp_; have p183 : 0 ≤ (0 : Int) := (by omega); have q183 : 0 < (y182.length : Int) := (by have h_ : (0 : Int) < ((t177.length : Int) : Int) := of_decide_eq_true (by first | (with_reducible assumption) | assumption); first | (have e_ := (Kd.R_reads' HO_8.out).1; omega) | simpa only [Ny182.out, List.length_set] using h_); have ql183 : ((0 : Int) < ((t177.length : Int) : Int)) = True := eq_true (of_decide_eq_true (by first | (with_reducible assumption) | assumption)); (try have qn183 : (0 < t177.length) = True := eq_true (by have h_ : (0 : Int) < ((t177.length : Int) : Int) := of_decide_eq_true (by first | (with_reducible assumption) | assumption); omega)); obtain ⟨ad183, e183, hx183_0, hx183_1, hx183_2, hx183_3⟩ := at_T68 (Kd.R_reads' HO_8.out).2.2 0 p183 q183; obtain rfl : (⟨go19, 0, none⟩ : Addr) = ad183 := (by injection e183); (first | simp only [add_plain] at hx183_0 | simp only [add_at] at hx183_0 | simp only [Addr.add, Nat.zero_add] at hx183_0 | skip); (first | simp only [add_plain] at hx183_1 | simp only [add_at] at hx183_1 | simp only [Addr.add, Nat.zero_add] at hx183_1 | skip); (first | simp only [add_plain] at hx183_2 | simp only [add_at] at hx183_2 | simp only [Addr.add, Nat.zero_add] at hx183_2 | skip); (first | simp only [add_plain] at hx183_3 | simp only [add_at] at hx183_3 | simp only [Addr.add, Nat.zero_add] at hx183_3 | skip); have qi183 : (0 < y182.length) = True := eq_true (by omega); (try rw [show ((0 : Int)).toNat = 0 from rfl] at hx183_0); (try rw [show 0 * 4 = 0 from rfl] at hx183_0); (try rw [Addr.add_zero'] at hx183_0); (try rw [show ((0 : Int)).toNat = 0 from rfl] at hx183_1); (try rw [show 0 * 4 = 0 from rfl] at hx183_1); (try rw [Addr.add_zero'] at hx183_1); (try rw [show ((0 : Int)).toNat = 0 from rfl] at hx183_2); (try rw [show 0 * 4 = 0 from rfl] at hx183_2); (try rw [Addr.add_zero'] at hx183_2); (try rw [show ((0 : Int)).toNat = 0 from rfl] at hx183_3); (try rw [show 0 * 4 = 0 from rfl] at hx183_3); (try rw [Addr.add_zero'] at hx183_3); replace p183 := eq_true p183; replace q183 := eq_true q183) | ((with_reducible refine gate_builtin (b := .append) (xs := #[.tmp 53, .tmp 57]) rfl ?_); (try (refine gate_guard (by rfl) ?_; dsimp only)); at_builtin; refine Kd.R_append k68 (w0 := w) w.heap.size rfl (.tmp 53) (.tmp 57) 63 68 (.agg #[(.int .i64 0), (.string ⟨#[]⟩), (.int .i64 0), (.int .i64 0)]) 40 rfl Tryd.underlying63 info68 rfl (by decide) (by omega) u6 x6_1 (⟨(rd_T68 y182 0).f0, (rd_T68 y182 0).f1, (rd_T68 y182 0).f2, (rd_T68 y182 0).f3⟩ : S68) [.int .i64 ((rd_T68 y182 0).f0), .string ((rd_T68 y182 0).f1), .int .i64 ((rd_T68 y182 0).f2), .int .i64 ((rd_T68 y182 0).f3)] (fun k_ => some k_ ≠ (.slice (some ⟨go19, 0, none⟩) t177.length co19 : Value).ownBlock) (fun _ => False) rfl rfl ?aP (fun _ hk => hk.elim) ?aF ?aO ?aB ?aS ?aL ?_; (case aP => exact k68_mkM _ _ _ (⟨(rd_T68 y182 0).f0, (rd_T68 y182 0).f1, (rd_T68 y182 0).f2, (rd_T68 y182 0).f3⟩ : S68)); (case aB => exact (by repeat (first | (with_reducible first | exact HB.out | apply below_alloc | apply pw_below_drewN | apply below_drew1) | exact HB.out))); (case aF => exact (fun k_ hk => Kd.fresh' (Kd.R_lt (by (with_reducible repeat (first | apply Kd.R_alloc | apply Kd.R_drewN | apply Kd.R_drew)); exact HO_8.out)) k_ hk)); (case aO => exact (by (with_reducible repeat (first | apply Kd.R_alloc | apply Kd.R_drewN | apply Kd.R_drew)); exact Kd.R_mono HO_6.out (fun _ hk => hk.2))); (case aS => exact (below_size (by repeat (first | (with_reducible first | exact HB.out | apply below_alloc | apply pw_below_drewN | apply below_drew1) | exact HB.out)))); (case aL => have := LMc20.out; omega); intro v185 w30 ho hb hg hat; rw [← Ny184.out] at ho; have n0_ := Aside0.mk (Kd.R_after (ok := (fun _ => True)) (by (with_reducible repeat (first | apply Kd.R_alloc | apply Kd.R_drewN | apply Kd.R_drew)); exact Kd.R_mono HO_8.out (fun _ hk => ⟨trivial, hk⟩)) hg hat); have n1_ := Aside0.mk (hb); have n2_ := Aside0.mk (ho); clear HO_8; clear HB; clear HO_6; have HO_8 := n0_; have HB := n1_; have HO186 := n2_; clear n0_ n1_ n2_; clear ho hb hg hat; have p187 : 0 ≤ (0 : Int) := (by omega); have q187 : 0 < (y182.length : Int) := (by have h_ : (0 : Int) < ((t177.length : Int) : Int) := of_decide_eq_true (by first | (with_reducible assumption) | assumption); first | (have e_ := (Kd.R_reads' HO_8.out).1; omega) | simpa only [Ny182.out, List.length_set] using h_); have ql187 : ((0 : Int) < ((t177.length : Int) : Int)) = True := eq_true (of_decide_eq_true (by first | (with_reducible assumption) | assumption)); (try have qn187 : (0 < t177.length) = True := eq_true (by have h_ : (0 : Int) < ((t177.length : Int) : Int) := of_decide_eq_true (by first | (with_reducible assumption) | assumption); omega)); obtain ⟨ad187, e187, hx187_0, hx187_1, hx187_2, hx187_3⟩ := at_T68 (Kd.R_reads' HO_8.out).2.2 0 p187 q187; obtain rfl : (⟨go19, 0, none⟩ : Addr) = ad187 := (by injection e187); (first | simp only [add_plain] at hx187_0 | simp only [add_at] at hx187_0 | simp only [Addr.add, Nat.zero_add] at hx187_0 | skip); (first | simp only [add_plain] at hx187_1 | simp only [add_at] at hx187_1 | simp only [Addr.add, Nat.zero_add] at hx187_1 | skip); (first | simp only [add_plain] at hx187_2 | simp only [add_at] at hx187_2 | simp only [Addr.add, Nat.zero_add] at hx187_2 | skip); (first | simp only [add_plain] at hx187_3 | simp only [add_at] at hx187_3 | simp only [Addr.add, Nat.zero_add] at hx187_3 | skip); have qi187 : (0 < y182.length) = True := eq_true (by omega); (try rw [show ((0 : Int)).toNat = 0 from rfl] at hx187_0); (try rw [show 0 * 4 = 0 from rfl] at hx187_0); (try rw [Addr.add_zero'] at hx187_0); (try rw [show ((0 : Int)).toNat = 0 from rfl] at hx187_1); (try rw [show 0 * 4 = 0 from rfl] at hx187_1); (try rw [Addr.add_zero'] at hx187_1); (try rw [show ((0 : Int)).toNat = 0 from rfl] at hx187_2); (try rw [show 0 * 4 = 0 from rfl] at hx187_2); (try rw [Addr.add_zero'] at hx187_2); (try rw [show ((0 : Int)).toNat = 0 from rfl] at hx187_3); (try rw [show 0 * 4 = 0 from rfl] at hx187_3); (try rw [Addr.add_zero'] at hx187_3); replace p187 := eq_true p187; replace q187 := eq_true q187))
                             go_roundg kj11
                             case measure => have := HK1.out; have := HJ2.out; have := HJ11.out; omega
                             case rel => exact ⟨((x5_1 ++ ((rd_T68 y182 0).f1)) ++ (⟨#[32]⟩ : ByteArray)), (y184), (wrap64 (x7_1 + 1)), (by first | rfl | (simp; done) | (simp [*]; done)), (by first | rfl | (simp; done) | (simp [*]; done)), H', ⟨by have := HK1.out; have := HJ2.out; have := HJ11.out; omega⟩, ⟨by (with_reducible repeat (first | apply Kd.R_alloc | apply Kd.R_drewN | apply Kd.R_drew)); exact Kd.R_mono HO186.out (fun _ hk => trivial)⟩, ⟨by repeat (first | (with_reducible first | exact HB.out | apply below_alloc | apply pw_below_drewN | apply below_drew1) | exact HB.out)⟩⟩
                           · rw [if_neg c27] at H
                             exact absurd H (by simp)
                       · rw [if_neg c21] at H
                         exact absurd H (by simp)
                     · rw [if_neg c20] at H
                       exact absurd H (by simp)
                   · rw [if_neg c18] at H
                     exact absurd H (by simp)
             · rw [if_neg c10] at H
               exact absurd H (by simp)
           · rw [if_neg c9] at H
             exact absurd H (by simp)
         · rw [if_neg c7] at H
           exact absurd H (by simp)
       · rw [if_neg c6] at H
         exact absurd H (by simp)
     · replace c5 := Bool.eq_false_iff.mpr c5
       subst c5
       have H1 : ((lex_Lex.f kj2 x5_1).bind fun bt188 => ((jetsamlaw01_reads.f kj2).bind fun t193 => (if t193 = true then (if bt188.2.2 = 0 then (if bt188.2.1 = 0 then (jetsamlaw01_LexJoins.j3 kj2 x6_1 bt188.1 ((bt188.1.length : Int) != (x6_1.length : Int))) else (jetsamlaw01_LexJoins.j3 kj2 x6_1 bt188.1 true)) else (jetsamlaw01_LexJoins.j3 kj2 x6_1 bt188.1 true)) else (jetsamlaw01_LexJoins.j3 kj2 x6_1 bt188.1 true)))) = some r := by rw [if_neg (show ¬ (false = true) by decide)] at H; exact H
       clear H
       have H := H1
       clear H1
       replace H := Option.bind_eq_some_iff.mp H
       obtain ⟨⟨t188, t189, t190⟩, A310, H⟩ := H
       replace H : ((jetsamlaw01_reads.f kj2).bind fun t193 => (if t193 = true then (if t190 = 0 then (if t189 = 0 then (jetsamlaw01_LexJoins.j3 kj2 x6_1 t188 ((t188.length : Int) != (x6_1.length : Int))) else (jetsamlaw01_LexJoins.j3 kj2 x6_1 t188 true)) else (jetsamlaw01_LexJoins.j3 kj2 x6_1 t188 true)) else (jetsamlaw01_LexJoins.j3 kj2 x6_1 t188 true))) = some r := H
       have A31 := Aside0.mk A310
       clear A310
       have HC32 := Aside0.mk H
       clear H
       go_upto_region 15 with (first | ((with_reducible refine gate_callee (f := 22) rfl ?_); refine goesL_ (some 72) rfl rfl Tryd.func22 (by kernel_rfl) rfl #[.string x5_1] rfl (by (try simp only [List.map_toArray, List.map_cons, List.map_nil]); first | done | rfl | (simp only [List.length_drop, List.length_take]; rfl)) ?_; (with_reducible refine (lex_Lex.calls kj2 x5_1 t188 t189 t190 _ A31.out (by first | exact hL | exact Laid.at hL (by repeat (first | (with_reducible first | exact HB.out | apply below_alloc | apply pw_below_drewN | apply below_drew1) | exact HB.out)))).mono ?_); rintro e w33 ⟨v191, rfl, ho0, hb⟩; refine ⟨_, rfl, ?_⟩; have n0_ := Aside0.mk (Kd.R_below (by (with_reducible repeat (first | apply Kd.R_alloc | apply Kd.R_drewN | apply Kd.R_drew)); exact HO_6.out) hb); have n1_ := Aside0.mk (Kd.R_lower ho0 (below_size (by repeat (first | (with_reducible first | exact HB.out | apply below_alloc | apply pw_below_drewN | apply below_drew1) | exact HB.out)))); have n2_ := Aside0.mk (below_step (by repeat (first | (with_reducible first | exact HB.out | apply below_alloc | apply pw_below_drewN | apply below_drew1) | exact HB.out)) hb); clear HO_6; clear HB; have HO_6 := n0_; have HO192 := n1_; have HB := n2_; clear n0_ n1_ n2_; (try clear hb); (try clear hb2); (try clear hk); (try clear hi); (try clear ho0)))
       (try simp only [Act.put, List.setIfInBounds_toArray, List.set_cons_zero, List.set_cons_succ])
       go_cut [92] (fun v92 wc => ∃ (kq : Nat) (x92_31 : Bool), v92 = .bool x92_31 ∧ Aside0 (jetsamlaw01_LexJoins.j3 kq x6_1 t188 x92_31 = some r) ∧ Aside0 (kq ≤ kj2) ∧ Aside0 (Kd.R k68 68 wc w.heap.size (fun _ => True) u6 x6_1) ∧ Aside0 (Kd.R k67 67 wc w.heap.size (fun _ => True) v191 t188) ∧ Aside0 (Below w.heap.size w wc))
       case first =>
        have H := HC32.out
        clear HC32
        replace H := Option.bind_eq_some_iff.mp H
        obtain ⟨t193, A340, H⟩ := H
        replace H : (if t193 = true then (if t190 = 0 then (if t189 = 0 then (jetsamlaw01_LexJoins.j3 kj2 x6_1 t188 ((t188.length : Int) != (x6_1.length : Int))) else (jetsamlaw01_LexJoins.j3 kj2 x6_1 t188 true)) else (jetsamlaw01_LexJoins.j3 kj2 x6_1 t188 true)) else (jetsamlaw01_LexJoins.j3 kj2 x6_1 t188 true)) = some r := H
        have A34 := Aside0.mk A340
        clear A340
        by_cases c35 : t193 = true
        · subst c35
          have H1 : (if t190 = 0 then (if t189 = 0 then (jetsamlaw01_LexJoins.j3 kj2 x6_1 t188 ((t188.length : Int) != (x6_1.length : Int))) else (jetsamlaw01_LexJoins.j3 kj2 x6_1 t188 true)) else (jetsamlaw01_LexJoins.j3 kj2 x6_1 t188 true)) = some r := by rw [if_pos rfl] at H; exact H
          clear H
          have H := H1
          clear H1
          by_cases c36 : t190 = 0
          · rw [if_pos c36] at H
            have c36b0 : (t190 == 0) = true := beq_iff_eq.mpr c36
            have c36b1 : (t190 != 0) = false := bne_eq_false_iff_eq.mpr c36
            clear c36
            (first | rw [c36b0] | (simp only [i64_w, i32_w]; rw [c36b0]) | skip)
            by_cases c37 : t189 = 0
            · rw [if_pos c37] at H
              have c37b0 : (t189 == 0) = true := beq_iff_eq.mpr c37
              have c37b1 : (t189 != 0) = false := bne_eq_false_iff_eq.mpr c37
              clear c37
              have H' := Aside0.mk H
              clear H
              go_wp2_with (first | ((with_reducible refine gate_callee (f := 24) rfl ?_); refine goesL_ (some 76) rfl rfl Tryd.func24 (by kernel_rfl) rfl #[] rfl (by (try simp only [List.map_toArray, List.map_cons, List.map_nil]); first | done | rfl | (simp only [List.length_drop, List.length_take]; rfl)) ?_; (with_reducible refine (jetsamlaw01_reads.calls kj2  true _ A34.out (by first | exact hL | exact Laid.at hL (by repeat (first | (with_reducible first | exact HB.out | apply below_alloc | apply pw_below_drewN | apply below_drew1) | exact HB.out)))).mono ?_); rintro e w38 ⟨rfl, hb⟩; refine ⟨_, rfl, ?_⟩; have n0_ := Aside0.mk (Kd.R_below (by (with_reducible repeat (first | apply Kd.R_alloc | apply Kd.R_drewN | apply Kd.R_drew)); exact HO_6.out) hb); have n1_ := Aside0.mk (Kd.R_below (by (with_reducible repeat (first | apply Kd.R_alloc | apply Kd.R_drewN | apply Kd.R_drew)); exact HO192.out) hb); have n2_ := Aside0.mk (below_step (by repeat (first | (with_reducible first | exact HB.out | apply below_alloc | apply pw_below_drewN | apply below_drew1) | exact HB.out)) hb); clear HO_6; clear HO192; clear HB; have HO_6 := n0_; have HO192 := n1_; have HB := n2_; clear n0_ n1_ n2_; (try clear hb); (try clear hb2); (try clear hk); (try clear hi); obtain ⟨Ao39, co39, eo39⟩ := Kd.R_slice HO192.out; subst eo39; obtain ⟨Ao40, co40, eo40⟩ := Kd.R_slice HO_6.out; subst eo40))
              go_meet
              case rel => exact ⟨_, (((t188.length : Int) != (x6_1.length : Int))), (by first | rfl | (simp; done) | (simp [*]; done)), H', ⟨by have := HK1.out; have := HJ2.out; first | omega | exact Nat.le_refl _⟩, ⟨by (with_reducible repeat (first | apply Kd.R_alloc | apply Kd.R_drewN | apply Kd.R_drew)); exact HO_6.out⟩, ⟨by (with_reducible repeat (first | apply Kd.R_alloc | apply Kd.R_drewN | apply Kd.R_drew)); exact HO192.out⟩, ⟨by repeat (first | (with_reducible first | exact HB.out | apply below_alloc | apply pw_below_drewN | apply below_drew1) | exact HB.out)⟩⟩
            · rw [if_neg c37] at H
              have c37b0 : (t189 == 0) = false := beq_eq_false_iff_ne.mpr c37
              have c37b1 : (t189 != 0) = true := bne_iff_ne.mpr c37
              have H' := Aside0.mk H
              clear H
              go_wp2_with (first | ((with_reducible refine gate_callee (f := 24) rfl ?_); refine goesL_ (some 76) rfl rfl Tryd.func24 (by kernel_rfl) rfl #[] rfl (by (try simp only [List.map_toArray, List.map_cons, List.map_nil]); first | done | rfl | (simp only [List.length_drop, List.length_take]; rfl)) ?_; (with_reducible refine (jetsamlaw01_reads.calls kj2  true _ A34.out (by first | exact hL | exact Laid.at hL (by repeat (first | (with_reducible first | exact HB.out | apply below_alloc | apply pw_below_drewN | apply below_drew1) | exact HB.out)))).mono ?_); rintro e w41 ⟨rfl, hb⟩; refine ⟨_, rfl, ?_⟩; have n0_ := Aside0.mk (Kd.R_below (by (with_reducible repeat (first | apply Kd.R_alloc | apply Kd.R_drewN | apply Kd.R_drew)); exact HO_6.out) hb); have n1_ := Aside0.mk (Kd.R_below (by (with_reducible repeat (first | apply Kd.R_alloc | apply Kd.R_drewN | apply Kd.R_drew)); exact HO192.out) hb); have n2_ := Aside0.mk (below_step (by repeat (first | (with_reducible first | exact HB.out | apply below_alloc | apply pw_below_drewN | apply below_drew1) | exact HB.out)) hb); clear HO_6; clear HO192; clear HB; have HO_6 := n0_; have HO192 := n1_; have HB := n2_; clear n0_ n1_ n2_; (try clear hb); (try clear hb2); (try clear hk); (try clear hi)))
              go_meet
              case rel => exact ⟨_, (true), (by first | rfl | (simp; done) | (simp [*]; done)), H', ⟨by have := HK1.out; have := HJ2.out; first | omega | exact Nat.le_refl _⟩, ⟨by (with_reducible repeat (first | apply Kd.R_alloc | apply Kd.R_drewN | apply Kd.R_drew)); exact HO_6.out⟩, ⟨by (with_reducible repeat (first | apply Kd.R_alloc | apply Kd.R_drewN | apply Kd.R_drew)); exact HO192.out⟩, ⟨by repeat (first | (with_reducible first | exact HB.out | apply below_alloc | apply pw_below_drewN | apply below_drew1) | exact HB.out)⟩⟩
          · rw [if_neg c36] at H
            have c36b0 : (t190 == 0) = false := beq_eq_false_iff_ne.mpr c36
            have c36b1 : (t190 != 0) = true := bne_iff_ne.mpr c36
            (first | rw [c36b0] | (simp only [i64_w, i32_w]; rw [c36b0]) | skip)
            have H' := Aside0.mk H
            clear H
            go_wp2_with (first | ((with_reducible refine gate_callee (f := 24) rfl ?_); refine goesL_ (some 76) rfl rfl Tryd.func24 (by kernel_rfl) rfl #[] rfl (by (try simp only [List.map_toArray, List.map_cons, List.map_nil]); first | done | rfl | (simp only [List.length_drop, List.length_take]; rfl)) ?_; (with_reducible refine (jetsamlaw01_reads.calls kj2  true _ A34.out (by first | exact hL | exact Laid.at hL (by repeat (first | (with_reducible first | exact HB.out | apply below_alloc | apply pw_below_drewN | apply below_drew1) | exact HB.out)))).mono ?_); rintro e w42 ⟨rfl, hb⟩; refine ⟨_, rfl, ?_⟩; have n0_ := Aside0.mk (Kd.R_below (by (with_reducible repeat (first | apply Kd.R_alloc | apply Kd.R_drewN | apply Kd.R_drew)); exact HO_6.out) hb); have n1_ := Aside0.mk (Kd.R_below (by (with_reducible repeat (first | apply Kd.R_alloc | apply Kd.R_drewN | apply Kd.R_drew)); exact HO192.out) hb); have n2_ := Aside0.mk (below_step (by repeat (first | (with_reducible first | exact HB.out | apply below_alloc | apply pw_below_drewN | apply below_drew1) | exact HB.out)) hb); clear HO_6; clear HO192; clear HB; have HO_6 := n0_; have HO192 := n1_; have HB := n2_; clear n0_ n1_ n2_; (try clear hb); (try clear hb2); (try clear hk); (try clear hi)))
            go_meet
            case rel => exact ⟨_, (true), (by first | rfl | (simp; done) | (simp [*]; done)), H', ⟨by have := HK1.out; have := HJ2.out; first | omega | exact Nat.le_refl _⟩, ⟨by (with_reducible repeat (first | apply Kd.R_alloc | apply Kd.R_drewN | apply Kd.R_drew)); exact HO_6.out⟩, ⟨by (with_reducible repeat (first | apply Kd.R_alloc | apply Kd.R_drewN | apply Kd.R_drew)); exact HO192.out⟩, ⟨by repeat (first | (with_reducible first | exact HB.out | apply below_alloc | apply pw_below_drewN | apply below_drew1) | exact HB.out)⟩⟩
        · replace c35 := Bool.eq_false_iff.mpr c35
          subst c35
          have H1 : (jetsamlaw01_LexJoins.j3 kj2 x6_1 t188 true) = some r := by rw [if_neg (show ¬ (false = true) by decide)] at H; exact H
          clear H
          have H := H1
          clear H1
          have H' := Aside0.mk H
          clear H
          go_wp2_with (first | ((with_reducible refine gate_callee (f := 24) rfl ?_); refine goesL_ (some 76) rfl rfl Tryd.func24 (by kernel_rfl) rfl #[] rfl (by (try simp only [List.map_toArray, List.map_cons, List.map_nil]); first | done | rfl | (simp only [List.length_drop, List.length_take]; rfl)) ?_; (with_reducible refine (jetsamlaw01_reads.calls kj2  false _ A34.out (by first | exact hL | exact Laid.at hL (by repeat (first | (with_reducible first | exact HB.out | apply below_alloc | apply pw_below_drewN | apply below_drew1) | exact HB.out)))).mono ?_); rintro e w43 ⟨rfl, hb⟩; refine ⟨_, rfl, ?_⟩; have n0_ := Aside0.mk (Kd.R_below (by (with_reducible repeat (first | apply Kd.R_alloc | apply Kd.R_drewN | apply Kd.R_drew)); exact HO_6.out) hb); have n1_ := Aside0.mk (Kd.R_below (by (with_reducible repeat (first | apply Kd.R_alloc | apply Kd.R_drewN | apply Kd.R_drew)); exact HO192.out) hb); have n2_ := Aside0.mk (below_step (by repeat (first | (with_reducible first | exact HB.out | apply below_alloc | apply pw_below_drewN | apply below_drew1) | exact HB.out)) hb); clear HO_6; clear HO192; clear HB; have HO_6 := n0_; have HO192 := n1_; have HB := n2_; clear n0_ n1_ n2_; (try clear hb); (try clear hb2); (try clear hk); (try clear hi)))
          go_meet
          case rel => exact ⟨_, (true), (by first | rfl | (simp; done) | (simp [*]; done)), H', ⟨by have := HK1.out; have := HJ2.out; first | omega | exact Nat.le_refl _⟩, ⟨by (with_reducible repeat (first | apply Kd.R_alloc | apply Kd.R_drewN | apply Kd.R_drew)); exact HO_6.out⟩, ⟨by (with_reducible repeat (first | apply Kd.R_alloc | apply Kd.R_drewN | apply Kd.R_drew)); exact HO192.out⟩, ⟨by repeat (first | (with_reducible first | exact HB.out | apply below_alloc | apply pw_below_drewN | apply below_drew1) | exact HB.out)⟩⟩
       case rest =>
        clear HC32
        try clear c1
        try clear p1
        try clear q1
        try clear hx1
        try clear qi1
        try clear c2
        try clear p2
        try clear hx2
        try clear hf2
        try clear c3
        try clear c4
        try clear c4b0
        try clear c5
        try clear c6
        try clear c6b0
        try clear p6
        try clear c7
        try clear c7b0
        try clear c9
        try clear c9b0
        try clear c9b1
        try clear c10
        try clear c10b0
        try clear c10b1
        try clear c15
        try clear c15b0
        try clear c15b1
        try clear c17
        try clear p17
        try clear q17
        try clear hx17
        try clear c18
        try clear c18b0
        try clear c18b1
        try clear p18
        try clear q18
        try clear hx18
        try clear qi18
        try clear c19
        try clear p19
        try clear q19
        try clear hx19
        try clear qi19
        try clear hf19
        try clear c20
        try clear c21
        try clear c21b0
        try clear c21b1
        try clear c21b2
        try clear c22
        try clear c23
        try clear c23b0
        try clear c23b1
        try clear c23b2
        try clear c24
        try clear hx24
        try clear hf24
        try clear c27
        try clear c27b0
        try clear c27b1
        try clear c27b2
        try clear c28
        try clear hx28
        try clear hf28
        try clear c35
        try clear c36
        try clear c36b0
        try clear c36b1
        try clear c37
        try clear c37b0
        try clear c37b1
        try clear hx175_0
        try clear hx176_0
        try clear hx183_0
        try clear hx183_1
        try clear hx183_2
        try clear hx183_3
        try clear hx187_0
        try clear hx187_1
        try clear hx187_2
        try clear hx187_3
        try clear hx19_0
        try clear hx19_1
        try clear hx19_2
        try clear hx19_3
        try clear hx24_3
        try clear hx28_3
        try clear p1
        try clear p175
        try clear p176
        try clear p183
        try clear p187
        try clear p19
        try clear p2
        try clear q1
        try clear q175
        try clear q176
        try clear q183
        try clear q187
        try clear q19
        obtain ⟨kq, x92_31, rfl, HA, HJ31, HO_6, HO_11, HB⟩ := hcut
        cases kq with
        | zero => exact absurd HA.out (by simp [jetsamlaw01_LexJoins.j3])
        | succ kj31 =>
         have H := HA.out
         clear HA
         simp only [jetsamlaw01_LexJoins.j3] at H
         by_cases c44 : x92_31 = true
         · subst c44
           have H1 : (some false) = some r := by rw [if_pos rfl] at H; exact H
           clear H
           have H := H1
           clear H1
           obtain rfl := Option.some.inj H
           go_wp2
           go_ret
           exact ⟨by first | rfl | (simp [errW_none, errW_some] <;> rfl) | (simp [*, errW_none, errW_some] <;> rfl), by repeat (first | (with_reducible first | exact HB.out | apply below_alloc | apply pw_below_drewN | apply below_drew1) | exact HB.out)⟩
         · replace c44 := Bool.eq_false_iff.mpr c44
           subst c44
           have H1 : (jetsamlaw01_LexJoins.l1 kj31 x6_1 t188 0) = some r := by rw [if_neg (show ¬ (false = true) by decide)] at H; exact H
           clear H
           have H := H1
           clear H1
           have H' := Aside0.mk H
           clear H
           go_wp2
           go_loopg [14] kj31 (fun kq v14 w' => ∃ (x14_4 : Int), v14 = .int .i64 x14_4 ∧ Aside0 (jetsamlaw01_LexJoins.l1 kq x6_1 t188 x14_4 = some r) ∧ Aside0 (kq ≤ kj31) ∧ Aside0 (Kd.R k68 68 w' w.heap.size (fun _ => True) u6 x6_1) ∧ Aside0 (Kd.R k67 67 w' w.heap.size (fun _ => True) v191 t188) ∧ Aside0 (Below w.heap.size w w'))
           case atStart => exact ⟨(0), (by first | rfl | (simp; done) | (simp [*]; done)), H', ⟨Nat.le_refl _⟩, ⟨by (with_reducible repeat (first | apply Kd.R_alloc | apply Kd.R_drewN | apply Kd.R_drew)); exact HO_6.out⟩, ⟨by (with_reducible repeat (first | apply Kd.R_alloc | apply Kd.R_drewN | apply Kd.R_drew)); exact HO_11.out⟩, ⟨by repeat (first | (with_reducible first | exact HB.out | apply below_alloc | apply pw_below_drewN | apply below_drew1) | exact HB.out)⟩⟩
           case round =>
            clear H'
            try clear c1
            try clear p1
            try clear q1
            try clear hx1
            try clear qi1
            try clear c2
            try clear p2
            try clear hx2
            try clear hf2
            try clear c3
            try clear c4
            try clear c4b0
            try clear c5
            try clear c6
            try clear c6b0
            try clear p6
            try clear c7
            try clear c7b0
            try clear c9
            try clear c9b0
            try clear c9b1
            try clear c10
            try clear c10b0
            try clear c10b1
            try clear c15
            try clear c15b0
            try clear c15b1
            try clear c17
            try clear p17
            try clear q17
            try clear hx17
            try clear c18
            try clear c18b0
            try clear c18b1
            try clear p18
            try clear q18
            try clear hx18
            try clear qi18
            try clear c19
            try clear p19
            try clear q19
            try clear hx19
            try clear qi19
            try clear hf19
            try clear c20
            try clear c21
            try clear c21b0
            try clear c21b1
            try clear c21b2
            try clear c22
            try clear c23
            try clear c23b0
            try clear c23b1
            try clear c23b2
            try clear c24
            try clear hx24
            try clear hf24
            try clear c27
            try clear c27b0
            try clear c27b1
            try clear c27b2
            try clear c28
            try clear hx28
            try clear hf28
            try clear c35
            try clear c36
            try clear c36b0
            try clear c36b1
            try clear c37
            try clear c37b0
            try clear c37b1
            try clear c44
            try clear hx175_0
            try clear hx176_0
            try clear hx183_0
            try clear hx183_1
            try clear hx183_2
            try clear hx183_3
            try clear hx187_0
            try clear hx187_1
            try clear hx187_2
            try clear hx187_3
            try clear hx19_0
            try clear hx19_1
            try clear hx19_2
            try clear hx19_3
            try clear hx24_3
            try clear hx28_3
            try clear p1
            try clear p17
            try clear p175
            try clear p176
            try clear p18
            try clear p183
            try clear p187
            try clear p19
            try clear p2
            try clear p6
            try clear q1
            try clear q17
            try clear q175
            try clear q176
            try clear q18
            try clear q183
            try clear q187
            try clear q19
            obtain ⟨x14_4, rfl, HA, HK4, HO_6, HO_11, HB⟩ := hrel
            cases gk with
            | zero => exact absurd HA.out (by simp [jetsamlaw01_LexJoins.l1])
            | succ k4 =>
             have H := HA.out
             clear HA
             simp only [jetsamlaw01_LexJoins.l1] at H
             by_cases c45 : x14_4 < (t188.length : Int)
             · rw [if_pos c45] at H
               have c45b0 : decide (x14_4 < (t188.length : Int)) = true := decide_eq_true c45
               clear c45
               by_cases c46 : 0 ≤ x14_4
               · rw [if_pos c46] at H
                 have c46b0 : decide (0 ≤ x14_4) = true := decide_eq_true c46
                 clear c46
                 by_cases c47 : x14_4 < (x6_1.length : Int)
                 · rw [if_pos c47] at H
                   have c47b0 : decide (x14_4 < (x6_1.length : Int)) = true := decide_eq_true c47
                   clear c47
                   by_cases c48 : ((rd_T67 t188 x14_4).f0) = ((rd_T68 x6_1 x14_4).f0)
                   · rw [if_pos c48] at H
                     have c48b0 : (((rd_T67 t188 x14_4).f0) == ((rd_T68 x6_1 x14_4).f0)) = true := beq_iff_eq.mpr c48
                     have c48b1 : (((rd_T67 t188 x14_4).f0) != ((rd_T68 x6_1 x14_4).f0)) = false := bne_eq_false_iff_eq.mpr c48
                     clear c48
                     by_cases c49 : ((rd_T67 t188 x14_4).f1).toList = ((rd_T68 x6_1 x14_4).f1).toList
                     · rw [if_pos c49] at H
                       have c49b0 : (((rd_T67 t188 x14_4).f1).toList == ((rd_T68 x6_1 x14_4).f1).toList) = true := beq_iff_eq.mpr c49
                       have c49b1 : (((rd_T67 t188 x14_4).f1).toList != ((rd_T68 x6_1 x14_4).f1).toList) = false := bne_eq_false_iff_eq.mpr c49
                       clear c49
                       by_cases c50 : ((rd_T67 t188 x14_4).f2) = ((rd_T68 x6_1 x14_4).f2)
                       · rw [if_pos c50] at H
                         have c50b0 : (((rd_T67 t188 x14_4).f2) == ((rd_T68 x6_1 x14_4).f2)) = true := beq_iff_eq.mpr c50
                         have c50b1 : (((rd_T67 t188 x14_4).f2) != ((rd_T68 x6_1 x14_4).f2)) = false := bne_eq_false_iff_eq.mpr c50
                         clear c50
                         by_cases c51 : ((rd_T67 t188 x14_4).f3) = ((rd_T68 x6_1 x14_4).f3)
                         · rw [if_pos c51] at H
                           have c51b0 : (((rd_T67 t188 x14_4).f3) == ((rd_T68 x6_1 x14_4).f3)) = true := beq_iff_eq.mpr c51
                           have c51b1 : (((rd_T67 t188 x14_4).f3) != ((rd_T68 x6_1 x14_4).f3)) = false := bne_eq_false_iff_eq.mpr c51
                           clear c51
                           have H' := Aside0.mk H
                           clear H
                           obtain ⟨Ao52, co52, eo52⟩ := Kd.R_slice HO_11.out
                           subst eo52
                           try go_wp2
                           have n0_ := Aside0.mk (Kd.R_drew HO_6.out)
                           have n1_ := Aside0.mk (Kd.R_drew HO_11.out)
                           have n2_ := Aside0.mk (below_drew1 HB.out)
                           clear HO_6
                           clear HO_11
                           clear HB
                           have HO_6 := n0_
                           have HO_11 := n1_
                           have HB := n2_
                           clear n0_ n1_ n2_
                           have p194 : 0 ≤ (x14_4 : Int) := of_decide_eq_true (by first | (with_reducible assumption) | assumption)
                           have q194 : x14_4 < (t188.length : Int) := of_decide_eq_true (by first | (with_reducible assumption) | assumption)
                           obtain ⟨ad194, e194, hx194_0, hx194_1, hx194_2, hx194_3⟩ := at_T67 (Kd.R_reads' HO_11.out).2.2 x14_4 p194 q194
                           cases e194
                           replace p194 := eq_true p194
                           replace q194 := eq_true q194
                           obtain ⟨Ao54, co54, eo54⟩ := Kd.R_slice HO_6.out
                           (first | subst eo54 | (injection eo54 with f1_ f2_ f3_; have f4_ := f1_.symm; have f5_ := f3_.symm; clear f1_ f2_ f3_; subst f4_; subst f5_))
                           have p195 : 0 ≤ (x14_4 : Int) := of_decide_eq_true (by first | (with_reducible assumption) | assumption)
                           have q195 : x14_4 < (x6_1.length : Int) := of_decide_eq_true (by first | (with_reducible assumption) | assumption)
                           obtain ⟨ad195, e195, hx195_0, hx195_1, hx195_2, hx195_3⟩ := at_T68 (Kd.R_reads' HO_6.out).2.2 x14_4 p195 q195
                           cases e195
                           replace p195 := eq_true p195
                           replace q195 := eq_true q195
                           have p196 : 0 ≤ (x14_4 : Int) := of_decide_eq_true (by first | (with_reducible assumption) | assumption)
                           have q196 : x14_4 < (t188.length : Int) := of_decide_eq_true (by first | (with_reducible assumption) | assumption)
                           obtain ⟨ad196, e196, hx196_0, hx196_1, hx196_2, hx196_3⟩ := at_T67 (Kd.R_reads' HO_11.out).2.2 x14_4 p196 q196
                           obtain rfl : ad194 = ad196 := (by injection e196)
                           replace p196 := eq_true p196
                           replace q196 := eq_true q196
                           have p197 : 0 ≤ (x14_4 : Int) := of_decide_eq_true (by first | (with_reducible assumption) | assumption)
                           have q197 : x14_4 < (x6_1.length : Int) := of_decide_eq_true (by first | (with_reducible assumption) | assumption)
                           obtain ⟨ad197, e197, hx197_0, hx197_1, hx197_2, hx197_3⟩ := at_T68 (Kd.R_reads' HO_6.out).2.2 x14_4 p197 q197
                           obtain rfl : ad195 = ad197 := (by injection e197)
                           replace p197 := eq_true p197
                           replace q197 := eq_true q197
                           have p198 : 0 ≤ (x14_4 : Int) := of_decide_eq_true (by first | (with_reducible assumption) | assumption)
                           have q198 : x14_4 < (t188.length : Int) := of_decide_eq_true (by first | (with_reducible assumption) | assumption)
                           obtain ⟨ad198, e198, hx198_0, hx198_1, hx198_2, hx198_3⟩ := at_T67 (Kd.R_reads' HO_11.out).2.2 x14_4 p198 q198
                           obtain rfl : ad194 = ad198 := (by injection e198)
                           replace p198 := eq_true p198
                           replace q198 := eq_true q198
                           have p199 : 0 ≤ (x14_4 : Int) := of_decide_eq_true (by first | (with_reducible assumption) | assumption)
                           have q199 : x14_4 < (x6_1.length : Int) := of_decide_eq_true (by first | (with_reducible assumption) | assumption)
                           obtain ⟨ad199, e199, hx199_0, hx199_1, hx199_2, hx199_3⟩ := at_T68 (Kd.R_reads' HO_6.out).2.2 x14_4 p199 q199
                           obtain rfl : ad195 = ad199 := (by injection e199)
                           replace p199 := eq_true p199
                           replace q199 := eq_true q199
                           have p200 : 0 ≤ (x14_4 : Int) := of_decide_eq_true (by first | (with_reducible assumption) | assumption)
                           have q200 : x14_4 < (t188.length : Int) := of_decide_eq_true (by first | (with_reducible assumption) | assumption)
                           obtain ⟨ad200, e200, hx200_0, hx200_1, hx200_2, hx200_3⟩ := at_T67 (Kd.R_reads' HO_11.out).2.2 x14_4 p200 q200
                           obtain rfl : ad194 = ad200 := (by injection e200)
                           replace p200 := eq_true p200
                           replace q200 := eq_true q200
                           have p201 : 0 ≤ (x14_4 : Int) := of_decide_eq_true (by first | (with_reducible assumption) | assumption)
                           have q201 : x14_4 < (x6_1.length : Int) := of_decide_eq_true (by first | (with_reducible assumption) | assumption)
                           obtain ⟨ad201, e201, hx201_0, hx201_1, hx201_2, hx201_3⟩ := at_T68 (Kd.R_reads' HO_6.out).2.2 x14_4 p201 q201
                           obtain rfl : ad195 = ad201 := (by injection e201)
                           replace p201 := eq_true p201
                           replace q201 := eq_true q201
                           refine start_ (n := 50) (S := fun w' => w'.cell? (ad194.add ((x14_4).toNat * 4)) = some (.int .i64 ((rd_T67 t188 x14_4).f0)) ∧ w'.cell? ⟨(ad194.add ((x14_4).toNat * 4)).block, (ad194.add ((x14_4).toNat * 4)).off + 1, none⟩ = some (.string ((rd_T67 t188 x14_4).f1)) ∧ w'.cell? ⟨(ad194.add ((x14_4).toNat * 4)).block, (ad194.add ((x14_4).toNat * 4)).off + 2, none⟩ = some (.int .i64 ((rd_T67 t188 x14_4).f2)) ∧ w'.cell? ⟨(ad194.add ((x14_4).toNat * 4)).block, (ad194.add ((x14_4).toNat * 4)).off + 3, none⟩ = some (.int .i64 ((rd_T67 t188 x14_4).f3)) ∧ w'.cell? (ad195.add ((x14_4).toNat * 4)) = some (.int .i64 ((rd_T68 x6_1 x14_4).f0)) ∧ w'.cell? ⟨(ad195.add ((x14_4).toNat * 4)).block, (ad195.add ((x14_4).toNat * 4)).off + 1, none⟩ = some (.string ((rd_T68 x6_1 x14_4).f1)) ∧ w'.cell? ⟨(ad195.add ((x14_4).toNat * 4)).block, (ad195.add ((x14_4).toNat * 4)).off + 2, none⟩ = some (.int .i64 ((rd_T68 x6_1 x14_4).f2)) ∧ w'.cell? ⟨(ad195.add ((x14_4).toNat * 4)).block, (ad195.add ((x14_4).toNat * 4)).off + 3, none⟩ = some (.int .i64 ((rd_T68 x6_1 x14_4).f3)) ∧ w'.cell? (ad194.add ((x14_4).toNat * 4)) = some (.int .i64 ((rd_T67 t188 x14_4).f0)) ∧ w'.cell? ⟨(ad194.add ((x14_4).toNat * 4)).block, (ad194.add ((x14_4).toNat * 4)).off + 1, none⟩ = some (.string ((rd_T67 t188 x14_4).f1)) ∧ w'.cell? ⟨(ad194.add ((x14_4).toNat * 4)).block, (ad194.add ((x14_4).toNat * 4)).off + 2, none⟩ = some (.int .i64 ((rd_T67 t188 x14_4).f2)) ∧ w'.cell? ⟨(ad194.add ((x14_4).toNat * 4)).block, (ad194.add ((x14_4).toNat * 4)).off + 3, none⟩ = some (.int .i64 ((rd_T67 t188 x14_4).f3)) ∧ w'.cell? (ad195.add ((x14_4).toNat * 4)) = some (.int .i64 ((rd_T68 x6_1 x14_4).f0)) ∧ w'.cell? ⟨(ad195.add ((x14_4).toNat * 4)).block, (ad195.add ((x14_4).toNat * 4)).off + 1, none⟩ = some (.string ((rd_T68 x6_1 x14_4).f1)) ∧ w'.cell? ⟨(ad195.add ((x14_4).toNat * 4)).block, (ad195.add ((x14_4).toNat * 4)).off + 2, none⟩ = some (.int .i64 ((rd_T68 x6_1 x14_4).f2)) ∧ w'.cell? ⟨(ad195.add ((x14_4).toNat * 4)).block, (ad195.add ((x14_4).toNat * 4)).off + 3, none⟩ = some (.int .i64 ((rd_T68 x6_1 x14_4).f3)) ∧ w'.cell? (ad194.add ((x14_4).toNat * 4)) = some (.int .i64 ((rd_T67 t188 x14_4).f0)) ∧ w'.cell? ⟨(ad194.add ((x14_4).toNat * 4)).block, (ad194.add ((x14_4).toNat * 4)).off + 1, none⟩ = some (.string ((rd_T67 t188 x14_4).f1)) ∧ w'.cell? ⟨(ad194.add ((x14_4).toNat * 4)).block, (ad194.add ((x14_4).toNat * 4)).off + 2, none⟩ = some (.int .i64 ((rd_T67 t188 x14_4).f2)) ∧ w'.cell? ⟨(ad194.add ((x14_4).toNat * 4)).block, (ad194.add ((x14_4).toNat * 4)).off + 3, none⟩ = some (.int .i64 ((rd_T67 t188 x14_4).f3)) ∧ w'.cell? (ad195.add ((x14_4).toNat * 4)) = some (.int .i64 ((rd_T68 x6_1 x14_4).f0)) ∧ w'.cell? ⟨(ad195.add ((x14_4).toNat * 4)).block, (ad195.add ((x14_4).toNat * 4)).off + 1, none⟩ = some (.string ((rd_T68 x6_1 x14_4).f1)) ∧ w'.cell? ⟨(ad195.add ((x14_4).toNat * 4)).block, (ad195.add ((x14_4).toNat * 4)).off + 2, none⟩ = some (.int .i64 ((rd_T68 x6_1 x14_4).f2)) ∧ w'.cell? ⟨(ad195.add ((x14_4).toNat * 4)).block, (ad195.add ((x14_4).toNat * 4)).off + 3, none⟩ = some (.int .i64 ((rd_T68 x6_1 x14_4).f3)) ∧ w'.cell? (ad194.add ((x14_4).toNat * 4)) = some (.int .i64 ((rd_T67 t188 x14_4).f0)) ∧ w'.cell? ⟨(ad194.add ((x14_4).toNat * 4)).block, (ad194.add ((x14_4).toNat * 4)).off + 1, none⟩ = some (.string ((rd_T67 t188 x14_4).f1)) ∧ w'.cell? ⟨(ad194.add ((x14_4).toNat * 4)).block, (ad194.add ((x14_4).toNat * 4)).off + 2, none⟩ = some (.int .i64 ((rd_T67 t188 x14_4).f2)) ∧ w'.cell? ⟨(ad194.add ((x14_4).toNat * 4)).block, (ad194.add ((x14_4).toNat * 4)).off + 3, none⟩ = some (.int .i64 ((rd_T67 t188 x14_4).f3)) ∧ w'.cell? (ad195.add ((x14_4).toNat * 4)) = some (.int .i64 ((rd_T68 x6_1 x14_4).f0)) ∧ w'.cell? ⟨(ad195.add ((x14_4).toNat * 4)).block, (ad195.add ((x14_4).toNat * 4)).off + 1, none⟩ = some (.string ((rd_T68 x6_1 x14_4).f1)) ∧ w'.cell? ⟨(ad195.add ((x14_4).toNat * 4)).block, (ad195.add ((x14_4).toNat * 4)).off + 2, none⟩ = some (.int .i64 ((rd_T68 x6_1 x14_4).f2)) ∧ w'.cell? ⟨(ad195.add ((x14_4).toNat * 4)).block, (ad195.add ((x14_4).toNat * 4)).off + 3, none⟩ = some (.int .i64 ((rd_T68 x6_1 x14_4).f3))) (ds := []) (bitsJ 50 0) (by kernel_rfl) rfl rfl ⟨hx194_0, hx194_1, hx194_2, hx194_3, hx195_0, hx195_1, hx195_2, hx195_3, hx196_0, hx196_1, hx196_2, hx196_3, hx197_0, hx197_1, hx197_2, hx197_3, hx198_0, hx198_1, hx198_2, hx198_3, hx199_0, hx199_1, hx199_2, hx199_3, hx200_0, hx200_1, hx200_2, hx200_3, hx201_0, hx201_1, hx201_2, hx201_3⟩ (fun hHeld => ?_); refine with_tabW jetsamlaw01_LexJoins.tab20 jetsamlaw01_LexJoins.bits20 (fun HT_ HW_ => ?_)
                           generalize wr.drew = w53 at HO_6 HO_11 HB hx194_0 hx194_1 hx194_2 hx194_3 hx195_0 hx195_1 hx195_2 hx195_3 hx196_0 hx196_1 hx196_2 hx196_3 hx197_0 hx197_1 hx197_2 hx197_3 hx198_0 hx198_1 hx198_2 hx198_3 hx199_0 hx199_1 hx199_2 hx199_3 hx200_0 hx200_1 hx200_2 hx200_3 hx201_0 hx201_1 hx201_2 hx201_3 hHeld ⊢
                           refine pure_ (i := 0) (N := some 99) (v := ?_) (a' := ?_) (bitsJ 50 1) rfl rfl (any_of HT_.out (by kernel_rfl)) (fun _ _ _ h => h) (Or.inl ⟨by rfl, ?_⟩) ?_ ?_
                           rotate_left
                           · intro w'
                             go_simp
                             with_reducible rfl
                           rotate_left
                           · simp only [Act.put, List.setIfInBounds_toArray, List.set_cons_zero, List.set_cons_succ, i64_w, i32_w]
                             rfl
                           refine pure_ (i := 1) (N := some 100) (v := ?_) (a' := ?_) (bitsJ 50 3) rfl rfl (any_of HT_.out (by kernel_rfl)) (fun _ _ _ h => h) (Or.inl ⟨by rfl, ?_⟩) ?_ ?_
                           rotate_left
                           · intro w'
                             go_simp
                             with_reducible rfl
                           rotate_left
                           · simp only [Act.put, List.setIfInBounds_toArray, List.set_cons_zero, List.set_cons_succ, i64_w, i32_w]
                             rfl
                           refine pure_ (i := 2) (N := some 101) (v := ?_) (a' := ?_) (bitsJ 50 7) rfl rfl (any_of HT_.out (by kernel_rfl)) (fun _ _ _ h => h) (Or.inl ⟨by rfl, ?_⟩) ?_ ?_
                           rotate_left
                           · intro w'
                             go_simp
                             with_reducible rfl
                           rotate_left
                           · simp only [Act.put, List.setIfInBounds_toArray, List.set_cons_zero, List.set_cons_succ, i64_w, i32_w]
                             rfl
                           refine pure_ (i := 3) (N := some 102) (v := ?_) (a' := ?_) (bitsJ 50 15) rfl rfl (any_of HT_.out (by kernel_rfl)) (fun _ _ _ h => h) (Or.inl ⟨by rfl, ?_⟩) ?_ ?_
                           rotate_left
                           · intro w'
                             go_simp
                             with_reducible rfl
                           rotate_left
                           · simp only [Act.put, List.setIfInBounds_toArray, List.set_cons_zero, List.set_cons_succ, i64_w, i32_w]
                             rfl
                           refine pure_ (i := 5) (N := some 104) (v := ?_) (a' := ?_) (bitsJ 50 47) rfl rfl (any_of HT_.out (by kernel_rfl)) (fun _ _ _ h => h) (Or.inl ⟨by rfl, ?_⟩) ?_ ?_
                           rotate_left
                           · intro w'
                             go_simp
                             with_reducible rfl
                           rotate_left
                           · simp only [Act.put, List.setIfInBounds_toArray, List.set_cons_zero, List.set_cons_succ, i64_w, i32_w]
                             rfl
                           refine pure_ (i := 6) (N := some 105) (v := ?_) (a' := ?_) (bitsJ 50 111) rfl rfl (any_of HT_.out (by kernel_rfl)) (fun _ _ _ h => h) (Or.inl ⟨by rfl, ?_⟩) ?_ ?_
                           rotate_left
                           · intro w'
                             go_simp
                             with_reducible rfl
                           rotate_left
                           · simp only [Act.put, List.setIfInBounds_toArray, List.set_cons_zero, List.set_cons_succ, i64_w, i32_w]
                             rfl
                           refine pure_ (i := 7) (N := some 106) (v := ?_) (a' := ?_) (bitsJ 50 239) rfl rfl (any_of HT_.out (by kernel_rfl)) (fun _ _ _ h => h) (Or.inl ⟨by rfl, ?_⟩) ?_ ?_
                           rotate_left
                           · intro w'
                             go_simp
                             with_reducible rfl
                           rotate_left
                           · simp only [Act.put, List.setIfInBounds_toArray, List.set_cons_zero, List.set_cons_succ, i64_w, i32_w]
                             rfl
                           refine pure_ (i := 8) (N := some 107) (v := ?_) (a' := ?_) (bitsJ 50 495) rfl rfl (any_of HT_.out (by kernel_rfl)) (fun _ _ _ h => h) (Or.inl ⟨by rfl, ?_⟩) ?_ ?_
                           rotate_left
                           · intro w'
                             go_simp
                             with_reducible rfl
                           rotate_left
                           · simp only [Act.put, List.setIfInBounds_toArray, List.set_cons_zero, List.set_cons_succ, i64_w, i32_w]
                             rfl
                           refine take_ (i := 4) (N := some 103) (v := ?_) (a' := ?_) (bitsJ 50 511) rfl rfl (take_ofW HT_.out HW_.out (by kernel_rfl)) (fun _ _ _ h => h) (Or.inl ⟨by rfl, ?_⟩) hHeld ?_ ?_
                           rotate_left
                           · rintro w' ⟨s0, s1, s2, s3, s4, s5, s6, s7, s8, s9, s10, s11, s12, s13, s14, s15, s16, s17, s18, s19, s20, s21, s22, s23, s24, s25, s26, s27, s28, s29, s30, s31⟩
                             go_simp
                             with_reducible rfl
                           rotate_left
                           · simp only [Act.put, List.setIfInBounds_toArray, List.set_cons_zero, List.set_cons_succ, i64_w, i32_w]
                             rfl
                           refine take_ (i := 9) (N := some 108) (v := ?_) (a' := ?_) (bitsJ 50 1023) rfl rfl (take_ofW HT_.out HW_.out (by kernel_rfl)) (fun _ _ _ h => h) (Or.inl ⟨by rfl, ?_⟩) hHeld ?_ ?_
                           rotate_left
                           · rintro w' ⟨s0, s1, s2, s3, s4, s5, s6, s7, s8, s9, s10, s11, s12, s13, s14, s15, s16, s17, s18, s19, s20, s21, s22, s23, s24, s25, s26, s27, s28, s29, s30, s31⟩
                             go_simp
                             with_reducible rfl
                           rotate_left
                           · simp only [Act.put, List.setIfInBounds_toArray, List.set_cons_zero, List.set_cons_succ, i64_w, i32_w]
                             rfl
                           refine pure_ (i := 10) (N := some 109) (v := ?_) (a' := ?_) (bitsJ 50 2047) rfl rfl (any_of HT_.out (by kernel_rfl)) (fun _ _ _ h => h) (Or.inl ⟨by rfl, ?_⟩) ?_ ?_
                           rotate_left
                           · intro w'
                             go_simp
                             with_reducible rfl
                           rotate_left
                           · simp only [Act.put, List.setIfInBounds_toArray, List.set_cons_zero, List.set_cons_succ, i64_w, i32_w]
                             rfl
                           refine pure_ (i := 11) (N := some 110) (v := ?_) (a' := ?_) (bitsJ 50 4095) rfl rfl (any_of HT_.out (by kernel_rfl)) (fun _ _ _ h => h) (Or.inl ⟨by rfl, ?_⟩) ?_ ?_
                           rotate_left
                           · intro w'
                             go_simp
                             with_reducible rfl
                           rotate_left
                           · simp only [Act.put, List.setIfInBounds_toArray, List.set_cons_zero, List.set_cons_succ, i64_w, i32_w]
                             rfl
                           refine pure_ (i := 12) (N := some 111) (v := ?_) (a' := ?_) (bitsJ 50 8191) rfl rfl (any_of HT_.out (by kernel_rfl)) (fun _ _ _ h => h) (Or.inl ⟨by rfl, ?_⟩) ?_ ?_
                           rotate_left
                           · intro w'
                             go_simp
                             with_reducible rfl
                           rotate_left
                           · simp only [Act.put, List.setIfInBounds_toArray, List.set_cons_zero, List.set_cons_succ, i64_w, i32_w]
                             rfl
                           refine pure_ (i := 13) (N := some 112) (v := ?_) (a' := ?_) (bitsJ 50 16383) rfl rfl (any_of HT_.out (by kernel_rfl)) (fun _ _ _ h => h) (Or.inl ⟨by rfl, ?_⟩) ?_ ?_
                           rotate_left
                           · intro w'
                             go_simp
                             with_reducible rfl
                           rotate_left
                           · simp only [Act.put, List.setIfInBounds_toArray, List.set_cons_zero, List.set_cons_succ, i64_w, i32_w]
                             rfl
                           refine pure_ (i := 14) (N := some 113) (v := ?_) (a' := ?_) (bitsJ 50 32767) rfl rfl (any_of HT_.out (by kernel_rfl)) (fun _ _ _ h => h) (Or.inl ⟨by rfl, ?_⟩) ?_ ?_
                           rotate_left
                           · intro w'
                             go_simp
                             with_reducible rfl
                           rotate_left
                           · simp only [Act.put, List.setIfInBounds_toArray, List.set_cons_zero, List.set_cons_succ, i64_w, i32_w]
                             rfl
                           refine pure_ (i := 15) (N := some 114) (v := ?_) (a' := ?_) (bitsJ 50 65535) rfl rfl (any_of HT_.out (by kernel_rfl)) (fun _ _ _ h => h) (Or.inl ⟨by rfl, ?_⟩) ?_ ?_
                           rotate_left
                           · intro w'
                             go_simp
                             with_reducible rfl
                           rotate_left
                           · simp only [Act.put, List.setIfInBounds_toArray, List.set_cons_zero, List.set_cons_succ, i64_w, i32_w]
                             rfl
                           refine pure_ (i := 17) (N := some 116) (v := ?_) (a' := ?_) (bitsJ 50 196607) rfl rfl (any_of HT_.out (by kernel_rfl)) (fun _ _ _ h => h) (Or.inl ⟨by rfl, ?_⟩) ?_ ?_
                           rotate_left
                           · intro w'
                             go_simp
                             with_reducible rfl
                           rotate_left
                           · simp only [Act.put, List.setIfInBounds_toArray, List.set_cons_zero, List.set_cons_succ, i64_w, i32_w]
                             rfl
                           refine pure_ (i := 18) (N := some 117) (v := ?_) (a' := ?_) (bitsJ 50 458751) rfl rfl (any_of HT_.out (by kernel_rfl)) (fun _ _ _ h => h) (Or.inl ⟨by rfl, ?_⟩) ?_ ?_
                           rotate_left
                           · intro w'
                             go_simp
                             with_reducible rfl
                           rotate_left
                           · simp only [Act.put, List.setIfInBounds_toArray, List.set_cons_zero, List.set_cons_succ, i64_w, i32_w]
                             rfl
                           refine pure_ (i := 19) (N := some 118) (v := ?_) (a' := ?_) (bitsJ 50 983039) rfl rfl (any_of HT_.out (by kernel_rfl)) (fun _ _ _ h => h) (Or.inl ⟨by rfl, ?_⟩) ?_ ?_
                           rotate_left
                           · intro w'
                             go_simp
                             with_reducible rfl
                           rotate_left
                           · simp only [Act.put, List.setIfInBounds_toArray, List.set_cons_zero, List.set_cons_succ, i64_w, i32_w]
                             rfl
                           refine pure_ (i := 20) (N := some 119) (v := ?_) (a' := ?_) (bitsJ 50 2031615) rfl rfl (any_of HT_.out (by kernel_rfl)) (fun _ _ _ h => h) (Or.inl ⟨by rfl, ?_⟩) ?_ ?_
                           rotate_left
                           · intro w'
                             go_simp
                             with_reducible rfl
                           rotate_left
                           · simp only [Act.put, List.setIfInBounds_toArray, List.set_cons_zero, List.set_cons_succ, i64_w, i32_w]
                             rfl
                           refine take_ (i := 16) (N := some 115) (v := ?_) (a' := ?_) (bitsJ 50 2097151) rfl rfl (take_ofW HT_.out HW_.out (by kernel_rfl)) (fun _ _ _ h => h) (Or.inl ⟨by rfl, ?_⟩) hHeld ?_ ?_
                           rotate_left
                           · rintro w' ⟨s0, s1, s2, s3, s4, s5, s6, s7, s8, s9, s10, s11, s12, s13, s14, s15, s16, s17, s18, s19, s20, s21, s22, s23, s24, s25, s26, s27, s28, s29, s30, s31⟩
                             go_simp
                             with_reducible rfl
                           rotate_left
                           · simp only [Act.put, List.setIfInBounds_toArray, List.set_cons_zero, List.set_cons_succ, i64_w, i32_w]
                             rfl
                           refine take_ (i := 21) (N := some 120) (v := ?_) (a' := ?_) (bitsJ 50 4194303) rfl rfl (take_ofW HT_.out HW_.out (by kernel_rfl)) (fun _ _ _ h => h) (Or.inl ⟨by rfl, ?_⟩) hHeld ?_ ?_
                           rotate_left
                           · rintro w' ⟨s0, s1, s2, s3, s4, s5, s6, s7, s8, s9, s10, s11, s12, s13, s14, s15, s16, s17, s18, s19, s20, s21, s22, s23, s24, s25, s26, s27, s28, s29, s30, s31⟩
                             go_simp
                             with_reducible rfl
                           rotate_left
                           · simp only [Act.put, List.setIfInBounds_toArray, List.set_cons_zero, List.set_cons_succ, i64_w, i32_w]
                             rfl
                           refine pure_ (i := 22) (N := some 121) (v := ?_) (a' := ?_) (bitsJ 50 8388607) rfl rfl (any_of HT_.out (by kernel_rfl)) (fun _ _ _ h => h) (Or.inl ⟨by rfl, ?_⟩) ?_ ?_
                           rotate_left
                           · intro w'
                             go_simp
                             with_reducible rfl
                           rotate_left
                           · simp only [Act.put, List.setIfInBounds_toArray, List.set_cons_zero, List.set_cons_succ, i64_w, i32_w]
                             rfl
                           refine pure_ (i := 23) (N := some 122) (v := ?_) (a' := ?_) (bitsJ 50 16777215) rfl rfl (any_of HT_.out (by kernel_rfl)) (fun _ _ _ h => h) (Or.inl ⟨by rfl, ?_⟩) ?_ ?_
                           rotate_left
                           · intro w'
                             go_simp
                             with_reducible rfl
                           rotate_left
                           · simp only [Act.put, List.setIfInBounds_toArray, List.set_cons_zero, List.set_cons_succ, i64_w, i32_w]
                             rfl
                           refine pure_ (i := 24) (N := some 123) (v := ?_) (a' := ?_) (bitsJ 50 33554431) rfl rfl (any_of HT_.out (by kernel_rfl)) (fun _ _ _ h => h) (Or.inl ⟨by rfl, ?_⟩) ?_ ?_
                           rotate_left
                           · intro w'
                             go_simp
                             with_reducible rfl
                           rotate_left
                           · simp only [Act.put, List.setIfInBounds_toArray, List.set_cons_zero, List.set_cons_succ, i64_w, i32_w]
                             rfl
                           refine pure_ (i := 25) (N := some 124) (v := ?_) (a' := ?_) (bitsJ 50 67108863) rfl rfl (any_of HT_.out (by kernel_rfl)) (fun _ _ _ h => h) (Or.inl ⟨by rfl, ?_⟩) ?_ ?_
                           rotate_left
                           · intro w'
                             go_simp
                             with_reducible rfl
                           rotate_left
                           · simp only [Act.put, List.setIfInBounds_toArray, List.set_cons_zero, List.set_cons_succ, i64_w, i32_w]
                             rfl
                           refine pure_ (i := 26) (N := some 125) (v := ?_) (a' := ?_) (bitsJ 50 134217727) rfl rfl (any_of HT_.out (by kernel_rfl)) (fun _ _ _ h => h) (Or.inl ⟨by rfl, ?_⟩) ?_ ?_
                           rotate_left
                           · intro w'
                             go_simp
                             with_reducible rfl
                           rotate_left
                           · simp only [Act.put, List.setIfInBounds_toArray, List.set_cons_zero, List.set_cons_succ, i64_w, i32_w]
                             rfl
                           refine pure_ (i := 27) (N := some 126) (v := ?_) (a' := ?_) (bitsJ 50 268435455) rfl rfl (any_of HT_.out (by kernel_rfl)) (fun _ _ _ h => h) (Or.inl ⟨by rfl, ?_⟩) ?_ ?_
                           rotate_left
                           · intro w'
                             go_simp
                             with_reducible rfl
                           rotate_left
                           · simp only [Act.put, List.setIfInBounds_toArray, List.set_cons_zero, List.set_cons_succ, i64_w, i32_w]
                             rfl
                           refine pure_ (i := 28) (N := some 127) (v := ?_) (a' := ?_) (bitsJ 50 536870911) rfl rfl (any_of HT_.out (by kernel_rfl)) (fun _ _ _ h => h) (Or.inl ⟨by rfl, ?_⟩) ?_ ?_
                           rotate_left
                           · intro w'
                             go_simp
                             with_reducible rfl
                           rotate_left
                           · simp only [Act.put, List.setIfInBounds_toArray, List.set_cons_zero, List.set_cons_succ, i64_w, i32_w]
                             rfl
                           refine pure_ (i := 30) (N := some 129) (v := ?_) (a' := ?_) (bitsJ 50 1610612735) rfl rfl (any_of HT_.out (by kernel_rfl)) (fun _ _ _ h => h) (Or.inl ⟨by rfl, ?_⟩) ?_ ?_
                           rotate_left
                           · intro w'
                             go_simp
                             with_reducible rfl
                           rotate_left
                           · simp only [Act.put, List.setIfInBounds_toArray, List.set_cons_zero, List.set_cons_succ, i64_w, i32_w]
                             rfl
                           refine pure_ (i := 31) (N := some 130) (v := ?_) (a' := ?_) (bitsJ 50 3758096383) rfl rfl (any_of HT_.out (by kernel_rfl)) (fun _ _ _ h => h) (Or.inl ⟨by rfl, ?_⟩) ?_ ?_
                           rotate_left
                           · intro w'
                             go_simp
                             with_reducible rfl
                           rotate_left
                           · simp only [Act.put, List.setIfInBounds_toArray, List.set_cons_zero, List.set_cons_succ, i64_w, i32_w]
                             rfl
                           refine pure_ (i := 32) (N := some 131) (v := ?_) (a' := ?_) (bitsJ 50 8053063679) rfl rfl (any_of HT_.out (by kernel_rfl)) (fun _ _ _ h => h) (Or.inl ⟨by rfl, ?_⟩) ?_ ?_
                           rotate_left
                           · intro w'
                             go_simp
                             with_reducible rfl
                           rotate_left
                           · simp only [Act.put, List.setIfInBounds_toArray, List.set_cons_zero, List.set_cons_succ, i64_w, i32_w]
                             rfl
                           refine pure_ (i := 33) (N := some 132) (v := ?_) (a' := ?_) (bitsJ 50 16642998271) rfl rfl (any_of HT_.out (by kernel_rfl)) (fun _ _ _ h => h) (Or.inl ⟨by rfl, ?_⟩) ?_ ?_
                           rotate_left
                           · intro w'
                             go_simp
                             with_reducible rfl
                           rotate_left
                           · simp only [Act.put, List.setIfInBounds_toArray, List.set_cons_zero, List.set_cons_succ, i64_w, i32_w]
                             rfl
                           refine take_ (i := 29) (N := some 128) (v := ?_) (a' := ?_) (bitsJ 50 17179869183) rfl rfl (take_ofW HT_.out HW_.out (by kernel_rfl)) (fun _ _ _ h => h) (Or.inl ⟨by rfl, ?_⟩) hHeld ?_ ?_
                           rotate_left
                           · rintro w' ⟨s0, s1, s2, s3, s4, s5, s6, s7, s8, s9, s10, s11, s12, s13, s14, s15, s16, s17, s18, s19, s20, s21, s22, s23, s24, s25, s26, s27, s28, s29, s30, s31⟩
                             go_simp
                             with_reducible rfl
                           rotate_left
                           · simp only [Act.put, List.setIfInBounds_toArray, List.set_cons_zero, List.set_cons_succ, i64_w, i32_w]
                             rfl
                           refine take_ (i := 34) (N := some 133) (v := ?_) (a' := ?_) (bitsJ 50 34359738367) rfl rfl (take_ofW HT_.out HW_.out (by kernel_rfl)) (fun _ _ _ h => h) (Or.inl ⟨by rfl, ?_⟩) hHeld ?_ ?_
                           rotate_left
                           · rintro w' ⟨s0, s1, s2, s3, s4, s5, s6, s7, s8, s9, s10, s11, s12, s13, s14, s15, s16, s17, s18, s19, s20, s21, s22, s23, s24, s25, s26, s27, s28, s29, s30, s31⟩
                             go_simp
                             with_reducible rfl
                           rotate_left
                           · simp only [Act.put, List.setIfInBounds_toArray, List.set_cons_zero, List.set_cons_succ, i64_w, i32_w]
                             rfl
                           refine pure_ (i := 35) (N := some 134) (v := ?_) (a' := ?_) (bitsJ 50 68719476735) rfl rfl (any_of HT_.out (by kernel_rfl)) (fun _ _ _ h => h) (Or.inl ⟨by rfl, ?_⟩) ?_ ?_
                           rotate_left
                           · intro w'
                             go_simp
                             with_reducible rfl
                           rotate_left
                           · simp only [Act.put, List.setIfInBounds_toArray, List.set_cons_zero, List.set_cons_succ, i64_w, i32_w]
                             rfl
                           refine pure_ (i := 36) (N := some 135) (v := ?_) (a' := ?_) (bitsJ 50 137438953471) rfl rfl (any_of HT_.out (by kernel_rfl)) (fun _ _ _ h => h) (Or.inl ⟨by rfl, ?_⟩) ?_ ?_
                           rotate_left
                           · intro w'
                             go_simp
                             with_reducible rfl
                           rotate_left
                           · simp only [Act.put, List.setIfInBounds_toArray, List.set_cons_zero, List.set_cons_succ, i64_w, i32_w]
                             rfl
                           refine pure_ (i := 37) (N := some 136) (v := ?_) (a' := ?_) (bitsJ 50 274877906943) rfl rfl (any_of HT_.out (by kernel_rfl)) (fun _ _ _ h => h) (Or.inl ⟨by rfl, ?_⟩) ?_ ?_
                           rotate_left
                           · intro w'
                             go_simp
                             with_reducible rfl
                           rotate_left
                           · simp only [Act.put, List.setIfInBounds_toArray, List.set_cons_zero, List.set_cons_succ, i64_w, i32_w]
                             rfl
                           refine pure_ (i := 38) (N := some 137) (v := ?_) (a' := ?_) (bitsJ 50 549755813887) rfl rfl (any_of HT_.out (by kernel_rfl)) (fun _ _ _ h => h) (Or.inl ⟨by rfl, ?_⟩) ?_ ?_
                           rotate_left
                           · intro w'
                             go_simp
                             with_reducible rfl
                           rotate_left
                           · simp only [Act.put, List.setIfInBounds_toArray, List.set_cons_zero, List.set_cons_succ, i64_w, i32_w]
                             rfl
                           refine pure_ (i := 39) (N := some 138) (v := ?_) (a' := ?_) (bitsJ 50 1099511627775) rfl rfl (any_of HT_.out (by kernel_rfl)) (fun _ _ _ h => h) (Or.inl ⟨by rfl, ?_⟩) ?_ ?_
                           rotate_left
                           · intro w'
                             go_simp
                             with_reducible rfl
                           rotate_left
                           · simp only [Act.put, List.setIfInBounds_toArray, List.set_cons_zero, List.set_cons_succ, i64_w, i32_w]
                             rfl
                           refine pure_ (i := 40) (N := some 139) (v := ?_) (a' := ?_) (bitsJ 50 2199023255551) rfl rfl (any_of HT_.out (by kernel_rfl)) (fun _ _ _ h => h) (Or.inl ⟨by rfl, ?_⟩) ?_ ?_
                           rotate_left
                           · intro w'
                             go_simp
                             with_reducible rfl
                           rotate_left
                           · simp only [Act.put, List.setIfInBounds_toArray, List.set_cons_zero, List.set_cons_succ, i64_w, i32_w]
                             rfl
                           refine pure_ (i := 41) (N := some 140) (v := ?_) (a' := ?_) (bitsJ 50 4398046511103) rfl rfl (any_of HT_.out (by kernel_rfl)) (fun _ _ _ h => h) (Or.inl ⟨by rfl, ?_⟩) ?_ ?_
                           rotate_left
                           · intro w'
                             go_simp
                             with_reducible rfl
                           rotate_left
                           · simp only [Act.put, List.setIfInBounds_toArray, List.set_cons_zero, List.set_cons_succ, i64_w, i32_w]
                             rfl
                           refine pure_ (i := 43) (N := some 142) (v := ?_) (a' := ?_) (bitsJ 50 13194139533311) rfl rfl (any_of HT_.out (by kernel_rfl)) (fun _ _ _ h => h) (Or.inl ⟨by rfl, ?_⟩) ?_ ?_
                           rotate_left
                           · intro w'
                             go_simp
                             with_reducible rfl
                           rotate_left
                           · simp only [Act.put, List.setIfInBounds_toArray, List.set_cons_zero, List.set_cons_succ, i64_w, i32_w]
                             rfl
                           refine pure_ (i := 44) (N := some 143) (v := ?_) (a' := ?_) (bitsJ 50 30786325577727) rfl rfl (any_of HT_.out (by kernel_rfl)) (fun _ _ _ h => h) (Or.inl ⟨by rfl, ?_⟩) ?_ ?_
                           rotate_left
                           · intro w'
                             go_simp
                             with_reducible rfl
                           rotate_left
                           · simp only [Act.put, List.setIfInBounds_toArray, List.set_cons_zero, List.set_cons_succ, i64_w, i32_w]
                             rfl
                           refine pure_ (i := 45) (N := some 144) (v := ?_) (a' := ?_) (bitsJ 50 65970697666559) rfl rfl (any_of HT_.out (by kernel_rfl)) (fun _ _ _ h => h) (Or.inl ⟨by rfl, ?_⟩) ?_ ?_
                           rotate_left
                           · intro w'
                             go_simp
                             with_reducible rfl
                           rotate_left
                           · simp only [Act.put, List.setIfInBounds_toArray, List.set_cons_zero, List.set_cons_succ, i64_w, i32_w]
                             rfl
                           refine pure_ (i := 46) (N := some 145) (v := ?_) (a' := ?_) (bitsJ 50 136339441844223) rfl rfl (any_of HT_.out (by kernel_rfl)) (fun _ _ _ h => h) (Or.inl ⟨by rfl, ?_⟩) ?_ ?_
                           rotate_left
                           · intro w'
                             go_simp
                             with_reducible rfl
                           rotate_left
                           · simp only [Act.put, List.setIfInBounds_toArray, List.set_cons_zero, List.set_cons_succ, i64_w, i32_w]
                             rfl
                           refine take_ (i := 42) (N := some 141) (v := ?_) (a' := ?_) (bitsJ 50 140737488355327) rfl rfl (take_ofW HT_.out HW_.out (by kernel_rfl)) (fun _ _ _ h => h) (Or.inl ⟨by rfl, ?_⟩) hHeld ?_ ?_
                           rotate_left
                           · rintro w' ⟨s0, s1, s2, s3, s4, s5, s6, s7, s8, s9, s10, s11, s12, s13, s14, s15, s16, s17, s18, s19, s20, s21, s22, s23, s24, s25, s26, s27, s28, s29, s30, s31⟩
                             go_simp
                             with_reducible rfl
                           rotate_left
                           · simp only [Act.put, List.setIfInBounds_toArray, List.set_cons_zero, List.set_cons_succ, i64_w, i32_w]
                             rfl
                           refine take_ (i := 47) (N := some 146) (v := ?_) (a' := ?_) (bitsJ 50 281474976710655) rfl rfl (take_ofW HT_.out HW_.out (by kernel_rfl)) (fun _ _ _ h => h) (Or.inl ⟨by rfl, ?_⟩) hHeld ?_ ?_
                           rotate_left
                           · rintro w' ⟨s0, s1, s2, s3, s4, s5, s6, s7, s8, s9, s10, s11, s12, s13, s14, s15, s16, s17, s18, s19, s20, s21, s22, s23, s24, s25, s26, s27, s28, s29, s30, s31⟩
                             go_simp
                             with_reducible rfl
                           rotate_left
                           · simp only [Act.put, List.setIfInBounds_toArray, List.set_cons_zero, List.set_cons_succ, i64_w, i32_w]
                             rfl
                           refine pure_ (i := 48) (N := some 147) (v := ?_) (a' := ?_) (bitsJ 50 562949953421311) rfl rfl (any_of HT_.out (by kernel_rfl)) (fun _ _ _ h => h) (Or.inl ⟨by rfl, ?_⟩) ?_ ?_
                           rotate_left
                           · intro w'
                             go_simp
                             with_reducible rfl
                           rotate_left
                           · simp only [Act.put, List.setIfInBounds_toArray, List.set_cons_zero, List.set_cons_succ, i64_w, i32_w]
                             rfl
                           refine pure_ (i := 49) (N := some 148) (v := ?_) (a' := ?_) #[true, true, true, true, true, true, true, true, true, true, true, true, true, true, true, true, true, true, true, true, true, true, true, true, true, true, true, true, true, true, true, true, true, true, true, true, true, true, true, true, true, true, true, true, true, true, true, true, true, true] rfl rfl (any_of HT_.out (by kernel_rfl)) (fun _ _ _ h => h) (Or.inl ⟨by rfl, ?_⟩) ?_ ?_
                           rotate_left
                           · intro w'
                             go_simp
                             with_reducible rfl
                           rotate_left
                           · simp only [Act.put, List.setIfInBounds_toArray, List.set_cons_zero, List.set_cons_succ, i64_w, i32_w]
                             rfl
                           refine done_ (done_of HT_.out (by kernel_rfl)) ?_
                           try go_wp2
                           go_roundg k4
                           case measure => have := HK1.out; have := HJ2.out; have := HJ31.out; have := HK4.out; omega
                           case rel => exact ⟨(wrap64 (x14_4 + 1)), (by first | rfl | (simp; done) | (simp [*]; done)), H', ⟨by have := HK1.out; have := HJ2.out; have := HJ31.out; have := HK4.out; omega⟩, ⟨by (with_reducible repeat (first | apply Kd.R_alloc | apply Kd.R_drewN | apply Kd.R_drew)); exact HO_6.out⟩, ⟨by (with_reducible repeat (first | apply Kd.R_alloc | apply Kd.R_drewN | apply Kd.R_drew)); exact HO_11.out⟩, ⟨by repeat (first | (with_reducible first | exact HB.out | apply below_alloc | apply pw_below_drewN | apply below_drew1) | exact HB.out)⟩⟩
                         · rw [if_neg c51] at H
                           have c51b0 : (((rd_T67 t188 x14_4).f3) == ((rd_T68 x6_1 x14_4).f3)) = false := beq_eq_false_iff_ne.mpr c51
                           have c51b1 : (((rd_T67 t188 x14_4).f3) != ((rd_T68 x6_1 x14_4).f3)) = true := bne_iff_ne.mpr c51
                           obtain rfl := Option.some.inj H
                           obtain ⟨Ao55, co55, eo55⟩ := Kd.R_slice HO_11.out
                           subst eo55
                           try go_wp2
                           have n0_ := Aside0.mk (Kd.R_drew HO_6.out)
                           have n1_ := Aside0.mk (Kd.R_drew HO_11.out)
                           have n2_ := Aside0.mk (below_drew1 HB.out)
                           clear HO_6
                           clear HO_11
                           clear HB
                           have HO_6 := n0_
                           have HO_11 := n1_
                           have HB := n2_
                           clear n0_ n1_ n2_
                           have p194 : 0 ≤ (x14_4 : Int) := of_decide_eq_true (by first | (with_reducible assumption) | assumption)
                           have q194 : x14_4 < (t188.length : Int) := of_decide_eq_true (by first | (with_reducible assumption) | assumption)
                           obtain ⟨ad194, e194, hx194_0, hx194_1, hx194_2, hx194_3⟩ := at_T67 (Kd.R_reads' HO_11.out).2.2 x14_4 p194 q194
                           cases e194
                           replace p194 := eq_true p194
                           replace q194 := eq_true q194
                           obtain ⟨Ao57, co57, eo57⟩ := Kd.R_slice HO_6.out
                           (first | subst eo57 | (injection eo57 with f1_ f2_ f3_; have f4_ := f1_.symm; have f5_ := f3_.symm; clear f1_ f2_ f3_; subst f4_; subst f5_))
                           have p195 : 0 ≤ (x14_4 : Int) := of_decide_eq_true (by first | (with_reducible assumption) | assumption)
                           have q195 : x14_4 < (x6_1.length : Int) := of_decide_eq_true (by first | (with_reducible assumption) | assumption)
                           obtain ⟨ad195, e195, hx195_0, hx195_1, hx195_2, hx195_3⟩ := at_T68 (Kd.R_reads' HO_6.out).2.2 x14_4 p195 q195
                           cases e195
                           replace p195 := eq_true p195
                           replace q195 := eq_true q195
                           have p196 : 0 ≤ (x14_4 : Int) := of_decide_eq_true (by first | (with_reducible assumption) | assumption)
                           have q196 : x14_4 < (t188.length : Int) := of_decide_eq_true (by first | (with_reducible assumption) | assumption)
                           obtain ⟨ad196, e196, hx196_0, hx196_1, hx196_2, hx196_3⟩ := at_T67 (Kd.R_reads' HO_11.out).2.2 x14_4 p196 q196
                           obtain rfl : ad194 = ad196 := (by injection e196)
                           replace p196 := eq_true p196
                           replace q196 := eq_true q196
                           have p197 : 0 ≤ (x14_4 : Int) := of_decide_eq_true (by first | (with_reducible assumption) | assumption)
                           have q197 : x14_4 < (x6_1.length : Int) := of_decide_eq_true (by first | (with_reducible assumption) | assumption)
                           obtain ⟨ad197, e197, hx197_0, hx197_1, hx197_2, hx197_3⟩ := at_T68 (Kd.R_reads' HO_6.out).2.2 x14_4 p197 q197
                           obtain rfl : ad195 = ad197 := (by injection e197)
                           replace p197 := eq_true p197
                           replace q197 := eq_true q197
                           have p198 : 0 ≤ (x14_4 : Int) := of_decide_eq_true (by first | (with_reducible assumption) | assumption)
                           have q198 : x14_4 < (t188.length : Int) := of_decide_eq_true (by first | (with_reducible assumption) | assumption)
                           obtain ⟨ad198, e198, hx198_0, hx198_1, hx198_2, hx198_3⟩ := at_T67 (Kd.R_reads' HO_11.out).2.2 x14_4 p198 q198
                           obtain rfl : ad194 = ad198 := (by injection e198)
                           replace p198 := eq_true p198
                           replace q198 := eq_true q198
                           have p199 : 0 ≤ (x14_4 : Int) := of_decide_eq_true (by first | (with_reducible assumption) | assumption)
                           have q199 : x14_4 < (x6_1.length : Int) := of_decide_eq_true (by first | (with_reducible assumption) | assumption)
                           obtain ⟨ad199, e199, hx199_0, hx199_1, hx199_2, hx199_3⟩ := at_T68 (Kd.R_reads' HO_6.out).2.2 x14_4 p199 q199
                           obtain rfl : ad195 = ad199 := (by injection e199)
                           replace p199 := eq_true p199
                           replace q199 := eq_true q199
                           have p200 : 0 ≤ (x14_4 : Int) := of_decide_eq_true (by first | (with_reducible assumption) | assumption)
                           have q200 : x14_4 < (t188.length : Int) := of_decide_eq_true (by first | (with_reducible assumption) | assumption)
                           obtain ⟨ad200, e200, hx200_0, hx200_1, hx200_2, hx200_3⟩ := at_T67 (Kd.R_reads' HO_11.out).2.2 x14_4 p200 q200
                           obtain rfl : ad194 = ad200 := (by injection e200)
                           replace p200 := eq_true p200
                           replace q200 := eq_true q200
                           have p201 : 0 ≤ (x14_4 : Int) := of_decide_eq_true (by first | (with_reducible assumption) | assumption)
                           have q201 : x14_4 < (x6_1.length : Int) := of_decide_eq_true (by first | (with_reducible assumption) | assumption)
                           obtain ⟨ad201, e201, hx201_0, hx201_1, hx201_2, hx201_3⟩ := at_T68 (Kd.R_reads' HO_6.out).2.2 x14_4 p201 q201
                           obtain rfl : ad195 = ad201 := (by injection e201)
                           replace p201 := eq_true p201
                           replace q201 := eq_true q201
                           refine start_ (n := 50) (S := fun w' => w'.cell? (ad194.add ((x14_4).toNat * 4)) = some (.int .i64 ((rd_T67 t188 x14_4).f0)) ∧ w'.cell? ⟨(ad194.add ((x14_4).toNat * 4)).block, (ad194.add ((x14_4).toNat * 4)).off + 1, none⟩ = some (.string ((rd_T67 t188 x14_4).f1)) ∧ w'.cell? ⟨(ad194.add ((x14_4).toNat * 4)).block, (ad194.add ((x14_4).toNat * 4)).off + 2, none⟩ = some (.int .i64 ((rd_T67 t188 x14_4).f2)) ∧ w'.cell? ⟨(ad194.add ((x14_4).toNat * 4)).block, (ad194.add ((x14_4).toNat * 4)).off + 3, none⟩ = some (.int .i64 ((rd_T67 t188 x14_4).f3)) ∧ w'.cell? (ad195.add ((x14_4).toNat * 4)) = some (.int .i64 ((rd_T68 x6_1 x14_4).f0)) ∧ w'.cell? ⟨(ad195.add ((x14_4).toNat * 4)).block, (ad195.add ((x14_4).toNat * 4)).off + 1, none⟩ = some (.string ((rd_T68 x6_1 x14_4).f1)) ∧ w'.cell? ⟨(ad195.add ((x14_4).toNat * 4)).block, (ad195.add ((x14_4).toNat * 4)).off + 2, none⟩ = some (.int .i64 ((rd_T68 x6_1 x14_4).f2)) ∧ w'.cell? ⟨(ad195.add ((x14_4).toNat * 4)).block, (ad195.add ((x14_4).toNat * 4)).off + 3, none⟩ = some (.int .i64 ((rd_T68 x6_1 x14_4).f3)) ∧ w'.cell? (ad194.add ((x14_4).toNat * 4)) = some (.int .i64 ((rd_T67 t188 x14_4).f0)) ∧ w'.cell? ⟨(ad194.add ((x14_4).toNat * 4)).block, (ad194.add ((x14_4).toNat * 4)).off + 1, none⟩ = some (.string ((rd_T67 t188 x14_4).f1)) ∧ w'.cell? ⟨(ad194.add ((x14_4).toNat * 4)).block, (ad194.add ((x14_4).toNat * 4)).off + 2, none⟩ = some (.int .i64 ((rd_T67 t188 x14_4).f2)) ∧ w'.cell? ⟨(ad194.add ((x14_4).toNat * 4)).block, (ad194.add ((x14_4).toNat * 4)).off + 3, none⟩ = some (.int .i64 ((rd_T67 t188 x14_4).f3)) ∧ w'.cell? (ad195.add ((x14_4).toNat * 4)) = some (.int .i64 ((rd_T68 x6_1 x14_4).f0)) ∧ w'.cell? ⟨(ad195.add ((x14_4).toNat * 4)).block, (ad195.add ((x14_4).toNat * 4)).off + 1, none⟩ = some (.string ((rd_T68 x6_1 x14_4).f1)) ∧ w'.cell? ⟨(ad195.add ((x14_4).toNat * 4)).block, (ad195.add ((x14_4).toNat * 4)).off + 2, none⟩ = some (.int .i64 ((rd_T68 x6_1 x14_4).f2)) ∧ w'.cell? ⟨(ad195.add ((x14_4).toNat * 4)).block, (ad195.add ((x14_4).toNat * 4)).off + 3, none⟩ = some (.int .i64 ((rd_T68 x6_1 x14_4).f3)) ∧ w'.cell? (ad194.add ((x14_4).toNat * 4)) = some (.int .i64 ((rd_T67 t188 x14_4).f0)) ∧ w'.cell? ⟨(ad194.add ((x14_4).toNat * 4)).block, (ad194.add ((x14_4).toNat * 4)).off + 1, none⟩ = some (.string ((rd_T67 t188 x14_4).f1)) ∧ w'.cell? ⟨(ad194.add ((x14_4).toNat * 4)).block, (ad194.add ((x14_4).toNat * 4)).off + 2, none⟩ = some (.int .i64 ((rd_T67 t188 x14_4).f2)) ∧ w'.cell? ⟨(ad194.add ((x14_4).toNat * 4)).block, (ad194.add ((x14_4).toNat * 4)).off + 3, none⟩ = some (.int .i64 ((rd_T67 t188 x14_4).f3)) ∧ w'.cell? (ad195.add ((x14_4).toNat * 4)) = some (.int .i64 ((rd_T68 x6_1 x14_4).f0)) ∧ w'.cell? ⟨(ad195.add ((x14_4).toNat * 4)).block, (ad195.add ((x14_4).toNat * 4)).off + 1, none⟩ = some (.string ((rd_T68 x6_1 x14_4).f1)) ∧ w'.cell? ⟨(ad195.add ((x14_4).toNat * 4)).block, (ad195.add ((x14_4).toNat * 4)).off + 2, none⟩ = some (.int .i64 ((rd_T68 x6_1 x14_4).f2)) ∧ w'.cell? ⟨(ad195.add ((x14_4).toNat * 4)).block, (ad195.add ((x14_4).toNat * 4)).off + 3, none⟩ = some (.int .i64 ((rd_T68 x6_1 x14_4).f3)) ∧ w'.cell? (ad194.add ((x14_4).toNat * 4)) = some (.int .i64 ((rd_T67 t188 x14_4).f0)) ∧ w'.cell? ⟨(ad194.add ((x14_4).toNat * 4)).block, (ad194.add ((x14_4).toNat * 4)).off + 1, none⟩ = some (.string ((rd_T67 t188 x14_4).f1)) ∧ w'.cell? ⟨(ad194.add ((x14_4).toNat * 4)).block, (ad194.add ((x14_4).toNat * 4)).off + 2, none⟩ = some (.int .i64 ((rd_T67 t188 x14_4).f2)) ∧ w'.cell? ⟨(ad194.add ((x14_4).toNat * 4)).block, (ad194.add ((x14_4).toNat * 4)).off + 3, none⟩ = some (.int .i64 ((rd_T67 t188 x14_4).f3)) ∧ w'.cell? (ad195.add ((x14_4).toNat * 4)) = some (.int .i64 ((rd_T68 x6_1 x14_4).f0)) ∧ w'.cell? ⟨(ad195.add ((x14_4).toNat * 4)).block, (ad195.add ((x14_4).toNat * 4)).off + 1, none⟩ = some (.string ((rd_T68 x6_1 x14_4).f1)) ∧ w'.cell? ⟨(ad195.add ((x14_4).toNat * 4)).block, (ad195.add ((x14_4).toNat * 4)).off + 2, none⟩ = some (.int .i64 ((rd_T68 x6_1 x14_4).f2)) ∧ w'.cell? ⟨(ad195.add ((x14_4).toNat * 4)).block, (ad195.add ((x14_4).toNat * 4)).off + 3, none⟩ = some (.int .i64 ((rd_T68 x6_1 x14_4).f3))) (ds := []) (bitsJ 50 0) (by kernel_rfl) rfl rfl ⟨hx194_0, hx194_1, hx194_2, hx194_3, hx195_0, hx195_1, hx195_2, hx195_3, hx196_0, hx196_1, hx196_2, hx196_3, hx197_0, hx197_1, hx197_2, hx197_3, hx198_0, hx198_1, hx198_2, hx198_3, hx199_0, hx199_1, hx199_2, hx199_3, hx200_0, hx200_1, hx200_2, hx200_3, hx201_0, hx201_1, hx201_2, hx201_3⟩ (fun hHeld => ?_); refine with_tabW jetsamlaw01_LexJoins.tab20 jetsamlaw01_LexJoins.bits20 (fun HT_ HW_ => ?_)
                           generalize wr.drew = w56 at HO_6 HO_11 HB hx194_0 hx194_1 hx194_2 hx194_3 hx195_0 hx195_1 hx195_2 hx195_3 hx196_0 hx196_1 hx196_2 hx196_3 hx197_0 hx197_1 hx197_2 hx197_3 hx198_0 hx198_1 hx198_2 hx198_3 hx199_0 hx199_1 hx199_2 hx199_3 hx200_0 hx200_1 hx200_2 hx200_3 hx201_0 hx201_1 hx201_2 hx201_3 hHeld ⊢
                           refine pure_ (i := 0) (N := some 99) (v := ?_) (a' := ?_) (bitsJ 50 1) rfl rfl (any_of HT_.out (by kernel_rfl)) (fun _ _ _ h => h) (Or.inl ⟨by rfl, ?_⟩) ?_ ?_
                           rotate_left
                           · intro w'
                             go_simp
                             with_reducible rfl
                           rotate_left
                           · simp only [Act.put, List.setIfInBounds_toArray, List.set_cons_zero, List.set_cons_succ, i64_w, i32_w]
                             rfl
                           refine pure_ (i := 1) (N := some 100) (v := ?_) (a' := ?_) (bitsJ 50 3) rfl rfl (any_of HT_.out (by kernel_rfl)) (fun _ _ _ h => h) (Or.inl ⟨by rfl, ?_⟩) ?_ ?_
                           rotate_left
                           · intro w'
                             go_simp
                             with_reducible rfl
                           rotate_left
                           · simp only [Act.put, List.setIfInBounds_toArray, List.set_cons_zero, List.set_cons_succ, i64_w, i32_w]
                             rfl
                           refine pure_ (i := 2) (N := some 101) (v := ?_) (a' := ?_) (bitsJ 50 7) rfl rfl (any_of HT_.out (by kernel_rfl)) (fun _ _ _ h => h) (Or.inl ⟨by rfl, ?_⟩) ?_ ?_
                           rotate_left
                           · intro w'
                             go_simp
                             with_reducible rfl
                           rotate_left
                           · simp only [Act.put, List.setIfInBounds_toArray, List.set_cons_zero, List.set_cons_succ, i64_w, i32_w]
                             rfl
                           refine pure_ (i := 3) (N := some 102) (v := ?_) (a' := ?_) (bitsJ 50 15) rfl rfl (any_of HT_.out (by kernel_rfl)) (fun _ _ _ h => h) (Or.inl ⟨by rfl, ?_⟩) ?_ ?_
                           rotate_left
                           · intro w'
                             go_simp
                             with_reducible rfl
                           rotate_left
                           · simp only [Act.put, List.setIfInBounds_toArray, List.set_cons_zero, List.set_cons_succ, i64_w, i32_w]
                             rfl
                           refine pure_ (i := 5) (N := some 104) (v := ?_) (a' := ?_) (bitsJ 50 47) rfl rfl (any_of HT_.out (by kernel_rfl)) (fun _ _ _ h => h) (Or.inl ⟨by rfl, ?_⟩) ?_ ?_
                           rotate_left
                           · intro w'
                             go_simp
                             with_reducible rfl
                           rotate_left
                           · simp only [Act.put, List.setIfInBounds_toArray, List.set_cons_zero, List.set_cons_succ, i64_w, i32_w]
                             rfl
                           refine pure_ (i := 6) (N := some 105) (v := ?_) (a' := ?_) (bitsJ 50 111) rfl rfl (any_of HT_.out (by kernel_rfl)) (fun _ _ _ h => h) (Or.inl ⟨by rfl, ?_⟩) ?_ ?_
                           rotate_left
                           · intro w'
                             go_simp
                             with_reducible rfl
                           rotate_left
                           · simp only [Act.put, List.setIfInBounds_toArray, List.set_cons_zero, List.set_cons_succ, i64_w, i32_w]
                             rfl
                           refine pure_ (i := 7) (N := some 106) (v := ?_) (a' := ?_) (bitsJ 50 239) rfl rfl (any_of HT_.out (by kernel_rfl)) (fun _ _ _ h => h) (Or.inl ⟨by rfl, ?_⟩) ?_ ?_
                           rotate_left
                           · intro w'
                             go_simp
                             with_reducible rfl
                           rotate_left
                           · simp only [Act.put, List.setIfInBounds_toArray, List.set_cons_zero, List.set_cons_succ, i64_w, i32_w]
                             rfl
                           refine pure_ (i := 8) (N := some 107) (v := ?_) (a' := ?_) (bitsJ 50 495) rfl rfl (any_of HT_.out (by kernel_rfl)) (fun _ _ _ h => h) (Or.inl ⟨by rfl, ?_⟩) ?_ ?_
                           rotate_left
                           · intro w'
                             go_simp
                             with_reducible rfl
                           rotate_left
                           · simp only [Act.put, List.setIfInBounds_toArray, List.set_cons_zero, List.set_cons_succ, i64_w, i32_w]
                             rfl
                           refine take_ (i := 4) (N := some 103) (v := ?_) (a' := ?_) (bitsJ 50 511) rfl rfl (take_ofW HT_.out HW_.out (by kernel_rfl)) (fun _ _ _ h => h) (Or.inl ⟨by rfl, ?_⟩) hHeld ?_ ?_
                           rotate_left
                           · rintro w' ⟨s0, s1, s2, s3, s4, s5, s6, s7, s8, s9, s10, s11, s12, s13, s14, s15, s16, s17, s18, s19, s20, s21, s22, s23, s24, s25, s26, s27, s28, s29, s30, s31⟩
                             go_simp
                             with_reducible rfl
                           rotate_left
                           · simp only [Act.put, List.setIfInBounds_toArray, List.set_cons_zero, List.set_cons_succ, i64_w, i32_w]
                             rfl
                           refine take_ (i := 9) (N := some 108) (v := ?_) (a' := ?_) (bitsJ 50 1023) rfl rfl (take_ofW HT_.out HW_.out (by kernel_rfl)) (fun _ _ _ h => h) (Or.inl ⟨by rfl, ?_⟩) hHeld ?_ ?_
                           rotate_left
                           · rintro w' ⟨s0, s1, s2, s3, s4, s5, s6, s7, s8, s9, s10, s11, s12, s13, s14, s15, s16, s17, s18, s19, s20, s21, s22, s23, s24, s25, s26, s27, s28, s29, s30, s31⟩
                             go_simp
                             with_reducible rfl
                           rotate_left
                           · simp only [Act.put, List.setIfInBounds_toArray, List.set_cons_zero, List.set_cons_succ, i64_w, i32_w]
                             rfl
                           refine pure_ (i := 10) (N := some 109) (v := ?_) (a' := ?_) (bitsJ 50 2047) rfl rfl (any_of HT_.out (by kernel_rfl)) (fun _ _ _ h => h) (Or.inl ⟨by rfl, ?_⟩) ?_ ?_
                           rotate_left
                           · intro w'
                             go_simp
                             with_reducible rfl
                           rotate_left
                           · simp only [Act.put, List.setIfInBounds_toArray, List.set_cons_zero, List.set_cons_succ, i64_w, i32_w]
                             rfl
                           refine pure_ (i := 11) (N := some 110) (v := ?_) (a' := ?_) (bitsJ 50 4095) rfl rfl (any_of HT_.out (by kernel_rfl)) (fun _ _ _ h => h) (Or.inl ⟨by rfl, ?_⟩) ?_ ?_
                           rotate_left
                           · intro w'
                             go_simp
                             with_reducible rfl
                           rotate_left
                           · simp only [Act.put, List.setIfInBounds_toArray, List.set_cons_zero, List.set_cons_succ, i64_w, i32_w]
                             rfl
                           refine pure_ (i := 12) (N := some 111) (v := ?_) (a' := ?_) (bitsJ 50 8191) rfl rfl (any_of HT_.out (by kernel_rfl)) (fun _ _ _ h => h) (Or.inl ⟨by rfl, ?_⟩) ?_ ?_
                           rotate_left
                           · intro w'
                             go_simp
                             with_reducible rfl
                           rotate_left
                           · simp only [Act.put, List.setIfInBounds_toArray, List.set_cons_zero, List.set_cons_succ, i64_w, i32_w]
                             rfl
                           refine pure_ (i := 13) (N := some 112) (v := ?_) (a' := ?_) (bitsJ 50 16383) rfl rfl (any_of HT_.out (by kernel_rfl)) (fun _ _ _ h => h) (Or.inl ⟨by rfl, ?_⟩) ?_ ?_
                           rotate_left
                           · intro w'
                             go_simp
                             with_reducible rfl
                           rotate_left
                           · simp only [Act.put, List.setIfInBounds_toArray, List.set_cons_zero, List.set_cons_succ, i64_w, i32_w]
                             rfl
                           refine pure_ (i := 14) (N := some 113) (v := ?_) (a' := ?_) (bitsJ 50 32767) rfl rfl (any_of HT_.out (by kernel_rfl)) (fun _ _ _ h => h) (Or.inl ⟨by rfl, ?_⟩) ?_ ?_
                           rotate_left
                           · intro w'
                             go_simp
                             with_reducible rfl
                           rotate_left
                           · simp only [Act.put, List.setIfInBounds_toArray, List.set_cons_zero, List.set_cons_succ, i64_w, i32_w]
                             rfl
                           refine pure_ (i := 15) (N := some 114) (v := ?_) (a' := ?_) (bitsJ 50 65535) rfl rfl (any_of HT_.out (by kernel_rfl)) (fun _ _ _ h => h) (Or.inl ⟨by rfl, ?_⟩) ?_ ?_
                           rotate_left
                           · intro w'
                             go_simp
                             with_reducible rfl
                           rotate_left
                           · simp only [Act.put, List.setIfInBounds_toArray, List.set_cons_zero, List.set_cons_succ, i64_w, i32_w]
                             rfl
                           refine pure_ (i := 17) (N := some 116) (v := ?_) (a' := ?_) (bitsJ 50 196607) rfl rfl (any_of HT_.out (by kernel_rfl)) (fun _ _ _ h => h) (Or.inl ⟨by rfl, ?_⟩) ?_ ?_
                           rotate_left
                           · intro w'
                             go_simp
                             with_reducible rfl
                           rotate_left
                           · simp only [Act.put, List.setIfInBounds_toArray, List.set_cons_zero, List.set_cons_succ, i64_w, i32_w]
                             rfl
                           refine pure_ (i := 18) (N := some 117) (v := ?_) (a' := ?_) (bitsJ 50 458751) rfl rfl (any_of HT_.out (by kernel_rfl)) (fun _ _ _ h => h) (Or.inl ⟨by rfl, ?_⟩) ?_ ?_
                           rotate_left
                           · intro w'
                             go_simp
                             with_reducible rfl
                           rotate_left
                           · simp only [Act.put, List.setIfInBounds_toArray, List.set_cons_zero, List.set_cons_succ, i64_w, i32_w]
                             rfl
                           refine pure_ (i := 19) (N := some 118) (v := ?_) (a' := ?_) (bitsJ 50 983039) rfl rfl (any_of HT_.out (by kernel_rfl)) (fun _ _ _ h => h) (Or.inl ⟨by rfl, ?_⟩) ?_ ?_
                           rotate_left
                           · intro w'
                             go_simp
                             with_reducible rfl
                           rotate_left
                           · simp only [Act.put, List.setIfInBounds_toArray, List.set_cons_zero, List.set_cons_succ, i64_w, i32_w]
                             rfl
                           refine pure_ (i := 20) (N := some 119) (v := ?_) (a' := ?_) (bitsJ 50 2031615) rfl rfl (any_of HT_.out (by kernel_rfl)) (fun _ _ _ h => h) (Or.inl ⟨by rfl, ?_⟩) ?_ ?_
                           rotate_left
                           · intro w'
                             go_simp
                             with_reducible rfl
                           rotate_left
                           · simp only [Act.put, List.setIfInBounds_toArray, List.set_cons_zero, List.set_cons_succ, i64_w, i32_w]
                             rfl
                           refine take_ (i := 16) (N := some 115) (v := ?_) (a' := ?_) (bitsJ 50 2097151) rfl rfl (take_ofW HT_.out HW_.out (by kernel_rfl)) (fun _ _ _ h => h) (Or.inl ⟨by rfl, ?_⟩) hHeld ?_ ?_
                           rotate_left
                           · rintro w' ⟨s0, s1, s2, s3, s4, s5, s6, s7, s8, s9, s10, s11, s12, s13, s14, s15, s16, s17, s18, s19, s20, s21, s22, s23, s24, s25, s26, s27, s28, s29, s30, s31⟩
                             go_simp
                             with_reducible rfl
                           rotate_left
                           · simp only [Act.put, List.setIfInBounds_toArray, List.set_cons_zero, List.set_cons_succ, i64_w, i32_w]
                             rfl
                           refine take_ (i := 21) (N := some 120) (v := ?_) (a' := ?_) (bitsJ 50 4194303) rfl rfl (take_ofW HT_.out HW_.out (by kernel_rfl)) (fun _ _ _ h => h) (Or.inl ⟨by rfl, ?_⟩) hHeld ?_ ?_
                           rotate_left
                           · rintro w' ⟨s0, s1, s2, s3, s4, s5, s6, s7, s8, s9, s10, s11, s12, s13, s14, s15, s16, s17, s18, s19, s20, s21, s22, s23, s24, s25, s26, s27, s28, s29, s30, s31⟩
                             go_simp
                             with_reducible rfl
                           rotate_left
                           · simp only [Act.put, List.setIfInBounds_toArray, List.set_cons_zero, List.set_cons_succ, i64_w, i32_w]
                             rfl
                           refine pure_ (i := 22) (N := some 121) (v := ?_) (a' := ?_) (bitsJ 50 8388607) rfl rfl (any_of HT_.out (by kernel_rfl)) (fun _ _ _ h => h) (Or.inl ⟨by rfl, ?_⟩) ?_ ?_
                           rotate_left
                           · intro w'
                             go_simp
                             with_reducible rfl
                           rotate_left
                           · simp only [Act.put, List.setIfInBounds_toArray, List.set_cons_zero, List.set_cons_succ, i64_w, i32_w]
                             rfl
                           refine pure_ (i := 23) (N := some 122) (v := ?_) (a' := ?_) (bitsJ 50 16777215) rfl rfl (any_of HT_.out (by kernel_rfl)) (fun _ _ _ h => h) (Or.inl ⟨by rfl, ?_⟩) ?_ ?_
                           rotate_left
                           · intro w'
                             go_simp
                             with_reducible rfl
                           rotate_left
                           · simp only [Act.put, List.setIfInBounds_toArray, List.set_cons_zero, List.set_cons_succ, i64_w, i32_w]
                             rfl
                           refine pure_ (i := 24) (N := some 123) (v := ?_) (a' := ?_) (bitsJ 50 33554431) rfl rfl (any_of HT_.out (by kernel_rfl)) (fun _ _ _ h => h) (Or.inl ⟨by rfl, ?_⟩) ?_ ?_
                           rotate_left
                           · intro w'
                             go_simp
                             with_reducible rfl
                           rotate_left
                           · simp only [Act.put, List.setIfInBounds_toArray, List.set_cons_zero, List.set_cons_succ, i64_w, i32_w]
                             rfl
                           refine pure_ (i := 25) (N := some 124) (v := ?_) (a' := ?_) (bitsJ 50 67108863) rfl rfl (any_of HT_.out (by kernel_rfl)) (fun _ _ _ h => h) (Or.inl ⟨by rfl, ?_⟩) ?_ ?_
                           rotate_left
                           · intro w'
                             go_simp
                             with_reducible rfl
                           rotate_left
                           · simp only [Act.put, List.setIfInBounds_toArray, List.set_cons_zero, List.set_cons_succ, i64_w, i32_w]
                             rfl
                           refine pure_ (i := 26) (N := some 125) (v := ?_) (a' := ?_) (bitsJ 50 134217727) rfl rfl (any_of HT_.out (by kernel_rfl)) (fun _ _ _ h => h) (Or.inl ⟨by rfl, ?_⟩) ?_ ?_
                           rotate_left
                           · intro w'
                             go_simp
                             with_reducible rfl
                           rotate_left
                           · simp only [Act.put, List.setIfInBounds_toArray, List.set_cons_zero, List.set_cons_succ, i64_w, i32_w]
                             rfl
                           refine pure_ (i := 27) (N := some 126) (v := ?_) (a' := ?_) (bitsJ 50 268435455) rfl rfl (any_of HT_.out (by kernel_rfl)) (fun _ _ _ h => h) (Or.inl ⟨by rfl, ?_⟩) ?_ ?_
                           rotate_left
                           · intro w'
                             go_simp
                             with_reducible rfl
                           rotate_left
                           · simp only [Act.put, List.setIfInBounds_toArray, List.set_cons_zero, List.set_cons_succ, i64_w, i32_w]
                             rfl
                           refine pure_ (i := 28) (N := some 127) (v := ?_) (a' := ?_) (bitsJ 50 536870911) rfl rfl (any_of HT_.out (by kernel_rfl)) (fun _ _ _ h => h) (Or.inl ⟨by rfl, ?_⟩) ?_ ?_
                           rotate_left
                           · intro w'
                             go_simp
                             with_reducible rfl
                           rotate_left
                           · simp only [Act.put, List.setIfInBounds_toArray, List.set_cons_zero, List.set_cons_succ, i64_w, i32_w]
                             rfl
                           refine pure_ (i := 30) (N := some 129) (v := ?_) (a' := ?_) (bitsJ 50 1610612735) rfl rfl (any_of HT_.out (by kernel_rfl)) (fun _ _ _ h => h) (Or.inl ⟨by rfl, ?_⟩) ?_ ?_
                           rotate_left
                           · intro w'
                             go_simp
                             with_reducible rfl
                           rotate_left
                           · simp only [Act.put, List.setIfInBounds_toArray, List.set_cons_zero, List.set_cons_succ, i64_w, i32_w]
                             rfl
                           refine pure_ (i := 31) (N := some 130) (v := ?_) (a' := ?_) (bitsJ 50 3758096383) rfl rfl (any_of HT_.out (by kernel_rfl)) (fun _ _ _ h => h) (Or.inl ⟨by rfl, ?_⟩) ?_ ?_
                           rotate_left
                           · intro w'
                             go_simp
                             with_reducible rfl
                           rotate_left
                           · simp only [Act.put, List.setIfInBounds_toArray, List.set_cons_zero, List.set_cons_succ, i64_w, i32_w]
                             rfl
                           refine pure_ (i := 32) (N := some 131) (v := ?_) (a' := ?_) (bitsJ 50 8053063679) rfl rfl (any_of HT_.out (by kernel_rfl)) (fun _ _ _ h => h) (Or.inl ⟨by rfl, ?_⟩) ?_ ?_
                           rotate_left
                           · intro w'
                             go_simp
                             with_reducible rfl
                           rotate_left
                           · simp only [Act.put, List.setIfInBounds_toArray, List.set_cons_zero, List.set_cons_succ, i64_w, i32_w]
                             rfl
                           refine pure_ (i := 33) (N := some 132) (v := ?_) (a' := ?_) (bitsJ 50 16642998271) rfl rfl (any_of HT_.out (by kernel_rfl)) (fun _ _ _ h => h) (Or.inl ⟨by rfl, ?_⟩) ?_ ?_
                           rotate_left
                           · intro w'
                             go_simp
                             with_reducible rfl
                           rotate_left
                           · simp only [Act.put, List.setIfInBounds_toArray, List.set_cons_zero, List.set_cons_succ, i64_w, i32_w]
                             rfl
                           refine take_ (i := 29) (N := some 128) (v := ?_) (a' := ?_) (bitsJ 50 17179869183) rfl rfl (take_ofW HT_.out HW_.out (by kernel_rfl)) (fun _ _ _ h => h) (Or.inl ⟨by rfl, ?_⟩) hHeld ?_ ?_
                           rotate_left
                           · rintro w' ⟨s0, s1, s2, s3, s4, s5, s6, s7, s8, s9, s10, s11, s12, s13, s14, s15, s16, s17, s18, s19, s20, s21, s22, s23, s24, s25, s26, s27, s28, s29, s30, s31⟩
                             go_simp
                             with_reducible rfl
                           rotate_left
                           · simp only [Act.put, List.setIfInBounds_toArray, List.set_cons_zero, List.set_cons_succ, i64_w, i32_w]
                             rfl
                           refine take_ (i := 34) (N := some 133) (v := ?_) (a' := ?_) (bitsJ 50 34359738367) rfl rfl (take_ofW HT_.out HW_.out (by kernel_rfl)) (fun _ _ _ h => h) (Or.inl ⟨by rfl, ?_⟩) hHeld ?_ ?_
                           rotate_left
                           · rintro w' ⟨s0, s1, s2, s3, s4, s5, s6, s7, s8, s9, s10, s11, s12, s13, s14, s15, s16, s17, s18, s19, s20, s21, s22, s23, s24, s25, s26, s27, s28, s29, s30, s31⟩
                             go_simp
                             with_reducible rfl
                           rotate_left
                           · simp only [Act.put, List.setIfInBounds_toArray, List.set_cons_zero, List.set_cons_succ, i64_w, i32_w]
                             rfl
                           refine pure_ (i := 35) (N := some 134) (v := ?_) (a' := ?_) (bitsJ 50 68719476735) rfl rfl (any_of HT_.out (by kernel_rfl)) (fun _ _ _ h => h) (Or.inl ⟨by rfl, ?_⟩) ?_ ?_
                           rotate_left
                           · intro w'
                             go_simp
                             with_reducible rfl
                           rotate_left
                           · simp only [Act.put, List.setIfInBounds_toArray, List.set_cons_zero, List.set_cons_succ, i64_w, i32_w]
                             rfl
                           refine pure_ (i := 36) (N := some 135) (v := ?_) (a' := ?_) (bitsJ 50 137438953471) rfl rfl (any_of HT_.out (by kernel_rfl)) (fun _ _ _ h => h) (Or.inl ⟨by rfl, ?_⟩) ?_ ?_
                           rotate_left
                           · intro w'
                             go_simp
                             with_reducible rfl
                           rotate_left
                           · simp only [Act.put, List.setIfInBounds_toArray, List.set_cons_zero, List.set_cons_succ, i64_w, i32_w]
                             rfl
                           refine pure_ (i := 37) (N := some 136) (v := ?_) (a' := ?_) (bitsJ 50 274877906943) rfl rfl (any_of HT_.out (by kernel_rfl)) (fun _ _ _ h => h) (Or.inl ⟨by rfl, ?_⟩) ?_ ?_
                           rotate_left
                           · intro w'
                             go_simp
                             with_reducible rfl
                           rotate_left
                           · simp only [Act.put, List.setIfInBounds_toArray, List.set_cons_zero, List.set_cons_succ, i64_w, i32_w]
                             rfl
                           refine pure_ (i := 38) (N := some 137) (v := ?_) (a' := ?_) (bitsJ 50 549755813887) rfl rfl (any_of HT_.out (by kernel_rfl)) (fun _ _ _ h => h) (Or.inl ⟨by rfl, ?_⟩) ?_ ?_
                           rotate_left
                           · intro w'
                             go_simp
                             with_reducible rfl
                           rotate_left
                           · simp only [Act.put, List.setIfInBounds_toArray, List.set_cons_zero, List.set_cons_succ, i64_w, i32_w]
                             rfl
                           refine pure_ (i := 39) (N := some 138) (v := ?_) (a' := ?_) (bitsJ 50 1099511627775) rfl rfl (any_of HT_.out (by kernel_rfl)) (fun _ _ _ h => h) (Or.inl ⟨by rfl, ?_⟩) ?_ ?_
                           rotate_left
                           · intro w'
                             go_simp
                             with_reducible rfl
                           rotate_left
                           · simp only [Act.put, List.setIfInBounds_toArray, List.set_cons_zero, List.set_cons_succ, i64_w, i32_w]
                             rfl
                           refine pure_ (i := 40) (N := some 139) (v := ?_) (a' := ?_) (bitsJ 50 2199023255551) rfl rfl (any_of HT_.out (by kernel_rfl)) (fun _ _ _ h => h) (Or.inl ⟨by rfl, ?_⟩) ?_ ?_
                           rotate_left
                           · intro w'
                             go_simp
                             with_reducible rfl
                           rotate_left
                           · simp only [Act.put, List.setIfInBounds_toArray, List.set_cons_zero, List.set_cons_succ, i64_w, i32_w]
                             rfl
                           refine pure_ (i := 41) (N := some 140) (v := ?_) (a' := ?_) (bitsJ 50 4398046511103) rfl rfl (any_of HT_.out (by kernel_rfl)) (fun _ _ _ h => h) (Or.inl ⟨by rfl, ?_⟩) ?_ ?_
                           rotate_left
                           · intro w'
                             go_simp
                             with_reducible rfl
                           rotate_left
                           · simp only [Act.put, List.setIfInBounds_toArray, List.set_cons_zero, List.set_cons_succ, i64_w, i32_w]
                             rfl
                           refine pure_ (i := 43) (N := some 142) (v := ?_) (a' := ?_) (bitsJ 50 13194139533311) rfl rfl (any_of HT_.out (by kernel_rfl)) (fun _ _ _ h => h) (Or.inl ⟨by rfl, ?_⟩) ?_ ?_
                           rotate_left
                           · intro w'
                             go_simp
                             with_reducible rfl
                           rotate_left
                           · simp only [Act.put, List.setIfInBounds_toArray, List.set_cons_zero, List.set_cons_succ, i64_w, i32_w]
                             rfl
                           refine pure_ (i := 44) (N := some 143) (v := ?_) (a' := ?_) (bitsJ 50 30786325577727) rfl rfl (any_of HT_.out (by kernel_rfl)) (fun _ _ _ h => h) (Or.inl ⟨by rfl, ?_⟩) ?_ ?_
                           rotate_left
                           · intro w'
                             go_simp
                             with_reducible rfl
                           rotate_left
                           · simp only [Act.put, List.setIfInBounds_toArray, List.set_cons_zero, List.set_cons_succ, i64_w, i32_w]
                             rfl
                           refine pure_ (i := 45) (N := some 144) (v := ?_) (a' := ?_) (bitsJ 50 65970697666559) rfl rfl (any_of HT_.out (by kernel_rfl)) (fun _ _ _ h => h) (Or.inl ⟨by rfl, ?_⟩) ?_ ?_
                           rotate_left
                           · intro w'
                             go_simp
                             with_reducible rfl
                           rotate_left
                           · simp only [Act.put, List.setIfInBounds_toArray, List.set_cons_zero, List.set_cons_succ, i64_w, i32_w]
                             rfl
                           refine pure_ (i := 46) (N := some 145) (v := ?_) (a' := ?_) (bitsJ 50 136339441844223) rfl rfl (any_of HT_.out (by kernel_rfl)) (fun _ _ _ h => h) (Or.inl ⟨by rfl, ?_⟩) ?_ ?_
                           rotate_left
                           · intro w'
                             go_simp
                             with_reducible rfl
                           rotate_left
                           · simp only [Act.put, List.setIfInBounds_toArray, List.set_cons_zero, List.set_cons_succ, i64_w, i32_w]
                             rfl
                           refine take_ (i := 42) (N := some 141) (v := ?_) (a' := ?_) (bitsJ 50 140737488355327) rfl rfl (take_ofW HT_.out HW_.out (by kernel_rfl)) (fun _ _ _ h => h) (Or.inl ⟨by rfl, ?_⟩) hHeld ?_ ?_
                           rotate_left
                           · rintro w' ⟨s0, s1, s2, s3, s4, s5, s6, s7, s8, s9, s10, s11, s12, s13, s14, s15, s16, s17, s18, s19, s20, s21, s22, s23, s24, s25, s26, s27, s28, s29, s30, s31⟩
                             go_simp
                             with_reducible rfl
                           rotate_left
                           · simp only [Act.put, List.setIfInBounds_toArray, List.set_cons_zero, List.set_cons_succ, i64_w, i32_w]
                             rfl
                           refine take_ (i := 47) (N := some 146) (v := ?_) (a' := ?_) (bitsJ 50 281474976710655) rfl rfl (take_ofW HT_.out HW_.out (by kernel_rfl)) (fun _ _ _ h => h) (Or.inl ⟨by rfl, ?_⟩) hHeld ?_ ?_
                           rotate_left
                           · rintro w' ⟨s0, s1, s2, s3, s4, s5, s6, s7, s8, s9, s10, s11, s12, s13, s14, s15, s16, s17, s18, s19, s20, s21, s22, s23, s24, s25, s26, s27, s28, s29, s30, s31⟩
                             go_simp
                             with_reducible rfl
                           rotate_left
                           · simp only [Act.put, List.setIfInBounds_toArray, List.set_cons_zero, List.set_cons_succ, i64_w, i32_w]
                             rfl
                           refine pure_ (i := 48) (N := some 147) (v := ?_) (a' := ?_) (bitsJ 50 562949953421311) rfl rfl (any_of HT_.out (by kernel_rfl)) (fun _ _ _ h => h) (Or.inl ⟨by rfl, ?_⟩) ?_ ?_
                           rotate_left
                           · intro w'
                             go_simp
                             with_reducible rfl
                           rotate_left
                           · simp only [Act.put, List.setIfInBounds_toArray, List.set_cons_zero, List.set_cons_succ, i64_w, i32_w]
                             rfl
                           refine pure_ (i := 49) (N := some 148) (v := ?_) (a' := ?_) #[true, true, true, true, true, true, true, true, true, true, true, true, true, true, true, true, true, true, true, true, true, true, true, true, true, true, true, true, true, true, true, true, true, true, true, true, true, true, true, true, true, true, true, true, true, true, true, true, true, true] rfl rfl (any_of HT_.out (by kernel_rfl)) (fun _ _ _ h => h) (Or.inl ⟨by rfl, ?_⟩) ?_ ?_
                           rotate_left
                           · intro w'
                             go_simp
                             with_reducible rfl
                           rotate_left
                           · simp only [Act.put, List.setIfInBounds_toArray, List.set_cons_zero, List.set_cons_succ, i64_w, i32_w]
                             rfl
                           refine done_ (done_of HT_.out (by kernel_rfl)) ?_
                           try go_wp2
                           go_ret
                           exact ⟨by first | rfl | (simp [errW_none, errW_some] <;> rfl) | (simp [*, errW_none, errW_some] <;> rfl), by repeat (first | (with_reducible first | exact HB.out | apply below_alloc | apply pw_below_drewN | apply below_drew1) | exact HB.out)⟩
                       · rw [if_neg c50] at H
                         have c50b0 : (((rd_T67 t188 x14_4).f2) == ((rd_T68 x6_1 x14_4).f2)) = false := beq_eq_false_iff_ne.mpr c50
                         have c50b1 : (((rd_T67 t188 x14_4).f2) != ((rd_T68 x6_1 x14_4).f2)) = true := bne_iff_ne.mpr c50
                         obtain rfl := Option.some.inj H
                         obtain ⟨Ao58, co58, eo58⟩ := Kd.R_slice HO_11.out
                         subst eo58
                         try go_wp2
                         have n0_ := Aside0.mk (Kd.R_drew HO_6.out)
                         have n1_ := Aside0.mk (Kd.R_drew HO_11.out)
                         have n2_ := Aside0.mk (below_drew1 HB.out)
                         clear HO_6
                         clear HO_11
                         clear HB
                         have HO_6 := n0_
                         have HO_11 := n1_
                         have HB := n2_
                         clear n0_ n1_ n2_
                         have p194 : 0 ≤ (x14_4 : Int) := of_decide_eq_true (by first | (with_reducible assumption) | assumption)
                         have q194 : x14_4 < (t188.length : Int) := of_decide_eq_true (by first | (with_reducible assumption) | assumption)
                         obtain ⟨ad194, e194, hx194_0, hx194_1, hx194_2, hx194_3⟩ := at_T67 (Kd.R_reads' HO_11.out).2.2 x14_4 p194 q194
                         cases e194
                         replace p194 := eq_true p194
                         replace q194 := eq_true q194
                         obtain ⟨Ao60, co60, eo60⟩ := Kd.R_slice HO_6.out
                         (first | subst eo60 | (injection eo60 with f1_ f2_ f3_; have f4_ := f1_.symm; have f5_ := f3_.symm; clear f1_ f2_ f3_; subst f4_; subst f5_))
                         have p195 : 0 ≤ (x14_4 : Int) := of_decide_eq_true (by first | (with_reducible assumption) | assumption)
                         have q195 : x14_4 < (x6_1.length : Int) := of_decide_eq_true (by first | (with_reducible assumption) | assumption)
                         obtain ⟨ad195, e195, hx195_0, hx195_1, hx195_2, hx195_3⟩ := at_T68 (Kd.R_reads' HO_6.out).2.2 x14_4 p195 q195
                         cases e195
                         replace p195 := eq_true p195
                         replace q195 := eq_true q195
                         have p196 : 0 ≤ (x14_4 : Int) := of_decide_eq_true (by first | (with_reducible assumption) | assumption)
                         have q196 : x14_4 < (t188.length : Int) := of_decide_eq_true (by first | (with_reducible assumption) | assumption)
                         obtain ⟨ad196, e196, hx196_0, hx196_1, hx196_2, hx196_3⟩ := at_T67 (Kd.R_reads' HO_11.out).2.2 x14_4 p196 q196
                         obtain rfl : ad194 = ad196 := (by injection e196)
                         replace p196 := eq_true p196
                         replace q196 := eq_true q196
                         have p197 : 0 ≤ (x14_4 : Int) := of_decide_eq_true (by first | (with_reducible assumption) | assumption)
                         have q197 : x14_4 < (x6_1.length : Int) := of_decide_eq_true (by first | (with_reducible assumption) | assumption)
                         obtain ⟨ad197, e197, hx197_0, hx197_1, hx197_2, hx197_3⟩ := at_T68 (Kd.R_reads' HO_6.out).2.2 x14_4 p197 q197
                         obtain rfl : ad195 = ad197 := (by injection e197)
                         replace p197 := eq_true p197
                         replace q197 := eq_true q197
                         have p198 : 0 ≤ (x14_4 : Int) := of_decide_eq_true (by first | (with_reducible assumption) | assumption)
                         have q198 : x14_4 < (t188.length : Int) := of_decide_eq_true (by first | (with_reducible assumption) | assumption)
                         obtain ⟨ad198, e198, hx198_0, hx198_1, hx198_2, hx198_3⟩ := at_T67 (Kd.R_reads' HO_11.out).2.2 x14_4 p198 q198
                         obtain rfl : ad194 = ad198 := (by injection e198)
                         replace p198 := eq_true p198
                         replace q198 := eq_true q198
                         have p199 : 0 ≤ (x14_4 : Int) := of_decide_eq_true (by first | (with_reducible assumption) | assumption)
                         have q199 : x14_4 < (x6_1.length : Int) := of_decide_eq_true (by first | (with_reducible assumption) | assumption)
                         obtain ⟨ad199, e199, hx199_0, hx199_1, hx199_2, hx199_3⟩ := at_T68 (Kd.R_reads' HO_6.out).2.2 x14_4 p199 q199
                         obtain rfl : ad195 = ad199 := (by injection e199)
                         replace p199 := eq_true p199
                         replace q199 := eq_true q199
                         refine start_ (n := 50) (S := fun w' => w'.cell? (ad194.add ((x14_4).toNat * 4)) = some (.int .i64 ((rd_T67 t188 x14_4).f0)) ∧ w'.cell? ⟨(ad194.add ((x14_4).toNat * 4)).block, (ad194.add ((x14_4).toNat * 4)).off + 1, none⟩ = some (.string ((rd_T67 t188 x14_4).f1)) ∧ w'.cell? ⟨(ad194.add ((x14_4).toNat * 4)).block, (ad194.add ((x14_4).toNat * 4)).off + 2, none⟩ = some (.int .i64 ((rd_T67 t188 x14_4).f2)) ∧ w'.cell? ⟨(ad194.add ((x14_4).toNat * 4)).block, (ad194.add ((x14_4).toNat * 4)).off + 3, none⟩ = some (.int .i64 ((rd_T67 t188 x14_4).f3)) ∧ w'.cell? (ad195.add ((x14_4).toNat * 4)) = some (.int .i64 ((rd_T68 x6_1 x14_4).f0)) ∧ w'.cell? ⟨(ad195.add ((x14_4).toNat * 4)).block, (ad195.add ((x14_4).toNat * 4)).off + 1, none⟩ = some (.string ((rd_T68 x6_1 x14_4).f1)) ∧ w'.cell? ⟨(ad195.add ((x14_4).toNat * 4)).block, (ad195.add ((x14_4).toNat * 4)).off + 2, none⟩ = some (.int .i64 ((rd_T68 x6_1 x14_4).f2)) ∧ w'.cell? ⟨(ad195.add ((x14_4).toNat * 4)).block, (ad195.add ((x14_4).toNat * 4)).off + 3, none⟩ = some (.int .i64 ((rd_T68 x6_1 x14_4).f3)) ∧ w'.cell? (ad194.add ((x14_4).toNat * 4)) = some (.int .i64 ((rd_T67 t188 x14_4).f0)) ∧ w'.cell? ⟨(ad194.add ((x14_4).toNat * 4)).block, (ad194.add ((x14_4).toNat * 4)).off + 1, none⟩ = some (.string ((rd_T67 t188 x14_4).f1)) ∧ w'.cell? ⟨(ad194.add ((x14_4).toNat * 4)).block, (ad194.add ((x14_4).toNat * 4)).off + 2, none⟩ = some (.int .i64 ((rd_T67 t188 x14_4).f2)) ∧ w'.cell? ⟨(ad194.add ((x14_4).toNat * 4)).block, (ad194.add ((x14_4).toNat * 4)).off + 3, none⟩ = some (.int .i64 ((rd_T67 t188 x14_4).f3)) ∧ w'.cell? (ad195.add ((x14_4).toNat * 4)) = some (.int .i64 ((rd_T68 x6_1 x14_4).f0)) ∧ w'.cell? ⟨(ad195.add ((x14_4).toNat * 4)).block, (ad195.add ((x14_4).toNat * 4)).off + 1, none⟩ = some (.string ((rd_T68 x6_1 x14_4).f1)) ∧ w'.cell? ⟨(ad195.add ((x14_4).toNat * 4)).block, (ad195.add ((x14_4).toNat * 4)).off + 2, none⟩ = some (.int .i64 ((rd_T68 x6_1 x14_4).f2)) ∧ w'.cell? ⟨(ad195.add ((x14_4).toNat * 4)).block, (ad195.add ((x14_4).toNat * 4)).off + 3, none⟩ = some (.int .i64 ((rd_T68 x6_1 x14_4).f3)) ∧ w'.cell? (ad194.add ((x14_4).toNat * 4)) = some (.int .i64 ((rd_T67 t188 x14_4).f0)) ∧ w'.cell? ⟨(ad194.add ((x14_4).toNat * 4)).block, (ad194.add ((x14_4).toNat * 4)).off + 1, none⟩ = some (.string ((rd_T67 t188 x14_4).f1)) ∧ w'.cell? ⟨(ad194.add ((x14_4).toNat * 4)).block, (ad194.add ((x14_4).toNat * 4)).off + 2, none⟩ = some (.int .i64 ((rd_T67 t188 x14_4).f2)) ∧ w'.cell? ⟨(ad194.add ((x14_4).toNat * 4)).block, (ad194.add ((x14_4).toNat * 4)).off + 3, none⟩ = some (.int .i64 ((rd_T67 t188 x14_4).f3)) ∧ w'.cell? (ad195.add ((x14_4).toNat * 4)) = some (.int .i64 ((rd_T68 x6_1 x14_4).f0)) ∧ w'.cell? ⟨(ad195.add ((x14_4).toNat * 4)).block, (ad195.add ((x14_4).toNat * 4)).off + 1, none⟩ = some (.string ((rd_T68 x6_1 x14_4).f1)) ∧ w'.cell? ⟨(ad195.add ((x14_4).toNat * 4)).block, (ad195.add ((x14_4).toNat * 4)).off + 2, none⟩ = some (.int .i64 ((rd_T68 x6_1 x14_4).f2)) ∧ w'.cell? ⟨(ad195.add ((x14_4).toNat * 4)).block, (ad195.add ((x14_4).toNat * 4)).off + 3, none⟩ = some (.int .i64 ((rd_T68 x6_1 x14_4).f3))) (ds := []) (bitsJ 50 0) (by kernel_rfl) rfl rfl ⟨hx194_0, hx194_1, hx194_2, hx194_3, hx195_0, hx195_1, hx195_2, hx195_3, hx196_0, hx196_1, hx196_2, hx196_3, hx197_0, hx197_1, hx197_2, hx197_3, hx198_0, hx198_1, hx198_2, hx198_3, hx199_0, hx199_1, hx199_2, hx199_3⟩ (fun hHeld => ?_); refine with_tabW jetsamlaw01_LexJoins.tab20 jetsamlaw01_LexJoins.bits20 (fun HT_ HW_ => ?_)
                         generalize wr.drew = w59 at HO_6 HO_11 HB hx194_0 hx194_1 hx194_2 hx194_3 hx195_0 hx195_1 hx195_2 hx195_3 hx196_0 hx196_1 hx196_2 hx196_3 hx197_0 hx197_1 hx197_2 hx197_3 hx198_0 hx198_1 hx198_2 hx198_3 hx199_0 hx199_1 hx199_2 hx199_3 hHeld ⊢
                         refine pure_ (i := 0) (N := some 99) (v := ?_) (a' := ?_) (bitsJ 50 1) rfl rfl (any_of HT_.out (by kernel_rfl)) (fun _ _ _ h => h) (Or.inl ⟨by rfl, ?_⟩) ?_ ?_
                         rotate_left
                         · intro w'
                           go_simp
                           with_reducible rfl
                         rotate_left
                         · simp only [Act.put, List.setIfInBounds_toArray, List.set_cons_zero, List.set_cons_succ, i64_w, i32_w]
                           rfl
                         refine pure_ (i := 1) (N := some 100) (v := ?_) (a' := ?_) (bitsJ 50 3) rfl rfl (any_of HT_.out (by kernel_rfl)) (fun _ _ _ h => h) (Or.inl ⟨by rfl, ?_⟩) ?_ ?_
                         rotate_left
                         · intro w'
                           go_simp
                           with_reducible rfl
                         rotate_left
                         · simp only [Act.put, List.setIfInBounds_toArray, List.set_cons_zero, List.set_cons_succ, i64_w, i32_w]
                           rfl
                         refine pure_ (i := 2) (N := some 101) (v := ?_) (a' := ?_) (bitsJ 50 7) rfl rfl (any_of HT_.out (by kernel_rfl)) (fun _ _ _ h => h) (Or.inl ⟨by rfl, ?_⟩) ?_ ?_
                         rotate_left
                         · intro w'
                           go_simp
                           with_reducible rfl
                         rotate_left
                         · simp only [Act.put, List.setIfInBounds_toArray, List.set_cons_zero, List.set_cons_succ, i64_w, i32_w]
                           rfl
                         refine pure_ (i := 3) (N := some 102) (v := ?_) (a' := ?_) (bitsJ 50 15) rfl rfl (any_of HT_.out (by kernel_rfl)) (fun _ _ _ h => h) (Or.inl ⟨by rfl, ?_⟩) ?_ ?_
                         rotate_left
                         · intro w'
                           go_simp
                           with_reducible rfl
                         rotate_left
                         · simp only [Act.put, List.setIfInBounds_toArray, List.set_cons_zero, List.set_cons_succ, i64_w, i32_w]
                           rfl
                         refine pure_ (i := 5) (N := some 104) (v := ?_) (a' := ?_) (bitsJ 50 47) rfl rfl (any_of HT_.out (by kernel_rfl)) (fun _ _ _ h => h) (Or.inl ⟨by rfl, ?_⟩) ?_ ?_
                         rotate_left
                         · intro w'
                           go_simp
                           with_reducible rfl
                         rotate_left
                         · simp only [Act.put, List.setIfInBounds_toArray, List.set_cons_zero, List.set_cons_succ, i64_w, i32_w]
                           rfl
                         refine pure_ (i := 6) (N := some 105) (v := ?_) (a' := ?_) (bitsJ 50 111) rfl rfl (any_of HT_.out (by kernel_rfl)) (fun _ _ _ h => h) (Or.inl ⟨by rfl, ?_⟩) ?_ ?_
                         rotate_left
                         · intro w'
                           go_simp
                           with_reducible rfl
                         rotate_left
                         · simp only [Act.put, List.setIfInBounds_toArray, List.set_cons_zero, List.set_cons_succ, i64_w, i32_w]
                           rfl
                         refine pure_ (i := 7) (N := some 106) (v := ?_) (a' := ?_) (bitsJ 50 239) rfl rfl (any_of HT_.out (by kernel_rfl)) (fun _ _ _ h => h) (Or.inl ⟨by rfl, ?_⟩) ?_ ?_
                         rotate_left
                         · intro w'
                           go_simp
                           with_reducible rfl
                         rotate_left
                         · simp only [Act.put, List.setIfInBounds_toArray, List.set_cons_zero, List.set_cons_succ, i64_w, i32_w]
                           rfl
                         refine pure_ (i := 8) (N := some 107) (v := ?_) (a' := ?_) (bitsJ 50 495) rfl rfl (any_of HT_.out (by kernel_rfl)) (fun _ _ _ h => h) (Or.inl ⟨by rfl, ?_⟩) ?_ ?_
                         rotate_left
                         · intro w'
                           go_simp
                           with_reducible rfl
                         rotate_left
                         · simp only [Act.put, List.setIfInBounds_toArray, List.set_cons_zero, List.set_cons_succ, i64_w, i32_w]
                           rfl
                         refine take_ (i := 4) (N := some 103) (v := ?_) (a' := ?_) (bitsJ 50 511) rfl rfl (take_ofW HT_.out HW_.out (by kernel_rfl)) (fun _ _ _ h => h) (Or.inl ⟨by rfl, ?_⟩) hHeld ?_ ?_
                         rotate_left
                         · rintro w' ⟨s0, s1, s2, s3, s4, s5, s6, s7, s8, s9, s10, s11, s12, s13, s14, s15, s16, s17, s18, s19, s20, s21, s22, s23⟩
                           go_simp
                           with_reducible rfl
                         rotate_left
                         · simp only [Act.put, List.setIfInBounds_toArray, List.set_cons_zero, List.set_cons_succ, i64_w, i32_w]
                           rfl
                         refine take_ (i := 9) (N := some 108) (v := ?_) (a' := ?_) (bitsJ 50 1023) rfl rfl (take_ofW HT_.out HW_.out (by kernel_rfl)) (fun _ _ _ h => h) (Or.inl ⟨by rfl, ?_⟩) hHeld ?_ ?_
                         rotate_left
                         · rintro w' ⟨s0, s1, s2, s3, s4, s5, s6, s7, s8, s9, s10, s11, s12, s13, s14, s15, s16, s17, s18, s19, s20, s21, s22, s23⟩
                           go_simp
                           with_reducible rfl
                         rotate_left
                         · simp only [Act.put, List.setIfInBounds_toArray, List.set_cons_zero, List.set_cons_succ, i64_w, i32_w]
                           rfl
                         refine pure_ (i := 10) (N := some 109) (v := ?_) (a' := ?_) (bitsJ 50 2047) rfl rfl (any_of HT_.out (by kernel_rfl)) (fun _ _ _ h => h) (Or.inl ⟨by rfl, ?_⟩) ?_ ?_
                         rotate_left
                         · intro w'
                           go_simp
                           with_reducible rfl
                         rotate_left
                         · simp only [Act.put, List.setIfInBounds_toArray, List.set_cons_zero, List.set_cons_succ, i64_w, i32_w]
                           rfl
                         refine pure_ (i := 11) (N := some 110) (v := ?_) (a' := ?_) (bitsJ 50 4095) rfl rfl (any_of HT_.out (by kernel_rfl)) (fun _ _ _ h => h) (Or.inl ⟨by rfl, ?_⟩) ?_ ?_
                         rotate_left
                         · intro w'
                           go_simp
                           with_reducible rfl
                         rotate_left
                         · simp only [Act.put, List.setIfInBounds_toArray, List.set_cons_zero, List.set_cons_succ, i64_w, i32_w]
                           rfl
                         refine pure_ (i := 12) (N := some 111) (v := ?_) (a' := ?_) (bitsJ 50 8191) rfl rfl (any_of HT_.out (by kernel_rfl)) (fun _ _ _ h => h) (Or.inl ⟨by rfl, ?_⟩) ?_ ?_
                         rotate_left
                         · intro w'
                           go_simp
                           with_reducible rfl
                         rotate_left
                         · simp only [Act.put, List.setIfInBounds_toArray, List.set_cons_zero, List.set_cons_succ, i64_w, i32_w]
                           rfl
                         refine pure_ (i := 13) (N := some 112) (v := ?_) (a' := ?_) (bitsJ 50 16383) rfl rfl (any_of HT_.out (by kernel_rfl)) (fun _ _ _ h => h) (Or.inl ⟨by rfl, ?_⟩) ?_ ?_
                         rotate_left
                         · intro w'
                           go_simp
                           with_reducible rfl
                         rotate_left
                         · simp only [Act.put, List.setIfInBounds_toArray, List.set_cons_zero, List.set_cons_succ, i64_w, i32_w]
                           rfl
                         refine pure_ (i := 14) (N := some 113) (v := ?_) (a' := ?_) (bitsJ 50 32767) rfl rfl (any_of HT_.out (by kernel_rfl)) (fun _ _ _ h => h) (Or.inl ⟨by rfl, ?_⟩) ?_ ?_
                         rotate_left
                         · intro w'
                           go_simp
                           with_reducible rfl
                         rotate_left
                         · simp only [Act.put, List.setIfInBounds_toArray, List.set_cons_zero, List.set_cons_succ, i64_w, i32_w]
                           rfl
                         refine pure_ (i := 15) (N := some 114) (v := ?_) (a' := ?_) (bitsJ 50 65535) rfl rfl (any_of HT_.out (by kernel_rfl)) (fun _ _ _ h => h) (Or.inl ⟨by rfl, ?_⟩) ?_ ?_
                         rotate_left
                         · intro w'
                           go_simp
                           with_reducible rfl
                         rotate_left
                         · simp only [Act.put, List.setIfInBounds_toArray, List.set_cons_zero, List.set_cons_succ, i64_w, i32_w]
                           rfl
                         refine pure_ (i := 17) (N := some 116) (v := ?_) (a' := ?_) (bitsJ 50 196607) rfl rfl (any_of HT_.out (by kernel_rfl)) (fun _ _ _ h => h) (Or.inl ⟨by rfl, ?_⟩) ?_ ?_
                         rotate_left
                         · intro w'
                           go_simp
                           with_reducible rfl
                         rotate_left
                         · simp only [Act.put, List.setIfInBounds_toArray, List.set_cons_zero, List.set_cons_succ, i64_w, i32_w]
                           rfl
                         refine pure_ (i := 18) (N := some 117) (v := ?_) (a' := ?_) (bitsJ 50 458751) rfl rfl (any_of HT_.out (by kernel_rfl)) (fun _ _ _ h => h) (Or.inl ⟨by rfl, ?_⟩) ?_ ?_
                         rotate_left
                         · intro w'
                           go_simp
                           with_reducible rfl
                         rotate_left
                         · simp only [Act.put, List.setIfInBounds_toArray, List.set_cons_zero, List.set_cons_succ, i64_w, i32_w]
                           rfl
                         refine pure_ (i := 19) (N := some 118) (v := ?_) (a' := ?_) (bitsJ 50 983039) rfl rfl (any_of HT_.out (by kernel_rfl)) (fun _ _ _ h => h) (Or.inl ⟨by rfl, ?_⟩) ?_ ?_
                         rotate_left
                         · intro w'
                           go_simp
                           with_reducible rfl
                         rotate_left
                         · simp only [Act.put, List.setIfInBounds_toArray, List.set_cons_zero, List.set_cons_succ, i64_w, i32_w]
                           rfl
                         refine pure_ (i := 20) (N := some 119) (v := ?_) (a' := ?_) (bitsJ 50 2031615) rfl rfl (any_of HT_.out (by kernel_rfl)) (fun _ _ _ h => h) (Or.inl ⟨by rfl, ?_⟩) ?_ ?_
                         rotate_left
                         · intro w'
                           go_simp
                           with_reducible rfl
                         rotate_left
                         · simp only [Act.put, List.setIfInBounds_toArray, List.set_cons_zero, List.set_cons_succ, i64_w, i32_w]
                           rfl
                         refine take_ (i := 16) (N := some 115) (v := ?_) (a' := ?_) (bitsJ 50 2097151) rfl rfl (take_ofW HT_.out HW_.out (by kernel_rfl)) (fun _ _ _ h => h) (Or.inl ⟨by rfl, ?_⟩) hHeld ?_ ?_
                         rotate_left
                         · rintro w' ⟨s0, s1, s2, s3, s4, s5, s6, s7, s8, s9, s10, s11, s12, s13, s14, s15, s16, s17, s18, s19, s20, s21, s22, s23⟩
                           go_simp
                           with_reducible rfl
                         rotate_left
                         · simp only [Act.put, List.setIfInBounds_toArray, List.set_cons_zero, List.set_cons_succ, i64_w, i32_w]
                           rfl
                         refine take_ (i := 21) (N := some 120) (v := ?_) (a' := ?_) (bitsJ 50 4194303) rfl rfl (take_ofW HT_.out HW_.out (by kernel_rfl)) (fun _ _ _ h => h) (Or.inl ⟨by rfl, ?_⟩) hHeld ?_ ?_
                         rotate_left
                         · rintro w' ⟨s0, s1, s2, s3, s4, s5, s6, s7, s8, s9, s10, s11, s12, s13, s14, s15, s16, s17, s18, s19, s20, s21, s22, s23⟩
                           go_simp
                           with_reducible rfl
                         rotate_left
                         · simp only [Act.put, List.setIfInBounds_toArray, List.set_cons_zero, List.set_cons_succ, i64_w, i32_w]
                           rfl
                         refine pure_ (i := 22) (N := some 121) (v := ?_) (a' := ?_) (bitsJ 50 8388607) rfl rfl (any_of HT_.out (by kernel_rfl)) (fun _ _ _ h => h) (Or.inl ⟨by rfl, ?_⟩) ?_ ?_
                         rotate_left
                         · intro w'
                           go_simp
                           with_reducible rfl
                         rotate_left
                         · simp only [Act.put, List.setIfInBounds_toArray, List.set_cons_zero, List.set_cons_succ, i64_w, i32_w]
                           rfl
                         refine pure_ (i := 23) (N := some 122) (v := ?_) (a' := ?_) (bitsJ 50 16777215) rfl rfl (any_of HT_.out (by kernel_rfl)) (fun _ _ _ h => h) (Or.inl ⟨by rfl, ?_⟩) ?_ ?_
                         rotate_left
                         · intro w'
                           go_simp
                           with_reducible rfl
                         rotate_left
                         · simp only [Act.put, List.setIfInBounds_toArray, List.set_cons_zero, List.set_cons_succ, i64_w, i32_w]
                           rfl
                         refine pure_ (i := 24) (N := some 123) (v := ?_) (a' := ?_) (bitsJ 50 33554431) rfl rfl (any_of HT_.out (by kernel_rfl)) (fun _ _ _ h => h) (Or.inl ⟨by rfl, ?_⟩) ?_ ?_
                         rotate_left
                         · intro w'
                           go_simp
                           with_reducible rfl
                         rotate_left
                         · simp only [Act.put, List.setIfInBounds_toArray, List.set_cons_zero, List.set_cons_succ, i64_w, i32_w]
                           rfl
                         refine pure_ (i := 25) (N := some 124) (v := ?_) (a' := ?_) (bitsJ 50 67108863) rfl rfl (any_of HT_.out (by kernel_rfl)) (fun _ _ _ h => h) (Or.inl ⟨by rfl, ?_⟩) ?_ ?_
                         rotate_left
                         · intro w'
                           go_simp
                           with_reducible rfl
                         rotate_left
                         · simp only [Act.put, List.setIfInBounds_toArray, List.set_cons_zero, List.set_cons_succ, i64_w, i32_w]
                           rfl
                         refine pure_ (i := 26) (N := some 125) (v := ?_) (a' := ?_) (bitsJ 50 134217727) rfl rfl (any_of HT_.out (by kernel_rfl)) (fun _ _ _ h => h) (Or.inl ⟨by rfl, ?_⟩) ?_ ?_
                         rotate_left
                         · intro w'
                           go_simp
                           with_reducible rfl
                         rotate_left
                         · simp only [Act.put, List.setIfInBounds_toArray, List.set_cons_zero, List.set_cons_succ, i64_w, i32_w]
                           rfl
                         refine pure_ (i := 27) (N := some 126) (v := ?_) (a' := ?_) (bitsJ 50 268435455) rfl rfl (any_of HT_.out (by kernel_rfl)) (fun _ _ _ h => h) (Or.inl ⟨by rfl, ?_⟩) ?_ ?_
                         rotate_left
                         · intro w'
                           go_simp
                           with_reducible rfl
                         rotate_left
                         · simp only [Act.put, List.setIfInBounds_toArray, List.set_cons_zero, List.set_cons_succ, i64_w, i32_w]
                           rfl
                         refine pure_ (i := 28) (N := some 127) (v := ?_) (a' := ?_) (bitsJ 50 536870911) rfl rfl (any_of HT_.out (by kernel_rfl)) (fun _ _ _ h => h) (Or.inl ⟨by rfl, ?_⟩) ?_ ?_
                         rotate_left
                         · intro w'
                           go_simp
                           with_reducible rfl
                         rotate_left
                         · simp only [Act.put, List.setIfInBounds_toArray, List.set_cons_zero, List.set_cons_succ, i64_w, i32_w]
                           rfl
                         refine pure_ (i := 30) (N := some 129) (v := ?_) (a' := ?_) (bitsJ 50 1610612735) rfl rfl (any_of HT_.out (by kernel_rfl)) (fun _ _ _ h => h) (Or.inl ⟨by rfl, ?_⟩) ?_ ?_
                         rotate_left
                         · intro w'
                           go_simp
                           with_reducible rfl
                         rotate_left
                         · simp only [Act.put, List.setIfInBounds_toArray, List.set_cons_zero, List.set_cons_succ, i64_w, i32_w]
                           rfl
                         refine pure_ (i := 31) (N := some 130) (v := ?_) (a' := ?_) (bitsJ 50 3758096383) rfl rfl (any_of HT_.out (by kernel_rfl)) (fun _ _ _ h => h) (Or.inl ⟨by rfl, ?_⟩) ?_ ?_
                         rotate_left
                         · intro w'
                           go_simp
                           with_reducible rfl
                         rotate_left
                         · simp only [Act.put, List.setIfInBounds_toArray, List.set_cons_zero, List.set_cons_succ, i64_w, i32_w]
                           rfl
                         refine pure_ (i := 32) (N := some 131) (v := ?_) (a' := ?_) (bitsJ 50 8053063679) rfl rfl (any_of HT_.out (by kernel_rfl)) (fun _ _ _ h => h) (Or.inl ⟨by rfl, ?_⟩) ?_ ?_
                         rotate_left
                         · intro w'
                           go_simp
                           with_reducible rfl
                         rotate_left
                         · simp only [Act.put, List.setIfInBounds_toArray, List.set_cons_zero, List.set_cons_succ, i64_w, i32_w]
                           rfl
                         refine pure_ (i := 33) (N := some 132) (v := ?_) (a' := ?_) (bitsJ 50 16642998271) rfl rfl (any_of HT_.out (by kernel_rfl)) (fun _ _ _ h => h) (Or.inl ⟨by rfl, ?_⟩) ?_ ?_
                         rotate_left
                         · intro w'
                           go_simp
                           with_reducible rfl
                         rotate_left
                         · simp only [Act.put, List.setIfInBounds_toArray, List.set_cons_zero, List.set_cons_succ, i64_w, i32_w]
                           rfl
                         refine take_ (i := 29) (N := some 128) (v := ?_) (a' := ?_) (bitsJ 50 17179869183) rfl rfl (take_ofW HT_.out HW_.out (by kernel_rfl)) (fun _ _ _ h => h) (Or.inl ⟨by rfl, ?_⟩) hHeld ?_ ?_
                         rotate_left
                         · rintro w' ⟨s0, s1, s2, s3, s4, s5, s6, s7, s8, s9, s10, s11, s12, s13, s14, s15, s16, s17, s18, s19, s20, s21, s22, s23⟩
                           go_simp
                           with_reducible rfl
                         rotate_left
                         · simp only [Act.put, List.setIfInBounds_toArray, List.set_cons_zero, List.set_cons_succ, i64_w, i32_w]
                           rfl
                         refine take_ (i := 34) (N := some 133) (v := ?_) (a' := ?_) (bitsJ 50 34359738367) rfl rfl (take_ofW HT_.out HW_.out (by kernel_rfl)) (fun _ _ _ h => h) (Or.inl ⟨by rfl, ?_⟩) hHeld ?_ ?_
                         rotate_left
                         · rintro w' ⟨s0, s1, s2, s3, s4, s5, s6, s7, s8, s9, s10, s11, s12, s13, s14, s15, s16, s17, s18, s19, s20, s21, s22, s23⟩
                           go_simp
                           with_reducible rfl
                         rotate_left
                         · simp only [Act.put, List.setIfInBounds_toArray, List.set_cons_zero, List.set_cons_succ, i64_w, i32_w]
                           rfl
                         refine pure_ (i := 35) (N := some 134) (v := ?_) (a' := ?_) (bitsJ 50 68719476735) rfl rfl (any_of HT_.out (by kernel_rfl)) (fun _ _ _ h => h) (Or.inl ⟨by rfl, ?_⟩) ?_ ?_
                         rotate_left
                         · intro w'
                           go_simp
                           with_reducible rfl
                         rotate_left
                         · simp only [Act.put, List.setIfInBounds_toArray, List.set_cons_zero, List.set_cons_succ, i64_w, i32_w]
                           rfl
                         refine pure_ (i := 36) (N := some 135) (v := ?_) (a' := ?_) (bitsJ 50 137438953471) rfl rfl (any_of HT_.out (by kernel_rfl)) (fun _ _ _ h => h) (Or.inl ⟨by rfl, ?_⟩) ?_ ?_
                         rotate_left
                         · intro w'
                           go_simp
                           with_reducible rfl
                         rotate_left
                         · simp only [Act.put, List.setIfInBounds_toArray, List.set_cons_zero, List.set_cons_succ, i64_w, i32_w]
                           rfl
                         refine pure_ (i := 37) (N := some 136) (v := ?_) (a' := ?_) (bitsJ 50 274877906943) rfl rfl (any_of HT_.out (by kernel_rfl)) (fun _ _ _ h => h) (Or.inl ⟨by rfl, ?_⟩) ?_ ?_
                         rotate_left
                         · intro w'
                           go_simp
                           with_reducible rfl
                         rotate_left
                         · simp only [Act.put, List.setIfInBounds_toArray, List.set_cons_zero, List.set_cons_succ, i64_w, i32_w]
                           rfl
                         refine pure_ (i := 38) (N := some 137) (v := undef) (a' := ?_) (bitsJ 50 549755813887) rfl rfl (any_of HT_.out (by kernel_rfl)) (fun _ _ _ h => h) (Or.inr ⟨by rfl, rfl⟩) ?_ ?_
                         rotate_left
                         · simp only [Act.put, List.setIfInBounds_toArray, List.set_cons_zero, List.set_cons_succ, i64_w, i32_w]
                           rfl
                         refine pure_ (i := 39) (N := some 138) (v := undef) (a' := ?_) (bitsJ 50 1099511627775) rfl rfl (any_of HT_.out (by kernel_rfl)) (fun _ _ _ h => h) (Or.inr ⟨by rfl, rfl⟩) ?_ ?_
                         rotate_left
                         · simp only [Act.put, List.setIfInBounds_toArray, List.set_cons_zero, List.set_cons_succ, i64_w, i32_w]
                           rfl
                         refine pure_ (i := 40) (N := some 139) (v := undef) (a' := ?_) (bitsJ 50 2199023255551) rfl rfl (any_of HT_.out (by kernel_rfl)) (fun _ _ _ h => h) (Or.inr ⟨by rfl, rfl⟩) ?_ ?_
                         rotate_left
                         · simp only [Act.put, List.setIfInBounds_toArray, List.set_cons_zero, List.set_cons_succ, i64_w, i32_w]
                           rfl
                         refine pure_ (i := 41) (N := some 140) (v := undef) (a' := ?_) (bitsJ 50 4398046511103) rfl rfl (any_of HT_.out (by kernel_rfl)) (fun _ _ _ h => h) (Or.inr ⟨by rfl, rfl⟩) ?_ ?_
                         rotate_left
                         · simp only [Act.put, List.setIfInBounds_toArray, List.set_cons_zero, List.set_cons_succ, i64_w, i32_w]
                           rfl
                         refine pure_ (i := 42) (N := some 141) (v := undef) (a' := ?_) (bitsJ 50 8796093022207) rfl rfl (any_of HT_.out (by kernel_rfl)) (fun _ _ _ h => h) (Or.inr ⟨by rfl, rfl⟩) ?_ ?_
                         rotate_left
                         · simp only [Act.put, List.setIfInBounds_toArray, List.set_cons_zero, List.set_cons_succ, i64_w, i32_w]
                           rfl
                         refine pure_ (i := 43) (N := some 142) (v := undef) (a' := ?_) (bitsJ 50 17592186044415) rfl rfl (any_of HT_.out (by kernel_rfl)) (fun _ _ _ h => h) (Or.inr ⟨by rfl, rfl⟩) ?_ ?_
                         rotate_left
                         · simp only [Act.put, List.setIfInBounds_toArray, List.set_cons_zero, List.set_cons_succ, i64_w, i32_w]
                           rfl
                         refine pure_ (i := 44) (N := some 143) (v := undef) (a' := ?_) (bitsJ 50 35184372088831) rfl rfl (any_of HT_.out (by kernel_rfl)) (fun _ _ _ h => h) (Or.inr ⟨by rfl, rfl⟩) ?_ ?_
                         rotate_left
                         · simp only [Act.put, List.setIfInBounds_toArray, List.set_cons_zero, List.set_cons_succ, i64_w, i32_w]
                           rfl
                         refine pure_ (i := 45) (N := some 144) (v := undef) (a' := ?_) (bitsJ 50 70368744177663) rfl rfl (any_of HT_.out (by kernel_rfl)) (fun _ _ _ h => h) (Or.inr ⟨by rfl, rfl⟩) ?_ ?_
                         rotate_left
                         · simp only [Act.put, List.setIfInBounds_toArray, List.set_cons_zero, List.set_cons_succ, i64_w, i32_w]
                           rfl
                         refine pure_ (i := 46) (N := some 145) (v := undef) (a' := ?_) (bitsJ 50 140737488355327) rfl rfl (any_of HT_.out (by kernel_rfl)) (fun _ _ _ h => h) (Or.inr ⟨by rfl, rfl⟩) ?_ ?_
                         rotate_left
                         · simp only [Act.put, List.setIfInBounds_toArray, List.set_cons_zero, List.set_cons_succ, i64_w, i32_w]
                           rfl
                         refine pure_ (i := 47) (N := some 146) (v := undef) (a' := ?_) (bitsJ 50 281474976710655) rfl rfl (any_of HT_.out (by kernel_rfl)) (fun _ _ _ h => h) (Or.inr ⟨by rfl, rfl⟩) ?_ ?_
                         rotate_left
                         · simp only [Act.put, List.setIfInBounds_toArray, List.set_cons_zero, List.set_cons_succ, i64_w, i32_w]
                           rfl
                         refine pure_ (i := 48) (N := some 147) (v := undef) (a' := ?_) (bitsJ 50 562949953421311) rfl rfl (any_of HT_.out (by kernel_rfl)) (fun _ _ _ h => h) (Or.inr ⟨by rfl, rfl⟩) ?_ ?_
                         rotate_left
                         · simp only [Act.put, List.setIfInBounds_toArray, List.set_cons_zero, List.set_cons_succ, i64_w, i32_w]
                           rfl
                         refine pure_ (i := 49) (N := some 148) (v := ?_) (a' := ?_) #[true, true, true, true, true, true, true, true, true, true, true, true, true, true, true, true, true, true, true, true, true, true, true, true, true, true, true, true, true, true, true, true, true, true, true, true, true, true, true, true, true, true, true, true, true, true, true, true, true, true] rfl rfl (any_of HT_.out (by kernel_rfl)) (fun _ _ _ h => h) (Or.inl ⟨by rfl, ?_⟩) ?_ ?_
                         rotate_left
                         · intro w'
                           go_simp
                           with_reducible rfl
                         rotate_left
                         · simp only [Act.put, List.setIfInBounds_toArray, List.set_cons_zero, List.set_cons_succ, i64_w, i32_w]
                           rfl
                         refine done_ (done_of HT_.out (by kernel_rfl)) ?_
                         try go_wp2
                         go_ret
                         exact ⟨by first | rfl | (simp [errW_none, errW_some] <;> rfl) | (simp [*, errW_none, errW_some] <;> rfl), by repeat (first | (with_reducible first | exact HB.out | apply below_alloc | apply pw_below_drewN | apply below_drew1) | exact HB.out)⟩
                     · rw [if_neg c49] at H
                       have c49b0 : (((rd_T67 t188 x14_4).f1).toList == ((rd_T68 x6_1 x14_4).f1).toList) = false := beq_eq_false_iff_ne.mpr c49
                       have c49b1 : (((rd_T67 t188 x14_4).f1).toList != ((rd_T68 x6_1 x14_4).f1).toList) = true := bne_iff_ne.mpr c49
                       obtain rfl := Option.some.inj H
                       obtain ⟨Ao61, co61, eo61⟩ := Kd.R_slice HO_11.out
                       subst eo61
                       try go_wp2
                       have n0_ := Aside0.mk (Kd.R_drew HO_6.out)
                       have n1_ := Aside0.mk (Kd.R_drew HO_11.out)
                       have n2_ := Aside0.mk (below_drew1 HB.out)
                       clear HO_6
                       clear HO_11
                       clear HB
                       have HO_6 := n0_
                       have HO_11 := n1_
                       have HB := n2_
                       clear n0_ n1_ n2_
                       have p194 : 0 ≤ (x14_4 : Int) := of_decide_eq_true (by first | (with_reducible assumption) | assumption)
                       have q194 : x14_4 < (t188.length : Int) := of_decide_eq_true (by first | (with_reducible assumption) | assumption)
                       obtain ⟨ad194, e194, hx194_0, hx194_1, hx194_2, hx194_3⟩ := at_T67 (Kd.R_reads' HO_11.out).2.2 x14_4 p194 q194
                       cases e194
                       replace p194 := eq_true p194
                       replace q194 := eq_true q194
                       obtain ⟨Ao63, co63, eo63⟩ := Kd.R_slice HO_6.out
                       (first | subst eo63 | (injection eo63 with f1_ f2_ f3_; have f4_ := f1_.symm; have f5_ := f3_.symm; clear f1_ f2_ f3_; subst f4_; subst f5_))
                       have p195 : 0 ≤ (x14_4 : Int) := of_decide_eq_true (by first | (with_reducible assumption) | assumption)
                       have q195 : x14_4 < (x6_1.length : Int) := of_decide_eq_true (by first | (with_reducible assumption) | assumption)
                       obtain ⟨ad195, e195, hx195_0, hx195_1, hx195_2, hx195_3⟩ := at_T68 (Kd.R_reads' HO_6.out).2.2 x14_4 p195 q195
                       cases e195
                       replace p195 := eq_true p195
                       replace q195 := eq_true q195
                       have p196 : 0 ≤ (x14_4 : Int) := of_decide_eq_true (by first | (with_reducible assumption) | assumption)
                       have q196 : x14_4 < (t188.length : Int) := of_decide_eq_true (by first | (with_reducible assumption) | assumption)
                       obtain ⟨ad196, e196, hx196_0, hx196_1, hx196_2, hx196_3⟩ := at_T67 (Kd.R_reads' HO_11.out).2.2 x14_4 p196 q196
                       obtain rfl : ad194 = ad196 := (by injection e196)
                       replace p196 := eq_true p196
                       replace q196 := eq_true q196
                       have p197 : 0 ≤ (x14_4 : Int) := of_decide_eq_true (by first | (with_reducible assumption) | assumption)
                       have q197 : x14_4 < (x6_1.length : Int) := of_decide_eq_true (by first | (with_reducible assumption) | assumption)
                       obtain ⟨ad197, e197, hx197_0, hx197_1, hx197_2, hx197_3⟩ := at_T68 (Kd.R_reads' HO_6.out).2.2 x14_4 p197 q197
                       obtain rfl : ad195 = ad197 := (by injection e197)
                       replace p197 := eq_true p197
                       replace q197 := eq_true q197
                       refine start_ (n := 50) (S := fun w' => w'.cell? (ad194.add ((x14_4).toNat * 4)) = some (.int .i64 ((rd_T67 t188 x14_4).f0)) ∧ w'.cell? ⟨(ad194.add ((x14_4).toNat * 4)).block, (ad194.add ((x14_4).toNat * 4)).off + 1, none⟩ = some (.string ((rd_T67 t188 x14_4).f1)) ∧ w'.cell? ⟨(ad194.add ((x14_4).toNat * 4)).block, (ad194.add ((x14_4).toNat * 4)).off + 2, none⟩ = some (.int .i64 ((rd_T67 t188 x14_4).f2)) ∧ w'.cell? ⟨(ad194.add ((x14_4).toNat * 4)).block, (ad194.add ((x14_4).toNat * 4)).off + 3, none⟩ = some (.int .i64 ((rd_T67 t188 x14_4).f3)) ∧ w'.cell? (ad195.add ((x14_4).toNat * 4)) = some (.int .i64 ((rd_T68 x6_1 x14_4).f0)) ∧ w'.cell? ⟨(ad195.add ((x14_4).toNat * 4)).block, (ad195.add ((x14_4).toNat * 4)).off + 1, none⟩ = some (.string ((rd_T68 x6_1 x14_4).f1)) ∧ w'.cell? ⟨(ad195.add ((x14_4).toNat * 4)).block, (ad195.add ((x14_4).toNat * 4)).off + 2, none⟩ = some (.int .i64 ((rd_T68 x6_1 x14_4).f2)) ∧ w'.cell? ⟨(ad195.add ((x14_4).toNat * 4)).block, (ad195.add ((x14_4).toNat * 4)).off + 3, none⟩ = some (.int .i64 ((rd_T68 x6_1 x14_4).f3)) ∧ w'.cell? (ad194.add ((x14_4).toNat * 4)) = some (.int .i64 ((rd_T67 t188 x14_4).f0)) ∧ w'.cell? ⟨(ad194.add ((x14_4).toNat * 4)).block, (ad194.add ((x14_4).toNat * 4)).off + 1, none⟩ = some (.string ((rd_T67 t188 x14_4).f1)) ∧ w'.cell? ⟨(ad194.add ((x14_4).toNat * 4)).block, (ad194.add ((x14_4).toNat * 4)).off + 2, none⟩ = some (.int .i64 ((rd_T67 t188 x14_4).f2)) ∧ w'.cell? ⟨(ad194.add ((x14_4).toNat * 4)).block, (ad194.add ((x14_4).toNat * 4)).off + 3, none⟩ = some (.int .i64 ((rd_T67 t188 x14_4).f3)) ∧ w'.cell? (ad195.add ((x14_4).toNat * 4)) = some (.int .i64 ((rd_T68 x6_1 x14_4).f0)) ∧ w'.cell? ⟨(ad195.add ((x14_4).toNat * 4)).block, (ad195.add ((x14_4).toNat * 4)).off + 1, none⟩ = some (.string ((rd_T68 x6_1 x14_4).f1)) ∧ w'.cell? ⟨(ad195.add ((x14_4).toNat * 4)).block, (ad195.add ((x14_4).toNat * 4)).off + 2, none⟩ = some (.int .i64 ((rd_T68 x6_1 x14_4).f2)) ∧ w'.cell? ⟨(ad195.add ((x14_4).toNat * 4)).block, (ad195.add ((x14_4).toNat * 4)).off + 3, none⟩ = some (.int .i64 ((rd_T68 x6_1 x14_4).f3))) (ds := []) (bitsJ 50 0) (by kernel_rfl) rfl rfl ⟨hx194_0, hx194_1, hx194_2, hx194_3, hx195_0, hx195_1, hx195_2, hx195_3, hx196_0, hx196_1, hx196_2, hx196_3, hx197_0, hx197_1, hx197_2, hx197_3⟩ (fun hHeld => ?_); refine with_tabW jetsamlaw01_LexJoins.tab20 jetsamlaw01_LexJoins.bits20 (fun HT_ HW_ => ?_)
                       generalize wr.drew = w62 at HO_6 HO_11 HB hx194_0 hx194_1 hx194_2 hx194_3 hx195_0 hx195_1 hx195_2 hx195_3 hx196_0 hx196_1 hx196_2 hx196_3 hx197_0 hx197_1 hx197_2 hx197_3 hHeld ⊢
                       refine pure_ (i := 0) (N := some 99) (v := ?_) (a' := ?_) (bitsJ 50 1) rfl rfl (any_of HT_.out (by kernel_rfl)) (fun _ _ _ h => h) (Or.inl ⟨by rfl, ?_⟩) ?_ ?_
                       rotate_left
                       · intro w'
                         go_simp
                         with_reducible rfl
                       rotate_left
                       · simp only [Act.put, List.setIfInBounds_toArray, List.set_cons_zero, List.set_cons_succ, i64_w, i32_w]
                         rfl
                       refine pure_ (i := 1) (N := some 100) (v := ?_) (a' := ?_) (bitsJ 50 3) rfl rfl (any_of HT_.out (by kernel_rfl)) (fun _ _ _ h => h) (Or.inl ⟨by rfl, ?_⟩) ?_ ?_
                       rotate_left
                       · intro w'
                         go_simp
                         with_reducible rfl
                       rotate_left
                       · simp only [Act.put, List.setIfInBounds_toArray, List.set_cons_zero, List.set_cons_succ, i64_w, i32_w]
                         rfl
                       refine pure_ (i := 2) (N := some 101) (v := ?_) (a' := ?_) (bitsJ 50 7) rfl rfl (any_of HT_.out (by kernel_rfl)) (fun _ _ _ h => h) (Or.inl ⟨by rfl, ?_⟩) ?_ ?_
                       rotate_left
                       · intro w'
                         go_simp
                         with_reducible rfl
                       rotate_left
                       · simp only [Act.put, List.setIfInBounds_toArray, List.set_cons_zero, List.set_cons_succ, i64_w, i32_w]
                         rfl
                       refine pure_ (i := 3) (N := some 102) (v := ?_) (a' := ?_) (bitsJ 50 15) rfl rfl (any_of HT_.out (by kernel_rfl)) (fun _ _ _ h => h) (Or.inl ⟨by rfl, ?_⟩) ?_ ?_
                       rotate_left
                       · intro w'
                         go_simp
                         with_reducible rfl
                       rotate_left
                       · simp only [Act.put, List.setIfInBounds_toArray, List.set_cons_zero, List.set_cons_succ, i64_w, i32_w]
                         rfl
                       refine pure_ (i := 5) (N := some 104) (v := ?_) (a' := ?_) (bitsJ 50 47) rfl rfl (any_of HT_.out (by kernel_rfl)) (fun _ _ _ h => h) (Or.inl ⟨by rfl, ?_⟩) ?_ ?_
                       rotate_left
                       · intro w'
                         go_simp
                         with_reducible rfl
                       rotate_left
                       · simp only [Act.put, List.setIfInBounds_toArray, List.set_cons_zero, List.set_cons_succ, i64_w, i32_w]
                         rfl
                       refine pure_ (i := 6) (N := some 105) (v := ?_) (a' := ?_) (bitsJ 50 111) rfl rfl (any_of HT_.out (by kernel_rfl)) (fun _ _ _ h => h) (Or.inl ⟨by rfl, ?_⟩) ?_ ?_
                       rotate_left
                       · intro w'
                         go_simp
                         with_reducible rfl
                       rotate_left
                       · simp only [Act.put, List.setIfInBounds_toArray, List.set_cons_zero, List.set_cons_succ, i64_w, i32_w]
                         rfl
                       refine pure_ (i := 7) (N := some 106) (v := ?_) (a' := ?_) (bitsJ 50 239) rfl rfl (any_of HT_.out (by kernel_rfl)) (fun _ _ _ h => h) (Or.inl ⟨by rfl, ?_⟩) ?_ ?_
                       rotate_left
                       · intro w'
                         go_simp
                         with_reducible rfl
                       rotate_left
                       · simp only [Act.put, List.setIfInBounds_toArray, List.set_cons_zero, List.set_cons_succ, i64_w, i32_w]
                         rfl
                       refine pure_ (i := 8) (N := some 107) (v := ?_) (a' := ?_) (bitsJ 50 495) rfl rfl (any_of HT_.out (by kernel_rfl)) (fun _ _ _ h => h) (Or.inl ⟨by rfl, ?_⟩) ?_ ?_
                       rotate_left
                       · intro w'
                         go_simp
                         with_reducible rfl
                       rotate_left
                       · simp only [Act.put, List.setIfInBounds_toArray, List.set_cons_zero, List.set_cons_succ, i64_w, i32_w]
                         rfl
                       refine take_ (i := 4) (N := some 103) (v := ?_) (a' := ?_) (bitsJ 50 511) rfl rfl (take_ofW HT_.out HW_.out (by kernel_rfl)) (fun _ _ _ h => h) (Or.inl ⟨by rfl, ?_⟩) hHeld ?_ ?_
                       rotate_left
                       · rintro w' ⟨s0, s1, s2, s3, s4, s5, s6, s7, s8, s9, s10, s11, s12, s13, s14, s15⟩
                         go_simp
                         with_reducible rfl
                       rotate_left
                       · simp only [Act.put, List.setIfInBounds_toArray, List.set_cons_zero, List.set_cons_succ, i64_w, i32_w]
                         rfl
                       refine take_ (i := 9) (N := some 108) (v := ?_) (a' := ?_) (bitsJ 50 1023) rfl rfl (take_ofW HT_.out HW_.out (by kernel_rfl)) (fun _ _ _ h => h) (Or.inl ⟨by rfl, ?_⟩) hHeld ?_ ?_
                       rotate_left
                       · rintro w' ⟨s0, s1, s2, s3, s4, s5, s6, s7, s8, s9, s10, s11, s12, s13, s14, s15⟩
                         go_simp
                         with_reducible rfl
                       rotate_left
                       · simp only [Act.put, List.setIfInBounds_toArray, List.set_cons_zero, List.set_cons_succ, i64_w, i32_w]
                         rfl
                       refine pure_ (i := 10) (N := some 109) (v := ?_) (a' := ?_) (bitsJ 50 2047) rfl rfl (any_of HT_.out (by kernel_rfl)) (fun _ _ _ h => h) (Or.inl ⟨by rfl, ?_⟩) ?_ ?_
                       rotate_left
                       · intro w'
                         go_simp
                         with_reducible rfl
                       rotate_left
                       · simp only [Act.put, List.setIfInBounds_toArray, List.set_cons_zero, List.set_cons_succ, i64_w, i32_w]
                         rfl
                       refine pure_ (i := 11) (N := some 110) (v := ?_) (a' := ?_) (bitsJ 50 4095) rfl rfl (any_of HT_.out (by kernel_rfl)) (fun _ _ _ h => h) (Or.inl ⟨by rfl, ?_⟩) ?_ ?_
                       rotate_left
                       · intro w'
                         go_simp
                         with_reducible rfl
                       rotate_left
                       · simp only [Act.put, List.setIfInBounds_toArray, List.set_cons_zero, List.set_cons_succ, i64_w, i32_w]
                         rfl
                       refine pure_ (i := 12) (N := some 111) (v := ?_) (a' := ?_) (bitsJ 50 8191) rfl rfl (any_of HT_.out (by kernel_rfl)) (fun _ _ _ h => h) (Or.inl ⟨by rfl, ?_⟩) ?_ ?_
                       rotate_left
                       · intro w'
                         go_simp
                         with_reducible rfl
                       rotate_left
                       · simp only [Act.put, List.setIfInBounds_toArray, List.set_cons_zero, List.set_cons_succ, i64_w, i32_w]
                         rfl
                       refine pure_ (i := 13) (N := some 112) (v := ?_) (a' := ?_) (bitsJ 50 16383) rfl rfl (any_of HT_.out (by kernel_rfl)) (fun _ _ _ h => h) (Or.inl ⟨by rfl, ?_⟩) ?_ ?_
                       rotate_left
                       · intro w'
                         go_simp
                         with_reducible rfl
                       rotate_left
                       · simp only [Act.put, List.setIfInBounds_toArray, List.set_cons_zero, List.set_cons_succ, i64_w, i32_w]
                         rfl
                       refine pure_ (i := 14) (N := some 113) (v := ?_) (a' := ?_) (bitsJ 50 32767) rfl rfl (any_of HT_.out (by kernel_rfl)) (fun _ _ _ h => h) (Or.inl ⟨by rfl, ?_⟩) ?_ ?_
                       rotate_left
                       · intro w'
                         go_simp
                         with_reducible rfl
                       rotate_left
                       · simp only [Act.put, List.setIfInBounds_toArray, List.set_cons_zero, List.set_cons_succ, i64_w, i32_w]
                         rfl
                       refine pure_ (i := 15) (N := some 114) (v := ?_) (a' := ?_) (bitsJ 50 65535) rfl rfl (any_of HT_.out (by kernel_rfl)) (fun _ _ _ h => h) (Or.inl ⟨by rfl, ?_⟩) ?_ ?_
                       rotate_left
                       · intro w'
                         go_simp
                         with_reducible rfl
                       rotate_left
                       · simp only [Act.put, List.setIfInBounds_toArray, List.set_cons_zero, List.set_cons_succ, i64_w, i32_w]
                         rfl
                       refine pure_ (i := 17) (N := some 116) (v := ?_) (a' := ?_) (bitsJ 50 196607) rfl rfl (any_of HT_.out (by kernel_rfl)) (fun _ _ _ h => h) (Or.inl ⟨by rfl, ?_⟩) ?_ ?_
                       rotate_left
                       · intro w'
                         go_simp
                         with_reducible rfl
                       rotate_left
                       · simp only [Act.put, List.setIfInBounds_toArray, List.set_cons_zero, List.set_cons_succ, i64_w, i32_w]
                         rfl
                       refine pure_ (i := 18) (N := some 117) (v := ?_) (a' := ?_) (bitsJ 50 458751) rfl rfl (any_of HT_.out (by kernel_rfl)) (fun _ _ _ h => h) (Or.inl ⟨by rfl, ?_⟩) ?_ ?_
                       rotate_left
                       · intro w'
                         go_simp
                         with_reducible rfl
                       rotate_left
                       · simp only [Act.put, List.setIfInBounds_toArray, List.set_cons_zero, List.set_cons_succ, i64_w, i32_w]
                         rfl
                       refine pure_ (i := 19) (N := some 118) (v := ?_) (a' := ?_) (bitsJ 50 983039) rfl rfl (any_of HT_.out (by kernel_rfl)) (fun _ _ _ h => h) (Or.inl ⟨by rfl, ?_⟩) ?_ ?_
                       rotate_left
                       · intro w'
                         go_simp
                         with_reducible rfl
                       rotate_left
                       · simp only [Act.put, List.setIfInBounds_toArray, List.set_cons_zero, List.set_cons_succ, i64_w, i32_w]
                         rfl
                       refine pure_ (i := 20) (N := some 119) (v := ?_) (a' := ?_) (bitsJ 50 2031615) rfl rfl (any_of HT_.out (by kernel_rfl)) (fun _ _ _ h => h) (Or.inl ⟨by rfl, ?_⟩) ?_ ?_
                       rotate_left
                       · intro w'
                         go_simp
                         with_reducible rfl
                       rotate_left
                       · simp only [Act.put, List.setIfInBounds_toArray, List.set_cons_zero, List.set_cons_succ, i64_w, i32_w]
                         rfl
                       refine take_ (i := 16) (N := some 115) (v := ?_) (a' := ?_) (bitsJ 50 2097151) rfl rfl (take_ofW HT_.out HW_.out (by kernel_rfl)) (fun _ _ _ h => h) (Or.inl ⟨by rfl, ?_⟩) hHeld ?_ ?_
                       rotate_left
                       · rintro w' ⟨s0, s1, s2, s3, s4, s5, s6, s7, s8, s9, s10, s11, s12, s13, s14, s15⟩
                         go_simp
                         with_reducible rfl
                       rotate_left
                       · simp only [Act.put, List.setIfInBounds_toArray, List.set_cons_zero, List.set_cons_succ, i64_w, i32_w]
                         rfl
                       refine take_ (i := 21) (N := some 120) (v := ?_) (a' := ?_) (bitsJ 50 4194303) rfl rfl (take_ofW HT_.out HW_.out (by kernel_rfl)) (fun _ _ _ h => h) (Or.inl ⟨by rfl, ?_⟩) hHeld ?_ ?_
                       rotate_left
                       · rintro w' ⟨s0, s1, s2, s3, s4, s5, s6, s7, s8, s9, s10, s11, s12, s13, s14, s15⟩
                         go_simp
                         with_reducible rfl
                       rotate_left
                       · simp only [Act.put, List.setIfInBounds_toArray, List.set_cons_zero, List.set_cons_succ, i64_w, i32_w]
                         rfl
                       refine pure_ (i := 22) (N := some 121) (v := ?_) (a' := ?_) (bitsJ 50 8388607) rfl rfl (any_of HT_.out (by kernel_rfl)) (fun _ _ _ h => h) (Or.inl ⟨by rfl, ?_⟩) ?_ ?_
                       rotate_left
                       · intro w'
                         go_simp
                         with_reducible rfl
                       rotate_left
                       · simp only [Act.put, List.setIfInBounds_toArray, List.set_cons_zero, List.set_cons_succ, i64_w, i32_w]
                         rfl
                       refine pure_ (i := 23) (N := some 122) (v := ?_) (a' := ?_) (bitsJ 50 16777215) rfl rfl (any_of HT_.out (by kernel_rfl)) (fun _ _ _ h => h) (Or.inl ⟨by rfl, ?_⟩) ?_ ?_
                       rotate_left
                       · intro w'
                         go_simp
                         with_reducible rfl
                       rotate_left
                       · simp only [Act.put, List.setIfInBounds_toArray, List.set_cons_zero, List.set_cons_succ, i64_w, i32_w]
                         rfl
                       refine pure_ (i := 24) (N := some 123) (v := ?_) (a' := ?_) (bitsJ 50 33554431) rfl rfl (any_of HT_.out (by kernel_rfl)) (fun _ _ _ h => h) (Or.inl ⟨by rfl, ?_⟩) ?_ ?_
                       rotate_left
                       · intro w'
                         go_simp
                         with_reducible rfl
                       rotate_left
                       · simp only [Act.put, List.setIfInBounds_toArray, List.set_cons_zero, List.set_cons_succ, i64_w, i32_w]
                         rfl
                       refine pure_ (i := 25) (N := some 124) (v := undef) (a' := ?_) (bitsJ 50 67108863) rfl rfl (any_of HT_.out (by kernel_rfl)) (fun _ _ _ h => h) (Or.inr ⟨by rfl, rfl⟩) ?_ ?_
                       rotate_left
                       · simp only [Act.put, List.setIfInBounds_toArray, List.set_cons_zero, List.set_cons_succ, i64_w, i32_w]
                         rfl
                       refine pure_ (i := 26) (N := some 125) (v := undef) (a' := ?_) (bitsJ 50 134217727) rfl rfl (any_of HT_.out (by kernel_rfl)) (fun _ _ _ h => h) (Or.inr ⟨by rfl, rfl⟩) ?_ ?_
                       rotate_left
                       · simp only [Act.put, List.setIfInBounds_toArray, List.set_cons_zero, List.set_cons_succ, i64_w, i32_w]
                         rfl
                       refine pure_ (i := 27) (N := some 126) (v := undef) (a' := ?_) (bitsJ 50 268435455) rfl rfl (any_of HT_.out (by kernel_rfl)) (fun _ _ _ h => h) (Or.inr ⟨by rfl, rfl⟩) ?_ ?_
                       rotate_left
                       · simp only [Act.put, List.setIfInBounds_toArray, List.set_cons_zero, List.set_cons_succ, i64_w, i32_w]
                         rfl
                       refine pure_ (i := 28) (N := some 127) (v := undef) (a' := ?_) (bitsJ 50 536870911) rfl rfl (any_of HT_.out (by kernel_rfl)) (fun _ _ _ h => h) (Or.inr ⟨by rfl, rfl⟩) ?_ ?_
                       rotate_left
                       · simp only [Act.put, List.setIfInBounds_toArray, List.set_cons_zero, List.set_cons_succ, i64_w, i32_w]
                         rfl
                       refine pure_ (i := 29) (N := some 128) (v := undef) (a' := ?_) (bitsJ 50 1073741823) rfl rfl (any_of HT_.out (by kernel_rfl)) (fun _ _ _ h => h) (Or.inr ⟨by rfl, rfl⟩) ?_ ?_
                       rotate_left
                       · simp only [Act.put, List.setIfInBounds_toArray, List.set_cons_zero, List.set_cons_succ, i64_w, i32_w]
                         rfl
                       refine pure_ (i := 30) (N := some 129) (v := undef) (a' := ?_) (bitsJ 50 2147483647) rfl rfl (any_of HT_.out (by kernel_rfl)) (fun _ _ _ h => h) (Or.inr ⟨by rfl, rfl⟩) ?_ ?_
                       rotate_left
                       · simp only [Act.put, List.setIfInBounds_toArray, List.set_cons_zero, List.set_cons_succ, i64_w, i32_w]
                         rfl
                       refine pure_ (i := 31) (N := some 130) (v := undef) (a' := ?_) (bitsJ 50 4294967295) rfl rfl (any_of HT_.out (by kernel_rfl)) (fun _ _ _ h => h) (Or.inr ⟨by rfl, rfl⟩) ?_ ?_
                       rotate_left
                       · simp only [Act.put, List.setIfInBounds_toArray, List.set_cons_zero, List.set_cons_succ, i64_w, i32_w]
                         rfl
                       refine pure_ (i := 32) (N := some 131) (v := undef) (a' := ?_) (bitsJ 50 8589934591) rfl rfl (any_of HT_.out (by kernel_rfl)) (fun _ _ _ h => h) (Or.inr ⟨by rfl, rfl⟩) ?_ ?_
                       rotate_left
                       · simp only [Act.put, List.setIfInBounds_toArray, List.set_cons_zero, List.set_cons_succ, i64_w, i32_w]
                         rfl
                       refine pure_ (i := 33) (N := some 132) (v := undef) (a' := ?_) (bitsJ 50 17179869183) rfl rfl (any_of HT_.out (by kernel_rfl)) (fun _ _ _ h => h) (Or.inr ⟨by rfl, rfl⟩) ?_ ?_
                       rotate_left
                       · simp only [Act.put, List.setIfInBounds_toArray, List.set_cons_zero, List.set_cons_succ, i64_w, i32_w]
                         rfl
                       refine pure_ (i := 34) (N := some 133) (v := undef) (a' := ?_) (bitsJ 50 34359738367) rfl rfl (any_of HT_.out (by kernel_rfl)) (fun _ _ _ h => h) (Or.inr ⟨by rfl, rfl⟩) ?_ ?_
                       rotate_left
                       · simp only [Act.put, List.setIfInBounds_toArray, List.set_cons_zero, List.set_cons_succ, i64_w, i32_w]
                         rfl
                       refine pure_ (i := 35) (N := some 134) (v := undef) (a' := ?_) (bitsJ 50 68719476735) rfl rfl (any_of HT_.out (by kernel_rfl)) (fun _ _ _ h => h) (Or.inr ⟨by rfl, rfl⟩) ?_ ?_
                       rotate_left
                       · simp only [Act.put, List.setIfInBounds_toArray, List.set_cons_zero, List.set_cons_succ, i64_w, i32_w]
                         rfl
                       refine pure_ (i := 36) (N := some 135) (v := ?_) (a' := ?_) (bitsJ 50 137438953471) rfl rfl (any_of HT_.out (by kernel_rfl)) (fun _ _ _ h => h) (Or.inl ⟨by rfl, ?_⟩) ?_ ?_
                       rotate_left
                       · intro w'
                         go_simp
                         with_reducible rfl
                       rotate_left
                       · simp only [Act.put, List.setIfInBounds_toArray, List.set_cons_zero, List.set_cons_succ, i64_w, i32_w]
                         rfl
                       refine pure_ (i := 37) (N := some 136) (v := ?_) (a' := ?_) (bitsJ 50 274877906943) rfl rfl (any_of HT_.out (by kernel_rfl)) (fun _ _ _ h => h) (Or.inl ⟨by rfl, ?_⟩) ?_ ?_
                       rotate_left
                       · intro w'
                         go_simp
                         with_reducible rfl
                       rotate_left
                       · simp only [Act.put, List.setIfInBounds_toArray, List.set_cons_zero, List.set_cons_succ, i64_w, i32_w]
                         rfl
                       refine pure_ (i := 38) (N := some 137) (v := undef) (a' := ?_) (bitsJ 50 549755813887) rfl rfl (any_of HT_.out (by kernel_rfl)) (fun _ _ _ h => h) (Or.inr ⟨by rfl, rfl⟩) ?_ ?_
                       rotate_left
                       · simp only [Act.put, List.setIfInBounds_toArray, List.set_cons_zero, List.set_cons_succ, i64_w, i32_w]
                         rfl
                       refine pure_ (i := 39) (N := some 138) (v := undef) (a' := ?_) (bitsJ 50 1099511627775) rfl rfl (any_of HT_.out (by kernel_rfl)) (fun _ _ _ h => h) (Or.inr ⟨by rfl, rfl⟩) ?_ ?_
                       rotate_left
                       · simp only [Act.put, List.setIfInBounds_toArray, List.set_cons_zero, List.set_cons_succ, i64_w, i32_w]
                         rfl
                       refine pure_ (i := 40) (N := some 139) (v := undef) (a' := ?_) (bitsJ 50 2199023255551) rfl rfl (any_of HT_.out (by kernel_rfl)) (fun _ _ _ h => h) (Or.inr ⟨by rfl, rfl⟩) ?_ ?_
                       rotate_left
                       · simp only [Act.put, List.setIfInBounds_toArray, List.set_cons_zero, List.set_cons_succ, i64_w, i32_w]
                         rfl
                       refine pure_ (i := 41) (N := some 140) (v := undef) (a' := ?_) (bitsJ 50 4398046511103) rfl rfl (any_of HT_.out (by kernel_rfl)) (fun _ _ _ h => h) (Or.inr ⟨by rfl, rfl⟩) ?_ ?_
                       rotate_left
                       · simp only [Act.put, List.setIfInBounds_toArray, List.set_cons_zero, List.set_cons_succ, i64_w, i32_w]
                         rfl
                       refine pure_ (i := 42) (N := some 141) (v := undef) (a' := ?_) (bitsJ 50 8796093022207) rfl rfl (any_of HT_.out (by kernel_rfl)) (fun _ _ _ h => h) (Or.inr ⟨by rfl, rfl⟩) ?_ ?_
                       rotate_left
                       · simp only [Act.put, List.setIfInBounds_toArray, List.set_cons_zero, List.set_cons_succ, i64_w, i32_w]
                         rfl
                       refine pure_ (i := 43) (N := some 142) (v := undef) (a' := ?_) (bitsJ 50 17592186044415) rfl rfl (any_of HT_.out (by kernel_rfl)) (fun _ _ _ h => h) (Or.inr ⟨by rfl, rfl⟩) ?_ ?_
                       rotate_left
                       · simp only [Act.put, List.setIfInBounds_toArray, List.set_cons_zero, List.set_cons_succ, i64_w, i32_w]
                         rfl
                       refine pure_ (i := 44) (N := some 143) (v := undef) (a' := ?_) (bitsJ 50 35184372088831) rfl rfl (any_of HT_.out (by kernel_rfl)) (fun _ _ _ h => h) (Or.inr ⟨by rfl, rfl⟩) ?_ ?_
                       rotate_left
                       · simp only [Act.put, List.setIfInBounds_toArray, List.set_cons_zero, List.set_cons_succ, i64_w, i32_w]
                         rfl
                       refine pure_ (i := 45) (N := some 144) (v := undef) (a' := ?_) (bitsJ 50 70368744177663) rfl rfl (any_of HT_.out (by kernel_rfl)) (fun _ _ _ h => h) (Or.inr ⟨by rfl, rfl⟩) ?_ ?_
                       rotate_left
                       · simp only [Act.put, List.setIfInBounds_toArray, List.set_cons_zero, List.set_cons_succ, i64_w, i32_w]
                         rfl
                       refine pure_ (i := 46) (N := some 145) (v := undef) (a' := ?_) (bitsJ 50 140737488355327) rfl rfl (any_of HT_.out (by kernel_rfl)) (fun _ _ _ h => h) (Or.inr ⟨by rfl, rfl⟩) ?_ ?_
                       rotate_left
                       · simp only [Act.put, List.setIfInBounds_toArray, List.set_cons_zero, List.set_cons_succ, i64_w, i32_w]
                         rfl
                       refine pure_ (i := 47) (N := some 146) (v := undef) (a' := ?_) (bitsJ 50 281474976710655) rfl rfl (any_of HT_.out (by kernel_rfl)) (fun _ _ _ h => h) (Or.inr ⟨by rfl, rfl⟩) ?_ ?_
                       rotate_left
                       · simp only [Act.put, List.setIfInBounds_toArray, List.set_cons_zero, List.set_cons_succ, i64_w, i32_w]
                         rfl
                       refine pure_ (i := 48) (N := some 147) (v := undef) (a' := ?_) (bitsJ 50 562949953421311) rfl rfl (any_of HT_.out (by kernel_rfl)) (fun _ _ _ h => h) (Or.inr ⟨by rfl, rfl⟩) ?_ ?_
                       rotate_left
                       · simp only [Act.put, List.setIfInBounds_toArray, List.set_cons_zero, List.set_cons_succ, i64_w, i32_w]
                         rfl
                       refine pure_ (i := 49) (N := some 148) (v := ?_) (a' := ?_) #[true, true, true, true, true, true, true, true, true, true, true, true, true, true, true, true, true, true, true, true, true, true, true, true, true, true, true, true, true, true, true, true, true, true, true, true, true, true, true, true, true, true, true, true, true, true, true, true, true, true] rfl rfl (any_of HT_.out (by kernel_rfl)) (fun _ _ _ h => h) (Or.inl ⟨by rfl, ?_⟩) ?_ ?_
                       rotate_left
                       · intro w'
                         go_simp
                         with_reducible rfl
                       rotate_left
                       · simp only [Act.put, List.setIfInBounds_toArray, List.set_cons_zero, List.set_cons_succ, i64_w, i32_w]
                         rfl
                       refine done_ (done_of HT_.out (by kernel_rfl)) ?_
                       try go_wp2
                       go_ret
                       exact ⟨by first | rfl | (simp [errW_none, errW_some] <;> rfl) | (simp [*, errW_none, errW_some] <;> rfl), by repeat (first | (with_reducible first | exact HB.out | apply below_alloc | apply pw_below_drewN | apply below_drew1) | exact HB.out)⟩
                   · rw [if_neg c48] at H
                     have c48b0 : (((rd_T67 t188 x14_4).f0) == ((rd_T68 x6_1 x14_4).f0)) = false := beq_eq_false_iff_ne.mpr c48
                     have c48b1 : (((rd_T67 t188 x14_4).f0) != ((rd_T68 x6_1 x14_4).f0)) = true := bne_iff_ne.mpr c48
                     obtain rfl := Option.some.inj H
                     obtain ⟨Ao64, co64, eo64⟩ := Kd.R_slice HO_11.out
                     subst eo64
                     try go_wp2
                     have n0_ := Aside0.mk (Kd.R_drew HO_6.out)
                     have n1_ := Aside0.mk (Kd.R_drew HO_11.out)
                     have n2_ := Aside0.mk (below_drew1 HB.out)
                     clear HO_6
                     clear HO_11
                     clear HB
                     have HO_6 := n0_
                     have HO_11 := n1_
                     have HB := n2_
                     clear n0_ n1_ n2_
                     have p194 : 0 ≤ (x14_4 : Int) := of_decide_eq_true (by first | (with_reducible assumption) | assumption)
                     have q194 : x14_4 < (t188.length : Int) := of_decide_eq_true (by first | (with_reducible assumption) | assumption)
                     obtain ⟨ad194, e194, hx194_0, hx194_1, hx194_2, hx194_3⟩ := at_T67 (Kd.R_reads' HO_11.out).2.2 x14_4 p194 q194
                     cases e194
                     replace p194 := eq_true p194
                     replace q194 := eq_true q194
                     obtain ⟨Ao66, co66, eo66⟩ := Kd.R_slice HO_6.out
                     (first | subst eo66 | (injection eo66 with f1_ f2_ f3_; have f4_ := f1_.symm; have f5_ := f3_.symm; clear f1_ f2_ f3_; subst f4_; subst f5_))
                     have p195 : 0 ≤ (x14_4 : Int) := of_decide_eq_true (by first | (with_reducible assumption) | assumption)
                     have q195 : x14_4 < (x6_1.length : Int) := of_decide_eq_true (by first | (with_reducible assumption) | assumption)
                     obtain ⟨ad195, e195, hx195_0, hx195_1, hx195_2, hx195_3⟩ := at_T68 (Kd.R_reads' HO_6.out).2.2 x14_4 p195 q195
                     cases e195
                     replace p195 := eq_true p195
                     replace q195 := eq_true q195
                     refine start_ (n := 50) (S := fun w' => w'.cell? (ad194.add ((x14_4).toNat * 4)) = some (.int .i64 ((rd_T67 t188 x14_4).f0)) ∧ w'.cell? ⟨(ad194.add ((x14_4).toNat * 4)).block, (ad194.add ((x14_4).toNat * 4)).off + 1, none⟩ = some (.string ((rd_T67 t188 x14_4).f1)) ∧ w'.cell? ⟨(ad194.add ((x14_4).toNat * 4)).block, (ad194.add ((x14_4).toNat * 4)).off + 2, none⟩ = some (.int .i64 ((rd_T67 t188 x14_4).f2)) ∧ w'.cell? ⟨(ad194.add ((x14_4).toNat * 4)).block, (ad194.add ((x14_4).toNat * 4)).off + 3, none⟩ = some (.int .i64 ((rd_T67 t188 x14_4).f3)) ∧ w'.cell? (ad195.add ((x14_4).toNat * 4)) = some (.int .i64 ((rd_T68 x6_1 x14_4).f0)) ∧ w'.cell? ⟨(ad195.add ((x14_4).toNat * 4)).block, (ad195.add ((x14_4).toNat * 4)).off + 1, none⟩ = some (.string ((rd_T68 x6_1 x14_4).f1)) ∧ w'.cell? ⟨(ad195.add ((x14_4).toNat * 4)).block, (ad195.add ((x14_4).toNat * 4)).off + 2, none⟩ = some (.int .i64 ((rd_T68 x6_1 x14_4).f2)) ∧ w'.cell? ⟨(ad195.add ((x14_4).toNat * 4)).block, (ad195.add ((x14_4).toNat * 4)).off + 3, none⟩ = some (.int .i64 ((rd_T68 x6_1 x14_4).f3))) (ds := []) (bitsJ 50 0) (by kernel_rfl) rfl rfl ⟨hx194_0, hx194_1, hx194_2, hx194_3, hx195_0, hx195_1, hx195_2, hx195_3⟩ (fun hHeld => ?_); refine with_tabW jetsamlaw01_LexJoins.tab20 jetsamlaw01_LexJoins.bits20 (fun HT_ HW_ => ?_)
                     generalize wr.drew = w65 at HO_6 HO_11 HB hx194_0 hx194_1 hx194_2 hx194_3 hx195_0 hx195_1 hx195_2 hx195_3 hHeld ⊢
                     refine pure_ (i := 0) (N := some 99) (v := ?_) (a' := ?_) (bitsJ 50 1) rfl rfl (any_of HT_.out (by kernel_rfl)) (fun _ _ _ h => h) (Or.inl ⟨by rfl, ?_⟩) ?_ ?_
                     rotate_left
                     · intro w'
                       go_simp
                       with_reducible rfl
                     rotate_left
                     · simp only [Act.put, List.setIfInBounds_toArray, List.set_cons_zero, List.set_cons_succ, i64_w, i32_w]
                       rfl
                     refine pure_ (i := 1) (N := some 100) (v := ?_) (a' := ?_) (bitsJ 50 3) rfl rfl (any_of HT_.out (by kernel_rfl)) (fun _ _ _ h => h) (Or.inl ⟨by rfl, ?_⟩) ?_ ?_
                     rotate_left
                     · intro w'
                       go_simp
                       with_reducible rfl
                     rotate_left
                     · simp only [Act.put, List.setIfInBounds_toArray, List.set_cons_zero, List.set_cons_succ, i64_w, i32_w]
                       rfl
                     refine pure_ (i := 2) (N := some 101) (v := ?_) (a' := ?_) (bitsJ 50 7) rfl rfl (any_of HT_.out (by kernel_rfl)) (fun _ _ _ h => h) (Or.inl ⟨by rfl, ?_⟩) ?_ ?_
                     rotate_left
                     · intro w'
                       go_simp
                       with_reducible rfl
                     rotate_left
                     · simp only [Act.put, List.setIfInBounds_toArray, List.set_cons_zero, List.set_cons_succ, i64_w, i32_w]
                       rfl
                     refine pure_ (i := 3) (N := some 102) (v := ?_) (a' := ?_) (bitsJ 50 15) rfl rfl (any_of HT_.out (by kernel_rfl)) (fun _ _ _ h => h) (Or.inl ⟨by rfl, ?_⟩) ?_ ?_
                     rotate_left
                     · intro w'
                       go_simp
                       with_reducible rfl
                     rotate_left
                     · simp only [Act.put, List.setIfInBounds_toArray, List.set_cons_zero, List.set_cons_succ, i64_w, i32_w]
                       rfl
                     refine pure_ (i := 5) (N := some 104) (v := ?_) (a' := ?_) (bitsJ 50 47) rfl rfl (any_of HT_.out (by kernel_rfl)) (fun _ _ _ h => h) (Or.inl ⟨by rfl, ?_⟩) ?_ ?_
                     rotate_left
                     · intro w'
                       go_simp
                       with_reducible rfl
                     rotate_left
                     · simp only [Act.put, List.setIfInBounds_toArray, List.set_cons_zero, List.set_cons_succ, i64_w, i32_w]
                       rfl
                     refine pure_ (i := 6) (N := some 105) (v := ?_) (a' := ?_) (bitsJ 50 111) rfl rfl (any_of HT_.out (by kernel_rfl)) (fun _ _ _ h => h) (Or.inl ⟨by rfl, ?_⟩) ?_ ?_
                     rotate_left
                     · intro w'
                       go_simp
                       with_reducible rfl
                     rotate_left
                     · simp only [Act.put, List.setIfInBounds_toArray, List.set_cons_zero, List.set_cons_succ, i64_w, i32_w]
                       rfl
                     refine pure_ (i := 7) (N := some 106) (v := ?_) (a' := ?_) (bitsJ 50 239) rfl rfl (any_of HT_.out (by kernel_rfl)) (fun _ _ _ h => h) (Or.inl ⟨by rfl, ?_⟩) ?_ ?_
                     rotate_left
                     · intro w'
                       go_simp
                       with_reducible rfl
                     rotate_left
                     · simp only [Act.put, List.setIfInBounds_toArray, List.set_cons_zero, List.set_cons_succ, i64_w, i32_w]
                       rfl
                     refine pure_ (i := 8) (N := some 107) (v := ?_) (a' := ?_) (bitsJ 50 495) rfl rfl (any_of HT_.out (by kernel_rfl)) (fun _ _ _ h => h) (Or.inl ⟨by rfl, ?_⟩) ?_ ?_
                     rotate_left
                     · intro w'
                       go_simp
                       with_reducible rfl
                     rotate_left
                     · simp only [Act.put, List.setIfInBounds_toArray, List.set_cons_zero, List.set_cons_succ, i64_w, i32_w]
                       rfl
                     refine take_ (i := 4) (N := some 103) (v := ?_) (a' := ?_) (bitsJ 50 511) rfl rfl (take_ofW HT_.out HW_.out (by kernel_rfl)) (fun _ _ _ h => h) (Or.inl ⟨by rfl, ?_⟩) hHeld ?_ ?_
                     rotate_left
                     · rintro w' ⟨s0, s1, s2, s3, s4, s5, s6, s7⟩
                       go_simp
                       with_reducible rfl
                     rotate_left
                     · simp only [Act.put, List.setIfInBounds_toArray, List.set_cons_zero, List.set_cons_succ, i64_w, i32_w]
                       rfl
                     refine take_ (i := 9) (N := some 108) (v := ?_) (a' := ?_) (bitsJ 50 1023) rfl rfl (take_ofW HT_.out HW_.out (by kernel_rfl)) (fun _ _ _ h => h) (Or.inl ⟨by rfl, ?_⟩) hHeld ?_ ?_
                     rotate_left
                     · rintro w' ⟨s0, s1, s2, s3, s4, s5, s6, s7⟩
                       go_simp
                       with_reducible rfl
                     rotate_left
                     · simp only [Act.put, List.setIfInBounds_toArray, List.set_cons_zero, List.set_cons_succ, i64_w, i32_w]
                       rfl
                     refine pure_ (i := 10) (N := some 109) (v := ?_) (a' := ?_) (bitsJ 50 2047) rfl rfl (any_of HT_.out (by kernel_rfl)) (fun _ _ _ h => h) (Or.inl ⟨by rfl, ?_⟩) ?_ ?_
                     rotate_left
                     · intro w'
                       go_simp
                       with_reducible rfl
                     rotate_left
                     · simp only [Act.put, List.setIfInBounds_toArray, List.set_cons_zero, List.set_cons_succ, i64_w, i32_w]
                       rfl
                     refine pure_ (i := 11) (N := some 110) (v := ?_) (a' := ?_) (bitsJ 50 4095) rfl rfl (any_of HT_.out (by kernel_rfl)) (fun _ _ _ h => h) (Or.inl ⟨by rfl, ?_⟩) ?_ ?_
                     rotate_left
                     · intro w'
                       go_simp
                       with_reducible rfl
                     rotate_left
                     · simp only [Act.put, List.setIfInBounds_toArray, List.set_cons_zero, List.set_cons_succ, i64_w, i32_w]
                       rfl
                     refine pure_ (i := 12) (N := some 111) (v := undef) (a' := ?_) (bitsJ 50 8191) rfl rfl (any_of HT_.out (by kernel_rfl)) (fun _ _ _ h => h) (Or.inr ⟨by rfl, rfl⟩) ?_ ?_
                     rotate_left
                     · simp only [Act.put, List.setIfInBounds_toArray, List.set_cons_zero, List.set_cons_succ, i64_w, i32_w]
                       rfl
                     refine pure_ (i := 13) (N := some 112) (v := undef) (a' := ?_) (bitsJ 50 16383) rfl rfl (any_of HT_.out (by kernel_rfl)) (fun _ _ _ h => h) (Or.inr ⟨by rfl, rfl⟩) ?_ ?_
                     rotate_left
                     · simp only [Act.put, List.setIfInBounds_toArray, List.set_cons_zero, List.set_cons_succ, i64_w, i32_w]
                       rfl
                     refine pure_ (i := 14) (N := some 113) (v := undef) (a' := ?_) (bitsJ 50 32767) rfl rfl (any_of HT_.out (by kernel_rfl)) (fun _ _ _ h => h) (Or.inr ⟨by rfl, rfl⟩) ?_ ?_
                     rotate_left
                     · simp only [Act.put, List.setIfInBounds_toArray, List.set_cons_zero, List.set_cons_succ, i64_w, i32_w]
                       rfl
                     refine pure_ (i := 15) (N := some 114) (v := undef) (a' := ?_) (bitsJ 50 65535) rfl rfl (any_of HT_.out (by kernel_rfl)) (fun _ _ _ h => h) (Or.inr ⟨by rfl, rfl⟩) ?_ ?_
                     rotate_left
                     · simp only [Act.put, List.setIfInBounds_toArray, List.set_cons_zero, List.set_cons_succ, i64_w, i32_w]
                       rfl
                     refine pure_ (i := 16) (N := some 115) (v := undef) (a' := ?_) (bitsJ 50 131071) rfl rfl (any_of HT_.out (by kernel_rfl)) (fun _ _ _ h => h) (Or.inr ⟨by rfl, rfl⟩) ?_ ?_
                     rotate_left
                     · simp only [Act.put, List.setIfInBounds_toArray, List.set_cons_zero, List.set_cons_succ, i64_w, i32_w]
                       rfl
                     refine pure_ (i := 17) (N := some 116) (v := undef) (a' := ?_) (bitsJ 50 262143) rfl rfl (any_of HT_.out (by kernel_rfl)) (fun _ _ _ h => h) (Or.inr ⟨by rfl, rfl⟩) ?_ ?_
                     rotate_left
                     · simp only [Act.put, List.setIfInBounds_toArray, List.set_cons_zero, List.set_cons_succ, i64_w, i32_w]
                       rfl
                     refine pure_ (i := 18) (N := some 117) (v := undef) (a' := ?_) (bitsJ 50 524287) rfl rfl (any_of HT_.out (by kernel_rfl)) (fun _ _ _ h => h) (Or.inr ⟨by rfl, rfl⟩) ?_ ?_
                     rotate_left
                     · simp only [Act.put, List.setIfInBounds_toArray, List.set_cons_zero, List.set_cons_succ, i64_w, i32_w]
                       rfl
                     refine pure_ (i := 19) (N := some 118) (v := undef) (a' := ?_) (bitsJ 50 1048575) rfl rfl (any_of HT_.out (by kernel_rfl)) (fun _ _ _ h => h) (Or.inr ⟨by rfl, rfl⟩) ?_ ?_
                     rotate_left
                     · simp only [Act.put, List.setIfInBounds_toArray, List.set_cons_zero, List.set_cons_succ, i64_w, i32_w]
                       rfl
                     refine pure_ (i := 20) (N := some 119) (v := undef) (a' := ?_) (bitsJ 50 2097151) rfl rfl (any_of HT_.out (by kernel_rfl)) (fun _ _ _ h => h) (Or.inr ⟨by rfl, rfl⟩) ?_ ?_
                     rotate_left
                     · simp only [Act.put, List.setIfInBounds_toArray, List.set_cons_zero, List.set_cons_succ, i64_w, i32_w]
                       rfl
                     refine pure_ (i := 21) (N := some 120) (v := undef) (a' := ?_) (bitsJ 50 4194303) rfl rfl (any_of HT_.out (by kernel_rfl)) (fun _ _ _ h => h) (Or.inr ⟨by rfl, rfl⟩) ?_ ?_
                     rotate_left
                     · simp only [Act.put, List.setIfInBounds_toArray, List.set_cons_zero, List.set_cons_succ, i64_w, i32_w]
                       rfl
                     refine pure_ (i := 22) (N := some 121) (v := undef) (a' := ?_) (bitsJ 50 8388607) rfl rfl (any_of HT_.out (by kernel_rfl)) (fun _ _ _ h => h) (Or.inr ⟨by rfl, rfl⟩) ?_ ?_
                     rotate_left
                     · simp only [Act.put, List.setIfInBounds_toArray, List.set_cons_zero, List.set_cons_succ, i64_w, i32_w]
                       rfl
                     refine pure_ (i := 23) (N := some 122) (v := ?_) (a' := ?_) (bitsJ 50 16777215) rfl rfl (any_of HT_.out (by kernel_rfl)) (fun _ _ _ h => h) (Or.inl ⟨by rfl, ?_⟩) ?_ ?_
                     rotate_left
                     · intro w'
                       go_simp
                       with_reducible rfl
                     rotate_left
                     · simp only [Act.put, List.setIfInBounds_toArray, List.set_cons_zero, List.set_cons_succ, i64_w, i32_w]
                       rfl
                     refine pure_ (i := 24) (N := some 123) (v := ?_) (a' := ?_) (bitsJ 50 33554431) rfl rfl (any_of HT_.out (by kernel_rfl)) (fun _ _ _ h => h) (Or.inl ⟨by rfl, ?_⟩) ?_ ?_
                     rotate_left
                     · intro w'
                       go_simp
                       with_reducible rfl
                     rotate_left
                     · simp only [Act.put, List.setIfInBounds_toArray, List.set_cons_zero, List.set_cons_succ, i64_w, i32_w]
                       rfl
                     refine pure_ (i := 25) (N := some 124) (v := undef) (a' := ?_) (bitsJ 50 67108863) rfl rfl (any_of HT_.out (by kernel_rfl)) (fun _ _ _ h => h) (Or.inr ⟨by rfl, rfl⟩) ?_ ?_
                     rotate_left
                     · simp only [Act.put, List.setIfInBounds_toArray, List.set_cons_zero, List.set_cons_succ, i64_w, i32_w]
                       rfl
                     refine pure_ (i := 26) (N := some 125) (v := undef) (a' := ?_) (bitsJ 50 134217727) rfl rfl (any_of HT_.out (by kernel_rfl)) (fun _ _ _ h => h) (Or.inr ⟨by rfl, rfl⟩) ?_ ?_
                     rotate_left
                     · simp only [Act.put, List.setIfInBounds_toArray, List.set_cons_zero, List.set_cons_succ, i64_w, i32_w]
                       rfl
                     refine pure_ (i := 27) (N := some 126) (v := undef) (a' := ?_) (bitsJ 50 268435455) rfl rfl (any_of HT_.out (by kernel_rfl)) (fun _ _ _ h => h) (Or.inr ⟨by rfl, rfl⟩) ?_ ?_
                     rotate_left
                     · simp only [Act.put, List.setIfInBounds_toArray, List.set_cons_zero, List.set_cons_succ, i64_w, i32_w]
                       rfl
                     refine pure_ (i := 28) (N := some 127) (v := undef) (a' := ?_) (bitsJ 50 536870911) rfl rfl (any_of HT_.out (by kernel_rfl)) (fun _ _ _ h => h) (Or.inr ⟨by rfl, rfl⟩) ?_ ?_
                     rotate_left
                     · simp only [Act.put, List.setIfInBounds_toArray, List.set_cons_zero, List.set_cons_succ, i64_w, i32_w]
                       rfl
                     refine pure_ (i := 29) (N := some 128) (v := undef) (a' := ?_) (bitsJ 50 1073741823) rfl rfl (any_of HT_.out (by kernel_rfl)) (fun _ _ _ h => h) (Or.inr ⟨by rfl, rfl⟩) ?_ ?_
                     rotate_left
                     · simp only [Act.put, List.setIfInBounds_toArray, List.set_cons_zero, List.set_cons_succ, i64_w, i32_w]
                       rfl
                     refine pure_ (i := 30) (N := some 129) (v := undef) (a' := ?_) (bitsJ 50 2147483647) rfl rfl (any_of HT_.out (by kernel_rfl)) (fun _ _ _ h => h) (Or.inr ⟨by rfl, rfl⟩) ?_ ?_
                     rotate_left
                     · simp only [Act.put, List.setIfInBounds_toArray, List.set_cons_zero, List.set_cons_succ, i64_w, i32_w]
                       rfl
                     refine pure_ (i := 31) (N := some 130) (v := undef) (a' := ?_) (bitsJ 50 4294967295) rfl rfl (any_of HT_.out (by kernel_rfl)) (fun _ _ _ h => h) (Or.inr ⟨by rfl, rfl⟩) ?_ ?_
                     rotate_left
                     · simp only [Act.put, List.setIfInBounds_toArray, List.set_cons_zero, List.set_cons_succ, i64_w, i32_w]
                       rfl
                     refine pure_ (i := 32) (N := some 131) (v := undef) (a' := ?_) (bitsJ 50 8589934591) rfl rfl (any_of HT_.out (by kernel_rfl)) (fun _ _ _ h => h) (Or.inr ⟨by rfl, rfl⟩) ?_ ?_
                     rotate_left
                     · simp only [Act.put, List.setIfInBounds_toArray, List.set_cons_zero, List.set_cons_succ, i64_w, i32_w]
                       rfl
                     refine pure_ (i := 33) (N := some 132) (v := undef) (a' := ?_) (bitsJ 50 17179869183) rfl rfl (any_of HT_.out (by kernel_rfl)) (fun _ _ _ h => h) (Or.inr ⟨by rfl, rfl⟩) ?_ ?_
                     rotate_left
                     · simp only [Act.put, List.setIfInBounds_toArray, List.set_cons_zero, List.set_cons_succ, i64_w, i32_w]
                       rfl
                     refine pure_ (i := 34) (N := some 133) (v := undef) (a' := ?_) (bitsJ 50 34359738367) rfl rfl (any_of HT_.out (by kernel_rfl)) (fun _ _ _ h => h) (Or.inr ⟨by rfl, rfl⟩) ?_ ?_
                     rotate_left
                     · simp only [Act.put, List.setIfInBounds_toArray, List.set_cons_zero, List.set_cons_succ, i64_w, i32_w]
                       rfl
                     refine pure_ (i := 35) (N := some 134) (v := undef) (a' := ?_) (bitsJ 50 68719476735) rfl rfl (any_of HT_.out (by kernel_rfl)) (fun _ _ _ h => h) (Or.inr ⟨by rfl, rfl⟩) ?_ ?_
                     rotate_left
                     · simp only [Act.put, List.setIfInBounds_toArray, List.set_cons_zero, List.set_cons_succ, i64_w, i32_w]
                       rfl
                     refine pure_ (i := 36) (N := some 135) (v := ?_) (a' := ?_) (bitsJ 50 137438953471) rfl rfl (any_of HT_.out (by kernel_rfl)) (fun _ _ _ h => h) (Or.inl ⟨by rfl, ?_⟩) ?_ ?_
                     rotate_left
                     · intro w'
                       go_simp
                       with_reducible rfl
                     rotate_left
                     · simp only [Act.put, List.setIfInBounds_toArray, List.set_cons_zero, List.set_cons_succ, i64_w, i32_w]
                       rfl
                     refine pure_ (i := 37) (N := some 136) (v := ?_) (a' := ?_) (bitsJ 50 274877906943) rfl rfl (any_of HT_.out (by kernel_rfl)) (fun _ _ _ h => h) (Or.inl ⟨by rfl, ?_⟩) ?_ ?_
                     rotate_left
                     · intro w'
                       go_simp
                       with_reducible rfl
                     rotate_left
                     · simp only [Act.put, List.setIfInBounds_toArray, List.set_cons_zero, List.set_cons_succ, i64_w, i32_w]
                       rfl
                     refine pure_ (i := 38) (N := some 137) (v := undef) (a' := ?_) (bitsJ 50 549755813887) rfl rfl (any_of HT_.out (by kernel_rfl)) (fun _ _ _ h => h) (Or.inr ⟨by rfl, rfl⟩) ?_ ?_
                     rotate_left
                     · simp only [Act.put, List.setIfInBounds_toArray, List.set_cons_zero, List.set_cons_succ, i64_w, i32_w]
                       rfl
                     refine pure_ (i := 39) (N := some 138) (v := undef) (a' := ?_) (bitsJ 50 1099511627775) rfl rfl (any_of HT_.out (by kernel_rfl)) (fun _ _ _ h => h) (Or.inr ⟨by rfl, rfl⟩) ?_ ?_
                     rotate_left
                     · simp only [Act.put, List.setIfInBounds_toArray, List.set_cons_zero, List.set_cons_succ, i64_w, i32_w]
                       rfl
                     refine pure_ (i := 40) (N := some 139) (v := undef) (a' := ?_) (bitsJ 50 2199023255551) rfl rfl (any_of HT_.out (by kernel_rfl)) (fun _ _ _ h => h) (Or.inr ⟨by rfl, rfl⟩) ?_ ?_
                     rotate_left
                     · simp only [Act.put, List.setIfInBounds_toArray, List.set_cons_zero, List.set_cons_succ, i64_w, i32_w]
                       rfl
                     refine pure_ (i := 41) (N := some 140) (v := undef) (a' := ?_) (bitsJ 50 4398046511103) rfl rfl (any_of HT_.out (by kernel_rfl)) (fun _ _ _ h => h) (Or.inr ⟨by rfl, rfl⟩) ?_ ?_
                     rotate_left
                     · simp only [Act.put, List.setIfInBounds_toArray, List.set_cons_zero, List.set_cons_succ, i64_w, i32_w]
                       rfl
                     refine pure_ (i := 42) (N := some 141) (v := undef) (a' := ?_) (bitsJ 50 8796093022207) rfl rfl (any_of HT_.out (by kernel_rfl)) (fun _ _ _ h => h) (Or.inr ⟨by rfl, rfl⟩) ?_ ?_
                     rotate_left
                     · simp only [Act.put, List.setIfInBounds_toArray, List.set_cons_zero, List.set_cons_succ, i64_w, i32_w]
                       rfl
                     refine pure_ (i := 43) (N := some 142) (v := undef) (a' := ?_) (bitsJ 50 17592186044415) rfl rfl (any_of HT_.out (by kernel_rfl)) (fun _ _ _ h => h) (Or.inr ⟨by rfl, rfl⟩) ?_ ?_
                     rotate_left
                     · simp only [Act.put, List.setIfInBounds_toArray, List.set_cons_zero, List.set_cons_succ, i64_w, i32_w]
                       rfl
                     refine pure_ (i := 44) (N := some 143) (v := undef) (a' := ?_) (bitsJ 50 35184372088831) rfl rfl (any_of HT_.out (by kernel_rfl)) (fun _ _ _ h => h) (Or.inr ⟨by rfl, rfl⟩) ?_ ?_
                     rotate_left
                     · simp only [Act.put, List.setIfInBounds_toArray, List.set_cons_zero, List.set_cons_succ, i64_w, i32_w]
                       rfl
                     refine pure_ (i := 45) (N := some 144) (v := undef) (a' := ?_) (bitsJ 50 70368744177663) rfl rfl (any_of HT_.out (by kernel_rfl)) (fun _ _ _ h => h) (Or.inr ⟨by rfl, rfl⟩) ?_ ?_
                     rotate_left
                     · simp only [Act.put, List.setIfInBounds_toArray, List.set_cons_zero, List.set_cons_succ, i64_w, i32_w]
                       rfl
                     refine pure_ (i := 46) (N := some 145) (v := undef) (a' := ?_) (bitsJ 50 140737488355327) rfl rfl (any_of HT_.out (by kernel_rfl)) (fun _ _ _ h => h) (Or.inr ⟨by rfl, rfl⟩) ?_ ?_
                     rotate_left
                     · simp only [Act.put, List.setIfInBounds_toArray, List.set_cons_zero, List.set_cons_succ, i64_w, i32_w]
                       rfl
                     refine pure_ (i := 47) (N := some 146) (v := undef) (a' := ?_) (bitsJ 50 281474976710655) rfl rfl (any_of HT_.out (by kernel_rfl)) (fun _ _ _ h => h) (Or.inr ⟨by rfl, rfl⟩) ?_ ?_
                     rotate_left
                     · simp only [Act.put, List.setIfInBounds_toArray, List.set_cons_zero, List.set_cons_succ, i64_w, i32_w]
                       rfl
                     refine pure_ (i := 48) (N := some 147) (v := undef) (a' := ?_) (bitsJ 50 562949953421311) rfl rfl (any_of HT_.out (by kernel_rfl)) (fun _ _ _ h => h) (Or.inr ⟨by rfl, rfl⟩) ?_ ?_
                     rotate_left
                     · simp only [Act.put, List.setIfInBounds_toArray, List.set_cons_zero, List.set_cons_succ, i64_w, i32_w]
                       rfl
                     refine pure_ (i := 49) (N := some 148) (v := ?_) (a' := ?_) #[true, true, true, true, true, true, true, true, true, true, true, true, true, true, true, true, true, true, true, true, true, true, true, true, true, true, true, true, true, true, true, true, true, true, true, true, true, true, true, true, true, true, true, true, true, true, true, true, true, true] rfl rfl (any_of HT_.out (by kernel_rfl)) (fun _ _ _ h => h) (Or.inl ⟨by rfl, ?_⟩) ?_ ?_
                     rotate_left
                     · intro w'
                       go_simp
                       with_reducible rfl
                     rotate_left
                     · simp only [Act.put, List.setIfInBounds_toArray, List.set_cons_zero, List.set_cons_succ, i64_w, i32_w]
                       rfl
                     refine done_ (done_of HT_.out (by kernel_rfl)) ?_
                     try go_wp2
                     go_ret
                     exact ⟨by first | rfl | (simp [errW_none, errW_some] <;> rfl) | (simp [*, errW_none, errW_some] <;> rfl), by repeat (first | (with_reducible first | exact HB.out | apply below_alloc | apply pw_below_drewN | apply below_drew1) | exact HB.out)⟩
                 · rw [if_neg c47] at H
                   exact absurd H (by simp)
               · rw [if_neg c46] at H
                 exact absurd H (by simp)
             · rw [if_neg c45] at H
               have c45b0 : decide (x14_4 < (t188.length : Int)) = false := decide_eq_false c45
               clear c45
               obtain rfl := Option.some.inj H
               obtain ⟨Ao67, co67, eo67⟩ := Kd.R_slice HO_11.out
               subst eo67
               go_wp2
               go_ret
               exact ⟨by first | rfl | (simp [errW_none, errW_some] <;> rfl) | (simp [*, errW_none, errW_some] <;> rfl), by repeat (first | (with_reducible first | exact HB.out | apply below_alloc | apply pw_below_drewN | apply below_drew1) | exact HB.out)⟩

end Go.Proofs.YtjcbedgpmjgcdaaDoor.PLex

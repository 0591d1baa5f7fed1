-- Written for this claim by a program of this session, which runs the kit's printer with contracts by hand put in. Lean checks it.
import Derived.Test.YtjcbedgpmjgcdaaDoorPLexx0
import Derived.Test.YtjcbedgpmjgcdaaDoorPLexx3
import Derived.Test.YtjcbedgpmjgcdaaDoorPLexx5
import Derived.Test.YtjcbedgpmjgcdaaDoorPLexx6
namespace Go.Proofs.YtjcbedgpmjgcdaaDoor.PLex
open Go.RowKit Go.Proofs.YtjcbedgpmjgcdaaDoor.Hand Go.Proofs.YtjcbedgpmjgcdaaDoorW.PrintWords Go.Proofs.YtjcbedgpmjgcdaaDoorW.PrintLast Go.Proofs.YtjcbedgpmjgcdaaDoorW.PrintMore
attribute [local go_sem] cell?_setCell_twice max2_int min2_int max_two min_two max_three min_three max_four min_four   -- for this text's walks alone
set_option linter.unusedVariables false
set_option linter.unusedSimpArgs false

/-! ### jetsamlaw01_LexReads: function 5 -/
mutual
def jetsamlaw01_LexReads.j1 : Nat → ByteArray → Option (Bool)
  | 0, _ => none
  | k + 1, x0 => (lex_Lex.f k x0).bind fun bt175 => ((jetsamref01_Lex.f k x0).bind fun bt180 => ((jetsamlaw01_reads.f k).bind fun t185 => (if t185 = true then (if bt175.2.1 = bt180.2.1 then (if bt175.2.2 = bt180.2.2 then (jetsamlaw01_LexReads.j2 k bt175.1 bt180.1 ((bt175.1.length : Int) != (bt180.1.length : Int))) else (jetsamlaw01_LexReads.j2 k bt175.1 bt180.1 true)) else (jetsamlaw01_LexReads.j2 k bt175.1 bt180.1 true)) else (jetsamlaw01_LexReads.j2 k bt175.1 bt180.1 true))))
def jetsamlaw01_LexReads.j2 : Nat → List (S67) → List (S68) → Bool → Option (Bool)
  | 0, _, _, _ => none
  | k + 1, x6, x9, x70 => if x70 = true then (some false) else (jetsamlaw01_LexReads.l1 k x6 x9 0)
def jetsamlaw01_LexReads.l1 : Nat → List (S67) → List (S68) → Int → Option (Bool)
  | 0, _, _, _ => none
  | k + 1, x6, x9, x12 => if x12 < (x6.length : Int) then (if 0 ≤ x12 then (if x12 < (x9.length : Int) then (if ((rd_T67 x6 x12).f0) = ((rd_T68 x9 x12).f0) then (if ((rd_T67 x6 x12).f1).toList = ((rd_T68 x9 x12).f1).toList then (if ((rd_T67 x6 x12).f2) = ((rd_T68 x9 x12).f2) then (if ((rd_T67 x6 x12).f3) = ((rd_T68 x9 x12).f3) then (jetsamlaw01_LexReads.l1 k x6 x9 (wrap64 (x12 + 1))) else (some false)) else (some false)) else (some false)) else (some false)) else (none)) else (none)) else (some true)
def jetsamlaw01_LexReads.l0 : Nat → ByteArray → Option (Bool)
  | 0, _ => none
  | k + 1, x0 => if (x0.size : Int) < 2100 then (if (x0.size : Int) > 0 then (if x0.size + x0.size ≤ 9223372036854775807 then (jetsamlaw01_LexReads.l0 k (x0 ++ x0)) else (none)) else (if 0 ≤ (mn (x0.size : Int) 2100) then (if (mn (x0.size : Int) 2100) ≤ (x0.size : Int) then (jetsamlaw01_LexReads.j1 k (x0.extract 0 ((mn (x0.size : Int) 2100) : Int).toNat)) else (none)) else (none))) else (if 0 ≤ (mn (x0.size : Int) 2100) then (if (mn (x0.size : Int) 2100) ≤ (x0.size : Int) then (jetsamlaw01_LexReads.j1 k (x0.extract 0 ((mn (x0.size : Int) 2100) : Int).toNat)) else (none)) else (none))
end
def jetsamlaw01_LexReads.f (k : Nat) (a0 : ByteArray) (a1 : Int) : Option (Bool) := if 0 ≤ (mn (a0.size : Int) 300) then (if (mn (a0.size : Int) 300) ≤ (a0.size : Int) then (if (wrap64 (Int.tmod (IntKind.u64.wrap (a1)) 40)) = 39 then (jetsamlaw01_LexReads.l0 k (a0.extract 0 ((mn (a0.size : Int) 300) : Int).toNat)) else (jetsamlaw01_LexReads.j1 k (a0.extract 0 ((mn (a0.size : Int) 300) : Int).toNat))) else (none)) else (none)
theorem jetsamlaw01_LexReads.l0_eq (k : Nat) (x0 : ByteArray) : jetsamlaw01_LexReads.l0 (k + 1) x0 = (if (x0.size : Int) < 2100 then (if (x0.size : Int) > 0 then (if x0.size + x0.size ≤ 9223372036854775807 then (jetsamlaw01_LexReads.l0 k (x0 ++ x0)) else (none)) else (if 0 ≤ (mn (x0.size : Int) 2100) then (if (mn (x0.size : Int) 2100) ≤ (x0.size : Int) then (jetsamlaw01_LexReads.j1 k (x0.extract 0 ((mn (x0.size : Int) 2100) : Int).toNat)) else (none)) else (none))) else (if 0 ≤ (mn (x0.size : Int) 2100) then (if (mn (x0.size : Int) 2100) ≤ (x0.size : Int) then (jetsamlaw01_LexReads.j1 k (x0.extract 0 ((mn (x0.size : Int) 2100) : Int).toNat)) else (none)) else (none))) := rfl
theorem jetsamlaw01_LexReads.mono_l : ∀ k, (∀ y0, LeO (jetsamlaw01_LexReads.j1 k y0) (jetsamlaw01_LexReads.j1 (k + 1) y0)) ∧ (∀ y0 y1 y2, LeO (jetsamlaw01_LexReads.j2 k y0 y1 y2) (jetsamlaw01_LexReads.j2 (k + 1) y0 y1 y2)) ∧ (∀ y0 y1 y2, LeO (jetsamlaw01_LexReads.l1 k y0 y1 y2) (jetsamlaw01_LexReads.l1 (k + 1) y0 y1 y2)) ∧ (∀ y0, LeO (jetsamlaw01_LexReads.l0 k y0) (jetsamlaw01_LexReads.l0 (k + 1) y0))
  | 0 => ⟨fun _ r h => by (have h_ : none = some r := h; cases h_), fun _ _ _ r h => by (have h_ : none = some r := h; cases h_), fun _ _ _ r h => by (have h_ : none = some r := h; cases h_), fun _ r h => by (have h_ : none = some r := h; cases h_)⟩
  | k + 1 => by
    obtain ⟨ih0, ih1, ih2, ih3⟩ := jetsamlaw01_LexReads.mono_l k
    refine ⟨?_, ?_, ?_, ?_⟩
    · intro y0
      unfold jetsamlaw01_LexReads.j1
      repeat' first
      | (with_reducible exact ih0 _)
      | (with_reducible exact ih1 _ _ _)
      | (with_reducible exact ih2 _ _ _)
      | (with_reducible exact ih3 _)
      | (with_reducible exact jetsamlaw01_reads.mono _)
      | (with_reducible exact jetsamref01_Lex.mono _ _)
      | (with_reducible exact lex_Lex.mono _ _)
      | (with_reducible exact LeO.refl _)
      | (with_reducible exact LeO.none _)
      | (with_reducible refine LeO.ite ?_ ?_)
      | (with_reducible refine LeO.bind ?_ (fun _ => ?_))
      | exact ih0 _
      | exact ih1 _ _ _
      | exact ih2 _ _ _
      | exact ih3 _
      | exact jetsamlaw01_reads.mono _
      | exact jetsamref01_Lex.mono _ _
      | exact lex_Lex.mono _ _
      | exact LeO.none _
      | refine LeO.ite ?_ ?_
      | refine LeO.bind ?_ (fun _ => ?_)
    · intro y0 y1 y2
      unfold jetsamlaw01_LexReads.j2
      repeat' first
      | (with_reducible exact ih0 _)
      | (with_reducible exact ih1 _ _ _)
      | (with_reducible exact ih2 _ _ _)
      | (with_reducible exact ih3 _)
      | (with_reducible exact jetsamlaw01_reads.mono _)
      | (with_reducible exact jetsamref01_Lex.mono _ _)
      | (with_reducible exact lex_Lex.mono _ _)
      | (with_reducible exact LeO.refl _)
      | (with_reducible exact LeO.none _)
      | (with_reducible refine LeO.ite ?_ ?_)
      | (with_reducible refine LeO.bind ?_ (fun _ => ?_))
      | exact ih0 _
      | exact ih1 _ _ _
      | exact ih2 _ _ _
      | exact ih3 _
      | exact jetsamlaw01_reads.mono _
      | exact jetsamref01_Lex.mono _ _
      | exact lex_Lex.mono _ _
      | exact LeO.none _
      | refine LeO.ite ?_ ?_
      | refine LeO.bind ?_ (fun _ => ?_)
    · intro y0 y1 y2
      unfold jetsamlaw01_LexReads.l1
      repeat' first
      | (with_reducible exact ih0 _)
      | (with_reducible exact ih1 _ _ _)
      | (with_reducible exact ih2 _ _ _)
      | (with_reducible exact ih3 _)
      | (with_reducible exact jetsamlaw01_reads.mono _)
      | (with_reducible exact jetsamref01_Lex.mono _ _)
      | (with_reducible exact lex_Lex.mono _ _)
      | (with_reducible exact LeO.refl _)
      | (with_reducible exact LeO.none _)
      | (with_reducible refine LeO.ite ?_ ?_)
      | (with_reducible refine LeO.bind ?_ (fun _ => ?_))
      | exact ih0 _
      | exact ih1 _ _ _
      | exact ih2 _ _ _
      | exact ih3 _
      | exact jetsamlaw01_reads.mono _
      | exact jetsamref01_Lex.mono _ _
      | exact lex_Lex.mono _ _
      | exact LeO.none _
      | refine LeO.ite ?_ ?_
      | refine LeO.bind ?_ (fun _ => ?_)
    · intro y0
      unfold jetsamlaw01_LexReads.l0
      repeat' first
      | (with_reducible exact ih0 _)
      | (with_reducible exact ih1 _ _ _)
      | (with_reducible exact ih2 _ _ _)
      | (with_reducible exact ih3 _)
      | (with_reducible exact jetsamlaw01_reads.mono _)
      | (with_reducible exact jetsamref01_Lex.mono _ _)
      | (with_reducible exact lex_Lex.mono _ _)
      | (with_reducible exact LeO.refl _)
      | (with_reducible exact LeO.none _)
      | (with_reducible refine LeO.ite ?_ ?_)
      | (with_reducible refine LeO.bind ?_ (fun _ => ?_))
      | exact ih0 _
      | exact ih1 _ _ _
      | exact ih2 _ _ _
      | exact ih3 _
      | exact jetsamlaw01_reads.mono _
      | exact jetsamref01_Lex.mono _ _
      | exact lex_Lex.mono _ _
      | exact LeO.none _
      | refine LeO.ite ?_ ?_
      | refine LeO.bind ?_ (fun _ => ?_)
theorem jetsamlaw01_LexReads.mono : ∀ a0 a1 k, LeO (jetsamlaw01_LexReads.f k a0 a1) (jetsamlaw01_LexReads.f (k + 1) a0 a1) := by
  intro a0 a1 k
  obtain ⟨ih0, ih1, ih2, ih3⟩ := jetsamlaw01_LexReads.mono_l k
  unfold jetsamlaw01_LexReads.f
  repeat' first
      | (with_reducible exact ih0 _)
      | (with_reducible exact ih1 _ _ _)
      | (with_reducible exact ih2 _ _ _)
      | (with_reducible exact ih3 _)
      | (with_reducible exact jetsamlaw01_reads.mono _)
      | (with_reducible exact jetsamref01_Lex.mono _ _)
      | (with_reducible exact lex_Lex.mono _ _)
      | (with_reducible exact LeO.refl _)
      | (with_reducible exact LeO.none _)
      | (with_reducible refine LeO.ite ?_ ?_)
      | (with_reducible refine LeO.bind ?_ (fun _ => ?_))
      | exact ih0 _
      | exact ih1 _ _ _
      | exact ih2 _ _ _
      | exact ih3 _
      | exact jetsamlaw01_reads.mono _
      | exact jetsamref01_Lex.mono _ _
      | exact lex_Lex.mono _ _
      | exact LeO.none _
      | refine LeO.ite ?_ ?_
      | refine LeO.bind ?_ (fun _ => ?_)
set_option maxHeartbeats 80000000 in
set_option maxRecDepth 100000 in
theorem jetsamlaw01_LexReads.calls (k : Nat) (a0 : ByteArray) (a1 : Int) (r : Bool) (w : World) (h : jetsamlaw01_LexReads.f k a0 a1 = some r) (hL : Aside0 (Laid w)) :
    Calls Tryd.prog 5 #[.string a0, .int .i64 a1] w fun e w' => e = .returned (.bool r) ∧ Below w.heap.size w w' := by
  have HB := Aside0.mk (Below.refl w.heap.size w)
  have H : (if 0 ≤ (mn (a0.size : Int) 300) then (if (mn (a0.size : Int) 300) ≤ (a0.size : Int) then (if (wrap64 (Int.tmod (IntKind.u64.wrap (a1)) 40)) = 39 then (jetsamlaw01_LexReads.l0 k (a0.extract 0 ((mn (a0.size : Int) 300) : Int).toNat)) else (jetsamlaw01_LexReads.j1 k (a0.extract 0 ((mn (a0.size : Int) 300) : Int).toNat))) else (none)) else (none)) = some r := h
  clear h
  obtain ⟨ji3, hji3⟩ : ∃ j_ : Int, (mn (a0.size : Int) 300) = j_ := ⟨_, rfl⟩
  replace H : (if 0 ≤ (ji3) then (if (ji3) ≤ (a0.size : Int) then (if (wrap64 (Int.tmod (IntKind.u64.wrap (a1)) 40)) = 39 then (jetsamlaw01_LexReads.l0 k (a0.extract 0 ((ji3) : Int).toNat)) else (jetsamlaw01_LexReads.j1 k (a0.extract 0 ((ji3) : Int).toNat))) else (none)) else (none)) = some r := by first | (rw [hji3] at H; exact H) | (simp only [hji3] at H ⊢; exact H)
  (try (have hji3h : ji3 ≤ 300 := by (rw [← hji3]; unfold mn; (repeat' split) <;> omega)))
  (try (have hji3g : ji3 ≤ 64 := by omega))
  (try (have hji3l : 0 ≤ ji3 := by (rw [← hji3]; unfold mn; (repeat' split) <;> omega)))
  (try (have hji3m : 0 ≤ ji3 := by omega))
  have hji3_ : (if 300 < (a0.size : Int) then 300 else (a0.size : Int)) = ji3 := hji3
  by_cases c4 : 0 ≤ (ji3)
  · rw [if_pos c4] at H
    have c4b0 := eq_true c4
    have c4b1 : decide (0 ≤ (ji3)) = true := decide_eq_true c4
    clear c4
    by_cases c5 : (ji3) ≤ (a0.size : Int)
    · rw [if_pos c5] at H
      have c5b0 := eq_true c5
      have c5b1 : decide ((ji3) ≤ (a0.size : Int)) = true := decide_eq_true c5
      clear c5
      have HC6 := Aside0.mk H
      clear H
      go_enter Tryd.func5, Tryd.ntmps5
      go_upto_if 23 with (fail)
      repeat (go_quiet (fail); go_upto_if 23 with (fail))
      go_cut [0] (fun v0 wc => ∃ (kq : Nat) (x0_5 : ByteArray), v0 = .string x0_5 ∧ Aside0 (jetsamlaw01_LexReads.j1 kq x0_5 = some r) ∧ Aside0 (kq ≤ k) ∧ Aside0 (Below w.heap.size w wc))
      case first =>
        have H := HC6.out
        clear HC6
        by_cases c7 : (wrap64 (Int.tmod (IntKind.u64.wrap (a1)) 40)) = 39
        · rw [if_pos c7] at H
          have c7b0 : ((wrap64 (Int.tmod (IntKind.u64.wrap (a1)) 40)) == 39) = true := beq_iff_eq.mpr c7
          have c7b1 : ((wrap64 (Int.tmod (IntKind.u64.wrap (a1)) 40)) != 39) = false := bne_eq_false_iff_eq.mpr c7
          clear c7
          (first | rw [c7b0] | (simp only [i64_w, i32_w]; rw [c7b0]) | skip)
          have H' := Aside0.mk H
          clear H
          go_wp2
          repeat (go_quiet (fail); try go_wp2)
          have ck7 := c7b0
          go_loopg [0] k (fun kq v0 w' => ∃ (x0_1 : ByteArray), v0 = .string x0_1 ∧ Aside0 (jetsamlaw01_LexReads.l0 kq x0_1 = some r) ∧ Aside0 (kq ≤ k) ∧ Aside0 (Below w.heap.size w w'))
          case atStart => exact ⟨(a0.extract 0 ((ji3) : Int).toNat), (by first | rfl | (simp; done) | (simp only [← hji3] <;> (first | rfl | simp)) | (simp [*]; done)), H', ⟨Nat.le_refl _⟩, ⟨by repeat (first | (with_reducible first | exact HB.out | apply below_alloc | apply pw_below_drewN | apply below_drew1) | exact HB.out)⟩⟩
          case round =>
            clear H'
            try clear p2
            try clear c4
            try clear c4b0
            try clear c4b1
            try clear c5
            try clear c5b0
            try clear c5b1
            try clear p6
            try clear c7
            try clear c7b0
            try clear c7b1
            obtain ⟨x0_1, rfl, HA, HK1, HB⟩ := hrel
            cases gk with
            | zero => exact absurd HA.out (by intro h_; have h2_ : none = some r := h_; cases h2_)
            | succ k1 =>
              have H := HA.out
              clear HA
              rw [jetsamlaw01_LexReads.l0_eq] at H
              by_cases c8 : (x0_1.size : Int) < 2100
              · rw [if_pos c8] at H
                have c8b0 : decide ((x0_1.size : Int) < 2100) = true := decide_eq_true c8
                have c8b1 : decide (x0_1.size < 2100) = true := decide_eq_true (by omega)
                clear c8
                by_cases c9 : (x0_1.size : Int) > 0
                · rw [if_pos c9] at H
                  have c9b0 : decide (0 < (x0_1.size : Int)) = true := decide_eq_true c9
                  have c9b1 : decide (0 < x0_1.size) = true := decide_eq_true (by omega)
                  clear c9
                  by_cases c10 : x0_1.size + x0_1.size ≤ 9223372036854775807
                  · rw [if_pos c10] at H
                    have c10b0 := eq_true c10
                    have c10b1 : decide (x0_1.size + x0_1.size ≤ 9223372036854775807) = true := decide_eq_true c10
                    try have c10b2 : (9223372036854775807 < x0_1.size + x0_1.size) = False := eq_false (Nat.not_lt.2 c10)
                    have H' := Aside0.mk H
                    clear H
                    go_wp2
                    repeat (go_quiet (fail); try go_wp2)
                    go_roundg k1
                    case measure => have := HK1.out; omega
                    case rel => exact ⟨(x0_1 ++ x0_1), (by first | rfl | (simp; done) | (simp [*]; done)), H', ⟨by have := HK1.out; omega⟩, ⟨by repeat (first | (with_reducible first | exact HB.out | apply below_alloc | apply pw_below_drewN | apply below_drew1) | exact HB.out)⟩⟩
                  · rw [if_neg c10] at H
                    exact absurd H (by simp)
                · rw [if_neg c9] at H
                  have c9b0 : decide (0 < (x0_1.size : Int)) = false := decide_eq_false c9
                  have c9b1 : decide (0 < x0_1.size) = false := decide_eq_false (by omega)
                  clear c9
                  obtain ⟨ji11, hji11⟩ : ∃ j_ : Int, (mn (x0_1.size : Int) 2100) = j_ := ⟨_, rfl⟩
                  replace H : (if 0 ≤ (ji11) then (if (ji11) ≤ (x0_1.size : Int) then (jetsamlaw01_LexReads.j1 k1 (x0_1.extract 0 ((ji11) : Int).toNat)) else (none)) else (none)) = some r := by first | (rw [hji11] at H; exact H) | (simp only [hji11] at H ⊢; exact H)
                  have hji11_ : (if 2100 < (x0_1.size : Int) then 2100 else (x0_1.size : Int)) = ji11 := hji11
                  by_cases c12 : 0 ≤ (ji11)
                  · rw [if_pos c12] at H
                    have c12b0 := eq_true c12
                    have c12b1 : decide (0 ≤ (ji11)) = true := decide_eq_true c12
                    clear c12
                    by_cases c13 : (ji11) ≤ (x0_1.size : Int)
                    · rw [if_pos c13] at H
                      have c13b0 := eq_true c13
                      have c13b1 : decide ((ji11) ≤ (x0_1.size : Int)) = true := decide_eq_true c13
                      clear c13
                      have H' := Aside0.mk H
                      clear H
                      go_wp2
                      repeat (go_quiet (fail); try go_wp2)
                      (refine Met.intro ?_; go_step; (repeat apply Exists.intro); (try simp only [ck7]); (try simp only [c7b0]); refine ⟨?rel, rfl⟩)
                      case rel => exact ⟨_, (x0_1.extract 0 ((ji11) : Int).toNat), (by first | rfl | (simp; done) | (simp only [← hji11] <;> (first | rfl | simp)) | (simp [*]; done)), H', ⟨by have := HK1.out; first | omega | exact Nat.le_refl _⟩, ⟨by repeat (first | (with_reducible first | exact HB.out | apply below_alloc | apply pw_below_drewN | apply below_drew1) | exact HB.out)⟩⟩
                    · rw [if_neg c13] at H
                      exact absurd H (by simp)
                  · rw [if_neg c12] at H
                    exact absurd H (by simp)
              · rw [if_neg c8] at H
                have c8b0 : decide ((x0_1.size : Int) < 2100) = false := decide_eq_false c8
                have c8b1 : decide (x0_1.size < 2100) = false := decide_eq_false (by omega)
                clear c8
                obtain ⟨ji14, hji14⟩ : ∃ j_ : Int, (mn (x0_1.size : Int) 2100) = j_ := ⟨_, rfl⟩
                replace H : (if 0 ≤ (ji14) then (if (ji14) ≤ (x0_1.size : Int) then (jetsamlaw01_LexReads.j1 k1 (x0_1.extract 0 ((ji14) : Int).toNat)) else (none)) else (none)) = some r := by first | (rw [hji14] at H; exact H) | (simp only [hji14] at H ⊢; exact H)
                have hji14_ : (if 2100 < (x0_1.size : Int) then 2100 else (x0_1.size : Int)) = ji14 := hji14
                by_cases c15 : 0 ≤ (ji14)
                · rw [if_pos c15] at H
                  have c15b0 := eq_true c15
                  have c15b1 : decide (0 ≤ (ji14)) = true := decide_eq_true c15
                  clear c15
                  by_cases c16 : (ji14) ≤ (x0_1.size : Int)
                  · rw [if_pos c16] at H
                    have c16b0 := eq_true c16
                    have c16b1 : decide ((ji14) ≤ (x0_1.size : Int)) = true := decide_eq_true c16
                    clear c16
                    have H' := Aside0.mk H
                    clear H
                    go_wp2
                    repeat (go_quiet (fail); try go_wp2)
                    (refine Met.intro ?_; go_step; (repeat apply Exists.intro); (try simp only [ck7]); (try simp only [c7b0]); refine ⟨?rel, rfl⟩)
                    case rel => exact ⟨_, (x0_1.extract 0 ((ji14) : Int).toNat), (by first | rfl | (simp; done) | (simp only [← hji14] <;> (first | rfl | simp)) | (simp [*]; done)), H', ⟨by have := HK1.out; first | omega | exact Nat.le_refl _⟩, ⟨by repeat (first | (with_reducible first | exact HB.out | apply below_alloc | apply pw_below_drewN | apply below_drew1) | exact HB.out)⟩⟩
                  · rw [if_neg c16] at H
                    exact absurd H (by simp)
                · rw [if_neg c15] at H
                  exact absurd H (by simp)
        · rw [if_neg c7] at H
          have c7b0 : ((wrap64 (Int.tmod (IntKind.u64.wrap (a1)) 40)) == 39) = false := beq_eq_false_iff_ne.mpr c7
          have c7b1 : ((wrap64 (Int.tmod (IntKind.u64.wrap (a1)) 40)) != 39) = true := bne_iff_ne.mpr c7
          (first | rw [c7b0] | (simp only [i64_w, i32_w]; rw [c7b0]) | skip)
          have H' := Aside0.mk H
          clear H
          go_wp2
          repeat (go_quiet (fail); try go_wp2)
          (refine Met.intro ?_; go_step; (repeat apply Exists.intro); (try simp only [ck7]); (try simp only [c7b0]); refine ⟨?rel, rfl⟩)
          case rel => exact ⟨_, (a0.extract 0 ((ji3) : Int).toNat), (by first | rfl | (simp; done) | (simp only [← hji3] <;> (first | rfl | simp)) | (simp [*]; done)), H', ⟨by first | omega | exact Nat.le_refl _⟩, ⟨by repeat (first | (with_reducible first | exact HB.out | apply below_alloc | apply pw_below_drewN | apply below_drew1) | exact HB.out)⟩⟩
      case rest =>
        clear HC6
        try clear c1
        try clear p2
        try clear c4
        try clear c4b0
        try clear c4b1
        try clear c5
        try clear c5b0
        try clear c5b1
        try clear p6
        try clear c7
        try clear c7b0
        try clear c7b1
        try clear c8
        try clear c8b0
        try clear c8b1
        try clear c9
        try clear c9b0
        try clear c9b1
        try clear c10
        try clear c10b0
        try clear c10b1
        try clear c10b2
        try clear c12
        try clear c12b0
        try clear c12b1
        try clear c13
        try clear c13b0
        try clear c13b1
        try clear c15
        try clear c15b0
        try clear c15b1
        try clear c16
        try clear c16b0
        try clear c16b1
        try clear p2
        try clear p6
        obtain ⟨kq, x0_5, rfl, HA, HJ5, HB⟩ := hcut
        cases kq with
        | zero => exact absurd HA.out (by simp [jetsamlaw01_LexReads.j1])
        | succ kj5 =>
          have H := HA.out
          clear HA
          simp only [jetsamlaw01_LexReads.j1] at H
          replace H := Option.bind_eq_some_iff.mp H
          obtain ⟨⟨t175, t176, t177⟩, A170, H⟩ := H
          replace H : ((jetsamref01_Lex.f kj5 x0_5).bind fun bt180 => ((jetsamlaw01_reads.f kj5).bind fun t185 => (if t185 = true then (if t176 = bt180.2.1 then (if t177 = bt180.2.2 then (jetsamlaw01_LexReads.j2 kj5 t175 bt180.1 ((t175.length : Int) != (bt180.1.length : Int))) else (jetsamlaw01_LexReads.j2 kj5 t175 bt180.1 true)) else (jetsamlaw01_LexReads.j2 kj5 t175 bt180.1 true)) else (jetsamlaw01_LexReads.j2 kj5 t175 bt180.1 true)))) = some r := H
          have A17 := Aside0.mk A170
          clear A170
          replace H := Option.bind_eq_some_iff.mp H
          obtain ⟨⟨t180, t181, t182⟩, A180, H⟩ := H
          replace H : ((jetsamlaw01_reads.f kj5).bind fun t185 => (if t185 = true then (if t176 = t181 then (if t177 = t182 then (jetsamlaw01_LexReads.j2 kj5 t175 t180 ((t175.length : Int) != (t180.length : Int))) else (jetsamlaw01_LexReads.j2 kj5 t175 t180 true)) else (jetsamlaw01_LexReads.j2 kj5 t175 t180 true)) else (jetsamlaw01_LexReads.j2 kj5 t175 t180 true))) = some r := H
          have A18 := Aside0.mk A180
          clear A180
          have HC19 := Aside0.mk H
          clear H
          go_upto_region 9 with (first | (go_at_call 22; (with_reducible refine (lex_Lex.calls kj5 x0_5 t175 t176 t177 _ A17.out (by first | exact hL | exact Laid.at hL (by repeat (first | (with_reducible first | exact HB.out | apply below_alloc | apply pw_below_drewN | apply below_drew1) | exact HB.out)))).mono ?_); rintro e w20 ⟨v178, rfl, ho0, hb⟩; have n0_ := Aside0.mk (Kd.R_lower ho0 (below_size (by repeat (first | (with_reducible first | exact HB.out | apply below_alloc | apply pw_below_drewN | apply below_drew1) | exact HB.out)))); have n1_ := Aside0.mk (below_step (by repeat (first | (with_reducible first | exact HB.out | apply below_alloc | apply pw_below_drewN | apply below_drew1) | exact HB.out)) hb); clear HB; have HO179 := n0_; have HB := n1_; clear n0_ n1_; (try clear hb); (try clear hb2); (try clear hk); (try clear hi); (try clear ho0)) | (go_at_call 23; (with_reducible refine (jetsamref01_Lex.calls kj5 x0_5 t180 t181 t182 _ A18.out).mono ?_); rintro e w21 ⟨v183, rfl, ho0, hb⟩; have n0_ := Aside0.mk (Kd.R_below (by (with_reducible repeat (first | apply Kd.R_alloc | apply Kd.R_drewN | apply Kd.R_drew)); exact HO179.out) hb); have n1_ := Aside0.mk (Kd.R_lower ho0 (below_size (by repeat (first | (with_reducible first | exact HB.out | apply below_alloc | apply pw_below_drewN | apply below_drew1) | exact HB.out)))); have n2_ := Aside0.mk (below_step (by repeat (first | (with_reducible first | exact HB.out | apply below_alloc | apply pw_below_drewN | apply below_drew1) | exact HB.out)) hb); clear HO179; clear HB; have HO179 := n0_; have HO184 := n1_; have HB := n2_; clear n0_ n1_ n2_; (try clear hb); (try clear hb2); (try clear hk); (try clear hi); (try clear ho0)))
          repeat (go_quiet (first | (go_at_call 22; (with_reducible refine (lex_Lex.calls kj5 x0_5 t175 t176 t177 _ A17.out (by first | exact hL | exact Laid.at hL (by repeat (first | (with_reducible first | exact HB.out | apply below_alloc | apply pw_below_drewN | apply below_drew1) | exact HB.out)))).mono ?_); rintro e w20 ⟨v178, rfl, ho0, hb⟩; have n0_ := Aside0.mk (Kd.R_lower ho0 (below_size (by repeat (first | (with_reducible first | exact HB.out | apply below_alloc | apply pw_below_drewN | apply below_drew1) | exact HB.out)))); have n1_ := Aside0.mk (below_step (by repeat (first | (with_reducible first | exact HB.out | apply below_alloc | apply pw_below_drewN | apply below_drew1) | exact HB.out)) hb); clear HB; have HO179 := n0_; have HB := n1_; clear n0_ n1_; (try clear hb); (try clear hb2); (try clear hk); (try clear hi); (try clear ho0)) | (go_at_call 23; (with_reducible refine (jetsamref01_Lex.calls kj5 x0_5 t180 t181 t182 _ A18.out).mono ?_); rintro e w21 ⟨v183, rfl, ho0, hb⟩; have n0_ := Aside0.mk (Kd.R_below (by (with_reducible repeat (first | apply Kd.R_alloc | apply Kd.R_drewN | apply Kd.R_drew)); exact HO179.out) hb); have n1_ := Aside0.mk (Kd.R_lower ho0 (below_size (by repeat (first | (with_reducible first | exact HB.out | apply below_alloc | apply pw_below_drewN | apply below_drew1) | exact HB.out)))); have n2_ := Aside0.mk (below_step (by repeat (first | (with_reducible first | exact HB.out | apply below_alloc | apply pw_below_drewN | apply below_drew1) | exact HB.out)) hb); clear HO179; clear HB; have HO179 := n0_; have HO184 := n1_; have HB := n2_; clear n0_ n1_ n2_; (try clear hb); (try clear hb2); (try clear hk); (try clear hi); (try clear ho0))); go_upto_region 9 with (first | (go_at_call 22; (with_reducible refine (lex_Lex.calls kj5 x0_5 t175 t176 t177 _ A17.out (by first | exact hL | exact Laid.at hL (by repeat (first | (with_reducible first | exact HB.out | apply below_alloc | apply pw_below_drewN | apply below_drew1) | exact HB.out)))).mono ?_); rintro e w20 ⟨v178, rfl, ho0, hb⟩; have n0_ := Aside0.mk (Kd.R_lower ho0 (below_size (by repeat (first | (with_reducible first | exact HB.out | apply below_alloc | apply pw_below_drewN | apply below_drew1) | exact HB.out)))); have n1_ := Aside0.mk (below_step (by repeat (first | (with_reducible first | exact HB.out | apply below_alloc | apply pw_below_drewN | apply below_drew1) | exact HB.out)) hb); clear HB; have HO179 := n0_; have HB := n1_; clear n0_ n1_; (try clear hb); (try clear hb2); (try clear hk); (try clear hi); (try clear ho0)) | (go_at_call 23; (with_reducible refine (jetsamref01_Lex.calls kj5 x0_5 t180 t181 t182 _ A18.out).mono ?_); rintro e w21 ⟨v183, rfl, ho0, hb⟩; have n0_ := Aside0.mk (Kd.R_below (by (with_reducible repeat (first | apply Kd.R_alloc | apply Kd.R_drewN | apply Kd.R_drew)); exact HO179.out) hb); have n1_ := Aside0.mk (Kd.R_lower ho0 (below_size (by repeat (first | (with_reducible first | exact HB.out | apply below_alloc | apply pw_below_drewN | apply below_drew1) | exact HB.out)))); have n2_ := Aside0.mk (below_step (by repeat (first | (with_reducible first | exact HB.out | apply below_alloc | apply pw_below_drewN | apply below_drew1) | exact HB.out)) hb); clear HO179; clear HB; have HO179 := n0_; have HO184 := n1_; have HB := n2_; clear n0_ n1_ n2_; (try clear hb); (try clear hb2); (try clear hk); (try clear hi); (try clear ho0))))
          (try simp only [Act.put, List.setIfInBounds_toArray, List.set_cons_zero, List.set_cons_succ])
          go_cut [70] (fun v70 wc => ∃ (kq : Nat) (x70_18 : Bool), v70 = .bool x70_18 ∧ Aside0 (jetsamlaw01_LexReads.j2 kq t175 t180 x70_18 = some r) ∧ Aside0 (kq ≤ kj5) ∧ Aside0 (Kd.R k67 67 wc w.heap.size (fun _ => True) v178 t175) ∧ Aside0 (Kd.R k68 68 wc w.heap.size (fun _ => True) v183 t180) ∧ Aside0 (Below w.heap.size w wc))
          case first =>
            have H := HC19.out
            clear HC19
            replace H := Option.bind_eq_some_iff.mp H
            obtain ⟨t185, A220, H⟩ := H
            replace H : (if t185 = true then (if t176 = t181 then (if t177 = t182 then (jetsamlaw01_LexReads.j2 kj5 t175 t180 ((t175.length : Int) != (t180.length : Int))) else (jetsamlaw01_LexReads.j2 kj5 t175 t180 true)) else (jetsamlaw01_LexReads.j2 kj5 t175 t180 true)) else (jetsamlaw01_LexReads.j2 kj5 t175 t180 true)) = some r := H
            have A22 := Aside0.mk A220
            clear A220
            by_cases c23 : t185 = true
            · subst c23
              have H1 : (if t176 = t181 then (if t177 = t182 then (jetsamlaw01_LexReads.j2 kj5 t175 t180 ((t175.length : Int) != (t180.length : Int))) else (jetsamlaw01_LexReads.j2 kj5 t175 t180 true)) else (jetsamlaw01_LexReads.j2 kj5 t175 t180 true)) = some r := by rw [if_pos rfl] at H; exact H
              clear H
              have H := H1
              clear H1
              by_cases c24 : t176 = t181
              · rw [if_pos c24] at H
                have c24b0 : (t176 == t181) = true := beq_iff_eq.mpr c24
                have c24b1 : (t176 != t181) = false := bne_eq_false_iff_eq.mpr c24
                clear c24
                (first | rw [c24b0] | (simp only [i64_w, i32_w]; rw [c24b0]) | skip)
                by_cases c25 : t177 = t182
                · rw [if_pos c25] at H
                  have c25b0 : (t177 == t182) = true := beq_iff_eq.mpr c25
                  have c25b1 : (t177 != t182) = false := bne_eq_false_iff_eq.mpr c25
                  clear c25
                  have H' := Aside0.mk H
                  clear H
                  go_wp2_with (first | (go_at_call 24; (with_reducible refine (jetsamlaw01_reads.calls kj5  true _ A22.out (by first | exact hL | exact Laid.at hL (by repeat (first | (with_reducible first | exact HB.out | apply below_alloc | apply pw_below_drewN | apply below_drew1) | exact HB.out)))).mono ?_); rintro e w26 ⟨rfl, hb⟩; have n0_ := Aside0.mk (Kd.R_below (by (with_reducible repeat (first | apply Kd.R_alloc | apply Kd.R_drewN | apply Kd.R_drew)); exact HO179.out) hb); have n1_ := Aside0.mk (Kd.R_below (by (with_reducible repeat (first | apply Kd.R_alloc | apply Kd.R_drewN | apply Kd.R_drew)); exact HO184.out) hb); have n2_ := Aside0.mk (below_step (by repeat (first | (with_reducible first | exact HB.out | apply below_alloc | apply pw_below_drewN | apply below_drew1) | exact HB.out)) hb); clear HO179; clear HO184; clear HB; have HO179 := n0_; have HO184 := n1_; have HB := n2_; clear n0_ n1_ n2_; (try clear hb); (try clear hb2); (try clear hk); (try clear hi); obtain ⟨Ao27, co27, eo27⟩ := Kd.R_slice HO179.out; subst eo27; obtain ⟨Ao28, co28, eo28⟩ := Kd.R_slice HO184.out; subst eo28))
                  repeat (go_quiet (first | (go_at_call 24; (with_reducible refine (jetsamlaw01_reads.calls kj5  true _ A22.out (by first | exact hL | exact Laid.at hL (by repeat (first | (with_reducible first | exact HB.out | apply below_alloc | apply pw_below_drewN | apply below_drew1) | exact HB.out)))).mono ?_); rintro e w26 ⟨rfl, hb⟩; have n0_ := Aside0.mk (Kd.R_below (by (with_reducible repeat (first | apply Kd.R_alloc | apply Kd.R_drewN | apply Kd.R_drew)); exact HO179.out) hb); have n1_ := Aside0.mk (Kd.R_below (by (with_reducible repeat (first | apply Kd.R_alloc | apply Kd.R_drewN | apply Kd.R_drew)); exact HO184.out) hb); have n2_ := Aside0.mk (below_step (by repeat (first | (with_reducible first | exact HB.out | apply below_alloc | apply pw_below_drewN | apply below_drew1) | exact HB.out)) hb); clear HO179; clear HO184; clear HB; have HO179 := n0_; have HO184 := n1_; have HB := n2_; clear n0_ n1_ n2_; (try clear hb); (try clear hb2); (try clear hk); (try clear hi); obtain ⟨Ao27, co27, eo27⟩ := Kd.R_slice HO179.out; subst eo27; obtain ⟨Ao28, co28, eo28⟩ := Kd.R_slice HO184.out; subst eo28)); try go_wp2_with (first | (go_at_call 24; (with_reducible refine (jetsamlaw01_reads.calls kj5  true _ A22.out (by first | exact hL | exact Laid.at hL (by repeat (first | (with_reducible first | exact HB.out | apply below_alloc | apply pw_below_drewN | apply below_drew1) | exact HB.out)))).mono ?_); rintro e w26 ⟨rfl, hb⟩; have n0_ := Aside0.mk (Kd.R_below (by (with_reducible repeat (first | apply Kd.R_alloc | apply Kd.R_drewN | apply Kd.R_drew)); exact HO179.out) hb); have n1_ := Aside0.mk (Kd.R_below (by (with_reducible repeat (first | apply Kd.R_alloc | apply Kd.R_drewN | apply Kd.R_drew)); exact HO184.out) hb); have n2_ := Aside0.mk (below_step (by repeat (first | (with_reducible first | exact HB.out | apply below_alloc | apply pw_below_drewN | apply below_drew1) | exact HB.out)) hb); clear HO179; clear HO184; clear HB; have HO179 := n0_; have HO184 := n1_; have HB := n2_; clear n0_ n1_ n2_; (try clear hb); (try clear hb2); (try clear hk); (try clear hi); obtain ⟨Ao27, co27, eo27⟩ := Kd.R_slice HO179.out; subst eo27; obtain ⟨Ao28, co28, eo28⟩ := Kd.R_slice HO184.out; subst eo28)))
                  go_meet
                  case rel => exact ⟨_, (((t175.length : Int) != (t180.length : Int))), (by first | rfl | (simp; done) | (simp [*]; done)), H', ⟨by have := HJ5.out; first | omega | exact Nat.le_refl _⟩, ⟨by (with_reducible repeat (first | apply Kd.R_alloc | apply Kd.R_drewN | apply Kd.R_drew)); exact HO179.out⟩, ⟨by (with_reducible repeat (first | apply Kd.R_alloc | apply Kd.R_drewN | apply Kd.R_drew)); exact HO184.out⟩, ⟨by repeat (first | (with_reducible first | exact HB.out | apply below_alloc | apply pw_below_drewN | apply below_drew1) | exact HB.out)⟩⟩
                · rw [if_neg c25] at H
                  have c25b0 : (t177 == t182) = false := beq_eq_false_iff_ne.mpr c25
                  have c25b1 : (t177 != t182) = true := bne_iff_ne.mpr c25
                  have H' := Aside0.mk H
                  clear H
                  go_wp2_with (first | (go_at_call 24; (with_reducible refine (jetsamlaw01_reads.calls kj5  true _ A22.out (by first | exact hL | exact Laid.at hL (by repeat (first | (with_reducible first | exact HB.out | apply below_alloc | apply pw_below_drewN | apply below_drew1) | exact HB.out)))).mono ?_); rintro e w29 ⟨rfl, hb⟩; have n0_ := Aside0.mk (Kd.R_below (by (with_reducible repeat (first | apply Kd.R_alloc | apply Kd.R_drewN | apply Kd.R_drew)); exact HO179.out) hb); have n1_ := Aside0.mk (Kd.R_below (by (with_reducible repeat (first | apply Kd.R_alloc | apply Kd.R_drewN | apply Kd.R_drew)); exact HO184.out) hb); have n2_ := Aside0.mk (below_step (by repeat (first | (with_reducible first | exact HB.out | apply below_alloc | apply pw_below_drewN | apply below_drew1) | exact HB.out)) hb); clear HO179; clear HO184; clear HB; have HO179 := n0_; have HO184 := n1_; have HB := n2_; clear n0_ n1_ n2_; (try clear hb); (try clear hb2); (try clear hk); (try clear hi)))
                  repeat (go_quiet (first | (go_at_call 24; (with_reducible refine (jetsamlaw01_reads.calls kj5  true _ A22.out (by first | exact hL | exact Laid.at hL (by repeat (first | (with_reducible first | exact HB.out | apply below_alloc | apply pw_below_drewN | apply below_drew1) | exact HB.out)))).mono ?_); rintro e w29 ⟨rfl, hb⟩; have n0_ := Aside0.mk (Kd.R_below (by (with_reducible repeat (first | apply Kd.R_alloc | apply Kd.R_drewN | apply Kd.R_drew)); exact HO179.out) hb); have n1_ := Aside0.mk (Kd.R_below (by (with_reducible repeat (first | apply Kd.R_alloc | apply Kd.R_drewN | apply Kd.R_drew)); exact HO184.out) hb); have n2_ := Aside0.mk (below_step (by repeat (first | (with_reducible first | exact HB.out | apply below_alloc | apply pw_below_drewN | apply below_drew1) | exact HB.out)) hb); clear HO179; clear HO184; clear HB; have HO179 := n0_; have HO184 := n1_; have HB := n2_; clear n0_ n1_ n2_; (try clear hb); (try clear hb2); (try clear hk); (try clear hi))); try go_wp2_with (first | (go_at_call 24; (with_reducible refine (jetsamlaw01_reads.calls kj5  true _ A22.out (by first | exact hL | exact Laid.at hL (by repeat (first | (with_reducible first | exact HB.out | apply below_alloc | apply pw_below_drewN | apply below_drew1) | exact HB.out)))).mono ?_); rintro e w29 ⟨rfl, hb⟩; have n0_ := Aside0.mk (Kd.R_below (by (with_reducible repeat (first | apply Kd.R_alloc | apply Kd.R_drewN | apply Kd.R_drew)); exact HO179.out) hb); have n1_ := Aside0.mk (Kd.R_below (by (with_reducible repeat (first | apply Kd.R_alloc | apply Kd.R_drewN | apply Kd.R_drew)); exact HO184.out) hb); have n2_ := Aside0.mk (below_step (by repeat (first | (with_reducible first | exact HB.out | apply below_alloc | apply pw_below_drewN | apply below_drew1) | exact HB.out)) hb); clear HO179; clear HO184; clear HB; have HO179 := n0_; have HO184 := n1_; have HB := n2_; clear n0_ n1_ n2_; (try clear hb); (try clear hb2); (try clear hk); (try clear hi))))
                  go_meet
                  case rel => exact ⟨_, (true), (by first | rfl | (simp; done) | (simp [*]; done)), H', ⟨by have := HJ5.out; first | omega | exact Nat.le_refl _⟩, ⟨by (with_reducible repeat (first | apply Kd.R_alloc | apply Kd.R_drewN | apply Kd.R_drew)); exact HO179.out⟩, ⟨by (with_reducible repeat (first | apply Kd.R_alloc | apply Kd.R_drewN | apply Kd.R_drew)); exact HO184.out⟩, ⟨by repeat (first | (with_reducible first | exact HB.out | apply below_alloc | apply pw_below_drewN | apply below_drew1) | exact HB.out)⟩⟩
              · rw [if_neg c24] at H
                have c24b0 : (t176 == t181) = false := beq_eq_false_iff_ne.mpr c24
                have c24b1 : (t176 != t181) = true := bne_iff_ne.mpr c24
                (first | rw [c24b0] | (simp only [i64_w, i32_w]; rw [c24b0]) | skip)
                have H' := Aside0.mk H
                clear H
                go_wp2_with (first | (go_at_call 24; (with_reducible refine (jetsamlaw01_reads.calls kj5  true _ A22.out (by first | exact hL | exact Laid.at hL (by repeat (first | (with_reducible first | exact HB.out | apply below_alloc | apply pw_below_drewN | apply below_drew1) | exact HB.out)))).mono ?_); rintro e w30 ⟨rfl, hb⟩; have n0_ := Aside0.mk (Kd.R_below (by (with_reducible repeat (first | apply Kd.R_alloc | apply Kd.R_drewN | apply Kd.R_drew)); exact HO179.out) hb); have n1_ := Aside0.mk (Kd.R_below (by (with_reducible repeat (first | apply Kd.R_alloc | apply Kd.R_drewN | apply Kd.R_drew)); exact HO184.out) hb); have n2_ := Aside0.mk (below_step (by repeat (first | (with_reducible first | exact HB.out | apply below_alloc | apply pw_below_drewN | apply below_drew1) | exact HB.out)) hb); clear HO179; clear HO184; clear HB; have HO179 := n0_; have HO184 := n1_; have HB := n2_; clear n0_ n1_ n2_; (try clear hb); (try clear hb2); (try clear hk); (try clear hi)))
                repeat (go_quiet (first | (go_at_call 24; (with_reducible refine (jetsamlaw01_reads.calls kj5  true _ A22.out (by first | exact hL | exact Laid.at hL (by repeat (first | (with_reducible first | exact HB.out | apply below_alloc | apply pw_below_drewN | apply below_drew1) | exact HB.out)))).mono ?_); rintro e w30 ⟨rfl, hb⟩; have n0_ := Aside0.mk (Kd.R_below (by (with_reducible repeat (first | apply Kd.R_alloc | apply Kd.R_drewN | apply Kd.R_drew)); exact HO179.out) hb); have n1_ := Aside0.mk (Kd.R_below (by (with_reducible repeat (first | apply Kd.R_alloc | apply Kd.R_drewN | apply Kd.R_drew)); exact HO184.out) hb); have n2_ := Aside0.mk (below_step (by repeat (first | (with_reducible first | exact HB.out | apply below_alloc | apply pw_below_drewN | apply below_drew1) | exact HB.out)) hb); clear HO179; clear HO184; clear HB; have HO179 := n0_; have HO184 := n1_; have HB := n2_; clear n0_ n1_ n2_; (try clear hb); (try clear hb2); (try clear hk); (try clear hi))); try go_wp2_with (first | (go_at_call 24; (with_reducible refine (jetsamlaw01_reads.calls kj5  true _ A22.out (by first | exact hL | exact Laid.at hL (by repeat (first | (with_reducible first | exact HB.out | apply below_alloc | apply pw_below_drewN | apply below_drew1) | exact HB.out)))).mono ?_); rintro e w30 ⟨rfl, hb⟩; have n0_ := Aside0.mk (Kd.R_below (by (with_reducible repeat (first | apply Kd.R_alloc | apply Kd.R_drewN | apply Kd.R_drew)); exact HO179.out) hb); have n1_ := Aside0.mk (Kd.R_below (by (with_reducible repeat (first | apply Kd.R_alloc | apply Kd.R_drewN | apply Kd.R_drew)); exact HO184.out) hb); have n2_ := Aside0.mk (below_step (by repeat (first | (with_reducible first | exact HB.out | apply below_alloc | apply pw_below_drewN | apply below_drew1) | exact HB.out)) hb); clear HO179; clear HO184; clear HB; have HO179 := n0_; have HO184 := n1_; have HB := n2_; clear n0_ n1_ n2_; (try clear hb); (try clear hb2); (try clear hk); (try clear hi))))
                go_meet
                case rel => exact ⟨_, (true), (by first | rfl | (simp; done) | (simp [*]; done)), H', ⟨by have := HJ5.out; first | omega | exact Nat.le_refl _⟩, ⟨by (with_reducible repeat (first | apply Kd.R_alloc | apply Kd.R_drewN | apply Kd.R_drew)); exact HO179.out⟩, ⟨by (with_reducible repeat (first | apply Kd.R_alloc | apply Kd.R_drewN | apply Kd.R_drew)); exact HO184.out⟩, ⟨by repeat (first | (with_reducible first | exact HB.out | apply below_alloc | apply pw_below_drewN | apply below_drew1) | exact HB.out)⟩⟩
            · replace c23 := Bool.eq_false_iff.mpr c23
              subst c23
              have H1 : (jetsamlaw01_LexReads.j2 kj5 t175 t180 true) = some r := by rw [if_neg (show ¬ (false = true) by decide)] at H; exact H
              clear H
              have H := H1
              clear H1
              have H' := Aside0.mk H
              clear H
              go_wp2_with (first | (go_at_call 24; (with_reducible refine (jetsamlaw01_reads.calls kj5  false _ A22.out (by first | exact hL | exact Laid.at hL (by repeat (first | (with_reducible first | exact HB.out | apply below_alloc | apply pw_below_drewN | apply below_drew1) | exact HB.out)))).mono ?_); rintro e w31 ⟨rfl, hb⟩; have n0_ := Aside0.mk (Kd.R_below (by (with_reducible repeat (first | apply Kd.R_alloc | apply Kd.R_drewN | apply Kd.R_drew)); exact HO179.out) hb); have n1_ := Aside0.mk (Kd.R_below (by (with_reducible repeat (first | apply Kd.R_alloc | apply Kd.R_drewN | apply Kd.R_drew)); exact HO184.out) hb); have n2_ := Aside0.mk (below_step (by repeat (first | (with_reducible first | exact HB.out | apply below_alloc | apply pw_below_drewN | apply below_drew1) | exact HB.out)) hb); clear HO179; clear HO184; clear HB; have HO179 := n0_; have HO184 := n1_; have HB := n2_; clear n0_ n1_ n2_; (try clear hb); (try clear hb2); (try clear hk); (try clear hi)))
              repeat (go_quiet (first | (go_at_call 24; (with_reducible refine (jetsamlaw01_reads.calls kj5  false _ A22.out (by first | exact hL | exact Laid.at hL (by repeat (first | (with_reducible first | exact HB.out | apply below_alloc | apply pw_below_drewN | apply below_drew1) | exact HB.out)))).mono ?_); rintro e w31 ⟨rfl, hb⟩; have n0_ := Aside0.mk (Kd.R_below (by (with_reducible repeat (first | apply Kd.R_alloc | apply Kd.R_drewN | apply Kd.R_drew)); exact HO179.out) hb); have n1_ := Aside0.mk (Kd.R_below (by (with_reducible repeat (first | apply Kd.R_alloc | apply Kd.R_drewN | apply Kd.R_drew)); exact HO184.out) hb); have n2_ := Aside0.mk (below_step (by repeat (first | (with_reducible first | exact HB.out | apply below_alloc | apply pw_below_drewN | apply below_drew1) | exact HB.out)) hb); clear HO179; clear HO184; clear HB; have HO179 := n0_; have HO184 := n1_; have HB := n2_; clear n0_ n1_ n2_; (try clear hb); (try clear hb2); (try clear hk); (try clear hi))); try go_wp2_with (first | (go_at_call 24; (with_reducible refine (jetsamlaw01_reads.calls kj5  false _ A22.out (by first | exact hL | exact Laid.at hL (by repeat (first | (with_reducible first | exact HB.out | apply below_alloc | apply pw_below_drewN | apply below_drew1) | exact HB.out)))).mono ?_); rintro e w31 ⟨rfl, hb⟩; have n0_ := Aside0.mk (Kd.R_below (by (with_reducible repeat (first | apply Kd.R_alloc | apply Kd.R_drewN | apply Kd.R_drew)); exact HO179.out) hb); have n1_ := Aside0.mk (Kd.R_below (by (with_reducible repeat (first | apply Kd.R_alloc | apply Kd.R_drewN | apply Kd.R_drew)); exact HO184.out) hb); have n2_ := Aside0.mk (below_step (by repeat (first | (with_reducible first | exact HB.out | apply below_alloc | apply pw_below_drewN | apply below_drew1) | exact HB.out)) hb); clear HO179; clear HO184; clear HB; have HO179 := n0_; have HO184 := n1_; have HB := n2_; clear n0_ n1_ n2_; (try clear hb); (try clear hb2); (try clear hk); (try clear hi))))
              go_meet
              case rel => exact ⟨_, (true), (by first | rfl | (simp; done) | (simp [*]; done)), H', ⟨by have := HJ5.out; first | omega | exact Nat.le_refl _⟩, ⟨by (with_reducible repeat (first | apply Kd.R_alloc | apply Kd.R_drewN | apply Kd.R_drew)); exact HO179.out⟩, ⟨by (with_reducible repeat (first | apply Kd.R_alloc | apply Kd.R_drewN | apply Kd.R_drew)); exact HO184.out⟩, ⟨by repeat (first | (with_reducible first | exact HB.out | apply below_alloc | apply pw_below_drewN | apply below_drew1) | exact HB.out)⟩⟩
          case rest =>
            clear HC19
            try clear c1
            try clear c2
            try clear p2
            try clear c4
            try clear c4b0
            try clear c4b1
            try clear c5
            try clear c5b0
            try clear c5b1
            try clear p6
            try clear c7
            try clear c7b0
            try clear c7b1
            try clear c8
            try clear c8b0
            try clear c8b1
            try clear c9
            try clear c9b0
            try clear c9b1
            try clear c10
            try clear c10b0
            try clear c10b1
            try clear c10b2
            try clear c12
            try clear c12b0
            try clear c12b1
            try clear c13
            try clear c13b0
            try clear c13b1
            try clear c15
            try clear c15b0
            try clear c15b1
            try clear c16
            try clear c16b0
            try clear c16b1
            try clear c23
            try clear c24
            try clear c24b0
            try clear c24b1
            try clear c25
            try clear c25b0
            try clear c25b1
            try clear p2
            try clear p6
            obtain ⟨kq, x70_18, rfl, HA, HJ18, HO_6, HO_9, HB⟩ := hcut
            cases kq with
            | zero => exact absurd HA.out (by simp [jetsamlaw01_LexReads.j2])
            | succ kj18 =>
              have H := HA.out
              clear HA
              simp only [jetsamlaw01_LexReads.j2] at H
              by_cases c32 : x70_18 = true
              · subst c32
                have H1 : (some false) = some r := by rw [if_pos rfl] at H; exact H
                clear H
                have H := H1
                clear H1
                obtain rfl := Option.some.inj H
                go_wp2
                repeat (go_quiet (fail); try go_wp2)
                go_ret
                exact ⟨by first | rfl | (simp [errW_none, errW_some] <;> rfl) | (simp only [← hji3]; first | rfl | (simp [errW_none, errW_some] <;> rfl)) | (simp [*, errW_none, errW_some] <;> rfl), by repeat (first | (with_reducible first | exact HB.out | apply below_alloc | apply pw_below_drewN | apply below_drew1) | exact HB.out)⟩
              · replace c32 := Bool.eq_false_iff.mpr c32
                subst c32
                have H1 : (jetsamlaw01_LexReads.l1 kj18 t175 t180 0) = some r := by rw [if_neg (show ¬ (false = true) by decide)] at H; exact H
                clear H
                have H := H1
                clear H1
                have H' := Aside0.mk H
                clear H
                go_wp2
                repeat (go_quiet (fail); try go_wp2)
                go_loopg [12] kj18 (fun kq v12 w' => ∃ (x12_3 : Int), v12 = .int .i64 x12_3 ∧ Aside0 (jetsamlaw01_LexReads.l1 kq t175 t180 x12_3 = some r) ∧ Aside0 (kq ≤ kj18) ∧ Aside0 (Kd.R k67 67 w' w.heap.size (fun _ => True) v178 t175) ∧ Aside0 (Kd.R k68 68 w' w.heap.size (fun _ => True) v183 t180) ∧ Aside0 (Below w.heap.size w w'))
                case atStart => exact ⟨(0), (by first | rfl | (simp; done) | (simp [*]; done)), H', ⟨Nat.le_refl _⟩, ⟨by (with_reducible repeat (first | apply Kd.R_alloc | apply Kd.R_drewN | apply Kd.R_drew)); exact HO_6.out⟩, ⟨by (with_reducible repeat (first | apply Kd.R_alloc | apply Kd.R_drewN | apply Kd.R_drew)); exact HO_9.out⟩, ⟨by repeat (first | (with_reducible first | exact HB.out | apply below_alloc | apply pw_below_drewN | apply below_drew1) | exact HB.out)⟩⟩
                case round =>
                  clear H'
                  try clear c1
                  try clear c2
                  try clear p2
                  try clear c3
                  try clear c4
                  try clear c4b0
                  try clear c4b1
                  try clear c5
                  try clear c5b0
                  try clear c5b1
                  try clear p6
                  try clear c7
                  try clear c7b0
                  try clear c7b1
                  try clear c8
                  try clear c8b0
                  try clear c8b1
                  try clear c9
                  try clear c9b0
                  try clear c9b1
                  try clear c10
                  try clear c10b0
                  try clear c10b1
                  try clear c10b2
                  try clear c12
                  try clear c12b0
                  try clear c12b1
                  try clear c13
                  try clear c13b0
                  try clear c13b1
                  try clear c15
                  try clear c15b0
                  try clear c15b1
                  try clear c16
                  try clear c16b0
                  try clear c16b1
                  try clear c23
                  try clear c24
                  try clear c24b0
                  try clear c24b1
                  try clear c25
                  try clear c25b0
                  try clear c25b1
                  try clear c32
                  try clear p2
                  try clear p6
                  obtain ⟨x12_3, rfl, HA, HK3, HO_6, HO_9, HB⟩ := hrel
                  cases gk with
                  | zero => exact absurd HA.out (by simp [jetsamlaw01_LexReads.l1])
                  | succ k3 =>
                    have H := HA.out
                    clear HA
                    simp only [jetsamlaw01_LexReads.l1] at H
                    by_cases c33 : x12_3 < (t175.length : Int)
                    · rw [if_pos c33] at H
                      have c33b0 : decide (x12_3 < (t175.length : Int)) = true := decide_eq_true c33
                      clear c33
                      by_cases c34 : 0 ≤ x12_3
                      · rw [if_pos c34] at H
                        have c34b0 : decide (0 ≤ x12_3) = true := decide_eq_true c34
                        clear c34
                        by_cases c35 : x12_3 < (t180.length : Int)
                        · rw [if_pos c35] at H
                          have c35b0 : decide (x12_3 < (t180.length : Int)) = true := decide_eq_true c35
                          clear c35
                          by_cases c36 : ((rd_T67 t175 x12_3).f0) = ((rd_T68 t180 x12_3).f0)
                          · rw [if_pos c36] at H
                            have c36b0 : (((rd_T67 t175 x12_3).f0) == ((rd_T68 t180 x12_3).f0)) = true := beq_iff_eq.mpr c36
                            have c36b1 : (((rd_T67 t175 x12_3).f0) != ((rd_T68 t180 x12_3).f0)) = false := bne_eq_false_iff_eq.mpr c36
                            clear c36
                            by_cases c37 : ((rd_T67 t175 x12_3).f1).toList = ((rd_T68 t180 x12_3).f1).toList
                            · rw [if_pos c37] at H
                              have c37b0 : (((rd_T67 t175 x12_3).f1).toList == ((rd_T68 t180 x12_3).f1).toList) = true := beq_iff_eq.mpr c37
                              have c37b1 : (((rd_T67 t175 x12_3).f1).toList != ((rd_T68 t180 x12_3).f1).toList) = false := bne_eq_false_iff_eq.mpr c37
                              clear c37
                              by_cases c38 : ((rd_T67 t175 x12_3).f2) = ((rd_T68 t180 x12_3).f2)
                              · rw [if_pos c38] at H
                                have c38b0 : (((rd_T67 t175 x12_3).f2) == ((rd_T68 t180 x12_3).f2)) = true := beq_iff_eq.mpr c38
                                have c38b1 : (((rd_T67 t175 x12_3).f2) != ((rd_T68 t180 x12_3).f2)) = false := bne_eq_false_iff_eq.mpr c38
                                clear c38
                                by_cases c39 : ((rd_T67 t175 x12_3).f3) = ((rd_T68 t180 x12_3).f3)
                                · rw [if_pos c39] at H
                                  have c39b0 : (((rd_T67 t175 x12_3).f3) == ((rd_T68 t180 x12_3).f3)) = true := beq_iff_eq.mpr c39
                                  have c39b1 : (((rd_T67 t175 x12_3).f3) != ((rd_T68 t180 x12_3).f3)) = false := bne_eq_false_iff_eq.mpr c39
                                  clear c39
                                  have H' := Aside0.mk H
                                  clear H
                                  obtain ⟨Ao40, co40, eo40⟩ := Kd.R_slice HO_6.out
                                  subst eo40
                                  have p186 : 0 ≤ (x12_3 : Int) := of_decide_eq_true (by first | (with_reducible assumption) | assumption)
                                  have q186 : x12_3 < (t175.length : Int) := of_decide_eq_true (by first | (with_reducible assumption) | assumption)
                                  obtain ⟨ad186, e186, hx186_0, hx186_1, hx186_2, hx186_3⟩ := at_T67 (Kd.R_reads' HO_6.out).2.2 x12_3 p186 q186
                                  cases e186
                                  replace p186 := eq_true p186
                                  replace q186 := eq_true q186
                                  obtain ⟨Ao41, co41, eo41⟩ := Kd.R_slice HO_9.out
                                  subst eo41
                                  have p187 : 0 ≤ (x12_3 : Int) := of_decide_eq_true (by first | (with_reducible assumption) | assumption)
                                  have q187 : x12_3 < (t180.length : Int) := of_decide_eq_true (by first | (with_reducible assumption) | assumption)
                                  obtain ⟨ad187, e187, hx187_0, hx187_1, hx187_2, hx187_3⟩ := at_T68 (Kd.R_reads' HO_9.out).2.2 x12_3 p187 q187
                                  cases e187
                                  replace p187 := eq_true p187
                                  replace q187 := eq_true q187
                                  have p188 : 0 ≤ (x12_3 : Int) := of_decide_eq_true (by first | (with_reducible assumption) | assumption)
                                  have q188 : x12_3 < (t175.length : Int) := of_decide_eq_true (by first | (with_reducible assumption) | assumption)
                                  obtain ⟨ad188, e188, hx188_0, hx188_1, hx188_2, hx188_3⟩ := at_T67 (Kd.R_reads' HO_6.out).2.2 x12_3 p188 q188
                                  obtain rfl : ad186 = ad188 := (by injection e188)
                                  replace p188 := eq_true p188
                                  replace q188 := eq_true q188
                                  have p189 : 0 ≤ (x12_3 : Int) := of_decide_eq_true (by first | (with_reducible assumption) | assumption)
                                  have q189 : x12_3 < (t180.length : Int) := of_decide_eq_true (by first | (with_reducible assumption) | assumption)
                                  obtain ⟨ad189, e189, hx189_0, hx189_1, hx189_2, hx189_3⟩ := at_T68 (Kd.R_reads' HO_9.out).2.2 x12_3 p189 q189
                                  obtain rfl : ad187 = ad189 := (by injection e189)
                                  replace p189 := eq_true p189
                                  replace q189 := eq_true q189
                                  have p190 : 0 ≤ (x12_3 : Int) := of_decide_eq_true (by first | (with_reducible assumption) | assumption)
                                  have q190 : x12_3 < (t175.length : Int) := of_decide_eq_true (by first | (with_reducible assumption) | assumption)
                                  obtain ⟨ad190, e190, hx190_0, hx190_1, hx190_2, hx190_3⟩ := at_T67 (Kd.R_reads' HO_6.out).2.2 x12_3 p190 q190
                                  obtain rfl : ad186 = ad190 := (by injection e190)
                                  replace p190 := eq_true p190
                                  replace q190 := eq_true q190
                                  have p191 : 0 ≤ (x12_3 : Int) := of_decide_eq_true (by first | (with_reducible assumption) | assumption)
                                  have q191 : x12_3 < (t180.length : Int) := of_decide_eq_true (by first | (with_reducible assumption) | assumption)
                                  obtain ⟨ad191, e191, hx191_0, hx191_1, hx191_2, hx191_3⟩ := at_T68 (Kd.R_reads' HO_9.out).2.2 x12_3 p191 q191
                                  obtain rfl : ad187 = ad191 := (by injection e191)
                                  replace p191 := eq_true p191
                                  replace q191 := eq_true q191
                                  have p192 : 0 ≤ (x12_3 : Int) := of_decide_eq_true (by first | (with_reducible assumption) | assumption)
                                  have q192 : x12_3 < (t175.length : Int) := of_decide_eq_true (by first | (with_reducible assumption) | assumption)
                                  obtain ⟨ad192, e192, hx192_0, hx192_1, hx192_2, hx192_3⟩ := at_T67 (Kd.R_reads' HO_6.out).2.2 x12_3 p192 q192
                                  obtain rfl : ad186 = ad192 := (by injection e192)
                                  replace p192 := eq_true p192
                                  replace q192 := eq_true q192
                                  have p193 : 0 ≤ (x12_3 : Int) := of_decide_eq_true (by first | (with_reducible assumption) | assumption)
                                  have q193 : x12_3 < (t180.length : Int) := of_decide_eq_true (by first | (with_reducible assumption) | assumption)
                                  obtain ⟨ad193, e193, hx193_0, hx193_1, hx193_2, hx193_3⟩ := at_T68 (Kd.R_reads' HO_9.out).2.2 x12_3 p193 q193
                                  obtain rfl : ad187 = ad193 := (by injection e193)
                                  replace p193 := eq_true p193
                                  replace q193 := eq_true q193
                                  go_wp2
                                  repeat (go_quiet (fail); try go_wp2)
                                  go_roundg k3
                                  case measure => have := HJ5.out; have := HJ18.out; have := HK3.out; omega
                                  case rel => exact ⟨(wrap64 (x12_3 + 1)), (by first | rfl | (simp; done) | (simp [*]; done)), H', ⟨by have := HJ5.out; have := HJ18.out; have := HK3.out; omega⟩, ⟨by (with_reducible repeat (first | apply Kd.R_alloc | apply Kd.R_drewN | apply Kd.R_drew)); exact HO_6.out⟩, ⟨by (with_reducible repeat (first | apply Kd.R_alloc | apply Kd.R_drewN | apply Kd.R_drew)); exact HO_9.out⟩, ⟨by repeat (first | (with_reducible first | exact HB.out | apply below_alloc | apply pw_below_drewN | apply below_drew1) | exact HB.out)⟩⟩
                                · rw [if_neg c39] at H
                                  have c39b0 : (((rd_T67 t175 x12_3).f3) == ((rd_T68 t180 x12_3).f3)) = false := beq_eq_false_iff_ne.mpr c39
                                  have c39b1 : (((rd_T67 t175 x12_3).f3) != ((rd_T68 t180 x12_3).f3)) = true := bne_iff_ne.mpr c39
                                  obtain rfl := Option.some.inj H
                                  obtain ⟨Ao42, co42, eo42⟩ := Kd.R_slice HO_6.out
                                  subst eo42
                                  have p186 : 0 ≤ (x12_3 : Int) := of_decide_eq_true (by first | (with_reducible assumption) | assumption)
                                  have q186 : x12_3 < (t175.length : Int) := of_decide_eq_true (by first | (with_reducible assumption) | assumption)
                                  obtain ⟨ad186, e186, hx186_0, hx186_1, hx186_2, hx186_3⟩ := at_T67 (Kd.R_reads' HO_6.out).2.2 x12_3 p186 q186
                                  cases e186
                                  replace p186 := eq_true p186
                                  replace q186 := eq_true q186
                                  obtain ⟨Ao43, co43, eo43⟩ := Kd.R_slice HO_9.out
                                  subst eo43
                                  have p187 : 0 ≤ (x12_3 : Int) := of_decide_eq_true (by first | (with_reducible assumption) | assumption)
                                  have q187 : x12_3 < (t180.length : Int) := of_decide_eq_true (by first | (with_reducible assumption) | assumption)
                                  obtain ⟨ad187, e187, hx187_0, hx187_1, hx187_2, hx187_3⟩ := at_T68 (Kd.R_reads' HO_9.out).2.2 x12_3 p187 q187
                                  cases e187
                                  replace p187 := eq_true p187
                                  replace q187 := eq_true q187
                                  have p188 : 0 ≤ (x12_3 : Int) := of_decide_eq_true (by first | (with_reducible assumption) | assumption)
                                  have q188 : x12_3 < (t175.length : Int) := of_decide_eq_true (by first | (with_reducible assumption) | assumption)
                                  obtain ⟨ad188, e188, hx188_0, hx188_1, hx188_2, hx188_3⟩ := at_T67 (Kd.R_reads' HO_6.out).2.2 x12_3 p188 q188
                                  obtain rfl : ad186 = ad188 := (by injection e188)
                                  replace p188 := eq_true p188
                                  replace q188 := eq_true q188
                                  have p189 : 0 ≤ (x12_3 : Int) := of_decide_eq_true (by first | (with_reducible assumption) | assumption)
                                  have q189 : x12_3 < (t180.length : Int) := of_decide_eq_true (by first | (with_reducible assumption) | assumption)
                                  obtain ⟨ad189, e189, hx189_0, hx189_1, hx189_2, hx189_3⟩ := at_T68 (Kd.R_reads' HO_9.out).2.2 x12_3 p189 q189
                                  obtain rfl : ad187 = ad189 := (by injection e189)
                                  replace p189 := eq_true p189
                                  replace q189 := eq_true q189
                                  have p190 : 0 ≤ (x12_3 : Int) := of_decide_eq_true (by first | (with_reducible assumption) | assumption)
                                  have q190 : x12_3 < (t175.length : Int) := of_decide_eq_true (by first | (with_reducible assumption) | assumption)
                                  obtain ⟨ad190, e190, hx190_0, hx190_1, hx190_2, hx190_3⟩ := at_T67 (Kd.R_reads' HO_6.out).2.2 x12_3 p190 q190
                                  obtain rfl : ad186 = ad190 := (by injection e190)
                                  replace p190 := eq_true p190
                                  replace q190 := eq_true q190
                                  have p191 : 0 ≤ (x12_3 : Int) := of_decide_eq_true (by first | (with_reducible assumption) | assumption)
                                  have q191 : x12_3 < (t180.length : Int) := of_decide_eq_true (by first | (with_reducible assumption) | assumption)
                                  obtain ⟨ad191, e191, hx191_0, hx191_1, hx191_2, hx191_3⟩ := at_T68 (Kd.R_reads' HO_9.out).2.2 x12_3 p191 q191
                                  obtain rfl : ad187 = ad191 := (by injection e191)
                                  replace p191 := eq_true p191
                                  replace q191 := eq_true q191
                                  have p192 : 0 ≤ (x12_3 : Int) := of_decide_eq_true (by first | (with_reducible assumption) | assumption)
                                  have q192 : x12_3 < (t175.length : Int) := of_decide_eq_true (by first | (with_reducible assumption) | assumption)
                                  obtain ⟨ad192, e192, hx192_0, hx192_1, hx192_2, hx192_3⟩ := at_T67 (Kd.R_reads' HO_6.out).2.2 x12_3 p192 q192
                                  obtain rfl : ad186 = ad192 := (by injection e192)
                                  replace p192 := eq_true p192
                                  replace q192 := eq_true q192
                                  have p193 : 0 ≤ (x12_3 : Int) := of_decide_eq_true (by first | (with_reducible assumption) | assumption)
                                  have q193 : x12_3 < (t180.length : Int) := of_decide_eq_true (by first | (with_reducible assumption) | assumption)
                                  obtain ⟨ad193, e193, hx193_0, hx193_1, hx193_2, hx193_3⟩ := at_T68 (Kd.R_reads' HO_9.out).2.2 x12_3 p193 q193
                                  obtain rfl : ad187 = ad193 := (by injection e193)
                                  replace p193 := eq_true p193
                                  replace q193 := eq_true q193
                                  go_wp2
                                  repeat (go_quiet (fail); try go_wp2)
                                  go_ret
                                  exact ⟨by first | rfl | (simp [errW_none, errW_some] <;> rfl) | (simp only [← hji3]; first | rfl | (simp [errW_none, errW_some] <;> rfl)) | (simp [*, errW_none, errW_some] <;> rfl), by repeat (first | (with_reducible first | exact HB.out | apply below_alloc | apply pw_below_drewN | apply below_drew1) | exact HB.out)⟩
                              · rw [if_neg c38] at H
                                have c38b0 : (((rd_T67 t175 x12_3).f2) == ((rd_T68 t180 x12_3).f2)) = false := beq_eq_false_iff_ne.mpr c38
                                have c38b1 : (((rd_T67 t175 x12_3).f2) != ((rd_T68 t180 x12_3).f2)) = true := bne_iff_ne.mpr c38
                                obtain rfl := Option.some.inj H
                                obtain ⟨Ao44, co44, eo44⟩ := Kd.R_slice HO_6.out
                                subst eo44
                                have p186 : 0 ≤ (x12_3 : Int) := of_decide_eq_true (by first | (with_reducible assumption) | assumption)
                                have q186 : x12_3 < (t175.length : Int) := of_decide_eq_true (by first | (with_reducible assumption) | assumption)
                                obtain ⟨ad186, e186, hx186_0, hx186_1, hx186_2, hx186_3⟩ := at_T67 (Kd.R_reads' HO_6.out).2.2 x12_3 p186 q186
                                cases e186
                                replace p186 := eq_true p186
                                replace q186 := eq_true q186
                                obtain ⟨Ao45, co45, eo45⟩ := Kd.R_slice HO_9.out
                                subst eo45
                                have p187 : 0 ≤ (x12_3 : Int) := of_decide_eq_true (by first | (with_reducible assumption) | assumption)
                                have q187 : x12_3 < (t180.length : Int) := of_decide_eq_true (by first | (with_reducible assumption) | assumption)
                                obtain ⟨ad187, e187, hx187_0, hx187_1, hx187_2, hx187_3⟩ := at_T68 (Kd.R_reads' HO_9.out).2.2 x12_3 p187 q187
                                cases e187
                                replace p187 := eq_true p187
                                replace q187 := eq_true q187
                                have p188 : 0 ≤ (x12_3 : Int) := of_decide_eq_true (by first | (with_reducible assumption) | assumption)
                                have q188 : x12_3 < (t175.length : Int) := of_decide_eq_true (by first | (with_reducible assumption) | assumption)
                                obtain ⟨ad188, e188, hx188_0, hx188_1, hx188_2, hx188_3⟩ := at_T67 (Kd.R_reads' HO_6.out).2.2 x12_3 p188 q188
                                obtain rfl : ad186 = ad188 := (by injection e188)
                                replace p188 := eq_true p188
                                replace q188 := eq_true q188
                                have p189 : 0 ≤ (x12_3 : Int) := of_decide_eq_true (by first | (with_reducible assumption) | assumption)
                                have q189 : x12_3 < (t180.length : Int) := of_decide_eq_true (by first | (with_reducible assumption) | assumption)
                                obtain ⟨ad189, e189, hx189_0, hx189_1, hx189_2, hx189_3⟩ := at_T68 (Kd.R_reads' HO_9.out).2.2 x12_3 p189 q189
                                obtain rfl : ad187 = ad189 := (by injection e189)
                                replace p189 := eq_true p189
                                replace q189 := eq_true q189
                                have p190 : 0 ≤ (x12_3 : Int) := of_decide_eq_true (by first | (with_reducible assumption) | assumption)
                                have q190 : x12_3 < (t175.length : Int) := of_decide_eq_true (by first | (with_reducible assumption) | assumption)
                                obtain ⟨ad190, e190, hx190_0, hx190_1, hx190_2, hx190_3⟩ := at_T67 (Kd.R_reads' HO_6.out).2.2 x12_3 p190 q190
                                obtain rfl : ad186 = ad190 := (by injection e190)
                                replace p190 := eq_true p190
                                replace q190 := eq_true q190
                                have p191 : 0 ≤ (x12_3 : Int) := of_decide_eq_true (by first | (with_reducible assumption) | assumption)
                                have q191 : x12_3 < (t180.length : Int) := of_decide_eq_true (by first | (with_reducible assumption) | assumption)
                                obtain ⟨ad191, e191, hx191_0, hx191_1, hx191_2, hx191_3⟩ := at_T68 (Kd.R_reads' HO_9.out).2.2 x12_3 p191 q191
                                obtain rfl : ad187 = ad191 := (by injection e191)
                                replace p191 := eq_true p191
                                replace q191 := eq_true q191
                                go_wp2
                                repeat (go_quiet (fail); try go_wp2)
                                go_ret
                                exact ⟨by first | rfl | (simp [errW_none, errW_some] <;> rfl) | (simp only [← hji3]; first | rfl | (simp [errW_none, errW_some] <;> rfl)) | (simp [*, errW_none, errW_some] <;> rfl), by repeat (first | (with_reducible first | exact HB.out | apply below_alloc | apply pw_below_drewN | apply below_drew1) | exact HB.out)⟩
                            · rw [if_neg c37] at H
                              have c37b0 : (((rd_T67 t175 x12_3).f1).toList == ((rd_T68 t180 x12_3).f1).toList) = false := beq_eq_false_iff_ne.mpr c37
                              have c37b1 : (((rd_T67 t175 x12_3).f1).toList != ((rd_T68 t180 x12_3).f1).toList) = true := bne_iff_ne.mpr c37
                              obtain rfl := Option.some.inj H
                              obtain ⟨Ao46, co46, eo46⟩ := Kd.R_slice HO_6.out
                              subst eo46
                              have p186 : 0 ≤ (x12_3 : Int) := of_decide_eq_true (by first | (with_reducible assumption) | assumption)
                              have q186 : x12_3 < (t175.length : Int) := of_decide_eq_true (by first | (with_reducible assumption) | assumption)
                              obtain ⟨ad186, e186, hx186_0, hx186_1, hx186_2, hx186_3⟩ := at_T67 (Kd.R_reads' HO_6.out).2.2 x12_3 p186 q186
                              cases e186
                              replace p186 := eq_true p186
                              replace q186 := eq_true q186
                              obtain ⟨Ao47, co47, eo47⟩ := Kd.R_slice HO_9.out
                              subst eo47
                              have p187 : 0 ≤ (x12_3 : Int) := of_decide_eq_true (by first | (with_reducible assumption) | assumption)
                              have q187 : x12_3 < (t180.length : Int) := of_decide_eq_true (by first | (with_reducible assumption) | assumption)
                              obtain ⟨ad187, e187, hx187_0, hx187_1, hx187_2, hx187_3⟩ := at_T68 (Kd.R_reads' HO_9.out).2.2 x12_3 p187 q187
                              cases e187
                              replace p187 := eq_true p187
                              replace q187 := eq_true q187
                              have p188 : 0 ≤ (x12_3 : Int) := of_decide_eq_true (by first | (with_reducible assumption) | assumption)
                              have q188 : x12_3 < (t175.length : Int) := of_decide_eq_true (by first | (with_reducible assumption) | assumption)
                              obtain ⟨ad188, e188, hx188_0, hx188_1, hx188_2, hx188_3⟩ := at_T67 (Kd.R_reads' HO_6.out).2.2 x12_3 p188 q188
                              obtain rfl : ad186 = ad188 := (by injection e188)
                              replace p188 := eq_true p188
                              replace q188 := eq_true q188
                              have p189 : 0 ≤ (x12_3 : Int) := of_decide_eq_true (by first | (with_reducible assumption) | assumption)
                              have q189 : x12_3 < (t180.length : Int) := of_decide_eq_true (by first | (with_reducible assumption) | assumption)
                              obtain ⟨ad189, e189, hx189_0, hx189_1, hx189_2, hx189_3⟩ := at_T68 (Kd.R_reads' HO_9.out).2.2 x12_3 p189 q189
                              obtain rfl : ad187 = ad189 := (by injection e189)
                              replace p189 := eq_true p189
                              replace q189 := eq_true q189
                              go_wp2
                              repeat (go_quiet (fail); try go_wp2)
                              go_ret
                              exact ⟨by first | rfl | (simp [errW_none, errW_some] <;> rfl) | (simp only [← hji3]; first | rfl | (simp [errW_none, errW_some] <;> rfl)) | (simp [*, errW_none, errW_some] <;> rfl), by repeat (first | (with_reducible first | exact HB.out | apply below_alloc | apply pw_below_drewN | apply below_drew1) | exact HB.out)⟩
                          · rw [if_neg c36] at H
                            have c36b0 : (((rd_T67 t175 x12_3).f0) == ((rd_T68 t180 x12_3).f0)) = false := beq_eq_false_iff_ne.mpr c36
                            have c36b1 : (((rd_T67 t175 x12_3).f0) != ((rd_T68 t180 x12_3).f0)) = true := bne_iff_ne.mpr c36
                            obtain rfl := Option.some.inj H
                            obtain ⟨Ao48, co48, eo48⟩ := Kd.R_slice HO_6.out
                            subst eo48
                            have p186 : 0 ≤ (x12_3 : Int) := of_decide_eq_true (by first | (with_reducible assumption) | assumption)
                            have q186 : x12_3 < (t175.length : Int) := of_decide_eq_true (by first | (with_reducible assumption) | assumption)
                            obtain ⟨ad186, e186, hx186_0, hx186_1, hx186_2, hx186_3⟩ := at_T67 (Kd.R_reads' HO_6.out).2.2 x12_3 p186 q186
                            cases e186
                            replace p186 := eq_true p186
                            replace q186 := eq_true q186
                            obtain ⟨Ao49, co49, eo49⟩ := Kd.R_slice HO_9.out
                            subst eo49
                            have p187 : 0 ≤ (x12_3 : Int) := of_decide_eq_true (by first | (with_reducible assumption) | assumption)
                            have q187 : x12_3 < (t180.length : Int) := of_decide_eq_true (by first | (with_reducible assumption) | assumption)
                            obtain ⟨ad187, e187, hx187_0, hx187_1, hx187_2, hx187_3⟩ := at_T68 (Kd.R_reads' HO_9.out).2.2 x12_3 p187 q187
                            cases e187
                            replace p187 := eq_true p187
                            replace q187 := eq_true q187
                            go_wp2
                            repeat (go_quiet (fail); try go_wp2)
                            go_ret
                            exact ⟨by first | rfl | (simp [errW_none, errW_some] <;> rfl) | (simp only [← hji3]; first | rfl | (simp [errW_none, errW_some] <;> rfl)) | (simp [*, errW_none, errW_some] <;> rfl), by repeat (first | (with_reducible first | exact HB.out | apply below_alloc | apply pw_below_drewN | apply below_drew1) | exact HB.out)⟩
                        · rw [if_neg c35] at H
                          exact absurd H (by simp)
                      · rw [if_neg c34] at H
                        exact absurd H (by simp)
                    · rw [if_neg c33] at H
                      have c33b0 : decide (x12_3 < (t175.length : Int)) = false := decide_eq_false c33
                      clear c33
                      obtain rfl := Option.some.inj H
                      obtain ⟨Ao50, co50, eo50⟩ := Kd.R_slice HO_6.out
                      subst eo50
                      go_wp2
                      repeat (go_quiet (fail); try go_wp2)
                      go_ret
                      exact ⟨by first | rfl | (simp [errW_none, errW_some] <;> rfl) | (simp only [← hji3]; first | rfl | (simp [errW_none, errW_some] <;> rfl)) | (simp [*, errW_none, errW_some] <;> rfl), by repeat (first | (with_reducible first | exact HB.out | apply below_alloc | apply pw_below_drewN | apply below_drew1) | exact HB.out)⟩
    · rw [if_neg c5] at H
      exact absurd H (by simp)
  · rw [if_neg c4] at H
    exact absurd H (by simp)

/-- THE ONE PURE STATEMENT of jetsamlaw01_LexReads: yours. -/
def jetsamlaw01_LexReads.Pure : Prop := ∀ (a0 : ByteArray) (a1 : Int), a0.size ≤ 140737488351232 → (Lit.int .i64 a1).wf = true → ∃ k, jetsamlaw01_LexReads.f k a0 a1 = some true
theorem jetsamlaw01_LexReads.walk (P : jetsamlaw01_LexReads.Pure) (a0 : ByteArray) (a1 : Int) (w : World) (w0 : a0.size ≤ 140737488351232) (w1 : (Lit.int .i64 a1).wf = true) (hL : Aside0 (Laid w)) :
    Calls Tryd.prog 5 #[.string a0, .int .i64 a1] w fun e w' => e = .returned (.bool true) ∧ Below w.heap.size w w' := by
  obtain ⟨k, h⟩ := P a0 a1 w0 w1
  refine (jetsamlaw01_LexReads.calls k a0 a1 true w h (by first | exact hL | exact Laid.at hL (by repeat (first | (with_reducible first | exact HB.out | apply below_alloc | apply pw_below_drewN | apply below_drew1) | exact HB.out)))).mono ?_
  rintro e w' ⟨rfl, hd⟩
  exact ⟨rfl, hd⟩

-- NOT PRINTED: function 6 (jetsamlaw01_LexJoins)

end Go.Proofs.YtjcbedgpmjgcdaaDoor.PLex

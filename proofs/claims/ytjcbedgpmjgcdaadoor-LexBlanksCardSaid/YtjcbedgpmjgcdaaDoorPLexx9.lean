-- Written for this claim by a program of this session, which runs the kit's printer with contracts by hand put in. Lean checks it.
import Derived.Test.YtjcbedgpmjgcdaaDoorPLexx0
import Derived.Test.YtjcbedgpmjgcdaaDoorPLexx3
import Derived.Test.YtjcbedgpmjgcdaaDoorPLexx6
namespace Go.Proofs.YtjcbedgpmjgcdaaDoor.PLex
open Go.RowKit Go.Proofs.YtjcbedgpmjgcdaaDoor.Hand Go.Proofs.YtjcbedgpmjgcdaaDoorW.PrintWords Go.Proofs.YtjcbedgpmjgcdaaDoorW.PrintLast Go.Proofs.YtjcbedgpmjgcdaaDoorW.PrintMore
attribute [local go_sem] cell?_setCell_twice max2_int min2_int max_two min_two max_three min_three max_four min_four   -- for this text's walks alone
set_option linter.unusedVariables false
set_option linter.unusedSimpArgs false

/-! ### jetsamlaw01_LexBlanks: function 10 -/
mutual
def jetsamlaw01_LexBlanks.l0 : Nat → ByteArray → Int → ByteArray → Int → Option (Bool)
  | 0, _, _, _, _ => none
  | k + 1, x0, x5, x6, x7 => if x7 < x5 then (if x6.size + 2 ≤ 9223372036854775807 then (jetsamlaw01_LexBlanks.l0 k x0 x5 (x6 ++ (⟨#[32, 10]⟩ : ByteArray)) (wrap64 (x7 + 1))) else (none)) else ((lex_Lex.f k x0).bind fun bt249 => (if x6.size + x0.size ≤ 9223372036854775807 then (if (x6 ++ x0).size + x6.size ≤ 9223372036854775807 then ((lex_Lex.f k ((x6 ++ x0) ++ x6)).bind fun bt254 => ((jetsamlaw01_reads.f k).bind fun t259 => (if t259 = true then (if bt249.2.2 = bt254.2.2 then (if (bt249.1.length : Int) = (bt254.1.length : Int) then (if bt249.2.2 = 0 then (jetsamlaw01_LexBlanks.j1 k x5 bt249.1 bt254.1 false) else (if bt249.2.2 = 4 then (jetsamlaw01_LexBlanks.j1 k x5 bt249.1 bt254.1 false) else (jetsamlaw01_LexBlanks.j1 k x5 bt249.1 bt254.1 (bt254.2.1 != (wrap64 (bt249.2.1 + (wrap64 (2 * x5)))))))) else (jetsamlaw01_LexBlanks.j1 k x5 bt249.1 bt254.1 true)) else (jetsamlaw01_LexBlanks.j1 k x5 bt249.1 bt254.1 true)) else (jetsamlaw01_LexBlanks.j1 k x5 bt249.1 bt254.1 true)))) else (none)) else (none)))
def jetsamlaw01_LexBlanks.j1 : Nat → Int → List (S67) → List (S67) → Bool → Option (Bool)
  | 0, _, _, _, _ => none
  | k + 1, x5, x8, x11, x76 => if x76 = true then (some false) else (jetsamlaw01_LexBlanks.l1 k x5 x8 x11 0)
def jetsamlaw01_LexBlanks.l1 : Nat → Int → List (S67) → List (S67) → Int → Option (Bool)
  | 0, _, _, _, _ => none
  | k + 1, x5, x8, x11, x14 => if x14 < (x8.length : Int) then (if 0 ≤ x14 then (if x14 < (x11.length : Int) then (if ((rd_T67 x11 x14).f0) = ((rd_T67 x8 x14).f0) then (if ((rd_T67 x11 x14).f1).toList = ((rd_T67 x8 x14).f1).toList then (if ((rd_T67 x11 x14).f2) = ((rd_T67 x8 x14).f2) then (if ((rd_T67 x11 x14).f3) = (wrap64 (((rd_T67 x8 x14).f3) + (wrap64 (2 * x5)))) then (jetsamlaw01_LexBlanks.l1 k x5 x8 x11 (wrap64 (x14 + 1))) else (some false)) else (some false)) else (some false)) else (some false)) else (none)) else (none)) else (some true)
end
def jetsamlaw01_LexBlanks.f (k : Nat) (a0 : ByteArray) (a1 : Int) : Option (Bool) := if 0 ≤ (mn (a0.size : Int) 200) then (if (mn (a0.size : Int) 200) ≤ (a0.size : Int) then (jetsamlaw01_LexBlanks.l0 k (a0.extract 0 ((mn (a0.size : Int) 200) : Int).toNat) (wrap64 (Int.tmod (IntKind.u64.wrap (a1)) 9)) (⟨#[]⟩ : ByteArray) 0) else (none)) else (none)
theorem jetsamlaw01_LexBlanks.mono_l : ∀ k, (∀ y0 y1 y2 y3, LeO (jetsamlaw01_LexBlanks.l0 k y0 y1 y2 y3) (jetsamlaw01_LexBlanks.l0 (k + 1) y0 y1 y2 y3)) ∧ (∀ y0 y1 y2 y3, LeO (jetsamlaw01_LexBlanks.j1 k y0 y1 y2 y3) (jetsamlaw01_LexBlanks.j1 (k + 1) y0 y1 y2 y3)) ∧ (∀ y0 y1 y2 y3, LeO (jetsamlaw01_LexBlanks.l1 k y0 y1 y2 y3) (jetsamlaw01_LexBlanks.l1 (k + 1) y0 y1 y2 y3))
  | 0 => ⟨fun _ _ _ _ r h => by simp [jetsamlaw01_LexBlanks.l0] at h, fun _ _ _ _ r h => by simp [jetsamlaw01_LexBlanks.j1] at h, fun _ _ _ _ r h => by simp [jetsamlaw01_LexBlanks.l1] at h⟩
  | k + 1 => by
    obtain ⟨ih0, ih1, ih2⟩ := jetsamlaw01_LexBlanks.mono_l k
    refine ⟨?_, ?_, ?_⟩
    · intro y0 y1 y2 y3
      unfold jetsamlaw01_LexBlanks.l0
      repeat' first
      | (with_reducible exact ih0 _ _ _ _)
      | (with_reducible exact ih1 _ _ _ _)
      | (with_reducible exact ih2 _ _ _ _)
      | (with_reducible exact jetsamlaw01_reads.mono _)
      | (with_reducible exact lex_Lex.mono _ _)
      | (with_reducible exact LeO.refl _)
      | (with_reducible exact LeO.none _)
      | (with_reducible refine LeO.ite ?_ ?_)
      | (with_reducible refine LeO.bind ?_ (fun _ => ?_))
      | exact ih0 _ _ _ _
      | exact ih1 _ _ _ _
      | exact ih2 _ _ _ _
      | exact jetsamlaw01_reads.mono _
      | exact lex_Lex.mono _ _
      | exact LeO.none _
      | refine LeO.ite ?_ ?_
      | refine LeO.bind ?_ (fun _ => ?_)
    · intro y0 y1 y2 y3
      unfold jetsamlaw01_LexBlanks.j1
      repeat' first
      | (with_reducible exact ih0 _ _ _ _)
      | (with_reducible exact ih1 _ _ _ _)
      | (with_reducible exact ih2 _ _ _ _)
      | (with_reducible exact jetsamlaw01_reads.mono _)
      | (with_reducible exact lex_Lex.mono _ _)
      | (with_reducible exact LeO.refl _)
      | (with_reducible exact LeO.none _)
      | (with_reducible refine LeO.ite ?_ ?_)
      | (with_reducible refine LeO.bind ?_ (fun _ => ?_))
      | exact ih0 _ _ _ _
      | exact ih1 _ _ _ _
      | exact ih2 _ _ _ _
      | exact jetsamlaw01_reads.mono _
      | exact lex_Lex.mono _ _
      | exact LeO.none _
      | refine LeO.ite ?_ ?_
      | refine LeO.bind ?_ (fun _ => ?_)
    · intro y0 y1 y2 y3
      unfold jetsamlaw01_LexBlanks.l1
      repeat' first
      | (with_reducible exact ih0 _ _ _ _)
      | (with_reducible exact ih1 _ _ _ _)
      | (with_reducible exact ih2 _ _ _ _)
      | (with_reducible exact jetsamlaw01_reads.mono _)
      | (with_reducible exact lex_Lex.mono _ _)
      | (with_reducible exact LeO.refl _)
      | (with_reducible exact LeO.none _)
      | (with_reducible refine LeO.ite ?_ ?_)
      | (with_reducible refine LeO.bind ?_ (fun _ => ?_))
      | exact ih0 _ _ _ _
      | exact ih1 _ _ _ _
      | exact ih2 _ _ _ _
      | exact jetsamlaw01_reads.mono _
      | exact lex_Lex.mono _ _
      | exact LeO.none _
      | refine LeO.ite ?_ ?_
      | refine LeO.bind ?_ (fun _ => ?_)
theorem jetsamlaw01_LexBlanks.mono : ∀ a0 a1 k, LeO (jetsamlaw01_LexBlanks.f k a0 a1) (jetsamlaw01_LexBlanks.f (k + 1) a0 a1) := by
  intro a0 a1 k
  obtain ⟨ih0, ih1, ih2⟩ := jetsamlaw01_LexBlanks.mono_l k
  unfold jetsamlaw01_LexBlanks.f
  repeat' first
      | (with_reducible exact ih0 _ _ _ _)
      | (with_reducible exact ih1 _ _ _ _)
      | (with_reducible exact ih2 _ _ _ _)
      | (with_reducible exact jetsamlaw01_reads.mono _)
      | (with_reducible exact lex_Lex.mono _ _)
      | (with_reducible exact LeO.refl _)
      | (with_reducible exact LeO.none _)
      | (with_reducible refine LeO.ite ?_ ?_)
      | (with_reducible refine LeO.bind ?_ (fun _ => ?_))
      | exact ih0 _ _ _ _
      | exact ih1 _ _ _ _
      | exact ih2 _ _ _ _
      | exact jetsamlaw01_reads.mono _
      | exact lex_Lex.mono _ _
      | exact LeO.none _
      | refine LeO.ite ?_ ?_
      | refine LeO.bind ?_ (fun _ => ?_)
set_option maxHeartbeats 80000000 in
set_option maxRecDepth 100000 in
theorem jetsamlaw01_LexBlanks.calls (k : Nat) (a0 : ByteArray) (a1 : Int) (r : Bool) (w : World) (h : jetsamlaw01_LexBlanks.f k a0 a1 = some r) (hL : Aside0 (Laid w)) :
    Calls Tryd.prog 10 #[.string a0, .int .i64 a1] w fun e w' => e = .returned (.bool r) ∧ Below w.heap.size w w' := by
  have HB := Aside0.mk (Below.refl w.heap.size w)
  have H : (if 0 ≤ (mn (a0.size : Int) 200) then (if (mn (a0.size : Int) 200) ≤ (a0.size : Int) then (jetsamlaw01_LexBlanks.l0 k (a0.extract 0 ((mn (a0.size : Int) 200) : Int).toNat) (wrap64 (Int.tmod (IntKind.u64.wrap (a1)) 9)) (⟨#[]⟩ : ByteArray) 0) else (none)) else (none)) = some r := h
  clear h
  obtain ⟨ji3, hji3⟩ : ∃ j_ : Int, (mn (a0.size : Int) 200) = j_ := ⟨_, rfl⟩
  replace H : (if 0 ≤ (ji3) then (if (ji3) ≤ (a0.size : Int) then (jetsamlaw01_LexBlanks.l0 k (a0.extract 0 ((ji3) : Int).toNat) (wrap64 (Int.tmod (IntKind.u64.wrap (a1)) 9)) (⟨#[]⟩ : ByteArray) 0) else (none)) else (none)) = some r := by first | (rw [hji3] at H; exact H) | (simp only [hji3] at H ⊢; exact H)
  (try (have hji3h : ji3 ≤ 200 := by (rw [← hji3]; unfold mn; (repeat' split) <;> omega)))
  (try (have hji3g : ji3 ≤ 64 := by omega))
  (try (have hji3l : 0 ≤ ji3 := by (rw [← hji3]; unfold mn; (repeat' split) <;> omega)))
  (try (have hji3m : 0 ≤ ji3 := by omega))
  have hji3_ : (if 200 < (a0.size : Int) then 200 else (a0.size : Int)) = ji3 := hji3
  by_cases c4 : 0 ≤ (ji3)
  · rw [if_pos c4] at H
    have c4b0 := eq_true c4
    have c4b1 : decide (0 ≤ (ji3)) = true := decide_eq_true c4
    clear c4
    by_cases c5 : (ji3) ≤ (a0.size : Int)
    · rw [if_pos c5] at H
      have c5b0 := eq_true c5
      have c5b1 : decide ((ji3) ≤ (a0.size : Int)) = true := decide_eq_true c5
      clear c5
      have H' := Aside0.mk H
      clear H
      go_enter Tryd.func10, Tryd.ntmps10
      go_wp2
      repeat (go_quiet (fail); try go_wp2)
      go_loopg [6, 7] k (fun kq v6 v7 w' => ∃ (x6_1 : ByteArray) (x7_1 : Int), v6 = .string x6_1 ∧ v7 = .int .i64 x7_1 ∧ Aside0 (jetsamlaw01_LexBlanks.l0 kq (a0.extract 0 ((ji3) : Int).toNat) (wrap64 (Int.tmod (IntKind.u64.wrap (a1)) 9)) x6_1 x7_1 = some r) ∧ Aside0 (kq ≤ k) ∧ Aside0 (Below w.heap.size w w'))
      case atStart => exact ⟨((⟨#[]⟩ : ByteArray)), (0), (by first | rfl | (simp; done) | (simp [*]; done)), (by first | rfl | (simp; done) | (simp [*]; done)), H', ⟨Nat.le_refl _⟩, ⟨by repeat (first | (with_reducible first | exact HB.out | apply below_alloc | apply pw_below_drewN | apply below_drew1) | exact HB.out)⟩⟩
      case round =>
        clear H'
        try clear c1
        try clear p2
        try clear c4
        try clear c4b0
        try clear c4b1
        try clear c5
        try clear c5b0
        try clear c5b1
        obtain ⟨x6_1, x7_1, rfl, rfl, HA, HK1, HB⟩ := hrel
        cases gk with
        | zero => exact absurd HA.out (by simp [jetsamlaw01_LexBlanks.l0])
        | succ k1 =>
          have H := HA.out
          clear HA
          simp only [jetsamlaw01_LexBlanks.l0] at H
          by_cases c6 : x7_1 < (wrap64 (Int.tmod (IntKind.u64.wrap (a1)) 9))
          · rw [if_pos c6] at H
            have c6b0 : decide (x7_1 < (wrap64 (Int.tmod (IntKind.u64.wrap (a1)) 9))) = true := decide_eq_true c6
            clear c6
            by_cases c7 : x6_1.size + 2 ≤ 9223372036854775807
            · rw [if_pos c7] at H
              have c7b0 := eq_true c7
              have c7b1 : decide (x6_1.size + 2 ≤ 9223372036854775807) = true := decide_eq_true c7
              try have c7b2 : (9223372036854775807 < x6_1.size + 2) = False := eq_false (Nat.not_lt.2 c7)
              have H' := Aside0.mk H
              clear H
              go_wp2
              repeat (go_quiet (fail); try go_wp2)
              go_roundg k1
              case measure => have := HK1.out; omega
              case rel => exact ⟨(x6_1 ++ (⟨#[32, 10]⟩ : ByteArray)), (wrap64 (x7_1 + 1)), (by first | rfl | (simp; done) | (simp [*]; done)), (by first | rfl | (simp; done) | (simp [*]; done)), H', ⟨by have := HK1.out; omega⟩, ⟨by repeat (first | (with_reducible first | exact HB.out | apply below_alloc | apply pw_below_drewN | apply below_drew1) | exact HB.out)⟩⟩
            · rw [if_neg c7] at H
              exact absurd H (by simp)
          · rw [if_neg c6] at H
            have c6b0 : decide (x7_1 < (wrap64 (Int.tmod (IntKind.u64.wrap (a1)) 9))) = false := decide_eq_false c6
            clear c6
            replace H := Option.bind_eq_some_iff.mp H
            obtain ⟨⟨t249, t250, t251⟩, A80, H⟩ := H
            replace H : (if x6_1.size + (a0.extract 0 ((ji3) : Int).toNat).size ≤ 9223372036854775807 then (if (x6_1 ++ (a0.extract 0 ((ji3) : Int).toNat)).size + x6_1.size ≤ 9223372036854775807 then ((lex_Lex.f k1 ((x6_1 ++ (a0.extract 0 ((ji3) : Int).toNat)) ++ x6_1)).bind fun bt254 => ((jetsamlaw01_reads.f k1).bind fun t259 => (if t259 = true then (if t251 = bt254.2.2 then (if (t249.length : Int) = (bt254.1.length : Int) then (if t251 = 0 then (jetsamlaw01_LexBlanks.j1 k1 (wrap64 (Int.tmod (IntKind.u64.wrap (a1)) 9)) t249 bt254.1 false) else (if t251 = 4 then (jetsamlaw01_LexBlanks.j1 k1 (wrap64 (Int.tmod (IntKind.u64.wrap (a1)) 9)) t249 bt254.1 false) else (jetsamlaw01_LexBlanks.j1 k1 (wrap64 (Int.tmod (IntKind.u64.wrap (a1)) 9)) t249 bt254.1 (bt254.2.1 != (wrap64 (t250 + (wrap64 (2 * (wrap64 (Int.tmod (IntKind.u64.wrap (a1)) 9)))))))))) else (jetsamlaw01_LexBlanks.j1 k1 (wrap64 (Int.tmod (IntKind.u64.wrap (a1)) 9)) t249 bt254.1 true)) else (jetsamlaw01_LexBlanks.j1 k1 (wrap64 (Int.tmod (IntKind.u64.wrap (a1)) 9)) t249 bt254.1 true)) else (jetsamlaw01_LexBlanks.j1 k1 (wrap64 (Int.tmod (IntKind.u64.wrap (a1)) 9)) t249 bt254.1 true)))) else (none)) else (none)) = some r := H
            have A8 := Aside0.mk A80
            clear A80
            by_cases c9 : x6_1.size + (a0.extract 0 ((ji3) : Int).toNat).size ≤ 9223372036854775807
            · rw [if_pos c9] at H
              have c9b0 := eq_true c9
              have c9b1 : decide (x6_1.size + (a0.extract 0 ((ji3) : Int).toNat).size ≤ 9223372036854775807) = true := decide_eq_true c9
              try have c9b2 : (9223372036854775807 < x6_1.size + (a0.extract 0 ((ji3) : Int).toNat).size) = False := eq_false (Nat.not_lt.2 c9)
              by_cases c10 : (x6_1 ++ (a0.extract 0 ((ji3) : Int).toNat)).size + x6_1.size ≤ 9223372036854775807
              · rw [if_pos c10] at H
                have c10b0 := eq_true c10
                have c10b1 : decide ((x6_1 ++ (a0.extract 0 ((ji3) : Int).toNat)).size + x6_1.size ≤ 9223372036854775807) = true := decide_eq_true c10
                try have c10b2 : (9223372036854775807 < (x6_1 ++ (a0.extract 0 ((ji3) : Int).toNat)).size + x6_1.size) = False := eq_false (Nat.not_lt.2 c10)
                replace H := Option.bind_eq_some_iff.mp H
                obtain ⟨⟨t254, t255, t256⟩, A110, H⟩ := H
                replace H : ((jetsamlaw01_reads.f k1).bind fun t259 => (if t259 = true then (if t251 = t256 then (if (t249.length : Int) = (t254.length : Int) then (if t251 = 0 then (jetsamlaw01_LexBlanks.j1 k1 (wrap64 (Int.tmod (IntKind.u64.wrap (a1)) 9)) t249 t254 false) else (if t251 = 4 then (jetsamlaw01_LexBlanks.j1 k1 (wrap64 (Int.tmod (IntKind.u64.wrap (a1)) 9)) t249 t254 false) else (jetsamlaw01_LexBlanks.j1 k1 (wrap64 (Int.tmod (IntKind.u64.wrap (a1)) 9)) t249 t254 (t255 != (wrap64 (t250 + (wrap64 (2 * (wrap64 (Int.tmod (IntKind.u64.wrap (a1)) 9)))))))))) else (jetsamlaw01_LexBlanks.j1 k1 (wrap64 (Int.tmod (IntKind.u64.wrap (a1)) 9)) t249 t254 true)) else (jetsamlaw01_LexBlanks.j1 k1 (wrap64 (Int.tmod (IntKind.u64.wrap (a1)) 9)) t249 t254 true)) else (jetsamlaw01_LexBlanks.j1 k1 (wrap64 (Int.tmod (IntKind.u64.wrap (a1)) 9)) t249 t254 true))) = some r := H
                have A11 := Aside0.mk A110
                clear A110
                have HC12 := Aside0.mk H
                clear H
                go_upto_region 10 with (first | (go_at_call 22; (with_reducible refine (lex_Lex.calls k1 (a0.extract 0 ((ji3) : Int).toNat) t249 t250 t251 _ A8.out (by first | exact hL | exact Laid.at hL (by repeat (first | (with_reducible first | exact HB.out | apply below_alloc | apply pw_below_drewN | apply below_drew1) | exact HB.out)))).mono ?_); rintro e w13 ⟨v252, rfl, ho0, hb⟩; have n0_ := Aside0.mk (Kd.R_lower ho0 (below_size (by repeat (first | (with_reducible first | exact HB.out | apply below_alloc | apply pw_below_drewN | apply below_drew1) | exact HB.out)))); have n1_ := Aside0.mk (below_step (by repeat (first | (with_reducible first | exact HB.out | apply below_alloc | apply pw_below_drewN | apply below_drew1) | exact HB.out)) hb); clear HB; have HO253 := n0_; have HB := n1_; clear n0_ n1_; (try clear hb); (try clear hb2); (try clear hk); (try clear hi); (try clear ho0)) | (go_at_call 22; (with_reducible refine (lex_Lex.calls k1 ((x6_1 ++ (a0.extract 0 ((ji3) : Int).toNat)) ++ x6_1) t254 t255 t256 _ A11.out (by first | exact hL | exact Laid.at hL (by repeat (first | (with_reducible first | exact HB.out | apply below_alloc | apply pw_below_drewN | apply below_drew1) | exact HB.out)))).mono ?_); rintro e w14 ⟨v257, rfl, ho0, hb⟩; have n0_ := Aside0.mk (Kd.R_elder' (by (with_reducible repeat (first | apply Kd.R_alloc | apply Kd.R_drewN | apply Kd.R_drew)); exact HO253.out) (Kd.R_base ho0) hb); have n1_ := Aside0.mk (Kd.R_lower (Kd.R_new' ho0 (Kd.R_lt (by (with_reducible repeat (first | apply Kd.R_alloc | apply Kd.R_drewN | apply Kd.R_drew)); exact HO253.out))) (below_size (by repeat (first | (with_reducible first | exact HB.out | apply below_alloc | apply pw_below_drewN | apply below_drew1) | exact HB.out)))); have n2_ := Aside0.mk (below_step (by repeat (first | (with_reducible first | exact HB.out | apply below_alloc | apply pw_below_drewN | apply below_drew1) | exact HB.out)) hb); clear HO253; clear HB; have HO253 := n0_; have HO258 := n1_; have HB := n2_; clear n0_ n1_ n2_; (try clear hb); (try clear hb2); (try clear hk); (try clear hi); (try clear ho0)))
                repeat (go_quiet (first | (go_at_call 22; (with_reducible refine (lex_Lex.calls k1 (a0.extract 0 ((ji3) : Int).toNat) t249 t250 t251 _ A8.out (by first | exact hL | exact Laid.at hL (by repeat (first | (with_reducible first | exact HB.out | apply below_alloc | apply pw_below_drewN | apply below_drew1) | exact HB.out)))).mono ?_); rintro e w13 ⟨v252, rfl, ho0, hb⟩; have n0_ := Aside0.mk (Kd.R_lower ho0 (below_size (by repeat (first | (with_reducible first | exact HB.out | apply below_alloc | apply pw_below_drewN | apply below_drew1) | exact HB.out)))); have n1_ := Aside0.mk (below_step (by repeat (first | (with_reducible first | exact HB.out | apply below_alloc | apply pw_below_drewN | apply below_drew1) | exact HB.out)) hb); clear HB; have HO253 := n0_; have HB := n1_; clear n0_ n1_; (try clear hb); (try clear hb2); (try clear hk); (try clear hi); (try clear ho0)) | (go_at_call 22; (with_reducible refine (lex_Lex.calls k1 ((x6_1 ++ (a0.extract 0 ((ji3) : Int).toNat)) ++ x6_1) t254 t255 t256 _ A11.out (by first | exact hL | exact Laid.at hL (by repeat (first | (with_reducible first | exact HB.out | apply below_alloc | apply pw_below_drewN | apply below_drew1) | exact HB.out)))).mono ?_); rintro e w14 ⟨v257, rfl, ho0, hb⟩; have n0_ := Aside0.mk (Kd.R_elder' (by (with_reducible repeat (first | apply Kd.R_alloc | apply Kd.R_drewN | apply Kd.R_drew)); exact HO253.out) (Kd.R_base ho0) hb); have n1_ := Aside0.mk (Kd.R_lower (Kd.R_new' ho0 (Kd.R_lt (by (with_reducible repeat (first | apply Kd.R_alloc | apply Kd.R_drewN | apply Kd.R_drew)); exact HO253.out))) (below_size (by repeat (first | (with_reducible first | exact HB.out | apply below_alloc | apply pw_below_drewN | apply below_drew1) | exact HB.out)))); have n2_ := Aside0.mk (below_step (by repeat (first | (with_reducible first | exact HB.out | apply below_alloc | apply pw_below_drewN | apply below_drew1) | exact HB.out)) hb); clear HO253; clear HB; have HO253 := n0_; have HO258 := n1_; have HB := n2_; clear n0_ n1_ n2_; (try clear hb); (try clear hb2); (try clear hk); (try clear hi); (try clear ho0))); go_upto_region 10 with (first | (go_at_call 22; (with_reducible refine (lex_Lex.calls k1 (a0.extract 0 ((ji3) : Int).toNat) t249 t250 t251 _ A8.out (by first | exact hL | exact Laid.at hL (by repeat (first | (with_reducible first | exact HB.out | apply below_alloc | apply pw_below_drewN | apply below_drew1) | exact HB.out)))).mono ?_); rintro e w13 ⟨v252, rfl, ho0, hb⟩; have n0_ := Aside0.mk (Kd.R_lower ho0 (below_size (by repeat (first | (with_reducible first | exact HB.out | apply below_alloc | apply pw_below_drewN | apply below_drew1) | exact HB.out)))); have n1_ := Aside0.mk (below_step (by repeat (first | (with_reducible first | exact HB.out | apply below_alloc | apply pw_below_drewN | apply below_drew1) | exact HB.out)) hb); clear HB; have HO253 := n0_; have HB := n1_; clear n0_ n1_; (try clear hb); (try clear hb2); (try clear hk); (try clear hi); (try clear ho0)) | (go_at_call 22; (with_reducible refine (lex_Lex.calls k1 ((x6_1 ++ (a0.extract 0 ((ji3) : Int).toNat)) ++ x6_1) t254 t255 t256 _ A11.out (by first | exact hL | exact Laid.at hL (by repeat (first | (with_reducible first | exact HB.out | apply below_alloc | apply pw_below_drewN | apply below_drew1) | exact HB.out)))).mono ?_); rintro e w14 ⟨v257, rfl, ho0, hb⟩; have n0_ := Aside0.mk (Kd.R_elder' (by (with_reducible repeat (first | apply Kd.R_alloc | apply Kd.R_drewN | apply Kd.R_drew)); exact HO253.out) (Kd.R_base ho0) hb); have n1_ := Aside0.mk (Kd.R_lower (Kd.R_new' ho0 (Kd.R_lt (by (with_reducible repeat (first | apply Kd.R_alloc | apply Kd.R_drewN | apply Kd.R_drew)); exact HO253.out))) (below_size (by repeat (first | (with_reducible first | exact HB.out | apply below_alloc | apply pw_below_drewN | apply below_drew1) | exact HB.out)))); have n2_ := Aside0.mk (below_step (by repeat (first | (with_reducible first | exact HB.out | apply below_alloc | apply pw_below_drewN | apply below_drew1) | exact HB.out)) hb); clear HO253; clear HB; have HO253 := n0_; have HO258 := n1_; have HB := n2_; clear n0_ n1_ n2_; (try clear hb); (try clear hb2); (try clear hk); (try clear hi); (try clear ho0))))
                (try simp only [Act.put, List.setIfInBounds_toArray, List.set_cons_zero, List.set_cons_succ])
                go_cut [76] (fun v76 wc => ∃ (kq : Nat) (x76_11 : Bool), v76 = .bool x76_11 ∧ Aside0 (jetsamlaw01_LexBlanks.j1 kq (wrap64 (Int.tmod (IntKind.u64.wrap (a1)) 9)) t249 t254 x76_11 = some r) ∧ Aside0 (kq ≤ k1) ∧ Aside0 (Kd.R k67 67 wc w.heap.size (fun k_ => some k_ ≠ (v257 : Value).ownBlock) v252 t249) ∧ Aside0 (Kd.R k67 67 wc w.heap.size (fun k_ => some k_ ≠ (v252 : Value).ownBlock) v257 t254) ∧ Aside0 (Below w.heap.size w wc))
                case first =>
                  have H := HC12.out
                  clear HC12
                  replace H := Option.bind_eq_some_iff.mp H
                  obtain ⟨t259, A150, H⟩ := H
                  replace H : (if t259 = true then (if t251 = t256 then (if (t249.length : Int) = (t254.length : Int) then (if t251 = 0 then (jetsamlaw01_LexBlanks.j1 k1 (wrap64 (Int.tmod (IntKind.u64.wrap (a1)) 9)) t249 t254 false) else (if t251 = 4 then (jetsamlaw01_LexBlanks.j1 k1 (wrap64 (Int.tmod (IntKind.u64.wrap (a1)) 9)) t249 t254 false) else (jetsamlaw01_LexBlanks.j1 k1 (wrap64 (Int.tmod (IntKind.u64.wrap (a1)) 9)) t249 t254 (t255 != (wrap64 (t250 + (wrap64 (2 * (wrap64 (Int.tmod (IntKind.u64.wrap (a1)) 9)))))))))) else (jetsamlaw01_LexBlanks.j1 k1 (wrap64 (Int.tmod (IntKind.u64.wrap (a1)) 9)) t249 t254 true)) else (jetsamlaw01_LexBlanks.j1 k1 (wrap64 (Int.tmod (IntKind.u64.wrap (a1)) 9)) t249 t254 true)) else (jetsamlaw01_LexBlanks.j1 k1 (wrap64 (Int.tmod (IntKind.u64.wrap (a1)) 9)) t249 t254 true)) = some r := H
                  have A15 := Aside0.mk A150
                  clear A150
                  by_cases c16 : t259 = true
                  · subst c16
                    have H1 : (if t251 = t256 then (if (t249.length : Int) = (t254.length : Int) then (if t251 = 0 then (jetsamlaw01_LexBlanks.j1 k1 (wrap64 (Int.tmod (IntKind.u64.wrap (a1)) 9)) t249 t254 false) else (if t251 = 4 then (jetsamlaw01_LexBlanks.j1 k1 (wrap64 (Int.tmod (IntKind.u64.wrap (a1)) 9)) t249 t254 false) else (jetsamlaw01_LexBlanks.j1 k1 (wrap64 (Int.tmod (IntKind.u64.wrap (a1)) 9)) t249 t254 (t255 != (wrap64 (t250 + (wrap64 (2 * (wrap64 (Int.tmod (IntKind.u64.wrap (a1)) 9)))))))))) else (jetsamlaw01_LexBlanks.j1 k1 (wrap64 (Int.tmod (IntKind.u64.wrap (a1)) 9)) t249 t254 true)) else (jetsamlaw01_LexBlanks.j1 k1 (wrap64 (Int.tmod (IntKind.u64.wrap (a1)) 9)) t249 t254 true)) = some r := by rw [if_pos rfl] at H; exact H
                    clear H
                    have H := H1
                    clear H1
                    by_cases c17 : t251 = t256
                    · rw [if_pos c17] at H
                      have c17b0 : (t251 == t256) = true := beq_iff_eq.mpr c17
                      have c17b1 : (t251 != t256) = false := bne_eq_false_iff_eq.mpr c17
                      clear c17
                      (first | rw [c17b0] | (simp only [i64_w, i32_w]; rw [c17b0]) | skip)
                      by_cases c18 : (t249.length : Int) = (t254.length : Int)
                      · rw [if_pos c18] at H
                        have c18b0 : ((t249.length : Int) == (t254.length : Int)) = true := beq_iff_eq.mpr c18
                        have c18b1 : ((t249.length : Int) != (t254.length : Int)) = false := bne_eq_false_iff_eq.mpr c18
                        have c18b2 : (t249.length == t254.length) = true := by first | simpa using c18 | (simp at c18 ⊢; omega)
                        clear c18
                        by_cases c19 : t251 = 0
                        · rw [if_pos c19] at H
                          have c19b0 : (t251 == 0) = true := beq_iff_eq.mpr c19
                          have c19b1 : (t251 != 0) = false := bne_eq_false_iff_eq.mpr c19
                          clear c19
                          have H' := Aside0.mk H
                          clear H
                          go_wp2_with (first | (go_at_call 24; (with_reducible refine (jetsamlaw01_reads.calls k1  true _ A15.out (by first | exact hL | exact Laid.at hL (by repeat (first | (with_reducible first | exact HB.out | apply below_alloc | apply pw_below_drewN | apply below_drew1) | exact HB.out)))).mono ?_); rintro e w20 ⟨rfl, hb⟩; have n0_ := Aside0.mk (Kd.R_below (by (with_reducible repeat (first | apply Kd.R_alloc | apply Kd.R_drewN | apply Kd.R_drew)); exact HO253.out) hb); have n1_ := Aside0.mk (Kd.R_below (by (with_reducible repeat (first | apply Kd.R_alloc | apply Kd.R_drewN | apply Kd.R_drew)); exact HO258.out) hb); have n2_ := Aside0.mk (below_step (by repeat (first | (with_reducible first | exact HB.out | apply below_alloc | apply pw_below_drewN | apply below_drew1) | exact HB.out)) hb); clear HO253; clear HO258; clear HB; have HO253 := n0_; have HO258 := n1_; have HB := n2_; clear n0_ n1_ n2_; (try clear hb); (try clear hb2); (try clear hk); (try clear hi); obtain ⟨Ao21, co21, eo21⟩ := Kd.R_slice HO253.out; subst eo21; obtain ⟨Ao22, co22, eo22⟩ := Kd.R_slice HO258.out; subst eo22))
                          repeat (go_quiet (first | (go_at_call 24; (with_reducible refine (jetsamlaw01_reads.calls k1  true _ A15.out (by first | exact hL | exact Laid.at hL (by repeat (first | (with_reducible first | exact HB.out | apply below_alloc | apply pw_below_drewN | apply below_drew1) | exact HB.out)))).mono ?_); rintro e w20 ⟨rfl, hb⟩; have n0_ := Aside0.mk (Kd.R_below (by (with_reducible repeat (first | apply Kd.R_alloc | apply Kd.R_drewN | apply Kd.R_drew)); exact HO253.out) hb); have n1_ := Aside0.mk (Kd.R_below (by (with_reducible repeat (first | apply Kd.R_alloc | apply Kd.R_drewN | apply Kd.R_drew)); exact HO258.out) hb); have n2_ := Aside0.mk (below_step (by repeat (first | (with_reducible first | exact HB.out | apply below_alloc | apply pw_below_drewN | apply below_drew1) | exact HB.out)) hb); clear HO253; clear HO258; clear HB; have HO253 := n0_; have HO258 := n1_; have HB := n2_; clear n0_ n1_ n2_; (try clear hb); (try clear hb2); (try clear hk); (try clear hi); obtain ⟨Ao21, co21, eo21⟩ := Kd.R_slice HO253.out; subst eo21; obtain ⟨Ao22, co22, eo22⟩ := Kd.R_slice HO258.out; subst eo22)); try go_wp2_with (first | (go_at_call 24; (with_reducible refine (jetsamlaw01_reads.calls k1  true _ A15.out (by first | exact hL | exact Laid.at hL (by repeat (first | (with_reducible first | exact HB.out | apply below_alloc | apply pw_below_drewN | apply below_drew1) | exact HB.out)))).mono ?_); rintro e w20 ⟨rfl, hb⟩; have n0_ := Aside0.mk (Kd.R_below (by (with_reducible repeat (first | apply Kd.R_alloc | apply Kd.R_drewN | apply Kd.R_drew)); exact HO253.out) hb); have n1_ := Aside0.mk (Kd.R_below (by (with_reducible repeat (first | apply Kd.R_alloc | apply Kd.R_drewN | apply Kd.R_drew)); exact HO258.out) hb); have n2_ := Aside0.mk (below_step (by repeat (first | (with_reducible first | exact HB.out | apply below_alloc | apply pw_below_drewN | apply below_drew1) | exact HB.out)) hb); clear HO253; clear HO258; clear HB; have HO253 := n0_; have HO258 := n1_; have HB := n2_; clear n0_ n1_ n2_; (try clear hb); (try clear hb2); (try clear hk); (try clear hi); obtain ⟨Ao21, co21, eo21⟩ := Kd.R_slice HO253.out; subst eo21; obtain ⟨Ao22, co22, eo22⟩ := Kd.R_slice HO258.out; subst eo22)))
                          go_meet
                          case rel => exact ⟨_, (false), (by first | rfl | (simp; done) | (simp [*]; done)), H', ⟨by have := HK1.out; first | omega | exact Nat.le_refl _⟩, ⟨by (with_reducible repeat (first | apply Kd.R_alloc | apply Kd.R_drewN | apply Kd.R_drew)); exact Kd.R_mono HO253.out (fun _ hk => hk.2)⟩, ⟨by (with_reducible repeat (first | apply Kd.R_alloc | apply Kd.R_drewN | apply Kd.R_drew)); exact Kd.R_mono HO258.out (fun _ hk => hk.2)⟩, ⟨by repeat (first | (with_reducible first | exact HB.out | apply below_alloc | apply pw_below_drewN | apply below_drew1) | exact HB.out)⟩⟩
                        · rw [if_neg c19] at H
                          have c19b0 : (t251 == 0) = false := beq_eq_false_iff_ne.mpr c19
                          have c19b1 : (t251 != 0) = true := bne_iff_ne.mpr c19
                          by_cases c23 : t251 = 4
                          · rw [if_pos c23] at H
                            have c23b0 : (t251 == 4) = true := beq_iff_eq.mpr c23
                            have c23b1 : (t251 != 4) = false := bne_eq_false_iff_eq.mpr c23
                            clear c23
                            have H' := Aside0.mk H
                            clear H
                            go_wp2_with (first | (go_at_call 24; (with_reducible refine (jetsamlaw01_reads.calls k1  true _ A15.out (by first | exact hL | exact Laid.at hL (by repeat (first | (with_reducible first | exact HB.out | apply below_alloc | apply pw_below_drewN | apply below_drew1) | exact HB.out)))).mono ?_); rintro e w24 ⟨rfl, hb⟩; have n0_ := Aside0.mk (Kd.R_below (by (with_reducible repeat (first | apply Kd.R_alloc | apply Kd.R_drewN | apply Kd.R_drew)); exact HO253.out) hb); have n1_ := Aside0.mk (Kd.R_below (by (with_reducible repeat (first | apply Kd.R_alloc | apply Kd.R_drewN | apply Kd.R_drew)); exact HO258.out) hb); have n2_ := Aside0.mk (below_step (by repeat (first | (with_reducible first | exact HB.out | apply below_alloc | apply pw_below_drewN | apply below_drew1) | exact HB.out)) hb); clear HO253; clear HO258; clear HB; have HO253 := n0_; have HO258 := n1_; have HB := n2_; clear n0_ n1_ n2_; (try clear hb); (try clear hb2); (try clear hk); (try clear hi); obtain ⟨Ao25, co25, eo25⟩ := Kd.R_slice HO253.out; subst eo25; obtain ⟨Ao26, co26, eo26⟩ := Kd.R_slice HO258.out; subst eo26))
                            repeat (go_quiet (first | (go_at_call 24; (with_reducible refine (jetsamlaw01_reads.calls k1  true _ A15.out (by first | exact hL | exact Laid.at hL (by repeat (first | (with_reducible first | exact HB.out | apply below_alloc | apply pw_below_drewN | apply below_drew1) | exact HB.out)))).mono ?_); rintro e w24 ⟨rfl, hb⟩; have n0_ := Aside0.mk (Kd.R_below (by (with_reducible repeat (first | apply Kd.R_alloc | apply Kd.R_drewN | apply Kd.R_drew)); exact HO253.out) hb); have n1_ := Aside0.mk (Kd.R_below (by (with_reducible repeat (first | apply Kd.R_alloc | apply Kd.R_drewN | apply Kd.R_drew)); exact HO258.out) hb); have n2_ := Aside0.mk (below_step (by repeat (first | (with_reducible first | exact HB.out | apply below_alloc | apply pw_below_drewN | apply below_drew1) | exact HB.out)) hb); clear HO253; clear HO258; clear HB; have HO253 := n0_; have HO258 := n1_; have HB := n2_; clear n0_ n1_ n2_; (try clear hb); (try clear hb2); (try clear hk); (try clear hi); obtain ⟨Ao25, co25, eo25⟩ := Kd.R_slice HO253.out; subst eo25; obtain ⟨Ao26, co26, eo26⟩ := Kd.R_slice HO258.out; subst eo26)); try go_wp2_with (first | (go_at_call 24; (with_reducible refine (jetsamlaw01_reads.calls k1  true _ A15.out (by first | exact hL | exact Laid.at hL (by repeat (first | (with_reducible first | exact HB.out | apply below_alloc | apply pw_below_drewN | apply below_drew1) | exact HB.out)))).mono ?_); rintro e w24 ⟨rfl, hb⟩; have n0_ := Aside0.mk (Kd.R_below (by (with_reducible repeat (first | apply Kd.R_alloc | apply Kd.R_drewN | apply Kd.R_drew)); exact HO253.out) hb); have n1_ := Aside0.mk (Kd.R_below (by (with_reducible repeat (first | apply Kd.R_alloc | apply Kd.R_drewN | apply Kd.R_drew)); exact HO258.out) hb); have n2_ := Aside0.mk (below_step (by repeat (first | (with_reducible first | exact HB.out | apply below_alloc | apply pw_below_drewN | apply below_drew1) | exact HB.out)) hb); clear HO253; clear HO258; clear HB; have HO253 := n0_; have HO258 := n1_; have HB := n2_; clear n0_ n1_ n2_; (try clear hb); (try clear hb2); (try clear hk); (try clear hi); obtain ⟨Ao25, co25, eo25⟩ := Kd.R_slice HO253.out; subst eo25; obtain ⟨Ao26, co26, eo26⟩ := Kd.R_slice HO258.out; subst eo26)))
                            go_meet
                            case rel => exact ⟨_, (false), (by first | rfl | (simp; done) | (simp [*]; done)), H', ⟨by have := HK1.out; first | omega | exact Nat.le_refl _⟩, ⟨by (with_reducible repeat (first | apply Kd.R_alloc | apply Kd.R_drewN | apply Kd.R_drew)); exact Kd.R_mono HO253.out (fun _ hk => hk.2)⟩, ⟨by (with_reducible repeat (first | apply Kd.R_alloc | apply Kd.R_drewN | apply Kd.R_drew)); exact Kd.R_mono HO258.out (fun _ hk => hk.2)⟩, ⟨by repeat (first | (with_reducible first | exact HB.out | apply below_alloc | apply pw_below_drewN | apply below_drew1) | exact HB.out)⟩⟩
                          · rw [if_neg c23] at H
                            have c23b0 : (t251 == 4) = false := beq_eq_false_iff_ne.mpr c23
                            have c23b1 : (t251 != 4) = true := bne_iff_ne.mpr c23
                            have H' := Aside0.mk H
                            clear H
                            go_wp2_with (first | (go_at_call 24; (with_reducible refine (jetsamlaw01_reads.calls k1  true _ A15.out (by first | exact hL | exact Laid.at hL (by repeat (first | (with_reducible first | exact HB.out | apply below_alloc | apply pw_below_drewN | apply below_drew1) | exact HB.out)))).mono ?_); rintro e w27 ⟨rfl, hb⟩; have n0_ := Aside0.mk (Kd.R_below (by (with_reducible repeat (first | apply Kd.R_alloc | apply Kd.R_drewN | apply Kd.R_drew)); exact HO253.out) hb); have n1_ := Aside0.mk (Kd.R_below (by (with_reducible repeat (first | apply Kd.R_alloc | apply Kd.R_drewN | apply Kd.R_drew)); exact HO258.out) hb); have n2_ := Aside0.mk (below_step (by repeat (first | (with_reducible first | exact HB.out | apply below_alloc | apply pw_below_drewN | apply below_drew1) | exact HB.out)) hb); clear HO253; clear HO258; clear HB; have HO253 := n0_; have HO258 := n1_; have HB := n2_; clear n0_ n1_ n2_; (try clear hb); (try clear hb2); (try clear hk); (try clear hi); obtain ⟨Ao28, co28, eo28⟩ := Kd.R_slice HO253.out; subst eo28; obtain ⟨Ao29, co29, eo29⟩ := Kd.R_slice HO258.out; subst eo29))
                            repeat (go_quiet (first | (go_at_call 24; (with_reducible refine (jetsamlaw01_reads.calls k1  true _ A15.out (by first | exact hL | exact Laid.at hL (by repeat (first | (with_reducible first | exact HB.out | apply below_alloc | apply pw_below_drewN | apply below_drew1) | exact HB.out)))).mono ?_); rintro e w27 ⟨rfl, hb⟩; have n0_ := Aside0.mk (Kd.R_below (by (with_reducible repeat (first | apply Kd.R_alloc | apply Kd.R_drewN | apply Kd.R_drew)); exact HO253.out) hb); have n1_ := Aside0.mk (Kd.R_below (by (with_reducible repeat (first | apply Kd.R_alloc | apply Kd.R_drewN | apply Kd.R_drew)); exact HO258.out) hb); have n2_ := Aside0.mk (below_step (by repeat (first | (with_reducible first | exact HB.out | apply below_alloc | apply pw_below_drewN | apply below_drew1) | exact HB.out)) hb); clear HO253; clear HO258; clear HB; have HO253 := n0_; have HO258 := n1_; have HB := n2_; clear n0_ n1_ n2_; (try clear hb); (try clear hb2); (try clear hk); (try clear hi); obtain ⟨Ao28, co28, eo28⟩ := Kd.R_slice HO253.out; subst eo28; obtain ⟨Ao29, co29, eo29⟩ := Kd.R_slice HO258.out; subst eo29)); try go_wp2_with (first | (go_at_call 24; (with_reducible refine (jetsamlaw01_reads.calls k1  true _ A15.out (by first | exact hL | exact Laid.at hL (by repeat (first | (with_reducible first | exact HB.out | apply below_alloc | apply pw_below_drewN | apply below_drew1) | exact HB.out)))).mono ?_); rintro e w27 ⟨rfl, hb⟩; have n0_ := Aside0.mk (Kd.R_below (by (with_reducible repeat (first | apply Kd.R_alloc | apply Kd.R_drewN | apply Kd.R_drew)); exact HO253.out) hb); have n1_ := Aside0.mk (Kd.R_below (by (with_reducible repeat (first | apply Kd.R_alloc | apply Kd.R_drewN | apply Kd.R_drew)); exact HO258.out) hb); have n2_ := Aside0.mk (below_step (by repeat (first | (with_reducible first | exact HB.out | apply below_alloc | apply pw_below_drewN | apply below_drew1) | exact HB.out)) hb); clear HO253; clear HO258; clear HB; have HO253 := n0_; have HO258 := n1_; have HB := n2_; clear n0_ n1_ n2_; (try clear hb); (try clear hb2); (try clear hk); (try clear hi); obtain ⟨Ao28, co28, eo28⟩ := Kd.R_slice HO253.out; subst eo28; obtain ⟨Ao29, co29, eo29⟩ := Kd.R_slice HO258.out; subst eo29)))
                            go_meet
                            case rel => exact ⟨_, ((t255 != (wrap64 (t250 + (wrap64 (2 * (wrap64 (Int.tmod (IntKind.u64.wrap (a1)) 9)))))))), (by first | rfl | (simp; done) | (simp [*]; done)), H', ⟨by have := HK1.out; first | omega | exact Nat.le_refl _⟩, ⟨by (with_reducible repeat (first | apply Kd.R_alloc | apply Kd.R_drewN | apply Kd.R_drew)); exact Kd.R_mono HO253.out (fun _ hk => hk.2)⟩, ⟨by (with_reducible repeat (first | apply Kd.R_alloc | apply Kd.R_drewN | apply Kd.R_drew)); exact Kd.R_mono HO258.out (fun _ hk => hk.2)⟩, ⟨by repeat (first | (with_reducible first | exact HB.out | apply below_alloc | apply pw_below_drewN | apply below_drew1) | exact HB.out)⟩⟩
                      · rw [if_neg c18] at H
                        have c18b0 : ((t249.length : Int) == (t254.length : Int)) = false := beq_eq_false_iff_ne.mpr c18
                        have c18b1 : ((t249.length : Int) != (t254.length : Int)) = true := bne_iff_ne.mpr c18
                        have c18b2 : (t249.length == t254.length) = false := by first | simpa using c18 | (simp at c18 ⊢; omega)
                        have H' := Aside0.mk H
                        clear H
                        go_wp2_with (first | (go_at_call 24; (with_reducible refine (jetsamlaw01_reads.calls k1  true _ A15.out (by first | exact hL | exact Laid.at hL (by repeat (first | (with_reducible first | exact HB.out | apply below_alloc | apply pw_below_drewN | apply below_drew1) | exact HB.out)))).mono ?_); rintro e w30 ⟨rfl, hb⟩; have n0_ := Aside0.mk (Kd.R_below (by (with_reducible repeat (first | apply Kd.R_alloc | apply Kd.R_drewN | apply Kd.R_drew)); exact HO253.out) hb); have n1_ := Aside0.mk (Kd.R_below (by (with_reducible repeat (first | apply Kd.R_alloc | apply Kd.R_drewN | apply Kd.R_drew)); exact HO258.out) hb); have n2_ := Aside0.mk (below_step (by repeat (first | (with_reducible first | exact HB.out | apply below_alloc | apply pw_below_drewN | apply below_drew1) | exact HB.out)) hb); clear HO253; clear HO258; clear HB; have HO253 := n0_; have HO258 := n1_; have HB := n2_; clear n0_ n1_ n2_; (try clear hb); (try clear hb2); (try clear hk); (try clear hi); obtain ⟨Ao31, co31, eo31⟩ := Kd.R_slice HO253.out; subst eo31; obtain ⟨Ao32, co32, eo32⟩ := Kd.R_slice HO258.out; subst eo32))
                        repeat (go_quiet (first | (go_at_call 24; (with_reducible refine (jetsamlaw01_reads.calls k1  true _ A15.out (by first | exact hL | exact Laid.at hL (by repeat (first | (with_reducible first | exact HB.out | apply below_alloc | apply pw_below_drewN | apply below_drew1) | exact HB.out)))).mono ?_); rintro e w30 ⟨rfl, hb⟩; have n0_ := Aside0.mk (Kd.R_below (by (with_reducible repeat (first | apply Kd.R_alloc | apply Kd.R_drewN | apply Kd.R_drew)); exact HO253.out) hb); have n1_ := Aside0.mk (Kd.R_below (by (with_reducible repeat (first | apply Kd.R_alloc | apply Kd.R_drewN | apply Kd.R_drew)); exact HO258.out) hb); have n2_ := Aside0.mk (below_step (by repeat (first | (with_reducible first | exact HB.out | apply below_alloc | apply pw_below_drewN | apply below_drew1) | exact HB.out)) hb); clear HO253; clear HO258; clear HB; have HO253 := n0_; have HO258 := n1_; have HB := n2_; clear n0_ n1_ n2_; (try clear hb); (try clear hb2); (try clear hk); (try clear hi); obtain ⟨Ao31, co31, eo31⟩ := Kd.R_slice HO253.out; subst eo31; obtain ⟨Ao32, co32, eo32⟩ := Kd.R_slice HO258.out; subst eo32)); try go_wp2_with (first | (go_at_call 24; (with_reducible refine (jetsamlaw01_reads.calls k1  true _ A15.out (by first | exact hL | exact Laid.at hL (by repeat (first | (with_reducible first | exact HB.out | apply below_alloc | apply pw_below_drewN | apply below_drew1) | exact HB.out)))).mono ?_); rintro e w30 ⟨rfl, hb⟩; have n0_ := Aside0.mk (Kd.R_below (by (with_reducible repeat (first | apply Kd.R_alloc | apply Kd.R_drewN | apply Kd.R_drew)); exact HO253.out) hb); have n1_ := Aside0.mk (Kd.R_below (by (with_reducible repeat (first | apply Kd.R_alloc | apply Kd.R_drewN | apply Kd.R_drew)); exact HO258.out) hb); have n2_ := Aside0.mk (below_step (by repeat (first | (with_reducible first | exact HB.out | apply below_alloc | apply pw_below_drewN | apply below_drew1) | exact HB.out)) hb); clear HO253; clear HO258; clear HB; have HO253 := n0_; have HO258 := n1_; have HB := n2_; clear n0_ n1_ n2_; (try clear hb); (try clear hb2); (try clear hk); (try clear hi); obtain ⟨Ao31, co31, eo31⟩ := Kd.R_slice HO253.out; subst eo31; obtain ⟨Ao32, co32, eo32⟩ := Kd.R_slice HO258.out; subst eo32)))
                        go_meet
                        case rel => exact ⟨_, (true), (by first | rfl | (simp; done) | (simp [*]; done)), H', ⟨by have := HK1.out; first | omega | exact Nat.le_refl _⟩, ⟨by (with_reducible repeat (first | apply Kd.R_alloc | apply Kd.R_drewN | apply Kd.R_drew)); exact Kd.R_mono HO253.out (fun _ hk => hk.2)⟩, ⟨by (with_reducible repeat (first | apply Kd.R_alloc | apply Kd.R_drewN | apply Kd.R_drew)); exact Kd.R_mono HO258.out (fun _ hk => hk.2)⟩, ⟨by repeat (first | (with_reducible first | exact HB.out | apply below_alloc | apply pw_below_drewN | apply below_drew1) | exact HB.out)⟩⟩
                    · rw [if_neg c17] at H
                      have c17b0 : (t251 == t256) = false := beq_eq_false_iff_ne.mpr c17
                      have c17b1 : (t251 != t256) = true := bne_iff_ne.mpr c17
                      (first | rw [c17b0] | (simp only [i64_w, i32_w]; rw [c17b0]) | skip)
                      have H' := Aside0.mk H
                      clear H
                      go_wp2_with (first | (go_at_call 24; (with_reducible refine (jetsamlaw01_reads.calls k1  true _ A15.out (by first | exact hL | exact Laid.at hL (by repeat (first | (with_reducible first | exact HB.out | apply below_alloc | apply pw_below_drewN | apply below_drew1) | exact HB.out)))).mono ?_); rintro e w33 ⟨rfl, hb⟩; have n0_ := Aside0.mk (Kd.R_below (by (with_reducible repeat (first | apply Kd.R_alloc | apply Kd.R_drewN | apply Kd.R_drew)); exact HO253.out) hb); have n1_ := Aside0.mk (Kd.R_below (by (with_reducible repeat (first | apply Kd.R_alloc | apply Kd.R_drewN | apply Kd.R_drew)); exact HO258.out) hb); have n2_ := Aside0.mk (below_step (by repeat (first | (with_reducible first | exact HB.out | apply below_alloc | apply pw_below_drewN | apply below_drew1) | exact HB.out)) hb); clear HO253; clear HO258; clear HB; have HO253 := n0_; have HO258 := n1_; have HB := n2_; clear n0_ n1_ n2_; (try clear hb); (try clear hb2); (try clear hk); (try clear hi)))
                      repeat (go_quiet (first | (go_at_call 24; (with_reducible refine (jetsamlaw01_reads.calls k1  true _ A15.out (by first | exact hL | exact Laid.at hL (by repeat (first | (with_reducible first | exact HB.out | apply below_alloc | apply pw_below_drewN | apply below_drew1) | exact HB.out)))).mono ?_); rintro e w33 ⟨rfl, hb⟩; have n0_ := Aside0.mk (Kd.R_below (by (with_reducible repeat (first | apply Kd.R_alloc | apply Kd.R_drewN | apply Kd.R_drew)); exact HO253.out) hb); have n1_ := Aside0.mk (Kd.R_below (by (with_reducible repeat (first | apply Kd.R_alloc | apply Kd.R_drewN | apply Kd.R_drew)); exact HO258.out) hb); have n2_ := Aside0.mk (below_step (by repeat (first | (with_reducible first | exact HB.out | apply below_alloc | apply pw_below_drewN | apply below_drew1) | exact HB.out)) hb); clear HO253; clear HO258; clear HB; have HO253 := n0_; have HO258 := n1_; have HB := n2_; clear n0_ n1_ n2_; (try clear hb); (try clear hb2); (try clear hk); (try clear hi))); try go_wp2_with (first | (go_at_call 24; (with_reducible refine (jetsamlaw01_reads.calls k1  true _ A15.out (by first | exact hL | exact Laid.at hL (by repeat (first | (with_reducible first | exact HB.out | apply below_alloc | apply pw_below_drewN | apply below_drew1) | exact HB.out)))).mono ?_); rintro e w33 ⟨rfl, hb⟩; have n0_ := Aside0.mk (Kd.R_below (by (with_reducible repeat (first | apply Kd.R_alloc | apply Kd.R_drewN | apply Kd.R_drew)); exact HO253.out) hb); have n1_ := Aside0.mk (Kd.R_below (by (with_reducible repeat (first | apply Kd.R_alloc | apply Kd.R_drewN | apply Kd.R_drew)); exact HO258.out) hb); have n2_ := Aside0.mk (below_step (by repeat (first | (with_reducible first | exact HB.out | apply below_alloc | apply pw_below_drewN | apply below_drew1) | exact HB.out)) hb); clear HO253; clear HO258; clear HB; have HO253 := n0_; have HO258 := n1_; have HB := n2_; clear n0_ n1_ n2_; (try clear hb); (try clear hb2); (try clear hk); (try clear hi))))
                      go_meet
                      case rel => exact ⟨_, (true), (by first | rfl | (simp; done) | (simp [*]; done)), H', ⟨by have := HK1.out; first | omega | exact Nat.le_refl _⟩, ⟨by (with_reducible repeat (first | apply Kd.R_alloc | apply Kd.R_drewN | apply Kd.R_drew)); exact Kd.R_mono HO253.out (fun _ hk => hk.2)⟩, ⟨by (with_reducible repeat (first | apply Kd.R_alloc | apply Kd.R_drewN | apply Kd.R_drew)); exact Kd.R_mono HO258.out (fun _ hk => hk.2)⟩, ⟨by repeat (first | (with_reducible first | exact HB.out | apply below_alloc | apply pw_below_drewN | apply below_drew1) | exact HB.out)⟩⟩
                  · replace c16 := Bool.eq_false_iff.mpr c16
                    subst c16
                    have H1 : (jetsamlaw01_LexBlanks.j1 k1 (wrap64 (Int.tmod (IntKind.u64.wrap (a1)) 9)) t249 t254 true) = some r := by rw [if_neg (show ¬ (false = true) by decide)] at H; exact H
                    clear H
                    have H := H1
                    clear H1
                    have H' := Aside0.mk H
                    clear H
                    go_wp2_with (first | (go_at_call 24; (with_reducible refine (jetsamlaw01_reads.calls k1  false _ A15.out (by first | exact hL | exact Laid.at hL (by repeat (first | (with_reducible first | exact HB.out | apply below_alloc | apply pw_below_drewN | apply below_drew1) | exact HB.out)))).mono ?_); rintro e w34 ⟨rfl, hb⟩; have n0_ := Aside0.mk (Kd.R_below (by (with_reducible repeat (first | apply Kd.R_alloc | apply Kd.R_drewN | apply Kd.R_drew)); exact HO253.out) hb); have n1_ := Aside0.mk (Kd.R_below (by (with_reducible repeat (first | apply Kd.R_alloc | apply Kd.R_drewN | apply Kd.R_drew)); exact HO258.out) hb); have n2_ := Aside0.mk (below_step (by repeat (first | (with_reducible first | exact HB.out | apply below_alloc | apply pw_below_drewN | apply below_drew1) | exact HB.out)) hb); clear HO253; clear HO258; clear HB; have HO253 := n0_; have HO258 := n1_; have HB := n2_; clear n0_ n1_ n2_; (try clear hb); (try clear hb2); (try clear hk); (try clear hi)))
                    repeat (go_quiet (first | (go_at_call 24; (with_reducible refine (jetsamlaw01_reads.calls k1  false _ A15.out (by first | exact hL | exact Laid.at hL (by repeat (first | (with_reducible first | exact HB.out | apply below_alloc | apply pw_below_drewN | apply below_drew1) | exact HB.out)))).mono ?_); rintro e w34 ⟨rfl, hb⟩; have n0_ := Aside0.mk (Kd.R_below (by (with_reducible repeat (first | apply Kd.R_alloc | apply Kd.R_drewN | apply Kd.R_drew)); exact HO253.out) hb); have n1_ := Aside0.mk (Kd.R_below (by (with_reducible repeat (first | apply Kd.R_alloc | apply Kd.R_drewN | apply Kd.R_drew)); exact HO258.out) hb); have n2_ := Aside0.mk (below_step (by repeat (first | (with_reducible first | exact HB.out | apply below_alloc | apply pw_below_drewN | apply below_drew1) | exact HB.out)) hb); clear HO253; clear HO258; clear HB; have HO253 := n0_; have HO258 := n1_; have HB := n2_; clear n0_ n1_ n2_; (try clear hb); (try clear hb2); (try clear hk); (try clear hi))); try go_wp2_with (first | (go_at_call 24; (with_reducible refine (jetsamlaw01_reads.calls k1  false _ A15.out (by first | exact hL | exact Laid.at hL (by repeat (first | (with_reducible first | exact HB.out | apply below_alloc | apply pw_below_drewN | apply below_drew1) | exact HB.out)))).mono ?_); rintro e w34 ⟨rfl, hb⟩; have n0_ := Aside0.mk (Kd.R_below (by (with_reducible repeat (first | apply Kd.R_alloc | apply Kd.R_drewN | apply Kd.R_drew)); exact HO253.out) hb); have n1_ := Aside0.mk (Kd.R_below (by (with_reducible repeat (first | apply Kd.R_alloc | apply Kd.R_drewN | apply Kd.R_drew)); exact HO258.out) hb); have n2_ := Aside0.mk (below_step (by repeat (first | (with_reducible first | exact HB.out | apply below_alloc | apply pw_below_drewN | apply below_drew1) | exact HB.out)) hb); clear HO253; clear HO258; clear HB; have HO253 := n0_; have HO258 := n1_; have HB := n2_; clear n0_ n1_ n2_; (try clear hb); (try clear hb2); (try clear hk); (try clear hi))))
                    go_meet
                    case rel => exact ⟨_, (true), (by first | rfl | (simp; done) | (simp [*]; done)), H', ⟨by have := HK1.out; first | omega | exact Nat.le_refl _⟩, ⟨by (with_reducible repeat (first | apply Kd.R_alloc | apply Kd.R_drewN | apply Kd.R_drew)); exact Kd.R_mono HO253.out (fun _ hk => hk.2)⟩, ⟨by (with_reducible repeat (first | apply Kd.R_alloc | apply Kd.R_drewN | apply Kd.R_drew)); exact Kd.R_mono HO258.out (fun _ hk => hk.2)⟩, ⟨by repeat (first | (with_reducible first | exact HB.out | apply below_alloc | apply pw_below_drewN | apply below_drew1) | exact HB.out)⟩⟩
                case rest =>
                  clear HC12
                  try clear c1
                  try clear c2
                  try clear p2
                  try clear c4
                  try clear c4b0
                  try clear c4b1
                  try clear c5
                  try clear c5b0
                  try clear c5b1
                  try clear c6
                  try clear c6b0
                  try clear p6
                  try clear c7
                  try clear c7b0
                  try clear c7b1
                  try clear c7b2
                  try clear c9
                  try clear c9b0
                  try clear c9b1
                  try clear c9b2
                  try clear c10
                  try clear c10b0
                  try clear c10b1
                  try clear c10b2
                  try clear c16
                  try clear c17
                  try clear c17b0
                  try clear c17b1
                  try clear c18
                  try clear c18b0
                  try clear c18b1
                  try clear c18b2
                  try clear c19
                  try clear c19b0
                  try clear c19b1
                  try clear c23
                  try clear c23b0
                  try clear c23b1
                  try clear p2
                  obtain ⟨kq, x76_11, rfl, HA, HJ11, HO_8, HO_11, HB⟩ := hcut
                  cases kq with
                  | zero => exact absurd HA.out (by simp [jetsamlaw01_LexBlanks.j1])
                  | succ kj11 =>
                    have H := HA.out
                    clear HA
                    simp only [jetsamlaw01_LexBlanks.j1] at H
                    by_cases c35 : x76_11 = true
                    · subst c35
                      have H1 : (some false) = some r := by rw [if_pos rfl] at H; exact H
                      clear H
                      have H := H1
                      clear H1
                      obtain rfl := Option.some.inj H
                      go_wp2
                      repeat (go_quiet (fail); try go_wp2)
                      go_ret
                      exact ⟨by first | rfl | (simp [errW_none, errW_some] <;> rfl) | (simp only [← hji3]; first | rfl | (simp [errW_none, errW_some] <;> rfl)) | (simp [*, errW_none, errW_some] <;> rfl), by repeat (first | (with_reducible first | exact HB.out | apply below_alloc | apply pw_below_drewN | apply below_drew1) | exact HB.out)⟩
                    · replace c35 := Bool.eq_false_iff.mpr c35
                      subst c35
                      have H1 : (jetsamlaw01_LexBlanks.l1 kj11 (wrap64 (Int.tmod (IntKind.u64.wrap (a1)) 9)) t249 t254 0) = some r := by rw [if_neg (show ¬ (false = true) by decide)] at H; exact H
                      clear H
                      have H := H1
                      clear H1
                      have H' := Aside0.mk H
                      clear H
                      go_wp2
                      repeat (go_quiet (fail); try go_wp2)
                      go_loopg [14] kj11 (fun kq v14 w' => ∃ (x14_3 : Int), v14 = .int .i64 x14_3 ∧ Aside0 (jetsamlaw01_LexBlanks.l1 kq (wrap64 (Int.tmod (IntKind.u64.wrap (a1)) 9)) t249 t254 x14_3 = some r) ∧ Aside0 (kq ≤ kj11) ∧ Aside0 (Kd.R k67 67 w' w.heap.size (fun k_ => some k_ ≠ (v257 : Value).ownBlock) v252 t249) ∧ Aside0 (Kd.R k67 67 w' w.heap.size (fun k_ => some k_ ≠ (v252 : Value).ownBlock) v257 t254) ∧ Aside0 (Below w.heap.size w w'))
                      case atStart => exact ⟨(0), (by first | rfl | (simp; done) | (simp [*]; done)), H', ⟨Nat.le_refl _⟩, ⟨by (with_reducible repeat (first | apply Kd.R_alloc | apply Kd.R_drewN | apply Kd.R_drew)); exact HO_8.out⟩, ⟨by (with_reducible repeat (first | apply Kd.R_alloc | apply Kd.R_drewN | apply Kd.R_drew)); exact HO_11.out⟩, ⟨by repeat (first | (with_reducible first | exact HB.out | apply below_alloc | apply pw_below_drewN | apply below_drew1) | exact HB.out)⟩⟩
                      case round =>
                        clear H'
                        try clear c1
                        try clear c2
                        try clear p2
                        try clear c3
                        try clear c4
                        try clear c4b0
                        try clear c4b1
                        try clear c5
                        try clear c5b0
                        try clear c5b1
                        try clear c6
                        try clear c6b0
                        try clear p6
                        try clear c7
                        try clear c7b0
                        try clear c7b1
                        try clear c7b2
                        try clear c9
                        try clear c9b0
                        try clear c9b1
                        try clear c9b2
                        try clear c10
                        try clear c10b0
                        try clear c10b1
                        try clear c10b2
                        try clear c16
                        try clear c17
                        try clear c17b0
                        try clear c17b1
                        try clear c18
                        try clear c18b0
                        try clear c18b1
                        try clear c18b2
                        try clear c19
                        try clear c19b0
                        try clear c19b1
                        try clear c23
                        try clear c23b0
                        try clear c23b1
                        try clear c35
                        try clear p2
                        try clear p6
                        obtain ⟨x14_3, rfl, HA, HK3, HO_8, HO_11, HB⟩ := hrel
                        cases gk with
                        | zero => exact absurd HA.out (by simp [jetsamlaw01_LexBlanks.l1])
                        | succ k3 =>
                          have H := HA.out
                          clear HA
                          simp only [jetsamlaw01_LexBlanks.l1] at H
                          by_cases c36 : x14_3 < (t249.length : Int)
                          · rw [if_pos c36] at H
                            have c36b0 : decide (x14_3 < (t249.length : Int)) = true := decide_eq_true c36
                            clear c36
                            by_cases c37 : 0 ≤ x14_3
                            · rw [if_pos c37] at H
                              have c37b0 : decide (0 ≤ x14_3) = true := decide_eq_true c37
                              clear c37
                              by_cases c38 : x14_3 < (t254.length : Int)
                              · rw [if_pos c38] at H
                                have c38b0 : decide (x14_3 < (t254.length : Int)) = true := decide_eq_true c38
                                clear c38
                                by_cases c39 : ((rd_T67 t254 x14_3).f0) = ((rd_T67 t249 x14_3).f0)
                                · rw [if_pos c39] at H
                                  have c39b0 : (((rd_T67 t254 x14_3).f0) == ((rd_T67 t249 x14_3).f0)) = true := beq_iff_eq.mpr c39
                                  have c39b1 : (((rd_T67 t254 x14_3).f0) != ((rd_T67 t249 x14_3).f0)) = false := bne_eq_false_iff_eq.mpr c39
                                  clear c39
                                  by_cases c40 : ((rd_T67 t254 x14_3).f1).toList = ((rd_T67 t249 x14_3).f1).toList
                                  · rw [if_pos c40] at H
                                    have c40b0 : (((rd_T67 t254 x14_3).f1).toList == ((rd_T67 t249 x14_3).f1).toList) = true := beq_iff_eq.mpr c40
                                    have c40b1 : (((rd_T67 t254 x14_3).f1).toList != ((rd_T67 t249 x14_3).f1).toList) = false := bne_eq_false_iff_eq.mpr c40
                                    clear c40
                                    by_cases c41 : ((rd_T67 t254 x14_3).f2) = ((rd_T67 t249 x14_3).f2)
                                    · rw [if_pos c41] at H
                                      have c41b0 : (((rd_T67 t254 x14_3).f2) == ((rd_T67 t249 x14_3).f2)) = true := beq_iff_eq.mpr c41
                                      have c41b1 : (((rd_T67 t254 x14_3).f2) != ((rd_T67 t249 x14_3).f2)) = false := bne_eq_false_iff_eq.mpr c41
                                      clear c41
                                      by_cases c42 : ((rd_T67 t254 x14_3).f3) = (wrap64 (((rd_T67 t249 x14_3).f3) + (wrap64 (2 * (wrap64 (Int.tmod (IntKind.u64.wrap (a1)) 9))))))
                                      · rw [if_pos c42] at H
                                        have c42b0 : (((rd_T67 t254 x14_3).f3) == (wrap64 (((rd_T67 t249 x14_3).f3) + (wrap64 (2 * (wrap64 (Int.tmod (IntKind.u64.wrap (a1)) 9))))))) = true := beq_iff_eq.mpr c42
                                        have c42b1 : (((rd_T67 t254 x14_3).f3) != (wrap64 (((rd_T67 t249 x14_3).f3) + (wrap64 (2 * (wrap64 (Int.tmod (IntKind.u64.wrap (a1)) 9))))))) = false := bne_eq_false_iff_eq.mpr c42
                                        clear c42
                                        have H' := Aside0.mk H
                                        clear H
                                        obtain ⟨Ao43, co43, eo43⟩ := Kd.R_slice HO_8.out
                                        subst eo43
                                        obtain ⟨Ao44, co44, eo44⟩ := Kd.R_slice HO_11.out
                                        subst eo44
                                        have p260 : 0 ≤ (x14_3 : Int) := of_decide_eq_true (by first | (with_reducible assumption) | assumption)
                                        have q260 : x14_3 < (t254.length : Int) := of_decide_eq_true (by first | (with_reducible assumption) | assumption)
                                        obtain ⟨ad260, e260, hx260_0, hx260_1, hx260_2, hx260_3⟩ := at_T67 (Kd.R_reads' HO_11.out).2.2 x14_3 p260 q260
                                        cases e260
                                        replace p260 := eq_true p260
                                        replace q260 := eq_true q260
                                        have p261 : 0 ≤ (x14_3 : Int) := of_decide_eq_true (by first | (with_reducible assumption) | assumption)
                                        have q261 : x14_3 < (t249.length : Int) := of_decide_eq_true (by first | (with_reducible assumption) | assumption)
                                        obtain ⟨ad261, e261, hx261_0, hx261_1, hx261_2, hx261_3⟩ := at_T67 (Kd.R_reads' HO_8.out).2.2 x14_3 p261 q261
                                        cases e261
                                        replace p261 := eq_true p261
                                        replace q261 := eq_true q261
                                        have p262 : 0 ≤ (x14_3 : Int) := of_decide_eq_true (by first | (with_reducible assumption) | assumption)
                                        have q262 : x14_3 < (t254.length : Int) := of_decide_eq_true (by first | (with_reducible assumption) | assumption)
                                        obtain ⟨ad262, e262, hx262_0, hx262_1, hx262_2, hx262_3⟩ := at_T67 (Kd.R_reads' HO_11.out).2.2 x14_3 p262 q262
                                        obtain rfl : ad260 = ad262 := (by injection e262)
                                        replace p262 := eq_true p262
                                        replace q262 := eq_true q262
                                        have p263 : 0 ≤ (x14_3 : Int) := of_decide_eq_true (by first | (with_reducible assumption) | assumption)
                                        have q263 : x14_3 < (t249.length : Int) := of_decide_eq_true (by first | (with_reducible assumption) | assumption)
                                        obtain ⟨ad263, e263, hx263_0, hx263_1, hx263_2, hx263_3⟩ := at_T67 (Kd.R_reads' HO_8.out).2.2 x14_3 p263 q263
                                        obtain rfl : ad261 = ad263 := (by injection e263)
                                        replace p263 := eq_true p263
                                        replace q263 := eq_true q263
                                        have p264 : 0 ≤ (x14_3 : Int) := of_decide_eq_true (by first | (with_reducible assumption) | assumption)
                                        have q264 : x14_3 < (t254.length : Int) := of_decide_eq_true (by first | (with_reducible assumption) | assumption)
                                        obtain ⟨ad264, e264, hx264_0, hx264_1, hx264_2, hx264_3⟩ := at_T67 (Kd.R_reads' HO_11.out).2.2 x14_3 p264 q264
                                        obtain rfl : ad260 = ad264 := (by injection e264)
                                        replace p264 := eq_true p264
                                        replace q264 := eq_true q264
                                        have p265 : 0 ≤ (x14_3 : Int) := of_decide_eq_true (by first | (with_reducible assumption) | assumption)
                                        have q265 : x14_3 < (t249.length : Int) := of_decide_eq_true (by first | (with_reducible assumption) | assumption)
                                        obtain ⟨ad265, e265, hx265_0, hx265_1, hx265_2, hx265_3⟩ := at_T67 (Kd.R_reads' HO_8.out).2.2 x14_3 p265 q265
                                        obtain rfl : ad261 = ad265 := (by injection e265)
                                        replace p265 := eq_true p265
                                        replace q265 := eq_true q265
                                        have p266 : 0 ≤ (x14_3 : Int) := of_decide_eq_true (by first | (with_reducible assumption) | assumption)
                                        have q266 : x14_3 < (t254.length : Int) := of_decide_eq_true (by first | (with_reducible assumption) | assumption)
                                        obtain ⟨ad266, e266, hx266_0, hx266_1, hx266_2, hx266_3⟩ := at_T67 (Kd.R_reads' HO_11.out).2.2 x14_3 p266 q266
                                        obtain rfl : ad260 = ad266 := (by injection e266)
                                        replace p266 := eq_true p266
                                        replace q266 := eq_true q266
                                        have p267 : 0 ≤ (x14_3 : Int) := of_decide_eq_true (by first | (with_reducible assumption) | assumption)
                                        have q267 : x14_3 < (t249.length : Int) := of_decide_eq_true (by first | (with_reducible assumption) | assumption)
                                        obtain ⟨ad267, e267, hx267_0, hx267_1, hx267_2, hx267_3⟩ := at_T67 (Kd.R_reads' HO_8.out).2.2 x14_3 p267 q267
                                        obtain rfl : ad261 = ad267 := (by injection e267)
                                        replace p267 := eq_true p267
                                        replace q267 := eq_true q267
                                        go_wp2
                                        repeat (go_quiet (fail); try go_wp2)
                                        go_roundg k3
                                        case measure => have := HK1.out; have := HJ11.out; have := HK3.out; omega
                                        case rel => exact ⟨(wrap64 (x14_3 + 1)), (by first | rfl | (simp; done) | (simp [*]; done)), H', ⟨by have := HK1.out; have := HJ11.out; have := HK3.out; omega⟩, ⟨by (with_reducible repeat (first | apply Kd.R_alloc | apply Kd.R_drewN | apply Kd.R_drew)); exact HO_8.out⟩, ⟨by (with_reducible repeat (first | apply Kd.R_alloc | apply Kd.R_drewN | apply Kd.R_drew)); exact HO_11.out⟩, ⟨by repeat (first | (with_reducible first | exact HB.out | apply below_alloc | apply pw_below_drewN | apply below_drew1) | exact HB.out)⟩⟩
                                      · rw [if_neg c42] at H
                                        have c42b0 : (((rd_T67 t254 x14_3).f3) == (wrap64 (((rd_T67 t249 x14_3).f3) + (wrap64 (2 * (wrap64 (Int.tmod (IntKind.u64.wrap (a1)) 9))))))) = false := beq_eq_false_iff_ne.mpr c42
                                        have c42b1 : (((rd_T67 t254 x14_3).f3) != (wrap64 (((rd_T67 t249 x14_3).f3) + (wrap64 (2 * (wrap64 (Int.tmod (IntKind.u64.wrap (a1)) 9))))))) = true := bne_iff_ne.mpr c42
                                        obtain rfl := Option.some.inj H
                                        obtain ⟨Ao45, co45, eo45⟩ := Kd.R_slice HO_8.out
                                        subst eo45
                                        obtain ⟨Ao46, co46, eo46⟩ := Kd.R_slice HO_11.out
                                        subst eo46
                                        have p260 : 0 ≤ (x14_3 : Int) := of_decide_eq_true (by first | (with_reducible assumption) | assumption)
                                        have q260 : x14_3 < (t254.length : Int) := of_decide_eq_true (by first | (with_reducible assumption) | assumption)
                                        obtain ⟨ad260, e260, hx260_0, hx260_1, hx260_2, hx260_3⟩ := at_T67 (Kd.R_reads' HO_11.out).2.2 x14_3 p260 q260
                                        cases e260
                                        replace p260 := eq_true p260
                                        replace q260 := eq_true q260
                                        have p261 : 0 ≤ (x14_3 : Int) := of_decide_eq_true (by first | (with_reducible assumption) | assumption)
                                        have q261 : x14_3 < (t249.length : Int) := of_decide_eq_true (by first | (with_reducible assumption) | assumption)
                                        obtain ⟨ad261, e261, hx261_0, hx261_1, hx261_2, hx261_3⟩ := at_T67 (Kd.R_reads' HO_8.out).2.2 x14_3 p261 q261
                                        cases e261
                                        replace p261 := eq_true p261
                                        replace q261 := eq_true q261
                                        have p262 : 0 ≤ (x14_3 : Int) := of_decide_eq_true (by first | (with_reducible assumption) | assumption)
                                        have q262 : x14_3 < (t254.length : Int) := of_decide_eq_true (by first | (with_reducible assumption) | assumption)
                                        obtain ⟨ad262, e262, hx262_0, hx262_1, hx262_2, hx262_3⟩ := at_T67 (Kd.R_reads' HO_11.out).2.2 x14_3 p262 q262
                                        obtain rfl : ad260 = ad262 := (by injection e262)
                                        replace p262 := eq_true p262
                                        replace q262 := eq_true q262
                                        have p263 : 0 ≤ (x14_3 : Int) := of_decide_eq_true (by first | (with_reducible assumption) | assumption)
                                        have q263 : x14_3 < (t249.length : Int) := of_decide_eq_true (by first | (with_reducible assumption) | assumption)
                                        obtain ⟨ad263, e263, hx263_0, hx263_1, hx263_2, hx263_3⟩ := at_T67 (Kd.R_reads' HO_8.out).2.2 x14_3 p263 q263
                                        obtain rfl : ad261 = ad263 := (by injection e263)
                                        replace p263 := eq_true p263
                                        replace q263 := eq_true q263
                                        have p264 : 0 ≤ (x14_3 : Int) := of_decide_eq_true (by first | (with_reducible assumption) | assumption)
                                        have q264 : x14_3 < (t254.length : Int) := of_decide_eq_true (by first | (with_reducible assumption) | assumption)
                                        obtain ⟨ad264, e264, hx264_0, hx264_1, hx264_2, hx264_3⟩ := at_T67 (Kd.R_reads' HO_11.out).2.2 x14_3 p264 q264
                                        obtain rfl : ad260 = ad264 := (by injection e264)
                                        replace p264 := eq_true p264
                                        replace q264 := eq_true q264
                                        have p265 : 0 ≤ (x14_3 : Int) := of_decide_eq_true (by first | (with_reducible assumption) | assumption)
                                        have q265 : x14_3 < (t249.length : Int) := of_decide_eq_true (by first | (with_reducible assumption) | assumption)
                                        obtain ⟨ad265, e265, hx265_0, hx265_1, hx265_2, hx265_3⟩ := at_T67 (Kd.R_reads' HO_8.out).2.2 x14_3 p265 q265
                                        obtain rfl : ad261 = ad265 := (by injection e265)
                                        replace p265 := eq_true p265
                                        replace q265 := eq_true q265
                                        have p266 : 0 ≤ (x14_3 : Int) := of_decide_eq_true (by first | (with_reducible assumption) | assumption)
                                        have q266 : x14_3 < (t254.length : Int) := of_decide_eq_true (by first | (with_reducible assumption) | assumption)
                                        obtain ⟨ad266, e266, hx266_0, hx266_1, hx266_2, hx266_3⟩ := at_T67 (Kd.R_reads' HO_11.out).2.2 x14_3 p266 q266
                                        obtain rfl : ad260 = ad266 := (by injection e266)
                                        replace p266 := eq_true p266
                                        replace q266 := eq_true q266
                                        have p267 : 0 ≤ (x14_3 : Int) := of_decide_eq_true (by first | (with_reducible assumption) | assumption)
                                        have q267 : x14_3 < (t249.length : Int) := of_decide_eq_true (by first | (with_reducible assumption) | assumption)
                                        obtain ⟨ad267, e267, hx267_0, hx267_1, hx267_2, hx267_3⟩ := at_T67 (Kd.R_reads' HO_8.out).2.2 x14_3 p267 q267
                                        obtain rfl : ad261 = ad267 := (by injection e267)
                                        replace p267 := eq_true p267
                                        replace q267 := eq_true q267
                                        go_wp2
                                        repeat (go_quiet (fail); try go_wp2)
                                        go_ret
                                        exact ⟨by first | rfl | (simp [errW_none, errW_some] <;> rfl) | (simp only [← hji3]; first | rfl | (simp [errW_none, errW_some] <;> rfl)) | (simp [*, errW_none, errW_some] <;> rfl), by repeat (first | (with_reducible first | exact HB.out | apply below_alloc | apply pw_below_drewN | apply below_drew1) | exact HB.out)⟩
                                    · rw [if_neg c41] at H
                                      have c41b0 : (((rd_T67 t254 x14_3).f2) == ((rd_T67 t249 x14_3).f2)) = false := beq_eq_false_iff_ne.mpr c41
                                      have c41b1 : (((rd_T67 t254 x14_3).f2) != ((rd_T67 t249 x14_3).f2)) = true := bne_iff_ne.mpr c41
                                      obtain rfl := Option.some.inj H
                                      obtain ⟨Ao47, co47, eo47⟩ := Kd.R_slice HO_8.out
                                      subst eo47
                                      obtain ⟨Ao48, co48, eo48⟩ := Kd.R_slice HO_11.out
                                      subst eo48
                                      have p260 : 0 ≤ (x14_3 : Int) := of_decide_eq_true (by first | (with_reducible assumption) | assumption)
                                      have q260 : x14_3 < (t254.length : Int) := of_decide_eq_true (by first | (with_reducible assumption) | assumption)
                                      obtain ⟨ad260, e260, hx260_0, hx260_1, hx260_2, hx260_3⟩ := at_T67 (Kd.R_reads' HO_11.out).2.2 x14_3 p260 q260
                                      cases e260
                                      replace p260 := eq_true p260
                                      replace q260 := eq_true q260
                                      have p261 : 0 ≤ (x14_3 : Int) := of_decide_eq_true (by first | (with_reducible assumption) | assumption)
                                      have q261 : x14_3 < (t249.length : Int) := of_decide_eq_true (by first | (with_reducible assumption) | assumption)
                                      obtain ⟨ad261, e261, hx261_0, hx261_1, hx261_2, hx261_3⟩ := at_T67 (Kd.R_reads' HO_8.out).2.2 x14_3 p261 q261
                                      cases e261
                                      replace p261 := eq_true p261
                                      replace q261 := eq_true q261
                                      have p262 : 0 ≤ (x14_3 : Int) := of_decide_eq_true (by first | (with_reducible assumption) | assumption)
                                      have q262 : x14_3 < (t254.length : Int) := of_decide_eq_true (by first | (with_reducible assumption) | assumption)
                                      obtain ⟨ad262, e262, hx262_0, hx262_1, hx262_2, hx262_3⟩ := at_T67 (Kd.R_reads' HO_11.out).2.2 x14_3 p262 q262
                                      obtain rfl : ad260 = ad262 := (by injection e262)
                                      replace p262 := eq_true p262
                                      replace q262 := eq_true q262
                                      have p263 : 0 ≤ (x14_3 : Int) := of_decide_eq_true (by first | (with_reducible assumption) | assumption)
                                      have q263 : x14_3 < (t249.length : Int) := of_decide_eq_true (by first | (with_reducible assumption) | assumption)
                                      obtain ⟨ad263, e263, hx263_0, hx263_1, hx263_2, hx263_3⟩ := at_T67 (Kd.R_reads' HO_8.out).2.2 x14_3 p263 q263
                                      obtain rfl : ad261 = ad263 := (by injection e263)
                                      replace p263 := eq_true p263
                                      replace q263 := eq_true q263
                                      have p264 : 0 ≤ (x14_3 : Int) := of_decide_eq_true (by first | (with_reducible assumption) | assumption)
                                      have q264 : x14_3 < (t254.length : Int) := of_decide_eq_true (by first | (with_reducible assumption) | assumption)
                                      obtain ⟨ad264, e264, hx264_0, hx264_1, hx264_2, hx264_3⟩ := at_T67 (Kd.R_reads' HO_11.out).2.2 x14_3 p264 q264
                                      obtain rfl : ad260 = ad264 := (by injection e264)
                                      replace p264 := eq_true p264
                                      replace q264 := eq_true q264
                                      have p265 : 0 ≤ (x14_3 : Int) := of_decide_eq_true (by first | (with_reducible assumption) | assumption)
                                      have q265 : x14_3 < (t249.length : Int) := of_decide_eq_true (by first | (with_reducible assumption) | assumption)
                                      obtain ⟨ad265, e265, hx265_0, hx265_1, hx265_2, hx265_3⟩ := at_T67 (Kd.R_reads' HO_8.out).2.2 x14_3 p265 q265
                                      obtain rfl : ad261 = ad265 := (by injection e265)
                                      replace p265 := eq_true p265
                                      replace q265 := eq_true q265
                                      go_wp2
                                      repeat (go_quiet (fail); try go_wp2)
                                      go_ret
                                      exact ⟨by first | rfl | (simp [errW_none, errW_some] <;> rfl) | (simp only [← hji3]; first | rfl | (simp [errW_none, errW_some] <;> rfl)) | (simp [*, errW_none, errW_some] <;> rfl), by repeat (first | (with_reducible first | exact HB.out | apply below_alloc | apply pw_below_drewN | apply below_drew1) | exact HB.out)⟩
                                  · rw [if_neg c40] at H
                                    have c40b0 : (((rd_T67 t254 x14_3).f1).toList == ((rd_T67 t249 x14_3).f1).toList) = false := beq_eq_false_iff_ne.mpr c40
                                    have c40b1 : (((rd_T67 t254 x14_3).f1).toList != ((rd_T67 t249 x14_3).f1).toList) = true := bne_iff_ne.mpr c40
                                    obtain rfl := Option.some.inj H
                                    obtain ⟨Ao49, co49, eo49⟩ := Kd.R_slice HO_8.out
                                    subst eo49
                                    obtain ⟨Ao50, co50, eo50⟩ := Kd.R_slice HO_11.out
                                    subst eo50
                                    have p260 : 0 ≤ (x14_3 : Int) := of_decide_eq_true (by first | (with_reducible assumption) | assumption)
                                    have q260 : x14_3 < (t254.length : Int) := of_decide_eq_true (by first | (with_reducible assumption) | assumption)
                                    obtain ⟨ad260, e260, hx260_0, hx260_1, hx260_2, hx260_3⟩ := at_T67 (Kd.R_reads' HO_11.out).2.2 x14_3 p260 q260
                                    cases e260
                                    replace p260 := eq_true p260
                                    replace q260 := eq_true q260
                                    have p261 : 0 ≤ (x14_3 : Int) := of_decide_eq_true (by first | (with_reducible assumption) | assumption)
                                    have q261 : x14_3 < (t249.length : Int) := of_decide_eq_true (by first | (with_reducible assumption) | assumption)
                                    obtain ⟨ad261, e261, hx261_0, hx261_1, hx261_2, hx261_3⟩ := at_T67 (Kd.R_reads' HO_8.out).2.2 x14_3 p261 q261
                                    cases e261
                                    replace p261 := eq_true p261
                                    replace q261 := eq_true q261
                                    have p262 : 0 ≤ (x14_3 : Int) := of_decide_eq_true (by first | (with_reducible assumption) | assumption)
                                    have q262 : x14_3 < (t254.length : Int) := of_decide_eq_true (by first | (with_reducible assumption) | assumption)
                                    obtain ⟨ad262, e262, hx262_0, hx262_1, hx262_2, hx262_3⟩ := at_T67 (Kd.R_reads' HO_11.out).2.2 x14_3 p262 q262
                                    obtain rfl : ad260 = ad262 := (by injection e262)
                                    replace p262 := eq_true p262
                                    replace q262 := eq_true q262
                                    have p263 : 0 ≤ (x14_3 : Int) := of_decide_eq_true (by first | (with_reducible assumption) | assumption)
                                    have q263 : x14_3 < (t249.length : Int) := of_decide_eq_true (by first | (with_reducible assumption) | assumption)
                                    obtain ⟨ad263, e263, hx263_0, hx263_1, hx263_2, hx263_3⟩ := at_T67 (Kd.R_reads' HO_8.out).2.2 x14_3 p263 q263
                                    obtain rfl : ad261 = ad263 := (by injection e263)
                                    replace p263 := eq_true p263
                                    replace q263 := eq_true q263
                                    go_wp2
                                    repeat (go_quiet (fail); try go_wp2)
                                    go_ret
                                    exact ⟨by first | rfl | (simp [errW_none, errW_some] <;> rfl) | (simp only [← hji3]; first | rfl | (simp [errW_none, errW_some] <;> rfl)) | (simp [*, errW_none, errW_some] <;> rfl), by repeat (first | (with_reducible first | exact HB.out | apply below_alloc | apply pw_below_drewN | apply below_drew1) | exact HB.out)⟩
                                · rw [if_neg c39] at H
                                  have c39b0 : (((rd_T67 t254 x14_3).f0) == ((rd_T67 t249 x14_3).f0)) = false := beq_eq_false_iff_ne.mpr c39
                                  have c39b1 : (((rd_T67 t254 x14_3).f0) != ((rd_T67 t249 x14_3).f0)) = true := bne_iff_ne.mpr c39
                                  obtain rfl := Option.some.inj H
                                  obtain ⟨Ao51, co51, eo51⟩ := Kd.R_slice HO_8.out
                                  subst eo51
                                  obtain ⟨Ao52, co52, eo52⟩ := Kd.R_slice HO_11.out
                                  subst eo52
                                  have p260 : 0 ≤ (x14_3 : Int) := of_decide_eq_true (by first | (with_reducible assumption) | assumption)
                                  have q260 : x14_3 < (t254.length : Int) := of_decide_eq_true (by first | (with_reducible assumption) | assumption)
                                  obtain ⟨ad260, e260, hx260_0, hx260_1, hx260_2, hx260_3⟩ := at_T67 (Kd.R_reads' HO_11.out).2.2 x14_3 p260 q260
                                  cases e260
                                  replace p260 := eq_true p260
                                  replace q260 := eq_true q260
                                  have p261 : 0 ≤ (x14_3 : Int) := of_decide_eq_true (by first | (with_reducible assumption) | assumption)
                                  have q261 : x14_3 < (t249.length : Int) := of_decide_eq_true (by first | (with_reducible assumption) | assumption)
                                  obtain ⟨ad261, e261, hx261_0, hx261_1, hx261_2, hx261_3⟩ := at_T67 (Kd.R_reads' HO_8.out).2.2 x14_3 p261 q261
                                  cases e261
                                  replace p261 := eq_true p261
                                  replace q261 := eq_true q261
                                  go_wp2
                                  repeat (go_quiet (fail); try go_wp2)
                                  go_ret
                                  exact ⟨by first | rfl | (simp [errW_none, errW_some] <;> rfl) | (simp only [← hji3]; first | rfl | (simp [errW_none, errW_some] <;> rfl)) | (simp [*, errW_none, errW_some] <;> rfl), by repeat (first | (with_reducible first | exact HB.out | apply below_alloc | apply pw_below_drewN | apply below_drew1) | exact HB.out)⟩
                              · rw [if_neg c38] at H
                                exact absurd H (by simp)
                            · rw [if_neg c37] at H
                              exact absurd H (by simp)
                          · rw [if_neg c36] at H
                            have c36b0 : decide (x14_3 < (t249.length : Int)) = false := decide_eq_false c36
                            clear c36
                            obtain rfl := Option.some.inj H
                            obtain ⟨Ao53, co53, eo53⟩ := Kd.R_slice HO_8.out
                            subst eo53
                            go_wp2
                            repeat (go_quiet (fail); try go_wp2)
                            go_ret
                            exact ⟨by first | rfl | (simp [errW_none, errW_some] <;> rfl) | (simp only [← hji3]; first | rfl | (simp [errW_none, errW_some] <;> rfl)) | (simp [*, errW_none, errW_some] <;> rfl), by repeat (first | (with_reducible first | exact HB.out | apply below_alloc | apply pw_below_drewN | apply below_drew1) | exact HB.out)⟩
              · rw [if_neg c10] at H
                exact absurd H (by simp)
            · rw [if_neg c9] at H
              exact absurd H (by simp)
    · rw [if_neg c5] at H
      exact absurd H (by simp)
  · rw [if_neg c4] at H
    exact absurd H (by simp)

/-- THE ONE PURE STATEMENT of jetsamlaw01_LexBlanks: yours. -/
def jetsamlaw01_LexBlanks.Pure : Prop := ∀ (a0 : ByteArray) (a1 : Int), a0.size ≤ 140737488351232 → (Lit.int .i64 a1).wf = true → ∃ k, jetsamlaw01_LexBlanks.f k a0 a1 = some true
theorem jetsamlaw01_LexBlanks.walk (P : jetsamlaw01_LexBlanks.Pure) (a0 : ByteArray) (a1 : Int) (w : World) (w0 : a0.size ≤ 140737488351232) (w1 : (Lit.int .i64 a1).wf = true) (hL : Aside0 (Laid w)) :
    Calls Tryd.prog 10 #[.string a0, .int .i64 a1] w fun e w' => e = .returned (.bool true) ∧ Below w.heap.size w w' := by
  obtain ⟨k, h⟩ := P a0 a1 w0 w1
  refine (jetsamlaw01_LexBlanks.calls k a0 a1 true w h (by first | exact hL | exact Laid.at hL (by repeat (first | (with_reducible first | exact HB.out | apply below_alloc | apply pw_below_drewN | apply below_drew1) | exact HB.out)))).mono ?_
  rintro e w' ⟨rfl, hd⟩
  exact ⟨rfl, hd⟩

end Go.Proofs.YtjcbedgpmjgcdaaDoor.PLex

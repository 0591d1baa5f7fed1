-- Written for this claim by a program of this session, which runs the kit's printer with contracts by hand put in. Lean checks it.
import Derived.Test.YtjcbedgpmjgcdaaDoorPLexx0
import Derived.Test.YtjcbedgpmjgcdaaDoorPLexx3
import Derived.Test.YtjcbedgpmjgcdaaDoorPLexx6
namespace Go.Proofs.YtjcbedgpmjgcdaaDoor.PLex
open Go.RowKit Go.Proofs.YtjcbedgpmjgcdaaDoor.Hand Go.Proofs.YtjcbedgpmjgcdaaDoorW.PrintWords Go.Proofs.YtjcbedgpmjgcdaaDoorW.PrintLast Go.Proofs.YtjcbedgpmjgcdaaDoorW.PrintMore
attribute [local go_sem] cell?_setCell_twice max2_int min2_int max_two min_two max_three min_three max_four min_four   -- for this text's walks alone
set_option linter.unusedVariables false
set_option linter.unusedSimpArgs false

/-! ### jetsamlaw01_LexNames: function 11 -/
mutual
def jetsamlaw01_LexNames.l0 : Nat → Int → ByteArray → Option (Bool)
  | 0, _, _ => none
  | k + 1, x5, x7 => if (x7.size : Int) < x5 then (if x7.size + 1 ≤ 9223372036854775807 then (jetsamlaw01_LexNames.l0 k x5 (x7 ++ (⟨#[49]⟩ : ByteArray))) else (none)) else (if 1 + x7.size ≤ 9223372036854775807 then ((lex_Lex.f k ((⟨#[32]⟩ : ByteArray) ++ x7)).bind fun bt271 => ((lex_Lex.f k ((⟨#[49]⟩ : ByteArray) ++ x7)).bind fun bt276 => ((jetsamlaw01_reads.f k).bind fun t281 => (if t281 = true then (jetsamlaw01_LexNames.j1 k x5 x7 bt271.1 bt271.2.1 bt271.2.2 (bt276.2.2 != 3)) else (jetsamlaw01_LexNames.j1 k x5 x7 bt271.1 bt271.2.1 bt271.2.2 true))))) else (none))
def jetsamlaw01_LexNames.j1 : Nat → Int → ByteArray → List (S67) → Int → Int → Bool → Option (Bool)
  | 0, _, _, _, _, _, _ => none
  | k + 1, x5, x7, x8, x9, x10, x50 => if x50 = true then (some false) else (if x5 > 12 then (if x10 = 3 then (if x9 = 1 then (some ((x8.length : Int) == 0)) else (some false)) else (some false)) else (if x10 = 0 then (if (x8.length : Int) = 1 then (if 0 < (x8.length : Int) then (if ((rd_T67 x8 0).f0) = 1 then (some (((rd_T67 x8 0).f1).toList == x7.toList)) else (some false)) else (none)) else (some false)) else (some false)))
end
def jetsamlaw01_LexNames.f (k : Nat) (a0 : Int) (a1 : Int) : Option (Bool) := jetsamlaw01_LexNames.l0 k (wrap64 (1 + (wrap64 (Int.tmod (IntKind.u64.wrap (a0)) 16)))) (strOfNums (([(97 + (Int.tmod a1 26)) % 256] : List Int)))
theorem jetsamlaw01_LexNames.mono_l : ∀ k, (∀ y0 y1, LeO (jetsamlaw01_LexNames.l0 k y0 y1) (jetsamlaw01_LexNames.l0 (k + 1) y0 y1)) ∧ (∀ y0 y1 y2 y3 y4 y5, LeO (jetsamlaw01_LexNames.j1 k y0 y1 y2 y3 y4 y5) (jetsamlaw01_LexNames.j1 (k + 1) y0 y1 y2 y3 y4 y5))
  | 0 => ⟨fun _ _ r h => by simp [jetsamlaw01_LexNames.l0] at h, fun _ _ _ _ _ _ r h => by simp [jetsamlaw01_LexNames.j1] at h⟩
  | k + 1 => by
    obtain ⟨ih0, ih1⟩ := jetsamlaw01_LexNames.mono_l k
    refine ⟨?_, ?_⟩
    · intro y0 y1
      unfold jetsamlaw01_LexNames.l0
      repeat' first
      | (with_reducible exact ih0 _ _)
      | (with_reducible exact ih1 _ _ _ _ _ _)
      | (with_reducible exact jetsamlaw01_reads.mono _)
      | (with_reducible exact lex_Lex.mono _ _)
      | (with_reducible exact LeO.refl _)
      | (with_reducible exact LeO.none _)
      | (with_reducible refine LeO.ite ?_ ?_)
      | (with_reducible refine LeO.bind ?_ (fun _ => ?_))
      | exact ih0 _ _
      | exact ih1 _ _ _ _ _ _
      | exact jetsamlaw01_reads.mono _
      | exact lex_Lex.mono _ _
      | exact LeO.none _
      | refine LeO.ite ?_ ?_
      | refine LeO.bind ?_ (fun _ => ?_)
    · intro y0 y1 y2 y3 y4 y5
      unfold jetsamlaw01_LexNames.j1
      repeat' first
      | (with_reducible exact ih0 _ _)
      | (with_reducible exact ih1 _ _ _ _ _ _)
      | (with_reducible exact jetsamlaw01_reads.mono _)
      | (with_reducible exact lex_Lex.mono _ _)
      | (with_reducible exact LeO.refl _)
      | (with_reducible exact LeO.none _)
      | (with_reducible refine LeO.ite ?_ ?_)
      | (with_reducible refine LeO.bind ?_ (fun _ => ?_))
      | exact ih0 _ _
      | exact ih1 _ _ _ _ _ _
      | exact jetsamlaw01_reads.mono _
      | exact lex_Lex.mono _ _
      | exact LeO.none _
      | refine LeO.ite ?_ ?_
      | refine LeO.bind ?_ (fun _ => ?_)
theorem jetsamlaw01_LexNames.mono : ∀ a0 a1 k, LeO (jetsamlaw01_LexNames.f k a0 a1) (jetsamlaw01_LexNames.f (k + 1) a0 a1) := by
  intro a0 a1 k
  obtain ⟨ih0, ih1⟩ := jetsamlaw01_LexNames.mono_l k
  unfold jetsamlaw01_LexNames.f
  repeat' first
      | (with_reducible exact ih0 _ _)
      | (with_reducible exact ih1 _ _ _ _ _ _)
      | (with_reducible exact jetsamlaw01_reads.mono _)
      | (with_reducible exact lex_Lex.mono _ _)
      | (with_reducible exact LeO.refl _)
      | (with_reducible exact LeO.none _)
      | (with_reducible refine LeO.ite ?_ ?_)
      | (with_reducible refine LeO.bind ?_ (fun _ => ?_))
      | exact ih0 _ _
      | exact ih1 _ _ _ _ _ _
      | exact jetsamlaw01_reads.mono _
      | exact lex_Lex.mono _ _
      | exact LeO.none _
      | refine LeO.ite ?_ ?_
      | refine LeO.bind ?_ (fun _ => ?_)
set_option maxHeartbeats 80000000 in
set_option maxRecDepth 100000 in
theorem jetsamlaw01_LexNames.calls (k : Nat) (a0 : Int) (a1 : Int) (r : Bool) (w : World) (h : jetsamlaw01_LexNames.f k a0 a1 = some r) (hL : Aside0 (Laid w)) :
    Calls Tryd.prog 11 #[.int .i64 a0, .int .u8 a1] w fun e w' => e = .returned (.bool r) ∧ Below w.heap.size w w' := by
  have HB := Aside0.mk (Below.refl w.heap.size w)
  have H : (jetsamlaw01_LexNames.l0 k (wrap64 (1 + (wrap64 (Int.tmod (IntKind.u64.wrap (a0)) 16)))) (strOfNums (([(97 + (Int.tmod a1 26)) % 256] : List Int)))) = some r := h
  clear h
  obtain ⟨y268, hy268⟩ : ∃ y_ : List Int, y_ = (([(97 + (Int.tmod a1 26)) % 256] : List Int)) := ⟨_, rfl⟩
  replace H : (jetsamlaw01_LexNames.l0 k (wrap64 (1 + (wrap64 (Int.tmod (IntKind.u64.wrap (a0)) 16)))) (strOfNums y268)) = some r := by first | (rw [hy268]; with_reducible exact H) | (have H2_ := (Option.bind_some _ _).symm.trans H; rw [hy268]; with_reducible exact H2_) | (have H2_ := (Option.bind_some _ _).symm.trans H; with_reducible exact H2_) | with_reducible exact H | (rw [hy268]; exact H) | exact H
  have Ny268 := Aside0.mk hy268
  clear hy268
  have H' := Aside0.mk H
  clear H
  go_enter Tryd.func11, Tryd.ntmps11
  go_wp2_with (first | ((with_reducible refine gate_dst (N := 23) rfl ?_); (try (refine gate_guard (by rfl) ?_; dsimp only)); refine Kd.R_lit (Kd.int .u8) _ 5 ?hg (N := 23) ?hd (xs := ([(97 + (Int.tmod a1 26)) % 256] : List Int)) (inner := [.int .u8 ((97 + (Int.tmod a1 26)) % 256)]) (ok := fun _ => True) (okp := fun _ => True) ?hr ?hp (fun _ hk => hk) trivial (Below.refl _ _) (Nat.le_refl _) (by simp) ?_; (case hd => rfl); (case hg => rfl); (case hr => first | (go_simp; done) | (go_simp; rfl)); (case hp => exact (Reps.one (show Kd.M (Kd.int .u8) _ _ _ ((97 + (Int.tmod a1 26)) % 256) [.int .u8 ((97 + (Int.tmod a1 26)) % 256)] from rfl) (Reps.none _ _))); intro v269 w3 ho4 hb hg_ hnew_; clear hg_ hnew_; (first | rw [← Ny268.out] at ho4 | (simp only [Int.reduceToNat] at ho4; rw [← Ny268.out] at ho4)); have n0_ := Aside0.mk (Kd.R_lower ho4 (below_size (by repeat (first | (with_reducible first | exact HB.out | apply below_alloc | apply pw_below_drewN | apply below_drew1) | exact HB.out)))); have n1_ := Aside0.mk (below_step (by repeat (first | (with_reducible first | exact HB.out | apply below_alloc | apply pw_below_drewN | apply below_drew1) | exact HB.out)) hb); clear HB; have HO270 := n0_; have HB := n1_; clear n0_ n1_; clear hb ho4; have hcv5 := own_string (P := Tryd.prog) Tryd.underlying73 Tryd.underlying5 Tryd.underlying9 (Kd.own_of_R HO270.out)))
  go_loopg [7] k (fun kq v7 w' => ∃ (x7_1 : ByteArray), v7 = .string x7_1 ∧ Aside0 (jetsamlaw01_LexNames.l0 kq (wrap64 (1 + (wrap64 (Int.tmod (IntKind.u64.wrap (a0)) 16)))) x7_1 = some r) ∧ Aside0 (kq ≤ k) ∧ Aside0 (Below w.heap.size w w'))
  case atStart => exact ⟨(strOfNums y268), (by first | rfl | (simp; done) | (simp [*]; done)), H', ⟨Nat.le_refl _⟩, ⟨by repeat (first | (with_reducible first | exact HB.out | apply below_alloc | apply pw_below_drewN | apply below_drew1) | exact HB.out)⟩⟩
  case round =>
    clear H'
    try clear c1
    try clear p2
    try clear hcv5
    obtain ⟨x7_1, rfl, HA, HK1, HB⟩ := hrel
    cases gk with
    | zero => exact absurd HA.out (by simp [jetsamlaw01_LexNames.l0])
    | succ k1 =>
      have H := HA.out
      clear HA
      simp only [jetsamlaw01_LexNames.l0] at H
      by_cases c6 : (x7_1.size : Int) < (wrap64 (1 + (wrap64 (Int.tmod (IntKind.u64.wrap (a0)) 16))))
      · rw [if_pos c6] at H
        have c6b0 : decide ((x7_1.size : Int) < (wrap64 (1 + (wrap64 (Int.tmod (IntKind.u64.wrap (a0)) 16))))) = true := decide_eq_true c6
        clear c6
        by_cases c7 : x7_1.size + 1 ≤ 9223372036854775807
        · rw [if_pos c7] at H
          have c7b0 := eq_true c7
          have c7b1 : decide (x7_1.size + 1 ≤ 9223372036854775807) = true := decide_eq_true c7
          try have c7b2 : (9223372036854775807 < x7_1.size + 1) = False := eq_false (Nat.not_lt.2 c7)
          have H' := Aside0.mk H
          clear H
          go_wp2
          go_roundg k1
          case measure => have := HK1.out; omega
          case rel => exact ⟨(x7_1 ++ (⟨#[49]⟩ : ByteArray)), (by first | rfl | (simp; done) | (simp [*]; done)), H', ⟨by have := HK1.out; omega⟩, ⟨by repeat (first | (with_reducible first | exact HB.out | apply below_alloc | apply pw_below_drewN | apply below_drew1) | exact HB.out)⟩⟩
        · rw [if_neg c7] at H
          exact absurd H (by simp)
      · rw [if_neg c6] at H
        have c6b0 : decide ((x7_1.size : Int) < (wrap64 (1 + (wrap64 (Int.tmod (IntKind.u64.wrap (a0)) 16))))) = false := decide_eq_false c6
        clear c6
        by_cases c8 : 1 + x7_1.size ≤ 9223372036854775807
        · rw [if_pos c8] at H
          have c8b0 := eq_true c8
          have c8b1 : decide (1 + x7_1.size ≤ 9223372036854775807) = true := decide_eq_true c8
          try have c8b2 : (9223372036854775807 < 1 + x7_1.size) = False := eq_false (Nat.not_lt.2 c8)
          replace H := Option.bind_eq_some_iff.mp H
          obtain ⟨⟨t271, t272, t273⟩, A90, H⟩ := H
          replace H : ((lex_Lex.f k1 ((⟨#[49]⟩ : ByteArray) ++ x7_1)).bind fun bt276 => ((jetsamlaw01_reads.f k1).bind fun t281 => (if t281 = true then (jetsamlaw01_LexNames.j1 k1 (wrap64 (1 + (wrap64 (Int.tmod (IntKind.u64.wrap (a0)) 16)))) x7_1 t271 t272 t273 (bt276.2.2 != 3)) else (jetsamlaw01_LexNames.j1 k1 (wrap64 (1 + (wrap64 (Int.tmod (IntKind.u64.wrap (a0)) 16)))) x7_1 t271 t272 t273 true)))) = some r := H
          have A9 := Aside0.mk A90
          clear A90
          replace H := Option.bind_eq_some_iff.mp H
          obtain ⟨⟨t276, t277, t278⟩, A100, H⟩ := H
          replace H : ((jetsamlaw01_reads.f k1).bind fun t281 => (if t281 = true then (jetsamlaw01_LexNames.j1 k1 (wrap64 (1 + (wrap64 (Int.tmod (IntKind.u64.wrap (a0)) 16)))) x7_1 t271 t272 t273 (t278 != 3)) else (jetsamlaw01_LexNames.j1 k1 (wrap64 (1 + (wrap64 (Int.tmod (IntKind.u64.wrap (a0)) 16)))) x7_1 t271 t272 t273 true))) = some r := H
          have A10 := Aside0.mk A100
          clear A100
          have HC11 := Aside0.mk H
          clear H
          go_upto_region 8 with (first | ((with_reducible refine gate_callee (f := 22) rfl ?_); refine goesL_ (some 34) rfl rfl Tryd.func22 (by kernel_rfl) rfl #[.string ((⟨#[32]⟩ : ByteArray) ++ x7_1)] rfl (by (try simp only [List.map_toArray, List.map_cons, List.map_nil]); first | done | rfl | (simp only [List.length_drop, List.length_take]; rfl)) ?_; (with_reducible refine (lex_Lex.calls k1 ((⟨#[32]⟩ : ByteArray) ++ x7_1) t271 t272 t273 _ A9.out (by first | exact hL | exact Laid.at hL (by repeat (first | (with_reducible first | exact HB.out | apply below_alloc | apply pw_below_drewN | apply below_drew1) | exact HB.out)))).mono ?_); rintro e w12 ⟨v274, rfl, ho0, hb⟩; refine ⟨_, rfl, ?_⟩; have n0_ := Aside0.mk (Kd.R_lower ho0 (below_size (by repeat (first | (with_reducible first | exact HB.out | apply below_alloc | apply pw_below_drewN | apply below_drew1) | exact HB.out)))); have n1_ := Aside0.mk (below_step (by repeat (first | (with_reducible first | exact HB.out | apply below_alloc | apply pw_below_drewN | apply below_drew1) | exact HB.out)) hb); clear HB; have HO275 := n0_; have HB := n1_; clear n0_ n1_; (try clear hb); (try clear hb2); (try clear hk); (try clear hi); (try clear ho0)) | ((with_reducible refine gate_callee (f := 22) rfl ?_); refine goesL_ (some 41) rfl rfl Tryd.func22 (by kernel_rfl) rfl #[.string ((⟨#[49]⟩ : ByteArray) ++ x7_1)] rfl (by (try simp only [List.map_toArray, List.map_cons, List.map_nil]); first | done | rfl | (simp only [List.length_drop, List.length_take]; rfl)) ?_; (with_reducible refine (lex_Lex.calls k1 ((⟨#[49]⟩ : ByteArray) ++ x7_1) t276 t277 t278 _ A10.out (by first | exact hL | exact Laid.at hL (by repeat (first | (with_reducible first | exact HB.out | apply below_alloc | apply pw_below_drewN | apply below_drew1) | exact HB.out)))).mono ?_); rintro e w13 ⟨v279, rfl, ho0, hb⟩; refine ⟨_, rfl, ?_⟩; have n0_ := Aside0.mk (Kd.R_elder' (by (with_reducible repeat (first | apply Kd.R_alloc | apply Kd.R_drewN | apply Kd.R_drew)); exact HO275.out) (Kd.R_base ho0) hb); have n1_ := Aside0.mk (Kd.R_lower (Kd.R_new' ho0 (Kd.R_lt (by (with_reducible repeat (first | apply Kd.R_alloc | apply Kd.R_drewN | apply Kd.R_drew)); exact HO275.out))) (below_size (by repeat (first | (with_reducible first | exact HB.out | apply below_alloc | apply pw_below_drewN | apply below_drew1) | exact HB.out)))); have n2_ := Aside0.mk (below_step (by repeat (first | (with_reducible first | exact HB.out | apply below_alloc | apply pw_below_drewN | apply below_drew1) | exact HB.out)) hb); clear HO275; clear HB; have HO275 := n0_; have HO280 := n1_; have HB := n2_; clear n0_ n1_ n2_; (try clear hb); (try clear hb2); (try clear hk); (try clear hi); (try clear ho0)))
          (try simp only [Act.put, List.setIfInBounds_toArray, List.set_cons_zero, List.set_cons_succ])
          go_cut [50] (fun v50 wc => ∃ (kq : Nat) (x50_10 : Bool), v50 = .bool x50_10 ∧ Aside0 (jetsamlaw01_LexNames.j1 kq (wrap64 (1 + (wrap64 (Int.tmod (IntKind.u64.wrap (a0)) 16)))) x7_1 t271 t272 t273 x50_10 = some r) ∧ Aside0 (kq ≤ k1) ∧ Aside0 (Kd.R k67 67 wc w.heap.size (fun _ => True) v274 t271) ∧ Aside0 (Below w.heap.size w wc))
          case first =>
            have H := HC11.out
            clear HC11
            replace H := Option.bind_eq_some_iff.mp H
            obtain ⟨t281, A140, H⟩ := H
            replace H : (if t281 = true then (jetsamlaw01_LexNames.j1 k1 (wrap64 (1 + (wrap64 (Int.tmod (IntKind.u64.wrap (a0)) 16)))) x7_1 t271 t272 t273 (t278 != 3)) else (jetsamlaw01_LexNames.j1 k1 (wrap64 (1 + (wrap64 (Int.tmod (IntKind.u64.wrap (a0)) 16)))) x7_1 t271 t272 t273 true)) = some r := H
            have A14 := Aside0.mk A140
            clear A140
            by_cases c15 : t281 = true
            · subst c15
              have H1 : (jetsamlaw01_LexNames.j1 k1 (wrap64 (1 + (wrap64 (Int.tmod (IntKind.u64.wrap (a0)) 16)))) x7_1 t271 t272 t273 (t278 != 3)) = some r := by rw [if_pos rfl] at H; exact H
              clear H
              have H := H1
              clear H1
              have H' := Aside0.mk H
              clear H
              go_wp2_with (first | ((with_reducible refine gate_callee (f := 24) rfl ?_); refine goesL_ (some 45) rfl rfl Tryd.func24 (by kernel_rfl) rfl #[] rfl (by (try simp only [List.map_toArray, List.map_cons, List.map_nil]); first | done | rfl | (simp only [List.length_drop, List.length_take]; rfl)) ?_; (with_reducible refine (jetsamlaw01_reads.calls k1  true _ A14.out (by first | exact hL | exact Laid.at hL (by repeat (first | (with_reducible first | exact HB.out | apply below_alloc | apply pw_below_drewN | apply below_drew1) | exact HB.out)))).mono ?_); rintro e w16 ⟨rfl, hb⟩; refine ⟨_, rfl, ?_⟩; have n0_ := Aside0.mk (Kd.R_below (by (with_reducible repeat (first | apply Kd.R_alloc | apply Kd.R_drewN | apply Kd.R_drew)); exact HO275.out) hb); have n1_ := Aside0.mk (Kd.R_below (by (with_reducible repeat (first | apply Kd.R_alloc | apply Kd.R_drewN | apply Kd.R_drew)); exact HO280.out) hb); have n2_ := Aside0.mk (below_step (by repeat (first | (with_reducible first | exact HB.out | apply below_alloc | apply pw_below_drewN | apply below_drew1) | exact HB.out)) hb); clear HO275; clear HO280; clear HB; have HO275 := n0_; have HO280 := n1_; have HB := n2_; clear n0_ n1_ n2_; (try clear hb); (try clear hb2); (try clear hk); (try clear hi)))
              go_meet
              case rel => exact ⟨_, ((t278 != 3)), (by first | rfl | (simp; done) | (simp [*]; done)), H', ⟨by have := HK1.out; first | omega | exact Nat.le_refl _⟩, ⟨by (with_reducible repeat (first | apply Kd.R_alloc | apply Kd.R_drewN | apply Kd.R_drew)); exact Kd.R_mono HO275.out (fun _ hk => trivial)⟩, ⟨by repeat (first | (with_reducible first | exact HB.out | apply below_alloc | apply pw_below_drewN | apply below_drew1) | exact HB.out)⟩⟩
            · replace c15 := Bool.eq_false_iff.mpr c15
              subst c15
              have H1 : (jetsamlaw01_LexNames.j1 k1 (wrap64 (1 + (wrap64 (Int.tmod (IntKind.u64.wrap (a0)) 16)))) x7_1 t271 t272 t273 true) = some r := by rw [if_neg (show ¬ (false = true) by decide)] at H; exact H
              clear H
              have H := H1
              clear H1
              have H' := Aside0.mk H
              clear H
              go_wp2_with (first | ((with_reducible refine gate_callee (f := 24) rfl ?_); refine goesL_ (some 45) rfl rfl Tryd.func24 (by kernel_rfl) rfl #[] rfl (by (try simp only [List.map_toArray, List.map_cons, List.map_nil]); first | done | rfl | (simp only [List.length_drop, List.length_take]; rfl)) ?_; (with_reducible refine (jetsamlaw01_reads.calls k1  false _ A14.out (by first | exact hL | exact Laid.at hL (by repeat (first | (with_reducible first | exact HB.out | apply below_alloc | apply pw_below_drewN | apply below_drew1) | exact HB.out)))).mono ?_); rintro e w17 ⟨rfl, hb⟩; refine ⟨_, rfl, ?_⟩; have n0_ := Aside0.mk (Kd.R_below (by (with_reducible repeat (first | apply Kd.R_alloc | apply Kd.R_drewN | apply Kd.R_drew)); exact HO275.out) hb); have n1_ := Aside0.mk (Kd.R_below (by (with_reducible repeat (first | apply Kd.R_alloc | apply Kd.R_drewN | apply Kd.R_drew)); exact HO280.out) hb); have n2_ := Aside0.mk (below_step (by repeat (first | (with_reducible first | exact HB.out | apply below_alloc | apply pw_below_drewN | apply below_drew1) | exact HB.out)) hb); clear HO275; clear HO280; clear HB; have HO275 := n0_; have HO280 := n1_; have HB := n2_; clear n0_ n1_ n2_; (try clear hb); (try clear hb2); (try clear hk); (try clear hi)))
              go_meet
              case rel => exact ⟨_, (true), (by first | rfl | (simp; done) | (simp [*]; done)), H', ⟨by have := HK1.out; first | omega | exact Nat.le_refl _⟩, ⟨by (with_reducible repeat (first | apply Kd.R_alloc | apply Kd.R_drewN | apply Kd.R_drew)); exact Kd.R_mono HO275.out (fun _ hk => trivial)⟩, ⟨by repeat (first | (with_reducible first | exact HB.out | apply below_alloc | apply pw_below_drewN | apply below_drew1) | exact HB.out)⟩⟩
          case rest =>
            clear HC11
            try clear c1
            try clear c2
            try clear p2
            try clear hcv5
            try clear c6
            try clear c6b0
            try clear p6
            try clear c7
            try clear c7b0
            try clear c7b1
            try clear c7b2
            try clear c8
            try clear c8b0
            try clear c8b1
            try clear c8b2
            try clear c11
            try clear c15
            try clear p2
            obtain ⟨kq, x50_10, rfl, HA, HJ10, HO_8, HB⟩ := hcut
            cases kq with
            | zero => exact absurd HA.out (by simp [jetsamlaw01_LexNames.j1])
            | succ kj10 =>
              have H := HA.out
              clear HA
              simp only [jetsamlaw01_LexNames.j1] at H
              by_cases c18 : x50_10 = true
              · subst c18
                have H1 : (some false) = some r := by rw [if_pos rfl] at H; exact H
                clear H
                have H := H1
                clear H1
                obtain rfl := Option.some.inj H
                go_wp2
                go_ret
                exact ⟨by first | rfl | (simp [errW_none, errW_some] <;> rfl) | (simp [*, errW_none, errW_some] <;> rfl), by repeat (first | (with_reducible first | exact HB.out | apply below_alloc | apply pw_below_drewN | apply below_drew1) | exact HB.out)⟩
              · replace c18 := Bool.eq_false_iff.mpr c18
                subst c18
                have H1 : (if (wrap64 (1 + (wrap64 (Int.tmod (IntKind.u64.wrap (a0)) 16)))) > 12 then (if t273 = 3 then (if t272 = 1 then (some ((t271.length : Int) == 0)) else (some false)) else (some false)) else (if t273 = 0 then (if (t271.length : Int) = 1 then (if 0 < (t271.length : Int) then (if ((rd_T67 t271 0).f0) = 1 then (some (((rd_T67 t271 0).f1).toList == x7_1.toList)) else (some false)) else (none)) else (some false)) else (some false))) = some r := by rw [if_neg (show ¬ (false = true) by decide)] at H; exact H
                clear H
                have H := H1
                clear H1
                by_cases c19 : (wrap64 (1 + (wrap64 (Int.tmod (IntKind.u64.wrap (a0)) 16)))) > 12
                · rw [if_pos c19] at H
                  have c19b0 : decide (12 < (wrap64 (1 + (wrap64 (Int.tmod (IntKind.u64.wrap (a0)) 16))))) = true := decide_eq_true c19
                  clear c19
                  by_cases c20 : t273 = 3
                  · rw [if_pos c20] at H
                    have c20b0 : (t273 == 3) = true := beq_iff_eq.mpr c20
                    have c20b1 : (t273 != 3) = false := bne_eq_false_iff_eq.mpr c20
                    clear c20
                    by_cases c21 : t272 = 1
                    · rw [if_pos c21] at H
                      have c21b0 : (t272 == 1) = true := beq_iff_eq.mpr c21
                      have c21b1 : (t272 != 1) = false := bne_eq_false_iff_eq.mpr c21
                      clear c21
                      obtain rfl := Option.some.inj H
                      obtain ⟨Ao22, co22, eo22⟩ := Kd.R_slice HO_8.out
                      subst eo22
                      go_wp2
                      go_ret
                      exact ⟨by first | rfl | (simp [errW_none, errW_some] <;> rfl) | (simp [*, errW_none, errW_some] <;> rfl), by repeat (first | (with_reducible first | exact HB.out | apply below_alloc | apply pw_below_drewN | apply below_drew1) | exact HB.out)⟩
                    · rw [if_neg c21] at H
                      have c21b0 : (t272 == 1) = false := beq_eq_false_iff_ne.mpr c21
                      have c21b1 : (t272 != 1) = true := bne_iff_ne.mpr c21
                      obtain rfl := Option.some.inj H
                      go_wp2
                      go_ret
                      exact ⟨by first | rfl | (simp [errW_none, errW_some] <;> rfl) | (simp [*, errW_none, errW_some] <;> rfl), by repeat (first | (with_reducible first | exact HB.out | apply below_alloc | apply pw_below_drewN | apply below_drew1) | exact HB.out)⟩
                  · rw [if_neg c20] at H
                    have c20b0 : (t273 == 3) = false := beq_eq_false_iff_ne.mpr c20
                    have c20b1 : (t273 != 3) = true := bne_iff_ne.mpr c20
                    obtain rfl := Option.some.inj H
                    go_wp2
                    go_ret
                    exact ⟨by first | rfl | (simp [errW_none, errW_some] <;> rfl) | (simp [*, errW_none, errW_some] <;> rfl), by repeat (first | (with_reducible first | exact HB.out | apply below_alloc | apply pw_below_drewN | apply below_drew1) | exact HB.out)⟩
                · rw [if_neg c19] at H
                  have c19b0 : decide (12 < (wrap64 (1 + (wrap64 (Int.tmod (IntKind.u64.wrap (a0)) 16))))) = false := decide_eq_false c19
                  clear c19
                  by_cases c23 : t273 = 0
                  · rw [if_pos c23] at H
                    have c23b0 : (t273 == 0) = true := beq_iff_eq.mpr c23
                    have c23b1 : (t273 != 0) = false := bne_eq_false_iff_eq.mpr c23
                    clear c23
                    by_cases c24 : (t271.length : Int) = 1
                    · rw [if_pos c24] at H
                      have c24b0 : ((t271.length : Int) == 1) = true := beq_iff_eq.mpr c24
                      have c24b1 : ((t271.length : Int) != 1) = false := bne_eq_false_iff_eq.mpr c24
                      clear c24
                      by_cases c25 : 0 < (t271.length : Int)
                      · rw [if_pos c25] at H
                        have c25b0 : decide (0 < (t271.length : Int)) = true := decide_eq_true c25
                        have c25b1 : decide (0 < t271.length) = true := decide_eq_true (by omega)
                        clear c25
                        by_cases c26 : ((rd_T67 t271 0).f0) = 1
                        · rw [if_pos c26] at H
                          have c26b0 : (((rd_T67 t271 0).f0) == 1) = true := beq_iff_eq.mpr c26
                          have c26b1 : (((rd_T67 t271 0).f0) != 1) = false := bne_eq_false_iff_eq.mpr c26
                          clear c26
                          obtain rfl := Option.some.inj H
                          obtain ⟨Ao27, co27, eo27⟩ := Kd.R_slice HO_8.out
                          subst eo27
                          have p282 : 0 ≤ (0 : Int) := (by omega)
                          have q282 : 0 < (t271.length : Int) := of_decide_eq_true (by first | (with_reducible assumption) | assumption)
                          obtain ⟨ad282, e282, hx282_0, hx282_1, hx282_2, hx282_3⟩ := at_T67 (Kd.R_reads' HO_8.out).2.2 0 p282 q282
                          cases e282
                          have qi282 : (0 < t271.length) = True := eq_true (by omega)
                          (try rw [show ((0 : Int)).toNat = 0 from rfl] at hx282_0)
                          (try rw [show 0 * 4 = 0 from rfl] at hx282_0)
                          (try rw [Addr.add_zero'] at hx282_0)
                          (try rw [show ((0 : Int)).toNat = 0 from rfl] at hx282_1)
                          (try rw [show 0 * 4 = 0 from rfl] at hx282_1)
                          (try rw [Addr.add_zero'] at hx282_1)
                          (try rw [show ((0 : Int)).toNat = 0 from rfl] at hx282_2)
                          (try rw [show 0 * 4 = 0 from rfl] at hx282_2)
                          (try rw [Addr.add_zero'] at hx282_2)
                          (try rw [show ((0 : Int)).toNat = 0 from rfl] at hx282_3)
                          (try rw [show 0 * 4 = 0 from rfl] at hx282_3)
                          (try rw [Addr.add_zero'] at hx282_3)
                          replace p282 := eq_true p282
                          replace q282 := eq_true q282
                          have p283 : 0 ≤ (0 : Int) := (by omega)
                          have q283 : 0 < (t271.length : Int) := of_decide_eq_true (by first | (with_reducible assumption) | assumption)
                          obtain ⟨ad283, e283, hx283_0, hx283_1, hx283_2, hx283_3⟩ := at_T67 (Kd.R_reads' HO_8.out).2.2 0 p283 q283
                          obtain rfl : ad282 = ad283 := (by injection e283)
                          have qi283 : (0 < t271.length) = True := eq_true (by omega)
                          (try rw [show ((0 : Int)).toNat = 0 from rfl] at hx283_0)
                          (try rw [show 0 * 4 = 0 from rfl] at hx283_0)
                          (try rw [Addr.add_zero'] at hx283_0)
                          (try rw [show ((0 : Int)).toNat = 0 from rfl] at hx283_1)
                          (try rw [show 0 * 4 = 0 from rfl] at hx283_1)
                          (try rw [Addr.add_zero'] at hx283_1)
                          (try rw [show ((0 : Int)).toNat = 0 from rfl] at hx283_2)
                          (try rw [show 0 * 4 = 0 from rfl] at hx283_2)
                          (try rw [Addr.add_zero'] at hx283_2)
                          (try rw [show ((0 : Int)).toNat = 0 from rfl] at hx283_3)
                          (try rw [show 0 * 4 = 0 from rfl] at hx283_3)
                          (try rw [Addr.add_zero'] at hx283_3)
                          replace p283 := eq_true p283
                          replace q283 := eq_true q283
                          go_wp2
                          go_ret
                          exact ⟨by first | rfl | (simp [errW_none, errW_some] <;> rfl) | (simp [*, errW_none, errW_some] <;> rfl), by repeat (first | (with_reducible first | exact HB.out | apply below_alloc | apply pw_below_drewN | apply below_drew1) | exact HB.out)⟩
                        · rw [if_neg c26] at H
                          have c26b0 : (((rd_T67 t271 0).f0) == 1) = false := beq_eq_false_iff_ne.mpr c26
                          have c26b1 : (((rd_T67 t271 0).f0) != 1) = true := bne_iff_ne.mpr c26
                          obtain rfl := Option.some.inj H
                          obtain ⟨Ao28, co28, eo28⟩ := Kd.R_slice HO_8.out
                          subst eo28
                          have p282 : 0 ≤ (0 : Int) := (by omega)
                          have q282 : 0 < (t271.length : Int) := of_decide_eq_true (by first | (with_reducible assumption) | assumption)
                          obtain ⟨ad282, e282, hx282_0, hx282_1, hx282_2, hx282_3⟩ := at_T67 (Kd.R_reads' HO_8.out).2.2 0 p282 q282
                          cases e282
                          have qi282 : (0 < t271.length) = True := eq_true (by omega)
                          (try rw [show ((0 : Int)).toNat = 0 from rfl] at hx282_0)
                          (try rw [show 0 * 4 = 0 from rfl] at hx282_0)
                          (try rw [Addr.add_zero'] at hx282_0)
                          (try rw [show ((0 : Int)).toNat = 0 from rfl] at hx282_1)
                          (try rw [show 0 * 4 = 0 from rfl] at hx282_1)
                          (try rw [Addr.add_zero'] at hx282_1)
                          (try rw [show ((0 : Int)).toNat = 0 from rfl] at hx282_2)
                          (try rw [show 0 * 4 = 0 from rfl] at hx282_2)
                          (try rw [Addr.add_zero'] at hx282_2)
                          (try rw [show ((0 : Int)).toNat = 0 from rfl] at hx282_3)
                          (try rw [show 0 * 4 = 0 from rfl] at hx282_3)
                          (try rw [Addr.add_zero'] at hx282_3)
                          replace p282 := eq_true p282
                          replace q282 := eq_true q282
                          go_wp2
                          go_ret
                          exact ⟨by first | rfl | (simp [errW_none, errW_some] <;> rfl) | (simp [*, errW_none, errW_some] <;> rfl), by repeat (first | (with_reducible first | exact HB.out | apply below_alloc | apply pw_below_drewN | apply below_drew1) | exact HB.out)⟩
                      · rw [if_neg c25] at H
                        exact absurd H (by simp)
                    · rw [if_neg c24] at H
                      have c24b0 : ((t271.length : Int) == 1) = false := beq_eq_false_iff_ne.mpr c24
                      have c24b1 : ((t271.length : Int) != 1) = true := bne_iff_ne.mpr c24
                      obtain rfl := Option.some.inj H
                      obtain ⟨Ao29, co29, eo29⟩ := Kd.R_slice HO_8.out
                      subst eo29
                      go_wp2
                      go_ret
                      exact ⟨by first | rfl | (simp [errW_none, errW_some] <;> rfl) | (simp [*, errW_none, errW_some] <;> rfl), by repeat (first | (with_reducible first | exact HB.out | apply below_alloc | apply pw_below_drewN | apply below_drew1) | exact HB.out)⟩
                  · rw [if_neg c23] at H
                    have c23b0 : (t273 == 0) = false := beq_eq_false_iff_ne.mpr c23
                    have c23b1 : (t273 != 0) = true := bne_iff_ne.mpr c23
                    obtain rfl := Option.some.inj H
                    go_wp2
                    go_ret
                    exact ⟨by first | rfl | (simp [errW_none, errW_some] <;> rfl) | (simp [*, errW_none, errW_some] <;> rfl), by repeat (first | (with_reducible first | exact HB.out | apply below_alloc | apply pw_below_drewN | apply below_drew1) | exact HB.out)⟩
        · rw [if_neg c8] at H
          exact absurd H (by simp)

/-- THE ONE PURE STATEMENT of jetsamlaw01_LexNames: yours. -/
def jetsamlaw01_LexNames.Pure : Prop := ∀ (a0 : Int) (a1 : Int), (Lit.int .i64 a0).wf = true → (Lit.int .u8 a1).wf = true → ∃ k, jetsamlaw01_LexNames.f k a0 a1 = some true
theorem jetsamlaw01_LexNames.walk (P : jetsamlaw01_LexNames.Pure) (a0 : Int) (a1 : Int) (w : World) (w0 : (Lit.int .i64 a0).wf = true) (w1 : (Lit.int .u8 a1).wf = true) (hL : Aside0 (Laid w)) :
    Calls Tryd.prog 11 #[.int .i64 a0, .int .u8 a1] w fun e w' => e = .returned (.bool true) ∧ Below w.heap.size w w' := by
  obtain ⟨k, h⟩ := P a0 a1 w0 w1
  refine (jetsamlaw01_LexNames.calls k a0 a1 true w h (by first | exact hL | exact Laid.at hL (by repeat (first | (with_reducible first | exact HB.out | apply below_alloc | apply pw_below_drewN | apply below_drew1) | exact HB.out)))).mono ?_
  rintro e w' ⟨rfl, hd⟩
  exact ⟨rfl, hd⟩

end Go.Proofs.YtjcbedgpmjgcdaaDoor.PLex

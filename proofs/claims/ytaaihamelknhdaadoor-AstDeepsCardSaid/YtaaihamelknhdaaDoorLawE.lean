/- AstEmpty: the plain law. -/
import Derived.Test.YtaaihamelknhdaaDoorCvQ
namespace Go.Proofs.YtaaihamelknhdaaDoor.Abs.Wri
open Go Go.RowKit
set_option linter.unusedVariables false
set_option linter.unusedSimpArgs false
theorem iter_for {X O : Type} {body : X → Option (Sum X O)} (n : Nat) (x : Nat → X) (o : O) (hs : ∀ i, i < n → body (x i) = some (.inl (x (i + 1)))) (he : body (x n) = some (.inr o)) : iter body (x 0) = some o := by
  have : ∀ k, k ≤ n → iter body (x (n - k)) = some o := by
    intro k
    induction k with
    | zero => intro _; exact iter_out he
    | succ k ih =>
      intro hk
      rw [iter_in (hs (n - (k + 1)) (by omega)), show n - (k + 1) + 1 = n - k by omega]
      exact ih (by omega)
  have := this n (Nat.le_refl _)
  rwa [Nat.sub_self] at this
theorem rem4 (a : Int) : ∃ k : Nat, k < 4 ∧ rem (IntKind.u64.wrap a) 4 = some (k : Int) ∧ IntKind.i64.wrap (k : Int) = (k : Int) := by
  have h : (0 : Int) ≤ IntKind.u64.wrap a := by rw [IntKind.wrap_u64]; omega
  refine ⟨((IntKind.u64.wrap a).tmod 4).toNat, ?_, ?_, ?_⟩
  · have := Int.tmod_lt_of_pos (IntKind.u64.wrap a) (b := 4) (by omega)
    have := Int.tmod_nonneg 4 h
    omega
  · unfold rem
    rw [if_neg (by omega), Int.toNat_of_nonneg (Int.tmod_nonneg _ h)]
  · have := Int.tmod_lt_of_pos (IntKind.u64.wrap a) (b := 4) (by omega)
    exact w64 (by omega) (by omega)
def fc (i : Nat) : r02_Chan := (r02_Chan.mk (ByteArray.mk #[99]) ((i % 3 : Nat) : Int) (i : Int) (ByteArray.mk #[112]) (ByteArray.mk #[113]) [(ByteArray.mk #[97])])
def fr (i : Nat) : r02_Rule := (r02_Rule.mk (ByteArray.mk #[99]) [(r02_Move.mk (i : Int) (ByteArray.mk #[97]) 0)])
def fp (_ : Nat) : r02_Proc := (r02_Proc.mk (ByteArray.mk #[112]) [] [])
theorem flat_bad {β : Type} {g : Nat → β → Wr} : ∀ {l : List β} {i : Nat}, (∀ i, ∀ x ∈ l, (g i x).bad = false) → (flatW g i l).bad = false
  | [], i, h => rfl
  | x :: r, i, h => by simp only [flatW, Wr.bad_app, h i x List.mem_cons_self, flat_bad fun i y hy => h i y (List.mem_cons_of_mem _ hy), Bool.or_self]
theorem flat_dp {β : Type} {g : Nat → β → Wr} : ∀ {l : List β} {i : Nat}, (∀ i, ∀ x ∈ l, (g i x).dp = false) → (flatW g i l).dp = false
  | [], i, h => rfl
  | x :: r, i, h => by simp only [flatW, Wr.dp_app, h i x List.mem_cons_self, flat_dp fun i y hy => h i y (List.mem_cons_of_mem _ hy), Bool.or_self]
theorem flat_count {β : Type} {g : Nat → β → Wr} {c : Nat} : ∀ {l : List β} {i : Nat}, (∀ i, ∀ x ∈ l, (g i x).ws.length = c) → (flatW g i l).ws.length = c * l.length
  | [], i, h => by simp [flatW, Wr.nil]
  | x :: r, i, h => by
    have h1 := h i x List.mem_cons_self
    have h2 := flat_count (l := r) (i := i + 1) fun i y hy => h i y (List.mem_cons_of_mem _ hy)
    simp only [flatW, Wr.ws_app, List.length_append, List.length_cons, h1, h2, Nat.mul_succ]; omega
theorem wrap_succ {i : Nat} (h : i < 4) : IntKind.i64.wrap ((i : Int) + 1) = ((i + 1 : Nat) : Int) := by rw [w64 (by omega) (by omega)]; omega
theorem numOk_nat {i : Nat} (h : i < 4) : numOk (i : Int) = true := by unfold numOk; simp; omega
theorem empty_law (a0 a1 a2 : Int) : l02_AstEmpty a0 a1 a2 = some true := by
  obtain ⟨k0, l0, r0, w0⟩ := rem4 a0
  obtain ⟨k1, l1, r1, w1⟩ := rem4 a1
  obtain ⟨k2, l2, r2, w2⟩ := rem4 a2
  unfold l02_AstEmpty
  have e0 : iter (l02_AstEmpty_l1 a0) (0, []) = some (.inr ((List.range k0).map fc)) := by
    refine iter_for k0 (fun i => ((i : Int), (List.range i).map fc)) _ (fun i hi => ?_) ?_
    · unfold l02_AstEmpty_l1
      simp only [r0, w0, Option.bind_eq_bind, Option.bind_some]
      rw [if_pos (by simpa using hi)]
      have : rem (i : Int) 3 = some ((i % 3 : Nat) : Int) := by
        unfold rem; rw [if_neg (by omega)]; rfl
      simp only [this, Option.bind_some]
      rw [app_ok (by simp; omega), wrap_succ (by omega), List.range_succ, List.map_append]
      rfl
    · unfold l02_AstEmpty_l1
      simp only [r0, w0, Option.bind_eq_bind, Option.bind_some]
      rw [if_neg (by simp)]
  have e1 : iter (l02_AstEmpty_l2 a1) (0, []) = some (.inr ((List.range k1).map fr)) := by
    refine iter_for k1 (fun i => ((i : Int), (List.range i).map fr)) _ (fun i hi => ?_) ?_
    · unfold l02_AstEmpty_l2
      simp only [r1, w1, Option.bind_eq_bind, Option.bind_some]
      rw [if_pos (by simpa using hi)]
      rw [app_ok (by simp; omega), wrap_succ (by omega), List.range_succ, List.map_append]
      rfl
    · unfold l02_AstEmpty_l2
      simp only [r1, w1, Option.bind_eq_bind, Option.bind_some]
      rw [if_neg (by simp)]
  have e2 : iter (l02_AstEmpty_l3 a2) (0, []) = some (.inr ((List.range k2).map fp)) := by
    refine iter_for k2 (fun i => ((i : Int), (List.range i).map fp)) _ (fun i hi => ?_) ?_
    · unfold l02_AstEmpty_l3
      simp only [r2, w2, Option.bind_eq_bind, Option.bind_some]
      rw [if_pos (by simpa using hi)]
      rw [app_ok (by simp; omega), wrap_succ (by omega), List.range_succ, List.map_append]
      rfl
    · unfold l02_AstEmpty_l3
      simp only [r2, w2, Option.bind_eq_bind, Option.bind_some]
      rw [if_neg (by simp)]
  rw [e0]
  simp only [Option.bind_eq_bind, Option.bind_some, Sum.elim_inr]
  rw [e1]
  simp only [Option.bind_some, Sum.elim_inr]
  rw [e2]
  simp only [Option.bind_some, Sum.elim_inr]
  have nc := name_letter (b := 99) (by decide)
  have np := name_letter (b := 112) (by decide)
  have nq := name_letter (b := 113) (by decide)
  have na := name_letter (b := 97) (by decide)
  have z1 : (ByteArray.mk #[99]).size ≤ 4194304 := by decide
  have z2 : (ByteArray.mk #[112]).size ≤ 4194304 := by decide
  have z3 : (ByteArray.mk #[113]).size ≤ 4194304 := by decide
  have z4 : (ByteArray.mk #[97]).size ≤ 4194304 := by decide
  have ok : okSys (cSys ⟨(List.range k0).map fc, (List.range k1).map fr, (List.range k2).map fp⟩) := by
    refine ⟨?_, ?_, ?_⟩
    · intro c hc
      simp only [cSys, List.mem_map, List.mem_range] at hc
      obtain ⟨_, ⟨i, hi, rfl⟩, rfl⟩ := hc
      refine ⟨z1, z2, z3, ⟨?_, ?_⟩, ?_⟩
      · show _ ≤ ((i : Nat) : Int); omega
      · show ((i : Nat) : Int) ≤ _; omega
      · intro t ht
        simp only [cCh, fc, List.mem_singleton] at ht
        rw [ht]; exact z4
    · intro c hc
      simp only [cSys, List.mem_map, List.mem_range] at hc
      obtain ⟨_, ⟨i, hi, rfl⟩, rfl⟩ := hc
      refine ⟨z1, ?_⟩
      intro t ht
      simp only [cRu, fr, List.map_cons, List.map_nil, List.mem_singleton] at ht
      rw [ht]
      refine ⟨⟨?_, ?_⟩, z4, ⟨?_, ?_⟩⟩
      · show _ ≤ ((i : Nat) : Int); omega
      · show ((i : Nat) : Int) ≤ _; omega
      · show _ ≤ (0 : Int); omega
      · show (0 : Int) ≤ _; omega
    · intro c hc
      simp only [cSys, List.mem_map, List.mem_range] at hc
      obtain ⟨_, ⟨i, hi, rfl⟩, rfl⟩ := hc
      refine ⟨z2, ?_, ?_⟩
      · intro t ht; cases ht
      · show okL (cL []); simp only [cL, okL]
  have sz : szSys (cSys ⟨(List.range k0).map fc, (List.range k1).map fr, (List.range k2).map fp⟩) ≤ 1000 := by
    have s1 : sumN szCh (((List.range k0).map fc).map cCh) = 4 * k0 := by
      rw [sumN_map, sumN_map]
      exact (sumN_const 4 _).trans (by rw [List.length_range])
    have s2 : sumN szR (((List.range k1).map fr).map cRu) = 2 * k1 := by
      rw [sumN_map, sumN_map]
      exact (sumN_const 2 _).trans (by rw [List.length_range])
    have s3 : sumN szP (((List.range k2).map fp).map cPr) = 2 * k2 := by
      rw [sumN_map, sumN_map]
      exact (sumN_const 2 _).trans (by rw [List.length_range])
    unfold szSys cSys
    simp only [s1, s2, s3]; omega
  rw [sys_cv (by omega)]
  simp only [Option.bind_some]
  rw [words_f ok (by omega), texts_f]
  simp only [Option.bind_some, if_true]
  have hb : (sSys (cSys ⟨(List.range k0).map fc, (List.range k1).map fr, (List.range k2).map fp⟩)).bad = false := by
    unfold sSys
    simp only [Wr.bad_app, Bool.or_eq_false_iff]
    refine ⟨flat_bad ?_, flat_bad ?_, flat_bad ?_⟩
    · intro j c hc
      simp only [cSys, List.mem_map, List.mem_range] at hc
      obtain ⟨_, ⟨i, hi, rfl⟩, rfl⟩ := hc
      have hk : kindOk ((i : Int) % 3) = true := by unfold kindOk; simp; omega
      have hn := numOk_nat (i := i) (by omega)
      simp [cCh, fc, sCh, hk, wW, wN, wI, wM, wTag, flatW, Wr.nil, nc, np, nq, na, hn]
    · intro j c hc
      simp only [cSys, List.mem_map, List.mem_range] at hc
      obtain ⟨_, ⟨i, hi, rfl⟩, rfl⟩ := hc
      have hn := numOk_nat (i := i) (by omega)
      have h0 : numOk 0 = true := rfl
      simp [cRu, fr, sR, cMo, wMove, wW, wN, wI, flatW, Wr.nil, nc, na, hn, h0]
    · intro j c hc
      simp only [cSys, List.mem_map, List.mem_range] at hc
      obtain ⟨_, ⟨i, hi, rfl⟩, rfl⟩ := hc
      simp [cPr, fp, sP, cL, sL, wW, wN, flatW, Wr.nil, np]
  have hd : (sSys (cSys ⟨(List.range k0).map fc, (List.range k1).map fr, (List.range k2).map fp⟩)).dp = false := by
    unfold sSys
    simp only [Wr.dp_app, Bool.or_eq_false_iff]
    refine ⟨flat_dp ?_, flat_dp ?_, flat_dp ?_⟩
    · intro j c hc
      simp only [cSys, List.mem_map, List.mem_range] at hc
      obtain ⟨_, ⟨i, hi, rfl⟩, rfl⟩ := hc
      have hk : kindOk ((i : Int) % 3) = true := by unfold kindOk; simp; omega
      simp [cCh, fc, sCh, hk, wW, wN, wI, wM, wTag, flatW, Wr.nil]
    · intro j c hc
      simp only [cSys, List.mem_map, List.mem_range] at hc
      obtain ⟨_, ⟨i, hi, rfl⟩, rfl⟩ := hc
      simp [cRu, fr, sR, cMo, wMove, wW, wN, wI, flatW, Wr.nil]
    · intro j c hc
      simp only [cSys, List.mem_map, List.mem_range] at hc
      obtain ⟨_, ⟨i, hi, rfl⟩, rfl⟩ := hc
      simp [cPr, fp, sP, cL, sL, wW, wN, flatW, Wr.nil]
  have hw : (sSys (cSys ⟨(List.range k0).map fc, (List.range k1).map fr, (List.range k2).map fp⟩)).ws.length = 12 * k0 + 8 * k1 + 4 * k2 := by
    unfold sSys
    simp only [Wr.ws_app, List.length_append]
    rw [flat_count (c := 12), flat_count (c := 8), flat_count (c := 4)]
    · simp only [cSys, List.length_map, List.length_range]; omega
    · intro j c hc
      simp only [cSys, List.mem_map, List.mem_range] at hc
      obtain ⟨_, ⟨i, hi, rfl⟩, rfl⟩ := hc
      simp [cPr, fp, sP, cL, sL, wW, wN, flatW, Wr.nil]
    · intro j c hc
      simp only [cSys, List.mem_map, List.mem_range] at hc
      obtain ⟨_, ⟨i, hi, rfl⟩, rfl⟩ := hc
      simp [cRu, fr, sR, cMo, wMove, wW, wN, wI, flatW, Wr.nil]
    · intro j c hc
      simp only [cSys, List.mem_map, List.mem_range] at hc
      obtain ⟨_, ⟨i, hi, rfl⟩, rfl⟩ := hc
      have hk : kindOk ((i : Int) % 3) = true := by unfold kindOk; simp; omega
      simp [cCh, fc, sCh, hk, wW, wN, wI, wM, wTag, flatW, Wr.nil]
  unfold endW
  rw [hb, hd, hw]
  simp only [Bool.false_eq_true, if_false]
  rw [if_neg (show ¬ 2000 < 12 * k0 + 8 * k1 + 4 * k2 by omega)]
  simp only [hw, List.length_map, List.length_range]
  rw [w64 (n := 12 * (k0 : Int)) (by omega) (by omega), w64 (n := 8 * (k1 : Int)) (by omega) (by omega), w64 (n := 4 * (k2 : Int)) (by omega) (by omega), w64 (n := 12 * (k0 : Int) + 8 * (k1 : Int)) (by omega) (by omega), w64 (by omega) (by omega)]
  simp
end Go.Proofs.YtaaihamelknhdaaDoor.Abs.Wri

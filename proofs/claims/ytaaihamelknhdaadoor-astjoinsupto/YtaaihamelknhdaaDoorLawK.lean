/- AstEmpty: the plain law. -/
import Derived.Test.YtaaihamelknhdaaDoorCvQ
namespace Go.Proofs.YtaaihamelknhdaaDoor.Abs.Wri
open Go Go.RowKit
set_option linter.unusedVariables false
set_option linter.unusedSimpArgs false
theorem iter_for {X O : Type} {body : X → Option (Sum X O)} (n : Nat) (x : Nat → X) (o : O) (hs : ∀ i, i < n → body (x i) = some (.inl (x (i + 1)))) (he : body (x n) = some (.inr o)) : iter body (x 0) = some o := by
  have : ∀ k, k ≤ n → iter body (x (n - k)) = some o := by
    intro k
    induction k with
    | zero => intro _; exact iter_out he
    | succ k ih =>
      intro hk
      rw [iter_in (hs (n - (k + 1)) (by omega)), show n - (k + 1) + 1 = n - k by omega]
      exact ih (by omega)
  have := this n (Nat.le_refl _)
  rwa [Nat.sub_self] at this
theorem rem4 (a : Int) : ∃ k : Nat, k < 4 ∧ rem (IntKind.u64.wrap a) 4 = some (k : Int) ∧ IntKind.i64.wrap (k : Int) = (k : Int) := by
  have h : (0 : Int) ≤ IntKind.u64.wrap a := by rw [IntKind.wrap_u64]; omega
  refine ⟨((IntKind.u64.wrap a).tmod 4).toNat, ?_, ?_, ?_⟩
  · have := Int.tmod_lt_of_pos (IntKind.u64.wrap a) (b := 4) (by omega)
    have := Int.tmod_nonneg 4 h
    omega
  · unfold rem
    rw [if_neg (by omega), Int.toNat_of_nonneg (Int.tmod_nonneg _ h)]
  · have := Int.tmod_lt_of_pos (IntKind.u64.wrap a) (b := 4) (by omega)
    exact w64 (by omega) (by omega)
def fc (i : Nat) : r02_Chan := (r02_Chan.mk (ByteArray.mk #[99]) ((i % 3 : Nat) : Int) (i : Int) (ByteArray.mk #[112]) (ByteArray.mk #[113]) [(ByteArray.mk #[97])])
def fr (i : Nat) : r02_Rule := (r02_Rule.mk (ByteArray.mk #[99]) [(r02_Move.mk (i : Int) (ByteArray.mk #[97]) 0)])
def fp (_ : Nat) : r02_Proc := (r02_Proc.mk (ByteArray.mk #[112]) [] [])
theorem flat_bad {β : Type} {g : Nat → β → Wr} : ∀ {l : List β} {i : Nat}, (∀ i, ∀ x ∈ l, (g i x).bad = false) → (flatW g i l).bad = false
  | [], i, h => rfl
  | x :: r, i, h => by simp only [flatW, Wr.bad_app, h i x List.mem_cons_self, flat_bad fun i y hy => h i y (List.mem_cons_of_mem _ hy), Bool.or_self]
theorem flat_dp {β : Type} {g : Nat → β → Wr} : ∀ {l : List β} {i : Nat}, (∀ i, ∀ x ∈ l, (g i x).dp = false) → (flatW g i l).dp = false
  | [], i, h => rfl
  | x :: r, i, h => by simp only [flatW, Wr.dp_app, h i x List.mem_cons_self, flat_dp fun i y hy => h i y (List.mem_cons_of_mem _ hy), Bool.or_self]
theorem flat_count {β : Type} {g : Nat → β → Wr} {c : Nat} : ∀ {l : List β} {i : Nat}, (∀ i, ∀ x ∈ l, (g i x).ws.length = c) → (flatW g i l).ws.length = c * l.length
  | [], i, h => by simp [flatW, Wr.nil]
  | x :: r, i, h => by
    have h1 := h i x List.mem_cons_self
    have h2 := flat_count (l := r) (i := i + 1) fun i y hy => h i y (List.mem_cons_of_mem _ hy)
    simp only [flatW, Wr.ws_app, List.length_append, List.length_cons, h1, h2, Nat.mul_succ]; omega
theorem wrap_succ {i : Nat} (h : i < 4) : IntKind.i64.wrap ((i : Int) + 1) = ((i + 1 : Nat) : Int) := by rw [w64 (by omega) (by omega)]; omega
theorem numOk_nat {i : Nat} (h : i < 4) : numOk (i : Int) = true := by unfold numOk; simp; omega
theorem empty_law (a0 a1 a2 : Int) : l02_AstEmpty a0 a1 a2 = some true := by
  obtain ⟨k0, l0, r0, w0⟩ := rem4 a0
  obtain ⟨k1, l1, r1, w1⟩ := rem4 a1
  obtain ⟨k2, l2, r2, w2⟩ := rem4 a2
  unfold l02_AstEmpty
  have e0 : iter (l02_AstEmpty_l1 a0) (0, []) = some (.inr ((List.range k0).map fc)) := by
    refine iter_for k0 (fun i => ((i : Int), (List.range i).map fc)) _ (fun i hi => ?_) ?_
    · unfold l02_AstEmpty_l1
      simp only [r0, w0, Option.bind_eq_bind, Option.bind_some]
      rw [if_pos (by simpa using hi)]
      have : rem (i : Int) 3 = some ((i % 3 : Nat) : Int) := by
        unfold rem; rw [if_neg (by omega)]; rfl
      simp only [this, Option.bind_some]
      rw [app_ok (by simp; omega), wrap_succ (by omega), List.range_succ, List.map_append]
      rfl
    · unfold l02_AstEmpty_l1
      simp only [r0, w0, Option.bind_eq_bind, Option.bind_some]
      rw [if_neg (by simp)]
  have e1 : iter (l02_AstEmpty_l2 a1) (0, []) = some (.inr ((List.range k1).map fr)) := by
    refine iter_for k1 (fun i => ((i : Int), (List.range i).map fr)) _ (fun i hi => ?_) ?_
    · unfold l02_AstEmpty_l2
      simp only [r1, w1, Option.bind_eq_bind, Option.bind_some]
      rw [if_pos (by simpa using hi)]
      rw [app_ok (by simp; omega), wrap_succ (by omega), List.range_succ, List.map_append]
      rfl
    · unfold l02_AstEmpty_l2
      simp only [r1, w1, Option.bind_eq_bind, Option.bind_some]
      rw [if_neg (by simp)]
  have e2 : iter (l02_AstEmpty_l3 a2) (0, []) = some (.inr ((List.range k2).map fp)) := by
    refine iter_for k2 (fun i => ((i : Int), (List.range i).map fp)) _ (fun i hi => ?_) ?_
    · unfold l02_AstEmpty_l3
      simp only [r2, w2, Option.bind_eq_bind, Option.bind_some]
      rw [if_pos (by simpa using hi)]
      rw [app_ok (by simp; omega), wrap_succ (by omega), List.range_succ, List.map_append]
      rfl
    · unfold l02_AstEmpty_l3
      simp only [r2, w2, Option.bind_eq_bind, Option.bind_some]
      rw [if_neg (by simp)]
  rw [e0]
  simp only [Option.bind_eq_bind, Option.bind_some, Sum.elim_inr]
  rw [e1]
  simp only [Option.bind_some, Sum.elim_inr]
  rw [e2]
  simp only [Option.bind_some, Sum.elim_inr]
  have nc := name_letter (b := 99) (by decide)
  have np := name_letter (b := 112) (by decide)
  have nq := name_letter (b := 113) (by decide)
  have na := name_letter (b := 97) (by decide)
  have z1 : (ByteArray.mk #[99]).size ≤ 4194304 := by decide
  have z2 : (ByteArray.mk #[112]).size ≤ 4194304 := by decide
  have z3 : (ByteArray.mk #[113]).size ≤ 4194304 := by decide
  have z4 : (ByteArray.mk #[97]).size ≤ 4194304 := by decide
  have ok : okSys (cSys ⟨(List.range k0).map fc, (List.range k1).map fr, (List.range k2).map fp⟩) := by
    refine ⟨?_, ?_, ?_⟩
    · intro c hc
      simp only [cSys, List.mem_map, List.mem_range] at hc
      obtain ⟨_, ⟨i, hi, rfl⟩, rfl⟩ := hc
      refine ⟨z1, z2, z3, ⟨?_, ?_⟩, ?_⟩
      · show _ ≤ ((i : Nat) : Int); omega
      · show ((i : Nat) : Int) ≤ _; omega
      · intro t ht
        simp only [cCh, fc, List.mem_singleton] at ht
        rw [ht]; exact z4
    · intro c hc
      simp only [cSys, List.mem_map, List.mem_range] at hc
      obtain ⟨_, ⟨i, hi, rfl⟩, rfl⟩ := hc
      refine ⟨z1, ?_⟩
      intro t ht
      simp only [cRu, fr, List.map_cons, List.map_nil, List.mem_singleton] at ht
      rw [ht]
      refine ⟨⟨?_, ?_⟩, z4, ⟨?_, ?_⟩⟩
      · show _ ≤ ((i : Nat) : Int); omega
      · show ((i : Nat) : Int) ≤ _; omega
      · show _ ≤ (0 : Int); omega
      · show (0 : Int) ≤ _; omega
    · intro c hc
      simp only [cSys, List.mem_map, List.mem_range] at hc
      obtain ⟨_, ⟨i, hi, rfl⟩, rfl⟩ := hc
      refine ⟨z2, ?_, ?_⟩
      · intro t ht; cases ht
      · show okL (cL []); simp only [cL, okL]
  have sz : szSys (cSys ⟨(List.range k0).map fc, (List.range k1).map fr, (List.range k2).map fp⟩) ≤ 1000 := by
    have s1 : sumN szCh (((List.range k0).map fc).map cCh) = 4 * k0 := by
      rw [sumN_map, sumN_map]
      exact (sumN_const 4 _).trans (by rw [List.length_range])
    have s2 : sumN szR (((List.range k1).map fr).map cRu) = 2 * k1 := by
      rw [sumN_map, sumN_map]
      exact (sumN_const 2 _).trans (by rw [List.length_range])
    have s3 : sumN szP (((List.range k2).map fp).map cPr) = 2 * k2 := by
      rw [sumN_map, sumN_map]
      exact (sumN_const 2 _).trans (by rw [List.length_range])
    unfold szSys cSys
    simp only [s1, s2, s3]; omega
  rw [sys_cv (by omega)]
  simp only [Option.bind_some]
  rw [words_f ok (by omega), texts_f]
  simp only [Option.bind_some, if_true]
  have hb : (sSys (cSys ⟨(List.range k0).map fc, (List.range k1).map fr, (List.range k2).map fp⟩)).bad = false := by
    unfold sSys
    simp only [Wr.bad_app, Bool.or_eq_false_iff]
    refine ⟨flat_bad ?_, flat_bad ?_, flat_bad ?_⟩
    · intro j c hc
      simp only [cSys, List.mem_map, List.mem_range] at hc
      obtain ⟨_, ⟨i, hi, rfl⟩, rfl⟩ := hc
      have hk : kindOk ((i : Int) % 3) = true := by unfold kindOk; simp; omega
      have hn := numOk_nat (i := i) (by omega)
      simp [cCh, fc, sCh, hk, wW, wN, wI, wM, wTag, flatW, Wr.nil, nc, np, nq, na, hn]
    · intro j c hc
      simp only [cSys, List.mem_map, List.mem_range] at hc
      obtain ⟨_, ⟨i, hi, rfl⟩, rfl⟩ := hc
      have hn := numOk_nat (i := i) (by omega)
      have h0 : numOk 0 = true := rfl
      simp [cRu, fr, sR, cMo, wMove, wW, wN, wI, flatW, Wr.nil, nc, na, hn, h0]
    · intro j c hc
      simp only [cSys, List.mem_map, List.mem_range] at hc
      obtain ⟨_, ⟨i, hi, rfl⟩, rfl⟩ := hc
      simp [cPr, fp, sP, cL, sL, wW, wN, flatW, Wr.nil, np]
  have hd : (sSys (cSys ⟨(List.range k0).map fc, (List.range k1).map fr, (List.range k2).map fp⟩)).dp = false := by
    unfold sSys
    simp only [Wr.dp_app, Bool.or_eq_false_iff]
    refine ⟨flat_dp ?_, flat_dp ?_, flat_dp ?_⟩
    · intro j c hc
      simp only [cSys, List.mem_map, List.mem_range] at hc
      obtain ⟨_, ⟨i, hi, rfl⟩, rfl⟩ := hc
      have hk : kindOk ((i : Int) % 3) = true := by unfold kindOk; simp; omega
      simp [cCh, fc, sCh, hk, wW, wN, wI, wM, wTag, flatW, Wr.nil]
    · intro j c hc
      simp only [cSys, List.mem_map, List.mem_range] at hc
      obtain ⟨_, ⟨i, hi, rfl⟩, rfl⟩ := hc
      simp [cRu, fr, sR, cMo, wMove, wW, wN, wI, flatW, Wr.nil]
    · intro j c hc
      simp only [cSys, List.mem_map, List.mem_range] at hc
      obtain ⟨_, ⟨i, hi, rfl⟩, rfl⟩ := hc
      simp [cPr, fp, sP, cL, sL, wW, wN, flatW, Wr.nil]
  have hw : (sSys (cSys ⟨(List.range k0).map fc, (List.range k1).map fr, (List.range k2).map fp⟩)).ws.length = 12 * k0 + 8 * k1 + 4 * k2 := by
    unfold sSys
    simp only [Wr.ws_app, List.length_append]
    rw [flat_count (c := 12), flat_count (c := 8), flat_count (c := 4)]
    · simp only [cSys, List.length_map, List.length_range]; omega
    · intro j c hc
      simp only [cSys, List.mem_map, List.mem_range] at hc
      obtain ⟨_, ⟨i, hi, rfl⟩, rfl⟩ := hc
      simp [cPr, fp, sP, cL, sL, wW, wN, flatW, Wr.nil]
    · intro j c hc
      simp only [cSys, List.mem_map, List.mem_range] at hc
      obtain ⟨_, ⟨i, hi, rfl⟩, rfl⟩ := hc
      simp [cRu, fr, sR, cMo, wMove, wW, wN, wI, flatW, Wr.nil]
    · intro j c hc
      simp only [cSys, List.mem_map, List.mem_range] at hc
      obtain ⟨_, ⟨i, hi, rfl⟩, rfl⟩ := hc
      have hk : kindOk ((i : Int) % 3) = true := by unfold kindOk; simp; omega
      simp [cCh, fc, sCh, hk, wW, wN, wI, wM, wTag, flatW, Wr.nil]
  unfold endW
  rw [hb, hd, hw]
  simp only [Bool.false_eq_true, if_false]
  rw [if_neg (show ¬ 2000 < 12 * k0 + 8 * k1 + 4 * k2 by omega)]
  simp only [hw, List.length_map, List.length_range]
  rw [w64 (n := 12 * (k0 : Int)) (by omega) (by omega), w64 (n := 8 * (k1 : Int)) (by omega) (by omega), w64 (n := 4 * (k2 : Int)) (by omega) (by omega), w64 (n := 12 * (k0 : Int) + 8 * (k1 : Int)) (by omega) (by omega), w64 (by omega) (by omega)]
  simp
end Go.Proofs.YtaaihamelknhdaaDoor.Abs.Wri
/- AstJoins: the plain law. -/
namespace Go.Proofs.YtaaihamelknhdaaDoor.Abs.Wri
open Go Go.RowKit
set_option linter.unusedVariables false
set_option linter.unusedSimpArgs false
theorem cL_app' : ∀ l m, cL (l ++ m) = cL l ++ cL m := fun l m => by simp only [cL_map, List.map_append]
theorem sL_app' : ∀ (l m : List ast_Stmt) (b p : Int), sL (l ++ m) b p = sL l b p ++ sL m b p
  | [], m, b, p => by simp only [List.nil_append, sL, Wr.nil_app]
  | s :: r, m, b, p => by simp only [List.cons_append, sL, sL_app' r m b p, Wr.assoc]
theorem okL_parts : ∀ (l m : List ast_Stmt), okL (l ++ m) → okL l ∧ okL m
  | [], m, h => ⟨trivial, h⟩
  | s :: r, m, h => by
    simp only [okL, List.cons_append] at h ⊢
    have := okL_parts r m h.2
    exact ⟨⟨h.1, this.1⟩, this.2⟩
theorem szL_parts : ∀ (l m : List ast_Stmt), szL (l ++ m) + 1 = szL l + szL m
  | [], m => by simp only [List.nil_append, szL]; omega
  | s :: r, m => by have := szL_parts r m; simp only [List.cons_append, szL]; omega
/-- A system of one process. -/
def oneP (l : List r02_Stmt) : r02_System := ⟨[], [], [⟨ByteArray.mk #[112], [], l⟩]⟩
def bodyW (l : List r02_Stmt) : Wr := sL (cL l) 0 0
def p3 : List ByteArray := [ByteArray.mk #[112, 114, 111, 99], ByteArray.mk #[112], ByteArray.mk #[123]]
def end1 : ByteArray := ByteArray.mk #[125]
theorem oneP_w (l : List r02_Stmt) : sSys (cSys (oneP l)) = ⟨p3 ++ ((bodyW l).ws ++ [end1]), (bodyW l).bad, (bodyW l).dp⟩ := by
  have np := name_letter (b := 112) (by decide)
  simp only [oneP, cSys, sSys, List.map_nil, List.map_cons, flatW, sP, cPr]
  simp [Wr.nil, wW, wN, np, Wr.app_def, bodyW, p3, end1]
theorem oneP_sz (l : List r02_Stmt) : szSys (cSys (oneP l)) = szL (cL l) + 1 := by
  simp only [oneP, cSys, szSys, List.map_nil, List.map_cons, sumN, szP, cPr, List.length_nil]; omega
theorem oneP_ok {l : List r02_Stmt} (h : okL (cL l)) : okSys (cSys (oneP l)) := by
  refine ⟨?_, ?_, ?_⟩
  · intro c hc; cases hc
  · intro c hc; cases hc
  intro c hc
  simp only [oneP, cSys, List.map_cons, List.map_nil, List.mem_singleton] at hc
  subst hc
  have zp : (ByteArray.mk #[112]).size ≤ 4194304 := by decide
  refine ⟨zp, ?_, h⟩
  intro v hv; cases hv
theorem oneP_f {l : List r02_Stmt} (ho : okL (cL l)) (hs : szL (cL l) ≤ 100000000) : (l02_System (oneP l)).bind ast_Words = some (endW (sSys (cSys (oneP l)))) := by
  rw [sys_cv (by rw [oneP_sz]; omega), Option.bind_some, words_f (oneP_ok ho) (by rw [oneP_sz]; omega)]
theorem bodyW_len (l : List r02_Stmt) : (bodyW l).ws.length ≤ 5 * szL (cL l) := sL_len _ _ _
theorem endW_zero {x : Wr} (h : (endW x).2 = 0) : x.bad = false ∧ x.dp = false ∧ x.ws.length ≤ 2000 ∧ endW x = (x.ws, 0) := by
  unfold endW at h ⊢
  obtain ⟨ws, bad, dp⟩ := x
  cases bad
  · cases dp
    · simp only [Bool.false_eq_true, if_false] at h ⊢
      by_cases h2 : 2000 < ws.length
      · rw [if_pos h2] at h; cases h
      · rw [if_neg h2]; exact ⟨trivial, trivial, by omega, rfl⟩
    · simp at h
  · simp at h
theorem endW_good {x : Wr} (h1 : x.bad = false) (h2 : x.dp = false) : endW x = if 2000 < x.ws.length then ([], 4) else (x.ws, 0) := by
  unfold endW; rw [h1, h2]; simp
/-- What is behind the loop. -/
noncomputable def K (v3 : List ByteArray × Int) (j1 : Int) : Option Bool :=
  ((l02_texts >>= fun v10 =>
   if v10 then (if (v3.2 == 0) then (if ((v3.1.length : Int) == (IntKind.i64.wrap (j1 + 4))) then (some true)
   else (if (v3.2 == 4) then (some (decide ((IntKind.i64.wrap (j1 + 4)) > 2000)))
   else (some false)))
   else (if (v3.2 == 4) then (some (decide ((IntKind.i64.wrap (j1 + 4)) > 2000)))
   else (some false)))
   else (some false) : Option Bool) >>= fun j5 => some j5)
theorem joins_loop (v1 : List r02_Stmt) (ho : okL (cL v1)) (hs : szL (cL v1) ≤ 100000000) : ∀ (r d : List r02_Stmt), v1 = d ++ r → (bodyW d).bad = false → (bodyW d).dp = false →
    (iter (l02_AstJoins_l1 v1 (endW (sSys (cSys (oneP v1))))) (((bodyW d).ws.length : Int), (d.length : Int)) >>= Sum.elim (fun r => some r) (fun j1 => K (endW (sSys (cSys (oneP v1)))) j1)) = some true := by
  intro r
  induction r with
  | nil =>
    intro d hd hb hp
    rw [List.append_nil] at hd
    subst hd
    have hl := bodyW_len v1
    rw [iter_out (r := .inr ((bodyW v1).ws.length : Int)) (by unfold l02_AstJoins_l1; rw [if_neg (by simp)])]
    simp only [Option.bind_eq_bind, Option.bind_some, Sum.elim_inr]
    unfold K
    rw [texts_f, oneP_w]
    simp only [Option.bind_eq_bind, Option.bind_some, if_true]
    rw [w64 (n := ((bodyW v1).ws.length : Int) + 4) (by omega) (by omega), endW_good (x := ⟨p3 ++ ((bodyW v1).ws ++ [end1]), (bodyW v1).bad, (bodyW v1).dp⟩) hb hp]
    simp only [List.length_append, p3, List.length_cons, List.length_nil]
    by_cases h2 : 2000 < 0 + 1 + 1 + 1 + ((bodyW v1).ws.length + (0 + 1))
    · rw [if_pos h2]
      have : (((bodyW v1).ws.length : Int) + 4 > 2000) := by omega
      simp [this]
    · rw [if_neg h2]
      have : (((0 + 1 + 1 + 1 + ((bodyW v1).ws.length + (0 + 1)) : Nat) : Int) == ((bodyW v1).ws.length : Int) + 4) = true := by simp; omega
      simp only [List.length_append, List.length_cons, List.length_nil]
      rw [if_pos (by rfl), if_pos this]
      rfl
  | cons s r ih =>
    intro d hd hb hp
    have hlt : d.length < v1.length := by rw [hd]; simp
    have hcd : cL v1 = cL d ++ (cL [s] ++ cL r) := by rw [hd, cL_app', show s :: r = [s] ++ r from rfl, cL_app']
    have hoS : okL (cL [s]) := by rw [hcd] at ho; exact (okL_parts _ _ (okL_parts _ _ ho).2).1
    have hsz : szL (cL [s]) ≤ 100000000 := by
      rw [hcd] at hs
      have h1 := szL_parts (cL d) (cL [s] ++ cL r)
      have h2 := szL_parts (cL [s]) (cL r)
      have h3 := szL_pos (cL d)
      have h4 := szL_pos (cL r)
      omega
    have hlen := cL_len v1
    have hbw : bodyW v1 = bodyW d ++ (bodyW [s] ++ bodyW r) := by
      unfold bodyW; rw [hcd, sL_app', sL_app']
    have hbds : bodyW (d ++ [s]) = bodyW d ++ bodyW [s] := by
      unfold bodyW; rw [cL_app', sL_app']
    have hw1 : IntKind.i64.wrap ((d.length : Int) + 1) = ((d.length + 1 : Nat) : Int) := by rw [w64 (by omega) (by omega)]; omega
    have hsub : lsub v1 (d.length : Int) (IntKind.i64.wrap ((d.length : Int) + 1)) = some [s] := by
      rw [hw1]
      unfold lsub
      rw [if_pos ⟨by omega, by omega, by omega⟩]
      simp only [Int.toNat_natCast]
      rw [hd, List.take_append, List.take_of_length_le (by omega), show d.length + 1 - d.length = 1 by omega, List.drop_append, List.drop_of_length_le (Nat.le_refl _), Nat.sub_self]
      rfl
    have hv6 := oneP_f hoS hsz
    have hbl := bodyW_len v1
    have hblen : (bodyW v1).ws.length = (bodyW d).ws.length + ((bodyW [s]).ws.length + (bodyW r).ws.length) := by rw [hbw]; simp
    generalize hv3 : endW (sSys (cSys (oneP v1))) = v3
    rw [hv3] at ih
    generalize hv6' : endW (sSys (cSys (oneP [s]))) = v6 at hv6
    have hbody : l02_AstJoins_l1 v1 v3 (((bodyW d).ws.length : Int), (d.length : Int)) = (if (v6.2 != 0) then (((l02_texts >>= fun v7 => if v7 then (some (v3.2 != 0)) else (some false) : Option Bool) >>= fun j2 => some (.inr (.inl j2))))
        else (iter (l02_AstJoins_l3 v3 v6) (((bodyW d).ws.length : Int), 3) >>= Sum.elim (fun r => some (.inr (.inl r))) (fun j3 => some (.inl (j3, ((d.length + 1 : Nat) : Int)))))) := by
      unfold l02_AstJoins_l1
      rw [if_pos (by simpa using hlt)]
      simp only [hsub, Option.bind_eq_bind, Option.bind_some]
      show (l02_System (oneP [s])).bind (fun v5 => (ast_Words v5).bind _) = _
      rw [← Option.bind_assoc, hv6]
      simp only [Option.bind_some, hw1]
    by_cases h6 : v6.2 = 0
    · rw [if_neg (by simp [h6])] at hbody
      rw [← hv6'] at h6
      obtain ⟨g1, g2, g3, g4⟩ := endW_zero h6
      rw [hv6', oneP_w] at g4
      rw [oneP_w] at g1 g2
      simp only at g1 g2 g4
      have hin : iter (l02_AstJoins_l3 v3 v6) (((bodyW d).ws.length : Int), 3) = some (.inr (((bodyW d).ws.length + (bodyW [s]).ws.length : Nat) : Int)) := by
        refine iter_for (bodyW [s]).ws.length (fun t => ((((bodyW d).ws.length + t : Nat) : Int), ((3 + t : Nat) : Int))) _ (fun t ht => ?_) ?_
        · have e1 : IntKind.i64.wrap ((((bodyW d).ws.length + t : Nat) : Int) + 1) = (((bodyW d).ws.length + (t + 1) : Nat) : Int) := by rw [w64 (by omega) (by omega)]; omega
          have e2 : IntKind.i64.wrap (((3 + t : Nat) : Int) + 1) = ((3 + (t + 1) : Nat) : Int) := by rw [w64 (by omega) (by omega)]; omega
          have e3 : IntKind.i64.wrap (3 + (((bodyW d).ws.length + t : Nat) : Int)) = ((3 + ((bodyW d).ws.length + t) : Nat) : Int) := by rw [w64 (by omega) (by omega)]; omega
          have e4 : IntKind.i64.wrap ((v6.1.length : Int) - 1) = ((3 + (bodyW [s]).ws.length : Nat) : Int) := by
            rw [g4]
            simp only [List.length_append, p3, List.length_cons, List.length_nil]
            rw [w64 (by omega) (by omega)]; omega
          unfold l02_AstJoins_l3
          simp only [e1, e2, e3, e4]
          rw [if_pos (by simp; omega)]
          have hj : ((if (v3.2 == 0) = true then (if (decide (((3 + ((bodyW d).ws.length + t) : Nat) : Int) ≥ (v3.1.length : Int))) = true then some true
              else idx v3.1 ((3 + ((bodyW d).ws.length + t) : Nat) : Int) >>= fun v8 => idx v6.1 ((3 + t : Nat) : Int) >>= fun v9 => some (!(v8.toList == v9.toList))) else some false) : Option Bool) = some false := by
            by_cases h3 : v3.2 = 0
            · rw [if_pos (by simp [h3])]
              rw [← hv3] at h3
              obtain ⟨_, _, _, k4⟩ := endW_zero h3
              rw [hv3, oneP_w] at k4
              have hl3 : v3.1.length = 4 + (bodyW v1).ws.length := by rw [k4]; simp [p3]; omega
              rw [if_neg (by simp only [decide_eq_true_eq, hl3]; omega)]
              rw [idx_ok (by rw [hl3]; omega), idx_ok (by rw [g4]; simp [p3]; omega)]
              simp only [Option.bind_eq_bind, Option.bind_some]
              have q1 : v3.1[3 + ((bodyW d).ws.length + t)]? = some ((bodyW [s]).ws[t]) := by
                rw [k4, hbw]
                simp only [Wr.ws_app, List.append_assoc]
                rw [List.getElem?_append_right (by simp [p3])]
                simp only [p3, List.length_cons, List.length_nil]
                rw [show 3 + ((bodyW d).ws.length + t) - (0 + 1 + 1 + 1) = (bodyW d).ws.length + t by omega, List.getElem?_append_right (by omega), show (bodyW d).ws.length + t - (bodyW d).ws.length = t by omega, List.getElem?_append_left ht]
                exact List.getElem?_eq_getElem ht
              have q2 : v6.1[3 + t]? = some ((bodyW [s]).ws[t]) := by
                rw [g4]
                rw [List.getElem?_append_right (by simp [p3])]
                simp only [p3, List.length_cons, List.length_nil]
                rw [show 3 + t - (0 + 1 + 1 + 1) = t by omega, List.getElem?_append_left ht]
                exact List.getElem?_eq_getElem ht
              rw [(List.getElem?_eq_some_iff.1 q1).2, (List.getElem?_eq_some_iff.1 q2).2]
              simp
            · rw [if_neg (by simpa using h3)]
          simp only [Option.bind_eq_bind] at hj ⊢
          rw [hj]
          simp only [Option.bind_some, Bool.false_eq_true, if_false]
        · have e4 : IntKind.i64.wrap ((v6.1.length : Int) - 1) = ((3 + (bodyW [s]).ws.length : Nat) : Int) := by
            rw [g4]
            simp only [List.length_append, p3, List.length_cons, List.length_nil]
            rw [w64 (by omega) (by omega)]; omega
          unfold l02_AstJoins_l3
          simp only [e4]
          rw [if_neg (by simp)]
      rw [hin] at hbody
      simp only [Option.bind_eq_bind, Option.bind_some, Sum.elim_inr] at hbody
      rw [iter_in hbody]
      have := ih (d ++ [s]) (by rw [hd]; simp) (by rw [hbds]; simp [hb, g1]) (by rw [hbds]; simp [hp, g2])
      rw [hbds] at this
      simpa using this
    · rw [if_pos (by simpa using h6), texts_f] at hbody
      simp only [Option.bind_eq_bind, Option.bind_some, if_true] at hbody
      rw [iter_out hbody]
      simp only [Option.bind_eq_bind, Option.bind_some, Sum.elim_inl]
      have : v3.2 ≠ 0 := by
        intro h3
        rw [← hv3] at h3
        obtain ⟨k1, k2, k3, _⟩ := endW_zero h3
        rw [oneP_w] at k1 k2 k3
        simp only [hbw, Wr.bad_app, Wr.dp_app, Bool.or_eq_false_iff] at k1 k2
        apply h6
        rw [← hv6', oneP_w, endW_good (x := ⟨p3 ++ ((bodyW [s]).ws ++ [end1]), (bodyW [s]).bad, (bodyW [s]).dp⟩) k1.2.1 k2.2.1, if_neg]
        simp only [List.length_append] at k3 ⊢
        omega
      simp [this]
theorem joins_law {a0 : List r02_Stmt} (ho : okL (cL (a0.take 6))) (hs : szL (cL (a0.take 6)) ≤ 100000000) : l02_AstJoins a0 = some true := by
  unfold l02_AstJoins
  have hsub : lsub a0 0 (min (a0.length : Int) 6) = some (a0.take 6) := by
    unfold lsub
    rw [if_pos ⟨by omega, by omega, by omega⟩]
    simp only [Int.toNat_zero, List.drop_zero]
    rcases Nat.le_total a0.length 6 with h | h
    · rw [show (min (a0.length : Int) 6).toNat = a0.length by omega, List.take_length, List.take_of_length_le h]
    · rw [show (min (a0.length : Int) 6).toNat = 6 by omega]
  rw [hsub]
  simp only [Option.bind_eq_bind, Option.bind_some]
  show (l02_System (oneP (a0.take 6))).bind (fun v2 => (ast_Words v2).bind _) = _
  rw [← Option.bind_assoc, oneP_f ho hs]
  simp only [Option.bind_some]
  have := joins_loop (a0.take 6) ho hs (a0.take 6) [] rfl rfl rfl
  exact this
end Go.Proofs.YtaaihamelknhdaaDoor.Abs.Wri

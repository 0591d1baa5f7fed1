/- AstDeeps: the plain law. -/
import Derived.Test.YtaaihamelknhdaaDoorLawE
namespace Go.Proofs.YtaaihamelknhdaaDoor.Abs.Wri
open Go Go.RowKit
set_option linter.unusedVariables false
set_option linter.unusedSimpArgs false
/-- An expression in so many Negs. -/
def negs : Nat → r02_Expr
  | 0 => ⟨1, 1, ByteArray.mk #[], []⟩
  | n + 1 => ⟨3, 0, ByteArray.mk #[], [negs n]⟩
def e0 : r02_Expr := r02_Expr.mk 0 0 (ByteArray.mk #[]) []
def c0 : r02_Cond := r02_Cond.mk 0 e0 e0
def inp : r02_Stmt := r02_Stmt.mk 7 (ByteArray.mk #[120]) (ByteArray.mk #[]) e0 c0 [] [] []
def c1 : r02_Cond := r02_Cond.mk 1 (r02_Expr.mk 1 0 (ByteArray.mk #[]) []) (r02_Expr.mk 1 0 (ByteArray.mk #[]) [])
/-- Statements in so many blocks. -/
def nest : Nat → List r02_Stmt
  | 0 => [inp]
  | n + 1 => [r02_Stmt.mk 3 (ByteArray.mk #[]) (ByteArray.mk #[]) e0 c1 (nest n) [] []]
theorem z0 : (ByteArray.mk #[]).size ≤ 4194304 := by decide
theorem zx : (ByteArray.mk #[120]).size ≤ 4194304 := by decide
theorem nx : nameOk (ByteArray.mk #[120]) = true := name_letter (b := 120) (by decide)
theorem negs_ok : ∀ n, okE (cE (negs n)) ∧ szE (cE (negs n)) = n + 1
  | 0 => by
    refine ⟨?_, rfl⟩
    simp only [negs, cE, cEs, okE, okEs, in64, and_true]
    exact ⟨⟨by omega, by omega⟩, z0⟩
  | n + 1 => by
    obtain ⟨h1, h2⟩ := negs_ok n
    simp only [negs, cE, cEs, okE, okEs, in64, szE, szEs, h2, and_true]
    exact ⟨⟨⟨by omega, by omega⟩, z0, h1⟩, by omega⟩
theorem negs_pair : ∀ n, pairK (cE (negs n)).Kind = false
  | 0 => rfl
  | n + 1 => rfl
theorem negs_w : ∀ n (p : Int), (sE (cE (negs n)) p).bad = false ∧ (sE (cE (negs n)) p).ws.length = n + 1 ∧ (sE (cE (negs n)) p).dp = decide (1 ≤ n ∧ 24 < p + n)
  | 0, p => by
    have h1 : numOk 1 = true := rfl
    simp [negs, cE, cEs, sE, wLeaf, wM, wI, h1]
  | n + 1, p => by
    obtain ⟨h1, h2, h3⟩ := negs_w n (p + 1)
    have hp := negs_pair n
    simp only [negs, cE, cEs, sE]
    rw [if_pos (by rfl)]
    simp only [inP, hp, Bool.false_eq_true, if_false, Wr.bad_app, Wr.ws_app, Wr.dp_app, h1, h3, List.length_append, h2, wW, wD, List.length_cons, List.length_nil, Bool.false_or]
    refine ⟨trivial, by omega, ?_⟩
    rw [← Bool.decide_or]
    refine decide_eq_decide.2 ?_
    constructor
    · rintro (h | ⟨h1, h2⟩) <;> constructor <;> omega
    · rintro ⟨h1, h2⟩
      by_cases hn : 1 ≤ n
      · exact .inr ⟨hn, by omega⟩
      · exact .inl (by omega)
theorem okc (op : Int) (x y : Int) (hx : in64 x) (hy : in64 y) (k : Int) : okC (cC (r02_Cond.mk op (r02_Expr.mk k x (ByteArray.mk #[]) []) (r02_Expr.mk k y (ByteArray.mk #[]) []))) := by
  simp only [cC, okC, cE, cEs, okE, okEs, and_true]
  exact ⟨⟨hx, z0⟩, hy, z0⟩
theorem i0 : in64 0 := ⟨by omega, by omega⟩
theorem oke0 : okE (cE e0) := by simp only [e0, cE, cEs, okE, okEs, and_true]; exact ⟨i0, z0⟩
theorem nest_ok : ∀ n, okL (cL (nest n)) ∧ szL (cL (nest n)) = 11 * n + 12
  | 0 => by
    refine ⟨?_, rfl⟩
    simp only [nest, inp, cL, cS, cA, okL, okS, okA, and_true]
    exact ⟨zx, z0, oke0, okc 0 0 0 i0 i0 0⟩
  | n + 1 => by
    obtain ⟨h1, h2⟩ := nest_ok n
    simp only [nest, cL, cS, cA, okL, okS, okA, szL, szS, szA, h2, and_true]
    refine ⟨⟨z0, z0, oke0, okc 1 0 0 i0 i0 1, h1⟩, ?_⟩
    have s1 : szE (cE e0) = 1 := rfl
    have s2 : szC (cC c1) = 3 := rfl
    rw [s1, s2]; omega
theorem nest_w : ∀ n (b p : Int), (sL (cL (nest n)) b p).bad = false ∧ (sL (cL (nest n)) b p).ws.length = 8 * n + 3 ∧ (sL (cL (nest n)) b p).dp = decide (1 ≤ n ∧ 24 < b + n)
  | 0, b, p => by
    simp [nest, inp, cL, cS, sL, sS, wW, wN, nx, Wr.nil]
  | n + 1, b, p => by
    obtain ⟨h1, h2, h3⟩ := nest_w n (b + 1) p
    have k0 : numOk 0 = true := rfl
    simp only [nest, cL, cS, sL, sS]
    rw [if_neg (by decide), if_neg (by decide), if_pos (by rfl)]
    have hc : sC (cC c1) p = ⟨[ByteArray.mk #[40], itoaB 0, ByteArray.mk #[61, 61], itoaB 0, ByteArray.mk #[41]], false, false⟩ := by
      simp [cC, c1, sC, cE, cEs, sE, wLeaf, wM, wI, wW, k0, opOk, opW, Wr.app_def]
    simp only [hc, inB, Wr.app_nil, Wr.bad_app, Wr.ws_app, Wr.dp_app, h1, h3, List.length_append, h2, wW, wD, Wr.nil, List.length_cons, List.length_nil, Bool.false_or, Bool.or_false]
    refine ⟨trivial, by omega, ?_⟩
    rw [← Bool.decide_or]
    refine decide_eq_decide.2 ?_
    constructor
    · rintro (h | ⟨h1, h2⟩) <;> constructor <;> omega
    · rintro ⟨h1, h2⟩
      by_cases hn : 1 ≤ n
      · exact .inr ⟨hn, by omega⟩
      · exact .inl (by omega)
theorem rem9 (a : Int) : ∃ k : Nat, k < 9 ∧ rem (IntKind.u64.wrap a) 9 = some (k : Int) ∧ IntKind.i64.wrap (20 + (IntKind.i64.wrap (k : Int))) = ((20 + k : Nat) : Int) := by
  have h : (0 : Int) ≤ IntKind.u64.wrap a := by rw [IntKind.wrap_u64]; omega
  have h1 := Int.tmod_lt_of_pos (IntKind.u64.wrap a) (b := 9) (by omega)
  have h2 := Int.tmod_nonneg 9 h
  refine ⟨((IntKind.u64.wrap a).tmod 9).toNat, by omega, ?_, ?_⟩
  · unfold rem
    rw [if_neg (by omega), Int.toNat_of_nonneg h2]
  · rw [w64 (n := (((IntKind.u64.wrap a).tmod 9).toNat : Int)) (by omega) (by omega), w64 (by omega) (by omega)]; push_cast; rfl
/-- One statement that gives x a value. -/
def asg (e : r02_Expr) : r02_Stmt := r02_Stmt.mk 1 (ByteArray.mk #[120]) (ByteArray.mk #[]) e c0 [] [] []
theorem cL_app : ∀ l m, cL (l ++ m) = cL l ++ cL m := fun l m => by simp only [cL_map, List.map_append]
theorem sL_app : ∀ (l m : List ast_Stmt) (b p : Int), sL (l ++ m) b p = sL l b p ++ sL m b p
  | [], m, b, p => by simp only [List.nil_append, sL, Wr.nil_app]
  | s :: r, m, b, p => by simp only [List.cons_append, sL, sL_app r m b p, Wr.assoc]
theorem okL_app : ∀ (l m : List ast_Stmt), okL l → okL m → okL (l ++ m)
  | [], m, _, h => h
  | s :: r, m, h1, h2 => by
    simp only [okL, List.cons_append] at h1 ⊢
    exact ⟨h1.1, okL_app r m h1.2 h2⟩
theorem szL_app : ∀ (l m : List ast_Stmt), szL (l ++ m) + 1 = szL l + szL m
  | [], m => by simp only [List.nil_append, szL]; omega
  | s :: r, m => by have := szL_app r m; simp only [List.cons_append, szL]; omega
theorem deeps_law (a0 : Int) (a1 : Bool) : l02_AstDeeps a0 a1 = some true := by
  obtain ⟨k, hk, hr, hw⟩ := rem9 a0
  unfold l02_AstDeeps
  rw [hr]
  simp only [Option.bind_eq_bind, Option.bind_some]
  -- what the loop comes to
  obtain ⟨x, y, hxy⟩ : ∃ x y : Nat, (x, y) = (if a1 then (20 + k, 0) else (0, 20 + k)) := by cases a1 <;> exact ⟨_, _, rfl⟩
  have eloop : iter (l02_AstDeeps_l1 a1 (k : Int)) (0, 1, 1, [], [inp]) = some (.inr ((negs x).Kind, (negs x).Num, (negs x).Kids, nest y)) := by
    cases a1 with
    | true =>
      simp only [if_true, Prod.mk.injEq] at hxy
      obtain ⟨rfl, rfl⟩ := hxy
      refine iter_for (20 + k) (fun i => ((i : Int), (negs i).Kind, (negs i).Num, (negs i).Kids, [inp])) _ (fun i hi => ?_) ?_
      · unfold l02_AstDeeps_l1
        rw [hw, if_pos (by simp; omega)]
        simp only [if_true, Option.bind_eq_bind, Option.bind_some]
        rw [show IntKind.i64.wrap ((i : Int) + 1) = ((i + 1 : Nat) : Int) by rw [w64 (by omega) (by omega)]; omega]
        cases i <;> rfl
      · unfold l02_AstDeeps_l1
        rw [hw, if_neg (by simp)]
        rfl
    | false =>
      simp only [Bool.false_eq_true, if_false, Prod.mk.injEq] at hxy
      obtain ⟨rfl, rfl⟩ := hxy
      refine iter_for (20 + k) (fun i => ((i : Int), (1 : Int), (1 : Int), ([] : List r02_Expr), nest i)) _ (fun i hi => ?_) ?_
      · unfold l02_AstDeeps_l1
        rw [hw, if_pos (by simp; omega)]
        simp only [Bool.false_eq_true, if_false, Option.bind_eq_bind, Option.bind_some]
        rw [show IntKind.i64.wrap ((i : Int) + 1) = ((i + 1 : Nat) : Int) by rw [w64 (by omega) (by omega)]; omega]
        rfl
      · unfold l02_AstDeeps_l1
        rw [hw, if_neg (by simp)]
        rfl
  show (iter (l02_AstDeeps_l1 a1 (k : Int)) (0, 1, 1, [], [inp])).bind _ = _
  rw [eloop]
  simp only [Option.bind_some, Sum.elim_inr]
  have hxk : x ≤ 28 ∧ y ≤ 28 := by cases a1 <;> simp at hxy <;> omega
  obtain ⟨no, ns⟩ := negs_ok x
  obtain ⟨lo, ls⟩ := nest_ok y
  have hlen : (nest y).length = 1 := by cases y <;> rfl
  have hneg : r02_Expr.mk (negs x).Kind (negs x).Num (ByteArray.mk #[]) (negs x).Kids = negs x := by cases x <;> rfl
  rw [app_ok (by rw [hlen]; simp), hneg]
  simp only [Option.bind_some]
  show (l02_System ⟨[], [], [⟨ByteArray.mk #[112], [], nest y ++ [asg (negs x)]⟩]⟩).bind _ = _
  have hb : szL (cL (nest y ++ [asg (negs x)])) = 11 * y + x + 23 := by
    have := szL_app (cL (nest y)) (cL [asg (negs x)])
    rw [cL_app]
    have h2 : szL (cL [asg (negs x)]) = x + 12 := by
      simp only [asg, cL, cS, cA, szL, szS, szA, ns]
      have s1 : szC (cC c0) = 3 := rfl
      rw [s1]; omega
    omega
  have hsz : szSys (cSys ⟨[], [], [⟨ByteArray.mk #[112], [], nest y ++ [asg (negs x)]⟩]⟩) = 11 * y + x + 24 := by
    simp only [cSys, szSys, List.map_nil, List.map_cons, sumN, szP, cPr, hb, List.length_nil]; omega
  have zp : (ByteArray.mk #[112]).size ≤ 4194304 := by decide
  have hok : okSys (cSys ⟨[], [], [⟨ByteArray.mk #[112], [], nest y ++ [asg (negs x)]⟩]⟩) := by
    refine ⟨?_, ?_, ?_⟩
    · intro c hc; cases hc
    · intro c hc; cases hc
    intro c hc
    simp only [cSys, List.map_cons, List.map_nil, List.mem_singleton] at hc
    subst hc
    refine ⟨zp, ?_, ?_⟩
    · intro v hv; cases hv
    show okL (cL (nest y ++ [asg (negs x)]))
    rw [cL_app]
    refine okL_app _ _ lo ?_
    simp only [asg, cL, cS, cA, okL, okS, okA, and_true]
    exact ⟨zx, z0, no, okc 0 0 0 i0 i0 0⟩
  rw [sys_cv (by omega)]
  simp only [Option.bind_some]
  rw [text_f hok (by omega), texts_f]
  simp only [Option.bind_some, if_true]
  obtain ⟨n1, n2, n3⟩ := negs_w x 0
  obtain ⟨m1, m2, m3⟩ := nest_w y 0 0
  have np := name_letter (b := 112) (by decide)
  have hbad : (sSys (cSys ⟨[], [], [⟨ByteArray.mk #[112], [], nest y ++ [asg (negs x)]⟩]⟩)).bad = false := by
    simp only [cSys, sSys, List.map_nil, List.map_cons, flatW, sP, cPr, cL_app, sL_app]
    simp [Wr.nil, wW, wN, np, m1, asg, cL, cS, sL, sS, nx, n1]
  have hdp : (sSys (cSys ⟨[], [], [⟨ByteArray.mk #[112], [], nest y ++ [asg (negs x)]⟩]⟩)).dp = (decide (1 ≤ y ∧ 24 < 0 + (y : Int)) || decide (1 ≤ x ∧ 24 < 0 + (x : Int))) := by
    simp only [cSys, sSys, List.map_nil, List.map_cons, flatW, sP, cPr, cL_app, sL_app]
    simp only [Wr.nil, wW, wN, m3, asg, cL, cS, sL, sS, Wr.dp_app]
    rw [if_pos (by rfl)]
    simp only [Wr.dp_app, n3, Bool.false_or, Bool.or_false]
  have hws : (sSys (cSys ⟨[], [], [⟨ByteArray.mk #[112], [], nest y ++ [asg (negs x)]⟩]⟩)).ws.length ≤ 5 * (11 * y + x + 24) := by
    rw [← hsz]; exact sSys_len _
  generalize sSys (cSys ⟨[], [], [⟨ByteArray.mk #[112], [], nest y ++ [asg (negs x)]⟩]⟩) = X at hbad hdp hws
  have d1 : (decide (1 ≤ y ∧ 24 < 0 + (y : Int)) || decide (1 ≤ x ∧ 24 < 0 + (x : Int))) = decide (24 < 20 + k) := by
    rw [← Bool.decide_or]
    refine decide_eq_decide.2 ?_
    cases a1 with
    | true =>
      simp only [if_true, Prod.mk.injEq] at hxy
      constructor
      · rintro (h | h) <;> omega
      · intro h; right; omega
    | false =>
      simp only [Bool.false_eq_true, if_false, Prod.mk.injEq] at hxy
      constructor
      · rintro (h | h) <;> omega
      · intro h; left; omega
  have hlen : ¬ 2000 < X.ws.length := by omega
  have he : (endW X).2 = if 24 < 20 + k then 6 else 0 := by
    unfold endW
    rw [hbad, hdp, d1]
    by_cases hd : 24 < 20 + k <;> simp [hd, hlen]
  rw [he, hw]
  by_cases hd : 24 < 20 + k
  · have t : decide (((20 + k : Nat) : Int) ≤ 24) = false := by simp only [decide_eq_false_iff_not]; omega
    rw [t, if_pos hd]
    rfl
  · have t : decide (((20 + k : Nat) : Int) ≤ 24) = true := by simp only [decide_eq_true_eq]; omega
    rw [t, if_neg hd]
    rfl
end Go.Proofs.YtaaihamelknhdaaDoor.Abs.Wri

/- Gw: the functions are these. -/
import Derived.Test.YtaaihamelknhdaaGreatDoorGwW1
namespace Go.Proofs.YtaaihamelknhdaaGreatDoor.Abs
open Go Go.RowKit
set_option linter.unusedVariables false
set_option maxRecDepth 100000
set_option maxHeartbeats 4000000
variable {X : EV}
theorem m_l02_AstExprs {a0 : r02_Expr} {r : Bool} (h : l02_AstExprs a0 = some r) : Cv Tryz.prog (GX X) 3 [.agg (bs (f_r02_Expr a0))] (r_l02_AstExprs r) := by
  refine Cs.toV (?_ : Cs Tryz.prog (GX X) 3 [.agg (bs (f_r02_Expr a0))] [] (r_l02_AstExprs r) (o_l02_AstExprs r)) (by kernel_rfl)
  refine fnT (cx := cx X) Tryz.f3 Tryz.call3 Tryz.func3 (by kernel_rfl) ?_
  unfold l02_AstExprs at h
  obtain ⟨v1, k1, h⟩ := bindE h
  obtain ⟨v2, k2, h⟩ := bindE h
  obtain ⟨v3, k3, h⟩ := bindE h
  refine adv (ok X) 10 [.bl (List.map e_r02_Stmt [(r02_Stmt.mk 1 (ByteArray.mk #[120]) (ByteArray.mk #[]) a0 (r02_Cond.mk 0 (r02_Expr.mk 0 0 (ByteArray.mk #[]) []) (r02_Expr.mk 0 0 (ByteArray.mk #[]) [])) [] [] [])]), .c (r_l02_System v1), .c (r_ast_Words v2), .c (r_r02_Words v3)] (pA (blc (e := e_r02_Stmt) (x := (r02_Stmt.mk 1 (ByteArray.mk #[120]) (ByteArray.mk #[]) a0 (r02_Cond.mk 0 (r02_Expr.mk 0 0 (ByteArray.mk #[]) []) (r02_Expr.mk 0 0 (ByteArray.mk #[]) [])) [] [] [])) (e_r02_Stmt_eq _).symm (bl0 e_r02_Stmt)) (pA (m_l02_System (X := X) k1) (pA (m_ast_Words (X := X) k2) (pA (m_r02_Words (X := X) k3) pT)))) (by kernel_rfl) ?_
  refine jn (ok X) 1 (fun (j1 : Bool) => ⟨55, 0, [(4, [xL (List.map e_str v2.1)]), (6, [xL (List.map e_str v3.1)]), (39, [xB j1])], []⟩) h (fun j1 h => ?_) (fun j1 h => ?_)
  · obtain ⟨v4, k4, h⟩ := bindE h
    rcases iteE h with ⟨k5, h⟩ | ⟨k5, h⟩
    · obtain rfl := retE h
      exact fin (ok X) 1 [.c (r_l02_texts v4), .b true, .b true, .b true, .b true, .b true, .b true, .b true, .b true, .b true, .b true] (pA (m_l02_texts (X := X) k4) (pA k5 (pA k5 (pA k5 (pA k5 (pA tt (pA tt (pA tt (pA tt (pA tt (pA tt pT))))))))))) (by kernel_rfl)
    · rcases iteE h with ⟨k6, h⟩ | ⟨k6, h⟩
      · obtain rfl := retE h
        exact fin (ok X) 1 [.c (r_l02_texts v4), .b false, .b false, .b false, .b false, .b true, .b true, .b true, .b true, .b true, .b true] (pA (m_l02_texts (X := X) k4) (pA k5 (pA k5 (pA k5 (pA k5 (pA k6 (pA k6 (pA k6 (pA k6 (pA k6 (pA k6 pT))))))))))) (by kernel_rfl)
      · obtain rfl := retE h
        exact fin (ok X) 1 [.c (r_l02_texts v4), .b false, .b false, .b false, .b false, .b false, .b false, .i (v2.1.length : Int), .b false, .b false, .i (v3.1.length : Int), .b false, .b false] (pA (m_l02_texts (X := X) k4) (pA k5 (pA k5 (pA k5 (pA k5 (pA k6 (pA k6 (pA (lm e_str v2.1) (pA k6 (pA k6 (pA (lm e_str v3.1) (pA k6 (pA k6 pT))))))))))))) (by kernel_rfl)
  · rcases iteE h with ⟨k7, h⟩ | ⟨k7, h⟩
    · obtain rfl := retE h
      exact fin (ok X) 4 [.b true] (pA k7 pT) (by kernel_rfl)
    · refine adv (ok X) 5 [.b false] (pA k7 pT) (by kernel_rfl) ?_
      refine lp (ok X) (l02_AstExprs_l2 v2 v3) (fun (x2 : Int) => ⟨55, 0, [(4, [xL (List.map e_str v2.1)]), (6, [xL (List.map e_str v3.1)]), (8, [xI x2])], []⟩) (fun (j2 : Unit) => ⟨55, 0, [], []⟩) R_l02_AstExprs 0 (fun _ => ⟨_, _, _, _, rfl⟩) h (by kernel_rfl) (fun x2 o h => ?_) (fun r' h => ?_) (fun j2 h => ?_)
      · unfold l02_AstExprs_l2 at h
        refine adv (ok X) 3 [.i (v3.1.length : Int)] (pA (lm e_str v3.1) pT) (by kernel_rfl) ?_
        rcases iteE h with ⟨k8, h⟩ | ⟨k8, h⟩
        · obtain ⟨v5, k9, h⟩ := bindE h
          obtain ⟨v6, k10, h⟩ := bindE h
          refine adv (ok X) 6 [.b true, .o [0, 1, 2, 3, 4, 5, 6, 7, 8], .e [.str v5], .e [.str v6]] (pA k8 (pA (ixm e_str k9) (pA (ixm e_str k10) pT))) (by kernel_rfl) ?_
          rcases iteE h with ⟨k11, h⟩ | ⟨k11, h⟩
          · obtain rfl := retE h
            exact fin (ok X) 4 [.b true] (pA k11 pT) (by kernel_rfl)
          · obtain rfl := retE h
            exact fin (ok X) 4 [.b false] (pA k11 pT) (by kernel_rfl)
        · obtain rfl := retE h
          exact fin (ok X) 2 [.b false] (pA k8 pT) (by kernel_rfl)
      · obtain rfl := retE h
        kernel_rfl
      · obtain rfl := retE h
        exact fin (ok X) 3 [] pT (by kernel_rfl)

theorem m_ast_Move_ {a0 : (List ast_Move)} {a1 : (List ast_Move)} {r : Bool} (h : ast_Move_ a0 a1 = some r) : Cv Tryz.prog (GX X) 23 [xL (List.map e_ast_Move a0), xL (List.map e_ast_Move a1)] (r_ast_Move_ r) := by
  refine Cs.toV (?_ : Cs Tryz.prog (GX X) 23 [xL (List.map e_ast_Move a0), xL (List.map e_ast_Move a1)] [] (r_ast_Move_ r) (o_ast_Move_ r)) (by kernel_rfl)
  refine fnT (cx := cx X) Tryz.f23 Tryz.call23 Tryz.func23 (by kernel_rfl) ?_
  unfold ast_Move_ at h
  refine adv (ok X) 5 [.i (a0.length : Int), .i (a1.length : Int)] (pA (lm e_ast_Move a0) (pA (lm e_ast_Move a1) pT)) (by kernel_rfl) ?_
  rcases iteE h with ⟨k1, h⟩ | ⟨k1, h⟩
  · obtain rfl := retE h
    exact fin (ok X) 4 [.b true] (pA k1 pT) (by kernel_rfl)
  · refine adv (ok X) 5 [.b false, .i (a0.length : Int)] (pA k1 (pA (lm e_ast_Move a0) pT)) (by kernel_rfl) ?_
    refine lp (ok X) (ast_Move__l1 a0 a1) (fun (x1 : Int) => ⟨26, 0, [(0, [xL (List.map e_ast_Move a0)]), (1, [xL (List.map e_ast_Move a1)]), (12, [xI (a0.length : Int)]), (13, [xI x1])], []⟩) (fun (j1 : Unit) => ⟨26, 0, [], []⟩) R_ast_Move_ 0 (fun _ => ⟨_, _, _, _, rfl⟩) h (by kernel_rfl) (fun x1 o h => ?_) (fun r' h => ?_) (fun j1 h => ?_)
    · unfold ast_Move__l1 at h
      rcases iteE h with ⟨k2, h⟩ | ⟨k2, h⟩
      · obtain ⟨v1, k3, h⟩ := bindE h
        obtain ⟨v2, k4, h⟩ := bindE h
        refine adv (ok X) 11 [.b true, .o [0, 1, 2, 3, 4, 5, 6, 7, 8], .e (e_ast_Move v1), .e (e_ast_Move v2)] (pA k2 (pA (ixm e_ast_Move k3) (pA (ixm e_ast_Move k4) pT))) (by kernel_rfl) ?_
        rcases iteE h with ⟨k5, h⟩ | ⟨k5, h⟩
        · obtain rfl := retE h
          exact fin (ok X) 4 [.b true] (pA k5 pT) (by kernel_rfl)
        · obtain rfl := retE h
          exact fin (ok X) 4 [.b false] (pA k5 pT) (by kernel_rfl)
      · obtain rfl := retE h
        exact fin (ok X) 5 [.b false] (pA k2 pT) (by kernel_rfl)
    · obtain rfl := retE h
      kernel_rfl
    · obtain rfl := retE h
      exact fin (ok X) 3 [] pT (by kernel_rfl)

theorem m_ast_Same_1 {a0 : ast_Rule} {a1 : ast_Rule} {r : Bool} (h : ast_Same_1 a0 a1 = some r) : Cv Tryz.prog (GX X) 22 [.agg (bs (e_ast_Rule a0)), .agg (bs (e_ast_Rule a1))] (r_ast_Same_1 r) := by
  refine Cs.toV (?_ : Cs Tryz.prog (GX X) 22 [.agg (bs (e_ast_Rule a0)), .agg (bs (e_ast_Rule a1))] [] (r_ast_Same_1 r) (o_ast_Same_1 r)) (by kernel_rfl)
  refine fnT (cx := cx X) Tryz.f22 Tryz.call22 Tryz.func22 (by kernel_rfl) ?_
  unfold ast_Same_1 at h
  rcases iteE h with ⟨k1, h⟩ | ⟨k1, h⟩
  · obtain ⟨v1, k2, h⟩ := bindE h
    obtain rfl := retE h
    exact fin (ok X) 5 [.b true, .b true, .b true, .b true, .b true, .c (r_ast_Move_ v1), .b true] (pA k1 (pA k1 (pA k1 (pA k1 (pA k1 (pA (m_ast_Move_ (X := X) k2) (pA k1 pT))))))) (by kernel_rfl)
  · obtain rfl := retE h
    exact fin (ok X) 5 [.b false, .b false, .b false, .b false, .b false, .b false] (pA k1 (pA k1 (pA k1 (pA k1 (pA k1 (pA k1 pT)))))) (by kernel_rfl)

theorem m_ast_Rule__ast_Same_1 {a0 : (List ast_Rule)} {a1 : (List ast_Rule)} {r : Bool} (h : ast_Rule__ast_Same_1 a0 a1 = some r) : Cv Tryz.prog (GX X) 21 [xL (List.map e_ast_Rule a0), xL (List.map e_ast_Rule a1), .fn (.func 22) [] []] (r_ast_Rule__ast_Same_1 r) := by
  refine Cs.toV (?_ : Cs Tryz.prog (GX X) 21 [xL (List.map e_ast_Rule a0), xL (List.map e_ast_Rule a1), .fn (.func 22) [] []] [] (r_ast_Rule__ast_Same_1 r) (o_ast_Rule__ast_Same_1 r)) (by kernel_rfl)
  refine fnT (cx := cx X) Tryz.f21 Tryz.call21 Tryz.func21 (by kernel_rfl) ?_
  unfold ast_Rule__ast_Same_1 at h
  refine adv (ok X) 5 [.i (a0.length : Int), .i (a1.length : Int)] (pA (lm e_ast_Rule a0) (pA (lm e_ast_Rule a1) pT)) (by kernel_rfl) ?_
  rcases iteE h with ⟨k1, h⟩ | ⟨k1, h⟩
  · obtain rfl := retE h
    exact fin (ok X) 4 [.b true] (pA k1 pT) (by kernel_rfl)
  · refine adv (ok X) 5 [.b false, .i (a0.length : Int)] (pA k1 (pA (lm e_ast_Rule a0) pT)) (by kernel_rfl) ?_
    refine lp (ok X) (ast_Rule__ast_Same_1_l1 a0 a1) (fun (x1 : Int) => ⟨32, 0, [(1, [xL (List.map e_ast_Rule a1)]), (2, [.fn (.func 22) [] []]), (15, [xL (List.map e_ast_Rule a0)]), (16, [xI (a0.length : Int)]), (17, [xI x1])], []⟩) (fun (j1 : Unit) => ⟨32, 0, [], []⟩) R_ast_Rule__ast_Same_1 0 (fun _ => ⟨_, _, _, _, rfl⟩) h (by kernel_rfl) (fun x1 o h => ?_) (fun r' h => ?_) (fun j1 h => ?_)
    · unfold ast_Rule__ast_Same_1_l1 at h
      rcases iteE h with ⟨k2, h⟩ | ⟨k2, h⟩
      · obtain ⟨v1, k3, h⟩ := bindE h
        obtain ⟨v2, k4, h⟩ := bindE h
        obtain ⟨v3, k5, h⟩ := bindE h
        refine adv (ok X) 13 [.b true, .e (e_ast_Rule v1), .e (e_ast_Rule v2), .c (r_ast_Same_1 v3)] (pA k2 (pA (ixm e_ast_Rule k3) (pA (ixm e_ast_Rule k4) (pA (m_ast_Same_1 (X := X) k5) pT)))) (by kernel_rfl) ?_
        rcases iteE h with ⟨k6, h⟩ | ⟨k6, h⟩
        · obtain rfl := retE h
          exact fin (ok X) 4 [.b true] (pA k6 pT) (by kernel_rfl)
        · obtain rfl := retE h
          exact fin (ok X) 4 [.b false] (pA k6 pT) (by kernel_rfl)
      · obtain rfl := retE h
        exact fin (ok X) 5 [.b false] (pA k2 pT) (by kernel_rfl)
    · obtain rfl := retE h
      kernel_rfl
    · obtain rfl := retE h
      exact fin (ok X) 3 [] pT (by kernel_rfl)

theorem m_slices_Equal_string_string_ {a0 : (List ByteArray)} {a1 : (List ByteArray)} {r : Bool} (h : slices_Equal_string_string_ a0 a1 = some r) : Cv Tryz.prog (GX X) 26 [xL (List.map e_str a0), xL (List.map e_str a1)] (r_slices_Equal_string_string_ r) := by
  refine Cs.toV (?_ : Cs Tryz.prog (GX X) 26 [xL (List.map e_str a0), xL (List.map e_str a1)] [] (r_slices_Equal_string_string_ r) (o_slices_Equal_string_string_ r)) (by kernel_rfl)
  refine fnT (cx := cx X) Tryz.f26 Tryz.call26 Tryz.func26 (by kernel_rfl) ?_
  unfold slices_Equal_string_string_ at h
  refine adv (ok X) 5 [.i (a0.length : Int), .i (a1.length : Int)] (pA (lm e_str a0) (pA (lm e_str a1) pT)) (by kernel_rfl) ?_
  rcases iteE h with ⟨k1, h⟩ | ⟨k1, h⟩
  · obtain rfl := retE h
    exact fin (ok X) 4 [.b true] (pA k1 pT) (by kernel_rfl)
  · refine adv (ok X) 5 [.b false, .i (a0.length : Int)] (pA k1 (pA (lm e_str a0) pT)) (by kernel_rfl) ?_
    refine lp (ok X) (slices_Equal_string_string__l1 a0 a1) (fun (x1 : Int) => ⟨26, 0, [(0, [xL (List.map e_str a0)]), (1, [xL (List.map e_str a1)]), (12, [xI (a0.length : Int)]), (13, [xI x1])], []⟩) (fun (j1 : Unit) => ⟨26, 0, [], []⟩) R_slices_Equal_string_string_ 0 (fun _ => ⟨_, _, _, _, rfl⟩) h (by kernel_rfl) (fun x1 o h => ?_) (fun r' h => ?_) (fun j1 h => ?_)
    · unfold slices_Equal_string_string__l1 at h
      rcases iteE h with ⟨k2, h⟩ | ⟨k2, h⟩
      · obtain ⟨v1, k3, h⟩ := bindE h
        obtain ⟨v2, k4, h⟩ := bindE h
        refine adv (ok X) 11 [.b true, .o [0, 1, 2, 3, 4, 5, 6, 7, 8], .e [.str v1], .e [.str v2]] (pA k2 (pA (ixm e_str k3) (pA (ixm e_str k4) pT))) (by kernel_rfl) ?_
        rcases iteE h with ⟨k5, h⟩ | ⟨k5, h⟩
        · obtain rfl := retE h
          exact fin (ok X) 4 [.b true] (pA k5 pT) (by kernel_rfl)
        · obtain rfl := retE h
          exact fin (ok X) 4 [.b false] (pA k5 pT) (by kernel_rfl)
      · obtain rfl := retE h
        exact fin (ok X) 5 [.b false] (pA k2 pT) (by kernel_rfl)
    · obtain rfl := retE h
      kernel_rfl
    · obtain rfl := retE h
      exact fin (ok X) 3 [] pT (by kernel_rfl)

theorem s_ast_sameExpr {n : Nat} (ih_ast_sameExpr : ∀ (a0 : ast_Expr) (a1 : ast_Expr) (r : Bool), ast_sameExprN n a0 a1 = some r → Cv Tryz.prog (GX X) 46 [.agg (bs (f_ast_Expr a0)), .agg (bs (f_ast_Expr a1))] (r_ast_sameExpr r)) (ih_ast_Expr__ast_sameExpr : ∀ (a0 : (List ast_Expr)) (a1 : (List ast_Expr)) (r : Bool), ast_Expr__ast_sameExprN n a0 a1 = some r → Cv Tryz.prog (GX X) 61 [xL (List.map e_ast_Expr a0), xL (List.map e_ast_Expr a1), .fn (.func 46) [] []] (r_ast_Expr__ast_sameExpr r)) (a0 : ast_Expr) (a1 : ast_Expr) (r : Bool) (h : ast_sameExprN (n + 1) a0 a1 = some r) : Cv Tryz.prog (GX X) 46 [.agg (bs (f_ast_Expr a0)), .agg (bs (f_ast_Expr a1))] (r_ast_sameExpr r) := by
  refine Cs.toV (?_ : Cs Tryz.prog (GX X) 46 [.agg (bs (f_ast_Expr a0)), .agg (bs (f_ast_Expr a1))] [] (r_ast_sameExpr r) (o_ast_sameExpr r)) (by kernel_rfl)
  refine fnT (cx := cx X) Tryz.f46 Tryz.call46 Tryz.func46 (by kernel_rfl) ?_
  rw [ast_sameExprN] at h
  refine adv (ok X) 4 [] pT (by kernel_rfl) ?_
  refine jn (ok X) 1 (fun (j1 : Bool) => ⟨39, 0, [(2, [xP 0 0]), (3, [xP 1 0]), (33, [xB j1])], [oB 98 (bs (f_ast_Expr a0)), oB 98 (bs (f_ast_Expr a1))]⟩) h (fun j1 h => ?_) (fun j1 h => ?_)
  · rcases iteE h with ⟨k1, h⟩ | ⟨k1, h⟩
    · obtain rfl := retE h
      exact fin (ok X) 1 [.b true, .b true, .b true, .b true, .b true, .b true, .b true, .b true, .b true, .b true, .b true, .b true] (pA k1 (pA k1 (pA k1 (pA k1 (pA k1 (pA k1 (pA tt (pA tt (pA tt (pA tt (pA tt (pA tt pT)))))))))))) (by kernel_rfl)
    · rcases iteE h with ⟨k2, h⟩ | ⟨k2, h⟩
      · rcases iteE h with ⟨k3, h⟩ | ⟨k3, h⟩
        · obtain rfl := retE h
          exact fin (ok X) 1 [.b false, .b false, .b false, .b false, .b true, .b true, .b true, .b true, .b true, .b false, .b true, .b false, .b true, .b true, .b true, .b true, .b true, .b true] (pA k1 (pA k1 (pA k1 (pA k1 (pA k2 (pA k2 (pA k2 (pA k2 (pA k2 (pA k1 (pA k2 (pA k1 (pA k3 (pA k3 (pA k3 (pA k3 (pA k3 (pA k3 pT)))))))))))))))))) (by kernel_rfl)
        · rcases iteE h with ⟨k4, h⟩ | ⟨k4, h⟩
          · obtain rfl := retE h
            exact fin (ok X) 1 [.b false, .b false, .b false, .b false, .b true, .b true, .b true, .b true, .b true, .b false, .b true, .b false, .b false, .b false, .b false, .b false, .b true, .b true, .b true, .b true, .b true, .b false, .b true, .b false] (pA k1 (pA k1 (pA k1 (pA k1 (pA k2 (pA k2 (pA k2 (pA k2 (pA k2 (pA k1 (pA k2 (pA k1 (pA k3 (pA k3 (pA k3 (pA k3 (pA k4 (pA k4 (pA k4 (pA k4 (pA k4 (pA k3 (pA k4 (pA k3 pT)))))))))))))))))))))))) (by kernel_rfl)
          · obtain rfl := retE h
            exact fin (ok X) 1 [.b false, .b false, .b false, .b false, .b true, .b true, .b true, .b true, .b true, .b false, .b true, .b false, .b false, .b false, .b false, .b false, .b false, .b false, .b false, .b false, .b false, .b false, .b false, .b false] (pA k1 (pA k1 (pA k1 (pA k1 (pA k2 (pA k2 (pA k2 (pA k2 (pA k2 (pA k1 (pA k2 (pA k1 (pA k3 (pA k3 (pA k3 (pA k3 (pA k4 (pA k4 (pA k4 (pA k4 (pA k4 (pA k3 (pA k4 (pA k3 pT)))))))))))))))))))))))) (by kernel_rfl)
      · rcases iteE h with ⟨k5, h⟩ | ⟨k5, h⟩
        · obtain rfl := retE h
          exact fin (ok X) 1 [.b false, .b false, .b false, .b false, .b false, .b false, .b false, .b false, .b false, .b false, .b false, .b false, .b false, .b false, .b false, .b false, .b true, .b true, .b true, .b true, .b true, .b false, .b true, .b false] (pA k1 (pA k1 (pA k1 (pA k1 (pA k2 (pA k2 (pA k2 (pA k2 (pA k2 (pA k1 (pA k2 (pA k1 (pA ff (pA ff (pA ff (pA ff (pA k5 (pA k5 (pA k5 (pA k5 (pA k5 (pA ff (pA k5 (pA ff pT)))))))))))))))))))))))) (by kernel_rfl)
        · obtain rfl := retE h
          exact fin (ok X) 1 [.b false, .b false, .b false, .b false, .b false, .b false, .b false, .b false, .b false, .b false, .b false, .b false, .b false, .b false, .b false, .b false, .b false, .b false, .b false, .b false, .b false, .b false, .b false, .b false] (pA k1 (pA k1 (pA k1 (pA k1 (pA k2 (pA k2 (pA k2 (pA k2 (pA k2 (pA k1 (pA k2 (pA k1 (pA ff (pA ff (pA ff (pA ff (pA k5 (pA k5 (pA k5 (pA k5 (pA k5 (pA ff (pA k5 (pA ff pT)))))))))))))))))))))))) (by kernel_rfl)
  · rcases iteE h with ⟨k6, h⟩ | ⟨k6, h⟩
    · obtain rfl := retE h
      exact fin (ok X) 4 [.b true] (pA k6 pT) (by kernel_rfl)
    · obtain ⟨v1, k7, h⟩ := bindE h
      obtain rfl := retE h
      exact fin (ok X) 5 [.b false, .c (r_ast_Expr__ast_sameExpr v1)] (pA k6 (pA (ih_ast_Expr__ast_sameExpr _ _ _ k7) pT)) (by kernel_rfl)

theorem s_ast_Expr__ast_sameExpr {n : Nat} (ih_ast_sameExpr : ∀ (a0 : ast_Expr) (a1 : ast_Expr) (r : Bool), ast_sameExprN n a0 a1 = some r → Cv Tryz.prog (GX X) 46 [.agg (bs (f_ast_Expr a0)), .agg (bs (f_ast_Expr a1))] (r_ast_sameExpr r)) (ih_ast_Expr__ast_sameExpr : ∀ (a0 : (List ast_Expr)) (a1 : (List ast_Expr)) (r : Bool), ast_Expr__ast_sameExprN n a0 a1 = some r → Cv Tryz.prog (GX X) 61 [xL (List.map e_ast_Expr a0), xL (List.map e_ast_Expr a1), .fn (.func 46) [] []] (r_ast_Expr__ast_sameExpr r)) (a0 : (List ast_Expr)) (a1 : (List ast_Expr)) (r : Bool) (h : ast_Expr__ast_sameExprN (n + 1) a0 a1 = some r) : Cv Tryz.prog (GX X) 61 [xL (List.map e_ast_Expr a0), xL (List.map e_ast_Expr a1), .fn (.func 46) [] []] (r_ast_Expr__ast_sameExpr r) := by
  refine Cs.toV (?_ : Cs Tryz.prog (GX X) 61 [xL (List.map e_ast_Expr a0), xL (List.map e_ast_Expr a1), .fn (.func 46) [] []] [] (r_ast_Expr__ast_sameExpr r) (o_ast_Expr__ast_sameExpr r)) (by kernel_rfl)
  refine fnT (cx := cx X) Tryz.f61 Tryz.call61 Tryz.func61 (by kernel_rfl) ?_
  rw [ast_Expr__ast_sameExprN] at h
  refine adv (ok X) 5 [.i (a0.length : Int), .i (a1.length : Int)] (pA (lm e_ast_Expr a0) (pA (lm e_ast_Expr a1) pT)) (by kernel_rfl) ?_
  rcases iteE h with ⟨k1, h⟩ | ⟨k1, h⟩
  · obtain rfl := retE h
    exact fin (ok X) 4 [.b true] (pA k1 pT) (by kernel_rfl)
  · refine adv (ok X) 5 [.b false, .i (a0.length : Int)] (pA k1 (pA (lm e_ast_Expr a0) pT)) (by kernel_rfl) ?_
    refine lp (ok X) (ast_Expr__ast_sameExpr_l1 (ast_sameExprN n) (ast_Expr__ast_sameExprN n) a0 a1) (fun (x1 : Int) => ⟨32, 0, [(1, [xL (List.map e_ast_Expr a1)]), (2, [.fn (.func 46) [] []]), (15, [xL (List.map e_ast_Expr a0)]), (16, [xI (a0.length : Int)]), (17, [xI x1])], []⟩) (fun (j1 : Unit) => ⟨32, 0, [], []⟩) R_ast_Expr__ast_sameExpr 0 (fun _ => ⟨_, _, _, _, rfl⟩) h (by kernel_rfl) (fun x1 o h => ?_) (fun r' h => ?_) (fun j1 h => ?_)
    · unfold ast_Expr__ast_sameExpr_l1 at h
      rcases iteE h with ⟨k2, h⟩ | ⟨k2, h⟩
      · obtain ⟨v1, k3, h⟩ := bindE h
        obtain ⟨v2, k4, h⟩ := bindE h
        obtain ⟨v3, k5, h⟩ := bindE h
        refine adv (ok X) 13 [.b true, .e (f_ast_Expr v1), .e (f_ast_Expr v2), .c (r_ast_sameExpr v3)] (pA k2 (pA (ixr e_ast_Expr_eq k3) (pA (ixr e_ast_Expr_eq k4) (pA (ih_ast_sameExpr _ _ _ k5) pT)))) (by kernel_rfl) ?_
        rcases iteE h with ⟨k6, h⟩ | ⟨k6, h⟩
        · obtain rfl := retE h
          exact fin (ok X) 4 [.b true] (pA k6 pT) (by kernel_rfl)
        · obtain rfl := retE h
          exact fin (ok X) 4 [.b false] (pA k6 pT) (by kernel_rfl)
      · obtain rfl := retE h
        exact fin (ok X) 5 [.b false] (pA k2 pT) (by kernel_rfl)
    · obtain rfl := retE h
      kernel_rfl
    · obtain rfl := retE h
      exact fin (ok X) 3 [] pT (by kernel_rfl)

theorem all_ast_sameExpr : ∀ n : Nat, (∀ (a0 : ast_Expr) (a1 : ast_Expr) (r : Bool), ast_sameExprN n a0 a1 = some r → Cv Tryz.prog (GX X) 46 [.agg (bs (f_ast_Expr a0)), .agg (bs (f_ast_Expr a1))] (r_ast_sameExpr r)) ∧ (∀ (a0 : (List ast_Expr)) (a1 : (List ast_Expr)) (r : Bool), ast_Expr__ast_sameExprN n a0 a1 = some r → Cv Tryz.prog (GX X) 61 [xL (List.map e_ast_Expr a0), xL (List.map e_ast_Expr a1), .fn (.func 46) [] []] (r_ast_Expr__ast_sameExpr r))
  | 0 => ⟨(fun _ _ _ h => by rw [ast_sameExprN] at h; cases h), (fun _ _ _ h => by rw [ast_Expr__ast_sameExprN] at h; cases h)⟩
  | n + 1 => by
    have ih := all_ast_sameExpr n
    exact ⟨s_ast_sameExpr ih.1 ih.2, s_ast_Expr__ast_sameExpr ih.1 ih.2⟩

theorem m_ast_sameExpr {a0 : ast_Expr} {a1 : ast_Expr} {r : Bool} (h : ast_sameExpr a0 a1 = some r) : Cv Tryz.prog (GX X) 46 [.agg (bs (f_ast_Expr a0)), .agg (bs (f_ast_Expr a1))] (r_ast_sameExpr r) := by
  obtain ⟨n, hn⟩ := unfE h
  exact (all_ast_sameExpr n).1 _ _ _ hn

theorem m_ast_Expr__ast_sameExpr {a0 : (List ast_Expr)} {a1 : (List ast_Expr)} {r : Bool} (h : ast_Expr__ast_sameExpr a0 a1 = some r) : Cv Tryz.prog (GX X) 61 [xL (List.map e_ast_Expr a0), xL (List.map e_ast_Expr a1), .fn (.func 46) [] []] (r_ast_Expr__ast_sameExpr r) := by
  obtain ⟨n, hn⟩ := unfE h
  exact (all_ast_sameExpr n).2 _ _ _ hn

theorem m_ast_sameCond {a0 : ast_Cond} {a1 : ast_Cond} {r : Bool} (h : ast_sameCond a0 a1 = some r) : Cv Tryz.prog (GX X) 47 [.agg (bs (e_ast_Cond a0)), .agg (bs (e_ast_Cond a1))] (r_ast_sameCond r) := by
  refine Cs.toV (?_ : Cs Tryz.prog (GX X) 47 [.agg (bs (e_ast_Cond a0)), .agg (bs (e_ast_Cond a1))] [] (r_ast_sameCond r) (o_ast_sameCond r)) (by kernel_rfl)
  refine fnT (cx := cx X) Tryz.f47 Tryz.call47 Tryz.func47 (by kernel_rfl) ?_
  unfold ast_sameCond at h
  rcases iteE h with ⟨k1, h⟩ | ⟨k1, h⟩
  · obtain ⟨v1, k2, h⟩ := bindE h
    rcases iteE h with ⟨k3, h⟩ | ⟨k3, h⟩
    · obtain ⟨v2, k4, h⟩ := bindE h
      obtain rfl := retE h
      exact fin (ok X) 5 [.b true, .b true, .b true, .b true, .b true, .c (r_ast_sameExpr v1), .b true, .b true, .b true, .b true, .b true, .b true, .c (r_ast_sameExpr v2), .b true] (pA k1 (pA k1 (pA k1 (pA k1 (pA k1 (pA (m_ast_sameExpr (X := X) k2) (pA k1 (pA k3 (pA k3 (pA k3 (pA k3 (pA k3 (pA (m_ast_sameExpr (X := X) k4) (pA k3 pT)))))))))))))) (by kernel_rfl)
    · obtain rfl := retE h
      exact fin (ok X) 5 [.b true, .b true, .b true, .b true, .b true, .c (r_ast_sameExpr v1), .b true, .b false, .b false, .b false, .b false, .b false, .b false] (pA k1 (pA k1 (pA k1 (pA k1 (pA k1 (pA (m_ast_sameExpr (X := X) k2) (pA k1 (pA k3 (pA k3 (pA k3 (pA k3 (pA k3 (pA k3 pT))))))))))))) (by kernel_rfl)
  · obtain rfl := retE h
    exact fin (ok X) 5 [.b false, .b false, .b false, .b false, .b false, .b false, .b false, .b false, .b false, .b false, .b false, .b false] (pA k1 (pA k1 (pA k1 (pA k1 (pA k1 (pA k1 (pA ff (pA ff (pA ff (pA ff (pA ff (pA ff pT)))))))))))) (by kernel_rfl)

theorem s_ast_Stmt__ast_sameStmt {n : Nat} (ih_ast_Stmt__ast_sameStmt : ∀ (a0 : (List ast_Stmt)) (a1 : (List ast_Stmt)) (r : Bool), ast_Stmt__ast_sameStmtN n a0 a1 = some r → Cv Tryz.prog (GX X) 27 [xL (List.map e_ast_Stmt a0), xL (List.map e_ast_Stmt a1), .fn (.func 28) [] []] (r_ast_Stmt__ast_sameStmt r)) (ih_ast_sameStmt : ∀ (a0 : ast_Stmt) (a1 : ast_Stmt) (r : Bool), ast_sameStmtN n a0 a1 = some r → Cv Tryz.prog (GX X) 28 [.agg (bs (f_ast_Stmt a0)), .agg (bs (f_ast_Stmt a1))] (r_ast_sameStmt r)) (ih_ast_Arm__ast_sameArm : ∀ (a0 : (List ast_Arm)) (a1 : (List ast_Arm)) (r : Bool), ast_Arm__ast_sameArmN n a0 a1 = some r → Cv Tryz.prog (GX X) 48 [xL (List.map e_ast_Arm a0), xL (List.map e_ast_Arm a1), .fn (.func 49) [] []] (r_ast_Arm__ast_sameArm r)) (ih_ast_sameArm : ∀ (a0 : ast_Arm) (a1 : ast_Arm) (r : Bool), ast_sameArmN n a0 a1 = some r → Cv Tryz.prog (GX X) 49 [.agg (bs (f_ast_Arm a0)), .agg (bs (f_ast_Arm a1))] (r_ast_sameArm r)) (a0 : (List ast_Stmt)) (a1 : (List ast_Stmt)) (r : Bool) (h : ast_Stmt__ast_sameStmtN (n + 1) a0 a1 = some r) : Cv Tryz.prog (GX X) 27 [xL (List.map e_ast_Stmt a0), xL (List.map e_ast_Stmt a1), .fn (.func 28) [] []] (r_ast_Stmt__ast_sameStmt r) := by
  refine Cs.toV (?_ : Cs Tryz.prog (GX X) 27 [xL (List.map e_ast_Stmt a0), xL (List.map e_ast_Stmt a1), .fn (.func 28) [] []] [] (r_ast_Stmt__ast_sameStmt r) (o_ast_Stmt__ast_sameStmt r)) (by kernel_rfl)
  refine fnT (cx := cx X) Tryz.f27 Tryz.call27 Tryz.func27 (by kernel_rfl) ?_
  rw [ast_Stmt__ast_sameStmtN] at h
  refine adv (ok X) 5 [.i (a0.length : Int), .i (a1.length : Int)] (pA (lm e_ast_Stmt a0) (pA (lm e_ast_Stmt a1) pT)) (by kernel_rfl) ?_
  rcases iteE h with ⟨k1, h⟩ | ⟨k1, h⟩
  · obtain rfl := retE h
    exact fin (ok X) 4 [.b true] (pA k1 pT) (by kernel_rfl)
  · refine adv (ok X) 5 [.b false, .i (a0.length : Int)] (pA k1 (pA (lm e_ast_Stmt a0) pT)) (by kernel_rfl) ?_
    refine lp (ok X) (ast_Stmt__ast_sameStmt_l1 (ast_Stmt__ast_sameStmtN n) (ast_sameStmtN n) (ast_Arm__ast_sameArmN n) (ast_sameArmN n) a0 a1) (fun (x1 : Int) => ⟨32, 0, [(1, [xL (List.map e_ast_Stmt a1)]), (2, [.fn (.func 28) [] []]), (15, [xL (List.map e_ast_Stmt a0)]), (16, [xI (a0.length : Int)]), (17, [xI x1])], []⟩) (fun (j1 : Unit) => ⟨32, 0, [], []⟩) R_ast_Stmt__ast_sameStmt 0 (fun _ => ⟨_, _, _, _, rfl⟩) h (by kernel_rfl) (fun x1 o h => ?_) (fun r' h => ?_) (fun j1 h => ?_)
    · unfold ast_Stmt__ast_sameStmt_l1 at h
      rcases iteE h with ⟨k2, h⟩ | ⟨k2, h⟩
      · obtain ⟨v1, k3, h⟩ := bindE h
        obtain ⟨v2, k4, h⟩ := bindE h
        obtain ⟨v3, k5, h⟩ := bindE h
        refine adv (ok X) 13 [.b true, .e (f_ast_Stmt v1), .e (f_ast_Stmt v2), .c (r_ast_sameStmt v3)] (pA k2 (pA (ixr e_ast_Stmt_eq k3) (pA (ixr e_ast_Stmt_eq k4) (pA (ih_ast_sameStmt _ _ _ k5) pT)))) (by kernel_rfl) ?_
        rcases iteE h with ⟨k6, h⟩ | ⟨k6, h⟩
        · obtain rfl := retE h
          exact fin (ok X) 4 [.b true] (pA k6 pT) (by kernel_rfl)
        · obtain rfl := retE h
          exact fin (ok X) 4 [.b false] (pA k6 pT) (by kernel_rfl)
      · obtain rfl := retE h
        exact fin (ok X) 5 [.b false] (pA k2 pT) (by kernel_rfl)
    · obtain rfl := retE h
      kernel_rfl
    · obtain rfl := retE h
      exact fin (ok X) 3 [] pT (by kernel_rfl)

theorem s_ast_sameStmt {n : Nat} (ih_ast_Stmt__ast_sameStmt : ∀ (a0 : (List ast_Stmt)) (a1 : (List ast_Stmt)) (r : Bool), ast_Stmt__ast_sameStmtN n a0 a1 = some r → Cv Tryz.prog (GX X) 27 [xL (List.map e_ast_Stmt a0), xL (List.map e_ast_Stmt a1), .fn (.func 28) [] []] (r_ast_Stmt__ast_sameStmt r)) (ih_ast_sameStmt : ∀ (a0 : ast_Stmt) (a1 : ast_Stmt) (r : Bool), ast_sameStmtN n a0 a1 = some r → Cv Tryz.prog (GX X) 28 [.agg (bs (f_ast_Stmt a0)), .agg (bs (f_ast_Stmt a1))] (r_ast_sameStmt r)) (ih_ast_Arm__ast_sameArm : ∀ (a0 : (List ast_Arm)) (a1 : (List ast_Arm)) (r : Bool), ast_Arm__ast_sameArmN n a0 a1 = some r → Cv Tryz.prog (GX X) 48 [xL (List.map e_ast_Arm a0), xL (List.map e_ast_Arm a1), .fn (.func 49) [] []] (r_ast_Arm__ast_sameArm r)) (ih_ast_sameArm : ∀ (a0 : ast_Arm) (a1 : ast_Arm) (r : Bool), ast_sameArmN n a0 a1 = some r → Cv Tryz.prog (GX X) 49 [.agg (bs (f_ast_Arm a0)), .agg (bs (f_ast_Arm a1))] (r_ast_sameArm r)) (a0 : ast_Stmt) (a1 : ast_Stmt) (r : Bool) (h : ast_sameStmtN (n + 1) a0 a1 = some r) : Cv Tryz.prog (GX X) 28 [.agg (bs (f_ast_Stmt a0)), .agg (bs (f_ast_Stmt a1))] (r_ast_sameStmt r) := by
  refine Cs.toV (?_ : Cs Tryz.prog (GX X) 28 [.agg (bs (f_ast_Stmt a0)), .agg (bs (f_ast_Stmt a1))] [] (r_ast_sameStmt r) (o_ast_sameStmt r)) (by kernel_rfl)
  refine fnT (cx := cx X) Tryz.f28 Tryz.call28 Tryz.func28 (by kernel_rfl) ?_
  rw [ast_sameStmtN] at h
  rcases iteE h with ⟨k1, h⟩ | ⟨k1, h⟩
  · obtain rfl := retE h
    exact fin (ok X) 9 [.b true] (pA k1 pT) (by kernel_rfl)
  · refine adv (ok X) 13 [.b false] (pA k1 pT) (by kernel_rfl) ?_
    rcases iteE h with ⟨k2, h⟩ | ⟨k2, h⟩
    · refine adv (ok X) 2 [.b true] (pA k2 pT) (by kernel_rfl) ?_
      refine jn (ok X) 1 (fun (j1 : Bool) => ⟨110, 0, [(4, [xB j1])], []⟩) h (fun j1 h => ?_) (fun j1 h => ?_)
      · rcases iteE h with ⟨k3, h⟩ | ⟨k3, h⟩
        · obtain ⟨v1, k4, h⟩ := bindE h
          obtain rfl := retE h
          exact fin (ok X) 1 [.b true, .b true, .b true, .b true, .b true, .c (r_ast_sameExpr v1), .b true] (pA k3 (pA k3 (pA k3 (pA k3 (pA k3 (pA (m_ast_sameExpr (X := X) k4) (pA k3 pT))))))) (by kernel_rfl)
        · obtain rfl := retE h
          exact fin (ok X) 1 [.b false, .b false, .b false, .b false, .b false, .b false] (pA k3 (pA k3 (pA k3 (pA k3 (pA k3 (pA k3 pT)))))) (by kernel_rfl)
      · obtain rfl := retE h
        exact fin (ok X) 1 [] pT (by kernel_rfl)
    · refine adv (ok X) 3 [.b false] (pA k2 pT) (by kernel_rfl) ?_
      rcases iteE h with ⟨k5, h⟩ | ⟨k5, h⟩
      · refine adv (ok X) 2 [.b true] (pA k5 pT) (by kernel_rfl) ?_
        refine jn (ok X) 1 (fun (j2 : Bool) => ⟨110, 0, [(4, [xB j2])], []⟩) h (fun j2 h => ?_) (fun j2 h => ?_)
        · obtain ⟨v2, k6, h⟩ := bindE h
          rcases iteE h with ⟨k7, h⟩ | ⟨k7, h⟩
          · obtain ⟨v3, k8, h⟩ := bindE h
            rcases iteE h with ⟨k9, h⟩ | ⟨k9, h⟩
            · obtain ⟨v4, k10, h⟩ := bindE h
              obtain rfl := retE h
              exact fin (ok X) 1 [.c (r_ast_sameCond v2), .b true, .b true, .b true, .b true, .b true, .c (r_ast_Stmt__ast_sameStmt v3), .b true, .b true, .b true, .b true, .b true, .b true, .c (r_ast_Stmt__ast_sameStmt v4), .b true] (pA (m_ast_sameCond (X := X) k6) (pA k7 (pA k7 (pA k7 (pA k7 (pA k7 (pA (ih_ast_Stmt__ast_sameStmt _ _ _ k8) (pA k7 (pA k9 (pA k9 (pA k9 (pA k9 (pA k9 (pA (ih_ast_Stmt__ast_sameStmt _ _ _ k10) (pA k9 pT))))))))))))))) (by kernel_rfl)
            · obtain rfl := retE h
              exact fin (ok X) 1 [.c (r_ast_sameCond v2), .b true, .b true, .b true, .b true, .b true, .c (r_ast_Stmt__ast_sameStmt v3), .b true, .b false, .b false, .b false, .b false, .b false, .b false] (pA (m_ast_sameCond (X := X) k6) (pA k7 (pA k7 (pA k7 (pA k7 (pA k7 (pA (ih_ast_Stmt__ast_sameStmt _ _ _ k8) (pA k7 (pA k9 (pA k9 (pA k9 (pA k9 (pA k9 (pA k9 pT)))))))))))))) (by kernel_rfl)
          · obtain rfl := retE h
            exact fin (ok X) 1 [.c (r_ast_sameCond v2), .b false, .b false, .b false, .b false, .b false, .b false, .b false, .b false, .b false, .b false, .b false, .b false] (pA (m_ast_sameCond (X := X) k6) (pA k7 (pA k7 (pA k7 (pA k7 (pA k7 (pA k7 (pA ff (pA ff (pA ff (pA ff (pA ff (pA ff pT))))))))))))) (by kernel_rfl)
        · obtain rfl := retE h
          exact fin (ok X) 1 [] pT (by kernel_rfl)
      · refine adv (ok X) 3 [.b false] (pA k5 pT) (by kernel_rfl) ?_
        rcases iteE h with ⟨k11, h⟩ | ⟨k11, h⟩
        · refine adv (ok X) 2 [.b true] (pA k11 pT) (by kernel_rfl) ?_
          refine jn (ok X) 1 (fun (j3 : Bool) => ⟨110, 0, [(4, [xB j3])], []⟩) h (fun j3 h => ?_) (fun j3 h => ?_)
          · obtain ⟨v5, k12, h⟩ := bindE h
            rcases iteE h with ⟨k13, h⟩ | ⟨k13, h⟩
            · obtain ⟨v6, k14, h⟩ := bindE h
              obtain rfl := retE h
              exact fin (ok X) 1 [.c (r_ast_sameCond v5), .b true, .b true, .b true, .b true, .b true, .c (r_ast_Stmt__ast_sameStmt v6), .b true] (pA (m_ast_sameCond (X := X) k12) (pA k13 (pA k13 (pA k13 (pA k13 (pA k13 (pA (ih_ast_Stmt__ast_sameStmt _ _ _ k14) (pA k13 pT)))))))) (by kernel_rfl)
            · obtain rfl := retE h
              exact fin (ok X) 1 [.c (r_ast_sameCond v5), .b false, .b false, .b false, .b false, .b false, .b false] (pA (m_ast_sameCond (X := X) k12) (pA k13 (pA k13 (pA k13 (pA k13 (pA k13 (pA k13 pT))))))) (by kernel_rfl)
          · obtain rfl := retE h
            exact fin (ok X) 1 [] pT (by kernel_rfl)
        · refine adv (ok X) 3 [.b false] (pA k11 pT) (by kernel_rfl) ?_
          rcases iteE h with ⟨k15, h⟩ | ⟨k15, h⟩
          · refine adv (ok X) 2 [.b true] (pA k15 pT) (by kernel_rfl) ?_
            refine jn (ok X) 1 (fun (j4 : Bool) => ⟨110, 0, [(4, [xB j4])], []⟩) h (fun j4 h => ?_) (fun j4 h => ?_)
            · rcases iteE h with ⟨k16, h⟩ | ⟨k16, h⟩
              · rcases iteE h with ⟨k17, h⟩ | ⟨k17, h⟩
                · obtain ⟨v7, k18, h⟩ := bindE h
                  obtain rfl := retE h
                  exact fin (ok X) 1 [.b true, .b true, .b true, .b true, .b true, .b true, .b true, .b true, .b true, .b true, .b true, .c (r_ast_sameExpr v7), .b true] (pA k16 (pA k16 (pA k16 (pA k16 (pA k16 (pA k16 (pA k17 (pA k17 (pA k17 (pA k17 (pA k17 (pA (m_ast_sameExpr (X := X) k18) (pA k17 pT))))))))))))) (by kernel_rfl)
                · obtain rfl := retE h
                  exact fin (ok X) 1 [.b true, .b true, .b true, .b true, .b true, .b true, .b false, .b false, .b false, .b false, .b false, .b false] (pA k16 (pA k16 (pA k16 (pA k16 (pA k16 (pA k16 (pA k17 (pA k17 (pA k17 (pA k17 (pA k17 (pA k17 pT)))))))))))) (by kernel_rfl)
              · obtain rfl := retE h
                exact fin (ok X) 1 [.b false, .b false, .b false, .b false, .b false, .b false, .b false, .b false, .b false, .b false, .b false, .b false] (pA k16 (pA k16 (pA k16 (pA k16 (pA k16 (pA k16 (pA ff (pA ff (pA ff (pA ff (pA ff (pA ff pT)))))))))))) (by kernel_rfl)
            · obtain rfl := retE h
              exact fin (ok X) 1 [] pT (by kernel_rfl)
          · refine adv (ok X) 3 [.b false] (pA k15 pT) (by kernel_rfl) ?_
            rcases iteE h with ⟨k19, h⟩ | ⟨k19, h⟩
            · refine adv (ok X) 2 [.b true] (pA k19 pT) (by kernel_rfl) ?_
              refine jn (ok X) 1 (fun (j5 : Bool) => ⟨110, 0, [(4, [xB j5])], []⟩) h (fun j5 h => ?_) (fun j5 h => ?_)
              · rcases iteE h with ⟨k20, h⟩ | ⟨k20, h⟩
                · obtain ⟨v8, k21, h⟩ := bindE h
                  obtain rfl := retE h
                  exact fin (ok X) 1 [.b true, .b true, .b true, .b true, .b true, .c (r_ast_Arm__ast_sameArm v8), .b true] (pA k20 (pA k20 (pA k20 (pA k20 (pA k20 (pA (ih_ast_Arm__ast_sameArm _ _ _ k21) (pA k20 pT))))))) (by kernel_rfl)
                · obtain rfl := retE h
                  exact fin (ok X) 1 [.b false, .b false, .b false, .b false, .b false, .b false] (pA k20 (pA k20 (pA k20 (pA k20 (pA k20 (pA k20 pT)))))) (by kernel_rfl)
              · obtain rfl := retE h
                exact fin (ok X) 1 [] pT (by kernel_rfl)
            · refine adv (ok X) 3 [.b false] (pA k19 pT) (by kernel_rfl) ?_
              rcases iteE h with ⟨k22, h⟩ | ⟨k22, h⟩
              · obtain ⟨v9, k23, h⟩ := bindE h
                obtain rfl := retE h
                exact fin (ok X) 4 [.b true, .c (r_ast_sameCond v9)] (pA k22 (pA (m_ast_sameCond (X := X) k23) pT)) (by kernel_rfl)
              · refine adv (ok X) 3 [.b false] (pA k22 pT) (by kernel_rfl) ?_
                rcases iteE h with ⟨k24, h⟩ | ⟨k24, h⟩
                · obtain rfl := retE h
                  exact fin (ok X) 4 [.b true] (pA k24 pT) (by kernel_rfl)
                · obtain rfl := retE h
                  exact fin (ok X) 6 [.b false] (pA k24 pT) (by kernel_rfl)

theorem s_ast_Arm__ast_sameArm {n : Nat} (ih_ast_Stmt__ast_sameStmt : ∀ (a0 : (List ast_Stmt)) (a1 : (List ast_Stmt)) (r : Bool), ast_Stmt__ast_sameStmtN n a0 a1 = some r → Cv Tryz.prog (GX X) 27 [xL (List.map e_ast_Stmt a0), xL (List.map e_ast_Stmt a1), .fn (.func 28) [] []] (r_ast_Stmt__ast_sameStmt r)) (ih_ast_sameStmt : ∀ (a0 : ast_Stmt) (a1 : ast_Stmt) (r : Bool), ast_sameStmtN n a0 a1 = some r → Cv Tryz.prog (GX X) 28 [.agg (bs (f_ast_Stmt a0)), .agg (bs (f_ast_Stmt a1))] (r_ast_sameStmt r)) (ih_ast_Arm__ast_sameArm : ∀ (a0 : (List ast_Arm)) (a1 : (List ast_Arm)) (r : Bool), ast_Arm__ast_sameArmN n a0 a1 = some r → Cv Tryz.prog (GX X) 48 [xL (List.map e_ast_Arm a0), xL (List.map e_ast_Arm a1), .fn (.func 49) [] []] (r_ast_Arm__ast_sameArm r)) (ih_ast_sameArm : ∀ (a0 : ast_Arm) (a1 : ast_Arm) (r : Bool), ast_sameArmN n a0 a1 = some r → Cv Tryz.prog (GX X) 49 [.agg (bs (f_ast_Arm a0)), .agg (bs (f_ast_Arm a1))] (r_ast_sameArm r)) (a0 : (List ast_Arm)) (a1 : (List ast_Arm)) (r : Bool) (h : ast_Arm__ast_sameArmN (n + 1) a0 a1 = some r) : Cv Tryz.prog (GX X) 48 [xL (List.map e_ast_Arm a0), xL (List.map e_ast_Arm a1), .fn (.func 49) [] []] (r_ast_Arm__ast_sameArm r) := by
  refine Cs.toV (?_ : Cs Tryz.prog (GX X) 48 [xL (List.map e_ast_Arm a0), xL (List.map e_ast_Arm a1), .fn (.func 49) [] []] [] (r_ast_Arm__ast_sameArm r) (o_ast_Arm__ast_sameArm r)) (by kernel_rfl)
  refine fnT (cx := cx X) Tryz.f48 Tryz.call48 Tryz.func48 (by kernel_rfl) ?_
  rw [ast_Arm__ast_sameArmN] at h
  refine adv (ok X) 5 [.i (a0.length : Int), .i (a1.length : Int)] (pA (lm e_ast_Arm a0) (pA (lm e_ast_Arm a1) pT)) (by kernel_rfl) ?_
  rcases iteE h with ⟨k1, h⟩ | ⟨k1, h⟩
  · obtain rfl := retE h
    exact fin (ok X) 4 [.b true] (pA k1 pT) (by kernel_rfl)
  · refine adv (ok X) 5 [.b false, .i (a0.length : Int)] (pA k1 (pA (lm e_ast_Arm a0) pT)) (by kernel_rfl) ?_
    refine lp (ok X) (ast_Arm__ast_sameArm_l1 (ast_Stmt__ast_sameStmtN n) (ast_sameStmtN n) (ast_Arm__ast_sameArmN n) (ast_sameArmN n) a0 a1) (fun (x1 : Int) => ⟨32, 0, [(1, [xL (List.map e_ast_Arm a1)]), (2, [.fn (.func 49) [] []]), (15, [xL (List.map e_ast_Arm a0)]), (16, [xI (a0.length : Int)]), (17, [xI x1])], []⟩) (fun (j1 : Unit) => ⟨32, 0, [], []⟩) R_ast_Arm__ast_sameArm 0 (fun _ => ⟨_, _, _, _, rfl⟩) h (by kernel_rfl) (fun x1 o h => ?_) (fun r' h => ?_) (fun j1 h => ?_)
    · unfold ast_Arm__ast_sameArm_l1 at h
      rcases iteE h with ⟨k2, h⟩ | ⟨k2, h⟩
      · obtain ⟨v1, k3, h⟩ := bindE h
        obtain ⟨v2, k4, h⟩ := bindE h
        obtain ⟨v3, k5, h⟩ := bindE h
        refine adv (ok X) 13 [.b true, .e (f_ast_Arm v1), .e (f_ast_Arm v2), .c (r_ast_sameArm v3)] (pA k2 (pA (ixr e_ast_Arm_eq k3) (pA (ixr e_ast_Arm_eq k4) (pA (ih_ast_sameArm _ _ _ k5) pT)))) (by kernel_rfl) ?_
        rcases iteE h with ⟨k6, h⟩ | ⟨k6, h⟩
        · obtain rfl := retE h
          exact fin (ok X) 4 [.b true] (pA k6 pT) (by kernel_rfl)
        · obtain rfl := retE h
          exact fin (ok X) 4 [.b false] (pA k6 pT) (by kernel_rfl)
      · obtain rfl := retE h
        exact fin (ok X) 5 [.b false] (pA k2 pT) (by kernel_rfl)
    · obtain rfl := retE h
      kernel_rfl
    · obtain rfl := retE h
      exact fin (ok X) 3 [] pT (by kernel_rfl)

theorem s_ast_sameArm {n : Nat} (ih_ast_Stmt__ast_sameStmt : ∀ (a0 : (List ast_Stmt)) (a1 : (List ast_Stmt)) (r : Bool), ast_Stmt__ast_sameStmtN n a0 a1 = some r → Cv Tryz.prog (GX X) 27 [xL (List.map e_ast_Stmt a0), xL (List.map e_ast_Stmt a1), .fn (.func 28) [] []] (r_ast_Stmt__ast_sameStmt r)) (ih_ast_sameStmt : ∀ (a0 : ast_Stmt) (a1 : ast_Stmt) (r : Bool), ast_sameStmtN n a0 a1 = some r → Cv Tryz.prog (GX X) 28 [.agg (bs (f_ast_Stmt a0)), .agg (bs (f_ast_Stmt a1))] (r_ast_sameStmt r)) (ih_ast_Arm__ast_sameArm : ∀ (a0 : (List ast_Arm)) (a1 : (List ast_Arm)) (r : Bool), ast_Arm__ast_sameArmN n a0 a1 = some r → Cv Tryz.prog (GX X) 48 [xL (List.map e_ast_Arm a0), xL (List.map e_ast_Arm a1), .fn (.func 49) [] []] (r_ast_Arm__ast_sameArm r)) (ih_ast_sameArm : ∀ (a0 : ast_Arm) (a1 : ast_Arm) (r : Bool), ast_sameArmN n a0 a1 = some r → Cv Tryz.prog (GX X) 49 [.agg (bs (f_ast_Arm a0)), .agg (bs (f_ast_Arm a1))] (r_ast_sameArm r)) (a0 : ast_Arm) (a1 : ast_Arm) (r : Bool) (h : ast_sameArmN (n + 1) a0 a1 = some r) : Cv Tryz.prog (GX X) 49 [.agg (bs (f_ast_Arm a0)), .agg (bs (f_ast_Arm a1))] (r_ast_sameArm r) := by
  refine Cs.toV (?_ : Cs Tryz.prog (GX X) 49 [.agg (bs (f_ast_Arm a0)), .agg (bs (f_ast_Arm a1))] [] (r_ast_sameArm r) (o_ast_sameArm r)) (by kernel_rfl)
  refine fnT (cx := cx X) Tryz.f49 Tryz.call49 Tryz.func49 (by kernel_rfl) ?_
  rw [ast_sameArmN] at h
  rcases iteE h with ⟨k1, h⟩ | ⟨k1, h⟩
  · rcases iteE h with ⟨k2, h⟩ | ⟨k2, h⟩
    · obtain ⟨v1, k3, h⟩ := bindE h
      obtain rfl := retE h
      exact fin (ok X) 5 [.b true, .b true, .b true, .b true, .b true, .b true, .b true, .b true, .b true, .b true, .b true, .c (r_ast_Stmt__ast_sameStmt v1), .b true] (pA k1 (pA k1 (pA k1 (pA k1 (pA k1 (pA k1 (pA k2 (pA k2 (pA k2 (pA k2 (pA k2 (pA (ih_ast_Stmt__ast_sameStmt _ _ _ k3) (pA k2 pT))))))))))))) (by kernel_rfl)
    · obtain rfl := retE h
      exact fin (ok X) 5 [.b true, .b true, .b true, .b true, .b true, .b true, .b false, .b false, .b false, .b false, .b false, .b false] (pA k1 (pA k1 (pA k1 (pA k1 (pA k1 (pA k1 (pA k2 (pA k2 (pA k2 (pA k2 (pA k2 (pA k2 pT)))))))))))) (by kernel_rfl)
  · obtain rfl := retE h
    exact fin (ok X) 5 [.b false, .b false, .b false, .b false, .b false, .b false, .b false, .b false, .b false, .b false, .b false, .b false] (pA k1 (pA k1 (pA k1 (pA k1 (pA k1 (pA k1 (pA ff (pA ff (pA ff (pA ff (pA ff (pA ff pT)))))))))))) (by kernel_rfl)

theorem all_ast_Stmt__ast_sameStmt : ∀ n : Nat, (∀ (a0 : (List ast_Stmt)) (a1 : (List ast_Stmt)) (r : Bool), ast_Stmt__ast_sameStmtN n a0 a1 = some r → Cv Tryz.prog (GX X) 27 [xL (List.map e_ast_Stmt a0), xL (List.map e_ast_Stmt a1), .fn (.func 28) [] []] (r_ast_Stmt__ast_sameStmt r)) ∧ (∀ (a0 : ast_Stmt) (a1 : ast_Stmt) (r : Bool), ast_sameStmtN n a0 a1 = some r → Cv Tryz.prog (GX X) 28 [.agg (bs (f_ast_Stmt a0)), .agg (bs (f_ast_Stmt a1))] (r_ast_sameStmt r)) ∧ (∀ (a0 : (List ast_Arm)) (a1 : (List ast_Arm)) (r : Bool), ast_Arm__ast_sameArmN n a0 a1 = some r → Cv Tryz.prog (GX X) 48 [xL (List.map e_ast_Arm a0), xL (List.map e_ast_Arm a1), .fn (.func 49) [] []] (r_ast_Arm__ast_sameArm r)) ∧ (∀ (a0 : ast_Arm) (a1 : ast_Arm) (r : Bool), ast_sameArmN n a0 a1 = some r → Cv Tryz.prog (GX X) 49 [.agg (bs (f_ast_Arm a0)), .agg (bs (f_ast_Arm a1))] (r_ast_sameArm r))
  | 0 => ⟨(fun _ _ _ h => by rw [ast_Stmt__ast_sameStmtN] at h; cases h), (fun _ _ _ h => by rw [ast_sameStmtN] at h; cases h), (fun _ _ _ h => by rw [ast_Arm__ast_sameArmN] at h; cases h), (fun _ _ _ h => by rw [ast_sameArmN] at h; cases h)⟩
  | n + 1 => by
    have ih := all_ast_Stmt__ast_sameStmt n
    exact ⟨s_ast_Stmt__ast_sameStmt ih.1 ih.2.1 ih.2.2.1 ih.2.2.2, s_ast_sameStmt ih.1 ih.2.1 ih.2.2.1 ih.2.2.2, s_ast_Arm__ast_sameArm ih.1 ih.2.1 ih.2.2.1 ih.2.2.2, s_ast_sameArm ih.1 ih.2.1 ih.2.2.1 ih.2.2.2⟩

theorem m_ast_Stmt__ast_sameStmt {a0 : (List ast_Stmt)} {a1 : (List ast_Stmt)} {r : Bool} (h : ast_Stmt__ast_sameStmt a0 a1 = some r) : Cv Tryz.prog (GX X) 27 [xL (List.map e_ast_Stmt a0), xL (List.map e_ast_Stmt a1), .fn (.func 28) [] []] (r_ast_Stmt__ast_sameStmt r) := by
  obtain ⟨n, hn⟩ := unfE h
  exact (all_ast_Stmt__ast_sameStmt n).1 _ _ _ hn

theorem m_ast_sameStmt {a0 : ast_Stmt} {a1 : ast_Stmt} {r : Bool} (h : ast_sameStmt a0 a1 = some r) : Cv Tryz.prog (GX X) 28 [.agg (bs (f_ast_Stmt a0)), .agg (bs (f_ast_Stmt a1))] (r_ast_sameStmt r) := by
  obtain ⟨n, hn⟩ := unfE h
  exact (all_ast_Stmt__ast_sameStmt n).2.1 _ _ _ hn

theorem m_ast_Arm__ast_sameArm {a0 : (List ast_Arm)} {a1 : (List ast_Arm)} {r : Bool} (h : ast_Arm__ast_sameArm a0 a1 = some r) : Cv Tryz.prog (GX X) 48 [xL (List.map e_ast_Arm a0), xL (List.map e_ast_Arm a1), .fn (.func 49) [] []] (r_ast_Arm__ast_sameArm r) := by
  obtain ⟨n, hn⟩ := unfE h
  exact (all_ast_Stmt__ast_sameStmt n).2.2.1 _ _ _ hn

theorem m_ast_sameArm {a0 : ast_Arm} {a1 : ast_Arm} {r : Bool} (h : ast_sameArm a0 a1 = some r) : Cv Tryz.prog (GX X) 49 [.agg (bs (f_ast_Arm a0)), .agg (bs (f_ast_Arm a1))] (r_ast_sameArm r) := by
  obtain ⟨n, hn⟩ := unfE h
  exact (all_ast_Stmt__ast_sameStmt n).2.2.2 _ _ _ hn

theorem m_ast_Same_2 {a0 : ast_Proc} {a1 : ast_Proc} {r : Bool} (h : ast_Same_2 a0 a1 = some r) : Cv Tryz.prog (GX X) 25 [.agg (bs (e_ast_Proc a0)), .agg (bs (e_ast_Proc a1))] (r_ast_Same_2 r) := by
  refine Cs.toV (?_ : Cs Tryz.prog (GX X) 25 [.agg (bs (e_ast_Proc a0)), .agg (bs (e_ast_Proc a1))] [] (r_ast_Same_2 r) (o_ast_Same_2 r)) (by kernel_rfl)
  refine fnT (cx := cx X) Tryz.f25 Tryz.call25 Tryz.func25 (by kernel_rfl) ?_
  unfold ast_Same_2 at h
  rcases iteE h with ⟨k1, h⟩ | ⟨k1, h⟩
  · obtain ⟨v1, k2, h⟩ := bindE h
    rcases iteE h with ⟨k3, h⟩ | ⟨k3, h⟩
    · obtain ⟨v2, k4, h⟩ := bindE h
      obtain rfl := retE h
      exact fin (ok X) 5 [.b true, .b true, .b true, .b true, .b true, .c (r_slices_Equal_string_string_ v1), .b true, .b true, .b true, .b true, .b true, .b true, .c (r_ast_Stmt__ast_sameStmt v2), .b true] (pA k1 (pA k1 (pA k1 (pA k1 (pA k1 (pA (m_slices_Equal_string_string_ (X := X) k2) (pA k1 (pA k3 (pA k3 (pA k3 (pA k3 (pA k3 (pA (m_ast_Stmt__ast_sameStmt (X := X) k4) (pA k3 pT)))))))))))))) (by kernel_rfl)
    · obtain rfl := retE h
      exact fin (ok X) 5 [.b true, .b true, .b true, .b true, .b true, .c (r_slices_Equal_string_string_ v1), .b true, .b false, .b false, .b false, .b false, .b false, .b false] (pA k1 (pA k1 (pA k1 (pA k1 (pA k1 (pA (m_slices_Equal_string_string_ (X := X) k2) (pA k1 (pA k3 (pA k3 (pA k3 (pA k3 (pA k3 (pA k3 pT))))))))))))) (by kernel_rfl)
  · obtain rfl := retE h
    exact fin (ok X) 5 [.b false, .b false, .b false, .b false, .b false, .b false, .b false, .b false, .b false, .b false, .b false, .b false] (pA k1 (pA k1 (pA k1 (pA k1 (pA k1 (pA k1 (pA ff (pA ff (pA ff (pA ff (pA ff (pA ff pT)))))))))))) (by kernel_rfl)

theorem m_ast_Proc__ast_Same_2 {a0 : (List ast_Proc)} {a1 : (List ast_Proc)} {r : Bool} (h : ast_Proc__ast_Same_2 a0 a1 = some r) : Cv Tryz.prog (GX X) 24 [xL (List.map e_ast_Proc a0), xL (List.map e_ast_Proc a1), .fn (.func 25) [] []] (r_ast_Proc__ast_Same_2 r) := by
  refine Cs.toV (?_ : Cs Tryz.prog (GX X) 24 [xL (List.map e_ast_Proc a0), xL (List.map e_ast_Proc a1), .fn (.func 25) [] []] [] (r_ast_Proc__ast_Same_2 r) (o_ast_Proc__ast_Same_2 r)) (by kernel_rfl)
  refine fnT (cx := cx X) Tryz.f24 Tryz.call24 Tryz.func24 (by kernel_rfl) ?_
  unfold ast_Proc__ast_Same_2 at h
  refine adv (ok X) 5 [.i (a0.length : Int), .i (a1.length : Int)] (pA (lm e_ast_Proc a0) (pA (lm e_ast_Proc a1) pT)) (by kernel_rfl) ?_
  rcases iteE h with ⟨k1, h⟩ | ⟨k1, h⟩
  · obtain rfl := retE h
    exact fin (ok X) 4 [.b true] (pA k1 pT) (by kernel_rfl)
  · refine adv (ok X) 5 [.b false, .i (a0.length : Int)] (pA k1 (pA (lm e_ast_Proc a0) pT)) (by kernel_rfl) ?_
    refine lp (ok X) (ast_Proc__ast_Same_2_l1 a0 a1) (fun (x1 : Int) => ⟨32, 0, [(1, [xL (List.map e_ast_Proc a1)]), (2, [.fn (.func 25) [] []]), (15, [xL (List.map e_ast_Proc a0)]), (16, [xI (a0.length : Int)]), (17, [xI x1])], []⟩) (fun (j1 : Unit) => ⟨32, 0, [], []⟩) R_ast_Proc__ast_Same_2 0 (fun _ => ⟨_, _, _, _, rfl⟩) h (by kernel_rfl) (fun x1 o h => ?_) (fun r' h => ?_) (fun j1 h => ?_)
    · unfold ast_Proc__ast_Same_2_l1 at h
      rcases iteE h with ⟨k2, h⟩ | ⟨k2, h⟩
      · obtain ⟨v1, k3, h⟩ := bindE h
        obtain ⟨v2, k4, h⟩ := bindE h
        obtain ⟨v3, k5, h⟩ := bindE h
        refine adv (ok X) 13 [.b true, .e (e_ast_Proc v1), .e (e_ast_Proc v2), .c (r_ast_Same_2 v3)] (pA k2 (pA (ixm e_ast_Proc k3) (pA (ixm e_ast_Proc k4) (pA (m_ast_Same_2 (X := X) k5) pT)))) (by kernel_rfl) ?_
        rcases iteE h with ⟨k6, h⟩ | ⟨k6, h⟩
        · obtain rfl := retE h
          exact fin (ok X) 4 [.b true] (pA k6 pT) (by kernel_rfl)
        · obtain rfl := retE h
          exact fin (ok X) 4 [.b false] (pA k6 pT) (by kernel_rfl)
      · obtain rfl := retE h
        exact fin (ok X) 5 [.b false] (pA k2 pT) (by kernel_rfl)
    · obtain rfl := retE h
      kernel_rfl
    · obtain rfl := retE h
      exact fin (ok X) 3 [] pT (by kernel_rfl)

theorem m_ast_sameChan {a0 : ast_Chan} {a1 : ast_Chan} {r : Bool} (h : ast_sameChan a0 a1 = some r) : Cv Tryz.prog (GX X) 30 [.agg (bs (e_ast_Chan a0)), .agg (bs (e_ast_Chan a1))] (r_ast_sameChan r) := by
  refine Cs.toV (?_ : Cs Tryz.prog (GX X) 30 [.agg (bs (e_ast_Chan a0)), .agg (bs (e_ast_Chan a1))] [] (r_ast_sameChan r) (o_ast_sameChan r)) (by kernel_rfl)
  refine fnT (cx := cx X) Tryz.f30 Tryz.call30 Tryz.func30 (by kernel_rfl) ?_
  unfold ast_sameChan at h
  refine adv (ok X) 3 [] pT (by kernel_rfl) ?_
  refine jn (ok X) 1 (fun (j1 : Bool) => ⟨45, 0, [(4, [xB j1])], []⟩) h (fun j1 h => ?_) (fun j1 h => ?_)
  · rcases iteE h with ⟨k1, h⟩ | ⟨k1, h⟩
    · rcases iteE h with ⟨k2, h⟩ | ⟨k2, h⟩
      · rcases iteE h with ⟨k3, h⟩ | ⟨k3, h⟩
        · rcases iteE h with ⟨k4, h⟩ | ⟨k4, h⟩
          · rcases iteE h with ⟨k5, h⟩ | ⟨k5, h⟩
            · obtain ⟨v1, k6, h⟩ := bindE h
              obtain rfl := retE h
              exact fin (ok X) 1 [.b true, .b true, .b true, .b true, .b true, .b true, .b true, .b true, .b true, .b true, .b true, .b true, .b true, .b true, .b true, .b true, .b true, .b true, .b true, .b true, .b true, .b true, .b true, .b true, .b true, .b true, .b true, .b true, .b true, .c (r_slices_Equal_string_string_ v1), .b true] (pA k1 (pA k1 (pA k1 (pA k1 (pA k1 (pA k1 (pA k2 (pA k2 (pA k2 (pA k2 (pA k2 (pA k2 (pA k3 (pA k3 (pA k3 (pA k3 (pA k3 (pA k3 (pA k4 (pA k4 (pA k4 (pA k4 (pA k4 (pA k4 (pA k5 (pA k5 (pA k5 (pA k5 (pA k5 (pA (m_slices_Equal_string_string_ (X := X) k6) (pA k5 pT))))))))))))))))))))))))))))))) (by kernel_rfl)
            · obtain rfl := retE h
              exact fin (ok X) 1 [.b true, .b true, .b true, .b true, .b true, .b true, .b true, .b true, .b true, .b true, .b true, .b true, .b true, .b true, .b true, .b true, .b true, .b true, .b true, .b true, .b true, .b true, .b true, .b true, .b false, .b false, .b false, .b false, .b false, .b false] (pA k1 (pA k1 (pA k1 (pA k1 (pA k1 (pA k1 (pA k2 (pA k2 (pA k2 (pA k2 (pA k2 (pA k2 (pA k3 (pA k3 (pA k3 (pA k3 (pA k3 (pA k3 (pA k4 (pA k4 (pA k4 (pA k4 (pA k4 (pA k4 (pA k5 (pA k5 (pA k5 (pA k5 (pA k5 (pA k5 pT)))))))))))))))))))))))))))))) (by kernel_rfl)
          · obtain rfl := retE h
            exact fin (ok X) 1 [.b true, .b true, .b true, .b true, .b true, .b true, .b true, .b true, .b true, .b true, .b true, .b true, .b true, .b true, .b true, .b true, .b true, .b true, .b false, .b false, .b false, .b false, .b false, .b false, .b false, .b false, .b false, .b false, .b false, .b false] (pA k1 (pA k1 (pA k1 (pA k1 (pA k1 (pA k1 (pA k2 (pA k2 (pA k2 (pA k2 (pA k2 (pA k2 (pA k3 (pA k3 (pA k3 (pA k3 (pA k3 (pA k3 (pA k4 (pA k4 (pA k4 (pA k4 (pA k4 (pA k4 (pA ff (pA ff (pA ff (pA ff (pA ff (pA ff pT)))))))))))))))))))))))))))))) (by kernel_rfl)
        · obtain rfl := retE h
          exact fin (ok X) 1 [.b true, .b true, .b true, .b true, .b true, .b true, .b true, .b true, .b true, .b true, .b true, .b true, .b false, .b false, .b false, .b false, .b false, .b false, .b false, .b false, .b false, .b false, .b false, .b false, .b false, .b false, .b false, .b false, .b false, .b false] (pA k1 (pA k1 (pA k1 (pA k1 (pA k1 (pA k1 (pA k2 (pA k2 (pA k2 (pA k2 (pA k2 (pA k2 (pA k3 (pA k3 (pA k3 (pA k3 (pA k3 (pA k3 (pA ff (pA ff (pA ff (pA ff (pA ff (pA ff (pA ff (pA ff (pA ff (pA ff (pA ff (pA ff pT)))))))))))))))))))))))))))))) (by kernel_rfl)
      · obtain rfl := retE h
        exact fin (ok X) 1 [.b true, .b true, .b true, .b true, .b true, .b true, .b false, .b false, .b false, .b false, .b false, .b false, .b false, .b false, .b false, .b false, .b false, .b false, .b false, .b false, .b false, .b false, .b false, .b false, .b false, .b false, .b false, .b false, .b false, .b false] (pA k1 (pA k1 (pA k1 (pA k1 (pA k1 (pA k1 (pA k2 (pA k2 (pA k2 (pA k2 (pA k2 (pA k2 (pA ff (pA ff (pA ff (pA ff (pA ff (pA ff (pA ff (pA ff (pA ff (pA ff (pA ff (pA ff (pA ff (pA ff (pA ff (pA ff (pA ff (pA ff pT)))))))))))))))))))))))))))))) (by kernel_rfl)
    · obtain rfl := retE h
      exact fin (ok X) 1 [.b false, .b false, .b false, .b false, .b false, .b false, .b false, .b false, .b false, .b false, .b false, .b false, .b false, .b false, .b false, .b false, .b false, .b false, .b false, .b false, .b false, .b false, .b false, .b false, .b false, .b false, .b false, .b false, .b false, .b false] (pA k1 (pA k1 (pA k1 (pA k1 (pA k1 (pA k1 (pA ff (pA ff (pA ff (pA ff (pA ff (pA ff (pA ff (pA ff (pA ff (pA ff (pA ff (pA ff (pA ff (pA ff (pA ff (pA ff (pA ff (pA ff (pA ff (pA ff (pA ff (pA ff (pA ff (pA ff pT)))))))))))))))))))))))))))))) (by kernel_rfl)
  · obtain rfl := retE h
    exact fin (ok X) 1 [] pT (by kernel_rfl)

theorem m_ast_Chan__ast_sameChan {a0 : (List ast_Chan)} {a1 : (List ast_Chan)} {r : Bool} (h : ast_Chan__ast_sameChan a0 a1 = some r) : Cv Tryz.prog (GX X) 29 [xL (List.map e_ast_Chan a0), xL (List.map e_ast_Chan a1), .fn (.func 30) [] []] (r_ast_Chan__ast_sameChan r) := by
  refine Cs.toV (?_ : Cs Tryz.prog (GX X) 29 [xL (List.map e_ast_Chan a0), xL (List.map e_ast_Chan a1), .fn (.func 30) [] []] [] (r_ast_Chan__ast_sameChan r) (o_ast_Chan__ast_sameChan r)) (by kernel_rfl)
  refine fnT (cx := cx X) Tryz.f29 Tryz.call29 Tryz.func29 (by kernel_rfl) ?_
  unfold ast_Chan__ast_sameChan at h
  refine adv (ok X) 5 [.i (a0.length : Int), .i (a1.length : Int)] (pA (lm e_ast_Chan a0) (pA (lm e_ast_Chan a1) pT)) (by kernel_rfl) ?_
  rcases iteE h with ⟨k1, h⟩ | ⟨k1, h⟩
  · obtain rfl := retE h
    exact fin (ok X) 4 [.b true] (pA k1 pT) (by kernel_rfl)
  · refine adv (ok X) 5 [.b false, .i (a0.length : Int)] (pA k1 (pA (lm e_ast_Chan a0) pT)) (by kernel_rfl) ?_
    refine lp (ok X) (ast_Chan__ast_sameChan_l1 a0 a1) (fun (x1 : Int) => ⟨32, 0, [(1, [xL (List.map e_ast_Chan a1)]), (2, [.fn (.func 30) [] []]), (15, [xL (List.map e_ast_Chan a0)]), (16, [xI (a0.length : Int)]), (17, [xI x1])], []⟩) (fun (j1 : Unit) => ⟨32, 0, [], []⟩) R_ast_Chan__ast_sameChan 0 (fun _ => ⟨_, _, _, _, rfl⟩) h (by kernel_rfl) (fun x1 o h => ?_) (fun r' h => ?_) (fun j1 h => ?_)
    · unfold ast_Chan__ast_sameChan_l1 at h
      rcases iteE h with ⟨k2, h⟩ | ⟨k2, h⟩
      · obtain ⟨v1, k3, h⟩ := bindE h
        obtain ⟨v2, k4, h⟩ := bindE h
        obtain ⟨v3, k5, h⟩ := bindE h
        refine adv (ok X) 13 [.b true, .e (e_ast_Chan v1), .e (e_ast_Chan v2), .c (r_ast_sameChan v3)] (pA k2 (pA (ixm e_ast_Chan k3) (pA (ixm e_ast_Chan k4) (pA (m_ast_sameChan (X := X) k5) pT)))) (by kernel_rfl) ?_
        rcases iteE h with ⟨k6, h⟩ | ⟨k6, h⟩
        · obtain rfl := retE h
          exact fin (ok X) 4 [.b true] (pA k6 pT) (by kernel_rfl)
        · obtain rfl := retE h
          exact fin (ok X) 4 [.b false] (pA k6 pT) (by kernel_rfl)
      · obtain rfl := retE h
        exact fin (ok X) 5 [.b false] (pA k2 pT) (by kernel_rfl)
    · obtain rfl := retE h
      kernel_rfl
    · obtain rfl := retE h
      exact fin (ok X) 3 [] pT (by kernel_rfl)

theorem m_ast_Same {a0 : ast_System} {a1 : ast_System} {r : Bool} (h : ast_Same a0 a1 = some r) : Cv Tryz.prog (GX X) 10 [.agg (bs (e_ast_System a0)), .agg (bs (e_ast_System a1))] (r_ast_Same r) := by
  refine Cs.toV (?_ : Cs Tryz.prog (GX X) 10 [.agg (bs (e_ast_System a0)), .agg (bs (e_ast_System a1))] [] (r_ast_Same r) (o_ast_Same r)) (by kernel_rfl)
  refine fnT (cx := cx X) Tryz.f10 Tryz.call10 Tryz.func10 (by kernel_rfl) ?_
  unfold ast_Same at h
  obtain ⟨v1, k1, h⟩ := bindE h
  obtain ⟨v2, k2, h⟩ := bindE h
  refine adv (ok X) 7 [.c (r_ast_Rule__ast_Same_1 v1), .c (r_ast_Proc__ast_Same_2 v2)] (pA (m_ast_Rule__ast_Same_1 (X := X) k1) (pA (m_ast_Proc__ast_Same_2 (X := X) k2) pT)) (by kernel_rfl) ?_
  rcases iteE h with ⟨k3, h⟩ | ⟨k3, h⟩
  · rcases iteE h with ⟨k4, h⟩ | ⟨k4, h⟩
    · obtain ⟨v3, k5, h⟩ := bindE h
      obtain rfl := retE h
      exact fin (ok X) 2 [.b true, .b true, .b true, .b true, .b true, .b true, .b true, .c (r_ast_Chan__ast_sameChan v3), .b true] (pA k3 (pA k3 (pA k4 (pA k4 (pA k4 (pA k4 (pA k4 (pA (m_ast_Chan__ast_sameChan (X := X) k5) (pA k4 pT))))))))) (by kernel_rfl)
    · obtain rfl := retE h
      exact fin (ok X) 2 [.b true, .b true, .b false, .b false, .b false, .b false, .b false, .b false] (pA k3 (pA k3 (pA k4 (pA k4 (pA k4 (pA k4 (pA k4 (pA k4 pT)))))))) (by kernel_rfl)
  · obtain rfl := retE h
    exact fin (ok X) 2 [.b false, .b false, .b false, .b false, .b false, .b false, .b false, .b false] (pA k3 (pA k3 (pA ff (pA ff (pA ff (pA ff (pA ff (pA ff pT)))))))) (by kernel_rfl)

theorem m_l02_AstTexts {a0 : r02_System} {r : Bool} (h : l02_AstTexts a0 = some r) : Cv Tryz.prog (GX X) 4 [.agg (bs (e_r02_System a0))] (r_l02_AstTexts r) := by
  refine Cs.toV (?_ : Cs Tryz.prog (GX X) 4 [.agg (bs (e_r02_System a0))] [] (r_l02_AstTexts r) (o_l02_AstTexts r)) (by kernel_rfl)
  refine fnT (cx := cx X) Tryz.f4 Tryz.call4 Tryz.func4 (by kernel_rfl) ?_
  unfold l02_AstTexts at h
  obtain ⟨v1, k1, h⟩ := bindE h
  obtain ⟨v2, k2, h⟩ := bindE h
  obtain ⟨v3, k3, h⟩ := bindE h
  obtain ⟨v4, k4, h⟩ := bindE h
  refine adv (ok X) 12 [.c (r_l02_System v1), .c (r_ast_Words v2), .c (r_ast_text v3), .c (r_r02_Words v4)] (pA (m_l02_System (X := X) k1) (pA (m_ast_Words (X := X) k2) (pA (m_ast_text (X := X) k3) (pA (m_r02_Words (X := X) k4) pT)))) (by kernel_rfl) ?_
  refine jn (ok X) 1 (fun (j1 : Bool) => ⟨79, 0, [(1, [xP 0 0]), (3, [xP 1 0]), (4, [xL (List.map e_str v2.1)]), (6, [xS v3.1]), (8, [xL (List.map e_str v4.1)]), (47, [xB j1])], [oB 38 (bs (e_r02_System a0)), oB 46 (bs (e_ast_System v1))]⟩) h (fun j1 h => ?_) (fun j1 h => ?_)
  · obtain ⟨v5, k5, h⟩ := bindE h
    rcases iteE h with ⟨k6, h⟩ | ⟨k6, h⟩
    · obtain rfl := retE h
      exact fin (ok X) 1 [.c (r_l02_texts v5), .b true, .b true, .b true, .b true, .b true, .b true, .b true, .b true, .b true, .b true, .b true, .b true, .b true, .b true] (pA (m_l02_texts (X := X) k5) (pA k6 (pA k6 (pA k6 (pA k6 (pA tt (pA tt (pA tt (pA tt (pA tt (pA tt (pA tt (pA tt (pA tt (pA tt pT))))))))))))))) (by kernel_rfl)
    · rcases iteE h with ⟨k7, h⟩ | ⟨k7, h⟩
      · obtain rfl := retE h
        exact fin (ok X) 1 [.c (r_l02_texts v5), .b false, .b false, .b false, .b false, .b true, .b true, .b true, .b true, .b true, .b true, .b true, .b true, .b true, .b true] (pA (m_l02_texts (X := X) k5) (pA k6 (pA k6 (pA k6 (pA k6 (pA k7 (pA k7 (pA k7 (pA k7 (pA tt (pA tt (pA tt (pA tt (pA tt (pA tt pT))))))))))))))) (by kernel_rfl)
      · rcases iteE h with ⟨k8, h⟩ | ⟨k8, h⟩
        · obtain rfl := retE h
          exact fin (ok X) 1 [.c (r_l02_texts v5), .b false, .b false, .b false, .b false, .b false, .b false, .b false, .b false, .b true, .b true, .b true, .b true, .b true, .b true] (pA (m_l02_texts (X := X) k5) (pA k6 (pA k6 (pA k6 (pA k6 (pA k7 (pA k7 (pA k7 (pA k7 (pA k8 (pA k8 (pA k8 (pA k8 (pA k8 (pA k8 pT))))))))))))))) (by kernel_rfl)
        · obtain rfl := retE h
          exact fin (ok X) 1 [.c (r_l02_texts v5), .b false, .b false, .b false, .b false, .b false, .b false, .b false, .b false, .b false, .b false, .i (v2.1.length : Int), .b false, .b false, .i (v4.1.length : Int), .b false, .b false] (pA (m_l02_texts (X := X) k5) (pA k6 (pA k6 (pA k6 (pA k6 (pA k7 (pA k7 (pA k7 (pA k7 (pA k8 (pA k8 (pA (lm e_str v2.1) (pA k8 (pA k8 (pA (lm e_str v4.1) (pA k8 (pA k8 pT))))))))))))))))) (by kernel_rfl)
  · rcases iteE h with ⟨k9, h⟩ | ⟨k9, h⟩
    · obtain rfl := retE h
      exact fin (ok X) 4 [.b true] (pA k9 pT) (by kernel_rfl)
    · refine adv (ok X) 7 [.b false] (pA k9 pT) (by kernel_rfl) ?_
      refine lp (ok X) (l02_AstTexts_l2 v2 v4) (fun (x2 : (ByteArray × Int)) => ⟨79, 0, [(1, [xP 0 0]), (3, [xP 1 0]), (4, [xL (List.map e_str v2.1)]), (6, [xS v3.1]), (8, [xL (List.map e_str v4.1)]), (10, [xS x2.1]), (11, [xI x2.2])], [oB 38 (bs (e_r02_System a0)), oB 46 (bs (e_ast_System v1))]⟩) (fun (j2 : ByteArray) => ⟨79, 0, [(1, [xP 0 0]), (3, [xP 1 0]), (6, [xS v3.1]), (10, [xS j2])], [oB 38 (bs (e_r02_System a0)), oB 46 (bs (e_ast_System v1))]⟩) R_l02_AstTexts ((ByteArray.mk #[]), 0) (fun _ => ⟨_, _, _, _, rfl⟩) h (by kernel_rfl) (fun x2 o h => ?_) (fun r' h => ?_) (fun j2 h => ?_)
      · unfold l02_AstTexts_l2 at h
        refine adv (ok X) 3 [.i (v4.1.length : Int)] (pA (lm e_str v4.1) pT) (by kernel_rfl) ?_
        rcases iteE h with ⟨k10, h⟩ | ⟨k10, h⟩
        · obtain ⟨v6, k11, h⟩ := bindE h
          obtain ⟨v7, k12, h⟩ := bindE h
          refine adv (ok X) 7 [.b true, .o [0, 1, 2, 3, 4, 5, 6, 7, 8], .e [.str v6], .e [.str v7]] (pA k10 (pA (ixm e_str k11) (pA (ixm e_str k12) pT))) (by kernel_rfl) ?_
          rcases iteE h with ⟨k13, h⟩ | ⟨k13, h⟩
          · obtain rfl := retE h
            exact fin (ok X) 4 [.b true] (pA k13 pT) (by kernel_rfl)
          · obtain ⟨v8, k14, h⟩ := bindE h
            obtain ⟨v9, k15, h⟩ := bindE h
            obtain rfl := retE h
            exact fin (ok X) 5 [.b false, .e [.str v7], .x [xS v8], .x [xS v9]] (pA k13 (pA (ixm e_str k12) (pA k14 (pA k15 pT)))) (by kernel_rfl)
        · obtain rfl := retE h
          exact fin (ok X) 2 [.b false] (pA k10 pT) (by kernel_rfl)
      · obtain rfl := retE h
        kernel_rfl
      · rcases iteE h with ⟨k16, h⟩ | ⟨k16, h⟩
        · obtain ⟨v10, k17, h⟩ := bindE h
          obtain ⟨v11, k18, h⟩ := bindE h
          obtain rfl := retE h
          exact fin (ok X) 3 [.o [0, 1, 2, 3, 4, 5, 6, 7, 8, 9], .b true, .b true, .b true, .c (r_l02_System v10), .b true, .c (r_ast_Same v11), .b true] (pA k16 (pA k16 (pA k16 (pA (m_l02_System (X := X) k17) (pA k16 (pA (m_ast_Same (X := X) k18) (pA k16 pT))))))) (by kernel_rfl)
        · obtain rfl := retE h
          exact fin (ok X) 3 [.o [0, 1, 2, 3, 4, 5, 6, 7, 8, 9], .b false, .b false, .b false, .b false, .b false] (pA k16 (pA k16 (pA k16 (pA k16 (pA k16 pT))))) (by kernel_rfl)
end Go.Proofs.YtaaihamelknhdaaGreatDoor.Abs

/- Gw: the functions are these. -/
import Derived.Test.YtaaihamelknhdaaDoorGwW0
namespace Go.Proofs.YtaaihamelknhdaaDoor.Abs
open Go Go.RowKit
set_option linter.unusedVariables false
set_option maxRecDepth 100000
set_option maxHeartbeats 4000000
variable {X : EV}
theorem m_l02_texts {r : Bool} (h : l02_texts = some r) : Cv Tryd.prog (GX X) 10 [] (r_l02_texts r) := by
  refine Cs.toV (?_ : Cs Tryd.prog (GX X) 10 [] [] (r_l02_texts r) (o_l02_texts r)) (by kernel_rfl)
  refine fnT (cx := cx X) Tryd.f10 Tryd.call10 Tryd.func10 (by kernel_rfl) ?_
  unfold l02_texts at h
  obtain ⟨v1, k1, h⟩ := bindE h
  obtain ⟨v2, k2, h⟩ := bindE h
  refine adv (ok X) 9 [.bl (List.map e_r02_Expr [(r02_Expr.mk 2 0 (ByteArray.mk #[97]) []), (r02_Expr.mk 1 1 (ByteArray.mk #[]) [])]), .bl (List.map e_r02_Expr [(r02_Expr.mk 4 0 (ByteArray.mk #[]) [(r02_Expr.mk 2 0 (ByteArray.mk #[97]) []), (r02_Expr.mk 1 1 (ByteArray.mk #[]) [])]), (r02_Expr.mk 1 2 (ByteArray.mk #[]) [])]), .bl (List.map e_r02_Stmt [(r02_Stmt.mk 1 (ByteArray.mk #[120]) (ByteArray.mk #[]) (r02_Expr.mk 6 0 (ByteArray.mk #[]) [(r02_Expr.mk 4 0 (ByteArray.mk #[]) [(r02_Expr.mk 2 0 (ByteArray.mk #[97]) []), (r02_Expr.mk 1 1 (ByteArray.mk #[]) [])]), (r02_Expr.mk 1 2 (ByteArray.mk #[]) [])]) (r02_Cond.mk 0 (r02_Expr.mk 0 0 (ByteArray.mk #[]) []) (r02_Expr.mk 0 0 (ByteArray.mk #[]) [])) [] [] [])]), .c (r_l02_System v1), .c (r_ast_text v2)] (pA (blc (e := e_r02_Expr) (x := (r02_Expr.mk 2 0 (ByteArray.mk #[97]) [])) (e_r02_Expr_eq _).symm (blc (e := e_r02_Expr) (x := (r02_Expr.mk 1 1 (ByteArray.mk #[]) [])) (e_r02_Expr_eq _).symm (bl0 e_r02_Expr))) (pA (blc (e := e_r02_Expr) (x := (r02_Expr.mk 4 0 (ByteArray.mk #[]) [(r02_Expr.mk 2 0 (ByteArray.mk #[97]) []), (r02_Expr.mk 1 1 (ByteArray.mk #[]) [])])) (e_r02_Expr_eq _).symm (blc (e := e_r02_Expr) (x := (r02_Expr.mk 1 2 (ByteArray.mk #[]) [])) (e_r02_Expr_eq _).symm (bl0 e_r02_Expr))) (pA (blc (e := e_r02_Stmt) (x := (r02_Stmt.mk 1 (ByteArray.mk #[120]) (ByteArray.mk #[]) (r02_Expr.mk 6 0 (ByteArray.mk #[]) [(r02_Expr.mk 4 0 (ByteArray.mk #[]) [(r02_Expr.mk 2 0 (ByteArray.mk #[97]) []), (r02_Expr.mk 1 1 (ByteArray.mk #[]) [])]), (r02_Expr.mk 1 2 (ByteArray.mk #[]) [])]) (r02_Cond.mk 0 (r02_Expr.mk 0 0 (ByteArray.mk #[]) []) (r02_Expr.mk 0 0 (ByteArray.mk #[]) [])) [] [] [])) (e_r02_Stmt_eq _).symm (bl0 e_r02_Stmt)) (pA (m_l02_System (X := X) k1) (pA (m_ast_text (X := X) k2) pT))))) (by kernel_rfl) ?_
  rcases iteE h with ⟨k3, h⟩ | ⟨k3, h⟩
  · obtain rfl := retE h
    exact fin (ok X) 2 [.b true, .b true, .b true] (pA k3 (pA k3 (pA k3 pT))) (by kernel_rfl)
  · obtain rfl := retE h
    exact fin (ok X) 2 [.b false, .b false, .b false] (pA k3 (pA k3 (pA k3 pT))) (by kernel_rfl)

theorem m_l02_AstDeeps {a0 : Int} {a1 : Bool} {r : Bool} (h : l02_AstDeeps a0 a1 = some r) : Cv Tryd.prog (GX X) 3 [xI a0, xB a1] (r_l02_AstDeeps r) := by
  refine Cs.toV (?_ : Cs Tryd.prog (GX X) 3 [xI a0, xB a1] [] (r_l02_AstDeeps r) (o_l02_AstDeeps r)) (by kernel_rfl)
  refine fnT (cx := cx X) Tryd.f3 Tryd.call3 Tryd.func3 (by kernel_rfl) ?_
  unfold l02_AstDeeps at h
  obtain ⟨v1, k1, h⟩ := bindE h
  refine adv (ok X) 11 [.i v1, .bo (List.map e_r02_Stmt [(r02_Stmt.mk 7 (ByteArray.mk #[120]) (ByteArray.mk #[]) (r02_Expr.mk 0 0 (ByteArray.mk #[]) []) (r02_Cond.mk 0 (r02_Expr.mk 0 0 (ByteArray.mk #[]) []) (r02_Expr.mk 0 0 (ByteArray.mk #[]) [])) [] [] [])])] (pA k1 (pA (blc (e := e_r02_Stmt) (x := (r02_Stmt.mk 7 (ByteArray.mk #[120]) (ByteArray.mk #[]) (r02_Expr.mk 0 0 (ByteArray.mk #[]) []) (r02_Cond.mk 0 (r02_Expr.mk 0 0 (ByteArray.mk #[]) []) (r02_Expr.mk 0 0 (ByteArray.mk #[]) [])) [] [] [])) (e_r02_Stmt_eq _).symm (bl0 e_r02_Stmt)) pT)) (by kernel_rfl) ?_
  refine lp (ok X) (l02_AstDeeps_l1 a1 v1) (fun (x1 : (Int × Int × Int × (List r02_Expr) × (List r02_Stmt))) => ⟨64, 0, [(1, [xB a1]), (5, [xI (IntKind.i64.wrap (20 + (IntKind.i64.wrap v1)))]), (6, [xP 0 0]), (7, [xR 1]), (8, [xI x1.1])], [oB 25 (bs (f_r02_Expr (r02_Expr.mk x1.2.1 x1.2.2.1 (ByteArray.mk #[]) x1.2.2.2.1))), oR true 31 19 (List.map e_r02_Stmt x1.2.2.2.2)]⟩) (fun (j1 : (Int × Int × (List r02_Expr) × (List r02_Stmt))) => ⟨64, 0, [(5, [xI (IntKind.i64.wrap (20 + (IntKind.i64.wrap v1)))]), (6, [xP 0 0]), (7, [xR 1])], [oB 25 (bs (f_r02_Expr (r02_Expr.mk j1.1 j1.2.1 (ByteArray.mk #[]) j1.2.2.1))), oR true 31 19 (List.map e_r02_Stmt j1.2.2.2)]⟩) R_l02_AstDeeps (0, 1, 1, [], [(r02_Stmt.mk 7 (ByteArray.mk #[120]) (ByteArray.mk #[]) (r02_Expr.mk 0 0 (ByteArray.mk #[]) []) (r02_Cond.mk 0 (r02_Expr.mk 0 0 (ByteArray.mk #[]) []) (r02_Expr.mk 0 0 (ByteArray.mk #[]) [])) [] [] [])]) (fun _ => ⟨_, _, _, _, rfl⟩) h (by kernel_rfl) (fun x1 o h => ?_) (fun r' h => ?_) (fun j1 h => ?_)
  · unfold l02_AstDeeps_l1 at h
    rcases iteE h with ⟨k2, h⟩ | ⟨k2, h⟩
    · refine adv (ok X) 6 [.b true] (pA k2 pT) (by kernel_rfl) ?_
      refine jn (ok X) 1 (fun (j2 : (Int × Int × (List r02_Expr) × (List r02_Stmt))) => ⟨64, 0, [(1, [xB a1]), (5, [xI (IntKind.i64.wrap (20 + (IntKind.i64.wrap v1)))]), (6, [xP 0 0]), (7, [xR 1]), (8, [xI x1.1])], [oB 25 (bs (f_r02_Expr (r02_Expr.mk j2.1 j2.2.1 (ByteArray.mk #[]) j2.2.2.1))), oR true 31 19 (List.map e_r02_Stmt j2.2.2.2)]⟩) h (fun j2 h => ?_) (fun j2 h => ?_)
      · rcases iteE h with ⟨k3, h⟩ | ⟨k3, h⟩
        · obtain rfl := retE h
          exact fin (ok X) 6 [.b true, .bl (List.map e_r02_Expr [(r02_Expr.mk x1.2.1 x1.2.2.1 (ByteArray.mk #[]) x1.2.2.2.1)])] (pA k3 (pA (blc (e := e_r02_Expr) (x := (r02_Expr.mk x1.2.1 x1.2.2.1 (ByteArray.mk #[]) x1.2.2.2.1)) (e_r02_Expr_eq _).symm (bl0 e_r02_Expr)) pT)) (by kernel_rfl)
        · obtain rfl := retE h
          exact fin (ok X) 6 [.b false, .z (.fz 1), .bo (List.map e_r02_Stmt [(r02_Stmt.mk 3 (ByteArray.mk #[]) (ByteArray.mk #[]) (r02_Expr.mk 0 0 (ByteArray.mk #[]) []) (r02_Cond.mk 1 (r02_Expr.mk 1 0 (ByteArray.mk #[]) []) (r02_Expr.mk 1 0 (ByteArray.mk #[]) [])) x1.2.2.2.2 [] [])])] (pA k3 (pA (blc (e := e_r02_Stmt) (x := (r02_Stmt.mk 3 (ByteArray.mk #[]) (ByteArray.mk #[]) (r02_Expr.mk 0 0 (ByteArray.mk #[]) []) (r02_Cond.mk 1 (r02_Expr.mk 1 0 (ByteArray.mk #[]) []) (r02_Expr.mk 1 0 (ByteArray.mk #[]) [])) x1.2.2.2.2 [] [])) (e_r02_Stmt_eq _).symm (bl0 e_r02_Stmt)) pT)) (by kernel_rfl)
      · obtain rfl := retE h
        exact fin (ok X) 1 [] pT (by kernel_rfl)
    · obtain rfl := retE h
      exact fin (ok X) 5 [.b false] (pA k2 pT) (by kernel_rfl)
  · cases h
  · obtain ⟨v2, k4, h⟩ := bindE h
    obtain ⟨v3, k5, h⟩ := bindE h
    obtain ⟨v4, k6, h⟩ := bindE h
    refine adv (ok X) 5 [.bl (List.map e_r02_Stmt [(r02_Stmt.mk 1 (ByteArray.mk #[120]) (ByteArray.mk #[]) (r02_Expr.mk j1.1 j1.2.1 (ByteArray.mk #[]) j1.2.2.1) (r02_Cond.mk 0 (r02_Expr.mk 0 0 (ByteArray.mk #[]) []) (r02_Expr.mk 0 0 (ByteArray.mk #[]) [])) [] [] [])]), .l (List.map e_r02_Stmt v2), .z (.fz 1), .c (r_l02_System v3), .c (r_ast_text v4)] (pA (blc (e := e_r02_Stmt) (x := (r02_Stmt.mk 1 (ByteArray.mk #[120]) (ByteArray.mk #[]) (r02_Expr.mk j1.1 j1.2.1 (ByteArray.mk #[]) j1.2.2.1) (r02_Cond.mk 0 (r02_Expr.mk 0 0 (ByteArray.mk #[]) []) (r02_Expr.mk 0 0 (ByteArray.mk #[]) [])) [] [] [])) (e_r02_Stmt_eq _).symm (bl0 e_r02_Stmt)) (pA (apm (L := j1.2.2.2) (M := [(r02_Stmt.mk 1 (ByteArray.mk #[120]) (ByteArray.mk #[]) (r02_Expr.mk j1.1 j1.2.1 (ByteArray.mk #[]) j1.2.2.1) (r02_Cond.mk 0 (r02_Expr.mk 0 0 (ByteArray.mk #[]) []) (r02_Expr.mk 0 0 (ByteArray.mk #[]) [])) [] [] [])]) e_r02_Stmt_len k4) (pA (m_l02_System (X := X) k5) (pA (m_ast_text (X := X) k6) pT)))) (by kernel_rfl) ?_
    obtain ⟨v5, k7, h⟩ := bindE h
    rcases iteE h with ⟨k8, h⟩ | ⟨k8, h⟩
    · rcases iteE h with ⟨k9, h⟩ | ⟨k9, h⟩
      · rcases iteE h with ⟨k10, h⟩ | ⟨k10, h⟩
        · obtain rfl := retE h
          exact fin (ok X) 2 [.c (r_l02_texts v5), .b true, .b true, .b true, .b true, .b true, .b true, .b true, .b true, .b true, .b true, .b true, .b true, .b true, .b true] (pA (m_l02_texts (X := X) k7) (pA k8 (pA k8 (pA k8 (pA k8 (pA k8 (pA k8 (pA k9 (pA k9 (pA k9 (pA k10 (pA k10 (pA k9 (pA k10 (pA k9 pT))))))))))))))) (by kernel_rfl)
        · obtain rfl := retE h
          exact fin (ok X) 2 [.c (r_l02_texts v5), .b true, .b true, .b true, .b true, .b true, .b true, .b true, .b true, .b true, .b false, .b false, .b true, .b false, .b true] (pA (m_l02_texts (X := X) k7) (pA k8 (pA k8 (pA k8 (pA k8 (pA k8 (pA k8 (pA k9 (pA k9 (pA k9 (pA k10 (pA k10 (pA k9 (pA k10 (pA k9 pT))))))))))))))) (by kernel_rfl)
      · obtain rfl := retE h
        exact fin (ok X) 2 [.c (r_l02_texts v5), .b true, .b true, .b true, .b true, .b true, .b true, .b false, .b false, .b false, .b false, .b false] (pA (m_l02_texts (X := X) k7) (pA k8 (pA k8 (pA k8 (pA k8 (pA k8 (pA k8 (pA k9 (pA k9 (pA k9 (pA k9 (pA k9 pT)))))))))))) (by kernel_rfl)
    · obtain rfl := retE h
      exact fin (ok X) 2 [.c (r_l02_texts v5), .b false, .b false, .b false, .b false, .b false, .b false, .b false, .b false, .b false, .b false, .b false] (pA (m_l02_texts (X := X) k7) (pA k8 (pA k8 (pA k8 (pA k8 (pA k8 (pA k8 (pA ff (pA ff (pA ff (pA ff (pA ff pT)))))))))))) (by kernel_rfl)

theorem m_l02_AstEmpty {a0 : Int} {a1 : Int} {a2 : Int} {r : Bool} (h : l02_AstEmpty a0 a1 a2 = some r) : Cv Tryd.prog (GX X) 5 [xI a0, xI a1, xI a2] (r_l02_AstEmpty r) := by
  refine Cs.toV (?_ : Cs Tryd.prog (GX X) 5 [xI a0, xI a1, xI a2] [] (r_l02_AstEmpty r) (o_l02_AstEmpty r)) (by kernel_rfl)
  refine fnT (cx := cx X) Tryd.f5 Tryd.call5 Tryd.func5 (by kernel_rfl) ?_
  unfold l02_AstEmpty at h
  refine adv (ok X) 7 [] pT (by kernel_rfl) ?_
  refine lp (ok X) (l02_AstEmpty_l1 a0) (fun (x1 : (Int × (List r02_Chan))) => ⟨92, 0, [(0, [xI a0]), (1, [xI a1]), (2, [xI a2]), (7, [xP 0 0]), (8, [xI x1.1])], [oB 48 [.row 1, .emp, .emp], oR true 55 6 (List.map e_r02_Chan x1.2)]⟩) (fun (j1 : (List r02_Chan)) => ⟨92, 0, [(1, [xI a1]), (2, [xI a2]), (7, [xP 0 0])], [oB 48 [.row 1, .emp, .emp], oR true 55 6 (List.map e_r02_Chan j1)]⟩) R_l02_AstEmpty (0, []) (fun _ => ⟨_, _, _, _, rfl⟩) h (by kernel_rfl) (fun x1 o h => ?_) (fun r' h => ?_) (fun j1 h => ?_)
  · unfold l02_AstEmpty_l1 at h
    obtain ⟨v1, k1, h⟩ := bindE h
    refine adv (ok X) 3 [.i v1] (pA k1 pT) (by kernel_rfl) ?_
    rcases iteE h with ⟨k2, h⟩ | ⟨k2, h⟩
    · obtain ⟨v2, k3, h⟩ := bindE h
      obtain ⟨v3, k4, h⟩ := bindE h
      obtain rfl := retE h
      exact fin (ok X) 7 [.b true, .i v2, .l (List.map e_r02_Chan v3)] (pA k2 (pA k3 (pA (apm (L := x1.2) (M := [(r02_Chan.mk (ByteArray.mk #[99]) v2 x1.1 (ByteArray.mk #[112]) (ByteArray.mk #[113]) [(ByteArray.mk #[97])])]) e_r02_Chan_len k4) pT))) (by kernel_rfl)
    · obtain rfl := retE h
      exact fin (ok X) 2 [.b false] (pA k2 pT) (by kernel_rfl)
  · cases h
  · refine adv (ok X) 3 [] pT (by kernel_rfl) ?_
    refine lp (ok X) (l02_AstEmpty_l2 a1) (fun (x2 : (Int × (List r02_Rule))) => ⟨92, 0, [(1, [xI a1]), (2, [xI a2]), (7, [xP 0 0]), (9, [xI x2.1])], [oB 48 [.row 1, .row 2, .emp], oR true 55 6 (List.map e_r02_Chan j1), oR true 60 2 (List.map e_r02_Rule x2.2)]⟩) (fun (j2 : (List r02_Rule)) => ⟨92, 0, [(2, [xI a2]), (7, [xP 0 0])], [oB 48 [.row 1, .row 2, .emp], oR true 55 6 (List.map e_r02_Chan j1), oR true 60 2 (List.map e_r02_Rule j2)]⟩) R_l02_AstEmpty (0, []) (fun _ => ⟨_, _, _, _, rfl⟩) h (by kernel_rfl) (fun x2 o h => ?_) (fun r' h => ?_) (fun j2 h => ?_)
    · unfold l02_AstEmpty_l2 at h
      obtain ⟨v4, k5, h⟩ := bindE h
      refine adv (ok X) 3 [.i v4] (pA k5 pT) (by kernel_rfl) ?_
      rcases iteE h with ⟨k6, h⟩ | ⟨k6, h⟩
      · obtain ⟨v5, k7, h⟩ := bindE h
        obtain rfl := retE h
        exact fin (ok X) 7 [.b true, .l (List.map e_r02_Rule v5)] (pA k6 (pA (apm (L := x2.2) (M := [(r02_Rule.mk (ByteArray.mk #[99]) [(r02_Move.mk x2.1 (ByteArray.mk #[97]) 0)])]) e_r02_Rule_len k7) pT)) (by kernel_rfl)
      · obtain rfl := retE h
        exact fin (ok X) 2 [.b false] (pA k6 pT) (by kernel_rfl)
    · cases h
    · refine adv (ok X) 3 [] pT (by kernel_rfl) ?_
      refine lp (ok X) (l02_AstEmpty_l3 a2) (fun (x3 : (Int × (List r02_Proc))) => ⟨92, 0, [(2, [xI a2]), (7, [xP 0 0]), (10, [xI x3.1])], [oB 48 [.row 1, .row 2, .row 3], oR true 55 6 (List.map e_r02_Chan j1), oR true 60 2 (List.map e_r02_Rule j2), oR true 43 3 (List.map e_r02_Proc x3.2)]⟩) (fun (j3 : (List r02_Proc)) => ⟨92, 0, [(7, [xP 0 0])], [oB 48 [.row 1, .row 2, .row 3], oR true 55 6 (List.map e_r02_Chan j1), oR true 60 2 (List.map e_r02_Rule j2), oR true 43 3 (List.map e_r02_Proc j3)]⟩) R_l02_AstEmpty (0, []) (fun _ => ⟨_, _, _, _, rfl⟩) h (by kernel_rfl) (fun x3 o h => ?_) (fun r' h => ?_) (fun j3 h => ?_)
      · unfold l02_AstEmpty_l3 at h
        obtain ⟨v6, k8, h⟩ := bindE h
        refine adv (ok X) 3 [.i v6] (pA k8 pT) (by kernel_rfl) ?_
        rcases iteE h with ⟨k9, h⟩ | ⟨k9, h⟩
        · obtain ⟨v7, k10, h⟩ := bindE h
          obtain rfl := retE h
          exact fin (ok X) 7 [.b true, .l (List.map e_r02_Proc v7)] (pA k9 (pA (apm (L := x3.2) (M := [(r02_Proc.mk (ByteArray.mk #[112]) [] [])]) e_r02_Proc_len k10) pT)) (by kernel_rfl)
        · obtain rfl := retE h
          exact fin (ok X) 2 [.b false] (pA k9 pT) (by kernel_rfl)
      · cases h
      · obtain ⟨v8, k11, h⟩ := bindE h
        obtain ⟨v9, k12, h⟩ := bindE h
        refine adv (ok X) 3 [.z (.fz 1), .z (.fz 2), .z (.fz 3), .c (r_l02_System v8), .c (r_ast_Words v9)] (pA (m_l02_System (X := X) k11) (pA (m_ast_Words (X := X) k12) pT)) (by kernel_rfl) ?_
        obtain ⟨v10, k13, h⟩ := bindE h
        rcases iteE h with ⟨k14, h⟩ | ⟨k14, h⟩
        · rcases iteE h with ⟨k15, h⟩ | ⟨k15, h⟩
          · obtain rfl := retE h
            exact fin (ok X) 2 [.c (r_l02_texts v10), .b true, .b true, .b true, .b true, .b true, .i (v9.1.length : Int), .b true, .b true, .b true, .i (j1.length : Int), .b true, .b true, .b true, .b true, .i (j2.length : Int), .b true, .b true, .b true, .b true, .b true, .i (j3.length : Int), .b true, .b true, .b true, .b true] (pA (m_l02_texts (X := X) k13) (pA k14 (pA k14 (pA k14 (pA k15 (pA k15 (pA (lm e_str v9.1) (pA k15 (pA k15 (pA k15 (pA (lm e_r02_Chan j1) (pA k15 (pA k15 (pA k15 (pA k15 (pA (lm e_r02_Rule j2) (pA k15 (pA k15 (pA k15 (pA k15 (pA k15 (pA (lm e_r02_Proc j3) (pA k15 (pA k15 (pA k15 (pA k15 pT)))))))))))))))))))))))))) (by kernel_rfl)
          · obtain rfl := retE h
            exact fin (ok X) 2 [.c (r_l02_texts v10), .b true, .b true, .b true, .b false, .b false, .b false, .b false, .b false, .b false, .b false, .b false, .b false, .b false, .b false, .b false, .b false, .b false, .b false, .b false, .b false, .b false] (pA (m_l02_texts (X := X) k13) (pA k14 (pA k14 (pA k14 (pA k15 (pA k15 (pA k15 (pA k15 (pA k15 (pA k15 (pA k15 (pA k15 (pA k15 (pA k15 (pA k15 (pA k15 (pA k15 (pA k15 (pA k15 (pA k15 (pA k15 (pA k15 pT)))))))))))))))))))))) (by kernel_rfl)
        · obtain rfl := retE h
          exact fin (ok X) 2 [.c (r_l02_texts v10), .b false, .b false, .b false, .b false, .b false, .b false, .b false, .b false, .b false, .b false, .b false, .b false, .b false, .b false, .b false, .b false, .b false, .b false, .b false, .b false, .b false] (pA (m_l02_texts (X := X) k13) (pA k14 (pA k14 (pA k14 (pA ff (pA ff (pA ff (pA ff (pA ff (pA ff (pA ff (pA ff (pA ff (pA ff (pA ff (pA ff (pA ff (pA ff (pA ff (pA ff (pA ff (pA ff pT)))))))))))))))))))))) (by kernel_rfl)

theorem m_l02_AstJoins {a0 : (List r02_Stmt)} {r : Bool} (h : l02_AstJoins a0 = some r) : Cv Tryd.prog (GX X) 6 [xL (List.map e_r02_Stmt a0)] (r_l02_AstJoins r) := by
  refine Cs.toV (?_ : Cs Tryd.prog (GX X) 6 [xL (List.map e_r02_Stmt a0)] [] (r_l02_AstJoins r) (o_l02_AstJoins r)) (by kernel_rfl)
  refine fnT (cx := cx X) Tryd.f6 Tryd.call6 Tryd.func6 (by kernel_rfl) ?_
  unfold l02_AstJoins at h
  obtain ⟨v1, k1, h⟩ := bindE h
  obtain ⟨v2, k2, h⟩ := bindE h
  obtain ⟨v3, k3, h⟩ := bindE h
  refine adv (ok X) 11 [.i (a0.length : Int), .l (List.map e_r02_Stmt v1), .c (r_l02_System v2), .c (r_ast_Words v3)] (pA (lm e_r02_Stmt a0) (pA (lsm e_r02_Stmt k1) (pA (lnm e_r02_Stmt_len a0) (pA (m_l02_System (X := X) k2) (pA (m_ast_Words (X := X) k3) pT))))) (by kernel_rfl) ?_
  refine lp (ok X) (l02_AstJoins_l1 v1 v3) (fun (x1 : (Int × Int)) => ⟨101, 0, [(0, [xL (List.map e_r02_Stmt v1)]), (3, [xL (List.map e_str v3.1)]), (4, [xI v3.2]), (5, [xI x1.1]), (6, [xI x1.2])], []⟩) (fun (j1 : Int) => ⟨101, 0, [(3, [xL (List.map e_str v3.1)]), (4, [xI v3.2]), (5, [xI j1])], []⟩) R_l02_AstJoins (0, 0) (fun _ => ⟨_, _, _, _, rfl⟩) h (by kernel_rfl) (fun x1 o h => ?_) (fun r' h => ?_) (fun j1 h => ?_)
  · unfold l02_AstJoins_l1 at h
    refine adv (ok X) 3 [.i (v1.length : Int)] (pA (lm e_r02_Stmt v1) pT) (by kernel_rfl) ?_
    rcases iteE h with ⟨k4, h⟩ | ⟨k4, h⟩
    · obtain ⟨v4, k5, h⟩ := bindE h
      obtain ⟨v5, k6, h⟩ := bindE h
      obtain ⟨v6, k7, h⟩ := bindE h
      refine adv (ok X) 9 [.b true, .l (List.map e_r02_Stmt v4), .c (r_l02_System v5), .c (r_ast_Words v6)] (pA k4 (pA (lsm e_r02_Stmt k5) (pA (lnm e_r02_Stmt_len v1) (pA (m_l02_System (X := X) k6) (pA (m_ast_Words (X := X) k7) pT))))) (by kernel_rfl) ?_
      rcases iteE h with ⟨k8, h⟩ | ⟨k8, h⟩
      · refine adv (ok X) 2 [.b true] (pA k8 pT) (by kernel_rfl) ?_
        refine jn (ok X) 1 (fun (j2 : Bool) => ⟨101, 0, [(2, [xB j2])], []⟩) h (fun j2 h => ?_) (fun j2 h => ?_)
        · obtain ⟨v7, k9, h⟩ := bindE h
          rcases iteE h with ⟨k10, h⟩ | ⟨k10, h⟩
          · obtain rfl := retE h
            exact fin (ok X) 1 [.c (r_l02_texts v7), .b true, .b true, .b true] (pA (m_l02_texts (X := X) k9) (pA k10 (pA k10 (pA k10 pT)))) (by kernel_rfl)
          · obtain rfl := retE h
            exact fin (ok X) 1 [.c (r_l02_texts v7), .b false, .b false, .b false] (pA (m_l02_texts (X := X) k9) (pA k10 (pA k10 (pA k10 pT)))) (by kernel_rfl)
        · obtain rfl := retE h
          exact fin (ok X) 1 [] pT (by kernel_rfl)
      · refine adv (ok X) 4 [.b false] (pA k8 pT) (by kernel_rfl) ?_
        refine lp (ok X) (l02_AstJoins_l3 v3 v6) (fun (x3 : (Int × Int)) => ⟨101, 0, [(0, [xL (List.map e_r02_Stmt v1)]), (3, [xL (List.map e_str v3.1)]), (4, [xI v3.2]), (5, [xI x3.1]), (6, [xI x1.2]), (7, [xL (List.map e_str v6.1)]), (9, [xI x3.2])], []⟩) (fun (j3 : Int) => ⟨101, 0, [(0, [xL (List.map e_r02_Stmt v1)]), (3, [xL (List.map e_str v3.1)]), (4, [xI v3.2]), (5, [xI j3]), (6, [xI x1.2])], []⟩) R_l02_AstJoins (x1.1, 3) (fun _ => ⟨_, _, _, _, rfl⟩) h (by kernel_rfl) (fun x3 o h => ?_) (fun r' h => ?_) (fun j3 h => ?_)
        · unfold l02_AstJoins_l3 at h
          refine adv (ok X) 3 [.i (v6.1.length : Int)] (pA (lm e_str v6.1) pT) (by kernel_rfl) ?_
          rcases iteE h with ⟨k11, h⟩ | ⟨k11, h⟩
          · refine adv (ok X) 6 [.b true] (pA k11 pT) (by kernel_rfl) ?_
            refine jn (ok X) 1 (fun (j4 : Bool) => ⟨101, 0, [(0, [xL (List.map e_r02_Stmt v1)]), (3, [xL (List.map e_str v3.1)]), (4, [xI v3.2]), (5, [xI x3.1]), (6, [xI x1.2]), (7, [xL (List.map e_str v6.1)]), (9, [xI x3.2]), (77, [xB j4])], []⟩) h (fun j4 h => ?_) (fun j4 h => ?_)
            · rcases iteE h with ⟨k12, h⟩ | ⟨k12, h⟩
              · rcases iteE h with ⟨k13, h⟩ | ⟨k13, h⟩
                · obtain rfl := retE h
                  exact fin (ok X) 1 [.o [0, 1, 2, 3, 4, 5, 6, 7, 8, 9, 10, 11, 12, 13, 14, 15, 16, 17, 18, 19, 20], .b true, .b true, .b true, .b true, .i (v3.1.length : Int), .b true, .b true, .b true, .b true, .b true, .b true, .b true, .b true, .b true, .b true, .b true, .b true, .b true, .b true, .b true] (pA k12 (pA k12 (pA k12 (pA k12 (pA (lm e_str v3.1) (pA k12 (pA k12 (pA k13 (pA k13 (pA k13 (pA k13 (pA k13 (pA k13 (pA k13 (pA k13 (pA k13 (pA k13 (pA k12 (pA k13 (pA k12 pT)))))))))))))))))))) (by kernel_rfl)
                · obtain ⟨v8, k14, h⟩ := bindE h
                  obtain ⟨v9, k15, h⟩ := bindE h
                  obtain rfl := retE h
                  exact fin (ok X) 1 [.o [0, 1, 2, 3, 4, 5, 6, 7, 8, 9, 10, 11, 12, 13, 14, 15, 16, 17, 18, 19, 20], .b true, .b true, .b true, .b true, .i (v3.1.length : Int), .b true, .b true, .b false, .b false, .b false, .b false, .e [.str v8], .b false, .b false, .b false, .b false, .e [.str v9], .b false, .b false, .b true, .b false, .b true] (pA k12 (pA k12 (pA k12 (pA k12 (pA (lm e_str v3.1) (pA k12 (pA k12 (pA k13 (pA k13 (pA k13 (pA k13 (pA (ixm e_str k14) (pA k13 (pA k13 (pA k13 (pA k13 (pA (ixm e_str k15) (pA k13 (pA k13 (pA k12 (pA k13 (pA k12 pT)))))))))))))))))))))) (by kernel_rfl)
              · obtain rfl := retE h
                exact fin (ok X) 1 [.o [0, 1, 2, 3, 4, 5, 6, 7, 8, 9, 10, 11, 12, 13, 14, 15, 16, 17, 18, 19, 20], .b false, .b false, .b false, .b false, .b false, .b false, .b false, .b false] (pA k12 (pA k12 (pA k12 (pA k12 (pA k12 (pA k12 (pA k12 (pA k12 pT)))))))) (by kernel_rfl)
            · rcases iteE h with ⟨k16, h⟩ | ⟨k16, h⟩
              · obtain rfl := retE h
                exact fin (ok X) 4 [.b true] (pA k16 pT) (by kernel_rfl)
              · obtain rfl := retE h
                exact fin (ok X) 5 [.b false] (pA k16 pT) (by kernel_rfl)
          · obtain rfl := retE h
            exact fin (ok X) 2 [.b false] (pA k11 pT) (by kernel_rfl)
        · obtain rfl := retE h
          kernel_rfl
        · obtain rfl := retE h
          exact fin (ok X) 2 [] pT (by kernel_rfl)
    · obtain rfl := retE h
      exact fin (ok X) 2 [.b false] (pA k4 pT) (by kernel_rfl)
  · obtain rfl := retE h
    kernel_rfl
  · refine adv (ok X) 1 [] pT (by kernel_rfl) ?_
    refine jn (ok X) 1 (fun (j5 : Bool) => ⟨101, 0, [(2, [xB j5])], []⟩) h (fun j5 h => ?_) (fun j5 h => ?_)
    · obtain ⟨v10, k17, h⟩ := bindE h
      rcases iteE h with ⟨k18, h⟩ | ⟨k18, h⟩
      · rcases iteE h with ⟨k19, h⟩ | ⟨k19, h⟩
        · rcases iteE h with ⟨k20, h⟩ | ⟨k20, h⟩
          · obtain rfl := retE h
            exact fin (ok X) 1 [.c (r_l02_texts v10), .b true, .b true, .b true, .b true, .b true, .i (v3.1.length : Int), .b true, .b true, .b true, .b true, .b true, .b true, .b true, .b true, .b true, .b true, .b true, .b true, .b true] (pA (m_l02_texts (X := X) k17) (pA k18 (pA k18 (pA k18 (pA k19 (pA k19 (pA (lm e_str v3.1) (pA k19 (pA k19 (pA k19 (pA k18 (pA k19 (pA k18 (pA k20 (pA k20 (pA k20 (pA k20 (pA k18 (pA k20 (pA k18 pT)))))))))))))))))))) (by kernel_rfl)
          · rcases iteE h with ⟨k21, h⟩ | ⟨k21, h⟩
            · obtain rfl := retE h
              exact fin (ok X) 1 [.c (r_l02_texts v10), .b true, .b true, .b true, .b true, .b true, .i (v3.1.length : Int), .b true, .b true, .b true, .b true, .b true, .b true, .b false, .b false, .b false, .b true, .b true, .b true, .b false, .b true, .b true, .b false, .b true] (pA (m_l02_texts (X := X) k17) (pA k18 (pA k18 (pA k18 (pA k19 (pA k19 (pA (lm e_str v3.1) (pA k19 (pA k19 (pA k19 (pA k18 (pA k19 (pA k18 (pA k20 (pA k20 (pA k20 (pA k21 (pA k21 (pA k21 (pA k20 (pA k21 (pA k18 (pA k20 (pA k18 pT)))))))))))))))))))))))) (by kernel_rfl)
            · obtain rfl := retE h
              exact fin (ok X) 1 [.c (r_l02_texts v10), .b true, .b true, .b true, .b true, .b true, .i (v3.1.length : Int), .b true, .b true, .b true, .b true, .b true, .b true, .b false, .b false, .b false, .b false, .b false, .b false, .b false, .b false, .b true, .b false, .b true] (pA (m_l02_texts (X := X) k17) (pA k18 (pA k18 (pA k18 (pA k19 (pA k19 (pA (lm e_str v3.1) (pA k19 (pA k19 (pA k19 (pA k18 (pA k19 (pA k18 (pA k20 (pA k20 (pA k20 (pA k21 (pA k21 (pA k21 (pA k20 (pA k21 (pA k18 (pA k20 (pA k18 pT)))))))))))))))))))))))) (by kernel_rfl)
        · rcases iteE h with ⟨k22, h⟩ | ⟨k22, h⟩
          · obtain rfl := retE h
            exact fin (ok X) 1 [.c (r_l02_texts v10), .b true, .b true, .b true, .b false, .b false, .b false, .b false, .b false, .b true, .b false, .b true, .b false, .b false, .b false, .b true, .b true, .b true, .b false, .b true, .b true, .b false, .b true] (pA (m_l02_texts (X := X) k17) (pA k18 (pA k18 (pA k18 (pA k19 (pA k19 (pA k19 (pA k19 (pA k19 (pA k18 (pA k19 (pA k18 (pA ff (pA ff (pA ff (pA k22 (pA k22 (pA k22 (pA ff (pA k22 (pA k18 (pA ff (pA k18 pT))))))))))))))))))))))) (by kernel_rfl)
          · obtain rfl := retE h
            exact fin (ok X) 1 [.c (r_l02_texts v10), .b true, .b true, .b true, .b false, .b false, .b false, .b false, .b false, .b true, .b false, .b true, .b false, .b false, .b false, .b false, .b false, .b false, .b false, .b false, .b true, .b false, .b true] (pA (m_l02_texts (X := X) k17) (pA k18 (pA k18 (pA k18 (pA k19 (pA k19 (pA k19 (pA k19 (pA k19 (pA k18 (pA k19 (pA k18 (pA ff (pA ff (pA ff (pA k22 (pA k22 (pA k22 (pA ff (pA k22 (pA k18 (pA ff (pA k18 pT))))))))))))))))))))))) (by kernel_rfl)
      · obtain rfl := retE h
        exact fin (ok X) 1 [.c (r_l02_texts v10), .b false, .b false, .b false, .b false, .b false, .b false, .b false] (pA (m_l02_texts (X := X) k17) (pA k18 (pA k18 (pA k18 (pA k18 (pA k18 (pA k18 (pA k18 pT)))))))) (by kernel_rfl)
    · obtain rfl := retE h
      exact fin (ok X) 1 [] pT (by kernel_rfl)
end Go.Proofs.YtaaihamelknhdaaDoor.Abs

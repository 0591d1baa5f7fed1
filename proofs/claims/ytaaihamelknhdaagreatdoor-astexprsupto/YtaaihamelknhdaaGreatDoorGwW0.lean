/- Gw: the functions are these. -/
import Derived.Test.YtaaihamelknhdaaGreatDoorGwF
namespace Go.Proofs.YtaaihamelknhdaaGreatDoor.Abs
open Go Go.RowKit
set_option linter.unusedVariables false
set_option maxRecDepth 100000
set_option maxHeartbeats 4000000
variable {X : EV}
theorem m_itoa {a0 : Int} {r : ByteArray} (h : itoa a0 = some r) : Cv Tryz.prog (GX X) 51 [xI a0] (r_itoa r) := hand_itoa h
theorem m_lexnum {a0 : ByteArray} {r : Int × Int} (h : lexnum a0 = some r) : Cv Tryz.prog (GX X) 76 [xS a0] (r_lexnum r) := hand_lexnum h
theorem m_ibyte {a0 : ByteArray} {a1 : Int} {r : Int} (h : ibyte a0 a1 = some r) : Cv Tryz.prog (GX X) 89 [xS a0, .c (.pv (.int .u8 a1))] (r_ibyte r) := hand_ibyte h
theorem s_l02_Expr {n : Nat} (ih_l02_Expr : ∀ (a0 : r02_Expr) (r : ast_Expr), l02_ExprN n a0 = some r → Cv Tryz.prog (GX X) 36 [.agg (bs (f_r02_Expr a0))] (r_l02_Expr r)) (a0 : r02_Expr) (r : ast_Expr) (h : l02_ExprN (n + 1) a0 = some r) : Cv Tryz.prog (GX X) 36 [.agg (bs (f_r02_Expr a0))] (r_l02_Expr r) := by
  refine Cs.toV (?_ : Cs Tryz.prog (GX X) 36 [.agg (bs (f_r02_Expr a0))] [] (r_l02_Expr r) (o_l02_Expr r)) (by kernel_rfl)
  refine fnT (cx := cx X) Tryz.f36 Tryz.call36 Tryz.func36 (by kernel_rfl) ?_
  rw [l02_ExprN] at h
  refine adv (ok X) 7 [] pT (by kernel_rfl) ?_
  refine lp (ok X) (l02_Expr_l1 (l02_ExprN n) a0) (fun (x1 : (Int × (List ast_Expr))) => ⟨29, 0, [(1, [xP 0 0]), (2, [xP 1 0]), (3, [xR 2]), (4, [xI x1.1])], [oB 24 (bs (f_r02_Expr a0)), oB 98 [.pv (.int .i64 0), .pv (.int .i64 0), .pv (.str (ByteArray.mk #[])), .emp], oR true 98 4 (List.map e_ast_Expr x1.2)]⟩) (fun (j1 : (List ast_Expr)) => ⟨29, 0, [(1, [xP 0 0]), (2, [xP 1 0]), (3, [xR 2])], [oB 24 (bs (f_r02_Expr a0)), oB 98 [.pv (.int .i64 0), .pv (.int .i64 0), .pv (.str (ByteArray.mk #[])), .emp], oR true 98 4 (List.map e_ast_Expr j1)]⟩) R_l02_Expr (0, []) (fun _ => ⟨_, _, _, _, rfl⟩) h (by kernel_rfl) (fun x1 o h => ?_) (fun r' h => ?_) (fun j1 h => ?_)
  · unfold l02_Expr_l1 at h
    refine adv (ok X) 3 [.i (a0.Kids.length : Int)] (pA (lm e_r02_Expr a0.Kids) pT) (by kernel_rfl) ?_
    rcases iteE h with ⟨k1, h⟩ | ⟨k1, h⟩
    · obtain ⟨v1, k2, h⟩ := bindE h
      obtain ⟨v2, k3, h⟩ := bindE h
      obtain ⟨v3, k4, h⟩ := bindE h
      obtain rfl := retE h
      exact fin (ok X) 7 [.b true, .e (f_r02_Expr v1), .c (r_l02_Expr v2), .bl (List.map e_ast_Expr [v2]), .l (List.map e_ast_Expr v3)] (pA k1 (pA (ixr e_r02_Expr_eq k2) (pA (ih_l02_Expr _ _ k3) (pA (blc (e := e_ast_Expr) (x := v2) (e_ast_Expr_eq _).symm (bl0 e_ast_Expr)) (pA (apm (L := x1.2) (M := [v2]) e_ast_Expr_len k4) pT))))) (by kernel_rfl)
    · obtain rfl := retE h
      exact fin (ok X) 2 [.b false] (pA k1 pT) (by kernel_rfl)
  · cases h
  · obtain rfl := retE h
    exact fin (ok X) 3 [] pT (by kernel_rfl)

theorem all_l02_Expr : ∀ n : Nat, (∀ (a0 : r02_Expr) (r : ast_Expr), l02_ExprN n a0 = some r → Cv Tryz.prog (GX X) 36 [.agg (bs (f_r02_Expr a0))] (r_l02_Expr r))
  | 0 => (fun _ _ h => by rw [l02_ExprN] at h; cases h)
  | n + 1 => by
    have ih := all_l02_Expr n
    exact s_l02_Expr ih

theorem m_l02_Expr {a0 : r02_Expr} {r : ast_Expr} (h : l02_Expr a0 = some r) : Cv Tryz.prog (GX X) 36 [.agg (bs (f_r02_Expr a0))] (r_l02_Expr r) := by
  obtain ⟨n, hn⟩ := unfE h
  exact (all_l02_Expr n) _ _ hn

theorem m_l02_Cond {a0 : r02_Cond} {r : ast_Cond} (h : l02_Cond a0 = some r) : Cv Tryz.prog (GX X) 37 [.agg (bs (e_r02_Cond a0))] (r_l02_Cond r) := by
  refine Cs.toV (?_ : Cs Tryz.prog (GX X) 37 [.agg (bs (e_r02_Cond a0))] [] (r_l02_Cond r) (o_l02_Cond r)) (by kernel_rfl)
  refine fnT (cx := cx X) Tryz.f37 Tryz.call37 Tryz.func37 (by kernel_rfl) ?_
  unfold l02_Cond at h
  obtain ⟨v1, k1, h⟩ := bindE h
  obtain ⟨v2, k2, h⟩ := bindE h
  obtain rfl := retE h
  exact fin (ok X) 5 [.o [0, 1, 2, 3, 4, 5, 6, 7, 8, 9], .c (r_l02_Expr v1), .c (r_l02_Expr v2)] (pA (m_l02_Expr (X := X) k1) (pA (m_l02_Expr (X := X) k2) pT)) (by kernel_rfl)

theorem s_l02_Stmts {n : Nat} (ih_l02_Stmts : ∀ (a0 : (List r02_Stmt)) (r : (List ast_Stmt)), l02_StmtsN n a0 = some r → Cv Tryz.prog (GX X) 14 [xL (List.map e_r02_Stmt a0)] (r_l02_Stmts r)) (a0 : (List r02_Stmt)) (r : (List ast_Stmt)) (h : l02_StmtsN (n + 1) a0 = some r) : Cv Tryz.prog (GX X) 14 [xL (List.map e_r02_Stmt a0)] (r_l02_Stmts r) := by
  refine Cs.toV (?_ : Cs Tryz.prog (GX X) 14 [xL (List.map e_r02_Stmt a0)] [] (r_l02_Stmts r) (o_l02_Stmts r)) (by kernel_rfl)
  refine fnT (cx := cx X) Tryz.f14 Tryz.call14 Tryz.func14 (by kernel_rfl) ?_
  rw [l02_StmtsN] at h
  refine adv (ok X) 7 [] pT (by kernel_rfl) ?_
  refine lp (ok X) (l02_Stmts_l1 (l02_StmtsN n) a0) (fun (x1 : (Int × (List ast_Stmt))) => ⟨74, 0, [(0, [xL (List.map e_r02_Stmt a0)]), (3, [xR 0]), (4, [xI x1.1])], [oR true 103 19 (List.map e_ast_Stmt x1.2)]⟩) (fun (j1 : (List ast_Stmt)) => ⟨74, 0, [(3, [xR 0])], [oR true 103 19 (List.map e_ast_Stmt j1)]⟩) R_l02_Stmts (0, []) (fun _ => ⟨_, _, _, _, rfl⟩) h (by kernel_rfl) (fun x1 o h => ?_) (fun r' h => ?_) (fun j1 h => ?_)
  · unfold l02_Stmts_l1 at h
    refine adv (ok X) 3 [.i (a0.length : Int)] (pA (lm e_r02_Stmt a0) pT) (by kernel_rfl) ?_
    rcases iteE h with ⟨k1, h⟩ | ⟨k1, h⟩
    · obtain ⟨v1, k2, h⟩ := bindE h
      obtain ⟨v2, k3, h⟩ := bindE h
      obtain ⟨v3, k4, h⟩ := bindE h
      obtain ⟨v4, k5, h⟩ := bindE h
      obtain ⟨v5, k6, h⟩ := bindE h
      refine adv (ok X) 11 [.b true, .e (f_r02_Stmt v1), .o [0, 1, 2, 3, 4, 5, 6, 7, 8, 9, 10, 11, 12, 13, 14, 15, 16, 17, 18, 19, 20], .c (r_l02_Expr v2), .c (r_l02_Cond v3), .c (r_l02_Stmts v4), .c (r_l02_Stmts v5)] (pA k1 (pA (ixr e_r02_Stmt_eq k2) (pA (m_l02_Expr (X := X) k3) (pA (m_l02_Cond (X := X) k4) (pA (ih_l02_Stmts _ _ k5) (pA (ih_l02_Stmts _ _ k6) pT)))))) (by kernel_rfl) ?_
      refine lp (ok X) (l02_Stmts_l2 (l02_StmtsN n) v1) (fun (x2 : (Int × (List ast_Arm))) => ⟨74, 0, [(0, [xL (List.map e_r02_Stmt a0)]), (3, [xR 0]), (4, [xI x1.1]), (5, [xP 1 0]), (6, [xP 2 0]), (7, [xI x2.1])], [oR true 103 19 (List.map e_ast_Stmt x1.2), oB 30 (bs (f_r02_Stmt v1)), oB 103 [.pv (.int .i64 v1.Kind), .pv (.str v1.Name), .pv (.str v1.Tag), .pv (.int .i64 v2.Kind), .pv (.int .i64 v2.Num), .pv (.str v2.Name), .pv (.sl (List.map e_ast_Expr v2.Kids)), .pv (.int .i64 v3.Op), .pv (.int .i64 v3.L.Kind), .pv (.int .i64 v3.L.Num), .pv (.str v3.L.Name), .pv (.sl (List.map e_ast_Expr v3.L.Kids)), .pv (.int .i64 v3.R.Kind), .pv (.int .i64 v3.R.Num), .pv (.str v3.R.Name), .pv (.sl (List.map e_ast_Expr v3.R.Kids)), .pv (.sl (List.map e_ast_Stmt v4)), .pv (.sl (List.map e_ast_Stmt v5)), .row 3], oR true 119 3 (List.map e_ast_Arm x2.2)]⟩) (fun (j2 : (List ast_Arm)) => ⟨74, 0, [(0, [xL (List.map e_r02_Stmt a0)]), (3, [xR 0]), (4, [xI x1.1]), (6, [xP 2 0])], [oR true 103 19 (List.map e_ast_Stmt x1.2), none, oB 103 [.pv (.int .i64 v1.Kind), .pv (.str v1.Name), .pv (.str v1.Tag), .pv (.int .i64 v2.Kind), .pv (.int .i64 v2.Num), .pv (.str v2.Name), .pv (.sl (List.map e_ast_Expr v2.Kids)), .pv (.int .i64 v3.Op), .pv (.int .i64 v3.L.Kind), .pv (.int .i64 v3.L.Num), .pv (.str v3.L.Name), .pv (.sl (List.map e_ast_Expr v3.L.Kids)), .pv (.int .i64 v3.R.Kind), .pv (.int .i64 v3.R.Num), .pv (.str v3.R.Name), .pv (.sl (List.map e_ast_Expr v3.R.Kids)), .pv (.sl (List.map e_ast_Stmt v4)), .pv (.sl (List.map e_ast_Stmt v5)), .row 3], oR true 119 3 (List.map e_ast_Arm j2)]⟩) R_l02_Stmts (0, []) (fun _ => ⟨_, _, _, _, rfl⟩) h (by kernel_rfl) (fun x2 o h => ?_) (fun r' h => ?_) (fun j2 h => ?_)
      · unfold l02_Stmts_l2 at h
        refine adv (ok X) 3 [.i (v1.Arms.length : Int)] (pA (lm e_r02_Arm v1.Arms) pT) (by kernel_rfl) ?_
        rcases iteE h with ⟨k7, h⟩ | ⟨k7, h⟩
        · obtain ⟨v6, k8, h⟩ := bindE h
          obtain ⟨v7, k9, h⟩ := bindE h
          obtain ⟨v8, k10, h⟩ := bindE h
          obtain rfl := retE h
          exact fin (ok X) 7 [.b true, .o [0, 1, 2, 3, 4, 5, 6, 7, 8, 9, 10, 11, 12, 13, 14, 15, 16, 17, 18, 19, 20, 21, 22, 23, 24, 25], .e (f_r02_Arm v6), .e (f_r02_Arm v6), .e (f_r02_Arm v6), .c (r_l02_Stmts v7), .bl (List.map e_ast_Arm [(ast_Arm.mk v6.Tag v6.Var v7)]), .l (List.map e_ast_Arm v8)] (pA k7 (pA (ixr e_r02_Arm_eq k8) (pA (ixr e_r02_Arm_eq k8) (pA (ixr e_r02_Arm_eq k8) (pA (ih_l02_Stmts _ _ k9) (pA (blc (e := e_ast_Arm) (x := (ast_Arm.mk v6.Tag v6.Var v7)) (e_ast_Arm_eq _).symm (bl0 e_ast_Arm)) (pA (apm (L := x2.2) (M := [(ast_Arm.mk v6.Tag v6.Var v7)]) e_ast_Arm_len k10) pT))))))) (by kernel_rfl)
        · obtain rfl := retE h
          exact fin (ok X) 2 [.b false] (pA k7 pT) (by kernel_rfl)
      · cases h
      · obtain ⟨v9, k11, h⟩ := bindE h
        obtain rfl := retE h
        exact fin (ok X) 3 [.z (.fz 3), .bl (List.map e_ast_Stmt [(ast_Stmt.mk v1.Kind v1.Name v1.Tag v2 v3 v4 v5 j2)]), .l (List.map e_ast_Stmt v9)] (pA (blc (e := e_ast_Stmt) (x := (ast_Stmt.mk v1.Kind v1.Name v1.Tag v2 v3 v4 v5 j2)) (e_ast_Stmt_eq _).symm (bl0 e_ast_Stmt)) (pA (apm (L := x1.2) (M := [(ast_Stmt.mk v1.Kind v1.Name v1.Tag v2 v3 v4 v5 j2)]) e_ast_Stmt_len k11) pT)) (by kernel_rfl)
    · obtain rfl := retE h
      exact fin (ok X) 2 [.b false] (pA k1 pT) (by kernel_rfl)
  · cases h
  · obtain rfl := retE h
    exact fin (ok X) 3 [] pT (by kernel_rfl)

theorem all_l02_Stmts : ∀ n : Nat, (∀ (a0 : (List r02_Stmt)) (r : (List ast_Stmt)), l02_StmtsN n a0 = some r → Cv Tryz.prog (GX X) 14 [xL (List.map e_r02_Stmt a0)] (r_l02_Stmts r))
  | 0 => (fun _ _ h => by rw [l02_StmtsN] at h; cases h)
  | n + 1 => by
    have ih := all_l02_Stmts n
    exact s_l02_Stmts ih

theorem m_l02_Stmts {a0 : (List r02_Stmt)} {r : (List ast_Stmt)} (h : l02_Stmts a0 = some r) : Cv Tryz.prog (GX X) 14 [xL (List.map e_r02_Stmt a0)] (r_l02_Stmts r) := by
  obtain ⟨n, hn⟩ := unfE h
  exact (all_l02_Stmts n) _ _ hn

theorem m_l02_System {a0 : r02_System} {r : ast_System} (h : l02_System a0 = some r) : Cv Tryz.prog (GX X) 6 [.agg (bs (e_r02_System a0))] (r_l02_System r) := by
  refine Cs.toV (?_ : Cs Tryz.prog (GX X) 6 [.agg (bs (e_r02_System a0))] [] (r_l02_System r) (o_l02_System r)) (by kernel_rfl)
  refine fnT (cx := cx X) Tryz.f6 Tryz.call6 Tryz.func6 (by kernel_rfl) ?_
  unfold l02_System at h
  refine adv (ok X) 7 [] pT (by kernel_rfl) ?_
  refine lp (ok X) (l02_System_l1 a0) (fun (x1 : (Int × (List ast_Chan))) => ⟨124, 0, [(1, [xP 0 0]), (2, [xP 1 0]), (3, [xP 2 0]), (4, [xI x1.1])], [oB 38 (bs (e_r02_System a0)), oB 46 [.emp, .emp, .emp], oB 46 [.row 3, .emp, .emp], oR true 59 6 (List.map e_ast_Chan x1.2)]⟩) (fun (j1 : (List ast_Chan)) => ⟨124, 0, [(1, [xP 0 0]), (2, [xP 1 0]), (3, [xP 2 0])], [oB 38 (bs (e_r02_System a0)), oB 46 [.emp, .emp, .emp], oB 46 [.row 3, .emp, .emp], oR true 59 6 (List.map e_ast_Chan j1)]⟩) R_l02_System (0, []) (fun _ => ⟨_, _, _, _, rfl⟩) h (by kernel_rfl) (fun x1 o h => ?_) (fun r' h => ?_) (fun j1 h => ?_)
  · unfold l02_System_l1 at h
    refine adv (ok X) 3 [.i (a0.Chans.length : Int)] (pA (lm e_r02_Chan a0.Chans) pT) (by kernel_rfl) ?_
    rcases iteE h with ⟨k1, h⟩ | ⟨k1, h⟩
    · obtain ⟨v1, k2, h⟩ := bindE h
      obtain ⟨v2, k3, h⟩ := bindE h
      obtain ⟨v3, k4, h⟩ := bindE h
      obtain rfl := retE h
      exact fin (ok X) 9 [.b true, .e (e_r02_Chan v1), .o [0, 1, 2, 3, 4, 5, 6, 7, 8, 9, 10, 11, 12, 13, 14, 15, 16, 17, 18, 19, 20], .cp (List.map e_str v2), .l (List.map e_ast_Chan v3)] (pA k1 (pA (ixm e_r02_Chan k2) (pA (apm e_str_len k3) (pA (apm (L := x1.2) (M := [(ast_Chan.mk v1.Name v1.Kind v1.Size v1.From v1.To v2)]) e_ast_Chan_len k4) pT)))) (by kernel_rfl)
    · obtain rfl := retE h
      exact fin (ok X) 2 [.b false] (pA k1 pT) (by kernel_rfl)
  · cases h
  · refine adv (ok X) 3 [] pT (by kernel_rfl) ?_
    refine lp (ok X) (l02_System_l2 a0) (fun (x2 : (Int × (List ast_Rule))) => ⟨124, 0, [(1, [xP 0 0]), (2, [xP 1 0]), (3, [xP 2 0]), (6, [xI x2.1])], [oB 38 (bs (e_r02_System a0)), oB 46 [.emp, .emp, .emp], oB 46 [.row 3, .row 4, .emp], oR true 59 6 (List.map e_ast_Chan j1), oR true 63 2 (List.map e_ast_Rule x2.2)]⟩) (fun (j2 : (List ast_Rule)) => ⟨124, 0, [(1, [xP 0 0]), (2, [xP 1 0]), (3, [xP 2 0])], [oB 38 (bs (e_r02_System a0)), oB 46 [.emp, .emp, .emp], oB 46 [.row 3, .row 4, .emp], oR true 59 6 (List.map e_ast_Chan j1), oR true 63 2 (List.map e_ast_Rule j2)]⟩) R_l02_System (0, []) (fun _ => ⟨_, _, _, _, rfl⟩) h (by kernel_rfl) (fun x2 o h => ?_) (fun r' h => ?_) (fun j2 h => ?_)
    · unfold l02_System_l2 at h
      refine adv (ok X) 3 [.i (a0.Rules.length : Int)] (pA (lm e_r02_Rule a0.Rules) pT) (by kernel_rfl) ?_
      rcases iteE h with ⟨k5, h⟩ | ⟨k5, h⟩
      · obtain ⟨v4, k6, h⟩ := bindE h
        refine adv (ok X) 9 [.b true, .e (e_r02_Rule v4)] (pA k5 (pA (ixm e_r02_Rule k6) pT)) (by kernel_rfl) ?_
        refine lp (ok X) (l02_System_l3 a0 x2) (fun (x3 : (Int × (List ast_Move))) => ⟨124, 0, [(1, [xP 0 0]), (2, [xP 1 0]), (3, [xP 2 0]), (6, [xI x2.1]), (7, [xP 5 0]), (8, [xI x3.1])], [oB 38 (bs (e_r02_System a0)), oB 46 [.emp, .emp, .emp], oB 46 [.row 3, .row 4, .emp], oR true 59 6 (List.map e_ast_Chan j1), oR true 63 2 (List.map e_ast_Rule x2.2), oB 63 [.pv (.str v4.Chan), .row 6], oR true 75 3 (List.map e_ast_Move x3.2)]⟩) (fun (j3 : (List ast_Move)) => ⟨124, 0, [(1, [xP 0 0]), (2, [xP 1 0]), (3, [xP 2 0]), (6, [xI x2.1]), (7, [xP 5 0])], [oB 38 (bs (e_r02_System a0)), oB 46 [.emp, .emp, .emp], oB 46 [.row 3, .row 4, .emp], oR true 59 6 (List.map e_ast_Chan j1), oR true 63 2 (List.map e_ast_Rule x2.2), oB 63 [.pv (.str v4.Chan), .row 6], oR true 75 3 (List.map e_ast_Move j3)]⟩) R_l02_System (0, []) (fun _ => ⟨_, _, _, _, rfl⟩) h (by kernel_rfl) (fun x3 o h => ?_) (fun r' h => ?_) (fun j3 h => ?_)
        · unfold l02_System_l3 at h
          obtain ⟨v5, k7, h⟩ := bindE h
          refine adv (ok X) 3 [.e (e_r02_Rule v5), .i (v5.Moves.length : Int)] (pA (ixm e_r02_Rule k7) (pA (lm e_r02_Move v5.Moves) pT)) (by kernel_rfl) ?_
          rcases iteE h with ⟨k8, h⟩ | ⟨k8, h⟩
          · obtain ⟨v6, k9, h⟩ := bindE h
            obtain ⟨v7, k10, h⟩ := bindE h
            obtain ⟨v8, k11, h⟩ := bindE h
            obtain rfl := retE h
            exact fin (ok X) 9 [.b true, .e (e_r02_Rule v6), .e (e_r02_Move v7), .l (List.map e_ast_Move v8)] (pA k8 (pA (ixm e_r02_Rule k9) (pA (ixm e_r02_Move k10) (pA (apm (L := x3.2) (M := [(ast_Move.mk v7.From v7.Tag v7.To)]) e_ast_Move_len k11) pT)))) (by kernel_rfl)
          · obtain rfl := retE h
            exact fin (ok X) 2 [.b false] (pA k8 pT) (by kernel_rfl)
        · cases h
        · obtain ⟨v9, k12, h⟩ := bindE h
          obtain rfl := retE h
          exact fin (ok X) 3 [.z (.fz 6), .l (List.map e_ast_Rule v9)] (pA (apm (L := x2.2) (M := [(ast_Rule.mk v4.Chan j3)]) e_ast_Rule_len k12) pT) (by kernel_rfl)
      · obtain rfl := retE h
        exact fin (ok X) 2 [.b false] (pA k5 pT) (by kernel_rfl)
    · cases h
    · refine adv (ok X) 3 [] pT (by kernel_rfl) ?_
      refine lp (ok X) (l02_System_l4 a0) (fun (x4 : (Int × (List ast_Proc))) => ⟨124, 0, [(1, [xP 0 0]), (2, [xP 1 0]), (3, [xP 2 0]), (10, [xI x4.1])], [oB 38 (bs (e_r02_System a0)), oB 46 [.emp, .emp, .emp], oB 46 [.row 3, .row 4, .row 5], oR true 59 6 (List.map e_ast_Chan j1), oR true 63 2 (List.map e_ast_Rule j2), oR true 67 3 (List.map e_ast_Proc x4.2)]⟩) (fun (j4 : (List ast_Proc)) => ⟨124, 0, [(2, [xP 1 0]), (3, [xP 2 0])], [none, oB 46 [.emp, .emp, .emp], oB 46 [.row 3, .row 4, .row 5], oR true 59 6 (List.map e_ast_Chan j1), oR true 63 2 (List.map e_ast_Rule j2), oR true 67 3 (List.map e_ast_Proc j4)]⟩) R_l02_System (0, []) (fun _ => ⟨_, _, _, _, rfl⟩) h (by kernel_rfl) (fun x4 o h => ?_) (fun r' h => ?_) (fun j4 h => ?_)
      · unfold l02_System_l4 at h
        refine adv (ok X) 3 [.i (a0.Procs.length : Int)] (pA (lm e_r02_Proc a0.Procs) pT) (by kernel_rfl) ?_
        rcases iteE h with ⟨k13, h⟩ | ⟨k13, h⟩
        · obtain ⟨v10, k14, h⟩ := bindE h
          obtain ⟨v11, k15, h⟩ := bindE h
          obtain ⟨v12, k16, h⟩ := bindE h
          obtain ⟨v13, k17, h⟩ := bindE h
          obtain rfl := retE h
          exact fin (ok X) 9 [.b true, .e (e_r02_Proc v10), .o [0, 1, 2, 3, 4, 5, 6, 7, 8, 9, 10, 11, 12, 13, 14, 15], .cp (List.map e_str v11), .c (r_l02_Stmts v12), .l (List.map e_ast_Proc v13)] (pA k13 (pA (ixm e_r02_Proc k14) (pA (apm e_str_len k15) (pA (m_l02_Stmts (X := X) k16) (pA (apm (L := x4.2) (M := [(ast_Proc.mk v10.Name v11 v12)]) e_ast_Proc_len k17) pT))))) (by kernel_rfl)
        · obtain rfl := retE h
          exact fin (ok X) 2 [.b false] (pA k13 pT) (by kernel_rfl)
      · cases h
      · obtain rfl := retE h
        exact fin (ok X) 3 [] pT (by kernel_rfl)

theorem m_ast_writer_put {a0 : ast_writer} {a1 : (List ByteArray)} {r : ast_writer} (h : ast_writer_put a0 a1 = some r) : Cs Tryz.prog (GX X) 31 [xP 0 0, xL (List.map e_str a1)] [oB 57 [.row 1, .pv (.bool a0.f_form), .pv (.bool a0.f_deep), .pv (.int .i64 a0.f_blocks), .pv (.int .i64 a0.f_parens)], oR false 9 1 (List.map e_str a0.f_out)] (r_ast_writer_put r) (o_ast_writer_put r) := by
  refine fnT (cx := cx X) Tryz.f31 Tryz.call31 Tryz.func31 (by kernel_rfl) ?_
  unfold ast_writer_put at h
  obtain ⟨v1, k1, h⟩ := bindE h
  obtain rfl := retE h
  exact fin (ok X) 1 [.l (List.map e_str v1)] (pA (apm (L := a0.f_out) (M := a1) e_str_len k1) pT) (by kernel_rfl)

theorem m_lex_letter {a0 : Int} {r : Bool} (h : lex_letter a0 = some r) : Cv Tryz.prog (GX X) 72 [.c (.pv (.int .u8 a0))] (r_lex_letter r) := by
  refine Cs.toV (?_ : Cs Tryz.prog (GX X) 72 [.c (.pv (.int .u8 a0))] [] (r_lex_letter r) (o_lex_letter r)) (by kernel_rfl)
  refine fnT (cx := cx X) Tryz.f72 Tryz.call72 Tryz.func72 (by kernel_rfl) ?_
  unfold lex_letter at h
  rcases iteE h with ⟨k1, h⟩ | ⟨k1, h⟩
  · obtain rfl := retE h
    exact fin (ok X) 5 [.b true, .b true, .b true] (pA k1 (pA k1 (pA k1 pT))) (by kernel_rfl)
  · obtain rfl := retE h
    exact fin (ok X) 5 [.b false, .b false, .b false] (pA k1 (pA k1 (pA k1 pT))) (by kernel_rfl)

theorem m_lex_digit {a0 : Int} {r : Bool} (h : lex_digit a0 = some r) : Cv Tryz.prog (GX X) 75 [.c (.pv (.int .u8 a0))] (r_lex_digit r) := by
  refine Cs.toV (?_ : Cs Tryz.prog (GX X) 75 [.c (.pv (.int .u8 a0))] [] (r_lex_digit r) (o_lex_digit r)) (by kernel_rfl)
  refine fnT (cx := cx X) Tryz.f75 Tryz.call75 Tryz.func75 (by kernel_rfl) ?_
  unfold lex_digit at h
  rcases iteE h with ⟨k1, h⟩ | ⟨k1, h⟩
  · obtain rfl := retE h
    exact fin (ok X) 5 [.b true, .b true, .b true] (pA k1 (pA k1 (pA k1 pT))) (by kernel_rfl)
  · obtain rfl := retE h
    exact fin (ok X) 5 [.b false, .b false, .b false] (pA k1 (pA k1 (pA k1 pT))) (by kernel_rfl)

theorem m_lex_run {a0 : ByteArray} {r : Int} (h : lex_run a0 = some r) : Cv Tryz.prog (GX X) 74 [xS a0] (r_lex_run r) := by
  refine Cs.toV (?_ : Cs Tryz.prog (GX X) 74 [xS a0] [] (r_lex_run r) (o_lex_run r)) (by kernel_rfl)
  refine fnT (cx := cx X) Tryz.f74 Tryz.call74 Tryz.func74 (by kernel_rfl) ?_
  unfold lex_run at h
  refine adv (ok X) 5 [] pT (by kernel_rfl) ?_
  refine lp (ok X) (lex_run_l1 a0) (fun (x1 : Int) => ⟨23, 0, [(0, [xS a0]), (3, [xI x1])], []⟩) (fun (j1 : Int) => ⟨23, 0, [(3, [xI j1])], []⟩) R_lex_run 0 (fun _ => ⟨_, _, _, _, rfl⟩) h (by kernel_rfl) (fun x1 o h => ?_) (fun r' h => ?_) (fun j1 h => ?_)
  · unfold lex_run_l1 at h
    refine adv (ok X) 2 [] pT (by kernel_rfl) ?_
    refine jn (ok X) 1 (fun (j2 : Bool) => ⟨23, 0, [(0, [xS a0]), (3, [xI x1]), (19, [xB j2])], []⟩) h (fun j2 h => ?_) (fun j2 h => ?_)
    · rcases iteE h with ⟨k1, h⟩ | ⟨k1, h⟩
      · obtain ⟨v1, k2, h⟩ := bindE h
        obtain ⟨v2, k3, h⟩ := bindE h
        rcases iteE h with ⟨k4, h⟩ | ⟨k4, h⟩
        · obtain rfl := retE h
          exact fin (ok X) 1 [.b true, .b true, .b true, .i v1, .b true, .c (r_lex_letter v2), .b true, .b true, .b true, .b true, .b true, .b true, .b true, .b true] (pA k1 (pA k1 (pA k1 (pA k2 (pA k1 (pA (m_lex_letter (X := X) k3) (pA k1 (pA k4 (pA k4 (pA k4 (pA k4 (pA k1 (pA k4 (pA k1 pT)))))))))))))) (by kernel_rfl)
        · obtain ⟨v3, k5, h⟩ := bindE h
          obtain ⟨v4, k6, h⟩ := bindE h
          obtain rfl := retE h
          exact fin (ok X) 1 [.b true, .b true, .b true, .i v1, .b true, .c (r_lex_letter v2), .b true, .b false, .b false, .b false, .i v3, .b false, .c (r_lex_digit v4), .b true, .b false, .b true] (pA k1 (pA k1 (pA k1 (pA k2 (pA k1 (pA (m_lex_letter (X := X) k3) (pA k1 (pA k4 (pA k4 (pA k4 (pA k5 (pA k4 (pA (m_lex_digit (X := X) k6) (pA k1 (pA k4 (pA k1 pT)))))))))))))))) (by kernel_rfl)
      · obtain rfl := retE h
        exact fin (ok X) 1 [.b false, .b false, .b false, .b false, .b false, .b false, .b false] (pA k1 (pA k1 (pA k1 (pA k1 (pA k1 (pA k1 (pA k1 pT))))))) (by kernel_rfl)
    · rcases iteE h with ⟨k7, h⟩ | ⟨k7, h⟩
      · obtain rfl := retE h
        exact fin (ok X) 5 [.b true] (pA k7 pT) (by kernel_rfl)
      · obtain rfl := retE h
        exact fin (ok X) 2 [.b false] (pA k7 pT) (by kernel_rfl)
  · cases h
  · obtain rfl := retE h
    exact fin (ok X) 3 [] pT (by kernel_rfl)

theorem m_lex_Reserved {a0 : ByteArray} {r : Bool} (h : lex_Reserved a0 = some r) : Cv Tryz.prog (GX X) 86 [xS a0] (r_lex_Reserved r) := by
  refine Cs.toV (?_ : Cs Tryz.prog (GX X) 86 [xS a0] [] (r_lex_Reserved r) (o_lex_Reserved r)) (by kernel_rfl)
  refine fnT (cx := cx X) Tryz.f86 Tryz.call86 Tryz.func86 (by kernel_rfl) ?_
  unfold lex_Reserved at h
  rcases iteE h with ⟨k1, h⟩ | ⟨k1, h⟩
  · obtain rfl := retE h
    exact fin (ok X) 15 [.b true, .b true] (pA k1 (pA k1 pT)) (by kernel_rfl)
  · refine adv (ok X) 12 [.b false] (pA k1 pT) (by kernel_rfl) ?_
    rcases iteE h with ⟨k2, h⟩ | ⟨k2, h⟩
    · obtain rfl := retE h
      exact fin (ok X) 6 [.b true, .b true] (pA k2 (pA k2 pT)) (by kernel_rfl)
    · refine adv (ok X) 3 [.b false] (pA k2 pT) (by kernel_rfl) ?_
      rcases iteE h with ⟨k3, h⟩ | ⟨k3, h⟩
      · obtain rfl := retE h
        exact fin (ok X) 6 [.b true, .b true] (pA k3 (pA k3 pT)) (by kernel_rfl)
      · refine adv (ok X) 3 [.b false] (pA k3 pT) (by kernel_rfl) ?_
        rcases iteE h with ⟨k4, h⟩ | ⟨k4, h⟩
        · obtain rfl := retE h
          exact fin (ok X) 6 [.b true, .b true] (pA k4 (pA k4 pT)) (by kernel_rfl)
        · refine adv (ok X) 3 [.b false] (pA k4 pT) (by kernel_rfl) ?_
          rcases iteE h with ⟨k5, h⟩ | ⟨k5, h⟩
          · obtain rfl := retE h
            exact fin (ok X) 6 [.b true, .b true] (pA k5 (pA k5 pT)) (by kernel_rfl)
          · refine adv (ok X) 3 [.b false] (pA k5 pT) (by kernel_rfl) ?_
            rcases iteE h with ⟨k6, h⟩ | ⟨k6, h⟩
            · obtain rfl := retE h
              exact fin (ok X) 6 [.b true, .b true] (pA k6 (pA k6 pT)) (by kernel_rfl)
            · refine adv (ok X) 3 [.b false] (pA k6 pT) (by kernel_rfl) ?_
              rcases iteE h with ⟨k7, h⟩ | ⟨k7, h⟩
              · obtain rfl := retE h
                exact fin (ok X) 6 [.b true, .b true] (pA k7 (pA k7 pT)) (by kernel_rfl)
              · refine adv (ok X) 2 [.b false] (pA k7 pT) (by kernel_rfl) ?_
                rcases iteE h with ⟨k8, h⟩ | ⟨k8, h⟩
                · obtain rfl := retE h
                  exact fin (ok X) 4 [.b true] (pA k8 pT) (by kernel_rfl)
                · refine adv (ok X) 4 [.b false] (pA k8 pT) (by kernel_rfl) ?_
                  rcases iteE h with ⟨k9, h⟩ | ⟨k9, h⟩
                  · obtain rfl := retE h
                    exact fin (ok X) 6 [.b true, .b true] (pA k9 (pA k9 pT)) (by kernel_rfl)
                  · refine adv (ok X) 3 [.b false] (pA k9 pT) (by kernel_rfl) ?_
                    rcases iteE h with ⟨k10, h⟩ | ⟨k10, h⟩
                    · obtain rfl := retE h
                      exact fin (ok X) 6 [.b true, .b true] (pA k10 (pA k10 pT)) (by kernel_rfl)
                    · refine adv (ok X) 3 [.b false] (pA k10 pT) (by kernel_rfl) ?_
                      rcases iteE h with ⟨k11, h⟩ | ⟨k11, h⟩
                      · obtain rfl := retE h
                        exact fin (ok X) 6 [.b true, .b true] (pA k11 (pA k11 pT)) (by kernel_rfl)
                      · refine adv (ok X) 3 [.b false] (pA k11 pT) (by kernel_rfl) ?_
                        rcases iteE h with ⟨k12, h⟩ | ⟨k12, h⟩
                        · obtain rfl := retE h
                          exact fin (ok X) 6 [.b true, .b true] (pA k12 (pA k12 pT)) (by kernel_rfl)
                        · refine adv (ok X) 3 [.b false] (pA k12 pT) (by kernel_rfl) ?_
                          rcases iteE h with ⟨k13, h⟩ | ⟨k13, h⟩
                          · obtain rfl := retE h
                            exact fin (ok X) 6 [.b true, .b true] (pA k13 (pA k13 pT)) (by kernel_rfl)
                          · refine adv (ok X) 3 [.b false] (pA k13 pT) (by kernel_rfl) ?_
                            rcases iteE h with ⟨k14, h⟩ | ⟨k14, h⟩
                            · obtain rfl := retE h
                              exact fin (ok X) 6 [.b true, .b true] (pA k14 (pA k14 pT)) (by kernel_rfl)
                            · refine adv (ok X) 3 [.b false] (pA k14 pT) (by kernel_rfl) ?_
                              rcases iteE h with ⟨k15, h⟩ | ⟨k15, h⟩
                              · obtain rfl := retE h
                                exact fin (ok X) 6 [.b true, .b true] (pA k15 (pA k15 pT)) (by kernel_rfl)
                              · refine adv (ok X) 2 [.b false] (pA k15 pT) (by kernel_rfl) ?_
                                rcases iteE h with ⟨k16, h⟩ | ⟨k16, h⟩
                                · obtain rfl := retE h
                                  exact fin (ok X) 4 [.b true] (pA k16 pT) (by kernel_rfl)
                                · obtain rfl := retE h
                                  exact fin (ok X) 6 [.b false] (pA k16 pT) (by kernel_rfl)

theorem m_lex_named {a0 : ByteArray} {r : (lex_Token × Int)} (h : lex_named a0 = some r) : Cv Tryz.prog (GX X) 73 [xS a0] (r_lex_named r) := by
  refine Cs.toV (?_ : Cs Tryz.prog (GX X) 73 [xS a0] [] (r_lex_named r) (o_lex_named r)) (by kernel_rfl)
  refine fnT (cx := cx X) Tryz.f73 Tryz.call73 Tryz.func73 (by kernel_rfl) ?_
  unfold lex_named at h
  rcases iteE h with ⟨k1, h⟩ | ⟨k1, h⟩
  · obtain rfl := retE h
    exact fin (ok X) 10 [.b true] (pA k1 pT) (by kernel_rfl)
  · obtain ⟨v1, k2, h⟩ := bindE h
    refine adv (ok X) 9 [.b false, .c (r_lex_Reserved v1)] (pA k1 (pA (m_lex_Reserved (X := X) k2) pT)) (by kernel_rfl) ?_
    rcases iteE h with ⟨k3, h⟩ | ⟨k3, h⟩
    · obtain rfl := retE h
      exact fin (ok X) 4 [.b true] (pA k3 pT) (by kernel_rfl)
    · obtain rfl := retE h
      exact fin (ok X) 6 [.b false] (pA k3 pT) (by kernel_rfl)

theorem m_lex_sign {a0 : ByteArray} {r : Int} (h : lex_sign a0 = some r) : Cv Tryz.prog (GX X) 77 [xS a0] (r_lex_sign r) := by
  refine Cs.toV (?_ : Cs Tryz.prog (GX X) 77 [xS a0] [] (r_lex_sign r) (o_lex_sign r)) (by kernel_rfl)
  refine fnT (cx := cx X) Tryz.f77 Tryz.call77 Tryz.func77 (by kernel_rfl) ?_
  unfold lex_sign at h
  refine adv (ok X) 4 [] pT (by kernel_rfl) ?_
  refine jn (ok X) 1 (fun (j1 : Bool) => ⟨21, 0, [(0, [xS a0]), (16, [xB j1])], []⟩) h (fun j1 h => ?_) (fun j1 h => ?_)
  · rcases iteE h with ⟨k1, h⟩ | ⟨k1, h⟩
    · obtain ⟨v1, k2, h⟩ := bindE h
      rcases iteE h with ⟨k3, h⟩ | ⟨k3, h⟩
      · obtain ⟨v2, k4, h⟩ := bindE h
        obtain ⟨v3, k5, h⟩ := bindE h
        obtain rfl := retE h
        exact fin (ok X) 1 [.b true, .b true, .i v1, .b true, .b true, .b true, .b true, .i v2, .b true, .c (r_ibyte v3), .b true, .b true] (pA k1 (pA k1 (pA k2 (pA k1 (pA k1 (pA k3 (pA k3 (pA k4 (pA k3 (pA (m_ibyte (X := X) k5) (pA k3 (pA k3 pT)))))))))))) (by kernel_rfl)
      · obtain rfl := retE h
        exact fin (ok X) 1 [.b true, .b true, .i v1, .b true, .b true, .b false, .b false, .b false, .b false, .b false] (pA k1 (pA k1 (pA k2 (pA k1 (pA k1 (pA k3 (pA k3 (pA k3 (pA k3 (pA k3 pT)))))))))) (by kernel_rfl)
    · obtain rfl := retE h
      exact fin (ok X) 1 [.b false, .b false, .b false, .b false, .b false, .b false, .b false, .b false, .b false] (pA k1 (pA k1 (pA k1 (pA k1 (pA ff (pA ff (pA ff (pA ff (pA ff pT))))))))) (by kernel_rfl)
  · rcases iteE h with ⟨k6, h⟩ | ⟨k6, h⟩
    · obtain rfl := retE h
      exact fin (ok X) 4 [.b true] (pA k6 pT) (by kernel_rfl)
    · obtain ⟨v4, k7, h⟩ := bindE h
      obtain ⟨v5, k8, h⟩ := bindE h
      refine adv (ok X) 5 [.b false, .i v4, .c (r_ibyte v5)] (pA k6 (pA k7 (pA (m_ibyte (X := X) k8) pT))) (by kernel_rfl) ?_
      rcases iteE h with ⟨k9, h⟩ | ⟨k9, h⟩
      · obtain rfl := retE h
        exact fin (ok X) 4 [.b true] (pA k9 pT) (by kernel_rfl)
      · obtain rfl := retE h
        exact fin (ok X) 5 [.b false] (pA k9 pT) (by kernel_rfl)

theorem m_lex_word {a0 : ByteArray} {r : (lex_Token × Int)} (h : lex_word a0 = some r) : Cv Tryz.prog (GX X) 62 [xS a0] (r_lex_word r) := by
  refine Cs.toV (?_ : Cs Tryz.prog (GX X) 62 [xS a0] [] (r_lex_word r) (o_lex_word r)) (by kernel_rfl)
  refine fnT (cx := cx X) Tryz.f62 Tryz.call62 Tryz.func62 (by kernel_rfl) ?_
  unfold lex_word at h
  obtain ⟨v1, k1, h⟩ := bindE h
  obtain ⟨v2, k2, h⟩ := bindE h
  refine adv (ok X) 6 [.i v1, .c (r_lex_letter v2)] (pA k1 (pA (m_lex_letter (X := X) k2) pT)) (by kernel_rfl) ?_
  rcases iteE h with ⟨k3, h⟩ | ⟨k3, h⟩
  · obtain ⟨v3, k4, h⟩ := bindE h
    obtain ⟨v4, k5, h⟩ := bindE h
    obtain ⟨v5, k6, h⟩ := bindE h
    obtain rfl := retE h
    exact fin (ok X) 4 [.b true, .c (r_lex_run v3), .x [xS v4], .c (r_lex_named v5)] (pA k3 (pA (m_lex_run (X := X) k4) (pA k5 (pA (m_lex_named (X := X) k6) pT)))) (by kernel_rfl)
  · obtain ⟨v6, k7, h⟩ := bindE h
    obtain ⟨v7, k8, h⟩ := bindE h
    refine adv (ok X) 3 [.b false, .i v6, .c (r_lex_digit v7)] (pA k3 (pA k7 (pA (m_lex_digit (X := X) k8) pT))) (by kernel_rfl) ?_
    rcases iteE h with ⟨k9, h⟩ | ⟨k9, h⟩
    · obtain ⟨v8, k10, h⟩ := bindE h
      obtain ⟨v9, k11, h⟩ := bindE h
      obtain ⟨v10, k12, h⟩ := bindE h
      obtain rfl := retE h
      exact fin (ok X) 8 [.b true, .c (r_lex_run v8), .x [xS v9], .c (r_lexnum v10)] (pA k9 (pA (m_lex_run (X := X) k10) (pA k11 (pA (m_lexnum (X := X) k12) pT)))) (by kernel_rfl)
    · obtain ⟨v11, k13, h⟩ := bindE h
      refine adv (ok X) 8 [.b false, .c (r_lex_sign v11)] (pA k9 (pA (m_lex_sign (X := X) k13) pT)) (by kernel_rfl) ?_
      rcases iteE h with ⟨k14, h⟩ | ⟨k14, h⟩
      · obtain rfl := retE h
        exact fin (ok X) 4 [.b true] (pA k14 pT) (by kernel_rfl)
      · obtain ⟨v12, k15, h⟩ := bindE h
        obtain rfl := retE h
        exact fin (ok X) 5 [.b false, .x [xS v12]] (pA k14 (pA k15 pT)) (by kernel_rfl)

theorem m_lex_Lex {a0 : ByteArray} {r : ((List lex_Token) × Int × Int)} (h : lex_Lex a0 = some r) : Cv Tryz.prog (GX X) 50 [xS a0] (r_lex_Lex r) := by
  refine Cs.toV (?_ : Cs Tryz.prog (GX X) 50 [xS a0] [] (r_lex_Lex r) (o_lex_Lex r)) (by kernel_rfl)
  refine fnT (cx := cx X) Tryz.f50 Tryz.call50 Tryz.func50 (by kernel_rfl) ?_
  unfold lex_Lex at h
  refine adv (ok X) 7 [] pT (by kernel_rfl) ?_
  refine lp (ok X) (lex_Lex_l1 a0) (fun (x1 : (Int × (List lex_Token))) => ⟨53, 0, [(0, [xS a0]), (5, [xR 0]), (6, [xI x1.1])], [oR true 136 4 (List.map e_lex_Token x1.2)]⟩) (fun (j1 : (List lex_Token)) => ⟨53, 0, [(0, [xS a0]), (5, [xR 0])], [oR true 136 4 (List.map e_lex_Token j1)]⟩) R_lex_Lex (0, []) (fun _ => ⟨_, _, _, _, rfl⟩) h (by kernel_rfl) (fun x1 o h => ?_) (fun r' h => ?_) (fun j1 h => ?_)
  · unfold lex_Lex_l1 at h
    rcases iteE h with ⟨k1, h⟩ | ⟨k1, h⟩
    · refine adv (ok X) 8 [.b true] (pA k1 pT) (by kernel_rfl) ?_
      refine jn (ok X) 1 (fun (j2 : Bool) => ⟨53, 0, [(0, [xS a0]), (5, [xR 0]), (6, [xI x1.1]), (22, [xB j2])], [oR true 136 4 (List.map e_lex_Token x1.2)]⟩) h (fun j2 h => ?_) (fun j2 h => ?_)
      · obtain ⟨v1, k2, h⟩ := bindE h
        rcases iteE h with ⟨k3, h⟩ | ⟨k3, h⟩
        · obtain rfl := retE h
          exact fin (ok X) 1 [.i v1, .b true, .b true, .b true, .b true, .b true] (pA k2 (pA k3 (pA k3 (pA k3 (pA k3 (pA k3 pT)))))) (by kernel_rfl)
        · obtain ⟨v2, k4, h⟩ := bindE h
          obtain rfl := retE h
          exact fin (ok X) 1 [.i v1, .b false, .b false, .b false, .i v2, .b false, .b false] (pA k2 (pA k3 (pA k3 (pA k3 (pA k4 (pA k3 (pA k3 pT))))))) (by kernel_rfl)
      · rcases iteE h with ⟨k5, h⟩ | ⟨k5, h⟩
        · obtain rfl := retE h
          exact fin (ok X) 4 [.b true] (pA k5 pT) (by kernel_rfl)
        · obtain ⟨v3, k6, h⟩ := bindE h
          obtain ⟨v4, k7, h⟩ := bindE h
          refine adv (ok X) 7 [.b false, .x [xS v3], .c (r_lex_word v4)] (pA k5 (pA k6 (pA (m_lex_word (X := X) k7) pT))) (by kernel_rfl) ?_
          rcases iteE h with ⟨k8, h⟩ | ⟨k8, h⟩
          · obtain rfl := retE h
            exact fin (ok X) 4 [.b true] (pA k8 pT) (by kernel_rfl)
          · obtain ⟨v5, k9, h⟩ := bindE h
            obtain rfl := retE h
            exact fin (ok X) 8 [.b false, .l (List.map e_lex_Token v5)] (pA k8 (pA (apm (L := x1.2) (M := [(lex_Token.mk v4.1.Kind v4.1.Text v4.1.Num x1.1)]) e_lex_Token_len k9) pT)) (by kernel_rfl)
    · obtain rfl := retE h
      exact fin (ok X) 5 [.b false] (pA k1 pT) (by kernel_rfl)
  · obtain rfl := retE h
    kernel_rfl
  · refine adv (ok X) 3 [.i (j1.length : Int)] (pA (lm e_lex_Token j1) pT) (by kernel_rfl) ?_
    rcases iteE h with ⟨k10, h⟩ | ⟨k10, h⟩
    · obtain rfl := retE h
      exact fin (ok X) 4 [.b true] (pA k10 pT) (by kernel_rfl)
    · obtain rfl := retE h
      exact fin (ok X) 5 [.b false] (pA k10 pT) (by kernel_rfl)

theorem m_ast_writer_must {a0 : ast_writer} {a1 : Bool} {r : ast_writer} (h : ast_writer_must a0 a1 = some r) : Cs Tryz.prog (GX X) 33 [xP 0 0, xB a1] [oB 57 [.row 1, .pv (.bool a0.f_form), .pv (.bool a0.f_deep), .pv (.int .i64 a0.f_blocks), .pv (.int .i64 a0.f_parens)], oR false 9 1 (List.map e_str a0.f_out)] (r_ast_writer_must r) (o_ast_writer_must r) := by
  refine fnT (cx := cx X) Tryz.f33 Tryz.call33 Tryz.func33 (by kernel_rfl) ?_
  unfold ast_writer_must at h
  rcases iteE h with ⟨k1, h⟩ | ⟨k1, h⟩
  · obtain rfl := retE h
    exact fin (ok X) 1 [.b true, .b true, .b true] (pA k1 (pA k1 (pA k1 pT))) (by kernel_rfl)
  · obtain rfl := retE h
    exact fin (ok X) 1 [.b false, .b false, .b false] (pA k1 (pA k1 (pA k1 pT))) (by kernel_rfl)

theorem m_ast_writer_name {a0 : ast_writer} {a1 : ByteArray} {r : ast_writer} (h : ast_writer_name a0 a1 = some r) : Cs Tryz.prog (GX X) 32 [xP 0 0, xS a1] [oB 57 [.row 1, .pv (.bool a0.f_form), .pv (.bool a0.f_deep), .pv (.int .i64 a0.f_blocks), .pv (.int .i64 a0.f_parens)], oR false 9 1 (List.map e_str a0.f_out)] (r_ast_writer_name r) (o_ast_writer_name r) := by
  refine fnT (cx := cx X) Tryz.f32 Tryz.call32 Tryz.func32 (by kernel_rfl) ?_
  unfold ast_writer_name at h
  obtain ⟨v1, k1, h⟩ := bindE h
  refine adv (ok X) 3 [.c (r_lex_Lex v1)] (pA (m_lex_Lex (X := X) k1) pT) (by kernel_rfl) ?_
  refine jn (ok X) 1 (fun (j1 : (Bool × Bool × Int × Int × (List ByteArray))) => ⟨41, 2, [(0, [xP 0 0]), (1, [xS a1])], [oB 57 [.row 1, .pv (.bool j1.1), .pv (.bool j1.2.1), .pv (.int .i64 j1.2.2.1), .pv (.int .i64 j1.2.2.2.1)], oR true 9 1 (List.map e_str j1.2.2.2.2)]⟩) h (fun j1 h => ?_) (fun j1 h => ?_)
  · rcases iteE h with ⟨k2, h⟩ | ⟨k2, h⟩
    · rcases iteE h with ⟨k3, h⟩ | ⟨k3, h⟩
      · obtain ⟨v2, k4, h⟩ := bindE h
        rcases iteE h with ⟨k5, h⟩ | ⟨k5, h⟩
        · obtain ⟨v3, k6, h⟩ := bindE h
          obtain ⟨v4, k7, h⟩ := bindE h
          obtain rfl := retE h
          exact fin (ok X) 1 [.b true, .b true, .i (v1.1.length : Int), .b true, .b true, .b true, .b true, .e (e_lex_Token v2), .b true, .b true, .b true, .b true, .b true, .b true, .e (e_lex_Token v3), .b true, .b true, .b true, .b true, .b true, .s (r_ast_writer_must v4) (o_ast_writer_must v4)] (pA k2 (pA k2 (pA (lm e_lex_Token v1.1) (pA k2 (pA k2 (pA k3 (pA k3 (pA (ixm e_lex_Token k4) (pA k3 (pA k3 (pA k3 (pA k3 (pA k5 (pA k5 (pA (ixm e_lex_Token k6) (pA k5 (pA k5 (pA k5 (pA k5 (pA k5 (pA (m_ast_writer_must (X := X) k7) pT))))))))))))))))))))) (by kernel_rfl)
        · obtain ⟨v5, k8, h⟩ := bindE h
          obtain rfl := retE h
          exact fin (ok X) 1 [.b true, .b true, .i (v1.1.length : Int), .b true, .b true, .b true, .b true, .e (e_lex_Token v2), .b true, .b true, .b true, .b true, .b false, .b false, .b false, .b false, .b false, .b false, .b false, .s (r_ast_writer_must v5) (o_ast_writer_must v5)] (pA k2 (pA k2 (pA (lm e_lex_Token v1.1) (pA k2 (pA k2 (pA k3 (pA k3 (pA (ixm e_lex_Token k4) (pA k3 (pA k3 (pA k3 (pA k3 (pA k5 (pA k5 (pA k5 (pA k5 (pA k5 (pA k5 (pA k5 (pA (m_ast_writer_must (X := X) k8) pT)))))))))))))))))))) (by kernel_rfl)
      · obtain ⟨v6, k9, h⟩ := bindE h
        obtain rfl := retE h
        exact fin (ok X) 1 [.b true, .b true, .i (v1.1.length : Int), .b true, .b true, .b false, .b false, .b false, .b false, .b false, .b false, .b false, .b false, .b false, .b false, .b false, .b false, .b false, .s (r_ast_writer_must v6) (o_ast_writer_must v6)] (pA k2 (pA k2 (pA (lm e_lex_Token v1.1) (pA k2 (pA k2 (pA k3 (pA k3 (pA k3 (pA k3 (pA k3 (pA k3 (pA ff (pA ff (pA ff (pA ff (pA ff (pA ff (pA ff (pA (m_ast_writer_must (X := X) k9) pT))))))))))))))))))) (by kernel_rfl)
    · obtain ⟨v7, k10, h⟩ := bindE h
      obtain rfl := retE h
      exact fin (ok X) 1 [.b false, .b false, .b false, .b false, .b false, .b false, .b false, .b false, .b false, .b false, .b false, .b false, .b false, .b false, .b false, .b false, .b false, .s (r_ast_writer_must v7) (o_ast_writer_must v7)] (pA k2 (pA k2 (pA k2 (pA k2 (pA ff (pA ff (pA ff (pA ff (pA ff (pA ff (pA ff (pA ff (pA ff (pA ff (pA ff (pA ff (pA ff (pA (m_ast_writer_must (X := X) k10) pT)))))))))))))))))) (by kernel_rfl)
  · obtain ⟨v8, k11, h⟩ := bindE h
    obtain rfl := retE h
    exact fin (ok X) 1 [.s (r_ast_writer_put v8) (o_ast_writer_put v8)] (pA (m_ast_writer_put (X := X) k11) pT) (by kernel_rfl)

theorem m_ast_writer_number {a0 : ast_writer} {a1 : Int} {r : ast_writer} (h : ast_writer_number a0 a1 = some r) : Cs Tryz.prog (GX X) 34 [xP 0 0, xI a1] [oB 57 [.row 1, .pv (.bool a0.f_form), .pv (.bool a0.f_deep), .pv (.int .i64 a0.f_blocks), .pv (.int .i64 a0.f_parens)], oR false 9 1 (List.map e_str a0.f_out)] (r_ast_writer_number r) (o_ast_writer_number r) := by
  refine fnT (cx := cx X) Tryz.f34 Tryz.call34 Tryz.func34 (by kernel_rfl) ?_
  unfold ast_writer_number at h
  refine adv (ok X) 1 [] pT (by kernel_rfl) ?_
  refine jn (ok X) 1 (fun (j1 : (Bool × Bool × Int × Int × (List ByteArray))) => ⟨17, 2, [(0, [xP 0 0]), (1, [xI a1])], [oB 57 [.row 1, .pv (.bool j1.1), .pv (.bool j1.2.1), .pv (.int .i64 j1.2.2.1), .pv (.int .i64 j1.2.2.2.1)], oR true 9 1 (List.map e_str j1.2.2.2.2)]⟩) h (fun j1 h => ?_) (fun j1 h => ?_)
  · rcases iteE h with ⟨k1, h⟩ | ⟨k1, h⟩
    · obtain ⟨v1, k2, h⟩ := bindE h
      obtain rfl := retE h
      exact fin (ok X) 1 [.b true, .b true, .b true, .s (r_ast_writer_must v1) (o_ast_writer_must v1)] (pA k1 (pA k1 (pA k1 (pA (m_ast_writer_must (X := X) k2) pT)))) (by kernel_rfl)
    · obtain ⟨v2, k3, h⟩ := bindE h
      obtain rfl := retE h
      exact fin (ok X) 1 [.b false, .b false, .b false, .s (r_ast_writer_must v2) (o_ast_writer_must v2)] (pA k1 (pA k1 (pA k1 (pA (m_ast_writer_must (X := X) k3) pT)))) (by kernel_rfl)
  · obtain ⟨v3, k4, h⟩ := bindE h
    obtain ⟨v4, k5, h⟩ := bindE h
    obtain rfl := retE h
    exact fin (ok X) 1 [.c (r_itoa v3), .s (r_ast_writer_put v4) (o_ast_writer_put v4)] (pA (m_itoa (X := X) k4) (pA (m_ast_writer_put (X := X) k5) pT)) (by kernel_rfl)

theorem m_ast_writer_channel {a0 : ast_writer} {a1 : ast_Chan} {r : ast_writer} (h : ast_writer_channel a0 a1 = some r) : Cs Tryz.prog (GX X) 11 [xP 0 0, .agg (bs (e_ast_Chan a1))] [oB 57 [.row 1, .pv (.bool a0.f_form), .pv (.bool a0.f_deep), .pv (.int .i64 a0.f_blocks), .pv (.int .i64 a0.f_parens)], oR false 9 1 (List.map e_str a0.f_out)] (r_ast_writer_channel r) (o_ast_writer_channel r) := by
  refine fnT (cx := cx X) Tryz.f11 Tryz.call11 Tryz.func11 (by kernel_rfl) ?_
  unfold ast_writer_channel at h
  obtain ⟨v1, k1, h⟩ := bindE h
  obtain ⟨v2, k2, h⟩ := bindE h
  refine adv (ok X) 8 [.s (r_ast_writer_put v1) (o_ast_writer_put v1), .s (r_ast_writer_name v2) (o_ast_writer_name v2)] (pA (m_ast_writer_put (X := X) k1) (pA (m_ast_writer_name (X := X) k2) pT)) (by kernel_rfl) ?_
  refine jn (ok X) 1 (fun (j1 : Bool) => ⟨77, 2, [(0, [xP 0 0]), (3, [xP 2 0]), (20, [xB j1])], [oB 57 [.row 1, .pv (.bool v2.f_form), .pv (.bool v2.f_deep), .pv (.int .i64 v2.f_blocks), .pv (.int .i64 v2.f_parens)], oR true 9 1 (List.map e_str v2.f_out), oB 59 (bs (e_ast_Chan a1))]⟩) h (fun j1 h => ?_) (fun j1 h => ?_)
  · rcases iteE h with ⟨k3, h⟩ | ⟨k3, h⟩
    · obtain rfl := retE h
      exact fin (ok X) 1 [.b true, .b true, .b true, .b true] (pA k3 (pA k3 (pA k3 (pA k3 pT)))) (by kernel_rfl)
    · obtain rfl := retE h
      exact fin (ok X) 1 [.b false, .b false, .b false, .b false] (pA k3 (pA k3 (pA k3 (pA k3 pT)))) (by kernel_rfl)
  · rcases iteE h with ⟨k4, h⟩ | ⟨k4, h⟩
    · obtain ⟨v3, k5, h⟩ := bindE h
      obtain ⟨v4, k6, h⟩ := bindE h
      obtain ⟨v5, k7, h⟩ := bindE h
      obtain ⟨v6, k8, h⟩ := bindE h
      obtain ⟨v7, k9, h⟩ := bindE h
      obtain ⟨v8, k10, h⟩ := bindE h
      obtain ⟨v9, k11, h⟩ := bindE h
      obtain ⟨v10, k12, h⟩ := bindE h
      refine adv (ok X) 19 [.b true, .s (r_ast_writer_must v3) (o_ast_writer_must v3), .s (r_ast_writer_number v4) (o_ast_writer_number v4), .s (r_ast_writer_put v5) (o_ast_writer_put v5), .s (r_ast_writer_name v6) (o_ast_writer_name v6), .s (r_ast_writer_put v7) (o_ast_writer_put v7), .s (r_ast_writer_name v8) (o_ast_writer_name v8), .s (r_ast_writer_put v9) (o_ast_writer_put v9), .i (a1.Tags.length : Int), .s (r_ast_writer_must v10) (o_ast_writer_must v10), .i (a1.Tags.length : Int)] (pA k4 (pA (m_ast_writer_must (X := X) k5) (pA (m_ast_writer_number (X := X) k6) (pA (m_ast_writer_put (X := X) k7) (pA (m_ast_writer_name (X := X) k8) (pA (m_ast_writer_put (X := X) k9) (pA (m_ast_writer_name (X := X) k10) (pA (m_ast_writer_put (X := X) k11) (pA (lm e_str a1.Tags) (pA (m_ast_writer_must (X := X) k12) (pA (lm e_str a1.Tags) pT))))))))))) (by kernel_rfl) ?_
      refine lp (ok X) (ast_writer_channel_l2 a1) (fun (x2 : (Int × Bool × Bool × Int × Int × (List ByteArray))) => ⟨77, 2, [(0, [xP 0 0]), (58, [xL (List.map e_str a1.Tags)]), (59, [xI (a1.Tags.length : Int)]), (60, [xI x2.1])], [oB 57 [.row 1, .pv (.bool x2.2.1), .pv (.bool x2.2.2.1), .pv (.int .i64 x2.2.2.2.1), .pv (.int .i64 x2.2.2.2.2.1)], oR true 9 1 (List.map e_str x2.2.2.2.2.2)]⟩) (fun (j2 : (Bool × Bool × Int × Int × (List ByteArray))) => ⟨77, 2, [(0, [xP 0 0])], [oB 57 [.row 1, .pv (.bool j2.1), .pv (.bool j2.2.1), .pv (.int .i64 j2.2.2.1), .pv (.int .i64 j2.2.2.2.1)], oR true 9 1 (List.map e_str j2.2.2.2.2)]⟩) R_ast_writer_channel (0, v10.f_form, v10.f_deep, v10.f_blocks, v10.f_parens, v10.f_out) (fun _ => ⟨_, _, _, _, rfl⟩) h (by kernel_rfl) (fun x2 o h => ?_) (fun r' h => ?_) (fun j2 h => ?_)
      · unfold ast_writer_channel_l2 at h
        rcases iteE h with ⟨k13, h⟩ | ⟨k13, h⟩
        · refine adv (ok X) 6 [.b true] (pA k13 pT) (by kernel_rfl) ?_
          refine jn (ok X) 1 (fun (j3 : (Bool × Bool × Int × Int × (List ByteArray))) => ⟨77, 2, [(0, [xP 0 0]), (58, [xL (List.map e_str a1.Tags)]), (59, [xI (a1.Tags.length : Int)]), (60, [xI x2.1])], [oB 57 [.row 1, .pv (.bool j3.1), .pv (.bool j3.2.1), .pv (.int .i64 j3.2.2.1), .pv (.int .i64 j3.2.2.2.1)], oR true 9 1 (List.map e_str j3.2.2.2.2)]⟩) h (fun j3 h => ?_) (fun j3 h => ?_)
          · obtain ⟨v11, k14, h⟩ := bindE h
            refine adv (ok X) 6 [.e [.str v11]] (pA (ixm e_str k14) pT) (by kernel_rfl) ?_
            rcases iteE h with ⟨k15, h⟩ | ⟨k15, h⟩
            · obtain ⟨v12, k16, h⟩ := bindE h
              obtain ⟨v13, k17, h⟩ := bindE h
              obtain rfl := retE h
              exact fin (ok X) 4 [.b true, .s (r_ast_writer_put v12) (o_ast_writer_put v12), .s (r_ast_writer_name v13) (o_ast_writer_name v13)] (pA k15 (pA (m_ast_writer_put (X := X) k16) (pA (m_ast_writer_name (X := X) k17) pT))) (by kernel_rfl)
            · obtain ⟨v14, k18, h⟩ := bindE h
              obtain rfl := retE h
              exact fin (ok X) 4 [.b false, .s (r_ast_writer_name v14) (o_ast_writer_name v14)] (pA k15 (pA (m_ast_writer_name (X := X) k18) pT)) (by kernel_rfl)
          · obtain rfl := retE h
            exact fin (ok X) 1 [] pT (by kernel_rfl)
        · obtain rfl := retE h
          exact fin (ok X) 5 [.b false] (pA k13 pT) (by kernel_rfl)
      · cases h
      · obtain ⟨v15, k19, h⟩ := bindE h
        obtain rfl := retE h
        exact fin (ok X) 1 [.s (r_ast_writer_put v15) (o_ast_writer_put v15)] (pA (m_ast_writer_put (X := X) k19) pT) (by kernel_rfl)
    · obtain ⟨v16, k20, h⟩ := bindE h
      obtain ⟨v17, k21, h⟩ := bindE h
      obtain ⟨v18, k22, h⟩ := bindE h
      obtain ⟨v19, k23, h⟩ := bindE h
      obtain ⟨v20, k24, h⟩ := bindE h
      obtain ⟨v21, k25, h⟩ := bindE h
      obtain ⟨v22, k26, h⟩ := bindE h
      obtain ⟨v23, k27, h⟩ := bindE h
      obtain ⟨v24, k28, h⟩ := bindE h
      refine adv (ok X) 19 [.b false, .e [.str v16], .s (r_ast_writer_put v17) (o_ast_writer_put v17), .s (r_ast_writer_number v18) (o_ast_writer_number v18), .s (r_ast_writer_put v19) (o_ast_writer_put v19), .s (r_ast_writer_name v20) (o_ast_writer_name v20), .s (r_ast_writer_put v21) (o_ast_writer_put v21), .s (r_ast_writer_name v22) (o_ast_writer_name v22), .s (r_ast_writer_put v23) (o_ast_writer_put v23), .i (a1.Tags.length : Int), .s (r_ast_writer_must v24) (o_ast_writer_must v24), .i (a1.Tags.length : Int)] (pA k4 (pA (ixm e_str k20) (pA (m_ast_writer_put (X := X) k21) (pA (m_ast_writer_number (X := X) k22) (pA (m_ast_writer_put (X := X) k23) (pA (m_ast_writer_name (X := X) k24) (pA (m_ast_writer_put (X := X) k25) (pA (m_ast_writer_name (X := X) k26) (pA (m_ast_writer_put (X := X) k27) (pA (lm e_str a1.Tags) (pA (m_ast_writer_must (X := X) k28) (pA (lm e_str a1.Tags) pT)))))))))))) (by kernel_rfl) ?_
      refine lp (ok X) (ast_writer_channel_l4 a1) (fun (x4 : (Int × Bool × Bool × Int × Int × (List ByteArray))) => ⟨77, 2, [(0, [xP 0 0]), (58, [xL (List.map e_str a1.Tags)]), (59, [xI (a1.Tags.length : Int)]), (60, [xI x4.1])], [oB 57 [.row 1, .pv (.bool x4.2.1), .pv (.bool x4.2.2.1), .pv (.int .i64 x4.2.2.2.1), .pv (.int .i64 x4.2.2.2.2.1)], oR true 9 1 (List.map e_str x4.2.2.2.2.2)]⟩) (fun (j4 : (Bool × Bool × Int × Int × (List ByteArray))) => ⟨77, 2, [(0, [xP 0 0])], [oB 57 [.row 1, .pv (.bool j4.1), .pv (.bool j4.2.1), .pv (.int .i64 j4.2.2.1), .pv (.int .i64 j4.2.2.2.1)], oR true 9 1 (List.map e_str j4.2.2.2.2)]⟩) R_ast_writer_channel (0, v24.f_form, v24.f_deep, v24.f_blocks, v24.f_parens, v24.f_out) (fun _ => ⟨_, _, _, _, rfl⟩) h (by kernel_rfl) (fun x4 o h => ?_) (fun r' h => ?_) (fun j4 h => ?_)
      · unfold ast_writer_channel_l4 at h
        rcases iteE h with ⟨k29, h⟩ | ⟨k29, h⟩
        · refine adv (ok X) 6 [.b true] (pA k29 pT) (by kernel_rfl) ?_
          refine jn (ok X) 1 (fun (j5 : (Bool × Bool × Int × Int × (List ByteArray))) => ⟨77, 2, [(0, [xP 0 0]), (58, [xL (List.map e_str a1.Tags)]), (59, [xI (a1.Tags.length : Int)]), (60, [xI x4.1])], [oB 57 [.row 1, .pv (.bool j5.1), .pv (.bool j5.2.1), .pv (.int .i64 j5.2.2.1), .pv (.int .i64 j5.2.2.2.1)], oR true 9 1 (List.map e_str j5.2.2.2.2)]⟩) h (fun j5 h => ?_) (fun j5 h => ?_)
          · obtain ⟨v25, k30, h⟩ := bindE h
            refine adv (ok X) 6 [.e [.str v25]] (pA (ixm e_str k30) pT) (by kernel_rfl) ?_
            rcases iteE h with ⟨k31, h⟩ | ⟨k31, h⟩
            · obtain ⟨v26, k32, h⟩ := bindE h
              obtain ⟨v27, k33, h⟩ := bindE h
              obtain rfl := retE h
              exact fin (ok X) 4 [.b true, .s (r_ast_writer_put v26) (o_ast_writer_put v26), .s (r_ast_writer_name v27) (o_ast_writer_name v27)] (pA k31 (pA (m_ast_writer_put (X := X) k32) (pA (m_ast_writer_name (X := X) k33) pT))) (by kernel_rfl)
            · obtain ⟨v28, k34, h⟩ := bindE h
              obtain rfl := retE h
              exact fin (ok X) 4 [.b false, .s (r_ast_writer_name v28) (o_ast_writer_name v28)] (pA k31 (pA (m_ast_writer_name (X := X) k34) pT)) (by kernel_rfl)
          · obtain rfl := retE h
            exact fin (ok X) 1 [] pT (by kernel_rfl)
        · obtain rfl := retE h
          exact fin (ok X) 5 [.b false] (pA k29 pT) (by kernel_rfl)
      · cases h
      · obtain ⟨v29, k35, h⟩ := bindE h
        obtain rfl := retE h
        exact fin (ok X) 1 [.s (r_ast_writer_put v29) (o_ast_writer_put v29)] (pA (m_ast_writer_put (X := X) k35) pT) (by kernel_rfl)

theorem m_ast_writer_rule {a0 : ast_writer} {a1 : ast_Rule} {r : ast_writer} (h : ast_writer_rule a0 a1 = some r) : Cs Tryz.prog (GX X) 12 [xP 0 0, .agg (bs (e_ast_Rule a1))] [oB 57 [.row 1, .pv (.bool a0.f_form), .pv (.bool a0.f_deep), .pv (.int .i64 a0.f_blocks), .pv (.int .i64 a0.f_parens)], oR false 9 1 (List.map e_str a0.f_out)] (r_ast_writer_rule r) (o_ast_writer_rule r) := by
  refine fnT (cx := cx X) Tryz.f12 Tryz.call12 Tryz.func12 (by kernel_rfl) ?_
  unfold ast_writer_rule at h
  obtain ⟨v1, k1, h⟩ := bindE h
  obtain ⟨v2, k2, h⟩ := bindE h
  obtain ⟨v3, k3, h⟩ := bindE h
  refine adv (ok X) 11 [.s (r_ast_writer_put v1) (o_ast_writer_put v1), .s (r_ast_writer_name v2) (o_ast_writer_name v2), .s (r_ast_writer_put v3) (o_ast_writer_put v3), .i (a1.Moves.length : Int)] (pA (m_ast_writer_put (X := X) k1) (pA (m_ast_writer_name (X := X) k2) (pA (m_ast_writer_put (X := X) k3) (pA (lm e_ast_Move a1.Moves) pT)))) (by kernel_rfl) ?_
  refine lp (ok X) (ast_writer_rule_l1 a1) (fun (x1 : (Int × Bool × Bool × Int × Int × (List ByteArray))) => ⟨42, 2, [(0, [xP 0 0]), (17, [xL (List.map e_ast_Move a1.Moves)]), (18, [xI (a1.Moves.length : Int)]), (19, [xI x1.1])], [oB 57 [.row 1, .pv (.bool x1.2.1), .pv (.bool x1.2.2.1), .pv (.int .i64 x1.2.2.2.1), .pv (.int .i64 x1.2.2.2.2.1)], oR true 9 1 (List.map e_str x1.2.2.2.2.2)]⟩) (fun (j1 : (Bool × Bool × Int × Int × (List ByteArray))) => ⟨42, 2, [(0, [xP 0 0])], [oB 57 [.row 1, .pv (.bool j1.1), .pv (.bool j1.2.1), .pv (.int .i64 j1.2.2.1), .pv (.int .i64 j1.2.2.2.1)], oR true 9 1 (List.map e_str j1.2.2.2.2)]⟩) R_ast_writer_rule (0, v3.f_form, v3.f_deep, v3.f_blocks, v3.f_parens, v3.f_out) (fun _ => ⟨_, _, _, _, rfl⟩) h (by kernel_rfl) (fun x1 o h => ?_) (fun r' h => ?_) (fun j1 h => ?_)
  · unfold ast_writer_rule_l1 at h
    rcases iteE h with ⟨k4, h⟩ | ⟨k4, h⟩
    · obtain ⟨v4, k5, h⟩ := bindE h
      obtain ⟨v5, k6, h⟩ := bindE h
      obtain ⟨v6, k7, h⟩ := bindE h
      obtain ⟨v7, k8, h⟩ := bindE h
      obtain ⟨v8, k9, h⟩ := bindE h
      obtain rfl := retE h
      exact fin (ok X) 18 [.b true, .e (e_ast_Move v4), .s (r_ast_writer_number v5) (o_ast_writer_number v5), .s (r_ast_writer_name v6) (o_ast_writer_name v6), .s (r_ast_writer_number v7) (o_ast_writer_number v7), .s (r_ast_writer_put v8) (o_ast_writer_put v8)] (pA k4 (pA (ixm e_ast_Move k5) (pA (m_ast_writer_number (X := X) k6) (pA (m_ast_writer_name (X := X) k7) (pA (m_ast_writer_number (X := X) k8) (pA (m_ast_writer_put (X := X) k9) pT)))))) (by kernel_rfl)
    · obtain rfl := retE h
      exact fin (ok X) 5 [.b false] (pA k4 pT) (by kernel_rfl)
  · cases h
  · obtain ⟨v9, k10, h⟩ := bindE h
    obtain rfl := retE h
    exact fin (ok X) 1 [.s (r_ast_writer_put v9) (o_ast_writer_put v9)] (pA (m_ast_writer_put (X := X) k10) pT) (by kernel_rfl)

theorem m_ast_pair {a0 : Int} {r : Bool} (h : ast_pair a0 = some r) : Cv Tryz.prog (GX X) 82 [xI a0] (r_ast_pair r) := by
  refine Cs.toV (?_ : Cs Tryz.prog (GX X) 82 [xI a0] [] (r_ast_pair r) (o_ast_pair r)) (by kernel_rfl)
  refine fnT (cx := cx X) Tryz.f82 Tryz.call82 Tryz.func82 (by kernel_rfl) ?_
  unfold ast_pair at h
  rcases iteE h with ⟨k1, h⟩ | ⟨k1, h⟩
  · obtain rfl := retE h
    exact fin (ok X) 5 [.b true, .b true, .b true] (pA k1 (pA k1 (pA k1 pT))) (by kernel_rfl)
  · obtain rfl := retE h
    exact fin (ok X) 5 [.b false, .b false, .b false] (pA k1 (pA k1 (pA k1 pT))) (by kernel_rfl)

theorem m_ast_sum {a0 : Int} {r : Bool} (h : ast_sum a0 = some r) : Cv Tryz.prog (GX X) 83 [xI a0] (r_ast_sum r) := by
  refine Cs.toV (?_ : Cs Tryz.prog (GX X) 83 [xI a0] [] (r_ast_sum r) (o_ast_sum r)) (by kernel_rfl)
  refine fnT (cx := cx X) Tryz.f83 Tryz.call83 Tryz.func83 (by kernel_rfl) ?_
  unfold ast_sum at h
  rcases iteE h with ⟨k1, h⟩ | ⟨k1, h⟩
  · obtain rfl := retE h
    exact fin (ok X) 5 [.b true, .b true, .b true] (pA k1 (pA k1 (pA k1 pT))) (by kernel_rfl)
  · obtain rfl := retE h
    exact fin (ok X) 5 [.b false, .b false, .b false] (pA k1 (pA k1 (pA k1 pT))) (by kernel_rfl)

theorem m_ast_writer_leaf {a0 : ast_writer} {a1 : ast_Expr} {r : ast_writer} (h : ast_writer_leaf a0 a1 = some r) : Cs Tryz.prog (GX X) 84 [xP 0 0, .agg (bs (f_ast_Expr a1))] [oB 57 [.row 1, .pv (.bool a0.f_form), .pv (.bool a0.f_deep), .pv (.int .i64 a0.f_blocks), .pv (.int .i64 a0.f_parens)], oR false 9 1 (List.map e_str a0.f_out)] (r_ast_writer_leaf r) (o_ast_writer_leaf r) := by
  refine fnT (cx := cx X) Tryz.f84 Tryz.call84 Tryz.func84 (by kernel_rfl) ?_
  unfold ast_writer_leaf at h
  obtain ⟨v1, k1, h⟩ := bindE h
  refine adv (ok X) 7 [.i (a1.Kids.length : Int), .s (r_ast_writer_must v1) (o_ast_writer_must v1)] (pA (lm e_ast_Expr a1.Kids) (pA (m_ast_writer_must (X := X) k1) pT)) (by kernel_rfl) ?_
  rcases iteE h with ⟨k2, h⟩ | ⟨k2, h⟩
  · obtain ⟨v2, k3, h⟩ := bindE h
    obtain rfl := retE h
    exact fin (ok X) 4 [.b true, .s (r_ast_writer_number v2) (o_ast_writer_number v2)] (pA k2 (pA (m_ast_writer_number (X := X) k3) pT)) (by kernel_rfl)
  · obtain ⟨v3, k4, h⟩ := bindE h
    obtain ⟨v4, k5, h⟩ := bindE h
    obtain rfl := retE h
    exact fin (ok X) 5 [.b false, .s (r_ast_writer_must v3) (o_ast_writer_must v3), .s (r_ast_writer_name v4) (o_ast_writer_name v4)] (pA k2 (pA (m_ast_writer_must (X := X) k4) (pA (m_ast_writer_name (X := X) k5) pT))) (by kernel_rfl)

theorem s_ast_writer_expr {n : Nat} (ih_ast_writer_expr : ∀ (a0 : ast_writer) (a1 : ast_Expr) (r : ast_writer), ast_writer_exprN n a0 a1 = some r → Cs Tryz.prog (GX X) 64 [xP 0 0, .agg (bs (f_ast_Expr a1))] [oB 57 [.row 1, .pv (.bool a0.f_form), .pv (.bool a0.f_deep), .pv (.int .i64 a0.f_blocks), .pv (.int .i64 a0.f_parens)], oR false 9 1 (List.map e_str a0.f_out)] (r_ast_writer_expr r) (o_ast_writer_expr r)) (ih_ast_writer_deeper_ast_writer_expr_1 : ∀ (a0 : ast_writer) (a1011 : ast_Expr) (r : ast_writer), ast_writer_deeper_ast_writer_expr_1N n a0 a1011 = some r → Cs Tryz.prog (GX X) 79 [xP 0 0, .fn (.func 80) [] [.box 2 0, .box 3 0]] [oB 57 [.row 1, .pv (.bool a0.f_form), .pv (.bool a0.f_deep), .pv (.int .i64 a0.f_blocks), .pv (.int .i64 a0.f_parens)], oR false 9 1 (List.map e_str a0.f_out), oB 55 [.box 0 0], oB 98 (bs (f_ast_Expr a1011))] (r_ast_writer_deeper_ast_writer_expr_1 r) (o_ast_writer_deeper_ast_writer_expr_1 a1011 r)) (ih_ast_writer_kid : ∀ (a0 : ast_writer) (a1 : ast_Expr) (a2 : Bool) (r : ast_writer), ast_writer_kidN n a0 a1 a2 = some r → Cs Tryz.prog (GX X) 81 [xP 0 0, .agg (bs (f_ast_Expr a1)), xB a2] [oB 57 [.row 1, .pv (.bool a0.f_form), .pv (.bool a0.f_deep), .pv (.int .i64 a0.f_blocks), .pv (.int .i64 a0.f_parens)], oR false 9 1 (List.map e_str a0.f_out)] (r_ast_writer_kid r) (o_ast_writer_kid r)) (ih_ast_writer_expr_1 : ∀ (a0 : ast_writer) (a1 : ast_Expr) (r : ast_writer), ast_writer_expr_1N n a0 a1 = some r → Cs Tryz.prog (GX X) 80 [xP 0 0, xP 3 0] [oB 55 [.box 1 0], oB 57 [.row 2, .pv (.bool a0.f_form), .pv (.bool a0.f_deep), .pv (.int .i64 a0.f_blocks), .pv (.int .i64 a0.f_parens)], oR false 9 1 (List.map e_str a0.f_out), oB 98 (bs (f_ast_Expr a1))] (r_ast_writer_expr_1 r) (o_ast_writer_expr_1 a1 r)) (ih_ast_writer_deeper_ast_writer_kid_1 : ∀ (a0 : ast_writer) (a1011 : ast_Expr) (r : ast_writer), ast_writer_deeper_ast_writer_kid_1N n a0 a1011 = some r → Cs Tryz.prog (GX X) 79 [xP 0 0, .fn (.func 94) [] [.box 2 0, .box 3 0]] [oB 57 [.row 1, .pv (.bool a0.f_form), .pv (.bool a0.f_deep), .pv (.int .i64 a0.f_blocks), .pv (.int .i64 a0.f_parens)], oR false 9 1 (List.map e_str a0.f_out), oB 55 [.box 0 0], oB 98 (bs (f_ast_Expr a1011))] (r_ast_writer_deeper_ast_writer_kid_1 r) (o_ast_writer_deeper_ast_writer_kid_1 a1011 r)) (ih_ast_writer_kid_1 : ∀ (a0 : ast_writer) (a1 : ast_Expr) (r : ast_writer), ast_writer_kid_1N n a0 a1 = some r → Cs Tryz.prog (GX X) 94 [xP 0 0, xP 3 0] [oB 55 [.box 1 0], oB 57 [.row 2, .pv (.bool a0.f_form), .pv (.bool a0.f_deep), .pv (.int .i64 a0.f_blocks), .pv (.int .i64 a0.f_parens)], oR false 9 1 (List.map e_str a0.f_out), oB 98 (bs (f_ast_Expr a1))] (r_ast_writer_kid_1 r) (o_ast_writer_kid_1 a1 r)) (a0 : ast_writer) (a1 : ast_Expr) (r : ast_writer) (h : ast_writer_exprN (n + 1) a0 a1 = some r) : Cs Tryz.prog (GX X) 64 [xP 0 0, .agg (bs (f_ast_Expr a1))] [oB 57 [.row 1, .pv (.bool a0.f_form), .pv (.bool a0.f_deep), .pv (.int .i64 a0.f_blocks), .pv (.int .i64 a0.f_parens)], oR false 9 1 (List.map e_str a0.f_out)] (r_ast_writer_expr r) (o_ast_writer_expr r) := by
  refine fnT (cx := cx X) Tryz.f64 Tryz.call64 Tryz.func64 (by kernel_rfl) ?_
  rw [ast_writer_exprN] at h
  refine adv (ok X) 4 [] pT (by kernel_rfl) ?_
  refine jn (ok X) 1 (fun (j1 : Bool) => ⟨80, 2, [(2, [xP 2 0]), (3, [xP 3 0]), (9, [xB j1])], [oB 57 [.row 1, .pv (.bool a0.f_form), .pv (.bool a0.f_deep), .pv (.int .i64 a0.f_blocks), .pv (.int .i64 a0.f_parens)], oR false 9 1 (List.map e_str a0.f_out), oB 55 [.box 0 0], oB 98 (bs (f_ast_Expr a1))]⟩) h (fun j1 h => ?_) (fun j1 h => ?_)
  · rcases iteE h with ⟨k1, h⟩ | ⟨k1, h⟩
    · obtain rfl := retE h
      exact fin (ok X) 1 [.b true, .b true, .b true, .i (a1.Kids.length : Int), .b true, .b true] (pA k1 (pA k1 (pA k1 (pA (lm e_ast_Expr a1.Kids) (pA k1 (pA k1 pT)))))) (by kernel_rfl)
    · obtain rfl := retE h
      exact fin (ok X) 1 [.b false, .b false, .b false, .b false, .b false] (pA k1 (pA k1 (pA k1 (pA k1 (pA k1 pT))))) (by kernel_rfl)
  · rcases iteE h with ⟨k2, h⟩ | ⟨k2, h⟩
    · obtain ⟨v1, k3, h⟩ := bindE h
      obtain ⟨v2, k4, h⟩ := bindE h
      obtain rfl := retE h
      exact fin (ok X) 5 [.b true, .s (r_ast_writer_put v1) (o_ast_writer_put v1), .s (r_ast_writer_deeper_ast_writer_expr_1 v2) (o_ast_writer_deeper_ast_writer_expr_1 a1 v2)] (pA k2 (pA (m_ast_writer_put (X := X) k3) (pA (ih_ast_writer_deeper_ast_writer_expr_1 _ _ _ k4) pT))) (by kernel_rfl)
    · refine adv (ok X) 2 [.b false] (pA k2 pT) (by kernel_rfl) ?_
      refine jn (ok X) 1 (fun (j2 : Bool) => ⟨80, 2, [(2, [xP 2 0]), (3, [xP 3 0]), (25, [xB j2])], [oB 57 [.row 1, .pv (.bool a0.f_form), .pv (.bool a0.f_deep), .pv (.int .i64 a0.f_blocks), .pv (.int .i64 a0.f_parens)], oR false 9 1 (List.map e_str a0.f_out), oB 55 [.box 0 0], oB 98 (bs (f_ast_Expr a1))]⟩) h (fun j2 h => ?_) (fun j2 h => ?_)
      · obtain ⟨v3, k5, h⟩ := bindE h
        rcases iteE h with ⟨k6, h⟩ | ⟨k6, h⟩
        · obtain rfl := retE h
          exact fin (ok X) 1 [.c (r_ast_pair v3), .b true, .b true, .b true, .i (a1.Kids.length : Int), .b true, .b true] (pA (m_ast_pair (X := X) k5) (pA k6 (pA k6 (pA k6 (pA (lm e_ast_Expr a1.Kids) (pA k6 (pA k6 pT))))))) (by kernel_rfl)
        · obtain rfl := retE h
          exact fin (ok X) 1 [.c (r_ast_pair v3), .b false, .b false, .b false, .b false, .b false] (pA (m_ast_pair (X := X) k5) (pA k6 (pA k6 (pA k6 (pA k6 (pA k6 pT)))))) (by kernel_rfl)
      · rcases iteE h with ⟨k7, h⟩ | ⟨k7, h⟩
        · obtain ⟨v4, k8, h⟩ := bindE h
          obtain ⟨v5, k9, h⟩ := bindE h
          refine adv (ok X) 4 [.b true, .o [0, 1, 2, 3, 4, 5, 6, 7, 8, 9, 10, 11], .e (f_ast_Expr v4), .e (f_ast_Expr v5)] (pA k7 (pA (ixr e_ast_Expr_eq k8) (pA (ixr e_ast_Expr_eq k9) pT))) (by kernel_rfl) ?_
          refine jn (ok X) 1 (fun (j3 : (Bool × Bool × Int × Int × (List ByteArray))) => ⟨80, 2, [(2, [xP 2 0]), (3, [xP 3 0]), (5, [xP 5 0])], [oB 57 [.row 1, .pv (.bool j3.1), .pv (.bool j3.2.1), .pv (.int .i64 j3.2.2.1), .pv (.int .i64 j3.2.2.2.1)], oR true 9 1 (List.map e_str j3.2.2.2.2), oB 55 [.box 0 0], oB 98 (bs (f_ast_Expr a1)), none, oB 98 (bs (f_ast_Expr v5))]⟩) h (fun j3 h => ?_) (fun j3 h => ?_)
          · obtain ⟨v6, k10, h⟩ := bindE h
            rcases iteE h with ⟨k11, h⟩ | ⟨k11, h⟩
            · obtain ⟨v7, k12, h⟩ := bindE h
              obtain ⟨v8, k13, h⟩ := bindE h
              obtain rfl := retE h
              exact fin (ok X) 1 [.o [0, 1, 2, 3, 4, 5, 6, 7, 8, 9, 10, 11], .c (r_ast_sum v6), .b true, .b true, .b true, .c (r_ast_sum v7), .b true, .s (r_ast_writer_kid v8) (o_ast_writer_kid v8)] (pA (m_ast_sum (X := X) k10) (pA k11 (pA k11 (pA k11 (pA (m_ast_sum (X := X) k12) (pA k11 (pA (ih_ast_writer_kid _ _ _ _ k13) pT))))))) (by kernel_rfl)
            · obtain ⟨v9, k14, h⟩ := bindE h
              obtain rfl := retE h
              exact fin (ok X) 1 [.o [0, 1, 2, 3, 4, 5, 6, 7, 8, 9, 10, 11], .c (r_ast_sum v6), .b false, .b false, .b false, .b false, .s (r_ast_writer_kid v9) (o_ast_writer_kid v9)] (pA (m_ast_sum (X := X) k10) (pA k11 (pA k11 (pA k11 (pA k11 (pA (ih_ast_writer_kid _ _ _ _ k14) pT)))))) (by kernel_rfl)
          · obtain ⟨v10, k15, h⟩ := bindE h
            obtain ⟨v11, k16, h⟩ := bindE h
            refine adv (ok X) 2 [.o [0, 1, 2, 3, 4, 5, 6, 7], .e [.str v10], .s (r_ast_writer_put v11) (o_ast_writer_put v11)] (pA (ixm e_str k15) (pA (m_ast_writer_put (X := X) k16) pT)) (by kernel_rfl) ?_
            obtain ⟨v12, k17, h⟩ := bindE h
            rcases iteE h with ⟨k18, h⟩ | ⟨k18, h⟩
            · obtain ⟨v13, k19, h⟩ := bindE h
              obtain rfl := retE h
              exact fin (ok X) 2 [.o [0, 1, 2, 3, 4, 5, 6, 7, 8, 9, 10, 11, 12, 13, 14, 15, 16], .c (r_ast_sum v12), .b true, .b true, .b true, .b true, .b true, .b true, .b true, .s (r_ast_writer_kid v13) (o_ast_writer_kid v13)] (pA (m_ast_sum (X := X) k17) (pA k18 (pA k18 (pA k18 (pA k18 (pA k18 (pA k18 (pA k18 (pA (ih_ast_writer_kid _ _ _ _ k19) pT))))))))) (by kernel_rfl)
            · obtain ⟨v14, k20, h⟩ := bindE h
              rcases iteE h with ⟨k21, h⟩ | ⟨k21, h⟩
              · obtain ⟨v15, k22, h⟩ := bindE h
                obtain ⟨v16, k23, h⟩ := bindE h
                obtain rfl := retE h
                exact fin (ok X) 2 [.o [0, 1, 2, 3, 4, 5, 6, 7, 8, 9, 10, 11, 12, 13, 14, 15, 16], .c (r_ast_sum v12), .b false, .b false, .b false, .c (r_ast_sum v14), .b false, .b false, .b true, .b true, .b true, .c (r_ast_pair v15), .b false, .b true, .b false, .s (r_ast_writer_kid v16) (o_ast_writer_kid v16)] (pA (m_ast_sum (X := X) k17) (pA k18 (pA k18 (pA k18 (pA (m_ast_sum (X := X) k20) (pA k18 (pA k18 (pA k21 (pA k21 (pA k21 (pA (m_ast_pair (X := X) k22) (pA k18 (pA k21 (pA k18 (pA (ih_ast_writer_kid _ _ _ _ k23) pT))))))))))))))) (by kernel_rfl)
              · obtain ⟨v17, k24, h⟩ := bindE h
                obtain rfl := retE h
                exact fin (ok X) 2 [.o [0, 1, 2, 3, 4, 5, 6, 7, 8, 9, 10, 11, 12, 13, 14, 15, 16], .c (r_ast_sum v12), .b false, .b false, .b false, .c (r_ast_sum v14), .b false, .b false, .b false, .b false, .b false, .b false, .b false, .b false, .s (r_ast_writer_kid v17) (o_ast_writer_kid v17)] (pA (m_ast_sum (X := X) k17) (pA k18 (pA k18 (pA k18 (pA (m_ast_sum (X := X) k20) (pA k18 (pA k18 (pA k21 (pA k21 (pA k21 (pA k18 (pA k21 (pA k18 (pA (ih_ast_writer_kid _ _ _ _ k24) pT)))))))))))))) (by kernel_rfl)
        · obtain ⟨v18, k25, h⟩ := bindE h
          obtain rfl := retE h
          exact fin (ok X) 3 [.b false, .s (r_ast_writer_leaf v18) (o_ast_writer_leaf v18)] (pA k7 (pA (m_ast_writer_leaf (X := X) k25) pT)) (by kernel_rfl)

theorem s_ast_writer_deeper_ast_writer_expr_1 {n : Nat} (ih_ast_writer_expr : ∀ (a0 : ast_writer) (a1 : ast_Expr) (r : ast_writer), ast_writer_exprN n a0 a1 = some r → Cs Tryz.prog (GX X) 64 [xP 0 0, .agg (bs (f_ast_Expr a1))] [oB 57 [.row 1, .pv (.bool a0.f_form), .pv (.bool a0.f_deep), .pv (.int .i64 a0.f_blocks), .pv (.int .i64 a0.f_parens)], oR false 9 1 (List.map e_str a0.f_out)] (r_ast_writer_expr r) (o_ast_writer_expr r)) (ih_ast_writer_deeper_ast_writer_expr_1 : ∀ (a0 : ast_writer) (a1011 : ast_Expr) (r : ast_writer), ast_writer_deeper_ast_writer_expr_1N n a0 a1011 = some r → Cs Tryz.prog (GX X) 79 [xP 0 0, .fn (.func 80) [] [.box 2 0, .box 3 0]] [oB 57 [.row 1, .pv (.bool a0.f_form), .pv (.bool a0.f_deep), .pv (.int .i64 a0.f_blocks), .pv (.int .i64 a0.f_parens)], oR false 9 1 (List.map e_str a0.f_out), oB 55 [.box 0 0], oB 98 (bs (f_ast_Expr a1011))] (r_ast_writer_deeper_ast_writer_expr_1 r) (o_ast_writer_deeper_ast_writer_expr_1 a1011 r)) (ih_ast_writer_kid : ∀ (a0 : ast_writer) (a1 : ast_Expr) (a2 : Bool) (r : ast_writer), ast_writer_kidN n a0 a1 a2 = some r → Cs Tryz.prog (GX X) 81 [xP 0 0, .agg (bs (f_ast_Expr a1)), xB a2] [oB 57 [.row 1, .pv (.bool a0.f_form), .pv (.bool a0.f_deep), .pv (.int .i64 a0.f_blocks), .pv (.int .i64 a0.f_parens)], oR false 9 1 (List.map e_str a0.f_out)] (r_ast_writer_kid r) (o_ast_writer_kid r)) (ih_ast_writer_expr_1 : ∀ (a0 : ast_writer) (a1 : ast_Expr) (r : ast_writer), ast_writer_expr_1N n a0 a1 = some r → Cs Tryz.prog (GX X) 80 [xP 0 0, xP 3 0] [oB 55 [.box 1 0], oB 57 [.row 2, .pv (.bool a0.f_form), .pv (.bool a0.f_deep), .pv (.int .i64 a0.f_blocks), .pv (.int .i64 a0.f_parens)], oR false 9 1 (List.map e_str a0.f_out), oB 98 (bs (f_ast_Expr a1))] (r_ast_writer_expr_1 r) (o_ast_writer_expr_1 a1 r)) (ih_ast_writer_deeper_ast_writer_kid_1 : ∀ (a0 : ast_writer) (a1011 : ast_Expr) (r : ast_writer), ast_writer_deeper_ast_writer_kid_1N n a0 a1011 = some r → Cs Tryz.prog (GX X) 79 [xP 0 0, .fn (.func 94) [] [.box 2 0, .box 3 0]] [oB 57 [.row 1, .pv (.bool a0.f_form), .pv (.bool a0.f_deep), .pv (.int .i64 a0.f_blocks), .pv (.int .i64 a0.f_parens)], oR false 9 1 (List.map e_str a0.f_out), oB 55 [.box 0 0], oB 98 (bs (f_ast_Expr a1011))] (r_ast_writer_deeper_ast_writer_kid_1 r) (o_ast_writer_deeper_ast_writer_kid_1 a1011 r)) (ih_ast_writer_kid_1 : ∀ (a0 : ast_writer) (a1 : ast_Expr) (r : ast_writer), ast_writer_kid_1N n a0 a1 = some r → Cs Tryz.prog (GX X) 94 [xP 0 0, xP 3 0] [oB 55 [.box 1 0], oB 57 [.row 2, .pv (.bool a0.f_form), .pv (.bool a0.f_deep), .pv (.int .i64 a0.f_blocks), .pv (.int .i64 a0.f_parens)], oR false 9 1 (List.map e_str a0.f_out), oB 98 (bs (f_ast_Expr a1))] (r_ast_writer_kid_1 r) (o_ast_writer_kid_1 a1 r)) (a0 : ast_writer) (a1011 : ast_Expr) (r : ast_writer) (h : ast_writer_deeper_ast_writer_expr_1N (n + 1) a0 a1011 = some r) : Cs Tryz.prog (GX X) 79 [xP 0 0, .fn (.func 80) [] [.box 2 0, .box 3 0]] [oB 57 [.row 1, .pv (.bool a0.f_form), .pv (.bool a0.f_deep), .pv (.int .i64 a0.f_blocks), .pv (.int .i64 a0.f_parens)], oR false 9 1 (List.map e_str a0.f_out), oB 55 [.box 0 0], oB 98 (bs (f_ast_Expr a1011))] (r_ast_writer_deeper_ast_writer_expr_1 r) (o_ast_writer_deeper_ast_writer_expr_1 a1011 r) := by
  refine fnT (cx := cx X) Tryz.f79 Tryz.call79 Tryz.func79 (by kernel_rfl) ?_
  rw [ast_writer_deeper_ast_writer_expr_1N] at h
  refine adv (ok X) 3 [] pT (by kernel_rfl) ?_
  refine jn (ok X) 1 (fun (j1 : Bool) => ⟨34, 4, [(0, [xP 0 0]), (1, [.fn (.func 80) [] [.box 2 0, .box 3 0]])], [oB 57 [.row 1, .pv (.bool a0.f_form), .pv (.bool j1), .pv (.int .i64 a0.f_blocks), .pv (.int .i64 (IntKind.i64.wrap (a0.f_parens + 1)))], oR false 9 1 (List.map e_str a0.f_out), oB 55 [.box 0 0], oB 98 (bs (f_ast_Expr a1011))]⟩) h (fun j1 h => ?_) (fun j1 h => ?_)
  · rcases iteE h with ⟨k1, h⟩ | ⟨k1, h⟩
    · obtain rfl := retE h
      exact fin (ok X) 1 [.b true, .b true, .b true, .b true, .b true, .b true] (pA k1 (pA k1 (pA k1 (pA k1 (pA k1 (pA k1 pT)))))) (by kernel_rfl)
    · obtain rfl := retE h
      exact fin (ok X) 1 [.b false, .b false, .b false, .b false, .b false, .b false] (pA k1 (pA k1 (pA k1 (pA k1 (pA k1 (pA k1 pT)))))) (by kernel_rfl)
  · obtain ⟨v1, k2, h⟩ := bindE h
    obtain rfl := retE h
    exact fin (ok X) 3 [.s (r_ast_writer_expr_1 v1) (o_ast_writer_expr_1 a1011 v1)] (pA (ih_ast_writer_expr_1 _ _ _ k2) pT) (by kernel_rfl)

theorem s_ast_writer_kid {n : Nat} (ih_ast_writer_expr : ∀ (a0 : ast_writer) (a1 : ast_Expr) (r : ast_writer), ast_writer_exprN n a0 a1 = some r → Cs Tryz.prog (GX X) 64 [xP 0 0, .agg (bs (f_ast_Expr a1))] [oB 57 [.row 1, .pv (.bool a0.f_form), .pv (.bool a0.f_deep), .pv (.int .i64 a0.f_blocks), .pv (.int .i64 a0.f_parens)], oR false 9 1 (List.map e_str a0.f_out)] (r_ast_writer_expr r) (o_ast_writer_expr r)) (ih_ast_writer_deeper_ast_writer_expr_1 : ∀ (a0 : ast_writer) (a1011 : ast_Expr) (r : ast_writer), ast_writer_deeper_ast_writer_expr_1N n a0 a1011 = some r → Cs Tryz.prog (GX X) 79 [xP 0 0, .fn (.func 80) [] [.box 2 0, .box 3 0]] [oB 57 [.row 1, .pv (.bool a0.f_form), .pv (.bool a0.f_deep), .pv (.int .i64 a0.f_blocks), .pv (.int .i64 a0.f_parens)], oR false 9 1 (List.map e_str a0.f_out), oB 55 [.box 0 0], oB 98 (bs (f_ast_Expr a1011))] (r_ast_writer_deeper_ast_writer_expr_1 r) (o_ast_writer_deeper_ast_writer_expr_1 a1011 r)) (ih_ast_writer_kid : ∀ (a0 : ast_writer) (a1 : ast_Expr) (a2 : Bool) (r : ast_writer), ast_writer_kidN n a0 a1 a2 = some r → Cs Tryz.prog (GX X) 81 [xP 0 0, .agg (bs (f_ast_Expr a1)), xB a2] [oB 57 [.row 1, .pv (.bool a0.f_form), .pv (.bool a0.f_deep), .pv (.int .i64 a0.f_blocks), .pv (.int .i64 a0.f_parens)], oR false 9 1 (List.map e_str a0.f_out)] (r_ast_writer_kid r) (o_ast_writer_kid r)) (ih_ast_writer_expr_1 : ∀ (a0 : ast_writer) (a1 : ast_Expr) (r : ast_writer), ast_writer_expr_1N n a0 a1 = some r → Cs Tryz.prog (GX X) 80 [xP 0 0, xP 3 0] [oB 55 [.box 1 0], oB 57 [.row 2, .pv (.bool a0.f_form), .pv (.bool a0.f_deep), .pv (.int .i64 a0.f_blocks), .pv (.int .i64 a0.f_parens)], oR false 9 1 (List.map e_str a0.f_out), oB 98 (bs (f_ast_Expr a1))] (r_ast_writer_expr_1 r) (o_ast_writer_expr_1 a1 r)) (ih_ast_writer_deeper_ast_writer_kid_1 : ∀ (a0 : ast_writer) (a1011 : ast_Expr) (r : ast_writer), ast_writer_deeper_ast_writer_kid_1N n a0 a1011 = some r → Cs Tryz.prog (GX X) 79 [xP 0 0, .fn (.func 94) [] [.box 2 0, .box 3 0]] [oB 57 [.row 1, .pv (.bool a0.f_form), .pv (.bool a0.f_deep), .pv (.int .i64 a0.f_blocks), .pv (.int .i64 a0.f_parens)], oR false 9 1 (List.map e_str a0.f_out), oB 55 [.box 0 0], oB 98 (bs (f_ast_Expr a1011))] (r_ast_writer_deeper_ast_writer_kid_1 r) (o_ast_writer_deeper_ast_writer_kid_1 a1011 r)) (ih_ast_writer_kid_1 : ∀ (a0 : ast_writer) (a1 : ast_Expr) (r : ast_writer), ast_writer_kid_1N n a0 a1 = some r → Cs Tryz.prog (GX X) 94 [xP 0 0, xP 3 0] [oB 55 [.box 1 0], oB 57 [.row 2, .pv (.bool a0.f_form), .pv (.bool a0.f_deep), .pv (.int .i64 a0.f_blocks), .pv (.int .i64 a0.f_parens)], oR false 9 1 (List.map e_str a0.f_out), oB 98 (bs (f_ast_Expr a1))] (r_ast_writer_kid_1 r) (o_ast_writer_kid_1 a1 r)) (a0 : ast_writer) (a1 : ast_Expr) (a2 : Bool) (r : ast_writer) (h : ast_writer_kidN (n + 1) a0 a1 a2 = some r) : Cs Tryz.prog (GX X) 81 [xP 0 0, .agg (bs (f_ast_Expr a1)), xB a2] [oB 57 [.row 1, .pv (.bool a0.f_form), .pv (.bool a0.f_deep), .pv (.int .i64 a0.f_blocks), .pv (.int .i64 a0.f_parens)], oR false 9 1 (List.map e_str a0.f_out)] (r_ast_writer_kid r) (o_ast_writer_kid r) := by
  refine fnT (cx := cx X) Tryz.f81 Tryz.call81 Tryz.func81 (by kernel_rfl) ?_
  rw [ast_writer_kidN] at h
  rcases iteE h with ⟨k1, h⟩ | ⟨k1, h⟩
  · obtain ⟨v1, k2, h⟩ := bindE h
    obtain rfl := retE h
    exact fin (ok X) 9 [.b true, .s (r_ast_writer_expr v1) (o_ast_writer_expr v1)] (pA k1 (pA (ih_ast_writer_expr _ _ _ k2) pT)) (by kernel_rfl)
  · obtain ⟨v2, k3, h⟩ := bindE h
    obtain ⟨v3, k4, h⟩ := bindE h
    obtain ⟨v4, k5, h⟩ := bindE h
    obtain rfl := retE h
    exact fin (ok X) 12 [.b false, .s (r_ast_writer_put v2) (o_ast_writer_put v2), .s (r_ast_writer_deeper_ast_writer_kid_1 v3) (o_ast_writer_deeper_ast_writer_kid_1 a1 v3), .s (r_ast_writer_put v4) (o_ast_writer_put v4)] (pA k1 (pA (m_ast_writer_put (X := X) k3) (pA (ih_ast_writer_deeper_ast_writer_kid_1 _ _ _ k4) (pA (m_ast_writer_put (X := X) k5) pT)))) (by kernel_rfl)

theorem s_ast_writer_expr_1 {n : Nat} (ih_ast_writer_expr : ∀ (a0 : ast_writer) (a1 : ast_Expr) (r : ast_writer), ast_writer_exprN n a0 a1 = some r → Cs Tryz.prog (GX X) 64 [xP 0 0, .agg (bs (f_ast_Expr a1))] [oB 57 [.row 1, .pv (.bool a0.f_form), .pv (.bool a0.f_deep), .pv (.int .i64 a0.f_blocks), .pv (.int .i64 a0.f_parens)], oR false 9 1 (List.map e_str a0.f_out)] (r_ast_writer_expr r) (o_ast_writer_expr r)) (ih_ast_writer_deeper_ast_writer_expr_1 : ∀ (a0 : ast_writer) (a1011 : ast_Expr) (r : ast_writer), ast_writer_deeper_ast_writer_expr_1N n a0 a1011 = some r → Cs Tryz.prog (GX X) 79 [xP 0 0, .fn (.func 80) [] [.box 2 0, .box 3 0]] [oB 57 [.row 1, .pv (.bool a0.f_form), .pv (.bool a0.f_deep), .pv (.int .i64 a0.f_blocks), .pv (.int .i64 a0.f_parens)], oR false 9 1 (List.map e_str a0.f_out), oB 55 [.box 0 0], oB 98 (bs (f_ast_Expr a1011))] (r_ast_writer_deeper_ast_writer_expr_1 r) (o_ast_writer_deeper_ast_writer_expr_1 a1011 r)) (ih_ast_writer_kid : ∀ (a0 : ast_writer) (a1 : ast_Expr) (a2 : Bool) (r : ast_writer), ast_writer_kidN n a0 a1 a2 = some r → Cs Tryz.prog (GX X) 81 [xP 0 0, .agg (bs (f_ast_Expr a1)), xB a2] [oB 57 [.row 1, .pv (.bool a0.f_form), .pv (.bool a0.f_deep), .pv (.int .i64 a0.f_blocks), .pv (.int .i64 a0.f_parens)], oR false 9 1 (List.map e_str a0.f_out)] (r_ast_writer_kid r) (o_ast_writer_kid r)) (ih_ast_writer_expr_1 : ∀ (a0 : ast_writer) (a1 : ast_Expr) (r : ast_writer), ast_writer_expr_1N n a0 a1 = some r → Cs Tryz.prog (GX X) 80 [xP 0 0, xP 3 0] [oB 55 [.box 1 0], oB 57 [.row 2, .pv (.bool a0.f_form), .pv (.bool a0.f_deep), .pv (.int .i64 a0.f_blocks), .pv (.int .i64 a0.f_parens)], oR false 9 1 (List.map e_str a0.f_out), oB 98 (bs (f_ast_Expr a1))] (r_ast_writer_expr_1 r) (o_ast_writer_expr_1 a1 r)) (ih_ast_writer_deeper_ast_writer_kid_1 : ∀ (a0 : ast_writer) (a1011 : ast_Expr) (r : ast_writer), ast_writer_deeper_ast_writer_kid_1N n a0 a1011 = some r → Cs Tryz.prog (GX X) 79 [xP 0 0, .fn (.func 94) [] [.box 2 0, .box 3 0]] [oB 57 [.row 1, .pv (.bool a0.f_form), .pv (.bool a0.f_deep), .pv (.int .i64 a0.f_blocks), .pv (.int .i64 a0.f_parens)], oR false 9 1 (List.map e_str a0.f_out), oB 55 [.box 0 0], oB 98 (bs (f_ast_Expr a1011))] (r_ast_writer_deeper_ast_writer_kid_1 r) (o_ast_writer_deeper_ast_writer_kid_1 a1011 r)) (ih_ast_writer_kid_1 : ∀ (a0 : ast_writer) (a1 : ast_Expr) (r : ast_writer), ast_writer_kid_1N n a0 a1 = some r → Cs Tryz.prog (GX X) 94 [xP 0 0, xP 3 0] [oB 55 [.box 1 0], oB 57 [.row 2, .pv (.bool a0.f_form), .pv (.bool a0.f_deep), .pv (.int .i64 a0.f_blocks), .pv (.int .i64 a0.f_parens)], oR false 9 1 (List.map e_str a0.f_out), oB 98 (bs (f_ast_Expr a1))] (r_ast_writer_kid_1 r) (o_ast_writer_kid_1 a1 r)) (a0 : ast_writer) (a1 : ast_Expr) (r : ast_writer) (h : ast_writer_expr_1N (n + 1) a0 a1 = some r) : Cs Tryz.prog (GX X) 80 [xP 0 0, xP 3 0] [oB 55 [.box 1 0], oB 57 [.row 2, .pv (.bool a0.f_form), .pv (.bool a0.f_deep), .pv (.int .i64 a0.f_blocks), .pv (.int .i64 a0.f_parens)], oR false 9 1 (List.map e_str a0.f_out), oB 98 (bs (f_ast_Expr a1))] (r_ast_writer_expr_1 r) (o_ast_writer_expr_1 a1 r) := by
  refine fnT (cx := cx X) Tryz.f80 Tryz.call80 Tryz.func80 (by kernel_rfl) ?_
  rw [ast_writer_expr_1N] at h
  obtain ⟨v1, k1, h⟩ := bindE h
  obtain ⟨v2, k2, h⟩ := bindE h
  obtain ⟨v3, k3, h⟩ := bindE h
  obtain rfl := retE h
  exact fin (ok X) 1 [.o [0, 1, 2, 3, 4, 5, 6, 7, 8, 9, 10, 11], .e (f_ast_Expr v1), .e (f_ast_Expr v1), .c (r_ast_pair v2), .s (r_ast_writer_kid v3) (o_ast_writer_kid v3)] (pA (ixr e_ast_Expr_eq k1) (pA (ixr e_ast_Expr_eq k1) (pA (m_ast_pair (X := X) k2) (pA (ih_ast_writer_kid _ _ _ _ k3) pT)))) (by kernel_rfl)

theorem s_ast_writer_deeper_ast_writer_kid_1 {n : Nat} (ih_ast_writer_expr : ∀ (a0 : ast_writer) (a1 : ast_Expr) (r : ast_writer), ast_writer_exprN n a0 a1 = some r → Cs Tryz.prog (GX X) 64 [xP 0 0, .agg (bs (f_ast_Expr a1))] [oB 57 [.row 1, .pv (.bool a0.f_form), .pv (.bool a0.f_deep), .pv (.int .i64 a0.f_blocks), .pv (.int .i64 a0.f_parens)], oR false 9 1 (List.map e_str a0.f_out)] (r_ast_writer_expr r) (o_ast_writer_expr r)) (ih_ast_writer_deeper_ast_writer_expr_1 : ∀ (a0 : ast_writer) (a1011 : ast_Expr) (r : ast_writer), ast_writer_deeper_ast_writer_expr_1N n a0 a1011 = some r → Cs Tryz.prog (GX X) 79 [xP 0 0, .fn (.func 80) [] [.box 2 0, .box 3 0]] [oB 57 [.row 1, .pv (.bool a0.f_form), .pv (.bool a0.f_deep), .pv (.int .i64 a0.f_blocks), .pv (.int .i64 a0.f_parens)], oR false 9 1 (List.map e_str a0.f_out), oB 55 [.box 0 0], oB 98 (bs (f_ast_Expr a1011))] (r_ast_writer_deeper_ast_writer_expr_1 r) (o_ast_writer_deeper_ast_writer_expr_1 a1011 r)) (ih_ast_writer_kid : ∀ (a0 : ast_writer) (a1 : ast_Expr) (a2 : Bool) (r : ast_writer), ast_writer_kidN n a0 a1 a2 = some r → Cs Tryz.prog (GX X) 81 [xP 0 0, .agg (bs (f_ast_Expr a1)), xB a2] [oB 57 [.row 1, .pv (.bool a0.f_form), .pv (.bool a0.f_deep), .pv (.int .i64 a0.f_blocks), .pv (.int .i64 a0.f_parens)], oR false 9 1 (List.map e_str a0.f_out)] (r_ast_writer_kid r) (o_ast_writer_kid r)) (ih_ast_writer_expr_1 : ∀ (a0 : ast_writer) (a1 : ast_Expr) (r : ast_writer), ast_writer_expr_1N n a0 a1 = some r → Cs Tryz.prog (GX X) 80 [xP 0 0, xP 3 0] [oB 55 [.box 1 0], oB 57 [.row 2, .pv (.bool a0.f_form), .pv (.bool a0.f_deep), .pv (.int .i64 a0.f_blocks), .pv (.int .i64 a0.f_parens)], oR false 9 1 (List.map e_str a0.f_out), oB 98 (bs (f_ast_Expr a1))] (r_ast_writer_expr_1 r) (o_ast_writer_expr_1 a1 r)) (ih_ast_writer_deeper_ast_writer_kid_1 : ∀ (a0 : ast_writer) (a1011 : ast_Expr) (r : ast_writer), ast_writer_deeper_ast_writer_kid_1N n a0 a1011 = some r → Cs Tryz.prog (GX X) 79 [xP 0 0, .fn (.func 94) [] [.box 2 0, .box 3 0]] [oB 57 [.row 1, .pv (.bool a0.f_form), .pv (.bool a0.f_deep), .pv (.int .i64 a0.f_blocks), .pv (.int .i64 a0.f_parens)], oR false 9 1 (List.map e_str a0.f_out), oB 55 [.box 0 0], oB 98 (bs (f_ast_Expr a1011))] (r_ast_writer_deeper_ast_writer_kid_1 r) (o_ast_writer_deeper_ast_writer_kid_1 a1011 r)) (ih_ast_writer_kid_1 : ∀ (a0 : ast_writer) (a1 : ast_Expr) (r : ast_writer), ast_writer_kid_1N n a0 a1 = some r → Cs Tryz.prog (GX X) 94 [xP 0 0, xP 3 0] [oB 55 [.box 1 0], oB 57 [.row 2, .pv (.bool a0.f_form), .pv (.bool a0.f_deep), .pv (.int .i64 a0.f_blocks), .pv (.int .i64 a0.f_parens)], oR false 9 1 (List.map e_str a0.f_out), oB 98 (bs (f_ast_Expr a1))] (r_ast_writer_kid_1 r) (o_ast_writer_kid_1 a1 r)) (a0 : ast_writer) (a1011 : ast_Expr) (r : ast_writer) (h : ast_writer_deeper_ast_writer_kid_1N (n + 1) a0 a1011 = some r) : Cs Tryz.prog (GX X) 79 [xP 0 0, .fn (.func 94) [] [.box 2 0, .box 3 0]] [oB 57 [.row 1, .pv (.bool a0.f_form), .pv (.bool a0.f_deep), .pv (.int .i64 a0.f_blocks), .pv (.int .i64 a0.f_parens)], oR false 9 1 (List.map e_str a0.f_out), oB 55 [.box 0 0], oB 98 (bs (f_ast_Expr a1011))] (r_ast_writer_deeper_ast_writer_kid_1 r) (o_ast_writer_deeper_ast_writer_kid_1 a1011 r) := by
  refine fnT (cx := cx X) Tryz.f79 Tryz.call79 Tryz.func79 (by kernel_rfl) ?_
  rw [ast_writer_deeper_ast_writer_kid_1N] at h
  refine adv (ok X) 3 [] pT (by kernel_rfl) ?_
  refine jn (ok X) 1 (fun (j1 : Bool) => ⟨34, 4, [(0, [xP 0 0]), (1, [.fn (.func 94) [] [.box 2 0, .box 3 0]])], [oB 57 [.row 1, .pv (.bool a0.f_form), .pv (.bool j1), .pv (.int .i64 a0.f_blocks), .pv (.int .i64 (IntKind.i64.wrap (a0.f_parens + 1)))], oR false 9 1 (List.map e_str a0.f_out), oB 55 [.box 0 0], oB 98 (bs (f_ast_Expr a1011))]⟩) h (fun j1 h => ?_) (fun j1 h => ?_)
  · rcases iteE h with ⟨k1, h⟩ | ⟨k1, h⟩
    · obtain rfl := retE h
      exact fin (ok X) 1 [.b true, .b true, .b true, .b true, .b true, .b true] (pA k1 (pA k1 (pA k1 (pA k1 (pA k1 (pA k1 pT)))))) (by kernel_rfl)
    · obtain rfl := retE h
      exact fin (ok X) 1 [.b false, .b false, .b false, .b false, .b false, .b false] (pA k1 (pA k1 (pA k1 (pA k1 (pA k1 (pA k1 pT)))))) (by kernel_rfl)
  · obtain ⟨v1, k2, h⟩ := bindE h
    obtain rfl := retE h
    exact fin (ok X) 3 [.s (r_ast_writer_kid_1 v1) (o_ast_writer_kid_1 a1011 v1)] (pA (ih_ast_writer_kid_1 _ _ _ k2) pT) (by kernel_rfl)

theorem s_ast_writer_kid_1 {n : Nat} (ih_ast_writer_expr : ∀ (a0 : ast_writer) (a1 : ast_Expr) (r : ast_writer), ast_writer_exprN n a0 a1 = some r → Cs Tryz.prog (GX X) 64 [xP 0 0, .agg (bs (f_ast_Expr a1))] [oB 57 [.row 1, .pv (.bool a0.f_form), .pv (.bool a0.f_deep), .pv (.int .i64 a0.f_blocks), .pv (.int .i64 a0.f_parens)], oR false 9 1 (List.map e_str a0.f_out)] (r_ast_writer_expr r) (o_ast_writer_expr r)) (ih_ast_writer_deeper_ast_writer_expr_1 : ∀ (a0 : ast_writer) (a1011 : ast_Expr) (r : ast_writer), ast_writer_deeper_ast_writer_expr_1N n a0 a1011 = some r → Cs Tryz.prog (GX X) 79 [xP 0 0, .fn (.func 80) [] [.box 2 0, .box 3 0]] [oB 57 [.row 1, .pv (.bool a0.f_form), .pv (.bool a0.f_deep), .pv (.int .i64 a0.f_blocks), .pv (.int .i64 a0.f_parens)], oR false 9 1 (List.map e_str a0.f_out), oB 55 [.box 0 0], oB 98 (bs (f_ast_Expr a1011))] (r_ast_writer_deeper_ast_writer_expr_1 r) (o_ast_writer_deeper_ast_writer_expr_1 a1011 r)) (ih_ast_writer_kid : ∀ (a0 : ast_writer) (a1 : ast_Expr) (a2 : Bool) (r : ast_writer), ast_writer_kidN n a0 a1 a2 = some r → Cs Tryz.prog (GX X) 81 [xP 0 0, .agg (bs (f_ast_Expr a1)), xB a2] [oB 57 [.row 1, .pv (.bool a0.f_form), .pv (.bool a0.f_deep), .pv (.int .i64 a0.f_blocks), .pv (.int .i64 a0.f_parens)], oR false 9 1 (List.map e_str a0.f_out)] (r_ast_writer_kid r) (o_ast_writer_kid r)) (ih_ast_writer_expr_1 : ∀ (a0 : ast_writer) (a1 : ast_Expr) (r : ast_writer), ast_writer_expr_1N n a0 a1 = some r → Cs Tryz.prog (GX X) 80 [xP 0 0, xP 3 0] [oB 55 [.box 1 0], oB 57 [.row 2, .pv (.bool a0.f_form), .pv (.bool a0.f_deep), .pv (.int .i64 a0.f_blocks), .pv (.int .i64 a0.f_parens)], oR false 9 1 (List.map e_str a0.f_out), oB 98 (bs (f_ast_Expr a1))] (r_ast_writer_expr_1 r) (o_ast_writer_expr_1 a1 r)) (ih_ast_writer_deeper_ast_writer_kid_1 : ∀ (a0 : ast_writer) (a1011 : ast_Expr) (r : ast_writer), ast_writer_deeper_ast_writer_kid_1N n a0 a1011 = some r → Cs Tryz.prog (GX X) 79 [xP 0 0, .fn (.func 94) [] [.box 2 0, .box 3 0]] [oB 57 [.row 1, .pv (.bool a0.f_form), .pv (.bool a0.f_deep), .pv (.int .i64 a0.f_blocks), .pv (.int .i64 a0.f_parens)], oR false 9 1 (List.map e_str a0.f_out), oB 55 [.box 0 0], oB 98 (bs (f_ast_Expr a1011))] (r_ast_writer_deeper_ast_writer_kid_1 r) (o_ast_writer_deeper_ast_writer_kid_1 a1011 r)) (ih_ast_writer_kid_1 : ∀ (a0 : ast_writer) (a1 : ast_Expr) (r : ast_writer), ast_writer_kid_1N n a0 a1 = some r → Cs Tryz.prog (GX X) 94 [xP 0 0, xP 3 0] [oB 55 [.box 1 0], oB 57 [.row 2, .pv (.bool a0.f_form), .pv (.bool a0.f_deep), .pv (.int .i64 a0.f_blocks), .pv (.int .i64 a0.f_parens)], oR false 9 1 (List.map e_str a0.f_out), oB 98 (bs (f_ast_Expr a1))] (r_ast_writer_kid_1 r) (o_ast_writer_kid_1 a1 r)) (a0 : ast_writer) (a1 : ast_Expr) (r : ast_writer) (h : ast_writer_kid_1N (n + 1) a0 a1 = some r) : Cs Tryz.prog (GX X) 94 [xP 0 0, xP 3 0] [oB 55 [.box 1 0], oB 57 [.row 2, .pv (.bool a0.f_form), .pv (.bool a0.f_deep), .pv (.int .i64 a0.f_blocks), .pv (.int .i64 a0.f_parens)], oR false 9 1 (List.map e_str a0.f_out), oB 98 (bs (f_ast_Expr a1))] (r_ast_writer_kid_1 r) (o_ast_writer_kid_1 a1 r) := by
  refine fnT (cx := cx X) Tryz.f94 Tryz.call94 Tryz.func94 (by kernel_rfl) ?_
  rw [ast_writer_kid_1N] at h
  obtain ⟨v1, k1, h⟩ := bindE h
  obtain rfl := retE h
  exact fin (ok X) 1 [.s (r_ast_writer_expr v1) (o_ast_writer_expr v1)] (pA (ih_ast_writer_expr _ _ _ k1) pT) (by kernel_rfl)

theorem all_ast_writer_expr : ∀ n : Nat, (∀ (a0 : ast_writer) (a1 : ast_Expr) (r : ast_writer), ast_writer_exprN n a0 a1 = some r → Cs Tryz.prog (GX X) 64 [xP 0 0, .agg (bs (f_ast_Expr a1))] [oB 57 [.row 1, .pv (.bool a0.f_form), .pv (.bool a0.f_deep), .pv (.int .i64 a0.f_blocks), .pv (.int .i64 a0.f_parens)], oR false 9 1 (List.map e_str a0.f_out)] (r_ast_writer_expr r) (o_ast_writer_expr r)) ∧ (∀ (a0 : ast_writer) (a1011 : ast_Expr) (r : ast_writer), ast_writer_deeper_ast_writer_expr_1N n a0 a1011 = some r → Cs Tryz.prog (GX X) 79 [xP 0 0, .fn (.func 80) [] [.box 2 0, .box 3 0]] [oB 57 [.row 1, .pv (.bool a0.f_form), .pv (.bool a0.f_deep), .pv (.int .i64 a0.f_blocks), .pv (.int .i64 a0.f_parens)], oR false 9 1 (List.map e_str a0.f_out), oB 55 [.box 0 0], oB 98 (bs (f_ast_Expr a1011))] (r_ast_writer_deeper_ast_writer_expr_1 r) (o_ast_writer_deeper_ast_writer_expr_1 a1011 r)) ∧ (∀ (a0 : ast_writer) (a1 : ast_Expr) (a2 : Bool) (r : ast_writer), ast_writer_kidN n a0 a1 a2 = some r → Cs Tryz.prog (GX X) 81 [xP 0 0, .agg (bs (f_ast_Expr a1)), xB a2] [oB 57 [.row 1, .pv (.bool a0.f_form), .pv (.bool a0.f_deep), .pv (.int .i64 a0.f_blocks), .pv (.int .i64 a0.f_parens)], oR false 9 1 (List.map e_str a0.f_out)] (r_ast_writer_kid r) (o_ast_writer_kid r)) ∧ (∀ (a0 : ast_writer) (a1 : ast_Expr) (r : ast_writer), ast_writer_expr_1N n a0 a1 = some r → Cs Tryz.prog (GX X) 80 [xP 0 0, xP 3 0] [oB 55 [.box 1 0], oB 57 [.row 2, .pv (.bool a0.f_form), .pv (.bool a0.f_deep), .pv (.int .i64 a0.f_blocks), .pv (.int .i64 a0.f_parens)], oR false 9 1 (List.map e_str a0.f_out), oB 98 (bs (f_ast_Expr a1))] (r_ast_writer_expr_1 r) (o_ast_writer_expr_1 a1 r)) ∧ (∀ (a0 : ast_writer) (a1011 : ast_Expr) (r : ast_writer), ast_writer_deeper_ast_writer_kid_1N n a0 a1011 = some r → Cs Tryz.prog (GX X) 79 [xP 0 0, .fn (.func 94) [] [.box 2 0, .box 3 0]] [oB 57 [.row 1, .pv (.bool a0.f_form), .pv (.bool a0.f_deep), .pv (.int .i64 a0.f_blocks), .pv (.int .i64 a0.f_parens)], oR false 9 1 (List.map e_str a0.f_out), oB 55 [.box 0 0], oB 98 (bs (f_ast_Expr a1011))] (r_ast_writer_deeper_ast_writer_kid_1 r) (o_ast_writer_deeper_ast_writer_kid_1 a1011 r)) ∧ (∀ (a0 : ast_writer) (a1 : ast_Expr) (r : ast_writer), ast_writer_kid_1N n a0 a1 = some r → Cs Tryz.prog (GX X) 94 [xP 0 0, xP 3 0] [oB 55 [.box 1 0], oB 57 [.row 2, .pv (.bool a0.f_form), .pv (.bool a0.f_deep), .pv (.int .i64 a0.f_blocks), .pv (.int .i64 a0.f_parens)], oR false 9 1 (List.map e_str a0.f_out), oB 98 (bs (f_ast_Expr a1))] (r_ast_writer_kid_1 r) (o_ast_writer_kid_1 a1 r))
  | 0 => ⟨(fun _ _ _ h => by rw [ast_writer_exprN] at h; cases h), (fun _ _ _ h => by rw [ast_writer_deeper_ast_writer_expr_1N] at h; cases h), (fun _ _ _ _ h => by rw [ast_writer_kidN] at h; cases h), (fun _ _ _ h => by rw [ast_writer_expr_1N] at h; cases h), (fun _ _ _ h => by rw [ast_writer_deeper_ast_writer_kid_1N] at h; cases h), (fun _ _ _ h => by rw [ast_writer_kid_1N] at h; cases h)⟩
  | n + 1 => by
    have ih := all_ast_writer_expr n
    exact ⟨s_ast_writer_expr ih.1 ih.2.1 ih.2.2.1 ih.2.2.2.1 ih.2.2.2.2.1 ih.2.2.2.2.2, s_ast_writer_deeper_ast_writer_expr_1 ih.1 ih.2.1 ih.2.2.1 ih.2.2.2.1 ih.2.2.2.2.1 ih.2.2.2.2.2, s_ast_writer_kid ih.1 ih.2.1 ih.2.2.1 ih.2.2.2.1 ih.2.2.2.2.1 ih.2.2.2.2.2, s_ast_writer_expr_1 ih.1 ih.2.1 ih.2.2.1 ih.2.2.2.1 ih.2.2.2.2.1 ih.2.2.2.2.2, s_ast_writer_deeper_ast_writer_kid_1 ih.1 ih.2.1 ih.2.2.1 ih.2.2.2.1 ih.2.2.2.2.1 ih.2.2.2.2.2, s_ast_writer_kid_1 ih.1 ih.2.1 ih.2.2.1 ih.2.2.2.1 ih.2.2.2.2.1 ih.2.2.2.2.2⟩

theorem m_ast_writer_expr {a0 : ast_writer} {a1 : ast_Expr} {r : ast_writer} (h : ast_writer_expr a0 a1 = some r) : Cs Tryz.prog (GX X) 64 [xP 0 0, .agg (bs (f_ast_Expr a1))] [oB 57 [.row 1, .pv (.bool a0.f_form), .pv (.bool a0.f_deep), .pv (.int .i64 a0.f_blocks), .pv (.int .i64 a0.f_parens)], oR false 9 1 (List.map e_str a0.f_out)] (r_ast_writer_expr r) (o_ast_writer_expr r) := by
  obtain ⟨n, hn⟩ := unfE h
  exact (all_ast_writer_expr n).1 _ _ _ hn

theorem m_ast_writer_deeper_ast_writer_expr_1 {a0 : ast_writer} {a1011 : ast_Expr} {r : ast_writer} (h : ast_writer_deeper_ast_writer_expr_1 a0 a1011 = some r) : Cs Tryz.prog (GX X) 79 [xP 0 0, .fn (.func 80) [] [.box 2 0, .box 3 0]] [oB 57 [.row 1, .pv (.bool a0.f_form), .pv (.bool a0.f_deep), .pv (.int .i64 a0.f_blocks), .pv (.int .i64 a0.f_parens)], oR false 9 1 (List.map e_str a0.f_out), oB 55 [.box 0 0], oB 98 (bs (f_ast_Expr a1011))] (r_ast_writer_deeper_ast_writer_expr_1 r) (o_ast_writer_deeper_ast_writer_expr_1 a1011 r) := by
  obtain ⟨n, hn⟩ := unfE h
  exact (all_ast_writer_expr n).2.1 _ _ _ hn

theorem m_ast_writer_kid {a0 : ast_writer} {a1 : ast_Expr} {a2 : Bool} {r : ast_writer} (h : ast_writer_kid a0 a1 a2 = some r) : Cs Tryz.prog (GX X) 81 [xP 0 0, .agg (bs (f_ast_Expr a1)), xB a2] [oB 57 [.row 1, .pv (.bool a0.f_form), .pv (.bool a0.f_deep), .pv (.int .i64 a0.f_blocks), .pv (.int .i64 a0.f_parens)], oR false 9 1 (List.map e_str a0.f_out)] (r_ast_writer_kid r) (o_ast_writer_kid r) := by
  obtain ⟨n, hn⟩ := unfE h
  exact (all_ast_writer_expr n).2.2.1 _ _ _ _ hn

theorem m_ast_writer_expr_1 {a0 : ast_writer} {a1 : ast_Expr} {r : ast_writer} (h : ast_writer_expr_1 a0 a1 = some r) : Cs Tryz.prog (GX X) 80 [xP 0 0, xP 3 0] [oB 55 [.box 1 0], oB 57 [.row 2, .pv (.bool a0.f_form), .pv (.bool a0.f_deep), .pv (.int .i64 a0.f_blocks), .pv (.int .i64 a0.f_parens)], oR false 9 1 (List.map e_str a0.f_out), oB 98 (bs (f_ast_Expr a1))] (r_ast_writer_expr_1 r) (o_ast_writer_expr_1 a1 r) := by
  obtain ⟨n, hn⟩ := unfE h
  exact (all_ast_writer_expr n).2.2.2.1 _ _ _ hn

theorem m_ast_writer_deeper_ast_writer_kid_1 {a0 : ast_writer} {a1011 : ast_Expr} {r : ast_writer} (h : ast_writer_deeper_ast_writer_kid_1 a0 a1011 = some r) : Cs Tryz.prog (GX X) 79 [xP 0 0, .fn (.func 94) [] [.box 2 0, .box 3 0]] [oB 57 [.row 1, .pv (.bool a0.f_form), .pv (.bool a0.f_deep), .pv (.int .i64 a0.f_blocks), .pv (.int .i64 a0.f_parens)], oR false 9 1 (List.map e_str a0.f_out), oB 55 [.box 0 0], oB 98 (bs (f_ast_Expr a1011))] (r_ast_writer_deeper_ast_writer_kid_1 r) (o_ast_writer_deeper_ast_writer_kid_1 a1011 r) := by
  obtain ⟨n, hn⟩ := unfE h
  exact (all_ast_writer_expr n).2.2.2.2.1 _ _ _ hn

theorem m_ast_writer_kid_1 {a0 : ast_writer} {a1 : ast_Expr} {r : ast_writer} (h : ast_writer_kid_1 a0 a1 = some r) : Cs Tryz.prog (GX X) 94 [xP 0 0, xP 3 0] [oB 55 [.box 1 0], oB 57 [.row 2, .pv (.bool a0.f_form), .pv (.bool a0.f_deep), .pv (.int .i64 a0.f_blocks), .pv (.int .i64 a0.f_parens)], oR false 9 1 (List.map e_str a0.f_out), oB 98 (bs (f_ast_Expr a1))] (r_ast_writer_kid_1 r) (o_ast_writer_kid_1 a1 r) := by
  obtain ⟨n, hn⟩ := unfE h
  exact (all_ast_writer_expr n).2.2.2.2.2 _ _ _ hn

theorem m_ast_writer_cond {a0 : ast_writer} {a1 : ast_Cond} {r : ast_writer} (h : ast_writer_cond a0 a1 = some r) : Cs Tryz.prog (GX X) 65 [xP 0 0, .agg (bs (e_ast_Cond a1))] [oB 57 [.row 1, .pv (.bool a0.f_form), .pv (.bool a0.f_deep), .pv (.int .i64 a0.f_blocks), .pv (.int .i64 a0.f_parens)], oR false 9 1 (List.map e_str a0.f_out)] (r_ast_writer_cond r) (o_ast_writer_cond r) := by
  refine fnT (cx := cx X) Tryz.f65 Tryz.call65 Tryz.func65 (by kernel_rfl) ?_
  unfold ast_writer_cond at h
  obtain ⟨v1, k1, h⟩ := bindE h
  obtain ⟨v2, k2, h⟩ := bindE h
  refine adv (ok X) 8 [.s (r_ast_writer_put v1) (o_ast_writer_put v1), .s (r_ast_writer_expr v2) (o_ast_writer_expr v2)] (pA (m_ast_writer_put (X := X) k1) (pA (m_ast_writer_expr (X := X) k2) pT)) (by kernel_rfl) ?_
  refine jn (ok X) 1 (fun (j1 : Bool) => ⟨36, 2, [(0, [xP 0 0]), (3, [xP 2 0]), (18, [xB j1])], [oB 57 [.row 1, .pv (.bool v2.f_form), .pv (.bool v2.f_deep), .pv (.int .i64 v2.f_blocks), .pv (.int .i64 v2.f_parens)], oR true 9 1 (List.map e_str v2.f_out), oB 100 (bs (e_ast_Cond a1))]⟩) h (fun j1 h => ?_) (fun j1 h => ?_)
  · rcases iteE h with ⟨k3, h⟩ | ⟨k3, h⟩
    · obtain rfl := retE h
      exact fin (ok X) 1 [.b true, .b true, .b true, .b true] (pA k3 (pA k3 (pA k3 (pA k3 pT)))) (by kernel_rfl)
    · obtain rfl := retE h
      exact fin (ok X) 1 [.b false, .b false, .b false, .b false] (pA k3 (pA k3 (pA k3 (pA k3 pT)))) (by kernel_rfl)
  · rcases iteE h with ⟨k4, h⟩ | ⟨k4, h⟩
    · obtain ⟨v3, k5, h⟩ := bindE h
      obtain ⟨v4, k6, h⟩ := bindE h
      obtain ⟨v5, k7, h⟩ := bindE h
      obtain rfl := retE h
      exact fin (ok X) 5 [.b true, .s (r_ast_writer_must v3) (o_ast_writer_must v3), .s (r_ast_writer_expr v4) (o_ast_writer_expr v4), .s (r_ast_writer_put v5) (o_ast_writer_put v5)] (pA k4 (pA (m_ast_writer_must (X := X) k5) (pA (m_ast_writer_expr (X := X) k6) (pA (m_ast_writer_put (X := X) k7) pT)))) (by kernel_rfl)
    · obtain ⟨v6, k8, h⟩ := bindE h
      obtain ⟨v7, k9, h⟩ := bindE h
      obtain ⟨v8, k10, h⟩ := bindE h
      obtain ⟨v9, k11, h⟩ := bindE h
      obtain rfl := retE h
      exact fin (ok X) 5 [.b false, .e [.str v6], .s (r_ast_writer_put v7) (o_ast_writer_put v7), .s (r_ast_writer_expr v8) (o_ast_writer_expr v8), .s (r_ast_writer_put v9) (o_ast_writer_put v9)] (pA k4 (pA (ixm e_str k8) (pA (m_ast_writer_put (X := X) k9) (pA (m_ast_writer_expr (X := X) k10) (pA (m_ast_writer_put (X := X) k11) pT))))) (by kernel_rfl)

theorem s_ast_writer_stmts {n : Nat} (ih_ast_writer_stmts : ∀ (a0 : ast_writer) (a1 : (List ast_Stmt)) (r : ast_writer), ast_writer_stmtsN n a0 a1 = some r → Cs Tryz.prog (GX X) 35 [xP 0 0, xL (List.map e_ast_Stmt a1)] [oB 57 [.row 1, .pv (.bool a0.f_form), .pv (.bool a0.f_deep), .pv (.int .i64 a0.f_blocks), .pv (.int .i64 a0.f_parens)], oR false 9 1 (List.map e_str a0.f_out)] (r_ast_writer_stmts r) (o_ast_writer_stmts r)) (ih_ast_writer_stmt : ∀ (a0 : ast_writer) (a1 : ast_Stmt) (r : ast_writer), ast_writer_stmtN n a0 a1 = some r → Cs Tryz.prog (GX X) 52 [xP 0 0, .agg (bs (f_ast_Stmt a1))] [oB 57 [.row 1, .pv (.bool a0.f_form), .pv (.bool a0.f_deep), .pv (.int .i64 a0.f_blocks), .pv (.int .i64 a0.f_parens)], oR false 9 1 (List.map e_str a0.f_out)] (r_ast_writer_stmt r) (o_ast_writer_stmt r)) (ih_ast_writer_block : ∀ (a0 : ast_writer) (a1 : (List ast_Stmt)) (r : ast_writer), ast_writer_blockN n a0 a1 = some r → Cs Tryz.prog (GX X) 66 [xP 0 0, xL (List.map e_ast_Stmt a1)] [oB 57 [.row 1, .pv (.bool a0.f_form), .pv (.bool a0.f_deep), .pv (.int .i64 a0.f_blocks), .pv (.int .i64 a0.f_parens)], oR false 9 1 (List.map e_str a0.f_out)] (r_ast_writer_block r) (o_ast_writer_block r)) (ih_ast_writer_arms : ∀ (a0 : ast_writer) (a1 : (List ast_Arm)) (r : ast_writer), ast_writer_armsN n a0 a1 = some r → Cs Tryz.prog (GX X) 67 [xP 0 0, xL (List.map e_ast_Arm a1)] [oB 57 [.row 1, .pv (.bool a0.f_form), .pv (.bool a0.f_deep), .pv (.int .i64 a0.f_blocks), .pv (.int .i64 a0.f_parens)], oR false 9 1 (List.map e_str a0.f_out)] (r_ast_writer_arms r) (o_ast_writer_arms r)) (a0 : ast_writer) (a1 : (List ast_Stmt)) (r : ast_writer) (h : ast_writer_stmtsN (n + 1) a0 a1 = some r) : Cs Tryz.prog (GX X) 35 [xP 0 0, xL (List.map e_ast_Stmt a1)] [oB 57 [.row 1, .pv (.bool a0.f_form), .pv (.bool a0.f_deep), .pv (.int .i64 a0.f_blocks), .pv (.int .i64 a0.f_parens)], oR false 9 1 (List.map e_str a0.f_out)] (r_ast_writer_stmts r) (o_ast_writer_stmts r) := by
  refine fnT (cx := cx X) Tryz.f35 Tryz.call35 Tryz.func35 (by kernel_rfl) ?_
  rw [ast_writer_stmtsN] at h
  refine adv (ok X) 2 [.i (a1.length : Int)] (pA (lm e_ast_Stmt a1) pT) (by kernel_rfl) ?_
  refine lp (ok X) (ast_writer_stmts_l1 (ast_writer_stmtsN n) (ast_writer_stmtN n) (ast_writer_blockN n) (ast_writer_armsN n) a1) (fun (x1 : (Int × Bool × Bool × Int × Int × (List ByteArray))) => ⟨16, 2, [(0, [xP 0 0]), (6, [xL (List.map e_ast_Stmt a1)]), (7, [xI (a1.length : Int)]), (8, [xI x1.1])], [oB 57 [.row 1, .pv (.bool x1.2.1), .pv (.bool x1.2.2.1), .pv (.int .i64 x1.2.2.2.1), .pv (.int .i64 x1.2.2.2.2.1)], oR true 9 1 (List.map e_str x1.2.2.2.2.2)]⟩) (fun (j1 : (Bool × Bool × Int × Int × (List ByteArray))) => ⟨16, 2, [], [oB 57 [.row 1, .pv (.bool j1.1), .pv (.bool j1.2.1), .pv (.int .i64 j1.2.2.1), .pv (.int .i64 j1.2.2.2.1)], oR true 9 1 (List.map e_str j1.2.2.2.2)]⟩) R_ast_writer_stmts (0, a0.f_form, a0.f_deep, a0.f_blocks, a0.f_parens, a0.f_out) (fun _ => ⟨_, _, _, _, rfl⟩) h (by kernel_rfl) (fun x1 o h => ?_) (fun r' h => ?_) (fun j1 h => ?_)
  · unfold ast_writer_stmts_l1 at h
    rcases iteE h with ⟨k1, h⟩ | ⟨k1, h⟩
    · obtain ⟨v1, k2, h⟩ := bindE h
      obtain ⟨v2, k3, h⟩ := bindE h
      obtain rfl := retE h
      exact fin (ok X) 12 [.b true, .e (f_ast_Stmt v1), .s (r_ast_writer_stmt v2) (o_ast_writer_stmt v2)] (pA k1 (pA (ixr e_ast_Stmt_eq k2) (pA (ih_ast_writer_stmt _ _ _ k3) pT))) (by kernel_rfl)
    · obtain rfl := retE h
      exact fin (ok X) 5 [.b false] (pA k1 pT) (by kernel_rfl)
  · cases h
  · obtain rfl := retE h
    exact fin (ok X) 0 [] pT (by kernel_rfl)

theorem s_ast_writer_stmt {n : Nat} (ih_ast_writer_stmts : ∀ (a0 : ast_writer) (a1 : (List ast_Stmt)) (r : ast_writer), ast_writer_stmtsN n a0 a1 = some r → Cs Tryz.prog (GX X) 35 [xP 0 0, xL (List.map e_ast_Stmt a1)] [oB 57 [.row 1, .pv (.bool a0.f_form), .pv (.bool a0.f_deep), .pv (.int .i64 a0.f_blocks), .pv (.int .i64 a0.f_parens)], oR false 9 1 (List.map e_str a0.f_out)] (r_ast_writer_stmts r) (o_ast_writer_stmts r)) (ih_ast_writer_stmt : ∀ (a0 : ast_writer) (a1 : ast_Stmt) (r : ast_writer), ast_writer_stmtN n a0 a1 = some r → Cs Tryz.prog (GX X) 52 [xP 0 0, .agg (bs (f_ast_Stmt a1))] [oB 57 [.row 1, .pv (.bool a0.f_form), .pv (.bool a0.f_deep), .pv (.int .i64 a0.f_blocks), .pv (.int .i64 a0.f_parens)], oR false 9 1 (List.map e_str a0.f_out)] (r_ast_writer_stmt r) (o_ast_writer_stmt r)) (ih_ast_writer_block : ∀ (a0 : ast_writer) (a1 : (List ast_Stmt)) (r : ast_writer), ast_writer_blockN n a0 a1 = some r → Cs Tryz.prog (GX X) 66 [xP 0 0, xL (List.map e_ast_Stmt a1)] [oB 57 [.row 1, .pv (.bool a0.f_form), .pv (.bool a0.f_deep), .pv (.int .i64 a0.f_blocks), .pv (.int .i64 a0.f_parens)], oR false 9 1 (List.map e_str a0.f_out)] (r_ast_writer_block r) (o_ast_writer_block r)) (ih_ast_writer_arms : ∀ (a0 : ast_writer) (a1 : (List ast_Arm)) (r : ast_writer), ast_writer_armsN n a0 a1 = some r → Cs Tryz.prog (GX X) 67 [xP 0 0, xL (List.map e_ast_Arm a1)] [oB 57 [.row 1, .pv (.bool a0.f_form), .pv (.bool a0.f_deep), .pv (.int .i64 a0.f_blocks), .pv (.int .i64 a0.f_parens)], oR false 9 1 (List.map e_str a0.f_out)] (r_ast_writer_arms r) (o_ast_writer_arms r)) (a0 : ast_writer) (a1 : ast_Stmt) (r : ast_writer) (h : ast_writer_stmtN (n + 1) a0 a1 = some r) : Cs Tryz.prog (GX X) 52 [xP 0 0, .agg (bs (f_ast_Stmt a1))] [oB 57 [.row 1, .pv (.bool a0.f_form), .pv (.bool a0.f_deep), .pv (.int .i64 a0.f_blocks), .pv (.int .i64 a0.f_parens)], oR false 9 1 (List.map e_str a0.f_out)] (r_ast_writer_stmt r) (o_ast_writer_stmt r) := by
  refine fnT (cx := cx X) Tryz.f52 Tryz.call52 Tryz.func52 (by kernel_rfl) ?_
  rw [ast_writer_stmtN] at h
  rcases iteE h with ⟨k1, h⟩ | ⟨k1, h⟩
  · obtain ⟨v1, k2, h⟩ := bindE h
    obtain ⟨v2, k3, h⟩ := bindE h
    obtain ⟨v3, k4, h⟩ := bindE h
    obtain ⟨v4, k5, h⟩ := bindE h
    obtain rfl := retE h
    exact fin (ok X) 16 [.b true, .s (r_ast_writer_name v1) (o_ast_writer_name v1), .s (r_ast_writer_put v2) (o_ast_writer_put v2), .s (r_ast_writer_expr v3) (o_ast_writer_expr v3), .s (r_ast_writer_put v4) (o_ast_writer_put v4)] (pA k1 (pA (m_ast_writer_name (X := X) k2) (pA (m_ast_writer_put (X := X) k3) (pA (m_ast_writer_expr (X := X) k4) (pA (m_ast_writer_put (X := X) k5) pT))))) (by kernel_rfl)
  · refine adv (ok X) 10 [.b false] (pA k1 pT) (by kernel_rfl) ?_
    rcases iteE h with ⟨k6, h⟩ | ⟨k6, h⟩
    · obtain ⟨v5, k7, h⟩ := bindE h
      obtain ⟨v6, k8, h⟩ := bindE h
      obtain ⟨v7, k9, h⟩ := bindE h
      refine adv (ok X) 9 [.b true, .s (r_ast_writer_put v5) (o_ast_writer_put v5), .s (r_ast_writer_cond v6) (o_ast_writer_cond v6), .s (r_ast_writer_block v7) (o_ast_writer_block v7), .i (a1.Else.length : Int)] (pA k6 (pA (m_ast_writer_put (X := X) k7) (pA (m_ast_writer_cond (X := X) k8) (pA (ih_ast_writer_block _ _ _ k9) (pA (lm e_ast_Stmt a1.Else) pT))))) (by kernel_rfl) ?_
      rcases iteE h with ⟨k10, h⟩ | ⟨k10, h⟩
      · obtain ⟨v8, k11, h⟩ := bindE h
        obtain ⟨v9, k12, h⟩ := bindE h
        obtain rfl := retE h
        exact fin (ok X) 5 [.b true, .s (r_ast_writer_put v8) (o_ast_writer_put v8), .s (r_ast_writer_block v9) (o_ast_writer_block v9)] (pA k10 (pA (m_ast_writer_put (X := X) k11) (pA (ih_ast_writer_block _ _ _ k12) pT))) (by kernel_rfl)
      · obtain rfl := retE h
        exact fin (ok X) 3 [.b false] (pA k10 pT) (by kernel_rfl)
    · refine adv (ok X) 3 [.b false] (pA k6 pT) (by kernel_rfl) ?_
      rcases iteE h with ⟨k13, h⟩ | ⟨k13, h⟩
      · obtain ⟨v10, k14, h⟩ := bindE h
        obtain ⟨v11, k15, h⟩ := bindE h
        obtain ⟨v12, k16, h⟩ := bindE h
        obtain rfl := retE h
        exact fin (ok X) 7 [.b true, .s (r_ast_writer_put v10) (o_ast_writer_put v10), .s (r_ast_writer_cond v11) (o_ast_writer_cond v11), .s (r_ast_writer_block v12) (o_ast_writer_block v12)] (pA k13 (pA (m_ast_writer_put (X := X) k14) (pA (m_ast_writer_cond (X := X) k15) (pA (ih_ast_writer_block _ _ _ k16) pT)))) (by kernel_rfl)
      · refine adv (ok X) 3 [.b false] (pA k13 pT) (by kernel_rfl) ?_
        rcases iteE h with ⟨k17, h⟩ | ⟨k17, h⟩
        · obtain ⟨v13, k18, h⟩ := bindE h
          obtain ⟨v14, k19, h⟩ := bindE h
          obtain ⟨v15, k20, h⟩ := bindE h
          obtain ⟨v16, k21, h⟩ := bindE h
          obtain ⟨v17, k22, h⟩ := bindE h
          obtain ⟨v18, k23, h⟩ := bindE h
          obtain ⟨v19, k24, h⟩ := bindE h
          obtain rfl := retE h
          exact fin (ok X) 15 [.b true, .s (r_ast_writer_put v13) (o_ast_writer_put v13), .s (r_ast_writer_name v14) (o_ast_writer_name v14), .s (r_ast_writer_put v15) (o_ast_writer_put v15), .s (r_ast_writer_name v16) (o_ast_writer_name v16), .s (r_ast_writer_put v17) (o_ast_writer_put v17), .s (r_ast_writer_expr v18) (o_ast_writer_expr v18), .s (r_ast_writer_put v19) (o_ast_writer_put v19)] (pA k17 (pA (m_ast_writer_put (X := X) k18) (pA (m_ast_writer_name (X := X) k19) (pA (m_ast_writer_put (X := X) k20) (pA (m_ast_writer_name (X := X) k21) (pA (m_ast_writer_put (X := X) k22) (pA (m_ast_writer_expr (X := X) k23) (pA (m_ast_writer_put (X := X) k24) pT)))))))) (by kernel_rfl)
        · refine adv (ok X) 3 [.b false] (pA k17 pT) (by kernel_rfl) ?_
          rcases iteE h with ⟨k25, h⟩ | ⟨k25, h⟩
          · obtain ⟨v20, k26, h⟩ := bindE h
            obtain ⟨v21, k27, h⟩ := bindE h
            obtain ⟨v22, k28, h⟩ := bindE h
            obtain rfl := retE h
            exact fin (ok X) 7 [.b true, .s (r_ast_writer_put v20) (o_ast_writer_put v20), .s (r_ast_writer_name v21) (o_ast_writer_name v21), .s (r_ast_writer_arms v22) (o_ast_writer_arms v22)] (pA k25 (pA (m_ast_writer_put (X := X) k26) (pA (m_ast_writer_name (X := X) k27) (pA (ih_ast_writer_arms _ _ _ k28) pT)))) (by kernel_rfl)
          · refine adv (ok X) 3 [.b false] (pA k25 pT) (by kernel_rfl) ?_
            rcases iteE h with ⟨k29, h⟩ | ⟨k29, h⟩
            · obtain ⟨v23, k30, h⟩ := bindE h
              obtain ⟨v24, k31, h⟩ := bindE h
              obtain ⟨v25, k32, h⟩ := bindE h
              obtain rfl := retE h
              exact fin (ok X) 7 [.b true, .s (r_ast_writer_put v23) (o_ast_writer_put v23), .s (r_ast_writer_cond v24) (o_ast_writer_cond v24), .s (r_ast_writer_put v25) (o_ast_writer_put v25)] (pA k29 (pA (m_ast_writer_put (X := X) k30) (pA (m_ast_writer_cond (X := X) k31) (pA (m_ast_writer_put (X := X) k32) pT)))) (by kernel_rfl)
            · refine adv (ok X) 3 [.b false] (pA k29 pT) (by kernel_rfl) ?_
              rcases iteE h with ⟨k33, h⟩ | ⟨k33, h⟩
              · obtain ⟨v26, k34, h⟩ := bindE h
                obtain ⟨v27, k35, h⟩ := bindE h
                obtain ⟨v28, k36, h⟩ := bindE h
                obtain rfl := retE h
                exact fin (ok X) 7 [.b true, .s (r_ast_writer_put v26) (o_ast_writer_put v26), .s (r_ast_writer_name v27) (o_ast_writer_name v27), .s (r_ast_writer_put v28) (o_ast_writer_put v28)] (pA k33 (pA (m_ast_writer_put (X := X) k34) (pA (m_ast_writer_name (X := X) k35) (pA (m_ast_writer_put (X := X) k36) pT)))) (by kernel_rfl)
              · obtain ⟨v29, k37, h⟩ := bindE h
                obtain rfl := retE h
                exact fin (ok X) 3 [.b false, .s (r_ast_writer_must v29) (o_ast_writer_must v29)] (pA k33 (pA (m_ast_writer_must (X := X) k37) pT)) (by kernel_rfl)

theorem s_ast_writer_block {n : Nat} (ih_ast_writer_stmts : ∀ (a0 : ast_writer) (a1 : (List ast_Stmt)) (r : ast_writer), ast_writer_stmtsN n a0 a1 = some r → Cs Tryz.prog (GX X) 35 [xP 0 0, xL (List.map e_ast_Stmt a1)] [oB 57 [.row 1, .pv (.bool a0.f_form), .pv (.bool a0.f_deep), .pv (.int .i64 a0.f_blocks), .pv (.int .i64 a0.f_parens)], oR false 9 1 (List.map e_str a0.f_out)] (r_ast_writer_stmts r) (o_ast_writer_stmts r)) (ih_ast_writer_stmt : ∀ (a0 : ast_writer) (a1 : ast_Stmt) (r : ast_writer), ast_writer_stmtN n a0 a1 = some r → Cs Tryz.prog (GX X) 52 [xP 0 0, .agg (bs (f_ast_Stmt a1))] [oB 57 [.row 1, .pv (.bool a0.f_form), .pv (.bool a0.f_deep), .pv (.int .i64 a0.f_blocks), .pv (.int .i64 a0.f_parens)], oR false 9 1 (List.map e_str a0.f_out)] (r_ast_writer_stmt r) (o_ast_writer_stmt r)) (ih_ast_writer_block : ∀ (a0 : ast_writer) (a1 : (List ast_Stmt)) (r : ast_writer), ast_writer_blockN n a0 a1 = some r → Cs Tryz.prog (GX X) 66 [xP 0 0, xL (List.map e_ast_Stmt a1)] [oB 57 [.row 1, .pv (.bool a0.f_form), .pv (.bool a0.f_deep), .pv (.int .i64 a0.f_blocks), .pv (.int .i64 a0.f_parens)], oR false 9 1 (List.map e_str a0.f_out)] (r_ast_writer_block r) (o_ast_writer_block r)) (ih_ast_writer_arms : ∀ (a0 : ast_writer) (a1 : (List ast_Arm)) (r : ast_writer), ast_writer_armsN n a0 a1 = some r → Cs Tryz.prog (GX X) 67 [xP 0 0, xL (List.map e_ast_Arm a1)] [oB 57 [.row 1, .pv (.bool a0.f_form), .pv (.bool a0.f_deep), .pv (.int .i64 a0.f_blocks), .pv (.int .i64 a0.f_parens)], oR false 9 1 (List.map e_str a0.f_out)] (r_ast_writer_arms r) (o_ast_writer_arms r)) (a0 : ast_writer) (a1 : (List ast_Stmt)) (r : ast_writer) (h : ast_writer_blockN (n + 1) a0 a1 = some r) : Cs Tryz.prog (GX X) 66 [xP 0 0, xL (List.map e_ast_Stmt a1)] [oB 57 [.row 1, .pv (.bool a0.f_form), .pv (.bool a0.f_deep), .pv (.int .i64 a0.f_blocks), .pv (.int .i64 a0.f_parens)], oR false 9 1 (List.map e_str a0.f_out)] (r_ast_writer_block r) (o_ast_writer_block r) := by
  refine fnT (cx := cx X) Tryz.f66 Tryz.call66 Tryz.func66 (by kernel_rfl) ?_
  rw [ast_writer_blockN] at h
  obtain ⟨v1, k1, h⟩ := bindE h
  refine adv (ok X) 5 [.s (r_ast_writer_put v1) (o_ast_writer_put v1)] (pA (m_ast_writer_put (X := X) k1) pT) (by kernel_rfl) ?_
  refine jn (ok X) 1 (fun (j1 : Bool) => ⟨41, 2, [(0, [xP 0 0]), (1, [xL (List.map e_ast_Stmt a1)])], [oB 57 [.row 1, .pv (.bool v1.f_form), .pv (.bool j1), .pv (.int .i64 (IntKind.i64.wrap (v1.f_blocks + 1))), .pv (.int .i64 v1.f_parens)], oR true 9 1 (List.map e_str v1.f_out)]⟩) h (fun j1 h => ?_) (fun j1 h => ?_)
  · rcases iteE h with ⟨k2, h⟩ | ⟨k2, h⟩
    · obtain rfl := retE h
      exact fin (ok X) 1 [.b true, .b true, .b true, .b true, .b true, .b true] (pA k2 (pA k2 (pA k2 (pA k2 (pA k2 (pA k2 pT)))))) (by kernel_rfl)
    · obtain rfl := retE h
      exact fin (ok X) 1 [.b false, .b false, .b false, .b false, .b false, .b false] (pA k2 (pA k2 (pA k2 (pA k2 (pA k2 (pA k2 pT)))))) (by kernel_rfl)
  · obtain ⟨v2, k3, h⟩ := bindE h
    obtain ⟨v3, k4, h⟩ := bindE h
    obtain rfl := retE h
    exact fin (ok X) 5 [.s (r_ast_writer_stmts v2) (o_ast_writer_stmts v2), .s (r_ast_writer_put v3) (o_ast_writer_put v3)] (pA (ih_ast_writer_stmts _ _ _ k3) (pA (m_ast_writer_put (X := X) k4) pT)) (by kernel_rfl)

theorem s_ast_writer_arms {n : Nat} (ih_ast_writer_stmts : ∀ (a0 : ast_writer) (a1 : (List ast_Stmt)) (r : ast_writer), ast_writer_stmtsN n a0 a1 = some r → Cs Tryz.prog (GX X) 35 [xP 0 0, xL (List.map e_ast_Stmt a1)] [oB 57 [.row 1, .pv (.bool a0.f_form), .pv (.bool a0.f_deep), .pv (.int .i64 a0.f_blocks), .pv (.int .i64 a0.f_parens)], oR false 9 1 (List.map e_str a0.f_out)] (r_ast_writer_stmts r) (o_ast_writer_stmts r)) (ih_ast_writer_stmt : ∀ (a0 : ast_writer) (a1 : ast_Stmt) (r : ast_writer), ast_writer_stmtN n a0 a1 = some r → Cs Tryz.prog (GX X) 52 [xP 0 0, .agg (bs (f_ast_Stmt a1))] [oB 57 [.row 1, .pv (.bool a0.f_form), .pv (.bool a0.f_deep), .pv (.int .i64 a0.f_blocks), .pv (.int .i64 a0.f_parens)], oR false 9 1 (List.map e_str a0.f_out)] (r_ast_writer_stmt r) (o_ast_writer_stmt r)) (ih_ast_writer_block : ∀ (a0 : ast_writer) (a1 : (List ast_Stmt)) (r : ast_writer), ast_writer_blockN n a0 a1 = some r → Cs Tryz.prog (GX X) 66 [xP 0 0, xL (List.map e_ast_Stmt a1)] [oB 57 [.row 1, .pv (.bool a0.f_form), .pv (.bool a0.f_deep), .pv (.int .i64 a0.f_blocks), .pv (.int .i64 a0.f_parens)], oR false 9 1 (List.map e_str a0.f_out)] (r_ast_writer_block r) (o_ast_writer_block r)) (ih_ast_writer_arms : ∀ (a0 : ast_writer) (a1 : (List ast_Arm)) (r : ast_writer), ast_writer_armsN n a0 a1 = some r → Cs Tryz.prog (GX X) 67 [xP 0 0, xL (List.map e_ast_Arm a1)] [oB 57 [.row 1, .pv (.bool a0.f_form), .pv (.bool a0.f_deep), .pv (.int .i64 a0.f_blocks), .pv (.int .i64 a0.f_parens)], oR false 9 1 (List.map e_str a0.f_out)] (r_ast_writer_arms r) (o_ast_writer_arms r)) (a0 : ast_writer) (a1 : (List ast_Arm)) (r : ast_writer) (h : ast_writer_armsN (n + 1) a0 a1 = some r) : Cs Tryz.prog (GX X) 67 [xP 0 0, xL (List.map e_ast_Arm a1)] [oB 57 [.row 1, .pv (.bool a0.f_form), .pv (.bool a0.f_deep), .pv (.int .i64 a0.f_blocks), .pv (.int .i64 a0.f_parens)], oR false 9 1 (List.map e_str a0.f_out)] (r_ast_writer_arms r) (o_ast_writer_arms r) := by
  refine fnT (cx := cx X) Tryz.f67 Tryz.call67 Tryz.func67 (by kernel_rfl) ?_
  rw [ast_writer_armsN] at h
  obtain ⟨v1, k1, h⟩ := bindE h
  obtain ⟨v2, k2, h⟩ := bindE h
  refine adv (ok X) 7 [.i (a1.length : Int), .s (r_ast_writer_must v1) (o_ast_writer_must v1), .s (r_ast_writer_put v2) (o_ast_writer_put v2), .i (a1.length : Int)] (pA (lm e_ast_Arm a1) (pA (m_ast_writer_must (X := X) k1) (pA (m_ast_writer_put (X := X) k2) (pA (lm e_ast_Arm a1) pT)))) (by kernel_rfl) ?_
  refine lp (ok X) (ast_writer_arms_l1 (ast_writer_stmtsN n) (ast_writer_stmtN n) (ast_writer_blockN n) (ast_writer_armsN n) a1) (fun (x1 : (Int × Bool × Bool × Int × Int × (List ByteArray))) => ⟨42, 2, [(0, [xP 0 0]), (14, [xL (List.map e_ast_Arm a1)]), (15, [xI (a1.length : Int)]), (16, [xI x1.1])], [oB 57 [.row 1, .pv (.bool x1.2.1), .pv (.bool x1.2.2.1), .pv (.int .i64 x1.2.2.2.1), .pv (.int .i64 x1.2.2.2.2.1)], oR true 9 1 (List.map e_str x1.2.2.2.2.2)]⟩) (fun (j1 : (Bool × Bool × Int × Int × (List ByteArray))) => ⟨42, 2, [(0, [xP 0 0])], [oB 57 [.row 1, .pv (.bool j1.1), .pv (.bool j1.2.1), .pv (.int .i64 j1.2.2.1), .pv (.int .i64 j1.2.2.2.1)], oR true 9 1 (List.map e_str j1.2.2.2.2)]⟩) R_ast_writer_arms (0, v2.f_form, v2.f_deep, v2.f_blocks, v2.f_parens, v2.f_out) (fun _ => ⟨_, _, _, _, rfl⟩) h (by kernel_rfl) (fun x1 o h => ?_) (fun r' h => ?_) (fun j1 h => ?_)
  · unfold ast_writer_arms_l1 at h
    rcases iteE h with ⟨k3, h⟩ | ⟨k3, h⟩
    · obtain ⟨v3, k4, h⟩ := bindE h
      obtain ⟨v4, k5, h⟩ := bindE h
      obtain ⟨v5, k6, h⟩ := bindE h
      obtain ⟨v6, k7, h⟩ := bindE h
      obtain ⟨v7, k8, h⟩ := bindE h
      obtain ⟨v8, k9, h⟩ := bindE h
      obtain rfl := retE h
      exact fin (ok X) 20 [.b true, .e (f_ast_Arm v3), .s (r_ast_writer_name v4) (o_ast_writer_name v4), .s (r_ast_writer_put v5) (o_ast_writer_put v5), .s (r_ast_writer_name v6) (o_ast_writer_name v6), .s (r_ast_writer_put v7) (o_ast_writer_put v7), .s (r_ast_writer_block v8) (o_ast_writer_block v8)] (pA k3 (pA (ixr e_ast_Arm_eq k4) (pA (m_ast_writer_name (X := X) k5) (pA (m_ast_writer_put (X := X) k6) (pA (m_ast_writer_name (X := X) k7) (pA (m_ast_writer_put (X := X) k8) (pA (ih_ast_writer_block _ _ _ k9) pT))))))) (by kernel_rfl)
    · obtain rfl := retE h
      exact fin (ok X) 5 [.b false] (pA k3 pT) (by kernel_rfl)
  · cases h
  · obtain ⟨v9, k10, h⟩ := bindE h
    obtain rfl := retE h
    exact fin (ok X) 1 [.s (r_ast_writer_put v9) (o_ast_writer_put v9)] (pA (m_ast_writer_put (X := X) k10) pT) (by kernel_rfl)

theorem all_ast_writer_stmts : ∀ n : Nat, (∀ (a0 : ast_writer) (a1 : (List ast_Stmt)) (r : ast_writer), ast_writer_stmtsN n a0 a1 = some r → Cs Tryz.prog (GX X) 35 [xP 0 0, xL (List.map e_ast_Stmt a1)] [oB 57 [.row 1, .pv (.bool a0.f_form), .pv (.bool a0.f_deep), .pv (.int .i64 a0.f_blocks), .pv (.int .i64 a0.f_parens)], oR false 9 1 (List.map e_str a0.f_out)] (r_ast_writer_stmts r) (o_ast_writer_stmts r)) ∧ (∀ (a0 : ast_writer) (a1 : ast_Stmt) (r : ast_writer), ast_writer_stmtN n a0 a1 = some r → Cs Tryz.prog (GX X) 52 [xP 0 0, .agg (bs (f_ast_Stmt a1))] [oB 57 [.row 1, .pv (.bool a0.f_form), .pv (.bool a0.f_deep), .pv (.int .i64 a0.f_blocks), .pv (.int .i64 a0.f_parens)], oR false 9 1 (List.map e_str a0.f_out)] (r_ast_writer_stmt r) (o_ast_writer_stmt r)) ∧ (∀ (a0 : ast_writer) (a1 : (List ast_Stmt)) (r : ast_writer), ast_writer_blockN n a0 a1 = some r → Cs Tryz.prog (GX X) 66 [xP 0 0, xL (List.map e_ast_Stmt a1)] [oB 57 [.row 1, .pv (.bool a0.f_form), .pv (.bool a0.f_deep), .pv (.int .i64 a0.f_blocks), .pv (.int .i64 a0.f_parens)], oR false 9 1 (List.map e_str a0.f_out)] (r_ast_writer_block r) (o_ast_writer_block r)) ∧ (∀ (a0 : ast_writer) (a1 : (List ast_Arm)) (r : ast_writer), ast_writer_armsN n a0 a1 = some r → Cs Tryz.prog (GX X) 67 [xP 0 0, xL (List.map e_ast_Arm a1)] [oB 57 [.row 1, .pv (.bool a0.f_form), .pv (.bool a0.f_deep), .pv (.int .i64 a0.f_blocks), .pv (.int .i64 a0.f_parens)], oR false 9 1 (List.map e_str a0.f_out)] (r_ast_writer_arms r) (o_ast_writer_arms r))
  | 0 => ⟨(fun _ _ _ h => by rw [ast_writer_stmtsN] at h; cases h), (fun _ _ _ h => by rw [ast_writer_stmtN] at h; cases h), (fun _ _ _ h => by rw [ast_writer_blockN] at h; cases h), (fun _ _ _ h => by rw [ast_writer_armsN] at h; cases h)⟩
  | n + 1 => by
    have ih := all_ast_writer_stmts n
    exact ⟨s_ast_writer_stmts ih.1 ih.2.1 ih.2.2.1 ih.2.2.2, s_ast_writer_stmt ih.1 ih.2.1 ih.2.2.1 ih.2.2.2, s_ast_writer_block ih.1 ih.2.1 ih.2.2.1 ih.2.2.2, s_ast_writer_arms ih.1 ih.2.1 ih.2.2.1 ih.2.2.2⟩

theorem m_ast_writer_stmts {a0 : ast_writer} {a1 : (List ast_Stmt)} {r : ast_writer} (h : ast_writer_stmts a0 a1 = some r) : Cs Tryz.prog (GX X) 35 [xP 0 0, xL (List.map e_ast_Stmt a1)] [oB 57 [.row 1, .pv (.bool a0.f_form), .pv (.bool a0.f_deep), .pv (.int .i64 a0.f_blocks), .pv (.int .i64 a0.f_parens)], oR false 9 1 (List.map e_str a0.f_out)] (r_ast_writer_stmts r) (o_ast_writer_stmts r) := by
  obtain ⟨n, hn⟩ := unfE h
  exact (all_ast_writer_stmts n).1 _ _ _ hn

theorem m_ast_writer_stmt {a0 : ast_writer} {a1 : ast_Stmt} {r : ast_writer} (h : ast_writer_stmt a0 a1 = some r) : Cs Tryz.prog (GX X) 52 [xP 0 0, .agg (bs (f_ast_Stmt a1))] [oB 57 [.row 1, .pv (.bool a0.f_form), .pv (.bool a0.f_deep), .pv (.int .i64 a0.f_blocks), .pv (.int .i64 a0.f_parens)], oR false 9 1 (List.map e_str a0.f_out)] (r_ast_writer_stmt r) (o_ast_writer_stmt r) := by
  obtain ⟨n, hn⟩ := unfE h
  exact (all_ast_writer_stmts n).2.1 _ _ _ hn

theorem m_ast_writer_block {a0 : ast_writer} {a1 : (List ast_Stmt)} {r : ast_writer} (h : ast_writer_block a0 a1 = some r) : Cs Tryz.prog (GX X) 66 [xP 0 0, xL (List.map e_ast_Stmt a1)] [oB 57 [.row 1, .pv (.bool a0.f_form), .pv (.bool a0.f_deep), .pv (.int .i64 a0.f_blocks), .pv (.int .i64 a0.f_parens)], oR false 9 1 (List.map e_str a0.f_out)] (r_ast_writer_block r) (o_ast_writer_block r) := by
  obtain ⟨n, hn⟩ := unfE h
  exact (all_ast_writer_stmts n).2.2.1 _ _ _ hn

theorem m_ast_writer_arms {a0 : ast_writer} {a1 : (List ast_Arm)} {r : ast_writer} (h : ast_writer_arms a0 a1 = some r) : Cs Tryz.prog (GX X) 67 [xP 0 0, xL (List.map e_ast_Arm a1)] [oB 57 [.row 1, .pv (.bool a0.f_form), .pv (.bool a0.f_deep), .pv (.int .i64 a0.f_blocks), .pv (.int .i64 a0.f_parens)], oR false 9 1 (List.map e_str a0.f_out)] (r_ast_writer_arms r) (o_ast_writer_arms r) := by
  obtain ⟨n, hn⟩ := unfE h
  exact (all_ast_writer_stmts n).2.2.2 _ _ _ hn

theorem m_ast_writer_proc {a0 : ast_writer} {a1 : ast_Proc} {r : ast_writer} (h : ast_writer_proc a0 a1 = some r) : Cs Tryz.prog (GX X) 13 [xP 0 0, .agg (bs (e_ast_Proc a1))] [oB 57 [.row 1, .pv (.bool a0.f_form), .pv (.bool a0.f_deep), .pv (.int .i64 a0.f_blocks), .pv (.int .i64 a0.f_parens)], oR false 9 1 (List.map e_str a0.f_out)] (r_ast_writer_proc r) (o_ast_writer_proc r) := by
  refine fnT (cx := cx X) Tryz.f13 Tryz.call13 Tryz.func13 (by kernel_rfl) ?_
  unfold ast_writer_proc at h
  obtain ⟨v1, k1, h⟩ := bindE h
  obtain ⟨v2, k2, h⟩ := bindE h
  obtain ⟨v3, k3, h⟩ := bindE h
  refine adv (ok X) 11 [.s (r_ast_writer_put v1) (o_ast_writer_put v1), .s (r_ast_writer_name v2) (o_ast_writer_name v2), .s (r_ast_writer_put v3) (o_ast_writer_put v3), .i (a1.Vars.length : Int)] (pA (m_ast_writer_put (X := X) k1) (pA (m_ast_writer_name (X := X) k2) (pA (m_ast_writer_put (X := X) k3) (pA (lm e_str a1.Vars) pT)))) (by kernel_rfl) ?_
  refine lp (ok X) (ast_writer_proc_l1 a1) (fun (x1 : (Int × Bool × Bool × Int × Int × (List ByteArray))) => ⟨40, 2, [(0, [xP 0 0]), (3, [xP 2 0]), (17, [xL (List.map e_str a1.Vars)]), (18, [xI (a1.Vars.length : Int)]), (19, [xI x1.1])], [oB 57 [.row 1, .pv (.bool x1.2.1), .pv (.bool x1.2.2.1), .pv (.int .i64 x1.2.2.2.1), .pv (.int .i64 x1.2.2.2.2.1)], oR true 9 1 (List.map e_str x1.2.2.2.2.2), oB 67 (bs (e_ast_Proc a1))]⟩) (fun (j1 : (Bool × Bool × Int × Int × (List ByteArray))) => ⟨40, 2, [(0, [xP 0 0]), (3, [xP 2 0])], [oB 57 [.row 1, .pv (.bool j1.1), .pv (.bool j1.2.1), .pv (.int .i64 j1.2.2.1), .pv (.int .i64 j1.2.2.2.1)], oR true 9 1 (List.map e_str j1.2.2.2.2), oB 67 (bs (e_ast_Proc a1))]⟩) R_ast_writer_proc (0, v3.f_form, v3.f_deep, v3.f_blocks, v3.f_parens, v3.f_out) (fun _ => ⟨_, _, _, _, rfl⟩) h (by kernel_rfl) (fun x1 o h => ?_) (fun r' h => ?_) (fun j1 h => ?_)
  · unfold ast_writer_proc_l1 at h
    rcases iteE h with ⟨k4, h⟩ | ⟨k4, h⟩
    · obtain ⟨v4, k5, h⟩ := bindE h
      obtain ⟨v5, k6, h⟩ := bindE h
      obtain ⟨v6, k7, h⟩ := bindE h
      obtain ⟨v7, k8, h⟩ := bindE h
      obtain rfl := retE h
      exact fin (ok X) 16 [.b true, .e [.str v4], .s (r_ast_writer_put v5) (o_ast_writer_put v5), .s (r_ast_writer_name v6) (o_ast_writer_name v6), .s (r_ast_writer_put v7) (o_ast_writer_put v7)] (pA k4 (pA (ixm e_str k5) (pA (m_ast_writer_put (X := X) k6) (pA (m_ast_writer_name (X := X) k7) (pA (m_ast_writer_put (X := X) k8) pT))))) (by kernel_rfl)
    · obtain rfl := retE h
      exact fin (ok X) 5 [.b false] (pA k4 pT) (by kernel_rfl)
  · cases h
  · obtain ⟨v8, k9, h⟩ := bindE h
    obtain ⟨v9, k10, h⟩ := bindE h
    obtain rfl := retE h
    exact fin (ok X) 3 [.s (r_ast_writer_stmts v8) (o_ast_writer_stmts v8), .s (r_ast_writer_put v9) (o_ast_writer_put v9)] (pA (m_ast_writer_stmts (X := X) k9) (pA (m_ast_writer_put (X := X) k10) pT)) (by kernel_rfl)

theorem m_ast_Words {a0 : ast_System} {r : ((List ByteArray) × Int)} (h : ast_Words a0 = some r) : Cv Tryz.prog (GX X) 5 [.agg (bs (e_ast_System a0))] (r_ast_Words r) := by
  refine Cs.toV (?_ : Cs Tryz.prog (GX X) 5 [.agg (bs (e_ast_System a0))] [] (r_ast_Words r) (o_ast_Words r)) (by kernel_rfl)
  refine fnT (cx := cx X) Tryz.f5 Tryz.call5 Tryz.func5 (by kernel_rfl) ?_
  unfold ast_Words at h
  refine adv (ok X) 7 [.i (a0.Chans.length : Int)] (pA (lm e_ast_Chan a0.Chans) pT) (by kernel_rfl) ?_
  refine lp (ok X) (ast_Words_l1 a0) (fun (x1 : (Int × Bool × Bool × Int × Int × (List ByteArray))) => ⟨67, 0, [(1, [xP 0 0]), (4, [xP 1 0]), (14, [xL (List.map e_ast_Chan a0.Chans)]), (15, [xI (a0.Chans.length : Int)]), (16, [xI x1.1])], [oB 46 (bs (e_ast_System a0)), oB 57 [.row 2, .pv (.bool x1.2.1), .pv (.bool x1.2.2.1), .pv (.int .i64 x1.2.2.2.1), .pv (.int .i64 x1.2.2.2.2.1)], oR true 9 1 (List.map e_str x1.2.2.2.2.2)]⟩) (fun (j1 : (Bool × Bool × Int × Int × (List ByteArray))) => ⟨67, 0, [(1, [xP 0 0]), (4, [xP 1 0])], [oB 46 (bs (e_ast_System a0)), oB 57 [.row 2, .pv (.bool j1.1), .pv (.bool j1.2.1), .pv (.int .i64 j1.2.2.1), .pv (.int .i64 j1.2.2.2.1)], oR true 9 1 (List.map e_str j1.2.2.2.2)]⟩) R_ast_Words (0, false, false, 0, 0, []) (fun _ => ⟨_, _, _, _, rfl⟩) h (by kernel_rfl) (fun x1 o h => ?_) (fun r' h => ?_) (fun j1 h => ?_)
  · unfold ast_Words_l1 at h
    rcases iteE h with ⟨k1, h⟩ | ⟨k1, h⟩
    · obtain ⟨v1, k2, h⟩ := bindE h
      obtain ⟨v2, k3, h⟩ := bindE h
      obtain rfl := retE h
      exact fin (ok X) 12 [.b true, .e (e_ast_Chan v1), .s (r_ast_writer_channel v2) (o_ast_writer_channel v2)] (pA k1 (pA (ixm e_ast_Chan k2) (pA (m_ast_writer_channel (X := X) k3) pT))) (by kernel_rfl)
    · obtain rfl := retE h
      exact fin (ok X) 5 [.b false] (pA k1 pT) (by kernel_rfl)
  · cases h
  · refine adv (ok X) 3 [.i (a0.Rules.length : Int)] (pA (lm e_ast_Rule a0.Rules) pT) (by kernel_rfl) ?_
    refine lp (ok X) (ast_Words_l2 a0) (fun (x2 : (Int × Bool × Bool × Int × Int × (List ByteArray))) => ⟨67, 0, [(1, [xP 0 0]), (4, [xP 1 0]), (25, [xL (List.map e_ast_Rule a0.Rules)]), (26, [xI (a0.Rules.length : Int)]), (27, [xI x2.1])], [oB 46 (bs (e_ast_System a0)), oB 57 [.row 2, .pv (.bool x2.2.1), .pv (.bool x2.2.2.1), .pv (.int .i64 x2.2.2.2.1), .pv (.int .i64 x2.2.2.2.2.1)], oR true 9 1 (List.map e_str x2.2.2.2.2.2)]⟩) (fun (j2 : (Bool × Bool × Int × Int × (List ByteArray))) => ⟨67, 0, [(1, [xP 0 0]), (4, [xP 1 0])], [oB 46 (bs (e_ast_System a0)), oB 57 [.row 2, .pv (.bool j2.1), .pv (.bool j2.2.1), .pv (.int .i64 j2.2.2.1), .pv (.int .i64 j2.2.2.2.1)], oR true 9 1 (List.map e_str j2.2.2.2.2)]⟩) R_ast_Words (0, j1.1, j1.2.1, j1.2.2.1, j1.2.2.2.1, j1.2.2.2.2) (fun _ => ⟨_, _, _, _, rfl⟩) h (by kernel_rfl) (fun x2 o h => ?_) (fun r' h => ?_) (fun j2 h => ?_)
    · unfold ast_Words_l2 at h
      rcases iteE h with ⟨k4, h⟩ | ⟨k4, h⟩
      · obtain ⟨v3, k5, h⟩ := bindE h
        obtain ⟨v4, k6, h⟩ := bindE h
        obtain rfl := retE h
        exact fin (ok X) 12 [.b true, .e (e_ast_Rule v3), .s (r_ast_writer_rule v4) (o_ast_writer_rule v4)] (pA k4 (pA (ixm e_ast_Rule k5) (pA (m_ast_writer_rule (X := X) k6) pT))) (by kernel_rfl)
      · obtain rfl := retE h
        exact fin (ok X) 5 [.b false] (pA k4 pT) (by kernel_rfl)
    · cases h
    · refine adv (ok X) 3 [.i (a0.Procs.length : Int)] (pA (lm e_ast_Proc a0.Procs) pT) (by kernel_rfl) ?_
      refine lp (ok X) (ast_Words_l3 a0) (fun (x3 : (Int × Bool × Bool × Int × Int × (List ByteArray))) => ⟨67, 0, [(4, [xP 1 0]), (36, [xL (List.map e_ast_Proc a0.Procs)]), (37, [xI (a0.Procs.length : Int)]), (38, [xI x3.1])], [none, oB 57 [.row 2, .pv (.bool x3.2.1), .pv (.bool x3.2.2.1), .pv (.int .i64 x3.2.2.2.1), .pv (.int .i64 x3.2.2.2.2.1)], oR true 9 1 (List.map e_str x3.2.2.2.2.2)]⟩) (fun (j3 : (Bool × Bool × Int × Int × (List ByteArray))) => ⟨67, 0, [(4, [xP 1 0])], [none, oB 57 [.row 2, .pv (.bool j3.1), .pv (.bool j3.2.1), .pv (.int .i64 j3.2.2.1), .pv (.int .i64 j3.2.2.2.1)], oR true 9 1 (List.map e_str j3.2.2.2.2)]⟩) R_ast_Words (0, j2.1, j2.2.1, j2.2.2.1, j2.2.2.2.1, j2.2.2.2.2) (fun _ => ⟨_, _, _, _, rfl⟩) h (by kernel_rfl) (fun x3 o h => ?_) (fun r' h => ?_) (fun j3 h => ?_)
      · unfold ast_Words_l3 at h
        rcases iteE h with ⟨k7, h⟩ | ⟨k7, h⟩
        · obtain ⟨v5, k8, h⟩ := bindE h
          obtain ⟨v6, k9, h⟩ := bindE h
          obtain rfl := retE h
          exact fin (ok X) 12 [.b true, .e (e_ast_Proc v5), .s (r_ast_writer_proc v6) (o_ast_writer_proc v6)] (pA k7 (pA (ixm e_ast_Proc k8) (pA (m_ast_writer_proc (X := X) k9) pT))) (by kernel_rfl)
        · obtain rfl := retE h
          exact fin (ok X) 5 [.b false] (pA k7 pT) (by kernel_rfl)
      · cases h
      · rcases iteE h with ⟨k10, h⟩ | ⟨k10, h⟩
        · obtain rfl := retE h
          exact fin (ok X) 8 [.b true] (pA k10 pT) (by kernel_rfl)
        · refine adv (ok X) 7 [.b false] (pA k10 pT) (by kernel_rfl) ?_
          rcases iteE h with ⟨k11, h⟩ | ⟨k11, h⟩
          · obtain rfl := retE h
            exact fin (ok X) 4 [.b true] (pA k11 pT) (by kernel_rfl)
          · refine adv (ok X) 3 [.b false, .i (j3.2.2.2.2.length : Int)] (pA k11 (pA (lm e_str j3.2.2.2.2) pT)) (by kernel_rfl) ?_
            rcases iteE h with ⟨k12, h⟩ | ⟨k12, h⟩
            · obtain rfl := retE h
              exact fin (ok X) 4 [.b true] (pA k12 pT) (by kernel_rfl)
            · obtain rfl := retE h
              exact fin (ok X) 6 [.b false] (pA k12 pT) (by kernel_rfl)

theorem m_r01_letter {a0 : Int} {r : Bool} (h : r01_letter a0 = some r) : Cv Tryz.prog (GX X) 68 [.c (.pv (.int .u8 a0))] (r_r01_letter r) := by
  refine Cs.toV (?_ : Cs Tryz.prog (GX X) 68 [.c (.pv (.int .u8 a0))] [] (r_r01_letter r) (o_r01_letter r)) (by kernel_rfl)
  refine fnT (cx := cx X) Tryz.f68 Tryz.call68 Tryz.func68 (by kernel_rfl) ?_
  unfold r01_letter at h
  rcases iteE h with ⟨k1, h⟩ | ⟨k1, h⟩
  · obtain rfl := retE h
    exact fin (ok X) 5 [.b true, .b true, .b true] (pA k1 (pA k1 (pA k1 pT))) (by kernel_rfl)
  · obtain rfl := retE h
    exact fin (ok X) 5 [.b false, .b false, .b false] (pA k1 (pA k1 (pA k1 pT))) (by kernel_rfl)
end Go.Proofs.YtaaihamelknhdaaGreatDoor.Abs

/- Gw: the functions are these. -/
import Derived.Test.YtokjbpmjdcbogaaGreatDoorGwW1
namespace Go.Proofs.YtokjbpmjdcbogaaGreatDoor.Abs
open Go Go.RowKit
set_option linter.unusedVariables false
set_option maxRecDepth 100000
set_option maxHeartbeats 4000000
variable {X : EV}
theorem m_l02_System {a0 : r02_System} {r : ast_System} (h : l02_System a0 = some r) : Cv Tryz.prog (GX X) 13 [.agg (bs (e_r02_System a0))] (r_l02_System r) := by
  refine Cs.toV (?_ : Cs Tryz.prog (GX X) 13 [.agg (bs (e_r02_System a0))] [] (r_l02_System r) (o_l02_System r)) (by kernel_rfl)
  refine fnT (cx := cx X) Tryz.f13 Tryz.call13 Tryz.func13 (by kernel_rfl) ?_
  unfold l02_System at h
  refine adv (ok X) 7 [] pT (by kernel_rfl) ?_
  refine lp (ok X) (l02_System_l1 a0) (fun (x1 : (Int × (List ast_Chan))) => ⟨124, 0, [(1, [xP 0 0]), (2, [xP 1 0]), (3, [xP 2 0]), (4, [xI x1.1])], [oB 34 (bs (e_r02_System a0)), oB 26 [.emp, .emp, .emp], oB 26 [.row 3, .emp, .emp], oR true 73 6 (List.map e_ast_Chan x1.2)]⟩) (fun (j1 : (List ast_Chan)) => ⟨124, 0, [(1, [xP 0 0]), (2, [xP 1 0]), (3, [xP 2 0])], [oB 34 (bs (e_r02_System a0)), oB 26 [.emp, .emp, .emp], oB 26 [.row 3, .emp, .emp], oR true 73 6 (List.map e_ast_Chan j1)]⟩) R_l02_System (0, []) (fun _ => ⟨_, _, _, _, rfl⟩) h (by kernel_rfl) (fun x1 o h => ?_) (fun r' h => ?_) (fun j1 h => ?_)
  · unfold l02_System_l1 at h
    refine adv (ok X) 3 [.i (a0.Chans.length : Int)] (pA (lm e_r02_Chan a0.Chans) pT) (by kernel_rfl) ?_
    rcases iteE h with ⟨k1, h⟩ | ⟨k1, h⟩
    · obtain ⟨v1, k2, h⟩ := bindE h
      obtain ⟨v2, k3, h⟩ := bindE h
      obtain ⟨v3, k4, h⟩ := bindE h
      obtain rfl := retE h
      exact fin (ok X) 9 [.b true, .e (e_r02_Chan v1), .o [0, 1, 2, 3, 4, 5, 6, 7, 8, 9, 10, 11, 12, 13, 14, 15, 16, 17, 18, 19, 20], .cp (List.map e_str v2), .l (List.map e_ast_Chan v3)] (pA k1 (pA (ixm e_r02_Chan k2) (pA (apm e_str_len k3) (pA (apm (L := x1.2) (M := [(ast_Chan.mk v1.Name v1.Kind v1.Size v1.From v1.To v2)]) e_ast_Chan_len k4) pT)))) (by kernel_rfl)
    · obtain rfl := retE h
      exact fin (ok X) 2 [.b false] (pA k1 pT) (by kernel_rfl)
  · cases h
  · refine adv (ok X) 3 [] pT (by kernel_rfl) ?_
    refine lp (ok X) (l02_System_l2 a0) (fun (x2 : (Int × (List ast_Rule))) => ⟨124, 0, [(1, [xP 0 0]), (2, [xP 1 0]), (3, [xP 2 0]), (6, [xI x2.1])], [oB 34 (bs (e_r02_System a0)), oB 26 [.emp, .emp, .emp], oB 26 [.row 3, .row 4, .emp], oR true 73 6 (List.map e_ast_Chan j1), oR true 77 2 (List.map e_ast_Rule x2.2)]⟩) (fun (j2 : (List ast_Rule)) => ⟨124, 0, [(1, [xP 0 0]), (2, [xP 1 0]), (3, [xP 2 0])], [oB 34 (bs (e_r02_System a0)), oB 26 [.emp, .emp, .emp], oB 26 [.row 3, .row 4, .emp], oR true 73 6 (List.map e_ast_Chan j1), oR true 77 2 (List.map e_ast_Rule j2)]⟩) R_l02_System (0, []) (fun _ => ⟨_, _, _, _, rfl⟩) h (by kernel_rfl) (fun x2 o h => ?_) (fun r' h => ?_) (fun j2 h => ?_)
    · unfold l02_System_l2 at h
      refine adv (ok X) 3 [.i (a0.Rules.length : Int)] (pA (lm e_r02_Rule a0.Rules) pT) (by kernel_rfl) ?_
      rcases iteE h with ⟨k5, h⟩ | ⟨k5, h⟩
      · obtain ⟨v4, k6, h⟩ := bindE h
        refine adv (ok X) 9 [.b true, .e (e_r02_Rule v4)] (pA k5 (pA (ixm e_r02_Rule k6) pT)) (by kernel_rfl) ?_
        refine lp (ok X) (l02_System_l3 a0 x2) (fun (x3 : (Int × (List ast_Move))) => ⟨124, 0, [(1, [xP 0 0]), (2, [xP 1 0]), (3, [xP 2 0]), (6, [xI x2.1]), (7, [xP 5 0]), (8, [xI x3.1])], [oB 34 (bs (e_r02_System a0)), oB 26 [.emp, .emp, .emp], oB 26 [.row 3, .row 4, .emp], oR true 73 6 (List.map e_ast_Chan j1), oR true 77 2 (List.map e_ast_Rule x2.2), oB 77 [.pv (.str v4.Chan), .row 6], oR true 111 3 (List.map e_ast_Move x3.2)]⟩) (fun (j3 : (List ast_Move)) => ⟨124, 0, [(1, [xP 0 0]), (2, [xP 1 0]), (3, [xP 2 0]), (6, [xI x2.1]), (7, [xP 5 0])], [oB 34 (bs (e_r02_System a0)), oB 26 [.emp, .emp, .emp], oB 26 [.row 3, .row 4, .emp], oR true 73 6 (List.map e_ast_Chan j1), oR true 77 2 (List.map e_ast_Rule x2.2), oB 77 [.pv (.str v4.Chan), .row 6], oR true 111 3 (List.map e_ast_Move j3)]⟩) R_l02_System (0, []) (fun _ => ⟨_, _, _, _, rfl⟩) h (by kernel_rfl) (fun x3 o h => ?_) (fun r' h => ?_) (fun j3 h => ?_)
        · unfold l02_System_l3 at h
          obtain ⟨v5, k7, h⟩ := bindE h
          refine adv (ok X) 3 [.e (e_r02_Rule v5), .i (v5.Moves.length : Int)] (pA (ixm e_r02_Rule k7) (pA (lm e_r02_Move v5.Moves) pT)) (by kernel_rfl) ?_
          rcases iteE h with ⟨k8, h⟩ | ⟨k8, h⟩
          · obtain ⟨v6, k9, h⟩ := bindE h
            obtain ⟨v7, k10, h⟩ := bindE h
            obtain ⟨v8, k11, h⟩ := bindE h
            obtain rfl := retE h
            exact fin (ok X) 9 [.b true, .e (e_r02_Rule v6), .e (e_r02_Move v7), .l (List.map e_ast_Move v8)] (pA k8 (pA (ixm e_r02_Rule k9) (pA (ixm e_r02_Move k10) (pA (apm (L := x3.2) (M := [(ast_Move.mk v7.From v7.Tag v7.To)]) e_ast_Move_len k11) pT)))) (by kernel_rfl)
          · obtain rfl := retE h
            exact fin (ok X) 2 [.b false] (pA k8 pT) (by kernel_rfl)
        · cases h
        · obtain ⟨v9, k12, h⟩ := bindE h
          obtain rfl := retE h
          exact fin (ok X) 3 [.z (.fz 6), .l (List.map e_ast_Rule v9)] (pA (apm (L := x2.2) (M := [(ast_Rule.mk v4.Chan j3)]) e_ast_Rule_len k12) pT) (by kernel_rfl)
      · obtain rfl := retE h
        exact fin (ok X) 2 [.b false] (pA k5 pT) (by kernel_rfl)
    · cases h
    · refine adv (ok X) 3 [] pT (by kernel_rfl) ?_
      refine lp (ok X) (l02_System_l4 a0) (fun (x4 : (Int × (List ast_Proc))) => ⟨124, 0, [(1, [xP 0 0]), (2, [xP 1 0]), (3, [xP 2 0]), (10, [xI x4.1])], [oB 34 (bs (e_r02_System a0)), oB 26 [.emp, .emp, .emp], oB 26 [.row 3, .row 4, .row 5], oR true 73 6 (List.map e_ast_Chan j1), oR true 77 2 (List.map e_ast_Rule j2), oR true 81 3 (List.map e_ast_Proc x4.2)]⟩) (fun (j4 : (List ast_Proc)) => ⟨124, 0, [(2, [xP 1 0]), (3, [xP 2 0])], [none, oB 26 [.emp, .emp, .emp], oB 26 [.row 3, .row 4, .row 5], oR true 73 6 (List.map e_ast_Chan j1), oR true 77 2 (List.map e_ast_Rule j2), oR true 81 3 (List.map e_ast_Proc j4)]⟩) R_l02_System (0, []) (fun _ => ⟨_, _, _, _, rfl⟩) h (by kernel_rfl) (fun x4 o h => ?_) (fun r' h => ?_) (fun j4 h => ?_)
      · unfold l02_System_l4 at h
        refine adv (ok X) 3 [.i (a0.Procs.length : Int)] (pA (lm e_r02_Proc a0.Procs) pT) (by kernel_rfl) ?_
        rcases iteE h with ⟨k13, h⟩ | ⟨k13, h⟩
        · obtain ⟨v10, k14, h⟩ := bindE h
          obtain ⟨v11, k15, h⟩ := bindE h
          obtain ⟨v12, k16, h⟩ := bindE h
          obtain ⟨v13, k17, h⟩ := bindE h
          obtain rfl := retE h
          exact fin (ok X) 9 [.b true, .e (e_r02_Proc v10), .o [0, 1, 2, 3, 4, 5, 6, 7, 8, 9, 10, 11, 12, 13, 14, 15], .cp (List.map e_str v11), .c (r_l02_Stmts v12), .l (List.map e_ast_Proc v13)] (pA k13 (pA (ixm e_r02_Proc k14) (pA (apm e_str_len k15) (pA (m_l02_Stmts (X := X) k16) (pA (apm (L := x4.2) (M := [(ast_Proc.mk v10.Name v11 v12)]) e_ast_Proc_len k17) pT))))) (by kernel_rfl)
        · obtain rfl := retE h
          exact fin (ok X) 2 [.b false] (pA k13 pT) (by kernel_rfl)
      · cases h
      · obtain rfl := retE h
        exact fin (ok X) 3 [] pT (by kernel_rfl)

theorem m_ast_Move_ {a0 : (List ast_Move)} {a1 : (List ast_Move)} {r : Bool} (h : ast_Move_ a0 a1 = some r) : Cv Tryz.prog (GX X) 35 [xL (List.map e_ast_Move a0), xL (List.map e_ast_Move a1)] (r_ast_Move_ r) := by
  refine Cs.toV (?_ : Cs Tryz.prog (GX X) 35 [xL (List.map e_ast_Move a0), xL (List.map e_ast_Move a1)] [] (r_ast_Move_ r) (o_ast_Move_ r)) (by kernel_rfl)
  refine fnT (cx := cx X) Tryz.f35 Tryz.call35 Tryz.func35 (by kernel_rfl) ?_
  unfold ast_Move_ at h
  refine adv (ok X) 5 [.i (a0.length : Int), .i (a1.length : Int)] (pA (lm e_ast_Move a0) (pA (lm e_ast_Move a1) pT)) (by kernel_rfl) ?_
  rcases iteE h with ⟨k1, h⟩ | ⟨k1, h⟩
  · obtain rfl := retE h
    exact fin (ok X) 4 [.b true] (pA k1 pT) (by kernel_rfl)
  · refine adv (ok X) 5 [.b false, .i (a0.length : Int)] (pA k1 (pA (lm e_ast_Move a0) pT)) (by kernel_rfl) ?_
    refine lp (ok X) (ast_Move__l1 a0 a1) (fun (x1 : Int) => ⟨26, 0, [(0, [xL (List.map e_ast_Move a0)]), (1, [xL (List.map e_ast_Move a1)]), (12, [xI (a0.length : Int)]), (13, [xI x1])], []⟩) (fun (j1 : Unit) => ⟨26, 0, [], []⟩) R_ast_Move_ 0 (fun _ => ⟨_, _, _, _, rfl⟩) h (by kernel_rfl) (fun x1 o h => ?_) (fun r' h => ?_) (fun j1 h => ?_)
    · unfold ast_Move__l1 at h
      rcases iteE h with ⟨k2, h⟩ | ⟨k2, h⟩
      · obtain ⟨v1, k3, h⟩ := bindE h
        obtain ⟨v2, k4, h⟩ := bindE h
        refine adv (ok X) 11 [.b true, .o [0, 1, 2, 3, 4, 5, 6, 7, 8], .e (e_ast_Move v1), .e (e_ast_Move v2)] (pA k2 (pA (ixm e_ast_Move k3) (pA (ixm e_ast_Move k4) pT))) (by kernel_rfl) ?_
        rcases iteE h with ⟨k5, h⟩ | ⟨k5, h⟩
        · obtain rfl := retE h
          exact fin (ok X) 4 [.b true] (pA k5 pT) (by kernel_rfl)
        · obtain rfl := retE h
          exact fin (ok X) 4 [.b false] (pA k5 pT) (by kernel_rfl)
      · obtain rfl := retE h
        exact fin (ok X) 5 [.b false] (pA k2 pT) (by kernel_rfl)
    · obtain rfl := retE h
      kernel_rfl
    · obtain rfl := retE h
      exact fin (ok X) 3 [] pT (by kernel_rfl)

theorem m_ast_Same_1 {a0 : ast_Rule} {a1 : ast_Rule} {r : Bool} (h : ast_Same_1 a0 a1 = some r) : Cv Tryz.prog (GX X) 34 [.agg (bs (e_ast_Rule a0)), .agg (bs (e_ast_Rule a1))] (r_ast_Same_1 r) := by
  refine Cs.toV (?_ : Cs Tryz.prog (GX X) 34 [.agg (bs (e_ast_Rule a0)), .agg (bs (e_ast_Rule a1))] [] (r_ast_Same_1 r) (o_ast_Same_1 r)) (by kernel_rfl)
  refine fnT (cx := cx X) Tryz.f34 Tryz.call34 Tryz.func34 (by kernel_rfl) ?_
  unfold ast_Same_1 at h
  rcases iteE h with ⟨k1, h⟩ | ⟨k1, h⟩
  · obtain ⟨v1, k2, h⟩ := bindE h
    obtain rfl := retE h
    exact fin (ok X) 5 [.b true, .b true, .b true, .b true, .b true, .c (r_ast_Move_ v1), .b true] (pA k1 (pA k1 (pA k1 (pA k1 (pA k1 (pA (m_ast_Move_ (X := X) k2) (pA k1 pT))))))) (by kernel_rfl)
  · obtain rfl := retE h
    exact fin (ok X) 5 [.b false, .b false, .b false, .b false, .b false, .b false] (pA k1 (pA k1 (pA k1 (pA k1 (pA k1 (pA k1 pT)))))) (by kernel_rfl)

theorem m_ast_Rule__ast_Same_1 {a0 : (List ast_Rule)} {a1 : (List ast_Rule)} {r : Bool} (h : ast_Rule__ast_Same_1 a0 a1 = some r) : Cv Tryz.prog (GX X) 33 [xL (List.map e_ast_Rule a0), xL (List.map e_ast_Rule a1), .fn (.func 34) [] []] (r_ast_Rule__ast_Same_1 r) := by
  refine Cs.toV (?_ : Cs Tryz.prog (GX X) 33 [xL (List.map e_ast_Rule a0), xL (List.map e_ast_Rule a1), .fn (.func 34) [] []] [] (r_ast_Rule__ast_Same_1 r) (o_ast_Rule__ast_Same_1 r)) (by kernel_rfl)
  refine fnT (cx := cx X) Tryz.f33 Tryz.call33 Tryz.func33 (by kernel_rfl) ?_
  unfold ast_Rule__ast_Same_1 at h
  refine adv (ok X) 5 [.i (a0.length : Int), .i (a1.length : Int)] (pA (lm e_ast_Rule a0) (pA (lm e_ast_Rule a1) pT)) (by kernel_rfl) ?_
  rcases iteE h with ⟨k1, h⟩ | ⟨k1, h⟩
  · obtain rfl := retE h
    exact fin (ok X) 4 [.b true] (pA k1 pT) (by kernel_rfl)
  · refine adv (ok X) 5 [.b false, .i (a0.length : Int)] (pA k1 (pA (lm e_ast_Rule a0) pT)) (by kernel_rfl) ?_
    refine lp (ok X) (ast_Rule__ast_Same_1_l1 a0 a1) (fun (x1 : Int) => ⟨32, 0, [(1, [xL (List.map e_ast_Rule a1)]), (2, [.fn (.func 34) [] []]), (15, [xL (List.map e_ast_Rule a0)]), (16, [xI (a0.length : Int)]), (17, [xI x1])], []⟩) (fun (j1 : Unit) => ⟨32, 0, [], []⟩) R_ast_Rule__ast_Same_1 0 (fun _ => ⟨_, _, _, _, rfl⟩) h (by kernel_rfl) (fun x1 o h => ?_) (fun r' h => ?_) (fun j1 h => ?_)
    · unfold ast_Rule__ast_Same_1_l1 at h
      rcases iteE h with ⟨k2, h⟩ | ⟨k2, h⟩
      · obtain ⟨v1, k3, h⟩ := bindE h
        obtain ⟨v2, k4, h⟩ := bindE h
        obtain ⟨v3, k5, h⟩ := bindE h
        refine adv (ok X) 13 [.b true, .e (e_ast_Rule v1), .e (e_ast_Rule v2), .c (r_ast_Same_1 v3)] (pA k2 (pA (ixm e_ast_Rule k3) (pA (ixm e_ast_Rule k4) (pA (m_ast_Same_1 (X := X) k5) pT)))) (by kernel_rfl) ?_
        rcases iteE h with ⟨k6, h⟩ | ⟨k6, h⟩
        · obtain rfl := retE h
          exact fin (ok X) 4 [.b true] (pA k6 pT) (by kernel_rfl)
        · obtain rfl := retE h
          exact fin (ok X) 4 [.b false] (pA k6 pT) (by kernel_rfl)
      · obtain rfl := retE h
        exact fin (ok X) 5 [.b false] (pA k2 pT) (by kernel_rfl)
    · obtain rfl := retE h
      kernel_rfl
    · obtain rfl := retE h
      exact fin (ok X) 3 [] pT (by kernel_rfl)

theorem m_slices_Equal_string_string_ {a0 : (List ByteArray)} {a1 : (List ByteArray)} {r : Bool} (h : slices_Equal_string_string_ a0 a1 = some r) : Cv Tryz.prog (GX X) 38 [xL (List.map e_str a0), xL (List.map e_str a1)] (r_slices_Equal_string_string_ r) := by
  refine Cs.toV (?_ : Cs Tryz.prog (GX X) 38 [xL (List.map e_str a0), xL (List.map e_str a1)] [] (r_slices_Equal_string_string_ r) (o_slices_Equal_string_string_ r)) (by kernel_rfl)
  refine fnT (cx := cx X) Tryz.f38 Tryz.call38 Tryz.func38 (by kernel_rfl) ?_
  unfold slices_Equal_string_string_ at h
  refine adv (ok X) 5 [.i (a0.length : Int), .i (a1.length : Int)] (pA (lm e_str a0) (pA (lm e_str a1) pT)) (by kernel_rfl) ?_
  rcases iteE h with ⟨k1, h⟩ | ⟨k1, h⟩
  · obtain rfl := retE h
    exact fin (ok X) 4 [.b true] (pA k1 pT) (by kernel_rfl)
  · refine adv (ok X) 5 [.b false, .i (a0.length : Int)] (pA k1 (pA (lm e_str a0) pT)) (by kernel_rfl) ?_
    refine lp (ok X) (slices_Equal_string_string__l1 a0 a1) (fun (x1 : Int) => ⟨26, 0, [(0, [xL (List.map e_str a0)]), (1, [xL (List.map e_str a1)]), (12, [xI (a0.length : Int)]), (13, [xI x1])], []⟩) (fun (j1 : Unit) => ⟨26, 0, [], []⟩) R_slices_Equal_string_string_ 0 (fun _ => ⟨_, _, _, _, rfl⟩) h (by kernel_rfl) (fun x1 o h => ?_) (fun r' h => ?_) (fun j1 h => ?_)
    · unfold slices_Equal_string_string__l1 at h
      rcases iteE h with ⟨k2, h⟩ | ⟨k2, h⟩
      · obtain ⟨v1, k3, h⟩ := bindE h
        obtain ⟨v2, k4, h⟩ := bindE h
        refine adv (ok X) 11 [.b true, .o [0, 1, 2, 3, 4, 5, 6, 7, 8], .e [.str v1], .e [.str v2]] (pA k2 (pA (ixm e_str k3) (pA (ixm e_str k4) pT))) (by kernel_rfl) ?_
        rcases iteE h with ⟨k5, h⟩ | ⟨k5, h⟩
        · obtain rfl := retE h
          exact fin (ok X) 4 [.b true] (pA k5 pT) (by kernel_rfl)
        · obtain rfl := retE h
          exact fin (ok X) 4 [.b false] (pA k5 pT) (by kernel_rfl)
      · obtain rfl := retE h
        exact fin (ok X) 5 [.b false] (pA k2 pT) (by kernel_rfl)
    · obtain rfl := retE h
      kernel_rfl
    · obtain rfl := retE h
      exact fin (ok X) 3 [] pT (by kernel_rfl)

theorem s_ast_sameExpr {n : Nat} (ih_ast_sameExpr : ∀ (a0 : ast_Expr) (a1 : ast_Expr) (r : Bool), ast_sameExprN n a0 a1 = some r → Cv Tryz.prog (GX X) 69 [.agg (bs (f_ast_Expr a0)), .agg (bs (f_ast_Expr a1))] (r_ast_sameExpr r)) (ih_ast_Expr__ast_sameExpr : ∀ (a0 : (List ast_Expr)) (a1 : (List ast_Expr)) (r : Bool), ast_Expr__ast_sameExprN n a0 a1 = some r → Cv Tryz.prog (GX X) 101 [xL (List.map e_ast_Expr a0), xL (List.map e_ast_Expr a1), .fn (.func 69) [] []] (r_ast_Expr__ast_sameExpr r)) (a0 : ast_Expr) (a1 : ast_Expr) (r : Bool) (h : ast_sameExprN (n + 1) a0 a1 = some r) : Cv Tryz.prog (GX X) 69 [.agg (bs (f_ast_Expr a0)), .agg (bs (f_ast_Expr a1))] (r_ast_sameExpr r) := by
  refine Cs.toV (?_ : Cs Tryz.prog (GX X) 69 [.agg (bs (f_ast_Expr a0)), .agg (bs (f_ast_Expr a1))] [] (r_ast_sameExpr r) (o_ast_sameExpr r)) (by kernel_rfl)
  refine fnT (cx := cx X) Tryz.f69 Tryz.call69 Tryz.func69 (by kernel_rfl) ?_
  rw [ast_sameExprN] at h
  refine adv (ok X) 4 [] pT (by kernel_rfl) ?_
  refine jn (ok X) 1 (fun (j1 : Bool) => ⟨39, 0, [(2, [xP 0 0]), (3, [xP 1 0]), (33, [xB j1])], [oB 103 (bs (f_ast_Expr a0)), oB 103 (bs (f_ast_Expr a1))]⟩) h (fun j1 h => ?_) (fun j1 h => ?_)
  · rcases iteE h with ⟨k1, h⟩ | ⟨k1, h⟩
    · obtain rfl := retE h
      exact fin (ok X) 1 [.b true, .b true, .b true, .b true, .b true, .b true, .b true, .b true, .b true, .b true, .b true, .b true] (pA k1 (pA k1 (pA k1 (pA k1 (pA k1 (pA k1 (pA tt (pA tt (pA tt (pA tt (pA tt (pA tt pT)))))))))))) (by kernel_rfl)
    · rcases iteE h with ⟨k2, h⟩ | ⟨k2, h⟩
      · rcases iteE h with ⟨k3, h⟩ | ⟨k3, h⟩
        · obtain rfl := retE h
          exact fin (ok X) 1 [.b false, .b false, .b false, .b false, .b true, .b true, .b true, .b true, .b true, .b false, .b true, .b false, .b true, .b true, .b true, .b true, .b true, .b true] (pA k1 (pA k1 (pA k1 (pA k1 (pA k2 (pA k2 (pA k2 (pA k2 (pA k2 (pA k1 (pA k2 (pA k1 (pA k3 (pA k3 (pA k3 (pA k3 (pA k3 (pA k3 pT)))))))))))))))))) (by kernel_rfl)
        · rcases iteE h with ⟨k4, h⟩ | ⟨k4, h⟩
          · obtain rfl := retE h
            exact fin (ok X) 1 [.b false, .b false, .b false, .b false, .b true, .b true, .b true, .b true, .b true, .b false, .b true, .b false, .b false, .b false, .b false, .b false, .b true, .b true, .b true, .b true, .b true, .b false, .b true, .b false] (pA k1 (pA k1 (pA k1 (pA k1 (pA k2 (pA k2 (pA k2 (pA k2 (pA k2 (pA k1 (pA k2 (pA k1 (pA k3 (pA k3 (pA k3 (pA k3 (pA k4 (pA k4 (pA k4 (pA k4 (pA k4 (pA k3 (pA k4 (pA k3 pT)))))))))))))))))))))))) (by kernel_rfl)
          · obtain rfl := retE h
            exact fin (ok X) 1 [.b false, .b false, .b false, .b false, .b true, .b true, .b true, .b true, .b true, .b false, .b true, .b false, .b false, .b false, .b false, .b false, .b false, .b false, .b false, .b false, .b false, .b false, .b false, .b false] (pA k1 (pA k1 (pA k1 (pA k1 (pA k2 (pA k2 (pA k2 (pA k2 (pA k2 (pA k1 (pA k2 (pA k1 (pA k3 (pA k3 (pA k3 (pA k3 (pA k4 (pA k4 (pA k4 (pA k4 (pA k4 (pA k3 (pA k4 (pA k3 pT)))))))))))))))))))))))) (by kernel_rfl)
      · rcases iteE h with ⟨k5, h⟩ | ⟨k5, h⟩
        · obtain rfl := retE h
          exact fin (ok X) 1 [.b false, .b false, .b false, .b false, .b false, .b false, .b false, .b false, .b false, .b false, .b false, .b false, .b false, .b false, .b false, .b false, .b true, .b true, .b true, .b true, .b true, .b false, .b true, .b false] (pA k1 (pA k1 (pA k1 (pA k1 (pA k2 (pA k2 (pA k2 (pA k2 (pA k2 (pA k1 (pA k2 (pA k1 (pA ff (pA ff (pA ff (pA ff (pA k5 (pA k5 (pA k5 (pA k5 (pA k5 (pA ff (pA k5 (pA ff pT)))))))))))))))))))))))) (by kernel_rfl)
        · obtain rfl := retE h
          exact fin (ok X) 1 [.b false, .b false, .b false, .b false, .b false, .b false, .b false, .b false, .b false, .b false, .b false, .b false, .b false, .b false, .b false, .b false, .b false, .b false, .b false, .b false, .b false, .b false, .b false, .b false] (pA k1 (pA k1 (pA k1 (pA k1 (pA k2 (pA k2 (pA k2 (pA k2 (pA k2 (pA k1 (pA k2 (pA k1 (pA ff (pA ff (pA ff (pA ff (pA k5 (pA k5 (pA k5 (pA k5 (pA k5 (pA ff (pA k5 (pA ff pT)))))))))))))))))))))))) (by kernel_rfl)
  · rcases iteE h with ⟨k6, h⟩ | ⟨k6, h⟩
    · obtain rfl := retE h
      exact fin (ok X) 4 [.b true] (pA k6 pT) (by kernel_rfl)
    · obtain ⟨v1, k7, h⟩ := bindE h
      obtain rfl := retE h
      exact fin (ok X) 5 [.b false, .c (r_ast_Expr__ast_sameExpr v1)] (pA k6 (pA (ih_ast_Expr__ast_sameExpr _ _ _ k7) pT)) (by kernel_rfl)

theorem s_ast_Expr__ast_sameExpr {n : Nat} (ih_ast_sameExpr : ∀ (a0 : ast_Expr) (a1 : ast_Expr) (r : Bool), ast_sameExprN n a0 a1 = some r → Cv Tryz.prog (GX X) 69 [.agg (bs (f_ast_Expr a0)), .agg (bs (f_ast_Expr a1))] (r_ast_sameExpr r)) (ih_ast_Expr__ast_sameExpr : ∀ (a0 : (List ast_Expr)) (a1 : (List ast_Expr)) (r : Bool), ast_Expr__ast_sameExprN n a0 a1 = some r → Cv Tryz.prog (GX X) 101 [xL (List.map e_ast_Expr a0), xL (List.map e_ast_Expr a1), .fn (.func 69) [] []] (r_ast_Expr__ast_sameExpr r)) (a0 : (List ast_Expr)) (a1 : (List ast_Expr)) (r : Bool) (h : ast_Expr__ast_sameExprN (n + 1) a0 a1 = some r) : Cv Tryz.prog (GX X) 101 [xL (List.map e_ast_Expr a0), xL (List.map e_ast_Expr a1), .fn (.func 69) [] []] (r_ast_Expr__ast_sameExpr r) := by
  refine Cs.toV (?_ : Cs Tryz.prog (GX X) 101 [xL (List.map e_ast_Expr a0), xL (List.map e_ast_Expr a1), .fn (.func 69) [] []] [] (r_ast_Expr__ast_sameExpr r) (o_ast_Expr__ast_sameExpr r)) (by kernel_rfl)
  refine fnT (cx := cx X) Tryz.f101 Tryz.call101 Tryz.func101 (by kernel_rfl) ?_
  rw [ast_Expr__ast_sameExprN] at h
  refine adv (ok X) 5 [.i (a0.length : Int), .i (a1.length : Int)] (pA (lm e_ast_Expr a0) (pA (lm e_ast_Expr a1) pT)) (by kernel_rfl) ?_
  rcases iteE h with ⟨k1, h⟩ | ⟨k1, h⟩
  · obtain rfl := retE h
    exact fin (ok X) 4 [.b true] (pA k1 pT) (by kernel_rfl)
  · refine adv (ok X) 5 [.b false, .i (a0.length : Int)] (pA k1 (pA (lm e_ast_Expr a0) pT)) (by kernel_rfl) ?_
    refine lp (ok X) (ast_Expr__ast_sameExpr_l1 (ast_sameExprN n) (ast_Expr__ast_sameExprN n) a0 a1) (fun (x1 : Int) => ⟨32, 0, [(1, [xL (List.map e_ast_Expr a1)]), (2, [.fn (.func 69) [] []]), (15, [xL (List.map e_ast_Expr a0)]), (16, [xI (a0.length : Int)]), (17, [xI x1])], []⟩) (fun (j1 : Unit) => ⟨32, 0, [], []⟩) R_ast_Expr__ast_sameExpr 0 (fun _ => ⟨_, _, _, _, rfl⟩) h (by kernel_rfl) (fun x1 o h => ?_) (fun r' h => ?_) (fun j1 h => ?_)
    · unfold ast_Expr__ast_sameExpr_l1 at h
      rcases iteE h with ⟨k2, h⟩ | ⟨k2, h⟩
      · obtain ⟨v1, k3, h⟩ := bindE h
        obtain ⟨v2, k4, h⟩ := bindE h
        obtain ⟨v3, k5, h⟩ := bindE h
        refine adv (ok X) 13 [.b true, .e (f_ast_Expr v1), .e (f_ast_Expr v2), .c (r_ast_sameExpr v3)] (pA k2 (pA (ixr e_ast_Expr_eq k3) (pA (ixr e_ast_Expr_eq k4) (pA (ih_ast_sameExpr _ _ _ k5) pT)))) (by kernel_rfl) ?_
        rcases iteE h with ⟨k6, h⟩ | ⟨k6, h⟩
        · obtain rfl := retE h
          exact fin (ok X) 4 [.b true] (pA k6 pT) (by kernel_rfl)
        · obtain rfl := retE h
          exact fin (ok X) 4 [.b false] (pA k6 pT) (by kernel_rfl)
      · obtain rfl := retE h
        exact fin (ok X) 5 [.b false] (pA k2 pT) (by kernel_rfl)
    · obtain rfl := retE h
      kernel_rfl
    · obtain rfl := retE h
      exact fin (ok X) 3 [] pT (by kernel_rfl)

theorem all_ast_sameExpr : ∀ n : Nat, (∀ (a0 : ast_Expr) (a1 : ast_Expr) (r : Bool), ast_sameExprN n a0 a1 = some r → Cv Tryz.prog (GX X) 69 [.agg (bs (f_ast_Expr a0)), .agg (bs (f_ast_Expr a1))] (r_ast_sameExpr r)) ∧ (∀ (a0 : (List ast_Expr)) (a1 : (List ast_Expr)) (r : Bool), ast_Expr__ast_sameExprN n a0 a1 = some r → Cv Tryz.prog (GX X) 101 [xL (List.map e_ast_Expr a0), xL (List.map e_ast_Expr a1), .fn (.func 69) [] []] (r_ast_Expr__ast_sameExpr r))
  | 0 => ⟨(fun _ _ _ h => by rw [ast_sameExprN] at h; cases h), (fun _ _ _ h => by rw [ast_Expr__ast_sameExprN] at h; cases h)⟩
  | n + 1 => by
    have ih := all_ast_sameExpr n
    exact ⟨s_ast_sameExpr ih.1 ih.2, s_ast_Expr__ast_sameExpr ih.1 ih.2⟩

theorem m_ast_sameExpr {a0 : ast_Expr} {a1 : ast_Expr} {r : Bool} (h : ast_sameExpr a0 a1 = some r) : Cv Tryz.prog (GX X) 69 [.agg (bs (f_ast_Expr a0)), .agg (bs (f_ast_Expr a1))] (r_ast_sameExpr r) := by
  obtain ⟨n, hn⟩ := unfE h
  exact (all_ast_sameExpr n).1 _ _ _ hn

theorem m_ast_sameCond {a0 : ast_Cond} {a1 : ast_Cond} {r : Bool} (h : ast_sameCond a0 a1 = some r) : Cv Tryz.prog (GX X) 70 [.agg (bs (e_ast_Cond a0)), .agg (bs (e_ast_Cond a1))] (r_ast_sameCond r) := by
  refine Cs.toV (?_ : Cs Tryz.prog (GX X) 70 [.agg (bs (e_ast_Cond a0)), .agg (bs (e_ast_Cond a1))] [] (r_ast_sameCond r) (o_ast_sameCond r)) (by kernel_rfl)
  refine fnT (cx := cx X) Tryz.f70 Tryz.call70 Tryz.func70 (by kernel_rfl) ?_
  unfold ast_sameCond at h
  rcases iteE h with ⟨k1, h⟩ | ⟨k1, h⟩
  · obtain ⟨v1, k2, h⟩ := bindE h
    rcases iteE h with ⟨k3, h⟩ | ⟨k3, h⟩
    · obtain ⟨v2, k4, h⟩ := bindE h
      obtain rfl := retE h
      exact fin (ok X) 5 [.b true, .b true, .b true, .b true, .b true, .c (r_ast_sameExpr v1), .b true, .b true, .b true, .b true, .b true, .b true, .c (r_ast_sameExpr v2), .b true] (pA k1 (pA k1 (pA k1 (pA k1 (pA k1 (pA (m_ast_sameExpr (X := X) k2) (pA k1 (pA k3 (pA k3 (pA k3 (pA k3 (pA k3 (pA (m_ast_sameExpr (X := X) k4) (pA k3 pT)))))))))))))) (by kernel_rfl)
    · obtain rfl := retE h
      exact fin (ok X) 5 [.b true, .b true, .b true, .b true, .b true, .c (r_ast_sameExpr v1), .b true, .b false, .b false, .b false, .b false, .b false, .b false] (pA k1 (pA k1 (pA k1 (pA k1 (pA k1 (pA (m_ast_sameExpr (X := X) k2) (pA k1 (pA k3 (pA k3 (pA k3 (pA k3 (pA k3 (pA k3 pT))))))))))))) (by kernel_rfl)
  · obtain rfl := retE h
    exact fin (ok X) 5 [.b false, .b false, .b false, .b false, .b false, .b false, .b false, .b false, .b false, .b false, .b false, .b false] (pA k1 (pA k1 (pA k1 (pA k1 (pA k1 (pA k1 (pA ff (pA ff (pA ff (pA ff (pA ff (pA ff pT)))))))))))) (by kernel_rfl)

theorem s_ast_Stmt__ast_sameStmt {n : Nat} (ih_ast_Stmt__ast_sameStmt : ∀ (a0 : (List ast_Stmt)) (a1 : (List ast_Stmt)) (r : Bool), ast_Stmt__ast_sameStmtN n a0 a1 = some r → Cv Tryz.prog (GX X) 39 [xL (List.map e_ast_Stmt a0), xL (List.map e_ast_Stmt a1), .fn (.func 40) [] []] (r_ast_Stmt__ast_sameStmt r)) (ih_ast_sameStmt : ∀ (a0 : ast_Stmt) (a1 : ast_Stmt) (r : Bool), ast_sameStmtN n a0 a1 = some r → Cv Tryz.prog (GX X) 40 [.agg (bs (f_ast_Stmt a0)), .agg (bs (f_ast_Stmt a1))] (r_ast_sameStmt r)) (ih_ast_Arm__ast_sameArm : ∀ (a0 : (List ast_Arm)) (a1 : (List ast_Arm)) (r : Bool), ast_Arm__ast_sameArmN n a0 a1 = some r → Cv Tryz.prog (GX X) 71 [xL (List.map e_ast_Arm a0), xL (List.map e_ast_Arm a1), .fn (.func 72) [] []] (r_ast_Arm__ast_sameArm r)) (ih_ast_sameArm : ∀ (a0 : ast_Arm) (a1 : ast_Arm) (r : Bool), ast_sameArmN n a0 a1 = some r → Cv Tryz.prog (GX X) 72 [.agg (bs (f_ast_Arm a0)), .agg (bs (f_ast_Arm a1))] (r_ast_sameArm r)) (a0 : (List ast_Stmt)) (a1 : (List ast_Stmt)) (r : Bool) (h : ast_Stmt__ast_sameStmtN (n + 1) a0 a1 = some r) : Cv Tryz.prog (GX X) 39 [xL (List.map e_ast_Stmt a0), xL (List.map e_ast_Stmt a1), .fn (.func 40) [] []] (r_ast_Stmt__ast_sameStmt r) := by
  refine Cs.toV (?_ : Cs Tryz.prog (GX X) 39 [xL (List.map e_ast_Stmt a0), xL (List.map e_ast_Stmt a1), .fn (.func 40) [] []] [] (r_ast_Stmt__ast_sameStmt r) (o_ast_Stmt__ast_sameStmt r)) (by kernel_rfl)
  refine fnT (cx := cx X) Tryz.f39 Tryz.call39 Tryz.func39 (by kernel_rfl) ?_
  rw [ast_Stmt__ast_sameStmtN] at h
  refine adv (ok X) 5 [.i (a0.length : Int), .i (a1.length : Int)] (pA (lm e_ast_Stmt a0) (pA (lm e_ast_Stmt a1) pT)) (by kernel_rfl) ?_
  rcases iteE h with ⟨k1, h⟩ | ⟨k1, h⟩
  · obtain rfl := retE h
    exact fin (ok X) 4 [.b true] (pA k1 pT) (by kernel_rfl)
  · refine adv (ok X) 5 [.b false, .i (a0.length : Int)] (pA k1 (pA (lm e_ast_Stmt a0) pT)) (by kernel_rfl) ?_
    refine lp (ok X) (ast_Stmt__ast_sameStmt_l1 (ast_Stmt__ast_sameStmtN n) (ast_sameStmtN n) (ast_Arm__ast_sameArmN n) (ast_sameArmN n) a0 a1) (fun (x1 : Int) => ⟨32, 0, [(1, [xL (List.map e_ast_Stmt a1)]), (2, [.fn (.func 40) [] []]), (15, [xL (List.map e_ast_Stmt a0)]), (16, [xI (a0.length : Int)]), (17, [xI x1])], []⟩) (fun (j1 : Unit) => ⟨32, 0, [], []⟩) R_ast_Stmt__ast_sameStmt 0 (fun _ => ⟨_, _, _, _, rfl⟩) h (by kernel_rfl) (fun x1 o h => ?_) (fun r' h => ?_) (fun j1 h => ?_)
    · unfold ast_Stmt__ast_sameStmt_l1 at h
      rcases iteE h with ⟨k2, h⟩ | ⟨k2, h⟩
      · obtain ⟨v1, k3, h⟩ := bindE h
        obtain ⟨v2, k4, h⟩ := bindE h
        obtain ⟨v3, k5, h⟩ := bindE h
        refine adv (ok X) 13 [.b true, .e (f_ast_Stmt v1), .e (f_ast_Stmt v2), .c (r_ast_sameStmt v3)] (pA k2 (pA (ixr e_ast_Stmt_eq k3) (pA (ixr e_ast_Stmt_eq k4) (pA (ih_ast_sameStmt _ _ _ k5) pT)))) (by kernel_rfl) ?_
        rcases iteE h with ⟨k6, h⟩ | ⟨k6, h⟩
        · obtain rfl := retE h
          exact fin (ok X) 4 [.b true] (pA k6 pT) (by kernel_rfl)
        · obtain rfl := retE h
          exact fin (ok X) 4 [.b false] (pA k6 pT) (by kernel_rfl)
      · obtain rfl := retE h
        exact fin (ok X) 5 [.b false] (pA k2 pT) (by kernel_rfl)
    · obtain rfl := retE h
      kernel_rfl
    · obtain rfl := retE h
      exact fin (ok X) 3 [] pT (by kernel_rfl)

theorem s_ast_sameStmt {n : Nat} (ih_ast_Stmt__ast_sameStmt : ∀ (a0 : (List ast_Stmt)) (a1 : (List ast_Stmt)) (r : Bool), ast_Stmt__ast_sameStmtN n a0 a1 = some r → Cv Tryz.prog (GX X) 39 [xL (List.map e_ast_Stmt a0), xL (List.map e_ast_Stmt a1), .fn (.func 40) [] []] (r_ast_Stmt__ast_sameStmt r)) (ih_ast_sameStmt : ∀ (a0 : ast_Stmt) (a1 : ast_Stmt) (r : Bool), ast_sameStmtN n a0 a1 = some r → Cv Tryz.prog (GX X) 40 [.agg (bs (f_ast_Stmt a0)), .agg (bs (f_ast_Stmt a1))] (r_ast_sameStmt r)) (ih_ast_Arm__ast_sameArm : ∀ (a0 : (List ast_Arm)) (a1 : (List ast_Arm)) (r : Bool), ast_Arm__ast_sameArmN n a0 a1 = some r → Cv Tryz.prog (GX X) 71 [xL (List.map e_ast_Arm a0), xL (List.map e_ast_Arm a1), .fn (.func 72) [] []] (r_ast_Arm__ast_sameArm r)) (ih_ast_sameArm : ∀ (a0 : ast_Arm) (a1 : ast_Arm) (r : Bool), ast_sameArmN n a0 a1 = some r → Cv Tryz.prog (GX X) 72 [.agg (bs (f_ast_Arm a0)), .agg (bs (f_ast_Arm a1))] (r_ast_sameArm r)) (a0 : ast_Stmt) (a1 : ast_Stmt) (r : Bool) (h : ast_sameStmtN (n + 1) a0 a1 = some r) : Cv Tryz.prog (GX X) 40 [.agg (bs (f_ast_Stmt a0)), .agg (bs (f_ast_Stmt a1))] (r_ast_sameStmt r) := by
  refine Cs.toV (?_ : Cs Tryz.prog (GX X) 40 [.agg (bs (f_ast_Stmt a0)), .agg (bs (f_ast_Stmt a1))] [] (r_ast_sameStmt r) (o_ast_sameStmt r)) (by kernel_rfl)
  refine fnT (cx := cx X) Tryz.f40 Tryz.call40 Tryz.func40 (by kernel_rfl) ?_
  rw [ast_sameStmtN] at h
  rcases iteE h with ⟨k1, h⟩ | ⟨k1, h⟩
  · obtain rfl := retE h
    exact fin (ok X) 9 [.b true] (pA k1 pT) (by kernel_rfl)
  · refine adv (ok X) 13 [.b false] (pA k1 pT) (by kernel_rfl) ?_
    rcases iteE h with ⟨k2, h⟩ | ⟨k2, h⟩
    · refine adv (ok X) 2 [.b true] (pA k2 pT) (by kernel_rfl) ?_
      refine jn (ok X) 1 (fun (j1 : Bool) => ⟨110, 0, [(4, [xB j1])], []⟩) h (fun j1 h => ?_) (fun j1 h => ?_)
      · rcases iteE h with ⟨k3, h⟩ | ⟨k3, h⟩
        · obtain ⟨v1, k4, h⟩ := bindE h
          obtain rfl := retE h
          exact fin (ok X) 1 [.b true, .b true, .b true, .b true, .b true, .c (r_ast_sameExpr v1), .b true] (pA k3 (pA k3 (pA k3 (pA k3 (pA k3 (pA (m_ast_sameExpr (X := X) k4) (pA k3 pT))))))) (by kernel_rfl)
        · obtain rfl := retE h
          exact fin (ok X) 1 [.b false, .b false, .b false, .b false, .b false, .b false] (pA k3 (pA k3 (pA k3 (pA k3 (pA k3 (pA k3 pT)))))) (by kernel_rfl)
      · obtain rfl := retE h
        exact fin (ok X) 1 [] pT (by kernel_rfl)
    · refine adv (ok X) 3 [.b false] (pA k2 pT) (by kernel_rfl) ?_
      rcases iteE h with ⟨k5, h⟩ | ⟨k5, h⟩
      · refine adv (ok X) 2 [.b true] (pA k5 pT) (by kernel_rfl) ?_
        refine jn (ok X) 1 (fun (j2 : Bool) => ⟨110, 0, [(4, [xB j2])], []⟩) h (fun j2 h => ?_) (fun j2 h => ?_)
        · obtain ⟨v2, k6, h⟩ := bindE h
          rcases iteE h with ⟨k7, h⟩ | ⟨k7, h⟩
          · obtain ⟨v3, k8, h⟩ := bindE h
            rcases iteE h with ⟨k9, h⟩ | ⟨k9, h⟩
            · obtain ⟨v4, k10, h⟩ := bindE h
              obtain rfl := retE h
              exact fin (ok X) 1 [.c (r_ast_sameCond v2), .b true, .b true, .b true, .b true, .b true, .c (r_ast_Stmt__ast_sameStmt v3), .b true, .b true, .b true, .b true, .b true, .b true, .c (r_ast_Stmt__ast_sameStmt v4), .b true] (pA (m_ast_sameCond (X := X) k6) (pA k7 (pA k7 (pA k7 (pA k7 (pA k7 (pA (ih_ast_Stmt__ast_sameStmt _ _ _ k8) (pA k7 (pA k9 (pA k9 (pA k9 (pA k9 (pA k9 (pA (ih_ast_Stmt__ast_sameStmt _ _ _ k10) (pA k9 pT))))))))))))))) (by kernel_rfl)
            · obtain rfl := retE h
              exact fin (ok X) 1 [.c (r_ast_sameCond v2), .b true, .b true, .b true, .b true, .b true, .c (r_ast_Stmt__ast_sameStmt v3), .b true, .b false, .b false, .b false, .b false, .b false, .b false] (pA (m_ast_sameCond (X := X) k6) (pA k7 (pA k7 (pA k7 (pA k7 (pA k7 (pA (ih_ast_Stmt__ast_sameStmt _ _ _ k8) (pA k7 (pA k9 (pA k9 (pA k9 (pA k9 (pA k9 (pA k9 pT)))))))))))))) (by kernel_rfl)
          · obtain rfl := retE h
            exact fin (ok X) 1 [.c (r_ast_sameCond v2), .b false, .b false, .b false, .b false, .b false, .b false, .b false, .b false, .b false, .b false, .b false, .b false] (pA (m_ast_sameCond (X := X) k6) (pA k7 (pA k7 (pA k7 (pA k7 (pA k7 (pA k7 (pA ff (pA ff (pA ff (pA ff (pA ff (pA ff pT))))))))))))) (by kernel_rfl)
        · obtain rfl := retE h
          exact fin (ok X) 1 [] pT (by kernel_rfl)
      · refine adv (ok X) 3 [.b false] (pA k5 pT) (by kernel_rfl) ?_
        rcases iteE h with ⟨k11, h⟩ | ⟨k11, h⟩
        · refine adv (ok X) 2 [.b true] (pA k11 pT) (by kernel_rfl) ?_
          refine jn (ok X) 1 (fun (j3 : Bool) => ⟨110, 0, [(4, [xB j3])], []⟩) h (fun j3 h => ?_) (fun j3 h => ?_)
          · obtain ⟨v5, k12, h⟩ := bindE h
            rcases iteE h with ⟨k13, h⟩ | ⟨k13, h⟩
            · obtain ⟨v6, k14, h⟩ := bindE h
              obtain rfl := retE h
              exact fin (ok X) 1 [.c (r_ast_sameCond v5), .b true, .b true, .b true, .b true, .b true, .c (r_ast_Stmt__ast_sameStmt v6), .b true] (pA (m_ast_sameCond (X := X) k12) (pA k13 (pA k13 (pA k13 (pA k13 (pA k13 (pA (ih_ast_Stmt__ast_sameStmt _ _ _ k14) (pA k13 pT)))))))) (by kernel_rfl)
            · obtain rfl := retE h
              exact fin (ok X) 1 [.c (r_ast_sameCond v5), .b false, .b false, .b false, .b false, .b false, .b false] (pA (m_ast_sameCond (X := X) k12) (pA k13 (pA k13 (pA k13 (pA k13 (pA k13 (pA k13 pT))))))) (by kernel_rfl)
          · obtain rfl := retE h
            exact fin (ok X) 1 [] pT (by kernel_rfl)
        · refine adv (ok X) 3 [.b false] (pA k11 pT) (by kernel_rfl) ?_
          rcases iteE h with ⟨k15, h⟩ | ⟨k15, h⟩
          · refine adv (ok X) 2 [.b true] (pA k15 pT) (by kernel_rfl) ?_
            refine jn (ok X) 1 (fun (j4 : Bool) => ⟨110, 0, [(4, [xB j4])], []⟩) h (fun j4 h => ?_) (fun j4 h => ?_)
            · rcases iteE h with ⟨k16, h⟩ | ⟨k16, h⟩
              · rcases iteE h with ⟨k17, h⟩ | ⟨k17, h⟩
                · obtain ⟨v7, k18, h⟩ := bindE h
                  obtain rfl := retE h
                  exact fin (ok X) 1 [.b true, .b true, .b true, .b true, .b true, .b true, .b true, .b true, .b true, .b true, .b true, .c (r_ast_sameExpr v7), .b true] (pA k16 (pA k16 (pA k16 (pA k16 (pA k16 (pA k16 (pA k17 (pA k17 (pA k17 (pA k17 (pA k17 (pA (m_ast_sameExpr (X := X) k18) (pA k17 pT))))))))))))) (by kernel_rfl)
                · obtain rfl := retE h
                  exact fin (ok X) 1 [.b true, .b true, .b true, .b true, .b true, .b true, .b false, .b false, .b false, .b false, .b false, .b false] (pA k16 (pA k16 (pA k16 (pA k16 (pA k16 (pA k16 (pA k17 (pA k17 (pA k17 (pA k17 (pA k17 (pA k17 pT)))))))))))) (by kernel_rfl)
              · obtain rfl := retE h
                exact fin (ok X) 1 [.b false, .b false, .b false, .b false, .b false, .b false, .b false, .b false, .b false, .b false, .b false, .b false] (pA k16 (pA k16 (pA k16 (pA k16 (pA k16 (pA k16 (pA ff (pA ff (pA ff (pA ff (pA ff (pA ff pT)))))))))))) (by kernel_rfl)
            · obtain rfl := retE h
              exact fin (ok X) 1 [] pT (by kernel_rfl)
          · refine adv (ok X) 3 [.b false] (pA k15 pT) (by kernel_rfl) ?_
            rcases iteE h with ⟨k19, h⟩ | ⟨k19, h⟩
            · refine adv (ok X) 2 [.b true] (pA k19 pT) (by kernel_rfl) ?_
              refine jn (ok X) 1 (fun (j5 : Bool) => ⟨110, 0, [(4, [xB j5])], []⟩) h (fun j5 h => ?_) (fun j5 h => ?_)
              · rcases iteE h with ⟨k20, h⟩ | ⟨k20, h⟩
                · obtain ⟨v8, k21, h⟩ := bindE h
                  obtain rfl := retE h
                  exact fin (ok X) 1 [.b true, .b true, .b true, .b true, .b true, .c (r_ast_Arm__ast_sameArm v8), .b true] (pA k20 (pA k20 (pA k20 (pA k20 (pA k20 (pA (ih_ast_Arm__ast_sameArm _ _ _ k21) (pA k20 pT))))))) (by kernel_rfl)
                · obtain rfl := retE h
                  exact fin (ok X) 1 [.b false, .b false, .b false, .b false, .b false, .b false] (pA k20 (pA k20 (pA k20 (pA k20 (pA k20 (pA k20 pT)))))) (by kernel_rfl)
              · obtain rfl := retE h
                exact fin (ok X) 1 [] pT (by kernel_rfl)
            · refine adv (ok X) 3 [.b false] (pA k19 pT) (by kernel_rfl) ?_
              rcases iteE h with ⟨k22, h⟩ | ⟨k22, h⟩
              · obtain ⟨v9, k23, h⟩ := bindE h
                obtain rfl := retE h
                exact fin (ok X) 4 [.b true, .c (r_ast_sameCond v9)] (pA k22 (pA (m_ast_sameCond (X := X) k23) pT)) (by kernel_rfl)
              · refine adv (ok X) 3 [.b false] (pA k22 pT) (by kernel_rfl) ?_
                rcases iteE h with ⟨k24, h⟩ | ⟨k24, h⟩
                · obtain rfl := retE h
                  exact fin (ok X) 4 [.b true] (pA k24 pT) (by kernel_rfl)
                · obtain rfl := retE h
                  exact fin (ok X) 6 [.b false] (pA k24 pT) (by kernel_rfl)

theorem s_ast_Arm__ast_sameArm {n : Nat} (ih_ast_Stmt__ast_sameStmt : ∀ (a0 : (List ast_Stmt)) (a1 : (List ast_Stmt)) (r : Bool), ast_Stmt__ast_sameStmtN n a0 a1 = some r → Cv Tryz.prog (GX X) 39 [xL (List.map e_ast_Stmt a0), xL (List.map e_ast_Stmt a1), .fn (.func 40) [] []] (r_ast_Stmt__ast_sameStmt r)) (ih_ast_sameStmt : ∀ (a0 : ast_Stmt) (a1 : ast_Stmt) (r : Bool), ast_sameStmtN n a0 a1 = some r → Cv Tryz.prog (GX X) 40 [.agg (bs (f_ast_Stmt a0)), .agg (bs (f_ast_Stmt a1))] (r_ast_sameStmt r)) (ih_ast_Arm__ast_sameArm : ∀ (a0 : (List ast_Arm)) (a1 : (List ast_Arm)) (r : Bool), ast_Arm__ast_sameArmN n a0 a1 = some r → Cv Tryz.prog (GX X) 71 [xL (List.map e_ast_Arm a0), xL (List.map e_ast_Arm a1), .fn (.func 72) [] []] (r_ast_Arm__ast_sameArm r)) (ih_ast_sameArm : ∀ (a0 : ast_Arm) (a1 : ast_Arm) (r : Bool), ast_sameArmN n a0 a1 = some r → Cv Tryz.prog (GX X) 72 [.agg (bs (f_ast_Arm a0)), .agg (bs (f_ast_Arm a1))] (r_ast_sameArm r)) (a0 : (List ast_Arm)) (a1 : (List ast_Arm)) (r : Bool) (h : ast_Arm__ast_sameArmN (n + 1) a0 a1 = some r) : Cv Tryz.prog (GX X) 71 [xL (List.map e_ast_Arm a0), xL (List.map e_ast_Arm a1), .fn (.func 72) [] []] (r_ast_Arm__ast_sameArm r) := by
  refine Cs.toV (?_ : Cs Tryz.prog (GX X) 71 [xL (List.map e_ast_Arm a0), xL (List.map e_ast_Arm a1), .fn (.func 72) [] []] [] (r_ast_Arm__ast_sameArm r) (o_ast_Arm__ast_sameArm r)) (by kernel_rfl)
  refine fnT (cx := cx X) Tryz.f71 Tryz.call71 Tryz.func71 (by kernel_rfl) ?_
  rw [ast_Arm__ast_sameArmN] at h
  refine adv (ok X) 5 [.i (a0.length : Int), .i (a1.length : Int)] (pA (lm e_ast_Arm a0) (pA (lm e_ast_Arm a1) pT)) (by kernel_rfl) ?_
  rcases iteE h with ⟨k1, h⟩ | ⟨k1, h⟩
  · obtain rfl := retE h
    exact fin (ok X) 4 [.b true] (pA k1 pT) (by kernel_rfl)
  · refine adv (ok X) 5 [.b false, .i (a0.length : Int)] (pA k1 (pA (lm e_ast_Arm a0) pT)) (by kernel_rfl) ?_
    refine lp (ok X) (ast_Arm__ast_sameArm_l1 (ast_Stmt__ast_sameStmtN n) (ast_sameStmtN n) (ast_Arm__ast_sameArmN n) (ast_sameArmN n) a0 a1) (fun (x1 : Int) => ⟨32, 0, [(1, [xL (List.map e_ast_Arm a1)]), (2, [.fn (.func 72) [] []]), (15, [xL (List.map e_ast_Arm a0)]), (16, [xI (a0.length : Int)]), (17, [xI x1])], []⟩) (fun (j1 : Unit) => ⟨32, 0, [], []⟩) R_ast_Arm__ast_sameArm 0 (fun _ => ⟨_, _, _, _, rfl⟩) h (by kernel_rfl) (fun x1 o h => ?_) (fun r' h => ?_) (fun j1 h => ?_)
    · unfold ast_Arm__ast_sameArm_l1 at h
      rcases iteE h with ⟨k2, h⟩ | ⟨k2, h⟩
      · obtain ⟨v1, k3, h⟩ := bindE h
        obtain ⟨v2, k4, h⟩ := bindE h
        obtain ⟨v3, k5, h⟩ := bindE h
        refine adv (ok X) 13 [.b true, .e (f_ast_Arm v1), .e (f_ast_Arm v2), .c (r_ast_sameArm v3)] (pA k2 (pA (ixr e_ast_Arm_eq k3) (pA (ixr e_ast_Arm_eq k4) (pA (ih_ast_sameArm _ _ _ k5) pT)))) (by kernel_rfl) ?_
        rcases iteE h with ⟨k6, h⟩ | ⟨k6, h⟩
        · obtain rfl := retE h
          exact fin (ok X) 4 [.b true] (pA k6 pT) (by kernel_rfl)
        · obtain rfl := retE h
          exact fin (ok X) 4 [.b false] (pA k6 pT) (by kernel_rfl)
      · obtain rfl := retE h
        exact fin (ok X) 5 [.b false] (pA k2 pT) (by kernel_rfl)
    · obtain rfl := retE h
      kernel_rfl
    · obtain rfl := retE h
      exact fin (ok X) 3 [] pT (by kernel_rfl)

theorem s_ast_sameArm {n : Nat} (ih_ast_Stmt__ast_sameStmt : ∀ (a0 : (List ast_Stmt)) (a1 : (List ast_Stmt)) (r : Bool), ast_Stmt__ast_sameStmtN n a0 a1 = some r → Cv Tryz.prog (GX X) 39 [xL (List.map e_ast_Stmt a0), xL (List.map e_ast_Stmt a1), .fn (.func 40) [] []] (r_ast_Stmt__ast_sameStmt r)) (ih_ast_sameStmt : ∀ (a0 : ast_Stmt) (a1 : ast_Stmt) (r : Bool), ast_sameStmtN n a0 a1 = some r → Cv Tryz.prog (GX X) 40 [.agg (bs (f_ast_Stmt a0)), .agg (bs (f_ast_Stmt a1))] (r_ast_sameStmt r)) (ih_ast_Arm__ast_sameArm : ∀ (a0 : (List ast_Arm)) (a1 : (List ast_Arm)) (r : Bool), ast_Arm__ast_sameArmN n a0 a1 = some r → Cv Tryz.prog (GX X) 71 [xL (List.map e_ast_Arm a0), xL (List.map e_ast_Arm a1), .fn (.func 72) [] []] (r_ast_Arm__ast_sameArm r)) (ih_ast_sameArm : ∀ (a0 : ast_Arm) (a1 : ast_Arm) (r : Bool), ast_sameArmN n a0 a1 = some r → Cv Tryz.prog (GX X) 72 [.agg (bs (f_ast_Arm a0)), .agg (bs (f_ast_Arm a1))] (r_ast_sameArm r)) (a0 : ast_Arm) (a1 : ast_Arm) (r : Bool) (h : ast_sameArmN (n + 1) a0 a1 = some r) : Cv Tryz.prog (GX X) 72 [.agg (bs (f_ast_Arm a0)), .agg (bs (f_ast_Arm a1))] (r_ast_sameArm r) := by
  refine Cs.toV (?_ : Cs Tryz.prog (GX X) 72 [.agg (bs (f_ast_Arm a0)), .agg (bs (f_ast_Arm a1))] [] (r_ast_sameArm r) (o_ast_sameArm r)) (by kernel_rfl)
  refine fnT (cx := cx X) Tryz.f72 Tryz.call72 Tryz.func72 (by kernel_rfl) ?_
  rw [ast_sameArmN] at h
  rcases iteE h with ⟨k1, h⟩ | ⟨k1, h⟩
  · rcases iteE h with ⟨k2, h⟩ | ⟨k2, h⟩
    · obtain ⟨v1, k3, h⟩ := bindE h
      obtain rfl := retE h
      exact fin (ok X) 5 [.b true, .b true, .b true, .b true, .b true, .b true, .b true, .b true, .b true, .b true, .b true, .c (r_ast_Stmt__ast_sameStmt v1), .b true] (pA k1 (pA k1 (pA k1 (pA k1 (pA k1 (pA k1 (pA k2 (pA k2 (pA k2 (pA k2 (pA k2 (pA (ih_ast_Stmt__ast_sameStmt _ _ _ k3) (pA k2 pT))))))))))))) (by kernel_rfl)
    · obtain rfl := retE h
      exact fin (ok X) 5 [.b true, .b true, .b true, .b true, .b true, .b true, .b false, .b false, .b false, .b false, .b false, .b false] (pA k1 (pA k1 (pA k1 (pA k1 (pA k1 (pA k1 (pA k2 (pA k2 (pA k2 (pA k2 (pA k2 (pA k2 pT)))))))))))) (by kernel_rfl)
  · obtain rfl := retE h
    exact fin (ok X) 5 [.b false, .b false, .b false, .b false, .b false, .b false, .b false, .b false, .b false, .b false, .b false, .b false] (pA k1 (pA k1 (pA k1 (pA k1 (pA k1 (pA k1 (pA ff (pA ff (pA ff (pA ff (pA ff (pA ff pT)))))))))))) (by kernel_rfl)

theorem all_ast_Stmt__ast_sameStmt : ∀ n : Nat, (∀ (a0 : (List ast_Stmt)) (a1 : (List ast_Stmt)) (r : Bool), ast_Stmt__ast_sameStmtN n a0 a1 = some r → Cv Tryz.prog (GX X) 39 [xL (List.map e_ast_Stmt a0), xL (List.map e_ast_Stmt a1), .fn (.func 40) [] []] (r_ast_Stmt__ast_sameStmt r)) ∧ (∀ (a0 : ast_Stmt) (a1 : ast_Stmt) (r : Bool), ast_sameStmtN n a0 a1 = some r → Cv Tryz.prog (GX X) 40 [.agg (bs (f_ast_Stmt a0)), .agg (bs (f_ast_Stmt a1))] (r_ast_sameStmt r)) ∧ (∀ (a0 : (List ast_Arm)) (a1 : (List ast_Arm)) (r : Bool), ast_Arm__ast_sameArmN n a0 a1 = some r → Cv Tryz.prog (GX X) 71 [xL (List.map e_ast_Arm a0), xL (List.map e_ast_Arm a1), .fn (.func 72) [] []] (r_ast_Arm__ast_sameArm r)) ∧ (∀ (a0 : ast_Arm) (a1 : ast_Arm) (r : Bool), ast_sameArmN n a0 a1 = some r → Cv Tryz.prog (GX X) 72 [.agg (bs (f_ast_Arm a0)), .agg (bs (f_ast_Arm a1))] (r_ast_sameArm r))
  | 0 => ⟨(fun _ _ _ h => by rw [ast_Stmt__ast_sameStmtN] at h; cases h), (fun _ _ _ h => by rw [ast_sameStmtN] at h; cases h), (fun _ _ _ h => by rw [ast_Arm__ast_sameArmN] at h; cases h), (fun _ _ _ h => by rw [ast_sameArmN] at h; cases h)⟩
  | n + 1 => by
    have ih := all_ast_Stmt__ast_sameStmt n
    exact ⟨s_ast_Stmt__ast_sameStmt ih.1 ih.2.1 ih.2.2.1 ih.2.2.2, s_ast_sameStmt ih.1 ih.2.1 ih.2.2.1 ih.2.2.2, s_ast_Arm__ast_sameArm ih.1 ih.2.1 ih.2.2.1 ih.2.2.2, s_ast_sameArm ih.1 ih.2.1 ih.2.2.1 ih.2.2.2⟩

theorem m_ast_Stmt__ast_sameStmt {a0 : (List ast_Stmt)} {a1 : (List ast_Stmt)} {r : Bool} (h : ast_Stmt__ast_sameStmt a0 a1 = some r) : Cv Tryz.prog (GX X) 39 [xL (List.map e_ast_Stmt a0), xL (List.map e_ast_Stmt a1), .fn (.func 40) [] []] (r_ast_Stmt__ast_sameStmt r) := by
  obtain ⟨n, hn⟩ := unfE h
  exact (all_ast_Stmt__ast_sameStmt n).1 _ _ _ hn

theorem m_ast_Same_2 {a0 : ast_Proc} {a1 : ast_Proc} {r : Bool} (h : ast_Same_2 a0 a1 = some r) : Cv Tryz.prog (GX X) 37 [.agg (bs (e_ast_Proc a0)), .agg (bs (e_ast_Proc a1))] (r_ast_Same_2 r) := by
  refine Cs.toV (?_ : Cs Tryz.prog (GX X) 37 [.agg (bs (e_ast_Proc a0)), .agg (bs (e_ast_Proc a1))] [] (r_ast_Same_2 r) (o_ast_Same_2 r)) (by kernel_rfl)
  refine fnT (cx := cx X) Tryz.f37 Tryz.call37 Tryz.func37 (by kernel_rfl) ?_
  unfold ast_Same_2 at h
  rcases iteE h with ⟨k1, h⟩ | ⟨k1, h⟩
  · obtain ⟨v1, k2, h⟩ := bindE h
    rcases iteE h with ⟨k3, h⟩ | ⟨k3, h⟩
    · obtain ⟨v2, k4, h⟩ := bindE h
      obtain rfl := retE h
      exact fin (ok X) 5 [.b true, .b true, .b true, .b true, .b true, .c (r_slices_Equal_string_string_ v1), .b true, .b true, .b true, .b true, .b true, .b true, .c (r_ast_Stmt__ast_sameStmt v2), .b true] (pA k1 (pA k1 (pA k1 (pA k1 (pA k1 (pA (m_slices_Equal_string_string_ (X := X) k2) (pA k1 (pA k3 (pA k3 (pA k3 (pA k3 (pA k3 (pA (m_ast_Stmt__ast_sameStmt (X := X) k4) (pA k3 pT)))))))))))))) (by kernel_rfl)
    · obtain rfl := retE h
      exact fin (ok X) 5 [.b true, .b true, .b true, .b true, .b true, .c (r_slices_Equal_string_string_ v1), .b true, .b false, .b false, .b false, .b false, .b false, .b false] (pA k1 (pA k1 (pA k1 (pA k1 (pA k1 (pA (m_slices_Equal_string_string_ (X := X) k2) (pA k1 (pA k3 (pA k3 (pA k3 (pA k3 (pA k3 (pA k3 pT))))))))))))) (by kernel_rfl)
  · obtain rfl := retE h
    exact fin (ok X) 5 [.b false, .b false, .b false, .b false, .b false, .b false, .b false, .b false, .b false, .b false, .b false, .b false] (pA k1 (pA k1 (pA k1 (pA k1 (pA k1 (pA k1 (pA ff (pA ff (pA ff (pA ff (pA ff (pA ff pT)))))))))))) (by kernel_rfl)

theorem m_ast_Proc__ast_Same_2 {a0 : (List ast_Proc)} {a1 : (List ast_Proc)} {r : Bool} (h : ast_Proc__ast_Same_2 a0 a1 = some r) : Cv Tryz.prog (GX X) 36 [xL (List.map e_ast_Proc a0), xL (List.map e_ast_Proc a1), .fn (.func 37) [] []] (r_ast_Proc__ast_Same_2 r) := by
  refine Cs.toV (?_ : Cs Tryz.prog (GX X) 36 [xL (List.map e_ast_Proc a0), xL (List.map e_ast_Proc a1), .fn (.func 37) [] []] [] (r_ast_Proc__ast_Same_2 r) (o_ast_Proc__ast_Same_2 r)) (by kernel_rfl)
  refine fnT (cx := cx X) Tryz.f36 Tryz.call36 Tryz.func36 (by kernel_rfl) ?_
  unfold ast_Proc__ast_Same_2 at h
  refine adv (ok X) 5 [.i (a0.length : Int), .i (a1.length : Int)] (pA (lm e_ast_Proc a0) (pA (lm e_ast_Proc a1) pT)) (by kernel_rfl) ?_
  rcases iteE h with ⟨k1, h⟩ | ⟨k1, h⟩
  · obtain rfl := retE h
    exact fin (ok X) 4 [.b true] (pA k1 pT) (by kernel_rfl)
  · refine adv (ok X) 5 [.b false, .i (a0.length : Int)] (pA k1 (pA (lm e_ast_Proc a0) pT)) (by kernel_rfl) ?_
    refine lp (ok X) (ast_Proc__ast_Same_2_l1 a0 a1) (fun (x1 : Int) => ⟨32, 0, [(1, [xL (List.map e_ast_Proc a1)]), (2, [.fn (.func 37) [] []]), (15, [xL (List.map e_ast_Proc a0)]), (16, [xI (a0.length : Int)]), (17, [xI x1])], []⟩) (fun (j1 : Unit) => ⟨32, 0, [], []⟩) R_ast_Proc__ast_Same_2 0 (fun _ => ⟨_, _, _, _, rfl⟩) h (by kernel_rfl) (fun x1 o h => ?_) (fun r' h => ?_) (fun j1 h => ?_)
    · unfold ast_Proc__ast_Same_2_l1 at h
      rcases iteE h with ⟨k2, h⟩ | ⟨k2, h⟩
      · obtain ⟨v1, k3, h⟩ := bindE h
        obtain ⟨v2, k4, h⟩ := bindE h
        obtain ⟨v3, k5, h⟩ := bindE h
        refine adv (ok X) 13 [.b true, .e (e_ast_Proc v1), .e (e_ast_Proc v2), .c (r_ast_Same_2 v3)] (pA k2 (pA (ixm e_ast_Proc k3) (pA (ixm e_ast_Proc k4) (pA (m_ast_Same_2 (X := X) k5) pT)))) (by kernel_rfl) ?_
        rcases iteE h with ⟨k6, h⟩ | ⟨k6, h⟩
        · obtain rfl := retE h
          exact fin (ok X) 4 [.b true] (pA k6 pT) (by kernel_rfl)
        · obtain rfl := retE h
          exact fin (ok X) 4 [.b false] (pA k6 pT) (by kernel_rfl)
      · obtain rfl := retE h
        exact fin (ok X) 5 [.b false] (pA k2 pT) (by kernel_rfl)
    · obtain rfl := retE h
      kernel_rfl
    · obtain rfl := retE h
      exact fin (ok X) 3 [] pT (by kernel_rfl)

theorem m_ast_sameChan {a0 : ast_Chan} {a1 : ast_Chan} {r : Bool} (h : ast_sameChan a0 a1 = some r) : Cv Tryz.prog (GX X) 42 [.agg (bs (e_ast_Chan a0)), .agg (bs (e_ast_Chan a1))] (r_ast_sameChan r) := by
  refine Cs.toV (?_ : Cs Tryz.prog (GX X) 42 [.agg (bs (e_ast_Chan a0)), .agg (bs (e_ast_Chan a1))] [] (r_ast_sameChan r) (o_ast_sameChan r)) (by kernel_rfl)
  refine fnT (cx := cx X) Tryz.f42 Tryz.call42 Tryz.func42 (by kernel_rfl) ?_
  unfold ast_sameChan at h
  refine adv (ok X) 3 [] pT (by kernel_rfl) ?_
  refine jn (ok X) 1 (fun (j1 : Bool) => ⟨45, 0, [(4, [xB j1])], []⟩) h (fun j1 h => ?_) (fun j1 h => ?_)
  · rcases iteE h with ⟨k1, h⟩ | ⟨k1, h⟩
    · rcases iteE h with ⟨k2, h⟩ | ⟨k2, h⟩
      · rcases iteE h with ⟨k3, h⟩ | ⟨k3, h⟩
        · rcases iteE h with ⟨k4, h⟩ | ⟨k4, h⟩
          · rcases iteE h with ⟨k5, h⟩ | ⟨k5, h⟩
            · obtain ⟨v1, k6, h⟩ := bindE h
              obtain rfl := retE h
              exact fin (ok X) 1 [.b true, .b true, .b true, .b true, .b true, .b true, .b true, .b true, .b true, .b true, .b true, .b true, .b true, .b true, .b true, .b true, .b true, .b true, .b true, .b true, .b true, .b true, .b true, .b true, .b true, .b true, .b true, .b true, .b true, .c (r_slices_Equal_string_string_ v1), .b true] (pA k1 (pA k1 (pA k1 (pA k1 (pA k1 (pA k1 (pA k2 (pA k2 (pA k2 (pA k2 (pA k2 (pA k2 (pA k3 (pA k3 (pA k3 (pA k3 (pA k3 (pA k3 (pA k4 (pA k4 (pA k4 (pA k4 (pA k4 (pA k4 (pA k5 (pA k5 (pA k5 (pA k5 (pA k5 (pA (m_slices_Equal_string_string_ (X := X) k6) (pA k5 pT))))))))))))))))))))))))))))))) (by kernel_rfl)
            · obtain rfl := retE h
              exact fin (ok X) 1 [.b true, .b true, .b true, .b true, .b true, .b true, .b true, .b true, .b true, .b true, .b true, .b true, .b true, .b true, .b true, .b true, .b true, .b true, .b true, .b true, .b true, .b true, .b true, .b true, .b false, .b false, .b false, .b false, .b false, .b false] (pA k1 (pA k1 (pA k1 (pA k1 (pA k1 (pA k1 (pA k2 (pA k2 (pA k2 (pA k2 (pA k2 (pA k2 (pA k3 (pA k3 (pA k3 (pA k3 (pA k3 (pA k3 (pA k4 (pA k4 (pA k4 (pA k4 (pA k4 (pA k4 (pA k5 (pA k5 (pA k5 (pA k5 (pA k5 (pA k5 pT)))))))))))))))))))))))))))))) (by kernel_rfl)
          · obtain rfl := retE h
            exact fin (ok X) 1 [.b true, .b true, .b true, .b true, .b true, .b true, .b true, .b true, .b true, .b true, .b true, .b true, .b true, .b true, .b true, .b true, .b true, .b true, .b false, .b false, .b false, .b false, .b false, .b false, .b false, .b false, .b false, .b false, .b false, .b false] (pA k1 (pA k1 (pA k1 (pA k1 (pA k1 (pA k1 (pA k2 (pA k2 (pA k2 (pA k2 (pA k2 (pA k2 (pA k3 (pA k3 (pA k3 (pA k3 (pA k3 (pA k3 (pA k4 (pA k4 (pA k4 (pA k4 (pA k4 (pA k4 (pA ff (pA ff (pA ff (pA ff (pA ff (pA ff pT)))))))))))))))))))))))))))))) (by kernel_rfl)
        · obtain rfl := retE h
          exact fin (ok X) 1 [.b true, .b true, .b true, .b true, .b true, .b true, .b true, .b true, .b true, .b true, .b true, .b true, .b false, .b false, .b false, .b false, .b false, .b false, .b false, .b false, .b false, .b false, .b false, .b false, .b false, .b false, .b false, .b false, .b false, .b false] (pA k1 (pA k1 (pA k1 (pA k1 (pA k1 (pA k1 (pA k2 (pA k2 (pA k2 (pA k2 (pA k2 (pA k2 (pA k3 (pA k3 (pA k3 (pA k3 (pA k3 (pA k3 (pA ff (pA ff (pA ff (pA ff (pA ff (pA ff (pA ff (pA ff (pA ff (pA ff (pA ff (pA ff pT)))))))))))))))))))))))))))))) (by kernel_rfl)
      · obtain rfl := retE h
        exact fin (ok X) 1 [.b true, .b true, .b true, .b true, .b true, .b true, .b false, .b false, .b false, .b false, .b false, .b false, .b false, .b false, .b false, .b false, .b false, .b false, .b false, .b false, .b false, .b false, .b false, .b false, .b false, .b false, .b false, .b false, .b false, .b false] (pA k1 (pA k1 (pA k1 (pA k1 (pA k1 (pA k1 (pA k2 (pA k2 (pA k2 (pA k2 (pA k2 (pA k2 (pA ff (pA ff (pA ff (pA ff (pA ff (pA ff (pA ff (pA ff (pA ff (pA ff (pA ff (pA ff (pA ff (pA ff (pA ff (pA ff (pA ff (pA ff pT)))))))))))))))))))))))))))))) (by kernel_rfl)
    · obtain rfl := retE h
      exact fin (ok X) 1 [.b false, .b false, .b false, .b false, .b false, .b false, .b false, .b false, .b false, .b false, .b false, .b false, .b false, .b false, .b false, .b false, .b false, .b false, .b false, .b false, .b false, .b false, .b false, .b false, .b false, .b false, .b false, .b false, .b false, .b false] (pA k1 (pA k1 (pA k1 (pA k1 (pA k1 (pA k1 (pA ff (pA ff (pA ff (pA ff (pA ff (pA ff (pA ff (pA ff (pA ff (pA ff (pA ff (pA ff (pA ff (pA ff (pA ff (pA ff (pA ff (pA ff (pA ff (pA ff (pA ff (pA ff (pA ff (pA ff pT)))))))))))))))))))))))))))))) (by kernel_rfl)
  · obtain rfl := retE h
    exact fin (ok X) 1 [] pT (by kernel_rfl)

theorem m_ast_Chan__ast_sameChan {a0 : (List ast_Chan)} {a1 : (List ast_Chan)} {r : Bool} (h : ast_Chan__ast_sameChan a0 a1 = some r) : Cv Tryz.prog (GX X) 41 [xL (List.map e_ast_Chan a0), xL (List.map e_ast_Chan a1), .fn (.func 42) [] []] (r_ast_Chan__ast_sameChan r) := by
  refine Cs.toV (?_ : Cs Tryz.prog (GX X) 41 [xL (List.map e_ast_Chan a0), xL (List.map e_ast_Chan a1), .fn (.func 42) [] []] [] (r_ast_Chan__ast_sameChan r) (o_ast_Chan__ast_sameChan r)) (by kernel_rfl)
  refine fnT (cx := cx X) Tryz.f41 Tryz.call41 Tryz.func41 (by kernel_rfl) ?_
  unfold ast_Chan__ast_sameChan at h
  refine adv (ok X) 5 [.i (a0.length : Int), .i (a1.length : Int)] (pA (lm e_ast_Chan a0) (pA (lm e_ast_Chan a1) pT)) (by kernel_rfl) ?_
  rcases iteE h with ⟨k1, h⟩ | ⟨k1, h⟩
  · obtain rfl := retE h
    exact fin (ok X) 4 [.b true] (pA k1 pT) (by kernel_rfl)
  · refine adv (ok X) 5 [.b false, .i (a0.length : Int)] (pA k1 (pA (lm e_ast_Chan a0) pT)) (by kernel_rfl) ?_
    refine lp (ok X) (ast_Chan__ast_sameChan_l1 a0 a1) (fun (x1 : Int) => ⟨32, 0, [(1, [xL (List.map e_ast_Chan a1)]), (2, [.fn (.func 42) [] []]), (15, [xL (List.map e_ast_Chan a0)]), (16, [xI (a0.length : Int)]), (17, [xI x1])], []⟩) (fun (j1 : Unit) => ⟨32, 0, [], []⟩) R_ast_Chan__ast_sameChan 0 (fun _ => ⟨_, _, _, _, rfl⟩) h (by kernel_rfl) (fun x1 o h => ?_) (fun r' h => ?_) (fun j1 h => ?_)
    · unfold ast_Chan__ast_sameChan_l1 at h
      rcases iteE h with ⟨k2, h⟩ | ⟨k2, h⟩
      · obtain ⟨v1, k3, h⟩ := bindE h
        obtain ⟨v2, k4, h⟩ := bindE h
        obtain ⟨v3, k5, h⟩ := bindE h
        refine adv (ok X) 13 [.b true, .e (e_ast_Chan v1), .e (e_ast_Chan v2), .c (r_ast_sameChan v3)] (pA k2 (pA (ixm e_ast_Chan k3) (pA (ixm e_ast_Chan k4) (pA (m_ast_sameChan (X := X) k5) pT)))) (by kernel_rfl) ?_
        rcases iteE h with ⟨k6, h⟩ | ⟨k6, h⟩
        · obtain rfl := retE h
          exact fin (ok X) 4 [.b true] (pA k6 pT) (by kernel_rfl)
        · obtain rfl := retE h
          exact fin (ok X) 4 [.b false] (pA k6 pT) (by kernel_rfl)
      · obtain rfl := retE h
        exact fin (ok X) 5 [.b false] (pA k2 pT) (by kernel_rfl)
    · obtain rfl := retE h
      kernel_rfl
    · obtain rfl := retE h
      exact fin (ok X) 3 [] pT (by kernel_rfl)

theorem m_ast_Same {a0 : ast_System} {a1 : ast_System} {r : Bool} (h : ast_Same a0 a1 = some r) : Cv Tryz.prog (GX X) 12 [.agg (bs (e_ast_System a0)), .agg (bs (e_ast_System a1))] (r_ast_Same r) := by
  refine Cs.toV (?_ : Cs Tryz.prog (GX X) 12 [.agg (bs (e_ast_System a0)), .agg (bs (e_ast_System a1))] [] (r_ast_Same r) (o_ast_Same r)) (by kernel_rfl)
  refine fnT (cx := cx X) Tryz.f12 Tryz.call12 Tryz.func12 (by kernel_rfl) ?_
  unfold ast_Same at h
  obtain ⟨v1, k1, h⟩ := bindE h
  obtain ⟨v2, k2, h⟩ := bindE h
  refine adv (ok X) 7 [.c (r_ast_Rule__ast_Same_1 v1), .c (r_ast_Proc__ast_Same_2 v2)] (pA (m_ast_Rule__ast_Same_1 (X := X) k1) (pA (m_ast_Proc__ast_Same_2 (X := X) k2) pT)) (by kernel_rfl) ?_
  rcases iteE h with ⟨k3, h⟩ | ⟨k3, h⟩
  · rcases iteE h with ⟨k4, h⟩ | ⟨k4, h⟩
    · obtain ⟨v3, k5, h⟩ := bindE h
      obtain rfl := retE h
      exact fin (ok X) 2 [.b true, .b true, .b true, .b true, .b true, .b true, .b true, .c (r_ast_Chan__ast_sameChan v3), .b true] (pA k3 (pA k3 (pA k4 (pA k4 (pA k4 (pA k4 (pA k4 (pA (m_ast_Chan__ast_sameChan (X := X) k5) (pA k4 pT))))))))) (by kernel_rfl)
    · obtain rfl := retE h
      exact fin (ok X) 2 [.b true, .b true, .b false, .b false, .b false, .b false, .b false, .b false] (pA k3 (pA k3 (pA k4 (pA k4 (pA k4 (pA k4 (pA k4 (pA k4 pT)))))))) (by kernel_rfl)
  · obtain rfl := retE h
    exact fin (ok X) 2 [.b false, .b false, .b false, .b false, .b false, .b false, .b false, .b false] (pA k3 (pA k3 (pA ff (pA ff (pA ff (pA ff (pA ff (pA ff pT)))))))) (by kernel_rfl)

theorem m_l03_ParseReads {a0 : ByteArray} {r : Bool} (h : l03_ParseReads a0 = some r) : Cv Tryz.prog (GX X) 3 [xS a0] (r_l03_ParseReads r) := by
  refine Cs.toV (?_ : Cs Tryz.prog (GX X) 3 [xS a0] [] (r_l03_ParseReads r) (o_l03_ParseReads r)) (by kernel_rfl)
  refine fnT (cx := cx X) Tryz.f3 Tryz.call3 Tryz.func3 (by kernel_rfl) ?_
  unfold l03_ParseReads at h
  obtain ⟨v1, k1, h⟩ := bindE h
  obtain ⟨v2, k2, h⟩ := bindE h
  obtain ⟨v3, k3, h⟩ := bindE h
  refine adv (ok X) 9 [.x [xS v1], .c (r_parse_Parse v2), .c (r_r03_Parse v3)] (pA k1 (pA (m_parse_Parse (X := X) k2) (pA (m_r03_Parse (X := X) k3) pT))) (by kernel_rfl) ?_
  obtain ⟨v4, k4, h⟩ := bindE h
  rcases iteE h with ⟨k5, h⟩ | ⟨k5, h⟩
  · rcases iteE h with ⟨k6, h⟩ | ⟨k6, h⟩
    · rcases iteE h with ⟨k7, h⟩ | ⟨k7, h⟩
      · obtain ⟨v5, k8, h⟩ := bindE h
        obtain ⟨v6, k9, h⟩ := bindE h
        obtain rfl := retE h
        exact fin (ok X) 2 [.o [0, 1, 2, 3, 4, 5, 6, 7, 8, 9, 10, 11, 12, 13, 14, 15, 16, 17], .c (r_l03_parses v4), .b true, .b true, .b true, .b true, .b true, .b true, .b true, .b true, .b true, .b true, .b true, .c (r_l02_System v5), .b true, .c (r_ast_Same v6), .b true] (pA (m_l03_parses (X := X) k4) (pA k5 (pA k5 (pA k5 (pA k5 (pA k6 (pA k6 (pA k6 (pA k6 (pA k7 (pA k7 (pA k7 (pA (m_l02_System (X := X) k8) (pA k7 (pA (m_ast_Same (X := X) k9) (pA k7 pT)))))))))))))))) (by kernel_rfl)
      · obtain rfl := retE h
        exact fin (ok X) 2 [.o [0, 1, 2, 3, 4, 5, 6, 7, 8, 9, 10, 11, 12, 13, 14, 15, 16, 17], .c (r_l03_parses v4), .b true, .b true, .b true, .b true, .b true, .b true, .b true, .b true, .b false, .b false, .b false, .b false, .b false] (pA (m_l03_parses (X := X) k4) (pA k5 (pA k5 (pA k5 (pA k5 (pA k6 (pA k6 (pA k6 (pA k6 (pA k7 (pA k7 (pA k7 (pA k7 (pA k7 pT)))))))))))))) (by kernel_rfl)
    · obtain rfl := retE h
      exact fin (ok X) 2 [.o [0, 1, 2, 3, 4, 5, 6, 7, 8, 9, 10, 11, 12, 13, 14, 15, 16, 17], .c (r_l03_parses v4), .b true, .b true, .b true, .b true, .b false, .b false, .b false, .b false, .b false, .b false, .b false, .b false, .b false] (pA (m_l03_parses (X := X) k4) (pA k5 (pA k5 (pA k5 (pA k5 (pA k6 (pA k6 (pA k6 (pA k6 (pA ff (pA ff (pA ff (pA ff (pA ff pT)))))))))))))) (by kernel_rfl)
  · obtain rfl := retE h
    exact fin (ok X) 2 [.o [0, 1, 2, 3, 4, 5, 6, 7, 8, 9, 10, 11, 12, 13, 14, 15, 16, 17], .c (r_l03_parses v4), .b false, .b false, .b false, .b false, .b false, .b false, .b false, .b false, .b false, .b false, .b false, .b false, .b false] (pA (m_l03_parses (X := X) k4) (pA k5 (pA k5 (pA k5 (pA k5 (pA ff (pA ff (pA ff (pA ff (pA ff (pA ff (pA ff (pA ff (pA ff pT)))))))))))))) (by kernel_rfl)
end Go.Proofs.YtokjbpmjdcbogaaGreatDoor.Abs

/- Gw: the functions are these. -/
import Derived.Test.YtokjbpmjdcbogaaGreatDoorGwW1
namespace Go.Proofs.YtokjbpmjdcbogaaGreatDoor.Abs
open Go Go.RowKit
set_option linter.unusedVariables false
set_option maxRecDepth 100000
set_option maxHeartbeats 4000000
variable {X : EV}
theorem zjz {n : Nat} (ih_ast_sameExpr : ∀ (a0 : z04) (a1 : z04) (r : Bool), z52 n a0 a1 = some r → Cv Tryz.prog (GX X) 69 [.agg (bs (z0d a0)), .agg (bs (z0d a1))] (z4x r)) (ih_ast_Expr__ast_sameExpr : ∀ (a0 : (List z04)) (a1 : (List z04)) (r : Bool), z2b n a0 a1 = some r → Cv Tryz.prog (GX X) 101 [xL (List.map z0w a0), xL (List.map z0w a1), .fn (.func 69) [] []] (z47 r)) (a0 : z04) (a1 : z04) (r : Bool) (h : z52 (n + 1) a0 a1 = some r) : Cv Tryz.prog (GX X) 69 [.agg (bs (z0d a0)), .agg (bs (z0d a1))] (z4x r) := by
 refine Cs.toV (?_ : Cs Tryz.prog (GX X) 69 [.agg (bs (z0d a0)), .agg (bs (z0d a1))] [] (z4x r) (zju r)) (by kernel_rfl)
 refine fnT (cx := cx X) Tryz.f69 Tryz.call69 Tryz.func69 (by kernel_rfl) ?_
 rw [z52] at h
 refine adv (ok X) 4 [] pT (by kernel_rfl) ?_
 refine jn (ok X) 1 (fun (j1 : Bool) => ⟨39, 0, [(2, [xP 0 0]), (3, [xP 1 0]), (33, [xB j1])], [oB 103 (bs (z0d a0)), oB 103 (bs (z0d a1))]⟩) h (fun j1 h => ?_) (fun j1 h => ?_)
 ·rcases iteE h with ⟨k1, h⟩ | ⟨k1, h⟩
  ·obtain rfl := retE h
   exact fin (ok X) 1 (bT 12 []) (pR 6 k1 (pR 6 tt pT)) (by kernel_rfl)
  ·rcases iteE h with ⟨k2, h⟩ | ⟨k2, h⟩
   ·rcases iteE h with ⟨k3, h⟩ | ⟨k3, h⟩
    ·obtain rfl := retE h
     exact fin (ok X) 1 (bF 4 (bT 5 (.b false :: .b true :: .b false :: bT 6 []))) (pR 4 k1 (pR 5 k2 (pA k1 (pA k2 (pA k1 (pR 6 k3 pT)))))) (by kernel_rfl)
    ·rcases iteE h with ⟨k4, h⟩ | ⟨k4, h⟩
     ·obtain rfl := retE h
      exact fin (ok X) 1 (bF 4 (bT 5 (.b false :: .b true :: bF 5 (bT 5 [.b false, .b true, .b false])))) (pR 4 k1 (pR 5 k2 (pA k1 (pA k2 (pA k1 (pR 4 k3 (pR 5 k4 (pA k3 (pA k4 (pA k3 pT)))))))))) (by kernel_rfl)
     ·obtain rfl := retE h
      exact fin (ok X) 1 (bF 4 (bT 5 (.b false :: .b true :: bF 13 []))) (pR 4 k1 (pR 5 k2 (pA k1 (pA k2 (pA k1 (pR 4 k3 (pR 5 k4 (pA k3 (pA k4 (pA k3 pT)))))))))) (by kernel_rfl)
   ·rcases iteE h with ⟨k5, h⟩ | ⟨k5, h⟩
    ·obtain rfl := retE h
     exact fin (ok X) 1 (bF 16 (bT 5 [.b false, .b true, .b false])) (pR 4 k1 (pR 5 k2 (pA k1 (pA k2 (pA k1 (pR 4 ff (pR 5 k5 (pA ff (pA k5 (pA ff pT)))))))))) (by kernel_rfl)
    ·obtain rfl := retE h
     exact fin (ok X) 1 (bF 24 []) (pR 4 k1 (pR 5 k2 (pA k1 (pA k2 (pA k1 (pR 4 ff (pR 5 k5 (pA ff (pA k5 (pA ff pT)))))))))) (by kernel_rfl)
 ·rcases iteE h with ⟨k6, h⟩ | ⟨k6, h⟩
  ·obtain rfl := retE h
   exact fin (ok X) 4 [.b true] (pA k6 pT) (by kernel_rfl)
  ·obtain ⟨v1, k7, h⟩ := z06 h
   obtain rfl := retE h
   exact fin (ok X) 5 [.b false, .c (z47 v1)] (pA k6 (pA (ih_ast_Expr__ast_sameExpr _ _ _ k7) pT)) (by kernel_rfl)

theorem zcq {n : Nat} (ih_ast_sameExpr : ∀ (a0 : z04) (a1 : z04) (r : Bool), z52 n a0 a1 = some r → Cv Tryz.prog (GX X) 69 [.agg (bs (z0d a0)), .agg (bs (z0d a1))] (z4x r)) (ih_ast_Expr__ast_sameExpr : ∀ (a0 : (List z04)) (a1 : (List z04)) (r : Bool), z2b n a0 a1 = some r → Cv Tryz.prog (GX X) 101 [xL (List.map z0w a0), xL (List.map z0w a1), .fn (.func 69) [] []] (z47 r)) (a0 : (List z04)) (a1 : (List z04)) (r : Bool) (h : z2b (n + 1) a0 a1 = some r) : Cv Tryz.prog (GX X) 101 [xL (List.map z0w a0), xL (List.map z0w a1), .fn (.func 69) [] []] (z47 r) := by
 refine Cs.toV (?_ : Cs Tryz.prog (GX X) 101 [xL (List.map z0w a0), xL (List.map z0w a1), .fn (.func 69) [] []] [] (z47 r) (z9o r)) (by kernel_rfl)
 refine fnT (cx := cx X) Tryz.f101 Tryz.call101 Tryz.func101 (by kernel_rfl) ?_
 rw [z2b] at h
 refine adv (ok X) 5 [.i (a0.length : Int), .i (a1.length : Int)] (pA (lm z0w a0) (pA (lm z0w a1) pT)) (by kernel_rfl) ?_
 rcases iteE h with ⟨k1, h⟩ | ⟨k1, h⟩
 ·obtain rfl := retE h
  exact fin (ok X) 4 [.b true] (pA k1 pT) (by kernel_rfl)
 ·refine adv (ok X) 5 [.b false, .i (a0.length : Int)] (pA k1 (pA (lm z0w a0) pT)) (by kernel_rfl) ?_
  refine lp (ok X) (z4h (z52 n) (z2b n) a0 a1) (fun (x1 : Int) => ⟨32, 0, [(1, [xL (List.map z0w a1)]), (2, [.fn (.func 69) [] []]), (15, [xL (List.map z0w a0)]), (16, [xI (a0.length : Int)]), (17, [xI x1])], []⟩) (fun (j1 : Unit) => ⟨32, 0, [], []⟩) zcm 0 (fun _ => ⟨_, _, _, _, rfl⟩) h (by kernel_rfl) (fun x1 o h => ?_) (fun r' h => ?_) (fun j1 h => ?_)
  ·unfold z4h at h
   rcases iteE h with ⟨k2, h⟩ | ⟨k2, h⟩
   ·obtain ⟨v1, k3, h⟩ := z06 h
    obtain ⟨v2, k4, h⟩ := z06 h
    obtain ⟨v3, k5, h⟩ := z06 h
    refine adv (ok X) 13 [.b true, .e (z0d v1), .e (z0d v2), .c (z4x v3)] (pA k2 (pA (ixr z42 k3) (pA (ixr z42 k4) (pA (ih_ast_sameExpr _ _ _ k5) pT)))) (by kernel_rfl) ?_
    rcases iteE h with ⟨k6, h⟩ | ⟨k6, h⟩
    ·obtain rfl := retE h
     exact fin (ok X) 4 [.b true] (pA k6 pT) (by kernel_rfl)
    ·obtain rfl := retE h
     exact fin (ok X) 4 [.b false] (pA k6 pT) (by kernel_rfl)
   ·obtain rfl := retE h
    exact fin (ok X) 5 [.b false] (pA k2 pT) (by kernel_rfl)
  ·obtain rfl := retE h
   kernel_rfl
  ·obtain rfl := retE h
   exact fin (ok X) 3 [] pT (by kernel_rfl)

theorem zdf : ∀ n : Nat, (∀ (a0 : z04) (a1 : z04) (r : Bool), z52 n a0 a1 = some r → Cv Tryz.prog (GX X) 69 [.agg (bs (z0d a0)), .agg (bs (z0d a1))] (z4x r)) ∧ (∀ (a0 : (List z04)) (a1 : (List z04)) (r : Bool), z2b n a0 a1 = some r → Cv Tryz.prog (GX X) 101 [xL (List.map z0w a0), xL (List.map z0w a1), .fn (.func 69) [] []] (z47 r))
 | 0 => ⟨(fun _ _ _ h => by rw [z52] at h; cases h), (fun _ _ _ h => by rw [z2b] at h; cases h)⟩
 | n + 1 => by
  have ih := zdf n
  exact ⟨zjz ih.1 ih.2, zcq ih.1 ih.2⟩

theorem z90 {a0 : z04} {a1 : z04} {r : Bool} (h : z9p a0 a1 = some r) : Cv Tryz.prog (GX X) 69 [.agg (bs (z0d a0)), .agg (bs (z0d a1))] (z4x r) := by
 obtain ⟨n, hn⟩ := unfE h
 exact (zdf n).1 _ _ _ hn

theorem z7o {a0 : z31} {a1 : z31} {r : Bool} (h : z87 a0 a1 = some r) : Cv Tryz.prog (GX X) 70 [.agg (bs (z9j a0)), .agg (bs (z9j a1))] (z6d r) := by
 refine Cs.toV (?_ : Cs Tryz.prog (GX X) 70 [.agg (bs (z9j a0)), .agg (bs (z9j a1))] [] (z6d r) (zjv r)) (by kernel_rfl)
 refine fnT (cx := cx X) Tryz.f70 Tryz.call70 Tryz.func70 (by kernel_rfl) ?_
 unfold z87 at h
 rcases iteE h with ⟨k1, h⟩ | ⟨k1, h⟩
 ·obtain ⟨v1, k2, h⟩ := z06 h
  rcases iteE h with ⟨k3, h⟩ | ⟨k3, h⟩
  ·obtain ⟨v2, k4, h⟩ := z06 h
   obtain rfl := retE h
   exact fin (ok X) 5 (bT 5 (.c (z4x v1) :: bT 6 [.c (z4x v2), .b true])) (pR 5 k1 (pA (z90 (X := X) k2) (pA k1 (pR 5 k3 (pA (z90 (X := X) k4) (pA k3 pT)))))) (by kernel_rfl)
  ·obtain rfl := retE h
   exact fin (ok X) 5 (bT 5 (.c (z4x v1) :: .b true :: bF 6 [])) (pR 5 k1 (pA (z90 (X := X) k2) (pA k1 (pR 6 k3 pT)))) (by kernel_rfl)
 ·obtain rfl := retE h
  exact fin (ok X) 5 (bF 12 []) (pR 6 k1 (pR 6 ff pT)) (by kernel_rfl)

theorem zcr {n : Nat} (ih_ast_Stmt__ast_sameStmt : ∀ (a0 : (List z03)) (a1 : (List z03)) (r : Bool), z10 n a0 a1 = some r → Cv Tryz.prog (GX X) 39 [xL (List.map z0j a0), xL (List.map z0j a1), .fn (.func 40) [] []] (z1f r)) (ih_ast_sameStmt : ∀ (a0 : z03) (a1 : z03) (r : Bool), z3n n a0 a1 = some r → Cv Tryz.prog (GX X) 40 [.agg (bs (z1q a0)), .agg (bs (z1q a1))] (z6e r)) (ih_ast_Arm__ast_sameArm : ∀ (a0 : (List z0m)) (a1 : (List z0m)) (r : Bool), z1i n a0 a1 = some r → Cv Tryz.prog (GX X) 71 [xL (List.map z1n a0), xL (List.map z1n a1), .fn (.func 72) [] []] (z3m r)) (ih_ast_sameArm : ∀ (a0 : z0m) (a1 : z0m) (r : Bool), z4d n a0 a1 = some r → Cv Tryz.prog (GX X) 72 [.agg (bs (z5p a0)), .agg (bs (z5p a1))] (z6x r)) (a0 : (List z03)) (a1 : (List z03)) (r : Bool) (h : z10 (n + 1) a0 a1 = some r) : Cv Tryz.prog (GX X) 39 [xL (List.map z0j a0), xL (List.map z0j a1), .fn (.func 40) [] []] (z1f r) := by
 refine Cs.toV (?_ : Cs Tryz.prog (GX X) 39 [xL (List.map z0j a0), xL (List.map z0j a1), .fn (.func 40) [] []] [] (z1f r) (z9q r)) (by kernel_rfl)
 refine fnT (cx := cx X) Tryz.f39 Tryz.call39 Tryz.func39 (by kernel_rfl) ?_
 rw [z10] at h
 refine adv (ok X) 5 [.i (a0.length : Int), .i (a1.length : Int)] (pA (lm z0j a0) (pA (lm z0j a1) pT)) (by kernel_rfl) ?_
 rcases iteE h with ⟨k1, h⟩ | ⟨k1, h⟩
 ·obtain rfl := retE h
  exact fin (ok X) 4 [.b true] (pA k1 pT) (by kernel_rfl)
 ·refine adv (ok X) 5 [.b false, .i (a0.length : Int)] (pA k1 (pA (lm z0j a0) pT)) (by kernel_rfl) ?_
  refine lp (ok X) (z4i (z10 n) (z3n n) (z1i n) (z4d n) a0 a1) (fun (x1 : Int) => ⟨32, 0, [(1, [xL (List.map z0j a1)]), (2, [.fn (.func 40) [] []]), (15, [xL (List.map z0j a0)]), (16, [xI (a0.length : Int)]), (17, [xI x1])], []⟩) (fun (j1 : Unit) => ⟨32, 0, [], []⟩) zcn 0 (fun _ => ⟨_, _, _, _, rfl⟩) h (by kernel_rfl) (fun x1 o h => ?_) (fun r' h => ?_) (fun j1 h => ?_)
  ·unfold z4i at h
   rcases iteE h with ⟨k2, h⟩ | ⟨k2, h⟩
   ·obtain ⟨v1, k3, h⟩ := z06 h
    obtain ⟨v2, k4, h⟩ := z06 h
    obtain ⟨v3, k5, h⟩ := z06 h
    refine adv (ok X) 13 [.b true, .e (z1q v1), .e (z1q v2), .c (z6e v3)] (pA k2 (pA (ixr z3l k3) (pA (ixr z3l k4) (pA (ih_ast_sameStmt _ _ _ k5) pT)))) (by kernel_rfl) ?_
    rcases iteE h with ⟨k6, h⟩ | ⟨k6, h⟩
    ·obtain rfl := retE h
     exact fin (ok X) 4 [.b true] (pA k6 pT) (by kernel_rfl)
    ·obtain rfl := retE h
     exact fin (ok X) 4 [.b false] (pA k6 pT) (by kernel_rfl)
   ·obtain rfl := retE h
    exact fin (ok X) 5 [.b false] (pA k2 pT) (by kernel_rfl)
  ·obtain rfl := retE h
   kernel_rfl
  ·obtain rfl := retE h
   exact fin (ok X) 3 [] pT (by kernel_rfl)

theorem zk0 {n : Nat} (ih_ast_Stmt__ast_sameStmt : ∀ (a0 : (List z03)) (a1 : (List z03)) (r : Bool), z10 n a0 a1 = some r → Cv Tryz.prog (GX X) 39 [xL (List.map z0j a0), xL (List.map z0j a1), .fn (.func 40) [] []] (z1f r)) (ih_ast_sameStmt : ∀ (a0 : z03) (a1 : z03) (r : Bool), z3n n a0 a1 = some r → Cv Tryz.prog (GX X) 40 [.agg (bs (z1q a0)), .agg (bs (z1q a1))] (z6e r)) (ih_ast_Arm__ast_sameArm : ∀ (a0 : (List z0m)) (a1 : (List z0m)) (r : Bool), z1i n a0 a1 = some r → Cv Tryz.prog (GX X) 71 [xL (List.map z1n a0), xL (List.map z1n a1), .fn (.func 72) [] []] (z3m r)) (ih_ast_sameArm : ∀ (a0 : z0m) (a1 : z0m) (r : Bool), z4d n a0 a1 = some r → Cv Tryz.prog (GX X) 72 [.agg (bs (z5p a0)), .agg (bs (z5p a1))] (z6x r)) (a0 : z03) (a1 : z03) (r : Bool) (h : z3n (n + 1) a0 a1 = some r) : Cv Tryz.prog (GX X) 40 [.agg (bs (z1q a0)), .agg (bs (z1q a1))] (z6e r) := by
 refine Cs.toV (?_ : Cs Tryz.prog (GX X) 40 [.agg (bs (z1q a0)), .agg (bs (z1q a1))] [] (z6e r) (zjw r)) (by kernel_rfl)
 refine fnT (cx := cx X) Tryz.f40 Tryz.call40 Tryz.func40 (by kernel_rfl) ?_
 rw [z3n] at h
 rcases iteE h with ⟨k1, h⟩ | ⟨k1, h⟩
 ·obtain rfl := retE h
  exact fin (ok X) 9 [.b true] (pA k1 pT) (by kernel_rfl)
 ·refine adv (ok X) 13 [.b false] (pA k1 pT) (by kernel_rfl) ?_
  rcases iteE h with ⟨k2, h⟩ | ⟨k2, h⟩
  ·refine adv (ok X) 2 [.b true] (pA k2 pT) (by kernel_rfl) ?_
   refine jn (ok X) 1 (fun (j1 : Bool) => ⟨110, 0, [(4, [xB j1])], []⟩) h (fun j1 h => ?_) (fun j1 h => ?_)
   ·rcases iteE h with ⟨k3, h⟩ | ⟨k3, h⟩
    ·obtain ⟨v1, k4, h⟩ := z06 h
     obtain rfl := retE h
     exact fin (ok X) 1 (bT 5 [.c (z4x v1), .b true]) (pR 5 k3 (pA (z90 (X := X) k4) (pA k3 pT))) (by kernel_rfl)
    ·obtain rfl := retE h
     exact fin (ok X) 1 (bF 6 []) (pR 6 k3 pT) (by kernel_rfl)
   ·obtain rfl := retE h
    exact fin (ok X) 1 [] pT (by kernel_rfl)
  ·refine adv (ok X) 3 [.b false] (pA k2 pT) (by kernel_rfl) ?_
   rcases iteE h with ⟨k5, h⟩ | ⟨k5, h⟩
   ·refine adv (ok X) 2 [.b true] (pA k5 pT) (by kernel_rfl) ?_
    refine jn (ok X) 1 (fun (j2 : Bool) => ⟨110, 0, [(4, [xB j2])], []⟩) h (fun j2 h => ?_) (fun j2 h => ?_)
    ·obtain ⟨v2, k6, h⟩ := z06 h
     rcases iteE h with ⟨k7, h⟩ | ⟨k7, h⟩
     ·obtain ⟨v3, k8, h⟩ := z06 h
      rcases iteE h with ⟨k9, h⟩ | ⟨k9, h⟩
      ·obtain ⟨v4, k10, h⟩ := z06 h
       obtain rfl := retE h
       exact fin (ok X) 1 (.c (z6d v2) :: bT 5 (.c (z1f v3) :: bT 6 [.c (z1f v4), .b true])) (pA (z7o (X := X) k6) (pR 5 k7 (pA (ih_ast_Stmt__ast_sameStmt _ _ _ k8) (pA k7 (pR 5 k9 (pA (ih_ast_Stmt__ast_sameStmt _ _ _ k10) (pA k9 pT))))))) (by kernel_rfl)
      ·obtain rfl := retE h
       exact fin (ok X) 1 (.c (z6d v2) :: bT 5 (.c (z1f v3) :: .b true :: bF 6 [])) (pA (z7o (X := X) k6) (pR 5 k7 (pA (ih_ast_Stmt__ast_sameStmt _ _ _ k8) (pA k7 (pR 6 k9 pT))))) (by kernel_rfl)
     ·obtain rfl := retE h
      exact fin (ok X) 1 (.c (z6d v2) :: bF 12 []) (pA (z7o (X := X) k6) (pR 6 k7 (pR 6 ff pT))) (by kernel_rfl)
    ·obtain rfl := retE h
     exact fin (ok X) 1 [] pT (by kernel_rfl)
   ·refine adv (ok X) 3 [.b false] (pA k5 pT) (by kernel_rfl) ?_
    rcases iteE h with ⟨k11, h⟩ | ⟨k11, h⟩
    ·refine adv (ok X) 2 [.b true] (pA k11 pT) (by kernel_rfl) ?_
     refine jn (ok X) 1 (fun (j3 : Bool) => ⟨110, 0, [(4, [xB j3])], []⟩) h (fun j3 h => ?_) (fun j3 h => ?_)
     ·obtain ⟨v5, k12, h⟩ := z06 h
      rcases iteE h with ⟨k13, h⟩ | ⟨k13, h⟩
      ·obtain ⟨v6, k14, h⟩ := z06 h
       obtain rfl := retE h
       exact fin (ok X) 1 (.c (z6d v5) :: bT 5 [.c (z1f v6), .b true]) (pA (z7o (X := X) k12) (pR 5 k13 (pA (ih_ast_Stmt__ast_sameStmt _ _ _ k14) (pA k13 pT)))) (by kernel_rfl)
      ·obtain rfl := retE h
       exact fin (ok X) 1 (.c (z6d v5) :: bF 6 []) (pA (z7o (X := X) k12) (pR 6 k13 pT)) (by kernel_rfl)
     ·obtain rfl := retE h
      exact fin (ok X) 1 [] pT (by kernel_rfl)
    ·refine adv (ok X) 3 [.b false] (pA k11 pT) (by kernel_rfl) ?_
     rcases iteE h with ⟨k15, h⟩ | ⟨k15, h⟩
     ·refine adv (ok X) 2 [.b true] (pA k15 pT) (by kernel_rfl) ?_
      refine jn (ok X) 1 (fun (j4 : Bool) => ⟨110, 0, [(4, [xB j4])], []⟩) h (fun j4 h => ?_) (fun j4 h => ?_)
      ·rcases iteE h with ⟨k16, h⟩ | ⟨k16, h⟩
       ·rcases iteE h with ⟨k17, h⟩ | ⟨k17, h⟩
        ·obtain ⟨v7, k18, h⟩ := z06 h
         obtain rfl := retE h
         exact fin (ok X) 1 (bT 11 [.c (z4x v7), .b true]) (pR 6 k16 (pR 5 k17 (pA (z90 (X := X) k18) (pA k17 pT)))) (by kernel_rfl)
        ·obtain rfl := retE h
         exact fin (ok X) 1 (bT 6 (bF 6 [])) (pR 6 k16 (pR 6 k17 pT)) (by kernel_rfl)
       ·obtain rfl := retE h
        exact fin (ok X) 1 (bF 12 []) (pR 6 k16 (pR 6 ff pT)) (by kernel_rfl)
      ·obtain rfl := retE h
       exact fin (ok X) 1 [] pT (by kernel_rfl)
     ·refine adv (ok X) 3 [.b false] (pA k15 pT) (by kernel_rfl) ?_
      rcases iteE h with ⟨k19, h⟩ | ⟨k19, h⟩
      ·refine adv (ok X) 2 [.b true] (pA k19 pT) (by kernel_rfl) ?_
       refine jn (ok X) 1 (fun (j5 : Bool) => ⟨110, 0, [(4, [xB j5])], []⟩) h (fun j5 h => ?_) (fun j5 h => ?_)
       ·rcases iteE h with ⟨k20, h⟩ | ⟨k20, h⟩
        ·obtain ⟨v8, k21, h⟩ := z06 h
         obtain rfl := retE h
         exact fin (ok X) 1 (bT 5 [.c (z3m v8), .b true]) (pR 5 k20 (pA (ih_ast_Arm__ast_sameArm _ _ _ k21) (pA k20 pT))) (by kernel_rfl)
        ·obtain rfl := retE h
         exact fin (ok X) 1 (bF 6 []) (pR 6 k20 pT) (by kernel_rfl)
       ·obtain rfl := retE h
        exact fin (ok X) 1 [] pT (by kernel_rfl)
      ·refine adv (ok X) 3 [.b false] (pA k19 pT) (by kernel_rfl) ?_
       rcases iteE h with ⟨k22, h⟩ | ⟨k22, h⟩
       ·obtain ⟨v9, k23, h⟩ := z06 h
        obtain rfl := retE h
        exact fin (ok X) 4 [.b true, .c (z6d v9)] (pA k22 (pA (z7o (X := X) k23) pT)) (by kernel_rfl)
       ·refine adv (ok X) 3 [.b false] (pA k22 pT) (by kernel_rfl) ?_
        rcases iteE h with ⟨k24, h⟩ | ⟨k24, h⟩
        ·obtain rfl := retE h
         exact fin (ok X) 4 [.b true] (pA k24 pT) (by kernel_rfl)
        ·obtain rfl := retE h
         exact fin (ok X) 6 [.b false] (pA k24 pT) (by kernel_rfl)

theorem zdp {n : Nat} (ih_ast_Stmt__ast_sameStmt : ∀ (a0 : (List z03)) (a1 : (List z03)) (r : Bool), z10 n a0 a1 = some r → Cv Tryz.prog (GX X) 39 [xL (List.map z0j a0), xL (List.map z0j a1), .fn (.func 40) [] []] (z1f r)) (ih_ast_sameStmt : ∀ (a0 : z03) (a1 : z03) (r : Bool), z3n n a0 a1 = some r → Cv Tryz.prog (GX X) 40 [.agg (bs (z1q a0)), .agg (bs (z1q a1))] (z6e r)) (ih_ast_Arm__ast_sameArm : ∀ (a0 : (List z0m)) (a1 : (List z0m)) (r : Bool), z1i n a0 a1 = some r → Cv Tryz.prog (GX X) 71 [xL (List.map z1n a0), xL (List.map z1n a1), .fn (.func 72) [] []] (z3m r)) (ih_ast_sameArm : ∀ (a0 : z0m) (a1 : z0m) (r : Bool), z4d n a0 a1 = some r → Cv Tryz.prog (GX X) 72 [.agg (bs (z5p a0)), .agg (bs (z5p a1))] (z6x r)) (a0 : (List z0m)) (a1 : (List z0m)) (r : Bool) (h : z1i (n + 1) a0 a1 = some r) : Cv Tryz.prog (GX X) 71 [xL (List.map z1n a0), xL (List.map z1n a1), .fn (.func 72) [] []] (z3m r) := by
 refine Cs.toV (?_ : Cs Tryz.prog (GX X) 71 [xL (List.map z1n a0), xL (List.map z1n a1), .fn (.func 72) [] []] [] (z3m r) (za5 r)) (by kernel_rfl)
 refine fnT (cx := cx X) Tryz.f71 Tryz.call71 Tryz.func71 (by kernel_rfl) ?_
 rw [z1i] at h
 refine adv (ok X) 5 [.i (a0.length : Int), .i (a1.length : Int)] (pA (lm z1n a0) (pA (lm z1n a1) pT)) (by kernel_rfl) ?_
 rcases iteE h with ⟨k1, h⟩ | ⟨k1, h⟩
 ·obtain rfl := retE h
  exact fin (ok X) 4 [.b true] (pA k1 pT) (by kernel_rfl)
 ·refine adv (ok X) 5 [.b false, .i (a0.length : Int)] (pA k1 (pA (lm z1n a0) pT)) (by kernel_rfl) ?_
  refine lp (ok X) (z54 (z10 n) (z3n n) (z1i n) (z4d n) a0 a1) (fun (x1 : Int) => ⟨32, 0, [(1, [xL (List.map z1n a1)]), (2, [.fn (.func 72) [] []]), (15, [xL (List.map z1n a0)]), (16, [xI (a0.length : Int)]), (17, [xI x1])], []⟩) (fun (j1 : Unit) => ⟨32, 0, [], []⟩) zdk 0 (fun _ => ⟨_, _, _, _, rfl⟩) h (by kernel_rfl) (fun x1 o h => ?_) (fun r' h => ?_) (fun j1 h => ?_)
  ·unfold z54 at h
   rcases iteE h with ⟨k2, h⟩ | ⟨k2, h⟩
   ·obtain ⟨v1, k3, h⟩ := z06 h
    obtain ⟨v2, k4, h⟩ := z06 h
    obtain ⟨v3, k5, h⟩ := z06 h
    refine adv (ok X) 13 [.b true, .e (z5p v1), .e (z5p v2), .c (z6x v3)] (pA k2 (pA (ixr z81 k3) (pA (ixr z81 k4) (pA (ih_ast_sameArm _ _ _ k5) pT)))) (by kernel_rfl) ?_
    rcases iteE h with ⟨k6, h⟩ | ⟨k6, h⟩
    ·obtain rfl := retE h
     exact fin (ok X) 4 [.b true] (pA k6 pT) (by kernel_rfl)
    ·obtain rfl := retE h
     exact fin (ok X) 4 [.b false] (pA k6 pT) (by kernel_rfl)
   ·obtain rfl := retE h
    exact fin (ok X) 5 [.b false] (pA k2 pT) (by kernel_rfl)
  ·obtain rfl := retE h
   kernel_rfl
  ·obtain rfl := retE h
   exact fin (ok X) 3 [] pT (by kernel_rfl)

theorem zl2 {n : Nat} (ih_ast_Stmt__ast_sameStmt : ∀ (a0 : (List z03)) (a1 : (List z03)) (r : Bool), z10 n a0 a1 = some r → Cv Tryz.prog (GX X) 39 [xL (List.map z0j a0), xL (List.map z0j a1), .fn (.func 40) [] []] (z1f r)) (ih_ast_sameStmt : ∀ (a0 : z03) (a1 : z03) (r : Bool), z3n n a0 a1 = some r → Cv Tryz.prog (GX X) 40 [.agg (bs (z1q a0)), .agg (bs (z1q a1))] (z6e r)) (ih_ast_Arm__ast_sameArm : ∀ (a0 : (List z0m)) (a1 : (List z0m)) (r : Bool), z1i n a0 a1 = some r → Cv Tryz.prog (GX X) 71 [xL (List.map z1n a0), xL (List.map z1n a1), .fn (.func 72) [] []] (z3m r)) (ih_ast_sameArm : ∀ (a0 : z0m) (a1 : z0m) (r : Bool), z4d n a0 a1 = some r → Cv Tryz.prog (GX X) 72 [.agg (bs (z5p a0)), .agg (bs (z5p a1))] (z6x r)) (a0 : z0m) (a1 : z0m) (r : Bool) (h : z4d (n + 1) a0 a1 = some r) : Cv Tryz.prog (GX X) 72 [.agg (bs (z5p a0)), .agg (bs (z5p a1))] (z6x r) := by
 refine Cs.toV (?_ : Cs Tryz.prog (GX X) 72 [.agg (bs (z5p a0)), .agg (bs (z5p a1))] [] (z6x r) (zl1 r)) (by kernel_rfl)
 refine fnT (cx := cx X) Tryz.f72 Tryz.call72 Tryz.func72 (by kernel_rfl) ?_
 rw [z4d] at h
 rcases iteE h with ⟨k1, h⟩ | ⟨k1, h⟩
 ·rcases iteE h with ⟨k2, h⟩ | ⟨k2, h⟩
  ·obtain ⟨v1, k3, h⟩ := z06 h
   obtain rfl := retE h
   exact fin (ok X) 5 (bT 11 [.c (z1f v1), .b true]) (pR 6 k1 (pR 5 k2 (pA (ih_ast_Stmt__ast_sameStmt _ _ _ k3) (pA k2 pT)))) (by kernel_rfl)
  ·obtain rfl := retE h
   exact fin (ok X) 5 (bT 6 (bF 6 [])) (pR 6 k1 (pR 6 k2 pT)) (by kernel_rfl)
 ·obtain rfl := retE h
  exact fin (ok X) 5 (bF 12 []) (pR 6 k1 (pR 6 ff pT)) (by kernel_rfl)

theorem z8n : ∀ n : Nat, (∀ (a0 : (List z03)) (a1 : (List z03)) (r : Bool), z10 n a0 a1 = some r → Cv Tryz.prog (GX X) 39 [xL (List.map z0j a0), xL (List.map z0j a1), .fn (.func 40) [] []] (z1f r)) ∧ (∀ (a0 : z03) (a1 : z03) (r : Bool), z3n n a0 a1 = some r → Cv Tryz.prog (GX X) 40 [.agg (bs (z1q a0)), .agg (bs (z1q a1))] (z6e r)) ∧ (∀ (a0 : (List z0m)) (a1 : (List z0m)) (r : Bool), z1i n a0 a1 = some r → Cv Tryz.prog (GX X) 71 [xL (List.map z1n a0), xL (List.map z1n a1), .fn (.func 72) [] []] (z3m r)) ∧ (∀ (a0 : z0m) (a1 : z0m) (r : Bool), z4d n a0 a1 = some r → Cv Tryz.prog (GX X) 72 [.agg (bs (z5p a0)), .agg (bs (z5p a1))] (z6x r))
 | 0 => ⟨(fun _ _ _ h => by rw [z10] at h; cases h), (fun _ _ _ h => by rw [z3n] at h; cases h), (fun _ _ _ h => by rw [z1i] at h; cases h), (fun _ _ _ h => by rw [z4d] at h; cases h)⟩
 | n + 1 => by
  have ih := z8n n
  exact ⟨zcr ih.1 ih.2.1 ih.2.2.1 ih.2.2.2, zk0 ih.1 ih.2.1 ih.2.2.1 ih.2.2.2, zdp ih.1 ih.2.1 ih.2.2.1 ih.2.2.2, zl2 ih.1 ih.2.1 ih.2.2.1 ih.2.2.2⟩

theorem zcs {a0 : (List z03)} {a1 : (List z03)} {r : Bool} (h : z7s a0 a1 = some r) : Cv Tryz.prog (GX X) 39 [xL (List.map z0j a0), xL (List.map z0j a1), .fn (.func 40) [] []] (z1f r) := by
 obtain ⟨n, hn⟩ := unfE h
 exact (z8n n).1 _ _ _ hn

theorem zmu {a0 : z2h} {a1 : z2h} {r : Bool} (h : zev a0 a1 = some r) : Cv Tryz.prog (GX X) 37 [.agg (bs (z0k a0)), .agg (bs (z0k a1))] (ze5 r) := by
 refine Cs.toV (?_ : Cs Tryz.prog (GX X) 37 [.agg (bs (z0k a0)), .agg (bs (z0k a1))] [] (ze5 r) (zmp r)) (by kernel_rfl)
 refine fnT (cx := cx X) Tryz.f37 Tryz.call37 Tryz.func37 (by kernel_rfl) ?_
 unfold zev at h
 rcases iteE h with ⟨k1, h⟩ | ⟨k1, h⟩
 ·obtain ⟨v1, k2, h⟩ := z06 h
  rcases iteE h with ⟨k3, h⟩ | ⟨k3, h⟩
  ·obtain ⟨v2, k4, h⟩ := z06 h
   obtain rfl := retE h
   exact fin (ok X) 5 (bT 5 (.c (z3r v1) :: bT 6 [.c (z1f v2), .b true])) (pR 5 k1 (pA (z68 (X := X) k2) (pA k1 (pR 5 k3 (pA (zcs (X := X) k4) (pA k3 pT)))))) (by kernel_rfl)
  ·obtain rfl := retE h
   exact fin (ok X) 5 (bT 5 (.c (z3r v1) :: .b true :: bF 6 [])) (pR 5 k1 (pA (z68 (X := X) k2) (pA k1 (pR 6 k3 pT)))) (by kernel_rfl)
 ·obtain rfl := retE h
  exact fin (ok X) 5 (bF 12 []) (pR 6 k1 (pR 6 ff pT)) (by kernel_rfl)

theorem zdq {a0 : (List z2h)} {a1 : (List z2h)} {r : Bool} (h : z6c a0 a1 = some r) : Cv Tryz.prog (GX X) 36 [xL (List.map z0k a0), xL (List.map z0k a1), .fn (.func 37) [] []] (z6q r) := by
 refine Cs.toV (?_ : Cs Tryz.prog (GX X) 36 [xL (List.map z0k a0), xL (List.map z0k a1), .fn (.func 37) [] []] [] (z6q r) (za6 r)) (by kernel_rfl)
 refine fnT (cx := cx X) Tryz.f36 Tryz.call36 Tryz.func36 (by kernel_rfl) ?_
 unfold z6c at h
 refine adv (ok X) 5 [.i (a0.length : Int), .i (a1.length : Int)] (pA (lm z0k a0) (pA (lm z0k a1) pT)) (by kernel_rfl) ?_
 rcases iteE h with ⟨k1, h⟩ | ⟨k1, h⟩
 ·obtain rfl := retE h
  exact fin (ok X) 4 [.b true] (pA k1 pT) (by kernel_rfl)
 ·refine adv (ok X) 5 [.b false, .i (a0.length : Int)] (pA k1 (pA (lm z0k a0) pT)) (by kernel_rfl) ?_
  refine lp (ok X) (z55 a0 a1) (fun (x1 : Int) => ⟨32, 0, [(1, [xL (List.map z0k a1)]), (2, [.fn (.func 37) [] []]), (15, [xL (List.map z0k a0)]), (16, [xI (a0.length : Int)]), (17, [xI x1])], []⟩) (fun (j1 : Unit) => ⟨32, 0, [], []⟩) zdl 0 (fun _ => ⟨_, _, _, _, rfl⟩) h (by kernel_rfl) (fun x1 o h => ?_) (fun r' h => ?_) (fun j1 h => ?_)
  ·unfold z55 at h
   rcases iteE h with ⟨k2, h⟩ | ⟨k2, h⟩
   ·obtain ⟨v1, k3, h⟩ := z06 h
    obtain ⟨v2, k4, h⟩ := z06 h
    obtain ⟨v3, k5, h⟩ := z06 h
    refine adv (ok X) 13 [.b true, .e (z0k v1), .e (z0k v2), .c (ze5 v3)] (pA k2 (pA (ixm z0k k3) (pA (ixm z0k k4) (pA (zmu (X := X) k5) pT)))) (by kernel_rfl) ?_
    rcases iteE h with ⟨k6, h⟩ | ⟨k6, h⟩
    ·obtain rfl := retE h
     exact fin (ok X) 4 [.b true] (pA k6 pT) (by kernel_rfl)
    ·obtain rfl := retE h
     exact fin (ok X) 4 [.b false] (pA k6 pT) (by kernel_rfl)
   ·obtain rfl := retE h
    exact fin (ok X) 5 [.b false] (pA k2 pT) (by kernel_rfl)
  ·obtain rfl := retE h
   kernel_rfl
  ·obtain rfl := retE h
   exact fin (ok X) 3 [] pT (by kernel_rfl)

theorem zk1 {a0 : z23} {a1 : z23} {r : Bool} (h : zc6 a0 a1 = some r) : Cv Tryz.prog (GX X) 42 [.agg (bs (z1u a0)), .agg (bs (z1u a1))] (zcd r) := by
 refine Cs.toV (?_ : Cs Tryz.prog (GX X) 42 [.agg (bs (z1u a0)), .agg (bs (z1u a1))] [] (zcd r) (zjx r)) (by kernel_rfl)
 refine fnT (cx := cx X) Tryz.f42 Tryz.call42 Tryz.func42 (by kernel_rfl) ?_
 unfold zc6 at h
 refine adv (ok X) 3 [] pT (by kernel_rfl) ?_
 refine jn (ok X) 1 (fun (j1 : Bool) => ⟨45, 0, [(4, [xB j1])], []⟩) h (fun j1 h => ?_) (fun j1 h => ?_)
 ·rcases iteE h with ⟨k1, h⟩ | ⟨k1, h⟩
  ·rcases iteE h with ⟨k2, h⟩ | ⟨k2, h⟩
   ·rcases iteE h with ⟨k3, h⟩ | ⟨k3, h⟩
    ·rcases iteE h with ⟨k4, h⟩ | ⟨k4, h⟩
     ·rcases iteE h with ⟨k5, h⟩ | ⟨k5, h⟩
      ·obtain ⟨v1, k6, h⟩ := z06 h
       obtain rfl := retE h
       exact fin (ok X) 1 (bT 29 [.c (z3r v1), .b true]) (pR 6 k1 (pR 6 k2 (pR 6 k3 (pR 6 k4 (pR 5 k5 (pA (z68 (X := X) k6) (pA k5 pT))))))) (by kernel_rfl)
      ·obtain rfl := retE h
       exact fin (ok X) 1 (bT 24 (bF 6 [])) (pR 6 k1 (pR 6 k2 (pR 6 k3 (pR 6 k4 (pR 6 k5 pT))))) (by kernel_rfl)
     ·obtain rfl := retE h
      exact fin (ok X) 1 (bT 18 (bF 12 [])) (pR 6 k1 (pR 6 k2 (pR 6 k3 (pR 6 k4 (pR 6 ff pT))))) (by kernel_rfl)
    ·obtain rfl := retE h
     exact fin (ok X) 1 (bT 12 (bF 18 [])) (pR 6 k1 (pR 6 k2 (pR 6 k3 (pR 12 ff pT)))) (by kernel_rfl)
   ·obtain rfl := retE h
    exact fin (ok X) 1 (bT 6 (bF 24 [])) (pR 6 k1 (pR 6 k2 (pR 18 ff pT))) (by kernel_rfl)
  ·obtain rfl := retE h
   exact fin (ok X) 1 (bF 30 []) (pR 6 k1 (pR 24 ff pT)) (by kernel_rfl)
 ·obtain rfl := retE h
  exact fin (ok X) 1 [] pT (by kernel_rfl)

theorem zct {a0 : (List z23)} {a1 : (List z23)} {r : Bool} (h : z5q a0 a1 = some r) : Cv Tryz.prog (GX X) 41 [xL (List.map z1u a0), xL (List.map z1u a1), .fn (.func 42) [] []] (z67 r) := by
 refine Cs.toV (?_ : Cs Tryz.prog (GX X) 41 [xL (List.map z1u a0), xL (List.map z1u a1), .fn (.func 42) [] []] [] (z67 r) (z9r r)) (by kernel_rfl)
 refine fnT (cx := cx X) Tryz.f41 Tryz.call41 Tryz.func41 (by kernel_rfl) ?_
 unfold z5q at h
 refine adv (ok X) 5 [.i (a0.length : Int), .i (a1.length : Int)] (pA (lm z1u a0) (pA (lm z1u a1) pT)) (by kernel_rfl) ?_
 rcases iteE h with ⟨k1, h⟩ | ⟨k1, h⟩
 ·obtain rfl := retE h
  exact fin (ok X) 4 [.b true] (pA k1 pT) (by kernel_rfl)
 ·refine adv (ok X) 5 [.b false, .i (a0.length : Int)] (pA k1 (pA (lm z1u a0) pT)) (by kernel_rfl) ?_
  refine lp (ok X) (z4j a0 a1) (fun (x1 : Int) => ⟨32, 0, [(1, [xL (List.map z1u a1)]), (2, [.fn (.func 42) [] []]), (15, [xL (List.map z1u a0)]), (16, [xI (a0.length : Int)]), (17, [xI x1])], []⟩) (fun (j1 : Unit) => ⟨32, 0, [], []⟩) zco 0 (fun _ => ⟨_, _, _, _, rfl⟩) h (by kernel_rfl) (fun x1 o h => ?_) (fun r' h => ?_) (fun j1 h => ?_)
  ·unfold z4j at h
   rcases iteE h with ⟨k2, h⟩ | ⟨k2, h⟩
   ·obtain ⟨v1, k3, h⟩ := z06 h
    obtain ⟨v2, k4, h⟩ := z06 h
    obtain ⟨v3, k5, h⟩ := z06 h
    refine adv (ok X) 13 [.b true, .e (z1u v1), .e (z1u v2), .c (zcd v3)] (pA k2 (pA (ixm z1u k3) (pA (ixm z1u k4) (pA (zk1 (X := X) k5) pT)))) (by kernel_rfl) ?_
    rcases iteE h with ⟨k6, h⟩ | ⟨k6, h⟩
    ·obtain rfl := retE h
     exact fin (ok X) 4 [.b true] (pA k6 pT) (by kernel_rfl)
    ·obtain rfl := retE h
     exact fin (ok X) 4 [.b false] (pA k6 pT) (by kernel_rfl)
   ·obtain rfl := retE h
    exact fin (ok X) 5 [.b false] (pA k2 pT) (by kernel_rfl)
  ·obtain rfl := retE h
   kernel_rfl
  ·obtain rfl := retE h
   exact fin (ok X) 3 [] pT (by kernel_rfl)

theorem zkg {a0 : z16} {a1 : z16} {r : Bool} (h : zew a0 a1 = some r) : Cv Tryz.prog (GX X) 12 [.agg (bs (z3t a0)), .agg (bs (z3t a1))] (zex r) := by
 refine Cs.toV (?_ : Cs Tryz.prog (GX X) 12 [.agg (bs (z3t a0)), .agg (bs (z3t a1))] [] (zex r) (zrx r)) (by kernel_rfl)
 refine fnT (cx := cx X) Tryz.f12 Tryz.call12 Tryz.func12 (by kernel_rfl) ?_
 unfold zew at h
 obtain ⟨v1, k1, h⟩ := z06 h
 obtain ⟨v2, k2, h⟩ := z06 h
 refine adv (ok X) 7 [.c (z6p v1), .c (z6q v2)] (pA (zdo (X := X) k1) (pA (zdq (X := X) k2) pT)) (by kernel_rfl) ?_
 rcases iteE h with ⟨k3, h⟩ | ⟨k3, h⟩
 ·rcases iteE h with ⟨k4, h⟩ | ⟨k4, h⟩
  ·obtain ⟨v3, k5, h⟩ := z06 h
   obtain rfl := retE h
   exact fin (ok X) 2 (bT 7 [.c (z67 v3), .b true]) (pA k3 (pA k3 (pR 5 k4 (pA (zct (X := X) k5) (pA k4 pT))))) (by kernel_rfl)
  ·obtain rfl := retE h
   exact fin (ok X) 2 (.b true :: .b true :: bF 6 []) (pA k3 (pA k3 (pR 6 k4 pT))) (by kernel_rfl)
 ·obtain rfl := retE h
  exact fin (ok X) 2 (bF 8 []) (pA k3 (pA k3 (pR 6 ff pT))) (by kernel_rfl)

theorem z88 {a0 : ByteArray} {r : Bool} (h : zbs a0 = some r) : Cv Tryz.prog (GX X) 18 [xS a0] (z71 r) := by
 refine Cs.toV (?_ : Cs Tryz.prog (GX X) 18 [xS a0] [] (z71 r) (zoh r)) (by kernel_rfl)
 refine fnT (cx := cx X) Tryz.f18 Tryz.call18 Tryz.func18 (by kernel_rfl) ?_
 unfold zbs at h
 refine adv (ok X) 3 [] pT (by kernel_rfl) ?_
 refine jn (ok X) 1 (fun (j1 : Bool) => ⟨25, 0, [(2, [xB j1])], []⟩) h (fun j1 h => ?_) (fun j1 h => ?_)
 ·rcases iteE h with ⟨k1, h⟩ | ⟨k1, h⟩
  ·obtain ⟨v1, k2, h⟩ := z06 h
   rcases iteE h with ⟨k3, h⟩ | ⟨k3, h⟩
   ·obtain ⟨v2, k4, h⟩ := z06 h
    rcases iteE h with ⟨k5, h⟩ | ⟨k5, h⟩
    ·obtain rfl := retE h
     exact fin (ok X) 1 (.b true :: .b true :: .i v1 :: bT 4 (.i v2 :: bT 12 [])) (pA k1 (pA k1 (pA k2 (pA k1 (pA k1 (pA k3 (pA k3 (pA k4 (pA k3 (pA k1 (pA k3 (pA k1 (pR 5 k5 (pA k1 (pA k5 (pA k1 pT)))))))))))))))) (by kernel_rfl)
    ·obtain ⟨v3, k6, h⟩ := z06 h
     rcases iteE h with ⟨k7, h⟩ | ⟨k7, h⟩
     ·obtain ⟨v4, k8, h⟩ := z06 h
      obtain rfl := retE h
      exact fin (ok X) 1 (.b true :: .b true :: .i v1 :: bT 4 (.i v2 :: bT 4 [.b false, .b false, .i v3, .b false, .b false, .b true, .b true, .i v4, .b true, .b false, .b true, .b true, .b false, .b true])) (pA k1 (pA k1 (pA k2 (pA k1 (pA k1 (pA k3 (pA k3 (pA k4 (pA k3 (pA k1 (pA k3 (pA k1 (pA k5 (pA k5 (pA k6 (pA k5 (pA k5 (pA k7 (pA k7 (pA k8 (pA k7 (pA k5 (pA k7 (pA k1 (pA k5 (pA k1 pT)))))))))))))))))))))))))) (by kernel_rfl)
     ·obtain rfl := retE h
      exact fin (ok X) 1 (.b true :: .b true :: .i v1 :: bT 4 (.i v2 :: bT 4 (.b false :: .b false :: .i v3 :: bF 7 [.b true, .b false, .b true]))) (pA k1 (pA k1 (pA k2 (pA k1 (pA k1 (pA k3 (pA k3 (pA k4 (pA k3 (pA k1 (pA k3 (pA k1 (pA k5 (pA k5 (pA k6 (pA k5 (pA k5 (pR 3 k7 (pA k5 (pA k7 (pA k1 (pA k5 (pA k1 pT))))))))))))))))))))))) (by kernel_rfl)
   ·obtain ⟨v5, k9, h⟩ := z06 h
    rcases iteE h with ⟨k10, h⟩ | ⟨k10, h⟩
    ·obtain ⟨v6, k11, h⟩ := z06 h
     obtain rfl := retE h
     exact fin (ok X) 1 (.b true :: .b true :: .i v1 :: .b true :: .b true :: bF 3 [.b true, .b false, .b true, .b false, .b false, .i v5, .b false, .b false, .b true, .b true, .i v6, .b true, .b false, .b true, .b true, .b false, .b true]) (pA k1 (pA k1 (pA k2 (pA k1 (pA k1 (pR 3 k3 (pA k1 (pA k3 (pA k1 (pA ff (pA ff (pA k9 (pA ff (pA ff (pA k10 (pA k10 (pA k11 (pA k10 (pA ff (pA k10 (pA k1 (pA ff (pA k1 pT))))))))))))))))))))))) (by kernel_rfl)
    ·obtain rfl := retE h
     exact fin (ok X) 1 (.b true :: .b true :: .i v1 :: .b true :: .b true :: bF 3 (.b true :: .b false :: .b true :: .b false :: .b false :: .i v5 :: bF 7 [.b true, .b false, .b true])) (pA k1 (pA k1 (pA k2 (pA k1 (pA k1 (pR 3 k3 (pA k1 (pA k3 (pA k1 (pA ff (pA ff (pA k9 (pA ff (pA ff (pR 3 k10 (pA ff (pA k10 (pA k1 (pA ff (pA k1 pT)))))))))))))))))))) (by kernel_rfl)
  ·obtain rfl := retE h
   exact fin (ok X) 1 (bF 8 []) (pR 8 k1 pT) (by kernel_rfl)
 ·obtain rfl := retE h
  exact fin (ok X) 1 [] pT (by kernel_rfl)

theorem zib {a0 : z43} {r : Bool} (h : zal a0 = some r) : Cv Tryz.prog (GX X) 8 [.agg (bs (z5n a0))] (zb1 r) := by
 refine Cs.toV (?_ : Cs Tryz.prog (GX X) 8 [.agg (bs (z5n a0))] [] (zb1 r) (zde r)) (by kernel_rfl)
 refine fnT (cx := cx X) Tryz.f8 Tryz.call8 Tryz.func8 (by kernel_rfl) ?_
 unfold zal at h
 obtain ⟨v1, k1, h⟩ := z06 h
 obtain ⟨v2, k2, h⟩ := z06 h
 refine adv (ok X) 8 [.c (zc4 v1), .c (zkf v2)] (pA (zmq (X := X) k1) (pA (zs3 (X := X) k2) pT)) (by kernel_rfl) ?_
 refine jn (ok X) 1 (fun (j1 : Bool) => ⟨111, 0, [(3, [xP 1 0]), (4, [xS v2.1]), (28, [xB j1])], [none, oB 26 (bs (z3t v1))]⟩) h (fun j1 h => ?_) (fun j1 h => ?_)
 ·obtain ⟨v3, k3, h⟩ := z06 h
  rcases iteE h with ⟨k4, h⟩ | ⟨k4, h⟩
  ·obtain rfl := retE h
   exact fin (ok X) 1 (.c (zav v3) :: bT 3 []) (pA (zeb (X := X) k3) (pR 3 k4 pT)) (by kernel_rfl)
  ·obtain rfl := retE h
   exact fin (ok X) 1 (.c (zav v3) :: bF 3 []) (pA (zeb (X := X) k3) (pR 3 k4 pT)) (by kernel_rfl)
 ·rcases iteE h with ⟨k5, h⟩ | ⟨k5, h⟩
  ·obtain ⟨v4, k6, h⟩ := z06 h
   obtain rfl := retE h
   exact fin (ok X) 4 [.b true, .c (zav v4)] (pA k5 (pA (zeb (X := X) k6) pT)) (by kernel_rfl)
  ·obtain ⟨v5, k7, h⟩ := z06 h
   refine adv (ok X) 6 [.b false, .c (z7g v5)] (pA k5 (pA (zb9 (X := X) k7) pT)) (by kernel_rfl) ?_
   refine jn (ok X) 1 (fun (j2 : Bool) => ⟨111, 0, [(3, [xP 1 0]), (47, [xB j2])], [none, oB 26 (bs (z3t v1))]⟩) h (fun j2 h => ?_) (fun j2 h => ?_)
   ·rcases iteE h with ⟨k8, h⟩ | ⟨k8, h⟩
    ·obtain rfl := retE h
     exact fin (ok X) 1 (bT 8 []) (pR 3 k8 (pR 5 tt pT)) (by kernel_rfl)
    ·rcases iteE h with ⟨k9, h⟩ | ⟨k9, h⟩
     ·obtain rfl := retE h
      exact fin (ok X) 1 (bF 3 (bT 5 [])) (pR 3 k8 (pR 5 k9 pT)) (by kernel_rfl)
     ·obtain ⟨v6, k10, h⟩ := z06 h
      obtain rfl := retE h
      exact fin (ok X) 1 (bF 6 [.c (zex v6), .b false, .b false]) (pR 3 k8 (pR 3 k9 (pA (zkg (X := X) k10) (pA k9 (pA k9 pT))))) (by kernel_rfl)
   ·rcases iteE h with ⟨k11, h⟩ | ⟨k11, h⟩
    ·obtain rfl := retE h
     exact fin (ok X) 4 [.b true] (pA k11 pT) (by kernel_rfl)
    ·obtain ⟨v7, k12, h⟩ := z06 h
     refine adv (ok X) 9 [.b false, .c (zd5 v7)] (pA k11 (pA (zjd (X := X) k12) pT)) (by kernel_rfl) ?_
     refine lp (ok X) (z48 v7) (fun (x3 : (ByteArray × Int)) => ⟨111, 0, [(3, [xP 1 0]), (9, [xL (List.map z0v v7.1)]), (11, [xS x3.1]), (12, [xI x3.2])], [none, oB 26 (bs (z3t v1))]⟩) (fun (j3 : ByteArray) => ⟨111, 0, [(3, [xP 1 0]), (11, [xS j3])], [none, oB 26 (bs (z3t v1))]⟩) zi9 ((ByteArray.mk #[]), 0) (fun _ => ⟨_, _, _, _, rfl⟩) h (by kernel_rfl) (fun x3 o h => ?_) (fun r' h => ?_) (fun j3 h => ?_)
     ·unfold z48 at h
      refine adv (ok X) 3 [.i (v7.1.length : Int)] (pA (lm z0v v7.1) pT) (by kernel_rfl) ?_
      rcases iteE h with ⟨k13, h⟩ | ⟨k13, h⟩
      ·refine adv (ok X) 3 [.b true] (pA k13 pT) (by kernel_rfl) ?_
       refine jn (ok X) 1 (fun (j4 : ByteArray) => ⟨111, 0, [(3, [xP 1 0]), (9, [xL (List.map z0v v7.1)]), (11, [xS j4]), (12, [xI x3.2])], [none, oB 26 (bs (z3t v1))]⟩) h (fun j4 h => ?_) (fun j4 h => ?_)
       ·refine adv (ok X) 3 [] pT (by kernel_rfl) ?_
        refine jn (ok X) 1 (fun (j5 : Bool) => ⟨111, 0, [(3, [xP 1 0]), (9, [xL (List.map z0v v7.1)]), (11, [xS x3.1]), (12, [xI x3.2]), (89, [xB j5])], [none, oB 26 (bs (z3t v1))]⟩) h (fun j5 h => ?_) (fun j5 h => ?_)
        ·rcases iteE h with ⟨k14, h⟩ | ⟨k14, h⟩
         ·obtain ⟨v8, k15, h⟩ := z06 h
          obtain ⟨v9, k16, h⟩ := z06 h
          rcases iteE h with ⟨k17, h⟩ | ⟨k17, h⟩
          ·obtain ⟨v10, k18, h⟩ := z06 h
           obtain ⟨v11, k19, h⟩ := z06 h
           rcases iteE h with ⟨k20, h⟩ | ⟨k20, h⟩
           ·obtain rfl := retE h
            exact fin (ok X) 1 (bT 4 (.e [.str v8] :: .b true :: .b true :: .c (z71 v9) :: bT 4 (.e [.str v10] :: .b true :: .b true :: .c (z71 v11) :: bT 19 []))) (pR 4 k14 (pA (ixm z0v k15) (pA k14 (pA k14 (pA (z88 (X := X) k16) (pA k14 (pR 3 k17 (pA (ixm z0v k18) (pA k17 (pA k17 (pA (z88 (X := X) k19) (pA k14 (pA k17 (pA k14 (pR 5 k20 (pA k14 (pA k20 (pA k14 (pR 5 tt (pA k14 (pA tt (pA k14 pT)))))))))))))))))))))) (by kernel_rfl)
           ·obtain ⟨v12, k21, h⟩ := z06 h
            rcases iteE h with ⟨k22, h⟩ | ⟨k22, h⟩
            ·obtain rfl := retE h
             exact fin (ok X) 1 (bT 4 (.e [.str v8] :: .b true :: .b true :: .c (z71 v9) :: bT 4 (.e [.str v10] :: .b true :: .b true :: .c (z71 v11) :: bT 3 (bF 3 (.e [.str v12] :: .b false :: .b false :: .b true :: .b false :: bT 9 []))))) (pR 4 k14 (pA (ixm z0v k15) (pA k14 (pA k14 (pA (z88 (X := X) k16) (pA k14 (pR 3 k17 (pA (ixm z0v k18) (pA k17 (pA k17 (pA (z88 (X := X) k19) (pA k14 (pA k17 (pA k14 (pR 3 k20 (pA (ixm z0v k21) (pA k20 (pA k20 (pA k14 (pA k20 (pA k14 (pR 5 k22 (pA k14 (pA k22 (pA k14 pT))))))))))))))))))))))))) (by kernel_rfl)
            ·obtain ⟨v13, k23, h⟩ := z06 h
             obtain rfl := retE h
             exact fin (ok X) 1 (bT 4 (.e [.str v8] :: .b true :: .b true :: .c (z71 v9) :: bT 4 (.e [.str v10] :: .b true :: .b true :: .c (z71 v11) :: bT 3 (bF 3 (.e [.str v12] :: .b false :: .b false :: .b true :: .b false :: .b true :: bF 3 [.e [.str v13], .b false, .b false, .b true, .b false, .b true]))))) (pR 4 k14 (pA (ixm z0v k15) (pA k14 (pA k14 (pA (z88 (X := X) k16) (pA k14 (pR 3 k17 (pA (ixm z0v k18) (pA k17 (pA k17 (pA (z88 (X := X) k19) (pA k14 (pA k17 (pA k14 (pR 3 k20 (pA (ixm z0v k21) (pA k20 (pA k20 (pA k14 (pA k20 (pA k14 (pR 3 k22 (pA (ixm z0v k23) (pA k22 (pA k22 (pA k14 (pA k22 (pA k14 pT)))))))))))))))))))))))))))) (by kernel_rfl)
          ·obtain ⟨v14, k24, h⟩ := z06 h
           rcases iteE h with ⟨k25, h⟩ | ⟨k25, h⟩
           ·obtain rfl := retE h
            exact fin (ok X) 1 (bT 4 (.e [.str v8] :: .b true :: .b true :: .c (z71 v9) :: .b true :: bF 5 (.b true :: .b false :: .b true :: bF 3 (.e [.str v14] :: .b false :: .b false :: .b true :: .b false :: bT 9 [])))) (pR 4 k14 (pA (ixm z0v k15) (pA k14 (pA k14 (pA (z88 (X := X) k16) (pA k14 (pR 5 k17 (pA k14 (pA k17 (pA k14 (pR 3 ff (pA (ixm z0v k24) (pA ff (pA ff (pA k14 (pA ff (pA k14 (pR 5 k25 (pA k14 (pA k25 (pA k14 pT))))))))))))))))))))) (by kernel_rfl)
           ·obtain ⟨v15, k26, h⟩ := z06 h
            obtain rfl := retE h
            exact fin (ok X) 1 (bT 4 (.e [.str v8] :: .b true :: .b true :: .c (z71 v9) :: .b true :: bF 5 (.b true :: .b false :: .b true :: bF 3 (.e [.str v14] :: .b false :: .b false :: .b true :: .b false :: .b true :: bF 3 [.e [.str v15], .b false, .b false, .b true, .b false, .b true])))) (pR 4 k14 (pA (ixm z0v k15) (pA k14 (pA k14 (pA (z88 (X := X) k16) (pA k14 (pR 5 k17 (pA k14 (pA k17 (pA k14 (pR 3 ff (pA (ixm z0v k24) (pA ff (pA ff (pA k14 (pA ff (pA k14 (pR 3 k25 (pA (ixm z0v k26) (pA k25 (pA k25 (pA k14 (pA k25 (pA k14 pT)))))))))))))))))))))))) (by kernel_rfl)
         ·obtain rfl := retE h
          exact fin (ok X) 1 (bF 13 []) (pR 13 k14 pT) (by kernel_rfl)
        ·rcases iteE h with ⟨k27, h⟩ | ⟨k27, h⟩
         ·obtain ⟨v16, k28, h⟩ := z06 h
          obtain ⟨v17, k29, h⟩ := z06 h
          obtain ⟨v18, k30, h⟩ := z06 h
          obtain rfl := retE h
          exact fin (ok X) 4 [.b true, .x [xS v16], .e [.str v17], .x [xS v18]] (pA k27 (pA k28 (pA (ixm z0v k29) (pA k30 pT)))) (by kernel_rfl)
         ·obtain ⟨v19, k31, h⟩ := z06 h
          obtain ⟨v20, k32, h⟩ := z06 h
          obtain rfl := retE h
          exact fin (ok X) 4 [.b false, .e [.str v19], .x [xS v20]] (pA k27 (pA (ixm z0v k31) (pA k32 pT))) (by kernel_rfl)
       ·obtain rfl := retE h
        exact fin (ok X) 1 [] pT (by kernel_rfl)
      ·obtain rfl := retE h
       exact fin (ok X) 2 [.b false] (pA k13 pT) (by kernel_rfl)
     ·cases h
     ·obtain ⟨v21, k33, h⟩ := z06 h
      refine adv (ok X) 3 [.c (z7g v21)] (pA (zb9 (X := X) k33) pT) (by kernel_rfl) ?_
      rcases iteE h with ⟨k34, h⟩ | ⟨k34, h⟩
      ·obtain ⟨v22, k35, h⟩ := z06 h
       obtain rfl := retE h
       exact fin (ok X) 2 (bT 3 [.c (zex v22), .b true]) (pR 3 k34 (pA (zkg (X := X) k35) (pA k34 pT))) (by kernel_rfl)
      ·obtain rfl := retE h
       exact fin (ok X) 2 (bF 4 []) (pR 4 k34 pT) (by kernel_rfl)
end Go.Proofs.YtokjbpmjdcbogaaGreatDoor.Abs

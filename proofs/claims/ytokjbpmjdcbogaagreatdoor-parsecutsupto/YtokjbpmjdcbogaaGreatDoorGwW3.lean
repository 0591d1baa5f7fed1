/- Gw: the functions are these. -/
import Derived.Test.YtokjbpmjdcbogaaGreatDoorGwW2
namespace Go.Proofs.YtokjbpmjdcbogaaGreatDoor.Abs
open Go Go.RowKit
set_option linter.unusedVariables false
set_option maxRecDepth 100000
set_option maxHeartbeats 4000000
variable {X : EV}
theorem zfz : ∀ n : Nat, (∀ (a0 : z05) (a1 : z05) (r : Bool), z5i n a0 a1 = some r → Cv Tryz.prog (GX X) 69 [.agg (bs (z38 a0)), .agg (bs (z38 a1))] (z5c r)) ∧ (∀ (a0 : (List z05)) (a1 : (List z05)) (r : Bool), z2j n a0 a1 = some r → Cv Tryz.prog (GX X) 101 [xL (List.map z14 a0), xL (List.map z14 a1), .fn (.func 69) [] []] (z4m r))
 | 0 => ⟨(fun _ _ _ h => by rw [z5i] at h; cases h), (fun _ _ _ h => by rw [z2j] at h; cases h)⟩
 | n + 1 => by
  have ih := zfz n
  exact ⟨zno ih.1 ih.2, zf8 ih.1 ih.2⟩

theorem zae {a0 : z05} {a1 : z05} {r : Bool} (h : zbm a0 a1 = some r) : Cv Tryz.prog (GX X) 69 [.agg (bs (z38 a0)), .agg (bs (z38 a1))] (z5c r) := by
 obtain ⟨n, hn⟩ := unfE h
 exact (zfz n).1 _ _ _ hn

theorem z99 {a0 : z41} {a1 : z41} {r : Bool} (h : z9l a0 a1 = some r) : Cv Tryz.prog (GX X) 70 [.agg (bs (zdn a0)), .agg (bs (zdn a1))] (z7f r) := by
 refine Cs.toV (?_ : Cs Tryz.prog (GX X) 70 [.agg (bs (zdn a0)), .agg (bs (zdn a1))] [] (z7f r) (znf r)) (by kernel_rfl)
 refine fnT (cx := cx X) Tryz.f70 Tryz.call70 Tryz.func70 (by kernel_rfl) ?_
 unfold z9l at h
 rcases iteE h with ⟨k1, h⟩ | ⟨k1, h⟩
 ·obtain ⟨v1, k2, h⟩ := z06 h
  rcases iteE h with ⟨k3, h⟩ | ⟨k3, h⟩
  ·obtain ⟨v2, k4, h⟩ := z06 h
   obtain rfl := retE h
   exact fin (ok X) 5 (bT 5 (.c (z5c v1) :: bT 6 [.c (z5c v2), .b true])) (pR 5 k1 (pA (zae (X := X) k2) (pA k1 (pR 5 k3 (pA (zae (X := X) k4) (pA k3 pT)))))) (by kernel_rfl)
  ·obtain rfl := retE h
   exact fin (ok X) 5 (bT 5 (.c (z5c v1) :: .b true :: bF 6 [])) (pR 5 k1 (pA (zae (X := X) k2) (pA k1 (pR 6 k3 pT)))) (by kernel_rfl)
 ·obtain rfl := retE h
  exact fin (ok X) 5 (bF 12 []) (pR 6 k1 (pR 6 ff pT)) (by kernel_rfl)

theorem zf9 {n : Nat} (ih_ast_Stmt__ast_sameStmt : ∀ (a0 : (List z04)) (a1 : (List z04)) (r : Bool), z11 n a0 a1 = some r → Cv Tryz.prog (GX X) 39 [xL (List.map z16 a0), xL (List.map z16 a1), .fn (.func 40) [] []] (z1l r)) (ih_ast_sameStmt : ∀ (a0 : z04) (a1 : z04) (r : Bool), z3v n a0 a1 = some r → Cv Tryz.prog (GX X) 40 [.agg (bs (z2l a0)), .agg (bs (z2l a1))] (z7g r)) (ih_ast_Arm__ast_sameArm : ∀ (a0 : (List z13)) (a1 : (List z13)) (r : Bool), z1p n a0 a1 = some r → Cv Tryz.prog (GX X) 71 [xL (List.map z2h a0), xL (List.map z2h a1), .fn (.func 72) [] []] (z3u r)) (ih_ast_sameArm : ∀ (a0 : z13) (a1 : z13) (r : Bool), z4n n a0 a1 = some r → Cv Tryz.prog (GX X) 72 [.agg (bs (z6r a0)), .agg (bs (z6r a1))] (z89 r)) (a0 : (List z04)) (a1 : (List z04)) (r : Bool) (h : z11 (n + 1) a0 a1 = some r) : Cv Tryz.prog (GX X) 39 [xL (List.map z16 a0), xL (List.map z16 a1), .fn (.func 40) [] []] (z1l r) := by
 refine Cs.toV (?_ : Cs Tryz.prog (GX X) 39 [xL (List.map z16 a0), xL (List.map z16 a1), .fn (.func 40) [] []] [] (z1l r) (zbn r)) (by kernel_rfl)
 refine fnT (cx := cx X) Tryz.f39 Tryz.call39 Tryz.func39 (by kernel_rfl) ?_
 rw [z11] at h
 refine adv (ok X) 5 [.i (a0.length : Int), .i (a1.length : Int)] (pA (lm z16 a0) (pA (lm z16 a1) pT)) (by kernel_rfl) ?_
 rcases iteE h with ⟨k1, h⟩ | ⟨k1, h⟩
 ·obtain rfl := retE h
  exact fin (ok X) 4 [.b true] (pA k1 pT) (by kernel_rfl)
 ·refine adv (ok X) 5 [.b false, .i (a0.length : Int)] (pA k1 (pA (lm z16 a0) pT)) (by kernel_rfl) ?_
  refine lp (ok X) (z4v (z11 n) (z3v n) (z1p n) (z4n n) a0 a1) (fun (x1 : Int) => ⟨32, 0, [(1, [xL (List.map z16 a1)]), (2, [.fn (.func 40) [] []]), (15, [xL (List.map z16 a0)]), (16, [xI (a0.length : Int)]), (17, [xI x1])], []⟩) (fun (j1 : Unit) => ⟨32, 0, [], []⟩) zf3 0 (fun _ => ⟨_, _, _, _, rfl⟩) h (by kernel_rfl) (fun x1 o h => ?_) (fun r' h => ?_) (fun j1 h => ?_)
  ·unfold z4v at h
   rcases iteE h with ⟨k2, h⟩ | ⟨k2, h⟩
   ·obtain ⟨v1, k3, h⟩ := z06 h
    obtain ⟨v2, k4, h⟩ := z06 h
    obtain ⟨v3, k5, h⟩ := z06 h
    refine adv (ok X) 13 [.b true, .e (z2l v1), .e (z2l v2), .c (z7g v3)] (pA k2 (pA (ixr z43 k3) (pA (ixr z43 k4) (pA (ih_ast_sameStmt _ _ _ k5) pT)))) (by kernel_rfl) ?_
    rcases iteE h with ⟨k6, h⟩ | ⟨k6, h⟩
    ·obtain rfl := retE h
     exact fin (ok X) 4 [.b true] (pA k6 pT) (by kernel_rfl)
    ·obtain rfl := retE h
     exact fin (ok X) 4 [.b false] (pA k6 pT) (by kernel_rfl)
   ·obtain rfl := retE h
    exact fin (ok X) 5 [.b false] (pA k2 pT) (by kernel_rfl)
  ·obtain rfl := retE h
   kernel_rfl
  ·obtain rfl := retE h
   exact fin (ok X) 3 [] pT (by kernel_rfl)

theorem znp {n : Nat} (ih_ast_Stmt__ast_sameStmt : ∀ (a0 : (List z04)) (a1 : (List z04)) (r : Bool), z11 n a0 a1 = some r → Cv Tryz.prog (GX X) 39 [xL (List.map z16 a0), xL (List.map z16 a1), .fn (.func 40) [] []] (z1l r)) (ih_ast_sameStmt : ∀ (a0 : z04) (a1 : z04) (r : Bool), z3v n a0 a1 = some r → Cv Tryz.prog (GX X) 40 [.agg (bs (z2l a0)), .agg (bs (z2l a1))] (z7g r)) (ih_ast_Arm__ast_sameArm : ∀ (a0 : (List z13)) (a1 : (List z13)) (r : Bool), z1p n a0 a1 = some r → Cv Tryz.prog (GX X) 71 [xL (List.map z2h a0), xL (List.map z2h a1), .fn (.func 72) [] []] (z3u r)) (ih_ast_sameArm : ∀ (a0 : z13) (a1 : z13) (r : Bool), z4n n a0 a1 = some r → Cv Tryz.prog (GX X) 72 [.agg (bs (z6r a0)), .agg (bs (z6r a1))] (z89 r)) (a0 : z04) (a1 : z04) (r : Bool) (h : z3v (n + 1) a0 a1 = some r) : Cv Tryz.prog (GX X) 40 [.agg (bs (z2l a0)), .agg (bs (z2l a1))] (z7g r) := by
 refine Cs.toV (?_ : Cs Tryz.prog (GX X) 40 [.agg (bs (z2l a0)), .agg (bs (z2l a1))] [] (z7g r) (zng r)) (by kernel_rfl)
 refine fnT (cx := cx X) Tryz.f40 Tryz.call40 Tryz.func40 (by kernel_rfl) ?_
 rw [z3v] at h
 rcases iteE h with ⟨k1, h⟩ | ⟨k1, h⟩
 ·obtain rfl := retE h
  exact fin (ok X) 9 [.b true] (pA k1 pT) (by kernel_rfl)
 ·refine adv (ok X) 13 [.b false] (pA k1 pT) (by kernel_rfl) ?_
  rcases iteE h with ⟨k2, h⟩ | ⟨k2, h⟩
  ·refine adv (ok X) 2 [.b true] (pA k2 pT) (by kernel_rfl) ?_
   refine jn (ok X) 1 (fun (j1 : Bool) => ⟨110, 0, [(4, [xB j1])], []⟩) h (fun j1 h => ?_) (fun j1 h => ?_)
   ·rcases iteE h with ⟨k3, h⟩ | ⟨k3, h⟩
    ·obtain ⟨v1, k4, h⟩ := z06 h
     obtain rfl := retE h
     exact fin (ok X) 1 (bT 5 [.c (z5c v1), .b true]) (pR 5 k3 (pA (zae (X := X) k4) (pA k3 pT))) (by kernel_rfl)
    ·obtain rfl := retE h
     exact fin (ok X) 1 (bF 6 []) (pR 6 k3 pT) (by kernel_rfl)
   ·obtain rfl := retE h
    exact fin (ok X) 1 [] pT (by kernel_rfl)
  ·refine adv (ok X) 3 [.b false] (pA k2 pT) (by kernel_rfl) ?_
   rcases iteE h with ⟨k5, h⟩ | ⟨k5, h⟩
   ·refine adv (ok X) 2 [.b true] (pA k5 pT) (by kernel_rfl) ?_
    refine jn (ok X) 1 (fun (j2 : Bool) => ⟨110, 0, [(4, [xB j2])], []⟩) h (fun j2 h => ?_) (fun j2 h => ?_)
    ·obtain ⟨v2, k6, h⟩ := z06 h
     rcases iteE h with ⟨k7, h⟩ | ⟨k7, h⟩
     ·obtain ⟨v3, k8, h⟩ := z06 h
      rcases iteE h with ⟨k9, h⟩ | ⟨k9, h⟩
      ·obtain ⟨v4, k10, h⟩ := z06 h
       obtain rfl := retE h
       exact fin (ok X) 1 (.c (z7f v2) :: bT 5 (.c (z1l v3) :: bT 6 [.c (z1l v4), .b true])) (pA (z99 (X := X) k6) (pR 5 k7 (pA (ih_ast_Stmt__ast_sameStmt _ _ _ k8) (pA k7 (pR 5 k9 (pA (ih_ast_Stmt__ast_sameStmt _ _ _ k10) (pA k9 pT))))))) (by kernel_rfl)
      ·obtain rfl := retE h
       exact fin (ok X) 1 (.c (z7f v2) :: bT 5 (.c (z1l v3) :: .b true :: bF 6 [])) (pA (z99 (X := X) k6) (pR 5 k7 (pA (ih_ast_Stmt__ast_sameStmt _ _ _ k8) (pA k7 (pR 6 k9 pT))))) (by kernel_rfl)
     ·obtain rfl := retE h
      exact fin (ok X) 1 (.c (z7f v2) :: bF 12 []) (pA (z99 (X := X) k6) (pR 6 k7 (pR 6 ff pT))) (by kernel_rfl)
    ·obtain rfl := retE h
     exact fin (ok X) 1 [] pT (by kernel_rfl)
   ·refine adv (ok X) 3 [.b false] (pA k5 pT) (by kernel_rfl) ?_
    rcases iteE h with ⟨k11, h⟩ | ⟨k11, h⟩
    ·refine adv (ok X) 2 [.b true] (pA k11 pT) (by kernel_rfl) ?_
     refine jn (ok X) 1 (fun (j3 : Bool) => ⟨110, 0, [(4, [xB j3])], []⟩) h (fun j3 h => ?_) (fun j3 h => ?_)
     ·obtain ⟨v5, k12, h⟩ := z06 h
      rcases iteE h with ⟨k13, h⟩ | ⟨k13, h⟩
      ·obtain ⟨v6, k14, h⟩ := z06 h
       obtain rfl := retE h
       exact fin (ok X) 1 (.c (z7f v5) :: bT 5 [.c (z1l v6), .b true]) (pA (z99 (X := X) k12) (pR 5 k13 (pA (ih_ast_Stmt__ast_sameStmt _ _ _ k14) (pA k13 pT)))) (by kernel_rfl)
      ·obtain rfl := retE h
       exact fin (ok X) 1 (.c (z7f v5) :: bF 6 []) (pA (z99 (X := X) k12) (pR 6 k13 pT)) (by kernel_rfl)
     ·obtain rfl := retE h
      exact fin (ok X) 1 [] pT (by kernel_rfl)
    ·refine adv (ok X) 3 [.b false] (pA k11 pT) (by kernel_rfl) ?_
     rcases iteE h with ⟨k15, h⟩ | ⟨k15, h⟩
     ·refine adv (ok X) 2 [.b true] (pA k15 pT) (by kernel_rfl) ?_
      refine jn (ok X) 1 (fun (j4 : Bool) => ⟨110, 0, [(4, [xB j4])], []⟩) h (fun j4 h => ?_) (fun j4 h => ?_)
      ·rcases iteE h with ⟨k16, h⟩ | ⟨k16, h⟩
       ·rcases iteE h with ⟨k17, h⟩ | ⟨k17, h⟩
        ·obtain ⟨v7, k18, h⟩ := z06 h
         obtain rfl := retE h
         exact fin (ok X) 1 (bT 11 [.c (z5c v7), .b true]) (pR 6 k16 (pR 5 k17 (pA (zae (X := X) k18) (pA k17 pT)))) (by kernel_rfl)
        ·obtain rfl := retE h
         exact fin (ok X) 1 (bT 6 (bF 6 [])) (pR 6 k16 (pR 6 k17 pT)) (by kernel_rfl)
       ·obtain rfl := retE h
        exact fin (ok X) 1 (bF 12 []) (pR 6 k16 (pR 6 ff pT)) (by kernel_rfl)
      ·obtain rfl := retE h
       exact fin (ok X) 1 [] pT (by kernel_rfl)
     ·refine adv (ok X) 3 [.b false] (pA k15 pT) (by kernel_rfl) ?_
      rcases iteE h with ⟨k19, h⟩ | ⟨k19, h⟩
      ·refine adv (ok X) 2 [.b true] (pA k19 pT) (by kernel_rfl) ?_
       refine jn (ok X) 1 (fun (j5 : Bool) => ⟨110, 0, [(4, [xB j5])], []⟩) h (fun j5 h => ?_) (fun j5 h => ?_)
       ·rcases iteE h with ⟨k20, h⟩ | ⟨k20, h⟩
        ·obtain ⟨v8, k21, h⟩ := z06 h
         obtain rfl := retE h
         exact fin (ok X) 1 (bT 5 [.c (z3u v8), .b true]) (pR 5 k20 (pA (ih_ast_Arm__ast_sameArm _ _ _ k21) (pA k20 pT))) (by kernel_rfl)
        ·obtain rfl := retE h
         exact fin (ok X) 1 (bF 6 []) (pR 6 k20 pT) (by kernel_rfl)
       ·obtain rfl := retE h
        exact fin (ok X) 1 [] pT (by kernel_rfl)
      ·refine adv (ok X) 3 [.b false] (pA k19 pT) (by kernel_rfl) ?_
       rcases iteE h with ⟨k22, h⟩ | ⟨k22, h⟩
       ·obtain ⟨v9, k23, h⟩ := z06 h
        obtain rfl := retE h
        exact fin (ok X) 4 [.b true, .c (z7f v9)] (pA k22 (pA (z99 (X := X) k23) pT)) (by kernel_rfl)
       ·refine adv (ok X) 3 [.b false] (pA k22 pT) (by kernel_rfl) ?_
        rcases iteE h with ⟨k24, h⟩ | ⟨k24, h⟩
        ·obtain rfl := retE h
         exact fin (ok X) 4 [.b true] (pA k24 pT) (by kernel_rfl)
        ·obtain rfl := retE h
         exact fin (ok X) 6 [.b false] (pA k24 pT) (by kernel_rfl)

theorem zg9 {n : Nat} (ih_ast_Stmt__ast_sameStmt : ∀ (a0 : (List z04)) (a1 : (List z04)) (r : Bool), z11 n a0 a1 = some r → Cv Tryz.prog (GX X) 39 [xL (List.map z16 a0), xL (List.map z16 a1), .fn (.func 40) [] []] (z1l r)) (ih_ast_sameStmt : ∀ (a0 : z04) (a1 : z04) (r : Bool), z3v n a0 a1 = some r → Cv Tryz.prog (GX X) 40 [.agg (bs (z2l a0)), .agg (bs (z2l a1))] (z7g r)) (ih_ast_Arm__ast_sameArm : ∀ (a0 : (List z13)) (a1 : (List z13)) (r : Bool), z1p n a0 a1 = some r → Cv Tryz.prog (GX X) 71 [xL (List.map z2h a0), xL (List.map z2h a1), .fn (.func 72) [] []] (z3u r)) (ih_ast_sameArm : ∀ (a0 : z13) (a1 : z13) (r : Bool), z4n n a0 a1 = some r → Cv Tryz.prog (GX X) 72 [.agg (bs (z6r a0)), .agg (bs (z6r a1))] (z89 r)) (a0 : (List z13)) (a1 : (List z13)) (r : Bool) (h : z1p (n + 1) a0 a1 = some r) : Cv Tryz.prog (GX X) 71 [xL (List.map z2h a0), xL (List.map z2h a1), .fn (.func 72) [] []] (z3u r) := by
 refine Cs.toV (?_ : Cs Tryz.prog (GX X) 71 [xL (List.map z2h a0), xL (List.map z2h a1), .fn (.func 72) [] []] [] (z3u r) (zc3 r)) (by kernel_rfl)
 refine fnT (cx := cx X) Tryz.f71 Tryz.call71 Tryz.func71 (by kernel_rfl) ?_
 rw [z1p] at h
 refine adv (ok X) 5 [.i (a0.length : Int), .i (a1.length : Int)] (pA (lm z2h a0) (pA (lm z2h a1) pT)) (by kernel_rfl) ?_
 rcases iteE h with ⟨k1, h⟩ | ⟨k1, h⟩
 ·obtain rfl := retE h
  exact fin (ok X) 4 [.b true] (pA k1 pT) (by kernel_rfl)
 ·refine adv (ok X) 5 [.b false, .i (a0.length : Int)] (pA k1 (pA (lm z2h a0) pT)) (by kernel_rfl) ?_
  refine lp (ok X) (z5j (z11 n) (z3v n) (z1p n) (z4n n) a0 a1) (fun (x1 : Int) => ⟨32, 0, [(1, [xL (List.map z2h a1)]), (2, [.fn (.func 72) [] []]), (15, [xL (List.map z2h a0)]), (16, [xI (a0.length : Int)]), (17, [xI x1])], []⟩) (fun (j1 : Unit) => ⟨32, 0, [], []⟩) zg4 0 (fun _ => ⟨_, _, _, _, rfl⟩) h (by kernel_rfl) (fun x1 o h => ?_) (fun r' h => ?_) (fun j1 h => ?_)
  ·unfold z5j at h
   rcases iteE h with ⟨k2, h⟩ | ⟨k2, h⟩
   ·obtain ⟨v1, k3, h⟩ := z06 h
    obtain ⟨v2, k4, h⟩ := z06 h
    obtain ⟨v3, k5, h⟩ := z06 h
    refine adv (ok X) 13 [.b true, .e (z6r v1), .e (z6r v2), .c (z89 v3)] (pA k2 (pA (ixr zax k3) (pA (ixr zax k4) (pA (ih_ast_sameArm _ _ _ k5) pT)))) (by kernel_rfl) ?_
    rcases iteE h with ⟨k6, h⟩ | ⟨k6, h⟩
    ·obtain rfl := retE h
     exact fin (ok X) 4 [.b true] (pA k6 pT) (by kernel_rfl)
    ·obtain rfl := retE h
     exact fin (ok X) 4 [.b false] (pA k6 pT) (by kernel_rfl)
   ·obtain rfl := retE h
    exact fin (ok X) 5 [.b false] (pA k2 pT) (by kernel_rfl)
  ·obtain rfl := retE h
   kernel_rfl
  ·obtain rfl := retE h
   exact fin (ok X) 3 [] pT (by kernel_rfl)

theorem zoz {n : Nat} (ih_ast_Stmt__ast_sameStmt : ∀ (a0 : (List z04)) (a1 : (List z04)) (r : Bool), z11 n a0 a1 = some r → Cv Tryz.prog (GX X) 39 [xL (List.map z16 a0), xL (List.map z16 a1), .fn (.func 40) [] []] (z1l r)) (ih_ast_sameStmt : ∀ (a0 : z04) (a1 : z04) (r : Bool), z3v n a0 a1 = some r → Cv Tryz.prog (GX X) 40 [.agg (bs (z2l a0)), .agg (bs (z2l a1))] (z7g r)) (ih_ast_Arm__ast_sameArm : ∀ (a0 : (List z13)) (a1 : (List z13)) (r : Bool), z1p n a0 a1 = some r → Cv Tryz.prog (GX X) 71 [xL (List.map z2h a0), xL (List.map z2h a1), .fn (.func 72) [] []] (z3u r)) (ih_ast_sameArm : ∀ (a0 : z13) (a1 : z13) (r : Bool), z4n n a0 a1 = some r → Cv Tryz.prog (GX X) 72 [.agg (bs (z6r a0)), .agg (bs (z6r a1))] (z89 r)) (a0 : z13) (a1 : z13) (r : Bool) (h : z4n (n + 1) a0 a1 = some r) : Cv Tryz.prog (GX X) 72 [.agg (bs (z6r a0)), .agg (bs (z6r a1))] (z89 r) := by
 refine Cs.toV (?_ : Cs Tryz.prog (GX X) 72 [.agg (bs (z6r a0)), .agg (bs (z6r a1))] [] (z89 r) (zoy r)) (by kernel_rfl)
 refine fnT (cx := cx X) Tryz.f72 Tryz.call72 Tryz.func72 (by kernel_rfl) ?_
 rw [z4n] at h
 rcases iteE h with ⟨k1, h⟩ | ⟨k1, h⟩
 ·rcases iteE h with ⟨k2, h⟩ | ⟨k2, h⟩
  ·obtain ⟨v1, k3, h⟩ := z06 h
   obtain rfl := retE h
   exact fin (ok X) 5 (bT 11 [.c (z1l v1), .b true]) (pR 6 k1 (pR 5 k2 (pA (ih_ast_Stmt__ast_sameStmt _ _ _ k3) (pA k2 pT)))) (by kernel_rfl)
  ·obtain rfl := retE h
   exact fin (ok X) 5 (bT 6 (bF 6 [])) (pR 6 k1 (pR 6 k2 pT)) (by kernel_rfl)
 ·obtain rfl := retE h
  exact fin (ok X) 5 (bF 12 []) (pR 6 k1 (pR 6 ff pT)) (by kernel_rfl)

theorem za4 : ∀ n : Nat, (∀ (a0 : (List z04)) (a1 : (List z04)) (r : Bool), z11 n a0 a1 = some r → Cv Tryz.prog (GX X) 39 [xL (List.map z16 a0), xL (List.map z16 a1), .fn (.func 40) [] []] (z1l r)) ∧ (∀ (a0 : z04) (a1 : z04) (r : Bool), z3v n a0 a1 = some r → Cv Tryz.prog (GX X) 40 [.agg (bs (z2l a0)), .agg (bs (z2l a1))] (z7g r)) ∧ (∀ (a0 : (List z13)) (a1 : (List z13)) (r : Bool), z1p n a0 a1 = some r → Cv Tryz.prog (GX X) 71 [xL (List.map z2h a0), xL (List.map z2h a1), .fn (.func 72) [] []] (z3u r)) ∧ (∀ (a0 : z13) (a1 : z13) (r : Bool), z4n n a0 a1 = some r → Cv Tryz.prog (GX X) 72 [.agg (bs (z6r a0)), .agg (bs (z6r a1))] (z89 r))
 | 0 => ⟨(fun _ _ _ h => by rw [z11] at h; cases h), (fun _ _ _ h => by rw [z3v] at h; cases h), (fun _ _ _ h => by rw [z1p] at h; cases h), (fun _ _ _ h => by rw [z4n] at h; cases h)⟩
 | n + 1 => by
  have ih := za4 n
  exact ⟨zf9 ih.1 ih.2.1 ih.2.2.1 ih.2.2.2, znp ih.1 ih.2.1 ih.2.2.1 ih.2.2.2, zg9 ih.1 ih.2.1 ih.2.2.1 ih.2.2.2, zoz ih.1 ih.2.1 ih.2.2.1 ih.2.2.2⟩

theorem zfa {a0 : (List z04)} {a1 : (List z04)} {r : Bool} (h : z9d a0 a1 = some r) : Cv Tryz.prog (GX X) 39 [xL (List.map z16 a0), xL (List.map z16 a1), .fn (.func 40) [] []] (z1l r) := by
 obtain ⟨n, hn⟩ := unfE h
 exact (za4 n).1 _ _ _ hn

theorem zr0 {a0 : z3f} {a1 : z3f} {r : Bool} (h : zhk a0 a1 = some r) : Cv Tryz.prog (GX X) 37 [.agg (bs (z0v a0)), .agg (bs (z0v a1))] (zgr r) := by
 refine Cs.toV (?_ : Cs Tryz.prog (GX X) 37 [.agg (bs (z0v a0)), .agg (bs (z0v a1))] [] (zgr r) (zqu r)) (by kernel_rfl)
 refine fnT (cx := cx X) Tryz.f37 Tryz.call37 Tryz.func37 (by kernel_rfl) ?_
 unfold zhk at h
 rcases iteE h with ⟨k1, h⟩ | ⟨k1, h⟩
 ·obtain ⟨v1, k2, h⟩ := z06 h
  rcases iteE h with ⟨k3, h⟩ | ⟨k3, h⟩
  ·obtain ⟨v2, k4, h⟩ := z06 h
   obtain rfl := retE h
   exact fin (ok X) 5 (bT 5 (.c (z40 v1) :: bT 6 [.c (z1l v2), .b true])) (pR 5 k1 (pA (z76 (X := X) k2) (pA k1 (pR 5 k3 (pA (zfa (X := X) k4) (pA k3 pT)))))) (by kernel_rfl)
  ·obtain rfl := retE h
   exact fin (ok X) 5 (bT 5 (.c (z40 v1) :: .b true :: bF 6 [])) (pR 5 k1 (pA (z76 (X := X) k2) (pA k1 (pR 6 k3 pT)))) (by kernel_rfl)
 ·obtain rfl := retE h
  exact fin (ok X) 5 (bF 12 []) (pR 6 k1 (pR 6 ff pT)) (by kernel_rfl)

theorem zga {a0 : (List z3f)} {a1 : (List z3f)} {r : Bool} (h : z7b a0 a1 = some r) : Cv Tryz.prog (GX X) 36 [xL (List.map z0v a0), xL (List.map z0v a1), .fn (.func 37) [] []] (z7t r) := by
 refine Cs.toV (?_ : Cs Tryz.prog (GX X) 36 [xL (List.map z0v a0), xL (List.map z0v a1), .fn (.func 37) [] []] [] (z7t r) (zc4 r)) (by kernel_rfl)
 refine fnT (cx := cx X) Tryz.f36 Tryz.call36 Tryz.func36 (by kernel_rfl) ?_
 unfold z7b at h
 refine adv (ok X) 5 [.i (a0.length : Int), .i (a1.length : Int)] (pA (lm z0v a0) (pA (lm z0v a1) pT)) (by kernel_rfl) ?_
 rcases iteE h with ⟨k1, h⟩ | ⟨k1, h⟩
 ·obtain rfl := retE h
  exact fin (ok X) 4 [.b true] (pA k1 pT) (by kernel_rfl)
 ·refine adv (ok X) 5 [.b false, .i (a0.length : Int)] (pA k1 (pA (lm z0v a0) pT)) (by kernel_rfl) ?_
  refine lp (ok X) (z5k a0 a1) (fun (x1 : Int) => ⟨32, 0, [(1, [xL (List.map z0v a1)]), (2, [.fn (.func 37) [] []]), (15, [xL (List.map z0v a0)]), (16, [xI (a0.length : Int)]), (17, [xI x1])], []⟩) (fun (j1 : Unit) => ⟨32, 0, [], []⟩) zg5 0 (fun _ => ⟨_, _, _, _, rfl⟩) h (by kernel_rfl) (fun x1 o h => ?_) (fun r' h => ?_) (fun j1 h => ?_)
  ·unfold z5k at h
   rcases iteE h with ⟨k2, h⟩ | ⟨k2, h⟩
   ·obtain ⟨v1, k3, h⟩ := z06 h
    obtain ⟨v2, k4, h⟩ := z06 h
    obtain ⟨v3, k5, h⟩ := z06 h
    refine adv (ok X) 13 [.b true, .e (z0v v1), .e (z0v v2), .c (zgr v3)] (pA k2 (pA (ixm z0v k3) (pA (ixm z0v k4) (pA (zr0 (X := X) k5) pT)))) (by kernel_rfl) ?_
    rcases iteE h with ⟨k6, h⟩ | ⟨k6, h⟩
    ·obtain rfl := retE h
     exact fin (ok X) 4 [.b true] (pA k6 pT) (by kernel_rfl)
    ·obtain rfl := retE h
     exact fin (ok X) 4 [.b false] (pA k6 pT) (by kernel_rfl)
   ·obtain rfl := retE h
    exact fin (ok X) 5 [.b false] (pA k2 pT) (by kernel_rfl)
  ·obtain rfl := retE h
   kernel_rfl
  ·obtain rfl := retE h
   exact fin (ok X) 3 [] pT (by kernel_rfl)

theorem znq {a0 : z33} {a1 : z33} {r : Bool} (h : zem a0 a1 = some r) : Cv Tryz.prog (GX X) 42 [.agg (bs (z2k a0)), .agg (bs (z2k a1))] (zeu r) := by
 refine Cs.toV (?_ : Cs Tryz.prog (GX X) 42 [.agg (bs (z2k a0)), .agg (bs (z2k a1))] [] (zeu r) (znh r)) (by kernel_rfl)
 refine fnT (cx := cx X) Tryz.f42 Tryz.call42 Tryz.func42 (by kernel_rfl) ?_
 unfold zem at h
 refine adv (ok X) 3 [] pT (by kernel_rfl) ?_
 refine jn (ok X) 1 (fun (j1 : Bool) => ⟨45, 0, [(4, [xB j1])], []⟩) h (fun j1 h => ?_) (fun j1 h => ?_)
 ·rcases iteE h with ⟨k1, h⟩ | ⟨k1, h⟩
  ·rcases iteE h with ⟨k2, h⟩ | ⟨k2, h⟩
   ·rcases iteE h with ⟨k3, h⟩ | ⟨k3, h⟩
    ·rcases iteE h with ⟨k4, h⟩ | ⟨k4, h⟩
     ·rcases iteE h with ⟨k5, h⟩ | ⟨k5, h⟩
      ·obtain ⟨v1, k6, h⟩ := z06 h
       obtain rfl := retE h
       exact fin (ok X) 1 (bT 29 [.c (z40 v1), .b true]) (pR 6 k1 (pR 6 k2 (pR 6 k3 (pR 6 k4 (pR 5 k5 (pA (z76 (X := X) k6) (pA k5 pT))))))) (by kernel_rfl)
      ·obtain rfl := retE h
       exact fin (ok X) 1 (bT 24 (bF 6 [])) (pR 6 k1 (pR 6 k2 (pR 6 k3 (pR 6 k4 (pR 6 k5 pT))))) (by kernel_rfl)
     ·obtain rfl := retE h
      exact fin (ok X) 1 (bT 18 (bF 12 [])) (pR 6 k1 (pR 6 k2 (pR 6 k3 (pR 6 k4 (pR 6 ff pT))))) (by kernel_rfl)
    ·obtain rfl := retE h
     exact fin (ok X) 1 (bT 12 (bF 18 [])) (pR 6 k1 (pR 6 k2 (pR 6 k3 (pR 12 ff pT)))) (by kernel_rfl)
   ·obtain rfl := retE h
    exact fin (ok X) 1 (bT 6 (bF 24 [])) (pR 6 k1 (pR 6 k2 (pR 18 ff pT))) (by kernel_rfl)
  ·obtain rfl := retE h
   exact fin (ok X) 1 (bF 30 []) (pR 6 k1 (pR 24 ff pT)) (by kernel_rfl)
 ·obtain rfl := retE h
  exact fin (ok X) 1 [] pT (by kernel_rfl)

theorem zfb {a0 : (List z33)} {a1 : (List z33)} {r : Bool} (h : z6h a0 a1 = some r) : Cv Tryz.prog (GX X) 41 [xL (List.map z2k a0), xL (List.map z2k a1), .fn (.func 42) [] []] (z73 r) := by
 refine Cs.toV (?_ : Cs Tryz.prog (GX X) 41 [xL (List.map z2k a0), xL (List.map z2k a1), .fn (.func 42) [] []] [] (z73 r) (zbo r)) (by kernel_rfl)
 refine fnT (cx := cx X) Tryz.f41 Tryz.call41 Tryz.func41 (by kernel_rfl) ?_
 unfold z6h at h
 refine adv (ok X) 5 [.i (a0.length : Int), .i (a1.length : Int)] (pA (lm z2k a0) (pA (lm z2k a1) pT)) (by kernel_rfl) ?_
 rcases iteE h with ⟨k1, h⟩ | ⟨k1, h⟩
 ·obtain rfl := retE h
  exact fin (ok X) 4 [.b true] (pA k1 pT) (by kernel_rfl)
 ·refine adv (ok X) 5 [.b false, .i (a0.length : Int)] (pA k1 (pA (lm z2k a0) pT)) (by kernel_rfl) ?_
  refine lp (ok X) (z4w a0 a1) (fun (x1 : Int) => ⟨32, 0, [(1, [xL (List.map z2k a1)]), (2, [.fn (.func 42) [] []]), (15, [xL (List.map z2k a0)]), (16, [xI (a0.length : Int)]), (17, [xI x1])], []⟩) (fun (j1 : Unit) => ⟨32, 0, [], []⟩) zf4 0 (fun _ => ⟨_, _, _, _, rfl⟩) h (by kernel_rfl) (fun x1 o h => ?_) (fun r' h => ?_) (fun j1 h => ?_)
  ·unfold z4w at h
   rcases iteE h with ⟨k2, h⟩ | ⟨k2, h⟩
   ·obtain ⟨v1, k3, h⟩ := z06 h
    obtain ⟨v2, k4, h⟩ := z06 h
    obtain ⟨v3, k5, h⟩ := z06 h
    refine adv (ok X) 13 [.b true, .e (z2k v1), .e (z2k v2), .c (zeu v3)] (pA k2 (pA (ixm z2k k3) (pA (ixm z2k k4) (pA (znq (X := X) k5) pT)))) (by kernel_rfl) ?_
    rcases iteE h with ⟨k6, h⟩ | ⟨k6, h⟩
    ·obtain rfl := retE h
     exact fin (ok X) 4 [.b true] (pA k6 pT) (by kernel_rfl)
    ·obtain rfl := retE h
     exact fin (ok X) 4 [.b false] (pA k6 pT) (by kernel_rfl)
   ·obtain rfl := retE h
    exact fin (ok X) 5 [.b false] (pA k2 pT) (by kernel_rfl)
  ·obtain rfl := retE h
   kernel_rfl
  ·obtain rfl := retE h
   exact fin (ok X) 3 [] pT (by kernel_rfl)

theorem zfc {a0 : z22} {a1 : z22} {r : Bool} (h : zfw a0 a1 = some r) : Cv Tryz.prog (GX X) 12 [.agg (bs (zay a0)), .agg (bs (zay a1))] (zch r) := by
 refine Cs.toV (?_ : Cs Tryz.prog (GX X) 12 [.agg (bs (zay a0)), .agg (bs (zay a1))] [] (zch r) (zwe r)) (by kernel_rfl)
 refine fnT (cx := cx X) Tryz.f12 Tryz.call12 Tryz.func12 (by kernel_rfl) ?_
 unfold zfw at h
 obtain ⟨v1, k1, h⟩ := z06 h
 obtain ⟨v2, k2, h⟩ := z06 h
 refine adv (ok X) 7 [.c (z7s v1), .c (z7t v2)] (pA (zg8 (X := X) k1) (pA (zga (X := X) k2) pT)) (by kernel_rfl) ?_
 rcases iteE h with ⟨k3, h⟩ | ⟨k3, h⟩
 ·rcases iteE h with ⟨k4, h⟩ | ⟨k4, h⟩
  ·obtain ⟨v3, k5, h⟩ := z06 h
   obtain rfl := retE h
   exact fin (ok X) 2 (bT 7 [.c (z73 v3), .b true]) (pA k3 (pA k3 (pR 5 k4 (pA (zfb (X := X) k5) (pA k4 pT))))) (by kernel_rfl)
  ·obtain rfl := retE h
   exact fin (ok X) 2 (.b true :: .b true :: bF 6 []) (pA k3 (pA k3 (pR 6 k4 pT))) (by kernel_rfl)
 ·obtain rfl := retE h
  exact fin (ok X) 2 (bF 8 []) (pA k3 (pA k3 (pR 6 ff pT))) (by kernel_rfl)

theorem zmo {a0 : z0s} {a1 : Int} {a2 : ByteArray} {r : Bool} (h : zdk a0 a1 a2 = some r) : Cv Tryz.prog (GX X) 5 [.agg (bs (z15 a0)), xI a1, xS a2] (ze7 r) := by
 refine Cs.toV (?_ : Cs Tryz.prog (GX X) 5 [.agg (bs (z15 a0)), xI a1, xS a2] [] (ze7 r) (zgs r)) (by kernel_rfl)
 refine fnT (cx := cx X) Tryz.f5 Tryz.call5 Tryz.func5 (by kernel_rfl) ?_
 unfold zdk at h
 obtain ⟨v1, k1, h⟩ := z06 h
 refine adv (ok X) 6 [.c (zfr v1)] (pA (zsq (X := X) k1) pT) (by kernel_rfl) ?_
 refine jn (ok X) 1 (fun (j1 : Bool) => ⟨137, 0, [(1, [xI a1]), (2, [xS a2]), (7, [xL (List.map z1j v1.1)]), (40, [xB j1])], []⟩) h (fun j1 h => ?_) (fun j1 h => ?_)
 ·obtain ⟨v2, k2, h⟩ := z06 h
  rcases iteE h with ⟨k3, h⟩ | ⟨k3, h⟩
  ·obtain rfl := retE h
   exact fin (ok X) 1 (.c (zbh v2) :: bT 7 []) (pA (zen (X := X) k2) (pR 3 k3 (pR 4 tt pT))) (by kernel_rfl)
  ·rcases iteE h with ⟨k4, h⟩ | ⟨k4, h⟩
   ·obtain rfl := retE h
    exact fin (ok X) 1 (.c (zbh v2) :: bF 3 (bT 4 [])) (pA (zen (X := X) k2) (pR 3 k3 (pR 4 k4 pT))) (by kernel_rfl)
   ·obtain rfl := retE h
    exact fin (ok X) 1 (.c (zbh v2) :: bF 5 [.i (v1.1.length : Int), .b false, .b false]) (pA (zen (X := X) k2) (pR 3 k3 (pA k4 (pA k4 (pA (lm z1j v1.1) (pA k4 (pA k4 pT))))))) (by kernel_rfl)
 ·rcases iteE h with ⟨k5, h⟩ | ⟨k5, h⟩
  ·obtain ⟨v3, k6, h⟩ := z06 h
   obtain rfl := retE h
   exact fin (ok X) 4 [.b true, .c (zbh v3)] (pA k5 (pA (zen (X := X) k6) pT)) (by kernel_rfl)
  ·obtain ⟨v4, k7, h⟩ := z06 h
   refine adv (ok X) 9 [.b false, .i (v1.1.length : Int), .i v4] (pA k5 (pA (lm z1j v1.1) (pA k7 pT))) (by kernel_rfl) ?_
   refine lp (ok X) (z6d a2 v1 v4) (fun (x2 : (ByteArray × ByteArray × Int)) => ⟨137, 0, [(2, [xS a2]), (7, [xL (List.map z1j v1.1)]), (9, [xI (IntKind.i64.wrap v4)]), (10, [xS x2.1]), (11, [xS x2.2.1]), (12, [xI x2.2.2])], []⟩) (fun (j2 : (ByteArray × ByteArray)) => ⟨137, 0, [(10, [xS j2.1]), (11, [xS j2.2])], []⟩) zmh ((ByteArray.mk #[]), (ByteArray.mk #[]), 0) (fun _ => ⟨_, _, _, _, rfl⟩) h (by kernel_rfl) (fun x2 o h => ?_) (fun r' h => ?_) (fun j2 h => ?_)
   ·unfold z6d at h
    refine adv (ok X) 3 [.i (v1.1.length : Int)] (pA (lm z1j v1.1) pT) (by kernel_rfl) ?_
    rcases iteE h with ⟨k8, h⟩ | ⟨k8, h⟩
    ·refine adv (ok X) 3 [.b true] (pA k8 pT) (by kernel_rfl) ?_
     refine jn (ok X) 1 (fun (j3 : (ByteArray × ByteArray)) => ⟨137, 0, [(2, [xS a2]), (7, [xL (List.map z1j v1.1)]), (9, [xI (IntKind.i64.wrap v4)]), (10, [xS j3.1]), (11, [xS j3.2]), (12, [xI x2.2.2])], []⟩) h (fun j3 h => ?_) (fun j3 h => ?_)
     ·rcases iteE h with ⟨k9, h⟩ | ⟨k9, h⟩
      ·obtain ⟨v5, k10, h⟩ := z06 h
       obtain ⟨v6, k11, h⟩ := z06 h
       obtain ⟨v7, k12, h⟩ := z06 h
       refine adv (ok X) 8 [.b true, .e [.str v5], .x [xS v6], .x [xS v7]] (pA k9 (pA (ixm z1j k10) (pA k11 (pA k12 pT)))) (by kernel_rfl) ?_
       rcases iteE h with ⟨k13, h⟩ | ⟨k13, h⟩
       ·obtain ⟨v8, k14, h⟩ := z06 h
        obtain ⟨v9, k15, h⟩ := z06 h
        obtain ⟨v10, k16, h⟩ := z06 h
        obtain rfl := retE h
        exact fin (ok X) 3 [.b true, .x [xS v8], .x [xS v9], .x [xS v10]] (pA k13 (pA k14 (pA k15 (pA k16 pT)))) (by kernel_rfl)
       ·obtain ⟨v11, k17, h⟩ := z06 h
        obtain ⟨v12, k18, h⟩ := z06 h
        obtain ⟨v13, k19, h⟩ := z06 h
        obtain rfl := retE h
        exact fin (ok X) 3 [.b false, .e [.str v11], .x [xS v12], .x [xS v13]] (pA k13 (pA (ixm z1j k17) (pA k18 (pA k19 pT)))) (by kernel_rfl)
      ·refine adv (ok X) 8 [.b false] (pA k9 pT) (by kernel_rfl) ?_
       rcases iteE h with ⟨k20, h⟩ | ⟨k20, h⟩
       ·obtain ⟨v14, k21, h⟩ := z06 h
        obtain ⟨v15, k22, h⟩ := z06 h
        obtain ⟨v16, k23, h⟩ := z06 h
        obtain rfl := retE h
        exact fin (ok X) 3 [.b true, .x [xS v14], .x [xS v15], .x [xS v16]] (pA k20 (pA k21 (pA k22 (pA k23 pT)))) (by kernel_rfl)
       ·obtain ⟨v17, k24, h⟩ := z06 h
        obtain ⟨v18, k25, h⟩ := z06 h
        obtain ⟨v19, k26, h⟩ := z06 h
        obtain rfl := retE h
        exact fin (ok X) 3 [.b false, .e [.str v17], .x [xS v18], .x [xS v19]] (pA k20 (pA (ixm z1j k24) (pA k25 (pA k26 pT)))) (by kernel_rfl)
     ·obtain rfl := retE h
      exact fin (ok X) 1 [] pT (by kernel_rfl)
    ·obtain rfl := retE h
     exact fin (ok X) 2 [.b false] (pA k8 pT) (by kernel_rfl)
   ·cases h
   ·obtain ⟨v20, k27, h⟩ := z06 h
    obtain ⟨v21, k28, h⟩ := z06 h
    obtain ⟨v22, k29, h⟩ := z06 h
    obtain ⟨v23, k30, h⟩ := z06 h
    refine adv (ok X) 9 [.c (z8z v20), .c (ze5 v21), .c (z8z v22), .c (ze5 v23)] (pA (zdl (X := X) k27) (pA (zmn (X := X) k28) (pA (zdl (X := X) k29) (pA (zmn (X := X) k30) pT)))) (by kernel_rfl) ?_
    refine jn (ok X) 1 (fun (j4 : Bool) => ⟨137, 0, [(6, [xB j4])], []⟩) h (fun j4 h => ?_) (fun j4 h => ?_)
    ·rcases iteE h with ⟨k31, h⟩ | ⟨k31, h⟩
     ·rcases iteE h with ⟨k32, h⟩ | ⟨k32, h⟩
      ·obtain ⟨v24, k33, h⟩ := z06 h
       obtain ⟨v25, k34, h⟩ := z06 h
       rcases iteE h with ⟨k35, h⟩ | ⟨k35, h⟩
       ·rcases iteE h with ⟨k36, h⟩ | ⟨k36, h⟩
        ·rcases iteE h with ⟨k37, h⟩ | ⟨k37, h⟩
         ·obtain ⟨v26, k38, h⟩ := z06 h
          obtain ⟨v27, k39, h⟩ := z06 h
          obtain rfl := retE h
          exact fin (ok X) 1 (.o [0, 1, 2, 3, 4, 5, 6, 7, 8, 9, 10, 11, 12, 13, 14, 15, 16, 17, 18, 19, 20, 21, 22, 23, 24, 25, 26, 27, 28, 29, 30] :: bT 7 (.c (z8n v24) :: .b true :: .c (zch v25) :: bT 12 [.c (z8n v26), .b true, .c (zch v27), .b true])) (pR 4 k31 (pR 3 k32 (pA (zd0 (X := X) k33) (pA k32 (pA (zfc (X := X) k34) (pA k32 (pR 4 k35 (pR 4 k36 (pR 3 k37 (pA (zd0 (X := X) k38) (pA k37 (pA (zfc (X := X) k39) (pA k37 pT))))))))))))) (by kernel_rfl)
         ·obtain rfl := retE h
          exact fin (ok X) 1 (.o [0, 1, 2, 3, 4, 5, 6, 7, 8, 9, 10, 11, 12, 13, 14, 15, 16, 17, 18, 19, 20, 21, 22, 23, 24, 25, 26, 27, 28, 29, 30] :: bT 7 (.c (z8n v24) :: .b true :: .c (zch v25) :: bT 9 (bF 5 []))) (pR 4 k31 (pR 3 k32 (pA (zd0 (X := X) k33) (pA k32 (pA (zfc (X := X) k34) (pA k32 (pR 4 k35 (pR 4 k36 (pR 5 k37 pT))))))))) (by kernel_rfl)
        ·obtain rfl := retE h
         exact fin (ok X) 1 (.o [0, 1, 2, 3, 4, 5, 6, 7, 8, 9, 10, 11, 12, 13, 14, 15, 16, 17, 18, 19, 20, 21, 22, 23, 24, 25, 26, 27, 28, 29, 30] :: bT 7 (.c (z8n v24) :: .b true :: .c (zch v25) :: bT 5 (bF 9 []))) (pR 4 k31 (pR 3 k32 (pA (zd0 (X := X) k33) (pA k32 (pA (zfc (X := X) k34) (pA k32 (pR 4 k35 (pR 4 k36 (pR 5 ff pT))))))))) (by kernel_rfl)
       ·obtain rfl := retE h
        exact fin (ok X) 1 (.o [0, 1, 2, 3, 4, 5, 6, 7, 8, 9, 10, 11, 12, 13, 14, 15, 16, 17, 18, 19, 20, 21, 22, 23, 24, 25, 26, 27, 28, 29, 30] :: bT 7 (.c (z8n v24) :: .b true :: .c (zch v25) :: .b true :: bF 13 [])) (pR 4 k31 (pR 3 k32 (pA (zd0 (X := X) k33) (pA k32 (pA (zfc (X := X) k34) (pA k32 (pR 4 k35 (pR 9 ff pT)))))))) (by kernel_rfl)
      ·obtain rfl := retE h
       exact fin (ok X) 1 (.o [0, 1, 2, 3, 4, 5, 6, 7, 8, 9, 10, 11, 12, 13, 14, 15, 16, 17, 18, 19, 20, 21, 22, 23, 24, 25, 26, 27, 28, 29, 30] :: bT 4 (bF 18 [])) (pR 4 k31 (pR 5 k32 (pR 13 ff pT))) (by kernel_rfl)
     ·obtain rfl := retE h
      exact fin (ok X) 1 (.o [0, 1, 2, 3, 4, 5, 6, 7, 8, 9, 10, 11, 12, 13, 14, 15, 16, 17, 18, 19, 20, 21, 22, 23, 24, 25, 26, 27, 28, 29, 30] :: bF 22 []) (pR 4 k31 (pR 18 ff pT)) (by kernel_rfl)
    ·obtain rfl := retE h
     exact fin (ok X) 1 [] pT (by kernel_rfl)
end Go.Proofs.YtokjbpmjdcbogaaGreatDoor.Abs

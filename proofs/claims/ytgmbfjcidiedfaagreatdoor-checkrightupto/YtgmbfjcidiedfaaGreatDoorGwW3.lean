/- Gw: the functions are these. -/
import Derived.Test.YtgmbfjcidiedfaaGreatDoorGwW2
namespace Go.Proofs.YtgmbfjcidiedfaaGreatDoor.Abs
open Go Go.RowKit
set_option linter.unusedVariables false
set_option maxRecDepth 100000
set_option maxHeartbeats 4000000
variable {X : EV}
theorem zjs {n : Nat} (ih_check_looker_stmts : ∀ (a0 : z1q) (a1 : (List z09)) (r : Bool), z1p n a0 a1 = some r → Cv Tryz.prog (GX X) 12 [.agg (bs (z1t a0)), xL (List.map z1g a1)] (z2z r)) (ih_check_looker_stmt : ∀ (a0 : z1q) (a1 : z09) (r : Bool), z39 n a0 a1 = some r → Cv Tryz.prog (GX X) 27 [.agg (bs (z1t a0)), .agg (bs (z7d a1))] (z69 r)) (ih_check_looker_arms : ∀ (a0 : z1q) (a1 : Int) (a2 : (List z2i)) (r : Bool), z3a n a0 a1 a2 = some r → Cv Tryz.prog (GX X) 53 [.agg (bs (z1t a0)), xI a1, xL (List.map z2o a2)] (z5u r)) (a0 : z1q) (a1 : z09) (r : Bool) (h : z39 (n + 1) a0 a1 = some r) : Cv Tryz.prog (GX X) 27 [.agg (bs (z1t a0)), .agg (bs (z7d a1))] (z69 r) := by
 refine Cs.toV (?_ : Cs Tryz.prog (GX X) 27 [.agg (bs (z1t a0)), .agg (bs (z7d a1))] [] (z69 r) (zje r)) (by kernel_rfl)
 refine fnT (cx := cx X) Tryz.f27 Tryz.call27 Tryz.func27 (by kernel_rfl) ?_
 rw [z39] at h
 obtain ⟨v1, k1, h⟩ := z07 h
 obtain ⟨v2, k2, h⟩ := z07 h
 refine adv (ok X) 9 [.o [0, 1, 2, 3, 4, 5, 6, 7], .c (zbw v1), .c (zfz v2), .o [0, 1, 2, 3, 4, 5, 6, 7, 8, 9], .i (a1.Body.length : Int), .i (a1.Arms.length : Int), .o [0, 1, 2, 3, 4, 5, 6, 7, 8], .i (a1.Else.length : Int)] (pA (zfq (X := X) k1) (pA (zo4 (X := X) k2) (pA (lm z1g a1.Body) (pA (lm z2o a1.Arms) (pA (lm z1g a1.Else) pT))))) (by kernel_rfl) ?_
 refine jn (ok X) 1 (fun (j1 : Bool) => ⟨253, 0, [(2, [xP 0 0]), (3, [xP 1 0]), (5, [xB v1]), (6, [xB v2]), (7, [xB ((a1.Body.length : Int) == 0)]), (8, [xB ((a1.Arms.length : Int) == 0)]), (9, [xB ((a1.Else.length : Int) == 0)]), (10, [xB (a1.Var == 0)]), (11, [xB j1])], [oB 53 (bs (z1t a0)), oB 96 (bs (z7d a1))]⟩) h (fun j1 h => ?_) (fun j1 h => ?_)
 ·rcases iteE h with ⟨k3, h⟩ | ⟨k3, h⟩
  ·obtain rfl := retE h
   exact fin (ok X) 1 (bT 4 []) (pR 4 k3 pT) (by kernel_rfl)
  ·obtain rfl := retE h
   exact fin (ok X) 1 (bF 4 []) (pR 4 k3 pT) (by kernel_rfl)
 ·rcases iteE h with ⟨k4, h⟩ | ⟨k4, h⟩
  ·refine adv (ok X) 8 [.b true] (pA k4 pT) (by kernel_rfl) ?_
   refine jn (ok X) 1 (fun (j2 : Bool) => ⟨253, 0, [(4, [xB j2])], []⟩) h (fun j2 h => ?_) (fun j2 h => ?_)
   ·rcases iteE h with ⟨k5, h⟩ | ⟨k5, h⟩
    ·rcases iteE h with ⟨k6, h⟩ | ⟨k6, h⟩
     ·rcases iteE h with ⟨k7, h⟩ | ⟨k7, h⟩
      ·rcases iteE h with ⟨k8, h⟩ | ⟨k8, h⟩
       ·rcases iteE h with ⟨k9, h⟩ | ⟨k9, h⟩
        ·obtain ⟨v3, k10, h⟩ := z07 h
         rcases iteE h with ⟨k11, h⟩ | ⟨k11, h⟩
         ·obtain ⟨v4, k12, h⟩ := z07 h
          obtain rfl := retE h
          exact fin (ok X) 1 (bT 14 (.c (z18 v3) :: bT 6 [.c (z6z v4), .b true])) (pA k5 (pA k5 (pA k6 (pA k6 (pA k7 (pA k7 (pA k8 (pA k8 (pR 6 k9 (pA (z1e (X := X) k10) (pA k9 (pR 5 k11 (pA (zdr (X := X) k12) (pA k11 pT)))))))))))))) (by kernel_rfl)
         ·obtain rfl := retE h
          exact fin (ok X) 1 (bT 14 (.c (z18 v3) :: .b true :: bF 6 [])) (pA k5 (pA k5 (pA k6 (pA k6 (pA k7 (pA k7 (pA k8 (pA k8 (pR 6 k9 (pA (z1e (X := X) k10) (pA k9 (pR 6 k11 pT)))))))))))) (by kernel_rfl)
        ·obtain rfl := retE h
         exact fin (ok X) 1 (bT 8 (bF 13 [])) (pA k5 (pA k5 (pA k6 (pA k6 (pA k7 (pA k7 (pA k8 (pA k8 (pR 7 k9 (pR 6 ff pT)))))))))) (by kernel_rfl)
       ·obtain rfl := retE h
        exact fin (ok X) 1 (bT 6 (bF 15 [])) (pA k5 (pA k5 (pA k6 (pA k6 (pA k7 (pA k7 (pA k8 (pA k8 (pR 13 ff pT))))))))) (by kernel_rfl)
      ·obtain rfl := retE h
       exact fin (ok X) 1 (bT 4 (bF 17 [])) (pA k5 (pA k5 (pA k6 (pA k6 (pA k7 (pA k7 (pR 15 ff pT))))))) (by kernel_rfl)
     ·obtain rfl := retE h
      exact fin (ok X) 1 (.b true :: .b true :: bF 19 []) (pA k5 (pA k5 (pA k6 (pA k6 (pR 17 ff pT))))) (by kernel_rfl)
    ·obtain rfl := retE h
     exact fin (ok X) 1 (bF 21 []) (pA k5 (pA k5 (pR 19 ff pT))) (by kernel_rfl)
   ·obtain rfl := retE h
    exact fin (ok X) 1 [] pT (by kernel_rfl)
  ·refine adv (ok X) 9 [.b false] (pA k4 pT) (by kernel_rfl) ?_
   rcases iteE h with ⟨k13, h⟩ | ⟨k13, h⟩
   ·refine adv (ok X) 2 [.b true] (pA k13 pT) (by kernel_rfl) ?_
    refine jn (ok X) 1 (fun (j3 : Bool) => ⟨253, 0, [(4, [xB j3])], []⟩) h (fun j3 h => ?_) (fun j3 h => ?_)
    ·rcases iteE h with ⟨k14, h⟩ | ⟨k14, h⟩
     ·rcases iteE h with ⟨k15, h⟩ | ⟨k15, h⟩
      ·rcases iteE h with ⟨k16, h⟩ | ⟨k16, h⟩
       ·rcases iteE h with ⟨k17, h⟩ | ⟨k17, h⟩
        ·rcases iteE h with ⟨k18, h⟩ | ⟨k18, h⟩
         ·rcases iteE h with ⟨k19, h⟩ | ⟨k19, h⟩
          ·obtain ⟨v5, k20, h⟩ := z07 h
           obtain rfl := retE h
           exact fin (ok X) 1 (bT 16 [.c (z18 v5), .b true]) (pA k14 (pA k14 (pA k15 (pA k15 (pA k16 (pA k16 (pA k17 (pA k17 (pA k18 (pA k18 (pR 6 k19 (pA (z1e (X := X) k20) (pA k19 pT))))))))))))) (by kernel_rfl)
          ·obtain rfl := retE h
           exact fin (ok X) 1 (bT 10 (bF 7 [])) (pA k14 (pA k14 (pA k15 (pA k15 (pA k16 (pA k16 (pA k17 (pA k17 (pA k18 (pA k18 (pR 7 k19 pT))))))))))) (by kernel_rfl)
         ·obtain rfl := retE h
          exact fin (ok X) 1 (bT 8 (bF 9 [])) (pA k14 (pA k14 (pA k15 (pA k15 (pA k16 (pA k16 (pA k17 (pA k17 (pA k18 (pA k18 (pR 7 ff pT))))))))))) (by kernel_rfl)
        ·obtain rfl := retE h
         exact fin (ok X) 1 (bT 6 (bF 11 [])) (pA k14 (pA k14 (pA k15 (pA k15 (pA k16 (pA k16 (pA k17 (pA k17 (pR 9 ff pT))))))))) (by kernel_rfl)
       ·obtain rfl := retE h
        exact fin (ok X) 1 (bT 4 (bF 13 [])) (pA k14 (pA k14 (pA k15 (pA k15 (pA k16 (pA k16 (pR 11 ff pT))))))) (by kernel_rfl)
      ·obtain rfl := retE h
       exact fin (ok X) 1 (.b true :: .b true :: bF 15 []) (pA k14 (pA k14 (pA k15 (pA k15 (pR 13 ff pT))))) (by kernel_rfl)
     ·obtain rfl := retE h
      exact fin (ok X) 1 (bF 17 []) (pA k14 (pA k14 (pR 15 ff pT))) (by kernel_rfl)
    ·obtain rfl := retE h
     exact fin (ok X) 1 [] pT (by kernel_rfl)
   ·refine adv (ok X) 3 [.b false] (pA k13 pT) (by kernel_rfl) ?_
    rcases iteE h with ⟨k21, h⟩ | ⟨k21, h⟩
    ·refine adv (ok X) 2 [.b true] (pA k21 pT) (by kernel_rfl) ?_
     refine jn (ok X) 1 (fun (j4 : Bool) => ⟨253, 0, [(4, [xB j4])], []⟩) h (fun j4 h => ?_) (fun j4 h => ?_)
     ·rcases iteE h with ⟨k22, h⟩ | ⟨k22, h⟩
      ·rcases iteE h with ⟨k23, h⟩ | ⟨k23, h⟩
       ·rcases iteE h with ⟨k24, h⟩ | ⟨k24, h⟩
        ·rcases iteE h with ⟨k25, h⟩ | ⟨k25, h⟩
         ·rcases iteE h with ⟨k26, h⟩ | ⟨k26, h⟩
          ·rcases iteE h with ⟨k27, h⟩ | ⟨k27, h⟩
           ·obtain ⟨v6, k28, h⟩ := z07 h
            obtain rfl := retE h
            exact fin (ok X) 1 (bT 15 [.c (z99 v6), .b true]) (pA k22 (pA k22 (pA k23 (pA k23 (pA k24 (pA k24 (pA k25 (pA k25 (pA k26 (pA k26 (pR 5 k27 (pA (zc5 (X := X) k28) (pA k27 pT))))))))))))) (by kernel_rfl)
           ·obtain rfl := retE h
            exact fin (ok X) 1 (bT 10 (bF 6 [])) (pA k22 (pA k22 (pA k23 (pA k23 (pA k24 (pA k24 (pA k25 (pA k25 (pA k26 (pA k26 (pR 6 k27 pT))))))))))) (by kernel_rfl)
          ·obtain rfl := retE h
           exact fin (ok X) 1 (bT 8 (bF 8 [])) (pA k22 (pA k22 (pA k23 (pA k23 (pA k24 (pA k24 (pA k25 (pA k25 (pA k26 (pA k26 (pR 6 ff pT))))))))))) (by kernel_rfl)
         ·obtain rfl := retE h
          exact fin (ok X) 1 (bT 6 (bF 10 [])) (pA k22 (pA k22 (pA k23 (pA k23 (pA k24 (pA k24 (pA k25 (pA k25 (pR 8 ff pT))))))))) (by kernel_rfl)
        ·obtain rfl := retE h
         exact fin (ok X) 1 (bT 4 (bF 12 [])) (pA k22 (pA k22 (pA k23 (pA k23 (pA k24 (pA k24 (pR 10 ff pT))))))) (by kernel_rfl)
       ·obtain rfl := retE h
        exact fin (ok X) 1 (.b true :: .b true :: bF 14 []) (pA k22 (pA k22 (pA k23 (pA k23 (pR 12 ff pT))))) (by kernel_rfl)
      ·obtain rfl := retE h
       exact fin (ok X) 1 (bF 16 []) (pA k22 (pA k22 (pR 14 ff pT))) (by kernel_rfl)
     ·obtain rfl := retE h
      exact fin (ok X) 1 [] pT (by kernel_rfl)
    ·refine adv (ok X) 3 [.b false] (pA k21 pT) (by kernel_rfl) ?_
     rcases iteE h with ⟨k29, h⟩ | ⟨k29, h⟩
     ·refine adv (ok X) 2 [.b true] (pA k29 pT) (by kernel_rfl) ?_
      refine jn (ok X) 1 (fun (j5 : Bool) => ⟨253, 0, [(4, [xB j5])], []⟩) h (fun j5 h => ?_) (fun j5 h => ?_)
      ·rcases iteE h with ⟨k30, h⟩ | ⟨k30, h⟩
       ·rcases iteE h with ⟨k31, h⟩ | ⟨k31, h⟩
        ·rcases iteE h with ⟨k32, h⟩ | ⟨k32, h⟩
         ·rcases iteE h with ⟨k33, h⟩ | ⟨k33, h⟩
          ·rcases iteE h with ⟨k34, h⟩ | ⟨k34, h⟩
           ·obtain ⟨v7, k35, h⟩ := z07 h
            rcases iteE h with ⟨k36, h⟩ | ⟨k36, h⟩
            ·obtain ⟨v8, k37, h⟩ := z07 h
             obtain rfl := retE h
             exact fin (ok X) 1 (bT 13 (.c (z99 v7) :: bT 5 [.c (z2z v8), .b true])) (pA k30 (pA k30 (pA k31 (pA k31 (pA k32 (pA k32 (pA k33 (pA k33 (pR 5 k34 (pA (zc5 (X := X) k35) (pA k34 (pR 4 k36 (pA (ih_check_looker_stmts _ _ _ k37) (pA k36 pT)))))))))))))) (by kernel_rfl)
            ·obtain rfl := retE h
             exact fin (ok X) 1 (bT 13 (.c (z99 v7) :: .b true :: bF 5 [])) (pA k30 (pA k30 (pA k31 (pA k31 (pA k32 (pA k32 (pA k33 (pA k33 (pR 5 k34 (pA (zc5 (X := X) k35) (pA k34 (pR 5 k36 pT)))))))))))) (by kernel_rfl)
           ·obtain rfl := retE h
            exact fin (ok X) 1 (bT 8 (bF 11 [])) (pA k30 (pA k30 (pA k31 (pA k31 (pA k32 (pA k32 (pA k33 (pA k33 (pR 6 k34 (pR 5 ff pT)))))))))) (by kernel_rfl)
          ·obtain rfl := retE h
           exact fin (ok X) 1 (bT 6 (bF 13 [])) (pA k30 (pA k30 (pA k31 (pA k31 (pA k32 (pA k32 (pA k33 (pA k33 (pR 11 ff pT))))))))) (by kernel_rfl)
         ·obtain rfl := retE h
          exact fin (ok X) 1 (bT 4 (bF 15 [])) (pA k30 (pA k30 (pA k31 (pA k31 (pA k32 (pA k32 (pR 13 ff pT))))))) (by kernel_rfl)
        ·obtain rfl := retE h
         exact fin (ok X) 1 (.b true :: .b true :: bF 17 []) (pA k30 (pA k30 (pA k31 (pA k31 (pR 15 ff pT))))) (by kernel_rfl)
       ·obtain rfl := retE h
        exact fin (ok X) 1 (bF 19 []) (pA k30 (pA k30 (pR 17 ff pT))) (by kernel_rfl)
      ·obtain rfl := retE h
       exact fin (ok X) 1 [] pT (by kernel_rfl)
     ·refine adv (ok X) 3 [.b false] (pA k29 pT) (by kernel_rfl) ?_
      rcases iteE h with ⟨k38, h⟩ | ⟨k38, h⟩
      ·refine adv (ok X) 2 [.b true] (pA k38 pT) (by kernel_rfl) ?_
       refine jn (ok X) 1 (fun (j6 : Bool) => ⟨253, 0, [(4, [xB j6])], []⟩) h (fun j6 h => ?_) (fun j6 h => ?_)
       ·rcases iteE h with ⟨k39, h⟩ | ⟨k39, h⟩
        ·rcases iteE h with ⟨k40, h⟩ | ⟨k40, h⟩
         ·rcases iteE h with ⟨k41, h⟩ | ⟨k41, h⟩
          ·rcases iteE h with ⟨k42, h⟩ | ⟨k42, h⟩
           ·obtain ⟨v9, k43, h⟩ := z07 h
            rcases iteE h with ⟨k44, h⟩ | ⟨k44, h⟩
            ·obtain ⟨v10, k45, h⟩ := z07 h
             rcases iteE h with ⟨k46, h⟩ | ⟨k46, h⟩
             ·obtain ⟨v11, k47, h⟩ := z07 h
              obtain rfl := retE h
              exact fin (ok X) 1 (bT 11 (.c (z99 v9) :: bT 5 (.c (z2z v10) :: bT 5 [.c (z2z v11), .b true]))) (pA k39 (pA k39 (pA k40 (pA k40 (pA k41 (pA k41 (pR 5 k42 (pA (zc5 (X := X) k43) (pA k42 (pR 4 k44 (pA (ih_check_looker_stmts _ _ _ k45) (pA k44 (pR 4 k46 (pA (ih_check_looker_stmts _ _ _ k47) (pA k46 pT))))))))))))))) (by kernel_rfl)
             ·obtain rfl := retE h
              exact fin (ok X) 1 (bT 11 (.c (z99 v9) :: bT 5 (.c (z2z v10) :: .b true :: bF 5 []))) (pA k39 (pA k39 (pA k40 (pA k40 (pA k41 (pA k41 (pR 5 k42 (pA (zc5 (X := X) k43) (pA k42 (pR 4 k44 (pA (ih_check_looker_stmts _ _ _ k45) (pA k44 (pR 5 k46 pT))))))))))))) (by kernel_rfl)
            ·obtain rfl := retE h
             exact fin (ok X) 1 (bT 11 (.c (z99 v9) :: .b true :: bF 10 [])) (pA k39 (pA k39 (pA k40 (pA k40 (pA k41 (pA k41 (pR 5 k42 (pA (zc5 (X := X) k43) (pA k42 (pR 5 k44 (pR 5 ff pT))))))))))) (by kernel_rfl)
           ·obtain rfl := retE h
            exact fin (ok X) 1 (bT 6 (bF 16 [])) (pA k39 (pA k39 (pA k40 (pA k40 (pA k41 (pA k41 (pR 6 k42 (pR 10 ff pT)))))))) (by kernel_rfl)
          ·obtain rfl := retE h
           exact fin (ok X) 1 (bT 4 (bF 18 [])) (pA k39 (pA k39 (pA k40 (pA k40 (pA k41 (pA k41 (pR 16 ff pT))))))) (by kernel_rfl)
         ·obtain rfl := retE h
          exact fin (ok X) 1 (.b true :: .b true :: bF 20 []) (pA k39 (pA k39 (pA k40 (pA k40 (pR 18 ff pT))))) (by kernel_rfl)
        ·obtain rfl := retE h
         exact fin (ok X) 1 (bF 22 []) (pA k39 (pA k39 (pR 20 ff pT))) (by kernel_rfl)
       ·obtain rfl := retE h
        exact fin (ok X) 1 [] pT (by kernel_rfl)
      ·refine adv (ok X) 3 [.b false] (pA k38 pT) (by kernel_rfl) ?_
       rcases iteE h with ⟨k48, h⟩ | ⟨k48, h⟩
       ·refine adv (ok X) 2 [.b true] (pA k48 pT) (by kernel_rfl) ?_
        refine jn (ok X) 1 (fun (j7 : Bool) => ⟨253, 0, [(4, [xB j7])], []⟩) h (fun j7 h => ?_) (fun j7 h => ?_)
        ·rcases iteE h with ⟨k49, h⟩ | ⟨k49, h⟩
         ·rcases iteE h with ⟨k50, h⟩ | ⟨k50, h⟩
          ·rcases iteE h with ⟨k51, h⟩ | ⟨k51, h⟩
           ·rcases iteE h with ⟨k52, h⟩ | ⟨k52, h⟩
            ·rcases iteE h with ⟨k53, h⟩ | ⟨k53, h⟩
             ·obtain ⟨v12, k54, h⟩ := z07 h
              rcases iteE h with ⟨k55, h⟩ | ⟨k55, h⟩
              ·obtain ⟨v13, k56, h⟩ := z07 h
               rcases iteE h with ⟨k57, h⟩ | ⟨k57, h⟩
               ·obtain ⟨v14, k58, h⟩ := z07 h
                obtain rfl := retE h
                exact fin (ok X) 1 (bT 12 (.c (z5c v12) :: bT 7 (.c (z62 v13) :: bT 6 [.c (z6z v14), .b true]))) (pA k49 (pA k49 (pA k50 (pA k50 (pA k51 (pA k51 (pA k52 (pA k52 (pR 4 k53 (pA (z7r (X := X) k54) (pA k53 (pR 6 k55 (pA (z7o (X := X) k56) (pA k55 (pR 5 k57 (pA (zdr (X := X) k58) (pA k57 pT))))))))))))))))) (by kernel_rfl)
               ·obtain rfl := retE h
                exact fin (ok X) 1 (bT 12 (.c (z5c v12) :: bT 7 (.c (z62 v13) :: .b true :: bF 6 []))) (pA k49 (pA k49 (pA k50 (pA k50 (pA k51 (pA k51 (pA k52 (pA k52 (pR 4 k53 (pA (z7r (X := X) k54) (pA k53 (pR 6 k55 (pA (z7o (X := X) k56) (pA k55 (pR 6 k57 pT))))))))))))))) (by kernel_rfl)
              ·obtain rfl := retE h
               exact fin (ok X) 1 (bT 12 (.c (z5c v12) :: .b true :: bF 13 [])) (pA k49 (pA k49 (pA k50 (pA k50 (pA k51 (pA k51 (pA k52 (pA k52 (pR 4 k53 (pA (z7r (X := X) k54) (pA k53 (pR 7 k55 (pR 6 ff pT))))))))))))) (by kernel_rfl)
             ·obtain rfl := retE h
              exact fin (ok X) 1 (bT 8 (bF 18 [])) (pA k49 (pA k49 (pA k50 (pA k50 (pA k51 (pA k51 (pA k52 (pA k52 (pR 5 k53 (pR 13 ff pT)))))))))) (by kernel_rfl)
            ·obtain rfl := retE h
             exact fin (ok X) 1 (bT 6 (bF 20 [])) (pA k49 (pA k49 (pA k50 (pA k50 (pA k51 (pA k51 (pA k52 (pA k52 (pR 18 ff pT))))))))) (by kernel_rfl)
           ·obtain rfl := retE h
            exact fin (ok X) 1 (bT 4 (bF 22 [])) (pA k49 (pA k49 (pA k50 (pA k50 (pA k51 (pA k51 (pR 20 ff pT))))))) (by kernel_rfl)
          ·obtain rfl := retE h
           exact fin (ok X) 1 (.b true :: .b true :: bF 24 []) (pA k49 (pA k49 (pA k50 (pA k50 (pR 22 ff pT))))) (by kernel_rfl)
         ·obtain rfl := retE h
          exact fin (ok X) 1 (bF 26 []) (pA k49 (pA k49 (pR 24 ff pT))) (by kernel_rfl)
        ·obtain rfl := retE h
         exact fin (ok X) 1 [] pT (by kernel_rfl)
       ·refine adv (ok X) 3 [.b false] (pA k48 pT) (by kernel_rfl) ?_
        rcases iteE h with ⟨k59, h⟩ | ⟨k59, h⟩
        ·refine adv (ok X) 2 [.b true] (pA k59 pT) (by kernel_rfl) ?_
         refine jn (ok X) 1 (fun (j8 : Bool) => ⟨253, 0, [(4, [xB j8])], []⟩) h (fun j8 h => ?_) (fun j8 h => ?_)
         ·rcases iteE h with ⟨k60, h⟩ | ⟨k60, h⟩
          ·rcases iteE h with ⟨k61, h⟩ | ⟨k61, h⟩
           ·rcases iteE h with ⟨k62, h⟩ | ⟨k62, h⟩
            ·rcases iteE h with ⟨k63, h⟩ | ⟨k63, h⟩
             ·rcases iteE h with ⟨k64, h⟩ | ⟨k64, h⟩
              ·rcases iteE h with ⟨k65, h⟩ | ⟨k65, h⟩
               ·obtain ⟨v15, k66, h⟩ := z07 h
                rcases iteE h with ⟨k67, h⟩ | ⟨k67, h⟩
                ·obtain ⟨v16, k68, h⟩ := z07 h
                 obtain rfl := retE h
                 exact fin (ok X) 1 (bT 16 (.c (z6t v15) :: bT 7 [.c (z5u v16), .b true])) (pA k60 (pA k60 (pA k61 (pA k61 (pA k62 (pA k62 (pA k63 (pA k63 (pR 4 k64 (pR 4 k65 (pA (zad (X := X) k66) (pA k65 (pR 6 k67 (pA (ih_check_looker_arms _ _ _ _ k68) (pA k67 pT))))))))))))))) (by kernel_rfl)
                ·obtain rfl := retE h
                 exact fin (ok X) 1 (bT 16 (.c (z6t v15) :: .b true :: bF 7 [])) (pA k60 (pA k60 (pA k61 (pA k61 (pA k62 (pA k62 (pA k63 (pA k63 (pR 4 k64 (pR 4 k65 (pA (zad (X := X) k66) (pA k65 (pR 7 k67 pT))))))))))))) (by kernel_rfl)
               ·obtain rfl := retE h
                exact fin (ok X) 1 (bT 12 (bF 12 [])) (pA k60 (pA k60 (pA k61 (pA k61 (pA k62 (pA k62 (pA k63 (pA k63 (pR 4 k64 (pR 5 k65 (pR 7 ff pT))))))))))) (by kernel_rfl)
              ·obtain rfl := retE h
               exact fin (ok X) 1 (bT 8 (bF 16 [])) (pA k60 (pA k60 (pA k61 (pA k61 (pA k62 (pA k62 (pA k63 (pA k63 (pR 4 k64 (pR 12 ff pT)))))))))) (by kernel_rfl)
             ·obtain rfl := retE h
              exact fin (ok X) 1 (bT 6 (bF 18 [])) (pA k60 (pA k60 (pA k61 (pA k61 (pA k62 (pA k62 (pA k63 (pA k63 (pR 16 ff pT))))))))) (by kernel_rfl)
            ·obtain rfl := retE h
             exact fin (ok X) 1 (bT 4 (bF 20 [])) (pA k60 (pA k60 (pA k61 (pA k61 (pA k62 (pA k62 (pR 18 ff pT))))))) (by kernel_rfl)
           ·obtain rfl := retE h
            exact fin (ok X) 1 (.b true :: .b true :: bF 22 []) (pA k60 (pA k60 (pA k61 (pA k61 (pR 20 ff pT))))) (by kernel_rfl)
          ·obtain rfl := retE h
           exact fin (ok X) 1 (bF 24 []) (pA k60 (pA k60 (pR 22 ff pT))) (by kernel_rfl)
         ·obtain rfl := retE h
          exact fin (ok X) 1 [] pT (by kernel_rfl)
        ·obtain rfl := retE h
         exact fin (ok X) 6 [.b false] (pA k59 pT) (by kernel_rfl)

theorem zjt {n : Nat} (ih_check_looker_stmts : ∀ (a0 : z1q) (a1 : (List z09)) (r : Bool), z1p n a0 a1 = some r → Cv Tryz.prog (GX X) 12 [.agg (bs (z1t a0)), xL (List.map z1g a1)] (z2z r)) (ih_check_looker_stmt : ∀ (a0 : z1q) (a1 : z09) (r : Bool), z39 n a0 a1 = some r → Cv Tryz.prog (GX X) 27 [.agg (bs (z1t a0)), .agg (bs (z7d a1))] (z69 r)) (ih_check_looker_arms : ∀ (a0 : z1q) (a1 : Int) (a2 : (List z2i)) (r : Bool), z3a n a0 a1 a2 = some r → Cv Tryz.prog (GX X) 53 [.agg (bs (z1t a0)), xI a1, xL (List.map z2o a2)] (z5u r)) (a0 : z1q) (a1 : Int) (a2 : (List z2i)) (r : Bool) (h : z3a (n + 1) a0 a1 a2 = some r) : Cv Tryz.prog (GX X) 53 [.agg (bs (z1t a0)), xI a1, xL (List.map z2o a2)] (z5u r) := by
 refine Cs.toV (?_ : Cs Tryz.prog (GX X) 53 [.agg (bs (z1t a0)), xI a1, xL (List.map z2o a2)] [] (z5u r) (zez r)) (by kernel_rfl)
 refine fnT (cx := cx X) Tryz.f53 Tryz.call53 Tryz.func53 (by kernel_rfl) ?_
 rw [z3a] at h
 refine adv (ok X) 7 [.i (a2.length : Int)] (pA (lm z2o a2) pT) (by kernel_rfl) ?_
 refine lp (ok X) (z6x (z1p n) (z39 n) (z3a n) a0 a1 a2) (fun (x1 : (Int × Bool × Bool × Bool × Bool)) => ⟨51, 0, [(1, [xI a1]), (2, [xL (List.map z2o a2)]), (3, [xP 0 0]), (7, [xP 1 0]), (10, [xL (List.map z2o a2)]), (11, [xI (a2.length : Int)]), (12, [xI x1.1])], [oB 53 (bs (z1t a0)), oB 145 (bs (zk8 (arr false [x1.2.1, x1.2.2.1, x1.2.2.2.1, x1.2.2.2.2])))]⟩) (fun (j1 : Unit) => ⟨51, 0, [(2, [xL (List.map z2o a2)])], []⟩) zjf (0, false, false, false, false) (fun _ => ⟨_, _, _, _, rfl⟩) h (by kernel_rfl) (fun x1 o h => ?_) (fun r' h => ?_) (fun j1 h => ?_)
 ·unfold z6x at h
  rcases iteE h with ⟨k1, h⟩ | ⟨k1, h⟩
  ·obtain ⟨v1, k2, h⟩ := z07 h
   refine adv (ok X) 11 [.b true, .e (zna v1)] (pA k1 (pA (ixr zdb k2) pT)) (by kernel_rfl) ?_
   refine jn (ok X) 1 (fun (j2 : Bool) => ⟨51, 0, [(1, [xI a1]), (2, [xL (List.map z2o a2)]), (3, [xP 0 0]), (7, [xP 1 0]), (9, [xP 2 0]), (10, [xL (List.map z2o a2)]), (11, [xI (a2.length : Int)]), (12, [xI x1.1]), (43, [xB j2])], [oB 53 (bs (z1t a0)), oB 145 (bs (zk8 (arr false [x1.2.1, x1.2.2.1, x1.2.2.2.1, x1.2.2.2.2]))), oB 110 (bs (zna v1))]⟩) h (fun j2 h => ?_) (fun j2 h => ?_)
   ·obtain ⟨v2, k3, h⟩ := z07 h
    rcases iteE h with ⟨k4, h⟩ | ⟨k4, h⟩
    ·obtain rfl := retE h
     exact fin (ok X) 1 (.c (z62 v2) :: bT 19 []) (pA (z7o (X := X) k3) (pR 5 k4 (pR 14 tt pT))) (by kernel_rfl)
    ·obtain ⟨v3, k5, h⟩ := z07 h
     rcases iteE h with ⟨k6, h⟩ | ⟨k6, h⟩
     ·obtain rfl := retE h
      exact fin (ok X) 1 (.c (z62 v2) :: bF 3 (.n v3 :: .b false :: .ld [xB ((arr false [x1.2.1, x1.2.2.1, x1.2.2.2.1, x1.2.2.2.2]) v3)] :: .b false :: bT 14 [])) (pA (z7o (X := X) k3) (pR 3 k4 (pA k5 (pA k4 (pA (zgq (arr false [x1.2.1, x1.2.2.1, x1.2.2.2.1, x1.2.2.2.2]) (zk4 k5)) (pA k4 (pR 8 k6 (pR 6 tt pT)))))))) (by kernel_rfl)
     ·obtain ⟨v4, k7, h⟩ := z07 h
      rcases iteE h with ⟨k8, h⟩ | ⟨k8, h⟩
      ·obtain rfl := retE h
       exact fin (ok X) 1 (.c (z62 v2) :: bF 3 (.n v3 :: .b false :: .ld [xB ((arr false [x1.2.1, x1.2.2.1, x1.2.2.2.1, x1.2.2.2.2]) v3)] :: bF 7 (.c (z18 v4) :: .b false :: .b false :: bT 6 []))) (pA (z7o (X := X) k3) (pR 3 k4 (pA k5 (pA k4 (pA (zgq (arr false [x1.2.1, x1.2.2.1, x1.2.2.2.1, x1.2.2.2.2]) (zk4 k5)) (pA k4 (pR 6 k6 (pA (z1e (X := X) k7) (pA k6 (pA k6 (pR 6 k8 pT))))))))))) (by kernel_rfl)
      ·obtain ⟨v5, k9, h⟩ := z07 h
       obtain rfl := retE h
       exact fin (ok X) 1 (.c (z62 v2) :: bF 3 (.n v3 :: .b false :: .ld [xB ((arr false [x1.2.1, x1.2.2.1, x1.2.2.2.1, x1.2.2.2.2]) v3)] :: bF 7 (.c (z18 v4) :: bF 6 [.c (z2z v5), .b false, .b false]))) (pA (z7o (X := X) k3) (pR 3 k4 (pA k5 (pA k4 (pA (zgq (arr false [x1.2.1, x1.2.2.1, x1.2.2.2.1, x1.2.2.2.2]) (zk4 k5)) (pA k4 (pR 6 k6 (pA (z1e (X := X) k7) (pA k6 (pA k6 (pR 4 k8 (pA (ih_check_looker_stmts _ _ _ k9) (pA k8 (pA k8 pT)))))))))))))) (by kernel_rfl)
   ·rcases iteE h with ⟨k10, h⟩ | ⟨k10, h⟩
    ·obtain rfl := retE h
     exact fin (ok X) 4 [.b true] (pA k10 pT) (by kernel_rfl)
    ·obtain ⟨v6, k11, h⟩ := z07 h
     obtain ⟨v7, k12, h⟩ := z07 h
     obtain rfl := retE h
     exact fin (ok X) 5 [.b false, .n v6, .sc (bs (zk8 v7))] (pA k10 (pA k11 (pA (retE k12 ▸ zty (arr false [x1.2.1, x1.2.2.1, x1.2.2.2.1, x1.2.2.2.2]) true (zk4 k11)) pT))) (by kernel_rfl)
  ·obtain rfl := retE h
   exact fin (ok X) 5 [.b false] (pA k1 pT) (by kernel_rfl)
 ·obtain rfl := retE h
  kernel_rfl
 ·obtain rfl := retE h
  exact fin (ok X) 3 [.i (a2.length : Int)] (pA (lm z2o a2) pT) (by kernel_rfl)

theorem zcn : ∀ n : Nat, (∀ (a0 : z1q) (a1 : (List z09)) (r : Bool), z1p n a0 a1 = some r → Cv Tryz.prog (GX X) 12 [.agg (bs (z1t a0)), xL (List.map z1g a1)] (z2z r)) ∧ (∀ (a0 : z1q) (a1 : z09) (r : Bool), z39 n a0 a1 = some r → Cv Tryz.prog (GX X) 27 [.agg (bs (z1t a0)), .agg (bs (z7d a1))] (z69 r)) ∧ (∀ (a0 : z1q) (a1 : Int) (a2 : (List z2i)) (r : Bool), z3a n a0 a1 a2 = some r → Cv Tryz.prog (GX X) 53 [.agg (bs (z1t a0)), xI a1, xL (List.map z2o a2)] (z5u r))
 | 0 => ⟨(fun _ _ _ h => by rw [z1p] at h; cases h), (fun _ _ _ h => by rw [z39] at h; cases h), (fun _ _ _ _ h => by rw [z3a] at h; cases h)⟩
 | n + 1 => by
  have ih := zcn n
  exact ⟨zip ih.1 ih.2.1 ih.2.2, zjs ih.1 ih.2.1 ih.2.2, zjt ih.1 ih.2.1 ih.2.2⟩

theorem ziq {a0 : z1q} {a1 : (List z09)} {r : Bool} (h : zch a0 a1 = some r) : Cv Tryz.prog (GX X) 12 [.agg (bs (z1t a0)), xL (List.map z1g a1)] (z2z r) := by
 obtain ⟨n, hn⟩ := unfE h
 exact (zcn n).1 _ _ _ hn

theorem zeb {a0 : z10} {r : Bool} (h : zbr a0 = some r) : Cv Tryz.prog (GX X) 5 [.agg (bs (z8m a0))] (z9e r) := by
 refine Cs.toV (?_ : Cs Tryz.prog (GX X) 5 [.agg (bs (z8m a0))] [] (z9e r) (zki r)) (by kernel_rfl)
 refine fnT (cx := cx X) Tryz.f5 Tryz.call5 Tryz.func5 (by kernel_rfl) ?_
 unfold zbr at h
 refine adv (ok X) 4 [] pT (by kernel_rfl) ?_
 refine jn (ok X) 1 (fun (j1 : Bool) => ⟨56, 0, [(1, [xP 0 0]), (17, [xB j1])], [oB 31 (bs (z8m a0))]⟩) h (fun j1 h => ?_) (fun j1 h => ?_)
 ·rcases iteE h with ⟨k1, h⟩ | ⟨k1, h⟩
  ·obtain rfl := retE h
   exact fin (ok X) 1 (.i (a0.Chans.length : Int) :: bT 6 []) (pA (lm z04 a0.Chans) (pR 6 k1 pT)) (by kernel_rfl)
  ·obtain ⟨v1, k2, h⟩ := z07 h
   obtain rfl := retE h
   exact fin (ok X) 1 (.i (a0.Chans.length : Int) :: bF 3 [.i (a0.Procs.length : Int), .b false, .c (z18 v1), .b false, .b false]) (pA (lm z04 a0.Chans) (pR 3 k1 (pA (lm z0b a0.Procs) (pA k1 (pA (z1e (X := X) k2) (pA k1 (pA k1 pT))))))) (by kernel_rfl)
 ·rcases iteE h with ⟨k3, h⟩ | ⟨k3, h⟩
  ·obtain rfl := retE h
   exact fin (ok X) 4 [.b true] (pA k3 pT) (by kernel_rfl)
  ·refine adv (ok X) 5 [.b false, .i (a0.Chans.length : Int)] (pA k3 (pA (lm z04 a0.Chans) pT)) (by kernel_rfl) ?_
   refine lp (ok X) (z9q a0) (fun (x2 : Int) => ⟨56, 0, [(1, [xP 0 0]), (19, [xL (List.map z04 a0.Chans)]), (20, [xI (a0.Chans.length : Int)]), (21, [xI x2])], [oB 31 (bs (z8m a0))]⟩) (fun (j2 : Unit) => ⟨56, 0, [(1, [xP 0 0])], [oB 31 (bs (z8m a0))]⟩) zkj 0 (fun _ => ⟨_, _, _, _, rfl⟩) h (by kernel_rfl) (fun x2 o h => ?_) (fun r' h => ?_) (fun j2 h => ?_)
   ·unfold z9q at h
    rcases iteE h with ⟨k4, h⟩ | ⟨k4, h⟩
    ·obtain ⟨v2, k5, h⟩ := z07 h
     obtain ⟨v3, k6, h⟩ := z07 h
     refine adv (ok X) 11 [.b true, .e (z04 v2), .i (a0.Procs.length : Int), .c (zex v3)] (pA k4 (pA (ixm z04 k5) (pA (lm z0b a0.Procs) (pA (znn (X := X) k6) pT)))) (by kernel_rfl) ?_
     rcases iteE h with ⟨k7, h⟩ | ⟨k7, h⟩
     ·obtain rfl := retE h
      exact fin (ok X) 4 [.b true] (pA k7 pT) (by kernel_rfl)
     ·obtain rfl := retE h
      exact fin (ok X) 4 [.b false] (pA k7 pT) (by kernel_rfl)
    ·obtain rfl := retE h
     exact fin (ok X) 5 [.b false] (pA k4 pT) (by kernel_rfl)
   ·obtain rfl := retE h
    kernel_rfl
   ·refine adv (ok X) 3 [.i (a0.Procs.length : Int)] (pA (lm z0b a0.Procs) pT) (by kernel_rfl) ?_
    refine lp (ok X) (z9r a0) (fun (x3 : Int) => ⟨56, 0, [(1, [xP 0 0]), (33, [xL (List.map z0b a0.Procs)]), (34, [xI (a0.Procs.length : Int)]), (35, [xI x3])], [oB 31 (bs (z8m a0))]⟩) (fun (j3 : Unit) => ⟨56, 0, [], []⟩) zkj 0 (fun _ => ⟨_, _, _, _, rfl⟩) h (by kernel_rfl) (fun x3 o h => ?_) (fun r' h => ?_) (fun j3 h => ?_)
    ·unfold z9r at h
     rcases iteE h with ⟨k8, h⟩ | ⟨k8, h⟩
     ·obtain ⟨v4, k9, h⟩ := z07 h
      refine adv (ok X) 10 [.b true, .e (z0b v4)] (pA k8 (pA (ixm z0b k9) pT)) (by kernel_rfl) ?_
      refine jn (ok X) 1 (fun (j4 : Bool) => ⟨56, 0, [(1, [xP 0 0]), (33, [xL (List.map z0b a0.Procs)]), (34, [xI (a0.Procs.length : Int)]), (35, [xI x3]), (54, [xB j4])], [oB 31 (bs (z8m a0))]⟩) h (fun j4 h => ?_) (fun j4 h => ?_)
      ·obtain ⟨v5, k10, h⟩ := z07 h
       rcases iteE h with ⟨k11, h⟩ | ⟨k11, h⟩
       ·obtain rfl := retE h
        exact fin (ok X) 1 (.c (z18 v5) :: bT 10 []) (pA (z1e (X := X) k10) (pR 10 k11 pT)) (by kernel_rfl)
       ·obtain ⟨v6, k12, h⟩ := z07 h
        obtain rfl := retE h
        exact fin (ok X) 1 (.c (z18 v5) :: bF 8 [.c (z2z v6), .b false, .b false]) (pA (z1e (X := X) k10) (pR 8 k11 (pA (ziq (X := X) k12) (pA k11 (pA k11 pT))))) (by kernel_rfl)
      ·rcases iteE h with ⟨k13, h⟩ | ⟨k13, h⟩
       ·obtain rfl := retE h
        exact fin (ok X) 4 [.b true] (pA k13 pT) (by kernel_rfl)
       ·obtain rfl := retE h
        exact fin (ok X) 4 [.b false] (pA k13 pT) (by kernel_rfl)
     ·obtain rfl := retE h
      exact fin (ok X) 5 [.b false] (pA k8 pT) (by kernel_rfl)
    ·obtain rfl := retE h
     kernel_rfl
    ·obtain rfl := retE h
     exact fin (ok X) 3 [] pT (by kernel_rfl)

theorem zm3 {r : Bool} (h : zgb = some r) : Cv Tryz.prog (GX X) 4 [] (zfp r) := by
 refine Cs.toV (?_ : Cs Tryz.prog (GX X) 4 [] [] (zfp r) (zqq r)) (by kernel_rfl)
 refine fnT (cx := cx X) Tryz.f4 Tryz.call4 Tryz.func4 (by kernel_rfl) ?_
 unfold zgb at h
 obtain ⟨v1, k1, h⟩ := z07 h
 obtain ⟨v2, k2, h⟩ := z07 h
 refine adv (ok X) 7 [.c (ze8 v1), .c (ze9 v2)] (pA (zp5 (X := X) k1) (pA (zp6 (X := X) k2) pT)) (by kernel_rfl) ?_
 refine jn (ok X) 1 (fun (j1 : Bool) => ⟨59, 0, [(0, [xB j1])], []⟩) h (fun j1 h => ?_) (fun j1 h => ?_)
 ·rcases iteE h with ⟨k3, h⟩ | ⟨k3, h⟩
  ·rcases iteE h with ⟨k4, h⟩ | ⟨k4, h⟩
   ·rcases iteE h with ⟨k5, h⟩ | ⟨k5, h⟩
    ·obtain ⟨v3, k6, h⟩ := z07 h
     rcases iteE h with ⟨k7, h⟩ | ⟨k7, h⟩
     ·obtain ⟨v4, k8, h⟩ := z07 h
      rcases iteE h with ⟨k9, h⟩ | ⟨k9, h⟩
      ·rcases iteE h with ⟨k10, h⟩ | ⟨k10, h⟩
       ·obtain ⟨v5, k11, h⟩ := z07 h
        rcases iteE h with ⟨k12, h⟩ | ⟨k12, h⟩
        ·obtain ⟨v6, k13, h⟩ := z07 h
         obtain rfl := retE h
         exact fin (ok X) 1 (bT 6 (.i (v2.1.Chans.length : Int) :: bT 5 (.e (z04 v3) :: bT 7 (.e (z04 v4) :: bT 7 (.i (v2.1.Procs.length : Int) :: bT 4 (.c (z9e v5) :: bT 3 [.c (z9e v6), .b true, .b true])))))) (pR 3 k3 (pR 3 k4 (pA (lm z04 v2.1.Chans) (pA k4 (pA k4 (pR 3 k5 (pA (ixm z04 k6) (pR 4 k5 (pR 3 k7 (pA (ixm z04 k8) (pR 4 k7 (pR 3 k9 (pA (lm z0b v2.1.Procs) (pA k9 (pA k9 (pA k10 (pA k10 (pA (zeb (X := X) k11) (pA k10 (pA k12 (pA k12 (pA (zeb (X := X) k13) (pA k12 (pA k12 pT)))))))))))))))))))))))) (by kernel_rfl)
        ·obtain rfl := retE h
         exact fin (ok X) 1 (bT 6 (.i (v2.1.Chans.length : Int) :: bT 5 (.e (z04 v3) :: bT 7 (.e (z04 v4) :: bT 7 (.i (v2.1.Procs.length : Int) :: bT 4 (.c (z9e v5) :: .b true :: bF 4 [])))))) (pR 3 k3 (pR 3 k4 (pA (lm z04 v2.1.Chans) (pA k4 (pA k4 (pR 3 k5 (pA (ixm z04 k6) (pR 4 k5 (pR 3 k7 (pA (ixm z04 k8) (pR 4 k7 (pR 3 k9 (pA (lm z0b v2.1.Procs) (pA k9 (pA k9 (pA k10 (pA k10 (pA (zeb (X := X) k11) (pA k10 (pR 4 k12 pT)))))))))))))))))))) (by kernel_rfl)
       ·obtain rfl := retE h
        exact fin (ok X) 1 (bT 6 (.i (v2.1.Chans.length : Int) :: bT 5 (.e (z04 v3) :: bT 7 (.e (z04 v4) :: bT 7 (.i (v2.1.Procs.length : Int) :: .b true :: .b true :: bF 7 []))))) (pR 3 k3 (pR 3 k4 (pA (lm z04 v2.1.Chans) (pA k4 (pA k4 (pR 3 k5 (pA (ixm z04 k6) (pR 4 k5 (pR 3 k7 (pA (ixm z04 k8) (pR 4 k7 (pR 3 k9 (pA (lm z0b v2.1.Procs) (pA k9 (pA k9 (pR 3 k10 (pR 4 ff pT))))))))))))))))) (by kernel_rfl)
      ·obtain rfl := retE h
       exact fin (ok X) 1 (bT 6 (.i (v2.1.Chans.length : Int) :: bT 5 (.e (z04 v3) :: bT 7 (.e (z04 v4) :: bT 4 (bF 12 []))))) (pR 3 k3 (pR 3 k4 (pA (lm z04 v2.1.Chans) (pA k4 (pA k4 (pR 3 k5 (pA (ixm z04 k6) (pR 4 k5 (pR 3 k7 (pA (ixm z04 k8) (pR 4 k7 (pR 5 k9 (pR 7 ff pT))))))))))))) (by kernel_rfl)
     ·obtain rfl := retE h
      exact fin (ok X) 1 (bT 6 (.i (v2.1.Chans.length : Int) :: bT 5 (.e (z04 v3) :: bT 4 (bF 19 [])))) (pR 3 k3 (pR 3 k4 (pA (lm z04 v2.1.Chans) (pA k4 (pA k4 (pR 3 k5 (pA (ixm z04 k6) (pR 4 k5 (pR 7 k7 (pR 12 ff pT)))))))))) (by kernel_rfl)
    ·obtain rfl := retE h
     exact fin (ok X) 1 (bT 6 (.i (v2.1.Chans.length : Int) :: .b true :: .b true :: bF 26 [])) (pR 3 k3 (pR 3 k4 (pA (lm z04 v2.1.Chans) (pA k4 (pA k4 (pR 7 k5 (pR 19 ff pT))))))) (by kernel_rfl)
   ·obtain rfl := retE h
    exact fin (ok X) 1 (bT 3 (bF 31 [])) (pR 3 k3 (pR 5 k4 (pR 26 ff pT))) (by kernel_rfl)
  ·obtain rfl := retE h
   exact fin (ok X) 1 (bF 34 []) (pR 3 k3 (pR 31 ff pT)) (by kernel_rfl)
 ·obtain rfl := retE h
  exact fin (ok X) 1 [] pT (by kernel_rfl)

theorem zvs {n : Nat} (ih_l04_Expr : ∀ (a0 : z34) (r : z0h), zb2 n a0 = some r → Cv Tryz.prog (GX X) 28 [.agg (bs (z5x a0))] (z9s r)) (a0 : z34) (r : z0h) (h : zb2 (n + 1) a0 = some r) : Cv Tryz.prog (GX X) 28 [.agg (bs (z5x a0))] (z9s r) := by
 refine Cs.toV (?_ : Cs Tryz.prog (GX X) 28 [.agg (bs (z5x a0))] [] (z9s r) (zoi r)) (by kernel_rfl)
 refine fnT (cx := cx X) Tryz.f28 Tryz.call28 Tryz.func28 (by kernel_rfl) ?_
 rw [zb2] at h
 refine adv (ok X) 7 [] pT (by kernel_rfl) ?_
 refine lp (ok X) (zcy (zb2 n) a0) (fun (x1 : (Int × (List z0h))) => ⟨31, 0, [(1, [xP 0 0]), (2, [xP 1 0]), (3, [xP 2 0]), (4, [xI x1.1])], [oB 100 (bs (z5x a0)), oB 91 [.pv (.int .i64 0), .pv (.int .i64 0), .pv (.int .i64 0), .emp], oB 91 [.pv (.int .i64 a0.Kind), .pv (.int .i64 a0.Num), .pv (.int .i64 a0.Var), .row 3], oR true 91 4 (List.map z14 x1.2)]⟩) (fun (j1 : (List z0h)) => ⟨31, 0, [(2, [xP 1 0]), (3, [xP 2 0])], [none, oB 91 [.pv (.int .i64 0), .pv (.int .i64 0), .pv (.int .i64 0), .emp], oB 91 [.pv (.int .i64 a0.Kind), .pv (.int .i64 a0.Num), .pv (.int .i64 a0.Var), .row 3], oR true 91 4 (List.map z14 j1)]⟩) zvk (0, []) (fun _ => ⟨_, _, _, _, rfl⟩) h (by kernel_rfl) (fun x1 o h => ?_) (fun r' h => ?_) (fun j1 h => ?_)
 ·unfold zcy at h
  refine adv (ok X) 3 [.i (a0.Kids.length : Int)] (pA (lm z43 a0.Kids) pT) (by kernel_rfl) ?_
  rcases iteE h with ⟨k1, h⟩ | ⟨k1, h⟩
  ·obtain ⟨v1, k2, h⟩ := z07 h
   obtain ⟨v2, k3, h⟩ := z07 h
   obtain ⟨v3, k4, h⟩ := z07 h
   obtain rfl := retE h
   exact fin (ok X) 7 [.b true, .o [0, 1, 2, 3, 4, 5, 6, 7, 8, 9, 10, 11], .e (z5x v1), .c (z9s v2), .bl (List.map z14 [v2]), .l (List.map z14 v3)] (pA k1 (pA (ixr z7u k2) (pA (ih_l04_Expr _ _ k3) (pA (blc (e := z14) (x := v2) (z90 _).symm (bl0 z14)) (pA (apm (L := x1.2) (M := [v2]) zb6 k4) pT))))) (by kernel_rfl)
  ·obtain rfl := retE h
   exact fin (ok X) 2 [.b false] (pA k1 pT) (by kernel_rfl)
 ·cases h
 ·obtain rfl := retE h
  exact fin (ok X) 3 [] pT (by kernel_rfl)

theorem zm4 : ∀ n : Nat, (∀ (a0 : z34) (r : z0h), zb2 n a0 = some r → Cv Tryz.prog (GX X) 28 [.agg (bs (z5x a0))] (z9s r))
 | 0 => (fun _ _ h => by rw [zb2] at h; cases h)
 | n + 1 => by
  have ih := zm4 n
  exact zvs ih

theorem zlu {a0 : z34} {r : z0h} (h : zkk a0 = some r) : Cv Tryz.prog (GX X) 28 [.agg (bs (z5x a0))] (z9s r) := by
 obtain ⟨n, hn⟩ := unfE h
 exact (zm4 n) _ _ hn

theorem zs7 {n : Nat} (ih_l04_stmts : ∀ (a0 : (List z0v)) (r : (List z09)), z8j n a0 = some r → Cv Tryz.prog (GX X) 13 [xL (List.map z19 a0)] (z8s r)) (a0 : (List z0v)) (r : (List z09)) (h : z8j (n + 1) a0 = some r) : Cv Tryz.prog (GX X) 13 [xL (List.map z19 a0)] (z8s r) := by
 refine Cs.toV (?_ : Cs Tryz.prog (GX X) 13 [xL (List.map z19 a0)] [] (z8s r) (znf r)) (by kernel_rfl)
 refine fnT (cx := cx X) Tryz.f13 Tryz.call13 Tryz.func13 (by kernel_rfl) ?_
 rw [z8j] at h
 refine adv (ok X) 7 [] pT (by kernel_rfl) ?_
 refine lp (ok X) (zby (z8j n) a0) (fun (x1 : (Int × (List z09))) => ⟨85, 0, [(0, [xL (List.map z19 a0)]), (3, [xR 0]), (4, [xI x1.1])], [oR true 96 20 (List.map z1g x1.2)]⟩) (fun (j1 : (List z09)) => ⟨85, 0, [(3, [xR 0])], [oR true 96 20 (List.map z1g j1)]⟩) zng (0, []) (fun _ => ⟨_, _, _, _, rfl⟩) h (by kernel_rfl) (fun x1 o h => ?_) (fun r' h => ?_) (fun j1 h => ?_)
 ·unfold zby at h
  refine adv (ok X) 3 [.i (a0.length : Int)] (pA (lm z19 a0) pT) (by kernel_rfl) ?_
  rcases iteE h with ⟨k1, h⟩ | ⟨k1, h⟩
  ·obtain ⟨v1, k2, h⟩ := z07 h
   obtain ⟨v2, k3, h⟩ := z07 h
   obtain ⟨v3, k4, h⟩ := z07 h
   obtain ⟨v4, k5, h⟩ := z07 h
   obtain ⟨v5, k6, h⟩ := z07 h
   obtain ⟨v6, k7, h⟩ := z07 h
   refine adv (ok X) 11 [.b true, .e (z7g v1), .o [0, 1, 2, 3, 4, 5, 6, 7, 8, 9, 10, 11, 12, 13, 14, 15, 16, 17, 18, 19, 20, 21, 22, 23, 24, 25, 26, 27, 28, 29, 30, 31], .c (z9s v2), .c (z9s v3), .c (z9s v4), .c (z8s v5), .c (z8s v6)] (pA k1 (pA (ixr ze7 k2) (pA (zlu (X := X) k3) (pA (zlu (X := X) k4) (pA (zlu (X := X) k5) (pA (ih_l04_stmts _ _ k6) (pA (ih_l04_stmts _ _ k7) pT))))))) (by kernel_rfl) ?_
   refine lp (ok X) (zbx (z8j n) v1) (fun (x2 : (Int × (List z2i))) => ⟨85, 0, [(0, [xL (List.map z19 a0)]), (3, [xR 0]), (4, [xI x1.1]), (5, [xP 1 0]), (6, [xP 2 0]), (7, [xI x2.1])], [oR true 96 20 (List.map z1g x1.2), oB 105 (bs (z7g v1)), oB 96 [.pv (.int .i64 v1.Kind), .pv (.int .i64 v1.Var), .pv (.int .i64 v1.Chan), .pv (.int .i64 v1.Tag), .pv (.int .i64 v2.Kind), .pv (.int .i64 v2.Num), .pv (.int .i64 v2.Var), .pv (.sl (List.map z14 v2.Kids)), .pv (.int .i64 v1.C.Op), .pv (.int .i64 v3.Kind), .pv (.int .i64 v3.Num), .pv (.int .i64 v3.Var), .pv (.sl (List.map z14 v3.Kids)), .pv (.int .i64 v4.Kind), .pv (.int .i64 v4.Num), .pv (.int .i64 v4.Var), .pv (.sl (List.map z14 v4.Kids)), .pv (.sl (List.map z1g v5)), .pv (.sl (List.map z1g v6)), .row 3], oR true 110 3 (List.map z2o x2.2)]⟩) (fun (j2 : (List z2i)) => ⟨85, 0, [(0, [xL (List.map z19 a0)]), (3, [xR 0]), (4, [xI x1.1]), (6, [xP 2 0])], [oR true 96 20 (List.map z1g x1.2), none, oB 96 [.pv (.int .i64 v1.Kind), .pv (.int .i64 v1.Var), .pv (.int .i64 v1.Chan), .pv (.int .i64 v1.Tag), .pv (.int .i64 v2.Kind), .pv (.int .i64 v2.Num), .pv (.int .i64 v2.Var), .pv (.sl (List.map z14 v2.Kids)), .pv (.int .i64 v1.C.Op), .pv (.int .i64 v3.Kind), .pv (.int .i64 v3.Num), .pv (.int .i64 v3.Var), .pv (.sl (List.map z14 v3.Kids)), .pv (.int .i64 v4.Kind), .pv (.int .i64 v4.Num), .pv (.int .i64 v4.Var), .pv (.sl (List.map z14 v4.Kids)), .pv (.sl (List.map z1g v5)), .pv (.sl (List.map z1g v6)), .row 3], oR true 110 3 (List.map z2o j2)]⟩) zng (0, []) (fun _ => ⟨_, _, _, _, rfl⟩) h (by kernel_rfl) (fun x2 o h => ?_) (fun r' h => ?_) (fun j2 h => ?_)
   ·unfold zbx at h
    refine adv (ok X) 3 [.i (v1.Arms.length : Int)] (pA (lm z3s v1.Arms) pT) (by kernel_rfl) ?_
    rcases iteE h with ⟨k8, h⟩ | ⟨k8, h⟩
    ·obtain ⟨v7, k9, h⟩ := z07 h
     obtain ⟨v8, k10, h⟩ := z07 h
     obtain ⟨v9, k11, h⟩ := z07 h
     obtain rfl := retE h
     exact fin (ok X) 7 [.b true, .o [0, 1, 2, 3, 4, 5, 6, 7, 8, 9, 10, 11, 12, 13, 14, 15, 16, 17, 18, 19, 20, 21, 22, 23, 24, 25], .e (zhc v7), .e (zhc v7), .e (zhc v7), .c (z8s v8), .bl (List.map z2o [(z2i.mk v7.Tag v7.Var v8)]), .l (List.map z2o v9)] (pA k8 (pA (ixr zbv k9) (pA (ixr zbv k9) (pA (ixr zbv k9) (pA (ih_l04_stmts _ _ k10) (pA (blc (e := z2o) (x := (z2i.mk v7.Tag v7.Var v8)) (zdb _).symm (bl0 z2o)) (pA (apm (L := x2.2) (M := [(z2i.mk v7.Tag v7.Var v8)]) zha k11) pT))))))) (by kernel_rfl)
    ·obtain rfl := retE h
     exact fin (ok X) 2 [.b false] (pA k8 pT) (by kernel_rfl)
   ·cases h
   ·obtain ⟨v10, k12, h⟩ := z07 h
    obtain rfl := retE h
    exact fin (ok X) 3 [.z (.fz 3), .bl (List.map z1g [(z09.mk v1.Kind v1.Var v1.Chan v1.Tag v2 (z4y.mk v1.C.Op v3 v4) v5 v6 j2)]), .l (List.map z1g v10)] (pA (blc (e := z1g) (x := (z09.mk v1.Kind v1.Var v1.Chan v1.Tag v2 (z4y.mk v1.C.Op v3 v4) v5 v6 j2)) (zcb _).symm (bl0 z1g)) (pA (apm (L := x1.2) (M := [(z09.mk v1.Kind v1.Var v1.Chan v1.Tag v2 (z4y.mk v1.C.Op v3 v4) v5 v6 j2)]) zgw k12) pT)) (by kernel_rfl)
  ·obtain rfl := retE h
   exact fin (ok X) 2 [.b false] (pA k1 pT) (by kernel_rfl)
 ·cases h
 ·obtain rfl := retE h
  exact fin (ok X) 3 [] pT (by kernel_rfl)

theorem zky : ∀ n : Nat, (∀ (a0 : (List z0v)) (r : (List z09)), z8j n a0 = some r → Cv Tryz.prog (GX X) 13 [xL (List.map z19 a0)] (z8s r))
 | 0 => (fun _ _ h => by rw [z8j] at h; cases h)
 | n + 1 => by
  have ih := zky n
  exact zs7 ih

theorem zs8 {a0 : (List z0v)} {r : (List z09)} (h : znh a0 = some r) : Cv Tryz.prog (GX X) 13 [xL (List.map z19 a0)] (z8s r) := by
 obtain ⟨n, hn⟩ := unfE h
 exact (zky n) _ _ hn

theorem zvt {a0 : z2k} {r : z10} (h : zkl a0 = some r) : Cv Tryz.prog (GX X) 6 [.agg (bs (z25 a0))] (zi7 r) := by
 refine Cs.toV (?_ : Cs Tryz.prog (GX X) 6 [.agg (bs (z25 a0))] [] (zi7 r) (zoj r)) (by kernel_rfl)
 refine fnT (cx := cx X) Tryz.f6 Tryz.call6 Tryz.func6 (by kernel_rfl) ?_
 unfold zkl at h
 refine adv (ok X) 7 [] pT (by kernel_rfl) ?_
 refine lp (ok X) (zd0 a0) (fun (x1 : (Int × (List z0m))) => ⟨84, 0, [(1, [xP 0 0]), (2, [xP 1 0]), (3, [xP 2 0]), (4, [xI x1.1])], [oB 25 (bs (z25 a0)), oB 31 [.emp, .emp], oB 31 [.row 3, .emp], oR true 46 6 (List.map z04 x1.2)]⟩) (fun (j1 : (List z0m)) => ⟨84, 0, [(1, [xP 0 0]), (2, [xP 1 0]), (3, [xP 2 0])], [oB 25 (bs (z25 a0)), oB 31 [.emp, .emp], oB 31 [.row 3, .emp], oR true 46 6 (List.map z04 j1)]⟩) zlm (0, []) (fun _ => ⟨_, _, _, _, rfl⟩) h (by kernel_rfl) (fun x1 o h => ?_) (fun r' h => ?_) (fun j1 h => ?_)
 ·unfold zd0 at h
  refine adv (ok X) 3 [.i (a0.Chans.length : Int)] (pA (lm z1n a0.Chans) pT) (by kernel_rfl) ?_
  rcases iteE h with ⟨k1, h⟩ | ⟨k1, h⟩
  ·obtain ⟨v1, k2, h⟩ := z07 h
   refine adv (ok X) 11 [.b true, .e (z1n v1)] (pA k1 (pA (ixm z1n k2) pT)) (by kernel_rfl) ?_
   refine lp (ok X) (zcz v1) (fun (x2 : (Int × (List (List Int)))) => ⟨84, 0, [(1, [xP 0 0]), (2, [xP 1 0]), (3, [xP 2 0]), (4, [xI x1.1]), (5, [xP 4 0]), (6, [xP 5 0]), (7, [xI x2.1])], [oB 25 (bs (z25 a0)), oB 31 [.emp, .emp], oB 31 [.row 3, .emp], oR true 46 6 (List.map z04 x1.2), oB 55 (bs (z1n v1)), oB 46 [.pv (.int .i64 v1.Kind), .pv (.int .i64 v1.Size), .pv (.int .i64 v1.From), .pv (.int .i64 v1.To), .pv (.int .i64 v1.Tags), .row 6], oR true 56 1 (List.map z82 x2.2)]⟩) (fun (j2 : (List (List Int))) => ⟨84, 0, [(1, [xP 0 0]), (2, [xP 1 0]), (3, [xP 2 0]), (4, [xI x1.1]), (6, [xP 5 0])], [oB 25 (bs (z25 a0)), oB 31 [.emp, .emp], oB 31 [.row 3, .emp], oR true 46 6 (List.map z04 x1.2), none, oB 46 [.pv (.int .i64 v1.Kind), .pv (.int .i64 v1.Size), .pv (.int .i64 v1.From), .pv (.int .i64 v1.To), .pv (.int .i64 v1.Tags), .row 6], oR true 56 1 (List.map z82 j2)]⟩) zlm (0, []) (fun _ => ⟨_, _, _, _, rfl⟩) h (by kernel_rfl) (fun x2 o h => ?_) (fun r' h => ?_) (fun j2 h => ?_)
   ·unfold zcz at h
    refine adv (ok X) 3 [.i (v1.Rule.length : Int)] (pA (lm z82 v1.Rule) pT) (by kernel_rfl) ?_
    rcases iteE h with ⟨k3, h⟩ | ⟨k3, h⟩
    ·obtain ⟨v2, k4, h⟩ := z07 h
     obtain ⟨v3, k5, h⟩ := z07 h
     obtain ⟨v4, k6, h⟩ := z07 h
     obtain rfl := retE h
     exact fin (ok X) 7 [.b true, .o [0, 1, 2, 3, 4, 5, 6, 7, 8, 9, 10, 11, 12], .e [.sl (List.map zj6 v2)], .cp (List.map zj6 v3), .l (List.map z82 v4)] (pA k3 (pA (ixm z82 k4) (pA (apm zxp k5) (pA (apm (L := x2.2) (M := [v3]) zvo k6) pT)))) (by kernel_rfl)
    ·obtain rfl := retE h
     exact fin (ok X) 2 [.b false] (pA k3 pT) (by kernel_rfl)
   ·cases h
   ·obtain ⟨v5, k7, h⟩ := z07 h
    obtain rfl := retE h
    exact fin (ok X) 3 [.z (.fz 6), .l (List.map z04 v5)] (pA (apm (L := x1.2) (M := [(z0m.mk v1.Kind v1.Size v1.From v1.To v1.Tags j2)]) zgy k7) pT) (by kernel_rfl)
  ·obtain rfl := retE h
   exact fin (ok X) 2 [.b false] (pA k1 pT) (by kernel_rfl)
 ·cases h
 ·refine adv (ok X) 3 [] pT (by kernel_rfl) ?_
  refine lp (ok X) (zd1 a0) (fun (x3 : (Int × (List z0w))) => ⟨84, 0, [(1, [xP 0 0]), (2, [xP 1 0]), (3, [xP 2 0]), (8, [xI x3.1])], [oB 25 (bs (z25 a0)), oB 31 [.emp, .emp], oB 31 [.row 3, .row 4], oR true 46 6 (List.map z04 j1), oR true 51 2 (List.map z0b x3.2)]⟩) (fun (j3 : (List z0w)) => ⟨84, 0, [(2, [xP 1 0]), (3, [xP 2 0])], [none, oB 31 [.emp, .emp], oB 31 [.row 3, .row 4], oR true 46 6 (List.map z04 j1), oR true 51 2 (List.map z0b j3)]⟩) zlm (0, []) (fun _ => ⟨_, _, _, _, rfl⟩) h (by kernel_rfl) (fun x3 o h => ?_) (fun r' h => ?_) (fun j3 h => ?_)
  ·unfold zd1 at h
   refine adv (ok X) 3 [.i (a0.Procs.length : Int)] (pA (lm z36 a0.Procs) pT) (by kernel_rfl) ?_
   rcases iteE h with ⟨k8, h⟩ | ⟨k8, h⟩
   ·obtain ⟨v6, k9, h⟩ := z07 h
    obtain ⟨v7, k10, h⟩ := z07 h
    obtain ⟨v8, k11, h⟩ := z07 h
    obtain rfl := retE h
    exact fin (ok X) 7 [.b true, .o [0, 1, 2, 3, 4, 5, 6, 7, 8, 9, 10, 11, 12, 13, 14, 15, 16, 17, 18, 19], .e (z36 v6), .e (z36 v6), .c (z8s v7), .l (List.map z0b v8)] (pA k8 (pA (ixm z36 k9) (pA (ixm z36 k9) (pA (zs8 (X := X) k10) (pA (apm (L := x3.2) (M := [(z0w.mk v6.Vars v7)]) zgz k11) pT))))) (by kernel_rfl)
   ·obtain rfl := retE h
    exact fin (ok X) 2 [.b false] (pA k8 pT) (by kernel_rfl)
  ·cases h
  ·obtain rfl := retE h
   exact fin (ok X) 3 [] pT (by kernel_rfl)

theorem zvu {n : Nat} (ih_r04_expr : ∀ (a0 : z34) (a1 : Int) (r : Bool), zab n a0 a1 = some r → Cv Tryz.prog (GX X) 54 [.agg (bs (z5x a0)), xI a1] (z6y r)) (a0 : z34) (a1 : Int) (r : Bool) (h : zab (n + 1) a0 a1 = some r) : Cv Tryz.prog (GX X) 54 [.agg (bs (z5x a0)), xI a1] (z6y r) := by
 refine Cs.toV (?_ : Cs Tryz.prog (GX X) 54 [.agg (bs (z5x a0)), xI a1] [] (z6y r) (zvl r)) (by kernel_rfl)
 refine fnT (cx := cx X) Tryz.f54 Tryz.call54 Tryz.func54 (by kernel_rfl) ?_
 rw [zab] at h
 rcases iteE h with ⟨k1, h⟩ | ⟨k1, h⟩
 ·refine adv (ok X) 8 [.b true] (pA k1 pT) (by kernel_rfl) ?_
  refine jn (ok X) 1 (fun (j1 : Bool) => ⟨117, 0, [(4, [xB j1])], []⟩) h (fun j1 h => ?_) (fun j1 h => ?_)
  ·rcases iteE h with ⟨k2, h⟩ | ⟨k2, h⟩
   ·rcases iteE h with ⟨k3, h⟩ | ⟨k3, h⟩
    ·rcases iteE h with ⟨k4, h⟩ | ⟨k4, h⟩
     ·obtain rfl := retE h
      exact fin (ok X) 1 (bT 11 [.i (a0.Kids.length : Int), .b true, .b true]) (pR 4 k2 (pR 4 k3 (pR 3 k4 (pA (lm z43 a0.Kids) (pA k4 (pA k4 pT)))))) (by kernel_rfl)
     ·obtain rfl := retE h
      exact fin (ok X) 1 (bT 8 (bF 5 [])) (pR 4 k2 (pR 4 k3 (pR 5 k4 pT))) (by kernel_rfl)
    ·obtain rfl := retE h
     exact fin (ok X) 1 (bT 4 (bF 9 [])) (pR 4 k2 (pR 4 k3 (pR 5 ff pT))) (by kernel_rfl)
   ·obtain rfl := retE h
    exact fin (ok X) 1 (bF 13 []) (pR 4 k2 (pR 9 ff pT)) (by kernel_rfl)
  ·obtain rfl := retE h
   exact fin (ok X) 1 [] pT (by kernel_rfl)
 ·refine adv (ok X) 9 [.b false] (pA k1 pT) (by kernel_rfl) ?_
  rcases iteE h with ⟨k5, h⟩ | ⟨k5, h⟩
  ·refine adv (ok X) 2 [.b true] (pA k5 pT) (by kernel_rfl) ?_
   refine jn (ok X) 1 (fun (j2 : Bool) => ⟨117, 0, [(4, [xB j2])], []⟩) h (fun j2 h => ?_) (fun j2 h => ?_)
   ·rcases iteE h with ⟨k6, h⟩ | ⟨k6, h⟩
    ·rcases iteE h with ⟨k7, h⟩ | ⟨k7, h⟩
     ·rcases iteE h with ⟨k8, h⟩ | ⟨k8, h⟩
      ·obtain rfl := retE h
       exact fin (ok X) 1 (bT 12 [.i (a0.Kids.length : Int), .b true, .b true]) (pR 4 k6 (pR 5 k7 (pR 3 k8 (pA (lm z43 a0.Kids) (pA k8 (pA k8 pT)))))) (by kernel_rfl)
      ·obtain rfl := retE h
       exact fin (ok X) 1 (bT 9 (bF 5 [])) (pR 4 k6 (pR 5 k7 (pR 5 k8 pT))) (by kernel_rfl)
     ·obtain rfl := retE h
      exact fin (ok X) 1 (bT 4 (bF 10 [])) (pR 4 k6 (pR 5 k7 (pR 5 ff pT))) (by kernel_rfl)
    ·obtain rfl := retE h
     exact fin (ok X) 1 (bF 14 []) (pR 4 k6 (pR 10 ff pT)) (by kernel_rfl)
   ·obtain rfl := retE h
    exact fin (ok X) 1 [] pT (by kernel_rfl)
  ·refine adv (ok X) 3 [.b false] (pA k5 pT) (by kernel_rfl) ?_
   rcases iteE h with ⟨k9, h⟩ | ⟨k9, h⟩
   ·refine adv (ok X) 2 [.b true] (pA k9 pT) (by kernel_rfl) ?_
    refine jn (ok X) 1 (fun (j3 : Bool) => ⟨117, 0, [(4, [xB j3])], []⟩) h (fun j3 h => ?_) (fun j3 h => ?_)
    ·rcases iteE h with ⟨k10, h⟩ | ⟨k10, h⟩
     ·rcases iteE h with ⟨k11, h⟩ | ⟨k11, h⟩
      ·rcases iteE h with ⟨k12, h⟩ | ⟨k12, h⟩
       ·obtain ⟨v1, k13, h⟩ := z07 h
        obtain ⟨v2, k14, h⟩ := z07 h
        obtain rfl := retE h
        exact fin (ok X) 1 (bT 7 (.i (a0.Kids.length : Int) :: bT 5 (.e (z5x v1) :: bT 3 [.c (z6y v2), .b true]))) (pR 4 k10 (pR 3 k11 (pA (lm z43 a0.Kids) (pA k11 (pA k11 (pR 3 k12 (pA (ixr z7u k13) (pR 3 k12 (pA (ih_r04_expr _ _ _ k14) (pA k12 pT)))))))))) (by kernel_rfl)
       ·obtain rfl := retE h
        exact fin (ok X) 1 (bT 7 (.i (a0.Kids.length : Int) :: .b true :: .b true :: bF 7 [])) (pR 4 k10 (pR 3 k11 (pA (lm z43 a0.Kids) (pA k11 (pA k11 (pR 7 k12 pT)))))) (by kernel_rfl)
      ·obtain rfl := retE h
       exact fin (ok X) 1 (bT 4 (bF 12 [])) (pR 4 k10 (pR 5 k11 (pR 7 ff pT))) (by kernel_rfl)
     ·obtain rfl := retE h
      exact fin (ok X) 1 (bF 16 []) (pR 4 k10 (pR 12 ff pT)) (by kernel_rfl)
    ·obtain rfl := retE h
     exact fin (ok X) 1 [] pT (by kernel_rfl)
   ·refine adv (ok X) 2 [.b false] (pA k9 pT) (by kernel_rfl) ?_
    refine jn (ok X) 1 (fun (j4 : Bool) => ⟨117, 0, [(1, [xI a1]), (2, [xP 0 0]), (78, [xB j4])], [oB 100 (bs (z5x a0))]⟩) h (fun j4 h => ?_) (fun j4 h => ?_)
    ·rcases iteE h with ⟨k15, h⟩ | ⟨k15, h⟩
     ·obtain rfl := retE h
      exact fin (ok X) 1 (bT 4 []) (pR 4 k15 pT) (by kernel_rfl)
     ·obtain rfl := retE h
      exact fin (ok X) 1 (bF 4 []) (pR 4 k15 pT) (by kernel_rfl)
    ·rcases iteE h with ⟨k16, h⟩ | ⟨k16, h⟩
     ·refine adv (ok X) 2 [.b true] (pA k16 pT) (by kernel_rfl) ?_
      refine jn (ok X) 1 (fun (j5 : Bool) => ⟨117, 0, [(4, [xB j5])], []⟩) h (fun j5 h => ?_) (fun j5 h => ?_)
      ·rcases iteE h with ⟨k17, h⟩ | ⟨k17, h⟩
       ·rcases iteE h with ⟨k18, h⟩ | ⟨k18, h⟩
        ·rcases iteE h with ⟨k19, h⟩ | ⟨k19, h⟩
         ·obtain ⟨v3, k20, h⟩ := z07 h
          obtain ⟨v4, k21, h⟩ := z07 h
          rcases iteE h with ⟨k22, h⟩ | ⟨k22, h⟩
          ·obtain ⟨v5, k23, h⟩ := z07 h
           obtain ⟨v6, k24, h⟩ := z07 h
           obtain rfl := retE h
           exact fin (ok X) 1 (bT 7 (.i (a0.Kids.length : Int) :: bT 5 (.e (z5x v3) :: bT 3 (.c (z6y v4) :: bT 4 (.e (z5x v5) :: bT 3 [.c (z6y v6), .b true]))))) (pR 4 k17 (pR 3 k18 (pA (lm z43 a0.Kids) (pA k18 (pA k18 (pR 3 k19 (pA (ixr z7u k20) (pR 3 k19 (pA (ih_r04_expr _ _ _ k21) (pA k19 (pR 3 k22 (pA (ixr z7u k23) (pR 3 k22 (pA (ih_r04_expr _ _ _ k24) (pA k22 pT))))))))))))))) (by kernel_rfl)
          ·obtain rfl := retE h
           exact fin (ok X) 1 (bT 7 (.i (a0.Kids.length : Int) :: bT 5 (.e (z5x v3) :: bT 3 (.c (z6y v4) :: .b true :: bF 7 [])))) (pR 4 k17 (pR 3 k18 (pA (lm z43 a0.Kids) (pA k18 (pA k18 (pR 3 k19 (pA (ixr z7u k20) (pR 3 k19 (pA (ih_r04_expr _ _ _ k21) (pA k19 (pR 7 k22 pT))))))))))) (by kernel_rfl)
         ·obtain rfl := retE h
          exact fin (ok X) 1 (bT 7 (.i (a0.Kids.length : Int) :: .b true :: .b true :: bF 14 [])) (pR 4 k17 (pR 3 k18 (pA (lm z43 a0.Kids) (pA k18 (pA k18 (pR 7 k19 (pR 7 ff pT))))))) (by kernel_rfl)
        ·obtain rfl := retE h
         exact fin (ok X) 1 (bT 4 (bF 19 [])) (pR 4 k17 (pR 5 k18 (pR 14 ff pT))) (by kernel_rfl)
       ·obtain rfl := retE h
        exact fin (ok X) 1 (bF 23 []) (pR 4 k17 (pR 19 ff pT)) (by kernel_rfl)
      ·obtain rfl := retE h
       exact fin (ok X) 1 [] pT (by kernel_rfl)
     ·obtain rfl := retE h
      exact fin (ok X) 6 [.b false] (pA k16 pT) (by kernel_rfl)

theorem zm5 : ∀ n : Nat, (∀ (a0 : z34) (a1 : Int) (r : Bool), zab n a0 a1 = some r → Cv Tryz.prog (GX X) 54 [.agg (bs (z5x a0)), xI a1] (z6y r))
 | 0 => (fun _ _ _ h => by rw [zab] at h; cases h)
 | n + 1 => by
  have ih := zm5 n
  exact zvu ih

theorem zd6 {a0 : z34} {a1 : Int} {r : Bool} (h : zi8 a0 a1 = some r) : Cv Tryz.prog (GX X) 54 [.agg (bs (z5x a0)), xI a1] (z6y r) := by
 obtain ⟨n, hn⟩ := unfE h
 exact (zm5 n) _ _ _ hn

theorem z8q {a0 : z34} {r : Bool} (h : zhk a0 = some r) : Cv Tryz.prog (GX X) 56 [.agg (bs (z5x a0))] (z7w r) := by
 refine Cs.toV (?_ : Cs Tryz.prog (GX X) 56 [.agg (bs (z5x a0))] [] (z7w r) (z003 r)) (by kernel_rfl)
 refine fnT (cx := cx X) Tryz.f56 Tryz.call56 Tryz.func56 (by kernel_rfl) ?_
 unfold zhk at h
 rcases iteE h with ⟨k1, h⟩ | ⟨k1, h⟩
 ·rcases iteE h with ⟨k2, h⟩ | ⟨k2, h⟩
  ·rcases iteE h with ⟨k3, h⟩ | ⟨k3, h⟩
   ·obtain rfl := retE h
    exact fin (ok X) 5 (bT 11 [.i (a0.Kids.length : Int), .b true, .b true]) (pR 4 k1 (pR 4 k2 (pR 3 k3 (pA (lm z43 a0.Kids) (pA k3 (pA k3 pT)))))) (by kernel_rfl)
   ·obtain rfl := retE h
    exact fin (ok X) 5 (bT 8 (bF 5 [])) (pR 4 k1 (pR 4 k2 (pR 5 k3 pT))) (by kernel_rfl)
  ·obtain rfl := retE h
   exact fin (ok X) 5 (bT 4 (bF 9 [])) (pR 4 k1 (pR 4 k2 (pR 5 ff pT))) (by kernel_rfl)
 ·obtain rfl := retE h
  exact fin (ok X) 5 (bF 13 []) (pR 4 k1 (pR 9 ff pT)) (by kernel_rfl)

theorem zfr {a0 : z8d} {r : Bool} (h : zbz a0 = some r) : Cv Tryz.prog (GX X) 55 [.agg (bs (zee a0))] (zc0 r) := by
 refine Cs.toV (?_ : Cs Tryz.prog (GX X) 55 [.agg (bs (zee a0))] [] (zc0 r) (zqr r)) (by kernel_rfl)
 refine fnT (cx := cx X) Tryz.f55 Tryz.call55 Tryz.func55 (by kernel_rfl) ?_
 unfold zbz at h
 rcases iteE h with ⟨k1, h⟩ | ⟨k1, h⟩
 ·obtain ⟨v1, k2, h⟩ := z07 h
  rcases iteE h with ⟨k3, h⟩ | ⟨k3, h⟩
  ·obtain ⟨v2, k4, h⟩ := z07 h
   obtain rfl := retE h
   exact fin (ok X) 5 (bT 3 (.c (z7w v1) :: bT 4 [.c (z7w v2), .b true])) (pR 3 k1 (pA (z8q (X := X) k2) (pA k1 (pR 3 k3 (pA (z8q (X := X) k4) (pA k3 pT)))))) (by kernel_rfl)
  ·obtain rfl := retE h
   exact fin (ok X) 5 (bT 3 (.c (z7w v1) :: .b true :: bF 4 [])) (pR 3 k1 (pA (z8q (X := X) k2) (pA k1 (pR 4 k3 pT)))) (by kernel_rfl)
 ·obtain rfl := retE h
  exact fin (ok X) 5 (bF 8 []) (pR 4 k1 (pR 4 ff pT)) (by kernel_rfl)

theorem zd7 {a0 : z8d} {a1 : Int} {r : Bool} (h : zgo a0 a1 = some r) : Cv Tryz.prog (GX X) 57 [.agg (bs (zee a0)), xI a1] (zaq r) := by
 refine Cs.toV (?_ : Cs Tryz.prog (GX X) 57 [.agg (bs (zee a0)), xI a1] [] (zaq r) (zvm r)) (by kernel_rfl)
 refine fnT (cx := cx X) Tryz.f57 Tryz.call57 Tryz.func57 (by kernel_rfl) ?_
 unfold zgo at h
 rcases iteE h with ⟨k1, h⟩ | ⟨k1, h⟩
 ·rcases iteE h with ⟨k2, h⟩ | ⟨k2, h⟩
  ·obtain ⟨v1, k3, h⟩ := z07 h
   rcases iteE h with ⟨k4, h⟩ | ⟨k4, h⟩
   ·obtain ⟨v2, k5, h⟩ := z07 h
    obtain rfl := retE h
    exact fin (ok X) 5 (bT 8 (.c (z6y v1) :: bT 5 [.c (z6y v2), .b true])) (pR 4 k1 (pR 4 k2 (pA (zd6 (X := X) k3) (pA k2 (pR 4 k4 (pA (zd6 (X := X) k5) (pA k4 pT))))))) (by kernel_rfl)
   ·obtain rfl := retE h
    exact fin (ok X) 5 (bT 8 (.c (z6y v1) :: .b true :: bF 5 [])) (pR 4 k1 (pR 4 k2 (pA (zd6 (X := X) k3) (pA k2 (pR 5 k4 pT))))) (by kernel_rfl)
  ·obtain rfl := retE h
   exact fin (ok X) 5 (bT 4 (bF 10 [])) (pR 4 k1 (pR 5 k2 (pR 5 ff pT))) (by kernel_rfl)
 ·obtain rfl := retE h
  exact fin (ok X) 5 (bF 14 []) (pR 4 k1 (pR 10 ff pT)) (by kernel_rfl)

theorem zs9 {n : Nat} (ih_r04_stmts : ∀ (a0 : (List z0v)) (a1 : z2k) (a2 : Int) (r : Bool), z5e n a0 a1 a2 = some r → Cv Tryz.prog (GX X) 14 [xL (List.map z19 a0), .agg (bs (z25 a1)), xI a2] (z6a r)) (ih_r04_stmt : ∀ (a0 : z0v) (a1 : z2k) (a2 : Int) (r : Bool), z8o n a0 a1 a2 = some r → Cv Tryz.prog (GX X) 29 [.agg (bs (z7g a0)), .agg (bs (z25 a1)), xI a2] (zd3 r)) (a0 : (List z0v)) (a1 : z2k) (a2 : Int) (r : Bool) (h : z5e (n + 1) a0 a1 a2 = some r) : Cv Tryz.prog (GX X) 14 [xL (List.map z19 a0), .agg (bs (z25 a1)), xI a2] (z6a r) := by
 refine Cs.toV (?_ : Cs Tryz.prog (GX X) 14 [xL (List.map z19 a0), .agg (bs (z25 a1)), xI a2] [] (z6a r) (zni r)) (by kernel_rfl)
 refine fnT (cx := cx X) Tryz.f14 Tryz.call14 Tryz.func14 (by kernel_rfl) ?_
 rw [z5e] at h
 refine adv (ok X) 5 [] pT (by kernel_rfl) ?_
 refine lp (ok X) (zc1 (z5e n) (z8o n) a0 a1 a2) (fun (x1 : Int) => ⟨22, 0, [(0, [xL (List.map z19 a0)]), (2, [xI a2]), (4, [xP 0 0]), (7, [xI x1])], [oB 25 (bs (z25 a1))]⟩) (fun (j1 : Unit) => ⟨22, 0, [], []⟩) zs3 0 (fun _ => ⟨_, _, _, _, rfl⟩) h (by kernel_rfl) (fun x1 o h => ?_) (fun r' h => ?_) (fun j1 h => ?_)
 ·unfold zc1 at h
  refine adv (ok X) 3 [.i (a0.length : Int)] (pA (lm z19 a0) pT) (by kernel_rfl) ?_
  rcases iteE h with ⟨k1, h⟩ | ⟨k1, h⟩
  ·obtain ⟨v1, k2, h⟩ := z07 h
   obtain ⟨v2, k3, h⟩ := z07 h
   refine adv (ok X) 6 [.b true, .o [0, 1, 2, 3, 4, 5, 6, 7], .e (z7g v1), .c (zd3 v2)] (pA k1 (pA (ixr ze7 k2) (pA (ih_r04_stmt _ _ _ _ k3) pT))) (by kernel_rfl) ?_
   rcases iteE h with ⟨k4, h⟩ | ⟨k4, h⟩
   ·obtain rfl := retE h
    exact fin (ok X) 4 [.b true] (pA k4 pT) (by kernel_rfl)
   ·obtain rfl := retE h
    exact fin (ok X) 4 [.b false] (pA k4 pT) (by kernel_rfl)
  ·obtain rfl := retE h
   exact fin (ok X) 2 [.b false] (pA k1 pT) (by kernel_rfl)
 ·obtain rfl := retE h
  kernel_rfl
 ·obtain rfl := retE h
  exact fin (ok X) 3 [] pT (by kernel_rfl)
end Go.Proofs.YtgmbfjcidiedfaaGreatDoor.Abs
/- Gw: the functions are these. -/
namespace Go.Proofs.YtgmbfjcidiedfaaGreatDoor.Abs
open Go Go.RowKit
set_option linter.unusedVariables false
set_option maxRecDepth 100000
set_option maxHeartbeats 4000000
variable {X : EV}
theorem zvv {n : Nat} (ih_r04_stmts : ∀ (a0 : (List z0v)) (a1 : z2k) (a2 : Int) (r : Bool), z5e n a0 a1 a2 = some r → Cv Tryz.prog (GX X) 14 [xL (List.map z19 a0), .agg (bs (z25 a1)), xI a2] (z6a r)) (ih_r04_stmt : ∀ (a0 : z0v) (a1 : z2k) (a2 : Int) (r : Bool), z8o n a0 a1 a2 = some r → Cv Tryz.prog (GX X) 29 [.agg (bs (z7g a0)), .agg (bs (z25 a1)), xI a2] (zd3 r)) (a0 : z0v) (a1 : z2k) (a2 : Int) (r : Bool) (h : z8o (n + 1) a0 a1 a2 = some r) : Cv Tryz.prog (GX X) 29 [.agg (bs (z7g a0)), .agg (bs (z25 a1)), xI a2] (zd3 r) := by
 refine Cs.toV (?_ : Cs Tryz.prog (GX X) 29 [.agg (bs (z7g a0)), .agg (bs (z25 a1)), xI a2] [] (zd3 r) (zok r)) (by kernel_rfl)
 refine fnT (cx := cx X) Tryz.f29 Tryz.call29 Tryz.func29 (by kernel_rfl) ?_
 rw [z8o] at h
 obtain ⟨v1, k1, h⟩ := z07 h
 refine adv (ok X) 5 [.e (z36 v1)] (pA (ixm z36 k1) pT) (by kernel_rfl) ?_
 refine jn (ok X) 1 (fun (j1 : Bool) => ⟨358, 0, [(2, [xI a2]), (3, [xP 0 0]), (4, [xP 1 0]), (7, [xI v1.Vars]), (8, [xB j1])], [oB 105 (bs (z7g a0)), oB 25 (bs (z25 a1))]⟩) h (fun j1 h => ?_) (fun j1 h => ?_)
 ·rcases iteE h with ⟨k2, h⟩ | ⟨k2, h⟩
  ·rcases iteE h with ⟨k3, h⟩ | ⟨k3, h⟩
   ·obtain rfl := retE h
    exact fin (ok X) 1 (.i (a0.Body.length : Int) :: bT 3 (.i (a0.Else.length : Int) :: bT 5 [.i (a0.Arms.length : Int), .b true, .b true])) (pA (lm z19 a0.Body) (pR 3 k2 (pA (lm z19 a0.Else) (pA k2 (pA k2 (pR 3 k3 (pA (lm z3s a0.Arms) (pA k3 (pA k3 pT))))))))) (by kernel_rfl)
   ·obtain rfl := retE h
    exact fin (ok X) 1 (.i (a0.Body.length : Int) :: bT 3 (.i (a0.Else.length : Int) :: .b true :: .b true :: bF 5 [])) (pA (lm z19 a0.Body) (pR 3 k2 (pA (lm z19 a0.Else) (pA k2 (pA k2 (pR 5 k3 pT)))))) (by kernel_rfl)
  ·obtain rfl := retE h
   exact fin (ok X) 1 (.i (a0.Body.length : Int) :: bF 10 []) (pA (lm z19 a0.Body) (pR 5 k2 (pR 5 ff pT))) (by kernel_rfl)
 ·refine adv (ok X) 1 [] pT (by kernel_rfl) ?_
  refine jn (ok X) 1 (fun (j2 : Bool) => ⟨358, 0, [(2, [xI a2]), (3, [xP 0 0]), (4, [xP 1 0]), (7, [xI v1.Vars]), (8, [xB j1]), (9, [xB j2])], [oB 105 (bs (z7g a0)), oB 25 (bs (z25 a1))]⟩) h (fun j2 h => ?_) (fun j2 h => ?_)
  ·rcases iteE h with ⟨k4, h⟩ | ⟨k4, h⟩
   ·obtain rfl := retE h
    exact fin (ok X) 1 (bT 5 []) (pR 5 k4 pT) (by kernel_rfl)
   ·obtain rfl := retE h
    exact fin (ok X) 1 (bF 5 []) (pR 5 k4 pT) (by kernel_rfl)
  ·refine adv (ok X) 1 [] pT (by kernel_rfl) ?_
   refine jn (ok X) 1 (fun (j3 : Bool) => ⟨358, 0, [(2, [xI a2]), (3, [xP 0 0]), (4, [xP 1 0]), (7, [xI v1.Vars]), (8, [xB j1]), (9, [xB j2]), (10, [xB j3])], [oB 105 (bs (z7g a0)), oB 25 (bs (z25 a1))]⟩) h (fun j3 h => ?_) (fun j3 h => ?_)
   ·rcases iteE h with ⟨k5, h⟩ | ⟨k5, h⟩
    ·obtain rfl := retE h
     exact fin (ok X) 1 (bT 5 [.i (a1.Chans.length : Int), .b true, .b true]) (pR 5 k5 (pA (lm z1n a1.Chans) (pA k5 (pA k5 pT)))) (by kernel_rfl)
    ·obtain rfl := retE h
     exact fin (ok X) 1 (bF 7 []) (pR 7 k5 pT) (by kernel_rfl)
   ·rcases iteE h with ⟨k6, h⟩ | ⟨k6, h⟩
    ·refine adv (ok X) 8 [.b true] (pA k6 pT) (by kernel_rfl) ?_
     refine jn (ok X) 1 (fun (j4 : Bool) => ⟨358, 0, [(6, [xB j4])], []⟩) h (fun j4 h => ?_) (fun j4 h => ?_)
     ·rcases iteE h with ⟨k7, h⟩ | ⟨k7, h⟩
      ·rcases iteE h with ⟨k8, h⟩ | ⟨k8, h⟩
       ·rcases iteE h with ⟨k9, h⟩ | ⟨k9, h⟩
        ·rcases iteE h with ⟨k10, h⟩ | ⟨k10, h⟩
         ·obtain ⟨v2, k11, h⟩ := z07 h
          rcases iteE h with ⟨k12, h⟩ | ⟨k12, h⟩
          ·obtain ⟨v3, k13, h⟩ := z07 h
           obtain rfl := retE h
           exact fin (ok X) 1 (bT 14 (.c (z6y v2) :: bT 4 [.c (zc0 v3), .b true])) (pA k7 (pA k7 (pR 4 k8 (pR 4 k9 (pR 4 k10 (pA (zd6 (X := X) k11) (pA k10 (pR 3 k12 (pA (zfr (X := X) k13) (pA k12 pT)))))))))) (by kernel_rfl)
          ·obtain rfl := retE h
           exact fin (ok X) 1 (bT 14 (.c (z6y v2) :: .b true :: bF 4 [])) (pA k7 (pA k7 (pR 4 k8 (pR 4 k9 (pR 4 k10 (pA (zd6 (X := X) k11) (pA k10 (pR 4 k12 pT)))))))) (by kernel_rfl)
         ·obtain rfl := retE h
          exact fin (ok X) 1 (bT 10 (bF 9 [])) (pA k7 (pA k7 (pR 4 k8 (pR 4 k9 (pR 5 k10 (pR 4 ff pT)))))) (by kernel_rfl)
        ·obtain rfl := retE h
         exact fin (ok X) 1 (bT 6 (bF 13 [])) (pA k7 (pA k7 (pR 4 k8 (pR 4 k9 (pR 9 ff pT))))) (by kernel_rfl)
       ·obtain rfl := retE h
        exact fin (ok X) 1 (.b true :: .b true :: bF 17 []) (pA k7 (pA k7 (pR 4 k8 (pR 13 ff pT)))) (by kernel_rfl)
      ·obtain rfl := retE h
       exact fin (ok X) 1 (bF 19 []) (pA k7 (pA k7 (pR 17 ff pT))) (by kernel_rfl)
     ·obtain rfl := retE h
      exact fin (ok X) 1 [] pT (by kernel_rfl)
    ·refine adv (ok X) 10 [.b false] (pA k6 pT) (by kernel_rfl) ?_
     rcases iteE h with ⟨k14, h⟩ | ⟨k14, h⟩
     ·refine adv (ok X) 4 [.b true, .b true] (pA k14 (pA k14 pT)) (by kernel_rfl) ?_
      refine jn (ok X) 1 (fun (j5 : Bool) => ⟨358, 0, [(6, [xB j5])], []⟩) h (fun j5 h => ?_) (fun j5 h => ?_)
      ·rcases iteE h with ⟨k15, h⟩ | ⟨k15, h⟩
       ·rcases iteE h with ⟨k16, h⟩ | ⟨k16, h⟩
        ·rcases iteE h with ⟨k17, h⟩ | ⟨k17, h⟩
         ·rcases iteE h with ⟨k18, h⟩ | ⟨k18, h⟩
          ·obtain ⟨v4, k19, h⟩ := z07 h
           rcases iteE h with ⟨k20, h⟩ | ⟨k20, h⟩
           ·obtain ⟨v5, k21, h⟩ := z07 h
            rcases iteE h with ⟨k22, h⟩ | ⟨k22, h⟩
            ·obtain ⟨v6, k23, h⟩ := z07 h
             rcases iteE h with ⟨k24, h⟩ | ⟨k24, h⟩
             ·obtain ⟨v7, k25, h⟩ := z07 h
              obtain rfl := retE h
              exact fin (ok X) 1 (.i (a0.Arms.length : Int) :: bT 26 (.c (z7w v4) :: bT 5 (.c (zaq v5) :: bT 6 (.c (z6a v6) :: bT 6 [.c (z6a v7), .b true])))) (pA (lm z3s a0.Arms) (pR 4 k15 (pR 4 k14 (pA k15 (pA k14 (pA k15 (pR 4 tt (pR 4 k16 (pR 4 k17 (pR 3 k18 (pA (z8q (X := X) k19) (pA k18 (pR 4 k20 (pA (zd7 (X := X) k21) (pA k20 (pR 5 k22 (pA (ih_r04_stmts _ _ _ _ k23) (pA k22 (pR 5 k24 (pA (ih_r04_stmts _ _ _ _ k25) (pA k24 pT))))))))))))))))))))) (by kernel_rfl)
             ·obtain rfl := retE h
              exact fin (ok X) 1 (.i (a0.Arms.length : Int) :: bT 26 (.c (z7w v4) :: bT 5 (.c (zaq v5) :: bT 6 (.c (z6a v6) :: .b true :: bF 6 [])))) (pA (lm z3s a0.Arms) (pR 4 k15 (pR 4 k14 (pA k15 (pA k14 (pA k15 (pR 4 tt (pR 4 k16 (pR 4 k17 (pR 3 k18 (pA (z8q (X := X) k19) (pA k18 (pR 4 k20 (pA (zd7 (X := X) k21) (pA k20 (pR 5 k22 (pA (ih_r04_stmts _ _ _ _ k23) (pA k22 (pR 6 k24 pT))))))))))))))))))) (by kernel_rfl)
            ·obtain rfl := retE h
             exact fin (ok X) 1 (.i (a0.Arms.length : Int) :: bT 26 (.c (z7w v4) :: bT 5 (.c (zaq v5) :: .b true :: bF 12 []))) (pA (lm z3s a0.Arms) (pR 4 k15 (pR 4 k14 (pA k15 (pA k14 (pA k15 (pR 4 tt (pR 4 k16 (pR 4 k17 (pR 3 k18 (pA (z8q (X := X) k19) (pA k18 (pR 4 k20 (pA (zd7 (X := X) k21) (pA k20 (pR 6 k22 (pR 6 ff pT))))))))))))))))) (by kernel_rfl)
           ·obtain rfl := retE h
            exact fin (ok X) 1 (.i (a0.Arms.length : Int) :: bT 26 (.c (z7w v4) :: .b true :: bF 17 [])) (pA (lm z3s a0.Arms) (pR 4 k15 (pR 4 k14 (pA k15 (pA k14 (pA k15 (pR 4 tt (pR 4 k16 (pR 4 k17 (pR 3 k18 (pA (z8q (X := X) k19) (pA k18 (pR 5 k20 (pR 12 ff pT)))))))))))))) (by kernel_rfl)
          ·obtain rfl := retE h
           exact fin (ok X) 1 (.i (a0.Arms.length : Int) :: bT 23 (bF 21 [])) (pA (lm z3s a0.Arms) (pR 4 k15 (pR 4 k14 (pA k15 (pA k14 (pA k15 (pR 4 tt (pR 4 k16 (pR 4 k17 (pR 4 k18 (pR 17 ff pT))))))))))) (by kernel_rfl)
         ·obtain rfl := retE h
          exact fin (ok X) 1 (.i (a0.Arms.length : Int) :: bT 19 (bF 25 [])) (pA (lm z3s a0.Arms) (pR 4 k15 (pR 4 k14 (pA k15 (pA k14 (pA k15 (pR 4 tt (pR 4 k16 (pR 4 k17 (pR 21 ff pT)))))))))) (by kernel_rfl)
        ·obtain rfl := retE h
         exact fin (ok X) 1 (.i (a0.Arms.length : Int) :: bT 15 (bF 29 [])) (pA (lm z3s a0.Arms) (pR 4 k15 (pR 4 k14 (pA k15 (pA k14 (pA k15 (pR 4 tt (pR 4 k16 (pR 25 ff pT))))))))) (by kernel_rfl)
       ·obtain rfl := retE h
        exact fin (ok X) 1 (.i (a0.Arms.length : Int) :: bF 39 []) (pA (lm z3s a0.Arms) (pR 6 k15 (pR 33 ff pT))) (by kernel_rfl)
      ·obtain rfl := retE h
       exact fin (ok X) 1 [] pT (by kernel_rfl)
     ·refine adv (ok X) 2 [.b false] (pA k14 pT) (by kernel_rfl) ?_
      rcases iteE h with ⟨k26, h⟩ | ⟨k26, h⟩
      ·refine adv (ok X) 2 [.b true] (pA k26 pT) (by kernel_rfl) ?_
       refine jn (ok X) 1 (fun (j6 : Bool) => ⟨358, 0, [(6, [xB j6])], []⟩) h (fun j6 h => ?_) (fun j6 h => ?_)
       ·rcases iteE h with ⟨k27, h⟩ | ⟨k27, h⟩
        ·rcases iteE h with ⟨k28, h⟩ | ⟨k28, h⟩
         ·rcases iteE h with ⟨k29, h⟩ | ⟨k29, h⟩
          ·rcases iteE h with ⟨k30, h⟩ | ⟨k30, h⟩
           ·rcases iteE h with ⟨k31, h⟩ | ⟨k31, h⟩
            ·obtain ⟨v8, k32, h⟩ := z07 h
             rcases iteE h with ⟨k33, h⟩ | ⟨k33, h⟩
             ·obtain ⟨v9, k34, h⟩ := z07 h
              rcases iteE h with ⟨k35, h⟩ | ⟨k35, h⟩
              ·obtain ⟨v10, k36, h⟩ := z07 h
               rcases iteE h with ⟨k37, h⟩ | ⟨k37, h⟩
               ·obtain ⟨v11, k38, h⟩ := z07 h
                obtain rfl := retE h
                exact fin (ok X) 1 (.i (a0.Arms.length : Int) :: bT 4 (bF 3 (.i (a0.Else.length : Int) :: .b false :: .b true :: .b false :: bT 16 (.c (z7w v8) :: bT 5 (.c (zaq v9) :: bT 6 (.c (z6a v10) :: bT 6 [.c (z6a v11), .b true])))))) (pA (lm z3s a0.Arms) (pR 4 k27 (pR 3 k14 (pA (lm z19 a0.Else) (pA k14 (pA k27 (pA k14 (pA k27 (pR 4 k28 (pR 4 k29 (pR 4 k30 (pR 3 k31 (pA (z8q (X := X) k32) (pA k31 (pR 4 k33 (pA (zd7 (X := X) k34) (pA k33 (pR 5 k35 (pA (ih_r04_stmts _ _ _ _ k36) (pA k35 (pR 5 k37 (pA (ih_r04_stmts _ _ _ _ k38) (pA k37 pT))))))))))))))))))))))) (by kernel_rfl)
               ·obtain rfl := retE h
                exact fin (ok X) 1 (.i (a0.Arms.length : Int) :: bT 4 (bF 3 (.i (a0.Else.length : Int) :: .b false :: .b true :: .b false :: bT 16 (.c (z7w v8) :: bT 5 (.c (zaq v9) :: bT 6 (.c (z6a v10) :: .b true :: bF 6 [])))))) (pA (lm z3s a0.Arms) (pR 4 k27 (pR 3 k14 (pA (lm z19 a0.Else) (pA k14 (pA k27 (pA k14 (pA k27 (pR 4 k28 (pR 4 k29 (pR 4 k30 (pR 3 k31 (pA (z8q (X := X) k32) (pA k31 (pR 4 k33 (pA (zd7 (X := X) k34) (pA k33 (pR 5 k35 (pA (ih_r04_stmts _ _ _ _ k36) (pA k35 (pR 6 k37 pT))))))))))))))))))))) (by kernel_rfl)
              ·obtain rfl := retE h
               exact fin (ok X) 1 (.i (a0.Arms.length : Int) :: bT 4 (bF 3 (.i (a0.Else.length : Int) :: .b false :: .b true :: .b false :: bT 16 (.c (z7w v8) :: bT 5 (.c (zaq v9) :: .b true :: bF 12 []))))) (pA (lm z3s a0.Arms) (pR 4 k27 (pR 3 k14 (pA (lm z19 a0.Else) (pA k14 (pA k27 (pA k14 (pA k27 (pR 4 k28 (pR 4 k29 (pR 4 k30 (pR 3 k31 (pA (z8q (X := X) k32) (pA k31 (pR 4 k33 (pA (zd7 (X := X) k34) (pA k33 (pR 6 k35 (pR 6 ff pT))))))))))))))))))) (by kernel_rfl)
             ·obtain rfl := retE h
              exact fin (ok X) 1 (.i (a0.Arms.length : Int) :: bT 4 (bF 3 (.i (a0.Else.length : Int) :: .b false :: .b true :: .b false :: bT 16 (.c (z7w v8) :: .b true :: bF 17 [])))) (pA (lm z3s a0.Arms) (pR 4 k27 (pR 3 k14 (pA (lm z19 a0.Else) (pA k14 (pA k27 (pA k14 (pA k27 (pR 4 k28 (pR 4 k29 (pR 4 k30 (pR 3 k31 (pA (z8q (X := X) k32) (pA k31 (pR 5 k33 (pR 12 ff pT)))))))))))))))) (by kernel_rfl)
            ·obtain rfl := retE h
             exact fin (ok X) 1 (.i (a0.Arms.length : Int) :: bT 4 (bF 3 (.i (a0.Else.length : Int) :: .b false :: .b true :: .b false :: bT 13 (bF 21 [])))) (pA (lm z3s a0.Arms) (pR 4 k27 (pR 3 k14 (pA (lm z19 a0.Else) (pA k14 (pA k27 (pA k14 (pA k27 (pR 4 k28 (pR 4 k29 (pR 4 k30 (pR 4 k31 (pR 17 ff pT))))))))))))) (by kernel_rfl)
           ·obtain rfl := retE h
            exact fin (ok X) 1 (.i (a0.Arms.length : Int) :: bT 4 (bF 3 (.i (a0.Else.length : Int) :: .b false :: .b true :: .b false :: bT 9 (bF 25 [])))) (pA (lm z3s a0.Arms) (pR 4 k27 (pR 3 k14 (pA (lm z19 a0.Else) (pA k14 (pA k27 (pA k14 (pA k27 (pR 4 k28 (pR 4 k29 (pR 4 k30 (pR 21 ff pT)))))))))))) (by kernel_rfl)
          ·obtain rfl := retE h
           exact fin (ok X) 1 (.i (a0.Arms.length : Int) :: bT 4 (bF 3 (.i (a0.Else.length : Int) :: .b false :: .b true :: .b false :: bT 5 (bF 29 [])))) (pA (lm z3s a0.Arms) (pR 4 k27 (pR 3 k14 (pA (lm z19 a0.Else) (pA k14 (pA k27 (pA k14 (pA k27 (pR 4 k28 (pR 4 k29 (pR 25 ff pT))))))))))) (by kernel_rfl)
         ·obtain rfl := retE h
          exact fin (ok X) 1 (.i (a0.Arms.length : Int) :: bT 4 (bF 3 (.i (a0.Else.length : Int) :: .b false :: .b true :: .b false :: .b true :: bF 33 []))) (pA (lm z3s a0.Arms) (pR 4 k27 (pR 3 k14 (pA (lm z19 a0.Else) (pA k14 (pA k27 (pA k14 (pA k27 (pR 4 k28 (pR 29 ff pT)))))))))) (by kernel_rfl)
        ·obtain rfl := retE h
         exact fin (ok X) 1 (.i (a0.Arms.length : Int) :: bF 39 []) (pA (lm z3s a0.Arms) (pR 6 k27 (pR 33 ff pT))) (by kernel_rfl)
       ·obtain rfl := retE h
        exact fin (ok X) 1 [] pT (by kernel_rfl)
      ·refine adv (ok X) 3 [.b false] (pA k26 pT) (by kernel_rfl) ?_
       rcases iteE h with ⟨k39, h⟩ | ⟨k39, h⟩
       ·refine adv (ok X) 2 [.b true] (pA k39 pT) (by kernel_rfl) ?_
        refine jn (ok X) 1 (fun (j7 : Bool) => ⟨358, 0, [(6, [xB j7])], []⟩) h (fun j7 h => ?_) (fun j7 h => ?_)
        ·rcases iteE h with ⟨k40, h⟩ | ⟨k40, h⟩
         ·rcases iteE h with ⟨k41, h⟩ | ⟨k41, h⟩
          ·rcases iteE h with ⟨k42, h⟩ | ⟨k42, h⟩
           ·rcases iteE h with ⟨k43, h⟩ | ⟨k43, h⟩
            ·obtain ⟨v12, k44, h⟩ := z07 h
             rcases iteE h with ⟨k45, h⟩ | ⟨k45, h⟩
             ·rcases iteE h with ⟨k46, h⟩ | ⟨k46, h⟩
              ·obtain ⟨v13, k47, h⟩ := z07 h
               rcases iteE h with ⟨k48, h⟩ | ⟨k48, h⟩
               ·obtain ⟨v14, k49, h⟩ := z07 h
                obtain rfl := retE h
                exact fin (ok X) 1 (.o [0, 1, 2, 3, 4, 5, 6, 7, 8, 9, 10, 11, 12, 13, 14, 15, 16, 17, 18, 19, 20, 21, 22, 23, 24, 25, 26, 27, 28, 29, 30, 31, 32, 33, 34, 35, 36, 37, 38, 39, 40, 41, 42, 43, 44, 45, 46, 47, 48] :: bT 17 (.e (z1n v12) :: bT 9 (.e (z1n v12) :: bT 9 (.c (z6y v13) :: bT 4 [.c (zc0 v14), .b true])))) (pA k40 (pA k40 (pR 4 k41 (pR 4 k42 (pR 7 k43 (pA (ixm z1n k44) (pR 4 k43 (pR 5 k45 (pA (ixm z1n k44) (pR 5 k45 (pR 4 k46 (pA (zd6 (X := X) k47) (pA k46 (pR 3 k48 (pA (zfr (X := X) k49) (pA k48 pT)))))))))))))))) (by kernel_rfl)
               ·obtain rfl := retE h
                exact fin (ok X) 1 (.o [0, 1, 2, 3, 4, 5, 6, 7, 8, 9, 10, 11, 12, 13, 14, 15, 16, 17, 18, 19, 20, 21, 22, 23, 24, 25, 26, 27, 28, 29, 30, 31, 32, 33, 34, 35, 36, 37, 38, 39, 40, 41, 42, 43, 44, 45, 46, 47, 48] :: bT 17 (.e (z1n v12) :: bT 9 (.e (z1n v12) :: bT 9 (.c (z6y v13) :: .b true :: bF 4 [])))) (pA k40 (pA k40 (pR 4 k41 (pR 4 k42 (pR 7 k43 (pA (ixm z1n k44) (pR 4 k43 (pR 5 k45 (pA (ixm z1n k44) (pR 5 k45 (pR 4 k46 (pA (zd6 (X := X) k47) (pA k46 (pR 4 k48 pT)))))))))))))) (by kernel_rfl)
              ·obtain rfl := retE h
               exact fin (ok X) 1 (.o [0, 1, 2, 3, 4, 5, 6, 7, 8, 9, 10, 11, 12, 13, 14, 15, 16, 17, 18, 19, 20, 21, 22, 23, 24, 25, 26, 27, 28, 29, 30, 31, 32, 33, 34, 35, 36, 37, 38, 39, 40, 41, 42, 43, 44, 45, 46, 47, 48] :: bT 17 (.e (z1n v12) :: bT 9 (.e (z1n v12) :: bT 5 (bF 9 [])))) (pA k40 (pA k40 (pR 4 k41 (pR 4 k42 (pR 7 k43 (pA (ixm z1n k44) (pR 4 k43 (pR 5 k45 (pA (ixm z1n k44) (pR 5 k45 (pR 5 k46 (pR 4 ff pT)))))))))))) (by kernel_rfl)
             ·obtain rfl := retE h
              exact fin (ok X) 1 (.o [0, 1, 2, 3, 4, 5, 6, 7, 8, 9, 10, 11, 12, 13, 14, 15, 16, 17, 18, 19, 20, 21, 22, 23, 24, 25, 26, 27, 28, 29, 30, 31, 32, 33, 34, 35, 36, 37, 38, 39, 40, 41, 42, 43, 44, 45, 46, 47, 48] :: bT 17 (.e (z1n v12) :: bT 4 (bF 19 []))) (pA k40 (pA k40 (pR 4 k41 (pR 4 k42 (pR 7 k43 (pA (ixm z1n k44) (pR 4 k43 (pR 10 k45 (pR 9 ff pT))))))))) (by kernel_rfl)
            ·obtain rfl := retE h
             exact fin (ok X) 1 (.o [0, 1, 2, 3, 4, 5, 6, 7, 8, 9, 10, 11, 12, 13, 14, 15, 16, 17, 18, 19, 20, 21, 22, 23, 24, 25, 26, 27, 28, 29, 30, 31, 32, 33, 34, 35, 36, 37, 38, 39, 40, 41, 42, 43, 44, 45, 46, 47, 48] :: bT 10 (bF 30 [])) (pA k40 (pA k40 (pR 4 k41 (pR 4 k42 (pR 11 k43 (pR 19 ff pT)))))) (by kernel_rfl)
           ·obtain rfl := retE h
            exact fin (ok X) 1 (.o [0, 1, 2, 3, 4, 5, 6, 7, 8, 9, 10, 11, 12, 13, 14, 15, 16, 17, 18, 19, 20, 21, 22, 23, 24, 25, 26, 27, 28, 29, 30, 31, 32, 33, 34, 35, 36, 37, 38, 39, 40, 41, 42, 43, 44, 45, 46, 47, 48] :: bT 6 (bF 34 [])) (pA k40 (pA k40 (pR 4 k41 (pR 4 k42 (pR 30 ff pT))))) (by kernel_rfl)
          ·obtain rfl := retE h
           exact fin (ok X) 1 (.o [0, 1, 2, 3, 4, 5, 6, 7, 8, 9, 10, 11, 12, 13, 14, 15, 16, 17, 18, 19, 20, 21, 22, 23, 24, 25, 26, 27, 28, 29, 30, 31, 32, 33, 34, 35, 36, 37, 38, 39, 40, 41, 42, 43, 44, 45, 46, 47, 48] :: .b true :: .b true :: bF 38 []) (pA k40 (pA k40 (pR 4 k41 (pR 34 ff pT)))) (by kernel_rfl)
         ·obtain rfl := retE h
          exact fin (ok X) 1 (.o [0, 1, 2, 3, 4, 5, 6, 7, 8, 9, 10, 11, 12, 13, 14, 15, 16, 17, 18, 19, 20, 21, 22, 23, 24, 25, 26, 27, 28, 29, 30, 31, 32, 33, 34, 35, 36, 37, 38, 39, 40, 41, 42, 43, 44, 45, 46, 47, 48] :: bF 40 []) (pA k40 (pA k40 (pR 38 ff pT))) (by kernel_rfl)
        ·obtain rfl := retE h
         exact fin (ok X) 1 [] pT (by kernel_rfl)
       ·refine adv (ok X) 3 [.b false] (pA k39 pT) (by kernel_rfl) ?_
        rcases iteE h with ⟨k50, h⟩ | ⟨k50, h⟩
        ·refine adv (ok X) 3 [.b true] (pA k50 pT) (by kernel_rfl) ?_
         refine jn (ok X) 1 (fun (j8 : Bool) => ⟨358, 0, [(2, [xI a2]), (3, [xP 0 0]), (4, [xP 1 0]), (7, [xI v1.Vars]), (247, [xB j8])], [oB 105 (bs (z7g a0)), oB 25 (bs (z25 a1))]⟩) h (fun j8 h => ?_) (fun j8 h => ?_)
         ·rcases iteE h with ⟨k51, h⟩ | ⟨k51, h⟩
          ·obtain rfl := retE h
           exact fin (ok X) 1 (bT 43 []) (pR 5 k51 (pR 38 tt pT)) (by kernel_rfl)
          ·rcases iteE h with ⟨k52, h⟩ | ⟨k52, h⟩
           ·obtain rfl := retE h
            exact fin (ok X) 1 (bF 3 (.i (a0.Body.length : Int) :: .b false :: .b false :: bT 38 [])) (pR 3 k51 (pA (lm z19 a0.Body) (pA k51 (pA k51 (pR 5 k52 (pR 33 tt pT)))))) (by kernel_rfl)
           ·rcases iteE h with ⟨k53, h⟩ | ⟨k53, h⟩
            ·obtain rfl := retE h
             exact fin (ok X) 1 (bF 3 (.i (a0.Body.length : Int) :: bF 5 (.i (a0.Else.length : Int) :: .b false :: .b false :: bT 33 []))) (pR 3 k51 (pA (lm z19 a0.Body) (pA k51 (pA k51 (pR 3 k52 (pA (lm z19 a0.Else) (pA k52 (pA k52 (pR 5 k53 (pR 28 tt pT)))))))))) (by kernel_rfl)
            ·rcases iteE h with ⟨k54, h⟩ | ⟨k54, h⟩
             ·obtain rfl := retE h
              exact fin (ok X) 1 (bF 3 (.i (a0.Body.length : Int) :: bF 5 (.i (a0.Else.length : Int) :: bF 5 (.i (a0.Arms.length : Int) :: .b false :: .b false :: bT 28 [])))) (pR 3 k51 (pA (lm z19 a0.Body) (pA k51 (pA k51 (pR 3 k52 (pA (lm z19 a0.Else) (pA k52 (pA k52 (pR 3 k53 (pA (lm z3s a0.Arms) (pA k53 (pA k53 (pR 4 k54 (pR 24 tt pT)))))))))))))) (by kernel_rfl)
             ·rcases iteE h with ⟨k55, h⟩ | ⟨k55, h⟩
              ·obtain rfl := retE h
               exact fin (ok X) 1 (bF 3 (.i (a0.Body.length : Int) :: bF 5 (.i (a0.Else.length : Int) :: bF 5 (.i (a0.Arms.length : Int) :: bF 6 (bT 24 []))))) (pR 3 k51 (pA (lm z19 a0.Body) (pA k51 (pA k51 (pR 3 k52 (pA (lm z19 a0.Else) (pA k52 (pA k52 (pR 3 k53 (pA (lm z3s a0.Arms) (pA k53 (pA k53 (pR 4 k54 (pR 4 k55 (pR 20 tt pT))))))))))))))) (by kernel_rfl)
              ·rcases iteE h with ⟨k56, h⟩ | ⟨k56, h⟩
               ·obtain rfl := retE h
                exact fin (ok X) 1 (bF 3 (.i (a0.Body.length : Int) :: bF 5 (.i (a0.Else.length : Int) :: bF 5 (.i (a0.Arms.length : Int) :: bF 10 (bT 20 []))))) (pR 3 k51 (pA (lm z19 a0.Body) (pA k51 (pA k51 (pR 3 k52 (pA (lm z19 a0.Else) (pA k52 (pA k52 (pR 3 k53 (pA (lm z3s a0.Arms) (pA k53 (pA k53 (pR 4 k54 (pR 4 k55 (pR 10 k56 (pR 10 tt pT)))))))))))))))) (by kernel_rfl)
               ·obtain ⟨v15, k57, h⟩ := z07 h
                rcases iteE h with ⟨k58, h⟩ | ⟨k58, h⟩
                ·obtain rfl := retE h
                 exact fin (ok X) 1 (bF 3 (.i (a0.Body.length : Int) :: bF 5 (.i (a0.Else.length : Int) :: bF 5 (.i (a0.Arms.length : Int) :: bF 15 (.e (z1n v15) :: bF 5 (bT 10 [])))))) (pR 3 k51 (pA (lm z19 a0.Body) (pA k51 (pA k51 (pR 3 k52 (pA (lm z19 a0.Else) (pA k52 (pA k52 (pR 3 k53 (pA (lm z3s a0.Arms) (pA k53 (pA k53 (pR 4 k54 (pR 4 k55 (pR 5 k56 (pA (ixm z1n k57) (pR 5 k56 (pR 5 k58 (pR 5 tt pT))))))))))))))))))) (by kernel_rfl)
                ·obtain ⟨v16, k59, h⟩ := z07 h
                 rcases iteE h with ⟨k60, h⟩ | ⟨k60, h⟩
                 ·obtain rfl := retE h
                  exact fin (ok X) 1 (bF 3 (.i (a0.Body.length : Int) :: bF 5 (.i (a0.Else.length : Int) :: bF 5 (.i (a0.Arms.length : Int) :: bF 15 (.e (z1n v15) :: bF 8 (.c (z7w v16) :: .b false :: .b false :: bT 5 [])))))) (pR 3 k51 (pA (lm z19 a0.Body) (pA k51 (pA k51 (pR 3 k52 (pA (lm z19 a0.Else) (pA k52 (pA k52 (pR 3 k53 (pA (lm z3s a0.Arms) (pA k53 (pA k53 (pR 4 k54 (pR 4 k55 (pR 5 k56 (pA (ixm z1n k57) (pR 5 k56 (pR 3 k58 (pA (z8q (X := X) k59) (pA k58 (pA k58 (pR 5 k60 pT)))))))))))))))))))))) (by kernel_rfl)
                 ·obtain ⟨v17, k61, h⟩ := z07 h
                  obtain rfl := retE h
                  exact fin (ok X) 1 (bF 3 (.i (a0.Body.length : Int) :: bF 5 (.i (a0.Else.length : Int) :: bF 5 (.i (a0.Arms.length : Int) :: bF 15 (.e (z1n v15) :: bF 8 (.c (z7w v16) :: bF 5 [.c (zc0 v17), .b false, .b false])))))) (pR 3 k51 (pA (lm z19 a0.Body) (pA k51 (pA k51 (pR 3 k52 (pA (lm z19 a0.Else) (pA k52 (pA k52 (pR 3 k53 (pA (lm z3s a0.Arms) (pA k53 (pA k53 (pR 4 k54 (pR 4 k55 (pR 5 k56 (pA (ixm z1n k57) (pR 5 k56 (pR 3 k58 (pA (z8q (X := X) k59) (pA k58 (pA k58 (pR 3 k60 (pA (zfr (X := X) k61) (pA k60 (pA k60 pT))))))))))))))))))))))))) (by kernel_rfl)
         ·rcases iteE h with ⟨k62, h⟩ | ⟨k62, h⟩
          ·obtain rfl := retE h
           exact fin (ok X) 4 [.b true] (pA k62 pT) (by kernel_rfl)
          ·refine adv (ok X) 7 [.b false] (pA k62 pT) (by kernel_rfl) ?_
           refine lp (ok X) (zd2 (z5e n) (z8o n) a0 a1 a2 v1) (fun (x9 : (Int × Bool × Bool × Bool × Bool)) => ⟨358, 0, [(2, [xI a2]), (3, [xP 0 0]), (4, [xP 1 0]), (7, [xI v1.Vars]), (11, [xP 2 0]), (12, [xI x9.1])], [oB 105 (bs (z7g a0)), oB 25 (bs (z25 a1)), oB 145 (bs (zk8 (arr false [x9.2.1, x9.2.2.1, x9.2.2.2.1, x9.2.2.2.2])))]⟩) (fun (j9 : Unit) => ⟨358, 0, [], []⟩) zvn (0, false, false, false, false) (fun _ => ⟨_, _, _, _, rfl⟩) h (by kernel_rfl) (fun x9 o h => ?_) (fun r' h => ?_) (fun j9 h => ?_)
           ·unfold zd2 at h
            refine adv (ok X) 3 [.i (a0.Arms.length : Int)] (pA (lm z3s a0.Arms) pT) (by kernel_rfl) ?_
            rcases iteE h with ⟨k63, h⟩ | ⟨k63, h⟩
            ·obtain ⟨v18, k64, h⟩ := z07 h
             refine adv (ok X) 8 [.b true, .e (zhc v18)] (pA k63 (pA (ixr zbv k64) pT)) (by kernel_rfl) ?_
             refine jn (ok X) 1 (fun (j10 : Bool) => ⟨358, 0, [(2, [xI a2]), (3, [xP 0 0]), (4, [xP 1 0]), (7, [xI v1.Vars]), (11, [xP 2 0]), (12, [xI x9.1]), (13, [xP 3 0]), (299, [xB j10])], [oB 105 (bs (z7g a0)), oB 25 (bs (z25 a1)), oB 145 (bs (zk8 (arr false [x9.2.1, x9.2.2.1, x9.2.2.2.1, x9.2.2.2.2]))), oB 108 (bs (zhc v18))]⟩) h (fun j10 h => ?_) (fun j10 h => ?_)
             ·rcases iteE h with ⟨k65, h⟩ | ⟨k65, h⟩
              ·obtain rfl := retE h
               exact fin (ok X) 1 (.o [0, 1, 2, 3, 4, 5, 6, 7, 8, 9, 10, 11, 12, 13, 14, 15, 16, 17, 18, 19, 20, 21, 22, 23, 24, 25, 26, 27, 28, 29, 30, 31, 32, 33, 34, 35, 36, 37, 38, 39] :: bT 32 []) (pR 11 k65 (pR 21 tt pT)) (by kernel_rfl)
              ·obtain ⟨v19, k66, h⟩ := z07 h
               rcases iteE h with ⟨k67, h⟩ | ⟨k67, h⟩
               ·obtain rfl := retE h
                exact fin (ok X) 1 (.o [0, 1, 2, 3, 4, 5, 6, 7, 8, 9, 10, 11, 12, 13, 14, 15, 16, 17, 18, 19, 20, 21, 22, 23, 24, 25, 26, 27, 28, 29, 30, 31, 32, 33, 34, 35, 36, 37, 38, 39] :: bF 7 (.e (z1n v19) :: bF 4 (bT 21 []))) (pR 7 k65 (pA (ixm z1n k66) (pR 4 k65 (pR 5 k67 (pR 16 tt pT))))) (by kernel_rfl)
               ·obtain ⟨v20, k68, h⟩ := z07 h
                rcases iteE h with ⟨k69, h⟩ | ⟨k69, h⟩
                ·obtain rfl := retE h
                 exact fin (ok X) 1 (.o [0, 1, 2, 3, 4, 5, 6, 7, 8, 9, 10, 11, 12, 13, 14, 15, 16, 17, 18, 19, 20, 21, 22, 23, 24, 25, 26, 27, 28, 29, 30, 31, 32, 33, 34, 35, 36, 37, 38, 39] :: bF 7 (.e (z1n v19) :: bF 7 (.n v20 :: .b false :: .ld [xB ((arr false [x9.2.1, x9.2.2.1, x9.2.2.2.1, x9.2.2.2.2]) v20)] :: .b false :: bT 16 []))) (pR 7 k65 (pA (ixm z1n k66) (pR 4 k65 (pR 3 k67 (pA k68 (pA k67 (pA (zgq (arr false [x9.2.1, x9.2.2.1, x9.2.2.2.1, x9.2.2.2.2]) (zk4 k68)) (pA k67 (pR 4 k69 (pR 12 tt pT)))))))))) (by kernel_rfl)
                ·rcases iteE h with ⟨k70, h⟩ | ⟨k70, h⟩
                 ·obtain rfl := retE h
                  exact fin (ok X) 1 (.o [0, 1, 2, 3, 4, 5, 6, 7, 8, 9, 10, 11, 12, 13, 14, 15, 16, 17, 18, 19, 20, 21, 22, 23, 24, 25, 26, 27, 28, 29, 30, 31, 32, 33, 34, 35, 36, 37, 38, 39] :: bF 7 (.e (z1n v19) :: bF 7 (.n v20 :: .b false :: .ld [xB ((arr false [x9.2.1, x9.2.2.1, x9.2.2.2.1, x9.2.2.2.2]) v20)] :: bF 5 (bT 12 [])))) (pR 7 k65 (pA (ixm z1n k66) (pR 4 k65 (pR 3 k67 (pA k68 (pA k67 (pA (zgq (arr false [x9.2.1, x9.2.2.1, x9.2.2.2.1, x9.2.2.2.2]) (zk4 k68)) (pA k67 (pR 4 k69 (pR 5 k70 (pR 7 tt pT))))))))))) (by kernel_rfl)
                 ·rcases iteE h with ⟨k71, h⟩ | ⟨k71, h⟩
                  ·obtain rfl := retE h
                   exact fin (ok X) 1 (.o [0, 1, 2, 3, 4, 5, 6, 7, 8, 9, 10, 11, 12, 13, 14, 15, 16, 17, 18, 19, 20, 21, 22, 23, 24, 25, 26, 27, 28, 29, 30, 31, 32, 33, 34, 35, 36, 37, 38, 39] :: bF 7 (.e (z1n v19) :: bF 7 (.n v20 :: .b false :: .ld [xB ((arr false [x9.2.1, x9.2.2.1, x9.2.2.2.1, x9.2.2.2.2]) v20)] :: bF 10 (bT 7 [])))) (pR 7 k65 (pA (ixm z1n k66) (pR 4 k65 (pR 3 k67 (pA k68 (pA k67 (pA (zgq (arr false [x9.2.1, x9.2.2.1, x9.2.2.2.1, x9.2.2.2.2]) (zk4 k68)) (pA k67 (pR 4 k69 (pR 5 k70 (pR 7 k71 pT))))))))))) (by kernel_rfl)
                  ·obtain ⟨v21, k72, h⟩ := z07 h
                   obtain rfl := retE h
                   exact fin (ok X) 1 (.o [0, 1, 2, 3, 4, 5, 6, 7, 8, 9, 10, 11, 12, 13, 14, 15, 16, 17, 18, 19, 20, 21, 22, 23, 24, 25, 26, 27, 28, 29, 30, 31, 32, 33, 34, 35, 36, 37, 38, 39] :: bF 7 (.e (z1n v19) :: bF 7 (.n v20 :: .b false :: .ld [xB ((arr false [x9.2.1, x9.2.2.1, x9.2.2.2.1, x9.2.2.2.2]) v20)] :: bF 15 [.c (z6a v21), .b false, .b false]))) (pR 7 k65 (pA (ixm z1n k66) (pR 4 k65 (pR 3 k67 (pA k68 (pA k67 (pA (zgq (arr false [x9.2.1, x9.2.2.1, x9.2.2.2.1, x9.2.2.2.2]) (zk4 k68)) (pA k67 (pR 4 k69 (pR 5 k70 (pR 5 k71 (pA (ih_r04_stmts _ _ _ _ k72) (pA k71 (pA k71 pT)))))))))))))) (by kernel_rfl)
             ·rcases iteE h with ⟨k73, h⟩ | ⟨k73, h⟩
              ·obtain rfl := retE h
               exact fin (ok X) 4 [.b true] (pA k73 pT) (by kernel_rfl)
              ·obtain ⟨v22, k74, h⟩ := z07 h
               obtain ⟨v23, k75, h⟩ := z07 h
               obtain rfl := retE h
               exact fin (ok X) 5 [.b false, .n v22, .sc (bs (zk8 v23))] (pA k73 (pA k74 (pA (retE k75 ▸ zty (arr false [x9.2.1, x9.2.2.1, x9.2.2.2.1, x9.2.2.2.2]) true (zk4 k74)) pT))) (by kernel_rfl)
            ·obtain rfl := retE h
             exact fin (ok X) 2 [.b false] (pA k63 pT) (by kernel_rfl)
           ·obtain rfl := retE h
            kernel_rfl
           ·obtain rfl := retE h
            exact fin (ok X) 3 [] pT (by kernel_rfl)
        ·refine adv (ok X) 3 [.b false] (pA k50 pT) (by kernel_rfl) ?_
         rcases iteE h with ⟨k76, h⟩ | ⟨k76, h⟩
         ·refine adv (ok X) 2 [.b true] (pA k76 pT) (by kernel_rfl) ?_
          refine jn (ok X) 1 (fun (j11 : Bool) => ⟨358, 0, [(6, [xB j11])], []⟩) h (fun j11 h => ?_) (fun j11 h => ?_)
          ·rcases iteE h with ⟨k77, h⟩ | ⟨k77, h⟩
           ·rcases iteE h with ⟨k78, h⟩ | ⟨k78, h⟩
            ·rcases iteE h with ⟨k79, h⟩ | ⟨k79, h⟩
             ·rcases iteE h with ⟨k80, h⟩ | ⟨k80, h⟩
              ·obtain ⟨v24, k81, h⟩ := z07 h
               rcases iteE h with ⟨k82, h⟩ | ⟨k82, h⟩
               ·obtain ⟨v25, k83, h⟩ := z07 h
                obtain rfl := retE h
                exact fin (ok X) 1 (bT 15 (.c (z7w v24) :: bT 5 [.c (zaq v25), .b true])) (pR 4 k77 (pR 4 k78 (pR 4 k79 (pR 3 k80 (pA (z8q (X := X) k81) (pA k80 (pR 4 k82 (pA (zd7 (X := X) k83) (pA k82 pT))))))))) (by kernel_rfl)
               ·obtain rfl := retE h
                exact fin (ok X) 1 (bT 15 (.c (z7w v24) :: .b true :: bF 5 [])) (pR 4 k77 (pR 4 k78 (pR 4 k79 (pR 3 k80 (pA (z8q (X := X) k81) (pA k80 (pR 5 k82 pT))))))) (by kernel_rfl)
              ·obtain rfl := retE h
               exact fin (ok X) 1 (bT 12 (bF 9 [])) (pR 4 k77 (pR 4 k78 (pR 4 k79 (pR 4 k80 (pR 5 ff pT))))) (by kernel_rfl)
             ·obtain rfl := retE h
              exact fin (ok X) 1 (bT 8 (bF 13 [])) (pR 4 k77 (pR 4 k78 (pR 4 k79 (pR 9 ff pT)))) (by kernel_rfl)
            ·obtain rfl := retE h
             exact fin (ok X) 1 (bT 4 (bF 17 [])) (pR 4 k77 (pR 4 k78 (pR 13 ff pT))) (by kernel_rfl)
           ·obtain rfl := retE h
            exact fin (ok X) 1 (bF 21 []) (pR 4 k77 (pR 17 ff pT)) (by kernel_rfl)
          ·obtain rfl := retE h
           exact fin (ok X) 1 [] pT (by kernel_rfl)
         ·refine adv (ok X) 3 [.b false] (pA k76 pT) (by kernel_rfl) ?_
          rcases iteE h with ⟨k84, h⟩ | ⟨k84, h⟩
          ·refine adv (ok X) 2 [.b true] (pA k84 pT) (by kernel_rfl) ?_
           refine jn (ok X) 1 (fun (j12 : Bool) => ⟨358, 0, [(6, [xB j12])], []⟩) h (fun j12 h => ?_) (fun j12 h => ?_)
           ·rcases iteE h with ⟨k85, h⟩ | ⟨k85, h⟩
            ·rcases iteE h with ⟨k86, h⟩ | ⟨k86, h⟩
             ·rcases iteE h with ⟨k87, h⟩ | ⟨k87, h⟩
              ·rcases iteE h with ⟨k88, h⟩ | ⟨k88, h⟩
               ·obtain ⟨v26, k89, h⟩ := z07 h
                rcases iteE h with ⟨k90, h⟩ | ⟨k90, h⟩
                ·obtain ⟨v27, k91, h⟩ := z07 h
                 obtain rfl := retE h
                 exact fin (ok X) 1 (bT 13 (.c (z7w v26) :: bT 4 [.c (zc0 v27), .b true])) (pA k85 (pA k85 (pR 4 k86 (pR 4 k87 (pR 3 k88 (pA (z8q (X := X) k89) (pA k88 (pR 3 k90 (pA (zfr (X := X) k91) (pA k90 pT)))))))))) (by kernel_rfl)
                ·obtain rfl := retE h
                 exact fin (ok X) 1 (bT 13 (.c (z7w v26) :: .b true :: bF 4 [])) (pA k85 (pA k85 (pR 4 k86 (pR 4 k87 (pR 3 k88 (pA (z8q (X := X) k89) (pA k88 (pR 4 k90 pT)))))))) (by kernel_rfl)
               ·obtain rfl := retE h
                exact fin (ok X) 1 (bT 10 (bF 8 [])) (pA k85 (pA k85 (pR 4 k86 (pR 4 k87 (pR 4 k88 (pR 4 ff pT)))))) (by kernel_rfl)
              ·obtain rfl := retE h
               exact fin (ok X) 1 (bT 6 (bF 12 [])) (pA k85 (pA k85 (pR 4 k86 (pR 4 k87 (pR 8 ff pT))))) (by kernel_rfl)
             ·obtain rfl := retE h
              exact fin (ok X) 1 (.b true :: .b true :: bF 16 []) (pA k85 (pA k85 (pR 4 k86 (pR 12 ff pT)))) (by kernel_rfl)
            ·obtain rfl := retE h
             exact fin (ok X) 1 (bF 18 []) (pA k85 (pA k85 (pR 16 ff pT))) (by kernel_rfl)
           ·obtain rfl := retE h
            exact fin (ok X) 1 [] pT (by kernel_rfl)
          ·obtain rfl := retE h
           exact fin (ok X) 6 [.b false] (pA k84 pT) (by kernel_rfl)

theorem zkz : ∀ n : Nat, (∀ (a0 : (List z0v)) (a1 : z2k) (a2 : Int) (r : Bool), z5e n a0 a1 a2 = some r → Cv Tryz.prog (GX X) 14 [xL (List.map z19 a0), .agg (bs (z25 a1)), xI a2] (z6a r)) ∧ (∀ (a0 : z0v) (a1 : z2k) (a2 : Int) (r : Bool), z8o n a0 a1 a2 = some r → Cv Tryz.prog (GX X) 29 [.agg (bs (z7g a0)), .agg (bs (z25 a1)), xI a2] (zd3 r))
 | 0 => ⟨(fun _ _ _ _ h => by rw [z5e] at h; cases h), (fun _ _ _ _ h => by rw [z8o] at h; cases h)⟩
 | n + 1 => by
  have ih := zkz n
  exact ⟨zs9 ih.1 ih.2, zvv ih.1 ih.2⟩

theorem zsa {a0 : (List z0v)} {a1 : z2k} {a2 : Int} {r : Bool} (h : znj a0 a1 a2 = some r) : Cv Tryz.prog (GX X) 14 [xL (List.map z19 a0), .agg (bs (z25 a1)), xI a2] (z6a r) := by
 obtain ⟨n, hn⟩ := unfE h
 exact (zkz n).1 _ _ _ _ hn

theorem zsb {a0 : z2k} {r : Bool} (h : zhl a0 = some r) : Cv Tryz.prog (GX X) 7 [.agg (bs (z25 a0))] (zgp r) := by
 refine Cs.toV (?_ : Cs Tryz.prog (GX X) 7 [.agg (bs (z25 a0))] [] (zgp r) (znk r)) (by kernel_rfl)
 refine fnT (cx := cx X) Tryz.f7 Tryz.call7 Tryz.func7 (by kernel_rfl) ?_
 unfold zhl at h
 refine adv (ok X) 4 [] pT (by kernel_rfl) ?_
 refine jn (ok X) 1 (fun (j1 : Bool) => ⟨197, 0, [(1, [xP 0 0]), (25, [xB j1])], [oB 25 (bs (z25 a0))]⟩) h (fun j1 h => ?_) (fun j1 h => ?_)
 ·rcases iteE h with ⟨k1, h⟩ | ⟨k1, h⟩
  ·obtain rfl := retE h
   exact fin (ok X) 1 (.i (a0.Chans.length : Int) :: bT 10 []) (pA (lm z1n a0.Chans) (pR 5 k1 (pR 5 tt pT))) (by kernel_rfl)
  ·rcases iteE h with ⟨k2, h⟩ | ⟨k2, h⟩
   ·obtain rfl := retE h
    exact fin (ok X) 1 (.i (a0.Chans.length : Int) :: bF 3 (.i (a0.Procs.length : Int) :: .b false :: .b false :: bT 5 [])) (pA (lm z1n a0.Chans) (pR 3 k1 (pA (lm z36 a0.Procs) (pA k1 (pA k1 (pR 5 k2 pT)))))) (by kernel_rfl)
   ·obtain rfl := retE h
    exact fin (ok X) 1 (.i (a0.Chans.length : Int) :: bF 3 (.i (a0.Procs.length : Int) :: bF 5 [.i (a0.Procs.length : Int), .b false, .b false])) (pA (lm z1n a0.Chans) (pR 3 k1 (pA (lm z36 a0.Procs) (pA k1 (pA k1 (pR 3 k2 (pA (lm z36 a0.Procs) (pA k2 (pA k2 pT))))))))) (by kernel_rfl)
 ·rcases iteE h with ⟨k3, h⟩ | ⟨k3, h⟩
  ·obtain rfl := retE h
   exact fin (ok X) 4 [.b true] (pA k3 pT) (by kernel_rfl)
  ·refine adv (ok X) 5 [.b false] (pA k3 pT) (by kernel_rfl) ?_
   refine lp (ok X) (zc3 a0) (fun (x2 : Int) => ⟨197, 0, [(1, [xP 0 0]), (3, [xI x2])], [oB 25 (bs (z25 a0))]⟩) (fun (j2 : Unit) => ⟨197, 0, [(1, [xP 0 0])], [oB 25 (bs (z25 a0))]⟩) zf0 0 (fun _ => ⟨_, _, _, _, rfl⟩) h (by kernel_rfl) (fun x2 o h => ?_) (fun r' h => ?_) (fun j2 h => ?_)
   ·unfold zc3 at h
    refine adv (ok X) 3 [.i (a0.Chans.length : Int)] (pA (lm z1n a0.Chans) pT) (by kernel_rfl) ?_
    rcases iteE h with ⟨k4, h⟩ | ⟨k4, h⟩
    ·obtain ⟨v1, k5, h⟩ := z07 h
     refine adv (ok X) 8 [.b true, .e (z1n v1)] (pA k4 (pA (ixm z1n k5) pT)) (by kernel_rfl) ?_
     refine jn (ok X) 1 (fun (j3 : Bool) => ⟨197, 0, [(1, [xP 0 0]), (3, [xI x2]), (4, [xP 1 0]), (104, [xB j3])], [oB 25 (bs (z25 a0)), oB 55 (bs (z1n v1))]⟩) h (fun j3 h => ?_) (fun j3 h => ?_)
     ·rcases iteE h with ⟨k6, h⟩ | ⟨k6, h⟩
      ·obtain rfl := retE h
       exact fin (ok X) 1 (bT 53 []) (pR 4 k6 (pR 49 tt pT)) (by kernel_rfl)
      ·rcases iteE h with ⟨k7, h⟩ | ⟨k7, h⟩
       ·obtain rfl := retE h
        exact fin (ok X) 1 (bF 4 (bT 49 [])) (pR 4 k6 (pR 4 k7 (pR 45 tt pT))) (by kernel_rfl)
       ·rcases iteE h with ⟨k8, h⟩ | ⟨k8, h⟩
        ·obtain rfl := retE h
         exact fin (ok X) 1 (bF 8 (bT 45 [])) (pR 4 k6 (pR 4 k7 (pR 4 k8 (pR 41 tt pT)))) (by kernel_rfl)
        ·rcases iteE h with ⟨k9, h⟩ | ⟨k9, h⟩
         ·obtain rfl := retE h
          exact fin (ok X) 1 (bF 12 (bT 41 [])) (pR 4 k6 (pR 4 k7 (pR 4 k8 (pR 4 k9 (pR 37 tt pT))))) (by kernel_rfl)
         ·rcases iteE h with ⟨k10, h⟩ | ⟨k10, h⟩
          ·obtain rfl := retE h
           exact fin (ok X) 1 (bF 16 (bT 37 [])) (pR 4 k6 (pR 4 k7 (pR 4 k8 (pR 4 k9 (pR 4 k10 (pR 33 tt pT)))))) (by kernel_rfl)
          ·rcases iteE h with ⟨k11, h⟩ | ⟨k11, h⟩
           ·obtain rfl := retE h
            exact fin (ok X) 1 (bF 20 (bT 33 [])) (pR 4 k6 (pR 4 k7 (pR 4 k8 (pR 4 k9 (pR 4 k10 (pR 4 k11 (pR 29 tt pT))))))) (by kernel_rfl)
           ·rcases iteE h with ⟨k12, h⟩ | ⟨k12, h⟩
            ·obtain rfl := retE h
             exact fin (ok X) 1 (bF 24 (bT 29 [])) (pR 4 k6 (pR 4 k7 (pR 4 k8 (pR 4 k9 (pR 4 k10 (pR 4 k11 (pR 7 k12 (pR 22 tt pT)))))))) (by kernel_rfl)
            ·rcases iteE h with ⟨k13, h⟩ | ⟨k13, h⟩
             ·obtain rfl := retE h
              exact fin (ok X) 1 (bF 29 (.i (a0.Procs.length : Int) :: .b false :: .b false :: bT 22 [])) (pR 4 k6 (pR 4 k7 (pR 4 k8 (pR 4 k9 (pR 4 k10 (pR 4 k11 (pR 5 k12 (pA (lm z36 a0.Procs) (pA k12 (pA k12 (pR 4 k13 (pR 18 tt pT)))))))))))) (by kernel_rfl)
             ·rcases iteE h with ⟨k14, h⟩ | ⟨k14, h⟩
              ·obtain rfl := retE h
               exact fin (ok X) 1 (bF 29 (.i (a0.Procs.length : Int) :: bF 6 (bT 18 []))) (pR 4 k6 (pR 4 k7 (pR 4 k8 (pR 4 k9 (pR 4 k10 (pR 4 k11 (pR 5 k12 (pA (lm z36 a0.Procs) (pA k12 (pA k12 (pR 4 k13 (pR 7 k14 (pR 11 tt pT))))))))))))) (by kernel_rfl)
              ·rcases iteE h with ⟨k15, h⟩ | ⟨k15, h⟩
               ·obtain rfl := retE h
                exact fin (ok X) 1 (bF 29 (.i (a0.Procs.length : Int) :: bF 11 (.i (a0.Procs.length : Int) :: .b false :: .b false :: bT 11 []))) (pR 4 k6 (pR 4 k7 (pR 4 k8 (pR 4 k9 (pR 4 k10 (pR 4 k11 (pR 5 k12 (pA (lm z36 a0.Procs) (pA k12 (pA k12 (pR 4 k13 (pR 5 k14 (pA (lm z36 a0.Procs) (pA k14 (pA k14 (pR 6 k15 (pR 5 tt pT))))))))))))))))) (by kernel_rfl)
               ·rcases iteE h with ⟨k16, h⟩ | ⟨k16, h⟩
                ·obtain rfl := retE h
                 exact fin (ok X) 1 (bF 29 (.i (a0.Procs.length : Int) :: bF 11 (.i (a0.Procs.length : Int) :: bF 8 (bT 5 [])))) (pR 4 k6 (pR 4 k7 (pR 4 k8 (pR 4 k9 (pR 4 k10 (pR 4 k11 (pR 5 k12 (pA (lm z36 a0.Procs) (pA k12 (pA k12 (pR 4 k13 (pR 5 k14 (pA (lm z36 a0.Procs) (pA k14 (pA k14 (pR 6 k15 (pR 5 k16 pT))))))))))))))))) (by kernel_rfl)
                ·obtain rfl := retE h
                 exact fin (ok X) 1 (bF 29 (.i (a0.Procs.length : Int) :: bF 11 (.i (a0.Procs.length : Int) :: bF 11 [.i (v1.Rule.length : Int), .b false, .b false]))) (pR 4 k6 (pR 4 k7 (pR 4 k8 (pR 4 k9 (pR 4 k10 (pR 4 k11 (pR 5 k12 (pA (lm z36 a0.Procs) (pA k12 (pA k12 (pR 4 k13 (pR 5 k14 (pA (lm z36 a0.Procs) (pA k14 (pA k14 (pR 6 k15 (pR 3 k16 (pA (lm z82 v1.Rule) (pA k16 (pA k16 pT)))))))))))))))))))) (by kernel_rfl)
     ·rcases iteE h with ⟨k17, h⟩ | ⟨k17, h⟩
      ·obtain rfl := retE h
       exact fin (ok X) 4 [.b true] (pA k17 pT) (by kernel_rfl)
      ·refine adv (ok X) 7 [.b false] (pA k17 pT) (by kernel_rfl) ?_
       refine lp (ok X) (zac v1) (fun (x4 : (Int × Int)) => ⟨197, 0, [(1, [xP 0 0]), (3, [xI x2]), (4, [xP 1 0]), (5, [xI x4.1]), (6, [xI x4.2])], [oB 25 (bs (z25 a0)), oB 55 (bs (z1n v1))]⟩) (fun (j4 : Int) => ⟨197, 0, [(1, [xP 0 0]), (3, [xI x2]), (4, [xP 1 0]), (5, [xI j4])], [oB 25 (bs (z25 a0)), oB 55 (bs (z1n v1))]⟩) zf0 (0, 0) (fun _ => ⟨_, _, _, _, rfl⟩) h (by kernel_rfl) (fun x4 o h => ?_) (fun r' h => ?_) (fun j4 h => ?_)
       ·unfold zac at h
        refine adv (ok X) 3 [.i (v1.Rule.length : Int)] (pA (lm z82 v1.Rule) pT) (by kernel_rfl) ?_
        rcases iteE h with ⟨k18, h⟩ | ⟨k18, h⟩
        ·obtain ⟨v2, k19, h⟩ := z07 h
         refine adv (ok X) 7 [.b true, .o [0, 1, 2, 3, 4, 5, 6, 7, 8], .e [.sl (List.map zj6 v2)], .i (v2.length : Int)] (pA k18 (pA (ixm z82 k19) (pA (lm zj6 v2) pT))) (by kernel_rfl) ?_
         rcases iteE h with ⟨k20, h⟩ | ⟨k20, h⟩
         ·obtain rfl := retE h
          exact fin (ok X) 4 [.b true] (pA k20 pT) (by kernel_rfl)
         ·refine adv (ok X) 4 [.b false] (pA k20 pT) (by kernel_rfl) ?_
          refine lp (ok X) (zc2 v1 x4) (fun (x5 : (Int × Int)) => ⟨197, 0, [(1, [xP 0 0]), (3, [xI x2]), (4, [xP 1 0]), (5, [xI x5.1]), (6, [xI x4.2]), (7, [xI x5.2])], [oB 25 (bs (z25 a0)), oB 55 (bs (z1n v1))]⟩) (fun (j5 : Int) => ⟨197, 0, [(1, [xP 0 0]), (3, [xI x2]), (4, [xP 1 0]), (5, [xI j5]), (6, [xI x4.2])], [oB 25 (bs (z25 a0)), oB 55 (bs (z1n v1))]⟩) zf0 (x4.1, 0) (fun _ => ⟨_, _, _, _, rfl⟩) h (by kernel_rfl) (fun x5 o h => ?_) (fun r' h => ?_) (fun j5 h => ?_)
          ·unfold zc2 at h
           rcases iteE h with ⟨k21, h⟩ | ⟨k21, h⟩
           ·refine adv (ok X) 6 [.b true] (pA k21 pT) (by kernel_rfl) ?_
            refine jr (ok X) 1 (fun (j6 : Int) => ⟨197, 0, [(1, [xP 0 0]), (3, [xI x2]), (4, [xP 1 0]), (5, [xI j6]), (6, [xI x4.2]), (7, [xI x5.2])], [oB 25 (bs (z25 a0)), oB 55 (bs (z1n v1))]⟩) zf0 (fun _ => ⟨_, _, _, _, rfl⟩) h (fun o h => ?_) (fun r' h => ?_) (fun j6 h => ?_)
            ·obtain ⟨v3, k22, h⟩ := z07 h
             obtain ⟨v4, k23, h⟩ := z07 h
             refine adv (ok X) 5 [.e [.sl (List.map zj6 v3)], .e [.int .i64 v4]] (pA (ixm z82 k22) (pA (ixm zj6 k23) pT)) (by kernel_rfl) ?_
             refine jn (ok X) 1 (fun (j7 : Bool) => ⟨197, 0, [(1, [xP 0 0]), (3, [xI x2]), (4, [xP 1 0]), (5, [xI x5.1]), (6, [xI x4.2]), (7, [xI x5.2]), (8, [xI v4]), (143, [xB j7])], [oB 25 (bs (z25 a0)), oB 55 (bs (z1n v1))]⟩) h (fun j7 h => ?_) (fun j7 h => ?_)
             ·rcases iteE h with ⟨k24, h⟩ | ⟨k24, h⟩
              ·obtain rfl := retE h
               exact fin (ok X) 1 (bT 6 []) (pR 6 k24 pT) (by kernel_rfl)
              ·obtain rfl := retE h
               exact fin (ok X) 1 (bF 4 [.i (v1.Rule.length : Int), .b false, .b false]) (pR 4 k24 (pA (lm z82 v1.Rule) (pA k24 (pA k24 pT)))) (by kernel_rfl)
             ·rcases iteE h with ⟨k25, h⟩ | ⟨k25, h⟩
              ·obtain rfl := retE h
               exact fin (ok X) 4 [.b true] (pA k25 pT) (by kernel_rfl)
              ·refine adv (ok X) 4 [.b false] (pA k25 pT) (by kernel_rfl) ?_
               rcases iteE h with ⟨k26, h⟩ | ⟨k26, h⟩
               ·obtain rfl := retE h
                exact fin (ok X) 3 [.b true] (pA k26 pT) (by kernel_rfl)
               ·obtain rfl := retE h
                exact fin (ok X) 3 [.b false] (pA k26 pT) (by kernel_rfl)
            ·obtain rfl := retE h
             kernel_rfl
            ·obtain rfl := retE h
             exact fin (ok X) 1 [] pT (by kernel_rfl)
           ·obtain rfl := retE h
            exact fin (ok X) 5 [.b false] (pA k21 pT) (by kernel_rfl)
          ·obtain rfl := retE h
           kernel_rfl
          ·obtain rfl := retE h
           exact fin (ok X) 2 [] pT (by kernel_rfl)
        ·obtain rfl := retE h
         exact fin (ok X) 2 [.b false] (pA k18 pT) (by kernel_rfl)
       ·obtain rfl := retE h
        kernel_rfl
       ·refine adv (ok X) 1 [] pT (by kernel_rfl) ?_
        refine jn (ok X) 1 (fun (j8 : Bool) => ⟨197, 0, [(1, [xP 0 0]), (3, [xI x2]), (161, [xB j8])], [oB 25 (bs (z25 a0))]⟩) h (fun j8 h => ?_) (fun j8 h => ?_)
        ·rcases iteE h with ⟨k27, h⟩ | ⟨k27, h⟩
         ·obtain rfl := retE h
          exact fin (ok X) 1 (.i (v1.Rule.length : Int) :: bT 4 (.i (v1.Rule.length : Int) :: bT 3 [])) (pA (lm z82 v1.Rule) (pR 4 k27 (pA (lm z82 v1.Rule) (pR 3 k27 pT)))) (by kernel_rfl)
         ·obtain rfl := retE h
          exact fin (ok X) 1 (.i (v1.Rule.length : Int) :: bF 7 []) (pA (lm z82 v1.Rule) (pR 7 k27 pT)) (by kernel_rfl)
        ·rcases iteE h with ⟨k28, h⟩ | ⟨k28, h⟩
         ·obtain rfl := retE h
          exact fin (ok X) 4 [.b true] (pA k28 pT) (by kernel_rfl)
         ·obtain rfl := retE h
          exact fin (ok X) 4 [.b false] (pA k28 pT) (by kernel_rfl)
    ·obtain rfl := retE h
     exact fin (ok X) 2 [.b false] (pA k4 pT) (by kernel_rfl)
   ·obtain rfl := retE h
    kernel_rfl
   ·refine adv (ok X) 3 [] pT (by kernel_rfl) ?_
    refine lp (ok X) (zc4 a0) (fun (x9 : Int) => ⟨197, 0, [(1, [xP 0 0]), (9, [xI x9])], [oB 25 (bs (z25 a0))]⟩) (fun (j9 : Unit) => ⟨197, 0, [], []⟩) zf0 0 (fun _ => ⟨_, _, _, _, rfl⟩) h (by kernel_rfl) (fun x9 o h => ?_) (fun r' h => ?_) (fun j9 h => ?_)
    ·unfold zc4 at h
     refine adv (ok X) 3 [.i (a0.Procs.length : Int)] (pA (lm z36 a0.Procs) pT) (by kernel_rfl) ?_
     rcases iteE h with ⟨k29, h⟩ | ⟨k29, h⟩
     ·refine adv (ok X) 5 [.b true] (pA k29 pT) (by kernel_rfl) ?_
      refine jn (ok X) 1 (fun (j10 : Bool) => ⟨197, 0, [(1, [xP 0 0]), (9, [xI x9]), (196, [xB j10])], [oB 25 (bs (z25 a0))]⟩) h (fun j10 h => ?_) (fun j10 h => ?_)
      ·obtain ⟨v5, k30, h⟩ := z07 h
       rcases iteE h with ⟨k31, h⟩ | ⟨k31, h⟩
       ·obtain rfl := retE h
        exact fin (ok X) 1 (.o [0, 1, 2, 3, 4, 5, 6, 7, 8, 9, 10, 11, 12, 13, 14, 15, 16, 17, 18, 19, 20, 21, 22, 23, 24, 25, 26, 27] :: .e (z36 v5) :: bT 19 []) (pA (ixm z36 k30) (pR 8 k31 (pR 11 tt pT))) (by kernel_rfl)
       ·rcases iteE h with ⟨k32, h⟩ | ⟨k32, h⟩
        ·obtain rfl := retE h
         exact fin (ok X) 1 (.o [0, 1, 2, 3, 4, 5, 6, 7, 8, 9, 10, 11, 12, 13, 14, 15, 16, 17, 18, 19, 20, 21, 22, 23, 24, 25, 26, 27] :: .e (z36 v5) :: bF 4 (.e (z36 v5) :: bF 4 (bT 11 []))) (pA (ixm z36 k30) (pR 4 k31 (pA (ixm z36 k30) (pR 4 k31 (pR 11 k32 pT))))) (by kernel_rfl)
        ·obtain ⟨v6, k33, h⟩ := z07 h
         obtain rfl := retE h
         exact fin (ok X) 1 (.o [0, 1, 2, 3, 4, 5, 6, 7, 8, 9, 10, 11, 12, 13, 14, 15, 16, 17, 18, 19, 20, 21, 22, 23, 24, 25, 26, 27] :: .e (z36 v5) :: bF 4 (.e (z36 v5) :: bF 8 (.e (z36 v5) :: bF 5 [.c (z6a v6), .b false, .b false]))) (pA (ixm z36 k30) (pR 4 k31 (pA (ixm z36 k30) (pR 4 k31 (pR 4 k32 (pA (ixm z36 k30) (pR 5 k32 (pA (zsa (X := X) k33) (pA k32 (pA k32 pT)))))))))) (by kernel_rfl)
      ·rcases iteE h with ⟨k34, h⟩ | ⟨k34, h⟩
       ·obtain rfl := retE h
        exact fin (ok X) 4 [.b true] (pA k34 pT) (by kernel_rfl)
       ·obtain rfl := retE h
        exact fin (ok X) 4 [.b false] (pA k34 pT) (by kernel_rfl)
     ·obtain rfl := retE h
      exact fin (ok X) 2 [.b false] (pA k29 pT) (by kernel_rfl)
    ·obtain rfl := retE h
     kernel_rfl
    ·obtain rfl := retE h
     exact fin (ok X) 3 [] pT (by kernel_rfl)

theorem zme {a0 : z2k} {r : Bool} (h : zdc a0 = some r) : Cv Tryz.prog (GX X) 3 [.agg (bs (z25 a0))] (zgx r) := by
 refine Cs.toV (?_ : Cs Tryz.prog (GX X) 3 [.agg (bs (z25 a0))] [] (zgx r) (zmc r)) (by kernel_rfl)
 refine fnT (cx := cx X) Tryz.f3 Tryz.call3 Tryz.func3 (by kernel_rfl) ?_
 unfold zdc at h
 obtain ⟨v1, k1, h⟩ := z07 h
 rcases iteE h with ⟨k2, h⟩ | ⟨k2, h⟩
 ·obtain ⟨v2, k3, h⟩ := z07 h
  obtain ⟨v3, k4, h⟩ := z07 h
  obtain ⟨v4, k5, h⟩ := z07 h
  obtain rfl := retE h
  exact fin (ok X) 5 [.o [0, 1, 2, 3, 4, 5, 6, 7, 8, 9], .c (zfp v1), .b true, .b true, .c (zi7 v2), .b true, .c (z9e v3), .b true, .b true, .c (zgp v4), .b true, .b true] (pA (zm3 (X := X) k1) (pA k2 (pA k2 (pA (zvt (X := X) k3) (pA k2 (pA (zeb (X := X) k4) (pA k2 (pA k2 (pA (zsb (X := X) k5) (pA k2 (pA k2 pT))))))))))) (by kernel_rfl)
 ·obtain rfl := retE h
  exact fin (ok X) 5 (.o [0, 1, 2, 3, 4, 5, 6, 7, 8, 9] :: .c (zfp v1) :: bF 7 []) (pA (zm3 (X := X) k1) (pR 7 k2 pT)) (by kernel_rfl)
end Go.Proofs.YtgmbfjcidiedfaaGreatDoor.Abs

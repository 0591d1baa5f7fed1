/- Gw: the functions are these. -/
import Derived.Test.YtokjbpmjdcbogaaDoorGwW0
namespace Go.Proofs.YtokjbpmjdcbogaaDoor.Abs
open Go Go.RowKit
set_option linter.unusedVariables false
set_option maxRecDepth 100000
set_option maxHeartbeats 4000000
variable {X : EV}
theorem z16 {r : Bool} (h : z2t = some r) : Cv Tryd.prog (GX X) 5 [] (z11 r) := by
 refine Cs.toV (?_ : Cs Tryd.prog (GX X) 5 [] [] (z11 r) (zd9 r)) (by kernel_rfl)
 refine fnT (cx := cx X) Tryd.f5 Tryd.call5 Tryd.func5 (by kernel_rfl) ?_
 unfold z2t at h
 obtain ⟨v1, k1, h⟩ := z0h h
 obtain ⟨v2, k2, h⟩ := z0h h
 refine adv (ok X) 7 [.c (z34 v1), .c (z34 v2)] (pA (z43 (X := X) k1) (pA (z43 (X := X) k2) pT)) (by kernel_rfl) ?_
 refine jn (ok X) 1 (fun (j1 : Bool) => ⟨82, 0, [(0, [xB j1])], []⟩) h (fun j1 h => ?_) (fun j1 h => ?_)
 ·rcases iteE h with ⟨k3, h⟩ | ⟨k3, h⟩
  ·rcases iteE h with ⟨k4, h⟩ | ⟨k4, h⟩
   ·obtain ⟨v3, k5, h⟩ := z0h h
    rcases iteE h with ⟨k6, h⟩ | ⟨k6, h⟩
    ·obtain ⟨v4, k7, h⟩ := z0h h
     obtain ⟨v5, k8, h⟩ := z0h h
     rcases iteE h with ⟨k9, h⟩ | ⟨k9, h⟩
     ·obtain ⟨v6, k10, h⟩ := z0h h
      obtain ⟨v7, k11, h⟩ := z0h h
      rcases iteE h with ⟨k12, h⟩ | ⟨k12, h⟩
      ·obtain ⟨v8, k13, h⟩ := z0h h
       obtain ⟨v9, k14, h⟩ := z0h h
       obtain ⟨v10, k15, h⟩ := z0h h
       rcases iteE h with ⟨k16, h⟩ | ⟨k16, h⟩
       ·rcases iteE h with ⟨k17, h⟩ | ⟨k17, h⟩
        ·obtain rfl := retE h
         exact fin (ok X) 1 (bT 3 (.i (v1.1.Procs.length : Int) :: bT 5 (.e (z0v v3) :: bT 3 (.i (v3.Body.length : Int) :: bT 5 (.e (z0v v4) :: bT 3 (.e (z2j v5) :: bT 8 (.e (z0v v6) :: bT 3 (.e (z2j v7) :: bT 4 (.i (v7.E.Kids.length : Int) :: bT 5 (.e (z0v v8) :: bT 3 (.e (z2j v9) :: bT 4 (.e (z3j v10) :: bT 10 [])))))))))))) (pR 3 k3 (pA (lm z0v v1.1.Procs) (pA k3 (pA k3 (pR 3 k4 (pA (ixm z0v k5) (pR 3 k4 (pA (lm z28 v3.Body) (pA k4 (pA k4 (pR 3 k6 (pA (ixm z0v k7) (pR 3 k6 (pA (ixr z2i k8) (pR 5 k6 (pR 3 k9 (pA (ixm z0v k10) (pR 3 k9 (pA (ixr z2i k11) (pR 4 k9 (pA (lm z1p v7.E.Kids) (pA k9 (pA k9 (pR 3 k12 (pA (ixm z0v k13) (pR 3 k12 (pA (ixr z2i k14) (pR 4 k12 (pA (ixr z40 k15) (pR 4 k12 (pR 3 k16 (pR 3 k17 pT)))))))))))))))))))))))))))))))) (by kernel_rfl)
        ·obtain rfl := retE h
         exact fin (ok X) 1 (bT 3 (.i (v1.1.Procs.length : Int) :: bT 5 (.e (z0v v3) :: bT 3 (.i (v3.Body.length : Int) :: bT 5 (.e (z0v v4) :: bT 3 (.e (z2j v5) :: bT 8 (.e (z0v v6) :: bT 3 (.e (z2j v7) :: bT 4 (.i (v7.E.Kids.length : Int) :: bT 5 (.e (z0v v8) :: bT 3 (.e (z2j v9) :: bT 4 (.e (z3j v10) :: bT 7 (bF 3 []))))))))))))) (pR 3 k3 (pA (lm z0v v1.1.Procs) (pA k3 (pA k3 (pR 3 k4 (pA (ixm z0v k5) (pR 3 k4 (pA (lm z28 v3.Body) (pA k4 (pA k4 (pR 3 k6 (pA (ixm z0v k7) (pR 3 k6 (pA (ixr z2i k8) (pR 5 k6 (pR 3 k9 (pA (ixm z0v k10) (pR 3 k9 (pA (ixr z2i k11) (pR 4 k9 (pA (lm z1p v7.E.Kids) (pA k9 (pA k9 (pR 3 k12 (pA (ixm z0v k13) (pR 3 k12 (pA (ixr z2i k14) (pR 4 k12 (pA (ixr z40 k15) (pR 4 k12 (pR 3 k16 (pR 3 k17 pT)))))))))))))))))))))))))))))))) (by kernel_rfl)
       ·obtain rfl := retE h
        exact fin (ok X) 1 (bT 3 (.i (v1.1.Procs.length : Int) :: bT 5 (.e (z0v v3) :: bT 3 (.i (v3.Body.length : Int) :: bT 5 (.e (z0v v4) :: bT 3 (.e (z2j v5) :: bT 8 (.e (z0v v6) :: bT 3 (.e (z2j v7) :: bT 4 (.i (v7.E.Kids.length : Int) :: bT 5 (.e (z0v v8) :: bT 3 (.e (z2j v9) :: bT 4 (.e (z3j v10) :: bT 4 (bF 6 []))))))))))))) (pR 3 k3 (pA (lm z0v v1.1.Procs) (pA k3 (pA k3 (pR 3 k4 (pA (ixm z0v k5) (pR 3 k4 (pA (lm z28 v3.Body) (pA k4 (pA k4 (pR 3 k6 (pA (ixm z0v k7) (pR 3 k6 (pA (ixr z2i k8) (pR 5 k6 (pR 3 k9 (pA (ixm z0v k10) (pR 3 k9 (pA (ixr z2i k11) (pR 4 k9 (pA (lm z1p v7.E.Kids) (pA k9 (pA k9 (pR 3 k12 (pA (ixm z0v k13) (pR 3 k12 (pA (ixr z2i k14) (pR 4 k12 (pA (ixr z40 k15) (pR 4 k12 (pR 3 k16 (pR 3 ff pT)))))))))))))))))))))))))))))))) (by kernel_rfl)
      ·obtain rfl := retE h
       exact fin (ok X) 1 (bT 3 (.i (v1.1.Procs.length : Int) :: bT 5 (.e (z0v v3) :: bT 3 (.i (v3.Body.length : Int) :: bT 5 (.e (z0v v4) :: bT 3 (.e (z2j v5) :: bT 8 (.e (z0v v6) :: bT 3 (.e (z2j v7) :: bT 4 (.i (v7.E.Kids.length : Int) :: .b true :: .b true :: bF 20 []))))))))) (pR 3 k3 (pA (lm z0v v1.1.Procs) (pA k3 (pA k3 (pR 3 k4 (pA (ixm z0v k5) (pR 3 k4 (pA (lm z28 v3.Body) (pA k4 (pA k4 (pR 3 k6 (pA (ixm z0v k7) (pR 3 k6 (pA (ixr z2i k8) (pR 5 k6 (pR 3 k9 (pA (ixm z0v k10) (pR 3 k9 (pA (ixr z2i k11) (pR 4 k9 (pA (lm z1p v7.E.Kids) (pA k9 (pA k9 (pR 14 k12 (pR 6 ff pT))))))))))))))))))))))))) (by kernel_rfl)
     ·obtain rfl := retE h
      exact fin (ok X) 1 (bT 3 (.i (v1.1.Procs.length : Int) :: bT 5 (.e (z0v v3) :: bT 3 (.i (v3.Body.length : Int) :: bT 5 (.e (z0v v4) :: bT 3 (.e (z2j v5) :: bT 5 (bF 32 []))))))) (pR 3 k3 (pA (lm z0v v1.1.Procs) (pA k3 (pA k3 (pR 3 k4 (pA (ixm z0v k5) (pR 3 k4 (pA (lm z28 v3.Body) (pA k4 (pA k4 (pR 3 k6 (pA (ixm z0v k7) (pR 3 k6 (pA (ixr z2i k8) (pR 5 k6 (pR 12 k9 (pR 20 ff pT))))))))))))))))) (by kernel_rfl)
    ·obtain rfl := retE h
     exact fin (ok X) 1 (bT 3 (.i (v1.1.Procs.length : Int) :: bT 5 (.e (z0v v3) :: bT 3 (.i (v3.Body.length : Int) :: .b true :: .b true :: bF 43 [])))) (pR 3 k3 (pA (lm z0v v1.1.Procs) (pA k3 (pA k3 (pR 3 k4 (pA (ixm z0v k5) (pR 3 k4 (pA (lm z28 v3.Body) (pA k4 (pA k4 (pR 11 k6 (pR 32 ff pT)))))))))))) (by kernel_rfl)
   ·obtain rfl := retE h
    exact fin (ok X) 1 (bT 3 (.i (v1.1.Procs.length : Int) :: .b true :: .b true :: bF 51 [])) (pR 3 k3 (pA (lm z0v v1.1.Procs) (pA k3 (pA k3 (pR 8 k4 (pR 43 ff pT)))))) (by kernel_rfl)
  ·obtain rfl := retE h
   exact fin (ok X) 1 (bF 56 []) (pR 5 k3 (pR 51 ff pT)) (by kernel_rfl)
 ·obtain rfl := retE h
  exact fin (ok X) 1 [] pT (by kernel_rfl)

theorem za7 {a0 : Int} {a1 : Int} {r : Bool} (h : z5w a0 a1 = some r) : Cv Tryd.prog (GX X) 3 [xI a0, xI a1] (z65 r) := by
 refine Cs.toV (?_ : Cs Tryd.prog (GX X) 3 [xI a0, xI a1] [] (z65 r) (z7d r)) (by kernel_rfl)
 refine fnT (cx := cx X) Tryd.f3 Tryd.call3 Tryd.func3 (by kernel_rfl) ?_
 unfold z5w at h
 obtain ⟨v1, k1, h⟩ := z0h h
 obtain ⟨v2, k2, h⟩ := z0h h
 obtain ⟨v3, k3, h⟩ := z0h h
 obtain ⟨v4, k4, h⟩ := z0h h
 refine adv (ok X) 13 [.i v1, .i v2, .e [.str v3], .i v4] (pA k1 (pA k2 (pA (ixm z4k k3) (pA k4 pT)))) (by kernel_rfl) ?_
 rcases iteE h with ⟨k5, h⟩ | ⟨k5, h⟩
 ·obtain ⟨v5, k6, h⟩ := z0h h
  refine adv (ok X) 7 [.b true, .x [xS v5]] (pA k5 (pA k6 pT)) (by kernel_rfl) ?_
  refine lp (ok X) (z49 v1 v3) (fun (x1 : (ByteArray × Int)) => ⟨109, 0, [(1, [xI a1]), (5, [xI (IntKind.i64.wrap (20 + (IntKind.i64.wrap v1)))]), (6, [xS v3]), (7, [xS x1.1]), (9, [xI (v5.size : Int)]), (10, [xI x1.2])], []⟩) (fun (j1 : ByteArray) => ⟨109, 0, [(1, [xI a1]), (5, [xI (IntKind.i64.wrap (20 + (IntKind.i64.wrap v1)))]), (6, [xS v3]), (7, [xS j1]), (9, [xI (v5.size : Int)])], []⟩) z3y (v5, 0) (fun _ => ⟨_, _, _, _, rfl⟩) h (by kernel_rfl) (fun x1 o h => ?_) (fun r' h => ?_) (fun j1 h => ?_)
  ·unfold z49 at h
   rcases iteE h with ⟨k7, h⟩ | ⟨k7, h⟩
   ·obtain ⟨v6, k8, h⟩ := z0h h
    obtain rfl := retE h
    exact fin (ok X) 10 [.b true, .x [xS v6]] (pA k7 (pA k8 pT)) (by kernel_rfl)
   ·obtain rfl := retE h
    exact fin (ok X) 5 [.b false] (pA k7 pT) (by kernel_rfl)
  ·cases h
  ·obtain ⟨v7, k9, h⟩ := z0h h
   refine adv (ok X) 6 [.i v7] (pA k9 pT) (by kernel_rfl) ?_
   rcases iteE h with ⟨k10, h⟩ | ⟨k10, h⟩
   ·obtain ⟨v8, k11, h⟩ := z0h h
    obtain ⟨v9, k12, h⟩ := z0h h
    refine adv (ok X) 8 [.b true, .x [xS v8], .c (z34 v9)] (pA k10 (pA k11 (pA (z43 (X := X) k12) pT))) (by kernel_rfl) ?_
    rcases iteE h with ⟨k13, h⟩ | ⟨k13, h⟩
    ·refine adv (ok X) 2 [.b true] (pA k13 pT) (by kernel_rfl) ?_
     refine jn (ok X) 1 (fun (j2 : Bool) => ⟨109, 0, [(4, [xB j2])], []⟩) h (fun j2 h => ?_) (fun j2 h => ?_)
     ·obtain ⟨v10, k14, h⟩ := z0h h
      rcases iteE h with ⟨k15, h⟩ | ⟨k15, h⟩
      ·obtain rfl := retE h
       exact fin (ok X) 1 (.c (z11 v10) :: bT 3 []) (pA (z16 (X := X) k14) (pR 3 k15 pT)) (by kernel_rfl)
      ·obtain rfl := retE h
       exact fin (ok X) 1 (.c (z11 v10) :: bF 3 []) (pA (z16 (X := X) k14) (pR 3 k15 pT)) (by kernel_rfl)
     ·obtain rfl := retE h
      exact fin (ok X) 1 [] pT (by kernel_rfl)
    ·refine adv (ok X) 5 [.b false] (pA k13 pT) (by kernel_rfl) ?_
     obtain ⟨v11, k16, h⟩ := z0h h
     rcases iteE h with ⟨k17, h⟩ | ⟨k17, h⟩
     ·rcases iteE h with ⟨k18, h⟩ | ⟨k18, h⟩
      ·obtain rfl := retE h
       exact fin (ok X) 2 (.c (z11 v11) :: bT 7 []) (pA (z16 (X := X) k16) (pR 3 k17 (pR 4 k18 pT))) (by kernel_rfl)
      ·obtain rfl := retE h
       exact fin (ok X) 2 (.c (z11 v11) :: bT 3 (bF 4 [])) (pA (z16 (X := X) k16) (pR 3 k17 (pR 4 k18 pT))) (by kernel_rfl)
     ·obtain rfl := retE h
      exact fin (ok X) 2 (.c (z11 v11) :: bF 7 []) (pA (z16 (X := X) k16) (pR 3 k17 (pR 4 ff pT))) (by kernel_rfl)
   ·refine adv (ok X) 3 [.b false] (pA k10 pT) (by kernel_rfl) ?_
    rcases iteE h with ⟨k19, h⟩ | ⟨k19, h⟩
    ·obtain ⟨v12, k20, h⟩ := z0h h
     refine adv (ok X) 6 [.b true, .x [xS v12]] (pA k19 (pA k20 pT)) (by kernel_rfl) ?_
     refine lp (ok X) (z4w v1) (fun (x3 : (ByteArray × Int)) => ⟨109, 0, [(5, [xI (IntKind.i64.wrap (20 + (IntKind.i64.wrap v1)))]), (6, [xS v3]), (7, [xS x3.1]), (9, [xI (v5.size : Int)]), (11, [xI x3.2])], []⟩) (fun (j3 : ByteArray) => ⟨109, 0, [(5, [xI (IntKind.i64.wrap (20 + (IntKind.i64.wrap v1)))]), (6, [xS v3]), (7, [xS j3]), (9, [xI (v5.size : Int)])], []⟩) z3y (v12, 0) (fun _ => ⟨_, _, _, _, rfl⟩) h (by kernel_rfl) (fun x3 o h => ?_) (fun r' h => ?_) (fun j3 h => ?_)
     ·unfold z4w at h
      rcases iteE h with ⟨k21, h⟩ | ⟨k21, h⟩
      ·obtain ⟨v13, k22, h⟩ := z0h h
       obtain rfl := retE h
       exact fin (ok X) 10 [.b true, .x [xS v13]] (pA k21 (pA k22 pT)) (by kernel_rfl)
      ·obtain rfl := retE h
       exact fin (ok X) 5 [.b false] (pA k21 pT) (by kernel_rfl)
     ·cases h
     ·obtain ⟨v14, k23, h⟩ := z0h h
      obtain ⟨v15, k24, h⟩ := z0h h
      refine adv (ok X) 7 [.x [xS v14], .c (z34 v15)] (pA k23 (pA (z43 (X := X) k24) pT)) (by kernel_rfl) ?_
      rcases iteE h with ⟨k25, h⟩ | ⟨k25, h⟩
      ·refine adv (ok X) 2 [.b true] (pA k25 pT) (by kernel_rfl) ?_
       refine jn (ok X) 1 (fun (j4 : Bool) => ⟨109, 0, [(4, [xB j4])], []⟩) h (fun j4 h => ?_) (fun j4 h => ?_)
       ·obtain ⟨v16, k26, h⟩ := z0h h
        rcases iteE h with ⟨k27, h⟩ | ⟨k27, h⟩
        ·obtain rfl := retE h
         exact fin (ok X) 1 (.c (z11 v16) :: bT 3 []) (pA (z16 (X := X) k26) (pR 3 k27 pT)) (by kernel_rfl)
        ·obtain rfl := retE h
         exact fin (ok X) 1 (.c (z11 v16) :: bF 3 []) (pA (z16 (X := X) k26) (pR 3 k27 pT)) (by kernel_rfl)
       ·obtain rfl := retE h
        exact fin (ok X) 1 [] pT (by kernel_rfl)
      ·refine adv (ok X) 5 [.b false] (pA k25 pT) (by kernel_rfl) ?_
       obtain ⟨v17, k28, h⟩ := z0h h
       rcases iteE h with ⟨k29, h⟩ | ⟨k29, h⟩
       ·rcases iteE h with ⟨k30, h⟩ | ⟨k30, h⟩
        ·obtain rfl := retE h
         exact fin (ok X) 2 (.c (z11 v17) :: bT 7 []) (pA (z16 (X := X) k28) (pR 3 k29 (pR 4 k30 pT))) (by kernel_rfl)
        ·obtain rfl := retE h
         exact fin (ok X) 2 (.c (z11 v17) :: bT 3 (bF 4 [])) (pA (z16 (X := X) k28) (pR 3 k29 (pR 4 k30 pT))) (by kernel_rfl)
       ·obtain rfl := retE h
        exact fin (ok X) 2 (.c (z11 v17) :: bF 7 []) (pA (z16 (X := X) k28) (pR 3 k29 (pR 4 ff pT))) (by kernel_rfl)
    ·refine adv (ok X) 4 [.b false] (pA k19 pT) (by kernel_rfl) ?_
     refine lp (ok X) (z5s v1) (fun (x5 : (ByteArray × Int)) => ⟨109, 0, [(5, [xI (IntKind.i64.wrap (20 + (IntKind.i64.wrap v1)))]), (6, [xS v3]), (7, [xS x5.1]), (9, [xI (v5.size : Int)]), (12, [xI x5.2])], []⟩) (fun (j5 : ByteArray) => ⟨109, 0, [(5, [xI (IntKind.i64.wrap (20 + (IntKind.i64.wrap v1)))]), (6, [xS v3]), (7, [xS j5]), (9, [xI (v5.size : Int)])], []⟩) z3y (j1, 0) (fun _ => ⟨_, _, _, _, rfl⟩) h (by kernel_rfl) (fun x5 o h => ?_) (fun r' h => ?_) (fun j5 h => ?_)
     ·unfold z5s at h
      rcases iteE h with ⟨k31, h⟩ | ⟨k31, h⟩
      ·obtain ⟨v18, k32, h⟩ := z0h h
       obtain rfl := retE h
       exact fin (ok X) 10 [.b true, .x [xS v18]] (pA k31 (pA k32 pT)) (by kernel_rfl)
      ·obtain rfl := retE h
       exact fin (ok X) 5 [.b false] (pA k31 pT) (by kernel_rfl)
     ·cases h
     ·obtain ⟨v19, k33, h⟩ := z0h h
      obtain ⟨v20, k34, h⟩ := z0h h
      refine adv (ok X) 7 [.x [xS v19], .c (z34 v20)] (pA k33 (pA (z43 (X := X) k34) pT)) (by kernel_rfl) ?_
      rcases iteE h with ⟨k35, h⟩ | ⟨k35, h⟩
      ·refine adv (ok X) 2 [.b true] (pA k35 pT) (by kernel_rfl) ?_
       refine jn (ok X) 1 (fun (j6 : Bool) => ⟨109, 0, [(4, [xB j6])], []⟩) h (fun j6 h => ?_) (fun j6 h => ?_)
       ·obtain ⟨v21, k36, h⟩ := z0h h
        rcases iteE h with ⟨k37, h⟩ | ⟨k37, h⟩
        ·obtain rfl := retE h
         exact fin (ok X) 1 (.c (z11 v21) :: bT 3 []) (pA (z16 (X := X) k36) (pR 3 k37 pT)) (by kernel_rfl)
        ·obtain rfl := retE h
         exact fin (ok X) 1 (.c (z11 v21) :: bF 3 []) (pA (z16 (X := X) k36) (pR 3 k37 pT)) (by kernel_rfl)
       ·obtain rfl := retE h
        exact fin (ok X) 1 [] pT (by kernel_rfl)
      ·refine adv (ok X) 5 [.b false] (pA k35 pT) (by kernel_rfl) ?_
       obtain ⟨v22, k38, h⟩ := z0h h
       rcases iteE h with ⟨k39, h⟩ | ⟨k39, h⟩
       ·rcases iteE h with ⟨k40, h⟩ | ⟨k40, h⟩
        ·obtain rfl := retE h
         exact fin (ok X) 2 (.c (z11 v22) :: bT 7 []) (pA (z16 (X := X) k38) (pR 3 k39 (pR 4 k40 pT))) (by kernel_rfl)
        ·obtain rfl := retE h
         exact fin (ok X) 2 (.c (z11 v22) :: bT 3 (bF 4 [])) (pA (z16 (X := X) k38) (pR 3 k39 (pR 4 k40 pT))) (by kernel_rfl)
       ·obtain rfl := retE h
        exact fin (ok X) 2 (.c (z11 v22) :: bF 7 []) (pA (z16 (X := X) k38) (pR 3 k39 (pR 4 ff pT))) (by kernel_rfl)
 ·refine adv (ok X) 7 [.b false] (pA k5 pT) (by kernel_rfl) ?_
  refine lp (ok X) (z4x v1 v3) (fun (x7 : (ByteArray × Int)) => ⟨109, 0, [(1, [xI a1]), (5, [xI (IntKind.i64.wrap (20 + (IntKind.i64.wrap v1)))]), (6, [xS v3]), (7, [xS x7.1]), (9, [xI ((ByteArray.mk #[112, 114, 111, 99, 32, 112, 123]).size : Int)]), (10, [xI x7.2])], []⟩) (fun (j7 : ByteArray) => ⟨109, 0, [(1, [xI a1]), (5, [xI (IntKind.i64.wrap (20 + (IntKind.i64.wrap v1)))]), (6, [xS v3]), (7, [xS j7]), (9, [xI ((ByteArray.mk #[112, 114, 111, 99, 32, 112, 123]).size : Int)])], []⟩) z3y ((ByteArray.mk #[112, 114, 111, 99, 32, 112, 123]), 0) (fun _ => ⟨_, _, _, _, rfl⟩) h (by kernel_rfl) (fun x7 o h => ?_) (fun r' h => ?_) (fun j7 h => ?_)
  ·unfold z4x at h
   rcases iteE h with ⟨k41, h⟩ | ⟨k41, h⟩
   ·obtain ⟨v23, k42, h⟩ := z0h h
    obtain rfl := retE h
    exact fin (ok X) 10 [.b true, .x [xS v23]] (pA k41 (pA k42 pT)) (by kernel_rfl)
   ·obtain rfl := retE h
    exact fin (ok X) 5 [.b false] (pA k41 pT) (by kernel_rfl)
  ·cases h
  ·obtain ⟨v24, k43, h⟩ := z0h h
   refine adv (ok X) 6 [.i v24] (pA k43 pT) (by kernel_rfl) ?_
   rcases iteE h with ⟨k44, h⟩ | ⟨k44, h⟩
   ·obtain ⟨v25, k45, h⟩ := z0h h
    obtain ⟨v26, k46, h⟩ := z0h h
    refine adv (ok X) 8 [.b true, .x [xS v25], .c (z34 v26)] (pA k44 (pA k45 (pA (z43 (X := X) k46) pT))) (by kernel_rfl) ?_
    rcases iteE h with ⟨k47, h⟩ | ⟨k47, h⟩
    ·refine adv (ok X) 2 [.b true] (pA k47 pT) (by kernel_rfl) ?_
     refine jn (ok X) 1 (fun (j8 : Bool) => ⟨109, 0, [(4, [xB j8])], []⟩) h (fun j8 h => ?_) (fun j8 h => ?_)
     ·obtain ⟨v27, k48, h⟩ := z0h h
      rcases iteE h with ⟨k49, h⟩ | ⟨k49, h⟩
      ·obtain rfl := retE h
       exact fin (ok X) 1 (.c (z11 v27) :: bT 3 []) (pA (z16 (X := X) k48) (pR 3 k49 pT)) (by kernel_rfl)
      ·obtain rfl := retE h
       exact fin (ok X) 1 (.c (z11 v27) :: bF 3 []) (pA (z16 (X := X) k48) (pR 3 k49 pT)) (by kernel_rfl)
     ·obtain rfl := retE h
      exact fin (ok X) 1 [] pT (by kernel_rfl)
    ·refine adv (ok X) 5 [.b false] (pA k47 pT) (by kernel_rfl) ?_
     obtain ⟨v28, k50, h⟩ := z0h h
     rcases iteE h with ⟨k51, h⟩ | ⟨k51, h⟩
     ·rcases iteE h with ⟨k52, h⟩ | ⟨k52, h⟩
      ·obtain rfl := retE h
       exact fin (ok X) 2 (.c (z11 v28) :: bT 7 []) (pA (z16 (X := X) k50) (pR 3 k51 (pR 4 k52 pT))) (by kernel_rfl)
      ·obtain rfl := retE h
       exact fin (ok X) 2 (.c (z11 v28) :: bT 3 (bF 4 [])) (pA (z16 (X := X) k50) (pR 3 k51 (pR 4 k52 pT))) (by kernel_rfl)
     ·obtain rfl := retE h
      exact fin (ok X) 2 (.c (z11 v28) :: bF 7 []) (pA (z16 (X := X) k50) (pR 3 k51 (pR 4 ff pT))) (by kernel_rfl)
   ·refine adv (ok X) 3 [.b false] (pA k44 pT) (by kernel_rfl) ?_
    rcases iteE h with ⟨k53, h⟩ | ⟨k53, h⟩
    ·obtain ⟨v29, k54, h⟩ := z0h h
     refine adv (ok X) 6 [.b true, .x [xS v29]] (pA k53 (pA k54 pT)) (by kernel_rfl) ?_
     refine lp (ok X) (z5t v1) (fun (x9 : (ByteArray × Int)) => ⟨109, 0, [(5, [xI (IntKind.i64.wrap (20 + (IntKind.i64.wrap v1)))]), (6, [xS v3]), (7, [xS x9.1]), (9, [xI ((ByteArray.mk #[112, 114, 111, 99, 32, 112, 123]).size : Int)]), (11, [xI x9.2])], []⟩) (fun (j9 : ByteArray) => ⟨109, 0, [(5, [xI (IntKind.i64.wrap (20 + (IntKind.i64.wrap v1)))]), (6, [xS v3]), (7, [xS j9]), (9, [xI ((ByteArray.mk #[112, 114, 111, 99, 32, 112, 123]).size : Int)])], []⟩) z3y (v29, 0) (fun _ => ⟨_, _, _, _, rfl⟩) h (by kernel_rfl) (fun x9 o h => ?_) (fun r' h => ?_) (fun j9 h => ?_)
     ·unfold z5t at h
      rcases iteE h with ⟨k55, h⟩ | ⟨k55, h⟩
      ·obtain ⟨v30, k56, h⟩ := z0h h
       obtain rfl := retE h
       exact fin (ok X) 10 [.b true, .x [xS v30]] (pA k55 (pA k56 pT)) (by kernel_rfl)
      ·obtain rfl := retE h
       exact fin (ok X) 5 [.b false] (pA k55 pT) (by kernel_rfl)
     ·cases h
     ·obtain ⟨v31, k57, h⟩ := z0h h
      obtain ⟨v32, k58, h⟩ := z0h h
      refine adv (ok X) 7 [.x [xS v31], .c (z34 v32)] (pA k57 (pA (z43 (X := X) k58) pT)) (by kernel_rfl) ?_
      rcases iteE h with ⟨k59, h⟩ | ⟨k59, h⟩
      ·refine adv (ok X) 2 [.b true] (pA k59 pT) (by kernel_rfl) ?_
       refine jn (ok X) 1 (fun (j10 : Bool) => ⟨109, 0, [(4, [xB j10])], []⟩) h (fun j10 h => ?_) (fun j10 h => ?_)
       ·obtain ⟨v33, k60, h⟩ := z0h h
        rcases iteE h with ⟨k61, h⟩ | ⟨k61, h⟩
        ·obtain rfl := retE h
         exact fin (ok X) 1 (.c (z11 v33) :: bT 3 []) (pA (z16 (X := X) k60) (pR 3 k61 pT)) (by kernel_rfl)
        ·obtain rfl := retE h
         exact fin (ok X) 1 (.c (z11 v33) :: bF 3 []) (pA (z16 (X := X) k60) (pR 3 k61 pT)) (by kernel_rfl)
       ·obtain rfl := retE h
        exact fin (ok X) 1 [] pT (by kernel_rfl)
      ·refine adv (ok X) 5 [.b false] (pA k59 pT) (by kernel_rfl) ?_
       obtain ⟨v34, k62, h⟩ := z0h h
       rcases iteE h with ⟨k63, h⟩ | ⟨k63, h⟩
       ·rcases iteE h with ⟨k64, h⟩ | ⟨k64, h⟩
        ·obtain rfl := retE h
         exact fin (ok X) 2 (.c (z11 v34) :: bT 7 []) (pA (z16 (X := X) k62) (pR 3 k63 (pR 4 k64 pT))) (by kernel_rfl)
        ·obtain rfl := retE h
         exact fin (ok X) 2 (.c (z11 v34) :: bT 3 (bF 4 [])) (pA (z16 (X := X) k62) (pR 3 k63 (pR 4 k64 pT))) (by kernel_rfl)
       ·obtain rfl := retE h
        exact fin (ok X) 2 (.c (z11 v34) :: bF 7 []) (pA (z16 (X := X) k62) (pR 3 k63 (pR 4 ff pT))) (by kernel_rfl)
    ·refine adv (ok X) 4 [.b false] (pA k53 pT) (by kernel_rfl) ?_
     refine lp (ok X) (z4j v1) (fun (x11 : (ByteArray × Int)) => ⟨109, 0, [(5, [xI (IntKind.i64.wrap (20 + (IntKind.i64.wrap v1)))]), (6, [xS v3]), (7, [xS x11.1]), (9, [xI ((ByteArray.mk #[112, 114, 111, 99, 32, 112, 123]).size : Int)]), (12, [xI x11.2])], []⟩) (fun (j11 : ByteArray) => ⟨109, 0, [(5, [xI (IntKind.i64.wrap (20 + (IntKind.i64.wrap v1)))]), (6, [xS v3]), (7, [xS j11]), (9, [xI ((ByteArray.mk #[112, 114, 111, 99, 32, 112, 123]).size : Int)])], []⟩) z3y (j7, 0) (fun _ => ⟨_, _, _, _, rfl⟩) h (by kernel_rfl) (fun x11 o h => ?_) (fun r' h => ?_) (fun j11 h => ?_)
     ·unfold z4j at h
      rcases iteE h with ⟨k65, h⟩ | ⟨k65, h⟩
      ·obtain ⟨v35, k66, h⟩ := z0h h
       obtain rfl := retE h
       exact fin (ok X) 10 [.b true, .x [xS v35]] (pA k65 (pA k66 pT)) (by kernel_rfl)
      ·obtain rfl := retE h
       exact fin (ok X) 5 [.b false] (pA k65 pT) (by kernel_rfl)
     ·cases h
     ·obtain ⟨v36, k67, h⟩ := z0h h
      obtain ⟨v37, k68, h⟩ := z0h h
      refine adv (ok X) 7 [.x [xS v36], .c (z34 v37)] (pA k67 (pA (z43 (X := X) k68) pT)) (by kernel_rfl) ?_
      rcases iteE h with ⟨k69, h⟩ | ⟨k69, h⟩
      ·refine adv (ok X) 2 [.b true] (pA k69 pT) (by kernel_rfl) ?_
       refine jn (ok X) 1 (fun (j12 : Bool) => ⟨109, 0, [(4, [xB j12])], []⟩) h (fun j12 h => ?_) (fun j12 h => ?_)
       ·obtain ⟨v38, k70, h⟩ := z0h h
        rcases iteE h with ⟨k71, h⟩ | ⟨k71, h⟩
        ·obtain rfl := retE h
         exact fin (ok X) 1 (.c (z11 v38) :: bT 3 []) (pA (z16 (X := X) k70) (pR 3 k71 pT)) (by kernel_rfl)
        ·obtain rfl := retE h
         exact fin (ok X) 1 (.c (z11 v38) :: bF 3 []) (pA (z16 (X := X) k70) (pR 3 k71 pT)) (by kernel_rfl)
       ·obtain rfl := retE h
        exact fin (ok X) 1 [] pT (by kernel_rfl)
      ·refine adv (ok X) 5 [.b false] (pA k69 pT) (by kernel_rfl) ?_
       obtain ⟨v39, k72, h⟩ := z0h h
       rcases iteE h with ⟨k73, h⟩ | ⟨k73, h⟩
       ·rcases iteE h with ⟨k74, h⟩ | ⟨k74, h⟩
        ·obtain rfl := retE h
         exact fin (ok X) 2 (.c (z11 v39) :: bT 7 []) (pA (z16 (X := X) k72) (pR 3 k73 (pR 4 k74 pT))) (by kernel_rfl)
        ·obtain rfl := retE h
         exact fin (ok X) 2 (.c (z11 v39) :: bT 3 (bF 4 [])) (pA (z16 (X := X) k72) (pR 3 k73 (pR 4 k74 pT))) (by kernel_rfl)
       ·obtain rfl := retE h
        exact fin (ok X) 2 (.c (z11 v39) :: bF 7 []) (pA (z16 (X := X) k72) (pR 3 k73 (pR 4 ff pT))) (by kernel_rfl)
end Go.Proofs.YtokjbpmjdcbogaaDoor.Abs

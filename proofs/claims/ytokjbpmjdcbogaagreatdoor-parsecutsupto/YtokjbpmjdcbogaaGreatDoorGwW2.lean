/- Gw: the functions are these. -/
import Derived.Test.YtokjbpmjdcbogaaGreatDoorGwW1
namespace Go.Proofs.YtokjbpmjdcbogaaGreatDoor.Abs
open Go Go.RowKit
set_option linter.unusedVariables false
set_option maxRecDepth 100000
set_option maxHeartbeats 4000000
variable {X : EV}
theorem zen {r : Bool} (h : zdp = some r) : Cv Tryz.prog (GX X) 11 [] (zbh r) := by
 refine Cs.toV (?_ : Cs Tryz.prog (GX X) 11 [] [] (zbh r) (zqs r)) (by kernel_rfl)
 refine fnT (cx := cx X) Tryz.f11 Tryz.call11 Tryz.func11 (by kernel_rfl) ?_
 unfold zdp at h
 obtain ⟨v1, k1, h⟩ := z06 h
 obtain ⟨v2, k2, h⟩ := z06 h
 refine adv (ok X) 7 [.c (z8z v1), .c (z8z v2)] (pA (zdl (X := X) k1) (pA (zdl (X := X) k2) pT)) (by kernel_rfl) ?_
 refine jn (ok X) 1 (fun (j1 : Bool) => ⟨82, 0, [(0, [xB j1])], []⟩) h (fun j1 h => ?_) (fun j1 h => ?_)
 ·rcases iteE h with ⟨k3, h⟩ | ⟨k3, h⟩
  ·rcases iteE h with ⟨k4, h⟩ | ⟨k4, h⟩
   ·obtain ⟨v3, k5, h⟩ := z06 h
    rcases iteE h with ⟨k6, h⟩ | ⟨k6, h⟩
    ·obtain ⟨v4, k7, h⟩ := z06 h
     obtain ⟨v5, k8, h⟩ := z06 h
     rcases iteE h with ⟨k9, h⟩ | ⟨k9, h⟩
     ·obtain ⟨v6, k10, h⟩ := z06 h
      obtain ⟨v7, k11, h⟩ := z06 h
      rcases iteE h with ⟨k12, h⟩ | ⟨k12, h⟩
      ·obtain ⟨v8, k13, h⟩ := z06 h
       obtain ⟨v9, k14, h⟩ := z06 h
       obtain ⟨v10, k15, h⟩ := z06 h
       rcases iteE h with ⟨k16, h⟩ | ⟨k16, h⟩
       ·rcases iteE h with ⟨k17, h⟩ | ⟨k17, h⟩
        ·obtain rfl := retE h
         exact fin (ok X) 1 (bT 3 (.i (v1.1.Procs.length : Int) :: bT 5 (.e (z0v v3) :: bT 3 (.i (v3.Body.length : Int) :: bT 5 (.e (z0v v4) :: bT 3 (.e (z2l v5) :: bT 8 (.e (z0v v6) :: bT 3 (.e (z2l v7) :: bT 4 (.i (v7.E.Kids.length : Int) :: bT 5 (.e (z0v v8) :: bT 3 (.e (z2l v9) :: bT 4 (.e (z38 v10) :: bT 10 [])))))))))))) (pR 3 k3 (pA (lm z0v v1.1.Procs) (pA k3 (pA k3 (pR 3 k4 (pA (ixm z0v k5) (pR 3 k4 (pA (lm z16 v3.Body) (pA k4 (pA k4 (pR 3 k6 (pA (ixm z0v k7) (pR 3 k6 (pA (ixr z43 k8) (pR 5 k6 (pR 3 k9 (pA (ixm z0v k10) (pR 3 k9 (pA (ixr z43 k11) (pR 4 k9 (pA (lm z14 v7.E.Kids) (pA k9 (pA k9 (pR 3 k12 (pA (ixm z0v k13) (pR 3 k12 (pA (ixr z43 k14) (pR 4 k12 (pA (ixr z5v k15) (pR 4 k12 (pR 3 k16 (pR 3 k17 pT)))))))))))))))))))))))))))))))) (by kernel_rfl)
        ·obtain rfl := retE h
         exact fin (ok X) 1 (bT 3 (.i (v1.1.Procs.length : Int) :: bT 5 (.e (z0v v3) :: bT 3 (.i (v3.Body.length : Int) :: bT 5 (.e (z0v v4) :: bT 3 (.e (z2l v5) :: bT 8 (.e (z0v v6) :: bT 3 (.e (z2l v7) :: bT 4 (.i (v7.E.Kids.length : Int) :: bT 5 (.e (z0v v8) :: bT 3 (.e (z2l v9) :: bT 4 (.e (z38 v10) :: bT 7 (bF 3 []))))))))))))) (pR 3 k3 (pA (lm z0v v1.1.Procs) (pA k3 (pA k3 (pR 3 k4 (pA (ixm z0v k5) (pR 3 k4 (pA (lm z16 v3.Body) (pA k4 (pA k4 (pR 3 k6 (pA (ixm z0v k7) (pR 3 k6 (pA (ixr z43 k8) (pR 5 k6 (pR 3 k9 (pA (ixm z0v k10) (pR 3 k9 (pA (ixr z43 k11) (pR 4 k9 (pA (lm z14 v7.E.Kids) (pA k9 (pA k9 (pR 3 k12 (pA (ixm z0v k13) (pR 3 k12 (pA (ixr z43 k14) (pR 4 k12 (pA (ixr z5v k15) (pR 4 k12 (pR 3 k16 (pR 3 k17 pT)))))))))))))))))))))))))))))))) (by kernel_rfl)
       ·obtain rfl := retE h
        exact fin (ok X) 1 (bT 3 (.i (v1.1.Procs.length : Int) :: bT 5 (.e (z0v v3) :: bT 3 (.i (v3.Body.length : Int) :: bT 5 (.e (z0v v4) :: bT 3 (.e (z2l v5) :: bT 8 (.e (z0v v6) :: bT 3 (.e (z2l v7) :: bT 4 (.i (v7.E.Kids.length : Int) :: bT 5 (.e (z0v v8) :: bT 3 (.e (z2l v9) :: bT 4 (.e (z38 v10) :: bT 4 (bF 6 []))))))))))))) (pR 3 k3 (pA (lm z0v v1.1.Procs) (pA k3 (pA k3 (pR 3 k4 (pA (ixm z0v k5) (pR 3 k4 (pA (lm z16 v3.Body) (pA k4 (pA k4 (pR 3 k6 (pA (ixm z0v k7) (pR 3 k6 (pA (ixr z43 k8) (pR 5 k6 (pR 3 k9 (pA (ixm z0v k10) (pR 3 k9 (pA (ixr z43 k11) (pR 4 k9 (pA (lm z14 v7.E.Kids) (pA k9 (pA k9 (pR 3 k12 (pA (ixm z0v k13) (pR 3 k12 (pA (ixr z43 k14) (pR 4 k12 (pA (ixr z5v k15) (pR 4 k12 (pR 3 k16 (pR 3 ff pT)))))))))))))))))))))))))))))))) (by kernel_rfl)
      ·obtain rfl := retE h
       exact fin (ok X) 1 (bT 3 (.i (v1.1.Procs.length : Int) :: bT 5 (.e (z0v v3) :: bT 3 (.i (v3.Body.length : Int) :: bT 5 (.e (z0v v4) :: bT 3 (.e (z2l v5) :: bT 8 (.e (z0v v6) :: bT 3 (.e (z2l v7) :: bT 4 (.i (v7.E.Kids.length : Int) :: .b true :: .b true :: bF 20 []))))))))) (pR 3 k3 (pA (lm z0v v1.1.Procs) (pA k3 (pA k3 (pR 3 k4 (pA (ixm z0v k5) (pR 3 k4 (pA (lm z16 v3.Body) (pA k4 (pA k4 (pR 3 k6 (pA (ixm z0v k7) (pR 3 k6 (pA (ixr z43 k8) (pR 5 k6 (pR 3 k9 (pA (ixm z0v k10) (pR 3 k9 (pA (ixr z43 k11) (pR 4 k9 (pA (lm z14 v7.E.Kids) (pA k9 (pA k9 (pR 14 k12 (pR 6 ff pT))))))))))))))))))))))))) (by kernel_rfl)
     ·obtain rfl := retE h
      exact fin (ok X) 1 (bT 3 (.i (v1.1.Procs.length : Int) :: bT 5 (.e (z0v v3) :: bT 3 (.i (v3.Body.length : Int) :: bT 5 (.e (z0v v4) :: bT 3 (.e (z2l v5) :: bT 5 (bF 32 []))))))) (pR 3 k3 (pA (lm z0v v1.1.Procs) (pA k3 (pA k3 (pR 3 k4 (pA (ixm z0v k5) (pR 3 k4 (pA (lm z16 v3.Body) (pA k4 (pA k4 (pR 3 k6 (pA (ixm z0v k7) (pR 3 k6 (pA (ixr z43 k8) (pR 5 k6 (pR 12 k9 (pR 20 ff pT))))))))))))))))) (by kernel_rfl)
    ·obtain rfl := retE h
     exact fin (ok X) 1 (bT 3 (.i (v1.1.Procs.length : Int) :: bT 5 (.e (z0v v3) :: bT 3 (.i (v3.Body.length : Int) :: .b true :: .b true :: bF 43 [])))) (pR 3 k3 (pA (lm z0v v1.1.Procs) (pA k3 (pA k3 (pR 3 k4 (pA (ixm z0v k5) (pR 3 k4 (pA (lm z16 v3.Body) (pA k4 (pA k4 (pR 11 k6 (pR 32 ff pT)))))))))))) (by kernel_rfl)
   ·obtain rfl := retE h
    exact fin (ok X) 1 (bT 3 (.i (v1.1.Procs.length : Int) :: .b true :: .b true :: bF 51 [])) (pR 3 k3 (pA (lm z0v v1.1.Procs) (pA k3 (pA k3 (pR 8 k4 (pR 43 ff pT)))))) (by kernel_rfl)
  ·obtain rfl := retE h
   exact fin (ok X) 1 (bF 56 []) (pR 5 k3 (pR 51 ff pT)) (by kernel_rfl)
 ·obtain rfl := retE h
  exact fin (ok X) 1 [] pT (by kernel_rfl)

theorem z1u {a0 : z01} {a1 : ByteArray} {r : Bool} (h : z0i a0 a1 = some r) : Cs Tryz.prog (GX X) 26 [xP 0 0, xS a1] [oB 89 (bs (z0b a0))] (z1n r) (z1o a0 r) := by
 refine fnT (cx := cx X) Tryz.f26 Tryz.call26 Tryz.func26 (by kernel_rfl) ?_
 unfold z0i at h
 rcases iteE h with ⟨k1, h⟩ | ⟨k1, h⟩
 ·rcases iteE h with ⟨k2, h⟩ | ⟨k2, h⟩
  ·obtain ⟨v1, k3, h⟩ := z06 h
   rcases iteE h with ⟨k4, h⟩ | ⟨k4, h⟩
   ·obtain rfl := retE h
    exact fin (ok X) 5 (.o [0, 1, 2, 3, 4, 5, 6, 7, 8, 9, 10, 11, 12, 13, 14, 15, 16, 17, 18, 19, 20, 21, 22, 23, 24, 25, 26, 27, 28, 29, 30, 31, 32, 33, 34, 35, 36, 37, 38, 39, 40, 41, 42, 43, 44, 45, 46] :: bT 9 (.i (a0.L.length : Int) :: bT 11 (.e (z0t v1) :: bT 14 (.e (z0t v1) :: bT 4 [])))) (pR 9 k1 (pA (lm z0t a0.L) (pA k1 (pA k1 (pR 9 k2 (pA (ixm z0t k3) (pR 5 k2 (pR 9 k4 (pA (ixm z0t k3) (pR 4 k4 pT)))))))))) (by kernel_rfl)
   ·obtain rfl := retE h
    exact fin (ok X) 5 (.o [0, 1, 2, 3, 4, 5, 6, 7, 8, 9, 10, 11, 12, 13, 14, 15, 16, 17, 18, 19, 20, 21, 22, 23, 24, 25, 26, 27, 28, 29, 30, 31, 32, 33, 34, 35, 36, 37, 38, 39, 40, 41, 42, 43, 44, 45, 46] :: bT 9 (.i (a0.L.length : Int) :: bT 11 (.e (z0t v1) :: bT 5 (bF 13 [])))) (pR 9 k1 (pA (lm z0t a0.L) (pA k1 (pA k1 (pR 9 k2 (pA (ixm z0t k3) (pR 5 k2 (pR 13 k4 pT)))))))) (by kernel_rfl)
  ·obtain rfl := retE h
   exact fin (ok X) 5 (.o [0, 1, 2, 3, 4, 5, 6, 7, 8, 9, 10, 11, 12, 13, 14, 15, 16, 17, 18, 19, 20, 21, 22, 23, 24, 25, 26, 27, 28, 29, 30, 31, 32, 33, 34, 35, 36, 37, 38, 39, 40, 41, 42, 43, 44, 45, 46] :: bT 9 (.i (a0.L.length : Int) :: .b true :: .b true :: bF 27 [])) (pR 9 k1 (pA (lm z0t a0.L) (pA k1 (pA k1 (pR 14 k2 (pR 13 ff pT)))))) (by kernel_rfl)
 ·obtain rfl := retE h
  exact fin (ok X) 5 (.o [0, 1, 2, 3, 4, 5, 6, 7, 8, 9, 10, 11, 12, 13, 14, 15, 16, 17, 18, 19, 20, 21, 22, 23, 24, 25, 26, 27, 28, 29, 30, 31, 32, 33, 34, 35, 36, 37, 38, 39, 40, 41, 42, 43, 44, 45, 46] :: bF 38 []) (pR 11 k1 (pR 27 ff pT)) (by kernel_rfl)

theorem z61 {a0 : z01} {a1 : Int} {r : z01} (h : z3l a0 a1 = some r) : Cs Tryz.prog (GX X) 32 [xP 0 0, xI a1] [oB 89 (bs (z0b a0))] (z5f r) (z5g r) := by
 refine fnT (cx := cx X) Tryz.f32 Tryz.call32 Tryz.func32 (by kernel_rfl) ?_
 unfold z3l at h
 rcases iteE h with ⟨k1, h⟩ | ⟨k1, h⟩
 ·obtain rfl := retE h
  exact fin (ok X) 5 [.b true] (pA k1 pT) (by kernel_rfl)
 ·refine adv (ok X) 9 [.b false, .o [0, 1, 2, 3, 4, 5, 6, 7, 8, 9], .i (a0.L.length : Int)] (pA k1 (pA (lm z0t a0.L) pT)) (by kernel_rfl) ?_
  rcases iteE h with ⟨k2, h⟩ | ⟨k2, h⟩
  ·obtain ⟨v1, k3, h⟩ := z06 h
   obtain rfl := retE h
   exact fin (ok X) 2 [.b true, .o [0, 1, 2, 3, 4, 5, 6, 7, 8, 9, 10, 11, 12, 13, 14], .e (z0t v1)] (pA k2 (pA (ixm z0t k3) pT)) (by kernel_rfl)
  ·obtain rfl := retE h
   exact fin (ok X) 2 [.b false] (pA k2 pT) (by kernel_rfl)

theorem z2w {a0 : z01} {r : (z01 × ByteArray)} (h : z0h a0 = some r) : Cs Tryz.prog (GX X) 28 [xP 0 0] [oB 89 (bs (z0b a0))] (z2e r) (z2f r) := by
 refine fnT (cx := cx X) Tryz.f28 Tryz.call28 Tryz.func28 (by kernel_rfl) ?_
 unfold z0h at h
 refine adv (ok X) 4 [] pT (by kernel_rfl) ?_
 refine jn (ok X) 1 (fun (j1 : Bool) => ⟨55, 1, [(0, [xP 0 0]), (33, [xB j1])], [oB 89 (bs (z0b a0))]⟩) h (fun j1 h => ?_) (fun j1 h => ?_)
 ·rcases iteE h with ⟨k1, h⟩ | ⟨k1, h⟩
  ·obtain rfl := retE h
   exact fin (ok X) 1 (.o [0, 1, 2, 3, 4, 5, 6, 7, 8, 9, 10, 11, 12, 13, 14, 15, 16, 17, 18, 19, 20, 21, 22, 23, 24, 25, 26, 27, 28, 29, 30] :: bT 24 []) (pR 11 k1 (pR 13 tt pT)) (by kernel_rfl)
  ·rcases iteE h with ⟨k2, h⟩ | ⟨k2, h⟩
   ·obtain rfl := retE h
    exact fin (ok X) 1 (.o [0, 1, 2, 3, 4, 5, 6, 7, 8, 9, 10, 11, 12, 13, 14, 15, 16, 17, 18, 19, 20, 21, 22, 23, 24, 25, 26, 27, 28, 29, 30] :: bF 9 (.i (a0.L.length : Int) :: .b false :: .b false :: bT 13 [])) (pR 9 k1 (pA (lm z0t a0.L) (pA k1 (pA k1 (pR 13 k2 pT))))) (by kernel_rfl)
   ·obtain ⟨v1, k3, h⟩ := z06 h
    obtain rfl := retE h
    exact fin (ok X) 1 (.o [0, 1, 2, 3, 4, 5, 6, 7, 8, 9, 10, 11, 12, 13, 14, 15, 16, 17, 18, 19, 20, 21, 22, 23, 24, 25, 26, 27, 28, 29, 30] :: bF 9 (.i (a0.L.length : Int) :: bF 11 (.e (z0t v1) :: bF 4 []))) (pR 9 k1 (pA (lm z0t a0.L) (pA k1 (pA k1 (pR 9 k2 (pA (ixm z0t k3) (pR 4 k2 pT))))))) (by kernel_rfl)
 ·rcases iteE h with ⟨k4, h⟩ | ⟨k4, h⟩
  ·obtain ⟨v2, k5, h⟩ := z06 h
   obtain rfl := retE h
   exact fin (ok X) 6 [.b true, .s (z5f v2) (z5g v2)] (pA k4 (pA (z61 (X := X) k5) pT)) (by kernel_rfl)
  ·obtain ⟨v3, k6, h⟩ := z06 h
   obtain rfl := retE h
   exact fin (ok X) 7 [.b false, .o [0, 1, 2, 3, 4, 5, 6, 7, 8, 9, 10, 11, 12], .e (z0t v3)] (pA k4 (pA (ixm z0t k6) pT)) (by kernel_rfl)

theorem z91 {a0 : z01} {r : (z01 × Int)} (h : z2u a0 = some r) : Cs Tryz.prog (GX X) 30 [xP 0 0] [oB 89 (bs (z0b a0))] (z7o r) (z7p r) := by
 refine fnT (cx := cx X) Tryz.f30 Tryz.call30 Tryz.func30 (by kernel_rfl) ?_
 unfold z2u at h
 refine adv (ok X) 4 [] pT (by kernel_rfl) ?_
 refine jn (ok X) 1 (fun (j1 : Bool) => ⟨55, 1, [(0, [xP 0 0]), (33, [xB j1])], [oB 89 (bs (z0b a0))]⟩) h (fun j1 h => ?_) (fun j1 h => ?_)
 ·rcases iteE h with ⟨k1, h⟩ | ⟨k1, h⟩
  ·obtain rfl := retE h
   exact fin (ok X) 1 (.o [0, 1, 2, 3, 4, 5, 6, 7, 8, 9, 10, 11, 12, 13, 14, 15, 16, 17, 18, 19, 20, 21, 22, 23, 24, 25, 26, 27, 28, 29, 30] :: bT 24 []) (pR 11 k1 (pR 13 tt pT)) (by kernel_rfl)
  ·rcases iteE h with ⟨k2, h⟩ | ⟨k2, h⟩
   ·obtain rfl := retE h
    exact fin (ok X) 1 (.o [0, 1, 2, 3, 4, 5, 6, 7, 8, 9, 10, 11, 12, 13, 14, 15, 16, 17, 18, 19, 20, 21, 22, 23, 24, 25, 26, 27, 28, 29, 30] :: bF 9 (.i (a0.L.length : Int) :: .b false :: .b false :: bT 13 [])) (pR 9 k1 (pA (lm z0t a0.L) (pA k1 (pA k1 (pR 13 k2 pT))))) (by kernel_rfl)
   ·obtain ⟨v1, k3, h⟩ := z06 h
    obtain rfl := retE h
    exact fin (ok X) 1 (.o [0, 1, 2, 3, 4, 5, 6, 7, 8, 9, 10, 11, 12, 13, 14, 15, 16, 17, 18, 19, 20, 21, 22, 23, 24, 25, 26, 27, 28, 29, 30] :: bF 9 (.i (a0.L.length : Int) :: bF 11 (.e (z0t v1) :: bF 4 []))) (pR 9 k1 (pA (lm z0t a0.L) (pA k1 (pA k1 (pR 9 k2 (pA (ixm z0t k3) (pR 4 k2 pT))))))) (by kernel_rfl)
 ·rcases iteE h with ⟨k4, h⟩ | ⟨k4, h⟩
  ·obtain ⟨v2, k5, h⟩ := z06 h
   obtain rfl := retE h
   exact fin (ok X) 6 [.b true, .s (z5f v2) (z5g v2)] (pA k4 (pA (z61 (X := X) k5) pT)) (by kernel_rfl)
  ·obtain ⟨v3, k6, h⟩ := z06 h
   obtain rfl := retE h
   exact fin (ok X) 7 [.b false, .o [0, 1, 2, 3, 4, 5, 6, 7, 8, 9, 10, 11, 12], .e (z0t v3)] (pA k4 (pA (ixm z0t k6) pT)) (by kernel_rfl)

theorem z1d {a0 : z01} {a1 : ByteArray} {r : z01} (h : z09 a0 a1 = some r) : Cs Tryz.prog (GX X) 29 [xP 0 0, xS a1] [oB 89 (bs (z0b a0))] (z19 r) (z1a r) := by
 refine fnT (cx := cx X) Tryz.f29 Tryz.call29 Tryz.func29 (by kernel_rfl) ?_
 unfold z09 at h
 obtain ⟨v1, k1, h⟩ := z06 h
 refine adv (ok X) 3 [.s (z1n v1) (z1o a0 v1)] (pA (z1u (X := X) k1) pT) (by kernel_rfl) ?_
 rcases iteE h with ⟨k2, h⟩ | ⟨k2, h⟩
 ·obtain ⟨v2, k3, h⟩ := z06 h
  obtain rfl := retE h
  exact fin (ok X) 4 [.b true, .s (z5f v2) (z5g v2)] (pA k2 (pA (z61 (X := X) k3) pT)) (by kernel_rfl)
 ·obtain rfl := retE h
  exact fin (ok X) 3 [.b false] (pA k2 pT) (by kernel_rfl)

theorem zht {a0 : z01} {r : (z01 × z3g)} (h : z71 a0 = some r) : Cs Tryz.prog (GX X) 27 [xP 0 0] [oB 89 (bs (z0b a0))] (za8 r) (za9 r) := by
 refine fnT (cx := cx X) Tryz.f27 Tryz.call27 Tryz.func27 (by kernel_rfl) ?_
 unfold z71 at h
 obtain ⟨v1, k1, h⟩ := z06 h
 refine adv (ok X) 9 [.s (z2e v1) (z2f v1)] (pA (z2w (X := X) k1) pT) (by kernel_rfl) ?_
 refine lp (ok X) (z47 v1) (fun (x1 : (Int × Int)) => ⟨78, 1, [(0, [xP 0 0]), (2, [xP 1 0]), (3, [xP 2 0]), (4, [xL (List.map z1j [(ByteArray.mk #[98, 108, 111, 99, 107]), (ByteArray.mk #[100, 114, 111, 112]), (ByteArray.mk #[108, 111, 115, 115, 121])])]), (5, [xI x1.1])], [oB 89 (bs (z0b v1.1)), oB 90 [.pv (.str (ByteArray.mk #[])), .pv (.int .i64 0), .pv (.int .i64 0), .pv (.str (ByteArray.mk #[])), .pv (.str (ByteArray.mk #[])), .emp], oB 90 [.pv (.str v1.2), .pv (.int .i64 x1.2), .pv (.int .i64 0), .pv (.str (ByteArray.mk #[])), .pv (.str (ByteArray.mk #[])), .emp]]⟩) (fun (j1 : Int) => ⟨78, 1, [(0, [xP 0 0]), (2, [xP 1 0]), (3, [xP 2 0])], [oB 89 (bs (z0b v1.1)), oB 90 [.pv (.str (ByteArray.mk #[])), .pv (.int .i64 0), .pv (.int .i64 0), .pv (.str (ByteArray.mk #[])), .pv (.str (ByteArray.mk #[])), .emp], oB 90 [.pv (.str v1.2), .pv (.int .i64 j1), .pv (.int .i64 0), .pv (.str (ByteArray.mk #[])), .pv (.str (ByteArray.mk #[])), .emp]]⟩) zd7 (0, (-1)) (fun _ => ⟨_, _, _, _, rfl⟩) h (by kernel_rfl) (fun x1 o h => ?_) (fun r' h => ?_) (fun j1 h => ?_)
 ·unfold z47 at h
  rcases iteE h with ⟨k2, h⟩ | ⟨k2, h⟩
  ·refine adv (ok X) 6 [.b true] (pA k2 pT) (by kernel_rfl) ?_
   refine jn (ok X) 1 (fun (j2 : Int) => ⟨78, 1, [(0, [xP 0 0]), (2, [xP 1 0]), (3, [xP 2 0]), (4, [xL (List.map z1j [(ByteArray.mk #[98, 108, 111, 99, 107]), (ByteArray.mk #[100, 114, 111, 112]), (ByteArray.mk #[108, 111, 115, 115, 121])])]), (5, [xI x1.1])], [oB 89 (bs (z0b v1.1)), oB 90 [.pv (.str (ByteArray.mk #[])), .pv (.int .i64 0), .pv (.int .i64 0), .pv (.str (ByteArray.mk #[])), .pv (.str (ByteArray.mk #[])), .emp], oB 90 [.pv (.str v1.2), .pv (.int .i64 j2), .pv (.int .i64 0), .pv (.str (ByteArray.mk #[])), .pv (.str (ByteArray.mk #[])), .emp]]⟩) h (fun j2 h => ?_) (fun j2 h => ?_)
   ·obtain ⟨v2, k3, h⟩ := z06 h
    obtain ⟨v3, k4, h⟩ := z06 h
    refine adv (ok X) 3 [.e [.str v2], .s (z1n v3) (z1o v1.1 v3)] (pA (ixm z1j k3) (pA (z1u (X := X) k4) pT)) (by kernel_rfl) ?_
    rcases iteE h with ⟨k5, h⟩ | ⟨k5, h⟩
    ·obtain rfl := retE h
     exact fin (ok X) 3 [.b true] (pA k5 pT) (by kernel_rfl)
    ·obtain rfl := retE h
     exact fin (ok X) 3 [.b false] (pA k5 pT) (by kernel_rfl)
   ·obtain rfl := retE h
    exact fin (ok X) 1 [] pT (by kernel_rfl)
  ·obtain rfl := retE h
   exact fin (ok X) 5 [.b false] (pA k2 pT) (by kernel_rfl)
 ·cases h
 ·rcases iteE h with ⟨k6, h⟩ | ⟨k6, h⟩
  ·obtain ⟨v4, k7, h⟩ := z06 h
   obtain rfl := retE h
   exact fin (ok X) 9 [.b true, .s (z5f v4) (z5g v4)] (pA k6 (pA (z61 (X := X) k7) pT)) (by kernel_rfl)
  ·obtain ⟨v5, k8, h⟩ := z06 h
   obtain ⟨v6, k9, h⟩ := z06 h
   obtain ⟨v7, k10, h⟩ := z06 h
   obtain ⟨v8, k11, h⟩ := z06 h
   obtain ⟨v9, k12, h⟩ := z06 h
   obtain ⟨v10, k13, h⟩ := z06 h
   obtain ⟨v11, k14, h⟩ := z06 h
   obtain ⟨v12, k15, h⟩ := z06 h
   refine adv (ok X) 22 [.b false, .s (z7o v5) (z7p v5), .s (z19 v6) (z1a v6), .s (z2e v7) (z2f v7), .s (z19 v8) (z1a v8), .s (z2e v9) (z2f v9), .s (z19 v10) (z1a v10), .o [0, 1, 2, 3, 4, 5, 6, 7], .s (z2e v11) (z2f v11), .l (List.map z1j v12)] (pA k6 (pA (z91 (X := X) k8) (pA (z1d (X := X) k9) (pA (z2w (X := X) k10) (pA (z1d (X := X) k11) (pA (z2w (X := X) k12) (pA (z1d (X := X) k13) (pA (z2w (X := X) k14) (pA (apm (L := []) (M := [v11.2]) z1q k15) pT))))))))) (by kernel_rfl) ?_
   refine lp (ok X) (z2v) (fun (x3 : ((List z0n) × Int × Int × Int × Int × (List ByteArray))) => ⟨78, 1, [(0, [xP 0 0]), (2, [xP 1 0]), (3, [xP 2 0])], [oB 89 (bs (z0b (z01.mk x3.1 x3.2.1 x3.2.2.1 x3.2.2.2.1 x3.2.2.2.2.1))), oB 90 [.pv (.str (ByteArray.mk #[])), .pv (.int .i64 0), .pv (.int .i64 0), .pv (.str (ByteArray.mk #[])), .pv (.str (ByteArray.mk #[])), .emp], oB 90 [.pv (.str v1.2), .pv (.int .i64 j1), .pv (.int .i64 v5.2), .pv (.str v7.2), .pv (.str v9.2), .row 3], oR true 9 1 (List.map z1j x3.2.2.2.2.2)]⟩) (fun (j3 : ((List z0n) × Int × Int × Int × Int × (List ByteArray))) => ⟨78, 1, [(0, [xP 0 0]), (2, [xP 1 0]), (3, [xP 2 0])], [oB 89 (bs (z0b (z01.mk j3.1 j3.2.1 j3.2.2.1 j3.2.2.2.1 j3.2.2.2.2.1))), oB 90 [.pv (.str (ByteArray.mk #[])), .pv (.int .i64 0), .pv (.int .i64 0), .pv (.str (ByteArray.mk #[])), .pv (.str (ByteArray.mk #[])), .emp], oB 90 [.pv (.str v1.2), .pv (.int .i64 j1), .pv (.int .i64 v5.2), .pv (.str v7.2), .pv (.str v9.2), .row 3], oR true 9 1 (List.map z1j j3.2.2.2.2.2)]⟩) zd7 (v11.1.L, v11.1.I, v11.1.End, v11.1.E, v11.1.At, v12) (fun _ => ⟨_, _, _, _, rfl⟩) h (by kernel_rfl) (fun x3 o h => ?_) (fun r' h => ?_) (fun j3 h => ?_)
   ·unfold z2v at h
    obtain ⟨v13, k16, h⟩ := z06 h
    refine adv (ok X) 3 [.s (z1n v13) (z1o (z01.mk x3.1 x3.2.1 x3.2.2.1 x3.2.2.2.1 x3.2.2.2.2.1) v13)] (pA (z1u (X := X) k16) pT) (by kernel_rfl) ?_
    rcases iteE h with ⟨k17, h⟩ | ⟨k17, h⟩
    ·obtain ⟨v14, k18, h⟩ := z06 h
     obtain ⟨v15, k19, h⟩ := z06 h
     obtain rfl := retE h
     exact fin (ok X) 7 [.b true, .o [0, 1, 2, 3, 4, 5, 6, 7], .s (z2e v14) (z2f v14), .l (List.map z1j v15)] (pA k17 (pA (z2w (X := X) k18) (pA (apm (L := x3.2.2.2.2.2) (M := [v14.2]) z1q k19) pT))) (by kernel_rfl)
    ·obtain rfl := retE h
     exact fin (ok X) 2 [.b false] (pA k17 pT) (by kernel_rfl)
   ·cases h
   ·obtain ⟨v16, k20, h⟩ := z06 h
    obtain ⟨v17, k21, h⟩ := z06 h
    obtain rfl := retE h
    exact fin (ok X) 7 [.s (z19 v16) (z1a v16), .s (z19 v17) (z1a v17)] (pA (z1d (X := X) k20) (pA (z1d (X := X) k21) pT)) (by kernel_rfl)

theorem zkk {n : Nat} (ih_r03_Reader_expr : ∀ (a0 : z01) (a1 : Int) (r : (z01 × z07)), z1t n a0 a1 = some r → Cs Tryz.prog (GX X) 68 [xP 0 0, xI a1] [oB 89 (bs (z0b a0))] (z4j r) (z4k r)) (ih_r03_Reader_chain : ∀ (a0 : z01) (a1 : Int) (a2 : (List ByteArray)) (a3 : Int) (r : (z01 × z07)), z12 n a0 a1 a2 a3 = some r → Cs Tryz.prog (GX X) 100 [xP 0 0, xI a1, xL (List.map z1j a2), xI a3] [oB 89 (bs (z0b a0))] (z4y r) (z4z r)) (ih_r03_Reader_factor : ∀ (a0 : z01) (a1 : Int) (r : (z01 × z07)), z0m n a0 a1 = some r → Cs Tryz.prog (GX X) 123 [xP 0 0, xI a1] [oB 89 (bs (z0b a0))] (z58 r) (z59 r)) (a0 : z01) (a1 : Int) (r : (z01 × z07)) (h : z1t (n + 1) a0 a1 = some r) : Cs Tryz.prog (GX X) 68 [xP 0 0, xI a1] [oB 89 (bs (z0b a0))] (z4j r) (z4k r) := by
 refine fnT (cx := cx X) Tryz.f68 Tryz.call68 Tryz.func68 (by kernel_rfl) ?_
 rw [z1t] at h
 obtain ⟨v1, k1, h⟩ := z06 h
 obtain rfl := retE h
 exact fin (ok X) 5 [.s (z4y v1) (z4z v1)] (pA (ih_r03_Reader_chain _ _ _ _ _ k1) pT) (by kernel_rfl)

theorem zjn {n : Nat} (ih_r03_Reader_expr : ∀ (a0 : z01) (a1 : Int) (r : (z01 × z07)), z1t n a0 a1 = some r → Cs Tryz.prog (GX X) 68 [xP 0 0, xI a1] [oB 89 (bs (z0b a0))] (z4j r) (z4k r)) (ih_r03_Reader_chain : ∀ (a0 : z01) (a1 : Int) (a2 : (List ByteArray)) (a3 : Int) (r : (z01 × z07)), z12 n a0 a1 a2 a3 = some r → Cs Tryz.prog (GX X) 100 [xP 0 0, xI a1, xL (List.map z1j a2), xI a3] [oB 89 (bs (z0b a0))] (z4y r) (z4z r)) (ih_r03_Reader_factor : ∀ (a0 : z01) (a1 : Int) (r : (z01 × z07)), z0m n a0 a1 = some r → Cs Tryz.prog (GX X) 123 [xP 0 0, xI a1] [oB 89 (bs (z0b a0))] (z58 r) (z59 r)) (a0 : z01) (a1 : Int) (a2 : (List ByteArray)) (a3 : Int) (r : (z01 × z07)) (h : z12 (n + 1) a0 a1 a2 a3 = some r) : Cs Tryz.prog (GX X) 100 [xP 0 0, xI a1, xL (List.map z1j a2), xI a3] [oB 89 (bs (z0b a0))] (z4y r) (z4z r) := by
 refine fnT (cx := cx X) Tryz.f100 Tryz.call100 Tryz.func100 (by kernel_rfl) ?_
 rw [z12] at h
 rcases iteE h with ⟨k1, h⟩ | ⟨k1, h⟩
 ·obtain ⟨v1, k2, h⟩ := z06 h
  refine adv (ok X) 10 [.b true, .s (z58 v1) (z59 v1)] (pA k1 (pA (ih_r03_Reader_factor _ _ _ k2) pT)) (by kernel_rfl) ?_
  refine lp (ok X) (z6m (z1t n) (z12 n) (z0m n) a1 a2 a3) (fun (x1 : ((List z0n) × Int × Int × Int × Int × Int × Int × ByteArray × (List z07))) => ⟨66, 1, [(0, [xP 0 0]), (1, [xI a1]), (2, [xL (List.map z1j a2)]), (3, [xI a3]), (8, [xP 1 0]), (9, [xP 2 0])], [oB 89 (bs (z0b (z01.mk x1.1 x1.2.1 x1.2.2.1 x1.2.2.2.1 x1.2.2.2.2.1))), oB 43 [.pv (.int .i64 0), .pv (.int .i64 0), .pv (.str (ByteArray.mk #[])), .emp], oB 43 (bs (z0w (z07.mk x1.2.2.2.2.2.1 x1.2.2.2.2.2.2.1 x1.2.2.2.2.2.2.2.1 x1.2.2.2.2.2.2.2.2)))]⟩) (fun (j1 : ((List z0n) × Int × Int × Int × Int × Int × Int × ByteArray × (List z07))) => ⟨66, 1, [(8, [xP 1 0]), (9, [xP 2 0])], [oB 89 (bs (z0b (z01.mk j1.1 j1.2.1 j1.2.2.1 j1.2.2.2.1 j1.2.2.2.2.1))), oB 43 [.pv (.int .i64 0), .pv (.int .i64 0), .pv (.str (ByteArray.mk #[])), .emp], oB 43 (bs (z0w (z07.mk j1.2.2.2.2.2.1 j1.2.2.2.2.2.2.1 j1.2.2.2.2.2.2.2.1 j1.2.2.2.2.2.2.2.2)))]⟩) z9e (v1.1.L, v1.1.I, v1.1.End, v1.1.E, v1.1.At, v1.2.Kind, v1.2.Num, v1.2.Name, v1.2.Kids) (fun _ => ⟨_, _, _, _, rfl⟩) h (by kernel_rfl) (fun x1 o h => ?_) (fun r' h => ?_) (fun j1 h => ?_)
  ·unfold z6m at h
   rcases iteE h with ⟨k3, h⟩ | ⟨k3, h⟩
   ·refine adv (ok X) 11 [.b true] (pA k3 pT) (by kernel_rfl) ?_
    refine lp (ok X) (z6l (z1t n) (z12 n) (z0m n) a2 x1) (fun (x2 : (Int × Int)) => ⟨66, 1, [(0, [xP 0 0]), (1, [xI a1]), (2, [xL (List.map z1j a2)]), (3, [xI a3]), (8, [xP 1 0]), (9, [xP 2 0]), (10, [xI x2.1]), (11, [xI x2.2])], [oB 89 (bs (z0b (z01.mk x1.1 x1.2.1 x1.2.2.1 x1.2.2.2.1 x1.2.2.2.2.1))), oB 43 [.pv (.int .i64 0), .pv (.int .i64 0), .pv (.str (ByteArray.mk #[])), .emp], oB 43 (bs (z0w (z07.mk x1.2.2.2.2.2.1 x1.2.2.2.2.2.2.1 x1.2.2.2.2.2.2.2.1 x1.2.2.2.2.2.2.2.2)))]⟩) (fun (j2 : Int) => ⟨66, 1, [(0, [xP 0 0]), (1, [xI a1]), (2, [xL (List.map z1j a2)]), (3, [xI a3]), (8, [xP 1 0]), (9, [xP 2 0]), (10, [xI j2])], [oB 89 (bs (z0b (z01.mk x1.1 x1.2.1 x1.2.2.1 x1.2.2.2.1 x1.2.2.2.2.1))), oB 43 [.pv (.int .i64 0), .pv (.int .i64 0), .pv (.str (ByteArray.mk #[])), .emp], oB 43 (bs (z0w (z07.mk x1.2.2.2.2.2.1 x1.2.2.2.2.2.2.1 x1.2.2.2.2.2.2.2.1 x1.2.2.2.2.2.2.2.2)))]⟩) z9e ((-1), 0) (fun _ => ⟨_, _, _, _, rfl⟩) h (by kernel_rfl) (fun x2 o h => ?_) (fun r' h => ?_) (fun j2 h => ?_)
    ·unfold z6l at h
     refine adv (ok X) 3 [.i (a2.length : Int)] (pA (lm z1j a2) pT) (by kernel_rfl) ?_
     rcases iteE h with ⟨k4, h⟩ | ⟨k4, h⟩
     ·refine adv (ok X) 3 [.b true] (pA k4 pT) (by kernel_rfl) ?_
      refine jn (ok X) 1 (fun (j3 : Int) => ⟨66, 1, [(0, [xP 0 0]), (1, [xI a1]), (2, [xL (List.map z1j a2)]), (3, [xI a3]), (8, [xP 1 0]), (9, [xP 2 0]), (10, [xI j3]), (11, [xI x2.2])], [oB 89 (bs (z0b (z01.mk x1.1 x1.2.1 x1.2.2.1 x1.2.2.2.1 x1.2.2.2.2.1))), oB 43 [.pv (.int .i64 0), .pv (.int .i64 0), .pv (.str (ByteArray.mk #[])), .emp], oB 43 (bs (z0w (z07.mk x1.2.2.2.2.2.1 x1.2.2.2.2.2.2.1 x1.2.2.2.2.2.2.2.1 x1.2.2.2.2.2.2.2.2)))]⟩) h (fun j3 h => ?_) (fun j3 h => ?_)
      ·obtain ⟨v2, k5, h⟩ := z06 h
       obtain ⟨v3, k6, h⟩ := z06 h
       refine adv (ok X) 3 [.e [.str v2], .s (z1n v3) (z1o (z01.mk x1.1 x1.2.1 x1.2.2.1 x1.2.2.2.1 x1.2.2.2.2.1) v3)] (pA (ixm z1j k5) (pA (z1u (X := X) k6) pT)) (by kernel_rfl) ?_
       rcases iteE h with ⟨k7, h⟩ | ⟨k7, h⟩
       ·obtain rfl := retE h
        exact fin (ok X) 3 [.b true] (pA k7 pT) (by kernel_rfl)
       ·obtain rfl := retE h
        exact fin (ok X) 3 [.b false] (pA k7 pT) (by kernel_rfl)
      ·obtain rfl := retE h
       exact fin (ok X) 1 [] pT (by kernel_rfl)
     ·obtain rfl := retE h
      exact fin (ok X) 2 [.b false] (pA k4 pT) (by kernel_rfl)
    ·cases h
    ·rcases iteE h with ⟨k8, h⟩ | ⟨k8, h⟩
     ·obtain rfl := retE h
      exact fin (ok X) 5 [.b true] (pA k8 pT) (by kernel_rfl)
     ·obtain ⟨v4, k9, h⟩ := z06 h
      obtain rfl := retE h
      exact fin (ok X) 16 [.b false, .b true, .s (z58 v4) (z59 v4), .bl (List.map z1z [(z07.mk x1.2.2.2.2.2.1 x1.2.2.2.2.2.2.1 x1.2.2.2.2.2.2.2.1 x1.2.2.2.2.2.2.2.2), v4.2])] (pA k8 (pA k1 (pA (ih_r03_Reader_factor _ _ _ k9) (pA (blc (e := z1z) (x := (z07.mk x1.2.2.2.2.2.1 x1.2.2.2.2.2.2.1 x1.2.2.2.2.2.2.2.1 x1.2.2.2.2.2.2.2.2)) (z25 _).symm (blc (e := z1z) (x := v4.2) (z25 _).symm (bl0 z1z))) pT)))) (by kernel_rfl)
   ·obtain rfl := retE h
    exact fin (ok X) 5 [.b false] (pA k3 pT) (by kernel_rfl)
  ·cases h
  ·obtain rfl := retE h
   exact fin (ok X) 3 [] pT (by kernel_rfl)
 ·obtain ⟨v5, k10, h⟩ := z06 h
  refine adv (ok X) 10 [.b false, .s (z4y v5) (z4z v5)] (pA k1 (pA (ih_r03_Reader_chain _ _ _ _ _ k10) pT)) (by kernel_rfl) ?_
  refine lp (ok X) (z6o (z1t n) (z12 n) (z0m n) a1 a2 a3) (fun (x4 : ((List z0n) × Int × Int × Int × Int × Int × Int × ByteArray × (List z07))) => ⟨66, 1, [(0, [xP 0 0]), (1, [xI a1]), (2, [xL (List.map z1j a2)]), (3, [xI a3]), (8, [xP 1 0]), (9, [xP 2 0])], [oB 89 (bs (z0b (z01.mk x4.1 x4.2.1 x4.2.2.1 x4.2.2.2.1 x4.2.2.2.2.1))), oB 43 [.pv (.int .i64 0), .pv (.int .i64 0), .pv (.str (ByteArray.mk #[])), .emp], oB 43 (bs (z0w (z07.mk x4.2.2.2.2.2.1 x4.2.2.2.2.2.2.1 x4.2.2.2.2.2.2.2.1 x4.2.2.2.2.2.2.2.2)))]⟩) (fun (j4 : ((List z0n) × Int × Int × Int × Int × Int × Int × ByteArray × (List z07))) => ⟨66, 1, [(8, [xP 1 0]), (9, [xP 2 0])], [oB 89 (bs (z0b (z01.mk j4.1 j4.2.1 j4.2.2.1 j4.2.2.2.1 j4.2.2.2.2.1))), oB 43 [.pv (.int .i64 0), .pv (.int .i64 0), .pv (.str (ByteArray.mk #[])), .emp], oB 43 (bs (z0w (z07.mk j4.2.2.2.2.2.1 j4.2.2.2.2.2.2.1 j4.2.2.2.2.2.2.2.1 j4.2.2.2.2.2.2.2.2)))]⟩) z9e (v5.1.L, v5.1.I, v5.1.End, v5.1.E, v5.1.At, v5.2.Kind, v5.2.Num, v5.2.Name, v5.2.Kids) (fun _ => ⟨_, _, _, _, rfl⟩) h (by kernel_rfl) (fun x4 o h => ?_) (fun r' h => ?_) (fun j4 h => ?_)
  ·unfold z6o at h
   rcases iteE h with ⟨k11, h⟩ | ⟨k11, h⟩
   ·refine adv (ok X) 11 [.b true] (pA k11 pT) (by kernel_rfl) ?_
    refine lp (ok X) (z6n (z1t n) (z12 n) (z0m n) a2 x4) (fun (x5 : (Int × Int)) => ⟨66, 1, [(0, [xP 0 0]), (1, [xI a1]), (2, [xL (List.map z1j a2)]), (3, [xI a3]), (8, [xP 1 0]), (9, [xP 2 0]), (10, [xI x5.1]), (11, [xI x5.2])], [oB 89 (bs (z0b (z01.mk x4.1 x4.2.1 x4.2.2.1 x4.2.2.2.1 x4.2.2.2.2.1))), oB 43 [.pv (.int .i64 0), .pv (.int .i64 0), .pv (.str (ByteArray.mk #[])), .emp], oB 43 (bs (z0w (z07.mk x4.2.2.2.2.2.1 x4.2.2.2.2.2.2.1 x4.2.2.2.2.2.2.2.1 x4.2.2.2.2.2.2.2.2)))]⟩) (fun (j5 : Int) => ⟨66, 1, [(0, [xP 0 0]), (1, [xI a1]), (2, [xL (List.map z1j a2)]), (3, [xI a3]), (8, [xP 1 0]), (9, [xP 2 0]), (10, [xI j5])], [oB 89 (bs (z0b (z01.mk x4.1 x4.2.1 x4.2.2.1 x4.2.2.2.1 x4.2.2.2.2.1))), oB 43 [.pv (.int .i64 0), .pv (.int .i64 0), .pv (.str (ByteArray.mk #[])), .emp], oB 43 (bs (z0w (z07.mk x4.2.2.2.2.2.1 x4.2.2.2.2.2.2.1 x4.2.2.2.2.2.2.2.1 x4.2.2.2.2.2.2.2.2)))]⟩) z9e ((-1), 0) (fun _ => ⟨_, _, _, _, rfl⟩) h (by kernel_rfl) (fun x5 o h => ?_) (fun r' h => ?_) (fun j5 h => ?_)
    ·unfold z6n at h
     refine adv (ok X) 3 [.i (a2.length : Int)] (pA (lm z1j a2) pT) (by kernel_rfl) ?_
     rcases iteE h with ⟨k12, h⟩ | ⟨k12, h⟩
     ·refine adv (ok X) 3 [.b true] (pA k12 pT) (by kernel_rfl) ?_
      refine jn (ok X) 1 (fun (j6 : Int) => ⟨66, 1, [(0, [xP 0 0]), (1, [xI a1]), (2, [xL (List.map z1j a2)]), (3, [xI a3]), (8, [xP 1 0]), (9, [xP 2 0]), (10, [xI j6]), (11, [xI x5.2])], [oB 89 (bs (z0b (z01.mk x4.1 x4.2.1 x4.2.2.1 x4.2.2.2.1 x4.2.2.2.2.1))), oB 43 [.pv (.int .i64 0), .pv (.int .i64 0), .pv (.str (ByteArray.mk #[])), .emp], oB 43 (bs (z0w (z07.mk x4.2.2.2.2.2.1 x4.2.2.2.2.2.2.1 x4.2.2.2.2.2.2.2.1 x4.2.2.2.2.2.2.2.2)))]⟩) h (fun j6 h => ?_) (fun j6 h => ?_)
      ·obtain ⟨v6, k13, h⟩ := z06 h
       obtain ⟨v7, k14, h⟩ := z06 h
       refine adv (ok X) 3 [.e [.str v6], .s (z1n v7) (z1o (z01.mk x4.1 x4.2.1 x4.2.2.1 x4.2.2.2.1 x4.2.2.2.2.1) v7)] (pA (ixm z1j k13) (pA (z1u (X := X) k14) pT)) (by kernel_rfl) ?_
       rcases iteE h with ⟨k15, h⟩ | ⟨k15, h⟩
       ·obtain rfl := retE h
        exact fin (ok X) 3 [.b true] (pA k15 pT) (by kernel_rfl)
       ·obtain rfl := retE h
        exact fin (ok X) 3 [.b false] (pA k15 pT) (by kernel_rfl)
      ·obtain rfl := retE h
       exact fin (ok X) 1 [] pT (by kernel_rfl)
     ·obtain rfl := retE h
      exact fin (ok X) 2 [.b false] (pA k12 pT) (by kernel_rfl)
    ·cases h
    ·rcases iteE h with ⟨k16, h⟩ | ⟨k16, h⟩
     ·obtain rfl := retE h
      exact fin (ok X) 5 [.b true] (pA k16 pT) (by kernel_rfl)
     ·obtain ⟨v8, k17, h⟩ := z06 h
      obtain rfl := retE h
      exact fin (ok X) 16 [.b false, .b false, .s (z4y v8) (z4z v8), .bl (List.map z1z [(z07.mk x4.2.2.2.2.2.1 x4.2.2.2.2.2.2.1 x4.2.2.2.2.2.2.2.1 x4.2.2.2.2.2.2.2.2), v8.2])] (pA k16 (pA k1 (pA (ih_r03_Reader_chain _ _ _ _ _ k17) (pA (blc (e := z1z) (x := (z07.mk x4.2.2.2.2.2.1 x4.2.2.2.2.2.2.1 x4.2.2.2.2.2.2.2.1 x4.2.2.2.2.2.2.2.2)) (z25 _).symm (blc (e := z1z) (x := v8.2) (z25 _).symm (bl0 z1z))) pT)))) (by kernel_rfl)
   ·obtain rfl := retE h
    exact fin (ok X) 5 [.b false] (pA k11 pT) (by kernel_rfl)
  ·cases h
  ·obtain rfl := retE h
   exact fin (ok X) 3 [] pT (by kernel_rfl)

theorem ziy {n : Nat} (ih_r03_Reader_expr : ∀ (a0 : z01) (a1 : Int) (r : (z01 × z07)), z1t n a0 a1 = some r → Cs Tryz.prog (GX X) 68 [xP 0 0, xI a1] [oB 89 (bs (z0b a0))] (z4j r) (z4k r)) (ih_r03_Reader_chain : ∀ (a0 : z01) (a1 : Int) (a2 : (List ByteArray)) (a3 : Int) (r : (z01 × z07)), z12 n a0 a1 a2 a3 = some r → Cs Tryz.prog (GX X) 100 [xP 0 0, xI a1, xL (List.map z1j a2), xI a3] [oB 89 (bs (z0b a0))] (z4y r) (z4z r)) (ih_r03_Reader_factor : ∀ (a0 : z01) (a1 : Int) (r : (z01 × z07)), z0m n a0 a1 = some r → Cs Tryz.prog (GX X) 123 [xP 0 0, xI a1] [oB 89 (bs (z0b a0))] (z58 r) (z59 r)) (a0 : z01) (a1 : Int) (r : (z01 × z07)) (h : z0m (n + 1) a0 a1 = some r) : Cs Tryz.prog (GX X) 123 [xP 0 0, xI a1] [oB 89 (bs (z0b a0))] (z58 r) (z59 r) := by
 refine fnT (cx := cx X) Tryz.f123 Tryz.call123 Tryz.func123 (by kernel_rfl) ?_
 rw [z0m] at h
 refine adv (ok X) 4 [] pT (by kernel_rfl) ?_
 refine jn (ok X) 1 (fun (j1 : Bool) => ⟨78, 1, [(0, [xP 0 0]), (1, [xI a1]), (4, [xP 1 0]), (12, [xB j1])], [oB 89 (bs (z0b a0)), oB 43 [.pv (.int .i64 0), .pv (.int .i64 0), .pv (.str (ByteArray.mk #[])), .emp]]⟩) h (fun j1 h => ?_) (fun j1 h => ?_)
 ·obtain ⟨v1, k1, h⟩ := z06 h
  rcases iteE h with ⟨k2, h⟩ | ⟨k2, h⟩
  ·obtain rfl := retE h
   exact fin (ok X) 1 (.s (z1n v1) (z1o a0 v1) :: bT 3 []) (pA (z1u (X := X) k1) (pR 3 k2 pT)) (by kernel_rfl)
  ·obtain ⟨v2, k3, h⟩ := z06 h
   obtain rfl := retE h
   exact fin (ok X) 1 [.s (z1n v1) (z1o a0 v1), .b false, .b false, .s (z1n v2) (z1o a0 v2), .b false] (pA (z1u (X := X) k1) (pA k2 (pA k2 (pA (z1u (X := X) k3) (pA k2 pT))))) (by kernel_rfl)
 ·rcases iteE h with ⟨k4, h⟩ | ⟨k4, h⟩
  ·refine adv (ok X) 4 [.b true] (pA k4 pT) (by kernel_rfl) ?_
   rcases iteE h with ⟨k5, h⟩ | ⟨k5, h⟩
   ·obtain ⟨v3, k6, h⟩ := z06 h
    obtain rfl := retE h
    exact fin (ok X) 6 [.b true, .s (z5f v3) (z5g v3)] (pA k5 (pA (z61 (X := X) k6) pT)) (by kernel_rfl)
   ·obtain ⟨v4, k7, h⟩ := z06 h
    refine adv (ok X) 9 [.b false, .s (z1n v4) (z1o a0 v4)] (pA k5 (pA (z1u (X := X) k7) pT)) (by kernel_rfl) ?_
    rcases iteE h with ⟨k8, h⟩ | ⟨k8, h⟩
    ·obtain ⟨v5, k9, h⟩ := z06 h
     obtain rfl := retE h
     exact fin (ok X) 4 [.b true, .s (z58 v5) (z59 v5), .bl (List.map z1z [v5.2])] (pA k8 (pA (ih_r03_Reader_factor _ _ _ k9) (pA (blc (e := z1z) (x := v5.2) (z25 _).symm (bl0 z1z)) pT))) (by kernel_rfl)
    ·obtain ⟨v6, k10, h⟩ := z06 h
     obtain ⟨v7, k11, h⟩ := z06 h
     obtain rfl := retE h
     exact fin (ok X) 9 [.b false, .s (z4j v6) (z4k v6), .s (z19 v7) (z1a v7)] (pA k8 (pA (ih_r03_Reader_expr _ _ _ k10) (pA (z1d (X := X) k11) pT))) (by kernel_rfl)
  ·refine adv (ok X) 4 [.b false] (pA k4 pT) (by kernel_rfl) ?_
   refine jn (ok X) 1 (fun (j2 : Bool) => ⟨78, 1, [(0, [xP 0 0]), (4, [xP 1 0]), (71, [xB j2])], [oB 89 (bs (z0b a0)), oB 43 [.pv (.int .i64 0), .pv (.int .i64 0), .pv (.str (ByteArray.mk #[])), .emp]]⟩) h (fun j2 h => ?_) (fun j2 h => ?_)
   ·rcases iteE h with ⟨k12, h⟩ | ⟨k12, h⟩
    ·rcases iteE h with ⟨k13, h⟩ | ⟨k13, h⟩
     ·obtain ⟨v8, k14, h⟩ := z06 h
      obtain rfl := retE h
      exact fin (ok X) 1 (.o [0, 1, 2, 3, 4, 5, 6, 7, 8, 9, 10, 11, 12, 13, 14, 15, 16, 17, 18, 19, 20, 21, 22, 23, 24, 25, 26, 27, 28, 29, 30] :: bT 9 (.i (a0.L.length : Int) :: bT 11 (.e (z0t v8) :: bT 4 []))) (pR 9 k12 (pA (lm z0t a0.L) (pA k12 (pA k12 (pR 9 k13 (pA (ixm z0t k14) (pR 4 k13 pT))))))) (by kernel_rfl)
     ·obtain rfl := retE h
      exact fin (ok X) 1 (.o [0, 1, 2, 3, 4, 5, 6, 7, 8, 9, 10, 11, 12, 13, 14, 15, 16, 17, 18, 19, 20, 21, 22, 23, 24, 25, 26, 27, 28, 29, 30] :: bT 9 (.i (a0.L.length : Int) :: .b true :: .b true :: bF 13 [])) (pR 9 k12 (pA (lm z0t a0.L) (pA k12 (pA k12 (pR 13 k13 pT))))) (by kernel_rfl)
    ·obtain rfl := retE h
     exact fin (ok X) 1 (.o [0, 1, 2, 3, 4, 5, 6, 7, 8, 9, 10, 11, 12, 13, 14, 15, 16, 17, 18, 19, 20, 21, 22, 23, 24, 25, 26, 27, 28, 29, 30] :: bF 24 []) (pR 11 k12 (pR 13 ff pT)) (by kernel_rfl)
   ·rcases iteE h with ⟨k15, h⟩ | ⟨k15, h⟩
    ·obtain ⟨v9, k16, h⟩ := z06 h
     obtain rfl := retE h
     exact fin (ok X) 4 [.b true, .s (z7o v9) (z7p v9)] (pA k15 (pA (z91 (X := X) k16) pT)) (by kernel_rfl)
    ·obtain ⟨v10, k17, h⟩ := z06 h
     obtain rfl := retE h
     exact fin (ok X) 5 [.b false, .s (z2e v10) (z2f v10)] (pA k15 (pA (z2w (X := X) k17) pT)) (by kernel_rfl)

theorem zeb : ∀ n : Nat, (∀ (a0 : z01) (a1 : Int) (r : (z01 × z07)), z1t n a0 a1 = some r → Cs Tryz.prog (GX X) 68 [xP 0 0, xI a1] [oB 89 (bs (z0b a0))] (z4j r) (z4k r)) ∧ (∀ (a0 : z01) (a1 : Int) (a2 : (List ByteArray)) (a3 : Int) (r : (z01 × z07)), z12 n a0 a1 a2 a3 = some r → Cs Tryz.prog (GX X) 100 [xP 0 0, xI a1, xL (List.map z1j a2), xI a3] [oB 89 (bs (z0b a0))] (z4y r) (z4z r)) ∧ (∀ (a0 : z01) (a1 : Int) (r : (z01 × z07)), z0m n a0 a1 = some r → Cs Tryz.prog (GX X) 123 [xP 0 0, xI a1] [oB 89 (bs (z0b a0))] (z58 r) (z59 r))
 | 0 => ⟨(fun _ _ _ h => by rw [z1t] at h; cases h), (fun _ _ _ _ _ h => by rw [z12] at h; cases h), (fun _ _ _ h => by rw [z0m] at h; cases h)⟩
 | n + 1 => by
  have ih := zeb n
  exact ⟨zkk ih.1 ih.2.1 ih.2.2, zjn ih.1 ih.2.1 ih.2.2, ziy ih.1 ih.2.1 ih.2.2⟩

theorem za3 {a0 : z01} {a1 : Int} {r : (z01 × z07)} (h : z5a a0 a1 = some r) : Cs Tryz.prog (GX X) 68 [xP 0 0, xI a1] [oB 89 (bs (z0b a0))] (z4j r) (z4k r) := by
 obtain ⟨n, hn⟩ := unfE h
 exact (zeb n).1 _ _ _ hn

theorem zcj {a0 : z01} {r : (z01 × z2b)} (h : z5u a0 = some r) : Cs Tryz.prog (GX X) 66 [xP 0 0] [oB 89 (bs (z0b a0))] (z8k r) (z8l r) := by
 refine fnT (cx := cx X) Tryz.f66 Tryz.call66 Tryz.func66 (by kernel_rfl) ?_
 unfold z5u at h
 obtain ⟨v1, k1, h⟩ := z06 h
 obtain ⟨v2, k2, h⟩ := z06 h
 refine adv (ok X) 11 [.s (z19 v1) (z1a v1), .s (z4j v2) (z4k v2)] (pA (z1d (X := X) k1) (pA (za3 (X := X) k2) pT)) (by kernel_rfl) ?_
 refine lp (ok X) (z69 v2) (fun (x1 : (Int × z2b)) => ⟨44, 1, [(0, [xP 0 0]), (2, [xP 1 0]), (3, [xP 2 0]), (4, [xL (List.map z1j [(ByteArray.mk #[61, 61]), (ByteArray.mk #[33, 61]), (ByteArray.mk #[60]), (ByteArray.mk #[60, 61]), (ByteArray.mk #[62]), (ByteArray.mk #[62, 61])])]), (5, [xI x1.1])], [oB 89 (bs (z0b v2.1)), oB 46 [.pv (.int .i64 0), .pv (.int .i64 0), .pv (.int .i64 0), .pv (.str (ByteArray.mk #[])), .emp, .pv (.int .i64 0), .pv (.int .i64 0), .pv (.str (ByteArray.mk #[])), .emp], oB 46 (bs (z7v x1.2))]⟩) (fun (j1 : z2b) => ⟨44, 1, [(0, [xP 0 0]), (2, [xP 1 0]), (3, [xP 2 0])], [oB 89 (bs (z0b v2.1)), oB 46 [.pv (.int .i64 0), .pv (.int .i64 0), .pv (.int .i64 0), .pv (.str (ByteArray.mk #[])), .emp, .pv (.int .i64 0), .pv (.int .i64 0), .pv (.str (ByteArray.mk #[])), .emp], oB 46 (bs (z7v j1))]⟩) zkh (0, (z2b.mk 0 v2.2 (z07.mk 0 0 (ByteArray.mk #[]) []))) (fun _ => ⟨_, _, _, _, rfl⟩) h (by kernel_rfl) (fun x1 o h => ?_) (fun r' h => ?_) (fun j1 h => ?_)
 ·unfold z69 at h
  rcases iteE h with ⟨k3, h⟩ | ⟨k3, h⟩
  ·refine adv (ok X) 6 [.b true] (pA k3 pT) (by kernel_rfl) ?_
   refine jn (ok X) 1 (fun (j2 : Int) => ⟨44, 1, [(0, [xP 0 0]), (2, [xP 1 0]), (3, [xP 2 0]), (4, [xL (List.map z1j [(ByteArray.mk #[61, 61]), (ByteArray.mk #[33, 61]), (ByteArray.mk #[60]), (ByteArray.mk #[60, 61]), (ByteArray.mk #[62]), (ByteArray.mk #[62, 61])])]), (5, [xI x1.1])], [oB 89 (bs (z0b v2.1)), oB 46 [.pv (.int .i64 0), .pv (.int .i64 0), .pv (.int .i64 0), .pv (.str (ByteArray.mk #[])), .emp, .pv (.int .i64 0), .pv (.int .i64 0), .pv (.str (ByteArray.mk #[])), .emp], oB 46 (bs (z7v (z2b.mk j2 x1.2.L x1.2.R)))]⟩) h (fun j2 h => ?_) (fun j2 h => ?_)
   ·obtain ⟨v3, k4, h⟩ := z06 h
    obtain ⟨v4, k5, h⟩ := z06 h
    refine adv (ok X) 3 [.e [.str v3], .s (z1n v4) (z1o v2.1 v4)] (pA (ixm z1j k4) (pA (z1u (X := X) k5) pT)) (by kernel_rfl) ?_
    rcases iteE h with ⟨k6, h⟩ | ⟨k6, h⟩
    ·obtain rfl := retE h
     exact fin (ok X) 3 [.b true] (pA k6 pT) (by kernel_rfl)
    ·obtain rfl := retE h
     exact fin (ok X) 3 [.b false] (pA k6 pT) (by kernel_rfl)
   ·obtain rfl := retE h
    exact fin (ok X) 1 [] pT (by kernel_rfl)
  ·obtain rfl := retE h
   exact fin (ok X) 5 [.b false] (pA k3 pT) (by kernel_rfl)
 ·cases h
 ·rcases iteE h with ⟨k7, h⟩ | ⟨k7, h⟩
  ·obtain ⟨v5, k8, h⟩ := z06 h
   obtain rfl := retE h
   exact fin (ok X) 9 [.b true, .s (z5f v5) (z5g v5)] (pA k7 (pA (z61 (X := X) k8) pT)) (by kernel_rfl)
  ·obtain ⟨v6, k9, h⟩ := z06 h
   obtain ⟨v7, k10, h⟩ := z06 h
   obtain rfl := retE h
   exact fin (ok X) 14 [.b false, .s (z4j v6) (z4k v6), .s (z19 v7) (z1a v7)] (pA k7 (pA (za3 (X := X) k9) (pA (z1d (X := X) k10) pT))) (by kernel_rfl)

theorem zjo {n : Nat} (ih_r03_Reader_stmts : ∀ (a0 : z01) (a1 : Int) (r : (z01 × (List z03))), z2g n a0 a1 = some r → Cs Tryz.prog (GX X) 31 [xP 0 0, xI a1] [oB 89 (bs (z0b a0))] (z5n r) (z5o r)) (ih_r03_Reader_block : ∀ (a0 : z01) (a1 : Int) (r : (z01 × (List z03))), z1k n a0 a1 = some r → Cs Tryz.prog (GX X) 67 [xP 0 0, xI a1] [oB 89 (bs (z0b a0))] (z5p r) (z5q r)) (a0 : z01) (a1 : Int) (r : (z01 × (List z03))) (h : z2g (n + 1) a0 a1 = some r) : Cs Tryz.prog (GX X) 31 [xP 0 0, xI a1] [oB 89 (bs (z0b a0))] (z5n r) (z5o r) := by
 refine fnT (cx := cx X) Tryz.f31 Tryz.call31 Tryz.func31 (by kernel_rfl) ?_
 rw [z2g] at h
 refine adv (ok X) 5 [] pT (by kernel_rfl) ?_
 refine lp (ok X) (z3a (z2g n) (z1k n) a1) (fun (x1 : ((List z0n) × Int × Int × Int × Int × (List z03))) => ⟨218, 1, [(0, [xP 0 0]), (1, [xI a1]), (5, [xR 1])], [oB 89 (bs (z0b (z01.mk x1.1 x1.2.1 x1.2.2.1 x1.2.2.2.1 x1.2.2.2.2.1))), oR true 50 19 (List.map z0d x1.2.2.2.2.2)]⟩) (fun (j1 : ((List z0n) × Int × Int × Int × Int × (List z03))) => ⟨218, 1, [(5, [xR 1])], [oB 89 (bs (z0b (z01.mk j1.1 j1.2.1 j1.2.2.1 j1.2.2.2.1 j1.2.2.2.2.1))), oR true 50 19 (List.map z0d j1.2.2.2.2.2)]⟩) zbv (a0.L, a0.I, a0.End, a0.E, a0.At, []) (fun _ => ⟨_, _, _, _, rfl⟩) h (by kernel_rfl) (fun x1 o h => ?_) (fun r' h => ?_) (fun j1 h => ?_)
 ·unfold z3a at h
  rcases iteE h with ⟨k1, h⟩ | ⟨k1, h⟩
  ·refine adv (ok X) 9 [.b true] (pA k1 pT) (by kernel_rfl) ?_
   refine jr (ok X) 1 (fun (j2 : ((List z0n) × Int × Int × Int × Int × z03 × (List z24))) => ⟨218, 1, [(0, [xP 0 0]), (1, [xI a1]), (5, [xR 1]), (6, [xP 2 0])], [oB 89 (bs (z0b (z01.mk j2.1 j2.2.1 j2.2.2.1 j2.2.2.2.1 j2.2.2.2.2.1))), oR true 50 19 (List.map z0d x1.2.2.2.2.2), oB 50 [.pv (.int .i64 j2.2.2.2.2.2.1.Kind), .pv (.str j2.2.2.2.2.2.1.Name), .pv (.str j2.2.2.2.2.2.1.Tag), .pv (.int .i64 j2.2.2.2.2.2.1.E.Kind), .pv (.int .i64 j2.2.2.2.2.2.1.E.Num), .pv (.str j2.2.2.2.2.2.1.E.Name), .pv (.sl (List.map z1z j2.2.2.2.2.2.1.E.Kids)), .pv (.int .i64 j2.2.2.2.2.2.1.C.Op), .pv (.int .i64 j2.2.2.2.2.2.1.C.L.Kind), .pv (.int .i64 j2.2.2.2.2.2.1.C.L.Num), .pv (.str j2.2.2.2.2.2.1.C.L.Name), .pv (.sl (List.map z1z j2.2.2.2.2.2.1.C.L.Kids)), .pv (.int .i64 j2.2.2.2.2.2.1.C.R.Kind), .pv (.int .i64 j2.2.2.2.2.2.1.C.R.Num), .pv (.str j2.2.2.2.2.2.1.C.R.Name), .pv (.sl (List.map z1z j2.2.2.2.2.2.1.C.R.Kids)), .pv (.sl (List.map z0d j2.2.2.2.2.2.1.Body)), .pv (.sl (List.map z0d j2.2.2.2.2.2.1.Else)), .row 3], oR true 151 3 (List.map z52 j2.2.2.2.2.2.2)]⟩) zbv (fun _ => ⟨_, _, _, _, rfl⟩) h (fun o h => ?_) (fun r' h => ?_) (fun j2 h => ?_)
   ·obtain ⟨v1, k2, h⟩ := z06 h
    refine adv (ok X) 3 [.s (z1n v1) (z1o (z01.mk x1.1 x1.2.1 x1.2.2.1 x1.2.2.2.1 x1.2.2.2.2.1) v1)] (pA (z1u (X := X) k2) pT) (by kernel_rfl) ?_
    rcases iteE h with ⟨k3, h⟩ | ⟨k3, h⟩
    ·obtain ⟨v2, k4, h⟩ := z06 h
     obtain ⟨v3, k5, h⟩ := z06 h
     obtain ⟨v4, k6, h⟩ := z06 h
     refine adv (ok X) 9 [.b true, .s (z8k v2) (z8l v2), .s (z5p v3) (z5q v3), .s (z1n v4) (z1o v3.1 v4)] (pA k3 (pA (zcj (X := X) k4) (pA (ih_r03_Reader_block _ _ _ k5) (pA (z1u (X := X) k6) pT)))) (by kernel_rfl) ?_
     rcases iteE h with ⟨k7, h⟩ | ⟨k7, h⟩
     ·obtain ⟨v5, k8, h⟩ := z06 h
      obtain rfl := retE h
      exact fin (ok X) 5 [.b true, .s (z5p v5) (z5q v5)] (pA k7 (pA (ih_r03_Reader_block _ _ _ k8) pT)) (by kernel_rfl)
     ·obtain rfl := retE h
      exact fin (ok X) 3 [.b false] (pA k7 pT) (by kernel_rfl)
    ·obtain ⟨v6, k9, h⟩ := z06 h
     refine adv (ok X) 3 [.b false, .s (z1n v6) (z1o (z01.mk x1.1 x1.2.1 x1.2.2.1 x1.2.2.2.1 x1.2.2.2.2.1) v6)] (pA k3 (pA (z1u (X := X) k9) pT)) (by kernel_rfl) ?_
     rcases iteE h with ⟨k10, h⟩ | ⟨k10, h⟩
     ·obtain ⟨v7, k11, h⟩ := z06 h
      obtain ⟨v8, k12, h⟩ := z06 h
      obtain rfl := retE h
      exact fin (ok X) 7 [.b true, .s (z8k v7) (z8l v7), .s (z5p v8) (z5q v8)] (pA k10 (pA (zcj (X := X) k11) (pA (ih_r03_Reader_block _ _ _ k12) pT))) (by kernel_rfl)
     ·obtain ⟨v9, k13, h⟩ := z06 h
      refine adv (ok X) 3 [.b false, .s (z1n v9) (z1o (z01.mk x1.1 x1.2.1 x1.2.2.1 x1.2.2.2.1 x1.2.2.2.2.1) v9)] (pA k10 (pA (z1u (X := X) k13) pT)) (by kernel_rfl) ?_
      rcases iteE h with ⟨k14, h⟩ | ⟨k14, h⟩
      ·obtain ⟨v10, k15, h⟩ := z06 h
       obtain ⟨v11, k16, h⟩ := z06 h
       obtain ⟨v12, k17, h⟩ := z06 h
       obtain ⟨v13, k18, h⟩ := z06 h
       obtain ⟨v14, k19, h⟩ := z06 h
       obtain ⟨v15, k20, h⟩ := z06 h
       obtain ⟨v16, k21, h⟩ := z06 h
       obtain rfl := retE h
       exact fin (ok X) 17 [.b true, .s (z2e v10) (z2f v10), .s (z19 v11) (z1a v11), .s (z2e v12) (z2f v12), .s (z19 v13) (z1a v13), .s (z4j v14) (z4k v14), .s (z19 v15) (z1a v15), .s (z19 v16) (z1a v16)] (pA k14 (pA (z2w (X := X) k15) (pA (z1d (X := X) k16) (pA (z2w (X := X) k17) (pA (z1d (X := X) k18) (pA (za3 (X := X) k19) (pA (z1d (X := X) k20) (pA (z1d (X := X) k21) pT)))))))) (by kernel_rfl)
      ·obtain ⟨v17, k22, h⟩ := z06 h
       refine adv (ok X) 3 [.b false, .s (z1n v17) (z1o (z01.mk x1.1 x1.2.1 x1.2.2.1 x1.2.2.2.1 x1.2.2.2.2.1) v17)] (pA k14 (pA (z1u (X := X) k22) pT)) (by kernel_rfl) ?_
       rcases iteE h with ⟨k23, h⟩ | ⟨k23, h⟩
       ·obtain ⟨v18, k24, h⟩ := z06 h
        obtain ⟨v19, k25, h⟩ := z06 h
        refine adv (ok X) 8 [.b true, .s (z2e v18) (z2f v18), .s (z19 v19) (z1a v19)] (pA k23 (pA (z2w (X := X) k24) (pA (z1d (X := X) k25) pT))) (by kernel_rfl) ?_
        refine lp (ok X) (z5b (z2g n) (z1k n) a1) (fun (x3 : ((List z0n) × Int × Int × Int × Int × (List z24))) => ⟨218, 1, [(0, [xP 0 0]), (1, [xI a1]), (5, [xR 1]), (6, [xP 2 0])], [oB 89 (bs (z0b (z01.mk x3.1 x3.2.1 x3.2.2.1 x3.2.2.2.1 x3.2.2.2.2.1))), oR true 50 19 (List.map z0d x1.2.2.2.2.2), oB 50 [.pv (.int .i64 5), .pv (.str v18.2), .pv (.str (ByteArray.mk #[])), .pv (.int .i64 0), .pv (.int .i64 0), .pv (.str (ByteArray.mk #[])), .emp, .pv (.int .i64 0), .pv (.int .i64 0), .pv (.int .i64 0), .pv (.str (ByteArray.mk #[])), .emp, .pv (.int .i64 0), .pv (.int .i64 0), .pv (.str (ByteArray.mk #[])), .emp, .emp, .emp, .row 3], oR true 151 3 (List.map z52 x3.2.2.2.2.2)]⟩) (fun (j3 : ((List z0n) × Int × Int × Int × Int × (List z24))) => ⟨218, 1, [(0, [xP 0 0]), (1, [xI a1]), (5, [xR 1]), (6, [xP 2 0])], [oB 89 (bs (z0b (z01.mk j3.1 j3.2.1 j3.2.2.1 j3.2.2.2.1 j3.2.2.2.2.1))), oR true 50 19 (List.map z0d x1.2.2.2.2.2), oB 50 [.pv (.int .i64 5), .pv (.str v18.2), .pv (.str (ByteArray.mk #[])), .pv (.int .i64 0), .pv (.int .i64 0), .pv (.str (ByteArray.mk #[])), .emp, .pv (.int .i64 0), .pv (.int .i64 0), .pv (.int .i64 0), .pv (.str (ByteArray.mk #[])), .emp, .pv (.int .i64 0), .pv (.int .i64 0), .pv (.str (ByteArray.mk #[])), .emp, .emp, .emp, .row 3], oR true 151 3 (List.map z52 j3.2.2.2.2.2)]⟩) zbv (v19.L, v19.I, v19.End, v19.E, v19.At, []) (fun _ => ⟨_, _, _, _, rfl⟩) h (by kernel_rfl) (fun x3 o h => ?_) (fun r' h => ?_) (fun j3 h => ?_)
        ·unfold z5b at h
         refine adv (ok X) 2 [] pT (by kernel_rfl) ?_
         refine jn (ok X) 1 (fun (j4 : Bool) => ⟨218, 1, [(0, [xP 0 0]), (1, [xI a1]), (5, [xR 1]), (6, [xP 2 0]), (122, [xB j4])], [oB 89 (bs (z0b (z01.mk x3.1 x3.2.1 x3.2.2.1 x3.2.2.2.1 x3.2.2.2.2.1))), oR true 50 19 (List.map z0d x1.2.2.2.2.2), oB 50 [.pv (.int .i64 5), .pv (.str v18.2), .pv (.str (ByteArray.mk #[])), .pv (.int .i64 0), .pv (.int .i64 0), .pv (.str (ByteArray.mk #[])), .emp, .pv (.int .i64 0), .pv (.int .i64 0), .pv (.int .i64 0), .pv (.str (ByteArray.mk #[])), .emp, .pv (.int .i64 0), .pv (.int .i64 0), .pv (.str (ByteArray.mk #[])), .emp, .emp, .emp, .row 3], oR true 151 3 (List.map z52 x3.2.2.2.2.2)]⟩) h (fun j4 h => ?_) (fun j4 h => ?_)
         ·rcases iteE h with ⟨k26, h⟩ | ⟨k26, h⟩
          ·rcases iteE h with ⟨k27, h⟩ | ⟨k27, h⟩
           ·obtain rfl := retE h
            exact fin (ok X) 1 (bT 3 (.i (x3.2.2.2.2.2.length : Int) :: bT 8 [])) (pR 3 k26 (pA (lm z52 x3.2.2.2.2.2) (pA k26 (pA k26 (pR 3 k27 (pA k26 (pA k27 (pA k26 pT)))))))) (by kernel_rfl)
           ·obtain ⟨v20, k28, h⟩ := z06 h
            obtain rfl := retE h
            exact fin (ok X) 1 (bT 3 [.i (x3.2.2.2.2.2.length : Int), .b true, .b true, .b false, .b false, .s (z1n v20) (z1o (z01.mk x3.1 x3.2.1 x3.2.2.1 x3.2.2.2.1 x3.2.2.2.2.1) v20), .b false, .b true, .b false, .b true]) (pR 3 k26 (pA (lm z52 x3.2.2.2.2.2) (pA k26 (pA k26 (pA k27 (pA k27 (pA (z1u (X := X) k28) (pA k27 (pA k26 (pA k27 (pA k26 pT))))))))))) (by kernel_rfl)
          ·obtain rfl := retE h
           exact fin (ok X) 1 (bF 7 []) (pR 7 k26 pT) (by kernel_rfl)
         ·rcases iteE h with ⟨k29, h⟩ | ⟨k29, h⟩
          ·obtain ⟨v21, k30, h⟩ := z06 h
           obtain ⟨v22, k31, h⟩ := z06 h
           obtain ⟨v23, k32, h⟩ := z06 h
           obtain ⟨v24, k33, h⟩ := z06 h
           obtain ⟨v25, k34, h⟩ := z06 h
           obtain ⟨v26, k35, h⟩ := z06 h
           obtain rfl := retE h
           exact fin (ok X) 17 [.b true, .s (z2e v21) (z2f v21), .s (z19 v22) (z1a v22), .s (z2e v23) (z2f v23), .s (z19 v24) (z1a v24), .s (z5p v25) (z5q v25), .bl (List.map z52 [(z24.mk v21.2 v23.2 v25.2)]), .l (List.map z52 v26)] (pA k29 (pA (z2w (X := X) k30) (pA (z1d (X := X) k31) (pA (z2w (X := X) k32) (pA (z1d (X := X) k33) (pA (ih_r03_Reader_block _ _ _ k34) (pA (blc (e := z52) (x := (z24.mk v21.2 v23.2 v25.2)) (z4x _).symm (bl0 z52)) (pA (apm (L := x3.2.2.2.2.2) (M := [(z24.mk v21.2 v23.2 v25.2)]) zjd k35) pT)))))))) (by kernel_rfl)
          ·obtain rfl := retE h
           exact fin (ok X) 2 [.b false] (pA k29 pT) (by kernel_rfl)
        ·cases h
        ·obtain ⟨v27, k36, h⟩ := z06 h
         obtain rfl := retE h
         exact fin (ok X) 2 [.s (z19 v27) (z1a v27)] (pA (z1d (X := X) k36) pT) (by kernel_rfl)
       ·obtain ⟨v28, k37, h⟩ := z06 h
        refine adv (ok X) 3 [.b false, .s (z1n v28) (z1o (z01.mk x1.1 x1.2.1 x1.2.2.1 x1.2.2.2.1 x1.2.2.2.2.1) v28)] (pA k23 (pA (z1u (X := X) k37) pT)) (by kernel_rfl) ?_
        rcases iteE h with ⟨k38, h⟩ | ⟨k38, h⟩
        ·obtain ⟨v29, k39, h⟩ := z06 h
         obtain ⟨v30, k40, h⟩ := z06 h
         obtain rfl := retE h
         exact fin (ok X) 7 [.b true, .s (z8k v29) (z8l v29), .s (z19 v30) (z1a v30)] (pA k38 (pA (zcj (X := X) k39) (pA (z1d (X := X) k40) pT))) (by kernel_rfl)
        ·obtain ⟨v31, k41, h⟩ := z06 h
         refine adv (ok X) 3 [.b false, .s (z1n v31) (z1o (z01.mk x1.1 x1.2.1 x1.2.2.1 x1.2.2.2.1 x1.2.2.2.2.1) v31)] (pA k38 (pA (z1u (X := X) k41) pT)) (by kernel_rfl) ?_
         rcases iteE h with ⟨k42, h⟩ | ⟨k42, h⟩
         ·obtain ⟨v32, k43, h⟩ := z06 h
          obtain ⟨v33, k44, h⟩ := z06 h
          obtain rfl := retE h
          exact fin (ok X) 7 [.b true, .s (z2e v32) (z2f v32), .s (z19 v33) (z1a v33)] (pA k42 (pA (z2w (X := X) k43) (pA (z1d (X := X) k44) pT))) (by kernel_rfl)
         ·refine adv (ok X) 2 [.b false] (pA k42 pT) (by kernel_rfl) ?_
          refine jn (ok X) 1 (fun (j5 : Bool) => ⟨218, 1, [(0, [xP 0 0]), (1, [xI a1]), (5, [xR 1]), (6, [xP 2 0]), (177, [xB j5])], [oB 89 (bs (z0b (z01.mk x1.1 x1.2.1 x1.2.2.1 x1.2.2.2.1 x1.2.2.2.2.1))), oR true 50 19 (List.map z0d x1.2.2.2.2.2), oB 50 [.pv (.int .i64 0), .pv (.str (ByteArray.mk #[])), .pv (.str (ByteArray.mk #[])), .pv (.int .i64 0), .pv (.int .i64 0), .pv (.str (ByteArray.mk #[])), .emp, .pv (.int .i64 0), .pv (.int .i64 0), .pv (.int .i64 0), .pv (.str (ByteArray.mk #[])), .emp, .pv (.int .i64 0), .pv (.int .i64 0), .pv (.str (ByteArray.mk #[])), .emp, .emp, .emp, .emp]]⟩) h (fun j5 h => ?_) (fun j5 h => ?_)
          ·rcases iteE h with ⟨k45, h⟩ | ⟨k45, h⟩
           ·obtain ⟨v34, k46, h⟩ := z06 h
            obtain rfl := retE h
            exact fin (ok X) 1 (.o [0, 1, 2, 3, 4, 5, 6, 7, 8, 9, 10, 11, 12, 13, 14, 15, 16, 17, 18, 19, 20, 21, 22, 23, 24] :: .i (x1.1.length : Int) :: bT 9 (.e (z0t v34) :: bT 4 [])) (pA (lm z0t x1.1) (pR 9 k45 (pA (ixm z0t k46) (pR 4 k45 pT)))) (by kernel_rfl)
           ·obtain rfl := retE h
            exact fin (ok X) 1 (.o [0, 1, 2, 3, 4, 5, 6, 7, 8, 9, 10, 11, 12, 13, 14, 15, 16, 17, 18, 19, 20, 21, 22, 23, 24] :: .i (x1.1.length : Int) :: bF 13 []) (pA (lm z0t x1.1) (pR 13 k45 pT)) (by kernel_rfl)
          ·rcases iteE h with ⟨k47, h⟩ | ⟨k47, h⟩
           ·obtain ⟨v35, k48, h⟩ := z06 h
            obtain ⟨v36, k49, h⟩ := z06 h
            obtain ⟨v37, k50, h⟩ := z06 h
            obtain ⟨v38, k51, h⟩ := z06 h
            obtain rfl := retE h
            exact fin (ok X) 9 [.b true, .s (z2e v35) (z2f v35), .s (z19 v36) (z1a v36), .s (z4j v37) (z4k v37), .s (z19 v38) (z1a v38)] (pA k47 (pA (z2w (X := X) k48) (pA (z1d (X := X) k49) (pA (za3 (X := X) k50) (pA (z1d (X := X) k51) pT))))) (by kernel_rfl)
           ·obtain rfl := retE h
            exact fin (ok X) 4 [.b false] (pA k47 pT) (by kernel_rfl)
   ·obtain rfl := retE h
    kernel_rfl
   ·obtain ⟨v39, k52, h⟩ := z06 h
    obtain rfl := retE h
    exact fin (ok X) 2 [.z (.fz 3), .bl (List.map z0d [(z03.mk j2.2.2.2.2.2.1.Kind j2.2.2.2.2.2.1.Name j2.2.2.2.2.2.1.Tag j2.2.2.2.2.2.1.E j2.2.2.2.2.2.1.C j2.2.2.2.2.2.1.Body j2.2.2.2.2.2.1.Else j2.2.2.2.2.2.2)]), .l (List.map z0d v39)] (pA (blc (e := z0d) (x := (z03.mk j2.2.2.2.2.2.1.Kind j2.2.2.2.2.2.1.Name j2.2.2.2.2.2.1.Tag j2.2.2.2.2.2.1.E j2.2.2.2.2.2.1.C j2.2.2.2.2.2.1.Body j2.2.2.2.2.2.1.Else j2.2.2.2.2.2.2)) (z8p _).symm (bl0 z0d)) (pA (apm (L := x1.2.2.2.2.2) (M := [(z03.mk j2.2.2.2.2.2.1.Kind j2.2.2.2.2.2.1.Name j2.2.2.2.2.2.1.Tag j2.2.2.2.2.2.1.E j2.2.2.2.2.2.1.C j2.2.2.2.2.2.1.Body j2.2.2.2.2.2.1.Else j2.2.2.2.2.2.2)]) zes k52) pT)) (by kernel_rfl)
  ·obtain rfl := retE h
   exact fin (ok X) 5 [.b false] (pA k1 pT) (by kernel_rfl)
 ·obtain rfl := retE h
  kernel_rfl
 ·obtain rfl := retE h
  exact fin (ok X) 3 [] pT (by kernel_rfl)

theorem zjp {n : Nat} (ih_r03_Reader_stmts : ∀ (a0 : z01) (a1 : Int) (r : (z01 × (List z03))), z2g n a0 a1 = some r → Cs Tryz.prog (GX X) 31 [xP 0 0, xI a1] [oB 89 (bs (z0b a0))] (z5n r) (z5o r)) (ih_r03_Reader_block : ∀ (a0 : z01) (a1 : Int) (r : (z01 × (List z03))), z1k n a0 a1 = some r → Cs Tryz.prog (GX X) 67 [xP 0 0, xI a1] [oB 89 (bs (z0b a0))] (z5p r) (z5q r)) (a0 : z01) (a1 : Int) (r : (z01 × (List z03))) (h : z1k (n + 1) a0 a1 = some r) : Cs Tryz.prog (GX X) 67 [xP 0 0, xI a1] [oB 89 (bs (z0b a0))] (z5p r) (z5q r) := by
 refine fnT (cx := cx X) Tryz.f67 Tryz.call67 Tryz.func67 (by kernel_rfl) ?_
 rw [z1k] at h
 refine adv (ok X) 4 [] pT (by kernel_rfl) ?_
 refine jn (ok X) 1 (fun (j1 : Bool) => ⟨23, 1, [(0, [xP 0 0]), (1, [xI a1]), (11, [xB j1])], [oB 89 (bs (z0b a0))]⟩) h (fun j1 h => ?_) (fun j1 h => ?_)
 ·obtain ⟨v1, k1, h⟩ := z06 h
  rcases iteE h with ⟨k2, h⟩ | ⟨k2, h⟩
  ·obtain rfl := retE h
   exact fin (ok X) 1 (.s (z1n v1) (z1o a0 v1) :: bT 3 []) (pA (z1u (X := X) k1) (pR 3 k2 pT)) (by kernel_rfl)
  ·obtain rfl := retE h
   exact fin (ok X) 1 (.s (z1n v1) (z1o a0 v1) :: bF 3 []) (pA (z1u (X := X) k1) (pR 3 k2 pT)) (by kernel_rfl)
 ·rcases iteE h with ⟨k3, h⟩ | ⟨k3, h⟩
  ·obtain ⟨v2, k4, h⟩ := z06 h
   obtain rfl := retE h
   exact fin (ok X) 6 [.b true, .s (z5f v2) (z5g v2)] (pA k3 (pA (z61 (X := X) k4) pT)) (by kernel_rfl)
  ·obtain ⟨v3, k5, h⟩ := z06 h
   obtain ⟨v4, k6, h⟩ := z06 h
   obtain ⟨v5, k7, h⟩ := z06 h
   obtain rfl := retE h
   exact fin (ok X) 11 [.b false, .s (z19 v3) (z1a v3), .s (z5n v4) (z5o v4), .s (z19 v5) (z1a v5)] (pA k3 (pA (z1d (X := X) k5) (pA (ih_r03_Reader_stmts _ _ _ k6) (pA (z1d (X := X) k7) pT)))) (by kernel_rfl)

theorem zd9 : ∀ n : Nat, (∀ (a0 : z01) (a1 : Int) (r : (z01 × (List z03))), z2g n a0 a1 = some r → Cs Tryz.prog (GX X) 31 [xP 0 0, xI a1] [oB 89 (bs (z0b a0))] (z5n r) (z5o r)) ∧ (∀ (a0 : z01) (a1 : Int) (r : (z01 × (List z03))), z1k n a0 a1 = some r → Cs Tryz.prog (GX X) 67 [xP 0 0, xI a1] [oB 89 (bs (z0b a0))] (z5p r) (z5q r))
 | 0 => ⟨(fun _ _ _ h => by rw [z2g] at h; cases h), (fun _ _ _ h => by rw [z1k] at h; cases h)⟩
 | n + 1 => by
  have ih := zd9 n
  exact ⟨zjo ih.1 ih.2, zjp ih.1 ih.2⟩

theorem zjq {a0 : z01} {a1 : Int} {r : (z01 × (List z03))} (h : z7z a0 a1 = some r) : Cs Tryz.prog (GX X) 31 [xP 0 0, xI a1] [oB 89 (bs (z0b a0))] (z5n r) (z5o r) := by
 obtain ⟨n, hn⟩ := unfE h
 exact (zd9 n).1 _ _ _ hn

theorem zmn {a0 : ByteArray} {r : (z0s × Int × Int)} (h : ze4 a0 = some r) : Cv Tryz.prog (GX X) 10 [xS a0] (ze5 r) := by
 refine Cs.toV (?_ : Cs Tryz.prog (GX X) 10 [xS a0] [] (ze5 r) (zmc r)) (by kernel_rfl)
 refine fnT (cx := cx X) Tryz.f10 Tryz.call10 Tryz.func10 (by kernel_rfl) ?_
 unfold ze4 at h
 obtain ⟨v1, k1, h⟩ := z06 h
 refine adv (ok X) 7 [.c (zgj v1)] (pA (zqv (X := X) k1) pT) (by kernel_rfl) ?_
 rcases iteE h with ⟨k2, h⟩ | ⟨k2, h⟩
 ·obtain rfl := retE h
  exact fin (ok X) 4 [.b true] (pA k2 pT) (by kernel_rfl)
 ·refine adv (ok X) 7 [.b false] (pA k2 pT) (by kernel_rfl) ?_
  refine lp (ok X) (z87) (fun (x1 : ((List z0n) × Int × Int × Int × Int × (List z3g))) => ⟨164, 0, [(2, [xP 0 0]), (8, [xP 1 0]), (9, [xP 2 0])], [oB 34 [.emp, .emp, .emp], oB 89 (bs (z0b (z01.mk x1.1 x1.2.1 x1.2.2.1 x1.2.2.2.1 x1.2.2.2.2.1))), oB 34 [.row 3, .emp, .emp], oR true 90 6 (List.map z3d x1.2.2.2.2.2)]⟩) (fun (j1 : ((List z0n) × Int × Int × Int × Int × (List z3g))) => ⟨164, 0, [(2, [xP 0 0]), (8, [xP 1 0]), (9, [xP 2 0])], [oB 34 [.emp, .emp, .emp], oB 89 (bs (z0b (z01.mk j1.1 j1.2.1 j1.2.2.1 j1.2.2.2.1 j1.2.2.2.2.1))), oB 34 [.row 3, .emp, .emp], oR true 90 6 (List.map z3d j1.2.2.2.2.2)]⟩) ze6 (v1.1, 0, (a0.size : Int), 0, 0, []) (fun _ => ⟨_, _, _, _, rfl⟩) h (by kernel_rfl) (fun x1 o h => ?_) (fun r' h => ?_) (fun j1 h => ?_)
  ·unfold z87 at h
   obtain ⟨v2, k3, h⟩ := z06 h
   refine adv (ok X) 3 [.s (z1n v2) (z1o (z01.mk x1.1 x1.2.1 x1.2.2.1 x1.2.2.2.1 x1.2.2.2.2.1) v2)] (pA (z1u (X := X) k3) pT) (by kernel_rfl) ?_
   rcases iteE h with ⟨k4, h⟩ | ⟨k4, h⟩
   ·obtain ⟨v3, k5, h⟩ := z06 h
    obtain ⟨v4, k6, h⟩ := z06 h
    obtain rfl := retE h
    exact fin (ok X) 7 [.b true, .o [0, 1, 2, 3, 4, 5, 6, 7], .s (za8 v3) (za9 v3), .l (List.map z3d v4)] (pA k4 (pA (zht (X := X) k5) (pA (apm (L := x1.2.2.2.2.2) (M := [v3.2]) zni k6) pT))) (by kernel_rfl)
   ·obtain rfl := retE h
    exact fin (ok X) 2 [.b false] (pA k4 pT) (by kernel_rfl)
  ·cases h
  ·refine adv (ok X) 1 [] pT (by kernel_rfl) ?_
   refine lp (ok X) (z88) (fun (x2 : ((List z0n) × Int × Int × Int × Int × (List z4q))) => ⟨164, 0, [(2, [xP 0 0]), (8, [xP 1 0]), (9, [xP 2 0])], [oB 34 [.emp, .emp, .emp], oB 89 (bs (z0b (z01.mk x2.1 x2.2.1 x2.2.2.1 x2.2.2.2.1 x2.2.2.2.2.1))), oB 34 [.row 3, .row 4, .emp], oR true 90 6 (List.map z3d j1.2.2.2.2.2), oR true 95 2 (List.map z2s x2.2.2.2.2.2)]⟩) (fun (j2 : ((List z0n) × Int × Int × Int × Int × (List z4q))) => ⟨164, 0, [(2, [xP 0 0]), (8, [xP 1 0]), (9, [xP 2 0])], [oB 34 [.emp, .emp, .emp], oB 89 (bs (z0b (z01.mk j2.1 j2.2.1 j2.2.2.1 j2.2.2.2.1 j2.2.2.2.2.1))), oB 34 [.row 3, .row 4, .emp], oR true 90 6 (List.map z3d j1.2.2.2.2.2), oR true 95 2 (List.map z2s j2.2.2.2.2.2)]⟩) ze6 (j1.1, j1.2.1, j1.2.2.1, j1.2.2.2.1, j1.2.2.2.2.1, []) (fun _ => ⟨_, _, _, _, rfl⟩) h (by kernel_rfl) (fun x2 o h => ?_) (fun r' h => ?_) (fun j2 h => ?_)
   ·unfold z88 at h
    obtain ⟨v5, k7, h⟩ := z06 h
    refine adv (ok X) 3 [.s (z1n v5) (z1o (z01.mk x2.1 x2.2.1 x2.2.2.1 x2.2.2.2.1 x2.2.2.2.2.1) v5)] (pA (z1u (X := X) k7) pT) (by kernel_rfl) ?_
    rcases iteE h with ⟨k8, h⟩ | ⟨k8, h⟩
    ·obtain ⟨v6, k9, h⟩ := z06 h
     obtain ⟨v7, k10, h⟩ := z06 h
     refine adv (ok X) 10 [.b true, .s (z2e v6) (z2f v6), .s (z19 v7) (z1a v7)] (pA k8 (pA (z2w (X := X) k9) (pA (z1d (X := X) k10) pT))) (by kernel_rfl) ?_
     refine lp (ok X) (z5r) (fun (x3 : ((List z0n) × Int × Int × Int × Int × (List z5m))) => ⟨164, 0, [(2, [xP 0 0]), (8, [xP 1 0]), (9, [xP 2 0]), (10, [xP 5 0])], [oB 34 [.emp, .emp, .emp], oB 89 (bs (z0b (z01.mk x3.1 x3.2.1 x3.2.2.1 x3.2.2.2.1 x3.2.2.2.2.1))), oB 34 [.row 3, .row 4, .emp], oR true 90 6 (List.map z3d j1.2.2.2.2.2), oR true 95 2 (List.map z2s x2.2.2.2.2.2), oB 95 [.pv (.str v6.2), .row 6], oR true 98 3 (List.map z5y x3.2.2.2.2.2)]⟩) (fun (j3 : ((List z0n) × Int × Int × Int × Int × (List z5m))) => ⟨164, 0, [(2, [xP 0 0]), (8, [xP 1 0]), (9, [xP 2 0]), (10, [xP 5 0])], [oB 34 [.emp, .emp, .emp], oB 89 (bs (z0b (z01.mk j3.1 j3.2.1 j3.2.2.1 j3.2.2.2.1 j3.2.2.2.2.1))), oB 34 [.row 3, .row 4, .emp], oR true 90 6 (List.map z3d j1.2.2.2.2.2), oR true 95 2 (List.map z2s x2.2.2.2.2.2), oB 95 [.pv (.str v6.2), .row 6], oR true 98 3 (List.map z5y j3.2.2.2.2.2)]⟩) ze6 (v7.L, v7.I, v7.End, v7.E, v7.At, []) (fun _ => ⟨_, _, _, _, rfl⟩) h (by kernel_rfl) (fun x3 o h => ?_) (fun r' h => ?_) (fun j3 h => ?_)
     ·unfold z5r at h
      refine adv (ok X) 2 [] pT (by kernel_rfl) ?_
      refine jn (ok X) 1 (fun (j4 : Bool) => ⟨164, 0, [(2, [xP 0 0]), (8, [xP 1 0]), (9, [xP 2 0]), (10, [xP 5 0]), (68, [xB j4])], [oB 34 [.emp, .emp, .emp], oB 89 (bs (z0b (z01.mk x3.1 x3.2.1 x3.2.2.1 x3.2.2.2.1 x3.2.2.2.2.1))), oB 34 [.row 3, .row 4, .emp], oR true 90 6 (List.map z3d j1.2.2.2.2.2), oR true 95 2 (List.map z2s x2.2.2.2.2.2), oB 95 [.pv (.str v6.2), .row 6], oR true 98 3 (List.map z5y x3.2.2.2.2.2)]⟩) h (fun j4 h => ?_) (fun j4 h => ?_)
      ·rcases iteE h with ⟨k11, h⟩ | ⟨k11, h⟩
       ·obtain ⟨v8, k12, h⟩ := z06 h
        obtain rfl := retE h
        exact fin (ok X) 1 [.b true, .b true, .s (z1n v8) (z1o (z01.mk x3.1 x3.2.1 x3.2.2.1 x3.2.2.2.1 x3.2.2.2.2.1) v8), .b true, .b true] (pA k11 (pA k11 (pA (z1u (X := X) k12) (pA k11 (pA k11 pT))))) (by kernel_rfl)
       ·obtain rfl := retE h
        exact fin (ok X) 1 (bF 4 []) (pR 4 k11 pT) (by kernel_rfl)
      ·rcases iteE h with ⟨k13, h⟩ | ⟨k13, h⟩
       ·obtain ⟨v9, k14, h⟩ := z06 h
        obtain ⟨v10, k15, h⟩ := z06 h
        obtain ⟨v11, k16, h⟩ := z06 h
        obtain ⟨v12, k17, h⟩ := z06 h
        obtain ⟨v13, k18, h⟩ := z06 h
        obtain rfl := retE h
        exact fin (ok X) 15 [.b true, .s (z7o v9) (z7p v9), .s (z2e v10) (z2f v10), .s (z7o v11) (z7p v11), .s (z19 v12) (z1a v12), .l (List.map z5y v13)] (pA k13 (pA (z91 (X := X) k14) (pA (z2w (X := X) k15) (pA (z91 (X := X) k16) (pA (z1d (X := X) k17) (pA (apm (L := x3.2.2.2.2.2) (M := [(z5m.mk v9.2 v10.2 v11.2)]) znj k18) pT)))))) (by kernel_rfl)
       ·obtain rfl := retE h
        exact fin (ok X) 2 [.b false] (pA k13 pT) (by kernel_rfl)
     ·cases h
     ·obtain ⟨v14, k19, h⟩ := z06 h
      obtain ⟨v15, k20, h⟩ := z06 h
      obtain rfl := retE h
      exact fin (ok X) 4 [.s (z19 v14) (z1a v14), .z (.fz 6), .l (List.map z2s v15)] (pA (z1d (X := X) k19) (pA (apm (L := x2.2.2.2.2.2) (M := [(z4q.mk v6.2 j3.2.2.2.2.2)]) znk k20) pT)) (by kernel_rfl)
    ·obtain rfl := retE h
     exact fin (ok X) 2 [.b false] (pA k8 pT) (by kernel_rfl)
   ·cases h
   ·refine adv (ok X) 1 [] pT (by kernel_rfl) ?_
    refine lp (ok X) (z7e) (fun (x5 : ((List z0n) × Int × Int × Int × Int × (List z42))) => ⟨164, 0, [(2, [xP 0 0]), (8, [xP 1 0]), (9, [xP 2 0])], [oB 34 [.emp, .emp, .emp], oB 89 (bs (z0b (z01.mk x5.1 x5.2.1 x5.2.2.1 x5.2.2.2.1 x5.2.2.2.2.1))), oB 34 [.row 3, .row 4, .row 5], oR true 90 6 (List.map z3d j1.2.2.2.2.2), oR true 95 2 (List.map z2s j2.2.2.2.2.2), oR true 53 3 (List.map z3y x5.2.2.2.2.2)]⟩) (fun (j5 : ((List z0n) × Int × Int × Int × Int × (List z42))) => ⟨164, 0, [(2, [xP 0 0]), (8, [xP 1 0]), (9, [xP 2 0])], [oB 34 [.emp, .emp, .emp], oB 89 (bs (z0b (z01.mk j5.1 j5.2.1 j5.2.2.1 j5.2.2.2.1 j5.2.2.2.2.1))), oB 34 [.row 3, .row 4, .row 5], oR true 90 6 (List.map z3d j1.2.2.2.2.2), oR true 95 2 (List.map z2s j2.2.2.2.2.2), oR true 53 3 (List.map z3y j5.2.2.2.2.2)]⟩) ze6 (j2.1, j2.2.1, j2.2.2.1, j2.2.2.2.1, j2.2.2.2.2.1, []) (fun _ => ⟨_, _, _, _, rfl⟩) h (by kernel_rfl) (fun x5 o h => ?_) (fun r' h => ?_) (fun j5 h => ?_)
    ·unfold z7e at h
     obtain ⟨v16, k21, h⟩ := z06 h
     refine adv (ok X) 3 [.s (z1n v16) (z1o (z01.mk x5.1 x5.2.1 x5.2.2.1 x5.2.2.2.1 x5.2.2.2.2.1) v16)] (pA (z1u (X := X) k21) pT) (by kernel_rfl) ?_
     rcases iteE h with ⟨k22, h⟩ | ⟨k22, h⟩
     ·obtain ⟨v17, k23, h⟩ := z06 h
      obtain ⟨v18, k24, h⟩ := z06 h
      refine adv (ok X) 10 [.b true, .s (z2e v17) (z2f v17), .s (z19 v18) (z1a v18)] (pA k22 (pA (z2w (X := X) k23) (pA (z1d (X := X) k24) pT))) (by kernel_rfl) ?_
      refine lp (ok X) (z5s) (fun (x6 : ((List z0n) × Int × Int × Int × Int × (List ByteArray))) => ⟨164, 0, [(2, [xP 0 0]), (8, [xP 1 0]), (9, [xP 2 0]), (12, [xP 6 0])], [oB 34 [.emp, .emp, .emp], oB 89 (bs (z0b (z01.mk x6.1 x6.2.1 x6.2.2.1 x6.2.2.2.1 x6.2.2.2.2.1))), oB 34 [.row 3, .row 4, .row 5], oR true 90 6 (List.map z3d j1.2.2.2.2.2), oR true 95 2 (List.map z2s j2.2.2.2.2.2), oR true 53 3 (List.map z3y x5.2.2.2.2.2), oB 53 [.pv (.str v17.2), .row 7, .emp], oR true 9 1 (List.map z1j x6.2.2.2.2.2)]⟩) (fun (j6 : ((List z0n) × Int × Int × Int × Int × (List ByteArray))) => ⟨164, 0, [(2, [xP 0 0]), (8, [xP 1 0]), (9, [xP 2 0]), (12, [xP 6 0])], [oB 34 [.emp, .emp, .emp], oB 89 (bs (z0b (z01.mk j6.1 j6.2.1 j6.2.2.1 j6.2.2.2.1 j6.2.2.2.2.1))), oB 34 [.row 3, .row 4, .row 5], oR true 90 6 (List.map z3d j1.2.2.2.2.2), oR true 95 2 (List.map z2s j2.2.2.2.2.2), oR true 53 3 (List.map z3y x5.2.2.2.2.2), oB 53 [.pv (.str v17.2), .row 7, .emp], oR true 9 1 (List.map z1j j6.2.2.2.2.2)]⟩) ze6 (v18.L, v18.I, v18.End, v18.E, v18.At, []) (fun _ => ⟨_, _, _, _, rfl⟩) h (by kernel_rfl) (fun x6 o h => ?_) (fun r' h => ?_) (fun j6 h => ?_)
      ·unfold z5s at h
       obtain ⟨v19, k25, h⟩ := z06 h
       refine adv (ok X) 3 [.s (z1n v19) (z1o (z01.mk x6.1 x6.2.1 x6.2.2.1 x6.2.2.2.1 x6.2.2.2.2.1) v19)] (pA (z1u (X := X) k25) pT) (by kernel_rfl) ?_
       rcases iteE h with ⟨k26, h⟩ | ⟨k26, h⟩
       ·obtain ⟨v20, k27, h⟩ := z06 h
        obtain ⟨v21, k28, h⟩ := z06 h
        obtain ⟨v22, k29, h⟩ := z06 h
        obtain rfl := retE h
        exact fin (ok X) 9 [.b true, .o [0, 1, 2, 3, 4, 5, 6, 7], .s (z2e v20) (z2f v20), .l (List.map z1j v21), .s (z19 v22) (z1a v22)] (pA k26 (pA (z2w (X := X) k27) (pA (apm (L := x6.2.2.2.2.2) (M := [v20.2]) z1q k28) (pA (z1d (X := X) k29) pT)))) (by kernel_rfl)
       ·obtain rfl := retE h
        exact fin (ok X) 2 [.b false] (pA k26 pT) (by kernel_rfl)
      ·cases h
      ·obtain ⟨v23, k30, h⟩ := z06 h
       obtain ⟨v24, k31, h⟩ := z06 h
       obtain ⟨v25, k32, h⟩ := z06 h
       obtain rfl := retE h
       exact fin (ok X) 6 [.s (z5n v23) (z5o v23), .s (z19 v24) (z1a v24), .z (.fz 7), .l (List.map z3y v25)] (pA (zjq (X := X) k30) (pA (z1d (X := X) k31) (pA (apm (L := x5.2.2.2.2.2) (M := [(z42.mk v17.2 j6.2.2.2.2.2 v23.2)]) znl k32) pT))) (by kernel_rfl)
     ·obtain rfl := retE h
      exact fin (ok X) 2 [.b false] (pA k22 pT) (by kernel_rfl)
    ·cases h
    ·refine adv (ok X) 3 [.o [0, 1, 2, 3, 4, 5, 6, 7, 8, 9], .i (j5.1.length : Int)] (pA (lm z0t j5.1) pT) (by kernel_rfl) ?_
     rcases iteE h with ⟨k33, h⟩ | ⟨k33, h⟩
     ·obtain ⟨v26, k34, h⟩ := z06 h
      refine adv (ok X) 5 [.b true, .s (z5f v26) (z5g v26)] (pA k33 (pA (z61 (X := X) k34) pT)) (by kernel_rfl) ?_
      rcases iteE h with ⟨k35, h⟩ | ⟨k35, h⟩
      ·obtain rfl := retE h
       exact fin (ok X) 4 [.b true, .o [0, 1, 2, 3, 4, 5, 6, 7, 8, 9, 10, 11]] (pA k35 pT) (by kernel_rfl)
      ·obtain rfl := retE h
       exact fin (ok X) 5 [.b false] (pA k35 pT) (by kernel_rfl)
     ·refine adv (ok X) 5 [.b false] (pA k33 pT) (by kernel_rfl) ?_
      rcases iteE h with ⟨k36, h⟩ | ⟨k36, h⟩
      ·obtain rfl := retE h
       exact fin (ok X) 4 [.b true, .o [0, 1, 2, 3, 4, 5, 6, 7, 8, 9, 10, 11]] (pA k36 pT) (by kernel_rfl)
      ·obtain rfl := retE h
       exact fin (ok X) 5 [.b false] (pA k36 pT) (by kernel_rfl)

theorem zwl {n : Nat} (ih_l02_Expr : ∀ (a0 : z07) (r : z05), zad n a0 = some r → Cv Tryz.prog (GX X) 73 [.agg (bs (z0w a0))] (z98 r)) (a0 : z07) (r : z05) (h : zad (n + 1) a0 = some r) : Cv Tryz.prog (GX X) 73 [.agg (bs (z0w a0))] (z98 r) := by
 refine Cs.toV (?_ : Cs Tryz.prog (GX X) 73 [.agg (bs (z0w a0))] [] (z98 r) (zo7 r)) (by kernel_rfl)
 refine fnT (cx := cx X) Tryz.f73 Tryz.call73 Tryz.func73 (by kernel_rfl) ?_
 rw [zad] at h
 refine adv (ok X) 7 [] pT (by kernel_rfl) ?_
 refine lp (ok X) (zcf (zad n) a0) (fun (x1 : (Int × (List z05))) => ⟨29, 0, [(1, [xP 0 0]), (2, [xP 1 0]), (3, [xR 2]), (4, [xI x1.1])], [oB 43 (bs (z0w a0)), oB 103 [.pv (.int .i64 0), .pv (.int .i64 0), .pv (.str (ByteArray.mk #[])), .emp], oR true 103 4 (List.map z14 x1.2)]⟩) (fun (j1 : (List z05)) => ⟨29, 0, [(1, [xP 0 0]), (2, [xP 1 0]), (3, [xR 2])], [oB 43 (bs (z0w a0)), oB 103 [.pv (.int .i64 0), .pv (.int .i64 0), .pv (.str (ByteArray.mk #[])), .emp], oR true 103 4 (List.map z14 j1)]⟩) zwc (0, []) (fun _ => ⟨_, _, _, _, rfl⟩) h (by kernel_rfl) (fun x1 o h => ?_) (fun r' h => ?_) (fun j1 h => ?_)
 ·unfold zcf at h
  refine adv (ok X) 3 [.i (a0.Kids.length : Int)] (pA (lm z1z a0.Kids) pT) (by kernel_rfl) ?_
  rcases iteE h with ⟨k1, h⟩ | ⟨k1, h⟩
  ·obtain ⟨v1, k2, h⟩ := z06 h
   obtain ⟨v2, k3, h⟩ := z06 h
   obtain ⟨v3, k4, h⟩ := z06 h
   obtain rfl := retE h
   exact fin (ok X) 7 [.b true, .e (z0w v1), .c (z98 v2), .bl (List.map z14 [v2]), .l (List.map z14 v3)] (pA k1 (pA (ixr z25 k2) (pA (ih_l02_Expr _ _ k3) (pA (blc (e := z14) (x := v2) (z5v _).symm (bl0 z14)) (pA (apm (L := x1.2) (M := [v2]) znb k4) pT))))) (by kernel_rfl)
  ·obtain rfl := retE h
   exact fin (ok X) 2 [.b false] (pA k1 pT) (by kernel_rfl)
 ·cases h
 ·obtain rfl := retE h
  exact fin (ok X) 3 [] pT (by kernel_rfl)

theorem zl3 : ∀ n : Nat, (∀ (a0 : z07) (r : z05), zad n a0 = some r → Cv Tryz.prog (GX X) 73 [.agg (bs (z0w a0))] (z98 r))
 | 0 => (fun _ _ h => by rw [zad] at h; cases h)
 | n + 1 => by
  have ih := zl3 n
  exact zwl ih

theorem zkl {a0 : z07} {r : z05} (h : zjj a0 = some r) : Cv Tryz.prog (GX X) 73 [.agg (bs (z0w a0))] (z98 r) := by
 obtain ⟨n, hn⟩ := unfE h
 exact (zl3 n) _ _ hn

theorem zwm {a0 : z2b} {r : z41} (h : zjk a0 = some r) : Cv Tryz.prog (GX X) 74 [.agg (bs (z7v a0))] (zki r) := by
 refine Cs.toV (?_ : Cs Tryz.prog (GX X) 74 [.agg (bs (z7v a0))] [] (zki r) (zwd r)) (by kernel_rfl)
 refine fnT (cx := cx X) Tryz.f74 Tryz.call74 Tryz.func74 (by kernel_rfl) ?_
 unfold zjk at h
 obtain ⟨v1, k1, h⟩ := z06 h
 obtain ⟨v2, k2, h⟩ := z06 h
 obtain rfl := retE h
 exact fin (ok X) 5 [.o [0, 1, 2, 3, 4, 5, 6, 7, 8, 9], .c (z98 v1), .c (z98 v2)] (pA (zkl (X := X) k1) (pA (zkl (X := X) k2) pT)) (by kernel_rfl)

theorem zss {n : Nat} (ih_l02_Stmts : ∀ (a0 : (List z03)) (r : (List z04)), z81 n a0 = some r → Cv Tryz.prog (GX X) 43 [xL (List.map z0d a0)] (z8d r)) (a0 : (List z03)) (r : (List z04)) (h : z81 (n + 1) a0 = some r) : Cv Tryz.prog (GX X) 43 [xL (List.map z0d a0)] (z8d r) := by
 refine Cs.toV (?_ : Cs Tryz.prog (GX X) 43 [xL (List.map z0d a0)] [] (z8d r) (zmd r)) (by kernel_rfl)
 refine fnT (cx := cx X) Tryz.f43 Tryz.call43 Tryz.func43 (by kernel_rfl) ?_
 rw [z81] at h
 refine adv (ok X) 7 [] pT (by kernel_rfl) ?_
 refine lp (ok X) (zbj (z81 n) a0) (fun (x1 : (Int × (List z04))) => ⟨74, 0, [(0, [xL (List.map z0d a0)]), (3, [xR 0]), (4, [xI x1.1])], [oR true 108 19 (List.map z16 x1.2)]⟩) (fun (j1 : (List z04)) => ⟨74, 0, [(3, [xR 0])], [oR true 108 19 (List.map z16 j1)]⟩) zme (0, []) (fun _ => ⟨_, _, _, _, rfl⟩) h (by kernel_rfl) (fun x1 o h => ?_) (fun r' h => ?_) (fun j1 h => ?_)
 ·unfold zbj at h
  refine adv (ok X) 3 [.i (a0.length : Int)] (pA (lm z0d a0) pT) (by kernel_rfl) ?_
  rcases iteE h with ⟨k1, h⟩ | ⟨k1, h⟩
  ·obtain ⟨v1, k2, h⟩ := z06 h
   obtain ⟨v2, k3, h⟩ := z06 h
   obtain ⟨v3, k4, h⟩ := z06 h
   obtain ⟨v4, k5, h⟩ := z06 h
   obtain ⟨v5, k6, h⟩ := z06 h
   refine adv (ok X) 11 [.b true, .e (z96 v1), .o [0, 1, 2, 3, 4, 5, 6, 7, 8, 9, 10, 11, 12, 13, 14, 15, 16, 17, 18, 19, 20], .c (z98 v2), .c (zki v3), .c (z8d v4), .c (z8d v5)] (pA k1 (pA (ixr z8p k2) (pA (zkl (X := X) k3) (pA (zwm (X := X) k4) (pA (ih_l02_Stmts _ _ k5) (pA (ih_l02_Stmts _ _ k6) pT)))))) (by kernel_rfl) ?_
   refine lp (ok X) (zbi (z81 n) v1) (fun (x2 : (Int × (List z13))) => ⟨74, 0, [(0, [xL (List.map z0d a0)]), (3, [xR 0]), (4, [xI x1.1]), (5, [xP 1 0]), (6, [xP 2 0]), (7, [xI x2.1])], [oR true 108 19 (List.map z16 x1.2), oB 50 (bs (z96 v1)), oB 108 [.pv (.int .i64 v1.Kind), .pv (.str v1.Name), .pv (.str v1.Tag), .pv (.int .i64 v2.Kind), .pv (.int .i64 v2.Num), .pv (.str v2.Name), .pv (.sl (List.map z14 v2.Kids)), .pv (.int .i64 v3.Op), .pv (.int .i64 v3.L.Kind), .pv (.int .i64 v3.L.Num), .pv (.str v3.L.Name), .pv (.sl (List.map z14 v3.L.Kids)), .pv (.int .i64 v3.R.Kind), .pv (.int .i64 v3.R.Num), .pv (.str v3.R.Name), .pv (.sl (List.map z14 v3.R.Kids)), .pv (.sl (List.map z16 v4)), .pv (.sl (List.map z16 v5)), .row 3], oR true 156 3 (List.map z2h x2.2)]⟩) (fun (j2 : (List z13)) => ⟨74, 0, [(0, [xL (List.map z0d a0)]), (3, [xR 0]), (4, [xI x1.1]), (6, [xP 2 0])], [oR true 108 19 (List.map z16 x1.2), none, oB 108 [.pv (.int .i64 v1.Kind), .pv (.str v1.Name), .pv (.str v1.Tag), .pv (.int .i64 v2.Kind), .pv (.int .i64 v2.Num), .pv (.str v2.Name), .pv (.sl (List.map z14 v2.Kids)), .pv (.int .i64 v3.Op), .pv (.int .i64 v3.L.Kind), .pv (.int .i64 v3.L.Num), .pv (.str v3.L.Name), .pv (.sl (List.map z14 v3.L.Kids)), .pv (.int .i64 v3.R.Kind), .pv (.int .i64 v3.R.Num), .pv (.str v3.R.Name), .pv (.sl (List.map z14 v3.R.Kids)), .pv (.sl (List.map z16 v4)), .pv (.sl (List.map z16 v5)), .row 3], oR true 156 3 (List.map z2h j2)]⟩) zme (0, []) (fun _ => ⟨_, _, _, _, rfl⟩) h (by kernel_rfl) (fun x2 o h => ?_) (fun r' h => ?_) (fun j2 h => ?_)
   ·unfold zbi at h
    refine adv (ok X) 3 [.i (v1.Arms.length : Int)] (pA (lm z52 v1.Arms) pT) (by kernel_rfl) ?_
    rcases iteE h with ⟨k7, h⟩ | ⟨k7, h⟩
    ·obtain ⟨v6, k8, h⟩ := z06 h
     obtain ⟨v7, k9, h⟩ := z06 h
     obtain ⟨v8, k10, h⟩ := z06 h
     obtain rfl := retE h
     exact fin (ok X) 7 [.b true, .o [0, 1, 2, 3, 4, 5, 6, 7, 8, 9, 10, 11, 12, 13, 14, 15, 16, 17, 18, 19, 20, 21, 22, 23, 24, 25], .e (z8j v6), .e (z8j v6), .e (z8j v6), .c (z8d v7), .bl (List.map z2h [(z13.mk v6.Tag v6.Var v7)]), .l (List.map z2h v8)] (pA k7 (pA (ixr z4x k8) (pA (ixr z4x k8) (pA (ixr z4x k8) (pA (ih_l02_Stmts _ _ k9) (pA (blc (e := z2h) (x := (z13.mk v6.Tag v6.Var v7)) (zax _).symm (bl0 z2h)) (pA (apm (L := x2.2) (M := [(z13.mk v6.Tag v6.Var v7)]) zfk k10) pT))))))) (by kernel_rfl)
    ·obtain rfl := retE h
     exact fin (ok X) 2 [.b false] (pA k7 pT) (by kernel_rfl)
   ·cases h
   ·obtain ⟨v9, k11, h⟩ := z06 h
    obtain rfl := retE h
    exact fin (ok X) 3 [.z (.fz 3), .bl (List.map z16 [(z04.mk v1.Kind v1.Name v1.Tag v2 v3 v4 v5 j2)]), .l (List.map z16 v9)] (pA (blc (e := z16) (x := (z04.mk v1.Kind v1.Name v1.Tag v2 v3 v4 v5 j2)) (z43 _).symm (bl0 z16)) (pA (apm (L := x1.2) (M := [(z04.mk v1.Kind v1.Name v1.Tag v2 v3 v4 v5 j2)]) zhz k11) pT)) (by kernel_rfl)
  ·obtain rfl := retE h
   exact fin (ok X) 2 [.b false] (pA k1 pT) (by kernel_rfl)
 ·cases h
 ·obtain rfl := retE h
  exact fin (ok X) 3 [] pT (by kernel_rfl)

theorem zjr : ∀ n : Nat, (∀ (a0 : (List z03)) (r : (List z04)), z81 n a0 = some r → Cv Tryz.prog (GX X) 43 [xL (List.map z0d a0)] (z8d r))
 | 0 => (fun _ _ h => by rw [z81] at h; cases h)
 | n + 1 => by
  have ih := zjr n
  exact zss ih

theorem zst {a0 : (List z03)} {r : (List z04)} (h : zmf a0 = some r) : Cv Tryz.prog (GX X) 43 [xL (List.map z0d a0)] (z8d r) := by
 obtain ⟨n, hn⟩ := unfE h
 exact (zjr n) _ _ hn

theorem zd0 {a0 : z0s} {r : z22} (h : zcg a0 = some r) : Cv Tryz.prog (GX X) 13 [.agg (bs (z15 a0))] (z8n r) := by
 refine Cs.toV (?_ : Cs Tryz.prog (GX X) 13 [.agg (bs (z15 a0))] [] (z8n r) (zl0 r)) (by kernel_rfl)
 refine fnT (cx := cx X) Tryz.f13 Tryz.call13 Tryz.func13 (by kernel_rfl) ?_
 unfold zcg at h
 refine adv (ok X) 7 [] pT (by kernel_rfl) ?_
 refine lp (ok X) (z9y a0) (fun (x1 : (Int × (List z33))) => ⟨124, 0, [(1, [xP 0 0]), (2, [xP 1 0]), (3, [xP 2 0]), (4, [xI x1.1])], [oB 34 (bs (z15 a0)), oB 26 [.emp, .emp, .emp], oB 26 [.row 3, .emp, .emp], oR true 73 6 (List.map z2k x1.2)]⟩) (fun (j1 : (List z33)) => ⟨124, 0, [(1, [xP 0 0]), (2, [xP 1 0]), (3, [xP 2 0])], [oB 34 (bs (z15 a0)), oB 26 [.emp, .emp, .emp], oB 26 [.row 3, .emp, .emp], oR true 73 6 (List.map z2k j1)]⟩) zel (0, []) (fun _ => ⟨_, _, _, _, rfl⟩) h (by kernel_rfl) (fun x1 o h => ?_) (fun r' h => ?_) (fun j1 h => ?_)
 ·unfold z9y at h
  refine adv (ok X) 3 [.i (a0.Chans.length : Int)] (pA (lm z3d a0.Chans) pT) (by kernel_rfl) ?_
  rcases iteE h with ⟨k1, h⟩ | ⟨k1, h⟩
  ·obtain ⟨v1, k2, h⟩ := z06 h
   obtain ⟨v2, k3, h⟩ := z06 h
   obtain ⟨v3, k4, h⟩ := z06 h
   obtain rfl := retE h
   exact fin (ok X) 9 [.b true, .e (z3d v1), .o [0, 1, 2, 3, 4, 5, 6, 7, 8, 9, 10, 11, 12, 13, 14, 15, 16, 17, 18, 19, 20], .cp (List.map z1j v2), .l (List.map z2k v3)] (pA k1 (pA (ixm z3d k2) (pA (apm z1q k3) (pA (apm (L := x1.2) (M := [(z33.mk v1.Name v1.Kind v1.Size v1.From v1.To v2)]) zi1 k4) pT)))) (by kernel_rfl)
  ·obtain rfl := retE h
   exact fin (ok X) 2 [.b false] (pA k1 pT) (by kernel_rfl)
 ·cases h
 ·refine adv (ok X) 3 [] pT (by kernel_rfl) ?_
  refine lp (ok X) (za0 a0) (fun (x2 : (Int × (List z3b))) => ⟨124, 0, [(1, [xP 0 0]), (2, [xP 1 0]), (3, [xP 2 0]), (6, [xI x2.1])], [oB 34 (bs (z15 a0)), oB 26 [.emp, .emp, .emp], oB 26 [.row 3, .row 4, .emp], oR true 73 6 (List.map z2k j1), oR true 77 2 (List.map z36 x2.2)]⟩) (fun (j2 : (List z3b)) => ⟨124, 0, [(1, [xP 0 0]), (2, [xP 1 0]), (3, [xP 2 0])], [oB 34 (bs (z15 a0)), oB 26 [.emp, .emp, .emp], oB 26 [.row 3, .row 4, .emp], oR true 73 6 (List.map z2k j1), oR true 77 2 (List.map z36 j2)]⟩) zel (0, []) (fun _ => ⟨_, _, _, _, rfl⟩) h (by kernel_rfl) (fun x2 o h => ?_) (fun r' h => ?_) (fun j2 h => ?_)
  ·unfold za0 at h
   refine adv (ok X) 3 [.i (a0.Rules.length : Int)] (pA (lm z2s a0.Rules) pT) (by kernel_rfl) ?_
   rcases iteE h with ⟨k5, h⟩ | ⟨k5, h⟩
   ·obtain ⟨v4, k6, h⟩ := z06 h
    refine adv (ok X) 9 [.b true, .e (z2s v4)] (pA k5 (pA (ixm z2s k6) pT)) (by kernel_rfl) ?_
    refine lp (ok X) (z9z a0 x2) (fun (x3 : (Int × (List z4h))) => ⟨124, 0, [(1, [xP 0 0]), (2, [xP 1 0]), (3, [xP 2 0]), (6, [xI x2.1]), (7, [xP 5 0]), (8, [xI x3.1])], [oB 34 (bs (z15 a0)), oB 26 [.emp, .emp, .emp], oB 26 [.row 3, .row 4, .emp], oR true 73 6 (List.map z2k j1), oR true 77 2 (List.map z36 x2.2), oB 77 [.pv (.str v4.Chan), .row 6], oR true 111 3 (List.map z4p x3.2)]⟩) (fun (j3 : (List z4h)) => ⟨124, 0, [(1, [xP 0 0]), (2, [xP 1 0]), (3, [xP 2 0]), (6, [xI x2.1]), (7, [xP 5 0])], [oB 34 (bs (z15 a0)), oB 26 [.emp, .emp, .emp], oB 26 [.row 3, .row 4, .emp], oR true 73 6 (List.map z2k j1), oR true 77 2 (List.map z36 x2.2), oB 77 [.pv (.str v4.Chan), .row 6], oR true 111 3 (List.map z4p j3)]⟩) zel (0, []) (fun _ => ⟨_, _, _, _, rfl⟩) h (by kernel_rfl) (fun x3 o h => ?_) (fun r' h => ?_) (fun j3 h => ?_)
    ·unfold z9z at h
     obtain ⟨v5, k7, h⟩ := z06 h
     refine adv (ok X) 3 [.e (z2s v5), .i (v5.Moves.length : Int)] (pA (ixm z2s k7) (pA (lm z5y v5.Moves) pT)) (by kernel_rfl) ?_
     rcases iteE h with ⟨k8, h⟩ | ⟨k8, h⟩
     ·obtain ⟨v6, k9, h⟩ := z06 h
      obtain ⟨v7, k10, h⟩ := z06 h
      obtain ⟨v8, k11, h⟩ := z06 h
      obtain rfl := retE h
      exact fin (ok X) 9 [.b true, .e (z2s v6), .e (z5y v7), .l (List.map z4p v8)] (pA k8 (pA (ixm z2s k9) (pA (ixm z5y k10) (pA (apm (L := x3.2) (M := [(z4h.mk v7.From v7.Tag v7.To)]) zi2 k11) pT)))) (by kernel_rfl)
     ·obtain rfl := retE h
      exact fin (ok X) 2 [.b false] (pA k8 pT) (by kernel_rfl)
    ·cases h
    ·obtain ⟨v9, k12, h⟩ := z06 h
     obtain rfl := retE h
     exact fin (ok X) 3 [.z (.fz 6), .l (List.map z36 v9)] (pA (apm (L := x2.2) (M := [(z3b.mk v4.Chan j3)]) zi3 k12) pT) (by kernel_rfl)
   ·obtain rfl := retE h
    exact fin (ok X) 2 [.b false] (pA k5 pT) (by kernel_rfl)
  ·cases h
  ·refine adv (ok X) 3 [] pT (by kernel_rfl) ?_
   refine lp (ok X) (za1 a0) (fun (x4 : (Int × (List z3f))) => ⟨124, 0, [(1, [xP 0 0]), (2, [xP 1 0]), (3, [xP 2 0]), (10, [xI x4.1])], [oB 34 (bs (z15 a0)), oB 26 [.emp, .emp, .emp], oB 26 [.row 3, .row 4, .row 5], oR true 73 6 (List.map z2k j1), oR true 77 2 (List.map z36 j2), oR true 81 3 (List.map z0v x4.2)]⟩) (fun (j4 : (List z3f)) => ⟨124, 0, [(2, [xP 1 0]), (3, [xP 2 0])], [none, oB 26 [.emp, .emp, .emp], oB 26 [.row 3, .row 4, .row 5], oR true 73 6 (List.map z2k j1), oR true 77 2 (List.map z36 j2), oR true 81 3 (List.map z0v j4)]⟩) zel (0, []) (fun _ => ⟨_, _, _, _, rfl⟩) h (by kernel_rfl) (fun x4 o h => ?_) (fun r' h => ?_) (fun j4 h => ?_)
   ·unfold za1 at h
    refine adv (ok X) 3 [.i (a0.Procs.length : Int)] (pA (lm z3y a0.Procs) pT) (by kernel_rfl) ?_
    rcases iteE h with ⟨k13, h⟩ | ⟨k13, h⟩
    ·obtain ⟨v10, k14, h⟩ := z06 h
     obtain ⟨v11, k15, h⟩ := z06 h
     obtain ⟨v12, k16, h⟩ := z06 h
     obtain ⟨v13, k17, h⟩ := z06 h
     obtain rfl := retE h
     exact fin (ok X) 9 [.b true, .e (z3y v10), .o [0, 1, 2, 3, 4, 5, 6, 7, 8, 9, 10, 11, 12, 13, 14, 15], .cp (List.map z1j v11), .c (z8d v12), .l (List.map z0v v13)] (pA k13 (pA (ixm z3y k14) (pA (apm z1q k15) (pA (zst (X := X) k16) (pA (apm (L := x4.2) (M := [(z3f.mk v10.Name v11 v12)]) zi4 k17) pT))))) (by kernel_rfl)
    ·obtain rfl := retE h
     exact fin (ok X) 2 [.b false] (pA k13 pT) (by kernel_rfl)
   ·cases h
   ·obtain rfl := retE h
    exact fin (ok X) 3 [] pT (by kernel_rfl)

theorem zsu {a0 : (List z4h)} {a1 : (List z4h)} {r : Bool} (h : zgp a0 a1 = some r) : Cv Tryz.prog (GX X) 35 [xL (List.map z4p a0), xL (List.map z4p a1)] (zfv r) := by
 refine Cs.toV (?_ : Cs Tryz.prog (GX X) 35 [xL (List.map z4p a0), xL (List.map z4p a1)] [] (zfv r) (zmg r)) (by kernel_rfl)
 refine fnT (cx := cx X) Tryz.f35 Tryz.call35 Tryz.func35 (by kernel_rfl) ?_
 unfold zgp at h
 refine adv (ok X) 5 [.i (a0.length : Int), .i (a1.length : Int)] (pA (lm z4p a0) (pA (lm z4p a1) pT)) (by kernel_rfl) ?_
 rcases iteE h with ⟨k1, h⟩ | ⟨k1, h⟩
 ·obtain rfl := retE h
  exact fin (ok X) 4 [.b true] (pA k1 pT) (by kernel_rfl)
 ·refine adv (ok X) 5 [.b false, .i (a0.length : Int)] (pA k1 (pA (lm z4p a0) pT)) (by kernel_rfl) ?_
  refine lp (ok X) (zbk a0 a1) (fun (x1 : Int) => ⟨26, 0, [(0, [xL (List.map z4p a0)]), (1, [xL (List.map z4p a1)]), (12, [xI (a0.length : Int)]), (13, [xI x1])], []⟩) (fun (j1 : Unit) => ⟨26, 0, [], []⟩) zsj 0 (fun _ => ⟨_, _, _, _, rfl⟩) h (by kernel_rfl) (fun x1 o h => ?_) (fun r' h => ?_) (fun j1 h => ?_)
  ·unfold zbk at h
   rcases iteE h with ⟨k2, h⟩ | ⟨k2, h⟩
   ·obtain ⟨v1, k3, h⟩ := z06 h
    obtain ⟨v2, k4, h⟩ := z06 h
    refine adv (ok X) 11 [.b true, .o [0, 1, 2, 3, 4, 5, 6, 7, 8], .e (z4p v1), .e (z4p v2)] (pA k2 (pA (ixm z4p k3) (pA (ixm z4p k4) pT))) (by kernel_rfl) ?_
    rcases iteE h with ⟨k5, h⟩ | ⟨k5, h⟩
    ·obtain rfl := retE h
     exact fin (ok X) 4 [.b true] (pA k5 pT) (by kernel_rfl)
    ·obtain rfl := retE h
     exact fin (ok X) 4 [.b false] (pA k5 pT) (by kernel_rfl)
   ·obtain rfl := retE h
    exact fin (ok X) 5 [.b false] (pA k2 pT) (by kernel_rfl)
  ·obtain rfl := retE h
   kernel_rfl
  ·obtain rfl := retE h
   exact fin (ok X) 3 [] pT (by kernel_rfl)

theorem zqz {a0 : z3b} {a1 : z3b} {r : Bool} (h : zhj a0 a1 = some r) : Cv Tryz.prog (GX X) 34 [.agg (bs (z36 a0)), .agg (bs (z36 a1))] (zgq r) := by
 refine Cs.toV (?_ : Cs Tryz.prog (GX X) 34 [.agg (bs (z36 a0)), .agg (bs (z36 a1))] [] (zgq r) (zqt r)) (by kernel_rfl)
 refine fnT (cx := cx X) Tryz.f34 Tryz.call34 Tryz.func34 (by kernel_rfl) ?_
 unfold zhj at h
 rcases iteE h with ⟨k1, h⟩ | ⟨k1, h⟩
 ·obtain ⟨v1, k2, h⟩ := z06 h
  obtain rfl := retE h
  exact fin (ok X) 5 (bT 5 [.c (zfv v1), .b true]) (pR 5 k1 (pA (zsu (X := X) k2) (pA k1 pT))) (by kernel_rfl)
 ·obtain rfl := retE h
  exact fin (ok X) 5 (bF 6 []) (pR 6 k1 pT) (by kernel_rfl)

theorem zg8 {a0 : (List z3b)} {a1 : (List z3b)} {r : Bool} (h : z7a a0 a1 = some r) : Cv Tryz.prog (GX X) 33 [xL (List.map z36 a0), xL (List.map z36 a1), .fn (.func 34) [] []] (z7s r) := by
 refine Cs.toV (?_ : Cs Tryz.prog (GX X) 33 [xL (List.map z36 a0), xL (List.map z36 a1), .fn (.func 34) [] []] [] (z7s r) (zc2 r)) (by kernel_rfl)
 refine fnT (cx := cx X) Tryz.f33 Tryz.call33 Tryz.func33 (by kernel_rfl) ?_
 unfold z7a at h
 refine adv (ok X) 5 [.i (a0.length : Int), .i (a1.length : Int)] (pA (lm z36 a0) (pA (lm z36 a1) pT)) (by kernel_rfl) ?_
 rcases iteE h with ⟨k1, h⟩ | ⟨k1, h⟩
 ·obtain rfl := retE h
  exact fin (ok X) 4 [.b true] (pA k1 pT) (by kernel_rfl)
 ·refine adv (ok X) 5 [.b false, .i (a0.length : Int)] (pA k1 (pA (lm z36 a0) pT)) (by kernel_rfl) ?_
  refine lp (ok X) (z5h a0 a1) (fun (x1 : Int) => ⟨32, 0, [(1, [xL (List.map z36 a1)]), (2, [.fn (.func 34) [] []]), (15, [xL (List.map z36 a0)]), (16, [xI (a0.length : Int)]), (17, [xI x1])], []⟩) (fun (j1 : Unit) => ⟨32, 0, [], []⟩) zg3 0 (fun _ => ⟨_, _, _, _, rfl⟩) h (by kernel_rfl) (fun x1 o h => ?_) (fun r' h => ?_) (fun j1 h => ?_)
  ·unfold z5h at h
   rcases iteE h with ⟨k2, h⟩ | ⟨k2, h⟩
   ·obtain ⟨v1, k3, h⟩ := z06 h
    obtain ⟨v2, k4, h⟩ := z06 h
    obtain ⟨v3, k5, h⟩ := z06 h
    refine adv (ok X) 13 [.b true, .e (z36 v1), .e (z36 v2), .c (zgq v3)] (pA k2 (pA (ixm z36 k3) (pA (ixm z36 k4) (pA (zqz (X := X) k5) pT)))) (by kernel_rfl) ?_
    rcases iteE h with ⟨k6, h⟩ | ⟨k6, h⟩
    ·obtain rfl := retE h
     exact fin (ok X) 4 [.b true] (pA k6 pT) (by kernel_rfl)
    ·obtain rfl := retE h
     exact fin (ok X) 4 [.b false] (pA k6 pT) (by kernel_rfl)
   ·obtain rfl := retE h
    exact fin (ok X) 5 [.b false] (pA k2 pT) (by kernel_rfl)
  ·obtain rfl := retE h
   kernel_rfl
  ·obtain rfl := retE h
   exact fin (ok X) 3 [] pT (by kernel_rfl)

theorem z76 {a0 : (List ByteArray)} {a1 : (List ByteArray)} {r : Bool} (h : z4l a0 a1 = some r) : Cv Tryz.prog (GX X) 38 [xL (List.map z1j a0), xL (List.map z1j a1)] (z40 r) := by
 refine Cs.toV (?_ : Cs Tryz.prog (GX X) 38 [xL (List.map z1j a0), xL (List.map z1j a1)] [] (z40 r) (z94 r)) (by kernel_rfl)
 refine fnT (cx := cx X) Tryz.f38 Tryz.call38 Tryz.func38 (by kernel_rfl) ?_
 unfold z4l at h
 refine adv (ok X) 5 [.i (a0.length : Int), .i (a1.length : Int)] (pA (lm z1j a0) (pA (lm z1j a1) pT)) (by kernel_rfl) ?_
 rcases iteE h with ⟨k1, h⟩ | ⟨k1, h⟩
 ·obtain rfl := retE h
  exact fin (ok X) 4 [.b true] (pA k1 pT) (by kernel_rfl)
 ·refine adv (ok X) 5 [.b false, .i (a0.length : Int)] (pA k1 (pA (lm z1j a0) pT)) (by kernel_rfl) ?_
  refine lp (ok X) (z3w a0 a1) (fun (x1 : Int) => ⟨26, 0, [(0, [xL (List.map z1j a0)]), (1, [xL (List.map z1j a1)]), (12, [xI (a0.length : Int)]), (13, [xI x1])], []⟩) (fun (j1 : Unit) => ⟨26, 0, [], []⟩) zd4 0 (fun _ => ⟨_, _, _, _, rfl⟩) h (by kernel_rfl) (fun x1 o h => ?_) (fun r' h => ?_) (fun j1 h => ?_)
  ·unfold z3w at h
   rcases iteE h with ⟨k2, h⟩ | ⟨k2, h⟩
   ·obtain ⟨v1, k3, h⟩ := z06 h
    obtain ⟨v2, k4, h⟩ := z06 h
    refine adv (ok X) 11 [.b true, .o [0, 1, 2, 3, 4, 5, 6, 7, 8], .e [.str v1], .e [.str v2]] (pA k2 (pA (ixm z1j k3) (pA (ixm z1j k4) pT))) (by kernel_rfl) ?_
    rcases iteE h with ⟨k5, h⟩ | ⟨k5, h⟩
    ·obtain rfl := retE h
     exact fin (ok X) 4 [.b true] (pA k5 pT) (by kernel_rfl)
    ·obtain rfl := retE h
     exact fin (ok X) 4 [.b false] (pA k5 pT) (by kernel_rfl)
   ·obtain rfl := retE h
    exact fin (ok X) 5 [.b false] (pA k2 pT) (by kernel_rfl)
  ·obtain rfl := retE h
   kernel_rfl
  ·obtain rfl := retE h
   exact fin (ok X) 3 [] pT (by kernel_rfl)

theorem zno {n : Nat} (ih_ast_sameExpr : ∀ (a0 : z05) (a1 : z05) (r : Bool), z5i n a0 a1 = some r → Cv Tryz.prog (GX X) 69 [.agg (bs (z38 a0)), .agg (bs (z38 a1))] (z5c r)) (ih_ast_Expr__ast_sameExpr : ∀ (a0 : (List z05)) (a1 : (List z05)) (r : Bool), z2j n a0 a1 = some r → Cv Tryz.prog (GX X) 101 [xL (List.map z14 a0), xL (List.map z14 a1), .fn (.func 69) [] []] (z4m r)) (a0 : z05) (a1 : z05) (r : Bool) (h : z5i (n + 1) a0 a1 = some r) : Cv Tryz.prog (GX X) 69 [.agg (bs (z38 a0)), .agg (bs (z38 a1))] (z5c r) := by
 refine Cs.toV (?_ : Cs Tryz.prog (GX X) 69 [.agg (bs (z38 a0)), .agg (bs (z38 a1))] [] (z5c r) (zne r)) (by kernel_rfl)
 refine fnT (cx := cx X) Tryz.f69 Tryz.call69 Tryz.func69 (by kernel_rfl) ?_
 rw [z5i] at h
 refine adv (ok X) 4 [] pT (by kernel_rfl) ?_
 refine jn (ok X) 1 (fun (j1 : Bool) => ⟨39, 0, [(2, [xP 0 0]), (3, [xP 1 0]), (33, [xB j1])], [oB 103 (bs (z38 a0)), oB 103 (bs (z38 a1))]⟩) h (fun j1 h => ?_) (fun j1 h => ?_)
 ·rcases iteE h with ⟨k1, h⟩ | ⟨k1, h⟩
  ·obtain rfl := retE h
   exact fin (ok X) 1 (bT 12 []) (pR 6 k1 (pR 6 tt pT)) (by kernel_rfl)
  ·rcases iteE h with ⟨k2, h⟩ | ⟨k2, h⟩
   ·rcases iteE h with ⟨k3, h⟩ | ⟨k3, h⟩
    ·obtain rfl := retE h
     exact fin (ok X) 1 (bF 4 (bT 5 (.b false :: .b true :: .b false :: bT 6 []))) (pR 4 k1 (pR 5 k2 (pA k1 (pA k2 (pA k1 (pR 6 k3 pT)))))) (by kernel_rfl)
    ·rcases iteE h with ⟨k4, h⟩ | ⟨k4, h⟩
     ·obtain rfl := retE h
      exact fin (ok X) 1 (bF 4 (bT 5 (.b false :: .b true :: bF 5 (bT 5 [.b false, .b true, .b false])))) (pR 4 k1 (pR 5 k2 (pA k1 (pA k2 (pA k1 (pR 4 k3 (pR 5 k4 (pA k3 (pA k4 (pA k3 pT)))))))))) (by kernel_rfl)
     ·obtain rfl := retE h
      exact fin (ok X) 1 (bF 4 (bT 5 (.b false :: .b true :: bF 13 []))) (pR 4 k1 (pR 5 k2 (pA k1 (pA k2 (pA k1 (pR 4 k3 (pR 5 k4 (pA k3 (pA k4 (pA k3 pT)))))))))) (by kernel_rfl)
   ·rcases iteE h with ⟨k5, h⟩ | ⟨k5, h⟩
    ·obtain rfl := retE h
     exact fin (ok X) 1 (bF 16 (bT 5 [.b false, .b true, .b false])) (pR 4 k1 (pR 5 k2 (pA k1 (pA k2 (pA k1 (pR 4 ff (pR 5 k5 (pA ff (pA k5 (pA ff pT)))))))))) (by kernel_rfl)
    ·obtain rfl := retE h
     exact fin (ok X) 1 (bF 24 []) (pR 4 k1 (pR 5 k2 (pA k1 (pA k2 (pA k1 (pR 4 ff (pR 5 k5 (pA ff (pA k5 (pA ff pT)))))))))) (by kernel_rfl)
 ·rcases iteE h with ⟨k6, h⟩ | ⟨k6, h⟩
  ·obtain rfl := retE h
   exact fin (ok X) 4 [.b true] (pA k6 pT) (by kernel_rfl)
  ·obtain ⟨v1, k7, h⟩ := z06 h
   obtain rfl := retE h
   exact fin (ok X) 5 [.b false, .c (z4m v1)] (pA k6 (pA (ih_ast_Expr__ast_sameExpr _ _ _ k7) pT)) (by kernel_rfl)

theorem zf8 {n : Nat} (ih_ast_sameExpr : ∀ (a0 : z05) (a1 : z05) (r : Bool), z5i n a0 a1 = some r → Cv Tryz.prog (GX X) 69 [.agg (bs (z38 a0)), .agg (bs (z38 a1))] (z5c r)) (ih_ast_Expr__ast_sameExpr : ∀ (a0 : (List z05)) (a1 : (List z05)) (r : Bool), z2j n a0 a1 = some r → Cv Tryz.prog (GX X) 101 [xL (List.map z14 a0), xL (List.map z14 a1), .fn (.func 69) [] []] (z4m r)) (a0 : (List z05)) (a1 : (List z05)) (r : Bool) (h : z2j (n + 1) a0 a1 = some r) : Cv Tryz.prog (GX X) 101 [xL (List.map z14 a0), xL (List.map z14 a1), .fn (.func 69) [] []] (z4m r) := by
 refine Cs.toV (?_ : Cs Tryz.prog (GX X) 101 [xL (List.map z14 a0), xL (List.map z14 a1), .fn (.func 69) [] []] [] (z4m r) (zbl r)) (by kernel_rfl)
 refine fnT (cx := cx X) Tryz.f101 Tryz.call101 Tryz.func101 (by kernel_rfl) ?_
 rw [z2j] at h
 refine adv (ok X) 5 [.i (a0.length : Int), .i (a1.length : Int)] (pA (lm z14 a0) (pA (lm z14 a1) pT)) (by kernel_rfl) ?_
 rcases iteE h with ⟨k1, h⟩ | ⟨k1, h⟩
 ·obtain rfl := retE h
  exact fin (ok X) 4 [.b true] (pA k1 pT) (by kernel_rfl)
 ·refine adv (ok X) 5 [.b false, .i (a0.length : Int)] (pA k1 (pA (lm z14 a0) pT)) (by kernel_rfl) ?_
  refine lp (ok X) (z4u (z5i n) (z2j n) a0 a1) (fun (x1 : Int) => ⟨32, 0, [(1, [xL (List.map z14 a1)]), (2, [.fn (.func 69) [] []]), (15, [xL (List.map z14 a0)]), (16, [xI (a0.length : Int)]), (17, [xI x1])], []⟩) (fun (j1 : Unit) => ⟨32, 0, [], []⟩) zf2 0 (fun _ => ⟨_, _, _, _, rfl⟩) h (by kernel_rfl) (fun x1 o h => ?_) (fun r' h => ?_) (fun j1 h => ?_)
  ·unfold z4u at h
   rcases iteE h with ⟨k2, h⟩ | ⟨k2, h⟩
   ·obtain ⟨v1, k3, h⟩ := z06 h
    obtain ⟨v2, k4, h⟩ := z06 h
    obtain ⟨v3, k5, h⟩ := z06 h
    refine adv (ok X) 13 [.b true, .e (z38 v1), .e (z38 v2), .c (z5c v3)] (pA k2 (pA (ixr z5v k3) (pA (ixr z5v k4) (pA (ih_ast_sameExpr _ _ _ k5) pT)))) (by kernel_rfl) ?_
    rcases iteE h with ⟨k6, h⟩ | ⟨k6, h⟩
    ·obtain rfl := retE h
     exact fin (ok X) 4 [.b true] (pA k6 pT) (by kernel_rfl)
    ·obtain rfl := retE h
     exact fin (ok X) 4 [.b false] (pA k6 pT) (by kernel_rfl)
   ·obtain rfl := retE h
    exact fin (ok X) 5 [.b false] (pA k2 pT) (by kernel_rfl)
  ·obtain rfl := retE h
   kernel_rfl
  ·obtain rfl := retE h
   exact fin (ok X) 3 [] pT (by kernel_rfl)
end Go.Proofs.YtokjbpmjdcbogaaGreatDoor.Abs
